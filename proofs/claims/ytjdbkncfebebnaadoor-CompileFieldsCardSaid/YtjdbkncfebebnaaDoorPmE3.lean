/- The reference's names. The code's names: a round of the range. The code's names: visit. The code's Variables, first part. The code's Variables. -/
import Derived.Test.YtjdbkncfebebnaaDoorPmEt
import Derived.Test.YtjdbkncfebebnaaDoorPmTb14
set_option linter.unusedSimpArgs false
set_option linter.unusedVariables false
section SE3
namespace Go.Pm
open F
inductive NmSt : S -> V -> S -> Nat -> List ByteArray -> Ob -> Prop
 | a (l : List ByteArray) (x : Ob) : NmSt [] (.dat (strD l)) [x] 0 l x
 | b (l : List ByteArray) (x : Ob) (m : Nat) (h : l ≠ []) : NmSt [] (.gsl (strC l) l.length 1 0) [.tip m, x] 1 l x
abbrev boxO (k n : Int) (s : ByteArray) (d : D) : Ob := .cells [.int k, .int n, .str s, .dat d]
end Go.Pm
end SE3
section SE4
namespace Go.Pm
open F
attribute [local simp] dkey
def mapM : Nat -> List ByteArray -> List (Value × V)
 | _, [] => []
 | i, s :: l => (.string s, .int i) :: mapM (i + 1) l
theorem find_mapM (s : ByteArray) : ∀ (l : List ByteArray) (i : Nat), (s ∉ l -> findE .s (.string s) (mapM i l) = some none) /\ (s ∈ l -> ∃ j : Nat, findE .s (.string s) (mapM i l) = some (some (.int j)))
 | [], i => by simp [mapM, findE]
 | x :: l, i => by
   have ih := find_mapM s l (i + 1)
   by_cases h : s = x
   · subst h
     exact ⟨fun hn => absurd (List.mem_cons_self ..) hn, fun _ => ⟨i, by simp [mapM, findE, sameKey]⟩⟩
   · have hb : (s == x) = false := by rw [bytes_beq]; exact decide_eq_false h
     refine ⟨fun hn => ?_, fun hm => ?_⟩
     · have := ih.1 (fun hm => hn (List.mem_cons_of_mem _ hm))
       simp [mapM, findE, sameKey, hb, this]
     · obtain ⟨j, hj⟩ := ih.2 ((List.mem_cons.1 hm).resolve_left h)
       exact ⟨j, by simp [mapM, findE, sameKey, hb, hj]⟩
theorem set_mapM (s : ByteArray) : ∀ (l : List ByteArray) (i : Nat), s ∉ l -> setE .s (.string s) (.int (i + l.length : Nat)) (mapM i l) = some (mapM i (l ++ [s]))
 | [], i, _ => by simp [mapM, setE]
 | x :: l, i, hn => by
   have h : s ≠ x := fun h => hn (h ▸ List.mem_cons_self ..)
   have hb : (s == x) = false := by rw [bytes_beq]; exact decide_eq_false h
   have ih := set_mapM s l (i + 1) (fun hm => hn (List.mem_cons_of_mem _ hm))
   rw [show i + 1 + l.length = i + (l.length + 1) by omega] at ih
   simp only [List.length_cons, List.cons_append, mapM, setE, sameKey, hb, ih]
theorem locs_mapM : ∀ (l : List ByteArray) (i : Nat), locsE (mapM i l) = []
 | [], i => rfl
 | x :: l, i => by simp [mapM, locs_mapM l]
theorem ren_mapM (r : Nat -> Nat) : ∀ (l : List ByteArray) (i : Nat), renE r (mapM i l) = mapM i l
 | [], i => rfl
 | x :: l, i => by simp [mapM, ren_mapM r l]
attribute [local simp] locs_mapM ren_mapM dkey
abbrev lpO (r : D) (i : Int) : Ob := .loop ⟨[(3, .ptr 1 0), (4, .ptr 2 0), (12, .dat r), (13, .int i), (17, .fn 38 [] [.ptr 3 0])], [18], F15a0, F15b0, 0, none⟩
abbrev S0 (r : D) (j : Int) (bx : Ob) : S := [lpO r j, .cells [.dat (.lit (.slice none 0 0))], .cells [.mp 4], bx, .map []]
abbrev S01 (r : D) (j : Int) (bx : Ob) (l : List ByteArray) : S := [lpO r j, .cells [.gsl (strC l) l.length 1 5], .cells [.mp 4], bx, .map (mapM 0 l), .tip l.length]
abbrev S1 (r : D) (j : Int) (bx : Ob) (l : List ByteArray) : S := [lpO r j, .cells [.gsl (strC l) l.length 1 4], .cells [.mp 5], bx, .tip l.length, .map (mapM 0 l)]
section
variable {k n k0 n0 : Int} {s s0 : ByteArray} {f f0 : Bool} {ks : Fo} {d0 : D} {r : D} {j : Int} {l : List ByteArray}
theorem rd_skip0 (h1 : k ≠ 1) (h2 : k ≠ 10) : Z base14v (.round [.yld 0, nd k n s f ks] (S0 r j (boxO k0 n0 s0 d0))) = some (.ret (.bool true) (S0 r j (boxO k0 n0 s0 d0))) := by
 rw [Z_round_eq]
 simp [runRound, flat_F15a0, flat_F15b0, run_F15a0, run_F15b0, putAll, h1, h2, Lp.ended, Ex.isNormal, boxO, List.range_succ]
theorem rd_skip1 (h1 : k ≠ 1) (h2 : k ≠ 10) : Z base14v (.round [.yld 0, nd k n s f ks] (S1 r j (boxO k0 n0 s0 d0) l)) = some (.ret (.bool true) (S1 r j (boxO k0 n0 s0 d0) l)) := by
 rw [Z_round_eq]
 simp [runRound, flat_F15a0, flat_F15b0, run_F15a0, run_F15b0, putAll, h1, h2, Lp.ended, Ex.isNormal, boxO, List.range_succ]
theorem rd_dup1 (hk : k = 1 \/ k = 10) (hs : s ∈ l) : Z base14v (.round [.yld 0, nd k n s f ks] (S1 r j (boxO k0 n0 s0 d0) l)) = some (.ret (.bool true) (S1 r j (boxO k0 n0 s0 d0) l)) := by
 obtain ⟨q, hq⟩ := (find_mapM s l 0).2 hs
 rw [Z_round_eq]
 rcases hk with rfl | rfl <;> simp [runRound, flat_F15a0, flat_F15b0, run_F15a0, run_F15b0, putAll, hq, keyOk, Lp.ended, Ex.isNormal, boxO, List.range_succ]
theorem rd_add0 (hk : k = 1 \/ k = 10) : Z base14v (.round [.yld 0, nd k n s f ks] (S0 r j (boxO k0 n0 s0 d0))) = some (.ret (.bool true) (S01 r j (boxO k0 n0 s0 d0) [s])) := by
 rw [Z_round_eq]
 rcases hk with rfl | rfl <;> simp [runRound, flat_F15a0, flat_F15b0, run_F15a0, run_F15b0, putAll, findE, setE, mapM, strC_one, keyOk, Lp.ended, Ex.isNormal, boxO, List.range_succ, V.len, appendV, srcV, roomFor]
theorem rd_add1 (hk : k = 1 \/ k = 10) (hs : s ∉ l) (h0 : l ≠ []) (hl : l.length < 2^30) : Z base14v (.round [.yld 0, nd k n s f ks] (S1 r j (boxO k0 n0 s0 d0) l)) = some (.ret (.bool true) (S1 r j (boxO k0 n0 s0 d0) (l ++ [s]))) := by
 have hq := (find_mapM s l 0).1 hs
 have hs' := set_mapM s l 0 hs
 rw [Nat.zero_add] at hs'
 have r2 : roomFor (l.length + 1) 16 = true := by simp [roomFor]; omega
 rw [Z_round_eq]
 rcases hk with rfl | rfl <;> simp [runRound, flat_F15a0, flat_F15b0, run_F15a0, run_F15b0, putAll, hq, hs', strC_app, strC_one, keyOk, Lp.ended, Ex.isNormal, boxO, List.range_succ, V.len, appendV, srcV, r2]
theorem rd0 : ∃ S', Z base14v (.round [.yld 0, nd k n s f ks] (S0 r j (boxO k0 n0 s0 d0))) = some (.ret (.bool true) S') /\
   ((addAll [] (if k = 1 \/ k = 10 then [s] else []) = [] /\ S' = S0 r j (boxO k0 n0 s0 d0)) \/ (addAll [] (if k = 1 \/ k = 10 then [s] else []) ≠ [] /\ S' = S01 r j (boxO k0 n0 s0 d0) (addAll [] (if k = 1 \/ k = 10 then [s] else [])))) := by
 by_cases hk : k = 1 \/ k = 10
 · simp only [if_pos hk]
   exact ⟨_, rd_add0 hk, .inr ⟨by simp [addAll, addN], rfl⟩⟩
 · simp only [if_neg hk]
   exact ⟨_, rd_skip0 (by omega) (by omega), .inl ⟨rfl, rfl⟩⟩
theorem rd1 (h0 : l ≠ []) (hl : l.length < 2^30) : Z base14v (.round [.yld 0, nd k n s f ks] (S1 r j (boxO k0 n0 s0 d0) l)) = some (.ret (.bool true) (S1 r j (boxO k0 n0 s0 d0) (addAll l (if k = 1 \/ k = 10 then [s] else [])))) := by
 by_cases hk : k = 1 \/ k = 10
 · simp only [if_pos hk, addAll, List.foldl_cons, List.foldl_nil, addN]
   by_cases hs : s ∈ l
   · rw [if_pos hs]; exact rd_dup1 hk hs
   · rw [if_neg hs]; exact rd_add1 hk hs h0 hl
 · simp only [if_neg hk]
   exact rd_skip1 (by omega) (by omega)
end
end Go.Pm
end SE4
section SE5
namespace Go.Pm
open F
attribute [local simp] locs_mapM ren_mapM dkey
section
variable {k n k0 n0 : Int} {s s0 : ByteArray} {f fl : Bool} {ks : Fo} {d0 d : D} {r : D} {j : Int} {l l1 l2 : List ByteArray} {i N : Nat} {cs c4 : List D}
abbrev vsFr (d : D) (N i : Nat) : Fr := [(1, .yld 0), (12, .dat d), (13, .int N), (14, .int i)]
abbrev vsOut (d : D) (N : Nat) (S' : S) : Option Res := some (.out (.exit 0) [(1, .yld 0), (12, .dat d), (13, .int N), (14, .int N), (15, .bool false)] S')
def Got (r : D) (j : Int) (bx : Ob) (l : List ByteArray) (S' : S) : Prop := (l = [] /\ S' = S0 r j bx) \/ (l ≠ [] /\ S' = S01 r j bx l)
theorem vs_endA (h1 : V.one (.dat d) = true) (h2 : V.cells (.dat d) = [.dat d]) : Z base14v (.loop 5 F39l0 (vsFr d N N) (S0 r j (boxO k0 n0 s0 d0))) = vsOut d N (S0 r j (boxO k0 n0 s0 d0)) := by
 rw [Z_loop_eq]
 simp [loopStep, run_F39l0, boxO, List.range_succ]
theorem vs_endB (h1 : V.one (.dat d) = true) (h2 : V.cells (.dat d) = [.dat d]) : Z base14v (.loop 5 F39l0 (vsFr d N N) (S01 r j (boxO k0 n0 s0 d0) l)) = vsOut d N (S01 r j (boxO k0 n0 s0 d0) l) := by
 rw [Z_loop_eq]
 simp [loopStep, run_F39l0, boxO, List.range_succ]
theorem vs_endC (h1 : V.one (.dat d) = true) (h2 : V.cells (.dat d) = [.dat d]) : Z base14v (.loop 6 F39l0 (vsFr d N N) (S1 r j (boxO k0 n0 s0 d0) l)) = vsOut d N (S1 r j (boxO k0 n0 s0 d0) l) := by
 rw [Z_loop_eq]
 simp [loopStep, run_F39l0, boxO, List.range_succ]
def VisOK (r : D) (j : Int) (bx : Ob) (nv : V) (xs : List ByteArray) : Prop :=
 (∃ S', Z base14v (.call 39 [nv, .yld 0] (S0 r j bx)) = some (.ret (.bool true) S') /\ Got r j bx (addAll [] xs) S') /\
 ∀ l, l ≠ [] -> l.length + xs.length < 2^29 -> Z base14v (.call 39 [nv, .yld 0] (S1 r j bx l)) = some (.ret (.bool true) (S1 r j bx (addAll l xs)))
def VisLoop (r : D) (j : Int) (bx : Ob) (d : D) (N i : Nat) (xs : List ByteArray) : Prop :=
 (∃ S', Z base14v (.loop 5 F39l0 (vsFr d N i) (S0 r j bx)) = vsOut d N S' /\ Got r j bx (addAll [] xs) S') /\
 (∀ l, l ≠ [] -> l.length + xs.length < 2^29 -> Z base14v (.loop 5 F39l0 (vsFr d N i) (S01 r j bx l)) = vsOut d N (S01 r j bx (addAll l xs))) /\
 (∀ l, l ≠ [] -> l.length + xs.length < 2^29 -> Z base14v (.loop 6 F39l0 (vsFr d N i) (S1 r j bx l)) = vsOut d N (S1 r j bx (addAll l xs)))
theorem addAll_ne (xs : List ByteArray) (h : l ≠ []) : addAll l xs ≠ [] := by
 have h1 := (addAll_len xs l).1
 intro he
 rw [he] at h1
 exact h (List.eq_nil_of_length_eq_zero (Nat.le_zero.1 h1))
theorem vis_step (hc : cs.drop (i * 4) = .lit (.int .i64 k) :: .lit (.int .i64 n) :: .lit (.string s) :: kd f ks.len ks.cells :: c4) (hi : i < N) (hN : N < 2^40) {xs ys : List ByteArray} (hx : xs.length + ys.length < 2^28)
   (hw : VisOK r j (boxO k0 n0 s0 d0) (nd k n s f ks) xs) (ih : VisLoop r j (boxO k0 n0 s0 d0) (.sl cs N fl) N (i + 1) ys) : VisLoop r j (boxO k0 n0 s0 d0) (.sl cs N fl) N i (xs ++ ys) := by
 have h4 := cut4 hc
 have w1 := wrap64 ((i : Int) + 1) (by omega)
 have hi' : (i : Int) < N := by omega
 obtain ⟨⟨S', hw0, hg⟩, hw1⟩ := hw
 obtain ⟨⟨T, ha, hT⟩, hb, hc'⟩ := ih
 have hlen := addAll_len xs []
 simp only [List.length_nil, Nat.zero_add] at hlen
 refine ⟨?_, fun l hl hb' => ?_, fun l hl hb' => ?_⟩
 · rw [addAll_app]
   rcases hg with ⟨he, rfl⟩ | ⟨he, rfl⟩
   · rw [he]
     refine ⟨T, ?_, hT⟩
     rw [Z_loop_eq, <- ha]
     simp only [boxO, S0, S01] at hw0
     simp [loopStep, run_F39l0, hi, hi', sliceAddr, h4, hw0, w1, V.len, boxO, List.range_succ]
     exact Z_loop_cong (by simp [List.range_succ])
   · refine ⟨_, ?_, .inr ⟨addAll_ne _ he, rfl⟩⟩
     have hb1 := hb (addAll [] xs) he (by omega)
     rw [Z_loop_eq, <- hb1]
     simp only [boxO, S0, S01] at hw0
     simp [loopStep, run_F39l0, hi, hi', sliceAddr, h4, hw0, w1, V.len, boxO, List.range_succ]
     exact Z_loop_cong (by simp [List.range_succ])
 · rw [List.length_append] at hb'
   have hl2 := addAll_len xs l
   have hb1 := hb (addAll l xs) (addAll_ne _ hl) (by omega)
   have hw2 := hw1 l hl (by omega)
   rw [addAll_app, Z_loop_eq, <- hb1]
   simp only [boxO, S1] at hw2
   simp [loopStep, run_F39l0, hi, hi', sliceAddr, h4, hw2, w1, V.len, boxO, List.range_succ]
   exact Z_loop_cong (by simp [List.range_succ])
 · rw [List.length_append] at hb'
   have hl2 := addAll_len xs l
   have hb1 := hc' (addAll l xs) (addAll_ne _ hl) (by omega)
   have hw2 := hw1 l hl (by omega)
   rw [addAll_app, Z_loop_eq, <- hb1]
   simp only [boxO, S1] at hw2
   simp [loopStep, run_F39l0, hi, hi', sliceAddr, h4, hw2, w1, V.len, boxO, List.range_succ]
   exact Z_loop_cong (by simp [List.range_succ])
theorem vis_node (hx : ks.vars.length < 2^28) (h : VisLoop r j (boxO k0 n0 s0 d0) (kd f ks.len ks.cells) ks.len 0 ks.vars) : VisOK r j (boxO k0 n0 s0 d0) (nd k n s f ks) ((if k = 1 \/ k = 10 then [s] else []) ++ ks.vars) := by
 obtain ⟨⟨T, ha, hT⟩, hb, hc⟩ := h
 have h4 : (if k = 1 \/ k = 10 then [s] else []).length <= 1 := by split <;> simp
 refine ⟨?_, fun l hl hb' => ?_⟩
 · obtain ⟨S', hr, hS⟩ := rd0 (k := k) (n := n) (s := s) (f := f) (ks := ks) (r := r) (j := j) (k0 := k0) (n0 := n0) (s0 := s0) (d0 := d0)
   have hlen := addAll_len (if k = 1 \/ k = 10 then [s] else []) []
   simp only [List.length_nil, Nat.zero_add] at hlen
   rw [addAll_app]
   rcases hS with ⟨he, rfl⟩ | ⟨he, rfl⟩
   · rw [he]
     refine ⟨T, ?_, hT⟩
     refine Z_call (pf := F39) rfl rfl ?_
     have ha' := (Z_loop_cong (k := 5) (b := F39l0) (fr := vsFr (kd f ks.len ks.cells) ks.len 0) (σ := S0 r j (boxO k0 n0 s0 d0) ++ [boxO k n s (kd f ks.len ks.cells)]) (by simp [boxO, List.range_succ])).trans ha
     simp only [boxO, vsFr, vsOut, lpO, S0, S01, S1, List.cons_append, List.nil_append, show ((0 : Nat) : Int) = 0 from rfl] at hr ha'
     rcases hT with ⟨hT, rfl⟩ | ⟨hT, rfl⟩ <;> simp [F39, hr, ha', boxO, S0, S01, lpO, List.range_succ]
   · refine ⟨S01 r j (boxO k0 n0 s0 d0) (addAll (addAll [] (if k = 1 \/ k = 10 then [s] else [])) ks.vars), ?_, .inr ⟨addAll_ne _ he, rfl⟩⟩
     generalize addAll [] (if k = 1 \/ k = 10 then [s] else []) = l at *
     have hb1 := hb l he (by omega)
     refine Z_call (pf := F39) rfl rfl ?_
     have ha' := (Z_loop_cong (k := 5) (b := F39l0) (fr := vsFr (kd f ks.len ks.cells) ks.len 0) (σ := [lpO r j, .cells [.gsl (strC l) l.length 1 6], .cells [.mp 4], boxO k0 n0 s0 d0, .map (mapM 0 l), boxO k n s (kd f ks.len ks.cells), .tip l.length]) (by simp [boxO, List.range_succ])).trans hb1
     simp only [boxO, vsFr, vsOut, lpO, S0, S01, S1, List.cons_append, List.nil_append, show ((0 : Nat) : Int) = 0 from rfl] at hr ha'
     simp [F39, hr, ha', boxO, S0, S01, lpO, List.range_succ]
 · rw [List.length_append] at hb'
   have hl2 := addAll_len (if k = 1 \/ k = 10 then [s] else []) l
   have hr := rd1 (k := k) (n := n) (s := s) (f := f) (ks := ks) (r := r) (j := j) (k0 := k0) (n0 := n0) (s0 := s0) (d0 := d0) hl (by omega)
   have he := addAll_ne (if k = 1 \/ k = 10 then [s] else []) hl
   rw [addAll_app]
   generalize addAll l (if k = 1 \/ k = 10 then [s] else []) = l' at *
   have hc1 := hc l' he (by omega)
   refine Z_call (pf := F39) rfl rfl ?_
   have ha' := (Z_loop_cong (k := 6) (b := F39l0) (fr := vsFr (kd f ks.len ks.cells) ks.len 0) (σ := S1 r j (boxO k0 n0 s0 d0) l' ++ [boxO k n s (kd f ks.len ks.cells)]) (by simp [boxO, List.range_succ])).trans hc1
   simp only [boxO, vsFr, vsOut, lpO, S0, S01, S1, List.cons_append, List.nil_append, show ((0 : Nat) : Int) = 0 from rfl] at hr ha'
   simp [F39, hr, ha', boxO, S0, S01, lpO, List.range_succ]
end
end Go.Pm
end SE5
section SE6
namespace Go.Pm
open F
attribute [local simp] locs_mapM ren_mapM dkey
theorem visLoop_nil {r : D} {j k0 n0 : Int} {s0 : ByteArray} {d0 d : D} {N : Nat} (h1 : V.one (.dat d) = true) (h2 : V.cells (.dat d) = [.dat d]) : VisLoop r j (boxO k0 n0 s0 d0) d N N [] :=
 ⟨⟨_, vs_endA h1 h2, .inl ⟨rfl, rfl⟩⟩, fun _ _ _ => vs_endB h1 h2, fun _ _ _ => vs_endC h1 h2⟩
theorem vis_fo {r : D} {j k0 n0 : Int} {s0 : ByteArray} {d0 : D} : ∀ (a : Fo) (i : Nat) (cs : List D) (N : Nat) (fl : Bool), cs.drop (i * 4) = a.cells -> N = i + a.len -> i + 2 * a.size < 2^27 ->
   VisLoop r j (boxO k0 n0 s0 d0) (.sl cs N fl) N i a.vars
 | .nil, i, cs, N, fl, hc, hN, hb => by
   simp only [fo_len_nil, Nat.add_zero] at hN
   subst hN
   exact visLoop_nil rfl rfl
 | .cons k n s f ks rr, i, cs, N, fl, hc, hN, hb => by
   simp only [fo_cells_cons, fo_len_cons, fo_size_cons] at hc hN hb
   have h1 := fo_len_size rr
   have h2 := vars_len ks
   have h3 := vars_len rr
   have h4 : (if k = 1 \/ k = 10 then [s] else []).length <= 1 := by split <;> simp
   have hk : VisLoop r j (boxO k0 n0 s0 d0) (kd f ks.len ks.cells) ks.len 0 ks.vars := by
     cases hz : ks.len with
     | zero =>
       have hn : ks = .nil := by cases ks <;> simp at hz; rfl
       subst hn
       exact visLoop_nil (by simp) (by simp)
     | succ m =>
       rw [kd_s, <- hz]
       exact vis_fo ks 0 ks.cells ks.len f rfl (by omega) (by omega)
   have e : (Fo.cons k n s f ks rr).vars = ((if k = 1 \/ k = 10 then [s] else []) ++ ks.vars) ++ rr.vars := by rw [Fo.vars, List.append_assoc]
   rw [e]
   exact vis_step hc (by omega) (by omega) (by rw [List.length_append]; omega) (vis_node (by omega) hk) (vis_fo rr (i + 1) cs N fl (drop_next hc) (by omega) (by omega))
theorem vis_Z {r : D} {j k0 n0 : Int} {s0 : ByteArray} {d0 : D} (k n : Int) (s : ByteArray) (f : Bool) (ks : Fo) (hb : ks.size < 2^25) : VisOK r j (boxO k0 n0 s0 d0) (nd k n s f ks) ((if k = 1 \/ k = 10 then [s] else []) ++ ks.vars) := by
 have h2 := vars_len ks
 refine vis_node (by omega) ?_
 cases hz : ks.len with
 | zero =>
   have hn : ks = .nil := by cases ks <;> simp at hz; rfl
   subst hn
   exact visLoop_nil (by simp) (by simp)
 | succ m =>
   rw [kd_s, <- hz]
   exact vis_fo ks 0 ks.cells ks.len f rfl (by omega) (by omega)
abbrev lp38 (r : D) (i : Int) : Ob := .loop ⟨[(3, .ptr 2 0), (4, .ptr 3 0), (12, .dat r), (13, .int i), (17, .fn 38 [] [.ptr 1 0])], [18], F15a0, F15b0, 0, none⟩
abbrev T0 (r : D) (j : Int) (bx : Ob) : S := [lp38 r j, bx, .cells [.dat (.lit (.slice none 0 0))], .cells [.mp 4], .map []]
abbrev T01 (r : D) (j : Int) (bx : Ob) (l : List ByteArray) : S := [lp38 r j, bx, .cells [.gsl (strC l) l.length 1 5], .cells [.mp 4], .map (mapM 0 l), .tip l.length]
abbrev T1 (r : D) (j : Int) (bx : Ob) (l : List ByteArray) : S := [lp38 r j, bx, .cells [.gsl (strC l) l.length 1 4], .cells [.mp 5], .tip l.length, .map (mapM 0 l)]
section
variable {r : D} {j : Int} {k n : Int} {s : ByteArray} {f : Bool} {ks : Fo} {xs : List ByteArray}
theorem n38_0 (h : VisOK r j (boxO k n s (kd f ks.len ks.cells)) (nd k n s f ks) xs) : ∃ S', Z base14v (.call 38 [.yld 0, .ptr 1 0] (T0 r j (boxO k n s (kd f ks.len ks.cells)))) = some (.ret (.tup []) S') /\
   ((addAll [] xs = [] /\ S' = T0 r j (boxO k n s (kd f ks.len ks.cells))) \/ (addAll [] xs ≠ [] /\ S' = T01 r j (boxO k n s (kd f ks.len ks.cells)) (addAll [] xs))) := by
 obtain ⟨⟨S', h1, hg⟩, -⟩ := h
 simp only [boxO, S0, lpO] at h1
 rcases hg with ⟨he, rfl⟩ | ⟨he, rfl⟩
 · refine ⟨_, ?_, .inl ⟨he, rfl⟩⟩
   refine Z_call (pf := F38) rfl rfl ?_
   simp [F38, h1, boxO, S0, lpO, List.range_succ]
 · refine ⟨_, ?_, .inr ⟨he, rfl⟩⟩
   refine Z_call (pf := F38) rfl rfl ?_
   simp [F38, h1, boxO, S01, lpO, List.range_succ]
theorem n38_1 (h : VisOK r j (boxO k n s (kd f ks.len ks.cells)) (nd k n s f ks) xs) {l : List ByteArray} (hl : l ≠ []) (hb : l.length + xs.length < 2^29) : Z base14v (.call 38 [.yld 0, .ptr 1 0] (T1 r j (boxO k n s (kd f ks.len ks.cells)) l)) = some (.ret (.tup []) (T1 r j (boxO k n s (kd f ks.len ks.cells)) (addAll l xs))) := by
 have h1 := h.2 l hl hb
 simp only [boxO, S1, lpO] at h1
 refine Z_call (pf := F38) rfl rfl ?_
 simp [F38, h1, boxO, S1, lpO, List.range_succ]
theorem n32_Z : Z base14v (.call 32 [nd k n s f ks] []) = some (.ret (.fn 38 [] [.ptr 0 0]) [boxO k n s (kd f ks.len ks.cells)]) := by
 refine Z_call (pf := F32) rfl rfl ?_
 simp [F32, boxO]
end
end Go.Pm
end SE6
section SE7
namespace Go.Pm
open F
attribute [local simp] locs_mapM ren_mapM dkey Ex.isPan
abbrev vfr (r : D) (i : Int) : Fr := [(3, .ptr 0 0), (4, .ptr 1 0), (12, .dat r), (13, .int i)]
abbrev U0 : S := [.cells [.dat (.lit (.slice none 0 0))], .cells [.mp 2], .map []]
abbrev U1 (l : List ByteArray) : S := [.cells [.gsl (strC l) l.length 1 2], .cells [.mp 3], .tip l.length, .map (mapM 0 l)]
section
variable {a b c : Nd}
theorem v0_step0 (hb : a.ks.size < 2^25) : Z base14v (.loop 0 F15l0 (vfr (ru a b c) 0) U0) = if addAll [] a.vars = [] then Z base14v (.loop 0 F15l0 (vfr (ru a b c) 1) U0) else Z base14v (.loop 0 F15l0 (vfr (ru a b c) 1) (U1 (addAll [] a.vars))) := by
 have hv := vis_Z (r := ru a b c) (j := 0) (k0 := a.k) (n0 := a.n) (s0 := a.s) (d0 := a.d) a.k a.n a.s a.f a.ks hb
 obtain ⟨S', h1, h2⟩ := n38_0 hv
 have h3 := n32_Z (k := a.k) (n := a.n) (s := a.s) (f := a.f) (ks := a.ks)
 have w1 := wrap64 1 (by omega)
 rw [show (if a.k = 1 \/ a.k = 10 then [a.s] else []) ++ a.ks.vars = a.vars from rfl] at h2
 simp only [boxO, T0, lp38, ru, Nd.d] at h1 h3
 conv => lhs; rw [Z_loop_eq]
 rcases h2 with ⟨he, rfl⟩ | ⟨he, rfl⟩
 · rw [if_pos he]
   simp [loopStep, run_F15l0, h3, h1, w1, flat_F15a0, flat_F15b0, boxO, T0, lp38, List.range_succ]
   refine Z_loop_cong ?_
   simp [List.range_succ]
 · rw [if_neg he]
   simp [loopStep, run_F15l0, h3, h1, w1, flat_F15a0, flat_F15b0, boxO, T01, lp38, List.range_succ]
   refine Z_loop_cong ?_
   simp [List.range_succ]
theorem v0_step1 (hb : b.ks.size < 2^25) : Z base14v (.loop 0 F15l0 (vfr (ru a b c) 1) U0) = if addAll [] b.vars = [] then Z base14v (.loop 0 F15l0 (vfr (ru a b c) 2) U0) else Z base14v (.loop 0 F15l0 (vfr (ru a b c) 2) (U1 (addAll [] b.vars))) := by
 have hv := vis_Z (r := ru a b c) (j := 1) (k0 := b.k) (n0 := b.n) (s0 := b.s) (d0 := b.d) b.k b.n b.s b.f b.ks hb
 obtain ⟨S', h1, h2⟩ := n38_0 hv
 have h3 := n32_Z (k := b.k) (n := b.n) (s := b.s) (f := b.f) (ks := b.ks)
 have w1 := wrap64 2 (by omega)
 rw [show (if b.k = 1 \/ b.k = 10 then [b.s] else []) ++ b.ks.vars = b.vars from rfl] at h2
 simp only [boxO, T0, lp38, ru, Nd.d] at h1 h3
 conv => lhs; rw [Z_loop_eq]
 rcases h2 with ⟨he, rfl⟩ | ⟨he, rfl⟩
 · rw [if_pos he]
   simp [loopStep, run_F15l0, h3, h1, w1, flat_F15a0, flat_F15b0, boxO, T0, lp38, List.range_succ]
   refine Z_loop_cong ?_
   simp [List.range_succ]
 · rw [if_neg he]
   simp [loopStep, run_F15l0, h3, h1, w1, flat_F15a0, flat_F15b0, boxO, T01, lp38, List.range_succ]
   refine Z_loop_cong ?_
   simp [List.range_succ]
theorem v1_step1 {l : List ByteArray} (hb : b.ks.size < 2^25) (hl : l ≠ []) (hl' : l.length < 2^27) : Z base14v (.loop 0 F15l0 (vfr (ru a b c) 1) (U1 l)) = Z base14v (.loop 0 F15l0 (vfr (ru a b c) 2) (U1 (addAll l b.vars))) := by
 have hv := vis_Z (r := ru a b c) (j := 1) (k0 := b.k) (n0 := b.n) (s0 := b.s) (d0 := b.d) b.k b.n b.s b.f b.ks hb
 have hx := nd_vars_len b
 have h1 := n38_1 hv hl (by rw [show (if b.k = 1 \/ b.k = 10 then [b.s] else []) ++ b.ks.vars = b.vars from rfl]; omega)
 rw [show (if b.k = 1 \/ b.k = 10 then [b.s] else []) ++ b.ks.vars = b.vars from rfl] at h1
 have h3 := n32_Z (k := b.k) (n := b.n) (s := b.s) (f := b.f) (ks := b.ks)
 have w1 := wrap64 2 (by omega)
 simp only [boxO, T1, lp38, ru, Nd.d] at h1 h3
 conv => lhs; rw [Z_loop_eq]
 simp [loopStep, run_F15l0, h3, h1, w1, flat_F15a0, flat_F15b0, boxO, T1, lp38, List.range_succ]
 refine Z_loop_cong ?_
 simp [List.range_succ]
theorem v0_step2 (hb : c.ks.size < 2^25) : Z base14v (.loop 0 F15l0 (vfr (ru a b c) 2) U0) = if addAll [] c.vars = [] then Z base14v (.loop 0 F15l0 (vfr (ru a b c) 3) U0) else Z base14v (.loop 0 F15l0 (vfr (ru a b c) 3) (U1 (addAll [] c.vars))) := by
 have hv := vis_Z (r := ru a b c) (j := 2) (k0 := c.k) (n0 := c.n) (s0 := c.s) (d0 := c.d) c.k c.n c.s c.f c.ks hb
 obtain ⟨S', h1, h2⟩ := n38_0 hv
 have h3 := n32_Z (k := c.k) (n := c.n) (s := c.s) (f := c.f) (ks := c.ks)
 have w1 := wrap64 3 (by omega)
 rw [show (if c.k = 1 \/ c.k = 10 then [c.s] else []) ++ c.ks.vars = c.vars from rfl] at h2
 simp only [boxO, T0, lp38, ru, Nd.d] at h1 h3
 conv => lhs; rw [Z_loop_eq]
 rcases h2 with ⟨he, rfl⟩ | ⟨he, rfl⟩
 · rw [if_pos he]
   simp [loopStep, run_F15l0, h3, h1, w1, flat_F15a0, flat_F15b0, boxO, T0, lp38, List.range_succ]
   refine Z_loop_cong ?_
   simp [List.range_succ]
 · rw [if_neg he]
   simp [loopStep, run_F15l0, h3, h1, w1, flat_F15a0, flat_F15b0, boxO, T01, lp38, List.range_succ]
   refine Z_loop_cong ?_
   simp [List.range_succ]
theorem v1_step2 {l : List ByteArray} (hb : c.ks.size < 2^25) (hl : l ≠ []) (hl' : l.length < 2^27) : Z base14v (.loop 0 F15l0 (vfr (ru a b c) 2) (U1 l)) = Z base14v (.loop 0 F15l0 (vfr (ru a b c) 3) (U1 (addAll l c.vars))) := by
 have hv := vis_Z (r := ru a b c) (j := 2) (k0 := c.k) (n0 := c.n) (s0 := c.s) (d0 := c.d) c.k c.n c.s c.f c.ks hb
 have hx := nd_vars_len c
 have h1 := n38_1 hv hl (by rw [show (if c.k = 1 \/ c.k = 10 then [c.s] else []) ++ c.ks.vars = c.vars from rfl]; omega)
 rw [show (if c.k = 1 \/ c.k = 10 then [c.s] else []) ++ c.ks.vars = c.vars from rfl] at h1
 have h3 := n32_Z (k := c.k) (n := c.n) (s := c.s) (f := c.f) (ks := c.ks)
 have w1 := wrap64 3 (by omega)
 simp only [boxO, T1, lp38, ru, Nd.d] at h1 h3
 conv => lhs; rw [Z_loop_eq]
 simp [loopStep, run_F15l0, h3, h1, w1, flat_F15a0, flat_F15b0, boxO, T1, lp38, List.range_succ]
 refine Z_loop_cong ?_
 simp [List.range_succ]
theorem v0_end {r : D} : Z base14v (.loop 0 F15l0 [(3, .ptr 0 0), (4, .ptr 1 0), (12, .dat r), (13, .int 3)] U0) = some (.out (.exit 0) [(3, .ptr 0 0), (4, .ptr 1 0), (12, .dat r), (13, .int 3), (14, .bool false)] U0) := by
 rw [Z_loop_eq]
 simp [loopStep, run_F15l0]
theorem v1_end {r : D} {l : List ByteArray} : Z base14v (.loop 0 F15l0 [(3, .ptr 0 0), (4, .ptr 1 0), (12, .dat r), (13, .int 3)] (U1 l)) = some (.out (.exit 0) [(3, .ptr 0 0), (4, .ptr 1 0), (12, .dat r), (13, .int 3), (14, .bool false)] (U1 l)) := by
 rw [Z_loop_eq]
 simp [loopStep, run_F15l0]
theorem vars_loop (ha : a.ks.size < 2^25) (hb : b.ks.size < 2^25) (hc : c.ks.size < 2^25) : Z base14v (.loop 0 F15l0 (vfr (ru a b c) 0) U0) =
   some (.out (.exit 0) [(3, .ptr 0 0), (4, .ptr 1 0), (12, .dat (ru a b c)), (13, .int 3), (14, .bool false)] (if rvars a b c = [] then U0 else U1 (rvars a b c))) := by
 have la := nd_vars_len a
 have lb := nd_vars_len b
 have l1 := addAll_len a.vars []
 have l2 := addAll_len b.vars (addAll [] a.vars)
 have e : rvars a b c = addAll (addAll (addAll [] a.vars) b.vars) c.vars := by unfold rvars; rw [addAll_app, addAll_app]
 simp only [List.length_nil] at l1
 rw [e, v0_step0 ha]
 by_cases h1 : addAll [] a.vars = []
 · rw [if_pos h1, h1, v0_step1 hb]
   by_cases h2 : addAll [] b.vars = []
   · rw [if_pos h2, h2, v0_step2 hc]
     by_cases h3 : addAll [] c.vars = []
     · rw [if_pos h3, if_pos h3]; exact v0_end
     · rw [if_neg h3, if_neg h3]; exact v1_end
   · rw [h1] at l2
     rw [if_neg h2, v1_step2 hc h2 (by simp only [List.length_nil] at l2; omega), if_neg (addAll_ne _ h2)]
     exact v1_end
 · have n2 : addAll (addAll [] a.vars) b.vars ≠ [] := addAll_ne _ h1
   rw [if_neg h1, v1_step1 hb h1 (by omega), v1_step2 hc n2 (by omega), if_neg (addAll_ne _ n2)]
   exact v1_end
theorem Variables_Z (ha : a.ks.size < 2^25) (hb : b.ks.size < 2^25) (hc : c.ks.size < 2^25) : Z base14v (.call 15 [.dat (ru a b c)] []) = some (.ret (.dat (strD (rvars a b c))) []) := by
 have h := vars_loop ha hb hc
 refine Z_call (pf := F15) rfl rfl ?_
 have h' := (Z_loop_cong (k := 0) (b := F15l0) (fr := [(3, .ptr 1 0), (4, .ptr 3 0), (12, .dat (ru a b c)), (13, .int 0)]) (σ := [.cells [.int a.k, .int a.n, .str a.s, .dat a.d, .int b.k, .int b.n, .str b.s, .dat b.d, .int c.k, .int c.n, .str c.s, .dat c.d], .cells [.dat (.lit (.slice none 0 0))], .map [], .cells [.mp 2]]) (by simp [vfr, U0])).trans h
 simp only [ru, Nd.d] at h'
 by_cases hn : rvars a b c = []
 · rw [if_pos hn] at h'
   rw [hn]
   simp [F15, h', strD]
 · rw [if_neg hn] at h'
   rw [strD_ne hn]
   simp [F15, h']
end
end Go.Pm
end SE7
