/- Chapter 15: the reference's depths, walked. Chapter 15: the reference's depths, the contract. Chapter 15: Depths and Depth of the reference. -/
import Derived.Test.YtdnnjabacgpfdaaGreatDoorPmN4
set_option linter.unusedSimpArgs false
set_option linter.unusedVariables false
section SN6
namespace Go.Pm
open F Gr
def BI (K : Int) (s : Rs) : Prop := ∀ i, gD s.out i + ng s <= K
theorem rone_BI {n : Nat} {dd K : Int} {s : Rs} {j : Int} (hl : s.out.length = n) (hj : 0 <= j) (hd : 0 <= dd) (hb : BI K s) (hdk : dd + ng s <= K + 1) : BI K (rone n dd s j) := by
 intro i
 unfold rone
 by_cases hn : (n : Int) <= j
 · rw [if_pos hn]; exact hb i
 · rw [if_neg hn]
   by_cases h0 : gD s.out j.toNat < 0
   · rw [if_pos h0]
     have hc := countP_set (v := dd) (by omega) h0 hd
     have hng : ng { s with out := s.out.set j.toNat dd, ch := true } + 1 = ng s := hc
     simp only
     by_cases hij : j.toNat = i
     · subst hij
       rw [gD_set_eq (by omega)]
       omega
     · rw [gD_set_ne hij]
       have := hb i
       omega
   · rw [if_neg h0]
     split <;> exact hb i
theorem fold_BI {n : Nat} {dd K : Int} (hd : 0 <= dd) : ∀ (l : List Int) (s : Rs), s.out.length = n -> (∀ j ∈ l, 0 <= j) -> BI K s -> dd + ng s <= K + 1 -> BI K (l.foldl (rone n dd) s)
 | [], s, _, _, h, _ => h
 | j :: l, s, hl, hj, h, hk => by
   obtain ⟨a1, a2, a3⟩ := rone_ng (d := dd) hl (hj j (by simp)) hd
   exact fold_BI hd l _ a3 (fun x hx => hj x (by simp [hx])) (rone_BI hl (hj j (by simp)) hd h hk) (by omega)
theorem lft_le {c : Cd} {i : Nat} {x : Int} (hx : 0 <= x) : lft c i x <= x + 1 := by
 have := popI_rng (opA c i)
 have := pushI_rng (opA c i)
 unfold lft
 split <;> omega
theorem rins_BI {c : Cd} {s : Rs} {i : Nat} {K : Int} (hf : Fits c) (hl : s.out.length = c.length) (hi : i < c.length) (hb : BI K s) : BI K (rins c s i) := by
 unfold rins
 by_cases h0 : gD s.out i < 0
 · rw [if_pos h0]; exact hb
 · rw [if_neg h0]
   have := hb i
   have := lft_le (c := c) (i := i) (x := gD s.out i) (by omega)
   have hng : ng { s with ok := if gD s.out i - popI (opA c i) < 0 then false else s.ok } = ng s := rfl
   exact fold_BI (lft_nonneg _ _ _) _ { s with ok := if gD s.out i - popI (opA c i) < 0 then false else s.ok } hl (fun j hj => (hf i hi j hj).1) hb (by rw [hng]; omega)
def dS (d : D) (e0 e1 e2 : Int) (out : List Int) : S := [.cells [.dat d, .int e0, .int e1, .int e2], .cells (ints out)]
def r3Fr (n : Nat) (ok ch : Bool) (i : Nat) (dd : Int) (to : D) (k : Nat) : Fr := [(2, .ptr 0 0), (6, .msl 1 0 n n 1), (8, .bool ok), (9, .bool ch), (10, .int i), (11, .int dd), (12, .dat to), (13, .int k)]
def r2Fr (n : Nat) (ok ch : Bool) (i : Nat) : Fr := [(2, .ptr 0 0), (6, .msl 1 0 n n 1), (8, .bool ok), (9, .bool ch), (10, .int i)]
def r1Fr (n : Nat) (ok ch : Bool) : Fr := [(2, .ptr 0 0), (6, .msl 1 0 n n 1), (8, .bool ok), (9, .bool ch)]
theorem len_msl (σ : S) (l o n c sz : Nat) : V.len σ .sl (.msl l o n c sz) = some n := rfl
section
variable {d : D} {c : Cd} {e0 e1 e2 : Int}
theorem rsucs_Z {i : Nat} (hd : IsCode d c) (hi : i < c.length) (hi2 : i < 2^40) : Z base15 (.call 144 [pgD d e0 e1 e2, .int i] []) = some (.ret (.dat (sucD c i)) []) := by
 have h1 := hd.at_ i (by omega) (by omega)
 rw [show ((i : Int)).toNat = i by omega] at h1
 have h2 := cut2_icC c i hi
 have h2' := cut1_icC c i hi
 have h3 : cutCells (icC c) (i * 2 + 1) 1 = some [.lit (.int .i64 (nA c i))] := by
   unfold cutCells at h2 ⊢
   simp only at h2 ⊢
   rw [<- List.drop_drop]
   split at h2
   · simp only [Option.some.injEq] at h2
     have : ((icC c).drop (i * 2)).drop 1 = ((icC c).drop (i * 2)).tail := by simp
     cases hX : (icC c).drop (i * 2) with
     | nil => rw [hX] at h2; simp at h2
     | cons x X =>
       rw [hX] at h2
       cases X with
       | nil => simp at h2
       | cons y Y => simp at h2 ⊢; exact h2.2
   · cases h2
 have w1 := wrap64 ((i : Int) + 1) (by omega)
 have ho := hd.one
 have hc := hd.cells
 refine Z_call (pf := F144) rfl rfl ?_
 unfold sucD sucs
 generalize opA c i = op at *
 generalize nA c i = n at *
 by_cases k1 : op = 21
 · simp [F144, pgD, List.range_succ, h1, h2, h2', h3, k1, ho, hc]
 · by_cases k2 : op = 18
   · simp [F144, pgD, List.range_succ, h1, h2, h2', h3, k1, k2, ho, hc, intsC]
   · by_cases k3 : op = 19
     · simp [F144, pgD, List.range_succ, h1, h2, h2', h3, k1, k2, k3, w1, ho, hc, intsC]
     · simp [F144, pgD, List.range_succ, h1, h2, h2', h3, k1, k2, k3, w1, ho, hc, intsC]
theorem r3step (hd : IsCode d c) {to : D} {l : List Int} (hr : IsRow to l) {k i : Nat} (hk : k < l.length) (hk2 : k < 100) {s : Rs} {dd : Int} (hl : s.out.length = c.length) (hcl : c.length < 2^27) (hj : 0 <= l[k]) :
   Z base15 (.loop 0 F142l3 (r3Fr c.length s.ok s.ch i dd to k) (dS d e0 e1 e2 s.out)) = Z base15 (.loop 0 F142l3 (r3Fr c.length (rone c.length dd s l[k]).ok (rone c.length dd s l[k]).ch i dd to (k + 1)) (dS d e0 e1 e2 (rone c.length dd s l[k]).out)) := by
 have h1 := hr.at_ k (by omega) (by omega)
 rw [show ((k : Int)).toNat = k by omega] at h1
 have h2 := cut1_intsC l k hk
 have h2' : getN l k = l[k] := by simp [getN, List.getD_eq_getElem?_getD, hk]
 rw [h2'] at h2
 have hk' : (k : Int) < l.length := by omega
 have w1 := wrap64 ((k : Int) + 1) (by omega)
 have hrl := hr.len
 have ho := hd.one
 have hc := hd.cells
 have ho2 := hr.one
 have hc2 := hr.cells
 unfold rone
 generalize l[k] = j at *
 obtain ⟨out, ok, ch⟩ := s
 simp only at hl ⊢
 by_cases hn : (c.length : Int) <= j
 · rw [if_pos hn, Z_loop_eq]
   simp [loopStep, run_F142l3, r3Fr, dS, List.range_succ, hrl, h1, h2, hk', w1, ho, hc, ho2, hc2, len_msl, hn]
 · rw [if_neg hn]
   have hm : sliceAddr 1 (.msl 1 0 c.length c.length 1) j = some (.ptr 1 j.toNat) := by
     have a2 : j < c.length := by omega
     simp [sliceAddr, hj, a2]
   have hu := cut_own (cs := out) j (gD out j.toNat) hj (by omega) rfl
   have hse : (ints out).take j.toNat ++ (V.int dd :: (ints out).drop (j.toNat + 1)) = ints (out.set j.toNat dd) := set_ints out j.toNat dd (by omega)
   have hjl : j.toNat + 1 <= out.length := by omega
   by_cases h0 : gD out j.toNat < 0
   · rw [if_pos h0, Z_loop_eq]
     simp [loopStep, run_F142l3, r3Fr, dS, List.range_succ, hrl, h1, h2, hk', w1, ho, hc, ho2, hc2, len_msl, hn, hm, hu, hse, hjl, h0]
   · rw [if_neg h0]
     by_cases h3 : gD out j.toNat = dd
     · have h0' : ¬ dd < 0 := by omega
       rw [if_neg (by omega), Z_loop_eq]
       simp [loopStep, run_F142l3, r3Fr, dS, List.range_succ, hrl, h1, h2, hk', w1, ho, hc, ho2, hc2, len_msl, hn, hm, hu, h0, h3, h0']
     · rw [if_pos h3, Z_loop_eq]
       simp [loopStep, run_F142l3, r3Fr, dS, List.range_succ, hrl, h1, h2, hk', w1, ho, hc, ho2, hc2, len_msl, hn, hm, hu, h0, h3]
theorem r3loop (hd : IsCode d c) {to : D} {l : List Int} (hr : IsRow to l) (hl2 : l.length < 50) (hcl : c.length < 2^27) (hj : ∀ x ∈ l, 0 <= x) {dd : Int} (hdd : 0 <= dd) {i : Nat} (m : Nat) : ∀ (k : Nat) (s : Rs), k + m = l.length -> s.out.length = c.length ->
   Z base15 (.loop 0 F142l3 (r3Fr c.length s.ok s.ch i dd to k) (dS d e0 e1 e2 s.out)) = some (.out (.exit 6) (r3Fr c.length ((l.drop k).foldl (rone c.length dd) s).ok ((l.drop k).foldl (rone c.length dd) s).ch i dd to l.length ++ [(74, .bool false)]) (dS d e0 e1 e2 ((l.drop k).foldl (rone c.length dd) s).out)) := by
 induction m with
 | zero =>
   intro k s hk hl
   have : k = l.length := by omega
   subst this
   rw [List.drop_length]
   have ho := hd.one
   have hc := hd.cells
   have ho2 := hr.one
   have hc2 := hr.cells
   have hrl := hr.len
   obtain ⟨out, ok, ch⟩ := s
   rw [Z_loop_eq]
   simp [loopStep, run_F142l3, r3Fr, dS, List.range_succ, hrl, ho, hc, ho2, hc2]
 | succ m ih =>
   intro k s hk hl
   have hkl : k < l.length := by omega
   rw [List.drop_eq_getElem_cons hkl, List.foldl_cons, r3step hd hr hkl (by omega) hl hcl (hj _ (List.getElem_mem hkl))]
   exact ih (k + 1) _ (by omega) (rone_ng hl (hj _ (List.getElem_mem hkl)) hdd).2.2
end
end Go.Pm
end SN6
section SN7
namespace Go.Pm
open F Gr
section
variable {d : D} {c : Cd} {e0 e1 e2 : Int}
set_option maxHeartbeats 4000000 in
theorem r2step (hd : IsCode d c) (hf : Fits c) (hops : ∀ i, i < c.length -> 1 <= opA c i /\ opA c i <= 21) (hcl : c.length < 2^27) {i : Nat} (hi : i < c.length) {s : Rs} (hl : s.out.length = c.length) (hb : gD s.out i < 2^30) :
   Z base15 (.loop 0 F142l2 (r2Fr c.length s.ok s.ch i) (dS d e0 e1 e2 s.out)) = Z base15 (.loop 0 F142l2 (r2Fr c.length (rins c s i).ok (rins c s i).ch (i + 1)) (dS d e0 e1 e2 (rins c s i).out)) := by
 have hlen := hd.len
 have ho := hd.one
 have hc := hd.cells
 have hat := hd.at_ i (by omega) (by omega)
 rw [show ((i : Int)).toNat = i by omega] at hat
 have hcut := cut1_icC c i hi
 have zp := pops15 (opA c i)
 have hk : known15 (opA c i) = true := by have := hops i hi; simp [known15]; exact this
 have hpr : popR (opA c i) = popI (opA c i) := by unfold popR; rw [hk]; rfl
 rw [hpr] at zp
 have zq := push15 (opA c i)
 have hp := popI_rng (opA c i)
 have hq := pushI_rng (opA c i)
 have hsu := rsucs_Z (e0 := e0) (e1 := e1) (e2 := e2) hd hi (by omega)
 simp only [pgD] at hsu
 have hslen : (sucs c i).length < 50 := by unfold sucs; split <;> (try split) <;> (try split) <;> simp
 have hrow := sucD_row c i
 have hi' : (i : Int) < c.length := by omega
 have w1 := wrap64 ((i : Int) + 1) (by omega)
 have hm : sliceAddr 1 (.msl 1 0 c.length c.length 1) i = some (.ptr 1 i) := by
   have a2 : (i : Int) < c.length := by omega
   simp [sliceAddr, a2]
 have hu := cut_own' (cs := s.out) i (gD s.out i) (by omega) rfl
 unfold rins
 by_cases h0 : gD s.out i < 0
 · rw [if_pos h0]
   obtain ⟨out, ok, ch⟩ := s
   simp only at hl hu h0 ⊢
   rw [Z_loop_eq]
   simp [loopStep, run_F142l2, r2Fr, dS, List.range_succ, len_msl, hi', hm, hu, h0, w1, ho, hc]
 · rw [if_neg h0]
   have w2 : IntKind.i64.wrap (gD s.out i - popI (opA c i)) = gD s.out i - popI (opA c i) := wrap64 _ (by omega)
   have w3 : IntKind.i64.wrap (gD s.out i - popI (opA c i) + pushI (opA c i)) = gD s.out i - popI (opA c i) + pushI (opA c i) := wrap64 _ (by omega)
   have w4 : IntKind.i64.wrap (pushI (opA c i)) = pushI (opA c i) := wrap64 _ (by omega)
   have hlf : lft c i (gD s.out i) = (if gD s.out i - popI (opA c i) < 0 then 0 else gD s.out i - popI (opA c i)) + pushI (opA c i) := rfl
   have hloop := r3loop (e0 := e0) (e1 := e1) (e2 := e2) hd hrow hslen hcl (fun x hx => (hf i hi x hx).1) (lft_nonneg c i (gD s.out i)) (i := i) (sucs c i).length 0 { s with ok := if gD s.out i - popI (opA c i) < 0 then false else s.ok } (by omega) hl
   rw [List.drop_zero] at hloop
   obtain ⟨R, hR⟩ : ∃ R, R = (sucs c i).foldl (rone c.length (lft c i (gD s.out i))) { s with ok := if gD s.out i - popI (opA c i) < 0 then false else s.ok } := ⟨_, rfl⟩
   rw [<- hR] at hloop ⊢
   clear hR
   obtain ⟨out, ok, ch⟩ := s
   simp only at hl hu h0 hloop hlf w2 w3
   by_cases hn : gD out i - popI (opA c i) < 0
   · rw [if_pos hn] at hlf
     rw [if_pos hn, hlf] at hloop
     simp only [r3Fr, dS, Int.zero_add] at hloop
     rw [show ((0 : Nat) : Int) = 0 from rfl] at hloop
     rw [Z_loop_eq]
     simp [loopStep, run_F142l2, r2Fr, dS, List.range_succ, len_msl, hi', hm, hu, h0, w1, w2, w4, hn, ho, hc, hlen, hat, hcut, zp, zq, hsu, hloop, calm, alone]
   · rw [if_neg hn] at hlf
     rw [if_neg hn, hlf] at hloop
     simp only [r3Fr, dS] at hloop
     rw [show ((0 : Nat) : Int) = 0 from rfl] at hloop
     rw [Z_loop_eq]
     simp [loopStep, run_F142l2, r2Fr, dS, List.range_succ, len_msl, hi', hm, hu, h0, w1, w2, w3, hn, ho, hc, hlen, hat, hcut, zp, zq, hsu, hloop, calm, alone]
theorem r2end (hd : IsCode d c) (s : Rs) : Z base15 (.loop 0 F142l2 (r2Fr c.length s.ok s.ch c.length) (dS d e0 e1 e2 s.out)) = some (.out (.exit 4) (r2Fr c.length s.ok s.ch c.length ++ [(37, .bool false)]) (dS d e0 e1 e2 s.out)) := by
 obtain ⟨out, ok, ch⟩ := s
 rw [Z_loop_eq]
 simp [loopStep, run_F142l2, r2Fr, dS, List.range_succ, len_msl, hd.one, hd.cells]
def scanR (c : Cd) : Nat -> Nat -> Rs -> Rs
 | 0, _, s => s
 | m + 1, i, s => scanR c m (i + 1) (rins c s i)
theorem scan_props (hf : Fits c) {e : Nat} {K : Int} (m : Nat) : ∀ (i : Nat) (s : Rs), i + m = c.length -> RI c e s -> BI K s -> SC c i s ->
   RI c e (scanR c m i s) /\ BI K (scanR c m i s) /\ SC c c.length (scanR c m i s) /\ ng (scanR c m i s) <= ng s /\ ((scanR c m i s).ch = true -> s.ch = true \/ ng (scanR c m i s) < ng s) := by
 induction m with
 | zero =>
   intro i s hi h1 h2 h3
   have : i = c.length := by omega
   subst this
   exact ⟨h1, h2, h3, Nat.le_refl _, .inl⟩
 | succ m ih =>
   intro i s hi h1 h2 h3
   have hil : i < c.length := by omega
   obtain ⟨g1, g2, g3⟩ := rins_ng hf h1.len hil
   obtain ⟨a1, a2, a3, a4, a5⟩ := ih (i + 1) (rins c s i) (by omega) (rins_RI hf h1 hil) (rins_BI hf h1.len hil h2) (rins_SC h3)
   refine ⟨a1, a2, a3, Nat.le_trans a4 g1, fun hh => ?_⟩
   rcases a5 hh with hb | hb
   · rcases g2 hb with ha | ha
     · exact .inl ha
     · exact .inr (by simp only [scanR]; omega)
   · exact .inr (by simp only [scanR]; omega)
theorem r2loop (hd : IsCode d c) (hf : Fits c) (hops : ∀ i, i < c.length -> 1 <= opA c i /\ opA c i <= 21) (hcl : c.length < 2^27) {K : Int} (hK : K < 2^30) (m : Nat) : ∀ (i : Nat) (s : Rs), i + m = c.length -> s.out.length = c.length -> BI K s ->
   Z base15 (.loop 0 F142l2 (r2Fr c.length s.ok s.ch i) (dS d e0 e1 e2 s.out)) = some (.out (.exit 4) (r2Fr c.length (scanR c m i s).ok (scanR c m i s).ch c.length ++ [(37, .bool false)]) (dS d e0 e1 e2 (scanR c m i s).out)) := by
 induction m with
 | zero =>
   intro i s hi hl hb
   have : i = c.length := by omega
   subst this
   exact r2end hd s
 | succ m ih =>
   intro i s hi hl hb
   have hil : i < c.length := by omega
   rw [r2step hd hf hops hcl hil hl (by have := hb i; omega)]
   exact ih (i + 1) _ (by omega) (rins_ng hf hl hil).2.2 (rins_BI hf hl hil hb)
def F142l1a : PC := match F142l1 with | .seq a _ => a | _ => .skip
def F142l1b : PC := match F142l1 with | .seq _ b => b | _ => .skip
theorem F142l1a_eq : F142l1a = .seq (.region none [⟨some 33, .mov (.t 9), none, []⟩] [2, 6, 8, 33]) (.cond (.t 33) (.skip) (.exit 2)) := rfl
theorem l1_extra (d : D) (e0 e1 e2 : Int) (out : List Int) (n : Nat) (ok ch : Bool) (i : Nat) (b : Bool) :
   Z base15 (.loop 0 F142l1 (r2Fr n ok ch i ++ [(37, .bool b)]) (dS d e0 e1 e2 out)) = Z base15 (.loop 0 F142l1 (r1Fr n ok ch) (dS d e0 e1 e2 out)) := by
 have e : F142l1 = .seq F142l1a F142l1b := rfl
 rw [Z_loop_eq, Z_loop_eq, e]
 simp [loopStep, F142l1a_eq, r1Fr, r2Fr, dS, List.range_succ]
theorem r1end (hd : IsCode d c) (out : List Int) (ok : Bool) : Z base15 (.loop 0 F142l1 (r1Fr c.length ok false) (dS d e0 e1 e2 out)) = some (.out (.exit 2) [(2, .ptr 0 0), (6, .msl 1 0 c.length c.length 1), (8, .bool ok), (33, .bool false)] (dS d e0 e1 e2 out)) := by
 rw [Z_loop_eq]
 simp [loopStep, run_F142l1, r1Fr, dS, List.range_succ, hd.one, hd.cells]
theorem r1step (hd : IsCode d c) (hf : Fits c) (hops : ∀ i, i < c.length -> 1 <= opA c i /\ opA c i <= 21) (hcl : c.length < 2^27) {K : Int} (hK : K < 2^30) (out : List Int) (ok : Bool) (hl : out.length = c.length) (hb : BI K ⟨out, ok, false⟩) :
   Z base15 (.loop 0 F142l1 (r1Fr c.length ok true) (dS d e0 e1 e2 out)) = Z base15 (.loop 0 F142l1 (r1Fr c.length (scanR c c.length 0 ⟨out, ok, false⟩).ok (scanR c c.length 0 ⟨out, ok, false⟩).ch) (dS d e0 e1 e2 (scanR c c.length 0 ⟨out, ok, false⟩).out)) := by
 have h := r2loop (e0 := e0) (e1 := e1) (e2 := e2) hd hf hops hcl hK c.length 0 ⟨out, ok, false⟩ (by omega) hl hb
 obtain ⟨R, hR⟩ : ∃ R, R = scanR c c.length 0 ⟨out, ok, false⟩ := ⟨_, rfl⟩
 rw [<- hR] at h ⊢
 rw [<- l1_extra d e0 e1 e2 R.out c.length R.ok R.ch c.length false]
 simp only [r2Fr, dS] at h ⊢
 rw [show ((0 : Nat) : Int) = 0 from rfl] at h
 rw [Z_loop_eq]
 simp [loopStep, run_F142l1, r1Fr, List.range_succ, hd.one, hd.cells, h]
theorem r1loop (hd : IsCode d c) (hf : Fits c) (hops : ∀ i, i < c.length -> 1 <= opA c i /\ opA c i <= 21) (hcl : c.length < 2^27) {K : Int} (hK : K < 2^30) {e : Nat} (m : Nat) : ∀ (out : List Int) (ok : Bool), ng ⟨out, ok, false⟩ <= m -> RI c e ⟨out, ok, false⟩ -> BI K ⟨out, ok, false⟩ ->
   ∃ s : Rs, RI c e s /\ SC c c.length s /\ s.ch = false /\ BI K s /\ Z base15 (.loop 0 F142l1 (r1Fr c.length ok true) (dS d e0 e1 e2 out)) = some (.out (.exit 2) [(2, .ptr 0 0), (6, .msl 1 0 c.length c.length 1), (8, .bool s.ok), (33, .bool false)] (dS d e0 e1 e2 s.out)) := by
 induction m with
 | zero =>
   intro out ok hm h1 h2
   rw [r1step hd hf hops hcl hK out ok h1.len h2]
   obtain ⟨a1, a2, a3, a4, a5⟩ := scan_props hf (e := e) c.length 0 ⟨out, ok, false⟩ (by omega) h1 h2 (fun _ i hi => by omega)
   have hc : (scanR c c.length 0 ⟨out, ok, false⟩).ch = false := by
     cases hx : (scanR c c.length 0 ⟨out, ok, false⟩).ch with
     | false => rfl
     | true => rcases a5 hx with h | h
               · simp at h
               · omega
   refine ⟨_, a1, a3, hc, a2, ?_⟩
   rw [hc]
   exact r1end hd _ _
 | succ m ih =>
   intro out ok hm h1 h2
   rw [r1step hd hf hops hcl hK out ok h1.len h2]
   obtain ⟨a1, a2, a3, a4, a5⟩ := scan_props hf (e := e) c.length 0 ⟨out, ok, false⟩ (by omega) h1 h2 (fun _ i hi => by omega)
   obtain ⟨S, hS⟩ : ∃ S, S = scanR c c.length 0 ⟨out, ok, false⟩ := ⟨_, rfl⟩
   rw [<- hS] at a1 a2 a3 a4 a5 ⊢
   obtain ⟨out', ok', ch'⟩ := S
   cases hx : ch' with
   | false =>
     subst hx
     exact ⟨_, a1, a3, rfl, a2, r1end hd _ _⟩
   | true =>
     subst hx
     have hlt : ng ⟨out', ok', false⟩ < ng ⟨out, ok, false⟩ := by
       rcases a5 rfl with h | h
       · simp at h
       · exact h
     exact ih out' ok' (by omega) ⟨a1.len, a1.ent, a1.rch, a1.cf⟩ a2
end
end Go.Pm
end SN7
section SN8
namespace Go.Pm
open F Gr
def fillM (w : List Int) (i : Nat) : List Int := List.replicate i (-1) ++ w.drop i
theorem fillM_length {w : List Int} {i : Nat} (h : i <= w.length) : (fillM w i).length = w.length := by simp [fillM]; omega
theorem fillM_set {w : List Int} {i : Nat} (h : i < w.length) : (fillM w i).set i (-1) = fillM w (i + 1) := by
 unfold fillM
 rw [List.set_append_right _ _ (by simp), List.length_replicate, Nat.sub_self, List.drop_eq_getElem_cons h, List.set_cons_zero, List.replicate_succ', List.append_assoc]
 rfl
def fFr15 (n : Nat) (e i : Int) : Fr := [(1, .int e), (2, .ptr 0 0), (6, .msl 1 0 n n 1), (7, .int i)]
section
variable {d : D} {c : Cd} {e0 e1 e2 : Int}
theorem floop15 (hd : IsCode d c) (hcl : c.length < 2^27) (e : Int) (w : List Int) (hw : w.length = c.length) (m : Nat) : ∀ i : Nat, i + m = c.length ->
   Z base15 (.loop 0 F142l0 (fFr15 c.length e i) (dS d e0 e1 e2 (fillM w i))) = some (.out (.exit 0) (fFr15 c.length e c.length ++ [(21, .bool false)]) (dS d e0 e1 e2 (List.replicate c.length (-1)))) := by
 induction m with
 | zero =>
   intro i hi
   have : i = c.length := by omega
   subst this
   have e1' : fillM w c.length = List.replicate c.length (-1) := by
     unfold fillM
     rw [List.drop_of_length_le (by omega)]; simp
   rw [e1', Z_loop_eq]
   simp [loopStep, run_F142l0, fFr15, dS, List.range_succ, len_msl, hd.one, hd.cells]
 | succ m ih =>
   intro i hi
   have e1' := ih (i + 1) (by omega)
   have hi' : (i : Int) < c.length := by omega
   have w1 := wrap64 ((i : Int) + 1) (by omega)
   have hm : sliceAddr 1 (.msl 1 0 c.length c.length 1) i = some (.ptr 1 i) := by
     have a2 : (i : Int) < c.length := by omega
     simp [sliceAddr, a2]
   have hl := fillM_length (w := w) (i := i) (by omega)
   have hse : (ints (fillM w i)).take i ++ (V.int (-1) :: (ints (fillM w i)).drop (i + 1)) = ints (fillM w (i + 1)) := by
     rw [<- fillM_set (by omega)]; exact set_ints _ i (-1) (by omega)
   have hil : i + 1 <= (fillM w i).length := by omega
   generalize fillM w i = A at *
   generalize fillM w (i + 1) = B at *
   rw [show (((i + 1 : Nat)) : Int) = i + 1 by omega] at e1'
   simp only [fFr15, dS] at e1'
   rw [Z_loop_eq]
   simp [loopStep, run_F142l0, fFr15, dS, List.range_succ, len_msl, hi', w1, hm, hse, hil, hd.one, hd.cells, e1']
theorem rdep_neg (hd : IsCode d c) (hcl : c.length < 2^27) {e : Int} (he : e < 0) :
   Z base15 (.call 142 [pgD d e0 e1 e2, .int e] []) = some (.ret (.tup [.dat (.sl (intsC (List.replicate c.length (-1))) c.length false), .bool true]) []) := by
 have hl := floop15 (e0 := e0) (e1 := e1) (e2 := e2) hd hcl e (List.replicate c.length 0) (by simp) c.length 0 (by omega)
 rw [show fillM (List.replicate c.length 0) 0 = List.replicate c.length 0 by simp [fillM], show ((0 : Nat) : Int) = 0 from rfl] at hl
 have hlen := hd.len
 have ho := hd.one
 have hc := hd.cells
 have k1 : (c.length : Int) <= 1099511627776 /\ 8 * (c.length : Int) <= 281474976710656 := by omega
 have k2 : 8 * c.length <= 281474976710656 := by omega
 have k3 := take_all_intsC (List.replicate c.length (-1)) c.length (by simp)
 refine Z_call (pf := F142) rfl rfl ?_
 simp only [fFr15, dS] at hl
 simp [F142, pgD, repl_ints, k1, k2, hlen, ho, hc, hl, he, k3, List.range_succ]
theorem rdep_pos (hd : IsCode d c) (hf : Fits c) (hops : ∀ i, i < c.length -> 1 <= opA c i /\ opA c i <= 21) (hcl : c.length < 2^27) {e : Nat} (he : e < c.length) :
   ∃ out ok, RefRes c e out ok /\ (∀ i, gD out i < 2^30) /\ Z base15 (.call 142 [pgD d e0 e1 e2, .int e] []) = some (.ret (.tup [.dat (.sl (intsC out) c.length false), .bool ok]) []) := by
 have hng : ng ⟨out0 c e, true, false⟩ <= c.length := by
   have : (out0 c e).countP (fun x => decide (x < 0)) <= (out0 c e).length := List.countP_le_length
   unfold ng
   simp only
   rw [show (out0 c e).length = c.length by simp [out0]] at this
   exact this
 have hBI : BI (c.length : Int) ⟨out0 c e, true, false⟩ := fun i => by
   have : gD (out0 c e) i <= 0 := by
     unfold out0
     by_cases h : e = i
     · subst h; rw [gD_set_eq (by simpa using he)]; exact Int.le_refl _
     · rw [gD_set_ne h]
       simp only [gD, List.getD_eq_getElem?_getD, List.getElem?_replicate]
       split <;> simp
   simp only
   omega
 obtain ⟨s, h1, h2, h3, h5, h4⟩ := r1loop (e0 := e0) (e1 := e1) (e2 := e2) hd hf hops hcl (K := c.length) (by omega) (e := e) c.length (out0 c e) true hng (out0_RI he) hBI
 obtain ⟨f1, f2, f3⟩ := fin_RI he hf h1 h2 h3
 refine ⟨s.out, s.ok, ⟨h1.len, f1, f2, f3⟩, fun i => by have := h5 i; omega, ?_⟩
 have hl := floop15 (e0 := e0) (e1 := e1) (e2 := e2) hd hcl e (List.replicate c.length 0) (by simp) c.length 0 (by omega)
 rw [show fillM (List.replicate c.length 0) 0 = List.replicate c.length 0 by simp [fillM], show ((0 : Nat) : Int) = 0 from rfl] at hl
 have hlen := hd.len
 have ho := hd.one
 have hc := hd.cells
 have k1 : (c.length : Int) <= 1099511627776 /\ 8 * (c.length : Int) <= 281474976710656 := by omega
 have k2 : 8 * c.length <= 281474976710656 := by omega
 have k3 := take_all_intsC s.out c.length (by rw [h1.len]; exact Nat.le_refl _)
 have k4 : c.length <= s.out.length := by rw [h1.len]; exact Nat.le_refl _
 have hm : sliceAddr 1 (.msl 1 0 c.length c.length 1) e = some (.ptr 1 e) := by
   have a2 : (e : Int) < c.length := by omega
   simp [sliceAddr, a2]
 have hse : (ints (List.replicate c.length (-1))).take e ++ (V.int 0 :: (ints (List.replicate c.length (-1))).drop (e + 1)) = ints (out0 c e) := set_ints _ e 0 (by simpa using he)
 have hel : e + 1 <= c.length := he
 have hen : ¬ (e : Int) < 0 := by omega
 refine Z_call (pf := F142) rfl rfl ?_
 simp only [fFr15, r1Fr, dS] at hl h4
 simp [F142, pgD, repl_ints, k1, k2, hlen, ho, hc, hl, hm, hse, hel, hen, h4, k3, k4, List.range_succ]
def mFr (out : List Int) (n : Nat) (most : Int) (i : Nat) : Fr := [(2, .ptr 0 0), (5, .dat (.sl (intsC out) n false)), (7, .int most), (8, .int i)]
def mS (d : D) (e0 e1 e2 : Int) : S := [.cells [.dat d, .int e0, .int e1, .int e2]]
theorem mstep (hd : IsCode d c) (hops : ∀ i, i < c.length -> 1 <= opA c i /\ opA c i <= 21) (hcl : c.length < 2^27) {out : List Int} (hl : out.length = c.length) (hb : ∀ i, gD out i < 2^30) {i : Nat} (hi : i < c.length) :
   Z base15 (.loop 0 F129l0 (mFr out c.length (rmax c out i) i) (mS d e0 e1 e2)) = Z base15 (.loop 0 F129l0 (mFr out c.length (rmax c out (i + 1)) (i + 1)) (mS d e0 e1 e2)) := by
 have hlen := hd.len
 have ho := hd.one
 have hc := hd.cells
 have hat := hd.at_ i (by omega) (by omega)
 rw [show ((i : Int)).toNat = i by omega] at hat
 have hcut := cut1_icC c i hi
 have zp := pops15 (opA c i)
 have hk : known15 (opA c i) = true := by have := hops i hi; simp [known15]; exact this
 have hpr : popR (opA c i) = popI (opA c i) := by unfold popR; rw [hk]; rfl
 rw [hpr] at zp
 have zq := push15 (opA c i)
 have hp := popI_rng (opA c i)
 have hq := pushI_rng (opA c i)
 have hi' : (i : Int) < c.length := by omega
 have w1 := wrap64 ((i : Int) + 1) (by omega)
 have s1 := row_at (intsC out) c.length i hi
 have q1 := cut1_intsC out i (by omega)
 have hg : getN out i = gD out i := rfl
 rw [hg] at q1
 have hbi := hb i
 simp only [rmax]
 by_cases h0 : 0 <= gD out i
 · rw [if_pos h0]
   have w2 : IntKind.i64.wrap (gD out i - popI (opA c i)) = gD out i - popI (opA c i) := wrap64 _ (by omega)
   have ea : aft c i (gD out i) = gD out i - popI (opA c i) + pushI (opA c i) := by unfold aft; omega
   have w3 : IntKind.i64.wrap (gD out i - popI (opA c i) + pushI (opA c i)) = aft c i (gD out i) := by rw [ea]; exact wrap64 _ (by omega)
   generalize aft c i (gD out i) = A at *
   generalize rmax c out i = M at *
   by_cases m1 : M < gD out i
   · have x1 : max M (gD out i) = gD out i := by omega
     rw [x1]
     by_cases m2 : gD out i < A
     · have x2 : max (gD out i) A = A := by omega
       rw [x2, Z_loop_eq]
       simp [loopStep, run_F129l0, mFr, mS, List.range_succ, len_sl, hi', w1, s1, q1, h0, hat, hcut, hlen, ho, hc, zp, zq, w2, w3, lits, maxI, m1, m2, calm, alone]
     · have x2 : max (gD out i) A = gD out i := by omega
       rw [x2, Z_loop_eq]
       simp [loopStep, run_F129l0, mFr, mS, List.range_succ, len_sl, hi', w1, s1, q1, h0, hat, hcut, hlen, ho, hc, zp, zq, w2, w3, lits, maxI, m1, m2, calm, alone]
   · have x1 : max M (gD out i) = M := by omega
     rw [x1]
     by_cases m2 : M < A
     · have x2 : max M A = A := by omega
       rw [x2, Z_loop_eq]
       simp [loopStep, run_F129l0, mFr, mS, List.range_succ, len_sl, hi', w1, s1, q1, h0, hat, hcut, hlen, ho, hc, zp, zq, w2, w3, lits, maxI, m1, m2, calm, alone]
     · have x2 : max M A = M := by omega
       rw [x2, Z_loop_eq]
       simp [loopStep, run_F129l0, mFr, mS, List.range_succ, len_sl, hi', w1, s1, q1, h0, hat, hcut, hlen, ho, hc, zp, zq, w2, w3, lits, maxI, m1, m2, calm, alone]
 · rw [if_neg h0, Z_loop_eq]
   simp [loopStep, run_F129l0, mFr, mS, List.range_succ, len_sl, hi', w1, s1, q1, h0, ho, hc]
theorem mloop (hd : IsCode d c) (hops : ∀ i, i < c.length -> 1 <= opA c i /\ opA c i <= 21) (hcl : c.length < 2^27) {out : List Int} (hl : out.length = c.length) (hb : ∀ i, gD out i < 2^30) (m : Nat) : ∀ i : Nat, i + m = c.length ->
   Z base15 (.loop 0 F129l0 (mFr out c.length (rmax c out i) i) (mS d e0 e1 e2)) = some (.out (.exit 0) (mFr out c.length (rmax c out c.length) c.length ++ [(28, .bool false)]) (mS d e0 e1 e2)) := by
 induction m with
 | zero =>
   intro i hi
   have : i = c.length := by omega
   subst this
   generalize rmax c out c.length = M
   rw [Z_loop_eq]
   simp [loopStep, run_F129l0, mFr, mS, List.range_succ, len_sl, hd.one, hd.cells]
 | succ m ih =>
   intro i hi
   rw [mstep hd hops hcl hl hb (by omega)]
   exact ih (i + 1) (by omega)
def entA (e0 e1 e2 h : Int) : Int := if h = 0 then e0 else if h = 1 then e1 else e2
theorem rdepth_of (hd : IsCode d c) (hops : ∀ i, i < c.length -> 1 <= opA c i /\ opA c i <= 21) (hcl : c.length < 2^27) {h : Int} (h0 : 0 <= h) (h2 : h <= 2) {out : List Int} {ok : Bool} (hl : out.length = c.length) (hb : ∀ i, gD out i < 2^30)
   (hz : Z base15 (.call 142 [pgD d e0 e1 e2, .int (entA e0 e1 e2 h)] []) = some (.ret (.tup [.dat (.sl (intsC out) c.length false), .bool ok]) [])) :
   Z base15 (.call 129 [pgD d e0 e1 e2, .int h] []) = some (.ret (.int (rmax c out c.length)) []) := by
 have ho := hd.one
 have hc := hd.cells
 have hm := mloop (e0 := e0) (e1 := e1) (e2 := e2) hd hops hcl hl hb c.length 0 (by omega)
 rw [show rmax c out 0 = 0 from rfl] at hm
 simp only [mFr, mS] at hm
 rw [show ((0 : Nat) : Int) = 0 from rfl] at hm
 generalize rmax c out c.length = M at *
 simp only [pgD] at hz
 refine Z_call (pf := F129) rfl rfl ?_
 obtain rfl | rfl | rfl : h = 0 \/ h = 1 \/ h = 2 := by omega
 · simp only [entA, if_true] at hz
   simp [F129, pgD, List.range_succ, ho, hc, hz, hm, calm, alone]
 · simp only [entA, Int.reduceEq, if_false, if_true] at hz
   simp [F129, pgD, List.range_succ, ho, hc, hz, hm, calm, alone]
 · simp only [entA, Int.reduceEq, if_false] at hz
   simp [F129, pgD, List.range_succ, ho, hc, hz, hm, calm, alone]
theorem gD_rep {n k : Nat} (h : k < n) : gD (List.replicate n (-1)) k = -1 := by
 simp [gD, List.getD_eq_getElem?_getD, List.getElem?_replicate, h]
theorem rmax_neg (c : Cd) (n : Nat) : ∀ k, k <= n -> rmax c (List.replicate n (-1)) k = 0
 | 0, _ => rfl
 | k + 1, h => by
   unfold rmax
   rw [gD_rep (by omega), if_neg (by omega)]
   exact rmax_neg c n k (by omega)
end
end Go.Pm
end SN8
