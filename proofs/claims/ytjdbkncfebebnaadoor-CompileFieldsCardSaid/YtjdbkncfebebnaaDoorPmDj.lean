/- Chapter 15: the program's Compile: its loops. Chapter 15: the program's Compile. Chapter 15: the program's Compile, whole. -/
import Derived.Test.YtjdbkncfebebnaaDoorPmDf
import Derived.Test.YtjdbkncfebebnaaDoorPmCm
set_option linter.unusedSimpArgs false
set_option linter.unusedVariables false
section SDj
namespace Go.Pm
open F Gr
set_option maxHeartbeats 2000000
attribute [local simp] locs_mapM ren_mapM dkey rkey
theorem code_T {vs : List ByteArray} (b : Ss) (hf : b.fine) (hi : b.inV vs) (hb : b.fo.size < 2^30) (f : Bool) : ∃ L, L <= 4 * b.fo.size /\ TrB vs (nd 7 0 ⟨#[]⟩ f b.fo) (codeS vs b) L /\
   ∀ e0 e1 e2 : Int, 4 * L < 2^30 -> Z base15 (.call 147 [.ptr 0 0, nd 7 0 ⟨#[]⟩ f b.fo] (tst0 vs e0 e1 e2)) = some (.ret (.tup []) (if codeS vs b 0 = [] then tst0 vs e0 e1 e2 else tst2 vs e0 e1 e2 (codeS vs b 0))) := by
 obtain ⟨M, h, hl⟩ := row_T b hf hi hb
 have sb := fo_len_size b.fo
 have k := blk_B h hl (by omega) f
 have k0 := fun e0 e1 e2 => blk_0 h hl (by omega) f e0 e1 e2
 rw [show seqC (partS vs b) = codeS vs b from funext (seq_part b)] at k k0
 obtain ⟨n, hn, hn2⟩ := ln_S vs b
 have e : M = n := by rw [<- k.ln 0, hn 0]
 exact ⟨M, by omega, k, k0⟩
abbrev yFr (vs : List ByteArray) (i : Nat) : Fr := [(1, .ptr 0 0), (2, .ptr 1 0), (4, .ptr 2 0), (17, .dat (strD vs)), (18, .int vs.length), (19, .int i)]
abbrev ySt (R : Ob) (l : List ByteArray) : S := [R, zP, cnil 0 0 0 3, .map (mapM 0 l)]
theorem v_end (x y z : Nd) (vs l : List ByteArray) : Z base15 (.loop 0 F131l0 (yFr vs vs.length) (ySt (rbox x y z) l)) = some (.out (.exit 0) (yFr vs vs.length ++ [(20, .bool false)]) (ySt (rbox x y z) l)) := by
 rw [Z_loop_eq]
 simp [loopStep, run_F131l0, List.range_succ]
theorem v_step (x y z : Nd) {vs : List ByteArray} (hv : vs.length < 2^40) (hn : vs.Nodup) (i : Nat) (hi : i < vs.length) : Z base15 (.loop 0 F131l0 (yFr vs i) (ySt (rbox x y z) (vs.take i))) = Z base15 (.loop 0 F131l0 (yFr vs (i + 1)) (ySt (rbox x y z) (vs.take (i + 1)))) := by
 have hc := cut_strC vs i hi
 have ha := at_strD vs i hi
 have w1 := wrap64 ((i : Int) + 1) (by omega)
 have hi' : (i : Int) < vs.length := by omega
 have hnm : vs[i] ∉ vs.take i := by
   have h2 := hn
   rw [<- List.take_append_drop i vs, List.drop_eq_getElem_cons hi] at h2
   rw [List.nodup_append] at h2
   exact fun hm => h2.2.2 _ hm _ (List.mem_cons_self ..) rfl
 have hs := set_mapM vs[i] (vs.take i) 0 hnm
 rw [show ((0 + (vs.take i).length : Nat)) = i by simp; omega, show vs.take i ++ [vs[i]] = vs.take (i + 1) by rw [List.take_succ_eq_append_getElem hi]] at hs
 conv => lhs; rw [Z_loop_eq]
 simp [loopStep, run_F131l0, hi', hc, ha, hs, w1, keyOk, yFr, ySt, rbox, zP, Nd.d, List.range_succ]
theorem v_loop (x y z : Nd) {vs : List ByteArray} (hv : vs.length < 2^40) (hn : vs.Nodup) : ∀ (n i : Nat), i + n = vs.length -> Z base15 (.loop 0 F131l0 (yFr vs i) (ySt (rbox x y z) (vs.take i))) = some (.out (.exit 0) (yFr vs vs.length ++ [(20, .bool false)]) (ySt (rbox x y z) vs))
 | 0, i, h => by
   obtain rfl : i = vs.length := by omega
   rw [List.take_length]
   exact v_end x y z vs vs
 | n + 1, i, h => by
   rw [v_step x y z hv hn i (by omega)]
   exact v_loop x y z hv hn n (i + 1) (by omega)
abbrev jFr (R : D) (i : Int) : Fr := [(2, .ptr 0 0), (4, .ptr 1 0), (33, .dat R), (34, .int i)]
inductive HSt (vs : List ByteArray) (e0 e1 e2 : Int) : S -> Cd -> Prop
 | nil : HSt vs e0 e1 e2 [zP, cnil e0 e1 e2 2, mpo vs] []
 | gr (c : Cd) (h : c ≠ []) : HSt vs e0 e1 e2 [zP, cob e0 e1 e2 2 c.length 3, .vec (icV c), mpo vs] c
section
variable {vs : List ByteArray} {e0 e1 e2 : Int} {σ : S} {c : Cd} {u v w : Nd}
theorem h_end {R : D} (h : HSt vs e0 e1 e2 σ c) : Z base15 (.loop 0 F131l1 (jFr R 3) σ) = some (.out (.exit 2) (jFr R 3 ++ [(35, .bool false)]) σ) := by
 rw [Z_loop_eq]
 cases h <;> simp [loopStep, run_F131l1, List.range_succ]
theorem h_none0 (h : HSt vs e0 e1 e2 σ c) : ∃ σ', HSt vs (-1) e1 e2 σ' c /\ Z base15 (.loop 0 F131l1 (jFr (ru Hd.none.nd v w) 0) σ) = Z base15 (.loop 0 F131l1 (jFr (ru Hd.none.nd v w) 1) σ') := by
 have w1 := wrap64 1 (by omega)
 cases h with
 | nil =>
   refine ⟨_, .nil, ?_⟩
   conv => lhs; rw [Z_loop_eq]
   simp [loopStep, run_F131l1, w1, Hd.k, Nd.d, jFr, ru, List.range_succ]
   exact Z_loop_cong (by simp [List.range_succ])
 | gr _ g =>
   refine ⟨_, .gr _ g, ?_⟩
   conv => lhs; rw [Z_loop_eq]
   simp [loopStep, run_F131l1, w1, Hd.k, Nd.d, jFr, ru, List.range_succ]
   exact Z_loop_cong (by simp [List.range_succ])
theorem h_some0 {f : Bool} {b : Ss} (h : HSt vs e0 e1 e2 σ c) {L : Nat} (hb : TrB vs (nd 7 0 ⟨#[]⟩ f b.fo) (codeS vs b) L) (h0 : ∀ e0 e1 e2 : Int, 4 * L < 2^30 -> Z base15 (.call 147 [.ptr 0 0, nd 7 0 ⟨#[]⟩ f b.fo] (tst0 vs e0 e1 e2)) = some (.ret (.tup []) (if codeS vs b 0 = [] then tst0 vs e0 e1 e2 else tst2 vs e0 e1 e2 (codeS vs b 0))))
   (hl : c.length + 4 * L + 10 < 2^30) : ∃ σ', HSt vs c.length e1 e2 σ' (c ++ snC (codeS vs b) (21, 0) c.length) /\ Z base15 (.loop 0 F131l1 (jFr (ru (Hd.some f b).nd v w) 0) σ) = Z base15 (.loop 0 F131l1 (jFr (ru (Hd.some f b).nd v w) 1) σ') := by
 have w1 := wrap64 1 (by omega)
 have lc := hb.ln c.length
 have hx : c ++ snC (codeS vs b) (21, 0) c.length = (c ++ codeS vs b c.length) ++ [((21 : Int), (0 : Int))] := by simp [snC]
 refine ⟨_, .gr _ (by rw [hx]; simp), ?_⟩
 rw [hx]
 cases h with
 | nil =>
   rw [show (([] : Cd).length : Int) = 0 from rfl] at *
   rw [List.nil_append]
   by_cases hz : codeS vs b 0 = []
   · have z1 := h0 0 e1 e2 (by omega)
     rw [if_pos hz] at z1
     have z2 := emit0 (vs := vs) (e0 := 0) (e1 := e1) (e2 := e2) 21 0
     rw [hz, List.nil_append]
     generalize [((21 : Int), (0 : Int))] = c5 at *
     conv => lhs; rw [Z_loop_eq]
     simp [loopStep, run_F131l1, len_nil, w1, Hd.k, Hd.f, Hd.ks, Nd.d, jFr, ru, z1, z2, calm, alone, List.range_succ]
     exact Z_loop_cong (by simp [List.range_succ])
   · have z1 := h0 0 e1 e2 (by omega)
     rw [if_neg hz] at z1
     have z2 := emit1 (vs := vs) (e0 := 0) (e1 := e1) (e2 := e2) (codeS vs b 0) (by omega) 21 0
     generalize codeS vs b 0 ++ [((21 : Int), (0 : Int))] = c5 at *
     generalize codeS vs b 0 = c4 at *
     conv => lhs; rw [Z_loop_eq]
     simp [loopStep, run_F131l1, len_nil, w1, Hd.k, Hd.f, Hd.ks, Nd.d, jFr, ru, z1, z2, calm, alone, List.range_succ]
     try exact Z_loop_cong (by simp [List.range_succ])
 | gr _ g =>
   have z1 := hb.one c.length e1 e2 c g (by omega)
   have z2 := emit1 (vs := vs) (e0 := c.length) (e1 := e1) (e2 := e2) (c ++ codeS vs b c.length) (by rw [List.length_append]; omega) 21 0
   generalize c ++ codeS vs b c.length ++ [((21 : Int), (0 : Int))] = c5 at *
   generalize c ++ codeS vs b c.length = c4 at *
   conv => lhs; rw [Z_loop_eq]
   simp [loopStep, run_F131l1, len_ow2, w1, Hd.k, Hd.f, Hd.ks, Nd.d, jFr, ru, z1, z2, calm, alone, List.range_succ]
   try exact Z_loop_cong (by simp [List.range_succ])
theorem h_none1 (h : HSt vs e0 e1 e2 σ c) : ∃ σ', HSt vs e0 (-1) e2 σ' c /\ Z base15 (.loop 0 F131l1 (jFr (ru u Hd.none.nd w) 1) σ) = Z base15 (.loop 0 F131l1 (jFr (ru u Hd.none.nd w) 2) σ') := by
 have w1 := wrap64 2 (by omega)
 cases h with
 | nil =>
   refine ⟨_, .nil, ?_⟩
   conv => lhs; rw [Z_loop_eq]
   simp [loopStep, run_F131l1, w1, Hd.k, Nd.d, jFr, ru, List.range_succ]
   exact Z_loop_cong (by simp [List.range_succ])
 | gr _ g =>
   refine ⟨_, .gr _ g, ?_⟩
   conv => lhs; rw [Z_loop_eq]
   simp [loopStep, run_F131l1, w1, Hd.k, Nd.d, jFr, ru, List.range_succ]
   exact Z_loop_cong (by simp [List.range_succ])
theorem h_some1 {f : Bool} {b : Ss} (h : HSt vs e0 e1 e2 σ c) {L : Nat} (hb : TrB vs (nd 7 0 ⟨#[]⟩ f b.fo) (codeS vs b) L) (h0 : ∀ e0 e1 e2 : Int, 4 * L < 2^30 -> Z base15 (.call 147 [.ptr 0 0, nd 7 0 ⟨#[]⟩ f b.fo] (tst0 vs e0 e1 e2)) = some (.ret (.tup []) (if codeS vs b 0 = [] then tst0 vs e0 e1 e2 else tst2 vs e0 e1 e2 (codeS vs b 0))))
   (hl : c.length + 4 * L + 10 < 2^30) : ∃ σ', HSt vs e0 c.length e2 σ' (c ++ snC (codeS vs b) (21, 0) c.length) /\ Z base15 (.loop 0 F131l1 (jFr (ru u (Hd.some f b).nd w) 1) σ) = Z base15 (.loop 0 F131l1 (jFr (ru u (Hd.some f b).nd w) 2) σ') := by
 have w1 := wrap64 2 (by omega)
 have lc := hb.ln c.length
 have hx : c ++ snC (codeS vs b) (21, 0) c.length = (c ++ codeS vs b c.length) ++ [((21 : Int), (0 : Int))] := by simp [snC]
 refine ⟨_, .gr _ (by rw [hx]; simp), ?_⟩
 rw [hx]
 cases h with
 | nil =>
   rw [show (([] : Cd).length : Int) = 0 from rfl] at *
   rw [List.nil_append]
   by_cases hz : codeS vs b 0 = []
   · have z1 := h0 e0 0 e2 (by omega)
     rw [if_pos hz] at z1
     have z2 := emit0 (vs := vs) (e0 := e0) (e1 := 0) (e2 := e2) 21 0
     rw [hz, List.nil_append]
     generalize [((21 : Int), (0 : Int))] = c5 at *
     conv => lhs; rw [Z_loop_eq]
     simp [loopStep, run_F131l1, len_nil, w1, Hd.k, Hd.f, Hd.ks, Nd.d, jFr, ru, z1, z2, calm, alone, List.range_succ]
     exact Z_loop_cong (by simp [List.range_succ])
   · have z1 := h0 e0 0 e2 (by omega)
     rw [if_neg hz] at z1
     have z2 := emit1 (vs := vs) (e0 := e0) (e1 := 0) (e2 := e2) (codeS vs b 0) (by omega) 21 0
     generalize codeS vs b 0 ++ [((21 : Int), (0 : Int))] = c5 at *
     generalize codeS vs b 0 = c4 at *
     conv => lhs; rw [Z_loop_eq]
     simp [loopStep, run_F131l1, len_nil, w1, Hd.k, Hd.f, Hd.ks, Nd.d, jFr, ru, z1, z2, calm, alone, List.range_succ]
     try exact Z_loop_cong (by simp [List.range_succ])
 | gr _ g =>
   have z1 := hb.one e0 c.length e2 c g (by omega)
   have z2 := emit1 (vs := vs) (e0 := e0) (e1 := c.length) (e2 := e2) (c ++ codeS vs b c.length) (by rw [List.length_append]; omega) 21 0
   generalize c ++ codeS vs b c.length ++ [((21 : Int), (0 : Int))] = c5 at *
   generalize c ++ codeS vs b c.length = c4 at *
   conv => lhs; rw [Z_loop_eq]
   simp [loopStep, run_F131l1, len_ow2, w1, Hd.k, Hd.f, Hd.ks, Nd.d, jFr, ru, z1, z2, calm, alone, List.range_succ]
   try exact Z_loop_cong (by simp [List.range_succ])
theorem h_none2 (h : HSt vs e0 e1 e2 σ c) : ∃ σ', HSt vs e0 e1 (-1) σ' c /\ Z base15 (.loop 0 F131l1 (jFr (ru u v Hd.none.nd) 2) σ) = Z base15 (.loop 0 F131l1 (jFr (ru u v Hd.none.nd) 3) σ') := by
 have w1 := wrap64 3 (by omega)
 cases h with
 | nil =>
   refine ⟨_, .nil, ?_⟩
   conv => lhs; rw [Z_loop_eq]
   simp [loopStep, run_F131l1, w1, Hd.k, Nd.d, jFr, ru, List.range_succ]
   exact Z_loop_cong (by simp [List.range_succ])
 | gr _ g =>
   refine ⟨_, .gr _ g, ?_⟩
   conv => lhs; rw [Z_loop_eq]
   simp [loopStep, run_F131l1, w1, Hd.k, Nd.d, jFr, ru, List.range_succ]
   exact Z_loop_cong (by simp [List.range_succ])
theorem h_some2 {f : Bool} {b : Ss} (h : HSt vs e0 e1 e2 σ c) {L : Nat} (hb : TrB vs (nd 7 0 ⟨#[]⟩ f b.fo) (codeS vs b) L) (h0 : ∀ e0 e1 e2 : Int, 4 * L < 2^30 -> Z base15 (.call 147 [.ptr 0 0, nd 7 0 ⟨#[]⟩ f b.fo] (tst0 vs e0 e1 e2)) = some (.ret (.tup []) (if codeS vs b 0 = [] then tst0 vs e0 e1 e2 else tst2 vs e0 e1 e2 (codeS vs b 0))))
   (hl : c.length + 4 * L + 10 < 2^30) : ∃ σ', HSt vs e0 e1 c.length σ' (c ++ snC (codeS vs b) (21, 0) c.length) /\ Z base15 (.loop 0 F131l1 (jFr (ru u v (Hd.some f b).nd) 2) σ) = Z base15 (.loop 0 F131l1 (jFr (ru u v (Hd.some f b).nd) 3) σ') := by
 have w1 := wrap64 3 (by omega)
 have lc := hb.ln c.length
 have hx : c ++ snC (codeS vs b) (21, 0) c.length = (c ++ codeS vs b c.length) ++ [((21 : Int), (0 : Int))] := by simp [snC]
 refine ⟨_, .gr _ (by rw [hx]; simp), ?_⟩
 rw [hx]
 cases h with
 | nil =>
   rw [show (([] : Cd).length : Int) = 0 from rfl] at *
   rw [List.nil_append]
   by_cases hz : codeS vs b 0 = []
   · have z1 := h0 e0 e1 0 (by omega)
     rw [if_pos hz] at z1
     have z2 := emit0 (vs := vs) (e0 := e0) (e1 := e1) (e2 := 0) 21 0
     rw [hz, List.nil_append]
     generalize [((21 : Int), (0 : Int))] = c5 at *
     conv => lhs; rw [Z_loop_eq]
     simp [loopStep, run_F131l1, len_nil, w1, Hd.k, Hd.f, Hd.ks, Nd.d, jFr, ru, z1, z2, calm, alone, List.range_succ]
     exact Z_loop_cong (by simp [List.range_succ])
   · have z1 := h0 e0 e1 0 (by omega)
     rw [if_neg hz] at z1
     have z2 := emit1 (vs := vs) (e0 := e0) (e1 := e1) (e2 := 0) (codeS vs b 0) (by omega) 21 0
     generalize codeS vs b 0 ++ [((21 : Int), (0 : Int))] = c5 at *
     generalize codeS vs b 0 = c4 at *
     conv => lhs; rw [Z_loop_eq]
     simp [loopStep, run_F131l1, len_nil, w1, Hd.k, Hd.f, Hd.ks, Nd.d, jFr, ru, z1, z2, calm, alone, List.range_succ]
     try exact Z_loop_cong (by simp [List.range_succ])
 | gr _ g =>
   have z1 := hb.one e0 e1 c.length c g (by omega)
   have z2 := emit1 (vs := vs) (e0 := e0) (e1 := e1) (e2 := c.length) (c ++ codeS vs b c.length) (by rw [List.length_append]; omega) 21 0
   generalize c ++ codeS vs b c.length ++ [((21 : Int), (0 : Int))] = c5 at *
   generalize c ++ codeS vs b c.length = c4 at *
   conv => lhs; rw [Z_loop_eq]
   simp [loopStep, run_F131l1, len_ow2, w1, Hd.k, Hd.f, Hd.ks, Nd.d, jFr, ru, z1, z2, calm, alone, List.range_succ]
   try exact Z_loop_cong (by simp [List.range_succ])
end
end Go.Pm
end SDj
section SDk
namespace Go.Pm
open F Gr
set_option maxHeartbeats 2000000
attribute [local simp] locs_mapM ren_mapM dkey rkey
abbrev kFr (e0 e1 e2 i : Int) : Fr := [(2, .ptr 0 0), (9, .ptr 1 0), (86, .dat (.agg [.lit (.int .i64 e0), .lit (.int .i64 e1), .lit (.int .i64 e2)])), (87, .int i)]
inductive KSt (e0 e1 e2 : Int) : S -> Cd -> Prop
 | nil (h : e0 < 0 /\ e1 < 0 /\ e2 < 0) : KSt e0 e1 e2 [zP, .cells [.dat (.lit (.slice none 0 0)), .int e0, .int e1, .int e2]] []
 | vec (c : Cd) (h : c ≠ []) : KSt e0 e1 e2 [zP, .cells [.own 2 c.length 2, .int e0, .int e1, .int e2], .vec (icV c)] c
 | froz (c : Cd) (h : c ≠ []) : KSt e0 e1 e2 [zP, .cells [.own 2 c.length 2, .int e0, .int e1, .int e2], .froz (icC c)] c
section
variable {e0 e1 e2 : Int} {σ : S} {c : Cd}
theorem k_end (h : KSt e0 e1 e2 σ c) : Z base15 (.loop 0 F131l2 (kFr e0 e1 e2 3) σ) = some (.out (.exit 4) (kFr e0 e1 e2 3 ++ [(88, .bool false)]) σ) := by
 rw [Z_loop_eq]
 cases h <;> simp [loopStep, run_F131l2, List.range_succ]
def SafeZ (c : Cd) (e0 e1 e2 e : Int) (sf : Bool) : Prop := ∃ a : D, Z base15 (.call 139 [pgD (.sl (icC c) c.length false) e0 e1 e2, .int e] []) = some (.ret (.dat a) []) /\ Z base15 (.call 140 [.dat a] []) = some (.ret (.bool sf) [])
theorem k_neg0 (h : KSt e0 e1 e2 σ c) (hn : e0 < 0) : Z base15 (.loop 0 F131l2 (kFr e0 e1 e2 0) σ) = Z base15 (.loop 0 F131l2 (kFr e0 e1 e2 1) σ) := by
 have w1 := wrap64 1 (by omega)
 have hn' : ¬ 0 <= e0 := by omega
 conv => lhs; rw [Z_loop_eq]
 cases h <;> simp [loopStep, run_F131l2, w1, hn', cutCells, List.range_succ]
theorem k_pos0 (h : KSt e0 e1 e2 σ c) (hn : 0 <= e0) {sf : Bool} (hs : SafeZ c e0 e1 e2 e0 sf) : ∃ σ', KSt e0 e1 e2 σ' c /\ Z base15 (.loop 0 F131l2 (kFr e0 e1 e2 0) σ) = if sf then Z base15 (.loop 0 F131l2 (kFr e0 e1 e2 1) σ') else some (.out .ret [(2, .ptr 0 0), (3, .int 15)] σ') := by
 have w1 := wrap64 1 (by omega)
 obtain ⟨a, z1, z2⟩ := hs
 simp only [pgD] at z1
 have hl := icV_len c
 have hd := icV_dat c
 have hl2 := icC_length c
 cases h with
 | nil h => omega
 | vec _ g =>
   refine ⟨_, .froz _ g, ?_⟩
   rw [Z_loop_eq]
   cases sf
   · simp [loopStep, run_F131l2, w1, hn, z1, z2, hl, hd, cutCells, List.range_succ]
   · simp [loopStep, run_F131l2, w1, hn, z1, z2, hl, hd, cutCells, List.range_succ]
 | froz _ g =>
   refine ⟨_, .froz _ g, ?_⟩
   rw [Z_loop_eq]
   cases sf
   · simp [loopStep, run_F131l2, w1, hn, z1, z2, hl, hd, cutCells, List.range_succ]
   · simp [loopStep, run_F131l2, w1, hn, z1, z2, hl, hd, cutCells, List.range_succ]
theorem k_step0 (h : KSt e0 e1 e2 σ c) {sf : Bool} (hs : 0 <= e0 -> SafeZ c e0 e1 e2 e0 sf) (hs2 : e0 < 0 -> sf = true) : ∃ σ', KSt e0 e1 e2 σ' c /\ Z base15 (.loop 0 F131l2 (kFr e0 e1 e2 0) σ) = if sf then Z base15 (.loop 0 F131l2 (kFr e0 e1 e2 1) σ') else some (.out .ret [(2, .ptr 0 0), (3, .int 15)] σ') := by
 by_cases hn : e0 < 0
 · exact ⟨σ, h, by rw [hs2 hn, k_neg0 h hn]; rfl⟩
 · exact k_pos0 h (by omega) (hs (by omega))
theorem k_neg1 (h : KSt e0 e1 e2 σ c) (hn : e1 < 0) : Z base15 (.loop 0 F131l2 (kFr e0 e1 e2 1) σ) = Z base15 (.loop 0 F131l2 (kFr e0 e1 e2 2) σ) := by
 have w1 := wrap64 2 (by omega)
 have hn' : ¬ 0 <= e1 := by omega
 conv => lhs; rw [Z_loop_eq]
 cases h <;> simp [loopStep, run_F131l2, w1, hn', cutCells, List.range_succ]
theorem k_pos1 (h : KSt e0 e1 e2 σ c) (hn : 0 <= e1) {sf : Bool} (hs : SafeZ c e0 e1 e2 e1 sf) : ∃ σ', KSt e0 e1 e2 σ' c /\ Z base15 (.loop 0 F131l2 (kFr e0 e1 e2 1) σ) = if sf then Z base15 (.loop 0 F131l2 (kFr e0 e1 e2 2) σ') else some (.out .ret [(2, .ptr 0 0), (3, .int 15)] σ') := by
 have w1 := wrap64 2 (by omega)
 obtain ⟨a, z1, z2⟩ := hs
 simp only [pgD] at z1
 have hl := icV_len c
 have hd := icV_dat c
 have hl2 := icC_length c
 cases h with
 | nil h => omega
 | vec _ g =>
   refine ⟨_, .froz _ g, ?_⟩
   rw [Z_loop_eq]
   cases sf
   · simp [loopStep, run_F131l2, w1, hn, z1, z2, hl, hd, cutCells, List.range_succ]
   · simp [loopStep, run_F131l2, w1, hn, z1, z2, hl, hd, cutCells, List.range_succ]
 | froz _ g =>
   refine ⟨_, .froz _ g, ?_⟩
   rw [Z_loop_eq]
   cases sf
   · simp [loopStep, run_F131l2, w1, hn, z1, z2, hl, hd, cutCells, List.range_succ]
   · simp [loopStep, run_F131l2, w1, hn, z1, z2, hl, hd, cutCells, List.range_succ]
theorem k_step1 (h : KSt e0 e1 e2 σ c) {sf : Bool} (hs : 0 <= e1 -> SafeZ c e0 e1 e2 e1 sf) (hs2 : e1 < 0 -> sf = true) : ∃ σ', KSt e0 e1 e2 σ' c /\ Z base15 (.loop 0 F131l2 (kFr e0 e1 e2 1) σ) = if sf then Z base15 (.loop 0 F131l2 (kFr e0 e1 e2 2) σ') else some (.out .ret [(2, .ptr 0 0), (3, .int 15)] σ') := by
 by_cases hn : e1 < 0
 · exact ⟨σ, h, by rw [hs2 hn, k_neg1 h hn]; rfl⟩
 · exact k_pos1 h (by omega) (hs (by omega))
theorem k_neg2 (h : KSt e0 e1 e2 σ c) (hn : e2 < 0) : Z base15 (.loop 0 F131l2 (kFr e0 e1 e2 2) σ) = Z base15 (.loop 0 F131l2 (kFr e0 e1 e2 3) σ) := by
 have w1 := wrap64 3 (by omega)
 have hn' : ¬ 0 <= e2 := by omega
 conv => lhs; rw [Z_loop_eq]
 cases h <;> simp [loopStep, run_F131l2, w1, hn', cutCells, List.range_succ]
theorem k_pos2 (h : KSt e0 e1 e2 σ c) (hn : 0 <= e2) {sf : Bool} (hs : SafeZ c e0 e1 e2 e2 sf) : ∃ σ', KSt e0 e1 e2 σ' c /\ Z base15 (.loop 0 F131l2 (kFr e0 e1 e2 2) σ) = if sf then Z base15 (.loop 0 F131l2 (kFr e0 e1 e2 3) σ') else some (.out .ret [(2, .ptr 0 0), (3, .int 15)] σ') := by
 have w1 := wrap64 3 (by omega)
 obtain ⟨a, z1, z2⟩ := hs
 simp only [pgD] at z1
 have hl := icV_len c
 have hd := icV_dat c
 have hl2 := icC_length c
 cases h with
 | nil h => omega
 | vec _ g =>
   refine ⟨_, .froz _ g, ?_⟩
   rw [Z_loop_eq]
   cases sf
   · simp [loopStep, run_F131l2, w1, hn, z1, z2, hl, hd, cutCells, List.range_succ]
   · simp [loopStep, run_F131l2, w1, hn, z1, z2, hl, hd, cutCells, List.range_succ]
 | froz _ g =>
   refine ⟨_, .froz _ g, ?_⟩
   rw [Z_loop_eq]
   cases sf
   · simp [loopStep, run_F131l2, w1, hn, z1, z2, hl, hd, cutCells, List.range_succ]
   · simp [loopStep, run_F131l2, w1, hn, z1, z2, hl, hd, cutCells, List.range_succ]
theorem k_step2 (h : KSt e0 e1 e2 σ c) {sf : Bool} (hs : 0 <= e2 -> SafeZ c e0 e1 e2 e2 sf) (hs2 : e2 < 0 -> sf = true) : ∃ σ', KSt e0 e1 e2 σ' c /\ Z base15 (.loop 0 F131l2 (kFr e0 e1 e2 2) σ) = if sf then Z base15 (.loop 0 F131l2 (kFr e0 e1 e2 3) σ') else some (.out .ret [(2, .ptr 0 0), (3, .int 15)] σ') := by
 by_cases hn : e2 < 0
 · exact ⟨σ, h, by rw [hs2 hn, k_neg2 h hn]; rfl⟩
 · exact k_pos2 h (by omega) (hs (by omega))
theorem k_all (h : KSt e0 e1 e2 σ c) {s0 s1 s2 : Bool} (h0 : 0 <= e0 -> SafeZ c e0 e1 e2 e0 s0) (g0 : e0 < 0 -> s0 = true) (h1 : 0 <= e1 -> SafeZ c e0 e1 e2 e1 s1) (g1 : e1 < 0 -> s1 = true) (h2 : 0 <= e2 -> SafeZ c e0 e1 e2 e2 s2) (g2 : e2 < 0 -> s2 = true) :
   ∃ σ', KSt e0 e1 e2 σ' c /\ Z base15 (.loop 0 F131l2 (kFr e0 e1 e2 0) σ) = if s0 && (s1 && s2) then some (.out (.exit 4) (kFr e0 e1 e2 3 ++ [(88, .bool false)]) σ') else some (.out .ret [(2, .ptr 0 0), (3, .int 15)] σ') := by
 obtain ⟨σ0, k0, z0⟩ := k_step0 h h0 g0
 cases s0 with
 | false => exact ⟨σ0, k0, z0⟩
 | true =>
   obtain ⟨σ1, k1, z1⟩ := k_step1 k0 h1 g1
   cases s1 with
   | false => exact ⟨σ1, k1, z0.trans z1⟩
   | true =>
     obtain ⟨σ2, k2, z2⟩ := k_step2 k1 h2 g2
     cases s2 with
     | false => exact ⟨σ2, k2, z0.trans (z1.trans z2)⟩
     | true => exact ⟨σ2, k2, z0.trans (z1.trans (z2.trans (k_end k2)))⟩
end
section
variable {vs : List ByteArray} {a b c : Hd}
theorem h_all (fa : a.fine) (fb : b.fine) (fc : c.fine) (ia : a.ss.inV vs) (ib : b.ss.inV vs) (ic : c.ss.inV vs) :
   ∃ σ, HSt vs (ent0 a) (ent1 vs a b) (ent2 vs a b c) σ (progC vs a b c) /\
     Z base15 (.loop 0 F131l1 (jFr (ru a.nd b.nd c.nd) 0) [zP, cnil 0 0 0 2, mpo vs]) = some (.out (.exit 2) (jFr (ru a.nd b.nd c.nd) 3 ++ [(35, .bool false)]) σ) := by
 have key : ∀ h : Hd, h.fine -> ∃ L, L <= 8001 /\ Ln (hdC vs h) L := fun h f => by
   cases h with
   | none => exact ⟨0, by omega, fun _ => rfl⟩
   | some g x =>
     obtain ⟨n, hn, hn2⟩ := ln_S vs x
     have := f.size
     simp only [Hd.ss] at this
     exact ⟨n + 1, by omega, ln_sn hn⟩
 obtain ⟨la, ka, na⟩ := key a fa
 obtain ⟨lb, kb, nb⟩ := key b fb
 have s0 : ∃ σ, HSt vs (ent0 a) 0 0 σ (hdC vs a 0) /\ Z base15 (.loop 0 F131l1 (jFr (ru a.nd b.nd c.nd) 0) [zP, cnil 0 0 0 2, mpo vs]) = Z base15 (.loop 0 F131l1 (jFr (ru a.nd b.nd c.nd) 1) σ) := by
   cases a with
   | none => exact h_none0 .nil
   | some f x =>
     have := fa.size
     simp only [Hd.ss] at this ia
     obtain ⟨L, hL, h, h0⟩ := code_T x fa.fine ia (by omega) f
     obtain ⟨σ, h1, h2⟩ := h_some0 (v := b.nd) (w := c.nd) (e0 := 0) (e1 := 0) (e2 := 0) .nil h h0 (by simp; omega)
     exact ⟨σ, by simpa [ent0, entV, hdC] using h1, h2⟩
 obtain ⟨σ0, c0, z0⟩ := s0
 have l0 := na 0
 have s1 : ∃ σ, HSt vs (ent0 a) (ent1 vs a b) 0 σ (hdC vs a 0 ++ hdC vs b (hdC vs a 0).length) /\ Z base15 (.loop 0 F131l1 (jFr (ru a.nd b.nd c.nd) 1) σ0) = Z base15 (.loop 0 F131l1 (jFr (ru a.nd b.nd c.nd) 2) σ) := by
   cases b with
   | none =>
     obtain ⟨σ, h1, h2⟩ := h_none1 (u := a.nd) (w := c.nd) c0
     exact ⟨σ, by simpa [ent1, entV, hdC] using h1, h2⟩
   | some f x =>
     have := fb.size
     simp only [Hd.ss] at this ib
     obtain ⟨L, hL, h, h0⟩ := code_T x fb.fine ib (by omega) f
     obtain ⟨σ, h1, h2⟩ := h_some1 (u := a.nd) (w := c.nd) c0 h h0 (by omega)
     exact ⟨σ, by simpa [ent1, entV, hdC] using h1, h2⟩
 obtain ⟨σ1, c1, z1⟩ := s1
 have e1 : hdC vs a 0 ++ hdC vs b (hdC vs a 0).length = sq (hdC vs a) (hdC vs b) 0 := by simp [sq]
 rw [e1] at c1
 have l1 : (sq (hdC vs a) (hdC vs b) 0).length = la + lb := ln_sq na nb 0
 have s2 : ∃ σ, HSt vs (ent0 a) (ent1 vs a b) (ent2 vs a b c) σ (sq (hdC vs a) (hdC vs b) 0 ++ hdC vs c (sq (hdC vs a) (hdC vs b) 0).length) /\ Z base15 (.loop 0 F131l1 (jFr (ru a.nd b.nd c.nd) 2) σ1) = Z base15 (.loop 0 F131l1 (jFr (ru a.nd b.nd c.nd) 3) σ) := by
   cases c with
   | none =>
     obtain ⟨σ, h1, h2⟩ := h_none2 (u := a.nd) (v := b.nd) c1
     exact ⟨σ, by simpa [ent2, entV, hdC] using h1, h2⟩
   | some f x =>
     have := fc.size
     simp only [Hd.ss] at this ic
     obtain ⟨L, hL, h, h0⟩ := code_T x fc.fine ic (by omega) f
     obtain ⟨σ, h1, h2⟩ := h_some2 (u := a.nd) (v := b.nd) c1 h h0 (by omega)
     exact ⟨σ, by simpa [ent2, entV, hdC] using h1, h2⟩
 obtain ⟨σ2, c2, z2⟩ := s2
 have e2 : sq (hdC vs a) (hdC vs b) 0 ++ hdC vs c (sq (hdC vs a) (hdC vs b) 0).length = progC vs a b c := by
   unfold progC
   simp only [sq, List.append_assoc, List.length_append]
   rw [show ((((hdC vs a 0).length + (hdC vs b (0 + (hdC vs a 0).length)).length : Nat)) : Int) = 0 + (hdC vs a 0).length + (hdC vs b (0 + (hdC vs a 0).length)).length by omega]
 rw [e2] at c2
 exact ⟨σ2, c2, z0.trans (z1.trans (z2.trans (h_end c2)))⟩
theorem safe_ex {C : Int -> Cd} {n : Nat} {D : Nat -> Int} (g : Hg C n D) (hl : n < 2^27) (e0 e1 e2 : Int) {e m : Int} (h0 : 0 <= e) (h1 : e < n) (hD : D e.toNat = 0) (hm : DepIs (C 0) e m) : SafeZ (C 0) e0 e1 e2 e (decide (m <= 16)) := by
 have hn := g.ln 0
 have hok := g.okC
 have hf := okC_fits hok
 have hops : ∀ i, i < (C 0).length -> 1 <= opA (C 0) i /\ opA (C 0) i <= 21 := fun i hi => (okI_op (okC_all _ _ hok i (by omega) (by omega))).1
 obtain ⟨fl, br, dp, r1, r2⟩ := ana_Z (e0 := e0) (e1 := e1) (e2 := e2) (isCode_sl (C 0) false) hf hops (by omega) (e := e.toNat) (by omega)
 rw [show ((e.toNat : Nat) : Int) = e by omega] at r2
 have hcf := g.cf (e := e.toNat) (by omega) hD
 have hbr : br = false := r1.brk.2 ⟨D, hcf⟩
 have hdp : dp = m := Most.unique (r1.most D hcf) (hm.2 h0 D hcf)
 refine ⟨_, r2, ?_⟩
 have := safe_Z fl br dp
 rw [hbr, hdp] at this
 rw [hbr, hdp]
 simpa using this
end
end Go.Pm
end SDk
section SDl
namespace Go.Pm
open F Gr
set_option maxHeartbeats 2000000
attribute [local simp] locs_mapM ren_mapM dkey rkey
section
variable {a b c : Hd}
theorem rvars_nodup : (rvars a.nd b.nd c.nd).Nodup := nodup_addAll _ _ (by simp)
theorem compile_Z (fa : a.fine) (fb : b.fine) (fc : c.fine) {m0 m1 m2 : Int} (d0 : DepIs (progC (rvars a.nd b.nd c.nd) a b c) (ent0 a) m0) (d1 : DepIs (progC (rvars a.nd b.nd c.nd) a b c) (ent1 (rvars a.nd b.nd c.nd) a b) m1) (d2 : DepIs (progC (rvars a.nd b.nd c.nd) a b c) (ent2 (rvars a.nd b.nd c.nd) a b c) m2) :
   Z base15 (.call 131 [.dat (ru a.nd b.nd c.nd)] []) = some (.ret (compV (progC (rvars a.nd b.nd c.nd) a b c) (ent0 a) (ent1 (rvars a.nd b.nd c.nd) a b) (ent2 (rvars a.nd b.nd c.nd) a b c) m0 m1 m2) []) := by
 have l4 := rvars_len4 fa.fine fb.fine fc.fine
 have sa := hd_size a fa
 have sb := hd_size b fb
 have sc := hd_size c fc
 have zv := Z_sub sub_base14v_base15 (Variables_Z (a := a.nd) (b := b.nd) (c := c.nd) (by omega) (by omega) (by omega))
 obtain ⟨ia, ib, ic⟩ := rvars_in (a := a) (b := b) (c := c)
 obtain ⟨n, D, g, p0, p1, p2⟩ := prog_good (vs := rvars a.nd b.nd c.nd) (by omega) fa.fine fb.fine fc.fine ia ib ic
 obtain ⟨σ, hst, hloop⟩ := h_all (vs := rvars a.nd b.nd c.nd) fa fb fc ia ib ic
 have hlen := progC_len (vs := rvars a.nd b.nd c.nd) fa fb fc
 have hn : (progC (rvars a.nd b.nd c.nd) a b c).length = n := g.ln 0
 have hvl := v_loop a.nd b.nd c.nd (vs := rvars a.nd b.nd c.nd) (by omega) rvars_nodup (rvars a.nd b.nd c.nd).length 0 (by omega)
 rw [List.take_zero] at hvl
 have q0 : 0 <= ent0 a -> SafeZ (progC (rvars a.nd b.nd c.nd) a b c) (ent0 a) (ent1 (rvars a.nd b.nd c.nd) a b) (ent2 (rvars a.nd b.nd c.nd) a b c) (ent0 a) (decide (m0 <= 16)) := fun h => by
   rcases p0 with p | ⟨x, y, z⟩
   · omega
   · exact safe_ex g (by omega) _ _ _ x y z d0
 have q1 : 0 <= ent1 (rvars a.nd b.nd c.nd) a b -> SafeZ (progC (rvars a.nd b.nd c.nd) a b c) (ent0 a) (ent1 (rvars a.nd b.nd c.nd) a b) (ent2 (rvars a.nd b.nd c.nd) a b c) (ent1 (rvars a.nd b.nd c.nd) a b) (decide (m1 <= 16)) := fun h => by
   rcases p1 with p | ⟨x, y, z⟩
   · omega
   · exact safe_ex g (by omega) _ _ _ x y z d1
 have q2 : 0 <= ent2 (rvars a.nd b.nd c.nd) a b c -> SafeZ (progC (rvars a.nd b.nd c.nd) a b c) (ent0 a) (ent1 (rvars a.nd b.nd c.nd) a b) (ent2 (rvars a.nd b.nd c.nd) a b c) (ent2 (rvars a.nd b.nd c.nd) a b c) (decide (m2 <= 16)) := fun h => by
   rcases p2 with p | ⟨x, y, z⟩
   · omega
   · exact safe_ex g (by omega) _ _ _ x y z d2
 have w0 : ent0 a < 0 -> decide (m0 <= 16) = true := fun h => by rw [d0.1 h]; rfl
 have w1 : ent1 (rvars a.nd b.nd c.nd) a b < 0 -> decide (m1 <= 16) = true := fun h => by rw [d1.1 h]; rfl
 have w2 : ent2 (rvars a.nd b.nd c.nd) a b c < 0 -> decide (m2 <= 16) = true := fun h => by rw [d2.1 h]; rfl
 clear d0 d1 d2 g
 generalize rvars a.nd b.nd c.nd = vs at *
 generalize hC : progC vs a b c = C at *
 generalize hE0 : ent0 a = e0 at *
 generalize hE1 : ent1 vs a b = e1 at *
 generalize hE2 : ent2 vs a b c = e2 at *
 have hcond : (16 < m0 \/ 16 < m1 \/ 16 < m2) ↔ (decide (m0 <= 16) && (decide (m1 <= 16) && decide (m2 <= 16))) = false := by
   rw [Bool.and_eq_false_iff, Bool.and_eq_false_iff, decide_eq_false_iff_not, decide_eq_false_iff_not, decide_eq_false_iff_not]
   omega
 have hv' := (Z_loop_cong (prog := base15) (k := 0) (b := F131l0) (fr := [(1, .ptr 0 0), (2, .ptr 1 0), (4, .ptr 3 0), (17, .dat (strD vs)), (18, .int vs.length), (19, .int 0)]) (σ := [rbox a.nd b.nd c.nd, zP, .map [], cnil 0 0 0 2]) (by simp [yFr, ySt, mapM, List.range_succ])).trans hvl
 have hloop' := (Z_loop_cong (prog := base15) (k := 0) (b := F131l1) (fr := [(2, .ptr 1 0), (4, .ptr 2 0), (33, .dat (ru a.nd b.nd c.nd)), (34, .int 0)]) (σ := [rbox a.nd b.nd c.nd, zP, cnil 0 0 0 3, mpo vs]) (by simp [jFr, List.range_succ])).trans hloop
 simp only [rbox, zP, Nd.d, hd_k, hd_n, hd_s, hd_f, hd_ks, yFr, jFr, ru, List.cons_append, List.nil_append] at hv' hloop'
 simp only [ru, Nd.d, hd_k, hd_n, hd_s, hd_f, hd_ks] at zv
 refine Z_call (pf := F131) rfl rfl ?_
 unfold compV
 cases hst with
 | nil =>
   have hn0 : n = 0 := by rw [<- hn]; rfl
   obtain ⟨σ', hk, z⟩ := k_all (KSt.nil (e0 := e0) (e1 := e1) (e2 := e2) (by omega)) q0 w0 q1 w1 q2 w2
   have h400 : ¬ 400 < ([] : Cd).length := by simp
   rw [if_neg h400]
   replace z := (Z_loop_cong (prog := base15) (k := 0) (b := F131l2) (fr := [(2, .ptr 0 0), (9, .ptr 3 0), (86, .dat (.agg [.lit (.int .i64 e0), .lit (.int .i64 e1), .lit (.int .i64 e2)])), (87, .int 0)]) (σ := [zP, cnil e0 e1 e2 2, mpo vs, .cells [.dat (.lit (.slice none 0 0)), .int e0, .int e1, .int e2]]) (by simp [List.range_succ])).trans z
   by_cases hb : 16 < m0 \/ 16 < m1 \/ 16 < m2
   · rw [hcond.1 hb] at z
     rw [if_pos hb]
     cases hk with
     | nil => simp [F131, ru, Nd.d, zv, hv', hloop', z, pgD, codeD, len_nil, calm, alone, List.range_succ]
     | vec _ g => exact absurd rfl g
     | froz _ g => exact absurd rfl g
   · have hb' : (decide (m0 <= 16) && (decide (m1 <= 16) && decide (m2 <= 16))) = true := by
       rw [<- Bool.not_eq_false, <- hcond]; exact hb
     rw [hb'] at z
     rw [if_neg hb]
     cases hk with
     | nil => simp [F131, ru, Nd.d, zv, hv', hloop', z, pgD, codeD, len_nil, calm, alone, List.range_succ]
     | vec _ g => exact absurd rfl g
     | froz _ g => exact absurd rfl g
 | gr _ hne =>
   have hdat := icV_dat C
   have hvl := icV_len C
   rw [codeD_ne hne]
   by_cases h4 : 400 < C.length
   · rw [if_pos h4]
     have h4' : (400 : Int) < C.length := by omega
     simp [F131, ru, Nd.d, zv, hv', hloop', pgD, len_ow2, h4', calm, alone, List.range_succ]
   rw [if_neg h4]
   have h4' : ¬ (400 : Int) < C.length := by omega
   obtain ⟨σ', hk, z⟩ := k_all (KSt.vec (e0 := e0) (e1 := e1) (e2 := e2) C hne) q0 w0 q1 w1 q2 w2
   replace z := (Z_loop_cong (prog := base15) (k := 0) (b := F131l2) (fr := [(2, .ptr 0 0), (9, .ptr 4 0), (86, .dat (.agg [.lit (.int .i64 e0), .lit (.int .i64 e1), .lit (.int .i64 e2)])), (87, .int 0)]) (σ := [zP, cob e0 e1 e2 2 C.length 3, .vec (icV C), mpo vs, .cells [.own 2 C.length 2, .int e0, .int e1, .int e2]]) (by simp [List.range_succ])).trans z
   by_cases hb : 16 < m0 \/ 16 < m1 \/ 16 < m2
   · rw [hcond.1 hb] at z
     rw [if_pos hb]
     cases hk with
     | nil => exact absurd rfl hne
     | vec _ g => simp [F131, ru, Nd.d, zv, hv', hloop', z, pgD, len_ow2, h4', calm, alone, List.range_succ]
     | froz _ g => simp [F131, ru, Nd.d, zv, hv', hloop', z, pgD, len_ow2, h4', calm, alone, List.range_succ]
   · have hb' : (decide (m0 <= 16) && (decide (m1 <= 16) && decide (m2 <= 16))) = true := by
       rw [<- Bool.not_eq_false, <- hcond]; exact hb
     rw [hb'] at z
     rw [if_neg hb]
     cases hk with
     | nil => exact absurd rfl hne
     | vec _ g => simp [F131, ru, Nd.d, zv, hv', hloop', z, pgD, len_ow2, h4', hdat, hvl, calm, alone, List.range_succ]
     | froz _ g => simp [F131, ru, Nd.d, zv, hv', hloop', z, pgD, len_ow2, h4', hdat, hvl, calm, alone, List.range_succ]
end
end Go.Pm
end SDl
