/- Chapter 16: the law of effects. Chapter 16: the law of effects, the whole. -/
import Derived.Test.YtemenmjobfmelaaDoorPmV26
import Derived.Test.YtemenmjobfmelaaDoorPmV29
set_option linter.unusedSimpArgs false
set_option linter.unusedVariables false
section SV31
set_option linter.unusedSimpArgs false
set_option linter.unusedVariables false
namespace Go.Pm
open F
/-- The tick, the number of effects, their hash. -/
structure Ef (cs : List Int) (cnt h : Int) : Prop where
  t : getN cs 0 = 0
  c : getN cs 11 = cnt
  h : getN cs 12 = h
theorem low_ef {w : List Int} (h : Low w) : Ef w 0 0 := ⟨h 0 (by omega), h 11 (by omega), h 12 (by omega)⟩
theorem ef_start {w : List Int} {cnt h : Int} (hw : Ef w cnt h) (e fuel self other : Int) : Ef (startC w e fuel self other) cnt h := by
  unfold startC
  refine ⟨?_, ?_, ?_⟩
  · rw [getN_set_ne (by decide), getN_set_ne (by decide), getN_set_ne (by decide), getN_set_ne (by decide), getN_set_ne (by decide), hw.t]
  · rw [getN_set_ne (by decide), getN_set_ne (by decide), getN_set_ne (by decide), getN_set_ne (by decide), getN_set_ne (by decide), hw.c]
  · rw [getN_set_ne (by decide), getN_set_ne (by decide), getN_set_ne (by decide), getN_set_ne (by decide), getN_set_ne (by decide), hw.h]
section
variable {s : Su} {cs : List Int} {N : Nat} {c : List (Nat × Int)} {pc fuel v0 v1 n sp cnt h : Int}
theorem ef_push (hr : Rg cs N pc sp fuel v0 v1) (he : Ef cs cnt h) (hpc : 0 ≤ pc ∧ pc < c.length) (hf : 1 ≤ fuel) (hsp : 0 ≤ sp ∧ sp ≤ 1) (hi : insAt c pc = (1, n)) :
    Ef (stepR s c cs).cs cnt h ∧ (stepR s c cs).em = false ∧ (stepR s c cs).e = [0, 0, 0, 0] := by
  obtain ⟨e1, e2, e3, e4⟩ := stepR_yes (s := s) hr.pc hr.sp hr.fu hpc hf hi (by simp [exOk, popsN, pushN, operN]; omega) (by omega)
  have w3 : getI cs 7 = sp := hr.sp
  have hpl : plc s cs 1 n (popA cs 1) = 16 + sp := by
    show 16 + getI cs 7 - (0 : Nat) = _
    rw [w3]; simp
  have kp : ∀ j, j < 16 → j ≠ 6 → j ≠ 7 → j ≠ 8 → getN (postC s cs 1 n) j = getN cs j := fun j h1 h2 h3 h4 => postC_keep h2 h3 h4 (.inl rfl) (fun _ => by rw [hpl]; omega)
  rw [e2]
  refine ⟨⟨?_, ?_, ?_⟩, e3, e4⟩
  · rw [kp 0 (by omega) (by omega) (by omega) (by omega), he.t]
  · rw [kp 11 (by omega) (by omega) (by omega) (by omega), he.c]
  · rw [kp 12 (by omega) (by omega) (by omega) (by omega), he.h]
theorem ef_eff (hr : Rg cs N pc 2 fuel v0 v1) (h48 : 48 ≤ N) (he : Ef cs cnt h) (hcnt : 0 ≤ cnt ∧ cnt ≤ 40) (hpc : 0 ≤ pc ∧ pc < c.length) (hf : 1 ≤ fuel) (hi : insAt c pc = (20, 0)) :
    (stepR s c cs).cs.length = N ∧ (cnt < 40 → (∃ h', Ef (stepR s c cs).cs (cnt + 1) h') ∧ (stepR s c cs).em = true ∧ (stepR s c cs).e = [0, cnt, v0, v1]) ∧ (40 ≤ cnt → Ef (stepR s c cs).cs cnt h ∧ (stepR s c cs).em = false ∧ (stepR s c cs).e = [0, 0, 0, 0]) := by
  obtain ⟨e1, e2, e3, e4⟩ := stepR_yes (s := s) hr.pc hr.sp hr.fu hpc hf hi (by simp [exOk, popsN, pushN, operN]) (by omega)
  refine ⟨by rw [stepR_length, hr.len], ?_⟩
  rw [e2, e3, e4]
  have w3 : getI cs 7 = 2 := hr.sp
  have a0 : popA cs 20 = v0 := by simp [popA, popsN, w3]; exact hr.v0
  have a1 : popB cs 20 = v1 := by simp [popB, popsN, w3]; exact hr.v1
  have hl := hr.len
  have p11 : getI (preC cs 20) 11 = cnt := (preC_keep (j := 11) (by omega) (by omega) (by omega)).trans he.c
  have p0 : getI (preC cs 20) 0 = 0 := (preC_keep (j := 0) (by omega) (by omega) (by omega)).trans he.t
  have p12 : getN (preC cs 20) 12 = h := (preC_keep (j := 12) (by omega) (by omega) (by omega)).trans he.h
  have pp : postC s cs 20 0 = if 40 ≤ getI (preC cs 20) 11 then preC cs 20 else setI (setI (preC cs 20) 12 (effH (preC cs 20) (popA cs 20) (popB cs 20))) 11 (wr (getI (preC cs 20) 11 + 1)) := rfl
  have hpl : 12 < (preC cs 20).length := by simp; omega
  rw [pp, p11, a0, a1]
  generalize preC cs 20 = L at *
  refine ⟨fun hlt => ?_, fun hge => ?_⟩
  · rw [if_neg (by omega)]
    have w : wr (cnt + 1) = cnt + 1 := wrap64 _ (by omega)
    rw [w]
    refine ⟨⟨effH L v0 v1, ?_, ?_, ?_⟩, ?_, ?_⟩
    · rw [getN_set_ne (by decide), getN_set_ne (by decide)]; exact p0
    · rw [getN_set_eq (by decide) (by simp; omega)]
    · rw [getN_set_ne (by decide), getN_set_eq (by decide) hpl]
    · simp [exB, p11, hlt]
    · simp [exE, exB, p11, hlt, p0]
  · rw [if_pos hge]
    have hn : ¬ cnt < 40 := by omega
    exact ⟨⟨p0, p11, p12⟩, by simp [exB, p11, hn], by simp [exE, exB, p11, hn]⟩
end
def jS (s : Su) (c : List (Nat × Int)) (cs : List Int) (N : Nat) (lg : List D) (k : Nat) : S :=
  [suOb s, .cells [.msl 4 0 N N 1, .gsl lg k 2 5, .int 0], .cells [.msl 6 0 N N 1, .gsl lg k 2 7, .int 0], .cells [.dat (codeD true c), .int 0, .int 0, .int 0], .cells (ints cs), .tip (k * 2), .cells (ints cs), .tip (k * 2)]
def jFr (d : D) (K i kind hash j : Int) : Fr := [(1, .dat d), (7, .ptr 0 0), (8, .ptr 1 0), (9, .ptr 2 0), (10, .int K), (11, .int i), (12, .int kind), (13, .ptr 3 0), (14, .int hash), (15, .int j)]
section
variable {s : Su} {c : List (Nat × Int)} {cs cs' : List Int} {N : Nat} {lg lg' : List D} {k k' i j : Nat} {d : D} {K kind hash : Int} {ended : Bool}
theorem jnoA (hj : j < 2) (hst : Z prog16 (.call 52 [.iface 0 (.ptr 0 0), s.d, progD true c 0 0 0] (mem1 cs N lg k (k * 2))) = some (.ret (.tup [.bool ended, .dat (.agg (intsC [0, 0, 0, 0])), .bool false]) (mem1 cs' N lg' k' (k' * 2)))) :
    Z prog16 (.loop 0 F42l1 (jFr d K i kind hash j) (jS s c cs N lg k)) = Z prog16 (.loop 0 F42l1 (jFr d K i kind hash (j + 1 : Nat)) (jS s c cs' N lg' k')) := by
  have w2 := wrap64 ((j : Int) + 1) (by omega)
  have h3 : (j : Int) < 3 := by omega
  have b2 : decide ((j : Int) = 2) = false := by simp; omega
  simp only [mem1, Su.d, Su.c, progD, intsC, List.map] at hst
  rw [Z_loop_eq]
  simp [loopStep, run_F42l1, jFr, jS, suOb, Su.c, List.range_succ, h3, b2, w2, hst]
  refine Z_loop_cong ?_
  simp [List.range_succ]
theorem jnoB (hi : 40 ≤ i) (hst : Z prog16 (.call 52 [.iface 0 (.ptr 0 0), s.d, progD true c 0 0 0] (mem1 cs N lg k (k * 2))) = some (.ret (.tup [.bool ended, .dat (.agg (intsC [0, 0, 0, 0])), .bool false]) (mem1 cs' N lg' k' (k' * 2)))) :
    Z prog16 (.loop 0 F42l1 (jFr d K i kind hash 2) (jS s c cs N lg k)) = Z prog16 (.loop 0 F42l1 (jFr d K i kind hash 3) (jS s c cs' N lg' k')) := by
  have w2 : IntKind.i64.wrap 3 = 3 := rfl
  have b2 : decide ((i : Int) < 40) = false := by simp; omega
  simp only [mem1, Su.d, Su.c, progD, intsC, List.map] at hst
  rw [Z_loop_eq]
  simp [loopStep, run_F42l1, jFr, jS, suOb, Su.c, List.range_succ, b2, w2, hst]
  refine Z_loop_cong ?_
  simp [List.range_succ]
theorem jyes (hi : i < 40) (hst : Z prog16 (.call 52 [.iface 0 (.ptr 0 0), s.d, progD true c 0 0 0] (mem1 cs N lg k (k * 2))) = some (.ret (.tup [.bool ended, .dat (.agg (intsC [0, i, kind, i])), .bool true]) (mem1 cs' N lg' k' (k' * 2)))) :
    Z prog16 (.loop 0 F42l1 (jFr d K i kind hash 2) (jS s c cs N lg k)) = Z prog16 (.loop 0 F42l1 (jFr d K i kind hash 3) (jS s c cs' N lg' k')) := by
  have w2 : IntKind.i64.wrap 3 = 3 := rfl
  have b2 : decide ((i : Int) < 40) = true := by simp; omega
  simp only [mem1, Su.d, Su.c, progD, intsC, List.map] at hst
  rw [Z_loop_eq]
  simp [loopStep, run_F42l1, jFr, jS, suOb, Su.c, List.range_succ, b2, w2, hst]
  refine Z_loop_cong ?_
  simp [List.range_succ]
theorem jend : Z prog16 (.loop 0 F42l1 (jFr d K i kind hash 3) (jS s c cs N lg k)) = some (.out (.exit 2) (jFr d K i kind hash 3 ++ [(70, .bool false)]) (jS s c cs N lg k)) := by
  rw [Z_loop_eq]
  simp [loopStep, run_F42l1, jFr, jS, suOb, Su.c, List.range_succ]
end
/-- The three steps. -/
theorem jall {s : Su} (hs : s.ok) {d : D} {K kind hash : Int} {i : Nat} (hi : i < 50) {cs : List Int} {v0 v1 : Int} (hr : Rg cs s.n 0 0 3 v0 v1) (he : Ef cs (min i 40) hash) {lg : List D} {k : Nat} (hl : lg.length = k * 2) (hk : k < 5000) :
    ∃ cs' hash' lg' k', cs'.length = s.n ∧ Ef cs' (min (i + 1) 40) hash' ∧ (40 ≤ i → hash' = hash) ∧ lg'.length = k' * 2 ∧ k' ≤ k + 18 ∧
    Z prog16 (.loop 0 F42l1 (jFr d K i kind hash 0) (jS s [(1, kind), (1, (i : Int)), (20, 0)] cs s.n lg k)) = some (.out (.exit 2) (jFr d K i kind hash 3 ++ [(70, .bool false)]) (jS s [(1, kind), (1, (i : Int)), (20, 0)] cs' s.n lg' k')) := by
  have hN : 48 ≤ s.n := by unfold Su.n; omega
  obtain ⟨c, hc⟩ : ∃ c : List (Nat × Int), c = [(1, kind), (1, (i : Int)), (20, 0)] := ⟨_, rfl⟩
  rw [← hc]
  have hm : ∀ x ∈ c, 1 ≤ x.1 ∧ x.1 ≤ 21 := by rw [hc]; simp
  have hcl : c.length = 3 := by rw [hc]; rfl
  have i0 : insAt c 0 = (1, kind) := by rw [hc]; rfl
  have i1 : insAt c (0 + 1) = (1, (i : Int)) := by rw [hc]; rfl
  have i2 : insAt c (0 + 1 + 1) = (20, 0) := by rw [hc]; rfl
  obtain ⟨lg1, k1, a1, b1, c1⟩ := any1 s c true 0 0 0 cs s.n lg k hl (by omega) hs hr.len rfl hm (by omega)
  have r1 := (rg_push (s := s) (c := c) (n := kind) hr hN (by omega) (by omega) (by omega) i0).2
  obtain ⟨f1, g1, t1⟩ := ef_push (s := s) (c := c) (n := kind) hr he (by omega) (by omega) (by omega) i0
  rw [StR.v, g1, t1] at c1
  obtain ⟨lg2, k2, a2, b2, c2⟩ := any1 s c true 0 0 0 _ s.n lg1 k1 a1 (by omega) hs r1.len rfl hm (by omega)
  have r2 := (rg_push (s := s) (c := c) (n := (i : Int)) r1 hN (by omega) (by omega) (by omega) i1).2
  obtain ⟨f2, g2, t2⟩ := ef_push (s := s) (c := c) (n := (i : Int)) r1 f1 (by omega) (by omega) (by omega) i1
  rw [StR.v, g2, t2] at c2
  obtain ⟨lg3, k3, a3, b3, c3⟩ := any1 s c true 0 0 0 _ s.n lg2 k2 a2 (by omega) hs r2.len rfl hm (by omega)
  simp only [Int.reduceAdd, if_true, Int.reduceEq, if_false] at r2
  obtain ⟨q1, q2, q3⟩ := ef_eff (s := s) (c := c) r2 hN f2 (by omega) (by omega) (by omega) i2
  have z1 := jnoA (d := d) (K := K) (kind := kind) (hash := hash) (i := i) (j := 0) (by omega) c1
  have z2 := jnoA (d := d) (K := K) (kind := kind) (hash := hash) (i := i) (j := 1) (by omega) c2
  by_cases hlt : i < 40
  · obtain ⟨⟨h', f3⟩, g3, t3⟩ := q2 (by omega)
    rw [StR.v, g3, t3, show min (i : Int) 40 = i by omega] at c3
    have z3 := jyes (d := d) (K := K) (kind := kind) (hash := hash) (i := i) hlt c3
    refine ⟨_, h', lg3, k3, q1, ?_, by omega, a3, by omega, z1.trans (z2.trans (z3.trans jend))⟩
    rw [show min ((i : Int) + 1) 40 = min (i : Int) 40 + 1 by omega]
    exact f3
  · obtain ⟨f3, g3, t3⟩ := q3 (by omega)
    rw [StR.v, g3, t3] at c3
    have z3 := jnoB (d := d) (K := K) (kind := kind) (hash := hash) (i := i) (by omega) c3
    refine ⟨_, hash, lg3, k3, q1, ?_, fun _ => rfl, a3, by omega, z1.trans (z2.trans (z3.trans jend))⟩
    rw [show min ((i : Int) + 1) 40 = min (i : Int) 40 by omega]
    exact f3
def oS (s : Su) (cs : List Int) (N : Nat) : Option (List D × Nat) → S
  | none => [suOb s, .cells [.msl 3 0 N N 1, .dat (.lit (.slice none 0 0)), .int 0], .cells [.msl 4 0 N N 1, .dat (.lit (.slice none 0 0)), .int 0], .cells (ints cs), .cells (ints cs)]
  | some (lg, k) => [suOb s, .cells [.msl 3 0 N N 1, .gsl lg k 2 4, .int 0], .cells [.msl 5 0 N N 1, .gsl lg k 2 6, .int 0], .cells (ints cs), .tip (k * 2), .cells (ints cs), .tip (k * 2)]
def pFr (d : D) (K i : Int) : Fr := [(1, .dat d), (7, .ptr 0 0), (8, .ptr 1 0), (9, .ptr 2 0), (10, .int K), (11, .int i)]
/-- The kind that is drawn. -/
theorem kind_Z {d : D} {xs : List Int} (hd : IsRow d xs) (hx : ∀ x ∈ xs, I64 x) (i : Nat) (hi : i < xs.length) :
    ∃ v kind, sliceAddr 1 (.dat d) i = some (.dat (.imm (intsC xs) i)) ∧ cutCells (intsC xs) i 1 = some [.lit (.int .i64 v)] ∧ Z prog16 (.call 53 [.int v, .int 2147483647] []) = some (.ret (.int kind) []) := by
  have e0 := hd.at_ i (by omega) (by omega)
  rw [show ((i : Int)).toNat = i by omega] at e0
  obtain ⟨m, _, _, hm⟩ := bound_Z (hx _ (getN_mem (xs := xs) (i := i) (by omega)))
  exact ⟨_, m, e0, cut1_intsC xs i (by omega), hm⟩
section
variable {s : Su} {d : D} {xs : List Int} {cs cs1 cs' : List Int} {N : Nat} {lg lg1 lg' : List D} {k k1 k' i : Nat} {K kind hash hash' v : Int}
set_option maxHeartbeats 8000000
theorem ononeA (hd : IsRow d xs) (hi : i < xs.length) (hK : (i : Int) < K) (hi2 : i < 50) (s1 : sliceAddr 1 (.dat d) i = some (.dat (.imm (intsC xs) i))) (s2 : cutCells (intsC xs) i 1 = some [.lit (.int .i64 v)]) (s3 : Z prog16 (.call 53 [.int v, .int 2147483647] []) = some (.ret (.int kind) []))
    (g1 : Z prog16 (.call 51 [.ptr 0 0, .int 12] (mem0 cs N)) = some (.ret (.int hash) (mem0 cs N)))
    (hb : Z prog16 (.call 49 [.iface 0 (.ptr 0 0), progD true [(1, kind), (1, (i : Int)), (20, 0)] 0 0 0, .int 0, .int 0, .int 0, .int 3] (mem0 cs N)) = some (.ret (.bool true) (mem1 cs1 N lg1 k1 (k1 * 2))))
    (hl : Z prog16 (.loop 0 F42l1 (jFr d K i kind hash 0) (jS s [(1, kind), (1, (i : Int)), (20, 0)] cs1 N lg1 k1)) = some (.out (.exit 2) (jFr d K i kind hash 3 ++ [(70, .bool false)]) (jS s [(1, kind), (1, (i : Int)), (20, 0)] cs' N lg' k')))
    (g2 : Z prog16 (.call 51 [.ptr 0 0, .int 12] (mem1 cs' N lg' k' (k' * 2))) = some (.ret (.int hash') (mem1 cs' N lg' k' (k' * 2))))
    (hh : 40 ≤ i → hash' = hash) :
    Z prog16 (.loop 0 F42l0 (pFr d K i) (oS s cs N (none))) = Z prog16 (.loop 0 F42l0 (pFr d K (i + 1 : Nat)) (oS s cs' N (some (lg', k')))) := by
  have k1' : (i : Int) < xs.length := by omega
  have w1 := wrap64 ((i : Int) + 1) (by omega)
  have hcd : codeD true [(1, kind), (1, (i : Int)), (20, 0)] = .sl [.lit (.int .i64 1), .lit (.int .i64 kind), .lit (.int .i64 1), .lit (.int .i64 i), .lit (.int .i64 20), .lit (.int .i64 0)] 3 true := rfl
  have hl' := (Z_loop_cong (k := 0) (b := F42l1) (fr := [(1, .dat d), (7, .ptr 0 0), (8, .ptr 1 0), (9, .ptr 2 0), (10, .int K), (11, .int i), (12, .int kind), (13, .ptr 5 0), (14, .int hash), (15, .int 0)]) (σ := [suOb s, .cells [.msl 3 0 N N 1, .gsl lg1 k1 2 6, .int 0], .cells [.msl 4 0 N N 1, .gsl lg1 k1 2 7, .int 0], .cells (ints cs1), .cells (ints cs1), .cells [.dat (codeD true [(1, kind), (1, (i : Int)), (20, 0)]), .int 0, .int 0, .int 0], .tip (k1 * 2), .tip (k1 * 2)]) (by simp [jFr, jS, suOb, Su.c, List.range_succ])).trans hl
  simp only [jFr, jS, oS, suOb, mem0, mem1, progD, Su.d, Su.c, List.map, hcd] at *
  rw [Z_loop_eq (prog := prog16) 0 F42l0 (pFr d K i)]
  by_cases h40 : (40 : Int) ≤ i
  · have hh' := hh (by omega)
    subst hh'
    simp [loopStep, run_F42l0, pFr, List.range_succ, hd.len, hK, k1', g1, hb, hl', g2, w1, s1, s2, s3, h40]
    refine Z_loop_cong ?_
    simp [pFr, List.range_succ]
  · simp [loopStep, run_F42l0, pFr, List.range_succ, hd.len, hK, k1', g1, hb, hl', g2, w1, s1, s2, s3, h40]
    refine Z_loop_cong ?_
    simp [pFr, List.range_succ]
theorem ononeB (hd : IsRow d xs) (hi : ¬ i < xs.length) (hK : (i : Int) < K) (hi2 : i < 50) (hk0 : kind = 0)
    (g1 : Z prog16 (.call 51 [.ptr 0 0, .int 12] (mem0 cs N)) = some (.ret (.int hash) (mem0 cs N)))
    (hb : Z prog16 (.call 49 [.iface 0 (.ptr 0 0), progD true [(1, kind), (1, (i : Int)), (20, 0)] 0 0 0, .int 0, .int 0, .int 0, .int 3] (mem0 cs N)) = some (.ret (.bool true) (mem1 cs1 N lg1 k1 (k1 * 2))))
    (hl : Z prog16 (.loop 0 F42l1 (jFr d K i kind hash 0) (jS s [(1, kind), (1, (i : Int)), (20, 0)] cs1 N lg1 k1)) = some (.out (.exit 2) (jFr d K i kind hash 3 ++ [(70, .bool false)]) (jS s [(1, kind), (1, (i : Int)), (20, 0)] cs' N lg' k')))
    (g2 : Z prog16 (.call 51 [.ptr 0 0, .int 12] (mem1 cs' N lg' k' (k' * 2))) = some (.ret (.int hash') (mem1 cs' N lg' k' (k' * 2))))
    (hh : 40 ≤ i → hash' = hash) :
    Z prog16 (.loop 0 F42l0 (pFr d K i) (oS s cs N (none))) = Z prog16 (.loop 0 F42l0 (pFr d K (i + 1 : Nat)) (oS s cs' N (some (lg', k')))) := by
  have k1' : ¬ (i : Int) < xs.length := by omega
  subst hk0
  have w1 := wrap64 ((i : Int) + 1) (by omega)
  have hcd : codeD true [(1, 0), (1, (i : Int)), (20, 0)] = .sl [.lit (.int .i64 1), .lit (.int .i64 0), .lit (.int .i64 1), .lit (.int .i64 i), .lit (.int .i64 20), .lit (.int .i64 0)] 3 true := rfl
  have hl' := (Z_loop_cong (k := 0) (b := F42l1) (fr := [(1, .dat d), (7, .ptr 0 0), (8, .ptr 1 0), (9, .ptr 2 0), (10, .int K), (11, .int i), (12, .int 0), (13, .ptr 5 0), (14, .int hash), (15, .int 0)]) (σ := [suOb s, .cells [.msl 3 0 N N 1, .gsl lg1 k1 2 6, .int 0], .cells [.msl 4 0 N N 1, .gsl lg1 k1 2 7, .int 0], .cells (ints cs1), .cells (ints cs1), .cells [.dat (codeD true [(1, 0), (1, (i : Int)), (20, 0)]), .int 0, .int 0, .int 0], .tip (k1 * 2), .tip (k1 * 2)]) (by simp [jFr, jS, suOb, Su.c, List.range_succ])).trans hl
  simp only [jFr, jS, oS, suOb, mem0, mem1, progD, Su.d, Su.c, List.map, hcd] at *
  rw [Z_loop_eq (prog := prog16) 0 F42l0 (pFr d K i)]
  by_cases h40 : (40 : Int) ≤ i
  · have hh' := hh (by omega)
    subst hh'
    simp [loopStep, run_F42l0, pFr, List.range_succ, hd.len, hK, k1', g1, hb, hl', g2, w1, h40]
    refine Z_loop_cong ?_
    simp [pFr, List.range_succ]
  · simp [loopStep, run_F42l0, pFr, List.range_succ, hd.len, hK, k1', g1, hb, hl', g2, w1, h40]
    refine Z_loop_cong ?_
    simp [pFr, List.range_succ]
theorem osomeA (hd : IsRow d xs) (hi : i < xs.length) (hK : (i : Int) < K) (hi2 : i < 50) (s1 : sliceAddr 1 (.dat d) i = some (.dat (.imm (intsC xs) i))) (s2 : cutCells (intsC xs) i 1 = some [.lit (.int .i64 v)]) (s3 : Z prog16 (.call 53 [.int v, .int 2147483647] []) = some (.ret (.int kind) []))
    (g1 : Z prog16 (.call 51 [.ptr 0 0, .int 12] (mem1 cs N lg k (k * 2))) = some (.ret (.int hash) (mem1 cs N lg k (k * 2))))
    (hb : Z prog16 (.call 49 [.iface 0 (.ptr 0 0), progD true [(1, kind), (1, (i : Int)), (20, 0)] 0 0 0, .int 0, .int 0, .int 0, .int 3] (mem1 cs N lg k (k * 2))) = some (.ret (.bool true) (mem1 cs1 N lg1 k1 (k1 * 2))))
    (hl : Z prog16 (.loop 0 F42l1 (jFr d K i kind hash 0) (jS s [(1, kind), (1, (i : Int)), (20, 0)] cs1 N lg1 k1)) = some (.out (.exit 2) (jFr d K i kind hash 3 ++ [(70, .bool false)]) (jS s [(1, kind), (1, (i : Int)), (20, 0)] cs' N lg' k')))
    (g2 : Z prog16 (.call 51 [.ptr 0 0, .int 12] (mem1 cs' N lg' k' (k' * 2))) = some (.ret (.int hash') (mem1 cs' N lg' k' (k' * 2))))
    (hh : 40 ≤ i → hash' = hash) :
    Z prog16 (.loop 0 F42l0 (pFr d K i) (oS s cs N (some (lg, k)))) = Z prog16 (.loop 0 F42l0 (pFr d K (i + 1 : Nat)) (oS s cs' N (some (lg', k')))) := by
  have k1' : (i : Int) < xs.length := by omega
  have w1 := wrap64 ((i : Int) + 1) (by omega)
  have hcd : codeD true [(1, kind), (1, (i : Int)), (20, 0)] = .sl [.lit (.int .i64 1), .lit (.int .i64 kind), .lit (.int .i64 1), .lit (.int .i64 i), .lit (.int .i64 20), .lit (.int .i64 0)] 3 true := rfl
  have hl' := (Z_loop_cong (k := 0) (b := F42l1) (fr := [(1, .dat d), (7, .ptr 0 0), (8, .ptr 1 0), (9, .ptr 2 0), (10, .int K), (11, .int i), (12, .int kind), (13, .ptr 7 0), (14, .int hash), (15, .int 0)]) (σ := [suOb s, .cells [.msl 3 0 N N 1, .gsl lg1 k1 2 4, .int 0], .cells [.msl 5 0 N N 1, .gsl lg1 k1 2 6, .int 0], .cells (ints cs1), .tip (k1 * 2), .cells (ints cs1), .tip (k1 * 2), .cells [.dat (codeD true [(1, kind), (1, (i : Int)), (20, 0)]), .int 0, .int 0, .int 0]]) (by simp [jFr, jS, suOb, Su.c, List.range_succ])).trans hl
  simp only [jFr, jS, oS, suOb, mem0, mem1, progD, Su.d, Su.c, List.map, hcd] at *
  rw [Z_loop_eq (prog := prog16) 0 F42l0 (pFr d K i)]
  by_cases h40 : (40 : Int) ≤ i
  · have hh' := hh (by omega)
    subst hh'
    simp [loopStep, run_F42l0, pFr, List.range_succ, hd.len, hK, k1', g1, hb, hl', g2, w1, s1, s2, s3, h40]
    refine Z_loop_cong ?_
    simp [pFr, List.range_succ]
  · simp [loopStep, run_F42l0, pFr, List.range_succ, hd.len, hK, k1', g1, hb, hl', g2, w1, s1, s2, s3, h40]
    refine Z_loop_cong ?_
    simp [pFr, List.range_succ]
theorem osomeB (hd : IsRow d xs) (hi : ¬ i < xs.length) (hK : (i : Int) < K) (hi2 : i < 50) (hk0 : kind = 0)
    (g1 : Z prog16 (.call 51 [.ptr 0 0, .int 12] (mem1 cs N lg k (k * 2))) = some (.ret (.int hash) (mem1 cs N lg k (k * 2))))
    (hb : Z prog16 (.call 49 [.iface 0 (.ptr 0 0), progD true [(1, kind), (1, (i : Int)), (20, 0)] 0 0 0, .int 0, .int 0, .int 0, .int 3] (mem1 cs N lg k (k * 2))) = some (.ret (.bool true) (mem1 cs1 N lg1 k1 (k1 * 2))))
    (hl : Z prog16 (.loop 0 F42l1 (jFr d K i kind hash 0) (jS s [(1, kind), (1, (i : Int)), (20, 0)] cs1 N lg1 k1)) = some (.out (.exit 2) (jFr d K i kind hash 3 ++ [(70, .bool false)]) (jS s [(1, kind), (1, (i : Int)), (20, 0)] cs' N lg' k')))
    (g2 : Z prog16 (.call 51 [.ptr 0 0, .int 12] (mem1 cs' N lg' k' (k' * 2))) = some (.ret (.int hash') (mem1 cs' N lg' k' (k' * 2))))
    (hh : 40 ≤ i → hash' = hash) :
    Z prog16 (.loop 0 F42l0 (pFr d K i) (oS s cs N (some (lg, k)))) = Z prog16 (.loop 0 F42l0 (pFr d K (i + 1 : Nat)) (oS s cs' N (some (lg', k')))) := by
  have k1' : ¬ (i : Int) < xs.length := by omega
  subst hk0
  have w1 := wrap64 ((i : Int) + 1) (by omega)
  have hcd : codeD true [(1, 0), (1, (i : Int)), (20, 0)] = .sl [.lit (.int .i64 1), .lit (.int .i64 0), .lit (.int .i64 1), .lit (.int .i64 i), .lit (.int .i64 20), .lit (.int .i64 0)] 3 true := rfl
  have hl' := (Z_loop_cong (k := 0) (b := F42l1) (fr := [(1, .dat d), (7, .ptr 0 0), (8, .ptr 1 0), (9, .ptr 2 0), (10, .int K), (11, .int i), (12, .int 0), (13, .ptr 7 0), (14, .int hash), (15, .int 0)]) (σ := [suOb s, .cells [.msl 3 0 N N 1, .gsl lg1 k1 2 4, .int 0], .cells [.msl 5 0 N N 1, .gsl lg1 k1 2 6, .int 0], .cells (ints cs1), .tip (k1 * 2), .cells (ints cs1), .tip (k1 * 2), .cells [.dat (codeD true [(1, 0), (1, (i : Int)), (20, 0)]), .int 0, .int 0, .int 0]]) (by simp [jFr, jS, suOb, Su.c, List.range_succ])).trans hl
  simp only [jFr, jS, oS, suOb, mem0, mem1, progD, Su.d, Su.c, List.map, hcd] at *
  rw [Z_loop_eq (prog := prog16) 0 F42l0 (pFr d K i)]
  by_cases h40 : (40 : Int) ≤ i
  · have hh' := hh (by omega)
    subst hh'
    simp [loopStep, run_F42l0, pFr, List.range_succ, hd.len, hK, k1', g1, hb, hl', g2, w1, h40]
    refine Z_loop_cong ?_
    simp [pFr, List.range_succ]
  · simp [loopStep, run_F42l0, pFr, List.range_succ, hd.len, hK, k1', g1, hb, hl', g2, w1, h40]
    refine Z_loop_cong ?_
    simp [pFr, List.range_succ]
end
end Go.Pm
end SV31
section SV32
set_option linter.unusedSimpArgs false
set_option linter.unusedVariables false
namespace Go.Pm
open F
theorem oround {s : Su} (hs : s.ok) {d : D} {xs : List Int} (hd : IsRow d xs) (hx : ∀ x ∈ xs, I64 x) {K hash : Int} {i : Nat} (hK : (i : Int) < K) (hK2 : K ≤ 50) {cs : List Int} (hN : cs.length = s.n) (he : Ef cs (min i 40) hash) (M : Option (List D × Nat)) {b : Nat} (hM : okM M b) (hb : b < 4000) :
    ∃ cs' hash' M', cs'.length = s.n ∧ Ef cs' (min (i + 1) 40) hash' ∧ okM (some M') (b + 25) ∧ Z prog16 (.loop 0 F42l0 (pFr d K i) (oS s cs s.n M)) = Z prog16 (.loop 0 F42l0 (pFr d K (i + 1 : Nat)) (oS s cs' s.n (some M'))) := by
  have h48 : 48 ≤ s.n := by unfold Su.n; omega
  have hi2 : i < 50 := by omega
  obtain ⟨kind, v, hkind⟩ : ∃ kind v, (i < xs.length ∧ sliceAddr 1 (.dat d) i = some (.dat (.imm (intsC xs) i)) ∧ cutCells (intsC xs) i 1 = some [.lit (.int .i64 v)] ∧ Z prog16 (.call 53 [.int v, .int 2147483647] []) = some (.ret (.int kind) [])) ∨ (¬ i < xs.length ∧ kind = 0) := by
    by_cases h : i < xs.length
    · obtain ⟨v, kind, h1, h2, h3⟩ := kind_Z hd hx i h
      exact ⟨kind, v, .inl ⟨h, h1, h2, h3⟩⟩
    · exact ⟨0, 0, .inr ⟨h, rfl⟩⟩
  cases M with
  | none =>
    obtain ⟨lg1, k1, a1, a2, a3⟩ := begin0_Z [(1, kind), (1, (i : Int)), (20, 0)] true 0 0 0 0 0 0 3 cs s.n hN h48 (by simp [entI])
    rw [show entI 0 0 0 0 = 0 from rfl] at a3
    obtain ⟨cs', hash', lg', k', b1, b2, b3, b4, b5, b6⟩ := jall (d := d) (K := K) (kind := kind) hs hi2 (rg_start cs s.n hN h48 0 3 0 0) (ef_start he 0 3 0 0) a1 (by omega)
    have g1 := get0_Z (cs := cs) (n := s.n) (i := 12) hN (by omega) (by omega)
    have g2 := get1_Z (cs := cs') (n := s.n) (lg := lg') (k := k') (t := k' * 2) (i := 12) b1 (by omega) (by omega)
    rw [show getI cs 12 = hash from he.h] at g1
    rw [show getI cs' 12 = hash' from b2.h] at g2
    refine ⟨cs', hash', (lg', k'), b1, b2, ⟨b4, by omega⟩, ?_⟩
    rcases hkind with ⟨h, h1, h2, h3⟩ | ⟨h, h0⟩
    · exact ononeA hd h hK hi2 h1 h2 h3 g1 a3 b6 g2 b3
    · exact ononeB hd h hK hi2 h0 g1 a3 b6 g2 b3
  | some q =>
    obtain ⟨lg, k⟩ := q
    obtain ⟨m1, m2⟩ := hM
    obtain ⟨lg1, k1, a1, a2, a3⟩ := begin1_Z [(1, kind), (1, (i : Int)), (20, 0)] true 0 0 0 0 0 0 3 cs s.n lg k m1 (by omega) hN h48 (by simp [entI])
    rw [show entI 0 0 0 0 = 0 from rfl] at a3
    obtain ⟨cs', hash', lg', k', b1, b2, b3, b4, b5, b6⟩ := jall (d := d) (K := K) (kind := kind) hs hi2 (rg_start cs s.n hN h48 0 3 0 0) (ef_start he 0 3 0 0) a1 (by omega)
    have g1 := get1_Z (cs := cs) (n := s.n) (lg := lg) (k := k) (t := k * 2) (i := 12) hN (by omega) (by omega)
    have g2 := get1_Z (cs := cs') (n := s.n) (lg := lg') (k := k') (t := k' * 2) (i := 12) b1 (by omega) (by omega)
    rw [show getI cs 12 = hash from he.h] at g1
    rw [show getI cs' 12 = hash' from b2.h] at g2
    refine ⟨cs', hash', (lg', k'), b1, b2, ⟨b4, by omega⟩, ?_⟩
    rcases hkind with ⟨h, h1, h2, h3⟩ | ⟨h, h0⟩
    · exact osomeA hd h hK hi2 h1 h2 h3 g1 a3 b6 g2 b3
    · exact osomeB hd h hK hi2 h0 g1 a3 b6 g2 b3
theorem oend (s : Su) (d : D) (K : Int) (cs : List Int) (N : Nat) (M : Option (List D × Nat)) :
    Z prog16 (.loop 0 F42l0 (pFr d K K) (oS s cs N M)) = some (.out (.exit 0) (pFr d K K ++ [(40, .bool false)]) (oS s cs N M)) := by
  cases M with
  | none =>
    rw [Z_loop_eq]
    simp [loopStep, run_F42l0, pFr, oS, suOb, Su.c, List.range_succ]
  | some m =>
    obtain ⟨lg, kk⟩ := m
    rw [Z_loop_eq]
    simp [loopStep, run_F42l0, pFr, oS, suOb, Su.c, List.range_succ]
theorem oall {s : Su} (hs : s.ok) {d : D} {xs : List Int} (hd : IsRow d xs) (hx : ∀ x ∈ xs, I64 x) {K : Int} (hK2 : K ≤ 50) (m : Nat) :
    ∀ (i : Nat) (cs : List Int) (hash : Int) (M : Option (List D × Nat)) (b : Nat), i + m = K → cs.length = s.n → Ef cs (min i 40) hash → okM M b → b + 25 * m < 4000 →
    ∃ cs' hash' M', cs'.length = s.n ∧ Ef cs' (min K 40) hash' ∧ Z prog16 (.loop 0 F42l0 (pFr d K i) (oS s cs s.n M)) = some (.out (.exit 0) (pFr d K K ++ [(40, .bool false)]) (oS s cs' s.n M')) := by
  induction m with
  | zero =>
    intro i cs hash M b hi hN he hM hb
    have : K = i := by omega
    subst this
    exact ⟨cs, hash, M, hN, he, oend s d i cs s.n M⟩
  | succ m ih =>
    intro i cs hash M b hi hN he hM hb
    obtain ⟨cs1, h1, M1, a1, a2, a3, a4⟩ := oround hs hd hx (K := K) (i := i) (by omega) hK2 hN he M hM (by omega)
    obtain ⟨cs2, h2, M2, b1, b2, b3⟩ := ih (i + 1) cs1 h1 (some M1) (b + 25) (by omega) a1 (by rw [show (((i + 1 : Nat)) : Int) = i + 1 by omega]; exact a2) a3 (by omega)
    exact ⟨cs2, h2, M2, b1, b2, a4.trans b3⟩
set_option maxHeartbeats 4000000 in
theorem vmEffects_Z {d1 d2 : D} {xs1 xs2 : List Int} (h1 : IsRow d1 xs1) (i1 : ∀ x ∈ xs1, I64 x) (h2 : IsRow d2 xs2) (i2 : ∀ x ∈ xs2, I64 x) {n : Int} (hn : I64 n) :
    Z prog16 (.call 42 [.dat d1, .dat d2, .int n] []) = some (.ret (.bool true) []) := by
  obtain ⟨s, bs, hs, hb, hbl, zs⟩ := setup_Z h1 i1
  obtain ⟨w, hw, hlow, zw⟩ := initial_Z s hs bs hb hbl
  have hp := hs.p3; have hq := hs.b5
  have hN : 48 ≤ s.n ∧ s.n < 1000 := by unfold Su.n; omega
  have zn := new_Z w s.n false hw (by omega)
  have za := around_Z hn (m := 50) (by omega)
  have hr := around_lt hn (m := 50) (by omega)
  generalize around n 50 = K at *
  obtain ⟨cs, hash, M, a1, a2, a3⟩ := oall hs h2 i2 (K := K) (by omega) K.toNat 0 w 0 none 0 (by omega) hw (low_ef hlow) trivial (by omega)
  have zl := (Z_loop_cong (k := 0) (b := F42l0) (fr := [(1, .dat d2), (7, .ptr 0 0), (8, .ptr 1 0), (9, .ptr 3 0), (10, .int K), (11, .int 0)]) (σ := [suOb s, .cells [.msl 2 0 s.n s.n 1, .dat (.lit (.slice none 0 0)), .int 0], .cells (ints w), .cells [.msl 4 0 s.n s.n 1, .dat (.lit (.slice none 0 0)), .int 0], .cells (ints w)]) (by simp [pFr, oS, suOb, Su.c, List.range_succ])).trans a3
  have hc := a2.c
  refine Z_call (pf := F42) rfl rfl ?_
  have hmin : (if 40 < K then 40 else K) = min K 40 := by split <;> omega
  cases M with
  | none =>
    have g1 := get0_Z (cs := cs) (n := s.n) (i := 11) a1 (by omega) (by omega)
    have g2 := get0_Z (cs := cs) (n := s.n) (i := 12) a1 (by omega) (by omega)
    rw [show getI cs 11 = min K 40 from hc] at g1
    simp only [suOb, mem0, mem1, Su.d, Su.c, List.map, pFr, oS] at *
    by_cases h40 : (40 : Int) < K
    · rw [show min K 40 = 40 by omega] at g1
      simp [F42, lits, minI, zs, zw, zn, za, zl, g1, g2, lives_Z, List.range_succ, h40]
    · rw [show min K 40 = K by omega] at g1
      simp [F42, lits, minI, zs, zw, zn, za, zl, g1, g2, lives_Z, List.range_succ, h40]
  | some m =>
    obtain ⟨lg, k⟩ := m
    have g1 := get1_Z (cs := cs) (n := s.n) (lg := lg) (k := k) (t := k * 2) (i := 11) a1 (by omega) (by omega)
    have g2 := get1_Z (cs := cs) (n := s.n) (lg := lg) (k := k) (t := k * 2) (i := 12) a1 (by omega) (by omega)
    rw [show getI cs 11 = min K 40 from hc] at g1
    simp only [suOb, mem0, mem1, Su.d, Su.c, List.map, pFr, oS] at *
    by_cases h40 : (40 : Int) < K
    · rw [show min K 40 = 40 by omega] at g1
      simp [F42, lits, minI, zs, zw, zn, za, zl, g1, g2, lives_Z, List.range_succ, h40]
    · rw [show min K 40 = K by omega] at g1
      simp [F42, lits, minI, zs, zw, zn, za, zl, g1, g2, lives_Z, List.range_succ, h40]
end Go.Pm
end SV32
