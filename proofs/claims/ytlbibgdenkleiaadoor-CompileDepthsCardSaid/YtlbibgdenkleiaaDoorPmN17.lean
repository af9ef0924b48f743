/- Chapter 15: Bent of code that is not empty. Chapter 15: Bent, whole. -/
import Derived.Test.YtlbibgdenkleiaaDoorPmN14
set_option linter.unusedSimpArgs false
set_option linter.unusedVariables false
section SN17
set_option linter.unusedSimpArgs false
set_option linter.unusedVariables false
namespace Go.Pm
open F Gr
set_option maxHeartbeats 4000000
theorem len_own2 (σ : S) (l N : Nat) : V.len σ .sl (.own l N 2) = some N := rfl
theorem allDat_map (B : List D) : allDat (B.map .dat) = some B := by
  induction B with
  | nil => rfl
  | cons x B ih => simp [allDat, ih]
theorem locsL_map (B : List D) : locsL (B.map .dat) = [] := by
  induction B with
  | nil => rfl
  | cons x B ih => simpa using ih
theorem renL_map (r : Nat → Nat) (B : List D) : renL r (B.map .dat) = B.map .dat := by
  induction B with
  | nil => rfl
  | cons x B ih => simpa using ih
theorem icC_setN (c1 c2 : Cd) (o n v : Int) : List.take (c1.length * 2 + 1) ((icC (c1 ++ (o, n) :: c2)).map V.dat) ++ V.dat (.lit (.int .i64 v)) :: List.drop (c1.length * 2 + 1 + 1) ((icC (c1 ++ (o, n) :: c2)).map V.dat) = (icC (c1 ++ (o, v) :: c2)).map V.dat := by
  have e : ∀ z : Int, icC (c1 ++ (o, z) :: c2) = (icC c1 ++ [.lit (.int .i64 o)]) ++ (.lit (.int .i64 z) :: icC c2) := fun z => by rw [icC_append, List.append_assoc]; rfl
  have l : (icC c1 ++ [D.lit (.int .i64 o)]).length = c1.length * 2 + 1 := by simp [icC_len c1]
  rw [e n, e v, ← List.map_take, ← List.map_drop, ← l, List.take_left, show (icC c1 ++ [D.lit (.int .i64 o)]).length + 1 = (icC c1 ++ [D.lit (.int .i64 o)]).length + 1 from rfl, List.drop_append, List.drop_of_length_le (by omega), show (icC c1 ++ [D.lit (.int .i64 o)]).length + 1 - (icC c1 ++ [D.lit (.int .i64 o)]).length = 1 by omega]
  simp
theorem icC_setO (c1 c2 : Cd) (o n v : Int) : List.take (c1.length * 2) ((icC (c1 ++ (o, n) :: c2)).map V.dat) ++ V.dat (.lit (.int .i64 v)) :: List.drop (c1.length * 2 + 1) ((icC (c1 ++ (o, n) :: c2)).map V.dat) = (icC (c1 ++ (v, n) :: c2)).map V.dat := by
  have e : ∀ z : Int, icC (c1 ++ (z, n) :: c2) = icC c1 ++ (.lit (.int .i64 z) :: .lit (.int .i64 n) :: icC c2) := fun z => by rw [icC_append]; rfl
  have l : (icC c1).length = c1.length * 2 := by simp [icC_len c1]
  rw [e o, e v, ← List.map_take, ← List.map_drop, ← l, List.take_left, List.drop_append, List.drop_of_length_le (by omega), show (icC c1).length + 1 - (icC c1).length = 1 by omega]
  simp
theorem icC_set2 (c1 c2 : Cd) (o n v w : Int) : List.take (c1.length * 2) ((icC (c1 ++ (o, n) :: c2)).map V.dat) ++ V.dat (.lit (.int .i64 v)) :: V.dat (.lit (.int .i64 w)) :: List.drop (c1.length * 2 + 2) ((icC (c1 ++ (o, n) :: c2)).map V.dat) = (icC (c1 ++ (v, w) :: c2)).map V.dat := by
  have e : ∀ y z : Int, icC (c1 ++ (y, z) :: c2) = icC c1 ++ (.lit (.int .i64 y) :: .lit (.int .i64 z) :: icC c2) := fun y z => by rw [icC_append]; rfl
  have l : (icC c1).length = c1.length * 2 := by simp [icC_len c1]
  rw [e o n, e v w, ← List.map_take, ← List.map_drop, ← l, List.take_left, List.drop_append, List.drop_of_length_le (by omega), show (icC c1).length + 2 - (icC c1).length = 2 by omega]
  simp
theorem bent_entry0 {d : D} {c : Cd} (hd : IsCodeS d c) (hc : c ≠ []) (hcl : c.length < 2^20) (e0 e1 e2 how by_ : Int) (hh : I64 how) (hb : I64 by_) (h8 : around how 9 = 8) (hk : (around by_ 1000000).tmod 3 = 0) :
    ∃ v : Int, Z prog15 (.call 124 [pgD d e0 e1 e2, .int how, .int by_] []) = some (.ret (pgD (.sl (icC c) c.length false) v e1 e2) []) := by
  have s0 := hd.src
  have hpos : 0 < c.length := List.length_pos_iff.2 hc
  have hone : (∀ x : V, x ∈ (icC c).map V.dat → x.one = true) = True := eq_true (icC_one c)
  have hone2 : (∀ x : D, x ∈ icC c → (V.dat x).one = true) = True := eq_true fun x hx => icC_one c _ (List.mem_map_of_mem hx)
  have hlen := icC_len c
  have w0 : IntKind.i64.wrap 3 = 3 := rfl
  have h1 := around15D hb (m := 1000000) (by omega)
  have b1 := around_lt hb (m := 1000000) (by omega)
  have h2 := around15D hh (m := 9) (by omega)
  rw [h8] at h2
  generalize around by_ 1000000 = n at *
  generalize hL : c.length = L at *
  generalize hB : icC c = B at *
  have hL0 : ¬ (L : Int) = 0 := by omega
  have hL0' : ¬ L = 0 := by omega
  have q3 := tdiv_rng b1.1 (m := 3) (by omega)
  have r3 := tmod_rng b1.1 (m := 3) (by omega)
  have q4 := tmod_rng q3.1 (m := (L : Int) + 3) (by omega)
  have w1 := wrap64 ((L : Int) + 3) (by omega)
  have w2 := wrap64 (n.tdiv 3) (by omega)
  have w3 := wrap64 ((n.tdiv 3).tmod ((L : Int) + 3) - 2) (by omega)
  have hL3 : ¬ (L : Int) + 3 = 0 := by omega
  have hroom : roomFor L 16 = true := by simp [roomFor]; omega
  obtain ⟨v, hv⟩ : ∃ v, (n.tdiv 3).tmod ((L : Int) + 3) - 2 = v := ⟨_, rfl⟩
  rw [hv] at w3
  refine ⟨v, ?_⟩
  refine Z_call (pf := F124) rfl rfl ?_
  simp [-srcO, F124, len_own2, allDat_map, locsL_map, renL_map, hone2, hlen, hroom, hL0, hL0', hL3, w0, w1, pgD, hd.is.one, hd.is.cells, s0, h1, h2, hk, hv, w2, w3]
theorem bent_entry1 {d : D} {c : Cd} (hd : IsCodeS d c) (hc : c ≠ []) (hcl : c.length < 2^20) (e0 e1 e2 how by_ : Int) (hh : I64 how) (hb : I64 by_) (h8 : around how 9 = 8) (hk : (around by_ 1000000).tmod 3 = 1) :
    ∃ v : Int, Z prog15 (.call 124 [pgD d e0 e1 e2, .int how, .int by_] []) = some (.ret (pgD (.sl (icC c) c.length false) e0 v e2) []) := by
  have s0 := hd.src
  have hpos : 0 < c.length := List.length_pos_iff.2 hc
  have hone : (∀ x : V, x ∈ (icC c).map V.dat → x.one = true) = True := eq_true (icC_one c)
  have hone2 : (∀ x : D, x ∈ icC c → (V.dat x).one = true) = True := eq_true fun x hx => icC_one c _ (List.mem_map_of_mem hx)
  have hlen := icC_len c
  have w0 : IntKind.i64.wrap 3 = 3 := rfl
  have h1 := around15D hb (m := 1000000) (by omega)
  have b1 := around_lt hb (m := 1000000) (by omega)
  have h2 := around15D hh (m := 9) (by omega)
  rw [h8] at h2
  generalize around by_ 1000000 = n at *
  generalize hL : c.length = L at *
  generalize hB : icC c = B at *
  have hL0 : ¬ (L : Int) = 0 := by omega
  have hL0' : ¬ L = 0 := by omega
  have q3 := tdiv_rng b1.1 (m := 3) (by omega)
  have r3 := tmod_rng b1.1 (m := 3) (by omega)
  have q4 := tmod_rng q3.1 (m := (L : Int) + 3) (by omega)
  have w1 := wrap64 ((L : Int) + 3) (by omega)
  have w2 := wrap64 (n.tdiv 3) (by omega)
  have w3 := wrap64 ((n.tdiv 3).tmod ((L : Int) + 3) - 2) (by omega)
  have hL3 : ¬ (L : Int) + 3 = 0 := by omega
  have hroom : roomFor L 16 = true := by simp [roomFor]; omega
  obtain ⟨v, hv⟩ : ∃ v, (n.tdiv 3).tmod ((L : Int) + 3) - 2 = v := ⟨_, rfl⟩
  rw [hv] at w3
  refine ⟨v, ?_⟩
  refine Z_call (pf := F124) rfl rfl ?_
  simp [-srcO, F124, len_own2, allDat_map, locsL_map, renL_map, hone2, hlen, hroom, hL0, hL0', hL3, w0, w1, pgD, hd.is.one, hd.is.cells, s0, h1, h2, hk, hv, w2, w3]
theorem bent_entry2 {d : D} {c : Cd} (hd : IsCodeS d c) (hc : c ≠ []) (hcl : c.length < 2^20) (e0 e1 e2 how by_ : Int) (hh : I64 how) (hb : I64 by_) (h8 : around how 9 = 8) (hk : (around by_ 1000000).tmod 3 = 2) :
    ∃ v : Int, Z prog15 (.call 124 [pgD d e0 e1 e2, .int how, .int by_] []) = some (.ret (pgD (.sl (icC c) c.length false) e0 e1 v) []) := by
  have s0 := hd.src
  have hpos : 0 < c.length := List.length_pos_iff.2 hc
  have hone : (∀ x : V, x ∈ (icC c).map V.dat → x.one = true) = True := eq_true (icC_one c)
  have hone2 : (∀ x : D, x ∈ icC c → (V.dat x).one = true) = True := eq_true fun x hx => icC_one c _ (List.mem_map_of_mem hx)
  have hlen := icC_len c
  have w0 : IntKind.i64.wrap 3 = 3 := rfl
  have h1 := around15D hb (m := 1000000) (by omega)
  have b1 := around_lt hb (m := 1000000) (by omega)
  have h2 := around15D hh (m := 9) (by omega)
  rw [h8] at h2
  generalize around by_ 1000000 = n at *
  generalize hL : c.length = L at *
  generalize hB : icC c = B at *
  have hL0 : ¬ (L : Int) = 0 := by omega
  have hL0' : ¬ L = 0 := by omega
  have q3 := tdiv_rng b1.1 (m := 3) (by omega)
  have r3 := tmod_rng b1.1 (m := 3) (by omega)
  have q4 := tmod_rng q3.1 (m := (L : Int) + 3) (by omega)
  have w1 := wrap64 ((L : Int) + 3) (by omega)
  have w2 := wrap64 (n.tdiv 3) (by omega)
  have w3 := wrap64 ((n.tdiv 3).tmod ((L : Int) + 3) - 2) (by omega)
  have hL3 : ¬ (L : Int) + 3 = 0 := by omega
  have hroom : roomFor L 16 = true := by simp [roomFor]; omega
  obtain ⟨v, hv⟩ : ∃ v, (n.tdiv 3).tmod ((L : Int) + 3) - 2 = v := ⟨_, rfl⟩
  rw [hv] at w3
  refine ⟨v, ?_⟩
  refine Z_call (pf := F124) rfl rfl ?_
  simp [-srcO, F124, len_own2, allDat_map, locsL_map, renL_map, hone2, hlen, hroom, hL0, hL0', hL3, w0, w1, pgD, hd.is.one, hd.is.cells, s0, h1, h2, hk, hv, w2, w3]
theorem bent_n {d : D} {c1 c2 : Cd} {o n0 : Int} (hd : IsCodeS d (c1 ++ (o, n0) :: c2)) (hcl : (c1 ++ (o, n0) :: c2).length < 2^20) (e0 e1 e2 how by_ : Int) (hh : I64 how) (hb : I64 by_) (h8 : 0 ≤ around how 9 ∧ around how 9 ≤ 3) (hk : around (how.tdiv 9) (c1 ++ (o, n0) :: c2).length = c1.length) :
    ∃ v : Int, Z prog15 (.call 124 [pgD d e0 e1 e2, .int how, .int by_] []) = some (.ret (pgD (.sl (icC (c1 ++ (o, v) :: c2)) (c1 ++ (o, n0) :: c2).length false) e0 e1 e2) []) := by
  have hc : c1 ++ (o, n0) :: c2 ≠ [] := by simp
  have hs := icC_setN c1 c2 o n0
  have hB' : ∀ v, (icC (c1 ++ (o, v) :: c2)).length = (c1 ++ (o, n0) :: c2).length * 2 := fun v => by rw [icC_len]; simp
  have hkl : c1.length < (c1 ++ (o, n0) :: c2).length := by simp
  have l1 := icC_len c1
  have l2 := icC_len c2
  have hll : (c1 ++ (o, n0) :: c2).length = c1.length + (c2.length + 1) := by simp
  generalize hcc : c1 ++ (o, n0) :: c2 = c at *
  have s0 := hd.src
  have hpos : 0 < c.length := List.length_pos_iff.2 hc
  have hone : (∀ x : V, x ∈ (icC c).map V.dat → x.one = true) = True := eq_true (icC_one c)
  have hone2 : (∀ x : D, x ∈ icC c → (V.dat x).one = true) = True := eq_true fun x hx => icC_one c _ (List.mem_map_of_mem hx)
  have hlen := icC_len c
  have w0 : IntKind.i64.wrap 3 = 3 := rfl
  have h1 := around15D hb (m := 1000000) (by omega)
  have b1 := around_lt hb (m := 1000000) (by omega)
  have h2 := around15D hh (m := 9) (by omega)
  have hq : I64 (how.tdiv 9) := by
    unfold I64 at *
    constructor
    · rcases Int.le_total 0 how with h | h
      · have := (Int.tdiv_nonneg h (show (0 : Int) ≤ 9 by omega)); omega
      · have : (-how).tdiv 9 = -(how.tdiv 9) := Int.neg_tdiv _ _
        have h2 : (-how).tdiv 9 = (-how) / 9 := Int.tdiv_eq_ediv_of_nonneg (by omega)
        omega
    · rcases Int.le_total 0 how with h | h
      · have h2 : how.tdiv 9 = how / 9 := Int.tdiv_eq_ediv_of_nonneg h
        omega
      · have : (-how).tdiv 9 = -(how.tdiv 9) := Int.neg_tdiv _ _
        have h2 : (-how).tdiv 9 = (-how) / 9 := Int.tdiv_eq_ediv_of_nonneg (by omega)
        omega
  have h3 := around15D hq (m := c.length) (by omega)
  rw [hk] at h3
  have w9 := wrap64 (how.tdiv 9) hq
  generalize around by_ 1000000 = n at *
  generalize around how 9 = g at *
  generalize hL : c.length = L at *
  generalize hB : icC c = B at *
  generalize hK : c1.length = K at *
  generalize hG : (fun v => icC (c1 ++ (o, v) :: c2)) = G at *
  have hG' : ∀ v, icC (c1 ++ (o, v) :: c2) = G v := fun v => by rw [← hG]
  simp only [hG'] at hs hB' ⊢
  have hL0 : ¬ (L : Int) = 0 := by omega
  have hL0' : ¬ L = 0 := by omega
  have hroom : roomFor L 16 = true := by simp [roomFor]; omega
  have hKL : (K : Int) < L := by omega
  have hle : K * 2 + 1 + 1 ≤ L * 2 := by omega
  have hle2 : K * 2 + 1 ≤ L * 2 := by omega
  have q4 := tmod_rng b1.1 (m := (L : Int) + 2) (by omega)
  have w1 := wrap64 ((L : Int) + 2) (by omega)
  have w3 := wrap64 (n.tmod ((L : Int) + 2) - 1) (by omega)
  have hL3 : ¬ (L : Int) + 2 = 0 := by omega
  obtain ⟨v, hv⟩ : ∃ v, n.tmod ((L : Int) + 2) - 1 = v := ⟨_, rfl⟩
  rw [hv] at w3
  refine ⟨v, ?_⟩
  refine Z_call (pf := F124) rfl rfl ?_
  obtain rfl | rfl | rfl | rfl : g = 0 ∨ g = 1 ∨ g = 2 ∨ g = 3 := by omega
  all_goals simp [-srcO, F124, len_own2, allDat_map, locsL_map, renL_map, hone2, hlen, hroom, hL0, hL0', hL3, hKL, w0, w1, pgD, hd.is.one, hd.is.cells, s0, h1, h2, h3, hv, w9, w3, sliceAddr, hle, hle2, hs, hB']
theorem bent_o {d : D} {c1 c2 : Cd} {o n0 : Int} (hd : IsCodeS d (c1 ++ (o, n0) :: c2)) (hcl : (c1 ++ (o, n0) :: c2).length < 2^20) (e0 e1 e2 how by_ : Int) (hh : I64 how) (hb : I64 by_) (h8 : around how 9 = 4 ∨ around how 9 = 5) (hk : around (how.tdiv 9) (c1 ++ (o, n0) :: c2).length = c1.length) :
    ∃ v : Int, Z prog15 (.call 124 [pgD d e0 e1 e2, .int how, .int by_] []) = some (.ret (pgD (.sl (icC (c1 ++ (v, n0) :: c2)) (c1 ++ (o, n0) :: c2).length false) e0 e1 e2) []) := by
  have hc : c1 ++ (o, n0) :: c2 ≠ [] := by simp
  have hs := icC_setO c1 c2 o n0
  have hB' : ∀ v, (icC (c1 ++ (v, n0) :: c2)).length = (c1 ++ (o, n0) :: c2).length * 2 := fun v => by rw [icC_len]; simp
  have hkl : c1.length < (c1 ++ (o, n0) :: c2).length := by simp
  have l1 := icC_len c1
  have l2 := icC_len c2
  have hll : (c1 ++ (o, n0) :: c2).length = c1.length + (c2.length + 1) := by simp
  generalize hcc : c1 ++ (o, n0) :: c2 = c at *
  have s0 := hd.src
  have hpos : 0 < c.length := List.length_pos_iff.2 hc
  have hone : (∀ x : V, x ∈ (icC c).map V.dat → x.one = true) = True := eq_true (icC_one c)
  have hone2 : (∀ x : D, x ∈ icC c → (V.dat x).one = true) = True := eq_true fun x hx => icC_one c _ (List.mem_map_of_mem hx)
  have hlen := icC_len c
  have w0 : IntKind.i64.wrap 3 = 3 := rfl
  have h1 := around15D hb (m := 1000000) (by omega)
  have b1 := around_lt hb (m := 1000000) (by omega)
  have h2 := around15D hh (m := 9) (by omega)
  have hq : I64 (how.tdiv 9) := by
    unfold I64 at *
    constructor
    · rcases Int.le_total 0 how with h | h
      · have := (Int.tdiv_nonneg h (show (0 : Int) ≤ 9 by omega)); omega
      · have : (-how).tdiv 9 = -(how.tdiv 9) := Int.neg_tdiv _ _
        have h2 : (-how).tdiv 9 = (-how) / 9 := Int.tdiv_eq_ediv_of_nonneg (by omega)
        omega
    · rcases Int.le_total 0 how with h | h
      · have h2 : how.tdiv 9 = how / 9 := Int.tdiv_eq_ediv_of_nonneg h
        omega
      · have : (-how).tdiv 9 = -(how.tdiv 9) := Int.neg_tdiv _ _
        have h2 : (-how).tdiv 9 = (-how) / 9 := Int.tdiv_eq_ediv_of_nonneg (by omega)
        omega
  have h3 := around15D hq (m := c.length) (by omega)
  rw [hk] at h3
  have w9 := wrap64 (how.tdiv 9) hq
  generalize around by_ 1000000 = n at *
  generalize around how 9 = g at *
  generalize hL : c.length = L at *
  generalize hB : icC c = B at *
  generalize hK : c1.length = K at *
  generalize hG : (fun v => icC (c1 ++ (v, n0) :: c2)) = G at *
  have hG' : ∀ v, icC (c1 ++ (v, n0) :: c2) = G v := fun v => by rw [← hG]
  simp only [hG'] at hs hB' ⊢
  have hL0 : ¬ (L : Int) = 0 := by omega
  have hL0' : ¬ L = 0 := by omega
  have hroom : roomFor L 16 = true := by simp [roomFor]; omega
  have hKL : (K : Int) < L := by omega
  have hle : K * 2 + 1 + 1 ≤ L * 2 := by omega
  have hle2 : K * 2 + 1 ≤ L * 2 := by omega
  have q4 := tmod_rng b1.1 (m := 23) (by omega)
  obtain ⟨v, hv⟩ : ∃ v, n.tmod 23 = v := ⟨_, rfl⟩
  refine ⟨v, ?_⟩
  refine Z_call (pf := F124) rfl rfl ?_
  obtain rfl | rfl : g = 4 ∨ g = 5 := by omega
  all_goals simp [-srcO, F124, len_own2, allDat_map, locsL_map, renL_map, hone2, hlen, hroom, hL0, hL0', hKL, w0, pgD, hd.is.one, hd.is.cells, s0, h1, h2, h3, hv, w9, sliceAddr, hle, hle2, hs, hB']
theorem bent_b {d : D} {c1 c2 : Cd} {o n0 : Int} (hd : IsCodeS d (c1 ++ (o, n0) :: c2)) (hcl : (c1 ++ (o, n0) :: c2).length < 2^20) (e0 e1 e2 how by_ : Int) (hh : I64 how) (hb : I64 by_) (h8 : around how 9 = 6) (hk : around (how.tdiv 9) (c1 ++ (o, n0) :: c2).length = c1.length) :
    ∃ v w : Int, Z prog15 (.call 124 [pgD d e0 e1 e2, .int how, .int by_] []) = some (.ret (pgD (.sl (icC (c1 ++ (v, w) :: c2)) (c1 ++ (o, n0) :: c2).length false) e0 e1 e2) []) := by
  have hc : c1 ++ (o, n0) :: c2 ≠ [] := by simp
  have hs := icC_set2 c1 c2 o n0
  have hB' : ∀ v w, (icC (c1 ++ (v, w) :: c2)).length = (c1 ++ (o, n0) :: c2).length * 2 := fun v w => by rw [icC_len]; simp
  have hkl : c1.length < (c1 ++ (o, n0) :: c2).length := by simp
  have l1 := icC_len c1
  have l2 := icC_len c2
  have hll : (c1 ++ (o, n0) :: c2).length = c1.length + (c2.length + 1) := by simp
  generalize hcc : c1 ++ (o, n0) :: c2 = c at *
  have s0 := hd.src
  have hpos : 0 < c.length := List.length_pos_iff.2 hc
  have hone : (∀ x : V, x ∈ (icC c).map V.dat → x.one = true) = True := eq_true (icC_one c)
  have hone2 : (∀ x : D, x ∈ icC c → (V.dat x).one = true) = True := eq_true fun x hx => icC_one c _ (List.mem_map_of_mem hx)
  have hlen := icC_len c
  have w0 : IntKind.i64.wrap 3 = 3 := rfl
  have h1 := around15D hb (m := 1000000) (by omega)
  have b1 := around_lt hb (m := 1000000) (by omega)
  have h2 := around15D hh (m := 9) (by omega)
  have hq : I64 (how.tdiv 9) := by
    unfold I64 at *
    constructor
    · rcases Int.le_total 0 how with h | h
      · have := (Int.tdiv_nonneg h (show (0 : Int) ≤ 9 by omega)); omega
      · have : (-how).tdiv 9 = -(how.tdiv 9) := Int.neg_tdiv _ _
        have h2 : (-how).tdiv 9 = (-how) / 9 := Int.tdiv_eq_ediv_of_nonneg (by omega)
        omega
    · rcases Int.le_total 0 how with h | h
      · have h2 : how.tdiv 9 = how / 9 := Int.tdiv_eq_ediv_of_nonneg h
        omega
      · have : (-how).tdiv 9 = -(how.tdiv 9) := Int.neg_tdiv _ _
        have h2 : (-how).tdiv 9 = (-how) / 9 := Int.tdiv_eq_ediv_of_nonneg (by omega)
        omega
  have h3 := around15D hq (m := c.length) (by omega)
  rw [hk] at h3
  have w9 := wrap64 (how.tdiv 9) hq
  generalize around by_ 1000000 = n at *
  generalize around how 9 = g at *
  generalize hL : c.length = L at *
  generalize hB : icC c = B at *
  generalize hK : c1.length = K at *
  generalize hG : (fun v w => icC (c1 ++ (v, w) :: c2)) = G at *
  have hG' : ∀ v w, icC (c1 ++ (v, w) :: c2) = G v w := fun v w => by rw [← hG]
  simp only [hG'] at hs hB' ⊢
  have hL0 : ¬ (L : Int) = 0 := by omega
  have hL0' : ¬ L = 0 := by omega
  have hroom : roomFor L 16 = true := by simp [roomFor]; omega
  have hKL : (K : Int) < L := by omega
  have hle : K * 2 + 1 + 1 ≤ L * 2 := by omega
  have hle2 : K * 2 + 1 ≤ L * 2 := by omega
  have q4 := tmod_rng b1.1 (m := 21) (by omega)
  have w3 := wrap64 (1 + n.tmod 21) (by omega)
  obtain ⟨v, hv⟩ : ∃ v, 1 + n.tmod 21 = v := ⟨_, rfl⟩
  rw [hv] at w3
  refine ⟨v, 0, ?_⟩
  refine Z_call (pf := F124) rfl rfl ?_
  obtain rfl : g = 6 := by omega
  simp [-srcO, F124, len_own2, allDat_map, locsL_map, renL_map, hone2, hlen, hroom, hL0, hL0', hKL, w0, pgD, hd.is.one, hd.is.cells, s0, h1, h2, h3, hv, w9, w3, sliceAddr, hle, hle2, hs, hB']
theorem bent_c {d : D} {c1 c2 : Cd} {o n0 : Int} (hd : IsCodeS d (c1 ++ (o, n0) :: c2)) (hcl : (c1 ++ (o, n0) :: c2).length < 2^20) (e0 e1 e2 how by_ : Int) (hh : I64 how) (hb : I64 by_) (h8 : around how 9 = 7) (hk : around (how.tdiv 9) (c1 ++ (o, n0) :: c2).length = c1.length) :
    Z prog15 (.call 124 [pgD d e0 e1 e2, .int how, .int by_] []) = some (.ret (pgD (.sl (icC c1) c1.length false) e0 e1 e2) []) := by
  have hc : c1 ++ (o, n0) :: c2 ≠ [] := by simp
  have hs : List.take (c1.length * 2) ((icC (c1 ++ (o, n0) :: c2)).map V.dat) = (icC c1).map V.dat := by rw [← List.map_take, icC_append, ← icC_len, List.take_left]
  have hB' := icC_len c1
  have hkl : c1.length < (c1 ++ (o, n0) :: c2).length := by simp
  have l1 := icC_len c1
  have l2 := icC_len c2
  have hll : (c1 ++ (o, n0) :: c2).length = c1.length + (c2.length + 1) := by simp
  generalize hcc : c1 ++ (o, n0) :: c2 = c at *
  have s0 := hd.src
  have hpos : 0 < c.length := List.length_pos_iff.2 hc
  have hone : (∀ x : V, x ∈ (icC c).map V.dat → x.one = true) = True := eq_true (icC_one c)
  have hone2 : (∀ x : D, x ∈ icC c → (V.dat x).one = true) = True := eq_true fun x hx => icC_one c _ (List.mem_map_of_mem hx)
  have hlen := icC_len c
  have w0 : IntKind.i64.wrap 3 = 3 := rfl
  have h1 := around15D hb (m := 1000000) (by omega)
  have b1 := around_lt hb (m := 1000000) (by omega)
  have h2 := around15D hh (m := 9) (by omega)
  have hq : I64 (how.tdiv 9) := by
    unfold I64 at *
    constructor
    · rcases Int.le_total 0 how with h | h
      · have := (Int.tdiv_nonneg h (show (0 : Int) ≤ 9 by omega)); omega
      · have : (-how).tdiv 9 = -(how.tdiv 9) := Int.neg_tdiv _ _
        have h2 : (-how).tdiv 9 = (-how) / 9 := Int.tdiv_eq_ediv_of_nonneg (by omega)
        omega
    · rcases Int.le_total 0 how with h | h
      · have h2 : how.tdiv 9 = how / 9 := Int.tdiv_eq_ediv_of_nonneg h
        omega
      · have : (-how).tdiv 9 = -(how.tdiv 9) := Int.neg_tdiv _ _
        have h2 : (-how).tdiv 9 = (-how) / 9 := Int.tdiv_eq_ediv_of_nonneg (by omega)
        omega
  have h3 := around15D hq (m := c.length) (by omega)
  rw [hk] at h3
  have w9 := wrap64 (how.tdiv 9) hq
  generalize around by_ 1000000 = n at *
  generalize around how 9 = g at *
  generalize hL : c.length = L at *
  generalize hB : icC c = B at *
  generalize hK : c1.length = K at *
  generalize icC c1 = G at *
  have hL0 : ¬ (L : Int) = 0 := by omega
  have hL0' : ¬ L = 0 := by omega
  have hroom : roomFor L 16 = true := by simp [roomFor]; omega
  have hKL : (K : Int) < L := by omega
  have hle : K * 2 + 1 + 1 ≤ L * 2 := by omega
  have hle2 : K * 2 + 1 ≤ L * 2 := by omega
  refine Z_call (pf := F124) rfl rfl ?_
  obtain rfl : g = 7 := by omega
  have hKL' : (K : Int) ≤ L := by omega
  have hKL2 : K ≤ L := by omega
  simp [-srcO, F124, len_own2, allDat_map, locsL_map, renL_map, hone2, hlen, hroom, hL0, hL0', hKL, w0, pgD, hd.is.one, hd.is.cells, s0, h1, h2, h3, w9, sliceAddr, hle, hle2, hs, hB', bound, cutV, hKL', hKL2]
end Go.Pm
end SN17
section SN18
set_option linter.unusedSimpArgs false
set_option linter.unusedVariables false
namespace Go.Pm
open F Gr
theorem tdiv9 {how : Int} (hh : I64 how) : I64 (how.tdiv 9) := by
  unfold I64 at *
  constructor
  · rcases Int.le_total 0 how with h | h
    · have := (Int.tdiv_nonneg h (show (0 : Int) ≤ 9 by omega)); omega
    · have : (-how).tdiv 9 = -(how.tdiv 9) := Int.neg_tdiv _ _
      have h2 : (-how).tdiv 9 = (-how) / 9 := Int.tdiv_eq_ediv_of_nonneg (by omega)
      omega
  · rcases Int.le_total 0 how with h | h
    · have h2 : how.tdiv 9 = how / 9 := Int.tdiv_eq_ediv_of_nonneg h
      omega
    · have : (-how).tdiv 9 = -(how.tdiv 9) := Int.neg_tdiv _ _
      have h2 : (-how).tdiv 9 = (-how) / 9 := Int.tdiv_eq_ediv_of_nonneg (by omega)
      omega
theorem bent_Z {d : D} {c : Cd} (hd : IsCodeS d c) (hcl : c.length < 2^20) (e0 e1 e2 how by_ : Int) (hh : I64 how) (hb : I64 by_) :
    ∃ (d' : D) (c' : Cd) (a0 a1 a2 : Int), IsCode d' c' ∧ c'.length ≤ c.length ∧ Z prog15 (.call 124 [pgD d e0 e1 e2, .int how, .int by_] []) = some (.ret (pgD d' a0 a1 a2) []) := by
  by_cases hc : c = []
  · subst hc
    obtain ⟨a0, a1, a2, h⟩ := bent_nil hd e0 e1 e2 how by_ hb
    exact ⟨_, [], a0, a1, a2, isCode_sl [] true, Nat.le_refl _, h⟩
  have b9 := around_lt hh (m := 9) (by omega)
  have bm := around_lt hb (m := 1000000) (by omega)
  by_cases h8 : around how 9 = 8
  · have r3 := tmod_rng bm.1 (m := 3) (by omega)
    obtain h | h | h : (around by_ 1000000).tmod 3 = 0 ∨ (around by_ 1000000).tmod 3 = 1 ∨ (around by_ 1000000).tmod 3 = 2 := by omega
    · obtain ⟨v, z⟩ := bent_entry0 hd hc hcl e0 e1 e2 how by_ hh hb h8 h
      exact ⟨_, c, _, _, _, isCode_sl c false, Nat.le_refl _, z⟩
    · obtain ⟨v, z⟩ := bent_entry1 hd hc hcl e0 e1 e2 how by_ hh hb h8 h
      exact ⟨_, c, _, _, _, isCode_sl c false, Nat.le_refl _, z⟩
    · obtain ⟨v, z⟩ := bent_entry2 hd hc hcl e0 e1 e2 how by_ hh hb h8 h
      exact ⟨_, c, _, _, _, isCode_sl c false, Nat.le_refl _, z⟩
  have hpos : 0 < c.length := List.length_pos_iff.2 hc
  have bk := around_lt (tdiv9 hh) (m := c.length) (by omega)
  obtain ⟨c1, o, n0, c2, rfl, hk⟩ : ∃ (c1 : Cd) (o n0 : Int) (c2 : Cd), c = c1 ++ (o, n0) :: c2 ∧ around (how.tdiv 9) c.length = c1.length := by
    have hl : (around (how.tdiv 9) c.length).toNat < c.length := by omega
    refine ⟨c.take (around (how.tdiv 9) c.length).toNat, (c[(around (how.tdiv 9) c.length).toNat]'hl).1, (c[(around (how.tdiv 9) c.length).toNat]'hl).2, c.drop ((around (how.tdiv 9) c.length).toNat + 1), ?_, ?_⟩
    · show c = _ ++ c[(around (how.tdiv 9) c.length).toNat]'hl :: _
      rw [← List.drop_eq_getElem_cons hl, List.take_append_drop]
    · rw [List.length_take]; omega
  by_cases h3 : around how 9 ≤ 3
  · obtain ⟨v, z⟩ := bent_n hd hcl e0 e1 e2 how by_ hh hb ⟨b9.1, h3⟩ hk
    rw [show (c1 ++ (o, n0) :: c2).length = (c1 ++ (o, v) :: c2).length by simp] at z ⊢
    exact ⟨_, _, _, _, _, isCode_sl _ false, Nat.le_refl _, z⟩
  by_cases h5 : around how 9 ≤ 5
  · obtain ⟨v, z⟩ := bent_o hd hcl e0 e1 e2 how by_ hh hb (by omega) hk
    rw [show (c1 ++ (o, n0) :: c2).length = (c1 ++ (v, n0) :: c2).length by simp] at z ⊢
    exact ⟨_, _, _, _, _, isCode_sl _ false, Nat.le_refl _, z⟩
  by_cases h6 : around how 9 = 6
  · obtain ⟨v, w, z⟩ := bent_b hd hcl e0 e1 e2 how by_ hh hb h6 hk
    rw [show (c1 ++ (o, n0) :: c2).length = (c1 ++ (v, w) :: c2).length by simp] at z ⊢
    exact ⟨_, _, _, _, _, isCode_sl _ false, Nat.le_refl _, z⟩
  · have z := bent_c hd hcl e0 e1 e2 how by_ hh hb (by omega) hk
    exact ⟨_, _, _, _, _, isCode_sl _ false, by simp, z⟩
end Go.Pm
end SN18
