/- Chapter 15: code that is drawn. Chapter 15: a drawn program. Chapter 15: a program with one instruction or entry replaced (under way). -/
import Derived.Test.YtlbibgdenkleiaaDoorPmN12
set_option linter.unusedSimpArgs false
set_option linter.unusedVariables false
section SN14
set_option linter.unusedSimpArgs false
set_option linter.unusedVariables false
namespace Go.Pm
open F Gr
set_option maxHeartbeats 16000000 in
theorem rw_step {d : D} {xs : List Int} (hd : IsRow d xs) (hx : ∀ x ∈ xs, I64 x) (c : Cd) (hcn : c ≠ []) (h1 : c.length < xs.length) (h2 : c.length < 24) :
    ∃ (o : Int) (m : Int), Z prog15 (.loop 0 F121l0 (rwFr d c.length) (rwS c)) = Z prog15 (.loop 0 F121l0 (rwFr d (c.length + 1 : Nat)) (rwS (c ++ [(o, m)]))) := by
  obtain ⟨i, hi⟩ : ∃ i, c.length = i := ⟨_, rfl⟩
  rw [hi] at h1 h2 ⊢
  have m0 := hx _ (getN_mem (xs := xs) (i := i) (by omega))
  have a0 := around15D m0 (m := 10000000) (by omega)
  have b0 := around_lt m0 (m := 10000000) (by omega)
  have c0 := cut1_intsC xs i (by omega)
  have e0 := hd.at_ i (by omega) (by omega)
  rw [show ((i : Int)).toNat = i by omega] at e0
  generalize around (getN xs i) 10000000 = n at a0 b0
  generalize getN xs i = x0 at *
  have r1 := tmod_rng b0.1 (m := 21) (by omega)
  have q7 := tdiv_rng b0.1 (m := 21) (by omega)
  have q8 := tdiv_rng b0.1 (m := 777) (by omega)
  have q9 := tdiv_rng b0.1 (m := 861) (by omega)
  have r30 := tmod_rng q8.1 (m := 30) (by omega)
  obtain ⟨o, ho⟩ : ∃ o : Int, 1 + n.tmod 21 = o := ⟨_, rfl⟩
  have hor : 1 ≤ o ∧ o ≤ 21 := by omega
  have w0 : IntKind.i64.wrap (1 + n.tmod 21) = o := by rw [← ho]; exact wrap64 _ (by omega)
  have w1 := wrap64 ((i : Int) + 1) (by omega)
  have w3 := wrap64 ((n.tdiv 777).tmod 30 - 3) (by omega)
  have w4 := wrap64 (n.tdiv 21) (by omega)
  have w5 := wrap64 (n.tdiv 777) (by omega)
  have w6 := wrap64 (n.tdiv 861) (by omega)
  have l1 : (i : Int) < xs.length := by omega
  have l2 : (i : Int) < 24 := by omega
  have hlen := hd.len
  generalize hL : xs.length = L at *
  have hL0 : ¬ (L : Int) = 0 := by omega
  have hL0' : ¬ L = 0 := by omega
  clear ho
  cases c with
  | nil => exact absurd rfl hcn
  | cons x c =>
  simp only [List.length_cons] at hi
  have hbl : (icC (x :: c)).length = i * 2 := by simp; omega
  have hr : roomFor (i + 1) 16 = true := by simp [roomFor]; omega
  have hap : ∀ o m : Int, icC (x :: (c ++ [(o, m)])) = icC (x :: c) ++ [.lit (.int .i64 o), .lit (.int .i64 m)] := fun o m => icC_append (x :: c) [(o, m)]
  simp only [List.cons_append, rwS, hap, List.length_append, List.length_cons, List.length_nil, Nat.zero_add, hi]
  generalize icC (x :: c) = B at *
  by_cases o1 : o = 1
  · have d1 : decide (o = 1) = true := by simp; omega
    have d2 : decide (o = 2) = false := by simp; omega
    have d3 : decide (o = 3) = false := by simp; omega
    have d4 : decide (o = 4) = false := by simp; omega
    have d5 : decide (o = 5) = false := by simp; omega
    have d18 : decide (o = 18) = false := by simp; omega
    have d19 : decide (o = 19) = false := by simp; omega
    by_cases k37 : (n.tdiv 21).tmod 37 = 36 <;> by_cases k41 : (n.tdiv 21).tmod 41 = 40
    · refine ⟨(n.tdiv 861).tmod 25, (n.tdiv 777).tmod 30 - 3, ?_⟩
      rw [Z_loop_eq]
      simp [loopStep, run_F121l0, rwFr, zero4', List.range_succ, hlen, l1, l2, e0, c0, a0, w0, w1, w3, w4, w5, w6, appendV, srcV, hL0, hL0', hbl, hr, d1, d2, d3, d4, d5, d18, d19, k37, k41]
      refine Z_loop_cong ?_
      simp [List.range_succ]
      omega
    · refine ⟨o, (n.tdiv 777).tmod 30 - 3, ?_⟩
      rw [Z_loop_eq]
      simp [loopStep, run_F121l0, rwFr, zero4', List.range_succ, hlen, l1, l2, e0, c0, a0, w0, w1, w3, w4, w5, w6, appendV, srcV, hL0, hL0', hbl, hr, d1, d2, d3, d4, d5, d18, d19, k37, k41]
      refine Z_loop_cong ?_
      simp [List.range_succ]
      omega
    · refine ⟨(n.tdiv 861).tmod 25, (n.tdiv 21).tmod 6, ?_⟩
      rw [Z_loop_eq]
      simp [loopStep, run_F121l0, rwFr, zero4', List.range_succ, hlen, l1, l2, e0, c0, a0, w0, w1, w3, w4, w5, w6, appendV, srcV, hL0, hL0', hbl, hr, d1, d2, d3, d4, d5, d18, d19, k37, k41]
      refine Z_loop_cong ?_
      simp [List.range_succ]
      omega
    · refine ⟨o, (n.tdiv 21).tmod 6, ?_⟩
      rw [Z_loop_eq]
      simp [loopStep, run_F121l0, rwFr, zero4', List.range_succ, hlen, l1, l2, e0, c0, a0, w0, w1, w3, w4, w5, w6, appendV, srcV, hL0, hL0', hbl, hr, d1, d2, d3, d4, d5, d18, d19, k37, k41]
      refine Z_loop_cong ?_
      simp [List.range_succ]
      omega
  by_cases o2 : o = 2
  · have d1 : decide (o = 1) = false := by simp; omega
    have d2 : decide (o = 2) = true := by simp; omega
    have d3 : decide (o = 3) = false := by simp; omega
    have d4 : decide (o = 4) = false := by simp; omega
    have d5 : decide (o = 5) = false := by simp; omega
    have d18 : decide (o = 18) = false := by simp; omega
    have d19 : decide (o = 19) = false := by simp; omega
    by_cases k37 : (n.tdiv 21).tmod 37 = 36 <;> by_cases k41 : (n.tdiv 21).tmod 41 = 40
    · refine ⟨(n.tdiv 861).tmod 25, (n.tdiv 777).tmod 30 - 3, ?_⟩
      rw [Z_loop_eq]
      simp [loopStep, run_F121l0, rwFr, zero4', List.range_succ, hlen, l1, l2, e0, c0, a0, w0, w1, w3, w4, w5, w6, appendV, srcV, hL0, hL0', hbl, hr, d1, d2, d3, d4, d5, d18, d19, k37, k41]
      refine Z_loop_cong ?_
      simp [List.range_succ]
      omega
    · refine ⟨o, (n.tdiv 777).tmod 30 - 3, ?_⟩
      rw [Z_loop_eq]
      simp [loopStep, run_F121l0, rwFr, zero4', List.range_succ, hlen, l1, l2, e0, c0, a0, w0, w1, w3, w4, w5, w6, appendV, srcV, hL0, hL0', hbl, hr, d1, d2, d3, d4, d5, d18, d19, k37, k41]
      refine Z_loop_cong ?_
      simp [List.range_succ]
      omega
    · refine ⟨(n.tdiv 861).tmod 25, (n.tdiv 21).tmod 6, ?_⟩
      rw [Z_loop_eq]
      simp [loopStep, run_F121l0, rwFr, zero4', List.range_succ, hlen, l1, l2, e0, c0, a0, w0, w1, w3, w4, w5, w6, appendV, srcV, hL0, hL0', hbl, hr, d1, d2, d3, d4, d5, d18, d19, k37, k41]
      refine Z_loop_cong ?_
      simp [List.range_succ]
      omega
    · refine ⟨o, (n.tdiv 21).tmod 6, ?_⟩
      rw [Z_loop_eq]
      simp [loopStep, run_F121l0, rwFr, zero4', List.range_succ, hlen, l1, l2, e0, c0, a0, w0, w1, w3, w4, w5, w6, appendV, srcV, hL0, hL0', hbl, hr, d1, d2, d3, d4, d5, d18, d19, k37, k41]
      refine Z_loop_cong ?_
      simp [List.range_succ]
      omega
  by_cases o3 : o = 3
  · have d1 : decide (o = 1) = false := by simp; omega
    have d2 : decide (o = 2) = false := by simp; omega
    have d3 : decide (o = 3) = true := by simp; omega
    have d4 : decide (o = 4) = false := by simp; omega
    have d5 : decide (o = 5) = false := by simp; omega
    have d18 : decide (o = 18) = false := by simp; omega
    have d19 : decide (o = 19) = false := by simp; omega
    by_cases k37 : (n.tdiv 21).tmod 37 = 36 <;> by_cases k41 : (n.tdiv 21).tmod 41 = 40
    · refine ⟨(n.tdiv 861).tmod 25, (n.tdiv 777).tmod 30 - 3, ?_⟩
      rw [Z_loop_eq]
      simp [loopStep, run_F121l0, rwFr, zero4', List.range_succ, hlen, l1, l2, e0, c0, a0, w0, w1, w3, w4, w5, w6, appendV, srcV, hL0, hL0', hbl, hr, d1, d2, d3, d4, d5, d18, d19, k37, k41]
      refine Z_loop_cong ?_
      simp [List.range_succ]
      omega
    · refine ⟨o, (n.tdiv 777).tmod 30 - 3, ?_⟩
      rw [Z_loop_eq]
      simp [loopStep, run_F121l0, rwFr, zero4', List.range_succ, hlen, l1, l2, e0, c0, a0, w0, w1, w3, w4, w5, w6, appendV, srcV, hL0, hL0', hbl, hr, d1, d2, d3, d4, d5, d18, d19, k37, k41]
      refine Z_loop_cong ?_
      simp [List.range_succ]
      omega
    · refine ⟨(n.tdiv 861).tmod 25, (n.tdiv 21).tmod 6, ?_⟩
      rw [Z_loop_eq]
      simp [loopStep, run_F121l0, rwFr, zero4', List.range_succ, hlen, l1, l2, e0, c0, a0, w0, w1, w3, w4, w5, w6, appendV, srcV, hL0, hL0', hbl, hr, d1, d2, d3, d4, d5, d18, d19, k37, k41]
      refine Z_loop_cong ?_
      simp [List.range_succ]
      omega
    · refine ⟨o, (n.tdiv 21).tmod 6, ?_⟩
      rw [Z_loop_eq]
      simp [loopStep, run_F121l0, rwFr, zero4', List.range_succ, hlen, l1, l2, e0, c0, a0, w0, w1, w3, w4, w5, w6, appendV, srcV, hL0, hL0', hbl, hr, d1, d2, d3, d4, d5, d18, d19, k37, k41]
      refine Z_loop_cong ?_
      simp [List.range_succ]
      omega
  by_cases o4 : o = 4
  · have d1 : decide (o = 1) = false := by simp; omega
    have d2 : decide (o = 2) = false := by simp; omega
    have d3 : decide (o = 3) = false := by simp; omega
    have d4 : decide (o = 4) = true := by simp; omega
    have d5 : decide (o = 5) = false := by simp; omega
    have d18 : decide (o = 18) = false := by simp; omega
    have d19 : decide (o = 19) = false := by simp; omega
    by_cases k37 : (n.tdiv 21).tmod 37 = 36 <;> by_cases k41 : (n.tdiv 21).tmod 41 = 40
    · refine ⟨(n.tdiv 861).tmod 25, (n.tdiv 777).tmod 30 - 3, ?_⟩
      rw [Z_loop_eq]
      simp [loopStep, run_F121l0, rwFr, zero4', List.range_succ, hlen, l1, l2, e0, c0, a0, w0, w1, w3, w4, w5, w6, appendV, srcV, hL0, hL0', hbl, hr, d1, d2, d3, d4, d5, d18, d19, k37, k41]
      refine Z_loop_cong ?_
      simp [List.range_succ]
      omega
    · refine ⟨o, (n.tdiv 777).tmod 30 - 3, ?_⟩
      rw [Z_loop_eq]
      simp [loopStep, run_F121l0, rwFr, zero4', List.range_succ, hlen, l1, l2, e0, c0, a0, w0, w1, w3, w4, w5, w6, appendV, srcV, hL0, hL0', hbl, hr, d1, d2, d3, d4, d5, d18, d19, k37, k41]
      refine Z_loop_cong ?_
      simp [List.range_succ]
      omega
    · refine ⟨(n.tdiv 861).tmod 25, (n.tdiv 21).tmod 6, ?_⟩
      rw [Z_loop_eq]
      simp [loopStep, run_F121l0, rwFr, zero4', List.range_succ, hlen, l1, l2, e0, c0, a0, w0, w1, w3, w4, w5, w6, appendV, srcV, hL0, hL0', hbl, hr, d1, d2, d3, d4, d5, d18, d19, k37, k41]
      refine Z_loop_cong ?_
      simp [List.range_succ]
      omega
    · refine ⟨o, (n.tdiv 21).tmod 6, ?_⟩
      rw [Z_loop_eq]
      simp [loopStep, run_F121l0, rwFr, zero4', List.range_succ, hlen, l1, l2, e0, c0, a0, w0, w1, w3, w4, w5, w6, appendV, srcV, hL0, hL0', hbl, hr, d1, d2, d3, d4, d5, d18, d19, k37, k41]
      refine Z_loop_cong ?_
      simp [List.range_succ]
      omega
  by_cases o5 : o = 5
  · have d1 : decide (o = 1) = false := by simp; omega
    have d2 : decide (o = 2) = false := by simp; omega
    have d3 : decide (o = 3) = false := by simp; omega
    have d4 : decide (o = 4) = false := by simp; omega
    have d5 : decide (o = 5) = true := by simp; omega
    have d18 : decide (o = 18) = false := by simp; omega
    have d19 : decide (o = 19) = false := by simp; omega
    by_cases k37 : (n.tdiv 21).tmod 37 = 36 <;> by_cases k41 : (n.tdiv 21).tmod 41 = 40
    · refine ⟨(n.tdiv 861).tmod 25, (n.tdiv 777).tmod 30 - 3, ?_⟩
      rw [Z_loop_eq]
      simp [loopStep, run_F121l0, rwFr, zero4', List.range_succ, hlen, l1, l2, e0, c0, a0, w0, w1, w3, w4, w5, w6, appendV, srcV, hL0, hL0', hbl, hr, d1, d2, d3, d4, d5, d18, d19, k37, k41]
      refine Z_loop_cong ?_
      simp [List.range_succ]
      omega
    · refine ⟨o, (n.tdiv 777).tmod 30 - 3, ?_⟩
      rw [Z_loop_eq]
      simp [loopStep, run_F121l0, rwFr, zero4', List.range_succ, hlen, l1, l2, e0, c0, a0, w0, w1, w3, w4, w5, w6, appendV, srcV, hL0, hL0', hbl, hr, d1, d2, d3, d4, d5, d18, d19, k37, k41]
      refine Z_loop_cong ?_
      simp [List.range_succ]
      omega
    · refine ⟨(n.tdiv 861).tmod 25, (n.tdiv 21).tmod 6, ?_⟩
      rw [Z_loop_eq]
      simp [loopStep, run_F121l0, rwFr, zero4', List.range_succ, hlen, l1, l2, e0, c0, a0, w0, w1, w3, w4, w5, w6, appendV, srcV, hL0, hL0', hbl, hr, d1, d2, d3, d4, d5, d18, d19, k37, k41]
      refine Z_loop_cong ?_
      simp [List.range_succ]
      omega
    · refine ⟨o, (n.tdiv 21).tmod 6, ?_⟩
      rw [Z_loop_eq]
      simp [loopStep, run_F121l0, rwFr, zero4', List.range_succ, hlen, l1, l2, e0, c0, a0, w0, w1, w3, w4, w5, w6, appendV, srcV, hL0, hL0', hbl, hr, d1, d2, d3, d4, d5, d18, d19, k37, k41]
      refine Z_loop_cong ?_
      simp [List.range_succ]
      omega
  by_cases o18 : o = 18
  · have d1 : decide (o = 1) = false := by simp; omega
    have d2 : decide (o = 2) = false := by simp; omega
    have d3 : decide (o = 3) = false := by simp; omega
    have d4 : decide (o = 4) = false := by simp; omega
    have d5 : decide (o = 5) = false := by simp; omega
    have d18 : decide (o = 18) = true := by simp; omega
    have d19 : decide (o = 19) = false := by simp; omega
    by_cases hm : (24 : Int) < L <;> by_cases k37 : (n.tdiv 21).tmod 37 = 36 <;> by_cases k41 : (n.tdiv 21).tmod 41 = 40
    · refine ⟨(n.tdiv 861).tmod 25, (n.tdiv 777).tmod 30 - 3, ?_⟩
      rw [Z_loop_eq]
      simp [loopStep, run_F121l0, rwFr, zero4', List.range_succ, hlen, l1, l2, e0, c0, a0, w0, w1, w3, w4, w5, w6, appendV, srcV, hL0, hL0', hbl, hr, d1, d2, d3, d4, d5, d18, d19, k37, k41, lits, minI, hm]
      refine Z_loop_cong ?_
      simp [List.range_succ]
      omega
    · refine ⟨o, (n.tdiv 777).tmod 30 - 3, ?_⟩
      rw [Z_loop_eq]
      simp [loopStep, run_F121l0, rwFr, zero4', List.range_succ, hlen, l1, l2, e0, c0, a0, w0, w1, w3, w4, w5, w6, appendV, srcV, hL0, hL0', hbl, hr, d1, d2, d3, d4, d5, d18, d19, k37, k41, lits, minI, hm]
      refine Z_loop_cong ?_
      simp [List.range_succ]
      omega
    · refine ⟨(n.tdiv 861).tmod 25, (n.tdiv 21).tmod 24, ?_⟩
      rw [Z_loop_eq]
      simp [loopStep, run_F121l0, rwFr, zero4', List.range_succ, hlen, l1, l2, e0, c0, a0, w0, w1, w3, w4, w5, w6, appendV, srcV, hL0, hL0', hbl, hr, d1, d2, d3, d4, d5, d18, d19, k37, k41, lits, minI, hm]
      refine Z_loop_cong ?_
      simp [List.range_succ]
      omega
    · refine ⟨o, (n.tdiv 21).tmod 24, ?_⟩
      rw [Z_loop_eq]
      simp [loopStep, run_F121l0, rwFr, zero4', List.range_succ, hlen, l1, l2, e0, c0, a0, w0, w1, w3, w4, w5, w6, appendV, srcV, hL0, hL0', hbl, hr, d1, d2, d3, d4, d5, d18, d19, k37, k41, lits, minI, hm]
      refine Z_loop_cong ?_
      simp [List.range_succ]
      omega
    · refine ⟨(n.tdiv 861).tmod 25, (n.tdiv 777).tmod 30 - 3, ?_⟩
      rw [Z_loop_eq]
      simp [loopStep, run_F121l0, rwFr, zero4', List.range_succ, hlen, l1, l2, e0, c0, a0, w0, w1, w3, w4, w5, w6, appendV, srcV, hL0, hL0', hbl, hr, d1, d2, d3, d4, d5, d18, d19, k37, k41, lits, minI, hm]
      refine Z_loop_cong ?_
      simp [List.range_succ]
      omega
    · refine ⟨o, (n.tdiv 777).tmod 30 - 3, ?_⟩
      rw [Z_loop_eq]
      simp [loopStep, run_F121l0, rwFr, zero4', List.range_succ, hlen, l1, l2, e0, c0, a0, w0, w1, w3, w4, w5, w6, appendV, srcV, hL0, hL0', hbl, hr, d1, d2, d3, d4, d5, d18, d19, k37, k41, lits, minI, hm]
      refine Z_loop_cong ?_
      simp [List.range_succ]
      omega
    · refine ⟨(n.tdiv 861).tmod 25, (n.tdiv 21).tmod L, ?_⟩
      rw [Z_loop_eq]
      simp [loopStep, run_F121l0, rwFr, zero4', List.range_succ, hlen, l1, l2, e0, c0, a0, w0, w1, w3, w4, w5, w6, appendV, srcV, hL0, hL0', hbl, hr, d1, d2, d3, d4, d5, d18, d19, k37, k41, lits, minI, hm]
      refine Z_loop_cong ?_
      simp [List.range_succ]
      omega
    · refine ⟨o, (n.tdiv 21).tmod L, ?_⟩
      rw [Z_loop_eq]
      simp [loopStep, run_F121l0, rwFr, zero4', List.range_succ, hlen, l1, l2, e0, c0, a0, w0, w1, w3, w4, w5, w6, appendV, srcV, hL0, hL0', hbl, hr, d1, d2, d3, d4, d5, d18, d19, k37, k41, lits, minI, hm]
      refine Z_loop_cong ?_
      simp [List.range_succ]
      omega
  by_cases o19 : o = 19
  · have d1 : decide (o = 1) = false := by simp; omega
    have d2 : decide (o = 2) = false := by simp; omega
    have d3 : decide (o = 3) = false := by simp; omega
    have d4 : decide (o = 4) = false := by simp; omega
    have d5 : decide (o = 5) = false := by simp; omega
    have d18 : decide (o = 18) = false := by simp; omega
    have d19 : decide (o = 19) = true := by simp; omega
    by_cases hm : (24 : Int) < L <;> by_cases k37 : (n.tdiv 21).tmod 37 = 36 <;> by_cases k41 : (n.tdiv 21).tmod 41 = 40
    · refine ⟨(n.tdiv 861).tmod 25, (n.tdiv 777).tmod 30 - 3, ?_⟩
      rw [Z_loop_eq]
      simp [loopStep, run_F121l0, rwFr, zero4', List.range_succ, hlen, l1, l2, e0, c0, a0, w0, w1, w3, w4, w5, w6, appendV, srcV, hL0, hL0', hbl, hr, d1, d2, d3, d4, d5, d18, d19, k37, k41, lits, minI, hm]
      refine Z_loop_cong ?_
      simp [List.range_succ]
      omega
    · refine ⟨o, (n.tdiv 777).tmod 30 - 3, ?_⟩
      rw [Z_loop_eq]
      simp [loopStep, run_F121l0, rwFr, zero4', List.range_succ, hlen, l1, l2, e0, c0, a0, w0, w1, w3, w4, w5, w6, appendV, srcV, hL0, hL0', hbl, hr, d1, d2, d3, d4, d5, d18, d19, k37, k41, lits, minI, hm]
      refine Z_loop_cong ?_
      simp [List.range_succ]
      omega
    · refine ⟨(n.tdiv 861).tmod 25, (n.tdiv 21).tmod 24, ?_⟩
      rw [Z_loop_eq]
      simp [loopStep, run_F121l0, rwFr, zero4', List.range_succ, hlen, l1, l2, e0, c0, a0, w0, w1, w3, w4, w5, w6, appendV, srcV, hL0, hL0', hbl, hr, d1, d2, d3, d4, d5, d18, d19, k37, k41, lits, minI, hm]
      refine Z_loop_cong ?_
      simp [List.range_succ]
      omega
    · refine ⟨o, (n.tdiv 21).tmod 24, ?_⟩
      rw [Z_loop_eq]
      simp [loopStep, run_F121l0, rwFr, zero4', List.range_succ, hlen, l1, l2, e0, c0, a0, w0, w1, w3, w4, w5, w6, appendV, srcV, hL0, hL0', hbl, hr, d1, d2, d3, d4, d5, d18, d19, k37, k41, lits, minI, hm]
      refine Z_loop_cong ?_
      simp [List.range_succ]
      omega
    · refine ⟨(n.tdiv 861).tmod 25, (n.tdiv 777).tmod 30 - 3, ?_⟩
      rw [Z_loop_eq]
      simp [loopStep, run_F121l0, rwFr, zero4', List.range_succ, hlen, l1, l2, e0, c0, a0, w0, w1, w3, w4, w5, w6, appendV, srcV, hL0, hL0', hbl, hr, d1, d2, d3, d4, d5, d18, d19, k37, k41, lits, minI, hm]
      refine Z_loop_cong ?_
      simp [List.range_succ]
      omega
    · refine ⟨o, (n.tdiv 777).tmod 30 - 3, ?_⟩
      rw [Z_loop_eq]
      simp [loopStep, run_F121l0, rwFr, zero4', List.range_succ, hlen, l1, l2, e0, c0, a0, w0, w1, w3, w4, w5, w6, appendV, srcV, hL0, hL0', hbl, hr, d1, d2, d3, d4, d5, d18, d19, k37, k41, lits, minI, hm]
      refine Z_loop_cong ?_
      simp [List.range_succ]
      omega
    · refine ⟨(n.tdiv 861).tmod 25, (n.tdiv 21).tmod L, ?_⟩
      rw [Z_loop_eq]
      simp [loopStep, run_F121l0, rwFr, zero4', List.range_succ, hlen, l1, l2, e0, c0, a0, w0, w1, w3, w4, w5, w6, appendV, srcV, hL0, hL0', hbl, hr, d1, d2, d3, d4, d5, d18, d19, k37, k41, lits, minI, hm]
      refine Z_loop_cong ?_
      simp [List.range_succ]
      omega
    · refine ⟨o, (n.tdiv 21).tmod L, ?_⟩
      rw [Z_loop_eq]
      simp [loopStep, run_F121l0, rwFr, zero4', List.range_succ, hlen, l1, l2, e0, c0, a0, w0, w1, w3, w4, w5, w6, appendV, srcV, hL0, hL0', hbl, hr, d1, d2, d3, d4, d5, d18, d19, k37, k41, lits, minI, hm]
      refine Z_loop_cong ?_
      simp [List.range_succ]
      omega
  have d1 : decide (o = 1) = false := by simp; omega
  have d2 : decide (o = 2) = false := by simp; omega
  have d3 : decide (o = 3) = false := by simp; omega
  have d4 : decide (o = 4) = false := by simp; omega
  have d5 : decide (o = 5) = false := by simp; omega
  have d18 : decide (o = 18) = false := by simp; omega
  have d19 : decide (o = 19) = false := by simp; omega
  by_cases k37 : (n.tdiv 21).tmod 37 = 36 <;> by_cases k41 : (n.tdiv 21).tmod 41 = 40
  · refine ⟨(n.tdiv 861).tmod 25, (n.tdiv 777).tmod 30 - 3, ?_⟩
    rw [Z_loop_eq]
    simp [loopStep, run_F121l0, rwFr, zero4', List.range_succ, hlen, l1, l2, e0, c0, a0, w0, w1, w3, w4, w5, w6, appendV, srcV, hL0, hL0', hbl, hr, d1, d2, d3, d4, d5, d18, d19, k37, k41]
    refine Z_loop_cong ?_
    simp [List.range_succ]
    omega
  · refine ⟨o, (n.tdiv 777).tmod 30 - 3, ?_⟩
    rw [Z_loop_eq]
    simp [loopStep, run_F121l0, rwFr, zero4', List.range_succ, hlen, l1, l2, e0, c0, a0, w0, w1, w3, w4, w5, w6, appendV, srcV, hL0, hL0', hbl, hr, d1, d2, d3, d4, d5, d18, d19, k37, k41]
    refine Z_loop_cong ?_
    simp [List.range_succ]
    omega
  · refine ⟨(n.tdiv 861).tmod 25, 0, ?_⟩
    rw [Z_loop_eq]
    simp [loopStep, run_F121l0, rwFr, zero4', List.range_succ, hlen, l1, l2, e0, c0, a0, w0, w1, w3, w4, w5, w6, appendV, srcV, hL0, hL0', hbl, hr, d1, d2, d3, d4, d5, d18, d19, k37, k41]
    refine Z_loop_cong ?_
    simp [List.range_succ]
    omega
  · refine ⟨o, 0, ?_⟩
    rw [Z_loop_eq]
    simp [loopStep, run_F121l0, rwFr, zero4', List.range_succ, hlen, l1, l2, e0, c0, a0, w0, w1, w3, w4, w5, w6, appendV, srcV, hL0, hL0', hbl, hr, d1, d2, d3, d4, d5, d18, d19, k37, k41]
    refine Z_loop_cong ?_
    simp [List.range_succ]
    omega
end Go.Pm
end SN14
section SN15
set_option linter.unusedSimpArgs false
set_option linter.unusedVariables false
namespace Go.Pm
open F Gr
/-- A value that reads as code and can be copied. -/
structure IsCodeS (d : D) (c : Cd) : Prop where
  is : IsCode d c
  src : ∀ σ, srcO σ (.dat d) = some ((icC c).map .dat, c.length)
theorem isCodeS_sl (c : Cd) (f : Bool) : IsCodeS (.sl (icC c) c.length f) c := ⟨isCode_sl c f, fun _ => rfl⟩
theorem isCodeS_nil : IsCodeS (.lit (.slice none 0 0)) [] := ⟨isCode_nil, fun _ => rfl⟩
theorem rw_last {d : D} {xs : List Int} (hd : IsRow d xs) (c : Cd) (h : ¬ (c.length < xs.length ∧ c.length < 24)) :
    Z prog15 (.loop 0 F121l0 (rwFr d c.length) (rwS c)) = some (.out (.exit 0) (rwFr d c.length ++ [(18, .bool false)]) (rwS c)) := by
  rw [Z_loop_eq]
  by_cases h1 : (c.length : Int) < xs.length
  · have h2 : ¬ (c.length : Int) < 24 := by omega
    cases c with
    | nil => simp at h2
    | cons x c =>
      simp only [List.length_cons] at h1 h2 ⊢
      generalize hq : c.length + 1 = q at *
      simp [loopStep, run_F121l0, rwFr, rwS, zero4', hq, List.range_succ, hd.len, h1, h2]
  · cases c with
    | nil =>
      have h0 : xs = [] := by simp only [List.length_nil] at h1; exact List.length_eq_zero_iff.1 (by omega)
      subst h0
      simp [loopStep, run_F121l0, rwFr, rwS, zero4', List.range_succ, hd.len]
    | cons x c =>
      simp only [List.length_cons] at h1 ⊢
      generalize hq : c.length + 1 = q at *
      simp [loopStep, run_F121l0, rwFr, rwS, zero4', hq, List.range_succ, hd.len, h1]
theorem rw_loop {d : D} {xs : List Int} (hd : IsRow d xs) (hx : ∀ x ∈ xs, I64 x) (m : Nat) : ∀ c : Cd, c.length ≤ 24 → c.length ≤ xs.length → 24 ≤ c.length + m →
    ∃ c' : Cd, c'.length ≤ 24 ∧ c'.length ≤ xs.length ∧ Z prog15 (.loop 0 F121l0 (rwFr d c.length) (rwS c)) = some (.out (.exit 0) (rwFr d c'.length ++ [(18, .bool false)]) (rwS c')) := by
  induction m with
  | zero => intro c h1 h3 h2; exact ⟨c, h1, h3, rw_last hd c (by omega)⟩
  | succ m ih =>
    intro c h1 h3 h2
    by_cases h : c.length < xs.length ∧ c.length < 24
    · obtain ⟨o, n, e⟩ : ∃ (o : Int) (n : Int), Z prog15 (.loop 0 F121l0 (rwFr d c.length) (rwS c)) = Z prog15 (.loop 0 F121l0 (rwFr d (c.length + 1 : Nat)) (rwS (c ++ [(o, n)]))) := by
        by_cases hc : c = []
        · exact rw_first hd hx c hc h.1 h.2
        · exact rw_step hd hx c hc h.1 h.2
      obtain ⟨c', a1, a2, a3⟩ := ih (c ++ [(o, n)]) (by simp; omega) (by simp; omega) (by simp; omega)
      refine ⟨c', a1, a2, ?_⟩
      rw [e]
      simpa using a3
    · exact ⟨c, h1, h3, rw_last hd c h⟩
def reFr (d : D) (i : Int) : Fr := [(0, .dat d), (2, .ptr 0 0), (3, .ptr 1 0), (7, .int i)]
def reS (B : List D) (q : Nat) (e0 e1 e2 : Int) : S := [zero4', .cells [.gsl B q 2 2, .int e0, .int e1, .int e2], .tip (q * 2)]
set_option maxHeartbeats 4000000
theorem re_0 {d : D} {xs : List Int} (hd : IsRow d xs) (hx : ∀ x ∈ xs, I64 x) (B : List D) (q : Nat) (hq : 0 < q) (hq2 : q < 100) (hl : q ≤ xs.length) (e0 e1 e2 : Int) :
    ∃ v, Z prog15 (.loop 0 F121l1 (reFr d 0) (reS B q e0 e1 e2)) = Z prog15 (.loop 0 F121l1 (reFr d 1) (reS B q v e1 e2)) := by
  have hlen := hd.len
  obtain ⟨k, hk, hkl⟩ : ∃ k : Nat, (0 : Int).tmod xs.length = k ∧ k < xs.length := by
    have := tmod_rng (n := 0) (by omega) (m := xs.length) (by omega)
    exact ⟨((0 : Int).tmod xs.length).toNat, by omega, by omega⟩
  have m0 := hx _ (getN_mem (xs := xs) (i := k) hkl)
  have a0 := around15D m0 (m := 1000) (by omega)
  have b0 := around_lt m0 (m := 1000) (by omega)
  have c0 := cut1_intsC xs k hkl
  have s0 := hd.at_ k (by omega) (by omega)
  rw [show ((k : Int)).toNat = k by omega] at s0
  generalize around (getN xs k) 1000 = n at a0 b0
  generalize getN xs k = x0 at *
  have q7 := tdiv_rng b0.1 (m := 7) (by omega)
  have rq := tmod_rng q7.1 (m := (q : Int) + 2) (by omega)
  have w1 : IntKind.i64.wrap 1 = 1 := rfl
  have w2 := wrap64 (n.tdiv 7) (by omega)
  have w3 := wrap64 ((q : Int) + 2) (by omega)
  have w4 := wrap64 ((n.tdiv 7).tmod ((q : Int) + 2) - 1) (by omega)
  have w5 := wrap64 ((q : Int) - 1) (by omega)
  have hq' : (0 : Int) < q := by omega
  have hq3 : ¬ (q : Int) + 2 = 0 := by omega
  generalize hL : xs.length = L at *
  have hL0 : ¬ (L : Int) = 0 := by omega
  have hL0' : ¬ L = 0 := by omega
  by_cases h7 : n.tmod 7 < 3
  · by_cases hm : (q : Int) - 1 < 0
    · refine ⟨(q : Int) - 1, ?_⟩
      rw [Z_loop_eq]
      simp [loopStep, run_F121l1, reFr, reS, zero4', List.range_succ, hlen, len_gsl, hq, hq', hk, a0, c0, s0, w1, w2, w3, w4, w5, hq3, hL0, hL0', h7, lits, minI, hm]
    · refine ⟨0, ?_⟩
      rw [Z_loop_eq]
      simp [loopStep, run_F121l1, reFr, reS, zero4', List.range_succ, hlen, len_gsl, hq, hq', hk, a0, c0, s0, w1, w2, w3, w4, w5, hq3, hL0, hL0', h7, lits, minI, hm]
  · refine ⟨(n.tdiv 7).tmod ((q : Int) + 2) - 1, ?_⟩
    rw [Z_loop_eq]
    simp [loopStep, run_F121l1, reFr, reS, zero4', List.range_succ, hlen, len_gsl, hq, hq', hk, a0, c0, s0, w1, w2, w3, w4, w5, hq3, hL0, hL0', h7]
theorem re_1 {d : D} {xs : List Int} (hd : IsRow d xs) (hx : ∀ x ∈ xs, I64 x) (B : List D) (q : Nat) (hq : 0 < q) (hq2 : q < 100) (hl : q ≤ xs.length) (e0 e1 e2 : Int) :
    ∃ v, Z prog15 (.loop 0 F121l1 (reFr d 1) (reS B q e0 e1 e2)) = Z prog15 (.loop 0 F121l1 (reFr d 2) (reS B q e0 v e2)) := by
  have hlen := hd.len
  obtain ⟨k, hk, hkl⟩ : ∃ k : Nat, (1 : Int).tmod xs.length = k ∧ k < xs.length := by
    have := tmod_rng (n := 1) (by omega) (m := xs.length) (by omega)
    exact ⟨((1 : Int).tmod xs.length).toNat, by omega, by omega⟩
  have m0 := hx _ (getN_mem (xs := xs) (i := k) hkl)
  have a0 := around15D m0 (m := 1000) (by omega)
  have b0 := around_lt m0 (m := 1000) (by omega)
  have c0 := cut1_intsC xs k hkl
  have s0 := hd.at_ k (by omega) (by omega)
  rw [show ((k : Int)).toNat = k by omega] at s0
  generalize around (getN xs k) 1000 = n at a0 b0
  generalize getN xs k = x0 at *
  have q7 := tdiv_rng b0.1 (m := 7) (by omega)
  have rq := tmod_rng q7.1 (m := (q : Int) + 2) (by omega)
  have w1 : IntKind.i64.wrap 2 = 2 := rfl
  have w2 := wrap64 (n.tdiv 7) (by omega)
  have w3 := wrap64 ((q : Int) + 2) (by omega)
  have w4 := wrap64 ((n.tdiv 7).tmod ((q : Int) + 2) - 1) (by omega)
  have w5 := wrap64 ((q : Int) - 1) (by omega)
  have hq' : (0 : Int) < q := by omega
  have hq3 : ¬ (q : Int) + 2 = 0 := by omega
  generalize hL : xs.length = L at *
  have hL0 : ¬ (L : Int) = 0 := by omega
  have hL0' : ¬ L = 0 := by omega
  by_cases h7 : n.tmod 7 < 3
  · by_cases hm : (q : Int) - 1 < 1
    · refine ⟨(q : Int) - 1, ?_⟩
      rw [Z_loop_eq]
      simp [loopStep, run_F121l1, reFr, reS, zero4', List.range_succ, hlen, len_gsl, hq, hq', hk, a0, c0, s0, w1, w2, w3, w4, w5, hq3, hL0, hL0', h7, lits, minI, hm]
    · refine ⟨1, ?_⟩
      rw [Z_loop_eq]
      simp [loopStep, run_F121l1, reFr, reS, zero4', List.range_succ, hlen, len_gsl, hq, hq', hk, a0, c0, s0, w1, w2, w3, w4, w5, hq3, hL0, hL0', h7, lits, minI, hm]
  · refine ⟨(n.tdiv 7).tmod ((q : Int) + 2) - 1, ?_⟩
    rw [Z_loop_eq]
    simp [loopStep, run_F121l1, reFr, reS, zero4', List.range_succ, hlen, len_gsl, hq, hq', hk, a0, c0, s0, w1, w2, w3, w4, w5, hq3, hL0, hL0', h7]
theorem re_2 {d : D} {xs : List Int} (hd : IsRow d xs) (hx : ∀ x ∈ xs, I64 x) (B : List D) (q : Nat) (hq : 0 < q) (hq2 : q < 100) (hl : q ≤ xs.length) (e0 e1 e2 : Int) :
    ∃ v, Z prog15 (.loop 0 F121l1 (reFr d 2) (reS B q e0 e1 e2)) = Z prog15 (.loop 0 F121l1 (reFr d 3) (reS B q e0 e1 v)) := by
  have hlen := hd.len
  obtain ⟨k, hk, hkl⟩ : ∃ k : Nat, (2 : Int).tmod xs.length = k ∧ k < xs.length := by
    have := tmod_rng (n := 2) (by omega) (m := xs.length) (by omega)
    exact ⟨((2 : Int).tmod xs.length).toNat, by omega, by omega⟩
  have m0 := hx _ (getN_mem (xs := xs) (i := k) hkl)
  have a0 := around15D m0 (m := 1000) (by omega)
  have b0 := around_lt m0 (m := 1000) (by omega)
  have c0 := cut1_intsC xs k hkl
  have s0 := hd.at_ k (by omega) (by omega)
  rw [show ((k : Int)).toNat = k by omega] at s0
  generalize around (getN xs k) 1000 = n at a0 b0
  generalize getN xs k = x0 at *
  have q7 := tdiv_rng b0.1 (m := 7) (by omega)
  have rq := tmod_rng q7.1 (m := (q : Int) + 2) (by omega)
  have w1 : IntKind.i64.wrap 3 = 3 := rfl
  have w2 := wrap64 (n.tdiv 7) (by omega)
  have w3 := wrap64 ((q : Int) + 2) (by omega)
  have w4 := wrap64 ((n.tdiv 7).tmod ((q : Int) + 2) - 1) (by omega)
  have w5 := wrap64 ((q : Int) - 1) (by omega)
  have hq' : (0 : Int) < q := by omega
  have hq3 : ¬ (q : Int) + 2 = 0 := by omega
  generalize hL : xs.length = L at *
  have hL0 : ¬ (L : Int) = 0 := by omega
  have hL0' : ¬ L = 0 := by omega
  by_cases h7 : n.tmod 7 < 3
  · by_cases hm : (q : Int) - 1 < 2
    · refine ⟨(q : Int) - 1, ?_⟩
      rw [Z_loop_eq]
      simp [loopStep, run_F121l1, reFr, reS, zero4', List.range_succ, hlen, len_gsl, hq, hq', hk, a0, c0, s0, w1, w2, w3, w4, w5, hq3, hL0, hL0', h7, lits, minI, hm]
    · refine ⟨2, ?_⟩
      rw [Z_loop_eq]
      simp [loopStep, run_F121l1, reFr, reS, zero4', List.range_succ, hlen, len_gsl, hq, hq', hk, a0, c0, s0, w1, w2, w3, w4, w5, hq3, hL0, hL0', h7, lits, minI, hm]
  · refine ⟨(n.tdiv 7).tmod ((q : Int) + 2) - 1, ?_⟩
    rw [Z_loop_eq]
    simp [loopStep, run_F121l1, reFr, reS, zero4', List.range_succ, hlen, len_gsl, hq, hq', hk, a0, c0, s0, w1, w2, w3, w4, w5, hq3, hL0, hL0', h7]
theorem re_3 (d : D) (B : List D) (q : Nat) (e0 e1 e2 : Int) : Z prog15 (.loop 0 F121l1 (reFr d 3) (reS B q e0 e1 e2)) = some (.out (.exit 3) (reFr d 3 ++ [(82, .bool false)]) (reS B q e0 e1 e2)) := by
  rw [Z_loop_eq]
  simp [loopStep, run_F121l1, reFr, reS, zero4', List.range_succ]
theorem re_nil (d : D) : Z prog15 (.loop 0 F121l1 (reFr d 0) (rwS [])) = some (.out (.exit 3) (reFr d 0 ++ [(82, .bool false)]) (rwS [])) := by
  rw [Z_loop_eq]
  simp [loopStep, run_F121l1, reFr, rwS, zero4', List.range_succ, len_nil]
theorem raw_Z {d : D} {xs : List Int} (hd : IsRow d xs) (hx : ∀ x ∈ xs, I64 x) :
    ∃ (d' : D) (c : Cd) (e0 e1 e2 : Int), IsCodeS d' c ∧ c.length ≤ 24 ∧ Z prog15 (.call 121 [.dat d] []) = some (.ret (pgD d' e0 e1 e2) []) := by
  obtain ⟨c, a1, a2, a3⟩ := rw_loop hd hx 24 [] (by simp) (by simp) (by simp)
  rw [show ((([] : Cd).length : Nat) : Int) = 0 from rfl] at a3
  have w1 : IntKind.i64.wrap (-1) = -1 := rfl
  cases c with
  | nil =>
    refine ⟨.lit (.slice none 0 0), [], -1, -1, -1, isCodeS_nil, by simp, ?_⟩
    have b := re_nil d
    refine Z_call (pf := F121) rfl rfl ?_
    simp only [rwFr, rwS, zero4', reFr] at a3 b
    simp [F121, pgD, a3, b, List.range_succ]
  | cons x c =>
    obtain ⟨v0, z0⟩ := re_0 hd hx (icC (x :: c)) (c.length + 1) (by omega) (by simp at a1; omega) (by simpa using a2) (-1) (-1) (-1)
    obtain ⟨v1, z1⟩ := re_1 hd hx (icC (x :: c)) (c.length + 1) (by omega) (by simp at a1; omega) (by simpa using a2) v0 (-1) (-1)
    obtain ⟨v2, z2⟩ := re_2 hd hx (icC (x :: c)) (c.length + 1) (by omega) (by simp at a1; omega) (by simpa using a2) v0 v1 (-1)
    have z := z0.trans (z1.trans (z2.trans (re_3 d (icC (x :: c)) (c.length + 1) v0 v1 v2)))
    refine ⟨.sl (icC (x :: c)) (x :: c).length false, x :: c, v0, v1, v2, isCodeS_sl _ _, a1, ?_⟩
    refine Z_call (pf := F121) rfl rfl ?_
    simp only [rwFr, rwS, zero4', List.length_cons] at a3
    simp only [reFr, reS, zero4'] at z
    simp only [List.length_cons]
    generalize icC (x :: c) = B at *
    generalize c.length + 1 = q at *
    simp [F121, pgD, a3, z, List.range_succ]
end Go.Pm
end SN15
section SN16
set_option linter.unusedSimpArgs false
set_option linter.unusedVariables false
namespace Go.Pm
open F Gr
theorem icC_len (c : Cd) : (icC c).length = c.length * 2 := by
  induction c with
  | nil => rfl
  | cons x c ih => simp only [icC, List.flatMap_cons, List.length_append, List.length_cons, List.length_nil] at ih ⊢; omega
theorem icC_one (c : Cd) : ∀ x ∈ (icC c).map V.dat, V.one x = true := by
  induction c with
  | nil => simp [icC]
  | cons x c ih => simp only [icC, List.flatMap_cons, List.map_append, List.mem_append] at ih ⊢; intro y hy; rcases hy with hy | hy; (· simp at hy; rcases hy with rfl | rfl <;> rfl); exact ih y hy
set_option maxHeartbeats 4000000
theorem bent_nil {d : D} (hd : IsCodeS d []) (e0 e1 e2 how by_ : Int) (hb : I64 by_) :
    ∃ a0 a1 a2 : Int, Z prog15 (.call 124 [pgD d e0 e1 e2, .int how, .int by_] []) = some (.ret (pgD (.sl [] 0 true) a0 a1 a2) []) := by
  have s0 := hd.src
  simp only [icC, List.flatMap_nil, List.map_nil, List.length_nil] at s0
  have hl0 : ∀ σ : S, V.len σ .sl (.dat (.sl [] 0 true)) = some 0 := fun _ => rfl
  have w0 : IntKind.i64.wrap 3 = 3 := rfl
  have h1 := around15D hb (m := 1000000) (by omega)
  have b1 := around_lt hb (m := 1000000) (by omega)
  generalize around by_ 1000000 = n at h1 b1
  have q3 := tdiv_rng b1.1 (m := 3) (by omega)
  have r3 := tmod_rng b1.1 (m := 3) (by omega)
  have q4 := tmod_rng q3.1 (m := 3) (by omega)
  have w2 := wrap64 (n.tdiv 3) (by omega)
  have w3 := wrap64 ((n.tdiv 3).tmod 3 - 2) (by omega)
  obtain ⟨v, hv⟩ : ∃ v, (n.tdiv 3).tmod 3 - 2 = v := ⟨_, rfl⟩
  rw [hv] at w3
  have hk : n.tmod 3 = 0 ∨ n.tmod 3 = 1 ∨ n.tmod 3 = 2 := by omega
  rcases hk with hk | hk | hk
  · refine ⟨v, e1, e2, ?_⟩
    refine Z_call (pf := F124) rfl rfl ?_
    simp [-srcO, F124, hl0, w0, pgD, hd.is.one, hd.is.cells, s0, h1, hk, hv, w2, w3, appendO]
  · refine ⟨e0, v, e2, ?_⟩
    refine Z_call (pf := F124) rfl rfl ?_
    simp [-srcO, F124, hl0, w0, pgD, hd.is.one, hd.is.cells, s0, h1, hk, hv, w2, w3, appendO]
  · refine ⟨e0, e1, v, ?_⟩
    refine Z_call (pf := F124) rfl rfl ?_
    simp [-srcO, F124, hl0, w0, pgD, hd.is.one, hd.is.cells, s0, h1, hk, hv, w2, w3, appendO]
end Go.Pm
end SN16
