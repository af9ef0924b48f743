/- Chapter 15: the law of Verify. -/
import Derived.Test.YtlbibgdenkleiaaDoorPmN17
import Derived.Test.YtlbibgdenkleiaaDoorPmCm
import Derived.Test.YtlbibgdenkleiaaDoorPmW2
set_option linter.unusedSimpArgs false
set_option linter.unusedVariables false
section SN19
set_option linter.unusedSimpArgs false
set_option linter.unusedVariables false
namespace Go.Pm
open F Gr
set_option maxHeartbeats 1000000
theorem codeD_s (c : Cd) : IsCodeS (codeD c) c := by
  cases c with
  | nil => exact isCodeS_nil
  | cons x c => exact isCodeS_sl _ false
/-- A generated program, compiled by the reference. -/
theorem gen_Z {l : D} {ls : List Int} (hl : RowV l ls) (hx : ∀ x ∈ ls, I64 x) :
    ∃ (v d : D) (c : Cd) (e0 e1 e2 er : Int), Z prog15 (.call 123 [.dat l] []) = some (.ret (.dat v) []) ∧ IsCodeS d c ∧ c.length ≤ 400 ∧ Z prog15 (.call 122 [.dat v] []) = some (.ret (.tup [pgD d e0 e1 e2, .int er]) []) := by
  obtain ⟨a, b, c, fa, fb, fc, z⟩ := Program_Z hl hx
  obtain ⟨m0, m1, m2, d0, d1, d2, z2⟩ := compileR_Z fa fb fc
  generalize progC (rvars a.nd b.nd c.nd) a b c = C at *
  unfold compV at z2
  by_cases h4 : 400 < C.length
  · rw [if_pos h4] at z2
    exact ⟨_, _, [], _, _, _, _, up15 z, isCodeS_nil, by simp, up15 z2⟩
  rw [if_neg h4] at z2
  by_cases h5 : 16 < m0 ∨ 16 < m1 ∨ 16 < m2
  · rw [if_pos h5] at z2
    exact ⟨_, _, [], _, _, _, _, up15 z, isCodeS_nil, by simp, up15 z2⟩
  · rw [if_neg h5] at z2
    exact ⟨_, _, C, _, _, _, _, up15 z, codeD_s C, by omega, up15 z2⟩
theorem verify_step {P : D} {a0 a1 a2 a3 b0 b1 b2 b3 c0 c1 c2 c3 d0 d1 d2 d3 : D} (h0 : ∃ v : Int, Z prog15 (.call 125 [.dat (.agg [a0, a1, a2, a3])] []) = some (.ret (.int v) []) ∧ Z prog15 (.call 126 [.dat (.agg [a0, a1, a2, a3])] []) = some (.ret (.int v) []))
    (h1 : ∃ v : Int, Z prog15 (.call 125 [.dat (.agg [b0, b1, b2, b3])] []) = some (.ret (.int v) []) ∧ Z prog15 (.call 126 [.dat (.agg [b0, b1, b2, b3])] []) = some (.ret (.int v) []))
    (h2 : ∃ v : Int, Z prog15 (.call 125 [.dat (.agg [c0, c1, c2, c3])] []) = some (.ret (.int v) []) ∧ Z prog15 (.call 126 [.dat (.agg [c0, c1, c2, c3])] []) = some (.ret (.int v) []))
    (h3 : ∃ v : Int, Z prog15 (.call 125 [.dat (.agg [d0, d1, d2, d3])] []) = some (.ret (.int v) []) ∧ Z prog15 (.call 126 [.dat (.agg [d0, d1, d2, d3])] []) = some (.ret (.int v) [])) :
    Z prog15 (.loop 0 F116l0 [(12, .dat (.sl [a0, a1, a2, a3, b0, b1, b2, b3, c0, c1, c2, c3, d0, d1, d2, d3] 4 true)), (13, .int 0)] []) = some (.out (.exit 0) [(12, .dat (.sl [a0, a1, a2, a3, b0, b1, b2, b3, c0, c1, c2, c3, d0, d1, d2, d3] 4 true)), (13, .int 4), (34, .bool false)] []) := by
  have w1 : IntKind.i64.wrap 1 = 1 := rfl
  have w2 : IntKind.i64.wrap 2 = 2 := rfl
  have w3 : IntKind.i64.wrap 3 = 3 := rfl
  have w4 : IntKind.i64.wrap 4 = 4 := rfl
  obtain ⟨v0, p0, q0⟩ := h0
  obtain ⟨v1, p1, q1⟩ := h1
  obtain ⟨v2, p2, q2⟩ := h2
  obtain ⟨v3, p3, q3⟩ := h3
  rw [Z_loop_eq]
  simp [loopStep, run_F116l0, sliceAddr, cutCells, p0, q0, w1]
  rw [Z_loop_eq]
  simp [loopStep, run_F116l0, sliceAddr, cutCells, p1, q1, w2]
  rw [Z_loop_eq]
  simp [loopStep, run_F116l0, sliceAddr, cutCells, p2, q2, w3]
  rw [Z_loop_eq]
  simp [loopStep, run_F116l0, sliceAddr, cutCells, p3, q3, w4]
  rw [Z_loop_eq]
  simp [loopStep, run_F116l0]
theorem ver_eq {d : D} {c : Cd} (hd : IsCode d c) (hc : c.length < 2^27) (e0 e1 e2 : Int) : ∃ v : Int, Z prog15 (.call 125 [pgD d e0 e1 e2] []) = some (.ret (.int v) []) ∧ Z prog15 (.call 126 [pgD d e0 e1 e2] []) = some (.ret (.int v) []) :=
  ⟨_, verify15D hd hc, rverify15D hd hc⟩
theorem compileVerify_Z {r l : D} {rs ls : List Int} (hr : RowV r rs) (hxr : ∀ x ∈ rs, I64 x) (hl : RowV l ls) (hxl : ∀ x ∈ ls, I64 x) {how by_ : Int} (hh : I64 how) (hb : I64 by_) :
    Z prog15 (.call 116 [.dat r, .dat l, .int how, .int by_] []) = some (.ret (.bool true) []) := by
  obtain ⟨d1, c1, a0, a1, a2, k1, n1, z1⟩ := raw_Z (rowv_isRow hr) hxr
  obtain ⟨v, d2, c2, b0, b1, b2, er, zg, k2, n2, z2⟩ := gen_Z hl hxl
  obtain ⟨d3, c3, f0, f1, f2, k3, n3, z3⟩ := bent_Z k1 (by omega) a0 a1 a2 how by_ hh hb
  obtain ⟨d4, c4, g0, g1, g2, k4, n4, z4⟩ := bent_Z k2 (by omega) b0 b1 b2 how by_ hh hb
  have hl := verify_step (P := .lit undef) (ver_eq k1.is (by omega) a0 a1 a2) (ver_eq k2.is (by omega) b0 b1 b2) (ver_eq k3 (by omega) f0 f1 f2) (ver_eq k4 (by omega) g0 g1 g2)
  simp only [pgD] at z1 z2 z3 z4
  have hl' := fun x : S => fun h => (Z_loop_cong (prog := prog15) (k := 0) (b := F116l0) (fr := [(12, .dat (.sl [d1, .lit (.int .i64 a0), .lit (.int .i64 a1), .lit (.int .i64 a2), d2, .lit (.int .i64 b0), .lit (.int .i64 b1), .lit (.int .i64 b2), d3, .lit (.int .i64 f0), .lit (.int .i64 f1), .lit (.int .i64 f2), d4, .lit (.int .i64 g0), .lit (.int .i64 g1), .lit (.int .i64 g2)] 4 true)), (13, .int 0)]) (σ := x) h).trans hl
  replace hl := hl' [.cells [.dat d1, .int a0, .int a1, .int a2], .cells [.dat d2, .int b0, .int b1, .int b2]] (by simp)
  refine Z_call (pf := F116) rfl rfl ?_
  simp [F116, z1, zg, z2, z3, z4, hl, lives15D, k1.is.one, k1.is.cells, k2.is.one, k2.is.cells, k3.one, k3.cells, k4.one, k4.cells, calm, alone]
end Go.Pm
end SN19
