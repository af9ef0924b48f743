/- Chapter 14: the reference's types of expressions. -/
import Derived.Test.YtebhnnjdljcicaaPmQ
set_option linter.unusedSimpArgs false
set_option linter.unusedVariables false
namespace Go.Pm
open F
theorem in_logic (o : Bop) : Z prog (.call 28 [.dat (.sl [.lit (.string ⟨#[38, 38]⟩), .lit (.string ⟨#[124, 124]⟩)] 2 true), .str o.str] []) = some (.ret (.bool (decide (o.opd = 2))) []) := by
  cases o <;> exact Z_of (n := 6) (by kernel_rfl)
theorem in_comp (o : Bop) : Z prog (.call 28 [.dat (.sl [.lit (.string ⟨#[60]⟩), .lit (.string ⟨#[60, 61]⟩), .lit (.string ⟨#[62]⟩), .lit (.string ⟨#[62, 61]⟩), .lit (.string ⟨#[61, 61]⟩), .lit (.string ⟨#[33, 61]⟩)] 6 true), .str o.str] []) = some (.ret (.bool (decide (o.opd = 1 ∧ o.res = 2))) []) := by
  cases o <;> exact Z_of (n := 12) (by kernel_rfl)
@[simp] theorem eqS_3333 : eqS ⟨#[33]⟩ ⟨#[33]⟩ = true := by kernel_rfl
@[simp] theorem eqS_4533 : eqS ⟨#[45]⟩ ⟨#[33]⟩ = false := by kernel_rfl
attribute [local simp] loopStep Z_loop_eq V.len sliceAddr
section
variable {e a b : E} {f : Bool} {s : ByteArray}
theorem r_field (ih : Z prog (.call 9 [e.node] []) = some (.ret (.int e.ty) [])) :
    Z prog (.call 9 [(E.field f s e).node] []) = some (.ret (.int (E.field f s e).ty) []) := by
  refine Z_call (pf := F9) rfl ?_
  by_cases h : e.ty = 1
  · simp [F9, run_F9l0, ih, h, wrap64]
  · simp [F9, run_F9l0, ih, h, wrap64]
theorem r_un (neg : Bool) (ih : Z prog (.call 9 [e.node] []) = some (.ret (.int e.ty) [])) :
    Z prog (.call 9 [(E.un f neg e).node] []) = some (.ret (.int (E.un f neg e).ty) []) := by
  refine Z_call (pf := F9) rfl ?_
  cases neg
  · by_cases h : e.ty = 2
    · simp [F9, run_F9l0, ih, h, wrap64]
    · simp [F9, run_F9l0, ih, h, wrap64]
  · by_cases h : e.ty = 1
    · simp [F9, run_F9l0, ih, h, wrap64]
    · simp [F9, run_F9l0, ih, h, wrap64]
set_option maxHeartbeats 1000000 in
theorem r_bin (o : Bop) (iha : Z prog (.call 9 [a.node] []) = some (.ret (.int a.ty) [])) (ihb : Z prog (.call 9 [b.node] []) = some (.ret (.int b.ty) [])) :
    Z prog (.call 9 [(E.bin f o a b).node] []) = some (.ret (.int (E.bin f o a b).ty) []) := by
  refine Z_call (pf := F9) rfl ?_
  have h1 := in_logic o
  have h2 := in_comp o
  have ho : (o.opd = 2 ∧ o.res = 2) ∨ (o.opd = 1 ∧ o.res = 1) ∨ (o.opd = 1 ∧ o.res = 2) := by cases o <;> simp [Bop.opd, Bop.res]
  rcases ho with ⟨e1, e2⟩ | ⟨e1, e2⟩ | ⟨e1, e2⟩ <;> simp only [e1, e2] at h1 h2
  · by_cases h : a.ty = 2
    · by_cases h' : b.ty = 2
      · simp [F9, run_F9l0, iha, ihb, h, h', h1, h2, e1, e2, wrap64]
      · simp [F9, run_F9l0, iha, ihb, h, h', h1, h2, e1, e2, wrap64]
    · simp [F9, run_F9l0, iha, ihb, h, h1, h2, e1, e2, wrap64]
  · by_cases h : a.ty = 1
    · by_cases h' : b.ty = 1
      · simp [F9, run_F9l0, iha, ihb, h, h', h1, h2, e1, e2, wrap64]
      · simp [F9, run_F9l0, iha, ihb, h, h', h1, h2, e1, e2, wrap64]
    · simp [F9, run_F9l0, iha, ihb, h, h1, h2, e1, e2, wrap64]
  · by_cases h : a.ty = 1
    · by_cases h' : b.ty = 1
      · simp [F9, run_F9l0, iha, ihb, h, h', h1, h2, e1, e2, wrap64]
      · simp [F9, run_F9l0, iha, ihb, h, h', h1, h2, e1, e2, wrap64]
    · simp [F9, run_F9l0, iha, ihb, h, h1, h2, e1, e2, wrap64]
theorem rTypeOf_Z : ∀ e : E, Z prog (.call 9 [e.node] []) = some (.ret (.int e.ty) [])
  | .int n => by
    refine Z_call (pf := F9) rfl ?_
    simp [F9, run_F9l0]
  | .bool n => by
    refine Z_call (pf := F9) rfl ?_
    simp [F9, run_F9l0]
  | .var s => by
    refine Z_call (pf := F9) rfl ?_
    simp [F9, run_F9l0]
  | .name s => by
    refine Z_call (pf := F9) rfl ?_
    simp [F9, run_F9l0]
  | .field f s e => r_field (rTypeOf_Z e)
  | .un f neg e => r_un neg (rTypeOf_Z e)
  | .bin f o a b => r_bin o (rTypeOf_Z a) (rTypeOf_Z b)
end
end Go.Pm
