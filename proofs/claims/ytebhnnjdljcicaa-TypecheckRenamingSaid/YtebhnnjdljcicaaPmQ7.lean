/- Chapter 14: the checker's word on statements. -/
import Derived.Test.YtebhnnjdljcicaaPmQ6
set_option linter.unusedSimpArgs false
set_option linter.unusedVariables false
namespace Go.Pm
open F
@[simp] theorem hk_fo (e : E) (r : Fo) : (e.fo r).hk = e.kind := by rw [fo_eq]; rfl
@[simp] theorem hn_fo (e : E) (r : Fo) : (e.fo r).hn = e.num := by rw [fo_eq]; rfl
@[simp] theorem hs_fo (e : E) (r : Fo) : (e.fo r).hs = e.str := by rw [fo_eq]; rfl
@[simp] theorem hks_fo (e : E) (r : Fo) : kd (e.fo r).hf (e.fo r).hks.len (e.fo r).hks.cells = e.kids := by rw [fo_eq, kids_eq]; rfl
@[simp] theorem len_fo (e : E) (r : Fo) : (e.fo r).len = r.len + 1 := by rw [fo_eq]; rfl
@[simp] theorem cells_fo (e : E) (r : Fo) : (e.fo r).cells = .lit (.int .i64 e.kind) :: .lit (.int .i64 e.num) :: .lit (.string e.str) :: e.kids :: r.cells := by rw [fo_eq, kids_eq]; rfl
@[simp] theorem hk_nil : Fo.hk .nil = 0 := rfl
@[simp] theorem hn_nil : Fo.hn .nil = 0 := rfl
@[simp] theorem hs_nil : Fo.hs .nil = ⟨#[]⟩ := rfl
@[simp] theorem hf_nil : Fo.hf .nil = false := rfl
@[simp] theorem hks_nil : Fo.hks .nil = .nil := rfl
section
variable {e a b c : E} {f : Bool} {s : ByteArray}
theorem wt_assign : Z prog (.call 30 [.agg [.mp 0], nd 1 0 s f (e.fo .nil)] [.map tblE]) = some (.ret (.bool (decide (e.ty = 1))) [.map tblE]) := by
  have hk := kids_Z 1 0 s f (e.fo .nil)
  have h1 := typeOf_Z e
  refine Z_call (pf := F30) rfl ?_
  simp [nd, Fo.hd] at hk
  simp [F30, hk, h1]
theorem wt_effect : Z prog (.call 30 [.agg [.mp 0], nd 5 0 s f (a.fo (b.fo .nil))] [.map tblE]) = some (.ret (.bool (decide (a.ty = 1) && decide (b.ty = 1))) [.map tblE]) := by
  have hk := kids_Z 5 0 s f (a.fo (b.fo .nil))
  have h1 := typeOf_Z a
  have h2 := typeOf_Z b
  refine Z_call (pf := F30) rfl ?_
  simp [nd, Fo.hd] at hk
  by_cases h : a.ty = 1
  · simp [F30, hk, h1, h2, h]
  · simp [F30, hk, h1, h2, h]
theorem wt_store : Z prog (.call 30 [.agg [.mp 0], nd 2 0 s f (a.fo (b.fo .nil))] [.map tblE]) = some (.ret (.bool (!(eqS s hitS || eqS s stillS) && (decide (a.ty = 1) && decide (b.ty = 1)))) [.map tblE]) := by
  have hk := kids_Z 2 0 s f (a.fo (b.fo .nil))
  have h1 := typeOf_Z a
  have h2 := typeOf_Z b
  refine Z_call (pf := F30) rfl ?_
  simp [nd, Fo.hd] at hk
  unfold hitS stillS
  cases hh : eqS s ⟨#[104, 105, 116]⟩ with
  | true => simp [F30, hk, h1, h2, hh]
  | false => cases hs : eqS s ⟨#[115, 116, 105, 108, 108]⟩ with
    | true => simp [F30, hk, h1, h2, hh, hs]
    | false =>
      by_cases h : a.ty = 1
      · simp [F30, hk, h1, h2, h, hh, hs]
      · simp [F30, hk, h1, h2, h, hh, hs]
theorem wt_stop : Z prog (.call 30 [.agg [.mp 0], nd 6 0 s f .nil] [.map tblE]) = some (.ret (.bool true) [.map tblE]) := by
  have hk := kids_Z 6 0 s f .nil
  refine Z_call (pf := F30) rfl ?_
  simp [nd, Fo.hd] at hk
  simp [F30, hk]
theorem wt_cond (w : Bool) {r : Fo} {z : Bool} (hr : Z prog (.call 37 [.agg [.mp 0], .dat (.sl r.cells r.len false)] [.map tblE]) = some (.ret (.bool z) [.map tblE])) : Z prog (.call 30 [.agg [.mp 0], nd (if w then 4 else 3) 0 s f (c.fo r)] [.map tblE]) = some (.ret (.bool (decide (c.ty = 2) && z)) [.map tblE]) := by
  have hk := kids_Z (if w then 4 else 3) 0 s f (c.fo r)
  have h1 := typeOf_Z c
  have hl := fo_cells_len r
  have e1 : (1 : Int) ≤ (r.len : Int) + 1 := by omega
  have e2 : r.len * 4 + 1 + 1 + 1 + 1 = (r.len + 1) * 4 := by omega
  have e3 : List.take (r.len * 4) r.cells = r.cells := List.take_of_length_le (by omega)
  refine Z_call (pf := F30) rfl ?_
  cases w <;> simp [nd, Fo.hd] at hk <;> by_cases h : c.ty = 2 <;> simp [F30, hk, h1, h, hr, sliceV, bound, V.len, hl, e1, e2, e3]
theorem wt_block {r : Fo} {z : Bool} (hr : Z prog (.call 37 [.agg [.mp 0], .dat (kd f r.len r.cells)] [.map tblE]) = some (.ret (.bool z) [.map tblE])) : Z prog (.call 30 [.agg [.mp 0], nd 7 0 s f r] [.map tblE]) = some (.ret (.bool z) [.map tblE]) := by
  have hk := kids_Z 7 0 s f r
  refine Z_call (pf := F30) rfl ?_
  simp [nd, Fo.hd] at hk
  simp [F30, hk, hr]
end
end Go.Pm
