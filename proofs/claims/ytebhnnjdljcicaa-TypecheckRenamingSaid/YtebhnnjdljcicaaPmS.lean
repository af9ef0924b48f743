/- Reckoning with the abstract machine: what simp may unfold; rows of numbers. -/
import Derived.Test.YtebhnnjdljcicaaPmY
import Derived.IntWalk
namespace Go.Pm
attribute [simp] argS undef callBody enterFr run runOs runLog runO wantedI X.ev evs evParts optEv Fr.get Fr.put Fr.keep binV unV convV finish resV sealL sealTL V.sealT V.sealv restrict getObs reach locsL V.locs nodupB inL closed renL V.ren one
  gcL gcF locsF renF Ob.locs Ob.ren locsE renE idx back writeBack doCall reserveS reserveF calm alone evOf evRead locOf locsO loadV storeV ofCells ofDs mkAgg Value.oneCell' allDat V.aggCells addrAdd fillV
@[simp] theorem one_lit (v : Value) : V.one (.dat (.lit v)) = v.oneCell' := rfl
@[simp] theorem cells_lit (v : Value) : V.cells (.dat (.lit v)) = [(.dat (.lit v))] := rfl
@[simp] theorem one_sl (cs : List D) (n : Nat) (f : Bool) : V.one (.dat (.sl cs n f)) = true := rfl
@[simp] theorem cells_sl (cs : List D) (n : Nat) (f : Bool) : V.cells (.dat (.sl cs n f)) = [(.dat (.sl cs n f))] := rfl
@[simp] theorem one_imm (cs : List D) (o : Nat) : V.one (.dat (.imm cs o)) = true := rfl
@[simp] theorem cells_imm (cs : List D) (o : Nat) : V.cells (.dat (.imm cs o)) = [(.dat (.imm cs o))] := rfl
@[simp] theorem one_dagg (cs : List D) : V.one (.dat (.agg cs)) = false := rfl
@[simp] theorem cells_dagg (cs : List D) : V.cells (.dat (.agg cs)) = cs.map .dat := rfl
@[simp] theorem one_diface (t : Nat) (d : D) : V.one (.dat (.iface t d)) = true := rfl
@[simp] theorem cells_diface (t : Nat) (d : D) : V.cells (.dat (.iface t d)) = [(.dat (.iface t d))] := rfl
@[simp] theorem one_ptr (l o : Nat) : V.one (.ptr l o) = true := rfl
@[simp] theorem cells_ptr (l o : Nat) : V.cells (.ptr l o) = [(.ptr l o)] := rfl
@[simp] theorem one_gsl (cs : List D) (n sz l : Nat) : V.one (.gsl cs n sz l) = true := rfl
@[simp] theorem cells_gsl (cs : List D) (n sz l : Nat) : V.cells (.gsl cs n sz l) = [(.gsl cs n sz l)] := rfl
@[simp] theorem one_msl (l o n cap : Nat) : V.one (.msl l o n cap) = true := rfl
@[simp] theorem cells_msl (l o n cap : Nat) : V.cells (.msl l o n cap) = [(.msl l o n cap)] := rfl
@[simp] theorem one_agg (cs : List V) : V.one (.agg cs) = false := rfl
@[simp] theorem cells_agg (cs : List V) : V.cells (.agg cs) = cs := rfl
@[simp] theorem one_fn (f : Nat) (a b : List V) : V.one (.fn f a b) = true := rfl
@[simp] theorem cells_fn (f : Nat) (a b : List V) : V.cells (.fn f a b) = [(.fn f a b)] := rfl
@[simp] theorem one_mp (l : Nat) : V.one (.mp l) = true := rfl
@[simp] theorem cells_mp (l : Nat) : V.cells (.mp l) = [(.mp l)] := rfl
@[simp] theorem one_iface (t : Nat) (v : V) : V.one (.iface t v) = true := rfl
@[simp] theorem cells_iface (t : Nat) (v : V) : V.cells (.iface t v) = [(.iface t v)] := rfl
@[simp] theorem one_tup (vs : List V) : V.one (.tup vs) = false := rfl
@[simp] theorem cells_tup (vs : List V) : V.cells (.tup vs) = [(.tup vs)] := rfl
@[simp] theorem one_yld (l : Nat) : V.one (.yld l) = true := rfl
@[simp] theorem cells_yld (l : Nat) : V.cells (.yld l) = [(.yld l)] := rfl
@[simp] theorem cut_zero {α : Type} (cs : List α) : cutCells cs 0 0 = some [] := by simp [cutCells]
@[simp] theorem cut_take {α : Type} (c : α) (cs : List α) (n : Nat) : cutCells (c :: cs) 0 (n + 1) = (cutCells cs 0 n).map (c :: ·) := by
  simp only [cutCells, List.drop_zero, List.take_succ_cons, List.length_cons, Nat.add_right_cancel_iff]
  split <;> simp
@[simp] theorem cut_drop {α : Type} (c : α) (cs : List α) (o n : Nat) : cutCells (c :: cs) (o + 1) n = cutCells cs o n := by
  simp only [cutCells, List.drop_succ_cons]
@[simp] theorem eqI_iff (a b : Int) : eqI a b = decide (a = b) := rfl
abbrev I64 (n : Int) : Prop := -9223372036854775808 ≤ n ∧ n ≤ 9223372036854775807
theorem wrap64 (n : Int) (h : -9223372036854775808 ≤ n ∧ n ≤ 9223372036854775807) : IntKind.i64.wrap n = n := by rw [IntKind.wrap_i64]; omega
/-- A row of numbers. -/
def intsC (xs : List Int) : List D := xs.map fun x => .lit (.int .i64 x)
def intsD : List Int → D
  | [] => .lit (.slice none 0 0)
  | x :: xs => .sl (intsC (x :: xs)) (x :: xs).length false
@[simp] theorem len_intsD (σ : S) (xs : List Int) : V.len σ .sl (.dat (intsD xs)) = some xs.length := by
  cases xs <;> simp [intsD, V.len]
@[simp] theorem one_intsD (xs : List Int) : V.one (.dat (intsD xs)) = true := by cases xs <;> rfl
@[simp] theorem cells_intsD (xs : List Int) : V.cells (.dat (intsD xs)) = [.dat (intsD xs)] := by cases xs <;> rfl
theorem at_intsD (xs : List Int) (i : Int) (h0 : 0 ≤ i) (h1 : i < xs.length) : sliceAddr 1 (.dat (intsD xs)) i = some (.dat (.imm (intsC xs) i.toNat)) := by
  cases xs with
  | nil => simp at h1; omega
  | cons x xs => simp only [List.length_cons] at h1; simp [intsD, sliceAddr, h0]; omega
theorem cut_intsC (xs : List Int) (i : Nat) (h : i < xs.length) : cutCells (intsC xs) i 1 = some [.lit (.int .i64 xs[i])] := by
  unfold cutCells intsC
  rw [List.drop_eq_getElem_cons (by simpa using h)]
  simp
end Go.Pm
