/- Chapter 14: expressions, their types, and what the code says of them. -/
import Derived.Test.YtebhnnjdljcicaaPmS
import Derived.Test.YtebhnnjdljcicaaPmF14
import Derived.KernelRfl
set_option linter.unusedSimpArgs false
set_option linter.unusedVariables false
namespace Go.Pm
open F

inductive Bop where
  | add | sub | mul | div | lt | le | gt | ge | eq | ne | and | or
def Bop.str : Bop → ByteArray
  | .add => ⟨#[43]⟩ | .sub => ⟨#[45]⟩ | .mul => ⟨#[42]⟩ | .div => ⟨#[47]⟩
  | .lt => ⟨#[60]⟩ | .le => ⟨#[60, 61]⟩ | .gt => ⟨#[62]⟩ | .ge => ⟨#[62, 61]⟩ | .eq => ⟨#[61, 61]⟩ | .ne => ⟨#[33, 61]⟩
  | .and => ⟨#[38, 38]⟩ | .or => ⟨#[124, 124]⟩
def Bop.opd : Bop → Int
  | .and | .or => 2
  | _ => 1
def Bop.res : Bop → Int
  | .add | .sub | .mul | .div => 1
  | _ => 2
def ustr (neg : Bool) : ByteArray := if neg then ⟨#[45]⟩ else ⟨#[33]⟩
inductive E where
  | int (n : Int)
  | bool (n : Int)
  | var (s : ByteArray)
  | name (s : ByteArray)
  | field (f : Bool) (s : ByteArray) (e : E)
  | un (f : Bool) (neg : Bool) (e : E)
  | bin (f : Bool) (o : Bop) (a b : E)
def E.kind : E → Int
  | .int _ => 8 | .bool _ => 9 | .var _ => 10 | .field .. => 11 | .name _ => 12 | .un .. => 13 | .bin .. => 14
def E.num : E → Int
  | .int n => n | .bool n => n | _ => 0
def E.str : E → ByteArray
  | .var s => s | .name s => s | .field _ s _ => s | .un _ neg _ => ustr neg | .bin _ o _ _ => o.str | _ => ⟨#[]⟩
def E.kids : E → D
  | .field f _ e => .sl [.lit (.int .i64 e.kind), .lit (.int .i64 e.num), .lit (.string e.str), e.kids] 1 f
  | .un f _ e => .sl [.lit (.int .i64 e.kind), .lit (.int .i64 e.num), .lit (.string e.str), e.kids] 1 f
  | .bin f _ a b => .sl [.lit (.int .i64 a.kind), .lit (.int .i64 a.num), .lit (.string a.str), a.kids, .lit (.int .i64 b.kind), .lit (.int .i64 b.num), .lit (.string b.str), b.kids] 2 f
  | _ => .lit (.slice none 0 0)
@[simp] theorem one_kids (e : E) : V.one (.dat e.kids) = true := by cases e <;> rfl
@[simp] theorem cells_kids (e : E) : V.cells (.dat e.kids) = [.dat e.kids] := by cases e <;> rfl
abbrev E.node (e : E) : V := .dat (.agg [.lit (.int .i64 e.kind), .lit (.int .i64 e.num), .lit (.string e.str), e.kids])
def E.size : E → Nat
  | .field _ _ e => e.size + 1
  | .un _ _ e => e.size + 1
  | .bin _ _ a b => a.size + b.size + 1
  | _ => 1
@[simp] theorem size_int (n : Int) : E.size (.int n) = 1 := rfl
@[simp] theorem size_bool (n : Int) : E.size (.bool n) = 1 := rfl
@[simp] theorem size_var (s : ByteArray) : E.size (.var s) = 1 := rfl
@[simp] theorem size_name (s : ByteArray) : E.size (.name s) = 1 := rfl
@[simp] theorem size_field (f : Bool) (s : ByteArray) (e : E) : E.size (.field f s e) = e.size + 1 := rfl
@[simp] theorem size_un (f neg : Bool) (e : E) : E.size (.un f neg e) = e.size + 1 := rfl
@[simp] theorem size_bin (f : Bool) (o : Bop) (a b : E) : E.size (.bin f o a b) = a.size + b.size + 1 := rfl
/-- The variables' names are short. -/
def E.ok : E → Prop
  | .var s => s.size ≤ 100
  | .field _ _ e => e.ok
  | .un _ _ e => e.ok
  | .bin _ _ a b => a.ok ∧ b.ok
  | _ => True
def E.ty : E → Int
  | .int _ | .var _ | .name _ => 1
  | .bool _ => 2
  | .field _ _ e => if e.ty = 1 then 1 else 0
  | .un _ neg e => if e.ty = (if neg then 1 else 2) then (if neg then 1 else 2) else 0
  | .bin _ o a b => if a.ty = o.opd ∧ b.ty = o.opd then o.res else 0
@[simp] theorem kind_int (n : Int) : E.kind (.int n) = 8 := rfl
@[simp] theorem num_int (n : Int) : E.num (.int n) = n := rfl
@[simp] theorem str_int (n : Int) : E.str (.int n) = ⟨#[]⟩ := rfl
@[simp] theorem kids_int (n : Int) : E.kids (.int n) = .lit (.slice none 0 0) := rfl
@[simp] theorem ty_int (n : Int) : E.ty (.int n) = 1 := rfl
@[simp] theorem kind_bool (n : Int) : E.kind (.bool n) = 9 := rfl
@[simp] theorem num_bool (n : Int) : E.num (.bool n) = n := rfl
@[simp] theorem str_bool (n : Int) : E.str (.bool n) = ⟨#[]⟩ := rfl
@[simp] theorem kids_bool (n : Int) : E.kids (.bool n) = .lit (.slice none 0 0) := rfl
@[simp] theorem ty_bool (n : Int) : E.ty (.bool n) = 2 := rfl
@[simp] theorem kind_var (s : ByteArray) : E.kind (.var s) = 10 := rfl
@[simp] theorem num_var (s : ByteArray) : E.num (.var s) = 0 := rfl
@[simp] theorem str_var (s : ByteArray) : E.str (.var s) = s := rfl
@[simp] theorem kids_var (s : ByteArray) : E.kids (.var s) = .lit (.slice none 0 0) := rfl
@[simp] theorem ty_var (s : ByteArray) : E.ty (.var s) = 1 := rfl
@[simp] theorem kind_name (s : ByteArray) : E.kind (.name s) = 12 := rfl
@[simp] theorem num_name (s : ByteArray) : E.num (.name s) = 0 := rfl
@[simp] theorem str_name (s : ByteArray) : E.str (.name s) = s := rfl
@[simp] theorem kids_name (s : ByteArray) : E.kids (.name s) = .lit (.slice none 0 0) := rfl
@[simp] theorem ty_name (s : ByteArray) : E.ty (.name s) = 1 := rfl
@[simp] theorem kind_field (f : Bool) (s : ByteArray) (e : E) : E.kind (.field f s e) = 11 := rfl
@[simp] theorem num_field (f : Bool) (s : ByteArray) (e : E) : E.num (.field f s e) = 0 := rfl
@[simp] theorem str_field (f : Bool) (s : ByteArray) (e : E) : E.str (.field f s e) = s := rfl
@[simp] theorem kids_field (f : Bool) (s : ByteArray) (e : E) : E.kids (.field f s e) = .sl [.lit (.int .i64 e.kind), .lit (.int .i64 e.num), .lit (.string e.str), e.kids] 1 f := rfl
@[simp] theorem ty_field (f : Bool) (s : ByteArray) (e : E) : E.ty (.field f s e) = if e.ty = 1 then 1 else 0 := rfl
@[simp] theorem kind_un (f : Bool) (neg : Bool) (e : E) : E.kind (.un f neg e) = 13 := rfl
@[simp] theorem num_un (f : Bool) (neg : Bool) (e : E) : E.num (.un f neg e) = 0 := rfl
@[simp] theorem str_un (f : Bool) (neg : Bool) (e : E) : E.str (.un f neg e) = ustr neg := rfl
@[simp] theorem kids_un (f : Bool) (neg : Bool) (e : E) : E.kids (.un f neg e) = .sl [.lit (.int .i64 e.kind), .lit (.int .i64 e.num), .lit (.string e.str), e.kids] 1 f := rfl
@[simp] theorem ty_un (f : Bool) (neg : Bool) (e : E) : E.ty (.un f neg e) = if e.ty = (if neg then 1 else 2) then (if neg then 1 else 2) else 0 := rfl
@[simp] theorem kind_bin (f : Bool) (o : Bop) (a b : E) : E.kind (.bin f o a b) = 14 := rfl
@[simp] theorem num_bin (f : Bool) (o : Bop) (a b : E) : E.num (.bin f o a b) = 0 := rfl
@[simp] theorem str_bin (f : Bool) (o : Bop) (a b : E) : E.str (.bin f o a b) = o.str := rfl
@[simp] theorem kids_bin (f : Bool) (o : Bop) (a b : E) : E.kids (.bin f o a b) = .sl [.lit (.int .i64 a.kind), .lit (.int .i64 a.num), .lit (.string a.str), a.kids, .lit (.int .i64 b.kind), .lit (.int .i64 b.num), .lit (.string b.str), b.kids] 2 f := rfl
@[simp] theorem ty_bin (f : Bool) (o : Bop) (a b : E) : E.ty (.bin f o a b) = if a.ty = o.opd ∧ b.ty = o.opd then o.res else 0 := rfl

/-- The checker's table. -/
def tblE : List (Value × V) := [(.string ⟨#[43]⟩, .dat (.agg [.lit (.int .i64 1), .lit (.int .i64 1)])), (.string ⟨#[45]⟩, .dat (.agg [.lit (.int .i64 1), .lit (.int .i64 1)])), (.string ⟨#[42]⟩, .dat (.agg [.lit (.int .i64 1), .lit (.int .i64 1)])), (.string ⟨#[47]⟩, .dat (.agg [.lit (.int .i64 1), .lit (.int .i64 1)])),
  (.string ⟨#[60]⟩, .dat (.agg [.lit (.int .i64 1), .lit (.int .i64 2)])), (.string ⟨#[60, 61]⟩, .dat (.agg [.lit (.int .i64 1), .lit (.int .i64 2)])), (.string ⟨#[62]⟩, .dat (.agg [.lit (.int .i64 1), .lit (.int .i64 2)])), (.string ⟨#[62, 61]⟩, .dat (.agg [.lit (.int .i64 1), .lit (.int .i64 2)])),
  (.string ⟨#[61, 61]⟩, .dat (.agg [.lit (.int .i64 1), .lit (.int .i64 2)])), (.string ⟨#[33, 61]⟩, .dat (.agg [.lit (.int .i64 1), .lit (.int .i64 2)])), (.string ⟨#[38, 38]⟩, .dat (.agg [.lit (.int .i64 2), .lit (.int .i64 2)])), (.string ⟨#[124, 124]⟩, .dat (.agg [.lit (.int .i64 2), .lit (.int .i64 2)]))]
@[simp] theorem locs_tbl : locsE tblE = [] := rfl
@[simp] theorem ren_tbl (r : Nat → Nat) : renE r tblE = tblE := rfl
theorem newChecker_Z : Z prog (.call 26 [] []) = some (.ret (.agg [.mp 0]) [.map tblE]) := Z_of (n := 2) (by kernel_rfl)
def opd2 (o : Bop) : V := .dat (.agg [.lit (.int .i64 o.opd), .lit (.int .i64 o.res)])
theorem find_tbl (o : Bop) : findE .s (.string o.str) tblE = some (some (opd2 o)) := by cases o <;> kernel_rfl
abbrev zeroN : V := .dat (.agg [.lit (.int .i64 0), .lit (.int .i64 0), .lit (.string ⟨#[]⟩), .lit (.slice none 0 0)])
theorem kids1_Z (k n : Int) (s : ByteArray) (f : Bool) (e : E) :
    Z prog (.call 35 [.dat (.agg [.lit (.int .i64 k), .lit (.int .i64 n), .lit (.string s), .sl [.lit (.int .i64 e.kind), .lit (.int .i64 e.num), .lit (.string e.str), e.kids] 1 f])] []) = some (.ret (.tup [e.node, zeroN]) []) := by
  refine Z_call (pf := F35) rfl ?_
  simp [F35, V.len, sliceAddr]
theorem kids2_Z (k n : Int) (s : ByteArray) (f : Bool) (a b : E) :
    Z prog (.call 35 [.dat (.agg [.lit (.int .i64 k), .lit (.int .i64 n), .lit (.string s), .sl [.lit (.int .i64 a.kind), .lit (.int .i64 a.num), .lit (.string a.str), a.kids, .lit (.int .i64 b.kind), .lit (.int .i64 b.num), .lit (.string b.str), b.kids] 2 f])] []) = some (.ret (.tup [a.node, b.node]) []) := by
  refine Z_call (pf := F35) rfl ?_
  simp [F35, V.len, sliceAddr]
theorem kids0'_Z (k n : Int) (s : ByteArray) : Z prog (.call 35 [.dat (.agg [.lit (.int .i64 k), .lit (.int .i64 n), .lit (.string s), .lit (.slice none 0 0)])] []) = some (.ret (.tup [zeroN, zeroN]) []) := by
  refine Z_call (pf := F35) rfl ?_
  simp [F35, V.len]
@[simp] theorem eqS_33 : eqS ⟨#[33]⟩ ⟨#[45]⟩ = false := by kernel_rfl
@[simp] theorem eqS_45 : eqS ⟨#[45]⟩ ⟨#[45]⟩ = true := by kernel_rfl
@[simp] theorem ustr_t : ustr true = ⟨#[45]⟩ := rfl
@[simp] theorem ustr_f : ustr false = ⟨#[33]⟩ := rfl
section
variable {e a b : E} {f : Bool} {s : ByteArray}
theorem t_field (ih : Z prog (.call 27 [.agg [.mp 0], e.node] [.map tblE]) = some (.ret (.int e.ty) [.map tblE])) :
    Z prog (.call 27 [.agg [.mp 0], (E.field f s e).node] [.map tblE]) = some (.ret (.int (E.field f s e).ty) [.map tblE]) := by
  refine Z_call (pf := F27) rfl ?_
  by_cases h : e.ty = 1
  · simp [F27, kids1_Z, ih, h]
  · simp [F27, kids1_Z, ih, h]
theorem t_un (neg : Bool) (ih : Z prog (.call 27 [.agg [.mp 0], e.node] [.map tblE]) = some (.ret (.int e.ty) [.map tblE])) :
    Z prog (.call 27 [.agg [.mp 0], (E.un f neg e).node] [.map tblE]) = some (.ret (.int (E.un f neg e).ty) [.map tblE]) := by
  refine Z_call (pf := F27) rfl ?_
  cases neg
  · by_cases h : e.ty = 2
    · simp [F27, kids1_Z, ih, h]
    · simp [F27, kids1_Z, ih, h]
  · by_cases h : e.ty = 1
    · simp [F27, kids1_Z, ih, h]
    · simp [F27, kids1_Z, ih, h]
set_option maxHeartbeats 1000000 in
theorem t_bin (o : Bop) (iha : Z prog (.call 27 [.agg [.mp 0], a.node] [.map tblE]) = some (.ret (.int a.ty) [.map tblE])) (ihb : Z prog (.call 27 [.agg [.mp 0], b.node] [.map tblE]) = some (.ret (.int b.ty) [.map tblE])) :
    Z prog (.call 27 [.agg [.mp 0], (E.bin f o a b).node] [.map tblE]) = some (.ret (.int (E.bin f o a b).ty) [.map tblE]) := by
  have hf := find_tbl o
  refine Z_call (pf := F27) rfl ?_
  by_cases h : a.ty = o.opd
  · by_cases h' : b.ty = o.opd
    · simp [F27, kids2_Z, iha, ihb, h, h', hf, opd2, keyOk]
    · simp [F27, kids2_Z, iha, ihb, h, h', hf, opd2, keyOk]
  · simp [F27, kids2_Z, iha, ihb, h, hf, opd2, keyOk]
theorem typeOf_Z : ∀ e : E, Z prog (.call 27 [.agg [.mp 0], e.node] [.map tblE]) = some (.ret (.int e.ty) [.map tblE])
  | .int n => by
    refine Z_call (pf := F27) rfl ?_
    simp [F27, kids0'_Z]
  | .bool n => by
    refine Z_call (pf := F27) rfl ?_
    simp [F27, kids0'_Z]
  | .var s => by
    refine Z_call (pf := F27) rfl ?_
    simp [F27, kids0'_Z]
  | .name s => by
    refine Z_call (pf := F27) rfl ?_
    simp [F27, kids0'_Z]
  | .field f s e => t_field (typeOf_Z e)
  | .un f neg e => t_un neg (typeOf_Z e)
  | .bin f o a b => t_bin o (typeOf_Z a) (typeOf_Z b)
theorem TypeOf_Z (e : E) : Z prog (.call 8 [e.node] []) = some (.ret (.int e.ty) []) := by
  refine Z_call (pf := F8) rfl ?_
  simp [F8, newChecker_Z, typeOf_Z]
end
end Go.Pm
