/- Types of expressions: the program's. Types of expressions: the reference's. Statements: rows. Statements: the checker. Statements: the checker, rows. Statements: the reference. Check, both. -/
import Derived.Test.YtlbibgdenkleiaaGreatDoorPmEt
import Derived.Test.YtlbibgdenkleiaaGreatDoorPmTb14
set_option linter.unusedSimpArgs false
set_option linter.unusedVariables false
section ST4a
namespace Go.Pm
open F
def tblE : List (Value × V) := [(.string ⟨#[43]⟩, .dat (.agg [.lit (.int .i64 1), .lit (.int .i64 1)])), (.string ⟨#[45]⟩, .dat (.agg [.lit (.int .i64 1), .lit (.int .i64 1)])), (.string ⟨#[42]⟩, .dat (.agg [.lit (.int .i64 1), .lit (.int .i64 1)])), (.string ⟨#[47]⟩, .dat (.agg [.lit (.int .i64 1), .lit (.int .i64 1)])),
  (.string ⟨#[60]⟩, .dat (.agg [.lit (.int .i64 1), .lit (.int .i64 2)])), (.string ⟨#[60, 61]⟩, .dat (.agg [.lit (.int .i64 1), .lit (.int .i64 2)])), (.string ⟨#[62]⟩, .dat (.agg [.lit (.int .i64 1), .lit (.int .i64 2)])), (.string ⟨#[62, 61]⟩, .dat (.agg [.lit (.int .i64 1), .lit (.int .i64 2)])),
  (.string ⟨#[61, 61]⟩, .dat (.agg [.lit (.int .i64 1), .lit (.int .i64 2)])), (.string ⟨#[33, 61]⟩, .dat (.agg [.lit (.int .i64 1), .lit (.int .i64 2)])), (.string ⟨#[38, 38]⟩, .dat (.agg [.lit (.int .i64 2), .lit (.int .i64 2)])), (.string ⟨#[124, 124]⟩, .dat (.agg [.lit (.int .i64 2), .lit (.int .i64 2)]))]
@[simp] theorem locs_tbl : locsE tblE = [] := rfl
@[simp] theorem ren_tbl (r : Nat → Nat) : renE r tblE = tblE := rfl
theorem newChecker_Z : Z base14 (.call 26 [] []) = some (.ret (.agg [.mp 0]) [.map tblE]) := Z_of (n := 2) (by kernel_rfl)
def opd2 (o : Bop) : V := .dat (.agg [.lit (.int .i64 o.opd), .lit (.int .i64 o.res)])
theorem find_tbl (o : Bop) : findE .s (.string o.str) tblE = some (some (opd2 o)) := by cases o <;> kernel_rfl
theorem kids1_Z (k n : Int) (s : ByteArray) (f : Bool) (e : E) :
    Z base14 (.call 35 [.dat (.agg [.lit (.int .i64 k), .lit (.int .i64 n), .lit (.string s), .sl [.lit (.int .i64 e.kind), .lit (.int .i64 e.num), .lit (.string e.str), e.kids] 1 f])] []) = some (.ret (.tup [e.node, zeroN]) []) := by
  refine Z_call (pf := F35) rfl rfl ?_
  simp [F35, V.len, sliceAddr]
theorem kids2_Z (k n : Int) (s : ByteArray) (f : Bool) (a b : E) :
    Z base14 (.call 35 [.dat (.agg [.lit (.int .i64 k), .lit (.int .i64 n), .lit (.string s), .sl [.lit (.int .i64 a.kind), .lit (.int .i64 a.num), .lit (.string a.str), a.kids, .lit (.int .i64 b.kind), .lit (.int .i64 b.num), .lit (.string b.str), b.kids] 2 f])] []) = some (.ret (.tup [a.node, b.node]) []) := by
  refine Z_call (pf := F35) rfl rfl ?_
  simp [F35, V.len, sliceAddr]
theorem kids0'_Z (k n : Int) (s : ByteArray) : Z base14 (.call 35 [.dat (.agg [.lit (.int .i64 k), .lit (.int .i64 n), .lit (.string s), .lit (.slice none 0 0)])] []) = some (.ret (.tup [zeroN, zeroN]) []) := by
  refine Z_call (pf := F35) rfl rfl ?_
  simp [F35, V.len]
@[simp] theorem eqS_33 : eqS ⟨#[33]⟩ ⟨#[45]⟩ = false := by kernel_rfl
@[simp] theorem eqS_45 : eqS ⟨#[45]⟩ ⟨#[45]⟩ = true := by kernel_rfl
@[simp] theorem ustr_t : ustr true = ⟨#[45]⟩ := rfl
@[simp] theorem ustr_f : ustr false = ⟨#[33]⟩ := rfl
section
variable {e a b : E} {f : Bool} {s : ByteArray}
theorem t_field (ih : Z base14 (.call 27 [.agg [.mp 0], e.node] [.map tblE]) = some (.ret (.int e.ty) [.map tblE])) :
    Z base14 (.call 27 [.agg [.mp 0], (E.field f s e).node] [.map tblE]) = some (.ret (.int (E.field f s e).ty) [.map tblE]) := by
  refine Z_call (pf := F27) rfl rfl ?_
  by_cases h : e.ty = 1
  · simp [F27, kids1_Z, ih, h]
  · simp [F27, kids1_Z, ih, h]
theorem t_un (neg : Bool) (ih : Z base14 (.call 27 [.agg [.mp 0], e.node] [.map tblE]) = some (.ret (.int e.ty) [.map tblE])) :
    Z base14 (.call 27 [.agg [.mp 0], (E.un f neg e).node] [.map tblE]) = some (.ret (.int (E.un f neg e).ty) [.map tblE]) := by
  refine Z_call (pf := F27) rfl rfl ?_
  cases neg
  · by_cases h : e.ty = 2
    · simp [F27, kids1_Z, ih, h]
    · simp [F27, kids1_Z, ih, h]
  · by_cases h : e.ty = 1
    · simp [F27, kids1_Z, ih, h]
    · simp [F27, kids1_Z, ih, h]
set_option maxHeartbeats 1000000 in
theorem t_bin (o : Bop) (iha : Z base14 (.call 27 [.agg [.mp 0], a.node] [.map tblE]) = some (.ret (.int a.ty) [.map tblE])) (ihb : Z base14 (.call 27 [.agg [.mp 0], b.node] [.map tblE]) = some (.ret (.int b.ty) [.map tblE])) :
    Z base14 (.call 27 [.agg [.mp 0], (E.bin f o a b).node] [.map tblE]) = some (.ret (.int (E.bin f o a b).ty) [.map tblE]) := by
  have hf := find_tbl o
  refine Z_call (pf := F27) rfl rfl ?_
  by_cases h : a.ty = o.opd
  · by_cases h' : b.ty = o.opd
    · simp [F27, kids2_Z, iha, ihb, h, h', hf, opd2, keyOk]
    · simp [F27, kids2_Z, iha, ihb, h, h', hf, opd2, keyOk]
  · simp [F27, kids2_Z, iha, ihb, h, hf, opd2, keyOk]
theorem typeOf_Z : ∀ e : E, Z base14 (.call 27 [.agg [.mp 0], e.node] [.map tblE]) = some (.ret (.int e.ty) [.map tblE])
  | .int n => by
    refine Z_call (pf := F27) rfl rfl ?_
    simp [F27, kids0'_Z]
  | .bool n => by
    refine Z_call (pf := F27) rfl rfl ?_
    simp [F27, kids0'_Z]
  | .var s => by
    refine Z_call (pf := F27) rfl rfl ?_
    simp [F27, kids0'_Z]
  | .name s => by
    refine Z_call (pf := F27) rfl rfl ?_
    simp [F27, kids0'_Z]
  | .field f s e => t_field (typeOf_Z e)
  | .un f neg e => t_un neg (typeOf_Z e)
  | .bin f o a b => t_bin o (typeOf_Z a) (typeOf_Z b)
end
end Go.Pm
end ST4a
section ST4b
namespace Go.Pm
open F
theorem in_logic (o : Bop) : Z base14 (.call 28 [.dat (.sl [.lit (.string ⟨#[38, 38]⟩), .lit (.string ⟨#[124, 124]⟩)] 2 true), .str o.str] []) = some (.ret (.bool (decide (o.opd = 2))) []) := by
  cases o <;> exact Z_of (n := 6) (by kernel_rfl)
theorem in_comp (o : Bop) : Z base14 (.call 28 [.dat (.sl [.lit (.string ⟨#[60]⟩), .lit (.string ⟨#[60, 61]⟩), .lit (.string ⟨#[62]⟩), .lit (.string ⟨#[62, 61]⟩), .lit (.string ⟨#[61, 61]⟩), .lit (.string ⟨#[33, 61]⟩)] 6 true), .str o.str] []) = some (.ret (.bool (decide (o.opd = 1 ∧ o.res = 2))) []) := by
  cases o <;> exact Z_of (n := 12) (by kernel_rfl)
@[simp] theorem eqS_3333 : eqS ⟨#[33]⟩ ⟨#[33]⟩ = true := by kernel_rfl
@[simp] theorem eqS_4533 : eqS ⟨#[45]⟩ ⟨#[33]⟩ = false := by kernel_rfl
attribute [local simp] loopStep Z_loop_eq V.len sliceAddr
section
variable {e a b : E} {f : Bool} {s : ByteArray}
theorem r_field (ih : Z base14 (.call 9 [e.node] []) = some (.ret (.int e.ty) [])) :
    Z base14 (.call 9 [(E.field f s e).node] []) = some (.ret (.int (E.field f s e).ty) []) := by
  refine Z_call (pf := F9) rfl rfl ?_
  by_cases h : e.ty = 1
  · simp [F9, run_F9l0, ih, h, wrap64]
  · simp [F9, run_F9l0, ih, h, wrap64]
theorem r_un (neg : Bool) (ih : Z base14 (.call 9 [e.node] []) = some (.ret (.int e.ty) [])) :
    Z base14 (.call 9 [(E.un f neg e).node] []) = some (.ret (.int (E.un f neg e).ty) []) := by
  refine Z_call (pf := F9) rfl rfl ?_
  cases neg
  · by_cases h : e.ty = 2
    · simp [F9, run_F9l0, ih, h, wrap64]
    · simp [F9, run_F9l0, ih, h, wrap64]
  · by_cases h : e.ty = 1
    · simp [F9, run_F9l0, ih, h, wrap64]
    · simp [F9, run_F9l0, ih, h, wrap64]
set_option maxHeartbeats 1000000 in
theorem r_bin (o : Bop) (iha : Z base14 (.call 9 [a.node] []) = some (.ret (.int a.ty) [])) (ihb : Z base14 (.call 9 [b.node] []) = some (.ret (.int b.ty) [])) :
    Z base14 (.call 9 [(E.bin f o a b).node] []) = some (.ret (.int (E.bin f o a b).ty) []) := by
  refine Z_call (pf := F9) rfl rfl ?_
  have h1 := in_logic o
  have h2 := in_comp o
  have ho : (o.opd = 2 ∧ o.res = 2) ∨ (o.opd = 1 ∧ o.res = 1) ∨ (o.opd = 1 ∧ o.res = 2) := by cases o <;> simp [Bop.opd, Bop.res]
  rcases ho with ⟨e1, e2⟩ | ⟨e1, e2⟩ | ⟨e1, e2⟩ <;> simp only [e1, e2] at h1 h2
  · by_cases h : a.ty = 2
    · by_cases h' : b.ty = 2
      · simp [F9, run_F9l0, iha, ihb, h, h', h1, h2, e1, e2, wrap64]
      · simp [F9, run_F9l0, iha, ihb, h, h', h1, h2, e1, e2, wrap64]
    · simp [F9, run_F9l0, iha, ihb, h, h1, h2, e1, e2, wrap64]
  · by_cases h : a.ty = 1
    · by_cases h' : b.ty = 1
      · simp [F9, run_F9l0, iha, ihb, h, h', h1, h2, e1, e2, wrap64]
      · simp [F9, run_F9l0, iha, ihb, h, h', h1, h2, e1, e2, wrap64]
    · simp [F9, run_F9l0, iha, ihb, h, h1, h2, e1, e2, wrap64]
  · by_cases h : a.ty = 1
    · by_cases h' : b.ty = 1
      · simp [F9, run_F9l0, iha, ihb, h, h', h1, h2, e1, e2, wrap64]
      · simp [F9, run_F9l0, iha, ihb, h, h', h1, h2, e1, e2, wrap64]
    · simp [F9, run_F9l0, iha, ihb, h, h1, h2, e1, e2, wrap64]
theorem rTypeOf_Z : ∀ e : E, Z base14 (.call 9 [e.node] []) = some (.ret (.int e.ty) [])
  | .int n => by
    refine Z_call (pf := F9) rfl rfl ?_
    simp [F9, run_F9l0]
  | .bool n => by
    refine Z_call (pf := F9) rfl rfl ?_
    simp [F9, run_F9l0]
  | .var s => by
    refine Z_call (pf := F9) rfl rfl ?_
    simp [F9, run_F9l0]
  | .name s => by
    refine Z_call (pf := F9) rfl rfl ?_
    simp [F9, run_F9l0]
  | .field f s e => r_field (rTypeOf_Z e)
  | .un f neg e => r_un neg (rTypeOf_Z e)
  | .bin f o a b => r_bin o (rTypeOf_Z a) (rTypeOf_Z b)
end
end Go.Pm
end ST4b
section ST4c
namespace Go.Pm
open F
theorem kids_Z (k n : Int) (s : ByteArray) (f : Bool) (ks : Fo) : Z base14 (.call 35 [nd k n s f ks] []) = some (.ret (.tup [ks.hd, ks.tl.hd]) []) := by
  refine Z_call (pf := F35) rfl rfl ?_
  cases ks with
  | nil => simp [F35, V.len, Fo.hk, Fo.hn, Fo.hs, Fo.hf, Fo.hks, Fo.tl]
  | cons k1 n1 s1 f1 ks1 r => cases r with
    | nil => simp [F35, V.len, sliceAddr, Fo.hk, Fo.hn, Fo.hs, Fo.hf, Fo.hks, Fo.tl]
    | cons k2 n2 s2 f2 ks2 r =>
      have h : (1 : Int) < (r.len : Int) + 1 + 1 := by omega
      have h' : (0 : Int) < (r.len : Int) + 1 + 1 := by omega
      have h0 : 0 < r.len + 1 + 1 := by omega
      have h1 : 1 < r.len + 1 + 1 := by omega
      simp [F35, V.len, sliceAddr, Fo.hk, Fo.hn, Fo.hs, Fo.hf, Fo.hks, Fo.tl, h, h', h0, h1]
section
abbrev allFr (i : Nat) (N : Nat) (s : D) : Fr := [(2, .ptr 1 0), (7, .dat s), (8, .int N), (9, .int i)]
def allR (N : Nat) (s : D) (b : Bool) (g : Ob) : Option Res :=
  some (if b then .out (.exit 0) [(2, .ptr 1 0), (7, .dat s), (8, .int N), (9, .int N), (10, .bool false)] [.map tblE, .cells [.mp 0]]
    else .out .ret [(4, .bool false)] [.map tblE, .cells [.mp 0], g])
theorem all_end (N : Nat) (s : D) : ∃ g, Z base14 (.loop 1 F37l0 (allFr N N s) [.map tblE, .cells [.mp 0]]) = allR N s true g := by
  refine ⟨.tip 0, ?_⟩
  rw [Z_loop_eq]
  simp [loopStep, run_F37l0, allR]
theorem all_step {k n : Int} {s : ByteArray} {f : Bool} {ks : Fo} {w wr : Bool} (hw : Z base14 (.call 30 [.agg [.mp 0], nd k n s f ks] [.map tblE]) = some (.ret (.bool w) [.map tblE]))
    {i N : Nat} {cs r : List D} {fl : Bool} (hc : cs.drop (i * 4) = .lit (.int .i64 k) :: .lit (.int .i64 n) :: .lit (.string s) :: kd f ks.len ks.cells :: r) (hi : i < N) (hN : N < 2^40)
    (ih : w = true → ∃ g, Z base14 (.loop 1 F37l0 (allFr (i + 1) N (.sl cs N fl)) [.map tblE, .cells [.mp 0]]) = allR N (.sl cs N fl) wr g) :
    ∃ g, Z base14 (.loop 1 F37l0 (allFr i N (.sl cs N fl)) [.map tblE, .cells [.mp 0]]) = allR N (.sl cs N fl) (w && wr) g := by
  have h4 := cut4 hc
  have w1 := wrap64 ((i : Int) + 1) (by omega)
  have hi' : (i : Int) < N := by omega
  cases w with
  | true =>
    obtain ⟨g, hg⟩ := ih rfl
    refine ⟨g, ?_⟩
    rw [Z_loop_eq]
    rw [Bool.true_and, ← hg]
    simp [loopStep, run_F37l0, hi, hi', sliceAddr, h4, hw, w1]
    exact Z_loop_cong (by simp [allFr])
  | false =>
    refine ⟨.cells [.int k, .int n, .str s, .dat (kd f ks.len ks.cells)], ?_⟩
    rw [Z_loop_eq]
    simp [loopStep, run_F37l0, hi, hi', sliceAddr, h4, hw, w1, allR]
theorem all_of_loop {N : Nat} {cs : List D} {f : Bool} {b : Bool} (h : ∃ g, Z base14 (.loop 1 F37l0 (allFr 0 N (.sl cs N f)) [.map tblE, .cells [.mp 0]]) = allR N (.sl cs N f) b g) :
    Z base14 (.call 37 [.agg [.mp 0], .dat (.sl cs N f)] [.map tblE]) = some (.ret (.bool b) [.map tblE]) := by
  obtain ⟨g, hg⟩ := h
  refine Z_call (pf := F37) rfl rfl ?_
  simp only [allFr, allR] at hg
  cases b <;> simp at hg <;> simp [F37, V.len, hg]
theorem all_nil : Z base14 (.call 37 [.agg [.mp 0], .dat (.lit (.slice none 0 0))] [.map tblE]) = some (.ret (.bool true) [.map tblE]) := by
  obtain ⟨g, hg⟩ := all_end 0 (.lit (.slice none 0 0))
  refine Z_call (pf := F37) rfl rfl ?_
  simp [allFr, allR] at hg
  simp [F37, V.len, hg]
end
end Go.Pm
end ST4c
section ST4d
namespace Go.Pm
open F
section
variable {e a b c : E} {f : Bool} {s : ByteArray}
theorem wt_assign : Z base14 (.call 30 [.agg [.mp 0], nd 1 0 s f (e.fo .nil)] [.map tblE]) = some (.ret (.bool (decide (e.ty = 1))) [.map tblE]) := by
  have hk := kids_Z 1 0 s f (e.fo .nil)
  have h1 := typeOf_Z e
  refine Z_call (pf := F30) rfl rfl ?_
  simp [nd, Fo.hd] at hk
  simp [F30, hk, h1]
theorem wt_effect : Z base14 (.call 30 [.agg [.mp 0], nd 5 0 s f (a.fo (b.fo .nil))] [.map tblE]) = some (.ret (.bool (decide (a.ty = 1) && decide (b.ty = 1))) [.map tblE]) := by
  have hk := kids_Z 5 0 s f (a.fo (b.fo .nil))
  have h1 := typeOf_Z a
  have h2 := typeOf_Z b
  refine Z_call (pf := F30) rfl rfl ?_
  simp [nd, Fo.hd] at hk
  by_cases h : a.ty = 1
  · simp [F30, hk, h1, h2, h]
  · simp [F30, hk, h1, h2, h]
theorem wt_store : Z base14 (.call 30 [.agg [.mp 0], nd 2 0 s f (a.fo (b.fo .nil))] [.map tblE]) = some (.ret (.bool (!(eqS s hitS || eqS s stillS) && (decide (a.ty = 1) && decide (b.ty = 1)))) [.map tblE]) := by
  have hk := kids_Z 2 0 s f (a.fo (b.fo .nil))
  have h1 := typeOf_Z a
  have h2 := typeOf_Z b
  refine Z_call (pf := F30) rfl rfl ?_
  simp [nd, Fo.hd] at hk
  unfold hitS stillS
  cases hh : eqS s ⟨#[104, 105, 116]⟩ with
  | true => simp [F30, hk, h1, h2, hh]
  | false => cases hs : eqS s ⟨#[115, 116, 105, 108, 108]⟩ with
    | true => simp [F30, hk, h1, h2, hh, hs]
    | false =>
      by_cases h : a.ty = 1
      · simp [F30, hk, h1, h2, h, hh, hs]
      · simp [F30, hk, h1, h2, h, hh, hs]
theorem wt_stop : Z base14 (.call 30 [.agg [.mp 0], nd 6 0 s f .nil] [.map tblE]) = some (.ret (.bool true) [.map tblE]) := by
  have hk := kids_Z 6 0 s f .nil
  refine Z_call (pf := F30) rfl rfl ?_
  simp [nd, Fo.hd] at hk
  simp [F30, hk]
theorem wt_cond (w : Bool) {r : Fo} {z : Bool} (hr : Z base14 (.call 37 [.agg [.mp 0], .dat (.sl r.cells r.len false)] [.map tblE]) = some (.ret (.bool z) [.map tblE])) : Z base14 (.call 30 [.agg [.mp 0], nd (if w then 4 else 3) 0 s f (c.fo r)] [.map tblE]) = some (.ret (.bool (decide (c.ty = 2) && z)) [.map tblE]) := by
  have hk := kids_Z (if w then 4 else 3) 0 s f (c.fo r)
  have h1 := typeOf_Z c
  have hl := fo_cells_len r
  have e1 : (1 : Int) ≤ (r.len : Int) + 1 := by omega
  have e2 : r.len * 4 + 1 + 1 + 1 + 1 = (r.len + 1) * 4 := by omega
  have e3 : List.take (r.len * 4) r.cells = r.cells := List.take_of_length_le (by omega)
  refine Z_call (pf := F30) rfl rfl ?_
  cases w <;> simp [nd, Fo.hd] at hk <;> by_cases h : c.ty = 2 <;> simp [F30, hk, h1, h, hr, sliceV, bound, V.len, hl, e1, e2, e3]
theorem wt_block {r : Fo} {z : Bool} (hr : Z base14 (.call 37 [.agg [.mp 0], .dat (kd f r.len r.cells)] [.map tblE]) = some (.ret (.bool z) [.map tblE])) : Z base14 (.call 30 [.agg [.mp 0], nd 7 0 s f r] [.map tblE]) = some (.ret (.bool z) [.map tblE]) := by
  have hk := kids_Z 7 0 s f r
  refine Z_call (pf := F30) rfl rfl ?_
  simp [nd, Fo.hd] at hk
  simp [F30, hk, hr]
end
end Go.Pm
end ST4d
section ST4e
namespace Go.Pm
open F
theorem all_ss : ∀ (ss : Ss) (i : Nat) (cs : List D) (N : Nat) (fl : Bool), cs.drop (i * 4) = ss.fo.cells → N = i + ss.fo.len → i + ss.fo.size < 2^40 →
    ∃ g, Z base14 (.loop 1 F37l0 (allFr i N (.sl cs N fl)) [.map tblE, .cells [.mp 0]]) = allR N (.sl cs N fl) ss.well g
  | .nil, i, cs, N, fl, hc, hN, hb => by
    simp only [Ss.fo, fo_len_nil, Nat.add_zero] at hN
    subst hN
    exact all_end _ _
  | .assign f s e r, i, cs, N, fl, hc, hN, hb => by
    simp only [Ss.fo, fo_cells_cons, fo_len_cons, fo_size_cons] at hc hN hb
    have := fo_len_size r.fo
    exact all_step wt_assign hc (by omega) (by omega) fun _ => all_ss r (i + 1) cs N fl (drop_next hc) (by omega) (by omega)
  | .store f s a b r, i, cs, N, fl, hc, hN, hb => by
    simp only [Ss.fo, fo_cells_cons, fo_len_cons, fo_size_cons] at hc hN hb
    have := fo_len_size r.fo
    exact all_step wt_store hc (by omega) (by omega) fun _ => all_ss r (i + 1) cs N fl (drop_next hc) (by omega) (by omega)
  | .effect f a b r, i, cs, N, fl, hc, hN, hb => by
    simp only [Ss.fo, fo_cells_cons, fo_len_cons, fo_size_cons] at hc hN hb
    have := fo_len_size r.fo
    exact all_step wt_effect hc (by omega) (by omega) fun _ => all_ss r (i + 1) cs N fl (drop_next hc) (by omega) (by omega)
  | .stop r, i, cs, N, fl, hc, hN, hb => by
    simp only [Ss.fo, fo_cells_cons, fo_len_cons, fo_size_cons] at hc hN hb
    have := fo_len_size r.fo
    have h := all_step (wr := r.well) wt_stop hc (by omega) (by omega) fun _ => all_ss r (i + 1) cs N fl (drop_next hc) (by omega) (by omega)
    rw [Bool.true_and] at h
    exact h
  | .cond w f c b r, i, cs, N, fl, hc, hN, hb => by
    simp only [Ss.fo, fo_cells_cons, fo_len_cons, fo_size_cons, fo_size] at hc hN hb
    have := fo_len_size r.fo
    have hw := wt_cond (c := c) (f := f) (s := ⟨#[]⟩) w (all_of_loop (f := false) (all_ss b 0 b.fo.cells b.fo.len false rfl (by omega) (by omega)))
    exact all_step hw hc (by omega) (by omega) fun _ => all_ss r (i + 1) cs N fl (drop_next hc) (by omega) (by omega)
  | .block f b r, i, cs, N, fl, hc, hN, hb => by
    simp only [Ss.fo, fo_cells_cons, fo_len_cons, fo_size_cons] at hc hN hb
    have := fo_len_size r.fo
    have hw : Z base14 (.call 30 [.agg [.mp 0], nd 7 0 ⟨#[]⟩ f b.fo] [.map tblE]) = some (.ret (.bool b.well) [.map tblE]) := by
      refine wt_block ?_
      have h := all_of_loop (f := f) (all_ss b 0 b.fo.cells b.fo.len f rfl (by omega) (by omega))
      cases hb : b.fo.len with
      | zero =>
        have hn : b = .nil := by cases b <;> simp [Ss.fo] at hb; rfl
        subst hn
        exact all_nil
      | succ n => rw [kd_s, ← hb]; exact h
    exact all_step hw hc (by omega) (by omega) fun _ => all_ss r (i + 1) cs N fl (drop_next hc) (by omega) (by omega)
theorem wellTyped_Z (f : Bool) (b : Ss) (h : b.fo.size < 2^40) : Z base14 (.call 30 [.agg [.mp 0], nd 7 0 ⟨#[]⟩ f b.fo] [.map tblE]) = some (.ret (.bool b.well) [.map tblE]) := by
  refine wt_block ?_
  have h := all_of_loop (f := f) (all_ss b 0 b.fo.cells b.fo.len f rfl (by omega) (by omega))
  cases hb : b.fo.len with
  | zero =>
    have hn := nil_of_len hb
    subst hn
    exact all_nil
  | succ n => rw [kd_s, ← hb]; exact h
/-! ### the reference -/
section
variable {e a b c : E} {f : Bool} {s : ByteArray}
attribute [local simp] loopStep Z_loop_eq V.len sliceAddr
theorem wl_assign : Z base14 (.call 31 [nd 1 0 s f (e.fo .nil)] []) = some (.ret (.bool (decide (e.ty = 1))) []) := by
  have h1 := rTypeOf_Z e
  refine Z_call (pf := F31) rfl rfl ?_
  by_cases h : e.ty = 1 <;> simp [F31, run_F31l2, h1, h, wrap64]
theorem wl_effect : Z base14 (.call 31 [nd 5 0 s f (a.fo (b.fo .nil))] []) = some (.ret (.bool (decide (a.ty = 1) && decide (b.ty = 1))) []) := by
  have h1 := rTypeOf_Z a
  have h2 := rTypeOf_Z b
  refine Z_call (pf := F31) rfl rfl ?_
  by_cases h : a.ty = 1
  · by_cases h' : b.ty = 1 <;> simp [F31, run_F31l2, h1, h2, h, h', wrap64]
  · simp [F31, run_F31l2, h1, h, wrap64]
theorem in_2 (σ : ByteArray) : Z base14 (.call 28 [.dat (.sl [.lit (.string ⟨#[104, 105, 116]⟩), .lit (.string ⟨#[115, 116, 105, 108, 108]⟩)] 2 true), .str σ] []) = some (.ret (.bool (eqS σ hitS || eqS σ stillS)) []) := by
  refine Z_call (pf := F28) rfl rfl ?_
  unfold hitS stillS
  have hc : ∀ a b : ByteArray, eqS a b = eqS b a := fun a b => by simp only [eqS, Bool.beq_comm, eq_comm]
  rw [hc σ, hc σ]
  cases hh : eqS ⟨#[104, 105, 116]⟩ σ with
  | true => simp [F28, run_F28l0, hh, wrap64]
  | false => cases hs : eqS ⟨#[115, 116, 105, 108, 108]⟩ σ <;> simp [F28, run_F28l0, hh, hs, wrap64]
theorem wl_store : Z base14 (.call 31 [nd 2 0 s f (a.fo (b.fo .nil))] []) = some (.ret (.bool (!(eqS s hitS || eqS s stillS) && (decide (a.ty = 1) && decide (b.ty = 1)))) []) := by
  have h1 := rTypeOf_Z a
  have h2 := rTypeOf_Z b
  have h3 := in_2 s
  refine Z_call (pf := F31) rfl rfl ?_
  generalize (eqS s hitS || eqS s stillS) = q at h3 ⊢
  cases q with
  | true => simp [F31, h3]
  | false =>
    by_cases h : a.ty = 1
    · by_cases h' : b.ty = 1 <;> simp [F31, run_F31l2, h1, h2, h, h', wrap64, h3]
    · simp [F31, run_F31l2, h1, h, wrap64, h3]
theorem wl_stop : Z base14 (.call 31 [nd 6 0 s f .nil] []) = some (.ret (.bool true) []) := by
  refine Z_call (pf := F31) rfl rfl ?_
  simp [F31, run_F31l2]
end
end Go.Pm
end ST4e
section ST4f
namespace Go.Pm
open F
section
abbrev wlO (k : Int) (s : ByteArray) (d : D) : S := [.cells [.int k, .int 0, .str s, .dat d]]
def wl0R (k : Int) (s : ByteArray) (d : D) (N : Nat) (b : Bool) : Option Res :=
  some (if b then .out (.exit 0) [(1, .ptr 0 0), (3, .int N), (17, .bool false)] (wlO k s d) else .out .ret [(2, .bool false)] (wlO k s d))
def wl1R (k : Int) (s : ByteArray) (d : D) (N : Nat) (t : Int) (b : Bool) : Option Res :=
  some (if b then .out (.exit 2) [(1, .ptr 0 0), (5, .int t), (6, .int N), (45, .bool false)] (wlO k s d) else .out .ret [(2, .bool false)] (wlO k s d))
variable {k n : Int} {s s' : ByteArray} {f fl : Bool} {ks : Fo} {w wr : Bool} {i N : Nat} {cs r : List D} {k' t : Int}
theorem wl0_step (hw : Z base14 (.call 31 [nd k n s f ks] []) = some (.ret (.bool w) []))
    (hc : cs.drop (i * 4) = .lit (.int .i64 k) :: .lit (.int .i64 n) :: .lit (.string s) :: kd f ks.len ks.cells :: r) (hi : i < N) (hN : N < 2^40)
    (ih : w = true → Z base14 (.loop 0 F31l0 [(1, .ptr 0 0), (3, .int (i + 1 : Nat))] (wlO k' s' (.sl cs N fl))) = wl0R k' s' (.sl cs N fl) N wr) :
    Z base14 (.loop 0 F31l0 [(1, .ptr 0 0), (3, .int i)] (wlO k' s' (.sl cs N fl))) = wl0R k' s' (.sl cs N fl) N (w && wr) := by
  have h4 := cut4 hc
  have w1 := wrap64 ((i : Int) + 1) (by omega)
  have hi' : (i : Int) < N := by omega
  rw [Z_loop_eq]
  cases w with
  | true =>
    rw [Bool.true_and, ← ih rfl]
    simp [loopStep, run_F31l0, hi, hi', sliceAddr, h4, hw, w1, V.len]
  | false =>
    simp [loopStep, run_F31l0, hi, hi', sliceAddr, h4, hw, w1, V.len, wl0R]
theorem wl0_end (d : D) (h1 : V.one (.dat d) = true) (h2 : V.cells (.dat d) = [.dat d]) (hl : ∀ σ, V.len σ .sl (.dat d) = some N) : Z base14 (.loop 0 F31l0 [(1, .ptr 0 0), (3, .int N)] (wlO k' s' d)) = wl0R k' s' d N true := by
  rw [Z_loop_eq]
  simp [loopStep, run_F31l0, wl0R, h1, h2, hl]
theorem wl1_step (hw : Z base14 (.call 31 [nd k n s f ks] []) = some (.ret (.bool w) []))
    (hc : cs.drop (i * 4) = .lit (.int .i64 k) :: .lit (.int .i64 n) :: .lit (.string s) :: kd f ks.len ks.cells :: r) (hi : i < N) (hN : N < 2^40)
    (ih : w = true → Z base14 (.loop 0 F31l1 [(1, .ptr 0 0), (5, .int t), (6, .int (i + 1 : Nat))] (wlO k' s' (.sl cs N fl))) = wl1R k' s' (.sl cs N fl) N t wr) :
    Z base14 (.loop 0 F31l1 [(1, .ptr 0 0), (5, .int t), (6, .int i)] (wlO k' s' (.sl cs N fl))) = wl1R k' s' (.sl cs N fl) N t (w && wr) := by
  have h4 := cut4 hc
  have w1 := wrap64 ((i : Int) + 1) (by omega)
  have hi' : (i : Int) < N := by omega
  rw [Z_loop_eq]
  cases w with
  | true =>
    rw [Bool.true_and, ← ih rfl]
    simp [loopStep, run_F31l1, hi, hi', sliceAddr, h4, hw, w1, V.len]
  | false =>
    simp [loopStep, run_F31l1, hi, hi', sliceAddr, h4, hw, w1, V.len, wl1R]
theorem wl1_end : Z base14 (.loop 0 F31l1 [(1, .ptr 0 0), (5, .int t), (6, .int N)] (wlO k' s' (.sl cs N fl))) = wl1R k' s' (.sl cs N fl) N t true := by
  rw [Z_loop_eq]
  simp [loopStep, run_F31l1, wl1R, V.len]
theorem wl_block {r : Fo} {z : Bool} (hr : Z base14 (.loop 0 F31l0 [(1, .ptr 0 0), (3, .int 0)] (wlO 7 s (kd f r.len r.cells))) = wl0R 7 s (kd f r.len r.cells) r.len z) : Z base14 (.call 31 [nd 7 0 s f r] []) = some (.ret (.bool z) []) := by
  refine Z_call (pf := F31) rfl rfl ?_
  simp only [wl0R] at hr
  cases z <;> simp at hr <;> simp [F31, hr]
theorem wl_cond (w : Bool) {c : E} {r : Fo} {z : Bool} (hr : Z base14 (.loop 0 F31l1 [(1, .ptr 0 0), (5, .int c.ty), (6, .int 1)] (wlO (if w then 4 else 3) s (kd f (c.fo r).len (c.fo r).cells))) = wl1R (if w then 4 else 3) s (kd f (c.fo r).len (c.fo r).cells) (c.fo r).len c.ty z) :
    Z base14 (.call 31 [nd (if w then 4 else 3) 0 s f (c.fo r)] []) = some (.ret (.bool (decide (c.ty = 2) && z)) []) := by
  have h1 := rTypeOf_Z c
  have e1 : (0 : Int) < (r.len : Int) + 1 := by omega
  refine Z_call (pf := F31) rfl rfl ?_
  simp only [wl1R] at hr
  cases w <;> cases z <;> simp at hr <;> simp [F31, h1, hr, sliceAddr, V.len, e1] <;> by_cases h : c.ty = 2 <;> simp [h]
end
theorem well_ss : ∀ (ss : Ss) (i : Nat) (cs : List D) (N : Nat) (fl : Bool), cs.drop (i * 4) = ss.fo.cells → N = i + ss.fo.len → i + ss.fo.size < 2^40 →
    (∀ k' s', Z base14 (.loop 0 F31l0 [(1, .ptr 0 0), (3, .int i)] (wlO k' s' (.sl cs N fl))) = wl0R k' s' (.sl cs N fl) N ss.well) ∧
    (∀ k' s' t, Z base14 (.loop 0 F31l1 [(1, .ptr 0 0), (5, .int t), (6, .int i)] (wlO k' s' (.sl cs N fl))) = wl1R k' s' (.sl cs N fl) N t ss.well)
  | .nil, i, cs, N, fl, hc, hN, hb => by
    simp only [Ss.fo, fo_len_nil, Nat.add_zero] at hN
    subst hN
    exact ⟨fun _ _ => wl0_end _ rfl rfl fun _ => by simp [V.len], fun _ _ _ => wl1_end⟩
  | .assign f s e r, i, cs, N, fl, hc, hN, hb => by
    simp only [Ss.fo, fo_cells_cons, fo_len_cons, fo_size_cons] at hc hN hb
    have := fo_len_size r.fo
    have ih := well_ss r (i + 1) cs N fl (drop_next hc) (by omega) (by omega)
    exact ⟨fun _ _ => wl0_step wl_assign hc (by omega) (by omega) fun _ => ih.1 _ _, fun _ _ _ => wl1_step wl_assign hc (by omega) (by omega) fun _ => ih.2 _ _ _⟩
  | .store f s a b r, i, cs, N, fl, hc, hN, hb => by
    simp only [Ss.fo, fo_cells_cons, fo_len_cons, fo_size_cons] at hc hN hb
    have := fo_len_size r.fo
    have ih := well_ss r (i + 1) cs N fl (drop_next hc) (by omega) (by omega)
    exact ⟨fun _ _ => wl0_step wl_store hc (by omega) (by omega) fun _ => ih.1 _ _, fun _ _ _ => wl1_step wl_store hc (by omega) (by omega) fun _ => ih.2 _ _ _⟩
  | .effect f a b r, i, cs, N, fl, hc, hN, hb => by
    simp only [Ss.fo, fo_cells_cons, fo_len_cons, fo_size_cons] at hc hN hb
    have := fo_len_size r.fo
    have ih := well_ss r (i + 1) cs N fl (drop_next hc) (by omega) (by omega)
    exact ⟨fun _ _ => wl0_step wl_effect hc (by omega) (by omega) fun _ => ih.1 _ _, fun _ _ _ => wl1_step wl_effect hc (by omega) (by omega) fun _ => ih.2 _ _ _⟩
  | .stop r, i, cs, N, fl, hc, hN, hb => by
    simp only [Ss.fo, fo_cells_cons, fo_len_cons, fo_size_cons] at hc hN hb
    have := fo_len_size r.fo
    have ih := well_ss r (i + 1) cs N fl (drop_next hc) (by omega) (by omega)
    rw [show (Ss.stop r).well = (true && r.well) from (Bool.true_and _).symm]
    exact ⟨fun _ _ => wl0_step wl_stop hc (by omega) (by omega) fun _ => ih.1 _ _, fun _ _ _ => wl1_step wl_stop hc (by omega) (by omega) fun _ => ih.2 _ _ _⟩
  | .cond w f c b r, i, cs, N, fl, hc, hN, hb => by
    simp only [Ss.fo, fo_cells_cons, fo_len_cons, fo_size_cons, fo_size] at hc hN hb
    have := fo_len_size r.fo
    have ih := well_ss r (i + 1) cs N fl (drop_next hc) (by omega) (by omega)
    have hb2 := (well_ss b 1 (c.fo b.fo).cells (c.fo b.fo).len f (by rw [cells_fo]; rfl) (by rw [len_fo]; omega) (by omega)).2 (if w then 4 else 3) ⟨#[]⟩ c.ty
    have hw := wl_cond (f := f) (s := ⟨#[]⟩) (c := c) (r := b.fo) (z := b.well) w (by rw [show kd f (c.fo b.fo).len (c.fo b.fo).cells = .sl (c.fo b.fo).cells (c.fo b.fo).len f by rw [len_fo]; rfl]; exact hb2)
    exact ⟨fun _ _ => wl0_step hw hc (by omega) (by omega) fun _ => ih.1 _ _, fun _ _ _ => wl1_step hw hc (by omega) (by omega) fun _ => ih.2 _ _ _⟩
  | .block f b r, i, cs, N, fl, hc, hN, hb => by
    simp only [Ss.fo, fo_cells_cons, fo_len_cons, fo_size_cons] at hc hN hb
    have := fo_len_size r.fo
    have ih := well_ss r (i + 1) cs N fl (drop_next hc) (by omega) (by omega)
    have hw : Z base14 (.call 31 [nd 7 0 ⟨#[]⟩ f b.fo] []) = some (.ret (.bool b.well) []) := by
      refine wl_block ?_
      have h := (well_ss b 0 b.fo.cells b.fo.len f rfl (by omega) (by omega)).1 7 ⟨#[]⟩
      cases hb : b.fo.len with
      | zero =>
        have hn := nil_of_len hb
        subst hn
        exact wl0_end _ rfl rfl fun _ => by simp [V.len]
      | succ n => rw [kd_s, ← hb]; exact h
    exact ⟨fun _ _ => wl0_step hw hc (by omega) (by omega) fun _ => ih.1 _ _, fun _ _ _ => wl1_step hw hc (by omega) (by omega) fun _ => ih.2 _ _ _⟩
theorem Well_Z (f : Bool) (b : Ss) (hs : b.fo.size < 2^40) : Z base14 (.call 31 [nd 7 0 ⟨#[]⟩ f b.fo] []) = some (.ret (.bool b.well) []) := by
  refine wl_block ?_
  have h := (well_ss b 0 b.fo.cells b.fo.len f rfl (by omega) (by omega)).1 7 ⟨#[]⟩
  cases hb : b.fo.len with
  | zero =>
    have hn := nil_of_len hb
    subst hn
    exact wl0_end _ rfl rfl fun _ => by simp [V.len]
  | succ n => rw [kd_s, ← hb]; exact h
end Go.Pm
end ST4f
section ST4g
namespace Go.Pm
open F
abbrev cfr (r : D) (i : Int) : Fr := [(1, .ptr 0 0), (3, .ptr 1 0), (8, .dat r), (9, .int i)]
abbrev cst3 (a b c : Nd) : S := [rbox a b c, .cells [.mp 2], .map tblE]
section
variable {a b c : Nd}
theorem tc_ok0 {h : Hd} (hb : h.ks.size < 2^25) (hw : h.well = true) : Z base14 (.loop 0 F12l0 (cfr (ru h.nd b c) 0) (cst3 h.nd b c)) = Z base14 (.loop 0 F12l0 (cfr (ru h.nd b c) 1) (cst3 h.nd b c)) := by
  have w1 := wrap64 1 (by omega)
  conv => lhs; rw [Z_loop_eq]
  cases h with
  | none =>
    simp [loopStep, run_F12l0, w1, Hd.k, Hd.f, Hd.ks, Nd.d]
    exact Z_loop_cong (by simp [Hd.k, Hd.f, Hd.ks, Nd.d])
  | some f q =>
    have h1 := wellTyped_Z f q (by simp only [Hd.ks] at hb; omega)
    simp only [Hd.well] at hw
    simp only [hw] at h1
    simp [loopStep, run_F12l0, w1, Hd.k, Hd.f, Hd.ks, Nd.d, h1]
    exact Z_loop_cong (by simp [Hd.k, Hd.f, Hd.ks, Nd.d])
theorem tc_bad0 {h : Hd} (hb : h.ks.size < 2^25) (hw : h.well = false) : ∃ g, Z base14 (.loop 0 F12l0 (cfr (ru h.nd b c) 0) (cst3 h.nd b c)) = some (.out .ret [(2, .int 13)] (cst3 h.nd b c ++ [g])) := by
  cases h with
  | none => simp [Hd.well] at hw
  | some f q =>
    have h1 := wellTyped_Z f q (by simp only [Hd.ks] at hb; omega)
    simp only [Hd.well] at hw
    simp only [hw] at h1
    refine ⟨.cells [.int 7, .int 0, .str ⟨#[]⟩, .dat (kd f q.fo.len q.fo.cells)], ?_⟩
    rw [Z_loop_eq]
    simp [loopStep, run_F12l0, Hd.k, Hd.f, Hd.ks, Nd.d, h1]
theorem rc_ok0 {h : Hd} (hb : h.ks.size < 2^25) (hw : h.well = true) : Z base14 (.loop 0 F13l0 [(1, .ptr 0 0), (3, .int 0)] [rbox h.nd b c]) = Z base14 (.loop 0 F13l0 [(1, .ptr 0 0), (3, .int 1)] [rbox h.nd b c]) := by
  have w1 := wrap64 1 (by omega)
  conv => lhs; rw [Z_loop_eq]
  cases h with
  | none =>
    simp [loopStep, run_F13l0, w1, Hd.k, Hd.f, Hd.ks, Nd.d]
    try exact Z_loop_cong (by simp [Hd.k, Hd.f, Hd.ks, Nd.d])
  | some f q =>
    have h1 := Well_Z f q (by simp only [Hd.ks] at hb; omega)
    simp only [Hd.well] at hw
    simp only [hw] at h1
    simp [loopStep, run_F13l0, w1, Hd.k, Hd.f, Hd.ks, Nd.d, h1]
    try exact Z_loop_cong (by simp [Hd.k, Hd.f, Hd.ks, Nd.d])
theorem rc_bad0 {h : Hd} (hb : h.ks.size < 2^25) (hw : h.well = false) : Z base14 (.loop 0 F13l0 [(1, .ptr 0 0), (3, .int 0)] [rbox h.nd b c]) = some (.out .ret [(2, .int 13)] [rbox h.nd b c]) := by
  cases h with
  | none => simp [Hd.well] at hw
  | some f q =>
    have h1 := Well_Z f q (by simp only [Hd.ks] at hb; omega)
    simp only [Hd.well] at hw
    simp only [hw] at h1
    rw [Z_loop_eq]
    simp [loopStep, run_F13l0, Hd.k, Hd.f, Hd.ks, Nd.d, h1]
theorem tc_ok1 {h : Hd} (hb : h.ks.size < 2^25) (hw : h.well = true) : Z base14 (.loop 0 F12l0 (cfr (ru a h.nd c) 1) (cst3 a h.nd c)) = Z base14 (.loop 0 F12l0 (cfr (ru a h.nd c) 2) (cst3 a h.nd c)) := by
  have w1 := wrap64 2 (by omega)
  conv => lhs; rw [Z_loop_eq]
  cases h with
  | none =>
    simp [loopStep, run_F12l0, w1, Hd.k, Hd.f, Hd.ks, Nd.d]
    exact Z_loop_cong (by simp [Hd.k, Hd.f, Hd.ks, Nd.d])
  | some f q =>
    have h1 := wellTyped_Z f q (by simp only [Hd.ks] at hb; omega)
    simp only [Hd.well] at hw
    simp only [hw] at h1
    simp [loopStep, run_F12l0, w1, Hd.k, Hd.f, Hd.ks, Nd.d, h1]
    exact Z_loop_cong (by simp [Hd.k, Hd.f, Hd.ks, Nd.d])
theorem tc_bad1 {h : Hd} (hb : h.ks.size < 2^25) (hw : h.well = false) : ∃ g, Z base14 (.loop 0 F12l0 (cfr (ru a h.nd c) 1) (cst3 a h.nd c)) = some (.out .ret [(2, .int 13)] (cst3 a h.nd c ++ [g])) := by
  cases h with
  | none => simp [Hd.well] at hw
  | some f q =>
    have h1 := wellTyped_Z f q (by simp only [Hd.ks] at hb; omega)
    simp only [Hd.well] at hw
    simp only [hw] at h1
    refine ⟨.cells [.int 7, .int 0, .str ⟨#[]⟩, .dat (kd f q.fo.len q.fo.cells)], ?_⟩
    rw [Z_loop_eq]
    simp [loopStep, run_F12l0, Hd.k, Hd.f, Hd.ks, Nd.d, h1]
theorem rc_ok1 {h : Hd} (hb : h.ks.size < 2^25) (hw : h.well = true) : Z base14 (.loop 0 F13l0 [(1, .ptr 0 0), (3, .int 1)] [rbox a h.nd c]) = Z base14 (.loop 0 F13l0 [(1, .ptr 0 0), (3, .int 2)] [rbox a h.nd c]) := by
  have w1 := wrap64 2 (by omega)
  conv => lhs; rw [Z_loop_eq]
  cases h with
  | none =>
    simp [loopStep, run_F13l0, w1, Hd.k, Hd.f, Hd.ks, Nd.d]
    try exact Z_loop_cong (by simp [Hd.k, Hd.f, Hd.ks, Nd.d])
  | some f q =>
    have h1 := Well_Z f q (by simp only [Hd.ks] at hb; omega)
    simp only [Hd.well] at hw
    simp only [hw] at h1
    simp [loopStep, run_F13l0, w1, Hd.k, Hd.f, Hd.ks, Nd.d, h1]
    try exact Z_loop_cong (by simp [Hd.k, Hd.f, Hd.ks, Nd.d])
theorem rc_bad1 {h : Hd} (hb : h.ks.size < 2^25) (hw : h.well = false) : Z base14 (.loop 0 F13l0 [(1, .ptr 0 0), (3, .int 1)] [rbox a h.nd c]) = some (.out .ret [(2, .int 13)] [rbox a h.nd c]) := by
  cases h with
  | none => simp [Hd.well] at hw
  | some f q =>
    have h1 := Well_Z f q (by simp only [Hd.ks] at hb; omega)
    simp only [Hd.well] at hw
    simp only [hw] at h1
    rw [Z_loop_eq]
    simp [loopStep, run_F13l0, Hd.k, Hd.f, Hd.ks, Nd.d, h1]
theorem tc_ok2 {h : Hd} (hb : h.ks.size < 2^25) (hw : h.well = true) : Z base14 (.loop 0 F12l0 (cfr (ru a b h.nd) 2) (cst3 a b h.nd)) = Z base14 (.loop 0 F12l0 (cfr (ru a b h.nd) 3) (cst3 a b h.nd)) := by
  have w1 := wrap64 3 (by omega)
  conv => lhs; rw [Z_loop_eq]
  cases h with
  | none =>
    simp [loopStep, run_F12l0, w1, Hd.k, Hd.f, Hd.ks, Nd.d]
    exact Z_loop_cong (by simp [Hd.k, Hd.f, Hd.ks, Nd.d])
  | some f q =>
    have h1 := wellTyped_Z f q (by simp only [Hd.ks] at hb; omega)
    simp only [Hd.well] at hw
    simp only [hw] at h1
    simp [loopStep, run_F12l0, w1, Hd.k, Hd.f, Hd.ks, Nd.d, h1]
    exact Z_loop_cong (by simp [Hd.k, Hd.f, Hd.ks, Nd.d])
theorem tc_bad2 {h : Hd} (hb : h.ks.size < 2^25) (hw : h.well = false) : ∃ g, Z base14 (.loop 0 F12l0 (cfr (ru a b h.nd) 2) (cst3 a b h.nd)) = some (.out .ret [(2, .int 13)] (cst3 a b h.nd ++ [g])) := by
  cases h with
  | none => simp [Hd.well] at hw
  | some f q =>
    have h1 := wellTyped_Z f q (by simp only [Hd.ks] at hb; omega)
    simp only [Hd.well] at hw
    simp only [hw] at h1
    refine ⟨.cells [.int 7, .int 0, .str ⟨#[]⟩, .dat (kd f q.fo.len q.fo.cells)], ?_⟩
    rw [Z_loop_eq]
    simp [loopStep, run_F12l0, Hd.k, Hd.f, Hd.ks, Nd.d, h1]
theorem rc_ok2 {h : Hd} (hb : h.ks.size < 2^25) (hw : h.well = true) : Z base14 (.loop 0 F13l0 [(1, .ptr 0 0), (3, .int 2)] [rbox a b h.nd]) = Z base14 (.loop 0 F13l0 [(1, .ptr 0 0), (3, .int 3)] [rbox a b h.nd]) := by
  have w1 := wrap64 3 (by omega)
  conv => lhs; rw [Z_loop_eq]
  cases h with
  | none =>
    simp [loopStep, run_F13l0, w1, Hd.k, Hd.f, Hd.ks, Nd.d]
    try exact Z_loop_cong (by simp [Hd.k, Hd.f, Hd.ks, Nd.d])
  | some f q =>
    have h1 := Well_Z f q (by simp only [Hd.ks] at hb; omega)
    simp only [Hd.well] at hw
    simp only [hw] at h1
    simp [loopStep, run_F13l0, w1, Hd.k, Hd.f, Hd.ks, Nd.d, h1]
    try exact Z_loop_cong (by simp [Hd.k, Hd.f, Hd.ks, Nd.d])
theorem rc_bad2 {h : Hd} (hb : h.ks.size < 2^25) (hw : h.well = false) : Z base14 (.loop 0 F13l0 [(1, .ptr 0 0), (3, .int 2)] [rbox a b h.nd]) = some (.out .ret [(2, .int 13)] [rbox a b h.nd]) := by
  cases h with
  | none => simp [Hd.well] at hw
  | some f q =>
    have h1 := Well_Z f q (by simp only [Hd.ks] at hb; omega)
    simp only [Hd.well] at hw
    simp only [hw] at h1
    rw [Z_loop_eq]
    simp [loopStep, run_F13l0, Hd.k, Hd.f, Hd.ks, Nd.d, h1]
theorem tc_end : Z base14 (.loop 0 F12l0 (cfr (ru a b c) 3) (cst3 a b c)) = some (.out (.exit 0) [(1, .ptr 0 0), (3, .ptr 1 0), (8, .dat (ru a b c)), (9, .int 3), (10, .bool false)] (cst3 a b c)) := by
  rw [Z_loop_eq]
  simp [loopStep, run_F12l0]
theorem rc_end : Z base14 (.loop 0 F13l0 [(1, .ptr 0 0), (3, .int 3)] [rbox a b c]) = some (.out (.exit 0) [(1, .ptr 0 0), (3, .int 3), (6, .bool false)] [rbox a b c]) := by
  rw [Z_loop_eq]
  simp [loopStep, run_F13l0]
end
def chk (a b c : Hd) : Int := if (a.well && (b.well && c.well)) = true then (if 16 < (rvars a.nd b.nd c.nd).length then 2 else 0) else 13
section
variable {a b c : Hd}
theorem tc_loop (ha : a.ks.size < 2^25) (hb : b.ks.size < 2^25) (hc : c.ks.size < 2^25) : if (a.well && (b.well && c.well)) = true then Z base14 (.loop 0 F12l0 (cfr (ru a.nd b.nd c.nd) 0) (cst3 a.nd b.nd c.nd)) = some (.out (.exit 0) [(1, .ptr 0 0), (3, .ptr 1 0), (8, .dat (ru a.nd b.nd c.nd)), (9, .int 3), (10, .bool false)] (cst3 a.nd b.nd c.nd))
    else ∃ g, Z base14 (.loop 0 F12l0 (cfr (ru a.nd b.nd c.nd) 0) (cst3 a.nd b.nd c.nd)) = some (.out .ret [(2, .int 13)] (cst3 a.nd b.nd c.nd ++ [g])) := by
  cases wa : a.well with
  | false => simpa using tc_bad0 ha wa
  | true =>
    rw [tc_ok0 ha wa]
    cases wb : b.well with
    | false => simpa using tc_bad1 hb wb
    | true =>
      rw [tc_ok1 hb wb]
      cases wc : c.well with
      | false => simpa using tc_bad2 hc wc
      | true => rw [tc_ok2 hc wc]; simpa using tc_end
theorem rc_loop (ha : a.ks.size < 2^25) (hb : b.ks.size < 2^25) (hc : c.ks.size < 2^25) : Z base14 (.loop 0 F13l0 [(1, .ptr 0 0), (3, .int 0)] [rbox a.nd b.nd c.nd]) = if (a.well && (b.well && c.well)) = true then some (.out (.exit 0) [(1, .ptr 0 0), (3, .int 3), (6, .bool false)] [rbox a.nd b.nd c.nd])
    else some (.out .ret [(2, .int 13)] [rbox a.nd b.nd c.nd]) := by
  cases wa : a.well with
  | false => simpa using rc_bad0 ha wa
  | true =>
    rw [rc_ok0 ha wa]
    cases wb : b.well with
    | false => simpa using rc_bad1 hb wb
    | true =>
      rw [rc_ok1 hb wb]
      cases wc : c.well with
      | false => simpa using rc_bad2 hc wc
      | true => rw [rc_ok2 hc wc]; simpa using rc_end
theorem Check_Z (ha : a.ks.size < 2^25) (hb : b.ks.size < 2^25) (hc : c.ks.size < 2^25) : Z base14 (.call 12 [.dat (ru a.nd b.nd c.nd)] []) = some (.ret (.int (chk a b c)) []) := by
  have h := tc_loop ha hb hc
  have hv := Z_sub sub_base14v_base14 (Variables_Z (a := a.nd) (b := b.nd) (c := c.nd) ha hb hc)
  have hg : Z base14 (.loop 0 F12l0 [(1, .ptr 0 0), (3, .ptr 2 0), (8, .dat (ru a.nd b.nd c.nd)), (9, .int 0)] [rbox a.nd b.nd c.nd, .map tblE, .cells [.mp 1]]) = Z base14 (.loop 0 F12l0 (cfr (ru a.nd b.nd c.nd) 0) (cst3 a.nd b.nd c.nd)) := Z_loop_cong (by simp [Nd.d, Hd.k, Hd.f, Hd.ks])
  rw [← hg] at h
  refine Z_call (pf := F12) rfl rfl ?_
  unfold chk
  simp only [cfr, cst3, rbox, ru, Nd.d, hd_k, hd_n, hd_s, hd_f, hd_ks, List.cons_append, List.nil_append] at h hv
  cases hw : (a.well && (b.well && c.well)) with
  | false =>
    rw [hw] at h
    obtain ⟨g, h⟩ := h
    simp [F12, ru, Nd.d, h, newChecker_Z]
  | true =>
    rw [hw, if_pos rfl] at h
    rw [if_pos rfl]
    by_cases h16 : 16 < (rvars a.nd b.nd c.nd).length
    · have h16' : (16 : Int) < (rvars a.nd b.nd c.nd).length := by omega
      simp [F12, ru, Nd.d, h, newChecker_Z, hv, h16, h16']
    · have h16' : ¬ (16 : Int) < (rvars a.nd b.nd c.nd).length := by omega
      simp [F12, ru, Nd.d, h, newChecker_Z, hv, h16, h16']
theorem rCheck_Z (ha : a.ks.size < 2^25) (hb : b.ks.size < 2^25) (hc : c.ks.size < 2^25) : Z base14 (.call 13 [.dat (ru a.nd b.nd c.nd)] []) = some (.ret (.int (chk a b c)) []) := by
  have h := rc_loop ha hb hc
  have hv := Z_sub sub_base14v_base14 (rVariables_Z (a := a.nd) (b := b.nd) (c := c.nd) ha hb hc)
  refine Z_call (pf := F13) rfl rfl ?_
  unfold chk
  simp only [rbox, ru, Nd.d, hd_k, hd_n, hd_s, hd_f, hd_ks] at h hv
  cases hw : (a.well && (b.well && c.well)) with
  | false =>
    rw [hw] at h
    simp at h
    simp [F13, ru, Nd.d, h]
  | true =>
    rw [hw, if_pos rfl] at h
    rw [if_pos rfl]
    by_cases h16 : 16 < (rvars a.nd b.nd c.nd).length
    · have h16' : (16 : Int) < (rvars a.nd b.nd c.nd).length := by omega
      simp [F13, ru, Nd.d, h, hv, h16, h16']
    · have h16' : ¬ (16 : Int) < (rvars a.nd b.nd c.nd).length := by omega
      simp [F13, ru, Nd.d, h, hv, h16, h16']
end
end Go.Pm
end ST4g
