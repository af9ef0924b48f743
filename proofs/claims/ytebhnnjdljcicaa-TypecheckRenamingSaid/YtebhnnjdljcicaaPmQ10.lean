/- Chapter 14: rows of names. -/
import Derived.Test.YtebhnnjdljcicaaPmQ9
import Derived.Laws.Strings
set_option linter.unusedSimpArgs false
set_option linter.unusedVariables false
namespace Go.Pm
open F
theorem eqS_iff (a b : ByteArray) : eqS a b = decide (a = b) := by
  rw [Bool.eq_iff_iff]
  simp only [eqS, beq_iff_eq, decide_eq_true_eq, ByteArray.toList_eq]
  exact ⟨fun h => by cases a; cases b; simp only [Array.toList_inj] at h; rw [h], fun h => by rw [h]⟩
instance : LawfulBEq ByteArray where
  eq_of_beq h := by rw [bytes_beq] at h; exact of_decide_eq_true h
  rfl := by intro a; rw [bytes_beq]; exact decide_eq_true rfl
def strD : List ByteArray → D
  | [] => .lit (.slice none 0 0)
  | s :: l => .sl (strC (s :: l)) (l.length + 1) false
@[simp] theorem one_strD (l : List ByteArray) : V.one (.dat (strD l)) = true := by cases l <;> rfl
@[simp] theorem cells_strD (l : List ByteArray) : V.cells (.dat (strD l)) = [.dat (strD l)] := by cases l <;> rfl
@[simp] theorem len_strD (σ : S) (l : List ByteArray) : V.len σ .sl (.dat (strD l)) = some l.length := by cases l <;> simp [strD, V.len]
@[simp] theorem len_strC (l : List ByteArray) : (strC l).length = l.length := by simp [strC]
/-- A row of strings, read or growing. -/
def StrV (v : V) (σ : S) (l : List ByteArray) : Prop :=
  (∃ f, v = .dat (.sl (strC l) l.length f) ∧ σ = []) ∨ (v = .dat (.lit (.slice none 0 0)) ∧ l = [] ∧ σ = []) ∨ ∃ m, v = .gsl (strC l) l.length 1 0 ∧ σ = [.tip m]
theorem strV_strD (l : List ByteArray) : StrV (.dat (strD l)) [] l := by
  cases l with
  | nil => exact .inr (.inl ⟨rfl, rfl, rfl⟩)
  | cons s l => exact .inl ⟨false, rfl, rfl⟩
def inR (v : V) (s : ByteArray) (n : Nat) (σ : S) (b : Bool) : Option Res :=
  some (if b then .out .ret [(4, .bool true)] σ else .out (.exit 0) [(0, v), (1, .str s), (5, .int n), (9, .bool false)] σ)
theorem in_end {v : V} {σ : S} {l : List ByteArray} (h : StrV v σ l) (s : ByteArray) : Z prog (.loop σ.length F28l0 [(0, v), (1, .str s), (5, .int l.length)] σ) = inR v s l.length σ false := by
  rw [Z_loop_eq]
  rcases h with ⟨f, rfl, rfl⟩ | ⟨rfl, rfl, rfl⟩ | ⟨m, rfl, rfl⟩
  · simp [loopStep, run_F28l0, inR, V.len]
  · simp [loopStep, run_F28l0, inR, V.len]
  · simp [loopStep, run_F28l0, inR, V.len]
theorem in_step {v : V} {σ : S} {l : List ByteArray} (h : StrV v σ l) (s : ByteArray) (i : Nat) (hi : i < l.length) (hl : l.length < 2^40) (b : Bool)
    (ih : Z prog (.loop σ.length F28l0 [(0, v), (1, .str s), (5, .int (i + 1 : Nat))] σ) = inR v s l.length σ b) : Z prog (.loop σ.length F28l0 [(0, v), (1, .str s), (5, .int i)] σ) = inR v s l.length σ (decide (l[i] = s) || b) := by
  have hc := cut_strC l i hi
  have w1 := wrap64 ((i : Int) + 1) (by omega)
  rw [Z_loop_eq]
  by_cases he : l[i] = s
  · have he' := (eqS_iff l[i] s).trans (decide_eq_true he)
    rw [decide_eq_true he, Bool.true_or]
    rcases h with ⟨f, rfl, rfl⟩ | ⟨rfl, rfl, rfl⟩ | ⟨m, rfl, rfl⟩
    · simp [loopStep, run_F28l0, inR, V.len, sliceAddr, hi, hc, he']
    · simp at hi
    · simp [loopStep, run_F28l0, inR, V.len, sliceAddr, hi, hc, he']
  · have he' := (eqS_iff l[i] s).trans (decide_eq_false he)
    rw [decide_eq_false he, Bool.false_or, ← ih]
    rcases h with ⟨f, rfl, rfl⟩ | ⟨rfl, rfl, rfl⟩ | ⟨m, rfl, rfl⟩
    · simp [loopStep, run_F28l0, inR, V.len, sliceAddr, hi, hc, he', w1]
    · simp at hi
    · simp [loopStep, run_F28l0, inR, V.len, sliceAddr, hi, hc, he', w1]
theorem in_loop {v : V} {σ : S} {l : List ByteArray} (h : StrV v σ l) (hl : l.length < 2^40) (s : ByteArray) : ∀ (n i : Nat), i + n = l.length → Z prog (.loop σ.length F28l0 [(0, v), (1, .str s), (5, .int i)] σ) = inR v s l.length σ (decide (s ∈ l.drop i))
  | 0, i, hn => by
    obtain rfl : i = l.length := by omega
    rw [List.drop_length]
    exact in_end h s
  | n + 1, i, hn => by
    have ih := in_loop h hl s n (i + 1) (by omega)
    have := in_step h s i (by omega) hl _ ih
    rw [this, List.drop_eq_getElem_cons (by omega : i < l.length)]
    congr 1
    rw [Bool.eq_iff_iff]
    simp only [Bool.or_eq_true, decide_eq_true_eq, List.mem_cons]
    rw [eq_comm (a := l[i])]
theorem in_Z {v : V} {σ : S} {l : List ByteArray} (h : StrV v σ l) (hl : l.length < 2^40) (s : ByteArray) : Z prog (.call 28 [v, .str s] σ) = some (.ret (.bool (decide (s ∈ l))) σ) := by
  have hi := in_loop h hl s l.length 0 (by omega)
  rw [List.drop_zero] at hi
  refine Z_call (pf := F28) rfl ?_
  simp only [inR] at hi
  by_cases hs : s ∈ l <;> rcases h with ⟨f, rfl, rfl⟩ | ⟨rfl, rfl, rfl⟩ | ⟨m, rfl, rfl⟩ <;> simp [hs] at hi <;> simp [F28, hi, hs]
/-! ### the names in a tree -/
def Fo.vars : Fo → List ByteArray
  | .nil => []
  | .cons k _ s _ ks r => (if k = 1 ∨ k = 10 then [s] else []) ++ (ks.vars ++ r.vars)
def addN (l : List ByteArray) (s : ByteArray) : List ByteArray := if s ∈ l then l else l ++ [s]
def addAll (l : List ByteArray) (xs : List ByteArray) : List ByteArray := xs.foldl addN l
theorem addAll_app (l a b : List ByteArray) : addAll l (a ++ b) = addAll (addAll l a) b := by simp [addAll, List.foldl_append]
theorem addN_len (l : List ByteArray) (s : ByteArray) : l.length ≤ (addN l s).length ∧ (addN l s).length ≤ l.length + 1 := by
  unfold addN
  split <;> simp
theorem addAll_len (xs : List ByteArray) : ∀ l, l.length ≤ (addAll l xs).length ∧ (addAll l xs).length ≤ l.length + xs.length := by
  induction xs with
  | nil => intro l; simp [addAll]
  | cons x xs ih =>
    intro l
    have := ih (addN l x)
    have h2 := addN_len l x
    simp only [addAll, List.foldl_cons, List.length_cons] at this ⊢
    omega
theorem vars_len (a : Fo) : a.vars.length ≤ a.size := by
  induction a with
  | nil => simp [Fo.vars]
  | cons k n s f ks r ih1 ih2 =>
    simp only [Fo.vars, List.length_append, fo_size_cons]
    split <;> simp <;> omega
end Go.Pm
