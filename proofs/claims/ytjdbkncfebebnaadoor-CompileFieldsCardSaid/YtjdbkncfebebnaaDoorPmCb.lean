/- Chapter 15: the reference's small functions: index, name, operator, field. Chapter 15: the reference's Code: rows that grow, sequences. Chapter 15: the reference's Code: sequences, alternatives, branches. Chapter 15: the reference's Code of expressions. -/
import Derived.Test.YtjdbkncfebebnaaDoorPmEt
import Derived.Test.YtjdbkncfebebnaaDoorPmE3
import Derived.Test.YtjdbkncfebebnaaDoorPmTb14
import Derived.Test.YtjdbkncfebebnaaDoorPmN1
set_option linter.unusedSimpArgs false
set_option linter.unusedVariables false
section SCb
namespace Go.Pm
open F Gr
theorem at_strD (l : List ByteArray) (i : Nat) (h : i < l.length) : sliceAddr 1 (.dat (strD l)) (i : Int) = some (.dat (.imm (strC l) i)) := by
 cases l with
 | nil => simp at h
 | cons s l => simp only [List.length_cons] at h; simp [strD, sliceAddr]; omega
end Go.Pm
end SCb
section SCc
namespace Go.Pm
open F Gr
inductive CodeV : V -> S -> Cd -> Prop
 | lit (c : Cd) (h : c ≠ []) : CodeV (.dat (.sl (icC c) c.length true)) [] c
 | gr (c : Cd) (h : c ≠ []) : CodeV (.gsl (icC c) c.length 2 0) [.tip (icC c).length] c
def NodeOK (vs : List ByteArray) (x : V) (C : Int -> Cd) (L : Nat) : Prop := Ln C L /\ 0 < L /\
 ∀ p : Int, 0 <= p -> p + 4 * L < 2^40 -> ∃ v σ, CodeV v σ (C p) /\ Z base15 (.call 135 [x, .dat (strD vs), .int p] []) = some (.ret v σ)
inductive RowOK (vs : List ByteArray) : List D -> List (Int -> Cd) -> Nat -> Prop
 | nil : RowOK vs [] [] 0
 | cons {a b c d : D} {C : Int -> Cd} {L : Nat} {r : List D} {Cs : List (Int -> Cd)} {M : Nat} (h : NodeOK vs (.dat (.agg [a, b, c, d])) C L) (hr : RowOK vs r Cs M) : RowOK vs (a :: b :: c :: d :: r) (C :: Cs) (L + M)
def seqC : List (Int -> Cd) -> Int -> Cd
 | [], _ => []
 | C :: r, p => C p ++ seqC r (p + (C p).length)
inductive OutV : V -> S -> Cd -> Prop
 | nil : OutV (.dat (.lit (.slice none 0 0))) [] []
 | gr (c : Cd) (h : c ≠ []) : OutV (.gsl (icC c) c.length 2 0) [.tip (icC c).length] c
theorem at_kd {f : Bool} {n : Nat} {cs : List D} {i : Int} (h0 : 0 <= i) (h1 : i < n) : sliceAddr 4 (.dat (kd f n cs)) i = some (.dat (.imm cs (i.toNat * 4))) := by
 cases n with
 | zero => simp at h1; omega
 | succ n => simp only [kd_s]; simp [sliceAddr, h0]; omega
theorem room16 {n : Nat} (h : n < 2^40) : roomFor n 16 = true := by simp only [roomFor, decide_eq_true_eq]; omega
set_option maxHeartbeats 1000000
end Go.Pm
end SCc
section SCd
namespace Go.Pm
open F Gr
set_option maxHeartbeats 1000000
section
variable {vs : List ByteArray} {f : Bool} {N : Nat} {cs : List D} {p : Int}
inductive AnyV : V -> S -> Cd -> Prop
 | lit (c : Cd) (h : c ≠ []) : AnyV (.dat (.sl (icC c) c.length true)) [] c
 | gr (c : Cd) (h : c ≠ []) : AnyV (.gsl (icC c) c.length 2 0) [.tip (icC c).length] c
 | nil : AnyV (.dat (.lit (.slice none 0 0))) [] []
theorem CodeV.any {v : V} {σ : S} {c : Cd} (h : CodeV v σ c) : AnyV v σ c := by cases h; exact .lit _ ‹_›; exact .gr _ ‹_›
theorem OutV.any {v : V} {σ : S} {c : Cd} (h : OutV v σ c) : AnyV v σ c := by cases h; exact .nil; exact .gr _ ‹_›
end
end Go.Pm
end SCd
section SCe
namespace Go.Pm
open F Gr
set_option maxHeartbeats 1000000
def isAnd : Bop -> Bool | .and => true | _ => false
def isOr : Bop -> Bool | .or => true | _ => false
def isGt : Bop -> Bool | .gt => true | _ => false
def isGe : Bop -> Bool | .ge => true | _ => false
def isNe : Bop -> Bool | .ne => true | _ => false
theorem os_and (o : Bop) : eqS o.str ⟨#[38, 38]⟩ = isAnd o := by cases o <;> kernel_rfl
theorem os_or (o : Bop) : eqS o.str ⟨#[124, 124]⟩ = isOr o := by cases o <;> kernel_rfl
theorem os_gt (o : Bop) : eqS o.str ⟨#[62]⟩ = isGt o := by cases o <;> kernel_rfl
theorem os_ge (o : Bop) : eqS o.str ⟨#[62, 61]⟩ = isGe o := by cases o <;> kernel_rfl
theorem os_ne (o : Bop) : eqS o.str ⟨#[33, 61]⟩ = isNe o := by cases o <;> kernel_rfl
end Go.Pm
end SCe
