/- Chapter 15: the reference's Code of all trees. Chapter 15: the reference's Code of statements and blocks. Chapter 15: the reference's Compile, first part: the code. -/
import Derived.Test.YtjdbkncfebebnaaDoorPmCb
import Derived.Test.YtjdbkncfebebnaaDoorPmG1
import Derived.Test.YtjdbkncfebebnaaDoorPmG5
set_option linter.unusedSimpArgs false
set_option linter.unusedVariables false
section SCf
namespace Go.Pm
open F Gr
set_option maxHeartbeats 1000000
@[simp] theorem eqS_u33 : eqS ⟨#[33]⟩ ⟨#[45]⟩ = false := by kernel_rfl
@[simp] theorem eqS_u45 : eqS ⟨#[45]⟩ ⟨#[45]⟩ = true := by kernel_rfl
end Go.Pm
end SCf
section SCg
namespace Go.Pm
open F Gr
set_option maxHeartbeats 1000000
section
variable {vs : List ByteArray}
def partS (vs : List ByteArray) : Ss -> List (Int -> Cd)
 | .nil => []
 | .assign _ s e r => snC (codeE vs e) (3, ixI vs s) :: partS vs r
 | .store _ s a b r => snC (sq (codeE vs a) (codeE vs b)) (5, fieldI s) :: partS vs r
 | .effect _ a b r => snC (sq (codeE vs a) (codeE vs b)) (20, 0) :: partS vs r
 | .stop r => (fun _ => [(21, 0)]) :: partS vs r
 | .cond false _ c (.block _ x (.block _ y .nil)) r => brC (codeE vs c) (codeS vs x) (codeS vs y) :: partS vs r
 | .cond true _ c (.block _ x .nil) r => whC (codeE vs c) (codeS vs x) :: partS vs r
 | _ => []
theorem seq_part (b : Ss) (p : Int) : seqC (partS vs b) p = codeS vs b p := by
 fun_induction partS vs b generalizing p with
 | case1 => rfl
 | case2 _ _ _ _ ih => simp only [seqC, codeS, sq, ih]
 | case3 _ _ _ _ _ ih => simp only [seqC, codeS, sq, ih]
 | case4 _ _ _ _ ih => simp only [seqC, codeS, sq, ih]
 | case5 _ ih => simp only [seqC, codeS, sq, ih]
 | case6 _ _ _ _ _ _ _ ih => simp only [seqC, codeS, sq, ih]
 | case7 _ _ _ _ _ ih => simp only [seqC, codeS, sq, ih]
 | case8 b h1 h2 h3 h4 h5 h6 h7 =>
   unfold codeS
   split <;> first | rfl | (exfalso; first | exact h1 rfl | exact h2 _ _ _ _ rfl | exact h3 _ _ _ _ _ rfl | exact h4 _ _ _ _ rfl | exact h5 _ rfl | exact h6 _ _ _ _ _ _ _ rfl | exact h7 _ _ _ _ _ rfl)
end
end Go.Pm
end SCg
section SCh
namespace Go.Pm
open F Gr
set_option maxHeartbeats 1000000
section
variable {vs : List ByteArray}
def hdC (vs : List ByteArray) : Hd -> Int -> Cd
 | .none => fun _ => []
 | .some _ b => snC (codeS vs b) (21, 0)
def entV : Hd -> Int -> Int
 | .none, _ => -1
 | .some _ _, p => p
abbrev zP : Ob := .cells [.dat (.lit (.slice none 0 0)), .int 0, .int 0, .int 0]
inductive CSt (R : Ob) (e0 e1 e2 : Int) : S -> Cd -> Prop
 | nil : CSt R e0 e1 e2 [R, zP, .cells [.dat (.lit (.slice none 0 0)), .int e0, .int e1, .int e2]] []
 | gr (c : Cd) (h : c ≠ []) : CSt R e0 e1 e2 [R, zP, .cells [.gsl (icC c) c.length 2 3, .int e0, .int e1, .int e2], .tip (icC c).length] c
end
end Go.Pm
end SCh
