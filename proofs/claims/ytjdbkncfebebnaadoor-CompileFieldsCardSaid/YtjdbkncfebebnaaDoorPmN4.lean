/- Chapter 15: operands, what an opcode pops and pushes. Chapter 15: Verify and Depth of the program. -/
import Derived.Test.YtjdbkncfebebnaaDoorPmN1
set_option linter.unusedSimpArgs false
set_option linter.unusedVariables false
section SN4
namespace Go.Pm
open F Gr
def known15 (op : Int) : Bool := decide (1 <= op) && decide (op <= 21)
def opnd (op n len : Int) : Bool :=
 if op = 1 then decide (-2147483647 <= n) && decide (n <= 2147483647)
 else if op = 2 \/ op = 3 then decide (0 <= n) && decide (n <= 15)
 else if op = 4 then decide (0 <= n) && decide (n <= 7)
 else if op = 5 then decide (0 <= n) && decide (n <= 5)
 else if op = 18 \/ op = 19 then decide (0 <= n) && decide (n <= len - 1)
 else known15 op && decide (n = 0)
end Go.Pm
end SN4
section SN5
namespace Go.Pm
open F Gr
open Classical in
open Classical in
def okI (c : Cd) (i : Nat) : Bool := known15 (opA c i) && opnd (opA c i) (nA c i) c.length
def okC (c : Cd) : Nat -> Nat -> Bool
 | 0, _ => true
 | m + 1, i => okI c i && okC c m (i + 1)
theorem okC_all {c : Cd} : ∀ (m i : Nat), okC c m i = true -> ∀ k, i <= k -> k < i + m -> okI c k = true
 | 0, i, _, k, h1, h2 => by omega
 | m + 1, i, h, k, h1, h2 => by
   simp only [okC, Bool.and_eq_true] at h
   by_cases hk : k = i
   · rw [hk]; exact h.1
   · exact okC_all m (i + 1) h.2 k (by omega) (by omega)
theorem okI_op {c : Cd} {i : Nat} (h : okI c i = true) : (1 <= opA c i /\ opA c i <= 21) /\ (opA c i = 18 \/ opA c i = 19 -> 0 <= nA c i /\ nA c i < c.length) := by
 simp only [okI, Bool.and_eq_true, known15, decide_eq_true_eq] at h
 refine ⟨h.1, fun hj => ?_⟩
 have h2 := h.2
 unfold opnd at h2
 rw [if_neg (by omega), if_neg (by omega), if_neg (by omega), if_neg (by omega), if_pos hj] at h2
 simp only [Bool.and_eq_true, decide_eq_true_eq] at h2
 omega
theorem okC_fits {c : Cd} (h : okC c c.length 0 = true) : Fits c := by
 intro i hi j hj
 have := (okI_op (okC_all _ _ h i (by omega) (by omega))).2
 unfold sucs at hj
 split at hj
 · simp at hj
 · split at hj
   · simp only [List.mem_singleton] at hj
     have := this (.inl (by assumption))
     omega
   · split at hj
     · simp only [List.mem_cons, List.not_mem_nil, or_false] at hj
       have := this (.inr (by assumption))
       omega
     · simp only [List.mem_singleton] at hj; omega
end Go.Pm
end SN5
