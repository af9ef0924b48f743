/- Chapter 15: operands, what an opcode pops and pushes. Chapter 15: Verify and Depth of the program. -/
import Derived.Test.YtdnnjabacgpfdaaGreatDoorPmN1
set_option linter.unusedSimpArgs false
set_option linter.unusedVariables false
section SN4
namespace Go.Pm
open F Gr
def known15 (op : Int) : Bool := decide (1 <= op) && decide (op <= 21)
def opnd (op n len : Int) : Bool :=
 if op = 1 then decide (-2147483647 <= n) && decide (n <= 2147483647)
 else if op = 2 \/ op = 3 then decide (0 <= n) && decide (n <= 15)
 else if op = 4 then decide (0 <= n) && decide (n <= 7)
 else if op = 5 then decide (0 <= n) && decide (n <= 5)
 else if op = 18 \/ op = 19 then decide (0 <= n) && decide (n <= len - 1)
 else known15 op && decide (n = 0)
def popR (op : Int) : Int := if known15 op then popI op else -1
theorem pops15 (op : Int) : Z base15 (.call 145 [.int op] []) = some (.ret (.int (popR op)) []) := by
 by_cases h1 : op = 1
 · subst h1; exact Z_of (n := 2) (by kernel_rfl)
 by_cases h2 : op = 2
 · subst h2; exact Z_of (n := 2) (by kernel_rfl)
 by_cases h3 : op = 3
 · subst h3; exact Z_of (n := 2) (by kernel_rfl)
 by_cases h4 : op = 4
 · subst h4; exact Z_of (n := 2) (by kernel_rfl)
 by_cases h5 : op = 5
 · subst h5; exact Z_of (n := 2) (by kernel_rfl)
 by_cases h6 : op = 6
 · subst h6; exact Z_of (n := 2) (by kernel_rfl)
 by_cases h7 : op = 7
 · subst h7; exact Z_of (n := 2) (by kernel_rfl)
 by_cases h8 : op = 8
 · subst h8; exact Z_of (n := 2) (by kernel_rfl)
 by_cases h9 : op = 9
 · subst h9; exact Z_of (n := 2) (by kernel_rfl)
 by_cases h10 : op = 10
 · subst h10; exact Z_of (n := 2) (by kernel_rfl)
 by_cases h11 : op = 11
 · subst h11; exact Z_of (n := 2) (by kernel_rfl)
 by_cases h12 : op = 12
 · subst h12; exact Z_of (n := 2) (by kernel_rfl)
 by_cases h13 : op = 13
 · subst h13; exact Z_of (n := 2) (by kernel_rfl)
 by_cases h14 : op = 14
 · subst h14; exact Z_of (n := 2) (by kernel_rfl)
 by_cases h15 : op = 15
 · subst h15; exact Z_of (n := 2) (by kernel_rfl)
 by_cases h16 : op = 16
 · subst h16; exact Z_of (n := 2) (by kernel_rfl)
 by_cases h17 : op = 17
 · subst h17; exact Z_of (n := 2) (by kernel_rfl)
 by_cases h18 : op = 18
 · subst h18; exact Z_of (n := 2) (by kernel_rfl)
 by_cases h19 : op = 19
 · subst h19; exact Z_of (n := 2) (by kernel_rfl)
 by_cases h20 : op = 20
 · subst h20; exact Z_of (n := 2) (by kernel_rfl)
 by_cases h21 : op = 21
 · subst h21; exact Z_of (n := 2) (by kernel_rfl)
 refine Z_call (pf := F145) rfl rfl ?_
 have e : popR op = -1 := by
   unfold popR known15
   rw [if_neg (by simp only [Bool.and_eq_true, decide_eq_true_eq]; omega)]
 rw [e]
 simp [F145, h1, h2, h3, h4, h5, h6, h7, h8, h9, h10, h11, h12, h13, h14, h15, h16, h17, h18, h19, h20, h21]
theorem push15 (op : Int) : Z base15 (.call 146 [.int op] []) = some (.ret (.int (pushI op)) []) := by
 by_cases h1 : op = 1
 · subst h1; exact Z_of (n := 2) (by kernel_rfl)
 by_cases h2 : op = 2
 · subst h2; exact Z_of (n := 2) (by kernel_rfl)
 by_cases h3 : op = 3
 · subst h3; exact Z_of (n := 2) (by kernel_rfl)
 by_cases h4 : op = 4
 · subst h4; exact Z_of (n := 2) (by kernel_rfl)
 by_cases h5 : op = 5
 · subst h5; exact Z_of (n := 2) (by kernel_rfl)
 by_cases h6 : op = 6
 · subst h6; exact Z_of (n := 2) (by kernel_rfl)
 by_cases h7 : op = 7
 · subst h7; exact Z_of (n := 2) (by kernel_rfl)
 by_cases h8 : op = 8
 · subst h8; exact Z_of (n := 2) (by kernel_rfl)
 by_cases h9 : op = 9
 · subst h9; exact Z_of (n := 2) (by kernel_rfl)
 by_cases h10 : op = 10
 · subst h10; exact Z_of (n := 2) (by kernel_rfl)
 by_cases h11 : op = 11
 · subst h11; exact Z_of (n := 2) (by kernel_rfl)
 by_cases h12 : op = 12
 · subst h12; exact Z_of (n := 2) (by kernel_rfl)
 by_cases h13 : op = 13
 · subst h13; exact Z_of (n := 2) (by kernel_rfl)
 by_cases h14 : op = 14
 · subst h14; exact Z_of (n := 2) (by kernel_rfl)
 by_cases h15 : op = 15
 · subst h15; exact Z_of (n := 2) (by kernel_rfl)
 by_cases h16 : op = 16
 · subst h16; exact Z_of (n := 2) (by kernel_rfl)
 by_cases h17 : op = 17
 · subst h17; exact Z_of (n := 2) (by kernel_rfl)
 by_cases h18 : op = 18
 · subst h18; exact Z_of (n := 2) (by kernel_rfl)
 by_cases h19 : op = 19
 · subst h19; exact Z_of (n := 2) (by kernel_rfl)
 by_cases h20 : op = 20
 · subst h20; exact Z_of (n := 2) (by kernel_rfl)
 by_cases h21 : op = 21
 · subst h21; exact Z_of (n := 2) (by kernel_rfl)
 refine Z_call (pf := F146) rfl rfl ?_
 have e : pushI op = 1 := by
   unfold pushI
   rw [if_neg (by omega)]
 rw [e]
 simp [F146, h1, h2, h3, h4, h5, h6, h7, h8, h9, h10, h11, h12, h13, h14, h15, h16, h17, h18, h19, h20, h21]
end Go.Pm
end SN4
section SN5
namespace Go.Pm
open F Gr
open Classical in
noncomputable def fallsB (c : Cd) (e : Int) : Bool := decide (Falls c e.toNat)
open Classical in
noncomputable def safeB (c : Cd) (e : Int) : Bool := decide (∃ D m, CF c e.toNat D /\ Most c e.toNat D m /\ m <= 16)
noncomputable def verV (c : Cd) : List Int -> Int -> Int
 | [], acc => acc
 | e :: r, acc => if e < 0 then verV c r acc else if fallsB c e then 14 else verV c r (if safeB c e then acc else 15)
def okI (c : Cd) (i : Nat) : Bool := known15 (opA c i) && opnd (opA c i) (nA c i) c.length
def okC (c : Cd) : Nat -> Nat -> Bool
 | 0, _ => true
 | m + 1, i => okI c i && okC c m (i + 1)
def okE (c : Cd) (e : Int) : Bool := decide (-1 <= e) && decide (e < c.length)
noncomputable def verifyV (c : Cd) (e0 e1 e2 : Int) : Int :=
 if 400 < c.length then 2 else if okC c c.length 0 && (okE c e0 && (okE c e1 && okE c e2)) then verV c [e0, e1, e2] 0 else 14
theorem okC_all {c : Cd} : ∀ (m i : Nat), okC c m i = true -> ∀ k, i <= k -> k < i + m -> okI c k = true
 | 0, i, _, k, h1, h2 => by omega
 | m + 1, i, h, k, h1, h2 => by
   simp only [okC, Bool.and_eq_true] at h
   by_cases hk : k = i
   · rw [hk]; exact h.1
   · exact okC_all m (i + 1) h.2 k (by omega) (by omega)
theorem okI_op {c : Cd} {i : Nat} (h : okI c i = true) : (1 <= opA c i /\ opA c i <= 21) /\ (opA c i = 18 \/ opA c i = 19 -> 0 <= nA c i /\ nA c i < c.length) := by
 simp only [okI, Bool.and_eq_true, known15, decide_eq_true_eq] at h
 refine ⟨h.1, fun hj => ?_⟩
 have h2 := h.2
 unfold opnd at h2
 rw [if_neg (by omega), if_neg (by omega), if_neg (by omega), if_neg (by omega), if_pos hj] at h2
 simp only [Bool.and_eq_true, decide_eq_true_eq] at h2
 omega
theorem okC_fits {c : Cd} (h : okC c c.length 0 = true) : Fits c := by
 intro i hi j hj
 have := (okI_op (okC_all _ _ h i (by omega) (by omega))).2
 unfold sucs at hj
 split at hj
 · simp at hj
 · split at hj
   · simp only [List.mem_singleton] at hj
     have := this (.inl (by assumption))
     omega
   · split at hj
     · simp only [List.mem_cons, List.not_mem_nil, or_false] at hj
       have := this (.inr (by assumption))
       omega
     · simp only [List.mem_singleton] at hj; omega
def vS (d : D) (e0 e1 e2 : Int) : S := [.cells [.dat d, .int e0, .int e1, .int e2]]
def v0Fr (d : D) (n i : Nat) : Fr := [(1, .ptr 0 0), (16, .dat d), (17, .int n), (18, .int i)]
section
variable {d : D} {c : Cd} {e0 e1 e2 : Int}
def v1Fr (e0 e1 e2 i : Int) : Fr := [(1, .ptr 0 0), (30, .dat (.agg [.lit (.int .i64 e0), .lit (.int .i64 e1), .lit (.int .i64 e2)])), (31, .int i)]
def v2Fr (acc e0 e1 e2 i : Int) : Fr := [(1, .ptr 0 0), (7, .int acc), (45, .dat (.agg [.lit (.int .i64 e0), .lit (.int .i64 e1), .lit (.int .i64 e2)])), (46, .int i)]
def Ends (d : D) (e0 e1 e2 : Int) (z : Option Res) (v : Int) : Prop := (v = 14 /\ ∃ σ, z = some (.out .ret [(2, .int 14)] σ)) \/ z = some (.out (.exit 4) (v2Fr v e0 e1 e2 3 ++ [(47, .bool false)]) (vS d e0 e1 e2))
end
end Go.Pm
end SN5
