/- Chapter 15: operands, what an opcode pops and pushes. Chapter 15: Verify and Depth of the program. -/
import Derived.Test.YtlbibgdenkleiaaGreatDoorPmN1
set_option linter.unusedSimpArgs false
set_option linter.unusedVariables false
section SN4
namespace Go.Pm
open F Gr
def known15 (op : Int) : Bool := decide (1 ≤ op) && decide (op ≤ 21)
def opnd (op n len : Int) : Bool :=
  if op = 1 then decide (-2147483647 ≤ n) && decide (n ≤ 2147483647)
  else if op = 2 ∨ op = 3 then decide (0 ≤ n) && decide (n ≤ 15)
  else if op = 4 then decide (0 ≤ n) && decide (n ≤ 7)
  else if op = 5 then decide (0 ≤ n) && decide (n ≤ 5)
  else if op = 18 ∨ op = 19 then decide (0 ≤ n) && decide (n ≤ len - 1)
  else known15 op && decide (n = 0)
def popR (op : Int) : Int := if known15 op then popI op else -1
theorem known_Z (op : Int) : Z base15 (.call 163 [.int op] []) = some (.ret (.bool (known15 op)) []) := by
  refine Z_call (pf := F163) rfl rfl ?_
  unfold known15
  by_cases h : 1 ≤ op
  · simp [F163, h]
  · simp [F163, h]
theorem pops15 (op : Int) : Z base15 (.call 145 [.int op] []) = some (.ret (.int (popR op)) []) := by
  by_cases h1 : op = 1
  · subst h1; exact Z_of (n := 2) (by kernel_rfl)
  by_cases h2 : op = 2
  · subst h2; exact Z_of (n := 2) (by kernel_rfl)
  by_cases h3 : op = 3
  · subst h3; exact Z_of (n := 2) (by kernel_rfl)
  by_cases h4 : op = 4
  · subst h4; exact Z_of (n := 2) (by kernel_rfl)
  by_cases h5 : op = 5
  · subst h5; exact Z_of (n := 2) (by kernel_rfl)
  by_cases h6 : op = 6
  · subst h6; exact Z_of (n := 2) (by kernel_rfl)
  by_cases h7 : op = 7
  · subst h7; exact Z_of (n := 2) (by kernel_rfl)
  by_cases h8 : op = 8
  · subst h8; exact Z_of (n := 2) (by kernel_rfl)
  by_cases h9 : op = 9
  · subst h9; exact Z_of (n := 2) (by kernel_rfl)
  by_cases h10 : op = 10
  · subst h10; exact Z_of (n := 2) (by kernel_rfl)
  by_cases h11 : op = 11
  · subst h11; exact Z_of (n := 2) (by kernel_rfl)
  by_cases h12 : op = 12
  · subst h12; exact Z_of (n := 2) (by kernel_rfl)
  by_cases h13 : op = 13
  · subst h13; exact Z_of (n := 2) (by kernel_rfl)
  by_cases h14 : op = 14
  · subst h14; exact Z_of (n := 2) (by kernel_rfl)
  by_cases h15 : op = 15
  · subst h15; exact Z_of (n := 2) (by kernel_rfl)
  by_cases h16 : op = 16
  · subst h16; exact Z_of (n := 2) (by kernel_rfl)
  by_cases h17 : op = 17
  · subst h17; exact Z_of (n := 2) (by kernel_rfl)
  by_cases h18 : op = 18
  · subst h18; exact Z_of (n := 2) (by kernel_rfl)
  by_cases h19 : op = 19
  · subst h19; exact Z_of (n := 2) (by kernel_rfl)
  by_cases h20 : op = 20
  · subst h20; exact Z_of (n := 2) (by kernel_rfl)
  by_cases h21 : op = 21
  · subst h21; exact Z_of (n := 2) (by kernel_rfl)
  refine Z_call (pf := F145) rfl rfl ?_
  have e : popR op = -1 := by
    unfold popR known15
    rw [if_neg (by simp only [Bool.and_eq_true, decide_eq_true_eq]; omega)]
  rw [e]
  simp [F145, h1, h2, h3, h4, h5, h6, h7, h8, h9, h10, h11, h12, h13, h14, h15, h16, h17, h18, h19, h20, h21]
theorem push15 (op : Int) : Z base15 (.call 146 [.int op] []) = some (.ret (.int (pushI op)) []) := by
  by_cases h1 : op = 1
  · subst h1; exact Z_of (n := 2) (by kernel_rfl)
  by_cases h2 : op = 2
  · subst h2; exact Z_of (n := 2) (by kernel_rfl)
  by_cases h3 : op = 3
  · subst h3; exact Z_of (n := 2) (by kernel_rfl)
  by_cases h4 : op = 4
  · subst h4; exact Z_of (n := 2) (by kernel_rfl)
  by_cases h5 : op = 5
  · subst h5; exact Z_of (n := 2) (by kernel_rfl)
  by_cases h6 : op = 6
  · subst h6; exact Z_of (n := 2) (by kernel_rfl)
  by_cases h7 : op = 7
  · subst h7; exact Z_of (n := 2) (by kernel_rfl)
  by_cases h8 : op = 8
  · subst h8; exact Z_of (n := 2) (by kernel_rfl)
  by_cases h9 : op = 9
  · subst h9; exact Z_of (n := 2) (by kernel_rfl)
  by_cases h10 : op = 10
  · subst h10; exact Z_of (n := 2) (by kernel_rfl)
  by_cases h11 : op = 11
  · subst h11; exact Z_of (n := 2) (by kernel_rfl)
  by_cases h12 : op = 12
  · subst h12; exact Z_of (n := 2) (by kernel_rfl)
  by_cases h13 : op = 13
  · subst h13; exact Z_of (n := 2) (by kernel_rfl)
  by_cases h14 : op = 14
  · subst h14; exact Z_of (n := 2) (by kernel_rfl)
  by_cases h15 : op = 15
  · subst h15; exact Z_of (n := 2) (by kernel_rfl)
  by_cases h16 : op = 16
  · subst h16; exact Z_of (n := 2) (by kernel_rfl)
  by_cases h17 : op = 17
  · subst h17; exact Z_of (n := 2) (by kernel_rfl)
  by_cases h18 : op = 18
  · subst h18; exact Z_of (n := 2) (by kernel_rfl)
  by_cases h19 : op = 19
  · subst h19; exact Z_of (n := 2) (by kernel_rfl)
  by_cases h20 : op = 20
  · subst h20; exact Z_of (n := 2) (by kernel_rfl)
  by_cases h21 : op = 21
  · subst h21; exact Z_of (n := 2) (by kernel_rfl)
  refine Z_call (pf := F146) rfl rfl ?_
  have e : pushI op = 1 := by
    unfold pushI
    rw [if_neg (by omega)]
  rw [e]
  simp [F146, h1, h2, h3, h4, h5, h6, h7, h8, h9, h10, h11, h12, h13, h14, h15, h16, h17, h18, h19, h20, h21]
theorem valid15 (op n len : Int) (hl : 0 ≤ len ∧ len < 2^40) : Z base15 (.call 138 [.dat (.agg [.lit (.int .i64 op), .lit (.int .i64 n)]), .int len] []) = some (.ret (.bool (known15 op && opnd op n len)) []) := by
  have zk := known_Z op
  have w := wrap64 (len - 1) (by omega)
  refine Z_call (pf := F138) rfl rfl ?_
  cases hk : known15 op with
  | false => rw [hk] at zk; simp [F138, zk, List.range_succ]
  | true =>
    rw [hk] at zk
    rw [Bool.true_and]
    unfold opnd
    by_cases h1 : op = 1
    · subst h1
      by_cases a : -2147483647 ≤ n
      · simp [F138, zk, List.range_succ, a, w]
      · simp [F138, zk, List.range_succ, a, w]
    by_cases h2 : op = 2
    · subst h2
      by_cases a : 0 ≤ n
      · simp [F138, zk, List.range_succ, a, w]
      · simp [F138, zk, List.range_succ, a, w]
    by_cases h3 : op = 3
    · subst h3
      by_cases a : 0 ≤ n
      · simp [F138, zk, List.range_succ, a, w]
      · simp [F138, zk, List.range_succ, a, w]
    by_cases h4 : op = 4
    · subst h4
      by_cases a : 0 ≤ n
      · simp [F138, zk, List.range_succ, a, w]
      · simp [F138, zk, List.range_succ, a, w]
    by_cases h5 : op = 5
    · subst h5
      by_cases a : 0 ≤ n
      · simp [F138, zk, List.range_succ, a, w]
      · simp [F138, zk, List.range_succ, a, w]
    by_cases h18 : op = 18
    · subst h18
      by_cases a : 0 ≤ n
      · simp [F138, zk, List.range_succ, a, w]
      · simp [F138, zk, List.range_succ, a, w]
    by_cases h19 : op = 19
    · subst h19
      by_cases a : 0 ≤ n
      · simp [F138, zk, List.range_succ, a, w]
      · simp [F138, zk, List.range_succ, a, w]
    by_cases a : 0 ≤ n
    · have e : decide (n = 0) = decide (n ≤ 0) := by
        by_cases b : n ≤ 0
        · have : n = 0 := by omega
          simp [this]
        · have : ¬ n = 0 := by omega
          simp [this, b]
      rw [e]
      simp [F138, zk, List.range_succ, a, h1, h2, h3, h4, h5, h18, h19, hk]
    · have : ¬ n = 0 := by omega
      simp [F138, zk, List.range_succ, a, h1, h2, h3, h4, h5, h18, h19, hk, this]
theorem operand15 (op n len : Int) (hl : 0 ≤ len ∧ len < 2^40) : Z base15 (.call 141 [.dat (.agg [.lit (.int .i64 op), .lit (.int .i64 n)]), .int len] []) = some (.ret (.bool (known15 op && opnd op n len)) []) := by
  have zp := pops15 op
  refine Z_call (pf := F141) rfl rfl ?_
  unfold opnd
  by_cases h1 : op = 1
  · subst h1
    have hk : known15 1 = true := by decide
    have e1 : decide (-2147483647 ≤ n) = decide (-2147483648 < n) := by
      by_cases b : -2147483648 < n
      · have : (-2147483647 : Int) ≤ n := by omega
        simp [b, this]
      · have : ¬ (-2147483647 : Int) ≤ n := by omega
        simp [b, this]
    have e2 : decide (n ≤ 2147483647) = decide (n < 2147483648) := by
      by_cases b : n < 2147483648
      · have : n ≤ 2147483647 := by omega
        simp [b, this]
      · have : ¬ n ≤ 2147483647 := by omega
        simp [b, this]
    rw [hk, Bool.true_and]
    simp only [if_true, e1, e2, Int.reduceEq, or_false, false_or, or_true, true_or, if_false]
    by_cases a : -2147483648 < n
    · simp [F141, List.range_succ, a]
    · simp [F141, List.range_succ, a]
  by_cases h2 : op = 2
  · subst h2
    have hk : known15 2 = true := by decide
    have e1 : decide (0 ≤ n) = decide (0 ≤ n) := by
      rfl
    have e2 : decide (n ≤ 15) = decide (n < 16) := by
      by_cases b : n < 16
      · have : n ≤ 15 := by omega
        simp [b, this]
      · have : ¬ n ≤ 15 := by omega
        simp [b, this]
    rw [hk, Bool.true_and]
    simp only [if_true, e1, e2, Int.reduceEq, or_false, false_or, or_true, true_or, if_false]
    by_cases a : 0 ≤ n
    · simp [F141, List.range_succ, a]
    · simp [F141, List.range_succ, a]
  by_cases h3 : op = 3
  · subst h3
    have hk : known15 3 = true := by decide
    have e1 : decide (0 ≤ n) = decide (0 ≤ n) := by
      rfl
    have e2 : decide (n ≤ 15) = decide (n < 16) := by
      by_cases b : n < 16
      · have : n ≤ 15 := by omega
        simp [b, this]
      · have : ¬ n ≤ 15 := by omega
        simp [b, this]
    rw [hk, Bool.true_and]
    simp only [if_true, e1, e2, Int.reduceEq, or_false, false_or, or_true, true_or, if_false]
    by_cases a : 0 ≤ n
    · simp [F141, List.range_succ, a]
    · simp [F141, List.range_succ, a]
  by_cases h4 : op = 4
  · subst h4
    have hk : known15 4 = true := by decide
    have e1 : decide (0 ≤ n) = decide (0 ≤ n) := by
      rfl
    have e2 : decide (n ≤ 7) = decide (n < 8) := by
      by_cases b : n < 8
      · have : n ≤ 7 := by omega
        simp [b, this]
      · have : ¬ n ≤ 7 := by omega
        simp [b, this]
    rw [hk, Bool.true_and]
    simp only [if_true, e1, e2, Int.reduceEq, or_false, false_or, or_true, true_or, if_false]
    by_cases a : 0 ≤ n
    · simp [F141, List.range_succ, a]
    · simp [F141, List.range_succ, a]
  by_cases h5 : op = 5
  · subst h5
    have hk : known15 5 = true := by decide
    have e1 : decide (0 ≤ n) = decide (0 ≤ n) := by
      rfl
    have e2 : decide (n ≤ 5) = decide (n < 6) := by
      by_cases b : n < 6
      · have : n ≤ 5 := by omega
        simp [b, this]
      · have : ¬ n ≤ 5 := by omega
        simp [b, this]
    rw [hk, Bool.true_and]
    simp only [if_true, e1, e2, Int.reduceEq, or_false, false_or, or_true, true_or, if_false]
    by_cases a : 0 ≤ n
    · simp [F141, List.range_succ, a]
    · simp [F141, List.range_succ, a]
  by_cases h18 : op = 18
  · subst h18
    have hk : known15 18 = true := by decide
    have e1 : decide (0 ≤ n) = decide (0 ≤ n) := by
      rfl
    have e2 : decide (n ≤ len - 1) = decide (n < len) := by
      by_cases b : n < len
      · have : n ≤ len - 1 := by omega
        simp [b, this]
      · have : ¬ n ≤ len - 1 := by omega
        simp [b, this]
    rw [hk, Bool.true_and]
    simp only [if_true, e1, e2, Int.reduceEq, or_false, false_or, or_true, true_or, if_false]
    by_cases a : 0 ≤ n
    · simp [F141, List.range_succ, a]
    · simp [F141, List.range_succ, a]
  by_cases h19 : op = 19
  · subst h19
    have hk : known15 19 = true := by decide
    have e1 : decide (0 ≤ n) = decide (0 ≤ n) := by
      rfl
    have e2 : decide (n ≤ len - 1) = decide (n < len) := by
      by_cases b : n < len
      · have : n ≤ len - 1 := by omega
        simp [b, this]
      · have : ¬ n ≤ len - 1 := by omega
        simp [b, this]
    rw [hk, Bool.true_and]
    simp only [if_true, e1, e2, Int.reduceEq, or_false, false_or, or_true, true_or, if_false]
    by_cases a : 0 ≤ n
    · simp [F141, List.range_succ, a]
    · simp [F141, List.range_succ, a]
  cases hk : known15 op with
  | false =>
    have : popR op = -1 := by unfold popR; rw [hk]; rfl
    rw [this] at zp
    simp [F141, List.range_succ, zp, h1, h2, h3, h4, h5, h18, h19]
  | true =>
    have : popR op = popI op := by unfold popR; rw [hk]; rfl
    rw [this] at zp
    have hp : 0 ≤ popI op := (popI_rng op).1
    simp [F141, List.range_succ, zp, h1, h2, h3, h4, h5, h18, h19, hp]
end Go.Pm
end SN4
section SN5
namespace Go.Pm
open F Gr
open Classical in
noncomputable def fallsB (c : Cd) (e : Int) : Bool := decide (Falls c e.toNat)
open Classical in
noncomputable def safeB (c : Cd) (e : Int) : Bool := decide (∃ D m, CF c e.toNat D ∧ Most c e.toNat D m ∧ m ≤ 16)
noncomputable def verV (c : Cd) : List Int → Int → Int
  | [], acc => acc
  | e :: r, acc => if e < 0 then verV c r acc else if fallsB c e then 14 else verV c r (if safeB c e then acc else 15)
def okI (c : Cd) (i : Nat) : Bool := known15 (opA c i) && opnd (opA c i) (nA c i) c.length
def okC (c : Cd) : Nat → Nat → Bool
  | 0, _ => true
  | m + 1, i => okI c i && okC c m (i + 1)
def okE (c : Cd) (e : Int) : Bool := decide (-1 ≤ e) && decide (e < c.length)
noncomputable def verifyV (c : Cd) (e0 e1 e2 : Int) : Int :=
  if 400 < c.length then 2 else if okC c c.length 0 && (okE c e0 && (okE c e1 && okE c e2)) then verV c [e0, e1, e2] 0 else 14
theorem okC_all {c : Cd} : ∀ (m i : Nat), okC c m i = true → ∀ k, i ≤ k → k < i + m → okI c k = true
  | 0, i, _, k, h1, h2 => by omega
  | m + 1, i, h, k, h1, h2 => by
    simp only [okC, Bool.and_eq_true] at h
    by_cases hk : k = i
    · rw [hk]; exact h.1
    · exact okC_all m (i + 1) h.2 k (by omega) (by omega)
theorem okI_op {c : Cd} {i : Nat} (h : okI c i = true) : (1 ≤ opA c i ∧ opA c i ≤ 21) ∧ (opA c i = 18 ∨ opA c i = 19 → 0 ≤ nA c i ∧ nA c i < c.length) := by
  simp only [okI, Bool.and_eq_true, known15, decide_eq_true_eq] at h
  refine ⟨h.1, fun hj => ?_⟩
  have h2 := h.2
  unfold opnd at h2
  rw [if_neg (by omega), if_neg (by omega), if_neg (by omega), if_neg (by omega), if_pos hj] at h2
  simp only [Bool.and_eq_true, decide_eq_true_eq] at h2
  omega
theorem okC_fits {c : Cd} (h : okC c c.length 0 = true) : Fits c := by
  intro i hi j hj
  have := (okI_op (okC_all _ _ h i (by omega) (by omega))).2
  unfold sucs at hj
  split at hj
  · simp at hj
  · split at hj
    · simp only [List.mem_singleton] at hj
      have := this (.inl (by assumption))
      omega
    · split at hj
      · simp only [List.mem_cons, List.not_mem_nil, or_false] at hj
        have := this (.inr (by assumption))
        omega
      · simp only [List.mem_singleton] at hj; omega
theorem ana_falls {c : Cd} {e : Nat} {fl br : Bool} {dp : Int} (h : AnaRes c e fl br dp) : fl = fallsB c e := by
  have := h.fal
  unfold fallsB
  simp only [Int.toNat_natCast]
  cases fl with
  | true => simp at this; simp [this]
  | false => simp at this; simp [this]
theorem ana_safe {c : Cd} {e : Nat} {fl br : Bool} {dp : Int} (h : AnaRes c e fl br dp) : (!br && decide (dp ≤ 16)) = safeB c e := by
  unfold safeB
  simp only [Int.toNat_natCast]
  cases br with
  | true =>
    have : ¬ ∃ D, CF c e D := fun hh => by have := h.brk.2 hh; cases this
    simp only [Bool.not_true, Bool.false_and]
    symm
    simp only [decide_eq_false_iff_not]
    rintro ⟨D, m, h1, _⟩
    exact this ⟨D, h1⟩
  | false =>
    obtain ⟨D, hD⟩ := h.brk.1 rfl
    simp only [Bool.not_false, Bool.true_and, decide_eq_decide]
    constructor
    · intro hd; exact ⟨D, dp, hD, h.most D hD, hd⟩
    · rintro ⟨D', m, h1, h2, h3⟩
      rw [(h.most D' h1).unique h2]; exact h3
def vS (d : D) (e0 e1 e2 : Int) : S := [.cells [.dat d, .int e0, .int e1, .int e2]]
def v0Fr (d : D) (n i : Nat) : Fr := [(1, .ptr 0 0), (16, .dat d), (17, .int n), (18, .int i)]
section
variable {d : D} {c : Cd} {e0 e1 e2 : Int}
theorem vloop15 (hd : IsCode d c) (hcl : c.length < 2^27) (m : Nat) : ∀ i : Nat, i + m = c.length →
    (okC c m i = true → Z base15 (.loop 0 F125l0 (v0Fr d c.length i) (vS d e0 e1 e2)) = some (.out (.exit 0) (v0Fr d c.length c.length ++ [(19, .bool false)]) (vS d e0 e1 e2))) ∧
    (okC c m i = false → ∃ σ, Z base15 (.loop 0 F125l0 (v0Fr d c.length i) (vS d e0 e1 e2)) = some (.out .ret [(2, .int 14)] σ)) := by
  have ho := hd.one
  have hc := hd.cells
  have hlen := hd.len
  induction m with
  | zero =>
    intro i hi
    have : i = c.length := by omega
    subst this
    refine ⟨fun _ => ?_, fun h => by simp [okC] at h⟩
    rw [Z_loop_eq]
    simp [loopStep, run_F125l0, v0Fr, vS, List.range_succ, ho, hc]
  | succ m ih =>
    intro i hi
    obtain ⟨ea, eb⟩ := ih (i + 1) (by omega)
    have hi' : (i : Int) < c.length := by omega
    have hat := hd.at_ i (by omega) (by omega)
    rw [show ((i : Int)).toNat = i by omega] at hat
    have hcut := cut2_icC c i (by omega)
    have w1 := wrap64 ((i : Int) + 1) (by omega)
    have zv := valid15 (opA c i) (nA c i) c.length (by omega)
    have hI : (known15 (opA c i) && opnd (opA c i) (nA c i) c.length) = okI c i := rfl
    rw [hI] at zv
    simp only [okC]
    cases hok : okI c i with
    | false =>
      rw [hok] at zv
      refine ⟨fun h => by simp at h, fun _ => ?_⟩
      rw [Z_loop_eq]
      simp [loopStep, run_F125l0, v0Fr, vS, List.range_succ, hlen, hi', hat, hcut, zv, ho, hc]
    | true =>
      rw [hok] at zv
      rw [Bool.true_and]
      have e2 : Z base15 (.loop 0 F125l0 (v0Fr d c.length i) (vS d e0 e1 e2)) = Z base15 (.loop 0 F125l0 (v0Fr d c.length (i + 1)) (vS d e0 e1 e2)) := by
        rw [Z_loop_eq]
        simp [loopStep, run_F125l0, v0Fr, vS, List.range_succ, hlen, hi', hat, hcut, zv, w1, ho, hc]
        refine Z_loop_cong ?_
        simp [List.range_succ, ho, hc]
      rw [e2]
      exact ⟨ea, eb⟩
def v1Fr (e0 e1 e2 i : Int) : Fr := [(1, .ptr 0 0), (30, .dat (.agg [.lit (.int .i64 e0), .lit (.int .i64 e1), .lit (.int .i64 e2)])), (31, .int i)]
def v2Fr (acc e0 e1 e2 i : Int) : Fr := [(1, .ptr 0 0), (7, .int acc), (45, .dat (.agg [.lit (.int .i64 e0), .lit (.int .i64 e1), .lit (.int .i64 e2)])), (46, .int i)]
theorem v1_0 (hd : IsCode d c) (hcl : c.length < 2^27) : Z base15 (.loop 0 F125l1 (v1Fr e0 e1 e2 0) (vS d e0 e1 e2)) = if okE c e0 then Z base15 (.loop 0 F125l1 (v1Fr e0 e1 e2 1) (vS d e0 e1 e2)) else some (.out .ret [(2, .int 14)] (vS d e0 e1 e2)) := by
  have ho := hd.one
  have hc := hd.cells
  have hlen := hd.len
  have w : IntKind.i64.wrap 1 = 1 := rfl
  unfold okE
  by_cases a : e0 < -1
  · have a' : ¬ -1 ≤ e0 := by omega
    rw [Z_loop_eq]
    simp [loopStep, run_F125l1, v1Fr, vS, List.range_succ, hlen, a, a', ho, hc]
  · have a' : -1 ≤ e0 := by omega
    by_cases b : (c.length : Int) ≤ e0
    · have b' : ¬ e0 < c.length := by omega
      rw [Z_loop_eq]
      simp [loopStep, run_F125l1, v1Fr, vS, List.range_succ, hlen, a, a', b, b', ho, hc]
    · have b' : e0 < c.length := by omega
      rw [Z_loop_eq]
      simp [loopStep, run_F125l1, v1Fr, vS, List.range_succ, hlen, a, a', b, b', w, ho, hc]
theorem v2n_0 (hd : IsCode d c) (acc : Int) (a : e0 < 0) : Z base15 (.loop 0 F125l2 (v2Fr acc e0 e1 e2 0) (vS d e0 e1 e2)) = Z base15 (.loop 0 F125l2 (v2Fr acc e0 e1 e2 1) (vS d e0 e1 e2)) := by
  have ho := hd.one
  have hc := hd.cells
  have w : IntKind.i64.wrap 1 = 1 := rfl
  rw [Z_loop_eq]
  simp [loopStep, run_F125l2, v2Fr, vS, List.range_succ, a, w, ho, hc]
theorem v2_0 (hd : IsCode d c) (hf : Fits c) (hops : ∀ i, i < c.length → 1 ≤ opA c i ∧ opA c i ≤ 21) (hcl : c.length < 2^27) (he : e0 < c.length) (acc : Int) (a : ¬ e0 < 0) :
    (fallsB c e0 = true → ∃ σ, Z base15 (.loop 0 F125l2 (v2Fr acc e0 e1 e2 0) (vS d e0 e1 e2)) = some (.out .ret [(2, .int 14)] σ)) ∧
    (fallsB c e0 = false → Z base15 (.loop 0 F125l2 (v2Fr acc e0 e1 e2 0) (vS d e0 e1 e2)) = Z base15 (.loop 0 F125l2 (v2Fr (if safeB c e0 then acc else 15) e0 e1 e2 1) (vS d e0 e1 e2))) := by
  have ho := hd.one
  have hc := hd.cells
  have hlen := hd.len
  have w : IntKind.i64.wrap 1 = 1 := rfl
  obtain ⟨fl, br, dp, h1, h2⟩ := ana_Z (e0 := e0) (e1 := e1) (e2 := e2) hd hf hops hcl (e := e0.toNat) (by omega)
  have h3 := ana_falls h1
  have h4 := ana_safe h1
  rw [show ((e0.toNat : Nat) : Int) = e0 by omega] at h2 h3 h4
  have h5 := safe_Z fl br dp
  rw [h4] at h5
  simp only [pgD] at h2
  rw [← h3]
  cases fl with
  | true =>
    refine ⟨fun _ => ?_, fun h => by simp at h⟩
    rw [Z_loop_eq]
    simp [loopStep, run_F125l2, v2Fr, vS, List.range_succ, a, h2, ho, hc]
  | false =>
    refine ⟨fun h => by simp at h, fun _ => ?_⟩
    cases hs : safeB c e0 with
    | true =>
      rw [hs] at h5
      rw [Z_loop_eq]
      simp [loopStep, run_F125l2, v2Fr, vS, List.range_succ, a, h2, h5, w, ho, hc]
      refine Z_loop_cong ?_
      simp [List.range_succ, ho, hc]
    | false =>
      rw [hs] at h5
      rw [Z_loop_eq]
      simp [loopStep, run_F125l2, v2Fr, vS, List.range_succ, a, h2, h5, w, ho, hc]
      refine Z_loop_cong ?_
      simp [List.range_succ, ho, hc]
theorem v1_1 (hd : IsCode d c) (hcl : c.length < 2^27) : Z base15 (.loop 0 F125l1 (v1Fr e0 e1 e2 1) (vS d e0 e1 e2)) = if okE c e1 then Z base15 (.loop 0 F125l1 (v1Fr e0 e1 e2 2) (vS d e0 e1 e2)) else some (.out .ret [(2, .int 14)] (vS d e0 e1 e2)) := by
  have ho := hd.one
  have hc := hd.cells
  have hlen := hd.len
  have w : IntKind.i64.wrap 2 = 2 := rfl
  unfold okE
  by_cases a : e1 < -1
  · have a' : ¬ -1 ≤ e1 := by omega
    rw [Z_loop_eq]
    simp [loopStep, run_F125l1, v1Fr, vS, List.range_succ, hlen, a, a', ho, hc]
  · have a' : -1 ≤ e1 := by omega
    by_cases b : (c.length : Int) ≤ e1
    · have b' : ¬ e1 < c.length := by omega
      rw [Z_loop_eq]
      simp [loopStep, run_F125l1, v1Fr, vS, List.range_succ, hlen, a, a', b, b', ho, hc]
    · have b' : e1 < c.length := by omega
      rw [Z_loop_eq]
      simp [loopStep, run_F125l1, v1Fr, vS, List.range_succ, hlen, a, a', b, b', w, ho, hc]
theorem v2n_1 (hd : IsCode d c) (acc : Int) (a : e1 < 0) : Z base15 (.loop 0 F125l2 (v2Fr acc e0 e1 e2 1) (vS d e0 e1 e2)) = Z base15 (.loop 0 F125l2 (v2Fr acc e0 e1 e2 2) (vS d e0 e1 e2)) := by
  have ho := hd.one
  have hc := hd.cells
  have w : IntKind.i64.wrap 2 = 2 := rfl
  rw [Z_loop_eq]
  simp [loopStep, run_F125l2, v2Fr, vS, List.range_succ, a, w, ho, hc]
theorem v2_1 (hd : IsCode d c) (hf : Fits c) (hops : ∀ i, i < c.length → 1 ≤ opA c i ∧ opA c i ≤ 21) (hcl : c.length < 2^27) (he : e1 < c.length) (acc : Int) (a : ¬ e1 < 0) :
    (fallsB c e1 = true → ∃ σ, Z base15 (.loop 0 F125l2 (v2Fr acc e0 e1 e2 1) (vS d e0 e1 e2)) = some (.out .ret [(2, .int 14)] σ)) ∧
    (fallsB c e1 = false → Z base15 (.loop 0 F125l2 (v2Fr acc e0 e1 e2 1) (vS d e0 e1 e2)) = Z base15 (.loop 0 F125l2 (v2Fr (if safeB c e1 then acc else 15) e0 e1 e2 2) (vS d e0 e1 e2))) := by
  have ho := hd.one
  have hc := hd.cells
  have hlen := hd.len
  have w : IntKind.i64.wrap 2 = 2 := rfl
  obtain ⟨fl, br, dp, h1, h2⟩ := ana_Z (e0 := e0) (e1 := e1) (e2 := e2) hd hf hops hcl (e := e1.toNat) (by omega)
  have h3 := ana_falls h1
  have h4 := ana_safe h1
  rw [show ((e1.toNat : Nat) : Int) = e1 by omega] at h2 h3 h4
  have h5 := safe_Z fl br dp
  rw [h4] at h5
  simp only [pgD] at h2
  rw [← h3]
  cases fl with
  | true =>
    refine ⟨fun _ => ?_, fun h => by simp at h⟩
    rw [Z_loop_eq]
    simp [loopStep, run_F125l2, v2Fr, vS, List.range_succ, a, h2, ho, hc]
  | false =>
    refine ⟨fun h => by simp at h, fun _ => ?_⟩
    cases hs : safeB c e1 with
    | true =>
      rw [hs] at h5
      rw [Z_loop_eq]
      simp [loopStep, run_F125l2, v2Fr, vS, List.range_succ, a, h2, h5, w, ho, hc]
      refine Z_loop_cong ?_
      simp [List.range_succ, ho, hc]
    | false =>
      rw [hs] at h5
      rw [Z_loop_eq]
      simp [loopStep, run_F125l2, v2Fr, vS, List.range_succ, a, h2, h5, w, ho, hc]
      refine Z_loop_cong ?_
      simp [List.range_succ, ho, hc]
theorem v1_2 (hd : IsCode d c) (hcl : c.length < 2^27) : Z base15 (.loop 0 F125l1 (v1Fr e0 e1 e2 2) (vS d e0 e1 e2)) = if okE c e2 then Z base15 (.loop 0 F125l1 (v1Fr e0 e1 e2 3) (vS d e0 e1 e2)) else some (.out .ret [(2, .int 14)] (vS d e0 e1 e2)) := by
  have ho := hd.one
  have hc := hd.cells
  have hlen := hd.len
  have w : IntKind.i64.wrap 3 = 3 := rfl
  unfold okE
  by_cases a : e2 < -1
  · have a' : ¬ -1 ≤ e2 := by omega
    rw [Z_loop_eq]
    simp [loopStep, run_F125l1, v1Fr, vS, List.range_succ, hlen, a, a', ho, hc]
  · have a' : -1 ≤ e2 := by omega
    by_cases b : (c.length : Int) ≤ e2
    · have b' : ¬ e2 < c.length := by omega
      rw [Z_loop_eq]
      simp [loopStep, run_F125l1, v1Fr, vS, List.range_succ, hlen, a, a', b, b', ho, hc]
    · have b' : e2 < c.length := by omega
      rw [Z_loop_eq]
      simp [loopStep, run_F125l1, v1Fr, vS, List.range_succ, hlen, a, a', b, b', w, ho, hc]
theorem v2n_2 (hd : IsCode d c) (acc : Int) (a : e2 < 0) : Z base15 (.loop 0 F125l2 (v2Fr acc e0 e1 e2 2) (vS d e0 e1 e2)) = Z base15 (.loop 0 F125l2 (v2Fr acc e0 e1 e2 3) (vS d e0 e1 e2)) := by
  have ho := hd.one
  have hc := hd.cells
  have w : IntKind.i64.wrap 3 = 3 := rfl
  rw [Z_loop_eq]
  simp [loopStep, run_F125l2, v2Fr, vS, List.range_succ, a, w, ho, hc]
theorem v2_2 (hd : IsCode d c) (hf : Fits c) (hops : ∀ i, i < c.length → 1 ≤ opA c i ∧ opA c i ≤ 21) (hcl : c.length < 2^27) (he : e2 < c.length) (acc : Int) (a : ¬ e2 < 0) :
    (fallsB c e2 = true → ∃ σ, Z base15 (.loop 0 F125l2 (v2Fr acc e0 e1 e2 2) (vS d e0 e1 e2)) = some (.out .ret [(2, .int 14)] σ)) ∧
    (fallsB c e2 = false → Z base15 (.loop 0 F125l2 (v2Fr acc e0 e1 e2 2) (vS d e0 e1 e2)) = Z base15 (.loop 0 F125l2 (v2Fr (if safeB c e2 then acc else 15) e0 e1 e2 3) (vS d e0 e1 e2))) := by
  have ho := hd.one
  have hc := hd.cells
  have hlen := hd.len
  have w : IntKind.i64.wrap 3 = 3 := rfl
  obtain ⟨fl, br, dp, h1, h2⟩ := ana_Z (e0 := e0) (e1 := e1) (e2 := e2) hd hf hops hcl (e := e2.toNat) (by omega)
  have h3 := ana_falls h1
  have h4 := ana_safe h1
  rw [show ((e2.toNat : Nat) : Int) = e2 by omega] at h2 h3 h4
  have h5 := safe_Z fl br dp
  rw [h4] at h5
  simp only [pgD] at h2
  rw [← h3]
  cases fl with
  | true =>
    refine ⟨fun _ => ?_, fun h => by simp at h⟩
    rw [Z_loop_eq]
    simp [loopStep, run_F125l2, v2Fr, vS, List.range_succ, a, h2, ho, hc]
  | false =>
    refine ⟨fun h => by simp at h, fun _ => ?_⟩
    cases hs : safeB c e2 with
    | true =>
      rw [hs] at h5
      rw [Z_loop_eq]
      simp [loopStep, run_F125l2, v2Fr, vS, List.range_succ, a, h2, h5, w, ho, hc]
      refine Z_loop_cong ?_
      simp [List.range_succ, ho, hc]
    | false =>
      rw [hs] at h5
      rw [Z_loop_eq]
      simp [loopStep, run_F125l2, v2Fr, vS, List.range_succ, a, h2, h5, w, ho, hc]
      refine Z_loop_cong ?_
      simp [List.range_succ, ho, hc]
theorem v1_3 (hd : IsCode d c) : Z base15 (.loop 0 F125l1 (v1Fr e0 e1 e2 3) (vS d e0 e1 e2)) = some (.out (.exit 2) (v1Fr e0 e1 e2 3 ++ [(32, .bool false)]) (vS d e0 e1 e2)) := by
  rw [Z_loop_eq]
  simp [loopStep, run_F125l1, v1Fr, vS, List.range_succ, hd.one, hd.cells]
theorem v2_3 (hd : IsCode d c) (acc : Int) : Z base15 (.loop 0 F125l2 (v2Fr acc e0 e1 e2 3) (vS d e0 e1 e2)) = some (.out (.exit 4) (v2Fr acc e0 e1 e2 3 ++ [(47, .bool false)]) (vS d e0 e1 e2)) := by
  rw [Z_loop_eq]
  simp [loopStep, run_F125l2, v2Fr, vS, List.range_succ, hd.one, hd.cells]
theorem verV_cons (c : Cd) (e : Int) (r : List Int) (acc : Int) : verV c (e :: r) acc = if e < 0 then verV c r acc else if fallsB c e then 14 else verV c r (if safeB c e then acc else 15) := rfl
def Ends (d : D) (e0 e1 e2 : Int) (z : Option Res) (v : Int) : Prop := (v = 14 ∧ ∃ σ, z = some (.out .ret [(2, .int 14)] σ)) ∨ z = some (.out (.exit 4) (v2Fr v e0 e1 e2 3 ++ [(47, .bool false)]) (vS d e0 e1 e2))
theorem v2_all (hd : IsCode d c) (hf : Fits c) (hops : ∀ i, i < c.length → 1 ≤ opA c i ∧ opA c i ≤ 21) (hcl : c.length < 2^27) (h0 : e0 < c.length) (h1 : e1 < c.length) (h2 : e2 < c.length) :
    Ends d e0 e1 e2 (Z base15 (.loop 0 F125l2 (v2Fr 0 e0 e1 e2 0) (vS d e0 e1 e2))) (verV c [e0, e1, e2] 0) := by
  have r3 : ∀ acc, Ends d e0 e1 e2 (Z base15 (.loop 0 F125l2 (v2Fr acc e0 e1 e2 3) (vS d e0 e1 e2))) (verV c [] acc) := fun acc => .inr (v2_3 hd acc)
  have r2 : ∀ acc, Ends d e0 e1 e2 (Z base15 (.loop 0 F125l2 (v2Fr acc e0 e1 e2 2) (vS d e0 e1 e2))) (verV c [e2] acc) := fun acc => by
    rw [verV_cons]
    by_cases a : e2 < 0
    · rw [if_pos a, v2n_2 hd acc a]; exact r3 _
    · rw [if_neg a]
      obtain ⟨g1, g2⟩ := v2_2 (e0 := e0) (e1 := e1) hd hf hops hcl h2 acc a
      cases hfa : fallsB c e2 with
      | true => exact .inl ⟨rfl, g1 hfa⟩
      | false => rw [g2 hfa]; exact r3 _
  have r1 : ∀ acc, Ends d e0 e1 e2 (Z base15 (.loop 0 F125l2 (v2Fr acc e0 e1 e2 1) (vS d e0 e1 e2))) (verV c [e1, e2] acc) := fun acc => by
    rw [verV_cons]
    by_cases a : e1 < 0
    · rw [if_pos a, v2n_1 hd acc a]; exact r2 _
    · rw [if_neg a]
      obtain ⟨g1, g2⟩ := v2_1 (e0 := e0) (e2 := e2) hd hf hops hcl h1 acc a
      cases hfa : fallsB c e1 with
      | true => exact .inl ⟨rfl, g1 hfa⟩
      | false => rw [g2 hfa]; exact r2 _
  rw [verV_cons]
  by_cases a : e0 < 0
  · rw [if_pos a, v2n_0 hd 0 a]; exact r1 _
  · rw [if_neg a]
    obtain ⟨g1, g2⟩ := v2_0 (e1 := e1) (e2 := e2) hd hf hops hcl h0 0 a
    cases hfa : fallsB c e0 with
    | true => exact .inl ⟨rfl, g1 hfa⟩
    | false => rw [g2 hfa]; exact r1 _
theorem verify15 (hd : IsCode d c) (hcl : c.length < 2^27) : Z base15 (.call 125 [pgD d e0 e1 e2] []) = some (.ret (.int (verifyV c e0 e1 e2)) []) := by
  have ho := hd.one
  have hc := hd.cells
  have hlen := hd.len
  have hl0 := vloop15 (e0 := e0) (e1 := e1) (e2 := e2) hd hcl c.length 0 (by omega)
  refine Z_call (pf := F125) rfl rfl ?_
  unfold verifyV
  by_cases h4 : 400 < c.length
  · have h4' : (400 : Int) < c.length := by omega
    rw [if_pos h4]
    simp [F125, pgD, List.range_succ, hlen, ho, hc, h4']
  · have h4' : ¬ (400 : Int) < c.length := by omega
    rw [if_neg h4]
    cases hok : okC c c.length 0 with
    | false =>
      obtain ⟨σ, hl0⟩ := hl0.2 hok
      simp only [v0Fr, vS] at hl0
      rw [show ((0 : Nat) : Int) = 0 from rfl] at hl0
      simp [F125, pgD, List.range_succ, hlen, ho, hc, h4', hl0]
    | true =>
      have hl0 := hl0.1 hok
      simp only [v0Fr, vS] at hl0
      rw [show ((0 : Nat) : Int) = 0 from rfl] at hl0
      rw [Bool.true_and]
      have q0 := v1_0 (e0 := e0) (e1 := e1) (e2 := e2) hd hcl
      have q1 := v1_1 (e0 := e0) (e1 := e1) (e2 := e2) hd hcl
      have q2 := v1_2 (e0 := e0) (e1 := e1) (e2 := e2) hd hcl
      have q3 := v1_3 (e0 := e0) (e1 := e1) (e2 := e2) hd
      cases a0 : okE c e0 with
      | false =>
        rw [a0] at q0
        simp only [v1Fr, vS, Bool.false_eq_true, if_false] at q0
        simp [F125, pgD, List.range_succ, hlen, ho, hc, h4', hl0, q0]
      | true =>
        rw [a0, if_pos rfl] at q0
        rw [Bool.true_and]
        cases a1 : okE c e1 with
        | false =>
          rw [q1, a1] at q0
          simp only [v1Fr, vS, Bool.false_eq_true, if_false] at q0
          simp [F125, pgD, List.range_succ, hlen, ho, hc, h4', hl0, q0]
        | true =>
          rw [q1, a1, if_pos rfl] at q0
          rw [Bool.true_and]
          cases a2 : okE c e2 with
          | false =>
            rw [q2, a2] at q0
            simp only [v1Fr, vS, Bool.false_eq_true, if_false] at q0
            simp [F125, pgD, List.range_succ, hlen, ho, hc, h4', hl0, q0]
          | true =>
            rw [q2, a2, if_pos rfl, q3] at q0
            have b0 : e0 < c.length := by unfold okE at a0; simp at a0; omega
            have b1 : e1 < c.length := by unfold okE at a1; simp at a1; omega
            have b2 : e2 < c.length := by unfold okE at a2; simp at a2; omega
            have z := v2_all (e0 := e0) (e1 := e1) (e2 := e2) hd (okC_fits hok) (fun i hi => (okI_op (okC_all _ _ hok i (by omega) (by omega))).1) hcl b0 b1 b2
            rw [if_pos rfl]
            rcases z with ⟨z3, σ, z1⟩ | z1
            · rw [z3]
              simp only [v1Fr, v2Fr, vS] at q0 z1
              simp [F125, pgD, List.range_succ, hlen, ho, hc, h4', hl0, q0, z1]
            · simp only [v1Fr, v2Fr, vS] at q0 z1
              simp [F125, pgD, List.range_succ, hlen, ho, hc, h4', hl0, q0, z1]
end
end Go.Pm
end SN5
