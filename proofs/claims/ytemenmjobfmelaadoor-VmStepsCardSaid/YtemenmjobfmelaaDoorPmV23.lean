/- Chapter 16: code that is drawn. Chapter 16: which cells a step changes. Chapter 16: code that is drawn, the whole. -/
import Derived.Test.YtemenmjobfmelaaDoorPmV19
import Derived.Test.YtemenmjobfmelaaDoorPmV13
set_option linter.unusedSimpArgs false
set_option linter.unusedVariables false
section SV23
set_option linter.unusedSimpArgs false
set_option linter.unusedVariables false
namespace Go.Pm
open F
def pb7 : List D := [.lit (.int .i64 0), .lit (.int .i64 (-1)), .lit (.int .i64 2147483647), .lit (.int .i64 (-2147483647)), .lit (.int .i64 100000), .lit (.int .i64 3), .lit (.int .i64 2)]
theorem pb7_cut (i : Nat) (h : i < 7) : ∃ v, cutCells pb7 i 1 = some [.lit (.int .i64 v)] := by
  match i, h with
  | 0, _ => exact ⟨_, rfl⟩
  | 1, _ => exact ⟨_, rfl⟩
  | 2, _ => exact ⟨_, rfl⟩
  | 3, _ => exact ⟨_, rfl⟩
  | 4, _ => exact ⟨_, rfl⟩
  | 5, _ => exact ⟨_, rfl⟩
  | 6, _ => exact ⟨_, rfl⟩
def dFr (d : D) (i : Int) : Fr := [(0, .dat d), (2, .ptr 0 0), (3, .ptr 1 0), (4, .int i)]
def zero4 : Ob := .cells [.dat (.lit (.slice none 0 0)), .int 0, .int 0, .int 0]
def dS : List (Nat × Int) → S
  | [] => [zero4, zero4]
  | x :: c => [zero4, .cells [.gsl (codeC (x :: c)) (c.length + 1) 2 2, .int 0, .int 0, .int 0], .tip ((c.length + 1) * 2)]
theorem codeC_append (a b : List (Nat × Int)) : codeC (a ++ b) = codeC a ++ codeC b := by simp [codeC]
@[simp] theorem codeC_length (a : List (Nat × Int)) : (codeC a).length = a.length * 2 := by
  induction a with
  | nil => rfl
  | cons x a ih => simp only [codeC, List.flatMap_cons, List.length_append, List.length_cons, List.length_nil] at ih ⊢; omega
set_option maxHeartbeats 8000000 in
theorem dstep {d : D} {xs : List Int} (hd : IsRow d xs) (hx : ∀ x ∈ xs, I64 x) (c : List (Nat × Int)) (h1 : c.length < xs.length) (h2 : c.length < 20) :
    ∃ (o : Nat) (m : Int), 1 ≤ o ∧ o ≤ 21 ∧ Z prog16 (.loop 0 F48l0 (dFr d c.length) (dS c)) = Z prog16 (.loop 0 F48l0 (dFr d (c.length + 1 : Nat)) (dS (c ++ [(o, m)]))) := by
  obtain ⟨i, hi⟩ : ∃ i, c.length = i := ⟨_, rfl⟩
  rw [hi] at h1 h2 ⊢
  have m0 := hx _ (getN_mem (xs := xs) (i := i) (by omega))
  have a0 := around_Z m0 (m := 10000000) (by omega)
  have b0 := around_lt m0 (m := 10000000) (by omega)
  have c0 := cut1_intsC xs i (by omega)
  have e0 := hd.at_ i (by omega) (by omega)
  rw [show ((i : Int)).toNat = i by omega] at e0
  generalize around (getN xs i) 10000000 = n at a0 b0
  generalize getN xs i = x0 at *
  have r1 := tmod_rng b0.1 (m := 21) (by omega)
  have q7 := tdiv_rng b0.1 (m := 21) (by omega)
  have r7 := tmod_rng q7.1 (m := 7) (by omega)
  have r40 := tmod_rng q7.1 (m := 40) (by omega)
  obtain ⟨o, ho⟩ : ∃ o : Nat, 1 + n.tmod 21 = o := ⟨(1 + n.tmod 21).toNat, by omega⟩
  have w0 : wr (1 + n.tmod 21) = o := by rw [← ho]; exact wrap64 _ (by omega)
  have w1 := wrap64 ((i : Int) + 1) (by omega)
  have w3 := wrap64 ((n.tdiv 21).tmod 40 - 10) (by omega)
  have w4 := wrap64 (n.tdiv 21) (by omega)
  obtain ⟨v7, hv7⟩ := pb7_cut ((n.tdiv 21).tmod 7).toNat (by omega)
  have f7 := at_full pb7 7 true _ r7.1 r7.2
  have l1 : (i : Int) < xs.length := by omega
  have l2 : (i : Int) < 20 := by omega
  refine ⟨o, ?_⟩
  have ho1 : 1 ≤ o := by omega
  have ho2 : o ≤ 21 := by omega
  have key : ∃ m, Z prog16 (.loop 0 F48l0 (dFr d i) (dS c)) = Z prog16 (.loop 0 F48l0 (dFr d (i + 1 : Nat)) (dS (c ++ [(o, m)]))) := by
    simp only [pb7] at f7 hv7
    rw [Z_loop_eq]
    cases c with
    | nil =>
      clear hi
      have hr : roomFor 1 16 = true := by simp [roomFor]
      simp only [List.nil_append, dS, List.length_nil]
      rcases (by omega : o = 1 ∨ o = 18 ∨ o = 19 ∨ (¬ (o : Int) = 1 ∧ ¬ (o : Int) = 18 ∧ ¬ (o : Int) = 19)) with rfl | rfl | rfl | ⟨k1, k2, k3⟩
      · by_cases k4 : 2 < n.tmod 5 <;> by_cases k5 : n.tmod 97 = 5
        · refine ⟨(n.tdiv 21).tmod 40 - 10, ?_⟩
          simp [loopStep, run_F48l0, dFr, zero4, List.range_succ, hd.len, l1, l2, e0, c0, a0, w0, w1, w3, w4, f7, hv7, appendV, srcV, codeC, hr, k5, k4]
          refine Z_loop_cong ?_
          simp [List.range_succ]
        · refine ⟨v7, ?_⟩
          simp [loopStep, run_F48l0, dFr, zero4, List.range_succ, hd.len, l1, l2, e0, c0, a0, w0, w1, w3, w4, f7, hv7, appendV, srcV, codeC, hr, k5, k4]
          refine Z_loop_cong ?_
          simp [List.range_succ]
        · refine ⟨(n.tdiv 21).tmod 40 - 10, ?_⟩
          simp [loopStep, run_F48l0, dFr, zero4, List.range_succ, hd.len, l1, l2, e0, c0, a0, w0, w1, w3, w4, f7, hv7, appendV, srcV, codeC, hr, k5, k4]
          refine Z_loop_cong ?_
          simp [List.range_succ]
        · refine ⟨(n.tdiv 21).tmod 8, ?_⟩
          simp [loopStep, run_F48l0, dFr, zero4, List.range_succ, hd.len, l1, l2, e0, c0, a0, w0, w1, w3, w4, f7, hv7, appendV, srcV, codeC, hr, k5, k4]
          refine Z_loop_cong ?_
          simp [List.range_succ]
      · by_cases k5 : n.tmod 97 = 5
        · refine ⟨(n.tdiv 21).tmod 40 - 10, ?_⟩
          simp [loopStep, run_F48l0, dFr, zero4, List.range_succ, hd.len, l1, l2, e0, c0, a0, w0, w1, w3, w4, f7, hv7, appendV, srcV, codeC, hr, k5]
          refine Z_loop_cong ?_
          simp [List.range_succ]
        · refine ⟨(n.tdiv 21).tmod 22, ?_⟩
          simp [loopStep, run_F48l0, dFr, zero4, List.range_succ, hd.len, l1, l2, e0, c0, a0, w0, w1, w3, w4, f7, hv7, appendV, srcV, codeC, hr, k5]
          refine Z_loop_cong ?_
          simp [List.range_succ]
      · by_cases k5 : n.tmod 97 = 5
        · refine ⟨(n.tdiv 21).tmod 40 - 10, ?_⟩
          simp [loopStep, run_F48l0, dFr, zero4, List.range_succ, hd.len, l1, l2, e0, c0, a0, w0, w1, w3, w4, f7, hv7, appendV, srcV, codeC, hr, k5]
          refine Z_loop_cong ?_
          simp [List.range_succ]
        · refine ⟨(n.tdiv 21).tmod 22, ?_⟩
          simp [loopStep, run_F48l0, dFr, zero4, List.range_succ, hd.len, l1, l2, e0, c0, a0, w0, w1, w3, w4, f7, hv7, appendV, srcV, codeC, hr, k5]
          refine Z_loop_cong ?_
          simp [List.range_succ]
      · by_cases k5 : n.tmod 97 = 5
        · refine ⟨(n.tdiv 21).tmod 40 - 10, ?_⟩
          simp [loopStep, run_F48l0, dFr, zero4, List.range_succ, hd.len, l1, l2, e0, c0, a0, w0, w1, w3, w4, f7, hv7, appendV, srcV, codeC, hr, k5, k1, k2, k3]
          refine Z_loop_cong ?_
          simp [List.range_succ]
        · refine ⟨(n.tdiv 21).tmod 8, ?_⟩
          simp [loopStep, run_F48l0, dFr, zero4, List.range_succ, hd.len, l1, l2, e0, c0, a0, w0, w1, w3, w4, f7, hv7, appendV, srcV, codeC, hr, k5, k1, k2, k3]
          refine Z_loop_cong ?_
          simp [List.range_succ]
    | cons x c =>
      simp only [List.length_cons] at hi
      have hbl : (codeC (x :: c)).length = i * 2 := by simp; omega
      have hr : roomFor (i + 1) 16 = true := by simp [roomFor]; omega
      have hap : ∀ m : Int, codeC (x :: (c ++ [(o, m)])) = codeC (x :: c) ++ [.lit (.int .i64 o), .lit (.int .i64 m)] := fun m => codeC_append (x :: c) [(o, m)]
      simp only [List.cons_append, dS, hap, List.length_append, List.length_cons, List.length_nil, Nat.zero_add, hi]
      generalize codeC (x :: c) = B at *
      rcases (by omega : o = 1 ∨ o = 18 ∨ o = 19 ∨ (¬ (o : Int) = 1 ∧ ¬ (o : Int) = 18 ∧ ¬ (o : Int) = 19)) with rfl | rfl | rfl | ⟨k1, k2, k3⟩
      · by_cases k4 : 2 < n.tmod 5 <;> by_cases k5 : n.tmod 97 = 5
        · refine ⟨(n.tdiv 21).tmod 40 - 10, ?_⟩
          simp [loopStep, run_F48l0, dFr, zero4, List.range_succ, hd.len, l1, l2, e0, c0, a0, w0, w1, w3, w4, f7, hv7, appendV, srcV, codeC, hbl, hr, k5, k4]
          refine Z_loop_cong ?_
          simp [List.range_succ]
          omega
        · refine ⟨v7, ?_⟩
          simp [loopStep, run_F48l0, dFr, zero4, List.range_succ, hd.len, l1, l2, e0, c0, a0, w0, w1, w3, w4, f7, hv7, appendV, srcV, codeC, hbl, hr, k5, k4]
          refine Z_loop_cong ?_
          simp [List.range_succ]
          omega
        · refine ⟨(n.tdiv 21).tmod 40 - 10, ?_⟩
          simp [loopStep, run_F48l0, dFr, zero4, List.range_succ, hd.len, l1, l2, e0, c0, a0, w0, w1, w3, w4, f7, hv7, appendV, srcV, codeC, hbl, hr, k5, k4]
          refine Z_loop_cong ?_
          simp [List.range_succ]
          omega
        · refine ⟨(n.tdiv 21).tmod 8, ?_⟩
          simp [loopStep, run_F48l0, dFr, zero4, List.range_succ, hd.len, l1, l2, e0, c0, a0, w0, w1, w3, w4, f7, hv7, appendV, srcV, codeC, hbl, hr, k5, k4]
          refine Z_loop_cong ?_
          simp [List.range_succ]
          omega
      · by_cases k5 : n.tmod 97 = 5
        · refine ⟨(n.tdiv 21).tmod 40 - 10, ?_⟩
          simp [loopStep, run_F48l0, dFr, zero4, List.range_succ, hd.len, l1, l2, e0, c0, a0, w0, w1, w3, w4, f7, hv7, appendV, srcV, codeC, hbl, hr, k5]
          refine Z_loop_cong ?_
          simp [List.range_succ]
          omega
        · refine ⟨(n.tdiv 21).tmod 22, ?_⟩
          simp [loopStep, run_F48l0, dFr, zero4, List.range_succ, hd.len, l1, l2, e0, c0, a0, w0, w1, w3, w4, f7, hv7, appendV, srcV, codeC, hbl, hr, k5]
          refine Z_loop_cong ?_
          simp [List.range_succ]
          omega
      · by_cases k5 : n.tmod 97 = 5
        · refine ⟨(n.tdiv 21).tmod 40 - 10, ?_⟩
          simp [loopStep, run_F48l0, dFr, zero4, List.range_succ, hd.len, l1, l2, e0, c0, a0, w0, w1, w3, w4, f7, hv7, appendV, srcV, codeC, hbl, hr, k5]
          refine Z_loop_cong ?_
          simp [List.range_succ]
          omega
        · refine ⟨(n.tdiv 21).tmod 22, ?_⟩
          simp [loopStep, run_F48l0, dFr, zero4, List.range_succ, hd.len, l1, l2, e0, c0, a0, w0, w1, w3, w4, f7, hv7, appendV, srcV, codeC, hbl, hr, k5]
          refine Z_loop_cong ?_
          simp [List.range_succ]
          omega
      · by_cases k5 : n.tmod 97 = 5
        · refine ⟨(n.tdiv 21).tmod 40 - 10, ?_⟩
          simp [loopStep, run_F48l0, dFr, zero4, List.range_succ, hd.len, l1, l2, e0, c0, a0, w0, w1, w3, w4, f7, hv7, appendV, srcV, codeC, hbl, hr, k5, k1, k2, k3]
          refine Z_loop_cong ?_
          simp [List.range_succ]
          omega
        · refine ⟨(n.tdiv 21).tmod 8, ?_⟩
          simp [loopStep, run_F48l0, dFr, zero4, List.range_succ, hd.len, l1, l2, e0, c0, a0, w0, w1, w3, w4, f7, hv7, appendV, srcV, codeC, hbl, hr, k5, k1, k2, k3]
          refine Z_loop_cong ?_
          simp [List.range_succ]
          omega
  obtain ⟨m, e⟩ := key
  exact ⟨m, ho1, ho2, e⟩
end Go.Pm
end SV23
section SV24
set_option linter.unusedSimpArgs false
set_option linter.unusedVariables false
namespace Go.Pm
open F
theorem getN_set_ne {cs : List Int} {i v : Int} {j : Nat} (h : i.toNat ≠ j) : getN (setI cs i v) j = getN cs j := by
  simp only [getN, setI, List.getD_eq_getElem?_getD]
  rw [List.getElem?_set_ne h]
theorem getN_set_eq {cs : List Int} {i v : Int} {j : Nat} (h : i.toNat = j) (hj : j < cs.length) : getN (setI cs i v) j = v := by
  subst h
  simp [getN, setI, List.getD_eq_getElem?_getD, hj]
/-- The further cell that an instruction sets. -/
def plc (s : Su) (cs : List Int) (op : Nat) (n a : Int) : Int :=
  match op with
  | 3 => 32 + n
  | 5 => bodyI s a + n
  | _ => 16 + getI cs 7 - popsN op
theorem preC_keep {cs : List Int} {op : Nat} {j : Nat} (h6 : j ≠ 6) (h7 : j ≠ 7) (h8 : j ≠ 8) : getN (preC cs op) j = getN cs j := by
  have e6 : (6 : Int).toNat ≠ j := by simp; omega
  have e7 : (7 : Int).toNat ≠ j := by simp; omega
  have e8 : (8 : Int).toNat ≠ j := by simp; omega
  unfold preC
  split
  · rw [getN_set_ne e6, getN_set_ne e8]
  · rw [getN_set_ne e7, getN_set_ne e6, getN_set_ne e8]
theorem preC_8 {cs : List Int} {op : Nat} (h : 8 < cs.length) : getN (preC cs op) 8 = wr (getI cs 8 - 1) := by
  unfold preC
  split
  · rw [getN_set_ne (by simp), getN_set_eq (i := 8) (j := 8) (by decide) h]
  · rw [getN_set_ne (by simp), getN_set_ne (by simp), getN_set_eq (i := 8) (j := 8) (by decide) h]
theorem exC_keep {s : Su} {cs cs0 : List Int} {op : Nat} {n a b : Int} {j : Nat} (h6 : j ≠ 6) (h11 : exB cs op = false ∨ (j ≠ 11 ∧ j ≠ 12)) (hp : op = 3 ∨ (op = 5 ∧ 0 ≤ bodyI s a) → (plc s cs0 op n a).toNat ≠ j) : getN (exC s cs op n a b) j = getN cs j := by
  have e6 : (6 : Int).toNat ≠ j := by simp; omega
  unfold exC
  split
  · exact getN_set_ne (hp (.inl rfl))
  · split
    · rfl
    · exact getN_set_ne (hp (.inr ⟨rfl, by omega⟩))
  · exact getN_set_ne e6
  · split
    · exact getN_set_ne e6
    · rfl
  · split
    · rfl
    · rename_i h
      rcases h11 with h11 | ⟨h11, h12⟩
      · simp [exB] at h11; omega
      · rw [getN_set_ne (by simp; omega), getN_set_ne (by simp; omega)]
  · rfl
theorem postC_keep {s : Su} {cs : List Int} {op : Nat} {n : Int} {j : Nat} (h6 : j ≠ 6) (h7 : j ≠ 7) (h8 : j ≠ 8) (h11 : exB (preC cs op) op = false ∨ (j ≠ 11 ∧ j ≠ 12)) (hp : op = 3 ∨ (op = 5 ∧ 0 ≤ bodyI s (popA cs op)) ∨ pushN op ≠ 0 → (plc s cs op n (popA cs op)).toNat ≠ j) :
    getN (postC s cs op n) j = getN cs j := by
  have e := exC_keep (s := s) (cs := preC cs op) (cs0 := cs) (op := op) (n := n) (a := popA cs op) (b := popB cs op) (j := j) h6 h11 (fun h => hp (by rcases h with h | h; exact .inl h; exact .inr (.inl h)))
  unfold postC
  split
  · rw [e, preC_keep h6 h7 h8]
  · rename_i h
    have hh := hp (.inr (.inr h))
    have : plc s cs op n (popA cs op) = 16 + getI cs 7 - popsN op := by
      unfold plc; split
      · simp [pushN] at h
      · simp [pushN] at h
      · rfl
    rw [this] at hh
    rw [getN_set_ne hh, e, preC_keep h6 h7 h8]
theorem bodyI_low {s : Su} {a : Int} (h : 0 ≤ bodyI s a) : 48 + 4 * (s.p : Int) ≤ bodyI s a ∧ bodyI s a + 8 ≤ s.n := by
  unfold bodyI at h ⊢
  split at h
  · omega
  · rename_i h1
    rw [if_neg h1]
    unfold Su.n
    omega
theorem plc_rng {s : Su} (hs : s.ok) {c : List (Nat × Int)} {cs : List Int} {op : Nat} {n sp : Int} (h : exOk op n (getI cs 7) = true) (hu : op = 3 ∨ (op = 5 ∧ 0 ≤ bodyI s (popA cs op)) ∨ pushN op ≠ 0) :
    let P := plc s cs op n (popA cs op)
    (16 ≤ P ∧ P < 48) ∨ (48 + 4 * (s.p : Int) ≤ P ∧ P < s.n) := by
  obtain ⟨h1, h2, h3, h4⟩ := exOk_spec h
  have hp := pops_le op
  simp only
  unfold plc
  split
  · left; simp [operN] at h4; omega
  · right
    simp [operN] at h4
    rcases hu with hu | hu | hu
    · simp at hu
    · have := bodyI_low hu.2; omega
    · simp [pushN] at hu
  · left
    have : pushN op ≠ 0 := by
      rcases hu with rfl | hu | hu
      · simp at *
      · obtain ⟨rfl, _⟩ := hu; simp at *
      · exact hu
    omega
theorem postC_8 {s : Su} (hs : s.ok) {cs : List Int} {op : Nat} {n : Int} (hl : 48 ≤ cs.length) (h : exOk op n (getI cs 7) = true) : getN (postC s cs op n) 8 = wr (getI cs 8 - 1) := by
  have hr := plc_rng hs (c := []) (sp := 0) h
  simp only at hr
  have e := exC_keep (s := s) (cs := preC cs op) (cs0 := cs) (op := op) (n := n) (a := popA cs op) (b := popB cs op) (j := 8) (by omega) (.inr ⟨by omega, by omega⟩) (fun h => by
    have := hr (by rcases h with h | h; exact .inl h; exact .inr (.inl h)); omega)
  unfold postC
  split
  · rw [e, preC_8 (by omega)]
  · rename_i h0
    have hh := hr (.inr (.inr h0))
    have hpl : plc s cs op n (popA cs op) = 16 + getI cs 7 - popsN op := by
      unfold plc; split
      · simp [pushN] at h0
      · simp [pushN] at h0
      · rfl
    rw [hpl] at hh
    rw [getN_set_ne (by omega), e, preC_8 (by omega)]
theorem stepR_fuel {s : Su} (hs : s.ok) {c : List (Nat × Int)} {cs : List Int} (hl : 48 ≤ cs.length) (h : (stepR s c cs).ended = false) : 1 ≤ getI cs 8 ∧ getI (stepR s c cs).cs 8 = wr (getI cs 8 - 1) := by
  cases hcan : canStep c cs with
  | false => rw [stepR_no hcan] at h; simp at h
  | true =>
    have e : stepR s c cs = ⟨postC s cs (insAt c (getI cs 6)).1 (insAt c (getI cs 6)).2, decide (((insAt c (getI cs 6)).1 : Int) = 21), exE (preC cs (insAt c (getI cs 6)).1) (insAt c (getI cs 6)).1 (popA cs (insAt c (getI cs 6)).1) (popB cs (insAt c (getI cs 6)).1), exB (preC cs (insAt c (getI cs 6)).1) (insAt c (getI cs 6)).1⟩ := by
      unfold stepR; rw [if_pos hcan]
    rw [e]
    simp only [canStep, Bool.and_eq_true, Bool.not_eq_true', Bool.or_eq_false_iff, decide_eq_false_iff_not] at hcan
    exact ⟨by omega, postC_8 hs hl hcan.2⟩
/-- A step on a memory with a log. -/
theorem any1 (s : Su) (c : List (Nat × Int)) (f : Bool) (e0 e1 e2 : Int) (cs : List Int) (N : Nat) (lg : List D) (k : Nat) (hl : lg.length = k * 2) (hk : k < 2^28) (hs : s.ok) (hN : cs.length = N) (h : N = s.n) (hc : ∀ x ∈ c, 1 ≤ x.1 ∧ x.1 ≤ 21) (hcl : c.length < 2^30) :
    ∃ lg' k', lg'.length = k' * 2 ∧ k' ≤ k + 6 ∧ Z prog16 (.call 52 [.iface 0 (.ptr 0 0), s.d, progD f c e0 e1 e2] (mem1 cs N lg k (k * 2))) = some (.ret (stepR s c cs).v (mem1 (stepR s c cs).cs N lg' k' (k' * 2))) := by
  have h48 : 48 ≤ N := by rw [h]; unfold Su.n; omega
  cases hcan : canStep c cs with
  | true => exact exec1_Z s c f e0 e1 e2 cs N lg k hl hk hs hN h hc hcl hcan
  | false =>
    refine ⟨lg, k, hl, by omega, ?_⟩
    have := idle1_Z s c f e0 e1 e2 cs N lg k hl hk hN h48 hc hcl hcan
    rw [this, stepR_no hcan]
/-- A step on a memory with no log. -/
theorem any0 (s : Su) (c : List (Nat × Int)) (f : Bool) (e0 e1 e2 : Int) (cs : List Int) (N : Nat) (hs : s.ok) (hN : cs.length = N) (h : N = s.n) (hc : ∀ x ∈ c, 1 ≤ x.1 ∧ x.1 ≤ 21) (hcl : c.length < 2^30) :
    (stepR s c cs = ⟨cs, true, [0, 0, 0, 0], false⟩ ∧ Z prog16 (.call 52 [.iface 0 (.ptr 0 0), s.d, progD f c e0 e1 e2] (mem0 cs N)) = some (.ret (stepR s c cs).v (mem0 cs N))) ∨
    ∃ lg' k', lg'.length = k' * 2 ∧ k' ≤ 6 ∧ Z prog16 (.call 52 [.iface 0 (.ptr 0 0), s.d, progD f c e0 e1 e2] (mem0 cs N)) = some (.ret (stepR s c cs).v (mem1 (stepR s c cs).cs N lg' k' (k' * 2))) := by
  have h48 : 48 ≤ N := by rw [h]; unfold Su.n; omega
  cases hcan : canStep c cs with
  | true => exact .inr (exec0_Z s c f e0 e1 e2 cs N hs hN h hc hcl hcan)
  | false => exact .inl ⟨stepR_no hcan, idle0_Z s c f e0 e1 e2 cs N hN h48 hc hcl hcan⟩
end Go.Pm
end SV24
section SV25
set_option linter.unusedSimpArgs false
set_option linter.unusedVariables false
namespace Go.Pm
open F
theorem len_gsl (σ : S) (cs : List D) (n sz l : Nat) : V.len σ .sl (.gsl cs n sz l) = some n := rfl
theorem len_nil (σ : S) : V.len σ .sl (.dat (.lit (.slice none 0 0))) = some 0 := rfl
theorem dlast {d : D} {xs : List Int} (hd : IsRow d xs) (c : List (Nat × Int)) (h : ¬ (c.length < xs.length ∧ c.length < 20)) :
    Z prog16 (.loop 0 F48l0 (dFr d c.length) (dS c)) = some (.out (.exit 0) (dFr d c.length ++ [(15, .bool false)]) (dS c)) := by
  rw [Z_loop_eq]
  by_cases h1 : (c.length : Int) < xs.length
  · have h2 : ¬ (c.length : Int) < 20 := by omega
    cases c with
    | nil => simp at h2
    | cons x c =>
      simp only [List.length_cons] at h1 h2 ⊢
      generalize hq : c.length + 1 = q at *
      simp [loopStep, run_F48l0, dFr, dS, zero4, hq, List.range_succ, hd.len, h1, h2]
  · cases c with
    | nil =>
      have h0 : xs = [] := by simp only [List.length_nil] at h1; exact List.length_eq_zero_iff.1 (by omega)
      subst h0
      simp [loopStep, run_F48l0, dFr, dS, zero4, List.range_succ, hd.len]
    | cons x c =>
      simp only [List.length_cons] at h1 ⊢
      generalize hq : c.length + 1 = q at *
      simp [loopStep, run_F48l0, dFr, dS, zero4, hq, List.range_succ, hd.len, h1]
theorem dloop {d : D} {xs : List Int} (hd : IsRow d xs) (hx : ∀ x ∈ xs, I64 x) (m : Nat) : ∀ c : List (Nat × Int), (∀ x ∈ c, 1 ≤ x.1 ∧ x.1 ≤ 21) → c.length ≤ 20 → 20 ≤ c.length + m →
    ∃ c', (∀ x ∈ c', 1 ≤ x.1 ∧ x.1 ≤ 21) ∧ c'.length ≤ 20 ∧ Z prog16 (.loop 0 F48l0 (dFr d c.length) (dS c)) = some (.out (.exit 0) (dFr d c'.length ++ [(15, .bool false)]) (dS c')) := by
  induction m with
  | zero => intro c hc h1 h2; exact ⟨c, hc, h1, dlast hd c (by omega)⟩
  | succ m ih =>
    intro c hc h1 h2
    by_cases h : c.length < xs.length ∧ c.length < 20
    · obtain ⟨o, n, o1, o2, e⟩ := dstep hd hx c h.1 h.2
      obtain ⟨c', a1, a2, a3⟩ := ih (c ++ [(o, n)]) (by
        intro x hxm
        rcases List.mem_append.1 hxm with hm | hm
        · exact hc x hm
        · simp only [List.mem_singleton] at hm; subst hm; exact ⟨o1, o2⟩) (by simp; omega) (by simp; omega)
      refine ⟨c', a1, a2, ?_⟩
      rw [e]
      simpa using a3
    · exact ⟨c, hc, h1, dlast hd c h⟩
def eFr (d : D) (i : Int) : Fr := [(0, .dat d), (2, .ptr 0 0), (3, .ptr 1 0), (7, .int i)]
def eS (e0 e1 e2 : Int) : List (Nat × Int) → S
  | [] => [zero4, .cells [.dat (.lit (.slice none 0 0)), .int e0, .int e1, .int e2]]
  | x :: c => [zero4, .cells [.gsl (codeC (x :: c)) (c.length + 1) 2 2, .int e0, .int e1, .int e2], .tip ((c.length + 1) * 2)]
def entV (n L : Nat) (i : Int) : Int := wr (wr ((wr (i * n)).tdiv 3) - wr (flagI (decide ((L : Int).tmod 4 = i)) * L))
set_option maxHeartbeats 4000000 in
theorem estep {d : D} {xs : List Int} (hd : IsRow d xs) (c : List (Nat × Int)) (e0 e1 e2 : Int) : 
    Z prog16 (.loop 0 F48l1 (eFr d 0) (eS e0 e1 e2 c)) = Z prog16 (.loop 0 F48l1 (eFr d 1) (eS (entV c.length xs.length 0) e1 e2 c)) ∧
    Z prog16 (.loop 0 F48l1 (eFr d 1) (eS e0 e1 e2 c)) = Z prog16 (.loop 0 F48l1 (eFr d 2) (eS e0 (entV c.length xs.length 1) e2 c)) ∧
    Z prog16 (.loop 0 F48l1 (eFr d 2) (eS e0 e1 e2 c)) = Z prog16 (.loop 0 F48l1 (eFr d 3) (eS e0 e1 (entV c.length xs.length 2) c)) ∧
    Z prog16 (.loop 0 F48l1 (eFr d 3) (eS e0 e1 e2 c)) = some (.out (.exit 2) (eFr d 3 ++ [(72, .bool false)]) (eS e0 e1 e2 c)) := by
  have w1 : wr 1 = 1 := rfl
  have w2 : wr 2 = 2 := rfl
  have w3 : wr 3 = 3 := rfl
  cases c with
  | nil =>
    simp only [eS, zero4, entV, List.length_nil]
    refine ⟨?_, ?_, ?_, ?_⟩
    · rw [Z_loop_eq]
      simp [loopStep, run_F48l1, eFr, List.range_succ, hd.len, rflag_Z, calm, alone, len_nil, w1, w2, w3]
    · rw [Z_loop_eq]
      simp [loopStep, run_F48l1, eFr, List.range_succ, hd.len, rflag_Z, calm, alone, len_nil, w1, w2, w3]
    · rw [Z_loop_eq]
      simp [loopStep, run_F48l1, eFr, List.range_succ, hd.len, rflag_Z, calm, alone, len_nil, w1, w2, w3]
    · rw [Z_loop_eq]
      simp [loopStep, run_F48l1, eFr, List.range_succ, hd.len, rflag_Z, calm, alone, len_nil, w1, w2, w3]
  | cons x c =>
    simp only [eS, zero4, entV, List.length_cons]
    generalize codeC (x :: c) = B
    generalize c.length + 1 = q
    refine ⟨?_, ?_, ?_, ?_⟩
    · rw [Z_loop_eq]
      simp [loopStep, run_F48l1, eFr, List.range_succ, hd.len, rflag_Z, calm, alone, len_gsl, w1, w2, w3]
    · rw [Z_loop_eq]
      simp [loopStep, run_F48l1, eFr, List.range_succ, hd.len, rflag_Z, calm, alone, len_gsl, w1, w2, w3]
    · rw [Z_loop_eq]
      simp [loopStep, run_F48l1, eFr, List.range_succ, hd.len, rflag_Z, calm, alone, len_gsl, w1, w2, w3]
    · rw [Z_loop_eq]
      simp [loopStep, run_F48l1, eFr, List.range_succ, hd.len, rflag_Z, calm, alone, len_gsl, w1, w2, w3]
theorem code_Z {d : D} {xs : List Int} (hd : IsRow d xs) (hx : ∀ x ∈ xs, I64 x) :
    ∃ c e0 e1 e2, c.length ≤ 20 ∧ (∀ x ∈ c, 1 ≤ x.1 ∧ x.1 ≤ 21) ∧ Z prog16 (.call 48 [.dat d] []) = some (.ret (progD false c e0 e1 e2) []) := by
  obtain ⟨c, a1, a2, a3⟩ := dloop hd hx 20 [] (by simp) (by simp) (by simp)
  have b0 := (estep hd c 0 0 0).1
  have b1 := (estep hd c (entV c.length xs.length 0) 0 0).2.1
  have b2 := (estep hd c (entV c.length xs.length 0) (entV c.length xs.length 1) 0).2.2.1
  have b3 := (estep hd c (entV c.length xs.length 0) (entV c.length xs.length 1) (entV c.length xs.length 2)).2.2.2
  have b := b0.trans (b1.trans (b2.trans b3))
  generalize entV c.length xs.length 0 = e0 at *
  generalize entV c.length xs.length 1 = e1 at *
  generalize entV c.length xs.length 2 = e2 at *
  clear b0 b1 b2 b3
  refine ⟨c, e0, e1, e2, a2, a1, ?_⟩
  refine Z_call (pf := F48) rfl rfl ?_
  rw [show ((([] : List (Nat × Int)).length : Nat) : Int) = 0 from rfl] at a3
  cases c with
  | nil =>
    simp only [dFr, dS, zero4] at a3
    simp only [eFr, eS, zero4] at b
    simp [F48, a3, b, List.range_succ, progD, codeD]
  | cons x c =>
    simp only [dFr, dS, zero4] at a3
    simp only [eFr, eS, zero4] at b
    simp only [codeD, progD]
    simp [F48, a3, b, List.range_succ]
end Go.Pm
end SV25
