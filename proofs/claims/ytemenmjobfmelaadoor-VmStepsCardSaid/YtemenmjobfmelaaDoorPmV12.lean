/- Chapter 16: one step, as a function of the cells. -/
import Derived.Test.YtemenmjobfmelaaDoorPmV11
set_option linter.unusedSimpArgs false
set_option linter.unusedVariables false
section SV12
set_option linter.unusedSimpArgs false
set_option linter.unusedVariables false
namespace Go.Pm
open F
def insAt (c : List (Nat × Int)) (pc : Int) : Nat × Int := c.getD pc.toNat (0, 0)
/-- What an instruction pops. -/
def popA (cs : List Int) (op : Nat) : Int := if popsN op = 0 then 0 else getI cs (16 + getI cs 7 - popsN op)
def popB (cs : List Int) (op : Nat) : Int := if popsN op = 2 then getI cs (16 + getI cs 7 - popsN op + 1) else 0
/-- The cells ahead of the instruction's own work. -/
def preC (cs : List Int) (op : Nat) : List Int :=
  if popsN op = pushN op then setI (setI cs 8 (wr (getI cs 8 - 1))) 6 (wr (getI cs 6 + 1))
  else setI (setI (setI cs 8 (wr (getI cs 8 - 1))) 6 (wr (getI cs 6 + 1))) 7 (getI cs 7 - popsN op + pushN op)
def postC (s : Su) (cs : List Int) (op : Nat) (n : Int) : List Int :=
  if pushN op = 0 then exC s (preC cs op) op n (popA cs op) (popB cs op)
  else setI (exC s (preC cs op) op n (popA cs op) (popB cs op)) (16 + getI cs 7 - popsN op) (exV s (preC cs op) op n (popA cs op) (popB cs op))
/-- May the next instruction be executed? -/
def canStep (c : List (Nat × Int)) (cs : List Int) : Bool :=
  !(decide (getI cs 8 < 1) || (decide (getI cs 6 < 0) || decide ((c.length : Int) ≤ getI cs 6))) && exOk (insAt c (getI cs 6)).1 (insAt c (getI cs 6)).2 (getI cs 7)
structure StR where
  cs : List Int
  ended : Bool
  e : List Int
  em : Bool
def stepR (s : Su) (c : List (Nat × Int)) (cs : List Int) : StR :=
  if canStep c cs then
    let x := insAt c (getI cs 6)
    ⟨postC s cs x.1 x.2, decide ((x.1 : Int) = 21), exE (preC cs x.1) x.1 (popA cs x.1) (popB cs x.1), exB (preC cs x.1) x.1⟩
  else ⟨cs, true, [0, 0, 0, 0], false⟩
def StR.v (r : StR) : V := .tup [.bool r.ended, .dat (.agg (intsC r.e)), .bool r.em]
@[simp] theorem preC_length (cs : List Int) (op : Nat) : (preC cs op).length = cs.length := by unfold preC; split <;> simp
theorem exC_length (s : Su) (cs : List Int) (op : Nat) (n a b : Int) : (exC s cs op n a b).length = cs.length := by
  unfold exC; split <;> (try split) <;> simp
theorem postC_length (s : Su) (cs : List Int) (op : Nat) (n : Int) : (postC s cs op n).length = cs.length := by
  unfold postC; split <;> simp [exC_length]
theorem stepR_length (s : Su) (c : List (Nat × Int)) (cs : List Int) : (stepR s c cs).cs.length = cs.length := by
  unfold stepR; split
  · exact postC_length _ _ _ _
  · rfl
theorem exE_four (cs : List Int) (op : Nat) (a b : Int) : ∃ x1 x2 x3 x4, exE cs op a b = [x1, x2, x3, x4] := by
  unfold exE; split <;> exact ⟨_, _, _, _, rfl⟩
theorem exOk_spec {op : Nat} {n sp : Int} (h : exOk op n sp = true) : sp ≤ 16 ∧ (popsN op : Int) ≤ sp ∧ sp - popsN op + pushN op ≤ 16 ∧ (operN op = 0 ∨ (0 ≤ n ∧ n < operN op)) := by
  simpa [exOk] using h
theorem ent_length (cs : List Int) (i : Int) : (ent cs i).length = 2 := rfl
theorem exec0_Z (s : Su) (c : List (Nat × Int)) (f : Bool) (e0 e1 e2 : Int) (cs : List Int) (N : Nat) (hs : s.ok) (hN : cs.length = N) (h : N = s.n) (hc : ∀ x ∈ c, 1 ≤ x.1 ∧ x.1 ≤ 21) (hcl : c.length < 2^30) (hcan : canStep c cs = true) :
    ∃ lg' k', lg'.length = k' * 2 ∧ k' ≤ 6 ∧ Z prog16 (.call 52 [.iface 0 (.ptr 0 0), s.d, progD f c e0 e1 e2] (mem0 cs N)) = some (.ret (stepR s c cs).v (mem1 (stepR s c cs).cs N lg' k' (k' * 2))) := by
  have h48 : 48 ≤ N := by rw [h]; unfold Su.n; omega
  have hN1 : N < 1000 := by have := hs.p3; have := hs.b5; rw [h]; unfold Su.n; omega
  unfold stepR
  rw [if_pos hcan]
  simp only [canStep, Bool.and_eq_true, Bool.not_eq_true', Bool.or_eq_false_iff, decide_eq_false_iff_not] at hcan
  obtain ⟨⟨hf, hp0, hp1⟩, hx⟩ := hcan
  have hi : (getI cs 6).toNat < c.length := by omega
  have hins : insAt c (getI cs 6) = c[(getI cs 6).toNat] := by simp [insAt, List.getD_eq_getElem?_getD, hi]
  have hmem := hc _ (List.getElem_mem hi)
  have hcut := cut2_codeC c _ hi
  have hat := at_codeD f c (getI cs 6) (by omega) (by omega)
  rw [← hins] at hmem hcut
  generalize insAt c (getI cs 6) = ins at *
  obtain ⟨op, n⟩ := ins
  simp only at hmem hcut hx ⊢
  obtain ⟨q1, q2, q3, q4⟩ := exOk_spec hx
  have hexe := exe_Z op n (getI cs 7) hmem.1 hmem.2
  rw [hx] at hexe
  have c0 := eff0 op hmem.1 hmem.2
  have c1 := eff1 op hmem.1 hmem.2
  have wa := wrap64 (16 + getI cs 7) (by omega)
  have hop : (op : Int) < 22 := by omega
  have hp2 := pops_le op
  have hu2 := push_le op
  obtain ⟨x1, x2, x3, x4, hE⟩ := exE_four (preC cs op) op (popA cs op) (popB cs op)
  have s8 := set0_Z (cs := cs) (n := N) (i := 8) (v := wr (getI cs 8 - 1)) hN (by omega) (by omega)
  have s6 := set1_Z (cs := setI cs 8 (wr (getI cs 8 - 1))) (n := N) (lg := ent cs 8) (k := 1) (i := 6) (v := wr (getI cs 6 + 1)) (by simp [hN]) (by omega) (by omega) (by simp [ent_length]) (by omega)
  obtain ⟨p, hpp⟩ : ∃ p, popsN op = p := ⟨_, rfl⟩
  obtain ⟨q, hqq⟩ : ∃ q, pushN op = q := ⟨_, rfl⟩
  simp only [hpp, hqq] at q2 q3 c0 c1 hp2 hu2
  by_cases hPQ : p = 0 ∧ q = 0
  · obtain ⟨rfl, rfl⟩ := hPQ
    have eA : popA cs op = 0 := by simp [popA, hpp]
    have eB : popB cs op = 0 := by simp [popB, hpp]
    have eP : preC cs op = (setI (setI cs 8 (wr (getI cs 8 - 1))) 6 (wr (getI cs 6 + 1))) := by simp [preC, hpp, hqq]
    rw [eA, eB] at hE
    obtain ⟨lg', k', hl', hk', hex⟩ := ex_Z s (preC cs op) N ((ent cs 8) ++ ent (setI cs 8 (wr (getI cs 8 - 1))) 6) (2) op n (0) (0) hs (by simp only [preC_length, hN]) h (by simp [ent_length]) (by omega) hmem.1 hmem.2 q4
    rw [hE] at hex
    have ePost : postC s cs op n = (exC s (preC cs op) op n (0) (0)) := by simp [postC, hpp, hqq, eA, eB]
    rw [ePost, eA, eB, StR.v, hE]
    refine ⟨lg', k', hl', by omega, ?_⟩
    rw [eP] at hex ⊢
    exact step0_00 (get0_Z hN (by omega) (by omega)) (get0_Z hN (by omega) (by omega)) (get0_Z hN (by omega) (by omega)) hf hp0 hp1 hat hcut hexe hop c0 c1 wa rfl wa rfl rfl s8 s6 hex
  by_cases hPQ : p = 0 ∧ q = 1
  · obtain ⟨rfl, rfl⟩ := hPQ
    have eA : popA cs op = 0 := by simp [popA, hpp]
    have eB : popB cs op = 0 := by simp [popB, hpp]
    have eP : preC cs op = (setI (setI (setI cs 8 (wr (getI cs 8 - 1))) 6 (wr (getI cs 6 + 1))) 7 (getI cs 7 + 1)) := by simp [preC, hpp, hqq]
    have s7 := set1_Z (cs := (setI (setI cs 8 (wr (getI cs 8 - 1))) 6 (wr (getI cs 6 + 1)))) (n := N) (lg := (ent cs 8) ++ ent (setI cs 8 (wr (getI cs 8 - 1))) 6) (k := 2) (i := 7) (v := (getI cs 7 + 1)) (by simp [hN]) (by omega) (by omega) (by simp [ent_length]) (by omega)
    rw [eA, eB] at hE
    obtain ⟨lg', k', hl', hk', hex⟩ := ex_Z s (preC cs op) N (((ent cs 8) ++ ent (setI cs 8 (wr (getI cs 8 - 1))) 6) ++ ent (setI (setI cs 8 (wr (getI cs 8 - 1))) 6 (wr (getI cs 6 + 1))) 7) (3) op n (0) (0) hs (by simp only [preC_length, hN]) h (by simp [ent_length]) (by omega) hmem.1 hmem.2 q4
    rw [hE] at hex
    have sv := set1_Z (cs := (exC s (preC cs op) op n (0) (0))) (n := N) (lg := lg') (k := k') (i := (16 + getI cs 7)) (v := (exV s (preC cs op) op n (0) (0))) (by simp [exC_length, hN]) (by omega) (by omega) hl' (by omega)
    have ePost : postC s cs op n = setI (exC s (preC cs op) op n (0) (0)) (16 + getI cs 7) (exV s (preC cs op) op n (0) (0)) := by simp [postC, hpp, hqq, eA, eB]
    rw [ePost, eA, eB, StR.v, hE]
    refine ⟨lg' ++ ent (exC s (preC cs op) op n (0) (0)) (16 + getI cs 7), k' + 1, by simp [ent_length, hl']; omega, by omega, ?_⟩
    rw [eP] at hex sv ⊢
    exact step0_01 (get0_Z hN (by omega) (by omega)) (get0_Z hN (by omega) (by omega)) (get0_Z hN (by omega) (by omega)) hf hp0 hp1 hat hcut hexe hop c0 c1 wa rfl wa rfl rfl s8 s6 (wrap64 _ (by omega)) (wrap64 _ (by omega)) s7 hex sv
  by_cases hPQ : p = 1 ∧ q = 0
  · obtain ⟨rfl, rfl⟩ := hPQ
    have eA : popA cs op = getI cs (16 + getI cs 7 - 1) := by simp [popA, hpp]
    have eB : popB cs op = 0 := by simp [popB, hpp]
    have eP : preC cs op = (setI (setI (setI cs 8 (wr (getI cs 8 - 1))) 6 (wr (getI cs 6 + 1))) 7 (getI cs 7 - 1)) := by simp [preC, hpp, hqq]
    have s7 := set1_Z (cs := (setI (setI cs 8 (wr (getI cs 8 - 1))) 6 (wr (getI cs 6 + 1)))) (n := N) (lg := (ent cs 8) ++ ent (setI cs 8 (wr (getI cs 8 - 1))) 6) (k := 2) (i := 7) (v := (getI cs 7 - 1)) (by simp [hN]) (by omega) (by omega) (by simp [ent_length]) (by omega)
    rw [eA, eB] at hE
    obtain ⟨lg', k', hl', hk', hex⟩ := ex_Z s (preC cs op) N (((ent cs 8) ++ ent (setI cs 8 (wr (getI cs 8 - 1))) 6) ++ ent (setI (setI cs 8 (wr (getI cs 8 - 1))) 6 (wr (getI cs 6 + 1))) 7) (3) op n (getI cs (16 + getI cs 7 - 1)) (0) hs (by simp only [preC_length, hN]) h (by simp [ent_length]) (by omega) hmem.1 hmem.2 q4
    rw [hE] at hex
    have ePost : postC s cs op n = (exC s (preC cs op) op n (getI cs (16 + getI cs 7 - 1)) (0)) := by simp [postC, hpp, hqq, eA, eB]
    rw [ePost, eA, eB, StR.v, hE]
    refine ⟨lg', k', hl', by omega, ?_⟩
    rw [eP] at hex ⊢
    exact step0_10 (get0_Z hN (by omega) (by omega)) (get0_Z hN (by omega) (by omega)) (get0_Z hN (by omega) (by omega)) hf hp0 hp1 hat hcut hexe hop c0 c1 wa (wrap64 _ (by omega)) rfl rfl (get0_Z hN (by omega) (by omega)) s8 s6 (wrap64 _ (by omega)) rfl s7 hex
  by_cases hPQ : p = 1 ∧ q = 1
  · obtain ⟨rfl, rfl⟩ := hPQ
    have eA : popA cs op = getI cs (16 + getI cs 7 - 1) := by simp [popA, hpp]
    have eB : popB cs op = 0 := by simp [popB, hpp]
    have eP : preC cs op = (setI (setI cs 8 (wr (getI cs 8 - 1))) 6 (wr (getI cs 6 + 1))) := by simp [preC, hpp, hqq]
    rw [eA, eB] at hE
    obtain ⟨lg', k', hl', hk', hex⟩ := ex_Z s (preC cs op) N ((ent cs 8) ++ ent (setI cs 8 (wr (getI cs 8 - 1))) 6) (2) op n (getI cs (16 + getI cs 7 - 1)) (0) hs (by simp only [preC_length, hN]) h (by simp [ent_length]) (by omega) hmem.1 hmem.2 q4
    rw [hE] at hex
    have sv := set1_Z (cs := (exC s (preC cs op) op n (getI cs (16 + getI cs 7 - 1)) (0))) (n := N) (lg := lg') (k := k') (i := (16 + getI cs 7 - 1)) (v := (exV s (preC cs op) op n (getI cs (16 + getI cs 7 - 1)) (0))) (by simp [exC_length, hN]) (by omega) (by omega) hl' (by omega)
    have ePost : postC s cs op n = setI (exC s (preC cs op) op n (getI cs (16 + getI cs 7 - 1)) (0)) (16 + getI cs 7 - 1) (exV s (preC cs op) op n (getI cs (16 + getI cs 7 - 1)) (0)) := by simp [postC, hpp, hqq, eA, eB]
    rw [ePost, eA, eB, StR.v, hE]
    refine ⟨lg' ++ ent (exC s (preC cs op) op n (getI cs (16 + getI cs 7 - 1)) (0)) (16 + getI cs 7 - 1), k' + 1, by simp [ent_length, hl']; omega, by omega, ?_⟩
    rw [eP] at hex sv ⊢
    exact step0_11 (get0_Z hN (by omega) (by omega)) (get0_Z hN (by omega) (by omega)) (get0_Z hN (by omega) (by omega)) hf hp0 hp1 hat hcut hexe hop c0 c1 wa (wrap64 _ (by omega)) rfl rfl (get0_Z hN (by omega) (by omega)) s8 s6 hex sv
  by_cases hPQ : p = 2 ∧ q = 0
  · obtain ⟨rfl, rfl⟩ := hPQ
    have eA : popA cs op = getI cs (16 + getI cs 7 - 2) := by simp [popA, hpp]
    have eB : popB cs op = getI cs ((16 + getI cs 7 - 2) + 1) := by simp [popB, hpp]
    have eP : preC cs op = (setI (setI (setI cs 8 (wr (getI cs 8 - 1))) 6 (wr (getI cs 6 + 1))) 7 (getI cs 7 - 2)) := by simp [preC, hpp, hqq]
    have s7 := set1_Z (cs := (setI (setI cs 8 (wr (getI cs 8 - 1))) 6 (wr (getI cs 6 + 1)))) (n := N) (lg := (ent cs 8) ++ ent (setI cs 8 (wr (getI cs 8 - 1))) 6) (k := 2) (i := 7) (v := (getI cs 7 - 2)) (by simp [hN]) (by omega) (by omega) (by simp [ent_length]) (by omega)
    rw [eA, eB] at hE
    obtain ⟨lg', k', hl', hk', hex⟩ := ex_Z s (preC cs op) N (((ent cs 8) ++ ent (setI cs 8 (wr (getI cs 8 - 1))) 6) ++ ent (setI (setI cs 8 (wr (getI cs 8 - 1))) 6 (wr (getI cs 6 + 1))) 7) (3) op n (getI cs (16 + getI cs 7 - 2)) (getI cs ((16 + getI cs 7 - 2) + 1)) hs (by simp only [preC_length, hN]) h (by simp [ent_length]) (by omega) hmem.1 hmem.2 q4
    rw [hE] at hex
    have ePost : postC s cs op n = (exC s (preC cs op) op n (getI cs (16 + getI cs 7 - 2)) (getI cs ((16 + getI cs 7 - 2) + 1))) := by simp [postC, hpp, hqq, eA, eB]
    rw [ePost, eA, eB, StR.v, hE]
    refine ⟨lg', k', hl', by omega, ?_⟩
    rw [eP] at hex ⊢
    exact step0_20 (get0_Z hN (by omega) (by omega)) (get0_Z hN (by omega) (by omega)) (get0_Z hN (by omega) (by omega)) hf hp0 hp1 hat hcut hexe hop c0 c1 wa (wrap64 _ (by omega)) rfl rfl (get0_Z hN (by omega) (by omega)) (wrap64 _ (by omega)) (get0_Z hN (by omega) (by omega)) s8 s6 (wrap64 _ (by omega)) rfl s7 hex
  by_cases hPQ : p = 2 ∧ q = 1
  · obtain ⟨rfl, rfl⟩ := hPQ
    have eA : popA cs op = getI cs (16 + getI cs 7 - 2) := by simp [popA, hpp]
    have eB : popB cs op = getI cs ((16 + getI cs 7 - 2) + 1) := by simp [popB, hpp]
    have eP : preC cs op = (setI (setI (setI cs 8 (wr (getI cs 8 - 1))) 6 (wr (getI cs 6 + 1))) 7 (getI cs 7 - 2 + 1)) := by simp [preC, hpp, hqq]
    have s7 := set1_Z (cs := (setI (setI cs 8 (wr (getI cs 8 - 1))) 6 (wr (getI cs 6 + 1)))) (n := N) (lg := (ent cs 8) ++ ent (setI cs 8 (wr (getI cs 8 - 1))) 6) (k := 2) (i := 7) (v := (getI cs 7 - 2 + 1)) (by simp [hN]) (by omega) (by omega) (by simp [ent_length]) (by omega)
    rw [eA, eB] at hE
    obtain ⟨lg', k', hl', hk', hex⟩ := ex_Z s (preC cs op) N (((ent cs 8) ++ ent (setI cs 8 (wr (getI cs 8 - 1))) 6) ++ ent (setI (setI cs 8 (wr (getI cs 8 - 1))) 6 (wr (getI cs 6 + 1))) 7) (3) op n (getI cs (16 + getI cs 7 - 2)) (getI cs ((16 + getI cs 7 - 2) + 1)) hs (by simp only [preC_length, hN]) h (by simp [ent_length]) (by omega) hmem.1 hmem.2 q4
    rw [hE] at hex
    have sv := set1_Z (cs := (exC s (preC cs op) op n (getI cs (16 + getI cs 7 - 2)) (getI cs ((16 + getI cs 7 - 2) + 1)))) (n := N) (lg := lg') (k := k') (i := (16 + getI cs 7 - 2)) (v := (exV s (preC cs op) op n (getI cs (16 + getI cs 7 - 2)) (getI cs ((16 + getI cs 7 - 2) + 1)))) (by simp [exC_length, hN]) (by omega) (by omega) hl' (by omega)
    have ePost : postC s cs op n = setI (exC s (preC cs op) op n (getI cs (16 + getI cs 7 - 2)) (getI cs ((16 + getI cs 7 - 2) + 1))) (16 + getI cs 7 - 2) (exV s (preC cs op) op n (getI cs (16 + getI cs 7 - 2)) (getI cs ((16 + getI cs 7 - 2) + 1))) := by simp [postC, hpp, hqq, eA, eB]
    rw [ePost, eA, eB, StR.v, hE]
    refine ⟨lg' ++ ent (exC s (preC cs op) op n (getI cs (16 + getI cs 7 - 2)) (getI cs ((16 + getI cs 7 - 2) + 1))) (16 + getI cs 7 - 2), k' + 1, by simp [ent_length, hl']; omega, by omega, ?_⟩
    rw [eP] at hex sv ⊢
    exact step0_21 (get0_Z hN (by omega) (by omega)) (get0_Z hN (by omega) (by omega)) (get0_Z hN (by omega) (by omega)) hf hp0 hp1 hat hcut hexe hop c0 c1 wa (wrap64 _ (by omega)) rfl rfl (get0_Z hN (by omega) (by omega)) (wrap64 _ (by omega)) (get0_Z hN (by omega) (by omega)) s8 s6 (wrap64 _ (by omega)) (wrap64 _ (by omega)) s7 hex sv
  exfalso; omega
theorem exec1_Z (s : Su) (c : List (Nat × Int)) (f : Bool) (e0 e1 e2 : Int) (cs : List Int) (N : Nat) (lg : List D) (k : Nat) (hl : lg.length = k * 2) (hk : k < 2^28) (hs : s.ok) (hN : cs.length = N) (h : N = s.n) (hc : ∀ x ∈ c, 1 ≤ x.1 ∧ x.1 ≤ 21) (hcl : c.length < 2^30) (hcan : canStep c cs = true) :
    ∃ lg' k', lg'.length = k' * 2 ∧ k' ≤ k + 6 ∧ Z prog16 (.call 52 [.iface 0 (.ptr 0 0), s.d, progD f c e0 e1 e2] (mem1 cs N lg k (k * 2))) = some (.ret (stepR s c cs).v (mem1 (stepR s c cs).cs N lg' k' (k' * 2))) := by
  have h48 : 48 ≤ N := by rw [h]; unfold Su.n; omega
  have hN1 : N < 1000 := by have := hs.p3; have := hs.b5; rw [h]; unfold Su.n; omega
  unfold stepR
  rw [if_pos hcan]
  simp only [canStep, Bool.and_eq_true, Bool.not_eq_true', Bool.or_eq_false_iff, decide_eq_false_iff_not] at hcan
  obtain ⟨⟨hf, hp0, hp1⟩, hx⟩ := hcan
  have hi : (getI cs 6).toNat < c.length := by omega
  have hins : insAt c (getI cs 6) = c[(getI cs 6).toNat] := by simp [insAt, List.getD_eq_getElem?_getD, hi]
  have hmem := hc _ (List.getElem_mem hi)
  have hcut := cut2_codeC c _ hi
  have hat := at_codeD f c (getI cs 6) (by omega) (by omega)
  rw [← hins] at hmem hcut
  generalize insAt c (getI cs 6) = ins at *
  obtain ⟨op, n⟩ := ins
  simp only at hmem hcut hx ⊢
  obtain ⟨q1, q2, q3, q4⟩ := exOk_spec hx
  have hexe := exe_Z op n (getI cs 7) hmem.1 hmem.2
  rw [hx] at hexe
  have c0 := eff0 op hmem.1 hmem.2
  have c1 := eff1 op hmem.1 hmem.2
  have wa := wrap64 (16 + getI cs 7) (by omega)
  have hop : (op : Int) < 22 := by omega
  have hp2 := pops_le op
  have hu2 := push_le op
  obtain ⟨x1, x2, x3, x4, hE⟩ := exE_four (preC cs op) op (popA cs op) (popB cs op)
  have s8 := set1_Z (cs := cs) (n := N) (i := 8) (v := wr (getI cs 8 - 1)) hN (by omega) (by omega) hl (by omega)
  have s6 := set1_Z (cs := setI cs 8 (wr (getI cs 8 - 1))) (n := N) (lg := lg ++ ent cs 8) (k := (k + 1)) (i := 6) (v := wr (getI cs 6 + 1)) (by simp [hN]) (by omega) (by omega) (by simp [ent_length, hl]; omega) (by omega)
  obtain ⟨p, hpp⟩ : ∃ p, popsN op = p := ⟨_, rfl⟩
  obtain ⟨q, hqq⟩ : ∃ q, pushN op = q := ⟨_, rfl⟩
  simp only [hpp, hqq] at q2 q3 c0 c1 hp2 hu2
  by_cases hPQ : p = 0 ∧ q = 0
  · obtain ⟨rfl, rfl⟩ := hPQ
    have eA : popA cs op = 0 := by simp [popA, hpp]
    have eB : popB cs op = 0 := by simp [popB, hpp]
    have eP : preC cs op = (setI (setI cs 8 (wr (getI cs 8 - 1))) 6 (wr (getI cs 6 + 1))) := by simp [preC, hpp, hqq]
    rw [eA, eB] at hE
    obtain ⟨lg', k', hl', hk', hex⟩ := ex_Z s (preC cs op) N ((lg ++ ent cs 8) ++ ent (setI cs 8 (wr (getI cs 8 - 1))) 6) (k + 2) op n (0) (0) hs (by simp only [preC_length, hN]) h (by simp [ent_length, hl]; omega) (by omega) hmem.1 hmem.2 q4
    rw [hE] at hex
    have ePost : postC s cs op n = (exC s (preC cs op) op n (0) (0)) := by simp [postC, hpp, hqq, eA, eB]
    rw [ePost, eA, eB, StR.v, hE]
    refine ⟨lg', k', hl', by omega, ?_⟩
    rw [eP] at hex ⊢
    exact step1_00 (get1_Z hN (by omega) (by omega)) (get1_Z hN (by omega) (by omega)) (get1_Z hN (by omega) (by omega)) hf hp0 hp1 hat hcut hexe hop c0 c1 wa rfl wa rfl rfl s8 s6 hex
  by_cases hPQ : p = 0 ∧ q = 1
  · obtain ⟨rfl, rfl⟩ := hPQ
    have eA : popA cs op = 0 := by simp [popA, hpp]
    have eB : popB cs op = 0 := by simp [popB, hpp]
    have eP : preC cs op = (setI (setI (setI cs 8 (wr (getI cs 8 - 1))) 6 (wr (getI cs 6 + 1))) 7 (getI cs 7 + 1)) := by simp [preC, hpp, hqq]
    have s7 := set1_Z (cs := (setI (setI cs 8 (wr (getI cs 8 - 1))) 6 (wr (getI cs 6 + 1)))) (n := N) (lg := (lg ++ ent cs 8) ++ ent (setI cs 8 (wr (getI cs 8 - 1))) 6) (k := (k + 2)) (i := 7) (v := (getI cs 7 + 1)) (by simp [hN]) (by omega) (by omega) (by simp [ent_length, hl]; omega) (by omega)
    rw [eA, eB] at hE
    obtain ⟨lg', k', hl', hk', hex⟩ := ex_Z s (preC cs op) N (((lg ++ ent cs 8) ++ ent (setI cs 8 (wr (getI cs 8 - 1))) 6) ++ ent (setI (setI cs 8 (wr (getI cs 8 - 1))) 6 (wr (getI cs 6 + 1))) 7) (k + 3) op n (0) (0) hs (by simp only [preC_length, hN]) h (by simp [ent_length, hl]; omega) (by omega) hmem.1 hmem.2 q4
    rw [hE] at hex
    have sv := set1_Z (cs := (exC s (preC cs op) op n (0) (0))) (n := N) (lg := lg') (k := k') (i := (16 + getI cs 7)) (v := (exV s (preC cs op) op n (0) (0))) (by simp [exC_length, hN]) (by omega) (by omega) hl' (by omega)
    have ePost : postC s cs op n = setI (exC s (preC cs op) op n (0) (0)) (16 + getI cs 7) (exV s (preC cs op) op n (0) (0)) := by simp [postC, hpp, hqq, eA, eB]
    rw [ePost, eA, eB, StR.v, hE]
    refine ⟨lg' ++ ent (exC s (preC cs op) op n (0) (0)) (16 + getI cs 7), k' + 1, by simp [ent_length, hl']; omega, by omega, ?_⟩
    rw [eP] at hex sv ⊢
    exact step1_01 (get1_Z hN (by omega) (by omega)) (get1_Z hN (by omega) (by omega)) (get1_Z hN (by omega) (by omega)) hf hp0 hp1 hat hcut hexe hop c0 c1 wa rfl wa rfl rfl s8 s6 (wrap64 _ (by omega)) (wrap64 _ (by omega)) s7 hex sv
  by_cases hPQ : p = 1 ∧ q = 0
  · obtain ⟨rfl, rfl⟩ := hPQ
    have eA : popA cs op = getI cs (16 + getI cs 7 - 1) := by simp [popA, hpp]
    have eB : popB cs op = 0 := by simp [popB, hpp]
    have eP : preC cs op = (setI (setI (setI cs 8 (wr (getI cs 8 - 1))) 6 (wr (getI cs 6 + 1))) 7 (getI cs 7 - 1)) := by simp [preC, hpp, hqq]
    have s7 := set1_Z (cs := (setI (setI cs 8 (wr (getI cs 8 - 1))) 6 (wr (getI cs 6 + 1)))) (n := N) (lg := (lg ++ ent cs 8) ++ ent (setI cs 8 (wr (getI cs 8 - 1))) 6) (k := (k + 2)) (i := 7) (v := (getI cs 7 - 1)) (by simp [hN]) (by omega) (by omega) (by simp [ent_length, hl]; omega) (by omega)
    rw [eA, eB] at hE
    obtain ⟨lg', k', hl', hk', hex⟩ := ex_Z s (preC cs op) N (((lg ++ ent cs 8) ++ ent (setI cs 8 (wr (getI cs 8 - 1))) 6) ++ ent (setI (setI cs 8 (wr (getI cs 8 - 1))) 6 (wr (getI cs 6 + 1))) 7) (k + 3) op n (getI cs (16 + getI cs 7 - 1)) (0) hs (by simp only [preC_length, hN]) h (by simp [ent_length, hl]; omega) (by omega) hmem.1 hmem.2 q4
    rw [hE] at hex
    have ePost : postC s cs op n = (exC s (preC cs op) op n (getI cs (16 + getI cs 7 - 1)) (0)) := by simp [postC, hpp, hqq, eA, eB]
    rw [ePost, eA, eB, StR.v, hE]
    refine ⟨lg', k', hl', by omega, ?_⟩
    rw [eP] at hex ⊢
    exact step1_10 (get1_Z hN (by omega) (by omega)) (get1_Z hN (by omega) (by omega)) (get1_Z hN (by omega) (by omega)) hf hp0 hp1 hat hcut hexe hop c0 c1 wa (wrap64 _ (by omega)) rfl rfl (get1_Z hN (by omega) (by omega)) s8 s6 (wrap64 _ (by omega)) rfl s7 hex
  by_cases hPQ : p = 1 ∧ q = 1
  · obtain ⟨rfl, rfl⟩ := hPQ
    have eA : popA cs op = getI cs (16 + getI cs 7 - 1) := by simp [popA, hpp]
    have eB : popB cs op = 0 := by simp [popB, hpp]
    have eP : preC cs op = (setI (setI cs 8 (wr (getI cs 8 - 1))) 6 (wr (getI cs 6 + 1))) := by simp [preC, hpp, hqq]
    rw [eA, eB] at hE
    obtain ⟨lg', k', hl', hk', hex⟩ := ex_Z s (preC cs op) N ((lg ++ ent cs 8) ++ ent (setI cs 8 (wr (getI cs 8 - 1))) 6) (k + 2) op n (getI cs (16 + getI cs 7 - 1)) (0) hs (by simp only [preC_length, hN]) h (by simp [ent_length, hl]; omega) (by omega) hmem.1 hmem.2 q4
    rw [hE] at hex
    have sv := set1_Z (cs := (exC s (preC cs op) op n (getI cs (16 + getI cs 7 - 1)) (0))) (n := N) (lg := lg') (k := k') (i := (16 + getI cs 7 - 1)) (v := (exV s (preC cs op) op n (getI cs (16 + getI cs 7 - 1)) (0))) (by simp [exC_length, hN]) (by omega) (by omega) hl' (by omega)
    have ePost : postC s cs op n = setI (exC s (preC cs op) op n (getI cs (16 + getI cs 7 - 1)) (0)) (16 + getI cs 7 - 1) (exV s (preC cs op) op n (getI cs (16 + getI cs 7 - 1)) (0)) := by simp [postC, hpp, hqq, eA, eB]
    rw [ePost, eA, eB, StR.v, hE]
    refine ⟨lg' ++ ent (exC s (preC cs op) op n (getI cs (16 + getI cs 7 - 1)) (0)) (16 + getI cs 7 - 1), k' + 1, by simp [ent_length, hl']; omega, by omega, ?_⟩
    rw [eP] at hex sv ⊢
    exact step1_11 (get1_Z hN (by omega) (by omega)) (get1_Z hN (by omega) (by omega)) (get1_Z hN (by omega) (by omega)) hf hp0 hp1 hat hcut hexe hop c0 c1 wa (wrap64 _ (by omega)) rfl rfl (get1_Z hN (by omega) (by omega)) s8 s6 hex sv
  by_cases hPQ : p = 2 ∧ q = 0
  · obtain ⟨rfl, rfl⟩ := hPQ
    have eA : popA cs op = getI cs (16 + getI cs 7 - 2) := by simp [popA, hpp]
    have eB : popB cs op = getI cs ((16 + getI cs 7 - 2) + 1) := by simp [popB, hpp]
    have eP : preC cs op = (setI (setI (setI cs 8 (wr (getI cs 8 - 1))) 6 (wr (getI cs 6 + 1))) 7 (getI cs 7 - 2)) := by simp [preC, hpp, hqq]
    have s7 := set1_Z (cs := (setI (setI cs 8 (wr (getI cs 8 - 1))) 6 (wr (getI cs 6 + 1)))) (n := N) (lg := (lg ++ ent cs 8) ++ ent (setI cs 8 (wr (getI cs 8 - 1))) 6) (k := (k + 2)) (i := 7) (v := (getI cs 7 - 2)) (by simp [hN]) (by omega) (by omega) (by simp [ent_length, hl]; omega) (by omega)
    rw [eA, eB] at hE
    obtain ⟨lg', k', hl', hk', hex⟩ := ex_Z s (preC cs op) N (((lg ++ ent cs 8) ++ ent (setI cs 8 (wr (getI cs 8 - 1))) 6) ++ ent (setI (setI cs 8 (wr (getI cs 8 - 1))) 6 (wr (getI cs 6 + 1))) 7) (k + 3) op n (getI cs (16 + getI cs 7 - 2)) (getI cs ((16 + getI cs 7 - 2) + 1)) hs (by simp only [preC_length, hN]) h (by simp [ent_length, hl]; omega) (by omega) hmem.1 hmem.2 q4
    rw [hE] at hex
    have ePost : postC s cs op n = (exC s (preC cs op) op n (getI cs (16 + getI cs 7 - 2)) (getI cs ((16 + getI cs 7 - 2) + 1))) := by simp [postC, hpp, hqq, eA, eB]
    rw [ePost, eA, eB, StR.v, hE]
    refine ⟨lg', k', hl', by omega, ?_⟩
    rw [eP] at hex ⊢
    exact step1_20 (get1_Z hN (by omega) (by omega)) (get1_Z hN (by omega) (by omega)) (get1_Z hN (by omega) (by omega)) hf hp0 hp1 hat hcut hexe hop c0 c1 wa (wrap64 _ (by omega)) rfl rfl (get1_Z hN (by omega) (by omega)) (wrap64 _ (by omega)) (get1_Z hN (by omega) (by omega)) s8 s6 (wrap64 _ (by omega)) rfl s7 hex
  by_cases hPQ : p = 2 ∧ q = 1
  · obtain ⟨rfl, rfl⟩ := hPQ
    have eA : popA cs op = getI cs (16 + getI cs 7 - 2) := by simp [popA, hpp]
    have eB : popB cs op = getI cs ((16 + getI cs 7 - 2) + 1) := by simp [popB, hpp]
    have eP : preC cs op = (setI (setI (setI cs 8 (wr (getI cs 8 - 1))) 6 (wr (getI cs 6 + 1))) 7 (getI cs 7 - 2 + 1)) := by simp [preC, hpp, hqq]
    have s7 := set1_Z (cs := (setI (setI cs 8 (wr (getI cs 8 - 1))) 6 (wr (getI cs 6 + 1)))) (n := N) (lg := (lg ++ ent cs 8) ++ ent (setI cs 8 (wr (getI cs 8 - 1))) 6) (k := (k + 2)) (i := 7) (v := (getI cs 7 - 2 + 1)) (by simp [hN]) (by omega) (by omega) (by simp [ent_length, hl]; omega) (by omega)
    rw [eA, eB] at hE
    obtain ⟨lg', k', hl', hk', hex⟩ := ex_Z s (preC cs op) N (((lg ++ ent cs 8) ++ ent (setI cs 8 (wr (getI cs 8 - 1))) 6) ++ ent (setI (setI cs 8 (wr (getI cs 8 - 1))) 6 (wr (getI cs 6 + 1))) 7) (k + 3) op n (getI cs (16 + getI cs 7 - 2)) (getI cs ((16 + getI cs 7 - 2) + 1)) hs (by simp only [preC_length, hN]) h (by simp [ent_length, hl]; omega) (by omega) hmem.1 hmem.2 q4
    rw [hE] at hex
    have sv := set1_Z (cs := (exC s (preC cs op) op n (getI cs (16 + getI cs 7 - 2)) (getI cs ((16 + getI cs 7 - 2) + 1)))) (n := N) (lg := lg') (k := k') (i := (16 + getI cs 7 - 2)) (v := (exV s (preC cs op) op n (getI cs (16 + getI cs 7 - 2)) (getI cs ((16 + getI cs 7 - 2) + 1)))) (by simp [exC_length, hN]) (by omega) (by omega) hl' (by omega)
    have ePost : postC s cs op n = setI (exC s (preC cs op) op n (getI cs (16 + getI cs 7 - 2)) (getI cs ((16 + getI cs 7 - 2) + 1))) (16 + getI cs 7 - 2) (exV s (preC cs op) op n (getI cs (16 + getI cs 7 - 2)) (getI cs ((16 + getI cs 7 - 2) + 1))) := by simp [postC, hpp, hqq, eA, eB]
    rw [ePost, eA, eB, StR.v, hE]
    refine ⟨lg' ++ ent (exC s (preC cs op) op n (getI cs (16 + getI cs 7 - 2)) (getI cs ((16 + getI cs 7 - 2) + 1))) (16 + getI cs 7 - 2), k' + 1, by simp [ent_length, hl']; omega, by omega, ?_⟩
    rw [eP] at hex sv ⊢
    exact step1_21 (get1_Z hN (by omega) (by omega)) (get1_Z hN (by omega) (by omega)) (get1_Z hN (by omega) (by omega)) hf hp0 hp1 hat hcut hexe hop c0 c1 wa (wrap64 _ (by omega)) rfl rfl (get1_Z hN (by omega) (by omega)) (wrap64 _ (by omega)) (get1_Z hN (by omega) (by omega)) s8 s6 (wrap64 _ (by omega)) (wrap64 _ (by omega)) s7 hex sv
  exfalso; omega
end Go.Pm
end SV12
