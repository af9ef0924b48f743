/- Chapter 16: the reference's step is the machine's. Chapter 16: the law of steps. -/
import Derived.Test.YtemenmjobfmelaaDoorPmV36
set_option linter.unusedSimpArgs false
set_option linter.unusedVariables false
section SV37
set_option linter.unusedSimpArgs false
set_option linter.unusedVariables false
namespace Go.Pm
open F
theorem setI_comm {X : List Int} {i j v w : Int} (h : i.toNat ≠ j.toNat) : setI (setI X i v) j w = setI (setI X j w) i v := by
  unfold setI
  exact List.set_comm _ _ h
theorem setI_setI {X : List Int} {i v w : Int} : setI (setI X i v) i w = setI X i w := by
  unfold setI
  exact List.set_set ..
theorem setI_self {X : List Int} {i v : Int} (h : getN X i.toNat = v) : setI X i v = X := by
  unfold setI
  by_cases hl : i.toNat < X.length
  · have : v = X[i.toNat] := by rw [← h]; simp [getN, List.getD_eq_getElem?_getD, hl]
    rw [this]
    exact List.set_getElem_self hl
  · exact List.set_eq_of_length_le (by omega)
theorem pre_q0 {cs : List Int} {op : Nat} (hq : pushN op = 0) (hl : 48 ≤ cs.length) : preC cs op = rL cs (popsN op) := by
  unfold preC rL
  by_cases h : popsN op = pushN op
  · rw [if_pos h, h, hq]
    rw [setI_self (i := 7)]
    · rfl
    · rw [getN_set_ne (by decide), getN_set_ne (by decide)]
      show getN cs 7 = getN cs 7 - 0
      omega
  · rw [if_neg h, hq]
    show setI _ 7 (getN cs 7 - popsN op + 0) = _
    rw [Int.add_zero]
    rfl
theorem push_eq {cs : List Int} {op : Nat} {v : Int} {p : Int} (hp : (popsN op : Int) = p) (hq : pushN op = 1) (hl : 48 ≤ cs.length) (hB : 0 ≤ getN cs 7 - p) :
    setI (setI (rL cs p) (16 + (getN cs 7 - p)) v) 7 (getN cs 7 - p + 1) = setI (preC cs op) (16 + getI cs 7 - popsN op) v := by
  have g7 : getI cs 7 = getN cs 7 := rfl
  rw [setI_comm (by simp; omega), hp, g7, show 16 + getN cs 7 - p = 16 + (getN cs 7 - p) by omega]
  congr 1
  unfold rL preC
  rw [setI_setI, hp, hq, g7]
  by_cases h : popsN op = 1
  · rw [if_pos h]
    have h1 : p = 1 := by omega
    refine setI_self ?_
    rw [h1]
    show getN _ 7 = _
    rw [getN_set_ne (by decide), getN_set_ne (by decide)]
    omega
  · rw [if_neg h]
    rfl
theorem stepR_val {s : Su} {c : List (Nat × Int)} {cs : List Int} {op : Nat} {n : Int} (hcan : canStep c cs = true) (hi : insAt c (getI cs 6) = (op, n)) :
    stepR s c cs = ⟨postC s cs op n, decide ((op : Int) = 21), exE (preC cs op) op (popA cs op) (popB cs op), exB (preC cs op) op⟩ := by
  unfold stepR
  rw [if_pos hcan, hi]
theorem pA_1 {cs : List Int} {op : Nat} (h : popsN op = 1) : popA cs op = getN cs (16 + (getN cs 7 - 1)).toNat := by
  unfold popA
  rw [if_neg (by omega), h]
  show getN cs (16 + getN cs 7 - (1 : Nat)).toNat = _
  congr 2
  omega
theorem pA_2 {cs : List Int} {op : Nat} (h : popsN op = 2) : popA cs op = getN cs (16 + (getN cs 7 - 2)).toNat := by
  unfold popA
  rw [if_neg (by omega), h]
  show getN cs (16 + getN cs 7 - (2 : Nat)).toNat = _
  congr 2
  omega
theorem pB_2 {cs : List Int} {op : Nat} (h : popsN op = 2) : popB cs op = getN cs (16 + (getN cs 7 - 2) + 1).toNat := by
  unfold popB
  rw [if_pos h, h]
  show getN cs (16 + getN cs 7 - (2 : Nat) + 1).toNat = _
  congr 2
  omega
theorem pB_1 {cs : List Int} {op : Nat} (h : popsN op ≠ 2) : popB cs op = 0 := by
  unfold popB
  rw [if_neg h]
theorem rstep_no {s : Su} {c : List (Nat × Int)} {f : Bool} {e0 e1 e2 : Int} {cs : List Int} {N : Nat} (hN : cs.length = N) (h48 : 48 ≤ N) (hN1 : N < 1000) (hc : ∀ x ∈ c, 1 ≤ x.1 ∧ x.1 ≤ 21) (hcan : canStep c cs = false) :
    Z prog16 (.call 57 [.dat (.sl (intsC cs) N false), s.d, progD f c e0 e1 e2] []) = some (.ret (.tup [.dat (.sl (intsC cs) N false), .bool true, .dat (.agg (intsC [0, 0, 0, 0])), .bool false]) []) := by
  have zv := valid_Z (f := f) (e0 := e0) (e1 := e1) (e2 := e2) hN h48 hN1 hc
  rw [hcan] at zv
  refine Z_call (pf := F57) rfl rfl ?_
  simp only [Su.d, Su.c, progD] at *
  simp [F57, List.range_succ, zv, intsC_nil, intsC_cons]
/-- What the reference hands back. -/
def rOut (R : StR) (N : Nat) : V := .tup [.dat (.sl (intsC R.cs) N false), .bool R.ended, .dat (.agg (intsC R.e)), .bool R.em]
theorem rstep_Z {s : Su} {c : List (Nat × Int)} {f : Bool} {e0 e1 e2 : Int} {cs : List Int} {N : Nat} (hs : s.ok) (hN : cs.length = N) (h : N = s.n) (hc : ∀ x ∈ c, 1 ≤ x.1 ∧ x.1 ≤ 21) :
    Z prog16 (.call 57 [.dat (.sl (intsC cs) N false), s.d, progD f c e0 e1 e2] []) = some (.ret (rOut (stepR s c cs) N) []) := by
  have h48 : 48 ≤ N ∧ N < 1000 := by have := hs.p3; have := hs.b5; rw [h]; unfold Su.n; omega
  cases hcan : canStep c cs with
  | false => rw [stepR_no hcan]; exact rstep_no hN h48.1 h48.2 hc hcan
  | true =>
    have hx := hcan
    simp only [canStep, Bool.and_eq_true, Bool.not_eq_true', Bool.or_eq_false_iff, decide_eq_false_iff_not] at hx
    obtain ⟨⟨hf, hp0, hp1⟩, hx⟩ := hx
    have hmem : 1 ≤ (insAt c (getI cs 6)).1 ∧ (insAt c (getI cs 6)).1 ≤ 21 := by
      have hi : (getI cs 6).toNat < c.length := by omega
      have hins : insAt c (getI cs 6) = c[(getI cs 6).toNat] := by simp [insAt, List.getD_eq_getElem?_getD, hi]
      rw [hins]
      exact hc _ (List.getElem_mem hi)
    obtain ⟨x1, x2, x3, x4⟩ := exOk_spec hx
    obtain ⟨op, hop⟩ : ∃ op, op = (insAt c (getI cs 6)).1 := ⟨_, rfl⟩
    obtain ⟨n, hn⟩ : ∃ n, n = (insAt c (getI cs 6)).2 := ⟨_, rfl⟩
    have hi : insAt c (getI cs 6) = (op, n) := by rw [hop, hn]
    rw [← hop] at hmem x2 x3 x4
    rw [← hn] at x4
    clear hx hop hn
    have g7 : getI cs 7 = getN cs 7 := rfl
    rw [g7] at x1 x2 x3
    rw [stepR_val hcan hi, rOut]
    have hl : 48 ≤ cs.length := by omega
    have kp : ∀ j : Nat, j ≠ 6 → j ≠ 7 → j ≠ 8 → getN (preC cs op) j = getN cs j := fun j a b d => preC_keep a b d
    by_cases c1 : op = 1
    · subst c1
      have := rs1 (f := f) (e0 := e0) (e1 := e1) (e2 := e2) hs hN h hc hcan hi rfl
      rw [this]
      have e := push_eq (cs := cs) (op := 1) (v := n) (p := 0) rfl rfl hl (by have : (0 : Int) ≤ getN cs 7 := x2; omega)
      simp only [Int.sub_zero] at e
      rw [e]; rfl
    by_cases c2 : op = 2
    · subst c2
      have := rs2 (f := f) (e0 := e0) (e1 := e1) (e2 := e2) hs hN h hc hcan hi rfl
      rw [this]
      have hn' : 0 ≤ n ∧ n < 16 := by simpa [operN] using x4
      have e := push_eq (cs := cs) (op := 2) (v := getN cs (32 + n).toNat) (p := 0) rfl rfl hl (by have : (0 : Int) ≤ getN cs 7 := x2; omega)
      simp only [Int.sub_zero] at e
      rw [e, ← kp (32 + n).toNat (by omega) (by omega) (by omega)]; rfl
    by_cases c6 : op = 6
    · subst c6
      have := rs6 (f := f) (e0 := e0) (e1 := e1) (e2 := e2) hs hN h hc hcan hi rfl
      rw [this]
      have e := push_eq (cs := cs) (op := 6) (v := getN cs 9) (p := 0) rfl rfl hl (by have : (0 : Int) ≤ getN cs 7 := x2; omega)
      simp only [Int.sub_zero] at e
      rw [e, ← kp 9 (by omega) (by omega) (by omega)]; rfl
    by_cases c7 : op = 7
    · subst c7
      have := rs7 (f := f) (e0 := e0) (e1 := e1) (e2 := e2) hs hN h hc hcan hi rfl
      rw [this]
      have e := push_eq (cs := cs) (op := 7) (v := getN cs 10) (p := 0) rfl rfl hl (by have : (0 : Int) ≤ getN cs 7 := x2; omega)
      simp only [Int.sub_zero] at e
      rw [e, ← kp 10 (by omega) (by omega) (by omega)]; rfl
    by_cases c8 : op = 8
    · subst c8
      have := rs8 (f := f) (e0 := e0) (e1 := e1) (e2 := e2) hs hN h hc hcan hi rfl
      rw [this]
      have e := push_eq (cs := cs) (op := 8) (v := getN cs 0) (p := 0) rfl rfl hl (by have : (0 : Int) ≤ getN cs 7 := x2; omega)
      simp only [Int.sub_zero] at e
      rw [e, ← kp 0 (by omega) (by omega) (by omega)]; rfl
    by_cases c4 : op = 4
    · subst c4
      have := rs4 (f := f) (e0 := e0) (e1 := e1) (e2 := e2) hs hN h hc hcan hi rfl
      rw [this]
      have hn' : 0 ≤ n ∧ n < 8 := by simpa [operN] using x4
      have hp : (1 : Int) ≤ getN cs 7 := x2
      rw [push_eq (cs := cs) (op := 4) (p := 1) rfl rfl hl (by omega), ← pA_1 (op := 4) rfl]
      have ev : (if bodyI s (popA cs 4) < 0 then 0 else getI (rL cs 1) (bodyI s (popA cs 4) + n)) = exV s (preC cs 4) 4 n (popA cs 4) (popB cs 4) := by
        show _ = if bodyI s (popA cs 4) < 0 then 0 else getI (preC cs 4) (bodyI s (popA cs 4) + n)
        split
        · rfl
        · rename_i hb
          have hB := bodyI_low (s := s) (a := popA cs 4) (by omega)
          show getN _ _ = getN _ _
          rw [rL_get (by omega) (by omega) (by omega), kp _ (by omega) (by omega) (by omega)]
      rw [ev]; rfl
    by_cases c3 : op = 3
    · subst c3
      have := rs3 (f := f) (e0 := e0) (e1 := e1) (e2 := e2) hs hN h hc hcan hi rfl
      rw [this, ← pA_1 (op := 3) rfl]
      have e := pre_q0 (cs := cs) (op := 3) rfl hl
      have e' : postC s cs 3 n = setI (preC cs 3) (32 + n) (popA cs 3) := rfl
      rw [e', e]; rfl
    by_cases c5 : op = 5
    · subst c5
      have := rs5 (f := f) (e0 := e0) (e1 := e1) (e2 := e2) hs hN h hc hcan hi rfl
      rw [this, ← pA_2 (op := 5) rfl, ← pB_2 (op := 5) rfl]
      have e := pre_q0 (cs := cs) (op := 5) rfl hl
      have e' : postC s cs 5 n = if bodyI s (popA cs 5) < 0 then preC cs 5 else setI (preC cs 5) (bodyI s (popA cs 5) + n) (limI n (popB cs 5)) := rfl
      rw [e', e]; rfl
    by_cases c18 : op = 18
    · subst c18
      have := rs18 (f := f) (e0 := e0) (e1 := e1) (e2 := e2) hs hN h hc hcan hi rfl
      rw [this]
      have e := pre_q0 (cs := cs) (op := 18) rfl hl
      have e' : postC s cs 18 n = setI (preC cs 18) 6 n := rfl
      rw [e', e]; rfl
    by_cases c19 : op = 19
    · subst c19
      have e := pre_q0 (cs := cs) (op := 19) rfl hl
      have e' : postC s cs 19 n = if popA cs 19 = 0 then setI (preC cs 19) 6 n else preC cs 19 := rfl
      rw [e', e]
      by_cases h0 : popA cs 19 = 0
      · have := rs19a (f := f) (e0 := e0) (e1 := e1) (e2 := e2) hs hN h hc hcan hi rfl (by rw [← pA_1 (op := 19) rfl]; exact h0)
        rw [this, if_pos h0]; rfl
      · have := rs19b (f := f) (e0 := e0) (e1 := e1) (e2 := e2) hs hN h hc hcan hi rfl (by rw [← pA_1 (op := 19) rfl]; exact h0)
        rw [this, if_neg h0]; rfl
    by_cases c21 : op = 21
    · subst c21
      have := rs21 (f := f) (e0 := e0) (e1 := e1) (e2 := e2) hs hN h hc hcan hi rfl
      rw [this]
      have e := pre_q0 (cs := cs) (op := 21) rfl hl
      have e' : postC s cs 21 n = preC cs 21 := rfl
      rw [e', e]; rfl
    by_cases c20 : op = 20
    · subst c20
      have e : preC cs 20 = rL cs 2 := pre_q0 (cs := cs) (op := 20) rfl hl
      have e' : postC s cs 20 n = if 40 ≤ getI (preC cs 20) 11 then preC cs 20 else setI (setI (preC cs 20) 12 (effH (preC cs 20) (popA cs 20) (popB cs 20))) 11 (wr (getI (preC cs 20) 11 + 1)) := rfl
      have k11 : getI (preC cs 20) 11 = getN cs 11 := kp 11 (by omega) (by omega) (by omega)
      have k12 : getI (preC cs 20) 12 = getN cs 12 := kp 12 (by omega) (by omega) (by omega)
      have k0 : getI (preC cs 20) 0 = getN cs 0 := kp 0 (by omega) (by omega) (by omega)
      rw [e', exE, exB, k11, k0, effH, k12, k0]
      by_cases h0 : 40 ≤ getN cs 11
      · have := rs20a (f := f) (e0 := e0) (e1 := e1) (e2 := e2) hs hN h hc hcan hi rfl h0
        have h1 : ¬ getN cs 11 < 40 := by omega
        rw [this, if_pos h0, e]
        simp [h1, intsC]
      · have := rs20b (f := f) (e0 := e0) (e1 := e1) (e2 := e2) hs hN h hc hcan hi rfl h0
        have h1 : getN cs 11 < 40 := by omega
        rw [this, if_neg h0, e, ← pA_2 (op := 20) rfl, ← pB_2 (op := 20) rfl]
        simp [h1, intsC]
    have hd : 9 ≤ op ∧ op ≤ 17 := by omega
    have hq : pushN op = 1 := by unfold pushN; split <;> first | omega | rfl
    have ex : exB (preC cs op) op = false := by simp [exB, c20]
    have ee : exE (preC cs op) op (popA cs op) (popB cs op) = [0, 0, 0, 0] := by simp [exE, ex]
    have eC : exC s (preC cs op) op n (popA cs op) (popB cs op) = preC cs op := by unfold exC; split <;> first | omega | rfl
    have eV : exV s (preC cs op) op n (popA cs op) (popB cs op) = appI op (popA cs op) (popB cs op) := by unfold exV; split <;> first | omega | rfl
    have e21 : decide ((op : Int) = 21) = false := by simp; omega
    have ep : postC s cs op n = setI (preC cs op) (16 + getI cs 7 - popsN op) (appI op (popA cs op) (popB cs op)) := by
      unfold postC
      rw [if_neg (by omega), eC, eV]
    rw [ep, ee, ex, e21]
    have hpn : popsN op = 1 ∨ popsN op = 2 := by
      rcases (by omega : op = 9 ∨ op = 10 ∨ op = 11 ∨ op = 12 ∨ op = 13 ∨ op = 14 ∨ op = 15 ∨ op = 16 ∨ op = 17) with e | e | e | e | e | e | e | e | e <;> rw [e] <;> decide
    rcases hpn with hpn | hpn
    · have := rsd1 (f := f) (e0 := e0) (e1 := e1) (e2 := e2) hs hN h hc hcan hi hd hpn
      rw [this, push_eq (cs := cs) (op := op) (p := 1) (by omega) hq hl (by omega), ← pA_1 hpn, pB_1 (by omega)]
    · have := rsd2 (f := f) (e0 := e0) (e1 := e1) (e2 := e2) hs hN h hc hcan hi hd hpn
      rw [this, push_eq (cs := cs) (op := op) (p := 2) (by omega) hq hl (by omega), ← pA_2 hpn, ← pB_2 hpn]
end Go.Pm
end SV37
section SV38
set_option linter.unusedSimpArgs false
set_option linter.unusedVariables false
namespace Go.Pm
open F
def cmpFr (w : List Int) (N : Nat) (i : Int) : Fr := [(0, .dat (.sl (intsC w) N false)), (1, .dat (.sl (intsC w) N false)), (5, .int i)]
theorem same_loop (w : List Int) (N : Nat) (hN : w.length = N) (hN1 : N < 1000) (m : Nat) : ∀ i : Nat, i + m = N →
    Z prog16 (.loop 0 F58l0 (cmpFr w N i) []) = some (.out (.exit 0) (cmpFr w N N ++ [(14, .bool false)]) []) := by
  induction m with
  | zero =>
    intro i hi
    have : i = N := by omega
    subst this
    rw [Z_loop_eq]
    simp [loopStep, run_F58l0, cmpFr, len_sl]
  | succ m ih =>
    intro i hi
    have e := ih (i + 1) (by omega)
    have hi' : (i : Int) < N := by omega
    have s1 := row_at (intsC w) N i (by omega)
    have q1 := cut1_intsC w i (by omega)
    have w1 := wrap64 ((i : Int) + 1) (by omega)
    rw [show (((i + 1 : Nat)) : Int) = i + 1 by omega] at e
    simp only [cmpFr] at e
    rw [Z_loop_eq]
    simp [loopStep, run_F58l0, cmpFr, len_sl, hi', s1, q1, w1, calm, alone, e]
theorem same_Z (w : List Int) (N : Nat) (hN : w.length = N) (hN1 : N < 1000) : Z prog16 (.call 58 [.dat (.sl (intsC w) N false), .dat (.sl (intsC w) N false)] []) = some (.ret (.bool true) []) := by
  have e := same_loop w N hN hN1 N 0 (by omega)
  rw [show ((0 : Nat) : Int) = 0 from rfl] at e
  simp only [cmpFr] at e
  refine Z_call (pf := F58) rfl rfl ?_
  simp [F58, len_sl, e]
def sS (s : Su) (c : List (Nat × Int)) (e0 e1 e2 : Int) (cs : List Int) (N : Nat) : Option (List D × Nat) → S
  | none => [suOb s, .cells [.dat (codeD false c), .int e0, .int e1, .int e2], .cells [.msl 3 0 N N 1, .dat (.lit (.slice none 0 0)), .int 0], .cells (ints cs)]
  | some (lg, k) => [suOb s, .cells [.dat (codeD false c), .int e0, .int e1, .int e2], .cells [.msl 3 0 N N 1, .gsl lg k 2 4, .int 0], .cells (ints cs), .tip (k * 2)]
def sqFr (cs : List Int) (N : Nat) (i : Int) : Fr := [(11, .ptr 0 0), (12, .ptr 1 0), (13, .dat (.sl (intsC cs) N false)), (14, .ptr 2 0), (18, .int i)]
set_option maxHeartbeats 8000000
theorem sq0 (s : Su) (c : List (Nat × Int)) (e0 e1 e2 : Int) (cs cs' : List Int) (N : Nat)  (i : Nat) (ended em : Bool) (x1 x2 x3 x4 : Int) (hN : cs.length = N) (hN' : cs'.length = N) (hN1 : N < 1000) (hi : i < 40) (hend : ended = false ∨ i ≤ 3)
    (hr : Z prog16 (.call 57 [.dat (.sl (intsC cs) N false), s.d, progD false c e0 e1 e2] []) = some (.ret (.tup [.dat (.sl (intsC cs') N false), .bool ended, .dat (.agg (intsC [x1, x2, x3, x4])), .bool em]) []))
    (hst : Z prog16 (.call 52 [.iface 0 (.ptr 0 0), s.d, progD false c e0 e1 e2] (mem0 cs N)) = some (.ret (.tup [.bool ended, .dat (.agg (intsC [x1, x2, x3, x4])), .bool em]) (mem0 cs' N))) :
    Z prog16 (.loop 0 F43l0 (sqFr cs N i) (sS s c e0 e1 e2 cs N (none))) = Z prog16 (.loop 0 F43l0 (sqFr cs' N (i + 1 : Nat)) (sS s c e0 e1 e2 cs' N (none))) := by
  have zc := cells0_Z cs' N hN' (by omega)
  have zs := same_Z cs' N hN' hN1
  have hi' : (i : Int) < 40 := by omega
  have w1 := wrap64 ((i : Int) + 1) (by omega)
  simp only [sqFr, sS, suOb, mem0, mem1, progD, Su.d, Su.c, List.map, intsC_nil, intsC_cons] at *
  cases hb : ended with
  | false =>
    subst hb
    rw [Z_loop_eq]
    simp [loopStep, run_F43l0, sqFr, List.range_succ, len_sl, hr, hst, zc, zs, hi', w1]
    refine Z_loop_cong ?_
    simp [List.range_succ]
  | true =>
    subst hb
    have h3' : ¬ (3 : Int) < i := by rcases hend with h | h; cases h; omega
    rw [Z_loop_eq]
    simp [loopStep, run_F43l0, sqFr, List.range_succ, len_sl, hr, hst, zc, zs, hi', w1, h3']
    refine Z_loop_cong ?_
    simp [List.range_succ]
theorem sq01 (s : Su) (c : List (Nat × Int)) (e0 e1 e2 : Int) (cs cs' : List Int) (N : Nat) (lg' : List D) (k' : Nat) (i : Nat) (ended em : Bool) (x1 x2 x3 x4 : Int) (hN : cs.length = N) (hN' : cs'.length = N) (hN1 : N < 1000) (hi : i < 40) (hend : ended = false ∨ i ≤ 3)
    (hr : Z prog16 (.call 57 [.dat (.sl (intsC cs) N false), s.d, progD false c e0 e1 e2] []) = some (.ret (.tup [.dat (.sl (intsC cs') N false), .bool ended, .dat (.agg (intsC [x1, x2, x3, x4])), .bool em]) []))
    (hst : Z prog16 (.call 52 [.iface 0 (.ptr 0 0), s.d, progD false c e0 e1 e2] (mem0 cs N)) = some (.ret (.tup [.bool ended, .dat (.agg (intsC [x1, x2, x3, x4])), .bool em]) (mem1 cs' N lg' k' (k' * 2)))) :
    Z prog16 (.loop 0 F43l0 (sqFr cs N i) (sS s c e0 e1 e2 cs N (none))) = Z prog16 (.loop 0 F43l0 (sqFr cs' N (i + 1 : Nat)) (sS s c e0 e1 e2 cs' N (some (lg', k')))) := by
  have zc := cells1_Z cs' N lg' k' (k' * 2) hN' (by omega)
  have zs := same_Z cs' N hN' hN1
  have hi' : (i : Int) < 40 := by omega
  have w1 := wrap64 ((i : Int) + 1) (by omega)
  simp only [sqFr, sS, suOb, mem0, mem1, progD, Su.d, Su.c, List.map, intsC_nil, intsC_cons] at *
  cases hb : ended with
  | false =>
    subst hb
    rw [Z_loop_eq]
    simp [loopStep, run_F43l0, sqFr, List.range_succ, len_sl, hr, hst, zc, zs, hi', w1]
    refine Z_loop_cong ?_
    simp [List.range_succ]
  | true =>
    subst hb
    have h3' : ¬ (3 : Int) < i := by rcases hend with h | h; cases h; omega
    rw [Z_loop_eq]
    simp [loopStep, run_F43l0, sqFr, List.range_succ, len_sl, hr, hst, zc, zs, hi', w1, h3']
    refine Z_loop_cong ?_
    simp [List.range_succ]
theorem sq1 (s : Su) (c : List (Nat × Int)) (e0 e1 e2 : Int) (cs cs' : List Int) (N : Nat) (lg lg' : List D) (k k' : Nat) (i : Nat) (ended em : Bool) (x1 x2 x3 x4 : Int) (hN : cs.length = N) (hN' : cs'.length = N) (hN1 : N < 1000) (hi : i < 40) (hend : ended = false ∨ i ≤ 3)
    (hr : Z prog16 (.call 57 [.dat (.sl (intsC cs) N false), s.d, progD false c e0 e1 e2] []) = some (.ret (.tup [.dat (.sl (intsC cs') N false), .bool ended, .dat (.agg (intsC [x1, x2, x3, x4])), .bool em]) []))
    (hst : Z prog16 (.call 52 [.iface 0 (.ptr 0 0), s.d, progD false c e0 e1 e2] (mem1 cs N lg k (k * 2))) = some (.ret (.tup [.bool ended, .dat (.agg (intsC [x1, x2, x3, x4])), .bool em]) (mem1 cs' N lg' k' (k' * 2)))) :
    Z prog16 (.loop 0 F43l0 (sqFr cs N i) (sS s c e0 e1 e2 cs N (some (lg, k)))) = Z prog16 (.loop 0 F43l0 (sqFr cs' N (i + 1 : Nat)) (sS s c e0 e1 e2 cs' N (some (lg', k')))) := by
  have zc := cells1_Z cs' N lg' k' (k' * 2) hN' (by omega)
  have zs := same_Z cs' N hN' hN1
  have hi' : (i : Int) < 40 := by omega
  have w1 := wrap64 ((i : Int) + 1) (by omega)
  simp only [sqFr, sS, suOb, mem0, mem1, progD, Su.d, Su.c, List.map, intsC_nil, intsC_cons] at *
  cases hb : ended with
  | false =>
    subst hb
    rw [Z_loop_eq]
    simp [loopStep, run_F43l0, sqFr, List.range_succ, len_sl, hr, hst, zc, zs, hi', w1]
    refine Z_loop_cong ?_
    simp [List.range_succ]
  | true =>
    subst hb
    have h3' : ¬ (3 : Int) < i := by rcases hend with h | h; cases h; omega
    rw [Z_loop_eq]
    simp [loopStep, run_F43l0, sqFr, List.range_succ, len_sl, hr, hst, zc, zs, hi', w1, h3']
    refine Z_loop_cong ?_
    simp [List.range_succ]
theorem sq0x (s : Su) (c : List (Nat × Int)) (e0 e1 e2 : Int) (cs cs' : List Int) (N : Nat)  (i : Nat) (ended em : Bool) (x1 x2 x3 x4 : Int) (hN : cs.length = N) (hN' : cs'.length = N) (hN1 : N < 1000) (hi : i < 40) (hend : ended = true) (h3 : 3 < i)
    (hr : Z prog16 (.call 57 [.dat (.sl (intsC cs) N false), s.d, progD false c e0 e1 e2] []) = some (.ret (.tup [.dat (.sl (intsC cs') N false), .bool ended, .dat (.agg (intsC [x1, x2, x3, x4])), .bool em]) []))
    (hst : Z prog16 (.call 52 [.iface 0 (.ptr 0 0), s.d, progD false c e0 e1 e2] (mem0 cs N)) = some (.ret (.tup [.bool ended, .dat (.agg (intsC [x1, x2, x3, x4])), .bool em]) (mem0 cs' N))) :
    ∃ fr σ, Z prog16 (.loop 0 F43l0 (sqFr cs N i) (sS s c e0 e1 e2 cs N (none))) = some (.out (.exit 0) fr σ) := by
  have zc := cells0_Z cs' N hN' (by omega)
  have zs := same_Z cs' N hN' hN1
  have hi' : (i : Int) < 40 := by omega
  have w1 := wrap64 ((i : Int) + 1) (by omega)
  simp only [sqFr, sS, suOb, mem0, mem1, progD, Su.d, Su.c, List.map, intsC_nil, intsC_cons] at *
  subst hend
  have h3' : (3 : Int) < i := by omega
  rw [Z_loop_eq]
  simp [loopStep, run_F43l0, sqFr, List.range_succ, len_sl, hr, hst, zc, zs, hi', w1, h3']
theorem sq01x (s : Su) (c : List (Nat × Int)) (e0 e1 e2 : Int) (cs cs' : List Int) (N : Nat) (lg' : List D) (k' : Nat) (i : Nat) (ended em : Bool) (x1 x2 x3 x4 : Int) (hN : cs.length = N) (hN' : cs'.length = N) (hN1 : N < 1000) (hi : i < 40) (hend : ended = true) (h3 : 3 < i)
    (hr : Z prog16 (.call 57 [.dat (.sl (intsC cs) N false), s.d, progD false c e0 e1 e2] []) = some (.ret (.tup [.dat (.sl (intsC cs') N false), .bool ended, .dat (.agg (intsC [x1, x2, x3, x4])), .bool em]) []))
    (hst : Z prog16 (.call 52 [.iface 0 (.ptr 0 0), s.d, progD false c e0 e1 e2] (mem0 cs N)) = some (.ret (.tup [.bool ended, .dat (.agg (intsC [x1, x2, x3, x4])), .bool em]) (mem1 cs' N lg' k' (k' * 2)))) :
    ∃ fr σ, Z prog16 (.loop 0 F43l0 (sqFr cs N i) (sS s c e0 e1 e2 cs N (none))) = some (.out (.exit 0) fr σ) := by
  have zc := cells1_Z cs' N lg' k' (k' * 2) hN' (by omega)
  have zs := same_Z cs' N hN' hN1
  have hi' : (i : Int) < 40 := by omega
  have w1 := wrap64 ((i : Int) + 1) (by omega)
  simp only [sqFr, sS, suOb, mem0, mem1, progD, Su.d, Su.c, List.map, intsC_nil, intsC_cons] at *
  subst hend
  have h3' : (3 : Int) < i := by omega
  rw [Z_loop_eq]
  simp [loopStep, run_F43l0, sqFr, List.range_succ, len_sl, hr, hst, zc, zs, hi', w1, h3']
theorem sq1x (s : Su) (c : List (Nat × Int)) (e0 e1 e2 : Int) (cs cs' : List Int) (N : Nat) (lg lg' : List D) (k k' : Nat) (i : Nat) (ended em : Bool) (x1 x2 x3 x4 : Int) (hN : cs.length = N) (hN' : cs'.length = N) (hN1 : N < 1000) (hi : i < 40) (hend : ended = true) (h3 : 3 < i)
    (hr : Z prog16 (.call 57 [.dat (.sl (intsC cs) N false), s.d, progD false c e0 e1 e2] []) = some (.ret (.tup [.dat (.sl (intsC cs') N false), .bool ended, .dat (.agg (intsC [x1, x2, x3, x4])), .bool em]) []))
    (hst : Z prog16 (.call 52 [.iface 0 (.ptr 0 0), s.d, progD false c e0 e1 e2] (mem1 cs N lg k (k * 2))) = some (.ret (.tup [.bool ended, .dat (.agg (intsC [x1, x2, x3, x4])), .bool em]) (mem1 cs' N lg' k' (k' * 2)))) :
    ∃ fr σ, Z prog16 (.loop 0 F43l0 (sqFr cs N i) (sS s c e0 e1 e2 cs N (some (lg, k)))) = some (.out (.exit 0) fr σ) := by
  have zc := cells1_Z cs' N lg' k' (k' * 2) hN' (by omega)
  have zs := same_Z cs' N hN' hN1
  have hi' : (i : Int) < 40 := by omega
  have w1 := wrap64 ((i : Int) + 1) (by omega)
  simp only [sqFr, sS, suOb, mem0, mem1, progD, Su.d, Su.c, List.map, intsC_nil, intsC_cons] at *
  subst hend
  have h3' : (3 : Int) < i := by omega
  rw [Z_loop_eq]
  simp [loopStep, run_F43l0, sqFr, List.range_succ, len_sl, hr, hst, zc, zs, hi', w1, h3']
theorem sqend (s : Su) (c : List (Nat × Int)) (e0 e1 e2 : Int) (cs : List Int) (N : Nat) (M : Option (List D × Nat)) :
    ∃ fr σ, Z prog16 (.loop 0 F43l0 (sqFr cs N (40 : Nat)) (sS s c e0 e1 e2 cs N M)) = some (.out (.exit 0) fr σ) := by
  cases M with
  | none =>
    rw [Z_loop_eq]
    simp [loopStep, run_F43l0, sqFr, sS, suOb, Su.c, List.range_succ]
  | some m =>
    obtain ⟨lg, kk⟩ := m
    rw [Z_loop_eq]
    simp [loopStep, run_F43l0, sqFr, sS, suOb, Su.c, List.range_succ]
theorem sqall (s : Su) (hs : s.ok) (c : List (Nat × Int)) (e0 e1 e2 : Int) (N : Nat) (h : N = s.n) (hc : ∀ x ∈ c, 1 ≤ x.1 ∧ x.1 ≤ 21) (hcl : c.length < 2^30) (m : Nat) :
    ∀ (i : Nat) (cs : List Int) (M : Option (List D × Nat)) (b : Nat), i + m = 40 → cs.length = N → okM M b → b + 6 * m < 10000 →
    ∃ fr σ, Z prog16 (.loop 0 F43l0 (sqFr cs N i) (sS s c e0 e1 e2 cs N M)) = some (.out (.exit 0) fr σ) := by
  have hp := hs.p3; have hq := hs.b5
  have hN1 : 48 ≤ N ∧ N < 1000 := by rw [h]; unfold Su.n; omega
  induction m with
  | zero =>
    intro i cs M b hi hN hM hb
    have : i = 40 := by omega
    subst this
    exact sqend s c e0 e1 e2 cs N M
  | succ m ih =>
    intro i cs M b hi hN hM hb
    obtain ⟨x1, x2, x3, x4, hx⟩ := stepR_four s c cs
    have hlen : (stepR s c cs).cs.length = N := by rw [stepR_length]; exact hN
    have hr := rstep_Z (f := false) (e0 := e0) (e1 := e1) (e2 := e2) hs hN h hc
    rw [rOut, hx] at hr
    cases M with
    | none =>
      rcases any0 s c false e0 e1 e2 cs N hs hN h hc hcl with ⟨h1, h2⟩ | ⟨lg', k', h1, h2, h3⟩
      · rw [StR.v, hx] at h2
        have hcs : (stepR s c cs).cs = cs := by rw [h1]
        rw [hcs] at hr
        by_cases hend : (stepR s c cs).ended = true ∧ 3 < i
        · exact sq0x s c e0 e1 e2 cs cs N i _ _ x1 x2 x3 x4 hN hN hN1.2 (by omega) hend.1 hend.2 hr h2
        · have z := sq0 s c e0 e1 e2 cs cs N i _ _ x1 x2 x3 x4 hN hN hN1.2 (by omega) (by cases hb : (stepR s c cs).ended with | false => exact .inl rfl | true => rw [hb] at hend; right; simp at hend; exact hend) hr h2
          obtain ⟨fr, σ, g⟩ := ih (i + 1) cs none b (by omega) hN trivial (by omega)
          exact ⟨fr, σ, z.trans g⟩
      · rw [StR.v, hx] at h3
        by_cases hend : (stepR s c cs).ended = true ∧ 3 < i
        · exact sq01x s c e0 e1 e2 cs _ N lg' k' i _ _ x1 x2 x3 x4 hN hlen hN1.2 (by omega) hend.1 hend.2 hr h3
        · have z := sq01 s c e0 e1 e2 cs _ N lg' k' i _ _ x1 x2 x3 x4 hN hlen hN1.2 (by omega) (by cases hb : (stepR s c cs).ended with | false => exact .inl rfl | true => rw [hb] at hend; right; simp at hend; exact hend) hr h3
          obtain ⟨fr, σ, g⟩ := ih (i + 1) _ (some (lg', k')) 6 (by omega) hlen ⟨h1, h2⟩ (by omega)
          exact ⟨fr, σ, z.trans g⟩
    | some q =>
      obtain ⟨lg, k⟩ := q
      obtain ⟨m1, m2⟩ := hM
      obtain ⟨lg', k', h1, h2, h3⟩ := any1 s c false e0 e1 e2 cs N lg k m1 (by omega) hs hN h hc hcl
      rw [StR.v, hx] at h3
      by_cases hend : (stepR s c cs).ended = true ∧ 3 < i
      · exact sq1x s c e0 e1 e2 cs _ N lg lg' k k' i _ _ x1 x2 x3 x4 hN hlen hN1.2 (by omega) hend.1 hend.2 hr h3
      · have z := sq1 s c e0 e1 e2 cs _ N lg lg' k k' i _ _ x1 x2 x3 x4 hN hlen hN1.2 (by omega) (by cases hb : (stepR s c cs).ended with | false => exact .inl rfl | true => rw [hb] at hend; right; simp at hend; exact hend) hr h3
        obtain ⟨fr, σ, g⟩ := ih (i + 1) _ (some (lg', k')) (b + 6) (by omega) hlen ⟨h1, by omega⟩ (by omega)
        exact ⟨fr, σ, z.trans g⟩
theorem vmSteps_Z {d1 d2 d3 : D} {xs1 xs2 xs3 : List Int} (h1 : IsRow d1 xs1) (i1 : ∀ x ∈ xs1, I64 x) (h2 : IsRow d2 xs2) (i2 : ∀ x ∈ xs2, I64 x) (h3 : IsRow d3 xs3) (i3 : ∀ x ∈ xs3, I64 x) {a b : Int} (ha : I64 a) (hb : I64 b) :
    Z prog16 (.call 43 [.dat d1, .dat d2, .dat d3, .int a, .int b] []) = some (.ret (.bool true) []) := by
  obtain ⟨s, bs, hs, hbb, hbl, zs⟩ := setup_Z h1 i1
  obtain ⟨w, hw, zw⟩ := cells_Z s hs bs hbb hbl h3 i3
  obtain ⟨c, e0, e1, e2, hcl, hc, zc⟩ := code_Z h2 i2
  have hp := hs.p3; have hq := hs.b5
  have hN : 48 ≤ s.n ∧ s.n < 1000 := by unfold Su.n; omega
  have zn := new_Z w s.n false hw (by omega)
  have za := around_Z ha (m := 6) (by omega)
  have hra := around_lt ha (m := 6) (by omega)
  have zb := around_Z hb (m := 30) (by omega)
  generalize around a 6 = A at *
  generalize around b 30 = B at *
  have w1 := wrap64 (A - 1) (by omega)
  obtain ⟨h, hh⟩ : ∃ h, h = A - 1 := ⟨_, rfl⟩
  rw [← hh] at w1
  have w2 : IntKind.i64.wrap (A - 1) = h := by rw [← hh]; exact w1
  have codes := codeD false c
  by_cases hst : h < 0 ∨ 3 ≤ h ∨ entI e0 e1 e2 h < 0
  · have zr := rstart_no (cs := w) (N := s.n) (c := c) (f := false) (self := 2) (other := 7) (fuel := B) hst
    have zv := startno0 (c := c) (f := false) (cs := w) (N := s.n) (self := 2) (other := 7) (fuel := B) hst
    obtain ⟨fr, σ, g⟩ := sqall s hs c e0 e1 e2 s.n rfl hc (by omega) 40 0 w none 0 rfl hw trivial (by omega)
    have zl := (Z_loop_cong (k := 0) (b := F43l0) (fr := [(11, .ptr 0 0), (12, .ptr 1 0), (13, .dat (.sl (intsC w) s.n false)), (14, .ptr 2 0), (18, .int 0)]) (σ := [suOb s, .cells [.dat (codeD false c), .int e0, .int e1, .int e2], .cells [.msl 3 0 s.n s.n 1, .dat (.lit (.slice none 0 0)), .int 0], .cells (ints w)]) (by simp [sqFr, sS, suOb, Su.c, List.range_succ])).trans g
    refine Z_call (pf := F43) rfl rfl ?_
    simp only [suOb, mem0, mem1, progD, Su.d, Su.c, List.map] at *
    by_cases h0 : a.tmod 3 = 0
    · simp [F43, zs, zw, zc, zn, za, zb, w2, zr, zv, zl, h0, lives_Z, List.range_succ, calm, alone]
    · simp [F43, zs, zw, zc, zn, za, zb, w2, zr, zv, zl, h0, lives_Z, List.range_succ, calm, alone]
  · have zr := rstart_yes (cs := w) (N := s.n) (c := c) (f := false) (self := 2) (other := 7) (fuel := B) hw hN.1 hN.2 hst
    by_cases h0 : a.tmod 3 = 0
    · obtain ⟨fr, σ, g⟩ := sqall s hs c e0 e1 e2 s.n rfl hc (by omega) 40 0 w none 0 rfl hw trivial (by omega)
      have zl := (Z_loop_cong (k := 0) (b := F43l0) (fr := [(11, .ptr 0 0), (12, .ptr 1 0), (13, .dat (.sl (intsC w) s.n false)), (14, .ptr 2 0), (18, .int 0)]) (σ := [suOb s, .cells [.dat (codeD false c), .int e0, .int e1, .int e2], .cells [.msl 3 0 s.n s.n 1, .dat (.lit (.slice none 0 0)), .int 0], .cells (ints w)]) (by simp [sqFr, sS, suOb, Su.c, List.range_succ])).trans g
      refine Z_call (pf := F43) rfl rfl ?_
      simp only [suOb, mem0, mem1, progD, Su.d, Su.c, List.map] at *
      simp [F43, zs, zw, zc, zn, za, zb, w2, zr, zl, h0, lives_Z, List.range_succ, calm, alone]
    · obtain ⟨lg, k, a1, a2, a3⟩ := begin0_Z c false e0 e1 e2 h 2 7 B w s.n hw hN.1 hst
      obtain ⟨fr, σ, g⟩ := sqall s hs c e0 e1 e2 s.n rfl hc (by omega) 40 0 (startC w (entI e0 e1 e2 h) B 2 7) (some (lg, k)) 5 rfl (by simp [hw]) ⟨a1, a2⟩ (by omega)
      generalize startC w (entI e0 e1 e2 h) B 2 7 = cs at *
      have zl := (Z_loop_cong (k := 0) (b := F43l0) (fr := [(11, .ptr 0 0), (12, .ptr 1 0), (13, .dat (.sl (intsC cs) s.n false)), (14, .ptr 2 0), (18, .int 0)]) (σ := [suOb s, .cells [.dat (codeD false c), .int e0, .int e1, .int e2], .cells [.msl 3 0 s.n s.n 1, .gsl lg k 2 4, .int 0], .cells (ints cs), .tip (k * 2)]) (by simp [sqFr, sS, suOb, Su.c, List.range_succ])).trans g
      refine Z_call (pf := F43) rfl rfl ?_
      simp only [suOb, mem0, mem1, progD, Su.d, Su.c, List.map] at *
      simp [F43, zs, zw, zc, zn, za, zb, w2, zr, a3, zl, h0, lives_Z, List.range_succ, calm, alone]
end Go.Pm
end SV38
