/- Chapter 16: one step of the reference. -/
import Derived.Test.YtemenmjobfmelaaDoorPmV33
set_option linter.unusedSimpArgs false
set_option linter.unusedVariables false
section SV36
set_option linter.unusedSimpArgs false
set_option linter.unusedVariables false
namespace Go.Pm
open F
/-- The cells ahead of an instruction's own work, as the reference has them. -/
def rL (cs : List Int) (p : Int) : List Int := setI (setI (setI cs 8 (wr (getN cs 8 - 1))) 6 (wr (getN cs 6 + 1))) 7 (getN cs 7 - p)
@[simp] theorem rL_length (cs : List Int) (p : Int) : (rL cs p).length = cs.length := by simp [rL]
theorem rL_get {cs : List Int} {p : Int} {j : Nat} (h6 : j ≠ 6) (h7 : j ≠ 7) (h8 : j ≠ 8) : getN (rL cs p) j = getN cs j := by
  unfold rL
  rw [getN_set_ne (by simp; omega), getN_set_ne (by simp; omega), getN_set_ne (by simp; omega)]
theorem cut_own {cs : List Int} (i v : Int) (h0 : 0 ≤ i) (h : i < cs.length) (hv : getN cs i.toNat = v) : cutCells (ints cs) i.toNat 1 = some [V.int v] := by
  rw [cut1_ints cs i (by omega), ← hv]; rfl
theorem cut_own' {cs : List Int} (i : Nat) (v : Int) (h : i < cs.length) (hv : getN cs i = v) : cutCells (ints cs) i 1 = some [V.int v] := by
  rw [cut1_ints' cs i h, hv]
theorem intsC_nil : intsC [] = [] := rfl
theorem intsC_cons (x : Int) (xs : List Int) : intsC (x :: xs) = .lit (.int .i64 x) :: intsC xs := rfl
set_option maxHeartbeats 8000000
theorem rs1 {s : Su} {cs : List Int} {N : Nat} {c : List (Nat × Int)} {f : Bool} {e0 e1 e2 n : Int} {op : Nat} (hs : s.ok) (hN : cs.length = N) (h : N = s.n) (hc : ∀ x ∈ c, 1 ≤ x.1 ∧ x.1 ≤ 21) (hcan : canStep c cs = true) (hi : insAt c (getI cs 6) = (op, n)) (hop : op = 1) :
    Z prog16 (.call 57 [.dat (.sl (intsC cs) N false), s.d, progD f c e0 e1 e2] []) = some (.ret (.tup [.dat (.sl (intsC (setI (setI (rL cs 0) (16 + getN cs 7) (n)) 7 (getN cs 7 + 1))) N false), .bool false, .dat (.agg (intsC [0, 0, 0, 0])), .bool false]) []) := by
  have h48 : 48 ≤ N ∧ N < 1000 := by have := hs.p3; have := hs.b5; rw [h]; unfold Su.n; omega
  have zv := valid_Z (f := f) (e0 := e0) (e1 := e1) (e2 := e2) hN h48.1 h48.2 hc
  rw [hcan] at zv
  simp only [canStep, Bool.and_eq_true, Bool.not_eq_true', Bool.or_eq_false_iff, decide_eq_false_iff_not] at hcan
  obtain ⟨⟨hf, hp0, hp1⟩, hx⟩ := hcan
  obtain ⟨hx1, hx2, hx3, hx4⟩ := exOk_spec hx
  have hiL : (getI cs 6).toNat < c.length := by omega
  have hins : insAt c (getI cs 6) = c[(getI cs 6).toNat] := by simp [insAt, List.getD_eq_getElem?_getD, hiL]
  have hcut := cut2_codeC c _ hiL
  have hat := at_codeD f c (getI cs 6) (by omega) (by omega)
  rw [← hins, hi] at hcut
  rw [hi] at hx2 hx3 hx4
  simp only at hcut hx2 hx3 hx4
  have g6 : getI cs 6 = getN cs 6 := rfl
  have g7 : getI cs 7 = getN cs 7 := rfl
  rw [g6] at hat hcut
  rw [g7] at hx1 hx2 hx3
  have eP : popsN op = 0 := by subst hop; rfl
  have eQ : pushN op = 1 := by subst hop; rfl
  have ho1 : 1 ≤ op ∧ op ≤ 21 := by omega
  have zp : Z prog16 (.call 68 [.int op] []) = some (.ret (.int 0) []) := by have := pops_Z op ho1.1 ho1.2; rw [eP] at this; exact this
  have zq : Z prog16 (.call 72 [.int op] []) = some (.ret (.int 1) []) := by have := push_Z op ho1.1 ho1.2; rw [eQ] at this; exact this
  rw [eP] at hx2
  rw [eP, eQ] at hx3
  simp only [Int.ofNat_zero, Int.ofNat_one, Int.cast_ofNat_Int] at hx2 hx3
  have d1 : decide ((op : Int) = 1) = true := by simp; omega
  have d2 : decide ((op : Int) = 2) = false := by simp; omega
  have d6 : decide ((op : Int) = 6) = false := by simp; omega
  have d7 : decide ((op : Int) = 7) = false := by simp; omega
  have d8 : decide ((op : Int) = 8) = false := by simp; omega
  have d4 : decide ((op : Int) = 4) = false := by simp; omega
  have d3 : decide ((op : Int) = 3) = false := by simp; omega
  have d5 : decide ((op : Int) = 5) = false := by simp; omega
  have d18 : decide ((op : Int) = 18) = false := by simp; omega
  have d19 : decide ((op : Int) = 19) = false := by simp; omega
  have d21 : decide ((op : Int) = 21) = false := by simp; omega
  have d20 : decide ((op : Int) = 20) = false := by simp; omega
  have r6 : sliceAddr 1 (.dat (.sl (intsC cs) N false)) 6 = some (.dat (.imm (intsC cs) 6)) := row_at _ N 6 (by omega)
  have q6 := cut1_intsC cs 6 (by omega)
  have p6 : ∀ l, sliceAddr 1 (.own l N 1) 6 = some (.eptr l N 6) := fun l => own_at l N 6 (by omega)
  have p7 : ∀ l, sliceAddr 1 (.own l N 1) 7 = some (.eptr l N 7) := fun l => own_at l N 7 (by omega)
  have p8 : ∀ l, sliceAddr 1 (.own l N 1) 8 = some (.eptr l N 8) := fun l => own_at l N 8 (by omega)
  have hr : roomFor N 8 = true := by simp [roomFor]; omega
  have hn0 : ¬ N = 0 := by omega
  have e1' : (intsC cs).map V.dat = ints cs := by simp [intsC, ints]
  obtain ⟨L1, hL1⟩ : ∃ L, L = setI cs 8 (wr (getN cs 8 - 1)) := ⟨_, rfl⟩
  obtain ⟨L2, hL2⟩ : ∃ L, L = setI L1 6 (wr (getN cs 6 + 1)) := ⟨_, rfl⟩
  obtain ⟨L3, hL3⟩ : ∃ L, L = setI L2 7 (getN cs 7) := ⟨_, rfl⟩
  have hR : rL cs 0 = L3 := by rw [hL3, hL2, hL1]; simp [rL]
  have n1 : L1.length = N := by rw [hL1]; simp [hN]
  have n2 : L2.length = N := by rw [hL2]; simp [n1]
  have n3 : L3.length = N := by rw [hL3]; simp [n2]
  have u8 := cut_own' (cs := cs) 8 _ (by omega) rfl
  have u6 : cutCells (ints L1) 6 1 = some [V.int (getN cs 6)] := cut_own' 6 _ (by omega) (by rw [hL1, getN_set_ne (by decide)])
  have u7 : cutCells (ints L2) 7 1 = some [V.int (getN cs 7)] := cut_own' 7 _ (by omega) (by rw [hL2, getN_set_ne (by decide), hL1, getN_set_ne (by decide)])
  have u7' : cutCells (ints L3) 7 1 = some [V.int (getN cs 7)] := cut_own' 7 _ (by omega) (by rw [hL3, getN_set_eq (by decide) (by omega)])
  have t8 : (ints cs).take 8 ++ (V.int (wr (getN cs 8 - 1)) :: (ints cs).drop 9) = ints L1 := by rw [hL1]; exact set_ints cs 8 _ (by omega)
  have t6 : (ints L1).take 6 ++ (V.int (wr (getN cs 6 + 1)) :: (ints L1).drop 7) = ints L2 := by rw [hL2]; exact set_ints L1 6 _ (by omega)
  have t7 : (ints L2).take 7 ++ (V.int (getN cs 7) :: (ints L2).drop 8) = ints L3 := by rw [hL3]; exact set_ints L2 7 _ (by omega)
  have k9 : 9 ≤ N := by omega
  have k7 : 7 ≤ N := by omega
  have k8 : 8 ≤ N := by omega
  have keep : ∀ j : Nat, j ≠ 6 → j ≠ 7 → j ≠ 8 → getN L3 j = getN cs j := fun j a b d => by rw [← hR]; exact rL_get a b d
  have z0 : ¬ (0 : Int) > 0 := by omega
  obtain ⟨B, hB⟩ : ∃ B : Int, B = getN cs 7 := ⟨_, rfl⟩
  have B0 : 0 ≤ B ∧ B ≤ 16 := by omega
  rw [← hB] at u7' t7
  have w7 : wr (getN cs 7) = B := by rw [hB]; exact wrap64 _ (by omega)
  have wB : wr (16 + B) = 16 + B := wrap64 _ (by omega)
  have wB1 : wr (16 + B + 1) = 16 + B + 1 := wrap64 _ (by omega)
  have wB2 : wr (B + 1) = B + 1 := wrap64 _ (by omega)
  have pB := fun l => at_own l N (16 + B) (by omega) (by omega)
  have pB1 := fun l => at_own l N (16 + B + 1) (by omega) (by omega)
  have kB : (16 + B).toNat + 1 ≤ N := by omega
  have uB := cut_own (cs := L3) (16 + B) _ (by omega) (by omega) (keep (16 + B).toNat (by omega) (by omega) (by omega))
  have uB1 := cut_own (cs := L3) (16 + B + 1) _ (by omega) (by omega) (keep (16 + B + 1).toNat (by omega) (by omega) (by omega))
  have tB : ∀ v, (ints L3).take (16 + B).toNat ++ (V.int v :: (ints L3).drop ((16 + B).toNat + 1)) = ints (setI L3 (16 + B) v) := fun v => set_ints L3 _ v (by omega)
  have tB2 : ∀ v, (ints (setI L3 (16 + B) v)).take 7 ++ (V.int (B + 1) :: (ints (setI L3 (16 + B) v)).drop 8) = ints (setI (setI L3 (16 + B) v) 7 (B + 1)) := fun v => set_ints _ 7 _ (by simp; omega)
  have nB : ∀ v, (setI L3 (16 + B) v).length = N := fun v => by simp [n3]
  have nB2 : ∀ v, (setI (setI L3 (16 + B) v) 7 (B + 1)).length = N := fun v => by simp [n3]
  rw [← hB]
  rw [hR]
  refine Z_call (pf := F57) rfl rfl ?_
  simp only [Su.d, Su.c, progD] at *
  simp [F57, List.range_succ, calm, alone, zv, hat, hcut, zp, zq, d1, d2, d6, d7, d8, d4, d3, d5, d18, d19, d21, d20, r6, q6, p6, p7, p8, hr, hn0, e1', hN, n1, n2, n3, u8, u6, u7, u7', t8, t6, t7, w7, k9, k7, k8, wB, wB1, wB2, pB, pB1, kB, uB, uB1, tB, tB2, nB, nB2, intsC_nil, intsC_cons]
theorem rs2 {s : Su} {cs : List Int} {N : Nat} {c : List (Nat × Int)} {f : Bool} {e0 e1 e2 n : Int} {op : Nat} (hs : s.ok) (hN : cs.length = N) (h : N = s.n) (hc : ∀ x ∈ c, 1 ≤ x.1 ∧ x.1 ≤ 21) (hcan : canStep c cs = true) (hi : insAt c (getI cs 6) = (op, n)) (hop : op = 2) :
    Z prog16 (.call 57 [.dat (.sl (intsC cs) N false), s.d, progD f c e0 e1 e2] []) = some (.ret (.tup [.dat (.sl (intsC (setI (setI (rL cs 0) (16 + getN cs 7) (getN cs (32 + n).toNat)) 7 (getN cs 7 + 1))) N false), .bool false, .dat (.agg (intsC [0, 0, 0, 0])), .bool false]) []) := by
  have h48 : 48 ≤ N ∧ N < 1000 := by have := hs.p3; have := hs.b5; rw [h]; unfold Su.n; omega
  have zv := valid_Z (f := f) (e0 := e0) (e1 := e1) (e2 := e2) hN h48.1 h48.2 hc
  rw [hcan] at zv
  simp only [canStep, Bool.and_eq_true, Bool.not_eq_true', Bool.or_eq_false_iff, decide_eq_false_iff_not] at hcan
  obtain ⟨⟨hf, hp0, hp1⟩, hx⟩ := hcan
  obtain ⟨hx1, hx2, hx3, hx4⟩ := exOk_spec hx
  have hiL : (getI cs 6).toNat < c.length := by omega
  have hins : insAt c (getI cs 6) = c[(getI cs 6).toNat] := by simp [insAt, List.getD_eq_getElem?_getD, hiL]
  have hcut := cut2_codeC c _ hiL
  have hat := at_codeD f c (getI cs 6) (by omega) (by omega)
  rw [← hins, hi] at hcut
  rw [hi] at hx2 hx3 hx4
  simp only at hcut hx2 hx3 hx4
  have g6 : getI cs 6 = getN cs 6 := rfl
  have g7 : getI cs 7 = getN cs 7 := rfl
  rw [g6] at hat hcut
  rw [g7] at hx1 hx2 hx3
  have eP : popsN op = 0 := by subst hop; rfl
  have eQ : pushN op = 1 := by subst hop; rfl
  have ho1 : 1 ≤ op ∧ op ≤ 21 := by omega
  have zp : Z prog16 (.call 68 [.int op] []) = some (.ret (.int 0) []) := by have := pops_Z op ho1.1 ho1.2; rw [eP] at this; exact this
  have zq : Z prog16 (.call 72 [.int op] []) = some (.ret (.int 1) []) := by have := push_Z op ho1.1 ho1.2; rw [eQ] at this; exact this
  rw [eP] at hx2
  rw [eP, eQ] at hx3
  simp only [Int.ofNat_zero, Int.ofNat_one, Int.cast_ofNat_Int] at hx2 hx3
  have d1 : decide ((op : Int) = 1) = false := by simp; omega
  have d2 : decide ((op : Int) = 2) = true := by simp; omega
  have d6 : decide ((op : Int) = 6) = false := by simp; omega
  have d7 : decide ((op : Int) = 7) = false := by simp; omega
  have d8 : decide ((op : Int) = 8) = false := by simp; omega
  have d4 : decide ((op : Int) = 4) = false := by simp; omega
  have d3 : decide ((op : Int) = 3) = false := by simp; omega
  have d5 : decide ((op : Int) = 5) = false := by simp; omega
  have d18 : decide ((op : Int) = 18) = false := by simp; omega
  have d19 : decide ((op : Int) = 19) = false := by simp; omega
  have d21 : decide ((op : Int) = 21) = false := by simp; omega
  have d20 : decide ((op : Int) = 20) = false := by simp; omega
  have r6 : sliceAddr 1 (.dat (.sl (intsC cs) N false)) 6 = some (.dat (.imm (intsC cs) 6)) := row_at _ N 6 (by omega)
  have q6 := cut1_intsC cs 6 (by omega)
  have p6 : ∀ l, sliceAddr 1 (.own l N 1) 6 = some (.eptr l N 6) := fun l => own_at l N 6 (by omega)
  have p7 : ∀ l, sliceAddr 1 (.own l N 1) 7 = some (.eptr l N 7) := fun l => own_at l N 7 (by omega)
  have p8 : ∀ l, sliceAddr 1 (.own l N 1) 8 = some (.eptr l N 8) := fun l => own_at l N 8 (by omega)
  have hr : roomFor N 8 = true := by simp [roomFor]; omega
  have hn0 : ¬ N = 0 := by omega
  have e1' : (intsC cs).map V.dat = ints cs := by simp [intsC, ints]
  obtain ⟨L1, hL1⟩ : ∃ L, L = setI cs 8 (wr (getN cs 8 - 1)) := ⟨_, rfl⟩
  obtain ⟨L2, hL2⟩ : ∃ L, L = setI L1 6 (wr (getN cs 6 + 1)) := ⟨_, rfl⟩
  obtain ⟨L3, hL3⟩ : ∃ L, L = setI L2 7 (getN cs 7) := ⟨_, rfl⟩
  have hR : rL cs 0 = L3 := by rw [hL3, hL2, hL1]; simp [rL]
  have n1 : L1.length = N := by rw [hL1]; simp [hN]
  have n2 : L2.length = N := by rw [hL2]; simp [n1]
  have n3 : L3.length = N := by rw [hL3]; simp [n2]
  have u8 := cut_own' (cs := cs) 8 _ (by omega) rfl
  have u6 : cutCells (ints L1) 6 1 = some [V.int (getN cs 6)] := cut_own' 6 _ (by omega) (by rw [hL1, getN_set_ne (by decide)])
  have u7 : cutCells (ints L2) 7 1 = some [V.int (getN cs 7)] := cut_own' 7 _ (by omega) (by rw [hL2, getN_set_ne (by decide), hL1, getN_set_ne (by decide)])
  have u7' : cutCells (ints L3) 7 1 = some [V.int (getN cs 7)] := cut_own' 7 _ (by omega) (by rw [hL3, getN_set_eq (by decide) (by omega)])
  have t8 : (ints cs).take 8 ++ (V.int (wr (getN cs 8 - 1)) :: (ints cs).drop 9) = ints L1 := by rw [hL1]; exact set_ints cs 8 _ (by omega)
  have t6 : (ints L1).take 6 ++ (V.int (wr (getN cs 6 + 1)) :: (ints L1).drop 7) = ints L2 := by rw [hL2]; exact set_ints L1 6 _ (by omega)
  have t7 : (ints L2).take 7 ++ (V.int (getN cs 7) :: (ints L2).drop 8) = ints L3 := by rw [hL3]; exact set_ints L2 7 _ (by omega)
  have k9 : 9 ≤ N := by omega
  have k7 : 7 ≤ N := by omega
  have k8 : 8 ≤ N := by omega
  have keep : ∀ j : Nat, j ≠ 6 → j ≠ 7 → j ≠ 8 → getN L3 j = getN cs j := fun j a b d => by rw [← hR]; exact rL_get a b d
  have z0 : ¬ (0 : Int) > 0 := by omega
  obtain ⟨B, hB⟩ : ∃ B : Int, B = getN cs 7 := ⟨_, rfl⟩
  have B0 : 0 ≤ B ∧ B ≤ 16 := by omega
  rw [← hB] at u7' t7
  have w7 : wr (getN cs 7) = B := by rw [hB]; exact wrap64 _ (by omega)
  have wB : wr (16 + B) = 16 + B := wrap64 _ (by omega)
  have wB1 : wr (16 + B + 1) = 16 + B + 1 := wrap64 _ (by omega)
  have wB2 : wr (B + 1) = B + 1 := wrap64 _ (by omega)
  have pB := fun l => at_own l N (16 + B) (by omega) (by omega)
  have pB1 := fun l => at_own l N (16 + B + 1) (by omega) (by omega)
  have kB : (16 + B).toNat + 1 ≤ N := by omega
  have uB := cut_own (cs := L3) (16 + B) _ (by omega) (by omega) (keep (16 + B).toNat (by omega) (by omega) (by omega))
  have uB1 := cut_own (cs := L3) (16 + B + 1) _ (by omega) (by omega) (keep (16 + B + 1).toNat (by omega) (by omega) (by omega))
  have tB : ∀ v, (ints L3).take (16 + B).toNat ++ (V.int v :: (ints L3).drop ((16 + B).toNat + 1)) = ints (setI L3 (16 + B) v) := fun v => set_ints L3 _ v (by omega)
  have tB2 : ∀ v, (ints (setI L3 (16 + B) v)).take 7 ++ (V.int (B + 1) :: (ints (setI L3 (16 + B) v)).drop 8) = ints (setI (setI L3 (16 + B) v) 7 (B + 1)) := fun v => set_ints _ 7 _ (by simp; omega)
  have nB : ∀ v, (setI L3 (16 + B) v).length = N := fun v => by simp [n3]
  have nB2 : ∀ v, (setI (setI L3 (16 + B) v) 7 (B + 1)).length = N := fun v => by simp [n3]
  have hn : 0 ≤ n ∧ n < 16 := by rcases hx4 with hx4 | hx4 <;> subst hop <;> simp [operN] at hx4 <;> omega
  have w32 : wr (32 + n) = 32 + n := wrap64 _ (by omega)
  have pN := fun l => at_own l N (32 + n) (by omega) (by omega)
  have uN := cut_own (cs := L3) (32 + n) _ (by omega) (by omega) (keep (32 + n).toNat (by omega) (by omega) (by omega))
  have tN : ∀ v, (ints L3).take (32 + n).toNat ++ (V.int v :: (ints L3).drop ((32 + n).toNat + 1)) = ints (setI L3 (32 + n) v) := fun v => set_ints L3 _ v (by omega)
  have kN : (32 + n).toNat + 1 ≤ N := by omega
  have nN : ∀ v, (setI L3 (32 + n) v).length = N := fun v => by simp [n3]
  rw [← hB]
  rw [hR]
  refine Z_call (pf := F57) rfl rfl ?_
  simp only [Su.d, Su.c, progD] at *
  simp [F57, List.range_succ, calm, alone, zv, hat, hcut, zp, zq, d1, d2, d6, d7, d8, d4, d3, d5, d18, d19, d21, d20, r6, q6, p6, p7, p8, hr, hn0, e1', hN, n1, n2, n3, u8, u6, u7, u7', t8, t6, t7, w7, k9, k7, k8, wB, wB1, wB2, pB, pB1, kB, uB, uB1, tB, tB2, nB, nB2, intsC_nil, intsC_cons, w32, pN, uN]
theorem rs6 {s : Su} {cs : List Int} {N : Nat} {c : List (Nat × Int)} {f : Bool} {e0 e1 e2 n : Int} {op : Nat} (hs : s.ok) (hN : cs.length = N) (h : N = s.n) (hc : ∀ x ∈ c, 1 ≤ x.1 ∧ x.1 ≤ 21) (hcan : canStep c cs = true) (hi : insAt c (getI cs 6) = (op, n)) (hop : op = 6) :
    Z prog16 (.call 57 [.dat (.sl (intsC cs) N false), s.d, progD f c e0 e1 e2] []) = some (.ret (.tup [.dat (.sl (intsC (setI (setI (rL cs 0) (16 + getN cs 7) (getN cs 9)) 7 (getN cs 7 + 1))) N false), .bool false, .dat (.agg (intsC [0, 0, 0, 0])), .bool false]) []) := by
  have h48 : 48 ≤ N ∧ N < 1000 := by have := hs.p3; have := hs.b5; rw [h]; unfold Su.n; omega
  have zv := valid_Z (f := f) (e0 := e0) (e1 := e1) (e2 := e2) hN h48.1 h48.2 hc
  rw [hcan] at zv
  simp only [canStep, Bool.and_eq_true, Bool.not_eq_true', Bool.or_eq_false_iff, decide_eq_false_iff_not] at hcan
  obtain ⟨⟨hf, hp0, hp1⟩, hx⟩ := hcan
  obtain ⟨hx1, hx2, hx3, hx4⟩ := exOk_spec hx
  have hiL : (getI cs 6).toNat < c.length := by omega
  have hins : insAt c (getI cs 6) = c[(getI cs 6).toNat] := by simp [insAt, List.getD_eq_getElem?_getD, hiL]
  have hcut := cut2_codeC c _ hiL
  have hat := at_codeD f c (getI cs 6) (by omega) (by omega)
  rw [← hins, hi] at hcut
  rw [hi] at hx2 hx3 hx4
  simp only at hcut hx2 hx3 hx4
  have g6 : getI cs 6 = getN cs 6 := rfl
  have g7 : getI cs 7 = getN cs 7 := rfl
  rw [g6] at hat hcut
  rw [g7] at hx1 hx2 hx3
  have eP : popsN op = 0 := by subst hop; rfl
  have eQ : pushN op = 1 := by subst hop; rfl
  have ho1 : 1 ≤ op ∧ op ≤ 21 := by omega
  have zp : Z prog16 (.call 68 [.int op] []) = some (.ret (.int 0) []) := by have := pops_Z op ho1.1 ho1.2; rw [eP] at this; exact this
  have zq : Z prog16 (.call 72 [.int op] []) = some (.ret (.int 1) []) := by have := push_Z op ho1.1 ho1.2; rw [eQ] at this; exact this
  rw [eP] at hx2
  rw [eP, eQ] at hx3
  simp only [Int.ofNat_zero, Int.ofNat_one, Int.cast_ofNat_Int] at hx2 hx3
  have d1 : decide ((op : Int) = 1) = false := by simp; omega
  have d2 : decide ((op : Int) = 2) = false := by simp; omega
  have d6 : decide ((op : Int) = 6) = true := by simp; omega
  have d7 : decide ((op : Int) = 7) = false := by simp; omega
  have d8 : decide ((op : Int) = 8) = false := by simp; omega
  have d4 : decide ((op : Int) = 4) = false := by simp; omega
  have d3 : decide ((op : Int) = 3) = false := by simp; omega
  have d5 : decide ((op : Int) = 5) = false := by simp; omega
  have d18 : decide ((op : Int) = 18) = false := by simp; omega
  have d19 : decide ((op : Int) = 19) = false := by simp; omega
  have d21 : decide ((op : Int) = 21) = false := by simp; omega
  have d20 : decide ((op : Int) = 20) = false := by simp; omega
  have r6 : sliceAddr 1 (.dat (.sl (intsC cs) N false)) 6 = some (.dat (.imm (intsC cs) 6)) := row_at _ N 6 (by omega)
  have q6 := cut1_intsC cs 6 (by omega)
  have p6 : ∀ l, sliceAddr 1 (.own l N 1) 6 = some (.eptr l N 6) := fun l => own_at l N 6 (by omega)
  have p7 : ∀ l, sliceAddr 1 (.own l N 1) 7 = some (.eptr l N 7) := fun l => own_at l N 7 (by omega)
  have p8 : ∀ l, sliceAddr 1 (.own l N 1) 8 = some (.eptr l N 8) := fun l => own_at l N 8 (by omega)
  have hr : roomFor N 8 = true := by simp [roomFor]; omega
  have hn0 : ¬ N = 0 := by omega
  have e1' : (intsC cs).map V.dat = ints cs := by simp [intsC, ints]
  obtain ⟨L1, hL1⟩ : ∃ L, L = setI cs 8 (wr (getN cs 8 - 1)) := ⟨_, rfl⟩
  obtain ⟨L2, hL2⟩ : ∃ L, L = setI L1 6 (wr (getN cs 6 + 1)) := ⟨_, rfl⟩
  obtain ⟨L3, hL3⟩ : ∃ L, L = setI L2 7 (getN cs 7) := ⟨_, rfl⟩
  have hR : rL cs 0 = L3 := by rw [hL3, hL2, hL1]; simp [rL]
  have n1 : L1.length = N := by rw [hL1]; simp [hN]
  have n2 : L2.length = N := by rw [hL2]; simp [n1]
  have n3 : L3.length = N := by rw [hL3]; simp [n2]
  have u8 := cut_own' (cs := cs) 8 _ (by omega) rfl
  have u6 : cutCells (ints L1) 6 1 = some [V.int (getN cs 6)] := cut_own' 6 _ (by omega) (by rw [hL1, getN_set_ne (by decide)])
  have u7 : cutCells (ints L2) 7 1 = some [V.int (getN cs 7)] := cut_own' 7 _ (by omega) (by rw [hL2, getN_set_ne (by decide), hL1, getN_set_ne (by decide)])
  have u7' : cutCells (ints L3) 7 1 = some [V.int (getN cs 7)] := cut_own' 7 _ (by omega) (by rw [hL3, getN_set_eq (by decide) (by omega)])
  have t8 : (ints cs).take 8 ++ (V.int (wr (getN cs 8 - 1)) :: (ints cs).drop 9) = ints L1 := by rw [hL1]; exact set_ints cs 8 _ (by omega)
  have t6 : (ints L1).take 6 ++ (V.int (wr (getN cs 6 + 1)) :: (ints L1).drop 7) = ints L2 := by rw [hL2]; exact set_ints L1 6 _ (by omega)
  have t7 : (ints L2).take 7 ++ (V.int (getN cs 7) :: (ints L2).drop 8) = ints L3 := by rw [hL3]; exact set_ints L2 7 _ (by omega)
  have k9 : 9 ≤ N := by omega
  have k7 : 7 ≤ N := by omega
  have k8 : 8 ≤ N := by omega
  have keep : ∀ j : Nat, j ≠ 6 → j ≠ 7 → j ≠ 8 → getN L3 j = getN cs j := fun j a b d => by rw [← hR]; exact rL_get a b d
  have z0 : ¬ (0 : Int) > 0 := by omega
  obtain ⟨B, hB⟩ : ∃ B : Int, B = getN cs 7 := ⟨_, rfl⟩
  have B0 : 0 ≤ B ∧ B ≤ 16 := by omega
  rw [← hB] at u7' t7
  have w7 : wr (getN cs 7) = B := by rw [hB]; exact wrap64 _ (by omega)
  have wB : wr (16 + B) = 16 + B := wrap64 _ (by omega)
  have wB1 : wr (16 + B + 1) = 16 + B + 1 := wrap64 _ (by omega)
  have wB2 : wr (B + 1) = B + 1 := wrap64 _ (by omega)
  have pB := fun l => at_own l N (16 + B) (by omega) (by omega)
  have pB1 := fun l => at_own l N (16 + B + 1) (by omega) (by omega)
  have kB : (16 + B).toNat + 1 ≤ N := by omega
  have uB := cut_own (cs := L3) (16 + B) _ (by omega) (by omega) (keep (16 + B).toNat (by omega) (by omega) (by omega))
  have uB1 := cut_own (cs := L3) (16 + B + 1) _ (by omega) (by omega) (keep (16 + B + 1).toNat (by omega) (by omega) (by omega))
  have tB : ∀ v, (ints L3).take (16 + B).toNat ++ (V.int v :: (ints L3).drop ((16 + B).toNat + 1)) = ints (setI L3 (16 + B) v) := fun v => set_ints L3 _ v (by omega)
  have tB2 : ∀ v, (ints (setI L3 (16 + B) v)).take 7 ++ (V.int (B + 1) :: (ints (setI L3 (16 + B) v)).drop 8) = ints (setI (setI L3 (16 + B) v) 7 (B + 1)) := fun v => set_ints _ 7 _ (by simp; omega)
  have nB : ∀ v, (setI L3 (16 + B) v).length = N := fun v => by simp [n3]
  have nB2 : ∀ v, (setI (setI L3 (16 + B) v) 7 (B + 1)).length = N := fun v => by simp [n3]
  have pc : ∀ l, sliceAddr 1 (.own l N 1) 9 = some (.eptr l N 9) := fun l => own_at l N 9 (by omega)
  have uc : cutCells (ints L3) 9 1 = some [V.int (getN cs 9)] := cut_own' 9 _ (by omega) (keep 9 (by omega) (by omega) (by omega))
  rw [← hB]
  rw [hR]
  refine Z_call (pf := F57) rfl rfl ?_
  simp only [Su.d, Su.c, progD] at *
  simp [F57, List.range_succ, calm, alone, zv, hat, hcut, zp, zq, d1, d2, d6, d7, d8, d4, d3, d5, d18, d19, d21, d20, r6, q6, p6, p7, p8, hr, hn0, e1', hN, n1, n2, n3, u8, u6, u7, u7', t8, t6, t7, w7, k9, k7, k8, wB, wB1, wB2, pB, pB1, kB, uB, uB1, tB, tB2, nB, nB2, intsC_nil, intsC_cons, pc, uc]
theorem rs7 {s : Su} {cs : List Int} {N : Nat} {c : List (Nat × Int)} {f : Bool} {e0 e1 e2 n : Int} {op : Nat} (hs : s.ok) (hN : cs.length = N) (h : N = s.n) (hc : ∀ x ∈ c, 1 ≤ x.1 ∧ x.1 ≤ 21) (hcan : canStep c cs = true) (hi : insAt c (getI cs 6) = (op, n)) (hop : op = 7) :
    Z prog16 (.call 57 [.dat (.sl (intsC cs) N false), s.d, progD f c e0 e1 e2] []) = some (.ret (.tup [.dat (.sl (intsC (setI (setI (rL cs 0) (16 + getN cs 7) (getN cs 10)) 7 (getN cs 7 + 1))) N false), .bool false, .dat (.agg (intsC [0, 0, 0, 0])), .bool false]) []) := by
  have h48 : 48 ≤ N ∧ N < 1000 := by have := hs.p3; have := hs.b5; rw [h]; unfold Su.n; omega
  have zv := valid_Z (f := f) (e0 := e0) (e1 := e1) (e2 := e2) hN h48.1 h48.2 hc
  rw [hcan] at zv
  simp only [canStep, Bool.and_eq_true, Bool.not_eq_true', Bool.or_eq_false_iff, decide_eq_false_iff_not] at hcan
  obtain ⟨⟨hf, hp0, hp1⟩, hx⟩ := hcan
  obtain ⟨hx1, hx2, hx3, hx4⟩ := exOk_spec hx
  have hiL : (getI cs 6).toNat < c.length := by omega
  have hins : insAt c (getI cs 6) = c[(getI cs 6).toNat] := by simp [insAt, List.getD_eq_getElem?_getD, hiL]
  have hcut := cut2_codeC c _ hiL
  have hat := at_codeD f c (getI cs 6) (by omega) (by omega)
  rw [← hins, hi] at hcut
  rw [hi] at hx2 hx3 hx4
  simp only at hcut hx2 hx3 hx4
  have g6 : getI cs 6 = getN cs 6 := rfl
  have g7 : getI cs 7 = getN cs 7 := rfl
  rw [g6] at hat hcut
  rw [g7] at hx1 hx2 hx3
  have eP : popsN op = 0 := by subst hop; rfl
  have eQ : pushN op = 1 := by subst hop; rfl
  have ho1 : 1 ≤ op ∧ op ≤ 21 := by omega
  have zp : Z prog16 (.call 68 [.int op] []) = some (.ret (.int 0) []) := by have := pops_Z op ho1.1 ho1.2; rw [eP] at this; exact this
  have zq : Z prog16 (.call 72 [.int op] []) = some (.ret (.int 1) []) := by have := push_Z op ho1.1 ho1.2; rw [eQ] at this; exact this
  rw [eP] at hx2
  rw [eP, eQ] at hx3
  simp only [Int.ofNat_zero, Int.ofNat_one, Int.cast_ofNat_Int] at hx2 hx3
  have d1 : decide ((op : Int) = 1) = false := by simp; omega
  have d2 : decide ((op : Int) = 2) = false := by simp; omega
  have d6 : decide ((op : Int) = 6) = false := by simp; omega
  have d7 : decide ((op : Int) = 7) = true := by simp; omega
  have d8 : decide ((op : Int) = 8) = false := by simp; omega
  have d4 : decide ((op : Int) = 4) = false := by simp; omega
  have d3 : decide ((op : Int) = 3) = false := by simp; omega
  have d5 : decide ((op : Int) = 5) = false := by simp; omega
  have d18 : decide ((op : Int) = 18) = false := by simp; omega
  have d19 : decide ((op : Int) = 19) = false := by simp; omega
  have d21 : decide ((op : Int) = 21) = false := by simp; omega
  have d20 : decide ((op : Int) = 20) = false := by simp; omega
  have r6 : sliceAddr 1 (.dat (.sl (intsC cs) N false)) 6 = some (.dat (.imm (intsC cs) 6)) := row_at _ N 6 (by omega)
  have q6 := cut1_intsC cs 6 (by omega)
  have p6 : ∀ l, sliceAddr 1 (.own l N 1) 6 = some (.eptr l N 6) := fun l => own_at l N 6 (by omega)
  have p7 : ∀ l, sliceAddr 1 (.own l N 1) 7 = some (.eptr l N 7) := fun l => own_at l N 7 (by omega)
  have p8 : ∀ l, sliceAddr 1 (.own l N 1) 8 = some (.eptr l N 8) := fun l => own_at l N 8 (by omega)
  have hr : roomFor N 8 = true := by simp [roomFor]; omega
  have hn0 : ¬ N = 0 := by omega
  have e1' : (intsC cs).map V.dat = ints cs := by simp [intsC, ints]
  obtain ⟨L1, hL1⟩ : ∃ L, L = setI cs 8 (wr (getN cs 8 - 1)) := ⟨_, rfl⟩
  obtain ⟨L2, hL2⟩ : ∃ L, L = setI L1 6 (wr (getN cs 6 + 1)) := ⟨_, rfl⟩
  obtain ⟨L3, hL3⟩ : ∃ L, L = setI L2 7 (getN cs 7) := ⟨_, rfl⟩
  have hR : rL cs 0 = L3 := by rw [hL3, hL2, hL1]; simp [rL]
  have n1 : L1.length = N := by rw [hL1]; simp [hN]
  have n2 : L2.length = N := by rw [hL2]; simp [n1]
  have n3 : L3.length = N := by rw [hL3]; simp [n2]
  have u8 := cut_own' (cs := cs) 8 _ (by omega) rfl
  have u6 : cutCells (ints L1) 6 1 = some [V.int (getN cs 6)] := cut_own' 6 _ (by omega) (by rw [hL1, getN_set_ne (by decide)])
  have u7 : cutCells (ints L2) 7 1 = some [V.int (getN cs 7)] := cut_own' 7 _ (by omega) (by rw [hL2, getN_set_ne (by decide), hL1, getN_set_ne (by decide)])
  have u7' : cutCells (ints L3) 7 1 = some [V.int (getN cs 7)] := cut_own' 7 _ (by omega) (by rw [hL3, getN_set_eq (by decide) (by omega)])
  have t8 : (ints cs).take 8 ++ (V.int (wr (getN cs 8 - 1)) :: (ints cs).drop 9) = ints L1 := by rw [hL1]; exact set_ints cs 8 _ (by omega)
  have t6 : (ints L1).take 6 ++ (V.int (wr (getN cs 6 + 1)) :: (ints L1).drop 7) = ints L2 := by rw [hL2]; exact set_ints L1 6 _ (by omega)
  have t7 : (ints L2).take 7 ++ (V.int (getN cs 7) :: (ints L2).drop 8) = ints L3 := by rw [hL3]; exact set_ints L2 7 _ (by omega)
  have k9 : 9 ≤ N := by omega
  have k7 : 7 ≤ N := by omega
  have k8 : 8 ≤ N := by omega
  have keep : ∀ j : Nat, j ≠ 6 → j ≠ 7 → j ≠ 8 → getN L3 j = getN cs j := fun j a b d => by rw [← hR]; exact rL_get a b d
  have z0 : ¬ (0 : Int) > 0 := by omega
  obtain ⟨B, hB⟩ : ∃ B : Int, B = getN cs 7 := ⟨_, rfl⟩
  have B0 : 0 ≤ B ∧ B ≤ 16 := by omega
  rw [← hB] at u7' t7
  have w7 : wr (getN cs 7) = B := by rw [hB]; exact wrap64 _ (by omega)
  have wB : wr (16 + B) = 16 + B := wrap64 _ (by omega)
  have wB1 : wr (16 + B + 1) = 16 + B + 1 := wrap64 _ (by omega)
  have wB2 : wr (B + 1) = B + 1 := wrap64 _ (by omega)
  have pB := fun l => at_own l N (16 + B) (by omega) (by omega)
  have pB1 := fun l => at_own l N (16 + B + 1) (by omega) (by omega)
  have kB : (16 + B).toNat + 1 ≤ N := by omega
  have uB := cut_own (cs := L3) (16 + B) _ (by omega) (by omega) (keep (16 + B).toNat (by omega) (by omega) (by omega))
  have uB1 := cut_own (cs := L3) (16 + B + 1) _ (by omega) (by omega) (keep (16 + B + 1).toNat (by omega) (by omega) (by omega))
  have tB : ∀ v, (ints L3).take (16 + B).toNat ++ (V.int v :: (ints L3).drop ((16 + B).toNat + 1)) = ints (setI L3 (16 + B) v) := fun v => set_ints L3 _ v (by omega)
  have tB2 : ∀ v, (ints (setI L3 (16 + B) v)).take 7 ++ (V.int (B + 1) :: (ints (setI L3 (16 + B) v)).drop 8) = ints (setI (setI L3 (16 + B) v) 7 (B + 1)) := fun v => set_ints _ 7 _ (by simp; omega)
  have nB : ∀ v, (setI L3 (16 + B) v).length = N := fun v => by simp [n3]
  have nB2 : ∀ v, (setI (setI L3 (16 + B) v) 7 (B + 1)).length = N := fun v => by simp [n3]
  have pc : ∀ l, sliceAddr 1 (.own l N 1) 10 = some (.eptr l N 10) := fun l => own_at l N 10 (by omega)
  have uc : cutCells (ints L3) 10 1 = some [V.int (getN cs 10)] := cut_own' 10 _ (by omega) (keep 10 (by omega) (by omega) (by omega))
  rw [← hB]
  rw [hR]
  refine Z_call (pf := F57) rfl rfl ?_
  simp only [Su.d, Su.c, progD] at *
  simp [F57, List.range_succ, calm, alone, zv, hat, hcut, zp, zq, d1, d2, d6, d7, d8, d4, d3, d5, d18, d19, d21, d20, r6, q6, p6, p7, p8, hr, hn0, e1', hN, n1, n2, n3, u8, u6, u7, u7', t8, t6, t7, w7, k9, k7, k8, wB, wB1, wB2, pB, pB1, kB, uB, uB1, tB, tB2, nB, nB2, intsC_nil, intsC_cons, pc, uc]
theorem rs8 {s : Su} {cs : List Int} {N : Nat} {c : List (Nat × Int)} {f : Bool} {e0 e1 e2 n : Int} {op : Nat} (hs : s.ok) (hN : cs.length = N) (h : N = s.n) (hc : ∀ x ∈ c, 1 ≤ x.1 ∧ x.1 ≤ 21) (hcan : canStep c cs = true) (hi : insAt c (getI cs 6) = (op, n)) (hop : op = 8) :
    Z prog16 (.call 57 [.dat (.sl (intsC cs) N false), s.d, progD f c e0 e1 e2] []) = some (.ret (.tup [.dat (.sl (intsC (setI (setI (rL cs 0) (16 + getN cs 7) (getN cs 0)) 7 (getN cs 7 + 1))) N false), .bool false, .dat (.agg (intsC [0, 0, 0, 0])), .bool false]) []) := by
  have h48 : 48 ≤ N ∧ N < 1000 := by have := hs.p3; have := hs.b5; rw [h]; unfold Su.n; omega
  have zv := valid_Z (f := f) (e0 := e0) (e1 := e1) (e2 := e2) hN h48.1 h48.2 hc
  rw [hcan] at zv
  simp only [canStep, Bool.and_eq_true, Bool.not_eq_true', Bool.or_eq_false_iff, decide_eq_false_iff_not] at hcan
  obtain ⟨⟨hf, hp0, hp1⟩, hx⟩ := hcan
  obtain ⟨hx1, hx2, hx3, hx4⟩ := exOk_spec hx
  have hiL : (getI cs 6).toNat < c.length := by omega
  have hins : insAt c (getI cs 6) = c[(getI cs 6).toNat] := by simp [insAt, List.getD_eq_getElem?_getD, hiL]
  have hcut := cut2_codeC c _ hiL
  have hat := at_codeD f c (getI cs 6) (by omega) (by omega)
  rw [← hins, hi] at hcut
  rw [hi] at hx2 hx3 hx4
  simp only at hcut hx2 hx3 hx4
  have g6 : getI cs 6 = getN cs 6 := rfl
  have g7 : getI cs 7 = getN cs 7 := rfl
  rw [g6] at hat hcut
  rw [g7] at hx1 hx2 hx3
  have eP : popsN op = 0 := by subst hop; rfl
  have eQ : pushN op = 1 := by subst hop; rfl
  have ho1 : 1 ≤ op ∧ op ≤ 21 := by omega
  have zp : Z prog16 (.call 68 [.int op] []) = some (.ret (.int 0) []) := by have := pops_Z op ho1.1 ho1.2; rw [eP] at this; exact this
  have zq : Z prog16 (.call 72 [.int op] []) = some (.ret (.int 1) []) := by have := push_Z op ho1.1 ho1.2; rw [eQ] at this; exact this
  rw [eP] at hx2
  rw [eP, eQ] at hx3
  simp only [Int.ofNat_zero, Int.ofNat_one, Int.cast_ofNat_Int] at hx2 hx3
  have d1 : decide ((op : Int) = 1) = false := by simp; omega
  have d2 : decide ((op : Int) = 2) = false := by simp; omega
  have d6 : decide ((op : Int) = 6) = false := by simp; omega
  have d7 : decide ((op : Int) = 7) = false := by simp; omega
  have d8 : decide ((op : Int) = 8) = true := by simp; omega
  have d4 : decide ((op : Int) = 4) = false := by simp; omega
  have d3 : decide ((op : Int) = 3) = false := by simp; omega
  have d5 : decide ((op : Int) = 5) = false := by simp; omega
  have d18 : decide ((op : Int) = 18) = false := by simp; omega
  have d19 : decide ((op : Int) = 19) = false := by simp; omega
  have d21 : decide ((op : Int) = 21) = false := by simp; omega
  have d20 : decide ((op : Int) = 20) = false := by simp; omega
  have r6 : sliceAddr 1 (.dat (.sl (intsC cs) N false)) 6 = some (.dat (.imm (intsC cs) 6)) := row_at _ N 6 (by omega)
  have q6 := cut1_intsC cs 6 (by omega)
  have p6 : ∀ l, sliceAddr 1 (.own l N 1) 6 = some (.eptr l N 6) := fun l => own_at l N 6 (by omega)
  have p7 : ∀ l, sliceAddr 1 (.own l N 1) 7 = some (.eptr l N 7) := fun l => own_at l N 7 (by omega)
  have p8 : ∀ l, sliceAddr 1 (.own l N 1) 8 = some (.eptr l N 8) := fun l => own_at l N 8 (by omega)
  have hr : roomFor N 8 = true := by simp [roomFor]; omega
  have hn0 : ¬ N = 0 := by omega
  have e1' : (intsC cs).map V.dat = ints cs := by simp [intsC, ints]
  obtain ⟨L1, hL1⟩ : ∃ L, L = setI cs 8 (wr (getN cs 8 - 1)) := ⟨_, rfl⟩
  obtain ⟨L2, hL2⟩ : ∃ L, L = setI L1 6 (wr (getN cs 6 + 1)) := ⟨_, rfl⟩
  obtain ⟨L3, hL3⟩ : ∃ L, L = setI L2 7 (getN cs 7) := ⟨_, rfl⟩
  have hR : rL cs 0 = L3 := by rw [hL3, hL2, hL1]; simp [rL]
  have n1 : L1.length = N := by rw [hL1]; simp [hN]
  have n2 : L2.length = N := by rw [hL2]; simp [n1]
  have n3 : L3.length = N := by rw [hL3]; simp [n2]
  have u8 := cut_own' (cs := cs) 8 _ (by omega) rfl
  have u6 : cutCells (ints L1) 6 1 = some [V.int (getN cs 6)] := cut_own' 6 _ (by omega) (by rw [hL1, getN_set_ne (by decide)])
  have u7 : cutCells (ints L2) 7 1 = some [V.int (getN cs 7)] := cut_own' 7 _ (by omega) (by rw [hL2, getN_set_ne (by decide), hL1, getN_set_ne (by decide)])
  have u7' : cutCells (ints L3) 7 1 = some [V.int (getN cs 7)] := cut_own' 7 _ (by omega) (by rw [hL3, getN_set_eq (by decide) (by omega)])
  have t8 : (ints cs).take 8 ++ (V.int (wr (getN cs 8 - 1)) :: (ints cs).drop 9) = ints L1 := by rw [hL1]; exact set_ints cs 8 _ (by omega)
  have t6 : (ints L1).take 6 ++ (V.int (wr (getN cs 6 + 1)) :: (ints L1).drop 7) = ints L2 := by rw [hL2]; exact set_ints L1 6 _ (by omega)
  have t7 : (ints L2).take 7 ++ (V.int (getN cs 7) :: (ints L2).drop 8) = ints L3 := by rw [hL3]; exact set_ints L2 7 _ (by omega)
  have k9 : 9 ≤ N := by omega
  have k7 : 7 ≤ N := by omega
  have k8 : 8 ≤ N := by omega
  have keep : ∀ j : Nat, j ≠ 6 → j ≠ 7 → j ≠ 8 → getN L3 j = getN cs j := fun j a b d => by rw [← hR]; exact rL_get a b d
  have z0 : ¬ (0 : Int) > 0 := by omega
  obtain ⟨B, hB⟩ : ∃ B : Int, B = getN cs 7 := ⟨_, rfl⟩
  have B0 : 0 ≤ B ∧ B ≤ 16 := by omega
  rw [← hB] at u7' t7
  have w7 : wr (getN cs 7) = B := by rw [hB]; exact wrap64 _ (by omega)
  have wB : wr (16 + B) = 16 + B := wrap64 _ (by omega)
  have wB1 : wr (16 + B + 1) = 16 + B + 1 := wrap64 _ (by omega)
  have wB2 : wr (B + 1) = B + 1 := wrap64 _ (by omega)
  have pB := fun l => at_own l N (16 + B) (by omega) (by omega)
  have pB1 := fun l => at_own l N (16 + B + 1) (by omega) (by omega)
  have kB : (16 + B).toNat + 1 ≤ N := by omega
  have uB := cut_own (cs := L3) (16 + B) _ (by omega) (by omega) (keep (16 + B).toNat (by omega) (by omega) (by omega))
  have uB1 := cut_own (cs := L3) (16 + B + 1) _ (by omega) (by omega) (keep (16 + B + 1).toNat (by omega) (by omega) (by omega))
  have tB : ∀ v, (ints L3).take (16 + B).toNat ++ (V.int v :: (ints L3).drop ((16 + B).toNat + 1)) = ints (setI L3 (16 + B) v) := fun v => set_ints L3 _ v (by omega)
  have tB2 : ∀ v, (ints (setI L3 (16 + B) v)).take 7 ++ (V.int (B + 1) :: (ints (setI L3 (16 + B) v)).drop 8) = ints (setI (setI L3 (16 + B) v) 7 (B + 1)) := fun v => set_ints _ 7 _ (by simp; omega)
  have nB : ∀ v, (setI L3 (16 + B) v).length = N := fun v => by simp [n3]
  have nB2 : ∀ v, (setI (setI L3 (16 + B) v) 7 (B + 1)).length = N := fun v => by simp [n3]
  have pc : ∀ l, sliceAddr 1 (.own l N 1) 0 = some (.eptr l N 0) := fun l => own_at l N 0 (by omega)
  have uc : cutCells (ints L3) 0 1 = some [V.int (getN cs 0)] := cut_own' 0 _ (by omega) (keep 0 (by omega) (by omega) (by omega))
  rw [← hB]
  rw [hR]
  refine Z_call (pf := F57) rfl rfl ?_
  simp only [Su.d, Su.c, progD] at *
  simp [F57, List.range_succ, calm, alone, zv, hat, hcut, zp, zq, d1, d2, d6, d7, d8, d4, d3, d5, d18, d19, d21, d20, r6, q6, p6, p7, p8, hr, hn0, e1', hN, n1, n2, n3, u8, u6, u7, u7', t8, t6, t7, w7, k9, k7, k8, wB, wB1, wB2, pB, pB1, kB, uB, uB1, tB, tB2, nB, nB2, intsC_nil, intsC_cons, pc, uc]
theorem rs4 {s : Su} {cs : List Int} {N : Nat} {c : List (Nat × Int)} {f : Bool} {e0 e1 e2 n : Int} {op : Nat} (hs : s.ok) (hN : cs.length = N) (h : N = s.n) (hc : ∀ x ∈ c, 1 ≤ x.1 ∧ x.1 ≤ 21) (hcan : canStep c cs = true) (hi : insAt c (getI cs 6) = (op, n)) (hop : op = 4) :
    Z prog16 (.call 57 [.dat (.sl (intsC cs) N false), s.d, progD f c e0 e1 e2] []) = some (.ret (.tup [.dat (.sl (intsC (setI (setI (rL cs 1) (16 + (getN cs 7 - 1)) (if bodyI s (getN cs (16 + (getN cs 7 - 1)).toNat) < 0 then 0 else getI (rL cs 1) (bodyI s (getN cs (16 + (getN cs 7 - 1)).toNat) + n))) 7 ((getN cs 7 - 1) + 1))) N false), .bool false, .dat (.agg (intsC [0, 0, 0, 0])), .bool false]) []) := by
  have h48 : 48 ≤ N ∧ N < 1000 := by have := hs.p3; have := hs.b5; rw [h]; unfold Su.n; omega
  have zv := valid_Z (f := f) (e0 := e0) (e1 := e1) (e2 := e2) hN h48.1 h48.2 hc
  rw [hcan] at zv
  simp only [canStep, Bool.and_eq_true, Bool.not_eq_true', Bool.or_eq_false_iff, decide_eq_false_iff_not] at hcan
  obtain ⟨⟨hf, hp0, hp1⟩, hx⟩ := hcan
  obtain ⟨hx1, hx2, hx3, hx4⟩ := exOk_spec hx
  have hiL : (getI cs 6).toNat < c.length := by omega
  have hins : insAt c (getI cs 6) = c[(getI cs 6).toNat] := by simp [insAt, List.getD_eq_getElem?_getD, hiL]
  have hcut := cut2_codeC c _ hiL
  have hat := at_codeD f c (getI cs 6) (by omega) (by omega)
  rw [← hins, hi] at hcut
  rw [hi] at hx2 hx3 hx4
  simp only at hcut hx2 hx3 hx4
  have g6 : getI cs 6 = getN cs 6 := rfl
  have g7 : getI cs 7 = getN cs 7 := rfl
  rw [g6] at hat hcut
  rw [g7] at hx1 hx2 hx3
  have eP : popsN op = 1 := by subst hop; rfl
  have eQ : pushN op = 1 := by subst hop; rfl
  have ho1 : 1 ≤ op ∧ op ≤ 21 := by omega
  have zp : Z prog16 (.call 68 [.int op] []) = some (.ret (.int 1) []) := by have := pops_Z op ho1.1 ho1.2; rw [eP] at this; exact this
  have zq : Z prog16 (.call 72 [.int op] []) = some (.ret (.int 1) []) := by have := push_Z op ho1.1 ho1.2; rw [eQ] at this; exact this
  rw [eP] at hx2
  rw [eP, eQ] at hx3
  simp only [Int.ofNat_zero, Int.ofNat_one, Int.cast_ofNat_Int] at hx2 hx3
  have d1 : decide ((op : Int) = 1) = false := by simp; omega
  have d2 : decide ((op : Int) = 2) = false := by simp; omega
  have d6 : decide ((op : Int) = 6) = false := by simp; omega
  have d7 : decide ((op : Int) = 7) = false := by simp; omega
  have d8 : decide ((op : Int) = 8) = false := by simp; omega
  have d4 : decide ((op : Int) = 4) = true := by simp; omega
  have d3 : decide ((op : Int) = 3) = false := by simp; omega
  have d5 : decide ((op : Int) = 5) = false := by simp; omega
  have d18 : decide ((op : Int) = 18) = false := by simp; omega
  have d19 : decide ((op : Int) = 19) = false := by simp; omega
  have d21 : decide ((op : Int) = 21) = false := by simp; omega
  have d20 : decide ((op : Int) = 20) = false := by simp; omega
  have r6 : sliceAddr 1 (.dat (.sl (intsC cs) N false)) 6 = some (.dat (.imm (intsC cs) 6)) := row_at _ N 6 (by omega)
  have q6 := cut1_intsC cs 6 (by omega)
  have p6 : ∀ l, sliceAddr 1 (.own l N 1) 6 = some (.eptr l N 6) := fun l => own_at l N 6 (by omega)
  have p7 : ∀ l, sliceAddr 1 (.own l N 1) 7 = some (.eptr l N 7) := fun l => own_at l N 7 (by omega)
  have p8 : ∀ l, sliceAddr 1 (.own l N 1) 8 = some (.eptr l N 8) := fun l => own_at l N 8 (by omega)
  have hr : roomFor N 8 = true := by simp [roomFor]; omega
  have hn0 : ¬ N = 0 := by omega
  have e1' : (intsC cs).map V.dat = ints cs := by simp [intsC, ints]
  obtain ⟨L1, hL1⟩ : ∃ L, L = setI cs 8 (wr (getN cs 8 - 1)) := ⟨_, rfl⟩
  obtain ⟨L2, hL2⟩ : ∃ L, L = setI L1 6 (wr (getN cs 6 + 1)) := ⟨_, rfl⟩
  obtain ⟨L3, hL3⟩ : ∃ L, L = setI L2 7 (getN cs 7 - 1) := ⟨_, rfl⟩
  have hR : rL cs 1 = L3 := by rw [hL3, hL2, hL1]; simp [rL]
  have n1 : L1.length = N := by rw [hL1]; simp [hN]
  have n2 : L2.length = N := by rw [hL2]; simp [n1]
  have n3 : L3.length = N := by rw [hL3]; simp [n2]
  have u8 := cut_own' (cs := cs) 8 _ (by omega) rfl
  have u6 : cutCells (ints L1) 6 1 = some [V.int (getN cs 6)] := cut_own' 6 _ (by omega) (by rw [hL1, getN_set_ne (by decide)])
  have u7 : cutCells (ints L2) 7 1 = some [V.int (getN cs 7)] := cut_own' 7 _ (by omega) (by rw [hL2, getN_set_ne (by decide), hL1, getN_set_ne (by decide)])
  have u7' : cutCells (ints L3) 7 1 = some [V.int (getN cs 7 - 1)] := cut_own' 7 _ (by omega) (by rw [hL3, getN_set_eq (by decide) (by omega)])
  have t8 : (ints cs).take 8 ++ (V.int (wr (getN cs 8 - 1)) :: (ints cs).drop 9) = ints L1 := by rw [hL1]; exact set_ints cs 8 _ (by omega)
  have t6 : (ints L1).take 6 ++ (V.int (wr (getN cs 6 + 1)) :: (ints L1).drop 7) = ints L2 := by rw [hL2]; exact set_ints L1 6 _ (by omega)
  have t7 : (ints L2).take 7 ++ (V.int (getN cs 7 - 1) :: (ints L2).drop 8) = ints L3 := by rw [hL3]; exact set_ints L2 7 _ (by omega)
  have k9 : 9 ≤ N := by omega
  have k7 : 7 ≤ N := by omega
  have k8 : 8 ≤ N := by omega
  have keep : ∀ j : Nat, j ≠ 6 → j ≠ 7 → j ≠ 8 → getN L3 j = getN cs j := fun j a b d => by rw [← hR]; exact rL_get a b d
  have z0 : ¬ (0 : Int) > 0 := by omega
  obtain ⟨B, hB⟩ : ∃ B : Int, B = getN cs 7 - 1 := ⟨_, rfl⟩
  have B0 : 0 ≤ B ∧ B ≤ 16 := by omega
  rw [← hB] at u7' t7
  have w7 : wr (getN cs 7 - 1) = B := by rw [hB]; exact wrap64 _ (by omega)
  have wB : wr (16 + B) = 16 + B := wrap64 _ (by omega)
  have wB1 : wr (16 + B + 1) = 16 + B + 1 := wrap64 _ (by omega)
  have wB2 : wr (B + 1) = B + 1 := wrap64 _ (by omega)
  have pB := fun l => at_own l N (16 + B) (by omega) (by omega)
  have pB1 := fun l => at_own l N (16 + B + 1) (by omega) (by omega)
  have kB : (16 + B).toNat + 1 ≤ N := by omega
  have uB := cut_own (cs := L3) (16 + B) _ (by omega) (by omega) (keep (16 + B).toNat (by omega) (by omega) (by omega))
  have uB1 := cut_own (cs := L3) (16 + B + 1) _ (by omega) (by omega) (keep (16 + B + 1).toNat (by omega) (by omega) (by omega))
  have tB : ∀ v, (ints L3).take (16 + B).toNat ++ (V.int v :: (ints L3).drop ((16 + B).toNat + 1)) = ints (setI L3 (16 + B) v) := fun v => set_ints L3 _ v (by omega)
  have tB2 : ∀ v, (ints (setI L3 (16 + B) v)).take 7 ++ (V.int (B + 1) :: (ints (setI L3 (16 + B) v)).drop 8) = ints (setI (setI L3 (16 + B) v) 7 (B + 1)) := fun v => set_ints _ 7 _ (by simp; omega)
  have nB : ∀ v, (setI L3 (16 + B) v).length = N := fun v => by simp [n3]
  have nB2 : ∀ v, (setI (setI L3 (16 + B) v) 7 (B + 1)).length = N := fun v => by simp [n3]
  have hn : 0 ≤ n ∧ n < 8 := by rcases hx4 with hx4 | hx4 <;> subst hop <;> simp [operN] at hx4 <;> omega
  rw [← hB]
  obtain ⟨A, hA⟩ : ∃ A, A = getN cs (16 + B).toNat := ⟨_, rfl⟩
  rw [← hA] at uB
  rw [← hA]
  have zl := load_Z (s := s) (a := A) hs n3 h hn.1 hn.2
  rw [hR]
  obtain ⟨X, hX⟩ : ∃ X, X = (if bodyI s A < 0 then 0 else getI L3 (bodyI s A + n)) := ⟨_, rfl⟩
  rw [← hX] at zl ⊢
  refine Z_call (pf := F57) rfl rfl ?_
  simp only [Su.d, Su.c, progD] at *
  simp [F57, List.range_succ, calm, alone, zv, hat, hcut, zp, zq, d1, d2, d6, d7, d8, d4, d3, d5, d18, d19, d21, d20, r6, q6, p6, p7, p8, hr, hn0, e1', hN, n1, n2, n3, u8, u6, u7, u7', t8, t6, t7, w7, k9, k7, k8, wB, wB1, wB2, pB, pB1, kB, uB, uB1, tB, tB2, nB, nB2, intsC_nil, intsC_cons, zl]
theorem rs3 {s : Su} {cs : List Int} {N : Nat} {c : List (Nat × Int)} {f : Bool} {e0 e1 e2 n : Int} {op : Nat} (hs : s.ok) (hN : cs.length = N) (h : N = s.n) (hc : ∀ x ∈ c, 1 ≤ x.1 ∧ x.1 ≤ 21) (hcan : canStep c cs = true) (hi : insAt c (getI cs 6) = (op, n)) (hop : op = 3) :
    Z prog16 (.call 57 [.dat (.sl (intsC cs) N false), s.d, progD f c e0 e1 e2] []) = some (.ret (.tup [.dat (.sl (intsC (setI (rL cs 1) (32 + n) (getN cs (16 + (getN cs 7 - 1)).toNat))) N false), .bool false, .dat (.agg (intsC [0, 0, 0, 0])), .bool false]) []) := by
  have h48 : 48 ≤ N ∧ N < 1000 := by have := hs.p3; have := hs.b5; rw [h]; unfold Su.n; omega
  have zv := valid_Z (f := f) (e0 := e0) (e1 := e1) (e2 := e2) hN h48.1 h48.2 hc
  rw [hcan] at zv
  simp only [canStep, Bool.and_eq_true, Bool.not_eq_true', Bool.or_eq_false_iff, decide_eq_false_iff_not] at hcan
  obtain ⟨⟨hf, hp0, hp1⟩, hx⟩ := hcan
  obtain ⟨hx1, hx2, hx3, hx4⟩ := exOk_spec hx
  have hiL : (getI cs 6).toNat < c.length := by omega
  have hins : insAt c (getI cs 6) = c[(getI cs 6).toNat] := by simp [insAt, List.getD_eq_getElem?_getD, hiL]
  have hcut := cut2_codeC c _ hiL
  have hat := at_codeD f c (getI cs 6) (by omega) (by omega)
  rw [← hins, hi] at hcut
  rw [hi] at hx2 hx3 hx4
  simp only at hcut hx2 hx3 hx4
  have g6 : getI cs 6 = getN cs 6 := rfl
  have g7 : getI cs 7 = getN cs 7 := rfl
  rw [g6] at hat hcut
  rw [g7] at hx1 hx2 hx3
  have eP : popsN op = 1 := by subst hop; rfl
  have eQ : pushN op = 0 := by subst hop; rfl
  have ho1 : 1 ≤ op ∧ op ≤ 21 := by omega
  have zp : Z prog16 (.call 68 [.int op] []) = some (.ret (.int 1) []) := by have := pops_Z op ho1.1 ho1.2; rw [eP] at this; exact this
  have zq : Z prog16 (.call 72 [.int op] []) = some (.ret (.int 0) []) := by have := push_Z op ho1.1 ho1.2; rw [eQ] at this; exact this
  rw [eP] at hx2
  rw [eP, eQ] at hx3
  simp only [Int.ofNat_zero, Int.ofNat_one, Int.cast_ofNat_Int] at hx2 hx3
  have d1 : decide ((op : Int) = 1) = false := by simp; omega
  have d2 : decide ((op : Int) = 2) = false := by simp; omega
  have d6 : decide ((op : Int) = 6) = false := by simp; omega
  have d7 : decide ((op : Int) = 7) = false := by simp; omega
  have d8 : decide ((op : Int) = 8) = false := by simp; omega
  have d4 : decide ((op : Int) = 4) = false := by simp; omega
  have d3 : decide ((op : Int) = 3) = true := by simp; omega
  have d5 : decide ((op : Int) = 5) = false := by simp; omega
  have d18 : decide ((op : Int) = 18) = false := by simp; omega
  have d19 : decide ((op : Int) = 19) = false := by simp; omega
  have d21 : decide ((op : Int) = 21) = false := by simp; omega
  have d20 : decide ((op : Int) = 20) = false := by simp; omega
  have r6 : sliceAddr 1 (.dat (.sl (intsC cs) N false)) 6 = some (.dat (.imm (intsC cs) 6)) := row_at _ N 6 (by omega)
  have q6 := cut1_intsC cs 6 (by omega)
  have p6 : ∀ l, sliceAddr 1 (.own l N 1) 6 = some (.eptr l N 6) := fun l => own_at l N 6 (by omega)
  have p7 : ∀ l, sliceAddr 1 (.own l N 1) 7 = some (.eptr l N 7) := fun l => own_at l N 7 (by omega)
  have p8 : ∀ l, sliceAddr 1 (.own l N 1) 8 = some (.eptr l N 8) := fun l => own_at l N 8 (by omega)
  have hr : roomFor N 8 = true := by simp [roomFor]; omega
  have hn0 : ¬ N = 0 := by omega
  have e1' : (intsC cs).map V.dat = ints cs := by simp [intsC, ints]
  obtain ⟨L1, hL1⟩ : ∃ L, L = setI cs 8 (wr (getN cs 8 - 1)) := ⟨_, rfl⟩
  obtain ⟨L2, hL2⟩ : ∃ L, L = setI L1 6 (wr (getN cs 6 + 1)) := ⟨_, rfl⟩
  obtain ⟨L3, hL3⟩ : ∃ L, L = setI L2 7 (getN cs 7 - 1) := ⟨_, rfl⟩
  have hR : rL cs 1 = L3 := by rw [hL3, hL2, hL1]; simp [rL]
  have n1 : L1.length = N := by rw [hL1]; simp [hN]
  have n2 : L2.length = N := by rw [hL2]; simp [n1]
  have n3 : L3.length = N := by rw [hL3]; simp [n2]
  have u8 := cut_own' (cs := cs) 8 _ (by omega) rfl
  have u6 : cutCells (ints L1) 6 1 = some [V.int (getN cs 6)] := cut_own' 6 _ (by omega) (by rw [hL1, getN_set_ne (by decide)])
  have u7 : cutCells (ints L2) 7 1 = some [V.int (getN cs 7)] := cut_own' 7 _ (by omega) (by rw [hL2, getN_set_ne (by decide), hL1, getN_set_ne (by decide)])
  have u7' : cutCells (ints L3) 7 1 = some [V.int (getN cs 7 - 1)] := cut_own' 7 _ (by omega) (by rw [hL3, getN_set_eq (by decide) (by omega)])
  have t8 : (ints cs).take 8 ++ (V.int (wr (getN cs 8 - 1)) :: (ints cs).drop 9) = ints L1 := by rw [hL1]; exact set_ints cs 8 _ (by omega)
  have t6 : (ints L1).take 6 ++ (V.int (wr (getN cs 6 + 1)) :: (ints L1).drop 7) = ints L2 := by rw [hL2]; exact set_ints L1 6 _ (by omega)
  have t7 : (ints L2).take 7 ++ (V.int (getN cs 7 - 1) :: (ints L2).drop 8) = ints L3 := by rw [hL3]; exact set_ints L2 7 _ (by omega)
  have k9 : 9 ≤ N := by omega
  have k7 : 7 ≤ N := by omega
  have k8 : 8 ≤ N := by omega
  have keep : ∀ j : Nat, j ≠ 6 → j ≠ 7 → j ≠ 8 → getN L3 j = getN cs j := fun j a b d => by rw [← hR]; exact rL_get a b d
  have z0 : ¬ (0 : Int) > 0 := by omega
  obtain ⟨B, hB⟩ : ∃ B : Int, B = getN cs 7 - 1 := ⟨_, rfl⟩
  have B0 : 0 ≤ B ∧ B ≤ 16 := by omega
  rw [← hB] at u7' t7
  have w7 : wr (getN cs 7 - 1) = B := by rw [hB]; exact wrap64 _ (by omega)
  have wB : wr (16 + B) = 16 + B := wrap64 _ (by omega)
  have wB1 : wr (16 + B + 1) = 16 + B + 1 := wrap64 _ (by omega)
  have wB2 : wr (B + 1) = B + 1 := wrap64 _ (by omega)
  have pB := fun l => at_own l N (16 + B) (by omega) (by omega)
  have pB1 := fun l => at_own l N (16 + B + 1) (by omega) (by omega)
  have kB : (16 + B).toNat + 1 ≤ N := by omega
  have uB := cut_own (cs := L3) (16 + B) _ (by omega) (by omega) (keep (16 + B).toNat (by omega) (by omega) (by omega))
  have uB1 := cut_own (cs := L3) (16 + B + 1) _ (by omega) (by omega) (keep (16 + B + 1).toNat (by omega) (by omega) (by omega))
  have tB : ∀ v, (ints L3).take (16 + B).toNat ++ (V.int v :: (ints L3).drop ((16 + B).toNat + 1)) = ints (setI L3 (16 + B) v) := fun v => set_ints L3 _ v (by omega)
  have tB2 : ∀ v, (ints (setI L3 (16 + B) v)).take 7 ++ (V.int (B + 1) :: (ints (setI L3 (16 + B) v)).drop 8) = ints (setI (setI L3 (16 + B) v) 7 (B + 1)) := fun v => set_ints _ 7 _ (by simp; omega)
  have nB : ∀ v, (setI L3 (16 + B) v).length = N := fun v => by simp [n3]
  have nB2 : ∀ v, (setI (setI L3 (16 + B) v) 7 (B + 1)).length = N := fun v => by simp [n3]
  have hn : 0 ≤ n ∧ n < 16 := by rcases hx4 with hx4 | hx4 <;> subst hop <;> simp [operN] at hx4 <;> omega
  have w32 : wr (32 + n) = 32 + n := wrap64 _ (by omega)
  have pN := fun l => at_own l N (32 + n) (by omega) (by omega)
  have uN := cut_own (cs := L3) (32 + n) _ (by omega) (by omega) (keep (32 + n).toNat (by omega) (by omega) (by omega))
  have tN : ∀ v, (ints L3).take (32 + n).toNat ++ (V.int v :: (ints L3).drop ((32 + n).toNat + 1)) = ints (setI L3 (32 + n) v) := fun v => set_ints L3 _ v (by omega)
  have kN : (32 + n).toNat + 1 ≤ N := by omega
  have nN : ∀ v, (setI L3 (32 + n) v).length = N := fun v => by simp [n3]
  rw [← hB]
  obtain ⟨A, hA⟩ : ∃ A, A = getN cs (16 + B).toNat := ⟨_, rfl⟩
  rw [← hA] at uB
  rw [← hA]
  rw [hR]
  refine Z_call (pf := F57) rfl rfl ?_
  simp only [Su.d, Su.c, progD] at *
  simp [F57, List.range_succ, calm, alone, zv, hat, hcut, zp, zq, d1, d2, d6, d7, d8, d4, d3, d5, d18, d19, d21, d20, r6, q6, p6, p7, p8, hr, hn0, e1', hN, n1, n2, n3, u8, u6, u7, u7', t8, t6, t7, w7, k9, k7, k8, wB, wB1, wB2, pB, pB1, kB, uB, uB1, tB, tB2, nB, nB2, intsC_nil, intsC_cons, w32, pN, tN, kN, nN]
theorem rs5 {s : Su} {cs : List Int} {N : Nat} {c : List (Nat × Int)} {f : Bool} {e0 e1 e2 n : Int} {op : Nat} (hs : s.ok) (hN : cs.length = N) (h : N = s.n) (hc : ∀ x ∈ c, 1 ≤ x.1 ∧ x.1 ≤ 21) (hcan : canStep c cs = true) (hi : insAt c (getI cs 6) = (op, n)) (hop : op = 5) :
    Z prog16 (.call 57 [.dat (.sl (intsC cs) N false), s.d, progD f c e0 e1 e2] []) = some (.ret (.tup [.dat (.sl (intsC (if bodyI s (getN cs (16 + (getN cs 7 - 2)).toNat) < 0 then rL cs 2 else setI (rL cs 2) (bodyI s (getN cs (16 + (getN cs 7 - 2)).toNat) + n) (limI n (getN cs (16 + (getN cs 7 - 2) + 1).toNat)))) N false), .bool false, .dat (.agg (intsC [0, 0, 0, 0])), .bool false]) []) := by
  have h48 : 48 ≤ N ∧ N < 1000 := by have := hs.p3; have := hs.b5; rw [h]; unfold Su.n; omega
  have zv := valid_Z (f := f) (e0 := e0) (e1 := e1) (e2 := e2) hN h48.1 h48.2 hc
  rw [hcan] at zv
  simp only [canStep, Bool.and_eq_true, Bool.not_eq_true', Bool.or_eq_false_iff, decide_eq_false_iff_not] at hcan
  obtain ⟨⟨hf, hp0, hp1⟩, hx⟩ := hcan
  obtain ⟨hx1, hx2, hx3, hx4⟩ := exOk_spec hx
  have hiL : (getI cs 6).toNat < c.length := by omega
  have hins : insAt c (getI cs 6) = c[(getI cs 6).toNat] := by simp [insAt, List.getD_eq_getElem?_getD, hiL]
  have hcut := cut2_codeC c _ hiL
  have hat := at_codeD f c (getI cs 6) (by omega) (by omega)
  rw [← hins, hi] at hcut
  rw [hi] at hx2 hx3 hx4
  simp only at hcut hx2 hx3 hx4
  have g6 : getI cs 6 = getN cs 6 := rfl
  have g7 : getI cs 7 = getN cs 7 := rfl
  rw [g6] at hat hcut
  rw [g7] at hx1 hx2 hx3
  have eP : popsN op = 2 := by subst hop; rfl
  have eQ : pushN op = 0 := by subst hop; rfl
  have ho1 : 1 ≤ op ∧ op ≤ 21 := by omega
  have zp : Z prog16 (.call 68 [.int op] []) = some (.ret (.int 2) []) := by have := pops_Z op ho1.1 ho1.2; rw [eP] at this; exact this
  have zq : Z prog16 (.call 72 [.int op] []) = some (.ret (.int 0) []) := by have := push_Z op ho1.1 ho1.2; rw [eQ] at this; exact this
  rw [eP] at hx2
  rw [eP, eQ] at hx3
  simp only [Int.ofNat_zero, Int.ofNat_one, Int.cast_ofNat_Int] at hx2 hx3
  have d1 : decide ((op : Int) = 1) = false := by simp; omega
  have d2 : decide ((op : Int) = 2) = false := by simp; omega
  have d6 : decide ((op : Int) = 6) = false := by simp; omega
  have d7 : decide ((op : Int) = 7) = false := by simp; omega
  have d8 : decide ((op : Int) = 8) = false := by simp; omega
  have d4 : decide ((op : Int) = 4) = false := by simp; omega
  have d3 : decide ((op : Int) = 3) = false := by simp; omega
  have d5 : decide ((op : Int) = 5) = true := by simp; omega
  have d18 : decide ((op : Int) = 18) = false := by simp; omega
  have d19 : decide ((op : Int) = 19) = false := by simp; omega
  have d21 : decide ((op : Int) = 21) = false := by simp; omega
  have d20 : decide ((op : Int) = 20) = false := by simp; omega
  have r6 : sliceAddr 1 (.dat (.sl (intsC cs) N false)) 6 = some (.dat (.imm (intsC cs) 6)) := row_at _ N 6 (by omega)
  have q6 := cut1_intsC cs 6 (by omega)
  have p6 : ∀ l, sliceAddr 1 (.own l N 1) 6 = some (.eptr l N 6) := fun l => own_at l N 6 (by omega)
  have p7 : ∀ l, sliceAddr 1 (.own l N 1) 7 = some (.eptr l N 7) := fun l => own_at l N 7 (by omega)
  have p8 : ∀ l, sliceAddr 1 (.own l N 1) 8 = some (.eptr l N 8) := fun l => own_at l N 8 (by omega)
  have hr : roomFor N 8 = true := by simp [roomFor]; omega
  have hn0 : ¬ N = 0 := by omega
  have e1' : (intsC cs).map V.dat = ints cs := by simp [intsC, ints]
  obtain ⟨L1, hL1⟩ : ∃ L, L = setI cs 8 (wr (getN cs 8 - 1)) := ⟨_, rfl⟩
  obtain ⟨L2, hL2⟩ : ∃ L, L = setI L1 6 (wr (getN cs 6 + 1)) := ⟨_, rfl⟩
  obtain ⟨L3, hL3⟩ : ∃ L, L = setI L2 7 (getN cs 7 - 2) := ⟨_, rfl⟩
  have hR : rL cs 2 = L3 := by rw [hL3, hL2, hL1]; simp [rL]
  have n1 : L1.length = N := by rw [hL1]; simp [hN]
  have n2 : L2.length = N := by rw [hL2]; simp [n1]
  have n3 : L3.length = N := by rw [hL3]; simp [n2]
  have u8 := cut_own' (cs := cs) 8 _ (by omega) rfl
  have u6 : cutCells (ints L1) 6 1 = some [V.int (getN cs 6)] := cut_own' 6 _ (by omega) (by rw [hL1, getN_set_ne (by decide)])
  have u7 : cutCells (ints L2) 7 1 = some [V.int (getN cs 7)] := cut_own' 7 _ (by omega) (by rw [hL2, getN_set_ne (by decide), hL1, getN_set_ne (by decide)])
  have u7' : cutCells (ints L3) 7 1 = some [V.int (getN cs 7 - 2)] := cut_own' 7 _ (by omega) (by rw [hL3, getN_set_eq (by decide) (by omega)])
  have t8 : (ints cs).take 8 ++ (V.int (wr (getN cs 8 - 1)) :: (ints cs).drop 9) = ints L1 := by rw [hL1]; exact set_ints cs 8 _ (by omega)
  have t6 : (ints L1).take 6 ++ (V.int (wr (getN cs 6 + 1)) :: (ints L1).drop 7) = ints L2 := by rw [hL2]; exact set_ints L1 6 _ (by omega)
  have t7 : (ints L2).take 7 ++ (V.int (getN cs 7 - 2) :: (ints L2).drop 8) = ints L3 := by rw [hL3]; exact set_ints L2 7 _ (by omega)
  have k9 : 9 ≤ N := by omega
  have k7 : 7 ≤ N := by omega
  have k8 : 8 ≤ N := by omega
  have keep : ∀ j : Nat, j ≠ 6 → j ≠ 7 → j ≠ 8 → getN L3 j = getN cs j := fun j a b d => by rw [← hR]; exact rL_get a b d
  have z0 : ¬ (0 : Int) > 0 := by omega
  obtain ⟨B, hB⟩ : ∃ B : Int, B = getN cs 7 - 2 := ⟨_, rfl⟩
  have B0 : 0 ≤ B ∧ B ≤ 16 := by omega
  rw [← hB] at u7' t7
  have w7 : wr (getN cs 7 - 2) = B := by rw [hB]; exact wrap64 _ (by omega)
  have wB : wr (16 + B) = 16 + B := wrap64 _ (by omega)
  have wB1 : wr (16 + B + 1) = 16 + B + 1 := wrap64 _ (by omega)
  have wB2 : wr (B + 1) = B + 1 := wrap64 _ (by omega)
  have pB := fun l => at_own l N (16 + B) (by omega) (by omega)
  have pB1 := fun l => at_own l N (16 + B + 1) (by omega) (by omega)
  have kB : (16 + B).toNat + 1 ≤ N := by omega
  have uB := cut_own (cs := L3) (16 + B) _ (by omega) (by omega) (keep (16 + B).toNat (by omega) (by omega) (by omega))
  have uB1 := cut_own (cs := L3) (16 + B + 1) _ (by omega) (by omega) (keep (16 + B + 1).toNat (by omega) (by omega) (by omega))
  have tB : ∀ v, (ints L3).take (16 + B).toNat ++ (V.int v :: (ints L3).drop ((16 + B).toNat + 1)) = ints (setI L3 (16 + B) v) := fun v => set_ints L3 _ v (by omega)
  have tB2 : ∀ v, (ints (setI L3 (16 + B) v)).take 7 ++ (V.int (B + 1) :: (ints (setI L3 (16 + B) v)).drop 8) = ints (setI (setI L3 (16 + B) v) 7 (B + 1)) := fun v => set_ints _ 7 _ (by simp; omega)
  have nB : ∀ v, (setI L3 (16 + B) v).length = N := fun v => by simp [n3]
  have nB2 : ∀ v, (setI (setI L3 (16 + B) v) 7 (B + 1)).length = N := fun v => by simp [n3]
  have hn : 0 ≤ n ∧ n < 8 := by rcases hx4 with hx4 | hx4 <;> subst hop <;> simp [operN] at hx4 <;> omega
  rw [← hB]
  obtain ⟨A, hA⟩ : ∃ A, A = getN cs (16 + B).toNat := ⟨_, rfl⟩
  rw [← hA] at uB
  obtain ⟨A2, hA2⟩ : ∃ A, A = getN cs (16 + B + 1).toNat := ⟨_, rfl⟩
  rw [← hA2] at uB1
  rw [← hA, ← hA2]
  have zl := store_Z (s := s) (a := A) (b := A2) hs n3 h hn.1 hn.2
  rw [hR]
  obtain ⟨X, hX⟩ : ∃ X, X = (if bodyI s A < 0 then L3 else setI L3 (bodyI s A + n) (limI n A2)) := ⟨_, rfl⟩
  rw [← hX] at zl ⊢
  have hR : True := trivial
  refine Z_call (pf := F57) rfl rfl ?_
  simp only [Su.d, Su.c, progD] at *
  simp [F57, List.range_succ, calm, alone, zv, hat, hcut, zp, zq, d1, d2, d6, d7, d8, d4, d3, d5, d18, d19, d21, d20, r6, q6, p6, p7, p8, hr, hn0, e1', hN, n1, n2, n3, u8, u6, u7, u7', t8, t6, t7, w7, k9, k7, k8, wB, wB1, wB2, pB, pB1, kB, uB, uB1, tB, tB2, nB, nB2, intsC_nil, intsC_cons, zl]
theorem rs18 {s : Su} {cs : List Int} {N : Nat} {c : List (Nat × Int)} {f : Bool} {e0 e1 e2 n : Int} {op : Nat} (hs : s.ok) (hN : cs.length = N) (h : N = s.n) (hc : ∀ x ∈ c, 1 ≤ x.1 ∧ x.1 ≤ 21) (hcan : canStep c cs = true) (hi : insAt c (getI cs 6) = (op, n)) (hop : op = 18) :
    Z prog16 (.call 57 [.dat (.sl (intsC cs) N false), s.d, progD f c e0 e1 e2] []) = some (.ret (.tup [.dat (.sl (intsC (setI (rL cs 0) 6 n)) N false), .bool false, .dat (.agg (intsC [0, 0, 0, 0])), .bool false]) []) := by
  have h48 : 48 ≤ N ∧ N < 1000 := by have := hs.p3; have := hs.b5; rw [h]; unfold Su.n; omega
  have zv := valid_Z (f := f) (e0 := e0) (e1 := e1) (e2 := e2) hN h48.1 h48.2 hc
  rw [hcan] at zv
  simp only [canStep, Bool.and_eq_true, Bool.not_eq_true', Bool.or_eq_false_iff, decide_eq_false_iff_not] at hcan
  obtain ⟨⟨hf, hp0, hp1⟩, hx⟩ := hcan
  obtain ⟨hx1, hx2, hx3, hx4⟩ := exOk_spec hx
  have hiL : (getI cs 6).toNat < c.length := by omega
  have hins : insAt c (getI cs 6) = c[(getI cs 6).toNat] := by simp [insAt, List.getD_eq_getElem?_getD, hiL]
  have hcut := cut2_codeC c _ hiL
  have hat := at_codeD f c (getI cs 6) (by omega) (by omega)
  rw [← hins, hi] at hcut
  rw [hi] at hx2 hx3 hx4
  simp only at hcut hx2 hx3 hx4
  have g6 : getI cs 6 = getN cs 6 := rfl
  have g7 : getI cs 7 = getN cs 7 := rfl
  rw [g6] at hat hcut
  rw [g7] at hx1 hx2 hx3
  have eP : popsN op = 0 := by subst hop; rfl
  have eQ : pushN op = 0 := by subst hop; rfl
  have ho1 : 1 ≤ op ∧ op ≤ 21 := by omega
  have zp : Z prog16 (.call 68 [.int op] []) = some (.ret (.int 0) []) := by have := pops_Z op ho1.1 ho1.2; rw [eP] at this; exact this
  have zq : Z prog16 (.call 72 [.int op] []) = some (.ret (.int 0) []) := by have := push_Z op ho1.1 ho1.2; rw [eQ] at this; exact this
  rw [eP] at hx2
  rw [eP, eQ] at hx3
  simp only [Int.ofNat_zero, Int.ofNat_one, Int.cast_ofNat_Int] at hx2 hx3
  have d1 : decide ((op : Int) = 1) = false := by simp; omega
  have d2 : decide ((op : Int) = 2) = false := by simp; omega
  have d6 : decide ((op : Int) = 6) = false := by simp; omega
  have d7 : decide ((op : Int) = 7) = false := by simp; omega
  have d8 : decide ((op : Int) = 8) = false := by simp; omega
  have d4 : decide ((op : Int) = 4) = false := by simp; omega
  have d3 : decide ((op : Int) = 3) = false := by simp; omega
  have d5 : decide ((op : Int) = 5) = false := by simp; omega
  have d18 : decide ((op : Int) = 18) = true := by simp; omega
  have d19 : decide ((op : Int) = 19) = false := by simp; omega
  have d21 : decide ((op : Int) = 21) = false := by simp; omega
  have d20 : decide ((op : Int) = 20) = false := by simp; omega
  have r6 : sliceAddr 1 (.dat (.sl (intsC cs) N false)) 6 = some (.dat (.imm (intsC cs) 6)) := row_at _ N 6 (by omega)
  have q6 := cut1_intsC cs 6 (by omega)
  have p6 : ∀ l, sliceAddr 1 (.own l N 1) 6 = some (.eptr l N 6) := fun l => own_at l N 6 (by omega)
  have p7 : ∀ l, sliceAddr 1 (.own l N 1) 7 = some (.eptr l N 7) := fun l => own_at l N 7 (by omega)
  have p8 : ∀ l, sliceAddr 1 (.own l N 1) 8 = some (.eptr l N 8) := fun l => own_at l N 8 (by omega)
  have hr : roomFor N 8 = true := by simp [roomFor]; omega
  have hn0 : ¬ N = 0 := by omega
  have e1' : (intsC cs).map V.dat = ints cs := by simp [intsC, ints]
  obtain ⟨L1, hL1⟩ : ∃ L, L = setI cs 8 (wr (getN cs 8 - 1)) := ⟨_, rfl⟩
  obtain ⟨L2, hL2⟩ : ∃ L, L = setI L1 6 (wr (getN cs 6 + 1)) := ⟨_, rfl⟩
  obtain ⟨L3, hL3⟩ : ∃ L, L = setI L2 7 (getN cs 7) := ⟨_, rfl⟩
  have hR : rL cs 0 = L3 := by rw [hL3, hL2, hL1]; simp [rL]
  have n1 : L1.length = N := by rw [hL1]; simp [hN]
  have n2 : L2.length = N := by rw [hL2]; simp [n1]
  have n3 : L3.length = N := by rw [hL3]; simp [n2]
  have u8 := cut_own' (cs := cs) 8 _ (by omega) rfl
  have u6 : cutCells (ints L1) 6 1 = some [V.int (getN cs 6)] := cut_own' 6 _ (by omega) (by rw [hL1, getN_set_ne (by decide)])
  have u7 : cutCells (ints L2) 7 1 = some [V.int (getN cs 7)] := cut_own' 7 _ (by omega) (by rw [hL2, getN_set_ne (by decide), hL1, getN_set_ne (by decide)])
  have u7' : cutCells (ints L3) 7 1 = some [V.int (getN cs 7)] := cut_own' 7 _ (by omega) (by rw [hL3, getN_set_eq (by decide) (by omega)])
  have t8 : (ints cs).take 8 ++ (V.int (wr (getN cs 8 - 1)) :: (ints cs).drop 9) = ints L1 := by rw [hL1]; exact set_ints cs 8 _ (by omega)
  have t6 : (ints L1).take 6 ++ (V.int (wr (getN cs 6 + 1)) :: (ints L1).drop 7) = ints L2 := by rw [hL2]; exact set_ints L1 6 _ (by omega)
  have t7 : (ints L2).take 7 ++ (V.int (getN cs 7) :: (ints L2).drop 8) = ints L3 := by rw [hL3]; exact set_ints L2 7 _ (by omega)
  have k9 : 9 ≤ N := by omega
  have k7 : 7 ≤ N := by omega
  have k8 : 8 ≤ N := by omega
  have keep : ∀ j : Nat, j ≠ 6 → j ≠ 7 → j ≠ 8 → getN L3 j = getN cs j := fun j a b d => by rw [← hR]; exact rL_get a b d
  have z0 : ¬ (0 : Int) > 0 := by omega
  obtain ⟨B, hB⟩ : ∃ B : Int, B = getN cs 7 := ⟨_, rfl⟩
  have B0 : 0 ≤ B ∧ B ≤ 16 := by omega
  rw [← hB] at u7' t7
  have w7 : wr (getN cs 7) = B := by rw [hB]; exact wrap64 _ (by omega)
  have wB : wr (16 + B) = 16 + B := wrap64 _ (by omega)
  have wB1 : wr (16 + B + 1) = 16 + B + 1 := wrap64 _ (by omega)
  have wB2 : wr (B + 1) = B + 1 := wrap64 _ (by omega)
  have pB := fun l => at_own l N (16 + B) (by omega) (by omega)
  have pB1 := fun l => at_own l N (16 + B + 1) (by omega) (by omega)
  have kB : (16 + B).toNat + 1 ≤ N := by omega
  have uB := cut_own (cs := L3) (16 + B) _ (by omega) (by omega) (keep (16 + B).toNat (by omega) (by omega) (by omega))
  have uB1 := cut_own (cs := L3) (16 + B + 1) _ (by omega) (by omega) (keep (16 + B + 1).toNat (by omega) (by omega) (by omega))
  have tB : ∀ v, (ints L3).take (16 + B).toNat ++ (V.int v :: (ints L3).drop ((16 + B).toNat + 1)) = ints (setI L3 (16 + B) v) := fun v => set_ints L3 _ v (by omega)
  have tB2 : ∀ v, (ints (setI L3 (16 + B) v)).take 7 ++ (V.int (B + 1) :: (ints (setI L3 (16 + B) v)).drop 8) = ints (setI (setI L3 (16 + B) v) 7 (B + 1)) := fun v => set_ints _ 7 _ (by simp; omega)
  have nB : ∀ v, (setI L3 (16 + B) v).length = N := fun v => by simp [n3]
  have nB2 : ∀ v, (setI (setI L3 (16 + B) v) 7 (B + 1)).length = N := fun v => by simp [n3]
  have t6n : (ints L3).take 6 ++ (V.int n :: (ints L3).drop 7) = ints (setI L3 6 n) := set_ints L3 6 _ (by omega)
  have n6 : (setI L3 6 n).length = N := by simp [n3]
  rw [hR]
  refine Z_call (pf := F57) rfl rfl ?_
  simp only [Su.d, Su.c, progD] at *
  simp [F57, List.range_succ, calm, alone, zv, hat, hcut, zp, zq, d1, d2, d6, d7, d8, d4, d3, d5, d18, d19, d21, d20, r6, q6, p6, p7, p8, hr, hn0, e1', hN, n1, n2, n3, u8, u6, u7, u7', t8, t6, t7, w7, k9, k7, k8, wB, wB1, wB2, pB, pB1, kB, uB, uB1, tB, tB2, nB, nB2, intsC_nil, intsC_cons, t6n, n6]
theorem rs19a {s : Su} {cs : List Int} {N : Nat} {c : List (Nat × Int)} {f : Bool} {e0 e1 e2 n : Int} {op : Nat} (hs : s.ok) (hN : cs.length = N) (h : N = s.n) (hc : ∀ x ∈ c, 1 ≤ x.1 ∧ x.1 ≤ 21) (hcan : canStep c cs = true) (hi : insAt c (getI cs 6) = (op, n)) (hop : op = 19) (ha : (getN cs (16 + (getN cs 7 - 1)).toNat) = 0) :
    Z prog16 (.call 57 [.dat (.sl (intsC cs) N false), s.d, progD f c e0 e1 e2] []) = some (.ret (.tup [.dat (.sl (intsC (setI (rL cs 1) 6 n)) N false), .bool false, .dat (.agg (intsC [0, 0, 0, 0])), .bool false]) []) := by
  have h48 : 48 ≤ N ∧ N < 1000 := by have := hs.p3; have := hs.b5; rw [h]; unfold Su.n; omega
  have zv := valid_Z (f := f) (e0 := e0) (e1 := e1) (e2 := e2) hN h48.1 h48.2 hc
  rw [hcan] at zv
  simp only [canStep, Bool.and_eq_true, Bool.not_eq_true', Bool.or_eq_false_iff, decide_eq_false_iff_not] at hcan
  obtain ⟨⟨hf, hp0, hp1⟩, hx⟩ := hcan
  obtain ⟨hx1, hx2, hx3, hx4⟩ := exOk_spec hx
  have hiL : (getI cs 6).toNat < c.length := by omega
  have hins : insAt c (getI cs 6) = c[(getI cs 6).toNat] := by simp [insAt, List.getD_eq_getElem?_getD, hiL]
  have hcut := cut2_codeC c _ hiL
  have hat := at_codeD f c (getI cs 6) (by omega) (by omega)
  rw [← hins, hi] at hcut
  rw [hi] at hx2 hx3 hx4
  simp only at hcut hx2 hx3 hx4
  have g6 : getI cs 6 = getN cs 6 := rfl
  have g7 : getI cs 7 = getN cs 7 := rfl
  rw [g6] at hat hcut
  rw [g7] at hx1 hx2 hx3
  have eP : popsN op = 1 := by subst hop; rfl
  have eQ : pushN op = 0 := by subst hop; rfl
  have ho1 : 1 ≤ op ∧ op ≤ 21 := by omega
  have zp : Z prog16 (.call 68 [.int op] []) = some (.ret (.int 1) []) := by have := pops_Z op ho1.1 ho1.2; rw [eP] at this; exact this
  have zq : Z prog16 (.call 72 [.int op] []) = some (.ret (.int 0) []) := by have := push_Z op ho1.1 ho1.2; rw [eQ] at this; exact this
  rw [eP] at hx2
  rw [eP, eQ] at hx3
  simp only [Int.ofNat_zero, Int.ofNat_one, Int.cast_ofNat_Int] at hx2 hx3
  have d1 : decide ((op : Int) = 1) = false := by simp; omega
  have d2 : decide ((op : Int) = 2) = false := by simp; omega
  have d6 : decide ((op : Int) = 6) = false := by simp; omega
  have d7 : decide ((op : Int) = 7) = false := by simp; omega
  have d8 : decide ((op : Int) = 8) = false := by simp; omega
  have d4 : decide ((op : Int) = 4) = false := by simp; omega
  have d3 : decide ((op : Int) = 3) = false := by simp; omega
  have d5 : decide ((op : Int) = 5) = false := by simp; omega
  have d18 : decide ((op : Int) = 18) = false := by simp; omega
  have d19 : decide ((op : Int) = 19) = true := by simp; omega
  have d21 : decide ((op : Int) = 21) = false := by simp; omega
  have d20 : decide ((op : Int) = 20) = false := by simp; omega
  have r6 : sliceAddr 1 (.dat (.sl (intsC cs) N false)) 6 = some (.dat (.imm (intsC cs) 6)) := row_at _ N 6 (by omega)
  have q6 := cut1_intsC cs 6 (by omega)
  have p6 : ∀ l, sliceAddr 1 (.own l N 1) 6 = some (.eptr l N 6) := fun l => own_at l N 6 (by omega)
  have p7 : ∀ l, sliceAddr 1 (.own l N 1) 7 = some (.eptr l N 7) := fun l => own_at l N 7 (by omega)
  have p8 : ∀ l, sliceAddr 1 (.own l N 1) 8 = some (.eptr l N 8) := fun l => own_at l N 8 (by omega)
  have hr : roomFor N 8 = true := by simp [roomFor]; omega
  have hn0 : ¬ N = 0 := by omega
  have e1' : (intsC cs).map V.dat = ints cs := by simp [intsC, ints]
  obtain ⟨L1, hL1⟩ : ∃ L, L = setI cs 8 (wr (getN cs 8 - 1)) := ⟨_, rfl⟩
  obtain ⟨L2, hL2⟩ : ∃ L, L = setI L1 6 (wr (getN cs 6 + 1)) := ⟨_, rfl⟩
  obtain ⟨L3, hL3⟩ : ∃ L, L = setI L2 7 (getN cs 7 - 1) := ⟨_, rfl⟩
  have hR : rL cs 1 = L3 := by rw [hL3, hL2, hL1]; simp [rL]
  have n1 : L1.length = N := by rw [hL1]; simp [hN]
  have n2 : L2.length = N := by rw [hL2]; simp [n1]
  have n3 : L3.length = N := by rw [hL3]; simp [n2]
  have u8 := cut_own' (cs := cs) 8 _ (by omega) rfl
  have u6 : cutCells (ints L1) 6 1 = some [V.int (getN cs 6)] := cut_own' 6 _ (by omega) (by rw [hL1, getN_set_ne (by decide)])
  have u7 : cutCells (ints L2) 7 1 = some [V.int (getN cs 7)] := cut_own' 7 _ (by omega) (by rw [hL2, getN_set_ne (by decide), hL1, getN_set_ne (by decide)])
  have u7' : cutCells (ints L3) 7 1 = some [V.int (getN cs 7 - 1)] := cut_own' 7 _ (by omega) (by rw [hL3, getN_set_eq (by decide) (by omega)])
  have t8 : (ints cs).take 8 ++ (V.int (wr (getN cs 8 - 1)) :: (ints cs).drop 9) = ints L1 := by rw [hL1]; exact set_ints cs 8 _ (by omega)
  have t6 : (ints L1).take 6 ++ (V.int (wr (getN cs 6 + 1)) :: (ints L1).drop 7) = ints L2 := by rw [hL2]; exact set_ints L1 6 _ (by omega)
  have t7 : (ints L2).take 7 ++ (V.int (getN cs 7 - 1) :: (ints L2).drop 8) = ints L3 := by rw [hL3]; exact set_ints L2 7 _ (by omega)
  have k9 : 9 ≤ N := by omega
  have k7 : 7 ≤ N := by omega
  have k8 : 8 ≤ N := by omega
  have keep : ∀ j : Nat, j ≠ 6 → j ≠ 7 → j ≠ 8 → getN L3 j = getN cs j := fun j a b d => by rw [← hR]; exact rL_get a b d
  have z0 : ¬ (0 : Int) > 0 := by omega
  obtain ⟨B, hB⟩ : ∃ B : Int, B = getN cs 7 - 1 := ⟨_, rfl⟩
  have B0 : 0 ≤ B ∧ B ≤ 16 := by omega
  rw [← hB] at u7' t7
  have w7 : wr (getN cs 7 - 1) = B := by rw [hB]; exact wrap64 _ (by omega)
  have wB : wr (16 + B) = 16 + B := wrap64 _ (by omega)
  have wB1 : wr (16 + B + 1) = 16 + B + 1 := wrap64 _ (by omega)
  have wB2 : wr (B + 1) = B + 1 := wrap64 _ (by omega)
  have pB := fun l => at_own l N (16 + B) (by omega) (by omega)
  have pB1 := fun l => at_own l N (16 + B + 1) (by omega) (by omega)
  have kB : (16 + B).toNat + 1 ≤ N := by omega
  have uB := cut_own (cs := L3) (16 + B) _ (by omega) (by omega) (keep (16 + B).toNat (by omega) (by omega) (by omega))
  have uB1 := cut_own (cs := L3) (16 + B + 1) _ (by omega) (by omega) (keep (16 + B + 1).toNat (by omega) (by omega) (by omega))
  have tB : ∀ v, (ints L3).take (16 + B).toNat ++ (V.int v :: (ints L3).drop ((16 + B).toNat + 1)) = ints (setI L3 (16 + B) v) := fun v => set_ints L3 _ v (by omega)
  have tB2 : ∀ v, (ints (setI L3 (16 + B) v)).take 7 ++ (V.int (B + 1) :: (ints (setI L3 (16 + B) v)).drop 8) = ints (setI (setI L3 (16 + B) v) 7 (B + 1)) := fun v => set_ints _ 7 _ (by simp; omega)
  have nB : ∀ v, (setI L3 (16 + B) v).length = N := fun v => by simp [n3]
  have nB2 : ∀ v, (setI (setI L3 (16 + B) v) 7 (B + 1)).length = N := fun v => by simp [n3]
  have t6n : (ints L3).take 6 ++ (V.int n :: (ints L3).drop 7) = ints (setI L3 6 n) := set_ints L3 6 _ (by omega)
  have n6 : (setI L3 6 n).length = N := by simp [n3]
  rw [← hB] at ha
  rw [ha] at uB
  rw [hR]
  refine Z_call (pf := F57) rfl rfl ?_
  simp only [Su.d, Su.c, progD] at *
  simp [F57, List.range_succ, calm, alone, zv, hat, hcut, zp, zq, d1, d2, d6, d7, d8, d4, d3, d5, d18, d19, d21, d20, r6, q6, p6, p7, p8, hr, hn0, e1', hN, n1, n2, n3, u8, u6, u7, u7', t8, t6, t7, w7, k9, k7, k8, wB, wB1, wB2, pB, pB1, kB, uB, uB1, tB, tB2, nB, nB2, intsC_nil, intsC_cons, t6n, n6]
theorem rs19b {s : Su} {cs : List Int} {N : Nat} {c : List (Nat × Int)} {f : Bool} {e0 e1 e2 n : Int} {op : Nat} (hs : s.ok) (hN : cs.length = N) (h : N = s.n) (hc : ∀ x ∈ c, 1 ≤ x.1 ∧ x.1 ≤ 21) (hcan : canStep c cs = true) (hi : insAt c (getI cs 6) = (op, n)) (hop : op = 19) (ha : ¬ (getN cs (16 + (getN cs 7 - 1)).toNat) = 0) :
    Z prog16 (.call 57 [.dat (.sl (intsC cs) N false), s.d, progD f c e0 e1 e2] []) = some (.ret (.tup [.dat (.sl (intsC (rL cs 1)) N false), .bool false, .dat (.agg (intsC [0, 0, 0, 0])), .bool false]) []) := by
  have h48 : 48 ≤ N ∧ N < 1000 := by have := hs.p3; have := hs.b5; rw [h]; unfold Su.n; omega
  have zv := valid_Z (f := f) (e0 := e0) (e1 := e1) (e2 := e2) hN h48.1 h48.2 hc
  rw [hcan] at zv
  simp only [canStep, Bool.and_eq_true, Bool.not_eq_true', Bool.or_eq_false_iff, decide_eq_false_iff_not] at hcan
  obtain ⟨⟨hf, hp0, hp1⟩, hx⟩ := hcan
  obtain ⟨hx1, hx2, hx3, hx4⟩ := exOk_spec hx
  have hiL : (getI cs 6).toNat < c.length := by omega
  have hins : insAt c (getI cs 6) = c[(getI cs 6).toNat] := by simp [insAt, List.getD_eq_getElem?_getD, hiL]
  have hcut := cut2_codeC c _ hiL
  have hat := at_codeD f c (getI cs 6) (by omega) (by omega)
  rw [← hins, hi] at hcut
  rw [hi] at hx2 hx3 hx4
  simp only at hcut hx2 hx3 hx4
  have g6 : getI cs 6 = getN cs 6 := rfl
  have g7 : getI cs 7 = getN cs 7 := rfl
  rw [g6] at hat hcut
  rw [g7] at hx1 hx2 hx3
  have eP : popsN op = 1 := by subst hop; rfl
  have eQ : pushN op = 0 := by subst hop; rfl
  have ho1 : 1 ≤ op ∧ op ≤ 21 := by omega
  have zp : Z prog16 (.call 68 [.int op] []) = some (.ret (.int 1) []) := by have := pops_Z op ho1.1 ho1.2; rw [eP] at this; exact this
  have zq : Z prog16 (.call 72 [.int op] []) = some (.ret (.int 0) []) := by have := push_Z op ho1.1 ho1.2; rw [eQ] at this; exact this
  rw [eP] at hx2
  rw [eP, eQ] at hx3
  simp only [Int.ofNat_zero, Int.ofNat_one, Int.cast_ofNat_Int] at hx2 hx3
  have d1 : decide ((op : Int) = 1) = false := by simp; omega
  have d2 : decide ((op : Int) = 2) = false := by simp; omega
  have d6 : decide ((op : Int) = 6) = false := by simp; omega
  have d7 : decide ((op : Int) = 7) = false := by simp; omega
  have d8 : decide ((op : Int) = 8) = false := by simp; omega
  have d4 : decide ((op : Int) = 4) = false := by simp; omega
  have d3 : decide ((op : Int) = 3) = false := by simp; omega
  have d5 : decide ((op : Int) = 5) = false := by simp; omega
  have d18 : decide ((op : Int) = 18) = false := by simp; omega
  have d19 : decide ((op : Int) = 19) = true := by simp; omega
  have d21 : decide ((op : Int) = 21) = false := by simp; omega
  have d20 : decide ((op : Int) = 20) = false := by simp; omega
  have r6 : sliceAddr 1 (.dat (.sl (intsC cs) N false)) 6 = some (.dat (.imm (intsC cs) 6)) := row_at _ N 6 (by omega)
  have q6 := cut1_intsC cs 6 (by omega)
  have p6 : ∀ l, sliceAddr 1 (.own l N 1) 6 = some (.eptr l N 6) := fun l => own_at l N 6 (by omega)
  have p7 : ∀ l, sliceAddr 1 (.own l N 1) 7 = some (.eptr l N 7) := fun l => own_at l N 7 (by omega)
  have p8 : ∀ l, sliceAddr 1 (.own l N 1) 8 = some (.eptr l N 8) := fun l => own_at l N 8 (by omega)
  have hr : roomFor N 8 = true := by simp [roomFor]; omega
  have hn0 : ¬ N = 0 := by omega
  have e1' : (intsC cs).map V.dat = ints cs := by simp [intsC, ints]
  obtain ⟨L1, hL1⟩ : ∃ L, L = setI cs 8 (wr (getN cs 8 - 1)) := ⟨_, rfl⟩
  obtain ⟨L2, hL2⟩ : ∃ L, L = setI L1 6 (wr (getN cs 6 + 1)) := ⟨_, rfl⟩
  obtain ⟨L3, hL3⟩ : ∃ L, L = setI L2 7 (getN cs 7 - 1) := ⟨_, rfl⟩
  have hR : rL cs 1 = L3 := by rw [hL3, hL2, hL1]; simp [rL]
  have n1 : L1.length = N := by rw [hL1]; simp [hN]
  have n2 : L2.length = N := by rw [hL2]; simp [n1]
  have n3 : L3.length = N := by rw [hL3]; simp [n2]
  have u8 := cut_own' (cs := cs) 8 _ (by omega) rfl
  have u6 : cutCells (ints L1) 6 1 = some [V.int (getN cs 6)] := cut_own' 6 _ (by omega) (by rw [hL1, getN_set_ne (by decide)])
  have u7 : cutCells (ints L2) 7 1 = some [V.int (getN cs 7)] := cut_own' 7 _ (by omega) (by rw [hL2, getN_set_ne (by decide), hL1, getN_set_ne (by decide)])
  have u7' : cutCells (ints L3) 7 1 = some [V.int (getN cs 7 - 1)] := cut_own' 7 _ (by omega) (by rw [hL3, getN_set_eq (by decide) (by omega)])
  have t8 : (ints cs).take 8 ++ (V.int (wr (getN cs 8 - 1)) :: (ints cs).drop 9) = ints L1 := by rw [hL1]; exact set_ints cs 8 _ (by omega)
  have t6 : (ints L1).take 6 ++ (V.int (wr (getN cs 6 + 1)) :: (ints L1).drop 7) = ints L2 := by rw [hL2]; exact set_ints L1 6 _ (by omega)
  have t7 : (ints L2).take 7 ++ (V.int (getN cs 7 - 1) :: (ints L2).drop 8) = ints L3 := by rw [hL3]; exact set_ints L2 7 _ (by omega)
  have k9 : 9 ≤ N := by omega
  have k7 : 7 ≤ N := by omega
  have k8 : 8 ≤ N := by omega
  have keep : ∀ j : Nat, j ≠ 6 → j ≠ 7 → j ≠ 8 → getN L3 j = getN cs j := fun j a b d => by rw [← hR]; exact rL_get a b d
  have z0 : ¬ (0 : Int) > 0 := by omega
  obtain ⟨B, hB⟩ : ∃ B : Int, B = getN cs 7 - 1 := ⟨_, rfl⟩
  have B0 : 0 ≤ B ∧ B ≤ 16 := by omega
  rw [← hB] at u7' t7
  have w7 : wr (getN cs 7 - 1) = B := by rw [hB]; exact wrap64 _ (by omega)
  have wB : wr (16 + B) = 16 + B := wrap64 _ (by omega)
  have wB1 : wr (16 + B + 1) = 16 + B + 1 := wrap64 _ (by omega)
  have wB2 : wr (B + 1) = B + 1 := wrap64 _ (by omega)
  have pB := fun l => at_own l N (16 + B) (by omega) (by omega)
  have pB1 := fun l => at_own l N (16 + B + 1) (by omega) (by omega)
  have kB : (16 + B).toNat + 1 ≤ N := by omega
  have uB := cut_own (cs := L3) (16 + B) _ (by omega) (by omega) (keep (16 + B).toNat (by omega) (by omega) (by omega))
  have uB1 := cut_own (cs := L3) (16 + B + 1) _ (by omega) (by omega) (keep (16 + B + 1).toNat (by omega) (by omega) (by omega))
  have tB : ∀ v, (ints L3).take (16 + B).toNat ++ (V.int v :: (ints L3).drop ((16 + B).toNat + 1)) = ints (setI L3 (16 + B) v) := fun v => set_ints L3 _ v (by omega)
  have tB2 : ∀ v, (ints (setI L3 (16 + B) v)).take 7 ++ (V.int (B + 1) :: (ints (setI L3 (16 + B) v)).drop 8) = ints (setI (setI L3 (16 + B) v) 7 (B + 1)) := fun v => set_ints _ 7 _ (by simp; omega)
  have nB : ∀ v, (setI L3 (16 + B) v).length = N := fun v => by simp [n3]
  have nB2 : ∀ v, (setI (setI L3 (16 + B) v) 7 (B + 1)).length = N := fun v => by simp [n3]
  rw [← hB] at ha
  obtain ⟨A, hA⟩ : ∃ A, A = getN cs (16 + B).toNat := ⟨_, rfl⟩
  rw [← hA] at uB
  rw [← hA] at ha
  rw [hR]
  refine Z_call (pf := F57) rfl rfl ?_
  simp only [Su.d, Su.c, progD] at *
  simp [F57, List.range_succ, calm, alone, zv, hat, hcut, zp, zq, d1, d2, d6, d7, d8, d4, d3, d5, d18, d19, d21, d20, r6, q6, p6, p7, p8, hr, hn0, e1', hN, n1, n2, n3, u8, u6, u7, u7', t8, t6, t7, w7, k9, k7, k8, wB, wB1, wB2, pB, pB1, kB, uB, uB1, tB, tB2, nB, nB2, intsC_nil, intsC_cons, ha]
theorem rs21 {s : Su} {cs : List Int} {N : Nat} {c : List (Nat × Int)} {f : Bool} {e0 e1 e2 n : Int} {op : Nat} (hs : s.ok) (hN : cs.length = N) (h : N = s.n) (hc : ∀ x ∈ c, 1 ≤ x.1 ∧ x.1 ≤ 21) (hcan : canStep c cs = true) (hi : insAt c (getI cs 6) = (op, n)) (hop : op = 21) :
    Z prog16 (.call 57 [.dat (.sl (intsC cs) N false), s.d, progD f c e0 e1 e2] []) = some (.ret (.tup [.dat (.sl (intsC (rL cs 0)) N false), .bool true, .dat (.agg (intsC [0, 0, 0, 0])), .bool false]) []) := by
  have h48 : 48 ≤ N ∧ N < 1000 := by have := hs.p3; have := hs.b5; rw [h]; unfold Su.n; omega
  have zv := valid_Z (f := f) (e0 := e0) (e1 := e1) (e2 := e2) hN h48.1 h48.2 hc
  rw [hcan] at zv
  simp only [canStep, Bool.and_eq_true, Bool.not_eq_true', Bool.or_eq_false_iff, decide_eq_false_iff_not] at hcan
  obtain ⟨⟨hf, hp0, hp1⟩, hx⟩ := hcan
  obtain ⟨hx1, hx2, hx3, hx4⟩ := exOk_spec hx
  have hiL : (getI cs 6).toNat < c.length := by omega
  have hins : insAt c (getI cs 6) = c[(getI cs 6).toNat] := by simp [insAt, List.getD_eq_getElem?_getD, hiL]
  have hcut := cut2_codeC c _ hiL
  have hat := at_codeD f c (getI cs 6) (by omega) (by omega)
  rw [← hins, hi] at hcut
  rw [hi] at hx2 hx3 hx4
  simp only at hcut hx2 hx3 hx4
  have g6 : getI cs 6 = getN cs 6 := rfl
  have g7 : getI cs 7 = getN cs 7 := rfl
  rw [g6] at hat hcut
  rw [g7] at hx1 hx2 hx3
  have eP : popsN op = 0 := by subst hop; rfl
  have eQ : pushN op = 0 := by subst hop; rfl
  have ho1 : 1 ≤ op ∧ op ≤ 21 := by omega
  have zp : Z prog16 (.call 68 [.int op] []) = some (.ret (.int 0) []) := by have := pops_Z op ho1.1 ho1.2; rw [eP] at this; exact this
  have zq : Z prog16 (.call 72 [.int op] []) = some (.ret (.int 0) []) := by have := push_Z op ho1.1 ho1.2; rw [eQ] at this; exact this
  rw [eP] at hx2
  rw [eP, eQ] at hx3
  simp only [Int.ofNat_zero, Int.ofNat_one, Int.cast_ofNat_Int] at hx2 hx3
  have d1 : decide ((op : Int) = 1) = false := by simp; omega
  have d2 : decide ((op : Int) = 2) = false := by simp; omega
  have d6 : decide ((op : Int) = 6) = false := by simp; omega
  have d7 : decide ((op : Int) = 7) = false := by simp; omega
  have d8 : decide ((op : Int) = 8) = false := by simp; omega
  have d4 : decide ((op : Int) = 4) = false := by simp; omega
  have d3 : decide ((op : Int) = 3) = false := by simp; omega
  have d5 : decide ((op : Int) = 5) = false := by simp; omega
  have d18 : decide ((op : Int) = 18) = false := by simp; omega
  have d19 : decide ((op : Int) = 19) = false := by simp; omega
  have d21 : decide ((op : Int) = 21) = true := by simp; omega
  have d20 : decide ((op : Int) = 20) = false := by simp; omega
  have r6 : sliceAddr 1 (.dat (.sl (intsC cs) N false)) 6 = some (.dat (.imm (intsC cs) 6)) := row_at _ N 6 (by omega)
  have q6 := cut1_intsC cs 6 (by omega)
  have p6 : ∀ l, sliceAddr 1 (.own l N 1) 6 = some (.eptr l N 6) := fun l => own_at l N 6 (by omega)
  have p7 : ∀ l, sliceAddr 1 (.own l N 1) 7 = some (.eptr l N 7) := fun l => own_at l N 7 (by omega)
  have p8 : ∀ l, sliceAddr 1 (.own l N 1) 8 = some (.eptr l N 8) := fun l => own_at l N 8 (by omega)
  have hr : roomFor N 8 = true := by simp [roomFor]; omega
  have hn0 : ¬ N = 0 := by omega
  have e1' : (intsC cs).map V.dat = ints cs := by simp [intsC, ints]
  obtain ⟨L1, hL1⟩ : ∃ L, L = setI cs 8 (wr (getN cs 8 - 1)) := ⟨_, rfl⟩
  obtain ⟨L2, hL2⟩ : ∃ L, L = setI L1 6 (wr (getN cs 6 + 1)) := ⟨_, rfl⟩
  obtain ⟨L3, hL3⟩ : ∃ L, L = setI L2 7 (getN cs 7) := ⟨_, rfl⟩
  have hR : rL cs 0 = L3 := by rw [hL3, hL2, hL1]; simp [rL]
  have n1 : L1.length = N := by rw [hL1]; simp [hN]
  have n2 : L2.length = N := by rw [hL2]; simp [n1]
  have n3 : L3.length = N := by rw [hL3]; simp [n2]
  have u8 := cut_own' (cs := cs) 8 _ (by omega) rfl
  have u6 : cutCells (ints L1) 6 1 = some [V.int (getN cs 6)] := cut_own' 6 _ (by omega) (by rw [hL1, getN_set_ne (by decide)])
  have u7 : cutCells (ints L2) 7 1 = some [V.int (getN cs 7)] := cut_own' 7 _ (by omega) (by rw [hL2, getN_set_ne (by decide), hL1, getN_set_ne (by decide)])
  have u7' : cutCells (ints L3) 7 1 = some [V.int (getN cs 7)] := cut_own' 7 _ (by omega) (by rw [hL3, getN_set_eq (by decide) (by omega)])
  have t8 : (ints cs).take 8 ++ (V.int (wr (getN cs 8 - 1)) :: (ints cs).drop 9) = ints L1 := by rw [hL1]; exact set_ints cs 8 _ (by omega)
  have t6 : (ints L1).take 6 ++ (V.int (wr (getN cs 6 + 1)) :: (ints L1).drop 7) = ints L2 := by rw [hL2]; exact set_ints L1 6 _ (by omega)
  have t7 : (ints L2).take 7 ++ (V.int (getN cs 7) :: (ints L2).drop 8) = ints L3 := by rw [hL3]; exact set_ints L2 7 _ (by omega)
  have k9 : 9 ≤ N := by omega
  have k7 : 7 ≤ N := by omega
  have k8 : 8 ≤ N := by omega
  have keep : ∀ j : Nat, j ≠ 6 → j ≠ 7 → j ≠ 8 → getN L3 j = getN cs j := fun j a b d => by rw [← hR]; exact rL_get a b d
  have z0 : ¬ (0 : Int) > 0 := by omega
  obtain ⟨B, hB⟩ : ∃ B : Int, B = getN cs 7 := ⟨_, rfl⟩
  have B0 : 0 ≤ B ∧ B ≤ 16 := by omega
  rw [← hB] at u7' t7
  have w7 : wr (getN cs 7) = B := by rw [hB]; exact wrap64 _ (by omega)
  have wB : wr (16 + B) = 16 + B := wrap64 _ (by omega)
  have wB1 : wr (16 + B + 1) = 16 + B + 1 := wrap64 _ (by omega)
  have wB2 : wr (B + 1) = B + 1 := wrap64 _ (by omega)
  have pB := fun l => at_own l N (16 + B) (by omega) (by omega)
  have pB1 := fun l => at_own l N (16 + B + 1) (by omega) (by omega)
  have kB : (16 + B).toNat + 1 ≤ N := by omega
  have uB := cut_own (cs := L3) (16 + B) _ (by omega) (by omega) (keep (16 + B).toNat (by omega) (by omega) (by omega))
  have uB1 := cut_own (cs := L3) (16 + B + 1) _ (by omega) (by omega) (keep (16 + B + 1).toNat (by omega) (by omega) (by omega))
  have tB : ∀ v, (ints L3).take (16 + B).toNat ++ (V.int v :: (ints L3).drop ((16 + B).toNat + 1)) = ints (setI L3 (16 + B) v) := fun v => set_ints L3 _ v (by omega)
  have tB2 : ∀ v, (ints (setI L3 (16 + B) v)).take 7 ++ (V.int (B + 1) :: (ints (setI L3 (16 + B) v)).drop 8) = ints (setI (setI L3 (16 + B) v) 7 (B + 1)) := fun v => set_ints _ 7 _ (by simp; omega)
  have nB : ∀ v, (setI L3 (16 + B) v).length = N := fun v => by simp [n3]
  have nB2 : ∀ v, (setI (setI L3 (16 + B) v) 7 (B + 1)).length = N := fun v => by simp [n3]
  rw [hR]
  refine Z_call (pf := F57) rfl rfl ?_
  simp only [Su.d, Su.c, progD] at *
  simp [F57, List.range_succ, calm, alone, zv, hat, hcut, zp, zq, d1, d2, d6, d7, d8, d4, d3, d5, d18, d19, d21, d20, r6, q6, p6, p7, p8, hr, hn0, e1', hN, n1, n2, n3, u8, u6, u7, u7', t8, t6, t7, w7, k9, k7, k8, wB, wB1, wB2, pB, pB1, kB, uB, uB1, tB, tB2, nB, nB2, intsC_nil, intsC_cons]
theorem rs20a {s : Su} {cs : List Int} {N : Nat} {c : List (Nat × Int)} {f : Bool} {e0 e1 e2 n : Int} {op : Nat} (hs : s.ok) (hN : cs.length = N) (h : N = s.n) (hc : ∀ x ∈ c, 1 ≤ x.1 ∧ x.1 ≤ 21) (hcan : canStep c cs = true) (hi : insAt c (getI cs 6) = (op, n)) (hop : op = 20) (ha : 40 ≤ getN cs 11) :
    Z prog16 (.call 57 [.dat (.sl (intsC cs) N false), s.d, progD f c e0 e1 e2] []) = some (.ret (.tup [.dat (.sl (intsC (rL cs 2)) N false), .bool false, .dat (.agg (intsC [0, 0, 0, 0])), .bool false]) []) := by
  have h48 : 48 ≤ N ∧ N < 1000 := by have := hs.p3; have := hs.b5; rw [h]; unfold Su.n; omega
  have zv := valid_Z (f := f) (e0 := e0) (e1 := e1) (e2 := e2) hN h48.1 h48.2 hc
  rw [hcan] at zv
  simp only [canStep, Bool.and_eq_true, Bool.not_eq_true', Bool.or_eq_false_iff, decide_eq_false_iff_not] at hcan
  obtain ⟨⟨hf, hp0, hp1⟩, hx⟩ := hcan
  obtain ⟨hx1, hx2, hx3, hx4⟩ := exOk_spec hx
  have hiL : (getI cs 6).toNat < c.length := by omega
  have hins : insAt c (getI cs 6) = c[(getI cs 6).toNat] := by simp [insAt, List.getD_eq_getElem?_getD, hiL]
  have hcut := cut2_codeC c _ hiL
  have hat := at_codeD f c (getI cs 6) (by omega) (by omega)
  rw [← hins, hi] at hcut
  rw [hi] at hx2 hx3 hx4
  simp only at hcut hx2 hx3 hx4
  have g6 : getI cs 6 = getN cs 6 := rfl
  have g7 : getI cs 7 = getN cs 7 := rfl
  rw [g6] at hat hcut
  rw [g7] at hx1 hx2 hx3
  have eP : popsN op = 2 := by subst hop; rfl
  have eQ : pushN op = 0 := by subst hop; rfl
  have ho1 : 1 ≤ op ∧ op ≤ 21 := by omega
  have zp : Z prog16 (.call 68 [.int op] []) = some (.ret (.int 2) []) := by have := pops_Z op ho1.1 ho1.2; rw [eP] at this; exact this
  have zq : Z prog16 (.call 72 [.int op] []) = some (.ret (.int 0) []) := by have := push_Z op ho1.1 ho1.2; rw [eQ] at this; exact this
  rw [eP] at hx2
  rw [eP, eQ] at hx3
  simp only [Int.ofNat_zero, Int.ofNat_one, Int.cast_ofNat_Int] at hx2 hx3
  have d1 : decide ((op : Int) = 1) = false := by simp; omega
  have d2 : decide ((op : Int) = 2) = false := by simp; omega
  have d6 : decide ((op : Int) = 6) = false := by simp; omega
  have d7 : decide ((op : Int) = 7) = false := by simp; omega
  have d8 : decide ((op : Int) = 8) = false := by simp; omega
  have d4 : decide ((op : Int) = 4) = false := by simp; omega
  have d3 : decide ((op : Int) = 3) = false := by simp; omega
  have d5 : decide ((op : Int) = 5) = false := by simp; omega
  have d18 : decide ((op : Int) = 18) = false := by simp; omega
  have d19 : decide ((op : Int) = 19) = false := by simp; omega
  have d21 : decide ((op : Int) = 21) = false := by simp; omega
  have d20 : decide ((op : Int) = 20) = true := by simp; omega
  have r6 : sliceAddr 1 (.dat (.sl (intsC cs) N false)) 6 = some (.dat (.imm (intsC cs) 6)) := row_at _ N 6 (by omega)
  have q6 := cut1_intsC cs 6 (by omega)
  have p6 : ∀ l, sliceAddr 1 (.own l N 1) 6 = some (.eptr l N 6) := fun l => own_at l N 6 (by omega)
  have p7 : ∀ l, sliceAddr 1 (.own l N 1) 7 = some (.eptr l N 7) := fun l => own_at l N 7 (by omega)
  have p8 : ∀ l, sliceAddr 1 (.own l N 1) 8 = some (.eptr l N 8) := fun l => own_at l N 8 (by omega)
  have hr : roomFor N 8 = true := by simp [roomFor]; omega
  have hn0 : ¬ N = 0 := by omega
  have e1' : (intsC cs).map V.dat = ints cs := by simp [intsC, ints]
  obtain ⟨L1, hL1⟩ : ∃ L, L = setI cs 8 (wr (getN cs 8 - 1)) := ⟨_, rfl⟩
  obtain ⟨L2, hL2⟩ : ∃ L, L = setI L1 6 (wr (getN cs 6 + 1)) := ⟨_, rfl⟩
  obtain ⟨L3, hL3⟩ : ∃ L, L = setI L2 7 (getN cs 7 - 2) := ⟨_, rfl⟩
  have hR : rL cs 2 = L3 := by rw [hL3, hL2, hL1]; simp [rL]
  have n1 : L1.length = N := by rw [hL1]; simp [hN]
  have n2 : L2.length = N := by rw [hL2]; simp [n1]
  have n3 : L3.length = N := by rw [hL3]; simp [n2]
  have u8 := cut_own' (cs := cs) 8 _ (by omega) rfl
  have u6 : cutCells (ints L1) 6 1 = some [V.int (getN cs 6)] := cut_own' 6 _ (by omega) (by rw [hL1, getN_set_ne (by decide)])
  have u7 : cutCells (ints L2) 7 1 = some [V.int (getN cs 7)] := cut_own' 7 _ (by omega) (by rw [hL2, getN_set_ne (by decide), hL1, getN_set_ne (by decide)])
  have u7' : cutCells (ints L3) 7 1 = some [V.int (getN cs 7 - 2)] := cut_own' 7 _ (by omega) (by rw [hL3, getN_set_eq (by decide) (by omega)])
  have t8 : (ints cs).take 8 ++ (V.int (wr (getN cs 8 - 1)) :: (ints cs).drop 9) = ints L1 := by rw [hL1]; exact set_ints cs 8 _ (by omega)
  have t6 : (ints L1).take 6 ++ (V.int (wr (getN cs 6 + 1)) :: (ints L1).drop 7) = ints L2 := by rw [hL2]; exact set_ints L1 6 _ (by omega)
  have t7 : (ints L2).take 7 ++ (V.int (getN cs 7 - 2) :: (ints L2).drop 8) = ints L3 := by rw [hL3]; exact set_ints L2 7 _ (by omega)
  have k9 : 9 ≤ N := by omega
  have k7 : 7 ≤ N := by omega
  have k8 : 8 ≤ N := by omega
  have keep : ∀ j : Nat, j ≠ 6 → j ≠ 7 → j ≠ 8 → getN L3 j = getN cs j := fun j a b d => by rw [← hR]; exact rL_get a b d
  have z0 : ¬ (0 : Int) > 0 := by omega
  obtain ⟨B, hB⟩ : ∃ B : Int, B = getN cs 7 - 2 := ⟨_, rfl⟩
  have B0 : 0 ≤ B ∧ B ≤ 16 := by omega
  rw [← hB] at u7' t7
  have w7 : wr (getN cs 7 - 2) = B := by rw [hB]; exact wrap64 _ (by omega)
  have wB : wr (16 + B) = 16 + B := wrap64 _ (by omega)
  have wB1 : wr (16 + B + 1) = 16 + B + 1 := wrap64 _ (by omega)
  have wB2 : wr (B + 1) = B + 1 := wrap64 _ (by omega)
  have pB := fun l => at_own l N (16 + B) (by omega) (by omega)
  have pB1 := fun l => at_own l N (16 + B + 1) (by omega) (by omega)
  have kB : (16 + B).toNat + 1 ≤ N := by omega
  have uB := cut_own (cs := L3) (16 + B) _ (by omega) (by omega) (keep (16 + B).toNat (by omega) (by omega) (by omega))
  have uB1 := cut_own (cs := L3) (16 + B + 1) _ (by omega) (by omega) (keep (16 + B + 1).toNat (by omega) (by omega) (by omega))
  have tB : ∀ v, (ints L3).take (16 + B).toNat ++ (V.int v :: (ints L3).drop ((16 + B).toNat + 1)) = ints (setI L3 (16 + B) v) := fun v => set_ints L3 _ v (by omega)
  have tB2 : ∀ v, (ints (setI L3 (16 + B) v)).take 7 ++ (V.int (B + 1) :: (ints (setI L3 (16 + B) v)).drop 8) = ints (setI (setI L3 (16 + B) v) 7 (B + 1)) := fun v => set_ints _ 7 _ (by simp; omega)
  have nB : ∀ v, (setI L3 (16 + B) v).length = N := fun v => by simp [n3]
  have nB2 : ∀ v, (setI (setI L3 (16 + B) v) 7 (B + 1)).length = N := fun v => by simp [n3]
  have p11 : ∀ l, sliceAddr 1 (.own l N 1) 11 = some (.eptr l N 11) := fun l => own_at l N 11 (by omega)
  have p12 : ∀ l, sliceAddr 1 (.own l N 1) 12 = some (.eptr l N 12) := fun l => own_at l N 12 (by omega)
  have p0 : ∀ l, sliceAddr 1 (.own l N 1) 0 = some (.eptr l N 0) := fun l => own_at l N 0 (by omega)
  obtain ⟨C, hC⟩ : ∃ C, C = getN cs 11 := ⟨_, rfl⟩
  obtain ⟨Hh, hHh⟩ : ∃ C, C = getN cs 12 := ⟨_, rfl⟩
  obtain ⟨Tk, hTk⟩ : ∃ C, C = getN cs 0 := ⟨_, rfl⟩
  have u11 : cutCells (ints L3) 11 1 = some [V.int C] := cut_own' 11 _ (by omega) (by rw [hC]; exact keep 11 (by omega) (by omega) (by omega))
  have u12 : cutCells (ints L3) 12 1 = some [V.int Hh] := cut_own' 12 _ (by omega) (by rw [hHh]; exact keep 12 (by omega) (by omega) (by omega))
  have u0 : cutCells (ints L3) 0 1 = some [V.int Tk] := cut_own' 0 _ (by omega) (by rw [hTk]; exact keep 0 (by omega) (by omega) (by omega))
  rw [← hC] at ha
  rw [hR]
  refine Z_call (pf := F57) rfl rfl ?_
  simp only [Su.d, Su.c, progD] at *
  simp [F57, List.range_succ, calm, alone, zv, hat, hcut, zp, zq, d1, d2, d6, d7, d8, d4, d3, d5, d18, d19, d21, d20, r6, q6, p6, p7, p8, hr, hn0, e1', hN, n1, n2, n3, u8, u6, u7, u7', t8, t6, t7, w7, k9, k7, k8, wB, wB1, wB2, pB, pB1, kB, uB, uB1, tB, tB2, nB, nB2, intsC_nil, intsC_cons, ha, p11, u11]
theorem rs20b {s : Su} {cs : List Int} {N : Nat} {c : List (Nat × Int)} {f : Bool} {e0 e1 e2 n : Int} {op : Nat} (hs : s.ok) (hN : cs.length = N) (h : N = s.n) (hc : ∀ x ∈ c, 1 ≤ x.1 ∧ x.1 ≤ 21) (hcan : canStep c cs = true) (hi : insAt c (getI cs 6) = (op, n)) (hop : op = 20) (ha : ¬ 40 ≤ getN cs 11) :
    Z prog16 (.call 57 [.dat (.sl (intsC cs) N false), s.d, progD f c e0 e1 e2] []) = some (.ret (.tup [.dat (.sl (intsC (setI (setI (rL cs 2) 12 (wr (shrI .u64 (hashI (getN cs 12) (getN cs 0) (getN cs (16 + (getN cs 7 - 2)).toNat) (getN cs (16 + (getN cs 7 - 2) + 1).toNat)) 1))) 11 (wr (getN cs 11 + 1)))) N false), .bool false, .dat (.agg (intsC [getN cs 0, getN cs 11, (getN cs (16 + (getN cs 7 - 2)).toNat), (getN cs (16 + (getN cs 7 - 2) + 1).toNat)])), .bool true]) []) := by
  have h48 : 48 ≤ N ∧ N < 1000 := by have := hs.p3; have := hs.b5; rw [h]; unfold Su.n; omega
  have zv := valid_Z (f := f) (e0 := e0) (e1 := e1) (e2 := e2) hN h48.1 h48.2 hc
  rw [hcan] at zv
  simp only [canStep, Bool.and_eq_true, Bool.not_eq_true', Bool.or_eq_false_iff, decide_eq_false_iff_not] at hcan
  obtain ⟨⟨hf, hp0, hp1⟩, hx⟩ := hcan
  obtain ⟨hx1, hx2, hx3, hx4⟩ := exOk_spec hx
  have hiL : (getI cs 6).toNat < c.length := by omega
  have hins : insAt c (getI cs 6) = c[(getI cs 6).toNat] := by simp [insAt, List.getD_eq_getElem?_getD, hiL]
  have hcut := cut2_codeC c _ hiL
  have hat := at_codeD f c (getI cs 6) (by omega) (by omega)
  rw [← hins, hi] at hcut
  rw [hi] at hx2 hx3 hx4
  simp only at hcut hx2 hx3 hx4
  have g6 : getI cs 6 = getN cs 6 := rfl
  have g7 : getI cs 7 = getN cs 7 := rfl
  rw [g6] at hat hcut
  rw [g7] at hx1 hx2 hx3
  have eP : popsN op = 2 := by subst hop; rfl
  have eQ : pushN op = 0 := by subst hop; rfl
  have ho1 : 1 ≤ op ∧ op ≤ 21 := by omega
  have zp : Z prog16 (.call 68 [.int op] []) = some (.ret (.int 2) []) := by have := pops_Z op ho1.1 ho1.2; rw [eP] at this; exact this
  have zq : Z prog16 (.call 72 [.int op] []) = some (.ret (.int 0) []) := by have := push_Z op ho1.1 ho1.2; rw [eQ] at this; exact this
  rw [eP] at hx2
  rw [eP, eQ] at hx3
  simp only [Int.ofNat_zero, Int.ofNat_one, Int.cast_ofNat_Int] at hx2 hx3
  have d1 : decide ((op : Int) = 1) = false := by simp; omega
  have d2 : decide ((op : Int) = 2) = false := by simp; omega
  have d6 : decide ((op : Int) = 6) = false := by simp; omega
  have d7 : decide ((op : Int) = 7) = false := by simp; omega
  have d8 : decide ((op : Int) = 8) = false := by simp; omega
  have d4 : decide ((op : Int) = 4) = false := by simp; omega
  have d3 : decide ((op : Int) = 3) = false := by simp; omega
  have d5 : decide ((op : Int) = 5) = false := by simp; omega
  have d18 : decide ((op : Int) = 18) = false := by simp; omega
  have d19 : decide ((op : Int) = 19) = false := by simp; omega
  have d21 : decide ((op : Int) = 21) = false := by simp; omega
  have d20 : decide ((op : Int) = 20) = true := by simp; omega
  have r6 : sliceAddr 1 (.dat (.sl (intsC cs) N false)) 6 = some (.dat (.imm (intsC cs) 6)) := row_at _ N 6 (by omega)
  have q6 := cut1_intsC cs 6 (by omega)
  have p6 : ∀ l, sliceAddr 1 (.own l N 1) 6 = some (.eptr l N 6) := fun l => own_at l N 6 (by omega)
  have p7 : ∀ l, sliceAddr 1 (.own l N 1) 7 = some (.eptr l N 7) := fun l => own_at l N 7 (by omega)
  have p8 : ∀ l, sliceAddr 1 (.own l N 1) 8 = some (.eptr l N 8) := fun l => own_at l N 8 (by omega)
  have hr : roomFor N 8 = true := by simp [roomFor]; omega
  have hn0 : ¬ N = 0 := by omega
  have e1' : (intsC cs).map V.dat = ints cs := by simp [intsC, ints]
  obtain ⟨L1, hL1⟩ : ∃ L, L = setI cs 8 (wr (getN cs 8 - 1)) := ⟨_, rfl⟩
  obtain ⟨L2, hL2⟩ : ∃ L, L = setI L1 6 (wr (getN cs 6 + 1)) := ⟨_, rfl⟩
  obtain ⟨L3, hL3⟩ : ∃ L, L = setI L2 7 (getN cs 7 - 2) := ⟨_, rfl⟩
  have hR : rL cs 2 = L3 := by rw [hL3, hL2, hL1]; simp [rL]
  have n1 : L1.length = N := by rw [hL1]; simp [hN]
  have n2 : L2.length = N := by rw [hL2]; simp [n1]
  have n3 : L3.length = N := by rw [hL3]; simp [n2]
  have u8 := cut_own' (cs := cs) 8 _ (by omega) rfl
  have u6 : cutCells (ints L1) 6 1 = some [V.int (getN cs 6)] := cut_own' 6 _ (by omega) (by rw [hL1, getN_set_ne (by decide)])
  have u7 : cutCells (ints L2) 7 1 = some [V.int (getN cs 7)] := cut_own' 7 _ (by omega) (by rw [hL2, getN_set_ne (by decide), hL1, getN_set_ne (by decide)])
  have u7' : cutCells (ints L3) 7 1 = some [V.int (getN cs 7 - 2)] := cut_own' 7 _ (by omega) (by rw [hL3, getN_set_eq (by decide) (by omega)])
  have t8 : (ints cs).take 8 ++ (V.int (wr (getN cs 8 - 1)) :: (ints cs).drop 9) = ints L1 := by rw [hL1]; exact set_ints cs 8 _ (by omega)
  have t6 : (ints L1).take 6 ++ (V.int (wr (getN cs 6 + 1)) :: (ints L1).drop 7) = ints L2 := by rw [hL2]; exact set_ints L1 6 _ (by omega)
  have t7 : (ints L2).take 7 ++ (V.int (getN cs 7 - 2) :: (ints L2).drop 8) = ints L3 := by rw [hL3]; exact set_ints L2 7 _ (by omega)
  have k9 : 9 ≤ N := by omega
  have k7 : 7 ≤ N := by omega
  have k8 : 8 ≤ N := by omega
  have keep : ∀ j : Nat, j ≠ 6 → j ≠ 7 → j ≠ 8 → getN L3 j = getN cs j := fun j a b d => by rw [← hR]; exact rL_get a b d
  have z0 : ¬ (0 : Int) > 0 := by omega
  obtain ⟨B, hB⟩ : ∃ B : Int, B = getN cs 7 - 2 := ⟨_, rfl⟩
  have B0 : 0 ≤ B ∧ B ≤ 16 := by omega
  rw [← hB] at u7' t7
  have w7 : wr (getN cs 7 - 2) = B := by rw [hB]; exact wrap64 _ (by omega)
  have wB : wr (16 + B) = 16 + B := wrap64 _ (by omega)
  have wB1 : wr (16 + B + 1) = 16 + B + 1 := wrap64 _ (by omega)
  have wB2 : wr (B + 1) = B + 1 := wrap64 _ (by omega)
  have pB := fun l => at_own l N (16 + B) (by omega) (by omega)
  have pB1 := fun l => at_own l N (16 + B + 1) (by omega) (by omega)
  have kB : (16 + B).toNat + 1 ≤ N := by omega
  have uB := cut_own (cs := L3) (16 + B) _ (by omega) (by omega) (keep (16 + B).toNat (by omega) (by omega) (by omega))
  have uB1 := cut_own (cs := L3) (16 + B + 1) _ (by omega) (by omega) (keep (16 + B + 1).toNat (by omega) (by omega) (by omega))
  have tB : ∀ v, (ints L3).take (16 + B).toNat ++ (V.int v :: (ints L3).drop ((16 + B).toNat + 1)) = ints (setI L3 (16 + B) v) := fun v => set_ints L3 _ v (by omega)
  have tB2 : ∀ v, (ints (setI L3 (16 + B) v)).take 7 ++ (V.int (B + 1) :: (ints (setI L3 (16 + B) v)).drop 8) = ints (setI (setI L3 (16 + B) v) 7 (B + 1)) := fun v => set_ints _ 7 _ (by simp; omega)
  have nB : ∀ v, (setI L3 (16 + B) v).length = N := fun v => by simp [n3]
  have nB2 : ∀ v, (setI (setI L3 (16 + B) v) 7 (B + 1)).length = N := fun v => by simp [n3]
  have p11 : ∀ l, sliceAddr 1 (.own l N 1) 11 = some (.eptr l N 11) := fun l => own_at l N 11 (by omega)
  have p12 : ∀ l, sliceAddr 1 (.own l N 1) 12 = some (.eptr l N 12) := fun l => own_at l N 12 (by omega)
  have p0 : ∀ l, sliceAddr 1 (.own l N 1) 0 = some (.eptr l N 0) := fun l => own_at l N 0 (by omega)
  obtain ⟨C, hC⟩ : ∃ C, C = getN cs 11 := ⟨_, rfl⟩
  obtain ⟨Hh, hHh⟩ : ∃ C, C = getN cs 12 := ⟨_, rfl⟩
  obtain ⟨Tk, hTk⟩ : ∃ C, C = getN cs 0 := ⟨_, rfl⟩
  have u11 : cutCells (ints L3) 11 1 = some [V.int C] := cut_own' 11 _ (by omega) (by rw [hC]; exact keep 11 (by omega) (by omega) (by omega))
  have u12 : cutCells (ints L3) 12 1 = some [V.int Hh] := cut_own' 12 _ (by omega) (by rw [hHh]; exact keep 12 (by omega) (by omega) (by omega))
  have u0 : cutCells (ints L3) 0 1 = some [V.int Tk] := cut_own' 0 _ (by omega) (by rw [hTk]; exact keep 0 (by omega) (by omega) (by omega))
  rw [← hB]
  obtain ⟨A, hA⟩ : ∃ A, A = getN cs (16 + B).toNat := ⟨_, rfl⟩
  rw [← hA] at uB
  obtain ⟨A2, hA2⟩ : ∃ A, A = getN cs (16 + B + 1).toNat := ⟨_, rfl⟩
  rw [← hA2] at uB1
  rw [← hA, ← hA2, ← hC, ← hHh, ← hTk]
  rw [← hC] at ha
  have zh := rsum_Z Hh Tk A A2 true
  have hh := hash_half Hh Tk A A2
  obtain ⟨Q, hQ⟩ : ∃ Q, Q = hashI Hh Tk A A2 := ⟨_, rfl⟩
  rw [← hQ] at zh hh ⊢
  obtain ⟨Q2, hQ2⟩ : ∃ Q2, Q2 = shrI .u64 Q 1 := ⟨_, rfl⟩
  rw [← hQ2] at hh ⊢
  obtain ⟨Y, hY⟩ : ∃ Y, Y = wr Q2 := ⟨_, rfl⟩
  obtain ⟨Y1, hY1⟩ : ∃ Y, Y = wr (C + 1) := ⟨_, rfl⟩
  rw [← hY, ← hY1]
  obtain ⟨L4, hL4⟩ : ∃ L, L = setI L3 12 Y := ⟨_, rfl⟩
  have n4 : L4.length = N := by rw [hL4]; simp [n3]
  have t12 : (ints L3).take 12 ++ (V.int Y :: (ints L3).drop 13) = ints L4 := by rw [hL4]; exact set_ints L3 12 _ (by omega)
  have u11' : cutCells (ints L4) 11 1 = some [V.int C] := cut_own' 11 _ (by omega) (by rw [hL4, getN_set_ne (by decide), hC]; exact keep 11 (by omega) (by omega) (by omega))
  have t11 : (ints L4).take 11 ++ (V.int Y1 :: (ints L4).drop 12) = ints (setI (setI L3 12 Y) 11 Y1) := by rw [← hL4]; exact set_ints L4 11 _ (by omega)
  have n5 : (setI (setI L3 12 Y) 11 Y1).length = N := by simp [n3]
  have hYs : IntKind.i64.wrap Q2 = Y := hY.symm
  have hY1s : IntKind.i64.wrap (C + 1) = Y1 := hY1.symm
  have k11 : 12 ≤ N := by omega
  have k12 : 13 ≤ N := by omega
  rw [hR]
  refine Z_call (pf := F57) rfl rfl ?_
  simp only [Su.d, Su.c, progD] at *
  simp [F57, List.range_succ, calm, alone, zv, hat, hcut, zp, zq, d1, d2, d6, d7, d8, d4, d3, d5, d18, d19, d21, d20, r6, q6, p6, p7, p8, hr, hn0, e1', hN, n1, n2, n3, u8, u6, u7, u7', t8, t6, t7, w7, k9, k7, k8, wB, wB1, wB2, pB, pB1, kB, uB, uB1, tB, tB2, nB, nB2, intsC_nil, intsC_cons, ha, p11, p12, p0, u11, u12, u0, zh, hh, n4, t12, u11', t11, n5, hYs, hY1s, k11, k12]
theorem rsd1 {s : Su} {cs : List Int} {N : Nat} {c : List (Nat × Int)} {f : Bool} {e0 e1 e2 n : Int} {op : Nat} (hs : s.ok) (hN : cs.length = N) (h : N = s.n) (hc : ∀ x ∈ c, 1 ≤ x.1 ∧ x.1 ≤ 21) (hcan : canStep c cs = true) (hi : insAt c (getI cs 6) = (op, n)) (hop : 9 ≤ op ∧ op ≤ 17) (hp : popsN op = 1) :
    Z prog16 (.call 57 [.dat (.sl (intsC cs) N false), s.d, progD f c e0 e1 e2] []) = some (.ret (.tup [.dat (.sl (intsC (setI (setI (rL cs 1) (16 + (getN cs 7 - 1)) (appI op (getN cs (16 + (getN cs 7 - 1)).toNat) 0)) 7 ((getN cs 7 - 1) + 1))) N false), .bool false, .dat (.agg (intsC [0, 0, 0, 0])), .bool false]) []) := by
  have h48 : 48 ≤ N ∧ N < 1000 := by have := hs.p3; have := hs.b5; rw [h]; unfold Su.n; omega
  have zv := valid_Z (f := f) (e0 := e0) (e1 := e1) (e2 := e2) hN h48.1 h48.2 hc
  rw [hcan] at zv
  simp only [canStep, Bool.and_eq_true, Bool.not_eq_true', Bool.or_eq_false_iff, decide_eq_false_iff_not] at hcan
  obtain ⟨⟨hf, hp0, hp1⟩, hx⟩ := hcan
  obtain ⟨hx1, hx2, hx3, hx4⟩ := exOk_spec hx
  have hiL : (getI cs 6).toNat < c.length := by omega
  have hins : insAt c (getI cs 6) = c[(getI cs 6).toNat] := by simp [insAt, List.getD_eq_getElem?_getD, hiL]
  have hcut := cut2_codeC c _ hiL
  have hat := at_codeD f c (getI cs 6) (by omega) (by omega)
  rw [← hins, hi] at hcut
  rw [hi] at hx2 hx3 hx4
  simp only at hcut hx2 hx3 hx4
  have g6 : getI cs 6 = getN cs 6 := rfl
  have g7 : getI cs 7 = getN cs 7 := rfl
  rw [g6] at hat hcut
  rw [g7] at hx1 hx2 hx3
  have eP : popsN op = 1 := by exact hp
  have eQ : pushN op = 1 := by (unfold pushN; split <;> first | omega | rfl)
  have ho1 : 1 ≤ op ∧ op ≤ 21 := by omega
  have zp : Z prog16 (.call 68 [.int op] []) = some (.ret (.int 1) []) := by have := pops_Z op ho1.1 ho1.2; rw [eP] at this; exact this
  have zq : Z prog16 (.call 72 [.int op] []) = some (.ret (.int 1) []) := by have := push_Z op ho1.1 ho1.2; rw [eQ] at this; exact this
  rw [eP] at hx2
  rw [eP, eQ] at hx3
  simp only [Int.ofNat_zero, Int.ofNat_one, Int.cast_ofNat_Int] at hx2 hx3
  have d1 : decide ((op : Int) = 1) = false := by simp; omega
  have d2 : decide ((op : Int) = 2) = false := by simp; omega
  have d6 : decide ((op : Int) = 6) = false := by simp; omega
  have d7 : decide ((op : Int) = 7) = false := by simp; omega
  have d8 : decide ((op : Int) = 8) = false := by simp; omega
  have d4 : decide ((op : Int) = 4) = false := by simp; omega
  have d3 : decide ((op : Int) = 3) = false := by simp; omega
  have d5 : decide ((op : Int) = 5) = false := by simp; omega
  have d18 : decide ((op : Int) = 18) = false := by simp; omega
  have d19 : decide ((op : Int) = 19) = false := by simp; omega
  have d21 : decide ((op : Int) = 21) = false := by simp; omega
  have d20 : decide ((op : Int) = 20) = false := by simp; omega
  have r6 : sliceAddr 1 (.dat (.sl (intsC cs) N false)) 6 = some (.dat (.imm (intsC cs) 6)) := row_at _ N 6 (by omega)
  have q6 := cut1_intsC cs 6 (by omega)
  have p6 : ∀ l, sliceAddr 1 (.own l N 1) 6 = some (.eptr l N 6) := fun l => own_at l N 6 (by omega)
  have p7 : ∀ l, sliceAddr 1 (.own l N 1) 7 = some (.eptr l N 7) := fun l => own_at l N 7 (by omega)
  have p8 : ∀ l, sliceAddr 1 (.own l N 1) 8 = some (.eptr l N 8) := fun l => own_at l N 8 (by omega)
  have hr : roomFor N 8 = true := by simp [roomFor]; omega
  have hn0 : ¬ N = 0 := by omega
  have e1' : (intsC cs).map V.dat = ints cs := by simp [intsC, ints]
  obtain ⟨L1, hL1⟩ : ∃ L, L = setI cs 8 (wr (getN cs 8 - 1)) := ⟨_, rfl⟩
  obtain ⟨L2, hL2⟩ : ∃ L, L = setI L1 6 (wr (getN cs 6 + 1)) := ⟨_, rfl⟩
  obtain ⟨L3, hL3⟩ : ∃ L, L = setI L2 7 (getN cs 7 - 1) := ⟨_, rfl⟩
  have hR : rL cs 1 = L3 := by rw [hL3, hL2, hL1]; simp [rL]
  have n1 : L1.length = N := by rw [hL1]; simp [hN]
  have n2 : L2.length = N := by rw [hL2]; simp [n1]
  have n3 : L3.length = N := by rw [hL3]; simp [n2]
  have u8 := cut_own' (cs := cs) 8 _ (by omega) rfl
  have u6 : cutCells (ints L1) 6 1 = some [V.int (getN cs 6)] := cut_own' 6 _ (by omega) (by rw [hL1, getN_set_ne (by decide)])
  have u7 : cutCells (ints L2) 7 1 = some [V.int (getN cs 7)] := cut_own' 7 _ (by omega) (by rw [hL2, getN_set_ne (by decide), hL1, getN_set_ne (by decide)])
  have u7' : cutCells (ints L3) 7 1 = some [V.int (getN cs 7 - 1)] := cut_own' 7 _ (by omega) (by rw [hL3, getN_set_eq (by decide) (by omega)])
  have t8 : (ints cs).take 8 ++ (V.int (wr (getN cs 8 - 1)) :: (ints cs).drop 9) = ints L1 := by rw [hL1]; exact set_ints cs 8 _ (by omega)
  have t6 : (ints L1).take 6 ++ (V.int (wr (getN cs 6 + 1)) :: (ints L1).drop 7) = ints L2 := by rw [hL2]; exact set_ints L1 6 _ (by omega)
  have t7 : (ints L2).take 7 ++ (V.int (getN cs 7 - 1) :: (ints L2).drop 8) = ints L3 := by rw [hL3]; exact set_ints L2 7 _ (by omega)
  have k9 : 9 ≤ N := by omega
  have k7 : 7 ≤ N := by omega
  have k8 : 8 ≤ N := by omega
  have keep : ∀ j : Nat, j ≠ 6 → j ≠ 7 → j ≠ 8 → getN L3 j = getN cs j := fun j a b d => by rw [← hR]; exact rL_get a b d
  have z0 : ¬ (0 : Int) > 0 := by omega
  obtain ⟨B, hB⟩ : ∃ B : Int, B = getN cs 7 - 1 := ⟨_, rfl⟩
  have B0 : 0 ≤ B ∧ B ≤ 16 := by omega
  rw [← hB] at u7' t7
  have w7 : wr (getN cs 7 - 1) = B := by rw [hB]; exact wrap64 _ (by omega)
  have wB : wr (16 + B) = 16 + B := wrap64 _ (by omega)
  have wB1 : wr (16 + B + 1) = 16 + B + 1 := wrap64 _ (by omega)
  have wB2 : wr (B + 1) = B + 1 := wrap64 _ (by omega)
  have pB := fun l => at_own l N (16 + B) (by omega) (by omega)
  have pB1 := fun l => at_own l N (16 + B + 1) (by omega) (by omega)
  have kB : (16 + B).toNat + 1 ≤ N := by omega
  have uB := cut_own (cs := L3) (16 + B) _ (by omega) (by omega) (keep (16 + B).toNat (by omega) (by omega) (by omega))
  have uB1 := cut_own (cs := L3) (16 + B + 1) _ (by omega) (by omega) (keep (16 + B + 1).toNat (by omega) (by omega) (by omega))
  have tB : ∀ v, (ints L3).take (16 + B).toNat ++ (V.int v :: (ints L3).drop ((16 + B).toNat + 1)) = ints (setI L3 (16 + B) v) := fun v => set_ints L3 _ v (by omega)
  have tB2 : ∀ v, (ints (setI L3 (16 + B) v)).take 7 ++ (V.int (B + 1) :: (ints (setI L3 (16 + B) v)).drop 8) = ints (setI (setI L3 (16 + B) v) 7 (B + 1)) := fun v => set_ints _ 7 _ (by simp; omega)
  have nB : ∀ v, (setI L3 (16 + B) v).length = N := fun v => by simp [n3]
  have nB2 : ∀ v, (setI (setI L3 (16 + B) v) 7 (B + 1)).length = N := fun v => by simp [n3]
  rw [← hB]
  obtain ⟨A, hA⟩ : ∃ A, A = getN cs (16 + B).toNat := ⟨_, rfl⟩
  rw [← hA] at uB
  rw [← hA]
  have za := apply_Z A (0) op hop.1 hop.2
  obtain ⟨X, hX⟩ : ∃ X, X = appI op A (0) := ⟨_, rfl⟩
  rw [← hX] at za ⊢
  rw [hR]
  refine Z_call (pf := F57) rfl rfl ?_
  simp only [Su.d, Su.c, progD] at *
  simp [F57, List.range_succ, calm, alone, zv, hat, hcut, zp, zq, d1, d2, d6, d7, d8, d4, d3, d5, d18, d19, d21, d20, r6, q6, p6, p7, p8, hr, hn0, e1', hN, n1, n2, n3, u8, u6, u7, u7', t8, t6, t7, w7, k9, k7, k8, wB, wB1, wB2, pB, pB1, kB, uB, uB1, tB, tB2, nB, nB2, intsC_nil, intsC_cons, za]
theorem rsd2 {s : Su} {cs : List Int} {N : Nat} {c : List (Nat × Int)} {f : Bool} {e0 e1 e2 n : Int} {op : Nat} (hs : s.ok) (hN : cs.length = N) (h : N = s.n) (hc : ∀ x ∈ c, 1 ≤ x.1 ∧ x.1 ≤ 21) (hcan : canStep c cs = true) (hi : insAt c (getI cs 6) = (op, n)) (hop : 9 ≤ op ∧ op ≤ 17) (hp : popsN op = 2) :
    Z prog16 (.call 57 [.dat (.sl (intsC cs) N false), s.d, progD f c e0 e1 e2] []) = some (.ret (.tup [.dat (.sl (intsC (setI (setI (rL cs 2) (16 + (getN cs 7 - 2)) (appI op (getN cs (16 + (getN cs 7 - 2)).toNat) (getN cs (16 + (getN cs 7 - 2) + 1).toNat))) 7 ((getN cs 7 - 2) + 1))) N false), .bool false, .dat (.agg (intsC [0, 0, 0, 0])), .bool false]) []) := by
  have h48 : 48 ≤ N ∧ N < 1000 := by have := hs.p3; have := hs.b5; rw [h]; unfold Su.n; omega
  have zv := valid_Z (f := f) (e0 := e0) (e1 := e1) (e2 := e2) hN h48.1 h48.2 hc
  rw [hcan] at zv
  simp only [canStep, Bool.and_eq_true, Bool.not_eq_true', Bool.or_eq_false_iff, decide_eq_false_iff_not] at hcan
  obtain ⟨⟨hf, hp0, hp1⟩, hx⟩ := hcan
  obtain ⟨hx1, hx2, hx3, hx4⟩ := exOk_spec hx
  have hiL : (getI cs 6).toNat < c.length := by omega
  have hins : insAt c (getI cs 6) = c[(getI cs 6).toNat] := by simp [insAt, List.getD_eq_getElem?_getD, hiL]
  have hcut := cut2_codeC c _ hiL
  have hat := at_codeD f c (getI cs 6) (by omega) (by omega)
  rw [← hins, hi] at hcut
  rw [hi] at hx2 hx3 hx4
  simp only at hcut hx2 hx3 hx4
  have g6 : getI cs 6 = getN cs 6 := rfl
  have g7 : getI cs 7 = getN cs 7 := rfl
  rw [g6] at hat hcut
  rw [g7] at hx1 hx2 hx3
  have eP : popsN op = 2 := by exact hp
  have eQ : pushN op = 1 := by (unfold pushN; split <;> first | omega | rfl)
  have ho1 : 1 ≤ op ∧ op ≤ 21 := by omega
  have zp : Z prog16 (.call 68 [.int op] []) = some (.ret (.int 2) []) := by have := pops_Z op ho1.1 ho1.2; rw [eP] at this; exact this
  have zq : Z prog16 (.call 72 [.int op] []) = some (.ret (.int 1) []) := by have := push_Z op ho1.1 ho1.2; rw [eQ] at this; exact this
  rw [eP] at hx2
  rw [eP, eQ] at hx3
  simp only [Int.ofNat_zero, Int.ofNat_one, Int.cast_ofNat_Int] at hx2 hx3
  have d1 : decide ((op : Int) = 1) = false := by simp; omega
  have d2 : decide ((op : Int) = 2) = false := by simp; omega
  have d6 : decide ((op : Int) = 6) = false := by simp; omega
  have d7 : decide ((op : Int) = 7) = false := by simp; omega
  have d8 : decide ((op : Int) = 8) = false := by simp; omega
  have d4 : decide ((op : Int) = 4) = false := by simp; omega
  have d3 : decide ((op : Int) = 3) = false := by simp; omega
  have d5 : decide ((op : Int) = 5) = false := by simp; omega
  have d18 : decide ((op : Int) = 18) = false := by simp; omega
  have d19 : decide ((op : Int) = 19) = false := by simp; omega
  have d21 : decide ((op : Int) = 21) = false := by simp; omega
  have d20 : decide ((op : Int) = 20) = false := by simp; omega
  have r6 : sliceAddr 1 (.dat (.sl (intsC cs) N false)) 6 = some (.dat (.imm (intsC cs) 6)) := row_at _ N 6 (by omega)
  have q6 := cut1_intsC cs 6 (by omega)
  have p6 : ∀ l, sliceAddr 1 (.own l N 1) 6 = some (.eptr l N 6) := fun l => own_at l N 6 (by omega)
  have p7 : ∀ l, sliceAddr 1 (.own l N 1) 7 = some (.eptr l N 7) := fun l => own_at l N 7 (by omega)
  have p8 : ∀ l, sliceAddr 1 (.own l N 1) 8 = some (.eptr l N 8) := fun l => own_at l N 8 (by omega)
  have hr : roomFor N 8 = true := by simp [roomFor]; omega
  have hn0 : ¬ N = 0 := by omega
  have e1' : (intsC cs).map V.dat = ints cs := by simp [intsC, ints]
  obtain ⟨L1, hL1⟩ : ∃ L, L = setI cs 8 (wr (getN cs 8 - 1)) := ⟨_, rfl⟩
  obtain ⟨L2, hL2⟩ : ∃ L, L = setI L1 6 (wr (getN cs 6 + 1)) := ⟨_, rfl⟩
  obtain ⟨L3, hL3⟩ : ∃ L, L = setI L2 7 (getN cs 7 - 2) := ⟨_, rfl⟩
  have hR : rL cs 2 = L3 := by rw [hL3, hL2, hL1]; simp [rL]
  have n1 : L1.length = N := by rw [hL1]; simp [hN]
  have n2 : L2.length = N := by rw [hL2]; simp [n1]
  have n3 : L3.length = N := by rw [hL3]; simp [n2]
  have u8 := cut_own' (cs := cs) 8 _ (by omega) rfl
  have u6 : cutCells (ints L1) 6 1 = some [V.int (getN cs 6)] := cut_own' 6 _ (by omega) (by rw [hL1, getN_set_ne (by decide)])
  have u7 : cutCells (ints L2) 7 1 = some [V.int (getN cs 7)] := cut_own' 7 _ (by omega) (by rw [hL2, getN_set_ne (by decide), hL1, getN_set_ne (by decide)])
  have u7' : cutCells (ints L3) 7 1 = some [V.int (getN cs 7 - 2)] := cut_own' 7 _ (by omega) (by rw [hL3, getN_set_eq (by decide) (by omega)])
  have t8 : (ints cs).take 8 ++ (V.int (wr (getN cs 8 - 1)) :: (ints cs).drop 9) = ints L1 := by rw [hL1]; exact set_ints cs 8 _ (by omega)
  have t6 : (ints L1).take 6 ++ (V.int (wr (getN cs 6 + 1)) :: (ints L1).drop 7) = ints L2 := by rw [hL2]; exact set_ints L1 6 _ (by omega)
  have t7 : (ints L2).take 7 ++ (V.int (getN cs 7 - 2) :: (ints L2).drop 8) = ints L3 := by rw [hL3]; exact set_ints L2 7 _ (by omega)
  have k9 : 9 ≤ N := by omega
  have k7 : 7 ≤ N := by omega
  have k8 : 8 ≤ N := by omega
  have keep : ∀ j : Nat, j ≠ 6 → j ≠ 7 → j ≠ 8 → getN L3 j = getN cs j := fun j a b d => by rw [← hR]; exact rL_get a b d
  have z0 : ¬ (0 : Int) > 0 := by omega
  obtain ⟨B, hB⟩ : ∃ B : Int, B = getN cs 7 - 2 := ⟨_, rfl⟩
  have B0 : 0 ≤ B ∧ B ≤ 16 := by omega
  rw [← hB] at u7' t7
  have w7 : wr (getN cs 7 - 2) = B := by rw [hB]; exact wrap64 _ (by omega)
  have wB : wr (16 + B) = 16 + B := wrap64 _ (by omega)
  have wB1 : wr (16 + B + 1) = 16 + B + 1 := wrap64 _ (by omega)
  have wB2 : wr (B + 1) = B + 1 := wrap64 _ (by omega)
  have pB := fun l => at_own l N (16 + B) (by omega) (by omega)
  have pB1 := fun l => at_own l N (16 + B + 1) (by omega) (by omega)
  have kB : (16 + B).toNat + 1 ≤ N := by omega
  have uB := cut_own (cs := L3) (16 + B) _ (by omega) (by omega) (keep (16 + B).toNat (by omega) (by omega) (by omega))
  have uB1 := cut_own (cs := L3) (16 + B + 1) _ (by omega) (by omega) (keep (16 + B + 1).toNat (by omega) (by omega) (by omega))
  have tB : ∀ v, (ints L3).take (16 + B).toNat ++ (V.int v :: (ints L3).drop ((16 + B).toNat + 1)) = ints (setI L3 (16 + B) v) := fun v => set_ints L3 _ v (by omega)
  have tB2 : ∀ v, (ints (setI L3 (16 + B) v)).take 7 ++ (V.int (B + 1) :: (ints (setI L3 (16 + B) v)).drop 8) = ints (setI (setI L3 (16 + B) v) 7 (B + 1)) := fun v => set_ints _ 7 _ (by simp; omega)
  have nB : ∀ v, (setI L3 (16 + B) v).length = N := fun v => by simp [n3]
  have nB2 : ∀ v, (setI (setI L3 (16 + B) v) 7 (B + 1)).length = N := fun v => by simp [n3]
  rw [← hB]
  obtain ⟨A, hA⟩ : ∃ A, A = getN cs (16 + B).toNat := ⟨_, rfl⟩
  rw [← hA] at uB
  obtain ⟨A2, hA2⟩ : ∃ A, A = getN cs (16 + B + 1).toNat := ⟨_, rfl⟩
  rw [← hA2] at uB1
  rw [← hA, ← hA2]
  have za := apply_Z A (A2) op hop.1 hop.2
  obtain ⟨X, hX⟩ : ∃ X, X = appI op A (A2) := ⟨_, rfl⟩
  rw [← hX] at za ⊢
  rw [hR]
  refine Z_call (pf := F57) rfl rfl ?_
  simp only [Su.d, Su.c, progD] at *
  simp [F57, List.range_succ, calm, alone, zv, hat, hcut, zp, zq, d1, d2, d6, d7, d8, d4, d3, d5, d18, d19, d21, d20, r6, q6, p6, p7, p8, hr, hn0, e1', hN, n1, n2, n3, u8, u6, u7, u7', t8, t6, t7, w7, k9, k7, k8, wB, wB1, wB2, pB, pB1, kB, uB, uB1, tB, tB2, nB, nB2, intsC_nil, intsC_cons, za]
end Go.Pm
end SV36
