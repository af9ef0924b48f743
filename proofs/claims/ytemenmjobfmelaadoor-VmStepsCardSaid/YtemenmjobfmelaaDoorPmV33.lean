/- Chapter 16: the reference's start, and whether it may go on. Chapter 16: whether the reference may go on. Chapter 16: the reference's loads and stores. -/
import Derived.Test.YtemenmjobfmelaaDoorPmV31
set_option linter.unusedSimpArgs false
set_option linter.unusedVariables false
section SV33
set_option linter.unusedSimpArgs false
set_option linter.unusedVariables false
namespace Go.Pm
open F
theorem cut1_ints' (xs : List Int) (i : Nat) (h : i < xs.length) : cutCells (ints xs) i 1 = some [V.int (getN xs i)] := by
  have := cut1_ints xs (i : Int) (by simpa using h)
  simpa [getI] using this
theorem own_at (l N i : Nat) (h : i < N) : sliceAddr 1 (.own l N 1) i = some (.eptr l N i) := by
  have := at_own l N i (by omega) (by omega)
  simpa using this
theorem row_at (cs : List D) (N i : Nat) (h : i < N) : sliceAddr 1 (.dat (.sl cs N false)) i = some (.dat (.imm cs i)) := by
  have := at_full cs N false i (by omega) (by omega)
  simpa using this
section
variable {s : Su} {cs : List Int} {N : Nat} {c : List (Nat × Int)} {f : Bool} {e0 e1 e2 h self other fuel : Int}
theorem rstart_no (hb : h < 0 ∨ 3 ≤ h ∨ entI e0 e1 e2 h < 0) :
    Z prog16 (.call 56 [.dat (.sl (intsC cs) N false), progD f c e0 e1 e2, .int h, .int self, .int other, .int fuel] []) = some (.ret (.tup [.dat (.sl (intsC cs) N false), .bool false]) []) := by
  refine Z_call (pf := F56) rfl rfl ?_
  by_cases h0 : h < 0
  · simp [F56, progD, List.range_succ, h0]
  · by_cases h3 : 2 < h
    · simp [F56, progD, List.range_succ, h0, h3]
    · obtain rfl | rfl | rfl : h = 0 ∨ h = 1 ∨ h = 2 := by omega
      · have h4 : e0 < 0 := by simpa [entI] using hb
        simp [F56, progD, List.range_succ, h4]
      · have h4 : e1 < 0 := by simpa [entI] using hb
        simp [F56, progD, List.range_succ, h4]
      · have h4 : e2 < 0 := by simpa [entI] using hb
        simp [F56, progD, List.range_succ, h4]
theorem rstart_yes (hN : cs.length = N) (h48 : 48 ≤ N) (hN1 : N < 1000) (hb : ¬ (h < 0 ∨ 3 ≤ h ∨ entI e0 e1 e2 h < 0)) :
    Z prog16 (.call 56 [.dat (.sl (intsC cs) N false), progD f c e0 e1 e2, .int h, .int self, .int other, .int fuel] []) = some (.ret (.tup [.dat (.sl (intsC (startC cs (entI e0 e1 e2 h) fuel self other)) N false), .bool true]) []) := by
  refine Z_call (pf := F56) rfl rfl ?_
  have hr : roomFor N 8 = true := by simp [roomFor]; omega
  have hn0 : ¬ N = 0 := by omega
  have e1' : (intsC cs).map V.dat = ints cs := by simp [intsC, ints]
  have p6 : sliceAddr 1 (.own 1 N 1) 6 = some (.eptr 1 N 6) := own_at 1 N 6 (by omega)
  have p7 : sliceAddr 1 (.own 1 N 1) 7 = some (.eptr 1 N 7) := own_at 1 N 7 (by omega)
  have p8 : sliceAddr 1 (.own 1 N 1) 8 = some (.eptr 1 N 8) := own_at 1 N 8 (by omega)
  have p9 : sliceAddr 1 (.own 1 N 1) 9 = some (.eptr 1 N 9) := own_at 1 N 9 (by omega)
  have p10 : sliceAddr 1 (.own 1 N 1) 10 = some (.eptr 1 N 10) := own_at 1 N 10 (by omega)
  have q6 : 6 + 1 ≤ N := by omega
  have q7 : 7 + 1 ≤ N := by omega
  have q8 : 8 + 1 ≤ N := by omega
  have q9 : 9 + 1 ≤ N := by omega
  have q10 : 10 + 1 ≤ N := by omega
  simp only [Nat.reduceAdd] at q6 q7 q8 q9 q10
  have E : ∀ e, ∃ L, L = startC cs e fuel self other := fun e => ⟨_, rfl⟩
  have t6 : ∀ e, (ints cs).take 6 ++ (V.int e :: (ints cs).drop 7) = ints (setI cs 6 e) := fun e => set_ints cs 6 e (by omega)
  have t7 : ∀ e, (ints (setI cs 6 e)).take 7 ++ (V.int 0 :: (ints (setI cs 6 e)).drop 8) = ints (setI (setI cs 6 e) 7 0) := fun e => set_ints _ 7 _ (by simp; omega)
  have t8 : ∀ e, (ints (setI (setI cs 6 e) 7 0)).take 8 ++ (V.int fuel :: (ints (setI (setI cs 6 e) 7 0)).drop 9) = ints (setI (setI (setI cs 6 e) 7 0) 8 fuel) := fun e => set_ints _ 8 _ (by simp; omega)
  have t9 : ∀ e, (ints (setI (setI (setI cs 6 e) 7 0) 8 fuel)).take 9 ++ (V.int self :: (ints (setI (setI (setI cs 6 e) 7 0) 8 fuel)).drop 10) = ints (setI (setI (setI (setI cs 6 e) 7 0) 8 fuel) 9 self) := fun e => set_ints _ 9 _ (by simp; omega)
  have t10 : ∀ e, (ints (setI (setI (setI (setI cs 6 e) 7 0) 8 fuel) 9 self)).take 10 ++ (V.int other :: (ints (setI (setI (setI (setI cs 6 e) 7 0) 8 fuel) 9 self)).drop 11) = ints (startC cs e fuel self other) := fun e => set_ints _ 10 _ (by simp; omega)
  obtain rfl | rfl | rfl : h = 0 ∨ h = 1 ∨ h = 2 := by omega
  · have h4 : ¬ e0 < 0 := by simpa [entI] using hb
    simp [F56, progD, List.range_succ, h4, hr, hn0, hN, e1', p6, p7, p8, p9, p10, q6, q7, q8, q9, q10, t6, t7, t8, t9, t10, entI]
  · have h4 : ¬ e1 < 0 := by simpa [entI] using hb
    simp [F56, progD, List.range_succ, h4, hr, hn0, hN, e1', p6, p7, p8, p9, p10, q6, q7, q8, q9, q10, t6, t7, t8, t9, t10, entI]
  · have h4 : ¬ e2 < 0 := by simpa [entI] using hb
    simp [F56, progD, List.range_succ, h4, hr, hn0, hN, e1', p6, p7, p8, p9, p10, q6, q7, q8, q9, q10, t6, t7, t8, t9, t10, entI]
end
end Go.Pm
end SV33
section SV34
set_option linter.unusedSimpArgs false
set_option linter.unusedVariables false
namespace Go.Pm
open F
section
variable {s : Su} {cs : List Int} {N : Nat} {c : List (Nat × Int)} {f : Bool} {e0 e1 e2 : Int}
set_option maxHeartbeats 4000000 in
theorem valid_Z (hN : cs.length = N) (h48 : 48 ≤ N) (hN1 : N < 1000) (hc : ∀ x ∈ c, 1 ≤ x.1 ∧ x.1 ≤ 21) :
    Z prog16 (.call 67 [.dat (.sl (intsC cs) N false), progD f c e0 e1 e2] []) = some (.ret (.bool (canStep c cs)) []) := by
  refine Z_call (pf := F67) rfl rfl ?_
  have p6 : sliceAddr 1 (.dat (.sl (intsC cs) N false)) 6 = some (.dat (.imm (intsC cs) 6)) := row_at _ N 6 (by omega)
  have p7 : sliceAddr 1 (.dat (.sl (intsC cs) N false)) 7 = some (.dat (.imm (intsC cs) 7)) := row_at _ N 7 (by omega)
  have p8 : sliceAddr 1 (.dat (.sl (intsC cs) N false)) 8 = some (.dat (.imm (intsC cs) 8)) := row_at _ N 8 (by omega)
  have q6 := cut1_intsC cs 6 (by omega)
  have q7 := cut1_intsC cs 7 (by omega)
  have q8 := cut1_intsC cs 8 (by omega)
  have g6 : getI cs 6 = getN cs 6 := rfl
  have g7 : getI cs 7 = getN cs 7 := rfl
  have g8 : getI cs 8 = getN cs 8 := rfl
  unfold canStep
  rw [g6, g7, g8]
  have hat := at_codeD f c (getN cs 6)
  have hcut := cut2_codeC c (getN cs 6).toNat
  generalize getN cs 6 = pc at *
  generalize getN cs 7 = sp at *
  generalize getN cs 8 = fuel at *
  by_cases h0 : fuel < 1
  · simp [F67, progD, List.range_succ, calm, alone, p6, p7, p8, q6, q7, q8, h0]
  by_cases h1 : pc < 0
  · simp [F67, progD, List.range_succ, calm, alone, p6, p7, p8, q6, q7, q8, h0, h1]
  by_cases h2 : (c.length : Int) ≤ pc
  · simp [F67, progD, List.range_succ, calm, alone, p6, p7, p8, q6, q7, q8, h0, h1, h2]
  have hi : pc.toNat < c.length := by omega
  have hins : insAt c pc = c[pc.toNat] := by simp [insAt, List.getD_eq_getElem?_getD, hi]
  have hmem := hc _ (List.getElem_mem hi)
  replace hcut := hcut hi
  replace hat := hat (by omega) (by omega)
  rw [← hins] at hmem hcut
  generalize insAt c pc = ins at *
  obtain ⟨op, n⟩ := ins
  simp only at hmem hcut ⊢
  have zp := pops_Z op hmem.1 hmem.2
  have zq := push_Z op hmem.1 hmem.2
  have hp2 := pops_le op
  have hu2 := push_le op
  have hfp : (!(decide (fuel < 1) || (decide (pc < 0) || decide ((c.length : Int) ≤ pc)))) = true := by simp; omega
  rw [hfp, Bool.true_and]
  have b0 : ¬ ((popsN op : Nat) : Int) < 0 := by omega
  by_cases h3 : sp < popsN op
  · have : exOk op n sp = false := by simp [exOk]; omega
    rw [this]
    simp [F67, progD, List.range_succ, calm, alone, p6, p7, p8, q6, q7, q8, h0, h1, h2, hat, hcut, zp, zq, b0, h3]
  by_cases h4 : 16 < sp
  · have : exOk op n sp = false := by simp [exOk]; omega
    rw [this]
    simp [F67, progD, List.range_succ, calm, alone, p6, p7, p8, q6, q7, q8, h0, h1, h2, hat, hcut, zp, zq, b0, h3, h4]
  have w1 : wr (sp - popsN op) = sp - popsN op := wrap64 _ (by omega)
  have w2 : wr (sp - popsN op + pushN op) = sp - popsN op + pushN op := wrap64 _ (by omega)
  by_cases h5 : 16 < sp - popsN op + pushN op
  · have : exOk op n sp = false := by simp [exOk]; omega
    rw [this]
    simp [F67, progD, List.range_succ, calm, alone, p6, p7, p8, q6, q7, q8, h0, h1, h2, hat, hcut, zp, zq, b0, h3, h4, w1, w2, h5]
  have hx : exOk op n sp = (decide (operN op = 0) || (decide (0 ≤ n) && decide (n < operN op))) := by
    have a1 : decide (sp ≤ 16) = true := by simp; omega
    have a2 : decide ((popsN op : Int) ≤ sp) = true := by simp; omega
    have a3 : decide (sp - popsN op + pushN op ≤ 16) = true := by simp; omega
    simp only [exOk, a1, a2, a3, Bool.true_and]
  rw [hx]
  clear hx
  by_cases o2 : op = 2
  · have d2 : decide ((op : Int) = 2) = true := by simp; omega
    have d3 : decide ((op : Int) = 3) = false := by simp; omega
    have d4 : decide ((op : Int) = 4) = false := by simp; omega
    have d5 : decide ((op : Int) = 5) = false := by simp; omega
    have hopr : operN op = 16 := by rw [o2]; rfl
    by_cases n0 : n < 0
    · have n0' : ¬ 0 ≤ n := by omega
      simp [F67, progD, List.range_succ, calm, alone, p6, p7, p8, q6, q7, q8, h0, h1, h2, hat, hcut, zp, zq, b0, h3, h4, w1, w2, h5, d2, d3, d4, d5, hopr, n0, n0']
    · have n0' : 0 ≤ n := by omega
      by_cases n1 : 15 < n
      · have n1' : ¬ n < 16 := by omega
        simp [F67, progD, List.range_succ, calm, alone, p6, p7, p8, q6, q7, q8, h0, h1, h2, hat, hcut, zp, zq, b0, h3, h4, w1, w2, h5, d2, d3, d4, d5, hopr, n0, n0', n1, n1']
      · have n1' : n < 16 := by omega
        simp [F67, progD, List.range_succ, calm, alone, p6, p7, p8, q6, q7, q8, h0, h1, h2, hat, hcut, zp, zq, b0, h3, h4, w1, w2, h5, d2, d3, d4, d5, hopr, n0, n0', n1, n1']
  by_cases o3 : op = 3
  · have d2 : decide ((op : Int) = 2) = false := by simp; omega
    have d3 : decide ((op : Int) = 3) = true := by simp; omega
    have d4 : decide ((op : Int) = 4) = false := by simp; omega
    have d5 : decide ((op : Int) = 5) = false := by simp; omega
    have hopr : operN op = 16 := by rw [o3]; rfl
    by_cases n0 : n < 0
    · have n0' : ¬ 0 ≤ n := by omega
      simp [F67, progD, List.range_succ, calm, alone, p6, p7, p8, q6, q7, q8, h0, h1, h2, hat, hcut, zp, zq, b0, h3, h4, w1, w2, h5, d2, d3, d4, d5, hopr, n0, n0']
    · have n0' : 0 ≤ n := by omega
      by_cases n1 : 15 < n
      · have n1' : ¬ n < 16 := by omega
        simp [F67, progD, List.range_succ, calm, alone, p6, p7, p8, q6, q7, q8, h0, h1, h2, hat, hcut, zp, zq, b0, h3, h4, w1, w2, h5, d2, d3, d4, d5, hopr, n0, n0', n1, n1']
      · have n1' : n < 16 := by omega
        simp [F67, progD, List.range_succ, calm, alone, p6, p7, p8, q6, q7, q8, h0, h1, h2, hat, hcut, zp, zq, b0, h3, h4, w1, w2, h5, d2, d3, d4, d5, hopr, n0, n0', n1, n1']
  by_cases o4 : op = 4
  · have d2 : decide ((op : Int) = 2) = false := by simp; omega
    have d3 : decide ((op : Int) = 3) = false := by simp; omega
    have d4 : decide ((op : Int) = 4) = true := by simp; omega
    have d5 : decide ((op : Int) = 5) = false := by simp; omega
    have hopr : operN op = 8 := by rw [o4]; rfl
    by_cases n0 : 0 ≤ n
    · by_cases n1 : n ≤ 7
      · have n1' : n < 8 := by omega
        simp [F67, progD, List.range_succ, calm, alone, p6, p7, p8, q6, q7, q8, h0, h1, h2, hat, hcut, zp, zq, b0, h3, h4, w1, w2, h5, d2, d3, d4, d5, hopr, n0, n1, n1']
      · have n1' : ¬ n < 8 := by omega
        simp [F67, progD, List.range_succ, calm, alone, p6, p7, p8, q6, q7, q8, h0, h1, h2, hat, hcut, zp, zq, b0, h3, h4, w1, w2, h5, d2, d3, d4, d5, hopr, n0, n1, n1']
    · simp [F67, progD, List.range_succ, calm, alone, p6, p7, p8, q6, q7, q8, h0, h1, h2, hat, hcut, zp, zq, b0, h3, h4, w1, w2, h5, d2, d3, d4, d5, hopr, n0]
  by_cases o5 : op = 5
  · have d2 : decide ((op : Int) = 2) = false := by simp; omega
    have d3 : decide ((op : Int) = 3) = false := by simp; omega
    have d4 : decide ((op : Int) = 4) = false := by simp; omega
    have d5 : decide ((op : Int) = 5) = true := by simp; omega
    have hopr : operN op = 8 := by rw [o5]; rfl
    by_cases n0 : 0 ≤ n
    · by_cases n1 : n ≤ 7
      · have n1' : n < 8 := by omega
        simp [F67, progD, List.range_succ, calm, alone, p6, p7, p8, q6, q7, q8, h0, h1, h2, hat, hcut, zp, zq, b0, h3, h4, w1, w2, h5, d2, d3, d4, d5, hopr, n0, n1, n1']
      · have n1' : ¬ n < 8 := by omega
        simp [F67, progD, List.range_succ, calm, alone, p6, p7, p8, q6, q7, q8, h0, h1, h2, hat, hcut, zp, zq, b0, h3, h4, w1, w2, h5, d2, d3, d4, d5, hopr, n0, n1, n1']
    · simp [F67, progD, List.range_succ, calm, alone, p6, p7, p8, q6, q7, q8, h0, h1, h2, hat, hcut, zp, zq, b0, h3, h4, w1, w2, h5, d2, d3, d4, d5, hopr, n0]
  have d2 : decide ((op : Int) = 2) = false := by simp; omega
  have d3 : decide ((op : Int) = 3) = false := by simp; omega
  have d4 : decide ((op : Int) = 4) = false := by simp; omega
  have d5 : decide ((op : Int) = 5) = false := by simp; omega
  have hopr : operN op = 0 := by
    unfold operN
    split <;> first | omega | rfl
  simp [F67, progD, List.range_succ, calm, alone, p6, p7, p8, q6, q7, q8, h0, h1, h2, hat, hcut, zp, zq, b0, h3, h4, w1, w2, h5, d2, d3, d4, d5, hopr, h0]
end
end Go.Pm
end SV34
section SV35
set_option linter.unusedSimpArgs false
set_option linter.unusedVariables false
namespace Go.Pm
open F
section
variable {s : Su} {cs : List Int} {N : Nat} {a b n : Int}
theorem load_Z (hs : s.ok) (hN : cs.length = N) (h : N = s.n) (n0 : 0 ≤ n) (n8 : n < 8) :
    Z prog16 (.call 1000 [.own 0 N 1, s.d, .int a, .int n] [.vec (ints cs)]) = some (.ret (.int (if bodyI s a < 0 then 0 else getI cs (bodyI s a + n))) [.vec (ints cs)]) := by
  have zb := rbody_Z s hs a
  refine Z_call (pf := F1000) rfl rfl ?_
  by_cases h0 : bodyI s a < 0
  · rw [if_pos h0]
    generalize bodyI s a = B at *
    simp only [Su.d, Su.c] at *
    simp [F1000, zb, h0, List.range_succ]
  · rw [if_neg h0]
    have hB := bodyI_low (s := s) (a := a) (by omega)
    have hp := hs.p3; have hq := hs.b5
    have h1000 : s.n < 1000 := by unfold Su.n; omega
    generalize bodyI s a = B at *
    have w := wrap64 (B + n) (by omega)
    have p := at_own 0 N (B + n) (by omega) (by omega)
    have q := cut1_ints cs (B + n) (by omega)
    simp only [Su.d, Su.c] at *
    simp [F1000, zb, h0, List.range_succ, w, p, q, hN]
theorem store_Z (hs : s.ok) (hN : cs.length = N) (h : N = s.n) (n0 : 0 ≤ n) (n8 : n < 8) :
    Z prog16 (.call 69 [.dat (.sl (intsC cs) N false), s.d, .int a, .int n, .int b] []) = some (.ret (.dat (.sl (intsC (if bodyI s a < 0 then cs else setI cs (bodyI s a + n) (limI n b))) N false)) []) := by
  have zb := rbody_Z s hs a
  refine Z_call (pf := F69) rfl rfl ?_
  by_cases h0 : bodyI s a < 0
  · rw [if_pos h0]
    generalize bodyI s a = B at *
    simp only [Su.d, Su.c] at *
    simp [F69, zb, h0, List.range_succ]
  · rw [if_neg h0]
    have hB := bodyI_low (s := s) (a := a) (by omega)
    have hp := hs.p3; have hq := hs.b5
    have h1000 : s.n < 1000 := by unfold Su.n; omega
    generalize bodyI s a = B at *
    have w := wrap64 (B + n) (by omega)
    have p := at_own 1 N (B + n) (by omega) (by omega)
    have hr : roomFor N 8 = true := by simp [roomFor]; omega
    have hn0 : ¬ N = 0 := by omega
    have e1' : (intsC cs).map V.dat = ints cs := by simp [intsC, ints]
    have t : ∀ v, (ints cs).take (B + n).toNat ++ (V.int v :: (ints cs).drop ((B + n).toNat + 1)) = ints (setI cs (B + n) v) := fun v => set_ints cs _ v (by omega)
    have hlt : (B + n).toNat + 1 ≤ N := by omega
    simp only [Su.d, Su.c] at *
    by_cases c2 : n < 2
    · have hl : limI n b = clampI b (-1048576) 1048576 := by unfold limI; rw [if_pos (by omega)]
      have z := rclamp_Z b (-1048576) 1048576
      rw [hl]
      simp [F69, zb, h0, List.range_succ, w, p, hr, hn0, hN, e1', t, hlt, c2, z]
    · by_cases c4 : n < 4
      · have hl : limI n b = clampI b (-16384) 16384 := by unfold limI; rw [if_neg (by omega), if_pos (by omega)]
        have z := rclamp_Z b (-16384) 16384
        rw [hl]
        simp [F69, zb, h0, List.range_succ, w, p, hr, hn0, hN, e1', t, hlt, c2, c4, z]
      · have hl : limI n b = b := by unfold limI; rw [if_neg (by omega), if_neg (by omega)]
        rw [hl]
        simp [F69, zb, h0, List.range_succ, w, p, hr, hn0, hN, e1', t, hlt, c2, c4]
end
theorem bit_rng (f : BitVec 64 → BitVec 64 → BitVec 64) (a b : Int) : 0 ≤ bitI .u64 f a b ∧ bitI .u64 f a b < 18446744073709551616 := wrap_u64_range _
theorem hash_half (a b c d : Int) : IntKind.u64.wrap ((hashI a b c d).tdiv 2) = shrI .u64 (hashI a b c d) 1 := by
  have h : 0 ≤ hashI a b c d ∧ hashI a b c d < 18446744073709551616 := by
    unfold hashI
    rw [mixI_eq]
    exact bit_rng _ _ _
  generalize hashI a b c d = x at *
  have e : shrI .u64 x 1 = x.fdiv 2 := rfl
  rw [e, Int.fdiv_eq_ediv_of_nonneg _ (by omega), Int.tdiv_eq_ediv_of_nonneg h.1]
  exact wrap_u64_id _ (by omega)
end Go.Pm
end SV35
