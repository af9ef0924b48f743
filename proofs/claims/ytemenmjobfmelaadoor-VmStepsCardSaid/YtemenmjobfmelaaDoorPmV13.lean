/- Chapter 16: any step; the start of a handler. Chapter 16: numbers brought into a range; shapes; rows of numbers compared. Chapter 16: rows that are given; the numbers of a setup. Chapter 16: the numbers of a setup, from the first. Chapter 16: the bodies of a setup. Chapter 16: all bodies of a setup. A law's arguments, as the abstract machine's values. -/
import Derived.Test.YtemenmjobfmelaaDoorPmV12
import Derived.Test.YtemenmjobfmelaaDoorPmW
set_option linter.unusedSimpArgs false
set_option linter.unusedVariables false
section SV13
set_option linter.unusedSimpArgs false
set_option linter.unusedVariables false
namespace Go.Pm
open F
theorem stepR_no {s : Su} {c : List (Nat × Int)} {cs : List Int} (h : canStep c cs = false) : stepR s c cs = ⟨cs, true, [0, 0, 0, 0], false⟩ := by
  unfold stepR; rw [h]; rfl
theorem idle0_Z (s : Su) (c : List (Nat × Int)) (f : Bool) (e0 e1 e2 : Int) (cs : List Int) (N : Nat) (hN : cs.length = N) (h48 : 48 ≤ N) (hc : ∀ x ∈ c, 1 ≤ x.1 ∧ x.1 ≤ 21) (hcl : c.length < 2^30) (hcan : canStep c cs = false) :
    Z prog16 (.call 52 [.iface 0 (.ptr 0 0), s.d, progD f c e0 e1 e2] (mem0 cs N)) = some (.ret (stepR s c cs).v (mem0 cs N)) := by
  rw [stepR_no hcan, StR.v]
  by_cases hb : getI cs 8 < 1 ∨ getI cs 6 < 0 ∨ (c.length : Int) ≤ getI cs 6
  · exact stepno0 (get0_Z hN (by omega) (by omega)) (get0_Z hN (by omega) (by omega)) (get0_Z hN (by omega) (by omega)) hb
  · have hf : ¬ getI cs 8 < 1 := by omega
    have hp0 : ¬ getI cs 6 < 0 := by omega
    have hp1 : ¬ (c.length : Int) ≤ getI cs 6 := by omega
    have hi : (getI cs 6).toNat < c.length := by omega
    have hins : insAt c (getI cs 6) = c[(getI cs 6).toNat] := by simp [insAt, List.getD_eq_getElem?_getD, hi]
    have hmem := hc _ (List.getElem_mem hi)
    have hcut := cut2_codeC c _ hi
    have hat := at_codeD f c (getI cs 6) (by omega) (by omega)
    rw [← hins] at hmem hcut
    have hx : exOk (insAt c (getI cs 6)).1 (insAt c (getI cs 6)).2 (getI cs 7) = false := by
      simpa [canStep, hf, hp0, hp1] using hcan
    have hexe := exe_Z (insAt c (getI cs 6)).1 (insAt c (getI cs 6)).2 (getI cs 7) hmem.1 hmem.2
    rw [hx] at hexe
    exact stepbad0 (get0_Z hN (by omega) (by omega)) (get0_Z hN (by omega) (by omega)) (get0_Z hN (by omega) (by omega)) hf hp0 hp1 hat hcut hexe
theorem begin0_Z (c : List (Nat × Int)) (f : Bool) (e0 e1 e2 h self other fuel : Int) (cs : List Int) (N : Nat) (hN : cs.length = N) (h48 : 48 ≤ N) (hb : ¬ (h < 0 ∨ 3 ≤ h ∨ entI e0 e1 e2 h < 0)) :
    ∃ lg' k', lg'.length = k' * 2 ∧ k' ≤ 5 ∧ Z prog16 (.call 49 [.iface 0 (.ptr 0 0), progD f c e0 e1 e2, .int h, .int self, .int other, .int fuel] (mem0 cs N)) = some (.ret (.bool true) (mem1 (startC cs (entI e0 e1 e2 h) fuel self other) N lg' k' (k' * 2))) := by
  have he : ¬ entI e0 e1 e2 h < 0 := by omega
  have s6 := set0_Z (cs := cs) (n := N) (i := 6) (v := (entI e0 e1 e2 h)) hN (by omega) (by omega)
  have s7 := set1_Z (cs := (setI cs 6 (entI e0 e1 e2 h))) (n := N) (lg := (ent cs 6)) (k := (1)) (i := 7) (v := 0) (by simp [hN]) (by omega) (by omega) (by simp [ent_length]) (by omega)
  have s8 := set1_Z (cs := (setI (setI cs 6 (entI e0 e1 e2 h)) 7 0)) (n := N) (lg := ((ent cs 6) ++ ent (setI cs 6 (entI e0 e1 e2 h)) 7)) (k := (2)) (i := 8) (v := fuel) (by simp [hN]) (by omega) (by omega) (by simp [ent_length]) (by omega)
  have s9 := set1_Z (cs := (setI (setI (setI cs 6 (entI e0 e1 e2 h)) 7 0) 8 fuel)) (n := N) (lg := (((ent cs 6) ++ ent (setI cs 6 (entI e0 e1 e2 h)) 7) ++ ent (setI (setI cs 6 (entI e0 e1 e2 h)) 7 0) 8)) (k := (3)) (i := 9) (v := self) (by simp [hN]) (by omega) (by omega) (by simp [ent_length]) (by omega)
  have s10 := set1_Z (cs := (setI (setI (setI (setI cs 6 (entI e0 e1 e2 h)) 7 0) 8 fuel) 9 self)) (n := N) (lg := ((((ent cs 6) ++ ent (setI cs 6 (entI e0 e1 e2 h)) 7) ++ ent (setI (setI cs 6 (entI e0 e1 e2 h)) 7 0) 8) ++ ent (setI (setI (setI cs 6 (entI e0 e1 e2 h)) 7 0) 8 fuel) 9)) (k := (4)) (i := 10) (v := other) (by simp [hN]) (by omega) (by omega) (by simp [ent_length]) (by omega)
  refine ⟨(((((ent cs 6) ++ ent (setI cs 6 (entI e0 e1 e2 h)) 7) ++ ent (setI (setI cs 6 (entI e0 e1 e2 h)) 7 0) 8) ++ ent (setI (setI (setI cs 6 (entI e0 e1 e2 h)) 7 0) 8 fuel) 9) ++ ent (setI (setI (setI (setI cs 6 (entI e0 e1 e2 h)) 7 0) 8 fuel) 9 self) 10), 5, by simp [ent_length], by omega, ?_⟩
  unfold startC
  obtain rfl | rfl | rfl : h = 0 ∨ h = 1 ∨ h = 2 := by omega
  · exact start0_0 he rfl s6 s7 s8 s9 s10
  · exact start0_1 he rfl s6 s7 s8 s9 s10
  · exact start0_2 he rfl s6 s7 s8 s9 s10
theorem idle1_Z (s : Su) (c : List (Nat × Int)) (f : Bool) (e0 e1 e2 : Int) (cs : List Int) (N : Nat) (lg : List D) (k : Nat) (hl : lg.length = k * 2) (hk : k < 2^28) (hN : cs.length = N) (h48 : 48 ≤ N) (hc : ∀ x ∈ c, 1 ≤ x.1 ∧ x.1 ≤ 21) (hcl : c.length < 2^30) (hcan : canStep c cs = false) :
    Z prog16 (.call 52 [.iface 0 (.ptr 0 0), s.d, progD f c e0 e1 e2] (mem1 cs N lg k (k * 2))) = some (.ret (stepR s c cs).v (mem1 cs N lg k (k * 2))) := by
  rw [stepR_no hcan, StR.v]
  by_cases hb : getI cs 8 < 1 ∨ getI cs 6 < 0 ∨ (c.length : Int) ≤ getI cs 6
  · exact stepno1 (get1_Z hN (by omega) (by omega)) (get1_Z hN (by omega) (by omega)) (get1_Z hN (by omega) (by omega)) hb
  · have hf : ¬ getI cs 8 < 1 := by omega
    have hp0 : ¬ getI cs 6 < 0 := by omega
    have hp1 : ¬ (c.length : Int) ≤ getI cs 6 := by omega
    have hi : (getI cs 6).toNat < c.length := by omega
    have hins : insAt c (getI cs 6) = c[(getI cs 6).toNat] := by simp [insAt, List.getD_eq_getElem?_getD, hi]
    have hmem := hc _ (List.getElem_mem hi)
    have hcut := cut2_codeC c _ hi
    have hat := at_codeD f c (getI cs 6) (by omega) (by omega)
    rw [← hins] at hmem hcut
    have hx : exOk (insAt c (getI cs 6)).1 (insAt c (getI cs 6)).2 (getI cs 7) = false := by
      simpa [canStep, hf, hp0, hp1] using hcan
    have hexe := exe_Z (insAt c (getI cs 6)).1 (insAt c (getI cs 6)).2 (getI cs 7) hmem.1 hmem.2
    rw [hx] at hexe
    exact stepbad1 (get1_Z hN (by omega) (by omega)) (get1_Z hN (by omega) (by omega)) (get1_Z hN (by omega) (by omega)) hf hp0 hp1 hat hcut hexe
theorem begin1_Z (c : List (Nat × Int)) (f : Bool) (e0 e1 e2 h self other fuel : Int) (cs : List Int) (N : Nat) (lg : List D) (k : Nat) (hl : lg.length = k * 2) (hk : k < 2^28) (hN : cs.length = N) (h48 : 48 ≤ N) (hb : ¬ (h < 0 ∨ 3 ≤ h ∨ entI e0 e1 e2 h < 0)) :
    ∃ lg' k', lg'.length = k' * 2 ∧ k' ≤ k + 5 ∧ Z prog16 (.call 49 [.iface 0 (.ptr 0 0), progD f c e0 e1 e2, .int h, .int self, .int other, .int fuel] (mem1 cs N lg k (k * 2))) = some (.ret (.bool true) (mem1 (startC cs (entI e0 e1 e2 h) fuel self other) N lg' k' (k' * 2))) := by
  have he : ¬ entI e0 e1 e2 h < 0 := by omega
  have s6 := set1_Z (cs := cs) (n := N) (i := 6) (v := (entI e0 e1 e2 h)) hN (by omega) (by omega) hl (by omega)
  have s7 := set1_Z (cs := (setI cs 6 (entI e0 e1 e2 h))) (n := N) (lg := (lg ++ ent cs 6)) (k := (k + 1)) (i := 7) (v := 0) (by simp [hN]) (by omega) (by omega) (by simp [ent_length, hl]; omega) (by omega)
  have s8 := set1_Z (cs := (setI (setI cs 6 (entI e0 e1 e2 h)) 7 0)) (n := N) (lg := ((lg ++ ent cs 6) ++ ent (setI cs 6 (entI e0 e1 e2 h)) 7)) (k := (k + 2)) (i := 8) (v := fuel) (by simp [hN]) (by omega) (by omega) (by simp [ent_length, hl]; omega) (by omega)
  have s9 := set1_Z (cs := (setI (setI (setI cs 6 (entI e0 e1 e2 h)) 7 0) 8 fuel)) (n := N) (lg := (((lg ++ ent cs 6) ++ ent (setI cs 6 (entI e0 e1 e2 h)) 7) ++ ent (setI (setI cs 6 (entI e0 e1 e2 h)) 7 0) 8)) (k := (k + 3)) (i := 9) (v := self) (by simp [hN]) (by omega) (by omega) (by simp [ent_length, hl]; omega) (by omega)
  have s10 := set1_Z (cs := (setI (setI (setI (setI cs 6 (entI e0 e1 e2 h)) 7 0) 8 fuel) 9 self)) (n := N) (lg := ((((lg ++ ent cs 6) ++ ent (setI cs 6 (entI e0 e1 e2 h)) 7) ++ ent (setI (setI cs 6 (entI e0 e1 e2 h)) 7 0) 8) ++ ent (setI (setI (setI cs 6 (entI e0 e1 e2 h)) 7 0) 8 fuel) 9)) (k := (k + 4)) (i := 10) (v := other) (by simp [hN]) (by omega) (by omega) (by simp [ent_length, hl]; omega) (by omega)
  refine ⟨(((((lg ++ ent cs 6) ++ ent (setI cs 6 (entI e0 e1 e2 h)) 7) ++ ent (setI (setI cs 6 (entI e0 e1 e2 h)) 7 0) 8) ++ ent (setI (setI (setI cs 6 (entI e0 e1 e2 h)) 7 0) 8 fuel) 9) ++ ent (setI (setI (setI (setI cs 6 (entI e0 e1 e2 h)) 7 0) 8 fuel) 9 self) 10), (k + 5), by simp [ent_length, hl]; omega, by omega, ?_⟩
  unfold startC
  obtain rfl | rfl | rfl : h = 0 ∨ h = 1 ∨ h = 2 := by omega
  · exact start1_0 he rfl s6 s7 s8 s9 s10
  · exact start1_1 he rfl s6 s7 s8 s9 s10
  · exact start1_2 he rfl s6 s7 s8 s9 s10
end Go.Pm
end SV13
section SV14
set_option linter.unusedSimpArgs false
set_option linter.unusedVariables false
namespace Go.Pm
open F
def around (n m : Int) : Int := (if n < 0 then -(n+1) else n).tmod m
theorem around_Z {n m : Int} (h1 : I64 n) (hm : 1 ≤ m) : Z prog16 (.call 17 [.int n, .int m] []) = some (.ret (.int (around n m)) []) := by
  refine Z_call (pf := F17) rfl rfl ?_
  have hm0 : m ≠ 0 := by omega
  unfold I64 at h1
  by_cases hn : n < 0
  · simp (disch := omega) [F17, hn, hm0, around, wrap64]
  · simp [F17, hn, hm0, around]
theorem around_lt {n m : Int} (h1 : I64 n) (hm : 1 ≤ m) : 0 ≤ around n m ∧ around n m < m := by
  unfold around
  split
  · exact ⟨Int.tmod_nonneg _ (by omega), Int.tmod_lt_of_pos _ (by omega)⟩
  · exact ⟨Int.tmod_nonneg _ (by omega), Int.tmod_lt_of_pos _ (by omega)⟩
theorem tmod_rng {n m : Int} (h0 : 0 ≤ n) (hm : 1 ≤ m) : 0 ≤ n.tmod m ∧ n.tmod m < m := ⟨Int.tmod_nonneg _ h0, Int.tmod_lt_of_pos _ (by omega)⟩
theorem tdiv_rng {n m : Int} (h0 : 0 ≤ n) (hm : 1 ≤ m) : 0 ≤ n.tdiv m ∧ n.tdiv m ≤ n := by
  rw [Int.tdiv_eq_ediv_of_nonneg h0]
  refine ⟨Int.ediv_nonneg h0 (by omega), Int.ediv_le_self _ h0⟩
/-- A polygon. -/
def polyC (ps : List (Int × Int)) : List D := ps.flatMap fun p => [.lit (.int .i64 p.1), .lit (.int .i64 p.2)]
def polyD : List (Int × Int) → D
  | [] => .lit (.slice none 0 0)
  | p :: ps => .sl (polyC (p :: ps)) (p :: ps).length true
@[simp] theorem one_polyD (ps : List (Int × Int)) : V.one (.dat (polyD ps)) = true := by cases ps <;> rfl
@[simp] theorem cells_polyD (ps : List (Int × Int)) : V.cells (.dat (polyD ps)) = [.dat (polyD ps)] := by cases ps <;> rfl
theorem shape_Z {n : Int} (h : I64 n) : ∃ r ps, Z prog16 (.call 60 [.int n] []) = some (.ret (.dat (.agg [.lit (.int .i64 r), polyD ps])) []) := by
  have a := around_Z h (m := 1000) (by omega)
  have b := around_lt h (m := 1000) (by omega)
  generalize around n 1000 = k at a b
  have d := tdiv_rng b.1 (m := 7) (by omega)
  have e := tmod_rng d.1 (m := 5) (by omega)
  have g := tmod_rng b.1 (m := 7) (by omega)
  have w0 := wrap64 (k.tdiv 7) (by omega)
  have w1 := wrap64 (1 + (k.tdiv 7).tmod 5) (by omega)
  have w2 := wrap64 (512 * (1 + (k.tdiv 7).tmod 5)) (by omega)
  generalize hr : 512 * (1 + (k.tdiv 7).tmod 5) = r at w2
  have hr2 : 0 ≤ r ∧ r < 10000 := by omega
  generalize hm : k.tmod 7 = m at g
  have w3 := wrap64 (-r) (by omega)
  have w4 := wrap64 (2 * r) (by omega)
  have w5 := wrap64 (-2 * r) (by omega)
  have hm2 : m = 0 ∨ m = 1 ∨ m = 2 ∨ m = 3 ∨ m = 4 ∨ m = 5 ∨ m = 6 := by omega
  rcases hm2 with hm2 | hm2 | hm2 | hm2 | hm2 | hm2 | hm2
  · exact ⟨r, [], Z_call (pf := F60) rfl rfl (by simp [F60, a, w0, w1, hr, w2, hm, hm2, w3, w4, w5, polyD, polyC])⟩
  · exact ⟨r, [], Z_call (pf := F60) rfl rfl (by simp [F60, a, w0, w1, hr, w2, hm, hm2, w3, w4, w5, polyD, polyC])⟩
  · exact ⟨r, [], Z_call (pf := F60) rfl rfl (by simp [F60, a, w0, w1, hr, w2, hm, hm2, w3, w4, w5, polyD, polyC])⟩
  · exact ⟨0, [(-r, -r), (r, -r), (r, r), (-r, r)], Z_call (pf := F60) rfl rfl (by simp [F60, a, w0, w1, hr, w2, hm, hm2, w3, w4, w5, polyD, polyC])⟩
  · exact ⟨0, [(-r, -r), (r, -r), (r, r), (-r, r)], Z_call (pf := F60) rfl rfl (by simp [F60, a, w0, w1, hr, w2, hm, hm2, w3, w4, w5, polyD, polyC])⟩
  · exact ⟨0, [(-r, -r), (r, -r), (0, r)], Z_call (pf := F60) rfl rfl (by simp [F60, a, w0, w1, hr, w2, hm, hm2, w3, w4, w5, polyD, polyC])⟩
  · exact ⟨0, [(-2 * r, -300), (2 * r, -300), (2 * r, 300), (-2 * r, 300)], Z_call (pf := F60) rfl rfl (by simp [F60, a, w0, w1, hr, w2, hm, hm2, w3, w4, w5, polyD, polyC])⟩
end Go.Pm
end SV14
section SV15
set_option linter.unusedSimpArgs false
set_option linter.unusedVariables false
namespace Go.Pm
open F
/-- A value that reads as a row of numbers. -/
structure IsRow (d : D) (xs : List Int) : Prop where
  len : ∀ σ, V.len σ .sl (.dat d) = some xs.length
  at_ : ∀ i : Int, 0 ≤ i → i < xs.length → sliceAddr 1 (.dat d) i = some (.dat (.imm (intsC xs) i.toNat))
  one : V.one (.dat d) = true
  cells : V.cells (.dat d) = [.dat d]
theorem isRow_sl (xs : List Int) (f : Bool) : IsRow (.sl (intsC xs) xs.length f) xs where
  len := fun _ => rfl
  at_ := fun i h0 h1 => by simp [sliceAddr, h0, h1]
  one := rfl
  cells := rfl
theorem isRow_nil (o : Option Addr) : IsRow (.lit (.slice o 0 0)) [] where
  len := fun _ => rfl
  at_ := fun i h0 h1 => by simp at h1; omega
  one := rfl
  cells := rfl
def zero16 : Ob := .cells [.int 0, .dat (.lit (.slice none 0 0)), .int 0, .int 0, .int 0, .int 0, .dat (.lit (.slice none 0 0)), .dat (.lit (.slice none 0 0)), .int 0, .int 0, .int 0, .int 0, .int 0, .int 0, .int 0, .int 0]
def InK (K : List Int) : Prop := ∀ x ∈ K, 0 ≤ x ∧ x < 1000000
theorem intsC_append (a b : List Int) : intsC (a ++ b) = intsC a ++ intsC b := by simp [intsC]
/-- The number at a place. -/
def numK (xs : List Int) (i : Nat) : Int := if i < xs.length then around (getN xs i) 1000000 else 0
theorem getN_mem {xs : List Int} {i : Nat} (h : i < xs.length) : getN xs i ∈ xs := by
  simp [getN, List.getD_eq_getElem?_getD, h]
theorem numK_rng {xs : List Int} (hx : ∀ x ∈ xs, I64 x) (i : Nat) : 0 ≤ numK xs i ∧ numK xs i < 1000000 := by
  unfold numK
  split
  · rename_i h
    exact around_lt (hx _ (getN_mem h)) (by omega)
  · omega
def kFr (d : D) (k : V) (i : Int) : Fr := [(0, .dat d), (2, .ptr 0 0), (3, k), (4, .int i)]
theorem klast (d : D) (K : List Int) : Z prog16 (.loop 0 F45l0 (kFr d (.gsl (intsC K) 24 1 1) 24) [zero16, .tip 24]) = some (.out (.exit 0) (kFr d (.gsl (intsC K) 24 1 1) 24 ++ [(12, .bool false)]) [zero16, .tip 24]) := by
  rw [Z_loop_eq]
  simp [loopStep, run_F45l0, kFr, zero16, List.range_succ]
theorem kloop {d : D} {xs : List Int} (hd : IsRow d xs) (hx : ∀ x ∈ xs, I64 x) (m i : Nat) (hm : i + 1 + m = 24) (K : List Int) (hK : K.length = i + 1) (hk : InK K) :
    ∃ K', K'.length = 24 ∧ InK K' ∧ Z prog16 (.loop 0 F45l0 (kFr d (.gsl (intsC K) (i + 1) 1 1) (i + 1 : Nat)) [zero16, .tip (i + 1)]) = some (.out (.exit 0) (kFr d (.gsl (intsC K') 24 1 1) 24 ++ [(12, .bool false)]) [zero16, .tip 24]) := by
  induction m generalizing i K with
  | zero =>
    have : i = 23 := by omega
    subst this
    exact ⟨K, hK, hk, klast d K⟩
  | succ m ih =>
    obtain ⟨K', h1, h2, h3⟩ := ih (i + 1) (by omega) (K ++ [numK xs (i + 1)]) (by simp [hK]) (by
      intro x hx'
      rcases List.mem_append.1 hx' with h | h
      · exact hk x h
      · simp only [List.mem_singleton] at h; subst h; exact numK_rng hx _)
    refine ⟨K', h1, h2, ?_⟩
    have w1 := wrap64 (((i + 1 : Nat) : Int) + 1) (by omega)
    have b1 : ((i + 1 : Nat) : Int) < 24 := by omega
    have hr : roomFor (i + 1 + 1) 8 = true := by simp [roomFor]; omega
    have hI : (intsC K).length = i + 1 := by simp [hK]
    rw [intsC_append] at h3
    simp only [kFr, zero16] at h3 ⊢
    rw [show ((i + 1 + 1 : Nat) : Int) = ((i + 1 : Nat) : Int) + 1 by omega] at h3
    rw [Z_loop_eq]
    generalize hj : ((i + 1 : Nat) : Int) = j at *
    by_cases hl : j < xs.length
    · have e1 := hd.at_ j (by omega) hl
      have hjn : j.toNat = i + 1 := by omega
      rw [hjn] at e1
      have e2 := cut1_intsC xs (i + 1) (by omega)
      have e3 := around_Z (hx _ (getN_mem (xs := xs) (i := i + 1) (by omega))) (m := 1000000) (by omega)
      have e4 : numK xs (i + 1) = around (getN xs (i + 1)) 1000000 := by simp [numK]; omega
      rw [e4] at h3
      simp only [intsC, List.map] at h3
      simp only [intsC] at hI e1 e2
      simp [loopStep, run_F45l0, List.range_succ, b1, hd.len, hl, e1, e2, e3, w1, hr, hI, appendV, srcV, intsC, h3]
    · have e4 : numK xs (i + 1) = 0 := by simp [numK]; omega
      rw [e4] at h3
      simp only [intsC, List.map] at h3
      simp only [intsC] at hI
      simp [loopStep, run_F45l0, List.range_succ, b1, hd.len, hl, w1, hr, hI, appendV, srcV, intsC, h3]
end Go.Pm
end SV15
section SV16
set_option linter.unusedSimpArgs false
set_option linter.unusedVariables false
namespace Go.Pm
open F
theorem kall {d : D} {xs : List Int} (hd : IsRow d xs) (hx : ∀ x ∈ xs, I64 x) :
    ∃ K', K'.length = 24 ∧ InK K' ∧ Z prog16 (.loop 0 F45l0 (kFr d (.dat (.lit (.slice none 0 0))) 0) [zero16]) = some (.out (.exit 0) (kFr d (.gsl (intsC K') 24 1 1) 24 ++ [(12, .bool false)]) [zero16, .tip 24]) := by
  obtain ⟨K', h1, h2, h3⟩ := kloop hd hx 23 0 (by omega) [numK xs 0] rfl (by
    intro x h
    simp only [List.mem_singleton] at h; subst h; exact numK_rng hx _)
  refine ⟨K', h1, h2, ?_⟩
  have hr : roomFor 1 8 = true := by simp [roomFor]
  have w1 := wrap64 (1 : Int) (by omega)
  simp only [kFr, zero16] at h3 ⊢
  rw [show ((0 + 1 : Nat) : Int) = 1 from rfl, show (0 + 1 : Nat) = 1 from rfl] at h3
  rw [Z_loop_eq]
  by_cases hl : (0 : Int) < xs.length
  · have e1 := hd.at_ 0 (by omega) hl
    have e2 := cut1_intsC xs 0 (by omega)
    have e3 := around_Z (hx _ (getN_mem (xs := xs) (i := 0) (by omega))) (m := 1000000) (by omega)
    have e4 : numK xs 0 = around (getN xs 0) 1000000 := by unfold numK; rw [if_pos (by omega)]
    rw [e4] at h3
    simp only [intsC, List.map] at h3
    simp only [intsC, show (0 : Int).toNat = 0 from rfl] at e1 e2
    have hl' : 0 < xs.length := by omega
    simp [loopStep, run_F45l0, List.range_succ, hd.len, hl, hl', e1, e2, e3, w1, hr, appendV, srcV, intsC, h3]
  · have e4 : numK xs 0 = 0 := by unfold numK; rw [if_neg (by omega)]
    rw [e4] at h3
    simp only [intsC, List.map] at h3
    have hl' : ¬ 0 < xs.length := by omega
    have hl2 : xs.length = 0 := by omega
    simp [loopStep, run_F45l0, List.range_succ, hd.len, hl, hl', hl2, w1, hr, appendV, srcV, intsC, h3]
end Go.Pm
end SV16
section SV17
set_option linter.unusedSimpArgs false
set_option linter.unusedVariables false
namespace Go.Pm
open F
/-- A body. -/
structure Bo where
  r : Int
  ps : List (Int × Int)
  x : Int
  y : Int
  vx : Int
  vy : Int
  inv : Int
  a : Int
  b : Int
def Bo.c (b : Bo) : List D := [.lit (.int .i64 b.r), polyD b.ps, .lit (.int .i64 b.x), .lit (.int .i64 b.y), .lit (.int .i64 b.vx), .lit (.int .i64 b.vy), .lit (.int .i64 b.inv), .lit (.int .i64 b.a), .lit (.int .i64 b.b)]
def boC (bs : List Bo) : List D := bs.flatMap Bo.c
@[simp] theorem boC_length (bs : List Bo) : (boC bs).length = bs.length * 9 := by
  induction bs with
  | nil => rfl
  | cons b bs ih => simp only [boC, List.flatMap_cons, List.length_append, List.length_cons] at ih ⊢; rw [ih]; simp [Bo.c]; omega
theorem boC_append (a b : List Bo) : boC (a ++ b) = boC a ++ boC b := by simp [boC]
/-- The setup's cell while its bodies are made. -/
structure Sc where
  p : Int
  ds : List D
  nd : Nat
  fog : Int
  gy : Int
  push : Int
  drag : Int
  rest : Int
  rounds : Int
def Sc.ob (s : Sc) (bs : V) : Ob := .cells [.int s.p, bs, .int (-12000), .int (-9000), .int 12000, .int 9000, .dat (.sl roomsD 3 true), .dat (.sl s.ds s.nd true), .int s.fog, .int 0, .int s.gy, .int s.push, .int s.drag, .int s.rest, .int s.rounds, .int 60]
def sFr (K : List Int) (i : Int) : Fr := [(2, .ptr 0 0), (3, .gsl (intsC K) 24 1 1), (6, .ptr 2 0), (7, .int i)]
theorem inv_cut (i : Nat) (h : i < 5) : ∃ v, cutCells [D.lit (.int .i64 1024), .lit (.int .i64 1024), .lit (.int .i64 512), .lit (.int .i64 2048), .lit (.int .i64 0)] i 1 = some [.lit (.int .i64 v)] := by
  match i, h with
  | 0, _ => exact ⟨_, rfl⟩
  | 1, _ => exact ⟨_, rfl⟩
  | 2, _ => exact ⟨_, rfl⟩
  | 3, _ => exact ⟨_, rfl⟩
  | 4, _ => exact ⟨_, rfl⟩
theorem gslK_at (K : List Int) (n sz l : Nat) (i : Int) (h0 : 0 ≤ i) (h1 : i < n) : sliceAddr 1 (.gsl (intsC K) n sz l) i = some (.dat (.imm (intsC K) i.toNat)) := by
  simp [sliceAddr, h0, h1]
/-- How many bodies. -/
def many (s : Sc) (K : List Int) : Int := s.p + (((getN K 3).tdiv 3).tmod 3)
theorem bstep (s : Sc) {K : List Int} (hK : K.length = 24) (hk : InK K) (h1 : 1 ≤ s.p) (h3 : s.p ≤ 3) (bs : List Bo) (i : Nat) (hi : (i : Int) < many s K) (hb : bs.length = i) (h0 : 1 ≤ i) :
    ∃ b : Bo, Z prog16 (.loop 0 F45l1 (sFr K i) [zero16, .tip 24, s.ob (.gsl (boC bs) i 9 3), .tip (i * 9)]) = Z prog16 (.loop 0 F45l1 (sFr K (i + 1 : Nat)) [zero16, .tip 24, s.ob (.gsl (boC (bs ++ [b])) (i + 1) 9 3), .tip ((i + 1) * 9)]) := by
  have gm : ∀ j, j < 24 → 0 ≤ getN K j ∧ getN K j < 1000000 := fun j hj => hk _ (getN_mem (by omega))
  have q3 := tdiv_rng (gm 3 (by omega)).1 (m := 3) (by omega)
  have r3 := tmod_rng q3.1 (m := 3) (by omega)
  unfold many at hi
  have hi5 : i < 5 := by omega
  have g3 := gm 3 (by omega)
  have g4 := gm (4 + 2 * i) (by omega)
  have g5 := gm (5 + 2 * i) (by omega)
  obtain ⟨r, ps, hsh⟩ := shape_Z (n := getN K (4 + 2 * i)) (by unfold I64; omega)
  have c3 := cut1_intsC K 3 (by omega)
  have c4 := cut1_intsC K (4 + 2 * i) (by omega)
  have c5 := cut1_intsC K (5 + 2 * i) (by omega)
  generalize getN K (4 + 2 * i) = n at *
  generalize getN K (5 + 2 * i) = m at *
  generalize getN K 3 = k3 at *
  have a1 := tdiv_rng g4.1 (m := 1000) (by omega)
  have a2 := tmod_rng a1.1 (m := 13) (by omega)
  have a3 := tdiv_rng g5.1 (m := 50) (by omega)
  have a4 := tmod_rng a3.1 (m := 11) (by omega)
  have a5 := tdiv_rng g5.1 (m := 550) (by omega)
  have a6 := tmod_rng a5.1 (m := 9) (by omega)
  have a7 := tdiv_rng g4.1 (m := 13000) (by omega)
  have a8 := tmod_rng a7.1 (m := 9) (by omega)
  have a9 := tdiv_rng g5.1 (m := 5000) (by omega)
  have a10 := tmod_rng a9.1 (m := 5) (by omega)
  have i0 : (0 : Int) ≤ i := by omega
  obtain ⟨iv, hiv⟩ := inv_cut ((m.tdiv 5000).tmod 5).toNat (by omega)
  have w1 := wrap64 (k3.tdiv 3) (by omega)
  have w2 := wrap64 (s.p + (k3.tdiv 3).tmod 3) (by omega)
  have w3 := wrap64 (2 * (i : Int)) (by omega)
  have w4 := wrap64 (4 + 2 * (i : Int)) (by omega)
  have w5 := wrap64 (5 + 2 * (i : Int)) (by omega)
  have w6 := wrap64 (n.tdiv 1000) (by omega)
  have w7 := wrap64 ((n.tdiv 1000).tmod 13 - 6) (by omega)
  have w8 := wrap64 (((n.tdiv 1000).tmod 13 - 6) * 900) (by omega)
  have w9 := wrap64 (m.tdiv 50) (by omega)
  have w10 := wrap64 ((m.tdiv 50).tmod 11 - 5) (by omega)
  have w11 := wrap64 (((m.tdiv 50).tmod 11 - 5) * 800) (by omega)
  have w12 := wrap64 (m.tdiv 550) (by omega)
  have w13 := wrap64 ((m.tdiv 550).tmod 9 - 4) (by omega)
  have w14 := wrap64 (((m.tdiv 550).tmod 9 - 4) * 300) (by omega)
  have w15 := wrap64 (n.tdiv 13000) (by omega)
  have w16 := wrap64 ((n.tdiv 13000).tmod 9 - 4) (by omega)
  have w17 := wrap64 (((n.tdiv 13000).tmod 9 - 4) * 300) (by omega)
  have w18 := wrap64 (m.tdiv 5000) (by omega)
  have w19 := wrap64 ((i : Int) + 1) (by omega)
  have s3 := gslK_at K 24 1 1 3 (by omega) (by omega)
  have s4 := gslK_at K 24 1 1 (4 + 2 * (i : Int)) (by omega) (by omega)
  have s5 := gslK_at K 24 1 1 (5 + 2 * (i : Int)) (by omega) (by omega)
  rw [show (4 + 2 * (i : Int)).toNat = 4 + 2 * i by omega] at s4
  rw [show (5 + 2 * (i : Int)).toNat = 5 + 2 * i by omega] at s5
  rw [show (3 : Int).toNat = 3 from rfl] at s3
  have hr : roomFor (i + 1) 88 = true := by simp [roomFor]; omega
  refine ⟨⟨r, ps, ((n.tdiv 1000).tmod 13 - 6) * 900, ((m.tdiv 50).tmod 11 - 5) * 800, ((m.tdiv 550).tmod 9 - 4) * 300, ((n.tdiv 13000).tmod 9 - 4) * 300, iv, m.tmod 50, n.tmod 7⟩, ?_⟩
  have hsi : sliceAddr 1 (.dat (.sl [D.lit (.int .i64 1024), .lit (.int .i64 1024), .lit (.int .i64 512), .lit (.int .i64 2048), .lit (.int .i64 0)] 5 true)) ((m.tdiv 5000).tmod 5) = some (.dat (.imm [D.lit (.int .i64 1024), .lit (.int .i64 1024), .lit (.int .i64 512), .lit (.int .i64 2048), .lit (.int .i64 0)] ((m.tdiv 5000).tmod 5).toNat)) := by
    simp [sliceAddr, a10.1, a10.2]
  rw [boC_append, Z_loop_eq (prog := prog16) 0 F45l1 (sFr K i)]
  have hbl : (boC bs).length = i * 9 := by simp [hb]
  generalize boC bs = B at *
  simp [loopStep, run_F45l1, sFr, zero16, Sc.ob, List.range_succ, calm, alone, s3, s4, s5, c3, c4, c5, hsh, hiv, hsi, w1, w2, w3, w4, w5, w6, w7, w8, w9, w10, w11, w12, w13, w14, w15, w16, w17, w18, w19, hi, hr, hbl, appendV, srcV, boC, Bo.c]
  rw [show (i + 1) * 9 = i * 9 + 9 by omega]
  simp only [Z_loop_eq]
  congr 1
theorem bfirst (s : Sc) {K : List Int} (hK : K.length = 24) (hk : InK K) (h1 : 1 ≤ s.p) (h3 : s.p ≤ 3) :
    ∃ b : Bo, Z prog16 (.loop 0 F45l1 (sFr K 0) [zero16, .tip 24, s.ob (.dat (.lit (.slice none 0 0)))]) = Z prog16 (.loop 0 F45l1 (sFr K 1) [zero16, .tip 24, s.ob (.gsl (boC [b]) 1 9 3), .tip 9]) := by
  have gm : ∀ j, j < 24 → 0 ≤ getN K j ∧ getN K j < 1000000 := fun j hj => hk _ (getN_mem (by omega))
  have q3 := tdiv_rng (gm 3 (by omega)).1 (m := 3) (by omega)
  have r3 := tmod_rng q3.1 (m := 3) (by omega)
  have hi : (0 : Int) < s.p + (((getN K 3).tdiv 3).tmod 3) := by omega
  have g3 := gm 3 (by omega)
  have g4 := gm 4 (by omega)
  have g5 := gm 5 (by omega)
  obtain ⟨r, ps, hsh⟩ := shape_Z (n := getN K 4) (by unfold I64; omega)
  have c3 := cut1_intsC K 3 (by omega)
  have c4 := cut1_intsC K 4 (by omega)
  have c5 := cut1_intsC K 5 (by omega)
  generalize getN K 4 = n at *
  generalize getN K 5 = m at *
  generalize getN K 3 = k3 at *
  have a1 := tdiv_rng g4.1 (m := 1000) (by omega)
  have a2 := tmod_rng a1.1 (m := 13) (by omega)
  have a3 := tdiv_rng g5.1 (m := 50) (by omega)
  have a4 := tmod_rng a3.1 (m := 11) (by omega)
  have a5 := tdiv_rng g5.1 (m := 550) (by omega)
  have a6 := tmod_rng a5.1 (m := 9) (by omega)
  have a7 := tdiv_rng g4.1 (m := 13000) (by omega)
  have a8 := tmod_rng a7.1 (m := 9) (by omega)
  have a9 := tdiv_rng g5.1 (m := 5000) (by omega)
  have a10 := tmod_rng a9.1 (m := 5) (by omega)
  obtain ⟨iv, hiv⟩ := inv_cut ((m.tdiv 5000).tmod 5).toNat (by omega)
  have w1 := wrap64 (k3.tdiv 3) (by omega)
  have w2 := wrap64 (s.p + (k3.tdiv 3).tmod 3) (by omega)
  have w3 := wrap64 0 (by omega)
  have w4 := wrap64 4 (by omega)
  have w5 := wrap64 5 (by omega)
  have w6 := wrap64 (n.tdiv 1000) (by omega)
  have w7 := wrap64 ((n.tdiv 1000).tmod 13 - 6) (by omega)
  have w8 := wrap64 (((n.tdiv 1000).tmod 13 - 6) * 900) (by omega)
  have w9 := wrap64 (m.tdiv 50) (by omega)
  have w10 := wrap64 ((m.tdiv 50).tmod 11 - 5) (by omega)
  have w11 := wrap64 (((m.tdiv 50).tmod 11 - 5) * 800) (by omega)
  have w12 := wrap64 (m.tdiv 550) (by omega)
  have w13 := wrap64 ((m.tdiv 550).tmod 9 - 4) (by omega)
  have w14 := wrap64 (((m.tdiv 550).tmod 9 - 4) * 300) (by omega)
  have w15 := wrap64 (n.tdiv 13000) (by omega)
  have w16 := wrap64 ((n.tdiv 13000).tmod 9 - 4) (by omega)
  have w17 := wrap64 (((n.tdiv 13000).tmod 9 - 4) * 300) (by omega)
  have w18 := wrap64 (m.tdiv 5000) (by omega)
  have w19 := wrap64 1 (by omega)
  have s3 := gslK_at K 24 1 1 3 (by omega) (by omega)
  have s4 := gslK_at K 24 1 1 4 (by omega) (by omega)
  have s5 := gslK_at K 24 1 1 5 (by omega) (by omega)
  rw [show (4 : Int).toNat = 4 from rfl] at s4
  rw [show (5 : Int).toNat = 5 from rfl] at s5
  rw [show (3 : Int).toNat = 3 from rfl] at s3
  have hr : roomFor 1 88 = true := by simp [roomFor]
  refine ⟨⟨r, ps, ((n.tdiv 1000).tmod 13 - 6) * 900, ((m.tdiv 50).tmod 11 - 5) * 800, ((m.tdiv 550).tmod 9 - 4) * 300, ((n.tdiv 13000).tmod 9 - 4) * 300, iv, m.tmod 50, n.tmod 7⟩, ?_⟩
  have hsi : sliceAddr 1 (.dat (.sl [D.lit (.int .i64 1024), .lit (.int .i64 1024), .lit (.int .i64 512), .lit (.int .i64 2048), .lit (.int .i64 0)] 5 true)) ((m.tdiv 5000).tmod 5) = some (.dat (.imm [D.lit (.int .i64 1024), .lit (.int .i64 1024), .lit (.int .i64 512), .lit (.int .i64 2048), .lit (.int .i64 0)] ((m.tdiv 5000).tmod 5).toNat)) := by
    simp [sliceAddr, a10.1, a10.2]
  rw [Z_loop_eq (prog := prog16) 0 F45l1 (sFr K 0)]
  simp [loopStep, run_F45l1, sFr, zero16, Sc.ob, List.range_succ, calm, alone, s3, s4, s5, c3, c4, c5, hsh, hiv, hsi, w1, w2, w3, w4, w5, w6, w7, w8, w9, w10, w11, w12, w13, w14, w15, w16, w17, w18, w19, hi, hr, appendV, srcV, boC, Bo.c]
  simp only [Z_loop_eq]
  congr 1
end Go.Pm
end SV17
section SV18
set_option linter.unusedSimpArgs false
set_option linter.unusedVariables false
namespace Go.Pm
open F
theorem blast (s : Sc) {K : List Int} (hK : K.length = 24) (hk : InK K) (h1 : 1 ≤ s.p) (h3 : s.p ≤ 3) (bs : List Bo) (i : Nat) (hi : (i : Int) = many s K) :
    Z prog16 (.loop 0 F45l1 (sFr K i) [zero16, .tip 24, s.ob (.gsl (boC bs) i 9 3), .tip (i * 9)]) = some (.out (.exit 2) (sFr K i ++ [(101, .bool false)]) [zero16, .tip 24, s.ob (.gsl (boC bs) i 9 3), .tip (i * 9)]) := by
  have gm : ∀ j, j < 24 → 0 ≤ getN K j ∧ getN K j < 1000000 := fun j hj => hk _ (getN_mem (by omega))
  have q3 := tdiv_rng (gm 3 (by omega)).1 (m := 3) (by omega)
  have r3 := tmod_rng q3.1 (m := 3) (by omega)
  unfold many at hi
  have g3 := gm 3 (by omega)
  have c3 := cut1_intsC K 3 (by omega)
  generalize getN K 3 = k3 at *
  have w1 := wrap64 (k3.tdiv 3) (by omega)
  have w2 := wrap64 (s.p + (k3.tdiv 3).tmod 3) (by omega)
  have s3 := gslK_at K 24 1 1 3 (by omega) (by omega)
  rw [show (3 : Int).toNat = 3 from rfl] at s3
  rw [Z_loop_eq]
  generalize boC bs = B at *
  simp [loopStep, run_F45l1, sFr, zero16, Sc.ob, List.range_succ, calm, alone, s3, c3, w1, w2, hi]
theorem bloop (s : Sc) {K : List Int} (hK : K.length = 24) (hk : InK K) (h1 : 1 ≤ s.p) (h3 : s.p ≤ 3) (m : Nat) : ∀ (bs : List Bo) (i : Nat), (i : Int) + m = many s K → bs.length = i → 1 ≤ i →
    ∃ (bs' : List Bo) (n : Nat), (n : Int) = many s K ∧ bs'.length = n ∧
    Z prog16 (.loop 0 F45l1 (sFr K i) [zero16, .tip 24, s.ob (.gsl (boC bs) i 9 3), .tip (i * 9)]) = some (.out (.exit 2) (sFr K n ++ [(101, .bool false)]) [zero16, .tip 24, s.ob (.gsl (boC bs') n 9 3), .tip (n * 9)]) := by
  induction m with
  | zero => exact fun bs i hi hb h0 => ⟨bs, i, by omega, hb, blast s hK hk h1 h3 bs i (by omega)⟩
  | succ m ih =>
    intro bs i hi hb h0
    obtain ⟨b, e⟩ := bstep s hK hk h1 h3 bs i (by omega) hb h0
    obtain ⟨bs', n, e1, e2, e3⟩ := ih (bs ++ [b]) (i + 1) (by omega) (by simp [hb]) (by omega)
    exact ⟨bs', n, e1, e2, by rw [e]; exact e3⟩
theorem ball (s : Sc) {K : List Int} (hK : K.length = 24) (hk : InK K) (h1 : 1 ≤ s.p) (h3 : s.p ≤ 3) :
    ∃ (bs' : List Bo) (n : Nat), (n : Int) = many s K ∧ bs'.length = n ∧
    Z prog16 (.loop 0 F45l1 (sFr K 0) [zero16, .tip 24, s.ob (.dat (.lit (.slice none 0 0)))]) = some (.out (.exit 2) (sFr K n ++ [(101, .bool false)]) [zero16, .tip 24, s.ob (.gsl (boC bs') n 9 3), .tip (n * 9)]) := by
  obtain ⟨b, e⟩ := bfirst s hK hk h1 h3
  have gm : 0 ≤ getN K 3 := (hk _ (getN_mem (by omega))).1
  have q3 := tdiv_rng gm (m := 3) (by omega)
  have r3 := tmod_rng q3.1 (m := 3) (by omega)
  have hm : 1 ≤ many s K := by unfold many; omega
  obtain ⟨bs', n, e1, e2, e3⟩ := bloop s hK hk h1 h3 (many s K - 1).toNat [b] 1 (by omega) rfl (by omega)
  exact ⟨bs', n, e1, e2, by rw [e]; exact e3⟩
end Go.Pm
end SV18
section SX1
namespace Go.Pm
theorem rowv_isRow {d : D} {xs : List Int} (h : RowV d xs) : IsRow d xs := by
  rcases h with ⟨o, rfl, rfl⟩ | rfl
  · exact isRow_nil o
  · exact isRow_sl xs false
theorem wf_i64 {n : Int} (h : (Lit.int .i64 n).wf = true) : I64 n := by
  simp only [Lit.wf, Bool.and_eq_true, decide_eq_true_eq] at h
  have e1 : IntKind.i64.min = -9223372036854775808 := by decide
  have e2 : IntKind.i64.max = 9223372036854775807 := by decide
  unfold I64
  omega
theorem bool_rep (fid : Fid) (w : World) (b : Bool) : Rep fid (start w) (.bool b) (.bool b) := ⟨rfl, rfl⟩
end Go.Pm
end SX1
