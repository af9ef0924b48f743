/- Chapter 16: the law of fuel. Chapter 16: what an instruction leaves on the stack. Chapter 16: the law of saturation. -/
import Derived.Test.YtemenmjobfmelaaDoorPmV23
set_option linter.unusedSimpArgs false
set_option linter.unusedVariables false
section SV26
set_option linter.unusedSimpArgs false
set_option linter.unusedVariables false
namespace Go.Pm
open F
def fS (s : Su) (c : List (Nat × Int)) (e0 e1 e2 : Int) (cs : List Int) (N : Nat) (lg : List D) (k : Nat) : S :=
  [suOb s, .cells [.msl 3 0 N N 1, .gsl lg k 2 4, .int 0], .cells [.dat (codeD false c), .int e0, .int e1, .int e2], .cells (ints cs), .tip (k * 2)]
def fFr (f i : Int) : Fr := [(9, .ptr 0 0), (10, .ptr 1 0), (11, .ptr 2 0), (12, .int f), (13, .int i)]
theorem stepR_four (s : Su) (c : List (Nat × Int)) (cs : List Int) : ∃ x1 x2 x3 x4, (stepR s c cs).e = [x1, x2, x3, x4] := by
  unfold stepR
  split
  · exact exE_four _ _ _ _
  · exact ⟨_, _, _, _, rfl⟩
section
variable (s : Su) (c : List (Nat × Int)) (e0 e1 e2 f : Int) (i : Nat) (cs : List Int) (N : Nat) (lg lg' : List D) (k k' : Nat) (h48 : 48 ≤ N) (hN : cs.length = N) (hi : i ≤ f) (hf : f < 80) (h8 : getI cs 8 = f - i)
    (hst : Z prog16 (.call 52 [.iface 0 (.ptr 0 0), s.d, progD false c e0 e1 e2] (mem1 cs N lg k (k * 2))) = some (.ret (stepR s c cs).v (mem1 (stepR s c cs).cs N lg' k' (k' * 2))))
include h48 hN hi hf h8 hst
theorem fstop (he : (stepR s c cs).ended = true) :
    ∃ σ', Z prog16 (.loop 0 F40l0 (fFr f i) (fS s c e0 e1 e2 cs N lg k)) = some (.out .ret [(8, .bool true)] σ') := by
  have g8 := get1_Z (cs := cs) (n := N) (lg := lg) (k := k) (t := k * 2) (i := 8) hN (by omega) (by omega)
  have w1 := wrap64 (f - i) (by omega)
  rw [h8] at g8
  obtain ⟨x1, x2, x3, x4, hx⟩ := stepR_four s c cs
  generalize stepR s c cs = R at *
  obtain ⟨cs', ended, e, em⟩ := R
  simp only at he hx
  subst he hx
  simp only [StR.v, mem1, Su.d, Su.c, progD, intsC, List.map] at hst g8
  rw [Z_loop_eq]
  simp [loopStep, run_F40l0, fFr, fS, suOb, Su.c, List.range_succ, hi, g8, w1, hst, lives_Z]
theorem fnext (he : (stepR s c cs).ended = false) :
    Z prog16 (.loop 0 F40l0 (fFr f i) (fS s c e0 e1 e2 cs N lg k)) = Z prog16 (.loop 0 F40l0 (fFr f (i + 1 : Nat)) (fS s c e0 e1 e2 (stepR s c cs).cs N lg' k')) := by
  have g8 := get1_Z (cs := cs) (n := N) (lg := lg) (k := k) (t := k * 2) (i := 8) hN (by omega) (by omega)
  have w1 := wrap64 (f - i) (by omega)
  have w2 := wrap64 ((i : Int) + 1) (by omega)
  rw [h8] at g8
  obtain ⟨x1, x2, x3, x4, hx⟩ := stepR_four s c cs
  generalize stepR s c cs = R at *
  obtain ⟨cs', ended, e, em⟩ := R
  simp only at he hx
  subst he hx
  simp only [StR.v, mem1, Su.d, Su.c, progD, intsC, List.map] at hst g8
  rw [Z_loop_eq]
  simp [loopStep, run_F40l0, fFr, fS, suOb, Su.c, List.range_succ, hi, g8, w1, w2, hst, lives_Z]
  refine Z_loop_cong ?_
  simp [List.range_succ]
end
theorem floop (s : Su) (hs : s.ok) (c : List (Nat × Int)) (e0 e1 e2 f : Int) (N : Nat) (h : N = s.n) (hc : ∀ x ∈ c, 1 ≤ x.1 ∧ x.1 ≤ 21) (hcl : c.length < 2^30) (hf : f < 80) (m : Nat) :
    ∀ (i : Nat) (cs : List Int) (lg : List D) (k : Nat), cs.length = N → lg.length = k * 2 → k + 6 * m < 10000 → i + m = f → getI cs 8 = f - i →
    ∃ σ', Z prog16 (.loop 0 F40l0 (fFr f i) (fS s c e0 e1 e2 cs N lg k)) = some (.out .ret [(8, .bool true)] σ') := by
  have h48 : 48 ≤ N := by rw [h]; unfold Su.n; omega
  induction m with
  | zero =>
    intro i cs lg k hN hl hk hi h8
    obtain ⟨lg', k', a1, a2, a3⟩ := any1 s c false e0 e1 e2 cs N lg k hl (by omega) hs hN h hc hcl
    refine fstop s c e0 e1 e2 f i cs N lg lg' k k' h48 hN (by omega) hf h8 a3 ?_
    cases he : (stepR s c cs).ended with
    | true => rfl
    | false => have := (stepR_fuel hs (by omega) he).1; omega
  | succ m ih =>
    intro i cs lg k hN hl hk hi h8
    obtain ⟨lg', k', a1, a2, a3⟩ := any1 s c false e0 e1 e2 cs N lg k hl (by omega) hs hN h hc hcl
    cases he : (stepR s c cs).ended with
    | true => exact fstop s c e0 e1 e2 f i cs N lg lg' k k' h48 hN (by omega) hf h8 a3 he
    | false =>
      have hfu := (stepR_fuel hs (by omega) he).2
      have e : wr (getI cs 8 - 1) = getI cs 8 - 1 := wrap64 _ (by omega)
      rw [e] at hfu
      rw [fnext s c e0 e1 e2 f i cs N lg lg' k k' h48 hN (by omega) hf h8 a3 he]
      exact ih (i + 1) _ _ _ (by rw [stepR_length]; exact hN) a1 (by omega) (by omega) (by omega)
theorem vmFuel_Z {d1 d2 d3 : D} {xs1 xs2 xs3 : List Int} (h1 : IsRow d1 xs1) (i1 : ∀ x ∈ xs1, I64 x) (h2 : IsRow d2 xs2) (i2 : ∀ x ∈ xs2, I64 x) (h3 : IsRow d3 xs3) (i3 : ∀ x ∈ xs3, I64 x) {n : Int} (hn : I64 n) :
    Z prog16 (.call 40 [.dat d1, .dat d2, .dat d3, .int n] []) = some (.ret (.bool true) []) := by
  obtain ⟨s, bs, hs, hb, hbl, zs⟩ := setup_Z h1 i1
  obtain ⟨w, hw, zw⟩ := cells_Z s hs bs hb hbl h3 i3
  obtain ⟨c, e0, e1, e2, hcl, hc, zc⟩ := code_Z h2 i2
  have hp := hs.p3; have hq := hs.b5
  have hN : 48 ≤ s.n ∧ s.n < 1000 := by unfold Su.n; omega
  have zn := new_Z w s.n false hw (by omega)
  have za := around_Z hn (m := 80) (by omega)
  have hr := around_lt hn (m := 80) (by omega)
  generalize around n 80 = f at *
  refine Z_call (pf := F40) rfl rfl ?_
  by_cases hb2 : e2 < 0
  · have zb := startno0 (c := c) (f := false) (cs := w) (N := s.n) (e0 := e0) (e1 := e1) (e2 := e2) (h := 2) (self := 0) (other := 0) (fuel := f) (.inr (.inr (by simpa [entI] using hb2)))
    simp only [mem0, progD, Su.d, Su.c] at *
    simp [F40, zs, zw, zc, zn, za, zb, lives_Z, List.range_succ]
  · obtain ⟨lg, k, a1, a2, a3⟩ := begin0_Z c false e0 e1 e2 2 0 0 f w s.n hw hN.1 (by simp [entI]; omega)
    have h8 : getI (startC w (entI e0 e1 e2 2) f 0 0) 8 = f - (0 : Nat) := by
      show getN _ 8 = _
      unfold startC
      rw [getN_set_ne (by simp), getN_set_ne (by simp), getN_set_eq (by rfl) (by simp; omega)]
      simp
    obtain ⟨σ', zl⟩ := floop s hs c e0 e1 e2 f s.n rfl hc (by omega) hr.2 f.toNat 0 _ lg k (by simp [hw]) a1 (by omega) (by omega) h8
    generalize startC w (entI e0 e1 e2 2) f 0 0 = cs at *
    have zl' := (Z_loop_cong (k := 0) (b := F40l0) (fr := [(9, .ptr 0 0), (10, .ptr 1 0), (11, .ptr 3 0), (12, .int f), (13, .int 0)]) (σ := [suOb s, .cells [.msl 2 0 s.n s.n 1, .gsl lg k 2 4, .int 0], .cells (ints cs), .cells [.dat (codeD false c), .int e0, .int e1, .int e2], .tip (k * 2)]) (by simp [fFr, fS, suOb, Su.c, List.range_succ])).trans zl
    simp only [suOb, Su.c, List.map] at zl'
    simp only [mem0, mem1, progD, Su.d, Su.c] at *
    simp [F40, zs, zw, zc, zn, za, a3, zl', lives_Z, List.range_succ]
end Go.Pm
end SV26
section SV27
set_option linter.unusedSimpArgs false
set_option linter.unusedVariables false
namespace Go.Pm
open F
/-- The registers, and the two lowest values on the stack. -/
structure Rg (cs : List Int) (N : Nat) (pc sp fuel v0 v1 : Int) : Prop where
  len : cs.length = N
  pc : getN cs 6 = pc
  sp : getN cs 7 = sp
  fu : getN cs 8 = fuel
  v0 : getN cs 16 = v0
  v1 : getN cs 17 = v1
theorem getN_set {cs : List Int} {i v : Int} {j : Nat} (h : j < cs.length) : getN (setI cs i v) j = if i.toNat = j then v else getN cs j := by
  split
  · exact getN_set_eq (by assumption) h
  · exact getN_set_ne (by assumption)
theorem getN_4 {cs : List Int} {a b c d e : Int} (h : 48 ≤ cs.length) (hd : 16 ≤ d) : let L := setI (setI (setI (setI cs 8 a) 6 b) 7 c) d e
    getN L 6 = b ∧ getN L 7 = c ∧ getN L 8 = a ∧ ∀ j, 16 ≤ j → j < cs.length → getN L j = if d.toNat = j then e else getN cs j := by
  refine ⟨?_, ?_, ?_, fun j h1 h2 => ?_⟩
  · rw [getN_set_ne (by omega), getN_set_ne (by decide), getN_set_eq (by decide) (by simp; omega)]
  · rw [getN_set_ne (by omega), getN_set_eq (by decide) (by simp; omega)]
  · rw [getN_set_ne (by omega), getN_set_ne (by decide), getN_set_ne (by decide), getN_set_eq (by decide) (by omega)]
  · rw [getN_set (by simpa using h2), getN_set_ne (by simp; omega), getN_set_ne (by simp; omega), getN_set_ne (by simp; omega)]
theorem getN_3 {cs : List Int} {a b d e : Int} (h : 48 ≤ cs.length) (hd : 16 ≤ d) : let L := setI (setI (setI cs 8 a) 6 b) d e
    getN L 6 = b ∧ getN L 7 = getN cs 7 ∧ getN L 8 = a ∧ ∀ j, 16 ≤ j → j < cs.length → getN L j = if d.toNat = j then e else getN cs j := by
  refine ⟨?_, ?_, ?_, fun j h1 h2 => ?_⟩
  · rw [getN_set_ne (by omega), getN_set_eq (by decide) (by simp; omega)]
  · rw [getN_set_ne (by omega), getN_set_ne (by decide), getN_set_ne (by decide)]
  · rw [getN_set_ne (by omega), getN_set_ne (by decide), getN_set_eq (by decide) (by omega)]
  · rw [getN_set (by simpa using h2), getN_set_ne (by simp; omega), getN_set_ne (by simp; omega)]
theorem rg_start (w : List Int) (N : Nat) (h : w.length = N) (h48 : 48 ≤ N) (e fuel self other : Int) : Rg (startC w e fuel self other) N e 0 fuel (getN w 16) (getN w 17) := by
  unfold startC
  refine ⟨by simp [h], ?_, ?_, ?_, ?_, ?_⟩
  · rw [getN_set_ne (by decide), getN_set_ne (by decide), getN_set_ne (by decide), getN_set_ne (by decide), getN_set_eq (by decide) (by omega)]
  · rw [getN_set_ne (by decide), getN_set_ne (by decide), getN_set_ne (by decide), getN_set_eq (by decide) (by simp; omega)]
  · rw [getN_set_ne (by decide), getN_set_ne (by decide), getN_set_eq (by decide) (by simp; omega)]
  · rw [getN_set_ne (by decide), getN_set_ne (by decide), getN_set_ne (by decide), getN_set_ne (by decide), getN_set_ne (by decide)]
  · rw [getN_set_ne (by decide), getN_set_ne (by decide), getN_set_ne (by decide), getN_set_ne (by decide), getN_set_ne (by decide)]
section
variable {s : Su} {cs : List Int} {N : Nat} {c : List (Nat × Int)} {pc fuel v0 v1 n sp : Int} {op : Nat}
theorem stepR_yes (h6 : getN cs 6 = pc) (h7 : getN cs 7 = sp) (h8 : getN cs 8 = fuel) (hpc : 0 ≤ pc ∧ pc < c.length) (hf : 1 ≤ fuel) (hi : insAt c pc = (op, n)) (ho : exOk op n sp = true) (h21 : op < 21) :
    (stepR s c cs).ended = false ∧ (stepR s c cs).cs = postC s cs op n ∧ (stepR s c cs).em = exB (preC cs op) op ∧ (stepR s c cs).e = exE (preC cs op) op (popA cs op) (popB cs op) := by
  have h6 : getI cs 6 = pc := h6
  have h7 : getI cs 7 = sp := h7
  have h8 : getI cs 8 = fuel := h8
  have hcan : canStep c cs = true := by
    simp [canStep, h6, h7, h8, hi, ho]; omega
  unfold stepR
  rw [if_pos hcan, h6, hi]
  refine ⟨by simp; omega, rfl, rfl, rfl⟩
theorem rg_push (h : Rg cs N pc sp fuel v0 v1) (h48 : 48 ≤ N) (hpc : 0 ≤ pc ∧ pc < c.length ∧ pc < 100) (hf : 1 ≤ fuel ∧ fuel < 100) (hsp : 0 ≤ sp ∧ sp ≤ 1) (hi : insAt c pc = (1, n)) :
    (stepR s c cs).ended = false ∧ Rg (stepR s c cs).cs N (pc + 1) (sp + 1) (fuel - 1) (if sp = 0 then n else v0) (if sp = 1 then n else v1) := by
  obtain ⟨e1, e2, _⟩ := stepR_yes (s := s) h.pc h.sp h.fu ⟨hpc.1, hpc.2.1⟩ hf.1 hi (by simp [exOk, popsN, pushN, operN]; omega) (by omega)
  refine ⟨e1, ?_⟩
  rw [e2]
  have w1 : wr (getI cs 6 + 1) = pc + 1 := by rw [show getI cs 6 = pc from h.pc]; exact wrap64 _ (by omega)
  have w2 : wr (getI cs 8 - 1) = fuel - 1 := by rw [show getI cs 8 = fuel from h.fu]; exact wrap64 _ (by omega)
  have w3 : getI cs 7 = sp := h.sp
  have e : postC s cs 1 n = setI (setI (setI (setI cs 8 (fuel - 1)) 6 (pc + 1)) 7 (sp + 1)) (16 + sp) n := by
    show setI (setI (setI (setI cs 8 (wr (getI cs 8 - 1))) 6 (wr (getI cs 6 + 1))) 7 (getI cs 7 - (0 : Nat) + (1 : Nat))) (16 + getI cs 7 - (0 : Nat)) n = _
    rw [w1, w2, w3]; simp
  rw [e]
  obtain ⟨g1, g2, g3, g4⟩ := getN_4 (cs := cs) (a := fuel - 1) (b := pc + 1) (c := sp + 1) (d := 16 + sp) (e := n) (by rw [h.len]; omega) (by omega)
  refine ⟨by simp [h.len], g1, g2, g3, ?_, ?_⟩
  · rw [g4 16 (by omega) (by rw [h.len]; omega), h.v0]
    by_cases h0 : sp = 0
    · rw [if_pos (by omega), if_pos h0]
    · rw [if_neg (by omega), if_neg h0]
  · rw [g4 17 (by omega) (by rw [h.len]; omega), h.v1]
    by_cases h0 : sp = 1
    · rw [if_pos (by omega), if_pos h0]
    · rw [if_neg (by omega), if_neg h0]
theorem rg_bin (ho : 9 ≤ op ∧ op ≤ 12) (h : Rg cs N pc 2 fuel v0 v1) (h48 : 48 ≤ N) (hpc : 0 ≤ pc ∧ pc < c.length ∧ pc < 100) (hf : 1 ≤ fuel ∧ fuel < 100) (hi : insAt c pc = (op, n)) :
    (stepR s c cs).ended = false ∧ Rg (stepR s c cs).cs N (pc + 1) 1 (fuel - 1) (appI op v0 v1) v1 := by
  have hP : popsN op = 2 ∧ pushN op = 1 ∧ operN op = 0 ∧ exC s (preC cs op) op n (popA cs op) (popB cs op) = preC cs op ∧ exV s (preC cs op) op n (popA cs op) (popB cs op) = appI op (popA cs op) (popB cs op) := by
    obtain rfl | rfl | rfl | rfl : op = 9 ∨ op = 10 ∨ op = 11 ∨ op = 12 := by omega
    all_goals exact ⟨rfl, rfl, rfl, rfl, rfl⟩
  obtain ⟨q1, q2, q3, q4, q5⟩ := hP
  obtain ⟨e1, e2, _⟩ := stepR_yes (s := s) h.pc h.sp h.fu ⟨hpc.1, hpc.2.1⟩ hf.1 hi (by simp [exOk, q1, q2, q3]) (by omega)
  refine ⟨e1, ?_⟩
  rw [e2]
  have w1 : wr (getI cs 6 + 1) = pc + 1 := by rw [show getI cs 6 = pc from h.pc]; exact wrap64 _ (by omega)
  have w2 : wr (getI cs 8 - 1) = fuel - 1 := by rw [show getI cs 8 = fuel from h.fu]; exact wrap64 _ (by omega)
  have w3 : getI cs 7 = 2 := h.sp
  have a0 : popA cs op = v0 := by simp [popA, q1, w3]; exact h.v0
  have a1 : popB cs op = v1 := by simp [popB, q1, w3]; exact h.v1
  have e : postC s cs op n = setI (setI (setI (setI cs 8 (fuel - 1)) 6 (pc + 1)) 7 1) 16 (appI op v0 v1) := by
    unfold postC
    rw [if_neg (by omega), q4, q5, q1, w3, a0, a1]
    unfold preC
    rw [if_neg (by omega), q1, q2, w1, w2, w3]
    simp
  rw [e]
  obtain ⟨g1, g2, g3, g4⟩ := getN_4 (cs := cs) (a := fuel - 1) (b := pc + 1) (c := 1) (d := 16) (e := appI op v0 v1) (by rw [h.len]; omega) (by omega)
  refine ⟨by simp [h.len], g1, g2, g3, ?_, ?_⟩
  · rw [g4 16 (by omega) (by rw [h.len]; omega)]; rfl
  · rw [g4 17 (by omega) (by rw [h.len]; omega), h.v1]; rfl
theorem rg_neg (h : Rg cs N pc 1 fuel v0 v1) (h48 : 48 ≤ N) (hpc : 0 ≤ pc ∧ pc < c.length ∧ pc < 100) (hf : 1 ≤ fuel ∧ fuel < 100) (hi : insAt c pc = (13, n)) :
    (stepR s c cs).ended = false ∧ Rg (stepR s c cs).cs N (pc + 1) 1 (fuel - 1) (appI 13 v0 0) v1 := by
  obtain ⟨e1, e2, _⟩ := stepR_yes (s := s) h.pc h.sp h.fu ⟨hpc.1, hpc.2.1⟩ hf.1 hi (by simp [exOk, popsN, pushN, operN]) (by omega)
  refine ⟨e1, ?_⟩
  rw [e2]
  have w1 : wr (getI cs 6 + 1) = pc + 1 := by rw [show getI cs 6 = pc from h.pc]; exact wrap64 _ (by omega)
  have w2 : wr (getI cs 8 - 1) = fuel - 1 := by rw [show getI cs 8 = fuel from h.fu]; exact wrap64 _ (by omega)
  have w3 : getI cs 7 = 1 := h.sp
  have a0 : popA cs 13 = v0 := by simp [popA, popsN, w3]; exact h.v0
  have e : postC s cs 13 n = setI (setI (setI cs 8 (fuel - 1)) 6 (pc + 1)) 16 (appI 13 v0 0) := by
    have e0 : postC s cs 13 n = setI (setI (setI cs 8 (wr (getI cs 8 - 1))) 6 (wr (getI cs 6 + 1))) (16 + getI cs 7 - (1 : Nat)) (appI 13 (popA cs 13) 0) := rfl
    rw [e0, w1, w2, w3, a0]; rfl
  rw [e]
  obtain ⟨g1, g2, g3, g4⟩ := getN_3 (cs := cs) (a := fuel - 1) (b := pc + 1) (d := 16) (e := appI 13 v0 0) (by rw [h.len]; omega) (by omega)
  refine ⟨by simp [h.len], g1, by rw [g2]; exact h.sp, g3, ?_, ?_⟩
  · rw [g4 16 (by omega) (by rw [h.len]; omega)]; rfl
  · rw [g4 17 (by omega) (by rw [h.len]; omega), h.v1]; rfl
end
end Go.Pm
end SV27
section SV28
set_option linter.unusedSimpArgs false
set_option linter.unusedVariables false
namespace Go.Pm
open F
def rS (s : Su) (c : List (Nat × Int)) (cs : List Int) (N : Nat) (lg : List D) (k : Nat) : S :=
  [suOb s, .cells [.dat (codeD true c), .int 0, .int 0, .int 0], .cells [.msl 3 0 N N 1, .gsl lg k 2 4, .int 0], .cells (ints cs), .tip (k * 2)]
def rFr (i : Int) : Fr := [(7, .ptr 0 0), (8, .ptr 1 0), (9, .ptr 2 0), (10, .int i)]
section
variable {s : Su} {c : List (Nat × Int)} {i : Nat} {cs : List Int} {N : Nat} {lg lg' : List D} {k k' : Nat}
theorem rnext (hi : i < c.length) (hi2 : i < 100)
    (hst : Z prog16 (.call 52 [.iface 0 (.ptr 0 0), s.d, progD true c 0 0 0] (mem1 cs N lg k (k * 2))) = some (.ret (stepR s c cs).v (mem1 (stepR s c cs).cs N lg' k' (k' * 2)))) :
    Z prog16 (.loop 0 F54l0 (rFr i) (rS s c cs N lg k)) = Z prog16 (.loop 0 F54l0 (rFr (i + 1 : Nat)) (rS s c (stepR s c cs).cs N lg' k')) := by
  have w2 := wrap64 ((i : Int) + 1) (by omega)
  have hi' : (i : Int) < c.length := by omega
  obtain ⟨x1, x2, x3, x4, hx⟩ := stepR_four s c cs
  generalize stepR s c cs = R at *
  obtain ⟨cs', ended, e, em⟩ := R
  simp only at hx
  subst hx
  simp only [StR.v, mem1, Su.d, Su.c, progD, intsC, List.map] at hst
  rw [Z_loop_eq]
  simp [loopStep, run_F54l0, rFr, rS, suOb, Su.c, List.range_succ, hi', w2, hst]
theorem rlast (hi : i = c.length) : Z prog16 (.loop 0 F54l0 (rFr i) (rS s c cs N lg k)) = some (.out (.exit 0) (rFr i ++ [(41, .bool false)]) (rS s c cs N lg k)) := by
  subst hi
  rw [Z_loop_eq]
  simp [loopStep, run_F54l0, rFr, rS, suOb, Su.c, List.range_succ]
end
/-- Two values are pushed; an operator of two values is executed. -/
theorem rloop2 {s : Su} (hs : s.ok) {op : Nat} {a b : Int} (ho : 9 ≤ op ∧ op ≤ 12) {cs : List Int} {x y : Int} (h : Rg cs s.n 0 0 9 x y) {lg : List D} {k : Nat} (hl : lg.length = k * 2) (hk : k < 100) :
    ∃ cs' lg' k', cs'.length = s.n ∧ getI cs' 16 = appI op a b ∧ Z prog16 (.loop 0 F54l0 (rFr 0) (rS s [(1, a), (1, b), (op, 0)] cs s.n lg k)) = some (.out (.exit 0) (rFr 3 ++ [(41, .bool false)]) (rS s [(1, a), (1, b), (op, 0)] cs' s.n lg' k')) := by
  have hN : 48 ≤ s.n := by unfold Su.n; omega
  obtain ⟨c, hc⟩ : ∃ c : List (Nat × Int), c = [(1, a), (1, b), (op, 0)] := ⟨_, rfl⟩
  rw [← hc]
  have hm : ∀ x ∈ c, 1 ≤ x.1 ∧ x.1 ≤ 21 := by rw [hc]; simp; omega
  have hcl : c.length = 3 := by rw [hc]; rfl
  obtain ⟨lg1, k1, a1, b1, c1⟩ := any1 s c true 0 0 0 cs s.n lg k hl (by omega) hs h.len rfl hm (by omega)
  have r1 := (rg_push (s := s) (c := c) (n := a) h hN (by omega) (by omega) (by omega) (by rw [hc]; rfl)).2
  obtain ⟨lg2, k2, a2, b2, c2⟩ := any1 s c true 0 0 0 _ s.n lg1 k1 a1 (by omega) hs r1.len rfl hm (by omega)
  have r2 := (rg_push (s := s) (c := c) (n := b) r1 hN (by omega) (by omega) (by omega) (by rw [hc]; rfl)).2
  obtain ⟨lg3, k3, a3, b3, c3⟩ := any1 s c true 0 0 0 _ s.n lg2 k2 a2 (by omega) hs r2.len rfl hm (by omega)
  have r3 := (rg_bin (s := s) (c := c) (n := 0) ho r2 hN (by omega) (by omega) (by rw [hc]; rfl)).2
  refine ⟨_, lg3, k3, r3.len, ?_, ?_⟩
  rotate_left
  · have z1 := rnext (i := 0) (by omega) (by omega) c1
    have z2 := rnext (i := 1) (by omega) (by omega) c2
    have z3 := rnext (i := 2) (by omega) (by omega) c3
    exact z1.trans (z2.trans (z3.trans (rlast (i := 3) hcl.symm)))
  · exact r3.v0
theorem rloop1 {s : Su} (hs : s.ok) {a : Int} {cs : List Int} {x y : Int} (h : Rg cs s.n 0 0 9 x y) {lg : List D} {k : Nat} (hl : lg.length = k * 2) (hk : k < 100) :
    ∃ cs' lg' k', cs'.length = s.n ∧ getI cs' 16 = appI 13 a 0 ∧ Z prog16 (.loop 0 F54l0 (rFr 0) (rS s [(1, a), (13, 0)] cs s.n lg k)) = some (.out (.exit 0) (rFr 2 ++ [(41, .bool false)]) (rS s [(1, a), (13, 0)] cs' s.n lg' k')) := by
  have hN : 48 ≤ s.n := by unfold Su.n; omega
  obtain ⟨c, hc⟩ : ∃ c : List (Nat × Int), c = [(1, a), (13, 0)] := ⟨_, rfl⟩
  rw [← hc]
  have hm : ∀ x ∈ c, 1 ≤ x.1 ∧ x.1 ≤ 21 := by rw [hc]; simp
  have hcl : c.length = 2 := by rw [hc]; rfl
  obtain ⟨lg1, k1, a1, b1, c1⟩ := any1 s c true 0 0 0 cs s.n lg k hl (by omega) hs h.len rfl hm (by omega)
  have r1 := (rg_push (s := s) (c := c) (n := a) h hN (by omega) (by omega) (by omega) (by rw [hc]; rfl)).2
  obtain ⟨lg2, k2, a2, b2, c2⟩ := any1 s c true 0 0 0 _ s.n lg1 k1 a1 (by omega) hs r1.len rfl hm (by omega)
  have r2 := (rg_neg (s := s) (c := c) (n := 0) r1 hN (by omega) (by omega) (by rw [hc]; rfl)).2
  refine ⟨_, lg2, k2, r2.len, ?_, ?_⟩
  rotate_left
  · have z1 := rnext (i := 0) (by omega) (by omega) c1
    have z2 := rnext (i := 1) (by omega) (by omega) c2
    exact z1.trans (z2.trans (rlast (i := 2) hcl.symm))
  · exact r2.v0
theorem result_Z (op : Nat) (o a b : Int) (ho : o = op) (h1 : 9 ≤ op ∧ op ≤ 13) :
    Z prog16 (.call 54 [.int o, .int a, .int b] []) = some (.ret (.int (appI op a (if op = 13 then 0 else b))) []) := by
  obtain ⟨s, bs, hs, hb, hbl, zs⟩ := setup_Z (isRow_nil none) (by simp)
  obtain ⟨w, hw, hlow, zw⟩ := initial_Z s hs bs hb hbl
  have hp := hs.p3; have hq := hs.b5
  have hN : 48 ≤ s.n ∧ s.n < 1000 := by unfold Su.n; omega
  have zn := new_Z w s.n false hw (by omega)
  by_cases h13 : op = 13
  · subst h13
    have ho' : o = 13 := ho
    subst ho'
    clear ho
    rw [if_pos rfl]
    obtain ⟨lg, k, a1, a2, a3⟩ := begin0_Z [(1, a), (13, 0)] true 0 0 0 0 0 0 9 w s.n hw hN.1 (by simp [entI])
    obtain ⟨cs, lg', k', b1, b2, b3⟩ := rloop1 (a := a) hs (rg_start w s.n hw hN.1 (entI 0 0 0 0) 9 0 0) a1 (by omega)
    have g := get1_Z (cs := cs) (n := s.n) (lg := lg') (k := k') (t := k' * 2) (i := 16) b1 (by omega) (by omega)
    rw [b2] at g
    generalize startC w (entI 0 0 0 0) 9 0 0 = cs0 at *
    have hcd : codeD true [(1, a), (13, 0)] = .sl [.lit (.int .i64 1), .lit (.int .i64 a), .lit (.int .i64 13), .lit (.int .i64 0)] 2 true := rfl
    refine Z_call (pf := F54) rfl rfl ?_
    simp only [rFr, rS, suOb, mem0, mem1, progD, Su.d, Su.c, hcd, List.map] at *
    simp [F54, zs, zw, zn, a3, g, b3, List.range_succ]
  · rw [if_neg h13]
    have k13 : ¬ o = 13 := by omega
    have ho2 : 9 ≤ op ∧ op ≤ 12 := by omega
    obtain ⟨lg, k, a1, a2, a3⟩ := begin0_Z [(1, a), (1, b), (op, 0)] true 0 0 0 0 0 0 9 w s.n hw hN.1 (by simp [entI])
    obtain ⟨cs, lg', k', b1, b2, b3⟩ := rloop2 (a := a) (b := b) hs ho2 (rg_start w s.n hw hN.1 (entI 0 0 0 0) 9 0 0) a1 (by omega)
    have g := get1_Z (cs := cs) (n := s.n) (lg := lg') (k := k') (t := k' * 2) (i := 16) b1 (by omega) (by omega)
    rw [b2] at g
    generalize startC w (entI 0 0 0 0) 9 0 0 = cs0 at *
    have hcd : codeD true [(1, a), (1, b), (op, 0)] = .sl [.lit (.int .i64 1), .lit (.int .i64 a), .lit (.int .i64 1), .lit (.int .i64 b), .lit (.int .i64 o), .lit (.int .i64 0)] 3 true := by rw [ho]; rfl
    refine Z_call (pf := F54) rfl rfl ?_
    simp only [rFr, rS, suOb, mem0, mem1, progD, Su.d, Su.c, hcd, List.map] at *
    simp [F54, zs, zw, zn, a3, g, b3, List.range_succ, k13]
theorem satI_rng (n : Int) : -2147483647 ≤ satI n ∧ satI n ≤ 2147483647 := by
  unfold satI clampI
  split
  · omega
  · split <;> omega
theorem bound_Z {n : Int} (h : I64 n) : ∃ m, -2147483647 ≤ m ∧ m ≤ 2147483647 ∧ Z prog16 (.call 53 [.int n, .int 2147483647] []) = some (.ret (.int m) []) := by
  have za := around_Z h (m := 4294967295) (by omega)
  have hr := around_lt h (m := 4294967295) (by omega)
  generalize around n 4294967295 = f at *
  have w1 := wrap64 (f - 2147483647) (by omega)
  refine ⟨f - 2147483647, by omega, by omega, ?_⟩
  refine Z_call (pf := F53) rfl rfl ?_
  have w2 : IntKind.i64.wrap (2 * 2147483647) = 4294967294 := rfl
  have w3 : IntKind.i64.wrap 4294967294 = 4294967294 := rfl
  have w4 : IntKind.i64.wrap 4294967295 = 4294967295 := rfl
  simp [F53, za, w1, w2, w3, w4]
def oFr (x y s : Int) (i : Int) : Fr := [(5, .int x), (6, .int y), (7, .int s), (8, .dat (.sl [.lit (.int .i64 9), .lit (.int .i64 10), .lit (.int .i64 11), .lit (.int .i64 12), .lit (.int .i64 13)] 5 true)), (9, .int i)]
theorem ostep {x y s v : Int} (i : Nat) (op : Int) (hi : i < 5) (ho : op = 9 + i) (hv : Z prog16 (.call 54 [.int op, .int x, .int y] []) = some (.ret (.int v) [])) (hr : -2147483647 ≤ v ∧ v ≤ 2147483647) :
    Z prog16 (.loop 0 F41l0 (oFr x y s i) []) = Z prog16 (.loop 0 F41l0 (oFr x y s (i + 1 : Nat)) []) := by
  have k1 : ¬ 2147483647 < v := by omega
  have k2 : ¬ v < -2147483647 := by omega
  obtain rfl | rfl | rfl | rfl | rfl : i = 0 ∨ i = 1 ∨ i = 2 ∨ i = 3 ∨ i = 4 := by omega
  all_goals
    simp at ho
    subst ho
    rw [Z_loop_eq]
    have w1 : IntKind.i64.wrap 1 = 1 := rfl
    have w2 : IntKind.i64.wrap 2 = 2 := rfl
    have w3 : IntKind.i64.wrap 3 = 3 := rfl
    have w4 : IntKind.i64.wrap 4 = 4 := rfl
    have w5 : IntKind.i64.wrap 5 = 5 := rfl
    simp [loopStep, run_F41l0, oFr, sliceAddr, V.len, hv, k1, k2, w1, w2, w3, w4, w5]
theorem olast {x y s : Int} : Z prog16 (.loop 0 F41l0 (oFr x y s 5) []) = some (.out (.exit 0) (oFr x y s 5 ++ [(47, .bool false)]) []) := by
  rw [Z_loop_eq]
  simp [loopStep, run_F41l0, oFr, sliceAddr, V.len]
theorem mul_bound {x y : Int} (hx : -2147483647 ≤ x ∧ x ≤ 2147483647) (hy : -2147483647 ≤ y ∧ y ≤ 2147483647) : satI (wr (x * y)) = satI (wr (y * x)) := by rw [Int.mul_comm]
set_option maxHeartbeats 4000000 in
theorem vmSaturates_Z {a b : Int} (ha : I64 a) (hb : I64 b) : Z prog16 (.call 41 [.int a, .int b] []) = some (.ret (.bool true) []) := by
  obtain ⟨x, x1, x2, zx⟩ := bound_Z ha
  obtain ⟨y, y1, y2, zy⟩ := bound_Z hb
  have r1 := result_Z 9 9 x y rfl (by omega)
  have r2 := result_Z 9 9 y x rfl (by omega)
  have r3 := result_Z 11 11 x y rfl (by omega)
  have r4 := result_Z 11 11 y x rfl (by omega)
  have r5 := result_Z 10 10 x y rfl (by omega)
  have r6 := result_Z 10 10 y x rfl (by omega)
  have r7 := result_Z 13 13 (appI 10 y x) 0 rfl (by omega)
  have r8 := result_Z 12 12 x y rfl (by omega)
  have r9 := result_Z 13 13 x y rfl (by omega)
  have r10 := result_Z 10 10 (appI 9 x y) y rfl (by omega)
  have r11 := result_Z 12 12 x 0 rfl (by omega)
  simp only [Nat.reduceEqDiff, if_false, if_true] at r1 r2 r3 r4 r5 r6 r7 r8 r9 r10 r11
  have wa : wr (x + y) = x + y := wrap64 _ (by omega)
  have wb : wr (y + x) = x + y := by rw [Int.add_comm]; exact wa
  have ws : wr (x - y) = x - y := wrap64 _ (by omega)
  have wt : wr (y - x) = y - x := wrap64 _ (by omega)
  have c1 : appI 9 y x = appI 9 x y := by show satI _ = satI _; rw [wa, wb]
  have c2 : appI 11 y x = appI 11 x y := by show satI _ = satI _; rw [Int.mul_comm]
  have g9 : appI 9 x y = satI (x + y) := by show satI _ = satI _; rw [wa]
  have g10 : appI 10 x y = satI (x - y) := by show satI _ = satI _; rw [ws]
  have g10' : appI 10 y x = satI (y - x) := by show satI _ = satI _; rw [wt]
  have c3 : appI 13 (appI 10 y x) 0 = appI 10 x y := by
    rw [g10, g10']
    have hr := satI_rng (y - x)
    show satI (wr (0 - satI (y - x))) = _
    have w : wr (0 - satI (y - x)) = 0 - satI (y - x) := wrap64 _ (by omega)
    rw [w]
    clear hr w
    unfold satI clampI
    repeat' split
    all_goals omega
  have g11 : appI 12 x 0 = 0 := rfl
  rw [c1] at r2
  rw [c2] at r4
  rw [c3] at r7
  have h9 := satI_rng (x + y)
  rw [← g9] at h9
  have hd : -2147483647 ≤ appI 12 x y ∧ appI 12 x y ≤ 2147483647 := by
    show -2147483647 ≤ (if y = 0 then 0 else satI _) ∧ (if y = 0 then 0 else satI _) ≤ (2147483647 : Int)
    split
    · omega
    · exact satI_rng _
  have e : Z prog16 (.loop 0 F41l0 (oFr x y (appI 9 x y) 0) []) = some (.out (.exit 0) (oFr x y (appI 9 x y) 5 ++ [(47, .bool false)]) []) :=
    (ostep 0 9 (by omega) rfl r1 h9).trans ((ostep 1 10 (by omega) rfl r5 (satI_rng _)).trans ((ostep 2 11 (by omega) rfl r3 (satI_rng _)).trans ((ostep 3 12 (by omega) rfl r8 hd).trans ((ostep 4 13 (by omega) rfl r9 (satI_rng _)).trans olast))))
  have key : appI 9 x y = x + y → appI 10 (appI 9 x y) y = x := by
    intro h
    rw [h]
    show satI (wr (x + y - y)) = x
    have w : wr x = x := wrap64 _ (by omega)
    rw [show x + y - y = x by omega, w]
    unfold satI clampI
    rw [if_neg (by omega), if_neg (by omega)]
  have key2 : appI 9 x y ≠ x + y → appI 9 x y = 2147483647 ∨ appI 9 x y = -2147483647 := by
    rw [g9]
    unfold satI clampI
    repeat' split
    all_goals omega
  rw [g11] at r11
  refine Z_call (pf := F41) rfl rfl ?_
  simp only [oFr] at e
  generalize appI 9 x y = S at *
  generalize appI 10 S y = T at *
  generalize appI 10 x y = U at *
  generalize appI 10 y x = W at *
  generalize appI 11 x y = P at *
  by_cases h : S = x + y
  · have hT := key h
    subst h hT
    simp [F41, zx, zy, r1, r2, r3, r4, r5, r6, r7, e, wa, r10, r11, lives_Z, List.range_succ]
  · rcases key2 h with h' | h'
    · subst h'
      simp [F41, zx, zy, r1, r2, r3, r4, r5, r6, r7, e, wa, r10, r11, h, lives_Z, List.range_succ]
    · subst h'
      simp [F41, zx, zy, r1, r2, r3, r4, r5, r6, r7, e, wa, r10, r11, h, lives_Z, List.range_succ]
end Go.Pm
end SV28
