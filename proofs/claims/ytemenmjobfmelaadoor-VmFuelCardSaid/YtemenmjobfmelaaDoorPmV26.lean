/- Chapter 16: the law of fuel. -/
import Derived.Test.YtemenmjobfmelaaDoorPmV23
section SV26
set_option linter.unusedSimpArgs false
set_option linter.unusedVariables false
namespace Go.Pm
open F
def fS (s : Su) (c : List (Nat × Int)) (e0 e1 e2 : Int) (cs : List Int) (N : Nat) (lg : List D) (k : Nat) : S :=
  [suOb s, .cells [.msl 3 0 N N 1, .gsl lg k 2 4, .int 0], .cells [.dat (codeD false c), .int e0, .int e1, .int e2], .cells (ints cs), .tip (k * 2)]
def fFr (f i : Int) : Fr := [(9, .ptr 0 0), (10, .ptr 1 0), (11, .ptr 2 0), (12, .int f), (13, .int i)]
theorem stepR_four (s : Su) (c : List (Nat × Int)) (cs : List Int) : ∃ x1 x2 x3 x4, (stepR s c cs).e = [x1, x2, x3, x4] := by
  unfold stepR
  split
  · exact exE_four _ _ _ _
  · exact ⟨_, _, _, _, rfl⟩
section
variable (s : Su) (c : List (Nat × Int)) (e0 e1 e2 f : Int) (i : Nat) (cs : List Int) (N : Nat) (lg lg' : List D) (k k' : Nat) (h48 : 48 ≤ N) (hN : cs.length = N) (hi : i ≤ f) (hf : f < 80) (h8 : getI cs 8 = f - i)
    (hst : Z prog16 (.call 52 [.iface 0 (.ptr 0 0), s.d, progD false c e0 e1 e2] (mem1 cs N lg k (k * 2))) = some (.ret (stepR s c cs).v (mem1 (stepR s c cs).cs N lg' k' (k' * 2))))
include h48 hN hi hf h8 hst
theorem fstop (he : (stepR s c cs).ended = true) :
    ∃ σ', Z prog16 (.loop 0 F40l0 (fFr f i) (fS s c e0 e1 e2 cs N lg k)) = some (.out .ret [(8, .bool true)] σ') := by
  have g8 := get1_Z (cs := cs) (n := N) (lg := lg) (k := k) (t := k * 2) (i := 8) hN (by omega) (by omega)
  have w1 := wrap64 (f - i) (by omega)
  rw [h8] at g8
  obtain ⟨x1, x2, x3, x4, hx⟩ := stepR_four s c cs
  generalize stepR s c cs = R at *
  obtain ⟨cs', ended, e, em⟩ := R
  simp only at he hx
  subst he hx
  simp only [StR.v, mem1, Su.d, Su.c, progD, intsC, List.map] at hst g8
  rw [Z_loop_eq]
  simp [loopStep, run_F40l0, fFr, fS, suOb, Su.c, List.range_succ, hi, g8, w1, hst, lives_Z]
theorem fnext (he : (stepR s c cs).ended = false) :
    Z prog16 (.loop 0 F40l0 (fFr f i) (fS s c e0 e1 e2 cs N lg k)) = Z prog16 (.loop 0 F40l0 (fFr f (i + 1 : Nat)) (fS s c e0 e1 e2 (stepR s c cs).cs N lg' k')) := by
  have g8 := get1_Z (cs := cs) (n := N) (lg := lg) (k := k) (t := k * 2) (i := 8) hN (by omega) (by omega)
  have w1 := wrap64 (f - i) (by omega)
  have w2 := wrap64 ((i : Int) + 1) (by omega)
  rw [h8] at g8
  obtain ⟨x1, x2, x3, x4, hx⟩ := stepR_four s c cs
  generalize stepR s c cs = R at *
  obtain ⟨cs', ended, e, em⟩ := R
  simp only at he hx
  subst he hx
  simp only [StR.v, mem1, Su.d, Su.c, progD, intsC, List.map] at hst g8
  rw [Z_loop_eq]
  simp [loopStep, run_F40l0, fFr, fS, suOb, Su.c, List.range_succ, hi, g8, w1, w2, hst, lives_Z]
  refine Z_loop_cong ?_
  simp [List.range_succ]
end
theorem floop (s : Su) (hs : s.ok) (c : List (Nat × Int)) (e0 e1 e2 f : Int) (N : Nat) (h : N = s.n) (hc : ∀ x ∈ c, 1 ≤ x.1 ∧ x.1 ≤ 21) (hcl : c.length < 2^30) (hf : f < 80) (m : Nat) :
    ∀ (i : Nat) (cs : List Int) (lg : List D) (k : Nat), cs.length = N → lg.length = k * 2 → k + 6 * m < 10000 → i + m = f → getI cs 8 = f - i →
    ∃ σ', Z prog16 (.loop 0 F40l0 (fFr f i) (fS s c e0 e1 e2 cs N lg k)) = some (.out .ret [(8, .bool true)] σ') := by
  have h48 : 48 ≤ N := by rw [h]; unfold Su.n; omega
  induction m with
  | zero =>
    intro i cs lg k hN hl hk hi h8
    obtain ⟨lg', k', a1, a2, a3⟩ := any1 s c false e0 e1 e2 cs N lg k hl (by omega) hs hN h hc hcl
    refine fstop s c e0 e1 e2 f i cs N lg lg' k k' h48 hN (by omega) hf h8 a3 ?_
    cases he : (stepR s c cs).ended with
    | true => rfl
    | false => have := (stepR_fuel hs (by omega) he).1; omega
  | succ m ih =>
    intro i cs lg k hN hl hk hi h8
    obtain ⟨lg', k', a1, a2, a3⟩ := any1 s c false e0 e1 e2 cs N lg k hl (by omega) hs hN h hc hcl
    cases he : (stepR s c cs).ended with
    | true => exact fstop s c e0 e1 e2 f i cs N lg lg' k k' h48 hN (by omega) hf h8 a3 he
    | false =>
      have hfu := (stepR_fuel hs (by omega) he).2
      have e : wr (getI cs 8 - 1) = getI cs 8 - 1 := wrap64 _ (by omega)
      rw [e] at hfu
      rw [fnext s c e0 e1 e2 f i cs N lg lg' k k' h48 hN (by omega) hf h8 a3 he]
      exact ih (i + 1) _ _ _ (by rw [stepR_length]; exact hN) a1 (by omega) (by omega) (by omega)
theorem vmFuel_Z {d1 d2 d3 : D} {xs1 xs2 xs3 : List Int} (h1 : IsRow d1 xs1) (i1 : ∀ x ∈ xs1, I64 x) (h2 : IsRow d2 xs2) (i2 : ∀ x ∈ xs2, I64 x) (h3 : IsRow d3 xs3) (i3 : ∀ x ∈ xs3, I64 x) {n : Int} (hn : I64 n) :
    Z prog16 (.call 40 [.dat d1, .dat d2, .dat d3, .int n] []) = some (.ret (.bool true) []) := by
  obtain ⟨s, bs, hs, hb, hbl, zs⟩ := setup_Z h1 i1
  obtain ⟨w, hw, zw⟩ := cells_Z s hs bs hb hbl h3 i3
  obtain ⟨c, e0, e1, e2, hcl, hc, zc⟩ := code_Z h2 i2
  have hp := hs.p3; have hq := hs.b5
  have hN : 48 ≤ s.n ∧ s.n < 1000 := by unfold Su.n; omega
  have zn := new_Z w s.n false hw (by omega)
  have za := around_Z hn (m := 80) (by omega)
  have hr := around_lt hn (m := 80) (by omega)
  generalize around n 80 = f at *
  refine Z_call (pf := F40) rfl rfl ?_
  by_cases hb2 : e2 < 0
  · have zb := startno0 (c := c) (f := false) (cs := w) (N := s.n) (e0 := e0) (e1 := e1) (e2 := e2) (h := 2) (self := 0) (other := 0) (fuel := f) (.inr (.inr (by simpa [entI] using hb2)))
    simp only [mem0, progD, Su.d, Su.c] at *
    simp [F40, zs, zw, zc, zn, za, zb, lives_Z, List.range_succ]
  · obtain ⟨lg, k, a1, a2, a3⟩ := begin0_Z c false e0 e1 e2 2 0 0 f w s.n hw hN.1 (by simp [entI]; omega)
    have h8 : getI (startC w (entI e0 e1 e2 2) f 0 0) 8 = f - (0 : Nat) := by
      show getN _ 8 = _
      unfold startC
      rw [getN_set_ne (by simp), getN_set_ne (by simp), getN_set_eq (by rfl) (by simp; omega)]
      simp
    obtain ⟨σ', zl⟩ := floop s hs c e0 e1 e2 f s.n rfl hc (by omega) hr.2 f.toNat 0 _ lg k (by simp [hw]) a1 (by omega) (by omega) h8
    generalize startC w (entI e0 e1 e2 2) f 0 0 = cs at *
    have zl' := (Z_loop_cong (k := 0) (b := F40l0) (fr := [(9, .ptr 0 0), (10, .ptr 1 0), (11, .ptr 3 0), (12, .int f), (13, .int 0)]) (σ := [suOb s, .cells [.msl 2 0 s.n s.n 1, .gsl lg k 2 4, .int 0], .cells (ints cs), .cells [.dat (codeD false c), .int e0, .int e1, .int e2], .tip (k * 2)]) (by simp [fFr, fS, suOb, Su.c, List.range_succ])).trans zl
    simp only [suOb, Su.c, List.map] at zl'
    simp only [mem0, mem1, progD, Su.d, Su.c] at *
    simp [F40, zs, zw, zc, zn, za, a3, zl', lives_Z, List.range_succ]
end Go.Pm
end SV26
