/- Chapter 14: whole generated programs. -/
import Derived.Test.YtebhnnjdljcicaaPmQ18
set_option linter.unusedSimpArgs false
set_option linter.unusedVariables false
namespace Go.Pm
open F
def Hd.ok : Hd → Prop
  | .none => True
  | .some _ b => b.ok
def sC : Nat → Int
  | 0 => 100
  | d + 1 => 102 + 6 * sC d
theorem sC_pos (d : Nat) : 100 ≤ sC d := by
  induction d with
  | zero => simp [sC]
  | succ d ih => simp only [sC]; omega
section
variable {xs : List Int}
theorem st_Z (hx : ∀ x ∈ xs, I64 x) : ∀ (n : Nat), n ≤ 50 → (∀ i, 0 ≤ i → i + 10 * sC n < 2^60 → GSt xs n i (sC n)) ∧ (∀ i, 0 ≤ i → i + 20 * sC n < 2^60 → GBl xs n i (1 + 3 * sC n))
  | 0, _ => by
    have hs : ∀ i, 0 ≤ i → i + 10 * sC 0 < 2^60 → GSt xs (0 : Nat) i (sC 0) := fun i hi hb => by
      have hl := nextV_lt (i := i) (m := 9) hx (by omega)
      simp only [sC] at hb ⊢
      by_cases h6 : 6 < nextV xs i 9
      · exact s_assign hx hi (by omega) (by omega) (.inr ⟨by omega, h6⟩)
      by_cases h3 : nextV xs i 9 < 3
      · exact s_assign hx hi (by omega) (by omega) (.inl h3)
      by_cases h5 : nextV xs i 9 < 5
      · exact s_store hx hi (by omega) (by omega) (by omega) h5
      by_cases h5' : nextV xs i 9 = 5
      · exact s_effect hx hi (by omega) (by omega) h5'
      exact s_stop hx hi (by omega) (by omega) (by omega)
    exact ⟨hs, fun i hi hb => block_Z hx hi (by simp only [sC] at *; omega) (by simp [sC]) fun j h1 h2 => hs j (by omega) (by simp only [sC] at *; omega)⟩
  | n + 1, hn => by
    have ih := (st_Z hx n (by omega)).2
    have hp := sC_pos n
    have hq : sC (n + 1) = 102 + 6 * sC n := rfl
    have hs : ∀ i, 0 ≤ i → i + 10 * sC (n + 1) < 2^60 → GSt xs (n + 1 : Nat) i (sC (n + 1)) := fun i hi hb => by
      have hl := nextV_lt (i := i) (m := 9) hx (by omega)
      have hd : 1 ≤ ((n + 1 : Nat) : Int) := by omega
      have hd' : ((n + 1 : Nat) : Int) < 100 := by omega
      have hb' : ∀ j, i ≤ j → j ≤ i + 29 + (1 + 3 * sC n) → GBl xs (((n + 1 : Nat) : Int) - 1) j (1 + 3 * sC n) := fun j h1 h2 => by
        rw [show ((n + 1 : Nat) : Int) - 1 = n by omega]
        exact ih j (by omega) (by omega)
      by_cases h3 : nextV xs i 9 < 3
      · exact s_assign hx hi (by omega) (by omega) (.inl h3)
      by_cases h5 : nextV xs i 9 < 5
      · exact s_store hx hi (by omega) (by omega) (by omega) h5
      by_cases h5' : nextV xs i 9 = 5
      · exact s_effect hx hi (by omega) (by omega) h5'
      by_cases h6' : nextV xs i 9 = 6
      · exact s_stop hx hi (by omega) (by omega) h6'
      by_cases h7' : nextV xs i 9 = 7
      · exact s_if hx hi (by omega) (by omega) (by omega) hd hd' h7' hb'
      · exact s_while hx hi (by omega) (by omega) (by omega) hd hd' (by omega) hb'
    exact ⟨hs, fun i hi hb => block_Z hx hi (by omega) (by omega) fun j h1 h2 => hs j (by omega) (by omega)⟩
end
abbrev z12 : Ob := .cells [.int 0, .int 0, .str ⟨#[]⟩, .dat (.lit (.slice none 0 0)), .int 0, .int 0, .str ⟨#[]⟩, .dat (.lit (.slice none 0 0)), .int 0, .int 0, .str ⟨#[]⟩, .dat (.lit (.slice none 0 0))]
abbrev tst (xs : List Int) (i : Int) (a b c : Nd) : S := [z12, .cells [.dat (intsD xs), .int i], rbox a b c]
abbrev tfr (h : Int) : Fr := [(2, .ptr 0 0), (3, .ptr 1 0), (4, .ptr 2 0), (5, .int h)]
section
variable {xs : List Int} {i : Int} {a b c : Nd}
theorem t_end : Z prog (.loop 0 F11l0 (tfr 3) (tst xs i a b c)) = some (.out (.exit 0) (tfr 3 ++ [(11, .bool false)]) (tst xs i a b c)) := by
  rw [Z_loop_eq]
  simp [loopStep, run_F11l0]
theorem t_step0 (hx : ∀ x ∈ xs, I64 x) (hi : 0 ≤ i) (hb : i < 2^40) : ∃ (g : Hd) (i' : Int), (g.ks.size ≤ 12943 ∧ g.ok) ∧ i ≤ i' ∧ i' ≤ i + 20000 ∧ Z prog (.loop 0 F11l0 (tfr 0) (tst xs i Hd.none.nd b c)) = Z prog (.loop 0 F11l0 (tfr 1) (tst xs i' g.nd b c)) := by
  have n1 := next_Z (i := i) (m := 3) hx hi (by omega) (by omega)
  have w1 := wrap64 1 (by omega)
  by_cases h2 : nextV xs i 3 < 2
  · have hs : sC 2 = 4314 := by decide
    obtain ⟨q, i', k1, k2, k3⟩ := (st_Z hx 2 (by omega)).2 (i + 1) (by omega) (by rw [hs]; omega)
    rw [hs] at k2
    refine ⟨.some false q, i', ⟨by simp only [Hd.ks]; omega, k1.2⟩, by omega, by omega, ?_⟩
    simp only [src] at k3
    simp at k3
    conv => lhs; rw [Z_loop_eq]
    simp [loopStep, run_F11l0, n1, h2, k3, w1, Nd.d, Hd.k, Hd.f, Hd.ks, tfr, tst, rbox]
  · refine ⟨.none, i + 1, ⟨by simp [Hd.ks], trivial⟩, by omega, by omega, ?_⟩
    conv => lhs; rw [Z_loop_eq]
    simp [loopStep, run_F11l0, n1, h2, w1, Nd.d, Hd.k, Hd.f, Hd.ks, tfr, tst, rbox]
theorem t_step1 (hx : ∀ x ∈ xs, I64 x) (hi : 0 ≤ i) (hb : i < 2^40) : ∃ (g : Hd) (i' : Int), (g.ks.size ≤ 12943 ∧ g.ok) ∧ i ≤ i' ∧ i' ≤ i + 20000 ∧ Z prog (.loop 0 F11l0 (tfr 1) (tst xs i a Hd.none.nd c)) = Z prog (.loop 0 F11l0 (tfr 2) (tst xs i' a g.nd c)) := by
  have n1 := next_Z (i := i) (m := 3) hx hi (by omega) (by omega)
  have w1 := wrap64 2 (by omega)
  by_cases h2 : nextV xs i 3 < 2
  · have hs : sC 2 = 4314 := by decide
    obtain ⟨q, i', k1, k2, k3⟩ := (st_Z hx 2 (by omega)).2 (i + 1) (by omega) (by rw [hs]; omega)
    rw [hs] at k2
    refine ⟨.some false q, i', ⟨by simp only [Hd.ks]; omega, k1.2⟩, by omega, by omega, ?_⟩
    simp only [src] at k3
    simp at k3
    conv => lhs; rw [Z_loop_eq]
    simp [loopStep, run_F11l0, n1, h2, k3, w1, Nd.d, Hd.k, Hd.f, Hd.ks, tfr, tst, rbox]
  · refine ⟨.none, i + 1, ⟨by simp [Hd.ks], trivial⟩, by omega, by omega, ?_⟩
    conv => lhs; rw [Z_loop_eq]
    simp [loopStep, run_F11l0, n1, h2, w1, Nd.d, Hd.k, Hd.f, Hd.ks, tfr, tst, rbox]
theorem t_step2 (hx : ∀ x ∈ xs, I64 x) (hi : 0 ≤ i) (hb : i < 2^40) : ∃ (g : Hd) (i' : Int), (g.ks.size ≤ 12943 ∧ g.ok) ∧ i ≤ i' ∧ i' ≤ i + 20000 ∧ Z prog (.loop 0 F11l0 (tfr 2) (tst xs i a b Hd.none.nd)) = Z prog (.loop 0 F11l0 (tfr 3) (tst xs i' a b g.nd)) := by
  have n1 := next_Z (i := i) (m := 3) hx hi (by omega) (by omega)
  have w1 := wrap64 3 (by omega)
  by_cases h2 : nextV xs i 3 < 2
  · have hs : sC 2 = 4314 := by decide
    obtain ⟨q, i', k1, k2, k3⟩ := (st_Z hx 2 (by omega)).2 (i + 1) (by omega) (by rw [hs]; omega)
    rw [hs] at k2
    refine ⟨.some false q, i', ⟨by simp only [Hd.ks]; omega, k1.2⟩, by omega, by omega, ?_⟩
    simp only [src] at k3
    simp at k3
    conv => lhs; rw [Z_loop_eq]
    simp [loopStep, run_F11l0, n1, h2, k3, w1, Nd.d, Hd.k, Hd.f, Hd.ks, tfr, tst, rbox]
  · refine ⟨.none, i + 1, ⟨by simp [Hd.ks], trivial⟩, by omega, by omega, ?_⟩
    conv => lhs; rw [Z_loop_eq]
    simp [loopStep, run_F11l0, n1, h2, w1, Nd.d, Hd.k, Hd.f, Hd.ks, tfr, tst, rbox]
end
theorem Tree_Z {v : D} {xs : List Int} (h : RowV v xs) (hx : ∀ x ∈ xs, I64 x) : ∃ a b c : Hd, (a.ks.size ≤ 12943 ∧ a.ok) ∧ (b.ks.size ≤ 12943 ∧ b.ok) ∧ (c.ks.size ≤ 12943 ∧ c.ok) ∧ Z prog (.call 11 [.dat v] []) = some (.ret (.dat (ru a.nd b.nd c.nd)) []) := by
  have hx' : ∀ x ∈ xs.take 150, I64 x := fun x hm => hx x (List.mem_of_mem_take hm)
  have n0 := ints_Z h 150 (by omega)
  obtain ⟨a, i1, a1, a2, a3, a4⟩ := t_step0 (i := 0) (b := Hd.none.nd) (c := Hd.none.nd) hx' (by omega) (by omega)
  obtain ⟨b, i2, b1, b2, b3, b4⟩ := t_step1 (i := i1) (a := a.nd) (c := Hd.none.nd) hx' (by omega) (by omega)
  obtain ⟨c, i3, c1, c2, c3, c4⟩ := t_step2 (i := i2) (a := a.nd) (b := b.nd) hx' (by omega) (by omega)
  have hl := a4.trans (b4.trans (c4.trans t_end))
  refine ⟨a, b, c, a1, b1, c1, ?_⟩
  refine Z_call (pf := F11) rfl ?_
  simp only [tfr, tst, rbox, Nd.d, hd_k, hd_n, hd_s, hd_f, hd_ks, List.cons_append, List.nil_append, show Hd.k .none = 0 from rfl, show Hd.f .none = false from rfl, show Hd.ks .none = .nil from rfl, z12, fo_len_nil, fo_cells_nil, kd_0] at hl
  simp at n0 hl
  simp [F11, n0, hl, ru, Nd.d]
end Go.Pm
