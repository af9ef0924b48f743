/- Chapter 14: the law of modules: the loops. -/
import Derived.Test.YtebhnnjdljcicaaPmQ23
set_option linter.unusedSimpArgs false
set_option linter.unusedVariables false
namespace Go.Pm
open F
theorem mem_addAll (x : ByteArray) : ∀ (xs l : List ByteArray), x ∈ addAll l xs ↔ x ∈ l ∨ x ∈ xs
  | [], l => by simp [addAll]
  | y :: xs, l => by
    show x ∈ addAll (addN l y) xs ↔ _
    rw [mem_addAll x xs (addN l y), List.mem_cons]
    unfold addN
    split
    · rename_i h
      constructor
      · rintro (h1 | h1)
        · exact .inl h1
        · exact .inr (.inr h1)
      · rintro (h1 | rfl | h1)
        · exact .inl h1
        · exact .inl h
        · exact .inr h1
    · rw [List.mem_append, List.mem_singleton]
      constructor
      · rintro ((h1 | h1) | h1)
        · exact .inl h1
        · exact .inr (.inl h1)
        · exact .inr (.inr h1)
      · rintro (h1 | h1 | h1)
        · exact .inl (.inl h1)
        · exact .inl (.inr h1)
        · exact .inr h1
theorem addAll_twice_rev : ∀ (ys l : List ByteArray), addAll l (addAll [] ys.reverse) = addAll l ys.reverse
  | [], l => rfl
  | y :: ys, l => by
    have ih := addAll_twice_rev ys l
    rw [List.reverse_cons, addAll_app, addAll_app]
    show addAll l (addN (addAll [] ys.reverse) y) = addN (addAll l ys.reverse) y
    unfold addN
    have hm : y ∈ addAll [] ys.reverse → y ∈ addAll l ys.reverse := fun h => (mem_addAll y _ _).2 (.inr (((mem_addAll y _ _).1 h).resolve_left (by simp)))
    split
    · rename_i h
      rw [ih, if_pos (hm h)]
    · rw [addAll_app, ih]
      rfl
theorem addAll_twice (l ys : List ByteArray) : addAll l (addAll [] ys) = addAll l ys := by
  have := addAll_twice_rev ys.reverse l
  rwa [List.reverse_reverse] at this
/-- The row so far: nil, or growing. -/
inductive MoSt (x : Ob) : V → S → List ByteArray → Prop
  | a : MoSt x (.dat (.lit (.slice none 0 0))) [x] []
  | b (l : List ByteArray) (h : l ≠ []) : MoSt x (.gsl (strC l) l.length 1 1) [x, .tip l.length] l
section
variable {x : List V} {v : V} {σ : S} {l ns : List ByteArray} {w : Bool} {h i : Nat}
abbrev m2fr (w : Bool) (v : V) (h : Nat) (ns : List ByteArray) (i : Nat) (b : Bool) (k : Nat) : Fr := [(3, .ptr 0 0), (4, .bool w), (5, v), (6, .int h), (8, .dat (strD ns)), (9, .int i), (10, .bool b), (11, .int k)]
theorem m2_loop (hs : MoSt (.cells x) v σ l) (hx : locsL x = []) (hr : ∀ r, renL r x = x) (hi : i < ns.length) (hl : l.length < 2^30) : ∀ (n k : Nat) (b : Bool), k + n = l.length →
    Z prog (.loop 0 F4l2 (m2fr w v h ns i b k) σ) = some (.out (.exit 4) (m2fr w v h ns i (b || decide (ns[i] ∈ l.drop k)) l.length ++ [(43, .bool false)]) σ)
  | 0, k, b, hn => by
    obtain rfl : k = l.length := by omega
    rw [Z_loop_eq]
    cases hs with
    | a => simp [loopStep, run_F4l2, hx, hr, V.len]
    | b _ h0 => simp [loopStep, run_F4l2, hx, hr]
  | n + 1, k, b, hn => by
    have hk : k < l.length := by omega
    have ih := m2_loop hs hx hr hi hl n (k + 1) (b || decide (l[k] = ns[i])) (by omega)
    have hd : (b || decide (ns[i] ∈ l.drop k)) = ((b || decide (l[k] = ns[i])) || decide (ns[i] ∈ l.drop (k + 1))) := by
      rw [List.drop_eq_getElem_cons hk, Bool.or_assoc]
      congr 1
      rw [Bool.eq_iff_iff]
      simp only [Bool.or_eq_true, decide_eq_true_eq, List.mem_cons]
      rw [eq_comm (a := ns[i])]
    rw [hd, ← ih, Z_loop_eq]
    have hc := cut_strC l k hk
    have hc2 := cut_strC ns i hi
    have ha := at_strD ns i hi
    have w1 := wrap64 ((k : Int) + 1) (by omega)
    have he := eqS_iff l[k] ns[i]
    cases hs with
    | a => simp at hk
    | b _ h0 =>
      have hag := at_gsl l 1 k hk
      cases b with
      | true =>
        simp [loopStep, run_F4l2, hx, hr, hk, w1]
        try exact Z_loop_cong (by simp [m2fr])
      | false =>
        by_cases hq : l[k] = ns[i]
        · have he' := he.trans (decide_eq_true hq)
          rw [decide_eq_true hq]
          simp [loopStep, run_F4l2, hx, hr, hk, w1, hc, hc2, ha, hag, he']
          try exact Z_loop_cong (by simp [m2fr])
        · have he' := he.trans (decide_eq_false hq)
          rw [decide_eq_false hq]
          simp [loopStep, run_F4l2, hx, hr, hk, w1, hc, hc2, ha, hag, he']
          try exact Z_loop_cong (by simp [m2fr])
abbrev m1fr (w : Bool) (v : V) (h : Nat) (ns : List ByteArray) (i : Nat) : Fr := [(3, .ptr 0 0), (4, .bool w), (5, v), (6, .int h), (8, .dat (strD ns)), (9, .int i)]
theorem m1_loop (hx : locsL x = []) (hr : ∀ r, renL r x = x) (hns : ns.length < 2^29) : ∀ (n i : Nat) (v : V) (σ : S) (l : List ByteArray), MoSt (.cells x) v σ l → i + n = ns.length → l.length + n < 2^29 →
    ∃ v' σ', MoSt (.cells x) v' σ' (addAll l (ns.drop i)) ∧ Z prog (.loop 0 F4l1 (m1fr w v h ns i) σ) = some (.out (.exit 2) (m1fr w v' h ns ns.length ++ [(37, .bool false)]) σ')
  | 0, i, v, σ, l, hs, hn, hb => by
    obtain rfl : i = ns.length := by omega
    rw [List.drop_length]
    refine ⟨v, σ, hs, ?_⟩
    rw [Z_loop_eq]
    cases hs with
    | a => simp [loopStep, run_F4l1, hx, hr]
    | b _ h0 => simp [loopStep, run_F4l1, hx, hr]
  | n + 1, i, v, σ, l, hs, hn, hb => by
    have hi : i < ns.length := by omega
    have h2 := m2_loop (w := w) (h := h) hs hx hr hi (by omega) l.length 0 false (by omega)
    rw [List.drop_zero, Bool.false_or] at h2
    have hc2 := cut_strC ns i hi
    have ha := at_strD ns i hi
    have w1 := wrap64 ((i : Int) + 1) (by omega)
    have ed : addAll l (ns.drop i) = addAll (addN l ns[i]) (ns.drop (i + 1)) := by rw [List.drop_eq_getElem_cons hi]; rfl
    rw [ed]
    by_cases hm : ns[i] ∈ l
    · have e1 : addN l ns[i] = l := by unfold addN; rw [if_pos hm]
      rw [e1]
      obtain ⟨v', σ', k1, k2⟩ := m1_loop hx hr hns n (i + 1) v σ l hs (by omega) (by omega)
      refine ⟨v', σ', k1, ?_⟩
      rw [decide_eq_true hm] at h2
      rw [← k2, Z_loop_eq]
      simp only [m2fr, List.cons_append, List.nil_append, show ((0 : Nat) : Int) = 0 from rfl] at h2
      cases hs with
      | a => simp at hm
      | b _ h0 =>
        simp [loopStep, run_F4l1, hx, hr, hi, h2, w1]
        try exact Z_loop_cong (by simp [m1fr])
    · have e1 : addN l ns[i] = l ++ [ns[i]] := by unfold addN; rw [if_neg hm]
      rw [e1]
      obtain ⟨v', σ', k1, k2⟩ := m1_loop hx hr hns n (i + 1) (.gsl (strC (l ++ [ns[i]])) (l ++ [ns[i]]).length 1 1) [.cells x, .tip (l ++ [ns[i]]).length] (l ++ [ns[i]]) (.b _ (by simp)) (by omega) (by simp; omega)
      refine ⟨v', σ', k1, ?_⟩
      rw [decide_eq_false hm] at h2
      rw [← k2, Z_loop_eq]
      have r2 : roomFor (l.length + 1) 16 = true := by simp [roomFor]; omega
      simp only [m2fr, List.cons_append, List.nil_append, show ((0 : Nat) : Int) = 0 from rfl] at h2
      cases hs with
      | a =>
        simp [loopStep, run_F4l1, hx, hr, hi, h2, w1, hc2, ha, appendV, srcV, roomFor]
        try exact Z_loop_cong (by simp [m1fr, hx, hr, strC_one])
      | b _ h0 =>
        simp [loopStep, run_F4l1, hx, hr, hi, h2, w1, hc2, ha, appendV, srcV, r2]
        try exact Z_loop_cong (by simp [m1fr, hx, hr, strC_app, strC_one])
end
end Go.Pm
