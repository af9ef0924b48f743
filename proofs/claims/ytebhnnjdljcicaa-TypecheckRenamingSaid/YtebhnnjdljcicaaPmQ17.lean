/- Chapter 14: the generators of statements. -/
import Derived.Test.YtebhnnjdljcicaaPmQ16
set_option linter.unusedSimpArgs false
set_option linter.unusedVariables false
namespace Go.Pm
open F
def Ss.app : Ss → Ss → Ss
  | .nil, b => b
  | .assign f s e r, b => .assign f s e (r.app b)
  | .store f s x y r, b => .store f s x y (r.app b)
  | .effect f x y r, b => .effect f x y (r.app b)
  | .stop r, b => .stop (r.app b)
  | .cond w f c q r, b => .cond w f c q (r.app b)
  | .block f q r, b => .block f q (r.app b)
theorem ss_app (a b : Ss) : (a.app b).fo = a.fo.app b.fo := by
  induction a <;> simp_all [Ss.app, Ss.fo]
theorem app_ok {a b : Ss} (ha : a.ok) (hb : b.ok) : (a.app b).ok := by
  induction a with
  | nil => exact hb
  | assign f s e r ih => exact ⟨ha.1, ha.2.1, ih ha.2.2⟩
  | store f s x y r ih => exact ⟨ha.1, ha.2.1, ih ha.2.2⟩
  | effect f x y r ih => exact ⟨ha.1, ha.2.1, ih ha.2.2⟩
  | stop r ih => exact ih ha
  | cond w f c q r _ ih => exact ⟨ha.1, ha.2.1, ih ha.2.2⟩
  | block f q r _ ih => exact ⟨ha.1, ih ha.2⟩
theorem app_assoc (a b c : Fo) : (a.app b).app c = a.app (b.app c) := by
  induction a <;> simp_all
theorem app_nil (a : Fo) : a.app .nil = a := by
  induction a <;> simp_all
section
variable {xs : List Int} {i d c : Int}
/-- A call of statement comes to one statement. -/
def GSt (xs : List Int) (d i c : Int) : Prop :=
  ∃ (st : Ss) (k n : Int) (s : ByteArray) (f : Bool) (ks : Fo) (i' : Int), st.fo = .cons k n s f ks .nil ∧ (i + st.fo.size ≤ i' ∧ st.ok) ∧ i' ≤ i + c ∧ Z prog (.call 36 [.ptr 0 0, .int d] (src xs i)) = some (.ret (nd k n s f ks) (src xs i'))
def GBl (xs : List Int) (d i c : Int) : Prop :=
  ∃ (b : Ss) (i' : Int), (i + b.fo.size + 1 ≤ i' ∧ b.ok) ∧ i' ≤ i + c ∧ Z prog (.call 29 [.ptr 0 0, .int d] (src xs i)) = some (.ret (nd 7 0 ⟨#[]⟩ false b.fo) (src xs i'))
theorem s_assign (hx : ∀ x ∈ xs, I64 x) (hi : 0 ≤ i) (hb : i < 2^60) (hc : 62 ≤ c) (h : nextV xs i 9 < 3 ∨ (d < 1 ∧ 6 < nextV xs i 9)) : GSt xs d i c := by
  have n1 := next_Z (i := i) (m := 9) hx hi (by omega) (by omega)
  have n2 := next_Z (i := i + 1) (m := 20) hx (by omega) (by omega) (by omega)
  have l2 := nextV_lt (i := i + 1) (m := 20) hx (by omega)
  have n3 := name_Z (n := nextV xs (i + 1) 20) (by unfold I64; omega)
  have hc3 : cst 3 = 60 := by decide
  obtain ⟨e, i', h1, h2, h3⟩ := expr_Z hx 3 1 (i + 1 + 1) (by omega) (.inl rfl) (by omega) (by rw [hc3]; omega)
  rw [hc3] at h2
  simp only [src] at h3
  simp at h3
  refine ⟨.assign true (nameS (around (nextV xs (i + 1) 20) 20)) e .nil, 1, 0, _, true, e.fo .nil, i', rfl, ?_, by omega, ?_⟩
  · exact ⟨by simp only [Ss.fo, fo_size_cons, fo_size, fo_size_nil]; omega, ⟨nameS_size _ (around_lt (by unfold I64; omega) (by omega)), h1.2, trivial⟩⟩
  refine Z_call (pf := F36) rfl ?_
  rcases h with h | ⟨h, h'⟩
  · have h6 : ¬ 6 < nextV xs i 9 := by omega
    by_cases hd : d < 1 <;> simp [F36, src, n1, n2, n3, h3, h, h6, hd]
  · simp [F36, src, n1, n2, n3, h3, h, h']
theorem s_store (hx : ∀ x ∈ xs, I64 x) (hi : 0 ≤ i) (hb : i < 2^60) (hc : 62 ≤ c) (h : 3 ≤ nextV xs i 9) (h' : nextV xs i 9 < 5) : GSt xs d i c := by
  have n1 := next_Z (i := i) (m := 9) hx hi (by omega) (by omega)
  obtain ⟨s, hs, n2⟩ := pick_Z (i := i + 1) (ss := [⟨#[120]⟩, ⟨#[121]⟩, ⟨#[118, 120]⟩, ⟨#[118, 121]⟩, ⟨#[97]⟩, ⟨#[98]⟩, ⟨#[97]⟩, ⟨#[98]⟩, ⟨#[120]⟩, ⟨#[121]⟩, ⟨#[118, 120]⟩, ⟨#[118, 121]⟩, ⟨#[97]⟩, ⟨#[98]⟩, ⟨#[104, 105, 116]⟩, ⟨#[115, 116, 105, 108, 108]⟩]) (f := true) hx (by omega) (by omega) (by simp)
  have hc2 : cst 2 = 28 := by decide
  obtain ⟨a, i1, h1, h2, h3⟩ := expr_Z hx 2 1 (i + 1 + 1) (by omega) (.inl rfl) (by omega) (by rw [hc2]; omega)
  rw [hc2] at h2
  obtain ⟨b, i2, h4, h5, h6⟩ := expr_Z hx 2 1 i1 (by omega) (.inl rfl) (by omega) (by rw [hc2]; omega)
  rw [hc2] at h5
  simp only [src] at h3 h6
  simp only [strC, List.map, List.length_cons, List.length_nil] at n2
  simp at h3 h6 n2
  refine ⟨.store true s a b .nil, 2, 0, s, true, a.fo (b.fo .nil), i2, rfl, ?_, by omega, ?_⟩
  · exact ⟨by simp only [Ss.fo, fo_size_cons, fo_size, fo_size_nil]; omega, ⟨h1.2, h4.2, trivial⟩⟩
  refine Z_call (pf := F36) rfl ?_
  have k6 : ¬ 6 < nextV xs i 9 := by omega
  have k3 : ¬ nextV xs i 9 < 3 := by omega
  by_cases hd : d < 1 <;> simp [F36, src, n1, n2, h3, h6, h', k6, k3, hd]
theorem s_effect (hx : ∀ x ∈ xs, I64 x) (hi : 0 ≤ i) (hb : i < 2^60) (hc : 62 ≤ c) (h : nextV xs i 9 = 5) : GSt xs d i c := by
  have n1 := next_Z (i := i) (m := 9) hx hi (by omega) (by omega)
  have hc2 : cst 2 = 28 := by decide
  obtain ⟨a, i1, h1, h2, h3⟩ := expr_Z hx 2 1 (i + 1) (by omega) (.inl rfl) (by omega) (by rw [hc2]; omega)
  rw [hc2] at h2
  obtain ⟨b, i2, h4, h5, h6⟩ := expr_Z hx 2 1 i1 (by omega) (.inl rfl) (by omega) (by rw [hc2]; omega)
  rw [hc2] at h5
  simp only [src] at h3 h6
  simp at h3 h6
  refine ⟨.effect true a b .nil, 5, 0, _, true, a.fo (b.fo .nil), i2, rfl, ?_, by omega, ?_⟩
  · exact ⟨by simp only [Ss.fo, fo_size_cons, fo_size, fo_size_nil]; omega, ⟨h1.2, h4.2, trivial⟩⟩
  refine Z_call (pf := F36) rfl ?_
  by_cases hd : d < 1 <;> simp [F36, src, n1, h3, h6, h, hd]
theorem s_stop (hx : ∀ x ∈ xs, I64 x) (hi : 0 ≤ i) (hb : i < 2^60) (hc : 62 ≤ c) (h : nextV xs i 9 = 6) : GSt xs d i c := by
  have n1 := next_Z (i := i) (m := 9) hx hi (by omega) (by omega)
  refine ⟨.stop .nil, 6, 0, _, false, .nil, i + 1, rfl, ⟨by simp [Ss.fo], trivial⟩, by omega, ?_⟩
  refine Z_call (pf := F36) rfl ?_
  by_cases hd : d < 1 <;> simp [F36, src, n1, h, hd]
theorem s_if {c' : Int} (hx : ∀ x ∈ xs, I64 x) (hi : 0 ≤ i) (hb : i + c < 2^60) (hc : 30 + 2 * c' ≤ c) (hc' : 0 ≤ c') (hd : 1 ≤ d) (hd' : d < 100) (h : nextV xs i 9 = 7) (ih : ∀ j, i ≤ j → j ≤ i + 29 + c' → GBl xs (d - 1) j c') : GSt xs d i c := by
  have n1 := next_Z (i := i) (m := 9) hx hi (by omega) (by omega)
  have hc2 : cst 2 = 28 := by decide
  obtain ⟨e, i1, h1, h2, h3⟩ := expr_Z hx 2 2 (i + 1) (by omega) (.inr rfl) (by omega) (by rw [hc2]; omega)
  rw [hc2] at h2
  obtain ⟨a, i2, h4, h5, h6⟩ := ih i1 (by omega) (by omega)
  obtain ⟨b, i3, h7, h8, h9⟩ := ih i2 (by omega) (by omega)
  simp only [src] at h3 h6 h9
  simp at h3 h6 h9
  refine ⟨.cond false true e (.block false a (.block false b .nil)) .nil, 3, 0, _, true, e.fo (.cons 7 0 ⟨#[]⟩ false a.fo (.cons 7 0 ⟨#[]⟩ false b.fo .nil)), i3, rfl, ?_, by omega, ?_⟩
  · exact ⟨by simp only [Ss.fo, fo_size_cons, fo_size, fo_size_nil]; omega, ⟨h1.2, ⟨h4.2, h7.2, trivial⟩, trivial⟩⟩
  refine Z_call (pf := F36) rfl ?_
  have hd1 : ¬ d < 1 := by omega
  have w1 := wrap64 (d - 1) (by omega)
  simp [F36, src, n1, h3, h6, h9, h, hd1, w1]
theorem s_while {c' : Int} (hx : ∀ x ∈ xs, I64 x) (hi : 0 ≤ i) (hb : i + c < 2^60) (hc : 30 + 2 * c' ≤ c) (hc' : 0 ≤ c') (hd : 1 ≤ d) (hd' : d < 100) (h : 8 ≤ nextV xs i 9) (ih : ∀ j, i ≤ j → j ≤ i + 29 + c' → GBl xs (d - 1) j c') : GSt xs d i c := by
  have n1 := next_Z (i := i) (m := 9) hx hi (by omega) (by omega)
  have hc2 : cst 2 = 28 := by decide
  obtain ⟨e, i1, h1, h2, h3⟩ := expr_Z hx 2 2 (i + 1) (by omega) (.inr rfl) (by omega) (by rw [hc2]; omega)
  rw [hc2] at h2
  obtain ⟨a, i2, h4, h5, h6⟩ := ih i1 (by omega) (by omega)
  simp only [src] at h3 h6
  simp at h3 h6
  refine ⟨.cond true true e (.block false a .nil) .nil, 4, 0, _, true, e.fo (.cons 7 0 ⟨#[]⟩ false a.fo .nil), i2, rfl, ?_, by omega, ?_⟩
  · exact ⟨by simp only [Ss.fo, fo_size_cons, fo_size, fo_size_nil]; omega, ⟨h1.2, ⟨h4.2, trivial⟩, trivial⟩⟩
  refine Z_call (pf := F36) rfl ?_
  have hd1 : ¬ d < 1 := by omega
  have w1 := wrap64 (d - 1) (by omega)
  have k3 : ¬ nextV xs i 9 < 3 := by omega
  have k5 : ¬ nextV xs i 9 < 5 := by omega
  have k5' : ¬ nextV xs i 9 = 5 := by omega
  have k6' : ¬ nextV xs i 9 = 6 := by omega
  have k7' : ¬ nextV xs i 9 = 7 := by omega
  simp [F36, src, n1, h3, h6, k3, k5, k5', k6', k7', hd1, w1]
end
end Go.Pm
