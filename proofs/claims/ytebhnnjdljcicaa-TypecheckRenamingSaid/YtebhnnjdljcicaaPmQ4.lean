/- Chapter 14: the generator of expressions. -/
import Derived.Test.YtebhnnjdljcicaaPmQ3
set_option linter.unusedSimpArgs false
set_option linter.unusedVariables false
namespace Go.Pm
open F
def src (xs : List Int) (i : Int) : S := [.cells [.dat (intsD xs), .int i]]
def cst : Nat → Int
  | 0 => 4
  | d + 1 => 4 + 2 * cst d
theorem cst_pos (d : Nat) : 4 ≤ cst d := by
  induction d with
  | zero => simp [cst]
  | succ d ih => simp only [cst]; omega
/-- A call of expr comes to some expression. -/
def Gives (xs : List Int) (want : Int) (d : Int) (i c : Int) : Prop :=
  ∃ (e : E) (i' : Int), (i + e.size ≤ i' ∧ e.ok) ∧ i' ≤ i + c ∧ Z prog (.call 24 [.ptr 0 0, .int want, .int d] (src xs i)) = some (.ret e.node (src xs i'))
/-- The wish after the draw of a flip. -/
def Flip (xs : List Int) (i want w : Int) : Prop := (nextV xs i 24 = 5 ∧ want = 3 - w) ∨ (nextV xs i 24 ≠ 5 ∧ want = w)
section
variable {xs : List Int} {i want d c : Int}
theorem g_bool (hx : ∀ x ∈ xs, I64 x) (hi : 0 ≤ i) (hb : i < 2^61) (hw : Flip xs i want 2) (hc : 4 ≤ c) (h : d < 1 ∨ nextV xs (i + 1) 6 = 0) : Gives xs want d i c := by
  have n1 := next_Z (i := i) (m := 24) hx hi (by omega) (by omega)
  have n2 := next_Z (i := i + 1) (m := 6) hx (by omega) (by omega) (by omega)
  have n3 := next_Z (i := i + 1 + 1) (m := 2) hx (by omega) (by omega) (by omega)
  refine ⟨.bool (nextV xs (i + 1 + 1) 2), i + 1 + 1 + 1, ⟨by simp only [size_bool, size_un, size_bin, size_field, size_var, size_name, size_int]; omega, trivial⟩, by omega, ?_⟩
  refine Z_call (pf := F24) rfl ?_
  rcases hw with ⟨h5, rfl⟩ | ⟨h5, rfl⟩ <;> by_cases hd : d < 1
  · simp [F24, src, n1, n2, n3, h5, hd, wrap64]
  · have h0 := h.resolve_left hd
    simp [F24, src, n1, n2, n3, h5, hd, h0, wrap64]
  · simp [F24, src, n1, n2, n3, h5, hd, wrap64]
  · have h0 := h.resolve_left hd
    simp [F24, src, n1, n2, n3, h5, hd, h0, wrap64]
theorem g_not {c' : Int} (hx : ∀ x ∈ xs, I64 x) (hi : 0 ≤ i) (hb : i < 2^61) (hd : 1 ≤ d) (hd' : d ≤ 1000) (hw : Flip xs i want 2) (hc : 4 + c' ≤ c) (hk : nextV xs (i + 1) 6 = 1) (ih : Gives xs 2 (d - 1) (i + 1 + 1) c') : Gives xs want d i c := by
  have n1 := next_Z (i := i) (m := 24) hx hi (by omega) (by omega)
  have n2 := next_Z (i := i + 1) (m := 6) hx (by omega) (by omega) (by omega)
  obtain ⟨e, i', h1, h2, h3⟩ := ih
  simp only [src] at h3
  refine ⟨.un true false e, i', ⟨by simp only [size_bool, size_un, size_bin, size_field, size_var, size_name, size_int]; omega, h1.2⟩, by omega, ?_⟩
  refine Z_call (pf := F24) rfl ?_
  have hd1 : ¬ d < 1 := by omega
  have w1 := wrap64 (d - 1) (by omega)
  rcases hw with ⟨h5, rfl⟩ | ⟨h5, rfl⟩
  · simp [F24, src, n1, n2, h3, h5, hd1, hk, w1, wrap64]
  · simp [F24, src, n1, n2, h3, h5, hd1, hk, w1, wrap64]
theorem g_logic {c' : Int} (hx : ∀ x ∈ xs, I64 x) (hi : 0 ≤ i) (hb : i + c < 2^61) (hd : 1 ≤ d) (hd' : d ≤ 1000) (hw : Flip xs i want 2) (hc : 4 + 2 * c' ≤ c) (hc' : 0 ≤ c') (hk : nextV xs (i + 1) 6 = 2)
    (ih : ∀ j, i ≤ j → j ≤ i + 3 + c' → Gives xs 2 (d - 1) j c') : Gives xs want d i c := by
  have n1 := next_Z (i := i) (m := 24) hx hi (by omega) (by omega)
  have n2 := next_Z (i := i + 1) (m := 6) hx (by omega) (by omega) (by omega)
  obtain ⟨s, hs, n3⟩ := pick_Z (i := i + 1 + 1) (ss := [⟨#[38, 38]⟩, ⟨#[124, 124]⟩]) (f := true) hx (by omega) (by omega) (by simp)
  obtain ⟨a, i1, h1, h2, h3⟩ := ih (i + 1 + 1 + 1) (by omega) (by omega)
  obtain ⟨b, i2, h4, h5', h6⟩ := ih i1 (by omega) (by omega)
  obtain ⟨o, rfl⟩ : ∃ o : Bop, s = o.str := by
    simp only [List.mem_cons, List.not_mem_nil, or_false] at hs
    rcases hs with rfl | rfl
    · exact ⟨.and, rfl⟩
    · exact ⟨.or, rfl⟩
  simp only [src] at h3 h6
  simp only [strC, List.map, List.length_cons, List.length_nil] at n3
  refine ⟨.bin true o a b, i2, ⟨by simp only [size_bool, size_un, size_bin, size_field, size_var, size_name, size_int]; omega, ⟨h1.2, h4.2⟩⟩, by omega, ?_⟩
  refine Z_call (pf := F24) rfl ?_
  have hd1 : ¬ d < 1 := by omega
  have w1 := wrap64 (d - 1) (by omega)
  rcases hw with ⟨h5, rfl⟩ | ⟨h5, rfl⟩
  · simp [F24, src, n1, n2, n3, h3, h6, h5, hd1, hk, w1, wrap64]
  · simp [F24, src, n1, n2, n3, h3, h6, h5, hd1, hk, w1, wrap64]
theorem g_cmp {c' : Int} (hx : ∀ x ∈ xs, I64 x) (hi : 0 ≤ i) (hb : i + c < 2^61) (hd : 1 ≤ d) (hd' : d ≤ 1000) (hw : Flip xs i want 2) (hc : 4 + 2 * c' ≤ c) (hc' : 0 ≤ c') (hk : 3 ≤ nextV xs (i + 1) 6)
    (ih : ∀ j, i ≤ j → j ≤ i + 3 + c' → Gives xs 1 (d - 1) j c') : Gives xs want d i c := by
  have n1 := next_Z (i := i) (m := 24) hx hi (by omega) (by omega)
  have n2 := next_Z (i := i + 1) (m := 6) hx (by omega) (by omega) (by omega)
  obtain ⟨s, hs, n3⟩ := pick_Z (i := i + 1 + 1) (ss := [⟨#[60]⟩, ⟨#[60, 61]⟩, ⟨#[62]⟩, ⟨#[62, 61]⟩, ⟨#[61, 61]⟩, ⟨#[33, 61]⟩]) (f := true) hx (by omega) (by omega) (by simp)
  obtain ⟨a, i1, h1, h2, h3⟩ := ih (i + 1 + 1 + 1) (by omega) (by omega)
  obtain ⟨b, i2, h4, h5', h6⟩ := ih i1 (by omega) (by omega)
  obtain ⟨o, rfl⟩ : ∃ o : Bop, s = o.str := by
    simp only [List.mem_cons, List.not_mem_nil, or_false] at hs
    rcases hs with rfl | rfl | rfl | rfl | rfl | rfl
    · exact ⟨.lt, rfl⟩
    · exact ⟨.le, rfl⟩
    · exact ⟨.gt, rfl⟩
    · exact ⟨.ge, rfl⟩
    · exact ⟨.eq, rfl⟩
    · exact ⟨.ne, rfl⟩
  simp only [src] at h3 h6
  simp only [strC, List.map, List.length_cons, List.length_nil] at n3
  refine ⟨.bin true o a b, i2, ⟨by simp only [size_bool, size_un, size_bin, size_field, size_var, size_name, size_int]; omega, ⟨h1.2, h4.2⟩⟩, by omega, ?_⟩
  refine Z_call (pf := F24) rfl ?_
  have hd1 : ¬ d < 1 := by omega
  have w1 := wrap64 (d - 1) (by omega)
  have k0 : ¬ nextV xs (i + 1) 6 = 0 := by omega
  have k1 : ¬ nextV xs (i + 1) 6 = 1 := by omega
  have k2 : ¬ nextV xs (i + 1) 6 = 2 := by omega
  rcases hw with ⟨h5, rfl⟩ | ⟨h5, rfl⟩
  · simp [F24, src, n1, n2, n3, h3, h6, h5, hd1, k0, k1, k2, w1, wrap64]
  · simp [F24, src, n1, n2, n3, h3, h6, h5, hd1, k0, k1, k2, w1, wrap64]
theorem g_neg {c' : Int} (hx : ∀ x ∈ xs, I64 x) (hi : 0 ≤ i) (hb : i < 2^61) (hd : 1 ≤ d) (hd' : d ≤ 1000) (hw : Flip xs i want 1) (hc : 4 + c' ≤ c) (hk : nextV xs (i + 1) 6 = 2) (ih : Gives xs 1 (d - 1) (i + 1 + 1) c') : Gives xs want d i c := by
  have n1 := next_Z (i := i) (m := 24) hx hi (by omega) (by omega)
  have n2 := next_Z (i := i + 1) (m := 6) hx (by omega) (by omega) (by omega)
  obtain ⟨e, i', h1, h2, h3⟩ := ih
  simp only [src] at h3
  refine ⟨.un true true e, i', ⟨by simp only [size_bool, size_un, size_bin, size_field, size_var, size_name, size_int]; omega, h1.2⟩, by omega, ?_⟩
  refine Z_call (pf := F24) rfl ?_
  have hd1 : ¬ d < 1 := by omega
  have w1 := wrap64 (d - 1) (by omega)
  rcases hw with ⟨h5, rfl⟩ | ⟨h5, rfl⟩
  · simp [F24, src, n1, n2, h3, h5, hd1, hk, w1, wrap64]
  · simp [F24, src, n1, n2, h3, h5, hd1, hk, w1, wrap64]
theorem g_field {c' : Int} (hx : ∀ x ∈ xs, I64 x) (hi : 0 ≤ i) (hb : i + c < 2^61) (hd : 1 ≤ d) (hd' : d ≤ 1000) (hw : Flip xs i want 1) (hc : 4 + c' ≤ c) (hc' : 0 ≤ c') (hk : nextV xs (i + 1) 6 = 3) (ih : Gives xs 1 (d - 1) (i + 1 + 1 + 1) c') : Gives xs want d i c := by
  have n1 := next_Z (i := i) (m := 24) hx hi (by omega) (by omega)
  have n2 := next_Z (i := i + 1) (m := 6) hx (by omega) (by omega) (by omega)
  obtain ⟨s, hs, n3⟩ := pick_Z (i := i + 1 + 1) (ss := [⟨#[120]⟩, ⟨#[121]⟩, ⟨#[118, 120]⟩, ⟨#[118, 121]⟩, ⟨#[97]⟩, ⟨#[98]⟩, ⟨#[104, 105, 116]⟩, ⟨#[115, 116, 105, 108, 108]⟩]) (f := true) hx (by omega) (by omega) (by simp)
  obtain ⟨e, i', h1, h2, h3⟩ := ih
  simp only [src] at h3
  simp only [strC, List.map, List.length_cons, List.length_nil] at n3
  refine ⟨.field true s e, i', ⟨by simp only [size_bool, size_un, size_bin, size_field, size_var, size_name, size_int]; omega, h1.2⟩, by omega, ?_⟩
  refine Z_call (pf := F24) rfl ?_
  have hd1 : ¬ d < 1 := by omega
  have w1 := wrap64 (d - 1) (by omega)
  rcases hw with ⟨h5, rfl⟩ | ⟨h5, rfl⟩
  · simp [F24, src, n1, n2, n3, h3, h5, hd1, hk, w1, wrap64]
  · simp [F24, src, n1, n2, n3, h3, h5, hd1, hk, w1, wrap64]
theorem g_var (hx : ∀ x ∈ xs, I64 x) (hi : 0 ≤ i) (hb : i < 2^61) (hw : Flip xs i want 1) (hc : 4 ≤ c) (h : d < 1 ∨ nextV xs (i + 1) 6 < 2) (hk : (nextV xs (i + 1) 6).tmod 3 = 0) : Gives xs want d i c := by
  have n1 := next_Z (i := i) (m := 24) hx hi (by omega) (by omega)
  have n2 := next_Z (i := i + 1) (m := 6) hx (by omega) (by omega) (by omega)
  have n3 := next_Z (i := i + 1 + 1) (m := 20) hx (by omega) (by omega) (by omega)
  have l3 := nextV_lt (i := i + 1 + 1) (m := 20) hx (by omega)
  have n4 := name_Z (n := nextV xs (i + 1 + 1) 20) (by unfold I64; omega)
  refine ⟨.var (nameS (around (nextV xs (i + 1 + 1) 20) 20)), i + 1 + 1 + 1, ⟨by simp only [size_bool, size_un, size_bin, size_field, size_var, size_name, size_int]; omega, nameS_size _ (around_lt (by unfold I64; omega) (by omega))⟩, by omega, ?_⟩
  refine Z_call (pf := F24) rfl ?_
  rcases hw with ⟨h5, rfl⟩ | ⟨h5, rfl⟩ <;> by_cases hd : d < 1
  · simp [F24, src, n1, n2, n3, n4, h5, hd, hk, wrap64]
  · have h0 := h.resolve_left hd
    simp [F24, src, n1, n2, n3, n4, h5, hd, h0, hk, wrap64]
  · simp [F24, src, n1, n2, n3, n4, h5, hd, hk, wrap64]
  · have h0 := h.resolve_left hd
    simp [F24, src, n1, n2, n3, n4, h5, hd, h0, hk, wrap64]
theorem g_name (hx : ∀ x ∈ xs, I64 x) (hi : 0 ≤ i) (hb : i < 2^61) (hw : Flip xs i want 1) (hc : 4 ≤ c) (h : d < 1 ∨ nextV xs (i + 1) 6 < 2) (hk : (nextV xs (i + 1) 6).tmod 3 = 1) : Gives xs want d i c := by
  have n1 := next_Z (i := i) (m := 24) hx hi (by omega) (by omega)
  have n2 := next_Z (i := i + 1) (m := 6) hx (by omega) (by omega) (by omega)
  obtain ⟨s, hs, n3⟩ := pick_Z (i := i + 1 + 1) (ss := [⟨#[115, 101, 108, 102]⟩, ⟨#[111, 116, 104, 101, 114]⟩, ⟨#[116, 105, 99, 107]⟩]) (f := true) hx (by omega) (by omega) (by simp)
  simp only [strC, List.map, List.length_cons, List.length_nil] at n3
  refine ⟨.name s, i + 1 + 1 + 1, ⟨by simp only [size_bool, size_un, size_bin, size_field, size_var, size_name, size_int]; omega, trivial⟩, by omega, ?_⟩
  refine Z_call (pf := F24) rfl ?_
  rcases hw with ⟨h5, rfl⟩ | ⟨h5, rfl⟩ <;> by_cases hd : d < 1
  · simp [F24, src, n1, n2, n3, h5, hd, hk, wrap64]
  · have h0 := h.resolve_left hd
    simp [F24, src, n1, n2, n3, h5, hd, h0, hk, wrap64]
  · simp [F24, src, n1, n2, n3, h5, hd, hk, wrap64]
  · have h0 := h.resolve_left hd
    simp [F24, src, n1, n2, n3, h5, hd, h0, hk, wrap64]
theorem g_int (hx : ∀ x ∈ xs, I64 x) (hi : 0 ≤ i) (hb : i < 2^61) (hw : Flip xs i want 1) (hc : 4 ≤ c) (hd : d < 1) (hk0 : (nextV xs (i + 1) 6).tmod 3 ≠ 0) (hk1 : (nextV xs (i + 1) 6).tmod 3 ≠ 1) : Gives xs want d i c := by
  have n1 := next_Z (i := i) (m := 24) hx hi (by omega) (by omega)
  have n2 := next_Z (i := i + 1) (m := 6) hx (by omega) (by omega) (by omega)
  have n3 := next_Z (i := i + 1 + 1) (m := 100) hx (by omega) (by omega) (by omega)
  refine ⟨.int (nextV xs (i + 1 + 1) 100), i + 1 + 1 + 1, ⟨by simp only [size_bool, size_un, size_bin, size_field, size_var, size_name, size_int]; omega, trivial⟩, by omega, ?_⟩
  refine Z_call (pf := F24) rfl ?_
  rcases hw with ⟨h5, rfl⟩ | ⟨h5, rfl⟩
  · simp [F24, src, n1, n2, n3, h5, hd, hk0, hk1, wrap64]
  · simp [F24, src, n1, n2, n3, h5, hd, hk0, hk1, wrap64]
theorem g_arith {c' : Int} (hx : ∀ x ∈ xs, I64 x) (hi : 0 ≤ i) (hb : i + c < 2^61) (hd : 1 ≤ d) (hd' : d ≤ 1000) (hw : Flip xs i want 1) (hc : 4 + 2 * c' ≤ c) (hc' : 0 ≤ c') (hk : 4 ≤ nextV xs (i + 1) 6)
    (ih : ∀ j, i ≤ j → j ≤ i + 3 + c' → Gives xs 1 (d - 1) j c') : Gives xs want d i c := by
  have n1 := next_Z (i := i) (m := 24) hx hi (by omega) (by omega)
  have n2 := next_Z (i := i + 1) (m := 6) hx (by omega) (by omega) (by omega)
  obtain ⟨s, hs, n3⟩ := pick_Z (i := i + 1 + 1) (ss := [⟨#[43]⟩, ⟨#[45]⟩, ⟨#[42]⟩, ⟨#[47]⟩]) (f := true) hx (by omega) (by omega) (by simp)
  obtain ⟨a, i1, h1, h2, h3⟩ := ih (i + 1 + 1 + 1) (by omega) (by omega)
  obtain ⟨b, i2, h4, h5', h6⟩ := ih i1 (by omega) (by omega)
  obtain ⟨o, rfl⟩ : ∃ o : Bop, s = o.str := by
    simp only [List.mem_cons, List.not_mem_nil, or_false] at hs
    rcases hs with rfl | rfl | rfl | rfl
    · exact ⟨.add, rfl⟩
    · exact ⟨.sub, rfl⟩
    · exact ⟨.mul, rfl⟩
    · exact ⟨.div, rfl⟩
  simp only [src] at h3 h6
  simp only [strC, List.map, List.length_cons, List.length_nil] at n3
  refine ⟨.bin true o a b, i2, ⟨by simp only [size_bool, size_un, size_bin, size_field, size_var, size_name, size_int]; omega, ⟨h1.2, h4.2⟩⟩, by omega, ?_⟩
  refine Z_call (pf := F24) rfl ?_
  have hd1 : ¬ d < 1 := by omega
  have w1 := wrap64 (d - 1) (by omega)
  have k0 : ¬ nextV xs (i + 1) 6 < 2 := by omega
  have k1 : ¬ nextV xs (i + 1) 6 = 2 := by omega
  have k2 : ¬ nextV xs (i + 1) 6 = 3 := by omega
  rcases hw with ⟨h5, rfl⟩ | ⟨h5, rfl⟩
  · simp [F24, src, n1, n2, n3, h3, h6, h5, hd1, k0, k1, k2, w1, wrap64]
  · simp [F24, src, n1, n2, n3, h3, h6, h5, hd1, k0, k1, k2, w1, wrap64]
theorem flip_1 (hx : ∀ x ∈ xs, I64 x) (hw : want = 1 ∨ want = 2) : Flip xs i want 1 ∨ Flip xs i want 2 := by
  unfold Flip
  by_cases h : nextV xs i 24 = 5 <;> rcases hw with rfl | rfl <;> simp [h]
end
theorem expr_Z {xs : List Int} (hx : ∀ x ∈ xs, I64 x) : ∀ (n : Nat) (want i : Int), n ≤ 1000 → (want = 1 ∨ want = 2) → 0 ≤ i → i + cst n < 2^61 → Gives xs want n i (cst n)
  | 0, want, i, _, hw, hi, hb => by
    have hl := nextV_lt (i := i + 1) (m := 6) hx (by omega)
    rcases flip_1 (i := i) hx hw with h | h
    · by_cases h0 : (nextV xs (i + 1) 6).tmod 3 = 0
      · exact g_var hx hi (by simp [cst] at hb; omega) h (by simp [cst]) (Or.inl (by omega)) h0
      by_cases h1 : (nextV xs (i + 1) 6).tmod 3 = 1
      · exact g_name hx hi (by simp [cst] at hb; omega) h (by simp [cst]) (Or.inl (by omega)) h1
      exact g_int hx hi (by simp [cst] at hb; omega) h (by simp [cst]) (by omega) h0 h1
    · exact g_bool hx hi (by simp [cst] at hb; omega) h (by simp [cst]) (Or.inl (by omega))
  | n + 1, want, i, hn, hw, hi, hb => by
    have hl := nextV_lt (i := i + 1) (m := 6) hx (by omega)
    have hp := cst_pos n
    have hq : cst (n + 1) = 4 + 2 * cst n := rfl
    have hc1 : ((n + 1 : Nat) : Int) - 1 = n := by omega
    have ih : ∀ w j, (w = 1 ∨ w = 2) → i ≤ j → j ≤ i + 3 + cst n → Gives xs w (((n + 1 : Nat) : Int) - 1) j (cst n) := fun w j hw' h1 h2 => by
      rw [hc1]
      exact expr_Z hx n w j (by omega) hw' (by omega) (by omega)
    have hb1 : i < 2^61 := by omega
    have hd : 1 ≤ ((n + 1 : Nat) : Int) := by omega
    have hd' : ((n + 1 : Nat) : Int) ≤ 1000 := by omega
    rcases flip_1 (i := i) hx hw with h | h
    · by_cases h2 : nextV xs (i + 1) 6 < 2
      · rcases (show nextV xs (i + 1) 6 = 0 ∨ nextV xs (i + 1) 6 = 1 by omega) with h0 | h0
        · exact g_var hx hi hb1 h (by omega) (Or.inr h2) (by rw [h0]; rfl)
        · exact g_name hx hi hb1 h (by omega) (Or.inr h2) (by rw [h0]; rfl)
      by_cases h3 : nextV xs (i + 1) 6 = 2
      · exact g_neg (c' := cst n) hx hi hb1 hd hd' h (by omega) h3 (ih 1 _ (Or.inl rfl) (by omega) (by omega))
      by_cases h4 : nextV xs (i + 1) 6 = 3
      · exact g_field (c' := cst n) hx hi hb hd hd' h (by omega) (by omega) h4 (ih 1 _ (Or.inl rfl) (by omega) (by omega))
      exact g_arith (c' := cst n) hx hi hb hd hd' h (by omega) (by omega) (by omega) (fun j => ih 1 j (Or.inl rfl))
    · by_cases h0 : nextV xs (i + 1) 6 = 0
      · exact g_bool hx hi hb1 h (by omega) (Or.inr h0)
      by_cases h1 : nextV xs (i + 1) 6 = 1
      · exact g_not (c' := cst n) hx hi hb1 hd hd' h (by omega) h1 (ih 2 _ (Or.inr rfl) (by omega) (by omega))
      by_cases h2 : nextV xs (i + 1) 6 = 2
      · exact g_logic (c' := cst n) hx hi hb hd hd' h (by omega) (by omega) h2 (fun j => ih 2 j (Or.inr rfl))
      exact g_cmp (c' := cst n) hx hi hb hd hd' h (by omega) (by omega) (by omega) (fun j => ih 1 j (Or.inl rfl))
end Go.Pm
