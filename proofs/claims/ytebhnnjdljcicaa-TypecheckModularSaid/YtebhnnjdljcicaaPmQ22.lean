/- Chapter 14: the law of the limit. -/
import Derived.Test.YtebhnnjdljcicaaPmQ21
set_option linter.unusedSimpArgs false
set_option linter.unusedVariables false
namespace Go.Pm
open F
/-- n assignments from number j on; their names. -/
def lbs (nm : Nat → ByteArray) : Nat → Nat → Ss
  | _, 0 => .nil
  | j, n + 1 => .assign true (nm j) (.int j) (lbs nm (j + 1) n)
def lns (nm : Nat → ByteArray) : Nat → Nat → List ByteArray
  | _, 0 => []
  | j, n + 1 => nm j :: lns nm (j + 1) n
section
variable (nm : Nat → ByteArray)
abbrev lnd (i : Nat) : Fo := .cons 1 0 (nm i) true (.cons 8 i ⟨#[]⟩ false .nil .nil) .nil
theorem lbs_snoc : ∀ (n j : Nat), (lbs nm j (n + 1)).fo = (lbs nm j n).fo.app (lnd nm (j + n))
  | 0, j => by simp [lbs, Ss.fo, E.fo]
  | n + 1, j => by
    have ih := lbs_snoc n (j + 1)
    rw [lbs, Ss.fo, ih, lbs, Ss.fo, fo_app_cons, show j + 1 + n = j + (n + 1) by omega]
theorem lns_snoc : ∀ (n j : Nat), lns nm j (n + 1) = lns nm j n ++ [nm (j + n)]
  | 0, j => by simp [lns]
  | n + 1, j => by
    have ih := lns_snoc n (j + 1)
    rw [lns, ih, lns, show j + 1 + n = j + (n + 1) by omega]
    rfl
theorem lns_len : ∀ (n j : Nat), (lns nm j n).length = n
  | 0, j => rfl
  | n + 1, j => by simp [lns, lns_len n]
theorem lbs_len : ∀ (n j : Nat), (lbs nm j n).fo.len = n
  | 0, j => rfl
  | n + 1, j => by simp [lbs, Ss.fo, lbs_len n]
theorem lbs_size : ∀ (n j : Nat), (lbs nm j n).fo.size = 2 * n
  | 0, j => rfl
  | n + 1, j => by simp [lbs, Ss.fo, E.fo, lbs_size n]; omega
theorem lbs_well : ∀ (n j : Nat), (lbs nm j n).well = true
  | 0, j => rfl
  | n + 1, j => by simp [lbs, Ss.well, lbs_well n]
theorem lbs_vars : ∀ (n j : Nat), (lbs nm j n).fo.vars = lns nm j n
  | 0, j => rfl
  | n + 1, j => by simp [lbs, Ss.fo, E.fo, Fo.vars, lbs_vars n, lns]
theorem mem_lns (s : ByteArray) : ∀ (n j : Nat), s ∈ lns nm j n → ∃ i, j ≤ i ∧ i < j + n ∧ s = nm i
  | 0, j, h => by simp [lns] at h
  | n + 1, j, h => by
    rcases List.mem_cons.1 h with h | h
    · exact ⟨j, by omega, by omega, h⟩
    · obtain ⟨i, h1, h2, h3⟩ := mem_lns s n (j + 1) h
      exact ⟨i, by omega, by omega, h3⟩
end
theorem addAll_old : ∀ (xs l : List ByteArray), (∀ x ∈ xs, x ∈ l) → addAll l xs = l
  | [], l, _ => rfl
  | x :: xs, l, h => by
    have hx := h x (List.mem_cons_self ..)
    have : addN l x = l := by unfold addN; rw [if_pos hx]
    show addAll (addN l x) xs = l
    rw [this]
    exact addAll_old xs l fun y hy => h y (List.mem_cons_of_mem _ hy)
theorem addAll_lns (nm : Nat → ByteArray) (k : Nat) (inj : ∀ i j, i < k → j < k → nm i = nm j → i = j) : ∀ (n : Nat), n ≤ k → addAll [] (lns nm 0 n) = lns nm 0 n
  | 0, _ => rfl
  | n + 1, h => by
    rw [lns_snoc, addAll_app, addAll_lns nm k inj n (by omega), Nat.zero_add]
    show addN _ _ = _
    unfold addN
    rw [if_neg fun hm => ?_]
    obtain ⟨i, h1, h2, h3⟩ := mem_lns nm _ n 0 hm
    have := inj n i (by omega) (by omega) h3
    omega
theorem nameS_all : ((List.range 20).all fun a => (List.range 20).all fun b => (nameS (a : Nat) == nameS (b : Nat)) == (a == b)) = true := by kernel_rfl
theorem nameS_inj (a b : Int) (ha : 0 ≤ a ∧ a < 20) (hb : 0 ≤ b ∧ b < 20) (h : nameS a = nameS b) : a = b := by
  have h1 := List.all_eq_true.1 nameS_all a.toNat (List.mem_range.2 (by omega))
  have h2 := List.all_eq_true.1 h1 b.toNat (List.mem_range.2 (by omega))
  rw [show ((a.toNat : Nat) : Int) = a by omega, show ((b.toNat : Nat) : Int) = b by omega, h] at h2
  rw [bytes_beq, decide_eq_true rfl] at h2
  have : (a.toNat == b.toNat) = true := by simpa using h2
  have := eq_of_beq this
  omega
theorem around_id (n : Int) (h : 0 ≤ n ∧ n < 20) : around n 20 = n := by
  unfold around
  rw [if_neg (by omega)]
  exact Int.tmod_eq_of_lt h.1 h.2
theorem tmod_two (a k : Int) (h0 : 0 ≤ a) (h1 : a < 2 * k) : a.tmod k = if a < k then a else a - k := by
  split
  · exact Int.tmod_eq_of_lt h0 (by omega)
  · rw [Int.tmod_eq_emod_of_nonneg h0, ← Int.sub_emod_right, Int.emod_eq_of_lt (by omega) (by omega)]
/-- The i-th name of the law. -/
def limN (k turn : Int) (i : Nat) : ByteArray := nameS (around (((i : Int) + around turn k).tmod k) 20)
theorem limN_inj (k : Nat) (turn : Int) (ht : I64 turn) (hk : k ≤ 20) (i j : Nat) (hi : i < k) (hj : j < k) (h : limN k turn i = limN k turn j) : i = j := by
  have ha := around_lt (n := turn) (m := k) ht (by omega)
  unfold limN at h
  rw [tmod_two _ _ (by omega) (by omega), tmod_two _ _ (by omega) (by omega)] at h
  rw [around_id _ (by split <;> omega), around_id _ (by split <;> omega)] at h
  have := nameS_inj _ _ (by split <;> omega) (by split <;> omega) h
  split at this <;> split at this <;> omega
abbrev lfr (turn k : Int) (w : V) (i : Int) : Fr := [(1, .int turn), (5, .int k), (6, .ptr 0 0), (7, w), (8, .int i)]
abbrev ls1 (pre : Fo) (l : List ByteArray) : S := [.cells [.int 7, .int 0, .str ⟨#[]⟩, .gsl pre.cells pre.len 4 2], .tip l.length, .tip pre.cells.length]
section
variable {turn : Int} {k i : Nat} {pre : Fo} {l : List ByteArray}
theorem l_step0 (ht : I64 turn) (hk : k ≤ 20) (h0 : 0 < k) : Z prog (.loop 0 F6l0 (lfr turn k (.dat (.lit (.slice none 0 0))) 0) [.cells [.int 7, .int 0, .str ⟨#[]⟩, .dat (.lit (.slice none 0 0))]]) =
    Z prog (.loop 0 F6l0 (lfr turn k (.gsl (strC [limN k turn 0]) 1 1 1) 1) (ls1 (lnd (limN k turn) 0) [limN k turn 0])) := by
  have ha := around_lt (n := turn) (m := k) ht (by omega)
  have hz := around_Z (n := turn) (m := k) ht (by omega)
  have w0 := wrap64 (around turn k) (by omega)
  have w1 := wrap64 1 (by omega)
  have hk0 : (k : Int) ≠ 0 := by omega
  have hk0' : k ≠ 0 := by omega
  have hk1 : ¬ (k : Int) < 1 := by omega
  have hm : I64 ((around turn k).tmod k) := by
    rw [Int.tmod_eq_of_lt ha.1 ha.2]; unfold I64; omega
  have hn := name_Z hm
  have e : limN k turn 0 = nameS (around ((around turn k).tmod k) 20) := by simp [limN]
  rw [← e] at hn
  conv => lhs; rw [Z_loop_eq]
  simp [loopStep, run_F6l0, lits, maxI, h0, hz, w0, w1, hk0, hk0', hk1, hn, appendV, srcV, roomFor, strC_one]
  exact Z_loop_cong (by simp [strC_one])
theorem l_step (ht : I64 turn) (hk : k ≤ 20) (hi : i < k) (hi0 : 0 < i) (hp : pre.len < 100) (hl : l.length < 100) : Z prog (.loop 0 F6l0 (lfr turn k (.gsl (strC l) l.length 1 1) i) (ls1 pre l)) =
    Z prog (.loop 0 F6l0 (lfr turn k (.gsl (strC (l ++ [limN k turn i])) (l ++ [limN k turn i]).length 1 1) (i + 1 : Nat)) (ls1 (pre.app (lnd (limN k turn) i)) (l ++ [limN k turn i]))) := by
  have ha := around_lt (n := turn) (m := k) ht (by omega)
  have hz := around_Z (n := turn) (m := k) ht (by omega)
  have w0 := wrap64 (i + around turn k) (by omega)
  have w1 := wrap64 ((i : Int) + 1) (by omega)
  have hk0 : (k : Int) ≠ 0 := by omega
  have hk0' : k ≠ 0 := by omega
  have hk1 : ¬ (k : Int) < 1 := by omega
  have hii : (i : Int) < k := by omega
  have hm : I64 ((i + around turn k).tmod k) := by
    rw [tmod_two _ _ (by omega) (by omega)]; unfold I64; split <;> omega
  have hn := name_Z hm
  rw [show nameS (around ((i + around turn k).tmod k) 20) = limN k turn i from rfl] at hn
  have r1 : roomFor (pre.len + 1) 56 = true := by simp [roomFor]; omega
  have r2 : roomFor (l.length + 1) 16 = true := by simp [roomFor]; omega
  have hc := fo_cells_len pre
  have hc2 := fo_cells_app pre (lnd (limN k turn) i)
  have hc3 := fo_len_app pre (lnd (limN k turn) i)
  simp only [lnd, fo_cells_cons, fo_cells_nil, fo_len_cons, fo_len_nil] at hc2 hc3
  conv => lhs; rw [Z_loop_eq]
  simp [loopStep, run_F6l0, lits, maxI, hi, hii, hz, w0, w1, hk0, hk0', hk1, hn, appendV, srcV, r1, r2, hc]
  exact Z_loop_cong (by simp [strC_app, strC_one, hc2, hc3, hc])
end
end Go.Pm
