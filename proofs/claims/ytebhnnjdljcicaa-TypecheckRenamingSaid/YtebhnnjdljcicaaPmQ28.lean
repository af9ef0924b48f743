/- Chapter 14: the law of renaming: the renamed tree. -/
import Derived.Test.YtebhnnjdljcicaaPmQ27
import Derived.Test.YtebhnnjdljcicaaPmQ21
set_option linter.unusedSimpArgs false
set_option linter.unusedVariables false
namespace Go.Pm
open F
section
variable {d : ByteArray} {k n k1 n1 : Int} {s s1 : ByteArray} {f fl : Bool} {ks pre : Fo} {i N : Nat} {cs r : List D} {x : D}
abbrev rnX (s : ByteArray) (d : ByteArray) (k : Int) : ByteArray := if k = 1 ∨ k = 10 then s ++ d else s
abbrev R0 (k n : Int) (s : ByteArray) (x : D) (s' : ByteArray) : S := [boxO k n s x, boxO 0 0 ⟨#[]⟩ (.lit (.slice none 0 0)), boxO k n s' (.lit (.slice none 0 0))]
abbrev R1 (k n : Int) (s : ByteArray) (x : D) (s' : ByteArray) (pre : Fo) : S := [boxO k n s x, boxO 0 0 ⟨#[]⟩ (.lit (.slice none 0 0)), .cells [.int k, .int n, .str s', .gsl pre.cells pre.len 4 3], .tip pre.cells.length]
abbrev rnfr (d : ByteArray) (i : Nat) : Fr := [(1, .str d), (2, .ptr 0 0), (4, .ptr 1 0), (5, .ptr 2 0), (6, .int i)]
theorem rn_step0 {s' : ByteArray} (hc : cs.drop 0 = .lit (.int .i64 k1) :: .lit (.int .i64 n1) :: .lit (.string s1) :: kd f ks.len ks.cells :: r) (hi : 0 < N) (hN : N < 2^30) {s2 : ByteArray} {ks2 : Fo}
    (hw : Z prog (.call 21 [nd k1 n1 s1 f ks, .str d] []) = some (.ret (nd k1 n1 s2 false ks2) [])) :
    Z prog (.loop 0 F21l0 (rnfr d 0) (R0 k n s (.sl cs N fl) s')) = Z prog (.loop 0 F21l0 (rnfr d 1) (R1 k n s (.sl cs N fl) s' (.cons k1 n1 s2 false ks2 .nil))) := by
  have h4 := cut4 hc
  have w1 := wrap64 1 (by omega)
  have hi' : (0 : Int) < N := by omega
  conv => lhs; rw [Z_loop_eq]
  simp [loopStep, run_F21l0, hi, hi', sliceAddr, h4, hw, w1, V.len, boxO, appendV, srcV, roomFor]
  try exact Z_loop_cong (by simp [boxO])
theorem rn_step1 {s' : ByteArray} (hc : cs.drop (i * 4) = .lit (.int .i64 k1) :: .lit (.int .i64 n1) :: .lit (.string s1) :: kd f ks.len ks.cells :: r) (hi : i < N) (hN : N < 2^30) (hp : pre.len < 2^30) {s2 : ByteArray} {ks2 : Fo}
    (hw : Z prog (.call 21 [nd k1 n1 s1 f ks, .str d] []) = some (.ret (nd k1 n1 s2 false ks2) [])) :
    Z prog (.loop 0 F21l0 (rnfr d i) (R1 k n s (.sl cs N fl) s' pre)) = Z prog (.loop 0 F21l0 (rnfr d (i + 1)) (R1 k n s (.sl cs N fl) s' (pre.app (.cons k1 n1 s2 false ks2 .nil)))) := by
  have h4 := cut4 hc
  have w1 := wrap64 ((i : Int) + 1) (by omega)
  have hi' : (i : Int) < N := by omega
  have r1 : roomFor (pre.len + 1) 56 = true := by simp [roomFor]; omega
  have hl := fo_cells_len pre
  have hl2 := fo_cells_app pre (.cons k1 n1 s2 false ks2 .nil)
  have hl3 := fo_len_app pre (.cons k1 n1 s2 false ks2 .nil)
  simp only [fo_cells_cons, fo_cells_nil, fo_len_cons, fo_len_nil] at hl2 hl3
  conv => lhs; rw [Z_loop_eq]
  simp [loopStep, run_F21l0, hi, hi', sliceAddr, h4, hw, w1, V.len, boxO, appendV, srcV, r1, hl]
  try exact Z_loop_cong (by simp [boxO, hl, hl2, hl3])
theorem rn_end0 {s' : ByteArray} : Z prog (.loop 0 F21l0 (rnfr d 0) (R0 k n s (.lit (.slice none 0 0)) s')) = some (.out (.exit 0) (rnfr d 0 ++ [(31, .bool false)]) (R0 k n s (.lit (.slice none 0 0)) s')) := by
  rw [Z_loop_eq]
  simp [loopStep, run_F21l0, boxO, V.len]
theorem rn_end1 {s' : ByteArray} : Z prog (.loop 0 F21l0 (rnfr d N) (R1 k n s (.sl cs N fl) s' pre)) = some (.out (.exit 0) (rnfr d N ++ [(31, .bool false)]) (R1 k n s (.sl cs N fl) s' pre)) := by
  rw [Z_loop_eq]
  simp [loopStep, run_F21l0, boxO, V.len]
theorem rn_nil (hs : s.size ≤ 100 ∨ (k ≠ 1 ∧ k ≠ 10)) (hd : d.size ≤ 100) : Z prog (.call 21 [nd k n s f .nil, .str d] []) = some (.ret (nd k n (rnX s d k) false .nil) []) := by
  refine Z_call (pf := F21) rfl ?_
  have h := rn_end0 (d := d) (k := k) (n := n) (s := s) (s' := rnX s d k)
  have hz : ∀ h : s.size ≤ 100, ¬ (((s.size : Nat) : Int) + d.size > 9223372036854775807) := fun h => by omega
  simp only [rnfr, R0, boxO, List.cons_append, List.nil_append, show ((0 : Nat) : Int) = 0 from rfl, rnX] at h
  by_cases h1 : k = 1
  · have hz' : ¬ (9223372036854775807 < ((s.size : Nat) : Int) + d.size) := by omega
    simp [h1] at h
    simp [F21, h, h1, hz', show IntKind.i64.max = 9223372036854775807 from by decide]
  · by_cases h10 : k = 10
    · have hz' : ¬ (9223372036854775807 < ((s.size : Nat) : Int) + d.size) := by omega
      simp [h10] at h
      simp [F21, h, h10, hz', show IntKind.i64.max = 9223372036854775807 from by decide]
    · simp [h1, h10] at h
      simp [F21, h, h1, h10]
theorem rn_cons (hs : s.size ≤ 100 ∨ (k ≠ 1 ∧ k ≠ 10)) (hd : d.size ≤ 100) {ks' : Fo} (hk : ks.len ≠ 0) (hk' : ks'.len ≠ 0)
    (h : ∀ s', Z prog (.loop 0 F21l0 (rnfr d 0) (R0 k n s (.sl ks.cells ks.len f) s')) = some (.out (.exit 0) (rnfr d ks.len ++ [(31, .bool false)]) (R1 k n s (.sl ks.cells ks.len f) s' ks'))) :
    Z prog (.call 21 [nd k n s f ks, .str d] []) = some (.ret (nd k n (rnX s d k) false ks') []) := by
  obtain ⟨q, hq⟩ : ∃ q, ks.len = q + 1 := ⟨ks.len - 1, by omega⟩
  obtain ⟨q', hq'⟩ : ∃ q, ks'.len = q + 1 := ⟨ks'.len - 1, by omega⟩
  have h := h (rnX s d k)
  refine Z_call (pf := F21) rfl ?_
  simp only [rnfr, R0, R1, boxO, List.cons_append, List.nil_append, show ((0 : Nat) : Int) = 0 from rfl, rnX, hq, hq'] at h
  by_cases h1 : k = 1
  · have hz' : ¬ (9223372036854775807 < ((s.size : Nat) : Int) + d.size) := by omega
    simp [h1] at h
    simp [F21, h, h1, hz', hq, hq', show IntKind.i64.max = 9223372036854775807 from by decide]
  · by_cases h10 : k = 10
    · have hz' : ¬ (9223372036854775807 < ((s.size : Nat) : Int) + d.size) := by omega
      simp [h10] at h
      simp [F21, h, h10, hz', hq, hq', show IntKind.i64.max = 9223372036854775807 from by decide]
    · simp [h1, h10] at h
      simp [F21, h, h1, h10, hq, hq']
end
end Go.Pm
