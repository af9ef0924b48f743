/- Chapter 14: the generator of blocks, and of whole programs. -/
import Derived.Test.YtebhnnjdljcicaaPmQ17
set_option linter.unusedSimpArgs false
set_option linter.unusedVariables false
namespace Go.Pm
open F
section
variable {xs : List Int} {i d c : Int}
abbrev z4O : Ob := .cells [.int 0, .int 0, .str ⟨#[]⟩, .dat (.lit (.slice none 0 0))]
abbrev B0 (xs : List Int) (i : Int) : S := [.cells [.dat (intsD xs), .int i], z4O, .cells [.int 7, .int 0, .str ⟨#[]⟩, .dat (.lit (.slice none 0 0))]]
abbrev B1 (xs : List Int) (i : Int) (pre : Fo) : S := [.cells [.dat (intsD xs), .int i], z4O, .cells [.int 7, .int 0, .str ⟨#[]⟩, .gsl pre.cells pre.len 4 3], .tip pre.cells.length]
abbrev bfr (d c : Int) : Fr := [(0, .ptr 0 0), (1, .int d), (4, .ptr 1 0), (5, .ptr 2 0), (6, .int c)]
theorem b_end0 : Z prog (.loop 1 F29l0 (bfr d 0) (B0 xs i)) = some (.out (.exit 0) (bfr d 0 ++ [(11, .bool false)]) (B0 xs i)) := by
  rw [Z_loop_eq]
  simp [loopStep, run_F29l0]
theorem b_end1 {pre : Fo} : Z prog (.loop 1 F29l0 (bfr d 0) (B1 xs i pre)) = some (.out (.exit 0) (bfr d 0 ++ [(11, .bool false)]) (B1 xs i pre)) := by
  rw [Z_loop_eq]
  simp [loopStep, run_F29l0]
theorem b_step0 {i' : Int} {k n : Int} {s : ByteArray} {f : Bool} {ks : Fo} (hc : 0 < c) (hc' : c < 100) (h : Z prog (.call 36 [.ptr 0 0, .int d] (src xs i)) = some (.ret (nd k n s f ks) (src xs i'))) :
    Z prog (.loop 1 F29l0 (bfr d c) (B0 xs i)) = Z prog (.loop 1 F29l0 (bfr d (c - 1)) (B1 xs i' (.cons k n s f ks .nil))) := by
  have w1 := wrap64 (c - 1) (by omega)
  conv => lhs; rw [Z_loop_eq]
  simp only [src] at h
  simp [loopStep, run_F29l0, hc, h, w1, appendV, srcV, roomFor, bfr, B1, z4O]
theorem b_step1 {i' : Int} {k n : Int} {s : ByteArray} {f : Bool} {ks pre : Fo} (hp : pre.len < 1000) (hc : 0 < c) (hc' : c < 100) (h : Z prog (.call 36 [.ptr 0 0, .int d] (src xs i)) = some (.ret (nd k n s f ks) (src xs i'))) :
    Z prog (.loop 1 F29l0 (bfr d c) (B1 xs i pre)) = Z prog (.loop 1 F29l0 (bfr d (c - 1)) (B1 xs i' (pre.app (.cons k n s f ks .nil)))) := by
  have w1 := wrap64 (c - 1) (by omega)
  have r1 : roomFor (pre.len + 1) 56 = true := by simp [roomFor]; omega
  have hl := fo_cells_len pre
  have hl2 := fo_cells_app pre (.cons k n s f ks .nil)
  have hl3 := fo_len_app pre (.cons k n s f ks .nil)
  simp only [fo_cells_cons, fo_cells_nil, fo_len_cons, fo_len_nil] at hl2 hl3
  conv => lhs; rw [Z_loop_eq]
  simp only [src] at h
  simp [loopStep, run_F29l0, hc, h, w1, appendV, srcV, r1, hl, hl2, hl3, bfr, B1, z4O]
theorem st_size {st : Ss} {k n : Int} {s : ByteArray} {f : Bool} {ks : Fo} (h : st.fo = .cons k n s f ks .nil) : 1 ≤ st.fo.size := by rw [h]; simp
/-- The loop of a block behind the first statement. -/
theorem b_loop1 {cs : Int} (hcs : 0 ≤ cs) (hS : ∀ j, i ≤ j → j ≤ i + 4 * cs → GSt xs d j cs) : ∀ (m : Nat) (j : Int) (pre : Fo), m ≤ 3 → i ≤ j → j + m * cs ≤ i + 4 * cs → pre.len + m < 1000 → 0 < pre.len →
    ∃ (b : Ss) (i' : Int), (j + b.fo.size ≤ i' ∧ b.ok) ∧ i' ≤ j + m * cs ∧ Z prog (.loop 1 F29l0 (bfr d m) (B1 xs j pre)) = some (.out (.exit 0) (bfr d 0 ++ [(11, .bool false)]) (B1 xs i' (pre.app b.fo)))
  | 0, j, pre, _, h1, h2, hp, hp0 => ⟨.nil, j, ⟨by simp [Ss.fo], trivial⟩, by omega, by rw [show pre.app Ss.nil.fo = pre from app_nil pre]; exact b_end1⟩
  | m + 1, j, pre, hm, h1, h2, hp, hp0 => by
    have e1 : ((m + 1 : Nat) : Int) * cs = m * cs + cs := by rw [Int.natCast_add, Int.add_mul]; simp
    have e2 : (0 : Int) ≤ m * cs := Int.mul_nonneg (by omega) hcs
    obtain ⟨st, k, n, s, f, ks, i1, g1, g2, g3, g4⟩ := hS j h1 (by omega)
    obtain ⟨b, i2, k1, k2, k3⟩ := b_loop1 hcs hS m i1 (pre.app (.cons k n s f ks .nil)) (by omega) (by omega) (by omega) (by rw [fo_len_app]; simp; omega) (by rw [fo_len_app]; simp)
    have hstep := b_step1 (d := d) (c := (m + 1 : Nat)) (by omega : pre.len < 1000) (by omega) (by omega) g4
    rw [show ((m + 1 : Nat) : Int) - 1 = m by omega] at hstep
    refine ⟨st.app b, i2, ⟨by rw [ss_app, fo_size_app]; omega, app_ok g2.2 k1.2⟩, by omega, ?_⟩
    rw [hstep, k3, ss_app, ← app_assoc, g1]
theorem block_Z {cs : Int} (hx : ∀ x ∈ xs, I64 x) (hi : 0 ≤ i) (hb : i + 10 * cs < 2^60) (hcs : 0 ≤ cs) (hS : ∀ j, i + 1 ≤ j → j ≤ i + 1 + 4 * cs → GSt xs d j cs) : GBl xs d i (1 + 3 * cs) := by
  have n1 := next_Z (i := i) (m := 4) hx hi (by omega) (by omega)
  have l1 := nextV_lt (i := i) (m := 4) hx (by omega)
  by_cases h0 : nextV xs i 4 = 0
  · refine ⟨.nil, i + 1, ⟨by simp [Ss.fo], trivial⟩, by omega, ?_⟩
    have h := b_end0 (xs := xs) (i := i + 1) (d := d)
    have hg : Z prog (.loop 1 F29l0 [(0, .ptr 0 0), (1, .int d), (4, .ptr 1 0), (5, .ptr 2 0), (6, .int 0)] (B0 xs (i + 1))) = _ := h
    refine Z_call (pf := F29) rfl ?_
    simp only [bfr, List.cons_append, List.nil_append] at h
    simp [F29, src, n1, h0, h, Ss.fo]
  · obtain ⟨m, hm⟩ : ∃ m : Nat, nextV xs i 4 = ((m + 1 : Nat) : Int) := ⟨(nextV xs i 4 - 1).toNat, by omega⟩
    obtain ⟨st, k, n, s, f, ks, i1, g1, g2, g3, g4⟩ := hS (i + 1) (by omega) (by omega)
    have hm2 : (m : Int) * cs ≤ 2 * cs := Int.mul_le_mul_of_nonneg_right (by omega) hcs
    obtain ⟨b, i2, k1, k2, k3⟩ := b_loop1 (i := i + 1) hcs hS m i1 (.cons k n s f ks .nil) (by omega) (by omega) (by omega) (by simp; omega) (by simp)
    have hstep := b_step0 (d := d) (c := (m + 1 : Nat)) (by omega) (by omega) g4
    rw [show ((m + 1 : Nat) : Int) - 1 = m by omega, k3, ← g1, ← ss_app, ← hm] at hstep
    refine ⟨st.app b, i2, ⟨by rw [ss_app, fo_size_app]; omega, app_ok g2.2 k1.2⟩, by omega, ?_⟩
    have hpos : (st.app b).fo.len ≠ 0 := by rw [ss_app, fo_len_app, g1]; simp
    obtain ⟨q, hq⟩ : ∃ q, (st.app b).fo.len = q + 1 := ⟨(st.app b).fo.len - 1, by omega⟩
    have hg := fo_cells_len (st.app b).fo
    refine Z_call (pf := F29) rfl ?_
    simp only [bfr, List.cons_append, List.nil_append] at hstep
    generalize (st.app b).fo = fo at *
    simp [F29, src, n1, hstep, hq]
end
end Go.Pm
