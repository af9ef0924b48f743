/- Chapter 14: the code's Variables, and the reference's. -/
import Derived.Test.YtebhnnjdljcicaaPmQ14
set_option linter.unusedSimpArgs false
set_option linter.unusedVariables false
namespace Go.Pm
open F
attribute [local simp] locs_mapM ren_mapM
/-- A node. -/
structure Nd where
  k : Int
  n : Int
  s : ByteArray
  f : Bool
  ks : Fo
abbrev Nd.v (a : Nd) : V := nd a.k a.n a.s a.f a.ks
def Nd.vars (a : Nd) : List ByteArray := (if a.k = 1 ∨ a.k = 10 then [a.s] else []) ++ a.ks.vars
abbrev Nd.d (a : Nd) : D := kd a.f a.ks.len a.ks.cells
theorem nd_vars_len (a : Nd) : a.vars.length ≤ a.ks.size + 1 := by
  have h := vars_len a.ks
  unfold Nd.vars
  rw [List.length_append]
  split <;> simp <;> omega
/-- A rule program: three nodes. -/
abbrev ru (a b c : Nd) : D := .agg [.lit (.int .i64 a.k), .lit (.int .i64 a.n), .lit (.string a.s), a.d, .lit (.int .i64 b.k), .lit (.int .i64 b.n), .lit (.string b.s), b.d, .lit (.int .i64 c.k), .lit (.int .i64 c.n), .lit (.string c.s), c.d]
abbrev vfr (r : D) (i : Int) : Fr := [(3, .ptr 0 0), (4, .ptr 1 0), (12, .dat r), (13, .int i)]
abbrev U0 : S := [.cells [.dat (.lit (.slice none 0 0))], .cells [.mp 2], .map []]
abbrev U1 (l : List ByteArray) : S := [.cells [.gsl (strC l) l.length 1 2], .cells [.mp 3], .tip l.length, .map (mapM 0 l)]
section
variable {a b c : Nd}
theorem v0_step0 (hb : a.ks.size < 2^25) : Z prog (.loop 0 F15l0 (vfr (ru a b c) 0) U0) = if addAll [] a.vars = [] then Z prog (.loop 0 F15l0 (vfr (ru a b c) 1) U0) else Z prog (.loop 0 F15l0 (vfr (ru a b c) 1) (U1 (addAll [] a.vars))) := by
  have hv := vis_Z (r := ru a b c) (j := 0) (k0 := a.k) (n0 := a.n) (s0 := a.s) (d0 := a.d) a.k a.n a.s a.f a.ks hb
  obtain ⟨S', h1, h2⟩ := n38_0 hv
  have h3 := n32_Z (k := a.k) (n := a.n) (s := a.s) (f := a.f) (ks := a.ks)
  have w1 := wrap64 1 (by omega)
  rw [show (if a.k = 1 ∨ a.k = 10 then [a.s] else []) ++ a.ks.vars = a.vars from rfl] at h2
  simp only [boxO, T0, lp38, ru, Nd.d] at h1 h3
  conv => lhs; rw [Z_loop_eq]
  rcases h2 with ⟨he, rfl⟩ | ⟨he, rfl⟩
  · rw [if_pos he]
    simp [loopStep, run_F15l0, h3, h1, w1, flat_F15a0, flat_F15b0, boxO, T0, lp38, List.range_succ]
    exact Z_loop_cong (by simp [List.range_succ])
  · rw [if_neg he]
    simp [loopStep, run_F15l0, h3, h1, w1, flat_F15a0, flat_F15b0, boxO, T01, lp38, List.range_succ]
    exact Z_loop_cong (by simp [List.range_succ])
theorem v1_step0 {l : List ByteArray} (hb : a.ks.size < 2^25) (hl : l ≠ []) (hl' : l.length < 2^27) : Z prog (.loop 0 F15l0 (vfr (ru a b c) 0) (U1 l)) = Z prog (.loop 0 F15l0 (vfr (ru a b c) 1) (U1 (addAll l a.vars))) := by
  have hv := vis_Z (r := ru a b c) (j := 0) (k0 := a.k) (n0 := a.n) (s0 := a.s) (d0 := a.d) a.k a.n a.s a.f a.ks hb
  have hx := nd_vars_len a
  have h1 := n38_1 hv hl (by rw [show (if a.k = 1 ∨ a.k = 10 then [a.s] else []) ++ a.ks.vars = a.vars from rfl]; omega)
  rw [show (if a.k = 1 ∨ a.k = 10 then [a.s] else []) ++ a.ks.vars = a.vars from rfl] at h1
  have h3 := n32_Z (k := a.k) (n := a.n) (s := a.s) (f := a.f) (ks := a.ks)
  have w1 := wrap64 1 (by omega)
  simp only [boxO, T1, lp38, ru, Nd.d] at h1 h3
  conv => lhs; rw [Z_loop_eq]
  simp [loopStep, run_F15l0, h3, h1, w1, flat_F15a0, flat_F15b0, boxO, T1, lp38, List.range_succ]
  exact Z_loop_cong (by simp [List.range_succ])
theorem v0_step1 (hb : b.ks.size < 2^25) : Z prog (.loop 0 F15l0 (vfr (ru a b c) 1) U0) = if addAll [] b.vars = [] then Z prog (.loop 0 F15l0 (vfr (ru a b c) 2) U0) else Z prog (.loop 0 F15l0 (vfr (ru a b c) 2) (U1 (addAll [] b.vars))) := by
  have hv := vis_Z (r := ru a b c) (j := 1) (k0 := b.k) (n0 := b.n) (s0 := b.s) (d0 := b.d) b.k b.n b.s b.f b.ks hb
  obtain ⟨S', h1, h2⟩ := n38_0 hv
  have h3 := n32_Z (k := b.k) (n := b.n) (s := b.s) (f := b.f) (ks := b.ks)
  have w1 := wrap64 2 (by omega)
  rw [show (if b.k = 1 ∨ b.k = 10 then [b.s] else []) ++ b.ks.vars = b.vars from rfl] at h2
  simp only [boxO, T0, lp38, ru, Nd.d] at h1 h3
  conv => lhs; rw [Z_loop_eq]
  rcases h2 with ⟨he, rfl⟩ | ⟨he, rfl⟩
  · rw [if_pos he]
    simp [loopStep, run_F15l0, h3, h1, w1, flat_F15a0, flat_F15b0, boxO, T0, lp38, List.range_succ]
    exact Z_loop_cong (by simp [List.range_succ])
  · rw [if_neg he]
    simp [loopStep, run_F15l0, h3, h1, w1, flat_F15a0, flat_F15b0, boxO, T01, lp38, List.range_succ]
    exact Z_loop_cong (by simp [List.range_succ])
theorem v1_step1 {l : List ByteArray} (hb : b.ks.size < 2^25) (hl : l ≠ []) (hl' : l.length < 2^27) : Z prog (.loop 0 F15l0 (vfr (ru a b c) 1) (U1 l)) = Z prog (.loop 0 F15l0 (vfr (ru a b c) 2) (U1 (addAll l b.vars))) := by
  have hv := vis_Z (r := ru a b c) (j := 1) (k0 := b.k) (n0 := b.n) (s0 := b.s) (d0 := b.d) b.k b.n b.s b.f b.ks hb
  have hx := nd_vars_len b
  have h1 := n38_1 hv hl (by rw [show (if b.k = 1 ∨ b.k = 10 then [b.s] else []) ++ b.ks.vars = b.vars from rfl]; omega)
  rw [show (if b.k = 1 ∨ b.k = 10 then [b.s] else []) ++ b.ks.vars = b.vars from rfl] at h1
  have h3 := n32_Z (k := b.k) (n := b.n) (s := b.s) (f := b.f) (ks := b.ks)
  have w1 := wrap64 2 (by omega)
  simp only [boxO, T1, lp38, ru, Nd.d] at h1 h3
  conv => lhs; rw [Z_loop_eq]
  simp [loopStep, run_F15l0, h3, h1, w1, flat_F15a0, flat_F15b0, boxO, T1, lp38, List.range_succ]
  exact Z_loop_cong (by simp [List.range_succ])
theorem v0_step2 (hb : c.ks.size < 2^25) : Z prog (.loop 0 F15l0 (vfr (ru a b c) 2) U0) = if addAll [] c.vars = [] then Z prog (.loop 0 F15l0 (vfr (ru a b c) 3) U0) else Z prog (.loop 0 F15l0 (vfr (ru a b c) 3) (U1 (addAll [] c.vars))) := by
  have hv := vis_Z (r := ru a b c) (j := 2) (k0 := c.k) (n0 := c.n) (s0 := c.s) (d0 := c.d) c.k c.n c.s c.f c.ks hb
  obtain ⟨S', h1, h2⟩ := n38_0 hv
  have h3 := n32_Z (k := c.k) (n := c.n) (s := c.s) (f := c.f) (ks := c.ks)
  have w1 := wrap64 3 (by omega)
  rw [show (if c.k = 1 ∨ c.k = 10 then [c.s] else []) ++ c.ks.vars = c.vars from rfl] at h2
  simp only [boxO, T0, lp38, ru, Nd.d] at h1 h3
  conv => lhs; rw [Z_loop_eq]
  rcases h2 with ⟨he, rfl⟩ | ⟨he, rfl⟩
  · rw [if_pos he]
    simp [loopStep, run_F15l0, h3, h1, w1, flat_F15a0, flat_F15b0, boxO, T0, lp38, List.range_succ]
    exact Z_loop_cong (by simp [List.range_succ])
  · rw [if_neg he]
    simp [loopStep, run_F15l0, h3, h1, w1, flat_F15a0, flat_F15b0, boxO, T01, lp38, List.range_succ]
    exact Z_loop_cong (by simp [List.range_succ])
theorem v1_step2 {l : List ByteArray} (hb : c.ks.size < 2^25) (hl : l ≠ []) (hl' : l.length < 2^27) : Z prog (.loop 0 F15l0 (vfr (ru a b c) 2) (U1 l)) = Z prog (.loop 0 F15l0 (vfr (ru a b c) 3) (U1 (addAll l c.vars))) := by
  have hv := vis_Z (r := ru a b c) (j := 2) (k0 := c.k) (n0 := c.n) (s0 := c.s) (d0 := c.d) c.k c.n c.s c.f c.ks hb
  have hx := nd_vars_len c
  have h1 := n38_1 hv hl (by rw [show (if c.k = 1 ∨ c.k = 10 then [c.s] else []) ++ c.ks.vars = c.vars from rfl]; omega)
  rw [show (if c.k = 1 ∨ c.k = 10 then [c.s] else []) ++ c.ks.vars = c.vars from rfl] at h1
  have h3 := n32_Z (k := c.k) (n := c.n) (s := c.s) (f := c.f) (ks := c.ks)
  have w1 := wrap64 3 (by omega)
  simp only [boxO, T1, lp38, ru, Nd.d] at h1 h3
  conv => lhs; rw [Z_loop_eq]
  simp [loopStep, run_F15l0, h3, h1, w1, flat_F15a0, flat_F15b0, boxO, T1, lp38, List.range_succ]
  exact Z_loop_cong (by simp [List.range_succ])
theorem v0_end {r : D} : Z prog (.loop 0 F15l0 [(3, .ptr 0 0), (4, .ptr 1 0), (12, .dat r), (13, .int 3)] U0) = some (.out (.exit 0) [(3, .ptr 0 0), (4, .ptr 1 0), (12, .dat r), (13, .int 3), (14, .bool false)] U0) := by
  rw [Z_loop_eq]
  simp [loopStep, run_F15l0]
theorem v1_end {r : D} {l : List ByteArray} : Z prog (.loop 0 F15l0 [(3, .ptr 0 0), (4, .ptr 1 0), (12, .dat r), (13, .int 3)] (U1 l)) = some (.out (.exit 0) [(3, .ptr 0 0), (4, .ptr 1 0), (12, .dat r), (13, .int 3), (14, .bool false)] (U1 l)) := by
  rw [Z_loop_eq]
  simp [loopStep, run_F15l0]
def rvars (a b c : Nd) : List ByteArray := addAll [] (a.vars ++ (b.vars ++ c.vars))
theorem vars_loop (ha : a.ks.size < 2^25) (hb : b.ks.size < 2^25) (hc : c.ks.size < 2^25) : Z prog (.loop 0 F15l0 (vfr (ru a b c) 0) U0) =
    some (.out (.exit 0) [(3, .ptr 0 0), (4, .ptr 1 0), (12, .dat (ru a b c)), (13, .int 3), (14, .bool false)] (if rvars a b c = [] then U0 else U1 (rvars a b c))) := by
  have la := nd_vars_len a
  have lb := nd_vars_len b
  have l1 := addAll_len a.vars []
  have l2 := addAll_len b.vars (addAll [] a.vars)
  have e : rvars a b c = addAll (addAll (addAll [] a.vars) b.vars) c.vars := by unfold rvars; rw [addAll_app, addAll_app]
  simp only [List.length_nil] at l1
  rw [e, v0_step0 ha]
  by_cases h1 : addAll [] a.vars = []
  · rw [if_pos h1, h1, v0_step1 hb]
    by_cases h2 : addAll [] b.vars = []
    · rw [if_pos h2, h2, v0_step2 hc]
      by_cases h3 : addAll [] c.vars = []
      · rw [if_pos h3, if_pos h3]; exact v0_end
      · rw [if_neg h3, if_neg h3]; exact v1_end
    · rw [h1] at l2
      rw [if_neg h2, v1_step2 hc h2 (by simp only [List.length_nil] at l2; omega), if_neg (addAll_ne _ h2)]
      exact v1_end
  · have n2 : addAll (addAll [] a.vars) b.vars ≠ [] := addAll_ne _ h1
    rw [if_neg h1, v1_step1 hb h1 (by omega), v1_step2 hc n2 (by omega), if_neg (addAll_ne _ n2)]
    exact v1_end
theorem Variables_Z (ha : a.ks.size < 2^25) (hb : b.ks.size < 2^25) (hc : c.ks.size < 2^25) : Z prog (.call 15 [.dat (ru a b c)] []) = some (.ret (.dat (strD (rvars a b c))) []) := by
  have h := vars_loop ha hb hc
  refine Z_call (pf := F15) rfl ?_
  have h' := (Z_loop_cong (k := 0) (b := F15l0) (fr := [(3, .ptr 1 0), (4, .ptr 3 0), (12, .dat (ru a b c)), (13, .int 0)]) (σ := [.cells [.int a.k, .int a.n, .str a.s, .dat a.d, .int b.k, .int b.n, .str b.s, .dat b.d, .int c.k, .int c.n, .str c.s, .dat c.d], .cells [.dat (.lit (.slice none 0 0))], .map [], .cells [.mp 2]]) (by simp [vfr, U0])).trans h
  simp only [ru, Nd.d] at h'
  by_cases hn : rvars a b c = []
  · rw [if_pos hn] at h'
    rw [hn]
    simp [F15, h', strD]
  · rw [if_neg hn] at h'
    rw [strD_ne hn]
    simp [F15, h']
end
end Go.Pm
