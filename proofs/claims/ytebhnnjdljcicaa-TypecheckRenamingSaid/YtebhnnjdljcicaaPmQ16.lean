/- Chapter 14: Check and Variables, the code's and the reference's. -/
import Derived.Test.YtebhnnjdljcicaaPmQ15
set_option linter.unusedSimpArgs false
set_option linter.unusedVariables false
namespace Go.Pm
open F
/-- A handler: none, or a block of statements. -/
inductive Hd where
  | none
  | some (f : Bool) (b : Ss)
def Hd.k : Hd → Int
  | .none => 0
  | .some _ _ => 7
def Hd.f : Hd → Bool
  | .none => false
  | .some f _ => f
def Hd.ks : Hd → Fo
  | .none => .nil
  | .some _ b => b.fo
def Hd.nd (h : Hd) : Nd := ⟨h.k, 0, ⟨#[]⟩, h.f, h.ks⟩
@[simp] theorem hd_k (h : Hd) : h.nd.k = h.k := rfl
@[simp] theorem hd_n (h : Hd) : h.nd.n = 0 := rfl
@[simp] theorem hd_s (h : Hd) : h.nd.s = ⟨#[]⟩ := rfl
@[simp] theorem hd_f (h : Hd) : h.nd.f = h.f := rfl
@[simp] theorem hd_ks (h : Hd) : h.nd.ks = h.ks := rfl
def Hd.well : Hd → Bool
  | .none => true
  | .some _ b => b.well
abbrev rbox (a b c : Nd) : Ob := .cells [.int a.k, .int a.n, .str a.s, .dat a.d, .int b.k, .int b.n, .str b.s, .dat b.d, .int c.k, .int c.n, .str c.s, .dat c.d]
abbrev cfr (r : D) (i : Int) : Fr := [(1, .ptr 0 0), (3, .ptr 1 0), (8, .dat r), (9, .int i)]
abbrev cst3 (a b c : Nd) : S := [rbox a b c, .cells [.mp 2], .map tblE]
section
variable {a b c : Nd}
theorem c_ok0 {h : Hd} (hb : h.ks.size < 2^25) (hw : h.well = true) : Z prog (.loop 0 F12l0 (cfr (ru h.nd b c) 0) (cst3 h.nd b c)) = Z prog (.loop 0 F12l0 (cfr (ru h.nd b c) 1) (cst3 h.nd b c)) := by
  have w1 := wrap64 1 (by omega)
  conv => lhs; rw [Z_loop_eq]
  cases h with
  | none =>
    simp [loopStep, run_F12l0, w1, Hd.k, Hd.f, Hd.ks, Nd.d]
    exact Z_loop_cong (by simp [Hd.k, Hd.f, Hd.ks, Nd.d])
  | some f q =>
    have h1 := wellTyped_Z f q (by simp only [Hd.ks] at hb; omega)
    simp only [Hd.well] at hw
    simp only [hw] at h1
    simp [loopStep, run_F12l0, w1, Hd.k, Hd.f, Hd.ks, Nd.d, h1]
    exact Z_loop_cong (by simp [Hd.k, Hd.f, Hd.ks, Nd.d])
theorem c_bad0 {h : Hd} (hb : h.ks.size < 2^25) (hw : h.well = false) : ∃ g, Z prog (.loop 0 F12l0 (cfr (ru h.nd b c) 0) (cst3 h.nd b c)) = some (.out .ret [(2, .int 13)] (cst3 h.nd b c ++ [g])) := by
  cases h with
  | none => simp [Hd.well] at hw
  | some f q =>
    have h1 := wellTyped_Z f q (by simp only [Hd.ks] at hb; omega)
    simp only [Hd.well] at hw
    simp only [hw] at h1
    refine ⟨.cells [.int 7, .int 0, .str ⟨#[]⟩, .dat (kd f q.fo.len q.fo.cells)], ?_⟩
    rw [Z_loop_eq]
    simp [loopStep, run_F12l0, Hd.k, Hd.f, Hd.ks, Nd.d, h1]
theorem rc_ok0 {h : Hd} (hb : h.ks.size < 2^25) (hw : h.well = true) : Z prog (.loop 0 F13l0 [(1, .ptr 0 0), (3, .int 0)] [rbox h.nd b c]) = Z prog (.loop 0 F13l0 [(1, .ptr 0 0), (3, .int 1)] [rbox h.nd b c]) := by
  have w1 := wrap64 1 (by omega)
  conv => lhs; rw [Z_loop_eq]
  cases h with
  | none =>
    simp [loopStep, run_F13l0, w1, Hd.k, Hd.f, Hd.ks, Nd.d]
    try exact Z_loop_cong (by simp [Hd.k, Hd.f, Hd.ks, Nd.d])
  | some f q =>
    have h1 := Well_Z f q (by simp only [Hd.ks] at hb; omega)
    simp only [Hd.well] at hw
    simp only [hw] at h1
    simp [loopStep, run_F13l0, w1, Hd.k, Hd.f, Hd.ks, Nd.d, h1]
    try exact Z_loop_cong (by simp [Hd.k, Hd.f, Hd.ks, Nd.d])
theorem rc_bad0 {h : Hd} (hb : h.ks.size < 2^25) (hw : h.well = false) : Z prog (.loop 0 F13l0 [(1, .ptr 0 0), (3, .int 0)] [rbox h.nd b c]) = some (.out .ret [(2, .int 13)] [rbox h.nd b c]) := by
  cases h with
  | none => simp [Hd.well] at hw
  | some f q =>
    have h1 := Well_Z f q (by simp only [Hd.ks] at hb; omega)
    simp only [Hd.well] at hw
    simp only [hw] at h1
    rw [Z_loop_eq]
    simp [loopStep, run_F13l0, Hd.k, Hd.f, Hd.ks, Nd.d, h1]
theorem rv_step0 {l : List ByteArray} (hb : a.ks.size + l.length < 2^28) : Z prog (.loop 0 F16l0 [(1, .ptr 0 0), (3, .dat (strD l)), (4, .int 0)] [rbox a b c]) = Z prog (.loop 0 F16l0 [(1, .ptr 0 0), (3, .dat (strD (addAll l a.vars))), (4, .int 1)] [rbox a b c]) := by
  have w1 := wrap64 1 (by omega)
  have h1 := names_Z a.k a.n a.s a.f a.ks l (by omega)
  rw [show (Fo.cons a.k a.n a.s a.f a.ks .nil).vars = a.vars by simp [Fo.vars, Nd.vars]] at h1
  conv => lhs; rw [Z_loop_eq]
  simp [loopStep, run_F16l0, w1, h1, Nd.d]
theorem c_ok1 {h : Hd} (hb : h.ks.size < 2^25) (hw : h.well = true) : Z prog (.loop 0 F12l0 (cfr (ru a h.nd c) 1) (cst3 a h.nd c)) = Z prog (.loop 0 F12l0 (cfr (ru a h.nd c) 2) (cst3 a h.nd c)) := by
  have w1 := wrap64 2 (by omega)
  conv => lhs; rw [Z_loop_eq]
  cases h with
  | none =>
    simp [loopStep, run_F12l0, w1, Hd.k, Hd.f, Hd.ks, Nd.d]
    exact Z_loop_cong (by simp [Hd.k, Hd.f, Hd.ks, Nd.d])
  | some f q =>
    have h1 := wellTyped_Z f q (by simp only [Hd.ks] at hb; omega)
    simp only [Hd.well] at hw
    simp only [hw] at h1
    simp [loopStep, run_F12l0, w1, Hd.k, Hd.f, Hd.ks, Nd.d, h1]
    exact Z_loop_cong (by simp [Hd.k, Hd.f, Hd.ks, Nd.d])
theorem c_bad1 {h : Hd} (hb : h.ks.size < 2^25) (hw : h.well = false) : ∃ g, Z prog (.loop 0 F12l0 (cfr (ru a h.nd c) 1) (cst3 a h.nd c)) = some (.out .ret [(2, .int 13)] (cst3 a h.nd c ++ [g])) := by
  cases h with
  | none => simp [Hd.well] at hw
  | some f q =>
    have h1 := wellTyped_Z f q (by simp only [Hd.ks] at hb; omega)
    simp only [Hd.well] at hw
    simp only [hw] at h1
    refine ⟨.cells [.int 7, .int 0, .str ⟨#[]⟩, .dat (kd f q.fo.len q.fo.cells)], ?_⟩
    rw [Z_loop_eq]
    simp [loopStep, run_F12l0, Hd.k, Hd.f, Hd.ks, Nd.d, h1]
theorem rc_ok1 {h : Hd} (hb : h.ks.size < 2^25) (hw : h.well = true) : Z prog (.loop 0 F13l0 [(1, .ptr 0 0), (3, .int 1)] [rbox a h.nd c]) = Z prog (.loop 0 F13l0 [(1, .ptr 0 0), (3, .int 2)] [rbox a h.nd c]) := by
  have w1 := wrap64 2 (by omega)
  conv => lhs; rw [Z_loop_eq]
  cases h with
  | none =>
    simp [loopStep, run_F13l0, w1, Hd.k, Hd.f, Hd.ks, Nd.d]
    try exact Z_loop_cong (by simp [Hd.k, Hd.f, Hd.ks, Nd.d])
  | some f q =>
    have h1 := Well_Z f q (by simp only [Hd.ks] at hb; omega)
    simp only [Hd.well] at hw
    simp only [hw] at h1
    simp [loopStep, run_F13l0, w1, Hd.k, Hd.f, Hd.ks, Nd.d, h1]
    try exact Z_loop_cong (by simp [Hd.k, Hd.f, Hd.ks, Nd.d])
theorem rc_bad1 {h : Hd} (hb : h.ks.size < 2^25) (hw : h.well = false) : Z prog (.loop 0 F13l0 [(1, .ptr 0 0), (3, .int 1)] [rbox a h.nd c]) = some (.out .ret [(2, .int 13)] [rbox a h.nd c]) := by
  cases h with
  | none => simp [Hd.well] at hw
  | some f q =>
    have h1 := Well_Z f q (by simp only [Hd.ks] at hb; omega)
    simp only [Hd.well] at hw
    simp only [hw] at h1
    rw [Z_loop_eq]
    simp [loopStep, run_F13l0, Hd.k, Hd.f, Hd.ks, Nd.d, h1]
theorem rv_step1 {l : List ByteArray} (hb : b.ks.size + l.length < 2^28) : Z prog (.loop 0 F16l0 [(1, .ptr 0 0), (3, .dat (strD l)), (4, .int 1)] [rbox a b c]) = Z prog (.loop 0 F16l0 [(1, .ptr 0 0), (3, .dat (strD (addAll l b.vars))), (4, .int 2)] [rbox a b c]) := by
  have w1 := wrap64 2 (by omega)
  have h1 := names_Z b.k b.n b.s b.f b.ks l (by omega)
  rw [show (Fo.cons b.k b.n b.s b.f b.ks .nil).vars = b.vars by simp [Fo.vars, Nd.vars]] at h1
  conv => lhs; rw [Z_loop_eq]
  simp [loopStep, run_F16l0, w1, h1, Nd.d]
theorem c_ok2 {h : Hd} (hb : h.ks.size < 2^25) (hw : h.well = true) : Z prog (.loop 0 F12l0 (cfr (ru a b h.nd) 2) (cst3 a b h.nd)) = Z prog (.loop 0 F12l0 (cfr (ru a b h.nd) 3) (cst3 a b h.nd)) := by
  have w1 := wrap64 3 (by omega)
  conv => lhs; rw [Z_loop_eq]
  cases h with
  | none =>
    simp [loopStep, run_F12l0, w1, Hd.k, Hd.f, Hd.ks, Nd.d]
    exact Z_loop_cong (by simp [Hd.k, Hd.f, Hd.ks, Nd.d])
  | some f q =>
    have h1 := wellTyped_Z f q (by simp only [Hd.ks] at hb; omega)
    simp only [Hd.well] at hw
    simp only [hw] at h1
    simp [loopStep, run_F12l0, w1, Hd.k, Hd.f, Hd.ks, Nd.d, h1]
    exact Z_loop_cong (by simp [Hd.k, Hd.f, Hd.ks, Nd.d])
theorem c_bad2 {h : Hd} (hb : h.ks.size < 2^25) (hw : h.well = false) : ∃ g, Z prog (.loop 0 F12l0 (cfr (ru a b h.nd) 2) (cst3 a b h.nd)) = some (.out .ret [(2, .int 13)] (cst3 a b h.nd ++ [g])) := by
  cases h with
  | none => simp [Hd.well] at hw
  | some f q =>
    have h1 := wellTyped_Z f q (by simp only [Hd.ks] at hb; omega)
    simp only [Hd.well] at hw
    simp only [hw] at h1
    refine ⟨.cells [.int 7, .int 0, .str ⟨#[]⟩, .dat (kd f q.fo.len q.fo.cells)], ?_⟩
    rw [Z_loop_eq]
    simp [loopStep, run_F12l0, Hd.k, Hd.f, Hd.ks, Nd.d, h1]
theorem rc_ok2 {h : Hd} (hb : h.ks.size < 2^25) (hw : h.well = true) : Z prog (.loop 0 F13l0 [(1, .ptr 0 0), (3, .int 2)] [rbox a b h.nd]) = Z prog (.loop 0 F13l0 [(1, .ptr 0 0), (3, .int 3)] [rbox a b h.nd]) := by
  have w1 := wrap64 3 (by omega)
  conv => lhs; rw [Z_loop_eq]
  cases h with
  | none =>
    simp [loopStep, run_F13l0, w1, Hd.k, Hd.f, Hd.ks, Nd.d]
    try exact Z_loop_cong (by simp [Hd.k, Hd.f, Hd.ks, Nd.d])
  | some f q =>
    have h1 := Well_Z f q (by simp only [Hd.ks] at hb; omega)
    simp only [Hd.well] at hw
    simp only [hw] at h1
    simp [loopStep, run_F13l0, w1, Hd.k, Hd.f, Hd.ks, Nd.d, h1]
    try exact Z_loop_cong (by simp [Hd.k, Hd.f, Hd.ks, Nd.d])
theorem rc_bad2 {h : Hd} (hb : h.ks.size < 2^25) (hw : h.well = false) : Z prog (.loop 0 F13l0 [(1, .ptr 0 0), (3, .int 2)] [rbox a b h.nd]) = some (.out .ret [(2, .int 13)] [rbox a b h.nd]) := by
  cases h with
  | none => simp [Hd.well] at hw
  | some f q =>
    have h1 := Well_Z f q (by simp only [Hd.ks] at hb; omega)
    simp only [Hd.well] at hw
    simp only [hw] at h1
    rw [Z_loop_eq]
    simp [loopStep, run_F13l0, Hd.k, Hd.f, Hd.ks, Nd.d, h1]
theorem rv_step2 {l : List ByteArray} (hb : c.ks.size + l.length < 2^28) : Z prog (.loop 0 F16l0 [(1, .ptr 0 0), (3, .dat (strD l)), (4, .int 2)] [rbox a b c]) = Z prog (.loop 0 F16l0 [(1, .ptr 0 0), (3, .dat (strD (addAll l c.vars))), (4, .int 3)] [rbox a b c]) := by
  have w1 := wrap64 3 (by omega)
  have h1 := names_Z c.k c.n c.s c.f c.ks l (by omega)
  rw [show (Fo.cons c.k c.n c.s c.f c.ks .nil).vars = c.vars by simp [Fo.vars, Nd.vars]] at h1
  conv => lhs; rw [Z_loop_eq]
  simp [loopStep, run_F16l0, w1, h1, Nd.d]
theorem c_end : Z prog (.loop 0 F12l0 (cfr (ru a b c) 3) (cst3 a b c)) = some (.out (.exit 0) [(1, .ptr 0 0), (3, .ptr 1 0), (8, .dat (ru a b c)), (9, .int 3), (10, .bool false)] (cst3 a b c)) := by
  rw [Z_loop_eq]
  simp [loopStep, run_F12l0]
theorem rc_end : Z prog (.loop 0 F13l0 [(1, .ptr 0 0), (3, .int 3)] [rbox a b c]) = some (.out (.exit 0) [(1, .ptr 0 0), (3, .int 3), (6, .bool false)] [rbox a b c]) := by
  rw [Z_loop_eq]
  simp [loopStep, run_F13l0]
theorem rv_end {l : List ByteArray} : Z prog (.loop 0 F16l0 [(1, .ptr 0 0), (3, .dat (strD l)), (4, .int 3)] [rbox a b c]) = some (.out (.exit 0) [(1, .ptr 0 0), (3, .dat (strD l)), (4, .int 3), (6, .bool false)] [rbox a b c]) := by
  rw [Z_loop_eq]
  simp [loopStep, run_F16l0]
theorem rVariables_Z (ha : a.ks.size < 2^25) (hb : b.ks.size < 2^25) (hc : c.ks.size < 2^25) : Z prog (.call 16 [.dat (ru a b c)] []) = some (.ret (.dat (strD (rvars a b c))) []) := by
  have la := nd_vars_len a
  have lb := nd_vars_len b
  have l1 := addAll_len a.vars []
  have l2 := addAll_len b.vars (addAll [] a.vars)
  have e : rvars a b c = addAll (addAll (addAll [] a.vars) b.vars) c.vars := by unfold rvars; rw [addAll_app, addAll_app]
  simp only [List.length_nil] at l1
  have h := (rv_step0 (a := a) (b := b) (c := c) (l := []) (by simp; omega)).trans ((rv_step1 (by omega)).trans ((rv_step2 (by omega)).trans rv_end))
  rw [← e, show strD [] = .lit (.slice none 0 0) from rfl] at h
  refine Z_call (pf := F16) rfl ?_
  simp only [rbox, Nd.d] at h
  simp [F16, h]
end
def chk (a b c : Hd) : Int := if (a.well && (b.well && c.well)) = true then (if 16 < (rvars a.nd b.nd c.nd).length then 2 else 0) else 13
section
variable {a b c : Hd}
theorem c_loop (ha : a.ks.size < 2^25) (hb : b.ks.size < 2^25) (hc : c.ks.size < 2^25) : if (a.well && (b.well && c.well)) = true then Z prog (.loop 0 F12l0 (cfr (ru a.nd b.nd c.nd) 0) (cst3 a.nd b.nd c.nd)) = some (.out (.exit 0) [(1, .ptr 0 0), (3, .ptr 1 0), (8, .dat (ru a.nd b.nd c.nd)), (9, .int 3), (10, .bool false)] (cst3 a.nd b.nd c.nd))
    else ∃ g, Z prog (.loop 0 F12l0 (cfr (ru a.nd b.nd c.nd) 0) (cst3 a.nd b.nd c.nd)) = some (.out .ret [(2, .int 13)] (cst3 a.nd b.nd c.nd ++ [g])) := by
  cases wa : a.well with
  | false => simpa using c_bad0 ha wa
  | true =>
    rw [c_ok0 ha wa]
    cases wb : b.well with
    | false => simpa using c_bad1 hb wb
    | true =>
      rw [c_ok1 hb wb]
      cases wc : c.well with
      | false => simpa using c_bad2 hc wc
      | true => rw [c_ok2 hc wc]; simpa using c_end
theorem rc_loop (ha : a.ks.size < 2^25) (hb : b.ks.size < 2^25) (hc : c.ks.size < 2^25) : Z prog (.loop 0 F13l0 [(1, .ptr 0 0), (3, .int 0)] [rbox a.nd b.nd c.nd]) = if (a.well && (b.well && c.well)) = true then some (.out (.exit 0) [(1, .ptr 0 0), (3, .int 3), (6, .bool false)] [rbox a.nd b.nd c.nd])
    else some (.out .ret [(2, .int 13)] [rbox a.nd b.nd c.nd]) := by
  cases wa : a.well with
  | false => simpa using rc_bad0 ha wa
  | true =>
    rw [rc_ok0 ha wa]
    cases wb : b.well with
    | false => simpa using rc_bad1 hb wb
    | true =>
      rw [rc_ok1 hb wb]
      cases wc : c.well with
      | false => simpa using rc_bad2 hc wc
      | true => rw [rc_ok2 hc wc]; simpa using rc_end
theorem Check_Z (ha : a.ks.size < 2^25) (hb : b.ks.size < 2^25) (hc : c.ks.size < 2^25) : Z prog (.call 12 [.dat (ru a.nd b.nd c.nd)] []) = some (.ret (.int (chk a b c)) []) := by
  have h := c_loop ha hb hc
  have hv := Variables_Z (a := a.nd) (b := b.nd) (c := c.nd) ha hb hc
  have hg : Z prog (.loop 0 F12l0 [(1, .ptr 0 0), (3, .ptr 2 0), (8, .dat (ru a.nd b.nd c.nd)), (9, .int 0)] [rbox a.nd b.nd c.nd, .map tblE, .cells [.mp 1]]) = Z prog (.loop 0 F12l0 (cfr (ru a.nd b.nd c.nd) 0) (cst3 a.nd b.nd c.nd)) := Z_loop_cong (by simp [Nd.d, Hd.k, Hd.f, Hd.ks])
  rw [← hg] at h
  refine Z_call (pf := F12) rfl ?_
  unfold chk
  simp only [cfr, cst3, rbox, ru, Nd.d, hd_k, hd_n, hd_s, hd_f, hd_ks, List.cons_append, List.nil_append] at h hv
  cases hw : (a.well && (b.well && c.well)) with
  | false =>
    rw [hw] at h
    obtain ⟨g, h⟩ := h
    simp [F12, ru, Nd.d, h, newChecker_Z]
  | true =>
    rw [hw, if_pos rfl] at h
    rw [if_pos rfl]
    by_cases h16 : 16 < (rvars a.nd b.nd c.nd).length
    · have h16' : (16 : Int) < (rvars a.nd b.nd c.nd).length := by omega
      simp [F12, ru, Nd.d, h, newChecker_Z, hv, h16, h16']
    · have h16' : ¬ (16 : Int) < (rvars a.nd b.nd c.nd).length := by omega
      simp [F12, ru, Nd.d, h, newChecker_Z, hv, h16, h16']
theorem rCheck_Z (ha : a.ks.size < 2^25) (hb : b.ks.size < 2^25) (hc : c.ks.size < 2^25) : Z prog (.call 13 [.dat (ru a.nd b.nd c.nd)] []) = some (.ret (.int (chk a b c)) []) := by
  have h := rc_loop ha hb hc
  have hv := rVariables_Z (a := a.nd) (b := b.nd) (c := c.nd) ha hb hc
  refine Z_call (pf := F13) rfl ?_
  unfold chk
  simp only [rbox, ru, Nd.d, hd_k, hd_n, hd_s, hd_f, hd_ks] at h hv
  cases hw : (a.well && (b.well && c.well)) with
  | false =>
    rw [hw] at h
    simp at h
    simp [F13, ru, Nd.d, h]
  | true =>
    rw [hw, if_pos rfl] at h
    rw [if_pos rfl]
    by_cases h16 : 16 < (rvars a.nd b.nd c.nd).length
    · have h16' : (16 : Int) < (rvars a.nd b.nd c.nd).length := by omega
      simp [F13, ru, Nd.d, h, hv, h16, h16']
    · have h16' : ¬ (16 : Int) < (rvars a.nd b.nd c.nd).length := by omega
      simp [F13, ru, Nd.d, h, hv, h16, h16']
end
end Go.Pm
