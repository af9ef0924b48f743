/- Chapter 14: the code's walk over a tree. -/
import Derived.Test.YtebhnnjdljcicaaPmQ12
set_option linter.unusedSimpArgs false
set_option linter.unusedVariables false
namespace Go.Pm
open F
attribute [local simp] locs_mapM ren_mapM
section
variable {k n k0 n0 : Int} {s s0 : ByteArray} {f fl : Bool} {ks : Fo} {d0 d : D} {r : D} {j : Int} {l l1 l2 : List ByteArray} {i N : Nat} {cs c4 : List D}
abbrev vsFr (d : D) (N i : Nat) : Fr := [(1, .yld 0), (12, .dat d), (13, .int N), (14, .int i)]
abbrev vsOut (d : D) (N : Nat) (S' : S) : Option Res := some (.out (.exit 0) [(1, .yld 0), (12, .dat d), (13, .int N), (14, .int N), (15, .bool false)] S')
/-- The store behind a walk that began with no names. -/
def Got (r : D) (j : Int) (bx : Ob) (l : List ByteArray) (S' : S) : Prop := (l = [] ∧ S' = S0 r j bx) ∨ (l ≠ [] ∧ S' = S01 r j bx l)
theorem vs_endA (h1 : V.one (.dat d) = true) (h2 : V.cells (.dat d) = [.dat d]) : Z prog (.loop 5 F39l0 (vsFr d N N) (S0 r j (boxO k0 n0 s0 d0))) = vsOut d N (S0 r j (boxO k0 n0 s0 d0)) := by
  rw [Z_loop_eq]
  simp [loopStep, run_F39l0, boxO, List.range_succ]
theorem vs_endB (h1 : V.one (.dat d) = true) (h2 : V.cells (.dat d) = [.dat d]) : Z prog (.loop 5 F39l0 (vsFr d N N) (S01 r j (boxO k0 n0 s0 d0) l)) = vsOut d N (S01 r j (boxO k0 n0 s0 d0) l) := by
  rw [Z_loop_eq]
  simp [loopStep, run_F39l0, boxO, List.range_succ]
theorem vs_endC (h1 : V.one (.dat d) = true) (h2 : V.cells (.dat d) = [.dat d]) : Z prog (.loop 6 F39l0 (vsFr d N N) (S1 r j (boxO k0 n0 s0 d0) l)) = vsOut d N (S1 r j (boxO k0 n0 s0 d0) l) := by
  rw [Z_loop_eq]
  simp [loopStep, run_F39l0, boxO, List.range_succ]
/-- What the walk over one node does. -/
def VisOK (r : D) (j : Int) (bx : Ob) (nv : V) (xs : List ByteArray) : Prop :=
  (∃ S', Z prog (.call 39 [nv, .yld 0] (S0 r j bx)) = some (.ret (.bool true) S') ∧ Got r j bx (addAll [] xs) S') ∧
  ∀ l, l ≠ [] → l.length + xs.length < 2^29 → Z prog (.call 39 [nv, .yld 0] (S1 r j bx l)) = some (.ret (.bool true) (S1 r j bx (addAll l xs)))
/-- What the loop over the kids does. -/
def VisLoop (r : D) (j : Int) (bx : Ob) (d : D) (N i : Nat) (xs : List ByteArray) : Prop :=
  (∃ S', Z prog (.loop 5 F39l0 (vsFr d N i) (S0 r j bx)) = vsOut d N S' ∧ Got r j bx (addAll [] xs) S') ∧
  (∀ l, l ≠ [] → l.length + xs.length < 2^29 → Z prog (.loop 5 F39l0 (vsFr d N i) (S01 r j bx l)) = vsOut d N (S01 r j bx (addAll l xs))) ∧
  (∀ l, l ≠ [] → l.length + xs.length < 2^29 → Z prog (.loop 6 F39l0 (vsFr d N i) (S1 r j bx l)) = vsOut d N (S1 r j bx (addAll l xs)))
theorem addAll_ne (xs : List ByteArray) (h : l ≠ []) : addAll l xs ≠ [] := by
  have h1 := (addAll_len xs l).1
  intro he
  rw [he] at h1
  exact h (List.eq_nil_of_length_eq_zero (Nat.le_zero.1 h1))
theorem vis_step (hc : cs.drop (i * 4) = .lit (.int .i64 k) :: .lit (.int .i64 n) :: .lit (.string s) :: kd f ks.len ks.cells :: c4) (hi : i < N) (hN : N < 2^40) {xs ys : List ByteArray} (hx : xs.length + ys.length < 2^28)
    (hw : VisOK r j (boxO k0 n0 s0 d0) (nd k n s f ks) xs) (ih : VisLoop r j (boxO k0 n0 s0 d0) (.sl cs N fl) N (i + 1) ys) : VisLoop r j (boxO k0 n0 s0 d0) (.sl cs N fl) N i (xs ++ ys) := by
  have h4 := cut4 hc
  have w1 := wrap64 ((i : Int) + 1) (by omega)
  have hi' : (i : Int) < N := by omega
  obtain ⟨⟨S', hw0, hg⟩, hw1⟩ := hw
  obtain ⟨⟨T, ha, hT⟩, hb, hc'⟩ := ih
  have hlen := addAll_len xs []
  simp only [List.length_nil, Nat.zero_add] at hlen
  refine ⟨?_, fun l hl hb' => ?_, fun l hl hb' => ?_⟩
  · rw [addAll_app]
    rcases hg with ⟨he, rfl⟩ | ⟨he, rfl⟩
    · rw [he]
      refine ⟨T, ?_, hT⟩
      rw [Z_loop_eq, ← ha]
      simp only [boxO, S0, S01] at hw0
      simp [loopStep, run_F39l0, hi, hi', sliceAddr, h4, hw0, w1, V.len, boxO, List.range_succ]
      exact Z_loop_cong (by simp [List.range_succ])
    · refine ⟨_, ?_, .inr ⟨addAll_ne _ he, rfl⟩⟩
      have hb1 := hb (addAll [] xs) he (by omega)
      rw [Z_loop_eq, ← hb1]
      simp only [boxO, S0, S01] at hw0
      simp [loopStep, run_F39l0, hi, hi', sliceAddr, h4, hw0, w1, V.len, boxO, List.range_succ]
      exact Z_loop_cong (by simp [List.range_succ])
  · rw [List.length_append] at hb'
    have hl2 := addAll_len xs l
    have hb1 := hb (addAll l xs) (addAll_ne _ hl) (by omega)
    have hw2 := hw1 l hl (by omega)
    rw [addAll_app, Z_loop_eq, ← hb1]
    simp only [boxO, S1] at hw2
    simp [loopStep, run_F39l0, hi, hi', sliceAddr, h4, hw2, w1, V.len, boxO, List.range_succ]
    exact Z_loop_cong (by simp [List.range_succ])
  · rw [List.length_append] at hb'
    have hl2 := addAll_len xs l
    have hb1 := hc' (addAll l xs) (addAll_ne _ hl) (by omega)
    have hw2 := hw1 l hl (by omega)
    rw [addAll_app, Z_loop_eq, ← hb1]
    simp only [boxO, S1] at hw2
    simp [loopStep, run_F39l0, hi, hi', sliceAddr, h4, hw2, w1, V.len, boxO, List.range_succ]
    exact Z_loop_cong (by simp [List.range_succ])
theorem vis_node (hx : ks.vars.length < 2^28) (h : VisLoop r j (boxO k0 n0 s0 d0) (kd f ks.len ks.cells) ks.len 0 ks.vars) : VisOK r j (boxO k0 n0 s0 d0) (nd k n s f ks) ((if k = 1 ∨ k = 10 then [s] else []) ++ ks.vars) := by
  obtain ⟨⟨T, ha, hT⟩, hb, hc⟩ := h
  have h4 : (if k = 1 ∨ k = 10 then [s] else []).length ≤ 1 := by split <;> simp
  refine ⟨?_, fun l hl hb' => ?_⟩
  · obtain ⟨S', hr, hS⟩ := rd0 (k := k) (n := n) (s := s) (f := f) (ks := ks) (r := r) (j := j) (k0 := k0) (n0 := n0) (s0 := s0) (d0 := d0)
    have hlen := addAll_len (if k = 1 ∨ k = 10 then [s] else []) []
    simp only [List.length_nil, Nat.zero_add] at hlen
    rw [addAll_app]
    rcases hS with ⟨he, rfl⟩ | ⟨he, rfl⟩
    · rw [he]
      refine ⟨T, ?_, hT⟩
      refine Z_call (pf := F39) rfl ?_
      have ha' := (Z_loop_cong (k := 5) (b := F39l0) (fr := vsFr (kd f ks.len ks.cells) ks.len 0) (σ := S0 r j (boxO k0 n0 s0 d0) ++ [boxO k n s (kd f ks.len ks.cells)]) (by simp [boxO, List.range_succ])).trans ha
      simp only [boxO, vsFr, vsOut, lpO, S0, S01, S1, List.cons_append, List.nil_append, show ((0 : Nat) : Int) = 0 from rfl] at hr ha'
      rcases hT with ⟨hT, rfl⟩ | ⟨hT, rfl⟩ <;> simp [F39, hr, ha', boxO, S0, S01, lpO, List.range_succ]
    · refine ⟨S01 r j (boxO k0 n0 s0 d0) (addAll (addAll [] (if k = 1 ∨ k = 10 then [s] else [])) ks.vars), ?_, .inr ⟨addAll_ne _ he, rfl⟩⟩
      generalize addAll [] (if k = 1 ∨ k = 10 then [s] else []) = l at *
      have hb1 := hb l he (by omega)
      refine Z_call (pf := F39) rfl ?_
      have ha' := (Z_loop_cong (k := 5) (b := F39l0) (fr := vsFr (kd f ks.len ks.cells) ks.len 0) (σ := [lpO r j, .cells [.gsl (strC l) l.length 1 6], .cells [.mp 4], boxO k0 n0 s0 d0, .map (mapM 0 l), boxO k n s (kd f ks.len ks.cells), .tip l.length]) (by simp [boxO, List.range_succ])).trans hb1
      simp only [boxO, vsFr, vsOut, lpO, S0, S01, S1, List.cons_append, List.nil_append, show ((0 : Nat) : Int) = 0 from rfl] at hr ha'
      simp [F39, hr, ha', boxO, S0, S01, lpO, List.range_succ]
  · rw [List.length_append] at hb'
    have hl2 := addAll_len (if k = 1 ∨ k = 10 then [s] else []) l
    have hr := rd1 (k := k) (n := n) (s := s) (f := f) (ks := ks) (r := r) (j := j) (k0 := k0) (n0 := n0) (s0 := s0) (d0 := d0) hl (by omega)
    have he := addAll_ne (if k = 1 ∨ k = 10 then [s] else []) hl
    rw [addAll_app]
    generalize addAll l (if k = 1 ∨ k = 10 then [s] else []) = l' at *
    have hc1 := hc l' he (by omega)
    refine Z_call (pf := F39) rfl ?_
    have ha' := (Z_loop_cong (k := 6) (b := F39l0) (fr := vsFr (kd f ks.len ks.cells) ks.len 0) (σ := S1 r j (boxO k0 n0 s0 d0) l' ++ [boxO k n s (kd f ks.len ks.cells)]) (by simp [boxO, List.range_succ])).trans hc1
    simp only [boxO, vsFr, vsOut, lpO, S0, S01, S1, List.cons_append, List.nil_append, show ((0 : Nat) : Int) = 0 from rfl] at hr ha'
    simp [F39, hr, ha', boxO, S0, S01, lpO, List.range_succ]
end
end Go.Pm
