/- Chapter 14: the code's Variables. -/
import Derived.Test.YtebhnnjdljcicaaPmQ13
set_option linter.unusedSimpArgs false
set_option linter.unusedVariables false
namespace Go.Pm
open F
attribute [local simp] locs_mapM ren_mapM
theorem visLoop_nil {r : D} {j k0 n0 : Int} {s0 : ByteArray} {d0 d : D} {N : Nat} (h1 : V.one (.dat d) = true) (h2 : V.cells (.dat d) = [.dat d]) : VisLoop r j (boxO k0 n0 s0 d0) d N N [] :=
  ⟨⟨_, vs_endA h1 h2, .inl ⟨rfl, rfl⟩⟩, fun _ _ _ => vs_endB h1 h2, fun _ _ _ => vs_endC h1 h2⟩
theorem vis_fo {r : D} {j k0 n0 : Int} {s0 : ByteArray} {d0 : D} : ∀ (a : Fo) (i : Nat) (cs : List D) (N : Nat) (fl : Bool), cs.drop (i * 4) = a.cells → N = i + a.len → i + 2 * a.size < 2^27 →
    VisLoop r j (boxO k0 n0 s0 d0) (.sl cs N fl) N i a.vars
  | .nil, i, cs, N, fl, hc, hN, hb => by
    simp only [fo_len_nil, Nat.add_zero] at hN
    subst hN
    exact visLoop_nil rfl rfl
  | .cons k n s f ks rr, i, cs, N, fl, hc, hN, hb => by
    simp only [fo_cells_cons, fo_len_cons, fo_size_cons] at hc hN hb
    have h1 := fo_len_size rr
    have h2 := vars_len ks
    have h3 := vars_len rr
    have h4 : (if k = 1 ∨ k = 10 then [s] else []).length ≤ 1 := by split <;> simp
    have hk : VisLoop r j (boxO k0 n0 s0 d0) (kd f ks.len ks.cells) ks.len 0 ks.vars := by
      cases hz : ks.len with
      | zero =>
        have hn : ks = .nil := by cases ks <;> simp at hz; rfl
        subst hn
        exact visLoop_nil (by simp) (by simp)
      | succ m =>
        rw [kd_s, ← hz]
        exact vis_fo ks 0 ks.cells ks.len f rfl (by omega) (by omega)
    have e : (Fo.cons k n s f ks rr).vars = ((if k = 1 ∨ k = 10 then [s] else []) ++ ks.vars) ++ rr.vars := by rw [Fo.vars, List.append_assoc]
    rw [e]
    exact vis_step hc (by omega) (by omega) (by rw [List.length_append]; omega) (vis_node (by omega) hk) (vis_fo rr (i + 1) cs N fl (drop_next hc) (by omega) (by omega))
theorem vis_Z {r : D} {j k0 n0 : Int} {s0 : ByteArray} {d0 : D} (k n : Int) (s : ByteArray) (f : Bool) (ks : Fo) (hb : ks.size < 2^25) : VisOK r j (boxO k0 n0 s0 d0) (nd k n s f ks) ((if k = 1 ∨ k = 10 then [s] else []) ++ ks.vars) := by
  have h2 := vars_len ks
  refine vis_node (by omega) ?_
  cases hz : ks.len with
  | zero =>
    have hn : ks = .nil := by cases ks <;> simp at hz; rfl
    subst hn
    exact visLoop_nil (by simp) (by simp)
  | succ m =>
    rw [kd_s, ← hz]
    exact vis_fo ks 0 ks.cells ks.len f rfl (by omega) (by omega)
abbrev lp38 (r : D) (i : Int) : Ob := .loop ⟨[(3, .ptr 2 0), (4, .ptr 3 0), (12, .dat r), (13, .int i), (17, .fn 38 [] [.ptr 1 0])], [18], F15a0, F15b0, 0, none⟩
abbrev T0 (r : D) (j : Int) (bx : Ob) : S := [lp38 r j, bx, .cells [.dat (.lit (.slice none 0 0))], .cells [.mp 4], .map []]
abbrev T01 (r : D) (j : Int) (bx : Ob) (l : List ByteArray) : S := [lp38 r j, bx, .cells [.gsl (strC l) l.length 1 5], .cells [.mp 4], .map (mapM 0 l), .tip l.length]
abbrev T1 (r : D) (j : Int) (bx : Ob) (l : List ByteArray) : S := [lp38 r j, bx, .cells [.gsl (strC l) l.length 1 4], .cells [.mp 5], .tip l.length, .map (mapM 0 l)]
section
variable {r : D} {j : Int} {k n : Int} {s : ByteArray} {f : Bool} {ks : Fo} {xs : List ByteArray}
theorem n38_0 (h : VisOK r j (boxO k n s (kd f ks.len ks.cells)) (nd k n s f ks) xs) : ∃ S', Z prog (.call 38 [.yld 0, .ptr 1 0] (T0 r j (boxO k n s (kd f ks.len ks.cells)))) = some (.ret (.tup []) S') ∧
    ((addAll [] xs = [] ∧ S' = T0 r j (boxO k n s (kd f ks.len ks.cells))) ∨ (addAll [] xs ≠ [] ∧ S' = T01 r j (boxO k n s (kd f ks.len ks.cells)) (addAll [] xs))) := by
  obtain ⟨⟨S', h1, hg⟩, -⟩ := h
  simp only [boxO, S0, lpO] at h1
  rcases hg with ⟨he, rfl⟩ | ⟨he, rfl⟩
  · refine ⟨_, ?_, .inl ⟨he, rfl⟩⟩
    refine Z_call (pf := F38) rfl ?_
    simp [F38, h1, boxO, S0, lpO, List.range_succ]
  · refine ⟨_, ?_, .inr ⟨he, rfl⟩⟩
    refine Z_call (pf := F38) rfl ?_
    simp [F38, h1, boxO, S01, lpO, List.range_succ]
theorem n38_1 (h : VisOK r j (boxO k n s (kd f ks.len ks.cells)) (nd k n s f ks) xs) {l : List ByteArray} (hl : l ≠ []) (hb : l.length + xs.length < 2^29) : Z prog (.call 38 [.yld 0, .ptr 1 0] (T1 r j (boxO k n s (kd f ks.len ks.cells)) l)) = some (.ret (.tup []) (T1 r j (boxO k n s (kd f ks.len ks.cells)) (addAll l xs))) := by
  have h1 := h.2 l hl hb
  simp only [boxO, S1, lpO] at h1
  refine Z_call (pf := F38) rfl ?_
  simp [F38, h1, boxO, S1, lpO, List.range_succ]
theorem n32_Z : Z prog (.call 32 [nd k n s f ks] []) = some (.ret (.fn 38 [] [.ptr 0 0]) [boxO k n s (kd f ks.len ks.cells)]) := by
  refine Z_call (pf := F32) rfl ?_
  simp [F32, boxO]
end
end Go.Pm
