/- Chapter 14: the reference's names. -/
import Derived.Test.YtebhnnjdljcicaaPmQ10
set_option linter.unusedSimpArgs false
set_option linter.unusedVariables false
namespace Go.Pm
open F
theorem strD_ne {l : List ByteArray} (h : l ≠ []) : strD l = .sl (strC l) l.length false := by
  cases l with
  | nil => exact absurd rfl h
  | cons s l => rfl
theorem strC_one (s : ByteArray) : strC [s] = [.lit (.string s)] := rfl
theorem strC_app (a b : List ByteArray) : strC (a ++ b) = strC a ++ strC b := by simp [strC]
/-- The states at the head of the loop of names: what came in, the row so far, the store, the box's place. -/
inductive NmSt : S → V → S → Nat → List ByteArray → Ob → Prop
  | a (l : List ByteArray) (x : Ob) : NmSt [] (.dat (strD l)) [x] 0 l x
  | b (l : List ByteArray) (x : Ob) (m : Nat) (h : l ≠ []) : NmSt [] (.gsl (strC l) l.length 1 0) [.tip m, x] 1 l x
def StrN (v : V) (σ : S) (l : List ByteArray) : Prop := v = .dat (strD l) ∧ σ = []
abbrev boxO (k n : Int) (s : ByteArray) (d : D) : Ob := .cells [.int k, .int n, .str s, .dat d]
abbrev nmFr (v : V) (p : Nat) (i : Nat) : Fr := [(1, v), (2, .ptr p 0), (6, .int i)]
/-- The loop ends with some row v' that stands for l'. -/
def NmEnd (base : S) (v : V) (σ : S) (p i : Nat) (x : Ob) (N : Nat) (l' : List ByteArray) : Prop :=
  ∃ v' σ' p', NmSt base v' σ' p' l' x ∧ Z prog (.loop base.length F33l0 (nmFr v p i) σ) = some (.out (.exit 0) [(1, v'), (2, .ptr p' 0), (6, .int N), (34, .bool false)] σ')
theorem nm_end {base : S} {v : V} {σ : S} {p : Nat} {l : List ByteArray} {k n : Int} {s : ByteArray} {d : D} {N : Nat} (h1 : V.one (.dat d) = true) (h2 : V.cells (.dat d) = [.dat d]) (hl : ∀ σ, V.len σ .sl (.dat d) = some N)
    (h : NmSt base v σ p l (boxO k n s d)) : NmEnd base v σ p N (boxO k n s d) N l := by
  refine ⟨v, σ, p, h, ?_⟩
  rw [Z_loop_eq]
  cases h <;> simp [loopStep, run_F33l0, h1, h2, hl]
section
variable {k n k0 n0 : Int} {s s0 : ByteArray} {f fl : Bool} {ks : Fo} {i N : Nat} {cs r : List D} {l l1 l2 : List ByteArray}
theorem nm_step (hc : cs.drop (i * 4) = .lit (.int .i64 k) :: .lit (.int .i64 n) :: .lit (.string s) :: kd f ks.len ks.cells :: r) (hi : i < N) (hN : N < 2^40)
    (hw : ∀ v σ, StrN v σ l → Z prog (.call 33 [nd k n s f ks, v] σ) = some (.ret (.dat (strD l1)) σ))
    (ih : ∀ base v σ p, NmSt base v σ p l1 (boxO k0 n0 s0 (.sl cs N fl)) → NmEnd base v σ p (i + 1) (boxO k0 n0 s0 (.sl cs N fl)) N l2)
    {base : S} {v : V} {σ : S} {p : Nat} (h : NmSt base v σ p l (boxO k0 n0 s0 (.sl cs N fl))) : NmEnd base v σ p i (boxO k0 n0 s0 (.sl cs N fl)) N l2 := by
  have h4 := cut4 hc
  have w1 := wrap64 ((i : Int) + 1) (by omega)
  have hi' : (i : Int) < N := by omega
  unfold NmEnd
  cases h with
  | a =>
    obtain ⟨v', σ', p', h1, h2⟩ := ih _ _ _ _ (.a l1 _)
    refine ⟨v', σ', p', h1, ?_⟩
    have hw1 := hw _ _ ⟨rfl, rfl⟩
    rw [Z_loop_eq, ← h2]
    simp [loopStep, run_F33l0, hi, hi', sliceAddr, h4, hw1, w1, V.len]
    exact Z_loop_cong (by simp [nmFr, boxO])
  | b _ _ m h0 =>
    obtain ⟨v', σ', p', h1, h2⟩ := ih _ _ _ _ (.a l1 _)
    refine ⟨v', σ', p', h1, ?_⟩
    have hw1 := hw _ _ ⟨rfl, rfl⟩
    rw [strD_ne h0] at hw1
    rw [Z_loop_eq, ← h2]
    simp [loopStep, run_F33l0, hi, hi', sliceAddr, h4, hw1, w1, V.len]
    exact Z_loop_cong (by simp [nmFr, boxO])
end
section
variable {k n : Int} {s : ByteArray} {f : Bool} {ks : Fo} {l l' : List ByteArray}
/-- What the loop over the kids gives, from any row. -/
def NmLoop (k n : Int) (s : ByteArray) (f : Bool) (ks : Fo) (l l' : List ByteArray) : Prop :=
  ∀ base v σ p, NmSt base v σ p l (boxO k n s (kd f ks.len ks.cells)) → NmEnd base v σ p 0 (boxO k n s (kd f ks.len ks.cells)) ks.len l'
theorem names_skip_a (hk : (k ≠ 1 ∧ k ≠ 10) ∨ s ∈ l) (hl : l.length < 2^30) (h : NmLoop k n s f ks l l') : Z prog (.call 33 [nd k n s f ks, .dat (strD l)] []) = some (.ret (.dat (strD l')) []) := by
  obtain ⟨v', σ', p', h1, h2⟩ := h _ _ _ _ (.a l _)
  have hin := in_Z (strV_strD l) (by omega) s
  refine Z_call (pf := F33) rfl ?_
  have key : (k = 1 ∨ k = 10) → s ∈ l := fun hh => hk.resolve_left fun hn => by omega
  simp only [nmFr, boxO] at h2
  simp at h2
  by_cases k1 : k = 1
  · have hs := key (.inl k1)
    cases h1 with
    | a => simp [F33, hin, hs, k1] at h2 ⊢; simp [h2]
    | b _ _ m h0 => rw [strD_ne h0]; simp [F33, hin, hs, k1] at h2 ⊢; simp [h2]
  · by_cases k10 : k = 10
    · have hs := key (.inr k10)
      cases h1 with
      | a => simp [F33, hin, hs, k10] at h2 ⊢; simp [h2]
      | b _ _ m h0 => rw [strD_ne h0]; simp [F33, hin, hs, k10] at h2 ⊢; simp [h2]
    · cases h1 with
      | a => simp [F33, k1, k10] at h2 ⊢; simp [h2]
      | b _ _ m h0 => rw [strD_ne h0]; simp [F33, k1, k10] at h2 ⊢; simp [h2]
theorem names_add_nil (hk : k = 1 ∨ k = 10) (h : NmLoop k n s f ks [s] l') : Z prog (.call 33 [nd k n s f ks, .dat (strD [])] []) = some (.ret (.dat (strD l')) []) := by
  obtain ⟨v', σ', p', h1, h2⟩ := h _ _ _ _ (.b [s] _ 1 (by simp))
  have hin := in_Z (strV_strD []) (by simp) s
  refine Z_call (pf := F33) rfl ?_
  have h2' := (Z_loop_cong (k := 0) (b := F33l0) (fr := [(1, .gsl (strC [s]) 1 1 1), (2, .ptr 0 0), (6, .int 0)]) (σ := [boxO k n s (kd f ks.len ks.cells), .tip 1]) (by simp [nmFr, boxO])).trans h2
  simp only [nmFr, boxO] at h2'
  rw [show strD [] = .lit (.slice none 0 0) from rfl] at hin ⊢
  rcases hk with rfl | rfl
  · cases h1 with
    | a => simp [F33, hin, strC_one] at h2' ⊢; simp [h2', appendV, srcV, roomFor]
    | b _ _ m h0 => rw [strD_ne h0]; simp [F33, hin, strC_one] at h2' ⊢; simp [h2', appendV, srcV, roomFor]
  · cases h1 with
    | a => simp [F33, hin, strC_one] at h2' ⊢; simp [h2', appendV, srcV, roomFor]
    | b _ _ m h0 => rw [strD_ne h0]; simp [F33, hin, strC_one] at h2' ⊢; simp [h2', appendV, srcV, roomFor]
theorem names_add_dat (hk : k = 1 ∨ k = 10) (hs : s ∉ l) (h0 : l ≠ []) (hl : l.length < 2^30) (h : NmLoop k n s f ks (l ++ [s]) l') : Z prog (.call 33 [nd k n s f ks, .dat (strD l)] []) = some (.ret (.dat (strD l')) []) := by
  obtain ⟨v', σ', p', h1, h2⟩ := h _ _ _ _ (.b (l ++ [s]) _ (l.length + 1) (by simp))
  have hin := in_Z (strV_strD l) (by omega) s
  refine Z_call (pf := F33) rfl ?_
  have h2' := (Z_loop_cong (k := 0) (b := F33l0) (fr := [(1, .gsl (strC (l ++ [s])) (l ++ [s]).length 1 1), (2, .ptr 0 0), (6, .int 0)]) (σ := [boxO k n s (kd f ks.len ks.cells), .tip (l.length + 1)]) (by simp [nmFr, boxO])).trans h2
  have hn : l.length ≠ 0 := by simpa using h0
  have r1 : roomFor l.length 16 = true := by simp [roomFor]; omega
  have r2 : roomFor (l.length + 1) 16 = true := by simp [roomFor]; omega
  simp only [nmFr, boxO, strC_app] at h2'
  rw [strD_ne h0] at hin ⊢
  rcases hk with rfl | rfl
  · cases h1 with
    | a => simp [F33, hin, hs, strC_one] at h2' ⊢; simp [h2', appendV, srcV, r1, r2, h0]
    | b _ _ m h00 => rw [strD_ne h00]; simp [F33, hin, hs, strC_one] at h2' ⊢; simp [h2', appendV, srcV, r1, r2, h0]
  · cases h1 with
    | a => simp [F33, hin, hs, strC_one] at h2' ⊢; simp [h2', appendV, srcV, r1, r2, h0]
    | b _ _ m h00 => rw [strD_ne h00]; simp [F33, hin, hs, strC_one] at h2' ⊢; simp [h2', appendV, srcV, r1, r2, h0]
end
/-- One node: its own name, then those of its kids. -/
theorem names_node {k n : Int} {s : ByteArray} {f : Bool} {ks : Fo} {l l' : List ByteArray} (hl : l.length < 2^30)
    (h : NmLoop k n s f ks (addAll l (if k = 1 ∨ k = 10 then [s] else [])) l') {v : V} {σ : S} (hv : StrN v σ l) : Z prog (.call 33 [nd k n s f ks, v] σ) = some (.ret (.dat (strD l')) σ) := by
  obtain ⟨rfl, rfl⟩ := hv
  by_cases hk : k = 1 ∨ k = 10
  · simp only [if_pos hk, addAll, List.foldl_cons, List.foldl_nil, addN] at h
    by_cases hs : s ∈ l
    · simp only [if_pos hs] at h
      exact names_skip_a (.inr hs) hl h
    · simp only [if_neg hs] at h
      by_cases h0 : l = []
      · subst h0; exact names_add_nil hk h
      · exact names_add_dat hk hs h0 hl h
  · simp only [if_neg hk, addAll, List.foldl_nil] at h
    exact names_skip_a (.inl (by omega)) hl h
theorem names_fo : ∀ (a : Fo) (i : Nat) (cs : List D) (N : Nat) (fl : Bool) (l : List ByteArray) (k0 n0 : Int) (s0 : ByteArray), cs.drop (i * 4) = a.cells → N = i + a.len → i + 2 * a.size + l.length < 2^30 →
    ∀ base v σ p, NmSt base v σ p l (boxO k0 n0 s0 (.sl cs N fl)) → NmEnd base v σ p i (boxO k0 n0 s0 (.sl cs N fl)) N (addAll l a.vars)
  | .nil, i, cs, N, fl, l, k0, n0, s0, hc, hN, hb, base, v, σ, p, h => by
    simp only [fo_len_nil, Nat.add_zero] at hN
    subst hN
    exact nm_end rfl rfl (fun _ => by simp [V.len]) h
  | .cons k n s f ks r, i, cs, N, fl, l, k0, n0, s0, hc, hN, hb, base, v, σ, p, h => by
    simp only [fo_cells_cons, fo_len_cons, fo_size_cons] at hc hN hb
    have h1 := fo_len_size r
    have h2 := vars_len ks
    have h3 := addAll_len (if k = 1 ∨ k = 10 then [s] else []) l
    have h4 : (if k = 1 ∨ k = 10 then [s] else []).length ≤ 1 := by split <;> simp
    have h5 := addAll_len ks.vars (addAll l (if k = 1 ∨ k = 10 then [s] else []))
    have hk : NmLoop k n s f ks (addAll l (if k = 1 ∨ k = 10 then [s] else [])) (addAll (addAll l (if k = 1 ∨ k = 10 then [s] else [])) ks.vars) := by
      intro base v σ p hs
      cases hz : ks.len with
      | zero =>
        have hn : ks = .nil := by cases ks <;> simp at hz; rfl
        subst hn
        exact nm_end (by simp) (by simp) (by simp [V.len]) hs
      | succ m =>
        rw [hz, kd_s, ← hz] at hs
        rw [kd_s, ← hz]
        exact names_fo ks 0 ks.cells ks.len f _ k n s rfl (by omega) (by omega) base v σ p hs
    have hw : ∀ v σ, StrN v σ l → _ := fun v σ hv => names_node (by omega) hk hv
    have e : addAll l (Fo.cons k n s f ks r).vars = addAll (addAll (addAll l (if k = 1 ∨ k = 10 then [s] else [])) ks.vars) r.vars := by
      rw [Fo.vars, addAll_app, addAll_app]
    rw [e]
    exact nm_step hc (by omega) (by omega) hw (fun base v σ p hs => names_fo r (i + 1) cs N fl _ k0 n0 s0 (drop_next hc) (by omega) (by omega) base v σ p hs) h
/-- The names of one node, in a row that is given. -/
theorem names_Z (k n : Int) (s : ByteArray) (f : Bool) (ks : Fo) (l : List ByteArray) (hb : ks.size + l.length < 2^29) : Z prog (.call 33 [nd k n s f ks, .dat (strD l)] []) = some (.ret (.dat (strD (addAll l (Fo.cons k n s f ks .nil).vars))) []) := by
  have h3 := addAll_len (if k = 1 ∨ k = 10 then [s] else []) l
  have h4 : (if k = 1 ∨ k = 10 then [s] else []).length ≤ 1 := by split <;> simp
  have e : addAll l (Fo.cons k n s f ks .nil).vars = addAll (addAll l (if k = 1 ∨ k = 10 then [s] else [])) ks.vars := by
    rw [Fo.vars, addAll_app, show Fo.vars .nil = [] from rfl, List.append_nil]
  rw [e]
  refine names_node (by omega) (fun base v σ p hs => ?_) ⟨rfl, rfl⟩
  cases hz : ks.len with
  | zero =>
    have hn : ks = .nil := by cases ks <;> simp at hz; rfl
    subst hn
    exact nm_end (by simp) (by simp) (by simp [V.len]) hs
  | succ m =>
    rw [hz, kd_s, ← hz] at hs
    rw [kd_s, ← hz]
    exact names_fo ks 0 ks.cells ks.len f _ k n s rfl (by omega) (by omega) base v σ p hs
end Go.Pm
