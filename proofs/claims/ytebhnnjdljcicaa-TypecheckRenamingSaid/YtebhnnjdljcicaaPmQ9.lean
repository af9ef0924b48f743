/- Chapter 14: the reference's word on blocks and conditions. -/
import Derived.Test.YtebhnnjdljcicaaPmQ8
set_option linter.unusedSimpArgs false
set_option linter.unusedVariables false
namespace Go.Pm
open F
section
abbrev wlO (k : Int) (s : ByteArray) (d : D) : S := [.cells [.int k, .int 0, .str s, .dat d]]
def wl0R (k : Int) (s : ByteArray) (d : D) (N : Nat) (b : Bool) : Option Res :=
  some (if b then .out (.exit 0) [(1, .ptr 0 0), (3, .int N), (17, .bool false)] (wlO k s d) else .out .ret [(2, .bool false)] (wlO k s d))
def wl1R (k : Int) (s : ByteArray) (d : D) (N : Nat) (t : Int) (b : Bool) : Option Res :=
  some (if b then .out (.exit 2) [(1, .ptr 0 0), (5, .int t), (6, .int N), (45, .bool false)] (wlO k s d) else .out .ret [(2, .bool false)] (wlO k s d))
variable {k n : Int} {s s' : ByteArray} {f fl : Bool} {ks : Fo} {w wr : Bool} {i N : Nat} {cs r : List D} {k' t : Int}
theorem wl0_step (hw : Z prog (.call 31 [nd k n s f ks] []) = some (.ret (.bool w) []))
    (hc : cs.drop (i * 4) = .lit (.int .i64 k) :: .lit (.int .i64 n) :: .lit (.string s) :: kd f ks.len ks.cells :: r) (hi : i < N) (hN : N < 2^40)
    (ih : w = true → Z prog (.loop 0 F31l0 [(1, .ptr 0 0), (3, .int (i + 1 : Nat))] (wlO k' s' (.sl cs N fl))) = wl0R k' s' (.sl cs N fl) N wr) :
    Z prog (.loop 0 F31l0 [(1, .ptr 0 0), (3, .int i)] (wlO k' s' (.sl cs N fl))) = wl0R k' s' (.sl cs N fl) N (w && wr) := by
  have h4 := cut4 hc
  have w1 := wrap64 ((i : Int) + 1) (by omega)
  have hi' : (i : Int) < N := by omega
  rw [Z_loop_eq]
  cases w with
  | true =>
    rw [Bool.true_and, ← ih rfl]
    simp [loopStep, run_F31l0, hi, hi', sliceAddr, h4, hw, w1, V.len]
  | false =>
    simp [loopStep, run_F31l0, hi, hi', sliceAddr, h4, hw, w1, V.len, wl0R]
theorem wl0_end (d : D) (h1 : V.one (.dat d) = true) (h2 : V.cells (.dat d) = [.dat d]) (hl : ∀ σ, V.len σ .sl (.dat d) = some N) : Z prog (.loop 0 F31l0 [(1, .ptr 0 0), (3, .int N)] (wlO k' s' d)) = wl0R k' s' d N true := by
  rw [Z_loop_eq]
  simp [loopStep, run_F31l0, wl0R, h1, h2, hl]
theorem wl1_step (hw : Z prog (.call 31 [nd k n s f ks] []) = some (.ret (.bool w) []))
    (hc : cs.drop (i * 4) = .lit (.int .i64 k) :: .lit (.int .i64 n) :: .lit (.string s) :: kd f ks.len ks.cells :: r) (hi : i < N) (hN : N < 2^40)
    (ih : w = true → Z prog (.loop 0 F31l1 [(1, .ptr 0 0), (5, .int t), (6, .int (i + 1 : Nat))] (wlO k' s' (.sl cs N fl))) = wl1R k' s' (.sl cs N fl) N t wr) :
    Z prog (.loop 0 F31l1 [(1, .ptr 0 0), (5, .int t), (6, .int i)] (wlO k' s' (.sl cs N fl))) = wl1R k' s' (.sl cs N fl) N t (w && wr) := by
  have h4 := cut4 hc
  have w1 := wrap64 ((i : Int) + 1) (by omega)
  have hi' : (i : Int) < N := by omega
  rw [Z_loop_eq]
  cases w with
  | true =>
    rw [Bool.true_and, ← ih rfl]
    simp [loopStep, run_F31l1, hi, hi', sliceAddr, h4, hw, w1, V.len]
  | false =>
    simp [loopStep, run_F31l1, hi, hi', sliceAddr, h4, hw, w1, V.len, wl1R]
theorem wl1_end : Z prog (.loop 0 F31l1 [(1, .ptr 0 0), (5, .int t), (6, .int N)] (wlO k' s' (.sl cs N fl))) = wl1R k' s' (.sl cs N fl) N t true := by
  rw [Z_loop_eq]
  simp [loopStep, run_F31l1, wl1R, V.len]
theorem wl_block {r : Fo} {z : Bool} (hr : Z prog (.loop 0 F31l0 [(1, .ptr 0 0), (3, .int 0)] (wlO 7 s (kd f r.len r.cells))) = wl0R 7 s (kd f r.len r.cells) r.len z) : Z prog (.call 31 [nd 7 0 s f r] []) = some (.ret (.bool z) []) := by
  refine Z_call (pf := F31) rfl ?_
  simp only [wl0R] at hr
  cases z <;> simp at hr <;> simp [F31, hr]
theorem wl_cond (w : Bool) {c : E} {r : Fo} {z : Bool} (hr : Z prog (.loop 0 F31l1 [(1, .ptr 0 0), (5, .int c.ty), (6, .int 1)] (wlO (if w then 4 else 3) s (kd f (c.fo r).len (c.fo r).cells))) = wl1R (if w then 4 else 3) s (kd f (c.fo r).len (c.fo r).cells) (c.fo r).len c.ty z) :
    Z prog (.call 31 [nd (if w then 4 else 3) 0 s f (c.fo r)] []) = some (.ret (.bool (decide (c.ty = 2) && z)) []) := by
  have h1 := rTypeOf_Z c
  have e1 : (0 : Int) < (r.len : Int) + 1 := by omega
  refine Z_call (pf := F31) rfl ?_
  simp only [wl1R] at hr
  cases w <;> cases z <;> simp at hr <;> simp [F31, h1, hr, sliceAddr, V.len, e1] <;> by_cases h : c.ty = 2 <;> simp [h]
end
/-- Both loops, over any row of statements. -/
theorem well_ss : ∀ (ss : Ss) (i : Nat) (cs : List D) (N : Nat) (fl : Bool), cs.drop (i * 4) = ss.fo.cells → N = i + ss.fo.len → i + ss.fo.size < 2^40 →
    (∀ k' s', Z prog (.loop 0 F31l0 [(1, .ptr 0 0), (3, .int i)] (wlO k' s' (.sl cs N fl))) = wl0R k' s' (.sl cs N fl) N ss.well) ∧
    (∀ k' s' t, Z prog (.loop 0 F31l1 [(1, .ptr 0 0), (5, .int t), (6, .int i)] (wlO k' s' (.sl cs N fl))) = wl1R k' s' (.sl cs N fl) N t ss.well)
  | .nil, i, cs, N, fl, hc, hN, hb => by
    simp only [Ss.fo, fo_len_nil, Nat.add_zero] at hN
    subst hN
    exact ⟨fun _ _ => wl0_end _ rfl rfl fun _ => by simp [V.len], fun _ _ _ => wl1_end⟩
  | .assign f s e r, i, cs, N, fl, hc, hN, hb => by
    simp only [Ss.fo, fo_cells_cons, fo_len_cons, fo_size_cons] at hc hN hb
    have := fo_len_size r.fo
    have ih := well_ss r (i + 1) cs N fl (drop_next hc) (by omega) (by omega)
    exact ⟨fun _ _ => wl0_step wl_assign hc (by omega) (by omega) fun _ => ih.1 _ _, fun _ _ _ => wl1_step wl_assign hc (by omega) (by omega) fun _ => ih.2 _ _ _⟩
  | .store f s a b r, i, cs, N, fl, hc, hN, hb => by
    simp only [Ss.fo, fo_cells_cons, fo_len_cons, fo_size_cons] at hc hN hb
    have := fo_len_size r.fo
    have ih := well_ss r (i + 1) cs N fl (drop_next hc) (by omega) (by omega)
    exact ⟨fun _ _ => wl0_step wl_store hc (by omega) (by omega) fun _ => ih.1 _ _, fun _ _ _ => wl1_step wl_store hc (by omega) (by omega) fun _ => ih.2 _ _ _⟩
  | .effect f a b r, i, cs, N, fl, hc, hN, hb => by
    simp only [Ss.fo, fo_cells_cons, fo_len_cons, fo_size_cons] at hc hN hb
    have := fo_len_size r.fo
    have ih := well_ss r (i + 1) cs N fl (drop_next hc) (by omega) (by omega)
    exact ⟨fun _ _ => wl0_step wl_effect hc (by omega) (by omega) fun _ => ih.1 _ _, fun _ _ _ => wl1_step wl_effect hc (by omega) (by omega) fun _ => ih.2 _ _ _⟩
  | .stop r, i, cs, N, fl, hc, hN, hb => by
    simp only [Ss.fo, fo_cells_cons, fo_len_cons, fo_size_cons] at hc hN hb
    have := fo_len_size r.fo
    have ih := well_ss r (i + 1) cs N fl (drop_next hc) (by omega) (by omega)
    rw [show (Ss.stop r).well = (true && r.well) from (Bool.true_and _).symm]
    exact ⟨fun _ _ => wl0_step wl_stop hc (by omega) (by omega) fun _ => ih.1 _ _, fun _ _ _ => wl1_step wl_stop hc (by omega) (by omega) fun _ => ih.2 _ _ _⟩
  | .cond w f c b r, i, cs, N, fl, hc, hN, hb => by
    simp only [Ss.fo, fo_cells_cons, fo_len_cons, fo_size_cons, fo_size] at hc hN hb
    have := fo_len_size r.fo
    have ih := well_ss r (i + 1) cs N fl (drop_next hc) (by omega) (by omega)
    have hb2 := (well_ss b 1 (c.fo b.fo).cells (c.fo b.fo).len f (by rw [cells_fo]; rfl) (by rw [len_fo]; omega) (by omega)).2 (if w then 4 else 3) ⟨#[]⟩ c.ty
    have hw := wl_cond (f := f) (s := ⟨#[]⟩) (c := c) (r := b.fo) (z := b.well) w (by rw [show kd f (c.fo b.fo).len (c.fo b.fo).cells = .sl (c.fo b.fo).cells (c.fo b.fo).len f by rw [len_fo]; rfl]; exact hb2)
    exact ⟨fun _ _ => wl0_step hw hc (by omega) (by omega) fun _ => ih.1 _ _, fun _ _ _ => wl1_step hw hc (by omega) (by omega) fun _ => ih.2 _ _ _⟩
  | .block f b r, i, cs, N, fl, hc, hN, hb => by
    simp only [Ss.fo, fo_cells_cons, fo_len_cons, fo_size_cons] at hc hN hb
    have := fo_len_size r.fo
    have ih := well_ss r (i + 1) cs N fl (drop_next hc) (by omega) (by omega)
    have hw : Z prog (.call 31 [nd 7 0 ⟨#[]⟩ f b.fo] []) = some (.ret (.bool b.well) []) := by
      refine wl_block ?_
      have h := (well_ss b 0 b.fo.cells b.fo.len f rfl (by omega) (by omega)).1 7 ⟨#[]⟩
      cases hb : b.fo.len with
      | zero =>
        have hn := nil_of_len hb
        subst hn
        exact wl0_end _ rfl rfl fun _ => by simp [V.len]
      | succ n => rw [kd_s, ← hb]; exact h
    exact ⟨fun _ _ => wl0_step hw hc (by omega) (by omega) fun _ => ih.1 _ _, fun _ _ _ => wl1_step hw hc (by omega) (by omega) fun _ => ih.2 _ _ _⟩
theorem Well_Z (f : Bool) (b : Ss) (hs : b.fo.size < 2^40) : Z prog (.call 31 [nd 7 0 ⟨#[]⟩ f b.fo] []) = some (.ret (.bool b.well) []) := by
  refine wl_block ?_
  have h := (well_ss b 0 b.fo.cells b.fo.len f rfl (by omega) (by omega)).1 7 ⟨#[]⟩
  cases hb : b.fo.len with
  | zero =>
    have hn := nil_of_len hb
    subst hn
    exact wl0_end _ rfl rfl fun _ => by simp [V.len]
  | succ n => rw [kd_s, ← hb]; exact h
end Go.Pm
