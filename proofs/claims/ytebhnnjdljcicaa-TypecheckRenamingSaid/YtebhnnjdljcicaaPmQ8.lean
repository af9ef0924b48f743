/- Chapter 14: the checker's and the reference's word on rows of statements. -/
import Derived.Test.YtebhnnjdljcicaaPmQ7
set_option linter.unusedSimpArgs false
set_option linter.unusedVariables false
namespace Go.Pm
open F
theorem drop_next {cs r : List D} {i : Nat} {a b c d : D} (h : cs.drop (i * 4) = a :: b :: c :: d :: r) : cs.drop ((i + 1) * 4) = r := by
  rw [show (i + 1) * 4 = i * 4 + 4 by omega, ← List.drop_drop, h]
  rfl
theorem all_ss : ∀ (ss : Ss) (i : Nat) (cs : List D) (N : Nat) (fl : Bool), cs.drop (i * 4) = ss.fo.cells → N = i + ss.fo.len → i + ss.fo.size < 2^40 →
    ∃ g, Z prog (.loop 1 F37l0 (allFr i N (.sl cs N fl)) [.map tblE, .cells [.mp 0]]) = allR N (.sl cs N fl) ss.well g
  | .nil, i, cs, N, fl, hc, hN, hb => by
    simp only [Ss.fo, fo_len_nil, Nat.add_zero] at hN
    subst hN
    exact all_end _ _
  | .assign f s e r, i, cs, N, fl, hc, hN, hb => by
    simp only [Ss.fo, fo_cells_cons, fo_len_cons, fo_size_cons] at hc hN hb
    have := fo_len_size r.fo
    exact all_step wt_assign hc (by omega) (by omega) fun _ => all_ss r (i + 1) cs N fl (drop_next hc) (by omega) (by omega)
  | .store f s a b r, i, cs, N, fl, hc, hN, hb => by
    simp only [Ss.fo, fo_cells_cons, fo_len_cons, fo_size_cons] at hc hN hb
    have := fo_len_size r.fo
    exact all_step wt_store hc (by omega) (by omega) fun _ => all_ss r (i + 1) cs N fl (drop_next hc) (by omega) (by omega)
  | .effect f a b r, i, cs, N, fl, hc, hN, hb => by
    simp only [Ss.fo, fo_cells_cons, fo_len_cons, fo_size_cons] at hc hN hb
    have := fo_len_size r.fo
    exact all_step wt_effect hc (by omega) (by omega) fun _ => all_ss r (i + 1) cs N fl (drop_next hc) (by omega) (by omega)
  | .stop r, i, cs, N, fl, hc, hN, hb => by
    simp only [Ss.fo, fo_cells_cons, fo_len_cons, fo_size_cons] at hc hN hb
    have := fo_len_size r.fo
    have h := all_step (wr := r.well) wt_stop hc (by omega) (by omega) fun _ => all_ss r (i + 1) cs N fl (drop_next hc) (by omega) (by omega)
    rw [Bool.true_and] at h
    exact h
  | .cond w f c b r, i, cs, N, fl, hc, hN, hb => by
    simp only [Ss.fo, fo_cells_cons, fo_len_cons, fo_size_cons, fo_size] at hc hN hb
    have := fo_len_size r.fo
    have hw := wt_cond (c := c) (f := f) (s := ⟨#[]⟩) w (all_of_loop (f := false) (all_ss b 0 b.fo.cells b.fo.len false rfl (by omega) (by omega)))
    exact all_step hw hc (by omega) (by omega) fun _ => all_ss r (i + 1) cs N fl (drop_next hc) (by omega) (by omega)
  | .block f b r, i, cs, N, fl, hc, hN, hb => by
    simp only [Ss.fo, fo_cells_cons, fo_len_cons, fo_size_cons] at hc hN hb
    have := fo_len_size r.fo
    have hw : Z prog (.call 30 [.agg [.mp 0], nd 7 0 ⟨#[]⟩ f b.fo] [.map tblE]) = some (.ret (.bool b.well) [.map tblE]) := by
      refine wt_block ?_
      have h := all_of_loop (f := f) (all_ss b 0 b.fo.cells b.fo.len f rfl (by omega) (by omega))
      cases hb : b.fo.len with
      | zero =>
        have hn : b = .nil := by cases b <;> simp [Ss.fo] at hb; rfl
        subst hn
        exact all_nil
      | succ n => rw [kd_s, ← hb]; exact h
    exact all_step hw hc (by omega) (by omega) fun _ => all_ss r (i + 1) cs N fl (drop_next hc) (by omega) (by omega)
theorem nil_of_len {b : Ss} (hb : b.fo.len = 0) : b = .nil := by cases b <;> simp [Ss.fo] at hb; rfl
theorem wellTyped_Z (f : Bool) (b : Ss) (h : b.fo.size < 2^40) : Z prog (.call 30 [.agg [.mp 0], nd 7 0 ⟨#[]⟩ f b.fo] [.map tblE]) = some (.ret (.bool b.well) [.map tblE]) := by
  refine wt_block ?_
  have h := all_of_loop (f := f) (all_ss b 0 b.fo.cells b.fo.len f rfl (by omega) (by omega))
  cases hb : b.fo.len with
  | zero =>
    have hn := nil_of_len hb
    subst hn
    exact all_nil
  | succ n => rw [kd_s, ← hb]; exact h
/-! ### the reference -/
section
variable {e a b c : E} {f : Bool} {s : ByteArray}
attribute [local simp] loopStep Z_loop_eq V.len sliceAddr
theorem wl_assign : Z prog (.call 31 [nd 1 0 s f (e.fo .nil)] []) = some (.ret (.bool (decide (e.ty = 1))) []) := by
  have h1 := rTypeOf_Z e
  refine Z_call (pf := F31) rfl ?_
  by_cases h : e.ty = 1 <;> simp [F31, run_F31l2, h1, h, wrap64]
theorem wl_effect : Z prog (.call 31 [nd 5 0 s f (a.fo (b.fo .nil))] []) = some (.ret (.bool (decide (a.ty = 1) && decide (b.ty = 1))) []) := by
  have h1 := rTypeOf_Z a
  have h2 := rTypeOf_Z b
  refine Z_call (pf := F31) rfl ?_
  by_cases h : a.ty = 1
  · by_cases h' : b.ty = 1 <;> simp [F31, run_F31l2, h1, h2, h, h', wrap64]
  · simp [F31, run_F31l2, h1, h, wrap64]
theorem in_2 (σ : ByteArray) : Z prog (.call 28 [.dat (.sl [.lit (.string ⟨#[104, 105, 116]⟩), .lit (.string ⟨#[115, 116, 105, 108, 108]⟩)] 2 true), .str σ] []) = some (.ret (.bool (eqS σ hitS || eqS σ stillS)) []) := by
  refine Z_call (pf := F28) rfl ?_
  unfold hitS stillS
  have hc : ∀ a b : ByteArray, eqS a b = eqS b a := fun a b => by simp only [eqS, Bool.beq_comm, eq_comm]
  rw [hc σ, hc σ]
  cases hh : eqS ⟨#[104, 105, 116]⟩ σ with
  | true => simp [F28, run_F28l0, hh, wrap64]
  | false => cases hs : eqS ⟨#[115, 116, 105, 108, 108]⟩ σ <;> simp [F28, run_F28l0, hh, hs, wrap64]
theorem wl_store : Z prog (.call 31 [nd 2 0 s f (a.fo (b.fo .nil))] []) = some (.ret (.bool (!(eqS s hitS || eqS s stillS) && (decide (a.ty = 1) && decide (b.ty = 1)))) []) := by
  have h1 := rTypeOf_Z a
  have h2 := rTypeOf_Z b
  have h3 := in_2 s
  refine Z_call (pf := F31) rfl ?_
  generalize (eqS s hitS || eqS s stillS) = q at h3 ⊢
  cases q with
  | true => simp [F31, h3]
  | false =>
    by_cases h : a.ty = 1
    · by_cases h' : b.ty = 1 <;> simp [F31, run_F31l2, h1, h2, h, h', wrap64, h3]
    · simp [F31, run_F31l2, h1, h, wrap64, h3]
theorem wl_stop : Z prog (.call 31 [nd 6 0 s f .nil] []) = some (.ret (.bool true) []) := by
  refine Z_call (pf := F31) rfl ?_
  simp [F31, run_F31l2]
end
end Go.Pm
