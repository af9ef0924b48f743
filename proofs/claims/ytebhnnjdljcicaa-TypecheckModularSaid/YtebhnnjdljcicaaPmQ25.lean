/- Chapter 14: the law of modules. -/
import Derived.Test.YtebhnnjdljcicaaPmQ24
set_option linter.unusedSimpArgs false
set_option linter.unusedVariables false
namespace Go.Pm
open F
theorem chk_13 (a b c : Hd) : (chk a b c = 13) ↔ (a.well && (b.well && c.well)) = false := by
  unfold chk
  cases (a.well && (b.well && c.well)) with
  | false => simp
  | true =>
    simp only [if_true]
    split <;> simp
theorem hd0k : Hd.k .none = 0 := rfl
theorem hd0f : Hd.f .none = false := rfl
theorem hd0s : Hd.ks .none = .nil := rfl
theorem hd_none_vars : Hd.none.nd.vars = [] := by simp [Nd.vars, Hd.k, Hd.ks, Fo.vars]
section
variable {a b c : Hd} {v : V} {σ : S} {l : List ByteArray} {w : Bool}
abbrev rb (a b c : Hd) : List V := [.int a.k, .int 0, .str ⟨#[]⟩, .dat (kd a.f a.ks.len a.ks.cells), .int b.k, .int 0, .str ⟨#[]⟩, .dat (kd b.f b.ks.len b.ks.cells), .int c.k, .int 0, .str ⟨#[]⟩, .dat (kd c.f c.ks.len c.ks.cells)]
abbrev m0fr (w : Bool) (v : V) (h : Int) : Fr := [(3, .ptr 0 0), (4, .bool w), (5, v), (6, .int h)]
theorem mo_step0 (hx : a.ks.size < 2^25) (hs : MoSt (.cells (rb a b c)) v σ l) (hl : l.length < 2^27) :
    ∃ v' σ', MoSt (.cells (rb a b c)) v' σ' (addAll l (addAll [] a.nd.vars)) ∧ Z prog (.loop 0 F4l0 (m0fr w v 0) σ) = Z prog (.loop 0 F4l0 (m0fr (w || !a.well) v' 1) σ') := by
  have hc := Check_Z (a := a) (b := .none) (c := .none) (by first | exact hx | simp [Hd.ks]) (by first | exact hx | simp [Hd.ks]) (by first | exact hx | simp [Hd.ks])
  have hv := Variables_Z (a := a.nd) (b := Hd.none.nd) (c := Hd.none.nd) (by first | exact hx | simp [Hd.ks]) (by first | exact hx | simp [Hd.ks]) (by first | exact hx | simp [Hd.ks])
  have e13 := chk_13 a .none .none
  rw [show rvars a.nd Hd.none.nd Hd.none.nd = addAll [] a.nd.vars by unfold rvars; simp [hd_none_vars]] at hv
  have hlen := addAll_len a.nd.vars []
  have hnl := nd_vars_len a.nd
  simp only [List.length_nil, Nat.zero_add, hd_ks] at hlen hnl
  generalize addAll [] a.nd.vars = ns at *
  obtain ⟨v', σ', k1, k2⟩ := m1_loop (x := rb a b c) (w := w || !a.well) (h := 0) (ns := ns) (by simp [rb]) (by simp [rb]) (by omega) ns.length 0 v σ l hs (by omega) (by omega)
  rw [List.drop_zero] at k1
  refine ⟨v', σ', k1, ?_⟩
  have hw13 : decide (chk a .none .none = 13) = !a.well := by
    rw [Bool.eq_iff_iff, decide_eq_true_eq, e13]
    cases a.well <;> simp [Hd.well]
  generalize chk a .none .none = ck at *
  have w1 := wrap64 1 (by omega)
  simp [ru, Nd.d, hd0k, hd0f, hd0s] at hc hv
  conv => lhs; rw [Z_loop_eq]
  cases hs with
  | a =>
    have k2' := (Z_loop_cong (k := 0) (b := F4l1) (fr := m1fr (w || !a.well) (.dat (.lit (.slice none 0 0))) 0 ns 0) (σ := [.cells (rb a b c), .cells [.int a.k, .int 0, .str ⟨#[]⟩, .dat (kd a.f a.ks.len a.ks.cells), .int 0, .int 0, .str ⟨#[]⟩, .dat (.lit (.slice none 0 0)), .int 0, .int 0, .str ⟨#[]⟩, .dat (.lit (.slice none 0 0))]]) (by simp [rb, m1fr])).trans k2
    simp [m1fr, rb] at k2'
    cases w with
    | true =>
      simp at k2'
      simp [loopStep, run_F4l0, hc, hv, k2', w1, rb]
    | false =>
      rw [← hw13] at *
      simp at k2'
      simp [loopStep, run_F4l0, hc, hv, k2', w1, rb]
  | b _ h0 =>
    have k2' := (Z_loop_cong (k := 0) (b := F4l1) (fr := m1fr (w || !a.well) (.gsl (strC l) l.length 1 1) 0 ns 0) (σ := [.cells (rb a b c), .tip l.length, .cells [.int a.k, .int 0, .str ⟨#[]⟩, .dat (kd a.f a.ks.len a.ks.cells), .int 0, .int 0, .str ⟨#[]⟩, .dat (.lit (.slice none 0 0)), .int 0, .int 0, .str ⟨#[]⟩, .dat (.lit (.slice none 0 0))]]) (by simp [rb, m1fr])).trans k2
    simp [m1fr, rb] at k2'
    cases w with
    | true =>
      simp at k2'
      simp [loopStep, run_F4l0, hc, hv, k2', w1, rb]
    | false =>
      rw [← hw13] at *
      simp at k2'
      simp [loopStep, run_F4l0, hc, hv, k2', w1, rb]
theorem mo_step1 (hx : b.ks.size < 2^25) (hs : MoSt (.cells (rb a b c)) v σ l) (hl : l.length < 2^27) :
    ∃ v' σ', MoSt (.cells (rb a b c)) v' σ' (addAll l (addAll [] b.nd.vars)) ∧ Z prog (.loop 0 F4l0 (m0fr w v 1) σ) = Z prog (.loop 0 F4l0 (m0fr (w || !b.well) v' 2) σ') := by
  have hc := Check_Z (a := .none) (b := b) (c := .none) (by first | exact hx | simp [Hd.ks]) (by first | exact hx | simp [Hd.ks]) (by first | exact hx | simp [Hd.ks])
  have hv := Variables_Z (a := Hd.none.nd) (b := b.nd) (c := Hd.none.nd) (by first | exact hx | simp [Hd.ks]) (by first | exact hx | simp [Hd.ks]) (by first | exact hx | simp [Hd.ks])
  have e13 := chk_13 .none b .none
  rw [show rvars Hd.none.nd b.nd Hd.none.nd = addAll [] b.nd.vars by unfold rvars; simp [hd_none_vars]] at hv
  have hlen := addAll_len b.nd.vars []
  have hnl := nd_vars_len b.nd
  simp only [List.length_nil, Nat.zero_add, hd_ks] at hlen hnl
  generalize addAll [] b.nd.vars = ns at *
  obtain ⟨v', σ', k1, k2⟩ := m1_loop (x := rb a b c) (w := w || !b.well) (h := 1) (ns := ns) (by simp [rb]) (by simp [rb]) (by omega) ns.length 0 v σ l hs (by omega) (by omega)
  rw [List.drop_zero] at k1
  refine ⟨v', σ', k1, ?_⟩
  have hw13 : decide (chk .none b .none = 13) = !b.well := by
    rw [Bool.eq_iff_iff, decide_eq_true_eq, e13]
    cases b.well <;> simp [Hd.well]
  generalize chk .none b .none = ck at *
  have w1 := wrap64 2 (by omega)
  simp [ru, Nd.d, hd0k, hd0f, hd0s] at hc hv
  conv => lhs; rw [Z_loop_eq]
  cases hs with
  | a =>
    have k2' := (Z_loop_cong (k := 0) (b := F4l1) (fr := m1fr (w || !b.well) (.dat (.lit (.slice none 0 0))) 1 ns 0) (σ := [.cells (rb a b c), .cells [.int 0, .int 0, .str ⟨#[]⟩, .dat (.lit (.slice none 0 0)), .int b.k, .int 0, .str ⟨#[]⟩, .dat (kd b.f b.ks.len b.ks.cells), .int 0, .int 0, .str ⟨#[]⟩, .dat (.lit (.slice none 0 0))]]) (by simp [rb, m1fr])).trans k2
    simp [m1fr, rb] at k2'
    cases w with
    | true =>
      simp at k2'
      simp [loopStep, run_F4l0, hc, hv, k2', w1, rb]
    | false =>
      rw [← hw13] at *
      simp at k2'
      simp [loopStep, run_F4l0, hc, hv, k2', w1, rb]
  | b _ h0 =>
    have k2' := (Z_loop_cong (k := 0) (b := F4l1) (fr := m1fr (w || !b.well) (.gsl (strC l) l.length 1 1) 1 ns 0) (σ := [.cells (rb a b c), .tip l.length, .cells [.int 0, .int 0, .str ⟨#[]⟩, .dat (.lit (.slice none 0 0)), .int b.k, .int 0, .str ⟨#[]⟩, .dat (kd b.f b.ks.len b.ks.cells), .int 0, .int 0, .str ⟨#[]⟩, .dat (.lit (.slice none 0 0))]]) (by simp [rb, m1fr])).trans k2
    simp [m1fr, rb] at k2'
    cases w with
    | true =>
      simp at k2'
      simp [loopStep, run_F4l0, hc, hv, k2', w1, rb]
    | false =>
      rw [← hw13] at *
      simp at k2'
      simp [loopStep, run_F4l0, hc, hv, k2', w1, rb]
theorem mo_step2 (hx : c.ks.size < 2^25) (hs : MoSt (.cells (rb a b c)) v σ l) (hl : l.length < 2^27) :
    ∃ v' σ', MoSt (.cells (rb a b c)) v' σ' (addAll l (addAll [] c.nd.vars)) ∧ Z prog (.loop 0 F4l0 (m0fr w v 2) σ) = Z prog (.loop 0 F4l0 (m0fr (w || !c.well) v' 3) σ') := by
  have hc := Check_Z (a := .none) (b := .none) (c := c) (by first | exact hx | simp [Hd.ks]) (by first | exact hx | simp [Hd.ks]) (by first | exact hx | simp [Hd.ks])
  have hv := Variables_Z (a := Hd.none.nd) (b := Hd.none.nd) (c := c.nd) (by first | exact hx | simp [Hd.ks]) (by first | exact hx | simp [Hd.ks]) (by first | exact hx | simp [Hd.ks])
  have e13 := chk_13 .none .none c
  rw [show rvars Hd.none.nd Hd.none.nd c.nd = addAll [] c.nd.vars by unfold rvars; simp [hd_none_vars]] at hv
  have hlen := addAll_len c.nd.vars []
  have hnl := nd_vars_len c.nd
  simp only [List.length_nil, Nat.zero_add, hd_ks] at hlen hnl
  generalize addAll [] c.nd.vars = ns at *
  obtain ⟨v', σ', k1, k2⟩ := m1_loop (x := rb a b c) (w := w || !c.well) (h := 2) (ns := ns) (by simp [rb]) (by simp [rb]) (by omega) ns.length 0 v σ l hs (by omega) (by omega)
  rw [List.drop_zero] at k1
  refine ⟨v', σ', k1, ?_⟩
  have hw13 : decide (chk .none .none c = 13) = !c.well := by
    rw [Bool.eq_iff_iff, decide_eq_true_eq, e13]
    cases c.well <;> simp [Hd.well]
  generalize chk .none .none c = ck at *
  have w1 := wrap64 3 (by omega)
  simp [ru, Nd.d, hd0k, hd0f, hd0s] at hc hv
  conv => lhs; rw [Z_loop_eq]
  cases hs with
  | a =>
    have k2' := (Z_loop_cong (k := 0) (b := F4l1) (fr := m1fr (w || !c.well) (.dat (.lit (.slice none 0 0))) 2 ns 0) (σ := [.cells (rb a b c), .cells [.int 0, .int 0, .str ⟨#[]⟩, .dat (.lit (.slice none 0 0)), .int 0, .int 0, .str ⟨#[]⟩, .dat (.lit (.slice none 0 0)), .int c.k, .int 0, .str ⟨#[]⟩, .dat (kd c.f c.ks.len c.ks.cells)]]) (by simp [rb, m1fr])).trans k2
    simp [m1fr, rb] at k2'
    cases w with
    | true =>
      simp at k2'
      simp [loopStep, run_F4l0, hc, hv, k2', w1, rb]
    | false =>
      rw [← hw13] at *
      simp at k2'
      simp [loopStep, run_F4l0, hc, hv, k2', w1, rb]
  | b _ h0 =>
    have k2' := (Z_loop_cong (k := 0) (b := F4l1) (fr := m1fr (w || !c.well) (.gsl (strC l) l.length 1 1) 2 ns 0) (σ := [.cells (rb a b c), .tip l.length, .cells [.int 0, .int 0, .str ⟨#[]⟩, .dat (.lit (.slice none 0 0)), .int 0, .int 0, .str ⟨#[]⟩, .dat (.lit (.slice none 0 0)), .int c.k, .int 0, .str ⟨#[]⟩, .dat (kd c.f c.ks.len c.ks.cells)]]) (by simp [rb, m1fr])).trans k2
    simp [m1fr, rb] at k2'
    cases w with
    | true =>
      simp at k2'
      simp [loopStep, run_F4l0, hc, hv, k2', w1, rb]
    | false =>
      rw [← hw13] at *
      simp at k2'
      simp [loopStep, run_F4l0, hc, hv, k2', w1, rb]
theorem mo_end (hs : MoSt (.cells (rb a b c)) v σ l) : Z prog (.loop 0 F4l0 (m0fr w v 3) σ) = some (.out (.exit 0) (m0fr w v 3 ++ [(16, .bool false)]) σ) := by
  rw [Z_loop_eq]
  cases hs with
  | a => simp [loopStep, run_F4l0]
  | b _ h0 => simp [loopStep, run_F4l0]
theorem mo_loop (ha : a.ks.size < 2^24) (hb : b.ks.size < 2^24) (hc : c.ks.size < 2^24) : ∃ v σ, MoSt (.cells (rb a b c)) v σ (rvars a.nd b.nd c.nd) ∧
    Z prog (.loop 0 F4l0 (m0fr false (.dat (.lit (.slice none 0 0))) 0) [.cells (rb a b c)]) = some (.out (.exit 0) (m0fr (!(a.well && (b.well && c.well))) v 3 ++ [(16, .bool false)]) σ) := by
  have la := nd_vars_len a.nd
  have lb := nd_vars_len b.nd
  simp only [hd_ks] at la lb
  obtain ⟨v1, σ1, h1, h2⟩ := mo_step0 (w := false) (by omega) (MoSt.a (x := .cells (rb a b c))) (by simp)
  rw [addAll_twice] at h1
  have l1 := addAll_len a.nd.vars []
  simp only [List.length_nil, Nat.zero_add] at l1
  obtain ⟨v2, σ2, h3, h4⟩ := mo_step1 (w := false || !a.well) (by omega) h1 (by omega)
  rw [addAll_twice] at h3
  have l2 := addAll_len b.nd.vars (addAll [] a.nd.vars)
  obtain ⟨v3, σ3, h5, h6⟩ := mo_step2 (w := (false || !a.well) || !b.well) (by omega) h3 (by omega)
  rw [addAll_twice] at h5
  refine ⟨v3, σ3, by unfold rvars; rw [addAll_app, addAll_app]; exact h5, ?_⟩
  refine h2.trans (h4.trans (h6.trans ?_))
  rw [mo_end h5]
  congr 3
  simp [Bool.not_and, Bool.or_assoc]
end
theorem Modular_Z {v : D} {xs : List Int} (h : RowV v xs) (hx : ∀ x ∈ xs, I64 x) : Z prog (.call 4 [.dat v] []) = some (.ret (.bool true) []) := by
  obtain ⟨a, b, c, ha, hb, hc, h1⟩ := Tree_Z h hx
  have h2 := Check_Z (a := a) (b := b) (c := c) (by omega) (by omega) (by omega)
  have h4 := Variables_Z (a := a.nd) (b := b.nd) (c := c.nd) (by simp only [hd_ks]; omega) (by simp only [hd_ks]; omega) (by simp only [hd_ks]; omega)
  have hl := rvars_len a b c (by omega) (by omega) (by omega)
  have h6 := Same_Z (l := rvars a.nd b.nd c.nd) (by omega)
  obtain ⟨v', σ', k1, k2⟩ := mo_loop (a := a) (b := b) (c := c) (by omega) (by omega) (by omega)
  refine Z_call (pf := F4) rfl ?_
  simp only [ru, Nd.d, hd_k, hd_n, hd_s, hd_f, hd_ks] at h1 h2 h4
  simp only [m0fr, rb, List.cons_append, List.nil_append] at k2
  have e13 := chk_13 a b c
  cases hw : (a.well && (b.well && c.well)) with
  | false =>
    rw [hw] at k2 e13
    have he := e13.2 rfl
    rw [he] at h2
    simp at k2
    generalize rvars a.nd b.nd c.nd = l at *
    cases k1 with
    | a => simp [F4, h1, h2, k2, lives_Z]
    | b _ h0 => simp [F4, h1, h2, k2, lives_Z]
  | true =>
    have he : chk a b c = if 16 < (rvars a.nd b.nd c.nd).length then 2 else 0 := by unfold chk; rw [if_pos hw]
    rw [hw] at k2
    rw [he] at h2
    simp at k2
    generalize hr : rvars a.nd b.nd c.nd = l at *
    cases k1 with
    | a =>
      simp [strD] at h4 h6
      simp at h2
      simp [F4, h1, h2, k2, h4, h6, lives_Z, V.len]
    | b _ h0 =>
      rw [strD_ne h0] at h4 h6
      by_cases h16 : 16 < l.length
      · have h16' : (16 : Int) < l.length := by omega
        simp [h16] at h2
        simp [F4, h1, h2, k2, lives_Z, h16, h16']
      · have h16' : ¬ (16 : Int) < l.length := by omega
        simp [h16] at h2
        simp [F4, h1, h2, k2, h4, h6, lives_Z, h16, h16']
end Go.Pm
