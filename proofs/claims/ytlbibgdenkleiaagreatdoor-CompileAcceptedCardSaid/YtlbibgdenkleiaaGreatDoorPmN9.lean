/- Chapter 15: Verify of the reference; Depth of the program. Chapter 15: both Verify, the law of operands. -/
import Derived.Test.YtlbibgdenkleiaaGreatDoorPmN6
set_option linter.unusedSimpArgs false
set_option linter.unusedVariables false
section SN9
namespace Go.Pm
open F Gr
def hFr (to : D) (x : Int) (k : Nat) : Fr := [(0, .dat to), (1, .int x), (5, .int k)]
theorem has_loop {to : D} {l : List Int} (hr : IsRow to l) (hl : l.length < 2^40) (x : Int) (m : Nat) : ∀ k : Nat, k + m = l.length →
    (x ∈ l.drop k → ∃ fr, fr.get 4 = some (.bool true) ∧ Z base15 (.loop 0 F143l0 (hFr to x k) []) = some (.out .ret fr [])) ∧
    (x ∉ l.drop k → Z base15 (.loop 0 F143l0 (hFr to x k) []) = some (.out (.exit 0) (hFr to x l.length ++ [(9, .bool false)]) [])) := by
  have hrl := hr.len
  induction m with
  | zero =>
    intro k hk
    have : k = l.length := by omega
    subst this
    refine ⟨fun h => by simp at h, fun _ => ?_⟩
    rw [Z_loop_eq]
    simp [loopStep, run_F143l0, hFr, hrl]
  | succ m ih =>
    intro k hk
    have hkl : k < l.length := by omega
    obtain ⟨ia, ib⟩ := ih (k + 1) (by omega)
    have h1 := hr.at_ k (by omega) (by omega)
    rw [show ((k : Int)).toNat = k by omega] at h1
    have h2 := cut1_intsC l k hkl
    have h2' : getN l k = l[k] := by simp [getN, List.getD_eq_getElem?_getD, hkl]
    rw [h2'] at h2
    have hk' : (k : Int) < l.length := by omega
    have w1 := wrap64 ((k : Int) + 1) (by omega)
    rw [List.drop_eq_getElem_cons hkl, List.mem_cons]
    generalize l[k] = y at *
    by_cases hxy : y = x
    · subst hxy
      refine ⟨fun _ => ⟨[(4, .bool true)], rfl, ?_⟩, fun h => absurd (.inl rfl) h⟩
      rw [Z_loop_eq]
      simp [loopStep, run_F143l0, hFr, hrl, h1, h2, hk']
    · have e : Z base15 (.loop 0 F143l0 (hFr to x k) []) = Z base15 (.loop 0 F143l0 (hFr to x (k + 1)) []) := by
        rw [Z_loop_eq]
        simp [loopStep, run_F143l0, hFr, hrl, h1, h2, hk', hxy, w1]
      rw [e]
      exact ⟨fun h => ia (by rcases h with h | h; exact absurd h.symm hxy; exact h), fun h => ib (fun hh => h (.inr hh))⟩
theorem has_Z {to : D} {l : List Int} (hr : IsRow to l) (hl : l.length < 2^40) (x : Int) : Z base15 (.call 143 [.dat to, .int x] []) = some (.ret (.bool (decide (x ∈ l))) []) := by
  obtain ⟨a, b⟩ := has_loop hr hl x l.length 0 (by omega)
  rw [List.drop_zero] at a b
  simp only [hFr] at a b
  rw [show ((0 : Nat) : Int) = 0 from rfl] at a b
  refine Z_call (pf := F143) rfl rfl ?_
  by_cases h : x ∈ l
  · obtain ⟨fr, g1, g2⟩ := a h
    simp [F143, g2, g1, h]
  · simp [F143, b h, h]
set_option maxHeartbeats 4000000
def w0Fr (n i : Nat) : Fr := [(1, .ptr 0 0), (3, .int n), (4, .int i)]
def w1Fr (n : Nat) (i : Int) : Fr := [(1, .ptr 0 0), (3, .int n), (6, .int i)]
def w2Fr (n : Nat) (acc i : Int) : Fr := [(1, .ptr 0 0), (3, .int n), (7, .int acc), (8, .int i)]
section
variable {d : D} {c : Cd} {e0 e1 e2 : Int}
theorem wloop15 (hd : IsCode d c) (hcl : c.length < 2^27) (m : Nat) : ∀ i : Nat, i + m = c.length →
    (okC c m i = true → Z base15 (.loop 0 F126l0 (w0Fr c.length i) (vS d e0 e1 e2)) = some (.out (.exit 0) (w0Fr c.length c.length ++ [(18, .bool false)]) (vS d e0 e1 e2))) ∧
    (okC c m i = false → ∃ σ, Z base15 (.loop 0 F126l0 (w0Fr c.length i) (vS d e0 e1 e2)) = some (.out .ret [(2, .int 14)] σ)) := by
  have ho := hd.one
  have hc := hd.cells
  have hlen := hd.len
  induction m with
  | zero =>
    intro i hi
    have : i = c.length := by omega
    subst this
    refine ⟨fun _ => ?_, fun h => by simp [okC] at h⟩
    rw [Z_loop_eq]
    simp [loopStep, run_F126l0, w0Fr, vS, List.range_succ, ho, hc]
  | succ m ih =>
    intro i hi
    obtain ⟨ea, eb⟩ := ih (i + 1) (by omega)
    have hi' : (i : Int) < c.length := by omega
    have hat := hd.at_ i (by omega) (by omega)
    rw [show ((i : Int)).toNat = i by omega] at hat
    have hcut := cut2_icC c i (by omega)
    have w1 := wrap64 ((i : Int) + 1) (by omega)
    have zv := operand15 (opA c i) (nA c i) c.length (by omega)
    have hI : (known15 (opA c i) && opnd (opA c i) (nA c i) c.length) = okI c i := rfl
    rw [hI] at zv
    simp only [okC]
    cases hok : okI c i with
    | false =>
      rw [hok] at zv
      refine ⟨fun h => by simp at h, fun _ => ?_⟩
      rw [Z_loop_eq]
      simp [loopStep, run_F126l0, w0Fr, vS, List.range_succ, hlen, hi', hat, hcut, zv, ho, hc]
    | true =>
      rw [hok] at zv
      rw [Bool.true_and]
      have e2 : Z base15 (.loop 0 F126l0 (w0Fr c.length i) (vS d e0 e1 e2)) = Z base15 (.loop 0 F126l0 (w0Fr c.length (i + 1)) (vS d e0 e1 e2)) := by
        rw [Z_loop_eq]
        simp [loopStep, run_F126l0, w0Fr, vS, List.range_succ, hlen, hi', hat, hcut, zv, w1, ho, hc]
      rw [e2]
      exact ⟨ea, eb⟩
theorem w1_0 (hd : IsCode d c) (hcl : c.length < 2^27) : Z base15 (.loop 0 F126l1 (w1Fr c.length 0) (vS d e0 e1 e2)) = if okE c e0 then Z base15 (.loop 0 F126l1 (w1Fr c.length 1) (vS d e0 e1 e2)) else some (.out .ret [(2, .int 14)] (vS d e0 e1 e2)) := by
  have ho := hd.one
  have hc := hd.cells
  have w : IntKind.i64.wrap 1 = 1 := rfl
  unfold okE
  by_cases a : e0 < -1
  · have a' : ¬ -1 ≤ e0 := by omega
    rw [Z_loop_eq]
    simp [loopStep, run_F126l1, w1Fr, vS, List.range_succ, a, a', ho, hc]
  · have a' : -1 ≤ e0 := by omega
    by_cases b : (c.length : Int) ≤ e0
    · have b' : ¬ e0 < c.length := by omega
      rw [Z_loop_eq]
      simp [loopStep, run_F126l1, w1Fr, vS, List.range_succ, a, a', b, b', ho, hc]
    · have b' : e0 < c.length := by omega
      rw [Z_loop_eq]
      simp [loopStep, run_F126l1, w1Fr, vS, List.range_succ, a, a', b, b', w, ho, hc]
theorem w2n_0 (hd : IsCode d c) (hops : ∀ i, i < c.length → 1 ≤ opA c i ∧ opA c i ≤ 21) (hcl : c.length < 2^27) (acc : Int) (a : e0 < 0) : Z base15 (.loop 0 F126l2 (w2Fr c.length acc 0) (vS d e0 e1 e2)) = Z base15 (.loop 0 F126l2 (w2Fr c.length acc 1) (vS d e0 e1 e2)) := by
  have ho := hd.one
  have hc := hd.cells
  have w : IntKind.i64.wrap 1 = 1 := rfl
  have a' : ¬ 0 ≤ e0 := by omega
  have z1 := rdep_neg (e0 := e0) (e1 := e1) (e2 := e2) hd hcl a
  have z2 := rdepth_of (e0 := e0) (e1 := e1) (e2 := e2) hd hops hcl (h := 0) (by omega) (by omega) (out := List.replicate c.length (-1)) (ok := true) (by simp) (fun i => by simp only [gD, List.getD_eq_getElem?_getD, List.getElem?_replicate]; split <;> simp) z1
  rw [rmax_neg c c.length c.length (Nat.le_refl _)] at z2
  simp only [pgD] at z1 z2
  generalize c.length = n at *
  generalize intsC (List.replicate n (-1)) = I at *
  by_cases hn : 0 < n
  · have hn2 : (0 : Int) < n := by omega
    rw [Z_loop_eq]
    simp [loopStep, run_F126l2, w2Fr, vS, List.range_succ, a', w, ho, hc, z1, z2, hn, hn2, calm, alone]
  · have hn2 : ¬ (0 : Int) < n := by omega
    rw [Z_loop_eq]
    simp [loopStep, run_F126l2, w2Fr, vS, List.range_succ, a', w, ho, hc, z1, z2, hn, hn2, calm, alone]
theorem w2_0 (hd : IsCode d c) (hf : Fits c) (hjm : ∀ i, i < c.length → opA c i = 18 ∨ opA c i = 19 → nA c i < c.length) (hops : ∀ i, i < c.length → 1 ≤ opA c i ∧ opA c i ≤ 21) (hcl : c.length < 2^27) (he : e0 < c.length) (acc : Int) (a : ¬ e0 < 0) :
    (fallsB c e0 = true → ∃ σ, Z base15 (.loop 0 F126l2 (w2Fr c.length acc 0) (vS d e0 e1 e2)) = some (.out .ret [(2, .int 14)] σ)) ∧
    (fallsB c e0 = false → Z base15 (.loop 0 F126l2 (w2Fr c.length acc 0) (vS d e0 e1 e2)) = Z base15 (.loop 0 F126l2 (w2Fr c.length (if safeB c e0 then acc else 15) 1) (vS d e0 e1 e2))) := by
  have ho := hd.one
  have hc := hd.cells
  have w : IntKind.i64.wrap 1 = 1 := rfl
  obtain ⟨fl, br, dp, h1, _⟩ := ana_Z (e0 := e0) (e1 := e1) (e2 := e2) hd hf hops hcl (e := e0.toNat) (by omega)
  have h3 := ana_falls h1
  have h4 := ana_safe h1
  obtain ⟨out, ok, r1, r2, r3⟩ := rdep_pos (e0 := e0) (e1 := e1) (e2 := e2) hd hf hops hcl (e := e0.toNat) (by omega)
  have u := unsafe_eq h1 r1 (fun D hD => rmax_most (by omega) r1 D hD)
  have f := falls_eq hjm (by omega) h1 r1
  rw [show ((e0.toNat : Nat) : Int) = e0 by omega] at h3 h4 r3
  have z2 := rdepth_of (e0 := e0) (e1 := e1) (e2 := e2) hd hops hcl (h := 0) (by omega) (by omega) r1.len r2 r3
  generalize rmax c out c.length = M at *
  have hn : (0 : Int) < c.length := by omega
  have a' : 0 ≤ e0 := by omega
  have w9 : IntKind.i64.wrap ((c.length : Int) - 1) = ((c.length - 1 : Nat) : Int) := by rw [wrap64 _ (by omega)]; omega
  have s1 := row_at (intsC out) c.length (c.length - 1) (by omega)
  have q1 := cut1_intsC out (c.length - 1) (by rw [r1.len]; omega)
  have hg : getN out (c.length - 1) = gD out (c.length - 1) := rfl
  rw [hg] at q1
  have hsu := rsucs_Z (e0 := e0) (e1 := e1) (e2 := e2) hd (i := c.length - 1) (by omega) (by omega)
  have hha := has_Z (sucD_row c (c.length - 1)) (by unfold sucs; split <;> (try split) <;> (try split) <;> simp) (c.length : Int)
  simp only [pgD] at r3 z2 hsu
  rw [← h3, ← h4]
  generalize gD out (c.length - 1) = G at *
  generalize hMM : decide ((c.length : Int) ∈ sucs c (c.length - 1)) = MM at *
  have f' : fl = (decide (0 ≤ G) && MM) := by
    rw [← hMM, Bool.eq_iff_iff, f]; simp
  have hnN : 0 < c.length := by omega
  generalize hnn : c.length = nn at *
  generalize intsC out = IO at *
  by_cases hG : 0 ≤ G
  · cases MM with
    | true =>
      have hfl : fl = true := by rw [f']; simp [hG]
      rw [hfl]
      refine ⟨fun _ => ?_, fun h => by simp at h⟩
      rw [Z_loop_eq]
      simp [loopStep, run_F126l2, w2Fr, vS, List.range_succ, a', hn, hnN, w9, s1, q1, hG, hsu, hha, w, ho, hc, r3, calm, alone]
    | false =>
      have hfl : fl = false := by rw [f']; simp
      rw [hfl]
      refine ⟨fun h => by simp at h, fun _ => ?_⟩
      cases hok : ok with
      | false =>
        have hb : (!br && decide (dp ≤ 16)) = false := by
          cases hh : (!br && decide (dp ≤ 16)) with
          | false => rfl
          | true =>
            simp only [Bool.and_eq_true, Bool.not_eq_true', decide_eq_true_eq] at hh
            have := (u.1 hh).1
            rw [hok] at this; cases this
        rw [hb, Z_loop_eq]
        rw [hok] at r3
        simp [loopStep, run_F126l2, w2Fr, vS, List.range_succ, a', hn, hnN, w9, s1, q1, hG, hsu, hha, w, ho, hc, r3, calm, alone]
      | true =>
        rw [hok] at r3 u
        by_cases hM : 16 < M
        · have hb : (!br && decide (dp ≤ 16)) = false := by
            cases hh : (!br && decide (dp ≤ 16)) with
            | false => rfl
            | true =>
              simp only [Bool.and_eq_true, Bool.not_eq_true', decide_eq_true_eq] at hh
              have := (u.1 hh).2
              omega
          rw [hb, Z_loop_eq]
          simp [loopStep, run_F126l2, w2Fr, vS, List.range_succ, a', hn, hnN, w9, s1, q1, hG, hsu, hha, w, ho, hc, r3, z2, hM, calm, alone]
        · have hb : (!br && decide (dp ≤ 16)) = true := by
            have := u.2 ⟨rfl, by omega⟩
            simp [this]
          rw [hb, Z_loop_eq]
          simp [loopStep, run_F126l2, w2Fr, vS, List.range_succ, a', hn, hnN, w9, s1, q1, hG, hsu, hha, w, ho, hc, r3, z2, hM, calm, alone]
  · have hfl : fl = false := by rw [f']; simp [hG]
    rw [hfl]
    refine ⟨fun h => by simp at h, fun _ => ?_⟩
    cases hok : ok with
    | false =>
      have hb : (!br && decide (dp ≤ 16)) = false := by
        cases hh : (!br && decide (dp ≤ 16)) with
        | false => rfl
        | true =>
          simp only [Bool.and_eq_true, Bool.not_eq_true', decide_eq_true_eq] at hh
          have := (u.1 hh).1
          rw [hok] at this; cases this
      rw [hb, Z_loop_eq]
      rw [hok] at r3
      simp [loopStep, run_F126l2, w2Fr, vS, List.range_succ, a', hn, hnN, w9, s1, q1, hG, w, ho, hc, r3, calm, alone]
    | true =>
      rw [hok] at r3 u
      by_cases hM : 16 < M
      · have hb : (!br && decide (dp ≤ 16)) = false := by
          cases hh : (!br && decide (dp ≤ 16)) with
          | false => rfl
          | true =>
            simp only [Bool.and_eq_true, Bool.not_eq_true', decide_eq_true_eq] at hh
            have := (u.1 hh).2
            omega
        rw [hb, Z_loop_eq]
        simp [loopStep, run_F126l2, w2Fr, vS, List.range_succ, a', hn, hnN, w9, s1, q1, hG, w, ho, hc, r3, z2, hM, calm, alone]
      · have hb : (!br && decide (dp ≤ 16)) = true := by
          have := u.2 ⟨rfl, by omega⟩
          simp [this]
        rw [hb, Z_loop_eq]
        simp [loopStep, run_F126l2, w2Fr, vS, List.range_succ, a', hn, hnN, w9, s1, q1, hG, w, ho, hc, r3, z2, hM, calm, alone]
theorem w1_1 (hd : IsCode d c) (hcl : c.length < 2^27) : Z base15 (.loop 0 F126l1 (w1Fr c.length 1) (vS d e0 e1 e2)) = if okE c e1 then Z base15 (.loop 0 F126l1 (w1Fr c.length 2) (vS d e0 e1 e2)) else some (.out .ret [(2, .int 14)] (vS d e0 e1 e2)) := by
  have ho := hd.one
  have hc := hd.cells
  have w : IntKind.i64.wrap 2 = 2 := rfl
  unfold okE
  by_cases a : e1 < -1
  · have a' : ¬ -1 ≤ e1 := by omega
    rw [Z_loop_eq]
    simp [loopStep, run_F126l1, w1Fr, vS, List.range_succ, a, a', ho, hc]
  · have a' : -1 ≤ e1 := by omega
    by_cases b : (c.length : Int) ≤ e1
    · have b' : ¬ e1 < c.length := by omega
      rw [Z_loop_eq]
      simp [loopStep, run_F126l1, w1Fr, vS, List.range_succ, a, a', b, b', ho, hc]
    · have b' : e1 < c.length := by omega
      rw [Z_loop_eq]
      simp [loopStep, run_F126l1, w1Fr, vS, List.range_succ, a, a', b, b', w, ho, hc]
theorem w2n_1 (hd : IsCode d c) (hops : ∀ i, i < c.length → 1 ≤ opA c i ∧ opA c i ≤ 21) (hcl : c.length < 2^27) (acc : Int) (a : e1 < 0) : Z base15 (.loop 0 F126l2 (w2Fr c.length acc 1) (vS d e0 e1 e2)) = Z base15 (.loop 0 F126l2 (w2Fr c.length acc 2) (vS d e0 e1 e2)) := by
  have ho := hd.one
  have hc := hd.cells
  have w : IntKind.i64.wrap 2 = 2 := rfl
  have a' : ¬ 0 ≤ e1 := by omega
  have z1 := rdep_neg (e0 := e0) (e1 := e1) (e2 := e2) hd hcl a
  have z2 := rdepth_of (e0 := e0) (e1 := e1) (e2 := e2) hd hops hcl (h := 1) (by omega) (by omega) (out := List.replicate c.length (-1)) (ok := true) (by simp) (fun i => by simp only [gD, List.getD_eq_getElem?_getD, List.getElem?_replicate]; split <;> simp) z1
  rw [rmax_neg c c.length c.length (Nat.le_refl _)] at z2
  simp only [pgD] at z1 z2
  generalize c.length = n at *
  generalize intsC (List.replicate n (-1)) = I at *
  by_cases hn : 0 < n
  · have hn2 : (0 : Int) < n := by omega
    rw [Z_loop_eq]
    simp [loopStep, run_F126l2, w2Fr, vS, List.range_succ, a', w, ho, hc, z1, z2, hn, hn2, calm, alone]
  · have hn2 : ¬ (0 : Int) < n := by omega
    rw [Z_loop_eq]
    simp [loopStep, run_F126l2, w2Fr, vS, List.range_succ, a', w, ho, hc, z1, z2, hn, hn2, calm, alone]
theorem w2_1 (hd : IsCode d c) (hf : Fits c) (hjm : ∀ i, i < c.length → opA c i = 18 ∨ opA c i = 19 → nA c i < c.length) (hops : ∀ i, i < c.length → 1 ≤ opA c i ∧ opA c i ≤ 21) (hcl : c.length < 2^27) (he : e1 < c.length) (acc : Int) (a : ¬ e1 < 0) :
    (fallsB c e1 = true → ∃ σ, Z base15 (.loop 0 F126l2 (w2Fr c.length acc 1) (vS d e0 e1 e2)) = some (.out .ret [(2, .int 14)] σ)) ∧
    (fallsB c e1 = false → Z base15 (.loop 0 F126l2 (w2Fr c.length acc 1) (vS d e0 e1 e2)) = Z base15 (.loop 0 F126l2 (w2Fr c.length (if safeB c e1 then acc else 15) 2) (vS d e0 e1 e2))) := by
  have ho := hd.one
  have hc := hd.cells
  have w : IntKind.i64.wrap 2 = 2 := rfl
  obtain ⟨fl, br, dp, h1, _⟩ := ana_Z (e0 := e0) (e1 := e1) (e2 := e2) hd hf hops hcl (e := e1.toNat) (by omega)
  have h3 := ana_falls h1
  have h4 := ana_safe h1
  obtain ⟨out, ok, r1, r2, r3⟩ := rdep_pos (e0 := e0) (e1 := e1) (e2 := e2) hd hf hops hcl (e := e1.toNat) (by omega)
  have u := unsafe_eq h1 r1 (fun D hD => rmax_most (by omega) r1 D hD)
  have f := falls_eq hjm (by omega) h1 r1
  rw [show ((e1.toNat : Nat) : Int) = e1 by omega] at h3 h4 r3
  have z2 := rdepth_of (e0 := e0) (e1 := e1) (e2 := e2) hd hops hcl (h := 1) (by omega) (by omega) r1.len r2 r3
  generalize rmax c out c.length = M at *
  have hn : (0 : Int) < c.length := by omega
  have a' : 0 ≤ e1 := by omega
  have w9 : IntKind.i64.wrap ((c.length : Int) - 1) = ((c.length - 1 : Nat) : Int) := by rw [wrap64 _ (by omega)]; omega
  have s1 := row_at (intsC out) c.length (c.length - 1) (by omega)
  have q1 := cut1_intsC out (c.length - 1) (by rw [r1.len]; omega)
  have hg : getN out (c.length - 1) = gD out (c.length - 1) := rfl
  rw [hg] at q1
  have hsu := rsucs_Z (e0 := e0) (e1 := e1) (e2 := e2) hd (i := c.length - 1) (by omega) (by omega)
  have hha := has_Z (sucD_row c (c.length - 1)) (by unfold sucs; split <;> (try split) <;> (try split) <;> simp) (c.length : Int)
  simp only [pgD] at r3 z2 hsu
  rw [← h3, ← h4]
  generalize gD out (c.length - 1) = G at *
  generalize hMM : decide ((c.length : Int) ∈ sucs c (c.length - 1)) = MM at *
  have f' : fl = (decide (0 ≤ G) && MM) := by
    rw [← hMM, Bool.eq_iff_iff, f]; simp
  have hnN : 0 < c.length := by omega
  generalize hnn : c.length = nn at *
  generalize intsC out = IO at *
  by_cases hG : 0 ≤ G
  · cases MM with
    | true =>
      have hfl : fl = true := by rw [f']; simp [hG]
      rw [hfl]
      refine ⟨fun _ => ?_, fun h => by simp at h⟩
      rw [Z_loop_eq]
      simp [loopStep, run_F126l2, w2Fr, vS, List.range_succ, a', hn, hnN, w9, s1, q1, hG, hsu, hha, w, ho, hc, r3, calm, alone]
    | false =>
      have hfl : fl = false := by rw [f']; simp
      rw [hfl]
      refine ⟨fun h => by simp at h, fun _ => ?_⟩
      cases hok : ok with
      | false =>
        have hb : (!br && decide (dp ≤ 16)) = false := by
          cases hh : (!br && decide (dp ≤ 16)) with
          | false => rfl
          | true =>
            simp only [Bool.and_eq_true, Bool.not_eq_true', decide_eq_true_eq] at hh
            have := (u.1 hh).1
            rw [hok] at this; cases this
        rw [hb, Z_loop_eq]
        rw [hok] at r3
        simp [loopStep, run_F126l2, w2Fr, vS, List.range_succ, a', hn, hnN, w9, s1, q1, hG, hsu, hha, w, ho, hc, r3, calm, alone]
      | true =>
        rw [hok] at r3 u
        by_cases hM : 16 < M
        · have hb : (!br && decide (dp ≤ 16)) = false := by
            cases hh : (!br && decide (dp ≤ 16)) with
            | false => rfl
            | true =>
              simp only [Bool.and_eq_true, Bool.not_eq_true', decide_eq_true_eq] at hh
              have := (u.1 hh).2
              omega
          rw [hb, Z_loop_eq]
          simp [loopStep, run_F126l2, w2Fr, vS, List.range_succ, a', hn, hnN, w9, s1, q1, hG, hsu, hha, w, ho, hc, r3, z2, hM, calm, alone]
        · have hb : (!br && decide (dp ≤ 16)) = true := by
            have := u.2 ⟨rfl, by omega⟩
            simp [this]
          rw [hb, Z_loop_eq]
          simp [loopStep, run_F126l2, w2Fr, vS, List.range_succ, a', hn, hnN, w9, s1, q1, hG, hsu, hha, w, ho, hc, r3, z2, hM, calm, alone]
  · have hfl : fl = false := by rw [f']; simp [hG]
    rw [hfl]
    refine ⟨fun h => by simp at h, fun _ => ?_⟩
    cases hok : ok with
    | false =>
      have hb : (!br && decide (dp ≤ 16)) = false := by
        cases hh : (!br && decide (dp ≤ 16)) with
        | false => rfl
        | true =>
          simp only [Bool.and_eq_true, Bool.not_eq_true', decide_eq_true_eq] at hh
          have := (u.1 hh).1
          rw [hok] at this; cases this
      rw [hb, Z_loop_eq]
      rw [hok] at r3
      simp [loopStep, run_F126l2, w2Fr, vS, List.range_succ, a', hn, hnN, w9, s1, q1, hG, w, ho, hc, r3, calm, alone]
    | true =>
      rw [hok] at r3 u
      by_cases hM : 16 < M
      · have hb : (!br && decide (dp ≤ 16)) = false := by
          cases hh : (!br && decide (dp ≤ 16)) with
          | false => rfl
          | true =>
            simp only [Bool.and_eq_true, Bool.not_eq_true', decide_eq_true_eq] at hh
            have := (u.1 hh).2
            omega
        rw [hb, Z_loop_eq]
        simp [loopStep, run_F126l2, w2Fr, vS, List.range_succ, a', hn, hnN, w9, s1, q1, hG, w, ho, hc, r3, z2, hM, calm, alone]
      · have hb : (!br && decide (dp ≤ 16)) = true := by
          have := u.2 ⟨rfl, by omega⟩
          simp [this]
        rw [hb, Z_loop_eq]
        simp [loopStep, run_F126l2, w2Fr, vS, List.range_succ, a', hn, hnN, w9, s1, q1, hG, w, ho, hc, r3, z2, hM, calm, alone]
theorem w1_2 (hd : IsCode d c) (hcl : c.length < 2^27) : Z base15 (.loop 0 F126l1 (w1Fr c.length 2) (vS d e0 e1 e2)) = if okE c e2 then Z base15 (.loop 0 F126l1 (w1Fr c.length 3) (vS d e0 e1 e2)) else some (.out .ret [(2, .int 14)] (vS d e0 e1 e2)) := by
  have ho := hd.one
  have hc := hd.cells
  have w : IntKind.i64.wrap 3 = 3 := rfl
  unfold okE
  by_cases a : e2 < -1
  · have a' : ¬ -1 ≤ e2 := by omega
    rw [Z_loop_eq]
    simp [loopStep, run_F126l1, w1Fr, vS, List.range_succ, a, a', ho, hc]
  · have a' : -1 ≤ e2 := by omega
    by_cases b : (c.length : Int) ≤ e2
    · have b' : ¬ e2 < c.length := by omega
      rw [Z_loop_eq]
      simp [loopStep, run_F126l1, w1Fr, vS, List.range_succ, a, a', b, b', ho, hc]
    · have b' : e2 < c.length := by omega
      rw [Z_loop_eq]
      simp [loopStep, run_F126l1, w1Fr, vS, List.range_succ, a, a', b, b', w, ho, hc]
theorem w2n_2 (hd : IsCode d c) (hops : ∀ i, i < c.length → 1 ≤ opA c i ∧ opA c i ≤ 21) (hcl : c.length < 2^27) (acc : Int) (a : e2 < 0) : Z base15 (.loop 0 F126l2 (w2Fr c.length acc 2) (vS d e0 e1 e2)) = Z base15 (.loop 0 F126l2 (w2Fr c.length acc 3) (vS d e0 e1 e2)) := by
  have ho := hd.one
  have hc := hd.cells
  have w : IntKind.i64.wrap 3 = 3 := rfl
  have a' : ¬ 0 ≤ e2 := by omega
  have z1 := rdep_neg (e0 := e0) (e1 := e1) (e2 := e2) hd hcl a
  have z2 := rdepth_of (e0 := e0) (e1 := e1) (e2 := e2) hd hops hcl (h := 2) (by omega) (by omega) (out := List.replicate c.length (-1)) (ok := true) (by simp) (fun i => by simp only [gD, List.getD_eq_getElem?_getD, List.getElem?_replicate]; split <;> simp) z1
  rw [rmax_neg c c.length c.length (Nat.le_refl _)] at z2
  simp only [pgD] at z1 z2
  generalize c.length = n at *
  generalize intsC (List.replicate n (-1)) = I at *
  by_cases hn : 0 < n
  · have hn2 : (0 : Int) < n := by omega
    rw [Z_loop_eq]
    simp [loopStep, run_F126l2, w2Fr, vS, List.range_succ, a', w, ho, hc, z1, z2, hn, hn2, calm, alone]
  · have hn2 : ¬ (0 : Int) < n := by omega
    rw [Z_loop_eq]
    simp [loopStep, run_F126l2, w2Fr, vS, List.range_succ, a', w, ho, hc, z1, z2, hn, hn2, calm, alone]
theorem w2_2 (hd : IsCode d c) (hf : Fits c) (hjm : ∀ i, i < c.length → opA c i = 18 ∨ opA c i = 19 → nA c i < c.length) (hops : ∀ i, i < c.length → 1 ≤ opA c i ∧ opA c i ≤ 21) (hcl : c.length < 2^27) (he : e2 < c.length) (acc : Int) (a : ¬ e2 < 0) :
    (fallsB c e2 = true → ∃ σ, Z base15 (.loop 0 F126l2 (w2Fr c.length acc 2) (vS d e0 e1 e2)) = some (.out .ret [(2, .int 14)] σ)) ∧
    (fallsB c e2 = false → Z base15 (.loop 0 F126l2 (w2Fr c.length acc 2) (vS d e0 e1 e2)) = Z base15 (.loop 0 F126l2 (w2Fr c.length (if safeB c e2 then acc else 15) 3) (vS d e0 e1 e2))) := by
  have ho := hd.one
  have hc := hd.cells
  have w : IntKind.i64.wrap 3 = 3 := rfl
  obtain ⟨fl, br, dp, h1, _⟩ := ana_Z (e0 := e0) (e1 := e1) (e2 := e2) hd hf hops hcl (e := e2.toNat) (by omega)
  have h3 := ana_falls h1
  have h4 := ana_safe h1
  obtain ⟨out, ok, r1, r2, r3⟩ := rdep_pos (e0 := e0) (e1 := e1) (e2 := e2) hd hf hops hcl (e := e2.toNat) (by omega)
  have u := unsafe_eq h1 r1 (fun D hD => rmax_most (by omega) r1 D hD)
  have f := falls_eq hjm (by omega) h1 r1
  rw [show ((e2.toNat : Nat) : Int) = e2 by omega] at h3 h4 r3
  have z2 := rdepth_of (e0 := e0) (e1 := e1) (e2 := e2) hd hops hcl (h := 2) (by omega) (by omega) r1.len r2 r3
  generalize rmax c out c.length = M at *
  have hn : (0 : Int) < c.length := by omega
  have a' : 0 ≤ e2 := by omega
  have w9 : IntKind.i64.wrap ((c.length : Int) - 1) = ((c.length - 1 : Nat) : Int) := by rw [wrap64 _ (by omega)]; omega
  have s1 := row_at (intsC out) c.length (c.length - 1) (by omega)
  have q1 := cut1_intsC out (c.length - 1) (by rw [r1.len]; omega)
  have hg : getN out (c.length - 1) = gD out (c.length - 1) := rfl
  rw [hg] at q1
  have hsu := rsucs_Z (e0 := e0) (e1 := e1) (e2 := e2) hd (i := c.length - 1) (by omega) (by omega)
  have hha := has_Z (sucD_row c (c.length - 1)) (by unfold sucs; split <;> (try split) <;> (try split) <;> simp) (c.length : Int)
  simp only [pgD] at r3 z2 hsu
  rw [← h3, ← h4]
  generalize gD out (c.length - 1) = G at *
  generalize hMM : decide ((c.length : Int) ∈ sucs c (c.length - 1)) = MM at *
  have f' : fl = (decide (0 ≤ G) && MM) := by
    rw [← hMM, Bool.eq_iff_iff, f]; simp
  have hnN : 0 < c.length := by omega
  generalize hnn : c.length = nn at *
  generalize intsC out = IO at *
  by_cases hG : 0 ≤ G
  · cases MM with
    | true =>
      have hfl : fl = true := by rw [f']; simp [hG]
      rw [hfl]
      refine ⟨fun _ => ?_, fun h => by simp at h⟩
      rw [Z_loop_eq]
      simp [loopStep, run_F126l2, w2Fr, vS, List.range_succ, a', hn, hnN, w9, s1, q1, hG, hsu, hha, w, ho, hc, r3, calm, alone]
    | false =>
      have hfl : fl = false := by rw [f']; simp
      rw [hfl]
      refine ⟨fun h => by simp at h, fun _ => ?_⟩
      cases hok : ok with
      | false =>
        have hb : (!br && decide (dp ≤ 16)) = false := by
          cases hh : (!br && decide (dp ≤ 16)) with
          | false => rfl
          | true =>
            simp only [Bool.and_eq_true, Bool.not_eq_true', decide_eq_true_eq] at hh
            have := (u.1 hh).1
            rw [hok] at this; cases this
        rw [hb, Z_loop_eq]
        rw [hok] at r3
        simp [loopStep, run_F126l2, w2Fr, vS, List.range_succ, a', hn, hnN, w9, s1, q1, hG, hsu, hha, w, ho, hc, r3, calm, alone]
      | true =>
        rw [hok] at r3 u
        by_cases hM : 16 < M
        · have hb : (!br && decide (dp ≤ 16)) = false := by
            cases hh : (!br && decide (dp ≤ 16)) with
            | false => rfl
            | true =>
              simp only [Bool.and_eq_true, Bool.not_eq_true', decide_eq_true_eq] at hh
              have := (u.1 hh).2
              omega
          rw [hb, Z_loop_eq]
          simp [loopStep, run_F126l2, w2Fr, vS, List.range_succ, a', hn, hnN, w9, s1, q1, hG, hsu, hha, w, ho, hc, r3, z2, hM, calm, alone]
        · have hb : (!br && decide (dp ≤ 16)) = true := by
            have := u.2 ⟨rfl, by omega⟩
            simp [this]
          rw [hb, Z_loop_eq]
          simp [loopStep, run_F126l2, w2Fr, vS, List.range_succ, a', hn, hnN, w9, s1, q1, hG, hsu, hha, w, ho, hc, r3, z2, hM, calm, alone]
  · have hfl : fl = false := by rw [f']; simp [hG]
    rw [hfl]
    refine ⟨fun h => by simp at h, fun _ => ?_⟩
    cases hok : ok with
    | false =>
      have hb : (!br && decide (dp ≤ 16)) = false := by
        cases hh : (!br && decide (dp ≤ 16)) with
        | false => rfl
        | true =>
          simp only [Bool.and_eq_true, Bool.not_eq_true', decide_eq_true_eq] at hh
          have := (u.1 hh).1
          rw [hok] at this; cases this
      rw [hb, Z_loop_eq]
      rw [hok] at r3
      simp [loopStep, run_F126l2, w2Fr, vS, List.range_succ, a', hn, hnN, w9, s1, q1, hG, w, ho, hc, r3, calm, alone]
    | true =>
      rw [hok] at r3 u
      by_cases hM : 16 < M
      · have hb : (!br && decide (dp ≤ 16)) = false := by
          cases hh : (!br && decide (dp ≤ 16)) with
          | false => rfl
          | true =>
            simp only [Bool.and_eq_true, Bool.not_eq_true', decide_eq_true_eq] at hh
            have := (u.1 hh).2
            omega
        rw [hb, Z_loop_eq]
        simp [loopStep, run_F126l2, w2Fr, vS, List.range_succ, a', hn, hnN, w9, s1, q1, hG, w, ho, hc, r3, z2, hM, calm, alone]
      · have hb : (!br && decide (dp ≤ 16)) = true := by
          have := u.2 ⟨rfl, by omega⟩
          simp [this]
        rw [hb, Z_loop_eq]
        simp [loopStep, run_F126l2, w2Fr, vS, List.range_succ, a', hn, hnN, w9, s1, q1, hG, w, ho, hc, r3, z2, hM, calm, alone]
theorem w1_3 (hd : IsCode d c) : Z base15 (.loop 0 F126l1 (w1Fr c.length 3) (vS d e0 e1 e2)) = some (.out (.exit 2) (w1Fr c.length 3 ++ [(31, .bool false)]) (vS d e0 e1 e2)) := by
  rw [Z_loop_eq]
  simp [loopStep, run_F126l1, w1Fr, vS, List.range_succ, hd.one, hd.cells]
theorem w2_3 (hd : IsCode d c) (acc : Int) : Z base15 (.loop 0 F126l2 (w2Fr c.length acc 3) (vS d e0 e1 e2)) = some (.out (.exit 4) (w2Fr c.length acc 3 ++ [(48, .bool false)]) (vS d e0 e1 e2)) := by
  rw [Z_loop_eq]
  simp [loopStep, run_F126l2, w2Fr, vS, List.range_succ, hd.one, hd.cells]
end
end Go.Pm
end SN9
section SN10
namespace Go.Pm
open F Gr
section
variable {d : D} {c : Cd} {e0 e1 e2 : Int}
def EndsW (d : D) (e0 e1 e2 : Int) (n : Nat) (z : Option Res) (v : Int) : Prop := (v = 14 ∧ ∃ σ, z = some (.out .ret [(2, .int 14)] σ)) ∨ z = some (.out (.exit 4) (w2Fr n v 3 ++ [(48, .bool false)]) (vS d e0 e1 e2))
theorem w2_all (hd : IsCode d c) (hf : Fits c) (hjm : ∀ i, i < c.length → opA c i = 18 ∨ opA c i = 19 → nA c i < c.length) (hops : ∀ i, i < c.length → 1 ≤ opA c i ∧ opA c i ≤ 21) (hcl : c.length < 2^27) (h0 : e0 < c.length) (h1 : e1 < c.length) (h2 : e2 < c.length) :
    EndsW d e0 e1 e2 c.length (Z base15 (.loop 0 F126l2 (w2Fr c.length 0 0) (vS d e0 e1 e2))) (verV c [e0, e1, e2] 0) := by
  have r3 : ∀ acc, EndsW d e0 e1 e2 c.length (Z base15 (.loop 0 F126l2 (w2Fr c.length acc 3) (vS d e0 e1 e2))) (verV c [] acc) := fun acc => .inr (w2_3 hd acc)
  have r2 : ∀ acc, EndsW d e0 e1 e2 c.length (Z base15 (.loop 0 F126l2 (w2Fr c.length acc 2) (vS d e0 e1 e2))) (verV c [e2] acc) := fun acc => by
    rw [verV_cons]
    by_cases a : e2 < 0
    · rw [if_pos a, w2n_2 hd hops hcl acc a]; exact r3 _
    · rw [if_neg a]
      obtain ⟨g1, g2⟩ := w2_2 (e0 := e0) (e1 := e1) hd hf hjm hops hcl h2 acc a
      cases hfa : fallsB c e2 with
      | true => exact .inl ⟨rfl, g1 hfa⟩
      | false => rw [g2 hfa]; exact r3 _
  have r1 : ∀ acc, EndsW d e0 e1 e2 c.length (Z base15 (.loop 0 F126l2 (w2Fr c.length acc 1) (vS d e0 e1 e2))) (verV c [e1, e2] acc) := fun acc => by
    rw [verV_cons]
    by_cases a : e1 < 0
    · rw [if_pos a, w2n_1 hd hops hcl acc a]; exact r2 _
    · rw [if_neg a]
      obtain ⟨g1, g2⟩ := w2_1 (e0 := e0) (e2 := e2) hd hf hjm hops hcl h1 acc a
      cases hfa : fallsB c e1 with
      | true => exact .inl ⟨rfl, g1 hfa⟩
      | false => rw [g2 hfa]; exact r2 _
  rw [verV_cons]
  by_cases a : e0 < 0
  · rw [if_pos a, w2n_0 hd hops hcl 0 a]; exact r1 _
  · rw [if_neg a]
    obtain ⟨g1, g2⟩ := w2_0 (e1 := e1) (e2 := e2) hd hf hjm hops hcl h0 0 a
    cases hfa : fallsB c e0 with
    | true => exact .inl ⟨rfl, g1 hfa⟩
    | false => rw [g2 hfa]; exact r1 _
theorem rverify15 (hd : IsCode d c) (hcl : c.length < 2^27) : Z base15 (.call 126 [pgD d e0 e1 e2] []) = some (.ret (.int (verifyV c e0 e1 e2)) []) := by
  have ho := hd.one
  have hc := hd.cells
  have hlen := hd.len
  have hl0 := wloop15 (e0 := e0) (e1 := e1) (e2 := e2) hd hcl c.length 0 (by omega)
  refine Z_call (pf := F126) rfl rfl ?_
  unfold verifyV
  by_cases h4 : 400 < c.length
  · have h4' : (400 : Int) < c.length := by omega
    rw [if_pos h4]
    simp [F126, pgD, List.range_succ, hlen, ho, hc, h4']
  · have h4' : ¬ (400 : Int) < c.length := by omega
    rw [if_neg h4]
    cases hok : okC c c.length 0 with
    | false =>
      obtain ⟨σ, hl0⟩ := hl0.2 hok
      simp only [w0Fr, vS] at hl0
      rw [show ((0 : Nat) : Int) = 0 from rfl] at hl0
      simp [F126, pgD, List.range_succ, hlen, ho, hc, h4', hl0]
    | true =>
      have hl0 := hl0.1 hok
      simp only [w0Fr, vS] at hl0
      rw [show ((0 : Nat) : Int) = 0 from rfl] at hl0
      rw [Bool.true_and]
      have q0 := w1_0 (e0 := e0) (e1 := e1) (e2 := e2) hd hcl
      have q1 := w1_1 (e0 := e0) (e1 := e1) (e2 := e2) hd hcl
      have q2 := w1_2 (e0 := e0) (e1 := e1) (e2 := e2) hd hcl
      have q3 := w1_3 (e0 := e0) (e1 := e1) (e2 := e2) hd
      cases a0 : okE c e0 with
      | false =>
        rw [a0] at q0
        simp only [w1Fr, vS, Bool.false_eq_true, if_false] at q0
        simp [F126, pgD, List.range_succ, hlen, ho, hc, h4', hl0, q0]
      | true =>
        rw [a0, if_pos rfl] at q0
        rw [Bool.true_and]
        cases a1 : okE c e1 with
        | false =>
          rw [q1, a1] at q0
          simp only [w1Fr, vS, Bool.false_eq_true, if_false] at q0
          simp [F126, pgD, List.range_succ, hlen, ho, hc, h4', hl0, q0]
        | true =>
          rw [q1, a1, if_pos rfl] at q0
          rw [Bool.true_and]
          cases a2 : okE c e2 with
          | false =>
            rw [q2, a2] at q0
            simp only [w1Fr, vS, Bool.false_eq_true, if_false] at q0
            simp [F126, pgD, List.range_succ, hlen, ho, hc, h4', hl0, q0]
          | true =>
            rw [q2, a2, if_pos rfl, q3] at q0
            have b0 : e0 < c.length := by unfold okE at a0; simp at a0; omega
            have b1 : e1 < c.length := by unfold okE at a1; simp at a1; omega
            have b2 : e2 < c.length := by unfold okE at a2; simp at a2; omega
            have z := w2_all (e0 := e0) (e1 := e1) (e2 := e2) hd (okC_fits hok) (fun i hi hj => ((okI_op (okC_all _ _ hok i (by omega) (by omega))).2 hj).2) (fun i hi => (okI_op (okC_all _ _ hok i (by omega) (by omega))).1) hcl b0 b1 b2
            rw [if_pos rfl]
            rcases z with ⟨z3, σ, z1⟩ | z1
            · rw [z3]
              simp only [w1Fr, w2Fr, vS] at q0 z1
              simp [F126, pgD, List.range_succ, hlen, ho, hc, h4', hl0, q0, z1]
            · simp only [w1Fr, w2Fr, vS] at q0 z1
              simp [F126, pgD, List.range_succ, hlen, ho, hc, h4', hl0, q0, z1]
end
theorem lives15 : Z base15 (.call 127 [] []) = some (.ret (.bool true) []) := Z_of (n := 4000) (by kernel_rfl)
theorem around15 {n m : Int} (h1 : I64 n) (hm : 1 ≤ m) : Z base15 (.call 17 [.int n, .int m] []) = some (.ret (.int (around n m)) []) := by
  refine Z_call (pf := F17) rfl rfl ?_
  unfold around
  have hm0 : ¬ m = 0 := by omega
  by_cases h : n < 0
  · have w1 : IntKind.i64.wrap (n + 1) = n + 1 := wrap64 _ (by unfold I64 at h1; omega)
    have w2 : IntKind.i64.wrap (0 - (n + 1)) = -(n + 1) := by rw [wrap64 _ (by unfold I64 at h1; omega)]; omega
    have w3 : IntKind.i64.wrap (-(n + 1)) = -(n + 1) := wrap64 _ (by unfold I64 at h1; omega)
    simp [F17, h, w1, w2, w3, hm0]
  · simp [F17, h, hm0]
end Go.Pm
end SN10
