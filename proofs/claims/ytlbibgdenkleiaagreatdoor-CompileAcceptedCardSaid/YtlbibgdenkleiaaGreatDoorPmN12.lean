/- Chapter 15: Depth of the program and of the reference. -/
import Derived.Test.YtlbibgdenkleiaaGreatDoorPmN9
set_option linter.unusedSimpArgs false
set_option linter.unusedVariables false
section SN12
namespace Go.Pm
open F Gr
theorem verV_15 (c : Cd) : ∀ l : List Int, verV c l 15 = 14 ∨ verV c l 15 = 15
  | [] => .inr rfl
  | e :: r => by
    rw [verV_cons]
    split
    · exact verV_15 c r
    · split
      · exact .inl rfl
      · have : (if safeB c e = true then (15 : Int) else 15) = 15 := by split <;> rfl
        rw [this]; exact verV_15 c r
theorem verV_0 (c : Cd) : ∀ l : List Int, verV c l 0 = 0 → ∀ e ∈ l, 0 ≤ e → safeB c e = true
  | [], _, e, he, _ => by simp at he
  | e :: r, h, x, hx, h0 => by
    rw [verV_cons] at h
    by_cases a : e < 0
    · rw [if_pos a] at h
      rcases List.mem_cons.1 hx with rfl | hx
      · omega
      · exact verV_0 c r h x hx h0
    · rw [if_neg a] at h
      by_cases f : fallsB c e = true
      · rw [if_pos f] at h; simp at h
      · rw [if_neg f] at h
        by_cases s : safeB c e = true
        · rw [if_pos s] at h
          rcases List.mem_cons.1 hx with rfl | hx
          · exact s
          · exact verV_0 c r h x hx h0
        · rw [if_neg s] at h
          rcases verV_15 c r with g | g <;> rw [g] at h <;> simp at h
section
variable {d : D} {c : Cd} {e0 e1 e2 : Int}
theorem verifyV_0 (h : verifyV c e0 e1 e2 = 0) : okC c c.length 0 = true ∧ (okE c e0 = true ∧ okE c e1 = true ∧ okE c e2 = true) ∧ verV c [e0, e1, e2] 0 = 0 := by
  unfold verifyV at h
  split at h
  · simp at h
  · split at h
    · rename_i hh
      simp only [Bool.and_eq_true] at hh
      exact ⟨hh.1, ⟨hh.2.1, hh.2.2.1, hh.2.2.2⟩, h⟩
    · simp at h
set_option maxHeartbeats 4000000 in
theorem depth_same (hd : IsCode d c) (hcl : c.length < 2^27) (hv : verifyV c e0 e1 e2 = 0) (h : Int) :
    ∃ v, Z base15 (.call 128 [pgD d e0 e1 e2, .int h] []) = some (.ret (.int v) []) ∧ Z base15 (.call 129 [pgD d e0 e1 e2, .int h] []) = some (.ret (.int v) []) := by
  have ho := hd.one
  have hc := hd.cells
  obtain ⟨hok, ⟨q0, q1, q2⟩, hver⟩ := verifyV_0 hv
  have hf := okC_fits hok
  have hops : ∀ i, i < c.length → 1 ≤ opA c i ∧ opA c i ≤ 21 := fun i hi => (okI_op (okC_all _ _ hok i (by omega) (by omega))).1
  have zv := verify15 (e0 := e0) (e1 := e1) (e2 := e2) hd hcl
  rw [hv] at zv
  simp only [pgD] at zv
  by_cases hb : h < 0 ∨ 2 < h
  · refine ⟨0, ?_, rdepth_out hd hcl h hb⟩
    refine Z_call (pf := F128) rfl rfl ?_
    by_cases a : h < 0
    · simp [F128, pgD, List.range_succ, ho, hc, a]
    · have a' : 3 ≤ h := by omega
      simp [F128, pgD, List.range_succ, ho, hc, a, a']
  · by_cases he : entA e0 e1 e2 h < 0
    · have z1 := rdep_neg (e0 := e0) (e1 := e1) (e2 := e2) hd hcl he
      have z2 := rdepth_of (e0 := e0) (e1 := e1) (e2 := e2) hd hops hcl (h := h) (by omega) (by omega) (out := List.replicate c.length (-1)) (ok := true) (by simp) (fun i => by simp only [gD, List.getD_eq_getElem?_getD, List.getElem?_replicate]; split <;> simp) z1
      rw [rmax_neg c c.length c.length (Nat.le_refl _)] at z2
      refine ⟨0, ?_, z2⟩
      refine Z_call (pf := F128) rfl rfl ?_
      obtain rfl | rfl | rfl : h = 0 ∨ h = 1 ∨ h = 2 := by omega
      · have a : e0 < 0 := by simpa [entA] using he
        simp [F128, pgD, List.range_succ, ho, hc, a]
      · have a : e1 < 0 := by simpa [entA] using he
        simp [F128, pgD, List.range_succ, ho, hc, a]
      · have a : e2 < 0 := by simpa [entA] using he
        simp [F128, pgD, List.range_succ, ho, hc, a]
    · have hen : entA e0 e1 e2 h < c.length := by
        unfold okE at q0 q1 q2
        simp only [Bool.and_eq_true, decide_eq_true_eq] at q0 q1 q2
        unfold entA
        split
        · omega
        · split <;> omega
      have hmem : entA e0 e1 e2 h ∈ [e0, e1, e2] := by
        unfold entA
        split
        · simp
        · split <;> simp
      have hs := verV_0 c _ hver _ hmem (by omega)
      obtain ⟨fl, br, dp, r1, r2⟩ := ana_Z (e0 := e0) (e1 := e1) (e2 := e2) hd hf hops hcl (e := (entA e0 e1 e2 h).toNat) (by omega)
      obtain ⟨out, ok, s1, s2, s3⟩ := rdep_pos (e0 := e0) (e1 := e1) (e2 := e2) hd hf hops hcl (e := (entA e0 e1 e2 h).toNat) (by omega)
      have h4 := ana_safe r1
      rw [show (((entA e0 e1 e2 h).toNat : Nat) : Int) = entA e0 e1 e2 h by omega] at r2 s3 h4
      rw [hs] at h4
      have hbr : br = false := by
        simp only [Bool.and_eq_true, Bool.not_eq_true'] at h4
        exact h4.1
      have hdp : dp = rmax c out c.length := depth_eq r1 hbr (fun D hD => rmax_most (by omega) s1 D hD)
      have z2 := rdepth_of (e0 := e0) (e1 := e1) (e2 := e2) hd hops hcl (h := h) (by omega) (by omega) s1.len s2 s3
      rw [← hdp] at z2
      refine ⟨dp, ?_, z2⟩
      simp only [pgD] at r2
      refine Z_call (pf := F128) rfl rfl ?_
      obtain rfl | rfl | rfl : h = 0 ∨ h = 1 ∨ h = 2 := by omega
      · simp only [entA, if_true] at r2 he
        simp [F128, pgD, List.range_succ, ho, hc, he, zv, r2, calm, alone]
      · simp only [entA, Int.reduceEq, if_false, if_true] at r2 he
        simp [F128, pgD, List.range_succ, ho, hc, he, zv, r2, calm, alone]
      · simp only [entA, Int.reduceEq, if_false] at r2 he
        simp [F128, pgD, List.range_succ, ho, hc, he, zv, r2, calm, alone]
end
end Go.Pm
end SN12
