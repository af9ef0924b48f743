/- Chapter 15: the law of accepted programs. Chapter 15: the law of accepted programs, whole. -/
import Derived.Test.YtlbibgdenkleiaaGreatDoorPmDk
import Derived.Test.YtlbibgdenkleiaaGreatDoorPmT4a
import Derived.Test.YtlbibgdenkleiaaGreatDoorPmTb14
import Derived.Test.YtlbibgdenkleiaaGreatDoorPmW2
set_option linter.unusedSimpArgs false
set_option linter.unusedVariables false
section SAc
namespace Go.Pm
open F Gr
set_option maxHeartbeats 2000000
theorem upZ {t : Task} {r : Res} (h : Z base15 t = some r) : Z prog15z t = some r := Z_sub sub_base15_prog15z h
theorem fine_well (b : Ss) (h : b.fine) : b.well = true := by
  have hs : ∀ s ∈ storL, (eqS s hitS || eqS s stillS) = false := by
    intro s hs
    simp only [storL, List.mem_cons, List.not_mem_nil, or_false] at hs
    rcases hs with rfl | rfl | rfl | rfl | rfl | rfl <;> kernel_rfl
  fun_induction Ss.fine b with
  | case1 => rfl
  | case2 _ s e r ih => simp [Ss.well, h.1.2.2, ih h.2]
  | case3 _ s a b r ih => simp [Ss.well, hs s h.1.1, h.1.2.2.1, h.1.2.2.2.2, ih h.2]
  | case4 _ a b r ih => simp [Ss.well, h.1.2.1, h.1.2.2.2, ih h.2]
  | case5 r ih => simp [Ss.well, ih h]
  | case6 _ c _ x _ y r ih1 ih2 ih3 => simp [Ss.well, h.1.2, ih1 h.2.1, ih2 h.2.2.1, ih3 h.2.2.2]
  | case7 _ c _ x r ih1 ih2 => simp [Ss.well, h.1.2, ih1 h.2.1, ih2 h.2.2]
  | case8 => exact h.elim
theorem fine_hwell (h : Hd) (f : h.fine) : h.well = true := by
  cases h with
  | none => rfl
  | some g b => exact fine_well b f.fine
theorem chk_fine {a b c : Hd} (fa : a.fine) (fb : b.fine) (fc : c.fine) : chk a b c = 0 := by
  have := rvars_len4 fa.fine fb.fine fc.fine
  unfold chk
  rw [fine_hwell a fa, fine_hwell b fb, fine_hwell c fc]
  simp [show ¬ 16 < (rvars a.nd b.nd c.nd).length by omega]
section
variable {a b c : Nd} {d : D} {C : Cd} {e0 e1 e2 : Int} {out : List Int}
abbrev acSt (a b c : Nd) (d : D) (e0 e1 e2 : Int) : S := [rbox a b c, .cells [.dat d, .int e0, .int e1, .int e2]]
abbrev acFr (h : Int) (out : List Int) (n : Nat) (i : Nat) : Fr := [(3, .ptr 0 0), (4, .ptr 1 0), (6, .int h), (7, .dat (.sl (intsC out) n false)), (9, .int i)]
theorem as_loop (hd : IsCode d C) (hl : out.length = C.length) (hcl : C.length < 2^30) (hst : ∀ i, i < C.length → 0 < gD out i → opA C i ≠ 21) (h : Int) : ∀ (m i : Nat), i + m = C.length →
    Z prog15z (.loop 0 F206l1 (acFr h out C.length i) (acSt a b c d e0 e1 e2)) = some (.out (.exit 2) (acFr h out C.length C.length ++ [(80, .bool false)]) (acSt a b c d e0 e1 e2))
  | 0, i, hi => by
    obtain rfl : i = C.length := by omega
    have ho := hd.one
    have hcc := hd.cells
    rw [Z_loop_eq]
    simp [loopStep, run_F206l1, len_sl, List.range_succ]
  | m + 1, i, hi => by
    have w1 := wrap64 ((i : Int) + 1) (by omega)
    have hi' : (i : Int) < C.length := by omega
    have hi2 : i < C.length := by omega
    have ha := at_full (intsC out) C.length false i (by omega) hi'
    have hc := cut1_intsC out i (by omega)
    have hat := hd.at_ i (by omega) hi'
    have hop := cut1_icC C i hi2
    rw [show ((i : Int)).toNat = i by omega] at ha hat
    have hn := hst i hi2
    rw [show gD out i = getN out i from rfl] at hn
    rw [← as_loop hd hl hcl hst h m (i + 1) (by omega)]
    conv => lhs; rw [Z_loop_eq]
    by_cases hp : 0 < getN out i
    · have hne := hn hp
      simp [loopStep, run_F206l1, len_sl, hi', ha, hc, hat, hop, hp, hne, w1, acFr, acSt, rbox, Nd.d, List.range_succ]
    · simp [loopStep, run_F206l1, len_sl, hi', ha, hc, hp, w1, acFr, acSt, rbox, Nd.d, List.range_succ]
structure AcOK (C : Cd) (d : D) (e0 e1 e2 e : Int) (k : Int) (h : Int) (out : List Int) : Prop where
  kind : (k = 0 ↔ e < 0)
  dep : ∃ v : Int, v ≤ 16 ∧ Z prog15z (.call 128 [pgD d e0 e1 e2, .int h] []) = some (.ret (.int v) [])
  dps : ∃ ok : Bool, Z prog15z (.call 142 [pgD d e0 e1 e2, .int e] []) = some (.ret (.tup [.dat (.sl (intsC out) C.length false), .bool ok]) [])
  len : out.length = C.length
  stp : ∀ i, i < C.length → 0 < gD out i → opA C i ≠ 21
theorem ac_step0 (hd : IsCode d C) (hcl : C.length < 2^30) (h : AcOK C d e0 e1 e2 e0 a.k 0 out) : Z prog15z (.loop 0 F206l0 [(3, .ptr 0 0), (4, .ptr 1 0), (6, .int 0)] (acSt a b c d e0 e1 e2)) = Z prog15z (.loop 0 F206l0 [(3, .ptr 0 0), (4, .ptr 1 0), (6, .int 1)] (acSt a b c d e0 e1 e2)) := by
  have w1 := wrap64 1 (by omega)
  obtain ⟨v, hv, z1⟩ := h.dep
  obtain ⟨ok, z2⟩ := h.dps
  have hl := as_loop (a := a) (b := b) (c := c) (e0 := e0) (e1 := e1) (e2 := e2) hd h.len hcl h.stp 0 C.length 0 (by omega)
  have hv' : ¬ 16 < v := by omega
  have ho := hd.one
  have hcc := hd.cells
  simp only [pgD] at z1 z2
  simp only [acFr, acSt, rbox, Nd.d, show ((0 : Nat) : Int) = 0 from rfl] at hl
  have hk := h.kind
  conv => lhs; rw [Z_loop_eq]
  by_cases hz : e0 < 0
  · have hk' := hk.2 hz
    simp only [hk'] at hl
    simp [loopStep, run_F206l0, hz, hk', z1, z2, hv', hl, w1, ho, hcc, acSt, rbox, Nd.d, calm, alone, List.range_succ]
    try exact Z_loop_cong (by simp [ho, hcc, List.range_succ])
  · have hk' : ¬ a.k = 0 := fun e => hz (hk.1 e)
    simp [loopStep, run_F206l0, hz, hk', z1, z2, hv', hl, w1, ho, hcc, acSt, rbox, Nd.d, calm, alone, List.range_succ]
    try exact Z_loop_cong (by simp [ho, hcc, List.range_succ])
theorem ac_step1 (hd : IsCode d C) (hcl : C.length < 2^30) (h : AcOK C d e0 e1 e2 e1 b.k 1 out) : Z prog15z (.loop 0 F206l0 [(3, .ptr 0 0), (4, .ptr 1 0), (6, .int 1)] (acSt a b c d e0 e1 e2)) = Z prog15z (.loop 0 F206l0 [(3, .ptr 0 0), (4, .ptr 1 0), (6, .int 2)] (acSt a b c d e0 e1 e2)) := by
  have w1 := wrap64 2 (by omega)
  obtain ⟨v, hv, z1⟩ := h.dep
  obtain ⟨ok, z2⟩ := h.dps
  have hl := as_loop (a := a) (b := b) (c := c) (e0 := e0) (e1 := e1) (e2 := e2) hd h.len hcl h.stp 1 C.length 0 (by omega)
  have hv' : ¬ 16 < v := by omega
  have ho := hd.one
  have hcc := hd.cells
  simp only [pgD] at z1 z2
  simp only [acFr, acSt, rbox, Nd.d, show ((0 : Nat) : Int) = 0 from rfl] at hl
  have hk := h.kind
  conv => lhs; rw [Z_loop_eq]
  by_cases hz : e1 < 0
  · have hk' := hk.2 hz
    simp only [hk'] at hl
    simp [loopStep, run_F206l0, hz, hk', z1, z2, hv', hl, w1, ho, hcc, acSt, rbox, Nd.d, calm, alone, List.range_succ]
    try exact Z_loop_cong (by simp [ho, hcc, List.range_succ])
  · have hk' : ¬ b.k = 0 := fun e => hz (hk.1 e)
    simp [loopStep, run_F206l0, hz, hk', z1, z2, hv', hl, w1, ho, hcc, acSt, rbox, Nd.d, calm, alone, List.range_succ]
    try exact Z_loop_cong (by simp [ho, hcc, List.range_succ])
theorem ac_step2 (hd : IsCode d C) (hcl : C.length < 2^30) (h : AcOK C d e0 e1 e2 e2 c.k 2 out) : Z prog15z (.loop 0 F206l0 [(3, .ptr 0 0), (4, .ptr 1 0), (6, .int 2)] (acSt a b c d e0 e1 e2)) = Z prog15z (.loop 0 F206l0 [(3, .ptr 0 0), (4, .ptr 1 0), (6, .int 3)] (acSt a b c d e0 e1 e2)) := by
  have w1 := wrap64 3 (by omega)
  obtain ⟨v, hv, z1⟩ := h.dep
  obtain ⟨ok, z2⟩ := h.dps
  have hl := as_loop (a := a) (b := b) (c := c) (e0 := e0) (e1 := e1) (e2 := e2) hd h.len hcl h.stp 2 C.length 0 (by omega)
  have hv' : ¬ 16 < v := by omega
  have ho := hd.one
  have hcc := hd.cells
  simp only [pgD] at z1 z2
  simp only [acFr, acSt, rbox, Nd.d, show ((0 : Nat) : Int) = 0 from rfl] at hl
  have hk := h.kind
  conv => lhs; rw [Z_loop_eq]
  by_cases hz : e2 < 0
  · have hk' := hk.2 hz
    simp only [hk'] at hl
    simp [loopStep, run_F206l0, hz, hk', z1, z2, hv', hl, w1, ho, hcc, acSt, rbox, Nd.d, calm, alone, List.range_succ]
    try exact Z_loop_cong (by simp [ho, hcc, List.range_succ])
  · have hk' : ¬ c.k = 0 := fun e => hz (hk.1 e)
    simp [loopStep, run_F206l0, hz, hk', z1, z2, hv', hl, w1, ho, hcc, acSt, rbox, Nd.d, calm, alone, List.range_succ]
    try exact Z_loop_cong (by simp [ho, hcc, List.range_succ])
theorem ac_end (hd : IsCode d C) : Z prog15z (.loop 0 F206l0 [(3, .ptr 0 0), (4, .ptr 1 0), (6, .int 3)] (acSt a b c d e0 e1 e2)) = some (.out (.exit 0) [(3, .ptr 0 0), (4, .ptr 1 0), (6, .int 3), (47, .bool false)] (acSt a b c d e0 e1 e2)) := by
  rw [Z_loop_eq]
  simp [loopStep, run_F206l0, List.range_succ]
end
end Go.Pm
end SAc
section SAd
namespace Go.Pm
open F Gr
set_option maxHeartbeats 2000000
theorem ac_ok {Cf : Int → Cd} {C : Cd} {n : Nat} {D : Nat → Int} (g : Hg Cf n D) (hC : Cf 0 = C) (hn : C.length = n) (hl : n ≤ 400) {e0 e1 e2 : Int} (hv : verifyV C e0 e1 e2 = 0) {h : Int} (h0 : 0 ≤ h) (h2 : h ≤ 2) {e m k : Int} (he : entA e0 e1 e2 h = e)
    (p : e = -1 ∨ (0 ≤ e ∧ e < n ∧ D e.toNat = 0)) (dm : DepIs C e m) (h16 : m ≤ 16) (hk : k = 0 ↔ e < 0) : ∃ out, AcOK C (codeD C) e0 e1 e2 e k h out := by
  subst hC
  have hok := g.okC
  have hf := okC_fits hok
  have hops : ∀ i, i < (Cf 0).length → 1 ≤ opA (Cf 0) i ∧ opA (Cf 0) i ≤ 21 := fun i hi => (okI_op (okC_all _ _ hok i (by omega) (by omega))).1
  have hdep : ∃ v : Int, v ≤ 16 ∧ Z prog15z (.call 128 [pgD (codeD (Cf 0)) e0 e1 e2, .int h] []) = some (.ret (.int v) []) := by
    obtain ⟨v, q1, q2⟩ := depth_same (codeD_is (Cf 0)) (by omega) hv h
    obtain ⟨m', r1, r2⟩ := depth_ex (codeD_is (Cf 0)) (by omega) hok h0 h2 (e0 := e0) (e1 := e1) (e2 := e2) (by rw [he]; omega)
    rw [he] at r1
    have em : m' = m := r1.unique (D := D) (fun h => by rcases p with p | ⟨x, y, z⟩; (· omega); exact g.cf (by omega) z) dm
    have ev : v = m' := by
      have := q2.symm.trans r2
      simpa using this
    exact ⟨v, by omega, upZ q1⟩
  by_cases hneg : e < 0
  · have z := rdep_neg (e0 := e0) (e1 := e1) (e2 := e2) (codeD_is (Cf 0)) (by omega) hneg
    refine ⟨_, hk, hdep, ⟨_, upZ z⟩, by simp, fun i hi hp => ?_⟩
    rw [gD_rep hi] at hp
    omega
  · obtain ⟨x, y, z⟩ := p.resolve_left (by omega)
    obtain ⟨out, ok, s1, s2, s3⟩ := rdep_pos (e0 := e0) (e1 := e1) (e2 := e2) (codeD_is (Cf 0)) hf hops (by omega) (e := e.toNat) (by omega)
    rw [show ((e.toNat : Nat) : Int) = e by omega] at s3
    refine ⟨out, hk, hdep, ⟨_, upZ s3⟩, s1.len, fun i hi hp h21 => ?_⟩
    have hr := (s1.rch i hi).1 (by omega)
    have := s1.val D (g.cf (by omega) z) i hr
    have := g.stop (by omega) h21
    omega
theorem later_Z {a b c : Hd} {pg : V} {er : Int} (hp : pg = pgD (.lit (.slice none 0 0)) 0 0 0 ∨ ∃ C e0 e1 e2, pg = pgD (codeD C) e0 e1 e2) (z : Z base15 (.call 122 [.dat (ru a.nd b.nd c.nd)] []) = some (.ret (.tup [pg, .int er]) [])) : Z prog15z (.call 207 [.dat (ru a.nd b.nd c.nd)] []) = some (.ret (.int er) []) := by
  have z := upZ z
  simp only [ru, Nd.d, hd_k, hd_n, hd_s, hd_f, hd_ks] at z
  refine Z_call (pf := F207) rfl rfl ?_
  rcases hp with rfl | ⟨C, e0, e1, e2, rfl⟩
  · simp only [pgD] at z
    simp [F207, ru, Nd.d, z, List.range_succ]
  · have ho := (codeD_is C).one
    have hc := (codeD_is C).cells
    simp only [pgD] at z
    simp [F207, ru, Nd.d, z, ho, hc, List.range_succ]
theorem kind_ent {h : Hd} {p : Int} (hp : 0 ≤ p) : h.k = 0 ↔ entV h p < 0 := by
  cases h with
  | none => simp [Hd.k, entV]
  | some f b => simp [Hd.k, entV]; omega
theorem lives_z : Z prog15z (.call 127 [] []) = some (.ret (.bool true) []) := upZ lives15
theorem compileAccepted_Z {l : D} {ls : List Int} (hl : RowV l ls) (hx : ∀ x ∈ ls, I64 x) : Z prog15z (.call 206 [.dat l] []) = some (.ret (.bool true) []) := by
  obtain ⟨a, b, c, ga, gb, gc, zp⟩ := Program_Z hl hx
  have fa := ga.1
  have fb := gb.1
  have fc := gc.1
  have sa := hd_size a fa
  have sb := hd_size b fb
  have sc := hd_size c fc
  obtain ⟨m0, m1, m2, d0, d1, d2, zr⟩ := compileR_Z fa fb fc
  have zc := upZ (compile_Z fa fb fc d0 d1 d2)
  have zt : Z prog15z (.call 12 [.dat (ru a.nd b.nd c.nd)] []) = some (.ret (.int (chk a b c)) []) := Z_sub sub_base14_prog15z (Check_Z (by simpa using Nat.lt_of_le_of_lt sa (by decide)) (by simpa using Nat.lt_of_le_of_lt sb (by decide)) (by simpa using Nat.lt_of_le_of_lt sc (by decide)))
  have zu : Z prog15z (.call 13 [.dat (ru a.nd b.nd c.nd)] []) = some (.ret (.int (chk a b c)) []) := Z_sub sub_base14_prog15z (rCheck_Z (by simpa using Nat.lt_of_le_of_lt sa (by decide)) (by simpa using Nat.lt_of_le_of_lt sb (by decide)) (by simpa using Nat.lt_of_le_of_lt sc (by decide)))
  rw [chk_fine fa fb fc] at zt zu
  have zp := upZ zp
  have l5 := rvars_len4 fa.fine fb.fine fc.fine
  obtain ⟨ia, ib, ic⟩ := rvars_in (a := a) (b := b) (c := c)
  obtain ⟨n, D, g, p0, p1, p2⟩ := prog_good (vs := rvars a.nd b.nd c.nd) (by omega) fa.fine fb.fine fc.fine ia ib ic
  have hn : (progC (rvars a.nd b.nd c.nd) a b c).length = n := g.ln 0
  have k0 : a.k = 0 ↔ ent0 a < 0 := kind_ent (by omega)
  have k1 : b.k = 0 ↔ ent1 (rvars a.nd b.nd c.nd) a b < 0 := kind_ent (by omega)
  have k2 : c.k = 0 ↔ ent2 (rvars a.nd b.nd c.nd) a b c < 0 := kind_ent (by omega)
  have hC : sq (hdC (rvars a.nd b.nd c.nd) a) (sq (hdC (rvars a.nd b.nd c.nd) b) (hdC (rvars a.nd b.nd c.nd) c)) 0 = progC (rvars a.nd b.nd c.nd) a b c := rfl
  generalize rvars a.nd b.nd c.nd = vs at *
  generalize sq (hdC vs a) (sq (hdC vs b) (hdC vs c)) = Cf at *
  generalize progC vs a b c = C at *
  generalize ent0 a = e0 at *
  generalize ent1 vs a b = e1 at *
  generalize ent2 vs a b c = e2 at *
  unfold compV at zc zr
  by_cases h4 : 400 < C.length
  · rw [if_pos h4] at zc zr
    have zl := later_Z (.inl rfl) zr
    simp only [ru, Nd.d, hd_k, hd_n, hd_s, hd_f, hd_ks, pgD] at zp zc zt zu zl
    refine Z_call (pf := F206) rfl rfl ?_
    simp [F206, zp, zc, zt, zu, zl, lives_z, calm, alone, List.range_succ]
  rw [if_neg h4] at zc zr
  by_cases h5 : 16 < m0 ∨ 16 < m1 ∨ 16 < m2
  · rw [if_pos h5] at zc zr
    have zl := later_Z (.inl rfl) zr
    simp only [ru, Nd.d, hd_k, hd_n, hd_s, hd_f, hd_ks, pgD] at zp zc zt zu zl
    refine Z_call (pf := F206) rfl rfl ?_
    simp [F206, zp, zc, zt, zu, zl, lives_z, calm, alone, List.range_succ]
  rw [if_neg h5] at zc zr
  have hv : verifyV C e0 e1 e2 = 0 := by
    have := verifyV_good g (by omega) p0 p1 p2 (by rw [hC]; exact d0) (by rw [hC]; exact d1) (by rw [hC]; exact d2) (by omega) (by omega) (by omega)
    rw [hC] at this; exact this
  obtain ⟨o0, q0⟩ := ac_ok g hC hn (by omega) hv (h := 0) (by omega) (by omega) (e := e0) (by simp [entA]) p0 d0 (by omega) k0
  obtain ⟨o1, q1⟩ := ac_ok g hC hn (by omega) hv (h := 1) (by omega) (by omega) (e := e1) (by simp [entA]) p1 d1 (by omega) k1
  obtain ⟨o2, q2⟩ := ac_ok g hC hn (by omega) hv (h := 2) (by omega) (by omega) (e := e2) (by simp [entA]) p2 d2 (by omega) k2
  have hd := codeD_is C
  have r0 := ac_step0 (a := a.nd) (b := b.nd) (c := c.nd) hd (by omega) q0
  have r1 := ac_step1 (a := a.nd) (b := b.nd) (c := c.nd) hd (by omega) q1
  have r2 := ac_step2 (a := a.nd) (b := b.nd) (c := c.nd) hd (by omega) q2
  have r := r0.trans (r1.trans (r2.trans (ac_end hd)))
  have v1 := upZ (verify15 (e0 := e0) (e1 := e1) (e2 := e2) hd (by omega))
  have v2 := upZ (rverify15 (e0 := e0) (e1 := e1) (e2 := e2) hd (by omega))
  rw [hv] at v1 v2
  have ho := hd.one
  have hcc := hd.cells
  generalize codeD C = X at *
  simp only [ru, Nd.d, hd_k, hd_n, hd_s, hd_f, hd_ks, pgD] at zp zc zt zu v1 v2
  simp only [acSt, rbox, Nd.d, hd_k, hd_n, hd_s, hd_f, hd_ks] at r
  refine Z_call (pf := F206) rfl rfl ?_
  simp [F206, zp, zc, zt, zu, v1, v2, r, ho, hcc, lives_z, calm, alone, List.range_succ]
end Go.Pm
end SAd
