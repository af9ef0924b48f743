/- Chapter 15: the law of runs. -/
import Derived.Test.YtdnnjabacgpfdaaGreatDoorPmRs1
import Derived.Test.YtdnnjabacgpfdaaGreatDoorPmRs2
import Derived.Test.YtdnnjabacgpfdaaGreatDoorPmW2
set_option linter.unusedSimpArgs false
set_option linter.unusedVariables false
section SRt
namespace Go.Pm
open F Gr
set_option maxHeartbeats 4000000
theorem later_Z {a b c : Hd} {pg : V} {er : Int} (hp : pg = pgD (.lit (.slice none 0 0)) 0 0 0 \/ ∃ C e0 e1 e2, pg = pgD (codeD C) e0 e1 e2) (z : Z base15 (.call 122 [.dat (ru a.nd b.nd c.nd)] []) = some (.ret (.tup [pg, .int er]) [])) : Z prog15z (.call 207 [.dat (ru a.nd b.nd c.nd)] []) = some (.ret (.int er) []) := by
 have z := upZ z
 simp only [ru, Nd.d, hd_k, hd_n, hd_s, hd_f, hd_ks] at z
 refine Z_call (pf := F207) rfl rfl ?_
 rcases hp with rfl | ⟨C, e0, e1, e2, rfl⟩
 · simp only [pgD] at z
   simp [F207, ru, Nd.d, z, List.range_succ]
 · have ho := (codeD_is C).one
   have hc := (codeD_is C).cells
   simp only [pgD] at z
   simp [F207, ru, Nd.d, z, ho, hc, List.range_succ]
theorem lives_z : Z prog15z (.call 127 [] []) = some (.ret (.bool true) []) := upZ lives15
theorem ru_ok {d : D} {C : Cd} {vs : List ByteArray} {W : List Int} {e0 e1 e2 : Int} (hd : IsCode d C) (hcl : C.length < 2^30) (hv : vs.length <= 16) (hw : W.length = 48) (hb : ∀ x ∈ W, Bd x) {h : Hd} (hf : h.fine) (hi : h.ss.inV vs) {p : Nat} (hat : CdAt C p (hdC vs h p)) :
   h.k = 0 \/ ∃ st, RuOK d e0 e1 e2 (entV h p) vs W h st := by
 cases h with
 | none => exact .inl rfl
 | some f x =>
   right
   have hs := hf.size
   have hfx := hf.fine
   simp only [Hd.ss] at hs hfx hi
   have hst : RS.ok ⟨W, [], 400, false⟩ := ⟨hw, hb, by simp only; omega, by simp only; omega, by simp only [List.length_nil]; omega⟩
   obtain ⟨st', dx, t, z⟩ := blk_ex (row_ex hv 400 x hfx hi (by omega)) hst (by simp only; omega) (by simp only; omega) f .nil
   have hlg := t.log
   have hlo := t.lo
   have hhi := t.hi
   simp only [List.length_nil] at hlg hlo hhi
   refine ⟨st', t.ok, by omega, z, fun hn => ?_⟩
   obtain ⟨hat1, hstop⟩ := at_sn hat
   obtain ⟨k, pc', hx, hk, he⟩ := (sim_all (c := C) hv dx).2.2 rfl hn p ⟨hfx, hi⟩ hat1
   simp only at hk
   have hc : C[pc']? = some (21, 0) := by
     cases hcc : st'.c with
     | true => rw [hcc, if_pos rfl] at he; exact he
     | false => rw [hcc, if_neg (by simp)] at he; rw [he]; exact hstop
   exact ⟨20000 - k - 1, by omega, execute_Z (e0 := e0) (e1 := e1) (e2 := e2) hw hb hd hcl (n := 20000) (by omega) hx hc (by omega)⟩
theorem compileRuns_Z {l sd : D} {ls xs : List Int} (hl : RowV l ls) (hx : ∀ x ∈ ls, I64 x) (hs : IsRow sd xs) (hy : ∀ x ∈ xs, I64 x) : Z prog15z (.call 205 [.dat l, .dat sd] []) = some (.ret (.bool true) []) := by
 obtain ⟨a, b, c, ga, gb, gc, zp⟩ := Program_Z hl hx
 have fa := ga.1
 have fb := gb.1
 have fc := gc.1
 have sa := hd_size a fa
 have sb := hd_size b fb
 have sc := hd_size c fc
 obtain ⟨m0, m1, m2, d0, d1, d2, zr⟩ := compileR_Z fa fb fc
 have zc := upZ (compile_Z fa fb fc d0 d1 d2)
 have zv := upZ (Z_sub sub_base14v_base15 (rVariables_Z (a := a.nd) (b := b.nd) (c := c.nd) (Nat.lt_of_le_of_lt sa (by decide)) (Nat.lt_of_le_of_lt sb (by decide)) (Nat.lt_of_le_of_lt sc (by decide))))
 have zp := upZ zp
 have l5 := rvars_len4 fa.fine fb.fine fc.fine
 obtain ⟨ia, ib, ic⟩ := rvars_in (a := a) (b := b) (c := c)
 have hC : progC (rvars a.nd b.nd c.nd) a b c = sq (hdC (rvars a.nd b.nd c.nd) a) (sq (hdC (rvars a.nd b.nd c.nd) b) (hdC (rvars a.nd b.nd c.nd) c)) ((0 : Nat) : Int) := rfl
 have hE0 : ent0 a = entV a ((0 : Nat) : Int) := rfl
 have hE1 : ent1 (rvars a.nd b.nd c.nd) a b = entV b ((0 + (hdC (rvars a.nd b.nd c.nd) a ((0 : Nat) : Int)).length : Nat) : Int) := by simp [ent1]
 have hE2 : ent2 (rvars a.nd b.nd c.nd) a b c = entV c ((0 + (hdC (rvars a.nd b.nd c.nd) a ((0 : Nat) : Int)).length + (hdC (rvars a.nd b.nd c.nd) b ((0 + (hdC (rvars a.nd b.nd c.nd) a ((0 : Nat) : Int)).length : Nat) : Int)).length : Nat) : Int) := by
   simp [ent2, sq]
 generalize rvars a.nd b.nd c.nd = vs at *
 have hvs : vs.length <= 16 := by omega
 have hCd : CdAt (progC vs a b c) 0 (progC vs a b c) := fun i _ => by rw [Nat.zero_add]
 rw [hC] at hCd
 obtain ⟨q0, q⟩ := at_sq hCd
 obtain ⟨q1, q2⟩ := at_sq q
 rw [<- hC] at q0 q1 q2
 have hcl : (progC vs a b c).length <= 30000 := progC_len fa fb fc
 have hlen := begW_length xs 48
 have hbd := begW_bd hy 48
 have hd := codeD_is (progC vs a b c)
 have r0 := fun e0 e1 e2 => ru_ok (e0 := e0) (e1 := e1) (e2 := e2) hd (by omega) hvs hlen hbd fa ia q0
 have r1 := fun e0 e1 e2 => ru_ok (e0 := e0) (e1 := e1) (e2 := e2) hd (by omega) hvs hlen hbd fb ib q1
 have r2 := fun e0 e1 e2 => ru_ok (e0 := e0) (e1 := e1) (e2 := e2) hd (by omega) hvs hlen hbd fc ic q2
 rw [<- hE0] at r0
 rw [<- hE1] at r1
 rw [<- hE2] at r2
 clear q0 q1 q2 q hC hE0 hE1 hE2 hCd d0 d1 d2
 generalize ent0 a = e0 at *
 generalize ent1 vs a b = e1 at *
 generalize ent2 vs a b c = e2 at *
 generalize progC vs a b c = C at *
 have ho' := hs.one
 have hcc' := hs.cells
 unfold compV at zc zr
 by_cases h4 : 400 < C.length
 · rw [if_pos h4] at zc zr
   have zl := later_Z (.inl rfl) zr
   simp only [ru, Nd.d, hd_k, hd_n, hd_s, hd_f, hd_ks, pgD] at zp zc zl
   refine Z_call (pf := F205) rfl rfl ?_
   simp [F205, zp, zc, zl, lives_z, ho', hcc', calm, alone, List.range_succ]
 rw [if_neg h4] at zc zr
 by_cases h5 : 16 < m0 \/ 16 < m1 \/ 16 < m2
 · rw [if_pos h5] at zc zr
   have zl := later_Z (.inl rfl) zr
   simp only [ru, Nd.d, hd_k, hd_n, hd_s, hd_f, hd_ks, pgD] at zp zc zl
   refine Z_call (pf := F205) rfl rfl ?_
   simp [F205, zp, zc, zl, lives_z, ho', hcc', calm, alone, List.range_succ]
 rw [if_neg h5] at zc zr
 have s0 := ru_step0 (a := a) (b := b) (c := c) hd hs hy (r0 e0 e1 e2)
 have s1 := ru_step1 (a := a) (b := b) (c := c) hd hs hy (r1 e0 e1 e2)
 have s2 := ru_step2 (a := a) (b := b) (c := c) hd hs hy (r2 e0 e1 e2)
 have r := s0.trans (s1.trans s2)
 have ho := hd.one
 have hcc := hd.cells
 have zl : Z prog15z (.loop 0 F205l0 (ruFr sd vs 3) (ruSt a b c (codeD C) e0 e1 e2)) = some (.out (.exit 0) (ruFr sd vs 3 ++ [(31, .bool false)]) (ruSt a b c (codeD C) e0 e1 e2)) := by
   rw [Z_loop_eq]
   simp [loopStep, run_F205l0, ho, hcc, ho', hcc', rbox, Nd.d, List.range_succ]
 rw [zl] at r
 generalize codeD C = X at *
 simp only [ru, Nd.d, hd_k, hd_n, hd_s, hd_f, hd_ks, pgD] at zp zc zv
 simp only [ruSt, rbox, Nd.d, hd_k, hd_n, hd_s, hd_f, hd_ks, ruFr] at r
 refine Z_call (pf := F205) rfl rfl ?_
 simp [F205, zp, zc, zv, r, ho, hcc, ho', hcc', lives_z, calm, alone, List.range_succ]
end Go.Pm
end SRt
