/- Chapter 36: the bound of a dispute agrees with the reference, is monotone in both numbers and grows by 2 when one of them is doubled. -/
import Derived.Test.YtlllpifkcpijiaaGreatDoorRows
import Derived.Test.YtlllpifkcpijiaaGreatDoorPmTFS
import Derived.Test.YtlllpifkcpijiaaGreatDoorPmTF14
import Derived.Test.YtlllpifkcpijiaaGreatDoorPmT14
import Derived.Test.YtlllpifkcpijiaaGreatDoorCards
import Derived.Test.YtlllpifkcpijiaaGreatDoorTie
import Derived.SevenTiedAt
import Derived.LaidMore
import Derived.Stop.Joined
import Derived.WalkKit
import Derived.ProofKit
import Derived.OpenShut
import Derived.ShutString
import Derived.ChangeOld
import Derived.Below
set_option linter.unusedSimpArgs false
set_option linter.unusedVariables false
section
namespace Go.Proofs.YtlllpifkcpijiaaGreatDoor.auditBound
open Go.ChangeShapes Go.WideShapes Go.ChangeAt Go.RowKit
open Go.ChangeMaps (open_string shut_string)
set_option linter.unusedVariables false      -- a walk need not use every 'w<i>' (that an integer argument fits its kind)

theorem own : ownKnob Tryz.prog.godebug = none := by kernel_rfl

theorem walk (a0 : Int) (a1 : Int) (w0 : (Lit.int .i64 a0).wf = true) (w1 : (Lit.int .i64 a1).wf = true) (w : World) (hglb : Go.Pm.GlbAt T.fid w) :
    Calls Tryz.prog 3 #[.int .i64 a0, .int .i64 a1] w fun e w' => e = .returned (.bool true) ∧ Below w.heap.size w w' := by
  refine (Go.Pm.calls_of_Z (f := 361) T.hid T.hcr T.mixed T.tied (Go.Pm.boundX_Z (Go.Pm.wf_i64 w0) (Go.Pm.wf_i64 w1)) hglb (Go.Pm.reps_cons (Go.Pm.int_rep T.fid w _) (Go.Pm.reps_cons (Go.Pm.int_rep T.fid w _) rfl))).mono fun e w' h => ?_
  exact ⟨h.1, h.2.1, h.2.2.1, h.2.2.2.1, h.2.2.2.2.1, h.2.2.2.2.2⟩

theorem door_met (os : Os) (args : Array Value) : laidMetH Tryz.prog [("arenanet/input.inputs", Rows.laid_arenanet_input_inputs), ("arenanet/compile.effects", Rows.laid_arenanet_compile_effects), ("arenanet/vm.effects", Rows.laid_arenanet_vm_effects)] ((World.doorLaid Tryz.prog 400 os).forCall (fun _ _ => 0) ⟨#[], args, []⟩).memory :=
  laidMetH_of_parts3 (fuel := 8) (laidMet_of_run' 8 (by kernel_rfl) (by kernel_rfl)) (by kernel_rfl) (by kernel_rfl)
set_option maxRecDepth 100000 in
theorem lifted (os : Os) (started : os.Started) (H : Type) (enc : TypeId × Value → H) :
    ReturnsInHanded {} Tryz.checked os 3 .any (fun w args => (Rows.auditBoundSpec.pre enc Tryz.prog Tryz.f3 [] false w args ∧ laidMetH Tryz.prog [("arenanet/input.inputs", Rows.laid_arenanet_input_inputs), ("arenanet/compile.effects", Rows.laid_arenanet_compile_effects), ("arenanet/vm.effects", Rows.laid_arenanet_vm_effects)] w) ∧ sizedMet enc Tryz.prog Tryz.f3 (OpenSpec.ofChange Rows.auditBoundSpec) false w args)
      (Rows.auditBoundSpec.post enc Tryz.prog Tryz.f3 false true false false) := by
  refine returnsInHanded_of_change_and (C := Tryz.checked) (X := fun w _ => laidMetH Tryz.prog [("arenanet/input.inputs", Rows.laid_arenanet_input_inputs), ("arenanet/compile.effects", Rows.laid_arenanet_compile_effects), ("arenanet/vm.effects", Rows.laid_arenanet_vm_effects)] w) (fun _ _ _ hh h => h.of_heap hh) own started (by kernel_rfl) Tryz.func3
    (ChangeSpec.witness_shaped (enc := enc) (C := Tryz.checked) (os := os) (X := fun w _ => laidMetH Tryz.prog [("arenanet/input.inputs", Rows.laid_arenanet_input_inputs), ("arenanet/compile.effects", Rows.laid_arenanet_compile_effects), ("arenanet/vm.effects", Rows.laid_arenanet_vm_effects)] w) false (World.doorLaid Tryz.prog 400 os) #[.int .i64 0, .int .i64 0] 8 rfl (World.shaped_of_RefB (by kernel_rfl) (by kernel_rfl)) (by kernel_rfl) (by kernel_rfl) (by kernel_rfl) (door_met os _)) ?_
  intro W base args ds gs before hval0 hW _ _ hL _
  rw [MakeChecks.laidMetH_plain _ _ _ (by kernel_rfl)] at hL
  have hval : ∀ (j : Nat) t v, Tryz.f3.params[j]? = some t → args[j]? = some v → Value.okWide Tryz.prog W .any base t v := hval0
  have hW' := hW
  obtain ⟨p, q, hA0, hV, rfl, hfz, hnd⟩ := hW
  have hA : DataW.TrodAll enc Tryz.prog W 0 (fun _ => true) true Tryz.f3.params.toList args.toList ds p := hA0
  rw [Tryz.params3] at hA hval
  obtain ⟨v0, vs0, d0, ds0, p0, q0, hargs, rfl, rfl, h0, r0⟩ := trodAll_cons hA
  obtain ⟨v1, vs1, d1, ds1, p1, q1, rfl, rfl, rfl, h1, r1⟩ := trodAll_cons r0
  obtain ⟨rfl, rfl, rfl⟩ := trodAll_nil r1
  obtain rfl : args = #[v0, v1] := by cases args; simp_all
  obtain ⟨rfl, rfl⟩ := trodVars_none hV
  obtain ⟨a0, rfl, rfl, rfl, w0⟩ := open_int Tryz.underlying3 (hval 0 3 v0 rfl rfl) h0
  obtain ⟨a1, rfl, rfl, rfl, w1⟩ := open_int Tryz.underlying3 (hval 1 3 v1 rfl rfl) h1
  clear hA0 hval0
  refine (walk a0 a1 w0 w1 W (T.glb hL)).mono fun e W' ⟨he, bel⟩ => ?_
  subst he
  exact ⟨_, rfl, _, _, _, [], _, [], hW', trodAll_mk1 (shut_bool Tryz.underlying4 _), (trodAll_cons_mk (shut_int Tryz.underlying3 w0) (trodAll_cons_mk (shut_int Tryz.underlying3 w1) trodAll_mk0)), rfl, bel.frame _, fun h => by cases h⟩

theorem over : Rows.auditBoundRow.holds Tryz.pinned (OpenSpec.ofChange Rows.auditBoundSpec) :=
  OpenClaim.holds_of_wide 3 Tryz.f3 rfl rfl rfl rfl rfl rfl rfl ⟨rfl, rfl, rfl, rfl, rfl⟩ rfl rfl rfl rfl rfl (by kernel_rfl) Tryz.func3 K.closed
    (of_decide_eq_true (by kernel_rfl)) (by unfold Func.isWrapper; first | (rw [if_pos (by decide +kernel)]; kernel_rfl) | (rw [if_neg (by decide +kernel)]; exact ⟨rfl, rfl⟩))
    (fun os started H enc _ => lifted os started H enc)

theorem proved : Rows.AuditBoundCardSaid :=
  Claim7.holds_tied_plain_at .later [] [.data, .data, .data] true (true, "b2da78b9d02817b0b89f4cd98a851661a69fd24b4ca2b82f41c7b13784441c87") true
    over (fun _ h => by cases h) (by kernel_rfl) (fun _ h => by cases h) auditBound_row_tie rfl ⟨rfl, rfl⟩ (by kernel_rfl) rfl
    (fun f fn hf hfn => by
      obtain rfl : f = 3 := Option.some.inj ((show Tryz.prog.funcNamed "arenanet/arenanetlaw36.AuditBound" = some 3 by kernel_rfl).symm.trans hf) |>.symm
      obtain rfl : fn = Tryz.f3 := (Option.some.inj (Tryz.func3.symm.trans hfn)).symm
      exact ⟨by kernel_rfl, fun j t ht => by
        rw [Tryz.params3] at ht
        have hm : t ∈ [3, 3] := by simpa using Array.mem_of_getElem? ht
        have hall : ([3, 3].all fun u => !Tryz.prog.wantsStandIn u) = true := by kernel_rfl
        exact (show Tryz.prog.wantsStandIn t = false by simpa using List.all_eq_true.1 hall t hm)⟩)
    (Go.Pm.goesBy_none (P := Tryz.prog) (by kernel_rfl) _).symm
#print axioms proved
end Go.Proofs.YtlllpifkcpijiaaGreatDoor.auditBound
end
