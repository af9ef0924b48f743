/-
  DERIVED. GIVEN WITH THE SEED: THE CARDS: each row of YtpakkndfjpimgaaGreatDoorRows.lean that lists a variable, with what it lists TIED to the program's text (the seventh form; the later family's looks); each row that meets fmt, with fmt's text TOLD by the authors' own Lean function (tested against real Go, not proved from fmt's source: count such statements apart). THE CARD IS WHAT COUNTS. Prove the row's statement (the work); the ties are given (YtpakkndfjpimgaaGreatDoorTie.lean); close each card by the builder's one call (the guide's Derived/Test/ToyasCard.lean, 'card_holds'). Laid BY PROGRAM, IN A SANDBOX (cutbox-door.mjs). By AI agents, Wed Nov 11 2026. No macro, syntax, notation, axiom, sorry.
-/
import Derived.Test.YtpakkndfjpimgaaGreatDoorRows
import GoSem.ClaimSeven
namespace Go.Proofs.YtpakkndfjpimgaaGreatDoor
namespace Rows

/-- THE TIED CARD OF 'arenanetlaw17.PatchModel'. -/
def patchModelCard : Claim7 := { stood := { row := patchModelRow, standIns := [], harness := (true, "dc757c2cd7931ac86b7618fba378ee5ff0fab29d97f8cbf5afabdf64f00c3a00"), looks := false }, kinds := [], alts := [], laidByText := true, laidKinds := [.data], laidTests := true, laidLooks := .later }
def PatchModelCardSaid : Prop := Claim7.holds Tryz.pinned (.plain (OpenSpec.ofChange patchModelSpec)) patchModelCard

/-- THE TIED CARD OF 'arenanetlaw17.PatchStability'. -/
def patchStabilityCard : Claim7 := { stood := { row := patchStabilityRow, standIns := [], harness := (true, "dc757c2cd7931ac86b7618fba378ee5ff0fab29d97f8cbf5afabdf64f00c3a00"), looks := false }, kinds := [], alts := [], laidByText := true, laidKinds := [.data], laidTests := true, laidLooks := .later }
def PatchStabilityCardSaid : Prop := Claim7.holds Tryz.pinned (.plain (OpenSpec.ofChange patchStabilitySpec)) patchStabilityCard

/-- THE TIED CARD OF 'arenanetlaw17.PatchBinding'. -/
def patchBindingCard : Claim7 := { stood := { row := patchBindingRow, standIns := [], harness := (true, "dc757c2cd7931ac86b7618fba378ee5ff0fab29d97f8cbf5afabdf64f00c3a00"), looks := false }, kinds := [], alts := [], laidByText := true, laidKinds := [.data], laidTests := true, laidLooks := .later }
def PatchBindingCardSaid : Prop := Claim7.holds Tryz.pinned (.plain (OpenSpec.ofChange patchBindingSpec)) patchBindingCard

/-- THE TIED CARD OF 'arenanetlaw17.PatchOwnership'. -/
def patchOwnershipCard : Claim7 := { stood := { row := patchOwnershipRow, standIns := [], harness := (true, "dc757c2cd7931ac86b7618fba378ee5ff0fab29d97f8cbf5afabdf64f00c3a00"), looks := false }, kinds := [], alts := [], laidByText := true, laidKinds := [.data], laidTests := true, laidLooks := .later }
def PatchOwnershipCardSaid : Prop := Claim7.holds Tryz.pinned (.plain (OpenSpec.ofChange patchOwnershipSpec)) patchOwnershipCard

/-- THE TIED CARD OF 'arenanetlaw17.PatchPipeline'. -/
def patchPipelineCard : Claim7 := { stood := { row := patchPipelineRow, standIns := [], harness := (true, "dc757c2cd7931ac86b7618fba378ee5ff0fab29d97f8cbf5afabdf64f00c3a00"), looks := false }, kinds := [], alts := [], laidByText := true, laidKinds := [.data], laidTests := true, laidLooks := .later }
def PatchPipelineCardSaid : Prop := Claim7.holds Tryz.pinned (.plain (OpenSpec.ofChange patchPipelineSpec)) patchPipelineCard

/-- THE TIED CARD OF 'arenanetlaw16.VmEvaluates'. -/
def vmEvaluatesCard : Claim7 := { stood := { row := vmEvaluatesRow, standIns := [], harness := (true, "dc757c2cd7931ac86b7618fba378ee5ff0fab29d97f8cbf5afabdf64f00c3a00"), looks := false }, kinds := [], alts := [], laidByText := true, laidKinds := [.data, .data], laidTests := true, laidLooks := .later }
def VmEvaluatesCardSaid : Prop := Claim7.holds Tryz.pinned (.plain (OpenSpec.ofChange vmEvaluatesSpec)) vmEvaluatesCard

/-- THE TIED CARD OF 'arenanetlaw16.VmRuns'. -/
def vmRunsCard : Claim7 := { stood := { row := vmRunsRow, standIns := [], harness := (true, "dc757c2cd7931ac86b7618fba378ee5ff0fab29d97f8cbf5afabdf64f00c3a00"), looks := false }, kinds := [], alts := [], laidByText := true, laidKinds := [.data, .data], laidTests := true, laidLooks := .later }
def VmRunsCardSaid : Prop := Claim7.holds Tryz.pinned (.plain (OpenSpec.ofChange vmRunsSpec)) vmRunsCard

/-- THE TIED CARD OF 'arenanetlaw17.PatchNormalForm'. -/
def patchNormalFormCard : Claim7 := { stood := { row := patchNormalFormRow, standIns := [], harness := (true, "dc757c2cd7931ac86b7618fba378ee5ff0fab29d97f8cbf5afabdf64f00c3a00"), looks := false }, kinds := [], alts := [], laidByText := true, laidKinds := [.data, .data, .data, .data], laidTests := true, laidLooks := .later }
def PatchNormalFormCardSaid : Prop := Claim7.holds Tryz.pinned (.plain (OpenSpec.ofChange patchNormalFormSpec)) patchNormalFormCard

/-- THE SECOND FORM's CARD OF 'arenanetlaw17.PatchModel'. -/
def patchModelUptoCard : Claim7 := { stood := { row := patchModelUptoRow, standIns := [], harness := (true, "dc757c2cd7931ac86b7618fba378ee5ff0fab29d97f8cbf5afabdf64f00c3a00"), looks := false }, kinds := [], alts := [], laidByText := true, laidKinds := [.data], laidTests := true, laidLooks := .later }
def PatchModelUptoCardSaid : Prop := Claim7.holds Tryz.pinned (.plain (OpenSpec.upto patchModelSpec)) patchModelUptoCard

/-- THE SECOND FORM's CARD OF 'arenanetlaw17.PatchStability'. -/
def patchStabilityUptoCard : Claim7 := { stood := { row := patchStabilityUptoRow, standIns := [], harness := (true, "dc757c2cd7931ac86b7618fba378ee5ff0fab29d97f8cbf5afabdf64f00c3a00"), looks := false }, kinds := [], alts := [], laidByText := true, laidKinds := [.data], laidTests := true, laidLooks := .later }
def PatchStabilityUptoCardSaid : Prop := Claim7.holds Tryz.pinned (.plain (OpenSpec.upto patchStabilitySpec)) patchStabilityUptoCard

/-- THE SECOND FORM's CARD OF 'arenanetlaw17.PatchBinding'. -/
def patchBindingUptoCard : Claim7 := { stood := { row := patchBindingUptoRow, standIns := [], harness := (true, "dc757c2cd7931ac86b7618fba378ee5ff0fab29d97f8cbf5afabdf64f00c3a00"), looks := false }, kinds := [], alts := [], laidByText := true, laidKinds := [.data], laidTests := true, laidLooks := .later }
def PatchBindingUptoCardSaid : Prop := Claim7.holds Tryz.pinned (.plain (OpenSpec.upto patchBindingSpec)) patchBindingUptoCard

/-- THE SECOND FORM's CARD OF 'arenanetlaw17.PatchOwnership'. -/
def patchOwnershipUptoCard : Claim7 := { stood := { row := patchOwnershipUptoRow, standIns := [], harness := (true, "dc757c2cd7931ac86b7618fba378ee5ff0fab29d97f8cbf5afabdf64f00c3a00"), looks := false }, kinds := [], alts := [], laidByText := true, laidKinds := [.data], laidTests := true, laidLooks := .later }
def PatchOwnershipUptoCardSaid : Prop := Claim7.holds Tryz.pinned (.plain (OpenSpec.upto patchOwnershipSpec)) patchOwnershipUptoCard

/-- THE SECOND FORM's CARD OF 'arenanetlaw17.PatchPipeline'. -/
def patchPipelineUptoCard : Claim7 := { stood := { row := patchPipelineUptoRow, standIns := [], harness := (true, "dc757c2cd7931ac86b7618fba378ee5ff0fab29d97f8cbf5afabdf64f00c3a00"), looks := false }, kinds := [], alts := [], laidByText := true, laidKinds := [.data], laidTests := true, laidLooks := .later }
def PatchPipelineUptoCardSaid : Prop := Claim7.holds Tryz.pinned (.plain (OpenSpec.upto patchPipelineSpec)) patchPipelineUptoCard

/-- THE SECOND FORM's CARD OF 'arenanetlaw16.VmEvaluates'. -/
def vmEvaluatesUptoCard : Claim7 := { stood := { row := vmEvaluatesUptoRow, standIns := [], harness := (true, "dc757c2cd7931ac86b7618fba378ee5ff0fab29d97f8cbf5afabdf64f00c3a00"), looks := false }, kinds := [], alts := [], laidByText := true, laidKinds := [.data, .data], laidTests := true, laidLooks := .later }
def VmEvaluatesUptoCardSaid : Prop := Claim7.holds Tryz.pinned (.plain (OpenSpec.upto vmEvaluatesSpec)) vmEvaluatesUptoCard

/-- THE SECOND FORM's CARD OF 'arenanetlaw16.VmRuns'. -/
def vmRunsUptoCard : Claim7 := { stood := { row := vmRunsUptoRow, standIns := [], harness := (true, "dc757c2cd7931ac86b7618fba378ee5ff0fab29d97f8cbf5afabdf64f00c3a00"), looks := false }, kinds := [], alts := [], laidByText := true, laidKinds := [.data, .data], laidTests := true, laidLooks := .later }
def VmRunsUptoCardSaid : Prop := Claim7.holds Tryz.pinned (.plain (OpenSpec.upto vmRunsSpec)) vmRunsUptoCard

/-- THE SECOND FORM's CARD OF 'arenanetlaw17.PatchNormalForm'. -/
def patchNormalFormUptoCard : Claim7 := { stood := { row := patchNormalFormUptoRow, standIns := [], harness := (true, "dc757c2cd7931ac86b7618fba378ee5ff0fab29d97f8cbf5afabdf64f00c3a00"), looks := false }, kinds := [], alts := [], laidByText := true, laidKinds := [.data, .data, .data, .data], laidTests := true, laidLooks := .later }
def PatchNormalFormUptoCardSaid : Prop := Claim7.holds Tryz.pinned (.plain (OpenSpec.upto patchNormalFormSpec)) patchNormalFormUptoCard
end Rows
end Go.Proofs.YtpakkndfjpimgaaGreatDoor
