/-
  DERIVED. GIVEN WITH THE SEED: THE CARDS: each row of YtebnoobfoajkbaaGreatDoorRows.lean that lists a variable, with what it lists TIED to the program's text (the seventh form; the later family's looks); each row that meets fmt, with fmt's text TOLD by the authors' own Lean function (tested against real Go, not proved from fmt's source: count such statements apart). THE CARD IS WHAT COUNTS. Prove the row's statement (the work); the ties are given (YtebnoobfoajkbaaGreatDoorTie.lean); close each card by the builder's one call (the guide's Derived/Test/ToyasCard.lean, 'card_holds'). Laid BY PROGRAM, IN A SANDBOX (cutbox-door.mjs). By AI agents, Wed Nov 11 2026. No macro, syntax, notation, axiom, sorry.
-/
import Derived.Test.YtebnoobfoajkbaaGreatDoorRows
import GoSem.ClaimSeven
namespace Go.Proofs.YtebnoobfoajkbaaGreatDoor
namespace Rows

/-- THE TIED CARD OF 'arenanetlaw16.VmRuns'. -/
def vmRunsCard : Claim7 := { stood := { row := vmRunsRow, standIns := [], harness := (true, "6c070da09bb811d9010fa77e738b9fc1f58f0a3daf7f24ceaacdbe771a2cdb12"), looks := false }, kinds := [], alts := [], laidByText := true, laidKinds := [.data, .data], laidTests := true, laidLooks := .later }
def VmRunsCardSaid : Prop := Claim7.holds Tryz.pinned (.plain (OpenSpec.ofChange vmRunsSpec)) vmRunsCard

/-- THE SECOND FORM's CARD OF 'arenanetlaw16.VmRuns'. -/
def vmRunsUptoCard : Claim7 := { stood := { row := vmRunsUptoRow, standIns := [], harness := (true, "6c070da09bb811d9010fa77e738b9fc1f58f0a3daf7f24ceaacdbe771a2cdb12"), looks := false }, kinds := [], alts := [], laidByText := true, laidKinds := [.data, .data], laidTests := true, laidLooks := .later }
def VmRunsUptoCardSaid : Prop := Claim7.holds Tryz.pinned (.plain (OpenSpec.upto vmRunsSpec)) vmRunsUptoCard
end Rows
end Go.Proofs.YtebnoobfoajkbaaGreatDoor
