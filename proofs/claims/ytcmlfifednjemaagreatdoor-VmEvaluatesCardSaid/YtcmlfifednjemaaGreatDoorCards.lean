/-
  DERIVED. GIVEN WITH THE SEED: THE CARDS: each row of YtcmlfifednjemaaGreatDoorRows.lean that lists a variable, with what it lists TIED to the program's text (the seventh form; the later family's looks); each row that meets fmt, with fmt's text TOLD by the authors' own Lean function (tested against real Go, not proved from fmt's source: count such statements apart). THE CARD IS WHAT COUNTS. Prove the row's statement (the work); the ties are given (YtcmlfifednjemaaGreatDoorTie.lean); close each card by the builder's one call (the guide's Derived/Test/ToyasCard.lean, 'card_holds'). Laid BY PROGRAM, IN A SANDBOX (cutbox-door.mjs). By AI agents, Wed Nov 11 2026. No macro, syntax, notation, axiom, sorry.
-/
import Derived.Test.YtcmlfifednjemaaGreatDoorRows
import GoSem.ClaimSeven
namespace Go.Proofs.YtcmlfifednjemaaGreatDoor
namespace Rows

/-- THE TIED CARD OF 'arenanetlaw16.VmEvaluates'. -/
def vmEvaluatesCard : Claim7 := { stood := { row := vmEvaluatesRow, standIns := [], harness := (true, "3888282688af78b3a607b7a2e7e5d4fb19b90a61ec2db8979c79c4501ecdd365"), looks := false }, kinds := [], alts := [], laidByText := true, laidKinds := [.data, .data], laidTests := true, laidLooks := .later }
def VmEvaluatesCardSaid : Prop := Claim7.holds Tryz.pinned (.plain (OpenSpec.ofChange vmEvaluatesSpec)) vmEvaluatesCard

/-- THE SECOND FORM's CARD OF 'arenanetlaw16.VmEvaluates'. -/
def vmEvaluatesUptoCard : Claim7 := { stood := { row := vmEvaluatesUptoRow, standIns := [], harness := (true, "3888282688af78b3a607b7a2e7e5d4fb19b90a61ec2db8979c79c4501ecdd365"), looks := false }, kinds := [], alts := [], laidByText := true, laidKinds := [.data, .data], laidTests := true, laidLooks := .later }
def VmEvaluatesUptoCardSaid : Prop := Claim7.holds Tryz.pinned (.plain (OpenSpec.upto vmEvaluatesSpec)) vmEvaluatesUptoCard
end Rows
end Go.Proofs.YtcmlfifednjemaaGreatDoor
