/-
  DERIVED. GIVEN WITH THE SEED: THE CARDS: each row of YtnagipbjopnfpaaGreatDoorRows.lean that lists a variable, with what it lists TIED to the program's text (the seventh form; the later family's looks); each row that meets fmt, with fmt's text TOLD by the authors' own Lean function (tested against real Go, not proved from fmt's source: count such statements apart). THE CARD IS WHAT COUNTS. Prove the row's statement (the work); the ties are given (YtnagipbjopnfpaaGreatDoorTie.lean); close each card by the builder's one call (the guide's Derived/Test/ToyasCard.lean, 'card_holds'). Laid BY PROGRAM, IN A SANDBOX (cutbox-door.mjs). By AI agents, Wed Nov 11 2026. No macro, syntax, notation, axiom, sorry.
-/
import Derived.Test.YtnagipbjopnfpaaGreatDoorRows
import GoSem.ClaimSeven
namespace Go.Proofs.YtnagipbjopnfpaaGreatDoor
namespace Rows

/-- THE TIED CARD OF 'arenanetlaw17.PatchNormalForm'. -/
def patchNormalFormCard : Claim7 := { stood := { row := patchNormalFormRow, standIns := [], harness := (true, "fe4fa6d425e390fe5e9d88bb060ca903da9bf1642ecd1ee3e64f7bae279b6748"), looks := false }, kinds := [], alts := [], laidByText := true, laidKinds := [.data, .data, .data, .data], laidTests := true, laidLooks := .later }
def PatchNormalFormCardSaid : Prop := Claim7.holds Tryz.pinned (.plain (OpenSpec.ofChange patchNormalFormSpec)) patchNormalFormCard

/-- THE SECOND FORM's CARD OF 'arenanetlaw17.PatchNormalForm'. -/
def patchNormalFormUptoCard : Claim7 := { stood := { row := patchNormalFormUptoRow, standIns := [], harness := (true, "fe4fa6d425e390fe5e9d88bb060ca903da9bf1642ecd1ee3e64f7bae279b6748"), looks := false }, kinds := [], alts := [], laidByText := true, laidKinds := [.data, .data, .data, .data], laidTests := true, laidLooks := .later }
def PatchNormalFormUptoCardSaid : Prop := Claim7.holds Tryz.pinned (.plain (OpenSpec.upto patchNormalFormSpec)) patchNormalFormUptoCard
end Rows
end Go.Proofs.YtnagipbjopnfpaaGreatDoor
