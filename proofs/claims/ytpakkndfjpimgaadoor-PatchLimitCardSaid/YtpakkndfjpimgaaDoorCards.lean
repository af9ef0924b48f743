/-
  DERIVED. GIVEN WITH THE SEED: THE CARDS: each row of YtpakkndfjpimgaaDoorRows.lean that lists a variable, with what it lists TIED to the program's text (the seventh form; the later family's looks); each row that meets fmt, with fmt's text TOLD by the authors' own Lean function (tested against real Go, not proved from fmt's source: count such statements apart). THE CARD IS WHAT COUNTS. Prove the row's statement (the work); the ties are given (YtpakkndfjpimgaaDoorTie.lean); close each card by the builder's one call (the guide's Derived/Test/ToyasCard.lean, 'card_holds'). Laid BY PROGRAM, IN A SANDBOX (cutbox-door.mjs). By AI agents, Wed Nov 11 2026. No macro, syntax, notation, axiom, sorry.
-/
import Derived.Test.YtpakkndfjpimgaaDoorRows
import GoSem.ClaimSeven
namespace Go.Proofs.YtpakkndfjpimgaaDoor
namespace Rows

/-- THE TIED CARD OF 'arenanetlaw17.PatchLimit'. -/
def patchLimitCard : Claim7 := { stood := { row := patchLimitRow, standIns := [], harness := (true, "b14986d58933f96581baa645bf164dc5be1749cfa15b31625d8d985de3e04c84"), looks := false }, kinds := [], alts := [], laidByText := true, laidKinds := [.data], laidTests := true, laidLooks := .later }
def PatchLimitCardSaid : Prop := Claim7.holds Tryd.pinned (.plain (OpenSpec.ofChange patchLimitSpec)) patchLimitCard

/-- THE SECOND FORM's CARD OF 'arenanetlaw17.PatchLimit'. -/
def patchLimitUptoCard : Claim7 := { stood := { row := patchLimitUptoRow, standIns := [], harness := (true, "b14986d58933f96581baa645bf164dc5be1749cfa15b31625d8d985de3e04c84"), looks := false }, kinds := [], alts := [], laidByText := true, laidKinds := [.data], laidTests := true, laidLooks := .later }
def PatchLimitUptoCardSaid : Prop := Claim7.holds Tryd.pinned (.plain (OpenSpec.upto patchLimitSpec)) patchLimitUptoCard
end Rows
end Go.Proofs.YtpakkndfjpimgaaDoor
