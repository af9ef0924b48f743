/-
  DERIVED. GIVEN WITH THE SEED: THE CARDS: each row of YtmigbfimahjacaaGreatDoorRows.lean that lists a variable, with what it lists TIED to the program's text (the seventh form; the later family's looks); each row that meets fmt, with fmt's text TOLD by the authors' own Lean function (tested against real Go, not proved from fmt's source: count such statements apart). THE CARD IS WHAT COUNTS. Prove the row's statement (the work); the ties are given (YtmigbfimahjacaaGreatDoorTie.lean); close each card by the builder's one call (the guide's Derived/Test/ToyasCard.lean, 'card_holds'). Laid BY PROGRAM, IN A SANDBOX (cutbox-door.mjs). By AI agents, Wed Nov 11 2026. No macro, syntax, notation, axiom, sorry.
-/
import Derived.Test.YtmigbfimahjacaaGreatDoorRows
import GoSem.ClaimSeven
namespace Go.Proofs.YtmigbfimahjacaaGreatDoor
namespace Rows

/-- THE TIED CARD OF 'arenanetlaw35.SimnetChecks'. -/
def simnetChecksCard : Claim7 := { stood := { row := simnetChecksRow, standIns := [], harness := (true, "6a9c64b210858ffda821c5097524e9fcadb881014262d29c87ac414a7b9f9060"), looks := true }, kinds := [], alts := [], laidByText := true, laidKinds := [.data, .data, .data], laidTests := true, laidLooks := .later }
def SimnetChecksCardSaid : Prop := Claim7.holds Tryz.pinned (.plain (OpenSpec.ofChange simnetChecksSpec)) simnetChecksCard

/-- THE SECOND FORM's CARD OF 'arenanetlaw35.SimnetChecks'. -/
def simnetChecksUptoCard : Claim7 := { stood := { row := simnetChecksUptoRow, standIns := [], harness := (true, "6a9c64b210858ffda821c5097524e9fcadb881014262d29c87ac414a7b9f9060"), looks := true }, kinds := [], alts := [], laidByText := true, laidKinds := [.data, .data, .data], laidTests := true, laidLooks := .later }
def SimnetChecksUptoCardSaid : Prop := Claim7.holds Tryz.pinned (.plain (OpenSpec.upto simnetChecksSpec)) simnetChecksUptoCard
end Rows
end Go.Proofs.YtmigbfimahjacaaGreatDoor
