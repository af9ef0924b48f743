/-
  DERIVED. GIVEN WITH THE SEED: THE CARDS: each row of YtdnnjabacgpfdaaGreatDoorRows.lean that lists a variable, with what it lists TIED to the program's text (the seventh form; the later family's looks); each row that meets fmt, with fmt's text TOLD by the authors' own Lean function (tested against real Go, not proved from fmt's source: count such statements apart). THE CARD IS WHAT COUNTS. Prove the row's statement (the work); the ties are given (YtdnnjabacgpfdaaGreatDoorTie.lean); close each card by the builder's one call (the guide's Derived/Test/ToyasCard.lean, 'card_holds'). Laid BY PROGRAM, IN A SANDBOX (cutbox-door.mjs). By AI agents, Wed Nov 11 2026. No macro, syntax, notation, axiom, sorry.
-/
import Derived.Test.YtdnnjabacgpfdaaGreatDoorRows
import GoSem.ClaimSeven
namespace Go.Proofs.YtdnnjabacgpfdaaGreatDoor
namespace Rows

/-- THE TIED CARD OF 'arenanetlaw15.CompileRuns'. -/
def compileRunsCard : Claim7 := { stood := { row := compileRunsRow, standIns := [], harness := (true, "7e98c05828dd076d02c632b4a785b9517fb05373b9ee92c9820e0fb5387d5816"), looks := false }, kinds := [], alts := [], laidByText := true, laidKinds := [.data], laidTests := true, laidLooks := .later }
def CompileRunsCardSaid : Prop := Claim7.holds Tryz.pinned (.plain (OpenSpec.ofChange compileRunsSpec)) compileRunsCard

/-- THE TIED CARD OF 'arenanetlaw15.CompileAccepted'. -/
def compileAcceptedCard : Claim7 := { stood := { row := compileAcceptedRow, standIns := [], harness := (true, "7e98c05828dd076d02c632b4a785b9517fb05373b9ee92c9820e0fb5387d5816"), looks := false }, kinds := [], alts := [], laidByText := true, laidKinds := [.data], laidTests := true, laidLooks := .later }
def CompileAcceptedCardSaid : Prop := Claim7.holds Tryz.pinned (.plain (OpenSpec.ofChange compileAcceptedSpec)) compileAcceptedCard

/-- THE SECOND FORM's CARD OF 'arenanetlaw15.CompileRuns'. -/
def compileRunsUptoCard : Claim7 := { stood := { row := compileRunsUptoRow, standIns := [], harness := (true, "7e98c05828dd076d02c632b4a785b9517fb05373b9ee92c9820e0fb5387d5816"), looks := false }, kinds := [], alts := [], laidByText := true, laidKinds := [.data], laidTests := true, laidLooks := .later }
def CompileRunsUptoCardSaid : Prop := Claim7.holds Tryz.pinned (.plain (OpenSpec.upto compileRunsSpec)) compileRunsUptoCard

/-- THE SECOND FORM's CARD OF 'arenanetlaw15.CompileAccepted'. -/
def compileAcceptedUptoCard : Claim7 := { stood := { row := compileAcceptedUptoRow, standIns := [], harness := (true, "7e98c05828dd076d02c632b4a785b9517fb05373b9ee92c9820e0fb5387d5816"), looks := false }, kinds := [], alts := [], laidByText := true, laidKinds := [.data], laidTests := true, laidLooks := .later }
def CompileAcceptedUptoCardSaid : Prop := Claim7.holds Tryz.pinned (.plain (OpenSpec.upto compileAcceptedSpec)) compileAcceptedUptoCard
end Rows
end Go.Proofs.YtdnnjabacgpfdaaGreatDoor
