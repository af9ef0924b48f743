/-
  DERIVED. GIVEN WITH THE SEED: THE CARDS: each row of YtoccgneneplciaaGreatDoorRows.lean that lists a variable, with what it lists TIED to the program's text (the seventh form; the later family's looks); each row that meets fmt, with fmt's text TOLD by the authors' own Lean function (tested against real Go, not proved from fmt's source: count such statements apart). THE CARD IS WHAT COUNTS. Prove the row's statement (the work); the ties are given (YtoccgneneplciaaGreatDoorTie.lean); close each card by the builder's one call (the guide's Derived/Test/ToyasCard.lean, 'card_holds'). Laid BY PROGRAM, IN A SANDBOX (cutbox-door.mjs). By AI agents, Wed Nov 11 2026. No macro, syntax, notation, axiom, sorry.
-/
import Derived.Test.YtoccgneneplciaaGreatDoorRows
import GoSem.ClaimSeven
namespace Go.Proofs.YtoccgneneplciaaGreatDoor
namespace Rows

/-- THE TIED CARD OF 'arenanetlaw13.ParserParses'. -/
def parserParsesCard : Claim7 := { stood := { row := parserParsesRow, standIns := [], harness := (true, "d7e1d42638b5276fdf99f4b5ca10846a99173272ae3fee1bf0c92a56ec3054bf"), looks := false }, kinds := [], alts := [], laidByText := true, laidKinds := [.data, .data, .data], laidTests := true, laidLooks := .later }
def ParserParsesCardSaid : Prop := Claim7.holds Tryz.pinned (.plain (OpenSpec.ofChange parserParsesSpec)) parserParsesCard

/-- THE TIED CARD OF 'arenanetlaw15.CompilePrinted'. -/
def compilePrintedCard : Claim7 := { stood := { row := compilePrintedRow, standIns := [], harness := (true, "d7e1d42638b5276fdf99f4b5ca10846a99173272ae3fee1bf0c92a56ec3054bf"), looks := false }, kinds := [], alts := [], laidByText := true, laidKinds := [.data, .data, .data, .data], laidTests := true, laidLooks := .later }
def CompilePrintedCardSaid : Prop := Claim7.holds Tryz.pinned (.plain (OpenSpec.ofChange compilePrintedSpec)) compilePrintedCard

/-- THE SECOND FORM's CARD OF 'arenanetlaw13.ParserParses'. -/
def parserParsesUptoCard : Claim7 := { stood := { row := parserParsesUptoRow, standIns := [], harness := (true, "d7e1d42638b5276fdf99f4b5ca10846a99173272ae3fee1bf0c92a56ec3054bf"), looks := false }, kinds := [], alts := [], laidByText := true, laidKinds := [.data, .data, .data], laidTests := true, laidLooks := .later }
def ParserParsesUptoCardSaid : Prop := Claim7.holds Tryz.pinned (.plain (OpenSpec.upto parserParsesSpec)) parserParsesUptoCard

/-- THE SECOND FORM's CARD OF 'arenanetlaw15.CompilePrinted'. -/
def compilePrintedUptoCard : Claim7 := { stood := { row := compilePrintedUptoRow, standIns := [], harness := (true, "d7e1d42638b5276fdf99f4b5ca10846a99173272ae3fee1bf0c92a56ec3054bf"), looks := false }, kinds := [], alts := [], laidByText := true, laidKinds := [.data, .data, .data, .data], laidTests := true, laidLooks := .later }
def CompilePrintedUptoCardSaid : Prop := Claim7.holds Tryz.pinned (.plain (OpenSpec.upto compilePrintedSpec)) compilePrintedUptoCard
end Rows
end Go.Proofs.YtoccgneneplciaaGreatDoor
