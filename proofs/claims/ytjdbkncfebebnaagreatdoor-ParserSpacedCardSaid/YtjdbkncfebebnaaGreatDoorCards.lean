/-
  DERIVED. GIVEN WITH THE SEED: THE CARDS: each row of YtjdbkncfebebnaaGreatDoorRows.lean that lists a variable, with what it lists TIED to the program's text (the seventh form; the later family's looks); each row that meets fmt, with fmt's text TOLD by the authors' own Lean function (tested against real Go, not proved from fmt's source: count such statements apart). THE CARD IS WHAT COUNTS. Prove the row's statement (the work); the ties are given (YtjdbkncfebebnaaGreatDoorTie.lean); close each card by the builder's one call (the guide's Derived/Test/ToyasCard.lean, 'card_holds'). Laid BY PROGRAM, IN A SANDBOX (cutbox-door.mjs). By AI agents, Wed Nov 11 2026. No macro, syntax, notation, axiom, sorry.
-/
import Derived.Test.YtjdbkncfebebnaaGreatDoorRows
import GoSem.ClaimSeven
namespace Go.Proofs.YtjdbkncfebebnaaGreatDoor
namespace Rows

/-- THE TIED CARD OF 'arenanetlaw13.ParserParses'. -/
def parserParsesCard : Claim7 := { stood := { row := parserParsesRow, standIns := [], harness := (true, "30afec952143c77068ceb8d7df6ffe3da6cbd95895bbe8977dbc20619e65b300"), looks := false }, kinds := [], alts := [], laidByText := true, laidKinds := [.data, .data, .data], laidTests := true, laidLooks := .later }
def ParserParsesCardSaid : Prop := Claim7.holds Tryz.pinned (.plain (OpenSpec.ofChange parserParsesSpec)) parserParsesCard

/-- THE TIED CARD OF 'arenanetlaw13.ParserSpaced'. -/
def parserSpacedCard : Claim7 := { stood := { row := parserSpacedRow, standIns := [], harness := (true, "30afec952143c77068ceb8d7df6ffe3da6cbd95895bbe8977dbc20619e65b300"), looks := false }, kinds := [], alts := [], laidByText := true, laidKinds := [.data, .data, .data], laidTests := true, laidLooks := .later }
def ParserSpacedCardSaid : Prop := Claim7.holds Tryz.pinned (.plain (OpenSpec.ofChange parserSpacedSpec)) parserSpacedCard

/-- THE TIED CARD OF 'arenanetlaw15.CompilePrinted'. -/
def compilePrintedCard : Claim7 := { stood := { row := compilePrintedRow, standIns := [], harness := (true, "30afec952143c77068ceb8d7df6ffe3da6cbd95895bbe8977dbc20619e65b300"), looks := false }, kinds := [], alts := [], laidByText := true, laidKinds := [.data, .data, .data, .data], laidTests := true, laidLooks := .later }
def CompilePrintedCardSaid : Prop := Claim7.holds Tryz.pinned (.plain (OpenSpec.ofChange compilePrintedSpec)) compilePrintedCard

/-- THE SECOND FORM's CARD OF 'arenanetlaw13.ParserParses'. -/
def parserParsesUptoCard : Claim7 := { stood := { row := parserParsesUptoRow, standIns := [], harness := (true, "30afec952143c77068ceb8d7df6ffe3da6cbd95895bbe8977dbc20619e65b300"), looks := false }, kinds := [], alts := [], laidByText := true, laidKinds := [.data, .data, .data], laidTests := true, laidLooks := .later }
def ParserParsesUptoCardSaid : Prop := Claim7.holds Tryz.pinned (.plain (OpenSpec.upto parserParsesSpec)) parserParsesUptoCard

/-- THE SECOND FORM's CARD OF 'arenanetlaw13.ParserSpaced'. -/
def parserSpacedUptoCard : Claim7 := { stood := { row := parserSpacedUptoRow, standIns := [], harness := (true, "30afec952143c77068ceb8d7df6ffe3da6cbd95895bbe8977dbc20619e65b300"), looks := false }, kinds := [], alts := [], laidByText := true, laidKinds := [.data, .data, .data], laidTests := true, laidLooks := .later }
def ParserSpacedUptoCardSaid : Prop := Claim7.holds Tryz.pinned (.plain (OpenSpec.upto parserSpacedSpec)) parserSpacedUptoCard

/-- THE SECOND FORM's CARD OF 'arenanetlaw15.CompilePrinted'. -/
def compilePrintedUptoCard : Claim7 := { stood := { row := compilePrintedUptoRow, standIns := [], harness := (true, "30afec952143c77068ceb8d7df6ffe3da6cbd95895bbe8977dbc20619e65b300"), looks := false }, kinds := [], alts := [], laidByText := true, laidKinds := [.data, .data, .data, .data], laidTests := true, laidLooks := .later }
def CompilePrintedUptoCardSaid : Prop := Claim7.holds Tryz.pinned (.plain (OpenSpec.upto compilePrintedSpec)) compilePrintedUptoCard
end Rows
end Go.Proofs.YtjdbkncfebebnaaGreatDoor
