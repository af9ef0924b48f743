/-
  DERIVED. GIVEN WITH THE SEED: THE CARDS: each row of YtjdbkncfebebnaaDoorRows.lean that lists a variable, with what it lists TIED to the program's text (the seventh form; the later family's looks); each row that meets fmt, with fmt's text TOLD by the authors' own Lean function (tested against real Go, not proved from fmt's source: count such statements apart). THE CARD IS WHAT COUNTS. Prove the row's statement (the work); the ties are given (YtjdbkncfebebnaaDoorTie.lean); close each card by the builder's one call (the guide's Derived/Test/ToyasCard.lean, 'card_holds'). Laid BY PROGRAM, IN A SANDBOX (cutbox-door.mjs). By AI agents, Wed Nov 11 2026. No macro, syntax, notation, axiom, sorry.
-/
import Derived.Test.YtjdbkncfebebnaaDoorRows
import GoSem.ClaimSeven
namespace Go.Proofs.YtjdbkncfebebnaaDoor
namespace Rows

/-- THE TIED CARD OF 'arenanetlaw15.CompileFields'. -/
def compileFieldsCard : Claim7 := { stood := { row := compileFieldsRow, standIns := [], harness := (true, "2aff56aab830ecc697badc67b0392d0a6cd35024bdc0f60115fb01401ff5f08b"), looks := false }, kinds := [], alts := [], laidByText := true, laidKinds := [.data], laidTests := true, laidLooks := .later }
def CompileFieldsCardSaid : Prop := Claim7.holds Tryd.pinned (.plain (OpenSpec.ofChange compileFieldsSpec)) compileFieldsCard

/-- THE TIED CARD OF 'arenanetlaw13.ParserTail'. -/
def parserTailCard : Claim7 := { stood := { row := parserTailRow, standIns := [], harness := (true, "2aff56aab830ecc697badc67b0392d0a6cd35024bdc0f60115fb01401ff5f08b"), looks := false }, kinds := [], alts := [], laidByText := true, laidKinds := [.data, .data, .data], laidTests := true, laidLooks := .later }
def ParserTailCardSaid : Prop := Claim7.holds Tryd.pinned (.plain (OpenSpec.ofChange parserTailSpec)) parserTailCard

/-- THE TIED CARD OF 'arenanetlaw13.ParserLimits'. -/
def parserLimitsCard : Claim7 := { stood := { row := parserLimitsRow, standIns := [], harness := (true, "2aff56aab830ecc697badc67b0392d0a6cd35024bdc0f60115fb01401ff5f08b"), looks := false }, kinds := [], alts := [], laidByText := true, laidKinds := [.data, .data, .data], laidTests := true, laidLooks := .later }
def ParserLimitsCardSaid : Prop := Claim7.holds Tryd.pinned (.plain (OpenSpec.ofChange parserLimitsSpec)) parserLimitsCard

/-- THE TIED CARD OF 'arenanetlaw13.ParserRound'. -/
def parserRoundCard : Claim7 := { stood := { row := parserRoundRow, standIns := [], harness := (true, "2aff56aab830ecc697badc67b0392d0a6cd35024bdc0f60115fb01401ff5f08b"), looks := false }, kinds := [], alts := [], laidByText := true, laidKinds := [.data, .data, .data], laidTests := true, laidLooks := .later }
def ParserRoundCardSaid : Prop := Claim7.holds Tryd.pinned (.plain (OpenSpec.ofChange parserRoundSpec)) parserRoundCard

/-- THE TIED CARD OF 'arenanetlaw13.ParserPrecedence'. -/
def parserPrecedenceCard : Claim7 := { stood := { row := parserPrecedenceRow, standIns := [], harness := (true, "2aff56aab830ecc697badc67b0392d0a6cd35024bdc0f60115fb01401ff5f08b"), looks := false }, kinds := [], alts := [], laidByText := true, laidKinds := [.data, .data, .data], laidTests := true, laidLooks := .later }
def ParserPrecedenceCardSaid : Prop := Claim7.holds Tryd.pinned (.plain (OpenSpec.ofChange parserPrecedenceSpec)) parserPrecedenceCard

/-- THE TIED CARD OF 'arenanetlaw13.ParserOrder'. -/
def parserOrderCard : Claim7 := { stood := { row := parserOrderRow, standIns := [], harness := (true, "2aff56aab830ecc697badc67b0392d0a6cd35024bdc0f60115fb01401ff5f08b"), looks := false }, kinds := [], alts := [], laidByText := true, laidKinds := [.data, .data, .data], laidTests := true, laidLooks := .later }
def ParserOrderCardSaid : Prop := Claim7.holds Tryd.pinned (.plain (OpenSpec.ofChange parserOrderSpec)) parserOrderCard

/-- THE TIED CARD OF 'arenanetlaw13.ParserEqual'. -/
def parserEqualCard : Claim7 := { stood := { row := parserEqualRow, standIns := [], harness := (true, "2aff56aab830ecc697badc67b0392d0a6cd35024bdc0f60115fb01401ff5f08b"), looks := false }, kinds := [], alts := [], laidByText := true, laidKinds := [.data, .data, .data], laidTests := true, laidLooks := .later }
def ParserEqualCardSaid : Prop := Claim7.holds Tryd.pinned (.plain (OpenSpec.ofChange parserEqualSpec)) parserEqualCard

/-- THE TIED CARD OF 'arenanetlaw14.TypecheckPrinted'. -/
def typecheckPrintedCard : Claim7 := { stood := { row := typecheckPrintedRow, standIns := [], harness := (true, "2aff56aab830ecc697badc67b0392d0a6cd35024bdc0f60115fb01401ff5f08b"), looks := false }, kinds := [], alts := [], laidByText := true, laidKinds := [.data, .data, .data], laidTests := true, laidLooks := .later }
def TypecheckPrintedCardSaid : Prop := Claim7.holds Tryd.pinned (.plain (OpenSpec.ofChange typecheckPrintedSpec)) typecheckPrintedCard

/-- THE SECOND FORM's CARD OF 'arenanetlaw15.CompileFields'. -/
def compileFieldsUptoCard : Claim7 := { stood := { row := compileFieldsUptoRow, standIns := [], harness := (true, "2aff56aab830ecc697badc67b0392d0a6cd35024bdc0f60115fb01401ff5f08b"), looks := false }, kinds := [], alts := [], laidByText := true, laidKinds := [.data], laidTests := true, laidLooks := .later }
def CompileFieldsUptoCardSaid : Prop := Claim7.holds Tryd.pinned (.plain (OpenSpec.upto compileFieldsSpec)) compileFieldsUptoCard

/-- THE SECOND FORM's CARD OF 'arenanetlaw13.ParserTail'. -/
def parserTailUptoCard : Claim7 := { stood := { row := parserTailUptoRow, standIns := [], harness := (true, "2aff56aab830ecc697badc67b0392d0a6cd35024bdc0f60115fb01401ff5f08b"), looks := false }, kinds := [], alts := [], laidByText := true, laidKinds := [.data, .data, .data], laidTests := true, laidLooks := .later }
def ParserTailUptoCardSaid : Prop := Claim7.holds Tryd.pinned (.plain (OpenSpec.upto parserTailSpec)) parserTailUptoCard

/-- THE SECOND FORM's CARD OF 'arenanetlaw13.ParserLimits'. -/
def parserLimitsUptoCard : Claim7 := { stood := { row := parserLimitsUptoRow, standIns := [], harness := (true, "2aff56aab830ecc697badc67b0392d0a6cd35024bdc0f60115fb01401ff5f08b"), looks := false }, kinds := [], alts := [], laidByText := true, laidKinds := [.data, .data, .data], laidTests := true, laidLooks := .later }
def ParserLimitsUptoCardSaid : Prop := Claim7.holds Tryd.pinned (.plain (OpenSpec.upto parserLimitsSpec)) parserLimitsUptoCard

/-- THE SECOND FORM's CARD OF 'arenanetlaw13.ParserRound'. -/
def parserRoundUptoCard : Claim7 := { stood := { row := parserRoundUptoRow, standIns := [], harness := (true, "2aff56aab830ecc697badc67b0392d0a6cd35024bdc0f60115fb01401ff5f08b"), looks := false }, kinds := [], alts := [], laidByText := true, laidKinds := [.data, .data, .data], laidTests := true, laidLooks := .later }
def ParserRoundUptoCardSaid : Prop := Claim7.holds Tryd.pinned (.plain (OpenSpec.upto parserRoundSpec)) parserRoundUptoCard

/-- THE SECOND FORM's CARD OF 'arenanetlaw13.ParserPrecedence'. -/
def parserPrecedenceUptoCard : Claim7 := { stood := { row := parserPrecedenceUptoRow, standIns := [], harness := (true, "2aff56aab830ecc697badc67b0392d0a6cd35024bdc0f60115fb01401ff5f08b"), looks := false }, kinds := [], alts := [], laidByText := true, laidKinds := [.data, .data, .data], laidTests := true, laidLooks := .later }
def ParserPrecedenceUptoCardSaid : Prop := Claim7.holds Tryd.pinned (.plain (OpenSpec.upto parserPrecedenceSpec)) parserPrecedenceUptoCard

/-- THE SECOND FORM's CARD OF 'arenanetlaw13.ParserOrder'. -/
def parserOrderUptoCard : Claim7 := { stood := { row := parserOrderUptoRow, standIns := [], harness := (true, "2aff56aab830ecc697badc67b0392d0a6cd35024bdc0f60115fb01401ff5f08b"), looks := false }, kinds := [], alts := [], laidByText := true, laidKinds := [.data, .data, .data], laidTests := true, laidLooks := .later }
def ParserOrderUptoCardSaid : Prop := Claim7.holds Tryd.pinned (.plain (OpenSpec.upto parserOrderSpec)) parserOrderUptoCard

/-- THE SECOND FORM's CARD OF 'arenanetlaw13.ParserEqual'. -/
def parserEqualUptoCard : Claim7 := { stood := { row := parserEqualUptoRow, standIns := [], harness := (true, "2aff56aab830ecc697badc67b0392d0a6cd35024bdc0f60115fb01401ff5f08b"), looks := false }, kinds := [], alts := [], laidByText := true, laidKinds := [.data, .data, .data], laidTests := true, laidLooks := .later }
def ParserEqualUptoCardSaid : Prop := Claim7.holds Tryd.pinned (.plain (OpenSpec.upto parserEqualSpec)) parserEqualUptoCard

/-- THE SECOND FORM's CARD OF 'arenanetlaw14.TypecheckPrinted'. -/
def typecheckPrintedUptoCard : Claim7 := { stood := { row := typecheckPrintedUptoRow, standIns := [], harness := (true, "2aff56aab830ecc697badc67b0392d0a6cd35024bdc0f60115fb01401ff5f08b"), looks := false }, kinds := [], alts := [], laidByText := true, laidKinds := [.data, .data, .data], laidTests := true, laidLooks := .later }
def TypecheckPrintedUptoCardSaid : Prop := Claim7.holds Tryd.pinned (.plain (OpenSpec.upto typecheckPrintedSpec)) typecheckPrintedUptoCard
end Rows
end Go.Proofs.YtjdbkncfebebnaaDoor
