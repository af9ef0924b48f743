/-
  DERIVED. GIVEN WITH THE SEED: THE CARDS: each row of YtlbibgdenkleiaaDoorRows.lean that lists a variable, with what it lists TIED to the program's text (the seventh form; the later family's looks); each row that meets fmt, with fmt's text TOLD by the authors' own Lean function (tested against real Go, not proved from fmt's source: count such statements apart). THE CARD IS WHAT COUNTS. Prove the row's statement (the work); the ties are given (YtlbibgdenkleiaaDoorTie.lean); close each card by the builder's one call (the guide's Derived/Test/ToyasCard.lean, 'card_holds'). Laid BY PROGRAM, IN A SANDBOX (cutbox-door.mjs). By AI agents, Wed Nov 11 2026. No macro, syntax, notation, axiom, sorry.
-/
import Derived.Test.YtlbibgdenkleiaaDoorRows
import GoSem.ClaimSeven
namespace Go.Proofs.YtlbibgdenkleiaaDoor
namespace Rows

/-- THE TIED CARD OF 'arenanetlaw15.CompileVerify'. -/
def compileVerifyCard : Claim7 := { stood := { row := compileVerifyRow, standIns := [], harness := (true, "a733f3f931cf5229980f86aa8afafc8fb19945030bd4511e61ddc1c9e1b7f264"), looks := false }, kinds := [], alts := [], laidByText := true, laidKinds := [.data], laidTests := true, laidLooks := .later }
def CompileVerifyCardSaid : Prop := Claim7.holds Tryd.pinned (.plain (OpenSpec.ofChange compileVerifySpec)) compileVerifyCard

/-- THE TIED CARD OF 'arenanetlaw15.CompileOperands'. -/
def compileOperandsCard : Claim7 := { stood := { row := compileOperandsRow, standIns := [], harness := (true, "a733f3f931cf5229980f86aa8afafc8fb19945030bd4511e61ddc1c9e1b7f264"), looks := false }, kinds := [], alts := [], laidByText := true, laidKinds := [.data], laidTests := true, laidLooks := .later }
def CompileOperandsCardSaid : Prop := Claim7.holds Tryd.pinned (.plain (OpenSpec.ofChange compileOperandsSpec)) compileOperandsCard

/-- THE TIED CARD OF 'arenanetlaw15.CompileDepths'. -/
def compileDepthsCard : Claim7 := { stood := { row := compileDepthsRow, standIns := [], harness := (true, "a733f3f931cf5229980f86aa8afafc8fb19945030bd4511e61ddc1c9e1b7f264"), looks := false }, kinds := [], alts := [], laidByText := true, laidKinds := [.data], laidTests := true, laidLooks := .later }
def CompileDepthsCardSaid : Prop := Claim7.holds Tryd.pinned (.plain (OpenSpec.ofChange compileDepthsSpec)) compileDepthsCard

/-- THE TIED CARD OF 'arenanetlaw15.CompileLimits'. -/
def compileLimitsCard : Claim7 := { stood := { row := compileLimitsRow, standIns := [], harness := (true, "a733f3f931cf5229980f86aa8afafc8fb19945030bd4511e61ddc1c9e1b7f264"), looks := false }, kinds := [], alts := [], laidByText := true, laidKinds := [.data], laidTests := true, laidLooks := .later }
def CompileLimitsCardSaid : Prop := Claim7.holds Tryd.pinned (.plain (OpenSpec.ofChange compileLimitsSpec)) compileLimitsCard

/-- THE TIED CARD OF 'arenanetlaw15.CompileFields'. -/
def compileFieldsCard : Claim7 := { stood := { row := compileFieldsRow, standIns := [], harness := (true, "a733f3f931cf5229980f86aa8afafc8fb19945030bd4511e61ddc1c9e1b7f264"), looks := false }, kinds := [], alts := [], laidByText := true, laidKinds := [.data], laidTests := true, laidLooks := .later }
def CompileFieldsCardSaid : Prop := Claim7.holds Tryd.pinned (.plain (OpenSpec.ofChange compileFieldsSpec)) compileFieldsCard

/-- THE SECOND FORM's CARD OF 'arenanetlaw15.CompileVerify'. -/
def compileVerifyUptoCard : Claim7 := { stood := { row := compileVerifyUptoRow, standIns := [], harness := (true, "a733f3f931cf5229980f86aa8afafc8fb19945030bd4511e61ddc1c9e1b7f264"), looks := false }, kinds := [], alts := [], laidByText := true, laidKinds := [.data], laidTests := true, laidLooks := .later }
def CompileVerifyUptoCardSaid : Prop := Claim7.holds Tryd.pinned (.plain (OpenSpec.upto compileVerifySpec)) compileVerifyUptoCard

/-- THE SECOND FORM's CARD OF 'arenanetlaw15.CompileOperands'. -/
def compileOperandsUptoCard : Claim7 := { stood := { row := compileOperandsUptoRow, standIns := [], harness := (true, "a733f3f931cf5229980f86aa8afafc8fb19945030bd4511e61ddc1c9e1b7f264"), looks := false }, kinds := [], alts := [], laidByText := true, laidKinds := [.data], laidTests := true, laidLooks := .later }
def CompileOperandsUptoCardSaid : Prop := Claim7.holds Tryd.pinned (.plain (OpenSpec.upto compileOperandsSpec)) compileOperandsUptoCard

/-- THE SECOND FORM's CARD OF 'arenanetlaw15.CompileDepths'. -/
def compileDepthsUptoCard : Claim7 := { stood := { row := compileDepthsUptoRow, standIns := [], harness := (true, "a733f3f931cf5229980f86aa8afafc8fb19945030bd4511e61ddc1c9e1b7f264"), looks := false }, kinds := [], alts := [], laidByText := true, laidKinds := [.data], laidTests := true, laidLooks := .later }
def CompileDepthsUptoCardSaid : Prop := Claim7.holds Tryd.pinned (.plain (OpenSpec.upto compileDepthsSpec)) compileDepthsUptoCard

/-- THE SECOND FORM's CARD OF 'arenanetlaw15.CompileLimits'. -/
def compileLimitsUptoCard : Claim7 := { stood := { row := compileLimitsUptoRow, standIns := [], harness := (true, "a733f3f931cf5229980f86aa8afafc8fb19945030bd4511e61ddc1c9e1b7f264"), looks := false }, kinds := [], alts := [], laidByText := true, laidKinds := [.data], laidTests := true, laidLooks := .later }
def CompileLimitsUptoCardSaid : Prop := Claim7.holds Tryd.pinned (.plain (OpenSpec.upto compileLimitsSpec)) compileLimitsUptoCard

/-- THE SECOND FORM's CARD OF 'arenanetlaw15.CompileFields'. -/
def compileFieldsUptoCard : Claim7 := { stood := { row := compileFieldsUptoRow, standIns := [], harness := (true, "a733f3f931cf5229980f86aa8afafc8fb19945030bd4511e61ddc1c9e1b7f264"), looks := false }, kinds := [], alts := [], laidByText := true, laidKinds := [.data], laidTests := true, laidLooks := .later }
def CompileFieldsUptoCardSaid : Prop := Claim7.holds Tryd.pinned (.plain (OpenSpec.upto compileFieldsSpec)) compileFieldsUptoCard
end Rows
end Go.Proofs.YtlbibgdenkleiaaDoor
