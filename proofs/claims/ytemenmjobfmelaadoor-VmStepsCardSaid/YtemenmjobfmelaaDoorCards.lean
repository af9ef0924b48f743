/-
  DERIVED. GIVEN WITH THE SEED: THE CARDS: each row of YtemenmjobfmelaaDoorRows.lean that lists a variable, with what it lists TIED to the program's text (the seventh form; the later family's looks); each row that meets fmt, with fmt's text TOLD by the authors' own Lean function (tested against real Go, not proved from fmt's source: count such statements apart). THE CARD IS WHAT COUNTS. Prove the row's statement (the work); the ties are given (YtemenmjobfmelaaDoorTie.lean); close each card by the builder's one call (the guide's Derived/Test/ToyasCard.lean, 'card_holds'). Laid BY PROGRAM, IN A SANDBOX (cutbox-door.mjs). By AI agents, Wed Nov 11 2026. No macro, syntax, notation, axiom, sorry.
-/
import Derived.Test.YtemenmjobfmelaaDoorRows
import GoSem.ClaimSeven
namespace Go.Proofs.YtemenmjobfmelaaDoor
namespace Rows

/-- THE TIED CARD OF 'arenanetlaw16.VmFuel'. -/
def vmFuelCard : Claim7 := { stood := { row := vmFuelRow, standIns := [], harness := (true, "995be4d38e6707ce05b36b357503f36da307f50b916f23252bc0ad826bc97247"), looks := false }, kinds := [], alts := [], laidByText := true, laidKinds := [.data], laidTests := true, laidLooks := .later }
def VmFuelCardSaid : Prop := Claim7.holds Tryd.pinned (.plain (OpenSpec.ofChange vmFuelSpec)) vmFuelCard

/-- THE TIED CARD OF 'arenanetlaw16.VmSaturates'. -/
def vmSaturatesCard : Claim7 := { stood := { row := vmSaturatesRow, standIns := [], harness := (true, "995be4d38e6707ce05b36b357503f36da307f50b916f23252bc0ad826bc97247"), looks := false }, kinds := [], alts := [], laidByText := true, laidKinds := [.data], laidTests := true, laidLooks := .later }
def VmSaturatesCardSaid : Prop := Claim7.holds Tryd.pinned (.plain (OpenSpec.ofChange vmSaturatesSpec)) vmSaturatesCard

/-- THE TIED CARD OF 'arenanetlaw16.VmEffects'. -/
def vmEffectsCard : Claim7 := { stood := { row := vmEffectsRow, standIns := [], harness := (true, "995be4d38e6707ce05b36b357503f36da307f50b916f23252bc0ad826bc97247"), looks := false }, kinds := [], alts := [], laidByText := true, laidKinds := [.data], laidTests := true, laidLooks := .later }
def VmEffectsCardSaid : Prop := Claim7.holds Tryd.pinned (.plain (OpenSpec.ofChange vmEffectsSpec)) vmEffectsCard

/-- THE TIED CARD OF 'arenanetlaw16.VmSteps'. -/
def vmStepsCard : Claim7 := { stood := { row := vmStepsRow, standIns := [], harness := (true, "995be4d38e6707ce05b36b357503f36da307f50b916f23252bc0ad826bc97247"), looks := false }, kinds := [], alts := [], laidByText := true, laidKinds := [.data], laidTests := true, laidLooks := .later }
def VmStepsCardSaid : Prop := Claim7.holds Tryd.pinned (.plain (OpenSpec.ofChange vmStepsSpec)) vmStepsCard

/-- THE TIED CARD OF 'arenanetlaw16.VmLocal'. -/
def vmLocalCard : Claim7 := { stood := { row := vmLocalRow, standIns := [], harness := (true, "995be4d38e6707ce05b36b357503f36da307f50b916f23252bc0ad826bc97247"), looks := false }, kinds := [], alts := [], laidByText := true, laidKinds := [.data], laidTests := true, laidLooks := .later }
def VmLocalCardSaid : Prop := Claim7.holds Tryd.pinned (.plain (OpenSpec.ofChange vmLocalSpec)) vmLocalCard

/-- THE SECOND FORM's CARD OF 'arenanetlaw16.VmFuel'. -/
def vmFuelUptoCard : Claim7 := { stood := { row := vmFuelUptoRow, standIns := [], harness := (true, "995be4d38e6707ce05b36b357503f36da307f50b916f23252bc0ad826bc97247"), looks := false }, kinds := [], alts := [], laidByText := true, laidKinds := [.data], laidTests := true, laidLooks := .later }
def VmFuelUptoCardSaid : Prop := Claim7.holds Tryd.pinned (.plain (OpenSpec.upto vmFuelSpec)) vmFuelUptoCard

/-- THE SECOND FORM's CARD OF 'arenanetlaw16.VmSaturates'. -/
def vmSaturatesUptoCard : Claim7 := { stood := { row := vmSaturatesUptoRow, standIns := [], harness := (true, "995be4d38e6707ce05b36b357503f36da307f50b916f23252bc0ad826bc97247"), looks := false }, kinds := [], alts := [], laidByText := true, laidKinds := [.data], laidTests := true, laidLooks := .later }
def VmSaturatesUptoCardSaid : Prop := Claim7.holds Tryd.pinned (.plain (OpenSpec.upto vmSaturatesSpec)) vmSaturatesUptoCard

/-- THE SECOND FORM's CARD OF 'arenanetlaw16.VmEffects'. -/
def vmEffectsUptoCard : Claim7 := { stood := { row := vmEffectsUptoRow, standIns := [], harness := (true, "995be4d38e6707ce05b36b357503f36da307f50b916f23252bc0ad826bc97247"), looks := false }, kinds := [], alts := [], laidByText := true, laidKinds := [.data], laidTests := true, laidLooks := .later }
def VmEffectsUptoCardSaid : Prop := Claim7.holds Tryd.pinned (.plain (OpenSpec.upto vmEffectsSpec)) vmEffectsUptoCard

/-- THE SECOND FORM's CARD OF 'arenanetlaw16.VmSteps'. -/
def vmStepsUptoCard : Claim7 := { stood := { row := vmStepsUptoRow, standIns := [], harness := (true, "995be4d38e6707ce05b36b357503f36da307f50b916f23252bc0ad826bc97247"), looks := false }, kinds := [], alts := [], laidByText := true, laidKinds := [.data], laidTests := true, laidLooks := .later }
def VmStepsUptoCardSaid : Prop := Claim7.holds Tryd.pinned (.plain (OpenSpec.upto vmStepsSpec)) vmStepsUptoCard

/-- THE SECOND FORM's CARD OF 'arenanetlaw16.VmLocal'. -/
def vmLocalUptoCard : Claim7 := { stood := { row := vmLocalUptoRow, standIns := [], harness := (true, "995be4d38e6707ce05b36b357503f36da307f50b916f23252bc0ad826bc97247"), looks := false }, kinds := [], alts := [], laidByText := true, laidKinds := [.data], laidTests := true, laidLooks := .later }
def VmLocalUptoCardSaid : Prop := Claim7.holds Tryd.pinned (.plain (OpenSpec.upto vmLocalSpec)) vmLocalUptoCard
end Rows
end Go.Proofs.YtemenmjobfmelaaDoor
