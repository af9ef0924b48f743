/-
  DERIVED. GIVEN WITH THE SEED: THE CARDS: each row of YtlllpifkcpijiaaGreatDoorRows.lean that lists a variable, with what it lists TIED to the program's text (the seventh form; the later family's looks); each row that meets fmt, with fmt's text TOLD by the authors' own Lean function (tested against real Go, not proved from fmt's source: count such statements apart). THE CARD IS WHAT COUNTS. Prove the row's statement (the work); the ties are given (YtlllpifkcpijiaaGreatDoorTie.lean); close each card by the builder's one call (the guide's Derived/Test/ToyasCard.lean, 'card_holds'). Laid BY PROGRAM, IN A SANDBOX (cutbox-door.mjs). By AI agents, Wed Nov 11 2026. No macro, syntax, notation, axiom, sorry.
-/
import Derived.Test.YtlllpifkcpijiaaGreatDoorRows
import GoSem.ClaimSeven
namespace Go.Proofs.YtlllpifkcpijiaaGreatDoor
namespace Rows

/-- THE TIED CARD OF 'arenanetlaw36.AuditBound'. -/
def auditBoundCard : Claim7 := { stood := { row := auditBoundRow, standIns := [], harness := (true, "b2da78b9d02817b0b89f4cd98a851661a69fd24b4ca2b82f41c7b13784441c87"), looks := true }, kinds := [], alts := [], laidByText := true, laidKinds := [.data, .data, .data], laidTests := true, laidLooks := .later }
def AuditBoundCardSaid : Prop := Claim7.holds Tryz.pinned (.plain (OpenSpec.ofChange auditBoundSpec)) auditBoundCard

/-- THE SECOND FORM's CARD OF 'arenanetlaw36.AuditBound'. -/
def auditBoundUptoCard : Claim7 := { stood := { row := auditBoundUptoRow, standIns := [], harness := (true, "b2da78b9d02817b0b89f4cd98a851661a69fd24b4ca2b82f41c7b13784441c87"), looks := true }, kinds := [], alts := [], laidByText := true, laidKinds := [.data, .data, .data], laidTests := true, laidLooks := .later }
def AuditBoundUptoCardSaid : Prop := Claim7.holds Tryz.pinned (.plain (OpenSpec.upto auditBoundSpec)) auditBoundUptoCard
end Rows
end Go.Proofs.YtlllpifkcpijiaaGreatDoor
