/-
  NARROWER THAN 'FOR EVERY INPUT', by the rows' own cells (each row's printed sentence says how): VmFuel: laid · VmSaturates: laid · VmEffects: laid · VmSteps: laid · VmLocal: laid.
  DERIVED. THE GIVEN ROWS OF THIS SEAT. 5 by the template 'for every input the law returns true; each argument reads behind the call as it read before'; 0 by the template 'total and deterministic' (their statements: YtemenmjobfmelaaDoorTotals.lean).
  GIVEN WITH THE SEED: the statements are not yours to turn. If you find one false, say at which input.
  Laid BY PROGRAM, IN A SANDBOX (cutbox-rows.mjs): the forced cells as the released guide's own fill.sh prints them over the translation 7a4c4677f061aba1… (all of the seat's roots in one cut). By AI agents, Wed Nov 11 2026. No macro, syntax, notation, axiom, sorry.
-/
import Derived.Test.YtemenmjobfmelaaDoorChecked
import GoSem.Claim
import GoSem.ClaimJoined
import GoSem.ClaimMapViews
import Derived.JoinedTies
import Derived.KernelRfl
namespace Go.Proofs.YtemenmjobfmelaaDoor
/- THE CELL 'sum', in the pinned program and in every row, IS THE sha256 OF THE DUMP (.gsa) THAT YtemenmjobfmelaaDoorProg.lean LOADS. Nothing in Lean hashes anything: it is a label: what it is worth is what the hold of that sum in a sandbox is worth. -/
noncomputable def Tryd.pinned : Pinned := { name := "ytemenmjobfmelaadoor", sum := "7a4c4677f061aba1a790c3ae3a1e8e6bc336df18414fdd69e594a8026b7d1580", checked := Tryd.checked }
namespace Rows
def none {H : Type} : Left H := { results := [], args := [] }

/- WHAT THE LISTED PACKAGE-LEVEL VARIABLES READ AS WHEN THE CALL BEGINS. Each datum BY PROGRAM (the guide's laid-datum.mjs) off the statement by which the dump's own 'gosem.cut.vars' lays the variable. In a bare row this is a premise. The card (YtemenmjobfmelaaDoorCards.lean) ties it to the program's text. -/
def laid_arenanet_vm_effects {H : Type} : DataW H := .agg [.agg [.lit (.int .i64 0), .lit (.int .i64 0), .lit (.int .i64 0)], .agg [.lit (.int .i64 0), .lit (.int .i64 1), .lit (.int .i64 0)], .agg [.lit (.int .i64 0), .lit (.int .i64 1), .lit (.int .i64 16)], .agg [.lit (.int .i64 1), .lit (.int .i64 0), .lit (.int .i64 16)], .agg [.lit (.int .i64 1), .lit (.int .i64 1), .lit (.int .i64 8)], .agg [.lit (.int .i64 2), .lit (.int .i64 0), .lit (.int .i64 8)], .agg [.lit (.int .i64 0), .lit (.int .i64 1), .lit (.int .i64 0)], .agg [.lit (.int .i64 0), .lit (.int .i64 1), .lit (.int .i64 0)], .agg [.lit (.int .i64 0), .lit (.int .i64 1), .lit (.int .i64 0)], .agg [.lit (.int .i64 2), .lit (.int .i64 1), .lit (.int .i64 0)], .agg [.lit (.int .i64 2), .lit (.int .i64 1), .lit (.int .i64 0)], .agg [.lit (.int .i64 2), .lit (.int .i64 1), .lit (.int .i64 0)], .agg [.lit (.int .i64 2), .lit (.int .i64 1), .lit (.int .i64 0)], .agg [.lit (.int .i64 1), .lit (.int .i64 1), .lit (.int .i64 0)], .agg [.lit (.int .i64 2), .lit (.int .i64 1), .lit (.int .i64 0)], .agg [.lit (.int .i64 2), .lit (.int .i64 1), .lit (.int .i64 0)], .agg [.lit (.int .i64 2), .lit (.int .i64 1), .lit (.int .i64 0)], .agg [.lit (.int .i64 1), .lit (.int .i64 1), .lit (.int .i64 0)], .agg [.lit (.int .i64 0), .lit (.int .i64 0), .lit (.int .i64 0)], .agg [.lit (.int .i64 1), .lit (.int .i64 0), .lit (.int .i64 0)], .agg [.lit (.int .i64 2), .lit (.int .i64 0), .lit (.int .i64 0)], .agg [.lit (.int .i64 0), .lit (.int .i64 0), .lit (.int .i64 0)]]

/-- 'arenanetlaw16.VmFuel': WHATEVER THE INPUT: true; the input reads as it did. -/
def vmFuelSpec : ChangeSpec := { name := "vmFuel", fn := fun _ => fun
  | [d1, d2, d3, d4] => { results := [.lit (.bool true)], args := [d1, d2, d3, d4] }
  | _ => none }
def vmFuelRow : OpenClaim := { program := "ytemenmjobfmelaadoor", sum := "7a4c4677f061aba1a790c3ae3a1e8e6bc336df18414fdd69e594a8026b7d1580", func := "arenanet/arenanetlaw16.VmFuel", spec := "vmFuel", unfollowed := true, recurses := true, named := ["arenanet/vm.effects"], apart := false, laid := [("arenanet/vm.effects", laid_arenanet_vm_effects)] }
def VmFuelSaid : Prop := vmFuelRow.holds Tryd.pinned (OpenSpec.ofChange vmFuelSpec)

/-- ITS FALSE NEIGHBOUR: 'it returns false'. Refute it at one input. -/
def vmFuelWrong : ChangeSpec := { name := "vmFuel", fn := fun _ => fun
  | [d1, d2, d3, d4] => { results := [.lit (.bool false)], args := [d1, d2, d3, d4] }
  | _ => none }
def VmFuelWrongFalsely : Prop := vmFuelRow.holds Tryd.pinned (OpenSpec.ofChange vmFuelWrong)

/-- 'arenanetlaw16.VmSaturates': WHATEVER THE INPUT: true; the input reads as it did. -/
def vmSaturatesSpec : ChangeSpec := { name := "vmSaturates", fn := fun _ => fun
  | [d1, d2] => { results := [.lit (.bool true)], args := [d1, d2] }
  | _ => none }
def vmSaturatesRow : OpenClaim := { program := "ytemenmjobfmelaadoor", sum := "7a4c4677f061aba1a790c3ae3a1e8e6bc336df18414fdd69e594a8026b7d1580", func := "arenanet/arenanetlaw16.VmSaturates", spec := "vmSaturates", unfollowed := true, recurses := true, named := ["arenanet/vm.effects"], apart := false, laid := [("arenanet/vm.effects", laid_arenanet_vm_effects)] }
def VmSaturatesSaid : Prop := vmSaturatesRow.holds Tryd.pinned (OpenSpec.ofChange vmSaturatesSpec)

/-- ITS FALSE NEIGHBOUR: 'it returns false'. Refute it at one input. -/
def vmSaturatesWrong : ChangeSpec := { name := "vmSaturates", fn := fun _ => fun
  | [d1, d2] => { results := [.lit (.bool false)], args := [d1, d2] }
  | _ => none }
def VmSaturatesWrongFalsely : Prop := vmSaturatesRow.holds Tryd.pinned (OpenSpec.ofChange vmSaturatesWrong)

/-- 'arenanetlaw16.VmEffects': WHATEVER THE INPUT: true; the input reads as it did. -/
def vmEffectsSpec : ChangeSpec := { name := "vmEffects", fn := fun _ => fun
  | [d1, d2, d3] => { results := [.lit (.bool true)], args := [d1, d2, d3] }
  | _ => none }
def vmEffectsRow : OpenClaim := { program := "ytemenmjobfmelaadoor", sum := "7a4c4677f061aba1a790c3ae3a1e8e6bc336df18414fdd69e594a8026b7d1580", func := "arenanet/arenanetlaw16.VmEffects", spec := "vmEffects", unfollowed := true, recurses := true, named := ["arenanet/vm.effects"], apart := false, laid := [("arenanet/vm.effects", laid_arenanet_vm_effects)] }
def VmEffectsSaid : Prop := vmEffectsRow.holds Tryd.pinned (OpenSpec.ofChange vmEffectsSpec)

/-- ITS FALSE NEIGHBOUR: 'it returns false'. Refute it at one input. -/
def vmEffectsWrong : ChangeSpec := { name := "vmEffects", fn := fun _ => fun
  | [d1, d2, d3] => { results := [.lit (.bool false)], args := [d1, d2, d3] }
  | _ => none }
def VmEffectsWrongFalsely : Prop := vmEffectsRow.holds Tryd.pinned (OpenSpec.ofChange vmEffectsWrong)

/-- 'arenanetlaw16.VmSteps': WHATEVER THE INPUT: true; the input reads as it did. -/
def vmStepsSpec : ChangeSpec := { name := "vmSteps", fn := fun _ => fun
  | [d1, d2, d3, d4, d5] => { results := [.lit (.bool true)], args := [d1, d2, d3, d4, d5] }
  | _ => none }
def vmStepsRow : OpenClaim := { program := "ytemenmjobfmelaadoor", sum := "7a4c4677f061aba1a790c3ae3a1e8e6bc336df18414fdd69e594a8026b7d1580", func := "arenanet/arenanetlaw16.VmSteps", spec := "vmSteps", unfollowed := true, recurses := true, named := ["arenanet/vm.effects"], apart := false, laid := [("arenanet/vm.effects", laid_arenanet_vm_effects)] }
def VmStepsSaid : Prop := vmStepsRow.holds Tryd.pinned (OpenSpec.ofChange vmStepsSpec)

/-- ITS FALSE NEIGHBOUR: 'it returns false'. Refute it at one input. -/
def vmStepsWrong : ChangeSpec := { name := "vmSteps", fn := fun _ => fun
  | [d1, d2, d3, d4, d5] => { results := [.lit (.bool false)], args := [d1, d2, d3, d4, d5] }
  | _ => none }
def VmStepsWrongFalsely : Prop := vmStepsRow.holds Tryd.pinned (OpenSpec.ofChange vmStepsWrong)

/-- 'arenanetlaw16.VmLocal': WHATEVER THE INPUT: true; the input reads as it did. -/
def vmLocalSpec : ChangeSpec := { name := "vmLocal", fn := fun _ => fun
  | [d1, d2, d3] => { results := [.lit (.bool true)], args := [d1, d2, d3] }
  | _ => none }
def vmLocalRow : OpenClaim := { program := "ytemenmjobfmelaadoor", sum := "7a4c4677f061aba1a790c3ae3a1e8e6bc336df18414fdd69e594a8026b7d1580", func := "arenanet/arenanetlaw16.VmLocal", spec := "vmLocal", unfollowed := true, recurses := true, named := ["arenanet/vm.effects"], apart := false, laid := [("arenanet/vm.effects", laid_arenanet_vm_effects)] }
def VmLocalSaid : Prop := vmLocalRow.holds Tryd.pinned (OpenSpec.ofChange vmLocalSpec)

/-- ITS FALSE NEIGHBOUR: 'it returns false'. Refute it at one input. -/
def vmLocalWrong : ChangeSpec := { name := "vmLocal", fn := fun _ => fun
  | [d1, d2, d3] => { results := [.lit (.bool false)], args := [d1, d2, d3] }
  | _ => none }
def VmLocalWrongFalsely : Prop := vmLocalRow.holds Tryd.pinned (OpenSpec.ofChange vmLocalWrong)

/- THE SECOND FORM. 'bulk': how many values and letters a reading holds, each counted each time it is reached (what is shared counts as often as it is met; a slice's spare places count too). A statement '..UptoSaid' is the law's where the arguments, and the package variables that the reading takes, are together of bulk at most 1048576: NARROWER than '..Said'. Prove '..Said' where nothing that the law and all that it calls make is longer than what came in: it says more and counts as full. Else prove '..UptoSaid'. A law counts once. -/
mutual
def uptoBulk {H : Type} : DataW H → Nat
  | .lit (.string bytes) => bytes.length + 1
  | .lit _ => 1
  | .nil => 1
  | .ptr d => uptoBulk d + 1
  | .slice elems spare => uptoBulkAll elems + uptoBulkAll spare + 1
  | .agg parts => uptoBulkAll parts + 1
  | .iface _ d => uptoBulk d + 1
  | .map entries => uptoBulkEntries entries + 1
  | .held _ => 1
def uptoBulkAll {H : Type} : List (DataW H) → Nat
  | [] => 0
  | d :: r => uptoBulk d + uptoBulkAll r
def uptoBulkEntries {H : Type} : List (Lit × DataW H) → Nat
  | [] => 0
  | x :: r => uptoBulkEntry x + uptoBulkEntries r
def uptoBulkEntry {H : Type} : Lit × DataW H → Nat
  | (.string bytes, d) => bytes.length + uptoBulk d + 1
  | (_, d) => uptoBulk d + 1
 end
def uptoSmall : (H : Type) → List (DataW H) → Bool := fun _ ds => decide (uptoBulkAll ds ≤ 1048576)
def OpenSpec.upto (s : _root_.Go.ChangeSpec) : _root_.Go.OpenSpec := { _root_.Go.OpenSpec.ofChange s with cond := some uptoSmall }

/-- 'arenanetlaw16.VmFuel', WHERE WHAT IT READS IS OF BULK AT MOST 1048576: true; the input reads as it did. -/
def vmFuelUptoRow : OpenClaim := { program := "ytemenmjobfmelaadoor", sum := "7a4c4677f061aba1a790c3ae3a1e8e6bc336df18414fdd69e594a8026b7d1580", func := "arenanet/arenanetlaw16.VmFuel", spec := "vmFuel", unfollowed := true, recurses := true, named := ["arenanet/vm.effects"], apart := false, laid := [("arenanet/vm.effects", laid_arenanet_vm_effects)], narrowed := true }
def VmFuelUptoSaid : Prop := vmFuelUptoRow.holds Tryd.pinned (OpenSpec.upto vmFuelSpec)

/-- 'arenanetlaw16.VmSaturates', WHERE WHAT IT READS IS OF BULK AT MOST 1048576: true; the input reads as it did. -/
def vmSaturatesUptoRow : OpenClaim := { program := "ytemenmjobfmelaadoor", sum := "7a4c4677f061aba1a790c3ae3a1e8e6bc336df18414fdd69e594a8026b7d1580", func := "arenanet/arenanetlaw16.VmSaturates", spec := "vmSaturates", unfollowed := true, recurses := true, named := ["arenanet/vm.effects"], apart := false, laid := [("arenanet/vm.effects", laid_arenanet_vm_effects)], narrowed := true }
def VmSaturatesUptoSaid : Prop := vmSaturatesUptoRow.holds Tryd.pinned (OpenSpec.upto vmSaturatesSpec)

/-- 'arenanetlaw16.VmEffects', WHERE WHAT IT READS IS OF BULK AT MOST 1048576: true; the input reads as it did. -/
def vmEffectsUptoRow : OpenClaim := { program := "ytemenmjobfmelaadoor", sum := "7a4c4677f061aba1a790c3ae3a1e8e6bc336df18414fdd69e594a8026b7d1580", func := "arenanet/arenanetlaw16.VmEffects", spec := "vmEffects", unfollowed := true, recurses := true, named := ["arenanet/vm.effects"], apart := false, laid := [("arenanet/vm.effects", laid_arenanet_vm_effects)], narrowed := true }
def VmEffectsUptoSaid : Prop := vmEffectsUptoRow.holds Tryd.pinned (OpenSpec.upto vmEffectsSpec)

/-- 'arenanetlaw16.VmSteps', WHERE WHAT IT READS IS OF BULK AT MOST 1048576: true; the input reads as it did. -/
def vmStepsUptoRow : OpenClaim := { program := "ytemenmjobfmelaadoor", sum := "7a4c4677f061aba1a790c3ae3a1e8e6bc336df18414fdd69e594a8026b7d1580", func := "arenanet/arenanetlaw16.VmSteps", spec := "vmSteps", unfollowed := true, recurses := true, named := ["arenanet/vm.effects"], apart := false, laid := [("arenanet/vm.effects", laid_arenanet_vm_effects)], narrowed := true }
def VmStepsUptoSaid : Prop := vmStepsUptoRow.holds Tryd.pinned (OpenSpec.upto vmStepsSpec)

/-- 'arenanetlaw16.VmLocal', WHERE WHAT IT READS IS OF BULK AT MOST 1048576: true; the input reads as it did. -/
def vmLocalUptoRow : OpenClaim := { program := "ytemenmjobfmelaadoor", sum := "7a4c4677f061aba1a790c3ae3a1e8e6bc336df18414fdd69e594a8026b7d1580", func := "arenanet/arenanetlaw16.VmLocal", spec := "vmLocal", unfollowed := true, recurses := true, named := ["arenanet/vm.effects"], apart := false, laid := [("arenanet/vm.effects", laid_arenanet_vm_effects)], narrowed := true }
def VmLocalUptoSaid : Prop := vmLocalUptoRow.holds Tryd.pinned (OpenSpec.upto vmLocalSpec)

end Rows
end Go.Proofs.YtemenmjobfmelaaDoor
