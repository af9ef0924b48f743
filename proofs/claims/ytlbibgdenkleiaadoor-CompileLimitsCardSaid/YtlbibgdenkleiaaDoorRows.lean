/-
  NARROWER THAN 'FOR EVERY INPUT', by the rows' own cells (each row's printed sentence says how): CompileVerify: laid · CompileOperands: laid · CompileDepths: laid · CompileLimits: laid · CompileFields: laid.
  DERIVED. THE GIVEN ROWS OF THIS SEAT. 5 by the template 'for every input the law returns true; each argument reads behind the call as it read before'; 0 by the template 'total and deterministic' (their statements: YtlbibgdenkleiaaDoorTotals.lean).
  GIVEN WITH THE SEED: the statements are not yours to turn. If you find one false, say at which input.
  Laid BY PROGRAM, IN A SANDBOX (cutbox-rows.mjs): the forced cells as the released guide's own fill.sh prints them over the translation 4dfad982fcf61e45… (all of the seat's roots in one cut). By AI agents, Wed Nov 11 2026. No macro, syntax, notation, axiom, sorry.
-/
import Derived.Test.YtlbibgdenkleiaaDoorChecked
import GoSem.Claim
import GoSem.ClaimJoined
import GoSem.ClaimMapViews
import Derived.JoinedTies
import Derived.KernelRfl
namespace Go.Proofs.YtlbibgdenkleiaaDoor
/- THE CELL 'sum', in the pinned program and in every row, IS THE sha256 OF THE DUMP (.gsa) THAT YtlbibgdenkleiaaDoorProg.lean LOADS. Nothing in Lean hashes anything: it is a label: what it is worth is what the hold of that sum in a sandbox is worth. -/
noncomputable def Tryd.pinned : Pinned := { name := "ytlbibgdenkleiaadoor", sum := "4dfad982fcf61e45818978d94853137f538eea53d61766c23a325c8001ecb33a", checked := Tryd.checked }
namespace Rows
def none {H : Type} : Left H := { results := [], args := [] }

/- WHAT THE LISTED PACKAGE-LEVEL VARIABLES READ AS WHEN THE CALL BEGINS. Each datum BY PROGRAM (the guide's laid-datum.mjs) off the statement by which the dump's own 'gosem.cut.vars' lays the variable. In a bare row this is a premise. The card (YtlbibgdenkleiaaDoorCards.lean) ties it to the program's text. -/
def laid_arenanet_compile_effects {H : Type} : DataW H := .agg [.agg [.lit (.int .i64 0), .lit (.int .i64 0)], .agg [.lit (.int .i64 0), .lit (.int .i64 1)], .agg [.lit (.int .i64 0), .lit (.int .i64 1)], .agg [.lit (.int .i64 1), .lit (.int .i64 0)], .agg [.lit (.int .i64 1), .lit (.int .i64 1)], .agg [.lit (.int .i64 2), .lit (.int .i64 0)], .agg [.lit (.int .i64 0), .lit (.int .i64 1)], .agg [.lit (.int .i64 0), .lit (.int .i64 1)], .agg [.lit (.int .i64 0), .lit (.int .i64 1)], .agg [.lit (.int .i64 2), .lit (.int .i64 1)], .agg [.lit (.int .i64 2), .lit (.int .i64 1)], .agg [.lit (.int .i64 2), .lit (.int .i64 1)], .agg [.lit (.int .i64 2), .lit (.int .i64 1)], .agg [.lit (.int .i64 1), .lit (.int .i64 1)], .agg [.lit (.int .i64 2), .lit (.int .i64 1)], .agg [.lit (.int .i64 2), .lit (.int .i64 1)], .agg [.lit (.int .i64 2), .lit (.int .i64 1)], .agg [.lit (.int .i64 1), .lit (.int .i64 1)], .agg [.lit (.int .i64 0), .lit (.int .i64 0)], .agg [.lit (.int .i64 1), .lit (.int .i64 0)], .agg [.lit (.int .i64 2), .lit (.int .i64 0)], .agg [.lit (.int .i64 0), .lit (.int .i64 0)]]

/-- 'arenanetlaw15.CompileVerify': WHATEVER THE INPUT: true; the input reads as it did. -/
def compileVerifySpec : ChangeSpec := { name := "compileVerify", fn := fun _ => fun
  | [d1, d2, d3, d4] => { results := [.lit (.bool true)], args := [d1, d2, d3, d4] }
  | _ => none }
def compileVerifyRow : OpenClaim := { program := "ytlbibgdenkleiaadoor", sum := "4dfad982fcf61e45818978d94853137f538eea53d61766c23a325c8001ecb33a", func := "arenanet/arenanetlaw15.CompileVerify", spec := "compileVerify", unfollowed := true, recurses := true, named := ["arenanet/compile.effects"], apart := false, laid := [("arenanet/compile.effects", laid_arenanet_compile_effects)] }
def CompileVerifySaid : Prop := compileVerifyRow.holds Tryd.pinned (OpenSpec.ofChange compileVerifySpec)

/-- ITS FALSE NEIGHBOUR: 'it returns false'. Refute it at one input. -/
def compileVerifyWrong : ChangeSpec := { name := "compileVerify", fn := fun _ => fun
  | [d1, d2, d3, d4] => { results := [.lit (.bool false)], args := [d1, d2, d3, d4] }
  | _ => none }
def CompileVerifyWrongFalsely : Prop := compileVerifyRow.holds Tryd.pinned (OpenSpec.ofChange compileVerifyWrong)

/-- 'arenanetlaw15.CompileOperands': WHATEVER THE INPUT: true; the input reads as it did. -/
def compileOperandsSpec : ChangeSpec := { name := "compileOperands", fn := fun _ => fun
  | [d1, d2, d3] => { results := [.lit (.bool true)], args := [d1, d2, d3] }
  | _ => none }
def compileOperandsRow : OpenClaim := { program := "ytlbibgdenkleiaadoor", sum := "4dfad982fcf61e45818978d94853137f538eea53d61766c23a325c8001ecb33a", func := "arenanet/arenanetlaw15.CompileOperands", spec := "compileOperands", unfollowed := true, recurses := true, named := ["arenanet/compile.effects"], apart := false, laid := [("arenanet/compile.effects", laid_arenanet_compile_effects)] }
def CompileOperandsSaid : Prop := compileOperandsRow.holds Tryd.pinned (OpenSpec.ofChange compileOperandsSpec)

/-- ITS FALSE NEIGHBOUR: 'it returns false'. Refute it at one input. -/
def compileOperandsWrong : ChangeSpec := { name := "compileOperands", fn := fun _ => fun
  | [d1, d2, d3] => { results := [.lit (.bool false)], args := [d1, d2, d3] }
  | _ => none }
def CompileOperandsWrongFalsely : Prop := compileOperandsRow.holds Tryd.pinned (OpenSpec.ofChange compileOperandsWrong)

/-- 'arenanetlaw15.CompileDepths': WHATEVER THE INPUT: true; the input reads as it did. -/
def compileDepthsSpec : ChangeSpec := { name := "compileDepths", fn := fun _ => fun
  | [d1, d2, d3] => { results := [.lit (.bool true)], args := [d1, d2, d3] }
  | _ => none }
def compileDepthsRow : OpenClaim := { program := "ytlbibgdenkleiaadoor", sum := "4dfad982fcf61e45818978d94853137f538eea53d61766c23a325c8001ecb33a", func := "arenanet/arenanetlaw15.CompileDepths", spec := "compileDepths", unfollowed := true, recurses := true, named := ["arenanet/compile.effects"], apart := false, laid := [("arenanet/compile.effects", laid_arenanet_compile_effects)] }
def CompileDepthsSaid : Prop := compileDepthsRow.holds Tryd.pinned (OpenSpec.ofChange compileDepthsSpec)

/-- ITS FALSE NEIGHBOUR: 'it returns false'. Refute it at one input. -/
def compileDepthsWrong : ChangeSpec := { name := "compileDepths", fn := fun _ => fun
  | [d1, d2, d3] => { results := [.lit (.bool false)], args := [d1, d2, d3] }
  | _ => none }
def CompileDepthsWrongFalsely : Prop := compileDepthsRow.holds Tryd.pinned (OpenSpec.ofChange compileDepthsWrong)

/-- 'arenanetlaw15.CompileLimits': WHATEVER THE INPUT: true; the input reads as it did. -/
def compileLimitsSpec : ChangeSpec := { name := "compileLimits", fn := fun _ => fun
  | [d1, d2] => { results := [.lit (.bool true)], args := [d1, d2] }
  | _ => none }
def compileLimitsRow : OpenClaim := { program := "ytlbibgdenkleiaadoor", sum := "4dfad982fcf61e45818978d94853137f538eea53d61766c23a325c8001ecb33a", func := "arenanet/arenanetlaw15.CompileLimits", spec := "compileLimits", unfollowed := true, recurses := true, named := ["arenanet/compile.effects"], apart := false, laid := [("arenanet/compile.effects", laid_arenanet_compile_effects)] }
def CompileLimitsSaid : Prop := compileLimitsRow.holds Tryd.pinned (OpenSpec.ofChange compileLimitsSpec)

/-- ITS FALSE NEIGHBOUR: 'it returns false'. Refute it at one input. -/
def compileLimitsWrong : ChangeSpec := { name := "compileLimits", fn := fun _ => fun
  | [d1, d2] => { results := [.lit (.bool false)], args := [d1, d2] }
  | _ => none }
def CompileLimitsWrongFalsely : Prop := compileLimitsRow.holds Tryd.pinned (OpenSpec.ofChange compileLimitsWrong)

/-- 'arenanetlaw15.CompileFields': WHATEVER THE INPUT: true; the input reads as it did. -/
def compileFieldsSpec : ChangeSpec := { name := "compileFields", fn := fun _ => fun
  | [d1, d2, d3] => { results := [.lit (.bool true)], args := [d1, d2, d3] }
  | _ => none }
def compileFieldsRow : OpenClaim := { program := "ytlbibgdenkleiaadoor", sum := "4dfad982fcf61e45818978d94853137f538eea53d61766c23a325c8001ecb33a", func := "arenanet/arenanetlaw15.CompileFields", spec := "compileFields", unfollowed := true, recurses := true, named := ["arenanet/compile.effects"], apart := false, laid := [("arenanet/compile.effects", laid_arenanet_compile_effects)] }
def CompileFieldsSaid : Prop := compileFieldsRow.holds Tryd.pinned (OpenSpec.ofChange compileFieldsSpec)

/-- ITS FALSE NEIGHBOUR: 'it returns false'. Refute it at one input. -/
def compileFieldsWrong : ChangeSpec := { name := "compileFields", fn := fun _ => fun
  | [d1, d2, d3] => { results := [.lit (.bool false)], args := [d1, d2, d3] }
  | _ => none }
def CompileFieldsWrongFalsely : Prop := compileFieldsRow.holds Tryd.pinned (OpenSpec.ofChange compileFieldsWrong)

/- THE SECOND FORM. 'bulk': how many values and letters a reading holds, each counted each time it is reached (what is shared counts as often as it is met; a slice's spare places count too). A statement '..UptoSaid' is the law's where the arguments, and the package variables that the reading takes, are together of bulk at most 1048576: NARROWER than '..Said'. Prove '..Said' where nothing that the law and all that it calls make is longer than what came in: it says more and counts as full. Else prove '..UptoSaid'. A law counts once. -/
mutual
def uptoBulk {H : Type} : DataW H → Nat
  | .lit (.string bytes) => bytes.length + 1
  | .lit _ => 1
  | .nil => 1
  | .ptr d => uptoBulk d + 1
  | .slice elems spare => uptoBulkAll elems + uptoBulkAll spare + 1
  | .agg parts => uptoBulkAll parts + 1
  | .iface _ d => uptoBulk d + 1
  | .map entries => uptoBulkEntries entries + 1
  | .held _ => 1
def uptoBulkAll {H : Type} : List (DataW H) → Nat
  | [] => 0
  | d :: r => uptoBulk d + uptoBulkAll r
def uptoBulkEntries {H : Type} : List (Lit × DataW H) → Nat
  | [] => 0
  | x :: r => uptoBulkEntry x + uptoBulkEntries r
def uptoBulkEntry {H : Type} : Lit × DataW H → Nat
  | (.string bytes, d) => bytes.length + uptoBulk d + 1
  | (_, d) => uptoBulk d + 1
 end
def uptoSmall : (H : Type) → List (DataW H) → Bool := fun _ ds => decide (uptoBulkAll ds ≤ 1048576)
def OpenSpec.upto (s : _root_.Go.ChangeSpec) : _root_.Go.OpenSpec := { _root_.Go.OpenSpec.ofChange s with cond := some uptoSmall }

/-- 'arenanetlaw15.CompileVerify', WHERE WHAT IT READS IS OF BULK AT MOST 1048576: true; the input reads as it did. -/
def compileVerifyUptoRow : OpenClaim := { program := "ytlbibgdenkleiaadoor", sum := "4dfad982fcf61e45818978d94853137f538eea53d61766c23a325c8001ecb33a", func := "arenanet/arenanetlaw15.CompileVerify", spec := "compileVerify", unfollowed := true, recurses := true, named := ["arenanet/compile.effects"], apart := false, laid := [("arenanet/compile.effects", laid_arenanet_compile_effects)], narrowed := true }
def CompileVerifyUptoSaid : Prop := compileVerifyUptoRow.holds Tryd.pinned (OpenSpec.upto compileVerifySpec)

/-- 'arenanetlaw15.CompileOperands', WHERE WHAT IT READS IS OF BULK AT MOST 1048576: true; the input reads as it did. -/
def compileOperandsUptoRow : OpenClaim := { program := "ytlbibgdenkleiaadoor", sum := "4dfad982fcf61e45818978d94853137f538eea53d61766c23a325c8001ecb33a", func := "arenanet/arenanetlaw15.CompileOperands", spec := "compileOperands", unfollowed := true, recurses := true, named := ["arenanet/compile.effects"], apart := false, laid := [("arenanet/compile.effects", laid_arenanet_compile_effects)], narrowed := true }
def CompileOperandsUptoSaid : Prop := compileOperandsUptoRow.holds Tryd.pinned (OpenSpec.upto compileOperandsSpec)

/-- 'arenanetlaw15.CompileDepths', WHERE WHAT IT READS IS OF BULK AT MOST 1048576: true; the input reads as it did. -/
def compileDepthsUptoRow : OpenClaim := { program := "ytlbibgdenkleiaadoor", sum := "4dfad982fcf61e45818978d94853137f538eea53d61766c23a325c8001ecb33a", func := "arenanet/arenanetlaw15.CompileDepths", spec := "compileDepths", unfollowed := true, recurses := true, named := ["arenanet/compile.effects"], apart := false, laid := [("arenanet/compile.effects", laid_arenanet_compile_effects)], narrowed := true }
def CompileDepthsUptoSaid : Prop := compileDepthsUptoRow.holds Tryd.pinned (OpenSpec.upto compileDepthsSpec)

/-- 'arenanetlaw15.CompileLimits', WHERE WHAT IT READS IS OF BULK AT MOST 1048576: true; the input reads as it did. -/
def compileLimitsUptoRow : OpenClaim := { program := "ytlbibgdenkleiaadoor", sum := "4dfad982fcf61e45818978d94853137f538eea53d61766c23a325c8001ecb33a", func := "arenanet/arenanetlaw15.CompileLimits", spec := "compileLimits", unfollowed := true, recurses := true, named := ["arenanet/compile.effects"], apart := false, laid := [("arenanet/compile.effects", laid_arenanet_compile_effects)], narrowed := true }
def CompileLimitsUptoSaid : Prop := compileLimitsUptoRow.holds Tryd.pinned (OpenSpec.upto compileLimitsSpec)

/-- 'arenanetlaw15.CompileFields', WHERE WHAT IT READS IS OF BULK AT MOST 1048576: true; the input reads as it did. -/
def compileFieldsUptoRow : OpenClaim := { program := "ytlbibgdenkleiaadoor", sum := "4dfad982fcf61e45818978d94853137f538eea53d61766c23a325c8001ecb33a", func := "arenanet/arenanetlaw15.CompileFields", spec := "compileFields", unfollowed := true, recurses := true, named := ["arenanet/compile.effects"], apart := false, laid := [("arenanet/compile.effects", laid_arenanet_compile_effects)], narrowed := true }
def CompileFieldsUptoSaid : Prop := compileFieldsUptoRow.holds Tryd.pinned (OpenSpec.upto compileFieldsSpec)

end Rows
end Go.Proofs.YtlbibgdenkleiaaDoor
