/-
  No cell of these rows narrows 'for every input' (looked for: loops, veiled, ifaces, maps, wideKeys, modest, calm, conditions, laid).
  DERIVED. THE GIVEN ROWS OF THIS SEAT. 7 by the template 'for every input the law returns true; each argument reads behind the call as it read before'; 0 by the template 'total and deterministic' (their statements: YtebhnnjdljcicaaTotals.lean).
  GIVEN WITH THE SEED: the statements are not yours to turn. If you find one false, say at which input.
  Laid BY PROGRAM, IN A SANDBOX (cutbox-rows.mjs): the forced cells as the released guide's own fill.sh prints them over the translation 51107678d4410255… (all of the seat's roots in one cut). By AI agents, Wed Nov 11 2026. No macro, syntax, notation, axiom, sorry.
-/
import Derived.Test.YtebhnnjdljcicaaChecked
import GoSem.Claim
import GoSem.ClaimJoined
import GoSem.ClaimMapViews
import Derived.JoinedTies
import Derived.KernelRfl
namespace Go.Proofs.Ytebhnnjdljcicaa
/- THE CELL 'sum', in the pinned program and in every row, IS THE sha256 OF THE DUMP (.gsa) THAT YtebhnnjdljcicaaProg.lean LOADS. Nothing in Lean hashes anything: it is a label: what it is worth is what the hold of that sum in a sandbox is worth. -/
noncomputable def Try.pinned : Pinned := { name := "ytebhnnjdljcicaa", sum := "51107678d4410255ccc6818f6396e68c5cc3162566b8cb5f1b12ef94d4dd7384", checked := Try.checked }
namespace Rows
def none {H : Type} : Left H := { results := [], args := [] }

/-- 'arenanetlaw14.TypecheckTypes': WHATEVER THE INPUT: true; the input reads as it did. -/
def typecheckTypesSpec : ChangeSpec := { name := "typecheckTypes", fn := fun _ => fun
  | [d] => { results := [.lit (.bool true)], args := [d] }
  | _ => none }
def typecheckTypesRow : OpenClaim := { program := "ytebhnnjdljcicaa", sum := "51107678d4410255ccc6818f6396e68c5cc3162566b8cb5f1b12ef94d4dd7384", func := "arenanet/arenanetlaw14.TypecheckTypes", spec := "typecheckTypes", unfollowed := true, recurses := true, apart := false }
def TypecheckTypesSaid : Prop := typecheckTypesRow.holds Try.pinned (OpenSpec.ofChange typecheckTypesSpec)

/-- ITS FALSE NEIGHBOUR: 'it returns false'. Refute it at one input. -/
def typecheckTypesWrong : ChangeSpec := { name := "typecheckTypes", fn := fun _ => fun
  | [d] => { results := [.lit (.bool false)], args := [d] }
  | _ => none }
def TypecheckTypesWrongFalsely : Prop := typecheckTypesRow.holds Try.pinned (OpenSpec.ofChange typecheckTypesWrong)

/-- 'arenanetlaw14.TypecheckPrograms': WHATEVER THE INPUT: true; the input reads as it did. -/
def typecheckProgramsSpec : ChangeSpec := { name := "typecheckPrograms", fn := fun _ => fun
  | [d] => { results := [.lit (.bool true)], args := [d] }
  | _ => none }
def typecheckProgramsRow : OpenClaim := { program := "ytebhnnjdljcicaa", sum := "51107678d4410255ccc6818f6396e68c5cc3162566b8cb5f1b12ef94d4dd7384", func := "arenanet/arenanetlaw14.TypecheckPrograms", spec := "typecheckPrograms", unfollowed := true, recurses := true, apart := false }
def TypecheckProgramsSaid : Prop := typecheckProgramsRow.holds Try.pinned (OpenSpec.ofChange typecheckProgramsSpec)

/-- ITS FALSE NEIGHBOUR: 'it returns false'. Refute it at one input. -/
def typecheckProgramsWrong : ChangeSpec := { name := "typecheckPrograms", fn := fun _ => fun
  | [d] => { results := [.lit (.bool false)], args := [d] }
  | _ => none }
def TypecheckProgramsWrongFalsely : Prop := typecheckProgramsRow.holds Try.pinned (OpenSpec.ofChange typecheckProgramsWrong)

/-- 'arenanetlaw14.TypecheckStatements': WHATEVER THE INPUT: true; the input reads as it did. -/
def typecheckStatementsSpec : ChangeSpec := { name := "typecheckStatements", fn := fun _ => fun
  | [d1, d2, d3] => { results := [.lit (.bool true)], args := [d1, d2, d3] }
  | _ => none }
def typecheckStatementsRow : OpenClaim := { program := "ytebhnnjdljcicaa", sum := "51107678d4410255ccc6818f6396e68c5cc3162566b8cb5f1b12ef94d4dd7384", func := "arenanet/arenanetlaw14.TypecheckStatements", spec := "typecheckStatements", unfollowed := true, recurses := true, apart := false }
def TypecheckStatementsSaid : Prop := typecheckStatementsRow.holds Try.pinned (OpenSpec.ofChange typecheckStatementsSpec)

/-- ITS FALSE NEIGHBOUR: 'it returns false'. Refute it at one input. -/
def typecheckStatementsWrong : ChangeSpec := { name := "typecheckStatements", fn := fun _ => fun
  | [d1, d2, d3] => { results := [.lit (.bool false)], args := [d1, d2, d3] }
  | _ => none }
def TypecheckStatementsWrongFalsely : Prop := typecheckStatementsRow.holds Try.pinned (OpenSpec.ofChange typecheckStatementsWrong)

/-- 'arenanetlaw14.TypecheckSubstitution': WHATEVER THE INPUT: true; the input reads as it did. -/
def typecheckSubstitutionSpec : ChangeSpec := { name := "typecheckSubstitution", fn := fun _ => fun
  | [d1, d2, d3] => { results := [.lit (.bool true)], args := [d1, d2, d3] }
  | _ => none }
def typecheckSubstitutionRow : OpenClaim := { program := "ytebhnnjdljcicaa", sum := "51107678d4410255ccc6818f6396e68c5cc3162566b8cb5f1b12ef94d4dd7384", func := "arenanet/arenanetlaw14.TypecheckSubstitution", spec := "typecheckSubstitution", unfollowed := true, recurses := true, apart := false }
def TypecheckSubstitutionSaid : Prop := typecheckSubstitutionRow.holds Try.pinned (OpenSpec.ofChange typecheckSubstitutionSpec)

/-- ITS FALSE NEIGHBOUR: 'it returns false'. Refute it at one input. -/
def typecheckSubstitutionWrong : ChangeSpec := { name := "typecheckSubstitution", fn := fun _ => fun
  | [d1, d2, d3] => { results := [.lit (.bool false)], args := [d1, d2, d3] }
  | _ => none }
def TypecheckSubstitutionWrongFalsely : Prop := typecheckSubstitutionRow.holds Try.pinned (OpenSpec.ofChange typecheckSubstitutionWrong)

/-- 'arenanetlaw14.TypecheckModular': WHATEVER THE INPUT: true; the input reads as it did. -/
def typecheckModularSpec : ChangeSpec := { name := "typecheckModular", fn := fun _ => fun
  | [d] => { results := [.lit (.bool true)], args := [d] }
  | _ => none }
def typecheckModularRow : OpenClaim := { program := "ytebhnnjdljcicaa", sum := "51107678d4410255ccc6818f6396e68c5cc3162566b8cb5f1b12ef94d4dd7384", func := "arenanet/arenanetlaw14.TypecheckModular", spec := "typecheckModular", unfollowed := true, recurses := true, apart := false }
def TypecheckModularSaid : Prop := typecheckModularRow.holds Try.pinned (OpenSpec.ofChange typecheckModularSpec)

/-- ITS FALSE NEIGHBOUR: 'it returns false'. Refute it at one input. -/
def typecheckModularWrong : ChangeSpec := { name := "typecheckModular", fn := fun _ => fun
  | [d] => { results := [.lit (.bool false)], args := [d] }
  | _ => none }
def TypecheckModularWrongFalsely : Prop := typecheckModularRow.holds Try.pinned (OpenSpec.ofChange typecheckModularWrong)

/-- 'arenanetlaw14.TypecheckRenaming': WHATEVER THE INPUT: true; the input reads as it did. -/
def typecheckRenamingSpec : ChangeSpec := { name := "typecheckRenaming", fn := fun _ => fun
  | [d1, d2] => { results := [.lit (.bool true)], args := [d1, d2] }
  | _ => none }
def typecheckRenamingRow : OpenClaim := { program := "ytebhnnjdljcicaa", sum := "51107678d4410255ccc6818f6396e68c5cc3162566b8cb5f1b12ef94d4dd7384", func := "arenanet/arenanetlaw14.TypecheckRenaming", spec := "typecheckRenaming", unfollowed := true, recurses := true, apart := false }
def TypecheckRenamingSaid : Prop := typecheckRenamingRow.holds Try.pinned (OpenSpec.ofChange typecheckRenamingSpec)

/-- ITS FALSE NEIGHBOUR: 'it returns false'. Refute it at one input. -/
def typecheckRenamingWrong : ChangeSpec := { name := "typecheckRenaming", fn := fun _ => fun
  | [d1, d2] => { results := [.lit (.bool false)], args := [d1, d2] }
  | _ => none }
def TypecheckRenamingWrongFalsely : Prop := typecheckRenamingRow.holds Try.pinned (OpenSpec.ofChange typecheckRenamingWrong)

/-- 'arenanetlaw14.TypecheckLimit': WHATEVER THE INPUT: true; the input reads as it did. -/
def typecheckLimitSpec : ChangeSpec := { name := "typecheckLimit", fn := fun _ => fun
  | [d1, d2] => { results := [.lit (.bool true)], args := [d1, d2] }
  | _ => none }
def typecheckLimitRow : OpenClaim := { program := "ytebhnnjdljcicaa", sum := "51107678d4410255ccc6818f6396e68c5cc3162566b8cb5f1b12ef94d4dd7384", func := "arenanet/arenanetlaw14.TypecheckLimit", spec := "typecheckLimit", unfollowed := true, recurses := true, apart := false }
def TypecheckLimitSaid : Prop := typecheckLimitRow.holds Try.pinned (OpenSpec.ofChange typecheckLimitSpec)

/-- ITS FALSE NEIGHBOUR: 'it returns false'. Refute it at one input. -/
def typecheckLimitWrong : ChangeSpec := { name := "typecheckLimit", fn := fun _ => fun
  | [d1, d2] => { results := [.lit (.bool false)], args := [d1, d2] }
  | _ => none }
def TypecheckLimitWrongFalsely : Prop := typecheckLimitRow.holds Try.pinned (OpenSpec.ofChange typecheckLimitWrong)

/- THE SECOND FORM. 'bulk': how many values and letters a reading holds, each counted each time it is reached (what is shared counts as often as it is met; a slice's spare places count too). A statement '..UptoSaid' is the law's where the arguments, and the package variables that the reading takes, are together of bulk at most 1048576: NARROWER than '..Said'. Prove '..Said' where nothing that the law and all that it calls make is longer than what came in: it says more and counts as full. Else prove '..UptoSaid'. A law counts once. -/
mutual
def uptoBulk {H : Type} : DataW H → Nat
  | .lit (.string bytes) => bytes.length + 1
  | .lit _ => 1
  | .nil => 1
  | .ptr d => uptoBulk d + 1
  | .slice elems spare => uptoBulkAll elems + uptoBulkAll spare + 1
  | .agg parts => uptoBulkAll parts + 1
  | .iface _ d => uptoBulk d + 1
  | .map entries => uptoBulkEntries entries + 1
  | .held _ => 1
def uptoBulkAll {H : Type} : List (DataW H) → Nat
  | [] => 0
  | d :: r => uptoBulk d + uptoBulkAll r
def uptoBulkEntries {H : Type} : List (Lit × DataW H) → Nat
  | [] => 0
  | x :: r => uptoBulkEntry x + uptoBulkEntries r
def uptoBulkEntry {H : Type} : Lit × DataW H → Nat
  | (.string bytes, d) => bytes.length + uptoBulk d + 1
  | (_, d) => uptoBulk d + 1
 end
def uptoSmall : (H : Type) → List (DataW H) → Bool := fun _ ds => decide (uptoBulkAll ds ≤ 1048576)
def OpenSpec.upto (s : _root_.Go.ChangeSpec) : _root_.Go.OpenSpec := { _root_.Go.OpenSpec.ofChange s with cond := some uptoSmall }

/-- 'arenanetlaw14.TypecheckTypes', WHERE WHAT IT READS IS OF BULK AT MOST 1048576: true; the input reads as it did. -/
def typecheckTypesUptoRow : OpenClaim := { program := "ytebhnnjdljcicaa", sum := "51107678d4410255ccc6818f6396e68c5cc3162566b8cb5f1b12ef94d4dd7384", func := "arenanet/arenanetlaw14.TypecheckTypes", spec := "typecheckTypes", unfollowed := true, recurses := true, apart := false, narrowed := true }
def TypecheckTypesUptoSaid : Prop := typecheckTypesUptoRow.holds Try.pinned (OpenSpec.upto typecheckTypesSpec)

/-- 'arenanetlaw14.TypecheckPrograms', WHERE WHAT IT READS IS OF BULK AT MOST 1048576: true; the input reads as it did. -/
def typecheckProgramsUptoRow : OpenClaim := { program := "ytebhnnjdljcicaa", sum := "51107678d4410255ccc6818f6396e68c5cc3162566b8cb5f1b12ef94d4dd7384", func := "arenanet/arenanetlaw14.TypecheckPrograms", spec := "typecheckPrograms", unfollowed := true, recurses := true, apart := false, narrowed := true }
def TypecheckProgramsUptoSaid : Prop := typecheckProgramsUptoRow.holds Try.pinned (OpenSpec.upto typecheckProgramsSpec)

/-- 'arenanetlaw14.TypecheckStatements', WHERE WHAT IT READS IS OF BULK AT MOST 1048576: true; the input reads as it did. -/
def typecheckStatementsUptoRow : OpenClaim := { program := "ytebhnnjdljcicaa", sum := "51107678d4410255ccc6818f6396e68c5cc3162566b8cb5f1b12ef94d4dd7384", func := "arenanet/arenanetlaw14.TypecheckStatements", spec := "typecheckStatements", unfollowed := true, recurses := true, apart := false, narrowed := true }
def TypecheckStatementsUptoSaid : Prop := typecheckStatementsUptoRow.holds Try.pinned (OpenSpec.upto typecheckStatementsSpec)

/-- 'arenanetlaw14.TypecheckSubstitution', WHERE WHAT IT READS IS OF BULK AT MOST 1048576: true; the input reads as it did. -/
def typecheckSubstitutionUptoRow : OpenClaim := { program := "ytebhnnjdljcicaa", sum := "51107678d4410255ccc6818f6396e68c5cc3162566b8cb5f1b12ef94d4dd7384", func := "arenanet/arenanetlaw14.TypecheckSubstitution", spec := "typecheckSubstitution", unfollowed := true, recurses := true, apart := false, narrowed := true }
def TypecheckSubstitutionUptoSaid : Prop := typecheckSubstitutionUptoRow.holds Try.pinned (OpenSpec.upto typecheckSubstitutionSpec)

/-- 'arenanetlaw14.TypecheckModular', WHERE WHAT IT READS IS OF BULK AT MOST 1048576: true; the input reads as it did. -/
def typecheckModularUptoRow : OpenClaim := { program := "ytebhnnjdljcicaa", sum := "51107678d4410255ccc6818f6396e68c5cc3162566b8cb5f1b12ef94d4dd7384", func := "arenanet/arenanetlaw14.TypecheckModular", spec := "typecheckModular", unfollowed := true, recurses := true, apart := false, narrowed := true }
def TypecheckModularUptoSaid : Prop := typecheckModularUptoRow.holds Try.pinned (OpenSpec.upto typecheckModularSpec)

/-- 'arenanetlaw14.TypecheckRenaming', WHERE WHAT IT READS IS OF BULK AT MOST 1048576: true; the input reads as it did. -/
def typecheckRenamingUptoRow : OpenClaim := { program := "ytebhnnjdljcicaa", sum := "51107678d4410255ccc6818f6396e68c5cc3162566b8cb5f1b12ef94d4dd7384", func := "arenanet/arenanetlaw14.TypecheckRenaming", spec := "typecheckRenaming", unfollowed := true, recurses := true, apart := false, narrowed := true }
def TypecheckRenamingUptoSaid : Prop := typecheckRenamingUptoRow.holds Try.pinned (OpenSpec.upto typecheckRenamingSpec)

/-- 'arenanetlaw14.TypecheckLimit', WHERE WHAT IT READS IS OF BULK AT MOST 1048576: true; the input reads as it did. -/
def typecheckLimitUptoRow : OpenClaim := { program := "ytebhnnjdljcicaa", sum := "51107678d4410255ccc6818f6396e68c5cc3162566b8cb5f1b12ef94d4dd7384", func := "arenanet/arenanetlaw14.TypecheckLimit", spec := "typecheckLimit", unfollowed := true, recurses := true, apart := false, narrowed := true }
def TypecheckLimitUptoSaid : Prop := typecheckLimitUptoRow.holds Try.pinned (OpenSpec.upto typecheckLimitSpec)

end Rows
end Go.Proofs.Ytebhnnjdljcicaa
