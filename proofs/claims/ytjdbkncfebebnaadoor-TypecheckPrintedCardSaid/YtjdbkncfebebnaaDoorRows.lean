/-
  NARROWER THAN 'FOR EVERY INPUT', by the rows' own cells (each row's printed sentence says how): CompileFields: laid · ParserTail: laid · ParserLimits: laid · ParserRound: laid · ParserPrecedence: laid · ParserOrder: laid · ParserEqual: loops, laid · TypecheckPrinted: laid.
  DERIVED. THE GIVEN ROWS OF THIS SEAT. 8 by the template 'for every input the law returns true; each argument reads behind the call as it read before'; 0 by the template 'total and deterministic' (their statements: YtjdbkncfebebnaaDoorTotals.lean).
  GIVEN WITH THE SEED: the statements are not yours to turn. If you find one false, say at which input.
  Laid BY PROGRAM, IN A SANDBOX (cutbox-rows.mjs): the forced cells as the released guide's own fill.sh prints them over the translation 3595566d96a4be24… (all of the seat's roots in one cut). By AI agents, Wed Nov 11 2026. No macro, syntax, notation, axiom, sorry.
-/
import Derived.Test.YtjdbkncfebebnaaDoorChecked
import GoSem.Claim
import GoSem.ClaimJoined
import GoSem.ClaimMapViews
import Derived.JoinedTies
import Derived.KernelRfl
namespace Go.Proofs.YtjdbkncfebebnaaDoor
/- THE CELL 'sum', in the pinned program and in every row, IS THE sha256 OF THE DUMP (.gsa) THAT YtjdbkncfebebnaaDoorProg.lean LOADS. Nothing in Lean hashes anything: it is a label: what it is worth is what the hold of that sum in a sandbox is worth. -/
noncomputable def Tryd.pinned : Pinned := { name := "ytjdbkncfebebnaadoor", sum := "3595566d96a4be2421a7c25beab7db5dc192bce88e4acae94df18a4b11406de0", checked := Tryd.checked }
namespace Rows
def none {H : Type} : Left H := { results := [], args := [] }

/- WHAT THE LISTED PACKAGE-LEVEL VARIABLES READ AS WHEN THE CALL BEGINS. Each datum BY PROGRAM (the guide's laid-datum.mjs) off the statement by which the dump's own 'gosem.cut.vars' lays the variable. In a bare row this is a premise. The card (YtjdbkncfebebnaaDoorCards.lean) ties it to the program's text. -/
def laid_arenanet_compile_effects {H : Type} : DataW H := .agg [.agg [.lit (.int .i64 0), .lit (.int .i64 0)], .agg [.lit (.int .i64 0), .lit (.int .i64 1)], .agg [.lit (.int .i64 0), .lit (.int .i64 1)], .agg [.lit (.int .i64 1), .lit (.int .i64 0)], .agg [.lit (.int .i64 1), .lit (.int .i64 1)], .agg [.lit (.int .i64 2), .lit (.int .i64 0)], .agg [.lit (.int .i64 0), .lit (.int .i64 1)], .agg [.lit (.int .i64 0), .lit (.int .i64 1)], .agg [.lit (.int .i64 0), .lit (.int .i64 1)], .agg [.lit (.int .i64 2), .lit (.int .i64 1)], .agg [.lit (.int .i64 2), .lit (.int .i64 1)], .agg [.lit (.int .i64 2), .lit (.int .i64 1)], .agg [.lit (.int .i64 2), .lit (.int .i64 1)], .agg [.lit (.int .i64 1), .lit (.int .i64 1)], .agg [.lit (.int .i64 2), .lit (.int .i64 1)], .agg [.lit (.int .i64 2), .lit (.int .i64 1)], .agg [.lit (.int .i64 2), .lit (.int .i64 1)], .agg [.lit (.int .i64 1), .lit (.int .i64 1)], .agg [.lit (.int .i64 0), .lit (.int .i64 0)], .agg [.lit (.int .i64 1), .lit (.int .i64 0)], .agg [.lit (.int .i64 2), .lit (.int .i64 0)], .agg [.lit (.int .i64 0), .lit (.int .i64 0)]]
def laid_math_bits_deBruijn32tab {H : Type} : DataW H := .agg [.lit (.int .u8 0), .lit (.int .u8 1), .lit (.int .u8 28), .lit (.int .u8 2), .lit (.int .u8 29), .lit (.int .u8 14), .lit (.int .u8 24), .lit (.int .u8 3), .lit (.int .u8 30), .lit (.int .u8 22), .lit (.int .u8 20), .lit (.int .u8 15), .lit (.int .u8 25), .lit (.int .u8 17), .lit (.int .u8 4), .lit (.int .u8 8), .lit (.int .u8 31), .lit (.int .u8 27), .lit (.int .u8 13), .lit (.int .u8 23), .lit (.int .u8 21), .lit (.int .u8 19), .lit (.int .u8 16), .lit (.int .u8 7), .lit (.int .u8 26), .lit (.int .u8 12), .lit (.int .u8 18), .lit (.int .u8 6), .lit (.int .u8 11), .lit (.int .u8 5), .lit (.int .u8 10), .lit (.int .u8 9)]
def laid_math_bits_deBruijn64tab {H : Type} : DataW H := .agg [.lit (.int .u8 0), .lit (.int .u8 1), .lit (.int .u8 56), .lit (.int .u8 2), .lit (.int .u8 57), .lit (.int .u8 49), .lit (.int .u8 28), .lit (.int .u8 3), .lit (.int .u8 61), .lit (.int .u8 58), .lit (.int .u8 42), .lit (.int .u8 50), .lit (.int .u8 38), .lit (.int .u8 29), .lit (.int .u8 17), .lit (.int .u8 4), .lit (.int .u8 62), .lit (.int .u8 47), .lit (.int .u8 59), .lit (.int .u8 36), .lit (.int .u8 45), .lit (.int .u8 43), .lit (.int .u8 51), .lit (.int .u8 22), .lit (.int .u8 53), .lit (.int .u8 39), .lit (.int .u8 33), .lit (.int .u8 30), .lit (.int .u8 24), .lit (.int .u8 18), .lit (.int .u8 12), .lit (.int .u8 5), .lit (.int .u8 63), .lit (.int .u8 55), .lit (.int .u8 48), .lit (.int .u8 27), .lit (.int .u8 60), .lit (.int .u8 41), .lit (.int .u8 37), .lit (.int .u8 16), .lit (.int .u8 46), .lit (.int .u8 35), .lit (.int .u8 44), .lit (.int .u8 21), .lit (.int .u8 52), .lit (.int .u8 32), .lit (.int .u8 23), .lit (.int .u8 11), .lit (.int .u8 54), .lit (.int .u8 26), .lit (.int .u8 40), .lit (.int .u8 15), .lit (.int .u8 34), .lit (.int .u8 20), .lit (.int .u8 31), .lit (.int .u8 10), .lit (.int .u8 25), .lit (.int .u8 14), .lit (.int .u8 19), .lit (.int .u8 9), .lit (.int .u8 13), .lit (.int .u8 8), .lit (.int .u8 7), .lit (.int .u8 6)]
def laid_internal_strconv_uint64pow10 {H : Type} : DataW H := .agg [.lit (.int .u64 1), .lit (.int .u64 10), .lit (.int .u64 100), .lit (.int .u64 1000), .lit (.int .u64 10000), .lit (.int .u64 100000), .lit (.int .u64 1000000), .lit (.int .u64 10000000), .lit (.int .u64 100000000), .lit (.int .u64 1000000000), .lit (.int .u64 10000000000), .lit (.int .u64 100000000000), .lit (.int .u64 1000000000000), .lit (.int .u64 10000000000000), .lit (.int .u64 100000000000000), .lit (.int .u64 1000000000000000), .lit (.int .u64 10000000000000000), .lit (.int .u64 100000000000000000), .lit (.int .u64 1000000000000000000), .lit (.int .u64 10000000000000000000)]

/-- 'arenanetlaw15.CompileFields': WHATEVER THE INPUT: true; the input reads as it did. -/
def compileFieldsSpec : ChangeSpec := { name := "compileFields", fn := fun _ => fun
  | [d1, d2, d3] => { results := [.lit (.bool true)], args := [d1, d2, d3] }
  | _ => none }
def compileFieldsRow : OpenClaim := { program := "ytjdbkncfebebnaadoor", sum := "3595566d96a4be2421a7c25beab7db5dc192bce88e4acae94df18a4b11406de0", func := "arenanet/arenanetlaw15.CompileFields", spec := "compileFields", unfollowed := true, recurses := true, named := ["arenanet/compile.effects"], apart := false, laid := [("arenanet/compile.effects", laid_arenanet_compile_effects)] }
def CompileFieldsSaid : Prop := compileFieldsRow.holds Tryd.pinned (OpenSpec.ofChange compileFieldsSpec)

/-- ITS FALSE NEIGHBOUR: 'it returns false'. Refute it at one input. -/
def compileFieldsWrong : ChangeSpec := { name := "compileFields", fn := fun _ => fun
  | [d1, d2, d3] => { results := [.lit (.bool false)], args := [d1, d2, d3] }
  | _ => none }
def CompileFieldsWrongFalsely : Prop := compileFieldsRow.holds Tryd.pinned (OpenSpec.ofChange compileFieldsWrong)

/-- 'arenanetlaw13.ParserTail': WHATEVER THE INPUT: true; the input reads as it did. -/
def parserTailSpec : ChangeSpec := { name := "parserTail", fn := fun _ => fun
  | [d1, d2, d3, d4, d5, d6] => { results := [.lit (.bool true)], args := [d1, d2, d3, d4, d5, d6] }
  | _ => none }
def parserTailRow : OpenClaim := { program := "ytjdbkncfebebnaadoor", sum := "3595566d96a4be2421a7c25beab7db5dc192bce88e4acae94df18a4b11406de0", func := "arenanet/arenanetlaw13.ParserTail", spec := "parserTail", inPlace := ["internal/bytealg.IndexByteString", "internal/abi.NoEscape"], unfollowed := true, recurses := true, named := ["internal/strconv.uint64pow10", "math/bits.deBruijn32tab", "math/bits.deBruijn64tab"], apart := false, laid := [("math/bits.deBruijn32tab", laid_math_bits_deBruijn32tab), ("math/bits.deBruijn64tab", laid_math_bits_deBruijn64tab), ("internal/strconv.uint64pow10", laid_internal_strconv_uint64pow10)] }
def ParserTailSaid : Prop := parserTailRow.holds Tryd.pinned (OpenSpec.ofChange parserTailSpec)

/-- ITS FALSE NEIGHBOUR: 'it returns false'. Refute it at one input. -/
def parserTailWrong : ChangeSpec := { name := "parserTail", fn := fun _ => fun
  | [d1, d2, d3, d4, d5, d6] => { results := [.lit (.bool false)], args := [d1, d2, d3, d4, d5, d6] }
  | _ => none }
def ParserTailWrongFalsely : Prop := parserTailRow.holds Tryd.pinned (OpenSpec.ofChange parserTailWrong)

/-- 'arenanetlaw13.ParserLimits': WHATEVER THE INPUT: true; the input reads as it did. -/
def parserLimitsSpec : ChangeSpec := { name := "parserLimits", fn := fun _ => fun
  | [d1, d2, d3, d4, d5] => { results := [.lit (.bool true)], args := [d1, d2, d3, d4, d5] }
  | _ => none }
def parserLimitsRow : OpenClaim := { program := "ytjdbkncfebebnaadoor", sum := "3595566d96a4be2421a7c25beab7db5dc192bce88e4acae94df18a4b11406de0", func := "arenanet/arenanetlaw13.ParserLimits", spec := "parserLimits", inPlace := ["internal/bytealg.IndexByteString", "internal/abi.NoEscape"], unfollowed := true, recurses := true, named := ["internal/strconv.uint64pow10", "math/bits.deBruijn32tab", "math/bits.deBruijn64tab"], apart := false, laid := [("math/bits.deBruijn32tab", laid_math_bits_deBruijn32tab), ("math/bits.deBruijn64tab", laid_math_bits_deBruijn64tab), ("internal/strconv.uint64pow10", laid_internal_strconv_uint64pow10)] }
def ParserLimitsSaid : Prop := parserLimitsRow.holds Tryd.pinned (OpenSpec.ofChange parserLimitsSpec)

/-- ITS FALSE NEIGHBOUR: 'it returns false'. Refute it at one input. -/
def parserLimitsWrong : ChangeSpec := { name := "parserLimits", fn := fun _ => fun
  | [d1, d2, d3, d4, d5] => { results := [.lit (.bool false)], args := [d1, d2, d3, d4, d5] }
  | _ => none }
def ParserLimitsWrongFalsely : Prop := parserLimitsRow.holds Tryd.pinned (OpenSpec.ofChange parserLimitsWrong)

/-- 'arenanetlaw13.ParserRound': WHATEVER THE INPUT: true; the input reads as it did. -/
def parserRoundSpec : ChangeSpec := { name := "parserRound", fn := fun _ => fun
  | [d1, d2, d3, d4, d5] => { results := [.lit (.bool true)], args := [d1, d2, d3, d4, d5] }
  | _ => none }
def parserRoundRow : OpenClaim := { program := "ytjdbkncfebebnaadoor", sum := "3595566d96a4be2421a7c25beab7db5dc192bce88e4acae94df18a4b11406de0", func := "arenanet/arenanetlaw13.ParserRound", spec := "parserRound", inPlace := ["internal/bytealg.IndexByteString", "internal/abi.NoEscape"], unfollowed := true, recurses := true, named := ["internal/strconv.uint64pow10", "math/bits.deBruijn32tab", "math/bits.deBruijn64tab"], apart := false, laid := [("math/bits.deBruijn32tab", laid_math_bits_deBruijn32tab), ("math/bits.deBruijn64tab", laid_math_bits_deBruijn64tab), ("internal/strconv.uint64pow10", laid_internal_strconv_uint64pow10)] }
def ParserRoundSaid : Prop := parserRoundRow.holds Tryd.pinned (OpenSpec.ofChange parserRoundSpec)

/-- ITS FALSE NEIGHBOUR: 'it returns false'. Refute it at one input. -/
def parserRoundWrong : ChangeSpec := { name := "parserRound", fn := fun _ => fun
  | [d1, d2, d3, d4, d5] => { results := [.lit (.bool false)], args := [d1, d2, d3, d4, d5] }
  | _ => none }
def ParserRoundWrongFalsely : Prop := parserRoundRow.holds Tryd.pinned (OpenSpec.ofChange parserRoundWrong)

/-- 'arenanetlaw13.ParserPrecedence': WHATEVER THE INPUT: true; the input reads as it did. -/
def parserPrecedenceSpec : ChangeSpec := { name := "parserPrecedence", fn := fun _ => fun
  | [d1, d2] => { results := [.lit (.bool true)], args := [d1, d2] }
  | _ => none }
def parserPrecedenceRow : OpenClaim := { program := "ytjdbkncfebebnaadoor", sum := "3595566d96a4be2421a7c25beab7db5dc192bce88e4acae94df18a4b11406de0", func := "arenanet/arenanetlaw13.ParserPrecedence", spec := "parserPrecedence", inPlace := ["internal/bytealg.IndexByteString", "internal/abi.NoEscape"], unfollowed := true, recurses := true, named := ["internal/strconv.uint64pow10", "math/bits.deBruijn32tab", "math/bits.deBruijn64tab"], apart := false, laid := [("math/bits.deBruijn32tab", laid_math_bits_deBruijn32tab), ("math/bits.deBruijn64tab", laid_math_bits_deBruijn64tab), ("internal/strconv.uint64pow10", laid_internal_strconv_uint64pow10)] }
def ParserPrecedenceSaid : Prop := parserPrecedenceRow.holds Tryd.pinned (OpenSpec.ofChange parserPrecedenceSpec)

/-- ITS FALSE NEIGHBOUR: 'it returns false'. Refute it at one input. -/
def parserPrecedenceWrong : ChangeSpec := { name := "parserPrecedence", fn := fun _ => fun
  | [d1, d2] => { results := [.lit (.bool false)], args := [d1, d2] }
  | _ => none }
def ParserPrecedenceWrongFalsely : Prop := parserPrecedenceRow.holds Tryd.pinned (OpenSpec.ofChange parserPrecedenceWrong)

/-- 'arenanetlaw13.ParserOrder': WHATEVER THE INPUT: true; the input reads as it did. -/
def parserOrderSpec : ChangeSpec := { name := "parserOrder", fn := fun _ => fun
  | [d] => { results := [.lit (.bool true)], args := [d] }
  | _ => none }
def parserOrderRow : OpenClaim := { program := "ytjdbkncfebebnaadoor", sum := "3595566d96a4be2421a7c25beab7db5dc192bce88e4acae94df18a4b11406de0", func := "arenanet/arenanetlaw13.ParserOrder", spec := "parserOrder", inPlace := ["internal/bytealg.IndexByteString", "internal/abi.NoEscape"], unfollowed := true, recurses := true, named := ["internal/strconv.uint64pow10", "math/bits.deBruijn32tab", "math/bits.deBruijn64tab"], apart := false, laid := [("math/bits.deBruijn32tab", laid_math_bits_deBruijn32tab), ("math/bits.deBruijn64tab", laid_math_bits_deBruijn64tab), ("internal/strconv.uint64pow10", laid_internal_strconv_uint64pow10)] }
def ParserOrderSaid : Prop := parserOrderRow.holds Tryd.pinned (OpenSpec.ofChange parserOrderSpec)

/-- ITS FALSE NEIGHBOUR: 'it returns false'. Refute it at one input. -/
def parserOrderWrong : ChangeSpec := { name := "parserOrder", fn := fun _ => fun
  | [d] => { results := [.lit (.bool false)], args := [d] }
  | _ => none }
def ParserOrderWrongFalsely : Prop := parserOrderRow.holds Tryd.pinned (OpenSpec.ofChange parserOrderWrong)

/-- 'arenanetlaw13.ParserEqual': WHATEVER THE INPUT: true; the input reads as it did. -/
def parserEqualSpec : ChangeSpec := { name := "parserEqual", fn := fun _ => fun
  | [d1, d2, d3, d4] => { results := [.lit (.bool true)], args := [d1, d2, d3, d4] }
  | _ => none }
def parserEqualRow : OpenClaim := { program := "ytjdbkncfebebnaadoor", sum := "3595566d96a4be2421a7c25beab7db5dc192bce88e4acae94df18a4b11406de0", func := "arenanet/arenanetlaw13.ParserEqual", spec := "parserEqual", inPlace := ["internal/bytealg.IndexByteString", "internal/abi.NoEscape"], unfollowed := true, recurses := true, named := ["internal/strconv.uint64pow10", "math/bits.deBruijn32tab", "math/bits.deBruijn64tab"], loops := true, apart := false, laid := [("math/bits.deBruijn32tab", laid_math_bits_deBruijn32tab), ("math/bits.deBruijn64tab", laid_math_bits_deBruijn64tab), ("internal/strconv.uint64pow10", laid_internal_strconv_uint64pow10)] }
def ParserEqualSaid : Prop := parserEqualRow.holds Tryd.pinned (OpenSpec.ofChange parserEqualSpec)

/-- ITS FALSE NEIGHBOUR: 'it returns false'. Refute it at one input. -/
def parserEqualWrong : ChangeSpec := { name := "parserEqual", fn := fun _ => fun
  | [d1, d2, d3, d4] => { results := [.lit (.bool false)], args := [d1, d2, d3, d4] }
  | _ => none }
def ParserEqualWrongFalsely : Prop := parserEqualRow.holds Tryd.pinned (OpenSpec.ofChange parserEqualWrong)

/-- 'arenanetlaw14.TypecheckPrinted': WHATEVER THE INPUT: true; the input reads as it did. -/
def typecheckPrintedSpec : ChangeSpec := { name := "typecheckPrinted", fn := fun _ => fun
  | [d] => { results := [.lit (.bool true)], args := [d] }
  | _ => none }
def typecheckPrintedRow : OpenClaim := { program := "ytjdbkncfebebnaadoor", sum := "3595566d96a4be2421a7c25beab7db5dc192bce88e4acae94df18a4b11406de0", func := "arenanet/arenanetlaw14.TypecheckPrinted", spec := "typecheckPrinted", inPlace := ["internal/abi.NoEscape", "internal/bytealg.IndexByteString"], unfollowed := true, recurses := true, named := ["internal/strconv.uint64pow10", "math/bits.deBruijn32tab", "math/bits.deBruijn64tab"], apart := false, laid := [("math/bits.deBruijn32tab", laid_math_bits_deBruijn32tab), ("math/bits.deBruijn64tab", laid_math_bits_deBruijn64tab), ("internal/strconv.uint64pow10", laid_internal_strconv_uint64pow10)] }
def TypecheckPrintedSaid : Prop := typecheckPrintedRow.holds Tryd.pinned (OpenSpec.ofChange typecheckPrintedSpec)

/-- ITS FALSE NEIGHBOUR: 'it returns false'. Refute it at one input. -/
def typecheckPrintedWrong : ChangeSpec := { name := "typecheckPrinted", fn := fun _ => fun
  | [d] => { results := [.lit (.bool false)], args := [d] }
  | _ => none }
def TypecheckPrintedWrongFalsely : Prop := typecheckPrintedRow.holds Tryd.pinned (OpenSpec.ofChange typecheckPrintedWrong)

/- THE SECOND FORM. 'bulk': how many values and letters a reading holds, each counted each time it is reached (what is shared counts as often as it is met; a slice's spare places count too). A statement '..UptoSaid' is the law's where the arguments, and the package variables that the reading takes, are together of bulk at most 1048576: NARROWER than '..Said'. Prove '..Said' where nothing that the law and all that it calls make is longer than what came in: it says more and counts as full. Else prove '..UptoSaid'. A law counts once. -/
mutual
def uptoBulk {H : Type} : DataW H → Nat
  | .lit (.string bytes) => bytes.length + 1
  | .lit _ => 1
  | .nil => 1
  | .ptr d => uptoBulk d + 1
  | .slice elems spare => uptoBulkAll elems + uptoBulkAll spare + 1
  | .agg parts => uptoBulkAll parts + 1
  | .iface _ d => uptoBulk d + 1
  | .map entries => uptoBulkEntries entries + 1
  | .held _ => 1
def uptoBulkAll {H : Type} : List (DataW H) → Nat
  | [] => 0
  | d :: r => uptoBulk d + uptoBulkAll r
def uptoBulkEntries {H : Type} : List (Lit × DataW H) → Nat
  | [] => 0
  | x :: r => uptoBulkEntry x + uptoBulkEntries r
def uptoBulkEntry {H : Type} : Lit × DataW H → Nat
  | (.string bytes, d) => bytes.length + uptoBulk d + 1
  | (_, d) => uptoBulk d + 1
 end
def uptoSmall : (H : Type) → List (DataW H) → Bool := fun _ ds => decide (uptoBulkAll ds ≤ 1048576)
def OpenSpec.upto (s : _root_.Go.ChangeSpec) : _root_.Go.OpenSpec := { _root_.Go.OpenSpec.ofChange s with cond := some uptoSmall }

/-- 'arenanetlaw15.CompileFields', WHERE WHAT IT READS IS OF BULK AT MOST 1048576: true; the input reads as it did. -/
def compileFieldsUptoRow : OpenClaim := { program := "ytjdbkncfebebnaadoor", sum := "3595566d96a4be2421a7c25beab7db5dc192bce88e4acae94df18a4b11406de0", func := "arenanet/arenanetlaw15.CompileFields", spec := "compileFields", unfollowed := true, recurses := true, named := ["arenanet/compile.effects"], apart := false, laid := [("arenanet/compile.effects", laid_arenanet_compile_effects)], narrowed := true }
def CompileFieldsUptoSaid : Prop := compileFieldsUptoRow.holds Tryd.pinned (OpenSpec.upto compileFieldsSpec)

/-- 'arenanetlaw13.ParserTail', WHERE WHAT IT READS IS OF BULK AT MOST 1048576: true; the input reads as it did. -/
def parserTailUptoRow : OpenClaim := { program := "ytjdbkncfebebnaadoor", sum := "3595566d96a4be2421a7c25beab7db5dc192bce88e4acae94df18a4b11406de0", func := "arenanet/arenanetlaw13.ParserTail", spec := "parserTail", inPlace := ["internal/bytealg.IndexByteString", "internal/abi.NoEscape"], unfollowed := true, recurses := true, named := ["internal/strconv.uint64pow10", "math/bits.deBruijn32tab", "math/bits.deBruijn64tab"], apart := false, laid := [("math/bits.deBruijn32tab", laid_math_bits_deBruijn32tab), ("math/bits.deBruijn64tab", laid_math_bits_deBruijn64tab), ("internal/strconv.uint64pow10", laid_internal_strconv_uint64pow10)], narrowed := true }
def ParserTailUptoSaid : Prop := parserTailUptoRow.holds Tryd.pinned (OpenSpec.upto parserTailSpec)

/-- 'arenanetlaw13.ParserLimits', WHERE WHAT IT READS IS OF BULK AT MOST 1048576: true; the input reads as it did. -/
def parserLimitsUptoRow : OpenClaim := { program := "ytjdbkncfebebnaadoor", sum := "3595566d96a4be2421a7c25beab7db5dc192bce88e4acae94df18a4b11406de0", func := "arenanet/arenanetlaw13.ParserLimits", spec := "parserLimits", inPlace := ["internal/bytealg.IndexByteString", "internal/abi.NoEscape"], unfollowed := true, recurses := true, named := ["internal/strconv.uint64pow10", "math/bits.deBruijn32tab", "math/bits.deBruijn64tab"], apart := false, laid := [("math/bits.deBruijn32tab", laid_math_bits_deBruijn32tab), ("math/bits.deBruijn64tab", laid_math_bits_deBruijn64tab), ("internal/strconv.uint64pow10", laid_internal_strconv_uint64pow10)], narrowed := true }
def ParserLimitsUptoSaid : Prop := parserLimitsUptoRow.holds Tryd.pinned (OpenSpec.upto parserLimitsSpec)

/-- 'arenanetlaw13.ParserRound', WHERE WHAT IT READS IS OF BULK AT MOST 1048576: true; the input reads as it did. -/
def parserRoundUptoRow : OpenClaim := { program := "ytjdbkncfebebnaadoor", sum := "3595566d96a4be2421a7c25beab7db5dc192bce88e4acae94df18a4b11406de0", func := "arenanet/arenanetlaw13.ParserRound", spec := "parserRound", inPlace := ["internal/bytealg.IndexByteString", "internal/abi.NoEscape"], unfollowed := true, recurses := true, named := ["internal/strconv.uint64pow10", "math/bits.deBruijn32tab", "math/bits.deBruijn64tab"], apart := false, laid := [("math/bits.deBruijn32tab", laid_math_bits_deBruijn32tab), ("math/bits.deBruijn64tab", laid_math_bits_deBruijn64tab), ("internal/strconv.uint64pow10", laid_internal_strconv_uint64pow10)], narrowed := true }
def ParserRoundUptoSaid : Prop := parserRoundUptoRow.holds Tryd.pinned (OpenSpec.upto parserRoundSpec)

/-- 'arenanetlaw13.ParserPrecedence', WHERE WHAT IT READS IS OF BULK AT MOST 1048576: true; the input reads as it did. -/
def parserPrecedenceUptoRow : OpenClaim := { program := "ytjdbkncfebebnaadoor", sum := "3595566d96a4be2421a7c25beab7db5dc192bce88e4acae94df18a4b11406de0", func := "arenanet/arenanetlaw13.ParserPrecedence", spec := "parserPrecedence", inPlace := ["internal/bytealg.IndexByteString", "internal/abi.NoEscape"], unfollowed := true, recurses := true, named := ["internal/strconv.uint64pow10", "math/bits.deBruijn32tab", "math/bits.deBruijn64tab"], apart := false, laid := [("math/bits.deBruijn32tab", laid_math_bits_deBruijn32tab), ("math/bits.deBruijn64tab", laid_math_bits_deBruijn64tab), ("internal/strconv.uint64pow10", laid_internal_strconv_uint64pow10)], narrowed := true }
def ParserPrecedenceUptoSaid : Prop := parserPrecedenceUptoRow.holds Tryd.pinned (OpenSpec.upto parserPrecedenceSpec)

/-- 'arenanetlaw13.ParserOrder', WHERE WHAT IT READS IS OF BULK AT MOST 1048576: true; the input reads as it did. -/
def parserOrderUptoRow : OpenClaim := { program := "ytjdbkncfebebnaadoor", sum := "3595566d96a4be2421a7c25beab7db5dc192bce88e4acae94df18a4b11406de0", func := "arenanet/arenanetlaw13.ParserOrder", spec := "parserOrder", inPlace := ["internal/bytealg.IndexByteString", "internal/abi.NoEscape"], unfollowed := true, recurses := true, named := ["internal/strconv.uint64pow10", "math/bits.deBruijn32tab", "math/bits.deBruijn64tab"], apart := false, laid := [("math/bits.deBruijn32tab", laid_math_bits_deBruijn32tab), ("math/bits.deBruijn64tab", laid_math_bits_deBruijn64tab), ("internal/strconv.uint64pow10", laid_internal_strconv_uint64pow10)], narrowed := true }
def ParserOrderUptoSaid : Prop := parserOrderUptoRow.holds Tryd.pinned (OpenSpec.upto parserOrderSpec)

/-- 'arenanetlaw13.ParserEqual', WHERE WHAT IT READS IS OF BULK AT MOST 1048576: true; the input reads as it did. -/
def parserEqualUptoRow : OpenClaim := { program := "ytjdbkncfebebnaadoor", sum := "3595566d96a4be2421a7c25beab7db5dc192bce88e4acae94df18a4b11406de0", func := "arenanet/arenanetlaw13.ParserEqual", spec := "parserEqual", inPlace := ["internal/bytealg.IndexByteString", "internal/abi.NoEscape"], unfollowed := true, recurses := true, named := ["internal/strconv.uint64pow10", "math/bits.deBruijn32tab", "math/bits.deBruijn64tab"], loops := true, apart := false, laid := [("math/bits.deBruijn32tab", laid_math_bits_deBruijn32tab), ("math/bits.deBruijn64tab", laid_math_bits_deBruijn64tab), ("internal/strconv.uint64pow10", laid_internal_strconv_uint64pow10)], narrowed := true }
def ParserEqualUptoSaid : Prop := parserEqualUptoRow.holds Tryd.pinned (OpenSpec.upto parserEqualSpec)

/-- 'arenanetlaw14.TypecheckPrinted', WHERE WHAT IT READS IS OF BULK AT MOST 1048576: true; the input reads as it did. -/
def typecheckPrintedUptoRow : OpenClaim := { program := "ytjdbkncfebebnaadoor", sum := "3595566d96a4be2421a7c25beab7db5dc192bce88e4acae94df18a4b11406de0", func := "arenanet/arenanetlaw14.TypecheckPrinted", spec := "typecheckPrinted", inPlace := ["internal/abi.NoEscape", "internal/bytealg.IndexByteString"], unfollowed := true, recurses := true, named := ["internal/strconv.uint64pow10", "math/bits.deBruijn32tab", "math/bits.deBruijn64tab"], apart := false, laid := [("math/bits.deBruijn32tab", laid_math_bits_deBruijn32tab), ("math/bits.deBruijn64tab", laid_math_bits_deBruijn64tab), ("internal/strconv.uint64pow10", laid_internal_strconv_uint64pow10)], narrowed := true }
def TypecheckPrintedUptoSaid : Prop := typecheckPrintedUptoRow.holds Tryd.pinned (OpenSpec.upto typecheckPrintedSpec)

end Rows
end Go.Proofs.YtjdbkncfebebnaaDoor
