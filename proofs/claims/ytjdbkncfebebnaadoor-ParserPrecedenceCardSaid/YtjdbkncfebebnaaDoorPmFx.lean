/- The abstract machine's program, printed by a program of our own: group x. The abstract machine's programs: tables of functions. Chapter 13's printer: the builder of strings, tokens put down. Chapter 13's printer: tokens put down. The printers: levels, tokens of good trees. No program in sight. The abstract machine's program, printed by a program of our own: group 3r. The abstract machine's programs: tables of functions. Chapter 13's reference parser: letters, digits, rows of strings, numbers. Chapter 13's reference parser: white space, comments. Chapter 13's reference parser: a token. Chapter 13's reference parser: all tokens of a source. Chapter 13's reference parser: the parser's state; what it looks at, takes, expects. Chapter 13's reference parser: its states, good and behind an error, against the plain tokens. Chapter 13's reference parser: each kind of statement. Chapter 13's reference parser: handlers; a whole source. Chapter 13's reference parser: Parse is the plain one. The rule language in plain Lean: texts of tokens; tokens left out; how long a source is. No program in sight. The rule language in plain Lean: what the parser makes of expressions is good, no deeper, no longer. No program in sight. The rule language in plain Lean: tokens with white space and comments between them. No program in sight. The rule language in plain Lean: what Parse makes of a source is good and no longer; printed, it is read back. No program in sight. The reference's names. The code's names: a round of the range. The abstract machine's program, printed by a program of our own: group 01. The abstract machine's program, printed by a program of our own: group 3g. The abstract machine's program, printed by a program of our own: group 5. The abstract machine's programs: tables of functions. What a tree costs written down: bytes and tokens. No program in sight. -/
import Derived.Test.YtjdbkncfebebnaaDoorPmYh
import Derived.Test.YtjdbkncfebebnaaDoorPmF3
import Derived.Test.YtjdbkncfebebnaaDoorPmEt
import Derived.Test.YtjdbkncfebebnaaDoorPmY
set_option linter.unusedSimpArgs false
set_option linter.unusedVariables false
section SFx
namespace Go.Pm.F
variable (C:Task->Option Res) (q:Nat) (fr:Fr) (σ : S)
def G_internal_strconv_uint64pow10:List D:=(List.range 20).map fun i => .lit (.int .u64 (10 ^ i:Nat))
def F245:PFun:=⟨1,[.tmp 2],.seq (rn [jj 2 (.mov (.c (.string ⟨#[]⟩)))] [0]) (.seq (.region (some []) [mv 3 0,nc 4 3,fa 5 1 4,l1 6 5,jj 7 (.usd (.t 6)),mv 8 0,nc 9 8,fa 10 1 9,l1 11 10,ls 12 11,jj 13 (.ustr [3] (.t 7) (.t 12)),mv 2 13] [2]) (.ret)),false,false,false⟩
def F258:PFun:=⟨2,[.tmp 4],.seq (rn [jj 4 (.mov (.c .nilIface))] [0,1]) (.seq (rn [mv 5 0,cl 6 272 [5]] [0,1]) (.seq (rn [mv 7 0,mv 8 0,nc 9 8,fa 10 1 9,l1 11 10,mv 12 1,jj 13 (.bsliceO 1 1 [(.lit (.int .u8 0))] [(0,1,(.t 12))]),jj 14 (.appendT 3 1 1 (.t 11) (.t 13)),nc 15 7,fa 16 1 15,st 1 16 14] []) (.seq (rn [jj 4 (.mov (.c .nilIface))] [4]) (.ret)))),false,false,false⟩
def F259:PFun:=⟨2,[.tmp 4,.tmp 5],.seq (rn [mx 4 (kk 0),jj 5 (.mov (.c .nilIface))] [0,1]) (.seq (rn [mv 6 0,cl 7 272 [6]] [0,1]) (.seq (rn [mv 8 0,mv 9 0,nc 10 9,fa 11 1 10,l1 12 11,mv 13 1,jj 14 (.appendT 3 1 1 (.t 12) (.t 13)),nc 15 8,fa 16 1 15,st 1 16 14] [1]) (.seq (rn [mv 17 1,lz 18 17,mv 4 18,jj 5 (.mov (.c .nilIface))] [4,5]) (.ret)))),false,false,false⟩
def F268:PFun:=⟨2,[.tmp 4],.seq (rn [mx 4 (kk 0)] [0,1]) (.seq (rn [mv 5 0,mv 6 1,cl 7 275 [5,6],mv 4 7] [4]) (.ret)),false,false,false⟩
def F272:PFun:=⟨1,[],.seq (rn [mv 2 0,nc 3 2,fa 4 0 3,l1 5 4,jj 6 (.isnil true false (.t 5))] [0,6]) (.cond (.t 6) (rn [mv 7 0,mv 8 0,jj 9 (.up (.t 8)),mv 10 9,jj 11 (.down [(4,3)] (.t 10)),nc 12 7,fa 13 0 12,st 1 13 11] []) (.seq (rn [mv 14 0,nc 15 14,fa 16 0 15,l1 17 16,mv 18 0,jj 19 (.peq true (.t 17) (.t 18))] [19]) (.cond (.t 19) (.cond (.c .nilIface) (.skip) (.skip)) (.skip)))),false,false,false⟩
def F275:PFun:=⟨2,[.tmp 4],.seq (rn [mx 4 (kk 0)] [0,1]) (.seq (rn [mv 5 0,mv 6 1,jj 7 (.idxb (.t 5) (.t 6)),mv 4 7] [4]) (.ret)),false,false,false⟩
def F276:PFun:=⟨2,[.tmp 4],.seq (rn [mx 4 kF] [0,1]) (.seq (rn [mv 5 0,mv 6 1,cl 7 284 [5,6],bk 8 .geq 7 0,mv 4 8] [4]) (.ret)),false,false,false⟩
def F283:PFun:=⟨1,[.tmp 2],.seq (rn [jj 2 (.mov (.c (.string ⟨#[]⟩)))] [0]) (.seq (rn [mv 3 0,cl 4 288 [3],mv 2 4] [2]) (.ret)),false,false,false⟩
@[simp] def F284l0x:PC:=(.seq (rn [bn 9 .lss 8 7] [0,1,7,8,9]) (.seq (.cond (.t 9) (.skip) (.exit 0)) (.seq (.block 1 (.seq (rn [mv 10 8,mv 5 10] [0,1,5,7,8]) (.seq (rn [mv 11 1,mv 12 0,mv 13 5,jj 14 (.indexAddr 1 (.t 12) (.t 13)),l1 15 14,bn 16 .eql 11 15] [0,1,5,7,8,16]) (.cond (.t 16) (.seq (rn [mv 17 5,mv 4 17] [4]) (.ret)) (.skip))))) (rn [bk 18 .add 8 1,mv 8 18] [0,1,7,8]))))
def F284l0:PC:=F284l0x
theorem qd9:run C q F284l0 fr σ = run C q F284l0x fr σ := rfl
def F284:PFun:=⟨2,[.tmp 4],.seq (rn [mx 4 (kk 0)] [0,1]) (.seq (.seq (rn [mv 6 0,ls 7 6,mx 8 (kk 0)] [0,1,7,8]) (.block 0 (.loop F284l0))) (.seq (rn [mx 4 (kk (-1))] [4]) (.ret))),false,false,false⟩
def F288:PFun:=⟨1,[.tmp 2],.seq (rn [jj 2 (.mov (.c (.string ⟨#[]⟩)))] [0]) (.seq (rn [mv 3 0,jj 4 (.call 291 [(.t 3),(kk 10)]),mv 2 4] [2]) (.ret)),false,false,false⟩
def F291:PFun:=⟨2,[.tmp 4],.seq (rn [jj 4 (.mov (.c (.string ⟨#[]⟩)))] [0,1]) (.seq (.seq (rn [mv 10 1,bk 11 .eql 10 10] [0,1,11]) (.cond (.t 11) (.seq (.seq (rn [mv 12 0,jj 13 (.bin .leq (kk 0) (.t 12)),mv 14 13,jt 15 14 (.mov (.t 0)),jt 16 14 (.bin .lss (.t 15) (kk 100)),jj 17 (.pick (.t 14) (.t 16) kF)] [0,17]) (.cond (.t 17) (.seq (rn [mv 18 0,cl 19 293 [18],mv 4 19] [4]) (.ret)) (.skip))) (.seq (rn [jj 5 (.alloc [(.lit (.int .u8 0)),(.lit (.int .u8 0)),(.lit (.int .u8 0)),(.lit (.int .u8 0)),(.lit (.int .u8 0)),(.lit (.int .u8 0)),(.lit (.int .u8 0)),(.lit (.int .u8 0)),(.lit (.int .u8 0)),(.lit (.int .u8 0)),(.lit (.int .u8 0)),(.lit (.int .u8 0)),(.lit (.int .u8 0)),(.lit (.int .u8 0)),(.lit (.int .u8 0)),(.lit (.int .u8 0)),(.lit (.int .u8 0)),(.lit (.int .u8 0)),(.lit (.int .u8 0)),(.lit (.int .u8 0)),(.lit (.int .u8 0)),(.lit (.int .u8 0)),(.lit (.int .u8 0)),(.lit (.int .u8 0))])] [0,5]) (.seq (rn [mv 20 0,jj 21 (.conv (.int .u64) (.t 20)),mv 6 21] [0,5,6]) (.seq (.seq (rn [mv 22 0,bk 23 .lss 22 0] [0,5,6,23]) (.cond (.t 23) (rn [mv 24 6,jj 25 (.un .neg (.t 24)),mv 6 25] [0,5,6]) (.skip))) (.seq (rn [mv 26 6,cl 27 294 [26],mv 7 27] [0,5,6,7]) (.seq (rn [mv 28 7,jj 29 (.bin .add (kk 1) (.t 28)),jj 30 (.sliceA 24 1 (.t 5) (some (kk 1)) (some (.t 29))),mv 31 6,cl 32 295 [30,31]] [0,5,7]) (.seq (.seq (rn [mv 33 0,bk 34 .lss 33 0] [5,7,34]) (.cond (.t 34) (.seq (rn [jj 35 (.indexAddrA 24 1 (.t 5) (kk 0)),jn (.store 1 (.t 35) (.c (.int .u8 45)))] [5,7]) (.seq (rn [mv 36 7,jj 37 (.bin .add (kk 1) (.t 36)),jj 38 (.sliceA 24 1 (.t 5) none (some (.t 37))),jj 39 (.bstr (.t 38)),mv 4 39] [4]) (.ret))) (.skip))) (.seq (rn [mv 40 7,jj 41 (.bin .add (kk 1) (.t 40)),jj 42 (.sliceA 24 1 (.t 5) (some (kk 1)) (some (.t 41))),jj 43 (.bstr (.t 42)),mv 4 43] [4]) (.ret))))))))) (.skip))) (.seq (rn [mv 45 0,jj 46 (.conv (.int .u64) (.t 45)),mv 47 1,mv 48 0,bk 49 .lss 48 0,jj 50 (.call 296 [(.c (.slice none 0 0)),(.t 46),(.t 47),(.t 49),kF]),mv 44 50,ex 51 44 0,ex 52 44 1,mv 8 51,mv 9 52] [9]) (.seq (rn [mv 53 9,mv 4 53] [4]) (.ret)))),false,false,false⟩
def F293:PFun:=⟨1,[.tmp 2],.seq (rn [jj 2 (.mov (.c (.string ⟨#[]⟩)))] [0]) (.seq (.seq (rn [mv 3 0,bk 4 .lss 3 10] [0,4]) (.cond (.t 4) (.seq (rn [mv 5 0,mv 6 0,bk 7 .add 6 1,jj 8 (.sliceS (.c (.string ⟨#[48,49,50,51,52,53,54,55,56,57,97,98,99,100,101,102,103,104,105,106,107,108,109,110,111,112,113,114,115,116,117,118,119,120,121,122]⟩)) (some (.t 5)) (some (.t 7))),mv 2 8] [2]) (.ret)) (.skip))) (.seq (rn [mv 9 0,bk 10 .mul 9 2,mv 11 0,bk 12 .mul 11 2,bk 13 .add 12 2,jj 14 (.sliceS (.c (.string ⟨#[48,48,48,49,48,50,48,51,48,52,48,53,48,54,48,55,48,56,48,57,49,48,49,49,49,50,49,51,49,52,49,53,49,54,49,55,49,56,49,57,50,48,50,49,50,50,50,51,50,52,50,53,50,54,50,55,50,56,50,57,51,48,51,49,51,50,51,51,51,52,51,53,51,54,51,55,51,56,51,57,52,48,52,49,52,50,52,51,52,52,52,53,52,54,52,55,52,56,52,57,53,48,53,49,53,50,53,51,53,52,53,53,53,54,53,55,53,56,53,57,54,48,54,49,54,50,54,51,54,52,54,53,54,54,54,55,54,56,54,57,55,48,55,49,55,50,55,51,55,52,55,53,55,54,55,55,55,56,55,57,56,48,56,49,56,50,56,51,56,52,56,53,56,54,56,55,56,56,56,57,57,48,57,49,57,50,57,51,57,52,57,53,57,54,57,55,57,56,57,57]⟩)) (some (.t 10)) (some (.t 13))),mv 2 14] [2]) (.ret))),false,false,false⟩
def F294:PFun:=⟨1,[.tmp 2],.seq (rn [mx 2 (kk 0)] [0]) (.seq (rn [mv 4 0,cl 5 299 [4],cl 6 298 [5],mv 3 6] [0,3]) (.seq (rn [mv 7 3,mv 8 0,mv 9 3,jj 10 (.indexAddrA 20 1 (.g G_internal_strconv_uint64pow10) (.t 9)),l1 11 10,bn 12 .geq 8 11,cl 13 300 [12],bn 14 .add 7 13,mv 2 14] [2]) (.ret))),false,false,false⟩
@[simp] def F295l0x:PC:=(.seq (.seq (rn [mv 19 4,bk 20 .geq 19 8] [0,1,4,20]) (.cond (.t 20) (.skip) (.exit 0))) (.block 1 (.seq (rn [mv 21 1,jj 22 (.bin .rem (.t 21) (.c (.int .u64 100000000))),jj 23 (.conv (.int .u32) (.t 22)),mv 5 23] [0,1,4,5]) (.seq (rn [mv 24 1,jj 25 (.bin .quo (.t 24) (.c (.int .u64 100000000))),mv 1 25] [0,1,4,5]) (.seq (rn [mv 26 5,jj 27 (.bin .quo (.t 26) (.c (.int .u32 10000))),mv 28 5,jj 29 (.bin .rem (.t 28) (.c (.int .u32 10000))),mv 6 27,mv 7 29] [0,1,4,6,7]) (.seq (rn [mv 30 7,jj 31 (.bin .quo (.t 30) (.c (.int .u32 100))),jj 32 (.bin .mul (.t 31) (.c (.int .u32 2))),mv 33 7,jj 34 (.bin .rem (.t 33) (.c (.int .u32 100))),jj 35 (.bin .mul (.t 34) (.c (.int .u32 2))),mv 8 32,mv 9 35] [0,1,4,6,8,9]) (.seq (rn [mv 36 6,jj 37 (.bin .quo (.t 36) (.c (.int .u32 100))),jj 38 (.bin .mul (.t 37) (.c (.int .u32 2))),mv 39 6,jj 40 (.bin .rem (.t 39) (.c (.int .u32 100))),jj 41 (.bin .mul (.t 40) (.c (.int .u32 2))),mv 10 38,mv 11 41] [0,1,4,8,9,10,11]) (.seq (.region (some []) [mv 42 0,mv 43 4,bk 44 .sub 43 1,mv 45 0,mv 46 4,bk 47 .sub 46 2,mv 48 9,jj 49 (.bin .add (.t 48) (.c (.int .u32 1))),jj 50 (.indexS (.c (.string ⟨#[48,48,48,49,48,50,48,51,48,52,48,53,48,54,48,55,48,56,48,57,49,48,49,49,49,50,49,51,49,52,49,53,49,54,49,55,49,56,49,57,50,48,50,49,50,50,50,51,50,52,50,53,50,54,50,55,50,56,50,57,51,48,51,49,51,50,51,51,51,52,51,53,51,54,51,55,51,56,51,57,52,48,52,49,52,50,52,51,52,52,52,53,52,54,52,55,52,56,52,57,53,48,53,49,53,50,53,51,53,52,53,53,53,54,53,55,53,56,53,57,54,48,54,49,54,50,54,51,54,52,54,53,54,54,54,55,54,56,54,57,55,48,55,49,55,50,55,51,55,52,55,53,55,54,55,55,55,56,55,57,56,48,56,49,56,50,56,51,56,52,56,53,56,54,56,55,56,56,56,57,57,48,57,49,57,50,57,51,57,52,57,53,57,54,57,55,57,56,57,57]⟩)) (.t 49)),mv 51 9,jj 52 (.indexS (.c (.string ⟨#[48,48,48,49,48,50,48,51,48,52,48,53,48,54,48,55,48,56,48,57,49,48,49,49,49,50,49,51,49,52,49,53,49,54,49,55,49,56,49,57,50,48,50,49,50,50,50,51,50,52,50,53,50,54,50,55,50,56,50,57,51,48,51,49,51,50,51,51,51,52,51,53,51,54,51,55,51,56,51,57,52,48,52,49,52,50,52,51,52,52,52,53,52,54,52,55,52,56,52,57,53,48,53,49,53,50,53,51,53,52,53,53,53,54,53,55,53,56,53,57,54,48,54,49,54,50,54,51,54,52,54,53,54,54,54,55,54,56,54,57,55,48,55,49,55,50,55,51,55,52,55,53,55,54,55,55,55,56,55,57,56,48,56,49,56,50,56,51,56,52,56,53,56,54,56,55,56,56,56,57,57,48,57,49,57,50,57,51,57,52,57,53,57,54,57,55,57,56,57,57]⟩)) (.t 51)),jj 53 (.indexAddr 1 (.t 42) (.t 44)),st 1 53 50,jj 54 (.indexAddr 1 (.t 45) (.t 47)),st 1 54 52] [0,1,4,8,10,11]) (.seq (.region (some []) [mv 55 0,mv 56 4,bk 57 .sub 56 3,mv 58 0,mv 59 4,bk 60 .sub 59 4,mv 61 8,jj 62 (.bin .add (.t 61) (.c (.int .u32 1))),jj 63 (.indexS (.c (.string ⟨#[48,48,48,49,48,50,48,51,48,52,48,53,48,54,48,55,48,56,48,57,49,48,49,49,49,50,49,51,49,52,49,53,49,54,49,55,49,56,49,57,50,48,50,49,50,50,50,51,50,52,50,53,50,54,50,55,50,56,50,57,51,48,51,49,51,50,51,51,51,52,51,53,51,54,51,55,51,56,51,57,52,48,52,49,52,50,52,51,52,52,52,53,52,54,52,55,52,56,52,57,53,48,53,49,53,50,53,51,53,52,53,53,53,54,53,55,53,56,53,57,54,48,54,49,54,50,54,51,54,52,54,53,54,54,54,55,54,56,54,57,55,48,55,49,55,50,55,51,55,52,55,53,55,54,55,55,55,56,55,57,56,48,56,49,56,50,56,51,56,52,56,53,56,54,56,55,56,56,56,57,57,48,57,49,57,50,57,51,57,52,57,53,57,54,57,55,57,56,57,57]⟩)) (.t 62)),mv 64 8,jj 65 (.indexS (.c (.string ⟨#[48,48,48,49,48,50,48,51,48,52,48,53,48,54,48,55,48,56,48,57,49,48,49,49,49,50,49,51,49,52,49,53,49,54,49,55,49,56,49,57,50,48,50,49,50,50,50,51,50,52,50,53,50,54,50,55,50,56,50,57,51,48,51,49,51,50,51,51,51,52,51,53,51,54,51,55,51,56,51,57,52,48,52,49,52,50,52,51,52,52,52,53,52,54,52,55,52,56,52,57,53,48,53,49,53,50,53,51,53,52,53,53,53,54,53,55,53,56,53,57,54,48,54,49,54,50,54,51,54,52,54,53,54,54,54,55,54,56,54,57,55,48,55,49,55,50,55,51,55,52,55,53,55,54,55,55,55,56,55,57,56,48,56,49,56,50,56,51,56,52,56,53,56,54,56,55,56,56,56,57,57,48,57,49,57,50,57,51,57,52,57,53,57,54,57,55,57,56,57,57]⟩)) (.t 64)),jj 66 (.indexAddr 1 (.t 55) (.t 57)),st 1 66 63,jj 67 (.indexAddr 1 (.t 58) (.t 60)),st 1 67 65] [0,1,4,10,11]) (.seq (.region (some []) [mv 68 0,mv 69 4,bk 70 .sub 69 5,mv 71 0,mv 72 4,bk 73 .sub 72 6,mv 74 11,jj 75 (.bin .add (.t 74) (.c (.int .u32 1))),jj 76 (.indexS (.c (.string ⟨#[48,48,48,49,48,50,48,51,48,52,48,53,48,54,48,55,48,56,48,57,49,48,49,49,49,50,49,51,49,52,49,53,49,54,49,55,49,56,49,57,50,48,50,49,50,50,50,51,50,52,50,53,50,54,50,55,50,56,50,57,51,48,51,49,51,50,51,51,51,52,51,53,51,54,51,55,51,56,51,57,52,48,52,49,52,50,52,51,52,52,52,53,52,54,52,55,52,56,52,57,53,48,53,49,53,50,53,51,53,52,53,53,53,54,53,55,53,56,53,57,54,48,54,49,54,50,54,51,54,52,54,53,54,54,54,55,54,56,54,57,55,48,55,49,55,50,55,51,55,52,55,53,55,54,55,55,55,56,55,57,56,48,56,49,56,50,56,51,56,52,56,53,56,54,56,55,56,56,56,57,57,48,57,49,57,50,57,51,57,52,57,53,57,54,57,55,57,56,57,57]⟩)) (.t 75)),mv 77 11,jj 78 (.indexS (.c (.string ⟨#[48,48,48,49,48,50,48,51,48,52,48,53,48,54,48,55,48,56,48,57,49,48,49,49,49,50,49,51,49,52,49,53,49,54,49,55,49,56,49,57,50,48,50,49,50,50,50,51,50,52,50,53,50,54,50,55,50,56,50,57,51,48,51,49,51,50,51,51,51,52,51,53,51,54,51,55,51,56,51,57,52,48,52,49,52,50,52,51,52,52,52,53,52,54,52,55,52,56,52,57,53,48,53,49,53,50,53,51,53,52,53,53,53,54,53,55,53,56,53,57,54,48,54,49,54,50,54,51,54,52,54,53,54,54,54,55,54,56,54,57,55,48,55,49,55,50,55,51,55,52,55,53,55,54,55,55,55,56,55,57,56,48,56,49,56,50,56,51,56,52,56,53,56,54,56,55,56,56,56,57,57,48,57,49,57,50,57,51,57,52,57,53,57,54,57,55,57,56,57,57]⟩)) (.t 77)),jj 79 (.indexAddr 1 (.t 68) (.t 70)),st 1 79 76,jj 80 (.indexAddr 1 (.t 71) (.t 73)),st 1 80 78] [0,1,4,10]) (.seq (.region (some []) [mv 81 0,mv 82 4,bk 83 .sub 82 7,mv 84 0,mv 85 4,bk 86 .sub 85 8,mv 87 10,jj 88 (.bin .add (.t 87) (.c (.int .u32 1))),jj 89 (.indexS (.c (.string ⟨#[48,48,48,49,48,50,48,51,48,52,48,53,48,54,48,55,48,56,48,57,49,48,49,49,49,50,49,51,49,52,49,53,49,54,49,55,49,56,49,57,50,48,50,49,50,50,50,51,50,52,50,53,50,54,50,55,50,56,50,57,51,48,51,49,51,50,51,51,51,52,51,53,51,54,51,55,51,56,51,57,52,48,52,49,52,50,52,51,52,52,52,53,52,54,52,55,52,56,52,57,53,48,53,49,53,50,53,51,53,52,53,53,53,54,53,55,53,56,53,57,54,48,54,49,54,50,54,51,54,52,54,53,54,54,54,55,54,56,54,57,55,48,55,49,55,50,55,51,55,52,55,53,55,54,55,55,55,56,55,57,56,48,56,49,56,50,56,51,56,52,56,53,56,54,56,55,56,56,56,57,57,48,57,49,57,50,57,51,57,52,57,53,57,54,57,55,57,56,57,57]⟩)) (.t 88)),mv 90 10,jj 91 (.indexS (.c (.string ⟨#[48,48,48,49,48,50,48,51,48,52,48,53,48,54,48,55,48,56,48,57,49,48,49,49,49,50,49,51,49,52,49,53,49,54,49,55,49,56,49,57,50,48,50,49,50,50,50,51,50,52,50,53,50,54,50,55,50,56,50,57,51,48,51,49,51,50,51,51,51,52,51,53,51,54,51,55,51,56,51,57,52,48,52,49,52,50,52,51,52,52,52,53,52,54,52,55,52,56,52,57,53,48,53,49,53,50,53,51,53,52,53,53,53,54,53,55,53,56,53,57,54,48,54,49,54,50,54,51,54,52,54,53,54,54,54,55,54,56,54,57,55,48,55,49,55,50,55,51,55,52,55,53,55,54,55,55,55,56,55,57,56,48,56,49,56,50,56,51,56,52,56,53,56,54,56,55,56,56,56,57,57,48,57,49,57,50,57,51,57,52,57,53,57,54,57,55,57,56,57,57]⟩)) (.t 90)),jj 92 (.indexAddr 1 (.t 81) (.t 83)),st 1 92 89,jj 93 (.indexAddr 1 (.t 84) (.t 86)),st 1 93 91] [0,1,4]) (rn [mv 94 4,bk 95 .sub 94 8,mv 4 95] [0,1,4]))))))))))))
def F295l0:PC:=F295l0x
def F295:PFun:=⟨2,[],.seq (rn [mv 17 0,ls 18 17,mv 4 18] [0,1,4]) (.seq (.block 0 (.loop F295l0)) (.seq (rn [mv 96 1,jj 97 (.conv (.int .u32) (.t 96)),mv 12 97] [0,4,12]) (.seq (.seq (rn [mv 98 4,bk 99 .geq 98 4] [0,4,12,99]) (.cond (.t 99) (.seq (rn [mv 100 12,jj 101 (.bin .rem (.t 100) (.c (.int .u32 10000))),mv 13 101] [0,4,12,13]) (.seq (rn [mv 102 12,jj 103 (.bin .quo (.t 102) (.c (.int .u32 10000))),mv 12 103] [0,4,12,13]) (.seq (rn [mv 104 13,jj 105 (.bin .quo (.t 104) (.c (.int .u32 100))),jj 106 (.bin .mul (.t 105) (.c (.int .u32 2))),mv 107 13,jj 108 (.bin .rem (.t 107) (.c (.int .u32 100))),jj 109 (.bin .mul (.t 108) (.c (.int .u32 2))),mv 14 106,mv 15 109] [0,4,12,14,15]) (.seq (.region (some []) [mv 110 0,mv 111 4,bk 112 .sub 111 1,mv 113 0,mv 114 4,bk 115 .sub 114 2,mv 116 15,jj 117 (.bin .add (.t 116) (.c (.int .u32 1))),jj 118 (.indexS (.c (.string ⟨#[48,48,48,49,48,50,48,51,48,52,48,53,48,54,48,55,48,56,48,57,49,48,49,49,49,50,49,51,49,52,49,53,49,54,49,55,49,56,49,57,50,48,50,49,50,50,50,51,50,52,50,53,50,54,50,55,50,56,50,57,51,48,51,49,51,50,51,51,51,52,51,53,51,54,51,55,51,56,51,57,52,48,52,49,52,50,52,51,52,52,52,53,52,54,52,55,52,56,52,57,53,48,53,49,53,50,53,51,53,52,53,53,53,54,53,55,53,56,53,57,54,48,54,49,54,50,54,51,54,52,54,53,54,54,54,55,54,56,54,57,55,48,55,49,55,50,55,51,55,52,55,53,55,54,55,55,55,56,55,57,56,48,56,49,56,50,56,51,56,52,56,53,56,54,56,55,56,56,56,57,57,48,57,49,57,50,57,51,57,52,57,53,57,54,57,55,57,56,57,57]⟩)) (.t 117)),mv 119 15,jj 120 (.indexS (.c (.string ⟨#[48,48,48,49,48,50,48,51,48,52,48,53,48,54,48,55,48,56,48,57,49,48,49,49,49,50,49,51,49,52,49,53,49,54,49,55,49,56,49,57,50,48,50,49,50,50,50,51,50,52,50,53,50,54,50,55,50,56,50,57,51,48,51,49,51,50,51,51,51,52,51,53,51,54,51,55,51,56,51,57,52,48,52,49,52,50,52,51,52,52,52,53,52,54,52,55,52,56,52,57,53,48,53,49,53,50,53,51,53,52,53,53,53,54,53,55,53,56,53,57,54,48,54,49,54,50,54,51,54,52,54,53,54,54,54,55,54,56,54,57,55,48,55,49,55,50,55,51,55,52,55,53,55,54,55,55,55,56,55,57,56,48,56,49,56,50,56,51,56,52,56,53,56,54,56,55,56,56,56,57,57,48,57,49,57,50,57,51,57,52,57,53,57,54,57,55,57,56,57,57]⟩)) (.t 119)),jj 121 (.indexAddr 1 (.t 110) (.t 112)),st 1 121 118,jj 122 (.indexAddr 1 (.t 113) (.t 115)),st 1 122 120] [0,4,12,14]) (.seq (.region (some []) [mv 123 0,mv 124 4,bk 125 .sub 124 3,mv 126 0,mv 127 4,bk 128 .sub 127 4,mv 129 14,jj 130 (.bin .add (.t 129) (.c (.int .u32 1))),jj 131 (.indexS (.c (.string ⟨#[48,48,48,49,48,50,48,51,48,52,48,53,48,54,48,55,48,56,48,57,49,48,49,49,49,50,49,51,49,52,49,53,49,54,49,55,49,56,49,57,50,48,50,49,50,50,50,51,50,52,50,53,50,54,50,55,50,56,50,57,51,48,51,49,51,50,51,51,51,52,51,53,51,54,51,55,51,56,51,57,52,48,52,49,52,50,52,51,52,52,52,53,52,54,52,55,52,56,52,57,53,48,53,49,53,50,53,51,53,52,53,53,53,54,53,55,53,56,53,57,54,48,54,49,54,50,54,51,54,52,54,53,54,54,54,55,54,56,54,57,55,48,55,49,55,50,55,51,55,52,55,53,55,54,55,55,55,56,55,57,56,48,56,49,56,50,56,51,56,52,56,53,56,54,56,55,56,56,56,57,57,48,57,49,57,50,57,51,57,52,57,53,57,54,57,55,57,56,57,57]⟩)) (.t 130)),mv 132 14,jj 133 (.indexS (.c (.string ⟨#[48,48,48,49,48,50,48,51,48,52,48,53,48,54,48,55,48,56,48,57,49,48,49,49,49,50,49,51,49,52,49,53,49,54,49,55,49,56,49,57,50,48,50,49,50,50,50,51,50,52,50,53,50,54,50,55,50,56,50,57,51,48,51,49,51,50,51,51,51,52,51,53,51,54,51,55,51,56,51,57,52,48,52,49,52,50,52,51,52,52,52,53,52,54,52,55,52,56,52,57,53,48,53,49,53,50,53,51,53,52,53,53,53,54,53,55,53,56,53,57,54,48,54,49,54,50,54,51,54,52,54,53,54,54,54,55,54,56,54,57,55,48,55,49,55,50,55,51,55,52,55,53,55,54,55,55,55,56,55,57,56,48,56,49,56,50,56,51,56,52,56,53,56,54,56,55,56,56,56,57,57,48,57,49,57,50,57,51,57,52,57,53,57,54,57,55,57,56,57,57]⟩)) (.t 132)),jj 134 (.indexAddr 1 (.t 123) (.t 125)),st 1 134 131,jj 135 (.indexAddr 1 (.t 126) (.t 128)),st 1 135 133] [0,4,12]) (rn [mv 136 4,bk 137 .sub 136 4,mv 4 137] [0,4,12])))))) (.skip))) (.seq (.seq (rn [mv 138 4,bk 139 .geq 138 2] [0,4,12,139]) (.cond (.t 139) (.seq (rn [mv 140 12,jj 141 (.bin .rem (.t 140) (.c (.int .u32 100))),jj 142 (.bin .mul (.t 141) (.c (.int .u32 2))),mv 16 142] [0,4,12,16]) (.seq (rn [mv 143 12,jj 144 (.bin .quo (.t 143) (.c (.int .u32 100))),mv 12 144] [0,4,12,16]) (.seq (.region (some []) [mv 145 0,mv 146 4,bk 147 .sub 146 1,mv 148 0,mv 149 4,bk 150 .sub 149 2,mv 151 16,jj 152 (.bin .add (.t 151) (.c (.int .u32 1))),jj 153 (.indexS (.c (.string ⟨#[48,48,48,49,48,50,48,51,48,52,48,53,48,54,48,55,48,56,48,57,49,48,49,49,49,50,49,51,49,52,49,53,49,54,49,55,49,56,49,57,50,48,50,49,50,50,50,51,50,52,50,53,50,54,50,55,50,56,50,57,51,48,51,49,51,50,51,51,51,52,51,53,51,54,51,55,51,56,51,57,52,48,52,49,52,50,52,51,52,52,52,53,52,54,52,55,52,56,52,57,53,48,53,49,53,50,53,51,53,52,53,53,53,54,53,55,53,56,53,57,54,48,54,49,54,50,54,51,54,52,54,53,54,54,54,55,54,56,54,57,55,48,55,49,55,50,55,51,55,52,55,53,55,54,55,55,55,56,55,57,56,48,56,49,56,50,56,51,56,52,56,53,56,54,56,55,56,56,56,57,57,48,57,49,57,50,57,51,57,52,57,53,57,54,57,55,57,56,57,57]⟩)) (.t 152)),mv 154 16,jj 155 (.indexS (.c (.string ⟨#[48,48,48,49,48,50,48,51,48,52,48,53,48,54,48,55,48,56,48,57,49,48,49,49,49,50,49,51,49,52,49,53,49,54,49,55,49,56,49,57,50,48,50,49,50,50,50,51,50,52,50,53,50,54,50,55,50,56,50,57,51,48,51,49,51,50,51,51,51,52,51,53,51,54,51,55,51,56,51,57,52,48,52,49,52,50,52,51,52,52,52,53,52,54,52,55,52,56,52,57,53,48,53,49,53,50,53,51,53,52,53,53,53,54,53,55,53,56,53,57,54,48,54,49,54,50,54,51,54,52,54,53,54,54,54,55,54,56,54,57,55,48,55,49,55,50,55,51,55,52,55,53,55,54,55,55,55,56,55,57,56,48,56,49,56,50,56,51,56,52,56,53,56,54,56,55,56,56,56,57,57,48,57,49,57,50,57,51,57,52,57,53,57,54,57,55,57,56,57,57]⟩)) (.t 154)),jj 156 (.indexAddr 1 (.t 145) (.t 147)),st 1 156 153,jj 157 (.indexAddr 1 (.t 148) (.t 150)),st 1 157 155] [0,4,12]) (rn [mv 158 4,bk 159 .sub 158 2,mv 4 159] [0,4,12])))) (.skip))) (.seq (rn [mv 160 4,bk 161 .gtr 160 0] [0,12,161]) (.cond (.t 161) (rn [mv 162 0,mv 163 12,jj 164 (.bin .add (.c (.int .u32 48)) (.t 163)),jj 165 (.conv (.int .u8) (.t 164)),jj 166 (.indexAddr 1 (.t 162) (kk 0)),st 1 166 165] []) (.skip))))))),false,false,false⟩
def F298:PFun:=⟨1,[.tmp 2],.seq (rn [mx 2 (kk 0)] [0]) (.seq (rn [mv 3 0,bk 4 .mul 3 78913,jj 5 (.bin .shr (.t 4) (.c (.int .u64 18))),mv 2 5] [2]) (.ret)),false,false,false⟩
def F299:PFun:=⟨1,[.tmp 2],.seq (rn [mx 2 (kk 0)] [0,2]) (.seq (.seq (rn [mv 3 0,jj 4 (.bin .geq (.t 3) (.c (.int .u64 4294967296)))] [0,2,4]) (.cond (.t 4) (.seq (rn [mv 5 0,jj 6 (.bin .shr (.t 5) (.c (.int .u64 32))),mv 0 6] [0]) (rn [mx 2 (kk 32)] [0,2])) (.skip))) (.seq (.seq (rn [mv 7 0,jj 8 (.bin .geq (.t 7) (.c (.int .u64 65536)))] [0,2,8]) (.cond (.t 8) (.seq (rn [mv 9 0,jj 10 (.bin .shr (.t 9) (.c (.int .u64 16))),mv 0 10] [0,2]) (rn [mv 11 2,bk 12 .add 11 16,mv 2 12] [0,2])) (.skip))) (.seq (.seq (rn [mv 13 0,jj 14 (.bin .geq (.t 13) (.c (.int .u64 256)))] [0,2,14]) (.cond (.t 14) (.seq (rn [mv 15 0,jj 16 (.bin .shr (.t 15) (.c (.int .u64 8))),mv 0 16] [0,2]) (rn [mv 17 2,bk 18 .add 17 8,mv 2 18] [0,2])) (.skip))) (.seq (rn [mv 19 2,mv 20 0,jj 21 (.conv (.int .u8) (.t 20)),jj 22 (.indexS (.c (.string ⟨#[0,1,2,2,3,3,3,3,4,4,4,4,4,4,4,4,5,5,5,5,5,5,5,5,5,5,5,5,5,5,5,5,6,6,6,6,6,6,6,6,6,6,6,6,6,6,6,6,6,6,6,6,6,6,6,6,6,6,6,6,6,6,6,6,7,7,7,7,7,7,7,7,7,7,7,7,7,7,7,7,7,7,7,7,7,7,7,7,7,7,7,7,7,7,7,7,7,7,7,7,7,7,7,7,7,7,7,7,7,7,7,7,7,7,7,7,7,7,7,7,7,7,7,7,7,7,7,7,8,8,8,8,8,8,8,8,8,8,8,8,8,8,8,8,8,8,8,8,8,8,8,8,8,8,8,8,8,8,8,8,8,8,8,8,8,8,8,8,8,8,8,8,8,8,8,8,8,8,8,8,8,8,8,8,8,8,8,8,8,8,8,8,8,8,8,8,8,8,8,8,8,8,8,8,8,8,8,8,8,8,8,8,8,8,8,8,8,8,8,8,8,8,8,8,8,8,8,8,8,8,8,8,8,8,8,8,8,8,8,8,8,8,8,8,8,8,8,8,8,8,8,8,8,8,8,8]⟩)) (.t 21)),jj 23 (.conv (.int .i64) (.t 22)),bn 24 .add 19 23,mv 2 24] [2]) (.ret))))),false,false,false⟩
def F300:PFun:=⟨1,[.tmp 2],.seq (rn [mx 2 (kk 0)] [0]) (.seq (.seq (rn [mv 3 0] [3]) (.cond (.t 3) (.seq (rn [mx 2 (kk 1)] [2]) (.ret)) (.skip))) (.seq (rn [mx 2 (kk 0)] [2]) (.ret))),false,false,false⟩
end Go.Pm.F
end SFx
section STQ
namespace Go.Pm.F
def tQ:Nat->Option PFun
 | 231=>some F231
 | 243=>some F243
 | 244=>some F244
 | 245=>some F245
 | 257=>some F257
 | 258=>some F258
 | 259=>some F259
 | 260=>some F260
 | 264=>some F264
 | 266=>some F266
 | 272=>some F272
 | 273=>some F273
 | 274=>some F274
 | 282=>some F282
 | 283=>some F283
 | 288=>some F288
 | 291=>some F291
 | 293=>some F293
 | 294=>some F294
 | 295=>some F295
 | 298=>some F298
 | 299=>some F299
 | 300=>some F300
 | _=>none
end Go.Pm.F
end STQ
section SOb
namespace Go.Pm
open F
set_option maxHeartbeats 4000000
def vb (w:List UInt8):List V:=w.map fun b => .dat (.lit (.int .u8 b.toNat))
theorem ql7 (w:List UInt8):qaB (vb w)=[]:=by
 induction w with
 | nil=>rfl
 | cons x w ih=>simpa [vb] using ih
theorem qn9 (r:Nat->Nat) (w:List UInt8):qdo r (vb w)=vb w:=by
 induction w with
 | nil=>rfl
 | cons x w ih=>simpa [vb] using ih
attribute [local simp] ql7 qn9
end Go.Pm
end SOb
section SOc
namespace Go.Pm
open F
set_option maxHeartbeats 4000000
def lastC (w:List UInt8):UInt8:=(w.getLast?).getD 0
def wl (w:List UInt8):Bool:=qau (lastC w)
def pw (w:List UInt8) (ts:List ByteArray):List UInt8:=w++qay (wl w) ts
theorem qqM:wl []=false:=by decide
theorem ql8 (w r:List UInt8) (h:r≠[]):lastC (w++r)=lastC r:=by
 unfold lastC
 rw[List.getLast?_append]
 cases hr:r.getLast? with
 | none=>exact absurd (List.getLast?_eq_none_iff.1 hr) h
 | some c=>rfl
theorem qnp (w:List UInt8) (t:ByteArray):qbQ (wl w) t=wl (w++(gap (wl w) t++byl t)):=by
 unfold qbQ
 cases h:byl t with
 | nil=>
  have hs:qar qau t=false:=by rw[qaZ,h]; rfl
  simp[gap,hs]
 | cons c r=>
  have hne:c::r≠[]:=by simp
  rw[<- List.append_assoc,show wl (w++gap (wl w) t++c::r)=qau (lastC (c::r)) by unfold wl; rw[ql8 _ _ hne]]
  unfold lastC
  cases hl:(c::r).getLast? with
  | none=>exact absurd (List.getLast?_eq_none_iff.1 hl) hne
  | some d=>rfl
theorem qcX (w:List UInt8) (t:ByteArray) (ts:List ByteArray):pw w (t::ts)=pw (w++(gap (wl w) t++byl t)) ts:=by
 unfold pw
 rw[qay,qnp,List.append_assoc,List.append_assoc]
theorem qfD (w:List UInt8):pw w []=w:=by simp[pw,qay]
theorem qkl (w:List UInt8) (a b:List ByteArray):pw w (a++b)=pw (pw w a) b:=by
 induction a generalizing w with
 | nil=>rw[List.nil_append,qfD]
 | cons t a ih=>rw[List.cons_append,qcX,qcX,ih]
theorem qqN (w:List UInt8) (ts:List ByteArray):w.length<=(pw w ts).length:=by simp[pw]
theorem qnq {t:ByteArray} (h:t.size≠0) : ∃ b,t[0]?=some b/\qar qau t=qau b:=by
 have hd:=qfl t 0
 rw[List.drop_zero] at hd
 cases hb:byl t with
 | nil=>exact absurd (by rw[<- qaI,hb]; rfl) h
 | cons b r=>
  rw[hb] at hd
  exact⟨b,hd,by rw[qaZ,hb]; rfl⟩
theorem qo6 {t:ByteArray} (h:t.size≠0):t[t.size-1]?=some (lastC (byl t)):=by
 rw[qfl,List.head?_drop,<- qaI,lastC]
 rw[List.getLast?_eq_getElem?]
 cases hg:(byl t)[(byl t).length-1]? with
 | some c=>rfl
 | none=>
  rw[List.getElem?_eq_none_iff] at hg
  have:=qaI t
  omega
attribute [local simp] ql7 qn9
end Go.Pm
end SOc
section SOn
namespace Go.Pm
def E.lev:E->Nat
 | .un _ neg _=>qdt neg
 | .bin _ o _ _=>o.prec
 | _=>8
theorem qoe : ∀ {l:List ByteArray},Ok2 l -> ∀ t∈l,Tg (byl t)
 | [],_,t,h=>by cases h
 | u::l,ho,t,h=>by
  rcases List.mem_cons.1 h with rfl | h
  ·exact ho.1
  ·exact qoe ho.2.2 t h
theorem qnH {s:ByteArray} (h:Tg (byl s)):s.size≠0:=by
 obtain⟨c,r,e,_⟩:=qey h
 intro h0
 rw[<- qaI,e] at h0
 cases h0
theorem qpo (ts:List ByteArray):pw [] ts=qay false ts:=by rw[pw,qqM,List.nil_append]
end Go.Pm
end SOn
section SF3r
namespace Go.Pm.F
variable (C:Task->Option Res) (q:Nat) (fr:Fr) (σ : S)
def F192:PFun:=⟨1,[.tmp 2],.seq (rn [mx 2 kF] [0]) (.seq (rn [mv 3 0,jj 4 (.bin .geq (.t 3) (.c (.int .u8 97))),mv 5 4,jt 6 5 (.mov (.t 0)),jt 7 5 (.bin .leq (.t 6) (.c (.int .u8 122))),jj 8 (.pick (.t 5) (.t 7) kF),mv 2 8] [2]) (.ret)),false,false,false⟩
def F193:PFun:=⟨1,[.tmp 2],.seq (rn [mx 2 kF] [0]) (.seq (rn [mv 3 0,jj 4 (.bin .geq (.t 3) (.c (.int .u8 48))),mv 5 4,jt 6 5 (.mov (.t 0)),jt 7 5 (.bin .leq (.t 6) (.c (.int .u8 57))),jj 8 (.pick (.t 5) (.t 7) kF),mv 2 8] [2]) (.ret)),false,false,false⟩
end Go.Pm.F
end SF3r
section STR
namespace Go.Pm.F
def tR:Nat->Option PFun
 | 192=>some F192
 | 193=>some F193
 | _=>none
end Go.Pm.F
end STR
section SJa
namespace Go.Pm
open F
set_option maxHeartbeats 2000000
structure RowS (d:D) (l:List ByteArray):Prop where
 len : ∀ σ,V.len σ .sl (.dat d)=some l.length
 at_ : ∀ i:Nat,i<l.length->qao 1 (.dat d) i=some (.dat (.imm (qaS l) i))
 one:V.one (.dat d)=true
 cells:V.cells (.dat d)=[.dat d]
theorem qad (l:List ByteArray) (f:Bool):RowS (.sl (qaS l) l.length f) l where
 len _:=rfl
 at_ i h:=by simp[qao,h]
 one:=rfl
 cells:=rfl
theorem qpl (s:ByteArray) (i:Nat):s[i]?=s.data.toList[i]?:=by
 by_cases h:i<s.size
 ·rw[getElem?_pos s i h,List.getElem?_eq_getElem (by rw[Array.length_toList]; exact h)]
  simp[ByteArray.getElem_eq_getElem_data]
 ·rw[getElem?_neg s i h,List.getElem?_eq_none (by rw[Array.length_toList]; exact Nat.not_lt.1 h)]
theorem qk6 {s:ByteArray} {i:Nat} (h:i<s.size) : ∃ c,s[i]?=some c/\s.data.toList[i]?=some c:=by
 refine⟨s.data.toList[i]'(by rw[Array.length_toList]; exact h),?_,List.getElem?_eq_getElem _⟩
 rw[qpl]
 exact List.getElem?_eq_getElem _
end Go.Pm
end SJa
section SJb
namespace Go.Pm
open F
set_option maxHeartbeats 2000000
theorem qfk {s:ByteArray} {i:Nat} {c:UInt8} (h:s.data.toList[i]?=some c):(byl s).drop i=c::(byl s).drop (i+1):=by
 have hi:=(List.getElem?_eq_some_iff.1 h)
 obtain⟨h1,h2⟩:=hi
 rw[<- h2]
 exact List.drop_eq_getElem_cons h1
end Go.Pm
end SJb
section SJc
namespace Go.Pm
open F
set_option maxHeartbeats 4000000
theorem qjX (p:UInt8->Bool) : ∀ l:List UInt8,∀ b∈l.take (qbk p l),p b=true
 | [],b,h=>by simp[qbk] at h
 | c::r,b,h=>by
  simp only[qbk] at h
  split at h
  ·rename_i hc
   rw[List.take_succ_cons] at h
   rcases List.mem_cons.1 h with rfl | h
   ·exact hc
   ·exact qjX p r b h
  ·simp at h
end Go.Pm
end SJc
section SJd
namespace Go.Pm
open F
set_option maxHeartbeats 4000000
theorem qnS (eS eL eR:Nat) (c:UInt8) (r:List UInt8):1<=(tokL eS eL eR (c::r)).1.length/\(tokL eS eL eR (c::r)).1.length<=r.length+1:=by
 have h1:=qeD qau (c::r)
 have h2:=qeD qam (c::r)
 simp only[tokL]
 split
 ·rename_i h
  have hw:qau c=true:=by simp[qau,h]
  have:1<=qbk qau (c::r):=by simp only[qbk,hw,if_true]; omega
  simp only[List.length_take,List.length_cons] at h1 ⊢
  omega
 split
 ·rename_i h
  have:1<=qbk qam (c::r):=by simp only[qbk,h,if_true]; omega
  simp only[List.length_take,List.length_cons] at h2 ⊢
  omega
 split
 ·rename_i h
  have:=qef h
  rw[qaG] at this
  simp only[List.length_take,List.length_cons] at this ⊢
  omega
 split<;>simp
theorem qi6 {s:ByteArray} {i:Nat} (hi:i<s.size) (eS eL eR:Nat):1<=(tokAt eS eL eR s i).s.size/\i+(tokAt eS eL eR s i).s.size<=s.size:=by
 obtain⟨c,h1,h2⟩:=qk6 hi
 have hd:=qfk h2
 rw[qcT]
 simp only[qaG]
 rw[hd]
 have:=qnS eS eL eR c ((byl s).drop (i+1))
 rw[List.length_drop,qaI] at this
 omega
def qtg:List Tk->List Tk
 | []=>[]
 | t::r=>if t.bad≠0\/t.s.size=0 then [t] else t::qtg r
end Go.Pm
end SJd
section SJe
namespace Go.Pm
open F
set_option maxHeartbeats 4000000
structure Ps where
 i:Nat
 a:Nat
 e:Nat
def qql (T:List Tk) (i:Nat):Tk:=T.getD i ⟨0,⟨#[]⟩,0⟩
def qS:ByteArray:=bs [63]
end Go.Pm
end SJe
section SJf
namespace Go.Pm
open F
structure TokP (t:Tk):Prop where
 q:t.bad=0->t.s≠qS
 dig:t.bad=0->qar qam t.s=true->(∀ c∈t.s.data.toList,qam c=true)/\digV t.s.data.toList<=2147483647/\t.s.size<2 ^ 40
structure WfT (T:List Tk):Prop where
 len:T.length<2 ^ 40
 tok : ∀ t∈T,TokP t
 pos : ∀ i,i+1<T.length->(qql T i).s.size≠0
 last : ∀ i,i+1=T.length->(qql T i).s=⟨#[]⟩/\(qql T i).bad=0
structure Gd (T:List Tk) (s:Ps) (ts:List Tk):Prop where
 e:s.e=0
 a:s.a=0
 lt:s.i<T.length
 ts:qtg (T.drop s.i)=ts
structure Er (T:List Tk) (s:Ps) (p c:Nat):Prop where
 lt:s.i<T.length
 c0:c≠0
 or:(s.e=c/\s.a=p)\/(s.e=0/\(qql T s.i).bad=c/\(qql T s.i).at_=p)
end Go.Pm
end SJf
section SJm
namespace Go.Pm
open F
set_option maxHeartbeats 4000000
section
variable {T:List Tk} {s:Ps} {lv:Nat}
abbrev k1 (k n:Int) (y:ByteArray) (ks:D):D := .sl [.lit (.int .i64 k),.lit (.int .i64 n),.lit (.string y),ks] 1 true
abbrev k2 (k n:Int) (y:ByteArray) (ks:D) (k' n':Int) (y':ByteArray) (ks':D):D := .sl [.lit (.int .i64 k),.lit (.int .i64 n),.lit (.string y),ks,.lit (.int .i64 k'),.lit (.int .i64 n'),.lit (.string y'),ks'] 2 true
abbrev k3 (k n:Int) (y:ByteArray) (ks:D) (k' n':Int) (y':ByteArray) (ks':D) (k'' n'':Int) (y'':ByteArray) (ks'':D):D := .sl [.lit (.int .i64 k),.lit (.int .i64 n),.lit (.string y),ks,.lit (.int .i64 k'),.lit (.int .i64 n'),.lit (.string y'),ks',.lit (.int .i64 k''),.lit (.int .i64 n''),.lit (.string y''),ks''] 3 false
end
end Go.Pm
end SJm
section SJp
namespace Go.Pm
open F
set_option maxHeartbeats 4000000
structure N4 where
 k:Int
 n:Int
 s:ByteArray
 d:D
 one:V.one (.dat d)=true
 cl:V.cells (.dat d)=[.dat d]
abbrev rob (r:Nat->N4):Ob := .cells [.int (r 0).k,.int (r 0).n,.str (r 0).s,.dat (r 0).d,.int (r 1).k,.int (r 1).n,.str (r 1).s,.dat (r 1).d,.int (r 2).k,.int (r 2).n,.str (r 2).s,.dat (r 2).d]
def qrw (r:Nat->N4) (k:Nat) (v:N4):Nat->N4:=fun i=>if i=k then v else r i
abbrev qpL:Ob := .cells [.int 0,.int 0,.str ⟨#[]⟩,.dat (.lit (.slice none 0 0)),.int 0,.int 0,.str ⟨#[]⟩,.dat (.lit (.slice none 0 0)),.int 0,.int 0,.str ⟨#[]⟩,.dat (.lit (.slice none 0 0))]
section
variable {T:List Tk} {s:Ps} {r:Nat->N4}
def qem:Option Ss->N4
 | none=>⟨0,0,⟨#[]⟩,.lit (.slice none 0 0),rfl,rfl⟩
 | some b=>⟨7,0,⟨#[]⟩,kd false b.fo.len b.fo.cells,by simp,by simp⟩
end
end Go.Pm
end SJp
section SJq
namespace Go.Pm
open F
set_option maxHeartbeats 4000000
theorem qpn {s:ByteArray} (hl:s.size<2 ^ 30) {j:Nat} (hj:j<s.size):TokP (tokAt 12 2 6 s j):=by
 obtain⟨p1,p2⟩:=qi6 hj 12 2 6
 obtain⟨c,h1,h2⟩:=qk6 hj
 have hd:=qfk h2
 rw[qcT,hd] at p2 ⊢
 generalize (byl s).drop (j+1)=r at *
 have hsz:(bs (tokL 12 2 6 (c::r)).1).size<2 ^ 40:=by simp only at p2; omega
 have start : ∀ (p:UInt8->Bool) (x:UInt8) (w:List UInt8),qar p (bs (x::w))=p x:=fun p x w=>by rw[qaZ,qaU]; rfl
 by_cases hlet:qaL c=true
 ·have hw:qau c=true:=by simp[qau,hlet]
  have e:(c::r).take (qbk qau (c::r))=c::r.take (qbk qau r):=by simp[qbk,hw]
  have ht:(tokL 12 2 6 (c::r)).1=c::r.take (qbk qau r):=by simp only[tokL,hlet,if_true]; exact e
  rw[ht]
  have hnd:qam c=false:=by
   simp only[qam,qaL,Bool.and_eq_true,decide_eq_true_eq,Bool.and_eq_false_iff,decide_eq_false_iff_not] at hlet ⊢
   omega
  refine⟨fun _ h=>?_,fun _ h=>?_⟩
  ·have:=qi1 h
   simp only[List.cons.injEq] at this
   rw[this.1] at hlet
   exact absurd hlet (by decide)
  ·simp only at h
   rw[start,hnd] at h
   cases h
 ·by_cases hdig:qam c=true
  ·have e:(c::r).take (qbk qam (c::r))=c::r.take (qbk qam r):=by simp[qbk,hdig]
   have ht:tokL 12 2 6 (c::r)=((c::r).take (qbk qam (c::r)),if 2147483647<digV ((c::r).take (qbk qam (c::r))) then 6 else 0):=by simp only[tokL,hlet,hdig,if_true,Bool.false_eq_true,if_false]
   rw[ht] at hsz ⊢
   refine⟨fun _ h=>?_,fun h _=>⟨fun b hb=>?_,?_,hsz⟩⟩
   ·simp only at h
    rw[e] at h
    have:=qi1 h
    simp only[List.cons.injEq] at this
    rw[this.1] at hdig
    exact absurd hdig (by decide)
   ·exact qjX qam (c::r) b hb
   ·simp only at h ⊢
    split at h
    ·cases h
    ·rename_i hb
     exact Nat.not_lt.1 hb
  ·by_cases hp:bs ((c::r).take 2)∈qc3
   ·have ht:tokL 12 2 6 (c::r)=((c::r).take 2,0):=by simp only[tokL,hlet,hdig,if_pos hp,Bool.false_eq_true,if_false]
    rw[ht]
    have key : ∀ w:List UInt8,bs w∈qc3->bs w≠qS/\qar qam (bs w)=false:=fun w hw=>by
     rcases pair_cases hw with rfl | rfl | rfl | rfl | rfl | rfl<;>decide
    obtain⟨k1,k2⟩:=key _ hp
    exact⟨fun _=>k1,fun _ h=>by rw[k2] at h; cases h⟩
   ·by_cases hs:c.toNat∈qhI
    ·have ht:tokL 12 2 6 (c::r)=([c],0):=by simp only[tokL,hlet,hdig,if_neg hp,if_pos hs,Bool.false_eq_true,if_false]
     rw[ht]
     refine⟨fun _ h=>?_,fun _ h=>?_⟩
     ·have:=qi1 h
      simp only[List.cons.injEq,and_true] at this
      rw[this] at hs
      exact absurd hs (by decide)
     ·simp only at h
      rw[start] at h
      exact absurd h hdig
    ·have ht:tokL 12 2 6 (c::r)=([c],12):=by simp only[tokL,hlet,hdig,if_neg hp,if_neg hs,Bool.false_eq_true,if_false]
     rw[ht]
     exact⟨fun h=>(by cases h),fun h=>(by cases h)⟩
def toks (s:ByteArray):List Tk:=qbK 12 2 6 s (s.size+1) 0
def qfF (f fi fb:Bool) (s:ByteArray):Rz (Nat->Option Ss):=
 if 2000<s.size then .er 2000 2 else match qdO 12 2 4 f fi fb (10*(toks s).length+10) (fun _=>none) (toks s) with
  | some x=>x
  | none => .er 0 0
theorem qgv {f fi fb:Bool} {s:ByteArray} (h : ¬ 2000<s.size):qdO 12 2 4 f fi fb (10*(toks s).length+10) (fun _=>none) (toks s)=some (qfF f fi fb s):=by
 obtain⟨y,hy,_⟩:=qic 12 2 4 f fi fb (10*(toks s).length+10) (fun _=>none) (toks s) (by omega)
 unfold qfF
 rw[if_neg h,hy]
abbrev qnE (r:Nat->N4):V := .dat (.agg [.lit (.int .i64 (r 0).k),.lit (.int .i64 (r 0).n),.lit (.string (r 0).s),(r 0).d,.lit (.int .i64 (r 1).k),.lit (.int .i64 (r 1).n),.lit (.string (r 1).s),(r 1).d,.lit (.int .i64 (r 2).k),.lit (.int .i64 (r 2).n),.lit (.string (r 2).s),(r 2).d])
def qiX (f fi fb:Bool) (s:ByteArray):V:=match qfF f fi fb s with
 | .ok h _ => .tup [qnE fun k=>qem (h k),.int 0,.int 0]
 | .er a c => .tup [qnE fun _=>qem none,.int a,.int c]
end Go.Pm
end SJq
section SUc
namespace Go.Pm
inductive Red:List ByteArray->List ByteArray->Prop
 | nil:Red [] []
 | keep {t:ByteArray} {l m:List ByteArray} (h:Red l m):Red (t::l) (t::m)
 | del {t:ByteArray} {l m:List ByteArray} (h0:t.size≠0) (h:Red l m):Red (t::l) m
 | dig {t u:ByteArray} {l m:List ByteArray} (h0:u.size<=t.size) (h1 : ∀ p,qbQ p u=qbQ p t) (h2:qar qau u=qar qau t) (h:Red l m):Red (t::l) (u::m)
end Go.Pm
end SUc
section SUd
namespace Go.Pm
theorem qj5 : ∀ (j n k:Nat),n<10 ^ (k+1)->(qhW j n).length<=k+1
 | 0,n,k,_=>by simp[qhW]
 | j+1,n,k,h=>by
  simp only[qhW]
  split
  ·simp
  ·rename_i h10
   cases k with
   | zero=>simp at h; omega
   | succ k=>
    have:=qj5 j (n / 10) k (by rw[Nat.pow_succ] at h; omega)
    rw[List.length_append]
    simp
    omega
end Go.Pm
end SUd
section SYk
namespace Go.Pm
def qlo (g:List UInt8):Prop := ∀ r,qaX false (g++r)=g.length+qaX false r
theorem qig:qlo []:=fun r=>by simp
theorem qlp {c:UInt8} (h:c.toNat=32\/c.toNat=9\/c.toNat=10):qlo [c]:=fun r=>by
 simp only[List.cons_append,List.nil_append,qaX,List.length_singleton]
 by_cases h10:c.toNat=10
 ·rw[if_pos h10]; omega
 ·rw[if_neg h10,if_pos (by rcases h with h | h | h; exact .inr (.inl h); exact .inr (.inr h); exact absurd h h10)]; omega
theorem qmK {w:List UInt8} (h:Tg w) (r:List UInt8):qaX false (w++r)=0:=by
 obtain⟨c,q,hw,h1,h2,h3,h4⟩:=qey h
 rw[hw]
 simp[qaX,h1,h2,h3,h4]
def qeh:List (List UInt8 × ByteArray)->List UInt8
 | []=>[]
 | (g,t)::r=>g++(byl t++qeh r)
def Sep (t:ByteArray) (g:List UInt8) (u:ByteArray):Prop:=(∃ c q,g=c::q/\(c.toNat=32\/c.toNat=10\/c.toNat=9\/c.toNat=35))\/(g=[]/\(qbQ false t&&qar qau u)=false/\Adj t u)
def OkG:List (List UInt8 × ByteArray)->Prop
 | []=>True
 | (g,t)::r=>qlo g/\Tg (byl t)/\(∀ p,r.head?=some p->Sep t p.1 p.2)/\OkG r
theorem qih {w:List UInt8} (h:Tg w) {c:UInt8} (hc:c.toNat=32\/c.toNat=10\/c.toNat=9\/c.toNat=35) (r:List UInt8):Fol w (c::r):=by
 have hw:qau c=false:=by
  simp only[qau,qaL,qam,Bool.or_eq_false_iff,Bool.and_eq_false_iff,decide_eq_false_iff_not]
  omega
 have hd:qam c=false:=by
  simp only[qam,Bool.and_eq_false_iff,decide_eq_false_iff_not]
  omega
 obtain⟨a,q,rfl,-⟩:=qey h
 simp only[Fol]
 split
 ·exact hw
 split
 ·exact hd
 ·intro _ hp
  rcases pair_cases hp with h | h | h | h | h | h<;>simp only[List.cons.injEq,and_true] at h<;>rw[h.2] at hc<;>exact absurd hc (by decide)
theorem qol (w:List UInt8):Fol w []:=by cases w<;>trivial
theorem qmL {w:ByteArray} (h:Tg (byl w)) (p q:Bool):qbQ p w=qbQ q w:=by
 obtain⟨c,r,hw,-⟩:=qey h
 unfold qbQ
 rw[hw]
 cases hl:(c::r).getLast? with
 | none=>simp at hl
 | some b=>rfl
theorem qii (eS eL eR:Nat) : ∀ (l:List (List UInt8 × ByteArray)) (n i:Nat) (tail:List UInt8),OkG l->(∀ p,l.getLast?=some p->Fol (byl p.2) tail)->l.length<=n ->
  ∃ ts,qoi eS eL eR n i (qeh l++tail)=ts++qoi eS eL eR (n-l.length) (i+(qeh l).length) tail /\ ∀ r,Hx (l.map (·.2)) (ts++r) r
 | [],n,i,tail,_,_,_=>⟨[],by simp[qeh],fun r=>rfl⟩
 | (g,t)::l,0,i,tail,_,_,h=>by simp at h
 | (g,t)::l,n+1,i,tail,ho,hl,h=>by
  obtain⟨hg,ht,ha,ho'⟩:=ho
  have hf:Fol (byl t) (qeh l++tail):=by
   cases l with
   | nil=>exact hl (g,t) rfl
   | cons u us=>
    obtain⟨g',u⟩:=u
    simp only[qeh,List.append_assoc]
    rcases ha (g',u) rfl with ⟨c,q,h1,h2⟩ | ⟨h1,h2,h3⟩
    ·simp only at h1
     rw[h1]
     exact qih ht h2 _
    ·simp only at h1 h2 h3
     rw[h1]
     have:=qnj (p:=false) ht ho'.2.1 h3 (qeh us++tail)
     rwa [gap,h2] at this
  have hsk:qaX false (g++(byl t++(qeh l++tail)))=g.length:=by rw[hg,qmK ht]; omega
  have htk:=ql3 eS eL eR ht hf
  have hne:(byl t).length≠0:=by
   obtain⟨c,w,hw,-⟩:=qey ht
   rw[hw]; simp
  obtain⟨ts,e1,e2⟩:=qii eS eL eR l n (i+g.length+t.size) tail ho' (fun u hu=>hl u (by
   cases l with
   | nil=>cases hu
   | cons v vs=>rw[List.getLast?_cons_cons]; exact hu)) (by simpa using h)
  refine⟨⟨i+g.length,t,0⟩::ts,?_,fun r=>⟨⟨i+g.length,t,0⟩,ts++r,rfl,rfl,rfl,e2 r⟩⟩
  simp only[qeh,List.append_assoc,qoi,hsk,List.drop_left,htk]
  rw[if_neg (by
   rintro (h | h)
   ·exact h rfl
   ·exact hne h)]
  rw[qcr,qaI,e1]
  simp only[List.cons_append,List.length_append,List.length_cons,qaI]
  congr 3<;>omega
theorem qkK (eS eL eR:Nat) {l:List (List UInt8 × ByteArray)} {w:List UInt8} (ho:OkG l) (hw:qlo w) (hsep:w=[] \/ ∃ c q,w=c::q/\(c.toNat=32\/c.toNat=10\/c.toNat=9\/c.toNat=35)) {s:ByteArray} (hs:byl s=qeh l++w) :
  ∃ e,Hx (l.map (·.2)) (qbK eS eL eR s (s.size+1) 0) [⟨e,⟨#[]⟩,0⟩]:=by
 have htgs : ∀ p∈l,Tg (byl p.2):=by
  induction l with
  | nil=>intro p hp; cases hp
  | cons q l ih=>
   intro p hp
   obtain⟨g,t⟩:=q
   rcases List.mem_cons.1 hp with rfl | hp
   ·exact ho.2.1
   ·have hl : ∀ (l:List (List UInt8 × ByteArray)),OkG l -> ∀ p∈l,Tg (byl p.2):=fun l=>by
     induction l with
     | nil=>intro _ p hp; cases hp
     | cons q l ih=>intro h p hp; rcases List.mem_cons.1 hp with rfl | hp; exact h.2.1; exact ih h.2.2.2 p hp
    exact hl l ho.2.2.2 p hp
 have hlen:l.length<=(qeh l).length:=by
  clear ho hs
  induction l with
  | nil=>simp
  | cons q l ih=>
   obtain⟨g,t⟩:=q
   have h1:=htgs (g,t) (List.mem_cons_self ..)
   obtain⟨c,w,hw,-⟩:=qey h1
   have:=ih fun p hp=>htgs p (List.mem_cons_of_mem _ hp)
   simp only[qeh,List.length_append,List.length_cons]
   have h2:1<=(byl t).length:=by simp only at hw; rw[hw]; simp
   omega
 have hsz:s.size=(qeh l).length+w.length:=by rw[<- qaI,hs,List.length_append]
 rw[qkA,List.drop_zero,hs]
 obtain⟨ts,e1,e2⟩:=qii eS eL eR l (s.size+1) 0 w ho (fun p hp=>by
  have ht:=htgs p (List.mem_of_getLast? hp)
  rcases hsep with h | ⟨c,q,h1,h2⟩
  ·rw[h]; exact qol _
  ·rw[h1]; exact qih ht h2 _) (by omega)
 rw[e1]
 obtain⟨k,hk⟩ : ∃ k,s.size+1-l.length=k+1:=⟨s.size-l.length,by omega⟩
 have hend : ∀ j,qoi eS eL eR (k+1) j w=[⟨j+w.length,⟨#[]⟩,0⟩]:=fun j=>by
  have h1:qaX false w=w.length:=by
   have:=hw []
   rw[List.append_nil] at this
   rw[this]; simp[qaX]
  simp only[qoi,h1,List.drop_length,tokL]
  rw[if_pos (.inr rfl)]
  rfl
 rw[hk,hend]
 exact⟨_,e2 _⟩
end Go.Pm
end SYk
section SUf
namespace Go.Pm
theorem qmA {f fi fb:Bool} {s:ByteArray} (hs : ¬ 2000<s.size) {y:Rz (Nat->Option Ss)} (h : ∃ n,qdO 12 2 4 f fi fb n (fun _=>none) (toks s)=some y):qfF f fi fb s=y:=by
 obtain⟨n,h⟩:=h
 have h1:=qg8 h (Nat.le_max_left n (10*(toks s).length+10))
 have h2:=qg8 (qgv (f:=f) (fi:=fi) (fb:=fb) hs) (Nat.le_max_right n (10*(toks s).length+10))
 rw[h1] at h2
 exact (Option.some.inj h2).symm
theorem qmB {ts:List ByteArray} (hcl:Ok2 ts) : ∃ e,Hx ts (toks (bs (qay false ts))) [⟨e,⟨#[]⟩,0⟩]:=by
 obtain⟨l,hl,hm⟩ : ∃ l:List (List UInt8 × ByteArray),OkG l/\l.map (·.2)=ts/\qeh l=qay false ts:=by
  have key : ∀ (ts:List ByteArray) (p:Bool),Ok2 ts -> ∃ l:List (List UInt8 × ByteArray),OkG l/\l.map (·.2)=ts/\qeh l=qay p ts/\(∀ q,l.head?=some q -> ∃ t,ts.head?=some t/\q=(gap p t,t)):=by
   intro ts
   induction ts with
   | nil=>intro p _; exact⟨[],trivial,rfl,rfl,fun q h=>by cases h⟩
   | cons t ts ih=>
    intro p ho
    obtain⟨l,l1,l2,l3,l4⟩:=ih (qbQ p t) ho.2.2
    have hwg:qlo (gap p t):=by
     unfold gap
     split
     ·exact qlp (.inl rfl)
     ·exact qig
    refine⟨(gap p t,t)::l,⟨hwg,ho.1,fun q hq=>?_,l1⟩,by simp[l2],by simp[qeh,qay,l3],fun q hq=>⟨t,rfl,by cases hq; rfl⟩⟩
    obtain⟨u,hu,rfl⟩:=l4 q hq
    have hadj:=ho.2.1 u hu
    simp only
    by_cases hgap:(qbQ p t&&qar qau u)=true
    ·left
     exact⟨32,[],by simp[gap,hgap],.inl rfl⟩
    ·right
     have hgap':(qbQ p t&&qar qau u)=false:=by simpa using hgap
     refine⟨by simp[gap,hgap'],?_,hadj⟩
     rw[qmL ho.1 false p]
     exact hgap'
  obtain⟨l,l1,l2,l3,_⟩:=key ts false hcl
  exact⟨l,l1,l2,l3⟩
 have:=qkK 12 2 6 hl qig (.inl rfl) (s:=bs (qay false ts)) (by rw[qaU,hm.2,List.append_nil])
 rw[hm.1] at this
 exact this
end Go.Pm
end SUf
section SE3
namespace Go.Pm
open F
inductive NmSt:S->V->S->Nat->List ByteArray->Ob->Prop
 | a (l:List ByteArray) (x:Ob):NmSt [] (.dat (qpU l)) [x] 0 l x
 | b (l:List ByteArray) (x:Ob) (m:Nat) (h:l≠[]):NmSt [] (.gsl (qaS l) l.length 1 0) [.tip m,x] 1 l x
end Go.Pm
end SE3
section SE4
namespace Go.Pm
open F
attribute [local simp] dkey
def mapM:Nat->List ByteArray->List (Value × V)
 | _,[]=>[]
 | i,s::l=>(.string s,.int i)::mapM (i+1) l
theorem qiR : ∀ (l:List ByteArray) (i:Nat),qf8 (mapM i l)=[]
 | [],i=>rfl
 | x::l,i=>by simp[mapM,qiR l]
theorem qkn (r:Nat->Nat) : ∀ (l:List ByteArray) (i:Nat),qnZ r (mapM i l)=mapM i l
 | [],i=>rfl
 | x::l,i=>by simp[mapM,qkn r l]
attribute [local simp] qiR qkn dkey
end Go.Pm
end SE4
section SF01
namespace Go.Pm.F
variable (C:Task->Option Res) (q:Nat) (fr:Fr) (σ : S)
def F17:PFun:=⟨2,[.tmp 4],.seq (rn [mx 4 (kk 0)] [0,1]) (.seq (.seq (rn [mv 5 0,bk 6 .lss 5 0] [0,1,6]) (.cond (.t 6) (rn [mv 7 0,bk 8 .add 7 1,jj 9 (.un .neg (.t 8)),mv 0 9] [0,1]) (.skip))) (.seq (rn [mv 10 0,mv 11 1,bn 12 .rem 10 11,mv 4 12] [4]) (.ret))),false,false,false⟩
@[simp] def F20l0x:PC:=(.seq (.seq (rn [mv 10 5,bk 11 .neq 10 0] [0,3,4,5,11]) (.cond (.t 11) (.skip) (.exit 0))) (.seq (.block 1 (.seq (rn [mv 14 5,bk 15 .rem 14 10,mv 6 15] [0,3,4,5,6]) (.seq (.seq (rn [mv 16 6,bk 17 .lss 16 0] [0,3,4,5,6,17]) (.cond (.t 17) (rn [mv 18 6,jj 19 (.un .neg (.t 18)),mv 6 19] [0,3,4,5,6]) (.skip))) (rn [mv 20 3,mv 21 6,mv 22 6,bk 23 .add 22 1,jj 24 (.sliceS (.t 20) (some (.t 21)) (some (.t 23))),mv 25 4,bn 26 .add 24 25,mv 4 26] [0,3,4,5])))) (rn [mv 12 5,bk 13 .quo 12 10,mv 5 13] [0,3,4,5])))
def F20l0:PC:=F20l0x
theorem qi3:run C q F20l0 fr σ = run C q F20l0x fr σ := rfl
def F20:PFun:=⟨1,[.tmp 2],.seq (rn [jj 2 (.mov (.c (.string ⟨#[]⟩)))] [0]) (.seq (.seq (rn [mv 7 0,bk 8 .eql 7 0] [0,8]) (.cond (.t 8) (.seq (rn [jj 2 (.mov (.c (.string ⟨#[48]⟩)))] [2]) (.ret)) (.skip))) (.seq (rn [jj 3 (.mov (.c (.string ⟨#[48,49,50,51,52,53,54,55,56,57]⟩)))] [0,3]) (.seq (rn [jj 4 (.mov (.c (.string ⟨#[]⟩)))] [0,3,4]) (.seq (.seq (rn [mv 9 0,mv 5 9] [0,3,4,5]) (.block 0 (.loop F20l0))) (.seq (.seq (rn [mv 27 0,bk 28 .lss 27 0] [4,28]) (.cond (.t 28) (.seq (rn [mv 29 4,jj 30 (.bin .add (.c (.string ⟨#[45]⟩)) (.t 29)),mv 2 30] [2]) (.ret)) (.skip))) (.seq (rn [mv 31 4,mv 2 31] [2]) (.ret))))))),false,false,false⟩
end Go.Pm.F
end SF01
section SF3g
namespace Go.Pm.F
variable (C:Task->Option Res) (q:Nat) (fr:Fr) (σ : S)
def F136:PFun:=⟨2,[.tmp 4],.seq (rn [mx 4 (kk 0)] [0,1]) (.seq (.seq (.region (some []) [mv 6 0,nc 7 6,fa 8 1 7,l1 9 8,mv 10 0,nc 11 10,fa 12 0 11,l1 13 12,ls 14 13,bn 15 .geq 9 14] [0,1,15]) (.cond (.t 15) (.seq (rn [mx 4 (kk 0)] [4]) (.ret)) (.skip))) (.seq (.region (some []) [mv 16 0,nc 17 16,fa 18 0 17,l1 19 18,mv 20 0,nc 21 20,fa 22 1 21,l1 23 22,jj 24 (.indexAddr 1 (.t 19) (.t 23)),l1 25 24,jj 26 (.call 17 [(.t 25),(kk 1000000)]),mv 5 26] [0,1,5] [10]) (.seq (rn [mv 27 0,nc 28 27,fa 29 1 28,l1 30 29,bk 31 .add 30 1,nc 32 27,fa 33 1 32,st 1 33 31] [1,5]) (.seq (rn [mv 34 5,mv 35 1,bn 36 .rem 34 35,mv 4 36] [4]) (.ret))))),false,false,false⟩
def F176:PFun:=⟨3,[.cell 6 true 4],.seq (rn [bx 5 2,jj 6 (.alloc [zN,zN,eN,sN])] [0,1,5,6]) (.seq (rn [mv 7 0,mv 8 1,la 9 4 5,jj 10 (.bslice 1 [zN,zN,eN,sN] [(0,4,(.t 9))]),jj 11 (.build [zN,zN,eN,sN] [(0,1,(.t 7)),(2,1,(.t 8)),(3,1,(.t 10))]),st 4 6 11] [6]) (.ret)),false,false,false⟩
def F177:PFun:=⟨2,[.cell 4 true 4],.seq (rn [jj 4 (.alloc [zN,zN,eN,sN])] [0,1,4]) (.seq (rn [mv 9 0,jj 10 (.call 136 [(.t 9),(kk 12)]),mv 5 10] [0,1,4,5]) (.seq (.seq (rn [mv 11 1,bk 12 .leq 11 0] [0,1,4,5,12]) (.cond (.t 12) (rn [mv 13 5,bk 14 .rem 13 6,mv 5 14] [0,1,4,5]) (.skip))) (.seq (.seq (rn [mv 15 5] [0,1,4,15]) (.block 0 (.seq (.seq (rn [bk 17 .eql 15 0,mv 16 17] [0,1,4,15,16]) (.cond (.t 16) (.skip) (rn [bk 18 .eql 15 1,mv 16 18] [0,1,4,15,16]))) (.cond (.t 16) (.seq (rn [jj 19 (.bslice 8 [zN,zN,zN,zN,zN,zN,zN,zN] [(0,1,(kk 0)),(1,1,(kk 1)),(2,1,(kk 2)),(3,1,(kk 3)),(4,1,(kk 7)),(5,1,(kk 100)),(6,1,(kk 1024)),(7,1,(kk 2147483647))]),mv 20 0,jj 21 (.call 136 [(.t 20),(kk 8)]),jj 22 (.indexAddr 1 (.t 19) (.t 21)),l1 23 22,jj 24 (.build [zN,zN,eN,sN] [(0,1,(kk 8)),(1,1,(.t 23))]),st 4 4 24] [4]) (.ret)) (.seq (.seq (rn [bk 26 .eql 15 2,mv 25 26] [0,1,4,15,25]) (.cond (.t 25) (.skip) (rn [bk 27 .eql 15 3,mv 25 27] [0,1,4,15,25]))) (.cond (.t 25) (.seq (rn [jj 28 (.bslice 4 [eN,eN,eN,eN] [(0,1,(.c (.string ⟨#[105]⟩))),(1,1,(.c (.string ⟨#[110]⟩))),(2,1,(.c (.string ⟨#[115,117,109]⟩))),(3,1,(.c (.string ⟨#[118,51]⟩)))]),mv 29 0,jj 30 (.call 136 [(.t 29),(kk 4)]),jj 31 (.indexAddr 1 (.t 28) (.t 30)),l1 32 31,jj 33 (.build [zN,zN,eN,sN] [(0,1,(kk 10)),(2,1,(.t 32))]),st 4 4 33] [4]) (.ret)) (.seq (.seq (rn [bk 35 .eql 15 4,mv 34 35] [0,1,4,15,34]) (.cond (.t 34) (.skip) (rn [bk 36 .eql 15 5,mv 34 36] [0,1,4,15,34]))) (.cond (.t 34) (.seq (rn [jj 37 (.bslice 3 [eN,eN,eN] [(0,1,(.c (.string ⟨#[115,101,108,102]⟩))),(1,1,(.c (.string ⟨#[111,116,104,101,114]⟩))),(2,1,(.c (.string ⟨#[116,105,99,107]⟩)))]),mv 38 0,jj 39 (.call 136 [(.t 38),(kk 3)]),jj 40 (.indexAddr 1 (.t 37) (.t 39)),l1 41 40,jj 42 (.build [zN,zN,eN,sN] [(0,1,(kk 12)),(2,1,(.t 41))]),st 4 4 42] [4]) (.ret)) (.seq (.seq (rn [bk 44 .eql 15 6,mv 43 44] [0,1,4,15,43]) (.cond (.t 43) (.skip) (rn [bk 45 .eql 15 7,mv 43 45] [0,1,4,15,43]))) (.cond (.t 43) (.seq (rn [jj 46 (.bslice 8 [eN,eN,eN,eN,eN,eN,eN,eN] [(0,1,(.c (.string ⟨#[120]⟩))),(1,1,(.c (.string ⟨#[121]⟩))),(2,1,(.c (.string ⟨#[118,120]⟩))),(3,1,(.c (.string ⟨#[118,121]⟩))),(4,1,(.c (.string ⟨#[97]⟩))),(5,1,(.c (.string ⟨#[98]⟩))),(6,1,(.c (.string ⟨#[104,105,116]⟩))),(7,1,(.c (.string ⟨#[115,116,105,108,108]⟩)))]),mv 47 0,jj 48 (.call 136 [(.t 47),(kk 8)]),jj 49 (.indexAddr 1 (.t 46) (.t 48)),l1 50 49,mv 6 50] [0,1,4,6]) (.seq (rn [mv 51 6,mv 52 0,mv 53 1,bk 54 .sub 53 1,cl 55 177 [52,54],jj 56 (.call 176 [(kk 11),(.t 51),(.t 55)]),st 4 4 56] [4]) (.ret))) (.seq (rn [bk 58 .eql 15 8,mv 57 58] [0,1,4,57]) (.cond (.t 57) (.seq (rn [mv 59 0,mv 60 1,bk 61 .sub 60 1,cl 62 177 [59,61],jj 63 (.call 176 [(kk 13),(.c (.string ⟨#[45]⟩)),(.t 62)]),st 4 4 63] [4]) (.ret)) (.skip))))))))))))) (.seq (rn [jj 64 (.bslice 4 [eN,eN,eN,eN] [(0,1,(.c (.string ⟨#[43]⟩))),(1,1,(.c (.string ⟨#[45]⟩))),(2,1,(.c (.string ⟨#[42]⟩))),(3,1,(.c (.string ⟨#[47]⟩)))]),mv 65 0,jj 66 (.call 136 [(.t 65),(kk 4)]),jj 67 (.indexAddr 1 (.t 64) (.t 66)),l1 68 67,mv 7 68] [0,1,4,7]) (.seq (rn [mv 69 0,mv 70 1,bk 71 .sub 70 1,cl 72 177 [69,71],jj 8 (.alloc [zN,zN,eN,sN]),st 4 8 72] [0,1,4,7,8]) (.seq (.region (some []) [mv 73 7,⟨some 74,.load true 4 (.t 8),none,[5]⟩,mv 75 0,mv 76 1,bk 77 .sub 76 1,cl 78 177 [75,77],jj 79 (.call 178 [(kk 14),(.t 73),(.t 74),(.t 78)]),st 4 4 79] [4] [5,6]) (.ret))))))),false,false,false⟩
def F178:PFun:=⟨4,[.cell 8 true 4],.seq (rn [bx 6 2,bx 7 3,jj 8 (.alloc [zN,zN,eN,sN])] [0,1,6,7,8]) (.seq (rn [mv 9 0,mv 10 1,la 11 4 6,la 12 4 7,jj 13 (.bslice 2 [zN,zN,eN,sN,zN,zN,eN,sN] [(0,4,(.t 11)),(4,4,(.t 12))]),jj 14 (.build [zN,zN,eN,sN] [(0,1,(.t 9)),(2,1,(.t 10)),(3,1,(.t 13))]),st 4 8 14] [8]) (.ret)),false,false,false⟩
def F179:PFun:=⟨2,[.cell 4 true 4],.seq (rn [jj 4 (.alloc [zN,zN,eN,sN])] [0,1,4]) (.seq (rn [mv 10 0,jj 11 (.call 136 [(.t 10),(kk 8)]),mv 5 11] [0,1,4,5]) (.seq (.seq (rn [mv 12 1,bk 13 .leq 12 0] [0,1,4,5,13]) (.cond (.t 13) (rn [mv 14 5,bk 15 .rem 14 4,mv 5 15] [0,1,4,5]) (.skip))) (.seq (.seq (rn [mv 16 5] [0,1,4,16]) (.block 0 (.seq (rn [bk 18 .eql 16 0,mv 17 18] [0,1,4,16,17]) (.cond (.t 17) (.seq (rn [mv 19 0,jj 20 (.call 136 [(.t 19),(kk 2)]),jj 21 (.build [zN,zN,eN,sN] [(0,1,(kk 9)),(1,1,(.t 20))]),st 4 4 21] [4]) (.ret)) (.seq (.seq (rn [bk 23 .eql 16 1,mv 22 23] [0,1,4,16,22]) (.cond (.t 22) (.skip) (.seq (rn [bk 24 .eql 16 2,mv 22 24] [0,1,4,16,22]) (.cond (.t 22) (.skip) (.seq (rn [bk 25 .eql 16 3,mv 22 25] [0,1,4,16,22]) (.cond (.t 22) (.skip) (rn [bk 26 .eql 16 4,mv 22 26] [0,1,4,16,22]))))))) (.cond (.t 22) (.seq (rn [jj 27 (.bslice 6 [eN,eN,eN,eN,eN,eN] [(0,1,(.c (.string ⟨#[60]⟩))),(1,1,(.c (.string ⟨#[60,61]⟩))),(2,1,(.c (.string ⟨#[62]⟩))),(3,1,(.c (.string ⟨#[62,61]⟩))),(4,1,(.c (.string ⟨#[61,61]⟩))),(5,1,(.c (.string ⟨#[33,61]⟩)))]),mv 28 0,jj 29 (.call 136 [(.t 28),(kk 6)]),jj 30 (.indexAddr 1 (.t 27) (.t 29)),l1 31 30,mv 6 31] [0,1,4,6]) (.seq (rn [mv 32 0,mv 33 1,bk 34 .sub 33 1,cl 35 177 [32,34],jj 7 (.alloc [zN,zN,eN,sN]),st 4 7 35] [0,1,4,6,7]) (.seq (.region (some []) [mv 36 6,⟨some 37,.load true 4 (.t 7),none,[5]⟩,mv 38 0,mv 39 1,bk 40 .sub 39 1,cl 41 177 [38,40],jj 42 (.call 178 [(kk 14),(.t 36),(.t 37),(.t 41)]),st 4 4 42] [4] [5,6]) (.ret)))) (.seq (rn [bk 44 .eql 16 5,mv 43 44] [0,1,4,43]) (.cond (.t 43) (.seq (rn [mv 45 0,mv 46 1,bk 47 .sub 46 1,cl 48 179 [45,47],jj 49 (.call 176 [(kk 13),(.c (.string ⟨#[33]⟩)),(.t 48)]),st 4 4 49] [4]) (.ret)) (.skip))))))))) (.seq (rn [jj 50 (.bslice 2 [eN,eN] [(0,1,(.c (.string ⟨#[38,38]⟩))),(1,1,(.c (.string ⟨#[124,124]⟩)))]),mv 51 0,jj 52 (.call 136 [(.t 51),(kk 2)]),jj 53 (.indexAddr 1 (.t 50) (.t 52)),l1 54 53,mv 8 54] [0,1,4,8]) (.seq (rn [mv 55 0,mv 56 1,bk 57 .sub 56 1,cl 58 179 [55,57],jj 9 (.alloc [zN,zN,eN,sN]),st 4 9 58] [0,1,4,8,9]) (.seq (.region (some []) [mv 59 8,⟨some 60,.load true 4 (.t 9),none,[5]⟩,mv 61 0,mv 62 1,bk 63 .sub 62 1,cl 64 179 [61,63],jj 65 (.call 178 [(kk 14),(.t 59),(.t 60),(.t 64)]),st 4 4 65] [4] [5,6]) (.ret))))))),false,false,false⟩
end Go.Pm.F
end SF3g
section SF5
namespace Go.Pm.F
variable (C:Task->Option Res) (q:Nat) (fr:Fr) (σ : S)
def effRows15:List (List Int):=[[0,0],[0,1],[0,1],[1,0],[1,1],[2,0],[0,1],[0,1],[0,1],[2,1],[2,1],[2,1],[2,1],[1,1],[2,1],[2,1],[2,1],[1,1],[0,0],[1,0],[2,0],[0,0]]
def qgC:List D:=effRows15.flatten.map fun n => .lit (.int .i64 n)
end Go.Pm.F
end SF5
section STb15
namespace Go.Pm.F
def qe5:Nat->Option PFun
 | 17=>some F17
 | 136=>some F136
 | 176=>some F176
 | 177=>some F177
 | 178=>some F178
 | 179=>some F179
 | 192=>some F192
 | 193=>some F193
 | _=>none
end Go.Pm.F
end STb15
section SGc
namespace Go.Pm
def E.cost:E->Nat
 | .int n=>(qhb n.toNat).length+1
 | .bool n=>if n=0 then 6 else 5
 | .var s=>s.size+1
 | .name s=>s.size+1
 | .field _ s e=>s.size+5+e.cost
 | .un _ _ e=>6+e.cost
 | .bin _ o a b=>o.str.size+5+(a.cost+b.cost)
def Ss.cost:Ss->Nat
 | .nil=>0
 | .assign _ s e r=>s.size+5+e.cost+r.cost
 | .store _ s a b r=>s.size+9+(a.cost+b.cost)+r.cost
 | .effect _ a b r=>11+(a.cost+b.cost)+r.cost
 | .stop r=>7+r.cost
 | .cond w _ c b r=>(if w then 6 else 3)+c.cost+b.cost+r.cost
 | .block _ b r=>4+b.cost+((if qqP r then 5 else 0)+r.cost)
def Co (c0:Int) (cost:Nat) (xs:List Int) (i i':Int):Prop:=i<=i'/\(i'<=i\/i'<=xs.length)/\(cost:Int)<=c0+24*(i'-i)
end Go.Pm
end SGc
