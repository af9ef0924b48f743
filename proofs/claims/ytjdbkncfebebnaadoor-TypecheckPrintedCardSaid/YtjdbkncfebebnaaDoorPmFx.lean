/- The abstract machine's program, printed by a program of our own: group x. The abstract machine's programs: tables of functions. Chapter 13's printer: bytes of words. Chapter 13's printer: the builder of strings, tokens put down. Chapter 13's printer: tokens put down. The printers: levels, tokens of good trees. No program in sight. The abstract machine's programs: tables of functions. Chapter 13's reference parser: letters, digits, rows of strings, numbers. Chapter 13's reference parser: white space, comments. Chapter 13's reference parser: a token. Chapter 13's reference parser: all tokens of a source. Chapter 13's reference parser: the parser's state; what it looks at, takes, expects. Chapter 13's reference parser: its states, good and behind an error, against the plain tokens. Chapter 13's reference parser: each kind of statement. Chapter 13's reference parser: handlers; a whole source. Chapter 13's reference parser: Parse is the plain one. The rule language in plain Lean: texts of tokens; tokens left out; how long a source is. No program in sight. The rule language in plain Lean: what the parser makes of expressions is good, no deeper, no longer. No program in sight. The rule language in plain Lean: what the parser makes of statements and programs is good, no deeper, no longer. No program in sight. The rule language in plain Lean: tokens with white space and comments between them. No program in sight. The rule language in plain Lean: what Parse makes of a source is good and no longer; printed, it is read back. No program in sight. -/
import Derived.Test.YtjdbkncfebebnaaDoorPmYh
import Derived.Test.YtjdbkncfebebnaaDoorPmF3
import Derived.Test.YtjdbkncfebebnaaDoorPmEt
import Derived.Test.YtjdbkncfebebnaaDoorPmY
set_option linter.unusedSimpArgs false
set_option linter.unusedVariables false
section SFx
namespace Go.Pm.F
variable (C:Task->Option Res) (q:Nat) (fr:Fr) (σ : S)
def G_internal_strconv_uint64pow10:List D:=(List.range 20).map fun i => .lit (.int .u64 (10 ^ i:Nat))
def F245:PFun:=⟨1,[.tmp 2],.seq (rn [jj 2 (.mov (.c (.string ⟨#[]⟩)))] [0]) (.seq (.region (some []) [mv 3 0,nc 4 3,fa 5 1 4,l1 6 5,jj 7 (.usd (.t 6)),mv 8 0,nc 9 8,fa 10 1 9,l1 11 10,ls 12 11,jj 13 (.ustr [3] (.t 7) (.t 12)),mv 2 13] [2]) (.ret)),false,false,false⟩
def F258:PFun:=⟨2,[.tmp 4],.seq (rn [jj 4 (.mov (.c .nilIface))] [0,1]) (.seq (rn [mv 5 0,cl 6 272 [5]] [0,1]) (.seq (rn [mv 7 0,mv 8 0,nc 9 8,fa 10 1 9,l1 11 10,mv 12 1,jj 13 (.bsliceO 1 1 [(.lit (.int .u8 0))] [(0,1,(.t 12))]),jj 14 (.appendT 3 1 1 (.t 11) (.t 13)),nc 15 7,fa 16 1 15,st 1 16 14] []) (.seq (rn [jj 4 (.mov (.c .nilIface))] [4]) (.ret)))),false,false,false⟩
def F259:PFun:=⟨2,[.tmp 4,.tmp 5],.seq (rn [mx 4 (kk 0),jj 5 (.mov (.c .nilIface))] [0,1]) (.seq (rn [mv 6 0,cl 7 272 [6]] [0,1]) (.seq (rn [mv 8 0,mv 9 0,nc 10 9,fa 11 1 10,l1 12 11,mv 13 1,jj 14 (.appendT 3 1 1 (.t 12) (.t 13)),nc 15 8,fa 16 1 15,st 1 16 14] [1]) (.seq (rn [mv 17 1,lz 18 17,mv 4 18,jj 5 (.mov (.c .nilIface))] [4,5]) (.ret)))),false,false,false⟩
def F268:PFun:=⟨2,[.tmp 4],.seq (rn [mx 4 (kk 0)] [0,1]) (.seq (rn [mv 5 0,mv 6 1,cl 7 275 [5,6],mv 4 7] [4]) (.ret)),false,false,false⟩
def F272:PFun:=⟨1,[],.seq (rn [mv 2 0,nc 3 2,fa 4 0 3,l1 5 4,jj 6 (.isnil true false (.t 5))] [0,6]) (.cond (.t 6) (rn [mv 7 0,mv 8 0,jj 9 (.up (.t 8)),mv 10 9,jj 11 (.down [(4,3)] (.t 10)),nc 12 7,fa 13 0 12,st 1 13 11] []) (.seq (rn [mv 14 0,nc 15 14,fa 16 0 15,l1 17 16,mv 18 0,jj 19 (.peq true (.t 17) (.t 18))] [19]) (.cond (.t 19) (.cond (.c .nilIface) (.skip) (.skip)) (.skip)))),false,false,false⟩
def F275:PFun:=⟨2,[.tmp 4],.seq (rn [mx 4 (kk 0)] [0,1]) (.seq (rn [mv 5 0,mv 6 1,jj 7 (.idxb (.t 5) (.t 6)),mv 4 7] [4]) (.ret)),false,false,false⟩
def F276:PFun:=⟨2,[.tmp 4],.seq (rn [mx 4 kF] [0,1]) (.seq (rn [mv 5 0,mv 6 1,cl 7 284 [5,6],bk 8 .geq 7 0,mv 4 8] [4]) (.ret)),false,false,false⟩
def F283:PFun:=⟨1,[.tmp 2],.seq (rn [jj 2 (.mov (.c (.string ⟨#[]⟩)))] [0]) (.seq (rn [mv 3 0,cl 4 288 [3],mv 2 4] [2]) (.ret)),false,false,false⟩
@[simp] def F284l0x:PC:=(.seq (rn [bn 9 .lss 8 7] [0,1,7,8,9]) (.seq (.cond (.t 9) (.skip) (.exit 0)) (.seq (.block 1 (.seq (rn [mv 10 8,mv 5 10] [0,1,5,7,8]) (.seq (rn [mv 11 1,mv 12 0,mv 13 5,jj 14 (.indexAddr 1 (.t 12) (.t 13)),l1 15 14,bn 16 .eql 11 15] [0,1,5,7,8,16]) (.cond (.t 16) (.seq (rn [mv 17 5,mv 4 17] [4]) (.ret)) (.skip))))) (rn [bk 18 .add 8 1,mv 8 18] [0,1,7,8]))))
def F284l0:PC:=F284l0x
theorem qeR:run C q F284l0 fr σ = run C q F284l0x fr σ := rfl
def F284:PFun:=⟨2,[.tmp 4],.seq (rn [mx 4 (kk 0)] [0,1]) (.seq (.seq (rn [mv 6 0,ls 7 6,mx 8 (kk 0)] [0,1,7,8]) (.block 0 (.loop F284l0))) (.seq (rn [mx 4 (kk (-1))] [4]) (.ret))),false,false,false⟩
def F288:PFun:=⟨1,[.tmp 2],.seq (rn [jj 2 (.mov (.c (.string ⟨#[]⟩)))] [0]) (.seq (rn [mv 3 0,jj 4 (.call 291 [(.t 3),(kk 10)]),mv 2 4] [2]) (.ret)),false,false,false⟩
def F291:PFun:=⟨2,[.tmp 4],.seq (rn [jj 4 (.mov (.c (.string ⟨#[]⟩)))] [0,1]) (.seq (.seq (rn [mv 10 1,bk 11 .eql 10 10] [0,1,11]) (.cond (.t 11) (.seq (.seq (rn [mv 12 0,jj 13 (.bin .leq (kk 0) (.t 12)),mv 14 13,jt 15 14 (.mov (.t 0)),jt 16 14 (.bin .lss (.t 15) (kk 100)),jj 17 (.pick (.t 14) (.t 16) kF)] [0,17]) (.cond (.t 17) (.seq (rn [mv 18 0,cl 19 293 [18],mv 4 19] [4]) (.ret)) (.skip))) (.seq (rn [jj 5 (.alloc [(.lit (.int .u8 0)),(.lit (.int .u8 0)),(.lit (.int .u8 0)),(.lit (.int .u8 0)),(.lit (.int .u8 0)),(.lit (.int .u8 0)),(.lit (.int .u8 0)),(.lit (.int .u8 0)),(.lit (.int .u8 0)),(.lit (.int .u8 0)),(.lit (.int .u8 0)),(.lit (.int .u8 0)),(.lit (.int .u8 0)),(.lit (.int .u8 0)),(.lit (.int .u8 0)),(.lit (.int .u8 0)),(.lit (.int .u8 0)),(.lit (.int .u8 0)),(.lit (.int .u8 0)),(.lit (.int .u8 0)),(.lit (.int .u8 0)),(.lit (.int .u8 0)),(.lit (.int .u8 0)),(.lit (.int .u8 0))])] [0,5]) (.seq (rn [mv 20 0,jj 21 (.conv (.int .u64) (.t 20)),mv 6 21] [0,5,6]) (.seq (.seq (rn [mv 22 0,bk 23 .lss 22 0] [0,5,6,23]) (.cond (.t 23) (rn [mv 24 6,jj 25 (.un .neg (.t 24)),mv 6 25] [0,5,6]) (.skip))) (.seq (rn [mv 26 6,cl 27 294 [26],mv 7 27] [0,5,6,7]) (.seq (rn [mv 28 7,jj 29 (.bin .add (kk 1) (.t 28)),jj 30 (.sliceA 24 1 (.t 5) (some (kk 1)) (some (.t 29))),mv 31 6,cl 32 295 [30,31]] [0,5,7]) (.seq (.seq (rn [mv 33 0,bk 34 .lss 33 0] [5,7,34]) (.cond (.t 34) (.seq (rn [jj 35 (.indexAddrA 24 1 (.t 5) (kk 0)),jn (.store 1 (.t 35) (.c (.int .u8 45)))] [5,7]) (.seq (rn [mv 36 7,jj 37 (.bin .add (kk 1) (.t 36)),jj 38 (.sliceA 24 1 (.t 5) none (some (.t 37))),jj 39 (.bstr (.t 38)),mv 4 39] [4]) (.ret))) (.skip))) (.seq (rn [mv 40 7,jj 41 (.bin .add (kk 1) (.t 40)),jj 42 (.sliceA 24 1 (.t 5) (some (kk 1)) (some (.t 41))),jj 43 (.bstr (.t 42)),mv 4 43] [4]) (.ret))))))))) (.skip))) (.seq (rn [mv 45 0,jj 46 (.conv (.int .u64) (.t 45)),mv 47 1,mv 48 0,bk 49 .lss 48 0,jj 50 (.call 296 [(.c (.slice none 0 0)),(.t 46),(.t 47),(.t 49),kF]),mv 44 50,ex 51 44 0,ex 52 44 1,mv 8 51,mv 9 52] [9]) (.seq (rn [mv 53 9,mv 4 53] [4]) (.ret)))),false,false,false⟩
def F293:PFun:=⟨1,[.tmp 2],.seq (rn [jj 2 (.mov (.c (.string ⟨#[]⟩)))] [0]) (.seq (.seq (rn [mv 3 0,bk 4 .lss 3 10] [0,4]) (.cond (.t 4) (.seq (rn [mv 5 0,mv 6 0,bk 7 .add 6 1,jj 8 (.sliceS (.c (.string ⟨#[48,49,50,51,52,53,54,55,56,57,97,98,99,100,101,102,103,104,105,106,107,108,109,110,111,112,113,114,115,116,117,118,119,120,121,122]⟩)) (some (.t 5)) (some (.t 7))),mv 2 8] [2]) (.ret)) (.skip))) (.seq (rn [mv 9 0,bk 10 .mul 9 2,mv 11 0,bk 12 .mul 11 2,bk 13 .add 12 2,jj 14 (.sliceS (.c (.string ⟨#[48,48,48,49,48,50,48,51,48,52,48,53,48,54,48,55,48,56,48,57,49,48,49,49,49,50,49,51,49,52,49,53,49,54,49,55,49,56,49,57,50,48,50,49,50,50,50,51,50,52,50,53,50,54,50,55,50,56,50,57,51,48,51,49,51,50,51,51,51,52,51,53,51,54,51,55,51,56,51,57,52,48,52,49,52,50,52,51,52,52,52,53,52,54,52,55,52,56,52,57,53,48,53,49,53,50,53,51,53,52,53,53,53,54,53,55,53,56,53,57,54,48,54,49,54,50,54,51,54,52,54,53,54,54,54,55,54,56,54,57,55,48,55,49,55,50,55,51,55,52,55,53,55,54,55,55,55,56,55,57,56,48,56,49,56,50,56,51,56,52,56,53,56,54,56,55,56,56,56,57,57,48,57,49,57,50,57,51,57,52,57,53,57,54,57,55,57,56,57,57]⟩)) (some (.t 10)) (some (.t 13))),mv 2 14] [2]) (.ret))),false,false,false⟩
def F294:PFun:=⟨1,[.tmp 2],.seq (rn [mx 2 (kk 0)] [0]) (.seq (rn [mv 4 0,cl 5 299 [4],cl 6 298 [5],mv 3 6] [0,3]) (.seq (rn [mv 7 3,mv 8 0,mv 9 3,jj 10 (.indexAddrA 20 1 (.g G_internal_strconv_uint64pow10) (.t 9)),l1 11 10,bn 12 .geq 8 11,cl 13 300 [12],bn 14 .add 7 13,mv 2 14] [2]) (.ret))),false,false,false⟩
@[simp] def F295l0x:PC:=(.seq (.seq (rn [mv 19 4,bk 20 .geq 19 8] [0,1,4,20]) (.cond (.t 20) (.skip) (.exit 0))) (.block 1 (.seq (rn [mv 21 1,jj 22 (.bin .rem (.t 21) (.c (.int .u64 100000000))),jj 23 (.conv (.int .u32) (.t 22)),mv 5 23] [0,1,4,5]) (.seq (rn [mv 24 1,jj 25 (.bin .quo (.t 24) (.c (.int .u64 100000000))),mv 1 25] [0,1,4,5]) (.seq (rn [mv 26 5,jj 27 (.bin .quo (.t 26) (.c (.int .u32 10000))),mv 28 5,jj 29 (.bin .rem (.t 28) (.c (.int .u32 10000))),mv 6 27,mv 7 29] [0,1,4,6,7]) (.seq (rn [mv 30 7,jj 31 (.bin .quo (.t 30) (.c (.int .u32 100))),jj 32 (.bin .mul (.t 31) (.c (.int .u32 2))),mv 33 7,jj 34 (.bin .rem (.t 33) (.c (.int .u32 100))),jj 35 (.bin .mul (.t 34) (.c (.int .u32 2))),mv 8 32,mv 9 35] [0,1,4,6,8,9]) (.seq (rn [mv 36 6,jj 37 (.bin .quo (.t 36) (.c (.int .u32 100))),jj 38 (.bin .mul (.t 37) (.c (.int .u32 2))),mv 39 6,jj 40 (.bin .rem (.t 39) (.c (.int .u32 100))),jj 41 (.bin .mul (.t 40) (.c (.int .u32 2))),mv 10 38,mv 11 41] [0,1,4,8,9,10,11]) (.seq (.region (some []) [mv 42 0,mv 43 4,bk 44 .sub 43 1,mv 45 0,mv 46 4,bk 47 .sub 46 2,mv 48 9,jj 49 (.bin .add (.t 48) (.c (.int .u32 1))),jj 50 (.indexS (.c (.string ⟨#[48,48,48,49,48,50,48,51,48,52,48,53,48,54,48,55,48,56,48,57,49,48,49,49,49,50,49,51,49,52,49,53,49,54,49,55,49,56,49,57,50,48,50,49,50,50,50,51,50,52,50,53,50,54,50,55,50,56,50,57,51,48,51,49,51,50,51,51,51,52,51,53,51,54,51,55,51,56,51,57,52,48,52,49,52,50,52,51,52,52,52,53,52,54,52,55,52,56,52,57,53,48,53,49,53,50,53,51,53,52,53,53,53,54,53,55,53,56,53,57,54,48,54,49,54,50,54,51,54,52,54,53,54,54,54,55,54,56,54,57,55,48,55,49,55,50,55,51,55,52,55,53,55,54,55,55,55,56,55,57,56,48,56,49,56,50,56,51,56,52,56,53,56,54,56,55,56,56,56,57,57,48,57,49,57,50,57,51,57,52,57,53,57,54,57,55,57,56,57,57]⟩)) (.t 49)),mv 51 9,jj 52 (.indexS (.c (.string ⟨#[48,48,48,49,48,50,48,51,48,52,48,53,48,54,48,55,48,56,48,57,49,48,49,49,49,50,49,51,49,52,49,53,49,54,49,55,49,56,49,57,50,48,50,49,50,50,50,51,50,52,50,53,50,54,50,55,50,56,50,57,51,48,51,49,51,50,51,51,51,52,51,53,51,54,51,55,51,56,51,57,52,48,52,49,52,50,52,51,52,52,52,53,52,54,52,55,52,56,52,57,53,48,53,49,53,50,53,51,53,52,53,53,53,54,53,55,53,56,53,57,54,48,54,49,54,50,54,51,54,52,54,53,54,54,54,55,54,56,54,57,55,48,55,49,55,50,55,51,55,52,55,53,55,54,55,55,55,56,55,57,56,48,56,49,56,50,56,51,56,52,56,53,56,54,56,55,56,56,56,57,57,48,57,49,57,50,57,51,57,52,57,53,57,54,57,55,57,56,57,57]⟩)) (.t 51)),jj 53 (.indexAddr 1 (.t 42) (.t 44)),st 1 53 50,jj 54 (.indexAddr 1 (.t 45) (.t 47)),st 1 54 52] [0,1,4,8,10,11]) (.seq (.region (some []) [mv 55 0,mv 56 4,bk 57 .sub 56 3,mv 58 0,mv 59 4,bk 60 .sub 59 4,mv 61 8,jj 62 (.bin .add (.t 61) (.c (.int .u32 1))),jj 63 (.indexS (.c (.string ⟨#[48,48,48,49,48,50,48,51,48,52,48,53,48,54,48,55,48,56,48,57,49,48,49,49,49,50,49,51,49,52,49,53,49,54,49,55,49,56,49,57,50,48,50,49,50,50,50,51,50,52,50,53,50,54,50,55,50,56,50,57,51,48,51,49,51,50,51,51,51,52,51,53,51,54,51,55,51,56,51,57,52,48,52,49,52,50,52,51,52,52,52,53,52,54,52,55,52,56,52,57,53,48,53,49,53,50,53,51,53,52,53,53,53,54,53,55,53,56,53,57,54,48,54,49,54,50,54,51,54,52,54,53,54,54,54,55,54,56,54,57,55,48,55,49,55,50,55,51,55,52,55,53,55,54,55,55,55,56,55,57,56,48,56,49,56,50,56,51,56,52,56,53,56,54,56,55,56,56,56,57,57,48,57,49,57,50,57,51,57,52,57,53,57,54,57,55,57,56,57,57]⟩)) (.t 62)),mv 64 8,jj 65 (.indexS (.c (.string ⟨#[48,48,48,49,48,50,48,51,48,52,48,53,48,54,48,55,48,56,48,57,49,48,49,49,49,50,49,51,49,52,49,53,49,54,49,55,49,56,49,57,50,48,50,49,50,50,50,51,50,52,50,53,50,54,50,55,50,56,50,57,51,48,51,49,51,50,51,51,51,52,51,53,51,54,51,55,51,56,51,57,52,48,52,49,52,50,52,51,52,52,52,53,52,54,52,55,52,56,52,57,53,48,53,49,53,50,53,51,53,52,53,53,53,54,53,55,53,56,53,57,54,48,54,49,54,50,54,51,54,52,54,53,54,54,54,55,54,56,54,57,55,48,55,49,55,50,55,51,55,52,55,53,55,54,55,55,55,56,55,57,56,48,56,49,56,50,56,51,56,52,56,53,56,54,56,55,56,56,56,57,57,48,57,49,57,50,57,51,57,52,57,53,57,54,57,55,57,56,57,57]⟩)) (.t 64)),jj 66 (.indexAddr 1 (.t 55) (.t 57)),st 1 66 63,jj 67 (.indexAddr 1 (.t 58) (.t 60)),st 1 67 65] [0,1,4,10,11]) (.seq (.region (some []) [mv 68 0,mv 69 4,bk 70 .sub 69 5,mv 71 0,mv 72 4,bk 73 .sub 72 6,mv 74 11,jj 75 (.bin .add (.t 74) (.c (.int .u32 1))),jj 76 (.indexS (.c (.string ⟨#[48,48,48,49,48,50,48,51,48,52,48,53,48,54,48,55,48,56,48,57,49,48,49,49,49,50,49,51,49,52,49,53,49,54,49,55,49,56,49,57,50,48,50,49,50,50,50,51,50,52,50,53,50,54,50,55,50,56,50,57,51,48,51,49,51,50,51,51,51,52,51,53,51,54,51,55,51,56,51,57,52,48,52,49,52,50,52,51,52,52,52,53,52,54,52,55,52,56,52,57,53,48,53,49,53,50,53,51,53,52,53,53,53,54,53,55,53,56,53,57,54,48,54,49,54,50,54,51,54,52,54,53,54,54,54,55,54,56,54,57,55,48,55,49,55,50,55,51,55,52,55,53,55,54,55,55,55,56,55,57,56,48,56,49,56,50,56,51,56,52,56,53,56,54,56,55,56,56,56,57,57,48,57,49,57,50,57,51,57,52,57,53,57,54,57,55,57,56,57,57]⟩)) (.t 75)),mv 77 11,jj 78 (.indexS (.c (.string ⟨#[48,48,48,49,48,50,48,51,48,52,48,53,48,54,48,55,48,56,48,57,49,48,49,49,49,50,49,51,49,52,49,53,49,54,49,55,49,56,49,57,50,48,50,49,50,50,50,51,50,52,50,53,50,54,50,55,50,56,50,57,51,48,51,49,51,50,51,51,51,52,51,53,51,54,51,55,51,56,51,57,52,48,52,49,52,50,52,51,52,52,52,53,52,54,52,55,52,56,52,57,53,48,53,49,53,50,53,51,53,52,53,53,53,54,53,55,53,56,53,57,54,48,54,49,54,50,54,51,54,52,54,53,54,54,54,55,54,56,54,57,55,48,55,49,55,50,55,51,55,52,55,53,55,54,55,55,55,56,55,57,56,48,56,49,56,50,56,51,56,52,56,53,56,54,56,55,56,56,56,57,57,48,57,49,57,50,57,51,57,52,57,53,57,54,57,55,57,56,57,57]⟩)) (.t 77)),jj 79 (.indexAddr 1 (.t 68) (.t 70)),st 1 79 76,jj 80 (.indexAddr 1 (.t 71) (.t 73)),st 1 80 78] [0,1,4,10]) (.seq (.region (some []) [mv 81 0,mv 82 4,bk 83 .sub 82 7,mv 84 0,mv 85 4,bk 86 .sub 85 8,mv 87 10,jj 88 (.bin .add (.t 87) (.c (.int .u32 1))),jj 89 (.indexS (.c (.string ⟨#[48,48,48,49,48,50,48,51,48,52,48,53,48,54,48,55,48,56,48,57,49,48,49,49,49,50,49,51,49,52,49,53,49,54,49,55,49,56,49,57,50,48,50,49,50,50,50,51,50,52,50,53,50,54,50,55,50,56,50,57,51,48,51,49,51,50,51,51,51,52,51,53,51,54,51,55,51,56,51,57,52,48,52,49,52,50,52,51,52,52,52,53,52,54,52,55,52,56,52,57,53,48,53,49,53,50,53,51,53,52,53,53,53,54,53,55,53,56,53,57,54,48,54,49,54,50,54,51,54,52,54,53,54,54,54,55,54,56,54,57,55,48,55,49,55,50,55,51,55,52,55,53,55,54,55,55,55,56,55,57,56,48,56,49,56,50,56,51,56,52,56,53,56,54,56,55,56,56,56,57,57,48,57,49,57,50,57,51,57,52,57,53,57,54,57,55,57,56,57,57]⟩)) (.t 88)),mv 90 10,jj 91 (.indexS (.c (.string ⟨#[48,48,48,49,48,50,48,51,48,52,48,53,48,54,48,55,48,56,48,57,49,48,49,49,49,50,49,51,49,52,49,53,49,54,49,55,49,56,49,57,50,48,50,49,50,50,50,51,50,52,50,53,50,54,50,55,50,56,50,57,51,48,51,49,51,50,51,51,51,52,51,53,51,54,51,55,51,56,51,57,52,48,52,49,52,50,52,51,52,52,52,53,52,54,52,55,52,56,52,57,53,48,53,49,53,50,53,51,53,52,53,53,53,54,53,55,53,56,53,57,54,48,54,49,54,50,54,51,54,52,54,53,54,54,54,55,54,56,54,57,55,48,55,49,55,50,55,51,55,52,55,53,55,54,55,55,55,56,55,57,56,48,56,49,56,50,56,51,56,52,56,53,56,54,56,55,56,56,56,57,57,48,57,49,57,50,57,51,57,52,57,53,57,54,57,55,57,56,57,57]⟩)) (.t 90)),jj 92 (.indexAddr 1 (.t 81) (.t 83)),st 1 92 89,jj 93 (.indexAddr 1 (.t 84) (.t 86)),st 1 93 91] [0,1,4]) (rn [mv 94 4,bk 95 .sub 94 8,mv 4 95] [0,1,4]))))))))))))
def F295l0:PC:=F295l0x
def F295:PFun:=⟨2,[],.seq (rn [mv 17 0,ls 18 17,mv 4 18] [0,1,4]) (.seq (.block 0 (.loop F295l0)) (.seq (rn [mv 96 1,jj 97 (.conv (.int .u32) (.t 96)),mv 12 97] [0,4,12]) (.seq (.seq (rn [mv 98 4,bk 99 .geq 98 4] [0,4,12,99]) (.cond (.t 99) (.seq (rn [mv 100 12,jj 101 (.bin .rem (.t 100) (.c (.int .u32 10000))),mv 13 101] [0,4,12,13]) (.seq (rn [mv 102 12,jj 103 (.bin .quo (.t 102) (.c (.int .u32 10000))),mv 12 103] [0,4,12,13]) (.seq (rn [mv 104 13,jj 105 (.bin .quo (.t 104) (.c (.int .u32 100))),jj 106 (.bin .mul (.t 105) (.c (.int .u32 2))),mv 107 13,jj 108 (.bin .rem (.t 107) (.c (.int .u32 100))),jj 109 (.bin .mul (.t 108) (.c (.int .u32 2))),mv 14 106,mv 15 109] [0,4,12,14,15]) (.seq (.region (some []) [mv 110 0,mv 111 4,bk 112 .sub 111 1,mv 113 0,mv 114 4,bk 115 .sub 114 2,mv 116 15,jj 117 (.bin .add (.t 116) (.c (.int .u32 1))),jj 118 (.indexS (.c (.string ⟨#[48,48,48,49,48,50,48,51,48,52,48,53,48,54,48,55,48,56,48,57,49,48,49,49,49,50,49,51,49,52,49,53,49,54,49,55,49,56,49,57,50,48,50,49,50,50,50,51,50,52,50,53,50,54,50,55,50,56,50,57,51,48,51,49,51,50,51,51,51,52,51,53,51,54,51,55,51,56,51,57,52,48,52,49,52,50,52,51,52,52,52,53,52,54,52,55,52,56,52,57,53,48,53,49,53,50,53,51,53,52,53,53,53,54,53,55,53,56,53,57,54,48,54,49,54,50,54,51,54,52,54,53,54,54,54,55,54,56,54,57,55,48,55,49,55,50,55,51,55,52,55,53,55,54,55,55,55,56,55,57,56,48,56,49,56,50,56,51,56,52,56,53,56,54,56,55,56,56,56,57,57,48,57,49,57,50,57,51,57,52,57,53,57,54,57,55,57,56,57,57]⟩)) (.t 117)),mv 119 15,jj 120 (.indexS (.c (.string ⟨#[48,48,48,49,48,50,48,51,48,52,48,53,48,54,48,55,48,56,48,57,49,48,49,49,49,50,49,51,49,52,49,53,49,54,49,55,49,56,49,57,50,48,50,49,50,50,50,51,50,52,50,53,50,54,50,55,50,56,50,57,51,48,51,49,51,50,51,51,51,52,51,53,51,54,51,55,51,56,51,57,52,48,52,49,52,50,52,51,52,52,52,53,52,54,52,55,52,56,52,57,53,48,53,49,53,50,53,51,53,52,53,53,53,54,53,55,53,56,53,57,54,48,54,49,54,50,54,51,54,52,54,53,54,54,54,55,54,56,54,57,55,48,55,49,55,50,55,51,55,52,55,53,55,54,55,55,55,56,55,57,56,48,56,49,56,50,56,51,56,52,56,53,56,54,56,55,56,56,56,57,57,48,57,49,57,50,57,51,57,52,57,53,57,54,57,55,57,56,57,57]⟩)) (.t 119)),jj 121 (.indexAddr 1 (.t 110) (.t 112)),st 1 121 118,jj 122 (.indexAddr 1 (.t 113) (.t 115)),st 1 122 120] [0,4,12,14]) (.seq (.region (some []) [mv 123 0,mv 124 4,bk 125 .sub 124 3,mv 126 0,mv 127 4,bk 128 .sub 127 4,mv 129 14,jj 130 (.bin .add (.t 129) (.c (.int .u32 1))),jj 131 (.indexS (.c (.string ⟨#[48,48,48,49,48,50,48,51,48,52,48,53,48,54,48,55,48,56,48,57,49,48,49,49,49,50,49,51,49,52,49,53,49,54,49,55,49,56,49,57,50,48,50,49,50,50,50,51,50,52,50,53,50,54,50,55,50,56,50,57,51,48,51,49,51,50,51,51,51,52,51,53,51,54,51,55,51,56,51,57,52,48,52,49,52,50,52,51,52,52,52,53,52,54,52,55,52,56,52,57,53,48,53,49,53,50,53,51,53,52,53,53,53,54,53,55,53,56,53,57,54,48,54,49,54,50,54,51,54,52,54,53,54,54,54,55,54,56,54,57,55,48,55,49,55,50,55,51,55,52,55,53,55,54,55,55,55,56,55,57,56,48,56,49,56,50,56,51,56,52,56,53,56,54,56,55,56,56,56,57,57,48,57,49,57,50,57,51,57,52,57,53,57,54,57,55,57,56,57,57]⟩)) (.t 130)),mv 132 14,jj 133 (.indexS (.c (.string ⟨#[48,48,48,49,48,50,48,51,48,52,48,53,48,54,48,55,48,56,48,57,49,48,49,49,49,50,49,51,49,52,49,53,49,54,49,55,49,56,49,57,50,48,50,49,50,50,50,51,50,52,50,53,50,54,50,55,50,56,50,57,51,48,51,49,51,50,51,51,51,52,51,53,51,54,51,55,51,56,51,57,52,48,52,49,52,50,52,51,52,52,52,53,52,54,52,55,52,56,52,57,53,48,53,49,53,50,53,51,53,52,53,53,53,54,53,55,53,56,53,57,54,48,54,49,54,50,54,51,54,52,54,53,54,54,54,55,54,56,54,57,55,48,55,49,55,50,55,51,55,52,55,53,55,54,55,55,55,56,55,57,56,48,56,49,56,50,56,51,56,52,56,53,56,54,56,55,56,56,56,57,57,48,57,49,57,50,57,51,57,52,57,53,57,54,57,55,57,56,57,57]⟩)) (.t 132)),jj 134 (.indexAddr 1 (.t 123) (.t 125)),st 1 134 131,jj 135 (.indexAddr 1 (.t 126) (.t 128)),st 1 135 133] [0,4,12]) (rn [mv 136 4,bk 137 .sub 136 4,mv 4 137] [0,4,12])))))) (.skip))) (.seq (.seq (rn [mv 138 4,bk 139 .geq 138 2] [0,4,12,139]) (.cond (.t 139) (.seq (rn [mv 140 12,jj 141 (.bin .rem (.t 140) (.c (.int .u32 100))),jj 142 (.bin .mul (.t 141) (.c (.int .u32 2))),mv 16 142] [0,4,12,16]) (.seq (rn [mv 143 12,jj 144 (.bin .quo (.t 143) (.c (.int .u32 100))),mv 12 144] [0,4,12,16]) (.seq (.region (some []) [mv 145 0,mv 146 4,bk 147 .sub 146 1,mv 148 0,mv 149 4,bk 150 .sub 149 2,mv 151 16,jj 152 (.bin .add (.t 151) (.c (.int .u32 1))),jj 153 (.indexS (.c (.string ⟨#[48,48,48,49,48,50,48,51,48,52,48,53,48,54,48,55,48,56,48,57,49,48,49,49,49,50,49,51,49,52,49,53,49,54,49,55,49,56,49,57,50,48,50,49,50,50,50,51,50,52,50,53,50,54,50,55,50,56,50,57,51,48,51,49,51,50,51,51,51,52,51,53,51,54,51,55,51,56,51,57,52,48,52,49,52,50,52,51,52,52,52,53,52,54,52,55,52,56,52,57,53,48,53,49,53,50,53,51,53,52,53,53,53,54,53,55,53,56,53,57,54,48,54,49,54,50,54,51,54,52,54,53,54,54,54,55,54,56,54,57,55,48,55,49,55,50,55,51,55,52,55,53,55,54,55,55,55,56,55,57,56,48,56,49,56,50,56,51,56,52,56,53,56,54,56,55,56,56,56,57,57,48,57,49,57,50,57,51,57,52,57,53,57,54,57,55,57,56,57,57]⟩)) (.t 152)),mv 154 16,jj 155 (.indexS (.c (.string ⟨#[48,48,48,49,48,50,48,51,48,52,48,53,48,54,48,55,48,56,48,57,49,48,49,49,49,50,49,51,49,52,49,53,49,54,49,55,49,56,49,57,50,48,50,49,50,50,50,51,50,52,50,53,50,54,50,55,50,56,50,57,51,48,51,49,51,50,51,51,51,52,51,53,51,54,51,55,51,56,51,57,52,48,52,49,52,50,52,51,52,52,52,53,52,54,52,55,52,56,52,57,53,48,53,49,53,50,53,51,53,52,53,53,53,54,53,55,53,56,53,57,54,48,54,49,54,50,54,51,54,52,54,53,54,54,54,55,54,56,54,57,55,48,55,49,55,50,55,51,55,52,55,53,55,54,55,55,55,56,55,57,56,48,56,49,56,50,56,51,56,52,56,53,56,54,56,55,56,56,56,57,57,48,57,49,57,50,57,51,57,52,57,53,57,54,57,55,57,56,57,57]⟩)) (.t 154)),jj 156 (.indexAddr 1 (.t 145) (.t 147)),st 1 156 153,jj 157 (.indexAddr 1 (.t 148) (.t 150)),st 1 157 155] [0,4,12]) (rn [mv 158 4,bk 159 .sub 158 2,mv 4 159] [0,4,12])))) (.skip))) (.seq (rn [mv 160 4,bk 161 .gtr 160 0] [0,12,161]) (.cond (.t 161) (rn [mv 162 0,mv 163 12,jj 164 (.bin .add (.c (.int .u32 48)) (.t 163)),jj 165 (.conv (.int .u8) (.t 164)),jj 166 (.indexAddr 1 (.t 162) (kk 0)),st 1 166 165] []) (.skip))))))),false,false,false⟩
def F298:PFun:=⟨1,[.tmp 2],.seq (rn [mx 2 (kk 0)] [0]) (.seq (rn [mv 3 0,bk 4 .mul 3 78913,jj 5 (.bin .shr (.t 4) (.c (.int .u64 18))),mv 2 5] [2]) (.ret)),false,false,false⟩
def F299:PFun:=⟨1,[.tmp 2],.seq (rn [mx 2 (kk 0)] [0,2]) (.seq (.seq (rn [mv 3 0,jj 4 (.bin .geq (.t 3) (.c (.int .u64 4294967296)))] [0,2,4]) (.cond (.t 4) (.seq (rn [mv 5 0,jj 6 (.bin .shr (.t 5) (.c (.int .u64 32))),mv 0 6] [0]) (rn [mx 2 (kk 32)] [0,2])) (.skip))) (.seq (.seq (rn [mv 7 0,jj 8 (.bin .geq (.t 7) (.c (.int .u64 65536)))] [0,2,8]) (.cond (.t 8) (.seq (rn [mv 9 0,jj 10 (.bin .shr (.t 9) (.c (.int .u64 16))),mv 0 10] [0,2]) (rn [mv 11 2,bk 12 .add 11 16,mv 2 12] [0,2])) (.skip))) (.seq (.seq (rn [mv 13 0,jj 14 (.bin .geq (.t 13) (.c (.int .u64 256)))] [0,2,14]) (.cond (.t 14) (.seq (rn [mv 15 0,jj 16 (.bin .shr (.t 15) (.c (.int .u64 8))),mv 0 16] [0,2]) (rn [mv 17 2,bk 18 .add 17 8,mv 2 18] [0,2])) (.skip))) (.seq (rn [mv 19 2,mv 20 0,jj 21 (.conv (.int .u8) (.t 20)),jj 22 (.indexS (.c (.string ⟨#[0,1,2,2,3,3,3,3,4,4,4,4,4,4,4,4,5,5,5,5,5,5,5,5,5,5,5,5,5,5,5,5,6,6,6,6,6,6,6,6,6,6,6,6,6,6,6,6,6,6,6,6,6,6,6,6,6,6,6,6,6,6,6,6,7,7,7,7,7,7,7,7,7,7,7,7,7,7,7,7,7,7,7,7,7,7,7,7,7,7,7,7,7,7,7,7,7,7,7,7,7,7,7,7,7,7,7,7,7,7,7,7,7,7,7,7,7,7,7,7,7,7,7,7,7,7,7,7,8,8,8,8,8,8,8,8,8,8,8,8,8,8,8,8,8,8,8,8,8,8,8,8,8,8,8,8,8,8,8,8,8,8,8,8,8,8,8,8,8,8,8,8,8,8,8,8,8,8,8,8,8,8,8,8,8,8,8,8,8,8,8,8,8,8,8,8,8,8,8,8,8,8,8,8,8,8,8,8,8,8,8,8,8,8,8,8,8,8,8,8,8,8,8,8,8,8,8,8,8,8,8,8,8,8,8,8,8,8,8,8,8,8,8,8,8,8,8,8,8,8,8,8,8,8,8,8]⟩)) (.t 21)),jj 23 (.conv (.int .i64) (.t 22)),bn 24 .add 19 23,mv 2 24] [2]) (.ret))))),false,false,false⟩
def F300:PFun:=⟨1,[.tmp 2],.seq (rn [mx 2 (kk 0)] [0]) (.seq (.seq (rn [mv 3 0] [3]) (.cond (.t 3) (.seq (rn [mx 2 (kk 1)] [2]) (.ret)) (.skip))) (.seq (rn [mx 2 (kk 0)] [2]) (.ret))),false,false,false⟩
end Go.Pm.F
end SFx
section STQ
namespace Go.Pm.F
def tQ:Nat->Option PFun
 | 231=>some F231
 | 243=>some F243
 | 244=>some F244
 | 245=>some F245
 | 257=>some F257
 | 258=>some F258
 | 259=>some F259
 | 260=>some F260
 | 264=>some F264
 | 266=>some F266
 | 272=>some F272
 | 273=>some F273
 | 274=>some F274
 | 282=>some F282
 | 283=>some F283
 | 288=>some F288
 | 291=>some F291
 | 293=>some F293
 | 294=>some F294
 | 295=>some F295
 | 298=>some F298
 | 299=>some F299
 | 300=>some F300
 | _=>none
end Go.Pm.F
end STQ
section SOa
namespace Go.Pm
open F
set_option maxHeartbeats 2000000
theorem qop (c:UInt8):Z tQ (.call 264 [.dat (.lit (.int .u8 c.toNat))] [])=some (.ret (.bool (qaQ c)) []):=by
 refine qaa (pf:=F264) rfl rfl ?_
 by_cases h1:(97:Int)<=c.toNat
 ·have h1':97<=c.toNat:=by omega
  by_cases h2:(c.toNat:Int)<=122
  ·have h2':c.toNat<=122:=by omega
   simp[F264,qaQ,h1,h1',h2,h2']
  ·have h2' : ¬ c.toNat<=122:=by omega
   simp[F264,qaQ,h1,h1',h2,h2']
 ·have h1' : ¬ 97<=c.toNat:=by omega
  simp[F264,qaQ,h1,h1']
theorem qp2 (c:UInt8):Z tQ (.call 266 [.dat (.lit (.int .u8 c.toNat))] [])=some (.ret (.bool (qas c)) []):=by
 refine qaa (pf:=F266) rfl rfl ?_
 by_cases h1:(48:Int)<=c.toNat
 ·have h1':48<=c.toNat:=by omega
  by_cases h2:(c.toNat:Int)<=57
  ·have h2':c.toNat<=57:=by omega
   simp[F266,qas,h1,h1',h2,h2']
  ·have h2' : ¬ c.toNat<=57:=by omega
   simp[F266,qas,h1,h1',h2,h2']
 ·have h1' : ¬ 48<=c.toNat:=by omega
  simp[F266,qas,h1,h1']
theorem qlg (c:UInt8):Z tQ (.call 257 [.dat (.lit (.int .u8 c.toNat))] [])=some (.ret (.bool (qaE c)) []):=by
 have z1:=qop c
 have z2:=qp2 c
 refine qaa (pf:=F257) rfl rfl ?_
 unfold qaE
 cases h:qaQ c<;>rw[h] at z1<;>simp[F257,z1,z2]
end Go.Pm
end SOa
section SOb
namespace Go.Pm
open F
set_option maxHeartbeats 4000000
def vb (w:List UInt8):List V:=w.map fun b => .dat (.lit (.int .u8 b.toNat))
theorem qiE (w:List UInt8):(vb w).length=w.length:=by simp[vb]
theorem qqi (a b:List UInt8):vb a++vb b=vb (a++b):=by simp[vb]
theorem qtD (w:List UInt8):(vb w).all V.one=true:=by
 rw[List.all_eq_true]
 intro x hx
 simp only[vb,List.mem_map] at hx
 obtain⟨b,_,rfl⟩:=hx
 rfl
theorem qfj (w:List UInt8):qaI (vb w)=[]:=by
 induction w with
 | nil=>rfl
 | cons x w ih=>simpa [vb] using ih
theorem qhJ (r:Nat->Nat) (w:List UInt8):qdX r (vb w)=vb w:=by
 induction w with
 | nil=>rfl
 | cons x w ih=>simpa [vb] using ih
theorem qg2 (s:ByteArray):(qcs s).map V.dat=vb (byl s):=by
 simp[qcs,vb,byl,List.map_map,Function.comp_def]
theorem qiF (w:List UInt8):qcY (vb w)=some w:=by
 induction w with
 | nil=>rfl
 | cons x w ih=>
  have h:((x.toNat:Int)<256):=by have:=x.toNat_lt; omega
  show qcY (V.dat (.lit (.int .u8 x.toNat))::vb w)=_
  simp[qcY,h,ih]
theorem qtE (w:List UInt8):(∀ x∈vb w,V.one x=true)↔True:=by
 have:=qtD w
 rw[List.all_eq_true] at this
 exact⟨fun _=>trivial,fun _=>this⟩
theorem qiG (t:ByteArray):(∀ x∈qcs t,V.one (.dat x)=true)↔True:=by
 refine⟨fun _=>trivial,fun _ x hx=>?_⟩
 simp only[qcs,List.mem_map] at hx
 obtain⟨b,_,rfl⟩:=hx
 rfl
abbrev PW' (w:List UInt8) (c:Nat):S:=[.cellsT 4 [.ptr 0 0,.own 1 w.length 1,.dat (.lit (.int .u8 c))],.vecT 3 (vb w)]
abbrev PE:S:=[.cellsT 4 [.dat (.lit (.pointer none)),.dat (.lit (.slice none 0 0)),.dat (.lit (.int .u8 0))]]
attribute [local simp] qfj qhJ
theorem qqj (w:List UInt8) (c:Nat):Z tQ (.call 272 [.ptr 0 0] (PW' w c))=some (.ret (.tup []) (PW' w c)):=by
 refine qaa (pf:=F272) rfl rfl ?_
 simp[F272,List.range_succ]
theorem qrw:Z tQ (.call 272 [.ptr 0 0] PE)=some (.ret (.tup []) [.cellsT 4 [.ptr 0 0,.dat (.lit (.slice none 0 0)),.dat (.lit (.int .u8 0))]]):=by
 refine qaa (pf:=F272) rfl rfl ?_
 simp[F272,List.range_succ]
theorem qrx (w:List UInt8) (c:Nat) (b:UInt8) (h:w.length<2 ^ 40):Z tQ (.call 258 [.ptr 0 0,.dat (.lit (.int .u8 b.toNat))] (PW' w c))=some (.ret (.dat (.lit .nilIface)) (PW' (w++[b]) c)):=by
 have z:=qqj w c
 have hr:qaP (w.length+1) 1=true:=by simp[qaP]; omega
 have hv:vb w++[.dat (.lit (.int .u8 b.toNat))]=vb (w++[b]):=qqi w [b]
 have hl:=qiE w
 refine qaa (pf:=F258) rfl rfl ?_
 simp[F258,z,hr,hv,hl,List.range_succ]
theorem qnL (w:List UInt8) (c:Nat) (t:ByteArray) (h:(w++byl t).length<2 ^ 40) (ht:t.size≠0):Z tQ (.call 259 [.ptr 0 0,.str t] (PW' w c))=some (.ret (.tup [.int t.size,.dat (.lit .nilIface)]) (PW' (w++byl t) c)):=by
 have z:=qqj w c
 have hs:=qaw t
 have hr:qaP (w.length+t.size) 1=true:=by rw[List.length_append] at h; simp[qaP]; omega
 have hv:vb w++(qcs t).map V.dat=vb (w++byl t):=by rw[qg2,qqi]
 have hl:=qiE w
 have hb:(qcs t).length=t.size:=by rw[<- List.length_map (f:=V.dat),qg2,qiE,hs]
 have ho:=qiG t
 have hn:(w++byl t).length=w.length+t.size:=by rw[List.length_append,hs]
 have w1:=qag (t.size:Int) (by rw[hn] at h; omega)
 refine qaa (pf:=F259) rfl rfl ?_
 simp[F259,z,hr,hv,hl,hb,ho,hn,ht,hs,V.len,List.range_succ]
theorem qry (t:ByteArray) (h:t.size<2 ^ 40) (ht:t.size≠0):Z tQ (.call 259 [.ptr 0 0,.str t] PE)=some (.ret (.tup [.int t.size,.dat (.lit .nilIface)]) (PW' (byl t) 0)):=by
 have z:=qrw
 have hs:=qaw t
 have hr:qaP t.size 1=true:=by simp[qaP]; omega
 have hb:(qcs t).length=t.size:=by rw[<- List.length_map (f:=V.dat),qg2,qiE,hs]
 have ho:=qiG t
 have hv:(qcs t).map V.dat=vb (byl t):=by rw[qg2]
 refine qaa (pf:=F259) rfl rfl ?_
 simp[F259,z,hr,hb,ho,ht,hs,hv,qiE,qtE,V.len,List.range_succ]
end Go.Pm
end SOb
section SOc
namespace Go.Pm
open F
set_option maxHeartbeats 4000000
def qdM (w:List UInt8):UInt8:=(w.getLast?).getD 0
def wl (w:List UInt8):Bool:=qaE (qdM w)
def pw (w:List UInt8) (ts:List ByteArray):List UInt8:=w++qe8 (wl w) ts
abbrev PW (w:List UInt8):S:=PW' w (qdM w).toNat
theorem qqk:wl []=false:=by decide
theorem qki (w r:List UInt8) (h:r≠[]):qdM (w++r)=qdM r:=by
 unfold qdM
 rw[List.getLast?_append]
 cases hr:r.getLast? with
 | none=>exact absurd (List.getLast?_eq_none_iff.1 hr) h
 | some c=>rfl
theorem qpq (w:List UInt8) (t:ByteArray):qdn (wl w) t=wl (w++(gap (wl w) t++byl t)):=by
 unfold qdn
 cases h:byl t with
 | nil=>
  have hs:qax qaE t=false:=by rw[qby,h]; rfl
  simp[gap,hs]
 | cons c r=>
  have hne:c::r≠[]:=by simp
  rw[<- List.append_assoc,show wl (w++gap (wl w) t++c::r)=qaE (qdM (c::r)) by unfold wl; rw[qki _ _ hne]]
  unfold qdM
  cases hl:(c::r).getLast? with
  | none=>exact absurd (List.getLast?_eq_none_iff.1 hl) hne
  | some d=>rfl
theorem qjo (w:List UInt8) (t:ByteArray) (ts:List ByteArray):pw w (t::ts)=pw (w++(gap (wl w) t++byl t)) ts:=by
 unfold pw
 rw[qe8,qpq,List.append_assoc,List.append_assoc]
theorem qlR (w:List UInt8):pw w []=w:=by simp[pw,qe8]
theorem qat (w:List UInt8) (a b:List ByteArray):pw w (a++b)=pw (pw w a) b:=by
 induction a generalizing w with
 | nil=>rw[List.nil_append,qlR]
 | cons t a ih=>rw[List.cons_append,qjo,qjo,ih]
theorem qlS (w:List UInt8) (ts:List ByteArray):w.length<=(pw w ts).length:=by simp[pw]
theorem qew {w:List UInt8} (h:w≠[]) (ts:List ByteArray):pw w ts≠[]:=by
 intro e
 have h2:=qlS w ts
 rw[e] at h2
 exact h (List.eq_nil_of_length_eq_zero (by simpa using h2))
theorem qpr {t:ByteArray} (h:t.size≠0) : ∃ b,t[0]?=some b/\qax qaE t=qaE b:=by
 have hd:=qgt t 0
 rw[List.drop_zero] at hd
 cases hb:byl t with
 | nil=>exact absurd (by rw[<- qaw,hb]; rfl) h
 | cons b r=>
  rw[hb] at hd
  exact⟨b,hd,by rw[qby,hb]; rfl⟩
theorem qnM {t:ByteArray} (h:t.size≠0):t[t.size-1]?=some (qdM (byl t)):=by
 rw[qgt,List.head?_drop,<- qaw,qdM]
 rw[List.getLast?_eq_getElem?]
 cases hg:(byl t)[(byl t).length-1]? with
 | some c=>rfl
 | none=>
  rw[List.getElem?_eq_none_iff] at hg
  have:=qaw t
  omega
attribute [local simp] qfj qhJ
theorem qg3 {kk:Nat} (hkk:kk=1\/kk=2) (fl:Bool) (ts:List ByteArray) (hts : ∀ t∈ts,t.size≠0) (hn:ts.length<2 ^ 30) : ∀ (m i:Nat) (w:List UInt8),i+m=ts.length->(pw w (ts.drop i)).length<2 ^ 40 ->
  Z tQ (.loop kk F243l0 [(0,.ptr 0 0),(6,.dat (.sl (strC ts) ts.length fl)),(7,.int ts.length),(8,.int i)] (PW w))=some (.out (.exit 0) [(0,.ptr 0 0),(6,.dat (.sl (strC ts) ts.length fl)),(7,.int ts.length),(8,.int ts.length),(9,.bool false)] (PW (pw w (ts.drop i))))
 | 0,i,w,hi,hsz=>by
  have hi':i=ts.length:=by omega
  subst hi'
  rw[List.drop_length,qlR]
  rw[qac]
  rcases hkk with rfl | rfl<;>simp[qae,qdG,List.range_succ]
 | m+1,i,w,hi,hsz=>by
  have hlt:i<ts.length:=by omega
  have hd:ts.drop i=ts[i]::ts.drop (i+1):=List.drop_eq_getElem_cons hlt
  have ht:=hts ts[i] (List.getElem_mem hlt)
  rw[hd,qjo] at hsz ⊢
  have hc:=qg7 ts i hlt
  generalize ts[i]=t at *
  obtain⟨b,hb,hs⟩:=qpr ht
  have hla:=qnM ht
  have hpos:0<t.size:=by omega
  have hw0:(w++(gap (wl w) t++byl t)).length<2 ^ 40:=Nat.lt_of_le_of_lt (qlS _ _) hsz
  have hts2:t.size<2 ^ 40:=by rw[List.length_append,List.length_append,qaw] at hw0; omega
  have ih:=qg3 hkk fl ts hts hn m (i+1) (w++(gap (wl w) t++byl t)) (by omega) hsz
  have hlc:qdM (w++(gap (wl w) t++byl t))=qdM (byl t):=by
   rw[<- List.append_assoc,qki]
   intro e
   rw[<- qaw,e] at ht
   exact ht rfl
  rw[<- ih]
  have zl:=qlg (qdM w)
  have zb:=qlg b
  have w1:=qag ((i:Int)+1) (by omega)
  have w2:=qag ((t.size:Int)-1) (by omega)
  have w3:((t.size:Int)-1).toNat=t.size-1:=by omega
  have w4:(0:Int)<=(t.size:Int)-1:=by omega
  have hge:(1:Int)<=t.size:=by omega
  have hne : ¬ t=⟨#[]⟩:=fun e=>by rw[e] at ht; exact ht rfl
  have hlt':(i:Int)<ts.length:=by omega
  have hne2:eqS t ⟨#[]⟩=false:=by rw[qbU]; simp[hne]
  conv=>lhs; rw[qac]
  simp only[PW,hlc]
  by_cases h1:qaE (qdM w)=true
  ·by_cases h2:qaE b=true
   ·have hg:gap (wl w) t=[32]:=by simp[gap,wl,h1,hs,h2]
    rw[hg] at hw0 ⊢
    have hw1:w.length<2 ^ 40:=by rw[List.length_append] at hw0; omega
    have z1:Z tQ (.call 258 [.ptr 0 0,.dat (.lit (.int .u8 32))] (PW' w (qdM w).toNat))=_:=qrx w (qdM w).toNat 32 hw1
    have z2:=qnL (w++[32]) (qdM w).toNat t (by rw[List.append_assoc]; exact hw0) ht
    rw[List.append_assoc] at z2
    rw[h1] at zl
    rw[h2] at zb
    simp only[PW',List.length_append,List.length_cons,List.length_nil,Nat.zero_add,qaw] at z1 z2
    rcases hkk with rfl | rfl<;>simp[qae,qdG,zl,zb,z1,z2,hb,hla,hc,w1,w2,w3,w4,qaw,PW',Nat.add_comm 1,hge,hne,hne2,hlt',hlt,qan,V.len,List.range_succ]
   ·have hg:gap (wl w) t=[]:=by simp[gap,hs,h2]
    rw[hg] at hw0 ⊢
    rw[List.nil_append] at hw0 ⊢
    have z2:=qnL w (qdM w).toNat t hw0 ht
    rw[h1] at zl
    rw[Bool.not_eq_true] at h2
    rw[h2] at zb
    simp only[PW',List.length_append,List.length_cons,List.length_nil,Nat.zero_add,qaw] at z2
    rcases hkk with rfl | rfl<;>simp[qae,qdG,zl,zb,z2,hb,hla,hc,w1,w2,w3,w4,qaw,PW',Nat.add_comm 1,hge,hne,hne2,hlt',hlt,qan,V.len,List.range_succ]
  ·have hg:gap (wl w) t=[]:=by simp[gap,wl,h1]
   rw[hg] at hw0 ⊢
   rw[List.nil_append] at hw0 ⊢
   have z2:=qnL w (qdM w).toNat t hw0 ht
   rw[Bool.not_eq_true] at h1
   rw[h1] at zl
   simp only[PW',List.length_append,List.length_cons,List.length_nil,Nat.zero_add,qaw] at z2
   rcases hkk with rfl | rfl<;>simp[qae,qdG,zl,zb,z2,hb,hla,hc,w1,w2,w3,w4,qaw,PW',Nat.add_comm 1,hge,hne,hne2,hlt',hlt,qan,V.len,List.range_succ]
theorem qtF (fl:Bool) {ts:List ByteArray} (hts : ∀ t∈ts,t.size≠0) (hn:ts.length<2 ^ 30) {w:List UInt8} (hsz:(pw w ts).length<2 ^ 40) :
  Z tQ (.call 243 [.ptr 0 0,.dat (.sl (strC ts) ts.length fl)] (PW w))=some (.ret (.tup []) (PW (pw w ts))):=by
 have z:=qg3 (.inr rfl) fl ts hts hn ts.length 0 w (by omega) (by rw[List.drop_zero]; exact hsz)
 rw[List.drop_zero] at z
 simp only[PW,PW'] at z
 refine qaa (pf:=F243) rfl rfl ?_
 simp only[Int.cast_ofNat_Int] at z
 simp[F243,z,V.len,List.range_succ]
theorem qtG (fl:Bool) {ts:List ByteArray} (hts : ∀ t∈ts,t.size≠0) (hn:ts.length<2 ^ 30) {w:List UInt8} (hsz:(pw w ts).length<2 ^ 40) :
  Z tQ (.dcall 243 [.dat (.lit .nilIface),.ptr 0 0,.dat (.sl (strC ts) ts.length fl)] (PW w))=some (.ret (.dat (.lit undef)) (PW (pw w ts))):=by
 have z:=qg3 (.inr rfl) fl ts hts hn ts.length 0 w (by omega) (by rw[List.drop_zero]; exact hsz)
 rw[List.drop_zero] at z
 simp only[PW,PW'] at z
 refine qkF (pf:=F243) rfl ?_
 have hfl:F243.body.flat=true:=rfl
 simp only[qa5]
 rw[if_pos ⟨rfl,rfl,rfl,hfl,.inr rfl⟩]
 simp only[Int.cast_ofNat_Int] at z
 simp[F243,z,qis,V.len,List.range_succ]
theorem qtH (fl:Bool) {t:ByteArray} {ts:List ByteArray} (ht:t.size≠0) (hts : ∀ t∈ts,t.size≠0) (hn:ts.length<2 ^ 29) (hsz:(pw [] (t::ts)).length<2 ^ 40) :
  Z tQ (.call 243 [.ptr 0 0,.dat (.sl (strC (t::ts)) (t::ts).length fl)] PE)=some (.ret (.tup []) (PW (pw [] (t::ts)))):=by
 have hg:gap (wl []) t=[]:=by rw[qqk]; rfl
 rw[qjo,hg] at hsz ⊢
 simp only[List.nil_append] at hsz ⊢
 have hall : ∀ x∈t::ts,x.size≠0:=fun x hx=>by
  rcases List.mem_cons.1 hx with rfl | hx
  ·exact ht
  ·exact hts x hx
 have z:=qg3 (kk:=1) (.inl rfl) fl (t::ts) hall (by rw[List.length_cons]; omega) ts.length 1 (byl t) (by rw[List.length_cons]; omega) hsz
 simp only[PW,PW',List.drop_succ_cons,List.drop_zero] at z
 have hla:=qnM ht
 have hw0:(byl t).length<2 ^ 40:=Nat.lt_of_le_of_lt (qlS _ _) hsz
 rw[qaw] at hw0
 have z2:=qry t hw0 ht
 have zl:Z tQ (.call 257 [.dat (.lit (.int .u8 0))] [])=some (.ret (.bool false) []):=qlg 0
 have w2:=qag ((t.size:Int)-1) (by omega)
 have w3:((t.size:Int)-1).toNat=t.size-1:=by omega
 have w4:(0:Int)<=(t.size:Int)-1:=by omega
 have hge:(1:Int)<=t.size:=by omega
 have hne : ¬ t=⟨#[]⟩:=fun e=>by rw[e] at ht; exact ht rfl
 have hne2:eqS t ⟨#[]⟩=false:=by rw[qbU]; simp[hne]
 have w5:IntKind.i64.wrap 1=1:=rfl
 have hpos:(0:Int)<(ts.length:Int)+1:=by omega
 have hc:=qg7 (t::ts) 0 (by rw[List.length_cons]; omega)
 simp only[List.getElem_cons_zero] at hc
 simp only[PW',qaw] at z2
 simp only[qaw,Int.cast_ofNat_Int] at z
 refine qaa (pf:=F243) rfl rfl ?_
 have z1:Z tQ (.loop 1 F243l0 [(0,.ptr 0 0),(6,.dat (.sl (strC (t::ts)) (t::ts).length fl)),(7,.int (t::ts).length),(8,.int 0)] PE)=Z tQ (.loop 1 F243l0 [(0,.ptr 0 0),(6,.dat (.sl (strC (t::ts)) (t::ts).length fl)),(7,.int (t::ts).length),(8,.int 1)] [.cellsT 4 [.ptr 0 0,.own 1 t.size 1,.dat (.lit (.int .u8 (qdM (byl t)).toNat))],.vecT 3 (vb (byl t))]):=by
  conv=>lhs; rw[qac]
  generalize strC (t::ts)=row at *
  simp[qae,qdG,zl,z2,hla,hc,w2,w3,w4,w5,qaw,hge,hne,hne2,hpos,qan,V.len,List.range_succ]
 rw[z] at z1
 generalize strC (t::ts)=row at *
 generalize (t::ts).length=M at *
 simp[F243,z1,V.len,List.range_succ]
end Go.Pm
end SOc
section SOn
namespace Go.Pm
def E.lev:E->Nat
 | .un _ neg _=>qed neg
 | .bin _ o _ _=>o.prec
 | _=>8
theorem qqq : ∀ {l:List ByteArray},Ok2 l -> ∀ t∈l,Tg (byl t)
 | [],_,t,h=>by cases h
 | u::l,ho,t,h=>by
  rcases List.mem_cons.1 h with rfl | h
  ·exact ho.1
  ·exact qqq ho.2.2 t h
theorem qjv {s:ByteArray} (h:Tg (byl s)):s.size≠0:=by
 obtain⟨c,r,e,_⟩:=qfi h
 intro h0
 rw[<- qaw,e] at h0
 cases h0
theorem qeE (ts:List ByteArray):pw [] ts=qe8 false ts:=by rw[pw,qqk,List.nil_append]
theorem qiM : ∀ (l:List ByteArray) (p:Bool),(∀ t∈l,t.size≠0)->l.length<=(qe8 p l).length
 | [],p,_=>by simp
 | t::l,p,h=>by
  have:=qiM l (qdn p t) (fun x hx=>h x (List.mem_cons_of_mem _ hx))
  have h1:=h t (List.mem_cons_self ..)
  have h2:=qaw t
  simp only[qe8,List.length_append,List.length_cons]
  omega
theorem qeW : ∀ s:Ss,s.good none->s.fo.len<=s.tx.length
 | .nil,_=>by simp[Ss.fo]
 | .assign _ s e r,h=>by have:=qeW r h.2.2.2; simp[Ss.fo,Ss.tx]; omega
 | .store _ s a b r,h=>by have:=qeW r h.2.2.2.2; simp[Ss.fo,Ss.tx]; omega
 | .effect _ a b r,h=>by have:=qeW r h.2.2.2; simp[Ss.fo,Ss.tx]; omega
 | .stop r,h=>by have:=qeW r h.2; simp[Ss.fo,Ss.tx]; omega
 | .cond w _ c b r,h=>by have:=qeW r h.2.2.2; simp[Ss.fo,Ss.tx]; omega
 | .block _ b r,h=>by obtain⟨n,hn,_⟩:=h; cases hn
theorem qn4 {b:Ss} (h:b.good (some 1)) : ∃ fb b1,b = .block fb b1 .nil/\b1.good none:=by
 cases b with
 | block fb b1 r=>
  obtain⟨n,hn,h1,h2⟩:=h
  have:n=0:=by simpa using hn.symm
  subst this
  cases r with
  | nil=>exact⟨fb,b1,rfl,h1⟩
  | block _ _ _=>obtain⟨n,hn,_⟩:=h2; simp at hn
  | _=>simp[Ss.good] at h2
 | _=>simp[Ss.good] at h
theorem qr7 {b:Ss} (h:b.good (some 2)) : ∃ fb b1 fc b2,b = .block fb b1 (.block fc b2 .nil)/\b1.good none/\b2.good none:=by
 cases b with
 | block fb b1 r=>
  obtain⟨n,hn,h1,h2⟩:=h
  have:n=1:=by simpa using hn.symm
  subst this
  obtain⟨fc,b2,rfl,h3⟩:=qn4 h2
  exact⟨fb,b1,fc,b2,rfl,h1,h3⟩
 | _=>simp[Ss.good] at h
def Hd.opt:Hd->Option Ss
 | .none=>Option.none
 | .some _ b=>Option.some b
def Hd.opts (a b c:Hd):Nat->Option Ss
 | 0=>a.opt
 | 1=>b.opt
 | _=>c.opt
end Go.Pm
end SOn
section STR
namespace Go.Pm.F
def tR:Nat->Option PFun
 | _=>none
end Go.Pm.F
end STR
section SJa
namespace Go.Pm
open F
set_option maxHeartbeats 2000000
structure RowS (d:D) (l:List ByteArray):Prop where
 len : ∀ σ,V.len σ .sl (.dat d)=some l.length
 at_ : ∀ i:Nat,i<l.length->qan 1 (.dat d) i=some (.dat (.imm (strC l) i))
 one:V.one (.dat d)=true
 cells:V.cells (.dat d)=[.dat d]
theorem qah (l:List ByteArray) (f:Bool):RowS (.sl (strC l) l.length f) l where
 len _:=rfl
 at_ i h:=by simp[qan,h]
 one:=rfl
 cells:=rfl
theorem qr2 (s:ByteArray) (i:Nat):s[i]?=s.data.toList[i]?:=by
 by_cases h:i<s.size
 ·rw[getElem?_pos s i h,List.getElem?_eq_getElem (by rw[Array.length_toList]; exact h)]
  simp[ByteArray.getElem_eq_getElem_data]
 ·rw[getElem?_neg s i h,List.getElem?_eq_none (by rw[Array.length_toList]; exact Nat.not_lt.1 h)]
theorem qmz {s:ByteArray} {i:Nat} (h:i<s.size) : ∃ c,s[i]?=some c/\s.data.toList[i]?=some c:=by
 refine⟨s.data.toList[i]'(by rw[Array.length_toList]; exact h),?_,List.getElem?_eq_getElem _⟩
 rw[qr2]
 exact List.getElem?_eq_getElem _
end Go.Pm
end SJa
section SJb
namespace Go.Pm
open F
set_option maxHeartbeats 2000000
theorem qgs {s:ByteArray} {i:Nat} {c:UInt8} (h:s.data.toList[i]?=some c):(byl s).drop i=c::(byl s).drop (i+1):=by
 have hi:=(List.getElem?_eq_some_iff.1 h)
 obtain⟨h1,h2⟩:=hi
 rw[<- h2]
 exact List.drop_eq_getElem_cons h1
end Go.Pm
end SJb
section SJc
namespace Go.Pm
open F
set_option maxHeartbeats 4000000
theorem qlr (p:UInt8->Bool) : ∀ l:List UInt8,∀ b∈l.take (qbu p l),p b=true
 | [],b,h=>by simp[qbu] at h
 | c::r,b,h=>by
  simp only[qbu] at h
  split at h
  ·rename_i hc
   rw[List.take_succ_cons] at h
   rcases List.mem_cons.1 h with rfl | h
   ·exact hc
   ·exact qlr p r b h
  ·simp at h
end Go.Pm
end SJc
section SJd
namespace Go.Pm
open F
set_option maxHeartbeats 4000000
theorem qp1 (eS eL eR:Nat) (c:UInt8) (r:List UInt8):1<=(tokL eS eL eR (c::r)).1.length/\(tokL eS eL eR (c::r)).1.length<=r.length+1:=by
 have h1:=qfr qaE (c::r)
 have h2:=qfr qas (c::r)
 simp only[tokL]
 split
 ·rename_i h
  have hw:qaE c=true:=by simp[qaE,h]
  have:1<=qbu qaE (c::r):=by simp only[qbu,hw,if_true]; omega
  simp only[List.length_take,List.length_cons] at h1 ⊢
  omega
 split
 ·rename_i h
  have:1<=qbu qas (c::r):=by simp only[qbu,h,if_true]; omega
  simp only[List.length_take,List.length_cons] at h2 ⊢
  omega
 split
 ·rename_i h
  have:=qeY h
  rw[qbh] at this
  simp only[List.length_take,List.length_cons] at this ⊢
  omega
 split<;>simp
theorem qkx {s:ByteArray} {i:Nat} (hi:i<s.size) (eS eL eR:Nat):1<=(tokAt eS eL eR s i).s.size/\i+(tokAt eS eL eR s i).s.size<=s.size:=by
 obtain⟨c,h1,h2⟩:=qmz hi
 have hd:=qgs h2
 rw[qdu]
 simp only[qbh]
 rw[hd]
 have:=qp1 eS eL eR c ((byl s).drop (i+1))
 rw[List.length_drop,qaw] at this
 omega
def qwB:List Tk->List Tk
 | []=>[]
 | t::r=>if t.bad≠0\/t.s.size=0 then [t] else t::qwB r
end Go.Pm
end SJd
section SJe
namespace Go.Pm
open F
set_option maxHeartbeats 4000000
structure Ps where
 i:Nat
 a:Nat
 e:Nat
def qs2 (T:List Tk) (i:Nat):Tk:=T.getD i ⟨0,⟨#[]⟩,0⟩
def qS:ByteArray:=bs [63]
end Go.Pm
end SJe
section SJf
namespace Go.Pm
open F
structure TokP (t:Tk):Prop where
 q:t.bad=0->t.s≠qS
 dig:t.bad=0->qax qas t.s=true->(∀ c∈t.s.data.toList,qas c=true)/\digV t.s.data.toList<=2147483647/\t.s.size<2 ^ 40
structure WfT (T:List Tk):Prop where
 len:T.length<2 ^ 40
 tok : ∀ t∈T,TokP t
 pos : ∀ i,i+1<T.length->(qs2 T i).s.size≠0
 last : ∀ i,i+1=T.length->(qs2 T i).s=⟨#[]⟩/\(qs2 T i).bad=0
structure Gd (T:List Tk) (s:Ps) (ts:List Tk):Prop where
 e:s.e=0
 a:s.a=0
 lt:s.i<T.length
 ts:qwB (T.drop s.i)=ts
structure Er (T:List Tk) (s:Ps) (p c:Nat):Prop where
 lt:s.i<T.length
 c0:c≠0
 or:(s.e=c/\s.a=p)\/(s.e=0/\(qs2 T s.i).bad=c/\(qs2 T s.i).at_=p)
end Go.Pm
end SJf
section SJm
namespace Go.Pm
open F
set_option maxHeartbeats 4000000
section
variable {T:List Tk} {s:Ps} {lv:Nat}
abbrev k1 (k n:Int) (y:ByteArray) (ks:D):D := .sl [.lit (.int .i64 k),.lit (.int .i64 n),.lit (.string y),ks] 1 true
abbrev k2 (k n:Int) (y:ByteArray) (ks:D) (k' n':Int) (y':ByteArray) (ks':D):D := .sl [.lit (.int .i64 k),.lit (.int .i64 n),.lit (.string y),ks,.lit (.int .i64 k'),.lit (.int .i64 n'),.lit (.string y'),ks'] 2 true
abbrev k3 (k n:Int) (y:ByteArray) (ks:D) (k' n':Int) (y':ByteArray) (ks':D) (k'' n'':Int) (y'':ByteArray) (ks'':D):D := .sl [.lit (.int .i64 k),.lit (.int .i64 n),.lit (.string y),ks,.lit (.int .i64 k'),.lit (.int .i64 n'),.lit (.string y'),ks',.lit (.int .i64 k''),.lit (.int .i64 n''),.lit (.string y''),ks''] 3 false
end
end Go.Pm
end SJm
section SJp
namespace Go.Pm
open F
set_option maxHeartbeats 4000000
structure N4 where
 k:Int
 n:Int
 s:ByteArray
 d:D
 one:V.one (.dat d)=true
 cl:V.cells (.dat d)=[.dat d]
abbrev rob (r:Nat->N4):Ob := .cells [.int (r 0).k,.int (r 0).n,.str (r 0).s,.dat (r 0).d,.int (r 1).k,.int (r 1).n,.str (r 1).s,.dat (r 1).d,.int (r 2).k,.int (r 2).n,.str (r 2).s,.dat (r 2).d]
def qus (r:Nat->N4) (k:Nat) (v:N4):Nat->N4:=fun i=>if i=k then v else r i
abbrev qsr:Ob := .cells [.int 0,.int 0,.str ⟨#[]⟩,.dat (.lit (.slice none 0 0)),.int 0,.int 0,.str ⟨#[]⟩,.dat (.lit (.slice none 0 0)),.int 0,.int 0,.str ⟨#[]⟩,.dat (.lit (.slice none 0 0))]
section
variable {T:List Tk} {s:Ps} {r:Nat->N4}
def qe6:Option Ss->N4
 | none=>⟨0,0,⟨#[]⟩,.lit (.slice none 0 0),rfl,rfl⟩
 | some b=>⟨7,0,⟨#[]⟩,kd false b.fo.len b.fo.cells,by simp,by simp⟩
end
end Go.Pm
end SJp
section SJq
namespace Go.Pm
open F
set_option maxHeartbeats 4000000
theorem qr4 {s:ByteArray} (hl:s.size<2 ^ 30) {j:Nat} (hj:j<s.size):TokP (tokAt 12 2 6 s j):=by
 obtain⟨p1,p2⟩:=qkx hj 12 2 6
 obtain⟨c,h1,h2⟩:=qmz hj
 have hd:=qgs h2
 rw[qdu,hd] at p2 ⊢
 generalize (byl s).drop (j+1)=r at *
 have hsz:(bs (tokL 12 2 6 (c::r)).1).size<2 ^ 40:=by simp only at p2; omega
 have start : ∀ (p:UInt8->Bool) (x:UInt8) (w:List UInt8),qax p (bs (x::w))=p x:=fun p x w=>by rw[qby,qc6]; rfl
 by_cases hlet:qaQ c=true
 ·have hw:qaE c=true:=by simp[qaE,hlet]
  have e:(c::r).take (qbu qaE (c::r))=c::r.take (qbu qaE r):=by simp[qbu,hw]
  have ht:(tokL 12 2 6 (c::r)).1=c::r.take (qbu qaE r):=by simp only[tokL,hlet,if_true]; exact e
  rw[ht]
  have hnd:qas c=false:=by
   simp only[qas,qaQ,Bool.and_eq_true,decide_eq_true_eq,Bool.and_eq_false_iff,decide_eq_false_iff_not] at hlet ⊢
   omega
  refine⟨fun _ h=>?_,fun _ h=>?_⟩
  ·have:=qkt h
   simp only[List.cons.injEq] at this
   rw[this.1] at hlet
   exact absurd hlet (by decide)
  ·simp only at h
   rw[start,hnd] at h
   cases h
 ·by_cases hdig:qas c=true
  ·have e:(c::r).take (qbu qas (c::r))=c::r.take (qbu qas r):=by simp[qbu,hdig]
   have ht:tokL 12 2 6 (c::r)=((c::r).take (qbu qas (c::r)),if 2147483647<digV ((c::r).take (qbu qas (c::r))) then 6 else 0):=by simp only[tokL,hlet,hdig,if_true,Bool.false_eq_true,if_false]
   rw[ht] at hsz ⊢
   refine⟨fun _ h=>?_,fun h _=>⟨fun b hb=>?_,?_,hsz⟩⟩
   ·simp only at h
    rw[e] at h
    have:=qkt h
    simp only[List.cons.injEq] at this
    rw[this.1] at hdig
    exact absurd hdig (by decide)
   ·exact qlr qas (c::r) b hb
   ·simp only at h ⊢
    split at h
    ·cases h
    ·rename_i hb
     exact Nat.not_lt.1 hb
  ·by_cases hp:bs ((c::r).take 2)∈qdw
   ·have ht:tokL 12 2 6 (c::r)=((c::r).take 2,0):=by simp only[tokL,hlet,hdig,if_pos hp,Bool.false_eq_true,if_false]
    rw[ht]
    have key : ∀ w:List UInt8,bs w∈qdw->bs w≠qS/\qax qas (bs w)=false:=fun w hw=>by
     rcases pair_cases hw with rfl | rfl | rfl | rfl | rfl | rfl<;>decide
    obtain⟨k1,k2⟩:=key _ hp
    exact⟨fun _=>k1,fun _ h=>by rw[k2] at h; cases h⟩
   ·by_cases hs:c.toNat∈qi9
    ·have ht:tokL 12 2 6 (c::r)=([c],0):=by simp only[tokL,hlet,hdig,if_neg hp,if_pos hs,Bool.false_eq_true,if_false]
     rw[ht]
     refine⟨fun _ h=>?_,fun _ h=>?_⟩
     ·have:=qkt h
      simp only[List.cons.injEq,and_true] at this
      rw[this] at hs
      exact absurd hs (by decide)
     ·simp only at h
      rw[start] at h
      exact absurd h hdig
    ·have ht:tokL 12 2 6 (c::r)=([c],12):=by simp only[tokL,hlet,hdig,if_neg hp,if_neg hs,Bool.false_eq_true,if_false]
     rw[ht]
     exact⟨fun h=>(by cases h),fun h=>(by cases h)⟩
def qjF (s:ByteArray):List Tk:=qb2 12 2 6 s (s.size+1) 0
def qf2 (f fi fb:Bool) (s:ByteArray):Rz (Nat->Option Ss):=
 if 2000<s.size then .er 2000 2 else match qdq 12 2 4 f fi fb (10*(qjF s).length+10) (fun _=>none) (qjF s) with
  | some x=>x
  | none => .er 0 0
theorem qhN {f fi fb:Bool} {s:ByteArray} (h : ¬ 2000<s.size):qdq 12 2 4 f fi fb (10*(qjF s).length+10) (fun _=>none) (qjF s)=some (qf2 f fi fb s):=by
 obtain⟨y,hy,_⟩:=qjG 12 2 4 f fi fb (10*(qjF s).length+10) (fun _=>none) (qjF s) (by omega)
 unfold qf2
 rw[if_neg h,hy]
abbrev qpJ (r:Nat->N4):V := .dat (.agg [.lit (.int .i64 (r 0).k),.lit (.int .i64 (r 0).n),.lit (.string (r 0).s),(r 0).d,.lit (.int .i64 (r 1).k),.lit (.int .i64 (r 1).n),.lit (.string (r 1).s),(r 1).d,.lit (.int .i64 (r 2).k),.lit (.int .i64 (r 2).n),.lit (.string (r 2).s),(r 2).d])
def qko (f fi fb:Bool) (s:ByteArray):V:=match qf2 f fi fb s with
 | .ok h _ => .tup [qpJ fun k=>qe6 (h k),.int 0,.int 0]
 | .er a c => .tup [qpJ fun _=>qe6 none,.int a,.int c]
end Go.Pm
end SJq
section SUc
namespace Go.Pm
inductive Red:List ByteArray->List ByteArray->Prop
 | nil:Red [] []
 | keep {t:ByteArray} {l m:List ByteArray} (h:Red l m):Red (t::l) (t::m)
 | del {t:ByteArray} {l m:List ByteArray} (h0:t.size≠0) (h:Red l m):Red (t::l) m
 | dig {t u:ByteArray} {l m:List ByteArray} (h0:u.size<=t.size) (h1 : ∀ p,qdn p u=qdn p t) (h2:qax qaE u=qax qaE t) (h:Red l m):Red (t::l) (u::m)
end Go.Pm
end SUc
section SUd
namespace Go.Pm
theorem qlC : ∀ (j n k:Nat),n<10 ^ (k+1)->(qmL j n).length<=k+1
 | 0,n,k,_=>by simp[qmL]
 | j+1,n,k,h=>by
  simp only[qmL]
  split
  ·simp
  ·rename_i h10
   cases k with
   | zero=>simp at h; omega
   | succ k=>
    have:=qlC j (n / 10) k (by rw[Nat.pow_succ] at h; omega)
    rw[List.length_append]
    simp
    omega
end Go.Pm
end SUd
section SUe
namespace Go.Pm
theorem ql3 (a b:Ss):(a.app b).nest=max a.nest b.nest:=by
 induction a<;>simp_all [Ss.app,Ss.nest,Nat.max_assoc]
end Go.Pm
end SUe
section SYk
namespace Go.Pm
def qmW (g:List UInt8):Prop := ∀ r,qaZ false (g++r)=g.length+qaZ false r
theorem qjJ:qmW []:=fun r=>by simp
theorem qmX {c:UInt8} (h:c.toNat=32\/c.toNat=9\/c.toNat=10):qmW [c]:=fun r=>by
 simp only[List.cons_append,List.nil_append,qaZ,List.length_singleton]
 by_cases h10:c.toNat=10
 ·rw[if_pos h10]; omega
 ·rw[if_neg h10,if_pos (by rcases h with h | h | h; exact .inr (.inl h); exact .inr (.inr h); exact absurd h h10)]; omega
theorem qox {w:List UInt8} (h:Tg w) (r:List UInt8):qaZ false (w++r)=0:=by
 obtain⟨c,q,hw,h1,h2,h3,h4⟩:=qfi h
 rw[hw]
 simp[qaZ,h1,h2,h3,h4]
def qe0:List (List UInt8 × ByteArray)->List UInt8
 | []=>[]
 | (g,t)::r=>g++(byl t++qe0 r)
def Sep (t:ByteArray) (g:List UInt8) (u:ByteArray):Prop:=(∃ c q,g=c::q/\(c.toNat=32\/c.toNat=10\/c.toNat=9\/c.toNat=35))\/(g=[]/\(qdn false t&&qax qaE u)=false/\Adj t u)
def OkG:List (List UInt8 × ByteArray)->Prop
 | []=>True
 | (g,t)::r=>qmW g/\Tg (byl t)/\(∀ p,r.head?=some p->Sep t p.1 p.2)/\OkG r
theorem qjK {w:List UInt8} (h:Tg w) {c:UInt8} (hc:c.toNat=32\/c.toNat=10\/c.toNat=9\/c.toNat=35) (r:List UInt8):Fol w (c::r):=by
 have hw:qaE c=false:=by
  simp only[qaE,qaQ,qas,Bool.or_eq_false_iff,Bool.and_eq_false_iff,decide_eq_false_iff_not]
  omega
 have hd:qas c=false:=by
  simp only[qas,Bool.and_eq_false_iff,decide_eq_false_iff_not]
  omega
 obtain⟨a,q,rfl,-⟩:=qfi h
 simp only[Fol]
 split
 ·exact hw
 split
 ·exact hd
 ·intro _ hp
  rcases pair_cases hp with h | h | h | h | h | h<;>simp only[List.cons.injEq,and_true] at h<;>rw[h.2] at hc<;>exact absurd hc (by decide)
theorem qqv (w:List UInt8):Fol w []:=by cases w<;>trivial
theorem qoy {w:ByteArray} (h:Tg (byl w)) (p q:Bool):qdn p w=qdn q w:=by
 obtain⟨c,r,hw,-⟩:=qfi h
 unfold qdn
 rw[hw]
 cases hl:(c::r).getLast? with
 | none=>simp at hl
 | some b=>rfl
theorem qjL (eS eL eR:Nat) : ∀ (l:List (List UInt8 × ByteArray)) (n i:Nat) (tail:List UInt8),OkG l->(∀ p,l.getLast?=some p->Fol (byl p.2) tail)->l.length<=n ->
  ∃ ts,qqs eS eL eR n i (qe0 l++tail)=ts++qqs eS eL eR (n-l.length) (i+(qe0 l).length) tail /\ ∀ r,Hx (l.map (·.2)) (ts++r) r
 | [],n,i,tail,_,_,_=>⟨[],by simp[qe0],fun r=>rfl⟩
 | (g,t)::l,0,i,tail,_,_,h=>by simp at h
 | (g,t)::l,n+1,i,tail,ho,hl,h=>by
  obtain⟨hg,ht,ha,ho'⟩:=ho
  have hf:Fol (byl t) (qe0 l++tail):=by
   cases l with
   | nil=>exact hl (g,t) rfl
   | cons u us=>
    obtain⟨g',u⟩:=u
    simp only[qe0,List.append_assoc]
    rcases ha (g',u) rfl with ⟨c,q,h1,h2⟩ | ⟨h1,h2,h3⟩
    ·simp only at h1
     rw[h1]
     exact qjK ht h2 _
    ·simp only at h1 h2 h3
     rw[h1]
     have:=qpg (p:=false) ht ho'.2.1 h3 (qe0 us++tail)
     rwa [gap,h2] at this
  have hsk:qaZ false (g++(byl t++(qe0 l++tail)))=g.length:=by rw[hg,qox ht]; omega
  have htk:=qnD eS eL eR ht hf
  have hne:(byl t).length≠0:=by
   obtain⟨c,w,hw,-⟩:=qfi ht
   rw[hw]; simp
  obtain⟨ts,e1,e2⟩:=qjL eS eL eR l n (i+g.length+t.size) tail ho' (fun u hu=>hl u (by
   cases l with
   | nil=>cases hu
   | cons v vs=>rw[List.getLast?_cons_cons]; exact hu)) (by simpa using h)
  refine⟨⟨i+g.length,t,0⟩::ts,?_,fun r=>⟨⟨i+g.length,t,0⟩,ts++r,rfl,rfl,rfl,e2 r⟩⟩
  simp only[qe0,List.append_assoc,qqs,hsk,List.drop_left,htk]
  rw[if_neg (by
   rintro (h | h)
   ·exact h rfl
   ·exact hne h)]
  rw[qeH,qaw,e1]
  simp only[List.cons_append,List.length_append,List.length_cons,qaw]
  congr 3<;>omega
theorem qmg (eS eL eR:Nat) {l:List (List UInt8 × ByteArray)} {w:List UInt8} (ho:OkG l) (hw:qmW w) (hsep:w=[] \/ ∃ c q,w=c::q/\(c.toNat=32\/c.toNat=10\/c.toNat=9\/c.toNat=35)) {s:ByteArray} (hs:byl s=qe0 l++w) :
  ∃ e,Hx (l.map (·.2)) (qb2 eS eL eR s (s.size+1) 0) [⟨e,⟨#[]⟩,0⟩]:=by
 have htgs : ∀ p∈l,Tg (byl p.2):=by
  induction l with
  | nil=>intro p hp; cases hp
  | cons q l ih=>
   intro p hp
   obtain⟨g,t⟩:=q
   rcases List.mem_cons.1 hp with rfl | hp
   ·exact ho.2.1
   ·have hl : ∀ (l:List (List UInt8 × ByteArray)),OkG l -> ∀ p∈l,Tg (byl p.2):=fun l=>by
     induction l with
     | nil=>intro _ p hp; cases hp
     | cons q l ih=>intro h p hp; rcases List.mem_cons.1 hp with rfl | hp; exact h.2.1; exact ih h.2.2.2 p hp
    exact hl l ho.2.2.2 p hp
 have hlen:l.length<=(qe0 l).length:=by
  clear ho hs
  induction l with
  | nil=>simp
  | cons q l ih=>
   obtain⟨g,t⟩:=q
   have h1:=htgs (g,t) (List.mem_cons_self ..)
   obtain⟨c,w,hw,-⟩:=qfi h1
   have:=ih fun p hp=>htgs p (List.mem_cons_of_mem _ hp)
   simp only[qe0,List.length_append,List.length_cons]
   have h2:1<=(byl t).length:=by simp only at hw; rw[hw]; simp
   omega
 have hsz:s.size=(qe0 l).length+w.length:=by rw[<- qaw,hs,List.length_append]
 rw[ql8,List.drop_zero,hs]
 obtain⟨ts,e1,e2⟩:=qjL eS eL eR l (s.size+1) 0 w ho (fun p hp=>by
  have ht:=htgs p (List.mem_of_getLast? hp)
  rcases hsep with h | ⟨c,q,h1,h2⟩
  ·rw[h]; exact qqv _
  ·rw[h1]; exact qjK ht h2 _) (by omega)
 rw[e1]
 obtain⟨k,hk⟩ : ∃ k,s.size+1-l.length=k+1:=⟨s.size-l.length,by omega⟩
 have hend : ∀ j,qqs eS eL eR (k+1) j w=[⟨j+w.length,⟨#[]⟩,0⟩]:=fun j=>by
  have h1:qaZ false w=w.length:=by
   have:=hw []
   rw[List.append_nil] at this
   rw[this]; simp[qaZ]
  simp only[qqs,h1,List.drop_length,tokL]
  rw[if_pos (.inr rfl)]
  rfl
 rw[hk,hend]
 exact⟨_,e2 _⟩
end Go.Pm
end SYk
section SUf
namespace Go.Pm
theorem qoj {f fi fb:Bool} {s:ByteArray} (hs : ¬ 2000<s.size) {y:Rz (Nat->Option Ss)} (h : ∃ n,qdq 12 2 4 f fi fb n (fun _=>none) (qjF s)=some y):qf2 f fi fb s=y:=by
 obtain⟨n,h⟩:=h
 have h1:=qgi h (Nat.le_max_left n (10*(qjF s).length+10))
 have h2:=qgi (qhN (f:=f) (fi:=fi) (fb:=fb) hs) (Nat.le_max_right n (10*(qjF s).length+10))
 rw[h1] at h2
 exact (Option.some.inj h2).symm
theorem qok {ts:List ByteArray} (hcl:Ok2 ts) : ∃ e,Hx ts (qjF (bs (qe8 false ts))) [⟨e,⟨#[]⟩,0⟩]:=by
 obtain⟨l,hl,hm⟩ : ∃ l:List (List UInt8 × ByteArray),OkG l/\l.map (·.2)=ts/\qe0 l=qe8 false ts:=by
  have key : ∀ (ts:List ByteArray) (p:Bool),Ok2 ts -> ∃ l:List (List UInt8 × ByteArray),OkG l/\l.map (·.2)=ts/\qe0 l=qe8 p ts/\(∀ q,l.head?=some q -> ∃ t,ts.head?=some t/\q=(gap p t,t)):=by
   intro ts
   induction ts with
   | nil=>intro p _; exact⟨[],trivial,rfl,rfl,fun q h=>by cases h⟩
   | cons t ts ih=>
    intro p ho
    obtain⟨l,l1,l2,l3,l4⟩:=ih (qdn p t) ho.2.2
    have hwg:qmW (gap p t):=by
     unfold gap
     split
     ·exact qmX (.inl rfl)
     ·exact qjJ
    refine⟨(gap p t,t)::l,⟨hwg,ho.1,fun q hq=>?_,l1⟩,by simp[l2],by simp[qe0,qe8,l3],fun q hq=>⟨t,rfl,by cases hq; rfl⟩⟩
    obtain⟨u,hu,rfl⟩:=l4 q hq
    have hadj:=ho.2.1 u hu
    simp only
    by_cases hgap:(qdn p t&&qax qaE u)=true
    ·left
     exact⟨32,[],by simp[gap,hgap],.inl rfl⟩
    ·right
     have hgap':(qdn p t&&qax qaE u)=false:=by simpa using hgap
     refine⟨by simp[gap,hgap'],?_,hadj⟩
     rw[qoy ho.1 false p]
     exact hgap'
  obtain⟨l,l1,l2,l3,_⟩:=key ts false hcl
  exact⟨l,l1,l2,l3⟩
 have:=qmg 12 2 6 hl qjJ (.inl rfl) (s:=bs (qe8 false ts)) (by rw[qc6,hm.2,List.append_nil])
 rw[hm.1] at this
 exact this
theorem qmF {h:Nat->Option Ss} (hg : ∀ k,qgM (h k)) : ∃ e,Hx (qb9 h) (qjF (bs (qe8 false (qb9 h)))) [⟨e,⟨#[]⟩,0⟩]:=qok (qrk hg).ok
theorem qlf {f fi fb:Bool} {h:Nat->Option Ss} (hg : ∀ k,qgM (h k)) (hs:(qe8 false (qb9 h)).length<=2000) : ∃ r,qf2 f fi fb (bs (qe8 false (qb9 h))) = .ok (fun k=>if k<3 then (h k).map (·.fl f fi fb) else none) r:=by
 obtain⟨e,hx⟩:=qmF hg
 exact⟨_,qoj (by rw[qbh]; omega) (rbP hg hx rfl)⟩
end Go.Pm
end SUf
