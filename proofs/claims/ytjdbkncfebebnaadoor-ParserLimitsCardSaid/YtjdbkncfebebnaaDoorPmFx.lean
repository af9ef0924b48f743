/- The abstract machine's program, printed by a program of our own: group x. The abstract machine's programs: tables of functions. Chapter 13's printer: the builder of strings, tokens put down. The abstract machine's programs: tables of functions. Chapter 13's reference parser: letters, digits, rows of strings, numbers. Chapter 13's reference parser: white space, comments. Chapter 13's reference parser: a token. Chapter 13's reference parser: all tokens of a source. Chapter 13's reference parser: the parser's state; what it looks at, takes, expects. Chapter 13's reference parser: its states, good and behind an error, against the plain tokens. Chapter 13's reference parser: each kind of statement. Chapter 13's reference parser: handlers; a whole source. Chapter 13's reference parser: Parse is the plain one. The rule language in plain Lean: texts of tokens; tokens left out; how long a source is. No program in sight. The rule language in plain Lean: tokens with white space and comments between them. No program in sight. The rule language in plain Lean: what Parse makes of a source is good and no longer; printed, it is read back. No program in sight. The reference's names. The code's names: a round of the range. The abstract machine's program, printed by a program of our own: group 01. The abstract machine's program, printed by a program of our own: group 5. The abstract machine's programs: tables of functions. Chapter 13's generator: choices, expressions. Chapter 13's generator: statements. Chapter 13's generator: whole programs. The abstract machine's program, printed by a program of our own: group Law13. The abstract machine's programs: tables of functions. The abstract machine's programs: tables of functions. The abstract machine's programs: tables of functions. Decimal, of reference 01. Chapter 13's reference printer: expressions. The abstract machine's programs: tables of functions. -/
import Derived.Test.YtjdbkncfebebnaaDoorPmYh
import Derived.Test.YtjdbkncfebebnaaDoorPmF3
import Derived.Test.YtjdbkncfebebnaaDoorPmEt
import Derived.Test.YtjdbkncfebebnaaDoorPmY
set_option linter.unusedSimpArgs false
set_option linter.unusedVariables false
section SFx
namespace Go.Pm.F
variable (C:Task->Option Res) (q:Nat) (fr:Fr) (σ : S)
def G_internal_strconv_uint64pow10:List D:=(List.range 20).map fun i => .lit (.int .u64 (10 ^ i:Nat))
def F245:PFun:=⟨1,[.tmp 2],.seq (rn [jj 2 (.mov (.c (.string ⟨#[]⟩)))] [0]) (.seq (.region (some []) [mv 3 0,nc 4 3,fa 5 1 4,l1 6 5,jj 7 (.usd (.t 6)),mv 8 0,nc 9 8,fa 10 1 9,l1 11 10,ls 12 11,jj 13 (.ustr [3] (.t 7) (.t 12)),mv 2 13] [2]) (.ret)),false,false,false⟩
def F258:PFun:=⟨2,[.tmp 4],.seq (rn [jj 4 (.mov (.c .nilIface))] [0,1]) (.seq (rn [mv 5 0,cl 6 272 [5]] [0,1]) (.seq (rn [mv 7 0,mv 8 0,nc 9 8,fa 10 1 9,l1 11 10,mv 12 1,jj 13 (.bsliceO 1 1 [(.lit (.int .u8 0))] [(0,1,(.t 12))]),jj 14 (.appendT 3 1 1 (.t 11) (.t 13)),nc 15 7,fa 16 1 15,st 1 16 14] []) (.seq (rn [jj 4 (.mov (.c .nilIface))] [4]) (.ret)))),false,false,false⟩
def F259:PFun:=⟨2,[.tmp 4,.tmp 5],.seq (rn [mx 4 (kk 0),jj 5 (.mov (.c .nilIface))] [0,1]) (.seq (rn [mv 6 0,cl 7 272 [6]] [0,1]) (.seq (rn [mv 8 0,mv 9 0,nc 10 9,fa 11 1 10,l1 12 11,mv 13 1,jj 14 (.appendT 3 1 1 (.t 12) (.t 13)),nc 15 8,fa 16 1 15,st 1 16 14] [1]) (.seq (rn [mv 17 1,lz 18 17,mv 4 18,jj 5 (.mov (.c .nilIface))] [4,5]) (.ret)))),false,false,false⟩
def F268:PFun:=⟨2,[.tmp 4],.seq (rn [mx 4 (kk 0)] [0,1]) (.seq (rn [mv 5 0,mv 6 1,cl 7 275 [5,6],mv 4 7] [4]) (.ret)),false,false,false⟩
def F272:PFun:=⟨1,[],.seq (rn [mv 2 0,nc 3 2,fa 4 0 3,l1 5 4,jj 6 (.isnil true false (.t 5))] [0,6]) (.cond (.t 6) (rn [mv 7 0,mv 8 0,jj 9 (.up (.t 8)),mv 10 9,jj 11 (.down [(4,3)] (.t 10)),nc 12 7,fa 13 0 12,st 1 13 11] []) (.seq (rn [mv 14 0,nc 15 14,fa 16 0 15,l1 17 16,mv 18 0,jj 19 (.peq true (.t 17) (.t 18))] [19]) (.cond (.t 19) (.cond (.c .nilIface) (.skip) (.skip)) (.skip)))),false,false,false⟩
def F275:PFun:=⟨2,[.tmp 4],.seq (rn [mx 4 (kk 0)] [0,1]) (.seq (rn [mv 5 0,mv 6 1,jj 7 (.idxb (.t 5) (.t 6)),mv 4 7] [4]) (.ret)),false,false,false⟩
def F276:PFun:=⟨2,[.tmp 4],.seq (rn [mx 4 kF] [0,1]) (.seq (rn [mv 5 0,mv 6 1,cl 7 284 [5,6],bk 8 .geq 7 0,mv 4 8] [4]) (.ret)),false,false,false⟩
def F283:PFun:=⟨1,[.tmp 2],.seq (rn [jj 2 (.mov (.c (.string ⟨#[]⟩)))] [0]) (.seq (rn [mv 3 0,cl 4 288 [3],mv 2 4] [2]) (.ret)),false,false,false⟩
@[simp] def F284l0x:PC:=(.seq (rn [bn 9 .lss 8 7] [0,1,7,8,9]) (.seq (.cond (.t 9) (.skip) (.exit 0)) (.seq (.block 1 (.seq (rn [mv 10 8,mv 5 10] [0,1,5,7,8]) (.seq (rn [mv 11 1,mv 12 0,mv 13 5,jj 14 (.indexAddr 1 (.t 12) (.t 13)),l1 15 14,bn 16 .eql 11 15] [0,1,5,7,8,16]) (.cond (.t 16) (.seq (rn [mv 17 5,mv 4 17] [4]) (.ret)) (.skip))))) (rn [bk 18 .add 8 1,mv 8 18] [0,1,7,8]))))
def F284l0:PC:=F284l0x
theorem qdS:run C q F284l0 fr σ = run C q F284l0x fr σ := rfl
def F284:PFun:=⟨2,[.tmp 4],.seq (rn [mx 4 (kk 0)] [0,1]) (.seq (.seq (rn [mv 6 0,ls 7 6,mx 8 (kk 0)] [0,1,7,8]) (.block 0 (.loop F284l0))) (.seq (rn [mx 4 (kk (-1))] [4]) (.ret))),false,false,false⟩
def F288:PFun:=⟨1,[.tmp 2],.seq (rn [jj 2 (.mov (.c (.string ⟨#[]⟩)))] [0]) (.seq (rn [mv 3 0,jj 4 (.call 291 [(.t 3),(kk 10)]),mv 2 4] [2]) (.ret)),false,false,false⟩
def F291:PFun:=⟨2,[.tmp 4],.seq (rn [jj 4 (.mov (.c (.string ⟨#[]⟩)))] [0,1]) (.seq (.seq (rn [mv 10 1,bk 11 .eql 10 10] [0,1,11]) (.cond (.t 11) (.seq (.seq (rn [mv 12 0,jj 13 (.bin .leq (kk 0) (.t 12)),mv 14 13,jt 15 14 (.mov (.t 0)),jt 16 14 (.bin .lss (.t 15) (kk 100)),jj 17 (.pick (.t 14) (.t 16) kF)] [0,17]) (.cond (.t 17) (.seq (rn [mv 18 0,cl 19 293 [18],mv 4 19] [4]) (.ret)) (.skip))) (.seq (rn [jj 5 (.alloc [(.lit (.int .u8 0)),(.lit (.int .u8 0)),(.lit (.int .u8 0)),(.lit (.int .u8 0)),(.lit (.int .u8 0)),(.lit (.int .u8 0)),(.lit (.int .u8 0)),(.lit (.int .u8 0)),(.lit (.int .u8 0)),(.lit (.int .u8 0)),(.lit (.int .u8 0)),(.lit (.int .u8 0)),(.lit (.int .u8 0)),(.lit (.int .u8 0)),(.lit (.int .u8 0)),(.lit (.int .u8 0)),(.lit (.int .u8 0)),(.lit (.int .u8 0)),(.lit (.int .u8 0)),(.lit (.int .u8 0)),(.lit (.int .u8 0)),(.lit (.int .u8 0)),(.lit (.int .u8 0)),(.lit (.int .u8 0))])] [0,5]) (.seq (rn [mv 20 0,jj 21 (.conv (.int .u64) (.t 20)),mv 6 21] [0,5,6]) (.seq (.seq (rn [mv 22 0,bk 23 .lss 22 0] [0,5,6,23]) (.cond (.t 23) (rn [mv 24 6,jj 25 (.un .neg (.t 24)),mv 6 25] [0,5,6]) (.skip))) (.seq (rn [mv 26 6,cl 27 294 [26],mv 7 27] [0,5,6,7]) (.seq (rn [mv 28 7,jj 29 (.bin .add (kk 1) (.t 28)),jj 30 (.sliceA 24 1 (.t 5) (some (kk 1)) (some (.t 29))),mv 31 6,cl 32 295 [30,31]] [0,5,7]) (.seq (.seq (rn [mv 33 0,bk 34 .lss 33 0] [5,7,34]) (.cond (.t 34) (.seq (rn [jj 35 (.indexAddrA 24 1 (.t 5) (kk 0)),jn (.store 1 (.t 35) (.c (.int .u8 45)))] [5,7]) (.seq (rn [mv 36 7,jj 37 (.bin .add (kk 1) (.t 36)),jj 38 (.sliceA 24 1 (.t 5) none (some (.t 37))),jj 39 (.bstr (.t 38)),mv 4 39] [4]) (.ret))) (.skip))) (.seq (rn [mv 40 7,jj 41 (.bin .add (kk 1) (.t 40)),jj 42 (.sliceA 24 1 (.t 5) (some (kk 1)) (some (.t 41))),jj 43 (.bstr (.t 42)),mv 4 43] [4]) (.ret))))))))) (.skip))) (.seq (rn [mv 45 0,jj 46 (.conv (.int .u64) (.t 45)),mv 47 1,mv 48 0,bk 49 .lss 48 0,jj 50 (.call 296 [(.c (.slice none 0 0)),(.t 46),(.t 47),(.t 49),kF]),mv 44 50,ex 51 44 0,ex 52 44 1,mv 8 51,mv 9 52] [9]) (.seq (rn [mv 53 9,mv 4 53] [4]) (.ret)))),false,false,false⟩
def F293:PFun:=⟨1,[.tmp 2],.seq (rn [jj 2 (.mov (.c (.string ⟨#[]⟩)))] [0]) (.seq (.seq (rn [mv 3 0,bk 4 .lss 3 10] [0,4]) (.cond (.t 4) (.seq (rn [mv 5 0,mv 6 0,bk 7 .add 6 1,jj 8 (.sliceS (.c (.string ⟨#[48,49,50,51,52,53,54,55,56,57,97,98,99,100,101,102,103,104,105,106,107,108,109,110,111,112,113,114,115,116,117,118,119,120,121,122]⟩)) (some (.t 5)) (some (.t 7))),mv 2 8] [2]) (.ret)) (.skip))) (.seq (rn [mv 9 0,bk 10 .mul 9 2,mv 11 0,bk 12 .mul 11 2,bk 13 .add 12 2,jj 14 (.sliceS (.c (.string ⟨#[48,48,48,49,48,50,48,51,48,52,48,53,48,54,48,55,48,56,48,57,49,48,49,49,49,50,49,51,49,52,49,53,49,54,49,55,49,56,49,57,50,48,50,49,50,50,50,51,50,52,50,53,50,54,50,55,50,56,50,57,51,48,51,49,51,50,51,51,51,52,51,53,51,54,51,55,51,56,51,57,52,48,52,49,52,50,52,51,52,52,52,53,52,54,52,55,52,56,52,57,53,48,53,49,53,50,53,51,53,52,53,53,53,54,53,55,53,56,53,57,54,48,54,49,54,50,54,51,54,52,54,53,54,54,54,55,54,56,54,57,55,48,55,49,55,50,55,51,55,52,55,53,55,54,55,55,55,56,55,57,56,48,56,49,56,50,56,51,56,52,56,53,56,54,56,55,56,56,56,57,57,48,57,49,57,50,57,51,57,52,57,53,57,54,57,55,57,56,57,57]⟩)) (some (.t 10)) (some (.t 13))),mv 2 14] [2]) (.ret))),false,false,false⟩
def F294:PFun:=⟨1,[.tmp 2],.seq (rn [mx 2 (kk 0)] [0]) (.seq (rn [mv 4 0,cl 5 299 [4],cl 6 298 [5],mv 3 6] [0,3]) (.seq (rn [mv 7 3,mv 8 0,mv 9 3,jj 10 (.indexAddrA 20 1 (.g G_internal_strconv_uint64pow10) (.t 9)),l1 11 10,bn 12 .geq 8 11,cl 13 300 [12],bn 14 .add 7 13,mv 2 14] [2]) (.ret))),false,false,false⟩
@[simp] def F295l0x:PC:=(.seq (.seq (rn [mv 19 4,bk 20 .geq 19 8] [0,1,4,20]) (.cond (.t 20) (.skip) (.exit 0))) (.block 1 (.seq (rn [mv 21 1,jj 22 (.bin .rem (.t 21) (.c (.int .u64 100000000))),jj 23 (.conv (.int .u32) (.t 22)),mv 5 23] [0,1,4,5]) (.seq (rn [mv 24 1,jj 25 (.bin .quo (.t 24) (.c (.int .u64 100000000))),mv 1 25] [0,1,4,5]) (.seq (rn [mv 26 5,jj 27 (.bin .quo (.t 26) (.c (.int .u32 10000))),mv 28 5,jj 29 (.bin .rem (.t 28) (.c (.int .u32 10000))),mv 6 27,mv 7 29] [0,1,4,6,7]) (.seq (rn [mv 30 7,jj 31 (.bin .quo (.t 30) (.c (.int .u32 100))),jj 32 (.bin .mul (.t 31) (.c (.int .u32 2))),mv 33 7,jj 34 (.bin .rem (.t 33) (.c (.int .u32 100))),jj 35 (.bin .mul (.t 34) (.c (.int .u32 2))),mv 8 32,mv 9 35] [0,1,4,6,8,9]) (.seq (rn [mv 36 6,jj 37 (.bin .quo (.t 36) (.c (.int .u32 100))),jj 38 (.bin .mul (.t 37) (.c (.int .u32 2))),mv 39 6,jj 40 (.bin .rem (.t 39) (.c (.int .u32 100))),jj 41 (.bin .mul (.t 40) (.c (.int .u32 2))),mv 10 38,mv 11 41] [0,1,4,8,9,10,11]) (.seq (.region (some []) [mv 42 0,mv 43 4,bk 44 .sub 43 1,mv 45 0,mv 46 4,bk 47 .sub 46 2,mv 48 9,jj 49 (.bin .add (.t 48) (.c (.int .u32 1))),jj 50 (.indexS (.c (.string ⟨#[48,48,48,49,48,50,48,51,48,52,48,53,48,54,48,55,48,56,48,57,49,48,49,49,49,50,49,51,49,52,49,53,49,54,49,55,49,56,49,57,50,48,50,49,50,50,50,51,50,52,50,53,50,54,50,55,50,56,50,57,51,48,51,49,51,50,51,51,51,52,51,53,51,54,51,55,51,56,51,57,52,48,52,49,52,50,52,51,52,52,52,53,52,54,52,55,52,56,52,57,53,48,53,49,53,50,53,51,53,52,53,53,53,54,53,55,53,56,53,57,54,48,54,49,54,50,54,51,54,52,54,53,54,54,54,55,54,56,54,57,55,48,55,49,55,50,55,51,55,52,55,53,55,54,55,55,55,56,55,57,56,48,56,49,56,50,56,51,56,52,56,53,56,54,56,55,56,56,56,57,57,48,57,49,57,50,57,51,57,52,57,53,57,54,57,55,57,56,57,57]⟩)) (.t 49)),mv 51 9,jj 52 (.indexS (.c (.string ⟨#[48,48,48,49,48,50,48,51,48,52,48,53,48,54,48,55,48,56,48,57,49,48,49,49,49,50,49,51,49,52,49,53,49,54,49,55,49,56,49,57,50,48,50,49,50,50,50,51,50,52,50,53,50,54,50,55,50,56,50,57,51,48,51,49,51,50,51,51,51,52,51,53,51,54,51,55,51,56,51,57,52,48,52,49,52,50,52,51,52,52,52,53,52,54,52,55,52,56,52,57,53,48,53,49,53,50,53,51,53,52,53,53,53,54,53,55,53,56,53,57,54,48,54,49,54,50,54,51,54,52,54,53,54,54,54,55,54,56,54,57,55,48,55,49,55,50,55,51,55,52,55,53,55,54,55,55,55,56,55,57,56,48,56,49,56,50,56,51,56,52,56,53,56,54,56,55,56,56,56,57,57,48,57,49,57,50,57,51,57,52,57,53,57,54,57,55,57,56,57,57]⟩)) (.t 51)),jj 53 (.indexAddr 1 (.t 42) (.t 44)),st 1 53 50,jj 54 (.indexAddr 1 (.t 45) (.t 47)),st 1 54 52] [0,1,4,8,10,11]) (.seq (.region (some []) [mv 55 0,mv 56 4,bk 57 .sub 56 3,mv 58 0,mv 59 4,bk 60 .sub 59 4,mv 61 8,jj 62 (.bin .add (.t 61) (.c (.int .u32 1))),jj 63 (.indexS (.c (.string ⟨#[48,48,48,49,48,50,48,51,48,52,48,53,48,54,48,55,48,56,48,57,49,48,49,49,49,50,49,51,49,52,49,53,49,54,49,55,49,56,49,57,50,48,50,49,50,50,50,51,50,52,50,53,50,54,50,55,50,56,50,57,51,48,51,49,51,50,51,51,51,52,51,53,51,54,51,55,51,56,51,57,52,48,52,49,52,50,52,51,52,52,52,53,52,54,52,55,52,56,52,57,53,48,53,49,53,50,53,51,53,52,53,53,53,54,53,55,53,56,53,57,54,48,54,49,54,50,54,51,54,52,54,53,54,54,54,55,54,56,54,57,55,48,55,49,55,50,55,51,55,52,55,53,55,54,55,55,55,56,55,57,56,48,56,49,56,50,56,51,56,52,56,53,56,54,56,55,56,56,56,57,57,48,57,49,57,50,57,51,57,52,57,53,57,54,57,55,57,56,57,57]⟩)) (.t 62)),mv 64 8,jj 65 (.indexS (.c (.string ⟨#[48,48,48,49,48,50,48,51,48,52,48,53,48,54,48,55,48,56,48,57,49,48,49,49,49,50,49,51,49,52,49,53,49,54,49,55,49,56,49,57,50,48,50,49,50,50,50,51,50,52,50,53,50,54,50,55,50,56,50,57,51,48,51,49,51,50,51,51,51,52,51,53,51,54,51,55,51,56,51,57,52,48,52,49,52,50,52,51,52,52,52,53,52,54,52,55,52,56,52,57,53,48,53,49,53,50,53,51,53,52,53,53,53,54,53,55,53,56,53,57,54,48,54,49,54,50,54,51,54,52,54,53,54,54,54,55,54,56,54,57,55,48,55,49,55,50,55,51,55,52,55,53,55,54,55,55,55,56,55,57,56,48,56,49,56,50,56,51,56,52,56,53,56,54,56,55,56,56,56,57,57,48,57,49,57,50,57,51,57,52,57,53,57,54,57,55,57,56,57,57]⟩)) (.t 64)),jj 66 (.indexAddr 1 (.t 55) (.t 57)),st 1 66 63,jj 67 (.indexAddr 1 (.t 58) (.t 60)),st 1 67 65] [0,1,4,10,11]) (.seq (.region (some []) [mv 68 0,mv 69 4,bk 70 .sub 69 5,mv 71 0,mv 72 4,bk 73 .sub 72 6,mv 74 11,jj 75 (.bin .add (.t 74) (.c (.int .u32 1))),jj 76 (.indexS (.c (.string ⟨#[48,48,48,49,48,50,48,51,48,52,48,53,48,54,48,55,48,56,48,57,49,48,49,49,49,50,49,51,49,52,49,53,49,54,49,55,49,56,49,57,50,48,50,49,50,50,50,51,50,52,50,53,50,54,50,55,50,56,50,57,51,48,51,49,51,50,51,51,51,52,51,53,51,54,51,55,51,56,51,57,52,48,52,49,52,50,52,51,52,52,52,53,52,54,52,55,52,56,52,57,53,48,53,49,53,50,53,51,53,52,53,53,53,54,53,55,53,56,53,57,54,48,54,49,54,50,54,51,54,52,54,53,54,54,54,55,54,56,54,57,55,48,55,49,55,50,55,51,55,52,55,53,55,54,55,55,55,56,55,57,56,48,56,49,56,50,56,51,56,52,56,53,56,54,56,55,56,56,56,57,57,48,57,49,57,50,57,51,57,52,57,53,57,54,57,55,57,56,57,57]⟩)) (.t 75)),mv 77 11,jj 78 (.indexS (.c (.string ⟨#[48,48,48,49,48,50,48,51,48,52,48,53,48,54,48,55,48,56,48,57,49,48,49,49,49,50,49,51,49,52,49,53,49,54,49,55,49,56,49,57,50,48,50,49,50,50,50,51,50,52,50,53,50,54,50,55,50,56,50,57,51,48,51,49,51,50,51,51,51,52,51,53,51,54,51,55,51,56,51,57,52,48,52,49,52,50,52,51,52,52,52,53,52,54,52,55,52,56,52,57,53,48,53,49,53,50,53,51,53,52,53,53,53,54,53,55,53,56,53,57,54,48,54,49,54,50,54,51,54,52,54,53,54,54,54,55,54,56,54,57,55,48,55,49,55,50,55,51,55,52,55,53,55,54,55,55,55,56,55,57,56,48,56,49,56,50,56,51,56,52,56,53,56,54,56,55,56,56,56,57,57,48,57,49,57,50,57,51,57,52,57,53,57,54,57,55,57,56,57,57]⟩)) (.t 77)),jj 79 (.indexAddr 1 (.t 68) (.t 70)),st 1 79 76,jj 80 (.indexAddr 1 (.t 71) (.t 73)),st 1 80 78] [0,1,4,10]) (.seq (.region (some []) [mv 81 0,mv 82 4,bk 83 .sub 82 7,mv 84 0,mv 85 4,bk 86 .sub 85 8,mv 87 10,jj 88 (.bin .add (.t 87) (.c (.int .u32 1))),jj 89 (.indexS (.c (.string ⟨#[48,48,48,49,48,50,48,51,48,52,48,53,48,54,48,55,48,56,48,57,49,48,49,49,49,50,49,51,49,52,49,53,49,54,49,55,49,56,49,57,50,48,50,49,50,50,50,51,50,52,50,53,50,54,50,55,50,56,50,57,51,48,51,49,51,50,51,51,51,52,51,53,51,54,51,55,51,56,51,57,52,48,52,49,52,50,52,51,52,52,52,53,52,54,52,55,52,56,52,57,53,48,53,49,53,50,53,51,53,52,53,53,53,54,53,55,53,56,53,57,54,48,54,49,54,50,54,51,54,52,54,53,54,54,54,55,54,56,54,57,55,48,55,49,55,50,55,51,55,52,55,53,55,54,55,55,55,56,55,57,56,48,56,49,56,50,56,51,56,52,56,53,56,54,56,55,56,56,56,57,57,48,57,49,57,50,57,51,57,52,57,53,57,54,57,55,57,56,57,57]⟩)) (.t 88)),mv 90 10,jj 91 (.indexS (.c (.string ⟨#[48,48,48,49,48,50,48,51,48,52,48,53,48,54,48,55,48,56,48,57,49,48,49,49,49,50,49,51,49,52,49,53,49,54,49,55,49,56,49,57,50,48,50,49,50,50,50,51,50,52,50,53,50,54,50,55,50,56,50,57,51,48,51,49,51,50,51,51,51,52,51,53,51,54,51,55,51,56,51,57,52,48,52,49,52,50,52,51,52,52,52,53,52,54,52,55,52,56,52,57,53,48,53,49,53,50,53,51,53,52,53,53,53,54,53,55,53,56,53,57,54,48,54,49,54,50,54,51,54,52,54,53,54,54,54,55,54,56,54,57,55,48,55,49,55,50,55,51,55,52,55,53,55,54,55,55,55,56,55,57,56,48,56,49,56,50,56,51,56,52,56,53,56,54,56,55,56,56,56,57,57,48,57,49,57,50,57,51,57,52,57,53,57,54,57,55,57,56,57,57]⟩)) (.t 90)),jj 92 (.indexAddr 1 (.t 81) (.t 83)),st 1 92 89,jj 93 (.indexAddr 1 (.t 84) (.t 86)),st 1 93 91] [0,1,4]) (rn [mv 94 4,bk 95 .sub 94 8,mv 4 95] [0,1,4]))))))))))))
def F295l0:PC:=F295l0x
def F295:PFun:=⟨2,[],.seq (rn [mv 17 0,ls 18 17,mv 4 18] [0,1,4]) (.seq (.block 0 (.loop F295l0)) (.seq (rn [mv 96 1,jj 97 (.conv (.int .u32) (.t 96)),mv 12 97] [0,4,12]) (.seq (.seq (rn [mv 98 4,bk 99 .geq 98 4] [0,4,12,99]) (.cond (.t 99) (.seq (rn [mv 100 12,jj 101 (.bin .rem (.t 100) (.c (.int .u32 10000))),mv 13 101] [0,4,12,13]) (.seq (rn [mv 102 12,jj 103 (.bin .quo (.t 102) (.c (.int .u32 10000))),mv 12 103] [0,4,12,13]) (.seq (rn [mv 104 13,jj 105 (.bin .quo (.t 104) (.c (.int .u32 100))),jj 106 (.bin .mul (.t 105) (.c (.int .u32 2))),mv 107 13,jj 108 (.bin .rem (.t 107) (.c (.int .u32 100))),jj 109 (.bin .mul (.t 108) (.c (.int .u32 2))),mv 14 106,mv 15 109] [0,4,12,14,15]) (.seq (.region (some []) [mv 110 0,mv 111 4,bk 112 .sub 111 1,mv 113 0,mv 114 4,bk 115 .sub 114 2,mv 116 15,jj 117 (.bin .add (.t 116) (.c (.int .u32 1))),jj 118 (.indexS (.c (.string ⟨#[48,48,48,49,48,50,48,51,48,52,48,53,48,54,48,55,48,56,48,57,49,48,49,49,49,50,49,51,49,52,49,53,49,54,49,55,49,56,49,57,50,48,50,49,50,50,50,51,50,52,50,53,50,54,50,55,50,56,50,57,51,48,51,49,51,50,51,51,51,52,51,53,51,54,51,55,51,56,51,57,52,48,52,49,52,50,52,51,52,52,52,53,52,54,52,55,52,56,52,57,53,48,53,49,53,50,53,51,53,52,53,53,53,54,53,55,53,56,53,57,54,48,54,49,54,50,54,51,54,52,54,53,54,54,54,55,54,56,54,57,55,48,55,49,55,50,55,51,55,52,55,53,55,54,55,55,55,56,55,57,56,48,56,49,56,50,56,51,56,52,56,53,56,54,56,55,56,56,56,57,57,48,57,49,57,50,57,51,57,52,57,53,57,54,57,55,57,56,57,57]⟩)) (.t 117)),mv 119 15,jj 120 (.indexS (.c (.string ⟨#[48,48,48,49,48,50,48,51,48,52,48,53,48,54,48,55,48,56,48,57,49,48,49,49,49,50,49,51,49,52,49,53,49,54,49,55,49,56,49,57,50,48,50,49,50,50,50,51,50,52,50,53,50,54,50,55,50,56,50,57,51,48,51,49,51,50,51,51,51,52,51,53,51,54,51,55,51,56,51,57,52,48,52,49,52,50,52,51,52,52,52,53,52,54,52,55,52,56,52,57,53,48,53,49,53,50,53,51,53,52,53,53,53,54,53,55,53,56,53,57,54,48,54,49,54,50,54,51,54,52,54,53,54,54,54,55,54,56,54,57,55,48,55,49,55,50,55,51,55,52,55,53,55,54,55,55,55,56,55,57,56,48,56,49,56,50,56,51,56,52,56,53,56,54,56,55,56,56,56,57,57,48,57,49,57,50,57,51,57,52,57,53,57,54,57,55,57,56,57,57]⟩)) (.t 119)),jj 121 (.indexAddr 1 (.t 110) (.t 112)),st 1 121 118,jj 122 (.indexAddr 1 (.t 113) (.t 115)),st 1 122 120] [0,4,12,14]) (.seq (.region (some []) [mv 123 0,mv 124 4,bk 125 .sub 124 3,mv 126 0,mv 127 4,bk 128 .sub 127 4,mv 129 14,jj 130 (.bin .add (.t 129) (.c (.int .u32 1))),jj 131 (.indexS (.c (.string ⟨#[48,48,48,49,48,50,48,51,48,52,48,53,48,54,48,55,48,56,48,57,49,48,49,49,49,50,49,51,49,52,49,53,49,54,49,55,49,56,49,57,50,48,50,49,50,50,50,51,50,52,50,53,50,54,50,55,50,56,50,57,51,48,51,49,51,50,51,51,51,52,51,53,51,54,51,55,51,56,51,57,52,48,52,49,52,50,52,51,52,52,52,53,52,54,52,55,52,56,52,57,53,48,53,49,53,50,53,51,53,52,53,53,53,54,53,55,53,56,53,57,54,48,54,49,54,50,54,51,54,52,54,53,54,54,54,55,54,56,54,57,55,48,55,49,55,50,55,51,55,52,55,53,55,54,55,55,55,56,55,57,56,48,56,49,56,50,56,51,56,52,56,53,56,54,56,55,56,56,56,57,57,48,57,49,57,50,57,51,57,52,57,53,57,54,57,55,57,56,57,57]⟩)) (.t 130)),mv 132 14,jj 133 (.indexS (.c (.string ⟨#[48,48,48,49,48,50,48,51,48,52,48,53,48,54,48,55,48,56,48,57,49,48,49,49,49,50,49,51,49,52,49,53,49,54,49,55,49,56,49,57,50,48,50,49,50,50,50,51,50,52,50,53,50,54,50,55,50,56,50,57,51,48,51,49,51,50,51,51,51,52,51,53,51,54,51,55,51,56,51,57,52,48,52,49,52,50,52,51,52,52,52,53,52,54,52,55,52,56,52,57,53,48,53,49,53,50,53,51,53,52,53,53,53,54,53,55,53,56,53,57,54,48,54,49,54,50,54,51,54,52,54,53,54,54,54,55,54,56,54,57,55,48,55,49,55,50,55,51,55,52,55,53,55,54,55,55,55,56,55,57,56,48,56,49,56,50,56,51,56,52,56,53,56,54,56,55,56,56,56,57,57,48,57,49,57,50,57,51,57,52,57,53,57,54,57,55,57,56,57,57]⟩)) (.t 132)),jj 134 (.indexAddr 1 (.t 123) (.t 125)),st 1 134 131,jj 135 (.indexAddr 1 (.t 126) (.t 128)),st 1 135 133] [0,4,12]) (rn [mv 136 4,bk 137 .sub 136 4,mv 4 137] [0,4,12])))))) (.skip))) (.seq (.seq (rn [mv 138 4,bk 139 .geq 138 2] [0,4,12,139]) (.cond (.t 139) (.seq (rn [mv 140 12,jj 141 (.bin .rem (.t 140) (.c (.int .u32 100))),jj 142 (.bin .mul (.t 141) (.c (.int .u32 2))),mv 16 142] [0,4,12,16]) (.seq (rn [mv 143 12,jj 144 (.bin .quo (.t 143) (.c (.int .u32 100))),mv 12 144] [0,4,12,16]) (.seq (.region (some []) [mv 145 0,mv 146 4,bk 147 .sub 146 1,mv 148 0,mv 149 4,bk 150 .sub 149 2,mv 151 16,jj 152 (.bin .add (.t 151) (.c (.int .u32 1))),jj 153 (.indexS (.c (.string ⟨#[48,48,48,49,48,50,48,51,48,52,48,53,48,54,48,55,48,56,48,57,49,48,49,49,49,50,49,51,49,52,49,53,49,54,49,55,49,56,49,57,50,48,50,49,50,50,50,51,50,52,50,53,50,54,50,55,50,56,50,57,51,48,51,49,51,50,51,51,51,52,51,53,51,54,51,55,51,56,51,57,52,48,52,49,52,50,52,51,52,52,52,53,52,54,52,55,52,56,52,57,53,48,53,49,53,50,53,51,53,52,53,53,53,54,53,55,53,56,53,57,54,48,54,49,54,50,54,51,54,52,54,53,54,54,54,55,54,56,54,57,55,48,55,49,55,50,55,51,55,52,55,53,55,54,55,55,55,56,55,57,56,48,56,49,56,50,56,51,56,52,56,53,56,54,56,55,56,56,56,57,57,48,57,49,57,50,57,51,57,52,57,53,57,54,57,55,57,56,57,57]⟩)) (.t 152)),mv 154 16,jj 155 (.indexS (.c (.string ⟨#[48,48,48,49,48,50,48,51,48,52,48,53,48,54,48,55,48,56,48,57,49,48,49,49,49,50,49,51,49,52,49,53,49,54,49,55,49,56,49,57,50,48,50,49,50,50,50,51,50,52,50,53,50,54,50,55,50,56,50,57,51,48,51,49,51,50,51,51,51,52,51,53,51,54,51,55,51,56,51,57,52,48,52,49,52,50,52,51,52,52,52,53,52,54,52,55,52,56,52,57,53,48,53,49,53,50,53,51,53,52,53,53,53,54,53,55,53,56,53,57,54,48,54,49,54,50,54,51,54,52,54,53,54,54,54,55,54,56,54,57,55,48,55,49,55,50,55,51,55,52,55,53,55,54,55,55,55,56,55,57,56,48,56,49,56,50,56,51,56,52,56,53,56,54,56,55,56,56,56,57,57,48,57,49,57,50,57,51,57,52,57,53,57,54,57,55,57,56,57,57]⟩)) (.t 154)),jj 156 (.indexAddr 1 (.t 145) (.t 147)),st 1 156 153,jj 157 (.indexAddr 1 (.t 148) (.t 150)),st 1 157 155] [0,4,12]) (rn [mv 158 4,bk 159 .sub 158 2,mv 4 159] [0,4,12])))) (.skip))) (.seq (rn [mv 160 4,bk 161 .gtr 160 0] [0,12,161]) (.cond (.t 161) (rn [mv 162 0,mv 163 12,jj 164 (.bin .add (.c (.int .u32 48)) (.t 163)),jj 165 (.conv (.int .u8) (.t 164)),jj 166 (.indexAddr 1 (.t 162) (kk 0)),st 1 166 165] []) (.skip))))))),false,false,false⟩
def F298:PFun:=⟨1,[.tmp 2],.seq (rn [mx 2 (kk 0)] [0]) (.seq (rn [mv 3 0,bk 4 .mul 3 78913,jj 5 (.bin .shr (.t 4) (.c (.int .u64 18))),mv 2 5] [2]) (.ret)),false,false,false⟩
def F299:PFun:=⟨1,[.tmp 2],.seq (rn [mx 2 (kk 0)] [0,2]) (.seq (.seq (rn [mv 3 0,jj 4 (.bin .geq (.t 3) (.c (.int .u64 4294967296)))] [0,2,4]) (.cond (.t 4) (.seq (rn [mv 5 0,jj 6 (.bin .shr (.t 5) (.c (.int .u64 32))),mv 0 6] [0]) (rn [mx 2 (kk 32)] [0,2])) (.skip))) (.seq (.seq (rn [mv 7 0,jj 8 (.bin .geq (.t 7) (.c (.int .u64 65536)))] [0,2,8]) (.cond (.t 8) (.seq (rn [mv 9 0,jj 10 (.bin .shr (.t 9) (.c (.int .u64 16))),mv 0 10] [0,2]) (rn [mv 11 2,bk 12 .add 11 16,mv 2 12] [0,2])) (.skip))) (.seq (.seq (rn [mv 13 0,jj 14 (.bin .geq (.t 13) (.c (.int .u64 256)))] [0,2,14]) (.cond (.t 14) (.seq (rn [mv 15 0,jj 16 (.bin .shr (.t 15) (.c (.int .u64 8))),mv 0 16] [0,2]) (rn [mv 17 2,bk 18 .add 17 8,mv 2 18] [0,2])) (.skip))) (.seq (rn [mv 19 2,mv 20 0,jj 21 (.conv (.int .u8) (.t 20)),jj 22 (.indexS (.c (.string ⟨#[0,1,2,2,3,3,3,3,4,4,4,4,4,4,4,4,5,5,5,5,5,5,5,5,5,5,5,5,5,5,5,5,6,6,6,6,6,6,6,6,6,6,6,6,6,6,6,6,6,6,6,6,6,6,6,6,6,6,6,6,6,6,6,6,7,7,7,7,7,7,7,7,7,7,7,7,7,7,7,7,7,7,7,7,7,7,7,7,7,7,7,7,7,7,7,7,7,7,7,7,7,7,7,7,7,7,7,7,7,7,7,7,7,7,7,7,7,7,7,7,7,7,7,7,7,7,7,7,8,8,8,8,8,8,8,8,8,8,8,8,8,8,8,8,8,8,8,8,8,8,8,8,8,8,8,8,8,8,8,8,8,8,8,8,8,8,8,8,8,8,8,8,8,8,8,8,8,8,8,8,8,8,8,8,8,8,8,8,8,8,8,8,8,8,8,8,8,8,8,8,8,8,8,8,8,8,8,8,8,8,8,8,8,8,8,8,8,8,8,8,8,8,8,8,8,8,8,8,8,8,8,8,8,8,8,8,8,8,8,8,8,8,8,8,8,8,8,8,8,8,8,8,8,8,8,8]⟩)) (.t 21)),jj 23 (.conv (.int .i64) (.t 22)),bn 24 .add 19 23,mv 2 24] [2]) (.ret))))),false,false,false⟩
def F300:PFun:=⟨1,[.tmp 2],.seq (rn [mx 2 (kk 0)] [0]) (.seq (.seq (rn [mv 3 0] [3]) (.cond (.t 3) (.seq (rn [mx 2 (kk 1)] [2]) (.ret)) (.skip))) (.seq (rn [mx 2 (kk 0)] [2]) (.ret))),false,false,false⟩
end Go.Pm.F
end SFx
section STQ
namespace Go.Pm.F
def tQ:Nat->Option PFun
 | 231=>some F231
 | 243=>some F243
 | 244=>some F244
 | 245=>some F245
 | 257=>some F257
 | 258=>some F258
 | 259=>some F259
 | 260=>some F260
 | 264=>some F264
 | 266=>some F266
 | 272=>some F272
 | 273=>some F273
 | 274=>some F274
 | 282=>some F282
 | 283=>some F283
 | 288=>some F288
 | 291=>some F291
 | 293=>some F293
 | 294=>some F294
 | 295=>some F295
 | 298=>some F298
 | 299=>some F299
 | 300=>some F300
 | _=>none
end Go.Pm.F
end STQ
section SOb
namespace Go.Pm
open F
set_option maxHeartbeats 4000000
def vb (w:List UInt8):List V:=w.map fun b => .dat (.lit (.int .u8 b.toNat))
theorem qnV (w:List UInt8):qax (vb w)=[]:=by
 induction w with
 | nil=>rfl
 | cons x w ih=>simpa [vb] using ih
theorem qpE (r:Nat->Nat) (w:List UInt8):qc9 r (vb w)=vb w:=by
 induction w with
 | nil=>rfl
 | cons x w ih=>simpa [vb] using ih
attribute [local simp] qnV qpE
end Go.Pm
end SOb
section STR
namespace Go.Pm.F
def tR:Nat->Option PFun
 | _=>none
end Go.Pm.F
end STR
section SJa
namespace Go.Pm
open F
set_option maxHeartbeats 2000000
structure RowS (d:D) (l:List ByteArray):Prop where
 len : ∀ σ,V.len σ .sl (.dat d)=some l.length
 at_ : ∀ i:Nat,i<l.length->qaP 1 (.dat d) i=some (.dat (.imm (qa5 l) i))
 one:V.one (.dat d)=true
 cells:V.cells (.dat d)=[.dat d]
theorem qae (l:List ByteArray) (f:Bool):RowS (.sl (qa5 l) l.length f) l where
 len _:=rfl
 at_ i h:=by simp[qaP,h]
 one:=rfl
 cells:=rfl
theorem qn9 (s:ByteArray) (i:Nat):s[i]?=s.data.toList[i]?:=by
 by_cases h:i<s.size
 ·rw[getElem?_pos s i h,List.getElem?_eq_getElem (by rw[Array.length_toList]; exact h)]
  simp[ByteArray.getElem_eq_getElem_data]
 ·rw[getElem?_neg s i h,List.getElem?_eq_none (by rw[Array.length_toList]; exact Nat.not_lt.1 h)]
theorem qka {s:ByteArray} {i:Nat} (h:i<s.size) : ∃ c,s[i]?=some c/\s.data.toList[i]?=some c:=by
 refine⟨s.data.toList[i]'(by rw[Array.length_toList]; exact h),?_,List.getElem?_eq_getElem _⟩
 rw[qn9]
 exact List.getElem?_eq_getElem _
end Go.Pm
end SJa
section SJb
namespace Go.Pm
open F
set_option maxHeartbeats 2000000
theorem qe4 {s:ByteArray} {i:Nat} {c:UInt8} (h:s.data.toList[i]?=some c):(byl s).drop i=c::(byl s).drop (i+1):=by
 have hi:=(List.getElem?_eq_some_iff.1 h)
 obtain⟨h1,h2⟩:=hi
 rw[<- h2]
 exact List.drop_eq_getElem_cons h1
end Go.Pm
end SJb
section SJc
namespace Go.Pm
open F
set_option maxHeartbeats 4000000
theorem qi8 (p:UInt8->Bool) : ∀ l:List UInt8,∀ b∈l.take (qbc p l),p b=true
 | [],b,h=>by simp[qbc] at h
 | c::r,b,h=>by
  simp only[qbc] at h
  split at h
  ·rename_i hc
   rw[List.take_succ_cons] at h
   rcases List.mem_cons.1 h with rfl | h
   ·exact hc
   ·exact qi8 p r b h
  ·simp at h
end Go.Pm
end SJc
section SJd
namespace Go.Pm
open F
set_option maxHeartbeats 4000000
theorem qmC (eS eL eR:Nat) (c:UInt8) (r:List UInt8):1<=(tokL eS eL eR (c::r)).1.length/\(tokL eS eL eR (c::r)).1.length<=r.length+1:=by
 have h1:=qei qaE (c::r)
 have h2:=qei qap (c::r)
 simp only[tokL]
 split
 ·rename_i h
  have hw:qaE c=true:=by simp[qaE,h]
  have:1<=qbc qaE (c::r):=by simp only[qbc,hw,if_true]; omega
  simp only[List.length_take,List.length_cons] at h1 ⊢
  omega
 split
 ·rename_i h
  have:1<=qbc qap (c::r):=by simp only[qbc,h,if_true]; omega
  simp only[List.length_take,List.length_cons] at h2 ⊢
  omega
 split
 ·rename_i h
  have:=qdX h
  rw[qcl] at this
  simp only[List.length_take,List.length_cons] at this ⊢
  omega
 split<;>simp
theorem qip {s:ByteArray} {i:Nat} (hi:i<s.size) (eS eL eR:Nat):1<=(tokAt eS eL eR s i).s.size/\i+(tokAt eS eL eR s i).s.size<=s.size:=by
 obtain⟨c,h1,h2⟩:=qka hi
 have hd:=qe4 h2
 rw[qcJ]
 simp only[qcl]
 rw[hd]
 have:=qmC eS eL eR c ((byl s).drop (i+1))
 rw[List.length_drop,qa1] at this
 omega
def qr9:List Tk->List Tk
 | []=>[]
 | t::r=>if t.bad≠0\/t.s.size=0 then [t] else t::qr9 r
end Go.Pm
end SJd
section SJe
namespace Go.Pm
open F
set_option maxHeartbeats 4000000
structure Ps where
 i:Nat
 a:Nat
 e:Nat
def qpa (T:List Tk) (i:Nat):Tk:=T.getD i ⟨0,⟨#[]⟩,0⟩
def qS:ByteArray:=bs [63]
end Go.Pm
end SJe
section SJf
namespace Go.Pm
open F
structure TokP (t:Tk):Prop where
 q:t.bad=0->t.s≠qS
 dig:t.bad=0->qaC qap t.s=true->(∀ c∈t.s.data.toList,qap c=true)/\digV t.s.data.toList<=2147483647/\t.s.size<2 ^ 40
structure WfT (T:List Tk):Prop where
 len:T.length<2 ^ 40
 tok : ∀ t∈T,TokP t
 pos : ∀ i,i+1<T.length->(qpa T i).s.size≠0
 last : ∀ i,i+1=T.length->(qpa T i).s=⟨#[]⟩/\(qpa T i).bad=0
structure Gd (T:List Tk) (s:Ps) (ts:List Tk):Prop where
 e:s.e=0
 a:s.a=0
 lt:s.i<T.length
 ts:qr9 (T.drop s.i)=ts
structure Er (T:List Tk) (s:Ps) (p c:Nat):Prop where
 lt:s.i<T.length
 c0:c≠0
 or:(s.e=c/\s.a=p)\/(s.e=0/\(qpa T s.i).bad=c/\(qpa T s.i).at_=p)
end Go.Pm
end SJf
section SJm
namespace Go.Pm
open F
set_option maxHeartbeats 4000000
section
variable {T:List Tk} {s:Ps} {lv:Nat}
abbrev k1 (k n:Int) (y:ByteArray) (ks:D):D := .sl [.lit (.int .i64 k),.lit (.int .i64 n),.lit (.string y),ks] 1 true
abbrev k2 (k n:Int) (y:ByteArray) (ks:D) (k' n':Int) (y':ByteArray) (ks':D):D := .sl [.lit (.int .i64 k),.lit (.int .i64 n),.lit (.string y),ks,.lit (.int .i64 k'),.lit (.int .i64 n'),.lit (.string y'),ks'] 2 true
abbrev k3 (k n:Int) (y:ByteArray) (ks:D) (k' n':Int) (y':ByteArray) (ks':D) (k'' n'':Int) (y'':ByteArray) (ks'':D):D := .sl [.lit (.int .i64 k),.lit (.int .i64 n),.lit (.string y),ks,.lit (.int .i64 k'),.lit (.int .i64 n'),.lit (.string y'),ks',.lit (.int .i64 k''),.lit (.int .i64 n''),.lit (.string y''),ks''] 3 false
end
end Go.Pm
end SJm
section SJp
namespace Go.Pm
open F
set_option maxHeartbeats 4000000
structure N4 where
 k:Int
 n:Int
 s:ByteArray
 d:D
 one:V.one (.dat d)=true
 cl:V.cells (.dat d)=[.dat d]
abbrev rob (r:Nat->N4):Ob := .cells [.int (r 0).k,.int (r 0).n,.str (r 0).s,.dat (r 0).d,.int (r 1).k,.int (r 1).n,.str (r 1).s,.dat (r 1).d,.int (r 2).k,.int (r 2).n,.str (r 2).s,.dat (r 2).d]
def qqo (r:Nat->N4) (k:Nat) (v:N4):Nat->N4:=fun i=>if i=k then v else r i
abbrev qor:Ob := .cells [.int 0,.int 0,.str ⟨#[]⟩,.dat (.lit (.slice none 0 0)),.int 0,.int 0,.str ⟨#[]⟩,.dat (.lit (.slice none 0 0)),.int 0,.int 0,.str ⟨#[]⟩,.dat (.lit (.slice none 0 0))]
section
variable {T:List Tk} {s:Ps} {r:Nat->N4}
def qel:Option Ss->N4
 | none=>⟨0,0,⟨#[]⟩,.lit (.slice none 0 0),rfl,rfl⟩
 | some b=>⟨7,0,⟨#[]⟩,kd false b.fo.len b.fo.cells,by simp,by simp⟩
end
end Go.Pm
end SJp
section SJq
namespace Go.Pm
open F
set_option maxHeartbeats 4000000
theorem qob {s:ByteArray} (hl:s.size<2 ^ 30) {j:Nat} (hj:j<s.size):TokP (tokAt 12 2 6 s j):=by
 obtain⟨p1,p2⟩:=qip hj 12 2 6
 obtain⟨c,h1,h2⟩:=qka hj
 have hd:=qe4 h2
 rw[qcJ,hd] at p2 ⊢
 generalize (byl s).drop (j+1)=r at *
 have hsz:(bs (tokL 12 2 6 (c::r)).1).size<2 ^ 40:=by simp only at p2; omega
 have start : ∀ (p:UInt8->Bool) (x:UInt8) (w:List UInt8),qaC p (bs (x::w))=p x:=fun p x w=>by rw[qb1,qc4]; rfl
 by_cases hlet:qaQ c=true
 ·have hw:qaE c=true:=by simp[qaE,hlet]
  have e:(c::r).take (qbc qaE (c::r))=c::r.take (qbc qaE r):=by simp[qbc,hw]
  have ht:(tokL 12 2 6 (c::r)).1=c::r.take (qbc qaE r):=by simp only[tokL,hlet,if_true]; exact e
  rw[ht]
  have hnd:qap c=false:=by
   simp only[qap,qaQ,Bool.and_eq_true,decide_eq_true_eq,Bool.and_eq_false_iff,decide_eq_false_iff_not] at hlet ⊢
   omega
  refine⟨fun _ h=>?_,fun _ h=>?_⟩
  ·have:=qjG h
   simp only[List.cons.injEq] at this
   rw[this.1] at hlet
   exact absurd hlet (by decide)
  ·simp only at h
   rw[start,hnd] at h
   cases h
 ·by_cases hdig:qap c=true
  ·have e:(c::r).take (qbc qap (c::r))=c::r.take (qbc qap r):=by simp[qbc,hdig]
   have ht:tokL 12 2 6 (c::r)=((c::r).take (qbc qap (c::r)),if 2147483647<digV ((c::r).take (qbc qap (c::r))) then 6 else 0):=by simp only[tokL,hlet,hdig,if_true,Bool.false_eq_true,if_false]
   rw[ht] at hsz ⊢
   refine⟨fun _ h=>?_,fun h _=>⟨fun b hb=>?_,?_,hsz⟩⟩
   ·simp only at h
    rw[e] at h
    have:=qjG h
    simp only[List.cons.injEq] at this
    rw[this.1] at hdig
    exact absurd hdig (by decide)
   ·exact qi8 qap (c::r) b hb
   ·simp only at h ⊢
    split at h
    ·cases h
    ·rename_i hb
     exact Nat.not_lt.1 hb
  ·by_cases hp:bs ((c::r).take 2)∈qcS
   ·have ht:tokL 12 2 6 (c::r)=((c::r).take 2,0):=by simp only[tokL,hlet,hdig,if_pos hp,Bool.false_eq_true,if_false]
    rw[ht]
    have key : ∀ w:List UInt8,bs w∈qcS->bs w≠qS/\qaC qap (bs w)=false:=fun w hw=>by
     rcases pair_cases hw with rfl | rfl | rfl | rfl | rfl | rfl<;>decide
    obtain⟨k1,k2⟩:=key _ hp
    exact⟨fun _=>k1,fun _ h=>by rw[k2] at h; cases h⟩
   ·by_cases hs:c.toNat∈qhE
    ·have ht:tokL 12 2 6 (c::r)=([c],0):=by simp only[tokL,hlet,hdig,if_neg hp,if_pos hs,Bool.false_eq_true,if_false]
     rw[ht]
     refine⟨fun _ h=>?_,fun _ h=>?_⟩
     ·have:=qjG h
      simp only[List.cons.injEq,and_true] at this
      rw[this] at hs
      exact absurd hs (by decide)
     ·simp only at h
      rw[start] at h
      exact absurd h hdig
    ·have ht:tokL 12 2 6 (c::r)=([c],12):=by simp only[tokL,hlet,hdig,if_neg hp,if_neg hs,Bool.false_eq_true,if_false]
     rw[ht]
     exact⟨fun h=>(by cases h),fun h=>(by cases h)⟩
def qiu (s:ByteArray):List Tk:=qbD 12 2 6 s (s.size+1) 0
def qbJ (f fi fb:Bool) (s:ByteArray):Rz (Nat->Option Ss):=
 if 2000<s.size then .er 2000 2 else match qcF 12 2 4 f fi fb (10*(qiu s).length+10) (fun _=>none) (qiu s) with
  | some x=>x
  | none => .er 0 0
theorem qf7 {f fi fb:Bool} {s:ByteArray} (h : ¬ 2000<s.size):qcF 12 2 4 f fi fb (10*(qiu s).length+10) (fun _=>none) (qiu s)=some (qbJ f fi fb s):=by
 obtain⟨y,hy,_⟩:=qhF 12 2 4 f fi fb (10*(qiu s).length+10) (fun _=>none) (qiu s) (by omega)
 unfold qbJ
 rw[if_neg h,hy]
abbrev qiv (r:Nat->N4):V := .dat (.agg [.lit (.int .i64 (r 0).k),.lit (.int .i64 (r 0).n),.lit (.string (r 0).s),(r 0).d,.lit (.int .i64 (r 1).k),.lit (.int .i64 (r 1).n),.lit (.string (r 1).s),(r 1).d,.lit (.int .i64 (r 2).k),.lit (.int .i64 (r 2).n),.lit (.string (r 2).s),(r 2).d])
def qik (f fi fb:Bool) (s:ByteArray):V:=match qbJ f fi fb s with
 | .ok h _ => .tup [qiv fun k=>qel (h k),.int 0,.int 0]
 | .er a c => .tup [qiv fun _=>qel none,.int a,.int c]
end Go.Pm
end SJq
section SUc
namespace Go.Pm
inductive Red:List ByteArray->List ByteArray->Prop
 | nil:Red [] []
 | keep {t:ByteArray} {l m:List ByteArray} (h:Red l m):Red (t::l) (t::m)
 | del {t:ByteArray} {l m:List ByteArray} (h0:t.size≠0) (h:Red l m):Red (t::l) m
 | dig {t u:ByteArray} {l m:List ByteArray} (h0:u.size<=t.size) (h1 : ∀ p,qeU p u=qeU p t) (h2:qaC qaE u=qaC qaE t) (h:Red l m):Red (t::l) (u::m)
end Go.Pm
end SUc
section SYk
namespace Go.Pm
def qhI (g:List UInt8):Prop := ∀ r,qaN false (g++r)=g.length+qaN false r
theorem qeo:qhI []:=fun r=>by simp
theorem qkt {a b:List UInt8} (ha:qhI a) (hb:qhI b):qhI (a++b):=fun r=>by
 rw[List.append_assoc,ha,hb,List.length_append]; omega
theorem qhJ {c:UInt8} (h:c.toNat=32\/c.toNat=9\/c.toNat=10):qhI [c]:=fun r=>by
 simp only[List.cons_append,List.nil_append,qaN,List.length_singleton]
 by_cases h10:c.toNat=10
 ·rw[if_pos h10]; omega
 ·rw[if_neg h10,if_pos (by rcases h with h | h | h; exact .inr (.inl h); exact .inr (.inr h); exact absurd h h10)]; omega
theorem qlD {w:List UInt8} (h:Tg w) (r:List UInt8):qaN false (w++r)=0:=by
 obtain⟨c,q,hw,h1,h2,h3,h4⟩:=qfV h
 rw[hw]
 simp[qaN,h1,h2,h3,h4]
def qeO:List (List UInt8 × ByteArray)->List UInt8
 | []=>[]
 | (g,t)::r=>g++(byl t++qeO r)
def Sep (t:ByteArray) (g:List UInt8) (u:ByteArray):Prop:=(∃ c q,g=c::q/\(c.toNat=32\/c.toNat=10\/c.toNat=9\/c.toNat=35))\/(g=[]/\(qeU false t&&qaC qaE u)=false/\Adj t u)
def OkG:List (List UInt8 × ByteArray)->Prop
 | []=>True
 | (g,t)::r=>qhI g/\Tg (byl t)/\(∀ p,r.head?=some p->Sep t p.1 p.2)/\OkG r
theorem qhK {w:List UInt8} (h:Tg w) {c:UInt8} (hc:c.toNat=32\/c.toNat=10\/c.toNat=9\/c.toNat=35) (r:List UInt8):Fol w (c::r):=by
 have hw:qaE c=false:=by
  simp only[qaE,qaQ,qap,Bool.or_eq_false_iff,Bool.and_eq_false_iff,decide_eq_false_iff_not]
  omega
 have hd:qap c=false:=by
  simp only[qap,Bool.and_eq_false_iff,decide_eq_false_iff_not]
  omega
 obtain⟨a,q,rfl,-⟩:=qfV h
 simp only[Fol]
 split
 ·exact hw
 split
 ·exact hd
 ·intro _ hp
  rcases pair_cases hp with h | h | h | h | h | h<;>simp only[List.cons.injEq,and_true] at h<;>rw[h.2] at hc<;>exact absurd hc (by decide)
theorem qm3 (w:List UInt8):Fol w []:=by cases w<;>trivial
theorem qhL (eS eL eR:Nat) : ∀ (l:List (List UInt8 × ByteArray)) (n i:Nat) (tail:List UInt8),OkG l->(∀ p,l.getLast?=some p->Fol (byl p.2) tail)->l.length<=n ->
  ∃ ts,qmZ eS eL eR n i (qeO l++tail)=ts++qmZ eS eL eR (n-l.length) (i+(qeO l).length) tail /\ ∀ r,Hx (l.map (·.2)) (ts++r) r
 | [],n,i,tail,_,_,_=>⟨[],by simp[qeO],fun r=>rfl⟩
 | (g,t)::l,0,i,tail,_,_,h=>by simp at h
 | (g,t)::l,n+1,i,tail,ho,hl,h=>by
  obtain⟨hg,ht,ha,ho'⟩:=ho
  have hf:Fol (byl t) (qeO l++tail):=by
   cases l with
   | nil=>exact hl (g,t) rfl
   | cons u us=>
    obtain⟨g',u⟩:=u
    simp only[qeO,List.append_assoc]
    rcases ha (g',u) rfl with ⟨c,q,h1,h2⟩ | ⟨h1,h2,h3⟩
    ·simp only at h1
     rw[h1]
     exact qhK ht h2 _
    ·simp only at h1 h2 h3
     rw[h1]
     have:=ql9 (p:=false) ht ho'.2.1 h3 (qeO us++tail)
     rwa [gap,h2] at this
  have hsk:qaN false (g++(byl t++(qeO l++tail)))=g.length:=by rw[hg,qlD ht]; omega
  have htk:=qk8 eS eL eR ht hf
  have hne:(byl t).length≠0:=by
   obtain⟨c,w,hw,-⟩:=qfV ht
   rw[hw]; simp
  obtain⟨ts,e1,e2⟩:=qhL eS eL eR l n (i+g.length+t.size) tail ho' (fun u hu=>hl u (by
   cases l with
   | nil=>cases hu
   | cons v vs=>rw[List.getLast?_cons_cons]; exact hu)) (by simpa using h)
  refine⟨⟨i+g.length,t,0⟩::ts,?_,fun r=>⟨⟨i+g.length,t,0⟩,ts++r,rfl,rfl,rfl,e2 r⟩⟩
  simp only[qeO,List.append_assoc,qmZ,hsk,List.drop_left,htk]
  rw[if_neg (by
   rintro (h | h)
   ·exact h rfl
   ·exact hne h)]
  rw[qd5,qa1,e1]
  simp only[List.cons_append,List.length_append,List.length_cons,qa1]
  congr 3<;>omega
theorem qjN (eS eL eR:Nat) {l:List (List UInt8 × ByteArray)} {w:List UInt8} (ho:OkG l) (hw:qhI w) (hsep:w=[] \/ ∃ c q,w=c::q/\(c.toNat=32\/c.toNat=10\/c.toNat=9\/c.toNat=35)) {s:ByteArray} (hs:byl s=qeO l++w) :
  ∃ e,Hx (l.map (·.2)) (qbD eS eL eR s (s.size+1) 0) [⟨e,⟨#[]⟩,0⟩]:=by
 have htgs : ∀ p∈l,Tg (byl p.2):=by
  induction l with
  | nil=>intro p hp; cases hp
  | cons q l ih=>
   intro p hp
   obtain⟨g,t⟩:=q
   rcases List.mem_cons.1 hp with rfl | hp
   ·exact ho.2.1
   ·have hl : ∀ (l:List (List UInt8 × ByteArray)),OkG l -> ∀ p∈l,Tg (byl p.2):=fun l=>by
     induction l with
     | nil=>intro _ p hp; cases hp
     | cons q l ih=>intro h p hp; rcases List.mem_cons.1 hp with rfl | hp; exact h.2.1; exact ih h.2.2.2 p hp
    exact hl l ho.2.2.2 p hp
 have hlen:l.length<=(qeO l).length:=by
  clear ho hs
  induction l with
  | nil=>simp
  | cons q l ih=>
   obtain⟨g,t⟩:=q
   have h1:=htgs (g,t) (List.mem_cons_self ..)
   obtain⟨c,w,hw,-⟩:=qfV h1
   have:=ih fun p hp=>htgs p (List.mem_cons_of_mem _ hp)
   simp only[qeO,List.length_append,List.length_cons]
   have h2:1<=(byl t).length:=by simp only at hw; rw[hw]; simp
   omega
 have hsz:s.size=(qeO l).length+w.length:=by rw[<- qa1,hs,List.length_append]
 rw[qjH,List.drop_zero,hs]
 obtain⟨ts,e1,e2⟩:=qhL eS eL eR l (s.size+1) 0 w ho (fun p hp=>by
  have ht:=htgs p (List.mem_of_getLast? hp)
  rcases hsep with h | ⟨c,q,h1,h2⟩
  ·rw[h]; exact qm3 _
  ·rw[h1]; exact qhK ht h2 _) (by omega)
 rw[e1]
 obtain⟨k,hk⟩ : ∃ k,s.size+1-l.length=k+1:=⟨s.size-l.length,by omega⟩
 have hend : ∀ j,qmZ eS eL eR (k+1) j w=[⟨j+w.length,⟨#[]⟩,0⟩]:=fun j=>by
  have h1:qaN false w=w.length:=by
   have:=hw []
   rw[List.append_nil] at this
   rw[this]; simp[qaN]
  simp only[qmZ,h1,List.drop_length,tokL]
  rw[if_pos (.inr rfl)]
  rfl
 rw[hk,hend]
 exact⟨_,e2 _⟩
end Go.Pm
end SYk
section SUf
namespace Go.Pm
theorem qlv {f fi fb:Bool} {s:ByteArray} (hs : ¬ 2000<s.size) {y:Rz (Nat->Option Ss)} (h : ∃ n,qcF 12 2 4 f fi fb n (fun _=>none) (qiu s)=some y):qbJ f fi fb s=y:=by
 obtain⟨n,h⟩:=h
 have h1:=qeV h (Nat.le_max_left n (10*(qiu s).length+10))
 have h2:=qeV (qf7 (f:=f) (fi:=fi) (fb:=fb) hs) (Nat.le_max_right n (10*(qiu s).length+10))
 rw[h1] at h2
 exact (Option.some.inj h2).symm
end Go.Pm
end SUf
section SE3
namespace Go.Pm
open F
inductive NmSt:S->V->S->Nat->List ByteArray->Ob->Prop
 | a (l:List ByteArray) (x:Ob):NmSt [] (.dat (qoF l)) [x] 0 l x
 | b (l:List ByteArray) (x:Ob) (m:Nat) (h:l≠[]):NmSt [] (.gsl (qa5 l) l.length 1 0) [.tip m,x] 1 l x
end Go.Pm
end SE3
section SE4
namespace Go.Pm
open F
attribute [local simp] dkey
def mapM:Nat->List ByteArray->List (Value × V)
 | _,[]=>[]
 | i,s::l=>(.string s,.int i)::mapM (i+1) l
theorem qig : ∀ (l:List ByteArray) (i:Nat),qfL (mapM i l)=[]
 | [],i=>rfl
 | x::l,i=>by simp[mapM,qig l]
theorem qjv (r:Nat->Nat) : ∀ (l:List ByteArray) (i:Nat),qmJ r (mapM i l)=mapM i l
 | [],i=>rfl
 | x::l,i=>by simp[mapM,qjv r l]
attribute [local simp] qig qjv dkey
end Go.Pm
end SE4
section SF01
namespace Go.Pm.F
variable (C:Task->Option Res) (q:Nat) (fr:Fr) (σ : S)
def F17:PFun:=⟨2,[.tmp 4],.seq (rn [mx 4 (kk 0)] [0,1]) (.seq (.seq (rn [mv 5 0,bk 6 .lss 5 0] [0,1,6]) (.cond (.t 6) (rn [mv 7 0,bk 8 .add 7 1,jj 9 (.un .neg (.t 8)),mv 0 9] [0,1]) (.skip))) (.seq (rn [mv 10 0,mv 11 1,bn 12 .rem 10 11,mv 4 12] [4]) (.ret))),false,false,false⟩
@[simp] def F20l0x:PC:=(.seq (.seq (rn [mv 10 5,bk 11 .neq 10 0] [0,3,4,5,11]) (.cond (.t 11) (.skip) (.exit 0))) (.seq (.block 1 (.seq (rn [mv 14 5,bk 15 .rem 14 10,mv 6 15] [0,3,4,5,6]) (.seq (.seq (rn [mv 16 6,bk 17 .lss 16 0] [0,3,4,5,6,17]) (.cond (.t 17) (rn [mv 18 6,jj 19 (.un .neg (.t 18)),mv 6 19] [0,3,4,5,6]) (.skip))) (rn [mv 20 3,mv 21 6,mv 22 6,bk 23 .add 22 1,jj 24 (.sliceS (.t 20) (some (.t 21)) (some (.t 23))),mv 25 4,bn 26 .add 24 25,mv 4 26] [0,3,4,5])))) (rn [mv 12 5,bk 13 .quo 12 10,mv 5 13] [0,3,4,5])))
def F20l0:PC:=F20l0x
theorem qim:run C q F20l0 fr σ = run C q F20l0x fr σ := rfl
def F20:PFun:=⟨1,[.tmp 2],.seq (rn [jj 2 (.mov (.c (.string ⟨#[]⟩)))] [0]) (.seq (.seq (rn [mv 7 0,bk 8 .eql 7 0] [0,8]) (.cond (.t 8) (.seq (rn [jj 2 (.mov (.c (.string ⟨#[48]⟩)))] [2]) (.ret)) (.skip))) (.seq (rn [jj 3 (.mov (.c (.string ⟨#[48,49,50,51,52,53,54,55,56,57]⟩)))] [0,3]) (.seq (rn [jj 4 (.mov (.c (.string ⟨#[]⟩)))] [0,3,4]) (.seq (.seq (rn [mv 9 0,mv 5 9] [0,3,4,5]) (.block 0 (.loop F20l0))) (.seq (.seq (rn [mv 27 0,bk 28 .lss 27 0] [4,28]) (.cond (.t 28) (.seq (rn [mv 29 4,jj 30 (.bin .add (.c (.string ⟨#[45]⟩)) (.t 29)),mv 2 30] [2]) (.ret)) (.skip))) (.seq (rn [mv 31 4,mv 2 31] [2]) (.ret))))))),false,false,false⟩
end Go.Pm.F
end SF01
section SF5
namespace Go.Pm.F
variable (C:Task->Option Res) (q:Nat) (fr:Fr) (σ : S)
def effRows15:List (List Int):=[[0,0],[0,1],[0,1],[1,0],[1,1],[2,0],[0,1],[0,1],[0,1],[2,1],[2,1],[2,1],[2,1],[1,1],[2,1],[2,1],[2,1],[1,1],[0,0],[1,0],[2,0],[0,0]]
def qgd:List D:=effRows15.flatten.map fun n => .lit (.int .i64 n)
end Go.Pm.F
end SF5
section STb15
namespace Go.Pm.F
def qjD:Nat->Option PFun
 | 17=>some F17
 | _=>none
end Go.Pm.F
end STb15
section SG1
namespace Go.Pm
open F
theorem qmA {n m:Int} (h1:I64 n) (hm:1<=m):Z qjD (.call 17 [.int n,.int m] [])=some (.ret (.int (qd3 n m)) []):=by
 refine qac (pf:=F17) rfl rfl ?_
 unfold qd3
 have hm0 : ¬ m=0:=by omega
 by_cases h:n<0
 ·have w1:IntKind.i64.wrap (n+1)=n+1:=qak _ (by unfold I64 at h1; omega)
  have w2:IntKind.i64.wrap (-(n+1)) = -(n+1):=qak _ (by unfold I64 at h1; omega)
  simp[F17,h,hm0,w1,w2]
 ·simp[F17,h,hm0]
def qsr:List ByteArray:=[⟨#[105]⟩,⟨#[110]⟩,⟨#[115,117,109]⟩,⟨#[118,51]⟩]
def qr8:List ByteArray:=qsr++[⟨#[118]⟩]
def qrF:List ByteArray:=[⟨#[115,101,108,102]⟩,⟨#[111,116,104,101,114]⟩,⟨#[116,105,99,107]⟩]
def qp6:List ByteArray:=[⟨#[120]⟩,⟨#[121]⟩,⟨#[118,120]⟩,⟨#[118,121]⟩,⟨#[97]⟩,⟨#[98]⟩]
def qp7:List ByteArray:=qp6++[⟨#[104,105,116]⟩,⟨#[115,116,105,108,108]⟩]
def E.fine:E->Prop
 | .int n=>0<=n/\n<=2147483647
 | .bool n=>n=0\/n=1
 | .var s=>s∈qr8
 | .name s=>s∈qrF
 | .field _ s e=>s∈qp7/\e.fine/\e.ty=1
 | .un _ neg e=>e.fine/\e.ty=if neg then 1 else 2
 | .bin _ o a b=>a.fine/\b.fine/\a.ty=o.opd/\b.ty=o.opd
def E.dp:E->Nat
 | .field _ _ e=>e.dp+1
 | .un _ _ e=>e.dp+1
 | .bin _ _ a b=>max a.dp b.dp+1
 | _=>0
end Go.Pm
end SG1
section SG3
namespace Go.Pm
open F
def Ss.fine:Ss->Prop
 | .nil=>True
 | .assign _ s e r=>(s∈qr8/\e.fine/\e.ty=1)/\r.fine
 | .store _ s a b r=>(s∈qp6/\a.fine/\a.ty=1/\b.fine/\b.ty=1)/\r.fine
 | .effect _ a b r=>(a.fine/\a.ty=1/\b.fine/\b.ty=1)/\r.fine
 | .stop r=>r.fine
 | .cond false _ c (.block _ x (.block _ y .nil)) r=>(c.fine/\c.ty=2)/\x.fine/\y.fine/\r.fine
 | .cond true _ c (.block _ x .nil) r=>(c.fine/\c.ty=2)/\x.fine/\r.fine
 | _=>False
def Ss.dp:Ss->Nat
 | .nil=>0
 | .assign _ _ _ r=>r.dp
 | .store _ _ _ _ r=>r.dp
 | .effect _ _ _ r=>r.dp
 | .stop r=>r.dp
 | .cond _ _ _ b r=>max (b.dp+1) r.dp
 | .block _ b r=>max b.dp r.dp
def Ss.edp:Ss->Nat
 | .nil=>0
 | .assign _ _ e r=>max e.dp r.edp
 | .store _ _ a b r=>max (max a.dp b.dp) r.edp
 | .effect _ a b r=>max (max a.dp b.dp) r.edp
 | .stop r=>r.edp
 | .cond _ _ c b r=>max (max c.dp b.edp) r.edp
 | .block _ b r=>max b.edp r.edp
end Go.Pm
end SG3
section SG5
namespace Go.Pm
open F
def Hd.ss:Hd->Ss
 | .none => .nil
 | .some _ b=>b
structure Hd.fine (h:Hd):Prop where
 fine:h.ss.fine
 size:h.ss.fo.size<=2000
structure Hd.gen (h:Hd):Prop extends h.fine where
 f:h.f=false
 dp:h.ss.dp<=2
 edp:h.ss.edp<=3
 gsize:h.ss.fo.size<=1260
end Go.Pm
end SG5
section SFLaw13
namespace Go.Pm.F
variable (C:Task->Option Res) (q:Nat) (fr:Fr) (σ : S)
def F219:PFun:=⟨5,[.tmp 10],.seq (rn [mx 10 kF] [0,1,2,3,4]) (.seq (rn [mv 22 0,jj 23 (.call 17 [(.t 22),(kk 26)]),mv 11 23] [1,2,3,4,11]) (.seq (rn [jj 24 (.bslice 4 [eN,eN,eN,eN] [(0,1,(.c (.string ⟨#[40]⟩))),(1,1,(.c (.string ⟨#[97,91]⟩))),(2,1,(.c (.string ⟨#[45]⟩))),(3,1,(.c (.string ⟨#[33]⟩)))]),mv 25 1,jj 26 (.call 17 [(.t 25),(kk 4)]),jj 27 (.indexAddr 1 (.t 24) (.t 26)),l1 28 27,mv 12 28] [1,2,3,4,11,12]) (.seq (rn [jj 29 (.bslice 4 [eN,eN,eN,eN] [(0,1,(.c (.string ⟨#[41]⟩))),(1,1,(.c (.string ⟨#[93]⟩))),(2,1,(.c (.string ⟨#[]⟩))),(3,1,(.c (.string ⟨#[]⟩)))]),mv 30 1,jj 31 (.call 17 [(.t 30),(kk 4)]),jj 32 (.indexAddr 1 (.t 29) (.t 31)),l1 33 32,mv 13 33] [2,3,4,11,12,13]) (.seq (rn [mv 34 12,mv 35 11,cl 36 230 [34,35],jj 37 (.bin .add (.c (.string ⟨#[111,110,32,116,105,99,107,123,118,61]⟩)) (.t 36)),jj 38 (.bin .add (.t 37) (.c (.string ⟨#[49]⟩))),mv 39 13,mv 40 11,cl 41 230 [39,40],bn 42 .add 38 41,jj 43 (.bin .add (.t 42) (.c (.string ⟨#[59,125]⟩))),mv 14 43] [2,3,4,11,12,14]) (.seq (rn [mv 45 14,cl 46 228 [45],mv 44 46,ex 47 44 0,ex 48 44 1,ex 49 44 2,jj 15 (.alloc [zN,zN,eN,sN,zN,zN,eN,sN,zN,zN,eN,sN]),st 12 15 47,mv 16 48,mv 17 49] [2,3,4,11,12,16,17]) (.seq (.seq (rn [mv 50 11,bk 51 .leq 50 19,mv 52 51,jt 53 52 (.mov (.t 17)),jt 54 52 (.bin .neq (.t 53) (kk 0)),jj 55 (.pick (.t 52) (.t 54) kF),mv 56 55,jf 57 56 (.mov (.t 11)),jf 58 56 (.bin .gtr (.t 57) (kk 19)),jf 59 56 (.mov (.t 58)),jt 60 59 (.mov (.t 17)),jt 61 59 (.bin .neq (.t 60) (kk 2)),jt 62 59 (.mov (.t 61)),jf 63 62 (.mov (.t 16)),jf 64 62 (.mov (.t 12)),jf 65 62 (.len .str (.t 64)),jf 66 62 (.bin .mul (kk 20) (.t 65)),jf 67 62 (.bin .add (kk 10) (.t 66)),jf 68 62 (.bin .sub (.t 67) (kk 1)),jf 69 62 (.bin .neq (.t 63) (.t 68)),jt 70 59 (.pick (.t 62) kT (.t 69)),jf 71 56 (.pick (.t 59) (.t 70) kF),jj 72 (.pick (.t 56) kT (.t 71))] [2,3,4,72]) (.cond (.t 72) (.seq (rn [mx 10 kF] [10]) (.ret)) (.skip))) (.seq (rn [mv 73 2,jj 74 (.call 17 [(.t 73),(kk 12)]),jj 75 (.bin .add (kk 1) (.t 74)),mv 18 75] [3,4,18]) (.seq (rn [mv 77 18,jj 78 (.call 230 [(.c (.string ⟨#[113]⟩)),(.t 77)]),jj 79 (.bin .add (.c (.string ⟨#[111,110,32,97,99,116,123]⟩)) (.t 78)),jj 80 (.bin .add (.t 79) (.c (.string ⟨#[61,49,59,125]⟩))),cl 81 228 [80],mv 76 81,ex 82 76 0,ex 83 76 1,ex 84 76 2,mv 16 83,mv 17 84] [3,4,16,17,18]) (.seq (.seq (rn [mv 85 18,bk 86 .leq 85 8,mv 87 86,jt 88 87 (.mov (.t 17)),jt 89 87 (.bin .neq (.t 88) (kk 0)),jj 90 (.pick (.t 87) (.t 89) kF),mv 91 90,jf 92 91 (.mov (.t 18)),jf 93 91 (.bin .gtr (.t 92) (kk 8)),jf 94 91 (.mov (.t 93)),jt 95 94 (.mov (.t 17)),jt 96 94 (.bin .neq (.t 95) (kk 2)),jt 97 94 (.mov (.t 96)),jf 98 97 (.mov (.t 16)),jf 99 97 (.bin .neq (.t 98) (kk 7)),jt 100 94 (.pick (.t 97) kT (.t 99)),jf 101 91 (.pick (.t 94) (.t 100) kF),jj 102 (.pick (.t 91) kT (.t 101))] [3,4,102]) (.cond (.t 102) (.seq (rn [mx 10 kF] [10]) (.ret)) (.skip))) (.seq (rn [mv 103 3,jj 104 (.call 17 [(.t 103),(kk 9)]),jj 105 (.bin .add (kk 2147483647) (.t 104)),bk 106 .sub 105 4,mv 19 106] [4,19]) (.seq (rn [mv 108 19,cl 109 20 [108],jj 110 (.bin .add (.c (.string ⟨#[111,110,32,97,99,116,123,118,61]⟩)) (.t 109)),jj 111 (.bin .add (.t 110) (.c (.string ⟨#[59,125]⟩))),cl 112 228 [111],mv 107 112,ex 113 107 0,ex 114 107 1,ex 115 107 2,jj 20 (.alloc [zN,zN,eN,sN,zN,zN,eN,sN,zN,zN,eN,sN]),st 12 20 113,mv 16 114,mv 17 115] [4,16,17,19,20]) (.seq (.seq (rn [mv 116 19,bk 117 .leq 116 2147483647,mv 118 117,jt 119 118 (.mov (.t 17)),jt 120 118 (.bin .neq (.t 119) (kk 0)),jt 121 118 (.mov (.t 120)),jf 122 121 (.fieldAddr 0 (.t 20)),jf 123 121 (.indexAddrA 3 4 (.t 122) (kk 0)),jf 124 121 (.fieldAddr 3 (.t 123)),jf 125 121 (.load false 1 (.t 124)),jf 126 121 (.len .sl (.t 125)),jf 127 121 (.bin .neq (.t 126) (kk 1)),jt 128 118 (.pick (.t 121) kT (.t 127)),jj 129 (.pick (.t 118) (.t 128) kF),mv 130 129,jf 131 130 (.mov (.t 19)),jf 132 130 (.bin .gtr (.t 131) (kk 2147483647)),jf 133 130 (.mov (.t 132)),jt 134 133 (.mov (.t 17)),jt 135 133 (.bin .neq (.t 134) (kk 6)),jt 136 133 (.mov (.t 135)),jf 137 136 (.mov (.t 16)),jf 138 136 (.bin .neq (.t 137) (kk 9)),jt 139 133 (.pick (.t 136) kT (.t 138)),jf 140 130 (.pick (.t 133) (.t 139) kF),jj 141 (.pick (.t 130) kT (.t 140))] [4,141]) (.cond (.t 141) (.seq (rn [mx 10 kF] [10]) (.ret)) (.skip))) (.seq (rn [mv 142 4,jj 143 (.call 17 [(.t 142),(kk 21)]),jj 144 (.bin .add (kk 1990) (.t 143)),mv 21 144] [21]) (.seq (rn [mv 146 21,bk 147 .sub 146 8,jj 148 (.call 230 [(.c (.string ⟨#[32]⟩)),(.t 147)]),jj 149 (.bin .add (.c (.string ⟨#[111,110,32,104,105,116,123,125]⟩)) (.t 148)),cl 150 228 [149],mv 145 150,ex 151 145 0,ex 152 145 1,ex 153 145 2,mv 16 152,mv 17 153] [16,17,21]) (.seq (rn [mv 154 21,bk 155 .leq 154 2000,mv 156 155,jt 157 156 (.mov (.t 17)),jt 158 156 (.bin .eql (.t 157) (kk 0)),jj 159 (.pick (.t 156) (.t 158) kF),mv 160 159,jf 161 160 (.mov (.t 21)),jf 162 160 (.bin .gtr (.t 161) (kk 2000)),jf 163 160 (.mov (.t 162)),jt 164 163 (.mov (.t 17)),jt 165 163 (.bin .eql (.t 164) (kk 2)),jf 166 160 (.pick (.t 163) (.t 165) kF),jf 167 160 (.mov (.t 166)),jt 168 167 (.mov (.t 16)),jt 169 167 (.bin .eql (.t 168) (kk 2000)),jf 170 160 (.pick (.t 167) (.t 169) kF),jj 171 (.pick (.t 160) kT (.t 170)),mv 172 171,jt 173 172 (.call 229 []),jj 174 (.pick (.t 172) (.t 173) kF),mv 10 174] [10]) (.ret)))))))))))))))),false,false,false⟩
def F229:PFun:=⟨0,[.tmp 0],.seq (rn [mx 0 kF] []) (.seq (rn [jj 8 (.call 228 [(.c (.string ⟨#[111,110,32,116,105,99,107,123,120,91,48,93,61,49,43,50,42,118,59,125]⟩))]),mv 7 8,ex 9 7 0,ex 10 7 1,ex 11 7 2,jj 1 (.alloc [zN,zN,eN,sN,zN,zN,eN,sN,zN,zN,eN,sN]),st 12 1 9,mv 2 10,mv 3 11] [1,2,3]) (.seq (rn [jj 13 (.call 228 [(.c (.string ⟨#[111,110,32,97,99,116,32,123,32,115,116,111,112,32,125]⟩))]),mv 12 13,ex 14 12 0,ex 15 12 1,ex 16 12 2,jj 4 (.alloc [zN,zN,eN,sN,zN,zN,eN,sN,zN,zN,eN,sN]),st 12 4 14,mv 5 15,mv 6 16] [1,2,3,5,6]) (.seq (.seq (rn [fa 17 0 1,jj 18 (.indexAddrA 3 4 (.t 17) (kk 1)),fa 19 3 18,l1 20 19,ls 21 20,bk 22 .neq 21 1] [1,2,3,5,6,22]) (.cond (.t 22) (.seq (rn [mx 0 kF] [0]) (.ret)) (.skip))) (.seq (rn [mv 23 2,bk 24 .eql 23 0,mv 25 24,jt 26 25 (.mov (.t 3)),jt 27 25 (.bin .eql (.t 26) (kk 0)),jj 28 (.pick (.t 25) (.t 27) kF),mv 29 28,jt 30 29 (.fieldAddr 0 (.t 1)),jt 31 29 (.indexAddrA 3 4 (.t 30) (kk 1)),jt 32 29 (.fieldAddr 3 (.t 31)),jt 33 29 (.load false 1 (.t 32)),jt 34 29 (.indexAddr 4 (.t 33) (kk 0)),jt 35 29 (.fieldAddr 0 (.t 34)),jt 36 29 (.load false 1 (.t 35)),jt 37 29 (.bin .eql (.t 36) (kk 2)),jj 38 (.pick (.t 29) (.t 37) kF),mv 39 38,jt 40 39 (.load true 12 (.t 1)),jt 41 39 (.call 231 [(.t 40)]),jt 42 39 (.bin .eql (.t 41) (.c (.string ⟨#[111,110,32,116,105,99,107,123,120,91,48,93,61,49,43,50,42,118,59,125]⟩))),jj 43 (.pick (.t 39) (.t 42) kF),mv 44 43,jt 45 44 (.mov (.t 5)),jt 46 44 (.bin .eql (.t 45) (kk 14)),jj 47 (.pick (.t 44) (.t 46) kF),mv 48 47,jt 49 48 (.mov (.t 6)),jt 50 48 (.bin .eql (.t 49) (kk 12)),jj 51 (.pick (.t 48) (.t 50) kF),mv 0 51] [0]) (.ret))))),false,false,false⟩
@[simp] def F230l0x:PC:=(.seq (.seq (rn [mv 7 6,mv 8 1,bn 9 .lss 7 8] [0,1,5,6,9]) (.cond (.t 9) (.skip) (.exit 0))) (.seq (.block 1 (rn [mv 12 5,mv 13 0,bn 14 .add 12 13,mv 5 14] [0,1,5,6])) (rn [mv 10 6,bk 11 .add 10 1,mv 6 11] [0,1,5,6])))
def F230l0:PC:=F230l0x
theorem qgH:run C q F230l0 fr σ = run C q F230l0x fr σ := rfl
def F230:PFun:=⟨2,[.tmp 4],.seq (rn [jj 4 (.mov (.c (.string ⟨#[]⟩)))] [0,1]) (.seq (rn [jj 5 (.mov (.c (.string ⟨#[]⟩)))] [0,1,5]) (.seq (.seq (rn [mx 6 (kk 0)] [0,1,5,6]) (.block 0 (.loop F230l0))) (.seq (rn [mv 15 5,mv 4 15] [4]) (.ret)))),false,false,false⟩
end Go.Pm.F
end SFLaw13
section STE
namespace Go.Pm.F
def tE:Nat->Option PFun
 | _=>none
end Go.Pm.F
end STE
section STK
namespace Go.Pm.F
def tK:Nat->Option PFun
 | 229=>some F229
 | _=>none
def tKd:Nat->Option PFun
 | 219=>some F219
 | 230=>some F230
 | _=>none
end Go.Pm.F
end STK
section STS
namespace Go.Pm.F
def tS:Nat->Option PFun
 | 20=>some F20
 | _=>none
end Go.Pm.F
end STS
section SJr
namespace Go.Pm
open F
set_option maxHeartbeats 2000000
def digS:ByteArray:=⟨#[48,49,50,51,52,53,54,55,56,57]⟩
theorem qnO : ∀ d,d<10->digS.extract d (d+1)=bs [(48+d).toUInt8]:=by decide
theorem qjl (n:Int) : ∀ (k m:Nat) (out:ByteArray),m<10 ^ k->k<=18->out.size+k<=100 ->
  Z tS (.loop 0 F20l0 [(0,.int n),(3,.str digS),(4,.str out),(5,.int m)] [])=some (.out (.exit 0) [(0,.int n),(3,.str digS),(4,.str (bs (if m=0 then [] else qhs k m)++out)),(5,.int 0),(11,.bool false)] [])
 | k,0,out,_,_,_=>by
  rw[qai]
  have e:bs []++out=out:=by rw[show bs []=ByteArray.empty from rfl,ByteArray.empty_append]
  simp[qaj,qim,digS,e]
 | 0,m+1,out,h,_,_=>by simp at h
 | k+1,m+1,out,h,hk,ho=>by
  have hp:(10:Nat) ^ (k+1)<=10 ^ 18:=Nat.pow_le_pow_right (by omega) hk
  have hd:((m+1:Nat):Int).tmod 10=(((m+1) % 10:Nat):Int):=rfl
  have hq:((m+1:Nat):Int).tdiv 10=(((m+1) / 10:Nat):Int):=rfl
  have hlt:(m+1) % 10<10:=Nat.mod_lt _ (by omega)
  have hx:=qnO _ hlt
  have w1:=qak (((m+1) % 10:Nat)+1:Int) (by omega)
  have w2:IntKind.i64.wrap (((m+1) / 10:Nat):Int)=((m+1) / 10:Nat):=qak _ (by omega)
  have hne : ¬ ((m+1:Nat):Int)=0:=by omega
  have hneg : ¬ (((m+1) % 10:Nat):Int)<0:=by omega
  have ih:=qjl n k ((m+1) / 10) (bs [(48+(m+1) % 10).toUInt8]++out) (by rw[Nat.pow_succ] at h; omega) (by omega) (by rw[ByteArray.size_append,qcl]; simp; omega)
  have hres:bs (if (m+1) / 10=0 then [] else qhs k ((m+1) / 10))++(bs [(48+(m+1) % 10).toUInt8]++out)=bs (qhs (k+1) (m+1))++out:=by
   rw[<- ByteArray.append_assoc]
   congr 1
   simp only[qhs]
   by_cases h10:m+1<10
   ·rw[if_pos h10,if_pos (by omega),Nat.mod_eq_of_lt h10]
    rfl
   ·rw[if_neg h10,if_neg (by omega)]
    rfl
  rw[hres] at ih
  rw[if_neg (by omega),<- ih]
  generalize hd2:(m+1) % 10=d at *
  generalize hq2:(m+1) / 10=q at *
  generalize hm:m+1=M at *
  have hM : ¬ M=0:=by omega
  have b1:(d:Int)<=digS.size:=by rw[show digS.size=10 from rfl]; omega
  have b2:(d:Int)+1<=digS.size:=by rw[show digS.size=10 from rfl]; omega
  have b3:(0:Int)<=(d:Int)+1:=by omega
  have b4:((d:Int)+1).toNat=d+1:=by omega
  have b5:(d:Int)<=(d:Int)+1:=by omega
  have hsz : ¬ (9223372036854775807:Int)<((bs [(48+d).toUInt8]).size:Int)+out.size:=by rw[qcl]; simp; omega
  generalize digS=ds at *
  generalize bs [(48+d).toUInt8]=ch at *
  conv=>lhs; rw[qai]
  simp[qaj,qim,qbN,bound,hd,hq,hne,hneg,w1,w2,b1,b2,b3,b4,b5,hx,hsz,hM]
theorem qk4 {n:Nat} (h:n<10 ^ 18):Z tS (.call 20 [.int n] [])=some (.ret (.str (bs (qit n))) []):=by
 refine qac (pf:=F20) rfl rfl ?_
 by_cases h0:n=0
 ·subst h0
  simp[F20,qit,qhs,bs]
 ·have hne : ¬ (n:Int)=0:=by omega
  have hneg : ¬ (n:Int)<0:=by omega
  have z:=qjl n 18 n ⟨#[]⟩ h (by omega) (by decide)
  rw[if_neg h0] at z
  have e : ∀ (k j n:Nat),n<10 ^ k->1<=k->qhs (k+j) n=qhs k n:=fun k=>by
   induction k with
   | zero=>intro j n _ h; omega
   | succ k ih=>
    intro j n hn _
    rw[show k+1+j=(k+j)+1 by omega]
    simp only[qhs]
    split
    ·rfl
    ·rename_i h10
     have hk:1<=k:=by
      rcases k with _ | k
      ·simp at hn; omega
      ·omega
     rw[ih j (n / 10) (by rw[Nat.pow_succ] at hn; omega) hk]
  have e2:bs (qhs 18 n)++⟨#[]⟩=bs (qit n):=by
   rw[show qit n=qhs (18+2) n from rfl,e 18 2 n h (by omega)]
   exact ByteArray.append_empty
  rw[e2] at z
  simp only[digS] at z
  simp[F20,h0,hne,hneg,z]
end Go.Pm
end SJr
section SSb
namespace Go.Pm
open F
set_option maxHeartbeats 8000000
inductive Parts:List ByteArray->List ByteArray->Prop
 | nil:Parts [] []
 | tok {t:ByteArray} {l ts:List ByteArray} (h:Parts l ts):Parts (t::l) (t::ts)
 | sub {a l ts:List ByteArray} (ha : ∀ t∈a,t.size≠0) (h:Parts l ts):Parts (bs (qrR false a)::l) (a++ts)
end Go.Pm
end SSb
section STP
namespace Go.Pm.F
def tP:Nat->Option PFun
 | 228=>some F228
 | 239=>some F239
 | 240=>some F240
 | 241=>some F241
 | 242=>some F242
 | 249=>some F249
 | 250=>some F250
 | 251=>some F251
 | 252=>some F252
 | 253=>some F253
 | 254=>some F254
 | 255=>some F255
 | 256=>some F256
 | 264=>some F264
 | 265=>some F265
 | 266=>some F266
 | 267=>some F267
 | 268=>some F268
 | 269=>some F269
 | 270=>some F270
 | 271=>some F271
 | 275=>some F275
 | 276=>some F276
 | 277=>some F277
 | 278=>some F278
 | 279=>some F279
 | 280=>some F280
 | 281=>some F281
 | 284=>some F284
 | 285=>some F285
 | 286=>some F286
 | 287=>some F287
 | 289=>some F289
 | 290=>some F290
 | 292=>some F292
 | 297=>some F297
 | 303=>some F303
 | 304=>some F304
 | 307=>some F307
 | 308=>some F308
 | 309=>some F309
 | _=>none
end Go.Pm.F
end STP
