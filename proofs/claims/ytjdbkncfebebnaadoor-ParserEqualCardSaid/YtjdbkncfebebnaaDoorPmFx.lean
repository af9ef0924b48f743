/- The abstract machine's program, printed by a program of our own: group x. The abstract machine's programs: tables of functions. Chapter 13's printer: the builder of strings, tokens put down. The abstract machine's programs: tables of functions. Chapter 13's reference parser: letters, digits, rows of strings, numbers. Chapter 13's reference parser: all tokens of a source. Chapter 13's reference parser: the parser's state; what it looks at, takes, expects. Chapter 13's reference parser: its states, good and behind an error, against the plain tokens. Chapter 13's reference parser: each kind of statement. Chapter 13's reference parser: handlers; a whole source. The rule language in plain Lean: texts of tokens; tokens left out; how long a source is. No program in sight. The reference's names. The code's names: a round of the range. The abstract machine's program, printed by a program of our own: group 01. The abstract machine's program, printed by a program of our own: group 3g. The abstract machine's program, printed by a program of our own: group 5. The abstract machine's programs: tables of functions. What a tree costs written down: bytes and tokens. No program in sight. Chapter 13's generator: choices, expressions. Chapter 13's generator: all expressions. Chapter 13's generator: statements. Chapter 13's generator: whole programs. The abstract machine's program, printed by a program of our own: group 3q. The abstract machine's program, printed by a program of our own: group Law13. The abstract machine's programs: tables of functions. -/
import Derived.Test.YtjdbkncfebebnaaDoorPmEt
import Derived.Test.YtjdbkncfebebnaaDoorPmF3
import Derived.Test.YtjdbkncfebebnaaDoorPmY
set_option linter.unusedSimpArgs false
set_option linter.unusedVariables false
section SFx
namespace Go.Pm.F
variable (C:Task->Option Res) (q:Nat) (fr:Fr) (σ : S)
def G_internal_strconv_uint64pow10:List D:=(List.range 20).map fun i => .lit (.int .u64 (10 ^ i:Nat))
def F245:PFun:=⟨1,[.tmp 2],.seq (rn [jj 2 (.mov (.c (.string ⟨#[]⟩)))] [0]) (.seq (.region (some []) [mv 3 0,nc 4 3,fa 5 1 4,l1 6 5,jj 7 (.usd (.t 6)),mv 8 0,nc 9 8,fa 10 1 9,l1 11 10,ls 12 11,jj 13 (.ustr [3] (.t 7) (.t 12)),mv 2 13] [2]) (.ret)),false,false,false⟩
def F258:PFun:=⟨2,[.tmp 4],.seq (rn [jj 4 (.mov (.c .nilIface))] [0,1]) (.seq (rn [mv 5 0,cl 6 272 [5]] [0,1]) (.seq (rn [mv 7 0,mv 8 0,nc 9 8,fa 10 1 9,l1 11 10,mv 12 1,jj 13 (.bsliceO 1 1 [(.lit (.int .u8 0))] [(0,1,(.t 12))]),jj 14 (.appendT 3 1 1 (.t 11) (.t 13)),nc 15 7,fa 16 1 15,st 1 16 14] []) (.seq (rn [jj 4 (.mov (.c .nilIface))] [4]) (.ret)))),false,false,false⟩
def F259:PFun:=⟨2,[.tmp 4,.tmp 5],.seq (rn [mx 4 (kk 0),jj 5 (.mov (.c .nilIface))] [0,1]) (.seq (rn [mv 6 0,cl 7 272 [6]] [0,1]) (.seq (rn [mv 8 0,mv 9 0,nc 10 9,fa 11 1 10,l1 12 11,mv 13 1,jj 14 (.appendT 3 1 1 (.t 12) (.t 13)),nc 15 8,fa 16 1 15,st 1 16 14] [1]) (.seq (rn [mv 17 1,lz 18 17,mv 4 18,jj 5 (.mov (.c .nilIface))] [4,5]) (.ret)))),false,false,false⟩
def F268:PFun:=⟨2,[.tmp 4],.seq (rn [mx 4 (kk 0)] [0,1]) (.seq (rn [mv 5 0,mv 6 1,cl 7 275 [5,6],mv 4 7] [4]) (.ret)),false,false,false⟩
def F272:PFun:=⟨1,[],.seq (rn [mv 2 0,nc 3 2,fa 4 0 3,l1 5 4,jj 6 (.isnil true false (.t 5))] [0,6]) (.cond (.t 6) (rn [mv 7 0,mv 8 0,jj 9 (.up (.t 8)),mv 10 9,jj 11 (.down [(4,3)] (.t 10)),nc 12 7,fa 13 0 12,st 1 13 11] []) (.seq (rn [mv 14 0,nc 15 14,fa 16 0 15,l1 17 16,mv 18 0,jj 19 (.peq true (.t 17) (.t 18))] [19]) (.cond (.t 19) (.cond (.c .nilIface) (.skip) (.skip)) (.skip)))),false,false,false⟩
def F275:PFun:=⟨2,[.tmp 4],.seq (rn [mx 4 (kk 0)] [0,1]) (.seq (rn [mv 5 0,mv 6 1,jj 7 (.idxb (.t 5) (.t 6)),mv 4 7] [4]) (.ret)),false,false,false⟩
def F276:PFun:=⟨2,[.tmp 4],.seq (rn [mx 4 kF] [0,1]) (.seq (rn [mv 5 0,mv 6 1,cl 7 284 [5,6],bk 8 .geq 7 0,mv 4 8] [4]) (.ret)),false,false,false⟩
def F283:PFun:=⟨1,[.tmp 2],.seq (rn [jj 2 (.mov (.c (.string ⟨#[]⟩)))] [0]) (.seq (rn [mv 3 0,cl 4 288 [3],mv 2 4] [2]) (.ret)),false,false,false⟩
@[simp] def F284l0x:PC:=(.seq (rn [bn 9 .lss 8 7] [0,1,7,8,9]) (.seq (.cond (.t 9) (.skip) (.exit 0)) (.seq (.block 1 (.seq (rn [mv 10 8,mv 5 10] [0,1,5,7,8]) (.seq (rn [mv 11 1,mv 12 0,mv 13 5,jj 14 (.indexAddr 1 (.t 12) (.t 13)),l1 15 14,bn 16 .eql 11 15] [0,1,5,7,8,16]) (.cond (.t 16) (.seq (rn [mv 17 5,mv 4 17] [4]) (.ret)) (.skip))))) (rn [bk 18 .add 8 1,mv 8 18] [0,1,7,8]))))
def F284l0:PC:=F284l0x
def F284:PFun:=⟨2,[.tmp 4],.seq (rn [mx 4 (kk 0)] [0,1]) (.seq (.seq (rn [mv 6 0,ls 7 6,mx 8 (kk 0)] [0,1,7,8]) (.block 0 (.loop F284l0))) (.seq (rn [mx 4 (kk (-1))] [4]) (.ret))),false,false,false⟩
def F288:PFun:=⟨1,[.tmp 2],.seq (rn [jj 2 (.mov (.c (.string ⟨#[]⟩)))] [0]) (.seq (rn [mv 3 0,jj 4 (.call 291 [(.t 3),(kk 10)]),mv 2 4] [2]) (.ret)),false,false,false⟩
def F291:PFun:=⟨2,[.tmp 4],.seq (rn [jj 4 (.mov (.c (.string ⟨#[]⟩)))] [0,1]) (.seq (.seq (rn [mv 10 1,bk 11 .eql 10 10] [0,1,11]) (.cond (.t 11) (.seq (.seq (rn [mv 12 0,jj 13 (.bin .leq (kk 0) (.t 12)),mv 14 13,jt 15 14 (.mov (.t 0)),jt 16 14 (.bin .lss (.t 15) (kk 100)),jj 17 (.pick (.t 14) (.t 16) kF)] [0,17]) (.cond (.t 17) (.seq (rn [mv 18 0,cl 19 293 [18],mv 4 19] [4]) (.ret)) (.skip))) (.seq (rn [jj 5 (.alloc [(.lit (.int .u8 0)),(.lit (.int .u8 0)),(.lit (.int .u8 0)),(.lit (.int .u8 0)),(.lit (.int .u8 0)),(.lit (.int .u8 0)),(.lit (.int .u8 0)),(.lit (.int .u8 0)),(.lit (.int .u8 0)),(.lit (.int .u8 0)),(.lit (.int .u8 0)),(.lit (.int .u8 0)),(.lit (.int .u8 0)),(.lit (.int .u8 0)),(.lit (.int .u8 0)),(.lit (.int .u8 0)),(.lit (.int .u8 0)),(.lit (.int .u8 0)),(.lit (.int .u8 0)),(.lit (.int .u8 0)),(.lit (.int .u8 0)),(.lit (.int .u8 0)),(.lit (.int .u8 0)),(.lit (.int .u8 0))])] [0,5]) (.seq (rn [mv 20 0,jj 21 (.conv (.int .u64) (.t 20)),mv 6 21] [0,5,6]) (.seq (.seq (rn [mv 22 0,bk 23 .lss 22 0] [0,5,6,23]) (.cond (.t 23) (rn [mv 24 6,jj 25 (.un .neg (.t 24)),mv 6 25] [0,5,6]) (.skip))) (.seq (rn [mv 26 6,cl 27 294 [26],mv 7 27] [0,5,6,7]) (.seq (rn [mv 28 7,jj 29 (.bin .add (kk 1) (.t 28)),jj 30 (.sliceA 24 1 (.t 5) (some (kk 1)) (some (.t 29))),mv 31 6,cl 32 295 [30,31]] [0,5,7]) (.seq (.seq (rn [mv 33 0,bk 34 .lss 33 0] [5,7,34]) (.cond (.t 34) (.seq (rn [jj 35 (.indexAddrA 24 1 (.t 5) (kk 0)),jn (.store 1 (.t 35) (.c (.int .u8 45)))] [5,7]) (.seq (rn [mv 36 7,jj 37 (.bin .add (kk 1) (.t 36)),jj 38 (.sliceA 24 1 (.t 5) none (some (.t 37))),jj 39 (.bstr (.t 38)),mv 4 39] [4]) (.ret))) (.skip))) (.seq (rn [mv 40 7,jj 41 (.bin .add (kk 1) (.t 40)),jj 42 (.sliceA 24 1 (.t 5) (some (kk 1)) (some (.t 41))),jj 43 (.bstr (.t 42)),mv 4 43] [4]) (.ret))))))))) (.skip))) (.seq (rn [mv 45 0,jj 46 (.conv (.int .u64) (.t 45)),mv 47 1,mv 48 0,bk 49 .lss 48 0,jj 50 (.call 296 [(.c (.slice none 0 0)),(.t 46),(.t 47),(.t 49),kF]),mv 44 50,ex 51 44 0,ex 52 44 1,mv 8 51,mv 9 52] [9]) (.seq (rn [mv 53 9,mv 4 53] [4]) (.ret)))),false,false,false⟩
def F293:PFun:=⟨1,[.tmp 2],.seq (rn [jj 2 (.mov (.c (.string ⟨#[]⟩)))] [0]) (.seq (.seq (rn [mv 3 0,bk 4 .lss 3 10] [0,4]) (.cond (.t 4) (.seq (rn [mv 5 0,mv 6 0,bk 7 .add 6 1,jj 8 (.sliceS (.c (.string ⟨#[48,49,50,51,52,53,54,55,56,57,97,98,99,100,101,102,103,104,105,106,107,108,109,110,111,112,113,114,115,116,117,118,119,120,121,122]⟩)) (some (.t 5)) (some (.t 7))),mv 2 8] [2]) (.ret)) (.skip))) (.seq (rn [mv 9 0,bk 10 .mul 9 2,mv 11 0,bk 12 .mul 11 2,bk 13 .add 12 2,jj 14 (.sliceS (.c (.string ⟨#[48,48,48,49,48,50,48,51,48,52,48,53,48,54,48,55,48,56,48,57,49,48,49,49,49,50,49,51,49,52,49,53,49,54,49,55,49,56,49,57,50,48,50,49,50,50,50,51,50,52,50,53,50,54,50,55,50,56,50,57,51,48,51,49,51,50,51,51,51,52,51,53,51,54,51,55,51,56,51,57,52,48,52,49,52,50,52,51,52,52,52,53,52,54,52,55,52,56,52,57,53,48,53,49,53,50,53,51,53,52,53,53,53,54,53,55,53,56,53,57,54,48,54,49,54,50,54,51,54,52,54,53,54,54,54,55,54,56,54,57,55,48,55,49,55,50,55,51,55,52,55,53,55,54,55,55,55,56,55,57,56,48,56,49,56,50,56,51,56,52,56,53,56,54,56,55,56,56,56,57,57,48,57,49,57,50,57,51,57,52,57,53,57,54,57,55,57,56,57,57]⟩)) (some (.t 10)) (some (.t 13))),mv 2 14] [2]) (.ret))),false,false,false⟩
def F294:PFun:=⟨1,[.tmp 2],.seq (rn [mx 2 (kk 0)] [0]) (.seq (rn [mv 4 0,cl 5 299 [4],cl 6 298 [5],mv 3 6] [0,3]) (.seq (rn [mv 7 3,mv 8 0,mv 9 3,jj 10 (.indexAddrA 20 1 (.g G_internal_strconv_uint64pow10) (.t 9)),l1 11 10,bn 12 .geq 8 11,cl 13 300 [12],bn 14 .add 7 13,mv 2 14] [2]) (.ret))),false,false,false⟩
@[simp] def F295l0x:PC:=(.seq (.seq (rn [mv 19 4,bk 20 .geq 19 8] [0,1,4,20]) (.cond (.t 20) (.skip) (.exit 0))) (.block 1 (.seq (rn [mv 21 1,jj 22 (.bin .rem (.t 21) (.c (.int .u64 100000000))),jj 23 (.conv (.int .u32) (.t 22)),mv 5 23] [0,1,4,5]) (.seq (rn [mv 24 1,jj 25 (.bin .quo (.t 24) (.c (.int .u64 100000000))),mv 1 25] [0,1,4,5]) (.seq (rn [mv 26 5,jj 27 (.bin .quo (.t 26) (.c (.int .u32 10000))),mv 28 5,jj 29 (.bin .rem (.t 28) (.c (.int .u32 10000))),mv 6 27,mv 7 29] [0,1,4,6,7]) (.seq (rn [mv 30 7,jj 31 (.bin .quo (.t 30) (.c (.int .u32 100))),jj 32 (.bin .mul (.t 31) (.c (.int .u32 2))),mv 33 7,jj 34 (.bin .rem (.t 33) (.c (.int .u32 100))),jj 35 (.bin .mul (.t 34) (.c (.int .u32 2))),mv 8 32,mv 9 35] [0,1,4,6,8,9]) (.seq (rn [mv 36 6,jj 37 (.bin .quo (.t 36) (.c (.int .u32 100))),jj 38 (.bin .mul (.t 37) (.c (.int .u32 2))),mv 39 6,jj 40 (.bin .rem (.t 39) (.c (.int .u32 100))),jj 41 (.bin .mul (.t 40) (.c (.int .u32 2))),mv 10 38,mv 11 41] [0,1,4,8,9,10,11]) (.seq (.region (some []) [mv 42 0,mv 43 4,bk 44 .sub 43 1,mv 45 0,mv 46 4,bk 47 .sub 46 2,mv 48 9,jj 49 (.bin .add (.t 48) (.c (.int .u32 1))),jj 50 (.indexS (.c (.string ⟨#[48,48,48,49,48,50,48,51,48,52,48,53,48,54,48,55,48,56,48,57,49,48,49,49,49,50,49,51,49,52,49,53,49,54,49,55,49,56,49,57,50,48,50,49,50,50,50,51,50,52,50,53,50,54,50,55,50,56,50,57,51,48,51,49,51,50,51,51,51,52,51,53,51,54,51,55,51,56,51,57,52,48,52,49,52,50,52,51,52,52,52,53,52,54,52,55,52,56,52,57,53,48,53,49,53,50,53,51,53,52,53,53,53,54,53,55,53,56,53,57,54,48,54,49,54,50,54,51,54,52,54,53,54,54,54,55,54,56,54,57,55,48,55,49,55,50,55,51,55,52,55,53,55,54,55,55,55,56,55,57,56,48,56,49,56,50,56,51,56,52,56,53,56,54,56,55,56,56,56,57,57,48,57,49,57,50,57,51,57,52,57,53,57,54,57,55,57,56,57,57]⟩)) (.t 49)),mv 51 9,jj 52 (.indexS (.c (.string ⟨#[48,48,48,49,48,50,48,51,48,52,48,53,48,54,48,55,48,56,48,57,49,48,49,49,49,50,49,51,49,52,49,53,49,54,49,55,49,56,49,57,50,48,50,49,50,50,50,51,50,52,50,53,50,54,50,55,50,56,50,57,51,48,51,49,51,50,51,51,51,52,51,53,51,54,51,55,51,56,51,57,52,48,52,49,52,50,52,51,52,52,52,53,52,54,52,55,52,56,52,57,53,48,53,49,53,50,53,51,53,52,53,53,53,54,53,55,53,56,53,57,54,48,54,49,54,50,54,51,54,52,54,53,54,54,54,55,54,56,54,57,55,48,55,49,55,50,55,51,55,52,55,53,55,54,55,55,55,56,55,57,56,48,56,49,56,50,56,51,56,52,56,53,56,54,56,55,56,56,56,57,57,48,57,49,57,50,57,51,57,52,57,53,57,54,57,55,57,56,57,57]⟩)) (.t 51)),jj 53 (.indexAddr 1 (.t 42) (.t 44)),st 1 53 50,jj 54 (.indexAddr 1 (.t 45) (.t 47)),st 1 54 52] [0,1,4,8,10,11]) (.seq (.region (some []) [mv 55 0,mv 56 4,bk 57 .sub 56 3,mv 58 0,mv 59 4,bk 60 .sub 59 4,mv 61 8,jj 62 (.bin .add (.t 61) (.c (.int .u32 1))),jj 63 (.indexS (.c (.string ⟨#[48,48,48,49,48,50,48,51,48,52,48,53,48,54,48,55,48,56,48,57,49,48,49,49,49,50,49,51,49,52,49,53,49,54,49,55,49,56,49,57,50,48,50,49,50,50,50,51,50,52,50,53,50,54,50,55,50,56,50,57,51,48,51,49,51,50,51,51,51,52,51,53,51,54,51,55,51,56,51,57,52,48,52,49,52,50,52,51,52,52,52,53,52,54,52,55,52,56,52,57,53,48,53,49,53,50,53,51,53,52,53,53,53,54,53,55,53,56,53,57,54,48,54,49,54,50,54,51,54,52,54,53,54,54,54,55,54,56,54,57,55,48,55,49,55,50,55,51,55,52,55,53,55,54,55,55,55,56,55,57,56,48,56,49,56,50,56,51,56,52,56,53,56,54,56,55,56,56,56,57,57,48,57,49,57,50,57,51,57,52,57,53,57,54,57,55,57,56,57,57]⟩)) (.t 62)),mv 64 8,jj 65 (.indexS (.c (.string ⟨#[48,48,48,49,48,50,48,51,48,52,48,53,48,54,48,55,48,56,48,57,49,48,49,49,49,50,49,51,49,52,49,53,49,54,49,55,49,56,49,57,50,48,50,49,50,50,50,51,50,52,50,53,50,54,50,55,50,56,50,57,51,48,51,49,51,50,51,51,51,52,51,53,51,54,51,55,51,56,51,57,52,48,52,49,52,50,52,51,52,52,52,53,52,54,52,55,52,56,52,57,53,48,53,49,53,50,53,51,53,52,53,53,53,54,53,55,53,56,53,57,54,48,54,49,54,50,54,51,54,52,54,53,54,54,54,55,54,56,54,57,55,48,55,49,55,50,55,51,55,52,55,53,55,54,55,55,55,56,55,57,56,48,56,49,56,50,56,51,56,52,56,53,56,54,56,55,56,56,56,57,57,48,57,49,57,50,57,51,57,52,57,53,57,54,57,55,57,56,57,57]⟩)) (.t 64)),jj 66 (.indexAddr 1 (.t 55) (.t 57)),st 1 66 63,jj 67 (.indexAddr 1 (.t 58) (.t 60)),st 1 67 65] [0,1,4,10,11]) (.seq (.region (some []) [mv 68 0,mv 69 4,bk 70 .sub 69 5,mv 71 0,mv 72 4,bk 73 .sub 72 6,mv 74 11,jj 75 (.bin .add (.t 74) (.c (.int .u32 1))),jj 76 (.indexS (.c (.string ⟨#[48,48,48,49,48,50,48,51,48,52,48,53,48,54,48,55,48,56,48,57,49,48,49,49,49,50,49,51,49,52,49,53,49,54,49,55,49,56,49,57,50,48,50,49,50,50,50,51,50,52,50,53,50,54,50,55,50,56,50,57,51,48,51,49,51,50,51,51,51,52,51,53,51,54,51,55,51,56,51,57,52,48,52,49,52,50,52,51,52,52,52,53,52,54,52,55,52,56,52,57,53,48,53,49,53,50,53,51,53,52,53,53,53,54,53,55,53,56,53,57,54,48,54,49,54,50,54,51,54,52,54,53,54,54,54,55,54,56,54,57,55,48,55,49,55,50,55,51,55,52,55,53,55,54,55,55,55,56,55,57,56,48,56,49,56,50,56,51,56,52,56,53,56,54,56,55,56,56,56,57,57,48,57,49,57,50,57,51,57,52,57,53,57,54,57,55,57,56,57,57]⟩)) (.t 75)),mv 77 11,jj 78 (.indexS (.c (.string ⟨#[48,48,48,49,48,50,48,51,48,52,48,53,48,54,48,55,48,56,48,57,49,48,49,49,49,50,49,51,49,52,49,53,49,54,49,55,49,56,49,57,50,48,50,49,50,50,50,51,50,52,50,53,50,54,50,55,50,56,50,57,51,48,51,49,51,50,51,51,51,52,51,53,51,54,51,55,51,56,51,57,52,48,52,49,52,50,52,51,52,52,52,53,52,54,52,55,52,56,52,57,53,48,53,49,53,50,53,51,53,52,53,53,53,54,53,55,53,56,53,57,54,48,54,49,54,50,54,51,54,52,54,53,54,54,54,55,54,56,54,57,55,48,55,49,55,50,55,51,55,52,55,53,55,54,55,55,55,56,55,57,56,48,56,49,56,50,56,51,56,52,56,53,56,54,56,55,56,56,56,57,57,48,57,49,57,50,57,51,57,52,57,53,57,54,57,55,57,56,57,57]⟩)) (.t 77)),jj 79 (.indexAddr 1 (.t 68) (.t 70)),st 1 79 76,jj 80 (.indexAddr 1 (.t 71) (.t 73)),st 1 80 78] [0,1,4,10]) (.seq (.region (some []) [mv 81 0,mv 82 4,bk 83 .sub 82 7,mv 84 0,mv 85 4,bk 86 .sub 85 8,mv 87 10,jj 88 (.bin .add (.t 87) (.c (.int .u32 1))),jj 89 (.indexS (.c (.string ⟨#[48,48,48,49,48,50,48,51,48,52,48,53,48,54,48,55,48,56,48,57,49,48,49,49,49,50,49,51,49,52,49,53,49,54,49,55,49,56,49,57,50,48,50,49,50,50,50,51,50,52,50,53,50,54,50,55,50,56,50,57,51,48,51,49,51,50,51,51,51,52,51,53,51,54,51,55,51,56,51,57,52,48,52,49,52,50,52,51,52,52,52,53,52,54,52,55,52,56,52,57,53,48,53,49,53,50,53,51,53,52,53,53,53,54,53,55,53,56,53,57,54,48,54,49,54,50,54,51,54,52,54,53,54,54,54,55,54,56,54,57,55,48,55,49,55,50,55,51,55,52,55,53,55,54,55,55,55,56,55,57,56,48,56,49,56,50,56,51,56,52,56,53,56,54,56,55,56,56,56,57,57,48,57,49,57,50,57,51,57,52,57,53,57,54,57,55,57,56,57,57]⟩)) (.t 88)),mv 90 10,jj 91 (.indexS (.c (.string ⟨#[48,48,48,49,48,50,48,51,48,52,48,53,48,54,48,55,48,56,48,57,49,48,49,49,49,50,49,51,49,52,49,53,49,54,49,55,49,56,49,57,50,48,50,49,50,50,50,51,50,52,50,53,50,54,50,55,50,56,50,57,51,48,51,49,51,50,51,51,51,52,51,53,51,54,51,55,51,56,51,57,52,48,52,49,52,50,52,51,52,52,52,53,52,54,52,55,52,56,52,57,53,48,53,49,53,50,53,51,53,52,53,53,53,54,53,55,53,56,53,57,54,48,54,49,54,50,54,51,54,52,54,53,54,54,54,55,54,56,54,57,55,48,55,49,55,50,55,51,55,52,55,53,55,54,55,55,55,56,55,57,56,48,56,49,56,50,56,51,56,52,56,53,56,54,56,55,56,56,56,57,57,48,57,49,57,50,57,51,57,52,57,53,57,54,57,55,57,56,57,57]⟩)) (.t 90)),jj 92 (.indexAddr 1 (.t 81) (.t 83)),st 1 92 89,jj 93 (.indexAddr 1 (.t 84) (.t 86)),st 1 93 91] [0,1,4]) (rn [mv 94 4,bk 95 .sub 94 8,mv 4 95] [0,1,4]))))))))))))
def F295l0:PC:=F295l0x
def F295:PFun:=⟨2,[],.seq (rn [mv 17 0,ls 18 17,mv 4 18] [0,1,4]) (.seq (.block 0 (.loop F295l0)) (.seq (rn [mv 96 1,jj 97 (.conv (.int .u32) (.t 96)),mv 12 97] [0,4,12]) (.seq (.seq (rn [mv 98 4,bk 99 .geq 98 4] [0,4,12,99]) (.cond (.t 99) (.seq (rn [mv 100 12,jj 101 (.bin .rem (.t 100) (.c (.int .u32 10000))),mv 13 101] [0,4,12,13]) (.seq (rn [mv 102 12,jj 103 (.bin .quo (.t 102) (.c (.int .u32 10000))),mv 12 103] [0,4,12,13]) (.seq (rn [mv 104 13,jj 105 (.bin .quo (.t 104) (.c (.int .u32 100))),jj 106 (.bin .mul (.t 105) (.c (.int .u32 2))),mv 107 13,jj 108 (.bin .rem (.t 107) (.c (.int .u32 100))),jj 109 (.bin .mul (.t 108) (.c (.int .u32 2))),mv 14 106,mv 15 109] [0,4,12,14,15]) (.seq (.region (some []) [mv 110 0,mv 111 4,bk 112 .sub 111 1,mv 113 0,mv 114 4,bk 115 .sub 114 2,mv 116 15,jj 117 (.bin .add (.t 116) (.c (.int .u32 1))),jj 118 (.indexS (.c (.string ⟨#[48,48,48,49,48,50,48,51,48,52,48,53,48,54,48,55,48,56,48,57,49,48,49,49,49,50,49,51,49,52,49,53,49,54,49,55,49,56,49,57,50,48,50,49,50,50,50,51,50,52,50,53,50,54,50,55,50,56,50,57,51,48,51,49,51,50,51,51,51,52,51,53,51,54,51,55,51,56,51,57,52,48,52,49,52,50,52,51,52,52,52,53,52,54,52,55,52,56,52,57,53,48,53,49,53,50,53,51,53,52,53,53,53,54,53,55,53,56,53,57,54,48,54,49,54,50,54,51,54,52,54,53,54,54,54,55,54,56,54,57,55,48,55,49,55,50,55,51,55,52,55,53,55,54,55,55,55,56,55,57,56,48,56,49,56,50,56,51,56,52,56,53,56,54,56,55,56,56,56,57,57,48,57,49,57,50,57,51,57,52,57,53,57,54,57,55,57,56,57,57]⟩)) (.t 117)),mv 119 15,jj 120 (.indexS (.c (.string ⟨#[48,48,48,49,48,50,48,51,48,52,48,53,48,54,48,55,48,56,48,57,49,48,49,49,49,50,49,51,49,52,49,53,49,54,49,55,49,56,49,57,50,48,50,49,50,50,50,51,50,52,50,53,50,54,50,55,50,56,50,57,51,48,51,49,51,50,51,51,51,52,51,53,51,54,51,55,51,56,51,57,52,48,52,49,52,50,52,51,52,52,52,53,52,54,52,55,52,56,52,57,53,48,53,49,53,50,53,51,53,52,53,53,53,54,53,55,53,56,53,57,54,48,54,49,54,50,54,51,54,52,54,53,54,54,54,55,54,56,54,57,55,48,55,49,55,50,55,51,55,52,55,53,55,54,55,55,55,56,55,57,56,48,56,49,56,50,56,51,56,52,56,53,56,54,56,55,56,56,56,57,57,48,57,49,57,50,57,51,57,52,57,53,57,54,57,55,57,56,57,57]⟩)) (.t 119)),jj 121 (.indexAddr 1 (.t 110) (.t 112)),st 1 121 118,jj 122 (.indexAddr 1 (.t 113) (.t 115)),st 1 122 120] [0,4,12,14]) (.seq (.region (some []) [mv 123 0,mv 124 4,bk 125 .sub 124 3,mv 126 0,mv 127 4,bk 128 .sub 127 4,mv 129 14,jj 130 (.bin .add (.t 129) (.c (.int .u32 1))),jj 131 (.indexS (.c (.string ⟨#[48,48,48,49,48,50,48,51,48,52,48,53,48,54,48,55,48,56,48,57,49,48,49,49,49,50,49,51,49,52,49,53,49,54,49,55,49,56,49,57,50,48,50,49,50,50,50,51,50,52,50,53,50,54,50,55,50,56,50,57,51,48,51,49,51,50,51,51,51,52,51,53,51,54,51,55,51,56,51,57,52,48,52,49,52,50,52,51,52,52,52,53,52,54,52,55,52,56,52,57,53,48,53,49,53,50,53,51,53,52,53,53,53,54,53,55,53,56,53,57,54,48,54,49,54,50,54,51,54,52,54,53,54,54,54,55,54,56,54,57,55,48,55,49,55,50,55,51,55,52,55,53,55,54,55,55,55,56,55,57,56,48,56,49,56,50,56,51,56,52,56,53,56,54,56,55,56,56,56,57,57,48,57,49,57,50,57,51,57,52,57,53,57,54,57,55,57,56,57,57]⟩)) (.t 130)),mv 132 14,jj 133 (.indexS (.c (.string ⟨#[48,48,48,49,48,50,48,51,48,52,48,53,48,54,48,55,48,56,48,57,49,48,49,49,49,50,49,51,49,52,49,53,49,54,49,55,49,56,49,57,50,48,50,49,50,50,50,51,50,52,50,53,50,54,50,55,50,56,50,57,51,48,51,49,51,50,51,51,51,52,51,53,51,54,51,55,51,56,51,57,52,48,52,49,52,50,52,51,52,52,52,53,52,54,52,55,52,56,52,57,53,48,53,49,53,50,53,51,53,52,53,53,53,54,53,55,53,56,53,57,54,48,54,49,54,50,54,51,54,52,54,53,54,54,54,55,54,56,54,57,55,48,55,49,55,50,55,51,55,52,55,53,55,54,55,55,55,56,55,57,56,48,56,49,56,50,56,51,56,52,56,53,56,54,56,55,56,56,56,57,57,48,57,49,57,50,57,51,57,52,57,53,57,54,57,55,57,56,57,57]⟩)) (.t 132)),jj 134 (.indexAddr 1 (.t 123) (.t 125)),st 1 134 131,jj 135 (.indexAddr 1 (.t 126) (.t 128)),st 1 135 133] [0,4,12]) (rn [mv 136 4,bk 137 .sub 136 4,mv 4 137] [0,4,12])))))) (.skip))) (.seq (.seq (rn [mv 138 4,bk 139 .geq 138 2] [0,4,12,139]) (.cond (.t 139) (.seq (rn [mv 140 12,jj 141 (.bin .rem (.t 140) (.c (.int .u32 100))),jj 142 (.bin .mul (.t 141) (.c (.int .u32 2))),mv 16 142] [0,4,12,16]) (.seq (rn [mv 143 12,jj 144 (.bin .quo (.t 143) (.c (.int .u32 100))),mv 12 144] [0,4,12,16]) (.seq (.region (some []) [mv 145 0,mv 146 4,bk 147 .sub 146 1,mv 148 0,mv 149 4,bk 150 .sub 149 2,mv 151 16,jj 152 (.bin .add (.t 151) (.c (.int .u32 1))),jj 153 (.indexS (.c (.string ⟨#[48,48,48,49,48,50,48,51,48,52,48,53,48,54,48,55,48,56,48,57,49,48,49,49,49,50,49,51,49,52,49,53,49,54,49,55,49,56,49,57,50,48,50,49,50,50,50,51,50,52,50,53,50,54,50,55,50,56,50,57,51,48,51,49,51,50,51,51,51,52,51,53,51,54,51,55,51,56,51,57,52,48,52,49,52,50,52,51,52,52,52,53,52,54,52,55,52,56,52,57,53,48,53,49,53,50,53,51,53,52,53,53,53,54,53,55,53,56,53,57,54,48,54,49,54,50,54,51,54,52,54,53,54,54,54,55,54,56,54,57,55,48,55,49,55,50,55,51,55,52,55,53,55,54,55,55,55,56,55,57,56,48,56,49,56,50,56,51,56,52,56,53,56,54,56,55,56,56,56,57,57,48,57,49,57,50,57,51,57,52,57,53,57,54,57,55,57,56,57,57]⟩)) (.t 152)),mv 154 16,jj 155 (.indexS (.c (.string ⟨#[48,48,48,49,48,50,48,51,48,52,48,53,48,54,48,55,48,56,48,57,49,48,49,49,49,50,49,51,49,52,49,53,49,54,49,55,49,56,49,57,50,48,50,49,50,50,50,51,50,52,50,53,50,54,50,55,50,56,50,57,51,48,51,49,51,50,51,51,51,52,51,53,51,54,51,55,51,56,51,57,52,48,52,49,52,50,52,51,52,52,52,53,52,54,52,55,52,56,52,57,53,48,53,49,53,50,53,51,53,52,53,53,53,54,53,55,53,56,53,57,54,48,54,49,54,50,54,51,54,52,54,53,54,54,54,55,54,56,54,57,55,48,55,49,55,50,55,51,55,52,55,53,55,54,55,55,55,56,55,57,56,48,56,49,56,50,56,51,56,52,56,53,56,54,56,55,56,56,56,57,57,48,57,49,57,50,57,51,57,52,57,53,57,54,57,55,57,56,57,57]⟩)) (.t 154)),jj 156 (.indexAddr 1 (.t 145) (.t 147)),st 1 156 153,jj 157 (.indexAddr 1 (.t 148) (.t 150)),st 1 157 155] [0,4,12]) (rn [mv 158 4,bk 159 .sub 158 2,mv 4 159] [0,4,12])))) (.skip))) (.seq (rn [mv 160 4,bk 161 .gtr 160 0] [0,12,161]) (.cond (.t 161) (rn [mv 162 0,mv 163 12,jj 164 (.bin .add (.c (.int .u32 48)) (.t 163)),jj 165 (.conv (.int .u8) (.t 164)),jj 166 (.indexAddr 1 (.t 162) (kk 0)),st 1 166 165] []) (.skip))))))),false,false,false⟩
def F298:PFun:=⟨1,[.tmp 2],.seq (rn [mx 2 (kk 0)] [0]) (.seq (rn [mv 3 0,bk 4 .mul 3 78913,jj 5 (.bin .shr (.t 4) (.c (.int .u64 18))),mv 2 5] [2]) (.ret)),false,false,false⟩
def F299:PFun:=⟨1,[.tmp 2],.seq (rn [mx 2 (kk 0)] [0,2]) (.seq (.seq (rn [mv 3 0,jj 4 (.bin .geq (.t 3) (.c (.int .u64 4294967296)))] [0,2,4]) (.cond (.t 4) (.seq (rn [mv 5 0,jj 6 (.bin .shr (.t 5) (.c (.int .u64 32))),mv 0 6] [0]) (rn [mx 2 (kk 32)] [0,2])) (.skip))) (.seq (.seq (rn [mv 7 0,jj 8 (.bin .geq (.t 7) (.c (.int .u64 65536)))] [0,2,8]) (.cond (.t 8) (.seq (rn [mv 9 0,jj 10 (.bin .shr (.t 9) (.c (.int .u64 16))),mv 0 10] [0,2]) (rn [mv 11 2,bk 12 .add 11 16,mv 2 12] [0,2])) (.skip))) (.seq (.seq (rn [mv 13 0,jj 14 (.bin .geq (.t 13) (.c (.int .u64 256)))] [0,2,14]) (.cond (.t 14) (.seq (rn [mv 15 0,jj 16 (.bin .shr (.t 15) (.c (.int .u64 8))),mv 0 16] [0,2]) (rn [mv 17 2,bk 18 .add 17 8,mv 2 18] [0,2])) (.skip))) (.seq (rn [mv 19 2,mv 20 0,jj 21 (.conv (.int .u8) (.t 20)),jj 22 (.indexS (.c (.string ⟨#[0,1,2,2,3,3,3,3,4,4,4,4,4,4,4,4,5,5,5,5,5,5,5,5,5,5,5,5,5,5,5,5,6,6,6,6,6,6,6,6,6,6,6,6,6,6,6,6,6,6,6,6,6,6,6,6,6,6,6,6,6,6,6,6,7,7,7,7,7,7,7,7,7,7,7,7,7,7,7,7,7,7,7,7,7,7,7,7,7,7,7,7,7,7,7,7,7,7,7,7,7,7,7,7,7,7,7,7,7,7,7,7,7,7,7,7,7,7,7,7,7,7,7,7,7,7,7,7,8,8,8,8,8,8,8,8,8,8,8,8,8,8,8,8,8,8,8,8,8,8,8,8,8,8,8,8,8,8,8,8,8,8,8,8,8,8,8,8,8,8,8,8,8,8,8,8,8,8,8,8,8,8,8,8,8,8,8,8,8,8,8,8,8,8,8,8,8,8,8,8,8,8,8,8,8,8,8,8,8,8,8,8,8,8,8,8,8,8,8,8,8,8,8,8,8,8,8,8,8,8,8,8,8,8,8,8,8,8,8,8,8,8,8,8,8,8,8,8,8,8,8,8,8,8,8,8]⟩)) (.t 21)),jj 23 (.conv (.int .i64) (.t 22)),bn 24 .add 19 23,mv 2 24] [2]) (.ret))))),false,false,false⟩
def F300:PFun:=⟨1,[.tmp 2],.seq (rn [mx 2 (kk 0)] [0]) (.seq (.seq (rn [mv 3 0] [3]) (.cond (.t 3) (.seq (rn [mx 2 (kk 1)] [2]) (.ret)) (.skip))) (.seq (rn [mx 2 (kk 0)] [2]) (.ret))),false,false,false⟩
end Go.Pm.F
end SFx
section STQ
namespace Go.Pm.F
def tQ:Nat->Option PFun
 | 231=>some F231
 | 243=>some F243
 | 244=>some F244
 | 245=>some F245
 | 257=>some F257
 | 258=>some F258
 | 259=>some F259
 | 260=>some F260
 | 264=>some F264
 | 266=>some F266
 | 272=>some F272
 | 273=>some F273
 | 274=>some F274
 | 282=>some F282
 | 283=>some F283
 | 288=>some F288
 | 291=>some F291
 | 293=>some F293
 | 294=>some F294
 | 295=>some F295
 | 298=>some F298
 | 299=>some F299
 | 300=>some F300
 | _=>none
end Go.Pm.F
end STQ
section SOb
namespace Go.Pm
open F
set_option maxHeartbeats 4000000
def vb (w:List UInt8):List V:=w.map fun b => .dat (.lit (.int .u8 b.toNat))
theorem qkj (w:List UInt8):qam (vb w)=[]:=by
 induction w with
 | nil=>rfl
 | cons x w ih=>simpa [vb] using ih
theorem qlv (r:Nat->Nat) (w:List UInt8):qch r (vb w)=vb w:=by
 induction w with
 | nil=>rfl
 | cons x w ih=>simpa [vb] using ih
attribute [local simp] qkj qlv
end Go.Pm
end SOb
section STR
namespace Go.Pm.F
def tR:Nat->Option PFun
 | _=>none
end Go.Pm.F
end STR
section SJa
namespace Go.Pm
open F
set_option maxHeartbeats 2000000
structure RowS (d:D) (l:List ByteArray):Prop where
 len : ∀ σ,V.len σ .sl (.dat d)=some l.length
 at_ : ∀ i:Nat,i<l.length->qay 1 (.dat d) i=some (.dat (.imm (qgC l) i))
 one:V.one (.dat d)=true
 cells:V.cells (.dat d)=[.dat d]
end Go.Pm
end SJa
section SJd
namespace Go.Pm
open F
set_option maxHeartbeats 4000000
def qny:List Tk->List Tk
 | []=>[]
 | t::r=>if t.bad≠0\/t.s.size=0 then [t] else t::qny r
end Go.Pm
end SJd
section SJe
namespace Go.Pm
open F
set_option maxHeartbeats 4000000
structure Ps where
 i:Nat
 a:Nat
 e:Nat
def qll (T:List Tk) (i:Nat):Tk:=T.getD i ⟨0,⟨#[]⟩,0⟩
def qS:ByteArray:=bs [63]
end Go.Pm
end SJe
section SJf
namespace Go.Pm
open F
structure TokP (t:Tk):Prop where
 q:t.bad=0->t.s≠qS
 dig:t.bad=0->qbg qdl t.s=true->(∀ c∈t.s.data.toList,qdl c=true)/\qi5 t.s.data.toList<=2147483647/\t.s.size<2 ^ 40
structure WfT (T:List Tk):Prop where
 len:T.length<2 ^ 40
 tok : ∀ t∈T,TokP t
 pos : ∀ i,i+1<T.length->(qll T i).s.size≠0
 last : ∀ i,i+1=T.length->(qll T i).s=⟨#[]⟩/\(qll T i).bad=0
structure Gd (T:List Tk) (s:Ps) (ts:List Tk):Prop where
 e:s.e=0
 a:s.a=0
 lt:s.i<T.length
 ts:qny (T.drop s.i)=ts
structure Er (T:List Tk) (s:Ps) (p c:Nat):Prop where
 lt:s.i<T.length
 c0:c≠0
 or:(s.e=c/\s.a=p)\/(s.e=0/\(qll T s.i).bad=c/\(qll T s.i).at_=p)
end Go.Pm
end SJf
section SJm
namespace Go.Pm
open F
set_option maxHeartbeats 4000000
section
variable {T:List Tk} {s:Ps} {lv:Nat}
abbrev k1 (k n:Int) (y:ByteArray) (ks:D):D := .sl [.lit (.int .i64 k),.lit (.int .i64 n),.lit (.string y),ks] 1 true
abbrev k2 (k n:Int) (y:ByteArray) (ks:D) (k' n':Int) (y':ByteArray) (ks':D):D := .sl [.lit (.int .i64 k),.lit (.int .i64 n),.lit (.string y),ks,.lit (.int .i64 k'),.lit (.int .i64 n'),.lit (.string y'),ks'] 2 true
abbrev k3 (k n:Int) (y:ByteArray) (ks:D) (k' n':Int) (y':ByteArray) (ks':D) (k'' n'':Int) (y'':ByteArray) (ks'':D):D := .sl [.lit (.int .i64 k),.lit (.int .i64 n),.lit (.string y),ks,.lit (.int .i64 k'),.lit (.int .i64 n'),.lit (.string y'),ks',.lit (.int .i64 k''),.lit (.int .i64 n''),.lit (.string y''),ks''] 3 false
end
end Go.Pm
end SJm
section SJp
namespace Go.Pm
open F
set_option maxHeartbeats 4000000
structure N4 where
 k:Int
 n:Int
 s:ByteArray
 d:D
 one:V.one (.dat d)=true
 cl:V.cells (.dat d)=[.dat d]
section
variable {T:List Tk} {s:Ps} {r:Nat->N4}
def qnB:Option Ss->N4
 | none=>⟨0,0,⟨#[]⟩,.lit (.slice none 0 0),rfl,rfl⟩
 | some b=>⟨7,0,⟨#[]⟩,kd false b.fo.len b.fo.cells,by simp,by simp⟩
end
end Go.Pm
end SJp
section SUc
namespace Go.Pm
inductive Red:List ByteArray->List ByteArray->Prop
 | nil:Red [] []
 | keep {t:ByteArray} {l m:List ByteArray} (h:Red l m):Red (t::l) (t::m)
 | del {t:ByteArray} {l m:List ByteArray} (h0:t.size≠0) (h:Red l m):Red (t::l) m
 | dig {t u:ByteArray} {l m:List ByteArray} (h0:u.size<=t.size) (h1 : ∀ p,qki p u=qki p t) (h2:qbg qih u=qbg qih t) (h:Red l m):Red (t::l) (u::m)
end Go.Pm
end SUc
section SE3
namespace Go.Pm
open F
inductive NmSt:S->V->S->Nat->List ByteArray->Ob->Prop
 | a (l:List ByteArray) (x:Ob):NmSt [] (.dat (qkX l)) [x] 0 l x
 | b (l:List ByteArray) (x:Ob) (m:Nat) (h:l≠[]):NmSt [] (.gsl (qgC l) l.length 1 0) [.tip m,x] 1 l x
end Go.Pm
end SE3
section SE4
namespace Go.Pm
open F
attribute [local simp] dkey
def mapM:Nat->List ByteArray->List (Value × V)
 | _,[]=>[]
 | i,s::l=>(.string s,.int i)::mapM (i+1) l
theorem qgw : ∀ (l:List ByteArray) (i:Nat),qer (mapM i l)=[]
 | [],i=>rfl
 | x::l,i=>by simp[mapM,qgw l]
theorem qhA (r:Nat->Nat) : ∀ (l:List ByteArray) (i:Nat),qjM r (mapM i l)=mapM i l
 | [],i=>rfl
 | x::l,i=>by simp[mapM,qhA r l]
attribute [local simp] qgw qhA dkey
end Go.Pm
end SE4
section SF01
namespace Go.Pm.F
variable (C:Task->Option Res) (q:Nat) (fr:Fr) (σ : S)
def F17:PFun:=⟨2,[.tmp 4],.seq (rn [mx 4 (kk 0)] [0,1]) (.seq (.seq (rn [mv 5 0,bk 6 .lss 5 0] [0,1,6]) (.cond (.t 6) (rn [mv 7 0,bk 8 .add 7 1,jj 9 (.un .neg (.t 8)),mv 0 9] [0,1]) (.skip))) (.seq (rn [mv 10 0,mv 11 1,bn 12 .rem 10 11,mv 4 12] [4]) (.ret))),false,false,false⟩
end Go.Pm.F
end SF01
section SF3g
namespace Go.Pm.F
variable (C:Task->Option Res) (q:Nat) (fr:Fr) (σ : S)
def F136:PFun:=⟨2,[.tmp 4],.seq (rn [mx 4 (kk 0)] [0,1]) (.seq (.seq (.region (some []) [mv 6 0,nc 7 6,fa 8 1 7,l1 9 8,mv 10 0,nc 11 10,fa 12 0 11,l1 13 12,ls 14 13,bn 15 .geq 9 14] [0,1,15]) (.cond (.t 15) (.seq (rn [mx 4 (kk 0)] [4]) (.ret)) (.skip))) (.seq (.region (some []) [mv 16 0,nc 17 16,fa 18 0 17,l1 19 18,mv 20 0,nc 21 20,fa 22 1 21,l1 23 22,jj 24 (.indexAddr 1 (.t 19) (.t 23)),l1 25 24,jj 26 (.call 17 [(.t 25),(kk 1000000)]),mv 5 26] [0,1,5] [10]) (.seq (rn [mv 27 0,nc 28 27,fa 29 1 28,l1 30 29,bk 31 .add 30 1,nc 32 27,fa 33 1 32,st 1 33 31] [1,5]) (.seq (rn [mv 34 5,mv 35 1,bn 36 .rem 34 35,mv 4 36] [4]) (.ret))))),false,false,false⟩
def F176:PFun:=⟨3,[.cell 6 true 4],.seq (rn [bx 5 2,jj 6 (.alloc [zN,zN,eN,sN])] [0,1,5,6]) (.seq (rn [mv 7 0,mv 8 1,la 9 4 5,jj 10 (.bslice 1 [zN,zN,eN,sN] [(0,4,(.t 9))]),jj 11 (.build [zN,zN,eN,sN] [(0,1,(.t 7)),(2,1,(.t 8)),(3,1,(.t 10))]),st 4 6 11] [6]) (.ret)),false,false,false⟩
def F177:PFun:=⟨2,[.cell 4 true 4],.seq (rn [jj 4 (.alloc [zN,zN,eN,sN])] [0,1,4]) (.seq (rn [mv 9 0,jj 10 (.call 136 [(.t 9),(kk 12)]),mv 5 10] [0,1,4,5]) (.seq (.seq (rn [mv 11 1,bk 12 .leq 11 0] [0,1,4,5,12]) (.cond (.t 12) (rn [mv 13 5,bk 14 .rem 13 6,mv 5 14] [0,1,4,5]) (.skip))) (.seq (.seq (rn [mv 15 5] [0,1,4,15]) (.block 0 (.seq (.seq (rn [bk 17 .eql 15 0,mv 16 17] [0,1,4,15,16]) (.cond (.t 16) (.skip) (rn [bk 18 .eql 15 1,mv 16 18] [0,1,4,15,16]))) (.cond (.t 16) (.seq (rn [jj 19 (.bslice 8 [zN,zN,zN,zN,zN,zN,zN,zN] [(0,1,(kk 0)),(1,1,(kk 1)),(2,1,(kk 2)),(3,1,(kk 3)),(4,1,(kk 7)),(5,1,(kk 100)),(6,1,(kk 1024)),(7,1,(kk 2147483647))]),mv 20 0,jj 21 (.call 136 [(.t 20),(kk 8)]),jj 22 (.indexAddr 1 (.t 19) (.t 21)),l1 23 22,jj 24 (.build [zN,zN,eN,sN] [(0,1,(kk 8)),(1,1,(.t 23))]),st 4 4 24] [4]) (.ret)) (.seq (.seq (rn [bk 26 .eql 15 2,mv 25 26] [0,1,4,15,25]) (.cond (.t 25) (.skip) (rn [bk 27 .eql 15 3,mv 25 27] [0,1,4,15,25]))) (.cond (.t 25) (.seq (rn [jj 28 (.bslice 4 [eN,eN,eN,eN] [(0,1,(.c (.string ⟨#[105]⟩))),(1,1,(.c (.string ⟨#[110]⟩))),(2,1,(.c (.string ⟨#[115,117,109]⟩))),(3,1,(.c (.string ⟨#[118,51]⟩)))]),mv 29 0,jj 30 (.call 136 [(.t 29),(kk 4)]),jj 31 (.indexAddr 1 (.t 28) (.t 30)),l1 32 31,jj 33 (.build [zN,zN,eN,sN] [(0,1,(kk 10)),(2,1,(.t 32))]),st 4 4 33] [4]) (.ret)) (.seq (.seq (rn [bk 35 .eql 15 4,mv 34 35] [0,1,4,15,34]) (.cond (.t 34) (.skip) (rn [bk 36 .eql 15 5,mv 34 36] [0,1,4,15,34]))) (.cond (.t 34) (.seq (rn [jj 37 (.bslice 3 [eN,eN,eN] [(0,1,(.c (.string ⟨#[115,101,108,102]⟩))),(1,1,(.c (.string ⟨#[111,116,104,101,114]⟩))),(2,1,(.c (.string ⟨#[116,105,99,107]⟩)))]),mv 38 0,jj 39 (.call 136 [(.t 38),(kk 3)]),jj 40 (.indexAddr 1 (.t 37) (.t 39)),l1 41 40,jj 42 (.build [zN,zN,eN,sN] [(0,1,(kk 12)),(2,1,(.t 41))]),st 4 4 42] [4]) (.ret)) (.seq (.seq (rn [bk 44 .eql 15 6,mv 43 44] [0,1,4,15,43]) (.cond (.t 43) (.skip) (rn [bk 45 .eql 15 7,mv 43 45] [0,1,4,15,43]))) (.cond (.t 43) (.seq (rn [jj 46 (.bslice 8 [eN,eN,eN,eN,eN,eN,eN,eN] [(0,1,(.c (.string ⟨#[120]⟩))),(1,1,(.c (.string ⟨#[121]⟩))),(2,1,(.c (.string ⟨#[118,120]⟩))),(3,1,(.c (.string ⟨#[118,121]⟩))),(4,1,(.c (.string ⟨#[97]⟩))),(5,1,(.c (.string ⟨#[98]⟩))),(6,1,(.c (.string ⟨#[104,105,116]⟩))),(7,1,(.c (.string ⟨#[115,116,105,108,108]⟩)))]),mv 47 0,jj 48 (.call 136 [(.t 47),(kk 8)]),jj 49 (.indexAddr 1 (.t 46) (.t 48)),l1 50 49,mv 6 50] [0,1,4,6]) (.seq (rn [mv 51 6,mv 52 0,mv 53 1,bk 54 .sub 53 1,cl 55 177 [52,54],jj 56 (.call 176 [(kk 11),(.t 51),(.t 55)]),st 4 4 56] [4]) (.ret))) (.seq (rn [bk 58 .eql 15 8,mv 57 58] [0,1,4,57]) (.cond (.t 57) (.seq (rn [mv 59 0,mv 60 1,bk 61 .sub 60 1,cl 62 177 [59,61],jj 63 (.call 176 [(kk 13),(.c (.string ⟨#[45]⟩)),(.t 62)]),st 4 4 63] [4]) (.ret)) (.skip))))))))))))) (.seq (rn [jj 64 (.bslice 4 [eN,eN,eN,eN] [(0,1,(.c (.string ⟨#[43]⟩))),(1,1,(.c (.string ⟨#[45]⟩))),(2,1,(.c (.string ⟨#[42]⟩))),(3,1,(.c (.string ⟨#[47]⟩)))]),mv 65 0,jj 66 (.call 136 [(.t 65),(kk 4)]),jj 67 (.indexAddr 1 (.t 64) (.t 66)),l1 68 67,mv 7 68] [0,1,4,7]) (.seq (rn [mv 69 0,mv 70 1,bk 71 .sub 70 1,cl 72 177 [69,71],jj 8 (.alloc [zN,zN,eN,sN]),st 4 8 72] [0,1,4,7,8]) (.seq (.region (some []) [mv 73 7,⟨some 74,.load true 4 (.t 8),none,[5]⟩,mv 75 0,mv 76 1,bk 77 .sub 76 1,cl 78 177 [75,77],jj 79 (.call 178 [(kk 14),(.t 73),(.t 74),(.t 78)]),st 4 4 79] [4] [5,6]) (.ret))))))),false,false,false⟩
def F178:PFun:=⟨4,[.cell 8 true 4],.seq (rn [bx 6 2,bx 7 3,jj 8 (.alloc [zN,zN,eN,sN])] [0,1,6,7,8]) (.seq (rn [mv 9 0,mv 10 1,la 11 4 6,la 12 4 7,jj 13 (.bslice 2 [zN,zN,eN,sN,zN,zN,eN,sN] [(0,4,(.t 11)),(4,4,(.t 12))]),jj 14 (.build [zN,zN,eN,sN] [(0,1,(.t 9)),(2,1,(.t 10)),(3,1,(.t 13))]),st 4 8 14] [8]) (.ret)),false,false,false⟩
end Go.Pm.F
end SF3g
section SF5
namespace Go.Pm.F
variable (C:Task->Option Res) (q:Nat) (fr:Fr) (σ : S)
def effRows15:List (List Int):=[[0,0],[0,1],[0,1],[1,0],[1,1],[2,0],[0,1],[0,1],[0,1],[2,1],[2,1],[2,1],[2,1],[1,1],[2,1],[2,1],[2,1],[1,1],[0,0],[1,0],[2,0],[0,0]]
def qeO:List D:=effRows15.flatten.map fun n => .lit (.int .i64 n)
end Go.Pm.F
end SF5
section STb15
namespace Go.Pm.F
def qd6:Nat->Option PFun
 | 17=>some F17
 | 136=>some F136
 | 176=>some F176
 | 177=>some F177
 | 178=>some F178
 | _=>none
end Go.Pm.F
end STb15
section SGc
namespace Go.Pm
def E.cost:E->Nat
 | .int n=>(qi1 n.toNat).length+1
 | .bool n=>if n=0 then 6 else 5
 | .var s=>s.size+1
 | .name s=>s.size+1
 | .field _ s e=>s.size+5+e.cost
 | .un _ _ e=>6+e.cost
 | .bin _ o a b=>o.str.size+5+(a.cost+b.cost)
def Ss.cost:Ss->Nat
 | .nil=>0
 | .assign _ s e r=>s.size+5+e.cost+r.cost
 | .store _ s a b r=>s.size+9+(a.cost+b.cost)+r.cost
 | .effect _ a b r=>11+(a.cost+b.cost)+r.cost
 | .stop r=>7+r.cost
 | .cond w _ c b r=>(if w then 6 else 3)+c.cost+b.cost+r.cost
 | .block _ b r=>4+b.cost+((if qlA r then 5 else 0)+r.cost)
def Co (c0:Int) (cost:Nat) (xs:List Int) (i i':Int):Prop:=i<=i'/\(i'<=i\/i'<=xs.length)/\(cost:Int)<=c0+24*(i'-i)
end Go.Pm
end SGc
section SG1
namespace Go.Pm
open F
theorem qjC {n m:Int} (h1:I64 n) (hm:1<=m):Z qd6 (.call 17 [.int n,.int m] [])=some (.ret (.int (qeH n m)) []):=by
 refine Z_call (pf:=F17) rfl rfl ?_
 unfold qeH
 have hm0 : ¬ m=0:=by omega
 by_cases h:n<0
 ·have w1:IntKind.i64.wrap (n+1)=n+1:=qb5 _ (by unfold I64 at h1; omega)
  have w2:IntKind.i64.wrap (-(n+1)) = -(n+1):=qb5 _ (by unfold I64 at h1; omega)
  simp[F17,h,hm0,w1,w2]
 ·simp[F17,h,hm0]
abbrev qmp (v:D) (i:Int):S:=[.cells [.dat v,.int i]]
def qaM (xs:List Int) (i m:Int):Int:=if (xs.length:Int)<=i then 0 else (qeH (xs.getD i.toNat 0) 1000000).tmod m
def qaF (xs:List Int) (i:Int):Int:=if (xs.length:Int)<=i then i else i+1
structure Bnd (v:D) (xs:List Int) (B:Int):Prop where
 row:RowV v xs
 len:(xs.length:Int)<=B
 big:B<=9223372036854775807
theorem qaZ {v:D} {xs:List Int} {i B:Int} (h:0<=i/\i<=B) (hl:Bnd v xs B):0<=qaF xs i/\qaF xs i<=B:=by
 have:=hl.len
 unfold qaF; split<;>omega
theorem qbb (xs:List Int) (i:Int):(qaF xs i=i+1/\i<xs.length)\/(qaF xs i=i /\ ∀ m,qaM xs i m=0):=by
 unfold qaF qaM
 split
 ·exact .inr ⟨rfl,fun m=>rfl⟩
 ·exact .inl ⟨rfl,by omega⟩
theorem qcc {xs:List Int} {i m:Int} (hx : ∀ x∈xs,I64 x) (hm:1<=m):0<=qaM xs i m/\qaM xs i m<m:=by
 unfold qaM
 split
 ·omega
 ·have h0:I64 (xs.getD i.toNat 0):=by
   rw[List.getD_eq_getElem?_getD]
   cases h:xs[i.toNat]? with
   | none=>simp[I64]
   | some y=>exact hx _ (List.mem_of_getElem? h)
  have:=qiI (m:=1000000) h0 (by omega)
  exact qhB this.1 hm
theorem qcK {v:D} {xs:List Int} {i m B:Int} (hx : ∀ x∈xs,I64 x) (hl:Bnd v xs B) (hi:0<=i/\i<=B) (hm:1<=m) :
  Z qd6 (.call 136 [.ptr 0 0,.int m] (qmp v i))=some (.ret (.int (qaM xs i m)) (qmp v (qaF xs i))):=by
 refine Z_call (pf:=F136) rfl rfl ?_
 have hm0:m≠0:=by omega
 have hb:=hl.len
 have hb2:=hl.big
 rcases hl.row with ⟨o,rfl,rfl⟩ | rfl
 ·have h:(0:Int)<=i:=hi.1
  simp[F136,h,qaM,qaF,V.len]
 by_cases h:(xs.length:Int)<=i
 ·simp[F136,h,qaM,qaF,V.len]
 ·have a1:=qdM (qcq xs) xs.length false i hi.1 (by omega)
  have hlt:i.toNat<xs.length:=by omega
  have a2:=qgd xs i.toNat hlt
  have a3:=qjC (n:=xs[i.toNat]) (m:=1000000) (hx _ (List.getElem_mem hlt)) (by omega)
  have w1:=qb5 (i+1) (by omega)
  simp[F136,w1,h,qaM,qaF,V.len,a1,a2,a3,hm0,hlt]
section
variable (k:Int) (s:ByteArray) (a b a' b':Int) (t t':ByteArray) (d d':D)
theorem qlQ (h1:V.one (.dat d)=true) (h2:V.cells (.dat d)=[.dat d]) :
  Z qd6 (.call 176 [.int k,.str s,.dat (.agg [.lit (.int .i64 a),.lit (.int .i64 b),.lit (.string t),d])] []) =
   some (.ret (.dat (.agg [.lit (.int .i64 k),.lit (.int .i64 0),.lit (.string s),.sl [.lit (.int .i64 a),.lit (.int .i64 b),.lit (.string t),d] 1 true])) []):=by
 refine Z_call (pf:=F176) rfl rfl ?_
 simp[F176,h1,h2]
theorem qm3 (h1:V.one (.dat d)=true) (h2:V.cells (.dat d)=[.dat d]) (h3:V.one (.dat d')=true) (h4:V.cells (.dat d')=[.dat d']) :
  Z qd6 (.call 178 [.int k,.str s,.dat (.agg [.lit (.int .i64 a),.lit (.int .i64 b),.lit (.string t),d]),.dat (.agg [.lit (.int .i64 a'),.lit (.int .i64 b'),.lit (.string t'),d'])] []) =
   some (.ret (.dat (.agg [.lit (.int .i64 k),.lit (.int .i64 0),.lit (.string s),.sl [.lit (.int .i64 a),.lit (.int .i64 b),.lit (.string t),d,.lit (.int .i64 a'),.lit (.int .i64 b'),.lit (.string t'),d'] 2 true])) []):=by
 refine Z_call (pf:=F178) rfl rfl ?_
 simp[F178,h1,h2,h3,h4,List.range_succ]
end
def qkZ:List ByteArray:=[⟨#[105]⟩,⟨#[110]⟩,⟨#[115,117,109]⟩,⟨#[118,51]⟩]
def qnx:List ByteArray:=qkZ++[⟨#[118]⟩]
def qh4:List ByteArray:=[⟨#[115,101,108,102]⟩,⟨#[111,116,104,101,114]⟩,⟨#[116,105,99,107]⟩]
def qjD:List ByteArray:=[⟨#[120]⟩,⟨#[121]⟩,⟨#[118,120]⟩,⟨#[118,121]⟩,⟨#[97]⟩,⟨#[98]⟩]
def qfo:List ByteArray:=qjD++[⟨#[104,105,116]⟩,⟨#[115,116,105,108,108]⟩]
def E.fine:E->Prop
 | .int n=>0<=n/\n<=2147483647
 | .bool n=>n=0\/n=1
 | .var s=>s∈qnx
 | .name s=>s∈qh4
 | .field _ s e=>s∈qfo/\e.fine/\e.ty=1
 | .un _ neg e=>e.fine/\e.ty=if neg then 1 else 2
 | .bin _ o a b=>a.fine/\b.fine/\a.ty=o.opd/\b.ty=o.opd
def E.dp:E->Nat
 | .field _ _ e=>e.dp+1
 | .un _ _ e=>e.dp+1
 | .bin _ _ a b=>max a.dp b.dp+1
 | _=>0
def mxs:Nat->Nat
 | 0=>1
 | n+1=>2*mxs n+1
theorem qg5 (n:Nat):1<=mxs n:=by cases n<;>simp[mxs]
def GIb (B:Int) (v:D) (xs:List Int) (d i:Int):Prop := ∃ (e:E) (i':Int),(e.fine/\e.ty=1/\e.dp<=d.toNat/\e.size<=mxs d.toNat/\Co 2 e.cost xs i i')/\(0<=i'/\i'<=B) /\
 Z qd6 (.call 177 [.ptr 0 0,.int d] (qmp v i))=some (.ret e.node (qmp v i'))
theorem qg6 {l:List ByteArray} {p:Int} (h:0<=p/\p<l.length) : ∃ s∈l,qah (qgC l) p.toNat 1=some [.lit (.string s)]:=
 ⟨_,List.getElem_mem (by omega:p.toNat<l.length),qjB l p.toNat (by omega)⟩
def nums:List Int:=[0,1,2,3,7,100,1024,2147483647]
def qk0:List Bop:=[.add,.sub,.mul,.div]
theorem qkA {p:Int} (h:0<=p/\p<4) : ∃ o∈qk0,qah (qgC [⟨#[43]⟩,⟨#[45]⟩,⟨#[42]⟩,⟨#[47]⟩]) p.toNat 1=some [.lit (.string (Bop.str o))]:=by
 obtain rfl | rfl | rfl | rfl:p=0\/p=1\/p=2\/p=3:=by omega
 ·exact⟨.add,by simp[qk0],rfl⟩
 ·exact⟨.sub,by simp[qk0],rfl⟩
 ·exact⟨.mul,by simp[qk0],rfl⟩
 ·exact⟨.div,by simp[qk0],rfl⟩
section
variable {v:D} {xs:List Int} {i d B:Int} (hx : ∀ x∈xs,I64 x) (hl:Bnd v xs B) (hi:0<=i/\i<=B)
include hx hl hi
def qfp (xs:List Int) (d i:Int):Int:=if d<=0 then (qaM xs i 12).tmod 6 else qaM xs i 12
theorem qiP (h:qfp xs d i=0\/qfp xs d i=1):GIb B v xs d i:=by
 have n1:=qcK (i:=i) (m:=12) hx hl hi (by omega)
 have r1:=qaZ hi hl
 have n2:=qcK (i:=qaF xs i) (m:=8) hx hl r1 (by omega)
 have r2:=qaZ r1 hl
 have p:=qcc (i:=qaF xs i) (m:=8) hx (by omega)
 have hat:=qdM (qcq nums) 8 true (qaM xs (qaF xs i) 8) p.1 (by omega)
 have hc:=qgd nums (qaM xs (qaF xs i) 8).toNat (by simp[nums]; omega)
 have hm : ∀ n∈nums,0<=n/\n<=2147483647:=by decide
 have hn:=hm _ (List.getElem_mem (l:=nums) (n:=(qaM xs (qaF xs i) 8).toNat) (by simp[nums]; omega))
 have hlen:(qaM xs (qaF xs i) 8).toNat<nums.length:=by simp[nums]; omega
 have hco:Co 2 (E.cost (.int (nums[(qaM xs (qaF xs i) 8).toNat]'hlen))) xs i (qaF xs (qaF xs i)):=by
  have hcs : ∀ n∈nums,E.cost (.int n)<=11:=by decide +kernel
  have h11:=hcs _ (List.getElem_mem hlen)
  have h0 : ∀ (k:Nat) (hk:k<nums.length),k=0->E.cost (.int (nums[k]'hk))=2:=fun k hk e=>by subst e; exact (by decide +kernel:E.cost (.int 0)=2)
  have hz:=h0 _ hlen
  unfold Co
  rcases qbb xs i with ⟨e1,l1⟩ | ⟨e1,l1⟩
  ·rcases qbb xs (qaF xs i) with ⟨e2,l2⟩ | ⟨e2,l2⟩<;>omega
  ·have e3:qaM xs (qaF xs i) 8=0:=by rw[e1]; exact l1 8
   have e4:=hz (by rw[e3]; rfl)
   rcases qbb xs (qaF xs i) with ⟨e2,l2⟩ | ⟨e2,l2⟩<;>omega
 generalize nums[(qaM xs (qaF xs i) 8).toNat]'_=vv at hc hn hco
 simp only[nums,qcq,List.map] at hat hc
 refine⟨.int vv,_,⟨hn,rfl,Nat.zero_le _,qg5 _,hco⟩,r2,?_⟩
 refine Z_call (pf:=F177) rfl rfl ?_
 unfold qfp at h
 by_cases hd:d<=0
 ·rw[if_pos hd] at h
  rcases h with h | h<;>simp[F177,n1,n2,hd,h,hat,hc]
 ·rw[if_neg hd] at h
  rcases h with h | h<;>simp[F177,n1,n2,hd,h,hat,hc]
theorem qiQ (h:qfp xs d i=2\/qfp xs d i=3):GIb B v xs d i:=by
 have n1:=qcK (i:=i) (m:=12) hx hl hi (by omega)
 have r1:=qaZ hi hl
 have n2:=qcK (i:=qaF xs i) (m:=4) hx hl r1 (by omega)
 have r2:=qaZ r1 hl
 have p:=qcc (i:=qaF xs i) (m:=4) hx (by omega)
 have hat:=qdM (qgC qkZ) 4 true (qaM xs (qaF xs i) 4) p.1 (by omega)
 obtain⟨s,hs,hc⟩:=qg6 (l:=qkZ) (p:=qaM xs (qaF xs i) 4) (by simpa [qkZ] using p)
 simp only[qkZ,qgC,List.map] at hat hc
 have hsel:qaM xs i 12≠0:=fun h0=>by
  unfold qfp at h
  rw[h0] at h
  split at h<;>simp at h
 have hco:Co 2 (E.cost (.var s)) xs i (qaF xs (qaF xs i)):=by
  have hcs : ∀ s∈qkZ,s.size<=5:=by decide
  have h5:=hcs s hs
  show _/\_/\((s.size+1:Nat):Int)<=_
  rcases qbb xs i with ⟨e1,l1⟩ | ⟨e1,l1⟩
  ·rcases qbb xs (qaF xs i) with ⟨e2,l2⟩ | ⟨e2,l2⟩<;>omega
  ·exact absurd (l1 12) hsel
 refine⟨.var s,_,⟨List.mem_append_left _ hs,rfl,Nat.zero_le _,qg5 _,hco⟩,r2,?_⟩
 refine Z_call (pf:=F177) rfl rfl ?_
 unfold qfp at h
 by_cases hd:d<=0
 ·rw[if_pos hd] at h
  rcases h with h | h<;>simp[F177,n1,n2,hd,h,hat,hc]
 ·rw[if_neg hd] at h
  rcases h with h | h<;>simp[F177,n1,n2,hd,h,hat,hc]
theorem qhJ (h:qfp xs d i=4\/qfp xs d i=5):GIb B v xs d i:=by
 have n1:=qcK (i:=i) (m:=12) hx hl hi (by omega)
 have r1:=qaZ hi hl
 have n2:=qcK (i:=qaF xs i) (m:=3) hx hl r1 (by omega)
 have r2:=qaZ r1 hl
 have p:=qcc (i:=qaF xs i) (m:=3) hx (by omega)
 have hat:=qdM (qgC qh4) 3 true (qaM xs (qaF xs i) 3) p.1 (by omega)
 obtain⟨s,hs,hc⟩:=qg6 (l:=qh4) (p:=qaM xs (qaF xs i) 3) (by simpa [qh4] using p)
 simp only[qh4,qgC,List.map] at hat hc
 have hsel:qaM xs i 12≠0:=fun h0=>by
  unfold qfp at h
  rw[h0] at h
  split at h<;>simp at h
 have hco:Co 2 (E.cost (.name s)) xs i (qaF xs (qaF xs i)):=by
  have hcs : ∀ s∈qh4,s.size<=5:=by decide
  have h5:=hcs s hs
  show _/\_/\((s.size+1:Nat):Int)<=_
  rcases qbb xs i with ⟨e1,l1⟩ | ⟨e1,l1⟩
  ·rcases qbb xs (qaF xs i) with ⟨e2,l2⟩ | ⟨e2,l2⟩<;>omega
  ·exact absurd (l1 12) hsel
 refine⟨.name s,_,⟨hs,rfl,Nat.zero_le _,qg5 _,hco⟩,r2,?_⟩
 refine Z_call (pf:=F177) rfl rfl ?_
 unfold qfp at h
 by_cases hd:d<=0
 ·rw[if_pos hd] at h
  rcases h with h | h<;>simp[F177,n1,n2,hd,h,hat,hc]
 ·rw[if_neg hd] at h
  rcases h with h | h<;>simp[F177,n1,n2,hd,h,hat,hc]
theorem qiR (hd : ¬ d<=0) (hd2:d<=1000) (ih : ∀ j,0<=j/\j<=B->GIb B v xs (d-1) j) (h:qaM xs i 12=6\/qaM xs i 12=7):GIb B v xs d i:=by
 have n1:=qcK (i:=i) (m:=12) hx hl hi (by omega)
 have r1:=qaZ hi hl
 have n2:=qcK (i:=qaF xs i) (m:=8) hx hl r1 (by omega)
 have r2:=qaZ r1 hl
 have p:=qcc (i:=qaF xs i) (m:=8) hx (by omega)
 have hat:=qdM (qgC qfo) 8 true (qaM xs (qaF xs i) 8) p.1 (by omega)
 obtain⟨s,hs,hc⟩:=qg6 (l:=qfo) (p:=qaM xs (qaF xs i) 8) (by simpa [qfo,qjD] using p)
 simp only[qfo,qjD,qgC,List.map,List.cons_append,List.nil_append] at hat hc
 obtain⟨e,i',h1,h2,h3⟩:=ih _ r2
 have o:=qlQ 11 s e.kind e.num e.str e.kids (by simp) (by simp)
 have w1:=qb5 (d-1) (by omega)
 have ed:d.toNat=(d-1).toNat+1:=by omega
 have hco:Co 2 (E.cost (.field true s e)) xs i i':=by
  have hcs : ∀ s∈qfo,s.size<=5:=by decide
  have h5:=hcs s hs
  obtain⟨q1,q2,q3⟩:=h1.2.2.2.2
  show _/\_/\((s.size+5+e.cost:Nat):Int)<=_
  rcases qbb xs i with ⟨e1,l1⟩ | ⟨e1,l1⟩
  ·rcases qbb xs (qaF xs i) with ⟨e2,l2⟩ | ⟨e2,l2⟩<;>omega
  ·exact absurd (l1 12) (by omega)
 refine⟨.field true s e,i',⟨⟨hs,h1.1,h1.2.1⟩,by simp[h1.2.1],by rw[ed]; simp only[E.dp]; omega,by rw[ed]; simp only[mxs,qh2]; omega,hco⟩,h2,?_⟩
 refine Z_call (pf:=F177) rfl rfl ?_
 rcases h with h | h<;>simp[F177,n1,n2,hd,h,hat,hc,h3,o,w1]
theorem qkB (hd : ¬ d<=0) (hd2:d<=1000) (ih : ∀ j,0<=j/\j<=B->GIb B v xs (d-1) j) (h:qaM xs i 12=8):GIb B v xs d i:=by
 have n1:=qcK (i:=i) (m:=12) hx hl hi (by omega)
 have r1:=qaZ hi hl
 obtain⟨e,i',h1,h2,h3⟩:=ih _ r1
 have o:=qlQ 13 ⟨#[45]⟩ e.kind e.num e.str e.kids (by simp) (by simp)
 have w1:=qb5 (d-1) (by omega)
 have ed:d.toNat=(d-1).toNat+1:=by omega
 have hco:Co 2 (E.cost (.un true true e)) xs i i':=by
  obtain⟨q1,q2,q3⟩:=h1.2.2.2.2
  show _/\_/\((6+e.cost:Nat):Int)<=_
  rcases qbb xs i with ⟨e1,l1⟩ | ⟨e1,l1⟩
  ·omega
  ·exact absurd (l1 12) (by omega)
 refine⟨.un true true e,i',⟨⟨h1.1,h1.2.1⟩,by simp[h1.2.1],by rw[ed]; simp only[E.dp]; omega,by rw[ed]; simp only[mxs,qku]; omega,hco⟩,h2,?_⟩
 refine Z_call (pf:=F177) rfl rfl ?_
 simp[F177,n1,hd,h,h3,o,w1,ustr]
theorem qkC (hd : ¬ d<=0) (hd2:d<=1000) (ih : ∀ j,0<=j/\j<=B->GIb B v xs (d-1) j) (h:9<=qaM xs i 12):GIb B v xs d i:=by
 have n1:=qcK (i:=i) (m:=12) hx hl hi (by omega)
 have r1:=qaZ hi hl
 have n2:=qcK (i:=qaF xs i) (m:=4) hx hl r1 (by omega)
 have r2:=qaZ r1 hl
 have p:=qcc (i:=qaF xs i) (m:=4) hx (by omega)
 have hat:=qdM (qgC [⟨#[43]⟩,⟨#[45]⟩,⟨#[42]⟩,⟨#[47]⟩]) 4 true (qaM xs (qaF xs i) 4) p.1 (by omega)
 obtain⟨o,ho,hc⟩:=qkA p
 simp only[qgC,List.map] at hat hc
 obtain⟨a,i1,h1,h2,h3⟩:=ih _ r2
 obtain⟨b,i2,h4,h5,h6⟩:=ih _ h2
 have ot:=qm3 14 o.str a.kind a.num b.kind b.num a.str b.str a.kids b.kids (by simp) (by simp) (by simp) (by simp)
 have w1:=qb5 (d-1) (by omega)
 have ed:d.toNat=(d-1).toNat+1:=by omega
 have ho1:o.opd=1/\o.res=1:=by
  simp only[qk0,List.mem_cons,List.not_mem_nil,or_false] at ho
  rcases ho with rfl | rfl | rfl | rfl<;>exact⟨rfl,rfl⟩
 have hco:Co 2 (E.cost (.bin true o a b)) xs i i2:=by
  have ho2:o.str.size<=2:=by cases o<;>decide
  obtain⟨q1,q2,q3⟩:=h1.2.2.2.2
  obtain⟨q4,q5,q6⟩:=h4.2.2.2.2
  show _/\_/\((o.str.size+5+(a.cost+b.cost):Nat):Int)<=_
  rcases qbb xs i with ⟨e1,l1⟩ | ⟨e1,l1⟩
  ·rcases qbb xs (qaF xs i) with ⟨e2,l2⟩ | ⟨e2,l2⟩<;>omega
  ·exact absurd (l1 12) (by omega)
 refine⟨.bin true o a b,i2,⟨⟨h1.1,h4.1,by rw[ho1.1]; exact h1.2.1,by rw[ho1.1]; exact h4.2.1⟩,by simp[h1.2.1,h4.2.1,ho1.1,ho1.2],by rw[ed]; simp only[E.dp]; omega,by rw[ed]; simp only[mxs,qjz]; omega,hco⟩,h5,?_⟩
 refine Z_call (pf:=F177) rfl rfl ?_
 have k0 : ¬ qaM xs i 12=0:=by omega
 have k1 : ¬ qaM xs i 12=1:=by omega
 have k2 : ¬ qaM xs i 12=2:=by omega
 have k3 : ¬ qaM xs i 12=3:=by omega
 have k4 : ¬ qaM xs i 12=4:=by omega
 have k5 : ¬ qaM xs i 12=5:=by omega
 have k6 : ¬ qaM xs i 12=6:=by omega
 have k7 : ¬ qaM xs i 12=7:=by omega
 have k8 : ¬ qaM xs i 12=8:=by omega
 simp[F177,n1,n2,hd,k0,k1,k2,k3,k4,k5,k6,k7,k8,hat,hc,h3,h6,ot,w1]
end
end Go.Pm
end SG1
section SG2
namespace Go.Pm
open F
theorem qjQ {v:D} {xs:List Int} {B:Int} (hx : ∀ x∈xs,I64 x) (hl:Bnd v xs B) : ∀ (n:Nat) (d i:Int),d<=n->n<=1000->(0<=i/\i<=B)->GIb B v xs d i
 | n,d,i,hd,hn,hi=>by
  have p:=qcc (i:=i) (m:=12) hx (by omega)
  by_cases h0:d<=0
  ·have q:=qhB p.1 (m:=6) (by omega)
   have e:qfp xs d i=(qaM xs i 12).tmod 6:=if_pos h0
   by_cases h1:qfp xs d i<2
   ·exact qiP hx hl hi (by omega)
   by_cases h2:qfp xs d i<4
   ·exact qiQ hx hl hi (by omega)
   ·exact qhJ hx hl hi (by omega)
  ·have e:qfp xs d i=qaM xs i 12:=if_neg h0
   by_cases h1:qfp xs d i<2
   ·exact qiP hx hl hi (by omega)
   by_cases h2:qfp xs d i<4
   ·exact qiQ hx hl hi (by omega)
   by_cases h3:qfp xs d i<6
   ·exact qhJ hx hl hi (by omega)
   cases n with
   | zero=>omega
   | succ n=>
    have ih : ∀ j,0<=j/\j<=B->GIb B v xs (d-1) j:=fun j hj=>qjQ hx hl n (d-1) j (by omega) (by omega) hj
    by_cases h4:qfp xs d i<8
    ·exact qiR hx hl hi h0 (by omega) ih (by omega)
    by_cases h5:qfp xs d i=8
    ·exact qkB hx hl hi h0 (by omega) ih (by omega)
    ·exact qkC hx hl hi h0 (by omega) ih (by omega)
end Go.Pm
end SG2
section SG3
namespace Go.Pm
open F
def Ss.fine:Ss->Prop
 | .nil=>True
 | .assign _ s e r=>(s∈qnx/\e.fine/\e.ty=1)/\r.fine
 | .store _ s a b r=>(s∈qjD/\a.fine/\a.ty=1/\b.fine/\b.ty=1)/\r.fine
 | .effect _ a b r=>(a.fine/\a.ty=1/\b.fine/\b.ty=1)/\r.fine
 | .stop r=>r.fine
 | .cond false _ c (.block _ x (.block _ y .nil)) r=>(c.fine/\c.ty=2)/\x.fine/\y.fine/\r.fine
 | .cond true _ c (.block _ x .nil) r=>(c.fine/\c.ty=2)/\x.fine/\r.fine
 | _=>False
def Ss.dp:Ss->Nat
 | .nil=>0
 | .assign _ _ _ r=>r.dp
 | .store _ _ _ _ r=>r.dp
 | .effect _ _ _ r=>r.dp
 | .stop r=>r.dp
 | .cond _ _ _ b r=>max (b.dp+1) r.dp
 | .block _ b r=>max b.dp r.dp
def Ss.edp:Ss->Nat
 | .nil=>0
 | .assign _ _ e r=>max e.dp r.edp
 | .store _ _ a b r=>max (max a.dp b.dp) r.edp
 | .effect _ a b r=>max (max a.dp b.dp) r.edp
 | .stop r=>r.edp
 | .cond _ _ c b r=>max (max c.dp b.edp) r.edp
 | .block _ b r=>max b.edp r.edp
end Go.Pm
end SG3
section SG5
namespace Go.Pm
open F
def Hd.ss:Hd->Ss
 | .none => .nil
 | .some _ b=>b
structure Hd.fine (h:Hd):Prop where
 fine:h.ss.fine
 size:h.ss.fo.size<=2000
def Hd.cost:Hd->Nat
 | .none=>0
 | .some _ b=>12+b.cost
structure Hd.gen (h:Hd):Prop extends h.fine where
 f:h.f=false
 dp:h.ss.dp<=2
 edp:h.ss.edp<=3
 gsize:h.ss.fo.size<=1260
end Go.Pm
end SG5
section SF3q
namespace Go.Pm.F
variable (C:Task->Option Res) (q:Nat) (fr:Fr) (σ : S)
@[simp] def F237l0x:PC:=(.seq (.seq (rn [mv 15 6,fa 16 3 2,l1 17 16,ls 18 17,bn 19 .lss 15 18,mv 20 19,jt 21 20 (.mov (.t 6)),jt 22 20 (.bin .lss (.t 21) (kk 3)),jj 23 (.pick (.t 20) (.t 22) kF),mv 24 23,jt 25 24 (.mov (.t 1)),jt 26 24 (.bin .gtr (.t 25) (kk 0)),jj 27 (.pick (.t 24) (.t 26) kF)] [1,2,4,5,6,27]) (.cond (.t 27) (.skip) (.exit 0))) (.seq (.block 1 (.region (some []) [fa 30 3 5,⟨some 31,.load false 1 (.t 30),none,[9]⟩,fa 32 3 2,l1 33 32,mv 34 6,jj 35 (.indexAddr 4 (.t 33) (.t 34)),la 36 4 35,mv 37 1,bk 38 .sub 37 1,cl 39 237 [36,38],jj 40 (.bslice 1 [zN,zN,eN,sN] [(0,4,(.t 39))]),jj 41 (.append 4 56 (.t 31) (.t 40)),fa 42 3 5,st 1 42 41] [1,2,4,5,6] [9])) (rn [mv 28 6,bk 29 .add 28 1,mv 6 29] [1,2,4,5,6])))
def F237l0:PC:=F237l0x
theorem qbp:run C q F237l0 fr σ = run C q F237l0x fr σ := rfl
def F237:PFun:=⟨2,[.cell 4 true 4],.seq (rn [bx 2 0,jj 4 (.alloc [zN,zN,eN,sN])] [1,2,4]) (.seq (.region (some [(49,[zN,zN,eN,sN])]) [fa 7 0 2,⟨some 8,.load false 1 (.t 7),none,[6]⟩,fa 9 1 2,⟨some 10,.load false 1 (.t 9),none,[6]⟩,fa 11 2 2,l1 12 11,jj 13 (.call 225 [(.t 12),(kk 5)]),jj 14 (.build [zN,zN,eN,sN] [(0,1,(.t 8)),(1,1,(.t 10)),(2,1,(.t 13))]),⟨some 5,.fill 49,none,[6]⟩,st 4 5 14] [1,2,4,5]) (.seq (.seq (rn [mx 6 (kk 0)] [1,2,4,5,6]) (.block 0 (.loop F237l0))) (.seq (rn [la 43 4 5,st 4 4 43] [4]) (.ret)))),false,false,false⟩
@[simp] def F238l0x:PC:=(.seq (.seq (rn [mv 34 5,fa 35 3 2,l1 36 35,ls 37 36,bn 38 .lss 34 37] [2,3,5,38]) (.cond (.t 38) (.skip) (.exit 0))) (.seq (.block 1 (.seq (.region (some []) [fa 41 3 2,l1 42 41,mv 43 5,jj 44 (.indexAddr 4 (.t 42) (.t 43)),la 45 4 44,fa 46 3 3,l1 47 46,mv 48 5,jj 49 (.indexAddr 4 (.t 47) (.t 48)),la 50 4 49,cl 51 238 [45,50],jj 52 (.un .not (.t 51))] [2,3,5,52] [10]) (.cond (.t 52) (.seq (rn [mx 4 kF] [4]) (.ret)) (.skip)))) (rn [mv 39 5,bk 40 .add 39 1,mv 5 40] [2,3,5])))
def F238l0:PC:=F238l0x
theorem qcW:run C q F238l0 fr σ = run C q F238l0x fr σ := rfl
def F238:PFun:=⟨2,[.tmp 4],.seq (rn [bx 2 0,bx 3 1,mx 4 kF] [2,3]) (.seq (.seq (rn [fa 6 0 2,l1 7 6,fa 8 0 3,l1 9 8,bn 10 .neq 7 9,mv 11 10,jf 12 11 (.fieldAddr 1 (.t 2)),jf 13 11 (.load false 1 (.t 12)),jf 14 11 (.fieldAddr 1 (.t 3)),jf 15 11 (.load false 1 (.t 14)),jf 16 11 (.bin .neq (.t 13) (.t 15)),jj 17 (.pick (.t 11) kT (.t 16)),mv 18 17,jf 19 18 (.fieldAddr 2 (.t 2)),jf 20 18 (.load false 1 (.t 19)),jf 21 18 (.fieldAddr 2 (.t 3)),jf 22 18 (.load false 1 (.t 21)),jf 23 18 (.bin .neq (.t 20) (.t 22)),jj 24 (.pick (.t 18) kT (.t 23)),mv 25 24,jf 26 25 (.fieldAddr 3 (.t 2)),jf 27 25 (.load false 1 (.t 26)),jf 28 25 (.len .sl (.t 27)),jf 29 25 (.fieldAddr 3 (.t 3)),jf 30 25 (.load false 1 (.t 29)),jf 31 25 (.len .sl (.t 30)),jf 32 25 (.bin .neq (.t 28) (.t 31)),jj 33 (.pick (.t 25) kT (.t 32))] [2,3,33]) (.cond (.t 33) (.seq (rn [mx 4 kF] [4]) (.ret)) (.skip))) (.seq (.seq (rn [mx 5 (kk 0)] [2,3,5]) (.block 0 (.loop F238l0))) (.seq (rn [mx 4 kT] [4]) (.ret)))),false,false,false⟩
end Go.Pm.F
end SF3q
section SFLaw13
namespace Go.Pm.F
variable (C:Task->Option Res) (q:Nat) (fr:Fr) (σ : S)
@[simp] def F223l1x:PC:=(.seq (.seq (rn [mv 51 17,mv 52 15,ls 53 52,bn 54 .lss 51 53] [15,16,17,54]) (.cond (.t 54) (.skip) (.exit 2))) (.seq (.block 3 (.seq (.region (some []) [mv 57 15,mv 58 16,jj 59 (.indexAddr 4 (.t 57) (.t 58)),la 60 4 59,mv 61 15,mv 62 17,jj 63 (.indexAddr 4 (.t 61) (.t 62)),la 64 4 63,cl 65 235 [60,64],mv 66 15,mv 67 16,jj 68 (.indexAddr 4 (.t 66) (.t 67)),⟨some 69,.load true 4 (.t 68),none,[8]⟩,mv 70 15,mv 71 17,jj 72 (.indexAddr 4 (.t 70) (.t 71)),⟨some 73,.load true 4 (.t 72),none,[8]⟩,cl 74 238 [69,73],jj 75 (.eqb true (.t 65) (.t 74)),mv 76 75,jf 77 76 (.mov (.t 15)),jf 78 76 (.mov (.t 16)),jf 79 76 (.indexAddr 4 (.t 77) (.t 78)),jf 80 76 (.load true 4 (.t 79)),jf 81 76 (.mov (.t 15)),jf 82 76 (.mov (.t 17)),jf 83 76 (.indexAddr 4 (.t 81) (.t 82)),jf 84 76 (.load true 4 (.t 83)),jf 85 76 (.call 235 [(.t 80),(.t 84)]),jf 86 76 (.mov (.t 15)),jf 87 76 (.mov (.t 17)),jf 88 76 (.indexAddr 4 (.t 86) (.t 87)),⟨some 89,.load true 4 (.t 88),some (76,false),[28]⟩,jf 90 76 (.mov (.t 15)),jf 91 76 (.mov (.t 16)),jf 92 76 (.indexAddr 4 (.t 90) (.t 91)),⟨some 93,.load true 4 (.t 92),some (76,false),[28]⟩,jf 94 76 (.call 235 [(.t 89),(.t 93)]),jf 95 76 (.eqb true (.t 85) (.t 94)),jj 96 (.pick (.t 76) kT (.t 95))] [15,16,17,96] [17,37]) (.cond (.t 96) (.seq (rn [mx 8 kF] [8]) (.ret)) (.skip)))) (rn [mv 55 17,bk 56 .add 55 1,mv 17 56] [15,16,17])))
def F223l1:PC:=F223l1x
theorem qfa:run C q F223l1 fr σ = run C q F223l1x fr σ := rfl
@[simp] def F223l0x:PC:=(.seq (.seq (rn [mv 45 16,mv 46 15,ls 47 46,bn 48 .lss 45 47] [15,16,48]) (.cond (.t 48) (.skip) (.exit 0))) (.seq (.block 1 (.seq (.seq (rn [mx 17 (kk 0)] [15,16,17]) (.block 2 (.loop F223l1))) (.seq (.region (some []) [mv 97 15,mv 98 16,jj 99 (.indexAddr 4 (.t 97) (.t 98)),la 100 4 99,mv 101 15,mv 102 16,jj 103 (.indexAddr 4 (.t 101) (.t 102)),la 104 4 103,cl 105 235 [100,104],jj 106 (.un .not (.t 105))] [15,16,106] [8]) (.cond (.t 106) (.seq (rn [mx 8 kF] [8]) (.ret)) (.skip))))) (rn [mv 49 16,bk 50 .add 49 1,mv 16 50] [15,16])))
def F223l0:PC:=F223l0x
theorem qfb:run C q F223l0 fr σ = run C q F223l0x fr σ := rfl
def F223:PFun:=⟨4,[.tmp 8],.seq (rn [bx 4 0,bx 5 1,mx 8 kF] [2,3,4,5]) (.seq (rn [la 18 4 4,jj 19 (.call 237 [(.t 18),(kk 3)]),jj 9 (.alloc [zN,zN,eN,sN]),st 4 9 19] [2,3,5,9]) (.seq (rn [la 20 4 5,jj 21 (.call 237 [(.t 20),(kk 3)]),jj 10 (.alloc [zN,zN,eN,sN]),st 4 10 21] [2,3,9,10]) (.seq (rn [mv 22 2,jj 23 (.build [sN,zN] [(0,1,(.t 22))]),bx 24 23,mv 11 24] [3,9,10,11]) (.seq (rn [mv 25 3,jj 26 (.build [sN,zN] [(0,1,(.t 25))]),bx 27 26,mv 12 27] [9,10,11,12]) (.seq (rn [mv 28 11,jj 29 (.call 177 [(.t 28),(kk 3)]),jj 13 (.alloc [zN,zN,eN,sN]),st 4 13 29] [9,10,12,13]) (.seq (rn [mv 30 12,jj 31 (.call 177 [(.t 30),(kk 3)]),jj 14 (.alloc [zN,zN,eN,sN]),st 4 14 31] [9,10,13,14]) (.seq (rn [la 32 4 9,la 33 4 10,la 34 4 13,la 35 4 14,la 36 4 9,la 37 4 13,jj 38 (.bslice 2 [zN,zN,eN,sN,zN,zN,eN,sN] [(0,4,(.t 36)),(4,4,(.t 37))]),jj 39 (.build [zN,zN,eN,sN] [(0,1,(kk 7)),(3,1,(.t 38))]),la 40 4 9,la 41 4 14,jj 42 (.bslice 2 [zN,zN,eN,sN,zN,zN,eN,sN] [(0,4,(.t 40)),(4,4,(.t 41))]),jj 43 (.build [zN,zN,eN,sN] [(0,1,(kk 7)),(3,1,(.t 42))]),jj 44 (.bslice 6 [zN,zN,eN,sN,zN,zN,eN,sN,zN,zN,eN,sN,zN,zN,eN,sN,zN,zN,eN,sN,zN,zN,eN,sN] [(0,4,(.t 32)),(4,4,(.t 33)),(8,4,(.t 34)),(12,4,(.t 35)),(16,4,(.t 39)),(20,4,(.t 43))]),mv 15 44] [15]) (.seq (.seq (rn [mx 16 (kk 0)] [15,16]) (.block 0 (.loop F223l0))) (.seq (rn [jj 107 (.call 229 []),mv 8 107] [8]) (.ret)))))))))),false,false,false⟩
def F229:PFun:=⟨0,[.tmp 0],.seq (rn [mx 0 kF] []) (.seq (rn [jj 8 (.call 228 [(.c (.string ⟨#[111,110,32,116,105,99,107,123,120,91,48,93,61,49,43,50,42,118,59,125]⟩))]),mv 7 8,ex 9 7 0,ex 10 7 1,ex 11 7 2,jj 1 (.alloc [zN,zN,eN,sN,zN,zN,eN,sN,zN,zN,eN,sN]),st 12 1 9,mv 2 10,mv 3 11] [1,2,3]) (.seq (rn [jj 13 (.call 228 [(.c (.string ⟨#[111,110,32,97,99,116,32,123,32,115,116,111,112,32,125]⟩))]),mv 12 13,ex 14 12 0,ex 15 12 1,ex 16 12 2,jj 4 (.alloc [zN,zN,eN,sN,zN,zN,eN,sN,zN,zN,eN,sN]),st 12 4 14,mv 5 15,mv 6 16] [1,2,3,5,6]) (.seq (.seq (rn [fa 17 0 1,jj 18 (.indexAddrA 3 4 (.t 17) (kk 1)),fa 19 3 18,l1 20 19,ls 21 20,bk 22 .neq 21 1] [1,2,3,5,6,22]) (.cond (.t 22) (.seq (rn [mx 0 kF] [0]) (.ret)) (.skip))) (.seq (rn [mv 23 2,bk 24 .eql 23 0,mv 25 24,jt 26 25 (.mov (.t 3)),jt 27 25 (.bin .eql (.t 26) (kk 0)),jj 28 (.pick (.t 25) (.t 27) kF),mv 29 28,jt 30 29 (.fieldAddr 0 (.t 1)),jt 31 29 (.indexAddrA 3 4 (.t 30) (kk 1)),jt 32 29 (.fieldAddr 3 (.t 31)),jt 33 29 (.load false 1 (.t 32)),jt 34 29 (.indexAddr 4 (.t 33) (kk 0)),jt 35 29 (.fieldAddr 0 (.t 34)),jt 36 29 (.load false 1 (.t 35)),jt 37 29 (.bin .eql (.t 36) (kk 2)),jj 38 (.pick (.t 29) (.t 37) kF),mv 39 38,jt 40 39 (.load true 12 (.t 1)),jt 41 39 (.call 231 [(.t 40)]),jt 42 39 (.bin .eql (.t 41) (.c (.string ⟨#[111,110,32,116,105,99,107,123,120,91,48,93,61,49,43,50,42,118,59,125]⟩))),jj 43 (.pick (.t 39) (.t 42) kF),mv 44 43,jt 45 44 (.mov (.t 5)),jt 46 44 (.bin .eql (.t 45) (kk 14)),jj 47 (.pick (.t 44) (.t 46) kF),mv 48 47,jt 49 48 (.mov (.t 6)),jt 50 48 (.bin .eql (.t 49) (kk 12)),jj 51 (.pick (.t 48) (.t 50) kF),mv 0 51] [0]) (.ret))))),false,false,false⟩
end Go.Pm.F
end SFLaw13
section STE
namespace Go.Pm.F
def tE:Nat->Option PFun
 | 235=>some F235
 | 238=>some F238
 | _=>none
end Go.Pm.F
end STE
