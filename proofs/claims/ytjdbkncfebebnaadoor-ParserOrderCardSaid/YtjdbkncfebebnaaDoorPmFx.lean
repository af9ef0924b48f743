/- The abstract machine's program, printed by a program of our own: group x. The abstract machine's programs: tables of functions. Chapter 13's printer: the builder of strings, tokens put down. Chapter 13's printer: tokens put down. The printers: levels, tokens of good trees. No program in sight. The abstract machine's program, printed by a program of our own: group 3r. The abstract machine's programs: tables of functions. Chapter 13's reference parser: letters, digits, rows of strings, numbers. Chapter 13's reference parser: white space, comments. Chapter 13's reference parser: a token. Chapter 13's reference parser: all tokens of a source. Chapter 13's reference parser: the parser's state; what it looks at, takes, expects. Chapter 13's reference parser: its states, good and behind an error, against the plain tokens. Chapter 13's reference parser: each kind of statement. Chapter 13's reference parser: handlers; a whole source. Chapter 13's reference parser: Parse is the plain one. The rule language in plain Lean: texts of tokens; tokens left out; how long a source is. No program in sight. -/
import Derived.Test.YtjdbkncfebebnaaDoorPmYh
import Derived.Test.YtjdbkncfebebnaaDoorPmF3
import Derived.Test.YtjdbkncfebebnaaDoorPmEt
import Derived.Test.YtjdbkncfebebnaaDoorPmY
set_option linter.unusedSimpArgs false
set_option linter.unusedVariables false
section SFx
namespace Go.Pm.F
variable (C:Task->Option Res) (q:Nat) (fr:Fr) (σ : S)
def G_internal_strconv_uint64pow10:List D:=(List.range 20).map fun i => .lit (.int .u64 (10 ^ i:Nat))
def F245:PFun:=⟨1,[.tmp 2],.seq (rn [jj 2 (.mov (.c (.string ⟨#[]⟩)))] [0]) (.seq (.region (some []) [mv 3 0,nc 4 3,fa 5 1 4,l1 6 5,jj 7 (.usd (.t 6)),mv 8 0,nc 9 8,fa 10 1 9,l1 11 10,ls 12 11,jj 13 (.ustr [3] (.t 7) (.t 12)),mv 2 13] [2]) (.ret)),false,false,false⟩
def F258:PFun:=⟨2,[.tmp 4],.seq (rn [jj 4 (.mov (.c .nilIface))] [0,1]) (.seq (rn [mv 5 0,cl 6 272 [5]] [0,1]) (.seq (rn [mv 7 0,mv 8 0,nc 9 8,fa 10 1 9,l1 11 10,mv 12 1,jj 13 (.bsliceO 1 1 [(.lit (.int .u8 0))] [(0,1,(.t 12))]),jj 14 (.appendT 3 1 1 (.t 11) (.t 13)),nc 15 7,fa 16 1 15,st 1 16 14] []) (.seq (rn [jj 4 (.mov (.c .nilIface))] [4]) (.ret)))),false,false,false⟩
def F259:PFun:=⟨2,[.tmp 4,.tmp 5],.seq (rn [mx 4 (kk 0),jj 5 (.mov (.c .nilIface))] [0,1]) (.seq (rn [mv 6 0,cl 7 272 [6]] [0,1]) (.seq (rn [mv 8 0,mv 9 0,nc 10 9,fa 11 1 10,l1 12 11,mv 13 1,jj 14 (.appendT 3 1 1 (.t 12) (.t 13)),nc 15 8,fa 16 1 15,st 1 16 14] [1]) (.seq (rn [mv 17 1,lz 18 17,mv 4 18,jj 5 (.mov (.c .nilIface))] [4,5]) (.ret)))),false,false,false⟩
def F268:PFun:=⟨2,[.tmp 4],.seq (rn [mx 4 (kk 0)] [0,1]) (.seq (rn [mv 5 0,mv 6 1,cl 7 275 [5,6],mv 4 7] [4]) (.ret)),false,false,false⟩
def F272:PFun:=⟨1,[],.seq (rn [mv 2 0,nc 3 2,fa 4 0 3,l1 5 4,jj 6 (.isnil true false (.t 5))] [0,6]) (.cond (.t 6) (rn [mv 7 0,mv 8 0,jj 9 (.up (.t 8)),mv 10 9,jj 11 (.down [(4,3)] (.t 10)),nc 12 7,fa 13 0 12,st 1 13 11] []) (.seq (rn [mv 14 0,nc 15 14,fa 16 0 15,l1 17 16,mv 18 0,jj 19 (.peq true (.t 17) (.t 18))] [19]) (.cond (.t 19) (.cond (.c .nilIface) (.skip) (.skip)) (.skip)))),false,false,false⟩
def F275:PFun:=⟨2,[.tmp 4],.seq (rn [mx 4 (kk 0)] [0,1]) (.seq (rn [mv 5 0,mv 6 1,jj 7 (.idxb (.t 5) (.t 6)),mv 4 7] [4]) (.ret)),false,false,false⟩
def F276:PFun:=⟨2,[.tmp 4],.seq (rn [mx 4 kF] [0,1]) (.seq (rn [mv 5 0,mv 6 1,cl 7 284 [5,6],bk 8 .geq 7 0,mv 4 8] [4]) (.ret)),false,false,false⟩
def F283:PFun:=⟨1,[.tmp 2],.seq (rn [jj 2 (.mov (.c (.string ⟨#[]⟩)))] [0]) (.seq (rn [mv 3 0,cl 4 288 [3],mv 2 4] [2]) (.ret)),false,false,false⟩
@[simp] def F284l0x:PC:=(.seq (rn [bn 9 .lss 8 7] [0,1,7,8,9]) (.seq (.cond (.t 9) (.skip) (.exit 0)) (.seq (.block 1 (.seq (rn [mv 10 8,mv 5 10] [0,1,5,7,8]) (.seq (rn [mv 11 1,mv 12 0,mv 13 5,jj 14 (.indexAddr 1 (.t 12) (.t 13)),l1 15 14,bn 16 .eql 11 15] [0,1,5,7,8,16]) (.cond (.t 16) (.seq (rn [mv 17 5,mv 4 17] [4]) (.ret)) (.skip))))) (rn [bk 18 .add 8 1,mv 8 18] [0,1,7,8]))))
def F284l0:PC:=F284l0x
theorem qeP:run C q F284l0 fr σ = run C q F284l0x fr σ := rfl
def F284:PFun:=⟨2,[.tmp 4],.seq (rn [mx 4 (kk 0)] [0,1]) (.seq (.seq (rn [mv 6 0,ls 7 6,mx 8 (kk 0)] [0,1,7,8]) (.block 0 (.loop F284l0))) (.seq (rn [mx 4 (kk (-1))] [4]) (.ret))),false,false,false⟩
def F288:PFun:=⟨1,[.tmp 2],.seq (rn [jj 2 (.mov (.c (.string ⟨#[]⟩)))] [0]) (.seq (rn [mv 3 0,jj 4 (.call 291 [(.t 3),(kk 10)]),mv 2 4] [2]) (.ret)),false,false,false⟩
def F291:PFun:=⟨2,[.tmp 4],.seq (rn [jj 4 (.mov (.c (.string ⟨#[]⟩)))] [0,1]) (.seq (.seq (rn [mv 10 1,bk 11 .eql 10 10] [0,1,11]) (.cond (.t 11) (.seq (.seq (rn [mv 12 0,jj 13 (.bin .leq (kk 0) (.t 12)),mv 14 13,jt 15 14 (.mov (.t 0)),jt 16 14 (.bin .lss (.t 15) (kk 100)),jj 17 (.pick (.t 14) (.t 16) kF)] [0,17]) (.cond (.t 17) (.seq (rn [mv 18 0,cl 19 293 [18],mv 4 19] [4]) (.ret)) (.skip))) (.seq (rn [jj 5 (.alloc [(.lit (.int .u8 0)),(.lit (.int .u8 0)),(.lit (.int .u8 0)),(.lit (.int .u8 0)),(.lit (.int .u8 0)),(.lit (.int .u8 0)),(.lit (.int .u8 0)),(.lit (.int .u8 0)),(.lit (.int .u8 0)),(.lit (.int .u8 0)),(.lit (.int .u8 0)),(.lit (.int .u8 0)),(.lit (.int .u8 0)),(.lit (.int .u8 0)),(.lit (.int .u8 0)),(.lit (.int .u8 0)),(.lit (.int .u8 0)),(.lit (.int .u8 0)),(.lit (.int .u8 0)),(.lit (.int .u8 0)),(.lit (.int .u8 0)),(.lit (.int .u8 0)),(.lit (.int .u8 0)),(.lit (.int .u8 0))])] [0,5]) (.seq (rn [mv 20 0,jj 21 (.conv (.int .u64) (.t 20)),mv 6 21] [0,5,6]) (.seq (.seq (rn [mv 22 0,bk 23 .lss 22 0] [0,5,6,23]) (.cond (.t 23) (rn [mv 24 6,jj 25 (.un .neg (.t 24)),mv 6 25] [0,5,6]) (.skip))) (.seq (rn [mv 26 6,cl 27 294 [26],mv 7 27] [0,5,6,7]) (.seq (rn [mv 28 7,jj 29 (.bin .add (kk 1) (.t 28)),jj 30 (.sliceA 24 1 (.t 5) (some (kk 1)) (some (.t 29))),mv 31 6,cl 32 295 [30,31]] [0,5,7]) (.seq (.seq (rn [mv 33 0,bk 34 .lss 33 0] [5,7,34]) (.cond (.t 34) (.seq (rn [jj 35 (.indexAddrA 24 1 (.t 5) (kk 0)),jn (.store 1 (.t 35) (.c (.int .u8 45)))] [5,7]) (.seq (rn [mv 36 7,jj 37 (.bin .add (kk 1) (.t 36)),jj 38 (.sliceA 24 1 (.t 5) none (some (.t 37))),jj 39 (.bstr (.t 38)),mv 4 39] [4]) (.ret))) (.skip))) (.seq (rn [mv 40 7,jj 41 (.bin .add (kk 1) (.t 40)),jj 42 (.sliceA 24 1 (.t 5) (some (kk 1)) (some (.t 41))),jj 43 (.bstr (.t 42)),mv 4 43] [4]) (.ret))))))))) (.skip))) (.seq (rn [mv 45 0,jj 46 (.conv (.int .u64) (.t 45)),mv 47 1,mv 48 0,bk 49 .lss 48 0,jj 50 (.call 296 [(.c (.slice none 0 0)),(.t 46),(.t 47),(.t 49),kF]),mv 44 50,ex 51 44 0,ex 52 44 1,mv 8 51,mv 9 52] [9]) (.seq (rn [mv 53 9,mv 4 53] [4]) (.ret)))),false,false,false⟩
def F293:PFun:=⟨1,[.tmp 2],.seq (rn [jj 2 (.mov (.c (.string ⟨#[]⟩)))] [0]) (.seq (.seq (rn [mv 3 0,bk 4 .lss 3 10] [0,4]) (.cond (.t 4) (.seq (rn [mv 5 0,mv 6 0,bk 7 .add 6 1,jj 8 (.sliceS (.c (.string ⟨#[48,49,50,51,52,53,54,55,56,57,97,98,99,100,101,102,103,104,105,106,107,108,109,110,111,112,113,114,115,116,117,118,119,120,121,122]⟩)) (some (.t 5)) (some (.t 7))),mv 2 8] [2]) (.ret)) (.skip))) (.seq (rn [mv 9 0,bk 10 .mul 9 2,mv 11 0,bk 12 .mul 11 2,bk 13 .add 12 2,jj 14 (.sliceS (.c (.string ⟨#[48,48,48,49,48,50,48,51,48,52,48,53,48,54,48,55,48,56,48,57,49,48,49,49,49,50,49,51,49,52,49,53,49,54,49,55,49,56,49,57,50,48,50,49,50,50,50,51,50,52,50,53,50,54,50,55,50,56,50,57,51,48,51,49,51,50,51,51,51,52,51,53,51,54,51,55,51,56,51,57,52,48,52,49,52,50,52,51,52,52,52,53,52,54,52,55,52,56,52,57,53,48,53,49,53,50,53,51,53,52,53,53,53,54,53,55,53,56,53,57,54,48,54,49,54,50,54,51,54,52,54,53,54,54,54,55,54,56,54,57,55,48,55,49,55,50,55,51,55,52,55,53,55,54,55,55,55,56,55,57,56,48,56,49,56,50,56,51,56,52,56,53,56,54,56,55,56,56,56,57,57,48,57,49,57,50,57,51,57,52,57,53,57,54,57,55,57,56,57,57]⟩)) (some (.t 10)) (some (.t 13))),mv 2 14] [2]) (.ret))),false,false,false⟩
def F294:PFun:=⟨1,[.tmp 2],.seq (rn [mx 2 (kk 0)] [0]) (.seq (rn [mv 4 0,cl 5 299 [4],cl 6 298 [5],mv 3 6] [0,3]) (.seq (rn [mv 7 3,mv 8 0,mv 9 3,jj 10 (.indexAddrA 20 1 (.g G_internal_strconv_uint64pow10) (.t 9)),l1 11 10,bn 12 .geq 8 11,cl 13 300 [12],bn 14 .add 7 13,mv 2 14] [2]) (.ret))),false,false,false⟩
@[simp] def F295l0x:PC:=(.seq (.seq (rn [mv 19 4,bk 20 .geq 19 8] [0,1,4,20]) (.cond (.t 20) (.skip) (.exit 0))) (.block 1 (.seq (rn [mv 21 1,jj 22 (.bin .rem (.t 21) (.c (.int .u64 100000000))),jj 23 (.conv (.int .u32) (.t 22)),mv 5 23] [0,1,4,5]) (.seq (rn [mv 24 1,jj 25 (.bin .quo (.t 24) (.c (.int .u64 100000000))),mv 1 25] [0,1,4,5]) (.seq (rn [mv 26 5,jj 27 (.bin .quo (.t 26) (.c (.int .u32 10000))),mv 28 5,jj 29 (.bin .rem (.t 28) (.c (.int .u32 10000))),mv 6 27,mv 7 29] [0,1,4,6,7]) (.seq (rn [mv 30 7,jj 31 (.bin .quo (.t 30) (.c (.int .u32 100))),jj 32 (.bin .mul (.t 31) (.c (.int .u32 2))),mv 33 7,jj 34 (.bin .rem (.t 33) (.c (.int .u32 100))),jj 35 (.bin .mul (.t 34) (.c (.int .u32 2))),mv 8 32,mv 9 35] [0,1,4,6,8,9]) (.seq (rn [mv 36 6,jj 37 (.bin .quo (.t 36) (.c (.int .u32 100))),jj 38 (.bin .mul (.t 37) (.c (.int .u32 2))),mv 39 6,jj 40 (.bin .rem (.t 39) (.c (.int .u32 100))),jj 41 (.bin .mul (.t 40) (.c (.int .u32 2))),mv 10 38,mv 11 41] [0,1,4,8,9,10,11]) (.seq (.region (some []) [mv 42 0,mv 43 4,bk 44 .sub 43 1,mv 45 0,mv 46 4,bk 47 .sub 46 2,mv 48 9,jj 49 (.bin .add (.t 48) (.c (.int .u32 1))),jj 50 (.indexS (.c (.string ⟨#[48,48,48,49,48,50,48,51,48,52,48,53,48,54,48,55,48,56,48,57,49,48,49,49,49,50,49,51,49,52,49,53,49,54,49,55,49,56,49,57,50,48,50,49,50,50,50,51,50,52,50,53,50,54,50,55,50,56,50,57,51,48,51,49,51,50,51,51,51,52,51,53,51,54,51,55,51,56,51,57,52,48,52,49,52,50,52,51,52,52,52,53,52,54,52,55,52,56,52,57,53,48,53,49,53,50,53,51,53,52,53,53,53,54,53,55,53,56,53,57,54,48,54,49,54,50,54,51,54,52,54,53,54,54,54,55,54,56,54,57,55,48,55,49,55,50,55,51,55,52,55,53,55,54,55,55,55,56,55,57,56,48,56,49,56,50,56,51,56,52,56,53,56,54,56,55,56,56,56,57,57,48,57,49,57,50,57,51,57,52,57,53,57,54,57,55,57,56,57,57]⟩)) (.t 49)),mv 51 9,jj 52 (.indexS (.c (.string ⟨#[48,48,48,49,48,50,48,51,48,52,48,53,48,54,48,55,48,56,48,57,49,48,49,49,49,50,49,51,49,52,49,53,49,54,49,55,49,56,49,57,50,48,50,49,50,50,50,51,50,52,50,53,50,54,50,55,50,56,50,57,51,48,51,49,51,50,51,51,51,52,51,53,51,54,51,55,51,56,51,57,52,48,52,49,52,50,52,51,52,52,52,53,52,54,52,55,52,56,52,57,53,48,53,49,53,50,53,51,53,52,53,53,53,54,53,55,53,56,53,57,54,48,54,49,54,50,54,51,54,52,54,53,54,54,54,55,54,56,54,57,55,48,55,49,55,50,55,51,55,52,55,53,55,54,55,55,55,56,55,57,56,48,56,49,56,50,56,51,56,52,56,53,56,54,56,55,56,56,56,57,57,48,57,49,57,50,57,51,57,52,57,53,57,54,57,55,57,56,57,57]⟩)) (.t 51)),jj 53 (.indexAddr 1 (.t 42) (.t 44)),st 1 53 50,jj 54 (.indexAddr 1 (.t 45) (.t 47)),st 1 54 52] [0,1,4,8,10,11]) (.seq (.region (some []) [mv 55 0,mv 56 4,bk 57 .sub 56 3,mv 58 0,mv 59 4,bk 60 .sub 59 4,mv 61 8,jj 62 (.bin .add (.t 61) (.c (.int .u32 1))),jj 63 (.indexS (.c (.string ⟨#[48,48,48,49,48,50,48,51,48,52,48,53,48,54,48,55,48,56,48,57,49,48,49,49,49,50,49,51,49,52,49,53,49,54,49,55,49,56,49,57,50,48,50,49,50,50,50,51,50,52,50,53,50,54,50,55,50,56,50,57,51,48,51,49,51,50,51,51,51,52,51,53,51,54,51,55,51,56,51,57,52,48,52,49,52,50,52,51,52,52,52,53,52,54,52,55,52,56,52,57,53,48,53,49,53,50,53,51,53,52,53,53,53,54,53,55,53,56,53,57,54,48,54,49,54,50,54,51,54,52,54,53,54,54,54,55,54,56,54,57,55,48,55,49,55,50,55,51,55,52,55,53,55,54,55,55,55,56,55,57,56,48,56,49,56,50,56,51,56,52,56,53,56,54,56,55,56,56,56,57,57,48,57,49,57,50,57,51,57,52,57,53,57,54,57,55,57,56,57,57]⟩)) (.t 62)),mv 64 8,jj 65 (.indexS (.c (.string ⟨#[48,48,48,49,48,50,48,51,48,52,48,53,48,54,48,55,48,56,48,57,49,48,49,49,49,50,49,51,49,52,49,53,49,54,49,55,49,56,49,57,50,48,50,49,50,50,50,51,50,52,50,53,50,54,50,55,50,56,50,57,51,48,51,49,51,50,51,51,51,52,51,53,51,54,51,55,51,56,51,57,52,48,52,49,52,50,52,51,52,52,52,53,52,54,52,55,52,56,52,57,53,48,53,49,53,50,53,51,53,52,53,53,53,54,53,55,53,56,53,57,54,48,54,49,54,50,54,51,54,52,54,53,54,54,54,55,54,56,54,57,55,48,55,49,55,50,55,51,55,52,55,53,55,54,55,55,55,56,55,57,56,48,56,49,56,50,56,51,56,52,56,53,56,54,56,55,56,56,56,57,57,48,57,49,57,50,57,51,57,52,57,53,57,54,57,55,57,56,57,57]⟩)) (.t 64)),jj 66 (.indexAddr 1 (.t 55) (.t 57)),st 1 66 63,jj 67 (.indexAddr 1 (.t 58) (.t 60)),st 1 67 65] [0,1,4,10,11]) (.seq (.region (some []) [mv 68 0,mv 69 4,bk 70 .sub 69 5,mv 71 0,mv 72 4,bk 73 .sub 72 6,mv 74 11,jj 75 (.bin .add (.t 74) (.c (.int .u32 1))),jj 76 (.indexS (.c (.string ⟨#[48,48,48,49,48,50,48,51,48,52,48,53,48,54,48,55,48,56,48,57,49,48,49,49,49,50,49,51,49,52,49,53,49,54,49,55,49,56,49,57,50,48,50,49,50,50,50,51,50,52,50,53,50,54,50,55,50,56,50,57,51,48,51,49,51,50,51,51,51,52,51,53,51,54,51,55,51,56,51,57,52,48,52,49,52,50,52,51,52,52,52,53,52,54,52,55,52,56,52,57,53,48,53,49,53,50,53,51,53,52,53,53,53,54,53,55,53,56,53,57,54,48,54,49,54,50,54,51,54,52,54,53,54,54,54,55,54,56,54,57,55,48,55,49,55,50,55,51,55,52,55,53,55,54,55,55,55,56,55,57,56,48,56,49,56,50,56,51,56,52,56,53,56,54,56,55,56,56,56,57,57,48,57,49,57,50,57,51,57,52,57,53,57,54,57,55,57,56,57,57]⟩)) (.t 75)),mv 77 11,jj 78 (.indexS (.c (.string ⟨#[48,48,48,49,48,50,48,51,48,52,48,53,48,54,48,55,48,56,48,57,49,48,49,49,49,50,49,51,49,52,49,53,49,54,49,55,49,56,49,57,50,48,50,49,50,50,50,51,50,52,50,53,50,54,50,55,50,56,50,57,51,48,51,49,51,50,51,51,51,52,51,53,51,54,51,55,51,56,51,57,52,48,52,49,52,50,52,51,52,52,52,53,52,54,52,55,52,56,52,57,53,48,53,49,53,50,53,51,53,52,53,53,53,54,53,55,53,56,53,57,54,48,54,49,54,50,54,51,54,52,54,53,54,54,54,55,54,56,54,57,55,48,55,49,55,50,55,51,55,52,55,53,55,54,55,55,55,56,55,57,56,48,56,49,56,50,56,51,56,52,56,53,56,54,56,55,56,56,56,57,57,48,57,49,57,50,57,51,57,52,57,53,57,54,57,55,57,56,57,57]⟩)) (.t 77)),jj 79 (.indexAddr 1 (.t 68) (.t 70)),st 1 79 76,jj 80 (.indexAddr 1 (.t 71) (.t 73)),st 1 80 78] [0,1,4,10]) (.seq (.region (some []) [mv 81 0,mv 82 4,bk 83 .sub 82 7,mv 84 0,mv 85 4,bk 86 .sub 85 8,mv 87 10,jj 88 (.bin .add (.t 87) (.c (.int .u32 1))),jj 89 (.indexS (.c (.string ⟨#[48,48,48,49,48,50,48,51,48,52,48,53,48,54,48,55,48,56,48,57,49,48,49,49,49,50,49,51,49,52,49,53,49,54,49,55,49,56,49,57,50,48,50,49,50,50,50,51,50,52,50,53,50,54,50,55,50,56,50,57,51,48,51,49,51,50,51,51,51,52,51,53,51,54,51,55,51,56,51,57,52,48,52,49,52,50,52,51,52,52,52,53,52,54,52,55,52,56,52,57,53,48,53,49,53,50,53,51,53,52,53,53,53,54,53,55,53,56,53,57,54,48,54,49,54,50,54,51,54,52,54,53,54,54,54,55,54,56,54,57,55,48,55,49,55,50,55,51,55,52,55,53,55,54,55,55,55,56,55,57,56,48,56,49,56,50,56,51,56,52,56,53,56,54,56,55,56,56,56,57,57,48,57,49,57,50,57,51,57,52,57,53,57,54,57,55,57,56,57,57]⟩)) (.t 88)),mv 90 10,jj 91 (.indexS (.c (.string ⟨#[48,48,48,49,48,50,48,51,48,52,48,53,48,54,48,55,48,56,48,57,49,48,49,49,49,50,49,51,49,52,49,53,49,54,49,55,49,56,49,57,50,48,50,49,50,50,50,51,50,52,50,53,50,54,50,55,50,56,50,57,51,48,51,49,51,50,51,51,51,52,51,53,51,54,51,55,51,56,51,57,52,48,52,49,52,50,52,51,52,52,52,53,52,54,52,55,52,56,52,57,53,48,53,49,53,50,53,51,53,52,53,53,53,54,53,55,53,56,53,57,54,48,54,49,54,50,54,51,54,52,54,53,54,54,54,55,54,56,54,57,55,48,55,49,55,50,55,51,55,52,55,53,55,54,55,55,55,56,55,57,56,48,56,49,56,50,56,51,56,52,56,53,56,54,56,55,56,56,56,57,57,48,57,49,57,50,57,51,57,52,57,53,57,54,57,55,57,56,57,57]⟩)) (.t 90)),jj 92 (.indexAddr 1 (.t 81) (.t 83)),st 1 92 89,jj 93 (.indexAddr 1 (.t 84) (.t 86)),st 1 93 91] [0,1,4]) (rn [mv 94 4,bk 95 .sub 94 8,mv 4 95] [0,1,4]))))))))))))
def F295l0:PC:=F295l0x
def F295:PFun:=⟨2,[],.seq (rn [mv 17 0,ls 18 17,mv 4 18] [0,1,4]) (.seq (.block 0 (.loop F295l0)) (.seq (rn [mv 96 1,jj 97 (.conv (.int .u32) (.t 96)),mv 12 97] [0,4,12]) (.seq (.seq (rn [mv 98 4,bk 99 .geq 98 4] [0,4,12,99]) (.cond (.t 99) (.seq (rn [mv 100 12,jj 101 (.bin .rem (.t 100) (.c (.int .u32 10000))),mv 13 101] [0,4,12,13]) (.seq (rn [mv 102 12,jj 103 (.bin .quo (.t 102) (.c (.int .u32 10000))),mv 12 103] [0,4,12,13]) (.seq (rn [mv 104 13,jj 105 (.bin .quo (.t 104) (.c (.int .u32 100))),jj 106 (.bin .mul (.t 105) (.c (.int .u32 2))),mv 107 13,jj 108 (.bin .rem (.t 107) (.c (.int .u32 100))),jj 109 (.bin .mul (.t 108) (.c (.int .u32 2))),mv 14 106,mv 15 109] [0,4,12,14,15]) (.seq (.region (some []) [mv 110 0,mv 111 4,bk 112 .sub 111 1,mv 113 0,mv 114 4,bk 115 .sub 114 2,mv 116 15,jj 117 (.bin .add (.t 116) (.c (.int .u32 1))),jj 118 (.indexS (.c (.string ⟨#[48,48,48,49,48,50,48,51,48,52,48,53,48,54,48,55,48,56,48,57,49,48,49,49,49,50,49,51,49,52,49,53,49,54,49,55,49,56,49,57,50,48,50,49,50,50,50,51,50,52,50,53,50,54,50,55,50,56,50,57,51,48,51,49,51,50,51,51,51,52,51,53,51,54,51,55,51,56,51,57,52,48,52,49,52,50,52,51,52,52,52,53,52,54,52,55,52,56,52,57,53,48,53,49,53,50,53,51,53,52,53,53,53,54,53,55,53,56,53,57,54,48,54,49,54,50,54,51,54,52,54,53,54,54,54,55,54,56,54,57,55,48,55,49,55,50,55,51,55,52,55,53,55,54,55,55,55,56,55,57,56,48,56,49,56,50,56,51,56,52,56,53,56,54,56,55,56,56,56,57,57,48,57,49,57,50,57,51,57,52,57,53,57,54,57,55,57,56,57,57]⟩)) (.t 117)),mv 119 15,jj 120 (.indexS (.c (.string ⟨#[48,48,48,49,48,50,48,51,48,52,48,53,48,54,48,55,48,56,48,57,49,48,49,49,49,50,49,51,49,52,49,53,49,54,49,55,49,56,49,57,50,48,50,49,50,50,50,51,50,52,50,53,50,54,50,55,50,56,50,57,51,48,51,49,51,50,51,51,51,52,51,53,51,54,51,55,51,56,51,57,52,48,52,49,52,50,52,51,52,52,52,53,52,54,52,55,52,56,52,57,53,48,53,49,53,50,53,51,53,52,53,53,53,54,53,55,53,56,53,57,54,48,54,49,54,50,54,51,54,52,54,53,54,54,54,55,54,56,54,57,55,48,55,49,55,50,55,51,55,52,55,53,55,54,55,55,55,56,55,57,56,48,56,49,56,50,56,51,56,52,56,53,56,54,56,55,56,56,56,57,57,48,57,49,57,50,57,51,57,52,57,53,57,54,57,55,57,56,57,57]⟩)) (.t 119)),jj 121 (.indexAddr 1 (.t 110) (.t 112)),st 1 121 118,jj 122 (.indexAddr 1 (.t 113) (.t 115)),st 1 122 120] [0,4,12,14]) (.seq (.region (some []) [mv 123 0,mv 124 4,bk 125 .sub 124 3,mv 126 0,mv 127 4,bk 128 .sub 127 4,mv 129 14,jj 130 (.bin .add (.t 129) (.c (.int .u32 1))),jj 131 (.indexS (.c (.string ⟨#[48,48,48,49,48,50,48,51,48,52,48,53,48,54,48,55,48,56,48,57,49,48,49,49,49,50,49,51,49,52,49,53,49,54,49,55,49,56,49,57,50,48,50,49,50,50,50,51,50,52,50,53,50,54,50,55,50,56,50,57,51,48,51,49,51,50,51,51,51,52,51,53,51,54,51,55,51,56,51,57,52,48,52,49,52,50,52,51,52,52,52,53,52,54,52,55,52,56,52,57,53,48,53,49,53,50,53,51,53,52,53,53,53,54,53,55,53,56,53,57,54,48,54,49,54,50,54,51,54,52,54,53,54,54,54,55,54,56,54,57,55,48,55,49,55,50,55,51,55,52,55,53,55,54,55,55,55,56,55,57,56,48,56,49,56,50,56,51,56,52,56,53,56,54,56,55,56,56,56,57,57,48,57,49,57,50,57,51,57,52,57,53,57,54,57,55,57,56,57,57]⟩)) (.t 130)),mv 132 14,jj 133 (.indexS (.c (.string ⟨#[48,48,48,49,48,50,48,51,48,52,48,53,48,54,48,55,48,56,48,57,49,48,49,49,49,50,49,51,49,52,49,53,49,54,49,55,49,56,49,57,50,48,50,49,50,50,50,51,50,52,50,53,50,54,50,55,50,56,50,57,51,48,51,49,51,50,51,51,51,52,51,53,51,54,51,55,51,56,51,57,52,48,52,49,52,50,52,51,52,52,52,53,52,54,52,55,52,56,52,57,53,48,53,49,53,50,53,51,53,52,53,53,53,54,53,55,53,56,53,57,54,48,54,49,54,50,54,51,54,52,54,53,54,54,54,55,54,56,54,57,55,48,55,49,55,50,55,51,55,52,55,53,55,54,55,55,55,56,55,57,56,48,56,49,56,50,56,51,56,52,56,53,56,54,56,55,56,56,56,57,57,48,57,49,57,50,57,51,57,52,57,53,57,54,57,55,57,56,57,57]⟩)) (.t 132)),jj 134 (.indexAddr 1 (.t 123) (.t 125)),st 1 134 131,jj 135 (.indexAddr 1 (.t 126) (.t 128)),st 1 135 133] [0,4,12]) (rn [mv 136 4,bk 137 .sub 136 4,mv 4 137] [0,4,12])))))) (.skip))) (.seq (.seq (rn [mv 138 4,bk 139 .geq 138 2] [0,4,12,139]) (.cond (.t 139) (.seq (rn [mv 140 12,jj 141 (.bin .rem (.t 140) (.c (.int .u32 100))),jj 142 (.bin .mul (.t 141) (.c (.int .u32 2))),mv 16 142] [0,4,12,16]) (.seq (rn [mv 143 12,jj 144 (.bin .quo (.t 143) (.c (.int .u32 100))),mv 12 144] [0,4,12,16]) (.seq (.region (some []) [mv 145 0,mv 146 4,bk 147 .sub 146 1,mv 148 0,mv 149 4,bk 150 .sub 149 2,mv 151 16,jj 152 (.bin .add (.t 151) (.c (.int .u32 1))),jj 153 (.indexS (.c (.string ⟨#[48,48,48,49,48,50,48,51,48,52,48,53,48,54,48,55,48,56,48,57,49,48,49,49,49,50,49,51,49,52,49,53,49,54,49,55,49,56,49,57,50,48,50,49,50,50,50,51,50,52,50,53,50,54,50,55,50,56,50,57,51,48,51,49,51,50,51,51,51,52,51,53,51,54,51,55,51,56,51,57,52,48,52,49,52,50,52,51,52,52,52,53,52,54,52,55,52,56,52,57,53,48,53,49,53,50,53,51,53,52,53,53,53,54,53,55,53,56,53,57,54,48,54,49,54,50,54,51,54,52,54,53,54,54,54,55,54,56,54,57,55,48,55,49,55,50,55,51,55,52,55,53,55,54,55,55,55,56,55,57,56,48,56,49,56,50,56,51,56,52,56,53,56,54,56,55,56,56,56,57,57,48,57,49,57,50,57,51,57,52,57,53,57,54,57,55,57,56,57,57]⟩)) (.t 152)),mv 154 16,jj 155 (.indexS (.c (.string ⟨#[48,48,48,49,48,50,48,51,48,52,48,53,48,54,48,55,48,56,48,57,49,48,49,49,49,50,49,51,49,52,49,53,49,54,49,55,49,56,49,57,50,48,50,49,50,50,50,51,50,52,50,53,50,54,50,55,50,56,50,57,51,48,51,49,51,50,51,51,51,52,51,53,51,54,51,55,51,56,51,57,52,48,52,49,52,50,52,51,52,52,52,53,52,54,52,55,52,56,52,57,53,48,53,49,53,50,53,51,53,52,53,53,53,54,53,55,53,56,53,57,54,48,54,49,54,50,54,51,54,52,54,53,54,54,54,55,54,56,54,57,55,48,55,49,55,50,55,51,55,52,55,53,55,54,55,55,55,56,55,57,56,48,56,49,56,50,56,51,56,52,56,53,56,54,56,55,56,56,56,57,57,48,57,49,57,50,57,51,57,52,57,53,57,54,57,55,57,56,57,57]⟩)) (.t 154)),jj 156 (.indexAddr 1 (.t 145) (.t 147)),st 1 156 153,jj 157 (.indexAddr 1 (.t 148) (.t 150)),st 1 157 155] [0,4,12]) (rn [mv 158 4,bk 159 .sub 158 2,mv 4 159] [0,4,12])))) (.skip))) (.seq (rn [mv 160 4,bk 161 .gtr 160 0] [0,12,161]) (.cond (.t 161) (rn [mv 162 0,mv 163 12,jj 164 (.bin .add (.c (.int .u32 48)) (.t 163)),jj 165 (.conv (.int .u8) (.t 164)),jj 166 (.indexAddr 1 (.t 162) (kk 0)),st 1 166 165] []) (.skip))))))),false,false,false⟩
def F298:PFun:=⟨1,[.tmp 2],.seq (rn [mx 2 (kk 0)] [0]) (.seq (rn [mv 3 0,bk 4 .mul 3 78913,jj 5 (.bin .shr (.t 4) (.c (.int .u64 18))),mv 2 5] [2]) (.ret)),false,false,false⟩
def F299:PFun:=⟨1,[.tmp 2],.seq (rn [mx 2 (kk 0)] [0,2]) (.seq (.seq (rn [mv 3 0,jj 4 (.bin .geq (.t 3) (.c (.int .u64 4294967296)))] [0,2,4]) (.cond (.t 4) (.seq (rn [mv 5 0,jj 6 (.bin .shr (.t 5) (.c (.int .u64 32))),mv 0 6] [0]) (rn [mx 2 (kk 32)] [0,2])) (.skip))) (.seq (.seq (rn [mv 7 0,jj 8 (.bin .geq (.t 7) (.c (.int .u64 65536)))] [0,2,8]) (.cond (.t 8) (.seq (rn [mv 9 0,jj 10 (.bin .shr (.t 9) (.c (.int .u64 16))),mv 0 10] [0,2]) (rn [mv 11 2,bk 12 .add 11 16,mv 2 12] [0,2])) (.skip))) (.seq (.seq (rn [mv 13 0,jj 14 (.bin .geq (.t 13) (.c (.int .u64 256)))] [0,2,14]) (.cond (.t 14) (.seq (rn [mv 15 0,jj 16 (.bin .shr (.t 15) (.c (.int .u64 8))),mv 0 16] [0,2]) (rn [mv 17 2,bk 18 .add 17 8,mv 2 18] [0,2])) (.skip))) (.seq (rn [mv 19 2,mv 20 0,jj 21 (.conv (.int .u8) (.t 20)),jj 22 (.indexS (.c (.string ⟨#[0,1,2,2,3,3,3,3,4,4,4,4,4,4,4,4,5,5,5,5,5,5,5,5,5,5,5,5,5,5,5,5,6,6,6,6,6,6,6,6,6,6,6,6,6,6,6,6,6,6,6,6,6,6,6,6,6,6,6,6,6,6,6,6,7,7,7,7,7,7,7,7,7,7,7,7,7,7,7,7,7,7,7,7,7,7,7,7,7,7,7,7,7,7,7,7,7,7,7,7,7,7,7,7,7,7,7,7,7,7,7,7,7,7,7,7,7,7,7,7,7,7,7,7,7,7,7,7,8,8,8,8,8,8,8,8,8,8,8,8,8,8,8,8,8,8,8,8,8,8,8,8,8,8,8,8,8,8,8,8,8,8,8,8,8,8,8,8,8,8,8,8,8,8,8,8,8,8,8,8,8,8,8,8,8,8,8,8,8,8,8,8,8,8,8,8,8,8,8,8,8,8,8,8,8,8,8,8,8,8,8,8,8,8,8,8,8,8,8,8,8,8,8,8,8,8,8,8,8,8,8,8,8,8,8,8,8,8,8,8,8,8,8,8,8,8,8,8,8,8,8,8,8,8,8,8]⟩)) (.t 21)),jj 23 (.conv (.int .i64) (.t 22)),bn 24 .add 19 23,mv 2 24] [2]) (.ret))))),false,false,false⟩
def F300:PFun:=⟨1,[.tmp 2],.seq (rn [mx 2 (kk 0)] [0]) (.seq (.seq (rn [mv 3 0] [3]) (.cond (.t 3) (.seq (rn [mx 2 (kk 1)] [2]) (.ret)) (.skip))) (.seq (rn [mx 2 (kk 0)] [2]) (.ret))),false,false,false⟩
end Go.Pm.F
end SFx
section STQ
namespace Go.Pm.F
def tQ:Nat->Option PFun
 | 231=>some F231
 | 243=>some F243
 | 244=>some F244
 | 245=>some F245
 | 257=>some F257
 | 258=>some F258
 | 259=>some F259
 | 260=>some F260
 | 264=>some F264
 | 266=>some F266
 | 272=>some F272
 | 273=>some F273
 | 274=>some F274
 | 282=>some F282
 | 283=>some F283
 | 288=>some F288
 | 291=>some F291
 | 293=>some F293
 | 294=>some F294
 | 295=>some F295
 | 298=>some F298
 | 299=>some F299
 | 300=>some F300
 | _=>none
end Go.Pm.F
end STQ
section SOb
namespace Go.Pm
open F
set_option maxHeartbeats 4000000
def vb (w:List UInt8):List V:=w.map fun b => .dat (.lit (.int .u8 b.toNat))
theorem qn4 (w:List UInt8):qaK (vb w)=[]:=by
 induction w with
 | nil=>rfl
 | cons x w ih=>simpa [vb] using ih
theorem qql (r:Nat->Nat) (w:List UInt8):qd3 r (vb w)=vb w:=by
 induction w with
 | nil=>rfl
 | cons x w ih=>simpa [vb] using ih
attribute [local simp] qn4 qql
end Go.Pm
end SOb
section SOc
namespace Go.Pm
open F
set_option maxHeartbeats 4000000
def lastC (w:List UInt8):UInt8:=(w.getLast?).getD 0
def wl (w:List UInt8):Bool:=qar (lastC w)
def pw (w:List UInt8) (ts:List ByteArray):List UInt8:=w++qah (wl w) ts
theorem qtn:wl []=false:=by decide
theorem qn5 (w r:List UInt8) (h:r≠[]):lastC (w++r)=lastC r:=by
 unfold lastC
 rw[List.getLast?_append]
 cases hr:r.getLast? with
 | none=>exact absurd (List.getLast?_eq_none_iff.1 hr) h
 | some c=>rfl
theorem qpw (w:List UInt8) (t:ByteArray):qbb (wl w) t=wl (w++(gap (wl w) t++byl t)):=by
 unfold qbb
 cases h:byl t with
 | nil=>
  have hs:qai qar t=false:=by rw[qaH,h]; rfl
  simp[gap,hs]
 | cons c r=>
  have hne:c::r≠[]:=by simp
  rw[<- List.append_assoc,show wl (w++gap (wl w) t++c::r)=qar (lastC (c::r)) by unfold wl; rw[qn5 _ _ hne]]
  unfold lastC
  cases hl:(c::r).getLast? with
  | none=>exact absurd (List.getLast?_eq_none_iff.1 hl) hne
  | some d=>rfl
theorem qc3 (w:List UInt8) (t:ByteArray) (ts:List ByteArray):pw w (t::ts)=pw (w++(gap (wl w) t++byl t)) ts:=by
 unfold pw
 rw[qah,qpw,List.append_assoc,List.append_assoc]
theorem qew (w:List UInt8):pw w []=w:=by simp[pw,qah]
theorem qiv (w:List UInt8) (a b:List ByteArray):pw w (a++b)=pw (pw w a) b:=by
 induction a generalizing w with
 | nil=>rw[List.nil_append,qew]
 | cons t a ih=>rw[List.cons_append,qc3,qc3,ih]
theorem qqm (w:List UInt8) (ts:List ByteArray):w.length<=(pw w ts).length:=by simp[pw]
theorem qpx {t:ByteArray} (h:t.size≠0) : ∃ b,t[0]?=some b/\qai qar t=qar b:=by
 have hd:=qgg t 0
 rw[List.drop_zero] at hd
 cases hb:byl t with
 | nil=>exact absurd (by rw[<- qaG,hb]; rfl) h
 | cons b r=>
  rw[hb] at hd
  exact⟨b,hd,by rw[qaH,hb]; rfl⟩
theorem qru {t:ByteArray} (h:t.size≠0):t[t.size-1]?=some (lastC (byl t)):=by
 rw[qgg,List.head?_drop,<- qaG,lastC]
 rw[List.getLast?_eq_getElem?]
 cases hg:(byl t)[(byl t).length-1]? with
 | some c=>rfl
 | none=>
  rw[List.getElem?_eq_none_iff] at hg
  have:=qaG t
  omega
attribute [local simp] qn4 qql
end Go.Pm
end SOc
section SOn
namespace Go.Pm
def E.lev:E->Nat
 | .un _ neg _=>qdI neg
 | .bin _ o _ _=>o.prec
 | _=>8
theorem qiF : ∀ {l:List ByteArray},Ok2 l -> ∀ t∈l,Tg (byl t)
 | [],_,t,h=>by cases h
 | u::l,ho,t,h=>by
  rcases List.mem_cons.1 h with rfl | h
  ·exact ho.1
  ·exact qiF ho.2.2 t h
theorem qfQ {s:ByteArray} (h:Tg (byl s)):s.size≠0:=by
 obtain⟨c,r,e,_⟩:=qfe h
 intro h0
 rw[<- qaG,e] at h0
 cases h0
theorem qoo (ts:List ByteArray):pw [] ts=qah false ts:=by rw[pw,qtn,List.nil_append]
theorem qeX : ∀ (l:List ByteArray) (p:Bool),(∀ t∈l,t.size≠0)->l.length<=(qah p l).length
 | [],p,_=>by simp
 | t::l,p,h=>by
  have:=qeX l (qbb p t) (fun x hx=>h x (List.mem_cons_of_mem _ hx))
  have h1:=h t (List.mem_cons_self ..)
  have h2:=qaG t
  simp only[qah,List.length_append,List.length_cons]
  omega
theorem qeY : ∀ s:Ss,s.good none->s.fo.len<=s.tx.length
 | .nil,_=>by simp[Ss.fo]
 | .assign _ s e r,h=>by have:=qeY r h.2.2.2; simp[Ss.fo,Ss.tx]; omega
 | .store _ s a b r,h=>by have:=qeY r h.2.2.2.2; simp[Ss.fo,Ss.tx]; omega
 | .effect _ a b r,h=>by have:=qeY r h.2.2.2; simp[Ss.fo,Ss.tx]; omega
 | .stop r,h=>by have:=qeY r h.2; simp[Ss.fo,Ss.tx]; omega
 | .cond w _ c b r,h=>by have:=qeY r h.2.2.2; simp[Ss.fo,Ss.tx]; omega
 | .block _ b r,h=>by obtain⟨n,hn,_⟩:=h; cases hn
theorem qld {b:Ss} (h:b.good (some 1)) : ∃ fb b1,b = .block fb b1 .nil/\b1.good none:=by
 cases b with
 | block fb b1 r=>
  obtain⟨n,hn,h1,h2⟩:=h
  have:n=0:=by simpa using hn.symm
  subst this
  cases r with
  | nil=>exact⟨fb,b1,rfl,h1⟩
  | block _ _ _=>obtain⟨n,hn,_⟩:=h2; simp at hn
  | _=>simp[Ss.good] at h2
 | _=>simp[Ss.good] at h
theorem qrV {b:Ss} (h:b.good (some 2)) : ∃ fb b1 fc b2,b = .block fb b1 (.block fc b2 .nil)/\b1.good none/\b2.good none:=by
 cases b with
 | block fb b1 r=>
  obtain⟨n,hn,h1,h2⟩:=h
  have:n=1:=by simpa using hn.symm
  subst this
  obtain⟨fc,b2,rfl,h3⟩:=qld h2
  exact⟨fb,b1,fc,b2,rfl,h1,h3⟩
 | _=>simp[Ss.good] at h
def Hd.opt:Hd->Option Ss
 | .none=>Option.none
 | .some _ b=>Option.some b
def Hd.opts (a b c:Hd):Nat->Option Ss
 | 0=>a.opt
 | 1=>b.opt
 | _=>c.opt
end Go.Pm
end SOn
section SF3r
namespace Go.Pm.F
variable (C:Task->Option Res) (q:Nat) (fr:Fr) (σ : S)
def F152:PFun:=⟨0,[.tmp 0],.seq (rn [jj 0 (.mov (.c (.slice none 0 0)))] []) (.seq (rn [jj 1 (.bslice 3 [eN,eN,eN] [(0,1,(.c (.string ⟨#[97,99,116]⟩))),(1,1,(.c (.string ⟨#[116,105,99,107]⟩))),(2,1,(.c (.string ⟨#[104,105,116]⟩)))]),mv 0 1] [0]) (.ret)),false,false,false⟩
def F192:PFun:=⟨1,[.tmp 2],.seq (rn [mx 2 kF] [0]) (.seq (rn [mv 3 0,jj 4 (.bin .geq (.t 3) (.c (.int .u8 97))),mv 5 4,jt 6 5 (.mov (.t 0)),jt 7 5 (.bin .leq (.t 6) (.c (.int .u8 122))),jj 8 (.pick (.t 5) (.t 7) kF),mv 2 8] [2]) (.ret)),false,false,false⟩
def F193:PFun:=⟨1,[.tmp 2],.seq (rn [mx 2 kF] [0]) (.seq (rn [mv 3 0,jj 4 (.bin .geq (.t 3) (.c (.int .u8 48))),mv 5 4,jt 6 5 (.mov (.t 0)),jt 7 5 (.bin .leq (.t 6) (.c (.int .u8 57))),jj 8 (.pick (.t 5) (.t 7) kF),mv 2 8] [2]) (.ret)),false,false,false⟩
end Go.Pm.F
end SF3r
section STR
namespace Go.Pm.F
def tR:Nat->Option PFun
 | 152=>some F152
 | 192=>some F192
 | 193=>some F193
 | _=>none
end Go.Pm.F
end STR
section SJa
namespace Go.Pm
open F
set_option maxHeartbeats 2000000
structure RowS (d:D) (l:List ByteArray):Prop where
 len : ∀ σ,V.len σ .sl (.dat d)=some l.length
 at_ : ∀ i:Nat,i<l.length->qaq 1 (.dat d) i=some (.dat (.imm (qaW l) i))
 one:V.one (.dat d)=true
 cells:V.cells (.dat d)=[.dat d]
theorem qaf (l:List ByteArray) (f:Bool):RowS (.sl (qaW l) l.length f) l where
 len _:=rfl
 at_ i h:=by simp[qaq,h]
 one:=rfl
 cells:=rfl
theorem qrN (s:ByteArray) (i:Nat):s[i]?=s.data.toList[i]?:=by
 by_cases h:i<s.size
 ·rw[getElem?_pos s i h,List.getElem?_eq_getElem (by rw[Array.length_toList]; exact h)]
  simp[ByteArray.getElem_eq_getElem_data]
 ·rw[getElem?_neg s i h,List.getElem?_eq_none (by rw[Array.length_toList]; exact Nat.not_lt.1 h)]
theorem qmJ {s:ByteArray} {i:Nat} (h:i<s.size) : ∃ c,s[i]?=some c/\s.data.toList[i]?=some c:=by
 refine⟨s.data.toList[i]'(by rw[Array.length_toList]; exact h),?_,List.getElem?_eq_getElem _⟩
 rw[qrN]
 exact List.getElem?_eq_getElem _
end Go.Pm
end SJa
section SJb
namespace Go.Pm
open F
set_option maxHeartbeats 2000000
theorem qgd {s:ByteArray} {i:Nat} {c:UInt8} (h:s.data.toList[i]?=some c):(byl s).drop i=c::(byl s).drop (i+1):=by
 have hi:=(List.getElem?_eq_some_iff.1 h)
 obtain⟨h1,h2⟩:=hi
 rw[<- h2]
 exact List.drop_eq_getElem_cons h1
end Go.Pm
end SJb
section SJc
namespace Go.Pm
open F
set_option maxHeartbeats 4000000
theorem qgH (p:UInt8->Bool) : ∀ l:List UInt8,∀ b∈l.take (qa1 p l),p b=true
 | [],b,h=>by simp[qa1] at h
 | c::r,b,h=>by
  simp only[qa1] at h
  split at h
  ·rename_i hc
   rw[List.take_succ_cons] at h
   rcases List.mem_cons.1 h with rfl | h
   ·exact hc
   ·exact qgH p r b h
  ·simp at h
end Go.Pm
end SJc
section SJd
namespace Go.Pm
open F
set_option maxHeartbeats 4000000
theorem qp2 (eS eL eR:Nat) (c:UInt8) (r:List UInt8):1<=(tokL eS eL eR (c::r)).1.length/\(tokL eS eL eR (c::r)).1.length<=r.length+1:=by
 have h1:=qdF qar (c::r)
 have h2:=qdF qaj (c::r)
 simp only[tokL]
 split
 ·rename_i h
  have hw:qar c=true:=by simp[qar,h]
  have:1<=qa1 qar (c::r):=by simp only[qa1,hw,if_true]; omega
  simp only[List.length_take,List.length_cons] at h1 ⊢
  omega
 split
 ·rename_i h
  have:1<=qa1 qaj (c::r):=by simp only[qa1,h,if_true]; omega
  simp only[List.length_take,List.length_cons] at h2 ⊢
  omega
 split
 ·rename_i h
  have:=qeZ h
  rw[qao] at this
  simp only[List.length_take,List.length_cons] at this ⊢
  omega
 split<;>simp
theorem qkF {s:ByteArray} {i:Nat} (hi:i<s.size) (eS eL eR:Nat):1<=(tokAt eS eL eR s i).s.size/\i+(tokAt eS eL eR s i).s.size<=s.size:=by
 obtain⟨c,h1,h2⟩:=qmJ hi
 have hd:=qgd h2
 rw[qdg]
 simp only[qao]
 rw[hd]
 have:=qp2 eS eL eR c ((byl s).drop (i+1))
 rw[List.length_drop,qaG] at this
 omega
def qv2:List Tk->List Tk
 | []=>[]
 | t::r=>if t.bad≠0\/t.s.size=0 then [t] else t::qv2 r
end Go.Pm
end SJd
section SJe
namespace Go.Pm
open F
set_option maxHeartbeats 4000000
structure Ps where
 i:Nat
 a:Nat
 e:Nat
def qsV (T:List Tk) (i:Nat):Tk:=T.getD i ⟨0,⟨#[]⟩,0⟩
def qS:ByteArray:=bs [63]
end Go.Pm
end SJe
section SJf
namespace Go.Pm
open F
structure TokP (t:Tk):Prop where
 q:t.bad=0->t.s≠qS
 dig:t.bad=0->qai qaj t.s=true->(∀ c∈t.s.data.toList,qaj c=true)/\digV t.s.data.toList<=2147483647/\t.s.size<2 ^ 40
structure WfT (T:List Tk):Prop where
 len:T.length<2 ^ 40
 tok : ∀ t∈T,TokP t
 pos : ∀ i,i+1<T.length->(qsV T i).s.size≠0
 last : ∀ i,i+1=T.length->(qsV T i).s=⟨#[]⟩/\(qsV T i).bad=0
structure Gd (T:List Tk) (s:Ps) (ts:List Tk):Prop where
 e:s.e=0
 a:s.a=0
 lt:s.i<T.length
 ts:qv2 (T.drop s.i)=ts
structure Er (T:List Tk) (s:Ps) (p c:Nat):Prop where
 lt:s.i<T.length
 c0:c≠0
 or:(s.e=c/\s.a=p)\/(s.e=0/\(qsV T s.i).bad=c/\(qsV T s.i).at_=p)
end Go.Pm
end SJf
section SJm
namespace Go.Pm
open F
set_option maxHeartbeats 4000000
section
variable {T:List Tk} {s:Ps} {lv:Nat}
abbrev k1 (k n:Int) (y:ByteArray) (ks:D):D := .sl [.lit (.int .i64 k),.lit (.int .i64 n),.lit (.string y),ks] 1 true
abbrev k2 (k n:Int) (y:ByteArray) (ks:D) (k' n':Int) (y':ByteArray) (ks':D):D := .sl [.lit (.int .i64 k),.lit (.int .i64 n),.lit (.string y),ks,.lit (.int .i64 k'),.lit (.int .i64 n'),.lit (.string y'),ks'] 2 true
abbrev k3 (k n:Int) (y:ByteArray) (ks:D) (k' n':Int) (y':ByteArray) (ks':D) (k'' n'':Int) (y'':ByteArray) (ks'':D):D := .sl [.lit (.int .i64 k),.lit (.int .i64 n),.lit (.string y),ks,.lit (.int .i64 k'),.lit (.int .i64 n'),.lit (.string y'),ks',.lit (.int .i64 k''),.lit (.int .i64 n''),.lit (.string y''),ks''] 3 false
end
end Go.Pm
end SJm
section SJp
namespace Go.Pm
open F
set_option maxHeartbeats 4000000
structure N4 where
 k:Int
 n:Int
 s:ByteArray
 d:D
 one:V.one (.dat d)=true
 cl:V.cells (.dat d)=[.dat d]
abbrev rob (r:Nat->N4):Ob := .cells [.int (r 0).k,.int (r 0).n,.str (r 0).s,.dat (r 0).d,.int (r 1).k,.int (r 1).n,.str (r 1).s,.dat (r 1).d,.int (r 2).k,.int (r 2).n,.str (r 2).s,.dat (r 2).d]
def qub (r:Nat->N4) (k:Nat) (v:N4):Nat->N4:=fun i=>if i=k then v else r i
abbrev qsf:Ob := .cells [.int 0,.int 0,.str ⟨#[]⟩,.dat (.lit (.slice none 0 0)),.int 0,.int 0,.str ⟨#[]⟩,.dat (.lit (.slice none 0 0)),.int 0,.int 0,.str ⟨#[]⟩,.dat (.lit (.slice none 0 0))]
section
variable {T:List Tk} {s:Ps} {r:Nat->N4}
def qe3:Option Ss->N4
 | none=>⟨0,0,⟨#[]⟩,.lit (.slice none 0 0),rfl,rfl⟩
 | some b=>⟨7,0,⟨#[]⟩,kd false b.fo.len b.fo.cells,by simp,by simp⟩
end
end Go.Pm
end SJp
section SJq
namespace Go.Pm
open F
set_option maxHeartbeats 4000000
theorem qrP {s:ByteArray} (hl:s.size<2 ^ 30) {j:Nat} (hj:j<s.size):TokP (tokAt 12 2 6 s j):=by
 obtain⟨p1,p2⟩:=qkF hj 12 2 6
 obtain⟨c,h1,h2⟩:=qmJ hj
 have hd:=qgd h2
 rw[qdg,hd] at p2 ⊢
 generalize (byl s).drop (j+1)=r at *
 have hsz:(bs (tokL 12 2 6 (c::r)).1).size<2 ^ 40:=by simp only at p2; omega
 have start : ∀ (p:UInt8->Bool) (x:UInt8) (w:List UInt8),qai p (bs (x::w))=p x:=fun p x w=>by rw[qaH,qaP]; rfl
 by_cases hlet:qaO c=true
 ·have hw:qar c=true:=by simp[qar,hlet]
  have e:(c::r).take (qa1 qar (c::r))=c::r.take (qa1 qar r):=by simp[qa1,hw]
  have ht:(tokL 12 2 6 (c::r)).1=c::r.take (qa1 qar r):=by simp only[tokL,hlet,if_true]; exact e
  rw[ht]
  have hnd:qaj c=false:=by
   simp only[qaj,qaO,Bool.and_eq_true,decide_eq_true_eq,Bool.and_eq_false_iff,decide_eq_false_iff_not] at hlet ⊢
   omega
  refine⟨fun _ h=>?_,fun _ h=>?_⟩
  ·have:=qkx h
   simp only[List.cons.injEq] at this
   rw[this.1] at hlet
   exact absurd hlet (by decide)
  ·simp only at h
   rw[start,hnd] at h
   cases h
 ·by_cases hdig:qaj c=true
  ·have e:(c::r).take (qa1 qaj (c::r))=c::r.take (qa1 qaj r):=by simp[qa1,hdig]
   have ht:tokL 12 2 6 (c::r)=((c::r).take (qa1 qaj (c::r)),if 2147483647<digV ((c::r).take (qa1 qaj (c::r))) then 6 else 0):=by simp only[tokL,hlet,hdig,if_true,Bool.false_eq_true,if_false]
   rw[ht] at hsz ⊢
   refine⟨fun _ h=>?_,fun h _=>⟨fun b hb=>?_,?_,hsz⟩⟩
   ·simp only at h
    rw[e] at h
    have:=qkx h
    simp only[List.cons.injEq] at this
    rw[this.1] at hdig
    exact absurd hdig (by decide)
   ·exact qgH qaj (c::r) b hb
   ·simp only at h ⊢
    split at h
    ·cases h
    ·rename_i hb
     exact Nat.not_lt.1 hb
  ·by_cases hp:bs ((c::r).take 2)∈qdB
   ·have ht:tokL 12 2 6 (c::r)=((c::r).take 2,0):=by simp only[tokL,hlet,hdig,if_pos hp,Bool.false_eq_true,if_false]
    rw[ht]
    have key : ∀ w:List UInt8,bs w∈qdB->bs w≠qS/\qai qaj (bs w)=false:=fun w hw=>by
     rcases pair_cases hw with rfl | rfl | rfl | rfl | rfl | rfl<;>decide
    obtain⟨k1,k2⟩:=key _ hp
    exact⟨fun _=>k1,fun _ h=>by rw[k2] at h; cases h⟩
   ·by_cases hs:c.toNat∈qia
    ·have ht:tokL 12 2 6 (c::r)=([c],0):=by simp only[tokL,hlet,hdig,if_neg hp,if_pos hs,Bool.false_eq_true,if_false]
     rw[ht]
     refine⟨fun _ h=>?_,fun _ h=>?_⟩
     ·have:=qkx h
      simp only[List.cons.injEq,and_true] at this
      rw[this] at hs
      exact absurd hs (by decide)
     ·simp only at h
      rw[start] at h
      exact absurd h hdig
    ·have ht:tokL 12 2 6 (c::r)=([c],12):=by simp only[tokL,hlet,hdig,if_neg hp,if_neg hs,Bool.false_eq_true,if_false]
     rw[ht]
     exact⟨fun h=>(by cases h),fun h=>(by cases h)⟩
def qhR (s:ByteArray):List Tk:=qbN 12 2 6 s (s.size+1) 0
def qc7 (f fi fb:Bool) (s:ByteArray):Rz (Nat->Option Ss):=
 if 2000<s.size then .er 2000 2 else match qcm 12 2 4 f fi fb (10*(qhR s).length+10) (fun _=>none) (qhR s) with
  | some x=>x
  | none => .er 0 0
theorem qed {f fi fb:Bool} {s:ByteArray} (h : ¬ 2000<s.size):qcm 12 2 4 f fi fb (10*(qhR s).length+10) (fun _=>none) (qhR s)=some (qc7 f fi fb s):=by
 obtain⟨y,hy,_⟩:=qjK 12 2 4 f fi fb (10*(qhR s).length+10) (fun _=>none) (qhR s) (by omega)
 unfold qc7
 rw[if_neg h,hy]
abbrev qpR (r:Nat->N4):V := .dat (.agg [.lit (.int .i64 (r 0).k),.lit (.int .i64 (r 0).n),.lit (.string (r 0).s),(r 0).d,.lit (.int .i64 (r 1).k),.lit (.int .i64 (r 1).n),.lit (.string (r 1).s),(r 1).d,.lit (.int .i64 (r 2).k),.lit (.int .i64 (r 2).n),.lit (.string (r 2).s),(r 2).d])
def qiE (f fi fb:Bool) (s:ByteArray):V:=match qc7 f fi fb s with
 | .ok h _ => .tup [qpR fun k=>qe3 (h k),.int 0,.int 0]
 | .er a c => .tup [qpR fun _=>qe3 none,.int a,.int c]
end Go.Pm
end SJq
section SUc
namespace Go.Pm
def TkG (t:Tk):Prop:=t.bad=0->t.s.size≠0->Tg (byl t.s)
theorem qc9 (p:UInt8->Bool) (l:List UInt8):(l.take (qa1 p l)).length=qa1 p l:=by rw[List.length_take,Nat.min_eq_left (qdF p l)]
theorem qnl (l:List UInt8) (h:(tokL 12 2 6 l).2=0) (h2:(tokL 12 2 6 l).1≠[]):Tg (tokL 12 2 6 l).1:=by
 cases l with
 | nil=>exact absurd rfl h2
 | cons c r=>
  by_cases hlet:qaO c=true
  ·have hw:qar c=true:=by simp[qar,hlet]
   have e:tokL 12 2 6 (c::r)=((c::r).take (qa1 qar (c::r)),if 8<qa1 qar (c::r)/\bs ((c::r).take (qa1 qar (c::r)))∉fieldNames/\bs ((c::r).take (qa1 qar (c::r)))∉wordNames then 2 else 0):=by simp only[tokL,hlet,if_true]
   rw[e] at h ⊢
   have hl:=qc9 qar (c::r)
   have ha:=qgH qar (c::r)
   have e2:(c::r).take (qa1 qar (c::r))=c::r.take (qa1 qar r):=by simp[qa1,hw]
   simp only at h ⊢
   rw[e2] at h hl ha ⊢
   refine .inl ⟨c,_,rfl,hlet,fun b hb=>ha b (List.mem_cons_of_mem _ hb),fun hbad=>?_⟩
   rw[hl] at hbad
   rw[if_pos hbad] at h
   cases h
  ·by_cases hdig:qaj c=true
   ·have e:tokL 12 2 6 (c::r)=((c::r).take (qa1 qaj (c::r)),if 2147483647<digV ((c::r).take (qa1 qaj (c::r))) then 6 else 0):=by simp only[tokL,hlet,hdig,if_true,Bool.false_eq_true,if_false]
    rw[e] at h ⊢
    have ha:=qgH qaj (c::r)
    have e2:(c::r).take (qa1 qaj (c::r))=c::r.take (qa1 qaj r):=by simp[qa1,hdig]
    simp only at h ⊢
    rw[e2] at h ha ⊢
    refine .inr (.inl ⟨c,_,rfl,hdig,fun b hb=>ha b (List.mem_cons_of_mem _ hb),?_⟩)
    split at h
    ·cases h
    ·rename_i hb
     exact Nat.not_lt.1 hb
   ·by_cases hp:bs ((c::r).take 2)∈qdB
    ·have e:tokL 12 2 6 (c::r)=((c::r).take 2,0):=by simp only[tokL,hlet,hdig,if_pos hp,Bool.false_eq_true,if_false]
     rw[e]
     exact .inr (.inr (.inl hp))
    ·by_cases hs:c.toNat∈qia
     ·have e:tokL 12 2 6 (c::r)=([c],0):=by simp only[tokL,hlet,hdig,if_neg hp,if_pos hs,Bool.false_eq_true,if_false]
      rw[e]
      exact .inr (.inr (.inr ⟨c,rfl,hs⟩))
     ·have e:tokL 12 2 6 (c::r)=([c],12):=by simp only[tokL,hlet,hdig,if_neg hp,if_neg hs,Bool.false_eq_true,if_false]
      rw[e] at h
      cases h
theorem qlz (s:ByteArray) (j:Nat):TkG (tokAt 12 2 6 s j):=by
 intro hb hn
 rw[qdg] at hb hn ⊢
 simp only[qaP] at hb hn ⊢
 exact qnl _ hb (fun e=>hn (by rw[e]; rfl))
theorem qnm (s:ByteArray) : ∀ n i,∀ t∈qbN 12 2 6 s n i,TkG t
 | 0,i,t,h=>by
  simp only[qbN,List.mem_singleton] at h
  rw[h]
  intro _ h2
  exact absurd rfl h2
 | n+1,i,t,h=>by
  rw[qbN] at h
  split at h
  ·rw[List.mem_singleton.1 h]; exact qlz s _
  ·rcases List.mem_cons.1 h with h | h
   ·rw[h]; exact qlz s _
   ·exact qnm s n _ t h
theorem qnn : ∀ (l:List ByteArray) (p q:Bool),(qah p l).length<=(qah q l).length+1
 | [],p,q=>by simp[qah]
 | t::l,p,q=>by
  have hg : ∀ p,(gap p t).length<=1:=fun p=>by unfold gap; split<;>simp
  have hp:=hg p
  simp only[qah,List.length_append]
  cases hb:byl t with
  | nil=>
   have e : ∀ q,qbb q t=q:=fun q=>by unfold qbb; rw[hb]; rfl
   have hs:qai qar t=false:=by rw[qaH,hb]; rfl
   have g0 : ∀ p,gap p t=[]:=fun p=>by simp[gap,hs]
   rw[e,e,g0,g0]
   have:=qnn l p q
   simp
   omega
  | cons c r=>
   have e:qbb p t=qbb q t:=by
    unfold qbb
    cases hl:(byl t).getLast? with
    | none=>rw[List.getLast?_eq_none_iff] at hl; rw[hl] at hb; cases hb
    | some c=>rfl
   rw[e]
   omega
inductive Red:List ByteArray->List ByteArray->Prop
 | nil:Red [] []
 | keep {t:ByteArray} {l m:List ByteArray} (h:Red l m):Red (t::l) (t::m)
 | del {t:ByteArray} {l m:List ByteArray} (h0:t.size≠0) (h:Red l m):Red (t::l) m
 | dig {t u:ByteArray} {l m:List ByteArray} (h0:u.size<=t.size) (h1 : ∀ p,qbb p u=qbb p t) (h2:qai qar u=qai qar t) (h:Red l m):Red (t::l) (u::m)
theorem qcL : ∀ l,Red l l
 | [] => .nil
 | t::l => .keep (qcL l)
theorem qbI {a a' b b':List ByteArray} (h:Red a a') (h2:Red b b'):Red (a++b) (a'++b'):=by
 induction h with
 | nil=>exact h2
 | keep _ ih=>exact .keep ih
 | del h0 _ ih=>exact .del h0 ih
 | dig h0 h1 h2 _ ih=>exact .dig h0 h1 h2 ih
theorem qno {a b:List ByteArray} (h:Red a b) : ∀ {c},Red b c->Red a c:=by
 induction h with
 | nil=>intro c h; exact h
 | keep _ ih=>
  intro c h
  cases h with
  | keep h=>exact .keep (ih h)
  | del h0 h=>exact .del h0 (ih h)
  | dig h0 h1 h2 h=>exact .dig h0 h1 h2 (ih h)
 | del h0 _ ih=>intro c h; exact .del h0 (ih h)
 | dig h0 h1 h2 _ ih=>
  intro c h
  cases h with
  | keep h=>exact .dig h0 h1 h2 (ih h)
  | del h0' h=>exact .del (by omega) (ih h)
  | dig h0' h1' h2' h=>exact .dig (by omega) (fun p=>(h1' p).trans (h1 p)) (h2'.trans h2) (ih h)
theorem qoW {l m:List ByteArray} (h:Red l m) : ∀ p,(qah p m).length<=(qah p l).length:=by
 induction h with
 | nil=>intro p; exact Nat.le_refl _
 | keep _ ih=>
  intro p
  simp only[qah,List.length_append]
  have:=ih (qbb p ‹_›)
  omega
 | @del t l m h0 _ ih=>
  intro p
  simp only[qah,List.length_append]
  have h1:=ih p
  have h2:=qnn l p (qbb p t)
  have h3:=qaG t
  omega
 | @dig t u l m h0 h1 h2 _ ih=>
  intro p
  simp only[qah,List.length_append]
  have h3:=ih (qbb p t)
  have e1:gap p u=gap p t:=by simp[gap,h2]
  have e2:=qaG t
  have e3:=qaG u
  rw[h1 p,e1]
  omega
def NI:List ByteArray->Prop
 | t::u::r=>(qai qaj t=true->qai qar u=false)/\NI (u::r)
 | _=>True
theorem qlA : ∀ {a b:List ByteArray},NI a->NI b->(∀ t u,a.getLast?=some t->b.head?=some u->qai qaj t=true->qai qar u=false)->NI (a++b)
 | [],b,_,hb,_=>hb
 | [t],[],_,_,_=>trivial
 | [t],u::b,_,hb,hj=>⟨hj t u rfl rfl,hb⟩
 | t::u::a,b,ha,hb,hj=>⟨ha.1,qlA (a:=u::a) ha.2 hb (fun x y hx hy=>hj x y (by rw[List.getLast?_cons_cons]; exact hx) hy)⟩
theorem qgq (t:ByteArray):NI [t]:=trivial
theorem qcc {t:ByteArray} {b:List ByteArray} (h:qai qaj t=false) (hb:NI b):NI (t::b):=by
 cases b with
 | nil=>trivial
 | cons u b=>exact⟨fun h'=>(by rw[h] at h'; cases h'),hb⟩
theorem qif {t:ByteArray} {a b:List ByteArray} (ha:NI a) (h:qai qaj t=false) (h2:qai qar t=false) (hb:NI b):NI (a++t::b):=
 qlA ha (qcc h hb) (fun x y _ hy _=>by cases hy; exact h2)
theorem qfu {t:ByteArray} {a:List ByteArray} (ha:NI a) (h2:qai qar t=false):NI (a++[t]):=
 qlA ha trivial (fun x y _ hy _=>by cases hy; exact h2)
theorem qcy : ∀ {l:List ByteArray} {ts r:List Tk},Hx l ts r -> ∀ t∈r,t∈ts
 | [],ts,r,h,t,ht=>by cases h; exact ht
 | x::l,ts,r,h,t,ht=>by
  obtain⟨u,q,rfl,_,_,h⟩:=h
  exact List.mem_cons_of_mem _ (qcy h t ht)
theorem qnp : ∀ (l:List ByteArray) (n i:Nat) (b:List UInt8) (r:List Tk) (p:Bool),Hx l (qjE 12 2 6 n i b) r->NI l->(∀ u∈l,u.size≠0) ->
  (p=true -> ∀ u,l.head?=some u->qai qar u=true->0<qaX false b)->(qah p l).length<=b.length
 | [],n,i,b,r,p,_,_,_,_=>by simp[qah]
 | u::l,n,i,b,r,p,hx,hn,hz,hp=>by
  have hu:=hz u (List.mem_cons_self ..)
  cases n with
  | zero=>
   obtain⟨t,q,e,h1,_⟩:=hx
   simp only[qjE,List.cons.injEq] at e
   rw[<- e.1] at h1
   exact absurd (by rw[<- h1]; rfl) hu
  | succ n=>
   rw[qjE] at hx
   generalize hb':b.drop (qaX false b)=b' at hx
   have hlb:b'.length=b.length-qaX false b:=by rw[<- hb',List.length_drop]
   have hsk:=qfT b false
   split at hx
   ·rename_i hc
    obtain⟨t,q,e,h1,h2,_⟩:=hx
    simp only[List.cons.injEq] at e
    rw[<- e.1] at h1 h2
    simp only at h1 h2
    rcases hc with hc | hc
    ·exact absurd h2 hc
    ·exact absurd (by rw[<- h1,qao]; exact hc) hu
   ·rename_i hc
    obtain⟨t,q,e,h1,h2,h3⟩:=hx
    simp only[List.cons.injEq] at e
    rw[<- e.1] at h1 h2
    rw[<- e.2] at h3
    simp only at h1 h2
    have hw:(tokL 12 2 6 b').1≠[]:=fun e0=>hu (by rw[<- h1,e0]; rfl)
    have htg:=qnl b' h2 hw
    have hbyl:byl u=(tokL 12 2 6 b').1:=by rw[<- h1,qaP]
    have hwl:(tokL 12 2 6 b').1.length<=b'.length:=by
     cases b' with
     | nil=>simp[tokL]
     | cons c r=>
      simp only[tokL]
      split
      ·rw[qc9]; exact qdF _ _
      split
      ·rw[qc9]; exact qdF _ _
      split
      ·simp only[List.length_take]; omega
      split<;>simp
    have ih:=qnp l n _ _ r (qbb p u) h3 (by
     cases l with
     | nil=>trivial
     | cons v l=>exact hn.2) (fun v hv=>hz v (List.mem_cons_of_mem _ hv)) (by
     intro hpe v hv hsv
     refine Nat.pos_of_ne_zero (fun h0=>?_)
     have hnd:qai qaj u=false:=by
      cases hd:qai qaj u with
      | false=>rfl
      | true=>
       cases l with
       | nil=>cases hv
       | cons v' l=>
        cases hv
        rw[hn.1 hd] at hsv
        cases hsv
     have hnext : ∃ c q,b'.drop (tokL 12 2 6 b').1.length=c::q/\qar c=true:=by
      cases l with
      | nil=>cases hv
      | cons v' l=>
       cases hv
       obtain⟨t2,q2,e2,g1,g2,_⟩:=h3
       cases n with
       | zero=>
        simp only[qjE,List.cons.injEq] at e2
        rw[<- e2.1] at g1
        have g3:v=⟨#[]⟩:=g1.symm
        rw[g3,qaH] at hsv
        exact absurd hsv (by decide)
       | succ n=>
        rw[qjE,h0,List.drop_zero] at e2
        have g3:v=bs (tokL 12 2 6 (b'.drop (tokL 12 2 6 b').1.length)).1:=by
         rw[<- g1]
         split at e2<;>(simp only[List.cons.injEq] at e2; rw[<- e2.1])
        rw[g3,qaH,qaP] at hsv
        cases hdr:b'.drop (tokL 12 2 6 b').1.length with
        | nil=>rw[hdr] at hsv; simp[tokL] at hsv
        | cons c q=>
         refine⟨c,q,rfl,?_⟩
         rw[hdr] at hsv
         have hh:(tokL 12 2 6 (c::q)).1.head?=some c:=by
          simp only[tokL]
          split
          ·rename_i hl; simp[qa1,qar,hl]
          split
          ·rename_i hl; simp[qa1,hl]
          split
          ·simp
          split<;>rfl
         rw[hh] at hsv
         exact hsv
     obtain⟨c,q,hcq,hcw⟩:=hnext
     cases b' with
     | nil=>simp at hcq
     | cons d rr=>
      by_cases hlet:qaO d=true
      ·have e:(tokL 12 2 6 (d::rr)).1=(d::rr).take (qa1 qar (d::rr)):=by simp only[tokL,hlet,if_true]
       rw[e,qc9] at hcq
       have key : ∀ (m:List UInt8) c q,m.drop (qa1 qar m)=c::q->qar c=false:=by
        intro m
        induction m with
        | nil=>intro c q h; simp at h
        | cons x m ih=>
         intro c q h
         by_cases hx:qar x=true
         ·simp only[qa1,hx,if_true,List.drop_succ_cons] at h; exact ih c q h
         ·simp only[qa1,hx,if_false,List.drop_zero,Bool.false_eq_true] at h
          cases h
          simpa using hx
       rw[key _ c q hcq] at hcw
       cases hcw
      ·by_cases hdig:qaj d=true
       ·have e:(tokL 12 2 6 (d::rr)).1=(d::rr).take (qa1 qaj (d::rr)):=by simp only[tokL,hlet,hdig,if_true,Bool.false_eq_true,if_false]
        rw[qaH,hbyl,e] at hnd
        simp[qa1,hdig] at hnd
       ·have hend:qbb p u=false:=by
         rw[<- h1]
         apply qho
         rcases htg with ⟨c1,r1,e1,hc1,_⟩ | ⟨c1,r1,e1,hc1,_⟩ | h | h
         ·exfalso
          have:(tokL 12 2 6 (d::rr)).1.head?=some d:=by
           simp only[tokL,hlet,hdig,Bool.false_eq_true,if_false]
           split
           ·simp
           split<;>rfl
          rw[e1] at this
          cases this
          exact hlet hc1
         ·exfalso
          have:(tokL 12 2 6 (d::rr)).1.head?=some d:=by
           simp only[tokL,hlet,hdig,Bool.false_eq_true,if_false]
           split
           ·simp
           split<;>rfl
          rw[e1] at this
          cases this
          exact hdig hc1
         ·exact .inl h
         ·exact .inr h
        rw[hend] at hpe
        cases hpe)
    have hgap:(gap p u).length<=qaX false b:=by
     unfold gap
     split
     ·rename_i hg
      rw[Bool.and_eq_true] at hg
      have:=hp hg.1 u rfl hg.2
      simp
      omega
     ·simp
    simp only[qah,List.length_append]
    rw[hbyl]
    rw[List.length_drop] at ih
    omega
end Go.Pm
end SUc
