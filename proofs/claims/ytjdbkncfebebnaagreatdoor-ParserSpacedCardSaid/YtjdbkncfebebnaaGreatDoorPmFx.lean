/- The abstract machine's program, printed by a program of our own: group x. The abstract machine's programs: tables of functions. Chapter 13's printer: bytes of words. Chapter 13's printer: the builder of strings, tokens put down. Chapter 13's printer: tokens put down. The printers: levels, tokens of good trees. No program in sight. The abstract machine's program, printed by a program of our own: group 3r. The abstract machine's programs: tables of functions. Chapter 13's reference parser: letters, digits, rows of strings, numbers. -/
import Derived.Test.YtjdbkncfebebnaaGreatDoorPmYh
import Derived.Test.YtjdbkncfebebnaaGreatDoorPmF3
import Derived.Test.YtjdbkncfebebnaaGreatDoorPmEt
import Derived.Test.YtjdbkncfebebnaaGreatDoorPmY
set_option linter.unusedSimpArgs false
set_option linter.unusedVariables false
section SFx
namespace Go.Pm.F
variable (C:Task->Option Res) (q:Nat) (fr:Fr) (σ : S)
def G_internal_strconv_uint64pow10:List D:=(List.range 20).map fun i => .lit (.int .u64 (10 ^ i:Nat))
def F245:PFun:=⟨1,[.tmp 2],.seq (rn [jj 2 (.mov (.c (.string ⟨#[]⟩)))] [0]) (.seq (.region (some []) [mv 3 0,nc 4 3,fa 5 1 4,l1 6 5,jj 7 (.usd (.t 6)),mv 8 0,nc 9 8,fa 10 1 9,l1 11 10,ls 12 11,jj 13 (.ustr [3] (.t 7) (.t 12)),mv 2 13] [2]) (.ret)),false,false,false⟩
def F258:PFun:=⟨2,[.tmp 4],.seq (rn [jj 4 (.mov (.c .nilIface))] [0,1]) (.seq (rn [mv 5 0,cl 6 272 [5]] [0,1]) (.seq (rn [mv 7 0,mv 8 0,nc 9 8,fa 10 1 9,l1 11 10,mv 12 1,jj 13 (.bsliceO 1 1 [(.lit (.int .u8 0))] [(0,1,(.t 12))]),jj 14 (.appendT 3 1 1 (.t 11) (.t 13)),nc 15 7,fa 16 1 15,st 1 16 14] []) (.seq (rn [jj 4 (.mov (.c .nilIface))] [4]) (.ret)))),false,false,false⟩
def F259:PFun:=⟨2,[.tmp 4,.tmp 5],.seq (rn [mx 4 (kk 0),jj 5 (.mov (.c .nilIface))] [0,1]) (.seq (rn [mv 6 0,cl 7 272 [6]] [0,1]) (.seq (rn [mv 8 0,mv 9 0,nc 10 9,fa 11 1 10,l1 12 11,mv 13 1,jj 14 (.appendT 3 1 1 (.t 12) (.t 13)),nc 15 8,fa 16 1 15,st 1 16 14] [1]) (.seq (rn [mv 17 1,lz 18 17,mv 4 18,jj 5 (.mov (.c .nilIface))] [4,5]) (.ret)))),false,false,false⟩
def F268:PFun:=⟨2,[.tmp 4],.seq (rn [mx 4 (kk 0)] [0,1]) (.seq (rn [mv 5 0,mv 6 1,cl 7 275 [5,6],mv 4 7] [4]) (.ret)),false,false,false⟩
def F272:PFun:=⟨1,[],.seq (rn [mv 2 0,nc 3 2,fa 4 0 3,l1 5 4,jj 6 (.isnil true false (.t 5))] [0,6]) (.cond (.t 6) (rn [mv 7 0,mv 8 0,jj 9 (.up (.t 8)),mv 10 9,jj 11 (.down [(4,3)] (.t 10)),nc 12 7,fa 13 0 12,st 1 13 11] []) (.seq (rn [mv 14 0,nc 15 14,fa 16 0 15,l1 17 16,mv 18 0,jj 19 (.peq true (.t 17) (.t 18))] [19]) (.cond (.t 19) (.cond (.c .nilIface) (.skip) (.skip)) (.skip)))),false,false,false⟩
def F275:PFun:=⟨2,[.tmp 4],.seq (rn [mx 4 (kk 0)] [0,1]) (.seq (rn [mv 5 0,mv 6 1,jj 7 (.idxb (.t 5) (.t 6)),mv 4 7] [4]) (.ret)),false,false,false⟩
def F276:PFun:=⟨2,[.tmp 4],.seq (rn [mx 4 kF] [0,1]) (.seq (rn [mv 5 0,mv 6 1,cl 7 284 [5,6],bk 8 .geq 7 0,mv 4 8] [4]) (.ret)),false,false,false⟩
def F283:PFun:=⟨1,[.tmp 2],.seq (rn [jj 2 (.mov (.c (.string ⟨#[]⟩)))] [0]) (.seq (rn [mv 3 0,cl 4 288 [3],mv 2 4] [2]) (.ret)),false,false,false⟩
@[simp] def F284l0x:PC:=(.seq (rn [bn 9 .lss 8 7] [0,1,7,8,9]) (.seq (.cond (.t 9) (.skip) (.exit 0)) (.seq (.block 1 (.seq (rn [mv 10 8,mv 5 10] [0,1,5,7,8]) (.seq (rn [mv 11 1,mv 12 0,mv 13 5,jj 14 (.indexAddr 1 (.t 12) (.t 13)),l1 15 14,bn 16 .eql 11 15] [0,1,5,7,8,16]) (.cond (.t 16) (.seq (rn [mv 17 5,mv 4 17] [4]) (.ret)) (.skip))))) (rn [bk 18 .add 8 1,mv 8 18] [0,1,7,8]))))
def F284l0:PC:=F284l0x
theorem qfb:run C q F284l0 fr σ = run C q F284l0x fr σ := rfl
def F284:PFun:=⟨2,[.tmp 4],.seq (rn [mx 4 (kk 0)] [0,1]) (.seq (.seq (rn [mv 6 0,ls 7 6,mx 8 (kk 0)] [0,1,7,8]) (.block 0 (.loop F284l0))) (.seq (rn [mx 4 (kk (-1))] [4]) (.ret))),false,false,false⟩
def F288:PFun:=⟨1,[.tmp 2],.seq (rn [jj 2 (.mov (.c (.string ⟨#[]⟩)))] [0]) (.seq (rn [mv 3 0,jj 4 (.call 291 [(.t 3),(kk 10)]),mv 2 4] [2]) (.ret)),false,false,false⟩
def F291:PFun:=⟨2,[.tmp 4],.seq (rn [jj 4 (.mov (.c (.string ⟨#[]⟩)))] [0,1]) (.seq (.seq (rn [mv 10 1,bk 11 .eql 10 10] [0,1,11]) (.cond (.t 11) (.seq (.seq (rn [mv 12 0,jj 13 (.bin .leq (kk 0) (.t 12)),mv 14 13,jt 15 14 (.mov (.t 0)),jt 16 14 (.bin .lss (.t 15) (kk 100)),jj 17 (.pick (.t 14) (.t 16) kF)] [0,17]) (.cond (.t 17) (.seq (rn [mv 18 0,cl 19 293 [18],mv 4 19] [4]) (.ret)) (.skip))) (.seq (rn [jj 5 (.alloc [(.lit (.int .u8 0)),(.lit (.int .u8 0)),(.lit (.int .u8 0)),(.lit (.int .u8 0)),(.lit (.int .u8 0)),(.lit (.int .u8 0)),(.lit (.int .u8 0)),(.lit (.int .u8 0)),(.lit (.int .u8 0)),(.lit (.int .u8 0)),(.lit (.int .u8 0)),(.lit (.int .u8 0)),(.lit (.int .u8 0)),(.lit (.int .u8 0)),(.lit (.int .u8 0)),(.lit (.int .u8 0)),(.lit (.int .u8 0)),(.lit (.int .u8 0)),(.lit (.int .u8 0)),(.lit (.int .u8 0)),(.lit (.int .u8 0)),(.lit (.int .u8 0)),(.lit (.int .u8 0)),(.lit (.int .u8 0))])] [0,5]) (.seq (rn [mv 20 0,jj 21 (.conv (.int .u64) (.t 20)),mv 6 21] [0,5,6]) (.seq (.seq (rn [mv 22 0,bk 23 .lss 22 0] [0,5,6,23]) (.cond (.t 23) (rn [mv 24 6,jj 25 (.un .neg (.t 24)),mv 6 25] [0,5,6]) (.skip))) (.seq (rn [mv 26 6,cl 27 294 [26],mv 7 27] [0,5,6,7]) (.seq (rn [mv 28 7,jj 29 (.bin .add (kk 1) (.t 28)),jj 30 (.sliceA 24 1 (.t 5) (some (kk 1)) (some (.t 29))),mv 31 6,cl 32 295 [30,31]] [0,5,7]) (.seq (.seq (rn [mv 33 0,bk 34 .lss 33 0] [5,7,34]) (.cond (.t 34) (.seq (rn [jj 35 (.indexAddrA 24 1 (.t 5) (kk 0)),jn (.store 1 (.t 35) (.c (.int .u8 45)))] [5,7]) (.seq (rn [mv 36 7,jj 37 (.bin .add (kk 1) (.t 36)),jj 38 (.sliceA 24 1 (.t 5) none (some (.t 37))),jj 39 (.bstr (.t 38)),mv 4 39] [4]) (.ret))) (.skip))) (.seq (rn [mv 40 7,jj 41 (.bin .add (kk 1) (.t 40)),jj 42 (.sliceA 24 1 (.t 5) (some (kk 1)) (some (.t 41))),jj 43 (.bstr (.t 42)),mv 4 43] [4]) (.ret))))))))) (.skip))) (.seq (rn [mv 45 0,jj 46 (.conv (.int .u64) (.t 45)),mv 47 1,mv 48 0,bk 49 .lss 48 0,jj 50 (.call 296 [(.c (.slice none 0 0)),(.t 46),(.t 47),(.t 49),kF]),mv 44 50,ex 51 44 0,ex 52 44 1,mv 8 51,mv 9 52] [9]) (.seq (rn [mv 53 9,mv 4 53] [4]) (.ret)))),false,false,false⟩
def F293:PFun:=⟨1,[.tmp 2],.seq (rn [jj 2 (.mov (.c (.string ⟨#[]⟩)))] [0]) (.seq (.seq (rn [mv 3 0,bk 4 .lss 3 10] [0,4]) (.cond (.t 4) (.seq (rn [mv 5 0,mv 6 0,bk 7 .add 6 1,jj 8 (.sliceS (.c (.string ⟨#[48,49,50,51,52,53,54,55,56,57,97,98,99,100,101,102,103,104,105,106,107,108,109,110,111,112,113,114,115,116,117,118,119,120,121,122]⟩)) (some (.t 5)) (some (.t 7))),mv 2 8] [2]) (.ret)) (.skip))) (.seq (rn [mv 9 0,bk 10 .mul 9 2,mv 11 0,bk 12 .mul 11 2,bk 13 .add 12 2,jj 14 (.sliceS (.c (.string ⟨#[48,48,48,49,48,50,48,51,48,52,48,53,48,54,48,55,48,56,48,57,49,48,49,49,49,50,49,51,49,52,49,53,49,54,49,55,49,56,49,57,50,48,50,49,50,50,50,51,50,52,50,53,50,54,50,55,50,56,50,57,51,48,51,49,51,50,51,51,51,52,51,53,51,54,51,55,51,56,51,57,52,48,52,49,52,50,52,51,52,52,52,53,52,54,52,55,52,56,52,57,53,48,53,49,53,50,53,51,53,52,53,53,53,54,53,55,53,56,53,57,54,48,54,49,54,50,54,51,54,52,54,53,54,54,54,55,54,56,54,57,55,48,55,49,55,50,55,51,55,52,55,53,55,54,55,55,55,56,55,57,56,48,56,49,56,50,56,51,56,52,56,53,56,54,56,55,56,56,56,57,57,48,57,49,57,50,57,51,57,52,57,53,57,54,57,55,57,56,57,57]⟩)) (some (.t 10)) (some (.t 13))),mv 2 14] [2]) (.ret))),false,false,false⟩
def F294:PFun:=⟨1,[.tmp 2],.seq (rn [mx 2 (kk 0)] [0]) (.seq (rn [mv 4 0,cl 5 299 [4],cl 6 298 [5],mv 3 6] [0,3]) (.seq (rn [mv 7 3,mv 8 0,mv 9 3,jj 10 (.indexAddrA 20 1 (.g G_internal_strconv_uint64pow10) (.t 9)),l1 11 10,bn 12 .geq 8 11,cl 13 300 [12],bn 14 .add 7 13,mv 2 14] [2]) (.ret))),false,false,false⟩
@[simp] def F295l0x:PC:=(.seq (.seq (rn [mv 19 4,bk 20 .geq 19 8] [0,1,4,20]) (.cond (.t 20) (.skip) (.exit 0))) (.block 1 (.seq (rn [mv 21 1,jj 22 (.bin .rem (.t 21) (.c (.int .u64 100000000))),jj 23 (.conv (.int .u32) (.t 22)),mv 5 23] [0,1,4,5]) (.seq (rn [mv 24 1,jj 25 (.bin .quo (.t 24) (.c (.int .u64 100000000))),mv 1 25] [0,1,4,5]) (.seq (rn [mv 26 5,jj 27 (.bin .quo (.t 26) (.c (.int .u32 10000))),mv 28 5,jj 29 (.bin .rem (.t 28) (.c (.int .u32 10000))),mv 6 27,mv 7 29] [0,1,4,6,7]) (.seq (rn [mv 30 7,jj 31 (.bin .quo (.t 30) (.c (.int .u32 100))),jj 32 (.bin .mul (.t 31) (.c (.int .u32 2))),mv 33 7,jj 34 (.bin .rem (.t 33) (.c (.int .u32 100))),jj 35 (.bin .mul (.t 34) (.c (.int .u32 2))),mv 8 32,mv 9 35] [0,1,4,6,8,9]) (.seq (rn [mv 36 6,jj 37 (.bin .quo (.t 36) (.c (.int .u32 100))),jj 38 (.bin .mul (.t 37) (.c (.int .u32 2))),mv 39 6,jj 40 (.bin .rem (.t 39) (.c (.int .u32 100))),jj 41 (.bin .mul (.t 40) (.c (.int .u32 2))),mv 10 38,mv 11 41] [0,1,4,8,9,10,11]) (.seq (.region (some []) [mv 42 0,mv 43 4,bk 44 .sub 43 1,mv 45 0,mv 46 4,bk 47 .sub 46 2,mv 48 9,jj 49 (.bin .add (.t 48) (.c (.int .u32 1))),jj 50 (.indexS (.c (.string ⟨#[48,48,48,49,48,50,48,51,48,52,48,53,48,54,48,55,48,56,48,57,49,48,49,49,49,50,49,51,49,52,49,53,49,54,49,55,49,56,49,57,50,48,50,49,50,50,50,51,50,52,50,53,50,54,50,55,50,56,50,57,51,48,51,49,51,50,51,51,51,52,51,53,51,54,51,55,51,56,51,57,52,48,52,49,52,50,52,51,52,52,52,53,52,54,52,55,52,56,52,57,53,48,53,49,53,50,53,51,53,52,53,53,53,54,53,55,53,56,53,57,54,48,54,49,54,50,54,51,54,52,54,53,54,54,54,55,54,56,54,57,55,48,55,49,55,50,55,51,55,52,55,53,55,54,55,55,55,56,55,57,56,48,56,49,56,50,56,51,56,52,56,53,56,54,56,55,56,56,56,57,57,48,57,49,57,50,57,51,57,52,57,53,57,54,57,55,57,56,57,57]⟩)) (.t 49)),mv 51 9,jj 52 (.indexS (.c (.string ⟨#[48,48,48,49,48,50,48,51,48,52,48,53,48,54,48,55,48,56,48,57,49,48,49,49,49,50,49,51,49,52,49,53,49,54,49,55,49,56,49,57,50,48,50,49,50,50,50,51,50,52,50,53,50,54,50,55,50,56,50,57,51,48,51,49,51,50,51,51,51,52,51,53,51,54,51,55,51,56,51,57,52,48,52,49,52,50,52,51,52,52,52,53,52,54,52,55,52,56,52,57,53,48,53,49,53,50,53,51,53,52,53,53,53,54,53,55,53,56,53,57,54,48,54,49,54,50,54,51,54,52,54,53,54,54,54,55,54,56,54,57,55,48,55,49,55,50,55,51,55,52,55,53,55,54,55,55,55,56,55,57,56,48,56,49,56,50,56,51,56,52,56,53,56,54,56,55,56,56,56,57,57,48,57,49,57,50,57,51,57,52,57,53,57,54,57,55,57,56,57,57]⟩)) (.t 51)),jj 53 (.indexAddr 1 (.t 42) (.t 44)),st 1 53 50,jj 54 (.indexAddr 1 (.t 45) (.t 47)),st 1 54 52] [0,1,4,8,10,11]) (.seq (.region (some []) [mv 55 0,mv 56 4,bk 57 .sub 56 3,mv 58 0,mv 59 4,bk 60 .sub 59 4,mv 61 8,jj 62 (.bin .add (.t 61) (.c (.int .u32 1))),jj 63 (.indexS (.c (.string ⟨#[48,48,48,49,48,50,48,51,48,52,48,53,48,54,48,55,48,56,48,57,49,48,49,49,49,50,49,51,49,52,49,53,49,54,49,55,49,56,49,57,50,48,50,49,50,50,50,51,50,52,50,53,50,54,50,55,50,56,50,57,51,48,51,49,51,50,51,51,51,52,51,53,51,54,51,55,51,56,51,57,52,48,52,49,52,50,52,51,52,52,52,53,52,54,52,55,52,56,52,57,53,48,53,49,53,50,53,51,53,52,53,53,53,54,53,55,53,56,53,57,54,48,54,49,54,50,54,51,54,52,54,53,54,54,54,55,54,56,54,57,55,48,55,49,55,50,55,51,55,52,55,53,55,54,55,55,55,56,55,57,56,48,56,49,56,50,56,51,56,52,56,53,56,54,56,55,56,56,56,57,57,48,57,49,57,50,57,51,57,52,57,53,57,54,57,55,57,56,57,57]⟩)) (.t 62)),mv 64 8,jj 65 (.indexS (.c (.string ⟨#[48,48,48,49,48,50,48,51,48,52,48,53,48,54,48,55,48,56,48,57,49,48,49,49,49,50,49,51,49,52,49,53,49,54,49,55,49,56,49,57,50,48,50,49,50,50,50,51,50,52,50,53,50,54,50,55,50,56,50,57,51,48,51,49,51,50,51,51,51,52,51,53,51,54,51,55,51,56,51,57,52,48,52,49,52,50,52,51,52,52,52,53,52,54,52,55,52,56,52,57,53,48,53,49,53,50,53,51,53,52,53,53,53,54,53,55,53,56,53,57,54,48,54,49,54,50,54,51,54,52,54,53,54,54,54,55,54,56,54,57,55,48,55,49,55,50,55,51,55,52,55,53,55,54,55,55,55,56,55,57,56,48,56,49,56,50,56,51,56,52,56,53,56,54,56,55,56,56,56,57,57,48,57,49,57,50,57,51,57,52,57,53,57,54,57,55,57,56,57,57]⟩)) (.t 64)),jj 66 (.indexAddr 1 (.t 55) (.t 57)),st 1 66 63,jj 67 (.indexAddr 1 (.t 58) (.t 60)),st 1 67 65] [0,1,4,10,11]) (.seq (.region (some []) [mv 68 0,mv 69 4,bk 70 .sub 69 5,mv 71 0,mv 72 4,bk 73 .sub 72 6,mv 74 11,jj 75 (.bin .add (.t 74) (.c (.int .u32 1))),jj 76 (.indexS (.c (.string ⟨#[48,48,48,49,48,50,48,51,48,52,48,53,48,54,48,55,48,56,48,57,49,48,49,49,49,50,49,51,49,52,49,53,49,54,49,55,49,56,49,57,50,48,50,49,50,50,50,51,50,52,50,53,50,54,50,55,50,56,50,57,51,48,51,49,51,50,51,51,51,52,51,53,51,54,51,55,51,56,51,57,52,48,52,49,52,50,52,51,52,52,52,53,52,54,52,55,52,56,52,57,53,48,53,49,53,50,53,51,53,52,53,53,53,54,53,55,53,56,53,57,54,48,54,49,54,50,54,51,54,52,54,53,54,54,54,55,54,56,54,57,55,48,55,49,55,50,55,51,55,52,55,53,55,54,55,55,55,56,55,57,56,48,56,49,56,50,56,51,56,52,56,53,56,54,56,55,56,56,56,57,57,48,57,49,57,50,57,51,57,52,57,53,57,54,57,55,57,56,57,57]⟩)) (.t 75)),mv 77 11,jj 78 (.indexS (.c (.string ⟨#[48,48,48,49,48,50,48,51,48,52,48,53,48,54,48,55,48,56,48,57,49,48,49,49,49,50,49,51,49,52,49,53,49,54,49,55,49,56,49,57,50,48,50,49,50,50,50,51,50,52,50,53,50,54,50,55,50,56,50,57,51,48,51,49,51,50,51,51,51,52,51,53,51,54,51,55,51,56,51,57,52,48,52,49,52,50,52,51,52,52,52,53,52,54,52,55,52,56,52,57,53,48,53,49,53,50,53,51,53,52,53,53,53,54,53,55,53,56,53,57,54,48,54,49,54,50,54,51,54,52,54,53,54,54,54,55,54,56,54,57,55,48,55,49,55,50,55,51,55,52,55,53,55,54,55,55,55,56,55,57,56,48,56,49,56,50,56,51,56,52,56,53,56,54,56,55,56,56,56,57,57,48,57,49,57,50,57,51,57,52,57,53,57,54,57,55,57,56,57,57]⟩)) (.t 77)),jj 79 (.indexAddr 1 (.t 68) (.t 70)),st 1 79 76,jj 80 (.indexAddr 1 (.t 71) (.t 73)),st 1 80 78] [0,1,4,10]) (.seq (.region (some []) [mv 81 0,mv 82 4,bk 83 .sub 82 7,mv 84 0,mv 85 4,bk 86 .sub 85 8,mv 87 10,jj 88 (.bin .add (.t 87) (.c (.int .u32 1))),jj 89 (.indexS (.c (.string ⟨#[48,48,48,49,48,50,48,51,48,52,48,53,48,54,48,55,48,56,48,57,49,48,49,49,49,50,49,51,49,52,49,53,49,54,49,55,49,56,49,57,50,48,50,49,50,50,50,51,50,52,50,53,50,54,50,55,50,56,50,57,51,48,51,49,51,50,51,51,51,52,51,53,51,54,51,55,51,56,51,57,52,48,52,49,52,50,52,51,52,52,52,53,52,54,52,55,52,56,52,57,53,48,53,49,53,50,53,51,53,52,53,53,53,54,53,55,53,56,53,57,54,48,54,49,54,50,54,51,54,52,54,53,54,54,54,55,54,56,54,57,55,48,55,49,55,50,55,51,55,52,55,53,55,54,55,55,55,56,55,57,56,48,56,49,56,50,56,51,56,52,56,53,56,54,56,55,56,56,56,57,57,48,57,49,57,50,57,51,57,52,57,53,57,54,57,55,57,56,57,57]⟩)) (.t 88)),mv 90 10,jj 91 (.indexS (.c (.string ⟨#[48,48,48,49,48,50,48,51,48,52,48,53,48,54,48,55,48,56,48,57,49,48,49,49,49,50,49,51,49,52,49,53,49,54,49,55,49,56,49,57,50,48,50,49,50,50,50,51,50,52,50,53,50,54,50,55,50,56,50,57,51,48,51,49,51,50,51,51,51,52,51,53,51,54,51,55,51,56,51,57,52,48,52,49,52,50,52,51,52,52,52,53,52,54,52,55,52,56,52,57,53,48,53,49,53,50,53,51,53,52,53,53,53,54,53,55,53,56,53,57,54,48,54,49,54,50,54,51,54,52,54,53,54,54,54,55,54,56,54,57,55,48,55,49,55,50,55,51,55,52,55,53,55,54,55,55,55,56,55,57,56,48,56,49,56,50,56,51,56,52,56,53,56,54,56,55,56,56,56,57,57,48,57,49,57,50,57,51,57,52,57,53,57,54,57,55,57,56,57,57]⟩)) (.t 90)),jj 92 (.indexAddr 1 (.t 81) (.t 83)),st 1 92 89,jj 93 (.indexAddr 1 (.t 84) (.t 86)),st 1 93 91] [0,1,4]) (rn [mv 94 4,bk 95 .sub 94 8,mv 4 95] [0,1,4]))))))))))))
def F295l0:PC:=F295l0x
def F295:PFun:=⟨2,[],.seq (rn [mv 17 0,ls 18 17,mv 4 18] [0,1,4]) (.seq (.block 0 (.loop F295l0)) (.seq (rn [mv 96 1,jj 97 (.conv (.int .u32) (.t 96)),mv 12 97] [0,4,12]) (.seq (.seq (rn [mv 98 4,bk 99 .geq 98 4] [0,4,12,99]) (.cond (.t 99) (.seq (rn [mv 100 12,jj 101 (.bin .rem (.t 100) (.c (.int .u32 10000))),mv 13 101] [0,4,12,13]) (.seq (rn [mv 102 12,jj 103 (.bin .quo (.t 102) (.c (.int .u32 10000))),mv 12 103] [0,4,12,13]) (.seq (rn [mv 104 13,jj 105 (.bin .quo (.t 104) (.c (.int .u32 100))),jj 106 (.bin .mul (.t 105) (.c (.int .u32 2))),mv 107 13,jj 108 (.bin .rem (.t 107) (.c (.int .u32 100))),jj 109 (.bin .mul (.t 108) (.c (.int .u32 2))),mv 14 106,mv 15 109] [0,4,12,14,15]) (.seq (.region (some []) [mv 110 0,mv 111 4,bk 112 .sub 111 1,mv 113 0,mv 114 4,bk 115 .sub 114 2,mv 116 15,jj 117 (.bin .add (.t 116) (.c (.int .u32 1))),jj 118 (.indexS (.c (.string ⟨#[48,48,48,49,48,50,48,51,48,52,48,53,48,54,48,55,48,56,48,57,49,48,49,49,49,50,49,51,49,52,49,53,49,54,49,55,49,56,49,57,50,48,50,49,50,50,50,51,50,52,50,53,50,54,50,55,50,56,50,57,51,48,51,49,51,50,51,51,51,52,51,53,51,54,51,55,51,56,51,57,52,48,52,49,52,50,52,51,52,52,52,53,52,54,52,55,52,56,52,57,53,48,53,49,53,50,53,51,53,52,53,53,53,54,53,55,53,56,53,57,54,48,54,49,54,50,54,51,54,52,54,53,54,54,54,55,54,56,54,57,55,48,55,49,55,50,55,51,55,52,55,53,55,54,55,55,55,56,55,57,56,48,56,49,56,50,56,51,56,52,56,53,56,54,56,55,56,56,56,57,57,48,57,49,57,50,57,51,57,52,57,53,57,54,57,55,57,56,57,57]⟩)) (.t 117)),mv 119 15,jj 120 (.indexS (.c (.string ⟨#[48,48,48,49,48,50,48,51,48,52,48,53,48,54,48,55,48,56,48,57,49,48,49,49,49,50,49,51,49,52,49,53,49,54,49,55,49,56,49,57,50,48,50,49,50,50,50,51,50,52,50,53,50,54,50,55,50,56,50,57,51,48,51,49,51,50,51,51,51,52,51,53,51,54,51,55,51,56,51,57,52,48,52,49,52,50,52,51,52,52,52,53,52,54,52,55,52,56,52,57,53,48,53,49,53,50,53,51,53,52,53,53,53,54,53,55,53,56,53,57,54,48,54,49,54,50,54,51,54,52,54,53,54,54,54,55,54,56,54,57,55,48,55,49,55,50,55,51,55,52,55,53,55,54,55,55,55,56,55,57,56,48,56,49,56,50,56,51,56,52,56,53,56,54,56,55,56,56,56,57,57,48,57,49,57,50,57,51,57,52,57,53,57,54,57,55,57,56,57,57]⟩)) (.t 119)),jj 121 (.indexAddr 1 (.t 110) (.t 112)),st 1 121 118,jj 122 (.indexAddr 1 (.t 113) (.t 115)),st 1 122 120] [0,4,12,14]) (.seq (.region (some []) [mv 123 0,mv 124 4,bk 125 .sub 124 3,mv 126 0,mv 127 4,bk 128 .sub 127 4,mv 129 14,jj 130 (.bin .add (.t 129) (.c (.int .u32 1))),jj 131 (.indexS (.c (.string ⟨#[48,48,48,49,48,50,48,51,48,52,48,53,48,54,48,55,48,56,48,57,49,48,49,49,49,50,49,51,49,52,49,53,49,54,49,55,49,56,49,57,50,48,50,49,50,50,50,51,50,52,50,53,50,54,50,55,50,56,50,57,51,48,51,49,51,50,51,51,51,52,51,53,51,54,51,55,51,56,51,57,52,48,52,49,52,50,52,51,52,52,52,53,52,54,52,55,52,56,52,57,53,48,53,49,53,50,53,51,53,52,53,53,53,54,53,55,53,56,53,57,54,48,54,49,54,50,54,51,54,52,54,53,54,54,54,55,54,56,54,57,55,48,55,49,55,50,55,51,55,52,55,53,55,54,55,55,55,56,55,57,56,48,56,49,56,50,56,51,56,52,56,53,56,54,56,55,56,56,56,57,57,48,57,49,57,50,57,51,57,52,57,53,57,54,57,55,57,56,57,57]⟩)) (.t 130)),mv 132 14,jj 133 (.indexS (.c (.string ⟨#[48,48,48,49,48,50,48,51,48,52,48,53,48,54,48,55,48,56,48,57,49,48,49,49,49,50,49,51,49,52,49,53,49,54,49,55,49,56,49,57,50,48,50,49,50,50,50,51,50,52,50,53,50,54,50,55,50,56,50,57,51,48,51,49,51,50,51,51,51,52,51,53,51,54,51,55,51,56,51,57,52,48,52,49,52,50,52,51,52,52,52,53,52,54,52,55,52,56,52,57,53,48,53,49,53,50,53,51,53,52,53,53,53,54,53,55,53,56,53,57,54,48,54,49,54,50,54,51,54,52,54,53,54,54,54,55,54,56,54,57,55,48,55,49,55,50,55,51,55,52,55,53,55,54,55,55,55,56,55,57,56,48,56,49,56,50,56,51,56,52,56,53,56,54,56,55,56,56,56,57,57,48,57,49,57,50,57,51,57,52,57,53,57,54,57,55,57,56,57,57]⟩)) (.t 132)),jj 134 (.indexAddr 1 (.t 123) (.t 125)),st 1 134 131,jj 135 (.indexAddr 1 (.t 126) (.t 128)),st 1 135 133] [0,4,12]) (rn [mv 136 4,bk 137 .sub 136 4,mv 4 137] [0,4,12])))))) (.skip))) (.seq (.seq (rn [mv 138 4,bk 139 .geq 138 2] [0,4,12,139]) (.cond (.t 139) (.seq (rn [mv 140 12,jj 141 (.bin .rem (.t 140) (.c (.int .u32 100))),jj 142 (.bin .mul (.t 141) (.c (.int .u32 2))),mv 16 142] [0,4,12,16]) (.seq (rn [mv 143 12,jj 144 (.bin .quo (.t 143) (.c (.int .u32 100))),mv 12 144] [0,4,12,16]) (.seq (.region (some []) [mv 145 0,mv 146 4,bk 147 .sub 146 1,mv 148 0,mv 149 4,bk 150 .sub 149 2,mv 151 16,jj 152 (.bin .add (.t 151) (.c (.int .u32 1))),jj 153 (.indexS (.c (.string ⟨#[48,48,48,49,48,50,48,51,48,52,48,53,48,54,48,55,48,56,48,57,49,48,49,49,49,50,49,51,49,52,49,53,49,54,49,55,49,56,49,57,50,48,50,49,50,50,50,51,50,52,50,53,50,54,50,55,50,56,50,57,51,48,51,49,51,50,51,51,51,52,51,53,51,54,51,55,51,56,51,57,52,48,52,49,52,50,52,51,52,52,52,53,52,54,52,55,52,56,52,57,53,48,53,49,53,50,53,51,53,52,53,53,53,54,53,55,53,56,53,57,54,48,54,49,54,50,54,51,54,52,54,53,54,54,54,55,54,56,54,57,55,48,55,49,55,50,55,51,55,52,55,53,55,54,55,55,55,56,55,57,56,48,56,49,56,50,56,51,56,52,56,53,56,54,56,55,56,56,56,57,57,48,57,49,57,50,57,51,57,52,57,53,57,54,57,55,57,56,57,57]⟩)) (.t 152)),mv 154 16,jj 155 (.indexS (.c (.string ⟨#[48,48,48,49,48,50,48,51,48,52,48,53,48,54,48,55,48,56,48,57,49,48,49,49,49,50,49,51,49,52,49,53,49,54,49,55,49,56,49,57,50,48,50,49,50,50,50,51,50,52,50,53,50,54,50,55,50,56,50,57,51,48,51,49,51,50,51,51,51,52,51,53,51,54,51,55,51,56,51,57,52,48,52,49,52,50,52,51,52,52,52,53,52,54,52,55,52,56,52,57,53,48,53,49,53,50,53,51,53,52,53,53,53,54,53,55,53,56,53,57,54,48,54,49,54,50,54,51,54,52,54,53,54,54,54,55,54,56,54,57,55,48,55,49,55,50,55,51,55,52,55,53,55,54,55,55,55,56,55,57,56,48,56,49,56,50,56,51,56,52,56,53,56,54,56,55,56,56,56,57,57,48,57,49,57,50,57,51,57,52,57,53,57,54,57,55,57,56,57,57]⟩)) (.t 154)),jj 156 (.indexAddr 1 (.t 145) (.t 147)),st 1 156 153,jj 157 (.indexAddr 1 (.t 148) (.t 150)),st 1 157 155] [0,4,12]) (rn [mv 158 4,bk 159 .sub 158 2,mv 4 159] [0,4,12])))) (.skip))) (.seq (rn [mv 160 4,bk 161 .gtr 160 0] [0,12,161]) (.cond (.t 161) (rn [mv 162 0,mv 163 12,jj 164 (.bin .add (.c (.int .u32 48)) (.t 163)),jj 165 (.conv (.int .u8) (.t 164)),jj 166 (.indexAddr 1 (.t 162) (kk 0)),st 1 166 165] []) (.skip))))))),false,false,false⟩
def F298:PFun:=⟨1,[.tmp 2],.seq (rn [mx 2 (kk 0)] [0]) (.seq (rn [mv 3 0,bk 4 .mul 3 78913,jj 5 (.bin .shr (.t 4) (.c (.int .u64 18))),mv 2 5] [2]) (.ret)),false,false,false⟩
def F299:PFun:=⟨1,[.tmp 2],.seq (rn [mx 2 (kk 0)] [0,2]) (.seq (.seq (rn [mv 3 0,jj 4 (.bin .geq (.t 3) (.c (.int .u64 4294967296)))] [0,2,4]) (.cond (.t 4) (.seq (rn [mv 5 0,jj 6 (.bin .shr (.t 5) (.c (.int .u64 32))),mv 0 6] [0]) (rn [mx 2 (kk 32)] [0,2])) (.skip))) (.seq (.seq (rn [mv 7 0,jj 8 (.bin .geq (.t 7) (.c (.int .u64 65536)))] [0,2,8]) (.cond (.t 8) (.seq (rn [mv 9 0,jj 10 (.bin .shr (.t 9) (.c (.int .u64 16))),mv 0 10] [0,2]) (rn [mv 11 2,bk 12 .add 11 16,mv 2 12] [0,2])) (.skip))) (.seq (.seq (rn [mv 13 0,jj 14 (.bin .geq (.t 13) (.c (.int .u64 256)))] [0,2,14]) (.cond (.t 14) (.seq (rn [mv 15 0,jj 16 (.bin .shr (.t 15) (.c (.int .u64 8))),mv 0 16] [0,2]) (rn [mv 17 2,bk 18 .add 17 8,mv 2 18] [0,2])) (.skip))) (.seq (rn [mv 19 2,mv 20 0,jj 21 (.conv (.int .u8) (.t 20)),jj 22 (.indexS (.c (.string ⟨#[0,1,2,2,3,3,3,3,4,4,4,4,4,4,4,4,5,5,5,5,5,5,5,5,5,5,5,5,5,5,5,5,6,6,6,6,6,6,6,6,6,6,6,6,6,6,6,6,6,6,6,6,6,6,6,6,6,6,6,6,6,6,6,6,7,7,7,7,7,7,7,7,7,7,7,7,7,7,7,7,7,7,7,7,7,7,7,7,7,7,7,7,7,7,7,7,7,7,7,7,7,7,7,7,7,7,7,7,7,7,7,7,7,7,7,7,7,7,7,7,7,7,7,7,7,7,7,7,8,8,8,8,8,8,8,8,8,8,8,8,8,8,8,8,8,8,8,8,8,8,8,8,8,8,8,8,8,8,8,8,8,8,8,8,8,8,8,8,8,8,8,8,8,8,8,8,8,8,8,8,8,8,8,8,8,8,8,8,8,8,8,8,8,8,8,8,8,8,8,8,8,8,8,8,8,8,8,8,8,8,8,8,8,8,8,8,8,8,8,8,8,8,8,8,8,8,8,8,8,8,8,8,8,8,8,8,8,8,8,8,8,8,8,8,8,8,8,8,8,8,8,8,8,8,8,8]⟩)) (.t 21)),jj 23 (.conv (.int .i64) (.t 22)),bn 24 .add 19 23,mv 2 24] [2]) (.ret))))),false,false,false⟩
def F300:PFun:=⟨1,[.tmp 2],.seq (rn [mx 2 (kk 0)] [0]) (.seq (.seq (rn [mv 3 0] [3]) (.cond (.t 3) (.seq (rn [mx 2 (kk 1)] [2]) (.ret)) (.skip))) (.seq (rn [mx 2 (kk 0)] [2]) (.ret))),false,false,false⟩
end Go.Pm.F
end SFx
section STQ
namespace Go.Pm.F
def tQ:Nat->Option PFun
 | 231=>some F231
 | 243=>some F243
 | 244=>some F244
 | 245=>some F245
 | 257=>some F257
 | 258=>some F258
 | 259=>some F259
 | 260=>some F260
 | 264=>some F264
 | 266=>some F266
 | 272=>some F272
 | 273=>some F273
 | 274=>some F274
 | 282=>some F282
 | 283=>some F283
 | 288=>some F288
 | 291=>some F291
 | 293=>some F293
 | 294=>some F294
 | 295=>some F295
 | 298=>some F298
 | 299=>some F299
 | 300=>some F300
 | _=>none
end Go.Pm.F
end STQ
section SOa
namespace Go.Pm
open F
set_option maxHeartbeats 2000000
theorem qp4 (c:UInt8):Z tQ (.call 264 [.dat (.lit (.int .u8 c.toNat))] [])=some (.ret (.bool (qaM c)) []):=by
 refine Z_call (pf:=F264) rfl rfl ?_
 by_cases h1:(97:Int)<=c.toNat
 ·have h1':97<=c.toNat:=by omega
  by_cases h2:(c.toNat:Int)<=122
  ·have h2':c.toNat<=122:=by omega
   simp[F264,qaM,h1,h1',h2,h2']
  ·have h2' : ¬ c.toNat<=122:=by omega
   simp[F264,qaM,h1,h1',h2,h2']
 ·have h1' : ¬ 97<=c.toNat:=by omega
  simp[F264,qaM,h1,h1']
theorem qrF (c:UInt8):Z tQ (.call 266 [.dat (.lit (.int .u8 c.toNat))] [])=some (.ret (.bool (qaj c)) []):=by
 refine Z_call (pf:=F266) rfl rfl ?_
 by_cases h1:(48:Int)<=c.toNat
 ·have h1':48<=c.toNat:=by omega
  by_cases h2:(c.toNat:Int)<=57
  ·have h2':c.toNat<=57:=by omega
   simp[F266,qaj,h1,h1',h2,h2']
  ·have h2' : ¬ c.toNat<=57:=by omega
   simp[F266,qaj,h1,h1',h2,h2']
 ·have h1' : ¬ 48<=c.toNat:=by omega
  simp[F266,qaj,h1,h1']
theorem qmn (c:UInt8):Z tQ (.call 257 [.dat (.lit (.int .u8 c.toNat))] [])=some (.ret (.bool (qao c)) []):=by
 have z1:=qp4 c
 have z2:=qrF c
 refine Z_call (pf:=F257) rfl rfl ?_
 unfold qao
 cases h:qaM c<;>rw[h] at z1<;>simp[F257,z1,z2]
end Go.Pm
end SOa
section SOb
namespace Go.Pm
open F
set_option maxHeartbeats 4000000
def vb (w:List UInt8):List V:=w.map fun b => .dat (.lit (.int .u8 b.toNat))
theorem qjc (w:List UInt8):(vb w).length=w.length:=by simp[vb]
theorem qrZ (a b:List UInt8):vb a++vb b=vb (a++b):=by simp[vb]
theorem qvu (w:List UInt8):(vb w).all V.one=true:=by
 rw[List.all_eq_true]
 intro x hx
 simp only[vb,List.mem_map] at hx
 obtain⟨b,_,rfl⟩:=hx
 rfl
theorem qgC (w:List UInt8):qaR (vb w)=[]:=by
 induction w with
 | nil=>rfl
 | cons x w ih=>simpa [vb] using ih
theorem qjd (r:Nat->Nat) (w:List UInt8):qel r (vb w)=vb w:=by
 induction w with
 | nil=>rfl
 | cons x w ih=>simpa [vb] using ih
theorem qhr (s:ByteArray):(qcJ s).map V.dat=vb (byl s):=by
 simp[qcJ,vb,byl,List.map_map,Function.comp_def]
theorem qcg (w:List UInt8):qdA (vb w)=some w:=by
 induction w with
 | nil=>rfl
 | cons x w ih=>
  have h:((x.toNat:Int)<256):=by have:=x.toNat_lt; omega
  show qdA (V.dat (.lit (.int .u8 x.toNat))::vb w)=_
  simp[qdA,h,ih]
theorem qvv (w:List UInt8):(∀ x∈vb w,V.one x=true)↔True:=by
 have:=qvu w
 rw[List.all_eq_true] at this
 exact⟨fun _=>trivial,fun _=>this⟩
theorem qje (t:ByteArray):(∀ x∈qcJ t,V.one (.dat x)=true)↔True:=by
 refine⟨fun _=>trivial,fun _ x hx=>?_⟩
 simp only[qcJ,List.mem_map] at hx
 obtain⟨b,_,rfl⟩:=hx
 rfl
abbrev PW' (w:List UInt8) (c:Nat):S:=[.cellsT 4 [.ptr 0 0,.own 1 w.length 1,.dat (.lit (.int .u8 c))],.vecT 3 (vb w)]
abbrev PE:S:=[.cellsT 4 [.dat (.lit (.pointer none)),.dat (.lit (.slice none 0 0)),.dat (.lit (.int .u8 0))]]
attribute [local simp] qgC qjd
theorem qr0 (w:List UInt8) (c:Nat):Z tQ (.call 272 [.ptr 0 0] (PW' w c))=some (.ret (.tup []) (PW' w c)):=by
 refine Z_call (pf:=F272) rfl rfl ?_
 simp[F272,List.range_succ]
theorem qth:Z tQ (.call 272 [.ptr 0 0] PE)=some (.ret (.tup []) [.cellsT 4 [.ptr 0 0,.dat (.lit (.slice none 0 0)),.dat (.lit (.int .u8 0))]]):=by
 refine Z_call (pf:=F272) rfl rfl ?_
 simp[F272,List.range_succ]
theorem qti (w:List UInt8) (c:Nat) (b:UInt8) (h:w.length<2 ^ 40):Z tQ (.call 258 [.ptr 0 0,.dat (.lit (.int .u8 b.toNat))] (PW' w c))=some (.ret (.dat (.lit .nilIface)) (PW' (w++[b]) c)):=by
 have z:=qr0 w c
 have hr:qaP (w.length+1) 1=true:=by simp[qaP]; omega
 have hv:vb w++[.dat (.lit (.int .u8 b.toNat))]=vb (w++[b]):=qrZ w [b]
 have hl:=qjc w
 refine Z_call (pf:=F258) rfl rfl ?_
 simp[F258,z,hr,hv,hl,List.range_succ]
theorem qpl (w:List UInt8) (c:Nat) (t:ByteArray) (h:(w++byl t).length<2 ^ 40) (ht:t.size≠0):Z tQ (.call 259 [.ptr 0 0,.str t] (PW' w c))=some (.ret (.tup [.int t.size,.dat (.lit .nilIface)]) (PW' (w++byl t) c)):=by
 have z:=qr0 w c
 have hs:=qar t
 have hr:qaP (w.length+t.size) 1=true:=by rw[List.length_append] at h; simp[qaP]; omega
 have hv:vb w++(qcJ t).map V.dat=vb (w++byl t):=by rw[qhr,qrZ]
 have hl:=qjc w
 have hb:(qcJ t).length=t.size:=by rw[<- List.length_map (f:=V.dat),qhr,qjc,hs]
 have ho:=qje t
 have hn:(w++byl t).length=w.length+t.size:=by rw[List.length_append,hs]
 have w1:=qaf (t.size:Int) (by rw[hn] at h; omega)
 refine Z_call (pf:=F259) rfl rfl ?_
 simp[F259,z,hr,hv,hl,hb,ho,hn,ht,hs,V.len,List.range_succ]
theorem qtj (t:ByteArray) (h:t.size<2 ^ 40) (ht:t.size≠0):Z tQ (.call 259 [.ptr 0 0,.str t] PE)=some (.ret (.tup [.int t.size,.dat (.lit .nilIface)]) (PW' (byl t) 0)):=by
 have z:=qth
 have hs:=qar t
 have hr:qaP t.size 1=true:=by simp[qaP]; omega
 have hb:(qcJ t).length=t.size:=by rw[<- List.length_map (f:=V.dat),qhr,qjc,hs]
 have ho:=qje t
 have hv:(qcJ t).map V.dat=vb (byl t):=by rw[qhr]
 refine Z_call (pf:=F259) rfl rfl ?_
 simp[F259,z,hr,hb,ho,ht,hs,hv,qjc,qvv,V.len,List.range_succ]
end Go.Pm
end SOb
section SOc
namespace Go.Pm
open F
set_option maxHeartbeats 4000000
def lastC (w:List UInt8):UInt8:=(w.getLast?).getD 0
def wl (w:List UInt8):Bool:=qao (lastC w)
def pw (w:List UInt8) (ts:List ByteArray):List UInt8:=w++qam (wl w) ts
abbrev PW (w:List UInt8):S:=PW' w (lastC w).toNat
theorem qr1:wl []=false:=by decide
theorem qli (w r:List UInt8) (h:r≠[]):lastC (w++r)=lastC r:=by
 unfold lastC
 rw[List.getLast?_append]
 cases hr:r.getLast? with
 | none=>exact absurd (List.getLast?_eq_none_iff.1 hr) h
 | some c=>rfl
theorem qq7 (w:List UInt8) (t:ByteArray):qbu (wl w) t=wl (w++(gap (wl w) t++byl t)):=by
 unfold qbu
 cases h:byl t with
 | nil=>
  have hs:qak qao t=false:=by rw[qaN,h]; rfl
  simp[gap,hs]
 | cons c r=>
  have hne:c::r≠[]:=by simp
  rw[<- List.append_assoc,show wl (w++gap (wl w) t++c::r)=qao (lastC (c::r)) by unfold wl; rw[qli _ _ hne]]
  unfold lastC
  cases hl:(c::r).getLast? with
  | none=>exact absurd (List.getLast?_eq_none_iff.1 hl) hne
  | some d=>rfl
theorem qcE (w:List UInt8) (t:ByteArray) (ts:List ByteArray):pw w (t::ts)=pw (w++(gap (wl w) t++byl t)) ts:=by
 unfold pw
 rw[qam,qq7,List.append_assoc,List.append_assoc]
theorem qdR (w:List UInt8):pw w []=w:=by simp[pw,qam]
theorem qaw (w:List UInt8) (a b:List ByteArray):pw w (a++b)=pw (pw w a) b:=by
 induction a generalizing w with
 | nil=>rw[List.nil_append,qdR]
 | cons t a ih=>rw[List.cons_append,qcE,qcE,ih]
theorem qjf (w:List UInt8) (ts:List ByteArray):w.length<=(pw w ts).length:=by simp[pw]
theorem qeO {w:List UInt8} (h:w≠[]) (ts:List ByteArray):pw w ts≠[]:=by
 intro e
 have h2:=qjf w ts
 rw[e] at h2
 exact h (List.eq_nil_of_length_eq_zero (by simpa using h2))
theorem qm2 {t:ByteArray} (h:t.size≠0) : ∃ b,t[0]?=some b/\qak qao t=qao b:=by
 have hd:=qgL t 0
 rw[List.drop_zero] at hd
 cases hb:byl t with
 | nil=>exact absurd (by rw[<- qar,hb]; rfl) h
 | cons b r=>
  rw[hb] at hd
  exact⟨b,hd,by rw[qaN,hb]; rfl⟩
theorem ql7 {t:ByteArray} (h:t.size≠0):t[t.size-1]?=some (lastC (byl t)):=by
 rw[qgL,List.head?_drop,<- qar,lastC]
 rw[List.getLast?_eq_getElem?]
 cases hg:(byl t)[(byl t).length-1]? with
 | some c=>rfl
 | none=>
  rw[List.getElem?_eq_none_iff] at hg
  have:=qar t
  omega
attribute [local simp] qgC qjd
theorem qhs {kk:Nat} (hkk:kk=1\/kk=2) (fl:Bool) (ts:List ByteArray) (hts : ∀ t∈ts,t.size≠0) (hn:ts.length<2 ^ 30) : ∀ (m i:Nat) (w:List UInt8),i+m=ts.length->(pw w (ts.drop i)).length<2 ^ 40 ->
  Z tQ (.loop kk F243l0 [(0,.ptr 0 0),(6,.dat (.sl (strC ts) ts.length fl)),(7,.int ts.length),(8,.int i)] (PW w))=some (.out (.exit 0) [(0,.ptr 0 0),(6,.dat (.sl (strC ts) ts.length fl)),(7,.int ts.length),(8,.int ts.length),(9,.bool false)] (PW (pw w (ts.drop i))))
 | 0,i,w,hi,hsz=>by
  have hi':i=ts.length:=by omega
  subst hi'
  rw[List.drop_length,qdR]
  rw[qaa]
  rcases hkk with rfl | rfl<;>simp[qac,qd4,List.range_succ]
 | m+1,i,w,hi,hsz=>by
  have hlt:i<ts.length:=by omega
  have hd:ts.drop i=ts[i]::ts.drop (i+1):=List.drop_eq_getElem_cons hlt
  have ht:=hts ts[i] (List.getElem_mem hlt)
  rw[hd,qcE] at hsz ⊢
  have hc:=qfk ts i hlt
  generalize ts[i]=t at *
  obtain⟨b,hb,hs⟩:=qm2 ht
  have hla:=ql7 ht
  have hpos:0<t.size:=by omega
  have hw0:(w++(gap (wl w) t++byl t)).length<2 ^ 40:=Nat.lt_of_le_of_lt (qjf _ _) hsz
  have hts2:t.size<2 ^ 40:=by rw[List.length_append,List.length_append,qar] at hw0; omega
  have ih:=qhs hkk fl ts hts hn m (i+1) (w++(gap (wl w) t++byl t)) (by omega) hsz
  have hlc:lastC (w++(gap (wl w) t++byl t))=lastC (byl t):=by
   rw[<- List.append_assoc,qli]
   intro e
   rw[<- qar,e] at ht
   exact ht rfl
  rw[<- ih]
  have zl:=qmn (lastC w)
  have zb:=qmn b
  have w1:=qaf ((i:Int)+1) (by omega)
  have w2:=qaf ((t.size:Int)-1) (by omega)
  have w3:((t.size:Int)-1).toNat=t.size-1:=by omega
  have w4:(0:Int)<=(t.size:Int)-1:=by omega
  have hge:(1:Int)<=t.size:=by omega
  have hne : ¬ t=⟨#[]⟩:=fun e=>by rw[e] at ht; exact ht rfl
  have hlt':(i:Int)<ts.length:=by omega
  have hne2:eqS t ⟨#[]⟩=false:=by rw[qaX]; simp[hne]
  conv=>lhs; rw[qaa]
  simp only[PW,hlc]
  by_cases h1:qao (lastC w)=true
  ·by_cases h2:qao b=true
   ·have hg:gap (wl w) t=[32]:=by simp[gap,wl,h1,hs,h2]
    rw[hg] at hw0 ⊢
    have hw1:w.length<2 ^ 40:=by rw[List.length_append] at hw0; omega
    have z1:Z tQ (.call 258 [.ptr 0 0,.dat (.lit (.int .u8 32))] (PW' w (lastC w).toNat))=_:=qti w (lastC w).toNat 32 hw1
    have z2:=qpl (w++[32]) (lastC w).toNat t (by rw[List.append_assoc]; exact hw0) ht
    rw[List.append_assoc] at z2
    rw[h1] at zl
    rw[h2] at zb
    simp only[PW',List.length_append,List.length_cons,List.length_nil,Nat.zero_add,qar] at z1 z2
    rcases hkk with rfl | rfl<;>simp[qac,qd4,zl,zb,z1,z2,hb,hla,hc,w1,w2,w3,w4,qar,PW',Nat.add_comm 1,hge,hne,hne2,hlt',hlt,qah,V.len,List.range_succ]
   ·have hg:gap (wl w) t=[]:=by simp[gap,hs,h2]
    rw[hg] at hw0 ⊢
    rw[List.nil_append] at hw0 ⊢
    have z2:=qpl w (lastC w).toNat t hw0 ht
    rw[h1] at zl
    rw[Bool.not_eq_true] at h2
    rw[h2] at zb
    simp only[PW',List.length_append,List.length_cons,List.length_nil,Nat.zero_add,qar] at z2
    rcases hkk with rfl | rfl<;>simp[qac,qd4,zl,zb,z2,hb,hla,hc,w1,w2,w3,w4,qar,PW',Nat.add_comm 1,hge,hne,hne2,hlt',hlt,qah,V.len,List.range_succ]
  ·have hg:gap (wl w) t=[]:=by simp[gap,wl,h1]
   rw[hg] at hw0 ⊢
   rw[List.nil_append] at hw0 ⊢
   have z2:=qpl w (lastC w).toNat t hw0 ht
   rw[Bool.not_eq_true] at h1
   rw[h1] at zl
   simp only[PW',List.length_append,List.length_cons,List.length_nil,Nat.zero_add,qar] at z2
   rcases hkk with rfl | rfl<;>simp[qac,qd4,zl,zb,z2,hb,hla,hc,w1,w2,w3,w4,qar,PW',Nat.add_comm 1,hge,hne,hne2,hlt',hlt,qah,V.len,List.range_succ]
theorem qvw (fl:Bool) {ts:List ByteArray} (hts : ∀ t∈ts,t.size≠0) (hn:ts.length<2 ^ 30) {w:List UInt8} (hsz:(pw w ts).length<2 ^ 40) :
  Z tQ (.call 243 [.ptr 0 0,.dat (.sl (strC ts) ts.length fl)] (PW w))=some (.ret (.tup []) (PW (pw w ts))):=by
 have z:=qhs (.inr rfl) fl ts hts hn ts.length 0 w (by omega) (by rw[List.drop_zero]; exact hsz)
 rw[List.drop_zero] at z
 simp only[PW,PW'] at z
 refine Z_call (pf:=F243) rfl rfl ?_
 simp only[Int.cast_ofNat_Int] at z
 simp[F243,z,V.len,List.range_succ]
theorem qvx (fl:Bool) {ts:List ByteArray} (hts : ∀ t∈ts,t.size≠0) (hn:ts.length<2 ^ 30) {w:List UInt8} (hsz:(pw w ts).length<2 ^ 40) :
  Z tQ (.dcall 243 [.dat (.lit .nilIface),.ptr 0 0,.dat (.sl (strC ts) ts.length fl)] (PW w))=some (.ret (.dat (.lit undef)) (PW (pw w ts))):=by
 have z:=qhs (.inr rfl) fl ts hts hn ts.length 0 w (by omega) (by rw[List.drop_zero]; exact hsz)
 rw[List.drop_zero] at z
 simp only[PW,PW'] at z
 refine qlK (pf:=F243) rfl ?_
 have hfl:F243.body.flat=true:=rfl
 simp only[qbh]
 rw[if_pos ⟨rfl,rfl,rfl,hfl,.inr rfl⟩]
 simp only[Int.cast_ofNat_Int] at z
 simp[F243,z,qi2,V.len,List.range_succ]
theorem qvy (fl:Bool) {t:ByteArray} {ts:List ByteArray} (ht:t.size≠0) (hts : ∀ t∈ts,t.size≠0) (hn:ts.length<2 ^ 29) (hsz:(pw [] (t::ts)).length<2 ^ 40) :
  Z tQ (.call 243 [.ptr 0 0,.dat (.sl (strC (t::ts)) (t::ts).length fl)] PE)=some (.ret (.tup []) (PW (pw [] (t::ts)))):=by
 have hg:gap (wl []) t=[]:=by rw[qr1]; rfl
 rw[qcE,hg] at hsz ⊢
 simp only[List.nil_append] at hsz ⊢
 have hall : ∀ x∈t::ts,x.size≠0:=fun x hx=>by
  rcases List.mem_cons.1 hx with rfl | hx
  ·exact ht
  ·exact hts x hx
 have z:=qhs (kk:=1) (.inl rfl) fl (t::ts) hall (by rw[List.length_cons]; omega) ts.length 1 (byl t) (by rw[List.length_cons]; omega) hsz
 simp only[PW,PW',List.drop_succ_cons,List.drop_zero] at z
 have hla:=ql7 ht
 have hw0:(byl t).length<2 ^ 40:=Nat.lt_of_le_of_lt (qjf _ _) hsz
 rw[qar] at hw0
 have z2:=qtj t hw0 ht
 have zl:Z tQ (.call 257 [.dat (.lit (.int .u8 0))] [])=some (.ret (.bool false) []):=qmn 0
 have w2:=qaf ((t.size:Int)-1) (by omega)
 have w3:((t.size:Int)-1).toNat=t.size-1:=by omega
 have w4:(0:Int)<=(t.size:Int)-1:=by omega
 have hge:(1:Int)<=t.size:=by omega
 have hne : ¬ t=⟨#[]⟩:=fun e=>by rw[e] at ht; exact ht rfl
 have hne2:eqS t ⟨#[]⟩=false:=by rw[qaX]; simp[hne]
 have w5:IntKind.i64.wrap 1=1:=rfl
 have hpos:(0:Int)<(ts.length:Int)+1:=by omega
 have hc:=qfk (t::ts) 0 (by rw[List.length_cons]; omega)
 simp only[List.getElem_cons_zero] at hc
 simp only[PW',qar] at z2
 simp only[qar,Int.cast_ofNat_Int] at z
 refine Z_call (pf:=F243) rfl rfl ?_
 have z1:Z tQ (.loop 1 F243l0 [(0,.ptr 0 0),(6,.dat (.sl (strC (t::ts)) (t::ts).length fl)),(7,.int (t::ts).length),(8,.int 0)] PE)=Z tQ (.loop 1 F243l0 [(0,.ptr 0 0),(6,.dat (.sl (strC (t::ts)) (t::ts).length fl)),(7,.int (t::ts).length),(8,.int 1)] [.cellsT 4 [.ptr 0 0,.own 1 t.size 1,.dat (.lit (.int .u8 (lastC (byl t)).toNat))],.vecT 3 (vb (byl t))]):=by
  conv=>lhs; rw[qaa]
  generalize strC (t::ts)=row at *
  simp[qac,qd4,zl,z2,hla,hc,w2,w3,w4,w5,qar,hge,hne,hne2,hpos,qah,V.len,List.range_succ]
 rw[z] at z1
 generalize strC (t::ts)=row at *
 generalize (t::ts).length=M at *
 simp[F243,z1,V.len,List.range_succ]
end Go.Pm
end SOc
section SOn
namespace Go.Pm
def E.lev:E->Nat
 | .un _ neg _=>qcZ neg
 | .bin _ o _ _=>o.prec
 | _=>8
theorem qig : ∀ {l:List ByteArray},Ok2 l -> ∀ t∈l,Tg (byl t)
 | [],_,t,h=>by cases h
 | u::l,ho,t,h=>by
  rcases List.mem_cons.1 h with rfl | h
  ·exact ho.1
  ·exact qig ho.2.2 t h
theorem qev {s:ByteArray} (h:Tg (byl s)):s.size≠0:=by
 obtain⟨c,r,e,_⟩:=qfG h
 intro h0
 rw[<- qar,e] at h0
 cases h0
theorem qdY (ts:List ByteArray):pw [] ts=qam false ts:=by rw[pw,qr1,List.nil_append]
theorem qfj : ∀ (l:List ByteArray) (p:Bool),(∀ t∈l,t.size≠0)->l.length<=(qam p l).length
 | [],p,_=>by simp
 | t::l,p,h=>by
  have:=qfj l (qbu p t) (fun x hx=>h x (List.mem_cons_of_mem _ hx))
  have h1:=h t (List.mem_cons_self ..)
  have h2:=qar t
  simp only[qam,List.length_append,List.length_cons]
  omega
theorem qew : ∀ s:Ss,s.good none->s.fo.len<=s.tx.length
 | .nil,_=>by simp[Ss.fo]
 | .assign _ s e r,h=>by have:=qew r h.2.2.2; simp[Ss.fo,Ss.tx]; omega
 | .store _ s a b r,h=>by have:=qew r h.2.2.2.2; simp[Ss.fo,Ss.tx]; omega
 | .effect _ a b r,h=>by have:=qew r h.2.2.2; simp[Ss.fo,Ss.tx]; omega
 | .stop r,h=>by have:=qew r h.2; simp[Ss.fo,Ss.tx]; omega
 | .cond w _ c b r,h=>by have:=qew r h.2.2.2; simp[Ss.fo,Ss.tx]; omega
 | .block _ b r,h=>by obtain⟨n,hn,_⟩:=h; cases hn
theorem qkl {b:Ss} (h:b.good (some 1)) : ∃ fb b1,b = .block fb b1 .nil/\b1.good none:=by
 cases b with
 | block fb b1 r=>
  obtain⟨n,hn,h1,h2⟩:=h
  have:n=0:=by simpa using hn.symm
  subst this
  cases r with
  | nil=>exact⟨fb,b1,rfl,h1⟩
  | block _ _ _=>obtain⟨n,hn,_⟩:=h2; simp at hn
  | _=>simp[Ss.good] at h2
 | _=>simp[Ss.good] at h
theorem qpG {b:Ss} (h:b.good (some 2)) : ∃ fb b1 fc b2,b = .block fb b1 (.block fc b2 .nil)/\b1.good none/\b2.good none:=by
 cases b with
 | block fb b1 r=>
  obtain⟨n,hn,h1,h2⟩:=h
  have:n=1:=by simpa using hn.symm
  subst this
  obtain⟨fc,b2,rfl,h3⟩:=qkl h2
  exact⟨fb,b1,fc,b2,rfl,h1,h3⟩
 | _=>simp[Ss.good] at h
def Hd.opt:Hd->Option Ss
 | .none=>Option.none
 | .some _ b=>Option.some b
def Hd.opts (a b c:Hd):Nat->Option Ss
 | 0=>a.opt
 | 1=>b.opt
 | _=>c.opt
end Go.Pm
end SOn
section SF3r
namespace Go.Pm.F
variable (C:Task->Option Res) (q:Nat) (fr:Fr) (σ : S)
@[simp] def F149l0x:PC:=(.seq (.seq (rn [mv 8 4,mv 9 0,lz 10 9,bn 11 .lss 8 10] [0,3,4,11]) (.cond (.t 11) (.skip) (.exit 0))) (.block 1 (.seq (rn [mv 12 0,mv 13 4,cl 14 171 [12,13],jj 5 (.alloc [zN,eN,zN]),st 3 5 14] [0,3,4,5]) (.seq (rn [mv 15 3,la 16 3 5,jj 17 (.bslice 1 [zN,eN,zN] [(0,3,(.t 16))]),jj 18 (.append 3 32 (.t 15) (.t 17)),mv 3 18] [0,3,4,5]) (rn [mv 19 0,mv 20 4,fa 21 1 5,l1 22 21,lz 23 22,bn 24 .add 20 23,cl 25 170 [19,24],mv 4 25] [0,3,4])))))
def F149l0:PC:=F149l0x
theorem qgr:run C q F149l0 fr σ = run C q F149l0x fr σ := rfl
def F149:PFun:=⟨1,[.tmp 2],.seq (rn [jj 2 (.mov (.c (.slice none 0 0)))] [0]) (.seq (rn [jj 3 (.mov (.c (.slice none 0 0)))] [0,3]) (.seq (rn [mv 6 0,jj 7 (.call 170 [(.t 6),(kk 0)]),mv 4 7] [0,3,4]) (.seq (.block 0 (.loop F149l0)) (.seq (rn [mv 26 3,mv 27 0,lz 28 27,jj 29 (.build [zN,eN,zN] [(0,1,(.t 28))]),jj 30 (.bslice 1 [zN,eN,zN] [(0,3,(.t 29))]),jj 31 (.append 3 32 (.t 26) (.t 30)),mv 2 31] [2]) (.ret))))),false,false,false⟩
def F152:PFun:=⟨0,[.tmp 0],.seq (rn [jj 0 (.mov (.c (.slice none 0 0)))] []) (.seq (rn [jj 1 (.bslice 3 [eN,eN,eN] [(0,1,(.c (.string ⟨#[97,99,116]⟩))),(1,1,(.c (.string ⟨#[116,105,99,107]⟩))),(2,1,(.c (.string ⟨#[104,105,116]⟩)))]),mv 0 1] [0]) (.ret)),false,false,false⟩
@[simp] def F170l1x:PC:=(.seq (.seq (rn [mv 13 1,mv 14 0,lz 15 14,bn 16 .lss 13 15,mv 17 16,jt 18 17 (.mov (.t 0)),jt 19 17 (.mov (.t 1)),jt 20 17 (.indexS (.t 18) (.t 19)),jt 21 17 (.bin .neq (.t 20) (.c (.int .u8 10))),jj 22 (.pick (.t 17) (.t 21) kF)] [0,1,22]) (.cond (.t 22) (.skip) (.exit 2))) (.block 3 (rn [mv 23 1,bk 24 .add 23 1,mv 1 24] [0,1])))
def F170l1:PC:=F170l1x
theorem qgs:run C q F170l1 fr σ = run C q F170l1x fr σ := rfl
@[simp] def F170l0x:PC:=(.seq (.seq (rn [mv 5 1,mv 6 0,lz 7 6,bn 8 .lss 5 7] [0,1,8]) (.cond (.t 8) (.skip) (.exit 0))) (.block 1 (.seq (.seq (rn [mv 9 0,mv 10 1,jj 11 (.indexS (.t 9) (.t 10)),jj 12 (.bin .eql (.t 11) (.c (.int .u8 35)))] [0,1,12]) (.cond (.t 12) (.seq (.block 2 (.loop F170l1)) (.exit 1)) (.skip))) (.seq (.seq (rn [mv 25 0,mv 26 1,jj 27 (.indexS (.t 25) (.t 26)),jj 28 (.bin .neq (.t 27) (.c (.int .u8 32))),mv 29 28,jt 30 29 (.mov (.t 0)),jt 31 29 (.mov (.t 1)),jt 32 29 (.indexS (.t 30) (.t 31)),jt 33 29 (.bin .neq (.t 32) (.c (.int .u8 9))),jj 34 (.pick (.t 29) (.t 33) kF),mv 35 34,jt 36 35 (.mov (.t 0)),jt 37 35 (.mov (.t 1)),jt 38 35 (.indexS (.t 36) (.t 37)),jt 39 35 (.bin .neq (.t 38) (.c (.int .u8 10))),jj 40 (.pick (.t 35) (.t 39) kF)] [0,1,40]) (.cond (.t 40) (.exit 0) (.skip))) (rn [mv 41 1,bk 42 .add 41 1,mv 1 42] [0,1])))))
def F170l0:PC:=F170l0x
theorem qe8:run C q F170l0 fr σ = run C q F170l0x fr σ := rfl
def F170:PFun:=⟨2,[.tmp 4],.seq (rn [mx 4 (kk 0)] [0,1]) (.seq (.block 0 (.loop F170l0)) (.seq (rn [mv 43 1,mv 4 43] [4]) (.ret))),false,false,false⟩
@[simp] def F171l0x:PC:=(.seq (.seq (rn [mv 20 5,mv 21 0,lz 22 21,bn 23 .lss 20 22,mv 24 23,jt 25 24 (.mov (.t 0)),jt 26 24 (.mov (.t 5)),jt 27 24 (.indexS (.t 25) (.t 26)),jt 28 24 (.call 192 [(.t 27)]),jt 29 24 (.mov (.t 28)),jf 30 29 (.mov (.t 0)),jf 31 29 (.mov (.t 5)),jf 32 29 (.indexS (.t 30) (.t 31)),jf 33 29 (.call 193 [(.t 32)]),jt 34 24 (.pick (.t 29) kT (.t 33)),jj 35 (.pick (.t 24) (.t 34) kF)] [0,1,4,5,35]) (.cond (.t 35) (.skip) (.exit 0))) (.block 1 (rn [mv 36 5,bk 37 .add 36 1,mv 5 37] [0,1,4,5])))
def F171l0:PC:=F171l0x
theorem qe9:run C q F171l0 fr σ = run C q F171l0x fr σ := rfl
@[simp] def F171l1x:PC:=(.seq (.seq (rn [mv 60 5,mv 61 0,lz 62 61,bn 63 .lss 60 62,mv 64 63,jt 65 64 (.mov (.t 0)),jt 66 64 (.mov (.t 5)),jt 67 64 (.indexS (.t 65) (.t 66)),jt 68 64 (.call 193 [(.t 67)]),jj 69 (.pick (.t 64) (.t 68) kF)] [0,1,4,5,69]) (.cond (.t 69) (.skip) (.exit 2))) (.block 3 (rn [mv 70 5,bk 71 .add 70 1,mv 5 71] [0,1,4,5])))
def F171l1:PC:=F171l1x
theorem qgt:run C q F171l1 fr σ = run C q F171l1x fr σ := rfl
def F171:PFun:=⟨2,[.cell 4 true 3],.seq (rn [jj 4 (.alloc [zN,eN,zN])] [0,1,4]) (.seq (.seq (rn [mv 8 1,mv 9 0,lz 10 9,bn 11 .geq 8 10] [0,1,4,11]) (.cond (.t 11) (.seq (rn [mv 12 1,jj 13 (.build [zN,eN,zN] [(0,1,(.t 12))]),st 3 4 13] [4]) (.ret)) (.skip))) (.seq (rn [mv 14 1,bk 15 .add 14 1,mv 5 15] [0,1,4,5]) (.seq (.seq (rn [mv 16 0,mv 17 1,jj 18 (.indexS (.t 16) (.t 17)),cl 19 192 [18]] [0,1,4,5,19]) (.cond (.t 19) (.seq (.block 0 (.loop F171l0)) (.seq (rn [mv 38 1,mv 39 0,mv 40 1,mv 41 5,jj 42 (.sliceS (.t 39) (some (.t 40)) (some (.t 41))),jj 43 (.build [zN,eN,zN] [(0,1,(.t 38)),(1,1,(.t 42))]),jj 6 (.alloc [zN,eN,zN]),st 3 6 43] [1,4,5,6]) (.seq (.seq (rn [mv 44 5,mv 45 1,bn 46 .sub 44 45,bk 47 .gtr 46 8,mv 48 47,jt 49 48 (.fieldAddr 1 (.t 6)),jt 50 48 (.load false 1 (.t 49)),jt 51 48 (.call 194 [(.t 50)]),jt 52 48 (.un .not (.t 51)),jj 53 (.pick (.t 48) (.t 52) kF)] [4,6,53]) (.cond (.t 53) (rn [fa 54 2 6,jn (.store 1 (.t 54) (kk 2))] [4,6]) (.skip))) (.seq (rn [la 55 3 6,st 3 4 55] [4]) (.ret))))) (.skip))) (.seq (.seq (rn [mv 56 0,mv 57 1,jj 58 (.indexS (.t 56) (.t 57)),cl 59 193 [58]] [0,1,4,5,59]) (.cond (.t 59) (.seq (.block 2 (.loop F171l1)) (.seq (rn [mv 72 1,mv 73 0,mv 74 1,mv 75 5,jj 76 (.sliceS (.t 73) (some (.t 74)) (some (.t 75))),jj 77 (.build [zN,eN,zN] [(0,1,(.t 72)),(1,1,(.t 76))]),jj 7 (.alloc [zN,eN,zN]),st 3 7 77] [4,7]) (.seq (.seq (rn [fa 78 1 7,l1 79 78,cl 80 195 [79],bk 81 .lss 80 0] [4,7,81]) (.cond (.t 81) (rn [fa 82 2 7,jn (.store 1 (.t 82) (kk 6))] [4,7]) (.skip))) (.seq (rn [la 83 3 7,st 3 4 83] [4]) (.ret))))) (.skip))) (.seq (.seq (rn [mv 84 1,bk 85 .add 84 2,mv 86 0,lz 87 86,bn 88 .leq 85 87,mv 89 88,jt 90 89 (.bslice 6 [eN,eN,eN,eN,eN,eN] [(0,1,(.c (.string ⟨#[124,124]⟩))),(1,1,(.c (.string ⟨#[38,38]⟩))),(2,1,(.c (.string ⟨#[60,61]⟩))),(3,1,(.c (.string ⟨#[62,61]⟩))),(4,1,(.c (.string ⟨#[61,61]⟩))),(5,1,(.c (.string ⟨#[33,61]⟩)))]),jt 91 89 (.mov (.t 0)),jt 92 89 (.mov (.t 1)),jt 93 89 (.mov (.t 1)),jt 94 89 (.bin .add (.t 93) (kk 2)),jt 95 89 (.mov (.t 0)),jt 96 89 (.len .str (.t 95)),jt 97 89 (.min [(.t 94),(.t 96)]),jt 98 89 (.sliceS (.t 91) (some (.t 92)) (some (.t 97))),jt 99 89 (.call 196 [(.t 90),(.t 98)]),jj 100 (.pick (.t 89) (.t 99) kF)] [0,1,4,5,100]) (.cond (.t 100) (.seq (rn [mv 101 1,mv 102 0,mv 103 1,mv 104 1,bk 105 .add 104 2,jj 106 (.sliceS (.t 102) (some (.t 103)) (some (.t 105))),jj 107 (.build [zN,eN,zN] [(0,1,(.t 101)),(1,1,(.t 106))]),st 3 4 107] [4]) (.ret)) (.skip))) (.seq (.seq (rn [jj 108 (.bslice 16 [eN,eN,eN,eN,eN,eN,eN,eN,eN,eN,eN,eN,eN,eN,eN,eN] [(0,1,(.c (.string ⟨#[123]⟩))),(1,1,(.c (.string ⟨#[125]⟩))),(2,1,(.c (.string ⟨#[91]⟩))),(3,1,(.c (.string ⟨#[93]⟩))),(4,1,(.c (.string ⟨#[40]⟩))),(5,1,(.c (.string ⟨#[41]⟩))),(6,1,(.c (.string ⟨#[61]⟩))),(7,1,(.c (.string ⟨#[59]⟩))),(8,1,(.c (.string ⟨#[44]⟩))),(9,1,(.c (.string ⟨#[60]⟩))),(10,1,(.c (.string ⟨#[62]⟩))),(11,1,(.c (.string ⟨#[43]⟩))),(12,1,(.c (.string ⟨#[45]⟩))),(13,1,(.c (.string ⟨#[42]⟩))),(14,1,(.c (.string ⟨#[47]⟩))),(15,1,(.c (.string ⟨#[33]⟩)))]),mv 109 0,mv 110 1,mv 111 5,jj 112 (.sliceS (.t 109) (some (.t 110)) (some (.t 111))),cl 113 196 [108,112]] [0,1,4,5,113]) (.cond (.t 113) (.seq (rn [mv 114 1,mv 115 0,mv 116 1,mv 117 5,jj 118 (.sliceS (.t 115) (some (.t 116)) (some (.t 117))),jj 119 (.build [zN,eN,zN] [(0,1,(.t 114)),(1,1,(.t 118))]),st 3 4 119] [4]) (.ret)) (.skip))) (.seq (rn [mv 120 1,mv 121 0,mv 122 1,mv 123 5,jj 124 (.sliceS (.t 121) (some (.t 122)) (some (.t 123))),jj 125 (.build [zN,eN,zN] [(0,1,(.t 120)),(1,1,(.t 124)),(2,1,(kk 12))]),st 3 4 125] [4]) (.ret)))))))),false,false,false⟩
def F192:PFun:=⟨1,[.tmp 2],.seq (rn [mx 2 kF] [0]) (.seq (rn [mv 3 0,jj 4 (.bin .geq (.t 3) (.c (.int .u8 97))),mv 5 4,jt 6 5 (.mov (.t 0)),jt 7 5 (.bin .leq (.t 6) (.c (.int .u8 122))),jj 8 (.pick (.t 5) (.t 7) kF),mv 2 8] [2]) (.ret)),false,false,false⟩
def F193:PFun:=⟨1,[.tmp 2],.seq (rn [mx 2 kF] [0]) (.seq (rn [mv 3 0,jj 4 (.bin .geq (.t 3) (.c (.int .u8 48))),mv 5 4,jt 6 5 (.mov (.t 0)),jt 7 5 (.bin .leq (.t 6) (.c (.int .u8 57))),jj 8 (.pick (.t 5) (.t 7) kF),mv 2 8] [2]) (.ret)),false,false,false⟩
def F194:PFun:=⟨1,[.tmp 2],.seq (rn [mx 2 kF] [0]) (.seq (rn [mv 3 0,cl 4 198 [3],mv 5 4,jf 6 5 (.bslice 13 [eN,eN,eN,eN,eN,eN,eN,eN,eN,eN,eN,eN,eN] [(0,1,(.c (.string ⟨#[111,110]⟩))),(1,1,(.c (.string ⟨#[97,99,116]⟩))),(2,1,(.c (.string ⟨#[116,105,99,107]⟩))),(3,1,(.c (.string ⟨#[104,105,116]⟩))),(4,1,(.c (.string ⟨#[105,102]⟩))),(5,1,(.c (.string ⟨#[101,108,115,101]⟩))),(6,1,(.c (.string ⟨#[119,104,105,108,101]⟩))),(7,1,(.c (.string ⟨#[101,102,102,101,99,116]⟩))),(8,1,(.c (.string ⟨#[115,116,111,112]⟩))),(9,1,(.c (.string ⟨#[116,114,117,101]⟩))),(10,1,(.c (.string ⟨#[102,97,108,115,101]⟩))),(11,1,(.c (.string ⟨#[115,101,108,102]⟩))),(12,1,(.c (.string ⟨#[111,116,104,101,114]⟩)))]),jf 7 5 (.mov (.t 0)),jf 8 5 (.call 196 [(.t 6),(.t 7)]),jj 9 (.pick (.t 5) kT (.t 8)),mv 2 9] [2]) (.ret)),false,false,false⟩
@[simp] def F195l0x:PC:=(.seq (.seq (rn [mv 5 4,mv 6 0,lz 7 6,bn 8 .lss 5 7] [0,3,4,8]) (.cond (.t 8) (.skip) (.exit 0))) (.seq (.block 1 (.seq (rn [mv 11 3,jj 12 (.bin .mul (kk 10) (.t 11)),mv 13 0,mv 14 4,jj 15 (.indexS (.t 13) (.t 14)),jj 16 (.conv (.int .i64) (.t 15)),bn 17 .add 12 16,bk 18 .sub 17 48,mv 3 18] [0,3,4]) (.seq (rn [mv 19 3,bk 20 .gtr 19 2147483647] [0,3,4,20]) (.cond (.t 20) (.seq (rn [mx 2 (kk (-1))] [2]) (.ret)) (.skip))))) (rn [mv 9 4,bk 10 .add 9 1,mv 4 10] [0,3,4])))
def F195l0:PC:=F195l0x
theorem qgu:run C q F195l0 fr σ = run C q F195l0x fr σ := rfl
def F195:PFun:=⟨1,[.tmp 2],.seq (rn [mx 2 (kk 0)] [0]) (.seq (rn [mx 3 (kk 0)] [0,3]) (.seq (.seq (rn [mx 4 (kk 0)] [0,3,4]) (.block 0 (.loop F195l0))) (.seq (rn [mv 21 3,mv 2 21] [2]) (.ret)))),false,false,false⟩
@[simp] def F196l0x:PC:=(.seq (.seq (rn [mv 6 5,mv 7 0,ls 8 7,bn 9 .lss 6 8] [0,1,5,9]) (.cond (.t 9) (.skip) (.exit 0))) (.seq (.block 1 (.seq (rn [mv 12 0,mv 13 5,jj 14 (.indexAddr 1 (.t 12) (.t 13)),l1 15 14,mv 16 1,bn 17 .eql 15 16] [0,1,5,17]) (.cond (.t 17) (.seq (rn [mx 4 kT] [4]) (.ret)) (.skip)))) (rn [mv 10 5,bk 11 .add 10 1,mv 5 11] [0,1,5])))
def F196l0:PC:=F196l0x
theorem qgv:run C q F196l0 fr σ = run C q F196l0x fr σ := rfl
def F196:PFun:=⟨2,[.tmp 4],.seq (rn [mx 4 kF] [0,1]) (.seq (.seq (rn [mx 5 (kk 0)] [0,1,5]) (.block 0 (.loop F196l0))) (.seq (rn [mx 4 kF] [4]) (.ret))),false,false,false⟩
def F198:PFun:=⟨1,[.tmp 2],.seq (rn [mx 2 kF] [0]) (.seq (rn [jj 3 (.bslice 8 [eN,eN,eN,eN,eN,eN,eN,eN] [(0,1,(.c (.string ⟨#[120]⟩))),(1,1,(.c (.string ⟨#[121]⟩))),(2,1,(.c (.string ⟨#[118,120]⟩))),(3,1,(.c (.string ⟨#[118,121]⟩))),(4,1,(.c (.string ⟨#[97]⟩))),(5,1,(.c (.string ⟨#[98]⟩))),(6,1,(.c (.string ⟨#[104,105,116]⟩))),(7,1,(.c (.string ⟨#[115,116,105,108,108]⟩)))]),mv 4 0,cl 5 196 [3,4],mv 2 5] [2]) (.ret)),false,false,false⟩
end Go.Pm.F
end SF3r
section STR
namespace Go.Pm.F
def tR:Nat->Option PFun
 | 149=>some F149
 | 152=>some F152
 | 170=>some F170
 | 171=>some F171
 | 192=>some F192
 | 193=>some F193
 | 194=>some F194
 | 195=>some F195
 | 196=>some F196
 | 198=>some F198
 | _=>none
end Go.Pm.F
end STR
section SJa
namespace Go.Pm
open F
set_option maxHeartbeats 2000000
theorem qki (c:UInt8):Z tR (.call 192 [.dat (.lit (.int .u8 c.toNat))] [])=some (.ret (.bool (qaM c)) []):=by
 refine Z_call (pf:=F192) rfl rfl ?_
 by_cases h1:(97:Int)<=c.toNat
 ·have h1':97<=c.toNat:=by omega
  by_cases h2:(c.toNat:Int)<=122
  ·have h2':c.toNat<=122:=by omega
   simp[F192,qaM,h1,h1',h2,h2']
  ·have h2' : ¬ c.toNat<=122:=by omega
   simp[F192,qaM,h1,h1',h2,h2']
 ·have h1' : ¬ 97<=c.toNat:=by omega
  simp[F192,qaM,h1,h1']
theorem qmf (c:UInt8):Z tR (.call 193 [.dat (.lit (.int .u8 c.toNat))] [])=some (.ret (.bool (qaj c)) []):=by
 refine Z_call (pf:=F193) rfl rfl ?_
 by_cases h1:(48:Int)<=c.toNat
 ·have h1':48<=c.toNat:=by omega
  by_cases h2:(c.toNat:Int)<=57
  ·have h2':c.toNat<=57:=by omega
   simp[F193,qaj,h1,h1',h2,h2']
  ·have h2' : ¬ c.toNat<=57:=by omega
   simp[F193,qaj,h1,h1',h2,h2']
 ·have h1' : ¬ 48<=c.toNat:=by omega
  simp[F193,qaj,h1,h1']
structure RowS (d:D) (l:List ByteArray):Prop where
 len : ∀ σ,V.len σ .sl (.dat d)=some l.length
 at_ : ∀ i:Nat,i<l.length->qah 1 (.dat d) i=some (.dat (.imm (strC l) i))
 one:V.one (.dat d)=true
 cells:V.cells (.dat d)=[.dat d]
theorem qag (l:List ByteArray) (f:Bool):RowS (.sl (strC l) l.length f) l where
 len _:=rfl
 at_ i h:=by simp[qah,h]
 one:=rfl
 cells:=rfl
theorem qlp {d:D} {l:List ByteArray} (hd:RowS d l) (hl:l.length<2 ^ 40) (s:ByteArray) : ∀ (m i:Nat),i+m=l.length ->
  Z tR (.loop 0 F196l0 [(0,.dat d),(1,.str s),(5,.int i)] [])=some (if s∈l.drop i then .out .ret [(4,.bool true)] [] else .out (.exit 0) [(0,.dat d),(1,.str s),(5,.int l.length),(9,.bool false)] [])
 | 0,i,hi=>by
  have ho:=hd.one
  have hc:=hd.cells
  have hn:=hd.len
  rw[qaa]
  obtain rfl:i=l.length:=by omega
  simp[qac,qgv,ho,hc,hn]
 | m+1,i,hi=>by
  have ho:=hd.one
  have hc:=hd.cells
  have hn:=hd.len
  have hil:i<l.length:=by omega
  have a:=hd.at_ i hil
  have c:=qfk l i hil
  have w1:=qaf ((i:Int)+1) (by omega)
  have hlt:(i:Int)<l.length:=by omega
  have hdrop:l.drop i=l[i]::l.drop (i+1):=List.drop_eq_getElem_cons hil
  rw[qaa]
  by_cases he:l[i]=s
  ·have hmem:s∈l.drop i:=by rw[hdrop,he]; exact List.mem_cons_self ..
   rw[if_pos hmem]
   simp[qac,qgv,ho,hc,hn,a,c,w1,hlt,qaX,he]
  ·have hmem:(s∈l.drop i)=(s∈l.drop (i+1)):=by
    rw[hdrop,List.mem_cons]
    simp[Ne.symm he]
   have ih:=qlp hd hl s m (i+1) (by omega)
   simp only[Int.natCast_add,Int.cast_ofNat_Int] at ih
   simp[qac,qgv,ho,hc,hn,a,c,w1,hlt,qaX,he,ih,hmem]
theorem qng {d:D} {l:List ByteArray} (hd:RowS d l) (hl:l.length<2 ^ 40) (s:ByteArray):Z tR (.call 196 [.dat d,.str s] [])=some (.ret (.bool (decide (s∈l))) []):=by
 refine Z_call (pf:=F196) rfl rfl ?_
 have ho:=hd.one
 have hc:=hd.cells
 have z:=qlp hd hl s l.length 0 (by omega)
 simp only[Int.natCast_zero,List.drop_zero] at z
 by_cases h:s∈l
 ·simp[F196,ho,hc,z,h]
 ·simp[F196,ho,hc,z,h]
theorem qrp (s:ByteArray):Z tR (.call 198 [.str s] [])=some (.ret (.bool (decide (s∈fieldNames))) []):=by
 refine Z_call (pf:=F198) rfl rfl ?_
 have z:=qng (qag fieldNames true) (by decide) s
 simp only[fieldNames,strC,List.map_cons,List.map_nil,List.length_cons,List.length_nil,bs,qik,qnj] at z
 simp[F198,z,fieldNames,bs,qik,qnj,List.range_succ]
theorem qnZ (s:ByteArray):Z tR (.call 194 [.str s] [])=some (.ret (.bool (decide (s∈fieldNames\/s∈wordNames))) []):=by
 refine Z_call (pf:=F194) rfl rfl ?_
 have z1:=qrp s
 have z:=qng (qag wordNames true) (by decide) s
 simp only[wordNames,strC,List.map_cons,List.map_nil,List.length_cons,List.length_nil,bs,qik] at z
 by_cases h:s∈fieldNames
 ·simp[F194,z1,h,List.range_succ]
 ·simp[F194,z1,h,z,wordNames,bs,qik,List.range_succ]
theorem qtL (s:ByteArray) (i:Nat):s[i]?=s.data.toList[i]?:=by
 by_cases h:i<s.size
 ·rw[getElem?_pos s i h,List.getElem?_eq_getElem (by rw[Array.length_toList]; exact h)]
  simp[ByteArray.getElem_eq_getElem_data]
 ·rw[getElem?_neg s i h,List.getElem?_eq_none (by rw[Array.length_toList]; exact Nat.not_lt.1 h)]
theorem qhg {s:ByteArray} {i:Nat} (h:i<s.size) : ∃ c,s[i]?=some c/\s.data.toList[i]?=some c:=by
 refine⟨s.data.toList[i]'(by rw[Array.length_toList]; exact h),?_,List.getElem?_eq_getElem _⟩
 rw[qtL]
 exact List.getElem?_eq_getElem _
theorem qpD (l:List UInt8) (c:UInt8):digV (l++[c])=10*digV l+(c.toNat-48):=by simp[digV]
theorem qpE : ∀ (r:List UInt8) (v:Nat),v<=r.foldl (fun v c=>10*v+(c.toNat-48)) v
 | [],v=>Nat.le_refl v
 | c::r,v=>Nat.le_trans (by omega) (qpE r (10*v+(c.toNat-48)))
theorem qpF (l r:List UInt8):digV l<=digV (l++r):=by
 unfold digV
 rw[List.foldl_append]
 exact qpE r _
theorem qjm {s:ByteArray} (hs : ∀ c∈s.data.toList,qaj c=true) (hl:s.size<2 ^ 40) : ∀ (m i:Nat),i+m=s.size->digV (s.data.toList.take i)<=2147483647 ->
  Z tR (.loop 0 F195l0 [(0,.str s),(3,.int (digV (s.data.toList.take i))),(4,.int i)] []) =
   some (if 2147483647<digV s.data.toList then .out .ret [(2,.int (-1))] [] else .out (.exit 0) [(0,.str s),(3,.int (digV s.data.toList)),(4,.int s.size),(8,.bool false)] [])
 | 0,i,hi,hn=>by
  obtain rfl:i=s.size:=by omega
  have ht:s.data.toList.take s.size=s.data.toList:=List.take_of_length_le (by rw[Array.length_toList]; exact Nat.le_refl _)
  rw[ht] at hn ⊢
  rw[if_neg (by omega),qaa]
  simp[qac,qgu,V.len]
 | m+1,i,hi,hn=>by
  have hil:i<s.size:=by omega
  obtain⟨c,h1,h2⟩:=qhg hil
  have hc:=hs c (List.mem_of_getElem? h2)
  simp only[qaj,Bool.and_eq_true,decide_eq_true_eq] at hc
  have ht:s.data.toList.take (i+1)=s.data.toList.take i++[c]:=by
   rw[List.take_add_one,h2]; rfl
  have hsn:digV (s.data.toList.take (i+1))=10*digV (s.data.toList.take i)+(c.toNat-48):=by rw[ht,qpD]
  have hlt:(i:Int)<s.size:=by omega
  have w1:=qaf ((i:Int)+1) (by omega)
  have w2:=qaf (10*(digV (s.data.toList.take i):Int)) (by omega)
  have w3:=qaf (c.toNat:Int) (by omega)
  have w4:=qaf (10*(digV (s.data.toList.take i):Int)+c.toNat) (by omega)
  have w5:IntKind.i64.wrap (10*(digV (s.data.toList.take i):Int)+c.toNat-48)=(digV (s.data.toList.take (i+1)):Int):=by
   rw[qaf _ (by omega),hsn]; omega
  rw[qaa]
  by_cases hbig:2147483647<digV (s.data.toList.take (i+1))
  ·have hall:2147483647<digV s.data.toList:=by
    have:=qpF (s.data.toList.take (i+1)) (s.data.toList.drop (i+1))
    rw[List.take_append_drop] at this
    omega
   have hb : ¬ (digV (s.data.toList.take (i+1)):Int)<=2147483647:=by omega
   have hb':(2147483647:Int)<digV (s.data.toList.take (i+1)):=by omega
   rw[if_pos hall]
   simp[qac,qgu,V.len,h1,hlt,w1,w2,w3,w4,w5,hb,hb',qnB]
  ·have hb : ¬ (2147483647:Int)<digV (s.data.toList.take (i+1)):=by omega
   have ih:=qjm hs hl m (i+1) (by omega) (by omega)
   simp only[Int.natCast_add,Int.cast_ofNat_Int] at ih
   simp[qac,qgu,V.len,h1,hlt,w1,w2,w3,w4,w5,hb,ih,qnB]
def qum (l:List UInt8):Int:=if 2147483647<digV l then -1 else digV l
theorem qtM {s:ByteArray} (hs : ∀ c∈s.data.toList,qaj c=true) (hl:s.size<2 ^ 40):Z tR (.call 195 [.str s] [])=some (.ret (.int (qum s.data.toList)) []):=by
 refine Z_call (pf:=F195) rfl rfl ?_
 have z:=qjm hs hl s.size 0 (by omega) (by simp[digV])
 simp only[List.take_zero,Int.natCast_zero,show digV []=0 from rfl] at z
 unfold qum
 by_cases h:2147483647<digV s.data.toList
 ·simp[F195,z,h]
 ·simp[F195,z,h]
end Go.Pm
end SJa
