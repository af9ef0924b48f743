/- The abstract machine's program, printed by a program of our own: group 3. -/
import Derived.Test.YtoccgneneplciaaGreatDoorPmEt
import Derived.Test.YtoccgneneplciaaGreatDoorPmR1
import Derived.Test.YtoccgneneplciaaGreatDoorPmAL
set_option linter.unusedSimpArgs false
set_option linter.unusedVariables false
set_option maxHeartbeats 4000000
section
namespace Go.Pm.F
variable(C:Task->Option Res)(q:Nat)(fr:Fr)(σ : S)
@[simp] def F228a0x:PC:=(rn [jj 6 (.alloc [zN,eN,zN,zN,zN]),st 5 6 20] [1000000,5,6])
def F228a0:PC:=F228a0x
theorem qjV:run C q F228a0 fr σ = run C q F228a0x fr σ := rfl
@[simp] def F228b0x:PC:=(.block 1 (.region (some []) [⟨some 21,.load false 1 (.t 5),none,[7]⟩,l1 22 5,nc 23 22,fa 24 2 23,l1 25 24,la 26 5 6,jj 27 (.bslice 1 [zN,eN,zN,zN,zN] [(0,5,(.t 26))]),jj 28 (.append 5 48 (.t 25) (.t 27)),nc 29 21,fa 30 2 29,st 1 30 28] [1000000]))
def F228b0:PC:=F228b0x
theorem qjW:run C q F228b0 fr σ = run C q F228b0x fr σ := rfl
theorem qiE:F228a0.flat=true:=rfl
theorem qiF:F228b0.flat=true:=rfl
def F228:PFun:=⟨1,[.cell 2 true 12,.cell 3 false 1,.cell 4 false 1],.seq (rn [jj 2 (.alloc [zN,zN,eN,sN,zN,zN,eN,sN,zN,zN,eN,sN]),jj 3 (.alloc [zN]),jj 4 (.alloc [zN])] [1000000,0,2,3,4]) (.seq (.seq (rn [mv 7 0,lz 8 7,bk 9 .gtr 8 2000] [1000000,0,2,3,4,9]) (.cond (.t 9) (.seq (rn [jj 10 (.build [zN,zN,eN,sN,zN,zN,eN,sN,zN,zN,eN,sN] []),st 12 2 10,jn (.store 1 (.t 3) (kk 2000)),jn (.store 1 (.t 4) (kk 2))] [1000000,2,3,4]) (.ret)) (.skip))) (.seq (rn [mv 11 0,cl 12 239 [11],jj 13 (.build [eN,(.lit (.map none)),sN,zN,zN,zN] [(0,2,(.t 12)),(5,1,(kk 12))]),bx 14 13,jj 5 (.alloc [(.lit (.pointer none))]),st 1 5 14] [1000000,2,3,4,5]) (.seq (rn [jj 15 (.mkfn 240 [] [(.t 5),(.t 2),(.t 3),(.t 4)]),jj 1000000 (.defer (.t 15) [])] [1000000,2,3,4,5]) (.seq (.seq (rn [l1 16 5,nc 17 16,fa 18 0 17,cl 19 241 [18]] [1000000,2,3,4,5,19]) (.block 0 (.range (.t 19) [20] F228a0 F228b0))) (.seq (rn [l1 31 5,cl 32 242 [31],st 12 2 32,jn (.store 1 (.t 3) (kk 0)),jn (.store 1 (.t 4) (kk 0))] [1000000,2,3,4]) (.ret)))))),false,true,false⟩
@[simp] def F231l0x:PC:=(.seq (rn [bk 10 .lss 9 3] [1,3,8,9,10]) (.seq (.cond (.t 10) (.skip) (.exit 0)) (.seq (.block 1 (.seq (rn [mv 11 9,jj 12 (.indexA false 3 1 (.t 8) (.t 9)),mv 4 11,mv 5 12] [1,3,4,5,8,9]) (.seq (rn [mv 13 4,fa 14 0 1,jj 15 (.indexAddrA 3 4 (.t 14) (.t 13)),fa 16 0 15,l1 17 16,bk 18 .neq 17 0] [1,3,4,5,8,9,18]) (.cond (.t 18) (.seq (rn [mv 19 3,mv 20 5,jj 21 (.bslice 2 [eN,eN] [(0,1,(.c (.string ⟨#[111,110]⟩))),(1,1,(.t 20))]),cl 22 243 [19,21]] [1,3,4,8,9]) (rn [mv 23 3,mv 24 4,fa 25 0 1,jj 26 (.indexAddrA 3 4 (.t 25) (.t 24)),la 27 4 26,cl 28 244 [23,27]] [1,3,8,9])) (.skip))))) (rn [bk 29 .add 9 1,mv 9 29] [1,3,8,9]))))
def F231l0:PC:=F231l0x
theorem qcE:run C q F231l0 fr σ = run C q F231l0x fr σ := rfl
def F231:PFun:=⟨1,[.tmp 2],.seq (rn [bx 1 0,jj 2 (.mov (.c (.string ⟨#[]⟩)))] [1]) (.seq (rn [jj 6 (.build [(.lit (.pointer none)),sN,(.lit (.int .u8 0))] []),jj 7 (.boxT 4 (.t 6)),mv 3 7] [1,3]) (.seq (.seq (rn [jj 8 (.build [eN,eN,eN] [(0,1,(.c (.string ⟨#[97,99,116]⟩))),(1,1,(.c (.string ⟨#[116,105,99,107]⟩))),(2,1,(.c (.string ⟨#[104,105,116]⟩)))]),mx 9 (kk 0)] [1,3,8,9]) (.block 0 (.loop F231l0))) (.seq (rn [mv 30 3,nc 31 30,fa 32 0 31,cl 33 245 [32],mv 2 33] [2]) (.ret)))),false,false,false⟩
def F239:PFun:=⟨1,[.cell 2 true 2],.seq (rn [jj 2 (.alloc [eN,(.lit (.map none))])] [0,2]) (.seq (rn [mv 3 0,jj 4 (.mkmap),jn (.mapset .s (.t 4) (.c (.string ⟨#[111,110]⟩)) (kk 2)),jn (.mapset .s (.t 4) (.c (.string ⟨#[97,99,116]⟩)) (kk 2)),jn (.mapset .s (.t 4) (.c (.string ⟨#[116,105,99,107]⟩)) (kk 2)),jn (.mapset .s (.t 4) (.c (.string ⟨#[105,102]⟩)) (kk 2)),jn (.mapset .s (.t 4) (.c (.string ⟨#[101,108,115,101]⟩)) (kk 2)),jn (.mapset .s (.t 4) (.c (.string ⟨#[119,104,105,108,101]⟩)) (kk 2)),jn (.mapset .s (.t 4) (.c (.string ⟨#[101,102,102,101,99,116]⟩)) (kk 2)),jn (.mapset .s (.t 4) (.c (.string ⟨#[115,116,111,112]⟩)) (kk 2)),jn (.mapset .s (.t 4) (.c (.string ⟨#[116,114,117,101]⟩)) (kk 2)),jn (.mapset .s (.t 4) (.c (.string ⟨#[102,97,108,115,101]⟩)) (kk 2)),jn (.mapset .s (.t 4) (.c (.string ⟨#[115,101,108,102]⟩)) (kk 2)),jn (.mapset .s (.t 4) (.c (.string ⟨#[111,116,104,101,114]⟩)) (kk 2)),jn (.mapset .s (.t 4) (.c (.string ⟨#[120]⟩)) (kk 3)),jn (.mapset .s (.t 4) (.c (.string ⟨#[121]⟩)) (kk 3)),jn (.mapset .s (.t 4) (.c (.string ⟨#[118,120]⟩)) (kk 3)),jn (.mapset .s (.t 4) (.c (.string ⟨#[118,121]⟩)) (kk 3)),jn (.mapset .s (.t 4) (.c (.string ⟨#[97]⟩)) (kk 3)),jn (.mapset .s (.t 4) (.c (.string ⟨#[98]⟩)) (kk 3)),jn (.mapset .s (.t 4) (.c (.string ⟨#[104,105,116]⟩)) (kk 3)),jn (.mapset .s (.t 4) (.c (.string ⟨#[115,116,105,108,108]⟩)) (kk 3)),mv 5 4,jj 6 (.build [eN,(.lit (.map none))] [(0,1,(.t 3)),(1,1,(.t 5))]),st 2 2 6] [2]) (.ret)),false,false,false⟩
def F240:PFun:=⟨4,[],.seq (rn [jj 4 (.recov),jj 5 (.isnil false true (.t 4))] [0,1,2,3,5]) (.cond (.t 5) (.region (some []) [jj 6 (.build [zN,zN,eN,sN,zN,zN,eN,sN,zN,zN,eN,sN] []),l1 7 0,nc 8 7,fa 9 4 8,l1 10 9,l1 11 0,nc 12 11,fa 13 5 12,l1 14 13,st 12 1 6,st 1 2 10,st 1 3 14] []) (.skip)),false,false,true⟩
def F241:PFun:=⟨1,[.tmp 2],.seq (rn [bx 1 0,jj 2 (.mov (.c .nilFunc))] [1]) (.seq (rn [jj 3 (.mkfn 249 [] [(.t 1)]),mv 2 3] [2]) (.ret)),false,false,false⟩
@[simp] def F242l0x:PC:=(.seq (.seq (rn [mv 5 0,cl 6 252 [5],jj 7 (.field false 0 1 (.t 6)),bk 8 .neq 7 0] [0,2,3,8]) (.cond (.t 8) (.skip) (.exit 0))) (.block 1 (.seq (rn [mv 9 0,jj 10 (.call 253 [(.t 9),(.c (.string ⟨#[111,110]⟩))])] [0,2,3]) (.seq (rn [mv 11 0,cl 12 254 [11],mv 4 12] [0,2,3,4]) (.seq (.seq (rn [mv 13 4,fa 14 0 3,jj 15 (.indexAddrA 3 4 (.t 14) (.t 13)),fa 16 0 15,l1 17 16,bk 18 .neq 17 0] [0,2,3,4,18]) (.cond (.t 18) (rn [mv 19 0,mv 20 0,cl 21 252 [20],jj 22 (.call 255 [(.t 19),(.t 21),(kk 4)])] [0,2,3,4]) (.skip))) (.seq (rn [mv 23 0,nc 24 23,fa 25 3 24,l1 26 25,bk 27 .add 26 1,nc 28 23,fa 29 3 28,st 1 29 27] [0,2,3,4]) (rn [mv 30 4,mv 31 0,jj 32 (.call 256 [(.t 31),(kk 1)]),fa 33 0 3,jj 34 (.indexAddrA 3 4 (.t 33) (.t 30)),st 4 34 32] [0,2,3])))))))
def F242l0:PC:=F242l0x
theorem qcY:run C q F242l0 fr σ = run C q F242l0x fr σ := rfl
def F242:PFun:=⟨1,[.cell 2 true 12],.seq (rn [jj 2 (.alloc [zN,zN,eN,sN,zN,zN,eN,sN,zN,zN,eN,sN])] [0,2]) (.seq (rn [jj 3 (.alloc [zN,zN,eN,sN,zN,zN,eN,sN,zN,zN,eN,sN])] [0,2,3]) (.seq (.block 0 (.loop F242l0)) (.seq (rn [la 35 12 3,st 12 2 35] [2]) (.ret)))),false,false,false⟩
@[simp] def F243l0x:PC:=(.seq (rn [bn 9 .lss 8 7] [0,6,7,8,9]) (.seq (.cond (.t 9) (.skip) (.exit 0)) (.seq (.block 1 (.seq (rn [jj 10 (.indexAddr 1 (.t 6) (.t 8)),l1 11 10,mv 5 11] [0,5,6,7,8]) (.seq (.seq (rn [mv 12 5,jj 13 (.bin .eql (.t 12) (.c (.string ⟨#[]⟩)))] [0,5,6,7,8,13]) (.cond (.t 13) (.exit 1) (.skip))) (.seq (.seq (rn [mv 14 0,nc 15 14,fa 16 2 15,l1 17 16,cl 18 257 [17],mv 19 18,jt 20 19 (.mov (.t 5)),jt 21 19 (.indexS (.t 20) (kk 0)),jt 22 19 (.call 257 [(.t 21)]),jj 23 (.pick (.t 19) (.t 22) kF)] [0,5,6,7,8,23]) (.cond (.t 23) (rn [mv 24 0,nc 25 24,fa 26 0 25,jj 27 (.call 258 [(.t 26),(.c (.int .u8 32))])] [0,5,6,7,8]) (.skip))) (.seq (rn [mv 28 0,nc 29 28,fa 30 0 29,mv 31 5,cl 32 259 [30,31]] [0,5,6,7,8]) (rn [mv 33 0,mv 34 5,mv 35 5,lz 36 35,bk 37 .sub 36 1,jj 38 (.indexS (.t 34) (.t 37)),nc 39 33,fa 40 2 39,st 1 40 38] [0,6,7,8])))))) (rn [bk 41 .add 8 1,mv 8 41] [0,6,7,8]))))
def F243l0:PC:=F243l0x
theorem qeg:run C q F243l0 fr σ = run C q F243l0x fr σ := rfl
def F243:PFun:=⟨2,[],.seq (rn [mv 6 1,ls 7 6,mx 8 (kk 0)] [0,6,7,8]) (.block 0 (.loop F243l0)),false,false,false⟩
@[simp] def F244l0x:PC:=(.seq (rn [bn 13 .lss 12 11] [0,10,11,12,13]) (.seq (.cond (.t 13) (.skip) (.exit 0)) (.seq (.block 1 (.seq (rn [jj 14 (.indexAddr 4 (.t 10) (.t 12)),la 15 4 14,jj 5 (.alloc [zN,zN,eN,sN]),st 4 5 15] [0,5,10,11,12]) (rn [mv 16 0,la 17 4 5,cl 18 260 [16,17]] [0,10,11,12]))) (rn [bk 19 .add 12 1,mv 12 19] [0,10,11,12]))))
def F244l0:PC:=F244l0x
theorem qg6:run C q F244l0 fr σ = run C q F244l0x fr σ := rfl
def F244:PFun:=⟨2,[],.seq (rn [bx 3 1] [0,3]) (.seq (rn [mv 6 0,jj 7 (.bslice 1 [eN] [(0,1,(.c (.string ⟨#[123]⟩)))]),cl 8 243 [6,7]] [0,3]) (.seq (.seq (rn [fa 9 3 3,l1 10 9,ls 11 10,mx 12 (kk 0)] [0,10,11,12]) (.block 0 (.loop F244l0))) (rn [mv 20 0,jj 21 (.bslice 1 [eN] [(0,1,(.c (.string ⟨#[125]⟩)))]),cl 22 243 [20,21]] []))),false,false,false⟩
@[simp] def F249l0x:PC:=(.block 1 (.seq (.region (some [(34,[zN,eN,zN,zN,zN])]) [⟨some 5,.load false 1 (.t 1),none,[3]⟩,l1 6 1,mv 7 3,cl 8 251 [6,7],cl 9 250 [5,8],⟨some 4,.fill 34,none,[3,4]⟩,st 5 4 9] [0,1,4]) (.seq (.seq (rn [mv 10 0,la 11 5 4,jj 12 (.callv (.t 10) [(.t 11)]),jj 13 (.un .not (.t 12)),mv 14 13,jf 15 14 (.fieldAddr 0 (.t 4)),jf 16 14 (.load false 1 (.t 15)),jf 17 14 (.bin .eql (.t 16) (kk 0)),jj 18 (.pick (.t 14) kT (.t 17)),mv 19 18,jf 20 19 (.fieldAddr 0 (.t 4)),jf 21 19 (.load false 1 (.t 20)),jf 22 19 (.bin .eql (.t 21) (kk 6)),jj 23 (.pick (.t 19) kT (.t 22))] [0,1,4,23]) (.cond (.t 23) (.ret) (.skip))) (rn [fa 24 2 4,l1 25 24,fa 26 1 4,l1 27 26,lz 28 27,bn 29 .add 25 28,mv 3 29] [0,1,3]))))
def F249l0:PC:=F249l0x
theorem qft:run C q F249l0 fr σ = run C q F249l0x fr σ := rfl
def F249:PFun:=⟨2,[],.seq (rn [mx 3 (kk 0)] [0,1,3]) (.block 0 (.loop F249l0)),false,false,false⟩
def F250:PFun:=⟨2,[.cell 4 true 5],.seq (rn [jj 4 (.alloc [zN,eN,zN,zN,zN])] [0,1,4]) (.seq (.seq (rn [mv 7 1,mv 8 0,nc 9 8,fa 10 0 9,l1 11 10,lz 12 11,bn 13 .eql 7 12] [0,1,4,13]) (.cond (.t 13) (.seq (rn [mv 14 1,jj 15 (.build [zN,eN,zN,zN,zN] [(0,1,(kk 0)),(2,1,(.t 14))]),st 5 4 15] [4]) (.ret)) (.skip))) (.seq (.seq (rn [mv 16 0,nc 17 16,fa 18 0 17,l1 19 18,mv 20 1,jj 21 (.indexS (.t 19) (.t 20)),mv 5 21] [0,1,4,5]) (.block 0 (.seq (rn [mv 23 5,cl 24 264 [23],mv 22 24] [0,1,4,5,22]) (.cond (.t 22) (.seq (rn [mv 25 0,mv 26 1,cl 27 265 [25,26],st 5 4 27] [4]) (.ret)) (.seq (rn [mv 29 5,cl 30 266 [29],mv 28 30] [0,1,4,28]) (.cond (.t 28) (.seq (rn [mv 31 0,mv 32 1,cl 33 267 [31,32],st 5 4 33] [4]) (.ret)) (.skip))))))) (.seq (.seq (rn [mv 34 1,bk 35 .add 34 2,mv 36 0,nc 37 36,fa 38 0 37,l1 39 38,lz 40 39,bn 41 .leq 35 40] [0,1,4,41]) (.cond (.t 41) (.seq (rn [mv 42 0,nc 43 42,fa 44 0 43,l1 45 44,mv 46 1,mv 47 1,bk 48 .add 47 2,jj 49 (.sliceS (.t 45) (some (.t 46)) (some (.t 48))),mv 6 49] [0,1,4,6]) (.seq (rn [mv 50 6] [0,1,4,6,50]) (.block 1 (.seq (.seq (rn [jj 52 (.bin .eql (.t 50) (.c (.string ⟨#[124,124]⟩))),mv 51 52] [0,1,4,6,50,51]) (.cond (.t 51) (.skip) (.seq (rn [jj 53 (.bin .eql (.t 50) (.c (.string ⟨#[38,38]⟩))),mv 51 53] [0,1,4,6,50,51]) (.cond (.t 51) (.skip) (.seq (rn [jj 54 (.bin .eql (.t 50) (.c (.string ⟨#[60,61]⟩))),mv 51 54] [0,1,4,6,50,51]) (.cond (.t 51) (.skip) (.seq (rn [jj 55 (.bin .eql (.t 50) (.c (.string ⟨#[62,61]⟩))),mv 51 55] [0,1,4,6,50,51]) (.cond (.t 51) (.skip) (.seq (rn [jj 56 (.bin .eql (.t 50) (.c (.string ⟨#[61,61]⟩))),mv 51 56] [0,1,4,6,50,51]) (.cond (.t 51) (.skip) (rn [jj 57 (.bin .eql (.t 50) (.c (.string ⟨#[33,61]⟩))),mv 51 57] [0,1,4,6,51]))))))))))) (.cond (.t 51) (.seq (rn [mv 58 6,mv 59 1,jj 60 (.build [zN,eN,zN,zN,zN] [(0,1,(kk 5)),(1,1,(.t 58)),(2,1,(.t 59))]),st 5 4 60] [4]) (.ret)) (.skip)))))) (.skip))) (.seq (.seq (rn [mv 61 0,nc 62 61,fa 63 0 62,l1 64 63,mv 65 1,jj 66 (.indexS (.t 64) (.t 65)),jj 67 (.call 268 [(.c (.string ⟨#[123,125,91,93,40,41,61,59,44,60,62,43,45,42,47,33]⟩)),(.t 66)]),bk 68 .geq 67 0] [0,1,4,68]) (.cond (.t 68) (.seq (rn [mv 69 0,nc 70 69,fa 71 0 70,l1 72 71,mv 73 1,mv 74 1,bk 75 .add 74 1,jj 76 (.sliceS (.t 72) (some (.t 73)) (some (.t 75))),mv 77 1,jj 78 (.build [zN,eN,zN,zN,zN] [(0,1,(kk 5)),(1,1,(.t 76)),(2,1,(.t 77))]),st 5 4 78] [4]) (.ret)) (.skip))) (.seq (rn [mv 79 1,jj 80 (.build [zN,eN,zN,zN,zN] [(0,1,(kk 6)),(2,1,(.t 79)),(4,1,(kk 12))]),st 5 4 80] [4]) (.ret)))))),false,false,false⟩
@[simp] def F251l0x:PC:=(.seq (.seq (rn [mv 7 1,mv 8 0,nc 9 8,fa 10 0 9,l1 11 10,lz 12 11,bn 13 .lss 7 12] [0,1,5,13]) (.cond (.t 13) (.skip) (.exit 0))) (.seq (.block 1 (.seq (rn [mv 16 0,nc 17 16,fa 18 0 17,l1 19 18,mv 20 1,jj 21 (.indexS (.t 19) (.t 20)),mv 6 21] [0,1,5,6]) (.block 2 (.seq (rn [mv 24 6,jj 25 (.bin .eql (.t 24) (.c (.int .u8 10))),mv 23 25] [0,1,5,6,23]) (.cond (.t 23) (rn [mx 5 kF] [0,1,5]) (.seq (rn [mv 27 5,mv 28 27,jf 29 28 (.mov (.t 6)),jf 30 28 (.bin .eql (.t 29) (.c (.int .u8 32))),jj 31 (.pick (.t 28) kT (.t 30)),mv 32 31,jf 33 32 (.mov (.t 6)),jf 34 32 (.bin .eql (.t 33) (.c (.int .u8 9))),jj 35 (.pick (.t 32) kT (.t 34)),mv 26 35] [0,1,5,6,26]) (.cond (.t 26) (.skip) (.seq (rn [mv 37 6,jj 38 (.bin .eql (.t 37) (.c (.int .u8 35))),mv 36 38] [0,1,36]) (.cond (.t 36) (rn [mx 5 kT] [0,1,5]) (.seq (rn [mv 22 1,mv 4 22] [4]) (.ret))))))))))) (rn [mv 14 1,bk 15 .add 14 1,mv 1 15] [0,1,5])))
def F251l0:PC:=F251l0x
theorem qdE:run C q F251l0 fr σ = run C q F251l0x fr σ := rfl
def F251:PFun:=⟨2,[.tmp 4],.seq (rn [mx 4 (kk 0)] [0,1]) (.seq (.seq (rn [mx 5 kF] [0,1,5]) (.block 0 (.loop F251l0))) (.seq (rn [mv 39 1,mv 4 39] [4]) (.ret))),false,false,false⟩
def F252:PFun:=⟨1,[.cell 2 true 5],.seq (rn [jj 2 (.alloc [zN,eN,zN,zN,zN])] [0,2]) (.seq (.region (some [(26,[zN,eN,zN,zN,zN])]) [mv 4 0,nc 5 4,fa 6 2 5,l1 7 6,mv 8 0,nc 9 8,fa 10 3 9,l1 11 10,jj 12 (.indexAddr 5 (.t 7) (.t 11)),la 13 5 12,jj 3 (.fill 26),st 5 3 13] [0,2,3]) (.seq (.seq (rn [fa 14 0 3,l1 15 14,bk 16 .eql 15 6] [0,2,3,16]) (.cond (.t 16) (rn [mv 17 0,la 18 5 3,fa 19 4 3,l1 20 19,cl 21 255 [17,18,20]] [2,3]) (.skip))) (.seq (rn [la 22 5 3,st 5 2 22] [2]) (.ret)))),false,false,false⟩
def F253:PFun:=⟨2,[],.seq (.seq (rn [mv 4 0,mv 5 1,jj 6 (.bslice 1 [eN] [(0,1,(.t 5))]),cl 7 269 [4,6],jj 8 (.un .not (.t 7))] [0,8]) (.cond (.t 8) (rn [mv 9 0,mv 10 0,cl 11 252 [10],jj 12 (.call 255 [(.t 9),(.t 11),(kk 12)])] [0]) (.skip))) (rn [mv 13 0,nc 14 13,fa 15 3 14,l1 16 15,bk 17 .add 16 1,nc 18 13,fa 19 3 18,st 1 19 17] []),false,false,false⟩
def F254:PFun:=⟨1,[.tmp 2],.seq (rn [mx 2 (kk 0)] [0]) (.seq (rn [mv 4 0,cl 5 252 [4],jj 3 (.alloc [zN,eN,zN,zN,zN]),st 5 3 5] [0,3]) (.seq (.seq (rn [fa 6 1 3,l1 7 6] [0,3,7]) (.block 0 (.seq (rn [jj 9 (.bin .eql (.t 7) (.c (.string ⟨#[97,99,116]⟩))),mv 8 9] [0,3,7,8]) (.cond (.t 8) (.seq (rn [mx 2 (kk 0)] [2]) (.ret)) (.seq (rn [jj 11 (.bin .eql (.t 7) (.c (.string ⟨#[116,105,99,107]⟩))),mv 10 11] [0,3,7,10]) (.cond (.t 10) (.seq (rn [mx 2 (kk 1)] [2]) (.ret)) (.seq (rn [jj 13 (.bin .eql (.t 7) (.c (.string ⟨#[104,105,116]⟩))),mv 12 13] [0,3,12]) (.cond (.t 12) (.seq (rn [mx 2 (kk 2)] [2]) (.ret)) (.skip))))))))) (.seq (rn [mv 14 0,la 15 5 3,jj 16 (.call 255 [(.t 14),(.t 15),(kk 12)])] []) (.seq (rn [mx 2 (kk (-1))] [2]) (.ret))))),false,false,false⟩
def F255:PFun:=⟨3,[],.seq (rn [bx 4 1] [0,2,4]) (.seq (rn [mv 6 0,mv 7 0,fa 8 2 4,l1 9 8,mv 10 2,nc 11 6,fa 12 4 11,st 1 12 9,nc 13 7,fa 14 5 13,st 1 14 10] [2]) (rn [mv 15 2,jj 16 (.mkif 1 (.t 15)),jn (.panic (.t 16))] [])),false,false,false⟩
@[simp] def F256l0x:PC:=(.seq (.seq (rn [mv 10 0,jj 11 (.bslice 1 [eN] [(0,1,(.c (.string ⟨#[125]⟩)))]),cl 12 269 [10,11],jj 13 (.un .not (.t 12))] [0,1,4,5,13]) (.cond (.t 13) (.skip) (.exit 0))) (.block 1 (.region (some []) [fa 14 3 5,⟨some 15,.load false 1 (.t 14),none,[4]⟩,mv 16 0,mv 17 1,cl 18 271 [16,17],jj 19 (.bslice 1 [zN,zN,eN,sN] [(0,4,(.t 18))]),jj 20 (.append 4 56 (.t 15) (.t 19)),fa 21 3 5,st 1 21 20] [0,1,4,5] [4])))
def F256l0:PC:=F256l0x
theorem qeh:run C q F256l0 fr σ = run C q F256l0x fr σ := rfl
def F256:PFun:=⟨2,[.cell 4 true 4],.seq (rn [jj 4 (.alloc [zN,zN,eN,sN])] [0,1,4]) (.seq (rn [mv 6 0,mv 7 1,jj 8 (.call 270 [(.t 6),(.c (.string ⟨#[123]⟩)),(.t 7)])] [0,1,4]) (.seq (rn [jj 9 (.build [zN,zN,eN,sN] [(0,1,(kk 7))]),jj 5 (.alloc [zN,zN,eN,sN]),st 4 5 9] [0,1,4,5]) (.seq (.block 0 (.loop F256l0)) (.seq (rn [mv 22 0,jj 23 (.call 253 [(.t 22),(.c (.string ⟨#[125]⟩))])] [4,5]) (.seq (rn [la 24 4 5,st 4 4 24] [4]) (.ret)))))),false,false,false⟩
def F257:PFun:=⟨1,[.tmp 2],.seq (rn [mx 2 kF] [0]) (.seq (rn [mv 3 0,cl 4 264 [3],mv 5 4,jf 6 5 (.mov (.t 0)),jf 7 5 (.call 266 [(.t 6)]),jj 8 (.pick (.t 5) kT (.t 7)),mv 2 8] [2]) (.ret)),false,false,false⟩
def F260:PFun:=⟨2,[],.seq (rn [bx 3 1] [0,3]) (.seq (rn [fa 5 0 3,l1 6 5] [0,3,6]) (.block 0 (.seq (rn [bk 8 .eql 6 1,mv 7 8] [0,3,6,7]) (.cond (.t 7) (.seq (rn [mv 9 0,fa 10 2 3,l1 11 10,jj 12 (.bslice 2 [eN,eN] [(0,1,(.t 11)),(1,1,(.c (.string ⟨#[61]⟩)))]),cl 13 243 [9,12]] [0,3]) (.seq (rn [mv 14 0,la 15 4 3,jj 16 (.call 274 [(.t 15),(kk 0)]),jj 17 (.call 273 [(.t 14),(.t 16),(kk 1)])] [0]) (rn [mv 18 0,jj 19 (.bslice 1 [eN] [(0,1,(.c (.string ⟨#[59]⟩)))]),cl 20 243 [18,19]] []))) (.seq (rn [bk 22 .eql 6 2,mv 21 22] [0,3,6,21]) (.cond (.t 21) (.seq (rn [mv 23 0,fa 24 2 3,l1 25 24,jj 26 (.bslice 2 [eN,eN] [(0,1,(.t 25)),(1,1,(.c (.string ⟨#[91]⟩)))]),cl 27 243 [23,26]] [0,3]) (.seq (rn [mv 28 0,la 29 4 3,jj 30 (.call 274 [(.t 29),(kk 0)]),jj 31 (.call 273 [(.t 28),(.t 30),(kk 1)])] [0,3]) (.seq (rn [mv 32 0,jj 33 (.bslice 2 [eN,eN] [(0,1,(.c (.string ⟨#[93]⟩))),(1,1,(.c (.string ⟨#[61]⟩)))]),cl 34 243 [32,33]] [0,3]) (.seq (rn [mv 35 0,la 36 4 3,jj 37 (.call 274 [(.t 36),(kk 1)]),jj 38 (.call 273 [(.t 35),(.t 37),(kk 1)])] [0]) (rn [mv 39 0,jj 40 (.bslice 1 [eN] [(0,1,(.c (.string ⟨#[59]⟩)))]),cl 41 243 [39,40]] []))))) (.seq (rn [bk 43 .eql 6 3,mv 42 43] [0,3,6,42]) (.cond (.t 42) (.seq (rn [mv 44 0,jj 45 (.bslice 1 [eN] [(0,1,(.c (.string ⟨#[105,102]⟩)))]),cl 46 243 [44,45]] [0,3]) (.seq (rn [mv 47 0,la 48 4 3,jj 49 (.call 274 [(.t 48),(kk 0)]),jj 50 (.call 273 [(.t 47),(.t 49),(kk 1)])] [0,3]) (.seq (rn [mv 51 0,la 52 4 3,jj 53 (.call 274 [(.t 52),(kk 1)]),cl 54 244 [51,53]] [0,3]) (.seq (rn [la 55 4 3,jj 56 (.call 274 [(.t 55),(kk 2)]),jj 4 (.alloc [zN,zN,eN,sN]),st 4 4 56] [0,4]) (.seq (rn [fa 57 3 4,l1 58 57,ls 59 58,bk 60 .gtr 59 0] [0,4,60]) (.cond (.t 60) (.seq (rn [mv 61 0,jj 62 (.bslice 1 [eN] [(0,1,(.c (.string ⟨#[101,108,115,101]⟩)))]),cl 63 243 [61,62]] [0,4]) (rn [mv 64 0,la 65 4 4,cl 66 244 [64,65]] [])) (.skip))))))) (.seq (rn [bk 68 .eql 6 4,mv 67 68] [0,3,6,67]) (.cond (.t 67) (.seq (rn [mv 69 0,jj 70 (.bslice 1 [eN] [(0,1,(.c (.string ⟨#[119,104,105,108,101]⟩)))]),cl 71 243 [69,70]] [0,3]) (.seq (rn [mv 72 0,la 73 4 3,jj 74 (.call 274 [(.t 73),(kk 0)]),jj 75 (.call 273 [(.t 72),(.t 74),(kk 1)])] [0,3]) (rn [mv 76 0,la 77 4 3,jj 78 (.call 274 [(.t 77),(kk 1)]),cl 79 244 [76,78]] []))) (.seq (rn [bk 81 .eql 6 5,mv 80 81] [0,3,6,80]) (.cond (.t 80) (.seq (rn [mv 82 0,jj 83 (.bslice 1 [eN] [(0,1,(.c (.string ⟨#[101,102,102,101,99,116]⟩)))]),cl 84 243 [82,83]] [0,3]) (.seq (rn [mv 85 0,la 86 4 3,jj 87 (.call 274 [(.t 86),(kk 0)]),jj 88 (.call 273 [(.t 85),(.t 87),(kk 1)])] [0,3]) (.seq (rn [mv 89 0,jj 90 (.bslice 1 [eN] [(0,1,(.c (.string ⟨#[44]⟩)))]),cl 91 243 [89,90]] [0,3]) (.seq (rn [mv 92 0,la 93 4 3,jj 94 (.call 274 [(.t 93),(kk 1)]),jj 95 (.call 273 [(.t 92),(.t 94),(kk 1)])] [0]) (rn [mv 96 0,jj 97 (.bslice 1 [eN] [(0,1,(.c (.string ⟨#[59]⟩)))]),cl 98 243 [96,97]] []))))) (.seq (rn [bk 100 .eql 6 6,mv 99 100] [0,99]) (.cond (.t 99) (rn [mv 101 0,jj 102 (.bslice 2 [eN,eN] [(0,1,(.c (.string ⟨#[115,116,111,112]⟩))),(1,1,(.c (.string ⟨#[59]⟩)))]),cl 103 243 [101,102]] []) (.skip))))))))))))))),false,false,false⟩
def F264:PFun:=⟨1,[.tmp 2],.seq (rn [mx 2 kF] [0]) (.seq (rn [mv 3 0,jj 4 (.bin .leq (.c (.int .u8 97)) (.t 3)),mv 5 4,jt 6 5 (.mov (.t 0)),jt 7 5 (.bin .leq (.t 6) (.c (.int .u8 122))),jj 8 (.pick (.t 5) (.t 7) kF),mv 2 8] [2]) (.ret)),false,false,false⟩
@[simp] def F265l0x:PC:=(.seq (.seq (rn [mv 10 5,mv 11 0,nc 12 11,fa 13 0 12,l1 14 13,lz 15 14,bn 16 .lss 10 15,mv 17 16,jt 18 17 (.mov (.t 0)),jt 19 17 (.nilchk (.t 18)),jt 20 17 (.fieldAddr 0 (.t 19)),jt 21 17 (.load false 1 (.t 20)),jt 22 17 (.mov (.t 5)),jt 23 17 (.indexS (.t 21) (.t 22)),jt 24 17 (.call 264 [(.t 23)]),jt 25 17 (.mov (.t 24)),jf 26 25 (.mov (.t 0)),jf 27 25 (.nilchk (.t 26)),jf 28 25 (.fieldAddr 0 (.t 27)),jf 29 25 (.load false 1 (.t 28)),jf 30 25 (.mov (.t 5)),jf 31 25 (.indexS (.t 29) (.t 30)),jf 32 25 (.call 266 [(.t 31)]),jt 33 17 (.pick (.t 25) kT (.t 32)),jj 34 (.pick (.t 17) (.t 33) kF)] [0,1,4,5,34]) (.cond (.t 34) (.skip) (.exit 0))) (.block 1 (rn [mv 35 5,bk 36 .add 35 1,mv 5 36] [0,1,4,5])))
def F265l0:PC:=F265l0x
theorem qfu:run C q F265l0 fr σ = run C q F265l0x fr σ := rfl
def F265:PFun:=⟨2,[.cell 4 true 5],.seq (rn [jj 4 (.alloc [zN,eN,zN,zN,zN])] [0,1,4]) (.seq (rn [mv 9 1,mv 5 9] [0,1,4,5]) (.seq (.block 0 (.loop F265l0)) (.seq (rn [mv 37 0,nc 38 37,fa 39 0 38,l1 40 39,mv 41 1,mv 42 5,jj 43 (.sliceS (.t 40) (some (.t 41)) (some (.t 42))),mv 44 1,jj 45 (.build [zN,eN,zN,zN,zN] [(0,1,(kk 1)),(1,1,(.t 43)),(2,1,(.t 44))]),jj 6 (.alloc [zN,eN,zN,zN,zN]),st 5 6 45] [0,4,6]) (.seq (.seq (.region (some []) [mv 47 0,nc 48 47,fa 49 1 48,l1 50 49,fa 51 1 6,l1 52 51,jj 53 (.lookup .s zN (.t 50) (.t 52) true),mv 46 53,ex 54 46 0,ex 55 46 1,mv 7 54,mv 8 55] [4,6,7,8]) (.seq (rn [mv 56 8] [4,6,7,56]) (.cond (.t 56) (rn [mv 57 7,fa 58 0 6,st 1 58 57] [4,6]) (.seq (rn [fa 59 1 6,l1 60 59,lz 61 60,bk 62 .gtr 61 8] [4,6,62]) (.cond (.t 62) (rn [fa 63 0 6,jn (.store 1 (.t 63) (kk 6)),fa 64 4 6,jn (.store 1 (.t 64) (kk 2))] [4,6]) (.skip)))))) (.seq (rn [la 65 5 6,st 5 4 65] [4]) (.ret)))))),false,false,false⟩
def F266:PFun:=⟨1,[.tmp 2],.seq (rn [mx 2 kF] [0]) (.seq (rn [mv 3 0,jj 4 (.bin .leq (.c (.int .u8 48)) (.t 3)),mv 5 4,jt 6 5 (.mov (.t 0)),jt 7 5 (.bin .leq (.t 6) (.c (.int .u8 57))),jj 8 (.pick (.t 5) (.t 7) kF),mv 2 8] [2]) (.ret)),false,false,false⟩
@[simp] def F267l0x:PC:=(.seq (.seq (rn [mv 9 5,mv 10 0,nc 11 10,fa 12 0 11,l1 13 12,lz 14 13,bn 15 .lss 9 14,mv 16 15,jt 17 16 (.mov (.t 0)),jt 18 16 (.nilchk (.t 17)),jt 19 16 (.fieldAddr 0 (.t 18)),jt 20 16 (.load false 1 (.t 19)),jt 21 16 (.mov (.t 5)),jt 22 16 (.indexS (.t 20) (.t 21)),jt 23 16 (.call 266 [(.t 22)]),jj 24 (.pick (.t 16) (.t 23) kF)] [0,1,4,5,6,24]) (.cond (.t 24) (.skip) (.exit 0))) (.block 1 (.seq (rn [mv 25 6,jj 26 (.bin .mul (kk 10) (.t 25)),mv 27 0,nc 28 27,fa 29 0 28,l1 30 29,mv 31 5,jj 32 (.indexS (.t 30) (.t 31)),jj 33 (.bin .sub (.t 32) (.c (.int .u8 48))),jj 34 (.conv (.int .i64) (.t 33)),bn 35 .add 26 34,jj 36 (.min [(.t 35),(kk 2147483648)]),mv 6 36] [0,1,4,5,6]) (rn [mv 37 5,bk 38 .add 37 1,mv 5 38] [0,1,4,5,6]))))
def F267l0:PC:=F267l0x
theorem qg7:run C q F267l0 fr σ = run C q F267l0x fr σ := rfl
def F267:PFun:=⟨2,[.cell 4 true 5],.seq (rn [jj 4 (.alloc [zN,eN,zN,zN,zN])] [0,1,4]) (.seq (rn [mv 8 1,mv 5 8,mx 6 (kk 0)] [0,1,4,5,6]) (.seq (.block 0 (.loop F267l0)) (.seq (rn [mv 39 0,nc 40 39,fa 41 0 40,l1 42 41,mv 43 1,mv 44 5,jj 45 (.sliceS (.t 42) (some (.t 43)) (some (.t 44))),mv 46 1,mv 47 6,jj 48 (.build [zN,eN,zN,zN,zN] [(0,1,(kk 4)),(1,1,(.t 45)),(2,1,(.t 46)),(3,1,(.t 47))]),jj 7 (.alloc [zN,eN,zN,zN,zN]),st 5 7 48] [4,6,7]) (.seq (.seq (rn [mv 49 6,bk 50 .gtr 49 2147483647] [4,7,50]) (.cond (.t 50) (rn [fa 51 0 7,jn (.store 1 (.t 51) (kk 6)),fa 52 4 7,jn (.store 1 (.t 52) (kk 6))] [4,7]) (.skip))) (.seq (rn [la 53 5 7,st 5 4 53] [4]) (.ret)))))),false,false,false⟩
def F269:PFun:=⟨2,[.tmp 4],.seq (rn [mx 4 kF] [0,1]) (.seq (rn [mv 6 0,cl 7 252 [6],jj 5 (.alloc [zN,eN,zN,zN,zN]),st 5 5 7] [1,5]) (.seq (rn [fa 8 0 5,l1 9 8,bk 10 .neq 9 0,mv 11 10,jt 12 11 (.mov (.t 1)),jt 13 11 (.fieldAddr 1 (.t 5)),jt 14 11 (.load false 1 (.t 13)),jt 15 11 (.call 276 [(.t 12),(.t 14)]),jj 16 (.pick (.t 11) (.t 15) kF),mv 4 16] [4]) (.ret))),false,false,false⟩
def F270:PFun:=⟨3,[],.seq (.seq (rn [mv 6 0,mv 7 1,jj 8 (.bslice 1 [eN] [(0,1,(.t 7))]),cl 9 269 [6,8],mv 10 9,jt 11 10 (.mov (.t 2)),jt 12 10 (.bin .gtr (.t 11) (kk 20)),jj 13 (.pick (.t 10) (.t 12) kF)] [0,1,13]) (.cond (.t 13) (rn [mv 14 0,mv 15 0,cl 16 252 [15],jj 17 (.call 255 [(.t 14),(.t 16),(kk 2)])] [0,1]) (.skip))) (rn [mv 18 0,mv 19 1,cl 20 253 [18,19]] []),false,false,false⟩
def F271:PFun:=⟨2,[.cell 4 true 4],.seq (rn [jj 4 (.alloc [zN,zN,eN,sN])] [0,1,4]) (.seq (rn [mv 9 0,cl 10 252 [9],jj 5 (.alloc [zN,eN,zN,zN,zN]),st 5 5 10] [0,1,4,5]) (.seq (.block 0 (.seq (rn [fa 12 0 5,l1 13 12,bk 14 .eql 13 1,mv 11 14] [0,1,4,5,11]) (.cond (.t 11) (.seq (rn [mv 15 0,cl 16 277 [15]] [0,1,4,5]) (.seq (rn [mv 17 0,jj 18 (.call 253 [(.t 17),(.c (.string ⟨#[61]⟩))])] [0,1,4,5]) (.seq (.region (some []) [mv 19 0,fa 20 1 5,⟨some 21,.load false 1 (.t 20),none,[5]⟩,mv 22 0,mv 23 1,cl 24 279 [22,23],jj 25 (.bslice 1 [zN,zN,eN,sN] [(0,4,(.t 24))]),jj 26 (.build [zN,zN,eN,sN] [(0,1,(kk 1)),(2,1,(.t 21)),(3,1,(.t 25))]),cl 27 278 [19,26],st 4 4 27] [4] [5,8]) (.ret)))) (.seq (rn [fa 29 0 5,l1 30 29,bk 31 .eql 30 3,mv 28 31] [0,1,4,5,28]) (.cond (.t 28) (.seq (rn [mv 32 0,mv 33 1,cl 34 280 [32,33],jj 6 (.alloc [zN,zN,eN,sN]),st 4 6 34] [0,1,4,5,6]) (.seq (rn [mv 35 0,jj 36 (.call 253 [(.t 35),(.c (.string ⟨#[61]⟩))])] [0,1,4,5,6]) (.seq (.region (some []) [mv 37 0,fa 38 1 5,⟨some 39,.load false 1 (.t 38),none,[6]⟩,⟨some 40,.load true 4 (.t 6),none,[6]⟩,mv 41 0,mv 42 1,cl 43 279 [41,42],jj 44 (.bslice 2 [zN,zN,eN,sN,zN,zN,eN,sN] [(0,4,(.t 40)),(4,4,(.t 43))]),jj 45 (.build [zN,zN,eN,sN] [(0,1,(kk 2)),(2,1,(.t 39)),(3,1,(.t 44))]),cl 46 278 [37,45],st 4 4 46] [4] [6,9]) (.ret)))) (.seq (rn [mv 48 0,jj 49 (.bslice 1 [eN] [(0,1,(.c (.string ⟨#[105,102]⟩)))]),cl 50 269 [48,49],mv 47 50] [0,1,4,5,47]) (.cond (.t 47) (.seq (rn [mv 51 0,mv 52 1,cl 53 281 [51,52],st 4 4 53] [4]) (.ret)) (.seq (rn [mv 55 0,jj 56 (.bslice 1 [eN] [(0,1,(.c (.string ⟨#[119,104,105,108,101]⟩)))]),cl 57 269 [55,56],mv 54 57] [0,1,4,5,54]) (.cond (.t 54) (.seq (rn [mv 58 0,cl 59 277 [58]] [0,1,4]) (.seq (rn [mv 60 0,mv 61 1,cl 62 279 [60,61],jj 7 (.alloc [zN,zN,eN,sN]),st 4 7 62] [0,1,4,7]) (.seq (.region (some []) [⟨some 63,.load true 4 (.t 7),none,[4]⟩,mv 64 0,mv 65 1,bk 66 .add 65 1,cl 67 256 [64,66],jj 68 (.bslice 2 [zN,zN,eN,sN,zN,zN,eN,sN] [(0,4,(.t 63)),(4,4,(.t 67))]),jj 69 (.build [zN,zN,eN,sN] [(0,1,(kk 4)),(3,1,(.t 68))]),st 4 4 69] [4] [4]) (.ret)))) (.seq (rn [mv 71 0,jj 72 (.bslice 1 [eN] [(0,1,(.c (.string ⟨#[101,102,102,101,99,116]⟩)))]),cl 73 269 [71,72],mv 70 73] [0,1,4,5,70]) (.cond (.t 70) (.seq (rn [mv 74 0,cl 75 277 [74]] [0,1,4]) (.seq (rn [mv 76 0,mv 77 1,cl 78 279 [76,77],jj 8 (.alloc [zN,zN,eN,sN]),st 4 8 78] [0,1,4,8]) (.seq (rn [mv 79 0,jj 80 (.call 253 [(.t 79),(.c (.string ⟨#[44]⟩))])] [0,1,4,8]) (.seq (.region (some []) [mv 81 0,⟨some 82,.load true 4 (.t 8),none,[4]⟩,mv 83 0,mv 84 1,cl 85 279 [83,84],jj 86 (.bslice 2 [zN,zN,eN,sN,zN,zN,eN,sN] [(0,4,(.t 82)),(4,4,(.t 85))]),jj 87 (.build [zN,zN,eN,sN] [(0,1,(kk 5)),(3,1,(.t 86))]),cl 88 278 [81,87],st 4 4 88] [4] [4,7]) (.ret))))) (.seq (rn [mv 90 0,jj 91 (.bslice 1 [eN] [(0,1,(.c (.string ⟨#[115,116,111,112]⟩)))]),cl 92 269 [90,91],mv 89 92] [0,4,5,89]) (.cond (.t 89) (.seq (rn [mv 93 0,cl 94 277 [93]] [0,4]) (.seq (rn [mv 95 0,jj 96 (.build [zN,zN,eN,sN] [(0,1,(kk 6))]),cl 97 278 [95,96],st 4 4 97] [4]) (.ret))) (.skip)))))))))))))) (.seq (rn [mv 98 0,la 99 5 5,jj 100 (.call 255 [(.t 98),(.t 99),(kk 12)])] [4]) (.seq (rn [jj 101 (.build [zN,zN,eN,sN] []),st 4 4 101] [4]) (.ret))))),false,false,false⟩
def F273:PFun:=⟨3,[],.seq (rn [bx 4 1] [1000000,0,2,4]) (.seq (rn [la 8 4 4,cl 9 282 [8],mv 6 9] [1000000,0,2,4,6]) (.seq (.seq (rn [mv 10 6,mv 11 2,bn 12 .lss 10 11] [1000000,0,4,6,12]) (.cond (.t 12) (.seq (rn [mv 13 0,jj 14 (.bslice 1 [eN] [(0,1,(.c (.string ⟨#[40]⟩)))]),cl 15 243 [13,14]] [1000000,0,4,6]) (rn [mv 16 0,jj 17 (.bslice 1 [eN] [(0,1,(.c (.string ⟨#[41]⟩)))]),jj 1000000 (.defer (.f 243) [(.t 16),(.t 17)])] [1000000,0,4,6])) (.skip))) (.seq (rn [fa 18 0 4,l1 19 18] [1000000,0,4,6,19]) (.block 0 (.seq (rn [bk 21 .eql 19 8,mv 20 21] [1000000,0,4,6,19,20]) (.cond (.t 20) (rn [mv 22 0,fa 23 1 4,l1 24 23,cl 25 283 [24],jj 26 (.bslice 1 [eN] [(0,1,(.t 25))]),cl 27 243 [22,26]] [1000000]) (.seq (rn [bk 29 .eql 19 9,mv 28 29] [1000000,0,4,6,19,28]) (.cond (.t 28) (.seq (rn [fa 30 1 4,l1 31 30,bk 32 .eql 31 0] [1000000,0,32]) (.cond (.t 32) (rn [mv 33 0,jj 34 (.bslice 1 [eN] [(0,1,(.c (.string ⟨#[102,97,108,115,101]⟩)))]),cl 35 243 [33,34]] [1000000]) (rn [mv 36 0,jj 37 (.bslice 1 [eN] [(0,1,(.c (.string ⟨#[116,114,117,101]⟩)))]),cl 38 243 [36,37]] [1000000]))) (.seq (.seq (rn [bk 40 .eql 19 10,mv 39 40] [1000000,0,4,6,19,39]) (.cond (.t 39) (.skip) (rn [bk 41 .eql 19 12,mv 39 41] [1000000,0,4,6,19,39]))) (.cond (.t 39) (rn [mv 42 0,fa 43 2 4,l1 44 43,jj 45 (.bslice 1 [eN] [(0,1,(.t 44))]),cl 46 243 [42,45]] [1000000]) (.seq (rn [bk 48 .eql 19 11,mv 47 48] [1000000,0,4,6,19,47]) (.cond (.t 47) (.seq (rn [mv 49 0,fa 50 2 4,l1 51 50,jj 52 (.bslice 2 [eN,eN] [(0,1,(.t 51)),(1,1,(.c (.string ⟨#[91]⟩)))]),cl 53 243 [49,52]] [1000000,0,4]) (.seq (rn [mv 54 0,la 55 4 4,jj 56 (.call 274 [(.t 55),(kk 0)]),jj 57 (.call 273 [(.t 54),(.t 56),(kk 1)])] [1000000,0]) (rn [mv 58 0,jj 59 (.bslice 1 [eN] [(0,1,(.c (.string ⟨#[93]⟩)))]),cl 60 243 [58,59]] [1000000]))) (.seq (rn [bk 62 .eql 19 13,mv 61 62] [1000000,0,4,6,19,61]) (.cond (.t 61) (.seq (rn [mv 63 0,fa 64 2 4,l1 65 64,jj 66 (.bslice 1 [eN] [(0,1,(.t 65))]),cl 67 243 [63,66]] [1000000,0,4,6]) (rn [mv 68 0,la 69 4 4,jj 70 (.call 274 [(.t 69),(kk 0)]),mv 71 6,cl 72 273 [68,70,71]] [1000000])) (.seq (rn [bk 74 .eql 19 14,mv 73 74] [1000000,0,4,6,73]) (.cond (.t 73) (.seq (rn [mv 75 6,mv 7 75] [1000000,0,4,6,7]) (.seq (.seq (rn [mv 76 6,bk 77 .eql 76 4] [1000000,0,4,6,7,77]) (.cond (.t 77) (rn [mx 7 (kk 5)] [1000000,0,4,6,7]) (.skip))) (.seq (rn [mv 78 0,la 79 4 4,jj 80 (.call 274 [(.t 79),(kk 0)]),mv 81 7,cl 82 273 [78,80,81]] [1000000,0,4,6]) (.seq (rn [mv 83 0,fa 84 2 4,l1 85 84,jj 86 (.bslice 1 [eN] [(0,1,(.t 85))]),cl 87 243 [83,86]] [1000000,0,4,6]) (rn [mv 88 0,la 89 4 4,jj 90 (.call 274 [(.t 89),(kk 1)]),mv 91 6,bk 92 .add 91 1,cl 93 273 [88,90,92]] [1000000]))))) (.skip))))))))))))))))),false,true,false⟩
def F274:PFun:=⟨2,[.cell 4 true 4],.seq (rn [bx 2 0,jj 4 (.alloc [zN,zN,eN,sN])] [1,2,4]) (.seq (.seq (rn [mv 5 1,fa 6 3 2,l1 7 6,ls 8 7,bn 9 .lss 5 8] [1,2,4,9]) (.cond (.t 9) (.seq (rn [fa 10 3 2,l1 11 10,mv 12 1,jj 13 (.indexAddr 4 (.t 11) (.t 12)),la 14 4 13,st 4 4 14] [4]) (.ret)) (.skip))) (.seq (rn [jj 15 (.build [zN,zN,eN,sN] []),st 4 4 15] [4]) (.ret))),false,false,false⟩
def F277:PFun:=⟨1,[.cell 2 true 5],.seq (rn [jj 2 (.alloc [zN,eN,zN,zN,zN])] [0,2]) (.seq (rn [mv 4 0,cl 5 252 [4],jj 3 (.alloc [zN,eN,zN,zN,zN]),st 5 3 5] [0,2,3]) (.seq (rn [mv 6 0,nc 7 6,fa 8 3 7,l1 9 8,bk 10 .add 9 1,nc 11 6,fa 12 3 11,st 1 12 10] [2,3]) (.seq (rn [la 13 5 3,st 5 2 13] [2]) (.ret)))),false,false,false⟩
def F278:PFun:=⟨2,[.cell 4 true 4],.seq (rn [bx 3 1,jj 4 (.alloc [zN,zN,eN,sN])] [0,3,4]) (.seq (rn [mv 5 0,jj 6 (.call 253 [(.t 5),(.c (.string ⟨#[59]⟩))])] [3,4]) (.seq (rn [la 7 4 3,st 4 4 7] [4]) (.ret))),false,false,false⟩
def F279:PFun:=⟨2,[.cell 4 true 4],.seq (rn [bx 2 0,bx 3 1,jj 4 (.alloc [zN,zN,eN,sN])] [2,3,4]) (.seq (rn [l1 5 2,jj 6 (.mkfn 286 [] [(.t 2),(.t 3)]),jj 7 (.bslice 1 [eN] [(0,1,(.c (.string ⟨#[124,124]⟩)))]),cl 8 285 [5,6,7],st 4 4 8] [4]) (.ret)),false,false,false⟩
def F280:PFun:=⟨2,[.cell 4 true 4],.seq (rn [jj 4 (.alloc [zN,zN,eN,sN])] [0,1,4]) (.seq (rn [mv 6 0,cl 7 277 [6]] [0,1,4]) (.seq (rn [mv 8 0,mv 9 1,bk 10 .add 9 1,jj 11 (.call 270 [(.t 8),(.c (.string ⟨#[91]⟩)),(.t 10)])] [0,1,4]) (.seq (rn [mv 12 0,mv 13 1,bk 14 .add 13 1,cl 15 279 [12,14],jj 5 (.alloc [zN,zN,eN,sN]),st 4 5 15] [0,4,5]) (.seq (rn [mv 16 0,jj 17 (.call 253 [(.t 16),(.c (.string ⟨#[93]⟩))])] [4,5]) (.seq (rn [la 18 4 5,st 4 4 18] [4]) (.ret)))))),false,false,false⟩
def F281:PFun:=⟨2,[.cell 4 true 4],.seq (rn [jj 4 (.alloc [zN,zN,eN,sN])] [0,1,4]) (.seq (rn [mv 8 0,jj 9 (.call 253 [(.t 8),(.c (.string ⟨#[105,102]⟩))])] [0,1,4]) (.seq (rn [mv 10 0,mv 11 1,cl 12 279 [10,11],jj 5 (.alloc [zN,zN,eN,sN]),st 4 5 12] [0,1,4,5]) (.seq (rn [mv 13 0,mv 14 1,bk 15 .add 14 1,cl 16 256 [13,15],jj 17 (.build [zN,zN,eN,sN] [(0,1,(kk 7))]),jj 6 (.alloc [zN,zN,eN,sN]),jj 7 (.alloc [zN,zN,eN,sN]),st 4 6 16,st 4 7 17] [0,1,4,5,6,7]) (.seq (.seq (rn [mv 18 0,jj 19 (.bslice 1 [eN] [(0,1,(.c (.string ⟨#[101,108,115,101]⟩)))]),cl 20 269 [18,19]] [0,1,4,5,6,7,20]) (.cond (.t 20) (.seq (rn [mv 21 0,cl 22 277 [21]] [0,1,4,5,6,7]) (rn [mv 23 0,mv 24 1,bk 25 .add 24 1,cl 26 256 [23,25],st 4 7 26] [4,5,6,7])) (.skip))) (.seq (rn [la 27 4 5,la 28 4 6,la 29 4 7,jj 30 (.bslice 3 [zN,zN,eN,sN,zN,zN,eN,sN,zN,zN,eN,sN] [(0,4,(.t 27)),(4,4,(.t 28)),(8,4,(.t 29))]),jj 31 (.build [zN,zN,eN,sN] [(0,1,(kk 3)),(3,1,(.t 30))]),st 4 4 31] [4]) (.ret)))))),false,false,false⟩
def F282:PFun:=⟨1,[.tmp 2],.seq (rn [bx 1 0,mx 2 (kk 0)] [1]) (.seq (.block 0 (.seq (rn [fa 4 0 1,l1 5 4,bk 6 .eql 5 13,mv 7 6,jt 8 7 (.fieldAddr 2 (.t 1)),jt 9 7 (.load false 1 (.t 8)),jt 10 7 (.bin .eql (.t 9) (.c (.string ⟨#[33]⟩))),jj 11 (.pick (.t 7) (.t 10) kF),mv 3 11] [1,3]) (.cond (.t 3) (.seq (rn [mx 2 (kk 3)] [2]) (.ret)) (.seq (rn [fa 13 0 1,l1 14 13,bk 15 .eql 14 13,mv 12 15] [1,12]) (.cond (.t 12) (.seq (rn [mx 2 (kk 7)] [2]) (.ret)) (.seq (rn [fa 17 0 1,l1 18 17,bk 19 .neq 18 14,mv 16 19] [1,16]) (.cond (.t 16) (.seq (rn [mx 2 (kk 8)] [2]) (.ret)) (.skip)))))))) (.seq (.seq (rn [fa 20 2 1,l1 21 20] [21]) (.block 1 (.seq (rn [jj 23 (.bin .eql (.t 21) (.c (.string ⟨#[124,124]⟩))),mv 22 23] [21,22]) (.cond (.t 22) (.seq (rn [mx 2 (kk 1)] [2]) (.ret)) (.seq (rn [jj 25 (.bin .eql (.t 21) (.c (.string ⟨#[38,38]⟩))),mv 24 25] [21,24]) (.cond (.t 24) (.seq (rn [mx 2 (kk 2)] [2]) (.ret)) (.seq (.seq (rn [jj 27 (.bin .eql (.t 21) (.c (.string ⟨#[43]⟩))),mv 26 27] [21,26]) (.cond (.t 26) (.skip) (rn [jj 28 (.bin .eql (.t 21) (.c (.string ⟨#[45]⟩))),mv 26 28] [21,26]))) (.cond (.t 26) (.seq (rn [mx 2 (kk 5)] [2]) (.ret)) (.seq (.seq (rn [jj 30 (.bin .eql (.t 21) (.c (.string ⟨#[42]⟩))),mv 29 30] [21,29]) (.cond (.t 29) (.skip) (rn [jj 31 (.bin .eql (.t 21) (.c (.string ⟨#[47]⟩))),mv 29 31] [29]))) (.cond (.t 29) (.seq (rn [mx 2 (kk 6)] [2]) (.ret)) (.skip))))))))))) (.seq (rn [mx 2 (kk 4)] [2]) (.ret)))),false,false,false⟩
@[simp] def F285l0x:PC:=(.seq (.seq (rn [mv 11 0,mv 12 2,cl 13 269 [11,12]] [0,1,2,6,7,13]) (.cond (.t 13) (.skip) (.exit 0))) (.block 1 (.seq (rn [mv 14 0,cl 15 277 [14],jj 16 (.field false 1 1 (.t 15)),mv 8 16] [0,1,2,6,7,8]) (.region (some []) [mv 17 8,⟨some 18,.load true 4 (.t 7),none,[3]⟩,mv 19 1,jj 20 (.callv (.t 19) []),jj 21 (.bslice 2 [zN,zN,eN,sN,zN,zN,eN,sN] [(0,4,(.t 18)),(4,4,(.t 20))]),jj 22 (.build [zN,zN,eN,sN] [(0,1,(kk 14)),(2,1,(.t 17)),(3,1,(.t 21))]),st 4 7 22] [0,1,2,6,7] [3]))))
def F285l0:PC:=F285l0x
theorem qfv:run C q F285l0 fr σ = run C q F285l0x fr σ := rfl
def F285:PFun:=⟨3,[.cell 6 true 4],.seq (rn [jj 6 (.alloc [zN,zN,eN,sN])] [0,1,2,6]) (.seq (rn [mv 9 1,jj 10 (.callv (.t 9) []),jj 7 (.alloc [zN,zN,eN,sN]),st 4 7 10] [0,1,2,6,7]) (.seq (.block 0 (.loop F285l0)) (.seq (rn [la 23 4 7,st 4 6 23] [6]) (.ret)))),false,false,false⟩
def F286:PFun:=⟨2,[.cell 2 true 4],.seq (rn [jj 2 (.alloc [zN,zN,eN,sN])] [0,1,2]) (.seq (rn [l1 3 0,l1 4 1,cl 5 287 [3,4],st 4 2 5] [2]) (.ret)),false,false,false⟩
def F287:PFun:=⟨2,[.cell 4 true 4],.seq (rn [bx 2 0,bx 3 1,jj 4 (.alloc [zN,zN,eN,sN])] [2,3,4]) (.seq (rn [l1 5 2,jj 6 (.mkfn 289 [] [(.t 2),(.t 3)]),jj 7 (.bslice 1 [eN] [(0,1,(.c (.string ⟨#[38,38]⟩)))]),cl 8 285 [5,6,7],st 4 4 8] [4]) (.ret)),false,false,false⟩
def F289:PFun:=⟨2,[.cell 2 true 4],.seq (rn [jj 2 (.alloc [zN,zN,eN,sN])] [0,1,2]) (.seq (rn [l1 3 0,l1 4 1,cl 5 290 [3,4],st 4 2 5] [2]) (.ret)),false,false,false⟩
def F290:PFun:=⟨2,[.cell 4 true 4],.seq (rn [jj 4 (.alloc [zN,zN,eN,sN])] [0,1,4]) (.seq (.seq (rn [mv 5 0,jj 6 (.bslice 1 [eN] [(0,1,(.c (.string ⟨#[33]⟩)))]),cl 7 269 [5,6]] [0,1,4,7]) (.cond (.t 7) (.seq (rn [mv 8 0,mv 9 1,bk 10 .add 9 1,jj 11 (.call 270 [(.t 8),(.c (.string ⟨#[33]⟩)),(.t 10)])] [0,1,4]) (.seq (rn [mv 12 0,mv 13 1,bk 14 .add 13 1,cl 15 290 [12,14],jj 16 (.bslice 1 [zN,zN,eN,sN] [(0,4,(.t 15))]),jj 17 (.build [zN,zN,eN,sN] [(0,1,(kk 13)),(2,1,(.c (.string ⟨#[33]⟩))),(3,1,(.t 16))]),st 4 4 17] [4]) (.ret))) (.skip))) (.seq (rn [mv 18 0,mv 19 1,cl 20 292 [18,19],st 4 4 20] [4]) (.ret))),false,false,false⟩
def F292:PFun:=⟨2,[.cell 4 true 4],.seq (rn [jj 4 (.alloc [zN,zN,eN,sN])] [0,1,4]) (.seq (rn [mv 7 0,mv 8 1,cl 9 297 [7,8],jj 5 (.alloc [zN,zN,eN,sN]),st 4 5 9] [0,1,4,5]) (.seq (.seq (rn [mv 10 0,jj 11 (.bslice 6 [eN,eN,eN,eN,eN,eN] [(0,1,(.c (.string ⟨#[60]⟩))),(1,1,(.c (.string ⟨#[60,61]⟩))),(2,1,(.c (.string ⟨#[62]⟩))),(3,1,(.c (.string ⟨#[62,61]⟩))),(4,1,(.c (.string ⟨#[61,61]⟩))),(5,1,(.c (.string ⟨#[33,61]⟩)))]),cl 12 269 [10,11],jj 13 (.un .not (.t 12))] [0,1,4,5,13]) (.cond (.t 13) (.seq (rn [la 14 4 5,st 4 4 14] [4]) (.ret)) (.skip))) (.seq (rn [mv 15 0,cl 16 277 [15],jj 17 (.field false 1 1 (.t 16)),mv 6 17] [0,1,4,5,6]) (.seq (.region (some []) [mv 18 6,⟨some 19,.load true 4 (.t 5),none,[4]⟩,mv 20 0,mv 21 1,cl 22 297 [20,21],jj 23 (.bslice 2 [zN,zN,eN,sN,zN,zN,eN,sN] [(0,4,(.t 19)),(4,4,(.t 22))]),jj 24 (.build [zN,zN,eN,sN] [(0,1,(kk 14)),(2,1,(.t 18)),(3,1,(.t 23))]),st 4 4 24] [4] [4]) (.ret))))),false,false,false⟩
def F297:PFun:=⟨2,[.cell 4 true 4],.seq (rn [bx 2 0,bx 3 1,jj 4 (.alloc [zN,zN,eN,sN])] [2,3,4]) (.seq (rn [l1 5 2,jj 6 (.mkfn 303 [] [(.t 2),(.t 3)]),jj 7 (.bslice 2 [eN,eN] [(0,1,(.c (.string ⟨#[43]⟩))),(1,1,(.c (.string ⟨#[45]⟩)))]),cl 8 285 [5,6,7],st 4 4 8] [4]) (.ret)),false,false,false⟩
def F303:PFun:=⟨2,[.cell 2 true 4],.seq (rn [jj 2 (.alloc [zN,zN,eN,sN])] [0,1,2]) (.seq (rn [l1 3 0,l1 4 1,cl 5 304 [3,4],st 4 2 5] [2]) (.ret)),false,false,false⟩
def F304:PFun:=⟨2,[.cell 4 true 4],.seq (rn [bx 2 0,bx 3 1,jj 4 (.alloc [zN,zN,eN,sN])] [2,3,4]) (.seq (rn [l1 5 2,jj 6 (.mkfn 307 [] [(.t 2),(.t 3)]),jj 7 (.bslice 2 [eN,eN] [(0,1,(.c (.string ⟨#[42]⟩))),(1,1,(.c (.string ⟨#[47]⟩)))]),cl 8 285 [5,6,7],st 4 4 8] [4]) (.ret)),false,false,false⟩
def F307:PFun:=⟨2,[.cell 2 true 4],.seq (rn [jj 2 (.alloc [zN,zN,eN,sN])] [0,1,2]) (.seq (rn [l1 3 0,l1 4 1,cl 5 308 [3,4],st 4 2 5] [2]) (.ret)),false,false,false⟩
def F308:PFun:=⟨2,[.cell 4 true 4],.seq (rn [jj 4 (.alloc [zN,zN,eN,sN])] [0,1,4]) (.seq (.seq (rn [mv 5 0,jj 6 (.bslice 1 [eN] [(0,1,(.c (.string ⟨#[45]⟩)))]),cl 7 269 [5,6]] [0,1,4,7]) (.cond (.t 7) (.seq (rn [mv 8 0,mv 9 1,bk 10 .add 9 1,jj 11 (.call 270 [(.t 8),(.c (.string ⟨#[45]⟩)),(.t 10)])] [0,1,4]) (.seq (rn [mv 12 0,mv 13 1,bk 14 .add 13 1,cl 15 308 [12,14],jj 16 (.bslice 1 [zN,zN,eN,sN] [(0,4,(.t 15))]),jj 17 (.build [zN,zN,eN,sN] [(0,1,(kk 13)),(2,1,(.c (.string ⟨#[45]⟩))),(3,1,(.t 16))]),st 4 4 17] [4]) (.ret))) (.skip))) (.seq (rn [mv 18 0,mv 19 1,cl 20 309 [18,19],st 4 4 20] [4]) (.ret))),false,false,false⟩
def F309:PFun:=⟨2,[.cell 4 true 4],.seq (rn [jj 4 (.alloc [zN,zN,eN,sN])] [0,1,4]) (.seq (rn [mv 7 0,cl 8 252 [7],jj 5 (.alloc [zN,eN,zN,zN,zN]),st 5 5 8] [0,1,4,5]) (.seq (.block 0 (.seq (rn [fa 10 0 5,l1 11 10,bk 12 .eql 11 4,mv 9 12] [0,1,4,5,9]) (.cond (.t 9) (.seq (rn [mv 13 0,cl 14 277 [13]] [4,5]) (.seq (rn [fa 15 3 5,l1 16 15,jj 17 (.build [zN,zN,eN,sN] [(0,1,(kk 8)),(1,1,(.t 16))]),st 4 4 17] [4]) (.ret))) (.seq (rn [fa 19 0 5,l1 20 19,bk 21 .eql 20 1,mv 18 21] [0,1,4,5,18]) (.cond (.t 18) (.seq (rn [mv 22 0,cl 23 277 [22]] [4,5]) (.seq (rn [fa 24 1 5,l1 25 24,jj 26 (.build [zN,zN,eN,sN] [(0,1,(kk 10)),(2,1,(.t 25))]),st 4 4 26] [4]) (.ret))) (.seq (rn [fa 28 0 5,l1 29 28,bk 30 .eql 29 3,mv 27 30] [0,1,4,5,27]) (.cond (.t 27) (.seq (.region (some []) [fa 31 1 5,⟨some 32,.load false 1 (.t 31),none,[4]⟩,mv 33 0,mv 34 1,cl 35 280 [33,34],jj 36 (.bslice 1 [zN,zN,eN,sN] [(0,4,(.t 35))]),jj 37 (.build [zN,zN,eN,sN] [(0,1,(kk 11)),(2,1,(.t 32)),(3,1,(.t 36))]),st 4 4 37] [4] [4]) (.ret)) (.seq (rn [mv 39 0,jj 40 (.bslice 1 [eN] [(0,1,(.c (.string ⟨#[116,114,117,101]⟩)))]),cl 41 269 [39,40],mv 38 41] [0,1,4,5,38]) (.cond (.t 38) (.seq (rn [mv 42 0,cl 43 277 [42]] [4]) (.seq (rn [jj 44 (.build [zN,zN,eN,sN] [(0,1,(kk 9)),(1,1,(kk 1))]),st 4 4 44] [4]) (.ret))) (.seq (rn [mv 46 0,jj 47 (.bslice 1 [eN] [(0,1,(.c (.string ⟨#[102,97,108,115,101]⟩)))]),cl 48 269 [46,47],mv 45 48] [0,1,4,5,45]) (.cond (.t 45) (.seq (rn [mv 49 0,cl 50 277 [49]] [4]) (.seq (rn [jj 51 (.build [zN,zN,eN,sN] [(0,1,(kk 9))]),st 4 4 51] [4]) (.ret))) (.seq (rn [mv 53 0,jj 54 (.bslice 3 [eN,eN,eN] [(0,1,(.c (.string ⟨#[115,101,108,102]⟩))),(1,1,(.c (.string ⟨#[111,116,104,101,114]⟩))),(2,1,(.c (.string ⟨#[116,105,99,107]⟩)))]),cl 55 269 [53,54],mv 52 55] [0,1,4,5,52]) (.cond (.t 52) (.seq (rn [mv 56 0,cl 57 277 [56]] [4,5]) (.seq (rn [fa 58 1 5,l1 59 58,jj 60 (.build [zN,zN,eN,sN] [(0,1,(kk 12)),(2,1,(.t 59))]),st 4 4 60] [4]) (.ret))) (.skip)))))))))))))) (.seq (rn [mv 61 0,mv 62 1,bk 63 .add 62 1,jj 64 (.call 270 [(.t 61),(.c (.string ⟨#[40]⟩)),(.t 63)])] [0,1,4]) (.seq (rn [mv 65 0,mv 66 1,bk 67 .add 66 1,cl 68 279 [65,67],jj 6 (.alloc [zN,zN,eN,sN]),st 4 6 68] [0,4,6]) (.seq (rn [mv 69 0,jj 70 (.call 253 [(.t 69),(.c (.string ⟨#[41]⟩))])] [4,6]) (.seq (rn [la 71 4 6,st 4 4 71] [4]) (.ret))))))),false,false,false⟩
end Go.Pm.F
end
section
namespace Go.Pm.F
variable(C:Task->Option Res)(q:Nat)(fr:Fr)(σ : S)
def G_internal_strconv_uint64pow10:List D:=(List.range 20).map fun i => .lit (.int .u64 (10 ^ i:Nat))
def F245:PFun:=⟨1,[.tmp 2],.seq (rn [jj 2 (.mov (.c (.string ⟨#[]⟩)))] [0]) (.seq (.region (some []) [mv 3 0,nc 4 3,fa 5 1 4,l1 6 5,jj 7 (.usd (.t 6)),mv 8 0,nc 9 8,fa 10 1 9,l1 11 10,ls 12 11,jj 13 (.ustr [3] (.t 7) (.t 12)),mv 2 13] [2]) (.ret)),false,false,false⟩
def F258:PFun:=⟨2,[.tmp 4],.seq (rn [jj 4 (.mov (.c .nilIface))] [0,1]) (.seq (rn [mv 5 0,cl 6 272 [5]] [0,1]) (.seq (rn [mv 7 0,mv 8 0,nc 9 8,fa 10 1 9,l1 11 10,mv 12 1,jj 13 (.bsliceO 1 1 [(.lit (.int .u8 0))] [(0,1,(.t 12))]),jj 14 (.appendT 3 1 1 (.t 11) (.t 13)),nc 15 7,fa 16 1 15,st 1 16 14] []) (.seq (rn [jj 4 (.mov (.c .nilIface))] [4]) (.ret)))),false,false,false⟩
def F259:PFun:=⟨2,[.tmp 4,.tmp 5],.seq (rn [mx 4 (kk 0),jj 5 (.mov (.c .nilIface))] [0,1]) (.seq (rn [mv 6 0,cl 7 272 [6]] [0,1]) (.seq (rn [mv 8 0,mv 9 0,nc 10 9,fa 11 1 10,l1 12 11,mv 13 1,jj 14 (.appendT 3 1 1 (.t 12) (.t 13)),nc 15 8,fa 16 1 15,st 1 16 14] [1]) (.seq (rn [mv 17 1,lz 18 17,mv 4 18,jj 5 (.mov (.c .nilIface))] [4,5]) (.ret)))),false,false,false⟩
def F268:PFun:=⟨2,[.tmp 4],.seq (rn [mx 4 (kk 0)] [0,1]) (.seq (rn [mv 5 0,mv 6 1,cl 7 275 [5,6],mv 4 7] [4]) (.ret)),false,false,false⟩
def F272:PFun:=⟨1,[],.seq (rn [mv 2 0,nc 3 2,fa 4 0 3,l1 5 4,jj 6 (.isnil true false (.t 5))] [0,6]) (.cond (.t 6) (rn [mv 7 0,mv 8 0,jj 9 (.up (.t 8)),mv 10 9,jj 11 (.down [(4,3)] (.t 10)),nc 12 7,fa 13 0 12,st 1 13 11] []) (.seq (rn [mv 14 0,nc 15 14,fa 16 0 15,l1 17 16,mv 18 0,jj 19 (.peq true (.t 17) (.t 18))] [19]) (.cond (.t 19) (.cond (.c .nilIface) (.skip) (.skip)) (.skip)))),false,false,false⟩
def F275:PFun:=⟨2,[.tmp 4],.seq (rn [mx 4 (kk 0)] [0,1]) (.seq (rn [mv 5 0,mv 6 1,jj 7 (.idxb (.t 5) (.t 6)),mv 4 7] [4]) (.ret)),false,false,false⟩
def F276:PFun:=⟨2,[.tmp 4],.seq (rn [mx 4 kF] [0,1]) (.seq (rn [mv 5 0,mv 6 1,cl 7 284 [5,6],bk 8 .geq 7 0,mv 4 8] [4]) (.ret)),false,false,false⟩
def F283:PFun:=⟨1,[.tmp 2],.seq (rn [jj 2 (.mov (.c (.string ⟨#[]⟩)))] [0]) (.seq (rn [mv 3 0,cl 4 288 [3],mv 2 4] [2]) (.ret)),false,false,false⟩
@[simp] def F284l0x:PC:=(.seq (rn [bn 9 .lss 8 7] [0,1,7,8,9]) (.seq (.cond (.t 9) (.skip) (.exit 0)) (.seq (.block 1 (.seq (rn [mv 10 8,mv 5 10] [0,1,5,7,8]) (.seq (rn [mv 11 1,mv 12 0,mv 13 5,jj 14 (.indexAddr 1 (.t 12) (.t 13)),l1 15 14,bn 16 .eql 11 15] [0,1,5,7,8,16]) (.cond (.t 16) (.seq (rn [mv 17 5,mv 4 17] [4]) (.ret)) (.skip))))) (rn [bk 18 .add 8 1,mv 8 18] [0,1,7,8]))))
def F284l0:PC:=F284l0x
theorem qfz:run C q F284l0 fr σ = run C q F284l0x fr σ := rfl
def F284:PFun:=⟨2,[.tmp 4],.seq (rn [mx 4 (kk 0)] [0,1]) (.seq (.seq (rn [mv 6 0,ls 7 6,mx 8 (kk 0)] [0,1,7,8]) (.block 0 (.loop F284l0))) (.seq (rn [mx 4 (kk (-1))] [4]) (.ret))),false,false,false⟩
def F288:PFun:=⟨1,[.tmp 2],.seq (rn [jj 2 (.mov (.c (.string ⟨#[]⟩)))] [0]) (.seq (rn [mv 3 0,jj 4 (.call 291 [(.t 3),(kk 10)]),mv 2 4] [2]) (.ret)),false,false,false⟩
def F291:PFun:=⟨2,[.tmp 4],.seq (rn [jj 4 (.mov (.c (.string ⟨#[]⟩)))] [0,1]) (.seq (.seq (rn [mv 10 1,bk 11 .eql 10 10] [0,1,11]) (.cond (.t 11) (.seq (.seq (rn [mv 12 0,jj 13 (.bin .leq (kk 0) (.t 12)),mv 14 13,jt 15 14 (.mov (.t 0)),jt 16 14 (.bin .lss (.t 15) (kk 100)),jj 17 (.pick (.t 14) (.t 16) kF)] [0,17]) (.cond (.t 17) (.seq (rn [mv 18 0,cl 19 293 [18],mv 4 19] [4]) (.ret)) (.skip))) (.seq (rn [jj 5 (.alloc [(.lit (.int .u8 0)),(.lit (.int .u8 0)),(.lit (.int .u8 0)),(.lit (.int .u8 0)),(.lit (.int .u8 0)),(.lit (.int .u8 0)),(.lit (.int .u8 0)),(.lit (.int .u8 0)),(.lit (.int .u8 0)),(.lit (.int .u8 0)),(.lit (.int .u8 0)),(.lit (.int .u8 0)),(.lit (.int .u8 0)),(.lit (.int .u8 0)),(.lit (.int .u8 0)),(.lit (.int .u8 0)),(.lit (.int .u8 0)),(.lit (.int .u8 0)),(.lit (.int .u8 0)),(.lit (.int .u8 0)),(.lit (.int .u8 0)),(.lit (.int .u8 0)),(.lit (.int .u8 0)),(.lit (.int .u8 0))])] [0,5]) (.seq (rn [mv 20 0,jj 21 (.conv (.int .u64) (.t 20)),mv 6 21] [0,5,6]) (.seq (.seq (rn [mv 22 0,bk 23 .lss 22 0] [0,5,6,23]) (.cond (.t 23) (rn [mv 24 6,jj 25 (.un .neg (.t 24)),mv 6 25] [0,5,6]) (.skip))) (.seq (rn [mv 26 6,cl 27 294 [26],mv 7 27] [0,5,6,7]) (.seq (rn [mv 28 7,jj 29 (.bin .add (kk 1) (.t 28)),jj 30 (.sliceA 24 1 (.t 5) (some (kk 1)) (some (.t 29))),mv 31 6,cl 32 295 [30,31]] [0,5,7]) (.seq (.seq (rn [mv 33 0,bk 34 .lss 33 0] [5,7,34]) (.cond (.t 34) (.seq (rn [jj 35 (.indexAddrA 24 1 (.t 5) (kk 0)),jn (.store 1 (.t 35) (.c (.int .u8 45)))] [5,7]) (.seq (rn [mv 36 7,jj 37 (.bin .add (kk 1) (.t 36)),jj 38 (.sliceA 24 1 (.t 5) none (some (.t 37))),jj 39 (.bstr (.t 38)),mv 4 39] [4]) (.ret))) (.skip))) (.seq (rn [mv 40 7,jj 41 (.bin .add (kk 1) (.t 40)),jj 42 (.sliceA 24 1 (.t 5) (some (kk 1)) (some (.t 41))),jj 43 (.bstr (.t 42)),mv 4 43] [4]) (.ret))))))))) (.skip))) (.seq (rn [mv 45 0,jj 46 (.conv (.int .u64) (.t 45)),mv 47 1,mv 48 0,bk 49 .lss 48 0,jj 50 (.call 296 [(.c (.slice none 0 0)),(.t 46),(.t 47),(.t 49),kF]),mv 44 50,ex 51 44 0,ex 52 44 1,mv 8 51,mv 9 52] [9]) (.seq (rn [mv 53 9,mv 4 53] [4]) (.ret)))),false,false,false⟩
def F293:PFun:=⟨1,[.tmp 2],.seq (rn [jj 2 (.mov (.c (.string ⟨#[]⟩)))] [0]) (.seq (.seq (rn [mv 3 0,bk 4 .lss 3 10] [0,4]) (.cond (.t 4) (.seq (rn [mv 5 0,mv 6 0,bk 7 .add 6 1,jj 8 (.sliceS (.c (.string ⟨#[48,49,50,51,52,53,54,55,56,57,97,98,99,100,101,102,103,104,105,106,107,108,109,110,111,112,113,114,115,116,117,118,119,120,121,122]⟩)) (some (.t 5)) (some (.t 7))),mv 2 8] [2]) (.ret)) (.skip))) (.seq (rn [mv 9 0,bk 10 .mul 9 2,mv 11 0,bk 12 .mul 11 2,bk 13 .add 12 2,jj 14 (.sliceS (.c (.string ⟨#[48,48,48,49,48,50,48,51,48,52,48,53,48,54,48,55,48,56,48,57,49,48,49,49,49,50,49,51,49,52,49,53,49,54,49,55,49,56,49,57,50,48,50,49,50,50,50,51,50,52,50,53,50,54,50,55,50,56,50,57,51,48,51,49,51,50,51,51,51,52,51,53,51,54,51,55,51,56,51,57,52,48,52,49,52,50,52,51,52,52,52,53,52,54,52,55,52,56,52,57,53,48,53,49,53,50,53,51,53,52,53,53,53,54,53,55,53,56,53,57,54,48,54,49,54,50,54,51,54,52,54,53,54,54,54,55,54,56,54,57,55,48,55,49,55,50,55,51,55,52,55,53,55,54,55,55,55,56,55,57,56,48,56,49,56,50,56,51,56,52,56,53,56,54,56,55,56,56,56,57,57,48,57,49,57,50,57,51,57,52,57,53,57,54,57,55,57,56,57,57]⟩)) (some (.t 10)) (some (.t 13))),mv 2 14] [2]) (.ret))),false,false,false⟩
def F294:PFun:=⟨1,[.tmp 2],.seq (rn [mx 2 (kk 0)] [0]) (.seq (rn [mv 4 0,cl 5 299 [4],cl 6 298 [5],mv 3 6] [0,3]) (.seq (rn [mv 7 3,mv 8 0,mv 9 3,jj 10 (.indexAddrA 20 1 (.g G_internal_strconv_uint64pow10) (.t 9)),l1 11 10,bn 12 .geq 8 11,cl 13 300 [12],bn 14 .add 7 13,mv 2 14] [2]) (.ret))),false,false,false⟩
@[simp] def F295l0x:PC:=(.seq (.seq (rn [mv 19 4,bk 20 .geq 19 8] [0,1,4,20]) (.cond (.t 20) (.skip) (.exit 0))) (.block 1 (.seq (rn [mv 21 1,jj 22 (.bin .rem (.t 21) (.c (.int .u64 100000000))),jj 23 (.conv (.int .u32) (.t 22)),mv 5 23] [0,1,4,5]) (.seq (rn [mv 24 1,jj 25 (.bin .quo (.t 24) (.c (.int .u64 100000000))),mv 1 25] [0,1,4,5]) (.seq (rn [mv 26 5,jj 27 (.bin .quo (.t 26) (.c (.int .u32 10000))),mv 28 5,jj 29 (.bin .rem (.t 28) (.c (.int .u32 10000))),mv 6 27,mv 7 29] [0,1,4,6,7]) (.seq (rn [mv 30 7,jj 31 (.bin .quo (.t 30) (.c (.int .u32 100))),jj 32 (.bin .mul (.t 31) (.c (.int .u32 2))),mv 33 7,jj 34 (.bin .rem (.t 33) (.c (.int .u32 100))),jj 35 (.bin .mul (.t 34) (.c (.int .u32 2))),mv 8 32,mv 9 35] [0,1,4,6,8,9]) (.seq (rn [mv 36 6,jj 37 (.bin .quo (.t 36) (.c (.int .u32 100))),jj 38 (.bin .mul (.t 37) (.c (.int .u32 2))),mv 39 6,jj 40 (.bin .rem (.t 39) (.c (.int .u32 100))),jj 41 (.bin .mul (.t 40) (.c (.int .u32 2))),mv 10 38,mv 11 41] [0,1,4,8,9,10,11]) (.seq (.region (some []) [mv 42 0,mv 43 4,bk 44 .sub 43 1,mv 45 0,mv 46 4,bk 47 .sub 46 2,mv 48 9,jj 49 (.bin .add (.t 48) (.c (.int .u32 1))),jj 50 (.indexS (.c (.string ⟨#[48,48,48,49,48,50,48,51,48,52,48,53,48,54,48,55,48,56,48,57,49,48,49,49,49,50,49,51,49,52,49,53,49,54,49,55,49,56,49,57,50,48,50,49,50,50,50,51,50,52,50,53,50,54,50,55,50,56,50,57,51,48,51,49,51,50,51,51,51,52,51,53,51,54,51,55,51,56,51,57,52,48,52,49,52,50,52,51,52,52,52,53,52,54,52,55,52,56,52,57,53,48,53,49,53,50,53,51,53,52,53,53,53,54,53,55,53,56,53,57,54,48,54,49,54,50,54,51,54,52,54,53,54,54,54,55,54,56,54,57,55,48,55,49,55,50,55,51,55,52,55,53,55,54,55,55,55,56,55,57,56,48,56,49,56,50,56,51,56,52,56,53,56,54,56,55,56,56,56,57,57,48,57,49,57,50,57,51,57,52,57,53,57,54,57,55,57,56,57,57]⟩)) (.t 49)),mv 51 9,jj 52 (.indexS (.c (.string ⟨#[48,48,48,49,48,50,48,51,48,52,48,53,48,54,48,55,48,56,48,57,49,48,49,49,49,50,49,51,49,52,49,53,49,54,49,55,49,56,49,57,50,48,50,49,50,50,50,51,50,52,50,53,50,54,50,55,50,56,50,57,51,48,51,49,51,50,51,51,51,52,51,53,51,54,51,55,51,56,51,57,52,48,52,49,52,50,52,51,52,52,52,53,52,54,52,55,52,56,52,57,53,48,53,49,53,50,53,51,53,52,53,53,53,54,53,55,53,56,53,57,54,48,54,49,54,50,54,51,54,52,54,53,54,54,54,55,54,56,54,57,55,48,55,49,55,50,55,51,55,52,55,53,55,54,55,55,55,56,55,57,56,48,56,49,56,50,56,51,56,52,56,53,56,54,56,55,56,56,56,57,57,48,57,49,57,50,57,51,57,52,57,53,57,54,57,55,57,56,57,57]⟩)) (.t 51)),jj 53 (.indexAddr 1 (.t 42) (.t 44)),st 1 53 50,jj 54 (.indexAddr 1 (.t 45) (.t 47)),st 1 54 52] [0,1,4,8,10,11]) (.seq (.region (some []) [mv 55 0,mv 56 4,bk 57 .sub 56 3,mv 58 0,mv 59 4,bk 60 .sub 59 4,mv 61 8,jj 62 (.bin .add (.t 61) (.c (.int .u32 1))),jj 63 (.indexS (.c (.string ⟨#[48,48,48,49,48,50,48,51,48,52,48,53,48,54,48,55,48,56,48,57,49,48,49,49,49,50,49,51,49,52,49,53,49,54,49,55,49,56,49,57,50,48,50,49,50,50,50,51,50,52,50,53,50,54,50,55,50,56,50,57,51,48,51,49,51,50,51,51,51,52,51,53,51,54,51,55,51,56,51,57,52,48,52,49,52,50,52,51,52,52,52,53,52,54,52,55,52,56,52,57,53,48,53,49,53,50,53,51,53,52,53,53,53,54,53,55,53,56,53,57,54,48,54,49,54,50,54,51,54,52,54,53,54,54,54,55,54,56,54,57,55,48,55,49,55,50,55,51,55,52,55,53,55,54,55,55,55,56,55,57,56,48,56,49,56,50,56,51,56,52,56,53,56,54,56,55,56,56,56,57,57,48,57,49,57,50,57,51,57,52,57,53,57,54,57,55,57,56,57,57]⟩)) (.t 62)),mv 64 8,jj 65 (.indexS (.c (.string ⟨#[48,48,48,49,48,50,48,51,48,52,48,53,48,54,48,55,48,56,48,57,49,48,49,49,49,50,49,51,49,52,49,53,49,54,49,55,49,56,49,57,50,48,50,49,50,50,50,51,50,52,50,53,50,54,50,55,50,56,50,57,51,48,51,49,51,50,51,51,51,52,51,53,51,54,51,55,51,56,51,57,52,48,52,49,52,50,52,51,52,52,52,53,52,54,52,55,52,56,52,57,53,48,53,49,53,50,53,51,53,52,53,53,53,54,53,55,53,56,53,57,54,48,54,49,54,50,54,51,54,52,54,53,54,54,54,55,54,56,54,57,55,48,55,49,55,50,55,51,55,52,55,53,55,54,55,55,55,56,55,57,56,48,56,49,56,50,56,51,56,52,56,53,56,54,56,55,56,56,56,57,57,48,57,49,57,50,57,51,57,52,57,53,57,54,57,55,57,56,57,57]⟩)) (.t 64)),jj 66 (.indexAddr 1 (.t 55) (.t 57)),st 1 66 63,jj 67 (.indexAddr 1 (.t 58) (.t 60)),st 1 67 65] [0,1,4,10,11]) (.seq (.region (some []) [mv 68 0,mv 69 4,bk 70 .sub 69 5,mv 71 0,mv 72 4,bk 73 .sub 72 6,mv 74 11,jj 75 (.bin .add (.t 74) (.c (.int .u32 1))),jj 76 (.indexS (.c (.string ⟨#[48,48,48,49,48,50,48,51,48,52,48,53,48,54,48,55,48,56,48,57,49,48,49,49,49,50,49,51,49,52,49,53,49,54,49,55,49,56,49,57,50,48,50,49,50,50,50,51,50,52,50,53,50,54,50,55,50,56,50,57,51,48,51,49,51,50,51,51,51,52,51,53,51,54,51,55,51,56,51,57,52,48,52,49,52,50,52,51,52,52,52,53,52,54,52,55,52,56,52,57,53,48,53,49,53,50,53,51,53,52,53,53,53,54,53,55,53,56,53,57,54,48,54,49,54,50,54,51,54,52,54,53,54,54,54,55,54,56,54,57,55,48,55,49,55,50,55,51,55,52,55,53,55,54,55,55,55,56,55,57,56,48,56,49,56,50,56,51,56,52,56,53,56,54,56,55,56,56,56,57,57,48,57,49,57,50,57,51,57,52,57,53,57,54,57,55,57,56,57,57]⟩)) (.t 75)),mv 77 11,jj 78 (.indexS (.c (.string ⟨#[48,48,48,49,48,50,48,51,48,52,48,53,48,54,48,55,48,56,48,57,49,48,49,49,49,50,49,51,49,52,49,53,49,54,49,55,49,56,49,57,50,48,50,49,50,50,50,51,50,52,50,53,50,54,50,55,50,56,50,57,51,48,51,49,51,50,51,51,51,52,51,53,51,54,51,55,51,56,51,57,52,48,52,49,52,50,52,51,52,52,52,53,52,54,52,55,52,56,52,57,53,48,53,49,53,50,53,51,53,52,53,53,53,54,53,55,53,56,53,57,54,48,54,49,54,50,54,51,54,52,54,53,54,54,54,55,54,56,54,57,55,48,55,49,55,50,55,51,55,52,55,53,55,54,55,55,55,56,55,57,56,48,56,49,56,50,56,51,56,52,56,53,56,54,56,55,56,56,56,57,57,48,57,49,57,50,57,51,57,52,57,53,57,54,57,55,57,56,57,57]⟩)) (.t 77)),jj 79 (.indexAddr 1 (.t 68) (.t 70)),st 1 79 76,jj 80 (.indexAddr 1 (.t 71) (.t 73)),st 1 80 78] [0,1,4,10]) (.seq (.region (some []) [mv 81 0,mv 82 4,bk 83 .sub 82 7,mv 84 0,mv 85 4,bk 86 .sub 85 8,mv 87 10,jj 88 (.bin .add (.t 87) (.c (.int .u32 1))),jj 89 (.indexS (.c (.string ⟨#[48,48,48,49,48,50,48,51,48,52,48,53,48,54,48,55,48,56,48,57,49,48,49,49,49,50,49,51,49,52,49,53,49,54,49,55,49,56,49,57,50,48,50,49,50,50,50,51,50,52,50,53,50,54,50,55,50,56,50,57,51,48,51,49,51,50,51,51,51,52,51,53,51,54,51,55,51,56,51,57,52,48,52,49,52,50,52,51,52,52,52,53,52,54,52,55,52,56,52,57,53,48,53,49,53,50,53,51,53,52,53,53,53,54,53,55,53,56,53,57,54,48,54,49,54,50,54,51,54,52,54,53,54,54,54,55,54,56,54,57,55,48,55,49,55,50,55,51,55,52,55,53,55,54,55,55,55,56,55,57,56,48,56,49,56,50,56,51,56,52,56,53,56,54,56,55,56,56,56,57,57,48,57,49,57,50,57,51,57,52,57,53,57,54,57,55,57,56,57,57]⟩)) (.t 88)),mv 90 10,jj 91 (.indexS (.c (.string ⟨#[48,48,48,49,48,50,48,51,48,52,48,53,48,54,48,55,48,56,48,57,49,48,49,49,49,50,49,51,49,52,49,53,49,54,49,55,49,56,49,57,50,48,50,49,50,50,50,51,50,52,50,53,50,54,50,55,50,56,50,57,51,48,51,49,51,50,51,51,51,52,51,53,51,54,51,55,51,56,51,57,52,48,52,49,52,50,52,51,52,52,52,53,52,54,52,55,52,56,52,57,53,48,53,49,53,50,53,51,53,52,53,53,53,54,53,55,53,56,53,57,54,48,54,49,54,50,54,51,54,52,54,53,54,54,54,55,54,56,54,57,55,48,55,49,55,50,55,51,55,52,55,53,55,54,55,55,55,56,55,57,56,48,56,49,56,50,56,51,56,52,56,53,56,54,56,55,56,56,56,57,57,48,57,49,57,50,57,51,57,52,57,53,57,54,57,55,57,56,57,57]⟩)) (.t 90)),jj 92 (.indexAddr 1 (.t 81) (.t 83)),st 1 92 89,jj 93 (.indexAddr 1 (.t 84) (.t 86)),st 1 93 91] [0,1,4]) (rn [mv 94 4,bk 95 .sub 94 8,mv 4 95] [0,1,4]))))))))))))
def F295l0:PC:=F295l0x
def F295:PFun:=⟨2,[],.seq (rn [mv 17 0,ls 18 17,mv 4 18] [0,1,4]) (.seq (.block 0 (.loop F295l0)) (.seq (rn [mv 96 1,jj 97 (.conv (.int .u32) (.t 96)),mv 12 97] [0,4,12]) (.seq (.seq (rn [mv 98 4,bk 99 .geq 98 4] [0,4,12,99]) (.cond (.t 99) (.seq (rn [mv 100 12,jj 101 (.bin .rem (.t 100) (.c (.int .u32 10000))),mv 13 101] [0,4,12,13]) (.seq (rn [mv 102 12,jj 103 (.bin .quo (.t 102) (.c (.int .u32 10000))),mv 12 103] [0,4,12,13]) (.seq (rn [mv 104 13,jj 105 (.bin .quo (.t 104) (.c (.int .u32 100))),jj 106 (.bin .mul (.t 105) (.c (.int .u32 2))),mv 107 13,jj 108 (.bin .rem (.t 107) (.c (.int .u32 100))),jj 109 (.bin .mul (.t 108) (.c (.int .u32 2))),mv 14 106,mv 15 109] [0,4,12,14,15]) (.seq (.region (some []) [mv 110 0,mv 111 4,bk 112 .sub 111 1,mv 113 0,mv 114 4,bk 115 .sub 114 2,mv 116 15,jj 117 (.bin .add (.t 116) (.c (.int .u32 1))),jj 118 (.indexS (.c (.string ⟨#[48,48,48,49,48,50,48,51,48,52,48,53,48,54,48,55,48,56,48,57,49,48,49,49,49,50,49,51,49,52,49,53,49,54,49,55,49,56,49,57,50,48,50,49,50,50,50,51,50,52,50,53,50,54,50,55,50,56,50,57,51,48,51,49,51,50,51,51,51,52,51,53,51,54,51,55,51,56,51,57,52,48,52,49,52,50,52,51,52,52,52,53,52,54,52,55,52,56,52,57,53,48,53,49,53,50,53,51,53,52,53,53,53,54,53,55,53,56,53,57,54,48,54,49,54,50,54,51,54,52,54,53,54,54,54,55,54,56,54,57,55,48,55,49,55,50,55,51,55,52,55,53,55,54,55,55,55,56,55,57,56,48,56,49,56,50,56,51,56,52,56,53,56,54,56,55,56,56,56,57,57,48,57,49,57,50,57,51,57,52,57,53,57,54,57,55,57,56,57,57]⟩)) (.t 117)),mv 119 15,jj 120 (.indexS (.c (.string ⟨#[48,48,48,49,48,50,48,51,48,52,48,53,48,54,48,55,48,56,48,57,49,48,49,49,49,50,49,51,49,52,49,53,49,54,49,55,49,56,49,57,50,48,50,49,50,50,50,51,50,52,50,53,50,54,50,55,50,56,50,57,51,48,51,49,51,50,51,51,51,52,51,53,51,54,51,55,51,56,51,57,52,48,52,49,52,50,52,51,52,52,52,53,52,54,52,55,52,56,52,57,53,48,53,49,53,50,53,51,53,52,53,53,53,54,53,55,53,56,53,57,54,48,54,49,54,50,54,51,54,52,54,53,54,54,54,55,54,56,54,57,55,48,55,49,55,50,55,51,55,52,55,53,55,54,55,55,55,56,55,57,56,48,56,49,56,50,56,51,56,52,56,53,56,54,56,55,56,56,56,57,57,48,57,49,57,50,57,51,57,52,57,53,57,54,57,55,57,56,57,57]⟩)) (.t 119)),jj 121 (.indexAddr 1 (.t 110) (.t 112)),st 1 121 118,jj 122 (.indexAddr 1 (.t 113) (.t 115)),st 1 122 120] [0,4,12,14]) (.seq (.region (some []) [mv 123 0,mv 124 4,bk 125 .sub 124 3,mv 126 0,mv 127 4,bk 128 .sub 127 4,mv 129 14,jj 130 (.bin .add (.t 129) (.c (.int .u32 1))),jj 131 (.indexS (.c (.string ⟨#[48,48,48,49,48,50,48,51,48,52,48,53,48,54,48,55,48,56,48,57,49,48,49,49,49,50,49,51,49,52,49,53,49,54,49,55,49,56,49,57,50,48,50,49,50,50,50,51,50,52,50,53,50,54,50,55,50,56,50,57,51,48,51,49,51,50,51,51,51,52,51,53,51,54,51,55,51,56,51,57,52,48,52,49,52,50,52,51,52,52,52,53,52,54,52,55,52,56,52,57,53,48,53,49,53,50,53,51,53,52,53,53,53,54,53,55,53,56,53,57,54,48,54,49,54,50,54,51,54,52,54,53,54,54,54,55,54,56,54,57,55,48,55,49,55,50,55,51,55,52,55,53,55,54,55,55,55,56,55,57,56,48,56,49,56,50,56,51,56,52,56,53,56,54,56,55,56,56,56,57,57,48,57,49,57,50,57,51,57,52,57,53,57,54,57,55,57,56,57,57]⟩)) (.t 130)),mv 132 14,jj 133 (.indexS (.c (.string ⟨#[48,48,48,49,48,50,48,51,48,52,48,53,48,54,48,55,48,56,48,57,49,48,49,49,49,50,49,51,49,52,49,53,49,54,49,55,49,56,49,57,50,48,50,49,50,50,50,51,50,52,50,53,50,54,50,55,50,56,50,57,51,48,51,49,51,50,51,51,51,52,51,53,51,54,51,55,51,56,51,57,52,48,52,49,52,50,52,51,52,52,52,53,52,54,52,55,52,56,52,57,53,48,53,49,53,50,53,51,53,52,53,53,53,54,53,55,53,56,53,57,54,48,54,49,54,50,54,51,54,52,54,53,54,54,54,55,54,56,54,57,55,48,55,49,55,50,55,51,55,52,55,53,55,54,55,55,55,56,55,57,56,48,56,49,56,50,56,51,56,52,56,53,56,54,56,55,56,56,56,57,57,48,57,49,57,50,57,51,57,52,57,53,57,54,57,55,57,56,57,57]⟩)) (.t 132)),jj 134 (.indexAddr 1 (.t 123) (.t 125)),st 1 134 131,jj 135 (.indexAddr 1 (.t 126) (.t 128)),st 1 135 133] [0,4,12]) (rn [mv 136 4,bk 137 .sub 136 4,mv 4 137] [0,4,12])))))) (.skip))) (.seq (.seq (rn [mv 138 4,bk 139 .geq 138 2] [0,4,12,139]) (.cond (.t 139) (.seq (rn [mv 140 12,jj 141 (.bin .rem (.t 140) (.c (.int .u32 100))),jj 142 (.bin .mul (.t 141) (.c (.int .u32 2))),mv 16 142] [0,4,12,16]) (.seq (rn [mv 143 12,jj 144 (.bin .quo (.t 143) (.c (.int .u32 100))),mv 12 144] [0,4,12,16]) (.seq (.region (some []) [mv 145 0,mv 146 4,bk 147 .sub 146 1,mv 148 0,mv 149 4,bk 150 .sub 149 2,mv 151 16,jj 152 (.bin .add (.t 151) (.c (.int .u32 1))),jj 153 (.indexS (.c (.string ⟨#[48,48,48,49,48,50,48,51,48,52,48,53,48,54,48,55,48,56,48,57,49,48,49,49,49,50,49,51,49,52,49,53,49,54,49,55,49,56,49,57,50,48,50,49,50,50,50,51,50,52,50,53,50,54,50,55,50,56,50,57,51,48,51,49,51,50,51,51,51,52,51,53,51,54,51,55,51,56,51,57,52,48,52,49,52,50,52,51,52,52,52,53,52,54,52,55,52,56,52,57,53,48,53,49,53,50,53,51,53,52,53,53,53,54,53,55,53,56,53,57,54,48,54,49,54,50,54,51,54,52,54,53,54,54,54,55,54,56,54,57,55,48,55,49,55,50,55,51,55,52,55,53,55,54,55,55,55,56,55,57,56,48,56,49,56,50,56,51,56,52,56,53,56,54,56,55,56,56,56,57,57,48,57,49,57,50,57,51,57,52,57,53,57,54,57,55,57,56,57,57]⟩)) (.t 152)),mv 154 16,jj 155 (.indexS (.c (.string ⟨#[48,48,48,49,48,50,48,51,48,52,48,53,48,54,48,55,48,56,48,57,49,48,49,49,49,50,49,51,49,52,49,53,49,54,49,55,49,56,49,57,50,48,50,49,50,50,50,51,50,52,50,53,50,54,50,55,50,56,50,57,51,48,51,49,51,50,51,51,51,52,51,53,51,54,51,55,51,56,51,57,52,48,52,49,52,50,52,51,52,52,52,53,52,54,52,55,52,56,52,57,53,48,53,49,53,50,53,51,53,52,53,53,53,54,53,55,53,56,53,57,54,48,54,49,54,50,54,51,54,52,54,53,54,54,54,55,54,56,54,57,55,48,55,49,55,50,55,51,55,52,55,53,55,54,55,55,55,56,55,57,56,48,56,49,56,50,56,51,56,52,56,53,56,54,56,55,56,56,56,57,57,48,57,49,57,50,57,51,57,52,57,53,57,54,57,55,57,56,57,57]⟩)) (.t 154)),jj 156 (.indexAddr 1 (.t 145) (.t 147)),st 1 156 153,jj 157 (.indexAddr 1 (.t 148) (.t 150)),st 1 157 155] [0,4,12]) (rn [mv 158 4,bk 159 .sub 158 2,mv 4 159] [0,4,12])))) (.skip))) (.seq (rn [mv 160 4,bk 161 .gtr 160 0] [0,12,161]) (.cond (.t 161) (rn [mv 162 0,mv 163 12,jj 164 (.bin .add (.c (.int .u32 48)) (.t 163)),jj 165 (.conv (.int .u8) (.t 164)),jj 166 (.indexAddr 1 (.t 162) (kk 0)),st 1 166 165] []) (.skip))))))),false,false,false⟩
def F298:PFun:=⟨1,[.tmp 2],.seq (rn [mx 2 (kk 0)] [0]) (.seq (rn [mv 3 0,bk 4 .mul 3 78913,jj 5 (.bin .shr (.t 4) (.c (.int .u64 18))),mv 2 5] [2]) (.ret)),false,false,false⟩
def F299:PFun:=⟨1,[.tmp 2],.seq (rn [mx 2 (kk 0)] [0,2]) (.seq (.seq (rn [mv 3 0,jj 4 (.bin .geq (.t 3) (.c (.int .u64 4294967296)))] [0,2,4]) (.cond (.t 4) (.seq (rn [mv 5 0,jj 6 (.bin .shr (.t 5) (.c (.int .u64 32))),mv 0 6] [0]) (rn [mx 2 (kk 32)] [0,2])) (.skip))) (.seq (.seq (rn [mv 7 0,jj 8 (.bin .geq (.t 7) (.c (.int .u64 65536)))] [0,2,8]) (.cond (.t 8) (.seq (rn [mv 9 0,jj 10 (.bin .shr (.t 9) (.c (.int .u64 16))),mv 0 10] [0,2]) (rn [mv 11 2,bk 12 .add 11 16,mv 2 12] [0,2])) (.skip))) (.seq (.seq (rn [mv 13 0,jj 14 (.bin .geq (.t 13) (.c (.int .u64 256)))] [0,2,14]) (.cond (.t 14) (.seq (rn [mv 15 0,jj 16 (.bin .shr (.t 15) (.c (.int .u64 8))),mv 0 16] [0,2]) (rn [mv 17 2,bk 18 .add 17 8,mv 2 18] [0,2])) (.skip))) (.seq (rn [mv 19 2,mv 20 0,jj 21 (.conv (.int .u8) (.t 20)),jj 22 (.indexS (.c (.string ⟨#[0,1,2,2,3,3,3,3,4,4,4,4,4,4,4,4,5,5,5,5,5,5,5,5,5,5,5,5,5,5,5,5,6,6,6,6,6,6,6,6,6,6,6,6,6,6,6,6,6,6,6,6,6,6,6,6,6,6,6,6,6,6,6,6,7,7,7,7,7,7,7,7,7,7,7,7,7,7,7,7,7,7,7,7,7,7,7,7,7,7,7,7,7,7,7,7,7,7,7,7,7,7,7,7,7,7,7,7,7,7,7,7,7,7,7,7,7,7,7,7,7,7,7,7,7,7,7,7,8,8,8,8,8,8,8,8,8,8,8,8,8,8,8,8,8,8,8,8,8,8,8,8,8,8,8,8,8,8,8,8,8,8,8,8,8,8,8,8,8,8,8,8,8,8,8,8,8,8,8,8,8,8,8,8,8,8,8,8,8,8,8,8,8,8,8,8,8,8,8,8,8,8,8,8,8,8,8,8,8,8,8,8,8,8,8,8,8,8,8,8,8,8,8,8,8,8,8,8,8,8,8,8,8,8,8,8,8,8,8,8,8,8,8,8,8,8,8,8,8,8,8,8,8,8,8,8]⟩)) (.t 21)),jj 23 (.conv (.int .i64) (.t 22)),bn 24 .add 19 23,mv 2 24] [2]) (.ret))))),false,false,false⟩
def F300:PFun:=⟨1,[.tmp 2],.seq (rn [mx 2 (kk 0)] [0]) (.seq (.seq (rn [mv 3 0] [3]) (.cond (.t 3) (.seq (rn [mx 2 (kk 1)] [2]) (.ret)) (.skip))) (.seq (rn [mx 2 (kk 0)] [2]) (.ret))),false,false,false⟩
end Go.Pm.F
end
section
namespace Go.Pm.F
def tQ:Nat->Option PFun
 |231=>some F231
 |243=>some F243
 |244=>some F244
 |245=>some F245
 |257=>some F257
 |258=>some F258
 |259=>some F259
 |260=>some F260
 |264=>some F264
 |266=>some F266
 |272=>some F272
 |273=>some F273
 |274=>some F274
 |282=>some F282
 |283=>some F283
 |288=>some F288
 |291=>some F291
 |293=>some F293
 |294=>some F294
 |295=>some F295
 |298=>some F298
 |299=>some F299
 |300=>some F300
 |_=>none
end Go.Pm.F
end
namespace Go.Pm
section
open F
theorem qrH(c:UInt8):Z tQ (.call 264 [.dat (.lit (.int .u8 c.toNat))] [])=some (.ret (.bool (qaG c)) []):=by
 refine Z_call (pf:=F264) rfl rfl ?_
 by_cases h1:(97:Int)<=c.toNat
 ·have h1':97<=c.toNat:=by omega
  by_cases h2:(c.toNat:Int)<=122
  ·have h2':c.toNat<=122:=by omega
   simp[F264,qaG,h1,h1',h2,h2']
  ·have h2' : ¬ c.toNat<=122:=by omega
   simp[F264,qaG,h1,h1',h2,h2']
 ·have h1' : ¬ 97<=c.toNat:=by omega
  simp[F264,qaG,h1,h1']
theorem qtr(c:UInt8):Z tQ (.call 266 [.dat (.lit (.int .u8 c.toNat))] [])=some (.ret (.bool (qal c)) []):=by
 refine Z_call (pf:=F266) rfl rfl ?_
 by_cases h1:(48:Int)<=c.toNat
 ·have h1':48<=c.toNat:=by omega
  by_cases h2:(c.toNat:Int)<=57
  ·have h2':c.toNat<=57:=by omega
   simp[F266,qal,h1,h1',h2,h2']
  ·have h2' : ¬ c.toNat<=57:=by omega
   simp[F266,qal,h1,h1',h2,h2']
 ·have h1' : ¬ 48<=c.toNat:=by omega
  simp[F266,qal,h1,h1']
theorem qnB(c:UInt8):Z tQ (.call 257 [.dat (.lit (.int .u8 c.toNat))] [])=some (.ret (.bool (qaq c)) []):=by
 have z1:=qrH c
 have z2:=qtr c
 refine Z_call (pf:=F257) rfl rfl ?_
 unfold qaq
 cases h:qaG c<;>rw[h] at z1<;>simp[F257,z1,z2]
end
section
open F
def vb(w:List UInt8):List V:=w.map fun b => .dat (.lit (.int .u8 b.toNat))
theorem qj8(w:List UInt8):(vb w).length=w.length:=by simp[vb]
theorem qtN(a b:List UInt8):vb a++vb b=vb (a++b):=by simp[vb]
theorem qxu(w:List UInt8):(vb w).all V.one=true:=by
 rw[WF]
 intro x hx
 simp only[vb,Yc] at hx
 obtain⟨b,_,rfl⟩:=hx
 rfl
theorem qgc(w:List UInt8):qaR (vb w)=[]:=by
 induction w with
 |nil=>rfl
 |cons x w ih=>simpa [vb] using ih
theorem qi3(r:Nat->Nat)(w:List UInt8):qeD r (vb w)=vb w:=by
 induction w with
 |nil=>rfl
 |cons x w ih=>simpa [vb] using ih
theorem qij(s:ByteArray):(qcT s).map V.dat=vb (byl s):=by
 simp[qcT,vb,byl,List.map_map,Function.comp_def]
theorem qj9(w:List UInt8):qch (vb w)=some w:=by
 induction w with
 |nil=>rfl
 |cons x w ih=>
  have h:((x.toNat:Int)<256):=by have:=x.toNat_lt; omega
  show qch (V.dat (.lit (.int .u8 x.toNat))::vb w)=_
  simp[qch,h,ih]
theorem qxv(w:List UInt8):(∀ x∈vb w,V.one x=true)↔True:=by
 have:=qxu w
 rw[WF] at this
 exact⟨fun _=>trivial,fun _=>this⟩
theorem qka(t:ByteArray):(∀ x∈qcT t,V.one (.dat x)=true)↔True:=by
 refine⟨fun _=>trivial,fun _ x hx=>?_⟩
 simp only[qcT,Yc] at hx
 obtain⟨b,_,rfl⟩:=hx
 rfl
abbrev PW'(w:List UInt8)(c:Nat):S:=[.cellsT 4 [.ptr 0 0,.own 1 w.length 1,.dat (.lit (.int .u8 c))],.vecT 3 (vb w)]
abbrev PE:S:=[.cellsT 4 [.dat (.lit (.pointer none)),.dat (.lit (.slice none 0 0)),.dat (.lit (.int .u8 0))]]
attribute [local simp] qgc qi3
theorem qtO(w:List UInt8)(c:Nat):Z tQ (.call 272 [.ptr 0 0] (PW' w c))=some (.ret (.tup []) (PW' w c)):=by
 refine Z_call (pf:=F272) rfl rfl ?_
 simp[F272,Wa]
theorem qva:Z tQ (.call 272 [.ptr 0 0] PE)=some (.ret (.tup []) [.cellsT 4 [.ptr 0 0,.dat (.lit (.slice none 0 0)),.dat (.lit (.int .u8 0))]]):=by
 refine Z_call (pf:=F272) rfl rfl ?_
 simp[F272,Wa]
theorem qvb(w:List UInt8)(c:Nat)(b:UInt8)(h:w.length<2 ^ 40):Z tQ (.call 258 [.ptr 0 0,.dat (.lit (.int .u8 b.toNat))] (PW' w c))=some (.ret (.dat (.lit .nilIface)) (PW' (w++[b]) c)):=by
 have z:=qtO w c
 have hr:qaI (w.length+1) 1=true:=by simp[qaI]; omega
 have hv:vb w++[.dat (.lit (.int .u8 b.toNat))]=vb (w++[b]):=qtN w [b]
 have hl:=qj8 w
 refine Z_call (pf:=F258) rfl rfl ?_
 simp[F258,z,hr,hv,hl,Wa]
theorem qqJ(w:List UInt8)(c:Nat)(t:ByteArray)(h:(w++byl t).length<2 ^ 40)(ht:t.size≠0):Z tQ (.call 259 [.ptr 0 0,.str t] (PW' w c))=some (.ret (.tup [.int t.size,.dat (.lit .nilIface)]) (PW' (w++byl t) c)):=by
 have z:=qtO w c
 have hs:=qat t
 have hr:qaI (w.length+t.size) 1=true:=by rw[Wr] at h; simp[qaI]; omega
 have hv:vb w++(qcT t).map V.dat=vb (w++byl t):=by rw[qij,qtN]
 have hl:=qj8 w
 have hb:(qcT t).length=t.size:=by rw[<- List.length_map (f:=V.dat),qij,qj8,hs]
 have ho:=qka t
 have hn:(w++byl t).length=w.length+t.size:=by rw[Wr,hs]
 have w1:=qae (t.size:Int) (by rw[hn] at h; omega)
 refine Z_call (pf:=F259) rfl rfl ?_
 simp[F259,z,hr,hv,hl,hb,ho,hn,ht,hs,V.len,Wa]
theorem qvc(t:ByteArray)(h:t.size<2 ^ 40)(ht:t.size≠0):Z tQ (.call 259 [.ptr 0 0,.str t] PE)=some (.ret (.tup [.int t.size,.dat (.lit .nilIface)]) (PW' (byl t) 0)):=by
 have z:=qva
 have hs:=qat t
 have hr:qaI t.size 1=true:=by simp[qaI]; omega
 have hb:(qcT t).length=t.size:=by rw[<- List.length_map (f:=V.dat),qij,qj8,hs]
 have ho:=qka t
 have hv:(qcT t).map V.dat=vb (byl t):=by rw[qij]
 refine Z_call (pf:=F259) rfl rfl ?_
 simp[F259,z,hr,hb,ho,ht,hs,hv,qj8,qxv,V.len,Wa]
end
section
open F
def lastC(w:List UInt8):UInt8:=(w.getLast?).getD 0
def wl(w:List UInt8):Bool:=qaq (lastC w)
def pw(w:List UInt8)(ts:List ByteArray):List UInt8:=w++qao (wl w) ts
abbrev PW(w:List UInt8):S:=PW' w (lastC w).toNat
theorem qtP:wl []=false:=by decide
theorem qmt(w r:List UInt8)(h:r≠[]):lastC (w++r)=lastC r:=by
 unfold lastC
 rw[YL]
 cases hr:r.getLast? with
 |none=>exact absurd (Yg.1 hr) h
 |some c=>rfl
theorem qsM(w:List UInt8)(t:ByteArray):qbx (wl w) t=wl (w++(gap (wl w) t++byl t)):=by
 unfold qbx
 cases h:byl t with
 |nil=>
  have hs:qaj qaq t=false:=by rw[qaS,h]; rfl
  simp[gap,hs]
 |cons c r=>
  have hne:c::r≠[]:=by simp
  rw[<- List.append_assoc,show wl (w++gap (wl w) t++c::r)=qaq (lastC (c::r)) by unfold wl; rw[qmt _ _ hne]]
  unfold lastC
  cases hl:(c::r).getLast? with
  |none=>exact absurd (Yg.1 hl) hne
  |some d=>rfl
theorem qcM(w:List UInt8)(t:ByteArray)(ts:List ByteArray):pw w (t::ts)=pw (w++(gap (wl w) t++byl t)) ts:=by
 unfold pw
 rw[qao,qsM,Wg,Wg]
theorem qdW(w:List UInt8):pw w []=w:=by simp[pw,qao]
theorem qay(w:List UInt8)(a b:List ByteArray):pw w (a++b)=pw (pw w a) b:=by
 induction a generalizing w with
 |nil=>rw[Wc,qdW]
 |cons t a ih=>rw[Wf,qcM,qcM,ih]
theorem qkb(w:List UInt8)(ts:List ByteArray):w.length<=(pw w ts).length:=by simp[pw]
theorem qfb{w:List UInt8}(h:w≠[])(ts:List ByteArray):pw w ts≠[]:=by
 intro e
 have h2:=qkb w ts
 rw[e] at h2
 exact h (WH (by simpa using h2))
theorem qoj{t:ByteArray}(h:t.size≠0) : ∃ b,t[0]?=some b/\qaj qaq t=qaq b:=by
 have hd:=qhz t 0
 rw[WJ] at hd
 cases hb:byl t with
 |nil=>exact absurd (by rw[<- qat,hb]; rfl) h
 |cons b r=>
  rw[hb] at hd
  exact⟨b,hd,by rw[qaS,hb]; rfl⟩
theorem qnk{t:ByteArray}(h:t.size≠0):t[t.size-1]?=some (lastC (byl t)):=by
 rw[qhz,List.head?_drop,<- qat,lastC]
 rw[List.getLast?_eq_getElem?]
 cases hg:(byl t)[(byl t).length-1]? with
 |some c=>rfl
 |none=>
  rw[List.getElem?_eq_none_iff] at hg
  have:=qat t
  omega
attribute [local simp] qgc qi3
theorem qik {kk:Nat} (hkk:kk=1\/kk=2) (fl:Bool) (ts:List ByteArray) (hts : ∀ t∈ts,t.size≠0) (hn:ts.length<2 ^ 30) : ∀ (m i:Nat) (w:List UInt8),i+m=ts.length->(pw w (ts.drop i)).length<2 ^ 40 ->
  Z tQ (.loop kk F243l0 [(0,.ptr 0 0),(6,.dat (.sl (strC ts) ts.length fl)),(7,.int ts.length),(8,.int i)] (PW w))=some (.out (.exit 0) [(0,.ptr 0 0),(6,.dat (.sl (strC ts) ts.length fl)),(7,.int ts.length),(8,.int ts.length),(9,.bool false)] (PW (pw w (ts.drop i))))
 |0,i,w,hi,hsz=>by
  have hi':i=ts.length:=by omega
  subst hi'
  rw[List.drop_length,qdW]
  rw[qab]
  rcases hkk with rfl|rfl<;>simp[qaa,qeg,Wa]
 |m+1,i,w,hi,hsz=>by
  have hlt:i<ts.length:=by omega
  have hd:ts.drop i=ts[i]::ts.drop (i+1):=WO hlt
  have ht:=hts ts[i] (Yt hlt)
  rw[hd,qcM] at hsz ⊢
  have hc:=qfN ts i hlt
  generalize ts[i]=t at *
  obtain⟨b,hb,hs⟩:=qoj ht
  have hla:=qnk ht
  have hpos:0<t.size:=by omega
  have hw0:(w++(gap (wl w) t++byl t)).length<2 ^ 40:=Wx (qkb _ _) hsz
  have hts2:t.size<2 ^ 40:=by rw[Wr,Wr,qat] at hw0; omega
  have ih:=qik hkk fl ts hts hn m (i+1) (w++(gap (wl w) t++byl t)) (by omega) hsz
  have hlc:lastC (w++(gap (wl w) t++byl t))=lastC (byl t):=by
   rw[<- List.append_assoc,qmt]
   intro e
   rw[<- qat,e] at ht
   exact ht rfl
  rw[<- ih]
  have zl:=qnB (lastC w)
  have zb:=qnB b
  have w1:=qae ((i:Int)+1) (by omega)
  have w2:=qae ((t.size:Int)-1) (by omega)
  have w3:((t.size:Int)-1).toNat=t.size-1:=by omega
  have w4:(0:Int)<=(t.size:Int)-1:=by omega
  have hge:(1:Int)<=t.size:=by omega
  have hne : ¬ t=⟨#[]⟩:=fun e=>by rw[e] at ht; exact ht rfl
  have hlt':(i:Int)<ts.length:=by omega
  have hne2:eqS t ⟨#[]⟩=false:=by rw[qah]; simp[hne]
  conv=>lhs; rw[qab]
  simp only[PW,hlc]
  by_cases h1:qaq (lastC w)=true
  ·by_cases h2:qaq b=true
   ·have hg:gap (wl w) t=[32]:=by simp[gap,wl,h1,hs,h2]
    rw[hg] at hw0 ⊢
    have hw1:w.length<2 ^ 40:=by rw[Wr] at hw0; omega
    have z1:Z tQ (.call 258 [.ptr 0 0,.dat (.lit (.int .u8 32))] (PW' w (lastC w).toNat))=_:=qvb w (lastC w).toNat 32 hw1
    have z2:=qqJ (w++[32]) (lastC w).toNat t (by rw[Wg]; exact hw0) ht
    rw[Wg] at z2
    rw[h1] at zl
    rw[h2] at zb
    simp only[PW',Wr,Wj,Wu,WL,qat] at z1 z2
    rcases hkk with rfl|rfl<;>simp[qaa,qeg,zl,zb,z1,z2,hb,hla,hc,w1,w2,w3,w4,qat,PW',YV 1,hge,hne,hne2,hlt',hlt,qag,V.len,Wa]
   ·have hg:gap (wl w) t=[]:=by simp[gap,hs,h2]
    rw[hg] at hw0 ⊢
    rw[Wc] at hw0 ⊢
    have z2:=qqJ w (lastC w).toNat t hw0 ht
    rw[h1] at zl
    rw[Bool.not_eq_true] at h2
    rw[h2] at zb
    simp only[PW',Wr,Wj,Wu,WL,qat] at z2
    rcases hkk with rfl|rfl<;>simp[qaa,qeg,zl,zb,z2,hb,hla,hc,w1,w2,w3,w4,qat,PW',YV 1,hge,hne,hne2,hlt',hlt,qag,V.len,Wa]
  ·have hg:gap (wl w) t=[]:=by simp[gap,wl,h1]
   rw[hg] at hw0 ⊢
   rw[Wc] at hw0 ⊢
   have z2:=qqJ w (lastC w).toNat t hw0 ht
   rw[Bool.not_eq_true] at h1
   rw[h1] at zl
   simp only[PW',Wr,Wj,Wu,WL,qat] at z2
   rcases hkk with rfl|rfl<;>simp[qaa,qeg,zl,zb,z2,hb,hla,hc,w1,w2,w3,w4,qat,PW',YV 1,hge,hne,hne2,hlt',hlt,qag,V.len,Wa]
theorem qxw (fl:Bool) {ts:List ByteArray} (hts : ∀ t∈ts,t.size≠0) (hn:ts.length<2 ^ 30) {w:List UInt8} (hsz:(pw w ts).length<2 ^ 40) :
  Z tQ (.call 243 [.ptr 0 0,.dat (.sl (strC ts) ts.length fl)] (PW w))=some (.ret (.tup []) (PW (pw w ts))):=by
 have z:=qik (.inr rfl) fl ts hts hn ts.length 0 w (by omega) (by rw[WJ]; exact hsz)
 rw[WJ] at z
 simp only[PW,PW'] at z
 refine Z_call (pf:=F243) rfl rfl ?_
 simp only[Wd] at z
 simp[F243,z,V.len,Wa]
theorem qxx (fl:Bool) {ts:List ByteArray} (hts : ∀ t∈ts,t.size≠0) (hn:ts.length<2 ^ 30) {w:List UInt8} (hsz:(pw w ts).length<2 ^ 40) :
  Z tQ (.dcall 243 [.dat (.lit .nilIface),.ptr 0 0,.dat (.sl (strC ts) ts.length fl)] (PW w))=some (.ret (.dat (.lit undef)) (PW (pw w ts))):=by
 have z:=qik (.inr rfl) fl ts hts hn ts.length 0 w (by omega) (by rw[WJ]; exact hsz)
 rw[WJ] at z
 simp only[PW,PW'] at z
 refine qmU (pf:=F243) rfl ?_
 have hfl:F243.body.flat=true:=rfl
 simp only[qa7]
 rw[if_pos ⟨rfl,rfl,rfl,hfl,.inr rfl⟩]
 simp only[Wd] at z
 simp[F243,z,qjZ,V.len,Wa]
theorem qxy (fl:Bool) {t:ByteArray} {ts:List ByteArray} (ht:t.size≠0) (hts : ∀ t∈ts,t.size≠0) (hn:ts.length<2 ^ 29) (hsz:(pw [] (t::ts)).length<2 ^ 40) :
  Z tQ (.call 243 [.ptr 0 0,.dat (.sl (strC (t::ts)) (t::ts).length fl)] PE)=some (.ret (.tup []) (PW (pw [] (t::ts)))):=by
 have hg:gap (wl []) t=[]:=by rw[qtP]; rfl
 rw[qcM,hg] at hsz ⊢
 simp only[Wc] at hsz ⊢
 have hall : ∀ x∈t::ts,x.size≠0:=fun x hx=>by
  rcases Ws.1 hx with rfl|hx
  ·exact ht
  ·exact hts x hx
 have z:=qik (kk:=1) (.inl rfl) fl (t::ts) hall (by rw[Wj]; omega) ts.length 1 (byl t) (by rw[Wj]; omega) hsz
 simp only[PW,PW',Yh,WJ] at z
 have hla:=qnk ht
 have hw0:(byl t).length<2 ^ 40:=Wx (qkb _ _) hsz
 rw[qat] at hw0
 have z2:=qvc t hw0 ht
 have zl:Z tQ (.call 257 [.dat (.lit (.int .u8 0))] [])=some (.ret (.bool false) []):=qnB 0
 have w2:=qae ((t.size:Int)-1) (by omega)
 have w3:((t.size:Int)-1).toNat=t.size-1:=by omega
 have w4:(0:Int)<=(t.size:Int)-1:=by omega
 have hge:(1:Int)<=t.size:=by omega
 have hne : ¬ t=⟨#[]⟩:=fun e=>by rw[e] at ht; exact ht rfl
 have hne2:eqS t ⟨#[]⟩=false:=by rw[qah]; simp[hne]
 have w5:IntKind.i64.wrap 1=1:=rfl
 have hpos:(0:Int)<(ts.length:Int)+1:=by omega
 have hc:=qfN (t::ts) 0 (by rw[Wj]; omega)
 simp only[List.getElem_cons_zero] at hc
 simp only[PW',qat] at z2
 simp only[qat,Wd] at z
 refine Z_call (pf:=F243) rfl rfl ?_
 have z1:Z tQ (.loop 1 F243l0 [(0,.ptr 0 0),(6,.dat (.sl (strC (t::ts)) (t::ts).length fl)),(7,.int (t::ts).length),(8,.int 0)] PE)=Z tQ (.loop 1 F243l0 [(0,.ptr 0 0),(6,.dat (.sl (strC (t::ts)) (t::ts).length fl)),(7,.int (t::ts).length),(8,.int 1)] [.cellsT 4 [.ptr 0 0,.own 1 t.size 1,.dat (.lit (.int .u8 (lastC (byl t)).toNat))],.vecT 3 (vb (byl t))]):=by
  conv=>lhs; rw[qab]
  generalize strC (t::ts)=row at *
  simp[qaa,qeg,zl,z2,hla,hc,w2,w3,w4,w5,qat,hge,hne,hne2,hpos,qag,V.len,Wa]
 rw[z] at z1
 generalize strC (t::ts)=row at *
 generalize (t::ts).length=M at *
 simp[F243,z1,V.len,Wa]
end
section
def E.lev:E->Nat
 |.un _ neg _=>qdc neg
 |.bin _ o _ _=>o.prec
 |_=>8
theorem qkl : ∀ {l:List ByteArray},Ok2 l -> ∀ t∈l,Tg (byl t)
 |[],_,t,h=>by cases h
 |u::l,ho,t,h=>by
  rcases Ws.1 h with rfl|h
  ·exact ho.1
  ·exact qkl ho.2.2 t h
theorem qeN{s:ByteArray}(h:Tg (byl s)):s.size≠0:=by
 obtain⟨c,r,e,_⟩:=qgb h
 intro h0
 rw[<- qat,e] at h0
 cases h0
theorem qd7(ts:List ByteArray):pw [] ts=qao false ts:=by rw[pw,qtP,Wc]
theorem qfL : ∀ (l:List ByteArray) (p:Bool),(∀ t∈l,t.size≠0)->l.length<=(qao p l).length
 |[],p,_=>by simp
 |t::l,p,h=>by
  have:=qfL l (qbx p t) (fun x hx=>h x (Wy _ hx))
  have h1:=h t (WQ ..)
  have h2:=qat t
  simp only[qao,Wr,Wj]
  omega
theorem qeO : ∀ s:Ss,s.good none->s.fo.len<=s.tx.length
 |.nil,_=>by simp[Ss.fo]
 |.assign _ s e r,h=>by have:=qeO r h.2.2.2; simp[Ss.fo,Ss.tx]; omega
 |.store _ s a b r,h=>by have:=qeO r h.2.2.2.2; simp[Ss.fo,Ss.tx]; omega
 |.effect _ a b r,h=>by have:=qeO r h.2.2.2; simp[Ss.fo,Ss.tx]; omega
 |.stop r,h=>by have:=qeO r h.2; simp[Ss.fo,Ss.tx]; omega
 |.cond w _ c b r,h=>by have:=qeO r h.2.2.2; simp[Ss.fo,Ss.tx]; omega
 |.block _ b r,h=>by obtain⟨n,hn,_⟩:=h; cases hn
theorem qlr{b:Ss}(h:b.good (some 1)) : ∃ fb b1,b = .block fb b1 .nil/\b1.good none:=by
 cases b with
 |block fb b1 r=>
  obtain⟨n,hn,h1,h2⟩:=h
  have:n=0:=by simpa using hn.symm
  subst this
  cases r with
  |nil=>exact⟨fb,b1,rfl,h1⟩
  |block _ _ _=>obtain⟨n,hn,_⟩:=h2; simp at hn
  |_=>simp[Ss.good] at h2
 |_=>simp[Ss.good] at h
theorem qra{b:Ss}(h:b.good (some 2)) : ∃ fb b1 fc b2,b = .block fb b1 (.block fc b2 .nil)/\b1.good none/\b2.good none:=by
 cases b with
 |block fb b1 r=>
  obtain⟨n,hn,h1,h2⟩:=h
  have:n=1:=by simpa using hn.symm
  subst this
  obtain⟨fc,b2,rfl,h3⟩:=qlr h2
  exact⟨fb,b1,fc,b2,rfl,h1,h3⟩
 |_=>simp[Ss.good] at h
def Hd.opt:Hd->Option Ss
 |.none=>Option.none
 |.some _ b=>Option.some b
def Hd.opts(a b c:Hd):Nat->Option Ss
 |0=>a.opt
 |1=>b.opt
 |_=>c.opt
end
end Go.Pm
section
namespace Go.Pm.F
variable(C:Task->Option Res)(q:Nat)(fr:Fr)(σ : S)
@[simp] def F132l1x:PC:=(.seq (.seq (rn [mv 43 8,bk 44 .lss 43 3] [2,5,6,7,8,44]) (.cond (.t 44) (.skip) (.exit 2))) (.seq (.block 3 (.seq (rn [mv 47 5,cl 48 151 [47],jj 49 (.call 152 []),mv 50 8,jj 51 (.indexAddr 1 (.t 49) (.t 50)),l1 52 51,bn 53 .eql 48 52] [2,5,6,7,8,53]) (.cond (.t 53) (rn [mv 54 8,mv 7 54] [2,5,6,7,8]) (.skip)))) (rn [mv 45 8,bk 46 .add 45 1,mv 8 46] [2,5,6,7,8])))
def F132l1:PC:=F132l1x
theorem qc0:run C q F132l1 fr σ = run C q F132l1x fr σ := rfl
@[simp] def F132l0x:PC:=(.seq (.seq (.region (some []) [mv 17 5,nc 18 17,fa 19 3 18,l1 20 19,bk 21 .eql 20 0,mv 22 21,jt 23 22 (.mov (.t 5)),jt 24 22 (.nilchk (.t 23)),jt 25 22 (.fieldAddr 0 (.t 24)),jt 26 22 (.load false 1 (.t 25)),jt 27 22 (.mov (.t 5)),jt 28 22 (.nilchk (.t 27)),jt 29 22 (.fieldAddr 1 (.t 28)),jt 30 22 (.load false 1 (.t 29)),jt 31 22 (.indexAddr 3 (.t 26) (.t 30)),jt 32 22 (.fieldAddr 1 (.t 31)),jt 33 22 (.load false 1 (.t 32)),jt 34 22 (.bin .neq (.t 33) (.c (.string ⟨#[]⟩))),jj 35 (.pick (.t 22) (.t 34) kF)] [2,5,6,35]) (.cond (.t 35) (.skip) (.exit 0))) (.block 1 (.seq (rn [mv 36 5,jj 37 (.call 150 [(.t 36),(.c (.string ⟨#[111,110]⟩))])] [2,5,6]) (.seq (.seq (rn [mv 38 5,nc 39 38,fa 40 3 39,l1 41 40,bk 42 .neq 41 0] [2,5,6,42]) (.cond (.t 42) (.exit 0) (.skip))) (.seq (rn [mx 7 (kk (-1))] [2,5,6,7]) (.seq (.seq (rn [mx 8 (kk 0)] [2,5,6,7,8]) (.block 2 (.loop F132l1))) (.seq (.seq (rn [mv 55 7,bk 56 .lss 55 0] [2,5,6,7,56]) (.cond (.t 56) (.seq (rn [mv 57 5,jj 58 (.call 153 [(.t 57),(kk 12)])] [2,5,6]) (.exit 0)) (.skip))) (.seq (.seq (rn [mv 59 7,fa 60 0 6,jj 61 (.indexAddrA 3 4 (.t 60) (.t 59)),fa 62 0 61,l1 63 62,bk 64 .neq 63 0] [2,5,6,7,64]) (.cond (.t 64) (.seq (rn [mv 65 5,jj 66 (.call 153 [(.t 65),(kk 4)])] [2,5,6]) (.exit 0)) (.skip))) (.seq (rn [mv 67 5,cl 68 154 [67]] [2,5,6,7]) (rn [mv 69 7,mv 70 5,jj 71 (.call 155 [(.t 70),(kk 1)]),fa 72 0 6,jj 73 (.indexAddrA 3 4 (.t 72) (.t 69)),st 4 73 71] [2,5,6]))))))))))
def F132l0:PC:=F132l0x
theorem qb7:run C q F132l0 fr σ = run C q F132l0x fr σ := rfl
def F132:PFun:=⟨1,[.cell 2 true 12,.tmp 3,.tmp 4],.seq (rn [jj 2 (.alloc [zN,zN,eN,sN,zN,zN,eN,sN,zN,zN,eN,sN]),mx 3 (kk 0),mx 4 (kk 0)] [0,2]) (.seq (.seq (rn [mv 9 0,lz 10 9,bk 11 .gtr 10 2000] [0,2,11]) (.cond (.t 11) (.seq (rn [jj 12 (.build [zN,zN,eN,sN,zN,zN,eN,sN,zN,zN,eN,sN] []),st 12 2 12,mx 3 (kk 2000),mx 4 (kk 2)] [2,3,4]) (.ret)) (.skip))) (.seq (rn [mv 13 0,cl 14 149 [13],jj 15 (.build [sN,zN,zN,zN] [(0,1,(.t 14))]),bx 16 15,mv 5 16] [2,5]) (.seq (rn [jj 6 (.alloc [zN,zN,eN,sN,zN,zN,eN,sN,zN,zN,eN,sN])] [2,5,6]) (.seq (.block 0 (.loop F132l0)) (.seq (.seq (rn [mv 74 5,nc 75 74,fa 76 3 75,l1 77 76,bk 78 .neq 77 0] [2,5,6,78]) (.cond (.t 78) (.seq (.region (some []) [jj 79 (.build [zN,zN,eN,sN,zN,zN,eN,sN,zN,zN,eN,sN] []),mv 80 5,nc 81 80,fa 82 2 81,⟨some 83,.load false 1 (.t 82),none,[9]⟩,mv 84 5,nc 85 84,fa 86 3 85,⟨some 87,.load false 1 (.t 86),none,[9]⟩,st 12 2 79,mv 3 83,mv 4 87] [2,3,4]) (.ret)) (.skip))) (.seq (rn [la 88 12 6,st 12 2 88,mx 3 (kk 0),mx 4 (kk 0)] [2,3,4]) (.ret))))))),false,false,false⟩
@[simp] def F149l0x:PC:=(.seq (.seq (rn [mv 8 4,mv 9 0,lz 10 9,bn 11 .lss 8 10] [0,3,4,11]) (.cond (.t 11) (.skip) (.exit 0))) (.block 1 (.seq (rn [mv 12 0,mv 13 4,cl 14 171 [12,13],jj 5 (.alloc [zN,eN,zN]),st 3 5 14] [0,3,4,5]) (.seq (rn [mv 15 3,la 16 3 5,jj 17 (.bslice 1 [zN,eN,zN] [(0,3,(.t 16))]),jj 18 (.append 3 32 (.t 15) (.t 17)),mv 3 18] [0,3,4,5]) (rn [mv 19 0,mv 20 4,fa 21 1 5,l1 22 21,lz 23 22,bn 24 .add 20 23,cl 25 170 [19,24],mv 4 25] [0,3,4])))))
def F149l0:PC:=F149l0x
theorem qg8:run C q F149l0 fr σ = run C q F149l0x fr σ := rfl
def F149:PFun:=⟨1,[.tmp 2],.seq (rn [jj 2 (.mov (.c (.slice none 0 0)))] [0]) (.seq (rn [jj 3 (.mov (.c (.slice none 0 0)))] [0,3]) (.seq (rn [mv 6 0,jj 7 (.call 170 [(.t 6),(kk 0)]),mv 4 7] [0,3,4]) (.seq (.block 0 (.loop F149l0)) (.seq (rn [mv 26 3,mv 27 0,lz 28 27,jj 29 (.build [zN,eN,zN] [(0,1,(.t 28))]),jj 30 (.bslice 1 [zN,eN,zN] [(0,3,(.t 29))]),jj 31 (.append 3 32 (.t 26) (.t 30)),mv 2 31] [2]) (.ret))))),false,false,false⟩
def F150:PFun:=⟨2,[],.seq (.seq (rn [mv 4 0,nc 5 4,fa 6 3 5,l1 7 6,bk 8 .eql 7 0,mv 9 8,jt 10 9 (.mov (.t 0)),jt 11 9 (.call 151 [(.t 10)]),jt 12 9 (.mov (.t 1)),jt 13 9 (.bin .neq (.t 11) (.t 12)),jj 14 (.pick (.t 9) (.t 13) kF)] [0,14]) (.cond (.t 14) (rn [mv 15 0,jj 16 (.call 153 [(.t 15),(kk 12)])] [0]) (.skip))) (.seq (rn [mv 17 0,nc 18 17,fa 19 3 18,l1 20 19,bk 21 .eql 20 0] [0,21]) (.cond (.t 21) (rn [mv 22 0,cl 23 154 [22]] []) (.skip))),false,false,false⟩
def F151:PFun:=⟨1,[.tmp 2],.seq (rn [jj 2 (.mov (.c (.string ⟨#[]⟩)))] [0]) (.seq (.region (some [(22,[zN,eN,zN])]) [mv 4 0,nc 5 4,fa 6 0 5,l1 7 6,mv 8 0,nc 9 8,fa 10 1 9,l1 11 10,jj 12 (.indexAddr 3 (.t 7) (.t 11)),la 13 3 12,jj 3 (.fill 22),st 3 3 13] [3]) (.seq (.seq (rn [fa 14 2 3,l1 15 14,bk 16 .neq 15 0] [3,16]) (.cond (.t 16) (.seq (rn [jj 2 (.mov (.c (.string ⟨#[63]⟩)))] [2]) (.ret)) (.skip))) (.seq (rn [fa 17 1 3,l1 18 17,mv 2 18] [2]) (.ret)))),false,false,false⟩
def F152:PFun:=⟨0,[.tmp 0],.seq (rn [jj 0 (.mov (.c (.slice none 0 0)))] []) (.seq (rn [jj 1 (.bslice 3 [eN,eN,eN] [(0,1,(.c (.string ⟨#[97,99,116]⟩))),(1,1,(.c (.string ⟨#[116,105,99,107]⟩))),(2,1,(.c (.string ⟨#[104,105,116]⟩)))]),mv 0 1] [0]) (.ret)),false,false,false⟩
def F153:PFun:=⟨2,[],.seq (.seq (rn [mv 4 0,nc 5 4,fa 6 3 5,l1 7 6,bk 8 .neq 7 0] [0,1,8]) (.cond (.t 8) (.ret) (.skip))) (.seq (.region (some []) [mv 9 0,mv 10 0,nc 11 10,fa 12 0 11,l1 13 12,mv 14 0,nc 15 14,fa 16 1 15,l1 17 16,jj 18 (.indexAddr 3 (.t 13) (.t 17)),fa 19 0 18,l1 20 19,nc 21 9,fa 22 2 21,st 1 22 20] [0,1]) (.seq (rn [mv 23 0,mv 24 1,nc 25 23,fa 26 3 25,st 1 26 24] [0]) (.seq (.region (some []) [mv 27 0,nc 28 27,fa 29 0 28,l1 30 29,mv 31 0,nc 32 31,fa 33 1 32,l1 34 33,jj 35 (.indexAddr 3 (.t 30) (.t 34)),fa 36 2 35,l1 37 36,bk 38 .neq 37 0] [0,38]) (.cond (.t 38) (.region (some []) [mv 39 0,mv 40 0,nc 41 40,fa 42 0 41,l1 43 42,mv 44 0,nc 45 44,fa 46 1 45,l1 47 46,jj 48 (.indexAddr 3 (.t 43) (.t 47)),fa 49 2 48,l1 50 49,nc 51 39,fa 52 3 51,st 1 52 50] []) (.skip))))),false,false,false⟩
def F154:PFun:=⟨1,[],.seq (.region (some []) [mv 2 0,nc 3 2,fa 4 1 3,l1 5 4,bk 6 .add 5 1,mv 7 0,nc 8 7,fa 9 0 8,l1 10 9,ls 11 10,bn 12 .lss 6 11] [0,12]) (.cond (.t 12) (rn [mv 13 0,nc 14 13,fa 15 1 14,l1 16 15,bk 17 .add 16 1,nc 18 13,fa 19 1 18,st 1 19 17] []) (.skip)),false,false,false⟩
@[simp] def F155l0x:PC:=(.seq (.seq (rn [mv 10 0,nc 11 10,fa 12 3 11,l1 13 12,bk 14 .eql 13 0,mv 15 14,jt 16 15 (.mov (.t 0)),jt 17 15 (.call 151 [(.t 16)]),jt 18 15 (.bin .neq (.t 17) (.c (.string ⟨#[125]⟩))),jj 19 (.pick (.t 15) (.t 18) kF)] [0,1,4,5,19]) (.cond (.t 19) (.skip) (.exit 0))) (.block 1 (.region (some []) [fa 20 3 5,⟨some 21,.load false 1 (.t 20),none,[4]⟩,mv 22 0,mv 23 1,cl 24 173 [22,23],jj 25 (.bslice 1 [zN,zN,eN,sN] [(0,4,(.t 24))]),jj 26 (.append 4 56 (.t 21) (.t 25)),fa 27 3 5,st 1 27 26] [0,1,4,5] [4])))
def F155l0:PC:=F155l0x
theorem qej:run C q F155l0 fr σ = run C q F155l0x fr σ := rfl
def F155:PFun:=⟨2,[.cell 4 true 4],.seq (rn [jj 4 (.alloc [zN,zN,eN,sN])] [0,1,4]) (.seq (rn [jj 6 (.build [zN,zN,eN,sN] [(0,1,(kk 7))]),jj 5 (.alloc [zN,zN,eN,sN]),st 4 5 6] [0,1,4,5]) (.seq (rn [mv 7 0,mv 8 1,jj 9 (.call 172 [(.t 7),(.c (.string ⟨#[123]⟩)),(.t 8)])] [0,1,4,5]) (.seq (.block 0 (.loop F155l0)) (.seq (rn [mv 28 0,jj 29 (.call 150 [(.t 28),(.c (.string ⟨#[125]⟩))])] [4,5]) (.seq (rn [la 30 4 5,st 4 4 30] [4]) (.ret)))))),false,false,false⟩
@[simp] def F170l1x:PC:=(.seq (.seq (rn [mv 13 1,mv 14 0,lz 15 14,bn 16 .lss 13 15,mv 17 16,jt 18 17 (.mov (.t 0)),jt 19 17 (.mov (.t 1)),jt 20 17 (.indexS (.t 18) (.t 19)),jt 21 17 (.bin .neq (.t 20) (.c (.int .u8 10))),jj 22 (.pick (.t 17) (.t 21) kF)] [0,1,22]) (.cond (.t 22) (.skip) (.exit 2))) (.block 3 (rn [mv 23 1,bk 24 .add 23 1,mv 1 24] [0,1])))
def F170l1:PC:=F170l1x
theorem qg9:run C q F170l1 fr σ = run C q F170l1x fr σ := rfl
@[simp] def F170l0x:PC:=(.seq (.seq (rn [mv 5 1,mv 6 0,lz 7 6,bn 8 .lss 5 7] [0,1,8]) (.cond (.t 8) (.skip) (.exit 0))) (.block 1 (.seq (.seq (rn [mv 9 0,mv 10 1,jj 11 (.indexS (.t 9) (.t 10)),jj 12 (.bin .eql (.t 11) (.c (.int .u8 35)))] [0,1,12]) (.cond (.t 12) (.seq (.block 2 (.loop F170l1)) (.exit 1)) (.skip))) (.seq (.seq (rn [mv 25 0,mv 26 1,jj 27 (.indexS (.t 25) (.t 26)),jj 28 (.bin .neq (.t 27) (.c (.int .u8 32))),mv 29 28,jt 30 29 (.mov (.t 0)),jt 31 29 (.mov (.t 1)),jt 32 29 (.indexS (.t 30) (.t 31)),jt 33 29 (.bin .neq (.t 32) (.c (.int .u8 9))),jj 34 (.pick (.t 29) (.t 33) kF),mv 35 34,jt 36 35 (.mov (.t 0)),jt 37 35 (.mov (.t 1)),jt 38 35 (.indexS (.t 36) (.t 37)),jt 39 35 (.bin .neq (.t 38) (.c (.int .u8 10))),jj 40 (.pick (.t 35) (.t 39) kF)] [0,1,40]) (.cond (.t 40) (.exit 0) (.skip))) (rn [mv 41 1,bk 42 .add 41 1,mv 1 42] [0,1])))))
def F170l0:PC:=F170l0x
theorem qfw:run C q F170l0 fr σ = run C q F170l0x fr σ := rfl
def F170:PFun:=⟨2,[.tmp 4],.seq (rn [mx 4 (kk 0)] [0,1]) (.seq (.block 0 (.loop F170l0)) (.seq (rn [mv 43 1,mv 4 43] [4]) (.ret))),false,false,false⟩
@[simp] def F171l0x:PC:=(.seq (.seq (rn [mv 20 5,mv 21 0,lz 22 21,bn 23 .lss 20 22,mv 24 23,jt 25 24 (.mov (.t 0)),jt 26 24 (.mov (.t 5)),jt 27 24 (.indexS (.t 25) (.t 26)),jt 28 24 (.call 192 [(.t 27)]),jt 29 24 (.mov (.t 28)),jf 30 29 (.mov (.t 0)),jf 31 29 (.mov (.t 5)),jf 32 29 (.indexS (.t 30) (.t 31)),jf 33 29 (.call 193 [(.t 32)]),jt 34 24 (.pick (.t 29) kT (.t 33)),jj 35 (.pick (.t 24) (.t 34) kF)] [0,1,4,5,35]) (.cond (.t 35) (.skip) (.exit 0))) (.block 1 (rn [mv 36 5,bk 37 .add 36 1,mv 5 37] [0,1,4,5])))
def F171l0:PC:=F171l0x
theorem qfx:run C q F171l0 fr σ = run C q F171l0x fr σ := rfl
@[simp] def F171l1x:PC:=(.seq (.seq (rn [mv 60 5,mv 61 0,lz 62 61,bn 63 .lss 60 62,mv 64 63,jt 65 64 (.mov (.t 0)),jt 66 64 (.mov (.t 5)),jt 67 64 (.indexS (.t 65) (.t 66)),jt 68 64 (.call 193 [(.t 67)]),jj 69 (.pick (.t 64) (.t 68) kF)] [0,1,4,5,69]) (.cond (.t 69) (.skip) (.exit 2))) (.block 3 (rn [mv 70 5,bk 71 .add 70 1,mv 5 71] [0,1,4,5])))
def F171l1:PC:=F171l1x
theorem qha:run C q F171l1 fr σ = run C q F171l1x fr σ := rfl
def F171:PFun:=⟨2,[.cell 4 true 3],.seq (rn [jj 4 (.alloc [zN,eN,zN])] [0,1,4]) (.seq (.seq (rn [mv 8 1,mv 9 0,lz 10 9,bn 11 .geq 8 10] [0,1,4,11]) (.cond (.t 11) (.seq (rn [mv 12 1,jj 13 (.build [zN,eN,zN] [(0,1,(.t 12))]),st 3 4 13] [4]) (.ret)) (.skip))) (.seq (rn [mv 14 1,bk 15 .add 14 1,mv 5 15] [0,1,4,5]) (.seq (.seq (rn [mv 16 0,mv 17 1,jj 18 (.indexS (.t 16) (.t 17)),cl 19 192 [18]] [0,1,4,5,19]) (.cond (.t 19) (.seq (.block 0 (.loop F171l0)) (.seq (rn [mv 38 1,mv 39 0,mv 40 1,mv 41 5,jj 42 (.sliceS (.t 39) (some (.t 40)) (some (.t 41))),jj 43 (.build [zN,eN,zN] [(0,1,(.t 38)),(1,1,(.t 42))]),jj 6 (.alloc [zN,eN,zN]),st 3 6 43] [1,4,5,6]) (.seq (.seq (rn [mv 44 5,mv 45 1,bn 46 .sub 44 45,bk 47 .gtr 46 8,mv 48 47,jt 49 48 (.fieldAddr 1 (.t 6)),jt 50 48 (.load false 1 (.t 49)),jt 51 48 (.call 194 [(.t 50)]),jt 52 48 (.un .not (.t 51)),jj 53 (.pick (.t 48) (.t 52) kF)] [4,6,53]) (.cond (.t 53) (rn [fa 54 2 6,jn (.store 1 (.t 54) (kk 2))] [4,6]) (.skip))) (.seq (rn [la 55 3 6,st 3 4 55] [4]) (.ret))))) (.skip))) (.seq (.seq (rn [mv 56 0,mv 57 1,jj 58 (.indexS (.t 56) (.t 57)),cl 59 193 [58]] [0,1,4,5,59]) (.cond (.t 59) (.seq (.block 2 (.loop F171l1)) (.seq (rn [mv 72 1,mv 73 0,mv 74 1,mv 75 5,jj 76 (.sliceS (.t 73) (some (.t 74)) (some (.t 75))),jj 77 (.build [zN,eN,zN] [(0,1,(.t 72)),(1,1,(.t 76))]),jj 7 (.alloc [zN,eN,zN]),st 3 7 77] [4,7]) (.seq (.seq (rn [fa 78 1 7,l1 79 78,cl 80 195 [79],bk 81 .lss 80 0] [4,7,81]) (.cond (.t 81) (rn [fa 82 2 7,jn (.store 1 (.t 82) (kk 6))] [4,7]) (.skip))) (.seq (rn [la 83 3 7,st 3 4 83] [4]) (.ret))))) (.skip))) (.seq (.seq (rn [mv 84 1,bk 85 .add 84 2,mv 86 0,lz 87 86,bn 88 .leq 85 87,mv 89 88,jt 90 89 (.bslice 6 [eN,eN,eN,eN,eN,eN] [(0,1,(.c (.string ⟨#[124,124]⟩))),(1,1,(.c (.string ⟨#[38,38]⟩))),(2,1,(.c (.string ⟨#[60,61]⟩))),(3,1,(.c (.string ⟨#[62,61]⟩))),(4,1,(.c (.string ⟨#[61,61]⟩))),(5,1,(.c (.string ⟨#[33,61]⟩)))]),jt 91 89 (.mov (.t 0)),jt 92 89 (.mov (.t 1)),jt 93 89 (.mov (.t 1)),jt 94 89 (.bin .add (.t 93) (kk 2)),jt 95 89 (.mov (.t 0)),jt 96 89 (.len .str (.t 95)),jt 97 89 (.min [(.t 94),(.t 96)]),jt 98 89 (.sliceS (.t 91) (some (.t 92)) (some (.t 97))),jt 99 89 (.call 196 [(.t 90),(.t 98)]),jj 100 (.pick (.t 89) (.t 99) kF)] [0,1,4,5,100]) (.cond (.t 100) (.seq (rn [mv 101 1,mv 102 0,mv 103 1,mv 104 1,bk 105 .add 104 2,jj 106 (.sliceS (.t 102) (some (.t 103)) (some (.t 105))),jj 107 (.build [zN,eN,zN] [(0,1,(.t 101)),(1,1,(.t 106))]),st 3 4 107] [4]) (.ret)) (.skip))) (.seq (.seq (rn [jj 108 (.bslice 16 [eN,eN,eN,eN,eN,eN,eN,eN,eN,eN,eN,eN,eN,eN,eN,eN] [(0,1,(.c (.string ⟨#[123]⟩))),(1,1,(.c (.string ⟨#[125]⟩))),(2,1,(.c (.string ⟨#[91]⟩))),(3,1,(.c (.string ⟨#[93]⟩))),(4,1,(.c (.string ⟨#[40]⟩))),(5,1,(.c (.string ⟨#[41]⟩))),(6,1,(.c (.string ⟨#[61]⟩))),(7,1,(.c (.string ⟨#[59]⟩))),(8,1,(.c (.string ⟨#[44]⟩))),(9,1,(.c (.string ⟨#[60]⟩))),(10,1,(.c (.string ⟨#[62]⟩))),(11,1,(.c (.string ⟨#[43]⟩))),(12,1,(.c (.string ⟨#[45]⟩))),(13,1,(.c (.string ⟨#[42]⟩))),(14,1,(.c (.string ⟨#[47]⟩))),(15,1,(.c (.string ⟨#[33]⟩)))]),mv 109 0,mv 110 1,mv 111 5,jj 112 (.sliceS (.t 109) (some (.t 110)) (some (.t 111))),cl 113 196 [108,112]] [0,1,4,5,113]) (.cond (.t 113) (.seq (rn [mv 114 1,mv 115 0,mv 116 1,mv 117 5,jj 118 (.sliceS (.t 115) (some (.t 116)) (some (.t 117))),jj 119 (.build [zN,eN,zN] [(0,1,(.t 114)),(1,1,(.t 118))]),st 3 4 119] [4]) (.ret)) (.skip))) (.seq (rn [mv 120 1,mv 121 0,mv 122 1,mv 123 5,jj 124 (.sliceS (.t 121) (some (.t 122)) (some (.t 123))),jj 125 (.build [zN,eN,zN] [(0,1,(.t 120)),(1,1,(.t 124)),(2,1,(kk 12))]),st 3 4 125] [4]) (.ret)))))))),false,false,false⟩
def F172:PFun:=⟨3,[],.seq (.seq (rn [mv 6 0,nc 7 6,fa 8 3 7,l1 9 8,bk 10 .eql 9 0,mv 11 10,jt 12 11 (.mov (.t 0)),jt 13 11 (.call 151 [(.t 12)]),jt 14 11 (.mov (.t 1)),jt 15 11 (.bin .eql (.t 13) (.t 14)),jj 16 (.pick (.t 11) (.t 15) kF),mv 17 16,jt 18 17 (.mov (.t 2)),jt 19 17 (.bin .gtr (.t 18) (kk 20)),jj 20 (.pick (.t 17) (.t 19) kF)] [0,1,20]) (.cond (.t 20) (rn [mv 21 0,jj 22 (.call 153 [(.t 21),(kk 2)])] [0,1]) (.skip))) (rn [mv 23 0,mv 24 1,cl 25 150 [23,24]] []),false,false,false⟩
def F173:PFun:=⟨2,[.cell 4 true 4],.seq (rn [jj 4 (.alloc [zN,zN,eN,sN])] [0,1,4]) (.seq (rn [mv 12 0,cl 13 151 [12],mv 5 13] [0,1,4,5]) (.seq (.seq (rn [mv 14 5,jj 15 (.bin .eql (.t 14) (.c (.string ⟨#[105,102]⟩))),mv 16 15,jf 17 16 (.mov (.t 5)),jf 18 16 (.bin .eql (.t 17) (.c (.string ⟨#[119,104,105,108,101]⟩))),jj 19 (.pick (.t 16) kT (.t 18))] [0,1,4,5,19]) (.cond (.t 19) (.seq (rn [mv 20 0,cl 21 154 [20]] [0,1,4,5]) (.seq (rn [mv 22 0,mv 23 1,jj 24 (.call 197 [(.t 22),(.t 23),(kk 1)]),jj 6 (.alloc [zN,zN,eN,sN]),st 4 6 24] [0,1,4,5,6]) (.seq (.region (some []) [⟨some 25,.load true 4 (.t 6),none,[4]⟩,mv 26 0,mv 27 1,bk 28 .add 27 1,cl 29 155 [26,28],jj 30 (.bslice 2 [zN,zN,eN,sN,zN,zN,eN,sN] [(0,4,(.t 25)),(4,4,(.t 29))]),mv 7 30] [0,1,4,5,7] [4]) (.seq (.seq (rn [mv 31 5,jj 32 (.bin .eql (.t 31) (.c (.string ⟨#[119,104,105,108,101]⟩)))] [0,1,4,7,32]) (.cond (.t 32) (.seq (rn [mv 33 7,jj 34 (.build [zN,zN,eN,sN] [(0,1,(kk 4)),(3,1,(.t 33))]),st 4 4 34] [4]) (.ret)) (.skip))) (.seq (rn [jj 35 (.build [zN,zN,eN,sN] [(0,1,(kk 7))]),jj 8 (.alloc [zN,zN,eN,sN]),st 4 8 35] [0,1,4,7,8]) (.seq (.seq (rn [mv 36 0,nc 37 36,fa 38 3 37,l1 39 38,bk 40 .eql 39 0,mv 41 40,jt 42 41 (.mov (.t 0)),jt 43 41 (.call 151 [(.t 42)]),jt 44 41 (.bin .eql (.t 43) (.c (.string ⟨#[101,108,115,101]⟩))),jj 45 (.pick (.t 41) (.t 44) kF)] [0,1,4,7,8,45]) (.cond (.t 45) (.seq (rn [mv 46 0,cl 47 154 [46]] [0,1,4,7,8]) (rn [mv 48 0,mv 49 1,bk 50 .add 49 1,cl 51 155 [48,50],st 4 8 51] [4,7,8])) (.skip))) (.seq (rn [mv 52 7,la 53 4 8,jj 54 (.bslice 1 [zN,zN,eN,sN] [(0,4,(.t 53))]),jj 55 (.append 4 56 (.t 52) (.t 54)),jj 56 (.build [zN,zN,eN,sN] [(0,1,(kk 3)),(3,1,(.t 55))]),st 4 4 56] [4]) (.ret)))))))) (.skip))) (.seq (rn [jj 57 (.build [zN,zN,eN,sN] []),jj 9 (.alloc [zN,zN,eN,sN]),st 4 9 57] [0,1,4,5,9]) (.seq (.seq (rn [mv 58 5,jj 59 (.bin .eql (.t 58) (.c (.string ⟨#[115,116,111,112]⟩)))] [0,1,4,5,9,59]) (.cond (.t 59) (.seq (rn [mv 60 0,cl 61 154 [60]] [0,4,9]) (rn [fa 62 0 9,jn (.store 1 (.t 62) (kk 6))] [0,4,9])) (.seq (rn [mv 63 5,jj 64 (.bin .eql (.t 63) (.c (.string ⟨#[101,102,102,101,99,116]⟩)))] [0,1,4,5,9,64]) (.cond (.t 64) (.seq (rn [mv 65 0,cl 66 154 [65]] [0,1,4,9]) (.seq (rn [mv 67 0,mv 68 1,jj 69 (.call 197 [(.t 67),(.t 68),(kk 1)]),jj 10 (.alloc [zN,zN,eN,sN]),st 4 10 69] [0,1,4,9,10]) (.seq (rn [mv 70 0,jj 71 (.call 150 [(.t 70),(.c (.string ⟨#[44]⟩))])] [0,1,4,9,10]) (.region (some []) [⟨some 72,.load true 4 (.t 10),none,[3]⟩,mv 73 0,mv 74 1,jj 75 (.call 197 [(.t 73),(.t 74),(kk 1)]),jj 76 (.bslice 2 [zN,zN,eN,sN,zN,zN,eN,sN] [(0,4,(.t 72)),(4,4,(.t 75))]),jj 77 (.build [zN,zN,eN,sN] [(0,1,(kk 5)),(3,1,(.t 76))]),st 4 9 77] [0,4,9] [3])))) (.seq (rn [mv 78 5,cl 79 198 [78]] [0,1,4,5,9,79]) (.cond (.t 79) (.seq (rn [mv 80 0,cl 81 154 [80]] [0,1,4,5,9]) (.seq (rn [mv 82 0,mv 83 1,cl 84 199 [82,83],jj 11 (.alloc [zN,zN,eN,sN]),st 4 11 84] [0,1,4,5,9,11]) (.seq (rn [mv 85 0,jj 86 (.call 150 [(.t 85),(.c (.string ⟨#[61]⟩))])] [0,1,4,5,9,11]) (.region (some []) [mv 87 5,⟨some 88,.load true 4 (.t 11),none,[4]⟩,mv 89 0,mv 90 1,jj 91 (.call 197 [(.t 89),(.t 90),(kk 1)]),jj 92 (.bslice 2 [zN,zN,eN,sN,zN,zN,eN,sN] [(0,4,(.t 88)),(4,4,(.t 91))]),jj 93 (.build [zN,zN,eN,sN] [(0,1,(kk 2)),(2,1,(.t 87)),(3,1,(.t 92))]),st 4 9 93] [0,4,9] [4])))) (.seq (rn [mv 94 5,jj 95 (.bin .neq (.t 94) (.c (.string ⟨#[]⟩))),mv 96 95,jt 97 96 (.mov (.t 5)),jt 98 96 (.bin .neq (.t 97) (.c (.string ⟨#[63]⟩))),jj 99 (.pick (.t 96) (.t 98) kF),mv 100 99,jt 101 100 (.mov (.t 5)),jt 102 100 (.indexS (.t 101) (kk 0)),jt 103 100 (.call 192 [(.t 102)]),jj 104 (.pick (.t 100) (.t 103) kF),mv 105 104,jt 106 105 (.mov (.t 5)),jt 107 105 (.call 194 [(.t 106)]),jt 108 105 (.un .not (.t 107)),jj 109 (.pick (.t 105) (.t 108) kF)] [0,1,4,5,9,109]) (.cond (.t 109) (.seq (rn [mv 110 0,cl 111 154 [110]] [0,1,4,5,9]) (.seq (rn [mv 112 0,jj 113 (.call 150 [(.t 112),(.c (.string ⟨#[61]⟩))])] [0,1,4,5,9]) (rn [mv 114 5,mv 115 0,mv 116 1,jj 117 (.call 197 [(.t 115),(.t 116),(kk 1)]),jj 118 (.bslice 1 [zN,zN,eN,sN] [(0,4,(.t 117))]),jj 119 (.build [zN,zN,eN,sN] [(0,1,(kk 1)),(2,1,(.t 114)),(3,1,(.t 118))]),st 4 9 119] [0,4,9]))) (.seq (rn [mv 120 0,jj 121 (.call 153 [(.t 120),(kk 12)])] [4,9]) (.seq (rn [la 122 4 9,st 4 4 122] [4]) (.ret))))))))))) (.seq (rn [mv 123 0,jj 124 (.call 150 [(.t 123),(.c (.string ⟨#[59]⟩))])] [4,9]) (.seq (rn [la 125 4 9,st 4 4 125] [4]) (.ret))))))),false,false,false⟩
def F192:PFun:=⟨1,[.tmp 2],.seq (rn [mx 2 kF] [0]) (.seq (rn [mv 3 0,jj 4 (.bin .geq (.t 3) (.c (.int .u8 97))),mv 5 4,jt 6 5 (.mov (.t 0)),jt 7 5 (.bin .leq (.t 6) (.c (.int .u8 122))),jj 8 (.pick (.t 5) (.t 7) kF),mv 2 8] [2]) (.ret)),false,false,false⟩
def F193:PFun:=⟨1,[.tmp 2],.seq (rn [mx 2 kF] [0]) (.seq (rn [mv 3 0,jj 4 (.bin .geq (.t 3) (.c (.int .u8 48))),mv 5 4,jt 6 5 (.mov (.t 0)),jt 7 5 (.bin .leq (.t 6) (.c (.int .u8 57))),jj 8 (.pick (.t 5) (.t 7) kF),mv 2 8] [2]) (.ret)),false,false,false⟩
def F194:PFun:=⟨1,[.tmp 2],.seq (rn [mx 2 kF] [0]) (.seq (rn [mv 3 0,cl 4 198 [3],mv 5 4,jf 6 5 (.bslice 13 [eN,eN,eN,eN,eN,eN,eN,eN,eN,eN,eN,eN,eN] [(0,1,(.c (.string ⟨#[111,110]⟩))),(1,1,(.c (.string ⟨#[97,99,116]⟩))),(2,1,(.c (.string ⟨#[116,105,99,107]⟩))),(3,1,(.c (.string ⟨#[104,105,116]⟩))),(4,1,(.c (.string ⟨#[105,102]⟩))),(5,1,(.c (.string ⟨#[101,108,115,101]⟩))),(6,1,(.c (.string ⟨#[119,104,105,108,101]⟩))),(7,1,(.c (.string ⟨#[101,102,102,101,99,116]⟩))),(8,1,(.c (.string ⟨#[115,116,111,112]⟩))),(9,1,(.c (.string ⟨#[116,114,117,101]⟩))),(10,1,(.c (.string ⟨#[102,97,108,115,101]⟩))),(11,1,(.c (.string ⟨#[115,101,108,102]⟩))),(12,1,(.c (.string ⟨#[111,116,104,101,114]⟩)))]),jf 7 5 (.mov (.t 0)),jf 8 5 (.call 196 [(.t 6),(.t 7)]),jj 9 (.pick (.t 5) kT (.t 8)),mv 2 9] [2]) (.ret)),false,false,false⟩
@[simp] def F195l0x:PC:=(.seq (.seq (rn [mv 5 4,mv 6 0,lz 7 6,bn 8 .lss 5 7] [0,3,4,8]) (.cond (.t 8) (.skip) (.exit 0))) (.seq (.block 1 (.seq (rn [mv 11 3,jj 12 (.bin .mul (kk 10) (.t 11)),mv 13 0,mv 14 4,jj 15 (.indexS (.t 13) (.t 14)),jj 16 (.conv (.int .i64) (.t 15)),bn 17 .add 12 16,bk 18 .sub 17 48,mv 3 18] [0,3,4]) (.seq (rn [mv 19 3,bk 20 .gtr 19 2147483647] [0,3,4,20]) (.cond (.t 20) (.seq (rn [mx 2 (kk (-1))] [2]) (.ret)) (.skip))))) (rn [mv 9 4,bk 10 .add 9 1,mv 4 10] [0,3,4])))
def F195l0:PC:=F195l0x
theorem qhb:run C q F195l0 fr σ = run C q F195l0x fr σ := rfl
def F195:PFun:=⟨1,[.tmp 2],.seq (rn [mx 2 (kk 0)] [0]) (.seq (rn [mx 3 (kk 0)] [0,3]) (.seq (.seq (rn [mx 4 (kk 0)] [0,3,4]) (.block 0 (.loop F195l0))) (.seq (rn [mv 21 3,mv 2 21] [2]) (.ret)))),false,false,false⟩
@[simp] def F196l0x:PC:=(.seq (.seq (rn [mv 6 5,mv 7 0,ls 8 7,bn 9 .lss 6 8] [0,1,5,9]) (.cond (.t 9) (.skip) (.exit 0))) (.seq (.block 1 (.seq (rn [mv 12 0,mv 13 5,jj 14 (.indexAddr 1 (.t 12) (.t 13)),l1 15 14,mv 16 1,bn 17 .eql 15 16] [0,1,5,17]) (.cond (.t 17) (.seq (rn [mx 4 kT] [4]) (.ret)) (.skip)))) (rn [mv 10 5,bk 11 .add 10 1,mv 5 11] [0,1,5])))
def F196l0:PC:=F196l0x
theorem qhc:run C q F196l0 fr σ = run C q F196l0x fr σ := rfl
def F196:PFun:=⟨2,[.tmp 4],.seq (rn [mx 4 kF] [0,1]) (.seq (.seq (rn [mx 5 (kk 0)] [0,1,5]) (.block 0 (.loop F196l0))) (.seq (rn [mx 4 kF] [4]) (.ret))),false,false,false⟩
def F197:PFun:=⟨3,[.cell 6 true 4],.seq (rn [jj 6 (.alloc [zN,zN,eN,sN])] [0,1,2,6]) (.seq (.seq (rn [mv 11 0,nc 12 11,fa 13 3 12,l1 14 13,bk 15 .neq 14 0] [0,1,2,6,15]) (.cond (.t 15) (.seq (rn [jj 16 (.build [zN,zN,eN,sN] []),st 4 6 16] [6]) (.ret)) (.skip))) (.seq (rn [mv 17 0,cl 18 151 [17],mv 7 18] [0,1,2,6,7]) (.seq (.seq (rn [mv 19 2,bk 20 .eql 19 3,mv 21 20,jt 22 21 (.mov (.t 7)),jt 23 21 (.bin .eql (.t 22) (.c (.string ⟨#[33]⟩))),jj 24 (.pick (.t 21) (.t 23) kF)] [0,1,2,6,7,24]) (.cond (.t 24) (.seq (rn [mv 25 0,mv 26 7,mv 27 1,jj 28 (.call 202 [(.t 25),(.t 26),(.t 27),(kk 3)]),st 4 6 28] [6]) (.ret)) (.skip))) (.seq (.seq (rn [mv 29 2,bk 30 .eql 29 3] [0,1,2,6,7,30]) (.cond (.t 30) (.seq (rn [mv 31 0,mv 32 1,jj 33 (.call 203 [(.t 31),(.t 32),(kk 4)]),st 4 6 33] [6]) (.ret)) (.skip))) (.seq (.seq (rn [mv 34 2,bk 35 .eql 34 7,mv 36 35,jt 37 36 (.mov (.t 7)),jt 38 36 (.bin .eql (.t 37) (.c (.string ⟨#[45]⟩))),jj 39 (.pick (.t 36) (.t 38) kF)] [0,1,2,6,7,39]) (.cond (.t 39) (.seq (rn [mv 40 0,mv 41 7,mv 42 1,jj 43 (.call 202 [(.t 40),(.t 41),(.t 42),(kk 7)]),st 4 6 43] [6]) (.ret)) (.skip))) (.seq (.seq (rn [mv 44 2,bk 45 .eql 44 7] [0,1,2,6,7,45]) (.cond (.t 45) (.seq (rn [mv 46 0,mv 47 1,jj 48 (.call 197 [(.t 46),(.t 47),(kk 8)]),st 4 6 48] [6]) (.ret)) (.skip))) (.seq (.seq (rn [mv 49 2,bk 50 .lss 49 7] [0,1,2,6,7,50]) (.cond (.t 50) (.seq (rn [mv 51 0,mv 52 1,mv 53 2,cl 54 203 [51,52,53],st 4 6 54] [6]) (.ret)) (.skip))) (.seq (.seq (rn [mv 55 7,jj 56 (.bin .eql (.t 55) (.c (.string ⟨#[40]⟩)))] [0,1,6,7,56]) (.cond (.t 56) (.seq (rn [mv 57 0,mv 58 1,bk 59 .add 58 1,jj 60 (.call 172 [(.t 57),(.c (.string ⟨#[40]⟩)),(.t 59)])] [0,1,6]) (.seq (rn [mv 61 0,mv 62 1,bk 63 .add 62 1,jj 64 (.call 197 [(.t 61),(.t 63),(kk 1)]),jj 8 (.alloc [zN,zN,eN,sN]),st 4 8 64] [0,6,8]) (.seq (rn [mv 65 0,jj 66 (.call 150 [(.t 65),(.c (.string ⟨#[41]⟩))])] [6,8]) (.seq (rn [la 67 4 8,st 4 6 67] [6]) (.ret))))) (.skip))) (.seq (.seq (rn [mv 68 7,jj 69 (.bin .eql (.t 68) (.c (.string ⟨#[]⟩))),mv 70 69,jf 71 70 (.mov (.t 7)),jf 72 70 (.bin .eql (.t 71) (.c (.string ⟨#[63]⟩))),jj 73 (.pick (.t 70) kT (.t 72))] [0,1,6,7,73]) (.cond (.t 73) (.seq (rn [mv 74 0,jj 75 (.call 153 [(.t 74),(kk 12)])] [6]) (.seq (rn [jj 76 (.build [zN,zN,eN,sN] []),st 4 6 76] [6]) (.ret))) (.skip))) (.seq (.seq (rn [mv 77 7,jj 78 (.indexS (.t 77) (kk 0)),cl 79 193 [78]] [0,1,6,7,79]) (.cond (.t 79) (.seq (rn [mv 80 0,cl 81 154 [80]] [6,7]) (.seq (rn [mv 82 7,cl 83 195 [82],jj 84 (.build [zN,zN,eN,sN] [(0,1,(kk 8)),(1,1,(.t 83))]),st 4 6 84] [6]) (.ret))) (.skip))) (.seq (.seq (rn [mv 85 7,jj 86 (.bin .eql (.t 85) (.c (.string ⟨#[116,114,117,101]⟩))),mv 87 86,jf 88 87 (.mov (.t 7)),jf 89 87 (.bin .eql (.t 88) (.c (.string ⟨#[102,97,108,115,101]⟩))),jj 90 (.pick (.t 87) kT (.t 89))] [0,1,6,7,90]) (.cond (.t 90) (.seq (rn [mv 91 0,cl 92 154 [91]] [6,7]) (.seq (rn [mx 9 (kk 0)] [6,7,9]) (.seq (.seq (rn [mv 93 7,jj 94 (.bin .eql (.t 93) (.c (.string ⟨#[116,114,117,101]⟩)))] [6,9,94]) (.cond (.t 94) (rn [mx 9 (kk 1)] [6,9]) (.skip))) (.seq (rn [mv 95 9,jj 96 (.build [zN,zN,eN,sN] [(0,1,(kk 9)),(1,1,(.t 95))]),st 4 6 96] [6]) (.ret))))) (.skip))) (.seq (.seq (rn [mv 97 7,jj 98 (.bin .eql (.t 97) (.c (.string ⟨#[115,101,108,102]⟩))),mv 99 98,jf 100 99 (.mov (.t 7)),jf 101 99 (.bin .eql (.t 100) (.c (.string ⟨#[111,116,104,101,114]⟩))),jj 102 (.pick (.t 99) kT (.t 101)),mv 103 102,jf 104 103 (.mov (.t 7)),jf 105 103 (.bin .eql (.t 104) (.c (.string ⟨#[116,105,99,107]⟩))),jj 106 (.pick (.t 103) kT (.t 105))] [0,1,6,7,106]) (.cond (.t 106) (.seq (rn [mv 107 0,cl 108 154 [107]] [6,7]) (.seq (rn [mv 109 7,jj 110 (.build [zN,zN,eN,sN] [(0,1,(kk 12)),(2,1,(.t 109))]),st 4 6 110] [6]) (.ret))) (.skip))) (.seq (.seq (rn [mv 111 7,cl 112 198 [111]] [0,1,6,7,112]) (.cond (.t 112) (.seq (rn [mv 113 0,cl 114 154 [113]] [0,1,6,7]) (.seq (rn [mv 115 0,mv 116 1,cl 117 199 [115,116],jj 10 (.alloc [zN,zN,eN,sN]),st 4 10 117] [6,7,10]) (.seq (rn [mv 118 7,la 119 4 10,jj 120 (.bslice 1 [zN,zN,eN,sN] [(0,4,(.t 119))]),jj 121 (.build [zN,zN,eN,sN] [(0,1,(kk 11)),(2,1,(.t 118)),(3,1,(.t 120))]),st 4 6 121] [6]) (.ret)))) (.skip))) (.seq (.seq (rn [mv 122 7,jj 123 (.indexS (.t 122) (kk 0)),cl 124 192 [123],mv 125 124,jt 126 125 (.mov (.t 7)),jt 127 125 (.call 194 [(.t 126)]),jt 128 125 (.un .not (.t 127)),jj 129 (.pick (.t 125) (.t 128) kF)] [0,6,7,129]) (.cond (.t 129) (.seq (rn [mv 130 0,cl 131 154 [130]] [6,7]) (.seq (rn [mv 132 7,jj 133 (.build [zN,zN,eN,sN] [(0,1,(kk 10)),(2,1,(.t 132))]),st 4 6 133] [6]) (.ret))) (.skip))) (.seq (rn [mv 134 0,jj 135 (.call 153 [(.t 134),(kk 12)])] [6]) (.seq (rn [jj 136 (.build [zN,zN,eN,sN] []),st 4 6 136] [6]) (.ret))))))))))))))))),false,false,false⟩
def F198:PFun:=⟨1,[.tmp 2],.seq (rn [mx 2 kF] [0]) (.seq (rn [jj 3 (.bslice 8 [eN,eN,eN,eN,eN,eN,eN,eN] [(0,1,(.c (.string ⟨#[120]⟩))),(1,1,(.c (.string ⟨#[121]⟩))),(2,1,(.c (.string ⟨#[118,120]⟩))),(3,1,(.c (.string ⟨#[118,121]⟩))),(4,1,(.c (.string ⟨#[97]⟩))),(5,1,(.c (.string ⟨#[98]⟩))),(6,1,(.c (.string ⟨#[104,105,116]⟩))),(7,1,(.c (.string ⟨#[115,116,105,108,108]⟩)))]),mv 4 0,cl 5 196 [3,4],mv 2 5] [2]) (.ret)),false,false,false⟩
def F199:PFun:=⟨2,[.cell 4 true 4],.seq (rn [jj 4 (.alloc [zN,zN,eN,sN])] [0,1,4]) (.seq (rn [mv 6 0,mv 7 1,bk 8 .add 7 1,jj 9 (.call 172 [(.t 6),(.c (.string ⟨#[91]⟩)),(.t 8)])] [0,1,4]) (.seq (rn [mv 10 0,mv 11 1,bk 12 .add 11 1,jj 13 (.call 197 [(.t 10),(.t 12),(kk 1)]),jj 5 (.alloc [zN,zN,eN,sN]),st 4 5 13] [0,4,5]) (.seq (rn [mv 14 0,jj 15 (.call 150 [(.t 14),(.c (.string ⟨#[93]⟩))])] [4,5]) (.seq (rn [la 16 4 5,st 4 4 16] [4]) (.ret))))),false,false,false⟩
def F202:PFun:=⟨4,[.cell 8 true 4],.seq (rn [jj 8 (.alloc [zN,zN,eN,sN])] [0,1,2,3,8]) (.seq (rn [mv 10 0,mv 11 1,mv 12 2,bk 13 .add 12 1,cl 14 172 [10,11,13]] [0,1,2,3,8]) (.seq (rn [mv 15 0,mv 16 2,bk 17 .add 16 1,mv 18 3,cl 19 197 [15,17,18],jj 9 (.alloc [zN,zN,eN,sN]),st 4 9 19] [1,8,9]) (.seq (rn [mv 20 1,la 21 4 9,jj 22 (.bslice 1 [zN,zN,eN,sN] [(0,4,(.t 21))]),jj 23 (.build [zN,zN,eN,sN] [(0,1,(kk 13)),(2,1,(.t 20)),(3,1,(.t 22))]),st 4 8 23] [8]) (.ret)))),false,false,false⟩
@[simp] def F203l0x:PC:=(.seq (.seq (.region (some []) [mv 22 0,nc 23 22,fa 24 3 23,l1 25 24,bk 26 .eql 25 0,mv 27 26,jt 28 27 (.mov (.t 7)),jt 29 27 (.mov (.t 2)),jt 30 27 (.indexAddr 1 (.t 28) (.t 29)),⟨some 31,.load false 1 (.t 30),some (27,true),[11]⟩,jt 32 27 (.mov (.t 0)),jt 33 27 (.call 151 [(.t 32)]),jt 34 27 (.call 196 [(.t 31),(.t 33)]),jj 35 (.pick (.t 27) (.t 34) kF)] [0,1,2,6,7,8,35] [11,12]) (.cond (.t 35) (.skip) (.exit 0))) (.block 1 (.seq (rn [mv 36 0,cl 37 151 [36],mv 9 37] [0,1,2,6,7,8,9]) (.seq (rn [mv 38 0,cl 39 154 [38]] [0,1,2,6,7,8,9]) (.seq (rn [mv 40 0,mv 41 1,mv 42 2,bk 43 .add 42 1,cl 44 197 [40,41,43],jj 10 (.alloc [zN,zN,eN,sN]),st 4 10 44] [0,1,2,6,7,8,9,10]) (.seq (rn [mv 45 9,la 46 4 8,la 47 4 10,jj 48 (.bslice 2 [zN,zN,eN,sN,zN,zN,eN,sN] [(0,4,(.t 46)),(4,4,(.t 47))]),jj 49 (.build [zN,zN,eN,sN] [(0,1,(kk 14)),(2,1,(.t 45)),(3,1,(.t 48))]),st 4 8 49] [0,1,2,6,7,8]) (.seq (rn [mv 50 2,bk 51 .eql 50 4] [0,1,2,6,7,8,51]) (.cond (.t 51) (.exit 0) (.skip)))))))))
def F203l0:PC:=F203l0x
theorem qek:run C q F203l0 fr σ = run C q F203l0x fr σ := rfl
def F203:PFun:=⟨3,[.cell 6 true 4],.seq (rn [jj 6 (.alloc [zN,zN,eN,sN])] [0,1,2,6]) (.seq (rn [jj 11 (.bslice 1 [eN] [(0,1,(.c (.string ⟨#[124,124]⟩)))]),jj 12 (.bslice 1 [eN] [(0,1,(.c (.string ⟨#[38,38]⟩)))]),jj 13 (.bslice 6 [eN,eN,eN,eN,eN,eN] [(0,1,(.c (.string ⟨#[60]⟩))),(1,1,(.c (.string ⟨#[60,61]⟩))),(2,1,(.c (.string ⟨#[62]⟩))),(3,1,(.c (.string ⟨#[62,61]⟩))),(4,1,(.c (.string ⟨#[61,61]⟩))),(5,1,(.c (.string ⟨#[33,61]⟩)))]),jj 14 (.bslice 2 [eN,eN] [(0,1,(.c (.string ⟨#[43]⟩))),(1,1,(.c (.string ⟨#[45]⟩)))]),jj 15 (.bslice 2 [eN,eN] [(0,1,(.c (.string ⟨#[42]⟩))),(1,1,(.c (.string ⟨#[47]⟩)))]),jj 16 (.bslice 7 [sN,sN,sN,sN,sN,sN,sN] [(0,1,(.c (.slice none 0 0))),(1,1,(.t 11)),(2,1,(.t 12)),(3,1,(.c (.slice none 0 0))),(4,1,(.t 13)),(5,1,(.t 14)),(6,1,(.t 15))]),mv 7 16] [0,1,2,6,7]) (.seq (rn [mv 17 0,mv 18 1,mv 19 2,bk 20 .add 19 1,cl 21 197 [17,18,20],jj 8 (.alloc [zN,zN,eN,sN]),st 4 8 21] [0,1,2,6,7,8]) (.seq (.block 0 (.loop F203l0)) (.seq (rn [la 52 4 8,st 4 6 52] [6]) (.ret))))),false,false,false⟩
end Go.Pm.F
end
section
namespace Go.Pm.F
def tR:Nat->Option PFun
 |132=>some F132
 |149=>some F149
 |150=>some F150
 |151=>some F151
 |152=>some F152
 |153=>some F153
 |154=>some F154
 |155=>some F155
 |170=>some F170
 |171=>some F171
 |172=>some F172
 |173=>some F173
 |192=>some F192
 |193=>some F193
 |194=>some F194
 |195=>some F195
 |196=>some F196
 |197=>some F197
 |198=>some F198
 |199=>some F199
 |202=>some F202
 |203=>some F203
 |_=>none
end Go.Pm.F
end
namespace Go.Pm
section
open F
theorem qeM(c:UInt8):Z tR (.call 192 [.dat (.lit (.int .u8 c.toNat))] [])=some (.ret (.bool (qaG c)) []):=by
 refine Z_call (pf:=F192) rfl rfl ?_
 by_cases h1:(97:Int)<=c.toNat
 ·have h1':97<=c.toNat:=by omega
  by_cases h2:(c.toNat:Int)<=122
  ·have h2':c.toNat<=122:=by omega
   simp[F192,qaG,h1,h1',h2,h2']
  ·have h2' : ¬ c.toNat<=122:=by omega
   simp[F192,qaG,h1,h1',h2,h2']
 ·have h1' : ¬ 97<=c.toNat:=by omega
  simp[F192,qaG,h1,h1']
theorem qd6(c:UInt8):Z tR (.call 193 [.dat (.lit (.int .u8 c.toNat))] [])=some (.ret (.bool (qal c)) []):=by
 refine Z_call (pf:=F193) rfl rfl ?_
 by_cases h1:(48:Int)<=c.toNat
 ·have h1':48<=c.toNat:=by omega
  by_cases h2:(c.toNat:Int)<=57
  ·have h2':c.toNat<=57:=by omega
   simp[F193,qal,h1,h1',h2,h2']
  ·have h2' : ¬ c.toNat<=57:=by omega
   simp[F193,qal,h1,h1',h2,h2']
 ·have h1' : ¬ 48<=c.toNat:=by omega
  simp[F193,qal,h1,h1']
structure RowS(d:D)(l:List ByteArray):Prop where
 len : ∀ σ,V.len σ .sl (.dat d)=some l.length
 at_ : ∀ i:Nat,i<l.length->qag 1 (.dat d) i=some (.dat (.imm (strC l) i))
 one:V.one (.dat d)=true
 cells:V.cells (.dat d)=[.dat d]
theorem qai(l:List ByteArray)(f:Bool):RowS (.sl (strC l) l.length f) l where
 len _:=rfl
 at_ i h:=by simp[qag,h]
 one:=rfl
 cells:=rfl
theorem qmB {d:D} {l:List ByteArray} (hd:RowS d l) (hl:l.length<2 ^ 40) (s:ByteArray) : ∀ (m i:Nat),i+m=l.length ->
  Z tR (.loop 0 F196l0 [(0,.dat d),(1,.str s),(5,.int i)] [])=some (if s∈l.drop i then .out .ret [(4,.bool true)] [] else .out (.exit 0) [(0,.dat d),(1,.str s),(5,.int l.length),(9,.bool false)] [])
 |0,i,hi=>by
  have ho:=hd.one
  have hc:=hd.cells
  have hn:=hd.len
  rw[qab]
  obtain rfl:i=l.length:=by omega
  simp[qaa,qhc,ho,hc,hn]
 |m+1,i,hi=>by
  have ho:=hd.one
  have hc:=hd.cells
  have hn:=hd.len
  have hil:i<l.length:=by omega
  have a:=hd.at_ i hil
  have c:=qfN l i hil
  have w1:=qae ((i:Int)+1) (by omega)
  have hlt:(i:Int)<l.length:=by omega
  have hdrop:l.drop i=l[i]::l.drop (i+1):=WO hil
  rw[qab]
  by_cases he:l[i]=s
  ·have hmem:s∈l.drop i:=by rw[hdrop,he]; exact WQ ..
   rw[if_pos hmem]
   simp[qaa,qhc,ho,hc,hn,a,c,w1,hlt,qah,he]
  ·have hmem:(s∈l.drop i)=(s∈l.drop (i+1)):=by
    rw[hdrop,Ws]
    simp[Yl he]
   have ih:=qmB hd hl s m (i+1) (by omega)
   simp only[Wn,Wd] at ih
   simp[qaa,qhc,ho,hc,hn,a,c,w1,hlt,qah,he,ih,hmem]
theorem qgT{d:D}{l:List ByteArray}(hd:RowS d l)(hl:l.length<2 ^ 40)(s:ByteArray):Z tR (.call 196 [.dat d,.str s] [])=some (.ret (.bool (decide (s∈l))) []):=by
 refine Z_call (pf:=F196) rfl rfl ?_
 have ho:=hd.one
 have hc:=hd.cells
 have z:=qmB hd hl s l.length 0 (by omega)
 simp only[Ye,WJ] at z
 by_cases h:s∈l
 ·simp[F196,ho,hc,z,h]
 ·simp[F196,ho,hc,z,h]
theorem qgU(s:ByteArray):Z tR (.call 198 [.str s] [])=some (.ret (.bool (decide (s∈fieldNames))) []):=by
 refine Z_call (pf:=F198) rfl rfl ?_
 have z:=qgT (qai fieldNames true) (by decide) s
 simp only[fieldNames,strC,Wo,Wq,Wj,Wu,bs,qfM,qoG] at z
 simp[F198,z,fieldNames,bs,qfM,qoG,Wa]
theorem qfJ(s:ByteArray):Z tR (.call 194 [.str s] [])=some (.ret (.bool (decide (s∈fieldNames\/s∈wordNames))) []):=by
 refine Z_call (pf:=F194) rfl rfl ?_
 have z1:=qgU s
 have z:=qgT (qai wordNames true) (by decide) s
 simp only[wordNames,strC,Wo,Wq,Wj,Wu,bs,qfM] at z
 by_cases h:s∈fieldNames
 ·simp[F194,z1,h,Wa]
 ·simp[F194,z1,h,z,wordNames,bs,qfM,Wa]
theorem qvF(s:ByteArray)(i:Nat):s[i]?=s.data.toList[i]?:=by
 by_cases h:i<s.size
 ·rw[getElem?_pos s i h,WX (by rw[WB]; exact h)]
  simp[ByteArray.getElem_eq_getElem_data]
 ·rw[getElem?_neg s i h,Yi (by rw[WB]; exact YC.1 h)]
theorem qh6{s:ByteArray}{i:Nat}(h:i<s.size) : ∃ c,s[i]?=some c/\s.data.toList[i]?=some c:=by
 refine⟨s.data.toList[i]'(by rw[WB]; exact h),?_,WX _⟩
 rw[qvF]
 exact WX _
theorem qq3(l:List UInt8)(c:UInt8):digV (l++[c])=10*digV l+(c.toNat-48):=by simp[digV]
theorem qq4 : ∀ (r:List UInt8) (v:Nat),v<=r.foldl (fun v c=>10*v+(c.toNat-48)) v
 |[],v=>Wl v
 |c::r,v=>Yf (by omega) (qq4 r (10*v+(c.toNat-48)))
theorem qq5(l r:List UInt8):digV l<=digV (l++r):=by
 unfold digV
 rw[List.foldl_append]
 exact qq4 r _
theorem qkj {s:ByteArray} (hs : ∀ c∈s.data.toList,qal c=true) (hl:s.size<2 ^ 40) : ∀ (m i:Nat),i+m=s.size->digV (s.data.toList.take i)<=2147483647 ->
  Z tR (.loop 0 F195l0 [(0,.str s),(3,.int (digV (s.data.toList.take i))),(4,.int i)] []) =
   some (if 2147483647<digV s.data.toList then .out .ret [(2,.int (-1))] [] else .out (.exit 0) [(0,.str s),(3,.int (digV s.data.toList)),(4,.int s.size),(8,.bool false)] [])
 |0,i,hi,hn=>by
  obtain rfl:i=s.size:=by omega
  have ht:s.data.toList.take s.size=s.data.toList:=WE (by rw[WB]; exact Wl _)
  rw[ht] at hn ⊢
  rw[if_neg (by omega),qab]
  simp[qaa,qhb,V.len]
 |m+1,i,hi,hn=>by
  have hil:i<s.size:=by omega
  obtain⟨c,h1,h2⟩:=qh6 hil
  have hc:=hs c (WU h2)
  simp only[qal,Wt,decide_eq_true_eq] at hc
  have ht:s.data.toList.take (i+1)=s.data.toList.take i++[c]:=by
   rw[List.take_add_one,h2]; rfl
  have hsn:digV (s.data.toList.take (i+1))=10*digV (s.data.toList.take i)+(c.toNat-48):=by rw[ht,qq3]
  have hlt:(i:Int)<s.size:=by omega
  have w1:=qae ((i:Int)+1) (by omega)
  have w2:=qae (10*(digV (s.data.toList.take i):Int)) (by omega)
  have w3:=qae (c.toNat:Int) (by omega)
  have w4:=qae (10*(digV (s.data.toList.take i):Int)+c.toNat) (by omega)
  have w5:IntKind.i64.wrap (10*(digV (s.data.toList.take i):Int)+c.toNat-48)=(digV (s.data.toList.take (i+1)):Int):=by
   rw[qae _ (by omega),hsn]; omega
  rw[qab]
  by_cases hbig:2147483647<digV (s.data.toList.take (i+1))
  ·have hall:2147483647<digV s.data.toList:=by
    have:=qq5 (s.data.toList.take (i+1)) (s.data.toList.drop (i+1))
    rw[Yo] at this
    omega
   have hb : ¬ (digV (s.data.toList.take (i+1)):Int)<=2147483647:=by omega
   have hb':(2147483647:Int)<digV (s.data.toList.take (i+1)):=by omega
   rw[if_pos hall]
   simp[qaa,qhb,V.len,h1,hlt,w1,w2,w3,w4,w5,hb,hb',qoZ]
  ·have hb : ¬ (2147483647:Int)<digV (s.data.toList.take (i+1)):=by omega
   have ih:=qkj hs hl m (i+1) (by omega) (by omega)
   simp only[Wn,Wd] at ih
   simp[qaa,qhb,V.len,h1,hlt,w1,w2,w3,w4,w5,hb,ih,qoZ]
def qtW(l:List UInt8):Int:=if 2147483647<digV l then -1 else digV l
theorem qq6{s:ByteArray}(hs : ∀ c∈s.data.toList,qal c=true)(hl:s.size<2 ^ 40):Z tR (.call 195 [.str s] [])=some (.ret (.int (qtW s.data.toList)) []):=by
 refine Z_call (pf:=F195) rfl rfl ?_
 have z:=qkj hs hl s.size 0 (by omega) (by simp[digV])
 simp only[List.take_zero,Ye,show digV []=0 from rfl] at z
 unfold qtW
 by_cases h:2147483647<digV s.data.toList
 ·simp[F195,z,h]
 ·simp[F195,z,h]
end
section
open F
def cmtL:List UInt8->Nat
 |[]=>0
 |b::r=>if b.toNat=10 then 0 else cmtL r+1
theorem qrm : ∀ l,cmtL l<=l.length
 |[]=>by simp[cmtL]
 |b::r=>by
  have:=qrm r
  simp only[cmtL,Wj]
  split<;>omega
theorem qkp : ∀ l:List UInt8,qaD true l=cmtL l+qaD false (l.drop (cmtL l))
 |[]=>by simp[qaD,cmtL]
 |b::r=>by
  have ih:=qkp r
  simp only[cmtL]
  by_cases h:b.toNat=10
  ·simp[qaD,h]
  ·rw[if_neg h,Yh]
   simp only[qaD,if_neg h,true_or,if_true,ih]
   omega
theorem qrn{b:UInt8}{r:List UInt8}(h:b.toNat=35):qaD false (b::r)=cmtL (b::r)+qaD false ((b::r).drop (cmtL (b::r))):=by
 have h10 : ¬ b.toNat=10:=by omega
 simp only[cmtL,if_neg h10,Yh]
 simp only[qaD,if_neg h10,if_pos h,qkp r]
 have : ¬ (false=true\/b.toNat=32\/b.toNat=9):=by
  rintro (h|h|h)
  ·cases h
  ·omega
  ·omega
 rw[if_neg this]
 omega
theorem qdR{s:ByteArray}{i:Nat}{c:UInt8}(h:s.data.toList[i]?=some c):(byl s).drop i=c::(byl s).drop (i+1):=by
 have hi:=(We.1 h)
 obtain⟨h1,h2⟩:=hi
 rw[<- h2]
 exact WO h1
theorem qoH (s:ByteArray) (hl:s.size<2 ^ 40) : ∀ (m i:Nat) (ex:Fr),i+m=s.size->(ex=[]\/ex=[(12,.bool true)]) ->
  Z tR (.loop 0 F170l1 ((0,.str s)::(1,.int i)::ex) [])=some (.out (.exit 2) [(0,.str s),(1,.int ((i+cmtL ((byl s).drop i):Nat))),(22,.bool false)] [])
 |0,i,ex,hi,hex=>by
  obtain rfl:i=s.size:=by omega
  have hd:(byl s).drop s.size=[]:=WN (by rw[qat]; exact Wl _)
  rw[qab,hd]
  rcases hex with rfl|rfl<;>simp[qaa,qg9,V.len,cmtL]
 |m+1,i,ex,hi,hex=>by
  obtain⟨c,h1,h2⟩:=qh6 (s:=s) (i:=i) (by omega)
  have hd:=qdR h2
  have hlt:(i:Int)<s.size:=by omega
  have w1:=qae ((i:Int)+1) (by omega)
  rw[qab,hd]
  by_cases h:c.toNat=10
  ·rcases hex with rfl|rfl<;>simp[qaa,qg9,V.len,cmtL,h1,hlt,h]
  ·have h' : ¬ (c.toNat:Int)=10:=by omega
   have ih:=qoH s hl m (i+1) [] (by omega) (.inl rfl)
   simp only[Wn,Wd] at ih
   rcases hex with rfl|rfl
   all_goals
    simp[qaa,qg9,V.len,cmtL,h1,hlt,h,h',w1,ih]
    omega
theorem qjl (s:ByteArray) (hl:s.size<2 ^ 40) : ∀ (m i:Nat) (ex:Fr),s.size-i<=m->i<=s.size->(ex=[]\/ex=[(22,.bool false)]) ->
  ∃ t v,Z tR (.loop 0 F170l0 ((0,.str s)::(1,.int i)::ex) [])=some (.out (.exit 0) [(0,.str s),(1,.int ((i+qaD false ((byl s).drop i):Nat))),(t,.bool v)] [])
 |m,i,ex,hm,hi,hex=>by
  by_cases hend:i=s.size
  ·subst hend
   have hd:(byl s).drop s.size=[]:=WN (by rw[qat]; exact Wl _)
   refine⟨8,false,?_⟩
   rw[qab,hd]
   rcases hex with rfl|rfl<;>simp[qaa,qfw,V.len,qaD]
  ·cases m with
   |zero=>omega
   |succ m=>
    obtain⟨c,h1,h2⟩:=qh6 (s:=s) (i:=i) (by omega)
    have hd:=qdR h2
    have hlt:(i:Int)<s.size:=by omega
    have w1:=qae ((i:Int)+1) (by omega)
    by_cases h35:c.toNat=35
    ·have zc:=qoH s hl (s.size-i) i [(12,.bool true)] (by omega) (.inr rfl)
     have hle:=qrm ((byl s).drop i)
     rw[WT,qat] at hle
     have hpos:0<cmtL ((byl s).drop i):=by
      rw[hd]; simp only[cmtL]; rw[if_neg (by omega)]; omega
     obtain⟨t,v,ih⟩:=qjl s hl m (i+cmtL ((byl s).drop i)) [(22,.bool false)] (by omega) (by omega) (.inr rfl)
     refine⟨t,v,?_⟩
     have hsk:qaD false ((byl s).drop i)=cmtL ((byl s).drop i)+qaD false ((byl s).drop (i+cmtL ((byl s).drop i))):=by
      rw[<- List.drop_drop,hd]
      exact qrn h35
     rw[hsk,<- Nat.add_assoc,<- ih,qab]
     generalize cmtL ((byl s).drop i)=q at zc
     rcases hex with rfl|rfl<;>simp[qaa,qfw,V.len,h1,hlt,h35,zc]
    ·have h35' : ¬ (c.toNat:Int)=35:=by omega
     by_cases hw:c.toNat=32\/c.toNat=9\/c.toNat=10
     ·obtain⟨t,v,ih⟩:=qjl s hl m (i+1) [] (by omega) (by omega) (.inl rfl)
      refine⟨t,v,?_⟩
      have hsk:qaD false ((byl s).drop i)=1+qaD false ((byl s).drop (i+1)):=by
       rw[hd]
       simp only[qaD]
       rcases hw with h|h|h
       ·simp[h]; omega
       ·simp[h]; omega
       ·simp[h]; omega
      rw[hsk,<- Nat.add_assoc,<- ih,qab]
      rcases hw with h|h|h<;>rcases hex with rfl|rfl<;>simp[qaa,qfw,V.len,h1,hlt,h,w1]
     ·simp only[not_or] at hw
      have h32 : ¬ (c.toNat:Int)=32:=by omega
      have h9 : ¬ (c.toNat:Int)=9:=by omega
      have h10 : ¬ (c.toNat:Int)=10:=by omega
      have hsk:qaD false ((byl s).drop i)=0:=by
       rw[hd]
       simp only[qaD]
       simp[hw.1,hw.2.1,hw.2.2,h35]
      refine⟨40,true,?_⟩
      rw[hsk,qab]
      rcases hex with rfl|rfl<;>simp[qaa,qfw,V.len,h1,hlt,h35',h32,h9,h10]
theorem qt2(s:ByteArray)(hl:s.size<2 ^ 40){i:Nat}(hi:i<=s.size):Z tR (.call 170 [.str s,.int i] [])=some (.ret (.int ((i+qaD false ((byl s).drop i):Nat))) []):=by
 refine Z_call (pf:=F170) rfl rfl ?_
 obtain⟨t,v,z⟩:=qjl s hl (s.size-i) i [] (Wl _) hi (.inl rfl)
 simp[F170,z]
end
end Go.Pm
