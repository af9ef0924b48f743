/- The abstract machine's program, printed by a program of our own: group 7. The abstract machine's program, printed by a program of our own: group 7r. The abstract machine's program, printed by a program of our own: group Law17. The abstract machine's program, printed by a program of our own: group h. The abstract machine's program, printed by a program of our own: group m. The abstract machine's program, printed by a program of our own: group x. The abstract machine's program, printed by a program of our own: group xp. The abstract machine's programs: tables of functions. The abstract machine's programs: tables of functions. Chapter 17: what programOf makes of the sources that the laws build. Chapter 17: the book: New, Add, Versions. Chapter 17: Versions. Chapters 16 and 17: the hash of a row of words. -/
import Derived.Test.YtpakkndfjpimgaaGreatDoorPmY
import Derived.Test.YtpakkndfjpimgaaGreatDoorPmF3
import Derived.KernelRfl
set_option linter.unusedSimpArgs false
set_option linter.unusedVariables false
section SF7
namespace Go.Pm.F
variable (C:Task->Option Res) (q:Nat) (fr:Fr) (σ : S)
def F317:PFun:=⟨1,[.tmp 2,.tmp 3],.seq (rn [jj 2 (.mov (.c (.pointer none))),mx 3 (kk 0)] [0]) (.seq (rn [mv 7 0,cl 8 322 [7],mv 6 8,ex 9 6 0,ex 10 6 1,jj 4 (.alloc [sN,zN,zN,zN]),st 4 4 9,mv 5 10] [4,5]) (.seq (.seq (rn [mv 11 5,bk 12 .neq 11 0] [4,5,12]) (.cond (.t 12) (.seq (rn [mv 13 5,jj 2 (.mov (.c (.pointer none))),mv 3 13] [2,3]) (.ret)) (.skip))) (.seq (rn [la 14 4 4,jj 15 (.build [zN,sN,zN,zN,zN] [(0,1,(kk 0)),(1,4,(.t 14))]),jj 16 (.bslice 1 [zN,sN,zN,zN,zN] [(0,5,(.t 15))]),jj 17 (.build [sN] [(0,1,(.t 16))]),bx 18 17,mv 2 18,mx 3 (kk 0)] [2,3]) (.ret)))),false,false,false⟩
def F318:PFun:=⟨3,[.tmp 6],.seq (rn [mx 6 (kk 0)] [0,1,2]) (.seq (.seq (rn [mv 9 0,nc 10 9,fa 11 0 10,l1 12 11,ls 13 12,bk 14 .gtr 13 8] [0,1,2,14]) (.cond (.t 14) (.seq (rn [mx 6 (kk 2)] [6]) (.ret)) (.skip))) (.seq (.seq (.region (some []) [mv 15 1,mv 16 0,nc 17 16,fa 18 0 17,l1 19 18,mv 20 0,nc 21 20,fa 22 0 21,l1 23 22,ls 24 23,bk 25 .sub 24 1,jj 26 (.indexAddr 5 (.t 19) (.t 25)),fa 27 0 26,l1 28 27,bn 29 .leq 15 28] [0,1,2,29]) (.cond (.t 29) (.seq (rn [mx 6 (kk 5)] [6]) (.ret)) (.skip))) (.seq (rn [mv 31 2,cl 32 322 [31],mv 30 32,ex 33 30 0,ex 34 30 1,jj 7 (.alloc [sN,zN,zN,zN]),st 4 7 33,mv 8 34] [0,1,7,8]) (.seq (.seq (rn [mv 35 8,bk 36 .neq 35 0] [0,1,7,8,36]) (.cond (.t 36) (.seq (rn [mv 37 8,mv 6 37] [6]) (.ret)) (.skip))) (.seq (.region (some []) [mv 38 0,mv 39 0,nc 40 39,fa 41 0 40,l1 42 41,mv 43 1,la 44 4 7,jj 45 (.build [zN,sN,zN,zN,zN] [(0,1,(.t 43)),(1,4,(.t 44))]),jj 46 (.bslice 1 [zN,sN,zN,zN,zN] [(0,5,(.t 45))]),jj 47 (.append 5 56 (.t 42) (.t 46)),nc 48 38,fa 49 0 48,st 1 49 47] []) (.seq (rn [mx 6 (kk 0)] [6]) (.ret))))))),false,false,false⟩
@[simp] def F320l0x:PC:=(.seq (rn [bn 18 .lss 17 16] [3,15,16,17,18]) (.seq (.cond (.t 18) (.skip) (.exit 0)) (.seq (.block 1 (.seq (rn [mv 19 17,jj 20 (.indexAddr 5 (.t 15) (.t 17)),la 21 5 20,jj 5 (.alloc [zN,sN,zN,zN,zN]),mv 4 19,st 5 5 21] [3,4,5,15,16,17]) (rn [mv 22 3,mv 23 4,fa 24 0 5,l1 25 24,jj 26 (.indexAddr 1 (.t 22) (.t 23)),st 1 26 25] [3,15,16,17]))) (rn [bk 27 .add 17 1,mv 17 27] [3,15,16,17]))))
def F320l0:PC:=F320l0x
theorem qcG:run C q F320l0 fr σ = run C q F320l0x fr σ := rfl
def F320:PFun:=⟨1,[.tmp 2],.seq (rn [jj 2 (.mov (.c (.slice none 0 0)))] [0]) (.seq (rn [mv 6 0,nc 7 6,fa 8 0 7,l1 9 8,ls 10 9,jj 11 (.mkslice false [zN] 8 (.t 10) (.t 10)),mv 3 11] [0,3]) (.seq (.seq (rn [mv 12 0,nc 13 12,fa 14 0 13,l1 15 14,ls 16 15,mx 17 (kk 0)] [3,15,16,17]) (.block 0 (.loop F320l0))) (.seq (rn [mv 28 3,mv 2 28] [2]) (.ret)))),false,false,false⟩
def F322:PFun:=⟨1,[.cell 2 true 4,.tmp 3],.seq (rn [jj 2 (.alloc [sN,zN,zN,zN]),mx 3 (kk 0)] [0,2]) (.seq (rn [mv 8 0,jj 9 (.call 324 [(.t 8),(kk 0),(.f 325)]),mv 7 9,ex 10 7 0,ex 11 7 1,jj 4 (.alloc [zN,zN,eN,sN,zN,zN,eN,sN,zN,zN,eN,sN]),st 12 4 10,mv 5 11] [2,4,5]) (.seq (rn [la 13 12 4,mv 14 5,jj 15 (.call 326 [(.t 13),(.t 14),(.f 327)]),mv 12 15,ex 16 12 0,ex 17 12 1,jj 6 (.alloc [zN,zN,eN,sN,zN,zN,eN,sN,zN,zN,eN,sN]),st 12 6 16,mv 5 17] [2,5,6]) (.seq (rn [la 18 12 6,mv 19 5,jj 20 (.call 328 [(.t 18),(.t 19),(.f 131)]),ex 21 20 0,ex 22 20 1,st 4 2 21,mv 3 22] [2,3]) (.ret)))),false,false,false⟩
def F323:PFun:=⟨2,[.tmp 4,.cell 5 true 4],.seq (rn [bx 2 0,bx 3 1,mx 4 (kk 0),jj 5 (.alloc [sN,zN,zN,zN])] [2,3,5]) (.seq (rn [l1 9 2,nc 10 9,fa 11 0 10,l1 12 11,ls 13 12,jj 14 (.mkfn 330 [] [(.t 2),(.t 3)]),cl 15 329 [13,14],mv 6 15] [2,5,6]) (.seq (rn [mv 16 6,bk 17 .sub 16 1,jj 18 (.max [(.t 17),(kk 0)]),mv 7 18] [2,5,7]) (.seq (rn [l1 19 2,nc 20 19,fa 21 0 20,l1 22 21,mv 23 7,jj 24 (.indexAddr 5 (.t 22) (.t 23)),fa 25 1 24,la 26 4 25,jj 8 (.alloc [sN,zN,zN,zN]),st 4 8 26] [5,7,8]) (.seq (.region (some []) [mv 27 7,fa 28 0 8,l1 29 28,cl 30 331 [29],fa 31 1 8,⟨some 32,.load true 3 (.t 31),none,[3]⟩,jj 33 (.build [sN,zN,zN,zN] [(0,1,(.t 30)),(1,3,(.t 32))]),mv 4 27,st 4 5 33] [4,5]) (.ret))))),false,false,false⟩
def F324:PFun:=⟨3,[.cell 6 true 12,.tmp 7],.seq (rn [jj 6 (.alloc [zN,zN,eN,sN,zN,zN,eN,sN,zN,zN,eN,sN]),mx 7 (kk 0)] [0,1,2,6]) (.seq (.seq (rn [mv 9 1,bk 10 .neq 9 0] [0,1,2,6,10]) (.cond (.t 10) (.seq (rn [jj 8 (.alloc [zN,zN,eN,sN,zN,zN,eN,sN,zN,zN,eN,sN])] [1,6,8]) (.seq (rn [la 11 12 8,mv 12 1,st 12 6 11,mv 7 12] [6,7]) (.ret))) (.skip))) (.seq (rn [mv 13 2,mv 14 0,jj 15 (.callv (.t 13) [(.t 14)]),ex 16 15 0,ex 17 15 1,st 12 6 16,mv 7 17] [6,7]) (.ret))),false,false,false⟩
def F325:PFun:=⟨1,[.cell 2 true 12,.tmp 3],.seq (rn [jj 2 (.alloc [zN,zN,eN,sN,zN,zN,eN,sN,zN,zN,eN,sN]),mx 3 (kk 0)] [0,2]) (.seq (rn [mv 8 0,cl 9 228 [8],mv 7 9,ex 10 7 0,ex 11 7 1,ex 12 7 2,jj 4 (.alloc [zN,zN,eN,sN,zN,zN,eN,sN,zN,zN,eN,sN]),st 12 4 10,mv 5 11,mv 6 12] [2,4,6]) (.seq (rn [la 13 12 4,mv 14 6,st 12 2 13,mv 3 14] [2,3]) (.ret))),false,false,false⟩
def F326:PFun:=⟨3,[.cell 6 true 12,.tmp 7],.seq (rn [bx 3 0,jj 6 (.alloc [zN,zN,eN,sN,zN,zN,eN,sN,zN,zN,eN,sN]),mx 7 (kk 0)] [1,2,3,6]) (.seq (.seq (rn [mv 9 1,bk 10 .neq 9 0] [1,2,3,6,10]) (.cond (.t 10) (.seq (rn [jj 8 (.alloc [zN,zN,eN,sN,zN,zN,eN,sN,zN,zN,eN,sN])] [1,6,8]) (.seq (rn [la 11 12 8,mv 12 1,st 12 6 11,mv 7 12] [6,7]) (.ret))) (.skip))) (.seq (rn [mv 13 2,la 14 12 3,jj 15 (.callv (.t 13) [(.t 14)]),ex 16 15 0,ex 17 15 1,st 12 6 16,mv 7 17] [6,7]) (.ret))),false,false,false⟩
def F327:PFun:=⟨1,[.cell 2 true 12,.tmp 3],.seq (rn [bx 1 0,jj 2 (.alloc [zN,zN,eN,sN,zN,zN,eN,sN,zN,zN,eN,sN]),mx 3 (kk 0)] [1,2]) (.seq (.region (some []) [⟨some 4,.load true 12 (.t 1),none,[2]⟩,la 5 12 1,cl 6 12 [5],st 12 2 4,mv 3 6] [2,3] [2]) (.ret)),false,false,false⟩
def F328:PFun:=⟨3,[.cell 6 true 4,.tmp 7],.seq (rn [bx 3 0,jj 6 (.alloc [sN,zN,zN,zN]),mx 7 (kk 0)] [1,2,3,6]) (.seq (.seq (rn [mv 9 1,bk 10 .neq 9 0] [1,2,3,6,10]) (.cond (.t 10) (.seq (rn [jj 8 (.alloc [sN,zN,zN,zN])] [1,6,8]) (.seq (rn [la 11 4 8,mv 12 1,st 4 6 11,mv 7 12] [6,7]) (.ret))) (.skip))) (.seq (rn [mv 13 2,la 14 12 3,jj 15 (.callv (.t 13) [(.t 14)]),ex 16 15 0,ex 17 15 1,st 4 6 16,mv 7 17] [6,7]) (.ret))),false,false,false⟩
def F330:PFun:=⟨3,[.tmp 4],.seq (rn [mx 4 kF] [0,1,2]) (.seq (.region (some []) [l1 5 1,nc 6 5,fa 7 0 6,l1 8 7,mv 9 0,jj 10 (.indexAddr 5 (.t 8) (.t 9)),fa 11 0 10,l1 12 11,l1 13 2,bn 14 .gtr 12 13,mv 4 14] [4]) (.ret)),false,false,false⟩
@[simp] def F343l0x:PC:=(.seq (rn [bn 19 .lss 18 17] [3,16,17,18,19]) (.seq (.cond (.t 19) (.skip) (.exit 0)) (.seq (.block 1 (.seq (rn [jj 20 (.indexAddr 5 (.t 16) (.t 18)),la 21 5 20,jj 5 (.alloc [zN,sN,zN,zN,zN]),st 5 5 21] [3,5,16,17,18]) (.region (some []) [mv 22 3,fa 23 0 5,⟨some 24,.load false 1 (.t 23),none,[5]⟩,fa 25 1 5,la 26 4 25,cl 27 353 [26],jj 28 (.conv (.int .i64) (.t 27)),jj 29 (.bslice 2 [zN,zN] [(0,1,(.t 24)),(1,1,(.t 28))]),jj 30 (.appendO 1 8 (.t 22) (.t 29)),mv 3 30] [3,16,17,18] [5]))) (rn [bk 31 .add 18 1,mv 18 31] [3,16,17,18]))))
def F343l0:PC:=F343l0x
theorem qcH:run C q F343l0 fr σ = run C q F343l0x fr σ := rfl
def F343:PFun:=⟨1,[.tmp 2],.seq (rn [jj 2 (.mov (.c (.int .u64 0)))] [0]) (.seq (rn [mv 6 0,nc 7 6,fa 8 0 7,l1 9 8,ls 10 9,jj 11 (.bin .mul (kk 2) (.t 10)),jj 12 (.mkslice true [zN] 8 (kk 0) (.t 11)),mv 3 12] [0,3]) (.seq (.seq (rn [mv 13 0,nc 14 13,fa 15 0 14,l1 16 15,ls 17 16,mx 18 (kk 0)] [3,16,17,18]) (.block 0 (.loop F343l0))) (.seq (rn [mv 32 3,jj 33 (.call 109 [(.c (.string ⟨#[98,111,111,107]⟩)),(.t 32)]),mv 2 33] [2]) (.ret)))),false,false,false⟩
@[simp] def F353l0x:PC:=(.seq (rn [bn 20 .lss 19 18] [3,17,18,19,20]) (.seq (.cond (.t 20) (.skip) (.exit 0)) (.seq (.block 1 (.seq (rn [jj 21 (.indexAddr 2 (.t 17) (.t 19)),la 22 2 21,jj 5 (.alloc [zN,zN]),st 2 5 22] [3,5,17,18,19]) (rn [mv 23 3,fa 24 0 5,l1 25 24,fa 26 1 5,l1 27 26,jj 28 (.bslice 2 [zN,zN] [(0,1,(.t 25)),(1,1,(.t 27))]),jj 29 (.appendO 1 8 (.t 23) (.t 28)),mv 3 29] [3,17,18,19]))) (rn [bk 30 .add 19 1,mv 19 30] [3,17,18,19]))))
def F353l0:PC:=F353l0x
theorem qdv:run C q F353l0 fr σ = run C q F353l0x fr σ := rfl
def F353:PFun:=⟨1,[.tmp 2],.seq (rn [bx 1 0,jj 2 (.mov (.c (.int .u64 0)))] [1]) (.seq (rn [fa 6 0 1,l1 7 6,ls 8 7,jj 9 (.bin .mul (kk 2) (.t 8)),jj 10 (.bin .add (kk 3) (.t 9)),jj 11 (.mkslice true [zN] 8 (kk 0) (.t 10)),mv 3 11] [1,3]) (.seq (rn [mv 12 3,fa 13 1 1,jj 14 (.sliceA 3 1 (.t 13) none none),jj 15 (.appendO 1 8 (.t 12) (.t 14)),mv 3 15] [1,3]) (.seq (.seq (rn [fa 16 0 1,l1 17 16,ls 18 17,mx 19 (kk 0)] [3,17,18,19]) (.block 0 (.loop F353l0))) (.seq (rn [mv 31 3,jj 32 (.call 109 [(.c (.string ⟨#[112,114,111,103,114,97,109]⟩)),(.t 31)]),mv 2 32] [2]) (.ret))))),false,false,false⟩
end Go.Pm.F
end SF7
section SF7r
namespace Go.Pm.F
variable (C:Task->Option Res) (q:Nat) (fr:Fr) (σ : S)
def F319:PFun:=⟨1,[.tmp 2],.seq (rn [jj 2 (.mov (.c (.string ⟨#[]⟩)))] [0]) (.seq (rn [mv 4 0,jj 5 (.call 17 [(.t 4),(kk 60)]),mv 3 5] [3]) (.seq (rn [jj 6 (.bslice 6 [eN,eN,eN,eN,eN,eN] [(0,1,(.c (.string ⟨#[]⟩))),(1,1,(.c (.string ⟨#[111,110,32,116,105,99,107,123,118,97,61,49,59,125]⟩))),(2,1,(.c (.string ⟨#[111,110,32,97,99,116,123,120,91,115,101,108,102,93,61,111,116,104,101,114,59,125]⟩))),(3,1,(.c (.string ⟨#[111,110,32,116,105,99,107,123,118,97,61,118,97,43,49,59,105,102,32,118,97,60,51,123,115,116,111,112,59,125,125]⟩))),(4,1,(.c (.string ⟨#[111,110,32,104,105,116,123,97,91,115,101,108,102,93,61,97,91,115,101,108,102,93,43,98,91,111,116,104,101,114,93,59,125,111,110,32,116,105,99,107,123,101,102,102,101,99,116,32,49,44,116,105,99,107,59,125]⟩))),(5,1,(.c (.string ⟨#[111,110,32,97,99,116,123,101,102,102,101,99,116,32,50,44,115,101,108,102,59,125]⟩)))]),mv 7 3,bk 8 .rem 7 6,jj 9 (.indexAddr 1 (.t 6) (.t 8)),l1 10 9,mv 2 10] [2]) (.ret))),false,false,false⟩
@[simp] def F341l0x:PC:=(.seq (.seq (rn [mv 8 5,mv 9 0,ls 10 9,bn 11 .lss 8 10,mv 12 11,jt 13 12 (.mov (.t 5)),jt 14 12 (.bin .lss (.t 13) (kk 12)),jj 15 (.pick (.t 12) (.t 14) kF)] [0,3,4,5,15]) (.cond (.t 15) (.skip) (.exit 0))) (.seq (.block 1 (.seq (rn [mv 18 0,mv 19 5,jj 20 (.indexAddr 1 (.t 18) (.t 19)),l1 21 20,jj 22 (.call 17 [(.t 21),(kk 1000000)]),mv 6 22] [0,3,4,5,6]) (.seq (rn [mv 23 4,mv 24 6,bk 25 .rem 24 9,bn 26 .add 23 25,bk 27 .sub 26 1,mv 4 27] [0,3,4,5,6]) (.seq (rn [mv 28 6,bk 29 .quo 28 9,cl 30 319 [29],mv 7 30] [0,3,4,5,6,7]) (.seq (.seq (rn [mv 31 6,bk 32 .quo 31 54,bk 33 .rem 32 7,bk 34 .eql 33 0] [0,3,4,5,6,7,34]) (.cond (.t 34) (rn [jj 35 (.bslice 4 [eN,eN,eN,eN] [(0,1,(.c (.string ⟨#[111,110,32,116,105,99,107,123]⟩))),(1,1,(.c (.string ⟨#[111,110,32,116,105,99,107,123,118,97,61,116,114,117,101,59,125]⟩))),(2,1,(.c (.string ⟨#[111,110,32,111,110]⟩))),(3,1,(.c (.string ⟨#[111,110,32,116,105,99,107,123,104,105,116,91,48,93,61,49,59,125]⟩)))]),mv 36 6,bk 37 .quo 36 378,bk 38 .rem 37 4,jj 39 (.indexAddr 1 (.t 35) (.t 38)),l1 40 39,mv 7 40] [0,3,4,5,7]) (.skip))) (rn [mv 41 3,mv 42 4,mv 43 7,jj 44 (.build [zN,eN] [(0,1,(.t 42)),(1,1,(.t 43))]),jj 45 (.bslice 1 [zN,eN] [(0,2,(.t 44))]),jj 46 (.append 2 24 (.t 41) (.t 45)),mv 3 46] [0,3,4,5])))))) (rn [mv 16 5,bk 17 .add 16 1,mv 5 17] [0,3,4,5])))
def F341l0:PC:=F341l0x
theorem qbc:run C q F341l0 fr σ = run C q F341l0x fr σ := rfl
def F341:PFun:=⟨1,[.tmp 2],.seq (rn [jj 2 (.mov (.c (.slice none 0 0)))] [0]) (.seq (rn [jj 3 (.mov (.c (.slice none 0 0)))] [0,3]) (.seq (rn [mx 4 (kk 0)] [0,3,4]) (.seq (.seq (rn [mx 5 (kk 0)] [0,3,4,5]) (.block 0 (.loop F341l0))) (.seq (rn [mv 47 3,mv 2 47] [2]) (.ret))))),false,false,false⟩
def F342:PFun:=⟨3,[.cell 6 true 2,.tmp 7],.seq (rn [bx 3 0,jj 6 (.alloc [sN,sN]),mx 7 (kk 0)] [1,2,3,6]) (.seq (.seq (rn [fa 11 0 3,l1 12 11,ls 13 12,bk 14 .gtr 13 8] [1,2,3,6,14]) (.cond (.t 14) (.seq (rn [la 15 2 3,st 2 6 15,mx 7 (kk 2)] [6,7]) (.ret)) (.skip))) (.seq (.seq (rn [fa 16 0 3,l1 17 16,ls 18 17,bk 19 .gtr 18 0,mv 20 19,jt 21 20 (.mov (.t 1)),jt 22 20 (.fieldAddr 0 (.t 3)),jt 23 20 (.load false 1 (.t 22)),jt 24 20 (.fieldAddr 0 (.t 3)),jt 25 20 (.load false 1 (.t 24)),jt 26 20 (.len .sl (.t 25)),jt 27 20 (.bin .sub (.t 26) (kk 1)),jt 28 20 (.indexAddr 1 (.t 23) (.t 27)),jt 29 20 (.load false 1 (.t 28)),jt 30 20 (.bin .leq (.t 21) (.t 29)),jj 31 (.pick (.t 20) (.t 30) kF)] [1,2,3,6,31]) (.cond (.t 31) (.seq (rn [la 32 2 3,st 2 6 32,mx 7 (kk 5)] [6,7]) (.ret)) (.skip))) (.seq (rn [mv 34 2,cl 35 352 [34],mv 33 35,ex 36 33 0,ex 37 33 1,jj 8 (.alloc [sN,zN,zN,zN]),st 4 8 36,mv 9 37] [1,3,6,8,9]) (.seq (.seq (rn [mv 38 9,bk 39 .neq 38 0] [1,3,6,8,9,39]) (.cond (.t 39) (.seq (rn [la 40 2 3,mv 41 9,st 2 6 40,mv 7 41] [6,7]) (.ret)) (.skip))) (.seq (rn [jj 10 (.alloc [sN,sN])] [1,3,6,8,10]) (.seq (rn [fa 42 0 10,l1 43 42,fa 44 0 3,l1 45 44,jj 46 (.append 1 8 (.t 43) (.t 45)),mv 47 1,jj 48 (.bslice 1 [zN] [(0,1,(.t 47))]),jj 49 (.append 1 8 (.t 46) (.t 48)),fa 50 0 10,st 1 50 49] [3,6,8,10]) (.seq (.region (some []) [fa 51 1 10,l1 52 51,fa 53 1 3,l1 54 53,jj 55 (.append 4 48 (.t 52) (.t 54)),⟨some 56,.load true 4 (.t 8),none,[4]⟩,jj 57 (.bslice 1 [sN,zN,zN,zN] [(0,4,(.t 56))]),jj 58 (.append 4 48 (.t 55) (.t 57)),fa 59 1 10,st 1 59 58] [6,10]) (.seq (rn [la 60 2 10,st 2 6 60,mx 7 (kk 0)] [6,7]) (.ret))))))))),false,false,false⟩
@[simp] def F344l0x:PC:=(.seq (.seq (rn [mv 5 4,fa 6 0 1,l1 7 6,ls 8 7,bn 9 .lss 5 8] [1,3,4,9]) (.cond (.t 9) (.skip) (.exit 0))) (.seq (.block 1 (.region (some []) [mv 12 3,fa 13 0 1,l1 14 13,mv 15 4,jj 16 (.indexAddr 1 (.t 14) (.t 15)),l1 17 16,jj 18 (.bslice 1 [zN] [(0,1,(.t 17))]),jj 19 (.append 1 8 (.t 12) (.t 18)),fa 20 1 1,⟨some 21,.load false 1 (.t 20),none,[7]⟩,mv 22 4,jj 23 (.indexAddr 4 (.t 21) (.t 22)),⟨some 24,.load true 4 (.t 23),none,[7]⟩,cl 25 349 [24],jj 26 (.bslice 1 [zN] [(0,1,(.t 25))]),jj 27 (.append 1 8 (.t 19) (.t 26)),mv 3 27] [1,3,4] [13])) (rn [mv 10 4,bk 11 .add 10 1,mv 4 11] [1,3,4])))
def F344l0:PC:=F344l0x
def F344:PFun:=⟨1,[.tmp 2],.seq (rn [bx 1 0,jj 2 (.mov (.c (.int .u64 0)))] [1]) (.seq (rn [jj 3 (.mov (.c (.slice none 0 0)))] [1,3]) (.seq (.seq (rn [mx 4 (kk 0)] [1,3,4]) (.block 0 (.loop F344l0))) (.seq (rn [mv 28 3,jj 29 (.call 70 [(.c (.string ⟨#[98,111,111,107]⟩)),(.t 28)]),mv 2 29] [2]) (.ret)))),false,false,false⟩
@[simp] def F345l0x:PC:=(.seq (.seq (rn [mv 8 7,fa 9 0 2,l1 10 9,ls 11 10,bn 12 .lss 8 11] [1,2,5,6,7,12]) (.cond (.t 12) (.skip) (.exit 0))) (.seq (.block 1 (.seq (rn [fa 15 0 2,l1 16 15,mv 17 7,jj 18 (.indexAddr 1 (.t 16) (.t 17)),l1 19 18,mv 20 1,bn 21 .leq 19 20] [1,2,5,6,7,21]) (.cond (.t 21) (rn [mv 22 7,mv 6 22] [1,2,5,6,7]) (.skip)))) (rn [mv 13 7,bk 14 .add 13 1,mv 7 14] [1,2,5,6,7])))
def F345l0:PC:=F345l0x
def F345:PFun:=⟨2,[.tmp 4,.cell 5 true 4],.seq (rn [bx 2 0,mx 4 (kk 0),jj 5 (.alloc [sN,zN,zN,zN])] [1,2,5]) (.seq (rn [mx 6 (kk 0)] [1,2,5,6]) (.seq (.seq (rn [mx 7 (kk 0)] [1,2,5,6,7]) (.block 0 (.loop F345l0))) (.seq (.region (some []) [mv 23 6,fa 24 1 2,l1 25 24,mv 26 6,jj 27 (.indexAddr 4 (.t 25) (.t 26)),la 28 4 27,mv 4 23,st 4 5 28] [4,5]) (.ret)))),false,false,false⟩
@[simp] def F346l0x:PC:=(.seq (.seq (rn [mv 20 5,fa 21 0 2,l1 22 21,ls 23 22,bn 24 .lss 20 23] [2,3,5,24]) (.cond (.t 24) (.skip) (.exit 0))) (.seq (.block 1 (.seq (.region (some []) [fa 27 0 2,l1 28 27,mv 29 5,jj 30 (.indexAddr 2 (.t 28) (.t 29)),la 31 2 30,fa 32 0 3,l1 33 32,mv 34 5,jj 35 (.indexAddr 2 (.t 33) (.t 34)),la 36 2 35,jj 37 (.eqa true [.i,.i] (.t 31) (.t 36))] [2,3,5,37]) (.cond (.t 37) (.seq (rn [mx 4 kF] [4]) (.ret)) (.skip)))) (rn [mv 25 5,bk 26 .add 25 1,mv 5 26] [2,3,5])))
def F346l0:PC:=F346l0x
def F346:PFun:=⟨2,[.tmp 4],.seq (rn [bx 2 0,bx 3 1,mx 4 kF] [2,3]) (.seq (.seq (rn [fa 6 1 2,la 7 3 6,fa 8 1 3,la 9 3 8,jj 10 (.eqa true [.i,.i,.i] (.t 7) (.t 9)),mv 11 10,jf 12 11 (.fieldAddr 0 (.t 2)),jf 13 11 (.load false 1 (.t 12)),jf 14 11 (.len .sl (.t 13)),jf 15 11 (.fieldAddr 0 (.t 3)),jf 16 11 (.load false 1 (.t 15)),jf 17 11 (.len .sl (.t 16)),jf 18 11 (.bin .neq (.t 14) (.t 17)),jj 19 (.pick (.t 11) kT (.t 18))] [2,3,19]) (.cond (.t 19) (.seq (rn [mx 4 kF] [4]) (.ret)) (.skip))) (.seq (.seq (rn [mx 5 (kk 0)] [2,3,5]) (.block 0 (.loop F346l0))) (.seq (rn [mx 4 kT] [4]) (.ret)))),false,false,false⟩
@[simp] def F349l0x:PC:=(.seq (.seq (rn [mv 15 4,fa 16 0 1,l1 17 16,ls 18 17,bn 19 .lss 15 18] [1,3,4,19]) (.cond (.t 19) (.skip) (.exit 0))) (.seq (.block 1 (.region (some []) [mv 22 3,fa 23 0 1,l1 24 23,mv 25 4,jj 26 (.indexAddr 2 (.t 24) (.t 25)),fa 27 0 26,l1 28 27,jj 29 (.bslice 1 [zN] [(0,1,(.t 28))]),jj 30 (.append 1 8 (.t 22) (.t 29)),fa 31 0 1,⟨some 32,.load false 1 (.t 31),none,[8]⟩,mv 33 4,jj 34 (.indexAddr 2 (.t 32) (.t 33)),fa 35 1 34,⟨some 36,.load false 1 (.t 35),none,[8]⟩,jj 37 (.bslice 1 [zN] [(0,1,(.t 36))]),jj 38 (.append 1 8 (.t 30) (.t 37)),mv 3 38] [1,3,4])) (rn [mv 20 4,bk 21 .add 20 1,mv 4 21] [1,3,4])))
def F349l0:PC:=F349l0x
def F349:PFun:=⟨1,[.tmp 2],.seq (rn [bx 1 0,mx 2 (kk 0)] [1]) (.seq (rn [fa 5 1 1,jj 6 (.indexAddrA 3 1 (.t 5) (kk 0)),l1 7 6,fa 8 1 1,jj 9 (.indexAddrA 3 1 (.t 8) (kk 1)),l1 10 9,fa 11 1 1,jj 12 (.indexAddrA 3 1 (.t 11) (kk 2)),l1 13 12,jj 14 (.bslice 3 [zN,zN,zN] [(0,1,(.t 7)),(1,1,(.t 10)),(2,1,(.t 13))]),mv 3 14] [1,3]) (.seq (.seq (rn [mx 4 (kk 0)] [1,3,4]) (.block 0 (.loop F349l0))) (.seq (rn [mv 39 3,jj 40 (.call 70 [(.c (.string ⟨#[112,114,111,103,114,97,109]⟩)),(.t 39)]),jj 41 (.conv (.int .i64) (.t 40)),mv 2 41] [2]) (.ret)))),false,false,false⟩
end Go.Pm.F
end SF7r
section SFLaw17
namespace Go.Pm.F
variable (C:Task->Option Res) (q:Nat) (fr:Fr) (σ : S)
def F321:PFun:=⟨0,[.tmp 0],.seq (rn [mx 0 kF] []) (.seq (rn [jj 9 (.call 317 [(.c (.string ⟨#[]⟩))]),mv 8 9,ex 10 8 0,ex 11 8 1,mv 1 10,mv 2 11] [1,2]) (.seq (.seq (rn [mv 12 1,jj 13 (.isnil true false (.t 12)),mv 14 13,jf 15 14 (.mov (.t 2)),jf 16 14 (.bin .neq (.t 15) (kk 0)),jj 17 (.pick (.t 14) kT (.t 16))] [1,17]) (.cond (.t 17) (.seq (rn [mx 0 kF] [0]) (.ret)) (.skip))) (.seq (rn [mv 18 1,jj 19 (.call 318 [(.t 18),(kk 10),(.c (.string ⟨#[111,110,32,116,105,99,107,32,123,32,97,49,32,61,32,49,59,32,125]⟩))]),mv 3 19] [1,3]) (.seq (rn [mv 21 1,jj 22 (.call 323 [(.t 21),(kk 9)]),mv 20 22,ex 23 20 0,ex 24 20 1,jj 5 (.alloc [sN,zN,zN,zN]),mv 4 23,st 4 5 24] [1,3,4,5]) (.seq (rn [mv 26 1,jj 27 (.call 323 [(.t 26),(kk 10)]),mv 25 27,ex 28 25 0,ex 29 25 1,jj 7 (.alloc [sN,zN,zN,zN]),mv 6 28,st 4 7 29] [1,3,4,5,6,7]) (.seq (rn [mv 30 3,bk 31 .eql 30 0,mv 32 31,jt 33 32 (.mov (.t 4)),jt 34 32 (.bin .eql (.t 33) (kk 0)),jj 35 (.pick (.t 32) (.t 34) kF),mv 36 35,jt 37 36 (.mov (.t 6)),jt 38 36 (.bin .eql (.t 37) (kk 1)),jj 39 (.pick (.t 36) (.t 38) kF),mv 40 39,jt 41 40 (.fieldAddr 0 (.t 5)),jt 42 40 (.load false 1 (.t 41)),jt 43 40 (.len .sl (.t 42)),jt 44 40 (.bin .eql (.t 43) (kk 0)),jj 45 (.pick (.t 40) (.t 44) kF),mv 46 45,jt 47 46 (.fieldAddr 0 (.t 7)),jt 48 46 (.load false 1 (.t 47)),jt 49 46 (.len .sl (.t 48)),jt 50 46 (.bin .gtr (.t 49) (kk 0)),jj 51 (.pick (.t 46) (.t 50) kF),mv 52 51,jt 53 52 (.mov (.t 1)),jt 54 52 (.call 320 [(.t 53)]),jt 55 52 (.bslice 2 [zN,zN] [(0,1,(kk 0)),(1,1,(kk 10))]),jt 56 52 (.call 58 [(.t 54),(.t 55)]),jj 57 (.pick (.t 52) (.t 56) kF),mv 0 57] [0]) (.ret))))))),false,false,false⟩
def F334:PFun:=⟨6,[.tmp 12],.seq (rn [mx 12 kF] [0,1,2,3,4,5]) (.seq (rn [mv 20 0,mv 21 1,cl 22 347 [20,21],mv 13 22] [0,1,2,3,4,5,13]) (.seq (rn [mv 23 0,mv 24 1,cl 25 347 [23,24],mv 14 25] [0,1,2,3,4,5,13,14]) (.seq (rn [mv 26 0,mv 27 1,cl 28 347 [26,27],mv 15 28] [2,3,4,5,13,14,15]) (.seq (.seq (rn [mv 29 13,jj 30 (.isnil true false (.t 29)),mv 31 30,jf 32 31 (.mov (.t 14)),jf 33 31 (.isnil true false (.t 32)),jj 34 (.pick (.t 31) kT (.t 33)),mv 35 34,jf 36 35 (.mov (.t 15)),jf 37 35 (.isnil true false (.t 36)),jj 38 (.pick (.t 35) kT (.t 37))] [2,3,4,5,13,14,15,38]) (.cond (.t 38) (.seq (rn [mx 12 kF] [12]) (.ret)) (.skip))) (.seq (.seq (rn [mv 39 13,cl 40 320 [39],ls 41 40,bk 42 .gtr 41 8] [2,3,4,5,13,14,15,42]) (.cond (.t 42) (.seq (rn [jj 43 (.call 321 []),mv 12 43] [12]) (.ret)) (.skip))) (.seq (rn [mv 44 2,jj 45 (.call 17 [(.t 44),(kk 50)]),jj 46 (.bin .add (kk 100) (.t 45)),mv 16 46] [3,4,5,13,14,15,16]) (.seq (rn [mv 47 3,jj 48 (.call 17 [(.t 47),(kk 50)]),jj 49 (.bin .add (kk 100) (.t 48)),mv 17 49] [4,5,13,14,15,16,17]) (.seq (rn [mv 50 4,jj 51 (.call 17 [(.t 50),(kk 30)]),cl 52 20 [51],jj 53 (.bin .add (.c (.string ⟨#[111,110,32,116,105,99,107,123,118,97,61]⟩)) (.t 52)),jj 54 (.bin .add (.t 53) (.c (.string ⟨#[59,125]⟩))),mv 18 54] [5,13,14,15,16,17,18]) (.seq (rn [mv 55 5,jj 56 (.call 17 [(.t 55),(kk 30)]),cl 57 20 [56],jj 58 (.bin .add (.c (.string ⟨#[111,110,32,116,105,99,107,123,118,97,61]⟩)) (.t 57)),jj 59 (.bin .add (.t 58) (.c (.string ⟨#[59,125]⟩))),mv 19 59] [13,14,15,16,17,18,19]) (.seq (.seq (rn [mv 60 13,mv 61 16,mv 62 18,cl 63 318 [60,61,62],bk 64 .neq 63 0,mv 65 64,jf 66 65 (.mov (.t 14)),jf 67 65 (.mov (.t 17)),jf 68 65 (.mov (.t 18)),jf 69 65 (.call 318 [(.t 66),(.t 67),(.t 68)]),jf 70 65 (.bin .neq (.t 69) (kk 0)),jj 71 (.pick (.t 65) kT (.t 70)),mv 72 71,jf 73 72 (.mov (.t 15)),jf 74 72 (.mov (.t 16)),jf 75 72 (.mov (.t 19)),jf 76 72 (.call 318 [(.t 73),(.t 74),(.t 75)]),jf 77 72 (.bin .neq (.t 76) (kk 0)),jj 78 (.pick (.t 72) kT (.t 77))] [13,14,15,16,17,18,19,78]) (.cond (.t 78) (.seq (rn [mx 12 kF] [12]) (.ret)) (.skip))) (.seq (rn [mv 79 13,cl 80 343 [79],mv 81 14,cl 82 343 [81],bn 83 .eql 80 82,mv 84 16,mv 85 17,bn 86 .eql 84 85,jj 87 (.eqb false (.t 83) (.t 86)),mv 88 87,jt 89 88 (.mov (.t 13)),jt 90 88 (.call 343 [(.t 89)]),jt 91 88 (.mov (.t 15)),jt 92 88 (.call 343 [(.t 91)]),jt 93 88 (.bin .eql (.t 90) (.t 92)),jt 94 88 (.mov (.t 18)),jt 95 88 (.mov (.t 19)),jt 96 88 (.bin .eql (.t 94) (.t 95)),jt 97 88 (.eqb false (.t 93) (.t 96)),jj 98 (.pick (.t 88) (.t 97) kF),mv 99 98,jt 100 99 (.call 321 []),jj 101 (.pick (.t 99) (.t 100) kF),mv 12 101] [12]) (.ret)))))))))))),false,false,false⟩
@[simp] def F347l0x:PC:=(.seq (.seq (rn [mv 23 8,mv 24 7,ls 25 24,bn 26 .lss 23 25] [5,7,8,26]) (.cond (.t 26) (.skip) (.exit 0))) (.seq (.block 1 (.region (some []) [mv 29 5,mv 30 7,mv 31 8,jj 32 (.indexAddr 2 (.t 30) (.t 31)),fa 33 0 32,l1 34 33,mv 35 7,mv 36 8,jj 37 (.indexAddr 2 (.t 35) (.t 36)),fa 38 1 37,l1 39 38,cl 40 318 [29,34,39]] [5,7,8] [11])) (rn [mv 27 8,bk 28 .add 27 1,mv 8 28] [5,7,8])))
def F347l0:PC:=F347l0x
theorem qdE:run C q F347l0 fr σ = run C q F347l0x fr σ := rfl
def F347:PFun:=⟨2,[.tmp 4],.seq (rn [jj 4 (.mov (.c (.pointer none)))] [0,1]) (.seq (rn [mv 10 0,cl 11 319 [10],cl 12 317 [11],mv 9 12,ex 13 9 0,ex 14 9 1,mv 5 13,mv 6 14] [1,5,6]) (.seq (.seq (rn [mv 15 5,jj 16 (.isnil true false (.t 15)),mv 17 16,jf 18 17 (.mov (.t 6)),jf 19 17 (.bin .neq (.t 18) (kk 0)),jj 20 (.pick (.t 17) kT (.t 19))] [1,5,20]) (.cond (.t 20) (.seq (rn [jj 4 (.mov (.c (.pointer none)))] [4]) (.ret)) (.skip))) (.seq (rn [mv 21 1,cl 22 341 [21],mv 7 22] [5,7]) (.seq (.seq (rn [mx 8 (kk 0)] [5,7,8]) (.block 0 (.loop F347l0))) (.seq (rn [mv 41 5,mv 4 41] [4]) (.ret)))))),false,false,false⟩
end Go.Pm.F
end SFLaw17
section SFh
namespace Go.Pm.F
variable (C:Task->Option Res) (q:Nat) (fr:Fr) (σ : S)
@[simp] def F109l0x:PC:=(.seq (rn [bn 15 .lss 14 13] [5,12,13,14,15]) (.seq (.cond (.t 15) (.skip) (.exit 0)) (.seq (.block 1 (.seq (rn [jj 16 (.indexAddr 1 (.t 12) (.t 14)),l1 17 16,mv 7 17] [5,7,12,13,14]) (rn [mv 18 5,mv 19 7,jj 20 (.conv (.int .u64) (.t 19)),cl 21 111 [18,20],mv 5 21] [5,12,13,14]))) (rn [bk 22 .add 14 1,mv 14 22] [5,12,13,14]))))
def F109l0:PC:=F109l0x
theorem qeS:run C q F109l0 fr σ = run C q F109l0x fr σ := rfl
def F109:PFun:=⟨2,[.tmp 4],.seq (rn [jj 4 (.mov (.c (.int .u64 0)))] [0,1]) (.seq (rn [mv 8 0,mv 9 1,ls 10 9,cl 11 110 [8,10],mv 5 11] [1,5]) (.seq (.seq (rn [mv 12 1,ls 13 12,mx 14 (kk 0)] [5,12,13,14]) (.block 0 (.loop F109l0))) (.seq (rn [mv 23 5,jj 24 (.call 111 [(.t 23),(.c (.int .u64 0))]),mv 4 24] [4]) (.ret)))),false,false,false⟩
@[simp] def F110a0x:PC:=(rn [mv 6 9] [5,6])
def F110a0:PC:=F110a0x
@[simp] def F110b0x:PC:=(.block 1 (rn [l1 10 5,mv 11 6,cl 12 111 [10,11],st 1 5 12] []))
def F110b0:PC:=F110b0x
def F110:PFun:=⟨2,[.tmp 4],.seq (rn [jj 4 (.mov (.c (.int .u64 0)))] [0,1]) (.seq (rn [jj 5 (.alloc [(.lit (.int .u64 0))])] [0,1,5]) (.seq (.seq (rn [mv 7 0,cl 8 112 [7]] [0,1,5,8]) (.block 0 (.range (.t 8) [9] F110a0 F110b0))) (.seq (rn [l1 13 5,mv 14 0,lz 15 14,jj 16 (.conv (.int .u64) (.t 15)),cl 17 111 [13,16],mv 18 1,jj 19 (.conv (.int .u64) (.t 18)),cl 20 111 [17,19],mv 4 20] [4]) (.ret)))),false,false,false⟩
def F111:PFun:=⟨2,[.tmp 4],.seq (rn [jj 4 (.mov (.c (.int .u64 0)))] [0,1]) (.seq (rn [mv 6 0,mv 7 1,bn 8 .xor 6 7,jj 9 (.bin .mul (.t 8) (.c (.int .u64 11400714819323198485))),mv 5 9] [5]) (.seq (rn [mv 10 5,mv 11 5,jj 12 (.bin .shr (.t 11) (.c (.int .u64 32))),bn 13 .xor 10 12,mv 4 13] [4]) (.ret))),false,false,false⟩
def F112:PFun:=⟨1,[.tmp 2],.seq (rn [bx 1 0,jj 2 (.mov (.c .nilFunc))] [1]) (.seq (rn [jj 3 (.mkfn 113 [] [(.t 1)]),mv 2 3] [2]) (.ret)),false,false,false⟩
@[simp] def F113l1x:PC:=(.seq (.seq (rn [mv 12 5,bk 13 .lss 12 8,mv 14 13,jt 15 14 (.mov (.t 3)),jt 16 14 (.mov (.t 5)),jt 17 14 (.bin .add (.t 15) (.t 16)),jt 18 14 (.load false 1 (.t 1)),jt 19 14 (.len .str (.t 18)),jt 20 14 (.bin .lss (.t 17) (.t 19)),jj 21 (.pick (.t 14) (.t 20) kF)] [0,1,3,4,5,21]) (.cond (.t 21) (.skip) (.exit 2))) (.seq (.block 3 (rn [mv 24 4,l1 25 1,mv 26 3,mv 27 5,bn 28 .add 26 27,jj 29 (.indexS (.t 25) (.t 28)),jj 30 (.conv (.int .u64) (.t 29)),mv 31 5,jj 32 (.bin .mul (kk 8) (.t 31)),bn 33 .shl 30 32,bn 34 .or 24 33,mv 4 34] [0,1,3,4,5])) (rn [mv 22 5,bk 23 .add 22 1,mv 5 23] [0,1,3,4,5])))
def F113l1:PC:=F113l1x
@[simp] def F113l0x:PC:=(.seq (.seq (rn [mv 6 3,l1 7 1,lz 8 7,bn 9 .lss 6 8] [0,1,3,9]) (.cond (.t 9) (.skip) (.exit 0))) (.seq (.block 1 (.seq (rn [jj 4 (.mov (.c (.int .u64 0)))] [0,1,3,4]) (.seq (.seq (rn [mx 5 (kk 0)] [0,1,3,4,5]) (.block 2 (.loop F113l1))) (.seq (rn [mv 35 0,mv 36 4,jj 37 (.callv (.t 35) [(.t 36)]),jj 38 (.un .not (.t 37))] [0,1,3,38]) (.cond (.t 38) (.ret) (.skip)))))) (rn [mv 10 3,bk 11 .add 10 8,mv 3 11] [0,1,3])))
def F113l0:PC:=F113l0x
def F113:PFun:=⟨2,[],.seq (rn [mx 3 (kk 0)] [0,1,3]) (.block 0 (.loop F113l0)),false,false,false⟩
end Go.Pm.F
end SFh
section SFm
namespace Go.Pm.F
variable (C:Task->Option Res) (q:Nat) (fr:Fr) (σ : S)
@[simp] def F46l0x:PC:=(.seq (rn [bn 13 .lss 12 11] [0,3,11,12,13]) (.seq (.cond (.t 13) (.skip) (.exit 0)) (.seq (.block 1 (.seq (rn [mv 14 12,mv 4 14] [0,3,4,11,12]) (.region (some []) [mv 15 3,nc 16 15,fa 17 0 16,l1 18 17,mv 19 4,mv 20 0,mv 21 4,jj 22 (.indexAddr 1 (.t 20) (.t 21)),l1 23 22,jj 24 (.indexAddr 1 (.t 18) (.t 19)),st 1 24 23] [0,3,11,12]))) (rn [bk 25 .add 12 1,mv 12 25] [0,3,11,12]))))
@[simp] def F59l0x:PC:=(.seq (rn [bn 11 .lss 10 9] [0,3,9,10,11]) (.seq (.cond (.t 11) (.skip) (.exit 0)) (.seq (.block 1 (.seq (rn [mv 12 10,mv 4 12] [0,3,4,9,10]) (rn [mv 13 3,mv 14 4,mv 15 0,mv 16 4,cl 17 51 [15,16],jj 18 (.indexAddr 1 (.t 13) (.t 14)),st 1 18 17] [0,3,9,10]))) (rn [bk 19 .add 10 1,mv 10 19] [0,3,9,10]))))
end Go.Pm.F
end SFm
section SFx
namespace Go.Pm.F
variable (C:Task->Option Res) (q:Nat) (fr:Fr) (σ : S)
def F268:PFun:=⟨2,[.tmp 4],.seq (rn [mx 4 (kk 0)] [0,1]) (.seq (rn [mv 5 0,mv 6 1,cl 7 275 [5,6],mv 4 7] [4]) (.ret)),false,false,false⟩
def F275:PFun:=⟨2,[.tmp 4],.seq (rn [mx 4 (kk 0)] [0,1]) (.seq (rn [mv 5 0,mv 6 1,jj 7 (.idxb (.t 5) (.t 6)),mv 4 7] [4]) (.ret)),false,false,false⟩
def F276:PFun:=⟨2,[.tmp 4],.seq (rn [mx 4 kF] [0,1]) (.seq (rn [mv 5 0,mv 6 1,cl 7 284 [5,6],bk 8 .geq 7 0,mv 4 8] [4]) (.ret)),false,false,false⟩
@[simp] def F284l0x:PC:=(.seq (rn [bn 9 .lss 8 7] [0,1,7,8,9]) (.seq (.cond (.t 9) (.skip) (.exit 0)) (.seq (.block 1 (.seq (rn [mv 10 8,mv 5 10] [0,1,5,7,8]) (.seq (rn [mv 11 1,mv 12 0,mv 13 5,jj 14 (.indexAddr 1 (.t 12) (.t 13)),l1 15 14,bn 16 .eql 11 15] [0,1,5,7,8,16]) (.cond (.t 16) (.seq (rn [mv 17 5,mv 4 17] [4]) (.ret)) (.skip))))) (rn [bk 18 .add 8 1,mv 8 18] [0,1,7,8]))))
def F284l0:PC:=F284l0x
def F284:PFun:=⟨2,[.tmp 4],.seq (rn [mx 4 (kk 0)] [0,1]) (.seq (.seq (rn [mv 6 0,ls 7 6,mx 8 (kk 0)] [0,1,7,8]) (.block 0 (.loop F284l0))) (.seq (rn [mx 4 (kk (-1))] [4]) (.ret))),false,false,false⟩
end Go.Pm.F
end SFx
section SFxp
namespace Go.Pm.F
variable (C:Task->Option Res) (q:Nat) (fr:Fr) (σ : S)
@[simp] def F329l0x:PC:=(.seq (.seq (rn [mv 9 5,mv 10 6,bn 11 .lss 9 10] [1,5,6,11]) (.cond (.t 11) (.skip) (.exit 0))) (.block 1 (.seq (rn [mv 12 5,mv 13 6,bn 14 .add 12 13,jj 15 (.conv (.int .u64) (.t 14)),jj 16 (.bin .shr (.t 15) (.c (.int .u64 1))),jj 17 (.conv (.int .i64) (.t 16)),mv 7 17] [1,5,6,7]) (.seq (rn [mv 18 1,mv 19 7,jj 20 (.callv (.t 18) [(.t 19)]),jj 21 (.un .not (.t 20))] [1,5,6,7,21]) (.cond (.t 21) (rn [mv 22 7,bk 23 .add 22 1,mv 5 23] [1,5,6]) (rn [mv 24 7,mv 6 24] [1,5,6]))))))
def F329l0:PC:=F329l0x
def F329:PFun:=⟨2,[.tmp 4],.seq (rn [mx 4 (kk 0)] [0,1]) (.seq (rn [mv 8 0,mx 5 (kk 0),mv 6 8] [1,5,6]) (.seq (.block 0 (.loop F329l0)) (.seq (rn [mv 25 5,mv 4 25] [4]) (.ret)))),false,false,false⟩
def F331:PFun:=⟨1,[.tmp 2],.seq (rn [jj 2 (.mov (.c (.slice none 0 0)))] [0]) (.seq (.seq (rn [mv 3 0,jj 4 (.isnils false (.t 3))] [0,4]) (.cond (.t 4) (.seq (rn [jj 2 (.mov (.c (.slice none 0 0)))] [2]) (.ret)) (.skip))) (.seq (rn [jj 5 (.bslice 0 [] []),mv 6 0,jj 7 (.append 2 16 (.t 5) (.t 6)),mv 2 7] [2]) (.ret))),false,false,false⟩
end Go.Pm.F
end SFxp
section STb17z
namespace Go.Pm.F
def prog17z:Nat->Option PFun
 | 12=>some F12
 | 15=>some F15
 | 17=>some F17
 | 20=>some F20
 | 26=>some F26
 | 27=>some F27
 | 30=>some F30
 | 32=>some F32
 | 35=>some F35
 | 37=>some F37
 | 38=>some F38
 | 39=>some F39
 | 58=>some F58
 | 109=>some F109
 | 110=>some F110
 | 111=>some F111
 | 112=>some F112
 | 113=>some F113
 | 131=>some F131
 | 134=>some F134
 | 139=>some F139
 | 140=>some F140
 | 147=>some F147
 | 148=>some F148
 | 164=>some F164
 | 165=>some F165
 | 166=>some F166
 | 167=>some F167
 | 168=>some F168
 | 169=>some F169
 | 180=>some F180
 | 181=>some F181
 | 182=>some F182
 | 183=>some F183
 | 184=>some F184
 | 185=>some F185
 | 186=>some F186
 | 187=>some F187
 | 188=>some F188
 | 189=>some F189
 | 190=>some F190
 | 191=>some F191
 | 200=>some F200
 | 201=>some F201
 | 204=>some F204
 | 228=>some F228
 | 239=>some F239
 | 240=>some F240
 | 241=>some F241
 | 242=>some F242
 | 249=>some F249
 | 250=>some F250
 | 251=>some F251
 | 252=>some F252
 | 253=>some F253
 | 254=>some F254
 | 255=>some F255
 | 256=>some F256
 | 264=>some F264
 | 265=>some F265
 | 266=>some F266
 | 267=>some F267
 | 268=>some F268
 | 269=>some F269
 | 270=>some F270
 | 271=>some F271
 | 275=>some F275
 | 276=>some F276
 | 277=>some F277
 | 278=>some F278
 | 279=>some F279
 | 280=>some F280
 | 281=>some F281
 | 284=>some F284
 | 285=>some F285
 | 286=>some F286
 | 287=>some F287
 | 289=>some F289
 | 290=>some F290
 | 292=>some F292
 | 297=>some F297
 | 303=>some F303
 | 304=>some F304
 | 307=>some F307
 | 308=>some F308
 | 309=>some F309
 | 317=>some F317
 | 318=>some F318
 | 319=>some F319
 | 320=>some F320
 | 321=>some F321
 | 322=>some F322
 | 323=>some F323
 | 324=>some F324
 | 325=>some F325
 | 326=>some F326
 | 327=>some F327
 | 328=>some F328
 | 329=>some F329
 | 330=>some F330
 | 331=>some F331
 | 334=>some F334
 | 341=>some F341
 | 343=>some F343
 | 347=>some F347
 | 353=>some F353
 | _=>none
end Go.Pm.F
end STb17z
section STB
namespace Go.Pm.F
def tB:Nat->Option PFun
 | 12=>some F12
 | 15=>some F15
 | 26=>some F26
 | 27=>some F27
 | 30=>some F30
 | 32=>some F32
 | 35=>some F35
 | 37=>some F37
 | 38=>some F38
 | 39=>some F39
 | 131=>some F131
 | 134=>some F134
 | 139=>some F139
 | 140=>some F140
 | 147=>some F147
 | 148=>some F148
 | 164=>some F164
 | 165=>some F165
 | 166=>some F166
 | 167=>some F167
 | 168=>some F168
 | 169=>some F169
 | 180=>some F180
 | 181=>some F181
 | 182=>some F182
 | 183=>some F183
 | 184=>some F184
 | 185=>some F185
 | 186=>some F186
 | 187=>some F187
 | 188=>some F188
 | 189=>some F189
 | 190=>some F190
 | 191=>some F191
 | 200=>some F200
 | 201=>some F201
 | 204=>some F204
 | 228=>some F228
 | 239=>some F239
 | 240=>some F240
 | 241=>some F241
 | 242=>some F242
 | 249=>some F249
 | 250=>some F250
 | 251=>some F251
 | 252=>some F252
 | 253=>some F253
 | 254=>some F254
 | 255=>some F255
 | 256=>some F256
 | 264=>some F264
 | 265=>some F265
 | 266=>some F266
 | 267=>some F267
 | 268=>some F268
 | 269=>some F269
 | 270=>some F270
 | 271=>some F271
 | 275=>some F275
 | 276=>some F276
 | 277=>some F277
 | 278=>some F278
 | 279=>some F279
 | 280=>some F280
 | 281=>some F281
 | 284=>some F284
 | 285=>some F285
 | 286=>some F286
 | 287=>some F287
 | 289=>some F289
 | 290=>some F290
 | 292=>some F292
 | 297=>some F297
 | 303=>some F303
 | 304=>some F304
 | 307=>some F307
 | 308=>some F308
 | 309=>some F309
 | 317=>some F317
 | 318=>some F318
 | 320=>some F320
 | 322=>some F322
 | 324=>some F324
 | 325=>some F325
 | 326=>some F326
 | 327=>some F327
 | 328=>some F328
 | _=>none
end Go.Pm.F
end STB
section SZa
namespace Go.Pm
open F
def srcB:Nat->ByteArray
 | 0=>⟨#[]⟩
 | 1=>⟨#[111,110,32,116,105,99,107,123,118,97,61,49,59,125]⟩
 | 2=>⟨#[111,110,32,97,99,116,123,120,91,115,101,108,102,93,61,111,116,104,101,114,59,125]⟩
 | 3=>⟨#[111,110,32,116,105,99,107,123,118,97,61,118,97,43,49,59,105,102,32,118,97,60,51,123,115,116,111,112,59,125,125]⟩
 | 4=>⟨#[111,110,32,104,105,116,123,97,91,115,101,108,102,93,61,97,91,115,101,108,102,93,43,98,91,111,116,104,101,114,93,59,125,111,110,32,116,105,99,107,123,101,102,102,101,99,116,32,49,44,116,105,99,107,59,125]⟩
 | 5=>⟨#[111,110,32,97,99,116,123,101,102,102,101,99,116,32,50,44,115,101,108,102,59,125]⟩
 | 6=>⟨#[111,110,32,116,105,99,107,123]⟩
 | 7=>⟨#[111,110,32,116,105,99,107,123,118,97,61,116,114,117,101,59,125]⟩
 | 8=>⟨#[111,110,32,111,110]⟩
 | _=>⟨#[111,110,32,116,105,99,107,123,104,105,116,91,48,93,61,49,59,125]⟩
def qls:Nat->List Int
 | 1=>[1,1,3,0,21,0]
 | 2=>[6,0,7,0,5,0,21,0]
 | 3=>[2,0,1,1,9,0,3,0,2,0,1,3,14,0,19,10,21,0,18,10,21,0]
 | 4=>[1,1,8,0,20,0,21,0,6,0,6,0,4,4,7,0,4,5,9,0,5,4,21,0]
 | 5=>[1,2,6,0,20,0,21,0]
 | _=>[]
def qkg:Nat->Int × Int × Int
 | 0=>(-1,-1,-1)
 | 1=>(-1,0,-1)
 | 2=>(0,-1,-1)
 | 3=>(-1,0,-1)
 | 4=>(-1,0,4)
 | 5=>(0,-1,-1)
 | _=>(0,0,0)
def qf8:Nat->Int
 | 0=>0
 | 1=>0
 | 2=>0
 | 3=>0
 | 4=>0
 | 5=>0
 | 6=>12
 | 7=>13
 | 8=>12
 | _=>13
def qhs (l:List Int):D:=match l with
 | [] => .lit (.slice none 0 0)
 | x::r => .sl (intsC (x::r)) ((x::r).length / 2) false
abbrev qhF (i:Nat):V := .dat (.agg [qhs (qls i),.lit (.int .i64 (qkg i).1),.lit (.int .i64 (qkg i).2.1),.lit (.int .i64 (qkg i).2.2)])
theorem qky:Z tB (.call 322 [.str (srcB 0)] [])=some (.ret (.tup [qhF 0,.int (qf8 0)]) []):=qaR (n:=3000) (by kernel_rfl)
theorem qkz:Z tB (.call 322 [.str (srcB 1)] [])=some (.ret (.tup [qhF 1,.int (qf8 1)]) []):=qaR (n:=3000) (by kernel_rfl)
theorem qkA:Z tB (.call 322 [.str (srcB 2)] [])=some (.ret (.tup [qhF 2,.int (qf8 2)]) []):=qaR (n:=3000) (by kernel_rfl)
theorem qkB:Z tB (.call 322 [.str (srcB 3)] [])=some (.ret (.tup [qhF 3,.int (qf8 3)]) []):=qaR (n:=3000) (by kernel_rfl)
theorem qkC:Z tB (.call 322 [.str (srcB 4)] [])=some (.ret (.tup [qhF 4,.int (qf8 4)]) []):=qaR (n:=3000) (by kernel_rfl)
theorem qkD:Z tB (.call 322 [.str (srcB 5)] [])=some (.ret (.tup [qhF 5,.int (qf8 5)]) []):=qaR (n:=3000) (by kernel_rfl)
theorem qkE:Z tB (.call 322 [.str (srcB 6)] [])=some (.ret (.tup [qhF 6,.int (qf8 6)]) []):=qaR (n:=3000) (by kernel_rfl)
theorem qkF:Z tB (.call 322 [.str (srcB 7)] [])=some (.ret (.tup [qhF 7,.int (qf8 7)]) []):=qaR (n:=3000) (by kernel_rfl)
theorem qkG:Z tB (.call 322 [.str (srcB 8)] [])=some (.ret (.tup [qhF 8,.int (qf8 8)]) []):=qaR (n:=3000) (by kernel_rfl)
theorem qkH:Z tB (.call 322 [.str (srcB 9)] [])=some (.ret (.tup [qhF 9,.int (qf8 9)]) []):=qaR (n:=3000) (by kernel_rfl)
theorem qgI : ∀ i,i<10->Z tB (.call 322 [.str (srcB i)] [])=some (.ret (.tup [qhF i,.int (qf8 i)]) [])
 | 0,_=>qky
 | 1,_=>qkz
 | 2,_=>qkA
 | 3,_=>qkB
 | 4,_=>qkC
 | 5,_=>qkD
 | 6,_=>qkE
 | 7,_=>qkF
 | 8,_=>qkG
 | 9,_=>qkH
 | _+10,h=>by omega
end Go.Pm
end SZa
section SZb
namespace Go.Pm
open F
set_option maxHeartbeats 4000000
structure Vr where
 t:Int
 c:D
 a:Int
 b:Int
 e:Int
 one:V.one (.dat c)=true
 cl:V.cells (.dat c)=[.dat c]
def vrC:List Vr->List D
 | []=>[]
 | v::r => .lit (.int .i64 v.t)::v.c :: .lit (.int .i64 v.a) :: .lit (.int .i64 v.b) :: .lit (.int .i64 v.e)::vrC r
theorem qhx : ∀ a b:List Vr,vrC (a++b)=vrC a++vrC b
 | [],b=>rfl
 | v::a,b=>by simp[vrC,qhx a b]
theorem qhy : ∀ a:List Vr,(vrC a).length=a.length*5
 | []=>rfl
 | v::a=>by simp[vrC,qhy a]; omega
theorem qe4 : ∀ (L:List Vr) (i:Nat),(vrC L).drop (i*5)=vrC (L.drop i)
 | L,0=>by simp
 | [],i+1=>by simp[vrC]
 | v::L,i+1=>by
  rw[show (i+1)*5=i*5+1+1+1+1+1 by omega]
  simp only[vrC,List.drop_succ_cons,qe4 L i]
theorem qiy {L:List Vr} {i:Nat} (h:i<L.length):qae (vrC L) (i*5) 1=some [.lit (.int .i64 L[i].t)]:=by
 unfold qae
 rw[qe4,List.drop_eq_getElem_cons h]
 simp[vrC]
def qaW (L:List Vr):S:=if L.length=1 then [.cells [.dat (.sl (vrC L) 1 true)]] else [.cells [.gsl (vrC L) L.length 5 1],.tip (vrC L).length]
theorem qgC (v:Vr):qaW [v]=[.cells [.dat (.sl (vrC [v]) 1 true)]]:=rfl
theorem qcM {L:List Vr} (h:2<=L.length):qaW L=[.cells [.gsl (vrC L) L.length 5 1],.tip (vrC L).length]:=if_neg (by omega)
theorem qds (L:List Vr):(∃ C,qaW L=[.cells [.dat (.sl C 1 true)]]) \/ ∃ C n m,qaW L=[.cells [.gsl C n 5 1],.tip m]:=by
 unfold qaW
 split
 ·exact .inl ⟨_,rfl⟩
 ·exact .inr ⟨_,_,_,rfl⟩
def qjb (prog:Nat->Option PFun) (s:ByteArray) (v:Vr):Prop:=Z prog (.call 322 [.str s] [])=some (.ret (.tup [.dat (.agg [v.c,.lit (.int .i64 v.a),.lit (.int .i64 v.b),.lit (.int .i64 v.e)]),.int 0]) [])
section
variable {prog:Nat->Option PFun} (h7 : ∀ k pf,tB k=some pf->prog k=some pf)
include h7
theorem qlJ {s:ByteArray} {v:Vr} (hp:qjb prog s v) (h0:v.t=0):Z prog (.call 317 [.str s] [])=some (.ret (.tup [.ptr 0 0,.int 0]) (qaW [v])):=by
 have o:=v.one
 have c:=v.cl
 unfold qjb at hp
 refine qbf (h7 317 F317 rfl) rfl ?_
 simp[F317,hp,o,c,h0,qgC,vrC,List.range_succ]
theorem qhz {L:List Vr} (hl:8<L.length) (t:Int) (s:ByteArray):Z prog (.call 318 [.ptr 0 0,.int t,.str s] (qaW L))=some (.ret (.int 2) (qaW L)):=by
 have h8:(8:Int)<L.length:=by omega
 rw[qcM (by omega)]
 refine qbf (h7 318 F318 rfl) rfl ?_
 simp[F318,V.len,h8,List.range_succ]
def lastT (L:List Vr):Int:=match L.getLast? with
 | some v=>v.t
 | none=>0
omit h7 in
theorem qe5 {L:List Vr} (h:0<L.length):qae (vrC L) ((L.length-1)*5) 1=some [.lit (.int .i64 (lastT L))]:=by
 rw[qiy (by omega)]
 unfold lastT
 rw[List.getLast?_eq_getElem?,List.getElem?_eq_getElem (by omega)]
theorem qhA {L:List Vr} (h0:0<L.length) (hl:L.length<=8) {t:Int} (ht:t<=lastT L) (s:ByteArray):Z prog (.call 318 [.ptr 0 0,.int t,.str s] (qaW L))=some (.ret (.int 5) (qaW L)):=by
 have h8 : ¬ (8:Int)<L.length:=by omega
 have hc:=qe5 h0
 have w:IntKind.i64.wrap ((L.length:Int)-1)=((L.length-1:Nat):Int):=by rw[qaB _ (by omega)]; omega
 have hlt:L.length-1<L.length:=by omega
 have hlt':((L.length-1:Nat):Int)<L.length:=by omega
 refine qbf (h7 318 F318 rfl) rfl ?_
 by_cases h1:L.length=1
 ·have e:qaW L=[.cells [.dat (.sl (vrC L) 1 true)]]:=if_pos h1
  rw[h1] at hc
  rw[e]
  generalize vrC L=C at *
  simp at hc
  simp[F318,V.len,qah,hc,ht,List.range_succ,show IntKind.i64.wrap 0=0 from rfl]
 ·rw[qcM (by omega)]
  generalize L.length-1=n1 at *
  generalize vrC L=C at *
  generalize L.length=n at *
  simp[F318,V.len,qah,h8,hc,ht,w,hlt,hlt',List.range_succ]
theorem qjw {L:List Vr} (h0:0<L.length) (hl:L.length<=8) {t:Int} (ht:lastT L<t) {s:ByteArray} {q:V} {e:Int} (he:e≠0) (hq : ∃ c a b d,q = .dat (.agg [c,a,b,d])/\V.one (.dat c)=true/\V.cells (.dat c)=[.dat c]/\V.one (.dat a)=true/\V.cells (.dat a)=[.dat a]/\V.one (.dat b)=true/\V.cells (.dat b)=[.dat b]/\V.one (.dat d)=true/\V.cells (.dat d)=[.dat d])
  (hp:Z prog (.call 322 [.str s] [])=some (.ret (.tup [q,.int e]) [])):Z prog (.call 318 [.ptr 0 0,.int t,.str s] (qaW L))=some (.ret (.int e) (qaW L)):=by
 obtain⟨c,a,b,d,rfl,o1,c1,o2,c2,o3,c3,o4,c4⟩:=hq
 have h8 : ¬ (8:Int)<L.length:=by omega
 have hc:=qe5 h0
 have ht' : ¬ t<=lastT L:=by omega
 have w:IntKind.i64.wrap ((L.length:Int)-1)=((L.length-1:Nat):Int):=by rw[qaB _ (by omega)]; omega
 have hlt:L.length-1<L.length:=by omega
 have hlt':((L.length-1:Nat):Int)<L.length:=by omega
 refine qbf (h7 318 F318 rfl) rfl ?_
 by_cases h1:L.length=1
 ·have e:qaW L=[.cells [.dat (.sl (vrC L) 1 true)]]:=if_pos h1
  rw[h1] at hc
  rw[e]
  generalize vrC L=C at *
  generalize lastT L=T at *
  simp at hc
  simp[F318,V.len,qah,hc,ht,ht',hp,he,o1,c1,o2,c2,o3,c3,o4,c4,List.range_succ,show IntKind.i64.wrap 0=0 from rfl]
 ·rw[qcM (by omega)]
  generalize L.length-1=n1 at *
  generalize vrC L=C at *
  generalize lastT L=T at *
  generalize L.length=n at *
  simp[F318,V.len,qah,h8,hc,ht,ht',hp,he,o1,c1,o2,c2,o3,c3,o4,c4,w,hlt,hlt',List.range_succ]
theorem qgD {L:List Vr} (h0:0<L.length) (hl:L.length<=8) {v:Vr} (ht:lastT L<v.t) {s:ByteArray} (hp:qjb prog s v):Z prog (.call 318 [.ptr 0 0,.int v.t,.str s] (qaW L))=some (.ret (.int 0) (qaW (L++[v]))):=by
 have h8 : ¬ (8:Int)<L.length:=by omega
 have hc:=qe5 h0
 have ht' : ¬ v.t<=lastT L:=by omega
 have w:IntKind.i64.wrap ((L.length:Int)-1)=((L.length-1:Nat):Int):=by rw[qaB _ (by omega)]; omega
 have hlt:L.length-1<L.length:=by omega
 have hlt':((L.length-1:Nat):Int)<L.length:=by omega
 have o:=v.one
 have c:=v.cl
 have hL:=qhy L
 have hr:qas (L.length+1) 56=true:=by simp only[qas,decide_eq_true_eq]; omega
 unfold qjb at hp
 rw[qcM (L:=L++[v]) (by simp; omega),qhx]
 refine qbf (h7 318 F318 rfl) rfl ?_
 by_cases h1:L.length=1
 ·have e:qaW L=[.cells [.dat (.sl (vrC L) 1 true)]]:=if_pos h1
  rw[h1] at hc hL hr
  rw[e]
  generalize vrC L=C at *
  generalize lastT L=T at *
  simp at hc hL
  simp[F318,V.len,qah,hc,ht,ht',hp,o,c,qbS,qiD,hr,hL,h1,vrC,List.range_succ,show IntKind.i64.wrap 0=0 from rfl]
 ·rw[qcM (by omega),List.length_append]
  generalize L.length-1=n1 at *
  generalize vrC L=C at *
  generalize lastT L=T at *
  generalize L.length=n at *
  simp[F318,V.len,qah,h8,hc,ht,ht',hp,o,c,qbS,qiD,hr,hL,w,hlt,hlt',vrC,List.range_succ]
end
end Go.Pm
end SZb
section SZc
namespace Go.Pm
open F
set_option maxHeartbeats 4000000
def tkW (L:List Vr) (i:Nat):List V:=(L.take i).map (fun v=>V.int v.t)++List.replicate (L.length-i) (V.int 0)
theorem qhZ (L:List Vr) {i:Nat} (h:i<=L.length):(tkW L i).length=L.length:=by simp[tkW]; omega
theorem qh0 {L:List Vr} {i:Nat} (h:i<L.length):(tkW L i).take i++V.int L[i].t::(tkW L i).drop (i+1)=tkW L (i+1):=by
 have h1:((L.take i).map (fun v=>V.int v.t)).length=i:=by simp; omega
 unfold tkW
 rw[List.take_left' h1,List.drop_append,h1,show L.length-i=(L.length-(i+1))+1 by omega,List.replicate_succ,List.take_succ_eq_append_getElem h,List.map_append,List.append_assoc]
 simp[List.drop_eq_nil_of_le (as:=(L.take i).map (fun v=>V.int v.t)) (i:=i+1) (by rw[h1]; omega),show i+1-i=1 by omega]
 omega
def tks (L:List Vr):List Int:=L.map (·.t)
theorem qjM (L:List Vr):tkW L L.length=(intsC (tks L)).map .dat:=by
 simp[tkW,tks,intsC]
theorem qcI : ∀ l:List D,qaN (l.map .dat)=some l
 | []=>rfl
 | d::l=>by simp[qaN,qcI l]
theorem qce (L:List Vr) (i:Nat):qai (tkW L i)=[]:=by
 have h : ∀ (l:List V),(∀ v∈l,v.locs=[])->qai l=[]:=by
  intro l
  induction l with
  | nil=>intro _; rfl
  | cons v l ih=>intro h; simp[qai,h v (by simp),ih fun u hu=>h u (by simp[hu])]
 refine h _ fun v hv=>?_
 unfold tkW at hv
 rcases List.mem_append.1 hv with hv | hv
 ·obtain⟨x,_,rfl⟩:=List.mem_map.1 hv; rfl
 ·rw[(List.mem_replicate.1 hv).2]; rfl
theorem qcZ (r:Nat->Nat) (L:List Vr) (i:Nat):qbH r (tkW L i)=tkW L i:=by
 have h : ∀ (l:List V),(∀ v∈l,v.ren r=v)->qbH r l=l:=by
  intro l
  induction l with
  | nil=>intro _; rfl
  | cons v l ih=>intro h; simp[qbH,h v (by simp),ih fun u hu=>h u (by simp[hu])]
 refine h _ fun v hv=>?_
 unfold tkW at hv
 rcases List.mem_append.1 hv with hv | hv
 ·obtain⟨x,_,rfl⟩:=List.mem_map.1 hv; rfl
 ·rw[(List.mem_replicate.1 hv).2]; rfl
theorem qfl {L:List Vr} {i:Nat} (h:i<L.length):qae (vrC L) (i*5) 5=some [.lit (.int .i64 L[i].t),L[i].c,.lit (.int .i64 L[i].a),.lit (.int .i64 L[i].b),.lit (.int .i64 L[i].e)]:=by
 unfold qae
 rw[qe4,List.drop_eq_getElem_cons h]
 simp[vrC]
section
variable {prog:Nat->Option PFun} (h7 : ∀ k pf,tB k=some pf->prog k=some pf)
theorem qk2 {L:List Vr} {i:Nat} (h:i<L.length) (hl:L.length<=1000) {i0 i1:Int} (e0:i0=i) (e1:i1=i0+1) (g:Bool) :
  Z prog (.loop 1 F320l0 [(3,.msl 1 0 L.length L.length 1),(15,.dat (.sl (vrC L) L.length g)),(16,.int L.length),(17,.int i0)] [.cells [.dat (.sl (vrC L) L.length g)],.cells (tkW L i)]) =
  Z prog (.loop 1 F320l0 [(3,.msl 1 0 L.length L.length 1),(15,.dat (.sl (vrC L) L.length g)),(16,.int L.length),(17,.int i1)] [.cells [.dat (.sl (vrC L) L.length g)],.cells (tkW L (i+1))]):=by
 have hc:=qfl h
 have o:=L[i].one
 have c:=L[i].cl
 have hs:=qh0 h
 have hw:=qhZ L (i:=i) (by omega)
 have w1:IntKind.i64.wrap ((i:Int)+1)=(i:Int)+1:=qaB _ (by omega)
 have hlt:(i:Int)<L.length:=by omega
 have h5:i+1<=L.length:=h
 subst e1 e0
 generalize L[i]=v at *
 generalize vrC L=C at *
 have l1:=qce L i
 have l2:=qce L (i+1)
 have r1:=fun r=>qcZ r L i
 have r2:=fun r=>qcZ r L (i+1)
 generalize tkW L i=W at *
 generalize tkW L (i+1)=W' at *
 generalize L.length=n at *
 conv=>lhs; rw[qao]
 simp[qap,qcG,V.len,qah,hlt,h,h5,hc,o,c,hw,hs,w1,l1,l2,r1,r2,List.range_succ]
 all_goals exact qa1 (by simp[gcF,l1,l2,r1,r2,List.range_succ])
theorem qk3 {L:List Vr} {i:Nat} (h:i<L.length) (hl:L.length<=1000) {i0 i1:Int} (e0:i0=i) (e1:i1=i0+1) (m:Nat) :
  Z prog (.loop 2 F320l0 [(3,.msl 2 0 L.length L.length 1),(15,.gsl (vrC L) L.length 5 1),(16,.int L.length),(17,.int i0)] [.cells [.gsl (vrC L) L.length 5 1],.tip m,.cells (tkW L i)]) =
  Z prog (.loop 2 F320l0 [(3,.msl 2 0 L.length L.length 1),(15,.gsl (vrC L) L.length 5 1),(16,.int L.length),(17,.int i1)] [.cells [.gsl (vrC L) L.length 5 1],.tip m,.cells (tkW L (i+1))]):=by
 have hc:=qfl h
 have o:=L[i].one
 have c:=L[i].cl
 have hs:=qh0 h
 have hw:=qhZ L (i:=i) (by omega)
 have w1:IntKind.i64.wrap ((i:Int)+1)=(i:Int)+1:=qaB _ (by omega)
 have hlt:(i:Int)<L.length:=by omega
 have h5:i+1<=L.length:=h
 subst e1 e0
 generalize L[i]=v at *
 generalize vrC L=C at *
 have l1:=qce L i
 have l2:=qce L (i+1)
 have r1:=fun r=>qcZ r L i
 have r2:=fun r=>qcZ r L (i+1)
 generalize tkW L i=W at *
 generalize tkW L (i+1)=W' at *
 generalize L.length=n at *
 conv=>lhs; rw[qao]
 simp[qap,qcG,V.len,qah,hlt,h,h5,hc,o,c,hw,hs,w1,l1,l2,r1,r2,List.range_succ]
 all_goals exact qa1 (by simp[gcF,l1,l2,r1,r2,List.range_succ])
theorem qji {L:List Vr} (hl:L.length<=1000) (g:Bool) : ∀ (k i:Nat),i+k=L.length->Z prog (.loop 1 F320l0 [(3,.msl 1 0 L.length L.length 1),(15,.dat (.sl (vrC L) L.length g)),(16,.int L.length),(17,.int i)] [.cells [.dat (.sl (vrC L) L.length g)],.cells (tkW L i)]) =
  some (.out (.exit 0) [(3,.msl 1 0 L.length L.length 1),(15,.dat (.sl (vrC L) L.length g)),(16,.int L.length),(17,.int L.length),(18,.bool false)] [.cells [.dat (.sl (vrC L) L.length g)],.cells (tkW L L.length)])
 | 0,i,h=>by
  obtain rfl:i=L.length:=by omega
  have l1:=qce L L.length
  have r1:=fun r=>qcZ r L L.length
  rw[qao]
  simp[qap,qcG,l1,r1,List.range_succ]
 | k+1,i,h=>by
  rw[qk2 (prog:=prog) (L:=L) (i:=i) (by omega) hl (i0:=i) (i1:=((i+1:Nat):Int)) rfl (by omega) g]
  exact qji hl g k (i+1) (by omega)
theorem qjj {L:List Vr} (hl:L.length<=1000) (m:Nat) : ∀ (k i:Nat),i+k=L.length->Z prog (.loop 2 F320l0 [(3,.msl 2 0 L.length L.length 1),(15,.gsl (vrC L) L.length 5 1),(16,.int L.length),(17,.int i)] [.cells [.gsl (vrC L) L.length 5 1],.tip m,.cells (tkW L i)]) =
  some (.out (.exit 0) [(3,.msl 2 0 L.length L.length 1),(15,.gsl (vrC L) L.length 5 1),(16,.int L.length),(17,.int L.length),(18,.bool false)] [.cells [.gsl (vrC L) L.length 5 1],.tip m,.cells (tkW L L.length)])
 | 0,i,h=>by
  obtain rfl:i=L.length:=by omega
  have l1:=qce L L.length
  have r1:=fun r=>qcZ r L L.length
  rw[qao]
  simp[qap,qcG,l1,r1,List.range_succ]
 | k+1,i,h=>by
  rw[qk3 (prog:=prog) (L:=L) (i:=i) (by omega) hl (i0:=i) (i1:=((i+1:Nat):Int)) rfl (by omega) m]
  exact qjj hl m k (i+1) (by omega)
theorem qjk : ∀ n:Nat,(qbC n [D.lit (.int .i64 0)]).map V.dat=List.replicate n (V.int 0)
 | 0=>rfl
 | n+1=>by simp[qbC,qjk n,List.replicate_succ]
include h7
theorem qhg {L:List Vr} (h0:0<L.length) (hl:L.length<=1000):Z prog (.call 320 [.ptr 0 0] (qaW L))=some (.ret (.dat (.sl (intsC (tks L)) L.length false)) (qaW L)):=by
 have hz:tkW L 0=List.replicate L.length (V.int 0):=by simp[tkW]
 have hrep:=qjk L.length
 have l1:=qce L 0
 have r1:=fun r=>qcZ r L 0
 have hall:=qjM L
 have hd:=qcI (intsC (tks L))
 have hlen:(intsC (tks L)).length=L.length:=by simp[intsC,tks]
 have hone:((intsC (tks L)).all fun d=>V.one (.dat d))=true:=by simp[intsC]
 have c1:(L.length:Int)<=1099511627776:=by omega
 have c2:(8:Int)*L.length<=281474976710656:=by omega
 refine qbf (h7 320 F320 rfl) rfl ?_
 by_cases h1:L.length=1
 ·have e:qaW L=[.cells [.dat (.sl (vrC L) 1 true)]]:=if_pos h1
  have z:=qji (prog:=prog) hl true L.length 0 (by omega)
  rw[hall] at z
  rw[e]
  rw[hz,h1] at z
  rw[h1] at hrep hlen
  generalize vrC L=C at *
  generalize intsC (tks L)=T at *
  simp only[Int.cast_ofNat_Int,List.replicate_one] at z hrep
  simp[F320,V.len,h1,hrep,z,hd,hlen,hone,List.range_succ]
  exact List.take_of_length_le (by omega)
 ·have z:=qjj (prog:=prog) hl (vrC L).length L.length 0 (by omega)
  rw[hall] at z
  rw[qcM (by omega)]
  rw[hz] at z
  generalize vrC L=C at *
  generalize intsC (tks L)=T at *
  generalize L.length=n at *
  simp only[Int.cast_ofNat_Int] at z
  simp[F320,V.len,hrep,z,hd,hlen,hone,c1,c2,List.range_succ]
  exact List.take_of_length_le (by omega)
end
end Go.Pm
end SZc
section SZg
namespace Go.Pm
open F
set_option maxHeartbeats 4000000
def qdT (s w:Int):Int:=
 let m:=IntKind.u64.wrap (qgN .u64 (· ^^^ ·) s w*11400714819323198485)
 qgN .u64 (· ^^^ ·) m (m.tdiv 4294967296)
theorem qeB (n:Int):0<=IntKind.u64.wrap n/\IntKind.u64.wrap n<18446744073709551616:=by
 have:IntKind.u64.wrap n=n % 18446744073709551616:=by simp[IntKind.wrap,IntKind.bits,IntKind.signed]
 rw[this]; omega
theorem qgw (n:Int) (h:0<=n/\n<18446744073709551616):IntKind.u64.wrap n=n:=by
 have:IntKind.u64.wrap n=n % 18446744073709551616:=by simp[IntKind.wrap,IntKind.bits,IntKind.signed]
 rw[this]; omega
theorem qlp (m:Int) (h:0<=m/\m<18446744073709551616):qkU .u64 m 32=m.tdiv 4294967296:=by
 rw[Int.tdiv_eq_ediv_of_nonneg h.1 (b:=4294967296)]
 show Int.fdiv _ (2 ^ min (32:Int).toNat IntKind.u64.bits)=_
 rw[Int.fdiv_eq_ediv_of_nonneg _ (by decide)]
 rfl
def qim (s w:Int):Int:=IntKind.u64.wrap (qgN .u64 (· ^^^ ·) s w*11400714819323198485)
theorem qhm (s w:Int):0<=qim s w/\qim s w<18446744073709551616:=qeB _
theorem qin (s w:Int):qdT s w=qgN .u64 (· ^^^ ·) (qim s w) ((qim s w).tdiv 4294967296):=by
 unfold qdT qim
 exact rfl
theorem qio (a b:Int):qfP .xor (.int .u64 a) (.int .u64 b)=some (.int .u64 (qgN .u64 (· ^^^ ·) a b)):=by simp
theorem qka (a b:Int):qfP .mul (.int .u64 (qgN .u64 (· ^^^ ·) a b)) (.int .u64 11400714819323198485)=some (.int .u64 (qim a b)):=by simp[qim]
theorem qkb (a b:Int):qfP .shr (.int .u64 (qim a b)) (.int .u64 32)=some (.int .u64 ((qim a b).tdiv 4294967296)):=by simp[qlp _ (qhm a b)]
def F111K (K Q:Int):PFun:=⟨2,[.tmp 4],
 .seq (.region none [⟨some 4,.mov (.c (.int .u64 0)),none,[]⟩] [0,1])
 (.seq (.region none [⟨some 6,.mov (.t 0),none,[]⟩,
  ⟨some 7,.mov (.t 1),none,[]⟩,
  ⟨some 8,.bin .xor (.t 6) (.t 7),none,[]⟩,
  ⟨some 9,.bin .mul (.t 8) (.c (.int .u64 K)),none,[]⟩,
  ⟨some 5,.mov (.t 9),none,[]⟩] [5])
 (.seq (.region none [⟨some 10,.mov (.t 5),none,[]⟩,
  ⟨some 11,.mov (.t 5),none,[]⟩,
  ⟨some 12,.bin .shr (.t 11) (.c (.int .u64 Q)),none,[]⟩,
  ⟨some 13,.bin .xor (.t 10) (.t 12),none,[]⟩,
  ⟨some 4,.mov (.t 13),none,[]⟩] [4])
 (.ret))),false,false,false⟩
theorem qi3 (C:Task->Option Res) {K Q s w x m z y:Int} (h1:qfP .xor (.int .u64 s) (.int .u64 w)=some (.int .u64 x)) (h2:qfP .mul (.int .u64 x) (.int .u64 K)=some (.int .u64 m)) (h3:qfP .shr (.int .u64 m) (.int .u64 Q)=some (.int .u64 z)) (h4:qfP .xor (.int .u64 m) (.int .u64 z)=some (.int .u64 y)) :
  qa3 C (F111K K Q) [.dat (.lit (.int .u64 s)),.dat (.lit (.int .u64 w))] []=some (.ret (.dat (.lit (.int .u64 y))) []):=by
 simp[F111K,-qfP,h1,h2,h3,h4]
theorem F111_K:F111=F111K 11400714819323198485 32:=rfl
theorem qg4 {prog:Nat->Option PFun} (h111:prog 111=some F111) (s w:Int):Z prog (.call 111 [.dat (.lit (.int .u64 s)),.dat (.lit (.int .u64 w))] [])=some (.ret (.dat (.lit (.int .u64 (qdT s w)))) []):=by
 refine qbf h111 rfl ?_
 rw[qin,F111_K]
 exact qi3 _ (qio s w) (qka s w) (qkb s w) (qio _ _)
def foldI (B:Int) (ws:List Int):Int:=ws.foldl (fun s w=>qdT s (IntKind.u64.wrap w)) B
def sumI (B:Int) (ws:List Int):Int:=qdT (foldI B ws) 0
theorem qhn {B:Int} {ws:List Int} {i:Nat} (h:i<ws.length):qdT (foldI B (ws.take i)) (IntKind.u64.wrap ws[i])=foldI B (ws.take (i+1)):=by
 unfold foldI
 rw[List.take_succ_eq_append_getElem h,List.foldl_append]
 rfl
section
variable {prog:Nat->Option PFun} (h111:prog 111=some F111)
include h111
theorem qjt {ws:List Int} {B:Int} (hl:ws.length<=100000) : ∀ (k i:Nat),i+k=ws.length -> ∃ fr,Z prog (.loop 0 F109l0 [(5,.dat (.lit (.int .u64 (foldI B (ws.take i))))),(12,.dat (.sl (intsC ws) ws.length false)),(13,.int ws.length),(14,.int i)] []) =
  some (.out (.exit 0) ((5,.dat (.lit (.int .u64 (foldI B ws))))::fr) [])
 | 0,i,h=>by
  obtain rfl:i=ws.length:=by omega
  rw[List.take_length]
  exact⟨_,by rw[qao]; simp[qap,qeS,List.range_succ]; rfl⟩
 | k+1,i,h=>by
  have hi:i<ws.length:=by omega
  obtain⟨fr,e⟩:=qjt hl k (i+1) (by omega)
  refine⟨fr,?_⟩
  rw[<- e]
  have m:=qg4 h111 (foldI B (ws.take i)) (IntKind.u64.wrap ws[i])
  rw[qhn hi] at m
  have hc:qae (intsC ws) i 1=some [.lit (.int .i64 ws[i])]:=by
   unfold qae intsC
   rw[<- List.map_drop,List.drop_eq_getElem_cons hi,List.map_cons]
   rfl
  have w1:IntKind.i64.wrap ((i:Int)+1)=((i+1:Nat):Int):=by rw[qaB _ (by omega)]; omega
  have hlt:(i:Int)<ws.length:=by omega
  generalize ((i+1:Nat):Int)=i1 at *
  generalize foldI B (ws.take i)=s0 at *
  generalize foldI B (ws.take (i+1))=s1 at *
  generalize ws[i]=w at *
  generalize intsC ws=C at *
  generalize ws.length=n at *
  conv=>lhs; rw[qao]
  simp[qap,qeS,V.len,qah,hlt,hi,hc,w1,m,List.range_succ]
theorem qju (h109:prog 109=some F109) {s:ByteArray} {ws:List Int} {B:Int} (hl:ws.length<=100000) (hB:Z prog (.call 110 [.str s,.int ws.length] [])=some (.ret (.dat (.lit (.int .u64 B))) [])) :
  Z prog (.call 109 [.str s,.dat (.sl (intsC ws) ws.length false)] [])=some (.ret (.dat (.lit (.int .u64 (sumI B ws)))) []):=by
 obtain⟨fr,e⟩:=qjt h111 (B:=B) hl ws.length 0 (by omega)
 have m:=qg4 h111 (foldI B ws) 0
 rw[show qdT (foldI B ws) 0=sumI B ws from rfl] at m
 rw[List.take_zero,show foldI B []=B from rfl,show ((0:Nat):Int)=0 from rfl] at e
 refine qbf h109 rfl ?_
 generalize foldI B ws=s1 at *
 generalize sumI B ws=s2 at *
 generalize intsC ws=C at *
 generalize ws.length=n at *
 simp[F109,V.len,hB,e,m,List.range_succ]
end
def tH:Nat->Option PFun
 | 109=>some F109
 | 110=>some F110
 | 111=>some F111
 | 112=>some F112
 | 113=>some F113
 | _=>none
def qi4:ByteArray:=⟨#[98,111,111,107]⟩
def qlG:ByteArray:=⟨#[112,114,111,103,114,97,109]⟩
def qes (s:ByteArray) (n W:Int):S:=[.loop { fr:=[(0,.str s),(1,.int n),(5,.ptr 2 0),(8,.fn 113 [] [.ptr 1 0])],ps:=[9],assign:=F110a0,body:=F110b0,st:=0,pend:=none },.cells [.str s],.cells [.dat (.lit (.int .u64 W))]]
theorem qi5 (n:Int):Z tH (.call 113 [.yld 0,.ptr 1 0] (qes qi4 n 0))=some (.ret (.tup []) (qes qi4 n 17196531580303950166)):=qaR (n:=40) (by kernel_rfl)
theorem qi6 (n:Int):Z tH (.call 113 [.yld 0,.ptr 1 0] (qes qlG n 0))=some (.ret (.tup []) (qes qlG n (qdT 0 30787916450984560))):=qaR (n:=40) (by kernel_rfl)
section
variable {prog:Nat->Option PFun} (hH : ∀ k pf,tH k=some pf->prog k=some pf)
include hH
theorem qip {s:ByteArray} {n W x y:Int} (hw:Z prog (.call 113 [.yld 0,.ptr 1 0] (qes s n 0))=some (.ret (.tup []) (qes s n W))) {m:Nat} (hm:s.size=m) (hx:qdT W (IntKind.u64.wrap m)=x) (hy:qdT x (IntKind.u64.wrap n)=y) :
  Z prog (.call 110 [.str s,.int n] [])=some (.ret (.dat (.lit (.int .u64 y))) []):=by
 have z112:Z prog (.call 112 [.str s] [])=some (.ret (.fn 113 [] [.ptr 0 0]) [.cells [.str s]]):=by
  refine qbf (hH 112 F112 rfl) rfl ?_
  simp[F112,List.range_succ]
 have m1:=qg4 (hH 111 F111 rfl) W (IntKind.u64.wrap m)
 have m2:=qg4 (hH 111 F111 rfl) x (IntKind.u64.wrap n)
 rw[hx] at m1
 rw[hy] at m2
 unfold qes at hw
 refine qbf (hH 110 F110 rfl) rfl ?_
 simp[F110,z112,hw,m1,m2,hm,V.len,List.range_succ]
end
end Go.Pm
end SZg
