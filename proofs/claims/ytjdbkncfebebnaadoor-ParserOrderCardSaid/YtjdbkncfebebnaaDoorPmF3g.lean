/- The abstract machine's program, printed by a program of our own: group 3g. The abstract machine's program, printed by a program of our own: group 5. The abstract machine's programs: tables of functions. What a tree costs written down: bytes and tokens. No program in sight. Chapter 13's generator: choices, expressions. Chapter 13's generator: all expressions. Chapter 13's generator: statements. Chapter 13's generator: blocks and whole programs. -/
import Derived.Test.YtjdbkncfebebnaaDoorPmYh
import Derived.Test.YtjdbkncfebebnaaDoorPmUd
import Derived.Test.YtjdbkncfebebnaaDoorPmFx
import Derived.Test.YtjdbkncfebebnaaDoorPmY
set_option linter.unusedSimpArgs false
set_option linter.unusedVariables false
section SF3g
namespace Go.Pm.F
variable (C:Task->Option Res) (q:Nat) (fr:Fr) (σ : S)
@[simp] def F123l0x:PC:=(.seq (.seq (rn [mv 10 5,bk 11 .lss 10 3] [2,3,4,5,11]) (.cond (.t 11) (.skip) (.exit 0))) (.seq (.block 1 (.seq (rn [mv 14 3,jj 15 (.call 136 [(.t 14),(kk 4)]),bk 16 .gtr 15 0] [2,3,4,5,16]) (.cond (.t 16) (rn [mv 17 5,mv 18 3,jj 19 (.call 137 [(.t 18),(kk 2),(kk 3)]),fa 20 0 4,jj 21 (.indexAddrA 3 4 (.t 20) (.t 17)),st 4 21 19] [2,3,4,5]) (.skip)))) (rn [mv 12 5,bk 13 .add 12 1,mv 5 13] [2,3,4,5])))
def F123l0:PC:=F123l0x
theorem qcB:run C q F123l0 fr σ = run C q F123l0x fr σ := rfl
def F123:PFun:=⟨1,[.cell 2 true 12],.seq (rn [jj 2 (.alloc [zN,zN,eN,sN,zN,zN,eN,sN,zN,zN,eN,sN])] [0,2]) (.seq (rn [mv 6 0,jj 7 (.call 23 [(.t 6),(kk 60)]),jj 8 (.build [sN,zN] [(0,1,(.t 7))]),bx 9 8,mv 3 9] [2,3]) (.seq (rn [jj 4 (.alloc [zN,zN,eN,sN,zN,zN,eN,sN,zN,zN,eN,sN])] [2,3,4]) (.seq (.seq (rn [mx 5 (kk 0)] [2,3,4,5]) (.block 0 (.loop F123l0))) (.seq (rn [la 22 12 4,st 12 2 22] [2]) (.ret))))),false,false,false⟩
def F136:PFun:=⟨2,[.tmp 4],.seq (rn [mx 4 (kk 0)] [0,1]) (.seq (.seq (.region (some []) [mv 6 0,nc 7 6,fa 8 1 7,l1 9 8,mv 10 0,nc 11 10,fa 12 0 11,l1 13 12,ls 14 13,bn 15 .geq 9 14] [0,1,15]) (.cond (.t 15) (.seq (rn [mx 4 (kk 0)] [4]) (.ret)) (.skip))) (.seq (.region (some []) [mv 16 0,nc 17 16,fa 18 0 17,l1 19 18,mv 20 0,nc 21 20,fa 22 1 21,l1 23 22,jj 24 (.indexAddr 1 (.t 19) (.t 23)),l1 25 24,jj 26 (.call 17 [(.t 25),(kk 1000000)]),mv 5 26] [0,1,5] [10]) (.seq (rn [mv 27 0,nc 28 27,fa 29 1 28,l1 30 29,bk 31 .add 30 1,nc 32 27,fa 33 1 32,st 1 33 31] [1,5]) (.seq (rn [mv 34 5,mv 35 1,bn 36 .rem 34 35,mv 4 36] [4]) (.ret))))),false,false,false⟩
@[simp] def F137l0x:PC:=(.seq (.seq (rn [mv 14 8,bk 15 .gtr 14 0] [0,1,6,7,8,15]) (.cond (.t 15) (.skip) (.exit 0))) (.seq (.block 1 (.region (some []) [fa 18 3 7,⟨some 19,.load false 1 (.t 18),none,[4]⟩,mv 20 0,mv 21 1,cl 22 162 [20,21],jj 23 (.bslice 1 [zN,zN,eN,sN] [(0,4,(.t 22))]),jj 24 (.append 4 56 (.t 19) (.t 23)),fa 25 3 7,st 1 25 24] [0,1,6,7,8] [4])) (rn [mv 16 8,bk 17 .sub 16 1,mv 8 17] [0,1,6,7,8])))
def F137l0:PC:=F137l0x
theorem qeJ:run C q F137l0 fr σ = run C q F137l0x fr σ := rfl
def F137:PFun:=⟨3,[.cell 6 true 4],.seq (rn [jj 6 (.alloc [zN,zN,eN,sN])] [0,1,2,6]) (.seq (rn [jj 9 (.build [zN,zN,eN,sN] [(0,1,(kk 7))]),jj 7 (.alloc [zN,zN,eN,sN]),st 4 7 9] [0,1,2,6,7]) (.seq (.seq (rn [mv 10 0,mv 11 2,bk 12 .add 11 1,cl 13 136 [10,12],mv 8 13] [0,1,6,7,8]) (.block 0 (.loop F137l0))) (.seq (rn [la 26 4 7,st 4 6 26] [6]) (.ret)))),false,false,false⟩
def F162:PFun:=⟨2,[.cell 4 true 4],.seq (rn [jj 4 (.alloc [zN,zN,eN,sN])] [0,1,4]) (.seq (rn [mv 13 0,jj 14 (.call 136 [(.t 13),(kk 10)]),mv 5 14] [0,1,4,5]) (.seq (.seq (rn [mv 15 1,bk 16 .leq 15 0] [0,1,4,5,16]) (.cond (.t 16) (rn [mv 17 5,bk 18 .rem 17 7,mv 5 18] [0,1,4,5]) (.skip))) (.seq (.seq (rn [mv 19 5] [0,1,4,19]) (.block 0 (.seq (.seq (rn [bk 21 .eql 19 0,mv 20 21] [0,1,4,19,20]) (.cond (.t 20) (.skip) (rn [bk 22 .eql 19 1,mv 20 22] [0,1,4,19,20]))) (.cond (.t 20) (.seq (.region (some []) [jj 23 (.bslice 4 [eN,eN,eN,eN] [(0,1,(.c (.string ⟨#[105]⟩))),(1,1,(.c (.string ⟨#[110]⟩))),(2,1,(.c (.string ⟨#[115,117,109]⟩))),(3,1,(.c (.string ⟨#[118,51]⟩)))]),mv 24 0,jj 25 (.call 136 [(.t 24),(kk 4)]),jj 26 (.indexAddr 1 (.t 23) (.t 25)),⟨some 27,.load false 1 (.t 26),none,[6]⟩,mv 28 0,jj 29 (.call 177 [(.t 28),(kk 2)]),jj 30 (.call 176 [(kk 1),(.t 27),(.t 29)]),st 4 4 30] [4] [6,7]) (.ret)) (.seq (.seq (rn [bk 32 .eql 19 2,mv 31 32] [0,1,4,19,31]) (.cond (.t 31) (.skip) (.seq (rn [bk 33 .eql 19 3,mv 31 33] [0,1,4,19,31]) (.cond (.t 31) (.skip) (rn [bk 34 .eql 19 4,mv 31 34] [0,1,4,19,31]))))) (.cond (.t 31) (.seq (rn [jj 35 (.bslice 6 [eN,eN,eN,eN,eN,eN] [(0,1,(.c (.string ⟨#[120]⟩))),(1,1,(.c (.string ⟨#[121]⟩))),(2,1,(.c (.string ⟨#[118,120]⟩))),(3,1,(.c (.string ⟨#[118,121]⟩))),(4,1,(.c (.string ⟨#[97]⟩))),(5,1,(.c (.string ⟨#[98]⟩)))]),mv 36 0,jj 37 (.call 136 [(.t 36),(kk 6)]),jj 38 (.indexAddr 1 (.t 35) (.t 37)),l1 39 38,mv 6 39] [0,4,6]) (.seq (rn [mv 40 0,jj 41 (.call 177 [(.t 40),(kk 1)]),jj 7 (.alloc [zN,zN,eN,sN]),st 4 7 41] [0,4,6,7]) (.seq (.region (some []) [mv 42 6,⟨some 43,.load true 4 (.t 7),none,[3]⟩,mv 44 0,jj 45 (.call 177 [(.t 44),(kk 2)]),jj 46 (.call 178 [(kk 2),(.t 42),(.t 43),(.t 45)]),st 4 4 46] [4] [3,4]) (.ret)))) (.seq (rn [bk 48 .eql 19 5,mv 47 48] [0,1,4,19,47]) (.cond (.t 47) (.seq (rn [mv 49 0,jj 50 (.call 177 [(.t 49),(kk 0)]),jj 8 (.alloc [zN,zN,eN,sN]),st 4 8 50] [0,4,8]) (.seq (.region (some []) [⟨some 51,.load true 4 (.t 8),none,[2]⟩,mv 52 0,jj 53 (.call 177 [(.t 52),(kk 1)]),jj 54 (.call 178 [(kk 5),(.c (.string ⟨#[]⟩)),(.t 51),(.t 53)]),st 4 4 54] [4] [2,3]) (.ret))) (.seq (rn [bk 56 .eql 19 6,mv 55 56] [0,1,4,19,55]) (.cond (.t 55) (.seq (.seq (rn [mv 57 0,jj 58 (.call 136 [(.t 57),(kk 3)]),bk 59 .gtr 58 0] [0,4,59]) (.cond (.t 59) (.seq (rn [mv 60 0,jj 61 (.call 177 [(.t 60),(kk 1)]),jj 62 (.call 176 [(kk 1),(.c (.string ⟨#[110]⟩)),(.t 61)]),st 4 4 62] [4]) (.ret)) (.skip))) (.seq (rn [jj 63 (.build [zN,zN,eN,sN] [(0,1,(kk 6))]),st 4 4 63] [4]) (.ret))) (.seq (rn [bk 65 .eql 19 7,mv 64 65] [0,1,4,64]) (.cond (.t 64) (.seq (rn [mv 66 0,jj 67 (.call 179 [(.t 66),(kk 1)]),jj 9 (.alloc [zN,zN,eN,sN]),st 4 9 67] [0,1,4,9]) (.seq (.region (some []) [⟨some 68,.load true 4 (.t 9),none,[4]⟩,mv 69 0,mv 70 1,bk 71 .sub 70 1,jj 72 (.call 137 [(.t 69),(.t 71),(kk 2)]),jj 73 (.call 178 [(kk 4),(.c (.string ⟨#[]⟩)),(.t 68),(.t 72)]),st 4 4 73] [4] [4,5]) (.ret))) (.skip))))))))))))) (.seq (rn [mv 74 0,jj 75 (.call 179 [(.t 74),(kk 2)]),jj 10 (.alloc [zN,zN,eN,sN]),st 4 10 75] [0,1,4,10]) (.seq (rn [mv 76 0,mv 77 1,bk 78 .sub 77 1,jj 79 (.call 137 [(.t 76),(.t 78),(kk 2)]),jj 11 (.alloc [zN,zN,eN,sN]),st 4 11 79] [0,1,4,10,11]) (.seq (rn [jj 80 (.build [zN,zN,eN,sN] [(0,1,(kk 7))]),jj 12 (.alloc [zN,zN,eN,sN]),st 4 12 80] [0,1,4,10,11,12]) (.seq (.seq (rn [mv 81 0,jj 82 (.call 136 [(.t 81),(kk 2)]),bk 83 .eql 82 1] [0,1,4,10,11,12,83]) (.cond (.t 83) (rn [mv 84 0,mv 85 1,bk 86 .sub 85 1,jj 87 (.call 137 [(.t 84),(.t 86),(kk 2)]),st 4 12 87] [4,10,11,12]) (.skip))) (.seq (rn [la 88 4 10,la 89 4 11,la 90 4 12,jj 91 (.bslice 3 [zN,zN,eN,sN,zN,zN,eN,sN,zN,zN,eN,sN] [(0,4,(.t 88)),(4,4,(.t 89)),(8,4,(.t 90))]),jj 92 (.build [zN,zN,eN,sN] [(0,1,(kk 3)),(3,1,(.t 91))]),st 4 4 92] [4]) (.ret))))))))),false,false,false⟩
def F176:PFun:=⟨3,[.cell 6 true 4],.seq (rn [bx 5 2,jj 6 (.alloc [zN,zN,eN,sN])] [0,1,5,6]) (.seq (rn [mv 7 0,mv 8 1,la 9 4 5,jj 10 (.bslice 1 [zN,zN,eN,sN] [(0,4,(.t 9))]),jj 11 (.build [zN,zN,eN,sN] [(0,1,(.t 7)),(2,1,(.t 8)),(3,1,(.t 10))]),st 4 6 11] [6]) (.ret)),false,false,false⟩
def F177:PFun:=⟨2,[.cell 4 true 4],.seq (rn [jj 4 (.alloc [zN,zN,eN,sN])] [0,1,4]) (.seq (rn [mv 9 0,jj 10 (.call 136 [(.t 9),(kk 12)]),mv 5 10] [0,1,4,5]) (.seq (.seq (rn [mv 11 1,bk 12 .leq 11 0] [0,1,4,5,12]) (.cond (.t 12) (rn [mv 13 5,bk 14 .rem 13 6,mv 5 14] [0,1,4,5]) (.skip))) (.seq (.seq (rn [mv 15 5] [0,1,4,15]) (.block 0 (.seq (.seq (rn [bk 17 .eql 15 0,mv 16 17] [0,1,4,15,16]) (.cond (.t 16) (.skip) (rn [bk 18 .eql 15 1,mv 16 18] [0,1,4,15,16]))) (.cond (.t 16) (.seq (rn [jj 19 (.bslice 8 [zN,zN,zN,zN,zN,zN,zN,zN] [(0,1,(kk 0)),(1,1,(kk 1)),(2,1,(kk 2)),(3,1,(kk 3)),(4,1,(kk 7)),(5,1,(kk 100)),(6,1,(kk 1024)),(7,1,(kk 2147483647))]),mv 20 0,jj 21 (.call 136 [(.t 20),(kk 8)]),jj 22 (.indexAddr 1 (.t 19) (.t 21)),l1 23 22,jj 24 (.build [zN,zN,eN,sN] [(0,1,(kk 8)),(1,1,(.t 23))]),st 4 4 24] [4]) (.ret)) (.seq (.seq (rn [bk 26 .eql 15 2,mv 25 26] [0,1,4,15,25]) (.cond (.t 25) (.skip) (rn [bk 27 .eql 15 3,mv 25 27] [0,1,4,15,25]))) (.cond (.t 25) (.seq (rn [jj 28 (.bslice 4 [eN,eN,eN,eN] [(0,1,(.c (.string ⟨#[105]⟩))),(1,1,(.c (.string ⟨#[110]⟩))),(2,1,(.c (.string ⟨#[115,117,109]⟩))),(3,1,(.c (.string ⟨#[118,51]⟩)))]),mv 29 0,jj 30 (.call 136 [(.t 29),(kk 4)]),jj 31 (.indexAddr 1 (.t 28) (.t 30)),l1 32 31,jj 33 (.build [zN,zN,eN,sN] [(0,1,(kk 10)),(2,1,(.t 32))]),st 4 4 33] [4]) (.ret)) (.seq (.seq (rn [bk 35 .eql 15 4,mv 34 35] [0,1,4,15,34]) (.cond (.t 34) (.skip) (rn [bk 36 .eql 15 5,mv 34 36] [0,1,4,15,34]))) (.cond (.t 34) (.seq (rn [jj 37 (.bslice 3 [eN,eN,eN] [(0,1,(.c (.string ⟨#[115,101,108,102]⟩))),(1,1,(.c (.string ⟨#[111,116,104,101,114]⟩))),(2,1,(.c (.string ⟨#[116,105,99,107]⟩)))]),mv 38 0,jj 39 (.call 136 [(.t 38),(kk 3)]),jj 40 (.indexAddr 1 (.t 37) (.t 39)),l1 41 40,jj 42 (.build [zN,zN,eN,sN] [(0,1,(kk 12)),(2,1,(.t 41))]),st 4 4 42] [4]) (.ret)) (.seq (.seq (rn [bk 44 .eql 15 6,mv 43 44] [0,1,4,15,43]) (.cond (.t 43) (.skip) (rn [bk 45 .eql 15 7,mv 43 45] [0,1,4,15,43]))) (.cond (.t 43) (.seq (rn [jj 46 (.bslice 8 [eN,eN,eN,eN,eN,eN,eN,eN] [(0,1,(.c (.string ⟨#[120]⟩))),(1,1,(.c (.string ⟨#[121]⟩))),(2,1,(.c (.string ⟨#[118,120]⟩))),(3,1,(.c (.string ⟨#[118,121]⟩))),(4,1,(.c (.string ⟨#[97]⟩))),(5,1,(.c (.string ⟨#[98]⟩))),(6,1,(.c (.string ⟨#[104,105,116]⟩))),(7,1,(.c (.string ⟨#[115,116,105,108,108]⟩)))]),mv 47 0,jj 48 (.call 136 [(.t 47),(kk 8)]),jj 49 (.indexAddr 1 (.t 46) (.t 48)),l1 50 49,mv 6 50] [0,1,4,6]) (.seq (rn [mv 51 6,mv 52 0,mv 53 1,bk 54 .sub 53 1,cl 55 177 [52,54],jj 56 (.call 176 [(kk 11),(.t 51),(.t 55)]),st 4 4 56] [4]) (.ret))) (.seq (rn [bk 58 .eql 15 8,mv 57 58] [0,1,4,57]) (.cond (.t 57) (.seq (rn [mv 59 0,mv 60 1,bk 61 .sub 60 1,cl 62 177 [59,61],jj 63 (.call 176 [(kk 13),(.c (.string ⟨#[45]⟩)),(.t 62)]),st 4 4 63] [4]) (.ret)) (.skip))))))))))))) (.seq (rn [jj 64 (.bslice 4 [eN,eN,eN,eN] [(0,1,(.c (.string ⟨#[43]⟩))),(1,1,(.c (.string ⟨#[45]⟩))),(2,1,(.c (.string ⟨#[42]⟩))),(3,1,(.c (.string ⟨#[47]⟩)))]),mv 65 0,jj 66 (.call 136 [(.t 65),(kk 4)]),jj 67 (.indexAddr 1 (.t 64) (.t 66)),l1 68 67,mv 7 68] [0,1,4,7]) (.seq (rn [mv 69 0,mv 70 1,bk 71 .sub 70 1,cl 72 177 [69,71],jj 8 (.alloc [zN,zN,eN,sN]),st 4 8 72] [0,1,4,7,8]) (.seq (.region (some []) [mv 73 7,⟨some 74,.load true 4 (.t 8),none,[5]⟩,mv 75 0,mv 76 1,bk 77 .sub 76 1,cl 78 177 [75,77],jj 79 (.call 178 [(kk 14),(.t 73),(.t 74),(.t 78)]),st 4 4 79] [4] [5,6]) (.ret))))))),false,false,false⟩
def F178:PFun:=⟨4,[.cell 8 true 4],.seq (rn [bx 6 2,bx 7 3,jj 8 (.alloc [zN,zN,eN,sN])] [0,1,6,7,8]) (.seq (rn [mv 9 0,mv 10 1,la 11 4 6,la 12 4 7,jj 13 (.bslice 2 [zN,zN,eN,sN,zN,zN,eN,sN] [(0,4,(.t 11)),(4,4,(.t 12))]),jj 14 (.build [zN,zN,eN,sN] [(0,1,(.t 9)),(2,1,(.t 10)),(3,1,(.t 13))]),st 4 8 14] [8]) (.ret)),false,false,false⟩
def F179:PFun:=⟨2,[.cell 4 true 4],.seq (rn [jj 4 (.alloc [zN,zN,eN,sN])] [0,1,4]) (.seq (rn [mv 10 0,jj 11 (.call 136 [(.t 10),(kk 8)]),mv 5 11] [0,1,4,5]) (.seq (.seq (rn [mv 12 1,bk 13 .leq 12 0] [0,1,4,5,13]) (.cond (.t 13) (rn [mv 14 5,bk 15 .rem 14 4,mv 5 15] [0,1,4,5]) (.skip))) (.seq (.seq (rn [mv 16 5] [0,1,4,16]) (.block 0 (.seq (rn [bk 18 .eql 16 0,mv 17 18] [0,1,4,16,17]) (.cond (.t 17) (.seq (rn [mv 19 0,jj 20 (.call 136 [(.t 19),(kk 2)]),jj 21 (.build [zN,zN,eN,sN] [(0,1,(kk 9)),(1,1,(.t 20))]),st 4 4 21] [4]) (.ret)) (.seq (.seq (rn [bk 23 .eql 16 1,mv 22 23] [0,1,4,16,22]) (.cond (.t 22) (.skip) (.seq (rn [bk 24 .eql 16 2,mv 22 24] [0,1,4,16,22]) (.cond (.t 22) (.skip) (.seq (rn [bk 25 .eql 16 3,mv 22 25] [0,1,4,16,22]) (.cond (.t 22) (.skip) (rn [bk 26 .eql 16 4,mv 22 26] [0,1,4,16,22]))))))) (.cond (.t 22) (.seq (rn [jj 27 (.bslice 6 [eN,eN,eN,eN,eN,eN] [(0,1,(.c (.string ⟨#[60]⟩))),(1,1,(.c (.string ⟨#[60,61]⟩))),(2,1,(.c (.string ⟨#[62]⟩))),(3,1,(.c (.string ⟨#[62,61]⟩))),(4,1,(.c (.string ⟨#[61,61]⟩))),(5,1,(.c (.string ⟨#[33,61]⟩)))]),mv 28 0,jj 29 (.call 136 [(.t 28),(kk 6)]),jj 30 (.indexAddr 1 (.t 27) (.t 29)),l1 31 30,mv 6 31] [0,1,4,6]) (.seq (rn [mv 32 0,mv 33 1,bk 34 .sub 33 1,cl 35 177 [32,34],jj 7 (.alloc [zN,zN,eN,sN]),st 4 7 35] [0,1,4,6,7]) (.seq (.region (some []) [mv 36 6,⟨some 37,.load true 4 (.t 7),none,[5]⟩,mv 38 0,mv 39 1,bk 40 .sub 39 1,cl 41 177 [38,40],jj 42 (.call 178 [(kk 14),(.t 36),(.t 37),(.t 41)]),st 4 4 42] [4] [5,6]) (.ret)))) (.seq (rn [bk 44 .eql 16 5,mv 43 44] [0,1,4,43]) (.cond (.t 43) (.seq (rn [mv 45 0,mv 46 1,bk 47 .sub 46 1,cl 48 179 [45,47],jj 49 (.call 176 [(kk 13),(.c (.string ⟨#[33]⟩)),(.t 48)]),st 4 4 49] [4]) (.ret)) (.skip))))))))) (.seq (rn [jj 50 (.bslice 2 [eN,eN] [(0,1,(.c (.string ⟨#[38,38]⟩))),(1,1,(.c (.string ⟨#[124,124]⟩)))]),mv 51 0,jj 52 (.call 136 [(.t 51),(kk 2)]),jj 53 (.indexAddr 1 (.t 50) (.t 52)),l1 54 53,mv 8 54] [0,1,4,8]) (.seq (rn [mv 55 0,mv 56 1,bk 57 .sub 56 1,cl 58 179 [55,57],jj 9 (.alloc [zN,zN,eN,sN]),st 4 9 58] [0,1,4,8,9]) (.seq (.region (some []) [mv 59 8,⟨some 60,.load true 4 (.t 9),none,[5]⟩,mv 61 0,mv 62 1,bk 63 .sub 62 1,cl 64 179 [61,63],jj 65 (.call 178 [(kk 14),(.t 59),(.t 60),(.t 64)]),st 4 4 65] [4] [5,6]) (.ret))))))),false,false,false⟩
end Go.Pm.F
end SF3g
section SF5
namespace Go.Pm.F
variable (C:Task->Option Res) (q:Nat) (fr:Fr) (σ : S)
def effRows15:List (List Int):=[[0,0],[0,1],[0,1],[1,0],[1,1],[2,0],[0,1],[0,1],[0,1],[2,1],[2,1],[2,1],[2,1],[1,1],[2,1],[2,1],[2,1],[1,1],[0,0],[1,0],[2,0],[0,0]]
def qhQ:List D:=effRows15.flatten.map fun n => .lit (.int .i64 n)
end Go.Pm.F
end SF5
section STb15
namespace Go.Pm.F
def qbo:Nat->Option PFun
 | 17=>some F17
 | 23=>some F23
 | 123=>some F123
 | 136=>some F136
 | 137=>some F137
 | 152=>some F152
 | 162=>some F162
 | 176=>some F176
 | 177=>some F177
 | 178=>some F178
 | 179=>some F179
 | 192=>some F192
 | 193=>some F193
 | _=>none
end Go.Pm.F
end STb15
section SGc
namespace Go.Pm
def E.cost:E->Nat
 | .int n=>(qiw n.toNat).length+1
 | .bool n=>if n=0 then 6 else 5
 | .var s=>s.size+1
 | .name s=>s.size+1
 | .field _ s e=>s.size+5+e.cost
 | .un _ _ e=>6+e.cost
 | .bin _ o a b=>o.str.size+5+(a.cost+b.cost)
def Ss.cost:Ss->Nat
 | .nil=>0
 | .assign _ s e r=>s.size+5+e.cost+r.cost
 | .store _ s a b r=>s.size+9+(a.cost+b.cost)+r.cost
 | .effect _ a b r=>11+(a.cost+b.cost)+r.cost
 | .stop r=>7+r.cost
 | .cond w _ c b r=>(if w then 6 else 3)+c.cost+b.cost+r.cost
 | .block _ b r=>4+b.cost+((if qdw r then 5 else 0)+r.cost)
def Co (c0:Int) (cost:Nat) (xs:List Int) (i i':Int):Prop:=i<=i'/\(i'<=i\/i'<=xs.length)/\(cost:Int)<=c0+24*(i'-i)
end Go.Pm
end SGc
section SG1
namespace Go.Pm
open F
theorem qp0 {n m:Int} (h1:I64 n) (hm:1<=m):Z qbo (.call 17 [.int n,.int m] [])=some (.ret (.int (qhA n m)) []):=by
 refine Z_call (pf:=F17) rfl rfl ?_
 unfold qhA
 have hm0 : ¬ m=0:=by omega
 by_cases h:n<0
 ·have w1:IntKind.i64.wrap (n+1)=n+1:=qal _ (by unfold I64 at h1; omega)
  have w2:IntKind.i64.wrap (-(n+1)) = -(n+1):=qal _ (by unfold I64 at h1; omega)
  simp[F17,h,hm0,w1,w2]
 ·simp[F17,h,hm0]
abbrev qr0 (v:D) (i:Int):S:=[.cells [.dat v,.int i]]
abbrev gst (xs:List Int) (i:Int):S:=qr0 (qd1 xs) i
def qay (xs:List Int) (i m:Int):Int:=if (xs.length:Int)<=i then 0 else (qhA (xs.getD i.toNat 0) 1000000).tmod m
def qaA (xs:List Int) (i:Int):Int:=if (xs.length:Int)<=i then i else i+1
structure Bnd (v:D) (xs:List Int) (B:Int):Prop where
 row:RowV v xs
 len:(xs.length:Int)<=B
 big:B<=9223372036854775807
theorem qmP (xs:List Int):RowV (qd1 xs) xs:=by
 cases xs
 ·exact .inl ⟨_,rfl,rfl⟩
 ·exact .inr rfl
theorem qbt {xs:List Int} (h:xs.length<=100):Bnd (qd1 xs) xs 100:=⟨qmP xs,by omega,by omega⟩
theorem qau {v:D} {xs:List Int} {i B:Int} (h:0<=i/\i<=B) (hl:Bnd v xs B):0<=qaA xs i/\qaA xs i<=B:=by
 have:=hl.len
 unfold qaA; split<;>omega
theorem qas (xs:List Int) (i:Int):(qaA xs i=i+1/\i<xs.length)\/(qaA xs i=i /\ ∀ m,qay xs i m=0):=by
 unfold qaA qay
 split
 ·exact .inr ⟨rfl,fun m=>rfl⟩
 ·exact .inl ⟨rfl,by omega⟩
theorem qbc {xs:List Int} {i m:Int} (hx : ∀ x∈xs,I64 x) (hm:1<=m):0<=qay xs i m/\qay xs i m<m:=by
 unfold qay
 split
 ·omega
 ·have h0:I64 (xs.getD i.toNat 0):=by
   rw[List.getD_eq_getElem?_getD]
   cases h:xs[i.toNat]? with
   | none=>simp[I64]
   | some y=>exact hx _ (List.mem_of_getElem? h)
  have:=qoc (m:=1000000) h0 (by omega)
  exact qgO this.1 hm
theorem qbj {v:D} {xs:List Int} {i m B:Int} (hx : ∀ x∈xs,I64 x) (hl:Bnd v xs B) (hi:0<=i/\i<=B) (hm:1<=m) :
  Z qbo (.call 136 [.ptr 0 0,.int m] (qr0 v i))=some (.ret (.int (qay xs i m)) (qr0 v (qaA xs i))):=by
 refine Z_call (pf:=F136) rfl rfl ?_
 have hm0:m≠0:=by omega
 have hb:=hl.len
 have hb2:=hl.big
 rcases hl.row with ⟨o,rfl,rfl⟩ | rfl
 ·have h:(0:Int)<=i:=hi.1
  simp[F136,h,qay,qaA,V.len]
 by_cases h:(xs.length:Int)<=i
 ·simp[F136,h,qay,qaA,V.len]
 ·have a1:=qdE (qcw xs) xs.length false i hi.1 (by omega)
  have hlt:i.toNat<xs.length:=by omega
  have a2:=qj1 xs i.toNat hlt
  have a3:=qp0 (n:=xs[i.toNat]) (m:=1000000) (hx _ (List.getElem_mem hlt)) (by omega)
  have w1:=qal (i+1) (by omega)
  simp[F136,w1,h,qay,qaA,V.len,a1,a2,a3,hm0,hlt]
section
variable (k:Int) (s:ByteArray) (a b a' b':Int) (t t':ByteArray) (d d':D)
theorem qox (h1:V.one (.dat d)=true) (h2:V.cells (.dat d)=[.dat d]) :
  Z qbo (.call 176 [.int k,.str s,.dat (.agg [.lit (.int .i64 a),.lit (.int .i64 b),.lit (.string t),d])] []) =
   some (.ret (.dat (.agg [.lit (.int .i64 k),.lit (.int .i64 0),.lit (.string s),.sl [.lit (.int .i64 a),.lit (.int .i64 b),.lit (.string t),d] 1 true])) []):=by
 refine Z_call (pf:=F176) rfl rfl ?_
 simp[F176,h1,h2]
theorem qmQ (h1:V.one (.dat d)=true) (h2:V.cells (.dat d)=[.dat d]) (h3:V.one (.dat d')=true) (h4:V.cells (.dat d')=[.dat d']) :
  Z qbo (.call 178 [.int k,.str s,.dat (.agg [.lit (.int .i64 a),.lit (.int .i64 b),.lit (.string t),d]),.dat (.agg [.lit (.int .i64 a'),.lit (.int .i64 b'),.lit (.string t'),d'])] []) =
   some (.ret (.dat (.agg [.lit (.int .i64 k),.lit (.int .i64 0),.lit (.string s),.sl [.lit (.int .i64 a),.lit (.int .i64 b),.lit (.string t),d,.lit (.int .i64 a'),.lit (.int .i64 b'),.lit (.string t'),d'] 2 true])) []):=by
 refine Z_call (pf:=F178) rfl rfl ?_
 simp[F178,h1,h2,h3,h4,List.range_succ]
end
def qmR:List ByteArray:=[⟨#[105]⟩,⟨#[110]⟩,⟨#[115,117,109]⟩,⟨#[118,51]⟩]
def qtR:List ByteArray:=qmR++[⟨#[118]⟩]
def qky:List ByteArray:=[⟨#[115,101,108,102]⟩,⟨#[111,116,104,101,114]⟩,⟨#[116,105,99,107]⟩]
def qhH:List ByteArray:=[⟨#[120]⟩,⟨#[121]⟩,⟨#[118,120]⟩,⟨#[118,121]⟩,⟨#[97]⟩,⟨#[98]⟩]
def qfU:List ByteArray:=qhH++[⟨#[104,105,116]⟩,⟨#[115,116,105,108,108]⟩]
def E.fine:E->Prop
 | .int n=>0<=n/\n<=2147483647
 | .bool n=>n=0\/n=1
 | .var s=>s∈qtR
 | .name s=>s∈qky
 | .field _ s e=>s∈qfU/\e.fine/\e.ty=1
 | .un _ neg e=>e.fine/\e.ty=if neg then 1 else 2
 | .bin _ o a b=>a.fine/\b.fine/\a.ty=o.opd/\b.ty=o.opd
def E.dp:E->Nat
 | .field _ _ e=>e.dp+1
 | .un _ _ e=>e.dp+1
 | .bin _ _ a b=>max a.dp b.dp+1
 | _=>0
def mxs:Nat->Nat
 | 0=>1
 | n+1=>2*mxs n+1
theorem qhI (n:Nat):1<=mxs n:=by cases n<;>simp[mxs]
def GIb (B:Int) (v:D) (xs:List Int) (d i:Int):Prop := ∃ (e:E) (i':Int),(e.fine/\e.ty=1/\e.dp<=d.toNat/\e.size<=mxs d.toNat/\Co 2 e.cost xs i i')/\(0<=i'/\i'<=B) /\
 Z qbo (.call 177 [.ptr 0 0,.int d] (qr0 v i))=some (.ret e.node (qr0 v i'))
def GBb (B:Int) (v:D) (xs:List Int) (d i:Int):Prop := ∃ (e:E) (i':Int),(e.fine/\e.ty=2/\e.dp<=d.toNat+1/\e.size<=mxs (d.toNat+1)/\Co 6 e.cost xs i i')/\(0<=i'/\i'<=B) /\
 Z qbo (.call 179 [.ptr 0 0,.int d] (qr0 v i))=some (.ret e.node (qr0 v i'))
abbrev GI (xs:List Int):=GIb 100 (qd1 xs) xs
abbrev GB (xs:List Int):=GBb 100 (qd1 xs) xs
theorem qhJ {l:List ByteArray} {p:Int} (h:0<=p/\p<l.length) : ∃ s∈l,qaz (qaW l) p.toNat 1=some [.lit (.string s)]:=
 ⟨_,List.getElem_mem (by omega:p.toNat<l.length),qjC l p.toNat (by omega)⟩
def nums:List Int:=[0,1,2,3,7,100,1024,2147483647]
def qsr:List Bop:=[.add,.sub,.mul,.div]
theorem qr1 {p:Int} (h:0<=p/\p<4) : ∃ o∈qsr,qaz (qaW [⟨#[43]⟩,⟨#[45]⟩,⟨#[42]⟩,⟨#[47]⟩]) p.toNat 1=some [.lit (.string (Bop.str o))]:=by
 obtain rfl | rfl | rfl | rfl:p=0\/p=1\/p=2\/p=3:=by omega
 ·exact⟨.add,by simp[qsr],rfl⟩
 ·exact⟨.sub,by simp[qsr],rfl⟩
 ·exact⟨.mul,by simp[qsr],rfl⟩
 ·exact⟨.div,by simp[qsr],rfl⟩
section
variable {v:D} {xs:List Int} {i d B:Int} (hx : ∀ x∈xs,I64 x) (hl:Bnd v xs B) (hi:0<=i/\i<=B)
include hx hl hi
def qiJ (xs:List Int) (d i:Int):Int:=if d<=0 then (qay xs i 12).tmod 6 else qay xs i 12
theorem qoy (h:qiJ xs d i=0\/qiJ xs d i=1):GIb B v xs d i:=by
 have n1:=qbj (i:=i) (m:=12) hx hl hi (by omega)
 have r1:=qau hi hl
 have n2:=qbj (i:=qaA xs i) (m:=8) hx hl r1 (by omega)
 have r2:=qau r1 hl
 have p:=qbc (i:=qaA xs i) (m:=8) hx (by omega)
 have hat:=qdE (qcw nums) 8 true (qay xs (qaA xs i) 8) p.1 (by omega)
 have hc:=qj1 nums (qay xs (qaA xs i) 8).toNat (by simp[nums]; omega)
 have hm : ∀ n∈nums,0<=n/\n<=2147483647:=by decide
 have hn:=hm _ (List.getElem_mem (l:=nums) (n:=(qay xs (qaA xs i) 8).toNat) (by simp[nums]; omega))
 have hlen:(qay xs (qaA xs i) 8).toNat<nums.length:=by simp[nums]; omega
 have hco:Co 2 (E.cost (.int (nums[(qay xs (qaA xs i) 8).toNat]'hlen))) xs i (qaA xs (qaA xs i)):=by
  have hcs : ∀ n∈nums,E.cost (.int n)<=11:=by decide +kernel
  have h11:=hcs _ (List.getElem_mem hlen)
  have h0 : ∀ (k:Nat) (hk:k<nums.length),k=0->E.cost (.int (nums[k]'hk))=2:=fun k hk e=>by subst e; exact (by decide +kernel:E.cost (.int 0)=2)
  have hz:=h0 _ hlen
  unfold Co
  rcases qas xs i with ⟨e1,l1⟩ | ⟨e1,l1⟩
  ·rcases qas xs (qaA xs i) with ⟨e2,l2⟩ | ⟨e2,l2⟩<;>omega
  ·have e3:qay xs (qaA xs i) 8=0:=by rw[e1]; exact l1 8
   have e4:=hz (by rw[e3]; rfl)
   rcases qas xs (qaA xs i) with ⟨e2,l2⟩ | ⟨e2,l2⟩<;>omega
 generalize nums[(qay xs (qaA xs i) 8).toNat]'_=vv at hc hn hco
 simp only[nums,qcw,List.map] at hat hc
 refine⟨.int vv,_,⟨hn,rfl,Nat.zero_le _,qhI _,hco⟩,r2,?_⟩
 refine Z_call (pf:=F177) rfl rfl ?_
 unfold qiJ at h
 by_cases hd:d<=0
 ·rw[if_pos hd] at h
  rcases h with h | h<;>simp[F177,n1,n2,hd,h,hat,hc]
 ·rw[if_neg hd] at h
  rcases h with h | h<;>simp[F177,n1,n2,hd,h,hat,hc]
theorem qoz (h:qiJ xs d i=2\/qiJ xs d i=3):GIb B v xs d i:=by
 have n1:=qbj (i:=i) (m:=12) hx hl hi (by omega)
 have r1:=qau hi hl
 have n2:=qbj (i:=qaA xs i) (m:=4) hx hl r1 (by omega)
 have r2:=qau r1 hl
 have p:=qbc (i:=qaA xs i) (m:=4) hx (by omega)
 have hat:=qdE (qaW qmR) 4 true (qay xs (qaA xs i) 4) p.1 (by omega)
 obtain⟨s,hs,hc⟩:=qhJ (l:=qmR) (p:=qay xs (qaA xs i) 4) (by simpa [qmR] using p)
 simp only[qmR,qaW,List.map] at hat hc
 have hsel:qay xs i 12≠0:=fun h0=>by
  unfold qiJ at h
  rw[h0] at h
  split at h<;>simp at h
 have hco:Co 2 (E.cost (.var s)) xs i (qaA xs (qaA xs i)):=by
  have hcs : ∀ s∈qmR,s.size<=5:=by decide
  have h5:=hcs s hs
  show _/\_/\((s.size+1:Nat):Int)<=_
  rcases qas xs i with ⟨e1,l1⟩ | ⟨e1,l1⟩
  ·rcases qas xs (qaA xs i) with ⟨e2,l2⟩ | ⟨e2,l2⟩<;>omega
  ·exact absurd (l1 12) hsel
 refine⟨.var s,_,⟨List.mem_append_left _ hs,rfl,Nat.zero_le _,qhI _,hco⟩,r2,?_⟩
 refine Z_call (pf:=F177) rfl rfl ?_
 unfold qiJ at h
 by_cases hd:d<=0
 ·rw[if_pos hd] at h
  rcases h with h | h<;>simp[F177,n1,n2,hd,h,hat,hc]
 ·rw[if_neg hd] at h
  rcases h with h | h<;>simp[F177,n1,n2,hd,h,hat,hc]
theorem qma (h:qiJ xs d i=4\/qiJ xs d i=5):GIb B v xs d i:=by
 have n1:=qbj (i:=i) (m:=12) hx hl hi (by omega)
 have r1:=qau hi hl
 have n2:=qbj (i:=qaA xs i) (m:=3) hx hl r1 (by omega)
 have r2:=qau r1 hl
 have p:=qbc (i:=qaA xs i) (m:=3) hx (by omega)
 have hat:=qdE (qaW qky) 3 true (qay xs (qaA xs i) 3) p.1 (by omega)
 obtain⟨s,hs,hc⟩:=qhJ (l:=qky) (p:=qay xs (qaA xs i) 3) (by simpa [qky] using p)
 simp only[qky,qaW,List.map] at hat hc
 have hsel:qay xs i 12≠0:=fun h0=>by
  unfold qiJ at h
  rw[h0] at h
  split at h<;>simp at h
 have hco:Co 2 (E.cost (.name s)) xs i (qaA xs (qaA xs i)):=by
  have hcs : ∀ s∈qky,s.size<=5:=by decide
  have h5:=hcs s hs
  show _/\_/\((s.size+1:Nat):Int)<=_
  rcases qas xs i with ⟨e1,l1⟩ | ⟨e1,l1⟩
  ·rcases qas xs (qaA xs i) with ⟨e2,l2⟩ | ⟨e2,l2⟩<;>omega
  ·exact absurd (l1 12) hsel
 refine⟨.name s,_,⟨hs,rfl,Nat.zero_le _,qhI _,hco⟩,r2,?_⟩
 refine Z_call (pf:=F177) rfl rfl ?_
 unfold qiJ at h
 by_cases hd:d<=0
 ·rw[if_pos hd] at h
  rcases h with h | h<;>simp[F177,n1,n2,hd,h,hat,hc]
 ·rw[if_neg hd] at h
  rcases h with h | h<;>simp[F177,n1,n2,hd,h,hat,hc]
theorem qoA (hd : ¬ d<=0) (hd2:d<=1000) (ih : ∀ j,0<=j/\j<=B->GIb B v xs (d-1) j) (h:qay xs i 12=6\/qay xs i 12=7):GIb B v xs d i:=by
 have n1:=qbj (i:=i) (m:=12) hx hl hi (by omega)
 have r1:=qau hi hl
 have n2:=qbj (i:=qaA xs i) (m:=8) hx hl r1 (by omega)
 have r2:=qau r1 hl
 have p:=qbc (i:=qaA xs i) (m:=8) hx (by omega)
 have hat:=qdE (qaW qfU) 8 true (qay xs (qaA xs i) 8) p.1 (by omega)
 obtain⟨s,hs,hc⟩:=qhJ (l:=qfU) (p:=qay xs (qaA xs i) 8) (by simpa [qfU,qhH] using p)
 simp only[qfU,qhH,qaW,List.map,List.cons_append,List.nil_append] at hat hc
 obtain⟨e,i',h1,h2,h3⟩:=ih _ r2
 have o:=qox 11 s e.kind e.num e.str e.kids (by simp) (by simp)
 have w1:=qal (d-1) (by omega)
 have ed:d.toNat=(d-1).toNat+1:=by omega
 have hco:Co 2 (E.cost (.field true s e)) xs i i':=by
  have hcs : ∀ s∈qfU,s.size<=5:=by decide
  have h5:=hcs s hs
  obtain⟨q1,q2,q3⟩:=h1.2.2.2.2
  show _/\_/\((s.size+5+e.cost:Nat):Int)<=_
  rcases qas xs i with ⟨e1,l1⟩ | ⟨e1,l1⟩
  ·rcases qas xs (qaA xs i) with ⟨e2,l2⟩ | ⟨e2,l2⟩<;>omega
  ·exact absurd (l1 12) (by omega)
 refine⟨.field true s e,i',⟨⟨hs,h1.1,h1.2.1⟩,by simp[h1.2.1],by rw[ed]; simp only[E.dp]; omega,by rw[ed]; simp only[mxs,qmN]; omega,hco⟩,h2,?_⟩
 refine Z_call (pf:=F177) rfl rfl ?_
 rcases h with h | h<;>simp[F177,n1,n2,hd,h,hat,hc,h3,o,w1]
theorem qr2 (hd : ¬ d<=0) (hd2:d<=1000) (ih : ∀ j,0<=j/\j<=B->GIb B v xs (d-1) j) (h:qay xs i 12=8):GIb B v xs d i:=by
 have n1:=qbj (i:=i) (m:=12) hx hl hi (by omega)
 have r1:=qau hi hl
 obtain⟨e,i',h1,h2,h3⟩:=ih _ r1
 have o:=qox 13 ⟨#[45]⟩ e.kind e.num e.str e.kids (by simp) (by simp)
 have w1:=qal (d-1) (by omega)
 have ed:d.toNat=(d-1).toNat+1:=by omega
 have hco:Co 2 (E.cost (.un true true e)) xs i i':=by
  obtain⟨q1,q2,q3⟩:=h1.2.2.2.2
  show _/\_/\((6+e.cost:Nat):Int)<=_
  rcases qas xs i with ⟨e1,l1⟩ | ⟨e1,l1⟩
  ·omega
  ·exact absurd (l1 12) (by omega)
 refine⟨.un true true e,i',⟨⟨h1.1,h1.2.1⟩,by simp[h1.2.1],by rw[ed]; simp only[E.dp]; omega,by rw[ed]; simp only[mxs,qlf]; omega,hco⟩,h2,?_⟩
 refine Z_call (pf:=F177) rfl rfl ?_
 simp[F177,n1,hd,h,h3,o,w1,ustr]
theorem qr3 (hd : ¬ d<=0) (hd2:d<=1000) (ih : ∀ j,0<=j/\j<=B->GIb B v xs (d-1) j) (h:9<=qay xs i 12):GIb B v xs d i:=by
 have n1:=qbj (i:=i) (m:=12) hx hl hi (by omega)
 have r1:=qau hi hl
 have n2:=qbj (i:=qaA xs i) (m:=4) hx hl r1 (by omega)
 have r2:=qau r1 hl
 have p:=qbc (i:=qaA xs i) (m:=4) hx (by omega)
 have hat:=qdE (qaW [⟨#[43]⟩,⟨#[45]⟩,⟨#[42]⟩,⟨#[47]⟩]) 4 true (qay xs (qaA xs i) 4) p.1 (by omega)
 obtain⟨o,ho,hc⟩:=qr1 p
 simp only[qaW,List.map] at hat hc
 obtain⟨a,i1,h1,h2,h3⟩:=ih _ r2
 obtain⟨b,i2,h4,h5,h6⟩:=ih _ h2
 have ot:=qmQ 14 o.str a.kind a.num b.kind b.num a.str b.str a.kids b.kids (by simp) (by simp) (by simp) (by simp)
 have w1:=qal (d-1) (by omega)
 have ed:d.toNat=(d-1).toNat+1:=by omega
 have ho1:o.opd=1/\o.res=1:=by
  simp only[qsr,List.mem_cons,List.not_mem_nil,or_false] at ho
  rcases ho with rfl | rfl | rfl | rfl<;>exact⟨rfl,rfl⟩
 have hco:Co 2 (E.cost (.bin true o a b)) xs i i2:=by
  have ho2:o.str.size<=2:=by cases o<;>decide
  obtain⟨q1,q2,q3⟩:=h1.2.2.2.2
  obtain⟨q4,q5,q6⟩:=h4.2.2.2.2
  show _/\_/\((o.str.size+5+(a.cost+b.cost):Nat):Int)<=_
  rcases qas xs i with ⟨e1,l1⟩ | ⟨e1,l1⟩
  ·rcases qas xs (qaA xs i) with ⟨e2,l2⟩ | ⟨e2,l2⟩<;>omega
  ·exact absurd (l1 12) (by omega)
 refine⟨.bin true o a b,i2,⟨⟨h1.1,h4.1,by rw[ho1.1]; exact h1.2.1,by rw[ho1.1]; exact h4.2.1⟩,by simp[h1.2.1,h4.2.1,ho1.1,ho1.2],by rw[ed]; simp only[E.dp]; omega,by rw[ed]; simp only[mxs,qgP]; omega,hco⟩,h5,?_⟩
 refine Z_call (pf:=F177) rfl rfl ?_
 have k0 : ¬ qay xs i 12=0:=by omega
 have k1 : ¬ qay xs i 12=1:=by omega
 have k2 : ¬ qay xs i 12=2:=by omega
 have k3 : ¬ qay xs i 12=3:=by omega
 have k4 : ¬ qay xs i 12=4:=by omega
 have k5 : ¬ qay xs i 12=5:=by omega
 have k6 : ¬ qay xs i 12=6:=by omega
 have k7 : ¬ qay xs i 12=7:=by omega
 have k8 : ¬ qay xs i 12=8:=by omega
 simp[F177,n1,n2,hd,k0,k1,k2,k3,k4,k5,k6,k7,k8,hat,hc,h3,h6,ot,w1]
end
end Go.Pm
end SG1
section SG2
namespace Go.Pm
open F
theorem qnI {v:D} {xs:List Int} {B:Int} (hx : ∀ x∈xs,I64 x) (hl:Bnd v xs B) : ∀ (n:Nat) (d i:Int),d<=n->n<=1000->(0<=i/\i<=B)->GIb B v xs d i
 | n,d,i,hd,hn,hi=>by
  have p:=qbc (i:=i) (m:=12) hx (by omega)
  by_cases h0:d<=0
  ·have q:=qgO p.1 (m:=6) (by omega)
   have e:qiJ xs d i=(qay xs i 12).tmod 6:=if_pos h0
   by_cases h1:qiJ xs d i<2
   ·exact qoy hx hl hi (by omega)
   by_cases h2:qiJ xs d i<4
   ·exact qoz hx hl hi (by omega)
   ·exact qma hx hl hi (by omega)
  ·have e:qiJ xs d i=qay xs i 12:=if_neg h0
   by_cases h1:qiJ xs d i<2
   ·exact qoy hx hl hi (by omega)
   by_cases h2:qiJ xs d i<4
   ·exact qoz hx hl hi (by omega)
   by_cases h3:qiJ xs d i<6
   ·exact qma hx hl hi (by omega)
   cases n with
   | zero=>omega
   | succ n=>
    have ih : ∀ j,0<=j/\j<=B->GIb B v xs (d-1) j:=fun j hj=>qnI hx hl n (d-1) j (by omega) (by omega) hj
    by_cases h4:qiJ xs d i<8
    ·exact qoA hx hl hi h0 (by omega) ih (by omega)
    by_cases h5:qiJ xs d i=8
    ·exact qr2 hx hl hi h0 (by omega) ih (by omega)
    ·exact qr3 hx hl hi h0 (by omega) ih (by omega)
def qqg:List Bop:=[.lt,.le,.gt,.ge,.eq,.ne]
theorem qrg {p:Int} (h:0<=p/\p<6) : ∃ o∈qqg,qaz (qaW [⟨#[60]⟩,⟨#[60,61]⟩,⟨#[62]⟩,⟨#[62,61]⟩,⟨#[61,61]⟩,⟨#[33,61]⟩]) p.toNat 1=some [.lit (.string (Bop.str o))]:=by
 obtain rfl | rfl | rfl | rfl | rfl | rfl:p=0\/p=1\/p=2\/p=3\/p=4\/p=5:=by omega
 ·exact⟨.lt,by simp[qqg],rfl⟩
 ·exact⟨.le,by simp[qqg],rfl⟩
 ·exact⟨.gt,by simp[qqg],rfl⟩
 ·exact⟨.ge,by simp[qqg],rfl⟩
 ·exact⟨.eq,by simp[qqg],rfl⟩
 ·exact⟨.ne,by simp[qqg],rfl⟩
def que:List Bop:=[.and,.or]
theorem qrh {p:Int} (h:0<=p/\p<2) : ∃ o∈que,qaz (qaW [⟨#[38,38]⟩,⟨#[124,124]⟩]) p.toNat 1=some [.lit (.string (Bop.str o))]:=by
 obtain rfl | rfl:p=0\/p=1:=by omega
 ·exact⟨.and,by simp[que],rfl⟩
 ·exact⟨.or,by simp[que],rfl⟩
def qnJ (xs:List Int) (d i:Int):Int:=if d<=0 then (qay xs i 8).tmod 4 else qay xs i 8
section
variable {v:D} {xs:List Int} {i d B:Int} (hx : ∀ x∈xs,I64 x) (hl:Bnd v xs B) (hi:0<=i/\i<=B)
include hx hl hi
theorem qlK (h:qnJ xs d i=0):GBb B v xs d i:=by
 have n1:=qbj (i:=i) (m:=8) hx hl hi (by omega)
 have r1:=qau hi hl
 have n2:=qbj (i:=qaA xs i) (m:=2) hx hl r1 (by omega)
 have r2:=qau r1 hl
 have p:=qbc (i:=qaA xs i) (m:=2) hx (by omega)
 have hco:Co 6 (E.cost (.bool (qay xs (qaA xs i) 2))) xs i (qaA xs (qaA xs i)):=by
  have hb:E.cost (.bool (qay xs (qaA xs i) 2))<=6:=by simp only[E.cost]; split<;>omega
  unfold Co
  rcases qas xs i with ⟨e1,l1⟩ | ⟨e1,l1⟩<;>rcases qas xs (qaA xs i) with ⟨e2,l2⟩ | ⟨e2,l2⟩<;>omega
 refine⟨.bool (qay xs (qaA xs i) 2),_,⟨by show _\/_; omega,rfl,Nat.zero_le _,qhI _,hco⟩,r2,?_⟩
 refine Z_call (pf:=F179) rfl rfl ?_
 unfold qnJ at h
 by_cases hd:d<=0
 ·rw[if_pos hd] at h
  simp[F179,n1,n2,hd,h]
 ·rw[if_neg hd] at h
  simp[F179,n1,n2,hd,h]
theorem qlL (hd2:d<=1000) (hd3 : -1000<=d) (ih : ∀ j,0<=j/\j<=B->GIb B v xs (d-1) j) (h:1<=qnJ xs d i/\qnJ xs d i<=4):GBb B v xs d i:=by
 have n1:=qbj (i:=i) (m:=8) hx hl hi (by omega)
 have r1:=qau hi hl
 have n2:=qbj (i:=qaA xs i) (m:=6) hx hl r1 (by omega)
 have r2:=qau r1 hl
 have p:=qbc (i:=qaA xs i) (m:=6) hx (by omega)
 have hat:=qdE (qaW [⟨#[60]⟩,⟨#[60,61]⟩,⟨#[62]⟩,⟨#[62,61]⟩,⟨#[61,61]⟩,⟨#[33,61]⟩]) 6 true (qay xs (qaA xs i) 6) p.1 (by omega)
 obtain⟨o,ho,hc⟩:=qrg p
 simp only[qaW,List.map] at hat hc
 obtain⟨a,i1,h1,h2,h3⟩:=ih _ r2
 obtain⟨b,i2,h4,h5,h6⟩:=ih _ h2
 have ot:=qmQ 14 o.str a.kind a.num b.kind b.num a.str b.str a.kids b.kids (by simp) (by simp) (by simp) (by simp)
 have w1:=qal (d-1) (by omega)
 have ed:(d-1).toNat<=d.toNat:=by omega
 have hm:mxs (d-1).toNat<=mxs d.toNat:=by
  by_cases h0:d<=0
  ·rw[show (d-1).toNat=0 by omega]; exact qhI _
  ·rw[show d.toNat=(d-1).toNat+1 by omega]; simp only[mxs]; omega
 have ho1:o.opd=1/\o.res=2:=by
  simp only[qqg,List.mem_cons,List.not_mem_nil,or_false] at ho
  rcases ho with rfl | rfl | rfl | rfl | rfl | rfl<;>exact⟨rfl,rfl⟩
 have hco:Co 6 (E.cost (.bin true o a b)) xs i i2:=by
  have ho2:o.str.size<=2:=by cases o<;>decide
  obtain⟨q1,q2,q3⟩:=h1.2.2.2.2
  obtain⟨q4,q5,q6⟩:=h4.2.2.2.2
  show _/\_/\((o.str.size+5+(a.cost+b.cost):Nat):Int)<=_
  rcases qas xs i with ⟨e1,l1⟩ | ⟨e1,l1⟩
  ·rcases qas xs (qaA xs i) with ⟨e2,l2⟩ | ⟨e2,l2⟩<;>omega
  ·exact absurd (l1 8) (fun h0=>by
    unfold qnJ at h
    rw[h0] at h
    split at h<;>simp at h)
 refine⟨.bin true o a b,i2,⟨⟨h1.1,h4.1,by rw[ho1.1]; exact h1.2.1,by rw[ho1.1]; exact h4.2.1⟩,by simp[h1.2.1,h4.2.1,ho1.1,ho1.2],by simp only[E.dp]; omega,by simp only[mxs,qgP]; omega,hco⟩,h5,?_⟩
 refine Z_call (pf:=F179) rfl rfl ?_
 unfold qnJ at h
 by_cases hd:d<=0
 ·rw[if_pos hd] at h
  obtain h' | h' | h' | h':(qay xs i 8).tmod 4=1\/(qay xs i 8).tmod 4=2\/(qay xs i 8).tmod 4=3\/(qay xs i 8).tmod 4=4:=by omega
  all_goals simp[F179,n1,n2,hd,h',hat,hc,h3,h6,ot,w1]
 ·rw[if_neg hd] at h
  obtain h' | h' | h' | h':qay xs i 8=1\/qay xs i 8=2\/qay xs i 8=3\/qay xs i 8=4:=by omega
  all_goals simp[F179,n1,n2,hd,h',hat,hc,h3,h6,ot,w1]
theorem qpk (hd : ¬ d<=0) (hd2:d<=1000) (ih : ∀ j,0<=j/\j<=B->GBb B v xs (d-1) j) (h:qay xs i 8=5):GBb B v xs d i:=by
 have n1:=qbj (i:=i) (m:=8) hx hl hi (by omega)
 have r1:=qau hi hl
 obtain⟨e,i',h1,h2,h3⟩:=ih _ r1
 have o:=qox 13 ⟨#[33]⟩ e.kind e.num e.str e.kids (by simp) (by simp)
 have w1:=qal (d-1) (by omega)
 have ed:d.toNat=(d-1).toNat+1:=by omega
 have hco:Co 6 (E.cost (.un true false e)) xs i i':=by
  obtain⟨q1,q2,q3⟩:=h1.2.2.2.2
  show _/\_/\((6+e.cost:Nat):Int)<=_
  rcases qas xs i with ⟨e1,l1⟩ | ⟨e1,l1⟩
  ·omega
  ·exact absurd (l1 8) (by omega)
 refine⟨.un true false e,i',⟨⟨h1.1,h1.2.1⟩,by simp[h1.2.1],by rw[ed]; simp only[E.dp]; omega,by rw[ed]; have:=h1.2.2.2.1; simp only[mxs,qlf] at *; omega,hco⟩,h2,?_⟩
 refine Z_call (pf:=F179) rfl rfl ?_
 simp[F179,n1,hd,h,h3,o,w1,ustr]
theorem qpl (hd : ¬ d<=0) (hd2:d<=1000) (ih : ∀ j,0<=j/\j<=B->GBb B v xs (d-1) j) (h:qay xs i 8=6\/qay xs i 8=7):GBb B v xs d i:=by
 have n1:=qbj (i:=i) (m:=8) hx hl hi (by omega)
 have r1:=qau hi hl
 have n2:=qbj (i:=qaA xs i) (m:=2) hx hl r1 (by omega)
 have r2:=qau r1 hl
 have p:=qbc (i:=qaA xs i) (m:=2) hx (by omega)
 have hat:=qdE (qaW [⟨#[38,38]⟩,⟨#[124,124]⟩]) 2 true (qay xs (qaA xs i) 2) p.1 (by omega)
 obtain⟨o,ho,hc⟩:=qrh p
 simp only[qaW,List.map] at hat hc
 obtain⟨a,i1,h1,h2,h3⟩:=ih _ r2
 obtain⟨b,i2,h4,h5,h6⟩:=ih _ h2
 have ot:=qmQ 14 o.str a.kind a.num b.kind b.num a.str b.str a.kids b.kids (by simp) (by simp) (by simp) (by simp)
 have w1:=qal (d-1) (by omega)
 have ed:d.toNat=(d-1).toNat+1:=by omega
 have ho1:o.opd=2/\o.res=2:=by
  simp only[que,List.mem_cons,List.not_mem_nil,or_false] at ho
  rcases ho with rfl | rfl<;>exact⟨rfl,rfl⟩
 have hco:Co 6 (E.cost (.bin true o a b)) xs i i2:=by
  have ho2:o.str.size<=2:=by cases o<;>decide
  obtain⟨q1,q2,q3⟩:=h1.2.2.2.2
  obtain⟨q4,q5,q6⟩:=h4.2.2.2.2
  show _/\_/\((o.str.size+5+(a.cost+b.cost):Nat):Int)<=_
  rcases qas xs i with ⟨e1,l1⟩ | ⟨e1,l1⟩
  ·rcases qas xs (qaA xs i) with ⟨e2,l2⟩ | ⟨e2,l2⟩<;>omega
  ·exact absurd (l1 8) (by omega)
 refine⟨.bin true o a b,i2,⟨⟨h1.1,h4.1,by rw[ho1.1]; exact h1.2.1,by rw[ho1.1]; exact h4.2.1⟩,by simp[h1.2.1,h4.2.1,ho1.1,ho1.2],by rw[ed]; simp only[E.dp]; omega,by rw[ed]; have:=h1.2.2.2.1; have:=h4.2.2.2.1; simp only[mxs,qgP] at *; omega,hco⟩,h5,?_⟩
 refine Z_call (pf:=F179) rfl rfl ?_
 rcases h with h | h<;>simp[F179,n1,n2,hd,h,hat,hc,h3,h6,ot,w1]
end
theorem qnK {v:D} {xs:List Int} {B:Int} (hx : ∀ x∈xs,I64 x) (hl:Bnd v xs B) : ∀ (n:Nat) (d i:Int),d<=n -> -100<=d->n<=1000->(0<=i/\i<=B)->GBb B v xs d i
 | n,d,i,hd,hd',hn,hi=>by
  have p:=qbc (i:=i) (m:=8) hx (by omega)
  have ihI : ∀ j,0<=j/\j<=B->GIb B v xs (d-1) j:=fun j hj=>qnI hx hl n (d-1) j (by omega) (by omega) hj
  by_cases h0:d<=0
  ·have q:=qgO p.1 (m:=4) (by omega)
   have e:qnJ xs d i=(qay xs i 8).tmod 4:=if_pos h0
   by_cases h1:qnJ xs d i=0
   ·exact qlK hx hl hi h1
   ·exact qlL hx hl hi (by omega) (by omega) ihI (by omega)
  ·have e:qnJ xs d i=qay xs i 8:=if_neg h0
   by_cases h1:qnJ xs d i=0
   ·exact qlK hx hl hi h1
   by_cases h2:qnJ xs d i<=4
   ·exact qlL hx hl hi (by omega) (by omega) ihI (by omega)
   cases n with
   | zero=>omega
   | succ n=>
    have ih : ∀ j,0<=j/\j<=B->GBb B v xs (d-1) j:=fun j hj=>qnK hx hl n (d-1) j (by omega) (by omega) (by omega) hj
    by_cases h4:qay xs i 8=5
    ·exact qpk hx hl hi h0 (by omega) ih h4
    ·exact qpl hx hl hi h0 (by omega) ih (by omega)
theorem qmv {xs:List Int} (hx : ∀ x∈xs,I64 x) (hl:xs.length<=100) (n:Nat) (d i:Int) (hd:d<=n) (hn:n<=1000) (hi:0<=i/\i<=100):GI xs d i:=qnI hx (qbt hl) n d i hd hn hi
theorem qqh {xs:List Int} (hx : ∀ x∈xs,I64 x) (hl:xs.length<=100) (n:Nat) (d i:Int) (hd:d<=n) (hd' : -100<=d) (hn:n<=1000) (hi:0<=i/\i<=100):GB xs d i:=qnK hx (qbt hl) n d i hd hd' hn hi
end Go.Pm
end SG2
section SG3
namespace Go.Pm
open F
def Ss.fine:Ss->Prop
 | .nil=>True
 | .assign _ s e r=>(s∈qtR/\e.fine/\e.ty=1)/\r.fine
 | .store _ s a b r=>(s∈qhH/\a.fine/\a.ty=1/\b.fine/\b.ty=1)/\r.fine
 | .effect _ a b r=>(a.fine/\a.ty=1/\b.fine/\b.ty=1)/\r.fine
 | .stop r=>r.fine
 | .cond false _ c (.block _ x (.block _ y .nil)) r=>(c.fine/\c.ty=2)/\x.fine/\y.fine/\r.fine
 | .cond true _ c (.block _ x .nil) r=>(c.fine/\c.ty=2)/\x.fine/\r.fine
 | _=>False
def Ss.dp:Ss->Nat
 | .nil=>0
 | .assign _ _ _ r=>r.dp
 | .store _ _ _ _ r=>r.dp
 | .effect _ _ _ r=>r.dp
 | .stop r=>r.dp
 | .cond _ _ _ b r=>max (b.dp+1) r.dp
 | .block _ b r=>max b.dp r.dp
def Ss.edp:Ss->Nat
 | .nil=>0
 | .assign _ _ e r=>max e.dp r.edp
 | .store _ _ a b r=>max (max a.dp b.dp) r.edp
 | .effect _ a b r=>max (max a.dp b.dp) r.edp
 | .stop r=>r.edp
 | .cond _ _ c b r=>max (max c.dp b.edp) r.edp
 | .block _ b r=>max b.edp r.edp
def ssz:Nat->Nat
 | 0=>20
 | n+1=>20+4*ssz n
theorem qi9 (n:Nat):20<=ssz n:=by cases n<;>simp[ssz]
def GS (xs:List Int) (d i:Int):Prop := ∃ (st:Ss) (k n:Int) (s:ByteArray) (f:Bool) (ks:Fo) (i':Int),st.fo = .cons k n s f ks .nil /\
 (st.fine/\st.dp<=d.toNat/\st.edp<=3/\st.fo.size<=ssz d.toNat/\Co 8 st.cost xs i i')/\(0<=i'/\i'<=100)/\Z qbo (.call 162 [.ptr 0 0,.int d] (gst xs i))=some (.ret (nd k n s f ks) (gst xs i'))
def GK (xs:List Int) (d m i:Int):Prop := ∃ (b:Ss) (i':Int),(b.fine/\b.dp<=d.toNat/\b.edp<=3/\b.fo.size<=m.toNat*ssz d.toNat/\Co 0 b.cost xs i i')/\(0<=i'/\i'<=100) /\
 Z qbo (.call 137 [.ptr 0 0,.int d,.int m] (gst xs i))=some (.ret (nd 7 0 ⟨#[]⟩ false b.fo) (gst xs i'))
def qgD (xs:List Int) (d i:Int):Int:=if d<=0 then (qay xs i 10).tmod 7 else qay xs i 10
section
variable {xs:List Int} {i d:Int} (hx : ∀ x∈xs,I64 x) (hl:xs.length<=100) (hi:0<=i/\i<=100)
include hx hl hi
theorem qj7 (h:qgD xs d i=0\/qgD xs d i=1):GS xs d i:=by
 have n1:=qbj (i:=i) (m:=10) hx (qbt hl) hi (by omega)
 have r1:=qau hi (qbt hl)
 have n2:=qbj (i:=qaA xs i) (m:=4) hx (qbt hl) r1 (by omega)
 have r2:=qau r1 (qbt hl)
 have p:=qbc (i:=qaA xs i) (m:=4) hx (by omega)
 have hat:=qdE (qaW qmR) 4 true (qay xs (qaA xs i) 4) p.1 (by omega)
 obtain⟨s,hs,hc⟩:=qhJ (l:=qmR) (p:=qay xs (qaA xs i) 4) (by simpa [qmR] using p)
 simp only[qmR,qaW,List.map] at hat hc
 obtain⟨e,i',h1,h2,h3⟩:=qmv hx hl 2 2 _ (by omega) (by omega) r2
 rw[show (2:Int).toNat=2 from rfl] at h1
 have o:=qox 1 s e.kind e.num e.str e.kids (by simp) (by simp)
 have hz:mxs 2=7:=rfl
 have hp:=qi9 d.toNat
 have hco:Co 8 (Ss.cost (.assign true s e .nil)) xs i i':=by
  obtain⟨q1,q2,q3⟩:=h1.2.2.2.2
  have hcs : ∀ s∈qmR,s.size<=3:=by decide
  have h5:=hcs s hs
  show _/\_/\((s.size+5+e.cost+0:Nat):Int)<=_
  rcases qas xs i with ⟨e1,l1⟩ | ⟨e1,l1⟩
  ·rcases qas xs (qaA xs i) with ⟨e2,l2⟩ | ⟨e2,l2⟩<;>omega
  ·have e3:qay xs (qaA xs i) 4=0:=by rw[e1]; exact l1 4
   have hs1:s.size=1:=by
    rw[e3] at hc
    simp at hc
    rw[<- hc]
    rfl
   rcases qas xs (qaA xs i) with ⟨e2,l2⟩ | ⟨e2,l2⟩<;>omega
 refine⟨.assign true s e .nil,1,0,s,true,e.fo .nil,i',rfl,⟨⟨⟨List.mem_append_left _ hs,h1.1,h1.2.1⟩,trivial⟩,Nat.zero_le _,by simp only[Ss.edp]; omega,by simp only[Ss.fo,qbi,qdv,qbM]; omega,hco⟩,h2,?_⟩
 refine Z_call (pf:=F162) rfl rfl ?_
 unfold qgD at h
 by_cases hd:d<=0
 ·rw[if_pos hd] at h
  rcases h with h | h<;>simp[F162,n1,n2,hd,h,hat,hc,h3,o]
 ·rw[if_neg hd] at h
  rcases h with h | h<;>simp[F162,n1,n2,hd,h,hat,hc,h3,o]
theorem qlG (h:qgD xs d i=2\/qgD xs d i=3\/qgD xs d i=4):GS xs d i:=by
 have n1:=qbj (i:=i) (m:=10) hx (qbt hl) hi (by omega)
 have r1:=qau hi (qbt hl)
 have n2:=qbj (i:=qaA xs i) (m:=6) hx (qbt hl) r1 (by omega)
 have r2:=qau r1 (qbt hl)
 have p:=qbc (i:=qaA xs i) (m:=6) hx (by omega)
 have hat:=qdE (qaW qhH) 6 true (qay xs (qaA xs i) 6) p.1 (by omega)
 obtain⟨s,hs,hc⟩:=qhJ (l:=qhH) (p:=qay xs (qaA xs i) 6) (by simpa [qhH] using p)
 simp only[qhH,qaW,List.map] at hat hc
 obtain⟨a,i1,h1,h2,h3⟩:=qmv hx hl 1 1 _ (by omega) (by omega) r2
 obtain⟨b,i2,h4,h5,h6⟩:=qmv hx hl 2 2 _ (by omega) (by omega) h2
 rw[show (2:Int).toNat=2 from rfl] at h4
 rw[show (1:Int).toNat=1 from rfl] at h1
 have o:=qmQ 2 s a.kind a.num b.kind b.num a.str b.str a.kids b.kids (by simp) (by simp) (by simp) (by simp)
 have hz:mxs 2=7:=rfl
 have hz1:mxs 1=3:=rfl
 have hp:=qi9 d.toNat
 have hco:Co 8 (Ss.cost (.store true s a b .nil)) xs i i2:=by
  have hcs : ∀ s∈qhH,s.size<=2:=by decide
  have h55:=hcs s hs
  obtain⟨q1,q2,q3⟩:=h1.2.2.2.2
  obtain⟨u1,u2,u3⟩:=h4.2.2.2.2
  show _/\_/\((s.size+9+(a.cost+b.cost)+0:Nat):Int)<=_
  rcases qas xs i with ⟨e1,l1⟩ | ⟨e1,l1⟩
  ·rcases qas xs (qaA xs i) with ⟨e2,l2⟩ | ⟨e2,l2⟩<;>omega
  ·exact absurd (l1 10) (fun h0=>by
    unfold qgD at h
    rw[h0] at h
    split at h<;>simp at h)
 refine⟨.store true s a b .nil,2,0,s,true,a.fo (b.fo .nil),i2,rfl,⟨⟨⟨hs,h1.1,h1.2.1,h4.1,h4.2.1⟩,trivial⟩,Nat.zero_le _,by simp only[Ss.edp]; omega,by simp only[Ss.fo,qbi,qdv,qbM]; omega,hco⟩,h5,?_⟩
 refine Z_call (pf:=F162) rfl rfl ?_
 unfold qgD at h
 by_cases hd:d<=0
 ·rw[if_pos hd] at h
  rcases h with h | h | h<;>simp[F162,n1,n2,hd,h,hat,hc,h3,h6,o]
 ·rw[if_neg hd] at h
  rcases h with h | h | h<;>simp[F162,n1,n2,hd,h,hat,hc,h3,h6,o]
theorem qj8 (h:qgD xs d i=5):GS xs d i:=by
 have n1:=qbj (i:=i) (m:=10) hx (qbt hl) hi (by omega)
 have r1:=qau hi (qbt hl)
 obtain⟨a,i1,h1,h2,h3⟩:=qmv hx hl 1 0 _ (by omega) (by omega) r1
 obtain⟨b,i2,h4,h5,h6⟩:=qmv hx hl 1 1 _ (by omega) (by omega) h2
 rw[show (0:Int).toNat=0 from rfl] at h1
 rw[show (1:Int).toNat=1 from rfl] at h4
 have o:=qmQ 5 ⟨#[]⟩ a.kind a.num b.kind b.num a.str b.str a.kids b.kids (by simp) (by simp) (by simp) (by simp)
 have hz:mxs 0=1:=rfl
 have hz1:mxs 1=3:=rfl
 have hp:=qi9 d.toNat
 have hco:Co 8 (Ss.cost (.effect true a b .nil)) xs i i2:=by
  obtain⟨q1,q2,q3⟩:=h1.2.2.2.2
  obtain⟨u1,u2,u3⟩:=h4.2.2.2.2
  show _/\_/\((11+(a.cost+b.cost)+0:Nat):Int)<=_
  rcases qas xs i with ⟨e1,l1⟩ | ⟨e1,l1⟩
  ·omega
  ·exact absurd (l1 10) (fun h0=>by
    unfold qgD at h
    rw[h0] at h
    split at h<;>simp at h)
 refine⟨.effect true a b .nil,5,0,_,true,a.fo (b.fo .nil),i2,rfl,⟨⟨⟨h1.1,h1.2.1,h4.1,h4.2.1⟩,trivial⟩,Nat.zero_le _,by simp only[Ss.edp]; omega,by simp only[Ss.fo,qbi,qdv,qbM]; omega,hco⟩,h5,?_⟩
 refine Z_call (pf:=F162) rfl rfl ?_
 unfold qgD at h
 by_cases hd:d<=0
 ·rw[if_pos hd] at h
  simp[F162,n1,hd,h,h3,h6,o]
 ·rw[if_neg hd] at h
  simp[F162,n1,hd,h,h3,h6,o]
theorem qqc (h:qgD xs d i=6):GS xs d i:=by
 have n1:=qbj (i:=i) (m:=10) hx (qbt hl) hi (by omega)
 have r1:=qau hi (qbt hl)
 have n2:=qbj (i:=qaA xs i) (m:=3) hx (qbt hl) r1 (by omega)
 have r2:=qau r1 (qbt hl)
 have p:=qbc (i:=qaA xs i) (m:=3) hx (by omega)
 have hp:=qi9 d.toNat
 by_cases h0:0<qay xs (qaA xs i) 3
 ·obtain⟨e,i',h1,h2,h3⟩:=qmv hx hl 1 1 _ (by omega) (by omega) r2
  rw[show (1:Int).toNat=1 from rfl] at h1
  have o:=qox 1 ⟨#[110]⟩ e.kind e.num e.str e.kids (by simp) (by simp)
  have hz:mxs 1=3:=rfl
  have hco:Co 8 (Ss.cost (.assign true ⟨#[110]⟩ e .nil)) xs i i':=by
   obtain⟨q1,q2,q3⟩:=h1.2.2.2.2
   show _/\_/\((1+5+e.cost+0:Nat):Int)<=_
   rcases qas xs i with ⟨e1,l1⟩ | ⟨e1,l1⟩
   ·rcases qas xs (qaA xs i) with ⟨e2,l2⟩ | ⟨e2,l2⟩<;>omega
   ·exact absurd (l1 10) (fun h0=>by
     unfold qgD at h
     rw[h0] at h
     split at h<;>simp at h)
  refine⟨.assign true ⟨#[110]⟩ e .nil,1,0,_,true,e.fo .nil,i',rfl,⟨⟨⟨by simp[qtR,qmR],h1.1,h1.2.1⟩,trivial⟩,Nat.zero_le _,by simp only[Ss.edp]; omega,by simp only[Ss.fo,qbi,qdv,qbM]; omega,hco⟩,h2,?_⟩
  refine Z_call (pf:=F162) rfl rfl ?_
  unfold qgD at h
  by_cases hd:d<=0
  ·rw[if_pos hd] at h
   simp[F162,n1,n2,hd,h,h0,h3,o]
  ·rw[if_neg hd] at h
   simp[F162,n1,n2,hd,h,h0,h3,o]
 ·have hco:Co 8 (Ss.cost (.stop .nil)) xs i (qaA xs (qaA xs i)):=by
   show _/\_/\((7+0:Nat):Int)<=_
   rcases qas xs i with ⟨e1,l1⟩ | ⟨e1,l1⟩<;>rcases qas xs (qaA xs i) with ⟨e2,l2⟩ | ⟨e2,l2⟩<;>omega
  refine⟨.stop .nil,6,0,_,false,.nil,_,rfl,⟨trivial,Nat.zero_le _,Nat.zero_le _,by simp only[Ss.fo,qbi,qbM]; omega,hco⟩,r2,?_⟩
  refine Z_call (pf:=F162) rfl rfl ?_
  unfold qgD at h
  by_cases hd:d<=0
  ·rw[if_pos hd] at h
   simp[F162,n1,n2,hd,h,h0]
  ·rw[if_neg hd] at h
   simp[F162,n1,n2,hd,h,h0]
theorem qo1 (hd : ¬ d<=0) (hd2:d<=1000) (ih : ∀ j,0<=j/\j<=100->GK xs (d-1) 2 j) (h:qay xs i 10=7):GS xs d i:=by
 have n1:=qbj (i:=i) (m:=10) hx (qbt hl) hi (by omega)
 have r1:=qau hi (qbt hl)
 obtain⟨c,i1,h1,h2,h3⟩:=qqh hx hl 1 1 _ (by omega) (by omega) (by omega) r1
 obtain⟨b,i2,h4,h5,h6⟩:=ih _ h2
 rw[show (1:Int).toNat=1 from rfl] at h1
 have ed:d.toNat=(d-1).toNat+1:=by omega
 rw[show (2:Int).toNat=2 from rfl] at h4
 have hz:mxs (1+1)=7:=rfl
 have o:=qmQ 4 ⟨#[]⟩ c.kind c.num 7 0 c.str ⟨#[]⟩ c.kids (kd false b.fo.len b.fo.cells) (by simp) (by simp) (by simp) (by simp)
 have w1:=qal (d-1) (by omega)
 have hco:Co 8 (Ss.cost (.cond true true c (.block false b .nil) .nil)) xs i i2:=by
  obtain⟨q1,q2,q3⟩:=h1.2.2.2.2
  obtain⟨u1,u2,u3⟩:=h4.2.2.2.2
  show _/\_/\((6+c.cost+(4+b.cost+(0+0))+0:Nat):Int)<=_
  rcases qas xs i with ⟨e1,l1⟩ | ⟨e1,l1⟩
  ·omega
  ·exact absurd (l1 10) (by omega)
 refine⟨.cond true true c (.block false b .nil) .nil,4,0,_,true,c.fo (.cons 7 0 ⟨#[]⟩ false b.fo .nil),i2,rfl,⟨⟨⟨h1.1,h1.2.1⟩,h4.1,trivial⟩,by simp only[Ss.dp]; omega,by simp only[Ss.edp]; omega,by rw[ed]; simp only[Ss.fo,qbi,qdv,qbM,ssz]; omega,hco⟩,h5,?_⟩
 refine Z_call (pf:=F162) rfl rfl ?_
 simp[F162,n1,hd,h,h3,h6,o,w1]
theorem quU (hd : ¬ d<=0) (hd2:d<=1000) (ih : ∀ j,0<=j/\j<=100->GK xs (d-1) 2 j) (h:8<=qay xs i 10):GS xs d i:=by
 have n1:=qbj (i:=i) (m:=10) hx (qbt hl) hi (by omega)
 have r1:=qau hi (qbt hl)
 obtain⟨c,i1,h1,h2,h3⟩:=qqh hx hl 2 2 _ (by omega) (by omega) (by omega) r1
 obtain⟨a,i2,h4,h5,h6⟩:=ih _ h2
 have n2:=qbj (i:=i2) (m:=2) hx (qbt hl) h5 (by omega)
 have r2:=qau h5 (qbt hl)
 obtain⟨b,i3,h7,h8,h9⟩:=ih _ r2
 rw[show (2:Int).toNat=2 from rfl] at h1 h4 h7
 have ed:d.toNat=(d-1).toNat+1:=by omega
 have hz:mxs (2+1)=15:=rfl
 have w1:=qal (d-1) (by omega)
 have k0 : ¬ qay xs i 10=0:=by omega
 have k1 : ¬ qay xs i 10=1:=by omega
 have k2 : ¬ qay xs i 10=2:=by omega
 have k3 : ¬ qay xs i 10=3:=by omega
 have k4 : ¬ qay xs i 10=4:=by omega
 have k5 : ¬ qay xs i 10=5:=by omega
 have k6 : ¬ qay xs i 10=6:=by omega
 have k7 : ¬ qay xs i 10=7:=by omega
 by_cases h0:qay xs i2 2=1
 ·have hco:Co 8 (Ss.cost (.cond false true c (.block false a (.block false b .nil)) .nil)) xs i i3:=by
   have hl:(if qdw (.block false b .nil)=true then 5 else 0)<=5:=by split<;>omega
   obtain⟨q1,q2,q3⟩:=h1.2.2.2.2
   obtain⟨u1,u2,u3⟩:=h4.2.2.2.2
   obtain⟨v1,v2,v3⟩:=h7.2.2.2.2
   show _/\_/\((3+c.cost+(4+a.cost+((if qdw (.block false b .nil)=true then 5 else 0)+(4+b.cost+(0+0))))+0:Nat):Int)<=_
   rcases qas xs i with ⟨e1,l1⟩ | ⟨e1,l1⟩
   ·rcases qas xs i2 with ⟨e2,l2⟩ | ⟨e2,l2⟩<;>omega
   ·exact absurd (l1 10) (by omega)
  refine⟨.cond false true c (.block false a (.block false b .nil)) .nil,3,0,_,true,c.fo (.cons 7 0 ⟨#[]⟩ false a.fo (.cons 7 0 ⟨#[]⟩ false b.fo .nil)),i3,rfl,⟨⟨⟨h1.1,h1.2.1⟩,h4.1,h7.1,trivial⟩,by simp only[Ss.dp]; omega,by simp only[Ss.edp]; omega,by rw[ed]; simp only[Ss.fo,qbi,qdv,qbM,ssz]; omega,hco⟩,h8,?_⟩
  refine Z_call (pf:=F162) rfl rfl ?_
  simp[F162,n1,n2,hd,h0,k0,k1,k2,k3,k4,k5,k6,k7,h3,h6,h9,w1,List.range_succ]
 ·have hco:Co 8 (Ss.cost (.cond false true c (.block false a (.block false .nil .nil)) .nil)) xs i (qaA xs i2):=by
   obtain⟨q1,q2,q3⟩:=h1.2.2.2.2
   obtain⟨u1,u2,u3⟩:=h4.2.2.2.2
   show _/\_/\((3+c.cost+(4+a.cost+(0+(4+0+(0+0))))+0:Nat):Int)<=_
   rcases qas xs i with ⟨e1,l1⟩ | ⟨e1,l1⟩
   ·rcases qas xs i2 with ⟨e2,l2⟩ | ⟨e2,l2⟩<;>omega
   ·exact absurd (l1 10) (by omega)
  refine⟨.cond false true c (.block false a (.block false .nil .nil)) .nil,3,0,_,true,c.fo (.cons 7 0 ⟨#[]⟩ false a.fo (.cons 7 0 ⟨#[]⟩ false .nil .nil)),_,rfl,⟨⟨⟨h1.1,h1.2.1⟩,h4.1,trivial,trivial⟩,by simp only[Ss.dp]; omega,by simp only[Ss.edp]; omega,by rw[ed]; simp only[Ss.fo,qbi,qdv,qbM,ssz]; omega,hco⟩,r2,?_⟩
  refine Z_call (pf:=F162) rfl rfl ?_
  simp[F162,n1,n2,hd,h0,k0,k1,k2,k3,k4,k5,k6,k7,h3,h6,w1,List.range_succ]
end
end Go.Pm
end SG3
section SG4
namespace Go.Pm
open F
theorem qlX {a b:Ss} (ha:a.fine) (hb:b.fine):(a.app b).fine:=by
 fun_induction Ss.fine a with
 | case1=>exact hb
 | case2 _ _ _ _ ih=>exact⟨ha.1,ih ha.2⟩
 | case3 _ _ _ _ _ ih=>exact⟨ha.1,ih ha.2⟩
 | case4 _ _ _ _ ih=>exact⟨ha.1,ih ha.2⟩
 | case5 _ ih=>exact ih ha
 | case6 _ _ _ _ _ _ _ _ _ ih=>exact⟨ha.1,ha.2.1,ha.2.2.1,ih ha.2.2.2⟩
 | case7 _ _ _ _ _ _ ih=>exact⟨ha.1,ha.2.1,ih ha.2.2⟩
 | case8=>exact ha.elim
theorem qlY {a:Ss} (b:Ss) (ha:a.fine):(a.app b).cost=a.cost+b.cost:=by
 fun_induction Ss.fine a with
 | case1=>simp[Ss.app,Ss.cost]
 | case2 _ _ _ _ ih=>simp only[Ss.app,Ss.cost,ih ha.2]; omega
 | case3 _ _ _ _ _ ih=>simp only[Ss.app,Ss.cost,ih ha.2]; omega
 | case4 _ _ _ _ ih=>simp only[Ss.app,Ss.cost,ih ha.2]; omega
 | case5 _ ih=>simp only[Ss.app,Ss.cost,ih ha]; omega
 | case6 _ _ _ _ _ _ _ _ _ ih=>simp only[Ss.app,Ss.cost,ih ha.2.2.2]; omega
 | case7 _ _ _ _ _ _ ih=>simp only[Ss.app,Ss.cost,ih ha.2.2]; omega
 | case8=>exact ha.elim
theorem qqq (a b:Ss):(a.app b).dp=max a.dp b.dp:=by
 induction a<;>simp_all [Ss.app,Ss.dp,Nat.max_assoc]
theorem qoe (a b:Ss):(a.app b).edp=max a.edp b.edp:=by
 induction a<;>simp_all [Ss.app,Ss.edp,Nat.max_assoc]
section
variable {xs:List Int} {i d c:Int}
abbrev z4O:Ob := .cells [.int 0,.int 0,.str ⟨#[]⟩,.dat (.lit (.slice none 0 0))]
abbrev B0 (xs:List Int) (i:Int):S:=[.cells [.dat (qd1 xs),.int i],z4O,.cells [.int 7,.int 0,.str ⟨#[]⟩,.dat (.lit (.slice none 0 0))]]
abbrev B1 (xs:List Int) (i:Int) (pre:Fo):S:=[.cells [.dat (qd1 xs),.int i],z4O,.cells [.int 7,.int 0,.str ⟨#[]⟩,.gsl pre.cells pre.len 4 3],.tip pre.cells.length]
abbrev bfr (d c:Int):Fr:=[(0,.ptr 0 0),(1,.int d),(6,.ptr 1 0),(7,.ptr 2 0),(8,.int c)]
theorem qtu:Z qbo (.loop 1 F137l0 (bfr d 0) (B0 xs i))=some (.out (.exit 0) (bfr d 0++[(15,.bool false)]) (B0 xs i)):=by
 rw[qac]
 simp[qae,qeJ,List.range_succ]
theorem qtv {pre:Fo}:Z qbo (.loop 1 F137l0 (bfr d 0) (B1 xs i pre))=some (.out (.exit 0) (bfr d 0++[(15,.bool false)]) (B1 xs i pre)):=by
 rw[qac]
 simp[qae,qeJ,List.range_succ]
theorem qrE {i':Int} {k n:Int} {s:ByteArray} {f:Bool} {ks:Fo} (hc:0<c) (hc':c<100) (h:Z qbo (.call 162 [.ptr 0 0,.int d] (gst xs i))=some (.ret (nd k n s f ks) (gst xs i'))) :
  Z qbo (.loop 1 F137l0 (bfr d c) (B0 xs i))=Z qbo (.loop 1 F137l0 (bfr d (c-1)) (B1 xs i' (.cons k n s f ks .nil))):=by
 have w1:=qal (c-1) (by omega)
 conv=>lhs; rw[qac]
 simp[qae,qeJ,hc,h,w1,qcE,qmY,qa6,bfr,B1,z4O,List.range_succ]
theorem qrF {i':Int} {k n:Int} {s:ByteArray} {f:Bool} {ks pre:Fo} (hp:pre.len<1000) (hc:0<c) (hc':c<100) (h:Z qbo (.call 162 [.ptr 0 0,.int d] (gst xs i))=some (.ret (nd k n s f ks) (gst xs i'))) :
  Z qbo (.loop 1 F137l0 (bfr d c) (B1 xs i pre))=Z qbo (.loop 1 F137l0 (bfr d (c-1)) (B1 xs i' (pre.app (.cons k n s f ks .nil)))):=by
 have w1:=qal (c-1) (by omega)
 have r1:qa6 (pre.len+1) 56=true:=by simp[qa6]; omega
 have hl:=qgC pre
 have hl2:=qgB pre (.cons k n s f ks .nil)
 have hl3:=qdj pre (.cons k n s f ks .nil)
 simp only[qaV,qaY,qbp,qbv] at hl2 hl3
 conv=>lhs; rw[qac]
 simp[qae,qeJ,hc,h,w1,qcE,qmY,r1,hl,hl2,hl3,bfr,B1,z4O,List.range_succ]
theorem qof (hS : ∀ j,0<=j/\j<=100->GS xs d j) : ∀ (m:Nat) (j:Int) (pre:Fo),m<=3->(0<=j/\j<=100)->pre.len+m<1000->0<pre.len ->
  ∃ (b:Ss) (i':Int),(b.fine/\b.dp<=d.toNat/\b.edp<=3/\b.fo.size<=m*ssz d.toNat/\Co (8*m) b.cost xs j i')/\(0<=i'/\i'<=100)/\Z qbo (.loop 1 F137l0 (bfr d m) (B1 xs j pre))=some (.out (.exit 0) (bfr d 0++[(15,.bool false)]) (B1 xs i' (pre.app b.fo)))
 | 0,j,pre,_,h1,hp,hp0=>⟨.nil,j,⟨trivial,Nat.zero_le _,Nat.zero_le _,by simp[Ss.fo],by show _/\_/\((0:Nat):Int)<=_; omega⟩,h1,by rw[show pre.app Ss.nil.fo=pre from qrZ pre]; exact qtv⟩
 | m+1,j,pre,hm,h1,hp,hp0=>by
  obtain⟨st,k,n,s,f,ks,i1,g1,g2,g3,g4⟩:=hS j h1
  obtain⟨b,i2,k1,k2,k3⟩:=qof hS m i1 (pre.app (.cons k n s f ks .nil)) (by omega) g3 (by rw[qdj]; simp; omega) (by rw[qdj]; simp)
  have hstep:=qrF (d:=d) (c:=(m+1:Nat)) (by omega:pre.len<1000) (by omega) (by omega) g4
  rw[show ((m+1:Nat):Int)-1=m by omega] at hstep
  have hco:Co (8*((m+1:Nat):Int)) (st.app b).cost xs j i2:=by
   obtain⟨q1,q2,q3⟩:=g2.2.2.2.2
   obtain⟨u1,u2,u3⟩:=k1.2.2.2.2
   unfold Co
   rw[qlY b g2.1]
   omega
  refine⟨st.app b,i2,⟨qlX g2.1 k1.1,by rw[qqq]; omega,by rw[qoe]; omega,by rw[qhG,qhC,Nat.succ_mul]; omega,hco⟩,k2,?_⟩
  rw[hstep,k3,qhG,<- qov,g1]
theorem qog (hx : ∀ x∈xs,I64 x) (hl:xs.length<=100) (hi:0<=i/\i<=100) {m:Int} (hm:0<=m) (hm4:m<=3) (hS : ∀ j,0<=j/\j<=100->GS xs d j):GK xs d m i:=by
 have n1:=qbj (i:=i) (m:=m+1) hx (qbt hl) hi (by omega)
 have l1:=qbc (i:=i) (m:=m+1) hx (by omega)
 have r1:=qau hi (qbt hl)
 have w1:=qal (m+1) (by omega)
 by_cases h0:qay xs i (m+1)=0
 ·refine⟨.nil,_,⟨trivial,Nat.zero_le _,Nat.zero_le _,by simp[Ss.fo],by show _/\_/\((0:Nat):Int)<=_; rcases qas xs i with ⟨e1,l1⟩ | ⟨e1,l1⟩<;>omega⟩,r1,?_⟩
  have h:=qtu (xs:=xs) (i:=qaA xs i) (d:=d)
  refine Z_call (pf:=F137) rfl rfl ?_
  simp only[bfr,List.cons_append,List.nil_append] at h
  simp[F137,n1,w1,h0,h,Ss.fo,List.range_succ]
 ·obtain⟨q,hq⟩ : ∃ q:Nat,qay xs i (m+1)=((q+1:Nat):Int):=⟨(qay xs i (m+1)-1).toNat,by omega⟩
  obtain⟨st,k,n,s,f,ks,i1,g1,g2,g3,g4⟩:=hS _ r1
  obtain⟨b,i2,k1,k2,k3⟩:=qof hS q i1 (.cons k n s f ks .nil) (by omega) g3 (by simp; omega) (by simp)
  have hstep:=qrE (d:=d) (c:=(q+1:Nat)) (by omega) (by omega) g4
  rw[show ((q+1:Nat):Int)-1=q by omega,k3,<- g1,<- qhG,<- hq] at hstep
  have hmul:(q+1)*ssz d.toNat<=m.toNat*ssz d.toNat:=Nat.mul_le_mul_right _ (by omega)
  rw[Nat.succ_mul] at hmul
  have hco:Co 0 (st.app b).cost xs i i2:=by
   obtain⟨q1,q2,q3⟩:=g2.2.2.2.2
   obtain⟨u1,u2,u3⟩:=k1.2.2.2.2
   unfold Co
   rw[qlY b g2.1]
   rcases qas xs i with ⟨e1,l1⟩ | ⟨e1,l1⟩
   ·omega
   ·exact absurd (l1 (m+1)) h0
  refine⟨st.app b,i2,⟨qlX g2.1 k1.1,by rw[qqq]; omega,by rw[qoe]; omega,by rw[qhG,qhC]; omega,hco⟩,k2,?_⟩
  have hpos:(st.app b).fo.len≠0:=by rw[qhG,qdj,g1]; simp
  obtain⟨z,hz⟩ : ∃ z,(st.app b).fo.len=z+1:=⟨(st.app b).fo.len-1,by omega⟩
  have hg:=qgC (st.app b).fo
  refine Z_call (pf:=F137) rfl rfl ?_
  simp only[bfr,List.cons_append,List.nil_append] at hstep
  generalize (st.app b).fo=fo at *
  simp[F137,n1,w1,hstep,hz,List.range_succ]
theorem qui (hx : ∀ x∈xs,I64 x) (hl:xs.length<=100) : ∀ (n:Nat),n<=50->(∀ j,0<=j/\j<=100->GS xs n j)/\(∀ j,0<=j/\j<=100 -> ∀ m,0<=m->m<=3->GK xs n m j)
 | 0,_=>by
  have hs : ∀ j,0<=j/\j<=100->GS xs (0:Nat) j:=fun i hi=>by
   have p:=qbc (i:=i) (m:=10) hx (by omega)
   have q:=qgO p.1 (m:=7) (by omega)
   have e:qgD xs (0:Nat) i=(qay xs i 10).tmod 7:=if_pos (by simp)
   by_cases h1:qgD xs (0:Nat) i<2
   ·exact qj7 hx hl hi (by omega)
   by_cases h2:qgD xs (0:Nat) i<5
   ·exact qlG hx hl hi (by omega)
   by_cases h3:qgD xs (0:Nat) i=5
   ·exact qj8 hx hl hi h3
   ·exact qqc hx hl hi (by omega)
  exact⟨hs,fun j hj m h0 h3=>qog hx hl hj h0 h3 hs⟩
 | n+1,hn=>by
  have ih:=(qui hx hl n (by omega)).2
  have hd : ¬ ((n+1:Nat):Int)<=0:=by omega
  have hs : ∀ j,0<=j/\j<=100->GS xs (n+1:Nat) j:=fun i hi=>by
   have p:=qbc (i:=i) (m:=10) hx (by omega)
   have e:qgD xs (n+1:Nat) i=qay xs i 10:=if_neg hd
   have ih' : ∀ j,0<=j/\j<=100->GK xs (((n+1:Nat):Int)-1) 2 j:=fun j hj=>by
    rw[show ((n+1:Nat):Int)-1=n by omega]; exact ih j hj 2 (by omega) (by omega)
   by_cases h1:qgD xs (n+1:Nat) i<2
   ·exact qj7 hx hl hi (by omega)
   by_cases h2:qgD xs (n+1:Nat) i<5
   ·exact qlG hx hl hi (by omega)
   by_cases h3:qgD xs (n+1:Nat) i=5
   ·exact qj8 hx hl hi h3
   by_cases h4:qgD xs (n+1:Nat) i=6
   ·exact qqc hx hl hi h4
   by_cases h5:qgD xs (n+1:Nat) i=7
   ·exact qo1 hx hl hi hd (by omega) ih' (by omega)
   ·exact quU hx hl hi hd (by omega) ih' (by omega)
  exact⟨hs,fun j hj m h0 h3=>qog hx hl hj h0 h3 hs⟩
end
end Go.Pm
end SG4
