/- The abstract machine's program, printed by a program of our own: group 4rn. Chapter 14's generator of trees: expressions. Chapter 14's generator of trees: statements, blocks, programs. Chapter 13's law ParserRound. Types of expressions: the program's. Types of expressions: the reference's. Statements: rows. Statements: the checker. -/
import Derived.Test.YtjdbkncfebebnaaDoorPmYh
import Derived.Test.YtjdbkncfebebnaaDoorPmKv
import Derived.IntWalk
import Derived.Test.YtjdbkncfebebnaaDoorPmF4
set_option linter.unusedSimpArgs false
set_option linter.unusedVariables false
section SF4rn
namespace Go.Pm.F
variable (C:Task->Option Res) (q:Nat) (fr:Fr) (σ : S)
@[simp] def F11l0x:PC:=(.seq (.seq (rn [mv 10 5,bk 11 .lss 10 3] [2,3,4,5,11]) (.cond (.t 11) (.skip) (.exit 0))) (.seq (.block 1 (.seq (rn [mv 14 3,jj 15 (.call 25 [(.t 14),(kk 3)]),bk 16 .lss 15 2] [2,3,4,5,16]) (.cond (.t 16) (rn [mv 17 5,mv 18 3,jj 19 (.call 29 [(.t 18),(kk 2)]),fa 20 0 4,jj 21 (.indexAddrA 3 4 (.t 20) (.t 17)),st 4 21 19] [2,3,4,5]) (.skip)))) (rn [mv 12 5,bk 13 .add 12 1,mv 5 13] [2,3,4,5])))
def F11l0:PC:=F11l0x
theorem qhR:run C q F11l0 fr σ = run C q F11l0x fr σ := rfl
def F11:PFun:=⟨1,[.cell 2 true 12],.seq (rn [jj 2 (.alloc [zN,zN,eN,sN,zN,zN,eN,sN,zN,zN,eN,sN])] [0,2]) (.seq (rn [mv 6 0,jj 7 (.call 23 [(.t 6),(kk 150)]),jj 8 (.build [sN,zN] [(0,1,(.t 7))]),bx 9 8,mv 3 9] [2,3]) (.seq (rn [jj 4 (.alloc [zN,zN,eN,sN,zN,zN,eN,sN,zN,zN,eN,sN])] [2,3,4]) (.seq (.seq (rn [mx 5 (kk 0)] [2,3,4,5]) (.block 0 (.loop F11l0))) (.seq (rn [la 22 12 4,st 12 2 22] [2]) (.ret))))),false,false,false⟩
def F18:PFun:=⟨1,[.cell 2 true 12],.seq (rn [bx 1 0,jj 2 (.alloc [zN,zN,eN,sN,zN,zN,eN,sN,zN,zN,eN,sN])] [1,2]) (.seq (rn [jj 3 (.alloc [zN,zN,eN,sN,zN,zN,eN,sN,zN,zN,eN,sN])] [1,2,3]) (.seq (rn [la 4 4 1,jj 5 (.bslice 1 [zN,zN,eN,sN] [(0,4,(.t 4))]),jj 6 (.build [zN,zN,eN,sN] [(0,1,(kk 7)),(3,1,(.t 5))]),fa 7 0 3,jj 8 (.indexAddrA 3 4 (.t 7) (kk 1)),st 4 8 6] [2,3]) (.seq (rn [la 9 12 3,st 12 2 9] [2]) (.ret)))),false,false,false⟩
def F22:PFun:=⟨1,[.tmp 2],.seq (rn [jj 2 (.mov (.c (.string ⟨#[]⟩)))] [0]) (.seq (rn [mv 4 0,jj 5 (.call 17 [(.t 4),(kk 20)]),mv 3 5] [3]) (.seq (rn [mv 6 3,jj 7 (.bin .add (kk 97) (.t 6)),jj 8 (.conv (.int .i32) (.t 7)),jj 9 (.conv .intStr (.t 8)),jj 10 (.bin .add (.c (.string ⟨#[118]⟩)) (.t 9)),mv 2 10] [2]) (.ret))),false,false,false⟩
def F24:PFun:=⟨3,[.cell 6 true 4],.seq (rn [jj 6 (.alloc [zN,zN,eN,sN])] [0,1,2,6]) (.seq (.seq (rn [mv 8 0,jj 9 (.call 25 [(.t 8),(kk 24)]),bk 10 .eql 9 5] [0,1,2,6,10]) (.cond (.t 10) (rn [mv 11 1,jj 12 (.bin .sub (kk 3) (.t 11)),mv 1 12] [0,1,2,6]) (.skip))) (.seq (rn [mv 13 0,jj 14 (.call 25 [(.t 13),(kk 6)]),mv 7 14] [0,1,2,6,7]) (.seq (.seq (rn [mv 15 1,bk 16 .eql 15 2] [0,2,6,7,16]) (.cond (.t 16) (.seq (.seq (rn [mv 17 2,bk 18 .lss 17 1,mv 19 18,jf 20 19 (.mov (.t 7)),jf 21 19 (.bin .eql (.t 20) (kk 0)),jj 22 (.pick (.t 19) kT (.t 21))] [0,2,6,7,22]) (.cond (.t 22) (.seq (rn [mv 23 0,jj 24 (.call 25 [(.t 23),(kk 2)]),jj 25 (.build [zN,zN,eN,sN] [(0,1,(kk 9)),(1,1,(.t 24))]),st 4 6 25] [6]) (.ret)) (.skip))) (.seq (.seq (rn [mv 26 7,bk 27 .eql 26 1] [0,2,6,7,27]) (.cond (.t 27) (.seq (rn [mv 28 0,mv 29 2,bk 30 .sub 29 1,jj 31 (.call 24 [(.t 28),(kk 2),(.t 30)]),jj 32 (.bslice 1 [zN,zN,eN,sN] [(0,4,(.t 31))]),jj 33 (.build [zN,zN,eN,sN] [(0,1,(kk 13)),(2,1,(.c (.string ⟨#[33]⟩))),(3,1,(.t 32))]),st 4 6 33] [6]) (.ret)) (.skip))) (.seq (.seq (rn [mv 34 7,bk 35 .eql 34 2] [0,2,6,35]) (.cond (.t 35) (.seq (rn [mv 36 0,jj 37 (.bslice 2 [eN,eN] [(0,1,(.c (.string ⟨#[38,38]⟩))),(1,1,(.c (.string ⟨#[124,124]⟩)))]),cl 38 34 [36,37],mv 39 0,mv 40 2,bk 41 .sub 40 1,jj 42 (.call 24 [(.t 39),(kk 2),(.t 41)]),mv 43 0,mv 44 2,bk 45 .sub 44 1,jj 46 (.call 24 [(.t 43),(kk 2),(.t 45)]),jj 47 (.bslice 2 [zN,zN,eN,sN,zN,zN,eN,sN] [(0,4,(.t 42)),(4,4,(.t 46))]),jj 48 (.build [zN,zN,eN,sN] [(0,1,(kk 14)),(2,1,(.t 38)),(3,1,(.t 47))]),st 4 6 48] [6]) (.ret)) (.skip))) (.seq (rn [mv 49 0,jj 50 (.bslice 6 [eN,eN,eN,eN,eN,eN] [(0,1,(.c (.string ⟨#[60]⟩))),(1,1,(.c (.string ⟨#[60,61]⟩))),(2,1,(.c (.string ⟨#[62]⟩))),(3,1,(.c (.string ⟨#[62,61]⟩))),(4,1,(.c (.string ⟨#[61,61]⟩))),(5,1,(.c (.string ⟨#[33,61]⟩)))]),cl 51 34 [49,50],mv 52 0,mv 53 2,bk 54 .sub 53 1,jj 55 (.call 24 [(.t 52),(kk 1),(.t 54)]),mv 56 0,mv 57 2,bk 58 .sub 57 1,jj 59 (.call 24 [(.t 56),(kk 1),(.t 58)]),jj 60 (.bslice 2 [zN,zN,eN,sN,zN,zN,eN,sN] [(0,4,(.t 55)),(4,4,(.t 59))]),jj 61 (.build [zN,zN,eN,sN] [(0,1,(kk 14)),(2,1,(.t 51)),(3,1,(.t 60))]),st 4 6 61] [6]) (.ret))))) (.skip))) (.seq (.seq (rn [mv 62 2,bk 63 .lss 62 1,mv 64 63,jf 65 64 (.mov (.t 7)),jf 66 64 (.bin .lss (.t 65) (kk 2)),jj 67 (.pick (.t 64) kT (.t 66))] [0,2,6,7,67]) (.cond (.t 67) (.seq (.seq (rn [mv 68 7,bk 69 .rem 68 3,bk 70 .eql 69 0] [0,6,7,70]) (.cond (.t 70) (.seq (rn [mv 71 0,jj 72 (.call 25 [(.t 71),(kk 20)]),cl 73 22 [72],jj 74 (.build [zN,zN,eN,sN] [(0,1,(kk 10)),(2,1,(.t 73))]),st 4 6 74] [6]) (.ret)) (.skip))) (.seq (.seq (rn [mv 75 7,bk 76 .rem 75 3,bk 77 .eql 76 1] [0,6,77]) (.cond (.t 77) (.seq (rn [mv 78 0,jj 79 (.bslice 3 [eN,eN,eN] [(0,1,(.c (.string ⟨#[115,101,108,102]⟩))),(1,1,(.c (.string ⟨#[111,116,104,101,114]⟩))),(2,1,(.c (.string ⟨#[116,105,99,107]⟩)))]),cl 80 34 [78,79],jj 81 (.build [zN,zN,eN,sN] [(0,1,(kk 12)),(2,1,(.t 80))]),st 4 6 81] [6]) (.ret)) (.skip))) (.seq (rn [mv 82 0,jj 83 (.call 25 [(.t 82),(kk 100)]),jj 84 (.build [zN,zN,eN,sN] [(0,1,(kk 8)),(1,1,(.t 83))]),st 4 6 84] [6]) (.ret)))) (.skip))) (.seq (.seq (rn [mv 85 7,bk 86 .eql 85 2] [0,2,6,7,86]) (.cond (.t 86) (.seq (rn [mv 87 0,mv 88 2,bk 89 .sub 88 1,jj 90 (.call 24 [(.t 87),(kk 1),(.t 89)]),jj 91 (.bslice 1 [zN,zN,eN,sN] [(0,4,(.t 90))]),jj 92 (.build [zN,zN,eN,sN] [(0,1,(kk 13)),(2,1,(.c (.string ⟨#[45]⟩))),(3,1,(.t 91))]),st 4 6 92] [6]) (.ret)) (.skip))) (.seq (.seq (rn [mv 93 7,bk 94 .eql 93 3] [0,2,6,94]) (.cond (.t 94) (.seq (rn [mv 95 0,jj 96 (.bslice 8 [eN,eN,eN,eN,eN,eN,eN,eN] [(0,1,(.c (.string ⟨#[120]⟩))),(1,1,(.c (.string ⟨#[121]⟩))),(2,1,(.c (.string ⟨#[118,120]⟩))),(3,1,(.c (.string ⟨#[118,121]⟩))),(4,1,(.c (.string ⟨#[97]⟩))),(5,1,(.c (.string ⟨#[98]⟩))),(6,1,(.c (.string ⟨#[104,105,116]⟩))),(7,1,(.c (.string ⟨#[115,116,105,108,108]⟩)))]),cl 97 34 [95,96],mv 98 0,mv 99 2,bk 100 .sub 99 1,jj 101 (.call 24 [(.t 98),(kk 1),(.t 100)]),jj 102 (.bslice 1 [zN,zN,eN,sN] [(0,4,(.t 101))]),jj 103 (.build [zN,zN,eN,sN] [(0,1,(kk 11)),(2,1,(.t 97)),(3,1,(.t 102))]),st 4 6 103] [6]) (.ret)) (.skip))) (.seq (rn [mv 104 0,jj 105 (.bslice 4 [eN,eN,eN,eN] [(0,1,(.c (.string ⟨#[43]⟩))),(1,1,(.c (.string ⟨#[45]⟩))),(2,1,(.c (.string ⟨#[42]⟩))),(3,1,(.c (.string ⟨#[47]⟩)))]),cl 106 34 [104,105],mv 107 0,mv 108 2,bk 109 .sub 108 1,jj 110 (.call 24 [(.t 107),(kk 1),(.t 109)]),mv 111 0,mv 112 2,bk 113 .sub 112 1,jj 114 (.call 24 [(.t 111),(kk 1),(.t 113)]),jj 115 (.bslice 2 [zN,zN,eN,sN,zN,zN,eN,sN] [(0,4,(.t 110)),(4,4,(.t 114))]),jj 116 (.build [zN,zN,eN,sN] [(0,1,(kk 14)),(2,1,(.t 106)),(3,1,(.t 115))]),st 4 6 116] [6]) (.ret)))))))),false,false,false⟩
def F25:PFun:=⟨2,[.tmp 4],.seq (rn [mx 4 (kk 0)] [0,1]) (.seq (rn [mv 5 0,mv 6 0,nc 7 6,fa 8 1 7,l1 9 8,bk 10 .add 9 1,nc 11 5,fa 12 1 11,st 1 12 10] [0,1]) (.seq (.seq (.region (some []) [mv 13 0,nc 14 13,fa 15 1 14,l1 16 15,mv 17 0,nc 18 17,fa 19 0 18,l1 20 19,ls 21 20,bn 22 .gtr 16 21] [0,1,22]) (.cond (.t 22) (.seq (rn [mx 4 (kk 0)] [4]) (.ret)) (.skip))) (.seq (.region (some []) [mv 23 0,nc 24 23,fa 25 0 24,l1 26 25,mv 27 0,nc 28 27,fa 29 1 28,l1 30 29,bk 31 .sub 30 1,jj 32 (.indexAddr 1 (.t 26) (.t 31)),l1 33 32,jj 34 (.call 17 [(.t 33),(kk 1000000007)]),mv 35 1,bn 36 .rem 34 35,mv 4 36] [4]) (.ret)))),false,false,false⟩
@[simp] def F29l0x:PC:=(.seq (.seq (rn [mv 10 6,bk 11 .gtr 10 0] [0,1,4,5,6,11]) (.cond (.t 11) (.skip) (.exit 0))) (.seq (.block 1 (.region (some []) [fa 14 3 5,⟨some 15,.load false 1 (.t 14),none,[4]⟩,mv 16 0,mv 17 1,cl 18 36 [16,17],jj 19 (.bslice 1 [zN,zN,eN,sN] [(0,4,(.t 18))]),jj 20 (.append 4 56 (.t 15) (.t 19)),fa 21 3 5,st 1 21 20] [0,1,4,5,6] [4])) (rn [mv 12 6,bk 13 .sub 12 1,mv 6 13] [0,1,4,5,6])))
def F29l0:PC:=F29l0x
theorem qf6:run C q F29l0 fr σ = run C q F29l0x fr σ := rfl
def F29:PFun:=⟨2,[.cell 4 true 4],.seq (rn [jj 4 (.alloc [zN,zN,eN,sN])] [0,1,4]) (.seq (rn [jj 7 (.build [zN,zN,eN,sN] [(0,1,(kk 7))]),jj 5 (.alloc [zN,zN,eN,sN]),st 4 5 7] [0,1,4,5]) (.seq (.seq (rn [mv 8 0,jj 9 (.call 25 [(.t 8),(kk 4)]),mv 6 9] [0,1,4,5,6]) (.block 0 (.loop F29l0))) (.seq (rn [la 22 4 5,st 4 4 22] [4]) (.ret)))),false,false,false⟩
def F34:PFun:=⟨2,[.tmp 4],.seq (rn [jj 4 (.mov (.c (.string ⟨#[]⟩)))] [0,1]) (.seq (rn [mv 5 1,mv 6 0,mv 7 1,ls 8 7,cl 9 25 [6,8],jj 10 (.indexAddr 1 (.t 5) (.t 9)),l1 11 10,mv 4 11] [4]) (.ret)),false,false,false⟩
def F36:PFun:=⟨2,[.cell 4 true 4],.seq (rn [jj 4 (.alloc [zN,zN,eN,sN])] [0,1,4]) (.seq (rn [mv 7 0,jj 8 (.call 25 [(.t 7),(kk 9)]),mv 5 8] [0,1,4,5]) (.seq (.seq (rn [mv 9 1,bk 10 .lss 9 1,mv 11 10,jt 12 11 (.mov (.t 5)),jt 13 11 (.bin .gtr (.t 12) (kk 6)),jj 14 (.pick (.t 11) (.t 13) kF)] [0,1,4,5,14]) (.cond (.t 14) (rn [mx 5 (kk 0)] [0,1,4,5]) (.skip))) (.seq (.seq (rn [mv 15 5,bk 16 .lss 15 3] [0,1,4,5,16]) (.cond (.t 16) (.seq (rn [mv 17 0,jj 18 (.call 25 [(.t 17),(kk 20)]),cl 19 22 [18],mv 20 0,jj 21 (.call 24 [(.t 20),(kk 1),(kk 3)]),jj 22 (.bslice 1 [zN,zN,eN,sN] [(0,4,(.t 21))]),jj 23 (.build [zN,zN,eN,sN] [(0,1,(kk 1)),(2,1,(.t 19)),(3,1,(.t 22))]),st 4 4 23] [4]) (.ret)) (.skip))) (.seq (.seq (rn [mv 24 5,bk 25 .lss 24 5] [0,1,4,5,25]) (.cond (.t 25) (.seq (rn [mv 26 0,jj 27 (.bslice 16 [eN,eN,eN,eN,eN,eN,eN,eN,eN,eN,eN,eN,eN,eN,eN,eN] [(0,1,(.c (.string ⟨#[120]⟩))),(1,1,(.c (.string ⟨#[121]⟩))),(2,1,(.c (.string ⟨#[118,120]⟩))),(3,1,(.c (.string ⟨#[118,121]⟩))),(4,1,(.c (.string ⟨#[97]⟩))),(5,1,(.c (.string ⟨#[98]⟩))),(6,1,(.c (.string ⟨#[97]⟩))),(7,1,(.c (.string ⟨#[98]⟩))),(8,1,(.c (.string ⟨#[120]⟩))),(9,1,(.c (.string ⟨#[121]⟩))),(10,1,(.c (.string ⟨#[118,120]⟩))),(11,1,(.c (.string ⟨#[118,121]⟩))),(12,1,(.c (.string ⟨#[97]⟩))),(13,1,(.c (.string ⟨#[98]⟩))),(14,1,(.c (.string ⟨#[104,105,116]⟩))),(15,1,(.c (.string ⟨#[115,116,105,108,108]⟩)))]),cl 28 34 [26,27],mv 6 28] [0,4,6]) (.seq (rn [mv 29 6,mv 30 0,jj 31 (.call 24 [(.t 30),(kk 1),(kk 2)]),mv 32 0,jj 33 (.call 24 [(.t 32),(kk 1),(kk 2)]),jj 34 (.bslice 2 [zN,zN,eN,sN,zN,zN,eN,sN] [(0,4,(.t 31)),(4,4,(.t 33))]),jj 35 (.build [zN,zN,eN,sN] [(0,1,(kk 2)),(2,1,(.t 29)),(3,1,(.t 34))]),st 4 4 35] [4]) (.ret))) (.skip))) (.seq (.seq (rn [mv 36 5,bk 37 .eql 36 5] [0,1,4,5,37]) (.cond (.t 37) (.seq (rn [mv 38 0,jj 39 (.call 24 [(.t 38),(kk 1),(kk 2)]),mv 40 0,jj 41 (.call 24 [(.t 40),(kk 1),(kk 2)]),jj 42 (.bslice 2 [zN,zN,eN,sN,zN,zN,eN,sN] [(0,4,(.t 39)),(4,4,(.t 41))]),jj 43 (.build [zN,zN,eN,sN] [(0,1,(kk 5)),(3,1,(.t 42))]),st 4 4 43] [4]) (.ret)) (.skip))) (.seq (.seq (rn [mv 44 5,bk 45 .eql 44 6] [0,1,4,5,45]) (.cond (.t 45) (.seq (rn [jj 46 (.build [zN,zN,eN,sN] [(0,1,(kk 6))]),st 4 4 46] [4]) (.ret)) (.skip))) (.seq (.seq (rn [mv 47 5,bk 48 .eql 47 7] [0,1,4,48]) (.cond (.t 48) (.seq (rn [mv 49 0,jj 50 (.call 24 [(.t 49),(kk 2),(kk 2)]),mv 51 0,mv 52 1,bk 53 .sub 52 1,cl 54 29 [51,53],mv 55 0,mv 56 1,bk 57 .sub 56 1,cl 58 29 [55,57],jj 59 (.bslice 3 [zN,zN,eN,sN,zN,zN,eN,sN,zN,zN,eN,sN] [(0,4,(.t 50)),(4,4,(.t 54)),(8,4,(.t 58))]),jj 60 (.build [zN,zN,eN,sN] [(0,1,(kk 3)),(3,1,(.t 59))]),st 4 4 60] [4]) (.ret)) (.skip))) (.seq (rn [mv 61 0,jj 62 (.call 24 [(.t 61),(kk 2),(kk 2)]),mv 63 0,mv 64 1,bk 65 .sub 64 1,cl 66 29 [63,65],jj 67 (.bslice 2 [zN,zN,eN,sN,zN,zN,eN,sN] [(0,4,(.t 62)),(4,4,(.t 66))]),jj 68 (.build [zN,zN,eN,sN] [(0,1,(kk 4)),(3,1,(.t 67))]),st 4 4 68] [4]) (.ret))))))))),false,false,false⟩
end Go.Pm.F
end SF4rn
section ST6
namespace Go.Pm
open F
set_option maxHeartbeats 4000000
namespace F
def tT:Nat->Option PFun
 | 11=>some F11
 | 22=>some F22
 | 24=>some F24
 | 25=>some F25
 | 29=>some F29
 | 34=>some F34
 | 36=>some F36
 | _=>none
end F
abbrev tsr (xs:List Int) (i:Int):S:=[.cells [.dat (qek xs),.int i]]
def nxV (xs:List Int) (i m:Int):Int:=if i+1 > xs.length then 0 else (qcU (xs.getD i.toNat 0) 1000000007).tmod m
def nmT (k:Int):ByteArray:=⟨#[118]⟩++Utf8.encode (97+k)
theorem qlt (k:Int) (h:0<=k/\k<20):qnO (nmT k):=by
 have key : ∀ (c:UInt8),qaQ c=true->Tg (byl (bs [118,c])):=fun c h=>qrh (by decide) (by simp[qaE,h]) (by simp)
 have e : ∀ k:Nat,k<20->nmT k=bs [118,(97+k).toUInt8]:=by decide +kernel
 have e2:=e k.toNat (by omega)
 simp only[show ((k.toNat:Nat):Int)=k by omega] at e2
 rw[e2]
 have a1 : ∀ k:Nat,k<20->qaQ (97+k).toUInt8=true/\qax qaQ (bs [118,(97+k).toUInt8])=true/\bs [118,(97+k).toUInt8]∉fieldNames/\bs [118,(97+k).toUInt8]∉wordNames:=by decide +kernel
 have a2:=a1 k.toNat (by omega)
 exact⟨key _ a2.1,a2.2⟩
def cT:Nat->Int
 | 0=>4
 | d+1=>4+2*cT d
theorem qp8 (d:Nat):4<=cT d:=by cases d<;>simp[cT]; rename_i d; have:=qp8 d; omega
section
variable {prog:Nat->Option PFun} (hT:Sub tT prog) (hb:Sub qd9 prog) {xs:List Int} (hx : ∀ x∈xs,I64 x)
include hT hb hx
theorem qe2 {i m:Int} (hi:0<=i) (hi':i<2^62) (hm:1<=m):Z prog (.call 25 [.ptr 0 0,.int m] (tsr xs i))=some (.ret (.int (nxV xs i m)) (tsr xs (i+1))):=by
 refine qaa (hT 25 F25 rfl) rfl ?_
 have hm0:m≠0:=by omega
 have w1:=qag (i+1) (by omega)
 have w3:=qag (i+1-1) (by omega)
 by_cases h:(xs.length:Int)<i+1
 ·simp[F25,w1,w3,h,nxV]
 ·have a1:=qoC xs i hi (by omega)
  have hlt:i.toNat<xs.length:=by omega
  have a2:=qm3 xs i.toNat hlt
  have a3:=qgP hb (ql9 (n:=xs[i.toNat]) (m:=1000000007) (hx _ (List.getElem_mem hlt)) (by omega))
  have w4:IntKind.i64.wrap i=i:=qag i (by omega)
  simp[F25,w1,w3,w4,h,nxV,a1,a2,a3,hm0,hlt]
omit hT hb in
theorem qdx {i m:Int} (hm:1<=m):0<=nxV xs i m/\nxV xs i m<m:=by
 unfold nxV
 split
 ·omega
 ·have h0:I64 (xs.getD i.toNat 0):=by
   rw[List.getD_eq_getElem?_getD]
   cases h:xs[i.toNat]? with
   | none=>simp[I64]
   | some y=>exact hx _ (List.mem_of_getElem? h)
  have:=qfZ (m:=1000000007) h0 (by omega)
  exact⟨Int.tmod_nonneg _ this.1,Int.tmod_lt_of_pos _ (by omega)⟩
theorem qgc {i:Int} {ss:List ByteArray} {f:Bool} (hi:0<=i) (hi':i<2^62) (hs:1<=ss.length) :
  ∃ s∈ss,Z prog (.call 34 [.ptr 0 0,.dat (.sl (strC ss) ss.length f)] (tsr xs i))=some (.ret (.str s) (tsr xs (i+1))):=by
 have hl:=qdx hx (i:=i) (m:=(ss.length:Int)) (by omega)
 have hn:=qe2 hT hb hx (m:=(ss.length:Int)) hi hi' (by omega)
 obtain⟨s,h1,h2⟩:=qoe (l:=ss) (p:=nxV xs i ss.length) hl
 have h3:=qnT (strC ss) ss.length f (nxV xs i ss.length) hl.1 hl.2
 refine⟨s,h1,?_⟩
 refine qaa (hT 34 F34 rfl) rfl ?_
 simp[F34,V.len,hn,h2,h3]
omit hx in
theorem qm5 {n:Int} (hn:I64 n):Z prog (.call 22 [.int n] [])=some (.ret (.str (nmT (qcU n 20))) []):=by
 have hl:=qfZ (m:=20) hn (by omega)
 have ha:=qgP hb (ql9 (m:=20) hn (by omega))
 have w1:=qag (97+qcU n 20) (by omega)
 have w2:IntKind.i32.wrap (97+qcU n 20)=97+qcU n 20:=IntWalk.i32_in _ (by omega)
 have hs:(Utf8.encode (97+qcU n 20)).size=1:=by
  have : ∀ k:Nat,k<20->(Utf8.encode (97+(k:Int))).size=1:=by decide
  have:=this (qcU n 20).toNat (by omega)
  rwa [show (((qcU n 20).toNat:Nat):Int)=qcU n 20 from by omega] at this
 have hv:(⟨#[118]⟩:ByteArray).size=1:=rfl
 refine qaa (hT 22 F22 rfl) rfl ?_
 simp[F22,ha,w1,w2,hs,hv,nmT]
def TG (prog:Nat->Option PFun) (xs:List Int) (want d i c:Int):Prop := ∃ (e:E) (i':Int),(e.good/\e.dp<=d.toNat/\e.size<=mxs d.toNat)/\(i<=i'/\i'<=i+c)/\Z prog (.call 24 [.ptr 0 0,.int want,.int d] (tsr xs i))=some (.ret e.node (tsr xs i'))
def Fl (xs:List Int) (i want w:Int):Prop:=(nxV xs i 24=5/\want=3-w)\/(nxV xs i 24≠5/\want=w)
section
variable {i want d c:Int} (hi:0<=i) (hc:i+c<2^60)
include hi hc
theorem qm6 (c4:4<=c) (hw:Fl xs i want 2) (h:d<1\/nxV xs (i+1) 6=0):TG prog xs want d i c:=by
 have n1:=qe2 hT hb hx (i:=i) (m:=24) hi (by omega) (by omega)
 have n2:=qe2 hT hb hx (i:=i+1) (m:=6) (by omega) (by omega) (by omega)
 have n3:=qe2 hT hb hx (i:=i+1+1) (m:=2) (by omega) (by omega) (by omega)
 have l3:=qdx hx (i:=i+1+1) (m:=2) (by omega)
 have hp:=qfs d.toNat
 refine⟨.bool (nxV xs (i+1+1) 2),i+1+1+1,⟨by simp only[E.good]; omega,Nat.zero_le _,by simp only[qkp]; omega⟩,by omega,qaa (hT 24 F24 rfl) rfl ?_⟩
 rcases hw with ⟨h5,rfl⟩ | ⟨h5,rfl⟩<;>by_cases hd1:d<1
 ·simp[F24,n1,n2,n3,h5,hd1,qag]
 ·simp[F24,n1,n2,n3,h5,hd1,h.resolve_left hd1,qag]
 ·simp[F24,n1,n2,n3,h5,hd1,qag]
 ·simp[F24,n1,n2,n3,h5,hd1,h.resolve_left hd1,qag]
theorem qp9 (c4:4<=c) (hw:Fl xs i want 1) (h:d<1\/nxV xs (i+1) 6<2) (hk:(nxV xs (i+1) 6).tmod 3=0):TG prog xs want d i c:=by
 have n1:=qe2 hT hb hx (i:=i) (m:=24) hi (by omega) (by omega)
 have n2:=qe2 hT hb hx (i:=i+1) (m:=6) (by omega) (by omega) (by omega)
 have n3:=qe2 hT hb hx (i:=i+1+1) (m:=20) (by omega) (by omega) (by omega)
 have l3:=qdx hx (i:=i+1+1) (m:=20) (by omega)
 have n4:=qm5 hT hb (n:=nxV xs (i+1+1) 20) (by unfold I64; omega)
 have hp:=qfs d.toNat
 refine⟨.var (nmT (qcU (nxV xs (i+1+1) 20) 20)),i+1+1+1,⟨qlt _ (qfZ (by unfold I64; omega) (by omega)),Nat.zero_le _,by simp only[qg4,qg5,qf4]; omega⟩,by omega,qaa (hT 24 F24 rfl) rfl ?_⟩
 rcases hw with ⟨h5,rfl⟩ | ⟨h5,rfl⟩<;>by_cases hd1:d<1
 ·simp[F24,n1,n2,n3,h5,hd1,n4,hk,qag]
 ·simp[F24,n1,n2,n3,h5,hd1,h.resolve_left hd1,n4,hk,qag]
 ·simp[F24,n1,n2,n3,h5,hd1,n4,hk,qag]
 ·simp[F24,n1,n2,n3,h5,hd1,h.resolve_left hd1,n4,hk,qag]
theorem qm7 (c4:4<=c) (hw:Fl xs i want 1) (h:d<1\/nxV xs (i+1) 6<2) (hk:(nxV xs (i+1) 6).tmod 3=1):TG prog xs want d i c:=by
 have n1:=qe2 hT hb hx (i:=i) (m:=24) hi (by omega) (by omega)
 have n2:=qe2 hT hb hx (i:=i+1) (m:=6) (by omega) (by omega) (by omega)
 obtain⟨s,hs,n3⟩:=qgc hT hb hx (i:=i+1+1) (ss:=[⟨#[115,101,108,102]⟩,⟨#[111,116,104,101,114]⟩,⟨#[116,105,99,107]⟩]) (f:=true) (by omega) (by omega) (by simp)
 simp only[strC,List.map,List.length_cons,List.length_nil] at n3
 have hn : ∀ s∈([⟨#[115,101,108,102]⟩,⟨#[111,116,104,101,114]⟩,⟨#[116,105,99,107]⟩]:List ByteArray),s=qtJ\/s=qql\/s=qh9:=by decide
 have hp:=qfs d.toNat
 refine⟨.name s,i+1+1+1,⟨hn s hs,Nat.zero_le _,by simp only[qg4,qg5,qf4]; omega⟩,by omega,qaa (hT 24 F24 rfl) rfl ?_⟩
 rcases hw with ⟨h5,rfl⟩ | ⟨h5,rfl⟩<;>by_cases hd1:d<1
 ·simp[F24,n1,n2,n3,h5,hd1,hk,qag]
 ·simp[F24,n1,n2,n3,h5,hd1,h.resolve_left hd1,hk,qag]
 ·simp[F24,n1,n2,n3,h5,hd1,hk,qag]
 ·simp[F24,n1,n2,n3,h5,hd1,h.resolve_left hd1,hk,qag]
theorem qqa (c4:4<=c) (hw:Fl xs i want 1) (h:d<1\/nxV xs (i+1) 6<2) (hk : ¬ (nxV xs (i+1) 6).tmod 3=0) (hk1 : ¬ (nxV xs (i+1) 6).tmod 3=1):TG prog xs want d i c:=by
 have n1:=qe2 hT hb hx (i:=i) (m:=24) hi (by omega) (by omega)
 have n2:=qe2 hT hb hx (i:=i+1) (m:=6) (by omega) (by omega) (by omega)
 have n3:=qe2 hT hb hx (i:=i+1+1) (m:=100) (by omega) (by omega) (by omega)
 have l3:=qdx hx (i:=i+1+1) (m:=100) (by omega)
 have hp:=qfs d.toNat
 refine⟨.int (nxV xs (i+1+1) 100),i+1+1+1,⟨by simp only[E.good]; omega,Nat.zero_le _,by simp only[qg4,qg5,qf4]; omega⟩,by omega,qaa (hT 24 F24 rfl) rfl ?_⟩
 rcases hw with ⟨h5,rfl⟩ | ⟨h5,rfl⟩<;>by_cases hd1:d<1
 ·simp[F24,n1,n2,n3,h5,hd1,hk,hk1,qag]
 ·simp[F24,n1,n2,n3,h5,hd1,h.resolve_left hd1,hk,hk1,qag]
 ·simp[F24,n1,n2,n3,h5,hd1,hk,hk1,qag]
 ·simp[F24,n1,n2,n3,h5,hd1,h.resolve_left hd1,hk,hk1,qag]
theorem qsU {c':Int} (h0:0<=c') (hc':4+c'<=c) (hd:1<=d/\d<=100) (hw:Fl xs i want 2) (hk:nxV xs (i+1) 6=1) (ih : ∀ j,i<=j->j<=i+3->TG prog xs 2 (d-1) j c'):TG prog xs want d i c:=by
 have n1:=qe2 hT hb hx (i:=i) (m:=24) hi (by omega) (by omega)
 have n2:=qe2 hT hb hx (i:=i+1) (m:=6) (by omega) (by omega) (by omega)
 obtain⟨e,i',⟨g1,g2,g3⟩,hi',z⟩:=ih (i+1+1) (by omega) (by omega)
 have hm:mxs d.toNat=2*mxs (d-1).toNat+1:=by rw[show d.toNat=(d-1).toNat+1 by omega]; rfl
 have hp:=qfs (d-1).toNat
 have hd1 : ¬ d<1:=by omega
 have w1:=qag (d-1) (by omega)
 simp only[E.node] at z
 refine⟨.un true false e,i',⟨g1,by simp only[E.dp]; omega,by simp only[qjy,qeX]; omega⟩,by omega,qaa (hT 24 F24 rfl) rfl ?_⟩
 have o1:=qaJ e
 have o2:=qbH e
 rcases hw with ⟨h5,rfl⟩ | ⟨h5,rfl⟩<;>simp[F24,n1,n2,z,h5,hd1,hk,w1,o1,o2,qag,ustr]
theorem qsV {c':Int} (h0:0<=c') (hc':4+c'<=c) (hd:1<=d/\d<=100) (hw:Fl xs i want 1) (hk:nxV xs (i+1) 6=2) (ih : ∀ j,i<=j->j<=i+3->TG prog xs 1 (d-1) j c'):TG prog xs want d i c:=by
 have n1:=qe2 hT hb hx (i:=i) (m:=24) hi (by omega) (by omega)
 have n2:=qe2 hT hb hx (i:=i+1) (m:=6) (by omega) (by omega) (by omega)
 obtain⟨e,i',⟨g1,g2,g3⟩,hi',z⟩:=ih (i+1+1) (by omega) (by omega)
 have hm:mxs d.toNat=2*mxs (d-1).toNat+1:=by rw[show d.toNat=(d-1).toNat+1 by omega]; rfl
 have hp:=qfs (d-1).toNat
 have hd1 : ¬ d<1:=by omega
 have w1:=qag (d-1) (by omega)
 simp only[E.node] at z
 refine⟨.un true true e,i',⟨g1,by simp only[E.dp]; omega,by simp only[qjy,qeX]; omega⟩,by omega,qaa (hT 24 F24 rfl) rfl ?_⟩
 have o1:=qaJ e
 have o2:=qbH e
 rcases hw with ⟨h5,rfl⟩ | ⟨h5,rfl⟩<;>simp[F24,n1,n2,z,h5,hd1,hk,w1,o1,o2,qag,ustr]
theorem qoF {c':Int} (h0:0<=c') (hc':4+c'<=c) (hd:1<=d/\d<=100) (hw:Fl xs i want 1) (hk:nxV xs (i+1) 6=3) (ih : ∀ j,i<=j->j<=i+3->TG prog xs 1 (d-1) j c'):TG prog xs want d i c:=by
 have n1:=qe2 hT hb hx (i:=i) (m:=24) hi (by omega) (by omega)
 have n2:=qe2 hT hb hx (i:=i+1) (m:=6) (by omega) (by omega) (by omega)
 obtain⟨s,hs,n3⟩:=qgc hT hb hx (i:=i+1+1) (ss:=[⟨#[120]⟩,⟨#[121]⟩,⟨#[118,120]⟩,⟨#[118,121]⟩,⟨#[97]⟩,⟨#[98]⟩,⟨#[104,105,116]⟩,⟨#[115,116,105,108,108]⟩]) (f:=true) (by omega) (by omega) (by simp)
 simp only[strC,List.map,List.length_cons,List.length_nil] at n3
 have hn : ∀ s∈([⟨#[120]⟩,⟨#[121]⟩,⟨#[118,120]⟩,⟨#[118,121]⟩,⟨#[97]⟩,⟨#[98]⟩,⟨#[104,105,116]⟩,⟨#[115,116,105,108,108]⟩]:List ByteArray),s∈fieldNames:=by decide
 obtain⟨e,i',⟨g1,g2,g3⟩,hi',z⟩:=ih (i+1+1+1) (by omega) (by omega)
 have hm:mxs d.toNat=2*mxs (d-1).toNat+1:=by rw[show d.toNat=(d-1).toNat+1 by omega]; rfl
 have hp:=qfs (d-1).toNat
 have hd1 : ¬ d<1:=by omega
 have w1:=qag (d-1) (by omega)
 simp only[E.node] at z
 refine⟨.field true s e,i',⟨⟨hn s hs,g1⟩,by simp only[E.dp]; omega,by simp only[qjy,qeX]; omega⟩,by omega,qaa (hT 24 F24 rfl) rfl ?_⟩
 have o1:=qaJ e
 have o2:=qbH e
 rcases hw with ⟨h5,rfl⟩ | ⟨h5,rfl⟩<;>simp[F24,n1,n2,n3,z,h5,hd1,hk,w1,o1,o2,qag,ustr]
theorem qoG {c':Int} (h0:0<=c') (hc':4+2*c'<=c) (hd:1<=d/\d<=100) (hw:Fl xs i want 2) (hk:nxV xs (i+1) 6=2) (ih : ∀ j,i<=j->j<=i+3+c'->TG prog xs 2 (d-1) j c'):TG prog xs want d i c:=by
 have n1:=qe2 hT hb hx (i:=i) (m:=24) hi (by omega) (by omega)
 have n2:=qe2 hT hb hx (i:=i+1) (m:=6) (by omega) (by omega) (by omega)
 obtain⟨s,hs,n3⟩:=qgc hT hb hx (i:=i+1+1) (ss:=[⟨#[38,38]⟩,⟨#[124,124]⟩]) (f:=true) (by omega) (by omega) (by simp)
 simp only[strC,List.map,List.length_cons,List.length_nil] at n3
 obtain⟨o,rfl⟩ : ∃ o:Bop,s=o.str:=by
  simp only[List.mem_cons,List.not_mem_nil,or_false] at hs
  rcases hs with rfl | rfl
  ·exact⟨.and,rfl⟩
  ·exact⟨.or,rfl⟩
 obtain⟨a,i1,⟨g1,g2,g3⟩,hi1,z1⟩:=ih (i+1+1+1) (by omega) (by omega)
 obtain⟨b,i2,⟨g4,g5,g6⟩,hi2,z2⟩:=ih i1 (by omega) (by omega)
 have hm:mxs d.toNat=2*mxs (d-1).toNat+1:=by rw[show d.toNat=(d-1).toNat+1 by omega]; rfl
 have hd1 : ¬ d<1:=by omega
 have w1:=qag (d-1) (by omega)
 simp only[E.node] at z1 z2
 refine⟨.bin true o a b,i2,⟨⟨g1,g4⟩,by simp only[E.dp]; omega,by simp only[qg6]; omega⟩,by omega,qaa (hT 24 F24 rfl) rfl ?_⟩
 have o1:=qaJ a
 have o2:=qbH a
 have o3:=qaJ b
 have o4:=qbH b
 rcases hw with ⟨h5,rfl⟩ | ⟨h5,rfl⟩<;>simp[F24,n1,n2,n3,z1,z2,h5,hd1,hk,w1,o1,o2,o3,o4,qag]
theorem qsW {c':Int} (h0:0<=c') (hc':4+2*c'<=c) (hd:1<=d/\d<=100) (hw:Fl xs i want 2) (hk:3<=nxV xs (i+1) 6) (ih : ∀ j,i<=j->j<=i+3+c'->TG prog xs 1 (d-1) j c'):TG prog xs want d i c:=by
 have n1:=qe2 hT hb hx (i:=i) (m:=24) hi (by omega) (by omega)
 have n2:=qe2 hT hb hx (i:=i+1) (m:=6) (by omega) (by omega) (by omega)
 obtain⟨s,hs,n3⟩:=qgc hT hb hx (i:=i+1+1) (ss:=[⟨#[60]⟩,⟨#[60,61]⟩,⟨#[62]⟩,⟨#[62,61]⟩,⟨#[61,61]⟩,⟨#[33,61]⟩]) (f:=true) (by omega) (by omega) (by simp)
 simp only[strC,List.map,List.length_cons,List.length_nil] at n3
 obtain⟨o,rfl⟩ : ∃ o:Bop,s=o.str:=by
  simp only[List.mem_cons,List.not_mem_nil,or_false] at hs
  rcases hs with rfl | rfl | rfl | rfl | rfl | rfl
  ·exact⟨.lt,rfl⟩
  ·exact⟨.le,rfl⟩
  ·exact⟨.gt,rfl⟩
  ·exact⟨.ge,rfl⟩
  ·exact⟨.eq,rfl⟩
  ·exact⟨.ne,rfl⟩
 obtain⟨a,i1,⟨g1,g2,g3⟩,hi1,z1⟩:=ih (i+1+1+1) (by omega) (by omega)
 obtain⟨b,i2,⟨g4,g5,g6⟩,hi2,z2⟩:=ih i1 (by omega) (by omega)
 have hm:mxs d.toNat=2*mxs (d-1).toNat+1:=by rw[show d.toNat=(d-1).toNat+1 by omega]; rfl
 have hd1 : ¬ d<1:=by omega
 have w1:=qag (d-1) (by omega)
 have k0 : ¬ nxV xs (i+1) 6=0:=by omega
 have k1 : ¬ nxV xs (i+1) 6=1:=by omega
 have k2 : ¬ nxV xs (i+1) 6=2:=by omega
 simp only[E.node] at z1 z2
 refine⟨.bin true o a b,i2,⟨⟨g1,g4⟩,by simp only[E.dp]; omega,by simp only[qg6]; omega⟩,by omega,qaa (hT 24 F24 rfl) rfl ?_⟩
 have o1:=qaJ a
 have o2:=qbH a
 have o3:=qaJ b
 have o4:=qbH b
 rcases hw with ⟨h5,rfl⟩ | ⟨h5,rfl⟩<;>simp[F24,n1,n2,n3,z1,z2,h5,hd1,hk,w1,o1,o2,o3,o4,qag,k0,k1,k2]
theorem qoH {c':Int} (h0:0<=c') (hc':4+2*c'<=c) (hd:1<=d/\d<=100) (hw:Fl xs i want 1) (hk:4<=nxV xs (i+1) 6) (ih : ∀ j,i<=j->j<=i+3+c'->TG prog xs 1 (d-1) j c'):TG prog xs want d i c:=by
 have n1:=qe2 hT hb hx (i:=i) (m:=24) hi (by omega) (by omega)
 have n2:=qe2 hT hb hx (i:=i+1) (m:=6) (by omega) (by omega) (by omega)
 obtain⟨s,hs,n3⟩:=qgc hT hb hx (i:=i+1+1) (ss:=[⟨#[43]⟩,⟨#[45]⟩,⟨#[42]⟩,⟨#[47]⟩]) (f:=true) (by omega) (by omega) (by simp)
 simp only[strC,List.map,List.length_cons,List.length_nil] at n3
 obtain⟨o,rfl⟩ : ∃ o:Bop,s=o.str:=by
  simp only[List.mem_cons,List.not_mem_nil,or_false] at hs
  rcases hs with rfl | rfl | rfl | rfl
  ·exact⟨.add,rfl⟩
  ·exact⟨.sub,rfl⟩
  ·exact⟨.mul,rfl⟩
  ·exact⟨.div,rfl⟩
 obtain⟨a,i1,⟨g1,g2,g3⟩,hi1,z1⟩:=ih (i+1+1+1) (by omega) (by omega)
 obtain⟨b,i2,⟨g4,g5,g6⟩,hi2,z2⟩:=ih i1 (by omega) (by omega)
 have hm:mxs d.toNat=2*mxs (d-1).toNat+1:=by rw[show d.toNat=(d-1).toNat+1 by omega]; rfl
 have hd1 : ¬ d<1:=by omega
 have w1:=qag (d-1) (by omega)
 have k0 : ¬ nxV xs (i+1) 6<2:=by omega
 have k1 : ¬ nxV xs (i+1) 6=3:=by omega
 have k2 : ¬ nxV xs (i+1) 6=2:=by omega
 simp only[E.node] at z1 z2
 refine⟨.bin true o a b,i2,⟨⟨g1,g4⟩,by simp only[E.dp]; omega,by simp only[qg6]; omega⟩,by omega,qaa (hT 24 F24 rfl) rfl ?_⟩
 have o1:=qaJ a
 have o2:=qbH a
 have o3:=qaJ b
 have o4:=qbH b
 rcases hw with ⟨h5,rfl⟩ | ⟨h5,rfl⟩<;>simp[F24,n1,n2,n3,z1,z2,h5,hd1,hk,w1,o1,o2,o3,o4,qag,k0,k1,k2]
end
omit hT hb hx in
theorem qv8 {i want:Int} (hw:want=1\/want=2):Fl xs i want 1\/Fl xs i want 2:=by
 unfold Fl
 by_cases h:nxV xs i 24=5<;>rcases hw with rfl | rfl<;>simp[h]
theorem qm8 : ∀ (n:Nat) (want i:Int),n<=100->(want=1\/want=2)->0<=i->i+cT n<2^60->TG prog xs want n i (cT n)
 | 0,want,i,hn,hw,hi,hc=>by
  have l2:=qdx hx (i:=i+1) (m:=6) (by omega)
  have c4:(4:Int)<=cT 0:=by decide
  rcases qv8 (xs:=xs) (i:=i) hw with hw | hw
  ·by_cases h0:(nxV xs (i+1) 6).tmod 3=0
   ·exact qp9 hT hb hx hi hc c4 hw (.inl (by omega)) h0
   ·by_cases h1:(nxV xs (i+1) 6).tmod 3=1
    ·exact qm7 hT hb hx hi hc c4 hw (.inl (by omega)) h1
    ·exact qqa hT hb hx hi hc c4 hw (.inl (by omega)) h0 h1
  ·exact qm6 hT hb hx hi hc c4 hw (.inl (by omega))
 | n+1,want,i,hn,hw,hi,hc=>by
  have l2:=qdx hx (i:=i+1) (m:=6) (by omega)
  have hp:=qp8 n
  have hcn:cT (n+1)=4+2*cT n:=rfl
  have e1:((n+1:Nat):Int)-1=(n:Int):=by omega
  have ih : ∀ (w j:Int),(w=1\/w=2)->i<=j->j<=i+3+cT n->TG prog xs w (((n+1:Nat):Int)-1) j (cT n):=fun w j hw h1 h2=>by
   rw[e1]
   exact qm8 n w j (by omega) hw (by omega) (by omega)
  have hd:1<=((n+1:Nat):Int)/\((n+1:Nat):Int)<=100+1:=by omega
  have hd':1<=((n+1:Nat):Int)/\((n+1:Nat):Int)<=100:=by omega
  rcases qv8 (xs:=xs) (i:=i) hw with hw | hw
  ·by_cases h2:nxV xs (i+1) 6<2
   ·by_cases h0:(nxV xs (i+1) 6).tmod 3=0
    ·exact qp9 hT hb hx hi hc (by omega) hw (.inr h2) h0
    ·by_cases h1:(nxV xs (i+1) 6).tmod 3=1
     ·exact qm7 hT hb hx hi hc (by omega) hw (.inr h2) h1
     ·exact qqa hT hb hx hi hc (by omega) hw (.inr h2) h0 h1
   ·by_cases h3:nxV xs (i+1) 6=2
    ·exact qsV hT hb hx hi hc (c':=cT n) (by omega) (by omega) hd' hw h3 (fun j a b=>ih 1 j (.inl rfl) a (by omega))
    ·by_cases h4:nxV xs (i+1) 6=3
     ·exact qoF hT hb hx hi hc (c':=cT n) (by omega) (by omega) hd' hw h4 (fun j a b=>ih 1 j (.inl rfl) a (by omega))
     ·exact qoH hT hb hx hi hc (c':=cT n) (by omega) (by omega) hd' hw (by omega) (fun j a b=>ih 1 j (.inl rfl) a b)
  ·by_cases h0:nxV xs (i+1) 6=0
   ·exact qm6 hT hb hx hi hc (by omega) hw (.inr h0)
   ·by_cases h1:nxV xs (i+1) 6=1
    ·exact qsU hT hb hx hi hc (c':=cT n) (by omega) (by omega) hd' hw h1 (fun j a b=>ih 2 j (.inr rfl) a (by omega))
    ·by_cases h2:nxV xs (i+1) 6=2
     ·exact qoG hT hb hx hi hc (c':=cT n) (by omega) (by omega) hd' hw h2 (fun j a b=>ih 2 j (.inr rfl) a b)
     ·exact qsW hT hb hx hi hc (c':=cT n) (by omega) (by omega) hd' hw (by omega) (fun j a b=>ih 1 j (.inl rfl) a b)
end
end Go.Pm
end ST6
section ST7
namespace Go.Pm
open F
set_option maxHeartbeats 4000000
def tsz:Nat->Nat
 | 0=>20
 | d+1=>20+6*tsz d
def cS:Nat->Int
 | 0=>100
 | d+1=>102+6*cS d
theorem qtx (d:Nat):100<=cS d:=by
 induction d with
 | zero=>simp[cS]
 | succ d ih=>simp only[cS]; omega
theorem qgk (d:Nat):20<=tsz d:=by cases d<;>simp[tsz]
def TSt (prog:Nat->Option PFun) (xs:List Int) (d i c:Int):Prop:=
 ∃ (st:Ss) (k n:Int) (s:ByteArray) (f:Bool) (ks:Fo) (i':Int),st.fo = .cons k n s f ks .nil/\(st.good none/\st.nest<=8+d.toNat/\st.fo.size<=tsz d.toNat)/\(i<=i'/\i'<=i+c)/\Z prog (.call 36 [.ptr 0 0,.int d] (tsr xs i))=some (.ret (nd k n s f ks) (tsr xs i'))
def TBl (prog:Nat->Option PFun) (xs:List Int) (d i c:Int):Prop:=
 ∃ (b:Ss) (i':Int),(b.good none/\b.nest<=8+d.toNat/\b.fo.size<=3*tsz d.toNat)/\(i<=i'/\i'<=i+c)/\Z prog (.call 29 [.ptr 0 0,.int d] (tsr xs i))=some (.ret (nd 7 0 ⟨#[]⟩ false b.fo) (tsr xs i'))
theorem qd3 : ∀ {a b:Ss},a.good none->b.good none->(a.app b).good none
 | .nil,_,_,hb=>hb
 | .assign ..,_,⟨_,h1,h2,h3⟩,hb=>⟨rfl,h1,h2,qd3 h3 hb⟩
 | .store ..,_,⟨_,h1,h2,h3,h4⟩,hb=>⟨rfl,h1,h2,h3,qd3 h4 hb⟩
 | .effect ..,_,⟨_,h1,h2,h3⟩,hb=>⟨rfl,h1,h2,qd3 h3 hb⟩
 | .stop ..,_,⟨_,h1⟩,hb=>⟨rfl,qd3 h1 hb⟩
 | .cond ..,_,⟨_,h1,h2,h3⟩,hb=>⟨rfl,h1,h2,qd3 h3 hb⟩
 | .block ..,_,⟨_,h,_⟩,_=>by cases h
section
variable {prog:Nat->Option PFun} (hT:Sub tT prog) (hb:Sub qd9 prog) {xs:List Int} (hx : ∀ x∈xs,I64 x)
include hT hb hx
theorem tex {n:Nat} (hn:n<=3) {w i:Int} (hw:w=1\/w=2) (hi:0<=i) (hc:i<2^59) {N:Int} (hN:N=n) : ∃ (e:E) (i':Int),(e.good/\(∀ p,e.nest false p<=6)/\e.size<=mxs n)/\(i<=i'/\i'<=i+cT n)/\V.one (.dat e.kids)=true/\V.cells (.dat e.kids)=[.dat e.kids]/\Z prog (.call 24 [.ptr 0 0,.int w,.int N] (tsr xs i))=some (.ret (.dat (.agg [.lit (.int .i64 e.kind),.lit (.int .i64 e.num),.lit (.string e.str),e.kids])) (tsr xs i')):=by
 subst hN
 have h60:cT n<=60:=by
  obtain rfl | rfl | rfl | rfl:n=0\/n=1\/n=2\/n=3:=by omega
  all_goals decide
 obtain⟨e,i',⟨h1,h2,h3⟩,h4,z⟩:=qm8 hT hb hx n w i (by omega) hw hi (by omega)
 exact⟨e,i',⟨h1,fun p=>by have:=qf1 false e p; omega,h3⟩,h4,qaJ e,qbH e,z⟩
section
variable {i d c:Int} (hi:0<=i) (hc:i+c<2^58)
include hi hc
theorem qhH (c4:62<=c) (h:nxV xs i 9<3\/(d<1/\6<nxV xs i 9)):TSt prog xs d i c:=by
 have n1:=qe2 hT hb hx (i:=i) (m:=9) hi (by omega) (by omega)
 have n2:=qe2 hT hb hx (i:=i+1) (m:=20) (by omega) (by omega) (by omega)
 have l2:=qdx hx (i:=i+1) (m:=20) (by omega)
 have n3:=qm5 hT hb (n:=nxV xs (i+1) 20) (by unfold I64; omega)
 obtain⟨e,i',⟨g1,g2,g3⟩,h2,o1,o2,z⟩:=tex hT hb hx (n:=3) (by omega) (w:=1) (i:=i+1+1) (.inl rfl) (by omega) (by omega) (N:=3) rfl
 have hp:=qgk d.toNat
 have q1:=g2 1
 have m3:mxs 3=15:=rfl
 have t3:cT 3=60:=rfl
 refine⟨.assign true (nmT (qcU (nxV xs (i+1) 20) 20)) e .nil,1,0,_,true,e.fo .nil,i',rfl,⟨⟨rfl,qlt _ (qfZ (by unfold I64; omega) (by omega)),g1,.inl rfl⟩,by simp only[Ss.nest]; omega,by simp only[Ss.fo,qaq,qdz,qbg]; omega⟩,by omega,qaa (hT 36 F36 rfl) rfl ?_⟩
 rcases h with h | ⟨h,h'⟩
 ·have h6 : ¬ 6<nxV xs i 9:=by omega
  by_cases hd:d<1<;>simp[F36,n1,n2,n3,z,h,h6,hd]
 ·simp[F36,n1,n2,n3,z,h,h']
theorem qlN (c4:62<=c) (h:3<=nxV xs i 9) (h':nxV xs i 9<5):TSt prog xs d i c:=by
 have n1:=qe2 hT hb hx (i:=i) (m:=9) hi (by omega) (by omega)
 have hp:=qgk d.toNat
 have t2:cT 2=28:=rfl
 have m2:mxs 2=7:=rfl
 obtain⟨s,hs,n2⟩:=qgc hT hb hx (i:=i+1) (ss:=[⟨#[120]⟩,⟨#[121]⟩,⟨#[118,120]⟩,⟨#[118,121]⟩,⟨#[97]⟩,⟨#[98]⟩,⟨#[97]⟩,⟨#[98]⟩,⟨#[120]⟩,⟨#[121]⟩,⟨#[118,120]⟩,⟨#[118,121]⟩,⟨#[97]⟩,⟨#[98]⟩,⟨#[104,105,116]⟩,⟨#[115,116,105,108,108]⟩]) (f:=true) (by omega) (by omega) (by simp)
 simp only[strC,List.map,List.length_cons,List.length_nil] at n2
 have hn : ∀ s∈([⟨#[120]⟩,⟨#[121]⟩,⟨#[118,120]⟩,⟨#[118,121]⟩,⟨#[97]⟩,⟨#[98]⟩,⟨#[97]⟩,⟨#[98]⟩,⟨#[120]⟩,⟨#[121]⟩,⟨#[118,120]⟩,⟨#[118,121]⟩,⟨#[97]⟩,⟨#[98]⟩,⟨#[104,105,116]⟩,⟨#[115,116,105,108,108]⟩]:List ByteArray),s∈fieldNames:=by decide
 obtain⟨a,i1,⟨g1,r1,s1⟩,j1,o1,p1,z1⟩:=tex hT hb hx (n:=2) (by omega) (w:=1) (i:=i+1+1) (.inl rfl) (by omega) (by omega) (N:=2) rfl
 have q1:=r1 1
 obtain⟨b,i2,⟨g2,r2,s2⟩,j2,o2,p2,z2⟩:=tex hT hb hx (n:=2) (by omega) (w:=1) (i:=i1) (.inl rfl) (by omega) (by omega) (N:=2) rfl
 have q2:=r2 1
 refine⟨.store true s a b .nil,2,0,s,true,a.fo (b.fo .nil),i2,rfl,⟨⟨rfl,hn s hs,g1,g2,.inl rfl⟩,by simp only[Ss.nest]; omega,by simp only[Ss.fo,qaq,qdz,qbg]; omega⟩,by omega,qaa (hT 36 F36 rfl) rfl ?_⟩
 have k6 : ¬ 6<nxV xs i 9:=by omega
 have k3 : ¬ nxV xs i 9<3:=by omega
 clear hn hs
 by_cases hd:d<1<;>simp[F36,n1,n2,z1,z2,o1,o2,p1,p2,h',k6,k3,hd]
theorem qkh (c4:62<=c) (h:nxV xs i 9=5):TSt prog xs d i c:=by
 have n1:=qe2 hT hb hx (i:=i) (m:=9) hi (by omega) (by omega)
 have hp:=qgk d.toNat
 have t2:cT 2=28:=rfl
 have m2:mxs 2=7:=rfl
 obtain⟨a,i1,⟨g1,r1,s1⟩,j1,o1,p1,z1⟩:=tex hT hb hx (n:=2) (by omega) (w:=1) (i:=i+1) (.inl rfl) (by omega) (by omega) (N:=2) rfl
 have q1:=r1 1
 obtain⟨b,i2,⟨g2,r2,s2⟩,j2,o2,p2,z2⟩:=tex hT hb hx (n:=2) (by omega) (w:=1) (i:=i1) (.inl rfl) (by omega) (by omega) (N:=2) rfl
 have q2:=r2 1
 refine⟨.effect true a b .nil,5,0,_,true,a.fo (b.fo .nil),i2,rfl,⟨⟨rfl,g1,g2,.inl rfl⟩,by simp only[Ss.nest]; omega,by simp only[Ss.fo,qaq,qdz,qbg]; omega⟩,by omega,qaa (hT 36 F36 rfl) rfl ?_⟩
 by_cases hd:d<1<;>simp[F36,n1,z1,z2,o1,o2,p1,p2,h,hd]
theorem qnF (c4:62<=c) (h:nxV xs i 9=6):TSt prog xs d i c:=by
 have n1:=qe2 hT hb hx (i:=i) (m:=9) hi (by omega) (by omega)
 have hp:=qgk d.toNat
 have t2:cT 2=28:=rfl
 have m2:mxs 2=7:=rfl
 refine⟨.stop .nil,6,0,_,false,.nil,i+1,rfl,⟨⟨rfl,.inl rfl⟩,by simp only[Ss.nest]; omega,by simp only[Ss.fo,qaq,qbg]; omega⟩,by omega,qaa (hT 36 F36 rfl) rfl ?_⟩
 by_cases hd:d<1<;>simp[F36,n1,h,hd]
theorem qvs {c':Int} (h0:0<=c') (c4:30+2*c'<=c) (hd:1<=d/\d<100) (h:nxV xs i 9=7) (ih : ∀ j,i<=j->j<=i+29+c'->TBl prog xs (d-1) j c'):TSt prog xs d i c:=by
 have n1:=qe2 hT hb hx (i:=i) (m:=9) hi (by omega) (by omega)
 have hp:=qgk d.toNat
 have t2:cT 2=28:=rfl
 have m2:mxs 2=7:=rfl
 obtain⟨e,i1,⟨g1,r1,s1⟩,j1,o1,p1,z1⟩:=tex hT hb hx (n:=2) (by omega) (w:=2) (i:=i+1) (.inr rfl) (by omega) (by omega) (N:=2) rfl
 have q1:=r1 1
 obtain⟨a,i2,⟨g4,g5,g6⟩,h5,z2⟩:=ih i1 (by omega) (by omega)
 obtain⟨b,i3,⟨g7,g8,g9⟩,h8,z3⟩:=ih i2 (by omega) (by omega)
 have ht:tsz d.toNat=20+6*tsz (d-1).toNat:=by rw[show d.toNat=(d-1).toNat+1 by omega]; rfl
 refine⟨.cond false true e (.block false a (.block false b .nil)) .nil,3,0,_,true,e.fo (.cons 7 0 ⟨#[]⟩ false a.fo (.cons 7 0 ⟨#[]⟩ false b.fo .nil)),i3,rfl,⟨⟨rfl,g1,⟨1,rfl,g4,0,rfl,g7,.inr rfl⟩,.inl rfl⟩,by simp only[Ss.nest]; omega,by simp only[Ss.fo,qaq,qdz,qbg]; omega⟩,by omega,qaa (hT 36 F36 rfl) rfl ?_⟩
 have hd1 : ¬ d<1:=by omega
 have w1:=qag (d-1) (by omega)
 simp only[nd] at z2 z3
 simp[F36,n1,z1,z2,z3,o1,p1,h,hd1,w1]
theorem qpi {c':Int} (h0:0<=c') (c4:30+2*c'<=c) (hd:1<=d/\d<100) (h:8<=nxV xs i 9) (ih : ∀ j,i<=j->j<=i+29+c'->TBl prog xs (d-1) j c'):TSt prog xs d i c:=by
 have n1:=qe2 hT hb hx (i:=i) (m:=9) hi (by omega) (by omega)
 have hp:=qgk d.toNat
 have t2:cT 2=28:=rfl
 have m2:mxs 2=7:=rfl
 obtain⟨e,i1,⟨g1,r1,s1⟩,j1,o1,p1,z1⟩:=tex hT hb hx (n:=2) (by omega) (w:=2) (i:=i+1) (.inr rfl) (by omega) (by omega) (N:=2) rfl
 have q1:=r1 1
 obtain⟨a,i2,⟨g4,g5,g6⟩,h5,z2⟩:=ih i1 (by omega) (by omega)
 have ht:tsz d.toNat=20+6*tsz (d-1).toNat:=by rw[show d.toNat=(d-1).toNat+1 by omega]; rfl
 refine⟨.cond true true e (.block false a .nil) .nil,4,0,_,true,e.fo (.cons 7 0 ⟨#[]⟩ false a.fo .nil),i2,rfl,⟨⟨rfl,g1,⟨0,rfl,g4,.inr rfl⟩,.inl rfl⟩,by simp only[Ss.nest]; omega,by simp only[Ss.fo,qaq,qdz,qbg]; omega⟩,by omega,qaa (hT 36 F36 rfl) rfl ?_⟩
 have hd1 : ¬ d<1:=by omega
 have w1:=qag (d-1) (by omega)
 have k3 : ¬ nxV xs i 9<3:=by omega
 have k5 : ¬ nxV xs i 9<5:=by omega
 have k5' : ¬ nxV xs i 9=5:=by omega
 have k6 : ¬ nxV xs i 9=6:=by omega
 have k7 : ¬ nxV xs i 9=7:=by omega
 simp only[nd] at z2
 simp[F36,n1,z1,z2,o1,p1,k3,k5,k5',k6,k7,hd1,w1]
end
end
abbrev z4T:Ob := .cells [.int 0,.int 0,.str ⟨#[]⟩,.dat (.lit (.slice none 0 0))]
abbrev qvt (xs:List Int) (i:Int):S:=[.cells [.dat (qek xs),.int i],z4T,.cells [.int 7,.int 0,.str ⟨#[]⟩,.dat (.lit (.slice none 0 0))]]
abbrev qpj (xs:List Int) (i:Int) (pre:Fo):S:=[.cells [.dat (qek xs),.int i],z4T,.cells [.int 7,.int 0,.str ⟨#[]⟩,.gsl pre.cells pre.len 4 3],.tip pre.cells.length]
abbrev tbf (d c:Int):Fr:=[(0,.ptr 0 0),(1,.int d),(4,.ptr 1 0),(5,.ptr 2 0),(6,.int c)]
section
variable {prog:Nat->Option PFun} {xs:List Int} {i d c:Int}
theorem qrm:Z prog (.loop 1 F29l0 (tbf d 0) (qvt xs i))=some (.out (.exit 0) (tbf d 0++[(11,.bool false)]) (qvt xs i)):=by
 rw[qac]
 simp[qae,qf6]
theorem qrn {pre:Fo}:Z prog (.loop 1 F29l0 (tbf d 0) (qpj xs i pre))=some (.out (.exit 0) (tbf d 0++[(11,.bool false)]) (qpj xs i pre)):=by
 rw[qac]
 simp[qae,qf6]
theorem qpk {i':Int} {k n:Int} {s:ByteArray} {f:Bool} {ks:Fo} (hc:0<c) (hc':c<100) (h:Z prog (.call 36 [.ptr 0 0,.int d] (tsr xs i))=some (.ret (nd k n s f ks) (tsr xs i'))) :
  Z prog (.loop 1 F29l0 (tbf d c) (qvt xs i))=Z prog (.loop 1 F29l0 (tbf d (c-1)) (qpj xs i' (.cons k n s f ks .nil))):=by
 have w1:=qag (c-1) (by omega)
 conv=>lhs; rw[qac]
 simp[qae,qf6,hc,h,w1,qce,qly,qaP,tbf,qpj,z4T]
theorem qpl {i':Int} {k n:Int} {s:ByteArray} {f:Bool} {ks pre:Fo} (hp:pre.len<1000) (hc:0<c) (hc':c<100) (h:Z prog (.call 36 [.ptr 0 0,.int d] (tsr xs i))=some (.ret (nd k n s f ks) (tsr xs i'))) :
  Z prog (.loop 1 F29l0 (tbf d c) (qpj xs i pre))=Z prog (.loop 1 F29l0 (tbf d (c-1)) (qpj xs i' (pre.app (.cons k n s f ks .nil)))):=by
 have w1:=qag (c-1) (by omega)
 have r1:qaP (pre.len+1) 56=true:=by simp[qaP]; omega
 have hl:=qeG pre
 have hl2:=qgO pre (.cons k n s f ks .nil)
 have hl3:=qdS pre (.cons k n s f ks .nil)
 simp only[qav,qa1,qaN,qbd] at hl2 hl3
 conv=>lhs; rw[qac]
 simp[qae,qf6,hc,h,w1,qce,qly,r1,hl,hl2,hl3,tbf,qpj,z4T]
theorem qnG {cs:Int} {D:Nat} (hcs:0<=cs) (hS : ∀ j,i<=j->j<=i+4*cs->TSt prog xs d j cs) (hD:D=d.toNat) : ∀ (m:Nat) (j:Int) (pre:Fo),m<=3->i<=j->j+m*cs<=i+4*cs->pre.len+m<1000 ->
  ∃ (b:Ss) (i':Int),(b.good none/\b.nest<=8+D/\b.fo.size<=m*tsz D)/\(j<=i'/\i'<=j+m*cs)/\Z prog (.loop 1 F29l0 (tbf d m) (qpj xs j pre))=some (.out (.exit 0) (tbf d 0++[(11,.bool false)]) (qpj xs i' (pre.app b.fo)))
 | 0,j,pre,_,h1,h2,hp=>⟨.nil,j,⟨.inl rfl,Nat.zero_le _,Nat.zero_le _⟩,by omega,by rw[show pre.app Ss.nil.fo=pre from qse pre]; exact qrn⟩
 | m+1,j,pre,hm,h1,h2,hp=>by
  have e1:((m+1:Nat):Int)*cs=m*cs+cs:=by rw[Int.natCast_add,Int.add_mul]; simp
  have e2:(0:Int)<=m*cs:=Int.mul_nonneg (by omega) hcs
  have e3:(m+1)*tsz D=m*tsz D+tsz D:=by rw[Nat.add_mul,Nat.one_mul]
  obtain⟨st,k,n,s,f,ks,i1,g1,⟨g2,g3,g4⟩,g5,g6⟩:=hS j h1 (by omega)
  obtain⟨b,i2,⟨k1,k2,k3⟩,k4,k5⟩:=qnG hcs hS hD m i1 (pre.app (.cons k n s f ks .nil)) (by omega) (by omega) (by omega) (by rw[qdS]; simp; omega)
  have hstep:=qpl (d:=d) (c:=(m+1:Nat)) (by omega:pre.len<1000) (by omega) (by omega) g6
  rw[show ((m+1:Nat):Int)-1=m by omega] at hstep
  rw[<- hD] at g3 g4
  refine⟨st.app b,i2,⟨qd3 g2 k1,by rw[ql3]; omega,by rw[qhQ,qhO]; omega⟩,by omega,?_⟩
  rw[hstep,k5,qhQ,<- qoc,g1]
end
section
variable {prog:Nat->Option PFun} (hT:Sub tT prog) (hb:Sub qd9 prog) {xs:List Int} (hx : ∀ x∈xs,I64 x)
include hT hb hx
theorem qlO {i d cs:Int} (hi:0<=i) (hc:i+10*cs<2^58) (hcs:0<=cs) (hS : ∀ j,i+1<=j->j<=i+1+4*cs->TSt prog xs d j cs):TBl prog xs d i (1+3*cs):=by
 have n1:=qe2 hT hb hx (i:=i) (m:=4) hi (by omega) (by omega)
 have l1:=qdx hx (i:=i) (m:=4) (by omega)
 by_cases h0:nxV xs i 4=0
 ·refine⟨.nil,i+1,⟨.inl rfl,Nat.zero_le _,Nat.zero_le _⟩,by omega,qaa (hT 29 F29 rfl) rfl ?_⟩
  have h:=qrm (prog:=prog) (xs:=xs) (i:=i+1) (d:=d)
  simp only[tbf,List.cons_append,List.nil_append] at h
  simp[F29,n1,h0,h,Ss.fo]
 ·obtain⟨m,hm⟩ : ∃ m:Nat,nxV xs i 4=((m+1:Nat):Int):=⟨(nxV xs i 4-1).toNat,by omega⟩
  obtain⟨st,k,n,s,f,ks,i1,g1,⟨g2,g3,g4⟩,g5,g6⟩:=hS (i+1) (by omega) (by omega)
  have hm2:(m:Int)*cs<=2*cs:=Int.mul_le_mul_of_nonneg_right (by omega) hcs
  have hm3:m*tsz d.toNat<=2*tsz d.toNat:=Nat.mul_le_mul_right _ (by omega)
  obtain⟨b,i2,⟨k1,k2,k3⟩,k4,k5⟩:=qnG (i:=i+1) hcs hS (D:=d.toNat) rfl m i1 (.cons k n s f ks .nil) (by omega) (by omega) (by omega) (by simp; omega)
  have hstep:=qpk (d:=d) (c:=(m+1:Nat)) (by omega) (by omega) g6
  rw[show ((m+1:Nat):Int)-1=m by omega,k5,<- g1,<- qhQ,<- hm] at hstep
  have hpos:(st.app b).fo.len≠0:=by rw[qhQ,qdS,g1]; simp
  refine⟨st.app b,i2,⟨qd3 g2 k1,by rw[ql3]; omega,by rw[qhQ,qhO]; omega⟩,by omega,qaa (hT 29 F29 rfl) rfl ?_⟩
  obtain⟨q,hq⟩ : ∃ q,(st.app b).fo.len=q+1:=⟨(st.app b).fo.len-1,by omega⟩
  have hg:=qeG (st.app b).fo
  simp only[tbf,List.cons_append,List.nil_append] at hstep
  generalize (st.app b).fo=fo at *
  simp[F29,n1,hstep,hq]
theorem qty : ∀ (n:Nat),n<=4->(∀ i,0<=i->i+10*cS n<2^58->TSt prog xs n i (cS n))/\(∀ i,0<=i->i+20*cS n<2^58->TBl prog xs n i (1+3*cS n))
 | 0,_=>by
  have hs : ∀ i,0<=i->i+10*cS 0<2^58->TSt prog xs (0:Nat) i (cS 0):=fun i hi hc=>by
   have hl:=qdx hx (i:=i) (m:=9) (by omega)
   simp only[cS] at hc ⊢
   by_cases h6:6<nxV xs i 9
   ·exact qhH hT hb hx hi (by omega) (by omega) (.inr ⟨by omega,h6⟩)
   by_cases h3:nxV xs i 9<3
   ·exact qhH hT hb hx hi (by omega) (by omega) (.inl h3)
   by_cases h5:nxV xs i 9<5
   ·exact qlN hT hb hx hi (by omega) (by omega) (by omega) h5
   by_cases h5':nxV xs i 9=5
   ·exact qkh hT hb hx hi (by omega) (by omega) h5'
   exact qnF hT hb hx hi (by omega) (by omega) (by omega)
  exact⟨hs,fun i hi hc=>qlO hT hb hx hi (by simp only[cS] at *; omega) (by simp[cS]) fun j h1 h2=>hs j (by omega) (by simp only[cS] at *; omega)⟩
 | n+1,hn=>by
  have ih:=(qty n (by omega)).2
  have hp:=qtx n
  have hq:cS (n+1)=102+6*cS n:=rfl
  have hs : ∀ i,0<=i->i+10*cS (n+1)<2^58->TSt prog xs (n+1:Nat) i (cS (n+1)):=fun i hi hc=>by
   have hl:=qdx hx (i:=i) (m:=9) (by omega)
   have hd:1<=((n+1:Nat):Int)/\((n+1:Nat):Int)<100:=by omega
   have hb' : ∀ j,i<=j->j<=i+29+(1+3*cS n)->TBl prog xs (((n+1:Nat):Int)-1) j (1+3*cS n):=fun j h1 h2=>by
    rw[show ((n+1:Nat):Int)-1=n by omega]
    exact ih j (by omega) (by omega)
   by_cases h3:nxV xs i 9<3
   ·exact qhH hT hb hx hi (by omega) (by omega) (.inl h3)
   by_cases h5:nxV xs i 9<5
   ·exact qlN hT hb hx hi (by omega) (by omega) (by omega) h5
   by_cases h5':nxV xs i 9=5
   ·exact qkh hT hb hx hi (by omega) (by omega) h5'
   by_cases h6':nxV xs i 9=6
   ·exact qnF hT hb hx hi (by omega) (by omega) h6'
   by_cases h7':nxV xs i 9=7
   ·exact qvs hT hb hx hi (by omega) (by omega) (by omega) hd h7' hb'
   ·exact qpi hT hb hx hi (by omega) (by omega) (by omega) hd (by omega) hb'
  exact⟨hs,fun i hi hc=>qlO hT hb hx hi (by omega) (by omega) fun j h1 h2=>hs j (by omega) (by omega)⟩
end
abbrev qwi:Ob := .cells [.int 0,.int 0,.str ⟨#[]⟩,.dat (.lit (.slice none 0 0)),.int 0,.int 0,.str ⟨#[]⟩,.dat (.lit (.slice none 0 0)),.int 0,.int 0,.str ⟨#[]⟩,.dat (.lit (.slice none 0 0))]
abbrev ttS (xs:List Int) (i:Int) (a b c:Nd):S:=[qwi,.cells [.dat (qek xs),.int i],qsd a b c]
abbrev ttF (h:Int):Fr:=[(2,.ptr 0 0),(3,.ptr 1 0),(4,.ptr 2 0),(5,.int h)]
def Hd.tr (h:Hd):Prop:=qgM h.opt/\h.ks.size<=3000
section
variable {prog:Nat->Option PFun} (hT:Sub tT prog) (hb:Sub qd9 prog) {xs:List Int} (hx : ∀ x∈xs,I64 x)
include hT hb hx
theorem qvu {i:Int} (hi:0<=i) (hc:i<2^40) : ∃ (g:Hd) (i':Int),g.tr/\(i<=i'/\i'<=i+20000)/\Z prog (.call 25 [.ptr 0 0,.int 3] (tsr xs i))=some (.ret (.int (nxV xs i 3)) (tsr xs (i+1)))/\((¬ nxV xs i 3<2/\g = .none/\i'=i+1)\/(nxV xs i 3<2 /\ ∃ q,g = .some false q/\Z prog (.call 29 [.ptr 0 0,.int 2] (tsr xs (i+1)))=some (.ret (nd 7 0 ⟨#[]⟩ false q.fo) (tsr xs i')))):=by
 have n1:=qe2 hT hb hx (i:=i) (m:=3) hi (by omega) (by omega)
 by_cases h2:nxV xs i 3<2
 ·have hs:cS 2=4314:=by decide
  obtain⟨q,i',⟨k1,k2,k3⟩,k4,k5⟩:=(qty hT hb hx 2 (by omega)).2 (i+1) (by omega) (by rw[hs]; omega)
  rw[hs] at k4
  have ht:tsz ((2:Nat):Int).toNat=860:=rfl
  have hn:((2:Nat):Int).toNat=2:=rfl
  exact⟨.some false q,i',⟨fun b hb=>by cases hb; exact⟨k1,by omega⟩,by simp only[Hd.ks]; omega⟩,by omega,n1,.inr ⟨h2,q,rfl,k5⟩⟩
 ·exact⟨.none,i+1,⟨fun b hb=>(by cases hb),by simp[Hd.ks]⟩,by omega,n1,.inl ⟨h2,rfl,rfl⟩⟩
theorem qk3 {i:Int} (hi:0<=i) (hc:i<2^40) {k:Nat} (hk:k<3) {A B C:Nd} {k0 k1:Int} (e0:k0=k) (e1:k1=k0+1) : ∃ (g:Hd) (i':Int),g.tr/\(i<=i'/\i'<=i+20000) /\
  Z prog (.loop 0 F11l0 (ttF k0) (ttS xs i (if k=0 then Hd.none.nd else A) (if k=1 then Hd.none.nd else B) (if k=2 then Hd.none.nd else C)))=Z prog (.loop 0 F11l0 (ttF k1) (ttS xs i' (if k=0 then g.nd else A) (if k=1 then g.nd else B) (if k=2 then g.nd else C))):=by
 obtain⟨g,i',h1,h2,n1,h3⟩:=qvu hT hb hx hi hc
 refine⟨g,i',h1,h2,?_⟩
 subst e1 e0
 have w1:IntKind.i64.wrap 1=1:=rfl
 have w2:IntKind.i64.wrap 2=2:=rfl
 have w3:IntKind.i64.wrap 3=3:=rfl
 conv=>lhs; rw[qac]
 rcases h3 with ⟨h,rfl,rfl⟩ | ⟨h,q,rfl,z⟩
 ·obtain rfl | rfl | rfl:k=0\/k=1\/k=2:=by omega
  all_goals simp[qae,qhR,n1,h,w1,w2,w3,Nd.d,Hd.k,Hd.f,Hd.ks,ttF,ttS,qsd]
 ·simp only[nd] at z
  obtain rfl | rfl | rfl:k=0\/k=1\/k=2:=by omega
  all_goals simp[qae,qhR,n1,h,z,w1,w2,w3,Nd.d,Hd.k,Hd.f,Hd.ks,ttF,ttS,qsd]
end
theorem qtz {prog:Nat->Option PFun} (hT:Sub tT prog) (hb:Sub qd9 prog) {v:D} {xs:List Int} (h:RowV v xs) (hx : ∀ x∈xs,I64 x) : ∃ a b c:Hd,a.tr/\b.tr/\c.tr/\Z prog (.call 11 [.dat v] [])=some (.ret (.dat (ru a.nd b.nd c.nd)) []):=by
 have hx' : ∀ x∈xs.take 150,I64 x:=fun x hm=>hx x (List.mem_of_mem_take hm)
 have n0:=qgP hb (qtZ h 150 (by omega))
 obtain⟨a,i1,a1,a2,a3⟩:=qk3 hT hb hx' (i:=0) (by omega) (by omega) (k:=0) (by omega) (A:=Hd.none.nd) (B:=Hd.none.nd) (C:=Hd.none.nd) (k0:=0) (k1:=1) rfl rfl
 obtain⟨b,i2,b1,b2,b3⟩:=qk3 hT hb hx' (i:=i1) (by omega) (by omega) (k:=1) (by omega) (A:=a.nd) (B:=Hd.none.nd) (C:=Hd.none.nd) (k0:=1) (k1:=2) rfl rfl
 obtain⟨c,i3,c1,c2,c3⟩:=qk3 hT hb hx' (i:=i2) (by omega) (by omega) (k:=2) (by omega) (A:=a.nd) (B:=b.nd) (C:=Hd.none.nd) (k0:=2) (k1:=3) rfl rfl
 have te:Z prog (.loop 0 F11l0 (ttF 3) (ttS (xs.take 150) i3 a.nd b.nd c.nd))=some (.out (.exit 0) (ttF 3++[(11,.bool false)]) (ttS (xs.take 150) i3 a.nd b.nd c.nd)):=by
  rw[qac]
  simp[qae,qhR]
 have hl:Z prog (.loop 0 F11l0 (ttF 0) (ttS (xs.take 150) 0 Hd.none.nd Hd.none.nd Hd.none.nd))=some (.out (.exit 0) (ttF 3++[(11,.bool false)]) (ttS (xs.take 150) i3 a.nd b.nd c.nd)):=a3.trans (b3.trans (c3.trans te))
 have k0:=h.one
 have k1:=h.cells
 refine⟨a,b,c,a1,b1,c1,qaa (hT 11 F11 rfl) rfl ?_⟩
 generalize xs.take 150=ys at *
 simp only[ttF,ttS,qsd,Nd.d,qvY,qwy,qvZ,qwz,qib,List.cons_append,List.nil_append,show Hd.k .none=0 from rfl,show Hd.f .none=false from rfl,show Hd.ks .none = .nil from rfl,qwi,qbd,qa1,qws,if_true] at hl
 simp at n0 hl
 simp[F11,n0,hl,ru,Nd.d,k0,k1]
end Go.Pm
end ST7
section SUj
namespace Go.Pm
open F
set_option maxHeartbeats 8000000
structure HasD (prog:Nat->Option PFun):Prop extends Has prog where
 kd:Sub tKd prog
section
variable {prog:Nat->Option PFun} (H:Has prog)
include H
theorem qv3 {s:ByteArray} (hs:s.size<2 ^ 30) {h:Nat->Option Ss} {r:List Tk} (hp:qf2 true true false s = .ok h r) : ∃ (A B C:Nd),A=(hdO (h 0)).nd/\B=(hdO (h 1)).nd/\C=(hdO (h 2)).nd/\Z prog (.call 228 [.str s] [])=some (.ret (.tup [.dat (ru A B C),.int 0,.int 0]) []):=by
 refine⟨_,_,_,rfl,rfl,rfl,?_⟩
 have z:=qoK H s hs
 rw[qko,hp] at z
 simp only[qqI] at z
 exact z
end
end Go.Pm
end SUj
section ST4a
namespace Go.Pm
open F
def qct:List (Value × V):=[(.string ⟨#[43]⟩,.dat (.agg [.lit (.int .i64 1),.lit (.int .i64 1)])),(.string ⟨#[45]⟩,.dat (.agg [.lit (.int .i64 1),.lit (.int .i64 1)])),(.string ⟨#[42]⟩,.dat (.agg [.lit (.int .i64 1),.lit (.int .i64 1)])),(.string ⟨#[47]⟩,.dat (.agg [.lit (.int .i64 1),.lit (.int .i64 1)])),
 (.string ⟨#[60]⟩,.dat (.agg [.lit (.int .i64 1),.lit (.int .i64 2)])),(.string ⟨#[60,61]⟩,.dat (.agg [.lit (.int .i64 1),.lit (.int .i64 2)])),(.string ⟨#[62]⟩,.dat (.agg [.lit (.int .i64 1),.lit (.int .i64 2)])),(.string ⟨#[62,61]⟩,.dat (.agg [.lit (.int .i64 1),.lit (.int .i64 2)])),
 (.string ⟨#[61,61]⟩,.dat (.agg [.lit (.int .i64 1),.lit (.int .i64 2)])),(.string ⟨#[33,61]⟩,.dat (.agg [.lit (.int .i64 1),.lit (.int .i64 2)])),(.string ⟨#[38,38]⟩,.dat (.agg [.lit (.int .i64 2),.lit (.int .i64 2)])),(.string ⟨#[124,124]⟩,.dat (.agg [.lit (.int .i64 2),.lit (.int .i64 2)]))]
@[simp] theorem quu:qgQ qct=[]:=rfl
@[simp] theorem qu8 (r:Nat->Nat):qoL r qct=qct:=rfl
theorem qep:Z qaD (.call 26 [] [])=some (.ret (.agg [.mp 0]) [.map qct]):=qmR (n:=2) (by kernel_rfl)
def quv (o:Bop):V := .dat (.agg [.lit (.int .i64 o.opd),.lit (.int .i64 o.res)])
theorem qoU (o:Bop):qel .s (.string o.str) qct=some (some (quv o)):=by cases o<;>kernel_rfl
theorem qgf (k n:Int) (s:ByteArray) (f:Bool) (e:E) :
  Z qaD (.call 35 [.dat (.agg [.lit (.int .i64 k),.lit (.int .i64 n),.lit (.string s),.sl [.lit (.int .i64 e.kind),.lit (.int .i64 e.num),.lit (.string e.str),e.kids] 1 f])] [])=some (.ret (.tup [e.node,qsa]) []):=by
 refine qaa (pf:=F35) rfl rfl ?_
 simp[F35,V.len,qan]
theorem qkR (k n:Int) (s:ByteArray) (f:Bool) (a b:E) :
  Z qaD (.call 35 [.dat (.agg [.lit (.int .i64 k),.lit (.int .i64 n),.lit (.string s),.sl [.lit (.int .i64 a.kind),.lit (.int .i64 a.num),.lit (.string a.str),a.kids,.lit (.int .i64 b.kind),.lit (.int .i64 b.num),.lit (.string b.str),b.kids] 2 f])] [])=some (.ret (.tup [a.node,b.node]) []):=by
 refine qaa (pf:=F35) rfl rfl ?_
 simp[F35,V.len,qan]
theorem qgX (k n:Int) (s:ByteArray):Z qaD (.call 35 [.dat (.agg [.lit (.int .i64 k),.lit (.int .i64 n),.lit (.string s),.lit (.slice none 0 0)])] [])=some (.ret (.tup [qsa,qsa]) []):=by
 refine qaa (pf:=F35) rfl rfl ?_
 simp[F35,V.len]
@[simp] theorem qwa:eqS ⟨#[33]⟩ ⟨#[45]⟩=false:=by kernel_rfl
@[simp] theorem qwb:eqS ⟨#[45]⟩ ⟨#[45]⟩=true:=by kernel_rfl
@[simp] theorem qwc:ustr true=⟨#[45]⟩:=rfl
@[simp] theorem qwd:ustr false=⟨#[33]⟩:=rfl
section
variable {e a b:E} {f:Bool} {s:ByteArray}
theorem qqW (ih:Z qaD (.call 27 [.agg [.mp 0],e.node] [.map qct])=some (.ret (.int e.ty) [.map qct])) :
  Z qaD (.call 27 [.agg [.mp 0],(E.field f s e).node] [.map qct])=some (.ret (.int (E.field f s e).ty) [.map qct]):=by
 refine qaa (pf:=F27) rfl rfl ?_
 by_cases h:e.ty=1
 ·simp[F27,qgf,ih,h]
 ·simp[F27,qgf,ih,h]
theorem qwD (neg:Bool) (ih:Z qaD (.call 27 [.agg [.mp 0],e.node] [.map qct])=some (.ret (.int e.ty) [.map qct])) :
  Z qaD (.call 27 [.agg [.mp 0],(E.un f neg e).node] [.map qct])=some (.ret (.int (E.un f neg e).ty) [.map qct]):=by
 refine qaa (pf:=F27) rfl rfl ?_
 cases neg
 ·by_cases h:e.ty=2
  ·simp[F27,qgf,ih,h]
  ·simp[F27,qgf,ih,h]
 ·by_cases h:e.ty=1
  ·simp[F27,qgf,ih,h]
  ·simp[F27,qgf,ih,h]
set_option maxHeartbeats 1000000 in
theorem qu9 (o:Bop) (iha:Z qaD (.call 27 [.agg [.mp 0],a.node] [.map qct])=some (.ret (.int a.ty) [.map qct])) (ihb:Z qaD (.call 27 [.agg [.mp 0],b.node] [.map qct])=some (.ret (.int b.ty) [.map qct])) :
  Z qaD (.call 27 [.agg [.mp 0],(E.bin f o a b).node] [.map qct])=some (.ret (.int (E.bin f o a b).ty) [.map qct]):=by
 have hf:=qoU o
 refine qaa (pf:=F27) rfl rfl ?_
 by_cases h:a.ty=o.opd
 ·by_cases h':b.ty=o.opd
  ·simp[F27,qkR,iha,ihb,h,h',hf,quv,qgR]
  ·simp[F27,qkR,iha,ihb,h,h',hf,quv,qgR]
 ·simp[F27,qkR,iha,ihb,h,hf,quv,qgR]
theorem qcI : ∀ e:E,Z qaD (.call 27 [.agg [.mp 0],e.node] [.map qct])=some (.ret (.int e.ty) [.map qct])
 | .int n=>by
  refine qaa (pf:=F27) rfl rfl ?_
  simp[F27,qgX]
 | .bool n=>by
  refine qaa (pf:=F27) rfl rfl ?_
  simp[F27,qgX]
 | .var s=>by
  refine qaa (pf:=F27) rfl rfl ?_
  simp[F27,qgX]
 | .name s=>by
  refine qaa (pf:=F27) rfl rfl ?_
  simp[F27,qgX]
 | .field f s e=>qqW (qcI e)
 | .un f neg e=>qwD neg (qcI e)
 | .bin f o a b=>qu9 o (qcI a) (qcI b)
end
end Go.Pm
end ST4a
section ST4b
namespace Go.Pm
open F
@[simp] theorem quw:eqS ⟨#[33]⟩ ⟨#[33]⟩=true:=by kernel_rfl
@[simp] theorem qux:eqS ⟨#[45]⟩ ⟨#[33]⟩=false:=by kernel_rfl
attribute [local simp] qae qac V.len qan
section
variable {e a b:E} {f:Bool} {s:ByteArray}
set_option maxHeartbeats 1000000 in
end
end Go.Pm
end ST4b
section ST4c
namespace Go.Pm
open F
theorem qiS (k n:Int) (s:ByteArray) (f:Bool) (ks:Fo):Z qaD (.call 35 [nd k n s f ks] [])=some (.ret (.tup [ks.hd,ks.tl.hd]) []):=by
 refine qaa (pf:=F35) rfl rfl ?_
 cases ks with
 | nil=>simp[F35,V.len,Fo.hk,Fo.hn,Fo.hs,Fo.hf,Fo.hks,Fo.tl]
 | cons k1 n1 s1 f1 ks1 r=>cases r with
  | nil=>simp[F35,V.len,qan,Fo.hk,Fo.hn,Fo.hs,Fo.hf,Fo.hks,Fo.tl]
  | cons k2 n2 s2 f2 ks2 r=>
   have h:(1:Int)<(r.len:Int)+1+1:=by omega
   have h':(0:Int)<(r.len:Int)+1+1:=by omega
   have h0:0<r.len+1+1:=by omega
   have h1:1<r.len+1+1:=by omega
   simp[F35,V.len,qan,Fo.hk,Fo.hn,Fo.hs,Fo.hf,Fo.hks,Fo.tl,h,h',h0,h1]
section
abbrev qkw (i:Nat) (N:Nat) (s:D):Fr:=[(2,.ptr 1 0),(7,.dat s),(8,.int N),(9,.int i)]
def qpY (N:Nat) (s:D) (b:Bool) (g:Ob):Option Res:=
 some (if b then .out (.exit 0) [(2,.ptr 1 0),(7,.dat s),(8,.int N),(9,.int N),(10,.bool false)] [.map qct,.cells [.mp 0]]
  else .out .ret [(4,.bool false)] [.map qct,.cells [.mp 0],g])
theorem qol (N:Nat) (s:D) : ∃ g,Z qaD (.loop 1 F37l0 (qkw N N s) [.map qct,.cells [.mp 0]])=qpY N s true g:=by
 refine⟨.tip 0,?_⟩
 rw[qac]
 simp[qae,qha,qpY]
theorem qeZ {k n:Int} {s:ByteArray} {f:Bool} {ks:Fo} {w wr:Bool} (hw:Z qaD (.call 30 [.agg [.mp 0],nd k n s f ks] [.map qct])=some (.ret (.bool w) [.map qct]))
  {i N:Nat} {cs r:List D} {fl:Bool} (hc:cs.drop (i*4) = .lit (.int .i64 k) :: .lit (.int .i64 n) :: .lit (.string s)::kd f ks.len ks.cells::r) (hi:i<N) (hN:N<2^40)
  (ih:w=true -> ∃ g,Z qaD (.loop 1 F37l0 (qkw (i+1) N (.sl cs N fl)) [.map qct,.cells [.mp 0]])=qpY N (.sl cs N fl) wr g) :
  ∃ g,Z qaD (.loop 1 F37l0 (qkw i N (.sl cs N fl)) [.map qct,.cells [.mp 0]])=qpY N (.sl cs N fl) (w&&wr) g:=by
 have h4:=qvW hc
 have w1:=qag ((i:Int)+1) (by omega)
 have hi':(i:Int)<N:=by omega
 cases w with
 | true=>
  obtain⟨g,hg⟩:=ih rfl
  refine⟨g,?_⟩
  rw[qac]
  rw[Bool.true_and,<- hg]
  simp[qae,qha,hi,hi',qan,h4,hw,w1]
  exact qam (by simp[qkw])
 | false=>
  refine⟨.cells [.int k,.int n,.str s,.dat (kd f ks.len ks.cells)],?_⟩
  rw[qac]
  simp[qae,qha,hi,hi',qan,h4,hw,w1,qpY]
theorem qfu {N:Nat} {cs:List D} {f:Bool} {b:Bool} (h : ∃ g,Z qaD (.loop 1 F37l0 (qkw 0 N (.sl cs N f)) [.map qct,.cells [.mp 0]])=qpY N (.sl cs N f) b g) :
  Z qaD (.call 37 [.agg [.mp 0],.dat (.sl cs N f)] [.map qct])=some (.ret (.bool b) [.map qct]):=by
 obtain⟨g,hg⟩:=h
 refine qaa (pf:=F37) rfl rfl ?_
 simp only[qkw,qpY] at hg
 cases b<;>simp at hg<;>simp[F37,V.len,hg]
theorem qom:Z qaD (.call 37 [.agg [.mp 0],.dat (.lit (.slice none 0 0))] [.map qct])=some (.ret (.bool true) [.map qct]):=by
 obtain⟨g,hg⟩:=qol 0 (.lit (.slice none 0 0))
 refine qaa (pf:=F37) rfl rfl ?_
 simp[qkw,qpY] at hg
 simp[F37,V.len,hg]
end
end Go.Pm
end ST4c
section ST4d
namespace Go.Pm
open F
section
variable {e a b c:E} {f:Bool} {s:ByteArray}
theorem qnH:Z qaD (.call 30 [.agg [.mp 0],nd 1 0 s f (e.fo .nil)] [.map qct])=some (.ret (.bool (decide (e.ty=1))) [.map qct]):=by
 have hk:=qiS 1 0 s f (e.fo .nil)
 have h1:=qcI e
 refine qaa (pf:=F30) rfl rfl ?_
 simp[nd,Fo.hd] at hk
 simp[F30,hk,h1]
theorem qnI:Z qaD (.call 30 [.agg [.mp 0],nd 5 0 s f (a.fo (b.fo .nil))] [.map qct])=some (.ret (.bool (decide (a.ty=1)&&decide (b.ty=1))) [.map qct]):=by
 have hk:=qiS 5 0 s f (a.fo (b.fo .nil))
 have h1:=qcI a
 have h2:=qcI b
 refine qaa (pf:=F30) rfl rfl ?_
 simp[nd,Fo.hd] at hk
 by_cases h:a.ty=1
 ·simp[F30,hk,h1,h2,h]
 ·simp[F30,hk,h1,h2,h]
theorem qpm:Z qaD (.call 30 [.agg [.mp 0],nd 2 0 s f (a.fo (b.fo .nil))] [.map qct])=some (.ret (.bool (!(eqS s qiO||eqS s ql6)&&(decide (a.ty=1)&&decide (b.ty=1)))) [.map qct]):=by
 have hk:=qiS 2 0 s f (a.fo (b.fo .nil))
 have h1:=qcI a
 have h2:=qcI b
 refine qaa (pf:=F30) rfl rfl ?_
 simp[nd,Fo.hd] at hk
 unfold qiO ql6
 cases hh:eqS s ⟨#[104,105,116]⟩ with
 | true=>simp[F30,hk,h1,h2,hh]
 | false=>cases hs:eqS s ⟨#[115,116,105,108,108]⟩ with
  | true=>simp[F30,hk,h1,h2,hh,hs]
  | false=>
   by_cases h:a.ty=1
   ·simp[F30,hk,h1,h2,h,hh,hs]
   ·simp[F30,hk,h1,h2,h,hh,hs]
theorem qru:Z qaD (.call 30 [.agg [.mp 0],nd 6 0 s f .nil] [.map qct])=some (.ret (.bool true) [.map qct]):=by
 have hk:=qiS 6 0 s f .nil
 refine qaa (pf:=F30) rfl rfl ?_
 simp[nd,Fo.hd] at hk
 simp[F30,hk]
theorem qrv (w:Bool) {r:Fo} {z:Bool} (hr:Z qaD (.call 37 [.agg [.mp 0],.dat (.sl r.cells r.len false)] [.map qct])=some (.ret (.bool z) [.map qct])):Z qaD (.call 30 [.agg [.mp 0],nd (if w then 4 else 3) 0 s f (c.fo r)] [.map qct])=some (.ret (.bool (decide (c.ty=2)&&z)) [.map qct]):=by
 have hk:=qiS (if w then 4 else 3) 0 s f (c.fo r)
 have h1:=qcI c
 have hl:=qeG r
 have e1:(1:Int)<=(r.len:Int)+1:=by omega
 have e2:r.len*4+1+1+1+1=(r.len+1)*4:=by omega
 have e3:List.take (r.len*4) r.cells=r.cells:=List.take_of_length_le (by omega)
 refine qaa (pf:=F30) rfl rfl ?_
 cases w<;>simp[nd,Fo.hd] at hk<;>by_cases h:c.ty=2<;>simp[F30,hk,h1,h,hr,qgF,bound,V.len,hl,e1,e2,e3]
theorem qlP {r:Fo} {z:Bool} (hr:Z qaD (.call 37 [.agg [.mp 0],.dat (kd f r.len r.cells)] [.map qct])=some (.ret (.bool z) [.map qct])):Z qaD (.call 30 [.agg [.mp 0],nd 7 0 s f r] [.map qct])=some (.ret (.bool z) [.map qct]):=by
 have hk:=qiS 7 0 s f r
 refine qaa (pf:=F30) rfl rfl ?_
 simp[nd,Fo.hd] at hk
 simp[F30,hk,hr]
end
end Go.Pm
end ST4d
