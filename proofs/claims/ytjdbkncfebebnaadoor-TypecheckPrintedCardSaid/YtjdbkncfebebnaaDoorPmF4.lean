/- The abstract machine's program, printed by a program of our own: group 4. The abstract machine's programs: tables of functions. The reference's names. The code's names: a round of the range. The code's names: visit. The code's Variables, first part. The code's Variables. The abstract machine's program, printed by a program of our own: group 01. The abstract machine's program, printed by a program of our own: group 5. The abstract machine's programs: tables of functions. What a tree costs written down: bytes and tokens. No program in sight. Chapter 13's generator: choices, expressions. Chapter 13's generator: statements. Chapter 13's generator: whole programs. Parse with other marks; its errors have a code; generated trees are good and not long. No program in sight. The abstract machine's programs: tables of functions. The abstract machine's program, printed by a program of our own: group 01n. The abstract machine's programs: tables of functions. -/
import Derived.Test.YtjdbkncfebebnaaDoorPmYh
import Derived.Test.YtjdbkncfebebnaaDoorPmEt
import Derived.Test.YtjdbkncfebebnaaDoorPmY
import Derived.Test.YtjdbkncfebebnaaDoorPmFx
import Derived.Test.YtjdbkncfebebnaaDoorPmF3
set_option linter.unusedSimpArgs false
set_option linter.unusedVariables false
section SF4
namespace Go.Pm.F
variable (C:Task->Option Res) (q:Nat) (fr:Fr) (σ : S)
@[simp] def F12l0x:PC:=(.seq (rn [bk 10 .lss 9 3] [1,3,8,9,10]) (.seq (.cond (.t 10) (.skip) (.exit 0)) (.seq (.block 1 (.seq (rn [jj 11 (.indexA true 3 4 (.t 8) (.t 9)),jj 5 (.alloc [zN,zN,eN,sN]),st 4 5 11] [1,3,5,8,9]) (.seq (rn [fa 12 0 5,l1 13 12,bk 14 .neq 13 0,mv 15 14,jt 16 15 (.load true 1 (.t 3)),jt 17 15 (.load true 4 (.t 5)),jt 18 15 (.call 30 [(.t 16),(.t 17)]),jt 19 15 (.un .not (.t 18)),jj 20 (.pick (.t 15) (.t 19) kF)] [1,3,8,9,20]) (.cond (.t 20) (.seq (rn [mx 2 (kk 13)] [2]) (.ret)) (.skip))))) (rn [bk 21 .add 9 1,mv 9 21] [1,3,8,9]))))
def F12l0:PC:=F12l0x
theorem qb4:run C q F12l0 fr σ = run C q F12l0x fr σ := rfl
def F12:PFun:=⟨1,[.tmp 2],.seq (rn [bx 1 0,mx 2 (kk 0)] [1]) (.seq (rn [jj 6 (.call 26 []),jj 3 (.alloc [(.lit (.map none))]),st 1 3 6] [1,3]) (.seq (.seq (rn [fa 7 0 1,la 8 12 7,mx 9 (kk 0)] [1,3,8,9]) (.block 0 (.loop F12l0))) (.seq (.seq (rn [la 22 12 1,cl 23 15 [22],ls 24 23,bk 25 .gtr 24 16] [25]) (.cond (.t 25) (.seq (rn [mx 2 (kk 2)] [2]) (.ret)) (.skip))) (.seq (rn [mx 2 (kk 0)] [2]) (.ret))))),false,false,false⟩
@[simp] def F15a0x:PC:=(rn [jj 7 (.alloc [zN,zN,eN,sN]),st 4 7 18] [3,4,7])
def F15a0:PC:=F15a0x
theorem qee:run C q F15a0 fr σ = run C q F15a0x fr σ := rfl
@[simp] def F15b0x:PC:=(.block 3 (.seq (.seq (rn [fa 19 0 7,l1 20 19,bk 21 .neq 20 1,mv 22 21,jt 23 22 (.fieldAddr 0 (.t 7)),jt 24 22 (.load false 1 (.t 23)),jt 25 22 (.bin .neq (.t 24) (kk 10)),jj 26 (.pick (.t 22) (.t 25) kF)] [3,4,7,26]) (.cond (.t 26) (.exit 3) (.skip))) (.seq (rn [l1 28 4,fa 29 2 7,l1 30 29,jj 31 (.lookup .s zN (.t 28) (.t 30) true),mv 27 31,ex 32 27 0,ex 33 27 1,mv 8 32,mv 9 33] [3,4,7,9]) (.seq (rn [mv 34 9,jj 35 (.un .not (.t 34))] [3,4,7,35]) (.cond (.t 35) (.seq (rn [l1 36 4,fa 37 2 7,l1 38 37,l1 39 3,ls 40 39,jn (.mapset .s (.t 36) (.t 38) (.t 40))] [3,7]) (rn [l1 41 3,fa 42 2 7,l1 43 42,jj 44 (.bslice 1 [eN] [(0,1,(.t 43))]),jj 45 (.append 1 16 (.t 41) (.t 44)),st 1 3 45] [])) (.skip))))))
def F15b0:PC:=F15b0x
theorem qef:run C q F15b0 fr σ = run C q F15b0x fr σ := rfl
@[simp] def F15l0x:PC:=(.seq (rn [bk 14 .lss 13 3] [3,4,12,13,14]) (.seq (.cond (.t 14) (.skip) (.exit 0)) (.seq (.block 1 (.seq (rn [jj 15 (.indexA true 3 4 (.t 12) (.t 13)),jj 6 (.alloc [zN,zN,eN,sN]),st 4 6 15] [3,4,6,12,13]) (.seq (rn [la 16 4 6,cl 17 32 [16]] [3,4,12,13,17]) (.block 2 (.range (.t 17) [18] F15a0 F15b0))))) (rn [bk 46 .add 13 1,mv 13 46] [3,4,12,13]))))
def F15l0:PC:=F15l0x
theorem qb5:run C q F15l0 fr σ = run C q F15l0x fr σ := rfl
theorem qba:F15a0.flat=true:=rfl
theorem qbb:F15b0.flat=true:=rfl
def F15:PFun:=⟨1,[.tmp 2],.seq (rn [bx 1 0,jj 2 (.mov (.c (.slice none 0 0)))] [1]) (.seq (rn [jj 3 (.alloc [sN])] [1,3]) (.seq (rn [jj 10 (.mkmap),jj 4 (.alloc [(.lit (.map none))]),st 1 4 10] [1,3,4]) (.seq (.seq (rn [fa 11 0 1,la 12 12 11,mx 13 (kk 0)] [3,4,12,13]) (.block 0 (.loop F15l0))) (.seq (rn [l1 47 3,mv 2 47] [2]) (.ret))))),false,false,false⟩
def F26:PFun:=⟨0,[.cell 0 true 1],.seq (rn [jj 0 (.alloc [(.lit (.map none))])] [0]) (.seq (rn [jj 4 (.build [zN,zN] [(0,1,(kk 1)),(1,1,(kk 1))]),jj 5 (.build [zN,zN] [(0,1,(kk 1)),(1,1,(kk 2))]),jj 6 (.build [zN,zN] [(0,1,(kk 2)),(1,1,(kk 2))]),jj 1 (.alloc [zN,zN]),jj 2 (.alloc [zN,zN]),jj 3 (.alloc [zN,zN]),st 2 1 4,st 2 2 5,st 2 3 6] [0,1,2,3]) (.seq (rn [jj 7 (.mkmap),la 8 2 1,jn (.mapset .s (.t 7) (.c (.string ⟨#[43]⟩)) (.t 8)),la 9 2 1,jn (.mapset .s (.t 7) (.c (.string ⟨#[45]⟩)) (.t 9)),la 10 2 1,jn (.mapset .s (.t 7) (.c (.string ⟨#[42]⟩)) (.t 10)),la 11 2 1,jn (.mapset .s (.t 7) (.c (.string ⟨#[47]⟩)) (.t 11)),la 12 2 2,jn (.mapset .s (.t 7) (.c (.string ⟨#[60]⟩)) (.t 12)),la 13 2 2,jn (.mapset .s (.t 7) (.c (.string ⟨#[60,61]⟩)) (.t 13)),la 14 2 2,jn (.mapset .s (.t 7) (.c (.string ⟨#[62]⟩)) (.t 14)),la 15 2 2,jn (.mapset .s (.t 7) (.c (.string ⟨#[62,61]⟩)) (.t 15)),la 16 2 2,jn (.mapset .s (.t 7) (.c (.string ⟨#[61,61]⟩)) (.t 16)),la 17 2 2,jn (.mapset .s (.t 7) (.c (.string ⟨#[33,61]⟩)) (.t 17)),la 18 2 3,jn (.mapset .s (.t 7) (.c (.string ⟨#[38,38]⟩)) (.t 18)),la 19 2 3,jn (.mapset .s (.t 7) (.c (.string ⟨#[124,124]⟩)) (.t 19)),mv 20 7,jj 21 (.build [(.lit (.map none))] [(0,1,(.t 20))]),st 1 0 21] [0]) (.ret))),false,false,false⟩
def F27:PFun:=⟨2,[.tmp 4],.seq (rn [bx 2 0,bx 3 1,mx 4 (kk 0)] [2,3]) (.seq (rn [la 11 4 3,cl 12 35 [11],mv 10 12,ex 13 10 0,ex 14 10 1,jj 5 (.alloc [zN,zN,eN,sN]),jj 6 (.alloc [zN,zN,eN,sN]),st 4 5 13,st 4 6 14] [2,3,5,6]) (.seq (.seq (rn [fa 15 0 3,l1 16 15] [2,3,5,6,16]) (.block 0 (.seq (.block 5 (.seq (.block 4 (.seq (.block 3 (.seq (.block 2 (.seq (.block 1 (.seq (.seq (.seq (rn [bk 18 .eql 16 11,mv 17 18] [2,3,5,6,16,17]) (.cond (.t 17) (.exit 1) (.skip))) (.seq (.seq (.seq (rn [bk 20 .eql 16 8,mv 19 20] [2,3,5,6,16,19]) (.cond (.t 19) (.skip) (.seq (rn [bk 21 .eql 16 10,mv 19 21] [2,3,5,6,16,19]) (.cond (.t 19) (.skip) (rn [bk 22 .eql 16 12,mv 19 22] [2,3,5,6,16,19]))))) (.cond (.t 19) (.exit 2) (.skip))) (.seq (.seq (rn [bk 24 .eql 16 9,mv 23 24] [2,3,5,6,16,23]) (.cond (.t 23) (.exit 3) (.skip))) (.seq (.seq (rn [bk 26 .eql 16 13,mv 25 26] [2,3,5,6,16,25]) (.cond (.t 25) (.exit 4) (.skip))) (.seq (rn [bk 28 .eql 16 14,mv 27 28] [2,3,5,6,27]) (.cond (.t 27) (.exit 5) (.skip))))))) (.exit 0))) (.seq (rn [la 29 1 2,la 30 4 5,cl 31 27 [29,30],bk 32 .neq 31 1] [32]) (.cond (.t 32) (.seq (rn [mx 4 (kk 0)] [4]) (.ret)) (.skip))))) (.seq (.seq (rn [mx 4 (kk 1)] [4]) (.ret)) (.exit 0)))) (.seq (.seq (rn [mx 4 (kk 2)] [4]) (.ret)) (.exit 0)))) (.seq (.seq (rn [mx 7 (kk 2)] [2,3,5,7]) (.seq (.seq (rn [fa 33 2 3,l1 34 33,jj 35 (.bin .eql (.t 34) (.c (.string ⟨#[45]⟩)))] [2,5,7,35]) (.cond (.t 35) (rn [mx 7 (kk 1)] [2,5,7]) (.skip))) (.seq (rn [la 36 1 2,la 37 4 5,cl 38 27 [36,37],mv 39 7,bn 40 .eql 38 39] [7,40]) (.cond (.t 40) (.seq (rn [mv 41 7,mv 4 41] [4]) (.ret)) (.skip))))) (.exit 0)))) (.seq (.seq (rn [fa 43 0 2,l1 44 43,fa 45 2 3,l1 46 45,jj 47 (.lookup .s (.agg [zN,zN]) (.t 44) (.t 46) true),mv 42 47,ex 48 42 0,ex 49 42 1,jj 8 (.alloc [zN,zN]),st 2 8 48,mv 9 49] [2,5,6,8,9]) (.seq (.region (some []) [mv 50 9,mv 51 50,jt 52 51 (.load true 1 (.t 2)),jt 53 51 (.load true 4 (.t 5)),jt 54 51 (.call 27 [(.t 52),(.t 53)]),jt 55 51 (.fieldAddr 0 (.t 8)),⟨some 56,.load false 1 (.t 55),some (51,true),[4]⟩,jt 57 51 (.bin .eql (.t 54) (.t 56)),jj 58 (.pick (.t 51) (.t 57) kF),mv 59 58,jt 60 59 (.load true 1 (.t 2)),jt 61 59 (.load true 4 (.t 6)),jt 62 59 (.call 27 [(.t 60),(.t 61)]),jt 63 59 (.fieldAddr 0 (.t 8)),⟨some 64,.load false 1 (.t 63),some (59,true),[12]⟩,jt 65 59 (.bin .eql (.t 62) (.t 64)),jj 66 (.pick (.t 59) (.t 65) kF)] [8,66]) (.cond (.t 66) (.seq (rn [fa 67 1 8,l1 68 67,mv 4 68] [4]) (.ret)) (.skip)))) (.exit 0))))) (.seq (rn [mx 4 (kk 0)] [4]) (.ret)))),false,false,false⟩
def F30:PFun:=⟨2,[.tmp 4],.seq (rn [bx 2 0,bx 3 1,mx 4 kF] [2,3]) (.seq (rn [la 8 4 3,cl 9 35 [8],mv 7 9,ex 10 7 0,ex 11 7 1,jj 5 (.alloc [zN,zN,eN,sN]),jj 6 (.alloc [zN,zN,eN,sN]),st 4 5 10,st 4 6 11] [2,3,5,6]) (.seq (.seq (rn [fa 12 0 3,l1 13 12] [2,3,5,6,13]) (.block 0 (.seq (.block 6 (.seq (.block 5 (.seq (.block 4 (.seq (.block 3 (.seq (.block 2 (.seq (.block 1 (.seq (.seq (.seq (rn [bk 15 .eql 13 1,mv 14 15] [2,3,5,6,13,14]) (.cond (.t 14) (.exit 1) (.skip))) (.seq (.seq (rn [bk 17 .eql 13 2,mv 16 17] [2,3,5,6,13,16]) (.cond (.t 16) (.exit 2) (.skip))) (.seq (.seq (rn [bk 19 .eql 13 5,mv 18 19] [2,3,5,6,13,18]) (.cond (.t 18) (.exit 3) (.skip))) (.seq (.seq (.seq (rn [bk 21 .eql 13 3,mv 20 21] [2,3,5,13,20]) (.cond (.t 20) (.skip) (rn [bk 22 .eql 13 4,mv 20 22] [2,3,5,13,20]))) (.cond (.t 20) (.exit 4) (.skip))) (.seq (.seq (rn [bk 24 .eql 13 6,mv 23 24] [2,3,13,23]) (.cond (.t 23) (.exit 5) (.skip))) (.seq (rn [bk 26 .eql 13 7,mv 25 26] [2,3,25]) (.cond (.t 25) (.exit 6) (.skip)))))))) (.exit 0))) (.seq (.seq (rn [la 27 1 2,la 28 4 5,cl 29 27 [27,28],bk 30 .eql 29 1,mv 4 30] [4]) (.ret)) (.exit 0)))) (.seq (rn [fa 31 2 3,l1 32 31,jj 33 (.bin .eql (.t 32) (.c (.string ⟨#[104,105,116]⟩))),mv 34 33,jf 35 34 (.fieldAddr 2 (.t 3)),jf 36 34 (.load false 1 (.t 35)),jf 37 34 (.bin .eql (.t 36) (.c (.string ⟨#[115,116,105,108,108]⟩))),jj 38 (.pick (.t 34) kT (.t 37))] [2,5,6,38]) (.cond (.t 38) (.seq (rn [mx 4 kF] [4]) (.ret)) (.skip))))) (.seq (.seq (rn [la 39 1 2,la 40 4 5,cl 41 27 [39,40],bk 42 .eql 41 1,mv 43 42,jt 44 43 (.load true 1 (.t 2)),jt 45 43 (.load true 4 (.t 6)),jt 46 43 (.call 27 [(.t 44),(.t 45)]),jt 47 43 (.bin .eql (.t 46) (kk 1)),jj 48 (.pick (.t 43) (.t 47) kF),mv 4 48] [4]) (.ret)) (.exit 0)))) (.seq (.seq (.seq (rn [la 49 1 2,la 50 4 5,cl 51 27 [49,50],bk 52 .neq 51 2] [2,3,52]) (.cond (.t 52) (.seq (rn [mx 4 kF] [4]) (.ret)) (.skip))) (.seq (.region (some []) [la 53 1 2,fa 54 3 3,l1 55 54,jj 56 (.slice 4 (.t 55) (some (kk 1)) none),cl 57 37 [53,56],mv 4 57] [4] [4]) (.ret))) (.exit 0)))) (.seq (.seq (rn [mx 4 kT] [4]) (.ret)) (.exit 0)))) (.seq (.seq (rn [la 58 1 2,fa 59 3 3,l1 60 59,cl 61 37 [58,60],mv 4 61] [4]) (.ret)) (.exit 0))))) (.seq (rn [mx 4 kF] [4]) (.ret)))),false,false,false⟩
def F32:PFun:=⟨1,[.tmp 2],.seq (rn [bx 1 0,jj 2 (.mov (.c .nilFunc))] [1]) (.seq (rn [jj 3 (.mkfn 38 [] [(.t 1)]),mv 2 3] [2]) (.ret)),false,false,false⟩
def F35:PFun:=⟨1,[.cell 2 true 4,.cell 3 true 4],.seq (rn [bx 1 0,jj 2 (.alloc [zN,zN,eN,sN]),jj 3 (.alloc [zN,zN,eN,sN])] [1,2,3]) (.seq (.seq (rn [fa 4 3 1,l1 5 4,ls 6 5,bk 7 .gtr 6 0] [1,2,3,7]) (.cond (.t 7) (rn [fa 8 3 1,l1 9 8,jj 10 (.indexAddr 4 (.t 9) (kk 0)),la 11 4 10,st 4 2 11] [1,2,3]) (.skip))) (.seq (.seq (rn [fa 12 3 1,l1 13 12,ls 14 13,bk 15 .gtr 14 1] [1,2,3,15]) (.cond (.t 15) (rn [fa 16 3 1,l1 17 16,jj 18 (.indexAddr 4 (.t 17) (kk 1)),la 19 4 18,st 4 3 19] [2,3]) (.skip))) (.seq (.region (some []) [la 20 4 2,⟨some 21,.load true 4 (.t 3),none,[2]⟩,st 4 2 20,st 4 3 21] [2,3]) (.ret)))),false,false,false⟩
@[simp] def F37l0x:PC:=(.seq (rn [bn 10 .lss 9 8] [2,7,8,9,10]) (.seq (.cond (.t 10) (.skip) (.exit 0)) (.seq (.block 1 (.seq (rn [jj 11 (.indexAddr 4 (.t 7) (.t 9)),la 12 4 11,jj 6 (.alloc [zN,zN,eN,sN]),st 4 6 12] [2,6,7,8,9]) (.seq (rn [la 13 1 2,la 14 4 6,cl 15 30 [13,14],jj 16 (.un .not (.t 15))] [2,7,8,9,16]) (.cond (.t 16) (.seq (rn [mx 4 kF] [4]) (.ret)) (.skip))))) (rn [bk 17 .add 9 1,mv 9 17] [2,7,8,9]))))
def F37l0:PC:=F37l0x
theorem qha:run C q F37l0 fr σ = run C q F37l0x fr σ := rfl
def F37:PFun:=⟨2,[.tmp 4],.seq (rn [bx 2 0,mx 4 kF] [1,2]) (.seq (.seq (rn [mv 7 1,ls 8 7,mx 9 (kk 0)] [2,7,8,9]) (.block 0 (.loop F37l0))) (.seq (rn [mx 4 kT] [4]) (.ret))),false,false,false⟩
def F38:PFun:=⟨2,[],rn [la 3 4 1,mv 4 0,cl 5 39 [3,4]] [],false,false,false⟩
@[simp] def F39l0x:PC:=(.seq (rn [bn 15 .lss 14 13] [1,12,13,14,15]) (.seq (.cond (.t 15) (.skip) (.exit 0)) (.seq (.block 1 (.seq (rn [jj 16 (.indexAddr 4 (.t 12) (.t 14)),la 17 4 16,jj 6 (.alloc [zN,zN,eN,sN]),st 4 6 17] [1,6,12,13,14]) (.seq (rn [la 18 4 6,mv 19 1,cl 20 39 [18,19],jj 21 (.un .not (.t 20))] [1,12,13,14,21]) (.cond (.t 21) (.seq (rn [mx 4 kF] [4]) (.ret)) (.skip))))) (rn [bk 22 .add 14 1,mv 14 22] [1,12,13,14]))))
def F39l0:PC:=F39l0x
theorem qde:run C q F39l0 fr σ = run C q F39l0x fr σ := rfl
def F39:PFun:=⟨2,[.tmp 4],.seq (rn [bx 2 0,mx 4 kF] [1,2]) (.seq (.seq (rn [mv 7 1,la 8 4 2,jj 9 (.callv (.t 7) [(.t 8)]),jj 10 (.un .not (.t 9))] [1,2,10]) (.cond (.t 10) (.seq (rn [mx 4 kF] [4]) (.ret)) (.skip))) (.seq (.seq (rn [fa 11 3 2,l1 12 11,ls 13 12,mx 14 (kk 0)] [1,12,13,14]) (.block 0 (.loop F39l0))) (.seq (rn [mx 4 kT] [4]) (.ret)))),false,false,false⟩
end Go.Pm.F
end SF4
section STb14
namespace Go.Pm.F
def qaG:Nat->Option PFun
 | 15=>some F15
 | 32=>some F32
 | 38=>some F38
 | 39=>some F39
 | _=>none
def qaD:Nat->Option PFun
 | 12=>some F12
 | 15=>some F15
 | 26=>some F26
 | 27=>some F27
 | 30=>some F30
 | 32=>some F32
 | 35=>some F35
 | 37=>some F37
 | 38=>some F38
 | 39=>some F39
 | _=>none
theorem qcp : ∀ f pf,qaG f=some pf->qaD f=some pf:=fun f pf h=>by
 unfold qaG at h
 split at h<;>first | (cases h; rfl) | cases h
end Go.Pm.F
end STb14
section SE3
namespace Go.Pm
open F
inductive NmSt:S->V->S->Nat->List ByteArray->Ob->Prop
 | a (l:List ByteArray) (x:Ob):NmSt [] (.dat (qks l)) [x] 0 l x
 | b (l:List ByteArray) (x:Ob) (m:Nat) (h:l≠[]):NmSt [] (.gsl (strC l) l.length 1 0) [.tip m,x] 1 l x
abbrev qbp (k n:Int) (s:ByteArray) (d:D):Ob := .cells [.int k,.int n,.str s,.dat d]
end Go.Pm
end SE3
section SE4
namespace Go.Pm
open F
attribute [local simp] dkey
def mapM:Nat->List ByteArray->List (Value × V)
 | _,[]=>[]
 | i,s::l=>(.string s,.int i)::mapM (i+1) l
theorem qhL (s:ByteArray) : ∀ (l:List ByteArray) (i:Nat),(s∉l->qel .s (.string s) (mapM i l)=some none)/\(s∈l -> ∃ j:Nat,qel .s (.string s) (mapM i l)=some (some (.int j)))
 | [],i=>by simp[mapM,qel]
 | x::l,i=>by
  have ih:=qhL s l (i+1)
  by_cases h:s=x
  ·subst h
   exact⟨fun hn=>absurd (List.mem_cons_self ..) hn,fun _=>⟨i,by simp[mapM,qel,qcn]⟩⟩
  ·have hb:(s==x)=false:=by rw[qeu]; exact decide_eq_false h
   refine⟨fun hn=>?_,fun hm=>?_⟩
   ·have:=ih.1 (fun hm=>hn (List.mem_cons_of_mem _ hm))
    simp[mapM,qel,qcn,hb,this]
   ·obtain⟨j,hj⟩:=ih.2 ((List.mem_cons.1 hm).resolve_left h)
    exact⟨j,by simp[mapM,qel,qcn,hb,hj]⟩
theorem qlU (s:ByteArray) : ∀ (l:List ByteArray) (i:Nat),s∉l->qot .s (.string s) (.int (i+l.length:Nat)) (mapM i l)=some (mapM i (l++[s]))
 | [],i,_=>by simp[mapM,qot]
 | x::l,i,hn=>by
  have h:s≠x:=fun h=>hn (h ▸ List.mem_cons_self ..)
  have hb:(s==x)=false:=by rw[qeu]; exact decide_eq_false h
  have ih:=qlU s l (i+1) (fun hm=>hn (List.mem_cons_of_mem _ hm))
  rw[show i+1+l.length=i+(l.length+1) by omega] at ih
  simp only[List.length_cons,List.cons_append,mapM,qot,qcn,hb,ih]
theorem qex : ∀ (l:List ByteArray) (i:Nat),qgQ (mapM i l)=[]
 | [],i=>rfl
 | x::l,i=>by simp[mapM,qex l]
theorem qfY (r:Nat->Nat) : ∀ (l:List ByteArray) (i:Nat),qoL r (mapM i l)=mapM i l
 | [],i=>rfl
 | x::l,i=>by simp[mapM,qfY r l]
attribute [local simp] qex qfY dkey
abbrev lpO (r:D) (i:Int):Ob := .loop ⟨[(3,.ptr 1 0),(4,.ptr 2 0),(12,.dat r),(13,.int i),(17,.fn 38 [] [.ptr 3 0])],[18],F15a0,F15b0,0,none⟩
abbrev S0 (r:D) (j:Int) (bx:Ob):S:=[lpO r j,.cells [.dat (.lit (.slice none 0 0))],.cells [.mp 4],bx,.map []]
abbrev S01 (r:D) (j:Int) (bx:Ob) (l:List ByteArray):S:=[lpO r j,.cells [.gsl (strC l) l.length 1 5],.cells [.mp 4],bx,.map (mapM 0 l),.tip l.length]
abbrev S1 (r:D) (j:Int) (bx:Ob) (l:List ByteArray):S:=[lpO r j,.cells [.gsl (strC l) l.length 1 4],.cells [.mp 5],bx,.tip l.length,.map (mapM 0 l)]
section
variable {k n k0 n0:Int} {s s0:ByteArray} {f f0:Bool} {ks:Fo} {d0:D} {r:D} {j:Int} {l:List ByteArray}
theorem qpw (h1:k≠1) (h2:k≠10):Z qaG (.round [.yld 0,nd k n s f ks] (S0 r j (qbp k0 n0 s0 d0)))=some (.ret (.bool true) (S0 r j (qbp k0 n0 s0 d0))):=by
 rw[qcw]
 simp[qbo,qba,qbb,qee,qef,qcR,h1,h2,Lp.ended,Ex.isNormal,qbp,List.range_succ]
theorem qpx (h1:k≠1) (h2:k≠10):Z qaG (.round [.yld 0,nd k n s f ks] (S1 r j (qbp k0 n0 s0 d0) l))=some (.ret (.bool true) (S1 r j (qbp k0 n0 s0 d0) l)):=by
 rw[qcw]
 simp[qbo,qba,qbb,qee,qef,qcR,h1,h2,Lp.ended,Ex.isNormal,qbp,List.range_succ]
theorem qrE (hk:k=1\/k=10) (hs:s∈l):Z qaG (.round [.yld 0,nd k n s f ks] (S1 r j (qbp k0 n0 s0 d0) l))=some (.ret (.bool true) (S1 r j (qbp k0 n0 s0 d0) l)):=by
 obtain⟨q,hq⟩:=(qhL s l 0).2 hs
 rw[qcw]
 rcases hk with rfl | rfl<;>simp[qbo,qba,qbb,qee,qef,qcR,hq,qgR,Lp.ended,Ex.isNormal,qbp,List.range_succ]
theorem qrF (hk:k=1\/k=10):Z qaG (.round [.yld 0,nd k n s f ks] (S0 r j (qbp k0 n0 s0 d0)))=some (.ret (.bool true) (S01 r j (qbp k0 n0 s0 d0) [s])):=by
 rw[qcw]
 rcases hk with rfl | rfl<;>simp[qbo,qba,qbb,qee,qef,qcR,qel,qot,mapM,ql7,qgR,Lp.ended,Ex.isNormal,qbp,List.range_succ,V.len,qce,qly,qaP]
theorem qrG (hk:k=1\/k=10) (hs:s∉l) (h0:l≠[]) (hl:l.length<2^30):Z qaG (.round [.yld 0,nd k n s f ks] (S1 r j (qbp k0 n0 s0 d0) l))=some (.ret (.bool true) (S1 r j (qbp k0 n0 s0 d0) (l++[s]))):=by
 have hq:=(qhL s l 0).1 hs
 have hs':=qlU s l 0 hs
 rw[Nat.zero_add] at hs'
 have r2:qaP (l.length+1) 16=true:=by simp[qaP]; omega
 rw[qcw]
 rcases hk with rfl | rfl<;>simp[qbo,qba,qbb,qee,qef,qcR,hq,hs',qpS,ql7,qgR,Lp.ended,Ex.isNormal,qbp,List.range_succ,V.len,qce,qly,r2]
theorem rd0 : ∃ S',Z qaG (.round [.yld 0,nd k n s f ks] (S0 r j (qbp k0 n0 s0 d0)))=some (.ret (.bool true) S') /\
  ((addAll [] (if k=1\/k=10 then [s] else [])=[]/\S'=S0 r j (qbp k0 n0 s0 d0))\/(addAll [] (if k=1\/k=10 then [s] else [])≠[]/\S'=S01 r j (qbp k0 n0 s0 d0) (addAll [] (if k=1\/k=10 then [s] else [])))):=by
 by_cases hk:k=1\/k=10
 ·simp only[if_pos hk]
  exact⟨_,qrF hk,.inr ⟨by simp[addAll,qsc],rfl⟩⟩
 ·simp only[if_neg hk]
  exact⟨_,qpw (by omega) (by omega),.inl ⟨rfl,rfl⟩⟩
theorem rd1 (h0:l≠[]) (hl:l.length<2^30):Z qaG (.round [.yld 0,nd k n s f ks] (S1 r j (qbp k0 n0 s0 d0) l))=some (.ret (.bool true) (S1 r j (qbp k0 n0 s0 d0) (addAll l (if k=1\/k=10 then [s] else [])))):=by
 by_cases hk:k=1\/k=10
 ·simp only[if_pos hk,addAll,List.foldl_cons,List.foldl_nil,qsc]
  by_cases hs:s∈l
  ·rw[if_pos hs]; exact qrE hk hs
  ·rw[if_neg hs]; exact qrG hk hs h0 hl
 ·simp only[if_neg hk]
  exact qpx (by omega) (by omega)
end
end Go.Pm
end SE4
section SE5
namespace Go.Pm
open F
attribute [local simp] qex qfY dkey
section
variable {k n k0 n0:Int} {s s0:ByteArray} {f fl:Bool} {ks:Fo} {d0 d:D} {r:D} {j:Int} {l l1 l2:List ByteArray} {i N:Nat} {cs c4:List D}
abbrev qmK (d:D) (N i:Nat):Fr:=[(1,.yld 0),(12,.dat d),(13,.int N),(14,.int i)]
abbrev qjh (d:D) (N:Nat) (S':S):Option Res:=some (.out (.exit 0) [(1,.yld 0),(12,.dat d),(13,.int N),(14,.int N),(15,.bool false)] S')
def Got (r:D) (j:Int) (bx:Ob) (l:List ByteArray) (S':S):Prop:=(l=[]/\S'=S0 r j bx)\/(l≠[]/\S'=S01 r j bx l)
theorem qra (h1:V.one (.dat d)=true) (h2:V.cells (.dat d)=[.dat d]):Z qaG (.loop 5 F39l0 (qmK d N N) (S0 r j (qbp k0 n0 s0 d0)))=qjh d N (S0 r j (qbp k0 n0 s0 d0)):=by
 rw[qac]
 simp[qae,qde,qbp,List.range_succ]
theorem qrb (h1:V.one (.dat d)=true) (h2:V.cells (.dat d)=[.dat d]):Z qaG (.loop 5 F39l0 (qmK d N N) (S01 r j (qbp k0 n0 s0 d0) l))=qjh d N (S01 r j (qbp k0 n0 s0 d0) l):=by
 rw[qac]
 simp[qae,qde,qbp,List.range_succ]
theorem qrc (h1:V.one (.dat d)=true) (h2:V.cells (.dat d)=[.dat d]):Z qaG (.loop 6 F39l0 (qmK d N N) (S1 r j (qbp k0 n0 s0 d0) l))=qjh d N (S1 r j (qbp k0 n0 s0 d0) l):=by
 rw[qac]
 simp[qae,qde,qbp,List.range_succ]
def qnu (r:D) (j:Int) (bx:Ob) (nv:V) (xs:List ByteArray):Prop:=
 (∃ S',Z qaG (.call 39 [nv,.yld 0] (S0 r j bx))=some (.ret (.bool true) S')/\Got r j bx (addAll [] xs) S') /\
 ∀ l,l≠[]->l.length+xs.length<2^29->Z qaG (.call 39 [nv,.yld 0] (S1 r j bx l))=some (.ret (.bool true) (S1 r j bx (addAll l xs)))
def qgh (r:D) (j:Int) (bx:Ob) (d:D) (N i:Nat) (xs:List ByteArray):Prop:=
 (∃ S',Z qaG (.loop 5 F39l0 (qmK d N i) (S0 r j bx))=qjh d N S'/\Got r j bx (addAll [] xs) S') /\
 (∀ l,l≠[]->l.length+xs.length<2^29->Z qaG (.loop 5 F39l0 (qmK d N i) (S01 r j bx l))=qjh d N (S01 r j bx (addAll l xs))) /\
 (∀ l,l≠[]->l.length+xs.length<2^29->Z qaG (.loop 6 F39l0 (qmK d N i) (S1 r j bx l))=qjh d N (S1 r j bx (addAll l xs)))
theorem qcS (xs:List ByteArray) (h:l≠[]):addAll l xs≠[]:=by
 have h1:=(qbZ xs l).1
 intro he
 rw[he] at h1
 exact h (List.eq_nil_of_length_eq_zero (Nat.le_zero.1 h1))
theorem qpa (hc:cs.drop (i*4) = .lit (.int .i64 k) :: .lit (.int .i64 n) :: .lit (.string s)::kd f ks.len ks.cells::c4) (hi:i<N) (hN:N<2^40) {xs ys:List ByteArray} (hx:xs.length+ys.length<2^28)
  (hw:qnu r j (qbp k0 n0 s0 d0) (nd k n s f ks) xs) (ih:qgh r j (qbp k0 n0 s0 d0) (.sl cs N fl) N (i+1) ys):qgh r j (qbp k0 n0 s0 d0) (.sl cs N fl) N i (xs++ys):=by
 have h4:=qvW hc
 have w1:=qag ((i:Int)+1) (by omega)
 have hi':(i:Int)<N:=by omega
 obtain⟨⟨S',hw0,hg⟩,hw1⟩:=hw
 obtain⟨⟨T,ha,hT⟩,hb,hc'⟩:=ih
 have hlen:=qbZ xs []
 simp only[List.length_nil,Nat.zero_add] at hlen
 refine⟨?_,fun l hl hb'=>?_,fun l hl hb'=>?_⟩
 ·rw[qcE]
  rcases hg with ⟨he,rfl⟩ | ⟨he,rfl⟩
  ·rw[he]
   refine⟨T,?_,hT⟩
   rw[qac,<- ha]
   simp only[qbp,S0,S01] at hw0
   simp[qae,qde,hi,hi',qan,h4,hw0,w1,V.len,qbp,List.range_succ]
   exact qam (by simp[List.range_succ])
  ·refine⟨_,?_,.inr ⟨qcS _ he,rfl⟩⟩
   have hb1:=hb (addAll [] xs) he (by omega)
   rw[qac,<- hb1]
   simp only[qbp,S0,S01] at hw0
   simp[qae,qde,hi,hi',qan,h4,hw0,w1,V.len,qbp,List.range_succ]
   exact qam (by simp[List.range_succ])
 ·rw[List.length_append] at hb'
  have hl2:=qbZ xs l
  have hb1:=hb (addAll l xs) (qcS _ hl) (by omega)
  have hw2:=hw1 l hl (by omega)
  rw[qcE,qac,<- hb1]
  simp only[qbp,S1] at hw2
  simp[qae,qde,hi,hi',qan,h4,hw2,w1,V.len,qbp,List.range_succ]
  exact qam (by simp[List.range_succ])
 ·rw[List.length_append] at hb'
  have hl2:=qbZ xs l
  have hb1:=hc' (addAll l xs) (qcS _ hl) (by omega)
  have hw2:=hw1 l hl (by omega)
  rw[qcE,qac,<- hb1]
  simp only[qbp,S1] at hw2
  simp[qae,qde,hi,hi',qan,h4,hw2,w1,V.len,qbp,List.range_succ]
  exact qam (by simp[List.range_succ])
theorem qlD (hx:ks.vars.length<2^28) (h:qgh r j (qbp k0 n0 s0 d0) (kd f ks.len ks.cells) ks.len 0 ks.vars):qnu r j (qbp k0 n0 s0 d0) (nd k n s f ks) ((if k=1\/k=10 then [s] else [])++ks.vars):=by
 obtain⟨⟨T,ha,hT⟩,hb,hc⟩:=h
 have h4:(if k=1\/k=10 then [s] else []).length<=1:=by split<;>simp
 refine⟨?_,fun l hl hb'=>?_⟩
 ·obtain⟨S',hr,hS⟩:=rd0 (k:=k) (n:=n) (s:=s) (f:=f) (ks:=ks) (r:=r) (j:=j) (k0:=k0) (n0:=n0) (s0:=s0) (d0:=d0)
  have hlen:=qbZ (if k=1\/k=10 then [s] else []) []
  simp only[List.length_nil,Nat.zero_add] at hlen
  rw[qcE]
  rcases hS with ⟨he,rfl⟩ | ⟨he,rfl⟩
  ·rw[he]
   refine⟨T,?_,hT⟩
   refine qaa (pf:=F39) rfl rfl ?_
   have ha':=(qam (k:=5) (b:=F39l0) (fr:=qmK (kd f ks.len ks.cells) ks.len 0) (σ := S0 r j (qbp k0 n0 s0 d0)++[qbp k n s (kd f ks.len ks.cells)]) (by simp[qbp,List.range_succ])).trans ha
   simp only[qbp,qmK,qjh,lpO,S0,S01,S1,List.cons_append,List.nil_append,show ((0:Nat):Int)=0 from rfl] at hr ha'
   rcases hT with ⟨hT,rfl⟩ | ⟨hT,rfl⟩<;>simp[F39,hr,ha',qbp,S0,S01,lpO,List.range_succ]
  ·refine⟨S01 r j (qbp k0 n0 s0 d0) (addAll (addAll [] (if k=1\/k=10 then [s] else [])) ks.vars),?_,.inr ⟨qcS _ he,rfl⟩⟩
   generalize addAll [] (if k=1\/k=10 then [s] else [])=l at *
   have hb1:=hb l he (by omega)
   refine qaa (pf:=F39) rfl rfl ?_
   have ha':=(qam (k:=5) (b:=F39l0) (fr:=qmK (kd f ks.len ks.cells) ks.len 0) (σ := [lpO r j,.cells [.gsl (strC l) l.length 1 6],.cells [.mp 4],qbp k0 n0 s0 d0,.map (mapM 0 l),qbp k n s (kd f ks.len ks.cells),.tip l.length]) (by simp[qbp,List.range_succ])).trans hb1
   simp only[qbp,qmK,qjh,lpO,S0,S01,S1,List.cons_append,List.nil_append,show ((0:Nat):Int)=0 from rfl] at hr ha'
   simp[F39,hr,ha',qbp,S0,S01,lpO,List.range_succ]
 ·rw[List.length_append] at hb'
  have hl2:=qbZ (if k=1\/k=10 then [s] else []) l
  have hr:=rd1 (k:=k) (n:=n) (s:=s) (f:=f) (ks:=ks) (r:=r) (j:=j) (k0:=k0) (n0:=n0) (s0:=s0) (d0:=d0) hl (by omega)
  have he:=qcS (if k=1\/k=10 then [s] else []) hl
  rw[qcE]
  generalize addAll l (if k=1\/k=10 then [s] else [])=l' at *
  have hc1:=hc l' he (by omega)
  refine qaa (pf:=F39) rfl rfl ?_
  have ha':=(qam (k:=6) (b:=F39l0) (fr:=qmK (kd f ks.len ks.cells) ks.len 0) (σ := S1 r j (qbp k0 n0 s0 d0) l'++[qbp k n s (kd f ks.len ks.cells)]) (by simp[qbp,List.range_succ])).trans hc1
  simp only[qbp,qmK,qjh,lpO,S0,S01,S1,List.cons_append,List.nil_append,show ((0:Nat):Int)=0 from rfl] at hr ha'
  simp[F39,hr,ha',qbp,S0,S01,lpO,List.range_succ]
end
end Go.Pm
end SE5
section SE6
namespace Go.Pm
open F
attribute [local simp] qex qfY dkey
theorem qfp {r:D} {j k0 n0:Int} {s0:ByteArray} {d0 d:D} {N:Nat} (h1:V.one (.dat d)=true) (h2:V.cells (.dat d)=[.dat d]):qgh r j (qbp k0 n0 s0 d0) d N N []:=
 ⟨⟨_,qra h1 h2,.inl ⟨rfl,rfl⟩⟩,fun _ _ _=>qrb h1 h2,fun _ _ _=>qrc h1 h2⟩
theorem qn0 {r:D} {j k0 n0:Int} {s0:ByteArray} {d0:D} : ∀ (a:Fo) (i:Nat) (cs:List D) (N:Nat) (fl:Bool),cs.drop (i*4)=a.cells->N=i+a.len->i+2*a.size<2^27 ->
  qgh r j (qbp k0 n0 s0 d0) (.sl cs N fl) N i a.vars
 | .nil,i,cs,N,fl,hc,hN,hb=>by
  simp only[qbd,Nat.add_zero] at hN
  subst hN
  exact qfp rfl rfl
 | .cons k n s f ks rr,i,cs,N,fl,hc,hN,hb=>by
  simp only[qav,qaN,qaq] at hc hN hb
  have h1:=qcg rr
  have h2:=qg8 ks
  have h3:=qg8 rr
  have h4:(if k=1\/k=10 then [s] else []).length<=1:=by split<;>simp
  have hk:qgh r j (qbp k0 n0 s0 d0) (kd f ks.len ks.cells) ks.len 0 ks.vars:=by
   cases hz:ks.len with
   | zero=>
    have hn:ks = .nil:=by cases ks<;>simp at hz; rfl
    subst hn
    exact qfp (by simp) (by simp)
   | succ m=>
    rw[qmO,<- hz]
    exact qn0 ks 0 ks.cells ks.len f rfl (by omega) (by omega)
  have e:(Fo.cons k n s f ks rr).vars=((if k=1\/k=10 then [s] else [])++ks.vars)++rr.vars:=by rw[Fo.vars,List.append_assoc]
  rw[e]
  exact qpa hc (by omega) (by omega) (by rw[List.length_append]; omega) (qlD (by omega) hk) (qn0 rr (i+1) cs N fl (qbr hc) (by omega) (by omega))
theorem qn1 {r:D} {j k0 n0:Int} {s0:ByteArray} {d0:D} (k n:Int) (s:ByteArray) (f:Bool) (ks:Fo) (hb:ks.size<2^25):qnu r j (qbp k0 n0 s0 d0) (nd k n s f ks) ((if k=1\/k=10 then [s] else [])++ks.vars):=by
 have h2:=qg8 ks
 refine qlD (by omega) ?_
 cases hz:ks.len with
 | zero=>
  have hn:ks = .nil:=by cases ks<;>simp at hz; rfl
  subst hn
  exact qfp (by simp) (by simp)
 | succ m=>
  rw[qmO,<- hz]
  exact qn0 ks 0 ks.cells ks.len f rfl (by omega) (by omega)
abbrev qkC (r:D) (i:Int):Ob := .loop ⟨[(3,.ptr 2 0),(4,.ptr 3 0),(12,.dat r),(13,.int i),(17,.fn 38 [] [.ptr 1 0])],[18],F15a0,F15b0,0,none⟩
abbrev T0 (r:D) (j:Int) (bx:Ob):S:=[qkC r j,bx,.cells [.dat (.lit (.slice none 0 0))],.cells [.mp 4],.map []]
abbrev T01 (r:D) (j:Int) (bx:Ob) (l:List ByteArray):S:=[qkC r j,bx,.cells [.gsl (strC l) l.length 1 5],.cells [.mp 4],.map (mapM 0 l),.tip l.length]
abbrev T1 (r:D) (j:Int) (bx:Ob) (l:List ByteArray):S:=[qkC r j,bx,.cells [.gsl (strC l) l.length 1 4],.cells [.mp 5],.tip l.length,.map (mapM 0 l)]
section
variable {r:D} {j:Int} {k n:Int} {s:ByteArray} {f:Bool} {ks:Fo} {xs:List ByteArray}
theorem qr0 (h:qnu r j (qbp k n s (kd f ks.len ks.cells)) (nd k n s f ks) xs) : ∃ S',Z qaG (.call 38 [.yld 0,.ptr 1 0] (T0 r j (qbp k n s (kd f ks.len ks.cells))))=some (.ret (.tup []) S') /\
  ((addAll [] xs=[]/\S'=T0 r j (qbp k n s (kd f ks.len ks.cells)))\/(addAll [] xs≠[]/\S'=T01 r j (qbp k n s (kd f ks.len ks.cells)) (addAll [] xs))):=by
 obtain⟨⟨S',h1,hg⟩,-⟩:=h
 simp only[qbp,S0,lpO] at h1
 rcases hg with ⟨he,rfl⟩ | ⟨he,rfl⟩
 ·refine⟨_,?_,.inl ⟨he,rfl⟩⟩
  refine qaa (pf:=F38) rfl rfl ?_
  simp[F38,h1,qbp,S0,lpO,List.range_succ]
 ·refine⟨_,?_,.inr ⟨he,rfl⟩⟩
  refine qaa (pf:=F38) rfl rfl ?_
  simp[F38,h1,qbp,S01,lpO,List.range_succ]
theorem qtV (h:qnu r j (qbp k n s (kd f ks.len ks.cells)) (nd k n s f ks) xs) {l:List ByteArray} (hl:l≠[]) (hb:l.length+xs.length<2^29):Z qaG (.call 38 [.yld 0,.ptr 1 0] (T1 r j (qbp k n s (kd f ks.len ks.cells)) l))=some (.ret (.tup []) (T1 r j (qbp k n s (kd f ks.len ks.cells)) (addAll l xs))):=by
 have h1:=h.2 l hl hb
 simp only[qbp,S1,lpO] at h1
 refine qaa (pf:=F38) rfl rfl ?_
 simp[F38,h1,qbp,S1,lpO,List.range_succ]
theorem qn2:Z qaG (.call 32 [nd k n s f ks] [])=some (.ret (.fn 38 [] [.ptr 0 0]) [qbp k n s (kd f ks.len ks.cells)]):=by
 refine qaa (pf:=F32) rfl rfl ?_
 simp[F32,qbp]
end
end Go.Pm
end SE6
section SE7
namespace Go.Pm
open F
attribute [local simp] qex qfY dkey Ex.isPan
abbrev vfr (r:D) (i:Int):Fr:=[(3,.ptr 0 0),(4,.ptr 1 0),(12,.dat r),(13,.int i)]
abbrev U0:S:=[.cells [.dat (.lit (.slice none 0 0))],.cells [.mp 2],.map []]
abbrev U1 (l:List ByteArray):S:=[.cells [.gsl (strC l) l.length 1 2],.cells [.mp 3],.tip l.length,.map (mapM 0 l)]
section
variable {a b c:Nd}
theorem qpT (hb:a.ks.size<2^25):Z qaG (.loop 0 F15l0 (vfr (ru a b c) 0) U0)=if addAll [] a.vars=[] then Z qaG (.loop 0 F15l0 (vfr (ru a b c) 1) U0) else Z qaG (.loop 0 F15l0 (vfr (ru a b c) 1) (U1 (addAll [] a.vars))):=by
 have hv:=qn1 (r:=ru a b c) (j:=0) (k0:=a.k) (n0:=a.n) (s0:=a.s) (d0:=a.d) a.k a.n a.s a.f a.ks hb
 obtain⟨S',h1,h2⟩:=qr0 hv
 have h3:=qn2 (k:=a.k) (n:=a.n) (s:=a.s) (f:=a.f) (ks:=a.ks)
 have w1:=qag 1 (by omega)
 rw[show (if a.k=1\/a.k=10 then [a.s] else [])++a.ks.vars=a.vars from rfl] at h2
 simp only[qbp,T0,qkC,ru,Nd.d] at h1 h3
 conv=>lhs; rw[qac]
 rcases h2 with ⟨he,rfl⟩ | ⟨he,rfl⟩
 ·rw[if_pos he]
  simp[qae,qb5,h3,h1,w1,qba,qbb,qbp,T0,qkC,List.range_succ]
  refine qam ?_
  simp[List.range_succ]
 ·rw[if_neg he]
  simp[qae,qb5,h3,h1,w1,qba,qbb,qbp,T01,qkC,List.range_succ]
  refine qam ?_
  simp[List.range_succ]
theorem qpU (hb:b.ks.size<2^25):Z qaG (.loop 0 F15l0 (vfr (ru a b c) 1) U0)=if addAll [] b.vars=[] then Z qaG (.loop 0 F15l0 (vfr (ru a b c) 2) U0) else Z qaG (.loop 0 F15l0 (vfr (ru a b c) 2) (U1 (addAll [] b.vars))):=by
 have hv:=qn1 (r:=ru a b c) (j:=1) (k0:=b.k) (n0:=b.n) (s0:=b.s) (d0:=b.d) b.k b.n b.s b.f b.ks hb
 obtain⟨S',h1,h2⟩:=qr0 hv
 have h3:=qn2 (k:=b.k) (n:=b.n) (s:=b.s) (f:=b.f) (ks:=b.ks)
 have w1:=qag 2 (by omega)
 rw[show (if b.k=1\/b.k=10 then [b.s] else [])++b.ks.vars=b.vars from rfl] at h2
 simp only[qbp,T0,qkC,ru,Nd.d] at h1 h3
 conv=>lhs; rw[qac]
 rcases h2 with ⟨he,rfl⟩ | ⟨he,rfl⟩
 ·rw[if_pos he]
  simp[qae,qb5,h3,h1,w1,qba,qbb,qbp,T0,qkC,List.range_succ]
  refine qam ?_
  simp[List.range_succ]
 ·rw[if_neg he]
  simp[qae,qb5,h3,h1,w1,qba,qbb,qbp,T01,qkC,List.range_succ]
  refine qam ?_
  simp[List.range_succ]
theorem qpV {l:List ByteArray} (hb:b.ks.size<2^25) (hl:l≠[]) (hl':l.length<2^27):Z qaG (.loop 0 F15l0 (vfr (ru a b c) 1) (U1 l))=Z qaG (.loop 0 F15l0 (vfr (ru a b c) 2) (U1 (addAll l b.vars))):=by
 have hv:=qn1 (r:=ru a b c) (j:=1) (k0:=b.k) (n0:=b.n) (s0:=b.s) (d0:=b.d) b.k b.n b.s b.f b.ks hb
 have hx:=qch b
 have h1:=qtV hv hl (by rw[show (if b.k=1\/b.k=10 then [b.s] else [])++b.ks.vars=b.vars from rfl]; omega)
 rw[show (if b.k=1\/b.k=10 then [b.s] else [])++b.ks.vars=b.vars from rfl] at h1
 have h3:=qn2 (k:=b.k) (n:=b.n) (s:=b.s) (f:=b.f) (ks:=b.ks)
 have w1:=qag 2 (by omega)
 simp only[qbp,T1,qkC,ru,Nd.d] at h1 h3
 conv=>lhs; rw[qac]
 simp[qae,qb5,h3,h1,w1,qba,qbb,qbp,T1,qkC,List.range_succ]
 refine qam ?_
 simp[List.range_succ]
theorem qpW (hb:c.ks.size<2^25):Z qaG (.loop 0 F15l0 (vfr (ru a b c) 2) U0)=if addAll [] c.vars=[] then Z qaG (.loop 0 F15l0 (vfr (ru a b c) 3) U0) else Z qaG (.loop 0 F15l0 (vfr (ru a b c) 3) (U1 (addAll [] c.vars))):=by
 have hv:=qn1 (r:=ru a b c) (j:=2) (k0:=c.k) (n0:=c.n) (s0:=c.s) (d0:=c.d) c.k c.n c.s c.f c.ks hb
 obtain⟨S',h1,h2⟩:=qr0 hv
 have h3:=qn2 (k:=c.k) (n:=c.n) (s:=c.s) (f:=c.f) (ks:=c.ks)
 have w1:=qag 3 (by omega)
 rw[show (if c.k=1\/c.k=10 then [c.s] else [])++c.ks.vars=c.vars from rfl] at h2
 simp only[qbp,T0,qkC,ru,Nd.d] at h1 h3
 conv=>lhs; rw[qac]
 rcases h2 with ⟨he,rfl⟩ | ⟨he,rfl⟩
 ·rw[if_pos he]
  simp[qae,qb5,h3,h1,w1,qba,qbb,qbp,T0,qkC,List.range_succ]
  refine qam ?_
  simp[List.range_succ]
 ·rw[if_neg he]
  simp[qae,qb5,h3,h1,w1,qba,qbb,qbp,T01,qkC,List.range_succ]
  refine qam ?_
  simp[List.range_succ]
theorem qmb {l:List ByteArray} (hb:c.ks.size<2^25) (hl:l≠[]) (hl':l.length<2^27):Z qaG (.loop 0 F15l0 (vfr (ru a b c) 2) (U1 l))=Z qaG (.loop 0 F15l0 (vfr (ru a b c) 3) (U1 (addAll l c.vars))):=by
 have hv:=qn1 (r:=ru a b c) (j:=2) (k0:=c.k) (n0:=c.n) (s0:=c.s) (d0:=c.d) c.k c.n c.s c.f c.ks hb
 have hx:=qch c
 have h1:=qtV hv hl (by rw[show (if c.k=1\/c.k=10 then [c.s] else [])++c.ks.vars=c.vars from rfl]; omega)
 rw[show (if c.k=1\/c.k=10 then [c.s] else [])++c.ks.vars=c.vars from rfl] at h1
 have h3:=qn2 (k:=c.k) (n:=c.n) (s:=c.s) (f:=c.f) (ks:=c.ks)
 have w1:=qag 3 (by omega)
 simp only[qbp,T1,qkC,ru,Nd.d] at h1 h3
 conv=>lhs; rw[qac]
 simp[qae,qb5,h3,h1,w1,qba,qbb,qbp,T1,qkC,List.range_succ]
 refine qam ?_
 simp[List.range_succ]
theorem qub {r:D}:Z qaG (.loop 0 F15l0 [(3,.ptr 0 0),(4,.ptr 1 0),(12,.dat r),(13,.int 3)] U0)=some (.out (.exit 0) [(3,.ptr 0 0),(4,.ptr 1 0),(12,.dat r),(13,.int 3),(14,.bool false)] U0):=by
 rw[qac]
 simp[qae,qb5]
theorem qof {r:D} {l:List ByteArray}:Z qaG (.loop 0 F15l0 [(3,.ptr 0 0),(4,.ptr 1 0),(12,.dat r),(13,.int 3)] (U1 l))=some (.out (.exit 0) [(3,.ptr 0 0),(4,.ptr 1 0),(12,.dat r),(13,.int 3),(14,.bool false)] (U1 l)):=by
 rw[qac]
 simp[qae,qb5]
theorem qog (ha:a.ks.size<2^25) (hb:b.ks.size<2^25) (hc:c.ks.size<2^25):Z qaG (.loop 0 F15l0 (vfr (ru a b c) 0) U0) =
  some (.out (.exit 0) [(3,.ptr 0 0),(4,.ptr 1 0),(12,.dat (ru a b c)),(13,.int 3),(14,.bool false)] (if rvars a b c=[] then U0 else U1 (rvars a b c))):=by
 have la:=qch a
 have lb:=qch b
 have l1:=qbZ a.vars []
 have l2:=qbZ b.vars (addAll [] a.vars)
 have e:rvars a b c=addAll (addAll (addAll [] a.vars) b.vars) c.vars:=by unfold rvars; rw[qcE,qcE]
 simp only[List.length_nil] at l1
 rw[e,qpT ha]
 by_cases h1:addAll [] a.vars=[]
 ·rw[if_pos h1,h1,qpU hb]
  by_cases h2:addAll [] b.vars=[]
  ·rw[if_pos h2,h2,qpW hc]
   by_cases h3:addAll [] c.vars=[]
   ·rw[if_pos h3,if_pos h3]; exact qub
   ·rw[if_neg h3,if_neg h3]; exact qof
  ·rw[h1] at l2
   rw[if_neg h2,qmb hc h2 (by simp only[List.length_nil] at l2; omega),if_neg (qcS _ h2)]
   exact qof
 ·have n2:addAll (addAll [] a.vars) b.vars≠[]:=qcS _ h1
  rw[if_neg h1,qpV hb h1 (by omega),qmb hc n2 (by omega),if_neg (qcS _ n2)]
  exact qof
theorem qft (ha:a.ks.size<2^25) (hb:b.ks.size<2^25) (hc:c.ks.size<2^25):Z qaG (.call 15 [.dat (ru a b c)] [])=some (.ret (.dat (qks (rvars a b c))) []):=by
 have h:=qog ha hb hc
 refine qaa (pf:=F15) rfl rfl ?_
 have h':=(qam (k:=0) (b:=F15l0) (fr:=[(3,.ptr 1 0),(4,.ptr 3 0),(12,.dat (ru a b c)),(13,.int 0)]) (σ := [.cells [.int a.k,.int a.n,.str a.s,.dat a.d,.int b.k,.int b.n,.str b.s,.dat b.d,.int c.k,.int c.n,.str c.s,.dat c.d],.cells [.dat (.lit (.slice none 0 0))],.map [],.cells [.mp 2]]) (by simp[vfr,U0])).trans h
 simp only[ru,Nd.d] at h'
 by_cases hn:rvars a b c=[]
 ·rw[if_pos hn] at h'
  rw[hn]
  simp[F15,h',qks]
 ·rw[if_neg hn] at h'
  rw[qob hn]
  simp[F15,h']
end
end Go.Pm
end SE7
section SF01
namespace Go.Pm.F
variable (C:Task->Option Res) (q:Nat) (fr:Fr) (σ : S)
def F17:PFun:=⟨2,[.tmp 4],.seq (rn [mx 4 (kk 0)] [0,1]) (.seq (.seq (rn [mv 5 0,bk 6 .lss 5 0] [0,1,6]) (.cond (.t 6) (rn [mv 7 0,bk 8 .add 7 1,jj 9 (.un .neg (.t 8)),mv 0 9] [0,1]) (.skip))) (.seq (rn [mv 10 0,mv 11 1,bn 12 .rem 10 11,mv 4 12] [4]) (.ret))),false,false,false⟩
def F23:PFun:=⟨2,[.tmp 4],.seq (rn [jj 4 (.mov (.c (.slice none 0 0)))] [0,1]) (.seq (rn [jj 5 (.mov (.c (.slice none 0 0)))] [0,1,5]) (.seq (rn [mv 6 5,mv 7 0,mv 8 0,ls 9 8,mv 10 1,jj 11 (.min [(.t 9),(.t 10)]),jj 12 (.slice 1 (.t 7) none (some (.t 11))),jj 13 (.append 1 8 (.t 6) (.t 12)),mv 4 13] [4]) (.ret))),false,false,false⟩
end Go.Pm.F
end SF01
section SF5
namespace Go.Pm.F
variable (C:Task->Option Res) (q:Nat) (fr:Fr) (σ : S)
def effRows15:List (List Int):=[[0,0],[0,1],[0,1],[1,0],[1,1],[2,0],[0,1],[0,1],[0,1],[2,1],[2,1],[2,1],[2,1],[1,1],[2,1],[2,1],[2,1],[1,1],[0,0],[1,0],[2,0],[0,0]]
def qhW:List D:=effRows15.flatten.map fun n => .lit (.int .i64 n)
end Go.Pm.F
end SF5
section STb15
namespace Go.Pm.F
def qd9:Nat->Option PFun
 | 15=>some F15
 | 17=>some F17
 | 23=>some F23
 | 32=>some F32
 | 38=>some F38
 | 39=>some F39
 | _=>none
end Go.Pm.F
end STb15
section SGc
namespace Go.Pm
def E.cost:E->Nat
 | .int n=>(decB n.toNat).length+1
 | .bool n=>if n=0 then 6 else 5
 | .var s=>s.size+1
 | .name s=>s.size+1
 | .field _ s e=>s.size+5+e.cost
 | .un _ _ e=>6+e.cost
 | .bin _ o a b=>o.str.size+5+(a.cost+b.cost)
def Ss.cost:Ss->Nat
 | .nil=>0
 | .assign _ s e r=>s.size+5+e.cost+r.cost
 | .store _ s a b r=>s.size+9+(a.cost+b.cost)+r.cost
 | .effect _ a b r=>11+(a.cost+b.cost)+r.cost
 | .stop r=>7+r.cost
 | .cond w _ c b r=>(if w then 6 else 3)+c.cost+b.cost+r.cost
 | .block _ b r=>4+b.cost+((if qgl r then 5 else 0)+r.cost)
end Go.Pm
end SGc
section SG1
namespace Go.Pm
open F
theorem ql9 {n m:Int} (h1:I64 n) (hm:1<=m):Z qd9 (.call 17 [.int n,.int m] [])=some (.ret (.int (qcU n m)) []):=by
 refine qaa (pf:=F17) rfl rfl ?_
 unfold qcU
 have hm0 : ¬ m=0:=by omega
 by_cases h:n<0
 ·have w1:IntKind.i64.wrap (n+1)=n+1:=qag _ (by unfold I64 at h1; omega)
  have w2:IntKind.i64.wrap (-(n+1)) = -(n+1):=qag _ (by unfold I64 at h1; omega)
  simp[F17,h,hm0,w1,w2]
 ·simp[F17,h,hm0]
structure Bnd (v:D) (xs:List Int) (B:Int):Prop where
 row:RowV v xs
 len:(xs.length:Int)<=B
 big:B<=9223372036854775807
def qwS:List ByteArray:=[⟨#[105]⟩,⟨#[110]⟩,⟨#[115,117,109]⟩,⟨#[118,51]⟩]
def qwA:List ByteArray:=qwS++[⟨#[118]⟩]
def qv0:List ByteArray:=[⟨#[115,101,108,102]⟩,⟨#[111,116,104,101,114]⟩,⟨#[116,105,99,107]⟩]
def qt6:List ByteArray:=[⟨#[120]⟩,⟨#[121]⟩,⟨#[118,120]⟩,⟨#[118,121]⟩,⟨#[97]⟩,⟨#[98]⟩]
def qt7:List ByteArray:=qt6++[⟨#[104,105,116]⟩,⟨#[115,116,105,108,108]⟩]
def E.fine:E->Prop
 | .int n=>0<=n/\n<=2147483647
 | .bool n=>n=0\/n=1
 | .var s=>s∈qwA
 | .name s=>s∈qv0
 | .field _ s e=>s∈qt7/\e.fine/\e.ty=1
 | .un _ neg e=>e.fine/\e.ty=if neg then 1 else 2
 | .bin _ o a b=>a.fine/\b.fine/\a.ty=o.opd/\b.ty=o.opd
def E.dp:E->Nat
 | .field _ _ e=>e.dp+1
 | .un _ _ e=>e.dp+1
 | .bin _ _ a b=>max a.dp b.dp+1
 | _=>0
def mxs:Nat->Nat
 | 0=>1
 | n+1=>2*mxs n+1
theorem qfs (n:Nat):1<=mxs n:=by cases n<;>simp[mxs]
theorem qoe {l:List ByteArray} {p:Int} (h:0<=p/\p<l.length) : ∃ s∈l,cutCells (strC l) p.toNat 1=some [.lit (.string s)]:=
 ⟨_,List.getElem_mem (by omega:p.toNat<l.length),qg7 l p.toNat (by omega)⟩
end Go.Pm
end SG1
section SG3
namespace Go.Pm
open F
def Ss.fine:Ss->Prop
 | .nil=>True
 | .assign _ s e r=>(s∈qwA/\e.fine/\e.ty=1)/\r.fine
 | .store _ s a b r=>(s∈qt6/\a.fine/\a.ty=1/\b.fine/\b.ty=1)/\r.fine
 | .effect _ a b r=>(a.fine/\a.ty=1/\b.fine/\b.ty=1)/\r.fine
 | .stop r=>r.fine
 | .cond false _ c (.block _ x (.block _ y .nil)) r=>(c.fine/\c.ty=2)/\x.fine/\y.fine/\r.fine
 | .cond true _ c (.block _ x .nil) r=>(c.fine/\c.ty=2)/\x.fine/\r.fine
 | _=>False
def Ss.dp:Ss->Nat
 | .nil=>0
 | .assign _ _ _ r=>r.dp
 | .store _ _ _ _ r=>r.dp
 | .effect _ _ _ r=>r.dp
 | .stop r=>r.dp
 | .cond _ _ _ b r=>max (b.dp+1) r.dp
 | .block _ b r=>max b.dp r.dp
def Ss.edp:Ss->Nat
 | .nil=>0
 | .assign _ _ e r=>max e.dp r.edp
 | .store _ _ a b r=>max (max a.dp b.dp) r.edp
 | .effect _ a b r=>max (max a.dp b.dp) r.edp
 | .stop r=>r.edp
 | .cond _ _ c b r=>max (max c.dp b.edp) r.edp
 | .block _ b r=>max b.edp r.edp
end Go.Pm
end SG3
section SG5
namespace Go.Pm
open F
theorem qr5 (o:Option Addr) (m:Int) (hm:0<=m):Z qd9 (.call 23 [.dat (.lit (.slice o 0 0)),.int m] [])=some (.ret (.dat (qek [])) []):=by
 refine qaa (pf:=F23) rfl rfl ?_
 have h : ¬ m<0:=by omega
 simp[F23,V.len,qou,qlz,h,qgF,bound,qce,qly,qek]
theorem qmA (xs:List Int) (k:Nat):(qcO xs).take k=qcO (xs.take k):=by simp[qcO,List.map_take]
theorem qr6 (xs:List Int) (k:Nat) (hk:k<=1000):Z qd9 (.call 23 [.dat (.sl (qcO xs) xs.length false),.int k] [])=some (.ret (.dat (qek (xs.take k))) []):=by
 refine qaa (pf:=F23) rfl rfl ?_
 have hl:(qcO xs).length=xs.length:=by simp[qcO]
 have key : ∃ m:Nat,(if k<xs.length then (k:Int) else (xs.length:Int))=(m:Int)/\m<=xs.length/\m<=1000/\xs.take k=xs.take m/\(xs.take m).length=m:=by
  by_cases h:k<xs.length
  ·exact⟨k,by simp[h],by omega,hk,rfl,by simp; omega⟩
  ·exact⟨xs.length,by simp[h],Nat.le_refl _,by omega,by rw[List.take_of_length_le (by omega),List.take_of_length_le (Nat.le_refl _)],by simp⟩
 obtain⟨m,e1,e2,e3,e4,e5⟩:=key
 rw[e4]
 cases hm:xs.take m with
 | nil=>
  rw[hm] at e5
  simp at e5
  subst e5
  simp[F23,V.len,qou,qlz,e1,qgF,bound,qce,qly,qek,hl]
 | cons y ys=>
  have hm':=e5
  rw[hm] at hm'
  simp only[List.length_cons] at hm'
  have hne:m≠0:=by omega
  have hr:qaP m 8=true:=by simp[qaP]; omega
  have ht:(qcO xs).take m=qcO (y::ys):=by rw[qmA,hm]
  have hlen:(qcO (y::ys)).length=m:=by simp[qcO]; omega
  simp[F23,V.len,qou,qlz,e1,qgF,bound,qce,qly,qek,hl,e2,ht,hlen,hne,hr,hm']
theorem qtZ {v:D} {xs:List Int} (h:RowV v xs) (k:Nat) (hk:k<=1000):Z qd9 (.call 23 [.dat v,.int k] [])=some (.ret (.dat (qek (xs.take k))) []):=by
 rcases h with ⟨o,rfl,rfl⟩ | rfl
 ·simpa using qr5 o k (by omega)
 ·exact qr6 xs k hk
def Hd.ss:Hd->Ss
 | .none => .nil
 | .some _ b=>b
structure Hd.fine (h:Hd):Prop where
 fine:h.ss.fine
 size:h.ss.fo.size<=2000
def Hd.cost:Hd->Nat
 | .none=>0
 | .some _ b=>12+b.cost
structure Hd.gen (h:Hd):Prop extends h.fine where
 f:h.f=false
 dp:h.ss.dp<=2
 edp:h.ss.edp<=3
 gsize:h.ss.fo.size<=1260
end Go.Pm
end SG5
section SUg
namespace Go.Pm
def wt:List ByteArray->Nat
 | []=>0
 | t::l=>t.size+1+wt l
theorem qeD (a b:List ByteArray):wt (a++b)=wt a+wt b:=by
 induction a with
 | nil=>simp[wt]
 | cons t a ih=>simp only[List.cons_append,wt,ih]; omega
theorem qn3 : ∀ (l:List ByteArray) (p:Bool),(qe8 p l).length<=wt l
 | [],p=>by simp[qe8,wt]
 | t::l,p=>by
  have h1:=qn3 l (qdn p t)
  have h2:=qaw t
  have h3:(gap p t).length<=1:=by unfold gap; split<;>simp
  simp only[qe8,List.length_append,wt]
  omega
theorem ql2 (b:Bool) (l:List ByteArray):wt (qda b l)<=wt l+4:=by
 cases b with
 | false=>simp[qda]
 | true=>
  have:wt (qda true l)=2+(wt l+2):=by
   show wt (bs [40]::(l++[bs [41]]))=_
   rw[wt,qeD]
   rfl
  omega
theorem qia (full:Bool) : ∀ (e:E) p,wt (e.tx full p)<=e.cost
 | .int n,p=>by simp[E.tx,wt,E.cost,qbh]
 | .bool n,p=>by
  simp only[E.tx,wt,E.cost]
  split<;>simp[qgN,qkk,qbh]
 | .var s,p=>by simp[E.tx,wt,E.cost]
 | .name s,p=>by simp[E.tx,wt,E.cost]
 | .field _ s e,p=>by
  have:=qia full e 1
  simp only[E.tx,wt,qeD,E.cost,qbh,List.length_cons,List.length_nil]
  omega
 | .un _ neg e,p=>by
  have h1:=qia full e (qed neg)
  have h2:=ql2 (full||decide (qed neg<p)) (ustr neg::e.tx full (qed neg))
  have h3:(ustr neg).size=1:=by cases neg<;>rfl
  simp only[E.tx,E.cost]
  rw[wt,h3] at h2
  omega
 | .bin _ o a b,p=>by
  have h1:=qia full a o.left
  have h2:=qia full b (o.prec+1)
  have h3:=ql2 (full||decide (o.prec<p)) (a.tx full o.left++o.str::b.tx full (o.prec+1))
  simp only[E.tx,E.cost]
  rw[qeD,wt] at h3
  omega
theorem qju : ∀ s:Ss,wt s.tx<=s.cost
 | .nil=>Nat.le_refl _
 | .assign _ s e r=>by
  have h1:=qia false e 1
  have h2:=qju r
  simp only[Ss.tx,wt,qeD,Ss.cost,qbh,List.length_cons,List.length_nil]
  omega
 | .store _ s a b r=>by
  have h1:=qia false a 1
  have h3:=qia false b 1
  have h2:=qju r
  simp only[Ss.tx,wt,qeD,Ss.cost,qbh,List.length_cons,List.length_nil]
  omega
 | .effect _ a b r=>by
  have h1:=qia false a 1
  have h3:=qia false b 1
  have h2:=qju r
  simp only[Ss.tx,wt,qeD,Ss.cost,qk4,qbh,List.length_cons,List.length_nil]
  omega
 | .stop r=>by
  have h2:=qju r
  simp only[Ss.tx,wt,qeD,Ss.cost,qrz,qbh,List.length_cons,List.length_nil]
  omega
 | .cond w _ c b r=>by
  have h1:=qia false c 1
  have h3:=qju b
  have h2:=qju r
  cases w<;>simp only[Ss.tx,wt,qeD,Ss.cost,qnN,ifS,qbh,List.length_cons,List.length_nil,if_true,Bool.false_eq_true,if_false]<;>omega
 | .block _ b r=>by
  have h3:=qju b
  have h2:=qju r
  simp only[Ss.tx,wt,qeD,Ss.cost,qbh,List.length_cons,List.length_nil]
  split
  ·simp only[wt,qjp,qbh,List.length_cons,List.length_nil]; omega
  ·simp only[wt]; omega
theorem qpH {n:Nat} (h:n<=2147483647):(decB n).length<=10:=qlC 20 n 9 (by omega)
theorem qf1 (full:Bool) : ∀ (e:E) p,e.nest full p<=2*e.dp
 | .int n,p | .bool n,p | .var s,p | .name s,p=>by simp[E.nest]
 | .field _ s e,p=>by have:=qf1 full e 1; simp only[E.nest,E.dp]; omega
 | .un _ neg e,p=>by have:=qf1 full e (qed neg); simp only[E.nest,E.dp]; split<;>omega
 | .bin _ o a b,p=>by have h1:=qf1 full a o.left; have h2:=qf1 full b (o.prec+1); simp only[E.nest,E.dp]; split<;>omega
theorem qr1 (k:Nat) (h:Hd):wt (qkB k h.opt)<=h.cost:=by
 cases h with
 | none=>simp[Hd.opt,qkB,wt]
 | some f b=>
  have:=qju b
  have hk:(qd8 k).size<=4:=by unfold qd8; split<;>decide
  simp only[Hd.opt,qkB,wt,qeD,Hd.cost,onS,qbh,List.length_cons,List.length_nil]
  omega
theorem qpI (a b c:Hd):(qe8 false (qb9 (Hd.opts a b c))).length<=a.cost+(b.cost+c.cost):=by
 refine Nat.le_trans (qn3 (qb9 (Hd.opts a b c)) false) ?_
 simp only[qb9,qeD]
 exact Nat.add_le_add (qr1 0 a) (Nat.add_le_add (qr1 1 b) (qr1 2 c))
end Go.Pm
end SUg
section STE
namespace Go.Pm.F
def tE:Nat->Option PFun
 | _=>none
end Go.Pm.F
end STE
section SF01n
namespace Go.Pm.F
variable (C:Task->Option Res) (q:Nat) (fr:Fr) (σ : S)
@[simp] def F14l0x:PC:=(.seq (.seq (rn [mv 11 5,mv 12 0,ls 13 12,bn 14 .lss 11 13] [0,1,5,14]) (.cond (.t 14) (.skip) (.exit 0))) (.seq (.block 1 (.seq (.region (some []) [mv 17 0,mv 18 5,jj 19 (.indexAddr 1 (.t 17) (.t 18)),l1 20 19,mv 21 1,mv 22 5,jj 23 (.indexAddr 1 (.t 21) (.t 22)),l1 24 23,bn 25 .neq 20 24] [0,1,5,25]) (.cond (.t 25) (.seq (rn [mx 4 kF] [4]) (.ret)) (.skip)))) (rn [mv 15 5,bk 16 .add 15 1,mv 5 16] [0,1,5])))
def F14l0:PC:=F14l0x
theorem qj8:run C q F14l0 fr σ = run C q F14l0x fr σ := rfl
def F14:PFun:=⟨2,[.tmp 4],.seq (rn [mx 4 kF] [0,1]) (.seq (.seq (rn [mv 6 0,ls 7 6,mv 8 1,ls 9 8,bn 10 .neq 7 9] [0,1,10]) (.cond (.t 10) (.seq (rn [mx 4 kF] [4]) (.ret)) (.skip))) (.seq (.seq (rn [mx 5 (kk 0)] [0,1,5]) (.block 0 (.loop F14l0))) (.seq (rn [mx 4 kT] [4]) (.ret)))),false,false,false⟩
end Go.Pm.F
end SF01n
section STK
namespace Go.Pm.F
def tK:Nat->Option PFun
 | _=>none
def tKd:Nat->Option PFun
 | _=>none
end Go.Pm.F
end STK
