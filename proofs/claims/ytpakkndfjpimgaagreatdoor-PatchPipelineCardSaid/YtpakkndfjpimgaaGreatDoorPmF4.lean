/- The abstract machine's program, printed by a program of our own: group 4. -/
import Derived.Test.YtpakkndfjpimgaaGreatDoorPmR
import Derived.Test.YtpakkndfjpimgaaGreatDoorPmAL
set_option linter.unusedSimpArgs false
set_option linter.unusedVariables false
section
namespace Go.Pm.F
variable(C:Task->Option Res)(q:Nat)(fr:Fr)(σ : S)
@[simp] def F12l0x:PC:=(.seq (rn [bk 10 .lss 9 3] [1,3,8,9,10]) (.seq (.cond (.t 10) (.skip) (.exit 0)) (.seq (.block 1 (.seq (rn [jj 11 (.indexA true 3 4 (.t 8) (.t 9)),jj 5 (.alloc [zN,zN,eN,sN]),st 4 5 11] [1,3,5,8,9]) (.seq (rn [fa 12 0 5,l1 13 12,bk 14 .neq 13 0,mv 15 14,jt 16 15 (.load true 1 (.t 3)),jt 17 15 (.load true 4 (.t 5)),jt 18 15 (.call 30 [(.t 16),(.t 17)]),jt 19 15 (.un .not (.t 18)),jj 20 (.pick (.t 15) (.t 19) kF)] [1,3,8,9,20]) (.cond (.t 20) (.seq (rn [mx 2 (kk 13)] [2]) (.ret)) (.skip))))) (rn [bk 21 .add 9 1,mv 9 21] [1,3,8,9]))))
def F12l0:PC:=F12l0x
theorem qcp:run C q F12l0 fr σ = run C q F12l0x fr σ := rfl
def F12:PFun:=⟨1,[.tmp 2],.seq (rn [bx 1 0,mx 2 (kk 0)] [1]) (.seq (rn [jj 6 (.call 26 []),jj 3 (.alloc [(.lit (.map none))]),st 1 3 6] [1,3]) (.seq (.seq (rn [fa 7 0 1,la 8 12 7,mx 9 (kk 0)] [1,3,8,9]) (.block 0 (.loop F12l0))) (.seq (.seq (rn [la 22 12 1,cl 23 15 [22],ls 24 23,bk 25 .gtr 24 16] [25]) (.cond (.t 25) (.seq (rn [mx 2 (kk 2)] [2]) (.ret)) (.skip))) (.seq (rn [mx 2 (kk 0)] [2]) (.ret))))),false,false,false⟩
@[simp] def F15a0x:PC:=(rn [jj 7 (.alloc [zN,zN,eN,sN]),st 4 7 18] [3,4,7])
def F15a0:PC:=F15a0x
theorem qeW:run C q F15a0 fr σ = run C q F15a0x fr σ := rfl
@[simp] def F15b0x:PC:=(.block 3 (.seq (.seq (rn [fa 19 0 7,l1 20 19,bk 21 .neq 20 1,mv 22 21,jt 23 22 (.fieldAddr 0 (.t 7)),jt 24 22 (.load false 1 (.t 23)),jt 25 22 (.bin .neq (.t 24) (kk 10)),jj 26 (.pick (.t 22) (.t 25) kF)] [3,4,7,26]) (.cond (.t 26) (.exit 3) (.skip))) (.seq (rn [l1 28 4,fa 29 2 7,l1 30 29,jj 31 (.lookup .s zN (.t 28) (.t 30) true),mv 27 31,ex 32 27 0,ex 33 27 1,mv 8 32,mv 9 33] [3,4,7,9]) (.seq (rn [mv 34 9,jj 35 (.un .not (.t 34))] [3,4,7,35]) (.cond (.t 35) (.seq (rn [l1 36 4,fa 37 2 7,l1 38 37,l1 39 3,ls 40 39,jn (.mapset .s (.t 36) (.t 38) (.t 40))] [3,7]) (rn [l1 41 3,fa 42 2 7,l1 43 42,jj 44 (.bslice 1 [eN] [(0,1,(.t 43))]),jj 45 (.append 1 16 (.t 41) (.t 44)),st 1 3 45] [])) (.skip))))))
def F15b0:PC:=F15b0x
theorem qeX:run C q F15b0 fr σ = run C q F15b0x fr σ := rfl
@[simp] def F15l0x:PC:=(.seq (rn [bk 14 .lss 13 3] [3,4,12,13,14]) (.seq (.cond (.t 14) (.skip) (.exit 0)) (.seq (.block 1 (.seq (rn [jj 15 (.indexA true 3 4 (.t 12) (.t 13)),jj 6 (.alloc [zN,zN,eN,sN]),st 4 6 15] [3,4,6,12,13]) (.seq (rn [la 16 4 6,cl 17 32 [16]] [3,4,12,13,17]) (.block 2 (.range (.t 17) [18] F15a0 F15b0))))) (rn [bk 46 .add 13 1,mv 13 46] [3,4,12,13]))))
def F15l0:PC:=F15l0x
theorem qcq:run C q F15l0 fr σ = run C q F15l0x fr σ := rfl
theorem qbo:F15a0.flat=true:=rfl
theorem qbp:F15b0.flat=true:=rfl
def F15:PFun:=⟨1,[.tmp 2],.seq (rn [bx 1 0,jj 2 (.mov (.c (.slice none 0 0)))] [1]) (.seq (rn [jj 3 (.alloc [sN])] [1,3]) (.seq (rn [jj 10 (.mkmap),jj 4 (.alloc [(.lit (.map none))]),st 1 4 10] [1,3,4]) (.seq (.seq (rn [fa 11 0 1,la 12 12 11,mx 13 (kk 0)] [3,4,12,13]) (.block 0 (.loop F15l0))) (.seq (rn [l1 47 3,mv 2 47] [2]) (.ret))))),false,false,false⟩
def F26:PFun:=⟨0,[.cell 0 true 1],.seq (rn [jj 0 (.alloc [(.lit (.map none))])] [0]) (.seq (rn [jj 4 (.build [zN,zN] [(0,1,(kk 1)),(1,1,(kk 1))]),jj 5 (.build [zN,zN] [(0,1,(kk 1)),(1,1,(kk 2))]),jj 6 (.build [zN,zN] [(0,1,(kk 2)),(1,1,(kk 2))]),jj 1 (.alloc [zN,zN]),jj 2 (.alloc [zN,zN]),jj 3 (.alloc [zN,zN]),st 2 1 4,st 2 2 5,st 2 3 6] [0,1,2,3]) (.seq (rn [jj 7 (.mkmap),la 8 2 1,jn (.mapset .s (.t 7) (.c (.string ⟨#[43]⟩)) (.t 8)),la 9 2 1,jn (.mapset .s (.t 7) (.c (.string ⟨#[45]⟩)) (.t 9)),la 10 2 1,jn (.mapset .s (.t 7) (.c (.string ⟨#[42]⟩)) (.t 10)),la 11 2 1,jn (.mapset .s (.t 7) (.c (.string ⟨#[47]⟩)) (.t 11)),la 12 2 2,jn (.mapset .s (.t 7) (.c (.string ⟨#[60]⟩)) (.t 12)),la 13 2 2,jn (.mapset .s (.t 7) (.c (.string ⟨#[60,61]⟩)) (.t 13)),la 14 2 2,jn (.mapset .s (.t 7) (.c (.string ⟨#[62]⟩)) (.t 14)),la 15 2 2,jn (.mapset .s (.t 7) (.c (.string ⟨#[62,61]⟩)) (.t 15)),la 16 2 2,jn (.mapset .s (.t 7) (.c (.string ⟨#[61,61]⟩)) (.t 16)),la 17 2 2,jn (.mapset .s (.t 7) (.c (.string ⟨#[33,61]⟩)) (.t 17)),la 18 2 3,jn (.mapset .s (.t 7) (.c (.string ⟨#[38,38]⟩)) (.t 18)),la 19 2 3,jn (.mapset .s (.t 7) (.c (.string ⟨#[124,124]⟩)) (.t 19)),mv 20 7,jj 21 (.build [(.lit (.map none))] [(0,1,(.t 20))]),st 1 0 21] [0]) (.ret))),false,false,false⟩
def F27:PFun:=⟨2,[.tmp 4],.seq (rn [bx 2 0,bx 3 1,mx 4 (kk 0)] [2,3]) (.seq (rn [la 11 4 3,cl 12 35 [11],mv 10 12,ex 13 10 0,ex 14 10 1,jj 5 (.alloc [zN,zN,eN,sN]),jj 6 (.alloc [zN,zN,eN,sN]),st 4 5 13,st 4 6 14] [2,3,5,6]) (.seq (.seq (rn [fa 15 0 3,l1 16 15] [2,3,5,6,16]) (.block 0 (.seq (.block 5 (.seq (.block 4 (.seq (.block 3 (.seq (.block 2 (.seq (.block 1 (.seq (.seq (.seq (rn [bk 18 .eql 16 11,mv 17 18] [2,3,5,6,16,17]) (.cond (.t 17) (.exit 1) (.skip))) (.seq (.seq (.seq (rn [bk 20 .eql 16 8,mv 19 20] [2,3,5,6,16,19]) (.cond (.t 19) (.skip) (.seq (rn [bk 21 .eql 16 10,mv 19 21] [2,3,5,6,16,19]) (.cond (.t 19) (.skip) (rn [bk 22 .eql 16 12,mv 19 22] [2,3,5,6,16,19]))))) (.cond (.t 19) (.exit 2) (.skip))) (.seq (.seq (rn [bk 24 .eql 16 9,mv 23 24] [2,3,5,6,16,23]) (.cond (.t 23) (.exit 3) (.skip))) (.seq (.seq (rn [bk 26 .eql 16 13,mv 25 26] [2,3,5,6,16,25]) (.cond (.t 25) (.exit 4) (.skip))) (.seq (rn [bk 28 .eql 16 14,mv 27 28] [2,3,5,6,27]) (.cond (.t 27) (.exit 5) (.skip))))))) (.exit 0))) (.seq (rn [la 29 1 2,la 30 4 5,cl 31 27 [29,30],bk 32 .neq 31 1] [32]) (.cond (.t 32) (.seq (rn [mx 4 (kk 0)] [4]) (.ret)) (.skip))))) (.seq (.seq (rn [mx 4 (kk 1)] [4]) (.ret)) (.exit 0)))) (.seq (.seq (rn [mx 4 (kk 2)] [4]) (.ret)) (.exit 0)))) (.seq (.seq (rn [mx 7 (kk 2)] [2,3,5,7]) (.seq (.seq (rn [fa 33 2 3,l1 34 33,jj 35 (.bin .eql (.t 34) (.c (.string ⟨#[45]⟩)))] [2,5,7,35]) (.cond (.t 35) (rn [mx 7 (kk 1)] [2,5,7]) (.skip))) (.seq (rn [la 36 1 2,la 37 4 5,cl 38 27 [36,37],mv 39 7,bn 40 .eql 38 39] [7,40]) (.cond (.t 40) (.seq (rn [mv 41 7,mv 4 41] [4]) (.ret)) (.skip))))) (.exit 0)))) (.seq (.seq (rn [fa 43 0 2,l1 44 43,fa 45 2 3,l1 46 45,jj 47 (.lookup .s (.agg [zN,zN]) (.t 44) (.t 46) true),mv 42 47,ex 48 42 0,ex 49 42 1,jj 8 (.alloc [zN,zN]),st 2 8 48,mv 9 49] [2,5,6,8,9]) (.seq (.region (some []) [mv 50 9,mv 51 50,jt 52 51 (.load true 1 (.t 2)),jt 53 51 (.load true 4 (.t 5)),jt 54 51 (.call 27 [(.t 52),(.t 53)]),jt 55 51 (.fieldAddr 0 (.t 8)),⟨some 56,.load false 1 (.t 55),some (51,true),[4]⟩,jt 57 51 (.bin .eql (.t 54) (.t 56)),jj 58 (.pick (.t 51) (.t 57) kF),mv 59 58,jt 60 59 (.load true 1 (.t 2)),jt 61 59 (.load true 4 (.t 6)),jt 62 59 (.call 27 [(.t 60),(.t 61)]),jt 63 59 (.fieldAddr 0 (.t 8)),⟨some 64,.load false 1 (.t 63),some (59,true),[12]⟩,jt 65 59 (.bin .eql (.t 62) (.t 64)),jj 66 (.pick (.t 59) (.t 65) kF)] [8,66]) (.cond (.t 66) (.seq (rn [fa 67 1 8,l1 68 67,mv 4 68] [4]) (.ret)) (.skip)))) (.exit 0))))) (.seq (rn [mx 4 (kk 0)] [4]) (.ret)))),false,false,false⟩
def F30:PFun:=⟨2,[.tmp 4],.seq (rn [bx 2 0,bx 3 1,mx 4 kF] [2,3]) (.seq (rn [la 8 4 3,cl 9 35 [8],mv 7 9,ex 10 7 0,ex 11 7 1,jj 5 (.alloc [zN,zN,eN,sN]),jj 6 (.alloc [zN,zN,eN,sN]),st 4 5 10,st 4 6 11] [2,3,5,6]) (.seq (.seq (rn [fa 12 0 3,l1 13 12] [2,3,5,6,13]) (.block 0 (.seq (.block 6 (.seq (.block 5 (.seq (.block 4 (.seq (.block 3 (.seq (.block 2 (.seq (.block 1 (.seq (.seq (.seq (rn [bk 15 .eql 13 1,mv 14 15] [2,3,5,6,13,14]) (.cond (.t 14) (.exit 1) (.skip))) (.seq (.seq (rn [bk 17 .eql 13 2,mv 16 17] [2,3,5,6,13,16]) (.cond (.t 16) (.exit 2) (.skip))) (.seq (.seq (rn [bk 19 .eql 13 5,mv 18 19] [2,3,5,6,13,18]) (.cond (.t 18) (.exit 3) (.skip))) (.seq (.seq (.seq (rn [bk 21 .eql 13 3,mv 20 21] [2,3,5,13,20]) (.cond (.t 20) (.skip) (rn [bk 22 .eql 13 4,mv 20 22] [2,3,5,13,20]))) (.cond (.t 20) (.exit 4) (.skip))) (.seq (.seq (rn [bk 24 .eql 13 6,mv 23 24] [2,3,13,23]) (.cond (.t 23) (.exit 5) (.skip))) (.seq (rn [bk 26 .eql 13 7,mv 25 26] [2,3,25]) (.cond (.t 25) (.exit 6) (.skip)))))))) (.exit 0))) (.seq (.seq (rn [la 27 1 2,la 28 4 5,cl 29 27 [27,28],bk 30 .eql 29 1,mv 4 30] [4]) (.ret)) (.exit 0)))) (.seq (rn [fa 31 2 3,l1 32 31,jj 33 (.bin .eql (.t 32) (.c (.string ⟨#[104,105,116]⟩))),mv 34 33,jf 35 34 (.fieldAddr 2 (.t 3)),jf 36 34 (.load false 1 (.t 35)),jf 37 34 (.bin .eql (.t 36) (.c (.string ⟨#[115,116,105,108,108]⟩))),jj 38 (.pick (.t 34) kT (.t 37))] [2,5,6,38]) (.cond (.t 38) (.seq (rn [mx 4 kF] [4]) (.ret)) (.skip))))) (.seq (.seq (rn [la 39 1 2,la 40 4 5,cl 41 27 [39,40],bk 42 .eql 41 1,mv 43 42,jt 44 43 (.load true 1 (.t 2)),jt 45 43 (.load true 4 (.t 6)),jt 46 43 (.call 27 [(.t 44),(.t 45)]),jt 47 43 (.bin .eql (.t 46) (kk 1)),jj 48 (.pick (.t 43) (.t 47) kF),mv 4 48] [4]) (.ret)) (.exit 0)))) (.seq (.seq (.seq (rn [la 49 1 2,la 50 4 5,cl 51 27 [49,50],bk 52 .neq 51 2] [2,3,52]) (.cond (.t 52) (.seq (rn [mx 4 kF] [4]) (.ret)) (.skip))) (.seq (.region (some []) [la 53 1 2,fa 54 3 3,l1 55 54,jj 56 (.slice 4 (.t 55) (some (kk 1)) none),cl 57 37 [53,56],mv 4 57] [4] [4]) (.ret))) (.exit 0)))) (.seq (.seq (rn [mx 4 kT] [4]) (.ret)) (.exit 0)))) (.seq (.seq (rn [la 58 1 2,fa 59 3 3,l1 60 59,cl 61 37 [58,60],mv 4 61] [4]) (.ret)) (.exit 0))))) (.seq (rn [mx 4 kF] [4]) (.ret)))),false,false,false⟩
def F32:PFun:=⟨1,[.tmp 2],.seq (rn [bx 1 0,jj 2 (.mov (.c .nilFunc))] [1]) (.seq (rn [jj 3 (.mkfn 38 [] [(.t 1)]),mv 2 3] [2]) (.ret)),false,false,false⟩
def F35:PFun:=⟨1,[.cell 2 true 4,.cell 3 true 4],.seq (rn [bx 1 0,jj 2 (.alloc [zN,zN,eN,sN]),jj 3 (.alloc [zN,zN,eN,sN])] [1,2,3]) (.seq (.seq (rn [fa 4 3 1,l1 5 4,ls 6 5,bk 7 .gtr 6 0] [1,2,3,7]) (.cond (.t 7) (rn [fa 8 3 1,l1 9 8,jj 10 (.indexAddr 4 (.t 9) (kk 0)),la 11 4 10,st 4 2 11] [1,2,3]) (.skip))) (.seq (.seq (rn [fa 12 3 1,l1 13 12,ls 14 13,bk 15 .gtr 14 1] [1,2,3,15]) (.cond (.t 15) (rn [fa 16 3 1,l1 17 16,jj 18 (.indexAddr 4 (.t 17) (kk 1)),la 19 4 18,st 4 3 19] [2,3]) (.skip))) (.seq (.region (some []) [la 20 4 2,⟨some 21,.load true 4 (.t 3),none,[2]⟩,st 4 2 20,st 4 3 21] [2,3]) (.ret)))),false,false,false⟩
@[simp] def F37l0x:PC:=(.seq (rn [bn 10 .lss 9 8] [2,7,8,9,10]) (.seq (.cond (.t 10) (.skip) (.exit 0)) (.seq (.block 1 (.seq (rn [jj 11 (.indexAddr 4 (.t 7) (.t 9)),la 12 4 11,jj 6 (.alloc [zN,zN,eN,sN]),st 4 6 12] [2,6,7,8,9]) (.seq (rn [la 13 1 2,la 14 4 6,cl 15 30 [13,14],jj 16 (.un .not (.t 15))] [2,7,8,9,16]) (.cond (.t 16) (.seq (rn [mx 4 kF] [4]) (.ret)) (.skip))))) (rn [bk 17 .add 9 1,mv 9 17] [2,7,8,9]))))
def F37l0:PC:=F37l0x
theorem qh9:run C q F37l0 fr σ = run C q F37l0x fr σ := rfl
def F37:PFun:=⟨2,[.tmp 4],.seq (rn [bx 2 0,mx 4 kF] [1,2]) (.seq (.seq (rn [mv 7 1,ls 8 7,mx 9 (kk 0)] [2,7,8,9]) (.block 0 (.loop F37l0))) (.seq (rn [mx 4 kT] [4]) (.ret))),false,false,false⟩
def F38:PFun:=⟨2,[],rn [la 3 4 1,mv 4 0,cl 5 39 [3,4]] [],false,false,false⟩
@[simp] def F39l0x:PC:=(.seq (rn [bn 15 .lss 14 13] [1,12,13,14,15]) (.seq (.cond (.t 15) (.skip) (.exit 0)) (.seq (.block 1 (.seq (rn [jj 16 (.indexAddr 4 (.t 12) (.t 14)),la 17 4 16,jj 6 (.alloc [zN,zN,eN,sN]),st 4 6 17] [1,6,12,13,14]) (.seq (rn [la 18 4 6,mv 19 1,cl 20 39 [18,19],jj 21 (.un .not (.t 20))] [1,12,13,14,21]) (.cond (.t 21) (.seq (rn [mx 4 kF] [4]) (.ret)) (.skip))))) (rn [bk 22 .add 14 1,mv 14 22] [1,12,13,14]))))
def F39l0:PC:=F39l0x
theorem qdD:run C q F39l0 fr σ = run C q F39l0x fr σ := rfl
def F39:PFun:=⟨2,[.tmp 4],.seq (rn [bx 2 0,mx 4 kF] [1,2]) (.seq (.seq (rn [mv 7 1,la 8 4 2,jj 9 (.callv (.t 7) [(.t 8)]),jj 10 (.un .not (.t 9))] [1,2,10]) (.cond (.t 10) (.seq (rn [mx 4 kF] [4]) (.ret)) (.skip))) (.seq (.seq (rn [fa 11 3 2,l1 12 11,ls 13 12,mx 14 (kk 0)] [1,12,13,14]) (.block 0 (.loop F39l0))) (.seq (rn [mx 4 kT] [4]) (.ret)))),false,false,false⟩
end Go.Pm.F
end
section
namespace Go.Pm.F
def qaL:Nat->Option PFun
 |15=>some F15
 |32=>some F32
 |38=>some F38
 |39=>some F39
 |_=>none
def qaN:Nat->Option PFun
 |12=>some F12
 |15=>some F15
 |26=>some F26
 |27=>some F27
 |30=>some F30
 |32=>some F32
 |35=>some F35
 |37=>some F37
 |38=>some F38
 |39=>some F39
 |_=>none
theorem qgD : ∀ f pf,qaL f=some pf->qaN f=some pf:=fun f pf h=>by
 unfold qaL at h
 split at h<;>first | (cases h; rfl) | cases h
end Go.Pm.F
end
namespace Go.Pm
section
open F
inductive NmSt:S->V->S->Nat->List ByteArray->Ob->Prop
 |a (l:List ByteArray) (x:Ob):NmSt [] (.dat (qof l)) [x] 0 l x
 |b (l:List ByteArray) (x:Ob) (m:Nat) (h:l≠[]):NmSt [] (.gsl (qaV l) l.length 1 0) [.tip m,x] 1 l x
abbrev qbF(k n:Int)(s:ByteArray)(d:D):Ob := .cells [.int k,.int n,.str s,.dat d]
end
section
open F
attribute [local simp] dkey
def mapM:Nat->List ByteArray->List (Value × V)
 |_,[]=>[]
 |i,s::l=>(.string s,.int i)::mapM (i+1) l
theorem qiR(s:ByteArray) : ∀ (l:List ByteArray) (i:Nat),(s∉l->qem .s (.string s) (mapM i l)=some none)/\(s∈l -> ∃ j:Nat,qem .s (.string s) (mapM i l)=some (some (.int j)))
 |[],i=>by simp[mapM,qem]
 |x::l,i=>by
  have ih:=qiR s l (i+1)
  by_cases h:s=x
  ·subst h
   exact⟨fun hn=>absurd (WQ ..) hn,fun _=>⟨i,by simp[mapM,qem,qcm]⟩⟩
  ·have hb:(s==x)=false:=by rw[qeq]; exact decide_eq_false h
   refine⟨fun hn=>?_,fun hm=>?_⟩
   ·have:=ih.1 (fun hm=>hn (WH _ hm))
    simp[mapM,qem,qcm,hb,this]
   ·obtain⟨j,hj⟩:=ih.2 ((Wu.1 hm).resolve_left h)
    exact⟨j,by simp[mapM,qem,qcm,hb,hj]⟩
theorem qkL(s:ByteArray) : ∀ (l:List ByteArray) (i:Nat),s∉l->qrP .s (.string s) (.int (i+l.length:Nat)) (mapM i l)=some (mapM i (l++[s]))
 |[],i,_=>by simp[mapM,qrP]
 |x::l,i,hn=>by
  have h:s≠x:=fun h=>hn (h ▸ WQ ..)
  have hb:(s==x)=false:=by rw[qeq]; exact decide_eq_false h
  have ih:=qkL s l (i+1) (fun hm=>hn (WH _ hm))
  rw[show i+1+l.length=i+(l.length+1) by omega] at ih
  simp only[Wf,Wi,mapM,qrP,qcm,hb,ih]
theorem qbb : ∀ (l:List ByteArray) (i:Nat),qhL (mapM i l)=[]
 |[],i=>rfl
 |x::l,i=>by simp[mapM,qbb l]
theorem qbG(r:Nat->Nat) : ∀ (l:List ByteArray) (i:Nat),qr9 r (mapM i l)=mapM i l
 |[],i=>rfl
 |x::l,i=>by simp[mapM,qbG r l]
attribute [local simp] qbb qbG dkey
abbrev lpO(r:D)(i:Int):Ob := .loop ⟨[(3,.ptr 1 0),(4,.ptr 2 0),(12,.dat r),(13,.int i),(17,.fn 38 [] [.ptr 3 0])],[18],F15a0,F15b0,0,none⟩
abbrev S0(r:D)(j:Int)(bx:Ob):S:=[lpO r j,.cells [.dat (.lit (.slice none 0 0))],.cells [.mp 4],bx,.map []]
abbrev S01(r:D)(j:Int)(bx:Ob)(l:List ByteArray):S:=[lpO r j,.cells [.gsl (qaV l) l.length 1 5],.cells [.mp 4],bx,.map (mapM 0 l),.tip l.length]
abbrev S1(r:D)(j:Int)(bx:Ob)(l:List ByteArray):S:=[lpO r j,.cells [.gsl (qaV l) l.length 1 4],.cells [.mp 5],bx,.tip l.length,.map (mapM 0 l)]
section
variable{k n k0 n0:Int}{s s0:ByteArray}{f f0:Bool}{ks:Fo}{d0:D}{r:D}{j:Int}{l:List ByteArray}
theorem qsY(h1:k≠1)(h2:k≠10):Z qaL (.round [.yld 0,nd k n s f ks] (S0 r j (qbF k0 n0 s0 d0)))=some (.ret (.bool true) (S0 r j (qbF k0 n0 s0 d0))):=by
 rw[qcN]
 simp[qby,qbo,qbp,qeW,qeX,qda,h1,h2,Lp.ended,Ex.isNormal,qbF,Wa]
theorem qsZ(h1:k≠1)(h2:k≠10):Z qaL (.round [.yld 0,nd k n s f ks] (S1 r j (qbF k0 n0 s0 d0) l))=some (.ret (.bool true) (S1 r j (qbF k0 n0 s0 d0) l)):=by
 rw[qcN]
 simp[qby,qbo,qbp,qeW,qeX,qda,h1,h2,Lp.ended,Ex.isNormal,qbF,Wa]
theorem qwh(hk:k=1\/k=10)(hs:s∈l):Z qaL (.round [.yld 0,nd k n s f ks] (S1 r j (qbF k0 n0 s0 d0) l))=some (.ret (.bool true) (S1 r j (qbF k0 n0 s0 d0) l)):=by
 obtain⟨q,hq⟩:=(qiR s l 0).2 hs
 rw[qcN]
 rcases hk with rfl|rfl<;>simp[qby,qbo,qbp,qeW,qeX,qda,hq,qd6,Lp.ended,Ex.isNormal,qbF,Wa]
theorem qwi(hk:k=1\/k=10):Z qaL (.round [.yld 0,nd k n s f ks] (S0 r j (qbF k0 n0 s0 d0)))=some (.ret (.bool true) (S01 r j (qbF k0 n0 s0 d0) [s])):=by
 rw[qcN]
 rcases hk with rfl|rfl<;>simp[qby,qbo,qbp,qeW,qeX,qda,qem,qrP,mapM,qog,qd6,Lp.ended,Ex.isNormal,qbF,Wa,V.len,qb1,qlv,qay]
theorem qwj(hk:k=1\/k=10)(hs:s∉l)(h0:l≠[])(hl:l.length<2^30):Z qaL (.round [.yld 0,nd k n s f ks] (S1 r j (qbF k0 n0 s0 d0) l))=some (.ret (.bool true) (S1 r j (qbF k0 n0 s0 d0) (l++[s]))):=by
 have hq:=(qiR s l 0).1 hs
 have hs':=qkL s l 0 hs
 rw[WO] at hs'
 have r2:qay (l.length+1) 16=true:=by simp[qay]; omega
 rw[qcN]
 rcases hk with rfl|rfl<;>simp[qby,qbo,qbp,qeW,qeX,qda,hq,hs',qtw,qog,qd6,Lp.ended,Ex.isNormal,qbF,Wa,V.len,qb1,qlv,r2]
theorem rd0 : ∃ S',Z qaL (.round [.yld 0,nd k n s f ks] (S0 r j (qbF k0 n0 s0 d0)))=some (.ret (.bool true) S') /\
  ((addAll [] (if k=1\/k=10 then [s] else [])=[]/\S'=S0 r j (qbF k0 n0 s0 d0))\/(addAll [] (if k=1\/k=10 then [s] else [])≠[]/\S'=S01 r j (qbF k0 n0 s0 d0) (addAll [] (if k=1\/k=10 then [s] else [])))):=by
 by_cases hk:k=1\/k=10
 ·simp only[if_pos hk]
  exact⟨_,qwi hk,.inr ⟨by simp[addAll,qru],rfl⟩⟩
 ·simp only[if_neg hk]
  exact⟨_,qsY (by omega) (by omega),.inl ⟨rfl,rfl⟩⟩
theorem rd1(h0:l≠[])(hl:l.length<2^30):Z qaL (.round [.yld 0,nd k n s f ks] (S1 r j (qbF k0 n0 s0 d0) l))=some (.ret (.bool true) (S1 r j (qbF k0 n0 s0 d0) (addAll l (if k=1\/k=10 then [s] else [])))):=by
 by_cases hk:k=1\/k=10
 ·simp only[if_pos hk,addAll,W8,List.foldl_nil,qru]
  by_cases hs:s∈l
  ·rw[if_pos hs]; exact qwh hk hs
  ·rw[if_neg hs]; exact qwj hk hs h0 hl
 ·simp only[if_neg hk]
  exact qsZ (by omega) (by omega)
end
end
section
open F
attribute [local simp] qbb qbG dkey
section
variable{k n k0 n0:Int}{s s0:ByteArray}{f fl:Bool}{ks:Fo}{d0 d:D}{r:D}{j:Int}{l l1 l2:List ByteArray}{i N:Nat}{cs c4:List D}
abbrev qpy(d:D)(N i:Nat):Fr:=[(1,.yld 0),(12,.dat d),(13,.int N),(14,.int i)]
abbrev qkA(d:D)(N:Nat)(S':S):Option Res:=some (.out (.exit 0) [(1,.yld 0),(12,.dat d),(13,.int N),(14,.int N),(15,.bool false)] S')
def Got(r:D)(j:Int)(bx:Ob)(l:List ByteArray)(S':S):Prop:=(l=[]/\S'=S0 r j bx)\/(l≠[]/\S'=S01 r j bx l)
theorem qvt(h1:V.one (.dat d)=true)(h2:V.cells (.dat d)=[.dat d]):Z qaL (.loop 5 F39l0 (qpy d N N) (S0 r j (qbF k0 n0 s0 d0)))=qkA d N (S0 r j (qbF k0 n0 s0 d0)):=by
 rw[qaa]
 simp[qac,qdD,qbF,Wa]
theorem qvu(h1:V.one (.dat d)=true)(h2:V.cells (.dat d)=[.dat d]):Z qaL (.loop 5 F39l0 (qpy d N N) (S01 r j (qbF k0 n0 s0 d0) l))=qkA d N (S01 r j (qbF k0 n0 s0 d0) l):=by
 rw[qaa]
 simp[qac,qdD,qbF,Wa]
theorem qvv(h1:V.one (.dat d)=true)(h2:V.cells (.dat d)=[.dat d]):Z qaL (.loop 6 F39l0 (qpy d N N) (S1 r j (qbF k0 n0 s0 d0) l))=qkA d N (S1 r j (qbF k0 n0 s0 d0) l):=by
 rw[qaa]
 simp[qac,qdD,qbF,Wa]
def qqi(r:D)(j:Int)(bx:Ob)(nv:V)(xs:List ByteArray):Prop:=
 (∃ S',Z qaL (.call 39 [nv,.yld 0] (S0 r j bx))=some (.ret (.bool true) S')/\Got r j bx (addAll [] xs) S') /\
 ∀ l,l≠[]->l.length+xs.length<2^29->Z qaL (.call 39 [nv,.yld 0] (S1 r j bx l))=some (.ret (.bool true) (S1 r j bx (addAll l xs)))
def qg2(r:D)(j:Int)(bx:Ob)(d:D)(N i:Nat)(xs:List ByteArray):Prop:=
 (∃ S',Z qaL (.loop 5 F39l0 (qpy d N i) (S0 r j bx))=qkA d N S'/\Got r j bx (addAll [] xs) S') /\
 (∀ l,l≠[]->l.length+xs.length<2^29->Z qaL (.loop 5 F39l0 (qpy d N i) (S01 r j bx l))=qkA d N (S01 r j bx (addAll l xs))) /\
 (∀ l,l≠[]->l.length+xs.length<2^29->Z qaL (.loop 6 F39l0 (qpy d N i) (S1 r j bx l))=qkA d N (S1 r j bx (addAll l xs)))
theorem qdb(xs:List ByteArray)(h:l≠[]):addAll l xs≠[]:=by
 have h1:=(qcC xs l).1
 intro he
 rw[he] at h1
 exact h (WL (Nat.le_zero.1 h1))
theorem qsB (hc:cs.drop (i*4) = .lit (.int .i64 k) :: .lit (.int .i64 n) :: .lit (.string s)::kd f ks.len ks.cells::c4) (hi:i<N) (hN:N<2^40) {xs ys:List ByteArray} (hx:xs.length+ys.length<2^28)
  (hw:qqi r j (qbF k0 n0 s0 d0) (nd k n s f ks) xs) (ih:qg2 r j (qbF k0 n0 s0 d0) (.sl cs N fl) N (i+1) ys):qg2 r j (qbF k0 n0 s0 d0) (.sl cs N fl) N i (xs++ys):=by
 have h4:=qzF hc
 have w1:=qai ((i:Int)+1) (by omega)
 have hi':(i:Int)<N:=by omega
 obtain⟨⟨S',hw0,hg⟩,hw1⟩:=hw
 obtain⟨⟨T,ha,hT⟩,hb,hc'⟩:=ih
 have hlen:=qcC xs []
 simp only[Wm,WO] at hlen
 refine⟨?_,fun l hl hb'=>?_,fun l hl hb'=>?_⟩
 ·rw[qcX]
  rcases hg with ⟨he,rfl⟩|⟨he,rfl⟩
  ·rw[he]
   refine⟨T,?_,hT⟩
   rw[qaa,<- ha]
   simp only[qbF,S0,S01] at hw0
   simp[qac,qdD,hi,hi',qae,h4,hw0,w1,V.len,qbF,Wa]
   exact qag (by simp[Wa])
  ·refine⟨_,?_,.inr ⟨qdb _ he,rfl⟩⟩
   have hb1:=hb (addAll [] xs) he (by omega)
   rw[qaa,<- hb1]
   simp only[qbF,S0,S01] at hw0
   simp[qac,qdD,hi,hi',qae,h4,hw0,w1,V.len,qbF,Wa]
   exact qag (by simp[Wa])
 ·rw[Wd] at hb'
  have hl2:=qcC xs l
  have hb1:=hb (addAll l xs) (qdb _ hl) (by omega)
  have hw2:=hw1 l hl (by omega)
  rw[qcX,qaa,<- hb1]
  simp only[qbF,S1] at hw2
  simp[qac,qdD,hi,hi',qae,h4,hw2,w1,V.len,qbF,Wa]
  exact qag (by simp[Wa])
 ·rw[Wd] at hb'
  have hl2:=qcC xs l
  have hb1:=hc' (addAll l xs) (qdb _ hl) (by omega)
  have hw2:=hw1 l hl (by omega)
  rw[qcX,qaa,<- hb1]
  simp only[qbF,S1] at hw2
  simp[qac,qdD,hi,hi',qae,h4,hw2,w1,V.len,qbF,Wa]
  exact qag (by simp[Wa])
theorem qny(hx:ks.vars.length<2^28)(h:qg2 r j (qbF k0 n0 s0 d0) (kd f ks.len ks.cells) ks.len 0 ks.vars):qqi r j (qbF k0 n0 s0 d0) (nd k n s f ks) ((if k=1\/k=10 then [s] else [])++ks.vars):=by
 obtain⟨⟨T,ha,hT⟩,hb,hc⟩:=h
 have h4:(if k=1\/k=10 then [s] else []).length<=1:=by split<;>simp
 refine⟨?_,fun l hl hb'=>?_⟩
 ·obtain⟨S',hr,hS⟩:=rd0 (k:=k) (n:=n) (s:=s) (f:=f) (ks:=ks) (r:=r) (j:=j) (k0:=k0) (n0:=n0) (s0:=s0) (d0:=d0)
  have hlen:=qcC (if k=1\/k=10 then [s] else []) []
  simp only[Wm,WO] at hlen
  rw[qcX]
  rcases hS with ⟨he,rfl⟩|⟨he,rfl⟩
  ·rw[he]
   refine⟨T,?_,hT⟩
   refine qab (pf:=F39) rfl rfl ?_
   have ha':=(qag (k:=5) (b:=F39l0) (fr:=qpy (kd f ks.len ks.cells) ks.len 0) (σ := S0 r j (qbF k0 n0 s0 d0)++[qbF k n s (kd f ks.len ks.cells)]) (by simp[qbF,Wa])).trans ha
   simp only[qbF,qpy,qkA,lpO,S0,S01,S1,Wi,Wc,show ((0:Nat):Int)=0 from rfl] at hr ha'
   rcases hT with ⟨hT,rfl⟩|⟨hT,rfl⟩<;>simp[F39,hr,ha',qbF,S0,S01,lpO,Wa]
  ·refine⟨S01 r j (qbF k0 n0 s0 d0) (addAll (addAll [] (if k=1\/k=10 then [s] else [])) ks.vars),?_,.inr ⟨qdb _ he,rfl⟩⟩
   generalize addAll [] (if k=1\/k=10 then [s] else [])=l at *
   have hb1:=hb l he (by omega)
   refine qab (pf:=F39) rfl rfl ?_
   have ha':=(qag (k:=5) (b:=F39l0) (fr:=qpy (kd f ks.len ks.cells) ks.len 0) (σ := [lpO r j,.cells [.gsl (qaV l) l.length 1 6],.cells [.mp 4],qbF k0 n0 s0 d0,.map (mapM 0 l),qbF k n s (kd f ks.len ks.cells),.tip l.length]) (by simp[qbF,Wa])).trans hb1
   simp only[qbF,qpy,qkA,lpO,S0,S01,S1,Wi,Wc,show ((0:Nat):Int)=0 from rfl] at hr ha'
   simp[F39,hr,ha',qbF,S0,S01,lpO,Wa]
 ·rw[Wd] at hb'
  have hl2:=qcC (if k=1\/k=10 then [s] else []) l
  have hr:=rd1 (k:=k) (n:=n) (s:=s) (f:=f) (ks:=ks) (r:=r) (j:=j) (k0:=k0) (n0:=n0) (s0:=s0) (d0:=d0) hl (by omega)
  have he:=qdb (if k=1\/k=10 then [s] else []) hl
  rw[qcX]
  generalize addAll l (if k=1\/k=10 then [s] else [])=l' at *
  have hc1:=hc l' he (by omega)
  refine qab (pf:=F39) rfl rfl ?_
  have ha':=(qag (k:=6) (b:=F39l0) (fr:=qpy (kd f ks.len ks.cells) ks.len 0) (σ := S1 r j (qbF k0 n0 s0 d0) l'++[qbF k n s (kd f ks.len ks.cells)]) (by simp[qbF,Wa])).trans hc1
  simp only[qbF,qpy,qkA,lpO,S0,S01,S1,Wi,Wc,show ((0:Nat):Int)=0 from rfl] at hr ha'
  simp[F39,hr,ha',qbF,S0,S01,lpO,Wa]
end
end
section
open F
attribute [local simp] qbb qbG dkey
theorem qf7{r:D}{j k0 n0:Int}{s0:ByteArray}{d0 d:D}{N:Nat}(h1:V.one (.dat d)=true)(h2:V.cells (.dat d)=[.dat d]):qg2 r j (qbF k0 n0 s0 d0) d N N []:=
 ⟨⟨_,qvt h1 h2,.inl ⟨rfl,rfl⟩⟩,fun _ _ _=>qvu h1 h2,fun _ _ _=>qvv h1 h2⟩
theorem qq2 {r:D} {j k0 n0:Int} {s0:ByteArray} {d0:D} : ∀ (a:Fo) (i:Nat) (cs:List D) (N:Nat) (fl:Bool),cs.drop (i*4)=a.cells->N=i+a.len->i+2*a.size<2^27 ->
  qg2 r j (qbF k0 n0 s0 d0) (.sl cs N fl) N i a.vars
 |.nil,i,cs,N,fl,hc,hN,hb=>by
  simp only[qbs,Yg] at hN
  subst hN
  exact qf7 rfl rfl
 |.cons k n s f ks rr,i,cs,N,fl,hc,hN,hb=>by
  simp only[qaC,qaR,qam] at hc hN hb
  have h1:=qbv rr
  have h2:=qh6 ks
  have h3:=qh6 rr
  have h4:(if k=1\/k=10 then [s] else []).length<=1:=by split<;>simp
  have hk:qg2 r j (qbF k0 n0 s0 d0) (kd f ks.len ks.cells) ks.len 0 ks.vars:=by
   cases hz:ks.len with
   |zero=>
    have hn:ks = .nil:=by cases ks<;>simp at hz; rfl
    subst hn
    exact qf7 (by simp) (by simp)
   |succ m=>
    rw[qkZ,<- hz]
    exact qq2 ks 0 ks.cells ks.len f rfl (by omega) (by omega)
  have e:(Fo.cons k n s f ks rr).vars=((if k=1\/k=10 then [s] else [])++ks.vars)++rr.vars:=by rw[Fo.vars,Wj]
  rw[e]
  exact qsB hc (by omega) (by omega) (by rw[Wd]; omega) (qny (by omega) hk) (qq2 rr (i+1) cs N fl (qcv hc) (by omega) (by omega))
theorem qq3{r:D}{j k0 n0:Int}{s0:ByteArray}{d0:D}(k n:Int)(s:ByteArray)(f:Bool)(ks:Fo)(hb:ks.size<2^25):qqi r j (qbF k0 n0 s0 d0) (nd k n s f ks) ((if k=1\/k=10 then [s] else [])++ks.vars):=by
 have h2:=qh6 ks
 refine qny (by omega) ?_
 cases hz:ks.len with
 |zero=>
  have hn:ks = .nil:=by cases ks<;>simp at hz; rfl
  subst hn
  exact qf7 (by simp) (by simp)
 |succ m=>
  rw[qkZ,<- hz]
  exact qq2 ks 0 ks.cells ks.len f rfl (by omega) (by omega)
abbrev qml(r:D)(i:Int):Ob := .loop ⟨[(3,.ptr 2 0),(4,.ptr 3 0),(12,.dat r),(13,.int i),(17,.fn 38 [] [.ptr 1 0])],[18],F15a0,F15b0,0,none⟩
abbrev T0(r:D)(j:Int)(bx:Ob):S:=[qml r j,bx,.cells [.dat (.lit (.slice none 0 0))],.cells [.mp 4],.map []]
abbrev T01(r:D)(j:Int)(bx:Ob)(l:List ByteArray):S:=[qml r j,bx,.cells [.gsl (qaV l) l.length 1 5],.cells [.mp 4],.map (mapM 0 l),.tip l.length]
abbrev T1(r:D)(j:Int)(bx:Ob)(l:List ByteArray):S:=[qml r j,bx,.cells [.gsl (qaV l) l.length 1 4],.cells [.mp 5],.tip l.length,.map (mapM 0 l)]
section
variable{r:D}{j:Int}{k n:Int}{s:ByteArray}{f:Bool}{ks:Fo}{xs:List ByteArray}
theorem qwE (h:qqi r j (qbF k n s (kd f ks.len ks.cells)) (nd k n s f ks) xs) : ∃ S',Z qaL (.call 38 [.yld 0,.ptr 1 0] (T0 r j (qbF k n s (kd f ks.len ks.cells))))=some (.ret (.tup []) S') /\
  ((addAll [] xs=[]/\S'=T0 r j (qbF k n s (kd f ks.len ks.cells)))\/(addAll [] xs≠[]/\S'=T01 r j (qbF k n s (kd f ks.len ks.cells)) (addAll [] xs))):=by
 obtain⟨⟨S',h1,hg⟩,-⟩:=h
 simp only[qbF,S0,lpO] at h1
 rcases hg with ⟨he,rfl⟩|⟨he,rfl⟩
 ·refine⟨_,?_,.inl ⟨he,rfl⟩⟩
  refine qab (pf:=F38) rfl rfl ?_
  simp[F38,h1,qbF,S0,lpO,Wa]
 ·refine⟨_,?_,.inr ⟨he,rfl⟩⟩
  refine qab (pf:=F38) rfl rfl ?_
  simp[F38,h1,qbF,S01,lpO,Wa]
theorem qzk(h:qqi r j (qbF k n s (kd f ks.len ks.cells)) (nd k n s f ks) xs){l:List ByteArray}(hl:l≠[])(hb:l.length+xs.length<2^29):Z qaL (.call 38 [.yld 0,.ptr 1 0] (T1 r j (qbF k n s (kd f ks.len ks.cells)) l))=some (.ret (.tup []) (T1 r j (qbF k n s (kd f ks.len ks.cells)) (addAll l xs))):=by
 have h1:=h.2 l hl hb
 simp only[qbF,S1,lpO] at h1
 refine qab (pf:=F38) rfl rfl ?_
 simp[F38,h1,qbF,S1,lpO,Wa]
theorem qq4:Z qaL (.call 32 [nd k n s f ks] [])=some (.ret (.fn 38 [] [.ptr 0 0]) [qbF k n s (kd f ks.len ks.cells)]):=by
 refine qab (pf:=F32) rfl rfl ?_
 simp[F32,qbF]
end
end
section
open F
attribute [local simp] qbb qbG dkey Ex.isPan
abbrev vfr(r:D)(i:Int):Fr:=[(3,.ptr 0 0),(4,.ptr 1 0),(12,.dat r),(13,.int i)]
abbrev U0:S:=[.cells [.dat (.lit (.slice none 0 0))],.cells [.mp 2],.map []]
abbrev U1(l:List ByteArray):S:=[.cells [.gsl (qaV l) l.length 1 2],.cells [.mp 3],.tip l.length,.map (mapM 0 l)]
section
variable{a b c:Nd}
theorem qtA(hb:a.ks.size<2^25):Z qaL (.loop 0 F15l0 (vfr (ru a b c) 0) U0)=if addAll [] a.vars=[] then Z qaL (.loop 0 F15l0 (vfr (ru a b c) 1) U0) else Z qaL (.loop 0 F15l0 (vfr (ru a b c) 1) (U1 (addAll [] a.vars))):=by
 have hv:=qq3 (r:=ru a b c) (j:=0) (k0:=a.k) (n0:=a.n) (s0:=a.s) (d0:=a.d) a.k a.n a.s a.f a.ks hb
 obtain⟨S',h1,h2⟩:=qwE hv
 have h3:=qq4 (k:=a.k) (n:=a.n) (s:=a.s) (f:=a.f) (ks:=a.ks)
 have w1:=qai 1 (by omega)
 rw[show (if a.k=1\/a.k=10 then [a.s] else [])++a.ks.vars=a.vars from rfl] at h2
 simp only[qbF,T0,qml,ru,Nd.d] at h1 h3
 conv=>lhs; rw[qaa]
 rcases h2 with ⟨he,rfl⟩|⟨he,rfl⟩
 ·rw[if_pos he]
  simp[qac,qcq,h3,h1,w1,qbo,qbp,qbF,T0,qml,Wa]
  refine qag ?_
  simp[Wa]
 ·rw[if_neg he]
  simp[qac,qcq,h3,h1,w1,qbo,qbp,qbF,T01,qml,Wa]
  refine qag ?_
  simp[Wa]
theorem qtB(hb:b.ks.size<2^25):Z qaL (.loop 0 F15l0 (vfr (ru a b c) 1) U0)=if addAll [] b.vars=[] then Z qaL (.loop 0 F15l0 (vfr (ru a b c) 2) U0) else Z qaL (.loop 0 F15l0 (vfr (ru a b c) 2) (U1 (addAll [] b.vars))):=by
 have hv:=qq3 (r:=ru a b c) (j:=1) (k0:=b.k) (n0:=b.n) (s0:=b.s) (d0:=b.d) b.k b.n b.s b.f b.ks hb
 obtain⟨S',h1,h2⟩:=qwE hv
 have h3:=qq4 (k:=b.k) (n:=b.n) (s:=b.s) (f:=b.f) (ks:=b.ks)
 have w1:=qai 2 (by omega)
 rw[show (if b.k=1\/b.k=10 then [b.s] else [])++b.ks.vars=b.vars from rfl] at h2
 simp only[qbF,T0,qml,ru,Nd.d] at h1 h3
 conv=>lhs; rw[qaa]
 rcases h2 with ⟨he,rfl⟩|⟨he,rfl⟩
 ·rw[if_pos he]
  simp[qac,qcq,h3,h1,w1,qbo,qbp,qbF,T0,qml,Wa]
  refine qag ?_
  simp[Wa]
 ·rw[if_neg he]
  simp[qac,qcq,h3,h1,w1,qbo,qbp,qbF,T01,qml,Wa]
  refine qag ?_
  simp[Wa]
theorem qtC{l:List ByteArray}(hb:b.ks.size<2^25)(hl:l≠[])(hl':l.length<2^27):Z qaL (.loop 0 F15l0 (vfr (ru a b c) 1) (U1 l))=Z qaL (.loop 0 F15l0 (vfr (ru a b c) 2) (U1 (addAll l b.vars))):=by
 have hv:=qq3 (r:=ru a b c) (j:=1) (k0:=b.k) (n0:=b.n) (s0:=b.s) (d0:=b.d) b.k b.n b.s b.f b.ks hb
 have hx:=qeL b
 have h1:=qzk hv hl (by rw[show (if b.k=1\/b.k=10 then [b.s] else [])++b.ks.vars=b.vars from rfl]; omega)
 rw[show (if b.k=1\/b.k=10 then [b.s] else [])++b.ks.vars=b.vars from rfl] at h1
 have h3:=qq4 (k:=b.k) (n:=b.n) (s:=b.s) (f:=b.f) (ks:=b.ks)
 have w1:=qai 2 (by omega)
 simp only[qbF,T1,qml,ru,Nd.d] at h1 h3
 conv=>lhs; rw[qaa]
 simp[qac,qcq,h3,h1,w1,qbo,qbp,qbF,T1,qml,Wa]
 refine qag ?_
 simp[Wa]
theorem qtD(hb:c.ks.size<2^25):Z qaL (.loop 0 F15l0 (vfr (ru a b c) 2) U0)=if addAll [] c.vars=[] then Z qaL (.loop 0 F15l0 (vfr (ru a b c) 3) U0) else Z qaL (.loop 0 F15l0 (vfr (ru a b c) 3) (U1 (addAll [] c.vars))):=by
 have hv:=qq3 (r:=ru a b c) (j:=2) (k0:=c.k) (n0:=c.n) (s0:=c.s) (d0:=c.d) c.k c.n c.s c.f c.ks hb
 obtain⟨S',h1,h2⟩:=qwE hv
 have h3:=qq4 (k:=c.k) (n:=c.n) (s:=c.s) (f:=c.f) (ks:=c.ks)
 have w1:=qai 3 (by omega)
 rw[show (if c.k=1\/c.k=10 then [c.s] else [])++c.ks.vars=c.vars from rfl] at h2
 simp only[qbF,T0,qml,ru,Nd.d] at h1 h3
 conv=>lhs; rw[qaa]
 rcases h2 with ⟨he,rfl⟩|⟨he,rfl⟩
 ·rw[if_pos he]
  simp[qac,qcq,h3,h1,w1,qbo,qbp,qbF,T0,qml,Wa]
  refine qag ?_
  simp[Wa]
 ·rw[if_neg he]
  simp[qac,qcq,h3,h1,w1,qbo,qbp,qbF,T01,qml,Wa]
  refine qag ?_
  simp[Wa]
theorem qok{l:List ByteArray}(hb:c.ks.size<2^25)(hl:l≠[])(hl':l.length<2^27):Z qaL (.loop 0 F15l0 (vfr (ru a b c) 2) (U1 l))=Z qaL (.loop 0 F15l0 (vfr (ru a b c) 3) (U1 (addAll l c.vars))):=by
 have hv:=qq3 (r:=ru a b c) (j:=2) (k0:=c.k) (n0:=c.n) (s0:=c.s) (d0:=c.d) c.k c.n c.s c.f c.ks hb
 have hx:=qeL c
 have h1:=qzk hv hl (by rw[show (if c.k=1\/c.k=10 then [c.s] else [])++c.ks.vars=c.vars from rfl]; omega)
 rw[show (if c.k=1\/c.k=10 then [c.s] else [])++c.ks.vars=c.vars from rfl] at h1
 have h3:=qq4 (k:=c.k) (n:=c.n) (s:=c.s) (f:=c.f) (ks:=c.ks)
 have w1:=qai 3 (by omega)
 simp only[qbF,T1,qml,ru,Nd.d] at h1 h3
 conv=>lhs; rw[qaa]
 simp[qac,qcq,h3,h1,w1,qbo,qbp,qbF,T1,qml,Wa]
 refine qag ?_
 simp[Wa]
theorem qzJ{r:D}:Z qaL (.loop 0 F15l0 [(3,.ptr 0 0),(4,.ptr 1 0),(12,.dat r),(13,.int 3)] U0)=some (.out (.exit 0) [(3,.ptr 0 0),(4,.ptr 1 0),(12,.dat r),(13,.int 3),(14,.bool false)] U0):=by
 rw[qaa]
 simp[qac,qcq]
theorem qrB{r:D}{l:List ByteArray}:Z qaL (.loop 0 F15l0 [(3,.ptr 0 0),(4,.ptr 1 0),(12,.dat r),(13,.int 3)] (U1 l))=some (.out (.exit 0) [(3,.ptr 0 0),(4,.ptr 1 0),(12,.dat r),(13,.int 3),(14,.bool false)] (U1 l)):=by
 rw[qaa]
 simp[qac,qcq]
theorem qrC (ha:a.ks.size<2^25) (hb:b.ks.size<2^25) (hc:c.ks.size<2^25):Z qaL (.loop 0 F15l0 (vfr (ru a b c) 0) U0) =
  some (.out (.exit 0) [(3,.ptr 0 0),(4,.ptr 1 0),(12,.dat (ru a b c)),(13,.int 3),(14,.bool false)] (if rvars a b c=[] then U0 else U1 (rvars a b c))):=by
 have la:=qeL a
 have lb:=qeL b
 have l1:=qcC a.vars []
 have l2:=qcC b.vars (addAll [] a.vars)
 have e:rvars a b c=addAll (addAll (addAll [] a.vars) b.vars) c.vars:=by unfold rvars; rw[qcX,qcX]
 simp only[Wm] at l1
 rw[e,qtA ha]
 by_cases h1:addAll [] a.vars=[]
 ·rw[if_pos h1,h1,qtB hb]
  by_cases h2:addAll [] b.vars=[]
  ·rw[if_pos h2,h2,qtD hc]
   by_cases h3:addAll [] c.vars=[]
   ·rw[if_pos h3,if_pos h3]; exact qzJ
   ·rw[if_neg h3,if_neg h3]; exact qrB
  ·rw[h1] at l2
   rw[if_neg h2,qok hc h2 (by simp only[Wm] at l2; omega),if_neg (qdb _ h2)]
   exact qrB
 ·have n2:addAll (addAll [] a.vars) b.vars≠[]:=qdb _ h1
  rw[if_neg h1,qtC hb h1 (by omega),qok hc n2 (by omega),if_neg (qdb _ n2)]
  exact qrB
theorem qi4(ha:a.ks.size<2^25)(hb:b.ks.size<2^25)(hc:c.ks.size<2^25):Z qaL (.call 15 [.dat (ru a b c)] [])=some (.ret (.dat (qof (rvars a b c))) []):=by
 have h:=qrC ha hb hc
 refine qab (pf:=F15) rfl rfl ?_
 have h':=(qag (k:=0) (b:=F15l0) (fr:=[(3,.ptr 1 0),(4,.ptr 3 0),(12,.dat (ru a b c)),(13,.int 0)]) (σ := [.cells [.int a.k,.int a.n,.str a.s,.dat a.d,.int b.k,.int b.n,.str b.s,.dat b.d,.int c.k,.int c.n,.str c.s,.dat c.d],.cells [.dat (.lit (.slice none 0 0))],.map [],.cells [.mp 2]]) (by simp[vfr,U0])).trans h
 simp only[ru,Nd.d] at h'
 by_cases hn:rvars a b c=[]
 ·rw[if_pos hn] at h'
  rw[hn]
  simp[F15,h',qof]
 ·rw[if_neg hn] at h'
  rw[qw5 hn]
  simp[F15,h']
end
end
end Go.Pm
section
namespace Go.Pm.F
variable(C:Task->Option Res)(q:Nat)(fr:Fr)(σ : S)
def F17:PFun:=⟨2,[.tmp 4],.seq (rn [mx 4 (kk 0)] [0,1]) (.seq (.seq (rn [mv 5 0,bk 6 .lss 5 0] [0,1,6]) (.cond (.t 6) (rn [mv 7 0,bk 8 .add 7 1,jj 9 (.un .neg (.t 8)),mv 0 9] [0,1]) (.skip))) (.seq (rn [mv 10 0,mv 11 1,bn 12 .rem 10 11,mv 4 12] [4]) (.ret))),false,false,false⟩
@[simp] def F20l0x:PC:=(.seq (.seq (rn [mv 10 5,bk 11 .neq 10 0] [0,3,4,5,11]) (.cond (.t 11) (.skip) (.exit 0))) (.seq (.block 1 (.seq (rn [mv 14 5,bk 15 .rem 14 10,mv 6 15] [0,3,4,5,6]) (.seq (.seq (rn [mv 16 6,bk 17 .lss 16 0] [0,3,4,5,6,17]) (.cond (.t 17) (rn [mv 18 6,jj 19 (.un .neg (.t 18)),mv 6 19] [0,3,4,5,6]) (.skip))) (rn [mv 20 3,mv 21 6,mv 22 6,bk 23 .add 22 1,jj 24 (.sliceS (.t 20) (some (.t 21)) (some (.t 23))),mv 25 4,bn 26 .add 24 25,mv 4 26] [0,3,4,5])))) (rn [mv 12 5,bk 13 .quo 12 10,mv 5 13] [0,3,4,5])))
def F20l0:PC:=F20l0x
theorem ql7:run C q F20l0 fr σ = run C q F20l0x fr σ := rfl
def F20:PFun:=⟨1,[.tmp 2],.seq (rn [jj 2 (.mov (.c (.string ⟨#[]⟩)))] [0]) (.seq (.seq (rn [mv 7 0,bk 8 .eql 7 0] [0,8]) (.cond (.t 8) (.seq (rn [jj 2 (.mov (.c (.string ⟨#[48]⟩)))] [2]) (.ret)) (.skip))) (.seq (rn [jj 3 (.mov (.c (.string ⟨#[48,49,50,51,52,53,54,55,56,57]⟩)))] [0,3]) (.seq (rn [jj 4 (.mov (.c (.string ⟨#[]⟩)))] [0,3,4]) (.seq (.seq (rn [mv 9 0,mv 5 9] [0,3,4,5]) (.block 0 (.loop F20l0))) (.seq (.seq (rn [mv 27 0,bk 28 .lss 27 0] [4,28]) (.cond (.t 28) (.seq (rn [mv 29 4,jj 30 (.bin .add (.c (.string ⟨#[45]⟩)) (.t 29)),mv 2 30] [2]) (.ret)) (.skip))) (.seq (rn [mv 31 4,mv 2 31] [2]) (.ret))))))),false,false,false⟩
def F23:PFun:=⟨2,[.tmp 4],.seq (rn [jj 4 (.mov (.c (.slice none 0 0)))] [0,1]) (.seq (rn [jj 5 (.mov (.c (.slice none 0 0)))] [0,1,5]) (.seq (rn [mv 6 5,mv 7 0,mv 8 0,ls 9 8,mv 10 1,jj 11 (.min [(.t 9),(.t 10)]),jj 12 (.slice 1 (.t 7) none (some (.t 11))),jj 13 (.append 1 8 (.t 6) (.t 12)),mv 4 13] [4]) (.ret))),false,false,false⟩
@[simp] def F58l0x:PC:=(.seq (.seq (rn [mv 11 5,mv 12 0,ls 13 12,bn 14 .lss 11 13] [0,1,5,14]) (.cond (.t 14) (.skip) (.exit 0))) (.seq (.block 1 (.seq (.region (some []) [mv 17 0,mv 18 5,jj 19 (.indexAddr 1 (.t 17) (.t 18)),l1 20 19,mv 21 1,mv 22 5,jj 23 (.indexAddr 1 (.t 21) (.t 22)),l1 24 23,bn 25 .neq 20 24] [0,1,5,25]) (.cond (.t 25) (.seq (rn [mx 4 kF] [4]) (.ret)) (.skip)))) (rn [mv 15 5,bk 16 .add 15 1,mv 5 16] [0,1,5])))
def F58l0:PC:=F58l0x
def F58:PFun:=⟨2,[.tmp 4],.seq (rn [mx 4 kF] [0,1]) (.seq (.seq (rn [mv 6 0,ls 7 6,mv 8 1,ls 9 8,bn 10 .neq 7 9] [0,1,10]) (.cond (.t 10) (.seq (rn [mx 4 kF] [4]) (.ret)) (.skip))) (.seq (.seq (rn [mx 5 (kk 0)] [0,1,5]) (.block 0 (.loop F58l0))) (.seq (rn [mx 4 kT] [4]) (.ret)))),false,false,false⟩
end Go.Pm.F
end
section
namespace Go.Pm.F
variable(C:Task->Option Res)(q:Nat)(fr:Fr)(σ : S)
@[simp] def F123l0x:PC:=(.seq (.seq (rn [mv 10 5,bk 11 .lss 10 3] [2,3,4,5,11]) (.cond (.t 11) (.skip) (.exit 0))) (.seq (.block 1 (.seq (rn [mv 14 3,jj 15 (.call 136 [(.t 14),(kk 4)]),bk 16 .gtr 15 0] [2,3,4,5,16]) (.cond (.t 16) (rn [mv 17 5,mv 18 3,jj 19 (.call 137 [(.t 18),(kk 2),(kk 3)]),fa 20 0 4,jj 21 (.indexAddrA 3 4 (.t 20) (.t 17)),st 4 21 19] [2,3,4,5]) (.skip)))) (rn [mv 12 5,bk 13 .add 12 1,mv 5 13] [2,3,4,5])))
def F123l0:PC:=F123l0x
theorem qcQ:run C q F123l0 fr σ = run C q F123l0x fr σ := rfl
def F123:PFun:=⟨1,[.cell 2 true 12],.seq (rn [jj 2 (.alloc [zN,zN,eN,sN,zN,zN,eN,sN,zN,zN,eN,sN])] [0,2]) (.seq (rn [mv 6 0,jj 7 (.call 23 [(.t 6),(kk 60)]),jj 8 (.build [sN,zN] [(0,1,(.t 7))]),bx 9 8,mv 3 9] [2,3]) (.seq (rn [jj 4 (.alloc [zN,zN,eN,sN,zN,zN,eN,sN,zN,zN,eN,sN])] [2,3,4]) (.seq (.seq (rn [mx 5 (kk 0)] [2,3,4,5]) (.block 0 (.loop F123l0))) (.seq (rn [la 22 12 4,st 12 2 22] [2]) (.ret))))),false,false,false⟩
def F136:PFun:=⟨2,[.tmp 4],.seq (rn [mx 4 (kk 0)] [0,1]) (.seq (.seq (.region (some []) [mv 6 0,nc 7 6,fa 8 1 7,l1 9 8,mv 10 0,nc 11 10,fa 12 0 11,l1 13 12,ls 14 13,bn 15 .geq 9 14] [0,1,15]) (.cond (.t 15) (.seq (rn [mx 4 (kk 0)] [4]) (.ret)) (.skip))) (.seq (.region (some []) [mv 16 0,nc 17 16,fa 18 0 17,l1 19 18,mv 20 0,nc 21 20,fa 22 1 21,l1 23 22,jj 24 (.indexAddr 1 (.t 19) (.t 23)),l1 25 24,jj 26 (.call 17 [(.t 25),(kk 1000000)]),mv 5 26] [0,1,5] [10]) (.seq (rn [mv 27 0,nc 28 27,fa 29 1 28,l1 30 29,bk 31 .add 30 1,nc 32 27,fa 33 1 32,st 1 33 31] [1,5]) (.seq (rn [mv 34 5,mv 35 1,bn 36 .rem 34 35,mv 4 36] [4]) (.ret))))),false,false,false⟩
@[simp] def F137l0x:PC:=(.seq (.seq (rn [mv 14 8,bk 15 .gtr 14 0] [0,1,6,7,8,15]) (.cond (.t 15) (.skip) (.exit 0))) (.seq (.block 1 (.region (some []) [fa 18 3 7,⟨some 19,.load false 1 (.t 18),none,[4]⟩,mv 20 0,mv 21 1,cl 22 162 [20,21],jj 23 (.bslice 1 [zN,zN,eN,sN] [(0,4,(.t 22))]),jj 24 (.append 4 56 (.t 19) (.t 23)),fa 25 3 7,st 1 25 24] [0,1,6,7,8] [4])) (rn [mv 16 8,bk 17 .sub 16 1,mv 8 17] [0,1,6,7,8])))
def F137l0:PC:=F137l0x
theorem qfq:run C q F137l0 fr σ = run C q F137l0x fr σ := rfl
def F137:PFun:=⟨3,[.cell 6 true 4],.seq (rn [jj 6 (.alloc [zN,zN,eN,sN])] [0,1,2,6]) (.seq (rn [jj 9 (.build [zN,zN,eN,sN] [(0,1,(kk 7))]),jj 7 (.alloc [zN,zN,eN,sN]),st 4 7 9] [0,1,2,6,7]) (.seq (.seq (rn [mv 10 0,mv 11 2,bk 12 .add 11 1,cl 13 136 [10,12],mv 8 13] [0,1,6,7,8]) (.block 0 (.loop F137l0))) (.seq (rn [la 26 4 7,st 4 6 26] [6]) (.ret)))),false,false,false⟩
def F162:PFun:=⟨2,[.cell 4 true 4],.seq (rn [jj 4 (.alloc [zN,zN,eN,sN])] [0,1,4]) (.seq (rn [mv 13 0,jj 14 (.call 136 [(.t 13),(kk 10)]),mv 5 14] [0,1,4,5]) (.seq (.seq (rn [mv 15 1,bk 16 .leq 15 0] [0,1,4,5,16]) (.cond (.t 16) (rn [mv 17 5,bk 18 .rem 17 7,mv 5 18] [0,1,4,5]) (.skip))) (.seq (.seq (rn [mv 19 5] [0,1,4,19]) (.block 0 (.seq (.seq (rn [bk 21 .eql 19 0,mv 20 21] [0,1,4,19,20]) (.cond (.t 20) (.skip) (rn [bk 22 .eql 19 1,mv 20 22] [0,1,4,19,20]))) (.cond (.t 20) (.seq (.region (some []) [jj 23 (.bslice 4 [eN,eN,eN,eN] [(0,1,(.c (.string ⟨#[105]⟩))),(1,1,(.c (.string ⟨#[110]⟩))),(2,1,(.c (.string ⟨#[115,117,109]⟩))),(3,1,(.c (.string ⟨#[118,51]⟩)))]),mv 24 0,jj 25 (.call 136 [(.t 24),(kk 4)]),jj 26 (.indexAddr 1 (.t 23) (.t 25)),⟨some 27,.load false 1 (.t 26),none,[6]⟩,mv 28 0,jj 29 (.call 177 [(.t 28),(kk 2)]),jj 30 (.call 176 [(kk 1),(.t 27),(.t 29)]),st 4 4 30] [4] [6,7]) (.ret)) (.seq (.seq (rn [bk 32 .eql 19 2,mv 31 32] [0,1,4,19,31]) (.cond (.t 31) (.skip) (.seq (rn [bk 33 .eql 19 3,mv 31 33] [0,1,4,19,31]) (.cond (.t 31) (.skip) (rn [bk 34 .eql 19 4,mv 31 34] [0,1,4,19,31]))))) (.cond (.t 31) (.seq (rn [jj 35 (.bslice 6 [eN,eN,eN,eN,eN,eN] [(0,1,(.c (.string ⟨#[120]⟩))),(1,1,(.c (.string ⟨#[121]⟩))),(2,1,(.c (.string ⟨#[118,120]⟩))),(3,1,(.c (.string ⟨#[118,121]⟩))),(4,1,(.c (.string ⟨#[97]⟩))),(5,1,(.c (.string ⟨#[98]⟩)))]),mv 36 0,jj 37 (.call 136 [(.t 36),(kk 6)]),jj 38 (.indexAddr 1 (.t 35) (.t 37)),l1 39 38,mv 6 39] [0,4,6]) (.seq (rn [mv 40 0,jj 41 (.call 177 [(.t 40),(kk 1)]),jj 7 (.alloc [zN,zN,eN,sN]),st 4 7 41] [0,4,6,7]) (.seq (.region (some []) [mv 42 6,⟨some 43,.load true 4 (.t 7),none,[3]⟩,mv 44 0,jj 45 (.call 177 [(.t 44),(kk 2)]),jj 46 (.call 178 [(kk 2),(.t 42),(.t 43),(.t 45)]),st 4 4 46] [4] [3,4]) (.ret)))) (.seq (rn [bk 48 .eql 19 5,mv 47 48] [0,1,4,19,47]) (.cond (.t 47) (.seq (rn [mv 49 0,jj 50 (.call 177 [(.t 49),(kk 0)]),jj 8 (.alloc [zN,zN,eN,sN]),st 4 8 50] [0,4,8]) (.seq (.region (some []) [⟨some 51,.load true 4 (.t 8),none,[2]⟩,mv 52 0,jj 53 (.call 177 [(.t 52),(kk 1)]),jj 54 (.call 178 [(kk 5),(.c (.string ⟨#[]⟩)),(.t 51),(.t 53)]),st 4 4 54] [4] [2,3]) (.ret))) (.seq (rn [bk 56 .eql 19 6,mv 55 56] [0,1,4,19,55]) (.cond (.t 55) (.seq (.seq (rn [mv 57 0,jj 58 (.call 136 [(.t 57),(kk 3)]),bk 59 .gtr 58 0] [0,4,59]) (.cond (.t 59) (.seq (rn [mv 60 0,jj 61 (.call 177 [(.t 60),(kk 1)]),jj 62 (.call 176 [(kk 1),(.c (.string ⟨#[110]⟩)),(.t 61)]),st 4 4 62] [4]) (.ret)) (.skip))) (.seq (rn [jj 63 (.build [zN,zN,eN,sN] [(0,1,(kk 6))]),st 4 4 63] [4]) (.ret))) (.seq (rn [bk 65 .eql 19 7,mv 64 65] [0,1,4,64]) (.cond (.t 64) (.seq (rn [mv 66 0,jj 67 (.call 179 [(.t 66),(kk 1)]),jj 9 (.alloc [zN,zN,eN,sN]),st 4 9 67] [0,1,4,9]) (.seq (.region (some []) [⟨some 68,.load true 4 (.t 9),none,[4]⟩,mv 69 0,mv 70 1,bk 71 .sub 70 1,jj 72 (.call 137 [(.t 69),(.t 71),(kk 2)]),jj 73 (.call 178 [(kk 4),(.c (.string ⟨#[]⟩)),(.t 68),(.t 72)]),st 4 4 73] [4] [4,5]) (.ret))) (.skip))))))))))))) (.seq (rn [mv 74 0,jj 75 (.call 179 [(.t 74),(kk 2)]),jj 10 (.alloc [zN,zN,eN,sN]),st 4 10 75] [0,1,4,10]) (.seq (rn [mv 76 0,mv 77 1,bk 78 .sub 77 1,jj 79 (.call 137 [(.t 76),(.t 78),(kk 2)]),jj 11 (.alloc [zN,zN,eN,sN]),st 4 11 79] [0,1,4,10,11]) (.seq (rn [jj 80 (.build [zN,zN,eN,sN] [(0,1,(kk 7))]),jj 12 (.alloc [zN,zN,eN,sN]),st 4 12 80] [0,1,4,10,11,12]) (.seq (.seq (rn [mv 81 0,jj 82 (.call 136 [(.t 81),(kk 2)]),bk 83 .eql 82 1] [0,1,4,10,11,12,83]) (.cond (.t 83) (rn [mv 84 0,mv 85 1,bk 86 .sub 85 1,jj 87 (.call 137 [(.t 84),(.t 86),(kk 2)]),st 4 12 87] [4,10,11,12]) (.skip))) (.seq (rn [la 88 4 10,la 89 4 11,la 90 4 12,jj 91 (.bslice 3 [zN,zN,eN,sN,zN,zN,eN,sN,zN,zN,eN,sN] [(0,4,(.t 88)),(4,4,(.t 89)),(8,4,(.t 90))]),jj 92 (.build [zN,zN,eN,sN] [(0,1,(kk 3)),(3,1,(.t 91))]),st 4 4 92] [4]) (.ret))))))))),false,false,false⟩
def F176:PFun:=⟨3,[.cell 6 true 4],.seq (rn [bx 5 2,jj 6 (.alloc [zN,zN,eN,sN])] [0,1,5,6]) (.seq (rn [mv 7 0,mv 8 1,la 9 4 5,jj 10 (.bslice 1 [zN,zN,eN,sN] [(0,4,(.t 9))]),jj 11 (.build [zN,zN,eN,sN] [(0,1,(.t 7)),(2,1,(.t 8)),(3,1,(.t 10))]),st 4 6 11] [6]) (.ret)),false,false,false⟩
def F177:PFun:=⟨2,[.cell 4 true 4],.seq (rn [jj 4 (.alloc [zN,zN,eN,sN])] [0,1,4]) (.seq (rn [mv 9 0,jj 10 (.call 136 [(.t 9),(kk 12)]),mv 5 10] [0,1,4,5]) (.seq (.seq (rn [mv 11 1,bk 12 .leq 11 0] [0,1,4,5,12]) (.cond (.t 12) (rn [mv 13 5,bk 14 .rem 13 6,mv 5 14] [0,1,4,5]) (.skip))) (.seq (.seq (rn [mv 15 5] [0,1,4,15]) (.block 0 (.seq (.seq (rn [bk 17 .eql 15 0,mv 16 17] [0,1,4,15,16]) (.cond (.t 16) (.skip) (rn [bk 18 .eql 15 1,mv 16 18] [0,1,4,15,16]))) (.cond (.t 16) (.seq (rn [jj 19 (.bslice 8 [zN,zN,zN,zN,zN,zN,zN,zN] [(0,1,(kk 0)),(1,1,(kk 1)),(2,1,(kk 2)),(3,1,(kk 3)),(4,1,(kk 7)),(5,1,(kk 100)),(6,1,(kk 1024)),(7,1,(kk 2147483647))]),mv 20 0,jj 21 (.call 136 [(.t 20),(kk 8)]),jj 22 (.indexAddr 1 (.t 19) (.t 21)),l1 23 22,jj 24 (.build [zN,zN,eN,sN] [(0,1,(kk 8)),(1,1,(.t 23))]),st 4 4 24] [4]) (.ret)) (.seq (.seq (rn [bk 26 .eql 15 2,mv 25 26] [0,1,4,15,25]) (.cond (.t 25) (.skip) (rn [bk 27 .eql 15 3,mv 25 27] [0,1,4,15,25]))) (.cond (.t 25) (.seq (rn [jj 28 (.bslice 4 [eN,eN,eN,eN] [(0,1,(.c (.string ⟨#[105]⟩))),(1,1,(.c (.string ⟨#[110]⟩))),(2,1,(.c (.string ⟨#[115,117,109]⟩))),(3,1,(.c (.string ⟨#[118,51]⟩)))]),mv 29 0,jj 30 (.call 136 [(.t 29),(kk 4)]),jj 31 (.indexAddr 1 (.t 28) (.t 30)),l1 32 31,jj 33 (.build [zN,zN,eN,sN] [(0,1,(kk 10)),(2,1,(.t 32))]),st 4 4 33] [4]) (.ret)) (.seq (.seq (rn [bk 35 .eql 15 4,mv 34 35] [0,1,4,15,34]) (.cond (.t 34) (.skip) (rn [bk 36 .eql 15 5,mv 34 36] [0,1,4,15,34]))) (.cond (.t 34) (.seq (rn [jj 37 (.bslice 3 [eN,eN,eN] [(0,1,(.c (.string ⟨#[115,101,108,102]⟩))),(1,1,(.c (.string ⟨#[111,116,104,101,114]⟩))),(2,1,(.c (.string ⟨#[116,105,99,107]⟩)))]),mv 38 0,jj 39 (.call 136 [(.t 38),(kk 3)]),jj 40 (.indexAddr 1 (.t 37) (.t 39)),l1 41 40,jj 42 (.build [zN,zN,eN,sN] [(0,1,(kk 12)),(2,1,(.t 41))]),st 4 4 42] [4]) (.ret)) (.seq (.seq (rn [bk 44 .eql 15 6,mv 43 44] [0,1,4,15,43]) (.cond (.t 43) (.skip) (rn [bk 45 .eql 15 7,mv 43 45] [0,1,4,15,43]))) (.cond (.t 43) (.seq (rn [jj 46 (.bslice 8 [eN,eN,eN,eN,eN,eN,eN,eN] [(0,1,(.c (.string ⟨#[120]⟩))),(1,1,(.c (.string ⟨#[121]⟩))),(2,1,(.c (.string ⟨#[118,120]⟩))),(3,1,(.c (.string ⟨#[118,121]⟩))),(4,1,(.c (.string ⟨#[97]⟩))),(5,1,(.c (.string ⟨#[98]⟩))),(6,1,(.c (.string ⟨#[104,105,116]⟩))),(7,1,(.c (.string ⟨#[115,116,105,108,108]⟩)))]),mv 47 0,jj 48 (.call 136 [(.t 47),(kk 8)]),jj 49 (.indexAddr 1 (.t 46) (.t 48)),l1 50 49,mv 6 50] [0,1,4,6]) (.seq (rn [mv 51 6,mv 52 0,mv 53 1,bk 54 .sub 53 1,cl 55 177 [52,54],jj 56 (.call 176 [(kk 11),(.t 51),(.t 55)]),st 4 4 56] [4]) (.ret))) (.seq (rn [bk 58 .eql 15 8,mv 57 58] [0,1,4,57]) (.cond (.t 57) (.seq (rn [mv 59 0,mv 60 1,bk 61 .sub 60 1,cl 62 177 [59,61],jj 63 (.call 176 [(kk 13),(.c (.string ⟨#[45]⟩)),(.t 62)]),st 4 4 63] [4]) (.ret)) (.skip))))))))))))) (.seq (rn [jj 64 (.bslice 4 [eN,eN,eN,eN] [(0,1,(.c (.string ⟨#[43]⟩))),(1,1,(.c (.string ⟨#[45]⟩))),(2,1,(.c (.string ⟨#[42]⟩))),(3,1,(.c (.string ⟨#[47]⟩)))]),mv 65 0,jj 66 (.call 136 [(.t 65),(kk 4)]),jj 67 (.indexAddr 1 (.t 64) (.t 66)),l1 68 67,mv 7 68] [0,1,4,7]) (.seq (rn [mv 69 0,mv 70 1,bk 71 .sub 70 1,cl 72 177 [69,71],jj 8 (.alloc [zN,zN,eN,sN]),st 4 8 72] [0,1,4,7,8]) (.seq (.region (some []) [mv 73 7,⟨some 74,.load true 4 (.t 8),none,[5]⟩,mv 75 0,mv 76 1,bk 77 .sub 76 1,cl 78 177 [75,77],jj 79 (.call 178 [(kk 14),(.t 73),(.t 74),(.t 78)]),st 4 4 79] [4] [5,6]) (.ret))))))),false,false,false⟩
def F178:PFun:=⟨4,[.cell 8 true 4],.seq (rn [bx 6 2,bx 7 3,jj 8 (.alloc [zN,zN,eN,sN])] [0,1,6,7,8]) (.seq (rn [mv 9 0,mv 10 1,la 11 4 6,la 12 4 7,jj 13 (.bslice 2 [zN,zN,eN,sN,zN,zN,eN,sN] [(0,4,(.t 11)),(4,4,(.t 12))]),jj 14 (.build [zN,zN,eN,sN] [(0,1,(.t 9)),(2,1,(.t 10)),(3,1,(.t 13))]),st 4 8 14] [8]) (.ret)),false,false,false⟩
def F179:PFun:=⟨2,[.cell 4 true 4],.seq (rn [jj 4 (.alloc [zN,zN,eN,sN])] [0,1,4]) (.seq (rn [mv 10 0,jj 11 (.call 136 [(.t 10),(kk 8)]),mv 5 11] [0,1,4,5]) (.seq (.seq (rn [mv 12 1,bk 13 .leq 12 0] [0,1,4,5,13]) (.cond (.t 13) (rn [mv 14 5,bk 15 .rem 14 4,mv 5 15] [0,1,4,5]) (.skip))) (.seq (.seq (rn [mv 16 5] [0,1,4,16]) (.block 0 (.seq (rn [bk 18 .eql 16 0,mv 17 18] [0,1,4,16,17]) (.cond (.t 17) (.seq (rn [mv 19 0,jj 20 (.call 136 [(.t 19),(kk 2)]),jj 21 (.build [zN,zN,eN,sN] [(0,1,(kk 9)),(1,1,(.t 20))]),st 4 4 21] [4]) (.ret)) (.seq (.seq (rn [bk 23 .eql 16 1,mv 22 23] [0,1,4,16,22]) (.cond (.t 22) (.skip) (.seq (rn [bk 24 .eql 16 2,mv 22 24] [0,1,4,16,22]) (.cond (.t 22) (.skip) (.seq (rn [bk 25 .eql 16 3,mv 22 25] [0,1,4,16,22]) (.cond (.t 22) (.skip) (rn [bk 26 .eql 16 4,mv 22 26] [0,1,4,16,22]))))))) (.cond (.t 22) (.seq (rn [jj 27 (.bslice 6 [eN,eN,eN,eN,eN,eN] [(0,1,(.c (.string ⟨#[60]⟩))),(1,1,(.c (.string ⟨#[60,61]⟩))),(2,1,(.c (.string ⟨#[62]⟩))),(3,1,(.c (.string ⟨#[62,61]⟩))),(4,1,(.c (.string ⟨#[61,61]⟩))),(5,1,(.c (.string ⟨#[33,61]⟩)))]),mv 28 0,jj 29 (.call 136 [(.t 28),(kk 6)]),jj 30 (.indexAddr 1 (.t 27) (.t 29)),l1 31 30,mv 6 31] [0,1,4,6]) (.seq (rn [mv 32 0,mv 33 1,bk 34 .sub 33 1,cl 35 177 [32,34],jj 7 (.alloc [zN,zN,eN,sN]),st 4 7 35] [0,1,4,6,7]) (.seq (.region (some []) [mv 36 6,⟨some 37,.load true 4 (.t 7),none,[5]⟩,mv 38 0,mv 39 1,bk 40 .sub 39 1,cl 41 177 [38,40],jj 42 (.call 178 [(kk 14),(.t 36),(.t 37),(.t 41)]),st 4 4 42] [4] [5,6]) (.ret)))) (.seq (rn [bk 44 .eql 16 5,mv 43 44] [0,1,4,43]) (.cond (.t 43) (.seq (rn [mv 45 0,mv 46 1,bk 47 .sub 46 1,cl 48 179 [45,47],jj 49 (.call 176 [(kk 13),(.c (.string ⟨#[33]⟩)),(.t 48)]),st 4 4 49] [4]) (.ret)) (.skip))))))))) (.seq (rn [jj 50 (.bslice 2 [eN,eN] [(0,1,(.c (.string ⟨#[38,38]⟩))),(1,1,(.c (.string ⟨#[124,124]⟩)))]),mv 51 0,jj 52 (.call 136 [(.t 51),(kk 2)]),jj 53 (.indexAddr 1 (.t 50) (.t 52)),l1 54 53,mv 8 54] [0,1,4,8]) (.seq (rn [mv 55 0,mv 56 1,bk 57 .sub 56 1,cl 58 179 [55,57],jj 9 (.alloc [zN,zN,eN,sN]),st 4 9 58] [0,1,4,8,9]) (.seq (.region (some []) [mv 59 8,⟨some 60,.load true 4 (.t 9),none,[5]⟩,mv 61 0,mv 62 1,bk 63 .sub 62 1,cl 64 179 [61,63],jj 65 (.call 178 [(kk 14),(.t 59),(.t 60),(.t 64)]),st 4 4 65] [4] [5,6]) (.ret))))))),false,false,false⟩
end Go.Pm.F
end
section
namespace Go.Pm.F
variable(C:Task->Option Res)(q:Nat)(fr:Fr)(σ : S)
def F152:PFun:=⟨0,[.tmp 0],.seq (rn [jj 0 (.mov (.c (.slice none 0 0)))] []) (.seq (rn [jj 1 (.bslice 3 [eN,eN,eN] [(0,1,(.c (.string ⟨#[97,99,116]⟩))),(1,1,(.c (.string ⟨#[116,105,99,107]⟩))),(2,1,(.c (.string ⟨#[104,105,116]⟩)))]),mv 0 1] [0]) (.ret)),false,false,false⟩
def F192:PFun:=⟨1,[.tmp 2],.seq (rn [mx 2 kF] [0]) (.seq (rn [mv 3 0,jj 4 (.bin .geq (.t 3) (.c (.int .u8 97))),mv 5 4,jt 6 5 (.mov (.t 0)),jt 7 5 (.bin .leq (.t 6) (.c (.int .u8 122))),jj 8 (.pick (.t 5) (.t 7) kF),mv 2 8] [2]) (.ret)),false,false,false⟩
def F193:PFun:=⟨1,[.tmp 2],.seq (rn [mx 2 kF] [0]) (.seq (rn [mv 3 0,jj 4 (.bin .geq (.t 3) (.c (.int .u8 48))),mv 5 4,jt 6 5 (.mov (.t 0)),jt 7 5 (.bin .leq (.t 6) (.c (.int .u8 57))),jj 8 (.pick (.t 5) (.t 7) kF),mv 2 8] [2]) (.ret)),false,false,false⟩
end Go.Pm.F
end
section
namespace Go.Pm.F
variable(C:Task->Option Res)(q:Nat)(fr:Fr)(σ : S)
def effRows15:List (List Int):=[[0,0],[0,1],[0,1],[1,0],[1,1],[2,0],[0,1],[0,1],[0,1],[2,1],[2,1],[2,1],[2,1],[1,1],[2,1],[2,1],[2,1],[1,1],[0,0],[1,0],[2,0],[0,0]]
def G_arenanet_compile_effects:List D:=effRows15.flatten.map fun n => .lit (.int .i64 n)
@[simp] def F125l0x:PC:=(.seq (rn [bn 19 .lss 18 17] [1,16,17,18,19]) (.seq (.cond (.t 19) (.skip) (.exit 0)) (.seq (.block 1 (.seq (rn [jj 20 (.indexAddr 2 (.t 16) (.t 18)),la 21 2 20,jj 4 (.alloc [zN,zN]),st 2 4 21] [1,4,16,17,18]) (.seq (rn [la 22 2 4,fa 23 0 1,l1 24 23,ls 25 24,cl 26 138 [22,25],jj 27 (.un .not (.t 26))] [1,16,17,18,27]) (.cond (.t 27) (.seq (rn [mx 2 (kk 14)] [2]) (.ret)) (.skip))))) (rn [bk 28 .add 18 1,mv 18 28] [1,16,17,18]))))
def F125l0:PC:=F125l0x
theorem qgT:run C q F125l0 fr σ = run C q F125l0x fr σ := rfl
@[simp] def F125l1x:PC:=(.seq (rn [bk 32 .lss 31 3] [1,30,31,32]) (.seq (.cond (.t 32) (.skip) (.exit 2)) (.seq (.block 3 (.seq (rn [jj 33 (.indexA false 3 1 (.t 30) (.t 31)),mv 6 33] [1,6,30,31]) (.seq (rn [mv 34 6,bk 35 .lss 34 (-1),mv 36 35,jf 37 36 (.mov (.t 6)),jf 38 36 (.fieldAddr 0 (.t 1)),jf 39 36 (.load false 1 (.t 38)),jf 40 36 (.len .sl (.t 39)),jf 41 36 (.bin .geq (.t 37) (.t 40)),jj 42 (.pick (.t 36) kT (.t 41))] [1,30,31,42]) (.cond (.t 42) (.seq (rn [mx 2 (kk 14)] [2]) (.ret)) (.skip))))) (rn [bk 43 .add 31 1,mv 31 43] [1,30,31]))))
def F125l1:PC:=F125l1x
theorem qbZ:run C q F125l1 fr σ = run C q F125l1x fr σ := rfl
@[simp] def F125l2x:PC:=(.seq (rn [bk 47 .lss 46 3] [1,7,45,46,47]) (.seq (.cond (.t 47) (.skip) (.exit 4)) (.seq (.block 5 (.seq (rn [jj 48 (.indexA false 3 1 (.t 45) (.t 46)),mv 9 48] [1,7,9,45,46]) (.seq (.seq (rn [mv 49 9,bk 50 .lss 49 0] [1,7,9,45,46,50]) (.cond (.t 50) (.exit 5) (.skip))) (.seq (rn [la 51 4 1,mv 52 9,cl 53 139 [51,52],jj 10 (.alloc [(.lit (.bool false)),(.lit (.bool false)),zN]),st 3 10 53] [1,7,10,45,46]) (.seq (.seq (rn [fa 54 0 10,l1 55 54] [1,7,10,45,46,55]) (.cond (.t 55) (.seq (rn [mx 2 (kk 14)] [2]) (.ret)) (.skip))) (.seq (rn [la 56 3 10,cl 57 140 [56],jj 58 (.un .not (.t 57))] [1,7,45,46,58]) (.cond (.t 58) (rn [mx 7 (kk 15)] [1,7,45,46]) (.skip)))))))) (rn [bk 59 .add 46 1,mv 46 59] [1,7,45,46]))))
def F125l2:PC:=F125l2x
theorem qbr:run C q F125l2 fr σ = run C q F125l2x fr σ := rfl
def F125:PFun:=⟨1,[.tmp 2],.seq (rn [bx 1 0,mx 2 (kk 0)] [1]) (.seq (.seq (rn [fa 11 0 1,l1 12 11,ls 13 12,bk 14 .gtr 13 400] [1,14]) (.cond (.t 14) (.seq (rn [mx 2 (kk 2)] [2]) (.ret)) (.skip))) (.seq (.seq (rn [fa 15 0 1,l1 16 15,ls 17 16,mx 18 (kk 0)] [1,16,17,18]) (.block 0 (.loop F125l0))) (.seq (.seq (rn [fa 29 1 1,la 30 3 29,mx 31 (kk 0)] [1,30,31]) (.block 2 (.loop F125l1))) (.seq (rn [mx 7 (kk 0)] [1,7]) (.seq (.seq (rn [fa 44 1 1,la 45 3 44,mx 46 (kk 0)] [1,7,45,46]) (.block 4 (.loop F125l2))) (.seq (rn [mv 60 7,mv 2 60] [2]) (.ret))))))),false,false,false⟩
@[simp] def F131l0x:PC:=(.seq (rn [bn 20 .lss 19 18] [1,2,4,17,18,19,20]) (.seq (.cond (.t 20) (.skip) (.exit 0)) (.seq (.block 1 (.seq (rn [mv 21 19,jj 22 (.indexAddr 1 (.t 17) (.t 19)),l1 23 22,mv 5 21,mv 6 23] [1,2,4,5,6,17,18,19]) (rn [mv 24 4,nc 25 24,fa 26 0 25,fa 27 1 26,l1 28 27,mv 29 6,mv 30 5,jn (.mapset .s (.t 28) (.t 29) (.t 30))] [1,2,4,17,18,19]))) (rn [bk 31 .add 19 1,mv 19 31] [1,2,4,17,18,19]))))
def F131l0:PC:=F131l0x
theorem qju:run C q F131l0 fr σ = run C q F131l0x fr σ := rfl
@[simp] def F131l1x:PC:=(.seq (rn [bk 35 .lss 34 3] [2,4,33,34,35]) (.seq (.cond (.t 35) (.skip) (.exit 2)) (.seq (.block 3 (.seq (rn [mv 36 34,jj 37 (.indexA true 3 4 (.t 33) (.t 34)),jj 8 (.alloc [zN,zN,eN,sN]),mv 7 36,st 4 8 37] [2,4,7,8,33,34]) (.seq (rn [mv 38 4,mv 39 7,nc 40 38,fa 41 2 40,jj 42 (.indexAddrA 3 1 (.t 41) (.t 39)),jn (.store 1 (.t 42) (kk (-1)))] [2,4,7,8,33,34]) (.seq (rn [fa 43 0 8,l1 44 43,bk 45 .neq 44 0] [2,4,7,8,33,34,45]) (.cond (.t 45) (.seq (.region (some []) [mv 46 4,mv 47 7,mv 48 4,nc 49 48,fa 50 0 49,fa 51 0 50,l1 52 51,ls 53 52,nc 54 46,fa 55 2 54,jj 56 (.indexAddrA 3 1 (.t 55) (.t 47)),st 1 56 53] [2,4,8,33,34]) (.seq (.region (some []) [mv 57 4,nc 58 57,fa 59 0 58,la 60 4 8,cl 61 147 [59,60]] [2,4,33,34] [4]) (rn [mv 62 4,nc 63 62,fa 64 0 63,jj 65 (.call 148 [(.t 64),(kk 21),(kk 0)])] [2,4,33,34]))) (.skip)))))) (rn [bk 66 .add 34 1,mv 34 66] [2,4,33,34]))))
def F131l1:PC:=F131l1x
theorem qa4:run C q F131l1 fr σ = run C q F131l1x fr σ := rfl
@[simp] def F131l2x:PC:=(.seq (rn [bk 88 .lss 87 3] [2,9,86,87,88]) (.seq (.cond (.t 88) (.skip) (.exit 4)) (.seq (.block 5 (.seq (rn [jj 89 (.indexA false 3 1 (.t 86) (.t 87)),mv 11 89] [2,9,11,86,87]) (.seq (rn [mv 90 11,bk 91 .geq 90 0,mv 92 91,jt 93 92 (.load true 4 (.t 9)),jt 94 92 (.mov (.t 11)),jt 95 92 (.call 139 [(.t 93),(.t 94)]),jt 96 92 (.call 140 [(.t 95)]),jt 97 92 (.un .not (.t 96)),jj 98 (.pick (.t 92) (.t 97) kF)] [2,9,86,87,98]) (.cond (.t 98) (.seq (rn [jj 99 (.build [sN,zN,zN,zN] []),st 4 2 99,mx 3 (kk 15)] [2,3]) (.ret)) (.skip))))) (rn [bk 100 .add 87 1,mv 87 100] [2,9,86,87]))))
def F131l2:PC:=F131l2x
theorem qa5:run C q F131l2 fr σ = run C q F131l2x fr σ := rfl
def F131:PFun:=⟨1,[.cell 2 true 4,.tmp 3],.seq (rn [bx 1 0,jj 2 (.alloc [sN,zN,zN,zN]),mx 3 (kk 0)] [1,2]) (.seq (rn [jj 12 (.mkmap),jj 13 (.build [sN,(.lit (.map none))] [(1,1,(.t 12))]),jj 14 (.build [sN,(.lit (.map none)),zN,zN,zN] [(0,2,(.t 13))]),bx 15 14,mv 4 15] [1,2,4]) (.seq (.seq (rn [la 16 12 1,cl 17 15 [16],ls 18 17,mx 19 (kk 0)] [1,2,4,17,18,19]) (.block 0 (.loop F131l0))) (.seq (.seq (rn [fa 32 0 1,la 33 12 32,mx 34 (kk 0)] [2,4,33,34]) (.block 2 (.loop F131l1))) (.seq (.seq (rn [mv 67 4,nc 68 67,fa 69 0 68,fa 70 0 69,l1 71 70,ls 72 71,bk 73 .gtr 72 400] [2,4,73]) (.cond (.t 73) (.seq (rn [jj 74 (.build [sN,zN,zN,zN] []),st 4 2 74,mx 3 (kk 2)] [2,3]) (.ret)) (.skip))) (.seq (.region (some [(111,[sN,zN,zN,zN])]) [mv 75 4,nc 76 75,fa 77 0 76,fa 78 0 77,l1 79 78,mv 80 4,nc 81 80,fa 82 2 81,la 83 3 82,jj 84 (.build [sN,zN,zN,zN] [(0,1,(.t 79)),(1,3,(.t 83))]),jj 9 (.fill 111),st 4 9 84] [2,9]) (.seq (.seq (rn [fa 85 1 9,la 86 3 85,mx 87 (kk 0)] [2,9,86,87]) (.block 4 (.loop F131l2))) (.seq (rn [la 101 4 9,st 4 2 101,mx 3 (kk 0)] [2,3]) (.ret)))))))),false,false,false⟩
def F134:PFun:=⟨1,[.tmp 2],.seq (rn [mx 2 (kk 0)] [0]) (.seq (rn [jj 6 (.mkmap),jn (.mapset .s (.t 6) (.c (.string ⟨#[120]⟩)) (kk 0)),jn (.mapset .s (.t 6) (.c (.string ⟨#[121]⟩)) (kk 1)),jn (.mapset .s (.t 6) (.c (.string ⟨#[118,120]⟩)) (kk 2)),jn (.mapset .s (.t 6) (.c (.string ⟨#[118,121]⟩)) (kk 3)),jn (.mapset .s (.t 6) (.c (.string ⟨#[97]⟩)) (kk 4)),jn (.mapset .s (.t 6) (.c (.string ⟨#[98]⟩)) (kk 5)),jn (.mapset .s (.t 6) (.c (.string ⟨#[104,105,116]⟩)) (kk 6)),jn (.mapset .s (.t 6) (.c (.string ⟨#[115,116,105,108,108]⟩)) (kk 7)),mv 7 6,mv 3 7] [0,3]) (.seq (.seq (rn [mv 9 3,mv 10 0,jj 11 (.lookup .s zN (.t 9) (.t 10) true),mv 8 11,ex 12 8 0,ex 13 8 1,mv 4 12,mv 5 13] [4,5]) (.seq (rn [mv 14 5] [4,14]) (.cond (.t 14) (.seq (rn [mv 15 4,mv 2 15] [2]) (.ret)) (.skip)))) (.seq (rn [mx 2 (kk (-1))] [2]) (.ret)))),false,false,false⟩
def F138:PFun:=⟨2,[.tmp 4],.seq (rn [bx 2 0,mx 4 kF] [1,2]) (.seq (.seq (rn [fa 7 0 2,l1 8 7,cl 9 163 [8],jj 10 (.un .not (.t 9))] [1,2,10]) (.cond (.t 10) (.seq (rn [mx 4 kF] [4]) (.ret)) (.skip))) (.seq (rn [mx 5 (kk 0),mx 6 (kk 0)] [1,2,5,6]) (.seq (.seq (rn [fa 11 0 2,l1 12 11] [1,2,5,6,12]) (.block 0 (.seq (rn [bk 14 .eql 12 1,mv 13 14] [1,2,5,6,12,13]) (.cond (.t 13) (rn [mx 5 (kk (-2147483647)),mx 6 (kk 2147483647)] [2,5,6]) (.seq (.seq (rn [bk 16 .eql 12 2,mv 15 16] [1,2,5,6,12,15]) (.cond (.t 15) (.skip) (rn [bk 17 .eql 12 3,mv 15 17] [1,2,5,6,12,15]))) (.cond (.t 15) (rn [mx 6 (kk 15)] [2,5,6]) (.seq (rn [bk 19 .eql 12 4,mv 18 19] [1,2,5,6,12,18]) (.cond (.t 18) (rn [mx 6 (kk 7)] [2,5,6]) (.seq (rn [bk 21 .eql 12 5,mv 20 21] [1,2,5,6,12,20]) (.cond (.t 20) (rn [mx 6 (kk 5)] [2,5,6]) (.seq (.seq (rn [bk 23 .eql 12 18,mv 22 23] [1,2,5,6,12,22]) (.cond (.t 22) (.skip) (rn [bk 24 .eql 12 19,mv 22 24] [1,2,5,6,22]))) (.cond (.t 22) (rn [mv 25 1,bk 26 .sub 25 1,mv 6 26] [2,5,6]) (.skip))))))))))))) (.seq (rn [mv 27 5,fa 28 1 2,l1 29 28,bn 30 .leq 27 29,mv 31 30,jt 32 31 (.fieldAddr 1 (.t 2)),jt 33 31 (.load false 1 (.t 32)),jt 34 31 (.mov (.t 6)),jt 35 31 (.bin .leq (.t 33) (.t 34)),jj 36 (.pick (.t 31) (.t 35) kF),mv 4 36] [4]) (.ret))))),false,false,false⟩
@[simp] def F139l1x:PC:=(.seq (rn [bn 71 .lss 70 69] [2,4,5,6,7,10,68,69,70,71]) (.seq (.cond (.t 71) (.skip) (.exit 2)) (.seq (.block 3 (.seq (rn [jj 72 (.indexAddr 1 (.t 68) (.t 70)),l1 73 72,mv 12 73] [2,4,5,6,7,10,12,68,69,70]) (.block 4 (.seq (rn [mv 75 12,fa 76 0 2,l1 77 76,ls 78 77,bn 79 .eql 75 78,mv 74 79] [2,4,5,6,7,10,12,68,69,70,74]) (.cond (.t 74) (rn [fa 80 0 5,jn (.store 1 (.t 80) kT)] [2,4,5,6,7,10,68,69,70]) (.seq (rn [mv 82 6,mv 83 12,jj 84 (.indexAddr 1 (.t 82) (.t 83)),l1 85 84,bk 86 .eql 85 0,mv 81 86] [2,4,5,6,7,10,12,68,69,70,81]) (.cond (.t 81) (.seq (rn [mv 87 6,mv 88 12,mv 89 10,jj 90 (.max [(.t 89),(kk 0)]),bk 91 .add 90 1,jj 92 (.indexAddr 1 (.t 87) (.t 88)),st 1 92 91] [2,4,5,6,7,10,12,68,69,70]) (rn [mv 93 7,mv 94 12,jj 95 (.bsliceO 1 1 [zN] [(0,1,(.t 94))]),jj 96 (.appendO 1 8 (.t 93) (.t 95)),mv 7 96] [2,4,5,6,7,10,68,69,70])) (.seq (rn [mv 98 6,mv 99 12,jj 100 (.indexAddr 1 (.t 98) (.t 99)),l1 101 100,mv 102 10,bk 103 .add 102 1,bn 104 .neq 101 103,mv 97 104] [2,4,5,6,7,10,68,69,70,97]) (.cond (.t 97) (rn [fa 105 1 5,jn (.store 1 (.t 105) kT)] [2,4,5,6,7,10,68,69,70]) (.skip)))))))))) (rn [bk 106 .add 70 1,mv 70 106] [2,4,5,6,7,10,68,69,70]))))
def F139l1:PC:=F139l1x
theorem qdv:run C q F139l1 fr σ = run C q F139l1x fr σ := rfl
@[simp] def F139l0x:PC:=(.seq (.seq (rn [mv 22 7,ls 23 22,bk 24 .gtr 23 0] [2,4,5,6,7,24]) (.cond (.t 24) (.skip) (.exit 0))) (.block 1 (.seq (rn [mv 25 7,mv 26 7,ls 27 26,bk 28 .sub 27 1,jj 29 (.indexAddr 1 (.t 25) (.t 28)),l1 30 29,mv 8 30] [2,4,5,6,7,8]) (.seq (rn [mv 31 7,mv 32 7,ls 33 32,bk 34 .sub 33 1,jj 35 (.cut 1 (.t 31) none (some (.t 34))),mv 7 35] [2,4,5,6,7,8]) (.seq (rn [fa 36 0 2,l1 37 36,mv 38 8,jj 39 (.indexAddr 2 (.t 37) (.t 38)),fa 40 0 39,l1 41 40,jj 42 (.indexAddrA 22 2 (.g G_arenanet_compile_effects) (.t 41)),la 43 2 42,jj 9 (.alloc [zN,zN]),st 2 9 43] [2,4,5,6,7,8,9]) (.seq (rn [mv 44 6,mv 45 8,jj 46 (.indexAddr 1 (.t 44) (.t 45)),l1 47 46,bk 48 .sub 47 1,mv 10 48] [2,4,5,6,7,8,9,10]) (.seq (.seq (rn [mv 49 10,fa 50 0 9,l1 51 50,bn 52 .lss 49 51] [2,4,5,6,7,8,9,10,52]) (.cond (.t 52) (rn [fa 53 1 5,jn (.store 1 (.t 53) kT)] [2,4,5,6,7,8,9,10]) (.skip))) (.seq (rn [mv 54 10,fa 55 1 9,l1 56 55,fa 57 0 9,l1 58 57,bn 59 .sub 56 58,bn 60 .add 54 59,mv 10 60] [2,4,5,6,7,8,10]) (.seq (rn [fa 61 2 5,l1 62 61,mv 63 10,jj 64 (.max [(.t 62),(.t 63)]),fa 65 2 5,st 1 65 64] [2,4,5,6,7,8,10]) (.seq (rn [la 66 4 2,mv 67 8,cl 68 164 [66,67],ls 69 68,mx 70 (kk 0)] [2,4,5,6,7,10,68,69,70]) (.block 2 (.loop F139l1))))))))))))
def F139l0:PC:=F139l0x
theorem qfr:run C q F139l0 fr σ = run C q F139l0x fr σ := rfl
def F139:PFun:=⟨2,[.cell 4 true 3],.seq (rn [bx 2 0,jj 4 (.alloc [(.lit (.bool false)),(.lit (.bool false)),zN])] [1,2,4]) (.seq (rn [jj 5 (.alloc [(.lit (.bool false)),(.lit (.bool false)),zN])] [1,2,4,5]) (.seq (rn [fa 13 0 2,l1 14 13,ls 15 14,jj 16 (.mkslice false [zN] 8 (.t 15) (.t 15)),mv 6 16] [1,2,4,5,6]) (.seq (rn [mv 17 6,mv 18 1,jj 19 (.indexAddr 1 (.t 17) (.t 18)),jn (.store 1 (.t 19) (kk 1))] [1,2,4,5,6]) (.seq (.seq (rn [mv 20 1,jj 21 (.bsliceO 1 1 [zN] [(0,1,(.t 20))]),mv 7 21] [2,4,5,6,7]) (.block 0 (.loop F139l0))) (.seq (rn [la 107 3 5,st 3 4 107] [4]) (.ret)))))),false,false,false⟩
def F140:PFun:=⟨1,[.tmp 2],.seq (rn [bx 1 0,mx 2 kF] [1]) (.seq (rn [fa 3 1 1,l1 4 3,jj 5 (.un .not (.t 4)),mv 6 5,jt 7 6 (.fieldAddr 2 (.t 1)),jt 8 6 (.load false 1 (.t 7)),jt 9 6 (.bin .leq (.t 8) (kk 16)),jj 10 (.pick (.t 6) (.t 9) kF),mv 2 10] [2]) (.ret)),false,false,false⟩
def F147:PFun:=⟨2,[],.seq (rn [bx 3 1] [0,3]) (.seq (rn [fa 4 0 3,l1 5 4] [0,3,5]) (.block 0 (.seq (.seq (rn [bk 10 .eql 5 8,mv 9 10] [0,3,5,9]) (.cond (.t 9) (.skip) (rn [bk 11 .eql 5 9,mv 9 11] [0,3,5,9]))) (.cond (.t 9) (rn [mv 12 0,fa 13 1 3,l1 14 13,jj 15 (.call 148 [(.t 12),(kk 1),(.t 14)])] []) (.seq (rn [bk 17 .eql 5 10,mv 16 17] [0,3,5,16]) (.cond (.t 16) (.region (some []) [mv 18 0,mv 19 0,nc 20 19,fa 21 1 20,l1 22 21,fa 23 2 3,l1 24 23,jj 25 (.lookup .s zN (.t 22) (.t 24) false),jj 26 (.call 148 [(.t 18),(kk 2),(.t 25)])] [] [8]) (.seq (rn [bk 28 .eql 5 11,mv 27 28] [0,3,5,27]) (.cond (.t 27) (.seq (rn [mv 29 0,la 30 4 3,jj 31 (.call 165 [(.t 29),(.t 30),(kk 0)])] [0,3]) (rn [mv 32 0,fa 33 2 3,l1 34 33,cl 35 134 [34],jj 36 (.call 148 [(.t 32),(kk 4),(.t 35)])] [])) (.seq (rn [bk 38 .eql 5 12,mv 37 38] [0,3,5,37]) (.cond (.t 37) (rn [mv 39 0,la 40 4 3,cl 41 166 [39,40]] []) (.seq (rn [bk 43 .eql 5 13,mv 42 43] [0,3,5,42]) (.cond (.t 42) (rn [mv 44 0,la 45 4 3,cl 46 167 [44,45]] []) (.seq (rn [bk 48 .eql 5 14,mv 47 48] [0,3,47]) (.cond (.t 47) (rn [mv 49 0,la 50 4 3,cl 51 168 [49,50]] []) (rn [mv 6 0,la 7 4 3,cl 8 169 [6,7]] []))))))))))))))),false,false,false⟩
def F148:PFun:=⟨3,[.tmp 6],.seq (rn [mx 6 (kk 0)] [0,1,2]) (.seq (rn [mv 7 0,mv 8 0,nc 9 8,fa 10 0 9,l1 11 10,mv 12 1,mv 13 2,jj 14 (.build [zN,zN] [(0,1,(.t 12)),(1,1,(.t 13))]),jj 15 (.bsliceO 1 2 [zN,zN] [(0,2,(.t 14))]),jj 16 (.appendO 2 16 (.t 11) (.t 15)),nc 17 7,fa 18 0 17,st 1 18 16] [0]) (.seq (rn [mv 19 0,nc 20 19,fa 21 0 20,l1 22 21,ls 23 22,bk 24 .sub 23 1,mv 6 24] [6]) (.ret))),false,false,false⟩
def F163:PFun:=⟨1,[.tmp 2],.seq (rn [mx 2 kF] [0]) (.seq (rn [mv 3 0,bk 4 .geq 3 1,mv 5 4,jt 6 5 (.mov (.t 0)),jt 7 5 (.bin .leq (.t 6) (kk 21)),jj 8 (.pick (.t 5) (.t 7) kF),mv 2 8] [2]) (.ret)),false,false,false⟩
def F164:PFun:=⟨2,[.tmp 4],.seq (rn [bx 2 0,jj 4 (.mov (.c (.slice none 0 0)))] [1,2]) (.seq (.seq (rn [fa 6 0 2,l1 7 6,mv 8 1,jj 9 (.indexAddr 2 (.t 7) (.t 8)),la 10 2 9,jj 5 (.alloc [zN,zN]),st 2 5 10] [1,5]) (.seq (rn [fa 11 0 5,l1 12 11] [1,5,12]) (.block 0 (.seq (rn [bk 14 .eql 12 21,mv 13 14] [1,5,12,13]) (.cond (.t 13) (.seq (rn [jj 4 (.mov (.c (.slice none 0 0)))] [4]) (.ret)) (.seq (rn [bk 16 .eql 12 18,mv 15 16] [1,5,12,15]) (.cond (.t 15) (.seq (rn [fa 17 1 5,l1 18 17,jj 19 (.bslice 1 [zN] [(0,1,(.t 18))]),mv 4 19] [4]) (.ret)) (.seq (rn [bk 21 .eql 12 19,mv 20 21] [1,5,20]) (.cond (.t 20) (.seq (rn [mv 22 1,bk 23 .add 22 1,fa 24 1 5,l1 25 24,jj 26 (.bslice 2 [zN,zN] [(0,1,(.t 23)),(1,1,(.t 25))]),mv 4 26] [4]) (.ret)) (.skip)))))))))) (.seq (rn [mv 27 1,bk 28 .add 27 1,jj 29 (.bslice 1 [zN] [(0,1,(.t 28))]),mv 4 29] [4]) (.ret))),false,false,false⟩
def F165:PFun:=⟨3,[],.seq (rn [bx 4 1] [0,2,4]) (.seq (rn [mv 6 2,fa 7 3 4,l1 8 7,ls 9 8,bn 10 .lss 6 9] [0,2,4,10]) (.cond (.t 10) (rn [mv 11 0,fa 12 3 4,l1 13 12,mv 14 2,jj 15 (.indexAddr 4 (.t 13) (.t 14)),la 16 4 15,cl 17 147 [11,16]] []) (.skip))),false,false,false⟩
def F166:PFun:=⟨2,[],.seq (rn [bx 3 1] [0,3]) (.seq (rn [fa 4 2 3,l1 5 4] [0,5]) (.block 0 (.seq (rn [jj 9 (.bin .eql (.t 5) (.c (.string ⟨#[115,101,108,102]⟩))),mv 8 9] [0,5,8]) (.cond (.t 8) (rn [mv 10 0,jj 11 (.call 148 [(.t 10),(kk 6),(kk 0)])] []) (.seq (rn [jj 13 (.bin .eql (.t 5) (.c (.string ⟨#[111,116,104,101,114]⟩))),mv 12 13] [0,12]) (.cond (.t 12) (rn [mv 14 0,jj 15 (.call 148 [(.t 14),(kk 7),(kk 0)])] []) (rn [mv 6 0,jj 7 (.call 148 [(.t 6),(kk 8),(kk 0)])] []))))))),false,false,false⟩
def F167:PFun:=⟨2,[],.seq (rn [bx 3 1] [0,3]) (.seq (rn [mv 4 0,la 5 4 3,jj 6 (.call 165 [(.t 4),(.t 5),(kk 0)])] [0,3]) (.seq (rn [fa 7 2 3,l1 8 7,jj 9 (.bin .eql (.t 8) (.c (.string ⟨#[45]⟩)))] [0,9]) (.cond (.t 9) (rn [mv 10 0,jj 11 (.call 148 [(.t 10),(kk 13),(kk 0)])] []) (rn [mv 12 0,jj 13 (.call 148 [(.t 12),(kk 17),(kk 0)])] [])))),false,false,false⟩
def F168:PFun:=⟨2,[],.seq (rn [bx 2 0,bx 3 1] [2,3]) (.seq (rn [fa 4 2 3,l1 5 4] [2,3,5]) (.block 0 (.seq (rn [jj 18 (.bin .eql (.t 5) (.c (.string ⟨#[38,38]⟩))),mv 17 18] [2,3,5,17]) (.cond (.t 17) (rn [l1 19 2,jj 20 (.mkfn 181 [] [(.t 2),(.t 3)]),jj 21 (.mkfn 182 [] [(.t 2),(.t 3)]),jj 22 (.mkfn 183 [] [(.t 2)]),cl 23 180 [19,20,21,22]] []) (.seq (rn [jj 25 (.bin .eql (.t 5) (.c (.string ⟨#[124,124]⟩))),mv 24 25] [2,3,5,24]) (.cond (.t 24) (rn [l1 26 2,jj 27 (.mkfn 184 [] [(.t 2),(.t 3)]),jj 28 (.mkfn 185 [] [(.t 2)]),jj 29 (.mkfn 186 [] [(.t 2),(.t 3)]),cl 30 180 [26,27,28,29]] []) (.seq (.seq (rn [jj 32 (.bin .eql (.t 5) (.c (.string ⟨#[62]⟩))),mv 31 32] [2,3,5,31]) (.cond (.t 31) (.skip) (rn [jj 33 (.bin .eql (.t 5) (.c (.string ⟨#[62,61]⟩))),mv 31 33] [2,3,5,31]))) (.cond (.t 31) (.seq (rn [l1 34 2,la 35 4 3,jj 36 (.call 165 [(.t 34),(.t 35),(kk 1)])] [2,3]) (.seq (rn [l1 37 2,la 38 4 3,jj 39 (.call 165 [(.t 37),(.t 38),(kk 0)])] [2,3]) (.region (some []) [⟨some 40,.load false 1 (.t 2),none,[3]⟩,fa 41 2 3,l1 42 41,cl 43 187 [42],jj 44 (.call 148 [(.t 40),(.t 43),(kk 0)])] [] [3,4]))) (.seq (rn [jj 46 (.bin .eql (.t 5) (.c (.string ⟨#[33,61]⟩))),mv 45 46] [2,3,45]) (.cond (.t 45) (.seq (rn [l1 47 2,la 48 4 3,jj 49 (.call 165 [(.t 47),(.t 48),(kk 0)])] [2,3]) (.seq (rn [l1 50 2,la 51 4 3,jj 52 (.call 165 [(.t 50),(.t 51),(kk 1)])] [2]) (.seq (rn [l1 53 2,jj 54 (.call 148 [(.t 53),(kk 16),(kk 0)])] [2]) (rn [l1 55 2,jj 56 (.call 148 [(.t 55),(kk 17),(kk 0)])] [])))) (.seq (rn [l1 6 2,la 7 4 3,jj 8 (.call 165 [(.t 6),(.t 7),(kk 0)])] [2,3]) (.seq (rn [l1 9 2,la 10 4 3,jj 11 (.call 165 [(.t 9),(.t 10),(kk 1)])] [2,3]) (.region (some []) [⟨some 12,.load false 1 (.t 2),none,[3]⟩,fa 13 2 3,l1 14 13,cl 15 187 [14],jj 16 (.call 148 [(.t 12),(.t 15),(kk 0)])] [] [3,4]))))))))))))),false,false,false⟩
@[simp] def F169l0x:PC:=(.seq (rn [bn 66 .lss 65 64] [2,3,64,65,66]) (.seq (.cond (.t 66) (.skip) (.exit 1)) (.seq (.block 2 (.seq (rn [mv 67 65,mv 4 67] [2,3,4,64,65]) (rn [l1 68 2,la 69 4 3,mv 70 4,cl 71 165 [68,69,70]] [2,3,64,65]))) (rn [bk 72 .add 65 1,mv 65 72] [2,3,64,65]))))
def F169l0:PC:=F169l0x
theorem qdw:run C q F169l0 fr σ = run C q F169l0x fr σ := rfl
def F169:PFun:=⟨2,[],.seq (rn [bx 2 0,bx 3 1] [2,3]) (.seq (rn [fa 5 0 3,l1 6 5] [2,3,6]) (.block 0 (.seq (rn [bk 8 .eql 6 1,mv 7 8] [2,3,6,7]) (.cond (.t 7) (.seq (rn [l1 9 2,la 10 4 3,jj 11 (.call 165 [(.t 9),(.t 10),(kk 0)])] [2,3]) (.region (some []) [l1 12 2,l1 13 2,nc 14 13,fa 15 1 14,l1 16 15,fa 17 2 3,l1 18 17,jj 19 (.lookup .s zN (.t 16) (.t 18) false),jj 20 (.call 148 [(.t 12),(kk 3),(.t 19)])] [] [8])) (.seq (rn [bk 22 .eql 6 2,mv 21 22] [2,3,6,21]) (.cond (.t 21) (.seq (rn [l1 23 2,la 24 4 3,jj 25 (.call 165 [(.t 23),(.t 24),(kk 0)])] [2,3]) (.seq (rn [l1 26 2,la 27 4 3,jj 28 (.call 165 [(.t 26),(.t 27),(kk 1)])] [2,3]) (.region (some []) [⟨some 29,.load false 1 (.t 2),none,[3]⟩,fa 30 2 3,l1 31 30,cl 32 134 [31],jj 33 (.call 148 [(.t 29),(kk 5),(.t 32)])] [] [3,4]))) (.seq (rn [bk 35 .eql 6 3,mv 34 35] [2,3,6,34]) (.cond (.t 34) (rn [l1 36 2,jj 37 (.mkfn 188 [] [(.t 2),(.t 3)]),jj 38 (.mkfn 189 [] [(.t 2),(.t 3)]),jj 39 (.mkfn 190 [] [(.t 2),(.t 3)]),cl 40 180 [36,37,38,39]] []) (.seq (rn [bk 42 .eql 6 4,mv 41 42] [2,3,6,41]) (.cond (.t 41) (rn [l1 43 2,la 44 4 3,cl 45 191 [43,44]] []) (.seq (rn [bk 47 .eql 6 5,mv 46 47] [2,3,6,46]) (.cond (.t 46) (.seq (rn [l1 48 2,la 49 4 3,jj 50 (.call 165 [(.t 48),(.t 49),(kk 0)])] [2,3]) (.seq (rn [l1 51 2,la 52 4 3,jj 53 (.call 165 [(.t 51),(.t 52),(kk 1)])] [2]) (rn [l1 54 2,jj 55 (.call 148 [(.t 54),(kk 20),(kk 0)])] []))) (.seq (rn [bk 57 .eql 6 6,mv 56 57] [2,3,6,56]) (.cond (.t 56) (rn [l1 58 2,jj 59 (.call 148 [(.t 58),(kk 21),(kk 0)])] []) (.seq (rn [bk 61 .eql 6 7,mv 60 61] [2,3,60]) (.cond (.t 60) (.seq (rn [fa 62 3 3,l1 63 62,ls 64 63,mx 65 (kk 0)] [2,3,64,65]) (.block 1 (.loop F169l0))) (.skip))))))))))))))))),false,false,false⟩
def F180:PFun:=⟨4,[],.seq (rn [mv 8 1,jj 9 (.callv (.t 8) [])] [1000000,0,2,3]) (.seq (rn [mv 10 0,mv 11 2,cl 12 200 [10,11],jj 1000000 (.defer (.t 12) [])] [1000000,3]) (rn [mv 13 3,jj 14 (.callv (.t 13) [])] [1000000])),false,true,false⟩
def F181:PFun:=⟨2,[],rn [l1 2 0,la 3 4 1,jj 4 (.call 165 [(.t 2),(.t 3),(kk 0)])] [],false,false,false⟩
def F182:PFun:=⟨2,[],rn [l1 2 0,la 3 4 1,jj 4 (.call 165 [(.t 2),(.t 3),(kk 1)])] [],false,false,false⟩
def F183:PFun:=⟨1,[],rn [l1 1 0,jj 2 (.call 148 [(.t 1),(kk 1),(kk 0)])] [],false,false,false⟩
def F184:PFun:=⟨2,[],rn [l1 2 0,la 3 4 1,jj 4 (.call 165 [(.t 2),(.t 3),(kk 0)])] [],false,false,false⟩
def F185:PFun:=⟨1,[],rn [l1 1 0,jj 2 (.call 148 [(.t 1),(kk 1),(kk 1)])] [],false,false,false⟩
def F186:PFun:=⟨2,[],rn [l1 2 0,la 3 4 1,jj 4 (.call 165 [(.t 2),(.t 3),(kk 1)])] [],false,false,false⟩
def F187:PFun:=⟨1,[.tmp 2],.seq (rn [mx 2 (kk 0)] [0]) (.seq (.seq (rn [mv 3 0] [3]) (.block 0 (.seq (rn [jj 5 (.bin .eql (.t 3) (.c (.string ⟨#[43]⟩))),mv 4 5] [3,4]) (.cond (.t 4) (.seq (rn [mx 2 (kk 9)] [2]) (.ret)) (.seq (rn [jj 7 (.bin .eql (.t 3) (.c (.string ⟨#[45]⟩))),mv 6 7] [3,6]) (.cond (.t 6) (.seq (rn [mx 2 (kk 10)] [2]) (.ret)) (.seq (rn [jj 9 (.bin .eql (.t 3) (.c (.string ⟨#[42]⟩))),mv 8 9] [3,8]) (.cond (.t 8) (.seq (rn [mx 2 (kk 11)] [2]) (.ret)) (.seq (rn [jj 11 (.bin .eql (.t 3) (.c (.string ⟨#[47]⟩))),mv 10 11] [3,10]) (.cond (.t 10) (.seq (rn [mx 2 (kk 12)] [2]) (.ret)) (.seq (.seq (rn [jj 13 (.bin .eql (.t 3) (.c (.string ⟨#[60]⟩))),mv 12 13] [3,12]) (.cond (.t 12) (.skip) (rn [jj 14 (.bin .eql (.t 3) (.c (.string ⟨#[62]⟩))),mv 12 14] [3,12]))) (.cond (.t 12) (.seq (rn [mx 2 (kk 14)] [2]) (.ret)) (.seq (.seq (rn [jj 16 (.bin .eql (.t 3) (.c (.string ⟨#[60,61]⟩))),mv 15 16] [3,15]) (.cond (.t 15) (.skip) (rn [jj 17 (.bin .eql (.t 3) (.c (.string ⟨#[62,61]⟩))),mv 15 17] [15]))) (.cond (.t 15) (.seq (rn [mx 2 (kk 15)] [2]) (.ret)) (.skip))))))))))))))) (.seq (rn [mx 2 (kk 16)] [2]) (.ret))),false,false,false⟩
def F188:PFun:=⟨2,[],rn [l1 2 0,la 3 4 1,jj 4 (.call 165 [(.t 2),(.t 3),(kk 0)])] [],false,false,false⟩
def F189:PFun:=⟨2,[],rn [l1 2 0,la 3 4 1,jj 4 (.call 165 [(.t 2),(.t 3),(kk 1)])] [],false,false,false⟩
def F190:PFun:=⟨2,[],rn [l1 2 0,la 3 4 1,jj 4 (.call 165 [(.t 2),(.t 3),(kk 2)])] [],false,false,false⟩
def F191:PFun:=⟨2,[],.seq (rn [bx 3 1] [1000000,0,3]) (.seq (rn [mv 5 0,nc 6 5,fa 7 0 6,l1 8 7,ls 9 8,mv 4 9] [1000000,0,3,4]) (.seq (rn [mv 10 0,la 11 4 3,jj 12 (.call 165 [(.t 10),(.t 11),(kk 0)])] [1000000,0,3,4]) (.seq (rn [mv 13 0,jj 14 (.call 201 [(.t 13),(kk 19)]),jj 1000000 (.defer (.t 14) [])] [1000000,0,3,4]) (.seq (rn [mv 15 0,la 16 4 3,jj 17 (.call 165 [(.t 15),(.t 16),(kk 1)])] [1000000,0,4]) (rn [mv 18 0,mv 19 4,jj 20 (.call 148 [(.t 18),(kk 18),(.t 19)])] [1000000]))))),false,true,false⟩
def F200:PFun:=⟨2,[.tmp 4],.seq (rn [jj 4 (.mov (.c .nilFunc))] [1000000,0,1]) (.seq (rn [mv 6 0,jj 7 (.call 201 [(.t 6),(kk 19)]),mv 5 7] [1000000,0,1,5]) (.seq (rn [mv 8 5,jj 1000000 (.defer (.t 8) [])] [1000000,0,1]) (.seq (rn [mv 9 1,jj 10 (.callv (.t 9) [])] [1000000,0]) (.seq (rn [mv 11 0,jj 12 (.call 201 [(.t 11),(kk 18)]),mv 4 12] [1000000,4]) (.ret))))),false,true,false⟩
def F201:PFun:=⟨2,[.tmp 4],.seq (rn [bx 2 0,jj 4 (.mov (.c .nilFunc))] [1,2]) (.seq (rn [l1 6 2,mv 7 1,jj 8 (.call 148 [(.t 6),(.t 7),(kk 0)]),jj 5 (.alloc [zN]),st 1 5 8] [2,5]) (.seq (rn [jj 9 (.mkfn 204 [] [(.t 2),(.t 5)]),mv 4 9] [4]) (.ret))),false,false,false⟩
def F204:PFun:=⟨2,[],.region (some []) [l1 2 0,nc 3 2,fa 4 0 3,l1 5 4,l1 6 1,l1 7 0,nc 8 7,fa 9 0 8,l1 10 9,ls 11 10,jj 12 (.indexAddr 2 (.t 5) (.t 6)),fa 13 1 12,st 1 13 11] [],false,false,false⟩
end Go.Pm.F
end
section
namespace Go.Pm.F
def qad:Nat->Option PFun
 |15=>some F15
 |17=>some F17
 |23=>some F23
 |32=>some F32
 |38=>some F38
 |39=>some F39
 |123=>some F123
 |125=>some F125
 |131=>some F131
 |134=>some F134
 |136=>some F136
 |137=>some F137
 |138=>some F138
 |139=>some F139
 |140=>some F140
 |147=>some F147
 |148=>some F148
 |152=>some F152
 |162=>some F162
 |163=>some F163
 |164=>some F164
 |165=>some F165
 |166=>some F166
 |167=>some F167
 |168=>some F168
 |169=>some F169
 |176=>some F176
 |177=>some F177
 |178=>some F178
 |179=>some F179
 |180=>some F180
 |181=>some F181
 |182=>some F182
 |183=>some F183
 |184=>some F184
 |185=>some F185
 |186=>some F186
 |187=>some F187
 |188=>some F188
 |189=>some F189
 |190=>some F190
 |191=>some F191
 |192=>some F192
 |193=>some F193
 |200=>some F200
 |201=>some F201
 |204=>some F204
 |_=>none
theorem qgI : ∀ f pf,qaL f=some pf->qad f=some pf:=fun f pf h=>by
 unfold qaL at h
 split at h<;>first | (cases h; rfl) | cases h
end Go.Pm.F
end
namespace Go.Pm
section
def qaZ(c:UInt8):Bool:=decide (97<=c.toNat)&&decide (c.toNat<=122)
def qau(c:UInt8):Bool:=decide (48<=c.toNat)&&decide (c.toNat<=57)
def qil(s:ByteArray):Nat->Bool->Nat->Nat
 |0,_,i=>i
 |n+1,c,i=>match s[i]? with
  |none=>i
  |some b=>if b.toNat=10 then qil s n false (i+1) else if c=true\/b.toNat=32\/b.toNat=9 then qil s n c (i+1) else if b.toNat=35 then qil s n true (i+1) else i
def quM(p:UInt8->Bool)(s:ByteArray):Nat->Nat->Nat
 |0,i=>i
 |n+1,i=>match s[i]? with
  |none=>i
  |some b=>if p b then quM p s n (i+1) else i
def qaJ(c:UInt8):Bool:=qaZ c||qau c
def digV(l:List UInt8):Nat:=l.foldl (fun v c=>10*v+(c.toNat-48)) 0
structure Tk where
 at_:Nat
 s:ByteArray
 bad:Nat
def bs(l:List UInt8):ByteArray:=⟨l.toArray⟩
def fieldNames:List ByteArray:=[bs [120],bs [121],bs [118,120],bs [118,121],bs [97],bs [98],qod,qoe]
def wordNames:List ByteArray:=[bs [111,110],bs [97,99,116],bs [116,105,99,107],qod,bs [105,102],bs [101,108,115,101],bs [119,104,105,108,101],bs [101,102,102,101,99,116],bs [115,116,111,112],bs [116,114,117,101],bs [102,97,108,115,101],bs [115,101,108,102],bs [111,116,104,101,114]]
def qeg:List ByteArray:=[bs [124,124],bs [38,38],bs [60,61],bs [62,61],bs [61,61],bs [33,61]]
def qkp:List Nat:=[123,125,91,93,40,41,61,59,44,60,62,43,45,42,47,33]
def tokAt(eS eL eR:Nat)(s:ByteArray)(i:Nat):Tk:=match s[i]? with
 |none=>⟨i,⟨#[]⟩,0⟩
 |some c=>
  if qaZ c then
   let w:=s.extract i (quM qaJ s (s.size-i) i)
   ⟨i,w,if 8<w.size/\w∉fieldNames/\w∉wordNames then eL else 0⟩
  else if qau c then
   let w:=s.extract i (quM qau s (s.size-i) i)
   ⟨i,w,if 2147483647<digV w.toList then eR else 0⟩
  else if i+2<=s.size/\s.extract i (i+2)∈qeg then ⟨i,s.extract i (i+2),0⟩
  else if c.toNat∈qkp then ⟨i,s.extract i (i+1),0⟩
  else ⟨i,s.extract i (i+1),eS⟩
def qcl(eS eL eR:Nat)(s:ByteArray):Nat->Nat->List Tk
 |0,i=>[⟨i,⟨#[]⟩,0⟩]
 |n+1,i=>
  let t:=tokAt eS eL eR s (qil s (s.size-i) false i)
  if t.bad≠0\/t.s.size=0 then [t] else t::qcl eS eL eR s n (t.at_+t.s.size)
inductive Rz(α : Type) where
 |ok (a : α) (r:List Tk)
 |er (i c:Nat)
def nx:List Tk->Option ByteArray
 |t::_=>if t.bad=0 then some t.s else none
 |[]=>none
def qct{α : Type}(c:Nat):List Tk->Rz α
 |t::_ => .er t.at_ (if t.bad=0 then c else t.bad)
 |[] => .er 0 c
def Rz.bind{α β : Type}:Rz α -> (α -> List Tk->Rz β)->Rz β
 |.ok a r,k=>k a r
 |.er i c,_ => .er i c
def qaS(eS:Nat)(x:ByteArray):List Tk->Rz Unit
 |t::r=>if t.bad=0/\t.s=x then .ok () r else qct eS (t::r)
 |[]=>qct eS []
def qeh(eS eL:Nat)(x:ByteArray)(lv:Nat)(ts:List Tk):Rz Unit:=
 if nx ts=some x/\20<lv then qct eL ts else qaS eS x ts
def qmu(prec:Nat)(s:ByteArray):Option Bop:=
 let l:List Bop:=match prec with
  |1=>[.or] | 2=>[.and] | 4=>[.lt,.le,.gt,.ge,.eq,.ne] | 5=>[.add,.sub] | 6=>[.mul,.div] | _=>[]
 l.find? fun o=>decide (o.str=s)
def qaD(p:UInt8->Bool)(s:ByteArray):Bool:=match s[0]? with
 |some c=>p c
 |none=>false
mutual
def qat(eS eL:Nat)(f:Bool):Nat->Nat->Nat->List Tk->Option (Rz E)
 |0,_,_,_=>none
 |n+1,prec,lv,ts=>
  if prec=3/\nx ts=some (ustr false)\/prec=7/\nx ts=some (ustr true) then
   match qeh eS eL (ustr (prec==7)) (lv+1) ts with
   |.er i c=>some (.er i c)
   |.ok _ r=>match qat eS eL f n prec (lv+1) r with
    |some (.ok e r')=>some (.ok (.un f (prec==7) e) r')
    |x=>x
  else if prec<8 then
   match qat eS eL f n (prec+1) lv ts with
   |some (.ok e r)=>qcP eS eL f n prec lv e r
   |x=>x
  else match nx ts with
   |none=>some (qct eS ts)
   |some s=>
    if qaD qau s then some (.ok (.int (digV s.toList)) ts.tail)
    else if s=bs [116,114,117,101] then some (.ok (.bool 1) ts.tail)
    else if s=bs [102,97,108,115,101] then some (.ok (.bool 0) ts.tail)
    else if s=bs [115,101,108,102]\/s=bs [111,116,104,101,114]\/s=bs [116,105,99,107] then some (.ok (.name s) ts.tail)
    else if s∈fieldNames then match qck eS eL f n lv ts.tail with
     |some (.ok e r)=>some (.ok (.field f s e) r)
     |x=>x
    else if qaD qaZ s/\s∉wordNames then some (.ok (.var s) ts.tail)
    else match qeh eS eL (bs [40]) (lv+1) ts with
     |.er i c=>some (.er i c)
     |.ok _ r=>match qat eS eL f n 1 (lv+1) r with
      |some (.ok e r')=>match qaS eS (bs [41]) r' with
       |.ok _ r''=>some (.ok e r'')
       |.er i c=>some (.er i c)
      |x=>x
def qcP(eS eL:Nat)(f:Bool):Nat->Nat->Nat->E->List Tk->Option (Rz E)
 |0,_,_,_,_=>none
 |n+1,prec,lv,e,ts=>match nx ts with
  |none=>if prec=3\/prec=7 then some (.ok e ts) else some (qct eS ts)
  |some s=>match qmu prec s with
   |none=>some (.ok e ts)
   |some o=>match qat eS eL f n (prec+1) lv ts.tail with
    |some (.ok e' r)=>if prec=4 then some (.ok (.bin f o e e') r) else qcP eS eL f n prec lv (.bin f o e e') r
    |x=>x
def qck(eS eL:Nat)(f:Bool):Nat->Nat->List Tk->Option (Rz E)
 |0,_,_=>none
 |n+1,lv,ts=>match qeh eS eL (bs [91]) (lv+1) ts with
  |.er i c=>some (.er i c)
  |.ok _ r=>match qat eS eL f n 1 (lv+1) r with
   |some (.ok e r')=>match qaS eS (bs [93]) r' with
    |.ok _ r''=>some (.ok e r'')
    |.er i c=>some (.er i c)
   |x=>x
end
end
section
def qb3{α : Type}(eS:Nat)(a : α)(ts:List Tk):Rz α := match qaS eS (bs [59]) ts with
 |.ok _ r => .ok a r
 |.er i c => .er i c
mutual
def qdo(eS eL:Nat)(f fi fb:Bool):Nat->Nat->List Tk->Option (Rz Ss)
 |0,_,_=>none
 |n+1,lv,ts=>match nx ts with
  |none=>some (qct eS ts)
  |some s=>
   if s=bs [105,102] then match qat eS eL f n 1 lv ts.tail with
    |some (.ok c r)=>match qbz eS eL f fi fb n (lv+1) r with
     |some (.ok b r1)=>match nx r1 with
      |none=>some (qct eS r1)
      | some w=>if w=bs [101,108,115,101] then match qbz eS eL f fi fb n (lv+1) r1.tail with
        |some (.ok b2 r2)=>some (.ok (.cond false fi c (.block fb b (.block fb b2 .nil)) .nil) r2)
        |some (.er i k)=>some (.er i k)
        |none=>none
       else some (.ok (.cond false fi c (.block fb b (.block fb .nil .nil)) .nil) r1)
     |some (.er i k)=>some (.er i k)
     |none=>none
    |some (.er i k)=>some (.er i k)
    |none=>none
   else if s=bs [119,104,105,108,101] then match qat eS eL f n 1 lv ts.tail with
    |some (.ok c r)=>match qbz eS eL f fi fb n (lv+1) r with
     |some (.ok b r1)=>some (.ok (.cond true f c (.block fb b .nil) .nil) r1)
     |some (.er i k)=>some (.er i k)
     |none=>none
    |some (.er i k)=>some (.er i k)
    |none=>none
   else if s=bs [101,102,102,101,99,116] then match qat eS eL f n 1 lv ts.tail with
    |some (.ok a r)=>match qaS eS (bs [44]) r with
     |.ok _ r1=>match qat eS eL f n 1 lv r1 with
      |some (.ok b r2)=>some (qb3 eS (.effect f a b .nil) r2)
      |some (.er i k)=>some (.er i k)
      |none=>none
     |.er i k=>some (.er i k)
    |some (.er i k)=>some (.er i k)
    |none=>none
   else if s=bs [115,116,111,112] then some (qb3 eS (.stop .nil) ts.tail)
   else if s∈fieldNames then match qck eS eL f n lv ts.tail with
    |some (.ok a r)=>match qaS eS (bs [61]) r with
     |.ok _ r1=>match qat eS eL f n 1 lv r1 with
      |some (.ok b r2)=>some (qb3 eS (.store f s a b .nil) r2)
      |some (.er i k)=>some (.er i k)
      |none=>none
     |.er i k=>some (.er i k)
    |some (.er i k)=>some (.er i k)
    |none=>none
   else if qaD qaZ s/\s∉wordNames then match qaS eS (bs [61]) ts.tail with
    |.ok _ r1=>match qat eS eL f n 1 lv r1 with
     |some (.ok b r2)=>some (qb3 eS (.assign f s b .nil) r2)
     |some (.er i k)=>some (.er i k)
     |none=>none
    |.er i k=>some (.er i k)
   else some (qct eS ts)
def qbz(eS eL:Nat)(f fi fb:Bool):Nat->Nat->List Tk->Option (Rz Ss)
 |0,_,_=>none
 |n+1,lv,ts=>match qeh eS eL (bs [123]) lv ts with
  |.er i k=>some (.er i k)
  |.ok _ r=>qcK eS eL f fi fb n lv .nil r
def qcK(eS eL:Nat)(f fi fb:Bool):Nat->Nat->Ss->List Tk->Option (Rz Ss)
 |0,_,_,_=>none
 |n+1,lv,a,ts=>match nx ts with
  |none=>some (qct eS ts)
  |some s=>if s=bs [125] then some (.ok a ts.tail) else match qdo eS eL f fi fb n lv ts with
   |some (.ok b r)=>qcK eS eL f fi fb n lv (a.app b) r
   |some (.er i k)=>some (.er i k)
   |none=>none
end
def qb6(s:ByteArray):Option Nat:=
 if s=bs [97,99,116] then some 0 else if s=bs [116,105,99,107] then some 1 else if s=qod then some 2 else none
def qdX(eS eL eD:Nat)(f fi fb:Bool):Nat->(Nat->Option Ss)->List Tk->Option (Rz (Nat->Option Ss))
 |0,_,_=>none
 |n+1,h,ts=>match nx ts with
  |none=>some (qct eS ts)
  |some s=>if s.size=0 then some (.ok h ts) else match qaS eS (bs [111,110]) ts with
   |.er i k=>some (.er i k)
   |.ok _ r=>match nx r with
    |none=>some (qct eS r)
    |some w=>match qb6 w with
     |none=>some (qct eS r)
     |some k=>if (h k).isSome then some (qct eD r) else match qbz eS eL f fi fb n 1 r.tail with
      |some (.ok b r1)=>qdX eS eL eD f fi fb n (fun i=>if i=k then some b else h i) r1
      |some (.er i c)=>some (.er i c)
      |none=>none
end
section
def Fin{α : Type}(m:Nat)(x:Option (Rz α)):Prop := ∃ y,x=some y /\ ∀ a r,y = .ok a r->r.length<=m
theorem qc2{α : Type}(m c:Nat)(ts:List Tk):Fin (α := α) m (some (qct c ts)):=⟨_,rfl,fun a r h=>by cases ts<;>cases h⟩
theorem qbQ{α : Type}(m i c:Nat):Fin (α := α) m (some (.er i c)):=⟨_,rfl,fun a r h=>by cases h⟩
theorem qcL{α : Type}{m:Nat}(a : α){ts:List Tk}(h:ts.length<=m):Fin m (some (.ok a ts)):=⟨_,rfl,fun a r e=>by cases e; exact h⟩
theorem qiC{ts:List Tk}{s:ByteArray}(h:nx ts=some s):ts.tail.length+1=ts.length:=by
 cases ts with
 |nil=>cases h
 |cons t r=>rfl
theorem qcd{eS:Nat}{x:ByteArray}{ts r:List Tk}{u:Unit}(h:qaS eS x ts = .ok u r):r.length+1=ts.length:=by
 cases ts with
 |nil=>cases h
 |cons t r'=>
  simp only[qaS] at h
  split at h
  ·cases h; rfl
  ·cases h
theorem qgC{eS eL:Nat}{x:ByteArray}{lv:Nat}{ts r:List Tk}{u:Unit}(h:qeh eS eL x lv ts = .ok u r):r.length+1=ts.length:=by
 unfold qeh at h
 split at h
 ·cases ts<;>cases h
 ·exact qcd h
theorem qlI (eS eL:Nat) (f:Bool) : ∀ n:Nat,
  (∀ prec lv ts,1<=prec->prec<=8->10*ts.length+(10-prec)<=n->Fin (ts.length-1) (qat eS eL f n prec lv ts)) /\
  (∀ prec lv e ts,1<=prec->prec<=7->10*ts.length+1<=n->Fin ts.length (qcP eS eL f n prec lv e ts)) /\
  (∀ lv ts,10*ts.length+1<=n->Fin (ts.length-1) (qck eS eL f n lv ts))
 |0=>⟨fun p lv ts h1 h2 h=>by omega,fun p lv e ts h1 h2 h=>by omega,fun lv ts h=>by omega⟩
 |n+1=>by
  obtain⟨ihe,ihl,ihi⟩:=qlI eS eL f n
  refine⟨fun p lv ts h1 h2 h=>?_,fun p lv e ts h1 h2 h=>?_,fun lv ts h=>?_⟩
  ·simp only[qat]
   split
   ·split
    ·exact qbQ _ _ _
    ·rename_i u r ho
     have hl:=qgC ho
     obtain⟨y,hy,hr⟩:=ihe p (lv+1) r h1 h2 (by omega)
     rw[hy]
     cases y with
     |er i c=>exact qbQ _ _ _
     |ok e r'=>have:=hr e r' rfl; exact qcL _ (by omega)
   ·split
    ·obtain⟨y,hy,hr⟩:=ihe (p+1) lv ts (by omega) (by omega) (by omega)
     rw[hy]
     cases y with
     |er i c=>exact qbQ _ _ _
     |ok e r=>
      have:=hr e r rfl
      obtain⟨z,hz,hr2⟩:=ihl p lv e r h1 (by omega) (by omega)
      exact⟨z,hz,fun a q hq=>by have:=hr2 a q hq; omega⟩
    ·cases hn:nx ts with
     |none=>exact qc2 _ _ _
     |some s=>
      have hp:=qiC hn
      simp only
      split
      ·exact qcL _ (by omega)
      split
      ·exact qcL _ (by omega)
      split
      ·exact qcL _ (by omega)
      split
      ·exact qcL _ (by omega)
      split
      ·obtain⟨y,hy,hr⟩:=ihi lv ts.tail (by omega)
       rw[hy]
       cases y with
       |er i c=>exact qbQ _ _ _
       |ok e r'=>have:=hr e r' rfl; exact qcL _ (by omega)
      split
      ·exact qcL _ (by omega)
      split
      ·exact qbQ _ _ _
      ·rename_i u r ho
       have hl:=qgC ho
       obtain⟨y,hy,hr⟩:=ihe 1 (lv+1) r (by omega) (by omega) (by omega)
       rw[hy]
       cases y with
       |er i c=>exact qbQ _ _ _
       |ok e r'=>
        have:=hr e r' rfl
        simp only
        split
        ·rename_i u' r'' hx; have:=qcd hx; exact qcL _ (by omega)
        ·exact qbQ _ _ _
  ·simp only[qcP]
   cases hn:nx ts with
   |none=>
    simp only
    split
    ·exact qcL _ (Wp _)
    ·exact qc2 _ _ _
   |some s=>
    have hp:=qiC hn
    simp only
    split
    ·exact qcL _ (Wp _)
    ·obtain⟨y,hy,hr⟩:=ihe (p+1) lv ts.tail (by omega) (by omega) (by omega)
     rw[hy]
     cases y with
     |er i c=>exact qbQ _ _ _
     |ok e' r=>
      have:=hr e' r rfl
      simp only
      split
      ·exact qcL _ (by omega)
      ·obtain⟨z,hz,hr2⟩:=ihl p lv (.bin f _ e e') r h1 h2 (by omega)
       exact⟨z,hz,fun a q hq=>by have:=hr2 a q hq; omega⟩
  ·simp only[qck]
   split
   ·exact qbQ _ _ _
   ·rename_i u r ho
    have hl:=qgC ho
    obtain⟨y,hy,hr⟩:=ihe 1 (lv+1) r (by omega) (by omega) (by omega)
    rw[hy]
    cases y with
    |er i c=>exact qbQ _ _ _
    |ok e r'=>
     have:=hr e r' rfl
     simp only
     split
     ·rename_i u' r'' hx; have:=qcd hx; exact qcL _ (by omega)
     ·exact qbQ _ _ _
end
section
theorem qia{α : Type}{eS m:Nat}{a : α}{ts:List Tk}(h:ts.length<=m+1):Fin m (some (qb3 eS a ts)):=by
 unfold qb3
 split
 ·rename_i u r hx; have:=qcd hx; exact qcL _ (by omega)
 ·exact qbQ _ _ _
theorem qib (eS eL:Nat) (f fi fb:Bool) : ∀ n:Nat,
  (∀ lv ts,10*ts.length+1<=n->Fin (ts.length-1) (qdo eS eL f fi fb n lv ts)) /\
  (∀ lv ts,10*ts.length+1<=n->Fin (ts.length-1) (qbz eS eL f fi fb n lv ts)) /\
  (∀ lv a ts,10*ts.length+2<=n->Fin (ts.length-1) (qcK eS eL f fi fb n lv a ts))
 |0=>⟨fun lv ts h=>by omega,fun lv ts h=>by omega,fun lv a ts h=>by omega⟩
 |n+1=>by
  obtain⟨ihs,ihb,ihl⟩:=qib eS eL f fi fb n
  obtain⟨ihe,_,ihi⟩:=qlI eS eL f n
  refine⟨fun lv ts h=>?_,fun lv ts h=>?_,fun lv a ts h=>?_⟩
  ·simp only[qdo]
   cases hn:nx ts with
   |none=>exact qc2 _ _ _
   |some s=>
    have hp:=qiC hn
    simp only
    have he:=ihe 1 lv ts.tail (by omega) (by omega) (by omega)
    obtain⟨y,hy,hr⟩:=he
    split
    ·rw[hy]
     cases y with
     |er i c=>exact qbQ _ _ _
     |ok e r=>
      have h1:=hr e r rfl
      obtain⟨y1,hy1,hr1⟩:=ihb (lv+1) r (by omega)
      simp only[hy1]
      cases y1 with
      |er i c=>exact qbQ _ _ _
      |ok b r1=>
       have h2:=hr1 b r1 rfl
       simp only
       cases hn1:nx r1 with
       |none=>exact qc2 _ _ _
       |some w=>
        have hp1:=qiC hn1
        simp only
        split
        ·obtain⟨y2,hy2,hr2⟩:=ihb (lv+1) r1.tail (by omega)
         rw[hy2]
         cases y2 with
         |er i c=>exact qbQ _ _ _
         |ok b2 r2=>have h3:=hr2 b2 r2 rfl; exact qcL _ (by omega)
        ·exact qcL _ (by omega)
    split
    ·rw[hy]
     cases y with
     |er i c=>exact qbQ _ _ _
     |ok e r=>
      have h1:=hr e r rfl
      obtain⟨y1,hy1,hr1⟩:=ihb (lv+1) r (by omega)
      simp only[hy1]
      cases y1 with
      |er i c=>exact qbQ _ _ _
      |ok b r1=>have h2:=hr1 b r1 rfl; exact qcL _ (by omega)
    have second : ∀ (r:List Tk) (g:E->Ss),r.length+1<=ts.length->Fin (ts.length-1) (match qat eS eL f n 1 lv r with
      |some (.ok b r2)=>some (qb3 eS (g b) r2)
      |some (.er i k)=>some (.er i k)
      |none=>none):=fun r g hr=>by
     obtain⟨y1,hy1,hr1⟩:=ihe 1 lv r (by omega) (by omega) (by omega)
     rw[hy1]
     cases y1 with
     |er i c=>exact qbQ _ _ _
     |ok b r2=>have h2:=hr1 b r2 rfl; exact qia (by omega)
    split
    ·rw[hy]
     cases y with
     |er i c=>exact qbQ _ _ _
     |ok e r=>
      have h1:=hr e r rfl
      simp only
      split
      ·rename_i u r1 hx
       have:=qcd hx
       exact second r1 (fun b => .effect f e b .nil) (by omega)
      ·exact qbQ _ _ _
    split
    ·exact qia (by omega)
    split
    ·obtain⟨y1,hy1,hr1⟩:=ihi lv ts.tail (by omega)
     rw[hy1]
     cases y1 with
     |er i c=>exact qbQ _ _ _
     |ok e r=>
      have h1:=hr1 e r rfl
      simp only
      split
      ·rename_i u r1 hx
       have:=qcd hx
       exact second r1 (fun b => .store f s e b .nil) (by omega)
      ·exact qbQ _ _ _
    split
    ·split
     ·rename_i u r1 hx
      have:=qcd hx
      exact second r1 (fun b => .assign f s b .nil) (by omega)
     ·exact qbQ _ _ _
    ·exact qc2 _ _ _
  ·simp only[qbz]
   split
   ·exact qbQ _ _ _
   ·rename_i u r ho
    have hl:=qgC ho
    obtain⟨y,hy,hr⟩:=ihl lv .nil r (by omega)
    exact⟨y,hy,fun a q hq=>by have:=hr a q hq; omega⟩
  ·simp only[qcK]
   cases hn:nx ts with
   |none=>exact qc2 _ _ _
   |some s=>
    have hp:=qiC hn
    simp only
    split
    ·exact qcL _ (by omega)
    ·obtain⟨y,hy,hr⟩:=ihs lv ts (by omega)
     rw[hy]
     cases y with
     |er i c=>exact qbQ _ _ _
     |ok b r=>
      have h1:=hr b r rfl
      obtain⟨z,hz,hr2⟩:=ihl lv (a.app b) r (by omega)
      exact⟨z,hz,fun a q hq=>by have:=hr2 a q hq; omega⟩
theorem qk8(eS eL eD:Nat)(f fi fb:Bool) : ∀ (n:Nat) h ts,10*ts.length+2<=n->Fin ts.length (qdX eS eL eD f fi fb n h ts)
 |0,h,ts,hn=>by omega
 |n+1,h,ts,hn=>by
  simp only[qdX]
  cases hx:nx ts with
  |none=>exact qc2 _ _ _
  |some s=>
   have hp:=qiC hx
   simp only
   split
   ·exact qcL _ (Wp _)
   split
   ·exact qbQ _ _ _
   ·rename_i u r hr
    have h1:=qcd hr
    cases hw:nx r with
    |none=>exact qc2 _ _ _
    |some w=>
     have hp1:=qiC hw
     simp only
     split
     ·exact qc2 _ _ _
     ·rename_i k hk
      split
      ·exact qc2 _ _ _
      ·obtain⟨y,hy,hr⟩:=(qib eS eL f fi fb n).2.1 1 r.tail (by omega)
       rw[hy]
       cases y with
       |er i c=>exact qbQ _ _ _
       |ok b r1=>
        have h2:=hr b r1 rfl
        obtain⟨z,hz,hr2⟩:=qk8 eS eL eD f fi fb n (fun i=>if i=k then some b else h i) r1 (by omega)
        exact⟨z,hz,fun a q hq=>by have:=hr2 a q hq; omega⟩
end
section
abbrev byl(s:ByteArray):List UInt8:=s.data.toList
theorem qbM(l:List UInt8):byl (bs l)=l:=by simp[byl,bs]
theorem qdg(s:ByteArray):bs (byl s)=s:=by cases s; simp[bs,byl]
theorem qaU(s:ByteArray):(byl s).length=s.size:=WI
theorem qaz(l:List UInt8):(bs l).size=l.length:=rfl
theorem ql5{a b:List UInt8}(h:bs a=bs b):a=b:=by rw[<- qbM a,h,qbM]
theorem qm3{a b:ByteArray}(h:byl a=byl b):a=b:=by rw[<- qdg a,h,qdg]
theorem qhh(s:ByteArray)(i:Nat):s[i]?=((byl s).drop i).head?:=by
 rw[List.head?_drop]
 by_cases h:i<s.size
 ·rw[getElem?_pos s i h,WM (by rw[qaU]; exact h)]
  simp[byl,ByteArray.getElem_eq_getElem_data]
 ·rw[getElem?_neg s i h,W6 (by rw[qaU]; omega)]
theorem qcD(s:ByteArray)(i k:Nat):s.extract i (i+k)=bs (((byl s).drop i).take k):=by
 apply qm3
 rw[qbM]
 simp only[byl,ByteArray.data_extract,Array.toList_extract,List.extract_eq_take_drop]
 rw[show i+k-i=k by omega]
def qa9:Bool->List UInt8->Nat
 |_,[]=>0
 |c,b::r=>if b.toNat=10 then qa9 false r+1 else if c=true\/b.toNat=32\/b.toNat=9 then qa9 c r+1 else if b.toNat=35 then qa9 true r+1 else 0
def qbJ(p:UInt8->Bool):List UInt8->Nat
 |[]=>0
 |b::r=>if p b then qbJ p r+1 else 0
theorem qh7 : ∀ (l:List UInt8) (c:Bool),qa9 c l<=l.length
 |[],c=>by simp[qa9]
 |b::r,c=>by
  have h1:=qh7 r false
  have h2:=qh7 r c
  have h3:=qh7 r true
  simp only[qa9,Wf]
  split
  ·omega
  split
  ·omega
  split<;>omega
theorem qgc(p:UInt8->Bool) : ∀ l:List UInt8,qbJ p l<=l.length
 |[]=>by simp[qbJ]
 |b::r=>by
  have h1:=qgc p r
  simp only[qbJ,Wf]
  split<;>omega
def tokL(eS eL eR:Nat):List UInt8->List UInt8 × Nat
 |[]=>([],0)
 |c::r=>
  if qaZ c then ((c::r).take (qbJ qaJ (c::r)),if 8<qbJ qaJ (c::r)/\bs ((c::r).take (qbJ qaJ (c::r)))∉fieldNames/\bs ((c::r).take (qbJ qaJ (c::r)))∉wordNames then eL else 0)
  else if qau c then ((c::r).take (qbJ qau (c::r)),if 2147483647<digV ((c::r).take (qbJ qau (c::r))) then eR else 0)
  else if bs ((c::r).take 2)∈qeg then ((c::r).take 2,0)
  else if c.toNat∈qkp then ([c],0)
  else ([c],eS)
def qux(eS eL eR:Nat):Nat->Nat->List UInt8->List Tk
 |0,i,_=>[⟨i,⟨#[]⟩,0⟩]
 |n+1,i,l=>
  if (tokL eS eL eR (l.drop (qa9 false l))).2≠0\/(tokL eS eL eR (l.drop (qa9 false l))).1.length=0 then [⟨i+qa9 false l,bs (tokL eS eL eR (l.drop (qa9 false l))).1,(tokL eS eL eR (l.drop (qa9 false l))).2⟩]
  else ⟨i+qa9 false l,bs (tokL eS eL eR (l.drop (qa9 false l))).1,(tokL eS eL eR (l.drop (qa9 false l))).2⟩::qux eS eL eR n (i+qa9 false l+(tokL eS eL eR (l.drop (qa9 false l))).1.length) ((l.drop (qa9 false l)).drop (tokL eS eL eR (l.drop (qa9 false l))).1.length)
theorem qk0(s:ByteArray) : ∀ (n:Nat) (c:Bool) (i:Nat),s.size-i<=n->qil s n c i=i+qa9 c ((byl s).drop i)
 |0,c,i,h=>by
  have:(byl s).drop i=[]:=WW (by rw[qaU]; omega)
  rw[this]
  simp[qil,qa9]
 |n+1,c,i,h=>by
  rw[qil,qhh]
  cases hd:(byl s).drop i with
  |nil=>simp[qa9]
  |cons b r=>
   have hr:(byl s).drop (i+1)=r:=by rw[<- List.drop_drop,hd]; rfl
   have ih:=fun c=>qk0 s n c (i+1) (by omega)
   simp only[List.head?_cons,qa9,ih,hr]
   split
   ·omega
   split
   ·omega
   split<;>omega
theorem qrw(p:UInt8->Bool)(s:ByteArray) : ∀ (n i:Nat),s.size-i<=n->quM p s n i=i+qbJ p ((byl s).drop i)
 |0,i,h=>by
  have:(byl s).drop i=[]:=WW (by rw[qaU]; omega)
  rw[this]
  simp[quM,qbJ]
 |n+1,i,h=>by
  rw[quM,qhh]
  cases hd:(byl s).drop i with
  |nil=>simp[qbJ]
  |cons b r=>
   have hr:(byl s).drop (i+1)=r:=by rw[<- List.drop_drop,hd]; rfl
   have ih:=qrw p s n (i+1) (by omega)
   simp only[List.head?_cons,qbJ,ih,hr]
   split<;>omega
theorem qfH{w:ByteArray}(h:w∈qeg):w.size=2:=by
 simp only[qeg,Wu,Ww,or_false] at h
 rcases h with h|h|h|h|h|h<;>rw[h]<;>rfl
theorem qd3(eS eL eR:Nat)(s:ByteArray)(i:Nat):tokAt eS eL eR s i=⟨i,bs (tokL eS eL eR ((byl s).drop i)).1,(tokL eS eL eR ((byl s).drop i)).2⟩:=by
 unfold tokAt
 rw[qhh]
 cases hd:(byl s).drop i with
 |nil=>rfl
 |cons c r=>
  have hlen:s.size-i=r.length+1:=by
   have:=congrArg List.length hd
   rw[W5,qaU,Wf] at this
   exact this
  have e1 : ∀ p,s.extract i (quM p s (s.size-i) i)=bs ((c::r).take (qbJ p (c::r))):=fun p=>by
   rw[qrw p s _ i (Wp _),qcD,hd]
  have e2:s.extract i (i+2)=bs ((c::r).take 2):=by rw[qcD,hd]
  have e3:s.extract i (i+1)=bs [c]:=by rw[qcD,hd]; rfl
  have hw : ∀ p,((c::r).take (qbJ p (c::r))).length=qbJ p (c::r):=fun p=>by
   rw[WS,Nat.min_eq_left (qgc p _)]
  simp only[List.head?_cons,e1,e2,e3,tokL,qaz,hw,qbM,ByteArray.toList_eq]
  split
  ·rfl
  split
  ·simp[bs]
  have e4:(i+2<=s.size/\bs ((c::r).take 2)∈qeg)↔bs ((c::r).take 2)∈qeg:=by
   refine⟨fun h=>h.2,fun h=>⟨?_,h⟩⟩
   have:=qfH h
   rw[qaz,WS,Wf] at this
   omega
  simp only[e4]
  split
  ·rfl
  split<;>rfl
theorem qoh(eS eL eR:Nat)(s:ByteArray) : ∀ (n i:Nat),qcl eS eL eR s n i=qux eS eL eR n i ((byl s).drop i)
 |0,i=>rfl
 |n+1,i=>by
  rw[qcl,qux]
  simp only[qk0 s _ false i (Nat.le_refl _),qd3,qaz,<- List.drop_drop,qoh eS eL eR s n,List.drop_drop]
end
section
def qcn(p:Bool)(t:ByteArray):Bool:=match (byl t).getLast? with
 |some c=>qaJ c
 |none=>p
def gap(p:Bool)(t:ByteArray):List UInt8:=if p&&qaD qaJ t then [32] else []
def qar:Bool->List ByteArray->List UInt8
 |_,[]=>[]
 |p,t::ts=>gap p t++(byl t++qar (qcn p t) ts)
def qvR(p:Bool)(ts:List ByteArray):Bool:=ts.foldl qcn p
theorem qh1 : ∀ (a b:List ByteArray) (p:Bool),qar p (a++b)=qar p a++qar (qvR p a) b
 |[],b,p=>rfl
 |t::a,b,p=>by simp only[Wi,qar,qh1 a b,Wj,qvR,W8]
theorem qbe(p:UInt8->Bool)(t:ByteArray):qaD p t=match (byl t).head? with|some c=>p c|none=>false:=by
 unfold qaD
 rw[qhh,WT]
 all_goals (cases (byl t).head?<;>rfl)
def Tg(w:List UInt8):Prop:=
 (∃ c r,w=c::r/\qaZ c=true/\(∀ b∈r,qaJ b=true) /\ ¬ (8<w.length/\bs w∉fieldNames/\bs w∉wordNames)) \/
 (∃ c r,w=c::r/\qau c=true/\(∀ b∈r,qau b=true)/\digV w<=2147483647) \/
 bs w∈qeg \/ ∃ c,w=[c]/\c.toNat∈qkp
def Fol:List UInt8->List UInt8->Prop
 |c::r,d::_=>if qaZ c then qaJ d=false else if qau c then qau d=false else r=[]->bs [c,d]∉qeg
 |_,_=>True
theorem qkF(p:UInt8->Bool) : ∀ (w r:List UInt8),(∀ b∈w,p b=true)->(∀ d,r.head?=some d->p d=false)->qbJ p (w++r)=w.length
 |[],[],_,_=>rfl
 |[],d::r,_,h=>by simp[qbJ,h d rfl]
 |b::w,r,h,h2=>by
  simp only[Wi,qbJ,h b (WQ ..),if_true,Wf]
  rw[qkF p w r (fun x hx=>h x (WH _ hx)) h2]
theorem qnI{c:UInt8}(h:qaZ c=true):qaJ c=true:=by simp[qaJ,h]
theorem qnJ{c:UInt8}(h:qau c=true):qaJ c=true:=by simp[qaJ,h]
theorem pair_cases{w:List UInt8}(h:bs w∈qeg):w=[124,124]\/w=[38,38]\/w=[60,61]\/w=[62,61]\/w=[61,61]\/w=[33,61]:=by
 simp only[qeg,Wu,Ww,or_false] at h
 rcases h with h|h|h|h|h|h<;>have:=ql5 h<;>simp[this]
theorem qe8{c:UInt8}(h:c.toNat∈qkp):c=123\/c=125\/c=91\/c=93\/c=40\/c=41\/c=61\/c=59\/c=44\/c=60\/c=62\/c=43\/c=45\/c=42\/c=47\/c=33:=by
 simp only[qkp,Wu,Ww,or_false] at h
 simp only[<- UInt8.toNat_inj]
 exact h
theorem qqy(eS eL eR:Nat){w rest:List UInt8}(h:Tg w)(hf:Fol w rest):tokL eS eL eR (w++rest)=(w,0):=by
 have take_len : ∀ k,k=w.length->(w++rest).take k=w:=fun k hk=>by rw[hk,List.take_left]
 rcases h with ⟨c,r,rfl,hc,hr,hb⟩|⟨c,r,rfl,hc,hr,hb⟩|hp|⟨c,rfl,hc⟩
 ·have hrun:qbJ qaJ (c::r++rest)=(c::r).length:=by
   apply qkF
   ·intro b hb'
    rcases Wu.1 hb' with rfl|hb'
    ·exact qnI hc
    ·exact hr b hb'
   ·intro d hd
    cases rest with
    |nil=>cases hd
    |cons e rest=>
     cases hd
     simp only[Fol,hc,if_true] at hf
     exact hf
  have ht:=take_len _ rfl
  simp only[Wi] at hrun ht ⊢
  simp only[tokL,hc,if_true,hrun,ht,if_neg hb]
 ·have hnl:qaZ c=false:=by
   simp only[qau,qaZ,Wv,decide_eq_true_eq,WX,decide_eq_false_iff_not] at hc ⊢
   omega
  have hrun:qbJ qau (c::r++rest)=(c::r).length:=by
   apply qkF
   ·intro b hb'
    rcases Wu.1 hb' with rfl|hb'
    ·exact hc
    ·exact hr b hb'
   ·intro d hd
    cases rest with
    |nil=>cases hd
    |cons e rest=>
     cases hd
     simp only[Fol,hc,hnl,if_true] at hf
     exact hf
  have ht:=take_len _ hrun
  simp only[Wi] at hrun ht ⊢
  simp only[tokL,hc,hnl,if_true,ht,if_neg (YN.2 hb)]
  simp
 ·rcases pair_cases hp with rfl|rfl|rfl|rfl|rfl|rfl<;>simp[tokL,qaZ,qau,hp]
 ·have h2:bs ((c::rest).take 2)∉qeg:=by
   cases rest with
   |nil=>intro h; have:=qfH h; rw[qaz] at this; simp at this
   |cons d rest=>
    have hl:qaZ c=false/\qau c=false:=by rcases qe8 hc with rfl|rfl|rfl|rfl|rfl|rfl|rfl|rfl|rfl|rfl|rfl|rfl|rfl|rfl|rfl|rfl<;>exact⟨rfl,rfl⟩
    simp only[Fol,hl.1,hl.2] at hf
    simpa using hf
  have hl:qaZ c=false/\qau c=false:=by rcases qe8 hc with rfl|rfl|rfl|rfl|rfl|rfl|rfl|rfl|rfl|rfl|rfl|rfl|rfl|rfl|rfl|rfl<;>exact⟨rfl,rfl⟩
  simp only[Wi,Wc,tokL,hl.1,hl.2,if_neg h2,if_pos hc,Wo,if_false]
theorem qf1{w:List UInt8}(h:Tg w) : ∃ c r,w=c::r/\c.toNat≠10/\c.toNat≠32/\c.toNat≠9/\c.toNat≠35:=by
 rcases h with ⟨c,r,rfl,hc,hr,hb⟩|⟨c,r,rfl,hc,hr,hb⟩|hp|⟨c,rfl,hc⟩
 ·simp only[qaZ,Wv,decide_eq_true_eq] at hc
  exact⟨c,r,rfl,by omega,by omega,by omega,by omega⟩
 ·simp only[qau,Wv,decide_eq_true_eq] at hc
  exact⟨c,r,rfl,by omega,by omega,by omega,by omega⟩
 ·rcases pair_cases hp with rfl|rfl|rfl|rfl|rfl|rfl<;>exact⟨_,_,rfl,by decide,by decide,by decide,by decide⟩
 ·rcases qe8 hc with rfl|rfl|rfl|rfl|rfl|rfl|rfl|rfl|rfl|rfl|rfl|rfl|rfl|rfl|rfl|rfl<;>exact⟨_,_,rfl,by decide,by decide,by decide,by decide⟩
def Adj(t u:ByteArray):Prop:=(t≠bs [60]/\t≠bs [62]/\t≠bs [61]/\t≠bs [33])\/(byl u).head?≠some 61
def Ok2:List ByteArray->Prop
 |[]=>True
 |t::r=>Tg (byl t)/\(∀ u,r.head?=some u->Adj t u)/\Ok2 r
theorem qqz{w:List UInt8}{p:Bool}(h:bs w∈qeg \/ ∃ c,w=[c]/\c.toNat∈qkp):qcn p (bs w)=false:=by
 unfold qcn
 rw[qbM]
 rcases h with hp|⟨c,rfl,hc⟩
 ·rcases pair_cases hp with rfl|rfl|rfl|rfl|rfl|rfl<;>rfl
 ·rcases qe8 hc with rfl|rfl|rfl|rfl|rfl|rfl|rfl|rfl|rfl|rfl|rfl|rfl|rfl|rfl|rfl|rfl<;>rfl
theorem qoT{w:List UInt8}{p:Bool}(h : ∃ c r,w=c::r/\qaJ c=true /\ ∀ b∈r,qaJ b=true):qcn p (bs w)=true:=by
 obtain⟨c,r,rfl,hc,hr⟩:=h
 unfold qcn
 rw[qbM]
 cases hl:(c::r).getLast? with
 |none=>simp at hl
 |some b=>
  have:=List.mem_of_getLast? hl
  rcases Wu.1 this with rfl|h
  ·exact hc
  ·exact hr b h
theorem qsH{p:Bool}{t u:ByteArray}(ht:Tg (byl t))(hu:Tg (byl u))(ha:Adj t u)(r:List UInt8):Fol (byl t) (gap (qcn p t) u++(byl u++r)):=by
 obtain⟨d,w,hd,-⟩:=qf1 hu
 have hs:qaD qaJ u=qaJ d:=by rw[qbe,hd]; rfl
 have hword:(∃ c r,byl t=c::r/\qaJ c=true /\ ∀ b∈r,qaJ b=true) -> ∀ e q,gap (qcn p t) u++(byl u++r)=e::q->qaJ e=false:=fun h e q he=>by
  have h1:qcn p t=true:=by
   have:=qoT (p:=p) h
   rwa [qdg] at this
  rw[h1,gap,hs,hd] at he
  cases hwd:qaJ d with
  |true=>simp[hwd] at he; rw[<- he.1]; rfl
  |false=>simp[hwd] at he; rw[<- he.1]; exact hwd
 cases he:gap (qcn p t) u++(byl u++r) with
 |nil=>cases byl t<;>trivial
 |cons e q=>
  rcases ht with ⟨c,r',hw,hc,hr,hb⟩|⟨c,r',hw,hc,hr,hb⟩|hp|⟨c,hw,hc⟩
  ·have:=hword ⟨c,r',hw,qnI hc,hr⟩ e q he
   rw[hw]
   simp only[Fol,hc,if_true]
   exact this
  ·have:=hword ⟨c,r',hw,qnJ hc,fun b h=>qnJ (hr b h)⟩ e q he
   rw[hw]
   have hnl:qaZ c=false:=by
    simp only[qau,qaZ,Wv,decide_eq_true_eq,WX,decide_eq_false_iff_not] at hc ⊢
    omega
   simp only[Fol,hc,hnl,if_true]
   simp only[qaJ,Bool.or_eq_false_iff] at this
   exact this.2
  ·rcases pair_cases hp with h|h|h|h|h|h<;>rw[h]<;>simp[Fol,qaZ,qau]
  ·have h1:qcn p t=false:=by
    have:=qqz (p:=p) (.inr ⟨c,hw,hc⟩)
    rwa [qdg] at this
   rw[h1,gap,hd] at he
   simp at he
   have hed:e=d:=he.1.symm
   rw[hw]
   have hl:qaZ c=false/\qau c=false:=by rcases qe8 hc with rfl|rfl|rfl|rfl|rfl|rfl|rfl|rfl|rfl|rfl|rfl|rfl|rfl|rfl|rfl|rfl<;>exact⟨rfl,rfl⟩
   simp only[Fol,hl.1,hl.2]
   simp only[Wo,if_false]
   intro _ hpr
   have htb:t=bs [c]:=by rw[<- qdg t,hw]
   rw[hed] at hpr
   rcases ha with ⟨a1,a2,a3,a4⟩|ha
   ·rcases pair_cases hpr with h|h|h|h|h|h<;>simp only[WU,and_true] at h
    ·rw[h.1] at hc; simp[qkp] at hc
    ·rw[h.1] at hc; simp[qkp] at hc
    ·exact a1 (by rw[htb,h.1])
    ·exact a2 (by rw[htb,h.1])
    ·exact a3 (by rw[htb,h.1])
    ·exact a4 (by rw[htb,h.1])
   ·rw[hd] at ha
    simp only[List.head?_cons] at ha
    rcases pair_cases hpr with h|h|h|h|h|h<;>simp only[WU,and_true] at h
    ·rw[h.1] at hc; simp[qkp] at hc
    ·rw[h.1] at hc; simp[qkp] at hc
    ·exact ha (by rw[h.2])
    ·exact ha (by rw[h.2])
    ·exact ha (by rw[h.2])
    ·exact ha (by rw[h.2])
end
section
variable{eS eL eD:Nat}{f fi fb:Bool}
theorem qeF : ∀ n:Nat,
  (∀ p lv ts x,qat eS eL f n p lv ts=some x->qat eS eL f (n+1) p lv ts=some x) /\
  (∀ p lv e ts x,qcP eS eL f n p lv e ts=some x->qcP eS eL f (n+1) p lv e ts=some x) /\
  (∀ lv ts x,qck eS eL f n lv ts=some x->qck eS eL f (n+1) lv ts=some x)
 |0=>⟨fun p lv ts x h=>by simp[qat] at h,fun p lv e ts x h=>by simp[qcP] at h,fun lv ts x h=>by simp[qck] at h⟩
 |n+1=>by
  obtain⟨ihe,ihl,ihi⟩:=qeF n
  refine⟨fun p lv ts x h=>?_,fun p lv e ts x h=>?_,fun lv ts x h=>?_⟩
  ·rw[qat] at h ⊢
   split at h
   ·rename_i c1
    rw[if_pos c1]
    cases ho:qeh eS eL (ustr (p==7)) (lv+1) ts with
    |er i c=>simp only[ho] at h ⊢; exact h
    |ok u r=>
     simp only[ho] at h ⊢
     cases hq:qat eS eL f n p (lv+1) r with
     |none=>simp[hq] at h
     |some y=>rw[ihe _ _ _ _ hq]; rw[hq] at h; exact h
   ·rename_i c1
    rw[if_neg c1]
    split at h
    ·rename_i c2
     rw[if_pos c2]
     cases hq:qat eS eL f n (p+1) lv ts with
     |none=>simp[hq] at h
     |some y=>
      rw[ihe _ _ _ _ hq]; rw[hq] at h
      cases y with
      |er i c=>exact h
      |ok e r=>exact ihl _ _ _ _ _ h
    ·rename_i c2
     rw[if_neg c2]
     cases hn:nx ts with
     |none=>simp only[hn] at h ⊢; exact h
     |some s=>
      simp only[hn] at h ⊢
      split at h
      ·rename_i c; rw[if_pos c]; exact h
      rename_i c; rw[if_neg c]
      split at h
      ·rename_i c; rw[if_pos c]; exact h
      rename_i c; rw[if_neg c]
      split at h
      ·rename_i c; rw[if_pos c]; exact h
      rename_i c; rw[if_neg c]
      split at h
      ·rename_i c; rw[if_pos c]; exact h
      rename_i c; rw[if_neg c]
      split at h
      ·rename_i c; rw[if_pos c]
       cases hq:qck eS eL f n lv ts.tail with
       |none=>simp[hq] at h
       |some y=>rw[ihi _ _ _ hq]; rw[hq] at h; exact h
      rename_i c; rw[if_neg c]
      split at h
      ·rename_i c; rw[if_pos c]; exact h
      rename_i c; rw[if_neg c]
      cases ho:qeh eS eL (bs [40]) (lv+1) ts with
      |er i c=>simp only[ho] at h ⊢; exact h
      |ok u r=>
       simp only[ho] at h ⊢
       cases hq:qat eS eL f n 1 (lv+1) r with
       |none=>simp[hq] at h
       |some y=>rw[ihe _ _ _ _ hq]; rw[hq] at h; exact h
  ·rw[qcP] at h ⊢
   cases hn:nx ts with
   |none=>simp only[hn] at h ⊢; exact h
   |some s=>
    simp only[hn] at h ⊢
    cases ho:qmu p s with
    |none=>simp only[ho] at h ⊢; exact h
    |some o=>
     simp only[ho] at h ⊢
     cases hq:qat eS eL f n (p+1) lv ts.tail with
     |none=>simp[hq] at h
     |some y=>
      rw[ihe _ _ _ _ hq]; rw[hq] at h
      cases y with
      |er i c=>exact h
      |ok e' r=>
       simp only at h ⊢
       split at h
       ·rename_i c; rw[if_pos c]; exact h
       ·rename_i c; rw[if_neg c]; exact ihl _ _ _ _ _ h
  ·rw[qck] at h ⊢
   cases ho:qeh eS eL (bs [91]) (lv+1) ts with
   |er i c=>simp only[ho] at h ⊢; exact h
   |ok u r=>
    simp only[ho] at h ⊢
    cases hq:qat eS eL f n 1 (lv+1) r with
    |none=>simp[hq] at h
    |some y=>rw[ihe _ _ _ _ hq]; rw[hq] at h; exact h
theorem qbf{n m p lv:Nat}{ts:List Tk}{x:Rz E}(h:qat eS eL f n p lv ts=some x)(hm:n<=m):qat eS eL f m p lv ts=some x:=by
 induction hm with
 |refl=>exact h
 |step _ ih=>exact (qeF _).1 _ _ _ _ ih
theorem qjH{n m p lv:Nat}{e:E}{ts:List Tk}{x:Rz E}(h:qcP eS eL f n p lv e ts=some x)(hm:n<=m):qcP eS eL f m p lv e ts=some x:=by
 induction hm with
 |refl=>exact h
 |step _ ih=>exact (qeF _).2.1 _ _ _ _ _ ih
theorem qiF{n m lv:Nat}{ts:List Tk}{x:Rz E}(h:qck eS eL f n lv ts=some x)(hm:n<=m):qck eS eL f m lv ts=some x:=by
 induction hm with
 |refl=>exact h
 |step _ ih=>exact (qeF _).2.2 _ _ _ ih
theorem qeG : ∀ n:Nat,
  (∀ lv ts x,qdo eS eL f fi fb n lv ts=some x->qdo eS eL f fi fb (n+1) lv ts=some x) /\
  (∀ lv ts x,qbz eS eL f fi fb n lv ts=some x->qbz eS eL f fi fb (n+1) lv ts=some x) /\
  (∀ lv a ts x,qcK eS eL f fi fb n lv a ts=some x->qcK eS eL f fi fb (n+1) lv a ts=some x)
 |0=>⟨fun lv ts x h=>by simp[qdo] at h,fun lv ts x h=>by simp[qbz] at h,fun lv a ts x h=>by simp[qcK] at h⟩
 |n+1=>by
  obtain⟨ihs,ihb,ihl⟩:=qeG n
  refine⟨fun lv ts x h=>?_,fun lv ts x h=>?_,fun lv a ts x h=>?_⟩
  ·have second : ∀ (r:List Tk) (g:E->Ss) y,(match qat eS eL f n 1 lv r with
      |some (.ok b r2)=>some (qb3 eS (g b) r2)
      |some (.er i k)=>some (.er i k)
      |none=>none)=some y->(match qat eS eL f (n+1) 1 lv r with
      |some (.ok b r2)=>some (qb3 eS (g b) r2)
      |some (.er i k)=>some (.er i k)
      |none=>none)=some y:=fun r g y hy=>by
     cases hq:qat eS eL f n 1 lv r with
     |none=>simp[hq] at hy
     |some z=>rw[qbf hq (Yz n)]; rw[hq] at hy; exact hy
   rw[qdo] at h ⊢
   cases hn:nx ts with
   |none=>simp only[hn] at h ⊢; exact h
   |some s=>
    simp only[hn] at h ⊢
    split at h
    ·rename_i c; rw[if_pos c]
     cases hq:qat eS eL f n 1 lv ts.tail with
     |none=>simp[hq] at h
     |some y=>
      rw[qbf hq (Yz n)]; rw[hq] at h
      cases y with
      |er i c=>exact h
      |ok e r=>
       simp only at h ⊢
       cases hb:qbz eS eL f fi fb n (lv+1) r with
       |none=>simp[hb] at h
       |some z=>
        rw[ihb _ _ _ hb]; rw[hb] at h
        cases z with
        |er i c=>exact h
        |ok b r1=>
         simp only at h ⊢
         cases hn1:nx r1 with
         |none=>simp only[hn1] at h ⊢; exact h
         |some w=>
          simp only[hn1] at h ⊢
          split at h
          ·rename_i c'; rw[if_pos c']
           cases hb2:qbz eS eL f fi fb n (lv+1) r1.tail with
           |none=>simp[hb2] at h
           |some z2=>rw[ihb _ _ _ hb2]; rw[hb2] at h; exact h
          ·rename_i c'; rw[if_neg c']; exact h
    rename_i c; rw[if_neg c]
    split at h
    ·rename_i c; rw[if_pos c]
     cases hq:qat eS eL f n 1 lv ts.tail with
     |none=>simp[hq] at h
     |some y=>
      rw[qbf hq (Yz n)]; rw[hq] at h
      cases y with
      |er i c=>exact h
      |ok e r=>
       simp only at h ⊢
       cases hb:qbz eS eL f fi fb n (lv+1) r with
       |none=>simp[hb] at h
       |some z=>rw[ihb _ _ _ hb]; rw[hb] at h; exact h
    rename_i c; rw[if_neg c]
    split at h
    ·rename_i c; rw[if_pos c]
     cases hq:qat eS eL f n 1 lv ts.tail with
     |none=>simp[hq] at h
     |some y=>
      rw[qbf hq (Yz n)]; rw[hq] at h
      cases y with
      |er i c=>exact h
      |ok e r=>
       simp only at h ⊢
       cases hx:qaS eS (bs [44]) r with
       |er i c=>simp only[hx] at h ⊢; exact h
       |ok u r1=>simp only[hx] at h ⊢; exact second r1 (fun b => .effect f e b .nil) x h
    rename_i c; rw[if_neg c]
    split at h
    ·rename_i c; rw[if_pos c]; exact h
    rename_i c; rw[if_neg c]
    split at h
    ·rename_i c; rw[if_pos c]
     cases hq:qck eS eL f n lv ts.tail with
     |none=>simp[hq] at h
     |some y=>
      rw[qiF hq (Yz n)]; rw[hq] at h
      cases y with
      |er i c=>exact h
      |ok e r=>
       simp only at h ⊢
       cases hx:qaS eS (bs [61]) r with
       |er i c=>simp only[hx] at h ⊢; exact h
       |ok u r1=>simp only[hx] at h ⊢; exact second r1 (fun b => .store f s e b .nil) x h
    rename_i c; rw[if_neg c]
    split at h
    ·rename_i c; rw[if_pos c]
     cases hx:qaS eS (bs [61]) ts.tail with
     |er i c=>simp only[hx] at h ⊢; exact h
     |ok u r1=>simp only[hx] at h ⊢; exact second r1 (fun b => .assign f s b .nil) x h
    ·rename_i c; rw[if_neg c]; exact h
  ·rw[qbz] at h ⊢
   cases ho:qeh eS eL (bs [123]) lv ts with
   |er i c=>simp only[ho] at h ⊢; exact h
   |ok u r=>simp only[ho] at h ⊢; exact ihl _ _ _ _ h
  ·rw[qcK] at h ⊢
   cases hn:nx ts with
   |none=>simp only[hn] at h ⊢; exact h
   |some s=>
    simp only[hn] at h ⊢
    split at h
    ·rename_i c; rw[if_pos c]; exact h
    ·rename_i c; rw[if_neg c]
     cases hq:qdo eS eL f fi fb n lv ts with
     |none=>simp[hq] at h
     |some y=>
      rw[ihs _ _ _ hq]; rw[hq] at h
      cases y with
      |er i c=>exact h
      |ok b r=>exact ihl _ _ _ _ h
theorem qjI{n m lv:Nat}{ts:List Tk}{x:Rz Ss}(h:qdo eS eL f fi fb n lv ts=some x)(hm:n<=m):qdo eS eL f fi fb m lv ts=some x:=by
 induction hm with
 |refl=>exact h
 |step _ ih=>exact (qeG _).1 _ _ _ ih
theorem qcU{n m lv:Nat}{ts:List Tk}{x:Rz Ss}(h:qbz eS eL f fi fb n lv ts=some x)(hm:n<=m):qbz eS eL f fi fb m lv ts=some x:=by
 induction hm with
 |refl=>exact h
 |step _ ih=>exact (qeG _).2.1 _ _ _ ih
theorem qmL{n m lv:Nat}{a:Ss}{ts:List Tk}{x:Rz Ss}(h:qcK eS eL f fi fb n lv a ts=some x)(hm:n<=m):qcK eS eL f fi fb m lv a ts=some x:=by
 induction hm with
 |refl=>exact h
 |step _ ih=>exact (qeG _).2.2 _ _ _ _ ih
theorem qiG : ∀ (n:Nat) h ts x,qdX eS eL eD f fi fb n h ts=some x->qdX eS eL eD f fi fb (n+1) h ts=some x
 |0,h,ts,x,e=>by simp[qdX] at e
 |n+1,h,ts,x,e=>by
  rw[qdX] at e ⊢
  cases hn:nx ts with
  |none=>simp only[hn] at e ⊢; exact e
  |some s=>
   simp only[hn] at e ⊢
   split at e
   ·rename_i c; rw[if_pos c]; exact e
   rename_i c; rw[if_neg c]
   cases hx:qaS eS (bs [111,110]) ts with
   |er i c=>simp only[hx] at e ⊢; exact e
   |ok u r=>
    simp only[hx] at e ⊢
    cases hn2:nx r with
    |none=>simp only[hn2] at e ⊢; exact e
    |some w=>
     simp only[hn2] at e ⊢
     cases hh:qb6 w with
     |none=>simp only[hh] at e ⊢; exact e
     |some k=>
      simp only[hh] at e ⊢
      split at e
      ·rename_i c; rw[if_pos c]; exact e
      rename_i c; rw[if_neg c]
      cases hb:qbz eS eL f fi fb n 1 r.tail with
      |none=>simp[hb] at e
      |some y=>
       rw[qcU hb (Yz n)]; rw[hb] at e
       cases y with
       |er i c=>exact e
       |ok b r1=>exact qiG n _ _ _ e
theorem qg3{n m:Nat}{h:Nat->Option Ss}{ts:List Tk}{x:Rz (Nat->Option Ss)}(e:qdX eS eL eD f fi fb n h ts=some x)(hm:n<=m):qdX eS eL eD f fi fb m h ts=some x:=by
 induction hm with
 |refl=>exact e
 |step _ ih=>exact qiG _ _ _ _ ih
end
end Go.Pm
