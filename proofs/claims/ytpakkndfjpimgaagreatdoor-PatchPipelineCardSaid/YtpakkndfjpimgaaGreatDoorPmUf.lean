/- The rule language in plain Lean: what Parse makes of a source is good and no longer; printed, it is read back. No program in sight. -/
import Derived.Test.YtpakkndfjpimgaaGreatDoorPmAL
import Derived.Test.YtpakkndfjpimgaaGreatDoorPmDh
import Derived.Test.YtpakkndfjpimgaaGreatDoorPmR
import Derived.Test.YtpakkndfjpimgaaGreatDoorPmN5
import Derived.Test.YtpakkndfjpimgaaGreatDoorPmF4
import Derived.Test.YtpakkndfjpimgaaGreatDoorPmYh
set_option linter.unusedSimpArgs false
set_option linter.unusedVariables false
set_option maxHeartbeats 4000000
namespace Go.Pm
section
theorem qrG{f fi fb:Bool}{s:ByteArray}(hs : ¬ 2000<s.size){y:Rz (Nat->Option Ss)}(h : ∃ n,qdX 12 2 4 f fi fb n (fun _=>none) (qk6 s)=some y):qhE f fi fb s=y:=by
 obtain⟨n,h⟩:=h
 have h1:=qg3 h (WF n (10*(qk6 s).length+10))
 have h2:=qg3 (qiW (f:=f) (fi:=fi) (fb:=fb) hs) (WC n (10*(qk6 s).length+10))
 rw[h1] at h2
 exact (WD h2).symm
theorem qrH{ts:List ByteArray}(hcl:Ok2 ts) : ∃ e,Hx ts (qk6 (bs (qar false ts))) [⟨e,⟨#[]⟩,0⟩]:=by
 obtain⟨l,hl,hm⟩ : ∃ l:List (List UInt8 × ByteArray),OkG l/\l.map (·.2)=ts/\qfJ l=qar false ts:=by
  have key : ∀ (ts:List ByteArray) (p:Bool),Ok2 ts -> ∃ l:List (List UInt8 × ByteArray),OkG l/\l.map (·.2)=ts/\qfJ l=qar p ts/\(∀ q,l.head?=some q -> ∃ t,ts.head?=some t/\q=(gap p t,t)):=by
   intro ts
   induction ts with
   |nil=>intro p _; exact⟨[],trivial,rfl,rfl,fun q h=>by cases h⟩
   |cons t ts ih=>
    intro p ho
    obtain⟨l,l1,l2,l3,l4⟩:=ih (qcn p t) ho.2.2
    have hwg:qpF (gap p t):=by
     unfold gap
     split
     ·exact qpG (.inl rfl)
     ·exact qlb
    refine⟨(gap p t,t)::l,⟨hwg,ho.1,fun q hq=>?_,l1⟩,by simp[l2],by simp[qfJ,qar,l3],fun q hq=>⟨t,rfl,by cases hq; rfl⟩⟩
    obtain⟨u,hu,rfl⟩:=l4 q hq
    have hadj:=ho.2.1 u hu
    simp only
    by_cases hgap:(qcn p t&&qaD qaJ u)=true
    ·left
     exact⟨32,[],by simp[gap,hgap],.inl rfl⟩
    ·right
     have hgap':(qcn p t&&qaD qaJ u)=false:=by simpa using hgap
     refine⟨by simp[gap,hgap'],?_,hadj⟩
     rw[qrY ho.1 false p]
     exact hgap'
  obtain⟨l,l1,l2,l3,_⟩:=key ts false hcl
  exact⟨l,l1,l2,l3⟩
 have:=qov 12 2 6 hl qlb (.inl rfl) (s:=bs (qar false ts)) (by rw[qbM,hm.2,Wr])
 rw[hm.1] at this
 exact this
theorem qpq{h:Nat->Option Ss}(hg : ∀ k,qhC (h k)) : ∃ e,Hx (qcM h) (qk6 (bs (qar false (qcM h)))) [⟨e,⟨#[]⟩,0⟩]:=qrH (qvO hg).ok
theorem qm7{f fi fb:Bool}{h:Nat->Option Ss}(hg : ∀ k,qhC (h k))(hs:(qar false (qcM h)).length<=2000) : ∃ r,qhE f fi fb (bs (qar false (qcM h))) = .ok (fun k=>if k<3 then (h k).map (·.fl f fi fb) else none) r:=by
 obtain⟨e,hx⟩:=qpq hg
 exact⟨_,qrG (by rw[qaz]; omega) (rbP hg hx rfl)⟩
end
end Go.Pm
section
namespace Go.Pm.F
variable(C:Task->Option Res)(q:Nat)(fr:Fr)(σ : S)
def F227:PFun:=⟨1,[.tmp 2],.seq (rn [jj 2 (.mov (.c (.string ⟨#[]⟩)))] [0]) (.seq (rn [mv 3 0,cl 4 123 [3],cl 5 236 [4],mv 2 5] [2]) (.ret)),false,false,false⟩
def F234:PFun:=⟨1,[.tmp 2],.seq (rn [bx 1 0,jj 2 (.mov (.c (.string ⟨#[]⟩)))] [1]) (.seq (rn [la 3 4 1,jj 4 (.call 246 [(.t 3),(kk 1),kF]),mv 2 4] [2]) (.ret)),false,false,false⟩
@[simp] def F236l0x:PC:=(.seq (.seq (rn [mv 5 4,bk 6 .lss 5 3] [1,3,4,6]) (.cond (.t 6) (.skip) (.exit 0))) (.seq (.block 1 (.seq (rn [mv 9 4,fa 10 0 1,jj 11 (.indexAddrA 3 4 (.t 10) (.t 9)),fa 12 0 11,l1 13 12,bk 14 .neq 13 0] [1,3,4,14]) (.cond (.t 14) (.region (some []) [mv 15 3,jj 16 (.call 152 []),mv 17 4,jj 18 (.indexAddr 1 (.t 16) (.t 17)),⟨some 19,.load false 1 (.t 18),none,[9]⟩,mv 20 4,fa 21 0 1,jj 22 (.indexAddrA 3 4 (.t 21) (.t 20)),⟨some 23,.load true 4 (.t 22),none,[1]⟩,cl 24 248 [23],jj 25 (.bslice 4 [eN,eN,eN,eN] [(0,1,(.t 15)),(1,1,(.c (.string ⟨#[111,110]⟩))),(2,1,(.t 19)),(3,1,(.t 24))]),cl 26 247 [25],mv 3 26] [1,3,4] [9,11]) (.skip)))) (rn [mv 7 4,bk 8 .add 7 1,mv 4 8] [1,3,4])))
def F236l0:PC:=F236l0x
theorem qhf:run C q F236l0 fr σ = run C q F236l0x fr σ := rfl
def F236:PFun:=⟨1,[.tmp 2],.seq (rn [bx 1 0,jj 2 (.mov (.c (.string ⟨#[]⟩)))] [1]) (.seq (rn [jj 3 (.mov (.c (.string ⟨#[]⟩)))] [1,3]) (.seq (.seq (rn [mx 4 (kk 0)] [1,3,4]) (.block 0 (.loop F236l0))) (.seq (rn [mv 27 3,mv 2 27] [2]) (.ret)))),false,false,false⟩
def F246:PFun:=⟨3,[.tmp 6],.seq (rn [bx 3 0,jj 6 (.mov (.c (.string ⟨#[]⟩)))] [1,2,3]) (.seq (rn [la 10 4 3,cl 11 261 [10],mv 7 11] [1,2,3,7]) (.seq (rn [fa 12 2 3,l1 13 12,mv 8 13] [1,2,3,7,8]) (.seq (.seq (rn [fa 14 0 3,l1 15 14,bk 16 .eql 15 8] [1,2,3,7,8,16]) (.cond (.t 16) (rn [fa 17 1 3,l1 18 17,cl 19 20 [18],mv 8 19] [1,2,3,7,8]) (.skip))) (.seq (.seq (rn [fa 20 0 3,l1 21 20,bk 22 .eql 21 9] [1,2,3,7,8,22]) (.cond (.t 22) (.seq (rn [jj 8 (.mov (.c (.string ⟨#[102,97,108,115,101]⟩)))] [1,2,3,7,8]) (.seq (rn [fa 23 1 3,l1 24 23,bk 25 .eql 24 1] [1,2,3,7,8,25]) (.cond (.t 25) (rn [jj 8 (.mov (.c (.string ⟨#[116,114,117,101]⟩)))] [1,2,3,7,8]) (.skip)))) (.skip))) (.seq (.seq (rn [fa 26 0 3,l1 27 26,bk 28 .eql 27 11] [1,2,3,7,8,28]) (.cond (.t 28) (.region (some []) [fa 29 2 3,⟨some 30,.load false 1 (.t 29),none,[7]⟩,fa 31 3 3,l1 32 31,jj 33 (.indexAddr 4 (.t 32) (kk 0)),la 34 4 33,mv 35 2,jj 36 (.call 246 [(.t 34),(kk 1),(.t 35)]),jj 37 (.bslice 4 [eN,eN,eN,eN] [(0,1,(.t 30)),(1,1,(.c (.string ⟨#[91]⟩))),(2,1,(.t 36)),(3,1,(.c (.string ⟨#[93]⟩)))]),cl 38 247 [37],mv 8 38] [1,2,3,7,8] [7,9]) (.skip))) (.seq (.seq (rn [fa 39 0 3,l1 40 39,bk 41 .eql 40 13] [1,2,3,7,8,41]) (.cond (.t 41) (.region (some []) [fa 42 2 3,⟨some 43,.load false 1 (.t 42),none,[8]⟩,fa 44 3 3,l1 45 44,jj 46 (.indexAddr 4 (.t 45) (kk 0)),la 47 4 46,mv 48 7,mv 49 2,cl 50 246 [47,48,49],jj 51 (.bslice 2 [eN,eN] [(0,1,(.t 43)),(1,1,(.t 50))]),cl 52 247 [51],mv 8 52] [1,2,3,7,8] [8,10]) (.skip))) (.seq (.seq (rn [fa 53 0 3,l1 54 53,bk 55 .eql 54 14] [1,2,3,7,8,55]) (.cond (.t 55) (.seq (rn [mv 56 7,mv 9 56] [1,2,3,7,9]) (.seq (.seq (rn [mv 57 7,bk 58 .eql 57 4] [1,2,3,7,9,58]) (.cond (.t 58) (rn [mx 9 (kk 5)] [1,2,3,7,9]) (.skip))) (.region (some []) [fa 59 3 3,l1 60 59,jj 61 (.indexAddr 4 (.t 60) (kk 0)),la 62 4 61,mv 63 9,mv 64 2,cl 65 246 [62,63,64],fa 66 2 3,⟨some 67,.load false 1 (.t 66),none,[6,16]⟩,fa 68 3 3,⟨some 69,.load false 1 (.t 68),none,[6]⟩,jj 70 (.indexAddr 4 (.t 69) (kk 1)),⟨some 71,.load true 4 (.t 70),none,[6]⟩,mv 72 7,bk 73 .add 72 1,mv 74 2,cl 75 246 [71,73,74],jj 76 (.bslice 3 [eN,eN,eN] [(0,1,(.t 65)),(1,1,(.t 67)),(2,1,(.t 75))]),cl 77 247 [76],mv 8 77] [1,2,7,8] [16,18]))) (.skip))) (.seq (.seq (rn [mv 78 7,mv 79 1,bn 80 .lss 78 79,mv 81 80,jf 82 81 (.mov (.t 2)),jf 83 81 (.mov (.t 82)),jt 84 83 (.mov (.t 7)),jt 85 83 (.bin .lss (.t 84) (kk 8)),jf 86 81 (.pick (.t 83) (.t 85) kF),jj 87 (.pick (.t 81) kT (.t 86))] [8,87]) (.cond (.t 87) (.seq (rn [mv 88 8,jj 89 (.bin .add (.c (.string ⟨#[40]⟩)) (.t 88)),jj 90 (.bin .add (.t 89) (.c (.string ⟨#[41]⟩))),mv 6 90] [6]) (.ret)) (.skip))) (.seq (rn [mv 91 8,mv 6 91] [6]) (.ret)))))))))),false,false,false⟩
@[simp] def F247l0x:PC:=(.seq (.seq (rn [mv 5 4,mv 6 0,ls 7 6,bn 8 .lss 5 7] [0,3,4,8]) (.cond (.t 8) (.skip) (.exit 0))) (.seq (.block 1 (rn [mv 11 3,mv 12 0,mv 13 4,jj 14 (.indexAddr 1 (.t 12) (.t 13)),l1 15 14,cl 16 262 [11,15],mv 3 16] [0,3,4])) (rn [mv 9 4,bk 10 .add 9 1,mv 4 10] [0,3,4])))
def F247l0:PC:=F247l0x
theorem qj0:run C q F247l0 fr σ = run C q F247l0x fr σ := rfl
def F247:PFun:=⟨1,[.tmp 2],.seq (rn [jj 2 (.mov (.c (.string ⟨#[]⟩)))] [0]) (.seq (rn [jj 3 (.mov (.c (.string ⟨#[]⟩)))] [0,3]) (.seq (.seq (rn [mx 4 (kk 0)] [0,3,4]) (.block 0 (.loop F247l0))) (.seq (rn [mv 17 3,mv 2 17] [2]) (.ret)))),false,false,false⟩
@[simp] def F248l0x:PC:=(.seq (.seq (rn [mv 5 4,fa 6 3 1,l1 7 6,ls 8 7,bn 9 .lss 5 8] [1,3,4,9]) (.cond (.t 9) (.skip) (.exit 0))) (.seq (.block 1 (rn [mv 12 3,fa 13 3 1,l1 14 13,mv 15 4,jj 16 (.indexAddr 4 (.t 14) (.t 15)),la 17 4 16,cl 18 263 [17],cl 19 262 [12,18],mv 3 19] [1,3,4])) (rn [mv 10 4,bk 11 .add 10 1,mv 4 11] [1,3,4])))
def F248l0:PC:=F248l0x
theorem qhg:run C q F248l0 fr σ = run C q F248l0x fr σ := rfl
def F248:PFun:=⟨1,[.tmp 2],.seq (rn [bx 1 0,jj 2 (.mov (.c (.string ⟨#[]⟩)))] [1]) (.seq (rn [jj 3 (.mov (.c (.string ⟨#[123]⟩)))] [1,3]) (.seq (.seq (rn [mx 4 (kk 0)] [1,3,4]) (.block 0 (.loop F248l0))) (.seq (rn [mv 20 3,jj 21 (.bin .add (.t 20) (.c (.string ⟨#[125]⟩))),mv 2 21] [2]) (.ret)))),false,false,false⟩
def F261:PFun:=⟨1,[.tmp 2],.seq (rn [bx 1 0,mx 2 (kk 0)] [1]) (.seq (.seq (rn [fa 3 0 1,l1 4 3,bk 5 .eql 4 13] [1,5]) (.cond (.t 5) (.seq (.seq (rn [fa 6 2 1,l1 7 6,jj 8 (.bin .eql (.t 7) (.c (.string ⟨#[33]⟩)))] [8]) (.cond (.t 8) (.seq (rn [mx 2 (kk 3)] [2]) (.ret)) (.skip))) (.seq (rn [mx 2 (kk 7)] [2]) (.ret))) (.skip))) (.seq (.seq (rn [fa 9 0 1,l1 10 9,bk 11 .neq 10 14] [1,11]) (.cond (.t 11) (.seq (rn [mx 2 (kk 8)] [2]) (.ret)) (.skip))) (.seq (.seq (rn [fa 12 2 1,l1 13 12,jj 14 (.bin .eql (.t 13) (.c (.string ⟨#[124,124]⟩)))] [1,14]) (.cond (.t 14) (.seq (rn [mx 2 (kk 1)] [2]) (.ret)) (.skip))) (.seq (.seq (rn [fa 15 2 1,l1 16 15,jj 17 (.bin .eql (.t 16) (.c (.string ⟨#[38,38]⟩)))] [1,17]) (.cond (.t 17) (.seq (rn [mx 2 (kk 2)] [2]) (.ret)) (.skip))) (.seq (.seq (rn [fa 18 2 1,l1 19 18,jj 20 (.bin .eql (.t 19) (.c (.string ⟨#[43]⟩))),mv 21 20,jf 22 21 (.fieldAddr 2 (.t 1)),jf 23 21 (.load false 1 (.t 22)),jf 24 21 (.bin .eql (.t 23) (.c (.string ⟨#[45]⟩))),jj 25 (.pick (.t 21) kT (.t 24))] [1,25]) (.cond (.t 25) (.seq (rn [mx 2 (kk 5)] [2]) (.ret)) (.skip))) (.seq (.seq (rn [fa 26 2 1,l1 27 26,jj 28 (.bin .eql (.t 27) (.c (.string ⟨#[42]⟩))),mv 29 28,jf 30 29 (.fieldAddr 2 (.t 1)),jf 31 29 (.load false 1 (.t 30)),jf 32 29 (.bin .eql (.t 31) (.c (.string ⟨#[47]⟩))),jj 33 (.pick (.t 29) kT (.t 32))] [33]) (.cond (.t 33) (.seq (rn [mx 2 (kk 6)] [2]) (.ret)) (.skip))) (.seq (rn [mx 2 (kk 4)] [2]) (.ret)))))))),false,false,false⟩
def F262:PFun:=⟨2,[.tmp 4],.seq (rn [jj 4 (.mov (.c (.string ⟨#[]⟩)))] [0,1]) (.seq (.seq (rn [mv 7 0,jj 8 (.bin .neq (.t 7) (.c (.string ⟨#[]⟩))),mv 9 8,jt 10 9 (.mov (.t 1)),jt 11 9 (.bin .neq (.t 10) (.c (.string ⟨#[]⟩))),jj 12 (.pick (.t 9) (.t 11) kF)] [0,1,12]) (.cond (.t 12) (.seq (rn [mv 13 0,mv 14 0,lz 15 14,bk 16 .sub 15 1,jj 17 (.indexS (.t 13) (.t 16)),mv 5 17] [0,1,5]) (.seq (rn [mv 18 1,jj 19 (.indexS (.t 18) (kk 0)),mv 6 19] [0,1,5,6]) (.seq (rn [mv 20 5,cl 21 192 [20],mv 22 21,jf 23 22 (.mov (.t 5)),jf 24 22 (.call 193 [(.t 23)]),jj 25 (.pick (.t 22) kT (.t 24)),mv 26 25,jt 27 26 (.mov (.t 6)),jt 28 26 (.call 192 [(.t 27)]),jt 29 26 (.mov (.t 28)),jf 30 29 (.mov (.t 6)),jf 31 29 (.call 193 [(.t 30)]),jt 32 26 (.pick (.t 29) kT (.t 31)),jj 33 (.pick (.t 26) (.t 32) kF)] [0,1,33]) (.cond (.t 33) (.seq (rn [mv 34 0,jj 35 (.bin .add (.t 34) (.c (.string ⟨#[32]⟩))),mv 36 1,bn 37 .add 35 36,mv 4 37] [4]) (.ret)) (.skip))))) (.skip))) (.seq (rn [mv 38 0,mv 39 1,bn 40 .add 38 39,mv 4 40] [4]) (.ret))),false,false,false⟩
def F263:PFun:=⟨1,[.tmp 2],.seq (rn [bx 1 0,jj 2 (.mov (.c (.string ⟨#[]⟩)))] [1]) (.seq (.seq (rn [fa 4 0 1,l1 5 4] [1,5]) (.block 0 (.seq (rn [bk 7 .eql 5 1,mv 6 7] [1,5,6]) (.cond (.t 6) (.seq (.region (some []) [fa 8 2 1,⟨some 9,.load false 1 (.t 8),none,[6]⟩,fa 10 3 1,l1 11 10,jj 12 (.indexAddr 4 (.t 11) (kk 0)),la 13 4 12,cl 14 234 [13],jj 15 (.bslice 4 [eN,eN,eN,eN] [(0,1,(.t 9)),(1,1,(.c (.string ⟨#[61]⟩))),(2,1,(.t 14)),(3,1,(.c (.string ⟨#[59]⟩)))]),cl 16 247 [15],mv 2 16] [2] [6,8]) (.ret)) (.seq (rn [bk 18 .eql 5 2,mv 17 18] [1,5,17]) (.cond (.t 17) (.seq (.region (some []) [fa 19 2 1,⟨some 20,.load false 1 (.t 19),none,[6,11]⟩,fa 21 3 1,l1 22 21,jj 23 (.indexAddr 4 (.t 22) (kk 0)),la 24 4 23,cl 25 234 [24],fa 26 3 1,⟨some 27,.load false 1 (.t 26),none,[6]⟩,jj 28 (.indexAddr 4 (.t 27) (kk 1)),⟨some 29,.load true 4 (.t 28),none,[6]⟩,cl 30 234 [29],jj 31 (.bslice 7 [eN,eN,eN,eN,eN,eN,eN] [(0,1,(.t 20)),(1,1,(.c (.string ⟨#[91]⟩))),(2,1,(.t 25)),(3,1,(.c (.string ⟨#[93]⟩))),(4,1,(.c (.string ⟨#[61]⟩))),(5,1,(.t 30)),(6,1,(.c (.string ⟨#[59]⟩)))]),cl 32 247 [31],mv 2 32] [2] [11,13]) (.ret)) (.seq (rn [bk 34 .eql 5 5,mv 33 34] [1,5,33]) (.cond (.t 33) (.seq (.region (some []) [fa 35 3 1,l1 36 35,jj 37 (.indexAddr 4 (.t 36) (kk 0)),la 38 4 37,cl 39 234 [38],fa 40 3 1,⟨some 41,.load false 1 (.t 40),none,[4]⟩,jj 42 (.indexAddr 4 (.t 41) (kk 1)),⟨some 43,.load true 4 (.t 42),none,[4]⟩,cl 44 234 [43],jj 45 (.bslice 5 [eN,eN,eN,eN,eN] [(0,1,(.c (.string ⟨#[101,102,102,101,99,116]⟩))),(1,1,(.t 39)),(2,1,(.c (.string ⟨#[44]⟩))),(3,1,(.t 44)),(4,1,(.c (.string ⟨#[59]⟩)))]),cl 46 247 [45],mv 2 46] [2] [9,11]) (.ret)) (.seq (rn [bk 48 .eql 5 6,mv 47 48] [1,5,47]) (.cond (.t 47) (.seq (rn [jj 2 (.mov (.c (.string ⟨#[115,116,111,112,59]⟩)))] [2]) (.ret)) (.seq (rn [bk 50 .eql 5 4,mv 49 50] [1,49]) (.cond (.t 49) (.seq (.region (some []) [fa 51 3 1,l1 52 51,jj 53 (.indexAddr 4 (.t 52) (kk 0)),la 54 4 53,cl 55 234 [54],fa 56 3 1,⟨some 57,.load false 1 (.t 56),none,[4]⟩,jj 58 (.indexAddr 4 (.t 57) (kk 1)),⟨some 59,.load true 4 (.t 58),none,[4]⟩,cl 60 248 [59],jj 61 (.bslice 3 [eN,eN,eN] [(0,1,(.c (.string ⟨#[119,104,105,108,101]⟩))),(1,1,(.t 55)),(2,1,(.t 60))]),cl 62 247 [61],mv 2 62] [2] [9,11]) (.ret)) (.skip))))))))))))) (.seq (.region (some []) [fa 63 3 1,l1 64 63,jj 65 (.indexAddr 4 (.t 64) (kk 0)),la 66 4 65,cl 67 234 [66],fa 68 3 1,⟨some 69,.load false 1 (.t 68),none,[4]⟩,jj 70 (.indexAddr 4 (.t 69) (kk 1)),⟨some 71,.load true 4 (.t 70),none,[4]⟩,cl 72 248 [71],jj 73 (.bslice 3 [eN,eN,eN] [(0,1,(.c (.string ⟨#[105,102]⟩))),(1,1,(.t 67)),(2,1,(.t 72))]),cl 74 247 [73],mv 3 74] [1,3] [9,11]) (.seq (.seq (rn [fa 75 3 1,l1 76 75,jj 77 (.indexAddr 4 (.t 76) (kk 2)),fa 78 3 77,l1 79 78,ls 80 79,bk 81 .gtr 80 0] [1,3,81]) (.cond (.t 81) (rn [mv 82 3,fa 83 3 1,l1 84 83,jj 85 (.indexAddr 4 (.t 84) (kk 2)),la 86 4 85,cl 87 248 [86],jj 88 (.bslice 3 [eN,eN,eN] [(0,1,(.t 82)),(1,1,(.c (.string ⟨#[101,108,115,101]⟩))),(2,1,(.t 87))]),cl 89 247 [88],mv 3 89] [3]) (.skip))) (.seq (rn [mv 90 3,mv 2 90] [2]) (.ret))))),false,false,false⟩
end Go.Pm.F
end
section
namespace Go.Pm.F
def tE:Nat->Option PFun
 |_=>none
end Go.Pm.F
end
namespace Go.Pm
section
theorem qc5(f:Bool) : ∀ (e:E) {r r':Fo},r.eqv r'=true->((e.fl f).fo r).eqv (e.fo r')=true
 |.int n,r,r',h=>by simp[E.fl,E.fo,Fo.eqv,h]
 |.bool n,r,r',h=>by simp[E.fl,E.fo,Fo.eqv,h]
 |.var s,r,r',h=>by simp[E.fl,E.fo,Fo.eqv,h]
 |.name s,r,r',h=>by simp[E.fl,E.fo,Fo.eqv,h]
 |.field _ s e,r,r',h=>by simp[E.fl,E.fo,Fo.eqv,h,qc5 f e (r := .nil) (r' := .nil) rfl]
 |.un _ n e,r,r',h=>by simp[E.fl,E.fo,Fo.eqv,h,qc5 f e (r := .nil) (r' := .nil) rfl]
 |.bin _ o a b,r,r',h=>by simp[E.fl,E.fo,Fo.eqv,h,qc5 f a (qc5 f b (r := .nil) (r' := .nil) rfl)]
theorem qdu(f fi fb:Bool) : ∀ (s:Ss),((s.fl f fi fb).fo).eqv s.fo=true
 |.nil=>rfl
 |.assign _ s e r=>by simp[Ss.fl,Ss.fo,Fo.eqv,qc5 f e (r := .nil) (r' := .nil) rfl,qdu f fi fb r]
 |.store _ s a b r=>by simp[Ss.fl,Ss.fo,Fo.eqv,qc5 f a (qc5 f b (r := .nil) (r' := .nil) rfl),qdu f fi fb r]
 |.effect _ a b r=>by simp[Ss.fl,Ss.fo,Fo.eqv,qc5 f a (qc5 f b (r := .nil) (r' := .nil) rfl),qdu f fi fb r]
 |.stop r=>by simp[Ss.fl,Ss.fo,Fo.eqv,qdu f fi fb r]
 |.cond w _ c b r=>by cases w<;>simp[Ss.fl,Ss.fo,Fo.eqv,qc5 f c (qdu f fi fb b),qdu f fi fb r]
 |.block _ b r=>by simp[Ss.fl,Ss.fo,Fo.eqv,qdu f fi fb b,qdu f fi fb r]
theorem qk3 : ∀ {a b:Fo},a.eqv b=true->a.size=b.size
 |.nil,.nil,_=>rfl
 |.cons ..,.cons ..,h=>by
  simp only[Fo.eqv,Wv] at h
  simp only[Fo.size,qk3 h.2.1,qk3 h.2.2]
 |.nil,.cons ..,h=>by cases h
 |.cons ..,.nil,h=>by cases h
end
section
def wt:List ByteArray->Nat
 |[]=>0
 |t::l=>t.size+1+wt l
theorem qfg(a b:List ByteArray):wt (a++b)=wt a+wt b:=by
 induction a with
 |nil=>simp[wt]
 |cons t a ih=>simp only[Wi,wt,ih]; omega
theorem qq5 : ∀ (l:List ByteArray) (p:Bool),(qar p l).length<=wt l
 |[],p=>by simp[qar,wt]
 |t::l,p=>by
  have h1:=qq5 l (qcn p t)
  have h2:=qaU t
  have h3:(gap p t).length<=1:=by unfold gap; split<;>simp
  simp only[qar,Wd,wt]
  omega
theorem qn4(b:Bool)(l:List ByteArray):wt (qdq b l)<=wt l+4:=by
 cases b with
 |false=>simp[qdq]
 |true=>
  have:wt (qdq true l)=2+(wt l+2):=by
   show wt (bs [40]::(l++[bs [41]]))=_
   rw[wt,qfg]
   rfl
  omega
theorem qjh(full:Bool) : ∀ (e:E) p,wt (e.tx full p)<=e.cost
 |.int n,p=>by simp[E.tx,wt,E.cost,qaz]
 |.bool n,p=>by
  simp only[E.tx,wt,E.cost]
  split<;>simp[qhD,qlR,qaz]
 |.var s,p=>by simp[E.tx,wt,E.cost]
 |.name s,p=>by simp[E.tx,wt,E.cost]
 |.field _ s e,p=>by
  have:=qjh full e 1
  simp only[E.tx,wt,qfg,E.cost,qaz,Wf,Wm]
  omega
 |.un _ neg e,p=>by
  have h1:=qjh full e (qeV neg)
  have h2:=qn4 (full||decide (qeV neg<p)) (ustr neg::e.tx full (qeV neg))
  have h3:(ustr neg).size=1:=by cases neg<;>rfl
  simp only[E.tx,E.cost]
  rw[wt,h3] at h2
  omega
 |.bin _ o a b,p=>by
  have h1:=qjh full a o.left
  have h2:=qjh full b (o.prec+1)
  have h3:=qn4 (full||decide (o.prec<p)) (a.tx full o.left++o.str::b.tx full (o.prec+1))
  simp only[E.tx,E.cost]
  rw[qfg,wt] at h3
  omega
theorem qkR : ∀ s:Ss,wt s.tx<=s.cost
 |.nil=>Wp _
 |.assign _ s e r=>by
  have h1:=qjh false e 1
  have h2:=qkR r
  simp only[Ss.tx,wt,qfg,Ss.cost,qaz,Wf,Wm]
  omega
 |.store _ s a b r=>by
  have h1:=qjh false a 1
  have h3:=qjh false b 1
  have h2:=qkR r
  simp only[Ss.tx,wt,qfg,Ss.cost,qaz,Wf,Wm]
  omega
 |.effect _ a b r=>by
  have h1:=qjh false a 1
  have h3:=qjh false b 1
  have h2:=qkR r
  simp only[Ss.tx,wt,qfg,Ss.cost,qmN,qaz,Wf,Wm]
  omega
 |.stop r=>by
  have h2:=qkR r
  simp only[Ss.tx,wt,qfg,Ss.cost,qv2,qaz,Wf,Wm]
  omega
 |.cond w _ c b r=>by
  have h1:=qjh false c 1
  have h3:=qkR b
  have h2:=qkR r
  cases w<;>simp only[Ss.tx,wt,qfg,Ss.cost,qqG,ifS,qaz,Wf,Wm,if_true,Wo,if_false]<;>omega
 |.block _ b r=>by
  have h3:=qkR b
  have h2:=qkR r
  simp only[Ss.tx,wt,qfg,Ss.cost,qaz,Wf,Wm]
  split
  ·simp only[wt,qkI,qaz,Wf,Wm]; omega
  ·simp only[wt]; omega
theorem qn5{s:ByteArray}(h:s∈qty):qsQ s/\s.size<=3:=by
 simp only[qty,qpn,Wi,Wc,Wu,Ww,or_false] at h
 have key : ∀ (c:UInt8) (r:List UInt8),qaZ c=true->(∀ b∈r,qaJ b=true)->(c::r).length<=8->Tg (byl (bs (c::r))):=fun c r h1 h2 h3=>qvL h1 h2 h3
 rcases h with rfl|rfl|rfl|rfl|rfl
 ·exact⟨⟨key 105 [] (by decide) (by decide) (by decide),by decide,by decide,by decide⟩,by decide⟩
 ·exact⟨⟨key 110 [] (by decide) (by decide) (by decide),by decide,by decide,by decide⟩,by decide⟩
 ·exact⟨⟨key 115 [117,109] (by decide) (by decide) (by decide),by decide,by decide,by decide⟩,by decide⟩
 ·exact⟨⟨key 118 [51] (by decide) (by decide) (by decide),by decide,by decide,by decide⟩,by decide⟩
 ·exact⟨⟨key 118 [] (by decide) (by decide) (by decide),by decide,by decide,by decide⟩,by decide⟩
theorem qq6{s:ByteArray}(h:s∈ql6):(s=qyV\/s=qub\/s=qsU)/\s.size<=5:=by
 simp only[ql6,Wu,Ww,or_false] at h
 rcases h with rfl|rfl|rfl
 ·exact⟨.inl rfl,by decide⟩
 ·exact⟨.inr (.inl rfl),by decide⟩
 ·exact⟨.inr (.inr rfl),by decide⟩
theorem qjU{s:ByteArray}(h:s∈qdU):s∈fieldNames/\s.size<=5:=by
 simp only[qdU,qgd,Wi,Wc,Wu,Ww,or_false] at h
 rcases h with rfl|rfl|rfl|rfl|rfl|rfl|rfl|rfl<;>exact⟨by decide,by decide⟩
theorem qbR : ∀ e:E,e.fine->e.good
 |.int n,h=>h
 |.bool n,h=>h
 |.var s,h=>(qn5 h).1
 |.name s,h=>(qq6 h).1
 |.field _ s e,h=>⟨(qjU h.1).1,qbR e h.2.1⟩
 |.un _ neg e,h=>qbR e h.1
 |.bin _ o a b,h=>⟨qbR a h.1,qbR b h.2.1⟩
theorem qc4(full:Bool) : ∀ (e:E) p,e.nest full p<=2*e.dp
 |.int n,p | .bool n,p | .var s,p | .name s,p=>by simp[E.nest]
 |.field _ s e,p=>by have:=qc4 full e 1; simp only[E.nest,E.dp]; omega
 |.un _ neg e,p=>by have:=qc4 full e (qeV neg); simp only[E.nest,E.dp]; split<;>omega
 |.bin _ o a b,p=>by have h1:=qc4 full a o.left; have h2:=qc4 full b (o.prec+1); simp only[E.nest,E.dp]; split<;>omega
theorem qo9{s:ByteArray}(h:s∈qgd):s∈qdU:=Yr _ h
theorem qpa(s:Ss):s.fine->s.good none:=by
 fun_induction Ss.fine s with
 |case1=>intro _; exact .inl rfl
 |case2 _ s e r ih=>intro h; exact⟨rfl,(qn5 h.1.1).1,qbR e h.1.2.1,ih h.2⟩
 |case3 _ s a b r ih=>intro h; exact⟨rfl,(qjU (qo9 h.1.1)).1,qbR a h.1.2.1,qbR b h.1.2.2.2.1,ih h.2⟩
 |case4 _ a b r ih=>intro h; exact⟨rfl,qbR a h.1.1,qbR b h.1.2.2.1,ih h.2⟩
 |case5 r ih=>intro h; exact⟨rfl,ih h⟩
 |case6 _ c _ x _ y r ih1 ih2 ih3=>intro h; exact⟨rfl,qbR c h.1.1,⟨1,rfl,ih1 h.2.1,⟨0,rfl,ih2 h.2.2.1,.inr rfl⟩⟩,ih3 h.2.2.2⟩
 |case7 _ c _ x r ih1 ih2=>intro h; exact⟨rfl,qbR c h.1.1,⟨0,rfl,ih1 h.2.1,.inr rfl⟩,ih2 h.2.2⟩
 |case8=>intro h; exact h.elim
theorem qds : ∀ s:Ss,s.nest<=2*s.edp+1+s.dp
 |.nil=>by simp[Ss.nest]
 |.assign _ s e r=>by have h1:=qc4 false e 1; have h2:=qds r; simp only[Ss.nest,Ss.edp,Ss.dp]; omega
 |.store _ s a b r=>by have h1:=qc4 false a 1; have h3:=qc4 false b 1; have h2:=qds r; simp only[Ss.nest,Ss.edp,Ss.dp]; omega
 |.effect _ a b r=>by have h1:=qc4 false a 1; have h3:=qc4 false b 1; have h2:=qds r; simp only[Ss.nest,Ss.edp,Ss.dp]; omega
 |.stop r=>by have h2:=qds r; simp only[Ss.nest,Ss.edp,Ss.dp]; omega
 |.cond _ _ c b r=>by have h1:=qc4 false c 1; have h3:=qds b; have h2:=qds r; simp only[Ss.nest,Ss.edp,Ss.dp]; omega
 |.block _ b r=>by have h3:=qds b; have h2:=qds r; simp only[Ss.nest,Ss.edp,Ss.dp]; omega
theorem qkS{h:Hd}(hg:h.gen):qhC h.opt:=by
 cases h with
 |none=>intro b hb; cases hb
 |some f b=>
  intro x hx
  cases hx
  have h1:=hg.dp
  have h2:=hg.edp
  have h3:=qds b
  simp only[Hd.ss] at h1 h2
  exact⟨qpa b hg.fine,by omega⟩
theorem qlZ{a b c:Hd}(ha:a.gen)(hb:b.gen)(hc:c.gen) : ∀ k,qhC (Hd.opts a b c k)
 |0=>qkS ha
 |1=>qkS hb
 |_+2=>qkS hc
theorem qwI(k:Nat)(h:Hd):wt (qkC k h.opt)<=h.cost:=by
 cases h with
 |none=>simp[Hd.opt,qkC,wt]
 |some f b=>
  have:=qkR b
  have hk:(qfS k).size<=4:=by unfold qfS; split<;>decide
  simp only[Hd.opt,qkC,wt,qfg,Hd.cost,onS,qaz,Wf,Wm]
  omega
theorem qn6(a b c:Hd):(qar false (qcM (Hd.opts a b c))).length<=a.cost+(b.cost+c.cost):=by
 refine Yf (qq5 (qcM (Hd.opts a b c)) false) ?_
 simp only[qcM,qfg]
 exact Nat.add_le_add (qwI 0 a) (Nat.add_le_add (qwI 1 b) (qwI 2 c))
end
end Go.Pm
section
namespace Go.Pm.F
def tK:Nat->Option PFun
 |227=>some F227
 |_=>none
end Go.Pm.F
end
section
namespace Go.Pm.F
def tS:Nat->Option PFun
 |20=>some F20
 |152=>some F152
 |192=>some F192
 |193=>some F193
 |234=>some F234
 |236=>some F236
 |246=>some F246
 |247=>some F247
 |248=>some F248
 |261=>some F261
 |262=>some F262
 |263=>some F263
 |_=>none
end Go.Pm.F
end
namespace Go.Pm
section
open F
theorem qmf(c:UInt8):Z tS (.call 192 [.dat (.lit (.int .u8 c.toNat))] [])=some (.ret (.bool (qaZ c)) []):=by
 refine qab (pf:=F192) rfl rfl ?_
 by_cases h1:(97:Int)<=c.toNat
 ·have h1':97<=c.toNat:=by omega
  by_cases h2:(c.toNat:Int)<=122
  ·have h2':c.toNat<=122:=by omega
   simp[F192,qaZ,h1,h1',h2,h2']
  ·have h2' : ¬ c.toNat<=122:=by omega
   simp[F192,qaZ,h1,h1',h2,h2']
 ·have h1' : ¬ 97<=c.toNat:=by omega
  simp[F192,qaZ,h1,h1']
theorem qor(c:UInt8):Z tS (.call 193 [.dat (.lit (.int .u8 c.toNat))] [])=some (.ret (.bool (qau c)) []):=by
 refine qab (pf:=F193) rfl rfl ?_
 by_cases h1:(48:Int)<=c.toNat
 ·have h1':48<=c.toNat:=by omega
  by_cases h2:(c.toNat:Int)<=57
  ·have h2':c.toNat<=57:=by omega
   simp[F193,qau,h1,h1',h2,h2']
  ·have h2' : ¬ c.toNat<=57:=by omega
   simp[F193,qau,h1,h1',h2,h2']
 ·have h1' : ¬ 48<=c.toNat:=by omega
  simp[F193,qau,h1,h1']
theorem quC(a b:List UInt8):bs a++bs b=bs (a++b):=by
 apply qm3
 simp[byl,bs,ByteArray.data_append]
theorem qeN(a b:ByteArray):a++b=bs (byl a++byl b):=by
 rw[<- quC,qdg,qdg]
theorem qj7:qaD qaJ ⟨#[]⟩=false:=by rw[qbe]; rfl
theorem quD(a b:ByteArray)(h:a.size+b.size<2 ^ 40):Z tS (.call 262 [.str a,.str b] [])=some (.ret (.str (bs (pw (byl a) [b]))) []):=by
 have hab : ¬ (9223372036854775807:Int)<(a.size:Int)+(b.size:Int):=by omega
 have plain:gap (wl (byl a)) b=[]->bs (pw (byl a) [b])=a++b:=fun hg=>by
  rw[qdj,qe9,hg,Wc,qeN]
 refine qab (pf:=F262) rfl rfl ?_
 by_cases ha:a=⟨#[]⟩
 ·rw[plain (by rw[ha]; rfl)]
  have e:eqS a ⟨#[]⟩=true:=by rw[qbd]; simp[ha]
  simp[F262,e,hab]
 ·have ea:eqS a ⟨#[]⟩=false:=by rw[qbd]; simp[ha]
  by_cases hb:b=⟨#[]⟩
  ·rw[plain (by rw[hb,gap,qj7]; simp)]
   have e:eqS b ⟨#[]⟩=true:=by rw[qbd]; simp[hb]
   simp[F262,ea,e,hab]
  ·have eb:eqS b ⟨#[]⟩=false:=by rw[qbd]; simp[hb]
   have nz : ∀ {t:ByteArray},t≠⟨#[]⟩->t.size≠0:=fun {t} h h0=>h (by
    apply qm3
    have:(byl t).length=0:=by rw[qaU,h0]
    rw[WL this])
   have ha0:=nz ha
   obtain⟨y,hy,hs⟩:=qsP (nz hb)
   have hx:=qv1 ha0
   have hwl:wl (byl a)=qaJ (lastC (byl a)):=rfl
   generalize lastC (byl a)=x at *
   have l1:=qmf x
   have l2:=qor x
   have l3:=qmf y
   have l4:=qor y
   have w2:=qai ((a.size:Int)-1) (by omega)
   have w3:((a.size:Int)-1).toNat=a.size-1:=by omega
   have w4:(0:Int)<=(a.size:Int)-1:=by omega
   have w5:(1:Int)<=a.size:=by omega
   by_cases hg:(qaJ x&&qaJ y)=true
   ·have hgap:gap (wl (byl a)) b=[32]:=by rw[gap,hwl,hs,if_pos hg]
    have e:bs (pw (byl a) [b])=a++⟨#[32]⟩++b:=by
     rw[qdj,qe9,hgap,qeN,qeN a,qbM]
     simp[byl]
    rw[e]
    have hab2 : ¬ (9223372036854775807:Int)<(a.size:Int)+1:=by omega
    have hab3 : ¬ (9223372036854775807:Int)<(a.size:Int)+1+(b.size:Int):=by omega
    have hsz:(a++⟨#[32]⟩:ByteArray).size=a.size+1:=by rw[Yo]; rfl
    have hsp:(⟨#[32]⟩:ByteArray).size=1:=rfl
    have hsp2:((⟨#[32]⟩:ByteArray).size:Int)=1:=rfl
    unfold qaJ at hg
    cases h1:qaZ x<;>cases h2:qau x<;>cases h3:qaZ y<;>cases h4:qau y<;>rw[h1,h2,h3,h4] at hg<;>simp at hg<;>rw[h1] at l1<;>rw[h2] at l2<;>rw[h3] at l3<;>rw[h4] at l4 <;>
     simp[F262,ea,eb,hx,hy,l1,l2,l3,l4,w2,w3,w4,w5,hab2,hab3,hsz,hsp,hsp2,V.len]
   ·have hgap:gap (wl (byl a)) b=[]:=by rw[gap,hwl,hs,if_neg hg]
    rw[plain hgap]
    unfold qaJ at hg
    cases h1:qaZ x<;>cases h2:qau x<;>cases h3:qaZ y<;>cases h4:qau y<;>rw[h1,h2,h3,h4] at hg<;>simp at hg<;>rw[h1] at l1<;>rw[h2] at l2<;>rw[h3] at l3<;>rw[h4] at l4 <;>
     simp[F262,ea,eb,hx,hy,l1,l2,l3,l4,w2,w3,w4,w5,hab,V.len]
theorem qos (fl:Bool) (ts:List ByteArray) (hn:ts.length<2 ^ 30) : ∀ (m i:Nat) (w:List UInt8),i+m=ts.length->(pw w (ts.drop i)).length<2 ^ 40 ->
  Z tS (.loop 0 F247l0 [(0,.dat (.sl (qaV ts) ts.length fl)),(3,.str (bs w)),(4,.int i)] [])=some (.out (.exit 0) [(0,.dat (.sl (qaV ts) ts.length fl)),(3,.str (bs (pw w (ts.drop i)))),(4,.int ts.length),(8,.bool false)] [])
 |0,i,w,hi,hsz=>by
  have hi':i=ts.length:=by omega
  subst hi'
  rw[List.drop_length,qe9]
  rw[qaa]
  simp[qac,qj0,V.len]
 |m+1,i,w,hi,hsz=>by
  have hlt:i<ts.length:=by omega
  have hd:ts.drop i=ts[i]::ts.drop (i+1):=Wy hlt
  rw[hd,qdj] at hsz ⊢
  have hc:=qh5 ts i hlt
  generalize ts[i]=t at *
  have hw0:(w++(gap (wl w) t++byl t)).length<2 ^ 40:=Wx (qt9 _ _) hsz
  have ih:=qos fl ts hn m (i+1) (w++(gap (wl w) t++byl t)) (by omega) hsz
  rw[<- ih]
  have z:=quD (bs w) t (by rw[Wd,Wd,qaU] at hw0; rw[qaz]; omega)
  rw[qbM,qdj,qe9] at z
  have w1:=qai ((i:Int)+1) (by omega)
  have hlt':(i:Int)<ts.length:=by omega
  conv=>lhs; rw[qaa]
  generalize bs (w++(gap (wl w) t++byl t))=R at *
  generalize bs w=R0 at *
  simp[qac,qj0,z,hc,w1,hlt',hlt,qae,V.len]
theorem qBK(fl:Bool){ts:List ByteArray}{R:ByteArray}(hR:R=bs (pw [] ts))(hn:ts.length<2 ^ 30)(hsz:R.size<2 ^ 40):Z tS (.call 247 [.dat (.sl (qaV ts) ts.length fl)] [])=some (.ret (.str R) []):=by
 subst hR
 have z:=qos fl ts hn ts.length 0 [] (by omega) (by rw[WT]; exact hsz)
 rw[WT] at z
 simp only[Wn] at z
 rw[show bs []=⟨#[]⟩ from rfl] at z
 refine qab (pf:=F247) rfl rfl ?_
 generalize bs (pw [] ts)=R at *
 simp[F247,z]
theorem quE(w:List UInt8){ts:List ByteArray}(h : ∀ t∈ts,t.size≠0):pw w [bs (qar false ts)]=pw w ts:=by
 cases ts with
 |nil=>
  rw[qdj,qe9,qe9,qar]
  have:=qj7
  simp[gap,bs,byl,this]
 |cons t ts=>
  have ht:=h t (WQ ..)
  cases hb:byl t with
  |nil=>exact absurd (by rw[<- qaU,hb]; rfl) ht
  |cons c r=>
   have hs:qaD qaJ (bs (qar false (t::ts)))=qaD qaJ t:=by
    rw[qbe,qbe,qbM,qar,hb]
    rfl
   have hg:gap (wl w) (bs (qar false (t::ts)))=gap (wl w) t:=by rw[gap,gap,hs]
   have he:qcn (wl w) t=qcn false t:=by
    unfold qcn
    cases hl:(byl t).getLast? with
    |none=>rw[Yp] at hl; rw[hl] at hb; cases hb
    |some c=>rfl
   rw[qdj,qe9,hg,qbM]
   show w++(gap (wl w) t++qar false (t::ts))=w++qar (wl w) (t::ts)
   rw[qar,qar,he]
   rfl
theorem qm9(w:List UInt8){ts:List ByteArray}(h : ∀ t∈ts,t.size≠0)(r:List ByteArray):pw w (bs (qar false ts)::r)=pw w (ts++r):=by
 rw[show bs (qar false ts)::r=[bs (qar false ts)]++r from rfl,qjL,quE w h,<- qjL]
end
section
open F
def digS:ByteArray:=⟨#[48,49,50,51,52,53,54,55,56,57]⟩
theorem qvF : ∀ d,d<10->digS.extract d (d+1)=bs [(48+d).toUInt8]:=by decide
theorem qnA (n:Int) : ∀ (k m:Nat) (out:ByteArray),m<10 ^ k->k<=18->out.size+k<=100 ->
  Z tS (.loop 0 F20l0 [(0,.int n),(3,.str digS),(4,.str out),(5,.int m)] [])=some (.out (.exit 0) [(0,.int n),(3,.str digS),(4,.str (bs (if m=0 then [] else qmk k m)++out)),(5,.int 0),(11,.bool false)] [])
 |k,0,out,_,_,_=>by
  rw[qaa]
  have e:bs []++out=out:=by rw[show bs []=ByteArray.empty from rfl,ByteArray.empty_append]
  simp[qac,ql7,digS,e]
 |0,m+1,out,h,_,_=>by simp at h
 |k+1,m+1,out,h,hk,ho=>by
  have hp:(10:Nat) ^ (k+1)<=10 ^ 18:=Nat.pow_le_pow_right (by omega) hk
  have hd:((m+1:Nat):Int).tmod 10=(((m+1) % 10:Nat):Int):=rfl
  have hq:((m+1:Nat):Int).tdiv 10=(((m+1) / 10:Nat):Int):=rfl
  have hlt:(m+1) % 10<10:=Nat.mod_lt _ (by omega)
  have hx:=qvF _ hlt
  have w1:=qai (((m+1) % 10:Nat)+1:Int) (by omega)
  have w2:IntKind.i64.wrap (((m+1) / 10:Nat):Int)=((m+1) / 10:Nat):=qai _ (by omega)
  have hne : ¬ ((m+1:Nat):Int)=0:=by omega
  have hneg : ¬ (((m+1) % 10:Nat):Int)<0:=by omega
  have ih:=qnA n k ((m+1) / 10) (bs [(48+(m+1) % 10).toUInt8]++out) (by rw[Nat.pow_succ] at h; omega) (by omega) (by rw[Yo,qaz]; simp; omega)
  have hres:bs (if (m+1) / 10=0 then [] else qmk k ((m+1) / 10))++(bs [(48+(m+1) % 10).toUInt8]++out)=bs (qmk (k+1) (m+1))++out:=by
   rw[<- ByteArray.append_assoc]
   congr 1
   simp only[qmk]
   by_cases h10:m+1<10
   ·rw[if_pos h10,if_pos (by omega),Nat.mod_eq_of_lt h10]
    rfl
   ·rw[if_neg h10,if_neg (by omega)]
    rfl
  rw[hres] at ih
  rw[if_neg (by omega),<- ih]
  generalize hd2:(m+1) % 10=d at *
  generalize hq2:(m+1) / 10=q at *
  generalize hm:m+1=M at *
  have hM : ¬ M=0:=by omega
  have b1:(d:Int)<=digS.size:=by rw[show digS.size=10 from rfl]; omega
  have b2:(d:Int)+1<=digS.size:=by rw[show digS.size=10 from rfl]; omega
  have b3:(0:Int)<=(d:Int)+1:=by omega
  have b4:((d:Int)+1).toNat=d+1:=by omega
  have b5:(d:Int)<=(d:Int)+1:=by omega
  have hsz : ¬ (9223372036854775807:Int)<((bs [(48+d).toUInt8]).size:Int)+out.size:=by rw[qaz]; simp; omega
  generalize digS=ds at *
  generalize bs [(48+d).toUInt8]=ch at *
  conv=>lhs; rw[qaa]
  simp[qac,ql7,qcx,bound,hd,hq,hne,hneg,w1,w2,b1,b2,b3,b4,b5,hx,hsz,hM]
theorem qqr{n:Nat}(h:n<10 ^ 18):Z tS (.call 20 [.int n] [])=some (.ret (.str (bs (qkJ n))) []):=by
 refine qab (pf:=F20) rfl rfl ?_
 by_cases h0:n=0
 ·subst h0
  simp[F20,qkJ,qmk,bs]
 ·have hne : ¬ (n:Int)=0:=by omega
  have hneg : ¬ (n:Int)<0:=by omega
  have z:=qnA n 18 n ⟨#[]⟩ h (by omega) (by decide)
  rw[if_neg h0] at z
  have e : ∀ (k j n:Nat),n<10 ^ k->1<=k->qmk (k+j) n=qmk k n:=fun k=>by
   induction k with
   |zero=>intro j n _ h; omega
   |succ k ih=>
    intro j n hn _
    rw[show k+1+j=(k+j)+1 by omega]
    simp only[qmk]
    split
    ·rfl
    ·rename_i h10
     have hk:1<=k:=by
      rcases k with _|k
      ·simp at hn; omega
      ·omega
     rw[ih j (n / 10) (by rw[Nat.pow_succ] at hn; omega) hk]
  have e2:bs (qmk 18 n)++⟨#[]⟩=bs (qkJ n):=by
   rw[show qkJ n=qmk (18+2) n from rfl,e 18 2 n h (by omega)]
   exact ByteArray.append_empty
  rw[e2] at z
  simp only[digS] at z
  simp[F20,h0,hne,hneg,z]
end
section
open F
theorem qeO(e:E):Z tS (.call 261 [e.node] [])=some (.ret (.int e.lev) []):=by
 refine qab (pf:=F261) rfl rfl ?_
 cases e with
 |un f neg e=>cases neg<;>simp[F261,E.lev,qeV,ustr,qbd]
 |bin f o a b=>cases o<;>simp[F261,E.lev,Bop.prec,Bop.str,qbd]
 |_=>simp[F261,E.lev]
inductive Parts:List ByteArray->List ByteArray->Prop
 |nil:Parts [] []
 |tok {t:ByteArray} {l ts:List ByteArray} (h:Parts l ts):Parts (t::l) (t::ts)
 |sub {a l ts:List ByteArray} (ha : ∀ t∈a,t.size≠0) (h:Parts l ts):Parts (bs (qar false a)::l) (a++ts)
theorem qss{l ts:List ByteArray}(h:Parts l ts) : ∀ w,pw w l=pw w ts:=by
 induction h with
 |nil=>intro w; rfl
 |tok h ih=>intro w; rw[qdj,qdj,ih]
 |sub ha h ih=>intro w; rw[qm9 w ha,qjL,qjL,ih]
theorem qdN{l ts:List ByteArray}{R:ByteArray}(hp:Parts l ts)(hR:R=bs (qar false ts))(hn:l.length<2 ^ 30)(hsz:R.size<2 ^ 40):Z tS (.call 247 [.dat (.sl (qaV l) l.length true)] [])=some (.ret (.str R) []):=
 qBK true (by rw[hR,qss hp,qrb]) hn hsz
theorem qgA(ts:List ByteArray)(p:Bool):(qar false ts).length<=(qar p ts).length:=by
 cases ts with
 |nil=>simp[qar]
 |cons t ts=>
  simp only[qar,Wd]
  have:(gap false t).length=0:=rfl
  cases hb:byl t with
  |nil=>
   have e : ∀ q,qcn q t=q:=fun q=>by unfold qcn; rw[hb]; rfl
   rw[e,e]
   have:=qgA ts p
   simp[gap]
   omega
  |cons c r=>
   have e:qcn p t=qcn false t:=by
    unfold qcn
    cases hl:(byl t).getLast? with
    |none=>rw[Yp] at hl; rw[hl] at hb; cases hb
    |some c=>rfl
   rw[e]
   omega
theorem qap(a b c:List ByteArray)(p:Bool):(qar false b).length<=(qar p (a++(b++c))).length:=by
 rw[qh1,qh1,Wd,Wd]
 have:=qgA b (qvR p a)
 omega
theorem qiB(ts:List ByteArray):qar false (bs [40]::(ts++[bs [41]]))=40::(qar false ts++[41]):=by
 have e1:qcn false (bs [40])=false:=by decide
 have g1:gap false (bs [40])=[]:=rfl
 have g2 : ∀ q,gap q (bs [41])=[]:=fun q=>by cases q<;>decide
 rw[qar,e1,g1,qh1,qar,g2]
 simp[qar,qbM]
def qdn(e:E)(full:Bool)(p:Nat)(i:Int):Prop:=(qar false (e.tx full p)).length<2 ^ 40->Z tS (.call 246 [e.node,.int i,.bool full] [])=some (.ret (.str (bs (qar false (e.tx full p)))) [])
theorem qbP(full:Bool){e:E}(h:e.good)(p:Nat) : ∀ t∈e.tx full p,t.size≠0:=fun t ht=>qkU (qn9 (qiD full e h p).ok t ht)
theorem qys{full:Bool}{n:Int}(h0:0<=n)(h1:n<=2147483647){p:Nat}{i:Int}(hi:i=p)(hp:p<=8):qdn (E.int n) full p i:=by
 intro hsz
 have zl:Z tS (.call 261 [.dat (.agg [.lit (.int .i64 8),.lit (.int .i64 n),.lit (.string ⟨#[]⟩),.lit (.slice none 0 0)])] [])=some (.ret (.int 8) []):=qeO (.int n)
 have hc : ¬ (8:Int)<i:=by omega
 have hq : ¬ 8<p:=by omega
 have f0:Z tS (.call 20 [.int n] [])=some (.ret (.str (bs (qkJ n.toNat))) []):=by
  have:=qqr (n:=n.toNat) (by omega)
  rw[show ((n.toNat:Nat):Int)=n by omega] at this
  exact this
 have htx:(E.int n).tx full p=[bs (qkJ n.toNat)]:=by simp[E.tx,qdq,qeV,ustr,bs,qhD,qlR,Bop.left]
 have hfin:bs (qar false ((E.int n).tx full p))=(bs (qkJ n.toNat)):=by
  rw[htx,qar,qar,Wr]
  exact qdg (bs (qkJ n.toNat))
 rw[hfin]
 clear hfin htx hsz
 refine qab (pf:=F246) rfl rfl ?_
 cases full<;>simp[F246,qae,zl,hc,f0]
theorem qst{full:Bool}{p:Nat}{i:Int}(hi:i=p)(hp:p<=8):qdn (E.bool 0) full p i:=by
 intro hsz
 have zl:Z tS (.call 261 [.dat (.agg [.lit (.int .i64 9),.lit (.int .i64 0),.lit (.string ⟨#[]⟩),.lit (.slice none 0 0)])] [])=some (.ret (.int 8) []):=qeO (.bool 0)
 have hc : ¬ (8:Int)<i:=by omega
 have hq : ¬ 8<p:=by omega
 have htx:(E.bool 0).tx full p=[⟨#[102,97,108,115,101]⟩]:=by simp[E.tx,qdq,qeV,ustr,bs,qhD,qlR,Bop.left]
 have hfin:bs (qar false ((E.bool 0).tx full p))=(⟨#[102,97,108,115,101]⟩):=by
  rw[htx,qar,qar,Wr]
  exact qdg (⟨#[102,97,108,115,101]⟩)
 rw[hfin]
 clear hfin htx hsz
 refine qab (pf:=F246) rfl rfl ?_
 cases full<;>simp[F246,qae,zl,hc]
theorem qsu{full:Bool}{p:Nat}{i:Int}(hi:i=p)(hp:p<=8):qdn (E.bool 1) full p i:=by
 intro hsz
 have zl:Z tS (.call 261 [.dat (.agg [.lit (.int .i64 9),.lit (.int .i64 1),.lit (.string ⟨#[]⟩),.lit (.slice none 0 0)])] [])=some (.ret (.int 8) []):=qeO (.bool 1)
 have hc : ¬ (8:Int)<i:=by omega
 have hq : ¬ 8<p:=by omega
 have htx:(E.bool 1).tx full p=[⟨#[116,114,117,101]⟩]:=by simp[E.tx,qdq,qeV,ustr,bs,qhD,qlR,Bop.left]
 have hfin:bs (qar false ((E.bool 1).tx full p))=(⟨#[116,114,117,101]⟩):=by
  rw[htx,qar,qar,Wr]
  exact qdg (⟨#[116,114,117,101]⟩)
 rw[hfin]
 clear hfin htx hsz
 refine qab (pf:=F246) rfl rfl ?_
 cases full<;>simp[F246,qae,zl,hc]
theorem qyt{full:Bool}{s:ByteArray}{p:Nat}{i:Int}(hi:i=p)(hp:p<=8):qdn (E.var s) full p i:=by
 intro hsz
 have zl:Z tS (.call 261 [.dat (.agg [.lit (.int .i64 10),.lit (.int .i64 0),.lit (.string s),.lit (.slice none 0 0)])] [])=some (.ret (.int 8) []):=qeO (.var s)
 have hc : ¬ (8:Int)<i:=by omega
 have hq : ¬ 8<p:=by omega
 have htx:(E.var s).tx full p=[s]:=by simp[E.tx,qdq,qeV,ustr,bs,qhD,qlR,Bop.left]
 have hfin:bs (qar false ((E.var s).tx full p))=(s):=by
  rw[htx,qar,qar,Wr]
  exact qdg (s)
 rw[hfin]
 clear hfin htx hsz
 refine qab (pf:=F246) rfl rfl ?_
 cases full<;>simp[F246,qae,zl,hc]
theorem qvo{full:Bool}{s:ByteArray}{p:Nat}{i:Int}(hi:i=p)(hp:p<=8):qdn (E.name s) full p i:=by
 intro hsz
 have zl:Z tS (.call 261 [.dat (.agg [.lit (.int .i64 12),.lit (.int .i64 0),.lit (.string s),.lit (.slice none 0 0)])] [])=some (.ret (.int 8) []):=qeO (.name s)
 have hc : ¬ (8:Int)<i:=by omega
 have hq : ¬ 8<p:=by omega
 have htx:(E.name s).tx full p=[s]:=by simp[E.tx,qdq,qeV,ustr,bs,qhD,qlR,Bop.left]
 have hfin:bs (qar false ((E.name s).tx full p))=(s):=by
  rw[htx,qar,qar,Wr]
  exact qdg (s)
 rw[hfin]
 clear hfin htx hsz
 refine qab (pf:=F246) rfl rfl ?_
 cases full<;>simp[F246,qae,zl,hc]
theorem qsv{full:Bool}{f:Bool}{s:ByteArray}{e:E}(ge:e.good)(he:qdn e full 1 1){p:Nat}{i:Int}(hi:i=p)(hp:p<=8):qdn (E.field f s e) full p i:=by
 intro hsz
 have zl:Z tS (.call 261 [.dat (.agg [.lit (.int .i64 11),.lit (.int .i64 0),.lit (.string s),.sl [.lit (.int .i64 e.kind),.lit (.int .i64 e.num),.lit (.string e.str),e.kids] 1 f])] [])=some (.ret (.int 8) []):=qeO (.field f s e)
 have hc : ¬ (8:Int)<i:=by omega
 have hq : ¬ 8<p:=by omega
 obtain⟨inn,hinn⟩ : ∃ v,v=[s]++([⟨#[91]⟩]++(e.tx full 1++([⟨#[93]⟩]++[]))):=⟨_,rfl⟩
 have htx:(E.field f s e).tx full p=inn:=by
  rw[hinn]
  simp[E.tx,qdq,qeV,ustr,bs,qhD,qlR,Bop.left,hq]
 rw[htx] at hsz ⊢
 have hin:=hsz
 have z2:=he (Wx (by
  have:=qap ([s]++([⟨#[91]⟩])) (e.tx full 1) ([⟨#[93]⟩]++[]) false
  try simp only[Wj,Wc] at this
  rw[hinn]
  exact this) hin)
 have hP:Parts [s,⟨#[91]⟩,bs (qar false (e.tx full 1)),⟨#[93]⟩] inn:=by rw[hinn]; exact (.tok (.tok (.sub (qbP full ge 1) (.tok .nil))))
 obtain⟨R,hR⟩ : ∃ v,v=bs (qar false inn):=⟨_,rfl⟩
 have hRs:R.size<2 ^ 40:=by rw[hR,qaz]; exact hin
 have za:Z tS (.call 247 [.dat (.sl [.lit (.string s),.lit (.string ⟨#[91]⟩),.lit (.string (bs (qar false (e.tx full 1)))),.lit (.string ⟨#[93]⟩)] 4 true)] [])=some (.ret (.str R) []):=qdN hP hR (by simp) hRs
 generalize bs (qar false (e.tx full 1))=r2 at *
 rw[<- hR]
 clear hP hR hinn htx hsz hin
 refine qab (pf:=F246) rfl rfl ?_
 cases full<;>simp[F246,qae,zl,hc,z2,za]
theorem qAZ{f neg:Bool}{e:E}{L:Nat}(hL:L=qeV neg)(ge:e.good)(he:qdn e false L L){p:Nat}{i:Int}(hi:i=p)(hp:p<=L):qdn (E.un f neg e) false p i:=by
 intro hsz
 have zl:Z tS (.call 261 [.dat (.agg [.lit (.int .i64 13),.lit (.int .i64 0),.lit (.string (ustr neg)),.sl [.lit (.int .i64 e.kind),.lit (.int .i64 e.num),.lit (.string e.str),e.kids] 1 f])] [])=some (.ret (.int L) []):=by
  have:=qeO (.un f neg e)
  rw[show E.lev (.un f neg e)=L from hL.symm] at this
  exact this
 have hc : ¬ (L:Int)<i:=by omega
 have hq : ¬ L<p:=by omega
 have h8:(L:Int)<8:=by rw[hL]; cases neg<;>decide
 obtain⟨inn,hinn⟩ : ∃ v,v=[(ustr neg)]++(e.tx false L++[]):=⟨_,rfl⟩
 have htx:(E.un f neg e).tx false p=inn:=by
  rw[hinn]
  simp[E.tx,qdq,bs,hL.symm,hq]
 rw[htx] at hsz ⊢
 have hin:=hsz
 have z1:=he (Wx (by
  have:=qap ([(ustr neg)]) (e.tx false L) ([]) false
  try simp only[Wj,Wc] at this
  rw[hinn]
  exact this) hin)
 have hP:Parts [(ustr neg),bs (qar false (e.tx false L))] inn:=by rw[hinn]; exact (.tok (.sub (qbP false ge L) .nil))
 obtain⟨R,hR⟩ : ∃ v,v=bs (qar false inn):=⟨_,rfl⟩
 have hRs:R.size<2 ^ 40:=by rw[hR,qaz]; exact hin
 have za:Z tS (.call 247 [.dat (.sl [.lit (.string (ustr neg)),.lit (.string (bs (qar false (e.tx false L))))] 2 true)] [])=some (.ret (.str R) []):=qdN hP hR (by simp) hRs
 generalize bs (qar false (e.tx false L))=r1 at *
 rw[<- hR]
 clear hP hR hinn htx hsz hin
 refine qab (pf:=F246) rfl rfl ?_
 simp[F246,qae,zl,hc,z1,za,h8]
theorem qyu{f neg:Bool}{e:E}{L:Nat}(hL:L=qeV neg)(ge:e.good)(he:qdn e false L L){p:Nat}{i:Int}(hi:i=p)(hp:L<p):qdn (E.un f neg e) false p i:=by
 intro hsz
 have zl:Z tS (.call 261 [.dat (.agg [.lit (.int .i64 13),.lit (.int .i64 0),.lit (.string (ustr neg)),.sl [.lit (.int .i64 e.kind),.lit (.int .i64 e.num),.lit (.string e.str),e.kids] 1 f])] [])=some (.ret (.int L) []):=by
  have:=qeO (.un f neg e)
  rw[show E.lev (.un f neg e)=L from hL.symm] at this
  exact this
 have hc:(L:Int)<i:=by omega
 have hq:L<p:=hp
 have h8:(L:Int)<8:=by rw[hL]; cases neg<;>decide
 obtain⟨inn,hinn⟩ : ∃ v,v=[(ustr neg)]++(e.tx false L++[]):=⟨_,rfl⟩
 have htx:(E.un f neg e).tx false p=bs [40]::(inn++[bs [41]]):=by
  rw[hinn]
  simp[E.tx,qdq,bs,hL.symm,hq]
 rw[htx] at hsz ⊢
 rw[qiB] at hsz ⊢
 have hin:(qar false inn).length<2 ^ 40:=by simp at hsz; omega
 have hin2:(qar false inn).length+2<2 ^ 40:=by simp at hsz; omega
 have z1:=he (Wx (by
  have:=qap ([(ustr neg)]) (e.tx false L) ([]) false
  try simp only[Wj,Wc] at this
  rw[hinn]
  exact this) hin)
 have hP:Parts [(ustr neg),bs (qar false (e.tx false L))] inn:=by rw[hinn]; exact (.tok (.sub (qbP false ge L) .nil))
 obtain⟨R,hR⟩ : ∃ v,v=bs (qar false inn):=⟨_,rfl⟩
 have hRs:R.size<2 ^ 40:=by rw[hR,qaz]; exact hin
 have za:Z tS (.call 247 [.dat (.sl [.lit (.string (ustr neg)),.lit (.string (bs (qar false (e.tx false L))))] 2 true)] [])=some (.ret (.str R) []):=qdN hP hR (by simp) hRs
 generalize bs (qar false (e.tx false L))=r1 at *
 have hfin:bs (40::(qar false inn++[41]))=⟨#[40]⟩++R++⟨#[41]⟩:=by
  rw[qeN,qeN ⟨#[40]⟩,qbM,hR,qbM]
  simp[byl]
 rw[hfin]
 have hRl:R.size+2<2 ^ 40:=by rw[hR,qaz]; exact hin2
 have y1:((⟨#[40]⟩:ByteArray).size:Int)=1:=rfl
 have y2:((⟨#[41]⟩:ByteArray).size:Int)=1:=rfl
 have y3:(⟨#[40]⟩:ByteArray).size=1:=rfl
 have y4:(⟨#[41]⟩:ByteArray).size=1:=rfl
 have y5 : ¬ (9223372036854775807:Int)<1+(R.size:Int):=by omega
 have y6 : ¬ (9223372036854775807:Int)<1+(R.size:Int)+1:=by omega
 have y7:(⟨#[40]⟩++R:ByteArray).size=1+R.size:=by rw[Yo]; rfl
 clear hP hR hinn htx hsz hin hin2 hfin
 refine qab (pf:=F246) rfl rfl ?_
 simp[F246,qae,zl,hc,y1,y2,y3,y4,y5,y6,y7,z1,za,h8]
theorem qyv{f:Bool}{o:Bop}{a b:E}{L:Nat}(hl:o.prec=L)(h4:L≠4)(ga:a.good)(gb:b.good)(ha:qdn a false L L)(hb:qdn b false (L+1) ((L:Int)+1)){p:Nat}{i:Int}(hi:i=p)(hp:p<=L):qdn (E.bin f o a b) false p i:=by
 intro hsz
 have zl:Z tS (.call 261 [.dat (.agg [.lit (.int .i64 14),.lit (.int .i64 0),.lit (.string o.str),.sl [.lit (.int .i64 a.kind),.lit (.int .i64 a.num),.lit (.string a.str),a.kids,.lit (.int .i64 b.kind),.lit (.int .i64 b.num),.lit (.string b.str),b.kids] 2 f])] [])=some (.ret (.int L) []):=by
  have:=qeO (.bin f o a b)
  rw[show E.lev (.bin f o a b)=L from hl] at this
  exact this
 have hc : ¬ (L:Int)<i:=by omega
 have hq : ¬ L<p:=by omega
 have hlf:o.left=L:=by have:=qb0 o; omega
 have h4' : ¬ (L:Int)=4:=by omega
 have h8:(L:Int)<8:=by have:=qb0 o; omega
 have w1:=qai ((L:Int)+1) (by omega)
 obtain⟨inn,hinn⟩ : ∃ v,v=a.tx false L++([o.str]++(b.tx false (L+1)++[])):=⟨_,rfl⟩
 have htx:(E.bin f o a b).tx false p=inn:=by
  rw[hinn]
  simp[E.tx,qdq,bs,hl,hlf,hq]
 rw[htx] at hsz ⊢
 have hin:=hsz
 have z0:=ha (Wx (by
  have:=qap ([]) (a.tx false L) ([o.str]++(b.tx false (L+1)++[])) false
  try simp only[Wj,Wc] at this
  rw[hinn]
  exact this) hin)
 have z2:=hb (Wx (by
  have:=qap (a.tx false L++([o.str])) (b.tx false (L+1)) ([]) false
  try simp only[Wj,Wc] at this
  rw[hinn]
  exact this) hin)
 have hP:Parts [bs (qar false (a.tx false L)),o.str,bs (qar false (b.tx false (L+1)))] inn:=by rw[hinn]; exact (.sub (qbP false ga L) (.tok (.sub (qbP false gb (L+1)) .nil)))
 obtain⟨R,hR⟩ : ∃ v,v=bs (qar false inn):=⟨_,rfl⟩
 have hRs:R.size<2 ^ 40:=by rw[hR,qaz]; exact hin
 have za:Z tS (.call 247 [.dat (.sl [.lit (.string (bs (qar false (a.tx false L)))),.lit (.string o.str),.lit (.string (bs (qar false (b.tx false (L+1)))))] 3 true)] [])=some (.ret (.str R) []):=qdN hP hR (by simp) hRs
 generalize bs (qar false (a.tx false L))=r0 at *
 generalize bs (qar false (b.tx false (L+1)))=r2 at *
 rw[<- hR]
 clear hP hR hinn htx hsz hin
 refine qab (pf:=F246) rfl rfl ?_
 simp[F246,qae,zl,hc,z0,z2,za,h4',h8,w1]
theorem qvp{f:Bool}{o:Bop}{a b:E}{L:Nat}(hl:o.prec=L)(h4:L≠4)(ga:a.good)(gb:b.good)(ha:qdn a false L L)(hb:qdn b false (L+1) ((L:Int)+1)){p:Nat}{i:Int}(hi:i=p)(hp:L<p):qdn (E.bin f o a b) false p i:=by
 intro hsz
 have zl:Z tS (.call 261 [.dat (.agg [.lit (.int .i64 14),.lit (.int .i64 0),.lit (.string o.str),.sl [.lit (.int .i64 a.kind),.lit (.int .i64 a.num),.lit (.string a.str),a.kids,.lit (.int .i64 b.kind),.lit (.int .i64 b.num),.lit (.string b.str),b.kids] 2 f])] [])=some (.ret (.int L) []):=by
  have:=qeO (.bin f o a b)
  rw[show E.lev (.bin f o a b)=L from hl] at this
  exact this
 have hc:(L:Int)<i:=by omega
 have hq:L<p:=hp
 have hlf:o.left=L:=by have:=qb0 o; omega
 have h4' : ¬ (L:Int)=4:=by omega
 have h8:(L:Int)<8:=by have:=qb0 o; omega
 have w1:=qai ((L:Int)+1) (by omega)
 obtain⟨inn,hinn⟩ : ∃ v,v=a.tx false L++([o.str]++(b.tx false (L+1)++[])):=⟨_,rfl⟩
 have htx:(E.bin f o a b).tx false p=bs [40]::(inn++[bs [41]]):=by
  rw[hinn]
  simp[E.tx,qdq,bs,hl,hlf,hq]
 rw[htx] at hsz ⊢
 rw[qiB] at hsz ⊢
 have hin:(qar false inn).length<2 ^ 40:=by simp at hsz; omega
 have hin2:(qar false inn).length+2<2 ^ 40:=by simp at hsz; omega
 have z0:=ha (Wx (by
  have:=qap ([]) (a.tx false L) ([o.str]++(b.tx false (L+1)++[])) false
  try simp only[Wj,Wc] at this
  rw[hinn]
  exact this) hin)
 have z2:=hb (Wx (by
  have:=qap (a.tx false L++([o.str])) (b.tx false (L+1)) ([]) false
  try simp only[Wj,Wc] at this
  rw[hinn]
  exact this) hin)
 have hP:Parts [bs (qar false (a.tx false L)),o.str,bs (qar false (b.tx false (L+1)))] inn:=by rw[hinn]; exact (.sub (qbP false ga L) (.tok (.sub (qbP false gb (L+1)) .nil)))
 obtain⟨R,hR⟩ : ∃ v,v=bs (qar false inn):=⟨_,rfl⟩
 have hRs:R.size<2 ^ 40:=by rw[hR,qaz]; exact hin
 have za:Z tS (.call 247 [.dat (.sl [.lit (.string (bs (qar false (a.tx false L)))),.lit (.string o.str),.lit (.string (bs (qar false (b.tx false (L+1)))))] 3 true)] [])=some (.ret (.str R) []):=qdN hP hR (by simp) hRs
 generalize bs (qar false (a.tx false L))=r0 at *
 generalize bs (qar false (b.tx false (L+1)))=r2 at *
 have hfin:bs (40::(qar false inn++[41]))=⟨#[40]⟩++R++⟨#[41]⟩:=by
  rw[qeN,qeN ⟨#[40]⟩,qbM,hR,qbM]
  simp[byl]
 rw[hfin]
 have hRl:R.size+2<2 ^ 40:=by rw[hR,qaz]; exact hin2
 have y1:((⟨#[40]⟩:ByteArray).size:Int)=1:=rfl
 have y2:((⟨#[41]⟩:ByteArray).size:Int)=1:=rfl
 have y3:(⟨#[40]⟩:ByteArray).size=1:=rfl
 have y4:(⟨#[41]⟩:ByteArray).size=1:=rfl
 have y5 : ¬ (9223372036854775807:Int)<1+(R.size:Int):=by omega
 have y6 : ¬ (9223372036854775807:Int)<1+(R.size:Int)+1:=by omega
 have y7:(⟨#[40]⟩++R:ByteArray).size=1+R.size:=by rw[Yo]; rfl
 clear hP hR hinn htx hsz hin hin2 hfin
 refine qab (pf:=F246) rfl rfl ?_
 simp[F246,qae,zl,hc,y1,y2,y3,y4,y5,y6,y7,z0,z2,za,h4',h8,w1]
theorem qvq{f:Bool}{o:Bop}{a b:E}(hl:o.prec=4)(ga:a.good)(gb:b.good)(ha:qdn a false 5 5)(hb:qdn b false 5 5){p:Nat}{i:Int}(hi:i=p)(hp:p<=4):qdn (E.bin f o a b) false p i:=by
 intro hsz
 have zl:Z tS (.call 261 [.dat (.agg [.lit (.int .i64 14),.lit (.int .i64 0),.lit (.string o.str),.sl [.lit (.int .i64 a.kind),.lit (.int .i64 a.num),.lit (.string a.str),a.kids,.lit (.int .i64 b.kind),.lit (.int .i64 b.num),.lit (.string b.str),b.kids] 2 f])] [])=some (.ret (.int 4) []):=by
  have:=qeO (.bin f o a b)
  rw[show E.lev (.bin f o a b)=4 from hl] at this
  exact this
 have hc : ¬ (4:Int)<i:=by omega
 have hq : ¬ 4<p:=by omega
 have hlf:o.left=5:=by have:=qb0 o; omega
 obtain⟨inn,hinn⟩ : ∃ v,v=a.tx false 5++([o.str]++(b.tx false 5++[])):=⟨_,rfl⟩
 have htx:(E.bin f o a b).tx false p=inn:=by
  rw[hinn]
  simp[E.tx,qdq,bs,hl,hlf,hq]
 rw[htx] at hsz ⊢
 have hin:=hsz
 have z0:=ha (Wx (by
  have:=qap ([]) (a.tx false 5) ([o.str]++(b.tx false 5++[])) false
  try simp only[Wj,Wc] at this
  rw[hinn]
  exact this) hin)
 have z2:=hb (Wx (by
  have:=qap (a.tx false 5++([o.str])) (b.tx false 5) ([]) false
  try simp only[Wj,Wc] at this
  rw[hinn]
  exact this) hin)
 have hP:Parts [bs (qar false (a.tx false 5)),o.str,bs (qar false (b.tx false 5))] inn:=by rw[hinn]; exact (.sub (qbP false ga 5) (.tok (.sub (qbP false gb 5) .nil)))
 obtain⟨R,hR⟩ : ∃ v,v=bs (qar false inn):=⟨_,rfl⟩
 have hRs:R.size<2 ^ 40:=by rw[hR,qaz]; exact hin
 have za:Z tS (.call 247 [.dat (.sl [.lit (.string (bs (qar false (a.tx false 5)))),.lit (.string o.str),.lit (.string (bs (qar false (b.tx false 5))))] 3 true)] [])=some (.ret (.str R) []):=qdN hP hR (by simp) hRs
 generalize bs (qar false (a.tx false 5))=r0 at *
 generalize bs (qar false (b.tx false 5))=r2 at *
 rw[<- hR]
 clear hP hR hinn htx hsz hin
 refine qab (pf:=F246) rfl rfl ?_
 simp[F246,qae,zl,hc,z0,z2,za,qai 5 (by omega)]
theorem qsw{f:Bool}{o:Bop}{a b:E}(hl:o.prec=4)(ga:a.good)(gb:b.good)(ha:qdn a false 5 5)(hb:qdn b false 5 5){p:Nat}{i:Int}(hi:i=p)(hp:4<p):qdn (E.bin f o a b) false p i:=by
 intro hsz
 have zl:Z tS (.call 261 [.dat (.agg [.lit (.int .i64 14),.lit (.int .i64 0),.lit (.string o.str),.sl [.lit (.int .i64 a.kind),.lit (.int .i64 a.num),.lit (.string a.str),a.kids,.lit (.int .i64 b.kind),.lit (.int .i64 b.num),.lit (.string b.str),b.kids] 2 f])] [])=some (.ret (.int 4) []):=by
  have:=qeO (.bin f o a b)
  rw[show E.lev (.bin f o a b)=4 from hl] at this
  exact this
 have hc:(4:Int)<i:=by omega
 have hq:4<p:=hp
 have hlf:o.left=5:=by have:=qb0 o; omega
 obtain⟨inn,hinn⟩ : ∃ v,v=a.tx false 5++([o.str]++(b.tx false 5++[])):=⟨_,rfl⟩
 have htx:(E.bin f o a b).tx false p=bs [40]::(inn++[bs [41]]):=by
  rw[hinn]
  simp[E.tx,qdq,bs,hl,hlf,hq]
 rw[htx] at hsz ⊢
 rw[qiB] at hsz ⊢
 have hin:(qar false inn).length<2 ^ 40:=by simp at hsz; omega
 have hin2:(qar false inn).length+2<2 ^ 40:=by simp at hsz; omega
 have z0:=ha (Wx (by
  have:=qap ([]) (a.tx false 5) ([o.str]++(b.tx false 5++[])) false
  try simp only[Wj,Wc] at this
  rw[hinn]
  exact this) hin)
 have z2:=hb (Wx (by
  have:=qap (a.tx false 5++([o.str])) (b.tx false 5) ([]) false
  try simp only[Wj,Wc] at this
  rw[hinn]
  exact this) hin)
 have hP:Parts [bs (qar false (a.tx false 5)),o.str,bs (qar false (b.tx false 5))] inn:=by rw[hinn]; exact (.sub (qbP false ga 5) (.tok (.sub (qbP false gb 5) .nil)))
 obtain⟨R,hR⟩ : ∃ v,v=bs (qar false inn):=⟨_,rfl⟩
 have hRs:R.size<2 ^ 40:=by rw[hR,qaz]; exact hin
 have za:Z tS (.call 247 [.dat (.sl [.lit (.string (bs (qar false (a.tx false 5)))),.lit (.string o.str),.lit (.string (bs (qar false (b.tx false 5))))] 3 true)] [])=some (.ret (.str R) []):=qdN hP hR (by simp) hRs
 generalize bs (qar false (a.tx false 5))=r0 at *
 generalize bs (qar false (b.tx false 5))=r2 at *
 have hfin:bs (40::(qar false inn++[41]))=⟨#[40]⟩++R++⟨#[41]⟩:=by
  rw[qeN,qeN ⟨#[40]⟩,qbM,hR,qbM]
  simp[byl]
 rw[hfin]
 have hRl:R.size+2<2 ^ 40:=by rw[hR,qaz]; exact hin2
 have y1:((⟨#[40]⟩:ByteArray).size:Int)=1:=rfl
 have y2:((⟨#[41]⟩:ByteArray).size:Int)=1:=rfl
 have y3:(⟨#[40]⟩:ByteArray).size=1:=rfl
 have y4:(⟨#[41]⟩:ByteArray).size=1:=rfl
 have y5 : ¬ (9223372036854775807:Int)<1+(R.size:Int):=by omega
 have y6 : ¬ (9223372036854775807:Int)<1+(R.size:Int)+1:=by omega
 have y7:(⟨#[40]⟩++R:ByteArray).size=1+R.size:=by rw[Yo]; rfl
 clear hP hR hinn htx hsz hin hin2 hfin
 refine qab (pf:=F246) rfl rfl ?_
 simp[F246,qae,zl,hc,y1,y2,y3,y4,y5,y6,y7,z0,z2,za,qai 5 (by omega)]
theorem qlD : ∀ e:E,e.good -> ∀ p i,i=((p:Nat):Int)->p<=8->qdn e false p i
 |.int n,h,p,i,hi,hp=>qys h.1 h.2 hi hp
 |.bool n,h,p,i,hi,hp=>by
  rcases h with rfl|rfl
  ·exact qst hi hp
  ·exact qsu hi hp
 |.var s,h,p,i,hi,hp=>qyt hi hp
 |.name s,h,p,i,hi,hp=>qvo hi hp
 |.field f s e,h,p,i,hi,hp=>qsv h.2 (qlD e h.2 1 1 rfl (by omega)) hi hp
 |.un f neg e,h,p,i,hi,hp=>by
  have hg:e.good:=h
  have A:=qlD e hg (qeV neg) (qeV neg) rfl (by cases neg<;>decide)
  by_cases hq:qeV neg<p
  ·exact qyu rfl hg A hi hq
  ·exact qAZ rfl hg A hi (by omega)
 |.bin f o a b,h,p,i,hi,hp=>by
  have hr:=qb0 o
  have A:=qlD a h.1 o.left o.left rfl (by omega)
  have B:=qlD b h.2 (o.prec+1) ((o.prec:Int)+1) (by omega) (by omega)
  by_cases h4:o.prec=4
  ·rw[show o.left=5 by omega] at A
   rw[h4] at B
   by_cases hq:4<p
   ·exact qsw h4 h.1 h.2 A B hi hq
   ·exact qvq h4 h.1 h.2 A B hi (by omega)
  ·rw[show o.left=o.prec by omega] at A
   by_cases hq:o.prec<p
   ·exact qvp rfl h4 h.1 h.2 A B hi hq
   ·exact qyv rfl h4 h.1 h.2 A B hi (by omega)
theorem qhA{e:E}(h:e.good)(hsz:(qar false (e.tx false 1)).length<2 ^ 40):Z tS (.call 234 [e.node] [])=some (.ret (.str (bs (qar false (e.tx false 1)))) []):=by
 have z:=qlD e h 1 1 rfl (by omega) hsz
 generalize bs (qar false (e.tx false 1))=R at *
 refine qab (pf:=F234) rfl rfl ?_
 simp[F234,z]
end
section
open F
def Ss.btx(b:Ss):List ByteArray:=⟨#[123]⟩::(b.tx++[⟨#[125]⟩])
def qjg(b:Ss):Prop:=(∀ t∈b.tx,t.size≠0) /\ ∀ (k n:Int) (s:ByteArray) (f:Bool),(qar false b.btx).length<2 ^ 40->Z tS (.call 248 [.dat (.agg [.lit (.int .i64 k),.lit (.int .i64 n),.lit (.string s),kd f b.fo.len b.fo.cells])] [])=some (.ret (.str (bs (qar false b.btx))) [])
theorem qeJ{b:Ss}(h : ∀ t∈b.tx,t.size≠0) : ∀ t∈b.btx,t.size≠0:=by
 intro t ht
 rcases Wu.1 ht with rfl|ht
 ·decide
 ·rcases Ws.1 ht with ht|ht
  ·exact h t ht
  ·rw[Wg.1 ht]; decide
theorem qfD{a b:List ByteArray}(ha : ∀ t∈a,t.size≠0)(hb : ∀ t∈b,t.size≠0) : ∀ t∈a++b,t.size≠0:=fun t ht=>by
 rcases Ws.1 ht with h|h
 ·exact ha t h
 ·exact hb t h
theorem qkM{x:ByteArray}(h:x.size≠0) : ∀ t∈[x],t.size≠0:=fun t ht=>by rw[Wg.1 ht]; exact h
theorem qnP : ∀ t∈([]:List ByteArray),t.size≠0:=fun t ht=>by cases ht
theorem qqM {f fb fc:Bool} {s:ByteArray} {e:E} (ge:e.good) {T:List ByteArray} (hT:T=[s]++([⟨#[61]⟩]++(e.tx false 1++([⟨#[59]⟩]++[])))) (hsz:(qar false T).length<2 ^ 40) :
  Z tS (.call 263 [.dat (.agg [.lit (.int .i64 1),.lit (.int .i64 0),.lit (.string s),.sl [.lit (.int .i64 e.kind),.lit (.int .i64 e.num),.lit (.string e.str),e.kids] 1 f])] [])=some (.ret (.str (bs (qar false T))) []):=by
 have q2:(qar false (e.tx false 1)).length<2 ^ 40:=Wx (by
  have:=qap ([s]++([⟨#[61]⟩]++[])) (e.tx false 1) ([⟨#[59]⟩]++[]) false
  simp only[Wj,Wc,Wr] at this
  rw[hT]
  simp only[Wj,Wc,Wr]
  exact this) hsz
 have z2:=qhA ge q2
 obtain⟨R,hR⟩ : ∃ v,v=bs (qar false T):=⟨_,rfl⟩
 have hRs:R.size<2 ^ 40:=by rw[hR,qaz]; exact hsz
 have hP:Parts [s,⟨#[61]⟩,bs (qar false (e.tx false 1)),⟨#[59]⟩] T:=by rw[hT]; exact (.tok (.tok (.sub (qbP false ge 1) (.tok .nil))))
 have za:Z tS (.call 247 [.dat (.sl [.lit (.string s),.lit (.string ⟨#[61]⟩),.lit (.string (bs (qar false (e.tx false 1)))),.lit (.string ⟨#[59]⟩)] 4 true)] [])=some (.ret (.str R) []):=qdN hP hR (by simp) hRs
 generalize bs (qar false (e.tx false 1))=r2 at *
 rw[<- hR]
 refine qab (pf:=F263) rfl rfl ?_
 simp[F263,qae,z2,za]
theorem qs0 {f fb fc:Bool} {s:ByteArray} {x y:E} (gx:x.good) (gy:y.good) {T:List ByteArray} (hT:T=[s]++([⟨#[91]⟩]++(x.tx false 1++([⟨#[93]⟩]++([⟨#[61]⟩]++(y.tx false 1++([⟨#[59]⟩]++[]))))))) (hsz:(qar false T).length<2 ^ 40) :
  Z tS (.call 263 [.dat (.agg [.lit (.int .i64 2),.lit (.int .i64 0),.lit (.string s),.sl [.lit (.int .i64 x.kind),.lit (.int .i64 x.num),.lit (.string x.str),x.kids,.lit (.int .i64 y.kind),.lit (.int .i64 y.num),.lit (.string y.str),y.kids] 2 f])] [])=some (.ret (.str (bs (qar false T))) []):=by
 have q2:(qar false (x.tx false 1)).length<2 ^ 40:=Wx (by
  have:=qap ([s]++([⟨#[91]⟩]++[])) (x.tx false 1) ([⟨#[93]⟩]++([⟨#[61]⟩]++(y.tx false 1++([⟨#[59]⟩]++[])))) false
  simp only[Wj,Wc,Wr] at this
  rw[hT]
  simp only[Wj,Wc,Wr]
  exact this) hsz
 have z2:=qhA gx q2
 have q5:(qar false (y.tx false 1)).length<2 ^ 40:=Wx (by
  have:=qap ([s]++([⟨#[91]⟩]++(x.tx false 1++([⟨#[93]⟩]++([⟨#[61]⟩]++[]))))) (y.tx false 1) ([⟨#[59]⟩]++[]) false
  simp only[Wj,Wc,Wr] at this
  rw[hT]
  simp only[Wj,Wc,Wr]
  exact this) hsz
 have z5:=qhA gy q5
 obtain⟨R,hR⟩ : ∃ v,v=bs (qar false T):=⟨_,rfl⟩
 have hRs:R.size<2 ^ 40:=by rw[hR,qaz]; exact hsz
 have hP:Parts [s,⟨#[91]⟩,bs (qar false (x.tx false 1)),⟨#[93]⟩,⟨#[61]⟩,bs (qar false (y.tx false 1)),⟨#[59]⟩] T:=by rw[hT]; exact (.tok (.tok (.sub (qbP false gx 1) (.tok (.tok (.sub (qbP false gy 1) (.tok .nil)))))))
 have za:Z tS (.call 247 [.dat (.sl [.lit (.string s),.lit (.string ⟨#[91]⟩),.lit (.string (bs (qar false (x.tx false 1)))),.lit (.string ⟨#[93]⟩),.lit (.string ⟨#[61]⟩),.lit (.string (bs (qar false (y.tx false 1)))),.lit (.string ⟨#[59]⟩)] 7 true)] [])=some (.ret (.str R) []):=qdN hP hR (by simp) hRs
 generalize bs (qar false (x.tx false 1))=r2 at *
 generalize bs (qar false (y.tx false 1))=r5 at *
 rw[<- hR]
 refine qab (pf:=F263) rfl rfl ?_
 simp[F263,qae,z2,z5,za]
theorem qqN {f fb fc:Bool} {x y:E} (gx:x.good) (gy:y.good) {T:List ByteArray} (hT:T=[⟨#[101,102,102,101,99,116]⟩]++(x.tx false 1++([⟨#[44]⟩]++(y.tx false 1++([⟨#[59]⟩]++[]))))) (hsz:(qar false T).length<2 ^ 40) :
  Z tS (.call 263 [.dat (.agg [.lit (.int .i64 5),.lit (.int .i64 0),.lit (.string ⟨#[]⟩),.sl [.lit (.int .i64 x.kind),.lit (.int .i64 x.num),.lit (.string x.str),x.kids,.lit (.int .i64 y.kind),.lit (.int .i64 y.num),.lit (.string y.str),y.kids] 2 f])] [])=some (.ret (.str (bs (qar false T))) []):=by
 have q1:(qar false (x.tx false 1)).length<2 ^ 40:=Wx (by
  have:=qap ([⟨#[101,102,102,101,99,116]⟩]++[]) (x.tx false 1) ([⟨#[44]⟩]++(y.tx false 1++([⟨#[59]⟩]++[]))) false
  simp only[Wj,Wc,Wr] at this
  rw[hT]
  simp only[Wj,Wc,Wr]
  exact this) hsz
 have z1:=qhA gx q1
 have q3:(qar false (y.tx false 1)).length<2 ^ 40:=Wx (by
  have:=qap ([⟨#[101,102,102,101,99,116]⟩]++(x.tx false 1++([⟨#[44]⟩]++[]))) (y.tx false 1) ([⟨#[59]⟩]++[]) false
  simp only[Wj,Wc,Wr] at this
  rw[hT]
  simp only[Wj,Wc,Wr]
  exact this) hsz
 have z3:=qhA gy q3
 obtain⟨R,hR⟩ : ∃ v,v=bs (qar false T):=⟨_,rfl⟩
 have hRs:R.size<2 ^ 40:=by rw[hR,qaz]; exact hsz
 have hP:Parts [⟨#[101,102,102,101,99,116]⟩,bs (qar false (x.tx false 1)),⟨#[44]⟩,bs (qar false (y.tx false 1)),⟨#[59]⟩] T:=by rw[hT]; exact (.tok (.sub (qbP false gx 1) (.tok (.sub (qbP false gy 1) (.tok .nil)))))
 have za:Z tS (.call 247 [.dat (.sl [.lit (.string ⟨#[101,102,102,101,99,116]⟩),.lit (.string (bs (qar false (x.tx false 1)))),.lit (.string ⟨#[44]⟩),.lit (.string (bs (qar false (y.tx false 1)))),.lit (.string ⟨#[59]⟩)] 5 true)] [])=some (.ret (.str R) []):=qdN hP hR (by simp) hRs
 generalize bs (qar false (x.tx false 1))=r1 at *
 generalize bs (qar false (y.tx false 1))=r3 at *
 rw[<- hR]
 refine qab (pf:=F263) rfl rfl ?_
 simp[F263,qae,z1,z3,za]
theorem qs1 {f fb fc:Bool} {c:E} {p:Ss} (gc:c.good) (hb:qjg p) {T:List ByteArray} (hT:T=[⟨#[119,104,105,108,101]⟩]++(c.tx false 1++(p.btx++[]))) (hsz:(qar false T).length<2 ^ 40) :
  Z tS (.call 263 [.dat (.agg [.lit (.int .i64 4),.lit (.int .i64 0),.lit (.string ⟨#[]⟩),.sl [.lit (.int .i64 c.kind),.lit (.int .i64 c.num),.lit (.string c.str),c.kids,.lit (.int .i64 7),.lit (.int .i64 0),.lit (.string ⟨#[]⟩),kd fb p.fo.len p.fo.cells] 2 f])] [])=some (.ret (.str (bs (qar false T))) []):=by
 have q1:(qar false (c.tx false 1)).length<2 ^ 40:=Wx (by
  have:=qap ([⟨#[119,104,105,108,101]⟩]++[]) (c.tx false 1) (p.btx++[]) false
  simp only[Wj,Wc,Wr] at this
  rw[hT]
  simp only[Wj,Wc,Wr]
  exact this) hsz
 have z1:=qhA gc q1
 have q2:(qar false (p.btx)).length<2 ^ 40:=Wx (by
  have:=qap ([⟨#[119,104,105,108,101]⟩]++(c.tx false 1++[])) (p.btx) ([]) false
  simp only[Wj,Wc,Wr] at this
  rw[hT]
  simp only[Wj,Wc,Wr]
  exact this) hsz
 have z2:=hb.2 7 0 ⟨#[]⟩ fb q2
 obtain⟨R,hR⟩ : ∃ v,v=bs (qar false T):=⟨_,rfl⟩
 have hRs:R.size<2 ^ 40:=by rw[hR,qaz]; exact hsz
 have hP:Parts [⟨#[119,104,105,108,101]⟩,bs (qar false (c.tx false 1)),bs (qar false (p.btx))] T:=by rw[hT]; exact (.tok (.sub (qbP false gc 1) (.sub (qeJ hb.1) .nil)))
 have za:Z tS (.call 247 [.dat (.sl [.lit (.string ⟨#[119,104,105,108,101]⟩),.lit (.string (bs (qar false (c.tx false 1)))),.lit (.string (bs (qar false (p.btx))))] 3 true)] [])=some (.ret (.str R) []):=qdN hP hR (by simp) hRs
 generalize bs (qar false (c.tx false 1))=r1 at *
 generalize bs (qar false (p.btx))=r2 at *
 rw[<- hR]
 refine qab (pf:=F263) rfl rfl ?_
 simp[F263,qae,z1,z2,za]
theorem qy0 {f fb fc:Bool} {c:E} {p q:Ss} (gc:c.good) (hb:qjg p) (hq:q.fo.len=0) {T:List ByteArray} (hT:T=[⟨#[105,102]⟩]++(c.tx false 1++(p.btx++[]))) (hsz:(qar false T).length<2 ^ 40) :
  Z tS (.call 263 [.dat (.agg [.lit (.int .i64 3),.lit (.int .i64 0),.lit (.string ⟨#[]⟩),.sl [.lit (.int .i64 c.kind),.lit (.int .i64 c.num),.lit (.string c.str),c.kids,.lit (.int .i64 7),.lit (.int .i64 0),.lit (.string ⟨#[]⟩),kd fb p.fo.len p.fo.cells,.lit (.int .i64 7),.lit (.int .i64 0),.lit (.string ⟨#[]⟩),kd fc q.fo.len q.fo.cells] 3 f])] [])=some (.ret (.str (bs (qar false T))) []):=by
 have q1:(qar false (c.tx false 1)).length<2 ^ 40:=Wx (by
  have:=qap ([⟨#[105,102]⟩]++[]) (c.tx false 1) (p.btx++[]) false
  simp only[Wj,Wc,Wr] at this
  rw[hT]
  simp only[Wj,Wc,Wr]
  exact this) hsz
 have z1:=qhA gc q1
 have q2:(qar false (p.btx)).length<2 ^ 40:=Wx (by
  have:=qap ([⟨#[105,102]⟩]++(c.tx false 1++[])) (p.btx) ([]) false
  simp only[Wj,Wc,Wr] at this
  rw[hT]
  simp only[Wj,Wc,Wr]
  exact this) hsz
 have z2:=hb.2 7 0 ⟨#[]⟩ fb q2
 obtain⟨R,hR⟩ : ∃ v,v=bs (qar false T):=⟨_,rfl⟩
 have hRs:R.size<2 ^ 40:=by rw[hR,qaz]; exact hsz
 have hP:Parts [⟨#[105,102]⟩,bs (qar false (c.tx false 1)),bs (qar false (p.btx))] T:=by rw[hT]; exact (.tok (.sub (qbP false gc 1) (.sub (qeJ hb.1) .nil)))
 have za:Z tS (.call 247 [.dat (.sl [.lit (.string ⟨#[105,102]⟩),.lit (.string (bs (qar false (c.tx false 1)))),.lit (.string (bs (qar false (p.btx))))] 3 true)] [])=some (.ret (.str R) []):=qdN hP hR (by simp) hRs
 generalize bs (qar false (c.tx false 1))=r1 at *
 generalize bs (qar false (p.btx))=r2 at *
 rw[<- hR]
 have hq1 : ∀ cs,kd fc q.fo.len cs = .lit (.slice none 0 0):=fun cs=>by rw[hq]; rfl
 simp only[hq1]
 refine qab (pf:=F263) rfl rfl ?_
 simp[F263,qae,z1,z2,za,qdR]
theorem qy1 {f fb fc:Bool} {c:E} {p q:Ss} (gc:c.good) (hb:qjg p) (hq:0<q.fo.len) (hd:qjg q) {T:List ByteArray} (hT:T=[⟨#[105,102]⟩]++(c.tx false 1++(p.btx++([⟨#[101,108,115,101]⟩]++(q.btx++[]))))) (hsz:(qar false T).length<2 ^ 40) :
  Z tS (.call 263 [.dat (.agg [.lit (.int .i64 3),.lit (.int .i64 0),.lit (.string ⟨#[]⟩),.sl [.lit (.int .i64 c.kind),.lit (.int .i64 c.num),.lit (.string c.str),c.kids,.lit (.int .i64 7),.lit (.int .i64 0),.lit (.string ⟨#[]⟩),kd fb p.fo.len p.fo.cells,.lit (.int .i64 7),.lit (.int .i64 0),.lit (.string ⟨#[]⟩),kd fc q.fo.len q.fo.cells] 3 f])] [])=some (.ret (.str (bs (qar false T))) []):=by
 have q1:(qar false (c.tx false 1)).length<2 ^ 40:=Wx (by
  have:=qap ([⟨#[105,102]⟩]++[]) (c.tx false 1) (p.btx++([⟨#[101,108,115,101]⟩]++(q.btx++[]))) false
  simp only[Wj,Wc,Wr] at this
  rw[hT]
  simp only[Wj,Wc,Wr]
  exact this) hsz
 have z1:=qhA gc q1
 have q2:(qar false (p.btx)).length<2 ^ 40:=Wx (by
  have:=qap ([⟨#[105,102]⟩]++(c.tx false 1++[])) (p.btx) ([⟨#[101,108,115,101]⟩]++(q.btx++[])) false
  simp only[Wj,Wc,Wr] at this
  rw[hT]
  simp only[Wj,Wc,Wr]
  exact this) hsz
 have z2:=hb.2 7 0 ⟨#[]⟩ fb q2
 have q4:(qar false (q.btx)).length<2 ^ 40:=Wx (by
  have:=qap ([⟨#[105,102]⟩]++(c.tx false 1++(p.btx++([⟨#[101,108,115,101]⟩]++[])))) (q.btx) ([]) false
  simp only[Wj,Wc,Wr] at this
  rw[hT]
  simp only[Wj,Wc,Wr]
  exact this) hsz
 have z4:=hd.2 7 0 ⟨#[]⟩ fc q4
 obtain⟨R,hR⟩ : ∃ v,v=bs (qar false T):=⟨_,rfl⟩
 have hRs:R.size<2 ^ 40:=by rw[hR,qaz]; exact hsz
 obtain⟨T1,hT1⟩ : ∃ v,v=[⟨#[105,102]⟩]++(c.tx false 1++(p.btx++[])):=⟨_,rfl⟩
 have hT2:T=T1++([⟨#[101,108,115,101]⟩]++(q.btx++[])):=by rw[hT,hT1]; simp only[Wj,Wc,Wr]
 have s1:(qar false T1).length<2 ^ 40:=Wx (by
  have:=qap [] T1 ([⟨#[101,108,115,101]⟩]++(q.btx++[])) false
  rw[Wc] at this
  rw[hT2]
  exact this) hsz
 obtain⟨R1,hR1⟩ : ∃ v,v=bs (qar false T1):=⟨_,rfl⟩
 have hR1s:R1.size<2 ^ 40:=by rw[hR1,qaz]; exact s1
 have n1 : ∀ t∈T1,t.size≠0:=by
  rw[hT1]
  exact qfD (qkM (by decide)) (qfD (qbP false gc 1) (qfD (qeJ hb.1) qnP))
 have hP1:Parts [⟨#[105,102]⟩,bs (qar false (c.tx false 1)),bs (qar false (p.btx))] T1:=by rw[hT1]; exact (.tok (.sub (qbP false gc 1) (.sub (qeJ hb.1) .nil)))
 have za:Z tS (.call 247 [.dat (.sl [.lit (.string ⟨#[105,102]⟩),.lit (.string (bs (qar false (c.tx false 1)))),.lit (.string (bs (qar false (p.btx))))] 3 true)] [])=some (.ret (.str R1) []):=qdN hP1 hR1 (by simp) hR1s
 have hP2:Parts [R1,⟨#[101,108,115,101]⟩,bs (qar false (q.btx))] T:=by rw[hT2,hR1]; exact .sub n1 (.tok (.sub (qeJ hd.1) .nil))
 have zb:Z tS (.call 247 [.dat (.sl [.lit (.string R1),.lit (.string ⟨#[101,108,115,101]⟩),.lit (.string (bs (qar false (q.btx))))] 3 true)] [])=some (.ret (.str R) []):=qdN hP2 hR (by simp) hRs
 generalize bs (qar false (c.tx false 1))=r1 at *
 generalize bs (qar false (p.btx))=r2 at *
 generalize bs (qar false (q.btx))=r4 at *
 rw[<- hR]
 have hq1:(0:Int)<q.fo.len:=by omega
 refine qab (pf:=F263) rfl rfl ?_
 simp[F263,qae,z1,z2,z4,za,zb,hq1,hq]
theorem qwn {d:D} (hd:V.one (.dat d)=true) (hcl:V.cells (.dat d)=[.dat d]) :
  Z tS (.call 263 [.dat (.agg [.lit (.int .i64 6),.lit (.int .i64 0),.lit (.string ⟨#[]⟩),d])] [])=some (.ret (.str (bs (qar false [⟨#[115,116,111,112]⟩,⟨#[59]⟩]))) []):=by
 have e:bs (qar false [⟨#[115,116,111,112]⟩,⟨#[59]⟩])=⟨#[115,116,111,112,59]⟩:=by decide
 rw[e]
 refine qab (pf:=F263) rfl rfl ?_
 simp[F263,hd,hcl]
end
section
open F
abbrev sbF(s:ByteArray)(i:Int)(ex:Fr):Fr:=(1,.ptr 0 0)::(3,.str s)::(4,.int i)::ex
abbrev sbS(k n:Int)(s:ByteArray)(d:D):S:=[.cells [.int k,.int n,.str s,.dat d]]
def quN(s:Ss):Prop := ∀ (cs:List D) (m i:Nat) (f:Bool) (k n:Int) (t:ByteArray) w w',cs.drop (i*4)=s.fo.cells->i+s.fo.len=m->m<2 ^ 40->w'=pw w s.tx->w'.length<2 ^ 40 ->
 Z tS (.loop 0 F248l0 (sbF (bs w) i []) (sbS k n t (.sl cs m f)))=some (.out (.exit 0) (sbF (bs w') m [(9,.bool false)]) (sbS k n t (.sl cs m f)))
def qxR:Ss->Prop
 |.block _ b r=>qjg b/\qxR r
 |_=>True
theorem qxS {cs:List D} {m i:Nat} {f:Bool} {k0 n0:Int} {s0:ByteArray} {w w1:List UInt8} {T:List ByteArray} {k n:Int} {s:ByteArray} {d:D} {rest:List D} (hd:cs.drop (i*4) = .lit (.int .i64 k) :: .lit (.int .i64 n) :: .lit (.string s)::d::rest)
  (h1:V.one (.dat d)=true) (hcl:V.cells (.dat d)=[.dat d]) (hi:i<m) (hm:m<2 ^ 40) (hT : ∀ t∈T,t.size≠0) (hw:w1=pw w T) (hsz:w1.length<2 ^ 40)
  (zs:Z tS (.call 263 [.dat (.agg [.lit (.int .i64 k),.lit (.int .i64 n),.lit (.string s),d])] [])=some (.ret (.str (bs (qar false T))) []))
  {r:Res} (zr:Z tS (.loop 0 F248l0 (sbF (bs w1) ((i+1:Nat):Int) []) (sbS k0 n0 s0 (.sl cs m f)))=some r) :
  Z tS (.loop 0 F248l0 (sbF (bs w) i []) (sbS k0 n0 s0 (.sl cs m f)))=some r:=by
 have hc:=qzF hd
 have hlt:(i:Int)<m:=by omega
 have w1':IntKind.i64.wrap ((i:Int)+1)=((i+1:Nat):Int):=by rw[qai _ (by omega)]; omega
 have hle:=qgA T (wl w)
 have zj:=quD (bs w) (bs (qar false T)) (by
  rw[qaz,qaz]
  have:=congrArg List.length hw
  simp only[pw,Wd] at this
  omega)
 rw[qbM,quE w hT,<- hw] at zj
 rw[<- zr]
 conv=>lhs; rw[qaa]
 generalize ((i+1:Nat):Int)=i1 at *
 generalize bs (qar false T)=R at *
 generalize bs w1=W1 at *
 generalize bs w=W0 at *
 simp[qac,qhg,qae,V.len,hc,h1,hcl,hlt,hi,zs,zj,w1',Wa]
theorem qng{b:Ss}(hg:b.good none)(hl:quN b):qjg b:=by
 have htg:=qn9 (qiE b none hg).ok
 have hnz : ∀ t∈b.tx,t.size≠0:=fun t ht=>qkU (htg t ht)
 refine⟨hnz,?_⟩
 intro k n s f hsz
 obtain⟨w2,e2⟩ : ∃ v,v=pw [123] b.tx:=⟨_,rfl⟩
 have e3:qar false b.btx=w2++[125]:=by
  rw[<- qrb,Ss.btx,qdj,qjL,e2]
  show pw (pw ([]++(gap (wl []) ⟨#[123]⟩++byl ⟨#[123]⟩)) b.tx) [⟨#[125]⟩]=_
  rw[show ([]++(gap (wl []) ⟨#[123]⟩++byl ⟨#[123]⟩):List UInt8)=[123] by decide,qdj,qe9]
  have : ∀ q,gap q ⟨#[125]⟩=[]:=fun q=>by cases q<;>decide
  rw[this]
  rfl
 rw[e3] at hsz ⊢
 have s2:w2.length<2 ^ 40:=by rw[Wd] at hsz; omega
 have hb:b.fo.len<2 ^ 40:=by
  have h1:=qfF b hg
  have h2:=qjV b.tx (wl [123]) hnz
  have h3:=congrArg List.length e2
  simp only[pw,Wd] at h3
  omega
 have hr:bs (w2++[125])=bs w2++⟨#[125]⟩:=(quC w2 [125]).symm
 have hsz2 : ¬ (9223372036854775807:Int)<((bs w2).size:Int)+1:=by rw[qaz]; omega
 have y1:((⟨#[125]⟩:ByteArray).size:Int)=1:=rfl
 have y2:(⟨#[125]⟩:ByteArray).size=1:=rfl
 have z0:(⟨#[123]⟩:ByteArray)=bs [123]:=rfl
 rw[hr]
 refine qab (pf:=F248) rfl rfl ?_
 cases hbl:b.fo.len with
 |zero=>
  have hn:=qhd hbl
  subst hn
  have:w2=[123]:=by rw[e2]; exact qe9 _
  subst this
  have y3:((⟨#[123]⟩:ByteArray).size:Int)=1:=rfl
  simp[F248,V.len,qaa,qac,qhg,Wa,bs,y1,y2,y3]
 |succ q=>
  have z2:=hl b.fo.cells (q+1) 0 f k n s [123] w2 (by simp) (by omega) (by omega) e2 s2
  have hk:kd f (q+1) b.fo.cells = .sl b.fo.cells (q+1) f:=rfl
  rw[hk]
  simp only[sbF,sbS,Int.cast_ofNat_Int,<- z0] at z2
  generalize q+1=M at *
  generalize bs w2=W2 at *
  simp[F248,z2,Wa,y1,y2,hsz2]
theorem quO {S r:Ss} {T:List ByteArray} (htx:S.tx=T++r.tx) (hnz : ∀ t∈S.tx,t.size≠0) {cs:List D} {m i:Nat} {f:Bool} {k0 n0:Int} {s0:ByteArray} {w w':List UInt8} {k n:Int} {s:ByteArray} {d:D}
  (hd:cs.drop (i*4) = .lit (.int .i64 k) :: .lit (.int .i64 n) :: .lit (.string s)::d::r.fo.cells) (h1:V.one (.dat d)=true) (hcl:V.cells (.dat d)=[.dat d]) (hm:i+(r.fo.len+1)=m) (hm2:m<2 ^ 40) (hw:w'=pw w S.tx) (hs:w'.length<2 ^ 40)
  (zs:(qar false T).length<2 ^ 40->Z tS (.call 263 [.dat (.agg [.lit (.int .i64 k),.lit (.int .i64 n),.lit (.string s),d])] [])=some (.ret (.str (bs (qar false T))) [])) (ihr:quN r) :
  Z tS (.loop 0 F248l0 (sbF (bs w) i []) (sbS k0 n0 s0 (.sl cs m f)))=some (.out (.exit 0) (sbF (bs w') m [(9,.bool false)]) (sbS k0 n0 s0 (.sl cs m f))):=by
 obtain⟨w1,e1⟩ : ∃ v,v=pw w T:=⟨_,rfl⟩
 have e2:w'=pw w1 r.tx:=by rw[hw,htx,qjL,e1]
 have s1:w1.length<2 ^ 40:=Wx (by rw[e2]; exact qt9 _ _) hs
 have hle:=qgA T (wl w)
 have sT:(qar false T).length<2 ^ 40:=by
  have:=congrArg List.length e1
  simp only[pw,Wd] at this
  omega
 have nT : ∀ t∈T,t.size≠0:=fun t ht=>hnz t (by rw[htx]; exact Yr _ ht)
 exact qxS hd h1 hcl (by omega) hm2 nT e1 s1 (zs sT) (ihr cs m (i+1) f k0 n0 s0 w1 w' (qcv hd) (by omega) hm2 e2 hs)
theorem qxT : ∀ s:Ss,(s.good none->quN s)/\((∃ k,s.good (some k))->qxR s):=by
 intro s
 have nz : ∀ s:Ss,s.good none -> ∀ t∈s.tx,t.size≠0:=fun s h t ht=>qkU (qn9 (qiE s none h).ok t ht)
 induction s with
 |nil=>
  refine⟨fun _ cs m i f k0 n0 s0 w w' hd hm hm2 hw hs=>?_,fun _=>trivial⟩
  rw[Ss.tx,qe9] at hw
  subst hw
  have:i=m:=by simpa [Ss.fo] using hm
  subst this
  simp only[sbF,sbS]
  rw[qaa]
  simp[qac,qhg,V.len,Wa]
 |assign g s e r ih=>
  refine⟨fun h cs m i f k0 n0 s0 w w' hd hm hm2 hw hs=>?_,fun _=>trivial⟩
  have hz:=nz _ h
  obtain⟨_,hn,he,hr⟩:=h
  simp only[Ss.fo,qaC,ql4,qaR,qbs,qkZ,qgL,qbc] at hd hm
  exact quO (S := .assign g s e r) (T:=[s]++([⟨#[61]⟩]++(e.tx false 1++([⟨#[59]⟩]++[])))) (by simp only[Ss.tx,Wi,Wc,Wr,Wj]; rfl) hz hd rfl rfl (by omega) hm2 hw hs (qqM (fb:=false) (fc:=false) he (by simp only[Wj,Wr,Wi,Wc])) (ih.1 hr)
 |store g s a b r ih=>
  refine⟨fun h cs m i f k0 n0 s0 w w' hd hm hm2 hw hs=>?_,fun _=>trivial⟩
  have hz:=nz _ h
  obtain⟨_,hn,ha,hb,hr⟩:=h
  simp only[Ss.fo,qaC,ql4,qaR,qbs,qkZ,qgL,qbc] at hd hm
  exact quO (S := .store g s a b r) (T:=[s]++([⟨#[91]⟩]++(a.tx false 1++([⟨#[93]⟩]++([⟨#[61]⟩]++(b.tx false 1++([⟨#[59]⟩]++[]))))))) (by simp only[Ss.tx,Wi,Wc,Wr,Wj]; rfl) hz hd rfl rfl (by omega) hm2 hw hs (qs0 (fb:=false) (fc:=false) ha hb (by simp only[Wj,Wr,Wi,Wc])) (ih.1 hr)
 |effect g a b r ih=>
  refine⟨fun h cs m i f k0 n0 s0 w w' hd hm hm2 hw hs=>?_,fun _=>trivial⟩
  have hz:=nz _ h
  obtain⟨_,ha,hb,hr⟩:=h
  simp only[Ss.fo,qaC,ql4,qaR,qbs,qkZ,qgL,qbc] at hd hm
  exact quO (S := .effect g a b r) (T:=[⟨#[101,102,102,101,99,116]⟩]++(a.tx false 1++([⟨#[44]⟩]++(b.tx false 1++([⟨#[59]⟩]++[]))))) (by simp only[Ss.tx,Wi,Wc,Wr,Wj]; rfl) hz hd rfl rfl (by omega) hm2 hw hs (qqN (fb:=false) (fc:=false) ha hb (by simp only[Wj,Wr,Wi,Wc])) (ih.1 hr)
 |stop r ih=>
  refine⟨fun h cs m i f k0 n0 s0 w w' hd hm hm2 hw hs=>?_,fun _=>trivial⟩
  have hz:=nz _ h
  obtain⟨_,hr⟩:=h
  simp only[Ss.fo,qaC,qaR,qbs,qbc,qAn] at hd hm
  exact quO (S := .stop r) (T:=[⟨#[115,116,111,112]⟩,⟨#[59]⟩]) rfl hz hd rfl rfl (by omega) hm2 hw hs (fun _=>qwn rfl rfl) (ih.1 hr)
 |cond w0 g c b r ihb ih=>
  refine⟨fun h cs m i f k0 n0 s0 w w' hd hm hm2 hw hs=>?_,fun _=>trivial⟩
  have hz:=nz _ h
  obtain⟨_,hc,hb,hr⟩:=h
  cases w0 with
  |true=>
   obtain⟨fb,b1,rfl,hb1⟩:=qrc hb
   have hrow:=ihb.2 ⟨1,hb⟩
   simp only[Ss.fo,qaC,ql4,qaR,qbs,qkZ,qgL,qbc,if_true] at hd hm
   exact quO (S := .cond true g c (.block fb b1 .nil) r) (T:=[⟨#[119,104,105,108,101]⟩]++(c.tx false 1++b1.btx)) (by simp only[Ss.tx,Ss.btx,Wi,Wc,Wr,Wj,qf2,if_true,Wo,if_false]; rfl) hz hd rfl rfl (by omega) hm2 hw hs (qs1 (fc:=false) hc hrow.1 (by simp only[Wj,Wr,Wi,Wc])) (ih.1 hr)
  |false=>
   obtain⟨fb,b1,fc,b2,rfl,hb1,hb2⟩:=qwU hb
   have hrow:=ihb.2 ⟨2,hb⟩
   simp only[Ss.fo,qaC,ql4,qaR,qbs,qkZ,qgL,qbc,Wo,if_false] at hd hm
   cases hl:b2.fo.len with
   |zero=>
    have hn:=qhd hl
    exact quO (S := .cond false g c (.block fb b1 (.block fc b2 .nil)) r) (T:=[⟨#[105,102]⟩]++(c.tx false 1++b1.btx)) (by rw[hn]; simp only[Ss.tx,Ss.btx,Wi,Wc,Wr,Wj,qf2,if_true,Wo,if_false]; rfl) hz hd rfl rfl (by omega) hm2 hw hs (qy0 hc hrow.1 hl (by simp only[Wj,Wr,Wi,Wc])) (ih.1 hr)
   |succ q=>
    have he:qf2 (.block fc b2 .nil)=true:=by cases b2<;>first|rfl|simp[Ss.fo] at hl
    exact quO (S := .cond false g c (.block fb b1 (.block fc b2 .nil)) r) (T:=[⟨#[105,102]⟩]++(c.tx false 1++(b1.btx++([⟨#[101,108,115,101]⟩]++b2.btx)))) (by simp only[Ss.tx,Ss.btx,he,Wi,Wc,Wr,Wj,if_true,Wo,if_false]; rfl) hz hd rfl rfl (by omega) hm2 hw hs (qy1 hc hrow.1 (by omega) hrow.2.1 (by simp only[Wj,Wr,Wi,Wc])) (ih.1 hr)
 |block g b r ihb ih=>
  refine⟨fun h=>?_,fun ⟨k,h⟩=>?_⟩
  ·obtain⟨n,hn,_⟩:=h; cases hn
  ·obtain⟨n,hn,hb,hr⟩:=h
   exact⟨qng hb (ihb.1 hb),ih.2 ⟨n,hr⟩⟩
end
section
open F
abbrev hnD:V := .dat (.sl [.lit (.string ⟨#[97,99,116]⟩),.lit (.string ⟨#[116,105,99,107]⟩),.lit (.string ⟨#[104,105,116]⟩)] 3 true)
theorem qmE:Z tS (.call 152 [] [])=some (.ret hnD []):=by
 refine qab (pf:=F152) rfl rfl ?_
 simp[F152]
theorem qyn:bs (qar false [])=⟨#[]⟩:=rfl
theorem qvl {T T':List ByteArray} {t:ByteArray} {b:Ss} {R R' Q:ByteArray} (hb:qjg b) (hT : ∀ x∈T,x.size≠0) (hR:R=bs (qar false T)) (hQ:Q=bs (qar false b.btx)) (hT':T'=T++(⟨#[111,110]⟩::t::b.btx)) (hR':R'=bs (qar false T')) (hs:R'.size<2 ^ 40) :
  Z tS (.call 247 [.dat (.sl [.lit (.string R),.lit (.string ⟨#[111,110]⟩),.lit (.string t),.lit (.string Q)] 4 true)] [])=some (.ret (.str R') []):=by
 have hP:Parts [R,⟨#[111,110]⟩,t,Q] T':=by
  rw[hR,hQ,hT']
  have:=Parts.sub hT (.tok (t:=⟨#[111,110]⟩) (.tok (t:=t) (.sub (qeJ hb.1) .nil)))
  rw[Wr] at this
  exact this
 exact qdN hP hR' (by simp) hs
theorem qoN{T:List ByteArray}{t:ByteArray}{b:Ss}(hT : ∀ x∈T,x.size≠0)(ht:t.size≠0)(hb:qjg b) : ∀ x∈T++(⟨#[111,110]⟩::t::b.btx),x.size≠0:=
 qfD hT (qfD (a:=[⟨#[111,110]⟩,t]) (qfD (a:=[⟨#[111,110]⟩]) (qkM (by decide)) (qkM ht)) (qeJ hb.1))
theorem qmF {A B C:Nd} {i:Nat} (hi:i<3) {g:Hd} (hX:(if i=0 then A else if i=1 then B else C)=g.nd) (hb : ∀ s,g.opt=some s->qjg s) {T T':List ByteArray} (hT : ∀ x∈T,x.size≠0) (hT':T'=T++qkC i g.opt) (hs:(qar false T').length<2 ^ 40) :
  (∀ x∈T',x.size≠0)/\Z tS (.loop 0 F236l0 [(1,.ptr 0 0),(3,.str (bs (qar false T))),(4,.int i)] [qgO A B C])=Z tS (.loop 0 F236l0 [(1,.ptr 0 0),(3,.str (bs (qar false T'))),(4,.int ((i+1:Nat):Int))] [qgO A B C]):=by
 have zh:=qmE
 cases g with
 |none=>
  obtain rfl:T'=T:=by rw[hT']; exact Wr T
  refine⟨hT,?_⟩
  generalize bs (qar false T')=R at *
  conv=>lhs; rw[qaa]
  obtain rfl|rfl|rfl:i=0\/i=1\/i=2:=by omega
  all_goals
   first | (have hX:A=_:=hX; subst hX) | (have hX:B=_:=hX; subst hX) | (have hX:C=_:=hX; subst hX)
   simp[qac,qhf,qgO,Nd.d,Hd.k,Hd.f,Hd.ks,Wa,show IntKind.i64.wrap 1=1 from rfl,show IntKind.i64.wrap 2=2 from rfl,show IntKind.i64.wrap 3=3 from rfl]
 |some f b=>
  have hbb:=hb b rfl
  have hn:T'=T++(⟨#[111,110]⟩::qfS i::b.btx):=hT'
  have q:(qar false b.btx).length<2 ^ 40:=Wx (by
   have:=qap (T++[⟨#[111,110]⟩,qfS i]) b.btx [] false
   rw[Wr,Wj] at this
   rw[hn]
   exact this) hs
  have z:=hbb.2 7 0 ⟨#[]⟩ f q
  have hsz:(qfS i).size≠0:=by
   obtain rfl|rfl|rfl:i=0\/i=1\/i=2:=by omega
   all_goals decide
  refine⟨by rw[hn]; exact qoN hT hsz hbb,?_⟩
  have y:=qvl (t:=qfS i) hbb hT rfl rfl hn rfl (by rw[qaz]; exact hs)
  generalize bs (qar false b.btx)=Q at *
  generalize bs (qar false T)=R at *
  generalize bs (qar false T')=R' at *
  conv=>lhs; rw[qaa]
  obtain rfl|rfl|rfl:i=0\/i=1\/i=2:=by omega
  all_goals
   first | (have hX:A=_:=hX; subst hX) | (have hX:B=_:=hX; subst hX) | (have hX:C=_:=hX; subst hX)
   simp only[qfS,qsU,qod,bs] at y
   simp[qac,qhf,qgO,Nd.d,Hd.k,Hd.f,Hd.ks,zh,z,y,qae,Wa,show IntKind.i64.wrap 1=1 from rfl,show IntKind.i64.wrap 2=2 from rfl,show IntKind.i64.wrap 3=3 from rfl]
theorem qsm {a b c:Hd} (hg : ∀ k,qhC (Hd.opts a b c k)) (hsz:(qar false (qcM (Hd.opts a b c))).length<2 ^ 40) :
  Z tS (.call 236 [.dat (ru a.nd b.nd c.nd)] [])=some (.ret (.str (bs (qar false (qcM (Hd.opts a b c))))) []):=by
 have hb : ∀ {s:Ss} (k:Nat),Hd.opts a b c k=some s->qjg s:=fun k h=>qng ((hg k) _ h).1 ((qxT _).1 ((hg k) _ h).1)
 have e:qcM (Hd.opts a b c)=(qkC 0 a.opt++qkC 1 b.opt)++qkC 2 c.opt:=by rw[Wj]; rfl
 have l2:=qap [] (qkC 0 a.opt++qkC 1 b.opt) (qkC 2 c.opt) false
 have l1:=qap [] (qkC 0 a.opt) (qkC 1 b.opt) false
 rw[Wc] at l1 l2
 rw[<- e] at l2
 obtain⟨t1,y1⟩:=qmF (A:=a.nd) (B:=b.nd) (C:=c.nd) (i:=0) (by omega) (g:=a) rfl (fun s h=>hb 0 h) (T:=[]) (T':=qkC 0 a.opt) qnP rfl (by omega)
 obtain⟨t2,y2⟩:=qmF (A:=a.nd) (B:=b.nd) (C:=c.nd) (i:=1) (by omega) (g:=b) rfl (fun s h=>hb 1 h) t1 rfl (by omega)
 obtain⟨t3,y3⟩:=qmF (A:=a.nd) (B:=b.nd) (C:=c.nd) (i:=2) (by omega) (g:=c) rfl (fun s h=>hb 2 h) t2 rfl (by rw[<- e]; exact hsz)
 rw[<- e] at y3
 have y:=y1.trans (y2.trans y3)
 generalize bs (qar false (qcM (Hd.opts a b c)))=R at *
 have y4:Z tS (.loop 0 F236l0 [(1,.ptr 0 0),(3,.str R),(4,.int ((2+1:Nat):Int))] [qgO a.nd b.nd c.nd])=some (.out (.exit 0) [(1,.ptr 0 0),(3,.str R),(4,.int 3),(6,.bool false)] [qgO a.nd b.nd c.nd]):=by
  rw[qaa]
  simp[qac,qhf]
 have y:=y.trans y4
 rw[qyn] at y
 clear y1 y2 y3 y4 hb
 generalize a.nd=A at *
 generalize b.nd=B at *
 generalize c.nd=C at *
 simp only[Wn,qgO] at y
 refine qab (pf:=F236) rfl rfl ?_
 simp[F236,ru,y,Wa]
end
end Go.Pm
section
namespace Go.Pm.F
def tP:Nat->Option PFun
 |228=>some F228
 |239=>some F239
 |240=>some F240
 |241=>some F241
 |242=>some F242
 |249=>some F249
 |250=>some F250
 |251=>some F251
 |252=>some F252
 |253=>some F253
 |254=>some F254
 |255=>some F255
 |256=>some F256
 |264=>some F264
 |265=>some F265
 |266=>some F266
 |267=>some F267
 |268=>some F268
 |269=>some F269
 |270=>some F270
 |271=>some F271
 |275=>some F275
 |276=>some F276
 |277=>some F277
 |278=>some F278
 |279=>some F279
 |280=>some F280
 |281=>some F281
 |284=>some F284
 |285=>some F285
 |286=>some F286
 |287=>some F287
 |289=>some F289
 |290=>some F290
 |292=>some F292
 |297=>some F297
 |303=>some F303
 |304=>some F304
 |307=>some F307
 |308=>some F308
 |309=>some F309
 |_=>none
end Go.Pm.F
end
namespace Go.Pm
section
open F
theorem qe6(c:UInt8):Z tP (.call 264 [.dat (.lit (.int .u8 c.toNat))] [])=some (.ret (.bool (qaZ c)) []):=by
 refine qab (pf:=F264) rfl rfl ?_
 by_cases h1:(97:Int)<=c.toNat
 ·have h1':97<=c.toNat:=by omega
  by_cases h2:(c.toNat:Int)<=122
  ·have h2':c.toNat<=122:=by omega
   simp[F264,qaZ,h1,h1',h2,h2']
  ·have h2' : ¬ c.toNat<=122:=by omega
   simp[F264,qaZ,h1,h1',h2,h2']
 ·have h1' : ¬ 97<=c.toNat:=by omega
  simp[F264,qaZ,h1,h1']
theorem qgB(c:UInt8):Z tP (.call 266 [.dat (.lit (.int .u8 c.toNat))] [])=some (.ret (.bool (qau c)) []):=by
 refine qab (pf:=F266) rfl rfl ?_
 by_cases h1:(48:Int)<=c.toNat
 ·have h1':48<=c.toNat:=by omega
  by_cases h2:(c.toNat:Int)<=57
  ·have h2':c.toNat<=57:=by omega
   simp[F266,qau,h1,h1',h2,h2']
  ·have h2' : ¬ c.toNat<=57:=by omega
   simp[F266,qau,h1,h1',h2,h2']
 ·have h1' : ¬ 48<=c.toNat:=by omega
  simp[F266,qau,h1,h1']
theorem qqo {d:D} {l:List ByteArray} (hd:RowS d l) (hl:l.length<2 ^ 40) (x:ByteArray) : ∀ (m i:Nat),i+m=l.length ->
  (x∉l.drop i->Z tP (.loop 0 F284l0 [(0,.dat d),(1,.str x),(7,.int l.length),(8,.int i)] [])=some (.out (.exit 0) [(0,.dat d),(1,.str x),(7,.int l.length),(8,.int l.length),(9,.bool false)] [])) /\
  (x∈l.drop i -> ∃ (j:Nat),Z tP (.loop 0 F284l0 [(0,.dat d),(1,.str x),(7,.int l.length),(8,.int i)] [])=some (.out .ret [(4,.int j)] []))
 |0,i,hi=>by
  obtain rfl:i=l.length:=by omega
  have ho:=hd.one
  have hc:=hd.cells
  refine⟨fun _=>?_,fun h=>by simp at h⟩
  rw[qaa]
  simp[qac,qfx,ho,hc]
 |m+1,i,hi=>by
  have hlt:i<l.length:=by omega
  have hlt':(i:Int)<l.length:=by omega
  have ho:=hd.one
  have hcl:=hd.cells
  have ha:=hd.at_ i hlt
  have hc:=qh5 l i hlt
  have w1:=qai ((i:Int)+1) (by omega)
  have hdr:l.drop i=l[i]::l.drop (i+1):=Wy hlt
  obtain⟨ih1,ih2⟩:=qqo hd hl x m (i+1) (by omega)
  simp only[Wt,Wn] at ih1 ih2
  rw[hdr]
  generalize l[i]=y at hc ⊢
  by_cases hx:x=y
  ·subst hx
   refine⟨fun h=>absurd (WQ ..) h,fun _=>⟨i,?_⟩⟩
   rw[qaa]
   simp[qac,qfx,hlt',ha,hc,qbd,ho,hcl]
  ·refine⟨fun h=>?_,fun h=>?_⟩
   ·have z:=ih1 (fun h'=>h (WH _ h'))
    rw[qaa]
    simp[qac,qfx,hlt',ha,hc,qbd,hx,w1,z,ho,hcl]
   ·rcases Wu.1 h with h|h
    ·exact absurd h hx
    ·obtain⟨j,z⟩:=ih2 h
     refine⟨j,?_⟩
     rw[qaa]
     simp[qac,qfx,hlt',ha,hc,qbd,hx,w1,z,ho,hcl]
theorem qoS{d:D}{l:List ByteArray}(hd:RowS d l)(hl:l.length<2 ^ 40)(x:ByteArray):Z tP (.call 276 [.dat d,.str x] [])=some (.ret (.bool (decide (x∈l))) []):=by
 have ho:=hd.one
 have hc:=hd.cells
 have hn:=hd.len
 obtain⟨i1,i2⟩:=qqo hd hl x l.length 0 (by omega)
 simp only[YH,WT] at i1 i2
 by_cases h:x∈l
 ·obtain⟨j,z⟩:=i2 h
  have z2:Z tP (.call 284 [.dat d,.str x] [])=some (.ret (.int j) []):=by
   refine qab (pf:=F284) rfl rfl ?_
   simp[F284,ho,hc,hn,z]
  have hj:(0:Int)<=j:=by omega
  refine qab (pf:=F276) rfl rfl ?_
  simp[F276,ho,hc,z2,h,hj]
 ·have z:=i1 h
  have z2:Z tP (.call 284 [.dat d,.str x] [])=some (.ret (.int (-1)) []):=by
   refine qab (pf:=F284) rfl rfl ?_
   simp[F284,ho,hc,hn,z]
  refine qab (pf:=F276) rfl rfl ?_
  simp[F276,ho,hc,z2,h]
end
section
open F
def kwL:List (List UInt8 × Int):=[([111,110],2),([97,99,116],2),([116,105,99,107],2),([105,102],2),([101,108,115,101],2),([119,104,105,108,101],2),([101,102,102,101,99,116],2),([115,116,111,112],2),([116,114,117,101],2),([102,97,108,115,101],2),([115,101,108,102],2),([111,116,104,101,114],2),([120],3),([121],3),([118,120],3),([118,121],3),([97],3),([98],3),([104,105,116],3),([115,116,105,108,108],3)]
def kwM:List (Value × V):=kwL.map fun x=>(.string ⟨x.1.toArray⟩,.int x.2)
theorem qjq(s:ByteArray):Z tP (.call 239 [.str s] [])=some (.ret (.agg [.str s,.mp 0]) [.map kwM]):=by
 exact qmh (n:=2) (by kernel_rfl)
theorem quX(w:ByteArray):qem .s (.string w) kwM=some (if w∈fieldNames then some (.int 3) else if w∈wordNames then some (.int 2) else none):=by
 have key : ∀ (l:List (List UInt8 × Int)),qem .s (.string w) (l.map fun x=>(Value.string ⟨x.1.toArray⟩,V.int x.2))=some ((l.find? fun x=>decide (bs x.1=w)).map fun x => .int x.2):=fun l=>by
  induction l with
  |nil=>rfl
  |cons x l ih=>
   simp only[Wl,qem,qcm,ih,List.find?_cons]
   by_cases h:bs x.1=w
   ·have h':(w==(⟨x.1.toArray⟩:ByteArray))=true:=by rw[beq_iff_eq]; exact h.symm
    have h2:((⟨x.1.toArray⟩:ByteArray)==w)=true:=by rw[beq_iff_eq]; exact h
    simp[h,h',h2]
   ·have h':(w==(⟨x.1.toArray⟩:ByteArray))=false:=by rw[beq_eq_false_iff_ne]; exact fun e=>h e.symm
    have h2:((⟨x.1.toArray⟩:ByteArray)==w)=false:=by rw[beq_eq_false_iff_ne]; exact h
    simp[h,h',h2]
 rw[kwM,key]
 congr 1
 by_cases h1:w∈fieldNames
 ·rw[if_pos h1]
  simp only[fieldNames,Wu,Ww,or_false] at h1
  rcases h1 with rfl|rfl|rfl|rfl|rfl|rfl|rfl|rfl<;>rfl
 rw[if_neg h1]
 by_cases h2:w∈wordNames
 ·rw[if_pos h2]
  have hne:w≠qod:=fun e=>h1 (by rw[e]; decide)
  simp only[wordNames,Wu,Ww,or_false] at h2
  rcases h2 with rfl|rfl|rfl|h2|rfl|rfl|rfl|rfl|rfl|rfl|rfl|rfl|rfl
  case inr.inr.inr.inl=>exact absurd h2 hne
  all_goals rfl
 rw[if_neg h2]
 have:kwL.find? (fun x=>decide (bs x.1=w))=none:=by
  rw[YL]
  intro x hx
  have hall : ∀ x∈kwL,bs x.1∈fieldNames\/bs x.1∈wordNames:=by decide
  rw[decide_eq_true_eq]
  rintro rfl
  rcases hall x hx with h|h
  ·exact h1 h
  ·exact h2 h
 rw[this]
 rfl
abbrev pO(s:ByteArray)(m:Nat)(Q:V)(i a c:Int):Ob := .cells [.str s,.mp m,Q,.int i,.int a,.int c]
inductive LxS(s:ByteArray):S->Prop
 |nil (i a c:Int):LxS s [pO s 1 (.dat (.lit (.slice none 0 0))) i a c,.map kwM]
 |gr (cs:List D) (n t:Nat) (i a c:Int):LxS s [pO s 1 (.gsl cs n 5 2) i a c,.map kwM,.tip t]
theorem qbj:qhL kwM=[]:=rfl
theorem qb4(r:Nat->Nat):qr9 r kwM=kwM:=rfl
attribute [local simp] qbj qb4
theorem qjr (s:ByteArray) (hl:s.size<2 ^ 40) {σ : S} (hσ : LxS s σ) : ∀ (m i:Nat) (cm:Bool),i+m=s.size ->
  (i+qa9 cm ((byl s).drop i)=s.size /\ ∃ v,Z tP (.loop σ.length F251l0 [(0,.ptr 0 0),(1,.int i),(5,.bool cm)] σ)=some (.out (.exit 0) [(0,.ptr 0 0),(1,.int s.size),(5,v),(13,.bool false)] σ)) \/
  Z tP (.loop σ.length F251l0 [(0,.ptr 0 0),(1,.int i),(5,.bool cm)] σ)=some (.out .ret [(4,.int ((i+qa9 cm ((byl s).drop i):Nat)))] σ)
 |0,i,cm,hi=>by
  obtain rfl:i=s.size:=by omega
  have hd:(byl s).drop s.size=[]:=WW (by rw[qaU]; exact Wp _)
  refine .inl ⟨by rw[hd]; simp[qa9],.bool cm,?_⟩
  rw[qaa]
  cases hσ <;> simp[qac,qdx,V.len,Wa]
 |m+1,i,cm,hi=>by
  obtain⟨c,h1,h2⟩:=qpb (s:=s) (i:=i) (by omega)
  have hd:=qhe h2
  have hlt:(i:Int)<s.size:=by omega
  have w1:=qai ((i:Int)+1) (by omega)
  have ih:=fun cm=>qjr s hl hσ m (i+1) cm (by omega)
  have fin : ∀ cm',qa9 cm ((byl s).drop i)=1+qa9 cm' ((byl s).drop (i+1)) ->
    Z tP (.loop σ.length F251l0 [(0,.ptr 0 0),(1,.int i),(5,.bool cm)] σ)=Z tP (.loop σ.length F251l0 [(0,.ptr 0 0),(1,.int (i+1)),(5,.bool cm')] σ) ->
    (i+qa9 cm ((byl s).drop i)=s.size /\ ∃ v,Z tP (.loop σ.length F251l0 [(0,.ptr 0 0),(1,.int i),(5,.bool cm)] σ)=some (.out (.exit 0) [(0,.ptr 0 0),(1,.int s.size),(5,v),(13,.bool false)] σ)) \/
    Z tP (.loop σ.length F251l0 [(0,.ptr 0 0),(1,.int i),(5,.bool cm)] σ)=some (.out .ret [(4,.int ((i+qa9 cm ((byl s).drop i):Nat)))] σ):=fun cm' e z=>by
   rw[e,z]
   have ih:=ih cm'
   rw[show i+(1+qa9 cm' ((byl s).drop (i+1)))=i+1+qa9 cm' ((byl s).drop (i+1)) by omega]
   simpa using ih
  by_cases h10:c.toNat=10
  ·refine fin false (by rw[hd]; simp[qa9,h10]; omega) ?_
   rw[qaa]
   cases hσ <;> simp[qac,qdx,V.len,h1,hlt,h10,w1,Wa]
  have h10' : ¬ (c.toNat:Int)=10:=by omega
  by_cases hc:cm=true\/c.toNat=32\/c.toNat=9
  ·refine fin cm (by rw[hd]; simp only[qa9,if_neg h10,if_pos hc]; omega) ?_
   rw[qaa]
   cases cm
   ·have h9:c.toNat=32\/c.toNat=9:=by simpa using hc
    rcases h9 with h9|h9<;>cases hσ <;> simp[qac,qdx,V.len,h1,hlt,h10',h9,w1,Wa]
   ·cases hσ <;> simp[qac,qdx,V.len,h1,hlt,h10',w1,Wa]
  have hc':=hc
  simp only[not_or,Bool.not_eq_true] at hc'
  obtain⟨rfl,h32,h9⟩:=hc'
  have h32' : ¬ (c.toNat:Int)=32:=by omega
  have h9' : ¬ (c.toNat:Int)=9:=by omega
  by_cases h35:c.toNat=35
  ·refine fin true (by rw[hd]; simp only[qa9,if_neg h10,if_neg hc,if_pos h35]; omega) ?_
   rw[qaa]
   cases hσ <;> simp[qac,qdx,V.len,h1,hlt,h35,w1,Wa]
  ·have h35' : ¬ (c.toNat:Int)=35:=by omega
   have e:qa9 false ((byl s).drop i)=0:=by rw[hd]; simp only[qa9,if_neg h10,if_neg hc,if_neg h35]
   rw[e]
   refine .inr ?_
   rw[qaa]
   cases hσ <;> simp[qac,qdx,V.len,h1,hlt,h10',h32',h9',h35',Wa]
theorem qpM(s:ByteArray)(hl:s.size<2 ^ 40){σ : S}(hσ : LxS s σ){i:Nat}(hi:i<=s.size):Z tP (.call 251 [.ptr 0 0,.int i] σ)=some (.ret (.int ((i+qa9 false ((byl s).drop i):Nat))) σ):=by
 rcases qjr s hl hσ (s.size-i) i false (by omega) with ⟨h,v,z⟩|z
 ·rw[h]
  refine qab (pf:=F251) rfl rfl ?_
  cases hσ <;> simp only[Wf,Wm,Nat.reduceAdd] at z<;>simp[F251,z,Wa]
 ·generalize i+qa9 false ((byl s).drop i)=j at z ⊢
  refine qab (pf:=F251) rfl rfl ?_
  cases hσ <;> simp only[Wf,Wm,Nat.reduceAdd] at z<;>simp[F251,z,Wa]
end
section
open F
attribute [local simp] qbj qb4
abbrev tk5:Ob := .cells [.int 0,.str ⟨#[]⟩,.int 0,.int 0,.int 0]
theorem qjs (s:ByteArray) (hl:s.size<2 ^ 40) {σ : S} (hσ : LxS s σ) (a:Int) : ∀ (m i:Nat),i+m=s.size ->
  Z tP (.loop σ.length F265l0 [(0,.ptr 0 0),(1,.int a),(4,.ptr σ.length 0),(5,.int i)] (σ ++ [tk5]))=some (.out (.exit 0) [(0,.ptr 0 0),(1,.int a),(4,.ptr σ.length 0),(5,.int ((i+qbJ qaJ ((byl s).drop i):Nat))),(34,.bool false)] (σ ++ [tk5]))
 |0,i,hi=>by
  obtain rfl:i=s.size:=by omega
  have hd:(byl s).drop s.size=[]:=WW (by rw[qaU]; exact Wp _)
  rw[qaa,hd]
  cases hσ <;> simp[qac,qft,V.len,qbJ,Wa]
 |m+1,i,hi=>by
  obtain⟨c,h1,h2⟩:=qpb (s:=s) (i:=i) (by omega)
  have hd:=qhe h2
  have hlt:(i:Int)<s.size:=by omega
  have w1:=qai ((i:Int)+1) (by omega)
  have zl:=qe6 c
  have zd:=qgB c
  have ih:=qjs s hl hσ a m (i+1) (by omega)
  simp only[Wt,Wn] at ih
  by_cases hc:qaJ c=true
  ·have e:(i:Int)+((qbJ qaJ ((byl s).drop (i+1)):Int)+1)=i+1+qbJ qaJ ((byl s).drop (i+1)):=by omega
   rw[qaa,hd]
   simp only[qaJ,Yk] at hc
   by_cases hcl:qaZ c=true
   ·cases hσ <;> simp only[Wi,Wc,Wf,Wm,Nat.reduceAdd] at ih<;>simp[qac,qft,V.len,qbJ,h1,hlt,w1,zl,zd,hcl,ih,qaJ,e,Wa]
   ·have hcd:qau c=true:=by rcases hc with h|h; exact absurd h hcl; exact h
    cases hσ <;> simp only[Wi,Wc,Wf,Wm,Nat.reduceAdd] at ih<;>simp[qac,qft,V.len,qbJ,h1,hlt,w1,zl,zd,hcl,hcd,ih,qaJ,e,Wa]
  ·simp only[qaJ,Yk,not_or] at hc
   rw[qaa,hd]
   cases hσ <;> simp[qac,qft,V.len,qbJ,h1,hlt,w1,zl,zd,hc.1,hc.2,qaJ,Wa]
abbrev ptD(k:Int)(t:ByteArray)(a v c:Int):V := .dat (.agg [.lit (.int .i64 k),.lit (.string t),.lit (.int .i64 a),.lit (.int .i64 v),.lit (.int .i64 c)])
def pkW(w:ByteArray):Int:=if w∈fieldNames then 3 else if w∈wordNames then 2 else if 8<w.size then 6 else 1
def pcW(w:ByteArray):Int:=if w∈fieldNames\/w∈wordNames then 0 else if 8<w.size then 2 else 0
theorem quY(s:ByteArray)(hl:s.size<2 ^ 40){σ : S}(hσ : LxS s σ){i:Nat}(hi:i<=s.size):Z tP (.call 265 [.ptr 0 0,.int i] σ)=some (.ret (ptD (pkW (s.extract i (i+qbJ qaJ ((byl s).drop i)))) (s.extract i (i+qbJ qaJ ((byl s).drop i))) i 0 (pcW (s.extract i (i+qbJ qaJ ((byl s).drop i))))) σ):=by
 have z:=qjs s hl hσ i (s.size-i) i (by omega)
 have hr:=qgc qaJ ((byl s).drop i)
 rw[W5,qaU] at hr
 generalize hq:i+qbJ qaJ ((byl s).drop i)=q at z ⊢
 have q1:(i:Int)<=q:=by omega
 have q2:(q:Int)<=s.size:=by omega
 have q3:(i:Int)<=s.size:=by omega
 have hk:=quX (s.extract i q)
 have hws:(s.extract i q).size<=s.size:=by rw[ByteArray.size_extract]; omega
 obtain⟨w,hw⟩ : ∃ w,s.extract i q=w:=⟨_,rfl⟩
 rw[hw] at hk hws ⊢
 refine qab (pf:=F265) rfl rfl ?_
 unfold pkW pcW
 by_cases h1:w∈fieldNames
 ·rw[if_pos h1] at hk
  cases hσ <;> simp only[Wi,Wc,Wf,Wm,Nat.reduceAdd] at z<;>simp[F265,z,qcx,bound,q1,q2,q3,hw,hk,h1,qd6,qbN,qaF,Wa]
 by_cases h2:w∈wordNames
 ·rw[if_neg h1,if_pos h2] at hk
  cases hσ <;> simp only[Wi,Wc,Wf,Wm,Nat.reduceAdd] at z<;>simp[F265,z,qcx,bound,q1,q2,q3,hw,hk,h1,h2,qd6,qbN,qaF,Wa]
 rw[if_neg h1,if_neg h2] at hk
 by_cases h3:8<w.size
 ·have h3':(8:Int)<w.size:=by omega
  cases hσ <;> simp only[Wi,Wc,Wf,Wm,Nat.reduceAdd] at z<;>simp[F265,z,qcx,bound,q1,q2,q3,hw,hk,h1,h2,h3,h3',V.len,qd6,qbN,qaF,Wa]
 ·have h3' : ¬ (8:Int)<w.size:=by omega
  cases hσ <;> simp only[Wi,Wc,Wf,Wm,Nat.reduceAdd] at z<;>simp[F265,z,qcx,bound,q1,q2,q3,hw,hk,h1,h2,h3,h3',V.len,qd6,qbN,qaF,Wa]
def qr6(v:Nat)(l:List UInt8):Nat:=l.foldl (fun v c=>min (10*v+(c.toNat-48)) 2147483648) v
theorem quZ(l:List UInt8) : ∀ n,qr6 (min n 2147483648) l=min (l.foldl (fun v c=>10*v+(c.toNat-48)) n) 2147483648:=by
 induction l with
 |nil=>intro n; rfl
 |cons c l ih=>
  intro n
  have:=ih (10*n+(c.toNat-48))
  simp only[qr6,W8] at this ⊢
  rw[<- this]
  congr 1
  omega
theorem qr7(l:List UInt8):qr6 0 l=min (digV l) 2147483648:=quZ l 0
theorem qlq (s:ByteArray) (hl:s.size<2 ^ 40) {σ : S} (hσ : LxS s σ) (a:Int) : ∀ (m i v:Nat),i+m=s.size->v<=2147483648 ->
  Z tP (.loop σ.length F267l0 [(0,.ptr 0 0),(1,.int a),(4,.ptr σ.length 0),(5,.int i),(6,.int v)] (σ ++ [tk5]))=some (.out (.exit 0) [(0,.ptr 0 0),(1,.int a),(4,.ptr σ.length 0),(5,.int ((i+qbJ qau ((byl s).drop i):Nat))),(6,.int (qr6 v (((byl s).drop i).take (qbJ qau ((byl s).drop i))))),(24,.bool false)] (σ ++ [tk5]))
 |0,i,v,hi,hv=>by
  obtain rfl:i=s.size:=by omega
  have hd:(byl s).drop s.size=[]:=WW (by rw[qaU]; exact Wp _)
  rw[qaa,hd]
  cases hσ <;> simp[qac,qgU,V.len,qbJ,qr6,Wa]
 |m+1,i,v,hi,hv=>by
  obtain⟨c,h1,h2⟩:=qpb (s:=s) (i:=i) (by omega)
  have hd:=qhe h2
  have hlt:(i:Int)<s.size:=by omega
  have w1:=qai ((i:Int)+1) (by omega)
  have zd:=qgB c
  by_cases hc:qau c=true
  ·have hc2:48<=c.toNat/\c.toNat<=57:=by simpa [qau] using hc
   have ih:=qlq s hl hσ a m (i+1) (min (10*v+(c.toNat-48)) 2147483648) (by omega) (Nat.min_le_right _ _)
   have e:(i:Int)+((qbJ qau ((byl s).drop (i+1)):Int)+1)=i+1+qbJ qau ((byl s).drop (i+1)):=by omega
   have es:qr6 v (((byl s).drop i).take (qbJ qau ((byl s).drop i)))=qr6 (min (10*v+(c.toNat-48)) 2147483648) (((byl s).drop (i+1)).take (qbJ qau ((byl s).drop (i+1)))):=by
    rw[hd]; simp[qbJ,hc,qr6]
   rw[es]
   have er:i+qbJ qau ((byl s).drop i)=i+1+qbJ qau ((byl s).drop (i+1)):=by
    rw[hd]; simp[qbJ,hc]; omega
   rw[er]
   have u0 : ∀ d:Nat,d<10->IntKind.u8.wrap (d:Int)=d:=by decide
   have u1:IntKind.u8.wrap ((c.toNat:Int)-48)=c.toNat-48:=by
    rw[show ((c.toNat:Int)-48)=((c.toNat-48:Nat):Int) by omega]; exact u0 _ (by omega)
   have u2:IntKind.i64.wrap ((c.toNat:Int)-48)=c.toNat-48:=qai _ (by omega)
   have u3:IntKind.i64.wrap (10*(v:Int))=10*v:=qai _ (by omega)
   have u4:IntKind.i64.wrap (10*(v:Int)+((c.toNat:Int)-48))=10*v+(c.toNat-48):=qai _ (by omega)
   have u5:(if 2147483648<10*(v:Int)+(c.toNat-48) then 2147483648 else 10*(v:Int)+(c.toNat-48))=((min (10*v+(c.toNat-48)) 2147483648:Nat):Int):=by split<;>omega
   generalize min (10*v+(c.toNat-48)) 2147483648=v' at ih u5 ⊢
   rw[<- ih,qaa]
   cases hσ <;> simp[qac,qgU,V.len,h1,hlt,w1,zd,hc,u1,u2,u3,u4,u5,qrQ,qi8,Wa]
  ·have e0:qbJ qau ((byl s).drop i)=0:=by rw[hd]; simp[qbJ,hc]
   rw[e0,qaa]
   cases hσ <;> simp[qac,qgU,V.len,h1,hlt,zd,hc,qr6,Wa]
end
section
open F
attribute [local simp] qbj qb4
theorem qyo (s:ByteArray) (hl:s.size<2 ^ 40) {σ : S} (hσ : LxS s σ) {i:Nat} (hi:i<=s.size):Z tP (.call 267 [.ptr 0 0,.int i] σ) =
  some (.ret (ptD (if 2147483647<digV (((byl s).drop i).take (qbJ qau ((byl s).drop i))) then 6 else 4) (s.extract i (i+qbJ qau ((byl s).drop i))) i (min (digV (((byl s).drop i).take (qbJ qau ((byl s).drop i)))) 2147483648:Nat) (if 2147483647<digV (((byl s).drop i).take (qbJ qau ((byl s).drop i))) then 6 else 0)) σ):=by
 have z:=qlq s hl hσ i (s.size-i) i 0 (by omega) (by omega)
 rw[qr7] at z
 have hr:=qgc qau ((byl s).drop i)
 rw[W5,qaU] at hr
 generalize digV (((byl s).drop i).take (qbJ qau ((byl s).drop i)))=n at z ⊢
 generalize hq:i+qbJ qau ((byl s).drop i)=q at z ⊢
 have q1:(i:Int)<=q:=by omega
 have q2:(q:Int)<=s.size:=by omega
 have q3:(i:Int)<=s.size:=by omega
 obtain⟨w,hw⟩ : ∃ w,s.extract i q=w:=⟨_,rfl⟩
 rw[hw]
 refine qab (pf:=F267) rfl rfl ?_
 by_cases hn:2147483647<n
 ·have e:min n 2147483648=2147483648:=by omega
  rw[e] at z ⊢
  rw[if_pos hn,if_pos hn]
  simp only[YH,Wn] at z
  cases hσ <;> simp only[Wi,Wc,Wf,Wm,Nat.reduceAdd] at z<;>simp[F267,z,qcx,bound,q1,q2,q3,hw,Wa]
 ·have e:min n 2147483648=n:=by omega
  have hn' : ¬ (2147483647:Int)<n:=by omega
  rw[e] at z ⊢
  rw[if_neg hn,if_neg hn]
  simp only[YH] at z
  cases hσ <;> simp only[Wi,Wc,Wf,Wm,Nat.reduceAdd] at z<;>simp[F267,z,qcx,bound,q1,q2,q3,hw,hn',Wa]
def qt2:ByteArray:=⟨#[123,125,91,93,40,41,61,59,44,60,62,43,45,42,47,33]⟩
theorem qvm(c:UInt8):decide (0<=firstIdx qt2 c)=decide (c.toNat∈qkp):=by
 have h : ∀ n:_root_.Fin 256,decide (0<=firstIdx qt2 n.val.toUInt8)=decide (n.val.toUInt8.toNat∈qkp):=by decide +kernel
 have:=h ⟨c.toNat,c.toNat_lt⟩
 simpa using this
theorem qyp(c:UInt8):Z tP (.call 268 [.str qt2,.dat (.lit (.int .u8 c.toNat))] [])=some (.ret (.int (firstIdx qt2 c)) []):=by
 have z:Z tP (.call 275 [.str qt2,.dat (.lit (.int .u8 c.toNat))] [])=some (.ret (.int (firstIdx qt2 c)) []):=by
  refine qab (pf:=F275) rfl rfl ?_
  simp[F275]
 refine qab (pf:=F268) rfl rfl ?_
 simp[F268,z]
def kindT(t:Tk):Int:=if t.bad≠0 then 6 else if t.s=⟨#[]⟩ then 0 else if qaD qaZ t.s then (if t.s∈fieldNames then 3 else if t.s∈wordNames then 2 else 1) else if qaD qau t.s then 4 else 5
def qfM(t:Tk):ByteArray:=if t.bad=12 then ⟨#[]⟩ else t.s
def valT(t:Tk):Nat:=if qaD qau t.s then min (digV (byl t.s)) 2147483648 else 0
abbrev ptk(t:Tk):V:=ptD (kindT t) (qfM t) t.at_ (valT t) t.bad
end
section
open F
attribute [local simp] qbj qb4
theorem qen(p:UInt8->Bool)(c:UInt8)(r:List UInt8):qaD p (bs (c::r))=p c:=by rw[qbe,qbM]; rfl
theorem qpV{c:UInt8}(h:qaZ c=true):qau c=false:=by
 simp only[qaZ,qau,Wv,decide_eq_true_eq,WX,decide_eq_false_iff_not] at h ⊢
 omega
theorem qnq{p:UInt8->Bool}{c:UInt8}(r:List UInt8)(h:p c=true):(c::r).take (qbJ p (c::r))=c::r.take (qbJ p r):=by simp[qbJ,h]
theorem qsc(s:ByteArray){σ : S}(hσ : LxS s σ):Z tP (.call 250 [.ptr 0 0,.int s.size] σ)=some (.ret (ptD 0 ⟨#[]⟩ s.size 0 0) σ):=by
 refine qab (pf:=F250) rfl rfl ?_
 cases hσ <;> simp[F250,V.len,Wa]
theorem qsd(s:ByteArray){σ : S}(hσ : LxS s σ){i:Nat}(hi:i<s.size){c:UInt8}(h1:s[i]?=some c)(hc:qaZ c=true){v:D}(ho:V.one (.dat v)=true){k n x e:Int}{t:ByteArray}(z:Z tP (.call 265 [.ptr 0 0,.int i] σ)=some (.ret (ptD k t n x e) σ)):Z tP (.call 250 [.ptr 0 0,.int i] σ)=some (.ret (ptD k t n x e) σ):=by
 have zl:=qe6 c
 have hne : ¬ (i:Int)=s.size:=by omega
 have hne' : ¬ i=s.size:=by omega
 refine qab (pf:=F250) rfl rfl ?_
 cases hσ <;> simp[F250,V.len,h1,hne,hne',zl,hc,z,Wa]
theorem qse(s:ByteArray){σ : S}(hσ : LxS s σ){i:Nat}(hi:i<s.size){c:UInt8}(h1:s[i]?=some c)(hl:qaZ c=false)(hc:qau c=true){k n x e:Int}{t:ByteArray}(z:Z tP (.call 267 [.ptr 0 0,.int i] σ)=some (.ret (ptD k t n x e) σ)):Z tP (.call 250 [.ptr 0 0,.int i] σ)=some (.ret (ptD k t n x e) σ):=by
 have zl:=qe6 c
 have zd:=qgB c
 have hne : ¬ (i:Int)=s.size:=by omega
 have hne' : ¬ i=s.size:=by omega
 refine qab (pf:=F250) rfl rfl ?_
 cases hσ <;> simp[F250,V.len,h1,hne,hne',zl,zd,hl,hc,z,Wa]
theorem qpW(s:ByteArray)(hs:s.size<2 ^ 40){σ : S}(hσ : LxS s σ){i:Nat}(hi:i+2<=s.size){c:UInt8}(h1:s[i]?=some c)(hl:qaZ c=false)(hc:qau c=false){p:ByteArray}(hx:s.extract i (i+2)=p)(hp:p∈qeg):Z tP (.call 250 [.ptr 0 0,.int i] σ)=some (.ret (ptD 5 p i 0 0) σ):=by
 have zl:=qe6 c
 have zd:=qgB c
 have hne : ¬ (i:Int)=s.size:=by omega
 have hne' : ¬ i=s.size:=by omega
 have w2:=qai ((i:Int)+2) (by omega)
 have hle:(i:Int)+2<=s.size:=by omega
 have b1:(i:Int)<=s.size:=by omega
 have b2:(i:Int)<=(i:Int)+2:=by omega
 have b3:(0:Int)<=(i:Int)+2:=by omega
 have b4:((i:Int)+2).toNat=i+2:=by omega
 simp only[qeg,bs,Wu,Ww,or_false] at hp
 refine qab (pf:=F250) rfl rfl ?_
 rcases hp with rfl|rfl|rfl|rfl|rfl|rfl<;>cases hσ <;> simp[F250,V.len,h1,hne,hne',zl,zd,hl,hc,w2,hle,qcx,bound,b1,b2,b3,b4,hx,qbd,Wa]
theorem qsf(s:ByteArray)(hs:s.size<2 ^ 40){σ : S}(hσ : LxS s σ){i:Nat}(hi:i<s.size){c:UInt8}(h1:s[i]?=some c)(hl:qaZ c=false)(hc:qau c=false)(hp:i+2<=s.size->s.extract i (i+2)∉qeg){x:ByteArray}(hx:s.extract i (i+1)=x):Z tP (.call 250 [.ptr 0 0,.int i] σ)=some (.ret (if c.toNat∈qkp then ptD 5 x i 0 0 else ptD 6 ⟨#[]⟩ i 0 12) σ):=by
 have zl:=qe6 c
 have zd:=qgB c
 have zx:=qyp c
 have hm:=qvm c
 obtain⟨j,hj0⟩ : ∃ j,firstIdx qt2 c=j:=⟨_,rfl⟩
 rw[hj0] at zx hm
 simp only[qt2] at zx
 have hne : ¬ (i:Int)=s.size:=by omega
 have hne' : ¬ i=s.size:=by omega
 have w1:=qai ((i:Int)+1) (by omega)
 have w2:=qai ((i:Int)+2) (by omega)
 have a1:(i:Int)+1<=s.size:=by omega
 have a2:(i:Int)<=(i:Int)+1:=by omega
 have a3:(0:Int)<=(i:Int)+1:=by omega
 have a4:((i:Int)+1).toNat=i+1:=by omega
 have b1:(i:Int)<=s.size:=by omega
 have b2:(i:Int)<=(i:Int)+2:=by omega
 have b3:(0:Int)<=(i:Int)+2:=by omega
 have b4:((i:Int)+2).toNat=i+2:=by omega
 by_cases hle:i+2<=s.size
 ·have hle':(i:Int)+2<=s.size:=by omega
  have hp':=hp hle
  generalize hy:s.extract i (i+2)=y at hp'
  simp only[qeg,bs,Wu,Ww,or_false,not_or] at hp'
  obtain⟨n1,n2,n3,n4,n5,n6⟩:=hp'
  refine qab (pf:=F250) rfl rfl ?_
  by_cases hk:c.toNat∈qkp
  ·have hj:(0:Int)<=j:=by simpa [hk] using hm
   rw[if_pos hk]
   cases hσ <;> simp[F250,V.len,h1,hne,hne',zl,zd,zx,hl,hc,w1,w2,hle',qcx,bound,a1,a2,a3,a4,b1,b2,b3,b4,hx,hy,n1,n2,n3,n4,n5,n6,hj,qbd,Wa]
  ·have hj : ¬ (0:Int)<=j:=by simpa [hk] using hm
   rw[if_neg hk]
   cases hσ <;> simp[F250,V.len,h1,hne,hne',zl,zd,zx,hl,hc,w1,w2,hle',qcx,bound,a1,a2,a3,a4,b1,b2,b3,b4,hx,hy,n1,n2,n3,n4,n5,n6,hj,qbd,Wa]
 ·have hle' : ¬ (i:Int)+2<=s.size:=by omega
  refine qab (pf:=F250) rfl rfl ?_
  by_cases hk:c.toNat∈qkp
  ·have hj:(0:Int)<=j:=by simpa [hk] using hm
   rw[if_pos hk]
   cases hσ <;> simp[F250,V.len,h1,hne,hne',zl,zd,zx,hl,hc,w1,w2,hle',qcx,bound,a1,a2,a3,a4,hx,hj,qbd,Wa]
  ·have hj : ¬ (0:Int)<=j:=by simpa [hk] using hm
   rw[if_neg hk]
   cases hσ <;> simp[F250,V.len,h1,hne,hne',zl,zd,zx,hl,hc,w1,w2,hle',qcx,bound,hj,qbd,Wa]
end
section
open F
theorem qu5{c:UInt8}{r:List UInt8}:bs (c::r)≠⟨#[]⟩:=fun h=>by
 have:=congrArg ByteArray.size h
 rw[qaz,Wf] at this
 exact absurd this (by show ¬ r.length+1=0; omega)
theorem qt0(s:ByteArray)(hl:s.size<2 ^ 40){σ : S}(hσ : LxS s σ){i:Nat}(hi:i<=s.size):Z tP (.call 250 [.ptr 0 0,.int i] σ)=some (.ret (ptk (tokAt 12 2 6 s i)) σ):=by
 by_cases hend:i=s.size
 ·subst hend
  have hd:(byl s).drop s.size=[]:=WW (by rw[qaU]; exact Wp _)
  have e:tokAt 12 2 6 s s.size=⟨s.size,⟨#[]⟩,0⟩:=by rw[qd3,hd]; rfl
  rw[e]
  exact qsc s hσ
 have hi':i<s.size:=by omega
 obtain⟨c,h1,h2⟩:=qpb hi'
 have hd:=qhe h2
 rw[qd3,hd]
 by_cases hlet:qaZ c=true
 ·have hw:qaJ c=true:=by simp[qaJ,hlet]
  have ht:=qnq ((byl s).drop (i+1)) hw
  have htok:tokL 12 2 6 (c::(byl s).drop (i+1))=(c::((byl s).drop (i+1)).take (qbJ qaJ ((byl s).drop (i+1))),if 8<qbJ qaJ (c::(byl s).drop (i+1))/\bs (c::((byl s).drop (i+1)).take (qbJ qaJ ((byl s).drop (i+1))))∉fieldNames/\bs (c::((byl s).drop (i+1)).take (qbJ qaJ ((byl s).drop (i+1))))∉wordNames then 2 else 0):=by
   simp only[tokL,hlet,if_true,ht]
  have z:=quY s hl hσ hi
  rw[qcD,hd,ht] at z
  have hsz:(bs (c::((byl s).drop (i+1)).take (qbJ qaJ ((byl s).drop (i+1))))).size=qbJ qaJ (c::(byl s).drop (i+1)):=by
   rw[qaz,<- ht,WS,Nat.min_eq_left (qgc _ _)]
  rw[htok]
  have s1:=qen qaZ c (((byl s).drop (i+1)).take (qbJ qaJ ((byl s).drop (i+1))))
  have s2:=qen qau c (((byl s).drop (i+1)).take (qbJ qaJ ((byl s).drop (i+1))))
  have hne:=qu5 (c:=c) (r:=((byl s).drop (i+1)).take (qbJ qaJ ((byl s).drop (i+1))))
  rw[hlet] at s1
  rw[qpV hlet] at s2
  rw[<- hsz]
  generalize bs (c::((byl s).drop (i+1)).take (qbJ qaJ ((byl s).drop (i+1))))=w at *
  have e:ptk ⟨i,w,if 8<w.size/\w∉fieldNames/\w∉wordNames then 2 else 0⟩=ptD (pkW w) w i 0 (pcW w):=by
   have hb:((if 8<w.size/\w∉fieldNames/\w∉wordNames then 2 else 0:Nat):Int)=pcW w:=by
    unfold pcW
    by_cases a:w∈fieldNames<;>by_cases b:w∈wordNames<;>by_cases d:8<w.size<;>simp[a,b,d]
   have hk:kindT ⟨i,w,if 8<w.size/\w∉fieldNames/\w∉wordNames then 2 else 0⟩=pkW w:=by
    unfold pkW kindT
    by_cases a:w∈fieldNames<;>by_cases b:w∈wordNames<;>by_cases d:8<w.size<;>simp[a,b,d,hne,s1]
   have hx:qfM ⟨i,w,if 8<w.size/\w∉fieldNames/\w∉wordNames then 2 else 0⟩=w:=by
    unfold qfM
    by_cases a:8<w.size/\w∉fieldNames/\w∉wordNames<;>simp[a]
   unfold ptk
   rw[hk,hx,hb]
   simp[valT,s2]
  rw[e]
  exact qsd s hσ hi' h1 hlet (v := .lit (.bool true)) rfl z
 have hlet':qaZ c=false:=by simpa using hlet
 by_cases hdig:qau c=true
 ·have ht:=qnq ((byl s).drop (i+1)) hdig
  have htok:tokL 12 2 6 (c::(byl s).drop (i+1))=(c::((byl s).drop (i+1)).take (qbJ qau ((byl s).drop (i+1))),if 2147483647<digV (c::((byl s).drop (i+1)).take (qbJ qau ((byl s).drop (i+1)))) then 6 else 0):=by
   simp only[tokL,hlet',hdig,if_true,Wo,if_false,ht]
  have z:=qyo s hl hσ hi
  rw[qcD,hd,ht] at z
  rw[htok]
  have s1:=qen qaZ c (((byl s).drop (i+1)).take (qbJ qau ((byl s).drop (i+1))))
  have s2:=qen qau c (((byl s).drop (i+1)).take (qbJ qau ((byl s).drop (i+1))))
  have hne:=qu5 (c:=c) (r:=((byl s).drop (i+1)).take (qbJ qau ((byl s).drop (i+1))))
  rw[hlet'] at s1
  rw[hdig] at s2
  have hbl:=qbM (c::((byl s).drop (i+1)).take (qbJ qau ((byl s).drop (i+1))))
  generalize c::((byl s).drop (i+1)).take (qbJ qau ((byl s).drop (i+1)))=l at *
  have e:ptk ⟨i,bs l,if 2147483647<digV l then 6 else 0⟩=ptD (if 2147483647<digV l then 6 else 4) (bs l) i (min (digV l) 2147483648:Nat) (if 2147483647<digV l then 6 else 0):=by
   unfold ptk kindT qfM valT
   by_cases a:2147483647<digV l<;>simp[a,hne,s1,s2,hbl]
  rw[e]
  exact qse s hσ hi' h1 hlet' hdig z
 have hdig':qau c=false:=by simpa using hdig
 by_cases hp:bs ((c::(byl s).drop (i+1)).take 2)∈qeg
 ·have htok:tokL 12 2 6 (c::(byl s).drop (i+1))=((c::(byl s).drop (i+1)).take 2,0):=by
   simp only[tokL,hlet',hdig',if_pos hp,Wo,if_false]
  have hsz:=qfH hp
  rw[qaz,WS,Wf,W5,qaU] at hsz
  have z:=qpW s hl hσ (i:=i) (by omega) h1 hlet' hdig' (p:=bs ((c::(byl s).drop (i+1)).take 2)) (by rw[qcD,hd]) hp
  rw[htok,z]
  have e:ptk ⟨i,bs ((c::(byl s).drop (i+1)).take 2),0⟩=ptD 5 (bs ((c::(byl s).drop (i+1)).take 2)) i 0 0:=by
   generalize bs ((c::(byl s).drop (i+1)).take 2)=w at hp
   simp only[qeg,Wu,Ww,or_false] at hp
   rcases hp with rfl|rfl|rfl|rfl|rfl|rfl<;>rfl
  rw[e]
 ·have z:=qsf s hl hσ hi' h1 hlet' hdig' (fun h=>by rw[qcD,hd]; exact hp) (x:=bs [c]) (by rw[qcD,hd]; rfl)
  rw[z]
  have s1:=qen qaZ c []
  have s2:=qen qau c []
  by_cases hs:c.toNat∈qkp
  ·have htok:tokL 12 2 6 (c::(byl s).drop (i+1))=([c],0):=by simp only[tokL,hlet',hdig',if_neg hp,if_pos hs,Wo,if_false]
   rw[htok,if_pos hs]
   have e:ptk ⟨i,bs [c],0⟩=ptD 5 (bs [c]) i 0 0:=by
    unfold ptk kindT qfM valT
    simp[s1,s2,hlet',hdig',qu5]
   rw[e]
  ·have htok:tokL 12 2 6 (c::(byl s).drop (i+1))=([c],12):=by simp only[tokL,hlet',hdig',if_neg hp,if_neg hs,Wo,if_false]
   rw[htok,if_neg hs]
   have e:ptk ⟨i,bs [c],12⟩=ptD 6 ⟨#[]⟩ i 0 12:=by
    unfold ptk kindT qfM valT
    simp[s2,hdig']
   rw[e]
end
section
@[simp] def qxb:Nat->PC->PC
 |n+1,.seq a b => .seq a (qxb n b)
 |0,_ => .skip
 |_,p=>p
end
section
open F
attribute [local simp] qbj qb4
theorem qlB(s:ByteArray):Z tP (.call 241 [.ptr 0 0] [pO s 1 (.dat (.lit (.slice none 0 0))) 0 0 12,.map kwM])=some (.ret (.fn 249 [] [.ptr 2 0]) [pO s 1 (.dat (.lit (.slice none 0 0))) 0 0 12,.map kwM,.cells [.ptr 0 0]]):=by
 refine qab (pf:=F241) rfl rfl ?_
 simp[F241,Wa]
abbrev lp8:Ob := .loop ⟨[(2,.ptr 2 0),(3,.ptr 3 0),(4,.ptr 4 0),(5,.ptr 5 0),(19,.fn 249 [] [.ptr 1 0])],[20],F228a0,F228b0,0,none⟩
abbrev TT0(s:ByteArray):S:=[lp8,.cells [.ptr 6 0],qxx,.cells [.int 0],.cells [.int 0],.cells [.ptr 6 0],pO s 7 (.dat (.lit (.slice none 0 0))) 0 0 12,.map kwM]
abbrev TT1(s:ByteArray)(cs:List D)(n:Nat):S:=[lp8,.cells [.ptr 6 0],qxx,.cells [.int 0],.cells [.int 0],.cells [.ptr 6 0],pO s 7 (.gsl cs n 5 8) 0 0 12,.map kwM,.tip cs.length]
abbrev lpR:Ob := .loop ⟨[(2,.ptr 1 0),(3,.ptr 2 0),(4,.ptr 3 0),(5,.ptr 4 0),(19,.fn 249 [] [.ptr 5 0])],[20],F228a0,F228b0,0,none⟩
abbrev Q0(s:ByteArray):S:=[lpR,qxx,.cells [.int 0],.cells [.int 0],.cells [.ptr 6 0],.cells [.ptr 6 0],pO s 7 (.dat (.lit (.slice none 0 0))) 0 0 12,.map kwM]
abbrev Q1(s:ByteArray)(cs:List D)(n:Nat):S:=[lpR,qxx,.cells [.int 0],.cells [.int 0],.cells [.ptr 6 0],.cells [.ptr 6 0],pO s 7 (.gsl cs n 5 8) 0 0 12,.map kwM,.tip cs.length]
def qhz(k:Int)(t:ByteArray)(a v c:Int):List D:=[.lit (.int .i64 k),.lit (.string t),.lit (.int .i64 a),.lit (.int .i64 v),.lit (.int .i64 c)]
section
variable{s:ByteArray}{k a v c:Int}{t:ByteArray}
theorem qBX:Z tP (.round [.yld 0,ptD k t a v c] (Q0 s))=some (.ret (.bool true) (Q1 s (qhz k t a v c) 1)):=by
 have r1:qay 1 48=true:=by simp only[qay,decide_eq_true_eq]; omega
 rw[qcN]
 simp[qby,qip,qiq,qjx,qjy,qda,Lp.ended,Ex.isNormal,V.len,qb1,qlv,r1,qhz,dkey,qbN,qaF,Wa]
theorem qBY{cs:List D}{n:Nat}(hc:cs.length=n*5)(h0:0<n)(hn:n<2 ^ 30):Z tP (.round [.yld 0,ptD k t a v c] (Q1 s cs n))=some (.ret (.bool true) (Q1 s (cs++qhz k t a v c) (n+1))):=by
 have r1:qay (n+1) 48=true:=by simp only[qay,decide_eq_true_eq]; omega
 have hne : ¬ n=0:=by omega
 rw[qcN]
 simp[qby,qip,qiq,qjx,qjy,qda,Lp.ended,Ex.isNormal,V.len,qb1,qlv,r1,hc,hne,qhz,dkey,qbN,qaF,Wa]
end
abbrev tkO(k:Int)(t:ByteArray)(a v c:Int):Ob := .cells [.int k,.str t,.int a,.int v,.int c]
section
variable{s:ByteArray}{i j:Nat}{k a v c:Int}{t:ByteArray}
theorem qsn
  (zs:Z tP (.call 251 [.ptr 0 0,.int i] [pO s 1 (.dat (.lit (.slice none 0 0))) 0 0 12,.map kwM])=some (.ret (.int j) [pO s 1 (.dat (.lit (.slice none 0 0))) 0 0 12,.map kwM]))
  (zc:Z tP (.call 250 [.ptr 0 0,.int j] [pO s 1 (.dat (.lit (.slice none 0 0))) 0 0 12,.map kwM])=some (.ret (ptD k t a v c) [pO s 1 (.dat (.lit (.slice none 0 0))) 0 0 12,.map kwM]))
  (ha:IntKind.i64.wrap (a+t.size)=a+t.size) (h0:decide (k=0)=false) (h6:decide (k=6)=false) :
  Z tP (.loop 8 F249l0 [(0,.yld 0),(1,.ptr 1 0),(3,.int i)] (TT0 s))=Z tP (.loop 8 F249l0 [(0,.yld 0),(1,.ptr 1 0),(3,.int (a+t.size))] (TT1 s (qhz k t a v c) 1)):=by
 have zr:=qBX (s:=s) (k:=k) (a:=a) (v:=v) (c:=c) (t:=t)
 simp only[pO,ptD,qhz] at zs zc zr
 conv=>lhs; rw[qaa]
 simp[qac,qfs,zs,zc,zr,V.len,ha,h0,h6,qhz,qbN,qaF,Wa]
 exact qag (by simp[Wa])
theorem qso
  (zs:Z tP (.call 251 [.ptr 0 0,.int i] [pO s 1 (.dat (.lit (.slice none 0 0))) 0 0 12,.map kwM])=some (.ret (.int j) [pO s 1 (.dat (.lit (.slice none 0 0))) 0 0 12,.map kwM]))
  (zc:Z tP (.call 250 [.ptr 0 0,.int j] [pO s 1 (.dat (.lit (.slice none 0 0))) 0 0 12,.map kwM])=some (.ret (ptD k t a v c) [pO s 1 (.dat (.lit (.slice none 0 0))) 0 0 12,.map kwM]))
  (h:k=0\/k=6) :
  Z tP (.loop 8 F249l0 [(0,.yld 0),(1,.ptr 1 0),(3,.int i)] (TT0 s))=some (.out .ret [(0,.yld 0),(1,.ptr 1 0),(4,.ptr 8 0),(23,.bool true)] [lp8,.cells [.ptr 6 0],qxx,.cells [.int 0],.cells [.int 0],.cells [.ptr 6 0],pO s 7 (.gsl (qhz k t a v c) 1 5 9) 0 0 12,.map kwM,tkO k t a v c,.tip 5]):=by
 have zr:=qBX (s:=s) (k:=k) (a:=a) (v:=v) (c:=c) (t:=t)
 simp only[pO,ptD,qhz] at zs zc zr
 rw[qaa]
 rcases h with rfl|rfl<;>simp[qac,qfs,zs,zc,zr,V.len,qhz,qbN,qaF,Wa]
theorem qsp {cs:List D} {n:Nat} (hc:cs.length=n*5) (hn0:0<n) (hn:n<2 ^ 30)
  (zs:Z tP (.call 251 [.ptr 0 0,.int i] [pO s 1 (.gsl cs n 5 2) 0 0 12,.map kwM,.tip cs.length])=some (.ret (.int j) [pO s 1 (.gsl cs n 5 2) 0 0 12,.map kwM,.tip cs.length]))
  (zc:Z tP (.call 250 [.ptr 0 0,.int j] [pO s 1 (.gsl cs n 5 2) 0 0 12,.map kwM,.tip cs.length])=some (.ret (ptD k t a v c) [pO s 1 (.gsl cs n 5 2) 0 0 12,.map kwM,.tip cs.length]))
  (ha:IntKind.i64.wrap (a+t.size)=a+t.size) (h0:decide (k=0)=false) (h6:decide (k=6)=false) :
  Z tP (.loop 8 F249l0 [(0,.yld 0),(1,.ptr 1 0),(3,.int i)] (TT1 s cs n))=Z tP (.loop 8 F249l0 [(0,.yld 0),(1,.ptr 1 0),(3,.int (a+t.size))] (TT1 s (cs++qhz k t a v c) (n+1))):=by
 have zr:=qBY (s:=s) (k:=k) (a:=a) (v:=v) (c:=c) (t:=t) hc hn0 hn
 simp only[pO,ptD,qhz] at zs zc zr
 conv=>lhs; rw[qaa]
 simp[qac,qfs,zs,zc,zr,V.len,ha,h0,h6,qhz,qbN,qaF,Wa]
 exact qag (by simp[Wa])
theorem qsq {cs:List D} {n:Nat} (hc:cs.length=n*5) (hn0:0<n) (hn:n<2 ^ 30)
  (zs:Z tP (.call 251 [.ptr 0 0,.int i] [pO s 1 (.gsl cs n 5 2) 0 0 12,.map kwM,.tip cs.length])=some (.ret (.int j) [pO s 1 (.gsl cs n 5 2) 0 0 12,.map kwM,.tip cs.length]))
  (zc:Z tP (.call 250 [.ptr 0 0,.int j] [pO s 1 (.gsl cs n 5 2) 0 0 12,.map kwM,.tip cs.length])=some (.ret (ptD k t a v c) [pO s 1 (.gsl cs n 5 2) 0 0 12,.map kwM,.tip cs.length]))
  (h:k=0\/k=6) :
  Z tP (.loop 8 F249l0 [(0,.yld 0),(1,.ptr 1 0),(3,.int i)] (TT1 s cs n))=some (.out .ret [(0,.yld 0),(1,.ptr 1 0),(4,.ptr 9 0),(23,.bool true)] (TT1 s (cs++qhz k t a v c) (n+1)++[tkO k t a v c])):=by
 have zr:=qBY (s:=s) (k:=k) (a:=a) (v:=v) (c:=c) (t:=t) hc hn0 hn
 simp only[pO,ptD,qhz] at zs zc zr
 rw[qaa]
 rcases h with rfl|rfl<;>simp[qac,qfs,zs,zc,zr,V.len,qhz,qbN,qaF,Wa]
end
end
section
open F
attribute [local simp] qbj qb4
abbrev ptT(t:Tk):List D:=qhz (kindT t) (qfM t) t.at_ (valT t) t.bad
def ptC:List Tk->List D
 |[]=>[]
 |t::r=>ptT t++ptC r
theorem qgK(t:Tk):(kindT t=0\/kindT t=6)↔(t.bad≠0\/t.s.size=0):=by
 have he:t.s=⟨#[]⟩↔t.s.size=0:=⟨fun h=>by rw[h]; rfl,fun h=>by
  have:=qdg t.s
  have hb:byl t.s=[]:=WL (by rw[qaU]; exact h)
  rw[hb] at this
  exact this.symm⟩
 unfold kindT
 by_cases hb:t.bad=0
 ·by_cases h0:t.s=⟨#[]⟩
  ·simp[hb,h0]
   rfl
  ·have h0' : ¬ t.s.size=0:=fun h=>h0 (he.2 h)
   simp only[hb,h0,h0',ne_eq,not_true_eq_false,if_false,false_or,or_self,iff_false]
   split<;>(try split)<;>(try split)<;>omega
 ·simp[hb]
theorem qan{t:Tk}(h:t.bad=0):qfM t=t.s:=by unfold qfM; rw[h]; rfl
theorem qtm(s:ByteArray){i:Nat}(hi:i<=s.size):qil s (s.size-i) false i=i+qa9 false ((byl s).drop i)/\i+qa9 false ((byl s).drop i)<=s.size:=by
 refine⟨qk0 s _ false i (Wp _),?_⟩
 have:=qh7 ((byl s).drop i) false
 rw[W5,qaU] at this
 omega
theorem qoa(s:ByteArray)(n:Nat){i:Nat}(hi:i<=s.size){t:Tk}(ht:tokAt 12 2 6 s (i+qa9 false ((byl s).drop i))=t):qcl 12 2 6 s (n+1) i=if t.bad≠0\/t.s.size=0 then [t] else t::qcl 12 2 6 s n (t.at_+t.s.size):=by
 rw[qcl,(qtm s hi).1,ht]
theorem qut(s:ByteArray){i:Nat}(hi:i<=s.size){t:Tk}(ht:tokAt 12 2 6 s (i+qa9 false ((byl s).drop i))=t)(h : ¬ (t.bad≠0\/t.s.size=0)):i<t.at_+t.s.size/\t.at_+t.s.size<=s.size:=by
 obtain⟨_,h2⟩:=qtm s hi
 have hij:i<=i+qa9 false ((byl s).drop i):=by omega
 generalize i+qa9 false ((byl s).drop i)=j at ht h2 hij
 by_cases hj:j<s.size
 ·have hp:=qmb hj 12 2 6
  have ha:t.at_=j:=by rw[<- ht,qd3]
  rw[ht] at hp
  omega
 ·obtain rfl:j=s.size:=by omega
  have hd:(byl s).drop s.size=[]:=WW (by rw[qaU]; exact Wp _)
  exfalso
  apply h
  rw[<- ht,qd3,hd]
  exact .inr rfl
theorem qjW (s:ByteArray) (hl:s.size<2 ^ 29) : ∀ (n i:Nat) (cs:List D) (m:Nat),s.size-i<n->i<=s.size->0<m->cs.length=m*5->m+(s.size-i)<2 ^ 30 ->
  ∃ k t a v c,Z tP (.loop 8 F249l0 [(0,.yld 0),(1,.ptr 1 0),(3,.int i)] (TT1 s cs m))=some (.out .ret [(0,.yld 0),(1,.ptr 1 0),(4,.ptr 9 0),(23,.bool true)] (TT1 s (cs++ptC (qcl 12 2 6 s n i)) (m+(qcl 12 2 6 s n i).length)++[tkO k t a v c]))
 |0,i,cs,m,h,_,_,_,_=>by omega
 |n+1,i,cs,m,hn,hi,h0,hc,hm=>by
  obtain⟨j1,j2⟩:=qtm s hi
  have zs:=qpM s (by omega) (LxS.gr cs m cs.length 0 0 12) hi
  have zc:=qt0 s (by omega) (LxS.gr cs m cs.length 0 0 12) j2
  obtain⟨t,ht⟩ : ∃ t,tokAt 12 2 6 s (i+qa9 false ((byl s).drop i))=t:=⟨_,rfl⟩
  rw[qoa s n hi ht]
  rw[ht] at zc
  by_cases hend:t.bad≠0\/t.s.size=0
  ·rw[if_pos hend]
   have z:=qsq hc h0 (by omega) zs zc ((qgK t).2 hend)
   simp only[ptC,Wr,Wh]
   exact⟨_,_,_,_,_,z⟩
  ·rw[if_neg hend]
   obtain⟨q1,q2⟩:=qut s hi ht hend
   have hb:t.bad=0:=by simp only[not_or,ne_eq,Decidable.not_not] at hend; exact hend.1
   have hk : ¬ (kindT t=0\/kindT t=6):=fun h=>hend ((qgK t).1 h)
   simp only[not_or] at hk
   have z:=qsp hc h0 (by omega) zs zc (by rw[qan hb,qai _ (by omega)]) (decide_eq_false hk.1) (decide_eq_false hk.2)
   have hT:qhz (kindT t) t.s t.at_ (valT t) t.bad=ptT t:=by show _=qhz (kindT t) (qfM t) t.at_ (valT t) t.bad; rw[qan hb]
   rw[qan hb,hT] at z
   obtain⟨k,x,a,v,c,ih⟩:=qjW s hl n (t.at_+t.s.size) (cs++ptT t) (m+1) (by omega) q2 (by omega) (by rw[Wd,hc]; simp only[qhz,Wf,Wm]; omega) (by omega)
   refine⟨k,x,a,v,c,z.trans ?_⟩
   have e1:((t.at_:Int)+t.s.size)=((t.at_+t.s.size:Nat):Int):=by omega
   rw[e1,ih]
   simp only[ptC,Wj,Wf]
   rw[show m+1+(qcl 12 2 6 s n (t.at_+t.s.size)).length=m+((qcl 12 2 6 s n (t.at_+t.s.size)).length+1) by omega]
theorem qrl(s:ByteArray)(hl:s.size<2 ^ 29):Z tP (.call 249 [.yld 0,.ptr 1 0] (TT0 s))=some (.ret (.tup []) (TT1 s (ptC (qk6 s)) (qk6 s).length)):=by
 obtain⟨j1,j2⟩:=qtm s (i:=0) (by omega)
 have zs:=qpM s (by omega) (LxS.nil 0 0 12) (i:=0) (by omega)
 have zc:=qt0 s (by omega) (LxS.nil 0 0 12) j2
 obtain⟨t,ht⟩ : ∃ t,tokAt 12 2 6 s (0+qa9 false ((byl s).drop 0))=t:=⟨_,rfl⟩
 have hn:=qoa s s.size (i:=0) (by omega) ht
 rw[show qk6 s=qcl 12 2 6 s (s.size+1) 0 from rfl,hn]
 rw[ht] at zc
 by_cases hend:t.bad≠0\/t.s.size=0
 ·rw[if_pos hend]
  have z:=qso zs zc ((qgK t).2 hend)
  simp only[YH] at z
  refine qab (pf:=F249) rfl rfl ?_
  simp[F249,z,ptC,qhz,Wa]
 ·rw[if_neg hend]
  obtain⟨q1,q2⟩:=qut s (i:=0) (by omega) ht hend
  have hb:t.bad=0:=by simp only[not_or,ne_eq,Decidable.not_not] at hend; exact hend.1
  have hk : ¬ (kindT t=0\/kindT t=6):=fun h=>hend ((qgK t).1 h)
  simp only[not_or] at hk
  have z:=qsn zs zc (by rw[qan hb,qai _ (by omega)]) (decide_eq_false hk.1) (decide_eq_false hk.2)
  have hT:qhz (kindT t) t.s t.at_ (valT t) t.bad=ptT t:=by show _=qhz (kindT t) (qfM t) t.at_ (valT t) t.bad; rw[qan hb]
  rw[qan hb,hT] at z
  obtain⟨k,x,a,v,c,ih⟩:=qjW s hl s.size (t.at_+t.s.size) (ptT t) 1 (by omega) q2 (by omega) (by simp only[qhz,Wf,Wm]) (by omega)
  have e1:((t.at_:Int)+t.s.size)=((t.at_+t.s.size:Nat):Int):=by omega
  rw[e1,ih] at z
  simp only[YH] at z
  have e2:ptT t++ptC (qcl 12 2 6 s s.size (t.at_+t.s.size))=ptC (t::qcl 12 2 6 s s.size (t.at_+t.s.size)):=rfl
  rw[e2] at z
  have e3:1+(qcl 12 2 6 s s.size (t.at_+t.s.size)).length=(t::qcl 12 2 6 s s.size (t.at_+t.s.size)).length:=by rw[Wf]; omega
  rw[e3] at z
  generalize t::qcl 12 2 6 s s.size (t.at_+t.s.size)=T at z ⊢
  refine qab (pf:=F249) rfl rfl ?_
  simp[F249,z,Wa]
end
section
open F
attribute [local simp] qbj qb4 dkey
abbrev PS(s:ByteArray)(T:List Tk)(i a c:Int):S:=[pO s 1 (.gsl (ptC T) T.length 5 2) i a c,.map kwM,.tip (ptC T).length]
abbrev qbq(c:Int):V := .pan (.iface 1 (.int c))
theorem qnh : ∀ (T:List Tk) (i:Nat),(ptC T).drop (i*5)=ptC (T.drop i)
 |[],i=>by simp[ptC]
 |t::T,0=>by simp
 |t::T,i+1=>by
  rw[show (i+1)*5=i*5+5 by omega]
  simp only[ptC,qhz,Wi,Wc,Yu]
  exact qnh T i
theorem qpL{T:List Tk}{i:Nat}{t:Tk}{r:List Tk}(h:T.drop i=t::r):qaj (ptC T) (i*5) 5=some [.lit (.int .i64 (kindT t)),.lit (.string (qfM t)),.lit (.int .i64 t.at_),.lit (.int .i64 (valT t)),.lit (.int .i64 t.bad)]:=by
 unfold qaj
 rw[qnh,h]
 simp[ptC,qhz]
section
variable{s:ByteArray}{T:List Tk}{i:Nat}{a c:Int}{t:Tk}{r:List Tk}
theorem qjp(h:T.drop i=t::r):i<T.length:=by
 have:=congrArg List.length h
 rw[W5,Wf] at this
 omega
theorem qgS{k v e c':Int}{x:ByteArray}{at_:Int}:Z tP (.call 255 [.ptr 0 0,ptD k x at_ v e,.int c'] (PS s T i a c))=some (.ret (qbq c') (PS s T i at_ c')):=by
 refine qab (pf:=F255) rfl rfl ?_
 simp[F255,Wa]
theorem qax(h:T.drop i=t::r)(hb:t.bad=0):Z tP (.call 252 [.ptr 0 0] (PS s T i a c))=some (.ret (ptk t) (PS s T i a c)):=by
 have hlt:(i:Int)<T.length:=by have:=qjp h; omega
 have hc:=qpL h
 have hk : ¬ kindT t=6:=fun e=>by
  unfold kindT at e
  rw[if_neg (by simp[hb])] at e
  revert e
  split<;>(try split)<;>(try split)<;>omega
 refine qab (pf:=F252) rfl rfl ?_
 simp[F252,qae,hlt,hc,hk,Wa]
theorem qe0(h:T.drop i=t::r)(hb:t.bad≠0):Z tP (.call 252 [.ptr 0 0] (PS s T i a c))=some (.ret (qbq t.bad) (PS s T i t.at_ t.bad)):=by
 have hlt:(i:Int)<T.length:=by have:=qjp h; omega
 have hc:=qpL h
 have hk:kindT t=6:=by unfold kindT; rw[if_pos hb]
 have zf:=qgS (s:=s) (T:=T) (i:=i) (a:=a) (c:=c) (k:=6) (x:=qfM t) (at_:=t.at_) (v:=valT t) (e:=t.bad) (c':=t.bad)
 rw[hk] at hc
 simp only[PS,pO,ptD] at zf
 refine qab (pf:=F252) rfl rfl ?_
 simp[F252,qae,hlt,hc,hk,zf,qak,Wa]
end
end
end Go.Pm
