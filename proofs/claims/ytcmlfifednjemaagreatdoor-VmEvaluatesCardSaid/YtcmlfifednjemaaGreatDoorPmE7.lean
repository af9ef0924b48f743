/- The code's Variables. -/
import Derived.Test.YtcmlfifednjemaaGreatDoorPmAL
import Derived.Test.YtcmlfifednjemaaGreatDoorPmVp21
import Derived.Test.YtcmlfifednjemaaGreatDoorPmR
import Derived.Laws.BitsAllLaws
import Derived.Laws.Bits64
set_option linter.unusedSimpArgs false
set_option linter.unusedVariables false
set_option maxHeartbeats 4000000
namespace Go.Pm
section
open F
attribute [local simp] qa6 qbu dkey Ex.isPan
abbrev vfr(r:D)(i:Int):Fr:=[(3,.ptr 0 0),(4,.ptr 1 0),(12,.dat r),(13,.int i)]
abbrev U0:S:=[.cells [.dat (.lit (.slice none 0 0))],.cells [.mp 2],.map []]
abbrev U1(l:List ByteArray):S:=[.cells [.gsl (qbJ l) l.length 1 2],.cells [.mp 3],.tip l.length,.map (mapM 0 l)]
section
variable{a b c:Nd}
theorem qr1(hb:a.ks.size<2^25):Z qaD (.loop 0 F15l0 (vfr (ru a b c) 0) U0)=if addAll [] a.vars=[] then Z qaD (.loop 0 F15l0 (vfr (ru a b c) 1) U0) else Z qaD (.loop 0 F15l0 (vfr (ru a b c) 1) (U1 (addAll [] a.vars))):=by
 have hv:=qpq (r:=ru a b c) (j:=0) (k0:=a.k) (n0:=a.n) (s0:=a.s) (d0:=a.d) a.k a.n a.s a.f a.ks hb
 obtain⟨S',h1,h2⟩:=quz hv
 have h3:=qpr (k:=a.k) (n:=a.n) (s:=a.s) (f:=a.f) (ks:=a.ks)
 have w1:=qaf 1 (by omega)
 rw[show (if a.k=1\/a.k=10 then [a.s] else [])++a.ks.vars=a.vars from rfl] at h2
 simp only[qbt,T0,qll,ru,Nd.d] at h1 h3
 conv=>lhs; rw[qac]
 rcases h2 with ⟨he,rfl⟩|⟨he,rfl⟩
 ·rw[if_pos he]
  simp[qad,qb9,h3,h1,w1,qbh,qbi,qbt,T0,qll,Wa]
  refine qal ?_
  simp[Wa]
 ·rw[if_neg he]
  simp[qad,qb9,h3,h1,w1,qbh,qbi,qbt,T01,qll,Wa]
  refine qal ?_
  simp[Wa]
theorem qr2(hb:b.ks.size<2^25):Z qaD (.loop 0 F15l0 (vfr (ru a b c) 1) U0)=if addAll [] b.vars=[] then Z qaD (.loop 0 F15l0 (vfr (ru a b c) 2) U0) else Z qaD (.loop 0 F15l0 (vfr (ru a b c) 2) (U1 (addAll [] b.vars))):=by
 have hv:=qpq (r:=ru a b c) (j:=1) (k0:=b.k) (n0:=b.n) (s0:=b.s) (d0:=b.d) b.k b.n b.s b.f b.ks hb
 obtain⟨S',h1,h2⟩:=quz hv
 have h3:=qpr (k:=b.k) (n:=b.n) (s:=b.s) (f:=b.f) (ks:=b.ks)
 have w1:=qaf 2 (by omega)
 rw[show (if b.k=1\/b.k=10 then [b.s] else [])++b.ks.vars=b.vars from rfl] at h2
 simp only[qbt,T0,qll,ru,Nd.d] at h1 h3
 conv=>lhs; rw[qac]
 rcases h2 with ⟨he,rfl⟩|⟨he,rfl⟩
 ·rw[if_pos he]
  simp[qad,qb9,h3,h1,w1,qbh,qbi,qbt,T0,qll,Wa]
  refine qal ?_
  simp[Wa]
 ·rw[if_neg he]
  simp[qad,qb9,h3,h1,w1,qbh,qbi,qbt,T01,qll,Wa]
  refine qal ?_
  simp[Wa]
theorem qr3{l:List ByteArray}(hb:b.ks.size<2^25)(hl:l≠[])(hl':l.length<2^27):Z qaD (.loop 0 F15l0 (vfr (ru a b c) 1) (U1 l))=Z qaD (.loop 0 F15l0 (vfr (ru a b c) 2) (U1 (addAll l b.vars))):=by
 have hv:=qpq (r:=ru a b c) (j:=1) (k0:=b.k) (n0:=b.n) (s0:=b.s) (d0:=b.d) b.k b.n b.s b.f b.ks hb
 have hx:=qek b
 have h1:=qw8 hv hl (by rw[show (if b.k=1\/b.k=10 then [b.s] else [])++b.ks.vars=b.vars from rfl]; omega)
 rw[show (if b.k=1\/b.k=10 then [b.s] else [])++b.ks.vars=b.vars from rfl] at h1
 have h3:=qpr (k:=b.k) (n:=b.n) (s:=b.s) (f:=b.f) (ks:=b.ks)
 have w1:=qaf 2 (by omega)
 simp only[qbt,T1,qll,ru,Nd.d] at h1 h3
 conv=>lhs; rw[qac]
 simp[qad,qb9,h3,h1,w1,qbh,qbi,qbt,T1,qll,Wa]
 refine qal ?_
 simp[Wa]
theorem qr4(hb:c.ks.size<2^25):Z qaD (.loop 0 F15l0 (vfr (ru a b c) 2) U0)=if addAll [] c.vars=[] then Z qaD (.loop 0 F15l0 (vfr (ru a b c) 3) U0) else Z qaD (.loop 0 F15l0 (vfr (ru a b c) 3) (U1 (addAll [] c.vars))):=by
 have hv:=qpq (r:=ru a b c) (j:=2) (k0:=c.k) (n0:=c.n) (s0:=c.s) (d0:=c.d) c.k c.n c.s c.f c.ks hb
 obtain⟨S',h1,h2⟩:=quz hv
 have h3:=qpr (k:=c.k) (n:=c.n) (s:=c.s) (f:=c.f) (ks:=c.ks)
 have w1:=qaf 3 (by omega)
 rw[show (if c.k=1\/c.k=10 then [c.s] else [])++c.ks.vars=c.vars from rfl] at h2
 simp only[qbt,T0,qll,ru,Nd.d] at h1 h3
 conv=>lhs; rw[qac]
 rcases h2 with ⟨he,rfl⟩|⟨he,rfl⟩
 ·rw[if_pos he]
  simp[qad,qb9,h3,h1,w1,qbh,qbi,qbt,T0,qll,Wa]
  refine qal ?_
  simp[Wa]
 ·rw[if_neg he]
  simp[qad,qb9,h3,h1,w1,qbh,qbi,qbt,T01,qll,Wa]
  refine qal ?_
  simp[Wa]
theorem qm2{l:List ByteArray}(hb:c.ks.size<2^25)(hl:l≠[])(hl':l.length<2^27):Z qaD (.loop 0 F15l0 (vfr (ru a b c) 2) (U1 l))=Z qaD (.loop 0 F15l0 (vfr (ru a b c) 3) (U1 (addAll l c.vars))):=by
 have hv:=qpq (r:=ru a b c) (j:=2) (k0:=c.k) (n0:=c.n) (s0:=c.s) (d0:=c.d) c.k c.n c.s c.f c.ks hb
 have hx:=qek c
 have h1:=qw8 hv hl (by rw[show (if c.k=1\/c.k=10 then [c.s] else [])++c.ks.vars=c.vars from rfl]; omega)
 rw[show (if c.k=1\/c.k=10 then [c.s] else [])++c.ks.vars=c.vars from rfl] at h1
 have h3:=qpr (k:=c.k) (n:=c.n) (s:=c.s) (f:=c.f) (ks:=c.ks)
 have w1:=qaf 3 (by omega)
 simp only[qbt,T1,qll,ru,Nd.d] at h1 h3
 conv=>lhs; rw[qac]
 simp[qad,qb9,h3,h1,w1,qbh,qbi,qbt,T1,qll,Wa]
 refine qal ?_
 simp[Wa]
theorem qxq{r:D}:Z qaD (.loop 0 F15l0 [(3,.ptr 0 0),(4,.ptr 1 0),(12,.dat r),(13,.int 3)] U0)=some (.out (.exit 0) [(3,.ptr 0 0),(4,.ptr 1 0),(12,.dat r),(13,.int 3),(14,.bool false)] U0):=by
 rw[qac]
 simp[qad,qb9]
theorem qpT{r:D}{l:List ByteArray}:Z qaD (.loop 0 F15l0 [(3,.ptr 0 0),(4,.ptr 1 0),(12,.dat r),(13,.int 3)] (U1 l))=some (.out (.exit 0) [(3,.ptr 0 0),(4,.ptr 1 0),(12,.dat r),(13,.int 3),(14,.bool false)] (U1 l)):=by
 rw[qac]
 simp[qad,qb9]
theorem qpU (ha:a.ks.size<2^25) (hb:b.ks.size<2^25) (hc:c.ks.size<2^25):Z qaD (.loop 0 F15l0 (vfr (ru a b c) 0) U0) =
  some (.out (.exit 0) [(3,.ptr 0 0),(4,.ptr 1 0),(12,.dat (ru a b c)),(13,.int 3),(14,.bool false)] (if rvars a b c=[] then U0 else U1 (rvars a b c))):=by
 have la:=qek a
 have lb:=qek b
 have l1:=qcn a.vars []
 have l2:=qcn b.vars (addAll [] a.vars)
 have e:rvars a b c=addAll (addAll (addAll [] a.vars) b.vars) c.vars:=by unfold rvars; rw[qcI,qcI]
 simp only[Wj] at l1
 rw[e,qr1 ha]
 by_cases h1:addAll [] a.vars=[]
 ·rw[if_pos h1,h1,qr2 hb]
  by_cases h2:addAll [] b.vars=[]
  ·rw[if_pos h2,h2,qr4 hc]
   by_cases h3:addAll [] c.vars=[]
   ·rw[if_pos h3,if_pos h3]; exact qxq
   ·rw[if_neg h3,if_neg h3]; exact qpT
  ·rw[h1] at l2
   rw[if_neg h2,qm2 hc h2 (by simp only[Wj] at l2; omega),if_neg (qcX _ h2)]
   exact qpT
 ·have n2:addAll (addAll [] a.vars) b.vars≠[]:=qcX _ h1
  rw[if_neg h1,qr3 hb h1 (by omega),qm2 hc n2 (by omega),if_neg (qcX _ n2)]
  exact qpT
theorem qlZ(ha:a.ks.size<2^25)(hb:b.ks.size<2^25)(hc:c.ks.size<2^25):Z qaD (.call 15 [.dat (ru a b c)] [])=some (.ret (.dat (qlW (rvars a b c))) []):=by
 have h:=qpU ha hb hc
 refine qaa (pf:=F15) rfl rfl ?_
 have h':=(qal (k:=0) (b:=F15l0) (fr:=[(3,.ptr 1 0),(4,.ptr 3 0),(12,.dat (ru a b c)),(13,.int 0)]) (σ := [.cells [.int a.k,.int a.n,.str a.s,.dat a.d,.int b.k,.int b.n,.str b.s,.dat b.d,.int c.k,.int c.n,.str c.s,.dat c.d],.cells [.dat (.lit (.slice none 0 0))],.map [],.cells [.mp 2]]) (by simp[vfr,U0])).trans h
 simp only[ru,Nd.d] at h'
 by_cases hn:rvars a b c=[]
 ·rw[if_pos hn] at h'
  rw[hn]
  simp[F15,h',qlW]
 ·rw[if_neg hn] at h'
  rw[quO hn]
  simp[F15,h']
end
end
end Go.Pm
section
namespace Go.Pm.F
variable(C:Task->Option Res)(q:Nat)(fr:Fr)(σ : S)
def F136:PFun:=pf 2 [.tmp 4] (sr [mx 4 (kk 0)] [0,1] (.seq (.seq (.region (some []) [mv 6 0,nc 7 6,fa 8 1 7,l1 9 8,mv 10 0,nc 11 10,fa 12 0 11,l1 13 12,ls 14 13,bn 15 .geq 9 14] [0,1,15]) (cs 15 (sr [mx 4 (kk 0)] [4] .ret))) (.seq (.region (some []) [mv 16 0,nc 17 16,fa 18 0 17,l1 19 18,mv 20 0,nc 21 20,fa 22 1 21,l1 23 22,jj 24 (.indexAddr 1 (.t 19) (.t 23)),l1 25 24,jj 26 (.call 17 [(.t 25),(kk 1000000)]),mv 5 26] [0,1,5] [10]) (sr [mv 27 0,nc 28 27,fa 29 1 28,l1 30 29,bk 31 .add 30 1,nc 32 27,fa 33 1 32,st 1 33 31] [1,5] (sr [mv 34 5,mv 35 1,bn 36 .rem 34 35,mv 4 36] [4] .ret)))))
def F176:PFun:=pf 3 [.cell 6 true 4] (sr [bx 5 2,jj 6 (.alloc [zN,zN,eN,sN])] [0,1,5,6] (sr [mv 7 0,mv 8 1,la 9 4 5,jj 10 (.bslice 1 [zN,zN,eN,sN] [(0,4,(.t 9))]),jj 11 (.build [zN,zN,eN,sN] [(0,1,(.t 7)),(2,1,(.t 8)),(3,1,(.t 10))]),st 4 6 11] [6] .ret))
def F177:PFun:=pf 2 [.cell 4 true 4] (sr [jj 4 (.alloc [zN,zN,eN,sN])] [0,1,4] (sr [mv 9 0,jj 10 (.call 136 [(.t 9),(kk 12)]),mv 5 10] [0,1,4,5] (.seq (sr [mv 11 1,bk 12 .leq 11 0] [0,1,4,5,12] (cs 12 (rn [mv 13 5,bk 14 .rem 13 6,mv 5 14] [0,1,4,5]))) (.seq (sr [mv 15 5] [0,1,4,15] (.block 0 (.seq (sr [bk 17 .eql 15 0,mv 16 17] [0,1,4,15,16] (.cond (.t 16) .skip (rn [bk 18 .eql 15 1,mv 16 18] [0,1,4,15,16]))) (.cond (.t 16) (sr [jj 19 (.bslice 8 [zN,zN,zN,zN,zN,zN,zN,zN] [(0,1,(kk 0)),(1,1,(kk 1)),(2,1,(kk 2)),(3,1,(kk 3)),(4,1,(kk 7)),(5,1,(kk 100)),(6,1,(kk 1024)),(7,1,(kk 2147483647))]),mv 20 0,jj 21 (.call 136 [(.t 20),(kk 8)]),jj 22 (.indexAddr 1 (.t 19) (.t 21)),l1 23 22,jj 24 (.build [zN,zN,eN,sN] [(0,1,(kk 8)),(1,1,(.t 23))]),st 4 4 24] [4] .ret) (.seq (sr [bk 26 .eql 15 2,mv 25 26] [0,1,4,15,25] (.cond (.t 25) .skip (rn [bk 27 .eql 15 3,mv 25 27] [0,1,4,15,25]))) (.cond (.t 25) (sr [jj 28 (.bslice 4 [eN,eN,eN,eN] [(0,1,(ks [105])),(1,1,(ks [110])),(2,1,(ks [115,117,109])),(3,1,(ks [118,51]))]),mv 29 0,jj 30 (.call 136 [(.t 29),(kk 4)]),jj 31 (.indexAddr 1 (.t 28) (.t 30)),l1 32 31,jj 33 (.build [zN,zN,eN,sN] [(0,1,(kk 10)),(2,1,(.t 32))]),st 4 4 33] [4] .ret) (.seq (sr [bk 35 .eql 15 4,mv 34 35] [0,1,4,15,34] (.cond (.t 34) .skip (rn [bk 36 .eql 15 5,mv 34 36] [0,1,4,15,34]))) (.cond (.t 34) (sr [jj 37 (.bslice 3 [eN,eN,eN] [(0,1,(ks [115,101,108,102])),(1,1,(ks [111,116,104,101,114])),(2,1,(ks [116,105,99,107]))]),mv 38 0,jj 39 (.call 136 [(.t 38),(kk 3)]),jj 40 (.indexAddr 1 (.t 37) (.t 39)),l1 41 40,jj 42 (.build [zN,zN,eN,sN] [(0,1,(kk 12)),(2,1,(.t 41))]),st 4 4 42] [4] .ret) (.seq (sr [bk 44 .eql 15 6,mv 43 44] [0,1,4,15,43] (.cond (.t 43) .skip (rn [bk 45 .eql 15 7,mv 43 45] [0,1,4,15,43]))) (.cond (.t 43) (sr [jj 46 (.bslice 8 [eN,eN,eN,eN,eN,eN,eN,eN] [(0,1,(ks [120])),(1,1,(ks [121])),(2,1,(ks [118,120])),(3,1,(ks [118,121])),(4,1,(ks [97])),(5,1,(ks [98])),(6,1,(ks [104,105,116])),(7,1,(ks [115,116,105,108,108]))]),mv 47 0,jj 48 (.call 136 [(.t 47),(kk 8)]),jj 49 (.indexAddr 1 (.t 46) (.t 48)),l1 50 49,mv 6 50] [0,1,4,6] (sr [mv 51 6,mv 52 0,mv 53 1,bk 54 .sub 53 1,cl 55 177 [52,54],jj 56 (.call 176 [(kk 11),(.t 51),(.t 55)]),st 4 4 56] [4] .ret)) (sr [bk 58 .eql 15 8,mv 57 58] [0,1,4,57] (cs 57 (sr [mv 59 0,mv 60 1,bk 61 .sub 60 1,cl 62 177 [59,61],jj 63 (.call 176 [(kk 13),(ks [45]),(.t 62)]),st 4 4 63] [4] .ret))))))))))))) (sr [jj 64 (.bslice 4 [eN,eN,eN,eN] [(0,1,(ks [43])),(1,1,(ks [45])),(2,1,(ks [42])),(3,1,(ks [47]))]),mv 65 0,jj 66 (.call 136 [(.t 65),(kk 4)]),jj 67 (.indexAddr 1 (.t 64) (.t 66)),l1 68 67,mv 7 68] [0,1,4,7] (sr [mv 69 0,mv 70 1,bk 71 .sub 70 1,cl 72 177 [69,71],jj 8 (.alloc [zN,zN,eN,sN]),st 4 8 72] [0,1,4,7,8] (.seq (.region (some []) [mv 73 7,⟨some 74,.load true 4 (.t 8),none,[5]⟩,mv 75 0,mv 76 1,bk 77 .sub 76 1,cl 78 177 [75,77],jj 79 (.call 178 [(kk 14),(.t 73),(.t 74),(.t 78)]),st 4 4 79] [4] [5,6]) .ret)))))))
def F178:PFun:=pf 4 [.cell 8 true 4] (sr [bx 6 2,bx 7 3,jj 8 (.alloc [zN,zN,eN,sN])] [0,1,6,7,8] (sr [mv 9 0,mv 10 1,la 11 4 6,la 12 4 7,jj 13 (.bslice 2 [zN,zN,eN,sN,zN,zN,eN,sN] [(0,4,(.t 11)),(4,4,(.t 12))]),jj 14 (.build [zN,zN,eN,sN] [(0,1,(.t 9)),(2,1,(.t 10)),(3,1,(.t 13))]),st 4 8 14] [8] .ret))
def F179:PFun:=pf 2 [.cell 4 true 4] (sr [jj 4 (.alloc [zN,zN,eN,sN])] [0,1,4] (sr [mv 10 0,jj 11 (.call 136 [(.t 10),(kk 8)]),mv 5 11] [0,1,4,5] (.seq (sr [mv 12 1,bk 13 .leq 12 0] [0,1,4,5,13] (cs 13 (rn [mv 14 5,bk 15 .rem 14 4,mv 5 15] [0,1,4,5]))) (.seq (sr [mv 16 5] [0,1,4,16] (.block 0 (sr [bk 18 .eql 16 0,mv 17 18] [0,1,4,16,17] (.cond (.t 17) (sr [mv 19 0,jj 20 (.call 136 [(.t 19),(kk 2)]),jj 21 (.build [zN,zN,eN,sN] [(0,1,(kk 9)),(1,1,(.t 20))]),st 4 4 21] [4] .ret) (.seq (sr [bk 23 .eql 16 1,mv 22 23] [0,1,4,16,22] (.cond (.t 22) .skip (sr [bk 24 .eql 16 2,mv 22 24] [0,1,4,16,22] (.cond (.t 22) .skip (sr [bk 25 .eql 16 3,mv 22 25] [0,1,4,16,22] (.cond (.t 22) .skip (rn [bk 26 .eql 16 4,mv 22 26] [0,1,4,16,22]))))))) (.cond (.t 22) (sr [jj 27 (.bslice 6 [eN,eN,eN,eN,eN,eN] [(0,1,(ks [60])),(1,1,(ks [60,61])),(2,1,(ks [62])),(3,1,(ks [62,61])),(4,1,(ks [61,61])),(5,1,(ks [33,61]))]),mv 28 0,jj 29 (.call 136 [(.t 28),(kk 6)]),jj 30 (.indexAddr 1 (.t 27) (.t 29)),l1 31 30,mv 6 31] [0,1,4,6] (sr [mv 32 0,mv 33 1,bk 34 .sub 33 1,cl 35 177 [32,34],jj 7 (.alloc [zN,zN,eN,sN]),st 4 7 35] [0,1,4,6,7] (.seq (.region (some []) [mv 36 6,⟨some 37,.load true 4 (.t 7),none,[5]⟩,mv 38 0,mv 39 1,bk 40 .sub 39 1,cl 41 177 [38,40],jj 42 (.call 178 [(kk 14),(.t 36),(.t 37),(.t 41)]),st 4 4 42] [4] [5,6]) .ret))) (sr [bk 44 .eql 16 5,mv 43 44] [0,1,4,43] (cs 43 (sr [mv 45 0,mv 46 1,bk 47 .sub 46 1,cl 48 179 [45,47],jj 49 (.call 176 [(kk 13),(ks [33]),(.t 48)]),st 4 4 49] [4] .ret))))))))) (sr [jj 50 (.bslice 2 [eN,eN] [(0,1,(ks [38,38])),(1,1,(ks [124,124]))]),mv 51 0,jj 52 (.call 136 [(.t 51),(kk 2)]),jj 53 (.indexAddr 1 (.t 50) (.t 52)),l1 54 53,mv 8 54] [0,1,4,8] (sr [mv 55 0,mv 56 1,bk 57 .sub 56 1,cl 58 179 [55,57],jj 9 (.alloc [zN,zN,eN,sN]),st 4 9 58] [0,1,4,8,9] (.seq (.region (some []) [mv 59 8,⟨some 60,.load true 4 (.t 9),none,[5]⟩,mv 61 0,mv 62 1,bk 63 .sub 62 1,cl 64 179 [61,63],jj 65 (.call 178 [(kk 14),(.t 59),(.t 60),(.t 64)]),st 4 4 65] [4] [5,6]) .ret)))))))
end Go.Pm.F
end
section
namespace Go.Pm.F
variable(C:Task->Option Res)(q:Nat)(fr:Fr)(σ : S)
def effRows15:List (List Int):=[[0,0],[0,1],[0,1],[1,0],[1,1],[2,0],[0,1],[0,1],[0,1],[2,1],[2,1],[2,1],[2,1],[1,1],[2,1],[2,1],[2,1],[1,1],[0,0],[1,0],[2,0],[0,0]]
def G_arenanet_compile_effects:List D:=effRows15.flatten.map fun n => .lit (.int .i64 n)
@[simp] def F131l0x:PC:=(sr [bn 20 .lss 19 18] [1,2,4,17,18,19,20] (.seq (.cond (.t 20) .skip (.exit 0)) (.seq (.block 1 (sr [mv 21 19,jj 22 (.indexAddr 1 (.t 17) (.t 19)),l1 23 22,mv 5 21,mv 6 23] [1,2,4,5,6,17,18,19] (rn [mv 24 4,nc 25 24,fa 26 0 25,fa 27 1 26,l1 28 27,mv 29 6,mv 30 5,jn (.mapset .s (.t 28) (.t 29) (.t 30))] [1,2,4,17,18,19]))) (rn [bk 31 .add 19 1,mv 19 31] [1,2,4,17,18,19]))))
def F131l0:PC:=F131l0x
theorem qiB:run C q F131l0 fr σ = run C q F131l0x fr σ := rfl
@[simp] def F131l1x:PC:=(sr [bk 35 .lss 34 3] [2,4,33,34,35] (.seq (.cond (.t 35) .skip (.exit 2)) (.seq (.block 3 (sr [mv 36 34,jj 37 (.indexA true 3 4 (.t 33) (.t 34)),jj 8 (.alloc [zN,zN,eN,sN]),mv 7 36,st 4 8 37] [2,4,7,8,33,34] (sr [mv 38 4,mv 39 7,nc 40 38,fa 41 2 40,jj 42 (.indexAddrA 3 1 (.t 41) (.t 39)),jn (.store 1 (.t 42) (kk (-1)))] [2,4,7,8,33,34] (sr [fa 43 0 8,l1 44 43,bk 45 .neq 44 0] [2,4,7,8,33,34,45] (cs 45 (.seq (.region (some []) [mv 46 4,mv 47 7,mv 48 4,nc 49 48,fa 50 0 49,fa 51 0 50,l1 52 51,ls 53 52,nc 54 46,fa 55 2 54,jj 56 (.indexAddrA 3 1 (.t 55) (.t 47)),st 1 56 53] [2,4,8,33,34]) (.seq (.region (some []) [mv 57 4,nc 58 57,fa 59 0 58,la 60 4 8,cl 61 147 [59,60]] [2,4,33,34] [4]) (rn [mv 62 4,nc 63 62,fa 64 0 63,jj 65 (.call 148 [(.t 64),(kk 21),(kk 0)])] [2,4,33,34])))))))) (rn [bk 66 .add 34 1,mv 34 66] [2,4,33,34]))))
def F131l1:PC:=F131l1x
theorem qaX:run C q F131l1 fr σ = run C q F131l1x fr σ := rfl
@[simp] def F131l2x:PC:=(sr [bk 88 .lss 87 3] [2,9,86,87,88] (.seq (.cond (.t 88) .skip (.exit 4)) (.seq (.block 5 (sr [jj 89 (.indexA false 3 1 (.t 86) (.t 87)),mv 11 89] [2,9,11,86,87] (sr [mv 90 11,bk 91 .geq 90 0,mv 92 91,jt 93 92 (.load true 4 (.t 9)),jt 94 92 (.mov (.t 11)),jt 95 92 (.call 139 [(.t 93),(.t 94)]),jt 96 92 (.call 140 [(.t 95)]),jt 97 92 (.un .not (.t 96)),jj 98 (.pick (.t 92) (.t 97) kF)] [2,9,86,87,98] (cs 98 (sr [jj 99 (.build [sN,zN,zN,zN] []),st 4 2 99,mx 3 (kk 15)] [2,3] .ret))))) (rn [bk 100 .add 87 1,mv 87 100] [2,9,86,87]))))
def F131l2:PC:=F131l2x
theorem qaY:run C q F131l2 fr σ = run C q F131l2x fr σ := rfl
def F131:PFun:=pf 1 [.cell 2 true 4,.tmp 3] (sr [bx 1 0,jj 2 (.alloc [sN,zN,zN,zN]),mx 3 (kk 0)] [1,2] (sr [jj 12 (.mkmap),jj 13 (.build [sN,(.lit (.map none))] [(1,1,(.t 12))]),jj 14 (.build [sN,(.lit (.map none)),zN,zN,zN] [(0,2,(.t 13))]),bx 15 14,mv 4 15] [1,2,4] (.seq (sr [la 16 12 1,cl 17 15 [16],ls 18 17,mx 19 (kk 0)] [1,2,4,17,18,19] (.block 0 (.loop F131l0))) (.seq (sr [fa 32 0 1,la 33 12 32,mx 34 (kk 0)] [2,4,33,34] (.block 2 (.loop F131l1))) (.seq (sr [mv 67 4,nc 68 67,fa 69 0 68,fa 70 0 69,l1 71 70,ls 72 71,bk 73 .gtr 72 400] [2,4,73] (cs 73 (sr [jj 74 (.build [sN,zN,zN,zN] []),st 4 2 74,mx 3 (kk 2)] [2,3] .ret))) (.seq (.region (some [(111,[sN,zN,zN,zN])]) [mv 75 4,nc 76 75,fa 77 0 76,fa 78 0 77,l1 79 78,mv 80 4,nc 81 80,fa 82 2 81,la 83 3 82,jj 84 (.build [sN,zN,zN,zN] [(0,1,(.t 79)),(1,3,(.t 83))]),jj 9 (.fill 111),st 4 9 84] [2,9]) (.seq (sr [fa 85 1 9,la 86 3 85,mx 87 (kk 0)] [2,9,86,87] (.block 4 (.loop F131l2))) (sr [la 101 4 9,st 4 2 101,mx 3 (kk 0)] [2,3] .ret))))))))
def F134:PFun:=pf 1 [.tmp 2] (sr [mx 2 (kk 0)] [0] (sr [jj 6 (.mkmap),jn (.mapset .s (.t 6) (ks [120]) (kk 0)),jn (.mapset .s (.t 6) (ks [121]) (kk 1)),jn (.mapset .s (.t 6) (ks [118,120]) (kk 2)),jn (.mapset .s (.t 6) (ks [118,121]) (kk 3)),jn (.mapset .s (.t 6) (ks [97]) (kk 4)),jn (.mapset .s (.t 6) (ks [98]) (kk 5)),jn (.mapset .s (.t 6) (ks [104,105,116]) (kk 6)),jn (.mapset .s (.t 6) (ks [115,116,105,108,108]) (kk 7)),mv 7 6,mv 3 7] [0,3] (.seq (sr [mv 9 3,mv 10 0,jj 11 (.lookup .s zN (.t 9) (.t 10) true),mv 8 11,ex 12 8 0,ex 13 8 1,mv 4 12,mv 5 13] [4,5] (sr [mv 14 5] [4,14] (cs 14 (sr [mv 15 4,mv 2 15] [2] .ret)))) (sr [mx 2 (kk (-1))] [2] .ret))))
@[simp] def F139l1x:PC:=(sr [bn 71 .lss 70 69] [2,4,5,6,7,10,68,69,70,71] (.seq (.cond (.t 71) .skip (.exit 2)) (.seq (.block 3 (sr [jj 72 (.indexAddr 1 (.t 68) (.t 70)),l1 73 72,mv 12 73] [2,4,5,6,7,10,12,68,69,70] (.block 4 (sr [mv 75 12,fa 76 0 2,l1 77 76,ls 78 77,bn 79 .eql 75 78,mv 74 79] [2,4,5,6,7,10,12,68,69,70,74] (.cond (.t 74) (rn [fa 80 0 5,jn (.store 1 (.t 80) kT)] [2,4,5,6,7,10,68,69,70]) (sr [mv 82 6,mv 83 12,jj 84 (.indexAddr 1 (.t 82) (.t 83)),l1 85 84,bk 86 .eql 85 0,mv 81 86] [2,4,5,6,7,10,12,68,69,70,81] (.cond (.t 81) (sr [mv 87 6,mv 88 12,mv 89 10,jj 90 (.max [(.t 89),(kk 0)]),bk 91 .add 90 1,jj 92 (.indexAddr 1 (.t 87) (.t 88)),st 1 92 91] [2,4,5,6,7,10,12,68,69,70] (rn [mv 93 7,mv 94 12,jj 95 (.bsliceO 1 1 [zN] [(0,1,(.t 94))]),jj 96 (.appendO 1 8 (.t 93) (.t 95)),mv 7 96] [2,4,5,6,7,10,68,69,70])) (sr [mv 98 6,mv 99 12,jj 100 (.indexAddr 1 (.t 98) (.t 99)),l1 101 100,mv 102 10,bk 103 .add 102 1,bn 104 .neq 101 103,mv 97 104] [2,4,5,6,7,10,68,69,70,97] (cs 97 (rn [fa 105 1 5,jn (.store 1 (.t 105) kT)] [2,4,5,6,7,10,68,69,70])))))))))) (rn [bk 106 .add 70 1,mv 70 106] [2,4,5,6,7,10,68,69,70]))))
def F139l1:PC:=F139l1x
theorem qdd:run C q F139l1 fr σ = run C q F139l1x fr σ := rfl
@[simp] def F139l0x:PC:=(.seq (sr [mv 22 7,ls 23 22,bk 24 .gtr 23 0] [2,4,5,6,7,24] (.cond (.t 24) .skip (.exit 0))) (.block 1 (sr [mv 25 7,mv 26 7,ls 27 26,bk 28 .sub 27 1,jj 29 (.indexAddr 1 (.t 25) (.t 28)),l1 30 29,mv 8 30] [2,4,5,6,7,8] (sr [mv 31 7,mv 32 7,ls 33 32,bk 34 .sub 33 1,jj 35 (.cut 1 (.t 31) none (some (.t 34))),mv 7 35] [2,4,5,6,7,8] (sr [fa 36 0 2,l1 37 36,mv 38 8,jj 39 (.indexAddr 2 (.t 37) (.t 38)),fa 40 0 39,l1 41 40,jj 42 (.indexAddrA 22 2 (.g G_arenanet_compile_effects) (.t 41)),la 43 2 42,jj 9 (.alloc [zN,zN]),st 2 9 43] [2,4,5,6,7,8,9] (sr [mv 44 6,mv 45 8,jj 46 (.indexAddr 1 (.t 44) (.t 45)),l1 47 46,bk 48 .sub 47 1,mv 10 48] [2,4,5,6,7,8,9,10] (.seq (sr [mv 49 10,fa 50 0 9,l1 51 50,bn 52 .lss 49 51] [2,4,5,6,7,8,9,10,52] (cs 52 (rn [fa 53 1 5,jn (.store 1 (.t 53) kT)] [2,4,5,6,7,8,9,10]))) (sr [mv 54 10,fa 55 1 9,l1 56 55,fa 57 0 9,l1 58 57,bn 59 .sub 56 58,bn 60 .add 54 59,mv 10 60] [2,4,5,6,7,8,10] (sr [fa 61 2 5,l1 62 61,mv 63 10,jj 64 (.max [(.t 62),(.t 63)]),fa 65 2 5,st 1 65 64] [2,4,5,6,7,8,10] (sr [la 66 4 2,mv 67 8,cl 68 164 [66,67],ls 69 68,mx 70 (kk 0)] [2,4,5,6,7,10,68,69,70] (.block 2 (.loop F139l1))))))))))))
def F139l0:PC:=F139l0x
theorem qe2:run C q F139l0 fr σ = run C q F139l0x fr σ := rfl
def F139:PFun:=pf 2 [.cell 4 true 3] (sr [bx 2 0,jj 4 (.alloc [(.lit (.bool false)),(.lit (.bool false)),zN])] [1,2,4] (sr [jj 5 (.alloc [(.lit (.bool false)),(.lit (.bool false)),zN])] [1,2,4,5] (sr [fa 13 0 2,l1 14 13,ls 15 14,jj 16 (.mkslice false [zN] 8 (.t 15) (.t 15)),mv 6 16] [1,2,4,5,6] (sr [mv 17 6,mv 18 1,jj 19 (.indexAddr 1 (.t 17) (.t 18)),jn (.store 1 (.t 19) (kk 1))] [1,2,4,5,6] (.seq (sr [mv 20 1,jj 21 (.bsliceO 1 1 [zN] [(0,1,(.t 20))]),mv 7 21] [2,4,5,6,7] (.block 0 (.loop F139l0))) (sr [la 107 3 5,st 3 4 107] [4] .ret))))))
def F140:PFun:=pf 1 [.tmp 2] (sr [bx 1 0,mx 2 kF] [1] (sr [fa 3 1 1,l1 4 3,jj 5 (.un .not (.t 4)),mv 6 5,jt 7 6 (.fieldAddr 2 (.t 1)),jt 8 6 (.load false 1 (.t 7)),jt 9 6 (.bin .leq (.t 8) (kk 16)),jj 10 (.pick (.t 6) (.t 9) kF),mv 2 10] [2] .ret))
def F147:PFun:=pf 2 [] (sr [bx 3 1] [0,3] (sr [fa 4 0 3,l1 5 4] [0,3,5] (.block 0 (.seq (sr [bk 10 .eql 5 8,mv 9 10] [0,3,5,9] (.cond (.t 9) .skip (rn [bk 11 .eql 5 9,mv 9 11] [0,3,5,9]))) (.cond (.t 9) (rn [mv 12 0,fa 13 1 3,l1 14 13,jj 15 (.call 148 [(.t 12),(kk 1),(.t 14)])] []) (sr [bk 17 .eql 5 10,mv 16 17] [0,3,5,16] (.cond (.t 16) (.region (some []) [mv 18 0,mv 19 0,nc 20 19,fa 21 1 20,l1 22 21,fa 23 2 3,l1 24 23,jj 25 (.lookup .s zN (.t 22) (.t 24) false),jj 26 (.call 148 [(.t 18),(kk 2),(.t 25)])] [] [8]) (sr [bk 28 .eql 5 11,mv 27 28] [0,3,5,27] (.cond (.t 27) (sr [mv 29 0,la 30 4 3,jj 31 (.call 165 [(.t 29),(.t 30),(kk 0)])] [0,3] (rn [mv 32 0,fa 33 2 3,l1 34 33,cl 35 134 [34],jj 36 (.call 148 [(.t 32),(kk 4),(.t 35)])] [])) (sr [bk 38 .eql 5 12,mv 37 38] [0,3,5,37] (.cond (.t 37) (rn [mv 39 0,la 40 4 3,cl 41 166 [39,40]] []) (sr [bk 43 .eql 5 13,mv 42 43] [0,3,5,42] (.cond (.t 42) (rn [mv 44 0,la 45 4 3,cl 46 167 [44,45]] []) (sr [bk 48 .eql 5 14,mv 47 48] [0,3,47] (.cond (.t 47) (rn [mv 49 0,la 50 4 3,cl 51 168 [49,50]] []) (rn [mv 6 0,la 7 4 3,cl 8 169 [6,7]] []))))))))))))))))
def F148:PFun:=pf 3 [.tmp 6] (sr [mx 6 (kk 0)] [0,1,2] (sr [mv 7 0,mv 8 0,nc 9 8,fa 10 0 9,l1 11 10,mv 12 1,mv 13 2,jj 14 (.build [zN,zN] [(0,1,(.t 12)),(1,1,(.t 13))]),jj 15 (.bsliceO 1 2 [zN,zN] [(0,2,(.t 14))]),jj 16 (.appendO 2 16 (.t 11) (.t 15)),nc 17 7,fa 18 0 17,st 1 18 16] [0] (sr [mv 19 0,nc 20 19,fa 21 0 20,l1 22 21,ls 23 22,bk 24 .sub 23 1,mv 6 24] [6] .ret)))
def F164:PFun:=pf 2 [.tmp 4] (sr [bx 2 0,jj 4 (.mov (.c (.slice none 0 0)))] [1,2] (.seq (sr [fa 6 0 2,l1 7 6,mv 8 1,jj 9 (.indexAddr 2 (.t 7) (.t 8)),la 10 2 9,jj 5 (.alloc [zN,zN]),st 2 5 10] [1,5] (sr [fa 11 0 5,l1 12 11] [1,5,12] (.block 0 (sr [bk 14 .eql 12 21,mv 13 14] [1,5,12,13] (.cond (.t 13) (sr [jj 4 (.mov (.c (.slice none 0 0)))] [4] .ret) (sr [bk 16 .eql 12 18,mv 15 16] [1,5,12,15] (.cond (.t 15) (sr [fa 17 1 5,l1 18 17,jj 19 (.bslice 1 [zN] [(0,1,(.t 18))]),mv 4 19] [4] .ret) (sr [bk 21 .eql 12 19,mv 20 21] [1,5,20] (cs 20 (sr [mv 22 1,bk 23 .add 22 1,fa 24 1 5,l1 25 24,jj 26 (.bslice 2 [zN,zN] [(0,1,(.t 23)),(1,1,(.t 25))]),mv 4 26] [4] .ret)))))))))) (sr [mv 27 1,bk 28 .add 27 1,jj 29 (.bslice 1 [zN] [(0,1,(.t 28))]),mv 4 29] [4] .ret)))
def F165:PFun:=pf 3 [] (sr [bx 4 1] [0,2,4] (sr [mv 6 2,fa 7 3 4,l1 8 7,ls 9 8,bn 10 .lss 6 9] [0,2,4,10] (cs 10 (rn [mv 11 0,fa 12 3 4,l1 13 12,mv 14 2,jj 15 (.indexAddr 4 (.t 13) (.t 14)),la 16 4 15,cl 17 147 [11,16]] []))))
def F166:PFun:=pf 2 [] (sr [bx 3 1] [0,3] (sr [fa 4 2 3,l1 5 4] [0,5] (.block 0 (sr [jj 9 (.bin .eql (.t 5) (ks [115,101,108,102])),mv 8 9] [0,5,8] (.cond (.t 8) (rn [mv 10 0,jj 11 (.call 148 [(.t 10),(kk 6),(kk 0)])] []) (sr [jj 13 (.bin .eql (.t 5) (ks [111,116,104,101,114])),mv 12 13] [0,12] (.cond (.t 12) (rn [mv 14 0,jj 15 (.call 148 [(.t 14),(kk 7),(kk 0)])] []) (rn [mv 6 0,jj 7 (.call 148 [(.t 6),(kk 8),(kk 0)])] []))))))))
def F167:PFun:=pf 2 [] (sr [bx 3 1] [0,3] (sr [mv 4 0,la 5 4 3,jj 6 (.call 165 [(.t 4),(.t 5),(kk 0)])] [0,3] (sr [fa 7 2 3,l1 8 7,jj 9 (.bin .eql (.t 8) (ks [45]))] [0,9] (.cond (.t 9) (rn [mv 10 0,jj 11 (.call 148 [(.t 10),(kk 13),(kk 0)])] []) (rn [mv 12 0,jj 13 (.call 148 [(.t 12),(kk 17),(kk 0)])] [])))))
def F168:PFun:=pf 2 [] (sr [bx 2 0,bx 3 1] [2,3] (sr [fa 4 2 3,l1 5 4] [2,3,5] (.block 0 (sr [jj 18 (.bin .eql (.t 5) (ks [38,38])),mv 17 18] [2,3,5,17] (.cond (.t 17) (rn [l1 19 2,jj 20 (.mkfn 181 [] [(.t 2),(.t 3)]),jj 21 (.mkfn 182 [] [(.t 2),(.t 3)]),jj 22 (.mkfn 183 [] [(.t 2)]),cl 23 180 [19,20,21,22]] []) (sr [jj 25 (.bin .eql (.t 5) (ks [124,124])),mv 24 25] [2,3,5,24] (.cond (.t 24) (rn [l1 26 2,jj 27 (.mkfn 184 [] [(.t 2),(.t 3)]),jj 28 (.mkfn 185 [] [(.t 2)]),jj 29 (.mkfn 186 [] [(.t 2),(.t 3)]),cl 30 180 [26,27,28,29]] []) (.seq (sr [jj 32 (.bin .eql (.t 5) (ks [62])),mv 31 32] [2,3,5,31] (.cond (.t 31) .skip (rn [jj 33 (.bin .eql (.t 5) (ks [62,61])),mv 31 33] [2,3,5,31]))) (.cond (.t 31) (sr [l1 34 2,la 35 4 3,jj 36 (.call 165 [(.t 34),(.t 35),(kk 1)])] [2,3] (sr [l1 37 2,la 38 4 3,jj 39 (.call 165 [(.t 37),(.t 38),(kk 0)])] [2,3] (.region (some []) [⟨some 40,.load false 1 (.t 2),none,[3]⟩,fa 41 2 3,l1 42 41,cl 43 187 [42],jj 44 (.call 148 [(.t 40),(.t 43),(kk 0)])] [] [3,4]))) (sr [jj 46 (.bin .eql (.t 5) (ks [33,61])),mv 45 46] [2,3,45] (.cond (.t 45) (sr [l1 47 2,la 48 4 3,jj 49 (.call 165 [(.t 47),(.t 48),(kk 0)])] [2,3] (sr [l1 50 2,la 51 4 3,jj 52 (.call 165 [(.t 50),(.t 51),(kk 1)])] [2] (sr [l1 53 2,jj 54 (.call 148 [(.t 53),(kk 16),(kk 0)])] [2] (rn [l1 55 2,jj 56 (.call 148 [(.t 55),(kk 17),(kk 0)])] [])))) (sr [l1 6 2,la 7 4 3,jj 8 (.call 165 [(.t 6),(.t 7),(kk 0)])] [2,3] (sr [l1 9 2,la 10 4 3,jj 11 (.call 165 [(.t 9),(.t 10),(kk 1)])] [2,3] (.region (some []) [⟨some 12,.load false 1 (.t 2),none,[3]⟩,fa 13 2 3,l1 14 13,cl 15 187 [14],jj 16 (.call 148 [(.t 12),(.t 15),(kk 0)])] [] [3,4]))))))))))))))
@[simp] def F169l0x:PC:=(sr [bn 66 .lss 65 64] [2,3,64,65,66] (.seq (.cond (.t 66) .skip (.exit 1)) (.seq (.block 2 (sr [mv 67 65,mv 4 67] [2,3,4,64,65] (rn [l1 68 2,la 69 4 3,mv 70 4,cl 71 165 [68,69,70]] [2,3,64,65]))) (rn [bk 72 .add 65 1,mv 65 72] [2,3,64,65]))))
def F169l0:PC:=F169l0x
theorem qde:run C q F169l0 fr σ = run C q F169l0x fr σ := rfl
def F169:PFun:=pf 2 [] (sr [bx 2 0,bx 3 1] [2,3] (sr [fa 5 0 3,l1 6 5] [2,3,6] (.block 0 (sr [bk 8 .eql 6 1,mv 7 8] [2,3,6,7] (.cond (.t 7) (sr [l1 9 2,la 10 4 3,jj 11 (.call 165 [(.t 9),(.t 10),(kk 0)])] [2,3] (.region (some []) [l1 12 2,l1 13 2,nc 14 13,fa 15 1 14,l1 16 15,fa 17 2 3,l1 18 17,jj 19 (.lookup .s zN (.t 16) (.t 18) false),jj 20 (.call 148 [(.t 12),(kk 3),(.t 19)])] [] [8])) (sr [bk 22 .eql 6 2,mv 21 22] [2,3,6,21] (.cond (.t 21) (sr [l1 23 2,la 24 4 3,jj 25 (.call 165 [(.t 23),(.t 24),(kk 0)])] [2,3] (sr [l1 26 2,la 27 4 3,jj 28 (.call 165 [(.t 26),(.t 27),(kk 1)])] [2,3] (.region (some []) [⟨some 29,.load false 1 (.t 2),none,[3]⟩,fa 30 2 3,l1 31 30,cl 32 134 [31],jj 33 (.call 148 [(.t 29),(kk 5),(.t 32)])] [] [3,4]))) (sr [bk 35 .eql 6 3,mv 34 35] [2,3,6,34] (.cond (.t 34) (rn [l1 36 2,jj 37 (.mkfn 188 [] [(.t 2),(.t 3)]),jj 38 (.mkfn 189 [] [(.t 2),(.t 3)]),jj 39 (.mkfn 190 [] [(.t 2),(.t 3)]),cl 40 180 [36,37,38,39]] []) (sr [bk 42 .eql 6 4,mv 41 42] [2,3,6,41] (.cond (.t 41) (rn [l1 43 2,la 44 4 3,cl 45 191 [43,44]] []) (sr [bk 47 .eql 6 5,mv 46 47] [2,3,6,46] (.cond (.t 46) (sr [l1 48 2,la 49 4 3,jj 50 (.call 165 [(.t 48),(.t 49),(kk 0)])] [2,3] (sr [l1 51 2,la 52 4 3,jj 53 (.call 165 [(.t 51),(.t 52),(kk 1)])] [2] (rn [l1 54 2,jj 55 (.call 148 [(.t 54),(kk 20),(kk 0)])] []))) (sr [bk 57 .eql 6 6,mv 56 57] [2,3,6,56] (.cond (.t 56) (rn [l1 58 2,jj 59 (.call 148 [(.t 58),(kk 21),(kk 0)])] []) (sr [bk 61 .eql 6 7,mv 60 61] [2,3,60] (cs 60 (sr [fa 62 3 3,l1 63 62,ls 64 63,mx 65 (kk 0)] [2,3,64,65] (.block 1 (.loop F169l0))))))))))))))))))))
def F180:PFun:=⟨4,[],sr [mv 8 1,jj 9 (.callv (.t 8) [])] [1000000,0,2,3] (sr [mv 10 0,mv 11 2,cl 12 200 [10,11],jj 1000000 (.defer (.t 12) [])] [1000000,3] (rn [mv 13 3,jj 14 (.callv (.t 13) [])] [1000000])),false,true,false⟩
def F181:PFun:=pf 2 [] (rn [l1 2 0,la 3 4 1,jj 4 (.call 165 [(.t 2),(.t 3),(kk 0)])] [])
def F182:PFun:=pf 2 [] (rn [l1 2 0,la 3 4 1,jj 4 (.call 165 [(.t 2),(.t 3),(kk 1)])] [])
def F183:PFun:=pf 1 [] (rn [l1 1 0,jj 2 (.call 148 [(.t 1),(kk 1),(kk 0)])] [])
def F184:PFun:=pf 2 [] (rn [l1 2 0,la 3 4 1,jj 4 (.call 165 [(.t 2),(.t 3),(kk 0)])] [])
def F185:PFun:=pf 1 [] (rn [l1 1 0,jj 2 (.call 148 [(.t 1),(kk 1),(kk 1)])] [])
def F186:PFun:=pf 2 [] (rn [l1 2 0,la 3 4 1,jj 4 (.call 165 [(.t 2),(.t 3),(kk 1)])] [])
def F187:PFun:=pf 1 [.tmp 2] (sr [mx 2 (kk 0)] [0] (.seq (sr [mv 3 0] [3] (.block 0 (sr [jj 5 (.bin .eql (.t 3) (ks [43])),mv 4 5] [3,4] (.cond (.t 4) (sr [mx 2 (kk 9)] [2] .ret) (sr [jj 7 (.bin .eql (.t 3) (ks [45])),mv 6 7] [3,6] (.cond (.t 6) (sr [mx 2 (kk 10)] [2] .ret) (sr [jj 9 (.bin .eql (.t 3) (ks [42])),mv 8 9] [3,8] (.cond (.t 8) (sr [mx 2 (kk 11)] [2] .ret) (sr [jj 11 (.bin .eql (.t 3) (ks [47])),mv 10 11] [3,10] (.cond (.t 10) (sr [mx 2 (kk 12)] [2] .ret) (.seq (sr [jj 13 (.bin .eql (.t 3) (ks [60])),mv 12 13] [3,12] (.cond (.t 12) .skip (rn [jj 14 (.bin .eql (.t 3) (ks [62])),mv 12 14] [3,12]))) (.cond (.t 12) (sr [mx 2 (kk 14)] [2] .ret) (.seq (sr [jj 16 (.bin .eql (.t 3) (ks [60,61])),mv 15 16] [3,15] (.cond (.t 15) .skip (rn [jj 17 (.bin .eql (.t 3) (ks [62,61])),mv 15 17] [15]))) (cs 15 (sr [mx 2 (kk 15)] [2] .ret))))))))))))))) (sr [mx 2 (kk 16)] [2] .ret)))
def F188:PFun:=pf 2 [] (rn [l1 2 0,la 3 4 1,jj 4 (.call 165 [(.t 2),(.t 3),(kk 0)])] [])
def F189:PFun:=pf 2 [] (rn [l1 2 0,la 3 4 1,jj 4 (.call 165 [(.t 2),(.t 3),(kk 1)])] [])
def F190:PFun:=pf 2 [] (rn [l1 2 0,la 3 4 1,jj 4 (.call 165 [(.t 2),(.t 3),(kk 2)])] [])
def F191:PFun:=⟨2,[],sr [bx 3 1] [1000000,0,3] (sr [mv 5 0,nc 6 5,fa 7 0 6,l1 8 7,ls 9 8,mv 4 9] [1000000,0,3,4] (sr [mv 10 0,la 11 4 3,jj 12 (.call 165 [(.t 10),(.t 11),(kk 0)])] [1000000,0,3,4] (sr [mv 13 0,jj 14 (.call 201 [(.t 13),(kk 19)]),jj 1000000 (.defer (.t 14) [])] [1000000,0,3,4] (sr [mv 15 0,la 16 4 3,jj 17 (.call 165 [(.t 15),(.t 16),(kk 1)])] [1000000,0,4] (rn [mv 18 0,mv 19 4,jj 20 (.call 148 [(.t 18),(kk 18),(.t 19)])] [1000000]))))),false,true,false⟩
def F200:PFun:=⟨2,[.tmp 4],sr [jj 4 (.mov (.c .nilFunc))] [1000000,0,1] (sr [mv 6 0,jj 7 (.call 201 [(.t 6),(kk 19)]),mv 5 7] [1000000,0,1,5] (sr [mv 8 5,jj 1000000 (.defer (.t 8) [])] [1000000,0,1] (sr [mv 9 1,jj 10 (.callv (.t 9) [])] [1000000,0] (sr [mv 11 0,jj 12 (.call 201 [(.t 11),(kk 18)]),mv 4 12] [1000000,4] .ret)))),false,true,false⟩
def F201:PFun:=pf 2 [.tmp 4] (sr [bx 2 0,jj 4 (.mov (.c .nilFunc))] [1,2] (sr [l1 6 2,mv 7 1,jj 8 (.call 148 [(.t 6),(.t 7),(kk 0)]),jj 5 (.alloc [zN]),st 1 5 8] [2,5] (sr [jj 9 (.mkfn 204 [] [(.t 2),(.t 5)]),mv 4 9] [4] .ret)))
def F204:PFun:=pf 2 [] (.region (some []) [l1 2 0,nc 3 2,fa 4 0 3,l1 5 4,l1 6 1,l1 7 0,nc 8 7,fa 9 0 8,l1 10 9,ls 11 10,jj 12 (.indexAddr 2 (.t 5) (.t 6)),fa 13 1 12,st 1 13 11] [])
end Go.Pm.F
end
section
namespace Go.Pm.F
variable(C:Task->Option Res)(q:Nat)(fr:Fr)(σ : S)
@[simp] def F161l0x:PC:=(.seq (sr [mv 6 4,bk 7 .lss 6 8] [0,3,4,7] (.cond (.t 7) .skip (.exit 0))) (.seq (.block 1 (sr [mv 10 3,mv 11 4,jj 12 (.indexAddr 1 (.t 10) (.t 11)),l1 13 12,mv 14 0,bn 15 .eql 13 14] [0,3,4,15] (cs 15 (sr [mv 16 4,mv 2 16] [2] .ret)))) (rn [mv 8 4,bk 9 .add 8 1,mv 4 9] [0,3,4])))
def F161l0:PC:=F161l0x
theorem qgw:run C q F161l0 fr σ = run C q F161l0x fr σ := rfl
def F161:PFun:=pf 1 [.tmp 2] (sr [mx 2 (kk 0)] [0] (sr [jj 5 (.bslice 8 [eN,eN,eN,eN,eN,eN,eN,eN] [(0,1,(ks [120])),(1,1,(ks [121])),(2,1,(ks [118,120])),(3,1,(ks [118,121])),(4,1,(ks [97])),(5,1,(ks [98])),(6,1,(ks [104,105,116])),(7,1,(ks [115,116,105,108,108]))]),mv 3 5] [0,3] (.seq (sr [mx 4 (kk 0)] [0,3,4] (.block 0 (.loop F161l0))) (sr [mx 2 (kk (-1))] [2] .ret))))
end Go.Pm.F
end
section
namespace Go.Pm.F
def qae:Nat->Option PFun
 |15=>some F15
 |17=>some F17
 |32=>some F32
 |38=>some F38
 |39=>some F39
 |131=>some F131
 |134=>some F134
 |136=>some F136
 |139=>some F139
 |140=>some F140
 |147=>some F147
 |148=>some F148
 |161=>some F161
 |164=>some F164
 |165=>some F165
 |166=>some F166
 |167=>some F167
 |168=>some F168
 |169=>some F169
 |176=>some F176
 |177=>some F177
 |178=>some F178
 |179=>some F179
 |180=>some F180
 |181=>some F181
 |182=>some F182
 |183=>some F183
 |184=>some F184
 |185=>some F185
 |186=>some F186
 |187=>some F187
 |188=>some F188
 |189=>some F189
 |190=>some F190
 |191=>some F191
 |192=>some F192
 |193=>some F193
 |200=>some F200
 |201=>some F201
 |204=>some F204
 |_=>none
theorem qga : ∀ f pf,qaD f=some pf->qae f=some pf:=fun f pf h=>by
 unfold qaD at h
 split at h<;>first | (cases h; rfl) | cases h
end Go.Pm.F
end
namespace Go.Pm
section
def Bop.w:Bop->Nat
 |.and | .or=>11
 |.lt | .le | .gt | .ge | .eq | .ne=>7
 |_=>5
def E.cost:E->Nat
 |.int n=>(qhZ n.toNat).length+1
 |.bool n=>if n=0 then 6 else 5
 |.var s=>s.size+1
 |.name s=>s.size+1
 |.field _ s e=>s.size+5+e.cost
 |.un _ _ e=>6+e.cost
 |.bin _ o a b=>o.str.size+o.w+(a.cost+b.cost)
def Ss.cost:Ss->Nat
 |.nil=>0
 |.assign _ s e r=>s.size+5+e.cost+r.cost
 |.store _ s a b r=>s.size+9+(a.cost+b.cost)+r.cost
 |.effect _ a b r=>11+(a.cost+b.cost)+r.cost
 |.stop r=>7+r.cost
 |.cond w _ c b r=>(if w then 6 else 3)+c.cost+b.cost+r.cost
 |.block _ b r=>4+b.cost+((if qlH r then 5 else 0)+r.cost)
def Co(c0:Int)(cost:Nat)(xs:List Int)(i i':Int):Prop:=i<=i'/\(i'<=i\/i'<=xs.length)/\(cost:Int)<=c0+24*(i'-i)
end
section
open F
theorem qrY{n m:Int}(h1:I64 n)(hm:1<=m):Z qae (.call 17 [.int n,.int m] [])=some (.ret (.int (around n m)) []):=by
 refine qaa (pf:=F17) rfl rfl ?_
 unfold around
 have hm0 : ¬ m=0:=by omega
 by_cases h:n<0
 ·have w1:IntKind.i64.wrap (n+1)=n+1:=qaf _ (by unfold I64 at h1; omega)
  have w2:IntKind.i64.wrap (-(n+1)) = -(n+1):=qaf _ (by unfold I64 at h1; omega)
  simp[F17,h,hm0,w1,w2]
 ·simp[F17,h,hm0]
abbrev qsU(v:D)(i:Int):S:=[.cells [.dat v,.int i]]
def qaO(xs:List Int)(i m:Int):Int:=if (xs.length:Int)<=i then 0 else (around (xs.getD i.toNat 0) 1000000).tmod m
def qaR(xs:List Int)(i:Int):Int:=if (xs.length:Int)<=i then i else i+1
structure Bnd(v:D)(xs:List Int)(B:Int):Prop where
 row:RowV v xs
 len:(xs.length:Int)<=B
 big:B<=9223372036854775807
theorem qa0{v:D}{xs:List Int}{i B:Int}(h:0<=i/\i<=B)(hl:Bnd v xs B):0<=qaR xs i/\qaR xs i<=B:=by
 have:=hl.len
 unfold qaR; split<;>omega
theorem qbe(xs:List Int)(i:Int):(qaR xs i=i+1/\i<xs.length)\/(qaR xs i=i /\ ∀ m,qaO xs i m=0):=by
 unfold qaR qaO
 split
 ·exact .inr ⟨rfl,fun m=>rfl⟩
 ·exact .inl ⟨rfl,by omega⟩
theorem qcd{xs:List Int}{i m:Int}(hx : ∀ x∈xs,I64 x)(hm:1<=m):0<=qaO xs i m/\qaO xs i m<m:=by
 unfold qaO
 split
 ·omega
 ·have h0:I64 (xs.getD i.toNat 0):=by
   rw[Wn]
   cases h:xs[i.toNat]? with
   |none=>simp[I64]
   |some y=>exact hx _ (WK h)
  have:=around_lt (m:=1000000) h0 (by omega)
  exact qaL this.1 hm
theorem qcw {v:D} {xs:List Int} {i m B:Int} (hx : ∀ x∈xs,I64 x) (hl:Bnd v xs B) (hi:0<=i/\i<=B) (hm:1<=m) :
  Z qae (.call 136 [.ptr 0 0,.int m] (qsU v i))=some (.ret (.int (qaO xs i m)) (qsU v (qaR xs i))):=by
 refine qaa (pf:=F136) rfl rfl ?_
 have hm0:m≠0:=by omega
 have hb:=hl.len
 have hb2:=hl.big
 rcases hl.row with ⟨o,rfl,rfl⟩|rfl
 ·have h:(0:Int)<=i:=hi.1
  simp[F136,h,qaO,qaR,V.len]
 by_cases h:(xs.length:Int)<=i
 ·simp[F136,h,qaO,qaR,V.len]
 ·have a1:=qcG (qan xs) xs.length false i hi.1 (by omega)
  have hlt:i.toNat<xs.length:=by omega
  have a2:=qhC xs i.toNat hlt
  have a3:=qrY (n:=xs[i.toNat]) (m:=1000000) (hx _ (Ya hlt)) (by omega)
  have w1:=qaf (i+1) (by omega)
  simp[F136,w1,h,qaO,qaR,V.len,a1,a2,a3,hm0,hlt]
section
variable(k:Int)(s:ByteArray)(a b a' b':Int)(t t':ByteArray)(d d':D)
theorem quR (h1:V.one (.dat d)=true) (h2:V.cells (.dat d)=[.dat d]) :
  Z qae (.call 176 [.int k,.str s,.dat (.agg [.lit (.int .i64 a),.lit (.int .i64 b),.lit (.string t),d])] []) =
   some (.ret (.dat (.agg [.lit (.int .i64 k),.lit (.int .i64 0),.lit (.string s),.sl [.lit (.int .i64 a),.lit (.int .i64 b),.lit (.string t),d] 1 true])) []):=by
 refine qaa (pf:=F176) rfl rfl ?_
 simp[F176,h1,h2]
theorem quS (h1:V.one (.dat d)=true) (h2:V.cells (.dat d)=[.dat d]) (h3:V.one (.dat d')=true) (h4:V.cells (.dat d')=[.dat d']) :
  Z qae (.call 178 [.int k,.str s,.dat (.agg [.lit (.int .i64 a),.lit (.int .i64 b),.lit (.string t),d]),.dat (.agg [.lit (.int .i64 a'),.lit (.int .i64 b'),.lit (.string t'),d'])] []) =
   some (.ret (.dat (.agg [.lit (.int .i64 k),.lit (.int .i64 0),.lit (.string s),.sl [.lit (.int .i64 a),.lit (.int .i64 b),.lit (.string t),d,.lit (.int .i64 a'),.lit (.int .i64 b'),.lit (.string t'),d'] 2 true])) []):=by
 refine qaa (pf:=F178) rfl rfl ?_
 simp[F178,h1,h2,h3,h4,Wa]
end
def quT:List ByteArray:=[⟨#[105]⟩,⟨#[110]⟩,⟨#[115,117,109]⟩,⟨#[118,51]⟩]
def qrZ:List ByteArray:=quT++[⟨#[118]⟩]
def qiq:List ByteArray:=[⟨#[115,101,108,102]⟩,⟨#[111,116,104,101,114]⟩,⟨#[116,105,99,107]⟩]
def qir:List ByteArray:=[⟨#[120]⟩,⟨#[121]⟩,⟨#[118,120]⟩,⟨#[118,121]⟩,⟨#[97]⟩,⟨#[98]⟩]
def qdB:List ByteArray:=qir++[⟨#[104,105,116]⟩,⟨#[115,116,105,108,108]⟩]
def E.fine:E->Prop
 |.int n=>0<=n/\n<=2147483647
 |.bool n=>n=0\/n=1
 |.var s=>s∈qrZ
 |.name s=>s∈qiq
 |.field _ s e=>s∈qdB/\e.fine/\e.ty=1
 |.un _ neg e=>e.fine/\e.ty=if neg then 1 else 2
 |.bin _ o a b=>a.fine/\b.fine/\a.ty=o.opd/\b.ty=o.opd
def E.dp:E->Nat
 |.field _ _ e=>e.dp+1
 |.un _ _ e=>e.dp+1
 |.bin _ _ a b=>max a.dp b.dp+1
 |_=>0
def mxs:Nat->Nat
 |0=>1
 |n+1=>2*mxs n+1
theorem qid(n:Nat):1<=mxs n:=by cases n<;>simp[mxs]
def GIb(B:Int)(v:D)(xs:List Int)(d i:Int):Prop := ∃ (e:E) (i':Int),(e.fine/\e.ty=1/\e.dp<=d.toNat/\e.size<=mxs d.toNat/\Co 2 e.cost xs i i')/\(0<=i'/\i'<=B) /\
 Z qae (.call 177 [.ptr 0 0,.int d] (qsU v i))=some (.ret e.node (qsU v i'))
def GBb(B:Int)(v:D)(xs:List Int)(d i:Int):Prop := ∃ (e:E) (i':Int),(e.fine/\e.ty=2/\e.dp<=d.toNat+1/\e.size<=mxs (d.toNat+1)/\Co 6 e.cost xs i i')/\(0<=i'/\i'<=B) /\
 Z qae (.call 179 [.ptr 0 0,.int d] (qsU v i))=some (.ret e.node (qsU v i'))
theorem qlY{l:List ByteArray}{p:Int}(h:0<=p/\p<l.length) : ∃ s∈l,qaj (qbJ l) p.toNat 1=some [.lit (.string s)]:=
 ⟨_,Ya (by omega:p.toNat<l.length),qge l p.toNat (by omega)⟩
def nums:List Int:=[0,1,2,3,7,100,1024,2147483647]
def qvy:List Bop:=[.add,.sub,.mul,.div]
theorem quU{p:Int}(h:0<=p/\p<4) : ∃ o∈qvy,qaj (qbJ [⟨#[43]⟩,⟨#[45]⟩,⟨#[42]⟩,⟨#[47]⟩]) p.toNat 1=some [.lit (.string (Bop.str o))]:=by
 obtain rfl|rfl|rfl|rfl:p=0\/p=1\/p=2\/p=3:=by omega
 ·exact⟨.add,by simp[qvy],rfl⟩
 ·exact⟨.sub,by simp[qvy],rfl⟩
 ·exact⟨.mul,by simp[qvy],rfl⟩
 ·exact⟨.div,by simp[qvy],rfl⟩
section
variable{v:D}{xs:List Int}{i d B:Int}(hx : ∀ x∈xs,I64 x)(hl:Bnd v xs B)(hi:0<=i/\i<=B)
include hx hl hi
def qjb(xs:List Int)(d i:Int):Int:=if d<=0 then (qaO xs i 12).tmod 6 else qaO xs i 12
theorem qpQ(h:qjb xs d i=0\/qjb xs d i=1):GIb B v xs d i:=by
 have n1:=qcw (i:=i) (m:=12) hx hl hi (by omega)
 have r1:=qa0 hi hl
 have n2:=qcw (i:=qaR xs i) (m:=8) hx hl r1 (by omega)
 have r2:=qa0 r1 hl
 have p:=qcd (i:=qaR xs i) (m:=8) hx (by omega)
 have hat:=qcG (qan nums) 8 true (qaO xs (qaR xs i) 8) p.1 (by omega)
 have hc:=qhC nums (qaO xs (qaR xs i) 8).toNat (by simp[nums]; omega)
 have hm : ∀ n∈nums,0<=n/\n<=2147483647:=by decide
 have hn:=hm _ (Ya (l:=nums) (n:=(qaO xs (qaR xs i) 8).toNat) (by simp[nums]; omega))
 have hlen:(qaO xs (qaR xs i) 8).toNat<nums.length:=by simp[nums]; omega
 have hco:Co 2 (E.cost (.int (nums[(qaO xs (qaR xs i) 8).toNat]'hlen))) xs i (qaR xs (qaR xs i)):=by
  have hcs : ∀ n∈nums,E.cost (.int n)<=11:=by decide +kernel
  have h11:=hcs _ (Ya hlen)
  have h0 : ∀ (k:Nat) (hk:k<nums.length),k=0->E.cost (.int (nums[k]'hk))=2:=fun k hk e=>by subst e; exact (by decide +kernel:E.cost (.int 0)=2)
  have hz:=h0 _ hlen
  unfold Co
  rcases qbe xs i with ⟨e1,l1⟩|⟨e1,l1⟩
  ·rcases qbe xs (qaR xs i) with ⟨e2,l2⟩|⟨e2,l2⟩<;>omega
  ·have e3:qaO xs (qaR xs i) 8=0:=by rw[e1]; exact l1 8
   have e4:=hz (by rw[e3]; rfl)
   rcases qbe xs (qaR xs i) with ⟨e2,l2⟩|⟨e2,l2⟩<;>omega
 generalize nums[(qaO xs (qaR xs i) 8).toNat]'_=vv at hc hn hco
 simp only[nums,qan,List.map] at hat hc
 refine⟨.int vv,_,⟨hn,rfl,Yk _,qid _,hco⟩,r2,?_⟩
 refine qaa (pf:=F177) rfl rfl ?_
 unfold qjb at h
 by_cases hd:d<=0
 ·rw[if_pos hd] at h
  rcases h with h|h<;>simp[F177,n1,n2,hd,h,hat,hc]
 ·rw[if_neg hd] at h
  rcases h with h|h<;>simp[F177,n1,n2,hd,h,hat,hc]
theorem qpR(h:qjb xs d i=2\/qjb xs d i=3):GIb B v xs d i:=by
 have n1:=qcw (i:=i) (m:=12) hx hl hi (by omega)
 have r1:=qa0 hi hl
 have n2:=qcw (i:=qaR xs i) (m:=4) hx hl r1 (by omega)
 have r2:=qa0 r1 hl
 have p:=qcd (i:=qaR xs i) (m:=4) hx (by omega)
 have hat:=qcG (qbJ quT) 4 true (qaO xs (qaR xs i) 4) p.1 (by omega)
 obtain⟨s,hs,hc⟩:=qlY (l:=quT) (p:=qaO xs (qaR xs i) 4) (by simpa [quT] using p)
 simp only[quT,qbJ,List.map] at hat hc
 have hsel:qaO xs i 12≠0:=fun h0=>by
  unfold qjb at h
  rw[h0] at h
  split at h<;>simp at h
 have hco:Co 2 (E.cost (.var s)) xs i (qaR xs (qaR xs i)):=by
  have hcs : ∀ s∈quT,s.size<=5:=by decide
  have h5:=hcs s hs
  show _/\_/\((s.size+1:Nat):Int)<=_
  rcases qbe xs i with ⟨e1,l1⟩|⟨e1,l1⟩
  ·rcases qbe xs (qaR xs i) with ⟨e2,l2⟩|⟨e2,l2⟩<;>omega
  ·exact absurd (l1 12) hsel
 refine⟨.var s,_,⟨List.mem_append_left _ hs,rfl,Yk _,qid _,hco⟩,r2,?_⟩
 refine qaa (pf:=F177) rfl rfl ?_
 unfold qjb at h
 by_cases hd:d<=0
 ·rw[if_pos hd] at h
  rcases h with h|h<;>simp[F177,n1,n2,hd,h,hat,hc]
 ·rw[if_neg hd] at h
  rcases h with h|h<;>simp[F177,n1,n2,hd,h,hat,hc]
theorem qm1(h:qjb xs d i=4\/qjb xs d i=5):GIb B v xs d i:=by
 have n1:=qcw (i:=i) (m:=12) hx hl hi (by omega)
 have r1:=qa0 hi hl
 have n2:=qcw (i:=qaR xs i) (m:=3) hx hl r1 (by omega)
 have r2:=qa0 r1 hl
 have p:=qcd (i:=qaR xs i) (m:=3) hx (by omega)
 have hat:=qcG (qbJ qiq) 3 true (qaO xs (qaR xs i) 3) p.1 (by omega)
 obtain⟨s,hs,hc⟩:=qlY (l:=qiq) (p:=qaO xs (qaR xs i) 3) (by simpa [qiq] using p)
 simp only[qiq,qbJ,List.map] at hat hc
 have hsel:qaO xs i 12≠0:=fun h0=>by
  unfold qjb at h
  rw[h0] at h
  split at h<;>simp at h
 have hco:Co 2 (E.cost (.name s)) xs i (qaR xs (qaR xs i)):=by
  have hcs : ∀ s∈qiq,s.size<=5:=by decide
  have h5:=hcs s hs
  show _/\_/\((s.size+1:Nat):Int)<=_
  rcases qbe xs i with ⟨e1,l1⟩|⟨e1,l1⟩
  ·rcases qbe xs (qaR xs i) with ⟨e2,l2⟩|⟨e2,l2⟩<;>omega
  ·exact absurd (l1 12) hsel
 refine⟨.name s,_,⟨hs,rfl,Yk _,qid _,hco⟩,r2,?_⟩
 refine qaa (pf:=F177) rfl rfl ?_
 unfold qjb at h
 by_cases hd:d<=0
 ·rw[if_pos hd] at h
  rcases h with h|h<;>simp[F177,n1,n2,hd,h,hat,hc]
 ·rw[if_neg hd] at h
  rcases h with h|h<;>simp[F177,n1,n2,hd,h,hat,hc]
theorem qpS(hd : ¬ d<=0)(hd2:d<=1000)(ih : ∀ j,0<=j/\j<=B->GIb B v xs (d-1) j)(h:qaO xs i 12=6\/qaO xs i 12=7):GIb B v xs d i:=by
 have n1:=qcw (i:=i) (m:=12) hx hl hi (by omega)
 have r1:=qa0 hi hl
 have n2:=qcw (i:=qaR xs i) (m:=8) hx hl r1 (by omega)
 have r2:=qa0 r1 hl
 have p:=qcd (i:=qaR xs i) (m:=8) hx (by omega)
 have hat:=qcG (qbJ qdB) 8 true (qaO xs (qaR xs i) 8) p.1 (by omega)
 obtain⟨s,hs,hc⟩:=qlY (l:=qdB) (p:=qaO xs (qaR xs i) 8) (by simpa [qdB,qir] using p)
 simp only[qdB,qir,qbJ,List.map,Wh,Wg] at hat hc
 obtain⟨e,i',h1,h2,h3⟩:=ih _ r2
 have o:=quR 11 s e.kind e.num e.str e.kids (by simp) (by simp)
 have w1:=qaf (d-1) (by omega)
 have ed:d.toNat=(d-1).toNat+1:=by omega
 have hco:Co 2 (E.cost (.field true s e)) xs i i':=by
  have hcs : ∀ s∈qdB,s.size<=5:=by decide
  have h5:=hcs s hs
  obtain⟨q1,q2,q3⟩:=h1.2.2.2.2
  show _/\_/\((s.size+5+e.cost:Nat):Int)<=_
  rcases qbe xs i with ⟨e1,l1⟩|⟨e1,l1⟩
  ·rcases qbe xs (qaR xs i) with ⟨e2,l2⟩|⟨e2,l2⟩<;>omega
  ·exact absurd (l1 12) (by omega)
 refine⟨.field true s e,i',⟨⟨hs,h1.1,h1.2.1⟩,by simp[h1.2.1],by rw[ed]; simp only[E.dp]; omega,by rw[ed]; simp only[mxs,qi7]; omega,hco⟩,h2,?_⟩
 refine qaa (pf:=F177) rfl rfl ?_
 rcases h with h|h<;>simp[F177,n1,n2,hd,h,hat,hc,h3,o,w1]
theorem quV(hd : ¬ d<=0)(hd2:d<=1000)(ih : ∀ j,0<=j/\j<=B->GIb B v xs (d-1) j)(h:qaO xs i 12=8):GIb B v xs d i:=by
 have n1:=qcw (i:=i) (m:=12) hx hl hi (by omega)
 have r1:=qa0 hi hl
 obtain⟨e,i',h1,h2,h3⟩:=ih _ r1
 have o:=quR 13 ⟨#[45]⟩ e.kind e.num e.str e.kids (by simp) (by simp)
 have w1:=qaf (d-1) (by omega)
 have ed:d.toNat=(d-1).toNat+1:=by omega
 have hco:Co 2 (E.cost (.un true true e)) xs i i':=by
  obtain⟨q1,q2,q3⟩:=h1.2.2.2.2
  show _/\_/\((6+e.cost:Nat):Int)<=_
  rcases qbe xs i with ⟨e1,l1⟩|⟨e1,l1⟩
  ·omega
  ·exact absurd (l1 12) (by omega)
 refine⟨.un true true e,i',⟨⟨h1.1,h1.2.1⟩,by simp[h1.2.1],by rw[ed]; simp only[E.dp]; omega,by rw[ed]; simp only[mxs,qlV]; omega,hco⟩,h2,?_⟩
 refine qaa (pf:=F177) rfl rfl ?_
 simp[F177,n1,hd,h,h3,o,w1,ustr]
theorem quW(hd : ¬ d<=0)(hd2:d<=1000)(ih : ∀ j,0<=j/\j<=B->GIb B v xs (d-1) j)(h:9<=qaO xs i 12):GIb B v xs d i:=by
 have n1:=qcw (i:=i) (m:=12) hx hl hi (by omega)
 have r1:=qa0 hi hl
 have n2:=qcw (i:=qaR xs i) (m:=4) hx hl r1 (by omega)
 have r2:=qa0 r1 hl
 have p:=qcd (i:=qaR xs i) (m:=4) hx (by omega)
 have hat:=qcG (qbJ [⟨#[43]⟩,⟨#[45]⟩,⟨#[42]⟩,⟨#[47]⟩]) 4 true (qaO xs (qaR xs i) 4) p.1 (by omega)
 obtain⟨o,ho,hc⟩:=quU p
 simp only[qbJ,List.map] at hat hc
 obtain⟨a,i1,h1,h2,h3⟩:=ih _ r2
 obtain⟨b,i2,h4,h5,h6⟩:=ih _ h2
 have ot:=quS 14 o.str a.kind a.num b.kind b.num a.str b.str a.kids b.kids (by simp) (by simp) (by simp) (by simp)
 have w1:=qaf (d-1) (by omega)
 have ed:d.toNat=(d-1).toNat+1:=by omega
 have ho1:o.opd=1/\o.res=1:=by
  simp only[qvy,Wp,Ws,or_false] at ho
  rcases ho with rfl|rfl|rfl|rfl<;>exact⟨rfl,rfl⟩
 have hco:Co 2 (E.cost (.bin true o a b)) xs i i2:=by
  have ho2:o.str.size<=2:=by cases o<;>decide
  obtain⟨q1,q2,q3⟩:=h1.2.2.2.2
  obtain⟨q4,q5,q6⟩:=h4.2.2.2.2
  have how:o.w<=11:=by cases o<;>decide
  show _/\_/\((o.str.size+o.w+(a.cost+b.cost):Nat):Int)<=_
  rcases qbe xs i with ⟨e1,l1⟩|⟨e1,l1⟩
  ·rcases qbe xs (qaR xs i) with ⟨e2,l2⟩|⟨e2,l2⟩<;>omega
  ·exact absurd (l1 12) (by omega)
 refine⟨.bin true o a b,i2,⟨⟨h1.1,h4.1,by rw[ho1.1]; exact h1.2.1,by rw[ho1.1]; exact h4.2.1⟩,by simp[h1.2.1,h4.2.1,ho1.1,ho1.2],by rw[ed]; simp only[E.dp]; omega,by rw[ed]; simp only[mxs,qhp]; omega,hco⟩,h5,?_⟩
 refine qaa (pf:=F177) rfl rfl ?_
 have k0 : ¬ qaO xs i 12=0:=by omega
 have k1 : ¬ qaO xs i 12=1:=by omega
 have k2 : ¬ qaO xs i 12=2:=by omega
 have k3 : ¬ qaO xs i 12=3:=by omega
 have k4 : ¬ qaO xs i 12=4:=by omega
 have k5 : ¬ qaO xs i 12=5:=by omega
 have k6 : ¬ qaO xs i 12=6:=by omega
 have k7 : ¬ qaO xs i 12=7:=by omega
 have k8 : ¬ qaO xs i 12=8:=by omega
 simp[F177,n1,n2,hd,k0,k1,k2,k3,k4,k5,k6,k7,k8,hat,hc,h3,h6,ot,w1]
end
end
section
open F
theorem qoH{v:D}{xs:List Int}{B:Int}(hx : ∀ x∈xs,I64 x)(hl:Bnd v xs B) : ∀ (n:Nat) (d i:Int),d<=n->n<=1000->(0<=i/\i<=B)->GIb B v xs d i
 |n,d,i,hd,hn,hi=>by
  have p:=qcd (i:=i) (m:=12) hx (by omega)
  by_cases h0:d<=0
  ·have q:=qaL p.1 (m:=6) (by omega)
   have e:qjb xs d i=(qaO xs i 12).tmod 6:=if_pos h0
   by_cases h1:qjb xs d i<2
   ·exact qpQ hx hl hi (by omega)
   by_cases h2:qjb xs d i<4
   ·exact qpR hx hl hi (by omega)
   ·exact qm1 hx hl hi (by omega)
  ·have e:qjb xs d i=qaO xs i 12:=if_neg h0
   by_cases h1:qjb xs d i<2
   ·exact qpQ hx hl hi (by omega)
   by_cases h2:qjb xs d i<4
   ·exact qpR hx hl hi (by omega)
   by_cases h3:qjb xs d i<6
   ·exact qm1 hx hl hi (by omega)
   cases n with
   |zero=>omega
   |succ n=>
    have ih : ∀ j,0<=j/\j<=B->GIb B v xs (d-1) j:=fun j hj=>qoH hx hl n (d-1) j (by omega) (by omega) hj
    by_cases h4:qjb xs d i<8
    ·exact qpS hx hl hi h0 (by omega) ih (by omega)
    by_cases h5:qjb xs d i=8
    ·exact quV hx hl hi h0 (by omega) ih (by omega)
    ·exact quW hx hl hi h0 (by omega) ih (by omega)
def qsp:List Bop:=[.lt,.le,.gt,.ge,.eq,.ne]
theorem qtA{p:Int}(h:0<=p/\p<6) : ∃ o∈qsp,qaj (qbJ [⟨#[60]⟩,⟨#[60,61]⟩,⟨#[62]⟩,⟨#[62,61]⟩,⟨#[61,61]⟩,⟨#[33,61]⟩]) p.toNat 1=some [.lit (.string (Bop.str o))]:=by
 obtain rfl|rfl|rfl|rfl|rfl|rfl:p=0\/p=1\/p=2\/p=3\/p=4\/p=5:=by omega
 ·exact⟨.lt,by simp[qsp],rfl⟩
 ·exact⟨.le,by simp[qsp],rfl⟩
 ·exact⟨.gt,by simp[qsp],rfl⟩
 ·exact⟨.ge,by simp[qsp],rfl⟩
 ·exact⟨.eq,by simp[qsp],rfl⟩
 ·exact⟨.ne,by simp[qsp],rfl⟩
def qxP:List Bop:=[.and,.or]
theorem qtB{p:Int}(h:0<=p/\p<2) : ∃ o∈qxP,qaj (qbJ [⟨#[38,38]⟩,⟨#[124,124]⟩]) p.toNat 1=some [.lit (.string (Bop.str o))]:=by
 obtain rfl|rfl:p=0\/p=1:=by omega
 ·exact⟨.and,by simp[qxP],rfl⟩
 ·exact⟨.or,by simp[qxP],rfl⟩
def qoI(xs:List Int)(d i:Int):Int:=if d<=0 then (qaO xs i 8).tmod 4 else qaO xs i 8
section
variable{v:D}{xs:List Int}{i d B:Int}(hx : ∀ x∈xs,I64 x)(hl:Bnd v xs B)(hi:0<=i/\i<=B)
include hx hl hi
theorem qmr(h:qoI xs d i=0):GBb B v xs d i:=by
 have n1:=qcw (i:=i) (m:=8) hx hl hi (by omega)
 have r1:=qa0 hi hl
 have n2:=qcw (i:=qaR xs i) (m:=2) hx hl r1 (by omega)
 have r2:=qa0 r1 hl
 have p:=qcd (i:=qaR xs i) (m:=2) hx (by omega)
 have hco:Co 6 (E.cost (.bool (qaO xs (qaR xs i) 2))) xs i (qaR xs (qaR xs i)):=by
  have hb:E.cost (.bool (qaO xs (qaR xs i) 2))<=6:=by simp only[E.cost]; split<;>omega
  unfold Co
  rcases qbe xs i with ⟨e1,l1⟩|⟨e1,l1⟩<;>rcases qbe xs (qaR xs i) with ⟨e2,l2⟩|⟨e2,l2⟩<;>omega
 refine⟨.bool (qaO xs (qaR xs i) 2),_,⟨by show _\/_; omega,rfl,Yk _,qid _,hco⟩,r2,?_⟩
 refine qaa (pf:=F179) rfl rfl ?_
 unfold qoI at h
 by_cases hd:d<=0
 ·rw[if_pos hd] at h
  simp[F179,n1,n2,hd,h]
 ·rw[if_neg hd] at h
  simp[F179,n1,n2,hd,h]
theorem qms(hd2:d<=1000)(hd3 : -1000<=d)(ih : ∀ j,0<=j/\j<=B->GIb B v xs (d-1) j)(h:1<=qoI xs d i/\qoI xs d i<=4):GBb B v xs d i:=by
 have n1:=qcw (i:=i) (m:=8) hx hl hi (by omega)
 have r1:=qa0 hi hl
 have n2:=qcw (i:=qaR xs i) (m:=6) hx hl r1 (by omega)
 have r2:=qa0 r1 hl
 have p:=qcd (i:=qaR xs i) (m:=6) hx (by omega)
 have hat:=qcG (qbJ [⟨#[60]⟩,⟨#[60,61]⟩,⟨#[62]⟩,⟨#[62,61]⟩,⟨#[61,61]⟩,⟨#[33,61]⟩]) 6 true (qaO xs (qaR xs i) 6) p.1 (by omega)
 obtain⟨o,ho,hc⟩:=qtA p
 simp only[qbJ,List.map] at hat hc
 obtain⟨a,i1,h1,h2,h3⟩:=ih _ r2
 obtain⟨b,i2,h4,h5,h6⟩:=ih _ h2
 have ot:=quS 14 o.str a.kind a.num b.kind b.num a.str b.str a.kids b.kids (by simp) (by simp) (by simp) (by simp)
 have w1:=qaf (d-1) (by omega)
 have ed:(d-1).toNat<=d.toNat:=by omega
 have hm:mxs (d-1).toNat<=mxs d.toNat:=by
  by_cases h0:d<=0
  ·rw[show (d-1).toNat=0 by omega]; exact qid _
  ·rw[show d.toNat=(d-1).toNat+1 by omega]; simp only[mxs]; omega
 have ho1:o.opd=1/\o.res=2:=by
  simp only[qsp,Wp,Ws,or_false] at ho
  rcases ho with rfl|rfl|rfl|rfl|rfl|rfl<;>exact⟨rfl,rfl⟩
 have hco:Co 6 (E.cost (.bin true o a b)) xs i i2:=by
  have ho2:o.str.size<=2:=by cases o<;>decide
  obtain⟨q1,q2,q3⟩:=h1.2.2.2.2
  obtain⟨q4,q5,q6⟩:=h4.2.2.2.2
  have how:o.w<=11:=by cases o<;>decide
  show _/\_/\((o.str.size+o.w+(a.cost+b.cost):Nat):Int)<=_
  rcases qbe xs i with ⟨e1,l1⟩|⟨e1,l1⟩
  ·rcases qbe xs (qaR xs i) with ⟨e2,l2⟩|⟨e2,l2⟩<;>omega
  ·exact absurd (l1 8) (fun h0=>by
    unfold qoI at h
    rw[h0] at h
    split at h<;>simp at h)
 refine⟨.bin true o a b,i2,⟨⟨h1.1,h4.1,by rw[ho1.1]; exact h1.2.1,by rw[ho1.1]; exact h4.2.1⟩,by simp[h1.2.1,h4.2.1,ho1.1,ho1.2],by simp only[E.dp]; omega,by simp only[mxs,qhp]; omega,hco⟩,h5,?_⟩
 refine qaa (pf:=F179) rfl rfl ?_
 unfold qoI at h
 by_cases hd:d<=0
 ·rw[if_pos hd] at h
  obtain h'|h'|h'|h':(qaO xs i 8).tmod 4=1\/(qaO xs i 8).tmod 4=2\/(qaO xs i 8).tmod 4=3\/(qaO xs i 8).tmod 4=4:=by omega
  all_goals simp[F179,n1,n2,hd,h',hat,hc,h3,h6,ot,w1]
 ·rw[if_neg hd] at h
  obtain h'|h'|h'|h':qaO xs i 8=1\/qaO xs i 8=2\/qaO xs i 8=3\/qaO xs i 8=4:=by omega
  all_goals simp[F179,n1,n2,hd,h',hat,hc,h3,h6,ot,w1]
theorem qqT(hd : ¬ d<=0)(hd2:d<=1000)(ih : ∀ j,0<=j/\j<=B->GBb B v xs (d-1) j)(h:qaO xs i 8=5):GBb B v xs d i:=by
 have n1:=qcw (i:=i) (m:=8) hx hl hi (by omega)
 have r1:=qa0 hi hl
 obtain⟨e,i',h1,h2,h3⟩:=ih _ r1
 have o:=quR 13 ⟨#[33]⟩ e.kind e.num e.str e.kids (by simp) (by simp)
 have w1:=qaf (d-1) (by omega)
 have ed:d.toNat=(d-1).toNat+1:=by omega
 have hco:Co 6 (E.cost (.un true false e)) xs i i':=by
  obtain⟨q1,q2,q3⟩:=h1.2.2.2.2
  show _/\_/\((6+e.cost:Nat):Int)<=_
  rcases qbe xs i with ⟨e1,l1⟩|⟨e1,l1⟩
  ·omega
  ·exact absurd (l1 8) (by omega)
 refine⟨.un true false e,i',⟨⟨h1.1,h1.2.1⟩,by simp[h1.2.1],by rw[ed]; simp only[E.dp]; omega,by rw[ed]; have:=h1.2.2.2.1; simp only[mxs,qlV] at *; omega,hco⟩,h2,?_⟩
 refine qaa (pf:=F179) rfl rfl ?_
 simp[F179,n1,hd,h,h3,o,w1,ustr]
theorem qqU(hd : ¬ d<=0)(hd2:d<=1000)(ih : ∀ j,0<=j/\j<=B->GBb B v xs (d-1) j)(h:qaO xs i 8=6\/qaO xs i 8=7):GBb B v xs d i:=by
 have n1:=qcw (i:=i) (m:=8) hx hl hi (by omega)
 have r1:=qa0 hi hl
 have n2:=qcw (i:=qaR xs i) (m:=2) hx hl r1 (by omega)
 have r2:=qa0 r1 hl
 have p:=qcd (i:=qaR xs i) (m:=2) hx (by omega)
 have hat:=qcG (qbJ [⟨#[38,38]⟩,⟨#[124,124]⟩]) 2 true (qaO xs (qaR xs i) 2) p.1 (by omega)
 obtain⟨o,ho,hc⟩:=qtB p
 simp only[qbJ,List.map] at hat hc
 obtain⟨a,i1,h1,h2,h3⟩:=ih _ r2
 obtain⟨b,i2,h4,h5,h6⟩:=ih _ h2
 have ot:=quS 14 o.str a.kind a.num b.kind b.num a.str b.str a.kids b.kids (by simp) (by simp) (by simp) (by simp)
 have w1:=qaf (d-1) (by omega)
 have ed:d.toNat=(d-1).toNat+1:=by omega
 have ho1:o.opd=2/\o.res=2:=by
  simp only[qxP,Wp,Ws,or_false] at ho
  rcases ho with rfl|rfl<;>exact⟨rfl,rfl⟩
 have hco:Co 6 (E.cost (.bin true o a b)) xs i i2:=by
  have ho2:o.str.size<=2:=by cases o<;>decide
  obtain⟨q1,q2,q3⟩:=h1.2.2.2.2
  obtain⟨q4,q5,q6⟩:=h4.2.2.2.2
  have how:o.w<=11:=by cases o<;>decide
  show _/\_/\((o.str.size+o.w+(a.cost+b.cost):Nat):Int)<=_
  rcases qbe xs i with ⟨e1,l1⟩|⟨e1,l1⟩
  ·rcases qbe xs (qaR xs i) with ⟨e2,l2⟩|⟨e2,l2⟩<;>omega
  ·exact absurd (l1 8) (by omega)
 refine⟨.bin true o a b,i2,⟨⟨h1.1,h4.1,by rw[ho1.1]; exact h1.2.1,by rw[ho1.1]; exact h4.2.1⟩,by simp[h1.2.1,h4.2.1,ho1.1,ho1.2],by rw[ed]; simp only[E.dp]; omega,by rw[ed]; have:=h1.2.2.2.1; have:=h4.2.2.2.1; simp only[mxs,qhp] at *; omega,hco⟩,h5,?_⟩
 refine qaa (pf:=F179) rfl rfl ?_
 rcases h with h|h<;>simp[F179,n1,n2,hd,h,hat,hc,h3,h6,ot,w1]
end
theorem qoJ{v:D}{xs:List Int}{B:Int}(hx : ∀ x∈xs,I64 x)(hl:Bnd v xs B) : ∀ (n:Nat) (d i:Int),d<=n -> -100<=d->n<=1000->(0<=i/\i<=B)->GBb B v xs d i
 |n,d,i,hd,hd',hn,hi=>by
  have p:=qcd (i:=i) (m:=8) hx (by omega)
  have ihI : ∀ j,0<=j/\j<=B->GIb B v xs (d-1) j:=fun j hj=>qoH hx hl n (d-1) j (by omega) (by omega) hj
  by_cases h0:d<=0
  ·have q:=qaL p.1 (m:=4) (by omega)
   have e:qoI xs d i=(qaO xs i 8).tmod 4:=if_pos h0
   by_cases h1:qoI xs d i=0
   ·exact qmr hx hl hi h1
   ·exact qms hx hl hi (by omega) (by omega) ihI (by omega)
  ·have e:qoI xs d i=qaO xs i 8:=if_neg h0
   by_cases h1:qoI xs d i=0
   ·exact qmr hx hl hi h1
   by_cases h2:qoI xs d i<=4
   ·exact qms hx hl hi (by omega) (by omega) ihI (by omega)
   cases n with
   |zero=>omega
   |succ n=>
    have ih : ∀ j,0<=j/\j<=B->GBb B v xs (d-1) j:=fun j hj=>qoJ hx hl n (d-1) j (by omega) (by omega) (by omega) hj
    by_cases h4:qaO xs i 8=5
    ·exact qqT hx hl hi h0 (by omega) ih h4
    ·exact qqU hx hl hi h0 (by omega) ih (by omega)
end
section
open F
def Ss.fine:Ss->Prop
 |.nil=>True
 |.assign _ s e r=>(s∈qrZ/\e.fine/\e.ty=1)/\r.fine
 |.store _ s a b r=>(s∈qir/\a.fine/\a.ty=1/\b.fine/\b.ty=1)/\r.fine
 |.effect _ a b r=>(a.fine/\a.ty=1/\b.fine/\b.ty=1)/\r.fine
 |.stop r=>r.fine
 |.cond false _ c (.block _ x (.block _ y .nil)) r=>(c.fine/\c.ty=2)/\x.fine/\y.fine/\r.fine
 |.cond true _ c (.block _ x .nil) r=>(c.fine/\c.ty=2)/\x.fine/\r.fine
 |_=>False
def Ss.dp:Ss->Nat
 |.nil=>0
 |.assign _ _ _ r=>r.dp
 |.store _ _ _ _ r=>r.dp
 |.effect _ _ _ r=>r.dp
 |.stop r=>r.dp
 |.cond _ _ _ b r=>max (b.dp+1) r.dp
 |.block _ b r=>max b.dp r.dp
def Ss.edp:Ss->Nat
 |.nil=>0
 |.assign _ _ e r=>max e.dp r.edp
 |.store _ _ a b r=>max (max a.dp b.dp) r.edp
 |.effect _ a b r=>max (max a.dp b.dp) r.edp
 |.stop r=>r.edp
 |.cond _ _ c b r=>max (max c.dp b.edp) r.edp
 |.block _ b r=>max b.edp r.edp
end
section
open F
section
variable{xs:List Int}{i d c:Int}
abbrev z4O:Ob := .cells [.int 0,.int 0,.str ⟨#[]⟩,.dat (.lit (.slice none 0 0))]
abbrev B1(xs:List Int)(i:Int)(pre:Fo):S:=[.cells [.dat (qni xs),.int i],z4O,.cells [.int 7,.int 0,.str ⟨#[]⟩,.gsl pre.cells pre.len 4 3],.tip pre.cells.length]
end
end
section
open F
def Hd.ss:Hd->Ss
 |.none => .nil
 |.some _ b=>b
structure Hd.fine(h:Hd):Prop where
 fine:h.ss.fine
 size:h.ss.fo.size<=2000
def Hd.cost:Hd->Nat
 |.none=>0
 |.some _ b=>12+b.cost
structure Hd.gen(h:Hd):Prop extends h.fine where
 f:h.f=false
 dp:h.ss.dp<=2
 edp:h.ss.edp<=3
 gsize:h.ss.fo.size<=1260
theorem qrN(h:Hd):h.ks=h.ss.fo:=by cases h<;>rfl
abbrev z12:Ob := .cells [.int 0,.int 0,.str ⟨#[]⟩,.dat (.lit (.slice none 0 0)),.int 0,.int 0,.str ⟨#[]⟩,.dat (.lit (.slice none 0 0)),.int 0,.int 0,.str ⟨#[]⟩,.dat (.lit (.slice none 0 0))]
end
section
def wt:List ByteArray->Nat
 |[]=>0
 |t::l=>t.size+1+wt l
theorem qps(a b:List ByteArray):wt (a++b)=wt a+wt b:=by
 induction a with
 |nil=>simp[wt]
 |cons t a ih=>simp only[Wh,wt,ih]; omega
theorem qj0 : ∀ (l:List ByteArray) (p:Bool),(qaI p l).length<=wt l
 |[],p=>by simp[qaI,wt]
 |t::l,p=>by
  have h1:=qj0 l (qb3 p t)
  have h2:=qaW t
  have h3:(gap p t).length<=1:=by unfold gap; split<;>simp
  simp only[qaI,Wb,wt]
  omega
theorem qmW(b:Bool)(l:List ByteArray):wt (qcZ b l)<=wt l+4:=by
 cases b with
 |false=>simp[qcZ]
 |true=>
  have:wt (qcZ true l)=2+(wt l+2):=by
   show wt (bs [40]::(l++[bs [41]]))=_
   rw[wt,qps]
   rfl
  omega
theorem qlS(full:Bool) : ∀ (e:E) p,wt (e.tx full p)<=e.cost
 |.int n,p=>by simp[E.tx,wt,E.cost,qa1]
 |.bool n,p=>by
  simp only[E.tx,wt,E.cost]
  split<;>simp[qg2,qkU,qa1]
 |.var s,p=>by simp[E.tx,wt,E.cost]
 |.name s,p=>by simp[E.tx,wt,E.cost]
 |.field _ s e,p=>by
  have:=qlS full e 1
  simp only[E.tx,wt,qps,E.cost,qa1,Wd,Wj]
  omega
 |.un _ neg e,p=>by
  have h1:=qlS full e (qfh neg)
  have h2:=qmW (full||decide (qfh neg<p)) (ustr neg::e.tx full (qfh neg))
  have h3:(ustr neg).size=1:=by cases neg<;>rfl
  simp only[E.tx,E.cost]
  rw[wt,h3] at h2
  omega
 |.bin _ o a b,p=>by
  have h1:=qlS full a o.left
  have h2:=qlS full b (o.prec+1)
  have h3:=qmW (full||decide (o.prec<p)) (a.tx full o.left++o.str::b.tx full (o.prec+1))
  have how:5<=o.w:=by cases o<;>decide
  simp only[E.tx,E.cost]
  rw[qps,wt] at h3
  omega
theorem qj1{s:ByteArray}(h:s∈qrZ):qpc s/\s.size<=3:=by
 simp only[qrZ,quT,Wh,Wg,Wp,Ws,or_false] at h
 have key : ∀ (c:UInt8) (r:List UInt8),qa7 c=true->(∀ b∈r,qay b=true)->(c::r).length<=8->Tg (byl (bs (c::r))):=fun c r h1 h2 h3=>qtP h1 h2 h3
 rcases h with rfl|rfl|rfl|rfl|rfl
 ·exact⟨⟨key 105 [] (by decide) (by decide) (by decide),by decide,by decide,by decide⟩,by decide⟩
 ·exact⟨⟨key 110 [] (by decide) (by decide) (by decide),by decide,by decide,by decide⟩,by decide⟩
 ·exact⟨⟨key 115 [117,109] (by decide) (by decide) (by decide),by decide,by decide,by decide⟩,by decide⟩
 ·exact⟨⟨key 118 [51] (by decide) (by decide) (by decide),by decide,by decide,by decide⟩,by decide⟩
 ·exact⟨⟨key 118 [] (by decide) (by decide) (by decide),by decide,by decide,by decide⟩,by decide⟩
theorem qh8{s:ByteArray}(h:s∈qiq):(s=qwP\/s=qsx\/s=qhc)/\s.size<=5:=by
 simp only[qiq,Wp,Ws,or_false] at h
 rcases h with rfl|rfl|rfl
 ·exact⟨.inl rfl,by decide⟩
 ·exact⟨.inr (.inl rfl),by decide⟩
 ·exact⟨.inr (.inr rfl),by decide⟩
theorem qi4{s:ByteArray}(h:s∈qdB):s∈fieldNames/\s.size<=5:=by
 simp only[qdB,qir,Wh,Wg,Wp,Ws,or_false] at h
 rcases h with rfl|rfl|rfl|rfl|rfl|rfl|rfl|rfl<;>exact⟨by decide,by decide⟩
theorem qrG{n:Nat}(h:n<=2147483647):(qhZ n).length<=10:=qmq 20 n 9 (by omega)
theorem qdi : ∀ e:E,e.fine->e.good
 |.int n,h=>h
 |.bool n,h=>h
 |.var s,h=>(qj1 h).1
 |.name s,h=>(qh8 h).1
 |.field _ s e,h=>⟨(qi4 h.1).1,qdi e h.2.1⟩
 |.un _ neg e,h=>qdi e h.1
 |.bin _ o a b,h=>⟨qdi a h.1,qdi b h.2.1⟩
theorem qf9(full:Bool) : ∀ (e:E) p,e.nest full p<=2*e.dp
 |.int n,p | .bool n,p | .var s,p | .name s,p=>by simp[E.nest]
 |.field _ s e,p=>by have:=qf9 full e 1; simp only[E.nest,E.dp]; omega
 |.un _ neg e,p=>by have:=qf9 full e (qfh neg); simp only[E.nest,E.dp]; split<;>omega
 |.bin _ o a b,p=>by have h1:=qf9 full a o.left; have h2:=qf9 full b (o.prec+1); simp only[E.nest,E.dp]; split<;>omega
theorem qcm : ∀ e:E,e.fine->e.cost<=13*e.size
 |.int n,h=>by have:=qrG (n:=n.toNat) (by have:=h.2; omega); simp only[E.cost,qrS]; omega
 |.bool n,h=>by simp only[E.cost,qpF]; split<;>omega
 |.var s,h=>by have:=(qj1 h).2; simp only[E.cost,qrT]; omega
 |.name s,h=>by have:=(qh8 h).2; simp only[E.cost,qpG]; omega
 |.field _ s e,h=>by have h1:=(qi4 h.1).2; have h2:=qcm e h.2.1; simp only[E.cost,qi7]; omega
 |.un _ neg e,h=>by have h2:=qcm e h.1; simp only[E.cost,qlV]; omega
 |.bin _ o a b,h=>by
  have h1:=qcm a h.1
  have h2:=qcm b h.2.1
  have h3:o.str.size<=2:=by cases o<;>decide
  have how:o.w<=11:=by cases o<;>decide
  simp only[E.cost,qhp]
  omega
end
end Go.Pm
section
namespace Go.Pm.F
variable(C:Task->Option Res)(q:Nat)(fr:Fr)(σ : S)
def F234:PFun:=pf 1 [.tmp 2] (sr [bx 1 0,jj 2 (.mov (ks []))] [1] (sr [la 3 4 1,jj 4 (.call 246 [(.t 3),(kk 1),kF]),mv 2 4] [2] .ret))
def F246:PFun:=pf 3 [.tmp 6] (sr [bx 3 0,jj 6 (.mov (ks []))] [1,2,3] (sr [la 10 4 3,cl 11 261 [10],mv 7 11] [1,2,3,7] (sr [fa 12 2 3,l1 13 12,mv 8 13] [1,2,3,7,8] (.seq (sr [fa 14 0 3,l1 15 14,bk 16 .eql 15 8] [1,2,3,7,8,16] (cs 16 (rn [fa 17 1 3,l1 18 17,cl 19 20 [18],mv 8 19] [1,2,3,7,8]))) (.seq (sr [fa 20 0 3,l1 21 20,bk 22 .eql 21 9] [1,2,3,7,8,22] (cs 22 (sr [jj 8 (.mov (ks [102,97,108,115,101]))] [1,2,3,7,8] (sr [fa 23 1 3,l1 24 23,bk 25 .eql 24 1] [1,2,3,7,8,25] (cs 25 (rn [jj 8 (.mov (ks [116,114,117,101]))] [1,2,3,7,8])))))) (.seq (sr [fa 26 0 3,l1 27 26,bk 28 .eql 27 11] [1,2,3,7,8,28] (cs 28 (.region (some []) [fa 29 2 3,⟨some 30,.load false 1 (.t 29),none,[7]⟩,fa 31 3 3,l1 32 31,jj 33 (.indexAddr 4 (.t 32) (kk 0)),la 34 4 33,mv 35 2,jj 36 (.call 246 [(.t 34),(kk 1),(.t 35)]),jj 37 (.bslice 4 [eN,eN,eN,eN] [(0,1,(.t 30)),(1,1,(ks [91])),(2,1,(.t 36)),(3,1,(ks [93]))]),cl 38 247 [37],mv 8 38] [1,2,3,7,8] [7,9]))) (.seq (sr [fa 39 0 3,l1 40 39,bk 41 .eql 40 13] [1,2,3,7,8,41] (cs 41 (.region (some []) [fa 42 2 3,⟨some 43,.load false 1 (.t 42),none,[8]⟩,fa 44 3 3,l1 45 44,jj 46 (.indexAddr 4 (.t 45) (kk 0)),la 47 4 46,mv 48 7,mv 49 2,cl 50 246 [47,48,49],jj 51 (.bslice 2 [eN,eN] [(0,1,(.t 43)),(1,1,(.t 50))]),cl 52 247 [51],mv 8 52] [1,2,3,7,8] [8,10]))) (.seq (sr [fa 53 0 3,l1 54 53,bk 55 .eql 54 14] [1,2,3,7,8,55] (cs 55 (sr [mv 56 7,mv 9 56] [1,2,3,7,9] (.seq (sr [mv 57 7,bk 58 .eql 57 4] [1,2,3,7,9,58] (cs 58 (rn [mx 9 (kk 5)] [1,2,3,7,9]))) (.region (some []) [fa 59 3 3,l1 60 59,jj 61 (.indexAddr 4 (.t 60) (kk 0)),la 62 4 61,mv 63 9,mv 64 2,cl 65 246 [62,63,64],fa 66 2 3,⟨some 67,.load false 1 (.t 66),none,[6,16]⟩,fa 68 3 3,⟨some 69,.load false 1 (.t 68),none,[6]⟩,jj 70 (.indexAddr 4 (.t 69) (kk 1)),⟨some 71,.load true 4 (.t 70),none,[6]⟩,mv 72 7,bk 73 .add 72 1,mv 74 2,cl 75 246 [71,73,74],jj 76 (.bslice 3 [eN,eN,eN] [(0,1,(.t 65)),(1,1,(.t 67)),(2,1,(.t 75))]),cl 77 247 [76],mv 8 77] [1,2,7,8] [16,18]))))) (.seq (sr [mv 78 7,mv 79 1,bn 80 .lss 78 79,mv 81 80,jf 82 81 (.mov (.t 2)),jf 83 81 (.mov (.t 82)),jt 84 83 (.mov (.t 7)),jt 85 83 (.bin .lss (.t 84) (kk 8)),jf 86 81 (.pick (.t 83) (.t 85) kF),jj 87 (.pick (.t 81) kT (.t 86))] [8,87] (cs 87 (sr [mv 88 8,jj 89 (.bin .add (ks [40]) (.t 88)),jj 90 (.bin .add (.t 89) (ks [41])),mv 6 90] [6] .ret))) (sr [mv 91 8,mv 6 91] [6] .ret))))))))))
@[simp] def F247l0x:PC:=(.seq (sr [mv 5 4,mv 6 0,ls 7 6,bn 8 .lss 5 7] [0,3,4,8] (.cond (.t 8) .skip (.exit 0))) (.seq (.block 1 (rn [mv 11 3,mv 12 0,mv 13 4,jj 14 (.indexAddr 1 (.t 12) (.t 13)),l1 15 14,cl 16 262 [11,15],mv 3 16] [0,3,4])) (rn [mv 9 4,bk 10 .add 9 1,mv 4 10] [0,3,4])))
def F247l0:PC:=F247l0x
theorem qja:run C q F247l0 fr σ = run C q F247l0x fr σ := rfl
def F247:PFun:=pf 1 [.tmp 2] (sr [jj 2 (.mov (ks []))] [0] (sr [jj 3 (.mov (ks []))] [0,3] (.seq (sr [mx 4 (kk 0)] [0,3,4] (.block 0 (.loop F247l0))) (sr [mv 17 3,mv 2 17] [2] .ret))))
def F261:PFun:=pf 1 [.tmp 2] (sr [bx 1 0,mx 2 (kk 0)] [1] (.seq (sr [fa 3 0 1,l1 4 3,bk 5 .eql 4 13] [1,5] (cs 5 (.seq (sr [fa 6 2 1,l1 7 6,jj 8 (.bin .eql (.t 7) (ks [33]))] [8] (cs 8 (sr [mx 2 (kk 3)] [2] .ret))) (sr [mx 2 (kk 7)] [2] .ret)))) (.seq (sr [fa 9 0 1,l1 10 9,bk 11 .neq 10 14] [1,11] (cs 11 (sr [mx 2 (kk 8)] [2] .ret))) (.seq (sr [fa 12 2 1,l1 13 12,jj 14 (.bin .eql (.t 13) (ks [124,124]))] [1,14] (cs 14 (sr [mx 2 (kk 1)] [2] .ret))) (.seq (sr [fa 15 2 1,l1 16 15,jj 17 (.bin .eql (.t 16) (ks [38,38]))] [1,17] (cs 17 (sr [mx 2 (kk 2)] [2] .ret))) (.seq (sr [fa 18 2 1,l1 19 18,jj 20 (.bin .eql (.t 19) (ks [43])),mv 21 20,jf 22 21 (.fieldAddr 2 (.t 1)),jf 23 21 (.load false 1 (.t 22)),jf 24 21 (.bin .eql (.t 23) (ks [45])),jj 25 (.pick (.t 21) kT (.t 24))] [1,25] (cs 25 (sr [mx 2 (kk 5)] [2] .ret))) (.seq (sr [fa 26 2 1,l1 27 26,jj 28 (.bin .eql (.t 27) (ks [42])),mv 29 28,jf 30 29 (.fieldAddr 2 (.t 1)),jf 31 29 (.load false 1 (.t 30)),jf 32 29 (.bin .eql (.t 31) (ks [47])),jj 33 (.pick (.t 29) kT (.t 32))] [33] (cs 33 (sr [mx 2 (kk 6)] [2] .ret))) (sr [mx 2 (kk 4)] [2] .ret))))))))
def F262:PFun:=pf 2 [.tmp 4] (sr [jj 4 (.mov (ks []))] [0,1] (.seq (sr [mv 7 0,jj 8 (.bin .neq (.t 7) (ks [])),mv 9 8,jt 10 9 (.mov (.t 1)),jt 11 9 (.bin .neq (.t 10) (ks [])),jj 12 (.pick (.t 9) (.t 11) kF)] [0,1,12] (cs 12 (sr [mv 13 0,mv 14 0,lz 15 14,bk 16 .sub 15 1,jj 17 (.indexS (.t 13) (.t 16)),mv 5 17] [0,1,5] (sr [mv 18 1,jj 19 (.indexS (.t 18) (kk 0)),mv 6 19] [0,1,5,6] (sr [mv 20 5,cl 21 192 [20],mv 22 21,jf 23 22 (.mov (.t 5)),jf 24 22 (.call 193 [(.t 23)]),jj 25 (.pick (.t 22) kT (.t 24)),mv 26 25,jt 27 26 (.mov (.t 6)),jt 28 26 (.call 192 [(.t 27)]),jt 29 26 (.mov (.t 28)),jf 30 29 (.mov (.t 6)),jf 31 29 (.call 193 [(.t 30)]),jt 32 26 (.pick (.t 29) kT (.t 31)),jj 33 (.pick (.t 26) (.t 32) kF)] [0,1,33] (cs 33 (sr [mv 34 0,jj 35 (.bin .add (.t 34) (ks [32])),mv 36 1,bn 37 .add 35 36,mv 4 37] [4] .ret))))))) (sr [mv 38 0,mv 39 1,bn 40 .add 38 39,mv 4 40] [4] .ret)))
end Go.Pm.F
end
section
namespace Go.Pm.F
def tE:Nat->Option PFun
 |_=>none
end Go.Pm.F
end
section
namespace Go.Pm.F
def tK:Nat->Option PFun
 |_=>none
end Go.Pm.F
end
namespace Go.Pm
section
open F
def qxO:ByteArray:=⟨#[48,48,48,49,48,50,48,51,48,52,48,53,48,54,48,55,48,56,48,57,49,48,49,49,49,50,49,51,49,52,49,53,49,54,49,55,49,56,49,57,50,48,50,49,50,50,50,51,50,52,50,53,50,54,50,55,50,56,50,57,51,48,51,49,51,50,51,51,51,52,51,53,51,54,51,55,51,56,51,57,52,48,52,49,52,50,52,51,52,52,52,53,52,54,52,55,52,56,52,57,53,48,53,49,53,50,53,51,53,52,53,53,53,54,53,55,53,56,53,57,54,48,54,49,54,50,54,51,54,52,54,53,54,54,54,55,54,56,54,57,55,48,55,49,55,50,55,51,55,52,55,53,55,54,55,55,55,56,55,57,56,48,56,49,56,50,56,51,56,52,56,53,56,54,56,55,56,56,56,57,57,48,57,49,57,50,57,51,57,52,57,53,57,54,57,55,57,56,57,57]⟩
def dg(d:Nat):UInt8:=(48+d).toUInt8
theorem qwb : ∀ k,k<100->qxO[2*k]?=some (dg (k / 10)):=by decide +kernel
theorem qwc : ∀ k,k<100->qxO[2*k+1]?=some (dg (k % 10)):=by decide +kernel
end
section
open F
theorem pr{x:Nat}(h:x<100) : ∃ p q:Nat,IntKind.u32.wrap ((x:Int)*2)=(p:Int)/\IntKind.u32.wrap ((p:Int)+1)=(q:Int)/\qxO[p]?=some (dg (x / 10))/\qxO[q]?=some (dg (x % 10)):=
 ⟨2*x,2*x+1,by rw[IntKind.wrap_u32']; omega,by rw[IntKind.wrap_u32']; omega,qwb x h,qwc x h⟩
end
end Go.Pm
section
namespace Go.Pm.F
def tS:Nat->Option PFun
 |20=>some F20
 |192=>some F192
 |193=>some F193
 |234=>some F234
 |246=>some F246
 |247=>some F247
 |261=>some F261
 |262=>some F262
 |_=>none
end Go.Pm.F
end
namespace Go.Pm
section
open F
theorem qlj(c:UInt8):Z tS (.call 192 [.dat (.lit (.int .u8 c.toNat))] [])=some (.ret (.bool (qa7 c)) []):=by
 refine qaa (pf:=F192) rfl rfl ?_
 by_cases h1:(97:Int)<=c.toNat
 ·have h1':97<=c.toNat:=by omega
  by_cases h2:(c.toNat:Int)<=122
  ·have h2':c.toNat<=122:=by omega
   simp[F192,qa7,h1,h1',h2,h2']
  ·have h2' : ¬ c.toNat<=122:=by omega
   simp[F192,qa7,h1,h1',h2,h2']
 ·have h1' : ¬ 97<=c.toNat:=by omega
  simp[F192,qa7,h1,h1']
theorem qm8(c:UInt8):Z tS (.call 193 [.dat (.lit (.int .u8 c.toNat))] [])=some (.ret (.bool (qau c)) []):=by
 refine qaa (pf:=F193) rfl rfl ?_
 by_cases h1:(48:Int)<=c.toNat
 ·have h1':48<=c.toNat:=by omega
  by_cases h2:(c.toNat:Int)<=57
  ·have h2':c.toNat<=57:=by omega
   simp[F193,qau,h1,h1',h2,h2']
  ·have h2' : ¬ c.toNat<=57:=by omega
   simp[F193,qau,h1,h1',h2,h2']
 ·have h1' : ¬ 48<=c.toNat:=by omega
  simp[F193,qau,h1,h1']
theorem qxx(a b:List UInt8):bs a++bs b=bs (a++b):=by
 apply qlX
 simp[byl,bs,ByteArray.data_append]
theorem qcL(a b:ByteArray):a++b=bs (byl a++byl b):=by
 rw[<- qxx,qdz,qdz]
theorem qjj:qaJ qay ⟨#[]⟩=false:=by rw[qbr]; rfl
theorem qxy(a b:ByteArray)(h:a.size+b.size<2 ^ 40):Z tS (.call 262 [.str a,.str b] [])=some (.ret (.str (bs (pw (byl a) [b]))) []):=by
 have hab : ¬ (9223372036854775807:Int)<(a.size:Int)+(b.size:Int):=by omega
 have plain:gap (wl (byl a)) b=[]->bs (pw (byl a) [b])=a++b:=fun hg=>by
  rw[qdO,qg0,hg,Wg,qcL]
 refine qaa (pf:=F262) rfl rfl ?_
 by_cases ha:a=⟨#[]⟩
 ·rw[plain (by rw[ha]; rfl)]
  have e:eqS a ⟨#[]⟩=true:=by rw[qaF]; simp[ha]
  simp[F262,e,hab]
 ·have ea:eqS a ⟨#[]⟩=false:=by rw[qaF]; simp[ha]
  by_cases hb:b=⟨#[]⟩
  ·rw[plain (by rw[hb,gap,qjj]; simp)]
   have e:eqS b ⟨#[]⟩=true:=by rw[qaF]; simp[hb]
   simp[F262,ea,e,hab]
  ·have eb:eqS b ⟨#[]⟩=false:=by rw[qaF]; simp[hb]
   have nz : ∀ {t:ByteArray},t≠⟨#[]⟩->t.size≠0:=fun {t} h h0=>h (by
    apply qlX
    have:(byl t).length=0:=by rw[qaW,h0]
    rw[WP this])
   have ha0:=nz ha
   obtain⟨y,hy,hs⟩:=qrd (nz hb)
   have hx:=qtX ha0
   have hwl:wl (byl a)=qay (lastC (byl a)):=rfl
   generalize lastC (byl a)=x at *
   have l1:=qlj x
   have l2:=qm8 x
   have l3:=qlj y
   have l4:=qm8 y
   have w2:=qaf ((a.size:Int)-1) (by omega)
   have w3:((a.size:Int)-1).toNat=a.size-1:=by omega
   have w4:(0:Int)<=(a.size:Int)-1:=by omega
   have w5:(1:Int)<=a.size:=by omega
   by_cases hg:(qay x&&qay y)=true
   ·have hgap:gap (wl (byl a)) b=[32]:=by rw[gap,hwl,hs,if_pos hg]
    have e:bs (pw (byl a) [b])=a++⟨#[32]⟩++b:=by
     rw[qdO,qg0,hgap,qcL,qcL a,qbg]
     simp[byl]
    rw[e]
    have hab2 : ¬ (9223372036854775807:Int)<(a.size:Int)+1:=by omega
    have hab3 : ¬ (9223372036854775807:Int)<(a.size:Int)+1+(b.size:Int):=by omega
    have hsz:(a++⟨#[32]⟩:ByteArray).size=a.size+1:=by rw[W1]; rfl
    have hsp:(⟨#[32]⟩:ByteArray).size=1:=rfl
    have hsp2:((⟨#[32]⟩:ByteArray).size:Int)=1:=rfl
    unfold qay at hg
    cases h1:qa7 x<;>cases h2:qau x<;>cases h3:qa7 y<;>cases h4:qau y<;>rw[h1,h2,h3,h4] at hg<;>simp at hg<;>rw[h1] at l1<;>rw[h2] at l2<;>rw[h3] at l3<;>rw[h4] at l4 <;>
     simp[F262,ea,eb,hx,hy,l1,l2,l3,l4,w2,w3,w4,w5,hab2,hab3,hsz,hsp,hsp2,V.len]
   ·have hgap:gap (wl (byl a)) b=[]:=by rw[gap,hwl,hs,if_neg hg]
    rw[plain hgap]
    unfold qay at hg
    cases h1:qa7 x<;>cases h2:qau x<;>cases h3:qa7 y<;>cases h4:qau y<;>rw[h1,h2,h3,h4] at hg<;>simp at hg<;>rw[h1] at l1<;>rw[h2] at l2<;>rw[h3] at l3<;>rw[h4] at l4 <;>
     simp[F262,ea,eb,hx,hy,l1,l2,l3,l4,w2,w3,w4,w5,hab,V.len]
theorem qm9 (fl:Bool) (ts:List ByteArray) (hn:ts.length<2 ^ 30) : ∀ (m i:Nat) (w:List UInt8),i+m=ts.length->(pw w (ts.drop i)).length<2 ^ 40 ->
  Z tS (.loop 0 F247l0 [(0,.dat (.sl (qbJ ts) ts.length fl)),(3,.str (bs w)),(4,.int i)] [])=some (.out (.exit 0) [(0,.dat (.sl (qbJ ts) ts.length fl)),(3,.str (bs (pw w (ts.drop i)))),(4,.int ts.length),(8,.bool false)] [])
 |0,i,w,hi,hsz=>by
  have hi':i=ts.length:=by omega
  subst hi'
  rw[List.drop_length,qg0]
  rw[qac]
  simp[qad,qja,V.len]
 |m+1,i,w,hi,hsz=>by
  have hlt:i<ts.length:=by omega
  have hd:ts.drop i=ts[i]::ts.drop (i+1):=WC hlt
  rw[hd,qdO] at hsz ⊢
  have hc:=qge ts i hlt
  generalize ts[i]=t at *
  have hw0:(w++(gap (wl w) t++byl t)).length<2 ^ 40:=WI (qwC _ _) hsz
  have ih:=qm9 fl ts hn m (i+1) (w++(gap (wl w) t++byl t)) (by omega) hsz
  rw[<- ih]
  have z:=qxy (bs w) t (by rw[Wb,Wb,qaW] at hw0; rw[qa1]; omega)
  rw[qbg,qdO,qg0] at z
  have w1:=qaf ((i:Int)+1) (by omega)
  have hlt':(i:Int)<ts.length:=by omega
  conv=>lhs; rw[qac]
  generalize bs (w++(gap (wl w) t++byl t))=R at *
  generalize bs w=R0 at *
  simp[qad,qja,z,hc,w1,hlt',hlt,qag,V.len]
theorem qzD(fl:Bool){ts:List ByteArray}{R:ByteArray}(hR:R=bs (pw [] ts))(hn:ts.length<2 ^ 30)(hsz:R.size<2 ^ 40):Z tS (.call 247 [.dat (.sl (qbJ ts) ts.length fl)] [])=some (.ret (.str R) []):=by
 subst hR
 have z:=qm9 fl ts hn ts.length 0 [] (by omega) (by rw[WT]; exact hsz)
 rw[WT] at z
 simp only[Wv] at z
 rw[show bs []=⟨#[]⟩ from rfl] at z
 refine qaa (pf:=F247) rfl rfl ?_
 generalize bs (pw [] ts)=R at *
 simp[F247,z]
theorem qxz(w:List UInt8){ts:List ByteArray}(h : ∀ t∈ts,t.size≠0):pw w [bs (qaI false ts)]=pw w ts:=by
 cases ts with
 |nil=>
  rw[qdO,qg0,qg0,qaI]
  have:=qjj
  simp[gap,bs,byl,this]
 |cons t ts=>
  have ht:=h t (WQ ..)
  cases hb:byl t with
  |nil=>exact absurd (by rw[<- qaW,hb]; rfl) ht
  |cons c r=>
   have hs:qaJ qay (bs (qaI false (t::ts)))=qaJ qay t:=by
    rw[qbr,qbr,qbg,qaI,hb]
    rfl
   have hg:gap (wl w) (bs (qaI false (t::ts)))=gap (wl w) t:=by rw[gap,gap,hs]
   have he:qb3 (wl w) t=qb3 false t:=by
    unfold qb3
    cases hl:(byl t).getLast? with
    |none=>rw[Yh] at hl; rw[hl] at hb; cases hb
    |some c=>rfl
   rw[qdO,qg0,hg,qbg]
   show w++(gap (wl w) t++qaI false (t::ts))=w++qaI (wl w) (t::ts)
   rw[qaI,qaI,he]
   rfl
theorem ql4(w:List UInt8){ts:List ByteArray}(h : ∀ t∈ts,t.size≠0)(r:List ByteArray):pw w (bs (qaI false ts)::r)=pw w (ts++r):=by
 rw[show bs (qaI false ts)::r=[bs (qaI false ts)]++r from rfl,qmH,qxz w h,<- qmH]
end
section
open F
def digS:ByteArray:=⟨#[48,49,50,51,52,53,54,55,56,57]⟩
theorem qtM : ∀ d,d<10->digS.extract d (d+1)=bs [(48+d).toUInt8]:=by decide
theorem qmv (n:Int) : ∀ (k m:Nat) (out:ByteArray),m<10 ^ k->k<=18->out.size+k<=100 ->
  Z tS (.loop 0 F20l0 [(0,.int n),(3,.str digS),(4,.str out),(5,.int m)] [])=some (.out (.exit 0) [(0,.int n),(3,.str digS),(4,.str (bs (if m=0 then [] else qjT k m)++out)),(5,.int 0),(11,.bool false)] [])
 |k,0,out,_,_,_=>by
  rw[qac]
  have e:bs []++out=out:=by rw[show bs []=ByteArray.empty from rfl,ByteArray.empty_append]
  simp[qad,qlc,digS,e]
 |0,m+1,out,h,_,_=>by simp at h
 |k+1,m+1,out,h,hk,ho=>by
  have hp:(10:Nat) ^ (k+1)<=10 ^ 18:=Nat.pow_le_pow_right (by omega) hk
  have hd:((m+1:Nat):Int).tmod 10=(((m+1) % 10:Nat):Int):=rfl
  have hq:((m+1:Nat):Int).tdiv 10=(((m+1) / 10:Nat):Int):=rfl
  have hlt:(m+1) % 10<10:=Nat.mod_lt _ (by omega)
  have hx:=qtM _ hlt
  have w1:=qaf (((m+1) % 10:Nat)+1:Int) (by omega)
  have w2:IntKind.i64.wrap (((m+1) / 10:Nat):Int)=((m+1) / 10:Nat):=qaf _ (by omega)
  have hne : ¬ ((m+1:Nat):Int)=0:=by omega
  have hneg : ¬ (((m+1) % 10:Nat):Int)<0:=by omega
  have ih:=qmv n k ((m+1) / 10) (bs [(48+(m+1) % 10).toUInt8]++out) (by rw[Nat.pow_succ] at h; omega) (by omega) (by rw[W1,qa1]; simp; omega)
  have hres:bs (if (m+1) / 10=0 then [] else qjT k ((m+1) / 10))++(bs [(48+(m+1) % 10).toUInt8]++out)=bs (qjT (k+1) (m+1))++out:=by
   rw[<- ByteArray.append_assoc]
   congr 1
   simp only[qjT]
   by_cases h10:m+1<10
   ·rw[if_pos h10,if_pos (by omega),Nat.mod_eq_of_lt h10]
    rfl
   ·rw[if_neg h10,if_neg (by omega)]
    rfl
  rw[hres] at ih
  rw[if_neg (by omega),<- ih]
  generalize hd2:(m+1) % 10=d at *
  generalize hq2:(m+1) / 10=q at *
  generalize hm:m+1=M at *
  have hM : ¬ M=0:=by omega
  have b1:(d:Int)<=digS.size:=by rw[show digS.size=10 from rfl]; omega
  have b2:(d:Int)+1<=digS.size:=by rw[show digS.size=10 from rfl]; omega
  have b3:(0:Int)<=(d:Int)+1:=by omega
  have b4:((d:Int)+1).toNat=d+1:=by omega
  have b5:(d:Int)<=(d:Int)+1:=by omega
  have hsz : ¬ (9223372036854775807:Int)<((bs [(48+d).toUInt8]).size:Int)+out.size:=by rw[qa1]; simp; omega
  generalize digS=ds at *
  generalize bs [(48+d).toUInt8]=ch at *
  conv=>lhs; rw[qac]
  simp[qad,qlc,qcf,bound,hd,hq,hne,hneg,w1,w2,b1,b2,b3,b4,b5,hx,hsz,hM]
theorem qoS{n:Nat}(h:n<10 ^ 18):Z tS (.call 20 [.int n] [])=some (.ret (.str (bs (qhZ n))) []):=by
 refine qaa (pf:=F20) rfl rfl ?_
 by_cases h0:n=0
 ·subst h0
  simp[F20,qhZ,qjT,bs]
 ·have hne : ¬ (n:Int)=0:=by omega
  have hneg : ¬ (n:Int)<0:=by omega
  have z:=qmv n 18 n ⟨#[]⟩ h (by omega) (by decide)
  rw[if_neg h0] at z
  have e : ∀ (k j n:Nat),n<10 ^ k->1<=k->qjT (k+j) n=qjT k n:=fun k=>by
   induction k with
   |zero=>intro j n _ h; omega
   |succ k ih=>
    intro j n hn _
    rw[show k+1+j=(k+j)+1 by omega]
    simp only[qjT]
    split
    ·rfl
    ·rename_i h10
     have hk:1<=k:=by
      rcases k with _|k
      ·simp at hn; omega
      ·omega
     rw[ih j (n / 10) (by rw[Nat.pow_succ] at hn; omega) hk]
  have e2:bs (qjT 18 n)++⟨#[]⟩=bs (qhZ n):=by
   rw[show qhZ n=qjT (18+2) n from rfl,e 18 2 n h (by omega)]
   exact ByteArray.append_empty
  rw[e2] at z
  simp only[digS] at z
  simp[F20,h0,hne,hneg,z]
end
section
open F
theorem qem(e:E):Z tS (.call 261 [e.node] [])=some (.ret (.int e.lev) []):=by
 refine qaa (pf:=F261) rfl rfl ?_
 cases e with
 |un f neg e=>cases neg<;>simp[F261,E.lev,qfh,ustr,qaF]
 |bin f o a b=>cases o<;>simp[F261,E.lev,Bop.prec,Bop.str,qaF]
 |_=>simp[F261,E.lev]
inductive Parts:List ByteArray->List ByteArray->Prop
 |nil:Parts [] []
 |tok {t:ByteArray} {l ts:List ByteArray} (h:Parts l ts):Parts (t::l) (t::ts)
 |sub {a l ts:List ByteArray} (ha : ∀ t∈a,t.size≠0) (h:Parts l ts):Parts (bs (qaI false a)::l) (a++ts)
theorem qqO{l ts:List ByteArray}(h:Parts l ts) : ∀ w,pw w l=pw w ts:=by
 induction h with
 |nil=>intro w; rfl
 |tok h ih=>intro w; rw[qdO,qdO,ih]
 |sub ha h ih=>intro w; rw[ql4 w ha,qmH,qmH,ih]
theorem qhP{l ts:List ByteArray}{R:ByteArray}(hp:Parts l ts)(hR:R=bs (qaI false ts))(hn:l.length<2 ^ 30)(hsz:R.size<2 ^ 40):Z tS (.call 247 [.dat (.sl (qbJ l) l.length true)] [])=some (.ret (.str R) []):=
 qzD true (by rw[hR,qqO hp,quI]) hn hsz
theorem qkF(ts:List ByteArray)(p:Bool):(qaI false ts).length<=(qaI p ts).length:=by
 cases ts with
 |nil=>simp[qaI]
 |cons t ts=>
  simp only[qaI,Wb]
  have:(gap false t).length=0:=rfl
  cases hb:byl t with
  |nil=>
   have e : ∀ q,qb3 q t=q:=fun q=>by unfold qb3; rw[hb]; rfl
   rw[e,e]
   have:=qkF ts p
   simp[gap]
   omega
  |cons c r=>
   have e:qb3 p t=qb3 false t:=by
    unfold qb3
    cases hl:(byl t).getLast? with
    |none=>rw[Yh] at hl; rw[hl] at hb; cases hb
    |some c=>rfl
   rw[e]
   omega
theorem qbl(a b c:List ByteArray)(p:Bool):(qaI false b).length<=(qaI p (a++(b++c))).length:=by
 rw[qee,qee,Wb,Wb]
 have:=qkF b (qq4 p a)
 omega
theorem qhQ(ts:List ByteArray):qaI false (bs [40]::(ts++[bs [41]]))=40::(qaI false ts++[41]):=by
 have e1:qb3 false (bs [40])=false:=by decide
 have g1:gap false (bs [40])=[]:=rfl
 have g2 : ∀ q,gap q (bs [41])=[]:=fun q=>by cases q<;>decide
 rw[qaI,e1,g1,qee,qaI,g2]
 simp[qaI,qbg]
def qc8(e:E)(full:Bool)(p:Nat)(i:Int):Prop:=(qaI false (e.tx full p)).length<2 ^ 40->Z tS (.call 246 [e.node,.int i,.bool full] [])=some (.ret (.str (bs (qaI false (e.tx full p)))) [])
theorem qdt(full:Bool){e:E}(h:e.good)(p:Nat) : ∀ t∈e.tx full p,t.size≠0:=fun t ht=>qrO (qsO (qhS full e h p).ok t ht)
theorem qwh{full:Bool}{n:Int}(h0:0<=n)(h1:n<=2147483647){p:Nat}{i:Int}(hi:i=p)(hp:p<=8):qc8 (E.int n) full p i:=by
 intro hsz
 have zl:Z tS (.call 261 [.dat (.agg [.lit (.int .i64 8),.lit (.int .i64 n),.lit (.string ⟨#[]⟩),.lit (.slice none 0 0)])] [])=some (.ret (.int 8) []):=qem (.int n)
 have hc : ¬ (8:Int)<i:=by omega
 have hq : ¬ 8<p:=by omega
 have f0:Z tS (.call 20 [.int n] [])=some (.ret (.str (bs (qhZ n.toNat))) []):=by
  have:=qoS (n:=n.toNat) (by omega)
  rw[show ((n.toNat:Nat):Int)=n by omega] at this
  exact this
 have htx:(E.int n).tx full p=[bs (qhZ n.toNat)]:=by simp[E.tx,qcZ,qfh,ustr,bs,qg2,qkU,Bop.left]
 have hfin:bs (qaI false ((E.int n).tx full p))=(bs (qhZ n.toNat)):=by
  rw[htx,qaI,qaI,WD]
  exact qdz (bs (qhZ n.toNat))
 rw[hfin]
 clear hfin htx hsz
 refine qaa (pf:=F246) rfl rfl ?_
 cases full<;>simp[F246,qag,zl,hc,f0]
theorem qqP{full:Bool}{p:Nat}{i:Int}(hi:i=p)(hp:p<=8):qc8 (E.bool 0) full p i:=by
 intro hsz
 have zl:Z tS (.call 261 [.dat (.agg [.lit (.int .i64 9),.lit (.int .i64 0),.lit (.string ⟨#[]⟩),.lit (.slice none 0 0)])] [])=some (.ret (.int 8) []):=qem (.bool 0)
 have hc : ¬ (8:Int)<i:=by omega
 have hq : ¬ 8<p:=by omega
 have htx:(E.bool 0).tx full p=[⟨#[102,97,108,115,101]⟩]:=by simp[E.tx,qcZ,qfh,ustr,bs,qg2,qkU,Bop.left]
 have hfin:bs (qaI false ((E.bool 0).tx full p))=(⟨#[102,97,108,115,101]⟩):=by
  rw[htx,qaI,qaI,WD]
  exact qdz (⟨#[102,97,108,115,101]⟩)
 rw[hfin]
 clear hfin htx hsz
 refine qaa (pf:=F246) rfl rfl ?_
 cases full<;>simp[F246,qag,zl,hc]
theorem qqQ{full:Bool}{p:Nat}{i:Int}(hi:i=p)(hp:p<=8):qc8 (E.bool 1) full p i:=by
 intro hsz
 have zl:Z tS (.call 261 [.dat (.agg [.lit (.int .i64 9),.lit (.int .i64 1),.lit (.string ⟨#[]⟩),.lit (.slice none 0 0)])] [])=some (.ret (.int 8) []):=qem (.bool 1)
 have hc : ¬ (8:Int)<i:=by omega
 have hq : ¬ 8<p:=by omega
 have htx:(E.bool 1).tx full p=[⟨#[116,114,117,101]⟩]:=by simp[E.tx,qcZ,qfh,ustr,bs,qg2,qkU,Bop.left]
 have hfin:bs (qaI false ((E.bool 1).tx full p))=(⟨#[116,114,117,101]⟩):=by
  rw[htx,qaI,qaI,WD]
  exact qdz (⟨#[116,114,117,101]⟩)
 rw[hfin]
 clear hfin htx hsz
 refine qaa (pf:=F246) rfl rfl ?_
 cases full<;>simp[F246,qag,zl,hc]
theorem qwi{full:Bool}{s:ByteArray}{p:Nat}{i:Int}(hi:i=p)(hp:p<=8):qc8 (E.var s) full p i:=by
 intro hsz
 have zl:Z tS (.call 261 [.dat (.agg [.lit (.int .i64 10),.lit (.int .i64 0),.lit (.string s),.lit (.slice none 0 0)])] [])=some (.ret (.int 8) []):=qem (.var s)
 have hc : ¬ (8:Int)<i:=by omega
 have hq : ¬ 8<p:=by omega
 have htx:(E.var s).tx full p=[s]:=by simp[E.tx,qcZ,qfh,ustr,bs,qg2,qkU,Bop.left]
 have hfin:bs (qaI false ((E.var s).tx full p))=(s):=by
  rw[htx,qaI,qaI,WD]
  exact qdz (s)
 rw[hfin]
 clear hfin htx hsz
 refine qaa (pf:=F246) rfl rfl ?_
 cases full<;>simp[F246,qag,zl,hc]
theorem qtx{full:Bool}{s:ByteArray}{p:Nat}{i:Int}(hi:i=p)(hp:p<=8):qc8 (E.name s) full p i:=by
 intro hsz
 have zl:Z tS (.call 261 [.dat (.agg [.lit (.int .i64 12),.lit (.int .i64 0),.lit (.string s),.lit (.slice none 0 0)])] [])=some (.ret (.int 8) []):=qem (.name s)
 have hc : ¬ (8:Int)<i:=by omega
 have hq : ¬ 8<p:=by omega
 have htx:(E.name s).tx full p=[s]:=by simp[E.tx,qcZ,qfh,ustr,bs,qg2,qkU,Bop.left]
 have hfin:bs (qaI false ((E.name s).tx full p))=(s):=by
  rw[htx,qaI,qaI,WD]
  exact qdz (s)
 rw[hfin]
 clear hfin htx hsz
 refine qaa (pf:=F246) rfl rfl ?_
 cases full<;>simp[F246,qag,zl,hc]
theorem qqR{full:Bool}{f:Bool}{s:ByteArray}{e:E}(ge:e.good)(he:qc8 e full 1 1){p:Nat}{i:Int}(hi:i=p)(hp:p<=8):qc8 (E.field f s e) full p i:=by
 intro hsz
 have zl:Z tS (.call 261 [.dat (.agg [.lit (.int .i64 11),.lit (.int .i64 0),.lit (.string s),.sl [.lit (.int .i64 e.kind),.lit (.int .i64 e.num),.lit (.string e.str),e.kids] 1 f])] [])=some (.ret (.int 8) []):=qem (.field f s e)
 have hc : ¬ (8:Int)<i:=by omega
 have hq : ¬ 8<p:=by omega
 obtain⟨inn,hinn⟩ : ∃ v,v=[s]++([⟨#[91]⟩]++(e.tx full 1++([⟨#[93]⟩]++[]))):=⟨_,rfl⟩
 have htx:(E.field f s e).tx full p=inn:=by
  rw[hinn]
  simp[E.tx,qcZ,qfh,ustr,bs,qg2,qkU,Bop.left,hq]
 rw[htx] at hsz ⊢
 have hin:=hsz
 have z2:=he (WI (by
  have:=qbl ([s]++([⟨#[91]⟩])) (e.tx full 1) ([⟨#[93]⟩]++[]) false
  try simp only[Wo,Wg] at this
  rw[hinn]
  exact this) hin)
 have hP:Parts [s,⟨#[91]⟩,bs (qaI false (e.tx full 1)),⟨#[93]⟩] inn:=by rw[hinn]; exact (.tok (.tok (.sub (qdt full ge 1) (.tok .nil))))
 obtain⟨R,hR⟩ : ∃ v,v=bs (qaI false inn):=⟨_,rfl⟩
 have hRs:R.size<2 ^ 40:=by rw[hR,qa1]; exact hin
 have za:Z tS (.call 247 [.dat (.sl [.lit (.string s),.lit (.string ⟨#[91]⟩),.lit (.string (bs (qaI false (e.tx full 1)))),.lit (.string ⟨#[93]⟩)] 4 true)] [])=some (.ret (.str R) []):=qhP hP hR (by simp) hRs
 generalize bs (qaI false (e.tx full 1))=r2 at *
 rw[<- hR]
 clear hP hR hinn htx hsz hin
 refine qaa (pf:=F246) rfl rfl ?_
 cases full<;>simp[F246,qag,zl,hc,z2,za]
theorem qyK{f neg:Bool}{e:E}{L:Nat}(hL:L=qfh neg)(ge:e.good)(he:qc8 e false L L){p:Nat}{i:Int}(hi:i=p)(hp:p<=L):qc8 (E.un f neg e) false p i:=by
 intro hsz
 have zl:Z tS (.call 261 [.dat (.agg [.lit (.int .i64 13),.lit (.int .i64 0),.lit (.string (ustr neg)),.sl [.lit (.int .i64 e.kind),.lit (.int .i64 e.num),.lit (.string e.str),e.kids] 1 f])] [])=some (.ret (.int L) []):=by
  have:=qem (.un f neg e)
  rw[show E.lev (.un f neg e)=L from hL.symm] at this
  exact this
 have hc : ¬ (L:Int)<i:=by omega
 have hq : ¬ L<p:=by omega
 have h8:(L:Int)<8:=by rw[hL]; cases neg<;>decide
 obtain⟨inn,hinn⟩ : ∃ v,v=[(ustr neg)]++(e.tx false L++[]):=⟨_,rfl⟩
 have htx:(E.un f neg e).tx false p=inn:=by
  rw[hinn]
  simp[E.tx,qcZ,bs,hL.symm,hq]
 rw[htx] at hsz ⊢
 have hin:=hsz
 have z1:=he (WI (by
  have:=qbl ([(ustr neg)]) (e.tx false L) ([]) false
  try simp only[Wo,Wg] at this
  rw[hinn]
  exact this) hin)
 have hP:Parts [(ustr neg),bs (qaI false (e.tx false L))] inn:=by rw[hinn]; exact (.tok (.sub (qdt false ge L) .nil))
 obtain⟨R,hR⟩ : ∃ v,v=bs (qaI false inn):=⟨_,rfl⟩
 have hRs:R.size<2 ^ 40:=by rw[hR,qa1]; exact hin
 have za:Z tS (.call 247 [.dat (.sl [.lit (.string (ustr neg)),.lit (.string (bs (qaI false (e.tx false L))))] 2 true)] [])=some (.ret (.str R) []):=qhP hP hR (by simp) hRs
 generalize bs (qaI false (e.tx false L))=r1 at *
 rw[<- hR]
 clear hP hR hinn htx hsz hin
 refine qaa (pf:=F246) rfl rfl ?_
 simp[F246,qag,zl,hc,z1,za,h8]
theorem qwj{f neg:Bool}{e:E}{L:Nat}(hL:L=qfh neg)(ge:e.good)(he:qc8 e false L L){p:Nat}{i:Int}(hi:i=p)(hp:L<p):qc8 (E.un f neg e) false p i:=by
 intro hsz
 have zl:Z tS (.call 261 [.dat (.agg [.lit (.int .i64 13),.lit (.int .i64 0),.lit (.string (ustr neg)),.sl [.lit (.int .i64 e.kind),.lit (.int .i64 e.num),.lit (.string e.str),e.kids] 1 f])] [])=some (.ret (.int L) []):=by
  have:=qem (.un f neg e)
  rw[show E.lev (.un f neg e)=L from hL.symm] at this
  exact this
 have hc:(L:Int)<i:=by omega
 have hq:L<p:=hp
 have h8:(L:Int)<8:=by rw[hL]; cases neg<;>decide
 obtain⟨inn,hinn⟩ : ∃ v,v=[(ustr neg)]++(e.tx false L++[]):=⟨_,rfl⟩
 have htx:(E.un f neg e).tx false p=bs [40]::(inn++[bs [41]]):=by
  rw[hinn]
  simp[E.tx,qcZ,bs,hL.symm,hq]
 rw[htx] at hsz ⊢
 rw[qhQ] at hsz ⊢
 have hin:(qaI false inn).length<2 ^ 40:=by simp at hsz; omega
 have hin2:(qaI false inn).length+2<2 ^ 40:=by simp at hsz; omega
 have z1:=he (WI (by
  have:=qbl ([(ustr neg)]) (e.tx false L) ([]) false
  try simp only[Wo,Wg] at this
  rw[hinn]
  exact this) hin)
 have hP:Parts [(ustr neg),bs (qaI false (e.tx false L))] inn:=by rw[hinn]; exact (.tok (.sub (qdt false ge L) .nil))
 obtain⟨R,hR⟩ : ∃ v,v=bs (qaI false inn):=⟨_,rfl⟩
 have hRs:R.size<2 ^ 40:=by rw[hR,qa1]; exact hin
 have za:Z tS (.call 247 [.dat (.sl [.lit (.string (ustr neg)),.lit (.string (bs (qaI false (e.tx false L))))] 2 true)] [])=some (.ret (.str R) []):=qhP hP hR (by simp) hRs
 generalize bs (qaI false (e.tx false L))=r1 at *
 have hfin:bs (40::(qaI false inn++[41]))=⟨#[40]⟩++R++⟨#[41]⟩:=by
  rw[qcL,qcL ⟨#[40]⟩,qbg,hR,qbg]
  simp[byl]
 rw[hfin]
 have hRl:R.size+2<2 ^ 40:=by rw[hR,qa1]; exact hin2
 have y1:((⟨#[40]⟩:ByteArray).size:Int)=1:=rfl
 have y2:((⟨#[41]⟩:ByteArray).size:Int)=1:=rfl
 have y3:(⟨#[40]⟩:ByteArray).size=1:=rfl
 have y4:(⟨#[41]⟩:ByteArray).size=1:=rfl
 have y5 : ¬ (9223372036854775807:Int)<1+(R.size:Int):=by omega
 have y6 : ¬ (9223372036854775807:Int)<1+(R.size:Int)+1:=by omega
 have y7:(⟨#[40]⟩++R:ByteArray).size=1+R.size:=by rw[W1]; rfl
 clear hP hR hinn htx hsz hin hin2 hfin
 refine qaa (pf:=F246) rfl rfl ?_
 simp[F246,qag,zl,hc,y1,y2,y3,y4,y5,y6,y7,z1,za,h8]
theorem qwk{f:Bool}{o:Bop}{a b:E}{L:Nat}(hl:o.prec=L)(h4:L≠4)(ga:a.good)(gb:b.good)(ha:qc8 a false L L)(hb:qc8 b false (L+1) ((L:Int)+1)){p:Nat}{i:Int}(hi:i=p)(hp:p<=L):qc8 (E.bin f o a b) false p i:=by
 intro hsz
 have zl:Z tS (.call 261 [.dat (.agg [.lit (.int .i64 14),.lit (.int .i64 0),.lit (.string o.str),.sl [.lit (.int .i64 a.kind),.lit (.int .i64 a.num),.lit (.string a.str),a.kids,.lit (.int .i64 b.kind),.lit (.int .i64 b.num),.lit (.string b.str),b.kids] 2 f])] [])=some (.ret (.int L) []):=by
  have:=qem (.bin f o a b)
  rw[show E.lev (.bin f o a b)=L from hl] at this
  exact this
 have hc : ¬ (L:Int)<i:=by omega
 have hq : ¬ L<p:=by omega
 have hlf:o.left=L:=by have:=qbN o; omega
 have h4' : ¬ (L:Int)=4:=by omega
 have h8:(L:Int)<8:=by have:=qbN o; omega
 have w1:=qaf ((L:Int)+1) (by omega)
 obtain⟨inn,hinn⟩ : ∃ v,v=a.tx false L++([o.str]++(b.tx false (L+1)++[])):=⟨_,rfl⟩
 have htx:(E.bin f o a b).tx false p=inn:=by
  rw[hinn]
  simp[E.tx,qcZ,bs,hl,hlf,hq]
 rw[htx] at hsz ⊢
 have hin:=hsz
 have z0:=ha (WI (by
  have:=qbl ([]) (a.tx false L) ([o.str]++(b.tx false (L+1)++[])) false
  try simp only[Wo,Wg] at this
  rw[hinn]
  exact this) hin)
 have z2:=hb (WI (by
  have:=qbl (a.tx false L++([o.str])) (b.tx false (L+1)) ([]) false
  try simp only[Wo,Wg] at this
  rw[hinn]
  exact this) hin)
 have hP:Parts [bs (qaI false (a.tx false L)),o.str,bs (qaI false (b.tx false (L+1)))] inn:=by rw[hinn]; exact (.sub (qdt false ga L) (.tok (.sub (qdt false gb (L+1)) .nil)))
 obtain⟨R,hR⟩ : ∃ v,v=bs (qaI false inn):=⟨_,rfl⟩
 have hRs:R.size<2 ^ 40:=by rw[hR,qa1]; exact hin
 have za:Z tS (.call 247 [.dat (.sl [.lit (.string (bs (qaI false (a.tx false L)))),.lit (.string o.str),.lit (.string (bs (qaI false (b.tx false (L+1)))))] 3 true)] [])=some (.ret (.str R) []):=qhP hP hR (by simp) hRs
 generalize bs (qaI false (a.tx false L))=r0 at *
 generalize bs (qaI false (b.tx false (L+1)))=r2 at *
 rw[<- hR]
 clear hP hR hinn htx hsz hin
 refine qaa (pf:=F246) rfl rfl ?_
 simp[F246,qag,zl,hc,z0,z2,za,h4',h8,w1]
theorem qty{f:Bool}{o:Bop}{a b:E}{L:Nat}(hl:o.prec=L)(h4:L≠4)(ga:a.good)(gb:b.good)(ha:qc8 a false L L)(hb:qc8 b false (L+1) ((L:Int)+1)){p:Nat}{i:Int}(hi:i=p)(hp:L<p):qc8 (E.bin f o a b) false p i:=by
 intro hsz
 have zl:Z tS (.call 261 [.dat (.agg [.lit (.int .i64 14),.lit (.int .i64 0),.lit (.string o.str),.sl [.lit (.int .i64 a.kind),.lit (.int .i64 a.num),.lit (.string a.str),a.kids,.lit (.int .i64 b.kind),.lit (.int .i64 b.num),.lit (.string b.str),b.kids] 2 f])] [])=some (.ret (.int L) []):=by
  have:=qem (.bin f o a b)
  rw[show E.lev (.bin f o a b)=L from hl] at this
  exact this
 have hc:(L:Int)<i:=by omega
 have hq:L<p:=hp
 have hlf:o.left=L:=by have:=qbN o; omega
 have h4' : ¬ (L:Int)=4:=by omega
 have h8:(L:Int)<8:=by have:=qbN o; omega
 have w1:=qaf ((L:Int)+1) (by omega)
 obtain⟨inn,hinn⟩ : ∃ v,v=a.tx false L++([o.str]++(b.tx false (L+1)++[])):=⟨_,rfl⟩
 have htx:(E.bin f o a b).tx false p=bs [40]::(inn++[bs [41]]):=by
  rw[hinn]
  simp[E.tx,qcZ,bs,hl,hlf,hq]
 rw[htx] at hsz ⊢
 rw[qhQ] at hsz ⊢
 have hin:(qaI false inn).length<2 ^ 40:=by simp at hsz; omega
 have hin2:(qaI false inn).length+2<2 ^ 40:=by simp at hsz; omega
 have z0:=ha (WI (by
  have:=qbl ([]) (a.tx false L) ([o.str]++(b.tx false (L+1)++[])) false
  try simp only[Wo,Wg] at this
  rw[hinn]
  exact this) hin)
 have z2:=hb (WI (by
  have:=qbl (a.tx false L++([o.str])) (b.tx false (L+1)) ([]) false
  try simp only[Wo,Wg] at this
  rw[hinn]
  exact this) hin)
 have hP:Parts [bs (qaI false (a.tx false L)),o.str,bs (qaI false (b.tx false (L+1)))] inn:=by rw[hinn]; exact (.sub (qdt false ga L) (.tok (.sub (qdt false gb (L+1)) .nil)))
 obtain⟨R,hR⟩ : ∃ v,v=bs (qaI false inn):=⟨_,rfl⟩
 have hRs:R.size<2 ^ 40:=by rw[hR,qa1]; exact hin
 have za:Z tS (.call 247 [.dat (.sl [.lit (.string (bs (qaI false (a.tx false L)))),.lit (.string o.str),.lit (.string (bs (qaI false (b.tx false (L+1)))))] 3 true)] [])=some (.ret (.str R) []):=qhP hP hR (by simp) hRs
 generalize bs (qaI false (a.tx false L))=r0 at *
 generalize bs (qaI false (b.tx false (L+1)))=r2 at *
 have hfin:bs (40::(qaI false inn++[41]))=⟨#[40]⟩++R++⟨#[41]⟩:=by
  rw[qcL,qcL ⟨#[40]⟩,qbg,hR,qbg]
  simp[byl]
 rw[hfin]
 have hRl:R.size+2<2 ^ 40:=by rw[hR,qa1]; exact hin2
 have y1:((⟨#[40]⟩:ByteArray).size:Int)=1:=rfl
 have y2:((⟨#[41]⟩:ByteArray).size:Int)=1:=rfl
 have y3:(⟨#[40]⟩:ByteArray).size=1:=rfl
 have y4:(⟨#[41]⟩:ByteArray).size=1:=rfl
 have y5 : ¬ (9223372036854775807:Int)<1+(R.size:Int):=by omega
 have y6 : ¬ (9223372036854775807:Int)<1+(R.size:Int)+1:=by omega
 have y7:(⟨#[40]⟩++R:ByteArray).size=1+R.size:=by rw[W1]; rfl
 clear hP hR hinn htx hsz hin hin2 hfin
 refine qaa (pf:=F246) rfl rfl ?_
 simp[F246,qag,zl,hc,y1,y2,y3,y4,y5,y6,y7,z0,z2,za,h4',h8,w1]
theorem qtz{f:Bool}{o:Bop}{a b:E}(hl:o.prec=4)(ga:a.good)(gb:b.good)(ha:qc8 a false 5 5)(hb:qc8 b false 5 5){p:Nat}{i:Int}(hi:i=p)(hp:p<=4):qc8 (E.bin f o a b) false p i:=by
 intro hsz
 have zl:Z tS (.call 261 [.dat (.agg [.lit (.int .i64 14),.lit (.int .i64 0),.lit (.string o.str),.sl [.lit (.int .i64 a.kind),.lit (.int .i64 a.num),.lit (.string a.str),a.kids,.lit (.int .i64 b.kind),.lit (.int .i64 b.num),.lit (.string b.str),b.kids] 2 f])] [])=some (.ret (.int 4) []):=by
  have:=qem (.bin f o a b)
  rw[show E.lev (.bin f o a b)=4 from hl] at this
  exact this
 have hc : ¬ (4:Int)<i:=by omega
 have hq : ¬ 4<p:=by omega
 have hlf:o.left=5:=by have:=qbN o; omega
 obtain⟨inn,hinn⟩ : ∃ v,v=a.tx false 5++([o.str]++(b.tx false 5++[])):=⟨_,rfl⟩
 have htx:(E.bin f o a b).tx false p=inn:=by
  rw[hinn]
  simp[E.tx,qcZ,bs,hl,hlf,hq]
 rw[htx] at hsz ⊢
 have hin:=hsz
 have z0:=ha (WI (by
  have:=qbl ([]) (a.tx false 5) ([o.str]++(b.tx false 5++[])) false
  try simp only[Wo,Wg] at this
  rw[hinn]
  exact this) hin)
 have z2:=hb (WI (by
  have:=qbl (a.tx false 5++([o.str])) (b.tx false 5) ([]) false
  try simp only[Wo,Wg] at this
  rw[hinn]
  exact this) hin)
 have hP:Parts [bs (qaI false (a.tx false 5)),o.str,bs (qaI false (b.tx false 5))] inn:=by rw[hinn]; exact (.sub (qdt false ga 5) (.tok (.sub (qdt false gb 5) .nil)))
 obtain⟨R,hR⟩ : ∃ v,v=bs (qaI false inn):=⟨_,rfl⟩
 have hRs:R.size<2 ^ 40:=by rw[hR,qa1]; exact hin
 have za:Z tS (.call 247 [.dat (.sl [.lit (.string (bs (qaI false (a.tx false 5)))),.lit (.string o.str),.lit (.string (bs (qaI false (b.tx false 5))))] 3 true)] [])=some (.ret (.str R) []):=qhP hP hR (by simp) hRs
 generalize bs (qaI false (a.tx false 5))=r0 at *
 generalize bs (qaI false (b.tx false 5))=r2 at *
 rw[<- hR]
 clear hP hR hinn htx hsz hin
 refine qaa (pf:=F246) rfl rfl ?_
 simp[F246,qag,zl,hc,z0,z2,za,qaf 5 (by omega)]
theorem qqS{f:Bool}{o:Bop}{a b:E}(hl:o.prec=4)(ga:a.good)(gb:b.good)(ha:qc8 a false 5 5)(hb:qc8 b false 5 5){p:Nat}{i:Int}(hi:i=p)(hp:4<p):qc8 (E.bin f o a b) false p i:=by
 intro hsz
 have zl:Z tS (.call 261 [.dat (.agg [.lit (.int .i64 14),.lit (.int .i64 0),.lit (.string o.str),.sl [.lit (.int .i64 a.kind),.lit (.int .i64 a.num),.lit (.string a.str),a.kids,.lit (.int .i64 b.kind),.lit (.int .i64 b.num),.lit (.string b.str),b.kids] 2 f])] [])=some (.ret (.int 4) []):=by
  have:=qem (.bin f o a b)
  rw[show E.lev (.bin f o a b)=4 from hl] at this
  exact this
 have hc:(4:Int)<i:=by omega
 have hq:4<p:=hp
 have hlf:o.left=5:=by have:=qbN o; omega
 obtain⟨inn,hinn⟩ : ∃ v,v=a.tx false 5++([o.str]++(b.tx false 5++[])):=⟨_,rfl⟩
 have htx:(E.bin f o a b).tx false p=bs [40]::(inn++[bs [41]]):=by
  rw[hinn]
  simp[E.tx,qcZ,bs,hl,hlf,hq]
 rw[htx] at hsz ⊢
 rw[qhQ] at hsz ⊢
 have hin:(qaI false inn).length<2 ^ 40:=by simp at hsz; omega
 have hin2:(qaI false inn).length+2<2 ^ 40:=by simp at hsz; omega
 have z0:=ha (WI (by
  have:=qbl ([]) (a.tx false 5) ([o.str]++(b.tx false 5++[])) false
  try simp only[Wo,Wg] at this
  rw[hinn]
  exact this) hin)
 have z2:=hb (WI (by
  have:=qbl (a.tx false 5++([o.str])) (b.tx false 5) ([]) false
  try simp only[Wo,Wg] at this
  rw[hinn]
  exact this) hin)
 have hP:Parts [bs (qaI false (a.tx false 5)),o.str,bs (qaI false (b.tx false 5))] inn:=by rw[hinn]; exact (.sub (qdt false ga 5) (.tok (.sub (qdt false gb 5) .nil)))
 obtain⟨R,hR⟩ : ∃ v,v=bs (qaI false inn):=⟨_,rfl⟩
 have hRs:R.size<2 ^ 40:=by rw[hR,qa1]; exact hin
 have za:Z tS (.call 247 [.dat (.sl [.lit (.string (bs (qaI false (a.tx false 5)))),.lit (.string o.str),.lit (.string (bs (qaI false (b.tx false 5))))] 3 true)] [])=some (.ret (.str R) []):=qhP hP hR (by simp) hRs
 generalize bs (qaI false (a.tx false 5))=r0 at *
 generalize bs (qaI false (b.tx false 5))=r2 at *
 have hfin:bs (40::(qaI false inn++[41]))=⟨#[40]⟩++R++⟨#[41]⟩:=by
  rw[qcL,qcL ⟨#[40]⟩,qbg,hR,qbg]
  simp[byl]
 rw[hfin]
 have hRl:R.size+2<2 ^ 40:=by rw[hR,qa1]; exact hin2
 have y1:((⟨#[40]⟩:ByteArray).size:Int)=1:=rfl
 have y2:((⟨#[41]⟩:ByteArray).size:Int)=1:=rfl
 have y3:(⟨#[40]⟩:ByteArray).size=1:=rfl
 have y4:(⟨#[41]⟩:ByteArray).size=1:=rfl
 have y5 : ¬ (9223372036854775807:Int)<1+(R.size:Int):=by omega
 have y6 : ¬ (9223372036854775807:Int)<1+(R.size:Int)+1:=by omega
 have y7:(⟨#[40]⟩++R:ByteArray).size=1+R.size:=by rw[W1]; rfl
 clear hP hR hinn htx hsz hin hin2 hfin
 refine qaa (pf:=F246) rfl rfl ?_
 simp[F246,qag,zl,hc,y1,y2,y3,y4,y5,y6,y7,z0,z2,za,qaf 5 (by omega)]
theorem qkG : ∀ e:E,e.good -> ∀ p i,i=((p:Nat):Int)->p<=8->qc8 e false p i
 |.int n,h,p,i,hi,hp=>qwh h.1 h.2 hi hp
 |.bool n,h,p,i,hi,hp=>by
  rcases h with rfl|rfl
  ·exact qqP hi hp
  ·exact qqQ hi hp
 |.var s,h,p,i,hi,hp=>qwi hi hp
 |.name s,h,p,i,hi,hp=>qtx hi hp
 |.field f s e,h,p,i,hi,hp=>qqR h.2 (qkG e h.2 1 1 rfl (by omega)) hi hp
 |.un f neg e,h,p,i,hi,hp=>by
  have hg:e.good:=h
  have A:=qkG e hg (qfh neg) (qfh neg) rfl (by cases neg<;>decide)
  by_cases hq:qfh neg<p
  ·exact qwj rfl hg A hi hq
  ·exact qyK rfl hg A hi (by omega)
 |.bin f o a b,h,p,i,hi,hp=>by
  have hr:=qbN o
  have A:=qkG a h.1 o.left o.left rfl (by omega)
  have B:=qkG b h.2 (o.prec+1) ((o.prec:Int)+1) (by omega) (by omega)
  by_cases h4:o.prec=4
  ·rw[show o.left=5 by omega] at A
   rw[h4] at B
   by_cases hq:4<p
   ·exact qqS h4 h.1 h.2 A B hi hq
   ·exact qtz h4 h.1 h.2 A B hi (by omega)
  ·rw[show o.left=o.prec by omega] at A
   by_cases hq:o.prec<p
   ·exact qty rfl h4 h.1 h.2 A B hi hq
   ·exact qwk rfl h4 h.1 h.2 A B hi (by omega)
theorem qwl{e:E}(h:e.good)(hsz:(qaI false (e.tx false 1)).length<2 ^ 40):Z tS (.call 234 [e.node] [])=some (.ret (.str (bs (qaI false (e.tx false 1)))) []):=by
 have z:=qkG e h 1 1 rfl (by omega) hsz
 generalize bs (qaI false (e.tx false 1))=R at *
 refine qaa (pf:=F234) rfl rfl ?_
 simp[F234,z]
end
end Go.Pm
section
namespace Go.Pm.F
def tP:Nat->Option PFun
 |228=>some F228
 |239=>some F239
 |240=>some F240
 |241=>some F241
 |242=>some F242
 |249=>some F249
 |250=>some F250
 |251=>some F251
 |252=>some F252
 |253=>some F253
 |254=>some F254
 |255=>some F255
 |256=>some F256
 |264=>some F264
 |265=>some F265
 |266=>some F266
 |267=>some F267
 |268=>some F268
 |269=>some F269
 |270=>some F270
 |271=>some F271
 |275=>some F275
 |276=>some F276
 |277=>some F277
 |278=>some F278
 |279=>some F279
 |280=>some F280
 |281=>some F281
 |284=>some F284
 |285=>some F285
 |286=>some F286
 |287=>some F287
 |289=>some F289
 |290=>some F290
 |292=>some F292
 |297=>some F297
 |303=>some F303
 |304=>some F304
 |307=>some F307
 |308=>some F308
 |309=>some F309
 |_=>none
end Go.Pm.F
end
namespace Go.Pm
section
open F
theorem qeG(c:UInt8):Z tP (.call 264 [.dat (.lit (.int .u8 c.toNat))] [])=some (.ret (.bool (qa7 c)) []):=by
 refine qaa (pf:=F264) rfl rfl ?_
 by_cases h1:(97:Int)<=c.toNat
 ·have h1':97<=c.toNat:=by omega
  by_cases h2:(c.toNat:Int)<=122
  ·have h2':c.toNat<=122:=by omega
   simp[F264,qa7,h1,h1',h2,h2']
  ·have h2' : ¬ c.toNat<=122:=by omega
   simp[F264,qa7,h1,h1',h2,h2']
 ·have h1' : ¬ 97<=c.toNat:=by omega
  simp[F264,qa7,h1,h1']
theorem qf0(c:UInt8):Z tP (.call 266 [.dat (.lit (.int .u8 c.toNat))] [])=some (.ret (.bool (qau c)) []):=by
 refine qaa (pf:=F266) rfl rfl ?_
 by_cases h1:(48:Int)<=c.toNat
 ·have h1':48<=c.toNat:=by omega
  by_cases h2:(c.toNat:Int)<=57
  ·have h2':c.toNat<=57:=by omega
   simp[F266,qau,h1,h1',h2,h2']
  ·have h2' : ¬ c.toNat<=57:=by omega
   simp[F266,qau,h1,h1',h2,h2']
 ·have h1' : ¬ 48<=c.toNat:=by omega
  simp[F266,qau,h1,h1']
theorem qoP {d:D} {l:List ByteArray} (hd:RowS d l) (hl:l.length<2 ^ 40) (x:ByteArray) : ∀ (m i:Nat),i+m=l.length ->
  (x∉l.drop i->Z tP (.loop 0 F284l0 [(0,.dat d),(1,.str x),(7,.int l.length),(8,.int i)] [])=some (.out (.exit 0) [(0,.dat d),(1,.str x),(7,.int l.length),(8,.int l.length),(9,.bool false)] [])) /\
  (x∈l.drop i -> ∃ (j:Nat),Z tP (.loop 0 F284l0 [(0,.dat d),(1,.str x),(7,.int l.length),(8,.int i)] [])=some (.out .ret [(4,.int j)] []))
 |0,i,hi=>by
  obtain rfl:i=l.length:=by omega
  have ho:=hd.one
  have hc:=hd.cells
  refine⟨fun _=>?_,fun h=>by simp at h⟩
  rw[qac]
  simp[qad,qe5,ho,hc]
 |m+1,i,hi=>by
  have hlt:i<l.length:=by omega
  have hlt':(i:Int)<l.length:=by omega
  have ho:=hd.one
  have hcl:=hd.cells
  have ha:=hd.at_ i hlt
  have hc:=qge l i hlt
  have w1:=qaf ((i:Int)+1) (by omega)
  have hdr:l.drop i=l[i]::l.drop (i+1):=WC hlt
  obtain⟨ih1,ih2⟩:=qoP hd hl x m (i+1) (by omega)
  simp only[WE,Wv] at ih1 ih2
  rw[hdr]
  generalize l[i]=y at hc ⊢
  by_cases hx:x=y
  ·subst hx
   refine⟨fun h=>absurd (WQ ..) h,fun _=>⟨i,?_⟩⟩
   rw[qac]
   simp[qad,qe5,hlt',ha,hc,qaF,ho,hcl]
  ·refine⟨fun h=>?_,fun h=>?_⟩
   ·have z:=ih1 (fun h'=>h (Wz _ h'))
    rw[qac]
    simp[qad,qe5,hlt',ha,hc,qaF,hx,w1,z,ho,hcl]
   ·rcases Wp.1 h with h|h
    ·exact absurd h hx
    ·obtain⟨j,z⟩:=ih2 h
     refine⟨j,?_⟩
     rw[qac]
     simp[qad,qe5,hlt',ha,hc,qaF,hx,w1,z,ho,hcl]
theorem qnz{d:D}{l:List ByteArray}(hd:RowS d l)(hl:l.length<2 ^ 40)(x:ByteArray):Z tP (.call 276 [.dat d,.str x] [])=some (.ret (.bool (decide (x∈l))) []):=by
 have ho:=hd.one
 have hc:=hd.cells
 have hn:=hd.len
 obtain⟨i1,i2⟩:=qoP hd hl x l.length 0 (by omega)
 simp only[YA,WT] at i1 i2
 by_cases h:x∈l
 ·obtain⟨j,z⟩:=i2 h
  have z2:Z tP (.call 284 [.dat d,.str x] [])=some (.ret (.int j) []):=by
   refine qaa (pf:=F284) rfl rfl ?_
   simp[F284,ho,hc,hn,z]
  have hj:(0:Int)<=j:=by omega
  refine qaa (pf:=F276) rfl rfl ?_
  simp[F276,ho,hc,z2,h,hj]
 ·have z:=i1 h
  have z2:Z tP (.call 284 [.dat d,.str x] [])=some (.ret (.int (-1)) []):=by
   refine qaa (pf:=F284) rfl rfl ?_
   simp[F284,ho,hc,hn,z]
  refine qaa (pf:=F276) rfl rfl ?_
  simp[F276,ho,hc,z2,h]
end
section
open F
def kwL:List (List UInt8 × Int):=[([111,110],2),([97,99,116],2),([116,105,99,107],2),([105,102],2),([101,108,115,101],2),([119,104,105,108,101],2),([101,102,102,101,99,116],2),([115,116,111,112],2),([116,114,117,101],2),([102,97,108,115,101],2),([115,101,108,102],2),([111,116,104,101,114],2),([120],3),([121],3),([118,120],3),([118,121],3),([97],3),([98],3),([104,105,116],3),([115,116,105,108,108],3)]
def kwM:List (Value × V):=kwL.map fun x=>(.string ⟨x.1.toArray⟩,.int x.2)
theorem qnj(s:ByteArray):Z tP (.call 239 [.str s] [])=some (.ret (.agg [.str s,.mp 0]) [.map kwM]):=by
 exact qeZ (n:=2) (by kernel_rfl)
theorem qtd(w:ByteArray):qea .s (.string w) kwM=some (if w∈fieldNames then some (.int 3) else if w∈wordNames then some (.int 2) else none):=by
 have key : ∀ (l:List (List UInt8 × Int)),qea .s (.string w) (l.map fun x=>(Value.string ⟨x.1.toArray⟩,V.int x.2))=some ((l.find? fun x=>decide (bs x.1=w)).map fun x => .int x.2):=fun l=>by
  induction l with
  |nil=>rfl
  |cons x l ih=>
   simp only[Wu,qea,qb8,ih,List.find?_cons]
   by_cases h:bs x.1=w
   ·have h':(w==(⟨x.1.toArray⟩:ByteArray))=true:=by rw[beq_iff_eq]; exact h.symm
    have h2:((⟨x.1.toArray⟩:ByteArray)==w)=true:=by rw[beq_iff_eq]; exact h
    simp[h,h',h2]
   ·have h':(w==(⟨x.1.toArray⟩:ByteArray))=false:=by rw[beq_eq_false_iff_ne]; exact fun e=>h e.symm
    have h2:((⟨x.1.toArray⟩:ByteArray)==w)=false:=by rw[beq_eq_false_iff_ne]; exact h
    simp[h,h',h2]
 rw[kwM,key]
 congr 1
 by_cases h1:w∈fieldNames
 ·rw[if_pos h1]
  simp only[fieldNames,Wp,Ws,or_false] at h1
  rcases h1 with rfl|rfl|rfl|rfl|rfl|rfl|rfl|rfl<;>rfl
 rw[if_neg h1]
 by_cases h2:w∈wordNames
 ·rw[if_pos h2]
  have hne:w≠qrU:=fun e=>h1 (by rw[e]; decide)
  simp only[wordNames,Wp,Ws,or_false] at h2
  rcases h2 with rfl|rfl|rfl|h2|rfl|rfl|rfl|rfl|rfl|rfl|rfl|rfl|rfl
  case inr.inr.inr.inl=>exact absurd h2 hne
  all_goals rfl
 rw[if_neg h2]
 have:kwL.find? (fun x=>decide (bs x.1=w))=none:=by
  rw[YF]
  intro x hx
  have hall : ∀ x∈kwL,bs x.1∈fieldNames\/bs x.1∈wordNames:=by decide
  rw[decide_eq_true_eq]
  rintro rfl
  rcases hall x hx with h|h
  ·exact h1 h
  ·exact h2 h
 rw[this]
 rfl
abbrev pO(s:ByteArray)(m:Nat)(Q:V)(i a c:Int):Ob := .cells [.str s,.mp m,Q,.int i,.int a,.int c]
inductive LxS(s:ByteArray):S->Prop
 |nil (i a c:Int):LxS s [pO s 1 (.dat (.lit (.slice none 0 0))) i a c,.map kwM]
 |gr (cs:List D) (n t:Nat) (i a c:Int):LxS s [pO s 1 (.gsl cs n 5 2) i a c,.map kwM,.tip t]
theorem qbb:qg6 kwM=[]:=rfl
theorem qbT(r:Nat->Nat):qqn r kwM=kwM:=rfl
attribute [local simp] qbb qbT
theorem qiy (s:ByteArray) (hl:s.size<2 ^ 40) {σ : S} (hσ : LxS s σ) : ∀ (m i:Nat) (cm:Bool),i+m=s.size ->
  (i+qa4 cm ((byl s).drop i)=s.size /\ ∃ v,Z tP (.loop σ.length F251l0 [(0,.ptr 0 0),(1,.int i),(5,.bool cm)] σ)=some (.out (.exit 0) [(0,.ptr 0 0),(1,.int s.size),(5,v),(13,.bool false)] σ)) \/
  Z tP (.loop σ.length F251l0 [(0,.ptr 0 0),(1,.int i),(5,.bool cm)] σ)=some (.out .ret [(4,.int ((i+qa4 cm ((byl s).drop i):Nat)))] σ)
 |0,i,cm,hi=>by
  obtain rfl:i=s.size:=by omega
  have hd:(byl s).drop s.size=[]:=WY (by rw[qaW]; exact Wi _)
  refine .inl ⟨by rw[hd]; simp[qa4],.bool cm,?_⟩
  rw[qac]
  cases hσ <;> simp[qad,qdf,V.len,Wa]
 |m+1,i,cm,hi=>by
  obtain⟨c,h1,h2⟩:=qpt (s:=s) (i:=i) (by omega)
  have hd:=qic h2
  have hlt:(i:Int)<s.size:=by omega
  have w1:=qaf ((i:Int)+1) (by omega)
  have ih:=fun cm=>qiy s hl hσ m (i+1) cm (by omega)
  have fin : ∀ cm',qa4 cm ((byl s).drop i)=1+qa4 cm' ((byl s).drop (i+1)) ->
    Z tP (.loop σ.length F251l0 [(0,.ptr 0 0),(1,.int i),(5,.bool cm)] σ)=Z tP (.loop σ.length F251l0 [(0,.ptr 0 0),(1,.int (i+1)),(5,.bool cm')] σ) ->
    (i+qa4 cm ((byl s).drop i)=s.size /\ ∃ v,Z tP (.loop σ.length F251l0 [(0,.ptr 0 0),(1,.int i),(5,.bool cm)] σ)=some (.out (.exit 0) [(0,.ptr 0 0),(1,.int s.size),(5,v),(13,.bool false)] σ)) \/
    Z tP (.loop σ.length F251l0 [(0,.ptr 0 0),(1,.int i),(5,.bool cm)] σ)=some (.out .ret [(4,.int ((i+qa4 cm ((byl s).drop i):Nat)))] σ):=fun cm' e z=>by
   rw[e,z]
   have ih:=ih cm'
   rw[show i+(1+qa4 cm' ((byl s).drop (i+1)))=i+1+qa4 cm' ((byl s).drop (i+1)) by omega]
   simpa using ih
  by_cases h10:c.toNat=10
  ·refine fin false (by rw[hd]; simp[qa4,h10]; omega) ?_
   rw[qac]
   cases hσ <;> simp[qad,qdf,V.len,h1,hlt,h10,w1,Wa]
  have h10' : ¬ (c.toNat:Int)=10:=by omega
  by_cases hc:cm=true\/c.toNat=32\/c.toNat=9
  ·refine fin cm (by rw[hd]; simp only[qa4,if_neg h10,if_pos hc]; omega) ?_
   rw[qac]
   cases cm
   ·have h9:c.toNat=32\/c.toNat=9:=by simpa using hc
    rcases h9 with h9|h9<;>cases hσ <;> simp[qad,qdf,V.len,h1,hlt,h10',h9,w1,Wa]
   ·cases hσ <;> simp[qad,qdf,V.len,h1,hlt,h10',w1,Wa]
  have hc':=hc
  simp only[not_or,Bool.not_eq_true] at hc'
  obtain⟨rfl,h32,h9⟩:=hc'
  have h32' : ¬ (c.toNat:Int)=32:=by omega
  have h9' : ¬ (c.toNat:Int)=9:=by omega
  by_cases h35:c.toNat=35
  ·refine fin true (by rw[hd]; simp only[qa4,if_neg h10,if_neg hc,if_pos h35]; omega) ?_
   rw[qac]
   cases hσ <;> simp[qad,qdf,V.len,h1,hlt,h35,w1,Wa]
  ·have h35' : ¬ (c.toNat:Int)=35:=by omega
   have e:qa4 false ((byl s).drop i)=0:=by rw[hd]; simp only[qa4,if_neg h10,if_neg hc,if_neg h35]
   rw[e]
   refine .inr ?_
   rw[qac]
   cases hσ <;> simp[qad,qdf,V.len,h1,hlt,h10',h32',h9',h35',Wa]
theorem qoj(s:ByteArray)(hl:s.size<2 ^ 40){σ : S}(hσ : LxS s σ){i:Nat}(hi:i<=s.size):Z tP (.call 251 [.ptr 0 0,.int i] σ)=some (.ret (.int ((i+qa4 false ((byl s).drop i):Nat))) σ):=by
 rcases qiy s hl hσ (s.size-i) i false (by omega) with ⟨h,v,z⟩|z
 ·rw[h]
  refine qaa (pf:=F251) rfl rfl ?_
  cases hσ <;> simp only[Wd,Wj,Nat.reduceAdd] at z<;>simp[F251,z,Wa]
 ·generalize i+qa4 false ((byl s).drop i)=j at z ⊢
  refine qaa (pf:=F251) rfl rfl ?_
  cases hσ <;> simp only[Wd,Wj,Nat.reduceAdd] at z<;>simp[F251,z,Wa]
end
section
open F
attribute [local simp] qbb qbT
abbrev tk5:Ob := .cells [.int 0,.str ⟨#[]⟩,.int 0,.int 0,.int 0]
theorem qiz (s:ByteArray) (hl:s.size<2 ^ 40) {σ : S} (hσ : LxS s σ) (a:Int) : ∀ (m i:Nat),i+m=s.size ->
  Z tP (.loop σ.length F265l0 [(0,.ptr 0 0),(1,.int a),(4,.ptr σ.length 0),(5,.int i)] (σ ++ [tk5]))=some (.out (.exit 0) [(0,.ptr 0 0),(1,.int a),(4,.ptr σ.length 0),(5,.int ((i+qbO qay ((byl s).drop i):Nat))),(34,.bool false)] (σ ++ [tk5]))
 |0,i,hi=>by
  obtain rfl:i=s.size:=by omega
  have hd:(byl s).drop s.size=[]:=WY (by rw[qaW]; exact Wi _)
  rw[qac,hd]
  cases hσ <;> simp[qad,qe4,V.len,qbO,Wa]
 |m+1,i,hi=>by
  obtain⟨c,h1,h2⟩:=qpt (s:=s) (i:=i) (by omega)
  have hd:=qic h2
  have hlt:(i:Int)<s.size:=by omega
  have w1:=qaf ((i:Int)+1) (by omega)
  have zl:=qeG c
  have zd:=qf0 c
  have ih:=qiz s hl hσ a m (i+1) (by omega)
  simp only[WE,Wv] at ih
  by_cases hc:qay c=true
  ·have e:(i:Int)+((qbO qay ((byl s).drop (i+1)):Int)+1)=i+1+qbO qay ((byl s).drop (i+1)):=by omega
   rw[qac,hd]
   simp only[qay,Yt] at hc
   by_cases hcl:qa7 c=true
   ·cases hσ <;> simp only[Wh,Wg,Wd,Wj,Nat.reduceAdd] at ih<;>simp[qad,qe4,V.len,qbO,h1,hlt,w1,zl,zd,hcl,ih,qay,e,Wa]
   ·have hcd:qau c=true:=by rcases hc with h|h; exact absurd h hcl; exact h
    cases hσ <;> simp only[Wh,Wg,Wd,Wj,Nat.reduceAdd] at ih<;>simp[qad,qe4,V.len,qbO,h1,hlt,w1,zl,zd,hcl,hcd,ih,qay,e,Wa]
  ·simp only[qay,Yt,not_or] at hc
   rw[qac,hd]
   cases hσ <;> simp[qad,qe4,V.len,qbO,h1,hlt,w1,zl,zd,hc.1,hc.2,qay,Wa]
abbrev ptD(k:Int)(t:ByteArray)(a v c:Int):V := .dat (.agg [.lit (.int .i64 k),.lit (.string t),.lit (.int .i64 a),.lit (.int .i64 v),.lit (.int .i64 c)])
def pkW(w:ByteArray):Int:=if w∈fieldNames then 3 else if w∈wordNames then 2 else if 8<w.size then 6 else 1
def pcW(w:ByteArray):Int:=if w∈fieldNames\/w∈wordNames then 0 else if 8<w.size then 2 else 0
theorem qte(s:ByteArray)(hl:s.size<2 ^ 40){σ : S}(hσ : LxS s σ){i:Nat}(hi:i<=s.size):Z tP (.call 265 [.ptr 0 0,.int i] σ)=some (.ret (ptD (pkW (s.extract i (i+qbO qay ((byl s).drop i)))) (s.extract i (i+qbO qay ((byl s).drop i))) i 0 (pcW (s.extract i (i+qbO qay ((byl s).drop i))))) σ):=by
 have z:=qiz s hl hσ i (s.size-i) i (by omega)
 have hr:=qfD qay ((byl s).drop i)
 rw[W5,qaW] at hr
 generalize hq:i+qbO qay ((byl s).drop i)=q at z ⊢
 have q1:(i:Int)<=q:=by omega
 have q2:(q:Int)<=s.size:=by omega
 have q3:(i:Int)<=s.size:=by omega
 have hk:=qtd (s.extract i q)
 have hws:(s.extract i q).size<=s.size:=by rw[ByteArray.size_extract]; omega
 obtain⟨w,hw⟩ : ∃ w,s.extract i q=w:=⟨_,rfl⟩
 rw[hw] at hk hws ⊢
 refine qaa (pf:=F265) rfl rfl ?_
 unfold pkW pcW
 by_cases h1:w∈fieldNames
 ·rw[if_pos h1] at hk
  cases hσ <;> simp only[Wh,Wg,Wd,Wj,Nat.reduceAdd] at z<;>simp[F265,z,qcf,bound,q1,q2,q3,hw,hk,h1,qep,qa9,qaq,Wa]
 by_cases h2:w∈wordNames
 ·rw[if_neg h1,if_pos h2] at hk
  cases hσ <;> simp only[Wh,Wg,Wd,Wj,Nat.reduceAdd] at z<;>simp[F265,z,qcf,bound,q1,q2,q3,hw,hk,h1,h2,qep,qa9,qaq,Wa]
 rw[if_neg h1,if_neg h2] at hk
 by_cases h3:8<w.size
 ·have h3':(8:Int)<w.size:=by omega
  cases hσ <;> simp only[Wh,Wg,Wd,Wj,Nat.reduceAdd] at z<;>simp[F265,z,qcf,bound,q1,q2,q3,hw,hk,h1,h2,h3,h3',V.len,qep,qa9,qaq,Wa]
 ·have h3' : ¬ (8:Int)<w.size:=by omega
  cases hσ <;> simp only[Wh,Wg,Wd,Wj,Nat.reduceAdd] at z<;>simp[F265,z,qcf,bound,q1,q2,q3,hw,hk,h1,h2,h3,h3',V.len,qep,qa9,qaq,Wa]
def qqk(v:Nat)(l:List UInt8):Nat:=l.foldl (fun v c=>min (10*v+(c.toNat-48)) 2147483648) v
theorem qtf(l:List UInt8) : ∀ n,qqk (min n 2147483648) l=min (l.foldl (fun v c=>10*v+(c.toNat-48)) n) 2147483648:=by
 induction l with
 |nil=>intro n; rfl
 |cons c l ih=>
  intro n
  have:=ih (10*n+(c.toNat-48))
  simp only[qqk,W3] at this ⊢
  rw[<- this]
  congr 1
  omega
theorem qql(l:List UInt8):qqk 0 l=min (digV l) 2147483648:=qtf l 0
theorem qko (s:ByteArray) (hl:s.size<2 ^ 40) {σ : S} (hσ : LxS s σ) (a:Int) : ∀ (m i v:Nat),i+m=s.size->v<=2147483648 ->
  Z tP (.loop σ.length F267l0 [(0,.ptr 0 0),(1,.int a),(4,.ptr σ.length 0),(5,.int i),(6,.int v)] (σ ++ [tk5]))=some (.out (.exit 0) [(0,.ptr 0 0),(1,.int a),(4,.ptr σ.length 0),(5,.int ((i+qbO qau ((byl s).drop i):Nat))),(6,.int (qqk v (((byl s).drop i).take (qbO qau ((byl s).drop i))))),(24,.bool false)] (σ ++ [tk5]))
 |0,i,v,hi,hv=>by
  obtain rfl:i=s.size:=by omega
  have hd:(byl s).drop s.size=[]:=WY (by rw[qaW]; exact Wi _)
  rw[qac,hd]
  cases hσ <;> simp[qad,qgp,V.len,qbO,qqk,Wa]
 |m+1,i,v,hi,hv=>by
  obtain⟨c,h1,h2⟩:=qpt (s:=s) (i:=i) (by omega)
  have hd:=qic h2
  have hlt:(i:Int)<s.size:=by omega
  have w1:=qaf ((i:Int)+1) (by omega)
  have zd:=qf0 c
  by_cases hc:qau c=true
  ·have hc2:48<=c.toNat/\c.toNat<=57:=by simpa [qau] using hc
   have ih:=qko s hl hσ a m (i+1) (min (10*v+(c.toNat-48)) 2147483648) (by omega) (Nat.min_le_right _ _)
   have e:(i:Int)+((qbO qau ((byl s).drop (i+1)):Int)+1)=i+1+qbO qau ((byl s).drop (i+1)):=by omega
   have es:qqk v (((byl s).drop i).take (qbO qau ((byl s).drop i)))=qqk (min (10*v+(c.toNat-48)) 2147483648) (((byl s).drop (i+1)).take (qbO qau ((byl s).drop (i+1)))):=by
    rw[hd]; simp[qbO,hc,qqk]
   rw[es]
   have er:i+qbO qau ((byl s).drop i)=i+1+qbO qau ((byl s).drop (i+1)):=by
    rw[hd]; simp[qbO,hc]; omega
   rw[er]
   have u0 : ∀ d:Nat,d<10->IntKind.u8.wrap (d:Int)=d:=by decide
   have u1:IntKind.u8.wrap ((c.toNat:Int)-48)=c.toNat-48:=by
    rw[show ((c.toNat:Int)-48)=((c.toNat-48:Nat):Int) by omega]; exact u0 _ (by omega)
   have u2:IntKind.i64.wrap ((c.toNat:Int)-48)=c.toNat-48:=qaf _ (by omega)
   have u3:IntKind.i64.wrap (10*(v:Int))=10*v:=qaf _ (by omega)
   have u4:IntKind.i64.wrap (10*(v:Int)+((c.toNat:Int)-48))=10*v+(c.toNat-48):=qaf _ (by omega)
   have u5:(if 2147483648<10*(v:Int)+(c.toNat-48) then 2147483648 else 10*(v:Int)+(c.toNat-48))=((min (10*v+(c.toNat-48)) 2147483648:Nat):Int):=by split<;>omega
   generalize min (10*v+(c.toNat-48)) 2147483648=v' at ih u5 ⊢
   rw[<- ih,qac]
   cases hσ <;> simp[qad,qgp,V.len,h1,hlt,w1,zd,hc,u1,u2,u3,u4,u5,qtj,qkx,Wa]
  ·have e0:qbO qau ((byl s).drop i)=0:=by rw[hd]; simp[qbO,hc]
   rw[e0,qac]
   cases hσ <;> simp[qad,qgp,V.len,h1,hlt,zd,hc,qqk,Wa]
end
section
open F
attribute [local simp] qbb qbT
theorem qwe (s:ByteArray) (hl:s.size<2 ^ 40) {σ : S} (hσ : LxS s σ) {i:Nat} (hi:i<=s.size):Z tP (.call 267 [.ptr 0 0,.int i] σ) =
  some (.ret (ptD (if 2147483647<digV (((byl s).drop i).take (qbO qau ((byl s).drop i))) then 6 else 4) (s.extract i (i+qbO qau ((byl s).drop i))) i (min (digV (((byl s).drop i).take (qbO qau ((byl s).drop i)))) 2147483648:Nat) (if 2147483647<digV (((byl s).drop i).take (qbO qau ((byl s).drop i))) then 6 else 0)) σ):=by
 have z:=qko s hl hσ i (s.size-i) i 0 (by omega) (by omega)
 rw[qql] at z
 have hr:=qfD qau ((byl s).drop i)
 rw[W5,qaW] at hr
 generalize digV (((byl s).drop i).take (qbO qau ((byl s).drop i)))=n at z ⊢
 generalize hq:i+qbO qau ((byl s).drop i)=q at z ⊢
 have q1:(i:Int)<=q:=by omega
 have q2:(q:Int)<=s.size:=by omega
 have q3:(i:Int)<=s.size:=by omega
 obtain⟨w,hw⟩ : ∃ w,s.extract i q=w:=⟨_,rfl⟩
 rw[hw]
 refine qaa (pf:=F267) rfl rfl ?_
 by_cases hn:2147483647<n
 ·have e:min n 2147483648=2147483648:=by omega
  rw[e] at z ⊢
  rw[if_pos hn,if_pos hn]
  simp only[YA,Wv] at z
  cases hσ <;> simp only[Wh,Wg,Wd,Wj,Nat.reduceAdd] at z<;>simp[F267,z,qcf,bound,q1,q2,q3,hw,Wa]
 ·have e:min n 2147483648=n:=by omega
  have hn' : ¬ (2147483647:Int)<n:=by omega
  rw[e] at z ⊢
  rw[if_neg hn,if_neg hn]
  simp only[YA] at z
  cases hσ <;> simp only[Wh,Wg,Wd,Wj,Nat.reduceAdd] at z<;>simp[F267,z,qcf,bound,q1,q2,q3,hw,hn',Wa]
def qsn:ByteArray:=⟨#[123,125,91,93,40,41,61,59,44,60,62,43,45,42,47,33]⟩
theorem qtv(c:UInt8):decide (0<=firstIdx qsn c)=decide (c.toNat∈qkb):=by
 have h : ∀ n:_root_.Fin 256,decide (0<=firstIdx qsn n.val.toUInt8)=decide (n.val.toUInt8.toNat∈qkb):=by decide +kernel
 have:=h ⟨c.toNat,c.toNat_lt⟩
 simpa using this
theorem qwf(c:UInt8):Z tP (.call 268 [.str qsn,.dat (.lit (.int .u8 c.toNat))] [])=some (.ret (.int (firstIdx qsn c)) []):=by
 have z:Z tP (.call 275 [.str qsn,.dat (.lit (.int .u8 c.toNat))] [])=some (.ret (.int (firstIdx qsn c)) []):=by
  refine qaa (pf:=F275) rfl rfl ?_
  simp[F275]
 refine qaa (pf:=F268) rfl rfl ?_
 simp[F268,z]
def kindT(t:Tk):Int:=if t.bad≠0 then 6 else if t.s=⟨#[]⟩ then 0 else if qaJ qa7 t.s then (if t.s∈fieldNames then 3 else if t.s∈wordNames then 2 else 1) else if qaJ qau t.s then 4 else 5
def qg8(t:Tk):ByteArray:=if t.bad=12 then ⟨#[]⟩ else t.s
def valT(t:Tk):Nat:=if qaJ qau t.s then min (digV (byl t.s)) 2147483648 else 0
abbrev ptk(t:Tk):V:=ptD (kindT t) (qg8 t) t.at_ (valT t) t.bad
end
section
open F
attribute [local simp] qbb qbT
theorem qdW(p:UInt8->Bool)(c:UInt8)(r:List UInt8):qaJ p (bs (c::r))=p c:=by rw[qbr,qbg]; rfl
theorem qor{c:UInt8}(h:qa7 c=true):qau c=false:=by
 simp only[qa7,qau,Wq,decide_eq_true_eq,WZ,decide_eq_false_iff_not] at h ⊢
 omega
theorem qmm{p:UInt8->Bool}{c:UInt8}(r:List UInt8)(h:p c=true):(c::r).take (qbO p (c::r))=c::r.take (qbO p r):=by simp[qbO,h]
theorem qqt(s:ByteArray){σ : S}(hσ : LxS s σ):Z tP (.call 250 [.ptr 0 0,.int s.size] σ)=some (.ret (ptD 0 ⟨#[]⟩ s.size 0 0) σ):=by
 refine qaa (pf:=F250) rfl rfl ?_
 cases hσ <;> simp[F250,V.len,Wa]
theorem qqu(s:ByteArray){σ : S}(hσ : LxS s σ){i:Nat}(hi:i<s.size){c:UInt8}(h1:s[i]?=some c)(hc:qa7 c=true){v:D}(ho:V.one (.dat v)=true){k n x e:Int}{t:ByteArray}(z:Z tP (.call 265 [.ptr 0 0,.int i] σ)=some (.ret (ptD k t n x e) σ)):Z tP (.call 250 [.ptr 0 0,.int i] σ)=some (.ret (ptD k t n x e) σ):=by
 have zl:=qeG c
 have hne : ¬ (i:Int)=s.size:=by omega
 have hne' : ¬ i=s.size:=by omega
 refine qaa (pf:=F250) rfl rfl ?_
 cases hσ <;> simp[F250,V.len,h1,hne,hne',zl,hc,z,Wa]
theorem qqv(s:ByteArray){σ : S}(hσ : LxS s σ){i:Nat}(hi:i<s.size){c:UInt8}(h1:s[i]?=some c)(hl:qa7 c=false)(hc:qau c=true){k n x e:Int}{t:ByteArray}(z:Z tP (.call 267 [.ptr 0 0,.int i] σ)=some (.ret (ptD k t n x e) σ)):Z tP (.call 250 [.ptr 0 0,.int i] σ)=some (.ret (ptD k t n x e) σ):=by
 have zl:=qeG c
 have zd:=qf0 c
 have hne : ¬ (i:Int)=s.size:=by omega
 have hne' : ¬ i=s.size:=by omega
 refine qaa (pf:=F250) rfl rfl ?_
 cases hσ <;> simp[F250,V.len,h1,hne,hne',zl,zd,hl,hc,z,Wa]
theorem qos(s:ByteArray)(hs:s.size<2 ^ 40){σ : S}(hσ : LxS s σ){i:Nat}(hi:i+2<=s.size){c:UInt8}(h1:s[i]?=some c)(hl:qa7 c=false)(hc:qau c=false){p:ByteArray}(hx:s.extract i (i+2)=p)(hp:p∈qen):Z tP (.call 250 [.ptr 0 0,.int i] σ)=some (.ret (ptD 5 p i 0 0) σ):=by
 have zl:=qeG c
 have zd:=qf0 c
 have hne : ¬ (i:Int)=s.size:=by omega
 have hne' : ¬ i=s.size:=by omega
 have w2:=qaf ((i:Int)+2) (by omega)
 have hle:(i:Int)+2<=s.size:=by omega
 have b1:(i:Int)<=s.size:=by omega
 have b2:(i:Int)<=(i:Int)+2:=by omega
 have b3:(0:Int)<=(i:Int)+2:=by omega
 have b4:((i:Int)+2).toNat=i+2:=by omega
 simp only[qen,bs,Wp,Ws,or_false] at hp
 refine qaa (pf:=F250) rfl rfl ?_
 rcases hp with rfl|rfl|rfl|rfl|rfl|rfl<;>cases hσ <;> simp[F250,V.len,h1,hne,hne',zl,zd,hl,hc,w2,hle,qcf,bound,b1,b2,b3,b4,hx,qaF,Wa]
theorem qqw(s:ByteArray)(hs:s.size<2 ^ 40){σ : S}(hσ : LxS s σ){i:Nat}(hi:i<s.size){c:UInt8}(h1:s[i]?=some c)(hl:qa7 c=false)(hc:qau c=false)(hp:i+2<=s.size->s.extract i (i+2)∉qen){x:ByteArray}(hx:s.extract i (i+1)=x):Z tP (.call 250 [.ptr 0 0,.int i] σ)=some (.ret (if c.toNat∈qkb then ptD 5 x i 0 0 else ptD 6 ⟨#[]⟩ i 0 12) σ):=by
 have zl:=qeG c
 have zd:=qf0 c
 have zx:=qwf c
 have hm:=qtv c
 obtain⟨j,hj0⟩ : ∃ j,firstIdx qsn c=j:=⟨_,rfl⟩
 rw[hj0] at zx hm
 simp only[qsn] at zx
 have hne : ¬ (i:Int)=s.size:=by omega
 have hne' : ¬ i=s.size:=by omega
 have w1:=qaf ((i:Int)+1) (by omega)
 have w2:=qaf ((i:Int)+2) (by omega)
 have a1:(i:Int)+1<=s.size:=by omega
 have a2:(i:Int)<=(i:Int)+1:=by omega
 have a3:(0:Int)<=(i:Int)+1:=by omega
 have a4:((i:Int)+1).toNat=i+1:=by omega
 have b1:(i:Int)<=s.size:=by omega
 have b2:(i:Int)<=(i:Int)+2:=by omega
 have b3:(0:Int)<=(i:Int)+2:=by omega
 have b4:((i:Int)+2).toNat=i+2:=by omega
 by_cases hle:i+2<=s.size
 ·have hle':(i:Int)+2<=s.size:=by omega
  have hp':=hp hle
  generalize hy:s.extract i (i+2)=y at hp'
  simp only[qen,bs,Wp,Ws,or_false,not_or] at hp'
  obtain⟨n1,n2,n3,n4,n5,n6⟩:=hp'
  refine qaa (pf:=F250) rfl rfl ?_
  by_cases hk:c.toNat∈qkb
  ·have hj:(0:Int)<=j:=by simpa [hk] using hm
   rw[if_pos hk]
   cases hσ <;> simp[F250,V.len,h1,hne,hne',zl,zd,zx,hl,hc,w1,w2,hle',qcf,bound,a1,a2,a3,a4,b1,b2,b3,b4,hx,hy,n1,n2,n3,n4,n5,n6,hj,qaF,Wa]
  ·have hj : ¬ (0:Int)<=j:=by simpa [hk] using hm
   rw[if_neg hk]
   cases hσ <;> simp[F250,V.len,h1,hne,hne',zl,zd,zx,hl,hc,w1,w2,hle',qcf,bound,a1,a2,a3,a4,b1,b2,b3,b4,hx,hy,n1,n2,n3,n4,n5,n6,hj,qaF,Wa]
 ·have hle' : ¬ (i:Int)+2<=s.size:=by omega
  refine qaa (pf:=F250) rfl rfl ?_
  by_cases hk:c.toNat∈qkb
  ·have hj:(0:Int)<=j:=by simpa [hk] using hm
   rw[if_pos hk]
   cases hσ <;> simp[F250,V.len,h1,hne,hne',zl,zd,zx,hl,hc,w1,w2,hle',qcf,bound,a1,a2,a3,a4,hx,hj,qaF,Wa]
  ·have hj : ¬ (0:Int)<=j:=by simpa [hk] using hm
   rw[if_neg hk]
   cases hσ <;> simp[F250,V.len,h1,hne,hne',zl,zd,zx,hl,hc,w1,w2,hle',qcf,bound,hj,qaF,Wa]
end
end Go.Pm
