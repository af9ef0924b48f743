/- Chapter 15: the program's Compile: its loops. -/
import Derived.Test.YtnagipbjopnfpaaGreatDoorPmAL
import Derived.Test.YtnagipbjopnfpaaGreatDoorPmG5
import Derived.Test.YtnagipbjopnfpaaGreatDoorPmYf
import Derived.Test.YtnagipbjopnfpaaGreatDoorPmTi
import Derived.Test.YtnagipbjopnfpaaGreatDoorPmR1
set_option linter.unusedSimpArgs false
set_option linter.unusedVariables false
set_option maxHeartbeats 4000000
namespace Go.Pm
section
open F Gr
set_option maxHeartbeats 2000000
attribute [local simp] qa8 qbA dkey qga
theorem qqI {vs:List ByteArray} (b:Ss) (hf:b.fine) (hi:b.inV vs) (hb:b.fo.size<2^30) (f:Bool) : ∃ L,L<=4*b.fo.size/\TrB vs (nd 7 0 ⟨#[]⟩ f b.fo) (codeS vs b) L /\
  ∀ e0 e1 e2:Int,4*L<2^30->Z qad (.call 147 [.ptr 0 0,nd 7 0 ⟨#[]⟩ f b.fo] (qd3 vs e0 e1 e2))=some (.ret (.tup []) (if codeS vs b 0=[] then qd3 vs e0 e1 e2 else qhR vs e0 e1 e2 (codeS vs b 0))):=by
 obtain⟨M,h,hl⟩:=qCl b hf hi hb
 have sb:=qbo b.fo
 have k:=qtZ h hl (by omega) f
 have k0:=fun e0 e1 e2=>qCk h hl (by omega) f e0 e1 e2
 rw[show seqC (qel vs b)=codeS vs b from funext (qim b)] at k k0
 obtain⟨n,hn,hn2⟩:=qBX vs b
 have e:M=n:=by rw[<- k.ln 0,hn 0]
 exact⟨M,by omega,k,k0⟩
abbrev yFr(vs:List ByteArray)(i:Nat):Fr:=[(1,.ptr 0 0),(2,.ptr 1 0),(4,.ptr 2 0),(17,.dat (qm0 vs)),(18,.int vs.length),(19,.int i)]
abbrev ySt(R:Ob)(l:List ByteArray):S:=[R,zP,qow 0 0 0 3,.map (mapM 0 l)]
theorem qBT(x y z:Nd)(vs l:List ByteArray):Z qad (.loop 0 F131l0 (yFr vs vs.length) (ySt (qgP x y z) l))=some (.out (.exit 0) (yFr vs vs.length++[(20,.bool false)]) (ySt (qgP x y z) l)):=by
 rw[qaa]
 simp[qab,qjt,Wa]
theorem qzB(x y z:Nd){vs:List ByteArray}(hv:vs.length<2^40)(hn:vs.Nodup)(i:Nat)(hi:i<vs.length):Z qad (.loop 0 F131l0 (yFr vs i) (ySt (qgP x y z) (vs.take i)))=Z qad (.loop 0 F131l0 (yFr vs (i+1)) (ySt (qgP x y z) (vs.take (i+1)))):=by
 have hc:=qeA vs i hi
 have ha:=qxG vs i hi
 have w1:=qai ((i:Int)+1) (by omega)
 have hi':(i:Int)<vs.length:=by omega
 have hnm:vs[i]∉vs.take i:=by
  have h2:=hn
  rw[<- List.take_append_drop i vs,Ww hi] at h2
  rw[List.nodup_append] at h2
  exact fun hm=>h2.2.2 _ hm _ (WO ..) rfl
 have hs:=qkK vs[i] (vs.take i) 0 hnm
 rw[show ((0+(vs.take i).length:Nat))=i by simp; omega,show vs.take i++[vs[i]]=vs.take (i+1) by rw[WS hi]] at hs
 conv=>lhs; rw[qaa]
 simp[qab,qjt,hi',hc,ha,hs,w1,qdW,yFr,ySt,qgP,zP,Nd.d,Wa]
theorem qur(x y z:Nd){vs:List ByteArray}(hv:vs.length<2^40)(hn:vs.Nodup) : ∀ (n i:Nat),i+n=vs.length->Z qad (.loop 0 F131l0 (yFr vs i) (ySt (qgP x y z) (vs.take i)))=some (.out (.exit 0) (yFr vs vs.length++[(20,.bool false)]) (ySt (qgP x y z) vs))
 |0,i,h=>by
  obtain rfl:i=vs.length:=by omega
  rw[YB]
  exact qBT x y z vs vs
 |n+1,i,h=>by
  rw[qzB x y z hv hn i (by omega)]
  exact qur x y z hv hn n (i+1) (by omega)
abbrev jFr(R:D)(i:Int):Fr:=[(2,.ptr 0 0),(4,.ptr 1 0),(33,.dat R),(34,.int i)]
inductive HSt(vs:List ByteArray)(e0 e1 e2:Int):S->Cd->Prop
 |nil:HSt vs e0 e1 e2 [zP,qow e0 e1 e2 2,mpo vs] []
 |gr (c:Cd) (h:c≠[]):HSt vs e0 e1 e2 [zP,cob e0 e1 e2 2 c.length 3,.vec (icV c),mpo vs] c
section
variable{vs:List ByteArray}{e0 e1 e2:Int}{σ : S}{c:Cd}{u v w:Nd}
theorem qBU{R:D}(h:HSt vs e0 e1 e2 σ c):Z qad (.loop 0 F131l1 (jFr R 3) σ)=some (.out (.exit 2) (jFr R 3++[(35,.bool false)]) σ):=by
 rw[qaa]
 cases h<;>simp[qab,qa1,Wa]
theorem qwp(h:HSt vs e0 e1 e2 σ c) : ∃ σ',HSt vs (-1) e1 e2 σ' c/\Z qad (.loop 0 F131l1 (jFr (ru Hd.none.nd v w) 0) σ)=Z qad (.loop 0 F131l1 (jFr (ru Hd.none.nd v w) 1) σ'):=by
 have w1:=qai 1 (by omega)
 cases h with
 |nil=>
  refine⟨_,.nil,?_⟩
  conv=>lhs; rw[qaa]
  simp[qab,qa1,w1,Hd.k,Nd.d,jFr,ru,Wa]
  exact qah (by simp[Wa])
 |gr _ g=>
  refine⟨_,.gr _ g,?_⟩
  conv=>lhs; rw[qaa]
  simp[qab,qa1,w1,Hd.k,Nd.d,jFr,ru,Wa]
  exact qah (by simp[Wa])
theorem qwq {f:Bool} {b:Ss} (h:HSt vs e0 e1 e2 σ c) {L:Nat} (hb:TrB vs (nd 7 0 ⟨#[]⟩ f b.fo) (codeS vs b) L) (h0 : ∀ e0 e1 e2:Int,4*L<2^30->Z qad (.call 147 [.ptr 0 0,nd 7 0 ⟨#[]⟩ f b.fo] (qd3 vs e0 e1 e2))=some (.ret (.tup []) (if codeS vs b 0=[] then qd3 vs e0 e1 e2 else qhR vs e0 e1 e2 (codeS vs b 0))))
  (hl:c.length+4*L+10<2^30) : ∃ σ',HSt vs c.length e1 e2 σ' (c++snC (codeS vs b) (21,0) c.length)/\Z qad (.loop 0 F131l1 (jFr (ru (Hd.some f b).nd v w) 0) σ)=Z qad (.loop 0 F131l1 (jFr (ru (Hd.some f b).nd v w) 1) σ'):=by
 have w1:=qai 1 (by omega)
 have lc:=hb.ln c.length
 have hx:c++snC (codeS vs b) (21,0) c.length=(c++codeS vs b c.length)++[((21:Int),(0:Int))]:=by simp[snC]
 refine⟨_,.gr _ (by rw[hx]; simp),?_⟩
 rw[hx]
 cases h with
 |nil=>
  rw[show (([]:Cd).length:Int)=0 from rfl] at *
  rw[Wc]
  by_cases hz:codeS vs b 0=[]
  ·have z1:=h0 0 e1 e2 (by omega)
   rw[if_pos hz] at z1
   have z2:=qla (vs:=vs) (e0:=0) (e1:=e1) (e2:=e2) 21 0
   rw[hz,Wc]
   generalize [((21:Int),(0:Int))]=c5 at *
   conv=>lhs; rw[qaa]
   simp[qab,qa1,qcF,w1,Hd.k,Hd.f,Hd.ks,Nd.d,jFr,ru,z1,z2,qcd,qaP,Wa]
   exact qah (by simp[Wa])
  ·have z1:=h0 0 e1 e2 (by omega)
   rw[if_neg hz] at z1
   have z2:=qbW (vs:=vs) (e0:=0) (e1:=e1) (e2:=e2) (codeS vs b 0) (by omega) 21 0
   generalize codeS vs b 0++[((21:Int),(0:Int))]=c5 at *
   generalize codeS vs b 0=c4 at *
   conv=>lhs; rw[qaa]
   simp[qab,qa1,qcF,w1,Hd.k,Hd.f,Hd.ks,Nd.d,jFr,ru,z1,z2,qcd,qaP,Wa]
   try exact qah (by simp[Wa])
 |gr _ g=>
  have z1:=hb.one c.length e1 e2 c g (by omega)
  have z2:=qbW (vs:=vs) (e0:=c.length) (e1:=e1) (e2:=e2) (c++codeS vs b c.length) (by rw[Wb]; omega) 21 0
  generalize c++codeS vs b c.length++[((21:Int),(0:Int))]=c5 at *
  generalize c++codeS vs b c.length=c4 at *
  conv=>lhs; rw[qaa]
  simp[qab,qa1,qcy,w1,Hd.k,Hd.f,Hd.ks,Nd.d,jFr,ru,z1,z2,qcd,qaP,Wa]
  try exact qah (by simp[Wa])
theorem qwr(h:HSt vs e0 e1 e2 σ c) : ∃ σ',HSt vs e0 (-1) e2 σ' c/\Z qad (.loop 0 F131l1 (jFr (ru u Hd.none.nd w) 1) σ)=Z qad (.loop 0 F131l1 (jFr (ru u Hd.none.nd w) 2) σ'):=by
 have w1:=qai 2 (by omega)
 cases h with
 |nil=>
  refine⟨_,.nil,?_⟩
  conv=>lhs; rw[qaa]
  simp[qab,qa1,w1,Hd.k,Nd.d,jFr,ru,Wa]
  exact qah (by simp[Wa])
 |gr _ g=>
  refine⟨_,.gr _ g,?_⟩
  conv=>lhs; rw[qaa]
  simp[qab,qa1,w1,Hd.k,Nd.d,jFr,ru,Wa]
  exact qah (by simp[Wa])
theorem qws {f:Bool} {b:Ss} (h:HSt vs e0 e1 e2 σ c) {L:Nat} (hb:TrB vs (nd 7 0 ⟨#[]⟩ f b.fo) (codeS vs b) L) (h0 : ∀ e0 e1 e2:Int,4*L<2^30->Z qad (.call 147 [.ptr 0 0,nd 7 0 ⟨#[]⟩ f b.fo] (qd3 vs e0 e1 e2))=some (.ret (.tup []) (if codeS vs b 0=[] then qd3 vs e0 e1 e2 else qhR vs e0 e1 e2 (codeS vs b 0))))
  (hl:c.length+4*L+10<2^30) : ∃ σ',HSt vs e0 c.length e2 σ' (c++snC (codeS vs b) (21,0) c.length)/\Z qad (.loop 0 F131l1 (jFr (ru u (Hd.some f b).nd w) 1) σ)=Z qad (.loop 0 F131l1 (jFr (ru u (Hd.some f b).nd w) 2) σ'):=by
 have w1:=qai 2 (by omega)
 have lc:=hb.ln c.length
 have hx:c++snC (codeS vs b) (21,0) c.length=(c++codeS vs b c.length)++[((21:Int),(0:Int))]:=by simp[snC]
 refine⟨_,.gr _ (by rw[hx]; simp),?_⟩
 rw[hx]
 cases h with
 |nil=>
  rw[show (([]:Cd).length:Int)=0 from rfl] at *
  rw[Wc]
  by_cases hz:codeS vs b 0=[]
  ·have z1:=h0 e0 0 e2 (by omega)
   rw[if_pos hz] at z1
   have z2:=qla (vs:=vs) (e0:=e0) (e1:=0) (e2:=e2) 21 0
   rw[hz,Wc]
   generalize [((21:Int),(0:Int))]=c5 at *
   conv=>lhs; rw[qaa]
   simp[qab,qa1,qcF,w1,Hd.k,Hd.f,Hd.ks,Nd.d,jFr,ru,z1,z2,qcd,qaP,Wa]
   exact qah (by simp[Wa])
  ·have z1:=h0 e0 0 e2 (by omega)
   rw[if_neg hz] at z1
   have z2:=qbW (vs:=vs) (e0:=e0) (e1:=0) (e2:=e2) (codeS vs b 0) (by omega) 21 0
   generalize codeS vs b 0++[((21:Int),(0:Int))]=c5 at *
   generalize codeS vs b 0=c4 at *
   conv=>lhs; rw[qaa]
   simp[qab,qa1,qcF,w1,Hd.k,Hd.f,Hd.ks,Nd.d,jFr,ru,z1,z2,qcd,qaP,Wa]
   try exact qah (by simp[Wa])
 |gr _ g=>
  have z1:=hb.one e0 c.length e2 c g (by omega)
  have z2:=qbW (vs:=vs) (e0:=e0) (e1:=c.length) (e2:=e2) (c++codeS vs b c.length) (by rw[Wb]; omega) 21 0
  generalize c++codeS vs b c.length++[((21:Int),(0:Int))]=c5 at *
  generalize c++codeS vs b c.length=c4 at *
  conv=>lhs; rw[qaa]
  simp[qab,qa1,qcy,w1,Hd.k,Hd.f,Hd.ks,Nd.d,jFr,ru,z1,z2,qcd,qaP,Wa]
  try exact qah (by simp[Wa])
theorem qwt(h:HSt vs e0 e1 e2 σ c) : ∃ σ',HSt vs e0 e1 (-1) σ' c/\Z qad (.loop 0 F131l1 (jFr (ru u v Hd.none.nd) 2) σ)=Z qad (.loop 0 F131l1 (jFr (ru u v Hd.none.nd) 3) σ'):=by
 have w1:=qai 3 (by omega)
 cases h with
 |nil=>
  refine⟨_,.nil,?_⟩
  conv=>lhs; rw[qaa]
  simp[qab,qa1,w1,Hd.k,Nd.d,jFr,ru,Wa]
  exact qah (by simp[Wa])
 |gr _ g=>
  refine⟨_,.gr _ g,?_⟩
  conv=>lhs; rw[qaa]
  simp[qab,qa1,w1,Hd.k,Nd.d,jFr,ru,Wa]
  exact qah (by simp[Wa])
theorem qwu {f:Bool} {b:Ss} (h:HSt vs e0 e1 e2 σ c) {L:Nat} (hb:TrB vs (nd 7 0 ⟨#[]⟩ f b.fo) (codeS vs b) L) (h0 : ∀ e0 e1 e2:Int,4*L<2^30->Z qad (.call 147 [.ptr 0 0,nd 7 0 ⟨#[]⟩ f b.fo] (qd3 vs e0 e1 e2))=some (.ret (.tup []) (if codeS vs b 0=[] then qd3 vs e0 e1 e2 else qhR vs e0 e1 e2 (codeS vs b 0))))
  (hl:c.length+4*L+10<2^30) : ∃ σ',HSt vs e0 e1 c.length σ' (c++snC (codeS vs b) (21,0) c.length)/\Z qad (.loop 0 F131l1 (jFr (ru u v (Hd.some f b).nd) 2) σ)=Z qad (.loop 0 F131l1 (jFr (ru u v (Hd.some f b).nd) 3) σ'):=by
 have w1:=qai 3 (by omega)
 have lc:=hb.ln c.length
 have hx:c++snC (codeS vs b) (21,0) c.length=(c++codeS vs b c.length)++[((21:Int),(0:Int))]:=by simp[snC]
 refine⟨_,.gr _ (by rw[hx]; simp),?_⟩
 rw[hx]
 cases h with
 |nil=>
  rw[show (([]:Cd).length:Int)=0 from rfl] at *
  rw[Wc]
  by_cases hz:codeS vs b 0=[]
  ·have z1:=h0 e0 e1 0 (by omega)
   rw[if_pos hz] at z1
   have z2:=qla (vs:=vs) (e0:=e0) (e1:=e1) (e2:=0) 21 0
   rw[hz,Wc]
   generalize [((21:Int),(0:Int))]=c5 at *
   conv=>lhs; rw[qaa]
   simp[qab,qa1,qcF,w1,Hd.k,Hd.f,Hd.ks,Nd.d,jFr,ru,z1,z2,qcd,qaP,Wa]
   exact qah (by simp[Wa])
  ·have z1:=h0 e0 e1 0 (by omega)
   rw[if_neg hz] at z1
   have z2:=qbW (vs:=vs) (e0:=e0) (e1:=e1) (e2:=0) (codeS vs b 0) (by omega) 21 0
   generalize codeS vs b 0++[((21:Int),(0:Int))]=c5 at *
   generalize codeS vs b 0=c4 at *
   conv=>lhs; rw[qaa]
   simp[qab,qa1,qcF,w1,Hd.k,Hd.f,Hd.ks,Nd.d,jFr,ru,z1,z2,qcd,qaP,Wa]
   try exact qah (by simp[Wa])
 |gr _ g=>
  have z1:=hb.one e0 e1 c.length c g (by omega)
  have z2:=qbW (vs:=vs) (e0:=e0) (e1:=e1) (e2:=c.length) (c++codeS vs b c.length) (by rw[Wb]; omega) 21 0
  generalize c++codeS vs b c.length++[((21:Int),(0:Int))]=c5 at *
  generalize c++codeS vs b c.length=c4 at *
  conv=>lhs; rw[qaa]
  simp[qab,qa1,qcy,w1,Hd.k,Hd.f,Hd.ks,Nd.d,jFr,ru,z1,z2,qcd,qaP,Wa]
  try exact qah (by simp[Wa])
end
end
section
open F Gr
set_option maxHeartbeats 2000000
attribute [local simp] qa8 qbA dkey qga
abbrev kFr(e0 e1 e2 i:Int):Fr:=[(2,.ptr 0 0),(9,.ptr 1 0),(86,.dat (.agg [.lit (.int .i64 e0),.lit (.int .i64 e1),.lit (.int .i64 e2)])),(87,.int i)]
inductive KSt(e0 e1 e2:Int):S->Cd->Prop
 |nil (h:e0<0/\e1<0/\e2<0):KSt e0 e1 e2 [zP,.cells [.dat (.lit (.slice none 0 0)),.int e0,.int e1,.int e2]] []
 |vec (c:Cd) (h:c≠[]):KSt e0 e1 e2 [zP,.cells [.own 2 c.length 2,.int e0,.int e1,.int e2],.vec (icV c)] c
 |froz (c:Cd) (h:c≠[]):KSt e0 e1 e2 [zP,.cells [.own 2 c.length 2,.int e0,.int e1,.int e2],.froz (icC c)] c
section
variable{e0 e1 e2:Int}{σ : S}{c:Cd}
theorem qBO(h:KSt e0 e1 e2 σ c):Z qad (.loop 0 F131l2 (kFr e0 e1 e2 3) σ)=some (.out (.exit 4) (kFr e0 e1 e2 3++[(88,.bool false)]) σ):=by
 rw[qaa]
 cases h<;>simp[qab,qa2,Wa]
def qhe(c:Cd)(e0 e1 e2 e:Int)(sf:Bool):Prop := ∃ a:D,Z qad (.call 139 [pgD (.sl (icC c) c.length false) e0 e1 e2,.int e] [])=some (.ret (.dat a) [])/\Z qad (.call 140 [.dat a] [])=some (.ret (.bool sf) [])
theorem qzs(h:KSt e0 e1 e2 σ c)(hn:e0<0):Z qad (.loop 0 F131l2 (kFr e0 e1 e2 0) σ)=Z qad (.loop 0 F131l2 (kFr e0 e1 e2 1) σ):=by
 have w1:=qai 1 (by omega)
 have hn' : ¬ 0<=e0:=by omega
 conv=>lhs; rw[qaa]
 cases h<;>simp[qab,qa2,w1,hn',cutCells,Wa]
theorem qzt(h:KSt e0 e1 e2 σ c)(hn:0<=e0){sf:Bool}(hs:qhe c e0 e1 e2 e0 sf) : ∃ σ',KSt e0 e1 e2 σ' c/\Z qad (.loop 0 F131l2 (kFr e0 e1 e2 0) σ)=if sf then Z qad (.loop 0 F131l2 (kFr e0 e1 e2 1) σ') else some (.out .ret [(2,.ptr 0 0),(3,.int 15)] σ'):=by
 have w1:=qai 1 (by omega)
 obtain⟨a,z1,z2⟩:=hs
 simp only[pgD] at z1
 have hl:=qfO c
 have hd:=qko c
 have hl2:=qfu c
 cases h with
 |nil h=>omega
 |vec _ g=>
  refine⟨_,.froz _ g,?_⟩
  rw[qaa]
  cases sf
  ·simp[qab,qa2,w1,hn,z1,z2,hl,hd,cutCells,Wa]
  ·simp[qab,qa2,w1,hn,z1,z2,hl,hd,cutCells,Wa]
 |froz _ g=>
  refine⟨_,.froz _ g,?_⟩
  rw[qaa]
  cases sf
  ·simp[qab,qa2,w1,hn,z1,z2,hl,hd,cutCells,Wa]
  ·simp[qab,qa2,w1,hn,z1,z2,hl,hd,cutCells,Wa]
theorem qwi(h:KSt e0 e1 e2 σ c){sf:Bool}(hs:0<=e0->qhe c e0 e1 e2 e0 sf)(hs2:e0<0->sf=true) : ∃ σ',KSt e0 e1 e2 σ' c/\Z qad (.loop 0 F131l2 (kFr e0 e1 e2 0) σ)=if sf then Z qad (.loop 0 F131l2 (kFr e0 e1 e2 1) σ') else some (.out .ret [(2,.ptr 0 0),(3,.int 15)] σ'):=by
 by_cases hn:e0<0
 ·exact⟨σ,h,by rw[hs2 hn,qzs h hn]; rfl⟩
 ·exact qzt h (by omega) (hs (by omega))
theorem qzu(h:KSt e0 e1 e2 σ c)(hn:e1<0):Z qad (.loop 0 F131l2 (kFr e0 e1 e2 1) σ)=Z qad (.loop 0 F131l2 (kFr e0 e1 e2 2) σ):=by
 have w1:=qai 2 (by omega)
 have hn' : ¬ 0<=e1:=by omega
 conv=>lhs; rw[qaa]
 cases h<;>simp[qab,qa2,w1,hn',cutCells,Wa]
theorem qzv(h:KSt e0 e1 e2 σ c)(hn:0<=e1){sf:Bool}(hs:qhe c e0 e1 e2 e1 sf) : ∃ σ',KSt e0 e1 e2 σ' c/\Z qad (.loop 0 F131l2 (kFr e0 e1 e2 1) σ)=if sf then Z qad (.loop 0 F131l2 (kFr e0 e1 e2 2) σ') else some (.out .ret [(2,.ptr 0 0),(3,.int 15)] σ'):=by
 have w1:=qai 2 (by omega)
 obtain⟨a,z1,z2⟩:=hs
 simp only[pgD] at z1
 have hl:=qfO c
 have hd:=qko c
 have hl2:=qfu c
 cases h with
 |nil h=>omega
 |vec _ g=>
  refine⟨_,.froz _ g,?_⟩
  rw[qaa]
  cases sf
  ·simp[qab,qa2,w1,hn,z1,z2,hl,hd,cutCells,Wa]
  ·simp[qab,qa2,w1,hn,z1,z2,hl,hd,cutCells,Wa]
 |froz _ g=>
  refine⟨_,.froz _ g,?_⟩
  rw[qaa]
  cases sf
  ·simp[qab,qa2,w1,hn,z1,z2,hl,hd,cutCells,Wa]
  ·simp[qab,qa2,w1,hn,z1,z2,hl,hd,cutCells,Wa]
theorem qwj(h:KSt e0 e1 e2 σ c){sf:Bool}(hs:0<=e1->qhe c e0 e1 e2 e1 sf)(hs2:e1<0->sf=true) : ∃ σ',KSt e0 e1 e2 σ' c/\Z qad (.loop 0 F131l2 (kFr e0 e1 e2 1) σ)=if sf then Z qad (.loop 0 F131l2 (kFr e0 e1 e2 2) σ') else some (.out .ret [(2,.ptr 0 0),(3,.int 15)] σ'):=by
 by_cases hn:e1<0
 ·exact⟨σ,h,by rw[hs2 hn,qzu h hn]; rfl⟩
 ·exact qzv h (by omega) (hs (by omega))
theorem qzw(h:KSt e0 e1 e2 σ c)(hn:e2<0):Z qad (.loop 0 F131l2 (kFr e0 e1 e2 2) σ)=Z qad (.loop 0 F131l2 (kFr e0 e1 e2 3) σ):=by
 have w1:=qai 3 (by omega)
 have hn' : ¬ 0<=e2:=by omega
 conv=>lhs; rw[qaa]
 cases h<;>simp[qab,qa2,w1,hn',cutCells,Wa]
theorem qzx(h:KSt e0 e1 e2 σ c)(hn:0<=e2){sf:Bool}(hs:qhe c e0 e1 e2 e2 sf) : ∃ σ',KSt e0 e1 e2 σ' c/\Z qad (.loop 0 F131l2 (kFr e0 e1 e2 2) σ)=if sf then Z qad (.loop 0 F131l2 (kFr e0 e1 e2 3) σ') else some (.out .ret [(2,.ptr 0 0),(3,.int 15)] σ'):=by
 have w1:=qai 3 (by omega)
 obtain⟨a,z1,z2⟩:=hs
 simp only[pgD] at z1
 have hl:=qfO c
 have hd:=qko c
 have hl2:=qfu c
 cases h with
 |nil h=>omega
 |vec _ g=>
  refine⟨_,.froz _ g,?_⟩
  rw[qaa]
  cases sf
  ·simp[qab,qa2,w1,hn,z1,z2,hl,hd,cutCells,Wa]
  ·simp[qab,qa2,w1,hn,z1,z2,hl,hd,cutCells,Wa]
 |froz _ g=>
  refine⟨_,.froz _ g,?_⟩
  rw[qaa]
  cases sf
  ·simp[qab,qa2,w1,hn,z1,z2,hl,hd,cutCells,Wa]
  ·simp[qab,qa2,w1,hn,z1,z2,hl,hd,cutCells,Wa]
theorem qwk(h:KSt e0 e1 e2 σ c){sf:Bool}(hs:0<=e2->qhe c e0 e1 e2 e2 sf)(hs2:e2<0->sf=true) : ∃ σ',KSt e0 e1 e2 σ' c/\Z qad (.loop 0 F131l2 (kFr e0 e1 e2 2) σ)=if sf then Z qad (.loop 0 F131l2 (kFr e0 e1 e2 3) σ') else some (.out .ret [(2,.ptr 0 0),(3,.int 15)] σ'):=by
 by_cases hn:e2<0
 ·exact⟨σ,h,by rw[hs2 hn,qzw h hn]; rfl⟩
 ·exact qzx h (by omega) (hs (by omega))
theorem qzy (h:KSt e0 e1 e2 σ c) {s0 s1 s2:Bool} (h0:0<=e0->qhe c e0 e1 e2 e0 s0) (g0:e0<0->s0=true) (h1:0<=e1->qhe c e0 e1 e2 e1 s1) (g1:e1<0->s1=true) (h2:0<=e2->qhe c e0 e1 e2 e2 s2) (g2:e2<0->s2=true) :
  ∃ σ',KSt e0 e1 e2 σ' c/\Z qad (.loop 0 F131l2 (kFr e0 e1 e2 0) σ)=if s0&&(s1&&s2) then some (.out (.exit 4) (kFr e0 e1 e2 3++[(88,.bool false)]) σ') else some (.out .ret [(2,.ptr 0 0),(3,.int 15)] σ'):=by
 obtain⟨σ0,k0,z0⟩:=qwi h h0 g0
 cases s0 with
 |false=>exact⟨σ0,k0,z0⟩
 |true=>
  obtain⟨σ1,k1,z1⟩:=qwj k0 h1 g1
  cases s1 with
  |false=>exact⟨σ1,k1,z0.trans z1⟩
  |true=>
   obtain⟨σ2,k2,z2⟩:=qwk k1 h2 g2
   cases s2 with
   |false=>exact⟨σ2,k2,z0.trans (z1.trans z2)⟩
   |true=>exact⟨σ2,k2,z0.trans (z1.trans (z2.trans (qBO k2)))⟩
end
section
variable{vs:List ByteArray}{a b c:Hd}
theorem qBP (fa:a.fine) (fb:b.fine) (fc:c.fine) (ia:a.ss.inV vs) (ib:b.ss.inV vs) (ic:c.ss.inV vs) :
  ∃ σ,HSt vs (qhM a) (qgN vs a b) (qgO vs a b c) σ (qeH vs a b c) /\
   Z qad (.loop 0 F131l1 (jFr (ru a.nd b.nd c.nd) 0) [zP,qow 0 0 0 2,mpo vs])=some (.out (.exit 2) (jFr (ru a.nd b.nd c.nd) 3++[(35,.bool false)]) σ):=by
 have key : ∀ h:Hd,h.fine -> ∃ L,L<=8001/\Ln (hdC vs h) L:=fun h f=>by
  cases h with
  |none=>exact⟨0,by omega,fun _=>rfl⟩
  |some g x=>
   obtain⟨n,hn,hn2⟩:=qBX vs x
   have:=f.size
   simp only[Hd.ss] at this
   exact⟨n+1,by omega,qb8 hn⟩
 obtain⟨la,ka,na⟩:=key a fa
 obtain⟨lb,kb,nb⟩:=key b fb
 have s0 : ∃ σ,HSt vs (qhM a) 0 0 σ (hdC vs a 0)/\Z qad (.loop 0 F131l1 (jFr (ru a.nd b.nd c.nd) 0) [zP,qow 0 0 0 2,mpo vs])=Z qad (.loop 0 F131l1 (jFr (ru a.nd b.nd c.nd) 1) σ):=by
  cases a with
  |none=>exact qwp .nil
  |some f x=>
   have:=fa.size
   simp only[Hd.ss] at this ia
   obtain⟨L,hL,h,h0⟩:=qqI x fa.fine ia (by omega) f
   obtain⟨σ,h1,h2⟩:=qwq (v:=b.nd) (w:=c.nd) (e0:=0) (e1:=0) (e2:=0) .nil h h0 (by simp; omega)
   exact⟨σ,by simpa [qhM,qjb,hdC] using h1,h2⟩
 obtain⟨σ0,c0,z0⟩:=s0
 have l0:=na 0
 have s1 : ∃ σ,HSt vs (qhM a) (qgN vs a b) 0 σ (hdC vs a 0++hdC vs b (hdC vs a 0).length)/\Z qad (.loop 0 F131l1 (jFr (ru a.nd b.nd c.nd) 1) σ0)=Z qad (.loop 0 F131l1 (jFr (ru a.nd b.nd c.nd) 2) σ):=by
  cases b with
  |none=>
   obtain⟨σ,h1,h2⟩:=qwr (u:=a.nd) (w:=c.nd) c0
   exact⟨σ,by simpa [qgN,qjb,hdC] using h1,h2⟩
  |some f x=>
   have:=fb.size
   simp only[Hd.ss] at this ib
   obtain⟨L,hL,h,h0⟩:=qqI x fb.fine ib (by omega) f
   obtain⟨σ,h1,h2⟩:=qws (u:=a.nd) (w:=c.nd) c0 h h0 (by omega)
   exact⟨σ,by simpa [qgN,qjb,hdC] using h1,h2⟩
 obtain⟨σ1,c1,z1⟩:=s1
 have e1:hdC vs a 0++hdC vs b (hdC vs a 0).length=sq (hdC vs a) (hdC vs b) 0:=by simp[sq]
 rw[e1] at c1
 have l1:(sq (hdC vs a) (hdC vs b) 0).length=la+lb:=qbG na nb 0
 have s2 : ∃ σ,HSt vs (qhM a) (qgN vs a b) (qgO vs a b c) σ (sq (hdC vs a) (hdC vs b) 0++hdC vs c (sq (hdC vs a) (hdC vs b) 0).length)/\Z qad (.loop 0 F131l1 (jFr (ru a.nd b.nd c.nd) 2) σ1)=Z qad (.loop 0 F131l1 (jFr (ru a.nd b.nd c.nd) 3) σ):=by
  cases c with
  |none=>
   obtain⟨σ,h1,h2⟩:=qwt (u:=a.nd) (v:=b.nd) c1
   exact⟨σ,by simpa [qgO,qjb,hdC] using h1,h2⟩
  |some f x=>
   have:=fc.size
   simp only[Hd.ss] at this ic
   obtain⟨L,hL,h,h0⟩:=qqI x fc.fine ic (by omega) f
   obtain⟨σ,h1,h2⟩:=qwu (u:=a.nd) (v:=b.nd) c1 h h0 (by omega)
   exact⟨σ,by simpa [qgO,qjb,hdC] using h1,h2⟩
 obtain⟨σ2,c2,z2⟩:=s2
 have e2:sq (hdC vs a) (hdC vs b) 0++hdC vs c (sq (hdC vs a) (hdC vs b) 0).length=qeH vs a b c:=by
  unfold qeH
  simp only[sq,Wf,Wb]
  rw[show ((((hdC vs a 0).length+(hdC vs b (0+(hdC vs a 0).length)).length:Nat)):Int)=0+(hdC vs a 0).length+(hdC vs b (0+(hdC vs a 0).length)).length by omega]
 rw[e2] at c2
 exact⟨σ2,c2,z0.trans (z1.trans (z2.trans (qBU c2)))⟩
theorem qmL{C:Int->Cd}{n:Nat}{D:Nat->Int}(g:Hg C n D)(hl:n<2^27)(e0 e1 e2:Int){e m:Int}(h0:0<=e)(h1:e<n)(hD:D e.toNat=0)(hm:DepIs (C 0) e m):qhe (C 0) e0 e1 e2 e (decide (m<=16)):=by
 have hn:=g.ln 0
 have hok:=g.okC
 have hf:=qsC hok
 have hops : ∀ i,i<(C 0).length->1<=opA (C 0) i/\opA (C 0) i<=21:=fun i hi=>(qud (qmC _ _ hok i (by omega) (by omega))).1
 obtain⟨fl,br,dp,r1,r2⟩:=qCg (e0:=e0) (e1:=e1) (e2:=e2) (qiT (C 0) false) hf hops (by omega) (e:=e.toNat) (by omega)
 rw[show ((e.toNat:Nat):Int)=e by omega] at r2
 have hcf:=g.cf (e:=e.toNat) (by omega) hD
 have hbr:br=false:=r1.brk.2 ⟨D,hcf⟩
 have hdp:dp=m:=Most.unique (r1.most D hcf) (hm.2 h0 D hcf)
 refine⟨_,r2,?_⟩
 have:=qAb fl br dp
 rw[hbr,hdp] at this
 rw[hbr,hdp]
 simpa using this
end
end
section
open F Gr
set_option maxHeartbeats 2000000
attribute [local simp] qa8 qbA dkey qga
section
variable{a b c:Hd}
theorem qmH:(rvars a.nd b.nd c.nd).Nodup:=qhI _ _ (by simp)
theorem qqx (fa:a.fine) (fb:b.fine) (fc:c.fine) {m0 m1 m2:Int} (d0:DepIs (qeH (rvars a.nd b.nd c.nd) a b c) (qhM a) m0) (d1:DepIs (qeH (rvars a.nd b.nd c.nd) a b c) (qgN (rvars a.nd b.nd c.nd) a b) m1) (d2:DepIs (qeH (rvars a.nd b.nd c.nd) a b c) (qgO (rvars a.nd b.nd c.nd) a b c) m2) :
  Z qad (.call 131 [.dat (ru a.nd b.nd c.nd)] [])=some (.ret (qtU (qeH (rvars a.nd b.nd c.nd) a b c) (qhM a) (qgN (rvars a.nd b.nd c.nd) a b) (qgO (rvars a.nd b.nd c.nd) a b c) m0 m1 m2) []):=by
 have l4:=qoQ fa.fine fb.fine fc.fine
 have sa:=qpx a fa
 have sb:=qpx b fb
 have sc:=qpx c fc
 have zv:=qgS qgH (qi7 (a:=a.nd) (b:=b.nd) (c:=c.nd) (by omega) (by omega) (by omega))
 obtain⟨ia,ib,ic⟩:=qsl (a:=a) (b:=b) (c:=c)
 obtain⟨n,D,g,p0,p1,p2⟩:=qqA (vs:=rvars a.nd b.nd c.nd) (by omega) fa.fine fb.fine fc.fine ia ib ic
 obtain⟨σ,hst,hloop⟩:=qBP (vs:=rvars a.nd b.nd c.nd) fa fb fc ia ib ic
 have hlen:=ql7 (vs:=rvars a.nd b.nd c.nd) fa fb fc
 have hn:(qeH (rvars a.nd b.nd c.nd) a b c).length=n:=g.ln 0
 have hvl:=qur a.nd b.nd c.nd (vs:=rvars a.nd b.nd c.nd) (by omega) qmH (rvars a.nd b.nd c.nd).length 0 (by omega)
 rw[List.take_zero] at hvl
 have q0:0<=qhM a->qhe (qeH (rvars a.nd b.nd c.nd) a b c) (qhM a) (qgN (rvars a.nd b.nd c.nd) a b) (qgO (rvars a.nd b.nd c.nd) a b c) (qhM a) (decide (m0<=16)):=fun h=>by
  rcases p0 with p|⟨x,y,z⟩
  ·omega
  ·exact qmL g (by omega) _ _ _ x y z d0
 have q1:0<=qgN (rvars a.nd b.nd c.nd) a b->qhe (qeH (rvars a.nd b.nd c.nd) a b c) (qhM a) (qgN (rvars a.nd b.nd c.nd) a b) (qgO (rvars a.nd b.nd c.nd) a b c) (qgN (rvars a.nd b.nd c.nd) a b) (decide (m1<=16)):=fun h=>by
  rcases p1 with p|⟨x,y,z⟩
  ·omega
  ·exact qmL g (by omega) _ _ _ x y z d1
 have q2:0<=qgO (rvars a.nd b.nd c.nd) a b c->qhe (qeH (rvars a.nd b.nd c.nd) a b c) (qhM a) (qgN (rvars a.nd b.nd c.nd) a b) (qgO (rvars a.nd b.nd c.nd) a b c) (qgO (rvars a.nd b.nd c.nd) a b c) (decide (m2<=16)):=fun h=>by
  rcases p2 with p|⟨x,y,z⟩
  ·omega
  ·exact qmL g (by omega) _ _ _ x y z d2
 have w0:qhM a<0->decide (m0<=16)=true:=fun h=>by rw[d0.1 h]; rfl
 have w1:qgN (rvars a.nd b.nd c.nd) a b<0->decide (m1<=16)=true:=fun h=>by rw[d1.1 h]; rfl
 have w2:qgO (rvars a.nd b.nd c.nd) a b c<0->decide (m2<=16)=true:=fun h=>by rw[d2.1 h]; rfl
 clear d0 d1 d2 g
 generalize rvars a.nd b.nd c.nd=vs at *
 generalize hC:qeH vs a b c=C at *
 generalize hE0:qhM a=e0 at *
 generalize hE1:qgN vs a b=e1 at *
 generalize hE2:qgO vs a b c=e2 at *
 have hcond:(16<m0\/16<m1\/16<m2)↔(decide (m0<=16)&&(decide (m1<=16)&&decide (m2<=16)))=false:=by
  rw[Yf,Yf,decide_eq_false_iff_not,decide_eq_false_iff_not,decide_eq_false_iff_not]
  omega
 have hv':=(qah (prog:=qad) (k:=0) (b:=F131l0) (fr:=[(1,.ptr 0 0),(2,.ptr 1 0),(4,.ptr 3 0),(17,.dat (qm0 vs)),(18,.int vs.length),(19,.int 0)]) (σ := [qgP a.nd b.nd c.nd,zP,.map [],qow 0 0 0 2]) (by simp[yFr,ySt,mapM,Wa])).trans hvl
 have hloop':=(qah (prog:=qad) (k:=0) (b:=F131l1) (fr:=[(2,.ptr 1 0),(4,.ptr 2 0),(33,.dat (ru a.nd b.nd c.nd)),(34,.int 0)]) (σ := [qgP a.nd b.nd c.nd,zP,qow 0 0 0 3,mpo vs]) (by simp[jFr,Wa])).trans hloop
 simp only[qgP,zP,Nd.d,qAX,qAY,qAZ,qA0,qpp,yFr,jFr,ru,Wg,Wc] at hv' hloop'
 simp only[ru,Nd.d,qAX,qAY,qAZ,qA0,qpp] at zv
 refine qac (pf:=F131) rfl rfl ?_
 unfold qtU
 cases hst with
 |nil=>
  have hn0:n=0:=by rw[<- hn]; rfl
  obtain⟨σ',hk,z⟩:=qzy (KSt.nil (e0:=e0) (e1:=e1) (e2:=e2) (by omega)) q0 w0 q1 w1 q2 w2
  have h400 : ¬ 400<([]:Cd).length:=by simp
  rw[if_neg h400]
  replace z:=(qah (prog:=qad) (k:=0) (b:=F131l2) (fr:=[(2,.ptr 0 0),(9,.ptr 3 0),(86,.dat (.agg [.lit (.int .i64 e0),.lit (.int .i64 e1),.lit (.int .i64 e2)])),(87,.int 0)]) (σ := [zP,qow e0 e1 e2 2,mpo vs,.cells [.dat (.lit (.slice none 0 0)),.int e0,.int e1,.int e2]]) (by simp[Wa])).trans z
  by_cases hb:16<m0\/16<m1\/16<m2
  ·rw[hcond.1 hb] at z
   rw[if_pos hb]
   cases hk with
   |nil=>simp[F131,ru,Nd.d,zv,hv',hloop',z,pgD,codeD,qcF,qcd,qaP,Wa]
   |vec _ g=>exact absurd rfl g
   |froz _ g=>exact absurd rfl g
  ·have hb':(decide (m0<=16)&&(decide (m1<=16)&&decide (m2<=16)))=true:=by
    rw[<- Bool.not_eq_false,<- hcond]; exact hb
   rw[hb'] at z
   rw[if_neg hb]
   cases hk with
   |nil=>simp[F131,ru,Nd.d,zv,hv',hloop',z,pgD,codeD,qcF,qcd,qaP,Wa]
   |vec _ g=>exact absurd rfl g
   |froz _ g=>exact absurd rfl g
 |gr _ hne=>
  have hdat:=qko C
  have hvl:=qfO C
  rw[qtT hne]
  by_cases h4:400<C.length
  ·rw[if_pos h4]
   have h4':(400:Int)<C.length:=by omega
   simp[F131,ru,Nd.d,zv,hv',hloop',pgD,qcy,h4',qcd,qaP,Wa]
  rw[if_neg h4]
  have h4' : ¬ (400:Int)<C.length:=by omega
  obtain⟨σ',hk,z⟩:=qzy (KSt.vec (e0:=e0) (e1:=e1) (e2:=e2) C hne) q0 w0 q1 w1 q2 w2
  replace z:=(qah (prog:=qad) (k:=0) (b:=F131l2) (fr:=[(2,.ptr 0 0),(9,.ptr 4 0),(86,.dat (.agg [.lit (.int .i64 e0),.lit (.int .i64 e1),.lit (.int .i64 e2)])),(87,.int 0)]) (σ := [zP,cob e0 e1 e2 2 C.length 3,.vec (icV C),mpo vs,.cells [.own 2 C.length 2,.int e0,.int e1,.int e2]]) (by simp[Wa])).trans z
  by_cases hb:16<m0\/16<m1\/16<m2
  ·rw[hcond.1 hb] at z
   rw[if_pos hb]
   cases hk with
   |nil=>exact absurd rfl hne
   |vec _ g=>simp[F131,ru,Nd.d,zv,hv',hloop',z,pgD,qcy,h4',qcd,qaP,Wa]
   |froz _ g=>simp[F131,ru,Nd.d,zv,hv',hloop',z,pgD,qcy,h4',qcd,qaP,Wa]
  ·have hb':(decide (m0<=16)&&(decide (m1<=16)&&decide (m2<=16)))=true:=by
    rw[<- Bool.not_eq_false,<- hcond]; exact hb
   rw[hb'] at z
   rw[if_neg hb]
   cases hk with
   |nil=>exact absurd rfl hne
   |vec _ g=>simp[F131,ru,Nd.d,zv,hv',hloop',z,pgD,qcy,h4',hdat,hvl,qcd,qaP,Wa]
   |froz _ g=>simp[F131,ru,Nd.d,zv,hv',hloop',z,pgD,qcy,h4',hdat,hvl,qcd,qaP,Wa]
end
end
section
def qv2(u:ByteArray):Prop:=(byl u).head?≠some 61
def qAD(t:ByteArray):Prop:=t≠bs [60]/\t≠bs [62]/\t≠bs [61]/\t≠bs [33]
theorem qmF : ∀ {a b:List ByteArray},Ok2 a->Ok2 b->(∀ t u,a.getLast?=some t->b.head?=some u->Adj t u)->Ok2 (a++b)
 |[],b,_,hb,_=>hb
 |t::a,b,ha,hb,h=>by
  refine⟨ha.1,fun u hu=>?_,qmF ha.2.2 hb fun t' u h1 h2=>?_⟩
  ·cases a with
   |nil=>exact h t u rfl hu
   |cons v a=>exact ha.2.1 u hu
  ·cases a with
   |nil=>cases h1
   |cons v a=>exact h t' u (by rw[Yz]; exact h1) h2
structure Cl(l:List ByteArray):Prop where
 ok:Ok2 l
 st : ∀ u,l.head?=some u->qv2 u
 en : ∀ t,l.getLast?=some t->qAD t
theorem qqu:Cl []:=⟨trivial,fun u h=>(by cases h),fun t h=>(by cases h)⟩
theorem qnG{x:ByteArray}(h:Tg (byl x))(h1:qv2 x)(h2:qAD x):Cl [x]:=⟨⟨h,fun u hu=>(by cases hu),trivial⟩,fun u hu=>(by cases hu; exact h1),fun t ht=>(by cases ht; exact h2)⟩
theorem qbh{a b:List ByteArray}(ha:Cl a)(hb:Cl b):Cl (a++b):=by
 refine⟨qmF ha.ok hb.ok fun t u h1 _ => .inl (ha.en t h1),fun u hu=>?_,fun t ht=>?_⟩
 ·cases a with
  |nil=>exact hb.st u hu
  |cons v a=>exact ha.st u hu
 ·rw[List.getLast?_append] at ht
  cases hbl:b.getLast? with
  |none=>rw[hbl] at ht; exact ha.en t ht
  |some v=>rw[hbl] at ht; exact hb.en t (hbl.trans ht)
theorem qv3{x:ByteArray}{a b:List ByteArray}(h:Tg (byl x))(ha:Cl a)(hb:Cl b)(na:a≠[])(nb:b≠[]):Cl (a++x::b):=by
 have hxb:Ok2 (x::b):=⟨h,fun u hu => .inr (hb.st u hu),hb.ok⟩
 refine⟨qmF ha.ok hxb fun t u h1 _ => .inl (ha.en t h1),fun u hu=>?_,fun t ht=>?_⟩
 ·cases a with
  |nil=>exact absurd rfl na
  |cons v a=>exact ha.st u hu
 ·cases b with
  |nil=>exact absurd rfl nb
  |cons v b=>
   rw[List.getLast?_append,Yz] at ht
   cases hbl:(v::b).getLast? with
   |none=>simp at hbl
   |some w=>rw[hbl] at ht; exact hb.en t (hbl.trans ht)
theorem qzf{x:ByteArray}{b:List ByteArray}(h:Tg (byl x))(h1:qv2 x)(hb:Cl b)(nb:b≠[]):Cl (x::b):=by
 refine⟨⟨h,fun u hu => .inr (hb.st u hu),hb.ok⟩,fun u hu=>(by cases hu; exact h1),fun t ht=>?_⟩
 cases b with
 |nil=>exact absurd rfl nb
 |cons v b=>rw[Yz] at ht; exact hb.en t ht
theorem qqv{c:UInt8}(h:c.toNat∈symB):Tg (byl (bs [c])):=by rw[qbp]; exact .inr (.inr (.inr ⟨c,rfl,h⟩))
theorem qBH(o:Bop):Tg (byl o.str):=by
 cases o
 all_goals first
  |exact .inr (.inr (.inr ⟨_,rfl,by decide⟩))
  |exact .inr (.inr (.inl (by decide)))
theorem qBI(neg:Bool):Tg (byl (ustr neg)):=by
 cases neg<;>exact .inr (.inr (.inr ⟨_,rfl,by decide⟩))
theorem qv4{c:UInt8}{r:List UInt8}(h:qaQ c=true)(h2 : ∀ b∈r,qaz b=true)(h3:(c::r).length<=8):Tg (byl (bs (c::r))):=by
 rw[qbp]
 exact .inl ⟨c,r,rfl,h,h2,fun h=>by omega⟩
theorem clf{x:ByteArray}(h:x∈fieldNames):Cl [x]:=by
 simp only[fieldNames,Wo,Wx,or_false] at h
 rcases h with h|h|h|h|h|h|h|h<;>rw[h]
 all_goals exact qnG (.inl ⟨_,_,rfl,by decide,by decide,by decide⟩) (by unfold qv2; decide) (by unfold qAD; decide)
theorem clw{x:ByteArray}(h:x∈wordNames):Cl [x]:=by
 simp only[wordNames,Wo,Wx,or_false] at h
 rcases h with h|h|h|h|h|h|h|h|h|h|h|h|h<;>rw[h]
 all_goals exact qnG (.inl ⟨_,_,rfl,by decide,by decide,by decide⟩) (by unfold qv2; decide) (by unfold qAD; decide)
theorem quh{x:ByteArray}(h:Tg (byl x))(hs:qaX qaQ x=true\/qaX qaq x=true):Cl [x]:=by
 refine qnG h ?_ ⟨?_,?_,?_,?_⟩
 ·intro h1
  rw[qbw,qbw,h1] at hs
  exact absurd hs (by decide)
 all_goals rintro rfl; exact absurd hs (by decide)
theorem qqw{x:ByteArray}(h:qqH x):Cl [x]:=quh h.1 (.inl h.2.1)
theorem cls{c:UInt8}(h:c.toNat∈symB)(h1:c≠61)(h2:c≠60/\c≠62/\c≠33):Cl [bs [c]]:=by
 refine qnG (qqv h) (by rw[qv2,qbp]; simpa using h1) ⟨?_,?_,?_,?_⟩
 all_goals
  intro h
  have:=qrq h
  simp only[WI,and_true] at this
  simp_all
theorem qsQ(full:Bool){e:E}(h:e.good)(p:Nat):e.tx full p≠[]:=by
 obtain⟨x,l,h1,_⟩:=qmM full e h p
 rw[h1]; simp
theorem qnH{b:Bool}{l:List ByteArray}(h:Cl l):Cl (qbR b l):=by
 unfold qbR
 split
 ·exact qbh (a:=[bs [40]]) (cls (by decide) (by decide) (by decide)) (qbh h (cls (by decide) (by decide) (by decide)))
 ·exact h
theorem qiJ(full:Bool) : ∀ e:E,e.good -> ∀ p,Cl (e.tx full p)
 |.int n,h,p=>quh (by rw[qbp]; exact qwl (by have:=h.1; have:=h.2; omega)) (.inr (qig (by have:=h.1; have:=h.2; omega)))
 |.bool n,h,p=>by
  simp only[E.tx]
  split<;>exact clw (by decide)
 |.var s,h,p=>qqw h
 |.name s,h,p=>by
  refine clw ?_
  rcases h with rfl|rfl|rfl<;>decide
 |.field g s e,h,p=>qbh (clf h.1) (qbh (a:=[bs [91]]) (cls (by decide) (by decide) (by decide)) (qbh (qiJ full e h.2 1) (cls (by decide) (by decide) (by decide))))
 |.un g neg e,h,p=>qnH (qzf (qBI neg) (by unfold qv2; cases neg<;>decide) (qiJ full e h _) (qsQ full (e:=e) h _))
 |.bin g o a b,h,p=>qnH (qv3 (qBH o) (qiJ full a h.1 _) (qiJ full b h.2 _) (qsQ full h.1 _) (qsQ full h.2 _))
theorem qhW : ∀ (s:Ss) m,s.good m->Cl s.tx
 |.nil,m,h=>qqu
 |.assign g s e r,m,h=>qv3 (a:=[s]) (qqv (by decide)) (qqw h.2.1) (qbh (qiJ false e h.2.2.1 1) (qbh (a:=[bs [59]]) (cls (by decide) (by decide) (by decide)) (qhW r _ h.2.2.2))) (by simp) (by simp)
 |.store g s a b r,m,h=>by
  have h1:Cl (s::bs [91]::(a.tx false 1++[bs [93]])):=qbh (clf h.2.1) (qbh (a:=[bs [91]]) (cls (by decide) (by decide) (by decide)) (qbh (qiJ false a h.2.2.1 1) (cls (by decide) (by decide) (by decide))))
  have h2:Cl (b.tx false 1++(bs [59]::r.tx)):=qbh (qiJ false b h.2.2.2.1 1) (qbh (a:=[bs [59]]) (cls (by decide) (by decide) (by decide)) (qhW r _ h.2.2.2.2))
  have:=qv3 (x:=bs [61]) (qqv (by decide)) h1 h2 (by simp) (by simp)
  simpa [Ss.tx] using this
 |.effect g a b r,m,h=>qbh (a:=[qkH]) (clw (by decide)) (qbh (qiJ false a h.2.1 1) (qbh (a:=[bs [44]]) (cls (by decide) (by decide) (by decide)) (qbh (qiJ false b h.2.2.1 1) (qbh (a:=[bs [59]]) (cls (by decide) (by decide) (by decide)) (qhW r _ h.2.2.2)))))
 |.stop r,m,h=>qbh (a:=[qs0]) (clw (by decide)) (qbh (a:=[bs [59]]) (cls (by decide) (by decide) (by decide)) (qhW r _ h.2))
 |.cond w g c b r,m,h=>qbh (a:=[if w then qnO else ifS]) (clw (by cases w<;>decide)) (qbh (qiJ false c h.2.1 1) (qbh (qhW b _ h.2.2.1) (qhW r _ h.2.2.2)))
 |.block g b r,m,h=>by
  obtain⟨n,_,h1,h2⟩:=h
  have hlast:Cl (if qfD r then qkG::r.tx else []):=?_
  ·exact qbh (a:=[bs [123]]) (cls (by decide) (by decide) (by decide)) (qbh (qhW b _ h1) (qbh (a:=[bs [125]]) (cls (by decide) (by decide) (by decide)) hlast))
  split
  ·exact qbh (a:=[qkG]) (clw (by decide)) (qhW r _ h2)
  ·exact qqu
def qcW(k:Nat):ByteArray:=match k with|0=>bs [97,99,116] | 1=>qiR|_=>qi3
def qfC(k:Nat):Option Ss->List ByteArray
 |none=>[]
 |some b=>onS::qcW k::bs [123]::(b.tx++[bs [125]])
def qdC(h:Option Ss):Prop := ∀ b,h=some b->b.good none/\b.nest<=19
theorem qv5{k:Nat}{h:Option Ss}(hg:qdC h):Cl (qfC k h):=by
 cases h with
 |none=>exact qqu
 |some b=>
  refine qbh (a:=[onS]) (clw (by decide)) (qbh (a:=[qcW k]) (clw ?_) (qbh (a:=[bs [123]]) (cls (by decide) (by decide) (by decide)) (qbh (qhW b _ (hg b rfl).1) (cls (by decide) (by decide) (by decide)))))
  rcases k with _|_|k
  ·decide
  ·decide
  ·show qi3∈wordNames; decide
def qaY(h:Nat->Option Ss):List ByteArray:=qfC 0 (h 0)++(qfC 1 (h 1)++qfC 2 (h 2))
theorem qmG{h:Nat->Option Ss}(hg : ∀ k,qdC (h k)):Cl (qaY h):=qbh (qv5 (hg 0)) (qbh (qv5 (hg 1)) (qv5 (hg 2)))
theorem qkC{k:Nat}(h:k<3):qfp (qcW k)=some k:=by
 rcases k with _|_|_|k
 ·rfl
 ·rfl
 ·rfl
 ·omega
end
section
def Fo.eqv:Fo->Fo->Bool
 |.nil,.nil=>true
 |.cons k n s _ ks r,.cons k' n' s' _ ks' r'=>(decide (k=k')&&(decide (n=n')&&decide (s=s')))&&(ks.eqv ks'&&r.eqv r')
 |_,_=>false
theorem qm6(full f:Bool) : ∀ (e:E) p,(e.fl f).tx full p=e.tx full p
 |.int n,p | .bool n,p | .var s,p | .name s,p=>rfl
 |.field _ s e,p=>by simp[E.fl,E.tx,qm6 full f e]
 |.un _ n e,p=>by simp[E.fl,E.tx,qm6 full f e]
 |.bin _ o a b,p=>by simp[E.fl,E.tx,qm6 full f a,qm6 full f b]
theorem qf6(f:Bool) : ∀ (e:E),(e.fl f).good↔e.good
 |.int n | .bool n | .var s | .name s=>Iff.rfl
 |.field _ s e | .un _ n e=>by simp[E.fl,E.good,qf6 f e]
 |.bin _ o a b=>by simp[E.fl,E.good,qf6 f a,qf6 f b]
theorem qf7(full f:Bool) : ∀ (e:E) p,(e.fl f).nest full p=e.nest full p
 |.int n,p | .bool n,p | .var s,p | .name s,p=>rfl
 |.field _ s e,p=>by simp[E.fl,E.nest,qf7 full f e]
 |.un _ n e,p=>by simp[E.fl,E.nest,qf7 full f e]
 |.bin _ o a b,p=>by simp[E.fl,E.nest,qf7 full f a,qf7 full f b]
theorem qtV(f fi fb:Bool)(r:Ss):qfD (r.fl f fi fb)=qfD r:=by
 cases r with
 |block g b r=>cases b<;>rfl
 |_=>rfl
theorem qhQ(f fi fb:Bool) : ∀ s:Ss,(s.fl f fi fb).tx=s.tx
 |.nil=>rfl
 |.assign _ s e r=>by simp[Ss.fl,Ss.tx,qm6,qhQ f fi fb r]
 |.store _ s a b r | .effect _ a b r=>by simp[Ss.fl,Ss.tx,qm6,qhQ f fi fb r]
 |.stop r=>by simp[Ss.fl,Ss.tx,qhQ f fi fb r]
 |.cond w _ c b r=>by simp[Ss.fl,Ss.tx,qm6,qhQ f fi fb b,qhQ f fi fb r]
 |.block _ b r=>by simp[Ss.fl,Ss.tx,qhQ f fi fb b,qhQ f fi fb r,qtV]
theorem qdh(f fi fb:Bool) : ∀ (s:Ss) m,(s.fl f fi fb).good m↔s.good m
 |.nil,m=>Iff.rfl
 |.assign _ s e r,m=>by simp[Ss.fl,Ss.good,qf6,qdh f fi fb r]
 |.store _ s a b r,m=>by simp[Ss.fl,Ss.good,qf6,qdh f fi fb r]
 |.effect _ a b r,m=>by simp[Ss.fl,Ss.good,qf6,qdh f fi fb r]
 |.stop r,m=>by simp[Ss.fl,Ss.good,qdh f fi fb r]
 |.cond w _ c b r,m=>by simp[Ss.fl,Ss.good,qf6,qdh f fi fb b,qdh f fi fb r]
 |.block _ b r,m=>by simp[Ss.fl,Ss.good,qdh f fi fb b,qdh f fi fb r]
theorem qdU(f fi fb:Bool) : ∀ s:Ss,(s.fl f fi fb).nest=s.nest
 |.nil=>rfl
 |.assign _ s e r=>by simp[Ss.fl,Ss.nest,qf7,qdU f fi fb r]
 |.store _ s a b r | .effect _ a b r=>by simp[Ss.fl,Ss.nest,qf7,qdU f fi fb r]
 |.stop r=>by simp[Ss.fl,Ss.nest,qdU f fi fb r]
 |.cond w _ c b r=>by simp[Ss.fl,Ss.nest,qf7,qdU f fi fb b,qdU f fi fb r]
 |.block _ b r=>by simp[Ss.fl,Ss.nest,qdU f fi fb b,qdU f fi fb r]
def Rz.map{α β : Type}(k : α -> β):Rz α -> Rz β
 |.ok a r => .ok (k a) r
 |.er i c => .er i c
section
variable(eS eL:Nat)(f g:Bool)
variable(fi fb gi gb:Bool)
variable(eD:Nat)
def qx5(f fi fb:Bool)(h:Nat->Option Ss):Nat->Option Ss:=fun k=>(h k).map (Ss.fl f fi fb)
end
end
end Go.Pm
section
namespace Go.Pm.F
variable(C:Task->Option Res)(q:Nat)(fr:Fr)(σ : S)
@[simp] def F228a0x:PC:=(rn [jj 6 (.alloc [zN,eN,zN,zN,zN]),st 5 6 20] [1000000,5,6])
def F228a0:PC:=F228a0x
theorem qjw:run C q F228a0 fr σ = run C q F228a0x fr σ := rfl
@[simp] def F228b0x:PC:=(.block 1 (.region (some []) [⟨some 21,.load false 1 (.t 5),none,[7]⟩,l1 22 5,nc 23 22,fa 24 2 23,l1 25 24,la 26 5 6,jj 27 (.bslice 1 [zN,eN,zN,zN,zN] [(0,5,(.t 26))]),jj 28 (.append 5 48 (.t 25) (.t 27)),nc 29 21,fa 30 2 29,st 1 30 28] [1000000]))
def F228b0:PC:=F228b0x
theorem qjx:run C q F228b0 fr σ = run C q F228b0x fr σ := rfl
theorem qiA:F228a0.flat=true:=rfl
theorem qiB:F228b0.flat=true:=rfl
def F228:PFun:=⟨1,[.cell 2 true 12,.cell 3 false 1,.cell 4 false 1],sr [jj 2 (.alloc [zN,zN,eN,sN,zN,zN,eN,sN,zN,zN,eN,sN]),jj 3 (.alloc [zN]),jj 4 (.alloc [zN])] [1000000,0,2,3,4] (.seq (sr [mv 7 0,lz 8 7,bk 9 .gtr 8 2000] [1000000,0,2,3,4,9] (cs 9 (sr [jj 10 (.build [zN,zN,eN,sN,zN,zN,eN,sN,zN,zN,eN,sN] []),st 12 2 10,jn (.store 1 (.t 3) (kk 2000)),jn (.store 1 (.t 4) (kk 2))] [1000000,2,3,4] .ret))) (sr [mv 11 0,cl 12 239 [11],jj 13 (.build [eN,(.lit (.map none)),sN,zN,zN,zN] [(0,2,(.t 12)),(5,1,(kk 12))]),bx 14 13,jj 5 (.alloc [(.lit (.pointer none))]),st 1 5 14] [1000000,2,3,4,5] (sr [jj 15 (.mkfn 240 [] [(.t 5),(.t 2),(.t 3),(.t 4)]),jj 1000000 (.defer (.t 15) [])] [1000000,2,3,4,5] (.seq (sr [l1 16 5,nc 17 16,fa 18 0 17,cl 19 241 [18]] [1000000,2,3,4,5,19] (.block 0 (.range (.t 19) [20] F228a0 F228b0))) (sr [l1 31 5,cl 32 242 [31],st 12 2 32,jn (.store 1 (.t 3) (kk 0)),jn (.store 1 (.t 4) (kk 0))] [1000000,2,3,4] .ret))))),false,true,false⟩
@[simp] def F231l0x:PC:=(sr [bk 10 .lss 9 3] [1,3,8,9,10] (.seq (.cond (.t 10) .skip (.exit 0)) (.seq (.block 1 (sr [mv 11 9,jj 12 (.indexA false 3 1 (.t 8) (.t 9)),mv 4 11,mv 5 12] [1,3,4,5,8,9] (sr [mv 13 4,fa 14 0 1,jj 15 (.indexAddrA 3 4 (.t 14) (.t 13)),fa 16 0 15,l1 17 16,bk 18 .neq 17 0] [1,3,4,5,8,9,18] (cs 18 (sr [mv 19 3,mv 20 5,jj 21 (.bslice 2 [eN,eN] [(0,1,(ks [111,110])),(1,1,(.t 20))]),cl 22 243 [19,21]] [1,3,4,8,9] (rn [mv 23 3,mv 24 4,fa 25 0 1,jj 26 (.indexAddrA 3 4 (.t 25) (.t 24)),la 27 4 26,cl 28 244 [23,27]] [1,3,8,9])))))) (rn [bk 29 .add 9 1,mv 9 29] [1,3,8,9]))))
def F231l0:PC:=F231l0x
theorem qcl:run C q F231l0 fr σ = run C q F231l0x fr σ := rfl
def F231:PFun:=pf 1 [.tmp 2] (sr [bx 1 0,jj 2 (.mov (ks []))] [1] (sr [jj 6 (.build [(.lit (.pointer none)),sN,(.lit (.int .u8 0))] []),jj 7 (.boxT 4 (.t 6)),mv 3 7] [1,3] (.seq (sr [jj 8 (.build [eN,eN,eN] [(0,1,(ks [97,99,116])),(1,1,(ks [116,105,99,107])),(2,1,(ks [104,105,116]))]),mx 9 (kk 0)] [1,3,8,9] (.block 0 (.loop F231l0))) (sr [mv 30 3,nc 31 30,fa 32 0 31,cl 33 245 [32],mv 2 33] [2] .ret))))
def F239:PFun:=pf 1 [.cell 2 true 2] (sr [jj 2 (.alloc [eN,(.lit (.map none))])] [0,2] (sr [mv 3 0,jj 4 (.mkmap),jn (.mapset .s (.t 4) (ks [111,110]) (kk 2)),jn (.mapset .s (.t 4) (ks [97,99,116]) (kk 2)),jn (.mapset .s (.t 4) (ks [116,105,99,107]) (kk 2)),jn (.mapset .s (.t 4) (ks [105,102]) (kk 2)),jn (.mapset .s (.t 4) (ks [101,108,115,101]) (kk 2)),jn (.mapset .s (.t 4) (ks [119,104,105,108,101]) (kk 2)),jn (.mapset .s (.t 4) (ks [101,102,102,101,99,116]) (kk 2)),jn (.mapset .s (.t 4) (ks [115,116,111,112]) (kk 2)),jn (.mapset .s (.t 4) (ks [116,114,117,101]) (kk 2)),jn (.mapset .s (.t 4) (ks [102,97,108,115,101]) (kk 2)),jn (.mapset .s (.t 4) (ks [115,101,108,102]) (kk 2)),jn (.mapset .s (.t 4) (ks [111,116,104,101,114]) (kk 2)),jn (.mapset .s (.t 4) (ks [120]) (kk 3)),jn (.mapset .s (.t 4) (ks [121]) (kk 3)),jn (.mapset .s (.t 4) (ks [118,120]) (kk 3)),jn (.mapset .s (.t 4) (ks [118,121]) (kk 3)),jn (.mapset .s (.t 4) (ks [97]) (kk 3)),jn (.mapset .s (.t 4) (ks [98]) (kk 3)),jn (.mapset .s (.t 4) (ks [104,105,116]) (kk 3)),jn (.mapset .s (.t 4) (ks [115,116,105,108,108]) (kk 3)),mv 5 4,jj 6 (.build [eN,(.lit (.map none))] [(0,1,(.t 3)),(1,1,(.t 5))]),st 2 2 6] [2] .ret))
def F240:PFun:=⟨4,[],sr [jj 4 (.recov),jj 5 (.isnil false true (.t 4))] [0,1,2,3,5] (cs 5 (.region (some []) [jj 6 (.build [zN,zN,eN,sN,zN,zN,eN,sN,zN,zN,eN,sN] []),l1 7 0,nc 8 7,fa 9 4 8,l1 10 9,l1 11 0,nc 12 11,fa 13 5 12,l1 14 13,st 12 1 6,st 1 2 10,st 1 3 14] [])),false,false,true⟩
def F241:PFun:=pf 1 [.tmp 2] (sr [bx 1 0,jj 2 (.mov (.c .nilFunc))] [1] (sr [jj 3 (.mkfn 249 [] [(.t 1)]),mv 2 3] [2] .ret))
@[simp] def F242l0x:PC:=(.seq (sr [mv 5 0,cl 6 252 [5],jj 7 (.field false 0 1 (.t 6)),bk 8 .neq 7 0] [0,2,3,8] (.cond (.t 8) .skip (.exit 0))) (.block 1 (sr [mv 9 0,jj 10 (.call 253 [(.t 9),(ks [111,110])])] [0,2,3] (sr [mv 11 0,cl 12 254 [11],mv 4 12] [0,2,3,4] (.seq (sr [mv 13 4,fa 14 0 3,jj 15 (.indexAddrA 3 4 (.t 14) (.t 13)),fa 16 0 15,l1 17 16,bk 18 .neq 17 0] [0,2,3,4,18] (cs 18 (rn [mv 19 0,mv 20 0,cl 21 252 [20],jj 22 (.call 255 [(.t 19),(.t 21),(kk 4)])] [0,2,3,4]))) (sr [mv 23 0,nc 24 23,fa 25 3 24,l1 26 25,bk 27 .add 26 1,nc 28 23,fa 29 3 28,st 1 29 27] [0,2,3,4] (rn [mv 30 4,mv 31 0,jj 32 (.call 256 [(.t 31),(kk 1)]),fa 33 0 3,jj 34 (.indexAddrA 3 4 (.t 33) (.t 30)),st 4 34 32] [0,2,3])))))))
def F242l0:PC:=F242l0x
theorem qjy:run C q F242l0 fr σ = run C q F242l0x fr σ := rfl
def F242:PFun:=pf 1 [.cell 2 true 12] (sr [jj 2 (.alloc [zN,zN,eN,sN,zN,zN,eN,sN,zN,zN,eN,sN])] [0,2] (sr [jj 3 (.alloc [zN,zN,eN,sN,zN,zN,eN,sN,zN,zN,eN,sN])] [0,2,3] (.seq (.block 0 (.loop F242l0)) (sr [la 35 12 3,st 12 2 35] [2] .ret))))
@[simp] def F243l0x:PC:=(sr [bn 9 .lss 8 7] [0,6,7,8,9] (.seq (.cond (.t 9) .skip (.exit 0)) (.seq (.block 1 (sr [jj 10 (.indexAddr 1 (.t 6) (.t 8)),l1 11 10,mv 5 11] [0,5,6,7,8] (.seq (sr [mv 12 5,jj 13 (.bin .eql (.t 12) (ks []))] [0,5,6,7,8,13] (cs 13 (.exit 1))) (.seq (sr [mv 14 0,nc 15 14,fa 16 2 15,l1 17 16,cl 18 257 [17],mv 19 18,jt 20 19 (.mov (.t 5)),jt 21 19 (.indexS (.t 20) (kk 0)),jt 22 19 (.call 257 [(.t 21)]),jj 23 (.pick (.t 19) (.t 22) kF)] [0,5,6,7,8,23] (cs 23 (rn [mv 24 0,nc 25 24,fa 26 0 25,jj 27 (.call 258 [(.t 26),(.c (.int .u8 32))])] [0,5,6,7,8]))) (sr [mv 28 0,nc 29 28,fa 30 0 29,mv 31 5,cl 32 259 [30,31]] [0,5,6,7,8] (rn [mv 33 0,mv 34 5,mv 35 5,lz 36 35,bk 37 .sub 36 1,jj 38 (.indexS (.t 34) (.t 37)),nc 39 33,fa 40 2 39,st 1 40 38] [0,6,7,8])))))) (rn [bk 41 .add 8 1,mv 8 41] [0,6,7,8]))))
def F243l0:PC:=F243l0x
theorem qd6:run C q F243l0 fr σ = run C q F243l0x fr σ := rfl
def F243:PFun:=pf 2 [] (sr [mv 6 1,ls 7 6,mx 8 (kk 0)] [0,6,7,8] (.block 0 (.loop F243l0)))
@[simp] def F244l0x:PC:=(sr [bn 13 .lss 12 11] [0,10,11,12,13] (.seq (.cond (.t 13) .skip (.exit 0)) (.seq (.block 1 (sr [jj 14 (.indexAddr 4 (.t 10) (.t 12)),la 15 4 14,jj 5 (.alloc [zN,zN,eN,sN]),st 4 5 15] [0,5,10,11,12] (rn [mv 16 0,la 17 4 5,cl 18 260 [16,17]] [0,10,11,12]))) (rn [bk 19 .add 12 1,mv 12 19] [0,10,11,12]))))
def F244l0:PC:=F244l0x
theorem qgW:run C q F244l0 fr σ = run C q F244l0x fr σ := rfl
def F244:PFun:=pf 2 [] (sr [bx 3 1] [0,3] (sr [mv 6 0,jj 7 (.bslice 1 [eN] [(0,1,(ks [123]))]),cl 8 243 [6,7]] [0,3] (.seq (sr [fa 9 3 3,l1 10 9,ls 11 10,mx 12 (kk 0)] [0,10,11,12] (.block 0 (.loop F244l0))) (rn [mv 20 0,jj 21 (.bslice 1 [eN] [(0,1,(ks [125]))]),cl 22 243 [20,21]] []))))
@[simp] def F249l0x:PC:=(.block 1 (.seq (.region (some [(34,[zN,eN,zN,zN,zN])]) [⟨some 5,.load false 1 (.t 1),none,[3]⟩,l1 6 1,mv 7 3,cl 8 251 [6,7],cl 9 250 [5,8],⟨some 4,.fill 34,none,[3,4]⟩,st 5 4 9] [0,1,4]) (.seq (sr [mv 10 0,la 11 5 4,jj 12 (.callv (.t 10) [(.t 11)]),jj 13 (.un .not (.t 12)),mv 14 13,jf 15 14 (.fieldAddr 0 (.t 4)),jf 16 14 (.load false 1 (.t 15)),jf 17 14 (.bin .eql (.t 16) (kk 0)),jj 18 (.pick (.t 14) kT (.t 17)),mv 19 18,jf 20 19 (.fieldAddr 0 (.t 4)),jf 21 19 (.load false 1 (.t 20)),jf 22 19 (.bin .eql (.t 21) (kk 6)),jj 23 (.pick (.t 19) kT (.t 22))] [0,1,4,23] (cs 23 .ret)) (rn [fa 24 2 4,l1 25 24,fa 26 1 4,l1 27 26,lz 28 27,bn 29 .add 25 28,mv 3 29] [0,1,3]))))
def F249l0:PC:=F249l0x
theorem qfi:run C q F249l0 fr σ = run C q F249l0x fr σ := rfl
def F249:PFun:=pf 2 [] (sr [mx 3 (kk 0)] [0,1,3] (.block 0 (.loop F249l0)))
def F250:PFun:=pf 2 [.cell 4 true 5] (sr [jj 4 (.alloc [zN,eN,zN,zN,zN])] [0,1,4] (.seq (sr [mv 7 1,mv 8 0,nc 9 8,fa 10 0 9,l1 11 10,lz 12 11,bn 13 .eql 7 12] [0,1,4,13] (cs 13 (sr [mv 14 1,jj 15 (.build [zN,eN,zN,zN,zN] [(0,1,(kk 0)),(2,1,(.t 14))]),st 5 4 15] [4] .ret))) (.seq (sr [mv 16 0,nc 17 16,fa 18 0 17,l1 19 18,mv 20 1,jj 21 (.indexS (.t 19) (.t 20)),mv 5 21] [0,1,4,5] (.block 0 (sr [mv 23 5,cl 24 264 [23],mv 22 24] [0,1,4,5,22] (.cond (.t 22) (sr [mv 25 0,mv 26 1,cl 27 265 [25,26],st 5 4 27] [4] .ret) (sr [mv 29 5,cl 30 266 [29],mv 28 30] [0,1,4,28] (cs 28 (sr [mv 31 0,mv 32 1,cl 33 267 [31,32],st 5 4 33] [4] .ret))))))) (.seq (sr [mv 34 1,bk 35 .add 34 2,mv 36 0,nc 37 36,fa 38 0 37,l1 39 38,lz 40 39,bn 41 .leq 35 40] [0,1,4,41] (cs 41 (sr [mv 42 0,nc 43 42,fa 44 0 43,l1 45 44,mv 46 1,mv 47 1,bk 48 .add 47 2,jj 49 (.sliceS (.t 45) (some (.t 46)) (some (.t 48))),mv 6 49] [0,1,4,6] (sr [mv 50 6] [0,1,4,6,50] (.block 1 (.seq (sr [jj 52 (.bin .eql (.t 50) (ks [124,124])),mv 51 52] [0,1,4,6,50,51] (.cond (.t 51) .skip (sr [jj 53 (.bin .eql (.t 50) (ks [38,38])),mv 51 53] [0,1,4,6,50,51] (.cond (.t 51) .skip (sr [jj 54 (.bin .eql (.t 50) (ks [60,61])),mv 51 54] [0,1,4,6,50,51] (.cond (.t 51) .skip (sr [jj 55 (.bin .eql (.t 50) (ks [62,61])),mv 51 55] [0,1,4,6,50,51] (.cond (.t 51) .skip (sr [jj 56 (.bin .eql (.t 50) (ks [61,61])),mv 51 56] [0,1,4,6,50,51] (.cond (.t 51) .skip (rn [jj 57 (.bin .eql (.t 50) (ks [33,61])),mv 51 57] [0,1,4,6,51]))))))))))) (cs 51 (sr [mv 58 6,mv 59 1,jj 60 (.build [zN,eN,zN,zN,zN] [(0,1,(kk 5)),(1,1,(.t 58)),(2,1,(.t 59))]),st 5 4 60] [4] .ret)))))))) (.seq (sr [mv 61 0,nc 62 61,fa 63 0 62,l1 64 63,mv 65 1,jj 66 (.indexS (.t 64) (.t 65)),jj 67 (.call 268 [(ks [123,125,91,93,40,41,61,59,44,60,62,43,45,42,47,33]),(.t 66)]),bk 68 .geq 67 0] [0,1,4,68] (cs 68 (sr [mv 69 0,nc 70 69,fa 71 0 70,l1 72 71,mv 73 1,mv 74 1,bk 75 .add 74 1,jj 76 (.sliceS (.t 72) (some (.t 73)) (some (.t 75))),mv 77 1,jj 78 (.build [zN,eN,zN,zN,zN] [(0,1,(kk 5)),(1,1,(.t 76)),(2,1,(.t 77))]),st 5 4 78] [4] .ret))) (sr [mv 79 1,jj 80 (.build [zN,eN,zN,zN,zN] [(0,1,(kk 6)),(2,1,(.t 79)),(4,1,(kk 12))]),st 5 4 80] [4] .ret))))))
@[simp] def F251l0x:PC:=(.seq (sr [mv 7 1,mv 8 0,nc 9 8,fa 10 0 9,l1 11 10,lz 12 11,bn 13 .lss 7 12] [0,1,5,13] (.cond (.t 13) .skip (.exit 0))) (.seq (.block 1 (sr [mv 16 0,nc 17 16,fa 18 0 17,l1 19 18,mv 20 1,jj 21 (.indexS (.t 19) (.t 20)),mv 6 21] [0,1,5,6] (.block 2 (sr [mv 24 6,jj 25 (.bin .eql (.t 24) (.c (.int .u8 10))),mv 23 25] [0,1,5,6,23] (.cond (.t 23) (rn [mx 5 kF] [0,1,5]) (sr [mv 27 5,mv 28 27,jf 29 28 (.mov (.t 6)),jf 30 28 (.bin .eql (.t 29) (.c (.int .u8 32))),jj 31 (.pick (.t 28) kT (.t 30)),mv 32 31,jf 33 32 (.mov (.t 6)),jf 34 32 (.bin .eql (.t 33) (.c (.int .u8 9))),jj 35 (.pick (.t 32) kT (.t 34)),mv 26 35] [0,1,5,6,26] (.cond (.t 26) .skip (sr [mv 37 6,jj 38 (.bin .eql (.t 37) (.c (.int .u8 35))),mv 36 38] [0,1,36] (.cond (.t 36) (rn [mx 5 kT] [0,1,5]) (sr [mv 22 1,mv 4 22] [4] .ret)))))))))) (rn [mv 14 1,bk 15 .add 14 1,mv 1 15] [0,1,5])))
def F251l0:PC:=F251l0x
theorem qdl:run C q F251l0 fr σ = run C q F251l0x fr σ := rfl
def F251:PFun:=pf 2 [.tmp 4] (sr [mx 4 (kk 0)] [0,1] (.seq (sr [mx 5 kF] [0,1,5] (.block 0 (.loop F251l0))) (sr [mv 39 1,mv 4 39] [4] .ret)))
def F252:PFun:=pf 1 [.cell 2 true 5] (sr [jj 2 (.alloc [zN,eN,zN,zN,zN])] [0,2] (.seq (.region (some [(26,[zN,eN,zN,zN,zN])]) [mv 4 0,nc 5 4,fa 6 2 5,l1 7 6,mv 8 0,nc 9 8,fa 10 3 9,l1 11 10,jj 12 (.indexAddr 5 (.t 7) (.t 11)),la 13 5 12,jj 3 (.fill 26),st 5 3 13] [0,2,3]) (.seq (sr [fa 14 0 3,l1 15 14,bk 16 .eql 15 6] [0,2,3,16] (cs 16 (rn [mv 17 0,la 18 5 3,fa 19 4 3,l1 20 19,cl 21 255 [17,18,20]] [2,3]))) (sr [la 22 5 3,st 5 2 22] [2] .ret))))
def F253:PFun:=pf 2 [] (.seq (sr [mv 4 0,mv 5 1,jj 6 (.bslice 1 [eN] [(0,1,(.t 5))]),cl 7 269 [4,6],jj 8 (.un .not (.t 7))] [0,8] (cs 8 (rn [mv 9 0,mv 10 0,cl 11 252 [10],jj 12 (.call 255 [(.t 9),(.t 11),(kk 12)])] [0]))) (rn [mv 13 0,nc 14 13,fa 15 3 14,l1 16 15,bk 17 .add 16 1,nc 18 13,fa 19 3 18,st 1 19 17] []))
def F254:PFun:=pf 1 [.tmp 2] (sr [mx 2 (kk 0)] [0] (sr [mv 4 0,cl 5 252 [4],jj 3 (.alloc [zN,eN,zN,zN,zN]),st 5 3 5] [0,3] (.seq (sr [fa 6 1 3,l1 7 6] [0,3,7] (.block 0 (sr [jj 9 (.bin .eql (.t 7) (ks [97,99,116])),mv 8 9] [0,3,7,8] (.cond (.t 8) (sr [mx 2 (kk 0)] [2] .ret) (sr [jj 11 (.bin .eql (.t 7) (ks [116,105,99,107])),mv 10 11] [0,3,7,10] (.cond (.t 10) (sr [mx 2 (kk 1)] [2] .ret) (sr [jj 13 (.bin .eql (.t 7) (ks [104,105,116])),mv 12 13] [0,3,12] (cs 12 (sr [mx 2 (kk 2)] [2] .ret))))))))) (sr [mv 14 0,la 15 5 3,jj 16 (.call 255 [(.t 14),(.t 15),(kk 12)])] [] (sr [mx 2 (kk (-1))] [2] .ret)))))
def F255:PFun:=pf 3 [] (sr [bx 4 1] [0,2,4] (sr [mv 6 0,mv 7 0,fa 8 2 4,l1 9 8,mv 10 2,nc 11 6,fa 12 4 11,st 1 12 9,nc 13 7,fa 14 5 13,st 1 14 10] [2] (rn [mv 15 2,jj 16 (.mkif 1 (.t 15)),jn (.panic (.t 16))] [])))
@[simp] def F256l0x:PC:=(.seq (sr [mv 10 0,jj 11 (.bslice 1 [eN] [(0,1,(ks [125]))]),cl 12 269 [10,11],jj 13 (.un .not (.t 12))] [0,1,4,5,13] (.cond (.t 13) .skip (.exit 0))) (.block 1 (.region (some []) [fa 14 3 5,⟨some 15,.load false 1 (.t 14),none,[4]⟩,mv 16 0,mv 17 1,cl 18 271 [16,17],jj 19 (.bslice 1 [zN,zN,eN,sN] [(0,4,(.t 18))]),jj 20 (.append 4 56 (.t 15) (.t 19)),fa 21 3 5,st 1 21 20] [0,1,4,5] [4])))
def F256l0:PC:=F256l0x
theorem qgX:run C q F256l0 fr σ = run C q F256l0x fr σ := rfl
def F256:PFun:=pf 2 [.cell 4 true 4] (sr [jj 4 (.alloc [zN,zN,eN,sN])] [0,1,4] (sr [mv 6 0,mv 7 1,jj 8 (.call 270 [(.t 6),(ks [123]),(.t 7)])] [0,1,4] (sr [jj 9 (.build [zN,zN,eN,sN] [(0,1,(kk 7))]),jj 5 (.alloc [zN,zN,eN,sN]),st 4 5 9] [0,1,4,5] (.seq (.block 0 (.loop F256l0)) (sr [mv 22 0,jj 23 (.call 253 [(.t 22),(ks [125])])] [4,5] (sr [la 24 4 5,st 4 4 24] [4] .ret))))))
def F257:PFun:=pf 1 [.tmp 2] (sr [mx 2 kF] [0] (sr [mv 3 0,cl 4 264 [3],mv 5 4,jf 6 5 (.mov (.t 0)),jf 7 5 (.call 266 [(.t 6)]),jj 8 (.pick (.t 5) kT (.t 7)),mv 2 8] [2] .ret))
def F260:PFun:=pf 2 [] (sr [bx 3 1] [0,3] (sr [fa 5 0 3,l1 6 5] [0,3,6] (.block 0 (sr [bk 8 .eql 6 1,mv 7 8] [0,3,6,7] (.cond (.t 7) (sr [mv 9 0,fa 10 2 3,l1 11 10,jj 12 (.bslice 2 [eN,eN] [(0,1,(.t 11)),(1,1,(ks [61]))]),cl 13 243 [9,12]] [0,3] (sr [mv 14 0,la 15 4 3,jj 16 (.call 274 [(.t 15),(kk 0)]),jj 17 (.call 273 [(.t 14),(.t 16),(kk 1)])] [0] (rn [mv 18 0,jj 19 (.bslice 1 [eN] [(0,1,(ks [59]))]),cl 20 243 [18,19]] []))) (sr [bk 22 .eql 6 2,mv 21 22] [0,3,6,21] (.cond (.t 21) (sr [mv 23 0,fa 24 2 3,l1 25 24,jj 26 (.bslice 2 [eN,eN] [(0,1,(.t 25)),(1,1,(ks [91]))]),cl 27 243 [23,26]] [0,3] (sr [mv 28 0,la 29 4 3,jj 30 (.call 274 [(.t 29),(kk 0)]),jj 31 (.call 273 [(.t 28),(.t 30),(kk 1)])] [0,3] (sr [mv 32 0,jj 33 (.bslice 2 [eN,eN] [(0,1,(ks [93])),(1,1,(ks [61]))]),cl 34 243 [32,33]] [0,3] (sr [mv 35 0,la 36 4 3,jj 37 (.call 274 [(.t 36),(kk 1)]),jj 38 (.call 273 [(.t 35),(.t 37),(kk 1)])] [0] (rn [mv 39 0,jj 40 (.bslice 1 [eN] [(0,1,(ks [59]))]),cl 41 243 [39,40]] []))))) (sr [bk 43 .eql 6 3,mv 42 43] [0,3,6,42] (.cond (.t 42) (sr [mv 44 0,jj 45 (.bslice 1 [eN] [(0,1,(ks [105,102]))]),cl 46 243 [44,45]] [0,3] (sr [mv 47 0,la 48 4 3,jj 49 (.call 274 [(.t 48),(kk 0)]),jj 50 (.call 273 [(.t 47),(.t 49),(kk 1)])] [0,3] (sr [mv 51 0,la 52 4 3,jj 53 (.call 274 [(.t 52),(kk 1)]),cl 54 244 [51,53]] [0,3] (sr [la 55 4 3,jj 56 (.call 274 [(.t 55),(kk 2)]),jj 4 (.alloc [zN,zN,eN,sN]),st 4 4 56] [0,4] (sr [fa 57 3 4,l1 58 57,ls 59 58,bk 60 .gtr 59 0] [0,4,60] (cs 60 (sr [mv 61 0,jj 62 (.bslice 1 [eN] [(0,1,(ks [101,108,115,101]))]),cl 63 243 [61,62]] [0,4] (rn [mv 64 0,la 65 4 4,cl 66 244 [64,65]] [])))))))) (sr [bk 68 .eql 6 4,mv 67 68] [0,3,6,67] (.cond (.t 67) (sr [mv 69 0,jj 70 (.bslice 1 [eN] [(0,1,(ks [119,104,105,108,101]))]),cl 71 243 [69,70]] [0,3] (sr [mv 72 0,la 73 4 3,jj 74 (.call 274 [(.t 73),(kk 0)]),jj 75 (.call 273 [(.t 72),(.t 74),(kk 1)])] [0,3] (rn [mv 76 0,la 77 4 3,jj 78 (.call 274 [(.t 77),(kk 1)]),cl 79 244 [76,78]] []))) (sr [bk 81 .eql 6 5,mv 80 81] [0,3,6,80] (.cond (.t 80) (sr [mv 82 0,jj 83 (.bslice 1 [eN] [(0,1,(ks [101,102,102,101,99,116]))]),cl 84 243 [82,83]] [0,3] (sr [mv 85 0,la 86 4 3,jj 87 (.call 274 [(.t 86),(kk 0)]),jj 88 (.call 273 [(.t 85),(.t 87),(kk 1)])] [0,3] (sr [mv 89 0,jj 90 (.bslice 1 [eN] [(0,1,(ks [44]))]),cl 91 243 [89,90]] [0,3] (sr [mv 92 0,la 93 4 3,jj 94 (.call 274 [(.t 93),(kk 1)]),jj 95 (.call 273 [(.t 92),(.t 94),(kk 1)])] [0] (rn [mv 96 0,jj 97 (.bslice 1 [eN] [(0,1,(ks [59]))]),cl 98 243 [96,97]] []))))) (sr [bk 100 .eql 6 6,mv 99 100] [0,99] (cs 99 (rn [mv 101 0,jj 102 (.bslice 2 [eN,eN] [(0,1,(ks [115,116,111,112])),(1,1,(ks [59]))]),cl 103 243 [101,102]] []))))))))))))))))
def F264:PFun:=pf 1 [.tmp 2] (sr [mx 2 kF] [0] (sr [mv 3 0,jj 4 (.bin .leq (.c (.int .u8 97)) (.t 3)),mv 5 4,jt 6 5 (.mov (.t 0)),jt 7 5 (.bin .leq (.t 6) (.c (.int .u8 122))),jj 8 (.pick (.t 5) (.t 7) kF),mv 2 8] [2] .ret))
@[simp] def F265l0x:PC:=(.seq (sr [mv 10 5,mv 11 0,nc 12 11,fa 13 0 12,l1 14 13,lz 15 14,bn 16 .lss 10 15,mv 17 16,jt 18 17 (.mov (.t 0)),jt 19 17 (.nilchk (.t 18)),jt 20 17 (.fieldAddr 0 (.t 19)),jt 21 17 (.load false 1 (.t 20)),jt 22 17 (.mov (.t 5)),jt 23 17 (.indexS (.t 21) (.t 22)),jt 24 17 (.call 264 [(.t 23)]),jt 25 17 (.mov (.t 24)),jf 26 25 (.mov (.t 0)),jf 27 25 (.nilchk (.t 26)),jf 28 25 (.fieldAddr 0 (.t 27)),jf 29 25 (.load false 1 (.t 28)),jf 30 25 (.mov (.t 5)),jf 31 25 (.indexS (.t 29) (.t 30)),jf 32 25 (.call 266 [(.t 31)]),jt 33 17 (.pick (.t 25) kT (.t 32)),jj 34 (.pick (.t 17) (.t 33) kF)] [0,1,4,5,34] (.cond (.t 34) .skip (.exit 0))) (.block 1 (rn [mv 35 5,bk 36 .add 35 1,mv 5 36] [0,1,4,5])))
def F265l0:PC:=F265l0x
theorem qfj:run C q F265l0 fr σ = run C q F265l0x fr σ := rfl
def F265:PFun:=pf 2 [.cell 4 true 5] (sr [jj 4 (.alloc [zN,eN,zN,zN,zN])] [0,1,4] (sr [mv 9 1,mv 5 9] [0,1,4,5] (.seq (.block 0 (.loop F265l0)) (sr [mv 37 0,nc 38 37,fa 39 0 38,l1 40 39,mv 41 1,mv 42 5,jj 43 (.sliceS (.t 40) (some (.t 41)) (some (.t 42))),mv 44 1,jj 45 (.build [zN,eN,zN,zN,zN] [(0,1,(kk 1)),(1,1,(.t 43)),(2,1,(.t 44))]),jj 6 (.alloc [zN,eN,zN,zN,zN]),st 5 6 45] [0,4,6] (.seq (.seq (.region (some []) [mv 47 0,nc 48 47,fa 49 1 48,l1 50 49,fa 51 1 6,l1 52 51,jj 53 (.lookup .s zN (.t 50) (.t 52) true),mv 46 53,ex 54 46 0,ex 55 46 1,mv 7 54,mv 8 55] [4,6,7,8]) (sr [mv 56 8] [4,6,7,56] (.cond (.t 56) (rn [mv 57 7,fa 58 0 6,st 1 58 57] [4,6]) (sr [fa 59 1 6,l1 60 59,lz 61 60,bk 62 .gtr 61 8] [4,6,62] (cs 62 (rn [fa 63 0 6,jn (.store 1 (.t 63) (kk 6)),fa 64 4 6,jn (.store 1 (.t 64) (kk 2))] [4,6])))))) (sr [la 65 5 6,st 5 4 65] [4] .ret))))))
def F266:PFun:=pf 1 [.tmp 2] (sr [mx 2 kF] [0] (sr [mv 3 0,jj 4 (.bin .leq (.c (.int .u8 48)) (.t 3)),mv 5 4,jt 6 5 (.mov (.t 0)),jt 7 5 (.bin .leq (.t 6) (.c (.int .u8 57))),jj 8 (.pick (.t 5) (.t 7) kF),mv 2 8] [2] .ret))
@[simp] def F267l0x:PC:=(.seq (sr [mv 9 5,mv 10 0,nc 11 10,fa 12 0 11,l1 13 12,lz 14 13,bn 15 .lss 9 14,mv 16 15,jt 17 16 (.mov (.t 0)),jt 18 16 (.nilchk (.t 17)),jt 19 16 (.fieldAddr 0 (.t 18)),jt 20 16 (.load false 1 (.t 19)),jt 21 16 (.mov (.t 5)),jt 22 16 (.indexS (.t 20) (.t 21)),jt 23 16 (.call 266 [(.t 22)]),jj 24 (.pick (.t 16) (.t 23) kF)] [0,1,4,5,6,24] (.cond (.t 24) .skip (.exit 0))) (.block 1 (sr [mv 25 6,jj 26 (.bin .mul (kk 10) (.t 25)),mv 27 0,nc 28 27,fa 29 0 28,l1 30 29,mv 31 5,jj 32 (.indexS (.t 30) (.t 31)),jj 33 (.bin .sub (.t 32) (.c (.int .u8 48))),jj 34 (.conv (.int .i64) (.t 33)),bn 35 .add 26 34,jj 36 (.min [(.t 35),(kk 2147483648)]),mv 6 36] [0,1,4,5,6] (rn [mv 37 5,bk 38 .add 37 1,mv 5 38] [0,1,4,5,6]))))
def F267l0:PC:=F267l0x
theorem qgY:run C q F267l0 fr σ = run C q F267l0x fr σ := rfl
def F267:PFun:=pf 2 [.cell 4 true 5] (sr [jj 4 (.alloc [zN,eN,zN,zN,zN])] [0,1,4] (sr [mv 8 1,mv 5 8,mx 6 (kk 0)] [0,1,4,5,6] (.seq (.block 0 (.loop F267l0)) (sr [mv 39 0,nc 40 39,fa 41 0 40,l1 42 41,mv 43 1,mv 44 5,jj 45 (.sliceS (.t 42) (some (.t 43)) (some (.t 44))),mv 46 1,mv 47 6,jj 48 (.build [zN,eN,zN,zN,zN] [(0,1,(kk 4)),(1,1,(.t 45)),(2,1,(.t 46)),(3,1,(.t 47))]),jj 7 (.alloc [zN,eN,zN,zN,zN]),st 5 7 48] [4,6,7] (.seq (sr [mv 49 6,bk 50 .gtr 49 2147483647] [4,7,50] (cs 50 (rn [fa 51 0 7,jn (.store 1 (.t 51) (kk 6)),fa 52 4 7,jn (.store 1 (.t 52) (kk 6))] [4,7]))) (sr [la 53 5 7,st 5 4 53] [4] .ret))))))
def F269:PFun:=pf 2 [.tmp 4] (sr [mx 4 kF] [0,1] (sr [mv 6 0,cl 7 252 [6],jj 5 (.alloc [zN,eN,zN,zN,zN]),st 5 5 7] [1,5] (sr [fa 8 0 5,l1 9 8,bk 10 .neq 9 0,mv 11 10,jt 12 11 (.mov (.t 1)),jt 13 11 (.fieldAddr 1 (.t 5)),jt 14 11 (.load false 1 (.t 13)),jt 15 11 (.call 276 [(.t 12),(.t 14)]),jj 16 (.pick (.t 11) (.t 15) kF),mv 4 16] [4] .ret)))
def F270:PFun:=pf 3 [] (.seq (sr [mv 6 0,mv 7 1,jj 8 (.bslice 1 [eN] [(0,1,(.t 7))]),cl 9 269 [6,8],mv 10 9,jt 11 10 (.mov (.t 2)),jt 12 10 (.bin .gtr (.t 11) (kk 20)),jj 13 (.pick (.t 10) (.t 12) kF)] [0,1,13] (cs 13 (rn [mv 14 0,mv 15 0,cl 16 252 [15],jj 17 (.call 255 [(.t 14),(.t 16),(kk 2)])] [0,1]))) (rn [mv 18 0,mv 19 1,cl 20 253 [18,19]] []))
def F271:PFun:=pf 2 [.cell 4 true 4] (sr [jj 4 (.alloc [zN,zN,eN,sN])] [0,1,4] (sr [mv 9 0,cl 10 252 [9],jj 5 (.alloc [zN,eN,zN,zN,zN]),st 5 5 10] [0,1,4,5] (.seq (.block 0 (sr [fa 12 0 5,l1 13 12,bk 14 .eql 13 1,mv 11 14] [0,1,4,5,11] (.cond (.t 11) (sr [mv 15 0,cl 16 277 [15]] [0,1,4,5] (sr [mv 17 0,jj 18 (.call 253 [(.t 17),(ks [61])])] [0,1,4,5] (.seq (.region (some []) [mv 19 0,fa 20 1 5,⟨some 21,.load false 1 (.t 20),none,[5]⟩,mv 22 0,mv 23 1,cl 24 279 [22,23],jj 25 (.bslice 1 [zN,zN,eN,sN] [(0,4,(.t 24))]),jj 26 (.build [zN,zN,eN,sN] [(0,1,(kk 1)),(2,1,(.t 21)),(3,1,(.t 25))]),cl 27 278 [19,26],st 4 4 27] [4] [5,8]) .ret))) (sr [fa 29 0 5,l1 30 29,bk 31 .eql 30 3,mv 28 31] [0,1,4,5,28] (.cond (.t 28) (sr [mv 32 0,mv 33 1,cl 34 280 [32,33],jj 6 (.alloc [zN,zN,eN,sN]),st 4 6 34] [0,1,4,5,6] (sr [mv 35 0,jj 36 (.call 253 [(.t 35),(ks [61])])] [0,1,4,5,6] (.seq (.region (some []) [mv 37 0,fa 38 1 5,⟨some 39,.load false 1 (.t 38),none,[6]⟩,⟨some 40,.load true 4 (.t 6),none,[6]⟩,mv 41 0,mv 42 1,cl 43 279 [41,42],jj 44 (.bslice 2 [zN,zN,eN,sN,zN,zN,eN,sN] [(0,4,(.t 40)),(4,4,(.t 43))]),jj 45 (.build [zN,zN,eN,sN] [(0,1,(kk 2)),(2,1,(.t 39)),(3,1,(.t 44))]),cl 46 278 [37,45],st 4 4 46] [4] [6,9]) .ret))) (sr [mv 48 0,jj 49 (.bslice 1 [eN] [(0,1,(ks [105,102]))]),cl 50 269 [48,49],mv 47 50] [0,1,4,5,47] (.cond (.t 47) (sr [mv 51 0,mv 52 1,cl 53 281 [51,52],st 4 4 53] [4] .ret) (sr [mv 55 0,jj 56 (.bslice 1 [eN] [(0,1,(ks [119,104,105,108,101]))]),cl 57 269 [55,56],mv 54 57] [0,1,4,5,54] (.cond (.t 54) (sr [mv 58 0,cl 59 277 [58]] [0,1,4] (sr [mv 60 0,mv 61 1,cl 62 279 [60,61],jj 7 (.alloc [zN,zN,eN,sN]),st 4 7 62] [0,1,4,7] (.seq (.region (some []) [⟨some 63,.load true 4 (.t 7),none,[4]⟩,mv 64 0,mv 65 1,bk 66 .add 65 1,cl 67 256 [64,66],jj 68 (.bslice 2 [zN,zN,eN,sN,zN,zN,eN,sN] [(0,4,(.t 63)),(4,4,(.t 67))]),jj 69 (.build [zN,zN,eN,sN] [(0,1,(kk 4)),(3,1,(.t 68))]),st 4 4 69] [4] [4]) .ret))) (sr [mv 71 0,jj 72 (.bslice 1 [eN] [(0,1,(ks [101,102,102,101,99,116]))]),cl 73 269 [71,72],mv 70 73] [0,1,4,5,70] (.cond (.t 70) (sr [mv 74 0,cl 75 277 [74]] [0,1,4] (sr [mv 76 0,mv 77 1,cl 78 279 [76,77],jj 8 (.alloc [zN,zN,eN,sN]),st 4 8 78] [0,1,4,8] (sr [mv 79 0,jj 80 (.call 253 [(.t 79),(ks [44])])] [0,1,4,8] (.seq (.region (some []) [mv 81 0,⟨some 82,.load true 4 (.t 8),none,[4]⟩,mv 83 0,mv 84 1,cl 85 279 [83,84],jj 86 (.bslice 2 [zN,zN,eN,sN,zN,zN,eN,sN] [(0,4,(.t 82)),(4,4,(.t 85))]),jj 87 (.build [zN,zN,eN,sN] [(0,1,(kk 5)),(3,1,(.t 86))]),cl 88 278 [81,87],st 4 4 88] [4] [4,7]) .ret)))) (sr [mv 90 0,jj 91 (.bslice 1 [eN] [(0,1,(ks [115,116,111,112]))]),cl 92 269 [90,91],mv 89 92] [0,4,5,89] (cs 89 (sr [mv 93 0,cl 94 277 [93]] [0,4] (sr [mv 95 0,jj 96 (.build [zN,zN,eN,sN] [(0,1,(kk 6))]),cl 97 278 [95,96],st 4 4 97] [4] .ret))))))))))))))) (sr [mv 98 0,la 99 5 5,jj 100 (.call 255 [(.t 98),(.t 99),(kk 12)])] [4] (sr [jj 101 (.build [zN,zN,eN,sN] []),st 4 4 101] [4] .ret)))))
def F273:PFun:=⟨3,[],sr [bx 4 1] [1000000,0,2,4] (sr [la 8 4 4,cl 9 282 [8],mv 6 9] [1000000,0,2,4,6] (.seq (sr [mv 10 6,mv 11 2,bn 12 .lss 10 11] [1000000,0,4,6,12] (cs 12 (sr [mv 13 0,jj 14 (.bslice 1 [eN] [(0,1,(ks [40]))]),cl 15 243 [13,14]] [1000000,0,4,6] (rn [mv 16 0,jj 17 (.bslice 1 [eN] [(0,1,(ks [41]))]),jj 1000000 (.defer (.f 243) [(.t 16),(.t 17)])] [1000000,0,4,6])))) (sr [fa 18 0 4,l1 19 18] [1000000,0,4,6,19] (.block 0 (sr [bk 21 .eql 19 8,mv 20 21] [1000000,0,4,6,19,20] (.cond (.t 20) (rn [mv 22 0,fa 23 1 4,l1 24 23,cl 25 283 [24],jj 26 (.bslice 1 [eN] [(0,1,(.t 25))]),cl 27 243 [22,26]] [1000000]) (sr [bk 29 .eql 19 9,mv 28 29] [1000000,0,4,6,19,28] (.cond (.t 28) (sr [fa 30 1 4,l1 31 30,bk 32 .eql 31 0] [1000000,0,32] (.cond (.t 32) (rn [mv 33 0,jj 34 (.bslice 1 [eN] [(0,1,(ks [102,97,108,115,101]))]),cl 35 243 [33,34]] [1000000]) (rn [mv 36 0,jj 37 (.bslice 1 [eN] [(0,1,(ks [116,114,117,101]))]),cl 38 243 [36,37]] [1000000]))) (.seq (sr [bk 40 .eql 19 10,mv 39 40] [1000000,0,4,6,19,39] (.cond (.t 39) .skip (rn [bk 41 .eql 19 12,mv 39 41] [1000000,0,4,6,19,39]))) (.cond (.t 39) (rn [mv 42 0,fa 43 2 4,l1 44 43,jj 45 (.bslice 1 [eN] [(0,1,(.t 44))]),cl 46 243 [42,45]] [1000000]) (sr [bk 48 .eql 19 11,mv 47 48] [1000000,0,4,6,19,47] (.cond (.t 47) (sr [mv 49 0,fa 50 2 4,l1 51 50,jj 52 (.bslice 2 [eN,eN] [(0,1,(.t 51)),(1,1,(ks [91]))]),cl 53 243 [49,52]] [1000000,0,4] (sr [mv 54 0,la 55 4 4,jj 56 (.call 274 [(.t 55),(kk 0)]),jj 57 (.call 273 [(.t 54),(.t 56),(kk 1)])] [1000000,0] (rn [mv 58 0,jj 59 (.bslice 1 [eN] [(0,1,(ks [93]))]),cl 60 243 [58,59]] [1000000]))) (sr [bk 62 .eql 19 13,mv 61 62] [1000000,0,4,6,19,61] (.cond (.t 61) (sr [mv 63 0,fa 64 2 4,l1 65 64,jj 66 (.bslice 1 [eN] [(0,1,(.t 65))]),cl 67 243 [63,66]] [1000000,0,4,6] (rn [mv 68 0,la 69 4 4,jj 70 (.call 274 [(.t 69),(kk 0)]),mv 71 6,cl 72 273 [68,70,71]] [1000000])) (sr [bk 74 .eql 19 14,mv 73 74] [1000000,0,4,6,73] (cs 73 (sr [mv 75 6,mv 7 75] [1000000,0,4,6,7] (.seq (sr [mv 76 6,bk 77 .eql 76 4] [1000000,0,4,6,7,77] (cs 77 (rn [mx 7 (kk 5)] [1000000,0,4,6,7]))) (sr [mv 78 0,la 79 4 4,jj 80 (.call 274 [(.t 79),(kk 0)]),mv 81 7,cl 82 273 [78,80,81]] [1000000,0,4,6] (sr [mv 83 0,fa 84 2 4,l1 85 84,jj 86 (.bslice 1 [eN] [(0,1,(.t 85))]),cl 87 243 [83,86]] [1000000,0,4,6] (rn [mv 88 0,la 89 4 4,jj 90 (.call 274 [(.t 89),(kk 1)]),mv 91 6,bk 92 .add 91 1,cl 93 273 [88,90,92]] [1000000]))))))))))))))))))))),false,true,false⟩
def F274:PFun:=pf 2 [.cell 4 true 4] (sr [bx 2 0,jj 4 (.alloc [zN,zN,eN,sN])] [1,2,4] (.seq (sr [mv 5 1,fa 6 3 2,l1 7 6,ls 8 7,bn 9 .lss 5 8] [1,2,4,9] (cs 9 (sr [fa 10 3 2,l1 11 10,mv 12 1,jj 13 (.indexAddr 4 (.t 11) (.t 12)),la 14 4 13,st 4 4 14] [4] .ret))) (sr [jj 15 (.build [zN,zN,eN,sN] []),st 4 4 15] [4] .ret)))
def F277:PFun:=pf 1 [.cell 2 true 5] (sr [jj 2 (.alloc [zN,eN,zN,zN,zN])] [0,2] (sr [mv 4 0,cl 5 252 [4],jj 3 (.alloc [zN,eN,zN,zN,zN]),st 5 3 5] [0,2,3] (sr [mv 6 0,nc 7 6,fa 8 3 7,l1 9 8,bk 10 .add 9 1,nc 11 6,fa 12 3 11,st 1 12 10] [2,3] (sr [la 13 5 3,st 5 2 13] [2] .ret))))
def F278:PFun:=pf 2 [.cell 4 true 4] (sr [bx 3 1,jj 4 (.alloc [zN,zN,eN,sN])] [0,3,4] (sr [mv 5 0,jj 6 (.call 253 [(.t 5),(ks [59])])] [3,4] (sr [la 7 4 3,st 4 4 7] [4] .ret)))
def F279:PFun:=pf 2 [.cell 4 true 4] (sr [bx 2 0,bx 3 1,jj 4 (.alloc [zN,zN,eN,sN])] [2,3,4] (sr [l1 5 2,jj 6 (.mkfn 286 [] [(.t 2),(.t 3)]),jj 7 (.bslice 1 [eN] [(0,1,(ks [124,124]))]),cl 8 285 [5,6,7],st 4 4 8] [4] .ret))
def F280:PFun:=pf 2 [.cell 4 true 4] (sr [jj 4 (.alloc [zN,zN,eN,sN])] [0,1,4] (sr [mv 6 0,cl 7 277 [6]] [0,1,4] (sr [mv 8 0,mv 9 1,bk 10 .add 9 1,jj 11 (.call 270 [(.t 8),(ks [91]),(.t 10)])] [0,1,4] (sr [mv 12 0,mv 13 1,bk 14 .add 13 1,cl 15 279 [12,14],jj 5 (.alloc [zN,zN,eN,sN]),st 4 5 15] [0,4,5] (sr [mv 16 0,jj 17 (.call 253 [(.t 16),(ks [93])])] [4,5] (sr [la 18 4 5,st 4 4 18] [4] .ret))))))
def F281:PFun:=pf 2 [.cell 4 true 4] (sr [jj 4 (.alloc [zN,zN,eN,sN])] [0,1,4] (sr [mv 8 0,jj 9 (.call 253 [(.t 8),(ks [105,102])])] [0,1,4] (sr [mv 10 0,mv 11 1,cl 12 279 [10,11],jj 5 (.alloc [zN,zN,eN,sN]),st 4 5 12] [0,1,4,5] (sr [mv 13 0,mv 14 1,bk 15 .add 14 1,cl 16 256 [13,15],jj 17 (.build [zN,zN,eN,sN] [(0,1,(kk 7))]),jj 6 (.alloc [zN,zN,eN,sN]),jj 7 (.alloc [zN,zN,eN,sN]),st 4 6 16,st 4 7 17] [0,1,4,5,6,7] (.seq (sr [mv 18 0,jj 19 (.bslice 1 [eN] [(0,1,(ks [101,108,115,101]))]),cl 20 269 [18,19]] [0,1,4,5,6,7,20] (cs 20 (sr [mv 21 0,cl 22 277 [21]] [0,1,4,5,6,7] (rn [mv 23 0,mv 24 1,bk 25 .add 24 1,cl 26 256 [23,25],st 4 7 26] [4,5,6,7])))) (sr [la 27 4 5,la 28 4 6,la 29 4 7,jj 30 (.bslice 3 [zN,zN,eN,sN,zN,zN,eN,sN,zN,zN,eN,sN] [(0,4,(.t 27)),(4,4,(.t 28)),(8,4,(.t 29))]),jj 31 (.build [zN,zN,eN,sN] [(0,1,(kk 3)),(3,1,(.t 30))]),st 4 4 31] [4] .ret))))))
def F282:PFun:=pf 1 [.tmp 2] (sr [bx 1 0,mx 2 (kk 0)] [1] (.seq (.block 0 (sr [fa 4 0 1,l1 5 4,bk 6 .eql 5 13,mv 7 6,jt 8 7 (.fieldAddr 2 (.t 1)),jt 9 7 (.load false 1 (.t 8)),jt 10 7 (.bin .eql (.t 9) (ks [33])),jj 11 (.pick (.t 7) (.t 10) kF),mv 3 11] [1,3] (.cond (.t 3) (sr [mx 2 (kk 3)] [2] .ret) (sr [fa 13 0 1,l1 14 13,bk 15 .eql 14 13,mv 12 15] [1,12] (.cond (.t 12) (sr [mx 2 (kk 7)] [2] .ret) (sr [fa 17 0 1,l1 18 17,bk 19 .neq 18 14,mv 16 19] [1,16] (cs 16 (sr [mx 2 (kk 8)] [2] .ret)))))))) (.seq (sr [fa 20 2 1,l1 21 20] [21] (.block 1 (sr [jj 23 (.bin .eql (.t 21) (ks [124,124])),mv 22 23] [21,22] (.cond (.t 22) (sr [mx 2 (kk 1)] [2] .ret) (sr [jj 25 (.bin .eql (.t 21) (ks [38,38])),mv 24 25] [21,24] (.cond (.t 24) (sr [mx 2 (kk 2)] [2] .ret) (.seq (sr [jj 27 (.bin .eql (.t 21) (ks [43])),mv 26 27] [21,26] (.cond (.t 26) .skip (rn [jj 28 (.bin .eql (.t 21) (ks [45])),mv 26 28] [21,26]))) (.cond (.t 26) (sr [mx 2 (kk 5)] [2] .ret) (.seq (sr [jj 30 (.bin .eql (.t 21) (ks [42])),mv 29 30] [21,29] (.cond (.t 29) .skip (rn [jj 31 (.bin .eql (.t 21) (ks [47])),mv 29 31] [29]))) (cs 29 (sr [mx 2 (kk 6)] [2] .ret))))))))))) (sr [mx 2 (kk 4)] [2] .ret))))
@[simp] def F285l0x:PC:=(.seq (sr [mv 11 0,mv 12 2,cl 13 269 [11,12]] [0,1,2,6,7,13] (.cond (.t 13) .skip (.exit 0))) (.block 1 (sr [mv 14 0,cl 15 277 [14],jj 16 (.field false 1 1 (.t 15)),mv 8 16] [0,1,2,6,7,8] (.region (some []) [mv 17 8,⟨some 18,.load true 4 (.t 7),none,[3]⟩,mv 19 1,jj 20 (.callv (.t 19) []),jj 21 (.bslice 2 [zN,zN,eN,sN,zN,zN,eN,sN] [(0,4,(.t 18)),(4,4,(.t 20))]),jj 22 (.build [zN,zN,eN,sN] [(0,1,(kk 14)),(2,1,(.t 17)),(3,1,(.t 21))]),st 4 7 22] [0,1,2,6,7] [3]))))
def F285l0:PC:=F285l0x
theorem qjz:run C q F285l0 fr σ = run C q F285l0x fr σ := rfl
def F285:PFun:=pf 3 [.cell 6 true 4] (sr [jj 6 (.alloc [zN,zN,eN,sN])] [0,1,2,6] (sr [mv 9 1,jj 10 (.callv (.t 9) []),jj 7 (.alloc [zN,zN,eN,sN]),st 4 7 10] [0,1,2,6,7] (.seq (.block 0 (.loop F285l0)) (sr [la 23 4 7,st 4 6 23] [6] .ret))))
def F286:PFun:=pf 2 [.cell 2 true 4] (sr [jj 2 (.alloc [zN,zN,eN,sN])] [0,1,2] (sr [l1 3 0,l1 4 1,cl 5 287 [3,4],st 4 2 5] [2] .ret))
def F287:PFun:=pf 2 [.cell 4 true 4] (sr [bx 2 0,bx 3 1,jj 4 (.alloc [zN,zN,eN,sN])] [2,3,4] (sr [l1 5 2,jj 6 (.mkfn 289 [] [(.t 2),(.t 3)]),jj 7 (.bslice 1 [eN] [(0,1,(ks [38,38]))]),cl 8 285 [5,6,7],st 4 4 8] [4] .ret))
def F289:PFun:=pf 2 [.cell 2 true 4] (sr [jj 2 (.alloc [zN,zN,eN,sN])] [0,1,2] (sr [l1 3 0,l1 4 1,cl 5 290 [3,4],st 4 2 5] [2] .ret))
def F290:PFun:=pf 2 [.cell 4 true 4] (sr [jj 4 (.alloc [zN,zN,eN,sN])] [0,1,4] (.seq (sr [mv 5 0,jj 6 (.bslice 1 [eN] [(0,1,(ks [33]))]),cl 7 269 [5,6]] [0,1,4,7] (cs 7 (sr [mv 8 0,mv 9 1,bk 10 .add 9 1,jj 11 (.call 270 [(.t 8),(ks [33]),(.t 10)])] [0,1,4] (sr [mv 12 0,mv 13 1,bk 14 .add 13 1,cl 15 290 [12,14],jj 16 (.bslice 1 [zN,zN,eN,sN] [(0,4,(.t 15))]),jj 17 (.build [zN,zN,eN,sN] [(0,1,(kk 13)),(2,1,(ks [33])),(3,1,(.t 16))]),st 4 4 17] [4] .ret)))) (sr [mv 18 0,mv 19 1,cl 20 292 [18,19],st 4 4 20] [4] .ret)))
def F292:PFun:=pf 2 [.cell 4 true 4] (sr [jj 4 (.alloc [zN,zN,eN,sN])] [0,1,4] (sr [mv 7 0,mv 8 1,cl 9 297 [7,8],jj 5 (.alloc [zN,zN,eN,sN]),st 4 5 9] [0,1,4,5] (.seq (sr [mv 10 0,jj 11 (.bslice 6 [eN,eN,eN,eN,eN,eN] [(0,1,(ks [60])),(1,1,(ks [60,61])),(2,1,(ks [62])),(3,1,(ks [62,61])),(4,1,(ks [61,61])),(5,1,(ks [33,61]))]),cl 12 269 [10,11],jj 13 (.un .not (.t 12))] [0,1,4,5,13] (cs 13 (sr [la 14 4 5,st 4 4 14] [4] .ret))) (sr [mv 15 0,cl 16 277 [15],jj 17 (.field false 1 1 (.t 16)),mv 6 17] [0,1,4,5,6] (.seq (.region (some []) [mv 18 6,⟨some 19,.load true 4 (.t 5),none,[4]⟩,mv 20 0,mv 21 1,cl 22 297 [20,21],jj 23 (.bslice 2 [zN,zN,eN,sN,zN,zN,eN,sN] [(0,4,(.t 19)),(4,4,(.t 22))]),jj 24 (.build [zN,zN,eN,sN] [(0,1,(kk 14)),(2,1,(.t 18)),(3,1,(.t 23))]),st 4 4 24] [4] [4]) .ret)))))
def F297:PFun:=pf 2 [.cell 4 true 4] (sr [bx 2 0,bx 3 1,jj 4 (.alloc [zN,zN,eN,sN])] [2,3,4] (sr [l1 5 2,jj 6 (.mkfn 303 [] [(.t 2),(.t 3)]),jj 7 (.bslice 2 [eN,eN] [(0,1,(ks [43])),(1,1,(ks [45]))]),cl 8 285 [5,6,7],st 4 4 8] [4] .ret))
def F303:PFun:=pf 2 [.cell 2 true 4] (sr [jj 2 (.alloc [zN,zN,eN,sN])] [0,1,2] (sr [l1 3 0,l1 4 1,cl 5 304 [3,4],st 4 2 5] [2] .ret))
def F304:PFun:=pf 2 [.cell 4 true 4] (sr [bx 2 0,bx 3 1,jj 4 (.alloc [zN,zN,eN,sN])] [2,3,4] (sr [l1 5 2,jj 6 (.mkfn 307 [] [(.t 2),(.t 3)]),jj 7 (.bslice 2 [eN,eN] [(0,1,(ks [42])),(1,1,(ks [47]))]),cl 8 285 [5,6,7],st 4 4 8] [4] .ret))
def F307:PFun:=pf 2 [.cell 2 true 4] (sr [jj 2 (.alloc [zN,zN,eN,sN])] [0,1,2] (sr [l1 3 0,l1 4 1,cl 5 308 [3,4],st 4 2 5] [2] .ret))
def F308:PFun:=pf 2 [.cell 4 true 4] (sr [jj 4 (.alloc [zN,zN,eN,sN])] [0,1,4] (.seq (sr [mv 5 0,jj 6 (.bslice 1 [eN] [(0,1,(ks [45]))]),cl 7 269 [5,6]] [0,1,4,7] (cs 7 (sr [mv 8 0,mv 9 1,bk 10 .add 9 1,jj 11 (.call 270 [(.t 8),(ks [45]),(.t 10)])] [0,1,4] (sr [mv 12 0,mv 13 1,bk 14 .add 13 1,cl 15 308 [12,14],jj 16 (.bslice 1 [zN,zN,eN,sN] [(0,4,(.t 15))]),jj 17 (.build [zN,zN,eN,sN] [(0,1,(kk 13)),(2,1,(ks [45])),(3,1,(.t 16))]),st 4 4 17] [4] .ret)))) (sr [mv 18 0,mv 19 1,cl 20 309 [18,19],st 4 4 20] [4] .ret)))
def F309:PFun:=pf 2 [.cell 4 true 4] (sr [jj 4 (.alloc [zN,zN,eN,sN])] [0,1,4] (sr [mv 7 0,cl 8 252 [7],jj 5 (.alloc [zN,eN,zN,zN,zN]),st 5 5 8] [0,1,4,5] (.seq (.block 0 (sr [fa 10 0 5,l1 11 10,bk 12 .eql 11 4,mv 9 12] [0,1,4,5,9] (.cond (.t 9) (sr [mv 13 0,cl 14 277 [13]] [4,5] (sr [fa 15 3 5,l1 16 15,jj 17 (.build [zN,zN,eN,sN] [(0,1,(kk 8)),(1,1,(.t 16))]),st 4 4 17] [4] .ret)) (sr [fa 19 0 5,l1 20 19,bk 21 .eql 20 1,mv 18 21] [0,1,4,5,18] (.cond (.t 18) (sr [mv 22 0,cl 23 277 [22]] [4,5] (sr [fa 24 1 5,l1 25 24,jj 26 (.build [zN,zN,eN,sN] [(0,1,(kk 10)),(2,1,(.t 25))]),st 4 4 26] [4] .ret)) (sr [fa 28 0 5,l1 29 28,bk 30 .eql 29 3,mv 27 30] [0,1,4,5,27] (.cond (.t 27) (.seq (.region (some []) [fa 31 1 5,⟨some 32,.load false 1 (.t 31),none,[4]⟩,mv 33 0,mv 34 1,cl 35 280 [33,34],jj 36 (.bslice 1 [zN,zN,eN,sN] [(0,4,(.t 35))]),jj 37 (.build [zN,zN,eN,sN] [(0,1,(kk 11)),(2,1,(.t 32)),(3,1,(.t 36))]),st 4 4 37] [4] [4]) .ret) (sr [mv 39 0,jj 40 (.bslice 1 [eN] [(0,1,(ks [116,114,117,101]))]),cl 41 269 [39,40],mv 38 41] [0,1,4,5,38] (.cond (.t 38) (sr [mv 42 0,cl 43 277 [42]] [4] (sr [jj 44 (.build [zN,zN,eN,sN] [(0,1,(kk 9)),(1,1,(kk 1))]),st 4 4 44] [4] .ret)) (sr [mv 46 0,jj 47 (.bslice 1 [eN] [(0,1,(ks [102,97,108,115,101]))]),cl 48 269 [46,47],mv 45 48] [0,1,4,5,45] (.cond (.t 45) (sr [mv 49 0,cl 50 277 [49]] [4] (sr [jj 51 (.build [zN,zN,eN,sN] [(0,1,(kk 9))]),st 4 4 51] [4] .ret)) (sr [mv 53 0,jj 54 (.bslice 3 [eN,eN,eN] [(0,1,(ks [115,101,108,102])),(1,1,(ks [111,116,104,101,114])),(2,1,(ks [116,105,99,107]))]),cl 55 269 [53,54],mv 52 55] [0,1,4,5,52] (cs 52 (sr [mv 56 0,cl 57 277 [56]] [4,5] (sr [fa 58 1 5,l1 59 58,jj 60 (.build [zN,zN,eN,sN] [(0,1,(kk 12)),(2,1,(.t 59))]),st 4 4 60] [4] .ret))))))))))))))) (sr [mv 61 0,mv 62 1,bk 63 .add 62 1,jj 64 (.call 270 [(.t 61),(ks [40]),(.t 63)])] [0,1,4] (sr [mv 65 0,mv 66 1,bk 67 .add 66 1,cl 68 279 [65,67],jj 6 (.alloc [zN,zN,eN,sN]),st 4 6 68] [0,4,6] (sr [mv 69 0,jj 70 (.call 253 [(.t 69),(ks [41])])] [4,6] (sr [la 71 4 6,st 4 4 71] [4] .ret)))))))
end Go.Pm.F
end
section
namespace Go.Pm.F
variable(C:Task->Option Res)(q:Nat)(fr:Fr)(σ : S)
def G_internal_strconv_uint64pow10:List D:=(List.range 20).map fun i => .lit (.int .u64 (10 ^ i:Nat))
def F245:PFun:=pf 1 [.tmp 2] (sr [jj 2 (.mov (ks []))] [0] (.seq (.region (some []) [mv 3 0,nc 4 3,fa 5 1 4,l1 6 5,jj 7 (.usd (.t 6)),mv 8 0,nc 9 8,fa 10 1 9,l1 11 10,ls 12 11,jj 13 (.ustr [3] (.t 7) (.t 12)),mv 2 13] [2]) .ret))
def F258:PFun:=pf 2 [.tmp 4] (sr [jj 4 (.mov (.c .nilIface))] [0,1] (sr [mv 5 0,cl 6 272 [5]] [0,1] (sr [mv 7 0,mv 8 0,nc 9 8,fa 10 1 9,l1 11 10,mv 12 1,jj 13 (.bsliceO 1 1 [(.lit (.int .u8 0))] [(0,1,(.t 12))]),jj 14 (.appendT 3 1 1 (.t 11) (.t 13)),nc 15 7,fa 16 1 15,st 1 16 14] [] (sr [jj 4 (.mov (.c .nilIface))] [4] .ret))))
def F259:PFun:=pf 2 [.tmp 4,.tmp 5] (sr [mx 4 (kk 0),jj 5 (.mov (.c .nilIface))] [0,1] (sr [mv 6 0,cl 7 272 [6]] [0,1] (sr [mv 8 0,mv 9 0,nc 10 9,fa 11 1 10,l1 12 11,mv 13 1,jj 14 (.appendT 3 1 1 (.t 12) (.t 13)),nc 15 8,fa 16 1 15,st 1 16 14] [1] (sr [mv 17 1,lz 18 17,mv 4 18,jj 5 (.mov (.c .nilIface))] [4,5] .ret))))
def F268:PFun:=pf 2 [.tmp 4] (sr [mx 4 (kk 0)] [0,1] (sr [mv 5 0,mv 6 1,cl 7 275 [5,6],mv 4 7] [4] .ret))
def F272:PFun:=pf 1 [] (sr [mv 2 0,nc 3 2,fa 4 0 3,l1 5 4,jj 6 (.isnil true false (.t 5))] [0,6] (.cond (.t 6) (rn [mv 7 0,mv 8 0,jj 9 (.up (.t 8)),mv 10 9,jj 11 (.down [(4,3)] (.t 10)),nc 12 7,fa 13 0 12,st 1 13 11] []) (sr [mv 14 0,nc 15 14,fa 16 0 15,l1 17 16,mv 18 0,jj 19 (.peq true (.t 17) (.t 18))] [19] (cs 19 (.cond (.c .nilIface) .skip .skip)))))
def F275:PFun:=pf 2 [.tmp 4] (sr [mx 4 (kk 0)] [0,1] (sr [mv 5 0,mv 6 1,jj 7 (.idxb (.t 5) (.t 6)),mv 4 7] [4] .ret))
def F276:PFun:=pf 2 [.tmp 4] (sr [mx 4 kF] [0,1] (sr [mv 5 0,mv 6 1,cl 7 284 [5,6],bk 8 .geq 7 0,mv 4 8] [4] .ret))
def F283:PFun:=pf 1 [.tmp 2] (sr [jj 2 (.mov (ks []))] [0] (sr [mv 3 0,cl 4 288 [3],mv 2 4] [2] .ret))
@[simp] def F284l0x:PC:=(sr [bn 9 .lss 8 7] [0,1,7,8,9] (.seq (.cond (.t 9) .skip (.exit 0)) (.seq (.block 1 (sr [mv 10 8,mv 5 10] [0,1,5,7,8] (sr [mv 11 1,mv 12 0,mv 13 5,jj 14 (.indexAddr 1 (.t 12) (.t 13)),l1 15 14,bn 16 .eql 11 15] [0,1,5,7,8,16] (cs 16 (sr [mv 17 5,mv 4 17] [4] .ret))))) (rn [bk 18 .add 8 1,mv 8 18] [0,1,7,8]))))
def F284l0:PC:=F284l0x
theorem qfo:run C q F284l0 fr σ = run C q F284l0x fr σ := rfl
def F284:PFun:=pf 2 [.tmp 4] (sr [mx 4 (kk 0)] [0,1] (.seq (sr [mv 6 0,ls 7 6,mx 8 (kk 0)] [0,1,7,8] (.block 0 (.loop F284l0))) (sr [mx 4 (kk (-1))] [4] .ret)))
def F288:PFun:=pf 1 [.tmp 2] (sr [jj 2 (.mov (ks []))] [0] (sr [mv 3 0,jj 4 (.call 291 [(.t 3),(kk 10)]),mv 2 4] [2] .ret))
def F291:PFun:=pf 2 [.tmp 4] (sr [jj 4 (.mov (ks []))] [0,1] (.seq (sr [mv 10 1,bk 11 .eql 10 10] [0,1,11] (cs 11 (.seq (sr [mv 12 0,jj 13 (.bin .leq (kk 0) (.t 12)),mv 14 13,jt 15 14 (.mov (.t 0)),jt 16 14 (.bin .lss (.t 15) (kk 100)),jj 17 (.pick (.t 14) (.t 16) kF)] [0,17] (cs 17 (sr [mv 18 0,cl 19 293 [18],mv 4 19] [4] .ret))) (sr [jj 5 (.alloc [(.lit (.int .u8 0)),(.lit (.int .u8 0)),(.lit (.int .u8 0)),(.lit (.int .u8 0)),(.lit (.int .u8 0)),(.lit (.int .u8 0)),(.lit (.int .u8 0)),(.lit (.int .u8 0)),(.lit (.int .u8 0)),(.lit (.int .u8 0)),(.lit (.int .u8 0)),(.lit (.int .u8 0)),(.lit (.int .u8 0)),(.lit (.int .u8 0)),(.lit (.int .u8 0)),(.lit (.int .u8 0)),(.lit (.int .u8 0)),(.lit (.int .u8 0)),(.lit (.int .u8 0)),(.lit (.int .u8 0)),(.lit (.int .u8 0)),(.lit (.int .u8 0)),(.lit (.int .u8 0)),(.lit (.int .u8 0))])] [0,5] (sr [mv 20 0,jj 21 (.conv (.int .u64) (.t 20)),mv 6 21] [0,5,6] (.seq (sr [mv 22 0,bk 23 .lss 22 0] [0,5,6,23] (cs 23 (rn [mv 24 6,jj 25 (.un .neg (.t 24)),mv 6 25] [0,5,6]))) (sr [mv 26 6,cl 27 294 [26],mv 7 27] [0,5,6,7] (sr [mv 28 7,jj 29 (.bin .add (kk 1) (.t 28)),jj 30 (.sliceA 24 1 (.t 5) (some (kk 1)) (some (.t 29))),mv 31 6,cl 32 295 [30,31]] [0,5,7] (.seq (sr [mv 33 0,bk 34 .lss 33 0] [5,7,34] (cs 34 (sr [jj 35 (.indexAddrA 24 1 (.t 5) (kk 0)),jn (.store 1 (.t 35) (.c (.int .u8 45)))] [5,7] (sr [mv 36 7,jj 37 (.bin .add (kk 1) (.t 36)),jj 38 (.sliceA 24 1 (.t 5) none (some (.t 37))),jj 39 (.bstr (.t 38)),mv 4 39] [4] .ret)))) (sr [mv 40 7,jj 41 (.bin .add (kk 1) (.t 40)),jj 42 (.sliceA 24 1 (.t 5) (some (kk 1)) (some (.t 41))),jj 43 (.bstr (.t 42)),mv 4 43] [4] .ret)))))))))) (sr [mv 45 0,jj 46 (.conv (.int .u64) (.t 45)),mv 47 1,mv 48 0,bk 49 .lss 48 0,jj 50 (.call 296 [(.c (.slice none 0 0)),(.t 46),(.t 47),(.t 49),kF]),mv 44 50,ex 51 44 0,ex 52 44 1,mv 8 51,mv 9 52] [9] (sr [mv 53 9,mv 4 53] [4] .ret))))
def F293:PFun:=pf 1 [.tmp 2] (sr [jj 2 (.mov (ks []))] [0] (.seq (sr [mv 3 0,bk 4 .lss 3 10] [0,4] (cs 4 (sr [mv 5 0,mv 6 0,bk 7 .add 6 1,jj 8 (.sliceS (ks [48,49,50,51,52,53,54,55,56,57,97,98,99,100,101,102,103,104,105,106,107,108,109,110,111,112,113,114,115,116,117,118,119,120,121,122]) (some (.t 5)) (some (.t 7))),mv 2 8] [2] .ret))) (sr [mv 9 0,bk 10 .mul 9 2,mv 11 0,bk 12 .mul 11 2,bk 13 .add 12 2,jj 14 (.sliceS (ks [48,48,48,49,48,50,48,51,48,52,48,53,48,54,48,55,48,56,48,57,49,48,49,49,49,50,49,51,49,52,49,53,49,54,49,55,49,56,49,57,50,48,50,49,50,50,50,51,50,52,50,53,50,54,50,55,50,56,50,57,51,48,51,49,51,50,51,51,51,52,51,53,51,54,51,55,51,56,51,57,52,48,52,49,52,50,52,51,52,52,52,53,52,54,52,55,52,56,52,57,53,48,53,49,53,50,53,51,53,52,53,53,53,54,53,55,53,56,53,57,54,48,54,49,54,50,54,51,54,52,54,53,54,54,54,55,54,56,54,57,55,48,55,49,55,50,55,51,55,52,55,53,55,54,55,55,55,56,55,57,56,48,56,49,56,50,56,51,56,52,56,53,56,54,56,55,56,56,56,57,57,48,57,49,57,50,57,51,57,52,57,53,57,54,57,55,57,56,57,57]) (some (.t 10)) (some (.t 13))),mv 2 14] [2] .ret)))
def F294:PFun:=pf 1 [.tmp 2] (sr [mx 2 (kk 0)] [0] (sr [mv 4 0,cl 5 299 [4],cl 6 298 [5],mv 3 6] [0,3] (sr [mv 7 3,mv 8 0,mv 9 3,jj 10 (.indexAddrA 20 1 (.g G_internal_strconv_uint64pow10) (.t 9)),l1 11 10,bn 12 .geq 8 11,cl 13 300 [12],bn 14 .add 7 13,mv 2 14] [2] .ret)))
@[simp] def F295l0x:PC:=(.seq (sr [mv 19 4,bk 20 .geq 19 8] [0,1,4,20] (.cond (.t 20) .skip (.exit 0))) (.block 1 (sr [mv 21 1,jj 22 (.bin .rem (.t 21) (.c (.int .u64 100000000))),jj 23 (.conv (.int .u32) (.t 22)),mv 5 23] [0,1,4,5] (sr [mv 24 1,jj 25 (.bin .quo (.t 24) (.c (.int .u64 100000000))),mv 1 25] [0,1,4,5] (sr [mv 26 5,jj 27 (.bin .quo (.t 26) (.c (.int .u32 10000))),mv 28 5,jj 29 (.bin .rem (.t 28) (.c (.int .u32 10000))),mv 6 27,mv 7 29] [0,1,4,6,7] (sr [mv 30 7,jj 31 (.bin .quo (.t 30) (.c (.int .u32 100))),jj 32 (.bin .mul (.t 31) (.c (.int .u32 2))),mv 33 7,jj 34 (.bin .rem (.t 33) (.c (.int .u32 100))),jj 35 (.bin .mul (.t 34) (.c (.int .u32 2))),mv 8 32,mv 9 35] [0,1,4,6,8,9] (sr [mv 36 6,jj 37 (.bin .quo (.t 36) (.c (.int .u32 100))),jj 38 (.bin .mul (.t 37) (.c (.int .u32 2))),mv 39 6,jj 40 (.bin .rem (.t 39) (.c (.int .u32 100))),jj 41 (.bin .mul (.t 40) (.c (.int .u32 2))),mv 10 38,mv 11 41] [0,1,4,8,9,10,11] (.seq (.region (some []) [mv 42 0,mv 43 4,bk 44 .sub 43 1,mv 45 0,mv 46 4,bk 47 .sub 46 2,mv 48 9,jj 49 (.bin .add (.t 48) (.c (.int .u32 1))),jj 50 (.indexS (ks [48,48,48,49,48,50,48,51,48,52,48,53,48,54,48,55,48,56,48,57,49,48,49,49,49,50,49,51,49,52,49,53,49,54,49,55,49,56,49,57,50,48,50,49,50,50,50,51,50,52,50,53,50,54,50,55,50,56,50,57,51,48,51,49,51,50,51,51,51,52,51,53,51,54,51,55,51,56,51,57,52,48,52,49,52,50,52,51,52,52,52,53,52,54,52,55,52,56,52,57,53,48,53,49,53,50,53,51,53,52,53,53,53,54,53,55,53,56,53,57,54,48,54,49,54,50,54,51,54,52,54,53,54,54,54,55,54,56,54,57,55,48,55,49,55,50,55,51,55,52,55,53,55,54,55,55,55,56,55,57,56,48,56,49,56,50,56,51,56,52,56,53,56,54,56,55,56,56,56,57,57,48,57,49,57,50,57,51,57,52,57,53,57,54,57,55,57,56,57,57]) (.t 49)),mv 51 9,jj 52 (.indexS (ks [48,48,48,49,48,50,48,51,48,52,48,53,48,54,48,55,48,56,48,57,49,48,49,49,49,50,49,51,49,52,49,53,49,54,49,55,49,56,49,57,50,48,50,49,50,50,50,51,50,52,50,53,50,54,50,55,50,56,50,57,51,48,51,49,51,50,51,51,51,52,51,53,51,54,51,55,51,56,51,57,52,48,52,49,52,50,52,51,52,52,52,53,52,54,52,55,52,56,52,57,53,48,53,49,53,50,53,51,53,52,53,53,53,54,53,55,53,56,53,57,54,48,54,49,54,50,54,51,54,52,54,53,54,54,54,55,54,56,54,57,55,48,55,49,55,50,55,51,55,52,55,53,55,54,55,55,55,56,55,57,56,48,56,49,56,50,56,51,56,52,56,53,56,54,56,55,56,56,56,57,57,48,57,49,57,50,57,51,57,52,57,53,57,54,57,55,57,56,57,57]) (.t 51)),jj 53 (.indexAddr 1 (.t 42) (.t 44)),st 1 53 50,jj 54 (.indexAddr 1 (.t 45) (.t 47)),st 1 54 52] [0,1,4,8,10,11]) (.seq (.region (some []) [mv 55 0,mv 56 4,bk 57 .sub 56 3,mv 58 0,mv 59 4,bk 60 .sub 59 4,mv 61 8,jj 62 (.bin .add (.t 61) (.c (.int .u32 1))),jj 63 (.indexS (ks [48,48,48,49,48,50,48,51,48,52,48,53,48,54,48,55,48,56,48,57,49,48,49,49,49,50,49,51,49,52,49,53,49,54,49,55,49,56,49,57,50,48,50,49,50,50,50,51,50,52,50,53,50,54,50,55,50,56,50,57,51,48,51,49,51,50,51,51,51,52,51,53,51,54,51,55,51,56,51,57,52,48,52,49,52,50,52,51,52,52,52,53,52,54,52,55,52,56,52,57,53,48,53,49,53,50,53,51,53,52,53,53,53,54,53,55,53,56,53,57,54,48,54,49,54,50,54,51,54,52,54,53,54,54,54,55,54,56,54,57,55,48,55,49,55,50,55,51,55,52,55,53,55,54,55,55,55,56,55,57,56,48,56,49,56,50,56,51,56,52,56,53,56,54,56,55,56,56,56,57,57,48,57,49,57,50,57,51,57,52,57,53,57,54,57,55,57,56,57,57]) (.t 62)),mv 64 8,jj 65 (.indexS (ks [48,48,48,49,48,50,48,51,48,52,48,53,48,54,48,55,48,56,48,57,49,48,49,49,49,50,49,51,49,52,49,53,49,54,49,55,49,56,49,57,50,48,50,49,50,50,50,51,50,52,50,53,50,54,50,55,50,56,50,57,51,48,51,49,51,50,51,51,51,52,51,53,51,54,51,55,51,56,51,57,52,48,52,49,52,50,52,51,52,52,52,53,52,54,52,55,52,56,52,57,53,48,53,49,53,50,53,51,53,52,53,53,53,54,53,55,53,56,53,57,54,48,54,49,54,50,54,51,54,52,54,53,54,54,54,55,54,56,54,57,55,48,55,49,55,50,55,51,55,52,55,53,55,54,55,55,55,56,55,57,56,48,56,49,56,50,56,51,56,52,56,53,56,54,56,55,56,56,56,57,57,48,57,49,57,50,57,51,57,52,57,53,57,54,57,55,57,56,57,57]) (.t 64)),jj 66 (.indexAddr 1 (.t 55) (.t 57)),st 1 66 63,jj 67 (.indexAddr 1 (.t 58) (.t 60)),st 1 67 65] [0,1,4,10,11]) (.seq (.region (some []) [mv 68 0,mv 69 4,bk 70 .sub 69 5,mv 71 0,mv 72 4,bk 73 .sub 72 6,mv 74 11,jj 75 (.bin .add (.t 74) (.c (.int .u32 1))),jj 76 (.indexS (ks [48,48,48,49,48,50,48,51,48,52,48,53,48,54,48,55,48,56,48,57,49,48,49,49,49,50,49,51,49,52,49,53,49,54,49,55,49,56,49,57,50,48,50,49,50,50,50,51,50,52,50,53,50,54,50,55,50,56,50,57,51,48,51,49,51,50,51,51,51,52,51,53,51,54,51,55,51,56,51,57,52,48,52,49,52,50,52,51,52,52,52,53,52,54,52,55,52,56,52,57,53,48,53,49,53,50,53,51,53,52,53,53,53,54,53,55,53,56,53,57,54,48,54,49,54,50,54,51,54,52,54,53,54,54,54,55,54,56,54,57,55,48,55,49,55,50,55,51,55,52,55,53,55,54,55,55,55,56,55,57,56,48,56,49,56,50,56,51,56,52,56,53,56,54,56,55,56,56,56,57,57,48,57,49,57,50,57,51,57,52,57,53,57,54,57,55,57,56,57,57]) (.t 75)),mv 77 11,jj 78 (.indexS (ks [48,48,48,49,48,50,48,51,48,52,48,53,48,54,48,55,48,56,48,57,49,48,49,49,49,50,49,51,49,52,49,53,49,54,49,55,49,56,49,57,50,48,50,49,50,50,50,51,50,52,50,53,50,54,50,55,50,56,50,57,51,48,51,49,51,50,51,51,51,52,51,53,51,54,51,55,51,56,51,57,52,48,52,49,52,50,52,51,52,52,52,53,52,54,52,55,52,56,52,57,53,48,53,49,53,50,53,51,53,52,53,53,53,54,53,55,53,56,53,57,54,48,54,49,54,50,54,51,54,52,54,53,54,54,54,55,54,56,54,57,55,48,55,49,55,50,55,51,55,52,55,53,55,54,55,55,55,56,55,57,56,48,56,49,56,50,56,51,56,52,56,53,56,54,56,55,56,56,56,57,57,48,57,49,57,50,57,51,57,52,57,53,57,54,57,55,57,56,57,57]) (.t 77)),jj 79 (.indexAddr 1 (.t 68) (.t 70)),st 1 79 76,jj 80 (.indexAddr 1 (.t 71) (.t 73)),st 1 80 78] [0,1,4,10]) (.seq (.region (some []) [mv 81 0,mv 82 4,bk 83 .sub 82 7,mv 84 0,mv 85 4,bk 86 .sub 85 8,mv 87 10,jj 88 (.bin .add (.t 87) (.c (.int .u32 1))),jj 89 (.indexS (ks [48,48,48,49,48,50,48,51,48,52,48,53,48,54,48,55,48,56,48,57,49,48,49,49,49,50,49,51,49,52,49,53,49,54,49,55,49,56,49,57,50,48,50,49,50,50,50,51,50,52,50,53,50,54,50,55,50,56,50,57,51,48,51,49,51,50,51,51,51,52,51,53,51,54,51,55,51,56,51,57,52,48,52,49,52,50,52,51,52,52,52,53,52,54,52,55,52,56,52,57,53,48,53,49,53,50,53,51,53,52,53,53,53,54,53,55,53,56,53,57,54,48,54,49,54,50,54,51,54,52,54,53,54,54,54,55,54,56,54,57,55,48,55,49,55,50,55,51,55,52,55,53,55,54,55,55,55,56,55,57,56,48,56,49,56,50,56,51,56,52,56,53,56,54,56,55,56,56,56,57,57,48,57,49,57,50,57,51,57,52,57,53,57,54,57,55,57,56,57,57]) (.t 88)),mv 90 10,jj 91 (.indexS (ks [48,48,48,49,48,50,48,51,48,52,48,53,48,54,48,55,48,56,48,57,49,48,49,49,49,50,49,51,49,52,49,53,49,54,49,55,49,56,49,57,50,48,50,49,50,50,50,51,50,52,50,53,50,54,50,55,50,56,50,57,51,48,51,49,51,50,51,51,51,52,51,53,51,54,51,55,51,56,51,57,52,48,52,49,52,50,52,51,52,52,52,53,52,54,52,55,52,56,52,57,53,48,53,49,53,50,53,51,53,52,53,53,53,54,53,55,53,56,53,57,54,48,54,49,54,50,54,51,54,52,54,53,54,54,54,55,54,56,54,57,55,48,55,49,55,50,55,51,55,52,55,53,55,54,55,55,55,56,55,57,56,48,56,49,56,50,56,51,56,52,56,53,56,54,56,55,56,56,56,57,57,48,57,49,57,50,57,51,57,52,57,53,57,54,57,55,57,56,57,57]) (.t 90)),jj 92 (.indexAddr 1 (.t 81) (.t 83)),st 1 92 89,jj 93 (.indexAddr 1 (.t 84) (.t 86)),st 1 93 91] [0,1,4]) (rn [mv 94 4,bk 95 .sub 94 8,mv 4 95] [0,1,4]))))))))))))
def F295l0:PC:=F295l0x
def F295:PFun:=pf 2 [] (sr [mv 17 0,ls 18 17,mv 4 18] [0,1,4] (.seq (.block 0 (.loop F295l0)) (sr [mv 96 1,jj 97 (.conv (.int .u32) (.t 96)),mv 12 97] [0,4,12] (.seq (sr [mv 98 4,bk 99 .geq 98 4] [0,4,12,99] (cs 99 (sr [mv 100 12,jj 101 (.bin .rem (.t 100) (.c (.int .u32 10000))),mv 13 101] [0,4,12,13] (sr [mv 102 12,jj 103 (.bin .quo (.t 102) (.c (.int .u32 10000))),mv 12 103] [0,4,12,13] (sr [mv 104 13,jj 105 (.bin .quo (.t 104) (.c (.int .u32 100))),jj 106 (.bin .mul (.t 105) (.c (.int .u32 2))),mv 107 13,jj 108 (.bin .rem (.t 107) (.c (.int .u32 100))),jj 109 (.bin .mul (.t 108) (.c (.int .u32 2))),mv 14 106,mv 15 109] [0,4,12,14,15] (.seq (.region (some []) [mv 110 0,mv 111 4,bk 112 .sub 111 1,mv 113 0,mv 114 4,bk 115 .sub 114 2,mv 116 15,jj 117 (.bin .add (.t 116) (.c (.int .u32 1))),jj 118 (.indexS (ks [48,48,48,49,48,50,48,51,48,52,48,53,48,54,48,55,48,56,48,57,49,48,49,49,49,50,49,51,49,52,49,53,49,54,49,55,49,56,49,57,50,48,50,49,50,50,50,51,50,52,50,53,50,54,50,55,50,56,50,57,51,48,51,49,51,50,51,51,51,52,51,53,51,54,51,55,51,56,51,57,52,48,52,49,52,50,52,51,52,52,52,53,52,54,52,55,52,56,52,57,53,48,53,49,53,50,53,51,53,52,53,53,53,54,53,55,53,56,53,57,54,48,54,49,54,50,54,51,54,52,54,53,54,54,54,55,54,56,54,57,55,48,55,49,55,50,55,51,55,52,55,53,55,54,55,55,55,56,55,57,56,48,56,49,56,50,56,51,56,52,56,53,56,54,56,55,56,56,56,57,57,48,57,49,57,50,57,51,57,52,57,53,57,54,57,55,57,56,57,57]) (.t 117)),mv 119 15,jj 120 (.indexS (ks [48,48,48,49,48,50,48,51,48,52,48,53,48,54,48,55,48,56,48,57,49,48,49,49,49,50,49,51,49,52,49,53,49,54,49,55,49,56,49,57,50,48,50,49,50,50,50,51,50,52,50,53,50,54,50,55,50,56,50,57,51,48,51,49,51,50,51,51,51,52,51,53,51,54,51,55,51,56,51,57,52,48,52,49,52,50,52,51,52,52,52,53,52,54,52,55,52,56,52,57,53,48,53,49,53,50,53,51,53,52,53,53,53,54,53,55,53,56,53,57,54,48,54,49,54,50,54,51,54,52,54,53,54,54,54,55,54,56,54,57,55,48,55,49,55,50,55,51,55,52,55,53,55,54,55,55,55,56,55,57,56,48,56,49,56,50,56,51,56,52,56,53,56,54,56,55,56,56,56,57,57,48,57,49,57,50,57,51,57,52,57,53,57,54,57,55,57,56,57,57]) (.t 119)),jj 121 (.indexAddr 1 (.t 110) (.t 112)),st 1 121 118,jj 122 (.indexAddr 1 (.t 113) (.t 115)),st 1 122 120] [0,4,12,14]) (.seq (.region (some []) [mv 123 0,mv 124 4,bk 125 .sub 124 3,mv 126 0,mv 127 4,bk 128 .sub 127 4,mv 129 14,jj 130 (.bin .add (.t 129) (.c (.int .u32 1))),jj 131 (.indexS (ks [48,48,48,49,48,50,48,51,48,52,48,53,48,54,48,55,48,56,48,57,49,48,49,49,49,50,49,51,49,52,49,53,49,54,49,55,49,56,49,57,50,48,50,49,50,50,50,51,50,52,50,53,50,54,50,55,50,56,50,57,51,48,51,49,51,50,51,51,51,52,51,53,51,54,51,55,51,56,51,57,52,48,52,49,52,50,52,51,52,52,52,53,52,54,52,55,52,56,52,57,53,48,53,49,53,50,53,51,53,52,53,53,53,54,53,55,53,56,53,57,54,48,54,49,54,50,54,51,54,52,54,53,54,54,54,55,54,56,54,57,55,48,55,49,55,50,55,51,55,52,55,53,55,54,55,55,55,56,55,57,56,48,56,49,56,50,56,51,56,52,56,53,56,54,56,55,56,56,56,57,57,48,57,49,57,50,57,51,57,52,57,53,57,54,57,55,57,56,57,57]) (.t 130)),mv 132 14,jj 133 (.indexS (ks [48,48,48,49,48,50,48,51,48,52,48,53,48,54,48,55,48,56,48,57,49,48,49,49,49,50,49,51,49,52,49,53,49,54,49,55,49,56,49,57,50,48,50,49,50,50,50,51,50,52,50,53,50,54,50,55,50,56,50,57,51,48,51,49,51,50,51,51,51,52,51,53,51,54,51,55,51,56,51,57,52,48,52,49,52,50,52,51,52,52,52,53,52,54,52,55,52,56,52,57,53,48,53,49,53,50,53,51,53,52,53,53,53,54,53,55,53,56,53,57,54,48,54,49,54,50,54,51,54,52,54,53,54,54,54,55,54,56,54,57,55,48,55,49,55,50,55,51,55,52,55,53,55,54,55,55,55,56,55,57,56,48,56,49,56,50,56,51,56,52,56,53,56,54,56,55,56,56,56,57,57,48,57,49,57,50,57,51,57,52,57,53,57,54,57,55,57,56,57,57]) (.t 132)),jj 134 (.indexAddr 1 (.t 123) (.t 125)),st 1 134 131,jj 135 (.indexAddr 1 (.t 126) (.t 128)),st 1 135 133] [0,4,12]) (rn [mv 136 4,bk 137 .sub 136 4,mv 4 137] [0,4,12])))))))) (.seq (sr [mv 138 4,bk 139 .geq 138 2] [0,4,12,139] (cs 139 (sr [mv 140 12,jj 141 (.bin .rem (.t 140) (.c (.int .u32 100))),jj 142 (.bin .mul (.t 141) (.c (.int .u32 2))),mv 16 142] [0,4,12,16] (sr [mv 143 12,jj 144 (.bin .quo (.t 143) (.c (.int .u32 100))),mv 12 144] [0,4,12,16] (.seq (.region (some []) [mv 145 0,mv 146 4,bk 147 .sub 146 1,mv 148 0,mv 149 4,bk 150 .sub 149 2,mv 151 16,jj 152 (.bin .add (.t 151) (.c (.int .u32 1))),jj 153 (.indexS (ks [48,48,48,49,48,50,48,51,48,52,48,53,48,54,48,55,48,56,48,57,49,48,49,49,49,50,49,51,49,52,49,53,49,54,49,55,49,56,49,57,50,48,50,49,50,50,50,51,50,52,50,53,50,54,50,55,50,56,50,57,51,48,51,49,51,50,51,51,51,52,51,53,51,54,51,55,51,56,51,57,52,48,52,49,52,50,52,51,52,52,52,53,52,54,52,55,52,56,52,57,53,48,53,49,53,50,53,51,53,52,53,53,53,54,53,55,53,56,53,57,54,48,54,49,54,50,54,51,54,52,54,53,54,54,54,55,54,56,54,57,55,48,55,49,55,50,55,51,55,52,55,53,55,54,55,55,55,56,55,57,56,48,56,49,56,50,56,51,56,52,56,53,56,54,56,55,56,56,56,57,57,48,57,49,57,50,57,51,57,52,57,53,57,54,57,55,57,56,57,57]) (.t 152)),mv 154 16,jj 155 (.indexS (ks [48,48,48,49,48,50,48,51,48,52,48,53,48,54,48,55,48,56,48,57,49,48,49,49,49,50,49,51,49,52,49,53,49,54,49,55,49,56,49,57,50,48,50,49,50,50,50,51,50,52,50,53,50,54,50,55,50,56,50,57,51,48,51,49,51,50,51,51,51,52,51,53,51,54,51,55,51,56,51,57,52,48,52,49,52,50,52,51,52,52,52,53,52,54,52,55,52,56,52,57,53,48,53,49,53,50,53,51,53,52,53,53,53,54,53,55,53,56,53,57,54,48,54,49,54,50,54,51,54,52,54,53,54,54,54,55,54,56,54,57,55,48,55,49,55,50,55,51,55,52,55,53,55,54,55,55,55,56,55,57,56,48,56,49,56,50,56,51,56,52,56,53,56,54,56,55,56,56,56,57,57,48,57,49,57,50,57,51,57,52,57,53,57,54,57,55,57,56,57,57]) (.t 154)),jj 156 (.indexAddr 1 (.t 145) (.t 147)),st 1 156 153,jj 157 (.indexAddr 1 (.t 148) (.t 150)),st 1 157 155] [0,4,12]) (rn [mv 158 4,bk 159 .sub 158 2,mv 4 159] [0,4,12])))))) (sr [mv 160 4,bk 161 .gtr 160 0] [0,12,161] (cs 161 (rn [mv 162 0,mv 163 12,jj 164 (.bin .add (.c (.int .u32 48)) (.t 163)),jj 165 (.conv (.int .u8) (.t 164)),jj 166 (.indexAddr 1 (.t 162) (kk 0)),st 1 166 165] []))))))))
def F298:PFun:=pf 1 [.tmp 2] (sr [mx 2 (kk 0)] [0] (sr [mv 3 0,bk 4 .mul 3 78913,jj 5 (.bin .shr (.t 4) (.c (.int .u64 18))),mv 2 5] [2] .ret))
def F299:PFun:=pf 1 [.tmp 2] (sr [mx 2 (kk 0)] [0,2] (.seq (sr [mv 3 0,jj 4 (.bin .geq (.t 3) (.c (.int .u64 4294967296)))] [0,2,4] (cs 4 (sr [mv 5 0,jj 6 (.bin .shr (.t 5) (.c (.int .u64 32))),mv 0 6] [0] (rn [mx 2 (kk 32)] [0,2])))) (.seq (sr [mv 7 0,jj 8 (.bin .geq (.t 7) (.c (.int .u64 65536)))] [0,2,8] (cs 8 (sr [mv 9 0,jj 10 (.bin .shr (.t 9) (.c (.int .u64 16))),mv 0 10] [0,2] (rn [mv 11 2,bk 12 .add 11 16,mv 2 12] [0,2])))) (.seq (sr [mv 13 0,jj 14 (.bin .geq (.t 13) (.c (.int .u64 256)))] [0,2,14] (cs 14 (sr [mv 15 0,jj 16 (.bin .shr (.t 15) (.c (.int .u64 8))),mv 0 16] [0,2] (rn [mv 17 2,bk 18 .add 17 8,mv 2 18] [0,2])))) (sr [mv 19 2,mv 20 0,jj 21 (.conv (.int .u8) (.t 20)),jj 22 (.indexS (ks [0,1,2,2,3,3,3,3,4,4,4,4,4,4,4,4,5,5,5,5,5,5,5,5,5,5,5,5,5,5,5,5,6,6,6,6,6,6,6,6,6,6,6,6,6,6,6,6,6,6,6,6,6,6,6,6,6,6,6,6,6,6,6,6,7,7,7,7,7,7,7,7,7,7,7,7,7,7,7,7,7,7,7,7,7,7,7,7,7,7,7,7,7,7,7,7,7,7,7,7,7,7,7,7,7,7,7,7,7,7,7,7,7,7,7,7,7,7,7,7,7,7,7,7,7,7,7,7,8,8,8,8,8,8,8,8,8,8,8,8,8,8,8,8,8,8,8,8,8,8,8,8,8,8,8,8,8,8,8,8,8,8,8,8,8,8,8,8,8,8,8,8,8,8,8,8,8,8,8,8,8,8,8,8,8,8,8,8,8,8,8,8,8,8,8,8,8,8,8,8,8,8,8,8,8,8,8,8,8,8,8,8,8,8,8,8,8,8,8,8,8,8,8,8,8,8,8,8,8,8,8,8,8,8,8,8,8,8,8,8,8,8,8,8,8,8,8,8,8,8,8,8,8,8,8,8]) (.t 21)),jj 23 (.conv (.int .i64) (.t 22)),bn 24 .add 19 23,mv 2 24] [2] .ret)))))
def F300:PFun:=pf 1 [.tmp 2] (sr [mx 2 (kk 0)] [0] (.seq (sr [mv 3 0] [3] (cs 3 (sr [mx 2 (kk 1)] [2] .ret))) (sr [mx 2 (kk 0)] [2] .ret)))
end Go.Pm.F
end
section
namespace Go.Pm.F
def tQ:Nat->Option PFun
 |231=>some F231
 |243=>some F243
 |244=>some F244
 |245=>some F245
 |257=>some F257
 |258=>some F258
 |259=>some F259
 |260=>some F260
 |264=>some F264
 |266=>some F266
 |272=>some F272
 |273=>some F273
 |274=>some F274
 |282=>some F282
 |283=>some F283
 |288=>some F288
 |291=>some F291
 |293=>some F293
 |294=>some F294
 |295=>some F295
 |298=>some F298
 |299=>some F299
 |300=>some F300
 |_=>none
end Go.Pm.F
end
namespace Go.Pm
section
open F
theorem qrJ(c:UInt8):Z tQ (.call 264 [.dat (.lit (.int .u8 c.toNat))] [])=some (.ret (.bool (qaQ c)) []):=by
 refine qac (pf:=F264) rfl rfl ?_
 by_cases h1:(97:Int)<=c.toNat
 ·have h1':97<=c.toNat:=by omega
  by_cases h2:(c.toNat:Int)<=122
  ·have h2':c.toNat<=122:=by omega
   simp[F264,qaQ,h1,h1',h2,h2']
  ·have h2' : ¬ c.toNat<=122:=by omega
   simp[F264,qaQ,h1,h1',h2,h2']
 ·have h1' : ¬ 97<=c.toNat:=by omega
  simp[F264,qaQ,h1,h1']
theorem qtR(c:UInt8):Z tQ (.call 266 [.dat (.lit (.int .u8 c.toNat))] [])=some (.ret (.bool (qaq c)) []):=by
 refine qac (pf:=F266) rfl rfl ?_
 by_cases h1:(48:Int)<=c.toNat
 ·have h1':48<=c.toNat:=by omega
  by_cases h2:(c.toNat:Int)<=57
  ·have h2':c.toNat<=57:=by omega
   simp[F266,qaq,h1,h1',h2,h2']
  ·have h2' : ¬ c.toNat<=57:=by omega
   simp[F266,qaq,h1,h1',h2,h2']
 ·have h1' : ¬ 48<=c.toNat:=by omega
  simp[F266,qaq,h1,h1']
theorem qm5(c:UInt8):Z tQ (.call 257 [.dat (.lit (.int .u8 c.toNat))] [])=some (.ret (.bool (qaz c)) []):=by
 have z1:=qrJ c
 have z2:=qtR c
 refine qac (pf:=F257) rfl rfl ?_
 unfold qaz
 cases h:qaQ c<;>rw[h] at z1<;>simp[F257,z1,z2]
end
section
open F
def vb(w:List UInt8):List V:=w.map fun b => .dat (.lit (.int .u8 b.toNat))
theorem qjM(w:List UInt8):(vb w).length=w.length:=by simp[vb]
theorem quj(a b:List UInt8):vb a++vb b=vb (a++b):=by simp[vb]
theorem qzi(w:List UInt8):(vb w).all V.one=true:=by
 rw[WD]
 intro x hx
 simp only[vb,WV] at hx
 obtain⟨b,_,rfl⟩:=hx
 rfl
theorem qfW(w:List UInt8):qaG (vb w)=[]:=by
 induction w with
 |nil=>rfl
 |cons x w ih=>simpa [vb] using ih
theorem qiQ(r:Nat->Nat)(w:List UInt8):qdI r (vb w)=vb w:=by
 induction w with
 |nil=>rfl
 |cons x w ih=>simpa [vb] using ih
theorem qie(s:ByteArray):(qcu s).map V.dat=vb (byl s):=by
 simp[qcu,vb,byl,List.map_map,Function.comp_def]
theorem qjN(w:List UInt8):qc4 (vb w)=some w:=by
 induction w with
 |nil=>rfl
 |cons x w ih=>
  have h:((x.toNat:Int)<256):=by have:=x.toNat_lt; omega
  show qc4 (V.dat (.lit (.int .u8 x.toNat))::vb w)=_
  simp[qc4,h,ih]
theorem qzj(w:List UInt8):(∀ x∈vb w,V.one x=true)↔True:=by
 have:=qzi w
 rw[WD] at this
 exact⟨fun _=>trivial,fun _=>this⟩
theorem qjO(t:ByteArray):(∀ x∈qcu t,V.one (.dat x)=true)↔True:=by
 refine⟨fun _=>trivial,fun _ x hx=>?_⟩
 simp only[qcu,WV] at hx
 obtain⟨b,_,rfl⟩:=hx
 rfl
abbrev PW'(w:List UInt8)(c:Nat):S:=[.cellsT 4 [.ptr 0 0,.own 1 w.length 1,.dat (.lit (.int .u8 c))],.vecT 3 (vb w)]
abbrev PE:S:=[.cellsT 4 [.dat (.lit (.pointer none)),.dat (.lit (.slice none 0 0)),.dat (.lit (.int .u8 0))]]
attribute [local simp] qfW qiQ
theorem quk(w:List UInt8)(c:Nat):Z tQ (.call 272 [.ptr 0 0] (PW' w c))=some (.ret (.tup []) (PW' w c)):=by
 refine qac (pf:=F272) rfl rfl ?_
 simp[F272,Wa]
theorem qwc:Z tQ (.call 272 [.ptr 0 0] PE)=some (.ret (.tup []) [.cellsT 4 [.ptr 0 0,.dat (.lit (.slice none 0 0)),.dat (.lit (.int .u8 0))]]):=by
 refine qac (pf:=F272) rfl rfl ?_
 simp[F272,Wa]
theorem qwd(w:List UInt8)(c:Nat)(b:UInt8)(h:w.length<2 ^ 40):Z tQ (.call 258 [.ptr 0 0,.dat (.lit (.int .u8 b.toNat))] (PW' w c))=some (.ret (.dat (.lit .nilIface)) (PW' (w++[b]) c)):=by
 have z:=quk w c
 have hr:qao (w.length+1) 1=true:=by simp[qao]; omega
 have hv:vb w++[.dat (.lit (.int .u8 b.toNat))]=vb (w++[b]):=quj w [b]
 have hl:=qjM w
 refine qac (pf:=F258) rfl rfl ?_
 simp[F258,z,hr,hv,hl,Wa]
theorem qqF(w:List UInt8)(c:Nat)(t:ByteArray)(h:(w++byl t).length<2 ^ 40)(ht:t.size≠0):Z tQ (.call 259 [.ptr 0 0,.str t] (PW' w c))=some (.ret (.tup [.int t.size,.dat (.lit .nilIface)]) (PW' (w++byl t) c)):=by
 have z:=quk w c
 have hs:=qau t
 have hr:qao (w.length+t.size) 1=true:=by rw[Wb] at h; simp[qao]; omega
 have hv:vb w++(qcu t).map V.dat=vb (w++byl t):=by rw[qie,quj]
 have hl:=qjM w
 have hb:(qcu t).length=t.size:=by rw[<- List.length_map (f:=V.dat),qie,qjM,hs]
 have ho:=qjO t
 have hn:(w++byl t).length=w.length+t.size:=by rw[Wb,hs]
 have w1:=qai (t.size:Int) (by rw[hn] at h; omega)
 refine qac (pf:=F259) rfl rfl ?_
 simp[F259,z,hr,hv,hl,hb,ho,hn,ht,hs,V.len,Wa]
theorem qwe(t:ByteArray)(h:t.size<2 ^ 40)(ht:t.size≠0):Z tQ (.call 259 [.ptr 0 0,.str t] PE)=some (.ret (.tup [.int t.size,.dat (.lit .nilIface)]) (PW' (byl t) 0)):=by
 have z:=qwc
 have hs:=qau t
 have hr:qao t.size 1=true:=by simp[qao]; omega
 have hb:(qcu t).length=t.size:=by rw[<- List.length_map (f:=V.dat),qie,qjM,hs]
 have ho:=qjO t
 have hv:(qcu t).map V.dat=vb (byl t):=by rw[qie]
 refine qac (pf:=F259) rfl rfl ?_
 simp[F259,z,hr,hb,ho,ht,hs,hv,qjM,qzj,V.len,Wa]
end
section
open F
def lastC(w:List UInt8):UInt8:=(w.getLast?).getD 0
def wl(w:List UInt8):Bool:=qaz (lastC w)
def pw(w:List UInt8)(ts:List ByteArray):List UInt8:=w++qap (wl w) ts
abbrev PW(w:List UInt8):S:=PW' w (lastC w).toNat
theorem qul:wl []=false:=by decide
theorem qlJ(w r:List UInt8)(h:r≠[]):lastC (w++r)=lastC r:=by
 unfold lastC
 rw[List.getLast?_append]
 cases hr:r.getLast? with
 |none=>exact absurd (Yv.1 hr) h
 |some c=>rfl
theorem qsY(w:List UInt8)(t:ByteArray):qb7 (wl w) t=wl (w++(gap (wl w) t++byl t)):=by
 unfold qb7
 cases h:byl t with
 |nil=>
  have hs:qaX qaz t=false:=by rw[qbw,h]; rfl
  simp[gap,hs]
 |cons c r=>
  have hne:c::r≠[]:=by simp
  rw[<- List.append_assoc,show wl (w++gap (wl w) t++c::r)=qaz (lastC (c::r)) by unfold wl; rw[qlJ _ _ hne]]
  unfold lastC
  cases hl:(c::r).getLast? with
  |none=>exact absurd (Yv.1 hl) hne
  |some d=>rfl
theorem qcq(w:List UInt8)(t:ByteArray)(ts:List ByteArray):pw w (t::ts)=pw (w++(gap (wl w) t++byl t)) ts:=by
 unfold pw
 rw[qap,qsY,Wf,Wf]
theorem qdO(w:List UInt8):pw w []=w:=by simp[pw,qap]
theorem qav(w:List UInt8)(a b:List ByteArray):pw w (a++b)=pw (pw w a) b:=by
 induction a generalizing w with
 |nil=>rw[Wc,qdO]
 |cons t a ih=>rw[Wg,qcq,qcq,ih]
theorem qjP(w:List UInt8)(ts:List ByteArray):w.length<=(pw w ts).length:=by simp[pw]
theorem qe0{w:List UInt8}(h:w≠[])(ts:List ByteArray):pw w ts≠[]:=by
 intro e
 have h2:=qjP w ts
 rw[e] at h2
 exact h (WL (by simpa using h2))
theorem qnM{t:ByteArray}(h:t.size≠0) : ∃ b,t[0]?=some b/\qaX qaz t=qaz b:=by
 have hd:=qhq t 0
 rw[WJ] at hd
 cases hb:byl t with
 |nil=>exact absurd (by rw[<- qau,hb]; rfl) h
 |cons b r=>
  rw[hb] at hd
  exact⟨b,hd,by rw[qbw,hb]; rfl⟩
theorem qmJ{t:ByteArray}(h:t.size≠0):t[t.size-1]?=some (lastC (byl t)):=by
 rw[qhq,List.head?_drop,<- qau,lastC]
 rw[List.getLast?_eq_getElem?]
 cases hg:(byl t)[(byl t).length-1]? with
 |some c=>rfl
 |none=>
  rw[List.getElem?_eq_none_iff] at hg
  have:=qau t
  omega
attribute [local simp] qfW qiQ
theorem qif {kk:Nat} (hkk:kk=1\/kk=2) (fl:Bool) (ts:List ByteArray) (hts : ∀ t∈ts,t.size≠0) (hn:ts.length<2 ^ 30) : ∀ (m i:Nat) (w:List UInt8),i+m=ts.length->(pw w (ts.drop i)).length<2 ^ 40 ->
  Z tQ (.loop kk F243l0 [(0,.ptr 0 0),(6,.dat (.sl (strC ts) ts.length fl)),(7,.int ts.length),(8,.int i)] (PW w))=some (.out (.exit 0) [(0,.ptr 0 0),(6,.dat (.sl (strC ts) ts.length fl)),(7,.int ts.length),(8,.int ts.length),(9,.bool false)] (PW (pw w (ts.drop i))))
 |0,i,w,hi,hsz=>by
  have hi':i=ts.length:=by omega
  subst hi'
  rw[List.drop_length,qdO]
  rw[qaa]
  rcases hkk with rfl|rfl<;>simp[qab,qd6,Wa]
 |m+1,i,w,hi,hsz=>by
  have hlt:i<ts.length:=by omega
  have hd:ts.drop i=ts[i]::ts.drop (i+1):=Ww hlt
  have ht:=hts ts[i] (Yn hlt)
  rw[hd,qcq] at hsz ⊢
  have hc:=qeA ts i hlt
  generalize ts[i]=t at *
  obtain⟨b,hb,hs⟩:=qnM ht
  have hla:=qmJ ht
  have hpos:0<t.size:=by omega
  have hw0:(w++(gap (wl w) t++byl t)).length<2 ^ 40:=Wu (qjP _ _) hsz
  have hts2:t.size<2 ^ 40:=by rw[Wb,Wb,qau] at hw0; omega
  have ih:=qif hkk fl ts hts hn m (i+1) (w++(gap (wl w) t++byl t)) (by omega) hsz
  have hlc:lastC (w++(gap (wl w) t++byl t))=lastC (byl t):=by
   rw[<- List.append_assoc,qlJ]
   intro e
   rw[<- qau,e] at ht
   exact ht rfl
  rw[<- ih]
  have zl:=qm5 (lastC w)
  have zb:=qm5 b
  have w1:=qai ((i:Int)+1) (by omega)
  have w2:=qai ((t.size:Int)-1) (by omega)
  have w3:((t.size:Int)-1).toNat=t.size-1:=by omega
  have w4:(0:Int)<=(t.size:Int)-1:=by omega
  have hge:(1:Int)<=t.size:=by omega
  have hne : ¬ t=⟨#[]⟩:=fun e=>by rw[e] at ht; exact ht rfl
  have hlt':(i:Int)<ts.length:=by omega
  have hne2:eqS t ⟨#[]⟩=false:=by rw[qaT]; simp[hne]
  conv=>lhs; rw[qaa]
  simp only[PW,hlc]
  by_cases h1:qaz (lastC w)=true
  ·by_cases h2:qaz b=true
   ·have hg:gap (wl w) t=[32]:=by simp[gap,wl,h1,hs,h2]
    rw[hg] at hw0 ⊢
    have hw1:w.length<2 ^ 40:=by rw[Wb] at hw0; omega
    have z1:Z tQ (.call 258 [.ptr 0 0,.dat (.lit (.int .u8 32))] (PW' w (lastC w).toNat))=_:=qwd w (lastC w).toNat 32 hw1
    have z2:=qqF (w++[32]) (lastC w).toNat t (by rw[Wf]; exact hw0) ht
    rw[Wf] at z2
    rw[h1] at zl
    rw[h2] at zb
    simp only[PW',Wb,We,Wk,WG,qau] at z1 z2
    rcases hkk with rfl|rfl<;>simp[qab,qd6,zl,zb,z1,z2,hb,hla,hc,w1,w2,w3,w4,qau,PW',YM 1,hge,hne,hne2,hlt',hlt,qaf,V.len,Wa]
   ·have hg:gap (wl w) t=[]:=by simp[gap,hs,h2]
    rw[hg] at hw0 ⊢
    rw[Wc] at hw0 ⊢
    have z2:=qqF w (lastC w).toNat t hw0 ht
    rw[h1] at zl
    rw[Bool.not_eq_true] at h2
    rw[h2] at zb
    simp only[PW',Wb,We,Wk,WG,qau] at z2
    rcases hkk with rfl|rfl<;>simp[qab,qd6,zl,zb,z2,hb,hla,hc,w1,w2,w3,w4,qau,PW',YM 1,hge,hne,hne2,hlt',hlt,qaf,V.len,Wa]
  ·have hg:gap (wl w) t=[]:=by simp[gap,wl,h1]
   rw[hg] at hw0 ⊢
   rw[Wc] at hw0 ⊢
   have z2:=qqF w (lastC w).toNat t hw0 ht
   rw[Bool.not_eq_true] at h1
   rw[h1] at zl
   simp only[PW',Wb,We,Wk,WG,qau] at z2
   rcases hkk with rfl|rfl<;>simp[qab,qd6,zl,zb,z2,hb,hla,hc,w1,w2,w3,w4,qau,PW',YM 1,hge,hne,hne2,hlt',hlt,qaf,V.len,Wa]
theorem qzk (fl:Bool) {ts:List ByteArray} (hts : ∀ t∈ts,t.size≠0) (hn:ts.length<2 ^ 30) {w:List UInt8} (hsz:(pw w ts).length<2 ^ 40) :
  Z tQ (.call 243 [.ptr 0 0,.dat (.sl (strC ts) ts.length fl)] (PW w))=some (.ret (.tup []) (PW (pw w ts))):=by
 have z:=qif (.inr rfl) fl ts hts hn ts.length 0 w (by omega) (by rw[WJ]; exact hsz)
 rw[WJ] at z
 simp only[PW,PW'] at z
 refine qac (pf:=F243) rfl rfl ?_
 simp only[Wt] at z
 simp[F243,z,V.len,Wa]
theorem qzl (fl:Bool) {ts:List ByteArray} (hts : ∀ t∈ts,t.size≠0) (hn:ts.length<2 ^ 30) {w:List UInt8} (hsz:(pw w ts).length<2 ^ 40) :
  Z tQ (.dcall 243 [.dat (.lit .nilIface),.ptr 0 0,.dat (.sl (strC ts) ts.length fl)] (PW w))=some (.ret (.dat (.lit undef)) (PW (pw w ts))):=by
 have z:=qif (.inr rfl) fl ts hts hn ts.length 0 w (by omega) (by rw[WJ]; exact hsz)
 rw[WJ] at z
 simp only[PW,PW'] at z
 refine qmh (pf:=F243) rfl ?_
 have hfl:F243.body.flat=true:=rfl
 simp only[qaU]
 rw[if_pos ⟨rfl,rfl,rfl,hfl,.inr rfl⟩]
 simp only[Wt] at z
 simp[F243,z,qga,V.len,Wa]
theorem qzm (fl:Bool) {t:ByteArray} {ts:List ByteArray} (ht:t.size≠0) (hts : ∀ t∈ts,t.size≠0) (hn:ts.length<2 ^ 29) (hsz:(pw [] (t::ts)).length<2 ^ 40) :
  Z tQ (.call 243 [.ptr 0 0,.dat (.sl (strC (t::ts)) (t::ts).length fl)] PE)=some (.ret (.tup []) (PW (pw [] (t::ts)))):=by
 have hg:gap (wl []) t=[]:=by rw[qul]; rfl
 rw[qcq,hg] at hsz ⊢
 simp only[Wc] at hsz ⊢
 have hall : ∀ x∈t::ts,x.size≠0:=fun x hx=>by
  rcases Wo.1 hx with rfl|hx
  ·exact ht
  ·exact hts x hx
 have z:=qif (kk:=1) (.inl rfl) fl (t::ts) hall (by rw[We]; omega) ts.length 1 (byl t) (by rw[We]; omega) hsz
 simp only[PW,PW',Ye,WJ] at z
 have hla:=qmJ ht
 have hw0:(byl t).length<2 ^ 40:=Wu (qjP _ _) hsz
 rw[qau] at hw0
 have z2:=qwe t hw0 ht
 have zl:Z tQ (.call 257 [.dat (.lit (.int .u8 0))] [])=some (.ret (.bool false) []):=qm5 0
 have w2:=qai ((t.size:Int)-1) (by omega)
 have w3:((t.size:Int)-1).toNat=t.size-1:=by omega
 have w4:(0:Int)<=(t.size:Int)-1:=by omega
 have hge:(1:Int)<=t.size:=by omega
 have hne : ¬ t=⟨#[]⟩:=fun e=>by rw[e] at ht; exact ht rfl
 have hne2:eqS t ⟨#[]⟩=false:=by rw[qaT]; simp[hne]
 have w5:IntKind.i64.wrap 1=1:=rfl
 have hpos:(0:Int)<(ts.length:Int)+1:=by omega
 have hc:=qeA (t::ts) 0 (by rw[We]; omega)
 simp only[List.getElem_cons_zero] at hc
 simp only[PW',qau] at z2
 simp only[qau,Wt] at z
 refine qac (pf:=F243) rfl rfl ?_
 have z1:Z tQ (.loop 1 F243l0 [(0,.ptr 0 0),(6,.dat (.sl (strC (t::ts)) (t::ts).length fl)),(7,.int (t::ts).length),(8,.int 0)] PE)=Z tQ (.loop 1 F243l0 [(0,.ptr 0 0),(6,.dat (.sl (strC (t::ts)) (t::ts).length fl)),(7,.int (t::ts).length),(8,.int 1)] [.cellsT 4 [.ptr 0 0,.own 1 t.size 1,.dat (.lit (.int .u8 (lastC (byl t)).toNat))],.vecT 3 (vb (byl t))]):=by
  conv=>lhs; rw[qaa]
  generalize strC (t::ts)=row at *
  simp[qab,qd6,zl,z2,hla,hc,w2,w3,w4,w5,qau,hge,hne,hne2,hpos,qaf,V.len,Wa]
 rw[z] at z1
 generalize strC (t::ts)=row at *
 generalize (t::ts).length=M at *
 simp[F243,z1,V.len,Wa]
end
section
def E.lev:E->Nat
 |.un _ neg _=>qdK neg
 |.bin _ o _ _=>o.prec
 |_=>8
theorem qj1 : ∀ {l:List ByteArray},Ok2 l -> ∀ t∈l,Tg (byl t)
 |[],_,t,h=>by cases h
 |u::l,ho,t,h=>by
  rcases Wo.1 h with rfl|h
  ·exact ho.1
  ·exact qj1 ho.2.2 t h
theorem qfx{s:ByteArray}(h:Tg (byl s)):s.size≠0:=by
 obtain⟨c,r,e,_⟩:=qfV h
 intro h0
 rw[<- qau,e] at h0
 cases h0
theorem qdZ(ts:List ByteArray):pw [] ts=qap false ts:=by rw[pw,qul,Wc]
theorem qhj : ∀ (l:List ByteArray) (p:Bool),(∀ t∈l,t.size≠0)->l.length<=(qap p l).length
 |[],p,_=>by simp
 |t::l,p,h=>by
  have:=qhj l (qb7 p t) (fun x hx=>h x (WA _ hx))
  have h1:=h t (WO ..)
  have h2:=qau t
  simp only[qap,Wb,We]
  omega
theorem qey : ∀ s:Ss,s.good none->s.fo.len<=s.tx.length
 |.nil,_=>by simp[Ss.fo]
 |.assign _ s e r,h=>by have:=qey r h.2.2.2; simp[Ss.fo,Ss.tx]; omega
 |.store _ s a b r,h=>by have:=qey r h.2.2.2.2; simp[Ss.fo,Ss.tx]; omega
 |.effect _ a b r,h=>by have:=qey r h.2.2.2; simp[Ss.fo,Ss.tx]; omega
 |.stop r,h=>by have:=qey r h.2; simp[Ss.fo,Ss.tx]; omega
 |.cond w _ c b r,h=>by have:=qey r h.2.2.2; simp[Ss.fo,Ss.tx]; omega
 |.block _ b r,h=>by obtain⟨n,hn,_⟩:=h; cases hn
theorem qmX{b:Ss}(h:b.good (some 1)) : ∃ fb b1,b = .block fb b1 .nil/\b1.good none:=by
 cases b with
 |block fb b1 r=>
  obtain⟨n,hn,h1,h2⟩:=h
  have:n=0:=by simpa using hn.symm
  subst this
  cases r with
  |nil=>exact⟨fb,b1,rfl,h1⟩
  |block _ _ _=>obtain⟨n,hn,_⟩:=h2; simp at hn
  |_=>simp[Ss.good] at h2
 |_=>simp[Ss.good] at h
theorem qra{b:Ss}(h:b.good (some 2)) : ∃ fb b1 fc b2,b = .block fb b1 (.block fc b2 .nil)/\b1.good none/\b2.good none:=by
 cases b with
 |block fb b1 r=>
  obtain⟨n,hn,h1,h2⟩:=h
  have:n=1:=by simpa using hn.symm
  subst this
  obtain⟨fc,b2,rfl,h3⟩:=qmX h2
  exact⟨fb,b1,fc,b2,rfl,h1,h3⟩
 |_=>simp[Ss.good] at h
def Hd.opt:Hd->Option Ss
 |.none=>Option.none
 |.some _ b=>Option.some b
def Hd.opts(a b c:Hd):Nat->Option Ss
 |0=>a.opt
 |1=>b.opt
 |_=>c.opt
end
end Go.Pm
section
namespace Go.Pm.F
def tR:Nat->Option PFun
 |149=>some F149
 |152=>some F152
 |170=>some F170
 |171=>some F171
 |192=>some F192
 |193=>some F193
 |194=>some F194
 |195=>some F195
 |196=>some F196
 |198=>some F198
 |_=>none
end Go.Pm.F
end
namespace Go.Pm
section
open F
theorem qkS(c:UInt8):Z tR (.call 192 [.dat (.lit (.int .u8 c.toNat))] [])=some (.ret (.bool (qaQ c)) []):=by
 refine qac (pf:=F192) rfl rfl ?_
 by_cases h1:(97:Int)<=c.toNat
 ·have h1':97<=c.toNat:=by omega
  by_cases h2:(c.toNat:Int)<=122
  ·have h2':c.toNat<=122:=by omega
   simp[F192,qaQ,h1,h1',h2,h2']
  ·have h2' : ¬ c.toNat<=122:=by omega
   simp[F192,qaQ,h1,h1',h2,h2']
 ·have h1' : ¬ 97<=c.toNat:=by omega
  simp[F192,qaQ,h1,h1']
theorem qmW(c:UInt8):Z tR (.call 193 [.dat (.lit (.int .u8 c.toNat))] [])=some (.ret (.bool (qaq c)) []):=by
 refine qac (pf:=F193) rfl rfl ?_
 by_cases h1:(48:Int)<=c.toNat
 ·have h1':48<=c.toNat:=by omega
  by_cases h2:(c.toNat:Int)<=57
  ·have h2':c.toNat<=57:=by omega
   simp[F193,qaq,h1,h1',h2,h2']
  ·have h2' : ¬ c.toNat<=57:=by omega
   simp[F193,qaq,h1,h1',h2,h2']
 ·have h1' : ¬ 48<=c.toNat:=by omega
  simp[F193,qaq,h1,h1']
structure RowS(d:D)(l:List ByteArray):Prop where
 len : ∀ σ,V.len σ .sl (.dat d)=some l.length
 at_ : ∀ i:Nat,i<l.length->qaf 1 (.dat d) i=some (.dat (.imm (strC l) i))
 one:V.one (.dat d)=true
 cells:V.cells (.dat d)=[.dat d]
theorem qaN(l:List ByteArray)(f:Bool):RowS (.sl (strC l) l.length f) l where
 len _:=rfl
 at_ i h:=by simp[qaf,h]
 one:=rfl
 cells:=rfl
theorem qlT {d:D} {l:List ByteArray} (hd:RowS d l) (hl:l.length<2 ^ 40) (s:ByteArray) : ∀ (m i:Nat),i+m=l.length ->
  Z tR (.loop 0 F196l0 [(0,.dat d),(1,.str s),(5,.int i)] [])=some (if s∈l.drop i then .out .ret [(4,.bool true)] [] else .out (.exit 0) [(0,.dat d),(1,.str s),(5,.int l.length),(9,.bool false)] [])
 |0,i,hi=>by
  have ho:=hd.one
  have hc:=hd.cells
  have hn:=hd.len
  rw[qaa]
  obtain rfl:i=l.length:=by omega
  simp[qab,qg3,ho,hc,hn]
 |m+1,i,hi=>by
  have ho:=hd.one
  have hc:=hd.cells
  have hn:=hd.len
  have hil:i<l.length:=by omega
  have a:=hd.at_ i hil
  have c:=qeA l i hil
  have w1:=qai ((i:Int)+1) (by omega)
  have hlt:(i:Int)<l.length:=by omega
  have hdrop:l.drop i=l[i]::l.drop (i+1):=Ww hil
  rw[qaa]
  by_cases he:l[i]=s
  ·have hmem:s∈l.drop i:=by rw[hdrop,he]; exact WO ..
   rw[if_pos hmem]
   simp[qab,qg3,ho,hc,hn,a,c,w1,hlt,qaT,he]
  ·have hmem:(s∈l.drop i)=(s∈l.drop (i+1)):=by
    rw[hdrop,Wo]
    simp[Yj he]
   have ih:=qlT hd hl s m (i+1) (by omega)
   simp only[WE,Wt] at ih
   simp[qab,qg3,ho,hc,hn,a,c,w1,hlt,qaT,he,ih,hmem]
theorem qn8{d:D}{l:List ByteArray}(hd:RowS d l)(hl:l.length<2 ^ 40)(s:ByteArray):Z tR (.call 196 [.dat d,.str s] [])=some (.ret (.bool (decide (s∈l))) []):=by
 refine qac (pf:=F196) rfl rfl ?_
 have ho:=hd.one
 have hc:=hd.cells
 have z:=qlT hd hl s l.length 0 (by omega)
 simp only[Yo,WJ] at z
 by_cases h:s∈l
 ·simp[F196,ho,hc,z,h]
 ·simp[F196,ho,hc,z,h]
theorem qtj(s:ByteArray):Z tR (.call 198 [.str s] [])=some (.ret (.bool (decide (s∈fieldNames))) []):=by
 refine qac (pf:=F198) rfl rfl ?_
 have z:=qn8 (qaN fieldNames true) (by decide) s
 simp only[fieldNames,strC,Wv,WB,We,Wk,bs,qi3,qj5] at z
 simp[F198,z,fieldNames,bs,qi3,qj5,Wa]
theorem qpg(s:ByteArray):Z tR (.call 194 [.str s] [])=some (.ret (.bool (decide (s∈fieldNames\/s∈wordNames))) []):=by
 refine qac (pf:=F194) rfl rfl ?_
 have z1:=qtj s
 have z:=qn8 (qaN wordNames true) (by decide) s
 simp only[wordNames,strC,Wv,WB,We,Wk,bs,qi3] at z
 by_cases h:s∈fieldNames
 ·simp[F194,z1,h,Wa]
 ·simp[F194,z1,h,z,wordNames,bs,qi3,Wa]
theorem qw4(s:ByteArray)(i:Nat):s[i]?=s.data.toList[i]?:=by
 by_cases h:i<s.size
 ·rw[getElem?_pos s i h,WP (by rw[WC]; exact h)]
  simp[ByteArray.getElem_eq_getElem_data]
 ·rw[getElem?_neg s i h,Yg (by rw[WC]; exact Nat.not_lt.1 h)]
theorem qiY{s:ByteArray}{i:Nat}(h:i<s.size) : ∃ c,s[i]?=some c/\s.data.toList[i]?=some c:=by
 refine⟨s.data.toList[i]'(by rw[WC]; exact h),?_,WP _⟩
 rw[qw4]
 exact WP _
theorem qq4(l:List UInt8)(c:UInt8):digV (l++[c])=10*digV l+(c.toNat-48):=by simp[digV]
theorem qq5 : ∀ (r:List UInt8) (v:Nat),v<=r.foldl (fun v c=>10*v+(c.toNat-48)) v
 |[],v=>Wj v
 |c::r,v=>Yd (by omega) (qq5 r (10*v+(c.toNat-48)))
theorem qq6(l r:List UInt8):digV l<=digV (l++r):=by
 unfold digV
 rw[List.foldl_append]
 exact qq5 r _
theorem qj0 {s:ByteArray} (hs : ∀ c∈s.data.toList,qaq c=true) (hl:s.size<2 ^ 40) : ∀ (m i:Nat),i+m=s.size->digV (s.data.toList.take i)<=2147483647 ->
  Z tR (.loop 0 F195l0 [(0,.str s),(3,.int (digV (s.data.toList.take i))),(4,.int i)] []) =
   some (if 2147483647<digV s.data.toList then .out .ret [(2,.int (-1))] [] else .out (.exit 0) [(0,.str s),(3,.int (digV s.data.toList)),(4,.int s.size),(8,.bool false)] [])
 |0,i,hi,hn=>by
  obtain rfl:i=s.size:=by omega
  have ht:s.data.toList.take s.size=s.data.toList:=Wy (by rw[WC]; exact Wj _)
  rw[ht] at hn ⊢
  rw[if_neg (by omega),qaa]
  simp[qab,qg2,V.len]
 |m+1,i,hi,hn=>by
  have hil:i<s.size:=by omega
  obtain⟨c,h1,h2⟩:=qiY hil
  have hc:=hs c (WQ h2)
  simp only[qaq,Wq,decide_eq_true_eq] at hc
  have ht:s.data.toList.take (i+1)=s.data.toList.take i++[c]:=by
   rw[List.take_add_one,h2]; rfl
  have hsn:digV (s.data.toList.take (i+1))=10*digV (s.data.toList.take i)+(c.toNat-48):=by rw[ht,qq4]
  have hlt:(i:Int)<s.size:=by omega
  have w1:=qai ((i:Int)+1) (by omega)
  have w2:=qai (10*(digV (s.data.toList.take i):Int)) (by omega)
  have w3:=qai (c.toNat:Int) (by omega)
  have w4:=qai (10*(digV (s.data.toList.take i):Int)+c.toNat) (by omega)
  have w5:IntKind.i64.wrap (10*(digV (s.data.toList.take i):Int)+c.toNat-48)=(digV (s.data.toList.take (i+1)):Int):=by
   rw[qai _ (by omega),hsn]; omega
  rw[qaa]
  by_cases hbig:2147483647<digV (s.data.toList.take (i+1))
  ·have hall:2147483647<digV s.data.toList:=by
    have:=qq6 (s.data.toList.take (i+1)) (s.data.toList.drop (i+1))
    rw[Yh] at this
    omega
   have hb : ¬ (digV (s.data.toList.take (i+1)):Int)<=2147483647:=by omega
   have hb':(2147483647:Int)<digV (s.data.toList.take (i+1)):=by omega
   rw[if_pos hall]
   simp[qab,qg2,V.len,h1,hlt,w1,w2,w3,w4,w5,hb,hb',qoL]
  ·have hb : ¬ (2147483647:Int)<digV (s.data.toList.take (i+1)):=by omega
   have ih:=qj0 hs hl m (i+1) (by omega) (by omega)
   simp only[WE,Wt] at ih
   simp[qab,qg2,V.len,h1,hlt,w1,w2,w3,w4,w5,hb,ih,qoL]
def qxZ(l:List UInt8):Int:=if 2147483647<digV l then -1 else digV l
theorem qw5{s:ByteArray}(hs : ∀ c∈s.data.toList,qaq c=true)(hl:s.size<2 ^ 40):Z tR (.call 195 [.str s] [])=some (.ret (.int (qxZ s.data.toList)) []):=by
 refine qac (pf:=F195) rfl rfl ?_
 have z:=qj0 hs hl s.size 0 (by omega) (by simp[digV])
 simp only[List.take_zero,Yo,show digV []=0 from rfl] at z
 unfold qxZ
 by_cases h:2147483647<digV s.data.toList
 ·simp[F195,z,h]
 ·simp[F195,z,h]
end
section
open F
def cmtL:List UInt8->Nat
 |[]=>0
 |b::r=>if b.toNat=10 then 0 else cmtL r+1
theorem qro : ∀ l,cmtL l<=l.length
 |[]=>by simp[cmtL]
 |b::r=>by
  have:=qro r
  simp only[cmtL,We]
  split<;>omega
theorem qj6 : ∀ l:List UInt8,qaD true l=cmtL l+qaD false (l.drop (cmtL l))
 |[]=>by simp[qaD,cmtL]
 |b::r=>by
  have ih:=qj6 r
  simp only[cmtL]
  by_cases h:b.toNat=10
  ·simp[qaD,h]
  ·rw[if_neg h,Ye]
   simp only[qaD,if_neg h,true_or,if_true,ih]
   omega
theorem qrp{b:UInt8}{r:List UInt8}(h:b.toNat=35):qaD false (b::r)=cmtL (b::r)+qaD false ((b::r).drop (cmtL (b::r))):=by
 have h10 : ¬ b.toNat=10:=by omega
 simp only[cmtL,if_neg h10,Ye]
 simp only[qaD,if_neg h10,if_pos h,qj6 r]
 have : ¬ (false=true\/b.toNat=32\/b.toNat=9):=by
  rintro (h|h|h)
  ·cases h
  ·omega
  ·omega
 rw[if_neg this]
 omega
theorem qd0{s:ByteArray}{i:Nat}{c:UInt8}(h:s.data.toList[i]?=some c):(byl s).drop i=c::(byl s).drop (i+1):=by
 have hi:=(Wd.1 h)
 obtain⟨h1,h2⟩:=hi
 rw[<- h2]
 exact Ww h1
theorem qoc (s:ByteArray) (hl:s.size<2 ^ 40) : ∀ (m i:Nat) (ex:Fr),i+m=s.size->(ex=[]\/ex=[(12,.bool true)]) ->
  Z tR (.loop 0 F170l1 ((0,.str s)::(1,.int i)::ex) [])=some (.out (.exit 2) [(0,.str s),(1,.int ((i+cmtL ((byl s).drop i):Nat))),(22,.bool false)] [])
 |0,i,ex,hi,hex=>by
  obtain rfl:i=s.size:=by omega
  have hd:(byl s).drop s.size=[]:=WM (by rw[qau]; exact Wj _)
  rw[qaa,hd]
  rcases hex with rfl|rfl<;>simp[qab,qg0,V.len,cmtL]
 |m+1,i,ex,hi,hex=>by
  obtain⟨c,h1,h2⟩:=qiY (s:=s) (i:=i) (by omega)
  have hd:=qd0 h2
  have hlt:(i:Int)<s.size:=by omega
  have w1:=qai ((i:Int)+1) (by omega)
  rw[qaa,hd]
  by_cases h:c.toNat=10
  ·rcases hex with rfl|rfl<;>simp[qab,qg0,V.len,cmtL,h1,hlt,h]
  ·have h' : ¬ (c.toNat:Int)=10:=by omega
   have ih:=qoc s hl m (i+1) [] (by omega) (.inl rfl)
   simp only[WE,Wt] at ih
   rcases hex with rfl|rfl
   all_goals
    simp[qab,qg0,V.len,cmtL,h1,hlt,h,h',w1,ih]
    omega
theorem qi5 (s:ByteArray) (hl:s.size<2 ^ 40) : ∀ (m i:Nat) (ex:Fr),s.size-i<=m->i<=s.size->(ex=[]\/ex=[(22,.bool false)]) ->
  ∃ t v,Z tR (.loop 0 F170l0 ((0,.str s)::(1,.int i)::ex) [])=some (.out (.exit 0) [(0,.str s),(1,.int ((i+qaD false ((byl s).drop i):Nat))),(t,.bool v)] [])
 |m,i,ex,hm,hi,hex=>by
  by_cases hend:i=s.size
  ·subst hend
   have hd:(byl s).drop s.size=[]:=WM (by rw[qau]; exact Wj _)
   refine⟨8,false,?_⟩
   rw[qaa,hd]
   rcases hex with rfl|rfl<;>simp[qab,qfk,V.len,qaD]
  ·cases m with
   |zero=>omega
   |succ m=>
    obtain⟨c,h1,h2⟩:=qiY (s:=s) (i:=i) (by omega)
    have hd:=qd0 h2
    have hlt:(i:Int)<s.size:=by omega
    have w1:=qai ((i:Int)+1) (by omega)
    by_cases h35:c.toNat=35
    ·have zc:=qoc s hl (s.size-i) i [(12,.bool true)] (by omega) (.inr rfl)
     have hle:=qro ((byl s).drop i)
     rw[WY,qau] at hle
     have hpos:0<cmtL ((byl s).drop i):=by
      rw[hd]; simp only[cmtL]; rw[if_neg (by omega)]; omega
     obtain⟨t,v,ih⟩:=qi5 s hl m (i+cmtL ((byl s).drop i)) [(22,.bool false)] (by omega) (by omega) (.inr rfl)
     refine⟨t,v,?_⟩
     have hsk:qaD false ((byl s).drop i)=cmtL ((byl s).drop i)+qaD false ((byl s).drop (i+cmtL ((byl s).drop i))):=by
      rw[<- List.drop_drop,hd]
      exact qrp h35
     rw[hsk,<- Nat.add_assoc,<- ih,qaa]
     generalize cmtL ((byl s).drop i)=q at zc
     rcases hex with rfl|rfl<;>simp[qab,qfk,V.len,h1,hlt,h35,zc]
    ·have h35' : ¬ (c.toNat:Int)=35:=by omega
     by_cases hw:c.toNat=32\/c.toNat=9\/c.toNat=10
     ·obtain⟨t,v,ih⟩:=qi5 s hl m (i+1) [] (by omega) (by omega) (.inl rfl)
      refine⟨t,v,?_⟩
      have hsk:qaD false ((byl s).drop i)=1+qaD false ((byl s).drop (i+1)):=by
       rw[hd]
       simp only[qaD]
       rcases hw with h|h|h
       ·simp[h]; omega
       ·simp[h]; omega
       ·simp[h]; omega
      rw[hsk,<- Nat.add_assoc,<- ih,qaa]
      rcases hw with h|h|h<;>rcases hex with rfl|rfl<;>simp[qab,qfk,V.len,h1,hlt,h,w1]
     ·simp only[not_or] at hw
      have h32 : ¬ (c.toNat:Int)=32:=by omega
      have h9 : ¬ (c.toNat:Int)=9:=by omega
      have h10 : ¬ (c.toNat:Int)=10:=by omega
      have hsk:qaD false ((byl s).drop i)=0:=by
       rw[hd]
       simp only[qaD]
       simp[hw.1,hw.2.1,hw.2.2,h35]
      refine⟨40,true,?_⟩
      rw[hsk,qaa]
      rcases hex with rfl|rfl<;>simp[qab,qfk,V.len,h1,hlt,h35',h32,h9,h10]
theorem quL(s:ByteArray)(hl:s.size<2 ^ 40){i:Nat}(hi:i<=s.size):Z tR (.call 170 [.str s,.int i] [])=some (.ret (.int ((i+qaD false ((byl s).drop i):Nat))) []):=by
 refine qac (pf:=F170) rfl rfl ?_
 obtain⟨t,v,z⟩:=qi5 s hl (s.size-i) i [] (Wj _) hi (.inl rfl)
 simp[F170,z]
end
end Go.Pm
