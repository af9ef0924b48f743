/- Chapter 15: Verify and Depth of the program. -/
import Derived.Test.YtpakkndfjpimgaaGreatDoorPmAL
import Derived.Test.YtpakkndfjpimgaaGreatDoorPmYh
import Derived.Test.YtpakkndfjpimgaaGreatDoorPmR
import Derived.Test.YtpakkndfjpimgaaGreatDoorPmF4
set_option linter.unusedSimpArgs false
set_option linter.unusedVariables false
namespace Go.Pm
section
open F Gr
open Classical in
noncomputable def qdM(c:Cd)(e:Int):Bool:=decide (qpX c e.toNat)
open Classical in
noncomputable def qhN(c:Cd)(e:Int):Bool:=decide (∃ D m,CF c e.toNat D/\Most c e.toNat D m/\m<=16)
noncomputable def qpx(c:Cd):List Int->Int->Int
 |[],acc=>acc
 |e::r,acc=>if e<0 then qpx c r acc else if qdM c e then 14 else qpx c r (if qhN c e then acc else 15)
def okI(c:Cd)(i:Nat):Bool:=qdO (opA c i)&&qvG (opA c i) (nA c i) c.length
def okC(c:Cd):Nat->Nat->Bool
 |0,_=>true
 |m+1,i=>okI c i&&okC c m (i+1)
def okE(c:Cd)(e:Int):Bool:=decide (-1<=e)&&decide (e<c.length)
noncomputable def qiv(c:Cd)(e0 e1 e2:Int):Int:=
 if 400<c.length then 2 else if okC c c.length 0&&(okE c e0&&(okE c e1&&okE c e2)) then qpx c [e0,e1,e2] 0 else 14
theorem qkw{c:Cd} : ∀ (m i:Nat),okC c m i=true -> ∀ k,i<=k->k<i+m->okI c k=true
 |0,i,_,k,h1,h2=>by omega
 |m+1,i,h,k,h1,h2=>by
  simp only[okC,Wv] at h
  by_cases hk:k=i
  ·rw[hk]; exact h.1
  ·exact qkw m (i+1) h.2 k (by omega) (by omega)
theorem qqb{c:Cd}{i:Nat}(h:okI c i=true):(1<=opA c i/\opA c i<=21)/\(opA c i=18\/opA c i=19->0<=nA c i/\nA c i<c.length):=by
 simp only[okI,Wv,qdO,decide_eq_true_eq] at h
 refine⟨h.1,fun hj=>?_⟩
 have h2:=h.2
 unfold qvG at h2
 rw[if_neg (by omega),if_neg (by omega),if_neg (by omega),if_neg (by omega),if_pos hj] at h2
 simp only[Wv,decide_eq_true_eq] at h2
 omega
theorem qnv{c:Cd}(h:okC c c.length 0=true):qrR c:=by
 intro i hi j hj
 have:=(qqb (qkw _ _ h i (by omega) (by omega))).2
 unfold qgM at hj
 split at hj
 ·simp at hj
 ·split at hj
  ·simp only[Wg] at hj
   have:=this (.inl (by assumption))
   omega
  ·split at hj
   ·simp only[Wu,Ww,or_false] at hj
    have:=this (.inr (by assumption))
    omega
   ·simp only[Wg] at hj; omega
theorem qiw{c:Cd}{e:Nat}{fl br:Bool}{dp:Int}(h:AnaRes c e fl br dp):fl=qdM c e:=by
 have:=h.fal
 unfold qdM
 simp only[Int.toNat_natCast]
 cases fl with
 |true=>simp at this; simp[this]
 |false=>simp at this; simp[this]
theorem qkx{c:Cd}{e:Nat}{fl br:Bool}{dp:Int}(h:AnaRes c e fl br dp):(!br&&decide (dp<=16))=qhN c e:=by
 unfold qhN
 simp only[Int.toNat_natCast]
 cases br with
 |true=>
  have : ¬ ∃ D,CF c e D:=fun hh=>by have:=h.brk.2 hh; cases this
  simp only[Bool.not_true,Bool.false_and]
  symm
  simp only[decide_eq_false_iff_not]
  rintro ⟨D,m,h1,_⟩
  exact this ⟨D,h1⟩
 |false=>
  obtain⟨D,hD⟩:=h.brk.1 rfl
  simp only[Bool.not_false,Bool.true_and,decide_eq_decide]
  constructor
  ·intro hd; exact⟨D,dp,hD,h.most D hD,hd⟩
  ·rintro ⟨D',m,h1,h2,h3⟩
   rw[(h.most D' h1).unique h2]; exact h3
def vS(d:D)(e0 e1 e2:Int):S:=[.cells [.dat d,.int e0,.int e1,.int e2]]
def qrS(d:D)(n i:Nat):Fr:=[(1,.ptr 0 0),(16,.dat d),(17,.int n),(18,.int i)]
section
variable{d:D}{c:Cd}{e0 e1 e2:Int}
theorem qvn (hd:IsCode d c) (hcl:c.length<2^27) (m:Nat) : ∀ i:Nat,i+m=c.length ->
  (okC c m i=true->Z qad (.loop 0 F125l0 (qrS d c.length i) (vS d e0 e1 e2))=some (.out (.exit 0) (qrS d c.length c.length++[(19,.bool false)]) (vS d e0 e1 e2))) /\
  (okC c m i=false -> ∃ σ,Z qad (.loop 0 F125l0 (qrS d c.length i) (vS d e0 e1 e2))=some (.out .ret [(2,.int 14)] σ)):=by
 have ho:=hd.one
 have hc:=hd.cells
 have hlen:=hd.len
 induction m with
 |zero=>
  intro i hi
  have:i=c.length:=by omega
  subst this
  refine⟨fun _=>?_,fun h=>by simp[okC] at h⟩
  rw[qaa]
  simp[qac,qgT,qrS,vS,Wa,ho,hc]
 |succ m ih=>
  intro i hi
  obtain⟨ea,eb⟩:=ih (i+1) (by omega)
  have hi':(i:Int)<c.length:=by omega
  have hat:=hd.at_ i (by omega) (by omega)
  rw[show ((i:Int)).toNat=i by omega] at hat
  have hcut:=qnO c i (by omega)
  have w1:=qai ((i:Int)+1) (by omega)
  have zv:=qvI (opA c i) (nA c i) c.length (by omega)
  have hI:(qdO (opA c i)&&qvG (opA c i) (nA c i) c.length)=okI c i:=rfl
  rw[hI] at zv
  simp only[okC]
  cases hok:okI c i with
  |false=>
   rw[hok] at zv
   refine⟨fun h=>by simp at h,fun _=>?_⟩
   rw[qaa]
   simp[qac,qgT,qrS,vS,Wa,hlen,hi',hat,hcut,zv,ho,hc]
  |true=>
   rw[hok] at zv
   rw[Bool.true_and]
   have e2:Z qad (.loop 0 F125l0 (qrS d c.length i) (vS d e0 e1 e2))=Z qad (.loop 0 F125l0 (qrS d c.length (i+1)) (vS d e0 e1 e2)):=by
    rw[qaa]
    simp[qac,qgT,qrS,vS,Wa,hlen,hi',hat,hcut,zv,w1,ho,hc]
    refine qag ?_
    simp[Wa,ho,hc]
   rw[e2]
   exact⟨ea,eb⟩
def qix(e0 e1 e2 i:Int):Fr:=[(1,.ptr 0 0),(30,.dat (.agg [.lit (.int .i64 e0),.lit (.int .i64 e1),.lit (.int .i64 e2)])),(31,.int i)]
def qeR(acc e0 e1 e2 i:Int):Fr:=[(1,.ptr 0 0),(7,.int acc),(45,.dat (.agg [.lit (.int .i64 e0),.lit (.int .i64 e1),.lit (.int .i64 e2)])),(46,.int i)]
theorem qCj(hd:IsCode d c)(hcl:c.length<2^27):Z qad (.loop 0 F125l1 (qix e0 e1 e2 0) (vS d e0 e1 e2))=if okE c e0 then Z qad (.loop 0 F125l1 (qix e0 e1 e2 1) (vS d e0 e1 e2)) else some (.out .ret [(2,.int 14)] (vS d e0 e1 e2)):=by
 have ho:=hd.one
 have hc:=hd.cells
 have hlen:=hd.len
 have w:IntKind.i64.wrap 1=1:=rfl
 unfold okE
 by_cases a:e0 < -1
 ·have a' : ¬ -1<=e0:=by omega
  rw[qaa]
  simp[qac,qbZ,qix,vS,Wa,hlen,a,a',ho,hc]
 ·have a' : -1<=e0:=by omega
  by_cases b:(c.length:Int)<=e0
  ·have b' : ¬ e0<c.length:=by omega
   rw[qaa]
   simp[qac,qbZ,qix,vS,Wa,hlen,a,a',b,b',ho,hc]
  ·have b':e0<c.length:=by omega
   rw[qaa]
   simp[qac,qbZ,qix,vS,Wa,hlen,a,a',b,b',w,ho,hc]
theorem qAW(hd:IsCode d c)(acc:Int)(a:e0<0):Z qad (.loop 0 F125l2 (qeR acc e0 e1 e2 0) (vS d e0 e1 e2))=Z qad (.loop 0 F125l2 (qeR acc e0 e1 e2 1) (vS d e0 e1 e2)):=by
 have ho:=hd.one
 have hc:=hd.cells
 have w:IntKind.i64.wrap 1=1:=rfl
 rw[qaa]
 simp[qac,qbr,qeR,vS,Wa,a,w,ho,hc]
theorem qCk (hd:IsCode d c) (hf:qrR c) (hops : ∀ i,i<c.length->1<=opA c i/\opA c i<=21) (hcl:c.length<2^27) (he:e0<c.length) (acc:Int) (a : ¬ e0<0) :
  (qdM c e0=true -> ∃ σ,Z qad (.loop 0 F125l2 (qeR acc e0 e1 e2 0) (vS d e0 e1 e2))=some (.out .ret [(2,.int 14)] σ)) /\
  (qdM c e0=false->Z qad (.loop 0 F125l2 (qeR acc e0 e1 e2 0) (vS d e0 e1 e2))=Z qad (.loop 0 F125l2 (qeR (if qhN c e0 then acc else 15) e0 e1 e2 1) (vS d e0 e1 e2))):=by
 have ho:=hd.one
 have hc:=hd.cells
 have hlen:=hd.len
 have w:IntKind.i64.wrap 1=1:=rfl
 obtain⟨fl,br,dp,h1,h2⟩:=qtF (e0:=e0) (e1:=e1) (e2:=e2) hd hf hops hcl (e:=e0.toNat) (by omega)
 have h3:=qiw h1
 have h4:=qkx h1
 rw[show ((e0.toNat:Nat):Int)=e0 by omega] at h2 h3 h4
 have h5:=qoo fl br dp
 rw[h4] at h5
 simp only[pgD] at h2
 rw[<- h3]
 cases fl with
 |true=>
  refine⟨fun _=>?_,fun h=>by simp at h⟩
  rw[qaa]
  simp[qac,qbr,qeR,vS,Wa,a,h2,ho,hc]
 |false=>
  refine⟨fun h=>by simp at h,fun _=>?_⟩
  cases hs:qhN c e0 with
  |true=>
   rw[hs] at h5
   rw[qaa]
   simp[qac,qbr,qeR,vS,Wa,a,h2,h5,w,ho,hc]
   refine qag ?_
   simp[Wa,ho,hc]
  |false=>
   rw[hs] at h5
   rw[qaa]
   simp[qac,qbr,qeR,vS,Wa,a,h2,h5,w,ho,hc]
   refine qag ?_
   simp[Wa,ho,hc]
theorem qCl(hd:IsCode d c)(hcl:c.length<2^27):Z qad (.loop 0 F125l1 (qix e0 e1 e2 1) (vS d e0 e1 e2))=if okE c e1 then Z qad (.loop 0 F125l1 (qix e0 e1 e2 2) (vS d e0 e1 e2)) else some (.out .ret [(2,.int 14)] (vS d e0 e1 e2)):=by
 have ho:=hd.one
 have hc:=hd.cells
 have hlen:=hd.len
 have w:IntKind.i64.wrap 2=2:=rfl
 unfold okE
 by_cases a:e1 < -1
 ·have a' : ¬ -1<=e1:=by omega
  rw[qaa]
  simp[qac,qbZ,qix,vS,Wa,hlen,a,a',ho,hc]
 ·have a' : -1<=e1:=by omega
  by_cases b:(c.length:Int)<=e1
  ·have b' : ¬ e1<c.length:=by omega
   rw[qaa]
   simp[qac,qbZ,qix,vS,Wa,hlen,a,a',b,b',ho,hc]
  ·have b':e1<c.length:=by omega
   rw[qaa]
   simp[qac,qbZ,qix,vS,Wa,hlen,a,a',b,b',w,ho,hc]
theorem qAX(hd:IsCode d c)(acc:Int)(a:e1<0):Z qad (.loop 0 F125l2 (qeR acc e0 e1 e2 1) (vS d e0 e1 e2))=Z qad (.loop 0 F125l2 (qeR acc e0 e1 e2 2) (vS d e0 e1 e2)):=by
 have ho:=hd.one
 have hc:=hd.cells
 have w:IntKind.i64.wrap 2=2:=rfl
 rw[qaa]
 simp[qac,qbr,qeR,vS,Wa,a,w,ho,hc]
theorem qCm (hd:IsCode d c) (hf:qrR c) (hops : ∀ i,i<c.length->1<=opA c i/\opA c i<=21) (hcl:c.length<2^27) (he:e1<c.length) (acc:Int) (a : ¬ e1<0) :
  (qdM c e1=true -> ∃ σ,Z qad (.loop 0 F125l2 (qeR acc e0 e1 e2 1) (vS d e0 e1 e2))=some (.out .ret [(2,.int 14)] σ)) /\
  (qdM c e1=false->Z qad (.loop 0 F125l2 (qeR acc e0 e1 e2 1) (vS d e0 e1 e2))=Z qad (.loop 0 F125l2 (qeR (if qhN c e1 then acc else 15) e0 e1 e2 2) (vS d e0 e1 e2))):=by
 have ho:=hd.one
 have hc:=hd.cells
 have hlen:=hd.len
 have w:IntKind.i64.wrap 2=2:=rfl
 obtain⟨fl,br,dp,h1,h2⟩:=qtF (e0:=e0) (e1:=e1) (e2:=e2) hd hf hops hcl (e:=e1.toNat) (by omega)
 have h3:=qiw h1
 have h4:=qkx h1
 rw[show ((e1.toNat:Nat):Int)=e1 by omega] at h2 h3 h4
 have h5:=qoo fl br dp
 rw[h4] at h5
 simp only[pgD] at h2
 rw[<- h3]
 cases fl with
 |true=>
  refine⟨fun _=>?_,fun h=>by simp at h⟩
  rw[qaa]
  simp[qac,qbr,qeR,vS,Wa,a,h2,ho,hc]
 |false=>
  refine⟨fun h=>by simp at h,fun _=>?_⟩
  cases hs:qhN c e1 with
  |true=>
   rw[hs] at h5
   rw[qaa]
   simp[qac,qbr,qeR,vS,Wa,a,h2,h5,w,ho,hc]
   refine qag ?_
   simp[Wa,ho,hc]
  |false=>
   rw[hs] at h5
   rw[qaa]
   simp[qac,qbr,qeR,vS,Wa,a,h2,h5,w,ho,hc]
   refine qag ?_
   simp[Wa,ho,hc]
theorem qCn(hd:IsCode d c)(hcl:c.length<2^27):Z qad (.loop 0 F125l1 (qix e0 e1 e2 2) (vS d e0 e1 e2))=if okE c e2 then Z qad (.loop 0 F125l1 (qix e0 e1 e2 3) (vS d e0 e1 e2)) else some (.out .ret [(2,.int 14)] (vS d e0 e1 e2)):=by
 have ho:=hd.one
 have hc:=hd.cells
 have hlen:=hd.len
 have w:IntKind.i64.wrap 3=3:=rfl
 unfold okE
 by_cases a:e2 < -1
 ·have a' : ¬ -1<=e2:=by omega
  rw[qaa]
  simp[qac,qbZ,qix,vS,Wa,hlen,a,a',ho,hc]
 ·have a' : -1<=e2:=by omega
  by_cases b:(c.length:Int)<=e2
  ·have b' : ¬ e2<c.length:=by omega
   rw[qaa]
   simp[qac,qbZ,qix,vS,Wa,hlen,a,a',b,b',ho,hc]
  ·have b':e2<c.length:=by omega
   rw[qaa]
   simp[qac,qbZ,qix,vS,Wa,hlen,a,a',b,b',w,ho,hc]
theorem qAY(hd:IsCode d c)(acc:Int)(a:e2<0):Z qad (.loop 0 F125l2 (qeR acc e0 e1 e2 2) (vS d e0 e1 e2))=Z qad (.loop 0 F125l2 (qeR acc e0 e1 e2 3) (vS d e0 e1 e2)):=by
 have ho:=hd.one
 have hc:=hd.cells
 have w:IntKind.i64.wrap 3=3:=rfl
 rw[qaa]
 simp[qac,qbr,qeR,vS,Wa,a,w,ho,hc]
theorem qCo (hd:IsCode d c) (hf:qrR c) (hops : ∀ i,i<c.length->1<=opA c i/\opA c i<=21) (hcl:c.length<2^27) (he:e2<c.length) (acc:Int) (a : ¬ e2<0) :
  (qdM c e2=true -> ∃ σ,Z qad (.loop 0 F125l2 (qeR acc e0 e1 e2 2) (vS d e0 e1 e2))=some (.out .ret [(2,.int 14)] σ)) /\
  (qdM c e2=false->Z qad (.loop 0 F125l2 (qeR acc e0 e1 e2 2) (vS d e0 e1 e2))=Z qad (.loop 0 F125l2 (qeR (if qhN c e2 then acc else 15) e0 e1 e2 3) (vS d e0 e1 e2))):=by
 have ho:=hd.one
 have hc:=hd.cells
 have hlen:=hd.len
 have w:IntKind.i64.wrap 3=3:=rfl
 obtain⟨fl,br,dp,h1,h2⟩:=qtF (e0:=e0) (e1:=e1) (e2:=e2) hd hf hops hcl (e:=e2.toNat) (by omega)
 have h3:=qiw h1
 have h4:=qkx h1
 rw[show ((e2.toNat:Nat):Int)=e2 by omega] at h2 h3 h4
 have h5:=qoo fl br dp
 rw[h4] at h5
 simp only[pgD] at h2
 rw[<- h3]
 cases fl with
 |true=>
  refine⟨fun _=>?_,fun h=>by simp at h⟩
  rw[qaa]
  simp[qac,qbr,qeR,vS,Wa,a,h2,ho,hc]
 |false=>
  refine⟨fun h=>by simp at h,fun _=>?_⟩
  cases hs:qhN c e2 with
  |true=>
   rw[hs] at h5
   rw[qaa]
   simp[qac,qbr,qeR,vS,Wa,a,h2,h5,w,ho,hc]
   refine qag ?_
   simp[Wa,ho,hc]
  |false=>
   rw[hs] at h5
   rw[qaa]
   simp[qac,qbr,qeR,vS,Wa,a,h2,h5,w,ho,hc]
   refine qag ?_
   simp[Wa,ho,hc]
theorem qCp(hd:IsCode d c):Z qad (.loop 0 F125l1 (qix e0 e1 e2 3) (vS d e0 e1 e2))=some (.out (.exit 2) (qix e0 e1 e2 3++[(32,.bool false)]) (vS d e0 e1 e2)):=by
 rw[qaa]
 simp[qac,qbZ,qix,vS,Wa,hd.one,hd.cells]
theorem qCq(hd:IsCode d c)(acc:Int):Z qad (.loop 0 F125l2 (qeR acc e0 e1 e2 3) (vS d e0 e1 e2))=some (.out (.exit 4) (qeR acc e0 e1 e2 3++[(47,.bool false)]) (vS d e0 e1 e2)):=by
 rw[qaa]
 simp[qac,qbr,qeR,vS,Wa,hd.one,hd.cells]
theorem qe4(c:Cd)(e:Int)(r:List Int)(acc:Int):qpx c (e::r) acc=if e<0 then qpx c r acc else if qdM c e then 14 else qpx c r (if qhN c e then acc else 15):=rfl
def qz2(d:D)(e0 e1 e2:Int)(z:Option Res)(v:Int):Prop:=(v=14 /\ ∃ σ,z=some (.out .ret [(2,.int 14)] σ))\/z=some (.out (.exit 4) (qeR v e0 e1 e2 3++[(47,.bool false)]) (vS d e0 e1 e2))
theorem qyr (hd:IsCode d c) (hf:qrR c) (hops : ∀ i,i<c.length->1<=opA c i/\opA c i<=21) (hcl:c.length<2^27) (h0:e0<c.length) (h1:e1<c.length) (h2:e2<c.length) :
  qz2 d e0 e1 e2 (Z qad (.loop 0 F125l2 (qeR 0 e0 e1 e2 0) (vS d e0 e1 e2))) (qpx c [e0,e1,e2] 0):=by
 have r3 : ∀ acc,qz2 d e0 e1 e2 (Z qad (.loop 0 F125l2 (qeR acc e0 e1 e2 3) (vS d e0 e1 e2))) (qpx c [] acc):=fun acc => .inr (qCq hd acc)
 have r2 : ∀ acc,qz2 d e0 e1 e2 (Z qad (.loop 0 F125l2 (qeR acc e0 e1 e2 2) (vS d e0 e1 e2))) (qpx c [e2] acc):=fun acc=>by
  rw[qe4]
  by_cases a:e2<0
  ·rw[if_pos a,qAY hd acc a]; exact r3 _
  ·rw[if_neg a]
   obtain⟨g1,g2⟩:=qCo (e0:=e0) (e1:=e1) hd hf hops hcl h2 acc a
   cases hfa:qdM c e2 with
   |true=>exact .inl ⟨rfl,g1 hfa⟩
   |false=>rw[g2 hfa]; exact r3 _
 have r1 : ∀ acc,qz2 d e0 e1 e2 (Z qad (.loop 0 F125l2 (qeR acc e0 e1 e2 1) (vS d e0 e1 e2))) (qpx c [e1,e2] acc):=fun acc=>by
  rw[qe4]
  by_cases a:e1<0
  ·rw[if_pos a,qAX hd acc a]; exact r2 _
  ·rw[if_neg a]
   obtain⟨g1,g2⟩:=qCm (e0:=e0) (e2:=e2) hd hf hops hcl h1 acc a
   cases hfa:qdM c e1 with
   |true=>exact .inl ⟨rfl,g1 hfa⟩
   |false=>rw[g2 hfa]; exact r2 _
 rw[qe4]
 by_cases a:e0<0
 ·rw[if_pos a,qAW hd 0 a]; exact r1 _
 ·rw[if_neg a]
  obtain⟨g1,g2⟩:=qCk (e1:=e1) (e2:=e2) hd hf hops hcl h0 0 a
  cases hfa:qdM c e0 with
  |true=>exact .inl ⟨rfl,g1 hfa⟩
  |false=>rw[g2 hfa]; exact r1 _
theorem qsr(hd:IsCode d c)(hcl:c.length<2^27):Z qad (.call 125 [pgD d e0 e1 e2] [])=some (.ret (.int (qiv c e0 e1 e2)) []):=by
 have ho:=hd.one
 have hc:=hd.cells
 have hlen:=hd.len
 have hl0:=qvn (e0:=e0) (e1:=e1) (e2:=e2) hd hcl c.length 0 (by omega)
 refine qab (pf:=F125) rfl rfl ?_
 unfold qiv
 by_cases h4:400<c.length
 ·have h4':(400:Int)<c.length:=by omega
  rw[if_pos h4]
  simp[F125,pgD,Wa,hlen,ho,hc,h4']
 ·have h4' : ¬ (400:Int)<c.length:=by omega
  rw[if_neg h4]
  cases hok:okC c c.length 0 with
  |false=>
   obtain⟨σ,hl0⟩:=hl0.2 hok
   simp only[qrS,vS] at hl0
   rw[show ((0:Nat):Int)=0 from rfl] at hl0
   simp[F125,pgD,Wa,hlen,ho,hc,h4',hl0]
  |true=>
   have hl0:=hl0.1 hok
   simp only[qrS,vS] at hl0
   rw[show ((0:Nat):Int)=0 from rfl] at hl0
   rw[Bool.true_and]
   have q0:=qCj (e0:=e0) (e1:=e1) (e2:=e2) hd hcl
   have q1:=qCl (e0:=e0) (e1:=e1) (e2:=e2) hd hcl
   have q2:=qCn (e0:=e0) (e1:=e1) (e2:=e2) hd hcl
   have q3:=qCp (e0:=e0) (e1:=e1) (e2:=e2) hd
   cases a0:okE c e0 with
   |false=>
    rw[a0] at q0
    simp only[qix,vS,Wo,if_false] at q0
    simp[F125,pgD,Wa,hlen,ho,hc,h4',hl0,q0]
   |true=>
    rw[a0,if_pos rfl] at q0
    rw[Bool.true_and]
    cases a1:okE c e1 with
    |false=>
     rw[q1,a1] at q0
     simp only[qix,vS,Wo,if_false] at q0
     simp[F125,pgD,Wa,hlen,ho,hc,h4',hl0,q0]
    |true=>
     rw[q1,a1,if_pos rfl] at q0
     rw[Bool.true_and]
     cases a2:okE c e2 with
     |false=>
      rw[q2,a2] at q0
      simp only[qix,vS,Wo,if_false] at q0
      simp[F125,pgD,Wa,hlen,ho,hc,h4',hl0,q0]
     |true=>
      rw[q2,a2,if_pos rfl,q3] at q0
      have b0:e0<c.length:=by unfold okE at a0; simp at a0; omega
      have b1:e1<c.length:=by unfold okE at a1; simp at a1; omega
      have b2:e2<c.length:=by unfold okE at a2; simp at a2; omega
      have z:=qyr (e0:=e0) (e1:=e1) (e2:=e2) hd (qnv hok) (fun i hi=>(qqb (qkw _ _ hok i (by omega) (by omega))).1) hcl b0 b1 b2
      rw[if_pos rfl]
      rcases z with ⟨z3,σ,z1⟩|z1
      ·rw[z3]
       simp only[qix,qeR,vS] at q0 z1
       simp[F125,pgD,Wa,hlen,ho,hc,h4',hl0,q0,z1]
      ·simp only[qix,qeR,vS] at q0 z1
       simp[F125,pgD,Wa,hlen,ho,hc,h4',hl0,q0,z1]
end
end
section
open F Gr
theorem qxm(l:List ByteArray)(i:Nat)(h:i<l.length):qae 1 (.dat (qof l)) (i:Int)=some (.dat (.imm (qaV l) i)):=by
 cases l with
 |nil=>simp at h
 |cons s l=>simp only[Wf] at h; simp[qof,qae]; omega
end
section
open F Gr
inductive CodeV:V->S->Cd->Prop
 |lit (c:Cd) (h:c≠[]):CodeV (.dat (.sl (icC c) c.length true)) [] c
 |gr (c:Cd) (h:c≠[]):CodeV (.gsl (icC c) c.length 2 0) [.tip (icC c).length] c
def qyU(vs:List ByteArray)(x:V)(C:Int->Cd)(L:Nat):Prop:=Ln C L/\0<L /\
 ∀ p:Int,0<=p->p+4*L<2^40 -> ∃ v σ,CodeV v σ (C p)/\Z qad (.call 135 [x,.dat (qof vs),.int p] [])=some (.ret v σ)
inductive RowOK(vs:List ByteArray):List D->List (Int->Cd)->Nat->Prop
 |nil:RowOK vs [] [] 0
 |cons {a b c d:D} {C:Int->Cd} {L:Nat} {r:List D} {Cs:List (Int->Cd)} {M:Nat} (h:qyU vs (.dat (.agg [a,b,c,d])) C L) (hr:RowOK vs r Cs M):RowOK vs (a::b::c::d::r) (C::Cs) (L+M)
def seqC:List (Int->Cd)->Int->Cd
 |[],_=>[]
 |C::r,p=>C p++seqC r (p+(C p).length)
inductive OutV:V->S->Cd->Prop
 |nil:OutV (.dat (.lit (.slice none 0 0))) [] []
 |gr (c:Cd) (h:c≠[]):OutV (.gsl (icC c) c.length 2 0) [.tip (icC c).length] c
theorem qBe{f:Bool}{n:Nat}{cs:List D}{i:Int}(h0:0<=i)(h1:i<n):qae 4 (.dat (kd f n cs)) i=some (.dat (.imm cs (i.toNat*4))):=by
 cases n with
 |zero=>simp at h1; omega
 |succ n=>simp only[qkZ]; simp[qae,h0]; omega
theorem qua{n:Nat}(h:n<2^40):qay n 16=true:=by simp only[qay,decide_eq_true_eq]; omega
set_option maxHeartbeats 1000000
end
section
open F Gr
set_option maxHeartbeats 1000000
section
variable{vs:List ByteArray}{f:Bool}{N:Nat}{cs:List D}{p:Int}
inductive AnyV:V->S->Cd->Prop
 |lit (c:Cd) (h:c≠[]):AnyV (.dat (.sl (icC c) c.length true)) [] c
 |gr (c:Cd) (h:c≠[]):AnyV (.gsl (icC c) c.length 2 0) [.tip (icC c).length] c
 |nil:AnyV (.dat (.lit (.slice none 0 0))) [] []
theorem CodeV.any{v:V}{σ : S}{c:Cd}(h:CodeV v σ c):AnyV v σ c:=by cases h; exact .lit _ ‹_›; exact .gr _ ‹_›
theorem OutV.any{v:V}{σ : S}{c:Cd}(h:OutV v σ c):AnyV v σ c:=by cases h; exact .nil; exact .gr _ ‹_›
end
end
section
open F Gr
set_option maxHeartbeats 1000000
def qiV:Bop->Bool | .and=>true|_=>false
def qq7:Bop->Bool | .or=>true|_=>false
def qtc:Bop->Bool | .gt=>true|_=>false
def qwK:Bop->Bool | .ge=>true|_=>false
def qzl:Bop->Bool | .ne=>true|_=>false
theorem qfU(o:Bop):eqS o.str ⟨#[38,38]⟩=qiV o:=by cases o<;>kernel_rfl
theorem qji(o:Bop):eqS o.str ⟨#[124,124]⟩=qq7 o:=by cases o<;>kernel_rfl
theorem qpc(o:Bop):eqS o.str ⟨#[62]⟩=qtc o:=by cases o<;>kernel_rfl
theorem qpd(o:Bop):eqS o.str ⟨#[62,61]⟩=qwK o:=by cases o<;>kernel_rfl
theorem qpe(o:Bop):eqS o.str ⟨#[33,61]⟩=qzl o:=by cases o<;>kernel_rfl
end
section
open F Gr
set_option maxHeartbeats 1000000
@[simp] theorem qBi:eqS ⟨#[33]⟩ ⟨#[45]⟩=false:=by kernel_rfl
@[simp] theorem qBj:eqS ⟨#[45]⟩ ⟨#[45]⟩=true:=by kernel_rfl
end
section
open F Gr
set_option maxHeartbeats 1000000
section
variable{vs:List ByteArray}
def qew(vs:List ByteArray):Ss->List (Int->Cd)
 |.nil=>[]
 |.assign _ s e r=>snC (qdd vs e) (3,ixI vs s)::qew vs r
 |.store _ s a b r=>snC (sq (qdd vs a) (qdd vs b)) (5,fieldI s)::qew vs r
 |.effect _ a b r=>snC (sq (qdd vs a) (qdd vs b)) (20,0)::qew vs r
 |.stop r=>(fun _=>[(21,0)])::qew vs r
 |.cond false _ c (.block _ x (.block _ y .nil)) r=>brC (qdd vs c) (codeS vs x) (codeS vs y)::qew vs r
 |.cond true _ c (.block _ x .nil) r=>whC (qdd vs c) (codeS vs x)::qew vs r
 |_=>[]
theorem qh8(b:Ss)(p:Int):seqC (qew vs b) p=codeS vs b p:=by
 fun_induction qew vs b generalizing p with
 |case1=>rfl
 |case2 _ _ _ _ ih=>simp only[seqC,codeS,sq,ih]
 |case3 _ _ _ _ _ ih=>simp only[seqC,codeS,sq,ih]
 |case4 _ _ _ _ ih=>simp only[seqC,codeS,sq,ih]
 |case5 _ ih=>simp only[seqC,codeS,sq,ih]
 |case6 _ _ _ _ _ _ _ ih=>simp only[seqC,codeS,sq,ih]
 |case7 _ _ _ _ _ ih=>simp only[seqC,codeS,sq,ih]
 |case8 b h1 h2 h3 h4 h5 h6 h7=>
  unfold codeS
  split<;>first|rfl | (exfalso; first|exact h1 rfl|exact h2 _ _ _ _ rfl|exact h3 _ _ _ _ _ rfl|exact h4 _ _ _ _ rfl|exact h5 _ rfl|exact h6 _ _ _ _ _ _ _ rfl|exact h7 _ _ _ _ _ rfl)
end
end
section
open F
theorem qnT{a b:Ss}(ha:a.fine)(hb:b.fine):(a.app b).fine:=by
 fun_induction Ss.fine a with
 |case1=>exact hb
 |case2 _ _ _ _ ih=>exact⟨ha.1,ih ha.2⟩
 |case3 _ _ _ _ _ ih=>exact⟨ha.1,ih ha.2⟩
 |case4 _ _ _ _ ih=>exact⟨ha.1,ih ha.2⟩
 |case5 _ ih=>exact ih ha
 |case6 _ _ _ _ _ _ _ _ _ ih=>exact⟨ha.1,ha.2.1,ha.2.2.1,ih ha.2.2.2⟩
 |case7 _ _ _ _ _ _ ih=>exact⟨ha.1,ha.2.1,ih ha.2.2⟩
 |case8=>exact ha.elim
theorem qnU{a:Ss}(b:Ss)(ha:a.fine):(a.app b).cost=a.cost+b.cost:=by
 fun_induction Ss.fine a with
 |case1=>simp[Ss.app,Ss.cost]
 |case2 _ _ _ _ ih=>simp only[Ss.app,Ss.cost,ih ha.2]; omega
 |case3 _ _ _ _ _ ih=>simp only[Ss.app,Ss.cost,ih ha.2]; omega
 |case4 _ _ _ _ ih=>simp only[Ss.app,Ss.cost,ih ha.2]; omega
 |case5 _ ih=>simp only[Ss.app,Ss.cost,ih ha]; omega
 |case6 _ _ _ _ _ _ _ _ _ ih=>simp only[Ss.app,Ss.cost,ih ha.2.2.2]; omega
 |case7 _ _ _ _ _ _ ih=>simp only[Ss.app,Ss.cost,ih ha.2.2]; omega
 |case8=>exact ha.elim
theorem quf(a b:Ss):(a.app b).dp=max a.dp b.dp:=by
 induction a<;>simp_all [Ss.app,Ss.dp,Nat.max_assoc]
theorem qqS(a b:Ss):(a.app b).edp=max a.edp b.edp:=by
 induction a<;>simp_all [Ss.app,Ss.edp,Nat.max_assoc]
section
variable{xs:List Int}{i d c:Int}
abbrev z4O:Ob := .cells [.int 0,.int 0,.str ⟨#[]⟩,.dat (.lit (.slice none 0 0))]
abbrev B0(xs:List Int)(i:Int):S:=[.cells [.dat (qeA xs),.int i],z4O,.cells [.int 7,.int 0,.str ⟨#[]⟩,.dat (.lit (.slice none 0 0))]]
abbrev B1(xs:List Int)(i:Int)(pre:Fo):S:=[.cells [.dat (qeA xs),.int i],z4O,.cells [.int 7,.int 0,.str ⟨#[]⟩,.gsl pre.cells pre.len 4 3],.tip pre.cells.length]
abbrev bfr(d c:Int):Fr:=[(0,.ptr 0 0),(1,.int d),(6,.ptr 1 0),(7,.ptr 2 0),(8,.int c)]
theorem qy5:Z qad (.loop 1 F137l0 (bfr d 0) (B0 xs i))=some (.out (.exit 0) (bfr d 0++[(15,.bool false)]) (B0 xs i)):=by
 rw[qaa]
 simp[qac,qfq,Wa]
theorem qy6{pre:Fo}:Z qad (.loop 1 F137l0 (bfr d 0) (B1 xs i pre))=some (.out (.exit 0) (bfr d 0++[(15,.bool false)]) (B1 xs i pre)):=by
 rw[qaa]
 simp[qac,qfq,Wa]
theorem qws {i':Int} {k n:Int} {s:ByteArray} {f:Bool} {ks:Fo} (hc:0<c) (hc':c<100) (h:Z qad (.call 162 [.ptr 0 0,.int d] (gst xs i))=some (.ret (nd k n s f ks) (gst xs i'))) :
  Z qad (.loop 1 F137l0 (bfr d c) (B0 xs i))=Z qad (.loop 1 F137l0 (bfr d (c-1)) (B1 xs i' (.cons k n s f ks .nil))):=by
 have w1:=qai (c-1) (by omega)
 conv=>lhs; rw[qaa]
 simp[qac,qfq,hc,h,w1,qb1,qlv,qay,bfr,B1,z4O,Wa]
theorem qwt {i':Int} {k n:Int} {s:ByteArray} {f:Bool} {ks pre:Fo} (hp:pre.len<1000) (hc:0<c) (hc':c<100) (h:Z qad (.call 162 [.ptr 0 0,.int d] (gst xs i))=some (.ret (nd k n s f ks) (gst xs i'))) :
  Z qad (.loop 1 F137l0 (bfr d c) (B1 xs i pre))=Z qad (.loop 1 F137l0 (bfr d (c-1)) (B1 xs i' (pre.app (.cons k n s f ks .nil)))):=by
 have w1:=qai (c-1) (by omega)
 have r1:qay (pre.len+1) 56=true:=by simp[qay]; omega
 have hl:=qfl pre
 have hl2:=qhI pre (.cons k n s f ks .nil)
 have hl3:=qdC pre (.cons k n s f ks .nil)
 simp only[qaC,qbc,qaR,qbs] at hl2 hl3
 conv=>lhs; rw[qaa]
 simp[qac,qfq,hc,h,w1,qb1,qlv,r1,hl,hl2,hl3,bfr,B1,z4O,Wa]
theorem qqT (hS : ∀ j,0<=j/\j<=100->GS xs d j) : ∀ (m:Nat) (j:Int) (pre:Fo),m<=3->(0<=j/\j<=100)->pre.len+m<1000->0<pre.len ->
  ∃ (b:Ss) (i':Int),(b.fine/\b.dp<=d.toNat/\b.edp<=3/\b.fo.size<=m*ssz d.toNat/\Co (8*m) b.cost xs j i')/\(0<=i'/\i'<=100)/\Z qad (.loop 1 F137l0 (bfr d m) (B1 xs j pre))=some (.out (.exit 0) (bfr d 0++[(15,.bool false)]) (B1 xs i' (pre.app b.fo)))
 |0,j,pre,_,h1,hp,hp0=>⟨.nil,j,⟨trivial,WN _,WN _,by simp[Ss.fo],by show _/\_/\((0:Nat):Int)<=_; omega⟩,h1,by rw[show pre.app Ss.nil.fo=pre from qw6 pre]; exact qy6⟩
 |m+1,j,pre,hm,h1,hp,hp0=>by
  obtain⟨st,k,n,s,f,ks,i1,g1,g2,g3,g4⟩:=hS j h1
  obtain⟨b,i2,k1,k2,k3⟩:=qqT hS m i1 (pre.app (.cons k n s f ks .nil)) (by omega) g3 (by rw[qdC]; simp; omega) (by rw[qdC]; simp)
  have hstep:=qwt (d:=d) (c:=(m+1:Nat)) (by omega:pre.len<1000) (by omega) (by omega) g4
  rw[show ((m+1:Nat):Int)-1=m by omega] at hstep
  have hco:Co (8*((m+1:Nat):Int)) (st.app b).cost xs j i2:=by
   obtain⟨q1,q2,q3⟩:=g2.2.2.2.2
   obtain⟨u1,u2,u3⟩:=k1.2.2.2.2
   unfold Co
   rw[qnU b g2.1]
   omega
  refine⟨st.app b,i2,⟨qnT g2.1 k1.1,by rw[quf]; omega,by rw[qqS]; omega,by rw[qi1,qiZ,Nat.succ_mul]; omega,hco⟩,k2,?_⟩
  rw[hstep,k3,qi1,<- qrv,g1]
theorem qqU(hx : ∀ x∈xs,I64 x)(hl:xs.length<=100)(hi:0<=i/\i<=100){m:Int}(hm:0<=m)(hm4:m<=3)(hS : ∀ j,0<=j/\j<=100->GS xs d j):GK xs d m i:=by
 have n1:=qbn (i:=i) (m:=m+1) hx (qbA hl) hi (by omega)
 have l1:=qbi (i:=i) (m:=m+1) hx (by omega)
 have r1:=qav hi (qbA hl)
 have w1:=qai (m+1) (by omega)
 by_cases h0:qaA xs i (m+1)=0
 ·refine⟨.nil,_,⟨trivial,WN _,WN _,by simp[Ss.fo],by show _/\_/\((0:Nat):Int)<=_; rcases qas xs i with ⟨e1,l1⟩|⟨e1,l1⟩<;>omega⟩,r1,?_⟩
  have h:=qy5 (xs:=xs) (i:=qaE xs i) (d:=d)
  refine qab (pf:=F137) rfl rfl ?_
  simp only[bfr,Wi,Wc] at h
  simp[F137,n1,w1,h0,h,Ss.fo,Wa]
 ·obtain⟨q,hq⟩ : ∃ q:Nat,qaA xs i (m+1)=((q+1:Nat):Int):=⟨(qaA xs i (m+1)-1).toNat,by omega⟩
  obtain⟨st,k,n,s,f,ks,i1,g1,g2,g3,g4⟩:=hS _ r1
  obtain⟨b,i2,k1,k2,k3⟩:=qqT hS q i1 (.cons k n s f ks .nil) (by omega) g3 (by simp; omega) (by simp)
  have hstep:=qws (d:=d) (c:=(q+1:Nat)) (by omega) (by omega) g4
  rw[show ((q+1:Nat):Int)-1=q by omega,k3,<- g1,<- qi1,<- hq] at hstep
  have hmul:(q+1)*ssz d.toNat<=m.toNat*ssz d.toNat:=Ya _ (by omega)
  rw[Nat.succ_mul] at hmul
  have hco:Co 0 (st.app b).cost xs i i2:=by
   obtain⟨q1,q2,q3⟩:=g2.2.2.2.2
   obtain⟨u1,u2,u3⟩:=k1.2.2.2.2
   unfold Co
   rw[qnU b g2.1]
   rcases qas xs i with ⟨e1,l1⟩|⟨e1,l1⟩
   ·omega
   ·exact absurd (l1 (m+1)) h0
  refine⟨st.app b,i2,⟨qnT g2.1 k1.1,by rw[quf]; omega,by rw[qqS]; omega,by rw[qi1,qiZ]; omega,hco⟩,k2,?_⟩
  have hpos:(st.app b).fo.len≠0:=by rw[qi1,qdC,g1]; simp
  obtain⟨z,hz⟩ : ∃ z,(st.app b).fo.len=z+1:=⟨(st.app b).fo.len-1,by omega⟩
  have hg:=qfl (st.app b).fo
  refine qab (pf:=F137) rfl rfl ?_
  simp only[bfr,Wi,Wc] at hstep
  generalize (st.app b).fo=fo at *
  simp[F137,n1,w1,hstep,hz,Wa]
theorem qz9(hx : ∀ x∈xs,I64 x)(hl:xs.length<=100) : ∀ (n:Nat),n<=50->(∀ j,0<=j/\j<=100->GS xs n j)/\(∀ j,0<=j/\j<=100 -> ∀ m,0<=m->m<=3->GK xs n m j)
 |0,_=>by
  have hs : ∀ j,0<=j/\j<=100->GS xs (0:Nat) j:=fun i hi=>by
   have p:=qbi (i:=i) (m:=10) hx (by omega)
   have q:=qh3 p.1 (m:=7) (by omega)
   have e:qhM xs (0:Nat) i=(qaA xs i 10).tmod 7:=if_pos (by simp)
   by_cases h1:qhM xs (0:Nat) i<2
   ·exact qlw hx hl hi (by omega)
   by_cases h2:qhM xs (0:Nat) i<5
   ·exact qnp hx hl hi (by omega)
   by_cases h3:qhM xs (0:Nat) i=5
   ·exact qlx hx hl hi h3
   ·exact qt1 hx hl hi (by omega)
  exact⟨hs,fun j hj m h0 h3=>qqU hx hl hj h0 h3 hs⟩
 |n+1,hn=>by
  have ih:=(qz9 hx hl n (by omega)).2
  have hd : ¬ ((n+1:Nat):Int)<=0:=by omega
  have hs : ∀ j,0<=j/\j<=100->GS xs (n+1:Nat) j:=fun i hi=>by
   have p:=qbi (i:=i) (m:=10) hx (by omega)
   have e:qhM xs (n+1:Nat) i=qaA xs i 10:=if_neg hd
   have ih' : ∀ j,0<=j/\j<=100->GK xs (((n+1:Nat):Int)-1) 2 j:=fun j hj=>by
    rw[show ((n+1:Nat):Int)-1=n by omega]; exact ih j hj 2 (by omega) (by omega)
   by_cases h1:qhM xs (n+1:Nat) i<2
   ·exact qlw hx hl hi (by omega)
   by_cases h2:qhM xs (n+1:Nat) i<5
   ·exact qnp hx hl hi (by omega)
   by_cases h3:qhM xs (n+1:Nat) i=5
   ·exact qlx hx hl hi h3
   by_cases h4:qhM xs (n+1:Nat) i=6
   ·exact qt1 hx hl hi h4
   by_cases h5:qhM xs (n+1:Nat) i=7
   ·exact qsb hx hl hi hd (by omega) ih' (by omega)
   ·exact qAS hx hl hi hd (by omega) ih' (by omega)
  exact⟨hs,fun j hj m h0 h3=>qqU hx hl hj h0 h3 hs⟩
end
end
section
open F
theorem qwP(o:Option Addr)(m:Int)(hm:0<=m):Z qad (.call 23 [.dat (.lit (.slice o 0 0)),.int m] [])=some (.ret (.dat (qeA [])) []):=by
 refine qab (pf:=F23) rfl rfl ?_
 have h : ¬ m<0:=by omega
 simp[F23,V.len,qrQ,qi8,h,qel,bound,qb1,qlv,qeA]
theorem qpg(xs:List Int)(k:Nat):(intsC xs).take k=intsC (xs.take k):=by simp[intsC,List.map_take]
theorem qwQ(xs:List Int)(k:Nat)(hk:k<=1000):Z qad (.call 23 [.dat (.sl (intsC xs) xs.length false),.int k] [])=some (.ret (.dat (qeA (xs.take k))) []):=by
 refine qab (pf:=F23) rfl rfl ?_
 have hl:(intsC xs).length=xs.length:=by simp[intsC]
 have key : ∃ m:Nat,(if k<xs.length then (k:Int) else (xs.length:Int))=(m:Int)/\m<=xs.length/\m<=1000/\xs.take k=xs.take m/\(xs.take m).length=m:=by
  by_cases h:k<xs.length
  ·exact⟨k,by simp[h],by omega,hk,rfl,by simp; omega⟩
  ·exact⟨xs.length,by simp[h],Wp _,by omega,by rw[Wz (by omega),Wz (Wp _)],by simp⟩
 obtain⟨m,e1,e2,e3,e4,e5⟩:=key
 rw[e4]
 cases hm:xs.take m with
 |nil=>
  rw[hm] at e5
  simp at e5
  subst e5
  simp[F23,V.len,qrQ,qi8,e1,qel,bound,qb1,qlv,qeA,hl]
 |cons y ys=>
  have hm':=e5
  rw[hm] at hm'
  simp only[Wf] at hm'
  have hne:m≠0:=by omega
  have hr:qay m 8=true:=by simp[qay]; omega
  have ht:(intsC xs).take m=intsC (y::ys):=by rw[qpg,hm]
  have hlen:(intsC (y::ys)).length=m:=by simp[intsC]; omega
  simp[F23,V.len,qrQ,qi8,e1,qel,bound,qb1,qlv,qeA,hl,e2,ht,hlen,hne,hr,hm']
theorem qzt{v:D}{xs:List Int}(h:RowV v xs)(k:Nat)(hk:k<=1000):Z qad (.call 23 [.dat v,.int k] [])=some (.ret (.dat (qeA (xs.take k))) []):=by
 rcases h with ⟨o,rfl,rfl⟩|rfl
 ·simpa using qwP o k (by omega)
 ·exact qwQ xs k hk
def Hd.ss:Hd->Ss
 |.none => .nil
 |.some _ b=>b
structure Hd.fine(h:Hd):Prop where
 fine:h.ss.fine
 size:h.ss.fo.size<=2000
def Hd.cost:Hd->Nat
 |.none=>0
 |.some _ b=>12+b.cost
structure Hd.gen(h:Hd):Prop extends h.fine where
 f:h.f=false
 dp:h.ss.dp<=2
 edp:h.ss.edp<=3
 gsize:h.ss.fo.size<=1260
theorem qti(h:Hd):h.ks=h.ss.fo:=by cases h<;>rfl
theorem qkT:Hd.none.gen:=⟨⟨trivial,WN _⟩,rfl,WN _,WN _,WN _⟩
abbrev z12:Ob := .cells [.int 0,.int 0,.str ⟨#[]⟩,.dat (.lit (.slice none 0 0)),.int 0,.int 0,.str ⟨#[]⟩,.dat (.lit (.slice none 0 0)),.int 0,.int 0,.str ⟨#[]⟩,.dat (.lit (.slice none 0 0))]
abbrev tst(xs:List Int)(i:Int)(a b c:Nd):S:=[z12,.cells [.dat (qeA xs),.int i],qgO a b c]
abbrev tfr(h:Int):Fr:=[(2,.ptr 0 0),(3,.ptr 1 0),(4,.ptr 2 0),(5,.int h)]
section
variable{xs:List Int}{i:Int}{a b c:Nd}
theorem qBy:Z qad (.loop 0 F123l0 (tfr 3) (tst xs i a b c))=some (.out (.exit 0) (tfr 3++[(11,.bool false)]) (tst xs i a b c)):=by
 rw[qaa]
 simp[qac,qcQ,Wa]
theorem qwR(hx : ∀ x∈xs,I64 x)(hl:xs.length<=100)(hi:0<=i/\i<=100) : ∃ (g:Hd) (i':Int),g.gen/\(0<=i'/\i'<=100)/\Co 0 g.cost xs i i'/\Z qad (.loop 0 F123l0 (tfr 0) (tst xs i Hd.none.nd b c))=Z qad (.loop 0 F123l0 (tfr 1) (tst xs i' g.nd b c)):=by
 have n1:=qbn (i:=i) (m:=4) hx (qbA hl) hi (by omega)
 have r1:=qav hi (qbA hl)
 have w1:=qai 1 (by omega)
 by_cases h2:0<qaA xs i 4
 ·obtain⟨q,i',k1,k2,k3⟩:=(qz9 hx hl 2 (by omega)).2 _ r1 3 (by omega) (by omega)
  have hs:ssz 2=420:=rfl
  rw[show ((2:Nat):Int).toNat=2 from rfl,show (3:Int).toNat=3 from rfl,hs] at k1
  have hco:Co 0 (Hd.cost (.some false q)) xs i i':=by
   obtain⟨u1,u2,u3⟩:=k1.2.2.2.2
   show _/\_/\((12+q.cost:Nat):Int)<=_
   rcases qas xs i with ⟨e1,l1⟩|⟨e1,l1⟩
   ·omega
   ·exact absurd (l1 4) (by omega)
  refine⟨.some false q,i',⟨⟨k1.1,by show q.fo.size<=2000; have:=k1.2.2.2.1; omega⟩,rfl,k1.2.1,k1.2.2.1,k1.2.2.2.1⟩,k2,hco,?_⟩
  simp at k3
  conv=>lhs; rw[qaa]
  simp[qac,qcQ,n1,h2,k3,w1,Nd.d,Hd.k,Hd.f,Hd.ks,tfr,tst,qgO,Wa]
 ·have hco:Co 0 (Hd.cost .none) xs i (qaE xs i):=by
   show _/\_/\((0:Nat):Int)<=_
   rcases qas xs i with ⟨e1,l1⟩|⟨e1,l1⟩<;>omega
  refine⟨.none,_,qkT,r1,hco,?_⟩
  conv=>lhs; rw[qaa]
  simp[qac,qcQ,n1,h2,w1,Nd.d,Hd.k,Hd.f,Hd.ks,tfr,tst,qgO,Wa]
theorem qwS(hx : ∀ x∈xs,I64 x)(hl:xs.length<=100)(hi:0<=i/\i<=100) : ∃ (g:Hd) (i':Int),g.gen/\(0<=i'/\i'<=100)/\Co 0 g.cost xs i i'/\Z qad (.loop 0 F123l0 (tfr 1) (tst xs i a Hd.none.nd c))=Z qad (.loop 0 F123l0 (tfr 2) (tst xs i' a g.nd c)):=by
 have n1:=qbn (i:=i) (m:=4) hx (qbA hl) hi (by omega)
 have r1:=qav hi (qbA hl)
 have w1:=qai 2 (by omega)
 by_cases h2:0<qaA xs i 4
 ·obtain⟨q,i',k1,k2,k3⟩:=(qz9 hx hl 2 (by omega)).2 _ r1 3 (by omega) (by omega)
  have hs:ssz 2=420:=rfl
  rw[show ((2:Nat):Int).toNat=2 from rfl,show (3:Int).toNat=3 from rfl,hs] at k1
  have hco:Co 0 (Hd.cost (.some false q)) xs i i':=by
   obtain⟨u1,u2,u3⟩:=k1.2.2.2.2
   show _/\_/\((12+q.cost:Nat):Int)<=_
   rcases qas xs i with ⟨e1,l1⟩|⟨e1,l1⟩
   ·omega
   ·exact absurd (l1 4) (by omega)
  refine⟨.some false q,i',⟨⟨k1.1,by show q.fo.size<=2000; have:=k1.2.2.2.1; omega⟩,rfl,k1.2.1,k1.2.2.1,k1.2.2.2.1⟩,k2,hco,?_⟩
  simp at k3
  conv=>lhs; rw[qaa]
  simp[qac,qcQ,n1,h2,k3,w1,Nd.d,Hd.k,Hd.f,Hd.ks,tfr,tst,qgO,Wa]
 ·have hco:Co 0 (Hd.cost .none) xs i (qaE xs i):=by
   show _/\_/\((0:Nat):Int)<=_
   rcases qas xs i with ⟨e1,l1⟩|⟨e1,l1⟩<;>omega
  refine⟨.none,_,qkT,r1,hco,?_⟩
  conv=>lhs; rw[qaa]
  simp[qac,qcQ,n1,h2,w1,Nd.d,Hd.k,Hd.f,Hd.ks,tfr,tst,qgO,Wa]
theorem qwT(hx : ∀ x∈xs,I64 x)(hl:xs.length<=100)(hi:0<=i/\i<=100) : ∃ (g:Hd) (i':Int),g.gen/\(0<=i'/\i'<=100)/\Co 0 g.cost xs i i'/\Z qad (.loop 0 F123l0 (tfr 2) (tst xs i a b Hd.none.nd))=Z qad (.loop 0 F123l0 (tfr 3) (tst xs i' a b g.nd)):=by
 have n1:=qbn (i:=i) (m:=4) hx (qbA hl) hi (by omega)
 have r1:=qav hi (qbA hl)
 have w1:=qai 3 (by omega)
 by_cases h2:0<qaA xs i 4
 ·obtain⟨q,i',k1,k2,k3⟩:=(qz9 hx hl 2 (by omega)).2 _ r1 3 (by omega) (by omega)
  have hs:ssz 2=420:=rfl
  rw[show ((2:Nat):Int).toNat=2 from rfl,show (3:Int).toNat=3 from rfl,hs] at k1
  have hco:Co 0 (Hd.cost (.some false q)) xs i i':=by
   obtain⟨u1,u2,u3⟩:=k1.2.2.2.2
   show _/\_/\((12+q.cost:Nat):Int)<=_
   rcases qas xs i with ⟨e1,l1⟩|⟨e1,l1⟩
   ·omega
   ·exact absurd (l1 4) (by omega)
  refine⟨.some false q,i',⟨⟨k1.1,by show q.fo.size<=2000; have:=k1.2.2.2.1; omega⟩,rfl,k1.2.1,k1.2.2.1,k1.2.2.2.1⟩,k2,hco,?_⟩
  simp at k3
  conv=>lhs; rw[qaa]
  simp[qac,qcQ,n1,h2,k3,w1,Nd.d,Hd.k,Hd.f,Hd.ks,tfr,tst,qgO,Wa]
 ·have hco:Co 0 (Hd.cost .none) xs i (qaE xs i):=by
   show _/\_/\((0:Nat):Int)<=_
   rcases qas xs i with ⟨e1,l1⟩|⟨e1,l1⟩<;>omega
  refine⟨.none,_,qkT,r1,hco,?_⟩
  conv=>lhs; rw[qaa]
  simp[qac,qcQ,n1,h2,w1,Nd.d,Hd.k,Hd.f,Hd.ks,tfr,tst,qgO,Wa]
end
theorem qph{v:D}{xs:List Int}(h:RowV v xs)(hx : ∀ x∈xs,I64 x) : ∃ a b c:Hd,a.gen/\b.gen/\(c.gen/\a.cost+(b.cost+c.cost)<=1440)/\Z qad (.call 123 [.dat v] [])=some (.ret (.dat (ru a.nd b.nd c.nd)) []):=by
 have hx' : ∀ x∈xs.take 60,I64 x:=fun x hm=>hx x (Yi hm)
 have hl':(xs.take 60).length<=100:=by simp; omega
 have n0:=qzt h 60 (by omega)
 obtain⟨a,i1,a1,a2,a3,a4⟩:=qwR (i:=0) (b:=Hd.none.nd) (c:=Hd.none.nd) hx' hl' (by omega)
 obtain⟨b,i2,b1,b2,b3,b4⟩:=qwS (i:=i1) (a:=a.nd) (c:=Hd.none.nd) hx' hl' a2
 obtain⟨c,i3,c1,c2,c3,c4⟩:=qwT (i:=i2) (a:=a.nd) (b:=b.nd) hx' hl' b2
 have hl:=a4.trans (b4.trans (c4.trans qBy))
 have hcost:a.cost+(b.cost+c.cost)<=1440:=by
  obtain⟨p1,p2,p3⟩:=a3
  obtain⟨q1,q2,q3⟩:=b3
  obtain⟨r1,r2,r3⟩:=c3
  have:(xs.take 60).length<=60:=by simp; omega
  omega
 refine⟨a,b,c,a1,b1,⟨c1,hcost⟩,?_⟩
 refine qab (pf:=F123) rfl rfl ?_
 simp only[tfr,tst,qgO,Nd.d,qAr,qAs,qAt,qAu,qpk,Wi,Wc,show Hd.k .none=0 from rfl,show Hd.f .none=false from rfl,show Hd.ks .none = .nil from rfl,z12,qbs,qbc,qAn] at hl
 simp at n0 hl
 simp[F123,n0,hl,ru,Nd.d,Wa]
end
section
open F Gr
set_option maxHeartbeats 1000000
section
variable{vs:List ByteArray}
def hdC(vs:List ByteArray):Hd->Int->Cd
 |.none=>fun _=>[]
 |.some _ b=>snC (codeS vs b) (21,0)
def qmj:Hd->Int->Int
 |.none,_ => -1
 |.some _ _,p=>p
abbrev zP:Ob := .cells [.dat (.lit (.slice none 0 0)),.int 0,.int 0,.int 0]
inductive CSt(R:Ob)(e0 e1 e2:Int):S->Cd->Prop
 |nil:CSt R e0 e1 e2 [R,zP,.cells [.dat (.lit (.slice none 0 0)),.int e0,.int e1,.int e2]] []
 |gr (c:Cd) (h:c≠[]):CSt R e0 e1 e2 [R,zP,.cells [.gsl (icC c) c.length 2 3,.int e0,.int e1,.int e2],.tip (icC c).length] c
end
end
section
open Gr
def qeS(vs:List ByteArray)(a b c:Hd):Cd:=sq (hdC vs a) (sq (hdC vs b) (hdC vs c)) 0
def qjd(a:Hd):Int:=qmj a 0
def qi9(vs:List ByteArray)(a b:Hd):Int:=qmj b (hdC vs a 0).length
def qje(vs:List ByteArray)(a b c:Hd):Int:=qmj c (sq (hdC vs a) (hdC vs b) 0).length
structure Hg(C:Int->Cd)(n:Nat)(D:Nat->Int):Prop where
 ln:Ln C n
 ok : ∀ p i,i<n->vOp (opA (C p) i) (nA (C p) i) p (p+n-1)
 pop : ∀ p i,i<n->qfL (opA (C p) i)<=D i
 flow : ∀ p i,i<n -> ∀ j∈qo2 (opA (C p) i) (nA (C p) i) (p+i),p<=j/\j<=p+n-1/\D (j-p).toNat=D i+(qd7 (opA (C p) i)-qfL (opA (C p) i))
 stp : ∀ p i,i<n->opA (C p) i=21->D i=0
theorem qyH{A B:Int->Cd}{n m:Nat}{DA DB:Nat->Int}(a:Hg A n DA)(b:Hg B m DB):Hg (sq A B) (n+m) (fun i=>if i<n then DA i else DB (i-n)):=by
 have opl : ∀ p i,i<n->opA (sq A B p) i=opA (A p) i/\nA (sq A B p) i=nA (A p) i:=fun p i h=>qd0 (by rw[a.ln p]; exact h)
 have opr : ∀ p i,n<=i->opA (sq A B p) i=opA (B (p+n)) (i-n)/\nA (sq A B p) i=nA (B (p+n)) (i-n):=fun p i h=>by
  have:=qcg (a:=A p) (b:=B (p+(A p).length)) (i:=i) (by rw[a.ln p]; omega)
  rw[a.ln p] at this
  exact⟨by rw[sq,a.ln p]; exact this.1,by rw[sq,a.ln p]; exact this.2⟩
 refine⟨qbO a.ln b.ln,?_,?_,?_,?_⟩
 ·intro p i hi
  by_cases h:i<n
  ·rw[(opl p i h).1,(opl p i h).2]; exact qcG (a.ok p i h) (by omega) (by omega)
  ·rw[(opr p i (by omega)).1,(opr p i (by omega)).2]; exact qcG (b.ok (p+n) (i-n) (by omega)) (by omega) (by omega)
 ·intro p i hi
  show _<=if i<n then DA i else DB (i-n)
  by_cases h:i<n
  ·rw[(opl p i h).1,if_pos h]; exact a.pop p i h
  ·rw[(opr p i (by omega)).1,if_neg h]; exact b.pop _ (i-n) (by omega)
 ·intro p i hi j hj
  show _/\_/\(if (j-p).toNat<n then DA (j-p).toNat else DB ((j-p).toNat-n))=(if i<n then DA i else DB (i-n))+_
  by_cases h:i<n
  ·rw[(opl p i h).1,(opl p i h).2] at hj
   rw[(opl p i h).1,if_pos h]
   obtain⟨q1,q2,q3⟩:=a.flow p i h j hj
   rw[if_pos (by omega)]
   exact⟨q1,by omega,q3⟩
  ·rw[(opr p i (by omega)).1,(opr p i (by omega)).2,show p+(i:Int)=(p+n)+((i-n:Nat):Int) by omega] at hj
   rw[(opr p i (by omega)).1,if_neg h]
   obtain⟨q1,q2,q3⟩:=b.flow (p+n) (i-n) (by omega) j hj
   rw[if_neg (by omega),show (j-p).toNat-n=(j-(p+n)).toNat by omega]
   exact⟨by omega,by omega,q3⟩
 ·intro p i hi h
  show (if i<n then DA i else DB (i-n))=0
  by_cases h':i<n
  ·rw[(opl p i h').1] at h; rw[if_pos h']; exact a.stp p i h' h
  ·rw[(opr p i (by omega)).1] at h; rw[if_neg h']; exact b.stp _ (i-n) (by omega) h
theorem qvS{vs:List ByteArray}(hv:vs.length<=16)(h:Hd)(hf:h.ss.fine)(hi:h.ss.inV vs) : ∃ n D,Hg (hdC vs h) n D/\(h ≠ .none->0<n/\D 0=0)/\(h = .none->n=0):=by
 cases h with
 |none=>exact⟨0,fun _=>0,⟨fun _=>rfl,fun _ _ h=>by omega,fun _ _ h=>by omega,fun _ _ h=>by omega,fun _ _ h=>by omega⟩,fun h=>absurd rfl h,fun _=>rfl⟩
 |some f b=>
  obtain⟨n,s,D,g⟩:=qCr hv b hf hi
  have opl : ∀ p i,i<n->opA (hdC vs (.some f b) p) i=opA (codeS vs b p) i/\nA (hdC vs (.some f b) p) i=nA (codeS vs b p) i:=fun p i h=>qd0 (by rw[g.ln p]; exact h)
  have opr : ∀ p,opA (hdC vs (.some f b) p) n=21/\nA (hdC vs (.some f b) p) n=0:=fun p=>by
   have:=qcg (a:=codeS vs b p) (b:=[(21,0)]) (i:=n) (by rw[g.ln p]; omega)
   rw[g.ln p,Nat.sub_self] at this
   exact this
  refine⟨n+1,D 0,⟨qco g.ln,?_,?_,?_,?_⟩,fun _=>⟨by omega,g.beg 0⟩,fun h=>by cases h⟩
  ·intro p i hi
   by_cases h:i<n
   ·rw[(opl p i h).1,(opl p i h).2]; exact qcG (g.ok p i h) (by omega) (by omega)
   ·obtain rfl:i=n:=by omega
    rw[(opr p).1,(opr p).2]; exact⟨by omega,by rw[if_neg (by omega),if_neg (by omega),if_neg (by omega),if_neg (by omega),if_neg (by omega)]⟩
  ·intro p i hi
   by_cases h:i<n
   ·rw[(opl p i h).1]; have:=g.pop p 0 i h; omega
   ·obtain rfl:i=n:=by omega
    rw[(opr p).1,g.fin]; decide
  ·intro p i hi j hj
   by_cases h:i<n
   ·rw[(opl p i h).1,(opl p i h).2] at hj
    rw[(opl p i h).1]
    obtain⟨q1,q2,q3⟩:=g.flow p 0 i h j hj
    exact⟨q1,by omega,q3⟩
   ·obtain rfl:i=n:=by omega
    rw[(opr p).1,(opr p).2] at hj
    cases hj
  ·intro p i hi h
   by_cases h':i<n
   ·rw[(opl p i h').1] at h; exact (g.stp p 0 i h' h).2
   ·obtain rfl:i=n:=by omega
    exact g.fin 0
theorem qlM {vs:List ByteArray} (hv:vs.length<=16) {a b c:Hd} (fa:a.ss.fine) (fb:b.ss.fine) (fc:c.ss.fine) (ia:a.ss.inV vs) (ib:b.ss.inV vs) (ic:c.ss.inV vs) :
  ∃ n D,Hg (sq (hdC vs a) (sq (hdC vs b) (hdC vs c))) n D/\(qjd a = -1\/(0<=qjd a/\qjd a<n/\D (qjd a).toNat=0))/\(qi9 vs a b = -1\/(0<=qi9 vs a b/\qi9 vs a b<n/\D (qi9 vs a b).toNat=0))/\(qje vs a b c = -1\/(0<=qje vs a b c/\qje vs a b c<n/\D (qje vs a b c).toNat=0)):=by
 obtain⟨na,Da,ga,pa,za⟩:=qvS hv a fa ia
 obtain⟨nb,Db,gb,pb,zb⟩:=qvS hv b fb ib
 obtain⟨nc,Dc,gc,pc,zc⟩:=qvS hv c fc ic
 refine⟨_,_,qyH ga (qyH gb gc),?_,?_,?_⟩
 ·cases a with
  |none=>exact .inl rfl
  |some f x=>
   obtain⟨h1,h2⟩:=pa (by simp)
   refine .inr ⟨by simp[qjd,qmj],by simp only[qjd,qmj]; omega,?_⟩
   show (if 0<na then Da 0 else _)=0
   rw[if_pos h1,h2]
 ·have e:(hdC vs a 0).length=na:=ga.ln 0
  cases b with
  |none=>exact .inl rfl
  |some f x=>
   obtain⟨h1,h2⟩:=pb (by simp)
   refine .inr ⟨by simp only[qi9,qmj]; omega,by simp only[qi9,qmj,e]; omega,?_⟩
   show (if ((hdC vs a 0).length:Int).toNat<na then _ else if ((hdC vs a 0).length:Int).toNat-na<nb then _ else _)=0
   rw[e,if_neg (by omega),if_pos (by omega)]
   simp only[qi9,qmj,e]
   rw[show ((na:Nat):Int).toNat-na=0 by omega,h2]
 ·have e:(sq (hdC vs a) (hdC vs b) 0).length=na+nb:=qbO ga.ln gb.ln 0
  cases c with
  |none=>exact .inl rfl
  |some f x=>
   obtain⟨h1,h2⟩:=pc (by simp)
   refine .inr ⟨by simp only[qje,qmj]; omega,by simp only[qje,qmj,e]; omega,?_⟩
   show (if ((sq (hdC vs a) (hdC vs b) 0).length:Int).toNat<na then _ else if ((sq (hdC vs a) (hdC vs b) 0).length:Int).toNat-na<nb then _ else _)=0
   rw[e,if_neg (by omega),if_neg (by omega)]
   simp only[qje,qmj,e]
   rw[show ((na+nb:Nat):Int).toNat-na-nb=0 by omega,h2]
section
variable{C:Int->Cd}{n:Nat}{D:Nat->Int}
theorem qsI{op x:Int}{n:Nat}(h:vOp op x 0 (0+n-1)):(qdO op&&qvG op x n)=true:=by
 obtain⟨h0,h⟩:=h
 have hk:qdO op=true:=by unfold qdO; simp; omega
 unfold qvG
 rw[hk,Bool.true_and]
 split at h
 ·rw[if_pos (by assumption)]; simp; omega
 rw[if_neg (by assumption)]
 split at h
 ·rw[if_pos (by assumption)]; simp; omega
 rw[if_neg (by assumption)]
 split at h
 ·rw[if_pos (by assumption)]; simp; omega
 rw[if_neg (by assumption)]
 split at h
 ·rw[if_pos (by assumption)]; simp; omega
 rw[if_neg (by assumption)]
 split at h
 ·rw[if_pos (by assumption)]; simp; omega
 rw[if_neg (by assumption)]; simp; exact h
theorem qt7{c:Cd} : ∀ (m i:Nat),(∀ k,i<=k->k<i+m->okI c k=true)->okC c m i=true
 |0,_,_=>rfl
 |m+1,i,h=>by
  simp only[okC,Wv]
  exact⟨h i (by omega) (by omega),qt7 m (i+1) fun k h1 h2=>h k (by omega) (by omega)⟩
theorem Hg.okC(g:Hg C n D):okC (C 0) (C 0).length 0=true:=
 qt7 _ _ fun k _ h=>by
  have hl:=g.ln 0
  have:=qsI (g.ok 0 k (by omega))
  unfold okI
  rw[hl]; exact this
theorem Hg.cf(g:Hg C n D){e:Nat}(he:e<n)(h0:D e=0):CF (C 0) e D where
 zero:=h0
 pops:=fun i hi=>g.pop 0 i (by have:=Reach.lt (by rw[g.ln 0]; exact he) hi; rw[g.ln 0] at this; exact this)
 step:=fun i hi j hj hl=>by
  have hin:i<n:=by have:=Reach.lt (by rw[g.ln 0]; exact he) hi; rw[g.ln 0] at this; exact this
  rw[qqZ] at hj
  have:=(g.flow 0 i hin j (by rw[show (0:Int)+i=i by omega]; exact hj)).2.2
  rw[show ((j:Int)-0).toNat=j by omega] at this
  exact this
theorem Hg.nofall(g:Hg C n D){e:Nat}(he:e<n) : ¬ qpX (C 0) e:=by
 rintro ⟨i,hi,hj⟩
 have hin:i<n:=by have:=Reach.lt (by rw[g.ln 0]; exact he) hi; rw[g.ln 0] at this; exact this
 rw[qqZ] at hj
 have:=(g.flow 0 i hin _ (by rw[show (0:Int)+i=i by omega]; exact hj)).2.1
 rw[g.ln 0] at this
 omega
theorem Hg.stop(g:Hg C n D){i:Nat}(hi:i<n)(h:opA (C 0) i=21):D i=0:=g.stp 0 i hi h
end
end
section
open Gr
theorem qsk(l:List ByteArray)(s x:ByteArray):x∈qru l s↔x∈l\/x=s:=by
 unfold qru
 split
 ·rename_i h
  constructor
  ·exact .inl
  ·rintro (h'|rfl); exact h'; exact h
 ·simp
theorem qjD(xs:List ByteArray) : ∀ (l:List ByteArray) (x:ByteArray),x∈addAll l xs↔x∈l\/x∈xs:=by
 induction xs with
 |nil=>intro l x; simp[addAll]
 |cons s xs ih=>
  intro l x
  have:=ih (qru l s) x
  simp only[addAll,W8] at this ⊢
  rw[this,qsk]
  simp only[Wu,or_assoc]
theorem qhy(xs:List ByteArray) : ∀ l:List ByteArray,l.Nodup->(addAll l xs).Nodup:=by
 induction xs with
 |nil=>intro l h; simpa [addAll] using h
 |cons s xs ih=>
  intro l h
  simp only[addAll,W8]
  refine ih _ ?_
  unfold qru
  split
  ·exact h
  ·rename_i hs
   rw[List.nodup_append]
   exact⟨h,by simp,fun a ha b hb=>by simp only[Wg] at hb; subst hb; rintro rfl; exact hs ha⟩
theorem qlA{α : Type}[BEq α][LawfulBEq α] : ∀ (l m:List α),l.Nodup->(∀ x∈l,x∈m)->l.length<=m.length
 |[],m,_,_=>WN _
 |x::l,m,h,hs=>by
  rw[Yq] at h
  have hx:=hs x (by simp)
  have:=qlA l (m.erase x) h.2 fun y hy=>(List.mem_erase_of_ne (fun e=>h.1 (by rw[<- e]; exact hy))).2 (hs y (by simp[hy]))
  rw[List.length_erase_of_mem hx] at this
  have:=List.length_pos_of_mem hx
  simp only[Wf]
  omega
theorem qfR{vs:List ByteArray} : ∀ (e:E) (r:Fo),(∀ s∈(e.fo r).vars,s∈vs)->e.inV vs /\ ∀ s∈r.vars,s∈vs
 |.int _,r,h=>⟨trivial,fun s hs=>h s (by simp[E.fo,Fo.vars,hs])⟩
 |.bool _,r,h=>⟨trivial,fun s hs=>h s (by simp[E.fo,Fo.vars,hs])⟩
 |.var v,r,h=>⟨h v (by simp[E.fo,Fo.vars]),fun s hs=>h s (by simp[E.fo,Fo.vars,hs])⟩
 |.name _,r,h=>⟨trivial,fun s hs=>h s (by simp[E.fo,Fo.vars,hs])⟩
 |.field _ _ e,r,h=>by
  have:=qfR e .nil fun s hs=>h s (by simp[E.fo,Fo.vars,hs])
  exact⟨this.1,fun s hs=>h s (by simp[E.fo,Fo.vars,hs])⟩
 |.un _ _ e,r,h=>by
  have:=qfR e .nil fun s hs=>h s (by simp[E.fo,Fo.vars,hs])
  exact⟨this.1,fun s hs=>h s (by simp[E.fo,Fo.vars,hs])⟩
 |.bin _ o a b,r,h=>by
  have h1:=qfR a (b.fo .nil) fun s hs=>h s (by simp[E.fo,Fo.vars,hs])
  have h2:=qfR b .nil h1.2
  exact⟨⟨h1.1,h2.1⟩,fun s hs=>h s (by simp[E.fo,Fo.vars,hs])⟩
theorem qe3{vs:List ByteArray} : ∀ b:Ss,(∀ s∈b.fo.vars,s∈vs)->b.inV vs
 |.nil,_=>trivial
 |.assign _ v e r,h=>⟨⟨h v (by simp[Ss.fo,Fo.vars]),(qfR e .nil fun s hs=>h s (by simp[Ss.fo,Fo.vars,hs])).1⟩,qe3 r fun s hs=>h s (by simp[Ss.fo,Fo.vars,hs])⟩
 |.store _ _ a b r,h=>by
  have h1:=qfR a (b.fo .nil) fun s hs=>h s (by simp[Ss.fo,Fo.vars,hs])
  exact⟨⟨h1.1,(qfR b .nil h1.2).1⟩,qe3 r fun s hs=>h s (by simp[Ss.fo,Fo.vars,hs])⟩
 |.effect _ a b r,h=>by
  have h1:=qfR a (b.fo .nil) fun s hs=>h s (by simp[Ss.fo,Fo.vars,hs])
  exact⟨⟨h1.1,(qfR b .nil h1.2).1⟩,qe3 r fun s hs=>h s (by simp[Ss.fo,Fo.vars,hs])⟩
 |.stop r,h=>qe3 r fun s hs=>h s (by simp[Ss.fo,Fo.vars,hs])
 |.cond w _ c b r,h=>by
  have h1:=qfR c b.fo fun s hs=>h s (by simp only[Ss.fo,Fo.vars]; simp[hs])
  exact⟨h1.1,qe3 b h1.2,qe3 r fun s hs=>h s (by simp only[Ss.fo,Fo.vars]; simp[hs])⟩
 |.block _ b r,h=>⟨qe3 b fun s hs=>h s (by simp[Ss.fo,Fo.vars,hs]),qe3 r fun s hs=>h s (by simp[Ss.fo,Fo.vars,hs])⟩
theorem qdL : ∀ (e:E) (r:Fo),e.fine->(∀ s∈r.vars,s∈qty) -> ∀ s∈(e.fo r).vars,s∈qty
 |.int _,r,_,h,s,hs=>h s (by simpa [E.fo,Fo.vars] using hs)
 |.bool _,r,_,h,s,hs=>h s (by simpa [E.fo,Fo.vars] using hs)
 |.var v,r,g,h,s,hs=>by
  simp only[E.fo,Fo.vars,or_true,if_true,Wc,Wi,Wu] at hs
  rcases hs with rfl|hs
  ·exact g
  ·exact h s hs
 |.name _,r,_,h,s,hs=>h s (by simpa [E.fo,Fo.vars] using hs)
 |.field _ _ e,r,g,h,s,hs=>by
  simp only[E.fo,Fo.vars,Int.reduceEq,or_self,if_false,Wc,Ws] at hs
  rcases hs with hs|hs
  ·exact qdL e .nil g.2.1 (by simp[Fo.vars]) s hs
  ·exact h s hs
 |.un _ _ e,r,g,h,s,hs=>by
  simp only[E.fo,Fo.vars,Int.reduceEq,or_self,if_false,Wc,Ws] at hs
  rcases hs with hs|hs
  ·exact qdL e .nil g.1 (by simp[Fo.vars]) s hs
  ·exact h s hs
 |.bin _ o a b,r,g,h,s,hs=>by
  simp only[E.fo,Fo.vars,Int.reduceEq,or_self,if_false,Wc,Ws] at hs
  rcases hs with hs|hs
  ·exact qdL a _ g.1 (qdL b .nil g.2.1 (by simp[Fo.vars])) s hs
  ·exact h s hs
theorem qmD(b:Ss)(hf:b.fine) : ∀ s∈b.fo.vars,s∈qty:=by
 fun_induction Ss.fine b with
 |case1=>simp[Ss.fo,Fo.vars]
 |case2 _ v e r ih=>
  intro s hs
  simp only[Ss.fo,Fo.vars,true_or,if_true,Wi,Wc,Wu,Ws] at hs
  rcases hs with rfl|hs|hs
  ·exact hf.1.1
  ·exact qdL e .nil hf.1.2.1 (by simp[Fo.vars]) s hs
  ·exact ih hf.2 s hs
 |case3 _ v a b r ih=>
  intro s hs
  simp only[Ss.fo,Fo.vars,Int.reduceEq,or_self,if_false,Wc,Ws] at hs
  rcases hs with hs|hs
  ·exact qdL a _ hf.1.2.1 (qdL b .nil hf.1.2.2.2.1 (by simp[Fo.vars])) s hs
  ·exact ih hf.2 s hs
 |case4 _ a b r ih=>
  intro s hs
  simp only[Ss.fo,Fo.vars,Int.reduceEq,or_self,if_false,Wc,Ws] at hs
  rcases hs with hs|hs
  ·exact qdL a _ hf.1.1 (qdL b .nil hf.1.2.2.1 (by simp[Fo.vars])) s hs
  ·exact ih hf.2 s hs
 |case5 r ih=>
  intro s hs
  simp only[Ss.fo,Fo.vars,Int.reduceEq,or_self,if_false,Wc] at hs
  exact ih hf s hs
 |case6 _ c _ x _ y r ih1 ih2 ih3=>
  intro s hs
  simp only[Ss.fo,Fo.vars,Int.reduceEq,Wo,or_self,if_false,Wc,Ws] at hs
  rcases hs with hs|hs
  ·refine qdL c _ hf.1.1 ?_ s hs
   intro s hs
   simp only[Fo.vars,Int.reduceEq,or_self,if_false,Wc,Wr,Ws] at hs
   rcases hs with hs|hs
   ·exact ih1 hf.2.1 s hs
   ·exact ih2 hf.2.2.1 s hs
  ·exact ih3 hf.2.2.2 s hs
 |case7 _ c _ x r ih1 ih2=>
  intro s hs
  simp only[Ss.fo,Fo.vars,Int.reduceEq,or_self,if_true,if_false,Wc,Ws] at hs
  rcases hs with hs|hs
  ·refine qdL c _ hf.1.1 ?_ s hs
   intro s hs
   simp only[Fo.vars,Int.reduceEq,or_self,if_false,Wc,Wr] at hs
   exact ih1 hf.2.1 s hs
  ·exact ih2 hf.2.2 s hs
 |case8=>exact hf.elim
theorem qg0(h:Hd):h.nd.vars=h.ss.fo.vars:=by
 cases h<;>simp[Nd.vars,Hd.nd,Hd.k,Hd.ks,Hd.ss,Ss.fo,Fo.vars]
section
variable{a b c:Hd}
theorem qnu:a.ss.inV (rvars a.nd b.nd c.nd)/\b.ss.inV (rvars a.nd b.nd c.nd)/\c.ss.inV (rvars a.nd b.nd c.nd):=by
 have key : ∀ s,s∈rvars a.nd b.nd c.nd↔s∈a.ss.fo.vars\/s∈b.ss.fo.vars\/s∈c.ss.fo.vars:=fun s=>by
  unfold rvars
  rw[qjD,qg0,qg0,qg0]
  simp
 exact⟨qe3 _ fun s hs=>(key s).2 (.inl hs),qe3 _ fun s hs=>(key s).2 (.inr (.inl hs)),qe3 _ fun s hs=>(key s).2 (.inr (.inr hs))⟩
theorem qjE(fa:a.ss.fine)(fb:b.ss.fine)(fc:c.ss.fine):(rvars a.nd b.nd c.nd).length<=5:=by
 refine qlA _ qty (qhy _ _ (by simp)) fun s hs=>?_
 unfold rvars at hs
 rw[qjD,qg0,qg0,qg0] at hs
 simp only[Ww,false_or,Ws] at hs
 rcases hs with hs|hs|hs
 ·exact qmD _ fa s hs
 ·exact qmD _ fb s hs
 ·exact qmD _ fc s hs
end
end
section
open F Gr
set_option maxHeartbeats 1000000
def icV(c:Cd):List V:=(icC c).map V.dat
theorem qfW(c:Cd):(icV c).length=c.length*2:=by simp[icV]
theorem qoy(a b:Cd):icV (a++b)=icV a++icV b:=by simp[icV,qjN]
theorem quJ(o n:Int):icV [(o,n)]=[V.int o,V.int n]:=rfl
theorem qcO(σ : S)(l N:Nat):V.len σ .sl (.own l N 2)=some N:=rfl
theorem qxO(c:Cd)(o n:Int):icV c++[V.int o,V.int n]=icV (c++[(o,n)]):=by rw[qoy]; rfl
@[simp] theorem qzN(c:Cd):qaG (icV c)=[]:=by
 unfold icV
 induction icC c with
 |nil=>rfl
 |cons x B ih=>simpa using ih
@[simp] theorem qAB(r:Nat->Nat)(c:Cd):qdV r (icV c)=icV c:=by
 unfold icV
 induction icC c with
 |nil=>rfl
 |cons x B ih=>simpa using ih
theorem qko(c:Cd):qbD (icV c)=some (icC c):=by
 unfold icV
 induction icC c with
 |nil=>rfl
 |cons x B ih=>simp[qbD,ih]
abbrev cob(e0 e1 e2:Int)(l n m:Nat):Ob := .cells [.own l n 2,.mp m,.int e0,.int e1,.int e2]
abbrev qoz(e0 e1 e2:Int)(m:Nat):Ob := .cells [.dat (.lit (.slice none 0 0)),.mp m,.int e0,.int e1,.int e2]
abbrev mpo(vs:List ByteArray):Ob := .map (mapM 0 vs)
abbrev qcw(vs:List ByteArray)(e0 e1 e2:Int)(c:Cd):S:=[cob e0 e1 e2 1 c.length 2,.vec (icV c),mpo vs]
abbrev qec(vs:List ByteArray)(e0 e1 e2:Int):S:=[qoz e0 e1 e2 1,mpo vs]
abbrev qhK(vs:List ByteArray)(e0 e1 e2:Int)(c:Cd):S:=[cob e0 e1 e2 2 c.length 1,mpo vs,.vec (icV c)]
attribute [local simp] qbb qbG dkey
section
variable{vs:List ByteArray}{e0 e1 e2:Int}
theorem qb8(c:Cd)(hc:c.length<2^30)(o n:Int):Z qad (.call 148 [.ptr 0 0,.int o,.int n] (qcw vs e0 e1 e2 c))=some (.ret (.int c.length) (qcw vs e0 e1 e2 (c++[(o,n)]))):=by
 have r1:=qua (n:=c.length+1) (by omega)
 have hl:=qfW c
 have w1:=qai (c.length:Int) (by omega)
 have e:(c.length:Int)+1-1=c.length:=by omega
 refine qab (pf:=F148) rfl rfl ?_
 simp[F148,r1,hl,w1,qcO,qxO,qfW,Wa]
theorem qll(o n:Int):Z qad (.call 148 [.ptr 0 0,.int o,.int n] (qec vs e0 e1 e2))=some (.ret (.int 0) (qhK vs e0 e1 e2 [(o,n)])):=by
 have r1:=qua (n:=1) (by omega)
 have w1:IntKind.i64.wrap 0=0:=rfl
 refine qab (pf:=F148) rfl rfl ?_
 simp[F148,r1,w1,qcO,quJ,Wa]
end
theorem qhS(o:Bop)(h1:o ≠ .and)(h2:o ≠ .or):Z qad (.call 187 [.str o.str] [])=some (.ret (.int (opI o)) []):=by
 cases o<;>first|exact absurd rfl h1|exact absurd rfl h2|exact qmh (n:=2) (by kernel_rfl)
theorem qhT{s:ByteArray}(h:s∈qdU):Z qad (.call 134 [.str s] [])=some (.ret (.int (fieldI s)) []):=by
 simp only[qdU,qgd,Wi,Wc,Wu,Ww,or_false] at h
 rcases h with rfl|rfl|rfl|rfl|rfl|rfl|rfl|rfl<;>exact qmh (n:=2) (by kernel_rfl)
theorem qik(s:ByteArray) : ∀ (l:List ByteArray) (i:Nat),s∈l->qem .s (.string s) (mapM i l)=some (some (.int (ixI l s+i)))
 |[],i,h=>by cases h
 |x::l,i,h=>by
  by_cases hx:x=s
  ·subst hx
   simp[mapM,qem,qcm,ixI]
  ·have hm:=(Wu.1 h).resolve_left fun e=>hx e.symm
   have ih:=qik s l (i+1) hm
   have hb:(s==x)=false:=by rw[qeq]; exact decide_eq_false fun e=>hx e.symm
   have h0:=qmH hm
   simp only[mapM,qem,qcm,hb,ih,ixI,if_neg hx,if_neg (show ¬ ixI l s<0 by omega)]
   congr 3
   omega
end
section
open F Gr
set_option maxHeartbeats 1000000
attribute [local simp] qbb qbG dkey qgh
theorem qtz(c1 c2:Cd)(o n v:Int):List.take (c1.length*2+1) (icV (c1++(o,n)::c2))++V.dat (.lit (.int .i64 v))::List.drop (c1.length*2+1+1) (icV (c1++(o,n)::c2))=icV (c1++(o,v)::c2):=by
 unfold icV
 have e : ∀ z:Int,icC (c1++(o,z)::c2)=(icC c1++[.lit (.int .i64 o)])++(.lit (.int .i64 z)::icC c2):=fun z=>by rw[qjN,Wj]; rfl
 have l:(icC c1++[D.lit (.int .i64 o)]).length=c1.length*2+1:=by simp[qfC c1]
 rw[e n,e v,<- List.map_take,<- List.map_drop,<- l,List.take_left,show (icC c1++[D.lit (.int .i64 o)]).length+1=(icC c1++[D.lit (.int .i64 o)]).length+1 from rfl,List.drop_append,Ym (by omega),show (icC c1++[D.lit (.int .i64 o)]).length+1-(icC c1++[D.lit (.int .i64 o)]).length=1 by omega]
 simp
section
variable{vs:List ByteArray}{e0 e1 e2:Int}
theorem qpo (c:Cd) (hc:c.length<2^30) (o:Int):Z qad (.call 201 [.ptr 0 0,.int o] (qcw vs e0 e1 e2 c)) =
  some (.ret (.fn 204 [] [.ptr 3 0,.ptr 4 0]) (qcw vs e0 e1 e2 (c++[(o,0)])++[.cells [.ptr 0 0],.cells [.int c.length]])):=by
 have z:=qb8 (vs:=vs) (e0:=e0) (e1:=e1) (e2:=e2) c hc o 0
 refine qab (pf:=F201) rfl rfl ?_
 simp[F201,z,Wa]
theorem qea (c1 c2:Cd) (o x:Int) (hc:(c1++(o,x)::c2).length<2^30) :
  Z qad (.dcall 204 [.dat (.lit .nilIface),.ptr 0 0,.ptr 1 0] [.cells [.ptr 2 0],.cells [.int c1.length],cob e0 e1 e2 3 (c1++(o,x)::c2).length 4,.vec (icV (c1++(o,x)::c2)),mpo vs]) =
  some (.ret (.dat (.lit undef)) [.cells [.ptr 2 0],.cells [.int c1.length],cob e0 e1 e2 3 (c1++(o,x)::c2).length 4,.vec (icV (c1++(o,((c1++(o,x)::c2).length:Int))::c2)),mpo vs]):=by
 have hs:=qtz c1 c2 o x (c1++(o,x)::c2).length
 have hl:=qfW (c1++(o,x)::c2)
 have hk:c1.length<(c1++(o,x)::c2).length:=by simp
 generalize (c1++(o,x)::c2)=c at *
 have hk':(c1.length:Int)<c.length:=by omega
 have hle:c1.length*2+1+1<=c.length*2:=by omega
 refine qmo (pf:=F204) rfl ?_
 simp[qa0,F204,PC.flat,V.isNilIf,qcO,hl,hk,hk',hle,hs,qae,qbN,qaF,Wa]
end
end
section
open F Gr
set_option maxHeartbeats 2000000
attribute [local simp] qbb qbG dkey qgh
abbrev nbo(k n:Int)(s:ByteArray)(d:D):Ob := .cells [.int k,.int n,.str s,.dat d]
structure Clo2(vs:List ByteArray)(id:Nat)(bn:Ob)(C:Int->Cd)(L:Nat):Prop where
 ln:Ln C L
 one : ∀ (e0 e1 e2:Int) (c:Cd),c≠[]->c.length+4*L<2^30->Z qad (.call id [.ptr 0 0,.ptr 1 0] [.cells [.ptr 2 0],bn,cob e0 e1 e2 3 c.length 4,.vec (icV c),mpo vs]) =
  some (.ret (.tup []) [.cells [.ptr 2 0],bn,cob e0 e1 e2 3 (c++C c.length).length 4,.vec (icV (c++C c.length)),mpo vs])
structure Clo1(vs:List ByteArray)(id:Nat)(C:Int->Cd)(L:Nat):Prop where
 ln:Ln C L
 one : ∀ (e0 e1 e2:Int) (c:Cd),c≠[]->c.length+4*L<2^30->Z qad (.call id [.ptr 0 0] [.cells [.ptr 1 0],cob e0 e1 e2 2 c.length 3,.vec (icV c),mpo vs]) =
  some (.ret (.tup []) [.cells [.ptr 1 0],cob e0 e1 e2 2 (c++C c.length).length 3,.vec (icV (c++C c.length)),mpo vs])
def qxy (vs:List ByteArray) (id:Nat) (bn:Ob) (C:Int->Cd):Prop := ∀ (e0 e1 e2:Int),Z qad (.call id [.ptr 0 0,.ptr 1 0] [.cells [.ptr 2 0],bn,qoz e0 e1 e2 3,mpo vs]) =
  some (.ret (.tup []) [.cells [.ptr 2 0],bn,cob e0 e1 e2 4 (C 0).length 3,mpo vs,.vec (icV (C 0))])
def qdW(A:Int->Cd)(c:Cd):Cd:=c++(19,(c.length:Int)+1+(A (c.length+1)).length+1)::(A (c.length+1)++[(18,0)])
section
variable{vs:List ByteArray}{e0 e1 e2:Int}{id:Nat}{k n:Int}{s:ByteArray}{d:D}{A:Int->Cd}{L:Nat}
theorem qnk (h:Clo2 vs id (nbo k n s d) A L) (c:Cd) (hc:c≠[]) (hl:c.length+4*L+10<2^30) :
  Z qad (.call 200 [.ptr 0 0,.fn id [] [.ptr 1 0,.ptr 2 0]] [cob e0 e1 e2 3 c.length 4,.cells [.ptr 0 0],nbo k n s d,.vec (icV c),mpo vs]) =
   some (.ret (.fn 204 [] [.ptr 5 0,.ptr 6 0]) [cob e0 e1 e2 3 (qdW A c).length 4,.cells [.ptr 0 0],nbo k n s d,.vec (icV (qdW A c)),mpo vs,.cells [.ptr 0 0],.cells [.int ((c.length:Int)+1+(A (c.length+1)).length)]]):=by
 have ha:=h.ln (c.length+1)
 obtain⟨c1,h1⟩ : ∃ c1,c1=c++[((19:Int),(0:Int))]:=⟨_,rfl⟩
 have l1:c1.length=c.length+1:=by simp[h1]
 obtain⟨c2,h2⟩ : ∃ c2,c2=c1++A c1.length:=⟨_,rfl⟩
 have e1':((c1.length:Nat):Int)=c.length+1:=by omega
 have l2:c2.length=c.length+1+(A (c.length+1)).length:=by rw[h2,Wd,e1',l1]
 obtain⟨c3,h3⟩ : ∃ c3,c3=c2++[((18:Int),(0:Int))]:=⟨_,rfl⟩
 have l3:c3.length=c2.length+1:=by simp[h3]
 have f3:c3=c++(19,0)::(A (c.length+1)++[(18,0)]):=by rw[h3,h2,h1]; simp
 obtain⟨c4,h4⟩ : ∃ c4,c4=qdW A c:=⟨_,rfl⟩
 have f4:c4=c++(19,(c3.length:Int))::(A (c.length+1)++[(18,0)]):=by rw[h4,qdW,l3,l2]; simp
 have l4:c4.length=c3.length:=by rw[f4,f3]; simp
 have z1:=qpo (vs:=vs) (e0:=e0) (e1:=e1) (e2:=e2) c (by omega) 19
 rw[<- h1] at z1
 have z2:=h.one e0 e1 e2 c1 (by rw[h1]; simp) (by omega)
 rw[<- h2] at z2
 have z3:=qpo (vs:=vs) (e0:=e0) (e1:=e1) (e2:=e2) c2 (by omega) 18
 rw[<- h3] at z3
 have z4:=qea (vs:=vs) (e0:=e0) (e1:=e1) (e2:=e2) c (A (c.length+1)++[(18,0)]) 19 0 (by rw[<- f3]; omega)
 rw[<- f3,<- f4] at z4
 rw[<- h4,show ((c.length:Int)+1+(A (c.length+1)).length)=(c2.length:Int) by omega,l4]
 refine qab (pf:=F200) rfl rfl ?_
 simp[F200,z1,z2,z3,z4,V.isNilIf,Wa]
theorem qtX (h:Clo1 vs id A L) (c:Cd) (hc:c≠[]) (hl:c.length+4*L+10<2^30) :
  Z qad (.call 200 [.ptr 0 0,.fn id [] [.ptr 1 0]] [cob e0 e1 e2 2 c.length 3,.cells [.ptr 0 0],.vec (icV c),mpo vs]) =
   some (.ret (.fn 204 [] [.ptr 4 0,.ptr 5 0]) [cob e0 e1 e2 2 (qdW A c).length 3,.cells [.ptr 0 0],.vec (icV (qdW A c)),mpo vs,.cells [.ptr 0 0],.cells [.int ((c.length:Int)+1+(A (c.length+1)).length)]]):=by
 have ha:=h.ln (c.length+1)
 obtain⟨c1,h1⟩ : ∃ c1,c1=c++[((19:Int),(0:Int))]:=⟨_,rfl⟩
 have l1:c1.length=c.length+1:=by simp[h1]
 obtain⟨c2,h2⟩ : ∃ c2,c2=c1++A c1.length:=⟨_,rfl⟩
 have e1':((c1.length:Nat):Int)=c.length+1:=by omega
 have l2:c2.length=c.length+1+(A (c.length+1)).length:=by rw[h2,Wd,e1',l1]
 obtain⟨c3,h3⟩ : ∃ c3,c3=c2++[((18:Int),(0:Int))]:=⟨_,rfl⟩
 have l3:c3.length=c2.length+1:=by simp[h3]
 have f3:c3=c++(19,0)::(A (c.length+1)++[(18,0)]):=by rw[h3,h2,h1]; simp
 obtain⟨c4,h4⟩ : ∃ c4,c4=qdW A c:=⟨_,rfl⟩
 have f4:c4=c++(19,(c3.length:Int))::(A (c.length+1)++[(18,0)]):=by rw[h4,qdW,l3,l2]; simp
 have l4:c4.length=c3.length:=by rw[f4,f3]; simp
 have z1:=qpo (vs:=vs) (e0:=e0) (e1:=e1) (e2:=e2) c (by omega) 19
 rw[<- h1] at z1
 have z2:=h.one e0 e1 e2 c1 (by rw[h1]; simp) (by omega)
 rw[<- h2] at z2
 have z3:=qpo (vs:=vs) (e0:=e0) (e1:=e1) (e2:=e2) c2 (by omega) 18
 rw[<- h3] at z3
 have z4:=qea (vs:=vs) (e0:=e0) (e1:=e1) (e2:=e2) c (A (c.length+1)++[(18,0)]) 19 0 (by rw[<- f3]; omega)
 rw[<- f3,<- f4] at z4
 rw[<- h4,show ((c.length:Int)+1+(A (c.length+1)).length)=(c2.length:Int) by omega,l4]
 refine qab (pf:=F200) rfl rfl ?_
 simp[F200,z1,z2,z3,z4,V.isNilIf,Wa]
end
section
variable{vs:List ByteArray}{e0 e1 e2:Int}{i1 i2 i3:Nat}{k n:Int}{s:ByteArray}{d:D}{C A B:Int->Cd}{L La Lb:Nat}
theorem qjt(C A B:Int->Cd)(c:Cd):qdW A (c++C c.length)++B (qdW A (c++C c.length)).length=(c++C c.length++(19,((c++C c.length).length:Int)+1+(A ((c++C c.length).length+1)).length+1)::A ((c++C c.length).length+1))++(18,0)::B (qdW A (c++C c.length)).length:=by
 simp[qdW]
theorem qoB(C A B:Int->Cd)(c:Cd):(c++C c.length++(19,((c++C c.length).length:Int)+1+(A ((c++C c.length).length+1)).length+1)::A ((c++C c.length).length+1))++(18,((qdW A (c++C c.length)++B (qdW A (c++C c.length)).length).length:Int))::B (qdW A (c++C c.length)).length=c++brC C A B c.length:=by
 have e:((qdW A (c++C c.length)).length:Int)=c.length+(C c.length).length+1+(A (c.length+(C c.length).length+1)).length+1:=by
  simp only[qdW,Wd,Wf,Wm]
  rw[show ((c.length+(C c.length).length:Nat):Int)=(c.length:Int)+(C c.length).length by omega]
  omega
 simp only[brC,Wd]
 rw[show ((c.length+(C c.length).length:Nat):Int)=(c.length:Int)+(C c.length).length by omega]
 rw[show (((qdW A (c++C c.length)).length+(B (qdW A (c++C c.length)).length).length:Nat):Int)=((qdW A (c++C c.length)).length:Int)+(B (qdW A (c++C c.length)).length).length by omega,e]
 simp
theorem qoC (h1:Clo2 vs i1 (nbo k n s d) C L) (h2:Clo2 vs i2 (nbo k n s d) A La) (h3:Clo1 vs i3 B Lb) (c:Cd) (hc:c≠[]) (hl:c.length+4*(L+La+Lb+2)<2^30) (hL:0<L) :
  Z qad (.call 180 [.ptr 0 0,.fn i1 [] [.ptr 1 0,.ptr 2 0],.fn i2 [] [.ptr 1 0,.ptr 2 0],.fn i3 [] [.ptr 1 0]] [cob e0 e1 e2 3 c.length 4,.cells [.ptr 0 0],nbo k n s d,.vec (icV c),mpo vs])=some (.ret (.tup []) [cob e0 e1 e2 3 (c++brC C A B c.length).length 4,.cells [.ptr 0 0],nbo k n s d,.vec (icV (c++brC C A B c.length)),mpo vs]):=by
 obtain⟨c0,hc0⟩ : ∃ c0,c0=c++C c.length:=⟨_,rfl⟩
 have z1:=h1.one e0 e1 e2 c hc (by omega)
 rw[<- hc0] at z1
 have l0:c0.length=c.length+L:=by rw[hc0,Wd,h1.ln]
 have n0:c0≠[]:=by rw[hc0]; simp[hc]
 have la:=h2.ln (c0.length+1)
 have z2:=qnk (e0:=e0) (e1:=e1) (e2:=e2) h2 c0 n0 (by omega)
 have eb:=qjt C A B c
 have eq:=qoB C A B c
 rw[<- hc0] at eb eq
 have lf:(qdW A c0).length=c0.length+1+La+1:=by simp only[qdW,Wd,Wf,Wm,la]; omega
 obtain⟨c1,h1'⟩ : ∃ c1,c1=qdW A c0:=⟨_,rfl⟩
 rw[<- h1'] at z2 eb eq lf
 have z3:=h3.one e0 e1 e2 c1 (by rw[h1',qdW]; simp) (by omega)
 have lb:=h3.ln c1.length
 obtain⟨c2,h2'⟩ : ∃ c2,c2=c1++B c1.length:=⟨_,rfl⟩
 have l2:c2.length=c1.length+Lb:=by rw[h2',Wd,lb]
 rw[<- h2'] at z3 eb eq
 have z4:=qea (vs:=vs) (e0:=e0) (e1:=e1) (e2:=e2) (c0++(19,(c0.length:Int)+1+(A (c0.length+1)).length+1)::A (c0.length+1)) (B c1.length) 18 0 (by rw[<- eb]; omega)
 rw[<- eb,eq] at z4
 have l3:(c++brC C A B c.length).length=c2.length:=by rw[<- eq,eb]; simp
 have lk:(((c0++(19,(c0.length:Int)+1+(A (c0.length+1)).length+1)::A (c0.length+1)).length:Nat):Int)=(c0.length:Int)+1+(A (c0.length+1)).length:=by simp only[Wd,Wf]; omega
 rw[lk] at z4
 generalize c++brC C A B c.length=c3 at *
 generalize (c0.length:Int)+1+(A (c0.length+1)).length=at_ at *
 rw[l3]
 refine qab (pf:=F180) rfl rfl ?_
 simp[F180,z1,z2,z3,z4,V.isNilIf,Wa]
theorem qoD (h1:Clo2 vs i1 (nbo k n s d) C L) (h0:qxy vs i1 (nbo k n s d) C) (h2:Clo2 vs i2 (nbo k n s d) A La) (h3:Clo1 vs i3 B Lb) (hl:4*(L+La+Lb+2)<2^30) (hL:0<L) :
  Z qad (.call 180 [.ptr 0 0,.fn i1 [] [.ptr 1 0,.ptr 2 0],.fn i2 [] [.ptr 1 0,.ptr 2 0],.fn i3 [] [.ptr 1 0]] [qoz e0 e1 e2 3,.cells [.ptr 0 0],nbo k n s d,mpo vs])=some (.ret (.tup []) [cob e0 e1 e2 4 (brC C A B 0).length 3,.cells [.ptr 0 0],nbo k n s d,mpo vs,.vec (icV (brC C A B 0))]):=by
 obtain⟨c,hcn⟩ : ∃ c:Cd,c=[]:=⟨_,rfl⟩
 obtain⟨c0,hc0⟩ : ∃ c0,c0=c++C c.length:=⟨_,rfl⟩
 have z1:=h0 e0 e1 e2
 rw[show C 0=c0 by rw[hc0,hcn]; rfl] at z1
 have l0:c0.length=c.length+L:=by rw[hc0,Wd,h1.ln]
 have n0:c0≠[]:=fun e=>by rw[e] at l0; simp only[Wm] at l0; omega
 have l00:c.length=0:=by rw[hcn]; rfl
 rw[show brC C A B 0=c++brC C A B c.length by rw[hcn]; rfl]
 have la:=h2.ln (c0.length+1)
 have z2:=qnk (e0:=e0) (e1:=e1) (e2:=e2) h2 c0 n0 (by omega)
 have eb:=qjt C A B c
 have eq:=qoB C A B c
 rw[<- hc0] at eb eq
 have lf:(qdW A c0).length=c0.length+1+La+1:=by simp only[qdW,Wd,Wf,Wm,la]; omega
 obtain⟨c1,h1'⟩ : ∃ c1,c1=qdW A c0:=⟨_,rfl⟩
 rw[<- h1'] at z2 eb eq lf
 have z3:=h3.one e0 e1 e2 c1 (by rw[h1',qdW]; simp) (by omega)
 have lb:=h3.ln c1.length
 obtain⟨c2,h2'⟩ : ∃ c2,c2=c1++B c1.length:=⟨_,rfl⟩
 have l2:c2.length=c1.length+Lb:=by rw[h2',Wd,lb]
 rw[<- h2'] at z3 eb eq
 have z4:=qea (vs:=vs) (e0:=e0) (e1:=e1) (e2:=e2) (c0++(19,(c0.length:Int)+1+(A (c0.length+1)).length+1)::A (c0.length+1)) (B c1.length) 18 0 (by rw[<- eb]; omega)
 rw[<- eb,eq] at z4
 have l3:(c++brC C A B c.length).length=c2.length:=by rw[<- eq,eb]; simp
 have lk:(((c0++(19,(c0.length:Int)+1+(A (c0.length+1)).length+1)::A (c0.length+1)).length:Nat):Int)=(c0.length:Int)+1+(A (c0.length+1)).length:=by simp only[Wd,Wf]; omega
 rw[lk] at z4
 generalize c++brC C A B c.length=c3 at *
 generalize (c0.length:Int)+1+(A (c0.length+1)).length=at_ at *
 rw[l3]
 refine qab (pf:=F180) rfl rfl ?_
 simp[F180,z1,z2,z3,z4,V.isNilIf,Wa]
theorem qoE (h1:Clo2 vs i1 (nbo k n s d) C L) (h2:Clo1 vs i2 A La) (h3:Clo2 vs i3 (nbo k n s d) B Lb) (c:Cd) (hc:c≠[]) (hl:c.length+4*(L+La+Lb+2)<2^30) (hL:0<L) :
  Z qad (.call 180 [.ptr 0 0,.fn i1 [] [.ptr 1 0,.ptr 2 0],.fn i2 [] [.ptr 1 0],.fn i3 [] [.ptr 1 0,.ptr 2 0]] [cob e0 e1 e2 3 c.length 4,.cells [.ptr 0 0],nbo k n s d,.vec (icV c),mpo vs])=some (.ret (.tup []) [cob e0 e1 e2 3 (c++brC C A B c.length).length 4,.cells [.ptr 0 0],nbo k n s d,.vec (icV (c++brC C A B c.length)),mpo vs]):=by
 obtain⟨c0,hc0⟩ : ∃ c0,c0=c++C c.length:=⟨_,rfl⟩
 have z1:=h1.one e0 e1 e2 c hc (by omega)
 rw[<- hc0] at z1
 have l0:c0.length=c.length+L:=by rw[hc0,Wd,h1.ln]
 have n0:c0≠[]:=by rw[hc0]; simp[hc]
 have la:=h2.ln (c0.length+1)
 have z2:=qtX (e0:=e0) (e1:=e1) (e2:=e2) h2 c0 n0 (by omega)
 have eb:=qjt C A B c
 have eq:=qoB C A B c
 rw[<- hc0] at eb eq
 have lf:(qdW A c0).length=c0.length+1+La+1:=by simp only[qdW,Wd,Wf,Wm,la]; omega
 obtain⟨c1,h1'⟩ : ∃ c1,c1=qdW A c0:=⟨_,rfl⟩
 rw[<- h1'] at z2 eb eq lf
 have z3:=h3.one e0 e1 e2 c1 (by rw[h1',qdW]; simp) (by omega)
 have lb:=h3.ln c1.length
 obtain⟨c2,h2'⟩ : ∃ c2,c2=c1++B c1.length:=⟨_,rfl⟩
 have l2:c2.length=c1.length+Lb:=by rw[h2',Wd,lb]
 rw[<- h2'] at z3 eb eq
 have z4:=qea (vs:=vs) (e0:=e0) (e1:=e1) (e2:=e2) (c0++(19,(c0.length:Int)+1+(A (c0.length+1)).length+1)::A (c0.length+1)) (B c1.length) 18 0 (by rw[<- eb]; omega)
 rw[<- eb,eq] at z4
 have l3:(c++brC C A B c.length).length=c2.length:=by rw[<- eq,eb]; simp
 have lk:(((c0++(19,(c0.length:Int)+1+(A (c0.length+1)).length+1)::A (c0.length+1)).length:Nat):Int)=(c0.length:Int)+1+(A (c0.length+1)).length:=by simp only[Wd,Wf]; omega
 rw[lk] at z4
 generalize c++brC C A B c.length=c3 at *
 generalize (c0.length:Int)+1+(A (c0.length+1)).length=at_ at *
 rw[l3]
 refine qab (pf:=F180) rfl rfl ?_
 simp[F180,z1,z2,z3,z4,V.isNilIf,Wa]
theorem qoF (h1:Clo2 vs i1 (nbo k n s d) C L) (h0:qxy vs i1 (nbo k n s d) C) (h2:Clo1 vs i2 A La) (h3:Clo2 vs i3 (nbo k n s d) B Lb) (hl:4*(L+La+Lb+2)<2^30) (hL:0<L) :
  Z qad (.call 180 [.ptr 0 0,.fn i1 [] [.ptr 1 0,.ptr 2 0],.fn i2 [] [.ptr 1 0],.fn i3 [] [.ptr 1 0,.ptr 2 0]] [qoz e0 e1 e2 3,.cells [.ptr 0 0],nbo k n s d,mpo vs])=some (.ret (.tup []) [cob e0 e1 e2 4 (brC C A B 0).length 3,.cells [.ptr 0 0],nbo k n s d,mpo vs,.vec (icV (brC C A B 0))]):=by
 obtain⟨c,hcn⟩ : ∃ c:Cd,c=[]:=⟨_,rfl⟩
 obtain⟨c0,hc0⟩ : ∃ c0,c0=c++C c.length:=⟨_,rfl⟩
 have z1:=h0 e0 e1 e2
 rw[show C 0=c0 by rw[hc0,hcn]; rfl] at z1
 have l0:c0.length=c.length+L:=by rw[hc0,Wd,h1.ln]
 have n0:c0≠[]:=fun e=>by rw[e] at l0; simp only[Wm] at l0; omega
 have l00:c.length=0:=by rw[hcn]; rfl
 rw[show brC C A B 0=c++brC C A B c.length by rw[hcn]; rfl]
 have la:=h2.ln (c0.length+1)
 have z2:=qtX (e0:=e0) (e1:=e1) (e2:=e2) h2 c0 n0 (by omega)
 have eb:=qjt C A B c
 have eq:=qoB C A B c
 rw[<- hc0] at eb eq
 have lf:(qdW A c0).length=c0.length+1+La+1:=by simp only[qdW,Wd,Wf,Wm,la]; omega
 obtain⟨c1,h1'⟩ : ∃ c1,c1=qdW A c0:=⟨_,rfl⟩
 rw[<- h1'] at z2 eb eq lf
 have z3:=h3.one e0 e1 e2 c1 (by rw[h1',qdW]; simp) (by omega)
 have lb:=h3.ln c1.length
 obtain⟨c2,h2'⟩ : ∃ c2,c2=c1++B c1.length:=⟨_,rfl⟩
 have l2:c2.length=c1.length+Lb:=by rw[h2',Wd,lb]
 rw[<- h2'] at z3 eb eq
 have z4:=qea (vs:=vs) (e0:=e0) (e1:=e1) (e2:=e2) (c0++(19,(c0.length:Int)+1+(A (c0.length+1)).length+1)::A (c0.length+1)) (B c1.length) 18 0 (by rw[<- eb]; omega)
 rw[<- eb,eq] at z4
 have l3:(c++brC C A B c.length).length=c2.length:=by rw[<- eq,eb]; simp
 have lk:(((c0++(19,(c0.length:Int)+1+(A (c0.length+1)).length+1)::A (c0.length+1)).length:Nat):Int)=(c0.length:Int)+1+(A (c0.length+1)).length:=by simp only[Wd,Wf]; omega
 rw[lk] at z4
 generalize c++brC C A B c.length=c3 at *
 generalize (c0.length:Int)+1+(A (c0.length+1)).length=at_ at *
 rw[l3]
 refine qab (pf:=F180) rfl rfl ?_
 simp[F180,z1,z2,z3,z4,V.isNilIf,Wa]
theorem qoG (h1:Clo2 vs i1 (nbo k n s d) C L) (h2:Clo2 vs i2 (nbo k n s d) A La) (h3:Clo2 vs i3 (nbo k n s d) B Lb) (c:Cd) (hc:c≠[]) (hl:c.length+4*(L+La+Lb+2)<2^30) (hL:0<L) :
  Z qad (.call 180 [.ptr 0 0,.fn i1 [] [.ptr 1 0,.ptr 2 0],.fn i2 [] [.ptr 1 0,.ptr 2 0],.fn i3 [] [.ptr 1 0,.ptr 2 0]] [cob e0 e1 e2 3 c.length 4,.cells [.ptr 0 0],nbo k n s d,.vec (icV c),mpo vs])=some (.ret (.tup []) [cob e0 e1 e2 3 (c++brC C A B c.length).length 4,.cells [.ptr 0 0],nbo k n s d,.vec (icV (c++brC C A B c.length)),mpo vs]):=by
 obtain⟨c0,hc0⟩ : ∃ c0,c0=c++C c.length:=⟨_,rfl⟩
 have z1:=h1.one e0 e1 e2 c hc (by omega)
 rw[<- hc0] at z1
 have l0:c0.length=c.length+L:=by rw[hc0,Wd,h1.ln]
 have n0:c0≠[]:=by rw[hc0]; simp[hc]
 have la:=h2.ln (c0.length+1)
 have z2:=qnk (e0:=e0) (e1:=e1) (e2:=e2) h2 c0 n0 (by omega)
 have eb:=qjt C A B c
 have eq:=qoB C A B c
 rw[<- hc0] at eb eq
 have lf:(qdW A c0).length=c0.length+1+La+1:=by simp only[qdW,Wd,Wf,Wm,la]; omega
 obtain⟨c1,h1'⟩ : ∃ c1,c1=qdW A c0:=⟨_,rfl⟩
 rw[<- h1'] at z2 eb eq lf
 have z3:=h3.one e0 e1 e2 c1 (by rw[h1',qdW]; simp) (by omega)
 have lb:=h3.ln c1.length
 obtain⟨c2,h2'⟩ : ∃ c2,c2=c1++B c1.length:=⟨_,rfl⟩
 have l2:c2.length=c1.length+Lb:=by rw[h2',Wd,lb]
 rw[<- h2'] at z3 eb eq
 have z4:=qea (vs:=vs) (e0:=e0) (e1:=e1) (e2:=e2) (c0++(19,(c0.length:Int)+1+(A (c0.length+1)).length+1)::A (c0.length+1)) (B c1.length) 18 0 (by rw[<- eb]; omega)
 rw[<- eb,eq] at z4
 have l3:(c++brC C A B c.length).length=c2.length:=by rw[<- eq,eb]; simp
 have lk:(((c0++(19,(c0.length:Int)+1+(A (c0.length+1)).length+1)::A (c0.length+1)).length:Nat):Int)=(c0.length:Int)+1+(A (c0.length+1)).length:=by simp only[Wd,Wf]; omega
 rw[lk] at z4
 generalize c++brC C A B c.length=c3 at *
 generalize (c0.length:Int)+1+(A (c0.length+1)).length=at_ at *
 rw[l3]
 refine qab (pf:=F180) rfl rfl ?_
 simp[F180,z1,z2,z3,z4,V.isNilIf,Wa]
theorem qoH (h1:Clo2 vs i1 (nbo k n s d) C L) (h0:qxy vs i1 (nbo k n s d) C) (h2:Clo2 vs i2 (nbo k n s d) A La) (h3:Clo2 vs i3 (nbo k n s d) B Lb) (hl:4*(L+La+Lb+2)<2^30) (hL:0<L) :
  Z qad (.call 180 [.ptr 0 0,.fn i1 [] [.ptr 1 0,.ptr 2 0],.fn i2 [] [.ptr 1 0,.ptr 2 0],.fn i3 [] [.ptr 1 0,.ptr 2 0]] [qoz e0 e1 e2 3,.cells [.ptr 0 0],nbo k n s d,mpo vs])=some (.ret (.tup []) [cob e0 e1 e2 4 (brC C A B 0).length 3,.cells [.ptr 0 0],nbo k n s d,mpo vs,.vec (icV (brC C A B 0))]):=by
 obtain⟨c,hcn⟩ : ∃ c:Cd,c=[]:=⟨_,rfl⟩
 obtain⟨c0,hc0⟩ : ∃ c0,c0=c++C c.length:=⟨_,rfl⟩
 have z1:=h0 e0 e1 e2
 rw[show C 0=c0 by rw[hc0,hcn]; rfl] at z1
 have l0:c0.length=c.length+L:=by rw[hc0,Wd,h1.ln]
 have n0:c0≠[]:=fun e=>by rw[e] at l0; simp only[Wm] at l0; omega
 have l00:c.length=0:=by rw[hcn]; rfl
 rw[show brC C A B 0=c++brC C A B c.length by rw[hcn]; rfl]
 have la:=h2.ln (c0.length+1)
 have z2:=qnk (e0:=e0) (e1:=e1) (e2:=e2) h2 c0 n0 (by omega)
 have eb:=qjt C A B c
 have eq:=qoB C A B c
 rw[<- hc0] at eb eq
 have lf:(qdW A c0).length=c0.length+1+La+1:=by simp only[qdW,Wd,Wf,Wm,la]; omega
 obtain⟨c1,h1'⟩ : ∃ c1,c1=qdW A c0:=⟨_,rfl⟩
 rw[<- h1'] at z2 eb eq lf
 have z3:=h3.one e0 e1 e2 c1 (by rw[h1',qdW]; simp) (by omega)
 have lb:=h3.ln c1.length
 obtain⟨c2,h2'⟩ : ∃ c2,c2=c1++B c1.length:=⟨_,rfl⟩
 have l2:c2.length=c1.length+Lb:=by rw[h2',Wd,lb]
 rw[<- h2'] at z3 eb eq
 have z4:=qea (vs:=vs) (e0:=e0) (e1:=e1) (e2:=e2) (c0++(19,(c0.length:Int)+1+(A (c0.length+1)).length+1)::A (c0.length+1)) (B c1.length) 18 0 (by rw[<- eb]; omega)
 rw[<- eb,eq] at z4
 have l3:(c++brC C A B c.length).length=c2.length:=by rw[<- eq,eb]; simp
 have lk:(((c0++(19,(c0.length:Int)+1+(A (c0.length+1)).length+1)::A (c0.length+1)).length:Nat):Int)=(c0.length:Int)+1+(A (c0.length+1)).length:=by simp only[Wd,Wf]; omega
 rw[lk] at z4
 generalize c++brC C A B c.length=c3 at *
 generalize (c0.length:Int)+1+(A (c0.length+1)).length=at_ at *
 rw[l3]
 refine qab (pf:=F180) rfl rfl ?_
 simp[F180,z1,z2,z3,z4,V.isNilIf,Wa]
end
end
section
open F Gr
set_option maxHeartbeats 2000000
attribute [local simp] qbb qbG dkey qgh
structure TrB(vs:List ByteArray)(x:V)(C:Int->Cd)(L:Nat):Prop where
 ln:Ln C L
 one : ∀ (e0 e1 e2:Int) (c:Cd),c≠[]->c.length+4*L<2^30->Z qad (.call 147 [.ptr 0 0,x] (qcw vs e0 e1 e2 c))=some (.ret (.tup []) (qcw vs e0 e1 e2 (c++C c.length)))
structure TrOK(vs:List ByteArray)(x:V)(C:Int->Cd)(L:Nat):Prop extends TrB vs x C L where
 pos:0<L
 zero : ∀ (e0 e1 e2:Int),4*L<2^30->Z qad (.call 147 [.ptr 0 0,x] (qec vs e0 e1 e2))=some (.ret (.tup []) (qhK vs e0 e1 e2 (C 0)))
section
variable{vs:List ByteArray}{e0 e1 e2:Int}{C:Int->Cd}{L:Nat}{k n:Int}{s:ByteArray}{f:Bool}{N:Nat}{cs r:List D}{a b c1 d:D}{i:Nat}
theorem qui(h1:i<N):qae 4 (.dat (kd f N cs)) (i:Int)=some (.dat (.imm cs (i*4))):=by
 have:=qBe (f:=f) (n:=N) (cs:=cs) (i:=(i:Int)) (by omega) (by omega)
 simpa using this
theorem qf8 (h:TrB vs (.dat (.agg [a,b,c1,d])) C L) (hd:cs.drop (i*4)=a::b::c1::d::r) (hi:i<N) (c:Cd) (hc:c≠[]) (hl:c.length+4*L<2^30) :
  Z qad (.call 165 [.ptr 0 0,.dat (.agg [.lit (.int .i64 k),.lit (.int .i64 n),.lit (.string s),kd f N cs]),.int i] (qcw vs e0 e1 e2 c))=some (.ret (.tup []) (qcw vs e0 e1 e2 (c++C c.length))):=by
 have h4:=qzF hd
 have hi':(i:Int)<N:=by omega
 have z:=h.one e0 e1 e2 c hc hl
 have ha:=qui (f:=f) (cs:=cs) hi
 generalize c++C c.length=c2 at *
 refine qab (pf:=F165) rfl rfl ?_
 simp[F165,hi',ha,h4,z,Wa]
theorem qn3 (h:TrOK vs (.dat (.agg [a,b,c1,d])) C L) (hd:cs.drop (i*4)=a::b::c1::d::r) (hi:i<N) (hl:4*L<2^30) :
  Z qad (.call 165 [.ptr 0 0,.dat (.agg [.lit (.int .i64 k),.lit (.int .i64 n),.lit (.string s),kd f N cs]),.int i] (qec vs e0 e1 e2))=some (.ret (.tup []) (qhK vs e0 e1 e2 (C 0))):=by
 have h4:=qzF hd
 have hi':(i:Int)<N:=by omega
 have z:=h.zero e0 e1 e2 hl
 have ha:=qui (f:=f) (cs:=cs) hi
 generalize C 0=c2 at *
 refine qab (pf:=F165) rfl rfl ?_
 simp[F165,hi',ha,h4,z,Wa]
theorem quj(h:TrB vs (.dat (.agg [a,b,c1,d])) C L)(hd:cs.drop (0*4)=a::b::c1::d::r)(hi:0<N):Clo2 vs 181 (nbo k n s (kd f N cs)) C L where
 ln:=h.ln
 one:=fun e0 e1 e2 c hc hl=>by
  have z:=qf8 (e0:=e0) (e1:=e1) (e2:=e2) (k:=k) (n:=n) (s:=s) (f:=f) h hd hi c hc hl
  rw[show (((0:Nat)):Int)=0 from rfl] at z
  generalize c++C c.length=c2 at *
  refine qab (pf:=F181) rfl rfl ?_
  simp[F181,z,Wa]
theorem qwF(h:TrOK vs (.dat (.agg [a,b,c1,d])) C L)(hd:cs.drop (0*4)=a::b::c1::d::r)(hi:0<N)(hl:4*L<2^30):qxy vs 181 (nbo k n s (kd f N cs)) C:=fun e0 e1 e2=>by
 have z:=qn3 (e0:=e0) (e1:=e1) (e2:=e2) (k:=k) (n:=n) (s:=s) (f:=f) h hd hi hl
 rw[show (((0:Nat)):Int)=0 from rfl] at z
 generalize C 0=c2 at *
 refine qab (pf:=F181) rfl rfl ?_
 simp[F181,z,Wa]
theorem quk(h:TrB vs (.dat (.agg [a,b,c1,d])) C L)(hd:cs.drop (1*4)=a::b::c1::d::r)(hi:1<N):Clo2 vs 182 (nbo k n s (kd f N cs)) C L where
 ln:=h.ln
 one:=fun e0 e1 e2 c hc hl=>by
  have z:=qf8 (e0:=e0) (e1:=e1) (e2:=e2) (k:=k) (n:=n) (s:=s) (f:=f) h hd hi c hc hl
  rw[show (((1:Nat)):Int)=1 from rfl] at z
  generalize c++C c.length=c2 at *
  refine qab (pf:=F182) rfl rfl ?_
  simp[F182,z,Wa]
theorem qul(h:TrB vs (.dat (.agg [a,b,c1,d])) C L)(hd:cs.drop (0*4)=a::b::c1::d::r)(hi:0<N):Clo2 vs 184 (nbo k n s (kd f N cs)) C L where
 ln:=h.ln
 one:=fun e0 e1 e2 c hc hl=>by
  have z:=qf8 (e0:=e0) (e1:=e1) (e2:=e2) (k:=k) (n:=n) (s:=s) (f:=f) h hd hi c hc hl
  rw[show (((0:Nat)):Int)=0 from rfl] at z
  generalize c++C c.length=c2 at *
  refine qab (pf:=F184) rfl rfl ?_
  simp[F184,z,Wa]
theorem qwG(h:TrOK vs (.dat (.agg [a,b,c1,d])) C L)(hd:cs.drop (0*4)=a::b::c1::d::r)(hi:0<N)(hl:4*L<2^30):qxy vs 184 (nbo k n s (kd f N cs)) C:=fun e0 e1 e2=>by
 have z:=qn3 (e0:=e0) (e1:=e1) (e2:=e2) (k:=k) (n:=n) (s:=s) (f:=f) h hd hi hl
 rw[show (((0:Nat)):Int)=0 from rfl] at z
 generalize C 0=c2 at *
 refine qab (pf:=F184) rfl rfl ?_
 simp[F184,z,Wa]
theorem qum(h:TrB vs (.dat (.agg [a,b,c1,d])) C L)(hd:cs.drop (1*4)=a::b::c1::d::r)(hi:1<N):Clo2 vs 186 (nbo k n s (kd f N cs)) C L where
 ln:=h.ln
 one:=fun e0 e1 e2 c hc hl=>by
  have z:=qf8 (e0:=e0) (e1:=e1) (e2:=e2) (k:=k) (n:=n) (s:=s) (f:=f) h hd hi c hc hl
  rw[show (((1:Nat)):Int)=1 from rfl] at z
  generalize c++C c.length=c2 at *
  refine qab (pf:=F186) rfl rfl ?_
  simp[F186,z,Wa]
theorem qun(h:TrB vs (.dat (.agg [a,b,c1,d])) C L)(hd:cs.drop (0*4)=a::b::c1::d::r)(hi:0<N):Clo2 vs 188 (nbo k n s (kd f N cs)) C L where
 ln:=h.ln
 one:=fun e0 e1 e2 c hc hl=>by
  have z:=qf8 (e0:=e0) (e1:=e1) (e2:=e2) (k:=k) (n:=n) (s:=s) (f:=f) h hd hi c hc hl
  rw[show (((0:Nat)):Int)=0 from rfl] at z
  generalize c++C c.length=c2 at *
  refine qab (pf:=F188) rfl rfl ?_
  simp[F188,z,Wa]
theorem qwH(h:TrOK vs (.dat (.agg [a,b,c1,d])) C L)(hd:cs.drop (0*4)=a::b::c1::d::r)(hi:0<N)(hl:4*L<2^30):qxy vs 188 (nbo k n s (kd f N cs)) C:=fun e0 e1 e2=>by
 have z:=qn3 (e0:=e0) (e1:=e1) (e2:=e2) (k:=k) (n:=n) (s:=s) (f:=f) h hd hi hl
 rw[show (((0:Nat)):Int)=0 from rfl] at z
 generalize C 0=c2 at *
 refine qab (pf:=F188) rfl rfl ?_
 simp[F188,z,Wa]
theorem qup(h:TrB vs (.dat (.agg [a,b,c1,d])) C L)(hd:cs.drop (1*4)=a::b::c1::d::r)(hi:1<N):Clo2 vs 189 (nbo k n s (kd f N cs)) C L where
 ln:=h.ln
 one:=fun e0 e1 e2 c hc hl=>by
  have z:=qf8 (e0:=e0) (e1:=e1) (e2:=e2) (k:=k) (n:=n) (s:=s) (f:=f) h hd hi c hc hl
  rw[show (((1:Nat)):Int)=1 from rfl] at z
  generalize c++C c.length=c2 at *
  refine qab (pf:=F189) rfl rfl ?_
  simp[F189,z,Wa]
theorem quq(h:TrB vs (.dat (.agg [a,b,c1,d])) C L)(hd:cs.drop (2*4)=a::b::c1::d::r)(hi:2<N):Clo2 vs 190 (nbo k n s (kd f N cs)) C L where
 ln:=h.ln
 one:=fun e0 e1 e2 c hc hl=>by
  have z:=qf8 (e0:=e0) (e1:=e1) (e2:=e2) (k:=k) (n:=n) (s:=s) (f:=f) h hd hi c hc hl
  rw[show (((2:Nat)):Int)=2 from rfl] at z
  generalize c++C c.length=c2 at *
  refine qab (pf:=F190) rfl rfl ?_
  simp[F190,z,Wa]
theorem qur:Clo1 vs 183 (fun _=>[(1,0)]) 1 where
 ln:=fun _=>rfl
 one:=fun e0 e1 e2 c hc hl=>by
  have z:=qb8 (vs:=vs) (e0:=e0) (e1:=e1) (e2:=e2) c (by omega) 1 0
  show Z qad _=some (Res.ret (.tup []) [.cells [.ptr 1 0],cob e0 e1 e2 2 (c++[((1:Int),(0:Int))]).length 3,.vec (icV (c++[((1:Int),(0:Int))])),mpo vs])
  generalize c++[((1:Int),(0:Int))]=c2 at *
  refine qab (pf:=F183) rfl rfl ?_
  simp[F183,z,Wa]
theorem qus:Clo1 vs 185 (fun _=>[(1,1)]) 1 where
 ln:=fun _=>rfl
 one:=fun e0 e1 e2 c hc hl=>by
  have z:=qb8 (vs:=vs) (e0:=e0) (e1:=e1) (e2:=e2) c (by omega) 1 1
  show Z qad _=some (Res.ret (.tup []) [.cells [.ptr 1 0],cob e0 e1 e2 2 (c++[((1:Int),(1:Int))]).length 3,.vec (icV (c++[((1:Int),(1:Int))])),mpo vs])
  generalize c++[((1:Int),(1:Int))]=c2 at *
  refine qab (pf:=F185) rfl rfl ?_
  simp[F185,z,Wa]
end
end
section
open F Gr
set_option maxHeartbeats 2000000
attribute [local simp] qbb qbG dkey qgh
section
variable{vs:List ByteArray}
theorem qzg(n:Int):TrOK vs (E.int n).node (fun _=>[(1,n)]) 1 where
 ln:=fun _=>rfl
 pos:=by omega
 one:=fun e0 e1 e2 c hc hl=>by
  have z:=qb8 (vs:=vs) (e0:=e0) (e1:=e1) (e2:=e2) c (by omega) 1 n
  generalize c++[((1:Int),n)]=c2 at *
  refine qab (pf:=F147) rfl rfl ?_
  simp[F147,z,Wa]
 zero:=fun e0 e1 e2 hl=>by
  have z:=qll (vs:=vs) (e0:=e0) (e1:=e1) (e2:=e2) 1 n
  generalize [((1:Int),n)]=c2 at *
  refine qab (pf:=F147) rfl rfl ?_
  simp[F147,z,Wa]
theorem qwA(n:Int):TrOK vs (E.bool n).node (fun _=>[(1,n)]) 1 where
 ln:=fun _=>rfl
 pos:=by omega
 one:=fun e0 e1 e2 c hc hl=>by
  have z:=qb8 (vs:=vs) (e0:=e0) (e1:=e1) (e2:=e2) c (by omega) 1 n
  generalize c++[((1:Int),n)]=c2 at *
  refine qab (pf:=F147) rfl rfl ?_
  simp[F147,z,Wa]
 zero:=fun e0 e1 e2 hl=>by
  have z:=qll (vs:=vs) (e0:=e0) (e1:=e1) (e2:=e2) 1 n
  generalize [((1:Int),n)]=c2 at *
  refine qab (pf:=F147) rfl rfl ?_
  simp[F147,z,Wa]
theorem qzh{s:ByteArray}(hs:s∈vs):TrOK vs (E.var s).node (fun _=>[(2,ixI vs s)]) 1 where
 ln:=fun _=>rfl
 pos:=by omega
 one:=fun e0 e1 e2 c hc hl=>by
  have z:=qb8 (vs:=vs) (e0:=e0) (e1:=e1) (e2:=e2) c (by omega) 2 (ixI vs s)
  have zf:=qik s vs 0 hs
  rw[show ixI vs s+((0:Nat):Int)=ixI vs s by omega] at zf
  generalize ixI vs s=v at *
  generalize c++[((2:Int),v)]=c2 at *
  refine qab (pf:=F147) rfl rfl ?_
  simp[F147,z,zf,qd6,qbN,qaF,Wa]
 zero:=fun e0 e1 e2 hl=>by
  have z:=qll (vs:=vs) (e0:=e0) (e1:=e1) (e2:=e2) 2 (ixI vs s)
  have zf:=qik s vs 0 hs
  rw[show ixI vs s+((0:Nat):Int)=ixI vs s by omega] at zf
  generalize ixI vs s=v at *
  generalize [((2:Int),v)]=c2 at *
  refine qab (pf:=F147) rfl rfl ?_
  simp[F147,z,zf,qd6,qbN,qaF,Wa]
theorem qzi (k n:Int) (s:ByteArray) (d:D) (hd1:V.one (.dat d)=true) (hd2:V.cells (.dat d)=[.dat d]) {e0 e1 e2:Int} (c:Cd) (hc:c.length<2^30) :
  Z qad (.call 166 [.ptr 0 0,.dat (.agg [.lit (.int .i64 k),.lit (.int .i64 n),.lit (.string s),d])] (qcw vs e0 e1 e2 c))=some (.ret (.tup []) (qcw vs e0 e1 e2 (c++[(nameI s,0)]))):=by
 have z:=fun o=>qb8 (vs:=vs) (e0:=e0) (e1:=e1) (e2:=e2) c hc o 0
 refine qab (pf:=F166) rfl rfl ?_
 unfold nameI
 by_cases h1:s=⟨#[115,101,108,102]⟩
 ·have q1:=(qbd s ⟨#[115,101,108,102]⟩).trans (decide_eq_true h1)
  rw[if_pos h1]
  have z:=z 6
  generalize c++[((6:Int),(0:Int))]=c2 at *
  simp[F166,q1,z,hd1,hd2,Wa]
 ·have q1:=(qbd s ⟨#[115,101,108,102]⟩).trans (decide_eq_false h1)
  rw[if_neg h1]
  by_cases h2:s=⟨#[111,116,104,101,114]⟩
  ·have q2:=(qbd s ⟨#[111,116,104,101,114]⟩).trans (decide_eq_true h2)
   rw[if_pos h2]
   have z:=z 7
   generalize c++[((7:Int),(0:Int))]=c2 at *
   simp[F166,q1,q2,z,hd1,hd2,Wa]
  ·have q2:=(qbd s ⟨#[111,116,104,101,114]⟩).trans (decide_eq_false h2)
   rw[if_neg h2]
   have z:=z 8
   generalize c++[((8:Int),(0:Int))]=c2 at *
   simp[F166,q1,q2,z,hd1,hd2,Wa]
theorem qzj (k n:Int) (s:ByteArray) (d:D) (hd1:V.one (.dat d)=true) (hd2:V.cells (.dat d)=[.dat d]) {e0 e1 e2:Int} :
  Z qad (.call 166 [.ptr 0 0,.dat (.agg [.lit (.int .i64 k),.lit (.int .i64 n),.lit (.string s),d])] (qec vs e0 e1 e2))=some (.ret (.tup []) (qhK vs e0 e1 e2 [(nameI s,0)])):=by
 have z:=fun o=>qll (vs:=vs) (e0:=e0) (e1:=e1) (e2:=e2) o 0
 refine qab (pf:=F166) rfl rfl ?_
 unfold nameI
 by_cases h1:s=⟨#[115,101,108,102]⟩
 ·have q1:=(qbd s ⟨#[115,101,108,102]⟩).trans (decide_eq_true h1)
  rw[if_pos h1]
  have z:=z 6
  generalize [((6:Int),(0:Int))]=c2 at *
  simp[F166,q1,z,hd1,hd2,Wa]
 ·have q1:=(qbd s ⟨#[115,101,108,102]⟩).trans (decide_eq_false h1)
  rw[if_neg h1]
  by_cases h2:s=⟨#[111,116,104,101,114]⟩
  ·have q2:=(qbd s ⟨#[111,116,104,101,114]⟩).trans (decide_eq_true h2)
   rw[if_pos h2]
   have z:=z 7
   generalize [((7:Int),(0:Int))]=c2 at *
   simp[F166,q1,q2,z,hd1,hd2,Wa]
  ·have q2:=(qbd s ⟨#[111,116,104,101,114]⟩).trans (decide_eq_false h2)
   rw[if_neg h2]
   have z:=z 8
   generalize [((8:Int),(0:Int))]=c2 at *
   simp[F166,q1,q2,z,hd1,hd2,Wa]
theorem qwB(s:ByteArray):TrOK vs (E.name s).node (fun _=>[(nameI s,0)]) 1 where
 ln:=fun _=>rfl
 pos:=by omega
 one:=fun e0 e1 e2 c hc hl=>by
  have z:=qzi (vs:=vs) (e0:=e0) (e1:=e1) (e2:=e2) 12 0 s (.lit (.slice none 0 0)) rfl rfl c (by omega)
  generalize nameI s=v at *
  generalize c++[(v,(0:Int))]=c2 at *
  refine qab (pf:=F147) rfl rfl ?_
  simp[F147,z,Wa]
 zero:=fun e0 e1 e2 hl=>by
  have z:=qzj (vs:=vs) (e0:=e0) (e1:=e1) (e2:=e2) 12 0 s (.lit (.slice none 0 0)) rfl rfl
  generalize nameI s=v at *
  generalize [(v,(0:Int))]=c2 at *
  refine qab (pf:=F147) rfl rfl ?_
  simp[F147,z,Wa]
theorem qwC(A:Int->Cd)(i:Int × Int)(c:Cd):(c++A c.length)++[i]=c++snC A i c.length:=by simp[snC]
theorem qiT{c x:Cd}(h:c≠[]):c++x≠[]:=by simp[h]
theorem qta(f:Bool){s:ByteArray}(hs:s∈qdU){a:E}{A:Int->Cd}{L:Nat}(h:TrOK vs a.node A L):TrOK vs (E.field f s a).node (snC A (4,fieldI s)) (L+1) where
 ln:=qco h.ln
 pos:=by omega
 one:=fun e0 e1 e2 c hc hl=>by
  have z1:Z qad (.call 165 [.ptr 0 0,(E.field f s a).node,.int 0] (qcw vs e0 e1 e2 c))=_:=qf8 (f:=f) (N:=1) (i:=0) (e0:=e0) (e1:=e1) (e2:=e2) h.toTrB rfl (by omega) c hc (by omega)
  have zf:=qhT hs
  have l1:(c++A c.length).length<2^30:=by rw[Wd,h.ln]; omega
  have z2:=qb8 (vs:=vs) (e0:=e0) (e1:=e1) (e2:=e2) (c++A c.length) l1 4 (fieldI s)
  rw[qwC] at z2
  simp only[E.node,qjZ,ql2,ql3,qhc] at z1
  generalize c++A c.length=c1 at *
  generalize c++snC A (4,fieldI s) c.length=c2 at *
  refine qab (pf:=F147) rfl rfl ?_
  simp[F147,z1,z2,zf,Wa]
 zero:=fun e0 e1 e2 hl=>by
  have z1:Z qad (.call 165 [.ptr 0 0,(E.field f s a).node,.int 0] (qec vs e0 e1 e2))=_:=qn3 (f:=f) (N:=1) (i:=0) (e0:=e0) (e1:=e1) (e2:=e2) h rfl (by omega) (by omega)
  have zf:=qhT hs
  have l1:(A 0).length<2^30:=by rw[h.ln]; omega
  have z2:=qb8 (vs:=vs) (e0:=e0) (e1:=e1) (e2:=e2) (A 0) l1 4 (fieldI s)
  rw[show A 0++[((4:Int),fieldI s)]=snC A (4,fieldI s) 0 from rfl] at z2
  simp only[E.node,qjZ,ql2,ql3,qhc] at z1
  generalize A 0=c1 at *
  generalize snC A (4,fieldI s) 0=c2 at *
  refine qab (pf:=F147) rfl rfl ?_
  simp[F147,z1,z2,zf,Wa]
theorem qq0(f:Bool){a:E}{A:Int->Cd}{L:Nat}(h:TrOK vs a.node A L){e0 e1 e2:Int}(c:Cd)(hc:c≠[])(hl:c.length+4*L<2^30):Z qad (.call 167 [.ptr 0 0,(E.un f true a).node] (qcw vs e0 e1 e2 c))=some (.ret (.tup []) (qcw vs e0 e1 e2 (c++snC A (13,0) c.length))):=by
 have hp:=h.pos
 have z1:Z qad (.call 165 [.ptr 0 0,(E.un f true a).node,.int 0] (qcw vs e0 e1 e2 c))=_:=qf8 (f:=f) (N:=1) (i:=0) (e0:=e0) (e1:=e1) (e2:=e2) h.toTrB rfl (by omega) c hc (by omega)
 have l1:(c++A c.length).length<2^30:=by rw[Wd,h.ln]; omega
 have z2:=qb8 (vs:=vs) (e0:=e0) (e1:=e1) (e2:=e2) (c++A c.length) l1 13 0
 rw[qwC] at z2
 simp only[E.node,qfi,qhG,qhH,qeK,ustr,Wo,if_true,if_false] at z1
 generalize c++A c.length=c1 at *
 generalize c++snC A (13,0) c.length=c2 at *
 refine qab (pf:=F167) rfl rfl ?_
 simp[F167,z1,z2,ustr,Wa]
theorem qq1(f:Bool){a:E}{A:Int->Cd}{L:Nat}(h:TrOK vs a.node A L){e0 e1 e2:Int}(hl:4*L<2^30):Z qad (.call 167 [.ptr 0 0,(E.un f true a).node] (qec vs e0 e1 e2))=some (.ret (.tup []) (qhK vs e0 e1 e2 (snC A (13,0) 0))):=by
 have hp:=h.pos
 have z1:Z qad (.call 165 [.ptr 0 0,(E.un f true a).node,.int 0] (qec vs e0 e1 e2))=_:=qn3 (f:=f) (N:=1) (i:=0) (e0:=e0) (e1:=e1) (e2:=e2) h rfl (by omega) (by omega)
 have l1:(A 0).length<2^30:=by rw[h.ln]; omega
 have z2:=qb8 (vs:=vs) (e0:=e0) (e1:=e1) (e2:=e2) (A 0) l1 13 0
 rw[show A 0++[((13:Int),(0:Int))]=snC A (13,0) 0 from rfl] at z2
 simp only[E.node,qfi,qhG,qhH,qeK,ustr,Wo,if_true,if_false] at z1
 generalize A 0=c1 at *
 generalize snC A (13,0) 0=c2 at *
 refine qab (pf:=F167) rfl rfl ?_
 simp[F167,z1,z2,ustr,Wa]
theorem qo3(f:Bool){a:E}{A:Int->Cd}{L:Nat}(h:TrOK vs a.node A L):TrOK vs (E.un f true a).node (snC A (13,0)) (L+1) where
 ln:=qco h.ln
 pos:=by omega
 one:=fun e0 e1 e2 c hc hl=>by
  have z:=qq0 f h (e0:=e0) (e1:=e1) (e2:=e2) c hc (by omega)
  simp only[E.node,qfi,qhG,qhH,qeK,ustr,Wo,if_true,if_false] at z
  generalize c++snC A (13,0) c.length=c2 at *
  refine qab (pf:=F147) rfl rfl ?_
  simp[F147,z,ustr,Wa]
 zero:=fun e0 e1 e2 hl=>by
  have z:=qq1 f h (e0:=e0) (e1:=e1) (e2:=e2) (by omega)
  simp only[E.node,qfi,qhG,qhH,qeK,ustr,Wo,if_true,if_false] at z
  generalize snC A (13,0) 0=c2 at *
  refine qab (pf:=F147) rfl rfl ?_
  simp[F147,z,ustr,Wa]
theorem qo4(f:Bool){a:E}{A:Int->Cd}{L:Nat}(h:TrOK vs a.node A L){e0 e1 e2:Int}(c:Cd)(hc:c≠[])(hl:c.length+4*L<2^30):Z qad (.call 167 [.ptr 0 0,(E.un f false a).node] (qcw vs e0 e1 e2 c))=some (.ret (.tup []) (qcw vs e0 e1 e2 (c++snC A (17,0) c.length))):=by
 have hp:=h.pos
 have z1:Z qad (.call 165 [.ptr 0 0,(E.un f false a).node,.int 0] (qcw vs e0 e1 e2 c))=_:=qf8 (f:=f) (N:=1) (i:=0) (e0:=e0) (e1:=e1) (e2:=e2) h.toTrB rfl (by omega) c hc (by omega)
 have l1:(c++A c.length).length<2^30:=by rw[Wd,h.ln]; omega
 have z2:=qb8 (vs:=vs) (e0:=e0) (e1:=e1) (e2:=e2) (c++A c.length) l1 17 0
 rw[qwC] at z2
 simp only[E.node,qfi,qhG,qhH,qeK,ustr,Wo,if_true,if_false] at z1
 generalize c++A c.length=c1 at *
 generalize c++snC A (17,0) c.length=c2 at *
 refine qab (pf:=F167) rfl rfl ?_
 simp[F167,z1,z2,ustr,Wa]
theorem qo5(f:Bool){a:E}{A:Int->Cd}{L:Nat}(h:TrOK vs a.node A L){e0 e1 e2:Int}(hl:4*L<2^30):Z qad (.call 167 [.ptr 0 0,(E.un f false a).node] (qec vs e0 e1 e2))=some (.ret (.tup []) (qhK vs e0 e1 e2 (snC A (17,0) 0))):=by
 have hp:=h.pos
 have z1:Z qad (.call 165 [.ptr 0 0,(E.un f false a).node,.int 0] (qec vs e0 e1 e2))=_:=qn3 (f:=f) (N:=1) (i:=0) (e0:=e0) (e1:=e1) (e2:=e2) h rfl (by omega) (by omega)
 have l1:(A 0).length<2^30:=by rw[h.ln]; omega
 have z2:=qb8 (vs:=vs) (e0:=e0) (e1:=e1) (e2:=e2) (A 0) l1 17 0
 rw[show A 0++[((17:Int),(0:Int))]=snC A (17,0) 0 from rfl] at z2
 simp only[E.node,qfi,qhG,qhH,qeK,ustr,Wo,if_true,if_false] at z1
 generalize A 0=c1 at *
 generalize snC A (17,0) 0=c2 at *
 refine qab (pf:=F167) rfl rfl ?_
 simp[F167,z1,z2,ustr,Wa]
theorem qmV(f:Bool){a:E}{A:Int->Cd}{L:Nat}(h:TrOK vs a.node A L):TrOK vs (E.un f false a).node (snC A (17,0)) (L+1) where
 ln:=qco h.ln
 pos:=by omega
 one:=fun e0 e1 e2 c hc hl=>by
  have z:=qo4 f h (e0:=e0) (e1:=e1) (e2:=e2) c hc (by omega)
  simp only[E.node,qfi,qhG,qhH,qeK,ustr,Wo,if_true,if_false] at z
  generalize c++snC A (17,0) c.length=c2 at *
  refine qab (pf:=F147) rfl rfl ?_
  simp[F147,z,ustr,Wa]
 zero:=fun e0 e1 e2 hl=>by
  have z:=qo5 f h (e0:=e0) (e1:=e1) (e2:=e2) (by omega)
  simp only[E.node,qfi,qhG,qhH,qeK,ustr,Wo,if_true,if_false] at z
  generalize snC A (17,0) 0=c2 at *
  refine qab (pf:=F147) rfl rfl ?_
  simp[F147,z,ustr,Wa]
end
end
section
open F Gr
set_option maxHeartbeats 2000000
attribute [local simp] qbb qbG dkey qgh
theorem qri(A B:Int->Cd)(c:Cd):(c++A c.length)++B (c++A c.length).length=c++sq A B c.length:=by
 simp only[sq,Wj,Wd]
 rw[show ((c.length+(A c.length).length:Nat):Int)=c.length+(A c.length).length by omega]
section
variable{vs:List ByteArray}{a b:E}{A B:Int->Cd}{La Lb:Nat}{e0 e1 e2:Int}
theorem qwW(ha:TrOK vs a.node A La)(hb:TrOK vs b.node B Lb)(f:Bool)(c:Cd)(hc:c≠[])(hl:c.length+4*(La+Lb+3)<2^30):Z qad (.call 168 [.ptr 0 0,(E.bin f .and a b).node] (qcw vs e0 e1 e2 c))=some (.ret (.tup []) (qcw vs e0 e1 e2 (c++(brC A B (fun _=>[(1,0)])) c.length))):=by
 have s1:=qfU .and
 have s2:=qji .and
 have hpa:=ha.pos
 have z:=qoC (vs:=vs) (e0:=e0) (e1:=e1) (e2:=e2) (quj (k:=14) (n:=0) (s:=(Bop.and).str) (f:=f) (N:=2) (cs:=[.lit (.int .i64 a.kind),.lit (.int .i64 a.num),.lit (.string a.str),a.kids,.lit (.int .i64 b.kind),.lit (.int .i64 b.num),.lit (.string b.str),b.kids]) ha.toTrB rfl (by omega)) (quk (k:=14) (n:=0) (s:=(Bop.and).str) (f:=f) (N:=2) (cs:=[.lit (.int .i64 a.kind),.lit (.int .i64 a.num),.lit (.string a.str),a.kids,.lit (.int .i64 b.kind),.lit (.int .i64 b.num),.lit (.string b.str),b.kids]) hb.toTrB rfl (by omega)) (qur) c hc (by omega) ha.pos
 simp only[nbo,qkZ] at z
 generalize c++(brC A B (fun _=>[(1,0)])) c.length=c2 at *
 refine qab (pf:=F168) rfl rfl ?_
 simp[F168,s1,s2,qiV,qq7,z,Wa]
theorem qwX(ha:TrOK vs a.node A La)(hb:TrOK vs b.node B Lb)(f:Bool)(hl:4*(La+Lb+3)<2^30):Z qad (.call 168 [.ptr 0 0,(E.bin f .and a b).node] (qec vs e0 e1 e2))=some (.ret (.tup []) (qhK vs e0 e1 e2 ((brC A B (fun _=>[(1,0)])) 0))):=by
 have s1:=qfU .and
 have s2:=qji .and
 have hpa:=ha.pos
 have z:=qoD (vs:=vs) (e0:=e0) (e1:=e1) (e2:=e2) (quj (k:=14) (n:=0) (s:=(Bop.and).str) (f:=f) (N:=2) (cs:=[.lit (.int .i64 a.kind),.lit (.int .i64 a.num),.lit (.string a.str),a.kids,.lit (.int .i64 b.kind),.lit (.int .i64 b.num),.lit (.string b.str),b.kids]) ha.toTrB rfl (by omega)) (qwF (k:=14) (n:=0) (s:=(Bop.and).str) (f:=f) (N:=2) (cs:=[.lit (.int .i64 a.kind),.lit (.int .i64 a.num),.lit (.string a.str),a.kids,.lit (.int .i64 b.kind),.lit (.int .i64 b.num),.lit (.string b.str),b.kids]) ha rfl (by omega) (by omega)) (quk (k:=14) (n:=0) (s:=(Bop.and).str) (f:=f) (N:=2) (cs:=[.lit (.int .i64 a.kind),.lit (.int .i64 a.num),.lit (.string a.str),a.kids,.lit (.int .i64 b.kind),.lit (.int .i64 b.num),.lit (.string b.str),b.kids]) hb.toTrB rfl (by omega)) (qur) (by omega) ha.pos
 simp only[nbo,qkZ] at z
 generalize (brC A B (fun _=>[(1,0)])) 0=c2 at *
 refine qab (pf:=F168) rfl rfl ?_
 simp[F168,s1,s2,qiV,qq7,z,Wa]
theorem qzu(ha:TrOK vs a.node A La)(hb:TrOK vs b.node B Lb)(f:Bool)(c:Cd)(hc:c≠[])(hl:c.length+4*(La+Lb+3)<2^30):Z qad (.call 168 [.ptr 0 0,(E.bin f .or a b).node] (qcw vs e0 e1 e2 c))=some (.ret (.tup []) (qcw vs e0 e1 e2 (c++(brC A (fun _=>[(1,1)]) B) c.length))):=by
 have s1:=qfU .or
 have s2:=qji .or
 have hpa:=ha.pos
 have z:=qoE (vs:=vs) (e0:=e0) (e1:=e1) (e2:=e2) (qul (k:=14) (n:=0) (s:=(Bop.or).str) (f:=f) (N:=2) (cs:=[.lit (.int .i64 a.kind),.lit (.int .i64 a.num),.lit (.string a.str),a.kids,.lit (.int .i64 b.kind),.lit (.int .i64 b.num),.lit (.string b.str),b.kids]) ha.toTrB rfl (by omega)) (qus) (qum (k:=14) (n:=0) (s:=(Bop.or).str) (f:=f) (N:=2) (cs:=[.lit (.int .i64 a.kind),.lit (.int .i64 a.num),.lit (.string a.str),a.kids,.lit (.int .i64 b.kind),.lit (.int .i64 b.num),.lit (.string b.str),b.kids]) hb.toTrB rfl (by omega)) c hc (by omega) ha.pos
 simp only[nbo,qkZ] at z
 generalize c++(brC A (fun _=>[(1,1)]) B) c.length=c2 at *
 refine qab (pf:=F168) rfl rfl ?_
 simp[F168,s1,s2,qiV,qq7,z,Wa]
theorem qzv(ha:TrOK vs a.node A La)(hb:TrOK vs b.node B Lb)(f:Bool)(hl:4*(La+Lb+3)<2^30):Z qad (.call 168 [.ptr 0 0,(E.bin f .or a b).node] (qec vs e0 e1 e2))=some (.ret (.tup []) (qhK vs e0 e1 e2 ((brC A (fun _=>[(1,1)]) B) 0))):=by
 have s1:=qfU .or
 have s2:=qji .or
 have hpa:=ha.pos
 have z:=qoF (vs:=vs) (e0:=e0) (e1:=e1) (e2:=e2) (qul (k:=14) (n:=0) (s:=(Bop.or).str) (f:=f) (N:=2) (cs:=[.lit (.int .i64 a.kind),.lit (.int .i64 a.num),.lit (.string a.str),a.kids,.lit (.int .i64 b.kind),.lit (.int .i64 b.num),.lit (.string b.str),b.kids]) ha.toTrB rfl (by omega)) (qwG (k:=14) (n:=0) (s:=(Bop.or).str) (f:=f) (N:=2) (cs:=[.lit (.int .i64 a.kind),.lit (.int .i64 a.num),.lit (.string a.str),a.kids,.lit (.int .i64 b.kind),.lit (.int .i64 b.num),.lit (.string b.str),b.kids]) ha rfl (by omega) (by omega)) (qus) (qum (k:=14) (n:=0) (s:=(Bop.or).str) (f:=f) (N:=2) (cs:=[.lit (.int .i64 a.kind),.lit (.int .i64 a.num),.lit (.string a.str),a.kids,.lit (.int .i64 b.kind),.lit (.int .i64 b.num),.lit (.string b.str),b.kids]) hb.toTrB rfl (by omega)) (by omega) ha.pos
 simp only[nbo,qkZ] at z
 generalize (brC A (fun _=>[(1,1)]) B) 0=c2 at *
 refine qab (pf:=F168) rfl rfl ?_
 simp[F168,s1,s2,qiV,qq7,z,Wa]
theorem qrj(ha:TrOK vs a.node A La)(hb:TrOK vs b.node B Lb)(f:Bool){o:Bop}(h1:qiV o=false)(h2:qq7 o=false)(h3:qtc o=true\/qwK o=true)(c:Cd)(hc:c≠[])(hl:c.length+4*(La+Lb+1)<2^30):Z qad (.call 168 [.ptr 0 0,(E.bin f o a b).node] (qcw vs e0 e1 e2 c))=some (.ret (.tup []) (qcw vs e0 e1 e2 (c++(snC (sq B A) (opI o,0)) c.length))):=by
 have s1:=qfU o
 have s2:=qji o
 have s3:=qpc o
 have s4:=qpd o
 have s5:=qpe o
 have hpa:=ha.pos
 have hpb:=hb.pos
 have z1:Z qad (.call 165 [.ptr 0 0,(E.bin f o a b).node,.int 1] (qcw vs e0 e1 e2 c))=_:=qf8 (f:=f) (N:=2) (i:=1) (e0:=e0) (e1:=e1) (e2:=e2) hb.toTrB rfl (by omega) c hc (by omega)
 have l1:(c++B c.length).length=c.length+Lb:=by rw[Wd,hb.ln]
 have z2:Z qad (.call 165 [.ptr 0 0,(E.bin f o a b).node,.int 0] (qcw vs e0 e1 e2 (c++B c.length)))=_:=qf8 (f:=f) (N:=2) (i:=0) (e0:=e0) (e1:=e1) (e2:=e2) ha.toTrB rfl (by omega) (c++B c.length) (qiT hc) (by omega)
 rw[qri] at z2
 have l2:(c++sq B A c.length).length<2^30:=by rw[Wd,qbO hb.ln ha.ln]; omega
 have zo:=qhS o (fun e=>by rw[e] at h1; exact absurd h1 (by decide)) (fun e=>by rw[e] at h2; exact absurd h2 (by decide))
 have z3:=qb8 (vs:=vs) (e0:=e0) (e1:=e1) (e2:=e2) (c++sq B A c.length) l2 (opI o) 0
 rw[show (c++sq B A c.length)++[(opI o,(0:Int))]=c++(snC (sq B A) (opI o,0)) c.length by simp[snC]] at z3
 simp only[E.node,qd2,qfj,qfk,qdt] at z1 z2
 generalize c++(snC (sq B A) (opI o,0)) c.length=c5 at *
 generalize c++sq B A c.length=c3 at *
 generalize c++B c.length=c1 at *
 refine qab (pf:=F168) rfl rfl ?_
 rcases h3 with h3|h3
 ·simp[F168,s1,s2,s3,h1,h2,h3,z1,z2,z3,zo,qbN,qaF,Wa]
 ·cases hg:qtc o with
  |true=>simp[F168,s1,s2,s3,h1,h2,hg,z1,z2,z3,zo,qbN,qaF,Wa]
  |false=>simp[F168,s1,s2,s3,s4,h1,h2,h3,hg,z1,z2,z3,zo,qbN,qaF,Wa]
theorem qzw(ha:TrOK vs a.node A La)(hb:TrOK vs b.node B Lb)(f:Bool){o:Bop}(ho:o = .ne)(c:Cd)(hc:c≠[])(hl:c.length+4*(La+Lb+1)<2^30):Z qad (.call 168 [.ptr 0 0,(E.bin f o a b).node] (qcw vs e0 e1 e2 c))=some (.ret (.tup []) (qcw vs e0 e1 e2 (c++(snC (snC (sq A B) (16,0)) (17,0)) c.length))):=by
 subst ho
 have s1:=qfU .ne
 have s2:=qji .ne
 have s3:=qpc .ne
 have s4:=qpd .ne
 have s5:=qpe .ne
 have hpa:=ha.pos
 have hpb:=hb.pos
 have z1:Z qad (.call 165 [.ptr 0 0,(E.bin f .ne a b).node,.int 0] (qcw vs e0 e1 e2 c))=_:=qf8 (f:=f) (N:=2) (i:=0) (e0:=e0) (e1:=e1) (e2:=e2) ha.toTrB rfl (by omega) c hc (by omega)
 have l1:(c++A c.length).length=c.length+La:=by rw[Wd,ha.ln]
 have z2:Z qad (.call 165 [.ptr 0 0,(E.bin f .ne a b).node,.int 1] (qcw vs e0 e1 e2 (c++A c.length)))=_:=qf8 (f:=f) (N:=2) (i:=1) (e0:=e0) (e1:=e1) (e2:=e2) hb.toTrB rfl (by omega) (c++A c.length) (qiT hc) (by omega)
 rw[qri] at z2
 have l2:(c++sq A B c.length).length<2^30:=by rw[Wd,qbO ha.ln hb.ln]; omega
 have z3:=qb8 (vs:=vs) (e0:=e0) (e1:=e1) (e2:=e2) (c++sq A B c.length) l2 16 0
 rw[show (c++sq A B c.length)++[((16:Int),(0:Int))]=c++snC (sq A B) (16,0) c.length by simp[snC]] at z3
 have l3:(c++snC (sq A B) (16,0) c.length).length<2^30:=by rw[Wd,qco (qbO ha.ln hb.ln)]; omega
 have z4:=qb8 (vs:=vs) (e0:=e0) (e1:=e1) (e2:=e2) (c++snC (sq A B) (16,0) c.length) l3 17 0
 rw[show (c++snC (sq A B) (16,0) c.length)++[((17:Int),(0:Int))]=c++(snC (snC (sq A B) (16,0)) (17,0)) c.length by simp[snC]] at z4
 simp only[E.node,qd2,qfj,qfk,qdt] at z1 z2
 generalize c++(snC (snC (sq A B) (16,0)) (17,0)) c.length=c5 at *
 generalize c++snC (sq A B) (16,0) c.length=c4 at *
 generalize c++sq A B c.length=c3 at *
 generalize c++A c.length=c1 at *
 refine qab (pf:=F168) rfl rfl ?_
 simp[F168,s1,s2,s3,s4,s5,qiV,qq7,qtc,qwK,qzl,z1,z2,z3,z4,qbN,qaF,Wa]
theorem qga(ha:TrOK vs a.node A La)(hb:TrOK vs b.node B Lb)(f:Bool){o:Bop}(h1:qiV o=false)(h2:qq7 o=false)(h3:qtc o=false)(h4:qwK o=false)(h5:qzl o=false)(c:Cd)(hc:c≠[])(hl:c.length+4*(La+Lb+1)<2^30):Z qad (.call 168 [.ptr 0 0,(E.bin f o a b).node] (qcw vs e0 e1 e2 c))=some (.ret (.tup []) (qcw vs e0 e1 e2 (c++(snC (sq A B) (opI o,0)) c.length))):=by
 have s1:=qfU o
 have s2:=qji o
 have s3:=qpc o
 have s4:=qpd o
 have s5:=qpe o
 have hpa:=ha.pos
 have hpb:=hb.pos
 have z1:Z qad (.call 165 [.ptr 0 0,(E.bin f o a b).node,.int 0] (qcw vs e0 e1 e2 c))=_:=qf8 (f:=f) (N:=2) (i:=0) (e0:=e0) (e1:=e1) (e2:=e2) ha.toTrB rfl (by omega) c hc (by omega)
 have l1:(c++A c.length).length=c.length+La:=by rw[Wd,ha.ln]
 have z2:Z qad (.call 165 [.ptr 0 0,(E.bin f o a b).node,.int 1] (qcw vs e0 e1 e2 (c++A c.length)))=_:=qf8 (f:=f) (N:=2) (i:=1) (e0:=e0) (e1:=e1) (e2:=e2) hb.toTrB rfl (by omega) (c++A c.length) (qiT hc) (by omega)
 rw[qri] at z2
 have l2:(c++sq A B c.length).length<2^30:=by rw[Wd,qbO ha.ln hb.ln]; omega
 have zo:=qhS o (fun e=>by rw[e] at h1; exact absurd h1 (by decide)) (fun e=>by rw[e] at h2; exact absurd h2 (by decide))
 have z3:=qb8 (vs:=vs) (e0:=e0) (e1:=e1) (e2:=e2) (c++sq A B c.length) l2 (opI o) 0
 rw[show (c++sq A B c.length)++[(opI o,(0:Int))]=c++(snC (sq A B) (opI o,0)) c.length by simp[snC]] at z3
 simp only[E.node,qd2,qfj,qfk,qdt] at z1 z2
 generalize c++(snC (sq A B) (opI o,0)) c.length=c5 at *
 generalize c++sq A B c.length=c3 at *
 generalize c++A c.length=c1 at *
 refine qab (pf:=F168) rfl rfl ?_
 simp[F168,s1,s2,s3,s4,s5,h1,h2,h3,h4,h5,z1,z2,z3,zo,qbN,qaF,Wa]
theorem qrk(ha:TrOK vs a.node A La)(hb:TrOK vs b.node B Lb)(f:Bool){o:Bop}(h1:qiV o=false)(h2:qq7 o=false)(h3:qtc o=true\/qwK o=true)(hl:4*(La+Lb+1)<2^30):Z qad (.call 168 [.ptr 0 0,(E.bin f o a b).node] (qec vs e0 e1 e2))=some (.ret (.tup []) (qhK vs e0 e1 e2 ((snC (sq B A) (opI o,0)) 0))):=by
 have s1:=qfU o
 have s2:=qji o
 have s3:=qpc o
 have s4:=qpd o
 have s5:=qpe o
 have hpa:=ha.pos
 have hpb:=hb.pos
 have z1:Z qad (.call 165 [.ptr 0 0,(E.bin f o a b).node,.int 1] (qec vs e0 e1 e2))=_:=qn3 (f:=f) (N:=2) (i:=1) (e0:=e0) (e1:=e1) (e2:=e2) hb rfl (by omega) (by omega)
 have l1:(B 0).length=Lb:=hb.ln 0
 have n1:B 0≠[]:=fun e=>by rw[e] at l1; simp only[Wm] at l1; have:=hb.pos; omega
 have z2:Z qad (.call 165 [.ptr 0 0,(E.bin f o a b).node,.int 0] (qcw vs e0 e1 e2 (B 0)))=_:=qf8 (f:=f) (N:=2) (i:=0) (e0:=e0) (e1:=e1) (e2:=e2) ha.toTrB rfl (by omega) (B 0) n1 (by omega)
 rw[show B 0++A (B 0).length=sq B A 0 by simp[sq]] at z2
 have l2:(sq B A 0).length<2^30:=by rw[qbO hb.ln ha.ln]; omega
 have zo:=qhS o (fun e=>by rw[e] at h1; exact absurd h1 (by decide)) (fun e=>by rw[e] at h2; exact absurd h2 (by decide))
 have z3:=qb8 (vs:=vs) (e0:=e0) (e1:=e1) (e2:=e2) (sq B A 0) l2 (opI o) 0
 rw[show (sq B A 0)++[(opI o,(0:Int))]=(snC (sq B A) (opI o,0)) 0 by simp[snC]] at z3
 simp only[E.node,qd2,qfj,qfk,qdt] at z1 z2
 generalize (snC (sq B A) (opI o,0)) 0=c5 at *
 generalize sq B A 0=c3 at *
 generalize B 0=c1 at *
 refine qab (pf:=F168) rfl rfl ?_
 rcases h3 with h3|h3
 ·simp[F168,s1,s2,s3,h1,h2,h3,z1,z2,z3,zo,qbN,qaF,Wa]
 ·cases hg:qtc o with
  |true=>simp[F168,s1,s2,s3,h1,h2,hg,z1,z2,z3,zo,qbN,qaF,Wa]
  |false=>simp[F168,s1,s2,s3,s4,h1,h2,h3,hg,z1,z2,z3,zo,qbN,qaF,Wa]
theorem qzx(ha:TrOK vs a.node A La)(hb:TrOK vs b.node B Lb)(f:Bool){o:Bop}(ho:o = .ne)(hl:4*(La+Lb+1)<2^30):Z qad (.call 168 [.ptr 0 0,(E.bin f o a b).node] (qec vs e0 e1 e2))=some (.ret (.tup []) (qhK vs e0 e1 e2 ((snC (snC (sq A B) (16,0)) (17,0)) 0))):=by
 subst ho
 have s1:=qfU .ne
 have s2:=qji .ne
 have s3:=qpc .ne
 have s4:=qpd .ne
 have s5:=qpe .ne
 have hpa:=ha.pos
 have hpb:=hb.pos
 have z1:Z qad (.call 165 [.ptr 0 0,(E.bin f .ne a b).node,.int 0] (qec vs e0 e1 e2))=_:=qn3 (f:=f) (N:=2) (i:=0) (e0:=e0) (e1:=e1) (e2:=e2) ha rfl (by omega) (by omega)
 have l1:(A 0).length=La:=ha.ln 0
 have n1:A 0≠[]:=fun e=>by rw[e] at l1; simp only[Wm] at l1; have:=ha.pos; omega
 have z2:Z qad (.call 165 [.ptr 0 0,(E.bin f .ne a b).node,.int 1] (qcw vs e0 e1 e2 (A 0)))=_:=qf8 (f:=f) (N:=2) (i:=1) (e0:=e0) (e1:=e1) (e2:=e2) hb.toTrB rfl (by omega) (A 0) n1 (by omega)
 rw[show A 0++B (A 0).length=sq A B 0 by simp[sq]] at z2
 have l2:(sq A B 0).length<2^30:=by rw[qbO ha.ln hb.ln]; omega
 have z3:=qb8 (vs:=vs) (e0:=e0) (e1:=e1) (e2:=e2) (sq A B 0) l2 16 0
 rw[show (sq A B 0)++[((16:Int),(0:Int))]=snC (sq A B) (16,0) 0 by simp[snC]] at z3
 have l3:(snC (sq A B) (16,0) 0).length<2^30:=by rw[qco (qbO ha.ln hb.ln)]; omega
 have z4:=qb8 (vs:=vs) (e0:=e0) (e1:=e1) (e2:=e2) (snC (sq A B) (16,0) 0) l3 17 0
 rw[show (snC (sq A B) (16,0) 0)++[((17:Int),(0:Int))]=(snC (snC (sq A B) (16,0)) (17,0)) 0 by simp[snC]] at z4
 simp only[E.node,qd2,qfj,qfk,qdt] at z1 z2
 generalize (snC (snC (sq A B) (16,0)) (17,0)) 0=c5 at *
 generalize snC (sq A B) (16,0) 0=c4 at *
 generalize sq A B 0=c3 at *
 generalize A 0=c1 at *
 refine qab (pf:=F168) rfl rfl ?_
 simp[F168,s1,s2,s3,s4,s5,qiV,qq7,qtc,qwK,qzl,z1,z2,z3,z4,qbN,qaF,Wa]
theorem qgb(ha:TrOK vs a.node A La)(hb:TrOK vs b.node B Lb)(f:Bool){o:Bop}(h1:qiV o=false)(h2:qq7 o=false)(h3:qtc o=false)(h4:qwK o=false)(h5:qzl o=false)(hl:4*(La+Lb+1)<2^30):Z qad (.call 168 [.ptr 0 0,(E.bin f o a b).node] (qec vs e0 e1 e2))=some (.ret (.tup []) (qhK vs e0 e1 e2 ((snC (sq A B) (opI o,0)) 0))):=by
 have s1:=qfU o
 have s2:=qji o
 have s3:=qpc o
 have s4:=qpd o
 have s5:=qpe o
 have hpa:=ha.pos
 have hpb:=hb.pos
 have z1:Z qad (.call 165 [.ptr 0 0,(E.bin f o a b).node,.int 0] (qec vs e0 e1 e2))=_:=qn3 (f:=f) (N:=2) (i:=0) (e0:=e0) (e1:=e1) (e2:=e2) ha rfl (by omega) (by omega)
 have l1:(A 0).length=La:=ha.ln 0
 have n1:A 0≠[]:=fun e=>by rw[e] at l1; simp only[Wm] at l1; have:=ha.pos; omega
 have z2:Z qad (.call 165 [.ptr 0 0,(E.bin f o a b).node,.int 1] (qcw vs e0 e1 e2 (A 0)))=_:=qf8 (f:=f) (N:=2) (i:=1) (e0:=e0) (e1:=e1) (e2:=e2) hb.toTrB rfl (by omega) (A 0) n1 (by omega)
 rw[show A 0++B (A 0).length=sq A B 0 by simp[sq]] at z2
 have l2:(sq A B 0).length<2^30:=by rw[qbO ha.ln hb.ln]; omega
 have zo:=qhS o (fun e=>by rw[e] at h1; exact absurd h1 (by decide)) (fun e=>by rw[e] at h2; exact absurd h2 (by decide))
 have z3:=qb8 (vs:=vs) (e0:=e0) (e1:=e1) (e2:=e2) (sq A B 0) l2 (opI o) 0
 rw[show (sq A B 0)++[(opI o,(0:Int))]=(snC (sq A B) (opI o,0)) 0 by simp[snC]] at z3
 simp only[E.node,qd2,qfj,qfk,qdt] at z1 z2
 generalize (snC (sq A B) (opI o,0)) 0=c5 at *
 generalize sq A B 0=c3 at *
 generalize A 0=c1 at *
 refine qab (pf:=F168) rfl rfl ?_
 simp[F168,s1,s2,s3,s4,s5,h1,h2,h3,h4,h5,z1,z2,z3,zo,qbN,qaF,Wa]
end
end
section
open F Gr
set_option maxHeartbeats 2000000
attribute [local simp] qbb qbG dkey qgh
section
variable{vs:List ByteArray}{a b:E}{A B:Int->Cd}{La Lb:Nat}
theorem qbX (f:Bool) (o:Bop) {K:Nat} (hk:Ln (binC o A B) K) (h0:0<K) (h1 : ∀ (e0 e1 e2:Int) (c:Cd),c≠[]->c.length+4*K<2^30->Z qad (.call 168 [.ptr 0 0,(E.bin f o a b).node] (qcw vs e0 e1 e2 c))=some (.ret (.tup []) (qcw vs e0 e1 e2 (c++(binC o A B) c.length))))
  (h2 : ∀ (e0 e1 e2:Int),4*K<2^30->Z qad (.call 168 [.ptr 0 0,(E.bin f o a b).node] (qec vs e0 e1 e2))=some (.ret (.tup []) (qhK vs e0 e1 e2 ((binC o A B) 0)))):TrOK vs (E.bin f o a b).node (binC o A B) K where
 ln:=hk
 pos:=h0
 one:=fun e0 e1 e2 c hc hl=>by
  have z:=h1 e0 e1 e2 c hc hl
  simp only[E.node,qd2,qfj,qfk,qdt] at z
  generalize c++binC o A B c.length=c2 at *
  refine qab (pf:=F147) rfl rfl ?_
  simp[F147,z,Wa]
 zero:=fun e0 e1 e2 hl=>by
  have z:=h2 e0 e1 e2 hl
  simp only[E.node,qd2,qfj,qfk,qdt] at z
  generalize binC o A B 0=c2 at *
  refine qab (pf:=F147) rfl rfl ?_
  simp[F147,z,Wa]
theorem qx7(ha:TrOK vs a.node A La)(hb:TrOK vs b.node B Lb)(f:Bool)(o:Bop) : ∃ K,TrOK vs (E.bin f o a b).node (binC o A B) K:=by
 have h1:Ln (fun _=>[((1:Int),(0:Int))]) 1:=fun _=>rfl
 have h1':Ln (fun _=>[((1:Int),(1:Int))]) 1:=fun _=>rfl
 have pa:=ha.pos
 have pb:=hb.pos
 cases o
 case and=>exact⟨_,qbX f .and (qmQ ha.ln hb.ln h1) (by omega) (fun e0 e1 e2 c hc hl=>qwW ha hb f c hc (by omega)) (fun e0 e1 e2 hl=>qwX ha hb f (by omega))⟩
 case or=>exact⟨_,qbX f .or (qmQ ha.ln h1' hb.ln) (by omega) (fun e0 e1 e2 c hc hl=>qzu ha hb f c hc (by omega)) (fun e0 e1 e2 hl=>qzv ha hb f (by omega))⟩
 case gt=>exact⟨_,qbX f .gt (qco (qbO hb.ln ha.ln)) (by omega) (fun e0 e1 e2 c hc hl=>qrj ha hb f (o := .gt) rfl rfl (.inl rfl) c hc (by omega)) (fun e0 e1 e2 hl=>qrk ha hb f (o := .gt) rfl rfl (.inl rfl) (by omega))⟩
 case ge=>exact⟨_,qbX f .ge (qco (qbO hb.ln ha.ln)) (by omega) (fun e0 e1 e2 c hc hl=>qrj ha hb f (o := .ge) rfl rfl (.inr rfl) c hc (by omega)) (fun e0 e1 e2 hl=>qrk ha hb f (o := .ge) rfl rfl (.inr rfl) (by omega))⟩
 case ne=>exact⟨_,qbX f .ne (qco (qco (qbO ha.ln hb.ln))) (by omega) (fun e0 e1 e2 c hc hl=>qzw ha hb f rfl c hc (by omega)) (fun e0 e1 e2 hl=>qzx ha hb f rfl (by omega))⟩
 case add=>exact⟨_,qbX f .add (qco (qbO ha.ln hb.ln)) (by omega) (fun e0 e1 e2 c hc hl=>qga ha hb f (o := .add) rfl rfl rfl rfl rfl c hc (by omega)) (fun e0 e1 e2 hl=>qgb ha hb f (o := .add) rfl rfl rfl rfl rfl (by omega))⟩
 case sub=>exact⟨_,qbX f .sub (qco (qbO ha.ln hb.ln)) (by omega) (fun e0 e1 e2 c hc hl=>qga ha hb f (o := .sub) rfl rfl rfl rfl rfl c hc (by omega)) (fun e0 e1 e2 hl=>qgb ha hb f (o := .sub) rfl rfl rfl rfl rfl (by omega))⟩
 case mul=>exact⟨_,qbX f .mul (qco (qbO ha.ln hb.ln)) (by omega) (fun e0 e1 e2 c hc hl=>qga ha hb f (o := .mul) rfl rfl rfl rfl rfl c hc (by omega)) (fun e0 e1 e2 hl=>qgb ha hb f (o := .mul) rfl rfl rfl rfl rfl (by omega))⟩
 case div=>exact⟨_,qbX f .div (qco (qbO ha.ln hb.ln)) (by omega) (fun e0 e1 e2 c hc hl=>qga ha hb f (o := .div) rfl rfl rfl rfl rfl c hc (by omega)) (fun e0 e1 e2 hl=>qgb ha hb f (o := .div) rfl rfl rfl rfl rfl (by omega))⟩
 case lt=>exact⟨_,qbX f .lt (qco (qbO ha.ln hb.ln)) (by omega) (fun e0 e1 e2 c hc hl=>qga ha hb f (o := .lt) rfl rfl rfl rfl rfl c hc (by omega)) (fun e0 e1 e2 hl=>qgb ha hb f (o := .lt) rfl rfl rfl rfl rfl (by omega))⟩
 case le=>exact⟨_,qbX f .le (qco (qbO ha.ln hb.ln)) (by omega) (fun e0 e1 e2 c hc hl=>qga ha hb f (o := .le) rfl rfl rfl rfl rfl c hc (by omega)) (fun e0 e1 e2 hl=>qgb ha hb f (o := .le) rfl rfl rfl rfl rfl (by omega))⟩
 case eq=>exact⟨_,qbX f .eq (qco (qbO ha.ln hb.ln)) (by omega) (fun e0 e1 e2 c hc hl=>qga ha hb f (o := .eq) rfl rfl rfl rfl rfl c hc (by omega)) (fun e0 e1 e2 hl=>qgb ha hb f (o := .eq) rfl rfl rfl rfl rfl (by omega))⟩
theorem qpv : ∀ e:E,e.fine->e.inV vs -> ∃ L,TrOK vs e.node (qdd vs e) L
 |.int n,_,_=>⟨_,qzg n⟩
 |.bool n,_,_=>⟨_,qwA n⟩
 |.var s,_,g=>⟨_,qzh g⟩
 |.name s,_,_=>⟨_,qwB s⟩
 |.field f s e,h,g=>let ⟨_,k⟩:=qpv e h.2.1 g; ⟨_,qta f h.1 k⟩
 |.un f true e,h,g=>let ⟨_,k⟩:=qpv e h.1 g; ⟨_,qo3 f k⟩
 |.un f false e,h,g=>let ⟨_,k⟩:=qpv e h.1 g; ⟨_,qmV f k⟩
 |.bin f o a b,h,g=>let ⟨_,k⟩:=qpv a h.1 g.1; let ⟨_,k'⟩:=qpv b h.2.1 g.2; qx7 k k' f o
end
end
end Go.Pm
