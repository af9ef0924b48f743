/- The rule language in plain Lean: expressions written down, and read back. No program in sight. -/
import Derived.Test.YtpakkndfjpimgaaGreatDoorPmAL
import Derived.Test.YtpakkndfjpimgaaGreatDoorPmF4
import Derived.Test.YtpakkndfjpimgaaGreatDoorPmR
import Derived.KernelRfl
set_option linter.unusedSimpArgs false
set_option linter.unusedVariables false
namespace Go.Pm
section
def qmk:Nat->Nat->List UInt8
 |0,_=>[]
 |k+1,n=>if n<10 then [(48+n).toUInt8] else qmk k (n / 10)++[(48+n % 10).toUInt8]
def qkJ(n:Nat):List UInt8:=qmk 20 n
theorem qB0 : ∀ d,d<10->((48+d).toUInt8).toNat=48+d:=by decide
theorem qsT(l:List UInt8)(c:UInt8):digV (l++[c])=10*digV l+(c.toNat-48):=by simp[digV]
theorem qlQ : ∀ k n,n<10 ^ k->1<=k->digV (qmk k n)=n/\(∀ b∈qmk k n,qau b=true) /\ ∃ c r,qmk k n=c::r
 |0,n,_,h=>by omega
 |k+1,n,h,_=>by
  rw[qmk]
  split
  ·rename_i hn
   have h1:=qB0 n hn
   refine⟨by simp only[digV,W8,List.foldl_nil,h1]; omega,fun b hb=>?_,_,_,rfl⟩
   rw[Wg.1 hb]
   simp only[qau,h1,Wv,decide_eq_true_eq]
   omega
  ·rename_i hn
   have h1:=qB0 (n % 10) (by omega)
   have hk:1<=k:=by
    rcases k with _|k
    ·simp at h; omega
    ·omega
   obtain⟨i1,i2,c,r,i3⟩:=qlQ k (n / 10) (by rw[Nat.pow_succ] at h; omega) hk
   refine⟨by rw[qsT,i1,h1]; omega,fun b hb=>?_,c,r++[(48+n % 10).toUInt8],by rw[i3]; rfl⟩
   rcases Ws.1 hb with hb|hb
   ·exact i2 b hb
   ·rw[Wg.1 hb]
    simp only[qau,h1,Wv,decide_eq_true_eq]
    omega
theorem qiO{n:Nat}(h:n<10 ^ 20):digV (qkJ n)=n/\(∀ b∈qkJ n,qau b=true) /\ ∃ c r,qkJ n=c::r:=qlQ 20 n h (by omega)
theorem qv8{n:Nat}(h:n<=2147483647):Tg (qkJ n):=by
 obtain⟨h1,h2,c,r,h3⟩:=qiO (n:=n) (by omega)
 rw[h3] at h1 h2 ⊢
 exact .inr (.inl ⟨c,r,rfl,h2 c (WQ ..),fun b hb=>h2 b (WH _ hb),by omega⟩)
theorem qkK{n:Nat}(h:n<=2147483647):qaD qau (bs (qkJ n))=true:=by
 obtain⟨h1,h2,c,r,h3⟩:=qiO (n:=n) (by omega)
 rw[qbe,qbM,h3]
 rw[h3] at h2
 exact h2 c (WQ ..)
def qlR:ByteArray:=bs [116,114,117,101]
def qhD:ByteArray:=bs [102,97,108,115,101]
def qyV:ByteArray:=bs [115,101,108,102]
def qub:ByteArray:=bs [111,116,104,101,114]
def qsU:ByteArray:=bs [116,105,99,107]
def Bop.prec:Bop->Nat
 |.or=>1 | .and=>2 | .lt | .le | .gt | .ge | .eq | .ne=>4 | .add | .sub=>5 | .mul | .div=>6
def qeV(neg:Bool):Nat:=if neg then 7 else 3
def qdq(b:Bool)(l:List ByteArray):List ByteArray:=if b then bs [40]::(l++[bs [41]]) else l
def Bop.left(o:Bop):Nat:=if o.prec=4 then 5 else o.prec
def E.tx(full:Bool):E->Nat->List ByteArray
 |.int n,_=>[bs (qkJ n.toNat)]
 |.bool n,_=>[if n=0 then qhD else qlR]
 |.var s,_=>[s]
 |.name s,_=>[s]
 |.field _ s e,_=>s::bs [91]::(e.tx full 1++[bs [93]])
 |.un _ neg e,p=>qdq (full||decide (qeV neg<p)) (ustr neg::e.tx full (qeV neg))
 |.bin _ o a b,p=>qdq (full||decide (o.prec<p)) (a.tx full o.left++o.str::b.tx full (o.prec+1))
def E.nest(full:Bool):E->Nat->Nat
 |.field _ _ e,_=>e.nest full 1+1
 |.un _ neg e,p=>e.nest full (qeV neg)+1+if (full||decide (qeV neg<p))=true then 1 else 0
 |.bin _ o a b,p=>max (a.nest full o.left) (b.nest full (o.prec+1))+if (full||decide (o.prec<p))=true then 1 else 0
 |_,_=>0
def E.good:E->Prop
 |.int n=>0<=n/\n<=2147483647
 |.bool n=>n=0\/n=1
 |.var s=>Tg (byl s)/\qaD qaZ s=true/\s∉fieldNames/\s∉wordNames
 |.name s=>s=qyV\/s=qub\/s=qsU
 |.field _ s e=>s∈fieldNames/\e.good
 |.un _ _ e=>e.good
 |.bin _ _ a b=>a.good/\b.good
def E.fl(f:Bool):E->E
 |.int n => .int n
 |.bool n => .bool n
 |.var s => .var s
 |.name s => .name s
 |.field _ s e => .field f s (e.fl f)
 |.un _ neg e => .un f neg (e.fl f)
 |.bin _ o a b => .bin f o (a.fl f) (b.fl f)
theorem qb0(o:Bop):(o.prec=1/\o.left=1)\/(o.prec=2/\o.left=2)\/(o.prec=4/\o.left=5)\/(o.prec=5/\o.left=5)\/(o.prec=6/\o.left=6):=by cases o<;>simp[Bop.prec,Bop.left]
def Hx:List ByteArray->List Tk->List Tk->Prop
 |[],ts,r=>ts=r
 |x::l,ts,r => ∃ t q,ts=t::q/\t.s=x/\t.bad=0/\Hx l q r
theorem hx_app : ∀ {a b:List ByteArray} {ts r:List Tk},Hx (a++b) ts r ↔ ∃ m,Hx a ts m/\Hx b m r
 |[],b,ts,r=>⟨fun h=>⟨ts,rfl,h⟩,fun ⟨m,h1,h2⟩=>by cases h1; exact h2⟩
 |x::a,b,ts,r=>by
  simp only[Wi,Hx]
  constructor
  ·rintro ⟨t,q,h1,h2,h3,h4⟩
   obtain⟨m,h5,h6⟩:=hx_app.1 h4
   exact⟨m,⟨t,q,h1,h2,h3,h5⟩,h6⟩
  ·rintro ⟨m,⟨t,q,h1,h2,h3,h5⟩,h6⟩
   exact⟨t,q,h1,h2,h3,hx_app.2 ⟨m,h5,h6⟩⟩
theorem qcj{x:ByteArray}{l:List ByteArray}{ts r:List Tk}(h:Hx (x::l) ts r):nx ts=some x/\Hx l ts.tail r:=by
 obtain⟨t,q,h1,h2,h3,h4⟩:=h
 subst h1
 simp[nx,h3,h2]
 exact h4
theorem qcF{eS:Nat}{x:ByteArray}{l:List ByteArray}{ts r:List Tk}(h:Hx (x::l) ts r):qaS eS x ts = .ok () ts.tail:=by
 obtain⟨t,q,h1,h2,h3,h4⟩:=h
 subst h1
 simp[qaS,h3,h2]
theorem qf4{eS eL lv:Nat}{x:ByteArray}{l:List ByteArray}{ts r:List Tk}(h:Hx (x::l) ts r)(hl:lv<=20):qeh eS eL x lv ts = .ok () ts.tail:=by
 rw[qeh,if_neg (by omega)]
 exact qcF h
def Stops(p:Nat)(r:List Tk):Prop := ∃ s,nx r=some s /\ ∀ q,p<=q->qmu q s=none
theorem Stops.mono{p q:Nat}{r:List Tk}(h:Stops p r)(hq:p<=q):Stops q r:=by
 obtain⟨s,h1,h2⟩:=h
 exact⟨s,h1,fun k hk=>h2 k (by omega)⟩
theorem qsV(o:Bop):qmu o.prec o.str=some o:=by cases o<;>rfl
theorem qoY(o:Bop)(q:Nat)(h:q≠o.prec):qmu q o.str=none:=by
 rcases q with _|_|_|_|_|_|_|q
 all_goals first|rfl|skip
 all_goals cases o<;>first|rfl|exact absurd rfl h
theorem qmP(full:Bool) : ∀ (e:E),e.good -> ∀ p,∃ x l,e.tx full p=x::l/\(x=ustr false->p<=3)/\(x=ustr true->p<=7)
 |.int n,h,p=>by
  have hd:=qkK (n:=n.toNat) (by have:=h.1; have:=h.2; omega)
  refine⟨_,_,rfl,fun hx=>?_,fun hx=>?_⟩
  all_goals
   rw[hx] at hd
   exact absurd hd (by decide)
 |.bool n,h,p=>by
  refine⟨_,_,rfl,fun hx=>?_,fun hx=>?_⟩
  all_goals split at hx<;>exact absurd hx (by decide)
 |.var s,h,p=>by
  refine⟨_,_,rfl,fun hx=>?_,fun hx=>?_⟩
  all_goals
   have:=h.2.1
   rw[hx] at this
   exact absurd this (by decide)
 |.name s,h,p=>by
  refine⟨_,_,rfl,fun hx=>?_,fun hx=>?_⟩
  all_goals rcases h with rfl|rfl|rfl<;>exact absurd hx (by decide)
 |.field f s e,h,p=>by
  refine⟨_,_,rfl,fun hx=>?_,fun hx=>?_⟩
  all_goals
   have:=h.1
   rw[hx] at this
   exact absurd this (by decide)
 |.un f neg e,h,p=>by
  simp only[E.tx,qdq]
  split
  ·exact⟨_,_,rfl,fun hx=>absurd hx (by decide),fun hx=>absurd hx (by decide)⟩
  ·rename_i hc
   simp only[Yk,not_or,decide_eq_true_eq,YN] at hc
   refine⟨_,_,rfl,fun hx=>?_,fun hx=>?_⟩
   ·cases neg with
    |true=>exact absurd hx (by decide)
    |false=>exact hc.2
   ·cases neg with
    |true=>exact hc.2
    |false=>exact absurd hx (by decide)
 |.bin f o a b,h,p=>by
  simp only[E.tx,qdq]
  split
  ·exact⟨_,_,rfl,fun hx=>absurd hx (by decide),fun hx=>absurd hx (by decide)⟩
  ·rename_i hc
   simp only[Yk,not_or,decide_eq_true_eq,YN] at hc
   obtain⟨x,l,h1,h2,h3⟩:=qmP full a h.1 o.left
   refine⟨x,l++o.str::b.tx full (o.prec+1),by rw[h1]; rfl,fun hx=>?_,fun hx=>?_⟩
   ·have:=h2 hx; have:=hc.2
    rcases qb0 o with h|h|h|h|h<;>omega
   ·have:=h3 hx; have:=hc.2
    rcases qb0 o with h|h|h|h|h<;>omega
section
variable{eS eL:Nat}{f:Bool}
theorem qqI {n q lv:Nat} {ts r:List Tk} {e:E} (h:qat eS eL f n q lv ts=some (.ok e r)) (hq:q<=8) : ∀ (k p:Nat),p+k=q->1<=p->Stops p r ->
  (p<=3->3<q->nx ts≠some (ustr false))->(p<=7->7<q->nx ts≠some (ustr true)) -> ∃ m,qat eS eL f m p lv ts=some (.ok e r)
 |0,p,hp,h1,_,_,_=>⟨n,by rw[show p=q by omega]; exact h⟩
 |k+1,p,hp,h1,hs,h3,h7=>by
  obtain⟨m,hm⟩:=qqI h hq k (p+1) (by omega) (by omega) (hs.mono (by omega)) (fun a b=>h3 (by omega) b) (fun a b=>h7 (by omega) b)
  refine⟨m+2,?_⟩
  rw[qat,if_neg,if_pos (by omega),qbf hm (Yz m)]
  ·obtain⟨s,hs1,hs2⟩:=hs
   simp only[qcP,hs1,hs2 p (Wp p)]
  ·rintro (⟨h8,h9⟩|⟨h8,h9⟩)
   ·exact h3 (by omega) (by omega) h9
   ·exact h7 (by omega) (by omega) h9
theorem qf5(x:ByteArray)(hx : ∀ q,qmu q x=none){p:Nat}{l:List ByteArray}{ts r:List Tk}(h:Hx (x::l) ts r):Stops p ts:=⟨x,(qcj h).1,fun q _=>hx q⟩
theorem qiP(x:ByteArray)(h : ∀ o:Bop,o.str≠x)(q:Nat):qmu q x=none:=by
 unfold qmu
 rw[YL]
 intro o _
 simp[h o]
theorem qnM {lv p:Nat} {ts r:List Tk} {e:E} {l:List ByteArray} (ho:Hx (bs [40]::(l++[bs [41]])) ts r) (hl:lv+1<=20)
  (hb : ∀ mid,Hx l ts.tail mid->Stops 1 mid -> ∃ m,qat eS eL f m 1 (lv+1) ts.tail=some (.ok e mid)) (h1:1<=p) (h8:p<=8) (hs:Stops p r) : ∃ n,qat eS eL f n p lv ts=some (.ok e r):=by
 obtain⟨hn,ht⟩:=qcj ho
 obtain⟨mid,hm1,hm2⟩:=hx_app.1 ht
 have hst:Stops 1 mid:=qf5 _ (qiP _ (by intro o; cases o<;>decide)) hm2
 obtain⟨m,hm⟩:=hb mid hm1 hst
 have hx:=qcF (eS:=eS) hm2
 have hend:mid.tail=r:=(qcj hm2).2
 have base:qat eS eL f (m+1) 8 lv ts=some (.ok e r):=by
  rw[qat,if_neg (by rintro (⟨h,_⟩|⟨h,_⟩)<;>omega),if_neg (by omega),hn]
  simp only
  rw[if_neg (by decide),if_neg (by decide),if_neg (by decide),if_neg (by decide),if_neg (by decide),if_neg (by decide),qf4 ho hl]
  simp only[hm,hx,hend]
 exact qqI base (by omega) (8-p) p (by omega) h1 hs (fun _ _=>by rw[hn]; decide) (fun _ _=>by rw[hn]; decide)
theorem rb (full:Bool) : ∀ e:E,e.good ->
  (∀ p lv ts r,1<=p->p<=8->Hx (e.tx full p) ts r->lv+e.nest full p<=20->Stops p r -> ∃ n,qat eS eL f n p lv ts=some (.ok (e.fl f) r)) /\
  (∀ q lv ts r,1<=q->q<=6->q≠4->q≠3->Hx (e.tx full q) ts r->lv+e.nest full q<=20->Stops (q+1) r ->
   ∃ n e0 r0,qat eS eL f n (q+1) lv ts=some (.ok e0 r0) /\ ∀ m x,qcP eS eL f m q lv (e.fl f) r=some x -> ∃ m',qcP eS eL f m' q lv e0 r0=some x):=by
 have prim : ∀ (e:E) (x:ByteArray) lv ts r,(∃ n,qat eS eL f n 8 lv ts=some (.ok (e.fl f) r))->nx ts=some x->x≠ustr false->x≠ustr true ->
   (∀ p,1<=p->p<=8->Stops p r -> ∃ n,qat eS eL f n p lv ts=some (.ok (e.fl f) r)):=fun e x lv ts r ⟨n,hn⟩ hx h1 h2 p hp1 hp8 hs=>
  qqI hn (by omega) (8-p) p (by omega) hp1 hs (fun _ _ h=>h1 (by rw[hx] at h; exact WD h)) (fun _ _ h=>h2 (by rw[hx] at h; exact WD h))
 have self : ∀ (e:E) q lv ts r,(∃ n,qat eS eL f n (q+1) lv ts=some (.ok (e.fl f) r)) -> ∃ n e0 r0,qat eS eL f n (q+1) lv ts=some (.ok e0 r0) /\ ∀ m x,qcP eS eL f m q lv (e.fl f) r=some x -> ∃ m',qcP eS eL f m' q lv e0 r0=some x:=
  fun e q lv ts r ⟨n,hn⟩=>⟨n,_,_,hn,fun m x h=>⟨m,h⟩⟩
 intro e
 induction e with
 |int n=>
  intro hg
  obtain⟨g1,g2⟩:=hg
  have hd:=qkK (n:=n.toNat) (by omega)
  have A : ∀ p lv ts r,1<=p->p<=8->Hx ((E.int n).tx full p) ts r->lv+(E.int n).nest full p<=20->Stops p r -> ∃ k,qat eS eL f k p lv ts=some (.ok ((E.int n).fl f) r):=fun p lv ts r h1 h8 hx _ hs=>by
   obtain⟨hn,ht⟩:=qcj hx
   cases ht
   have n1:bs (qkJ n.toNat)≠ustr false:=by intro h; rw[h] at hd; exact absurd hd (by decide)
   have n2:bs (qkJ n.toNat)≠ustr true:=by intro h; rw[h] at hd; exact absurd hd (by decide)
   refine prim (.int n) _ lv ts _ ⟨1,?_⟩ hn n1 n2 p h1 h8 hs
   rw[qat,if_neg (by rintro (⟨h,_⟩|⟨h,_⟩)<;>omega),if_neg (by omega),hn]
   simp only
   rw[if_pos hd,ByteArray.toList_eq]
   have:=(qiO (n:=n.toNat) (by omega)).1
   rw[show (bs (qkJ n.toNat)).data.toList=qkJ n.toNat from qbM _,this,show ((n.toNat:Nat):Int)=n by omega]
   rfl
  exact⟨A,fun q lv ts r h1 h6 _ _ hx hl hs=>self _ q lv ts r (A (q+1) lv ts r (by omega) (by omega) hx hl hs)⟩
 |bool n=>
  intro hg
  have A : ∀ p lv ts r,1<=p->p<=8->Hx ((E.bool n).tx full p) ts r->lv+(E.bool n).nest full p<=20->Stops p r -> ∃ k,qat eS eL f k p lv ts=some (.ok ((E.bool n).fl f) r):=fun p lv ts r h1 h8 hx _ hs=>by
   obtain⟨hn,ht⟩:=qcj hx
   cases ht
   refine prim (.bool n) _ lv ts _ ⟨1,?_⟩ hn (by split<;>decide) (by split<;>decide) p h1 h8 hs
   rw[qat,if_neg (by rintro (⟨h,_⟩|⟨h,_⟩)<;>omega),if_neg (by omega),hn]
   rcases hg with rfl|rfl
   ·simp only[if_true]
    rw[if_neg (by decide),if_neg (by decide),if_pos (by rfl)]; rfl
   ·rw[if_neg (by decide)]
    simp only
    rw[if_neg (by decide),if_pos (by rfl)]; rfl
  exact⟨A,fun q lv ts r h1 h6 _ _ hx hl hs=>self _ q lv ts r (A (q+1) lv ts r (by omega) (by omega) hx hl hs)⟩
 |var s=>
  intro hg
  obtain⟨g1,g2,g3,g4⟩:=hg
  have A : ∀ p lv ts r,1<=p->p<=8->Hx ((E.var s).tx full p) ts r->lv+(E.var s).nest full p<=20->Stops p r -> ∃ k,qat eS eL f k p lv ts=some (.ok ((E.var s).fl f) r):=fun p lv ts r h1 h8 hx _ hs=>by
   obtain⟨hn,ht⟩:=qcj hx
   cases ht
   have n1:s≠ustr false:=by rintro rfl; exact absurd g2 (by decide)
   have n2:s≠ustr true:=by rintro rfl; exact absurd g2 (by decide)
   refine prim (.var s) _ lv ts _ ⟨1,?_⟩ hn n1 n2 p h1 h8 hs
   have nd : ¬ qaD qau s=true:=by
    rw[qbe] at g2 ⊢
    cases hh:(byl s).head? with
    |none=>simp
    |some c=>
     rw[hh] at g2
     simp only[qau,qaZ,Wv,decide_eq_true_eq] at g2 ⊢
     omega
   have w : ∀ x∈wordNames,s≠x:=fun x hx he=>g4 (he ▸ hx)
   rw[qat,if_neg (by rintro (⟨h,_⟩|⟨h,_⟩)<;>omega),if_neg (by omega),hn]
   simp only
   rw[if_neg nd,if_neg (w _ (by decide)),if_neg (w _ (by decide)),if_neg (by
    rintro (h|h|h)
    ·exact w _ (by decide) h
    ·exact w _ (by decide) h
    ·exact w _ (by decide) h),if_neg g3,if_pos ⟨g2,g4⟩]
   rfl
  exact⟨A,fun q lv ts r h1 h6 _ _ hx hl hs=>self _ q lv ts r (A (q+1) lv ts r (by omega) (by omega) hx hl hs)⟩
 |name s=>
  intro hg
  have A : ∀ p lv ts r,1<=p->p<=8->Hx ((E.name s).tx full p) ts r->lv+(E.name s).nest full p<=20->Stops p r -> ∃ k,qat eS eL f k p lv ts=some (.ok ((E.name s).fl f) r):=fun p lv ts r h1 h8 hx _ hs=>by
   obtain⟨hn,ht⟩:=qcj hx
   cases ht
   refine prim (.name s) _ lv ts _ ⟨1,?_⟩ hn (by rcases hg with rfl|rfl|rfl<;>decide) (by rcases hg with rfl|rfl|rfl<;>decide) p h1 h8 hs
   rw[qat,if_neg (by rintro (⟨h,_⟩|⟨h,_⟩)<;>omega),if_neg (by omega),hn]
   rcases hg with rfl|rfl|rfl<;>simp only<;>rw[if_neg (by decide),if_neg (by decide),if_neg (by decide),if_pos (by decide)]<;>rfl
  exact⟨A,fun q lv ts r h1 h6 _ _ hx hl hs=>self _ q lv ts r (A (q+1) lv ts r (by omega) (by omega) hx hl hs)⟩
 |field g s e ih=>
  intro hg
  obtain⟨g1,g2⟩:=hg
  have ihA:=(ih g2).1
  have A : ∀ p lv ts r,1<=p->p<=8->Hx ((E.field g s e).tx full p) ts r->lv+(E.field g s e).nest full p<=20->Stops p r -> ∃ k,qat eS eL f k p lv ts=some (.ok ((E.field g s e).fl f) r):=fun p lv ts r h1 h8 hx hl hs=>by
   obtain⟨hn,ht⟩:=qcj hx
   obtain⟨hn2,ht2⟩:=qcj ht
   obtain⟨mid,hm1,hm2⟩:=hx_app.1 ht2
   simp only[E.nest] at hl
   have hst:Stops 1 mid:=qf5 _ (qiP _ (by intro o; cases o<;>decide)) hm2
   obtain⟨k,hk⟩:=ihA 1 (lv+1) _ mid (by omega) (by omega) hm1 (by omega) hst
   have hx2:=qcF (eS:=eS) hm2
   have hend:mid.tail=r:=(qcj hm2).2
   have hi:qck eS eL f (k+1) lv ts.tail=some (.ok (e.fl f) r):=by
    rw[qck,qf4 ht (by omega)]
    simp only[hk,hx2,hend]
   have hs' : ∀ x:ByteArray,x∉fieldNames->s≠x:=fun x hx he=>hx (he ▸ g1)
   refine prim (.field g s e) _ lv ts _ ⟨k+2,?_⟩ hn (hs' _ (by decide)) (hs' _ (by decide)) p h1 h8 hs
   have nd : ¬ qaD qau s=true:=by
    simp only[fieldNames,Wu,Ww,or_false] at g1
    rcases g1 with h|h|h|h|h|h|h|h<;>rw[h]<;>decide
   rw[qat,if_neg (by rintro (⟨h,_⟩|⟨h,_⟩)<;>omega),if_neg (by omega),hn]
   simp only
   rw[if_neg nd,if_neg (hs' _ (by decide)),if_neg (hs' _ (by decide)),if_neg (by
    rintro (h|h|h)
    ·exact hs' _ (by decide) h
    ·exact hs' _ (by decide) h
    ·exact hs' _ (by decide) h),if_pos g1,hi]
   rfl
  exact⟨A,fun q lv ts r h1 h6 _ _ hx hl hs=>self _ q lv ts r (A (q+1) lv ts r (by omega) (by omega) hx hl hs)⟩
 |un g neg e ih=>
  intro hg
  have ihA:=(ih hg).1
  have bare : ∀ lv ts r,Hx (ustr neg::e.tx full (qeV neg)) ts r->lv+e.nest full (qeV neg)+1<=20 -> ∀ p,1<=p->p<=qeV neg->Stops p r -> ∃ k,qat eS eL f k p lv ts=some (.ok ((E.un g neg e).fl f) r):=fun lv ts r hx hl p h1 hp hs=>by
   obtain⟨hn,ht⟩:=qcj hx
   obtain⟨k,hk⟩:=ihA (qeV neg) (lv+1) _ r (by cases neg<;>decide) (by cases neg<;>decide) ht (by omega) (hs.mono hp)
   have base:qat eS eL f (k+1) (qeV neg) lv ts=some (.ok ((E.un g neg e).fl f) r):=by
    rw[qat]
    cases neg with
    |false=>
     rw[if_pos (.inl ⟨rfl,hn⟩)]
     simp only[qeV,Wo,if_false] at hk ⊢
     rw[show ustr ((3:Nat)==7)=ustr false from rfl,qf4 hx (by omega)]
     simp only[hk]
     rfl
    |true=>
     rw[if_pos (.inr ⟨rfl,hn⟩)]
     simp only[qeV,if_true] at hk ⊢
     rw[show ustr ((7:Nat)==7)=ustr true from rfl,qf4 hx (by omega)]
     simp only[hk]
     rfl
   refine qqI base (by cases neg<;>decide) (qeV neg-p) p (by omega) h1 hs (fun a b=>?_) (fun a b=>?_)
   ·cases neg with
    |false=>exact absurd b (by decide)
    |true=>rw[hn]; decide
   ·cases neg<;>exact absurd b (by decide)
  have A : ∀ p lv ts r,1<=p->p<=8->Hx ((E.un g neg e).tx full p) ts r->lv+(E.un g neg e).nest full p<=20->Stops p r -> ∃ k,qat eS eL f k p lv ts=some (.ok ((E.un g neg e).fl f) r):=fun p lv ts r h1 h8 hx hl hs=>by
   simp only[E.tx,E.nest,qdq] at hx hl
   by_cases c:(full||decide (qeV neg<p))=true
   ·rw[if_pos c] at hx hl
    exact qnM hx (by omega) (fun mid hm hst=>bare (lv+1) _ mid hm (by omega) 1 (by omega) (by cases neg<;>decide) hst) h1 h8 hs
   ·rw[if_neg c] at hx hl
    simp only[Yk,not_or,decide_eq_true_eq,YN] at c
    exact bare lv ts r hx (by omega) p h1 c.2 hs
  refine⟨A,fun q lv ts r h1 h6 h4 h3 hx hl hs=>self _ q lv ts r (A (q+1) lv ts r (by omega) (by omega) ?_ ?_ hs)⟩
  ·have:(decide (qeV neg<q+1))=decide (qeV neg<q):=by
    rw[decide_eq_decide]; cases neg<;>simp only[qeV]<;>constructor<;>intro h<;>simp at h ⊢ <;> omega
   simp only[E.tx,this] at hx ⊢
   exact hx
  ·have:(decide (qeV neg<q+1))=decide (qeV neg<q):=by
    rw[decide_eq_decide]; cases neg<;>simp only[qeV]<;>constructor<;>intro h<;>simp at h ⊢ <;> omega
   simp only[E.nest,this] at hl ⊢
   exact hl
 |bin g o a b iha ihb=>
  intro hg
  obtain⟨aA,aB⟩:=iha hg.1
  obtain⟨bA,-⟩:=ihb hg.2
  have hp:=qb0 o
  have loop : ∀ lv ts r,Hx (a.tx full o.left++o.str::b.tx full (o.prec+1)) ts r->lv+max (a.nest full o.left) (b.nest full (o.prec+1))<=20->Stops (o.prec+1) r ->
    ∃ n e0 r0,qat eS eL f n (o.prec+1) lv ts=some (.ok e0 r0)/\(∀ m x,(if o.prec=4 then some (.ok ((E.bin g o a b).fl f) r) else qcP eS eL f m o.prec lv ((E.bin g o a b).fl f) r)=some x -> ∃ m',qcP eS eL f m' o.prec lv e0 r0=some x):=fun lv ts r hx hl hs=>by
   obtain⟨mid,hm1,hm2⟩:=hx_app.1 hx
   obtain⟨hn,ht⟩:=qcj hm2
   have hst:Stops (o.prec+1) mid:=⟨_,hn,fun q hq=>qoY o q (by omega)⟩
   obtain⟨k,hk⟩:=bA (o.prec+1) lv _ r (by omega) (by omega) ht (by omega) hs
   have fin : ∀ m x,(if o.prec=4 then some (.ok ((E.bin g o a b).fl f) r) else qcP eS eL f m o.prec lv ((E.bin g o a b).fl f) r)=some x -> ∃ m',qcP eS eL f m' o.prec lv (a.fl f) mid=some x:=fun m x h=>by
    refine⟨max k m+1,?_⟩
    rw[qcP,hn]
    simp only[qsV]
    rw[qbf hk (WF k m)]
    simp only
    by_cases c:o.prec=4
    ·rw[if_pos c] at h ⊢; exact h
    ·rw[if_neg c] at h ⊢; exact qjH h (WC k m)
   by_cases c:o.prec=4
   ·have hleft:o.left=o.prec+1:=by omega
    obtain⟨n,hn'⟩:=aA (o.prec+1) lv ts mid (by omega) (by omega) (hleft ▸ hm1) (by rw[<- hleft]; omega) hst
    exact⟨n,_,_,hn',fin⟩
   ·have hleft:o.left=o.prec:=by omega
    rw[hleft] at hm1 hl
    obtain⟨n,e0,r0,h1,h2⟩:=aB o.prec lv ts mid (by omega) (by omega) c (by omega) hm1 (by omega) hst
    refine⟨n,e0,r0,h1,fun m x h=>?_⟩
    obtain⟨m',hm'⟩:=fin m x h
    exact h2 m' x hm'
  have bare : ∀ lv ts r,Hx (a.tx full o.left++o.str::b.tx full (o.prec+1)) ts r->lv+max (a.nest full o.left) (b.nest full (o.prec+1))<=20 -> ∀ p,1<=p->p<=o.prec->Stops p r -> ∃ k,qat eS eL f k p lv ts=some (.ok ((E.bin g o a b).fl f) r):=fun lv ts r hx hl p h1 hpo hs=>by
   obtain⟨n,e0,r0,h2,h3⟩:=loop lv ts r hx hl (hs.mono (by omega))
   have hend:qcP eS eL f 1 o.prec lv ((E.bin g o a b).fl f) r=some (.ok ((E.bin g o a b).fl f) r):=by
    obtain⟨s,hs1,hs2⟩:=hs
    simp only[qcP,hs1,hs2 o.prec hpo]
   obtain⟨m',hm'⟩:=h3 1 _ (by split<;>first|rfl|exact hend)
   obtain⟨x,l,q1,q2,q3⟩:=qmP full a hg.1 o.left
   have hnx:nx ts=some x:=by
    rw[q1] at hx
    exact (qcj hx).1
   have base:qat eS eL f (max n m'+1) o.prec lv ts=some (.ok ((E.bin g o a b).fl f) r):=by
    rw[qat,if_neg (by rintro (⟨h,_⟩|⟨h,_⟩)<;>omega),if_pos (by omega),qbf h2 (WF n m')]
    exact qjH hm' (WC n m')
   refine qqI base (by omega) (o.prec-p) p (by omega) h1 hs (fun c1 c2 h=>?_) (fun c1 c2=>by omega)
   have:=q2 (WD (hnx.symm.trans h))
   omega
  have A : ∀ p lv ts r,1<=p->p<=8->Hx ((E.bin g o a b).tx full p) ts r->lv+(E.bin g o a b).nest full p<=20->Stops p r -> ∃ k,qat eS eL f k p lv ts=some (.ok ((E.bin g o a b).fl f) r):=fun p lv ts r h1 h8 hx hl hs=>by
   simp only[E.tx,E.nest,qdq] at hx hl
   by_cases c:(full||decide (o.prec<p))=true
   ·rw[if_pos c] at hx hl
    exact qnM hx (by omega) (fun mid hm hst=>bare (lv+1) _ mid hm (by omega) 1 (by omega) (by omega) hst) h1 h8 hs
   ·rw[if_neg c] at hx hl
    simp only[Yk,not_or,decide_eq_true_eq,YN] at c
    exact bare lv ts r hx (by omega) p h1 c.2 hs
  refine⟨A,fun q lv ts r h1 h6 h4 h3 hx hl hs=>?_⟩
  by_cases c:full=false/\o.prec=q
  ·obtain⟨c1,rfl⟩:=c
   have hf : ¬ (full||decide (o.prec<o.prec))=true:=by simp[c1]
   simp only[E.tx,E.nest,qdq,if_neg hf] at hx hl
   obtain⟨n,e0,r0,h5,h7⟩:=loop lv ts r hx (by omega) hs
   exact⟨n,e0,r0,h5,fun m x h=>h7 m x (by rw[if_neg h4]; exact h)⟩
  ·have hd:(full||decide (o.prec<q+1))=(full||decide (o.prec<q)):=by
    cases full with
    |true=>rfl
    |false=>
     have:o.prec≠q:=fun h=>c ⟨rfl,h⟩
     simp only[Bool.false_or,decide_eq_decide]
     omega
   refine self _ q lv ts r (A (q+1) lv ts r (by omega) (by omega) ?_ ?_ hs)
   ·simp only[E.tx,hd] at hx ⊢
    exact hx
   ·simp only[E.nest,hd] at hl ⊢
    exact hl
end
end
section
def ifS:ByteArray:=bs [105,102]
def qkI:ByteArray:=bs [101,108,115,101]
def qqG:ByteArray:=bs [119,104,105,108,101]
def qmN:ByteArray:=bs [101,102,102,101,99,116]
def qv2:ByteArray:=bs [115,116,111,112]
def onS:ByteArray:=bs [111,110]
def qf2:Ss->Bool
 |.block _ .nil _=>false
 |.block _ _ _=>true
 |_=>false
def Ss.tx:Ss->List ByteArray
 |.nil=>[]
 |.assign _ s e r=>s::bs [61]::(e.tx false 1++(bs [59]::r.tx))
 |.store _ s a b r=>s::bs [91]::(a.tx false 1++(bs [93]::bs [61]::(b.tx false 1++(bs [59]::r.tx))))
 |.effect _ a b r=>qmN::(a.tx false 1++(bs [44]::(b.tx false 1++(bs [59]::r.tx))))
 |.stop r=>qv2::bs [59]::r.tx
 |.cond w _ c b r=>(if w then qqG else ifS)::(c.tx false 1++(b.tx++r.tx))
 |.block _ b r=>bs [123]::(b.tx++(bs [125]::(if qf2 r then qkI::r.tx else [])))
def qsQ(s:ByteArray):Prop:=Tg (byl s)/\qaD qaZ s=true/\s∉fieldNames/\s∉wordNames
def Ss.good:Ss->Option Nat->Prop
 |.nil,m=>m=none\/m=some 0
 |.assign _ s e r,m=>m=none/\qsQ s/\e.good/\r.good none
 |.store _ s a b r,m=>m=none/\s∈fieldNames/\a.good/\b.good/\r.good none
 |.effect _ a b r,m=>m=none/\a.good/\b.good/\r.good none
 |.stop r,m=>m=none/\r.good none
 |.cond w _ c b r,m=>m=none/\c.good/\b.good (some (if w then 1 else 2))/\r.good none
 |.block _ b r,m => ∃ n,m=some (n+1)/\b.good none/\r.good (some n)
def Ss.nest:Ss->Nat
 |.nil=>0
 |.assign _ _ e r=>max (e.nest false 1) r.nest
 |.store _ _ a b r=>max (a.nest false 1+1) (max (b.nest false 1) r.nest)
 |.effect _ a b r=>max (a.nest false 1) (max (b.nest false 1) r.nest)
 |.stop r=>r.nest
 |.cond _ _ c b r=>max (c.nest false 1) (max (b.nest+1) r.nest)
 |.block _ b r=>max b.nest r.nest
def Ss.fl(f fi fb:Bool):Ss->Ss
 |.nil => .nil
 |.assign _ s e r => .assign f s (e.fl f) (r.fl f fi fb)
 |.store _ s a b r => .store f s (a.fl f) (b.fl f) (r.fl f fi fb)
 |.effect _ a b r => .effect f (a.fl f) (b.fl f) (r.fl f fi fb)
 |.stop r => .stop (r.fl f fi fb)
 |.cond w _ c b r => .cond w (if w then f else fi) (c.fl f) (b.fl f fi fb) (r.fl f fi fb)
 |.block _ b r => .block fb (b.fl f fi fb) (r.fl f fi fb)
theorem qoW(a:Ss):a.app .nil=a:=by induction a<;>simp_all [Ss.app]
theorem qcf(a b c:Ss):(a.app b).app c=a.app (b.app c):=by induction a<;>simp_all [Ss.app]
theorem qf3{s x:ByteArray}(h:qsQ s)(hx:x∈fieldNames\/x∈wordNames\/qaD qaZ x=false):s≠x:=by
 rintro rfl
 rcases hx with hx|hx|hx
 ·exact h.2.2.1 hx
 ·exact h.2.2.2 hx
 ·rw[h.2.1] at hx; cases hx
theorem qeI{s x:ByteArray}(h:s∈fieldNames)(hx:x∉fieldNames):s≠x:=fun e=>hx (e ▸ h)
theorem qv3 : ∀ (s:Ss),s.good none -> ∃ x l,s.tx++[bs [125]]=x::l/\x≠qkI/\(s ≠ .nil->x≠bs [125])
 |.nil,_=>⟨_,_,rfl,by decide,fun h=>absurd rfl h⟩
 |.assign f s e r,h=>⟨_,_,rfl,qf3 h.2.1 (.inr (.inl (by decide))),fun _=>qf3 h.2.1 (.inr (.inr (by decide)))⟩
 |.store f s a b r,h=>⟨_,_,rfl,qeI h.2.1 (by decide),fun _=>qeI h.2.1 (by decide)⟩
 |.effect f a b r,h=>⟨_,_,rfl,by decide,fun _=>by decide⟩
 |.stop r,h=>⟨_,_,rfl,by decide,fun _=>by decide⟩
 |.cond w f c b r,h=>by
  refine⟨_,_,rfl,?_,fun _=>?_⟩<;>cases w<;>decide
 |.block f b r,h=>by obtain⟨n,hn,_⟩:=h; cases hn
section
variable{eS eL:Nat}{f fi fb:Bool}
def qBZ(eS eL:Nat)(f fi fb:Bool):Ss->Prop
 |.block _ b r=>(∀ lv ts q,Hx (bs [123]::(b.tx++[bs [125]])) ts q->lv+b.nest<=20 -> ∃ n,qbz eS eL f fi fb n lv ts=some (.ok (b.fl f fi fb) q))/\qBZ eS eL f fi fb r
 |_=>True
theorem qyM(x:ByteArray)(hx : ∀ o:Bop,o.str≠x){l:List ByteArray}{ts r:List Tk}(h:Hx (x::l) ts r):Stops 1 ts:=qf5 x (qiP x hx) h
theorem rb1 {e:E} (hg:e.good) {x:ByteArray} (hx : ∀ o:Bop,o.str≠x) {l:List ByteArray} {ts r:List Tk} {lv:Nat} (h:Hx (e.tx false 1++x::l) ts r) (hl:lv+e.nest false 1<=20) :
  ∃ n mid,qat eS eL f n 1 lv ts=some (.ok (e.fl f) mid)/\Hx (x::l) mid r:=by
 obtain⟨mid,h1,h2⟩:=hx_app.1 h
 obtain⟨n,hn⟩:=(rb (eS:=eS) (eL:=eL) (f:=f) false e hg).1 1 lv ts mid (by omega) (by omega) h1 hl (qyM x hx h2)
 exact⟨n,mid,hn,h2⟩
theorem qsR {e:E} (hg:e.good) {l:List ByteArray} {ts r:List Tk} {lv:Nat} (h:Hx (bs [91]::(e.tx false 1++bs [93]::l)) ts r) (hl:lv+(e.nest false 1+1)<=20) :
  ∃ n mid,qck eS eL f n lv ts=some (.ok (e.fl f) mid)/\Hx l mid r:=by
 obtain⟨n,mid,h1,h2⟩:=rb1 (eS:=eS) (eL:=eL) (f:=f) hg (by intro o; cases o<;>decide) (qcj h).2 (lv:=lv+1) (by omega)
 refine⟨n+1,mid.tail,?_,(qcj h2).2⟩
 rw[qck,qf4 h (by omega)]
 simp only[h1,qcF h2]
theorem rbS : ∀ s:Ss,
  (s.good none -> ∀ lv a ts r,Hx (s.tx++[bs [125]]) ts r->lv+s.nest<=20 -> ∃ n,qcK eS eL f fi fb n lv a ts=some (.ok (a.app (s.fl f fi fb)) r)) /\
  ((∃ k,s.good (some k))->qBZ eS eL f fi fb s):=by
 have step : ∀ (s1:Ss) (x:ByteArray) lv a ts mid y,nx ts=some x->x≠bs [125]->(∃ n,qdo eS eL f fi fb n lv ts=some (.ok s1 mid))->(∃ n,qcK eS eL f fi fb n lv (a.app s1) mid=some y) -> ∃ n,qcK eS eL f fi fb n lv a ts=some y:=by
  rintro s1 x lv a ts mid y hn hx ⟨n,h1⟩ ⟨m,h2⟩
  refine⟨max n m+1,?_⟩
  rw[qcK,hn]
  simp only
  rw[if_neg hx,qjI h1 (WF n m)]
  exact qmL h2 (WC n m)
 have closed : ∀ {α : Type} (a : α) (l:List ByteArray) (ts r:List Tk),Hx (bs [59]::l) ts r->qb3 eS a ts = .ok a ts.tail:=fun a l ts r h=>by rw[qb3,qcF h]
 intro s
 induction s with
 |nil=>
  refine⟨fun _ lv a ts r hx hl=>⟨1,?_⟩,fun _=>trivial⟩
  obtain⟨hn,ht⟩:=qcj hx
  cases ht
  simp[qcK,hn,qoW,Ss.fl]
 |assign g s e r ih=>
  refine⟨fun hg lv a ts q hx hl=>?_,fun _=>trivial⟩
  obtain⟨-,g1,g2,g3⟩:=hg
  simp only[Ss.nest] at hl
  simp only[Ss.tx,Wi,Wj] at hx
  obtain⟨hn,h1⟩:=qcj hx
  obtain⟨n,mid,h3,h4⟩:=rb1 (eS:=eS) (eL:=eL) (f:=f) g2 (by intro o; cases o<;>decide) (qcj h1).2 (lv:=lv) (by omega)
  obtain⟨m,hm⟩:=ih.1 g3 lv (a.app (.assign f s (e.fl f) .nil)) mid.tail q (qcj h4).2 (by omega)
  refine step (.assign f s (e.fl f) .nil) s lv a ts mid.tail _ hn (qf3 g1 (.inr (.inr (by decide)))) ⟨n+1,?_⟩ ⟨m,?_⟩
  ·rw[qdo,hn]
   simp only
   rw[if_neg (qf3 g1 (.inr (.inl (by decide)))),if_neg (qf3 g1 (.inr (.inl (by decide)))),if_neg (qf3 g1 (.inr (.inl (by decide)))),if_neg (qf3 g1 (.inr (.inl (by decide)))),if_neg g1.2.2.1,if_pos ⟨g1.2.1,g1.2.2.2⟩,qcF h1]
   simp only[h3,closed _ _ _ _ h4]
  ·rw[hm,qcf]; rfl
 |store g s x y r ih=>
  refine⟨fun hg lv a ts q hx hl=>?_,fun _=>trivial⟩
  obtain⟨-,g1,g2,g3,g4⟩:=hg
  simp only[Ss.nest] at hl
  simp only[Ss.tx,Wi,Wj] at hx
  obtain⟨hn,h1⟩:=qcj hx
  obtain⟨n,mid,h3,h4⟩:=qsR (eS:=eS) (eL:=eL) (f:=f) g2 h1 (lv:=lv) (by omega)
  obtain⟨n2,mid2,h5,h6⟩:=rb1 (eS:=eS) (eL:=eL) (f:=f) g3 (by intro o; cases o<;>decide) (qcj h4).2 (lv:=lv) (by omega)
  obtain⟨m,hm⟩:=ih.1 g4 lv (a.app (.store f s (x.fl f) (y.fl f) .nil)) mid2.tail q (qcj h6).2 (by omega)
  refine step (.store f s (x.fl f) (y.fl f) .nil) s lv a ts mid2.tail _ hn (qeI g1 (by decide)) ⟨max n n2+1,?_⟩ ⟨m,?_⟩
  ·rw[qdo,hn]
   simp only
   rw[if_neg (qeI g1 (by decide)),if_neg (qeI g1 (by decide)),if_neg (qeI g1 (by decide)),if_neg (qeI g1 (by decide)),if_pos g1,qiF h3 (WF n n2)]
   simp only[qcF h4,qbf h5 (WC n n2),closed _ _ _ _ h6]
  ·rw[hm,qcf]; rfl
 |effect g x y r ih=>
  refine⟨fun hg lv a ts q hx hl=>?_,fun _=>trivial⟩
  obtain⟨-,g2,g3,g4⟩:=hg
  simp only[Ss.nest] at hl
  simp only[Ss.tx,Wi,Wj] at hx
  obtain⟨hn,h1⟩:=qcj hx
  obtain⟨n,mid,h3,h4⟩:=rb1 (eS:=eS) (eL:=eL) (f:=f) g2 (by intro o; cases o<;>decide) h1 (lv:=lv) (by omega)
  obtain⟨n2,mid2,h5,h6⟩:=rb1 (eS:=eS) (eL:=eL) (f:=f) g3 (by intro o; cases o<;>decide) (qcj h4).2 (lv:=lv) (by omega)
  obtain⟨m,hm⟩:=ih.1 g4 lv (a.app (.effect f (x.fl f) (y.fl f) .nil)) mid2.tail q (qcj h6).2 (by omega)
  refine step (.effect f (x.fl f) (y.fl f) .nil) _ lv a ts mid2.tail _ hn (by decide) ⟨max n n2+1,?_⟩ ⟨m,?_⟩
  ·rw[qdo,hn]
   simp only
   rw[if_neg (by decide),if_neg (by decide),if_pos (by rfl),qbf h3 (WF n n2)]
   simp only[qcF h4,qbf h5 (WC n n2),closed _ _ _ _ h6]
  ·rw[hm,qcf]; rfl
 |stop r ih=>
  refine⟨fun hg lv a ts q hx hl=>?_,fun _=>trivial⟩
  obtain⟨-,g4⟩:=hg
  simp only[Ss.nest] at hl
  simp only[Ss.tx,Wi,Wj] at hx
  obtain⟨hn,h1⟩:=qcj hx
  obtain⟨m,hm⟩:=ih.1 g4 lv (a.app (.stop .nil)) ts.tail.tail q (qcj h1).2 (by omega)
  refine step (.stop .nil) _ lv a ts ts.tail.tail _ hn (by decide) ⟨1,?_⟩ ⟨m,?_⟩
  ·rw[qdo,hn]
   simp only
   rw[if_neg (by decide),if_neg (by decide),if_neg (by decide),if_pos (by rfl),closed _ _ _ _ h1]
  ·rw[hm,qcf]; rfl
 |cond w g c b r ihb ih=>
  refine⟨fun hg lv a ts q hx hl=>?_,fun _=>trivial⟩
  obtain⟨-,g2,g3,g4⟩:=hg
  simp only[Ss.nest] at hl
  simp only[Ss.tx,Wi,Wj] at hx
  obtain⟨hn,h1⟩:=qcj hx
  have hrow:=ihb.2 ⟨_,g3⟩
  cases b with
  |block fb1 b1 b'=>
   obtain⟨k,hk,gb1,gb'⟩:=g3
   simp only[Ss.tx,Wi,Wj] at h1
   obtain⟨n,mid,h3,h4⟩:=rb1 (eS:=eS) (eL:=eL) (f:=f) g2 (by intro o; cases o<;>decide) h1 (lv:=lv) (by omega)
   simp only[Ss.nest] at hl
   have h4' : ∃ mid2,Hx (bs [123]::(b1.tx++[bs [125]])) mid mid2/\Hx ((if qf2 b'=true then qkI::b'.tx else [])++(r.tx++[bs [125]])) mid2 q:=by
    have e:bs [123]::(b1.tx++bs [125]::((if qf2 b'=true then qkI::b'.tx else [])++(r.tx++[bs [125]])))=(bs [123]::(b1.tx++[bs [125]]))++((if qf2 b'=true then qkI::b'.tx else [])++(r.tx++[bs [125]])):=by simp
    rw[e] at h4
    exact hx_app.1 h4
   obtain⟨mid2,h5,h6⟩:=h4'
   obtain⟨n2,h7⟩:=hrow.1 (lv+1) mid mid2 h5 (by omega)
   cases w with
   |true=>
    simp only[if_true] at hk hn
    obtain rfl:k=0:=by simpa using hk.symm
    have hb':b' = .nil:=by
     cases b' with
     |nil=>rfl
     |block=>obtain⟨k,hk,_⟩:=gb'; cases hk
     |_=>exact absurd gb'.1 (by simp)
    subst hb'
    simp only[qf2,Wo,if_false,Wc] at h6
    obtain⟨m,hm⟩:=ih.1 g4 lv (a.app (.cond true f (c.fl f) (.block fb (b1.fl f fi fb) .nil) .nil)) mid2 q h6 (by omega)
    refine step _ _ lv a ts mid2 _ hn (by decide) ⟨max n n2+1,?_⟩ ⟨m,hm.trans ?_⟩
    ·rw[qdo,hn]
     simp only
     rw[if_neg (by decide),if_pos (by rfl),qbf h3 (WF n n2)]
     simp only[qcU h7 (WC n n2)]
    ·rw[qcf]; rfl
   |false=>
    simp only[Wo,if_false] at hk hn
    obtain rfl:k=1:=by simpa using hk.symm
    cases b' with
    |block fb2 b2 b''=>
     obtain⟨k2,hk2,gb2,gb''⟩:=gb'
     obtain rfl:k2=0:=by simpa using hk2.symm
     have hb'':b'' = .nil:=by
      cases b'' with
      |nil=>rfl
      |block=>obtain⟨k,hk,_⟩:=gb''; cases hk
      |_=>exact absurd gb''.1 (by simp)
     subst hb''
     simp only[Ss.nest] at hl
     by_cases he:qf2 (.block fb2 b2 .nil)=true
     ·rw[if_pos he] at h6
      simp only[Wi,Ss.tx,Wj] at h6
      obtain⟨hn6,h8⟩:=qcj h6
      have h9 : ∃ mid3,Hx (bs [123]::(b2.tx++[bs [125]])) mid2.tail mid3/\Hx (r.tx++[bs [125]]) mid3 q:=by
       have e:bs [123]::(b2.tx++bs [125]::((if qf2 Ss.nil=true then [qkI] else [])++(r.tx++[bs [125]])))=(bs [123]::(b2.tx++[bs [125]]))++(r.tx++[bs [125]]):=by simp[qf2]
       rw[e] at h8
       exact hx_app.1 h8
      obtain⟨mid3,h10,h11⟩:=h9
      obtain⟨n3,h12⟩:=hrow.2.1 (lv+1) mid2.tail mid3 h10 (by omega)
      obtain⟨m,hm⟩:=ih.1 g4 lv (a.app (.cond false fi (c.fl f) (.block fb (b1.fl f fi fb) (.block fb (b2.fl f fi fb) .nil)) .nil)) mid3 q h11 (by omega)
      refine step _ _ lv a ts mid3 _ hn (by decide) ⟨max n (max n2 n3)+1,?_⟩ ⟨m,hm.trans ?_⟩
      ·rw[qdo,hn]
       simp only
       rw[if_pos (by rfl),qbf h3 (by omega)]
       simp only[qcU h7 (show n2<=max n (max n2 n3) by omega),hn6]
       rw[if_pos (by rfl),qcU h12 (by omega)]
      ·rw[qcf]; rfl
     ·rw[if_neg he] at h6
      simp only[Wc] at h6
      have hb2:b2 = .nil:=by cases b2<;>first|rfl|exact absurd rfl he
      subst hb2
      obtain⟨x,l,q1,q2,q3⟩:=qv3 r g4
      have hn6:nx mid2=some x:=by rw[q1] at h6; exact (qcj h6).1
      obtain⟨m,hm⟩:=ih.1 g4 lv (a.app (.cond false fi (c.fl f) (.block fb (b1.fl f fi fb) (.block fb .nil .nil)) .nil)) mid2 q h6 (by omega)
      refine step _ _ lv a ts mid2 _ hn (by decide) ⟨max n n2+1,?_⟩ ⟨m,hm.trans ?_⟩
      ·rw[qdo,hn]
       simp only
       rw[if_pos (by rfl),qbf h3 (by omega)]
       simp only[qcU h7 (show n2<=max n n2 by omega),hn6]
       rw[if_neg (show ¬ x=bs [101,108,115,101] from q2)]
      ·rw[qcf]; rfl
    |nil=>rcases gb' with h|h<;>cases h
    |_=>exact absurd gb'.1 (by simp)
  |nil=>rcases g3 with h|h<;>cases w<;>cases h
  |_=>exact absurd g3.1 (by simp)
 |block g b r ihb ihr=>
  refine⟨fun hg=>(by obtain⟨k,hk,_⟩:=hg; cases hk),fun hg=>?_⟩
  obtain⟨k,k',hk,g1,g2⟩:=hg
  refine⟨fun lv ts q hx hl=>?_,ihr.2 ⟨_,g2⟩⟩
  obtain⟨m,hm⟩:=ihb.1 g1 lv .nil ts.tail q (qcj hx).2 hl
  refine⟨m+1,?_⟩
  rw[qbz,qf4 hx (by omega)]
  exact hm
end
end
section
def E.cost:E->Nat
 |.int n=>(qkJ n.toNat).length+1
 |.bool n=>if n=0 then 6 else 5
 |.var s=>s.size+1
 |.name s=>s.size+1
 |.field _ s e=>s.size+5+e.cost
 |.un _ _ e=>6+e.cost
 |.bin _ o a b=>o.str.size+5+(a.cost+b.cost)
def Ss.cost:Ss->Nat
 |.nil=>0
 |.assign _ s e r=>s.size+5+e.cost+r.cost
 |.store _ s a b r=>s.size+9+(a.cost+b.cost)+r.cost
 |.effect _ a b r=>11+(a.cost+b.cost)+r.cost
 |.stop r=>7+r.cost
 |.cond w _ c b r=>(if w then 6 else 3)+c.cost+b.cost+r.cost
 |.block _ b r=>4+b.cost+((if qf2 r then 5 else 0)+r.cost)
def Co(c0:Int)(cost:Nat)(xs:List Int)(i i':Int):Prop:=i<=i'/\(i'<=i\/i'<=xs.length)/\(cost:Int)<=c0+24*(i'-i)
end
section
open F
theorem qtx{n m:Int}(h1:I64 n)(hm:1<=m):Z qad (.call 17 [.int n,.int m] [])=some (.ret (.int (qiS n m)) []):=by
 refine qab (pf:=F17) rfl rfl ?_
 unfold qiS
 have hm0 : ¬ m=0:=by omega
 by_cases h:n<0
 ·have w1:IntKind.i64.wrap (n+1)=n+1:=qai _ (by unfold I64 at h1; omega)
  have w2:IntKind.i64.wrap (-(n+1)) = -(n+1):=qai _ (by unfold I64 at h1; omega)
  simp[F17,h,hm0,w1,w2]
 ·simp[F17,h,hm0]
abbrev qw7(v:D)(i:Int):S:=[.cells [.dat v,.int i]]
abbrev gst(xs:List Int)(i:Int):S:=qw7 (qeA xs) i
def qaA(xs:List Int)(i m:Int):Int:=if (xs.length:Int)<=i then 0 else (qiS (xs.getD i.toNat 0) 1000000).tmod m
def qaE(xs:List Int)(i:Int):Int:=if (xs.length:Int)<=i then i else i+1
structure Bnd(v:D)(xs:List Int)(B:Int):Prop where
 row:RowV v xs
 len:(xs.length:Int)<=B
 big:B<=9223372036854775807
theorem qpl(xs:List Int):RowV (qeA xs) xs:=by
 cases xs
 ·exact .inl ⟨_,rfl,rfl⟩
 ·exact .inr rfl
theorem qbA{xs:List Int}(h:xs.length<=100):Bnd (qeA xs) xs 100:=⟨qpl xs,by omega,by omega⟩
theorem qav{v:D}{xs:List Int}{i B:Int}(h:0<=i/\i<=B)(hl:Bnd v xs B):0<=qaE xs i/\qaE xs i<=B:=by
 have:=hl.len
 unfold qaE; split<;>omega
theorem qas(xs:List Int)(i:Int):(qaE xs i=i+1/\i<xs.length)\/(qaE xs i=i /\ ∀ m,qaA xs i m=0):=by
 unfold qaE qaA
 split
 ·exact .inr ⟨rfl,fun m=>rfl⟩
 ·exact .inl ⟨rfl,by omega⟩
theorem qbi{xs:List Int}{i m:Int}(hx : ∀ x∈xs,I64 x)(hm:1<=m):0<=qaA xs i m/\qaA xs i m<m:=by
 unfold qaA
 split
 ·omega
 ·have h0:I64 (xs.getD i.toNat 0):=by
   rw[WB]
   cases h:xs[i.toNat]? with
   |none=>simp[I64]
   |some y=>exact hx _ (WP h)
  have:=qqR (m:=1000000) h0 (by omega)
  exact qh3 this.1 hm
theorem qbn {v:D} {xs:List Int} {i m B:Int} (hx : ∀ x∈xs,I64 x) (hl:Bnd v xs B) (hi:0<=i/\i<=B) (hm:1<=m) :
  Z qad (.call 136 [.ptr 0 0,.int m] (qw7 v i))=some (.ret (.int (qaA xs i m)) (qw7 v (qaE xs i))):=by
 refine qab (pf:=F136) rfl rfl ?_
 have hm0:m≠0:=by omega
 have hb:=hl.len
 have hb2:=hl.big
 rcases hl.row with ⟨o,rfl,rfl⟩|rfl
 ·have h:(0:Int)<=i:=hi.1
  simp[F136,h,qaA,qaE,V.len]
 by_cases h:(xs.length:Int)<=i
 ·simp[F136,h,qaA,qaE,V.len]
 ·have a1:=qd9 (intsC xs) xs.length false i hi.1 (by omega)
  have hlt:i.toNat<xs.length:=by omega
  have a2:=qim xs i.toNat hlt
  have a3:=qtx (n:=xs[i.toNat]) (m:=1000000) (hx _ (Yx hlt)) (by omega)
  have w1:=qai (i+1) (by omega)
  simp[F136,w1,h,qaA,qaE,V.len,a1,a2,a3,hm0,hlt]
section
variable(k:Int)(s:ByteArray)(a b a' b':Int)(t t':ByteArray)(d d':D)
theorem qrx (h1:V.one (.dat d)=true) (h2:V.cells (.dat d)=[.dat d]) :
  Z qad (.call 176 [.int k,.str s,.dat (.agg [.lit (.int .i64 a),.lit (.int .i64 b),.lit (.string t),d])] []) =
   some (.ret (.dat (.agg [.lit (.int .i64 k),.lit (.int .i64 0),.lit (.string s),.sl [.lit (.int .i64 a),.lit (.int .i64 b),.lit (.string t),d] 1 true])) []):=by
 refine qab (pf:=F176) rfl rfl ?_
 simp[F176,h1,h2]
theorem qpm (h1:V.one (.dat d)=true) (h2:V.cells (.dat d)=[.dat d]) (h3:V.one (.dat d')=true) (h4:V.cells (.dat d')=[.dat d']) :
  Z qad (.call 178 [.int k,.str s,.dat (.agg [.lit (.int .i64 a),.lit (.int .i64 b),.lit (.string t),d]),.dat (.agg [.lit (.int .i64 a'),.lit (.int .i64 b'),.lit (.string t'),d'])] []) =
   some (.ret (.dat (.agg [.lit (.int .i64 k),.lit (.int .i64 0),.lit (.string s),.sl [.lit (.int .i64 a),.lit (.int .i64 b),.lit (.string t),d,.lit (.int .i64 a'),.lit (.int .i64 b'),.lit (.string t'),d'] 2 true])) []):=by
 refine qab (pf:=F178) rfl rfl ?_
 simp[F178,h1,h2,h3,h4,Wa]
end
def qpn:List ByteArray:=[⟨#[105]⟩,⟨#[110]⟩,⟨#[115,117,109]⟩,⟨#[118,51]⟩]
def qty:List ByteArray:=qpn++[⟨#[118]⟩]
def ql6:List ByteArray:=[⟨#[115,101,108,102]⟩,⟨#[111,116,104,101,114]⟩,⟨#[116,105,99,107]⟩]
def qgd:List ByteArray:=[⟨#[120]⟩,⟨#[121]⟩,⟨#[118,120]⟩,⟨#[118,121]⟩,⟨#[97]⟩,⟨#[98]⟩]
def qdU:List ByteArray:=qgd++[⟨#[104,105,116]⟩,⟨#[115,116,105,108,108]⟩]
def E.fine:E->Prop
 |.int n=>0<=n/\n<=2147483647
 |.bool n=>n=0\/n=1
 |.var s=>s∈qty
 |.name s=>s∈ql6
 |.field _ s e=>s∈qdU/\e.fine/\e.ty=1
 |.un _ neg e=>e.fine/\e.ty=if neg then 1 else 2
 |.bin _ o a b=>a.fine/\b.fine/\a.ty=o.opd/\b.ty=o.opd
def E.dp:E->Nat
 |.field _ _ e=>e.dp+1
 |.un _ _ e=>e.dp+1
 |.bin _ _ a b=>max a.dp b.dp+1
 |_=>0
def mxs:Nat->Nat
 |0=>1
 |n+1=>2*mxs n+1
theorem qi2(n:Nat):1<=mxs n:=by cases n<;>simp[mxs]
def GIb(B:Int)(v:D)(xs:List Int)(d i:Int):Prop := ∃ (e:E) (i':Int),(e.fine/\e.ty=1/\e.dp<=d.toNat/\e.size<=mxs d.toNat/\Co 2 e.cost xs i i')/\(0<=i'/\i'<=B) /\
 Z qad (.call 177 [.ptr 0 0,.int d] (qw7 v i))=some (.ret e.node (qw7 v i'))
def GBb(B:Int)(v:D)(xs:List Int)(d i:Int):Prop := ∃ (e:E) (i':Int),(e.fine/\e.ty=2/\e.dp<=d.toNat+1/\e.size<=mxs (d.toNat+1)/\Co 6 e.cost xs i i')/\(0<=i'/\i'<=B) /\
 Z qad (.call 179 [.ptr 0 0,.int d] (qw7 v i))=some (.ret e.node (qw7 v i'))
abbrev GI(xs:List Int):=GIb 100 (qeA xs) xs
abbrev GB(xs:List Int):=GBb 100 (qeA xs) xs
theorem qi3{l:List ByteArray}{p:Int}(h:0<=p/\p<l.length) : ∃ s∈l,qaj (qaV l) p.toNat 1=some [.lit (.string s)]:=
 ⟨_,Yx (by omega:p.toNat<l.length),qh5 l p.toNat (by omega)⟩
def nums:List Int:=[0,1,2,3,7,100,1024,2147483647]
def qxG:List Bop:=[.add,.sub,.mul,.div]
theorem qw8{p:Int}(h:0<=p/\p<4) : ∃ o∈qxG,qaj (qaV [⟨#[43]⟩,⟨#[45]⟩,⟨#[42]⟩,⟨#[47]⟩]) p.toNat 1=some [.lit (.string (Bop.str o))]:=by
 obtain rfl|rfl|rfl|rfl:p=0\/p=1\/p=2\/p=3:=by omega
 ·exact⟨.add,by simp[qxG],rfl⟩
 ·exact⟨.sub,by simp[qxG],rfl⟩
 ·exact⟨.mul,by simp[qxG],rfl⟩
 ·exact⟨.div,by simp[qxG],rfl⟩
section
variable{v:D}{xs:List Int}{i d B:Int}(hx : ∀ x∈xs,I64 x)(hl:Bnd v xs B)(hi:0<=i/\i<=B)
include hx hl hi
def qj1(xs:List Int)(d i:Int):Int:=if d<=0 then (qaA xs i 12).tmod 6 else qaA xs i 12
theorem qry(h:qj1 xs d i=0\/qj1 xs d i=1):GIb B v xs d i:=by
 have n1:=qbn (i:=i) (m:=12) hx hl hi (by omega)
 have r1:=qav hi hl
 have n2:=qbn (i:=qaE xs i) (m:=8) hx hl r1 (by omega)
 have r2:=qav r1 hl
 have p:=qbi (i:=qaE xs i) (m:=8) hx (by omega)
 have hat:=qd9 (intsC nums) 8 true (qaA xs (qaE xs i) 8) p.1 (by omega)
 have hc:=qim nums (qaA xs (qaE xs i) 8).toNat (by simp[nums]; omega)
 have hm : ∀ n∈nums,0<=n/\n<=2147483647:=by decide
 have hn:=hm _ (Yx (l:=nums) (n:=(qaA xs (qaE xs i) 8).toNat) (by simp[nums]; omega))
 have hlen:(qaA xs (qaE xs i) 8).toNat<nums.length:=by simp[nums]; omega
 have hco:Co 2 (E.cost (.int (nums[(qaA xs (qaE xs i) 8).toNat]'hlen))) xs i (qaE xs (qaE xs i)):=by
  have hcs : ∀ n∈nums,E.cost (.int n)<=11:=by decide +kernel
  have h11:=hcs _ (Yx hlen)
  have h0 : ∀ (k:Nat) (hk:k<nums.length),k=0->E.cost (.int (nums[k]'hk))=2:=fun k hk e=>by subst e; exact (by decide +kernel:E.cost (.int 0)=2)
  have hz:=h0 _ hlen
  unfold Co
  rcases qas xs i with ⟨e1,l1⟩|⟨e1,l1⟩
  ·rcases qas xs (qaE xs i) with ⟨e2,l2⟩|⟨e2,l2⟩<;>omega
  ·have e3:qaA xs (qaE xs i) 8=0:=by rw[e1]; exact l1 8
   have e4:=hz (by rw[e3]; rfl)
   rcases qas xs (qaE xs i) with ⟨e2,l2⟩|⟨e2,l2⟩<;>omega
 generalize nums[(qaA xs (qaE xs i) 8).toNat]'_=vv at hc hn hco
 simp only[nums,intsC,List.map] at hat hc
 refine⟨.int vv,_,⟨hn,rfl,WN _,qi2 _,hco⟩,r2,?_⟩
 refine qab (pf:=F177) rfl rfl ?_
 unfold qj1 at h
 by_cases hd:d<=0
 ·rw[if_pos hd] at h
  rcases h with h|h<;>simp[F177,n1,n2,hd,h,hat,hc]
 ·rw[if_neg hd] at h
  rcases h with h|h<;>simp[F177,n1,n2,hd,h,hat,hc]
theorem qrz(h:qj1 xs d i=2\/qj1 xs d i=3):GIb B v xs d i:=by
 have n1:=qbn (i:=i) (m:=12) hx hl hi (by omega)
 have r1:=qav hi hl
 have n2:=qbn (i:=qaE xs i) (m:=4) hx hl r1 (by omega)
 have r2:=qav r1 hl
 have p:=qbi (i:=qaE xs i) (m:=4) hx (by omega)
 have hat:=qd9 (qaV qpn) 4 true (qaA xs (qaE xs i) 4) p.1 (by omega)
 obtain⟨s,hs,hc⟩:=qi3 (l:=qpn) (p:=qaA xs (qaE xs i) 4) (by simpa [qpn] using p)
 simp only[qpn,qaV,List.map] at hat hc
 have hsel:qaA xs i 12≠0:=fun h0=>by
  unfold qj1 at h
  rw[h0] at h
  split at h<;>simp at h
 have hco:Co 2 (E.cost (.var s)) xs i (qaE xs (qaE xs i)):=by
  have hcs : ∀ s∈qpn,s.size<=5:=by decide
  have h5:=hcs s hs
  show _/\_/\((s.size+1:Nat):Int)<=_
  rcases qas xs i with ⟨e1,l1⟩|⟨e1,l1⟩
  ·rcases qas xs (qaE xs i) with ⟨e2,l2⟩|⟨e2,l2⟩<;>omega
  ·exact absurd (l1 12) hsel
 refine⟨.var s,_,⟨Yr _ hs,rfl,WN _,qi2 _,hco⟩,r2,?_⟩
 refine qab (pf:=F177) rfl rfl ?_
 unfold qj1 at h
 by_cases hd:d<=0
 ·rw[if_pos hd] at h
  rcases h with h|h<;>simp[F177,n1,n2,hd,h,hat,hc]
 ·rw[if_neg hd] at h
  rcases h with h|h<;>simp[F177,n1,n2,hd,h,hat,hc]
theorem qoi(h:qj1 xs d i=4\/qj1 xs d i=5):GIb B v xs d i:=by
 have n1:=qbn (i:=i) (m:=12) hx hl hi (by omega)
 have r1:=qav hi hl
 have n2:=qbn (i:=qaE xs i) (m:=3) hx hl r1 (by omega)
 have r2:=qav r1 hl
 have p:=qbi (i:=qaE xs i) (m:=3) hx (by omega)
 have hat:=qd9 (qaV ql6) 3 true (qaA xs (qaE xs i) 3) p.1 (by omega)
 obtain⟨s,hs,hc⟩:=qi3 (l:=ql6) (p:=qaA xs (qaE xs i) 3) (by simpa [ql6] using p)
 simp only[ql6,qaV,List.map] at hat hc
 have hsel:qaA xs i 12≠0:=fun h0=>by
  unfold qj1 at h
  rw[h0] at h
  split at h<;>simp at h
 have hco:Co 2 (E.cost (.name s)) xs i (qaE xs (qaE xs i)):=by
  have hcs : ∀ s∈ql6,s.size<=5:=by decide
  have h5:=hcs s hs
  show _/\_/\((s.size+1:Nat):Int)<=_
  rcases qas xs i with ⟨e1,l1⟩|⟨e1,l1⟩
  ·rcases qas xs (qaE xs i) with ⟨e2,l2⟩|⟨e2,l2⟩<;>omega
  ·exact absurd (l1 12) hsel
 refine⟨.name s,_,⟨hs,rfl,WN _,qi2 _,hco⟩,r2,?_⟩
 refine qab (pf:=F177) rfl rfl ?_
 unfold qj1 at h
 by_cases hd:d<=0
 ·rw[if_pos hd] at h
  rcases h with h|h<;>simp[F177,n1,n2,hd,h,hat,hc]
 ·rw[if_neg hd] at h
  rcases h with h|h<;>simp[F177,n1,n2,hd,h,hat,hc]
theorem qrA(hd : ¬ d<=0)(hd2:d<=1000)(ih : ∀ j,0<=j/\j<=B->GIb B v xs (d-1) j)(h:qaA xs i 12=6\/qaA xs i 12=7):GIb B v xs d i:=by
 have n1:=qbn (i:=i) (m:=12) hx hl hi (by omega)
 have r1:=qav hi hl
 have n2:=qbn (i:=qaE xs i) (m:=8) hx hl r1 (by omega)
 have r2:=qav r1 hl
 have p:=qbi (i:=qaE xs i) (m:=8) hx (by omega)
 have hat:=qd9 (qaV qdU) 8 true (qaA xs (qaE xs i) 8) p.1 (by omega)
 obtain⟨s,hs,hc⟩:=qi3 (l:=qdU) (p:=qaA xs (qaE xs i) 8) (by simpa [qdU,qgd] using p)
 simp only[qdU,qgd,qaV,List.map,Wi,Wc] at hat hc
 obtain⟨e,i',h1,h2,h3⟩:=ih _ r2
 have o:=qrx 11 s e.kind e.num e.str e.kids (by simp) (by simp)
 have w1:=qai (d-1) (by omega)
 have ed:d.toNat=(d-1).toNat+1:=by omega
 have hco:Co 2 (E.cost (.field true s e)) xs i i':=by
  have hcs : ∀ s∈qdU,s.size<=5:=by decide
  have h5:=hcs s hs
  obtain⟨q1,q2,q3⟩:=h1.2.2.2.2
  show _/\_/\((s.size+5+e.cost:Nat):Int)<=_
  rcases qas xs i with ⟨e1,l1⟩|⟨e1,l1⟩
  ·rcases qas xs (qaE xs i) with ⟨e2,l2⟩|⟨e2,l2⟩<;>omega
  ·exact absurd (l1 12) (by omega)
 refine⟨.field true s e,i',⟨⟨hs,h1.1,h1.2.1⟩,by simp[h1.2.1],by rw[ed]; simp only[E.dp]; omega,by rw[ed]; simp only[mxs,qpj]; omega,hco⟩,h2,?_⟩
 refine qab (pf:=F177) rfl rfl ?_
 rcases h with h|h<;>simp[F177,n1,n2,hd,h,hat,hc,h3,o,w1]
theorem qw9(hd : ¬ d<=0)(hd2:d<=1000)(ih : ∀ j,0<=j/\j<=B->GIb B v xs (d-1) j)(h:qaA xs i 12=8):GIb B v xs d i:=by
 have n1:=qbn (i:=i) (m:=12) hx hl hi (by omega)
 have r1:=qav hi hl
 obtain⟨e,i',h1,h2,h3⟩:=ih _ r1
 have o:=qrx 13 ⟨#[45]⟩ e.kind e.num e.str e.kids (by simp) (by simp)
 have w1:=qai (d-1) (by omega)
 have ed:d.toNat=(d-1).toNat+1:=by omega
 have hco:Co 2 (E.cost (.un true true e)) xs i i':=by
  obtain⟨q1,q2,q3⟩:=h1.2.2.2.2
  show _/\_/\((6+e.cost:Nat):Int)<=_
  rcases qas xs i with ⟨e1,l1⟩|⟨e1,l1⟩
  ·omega
  ·exact absurd (l1 12) (by omega)
 refine⟨.un true true e,i',⟨⟨h1.1,h1.2.1⟩,by simp[h1.2.1],by rw[ed]; simp only[E.dp]; omega,by rw[ed]; simp only[mxs,qrs]; omega,hco⟩,h2,?_⟩
 refine qab (pf:=F177) rfl rfl ?_
 simp[F177,n1,hd,h,h3,o,w1,ustr]
theorem qxa(hd : ¬ d<=0)(hd2:d<=1000)(ih : ∀ j,0<=j/\j<=B->GIb B v xs (d-1) j)(h:9<=qaA xs i 12):GIb B v xs d i:=by
 have n1:=qbn (i:=i) (m:=12) hx hl hi (by omega)
 have r1:=qav hi hl
 have n2:=qbn (i:=qaE xs i) (m:=4) hx hl r1 (by omega)
 have r2:=qav r1 hl
 have p:=qbi (i:=qaE xs i) (m:=4) hx (by omega)
 have hat:=qd9 (qaV [⟨#[43]⟩,⟨#[45]⟩,⟨#[42]⟩,⟨#[47]⟩]) 4 true (qaA xs (qaE xs i) 4) p.1 (by omega)
 obtain⟨o,ho,hc⟩:=qw8 p
 simp only[qaV,List.map] at hat hc
 obtain⟨a,i1,h1,h2,h3⟩:=ih _ r2
 obtain⟨b,i2,h4,h5,h6⟩:=ih _ h2
 have ot:=qpm 14 o.str a.kind a.num b.kind b.num a.str b.str a.kids b.kids (by simp) (by simp) (by simp) (by simp)
 have w1:=qai (d-1) (by omega)
 have ed:d.toNat=(d-1).toNat+1:=by omega
 have ho1:o.opd=1/\o.res=1:=by
  simp only[qxG,Wu,Ww,or_false] at ho
  rcases ho with rfl|rfl|rfl|rfl<;>exact⟨rfl,rfl⟩
 have hco:Co 2 (E.cost (.bin true o a b)) xs i i2:=by
  have ho2:o.str.size<=2:=by cases o<;>decide
  obtain⟨q1,q2,q3⟩:=h1.2.2.2.2
  obtain⟨q4,q5,q6⟩:=h4.2.2.2.2
  show _/\_/\((o.str.size+5+(a.cost+b.cost):Nat):Int)<=_
  rcases qas xs i with ⟨e1,l1⟩|⟨e1,l1⟩
  ·rcases qas xs (qaE xs i) with ⟨e2,l2⟩|⟨e2,l2⟩<;>omega
  ·exact absurd (l1 12) (by omega)
 refine⟨.bin true o a b,i2,⟨⟨h1.1,h4.1,by rw[ho1.1]; exact h1.2.1,by rw[ho1.1]; exact h4.2.1⟩,by simp[h1.2.1,h4.2.1,ho1.1,ho1.2],by rw[ed]; simp only[E.dp]; omega,by rw[ed]; simp only[mxs,qkY]; omega,hco⟩,h5,?_⟩
 refine qab (pf:=F177) rfl rfl ?_
 have k0 : ¬ qaA xs i 12=0:=by omega
 have k1 : ¬ qaA xs i 12=1:=by omega
 have k2 : ¬ qaA xs i 12=2:=by omega
 have k3 : ¬ qaA xs i 12=3:=by omega
 have k4 : ¬ qaA xs i 12=4:=by omega
 have k5 : ¬ qaA xs i 12=5:=by omega
 have k6 : ¬ qaA xs i 12=6:=by omega
 have k7 : ¬ qaA xs i 12=7:=by omega
 have k8 : ¬ qaA xs i 12=8:=by omega
 simp[F177,n1,n2,hd,k0,k1,k2,k3,k4,k5,k6,k7,k8,hat,hc,h3,h6,ot,w1]
end
end
section
open F
theorem qqc{v:D}{xs:List Int}{B:Int}(hx : ∀ x∈xs,I64 x)(hl:Bnd v xs B) : ∀ (n:Nat) (d i:Int),d<=n->n<=1000->(0<=i/\i<=B)->GIb B v xs d i
 |n,d,i,hd,hn,hi=>by
  have p:=qbi (i:=i) (m:=12) hx (by omega)
  by_cases h0:d<=0
  ·have q:=qh3 p.1 (m:=6) (by omega)
   have e:qj1 xs d i=(qaA xs i 12).tmod 6:=if_pos h0
   by_cases h1:qj1 xs d i<2
   ·exact qry hx hl hi (by omega)
   by_cases h2:qj1 xs d i<4
   ·exact qrz hx hl hi (by omega)
   ·exact qoi hx hl hi (by omega)
  ·have e:qj1 xs d i=qaA xs i 12:=if_neg h0
   by_cases h1:qj1 xs d i<2
   ·exact qry hx hl hi (by omega)
   by_cases h2:qj1 xs d i<4
   ·exact qrz hx hl hi (by omega)
   by_cases h3:qj1 xs d i<6
   ·exact qoi hx hl hi (by omega)
   cases n with
   |zero=>omega
   |succ n=>
    have ih : ∀ j,0<=j/\j<=B->GIb B v xs (d-1) j:=fun j hj=>qqc hx hl n (d-1) j (by omega) (by omega) hj
    by_cases h4:qj1 xs d i<8
    ·exact qrA hx hl hi h0 (by omega) ih (by omega)
    by_cases h5:qj1 xs d i=8
    ·exact qw9 hx hl hi h0 (by omega) ih (by omega)
    ·exact qxa hx hl hi h0 (by omega) ih (by omega)
def qt3:List Bop:=[.lt,.le,.gt,.ge,.eq,.ne]
theorem qvr{p:Int}(h:0<=p/\p<6) : ∃ o∈qt3,qaj (qaV [⟨#[60]⟩,⟨#[60,61]⟩,⟨#[62]⟩,⟨#[62,61]⟩,⟨#[61,61]⟩,⟨#[33,61]⟩]) p.toNat 1=some [.lit (.string (Bop.str o))]:=by
 obtain rfl|rfl|rfl|rfl|rfl|rfl:p=0\/p=1\/p=2\/p=3\/p=4\/p=5:=by omega
 ·exact⟨.lt,by simp[qt3],rfl⟩
 ·exact⟨.le,by simp[qt3],rfl⟩
 ·exact⟨.gt,by simp[qt3],rfl⟩
 ·exact⟨.ge,by simp[qt3],rfl⟩
 ·exact⟨.eq,by simp[qt3],rfl⟩
 ·exact⟨.ne,by simp[qt3],rfl⟩
def qz3:List Bop:=[.and,.or]
theorem qvs{p:Int}(h:0<=p/\p<2) : ∃ o∈qz3,qaj (qaV [⟨#[38,38]⟩,⟨#[124,124]⟩]) p.toNat 1=some [.lit (.string (Bop.str o))]:=by
 obtain rfl|rfl:p=0\/p=1:=by omega
 ·exact⟨.and,by simp[qz3],rfl⟩
 ·exact⟨.or,by simp[qz3],rfl⟩
def qqd(xs:List Int)(d i:Int):Int:=if d<=0 then (qaA xs i 8).tmod 4 else qaA xs i 8
section
variable{v:D}{xs:List Int}{i d B:Int}(hx : ∀ x∈xs,I64 x)(hl:Bnd v xs B)(hi:0<=i/\i<=B)
include hx hl hi
theorem qnw(h:qqd xs d i=0):GBb B v xs d i:=by
 have n1:=qbn (i:=i) (m:=8) hx hl hi (by omega)
 have r1:=qav hi hl
 have n2:=qbn (i:=qaE xs i) (m:=2) hx hl r1 (by omega)
 have r2:=qav r1 hl
 have p:=qbi (i:=qaE xs i) (m:=2) hx (by omega)
 have hco:Co 6 (E.cost (.bool (qaA xs (qaE xs i) 2))) xs i (qaE xs (qaE xs i)):=by
  have hb:E.cost (.bool (qaA xs (qaE xs i) 2))<=6:=by simp only[E.cost]; split<;>omega
  unfold Co
  rcases qas xs i with ⟨e1,l1⟩|⟨e1,l1⟩<;>rcases qas xs (qaE xs i) with ⟨e2,l2⟩|⟨e2,l2⟩<;>omega
 refine⟨.bool (qaA xs (qaE xs i) 2),_,⟨by show _\/_; omega,rfl,WN _,qi2 _,hco⟩,r2,?_⟩
 refine qab (pf:=F179) rfl rfl ?_
 unfold qqd at h
 by_cases hd:d<=0
 ·rw[if_pos hd] at h
  simp[F179,n1,n2,hd,h]
 ·rw[if_neg hd] at h
  simp[F179,n1,n2,hd,h]
theorem qnx(hd2:d<=1000)(hd3 : -1000<=d)(ih : ∀ j,0<=j/\j<=B->GIb B v xs (d-1) j)(h:1<=qqd xs d i/\qqd xs d i<=4):GBb B v xs d i:=by
 have n1:=qbn (i:=i) (m:=8) hx hl hi (by omega)
 have r1:=qav hi hl
 have n2:=qbn (i:=qaE xs i) (m:=6) hx hl r1 (by omega)
 have r2:=qav r1 hl
 have p:=qbi (i:=qaE xs i) (m:=6) hx (by omega)
 have hat:=qd9 (qaV [⟨#[60]⟩,⟨#[60,61]⟩,⟨#[62]⟩,⟨#[62,61]⟩,⟨#[61,61]⟩,⟨#[33,61]⟩]) 6 true (qaA xs (qaE xs i) 6) p.1 (by omega)
 obtain⟨o,ho,hc⟩:=qvr p
 simp only[qaV,List.map] at hat hc
 obtain⟨a,i1,h1,h2,h3⟩:=ih _ r2
 obtain⟨b,i2,h4,h5,h6⟩:=ih _ h2
 have ot:=qpm 14 o.str a.kind a.num b.kind b.num a.str b.str a.kids b.kids (by simp) (by simp) (by simp) (by simp)
 have w1:=qai (d-1) (by omega)
 have ed:(d-1).toNat<=d.toNat:=by omega
 have hm:mxs (d-1).toNat<=mxs d.toNat:=by
  by_cases h0:d<=0
  ·rw[show (d-1).toNat=0 by omega]; exact qi2 _
  ·rw[show d.toNat=(d-1).toNat+1 by omega]; simp only[mxs]; omega
 have ho1:o.opd=1/\o.res=2:=by
  simp only[qt3,Wu,Ww,or_false] at ho
  rcases ho with rfl|rfl|rfl|rfl|rfl|rfl<;>exact⟨rfl,rfl⟩
 have hco:Co 6 (E.cost (.bin true o a b)) xs i i2:=by
  have ho2:o.str.size<=2:=by cases o<;>decide
  obtain⟨q1,q2,q3⟩:=h1.2.2.2.2
  obtain⟨q4,q5,q6⟩:=h4.2.2.2.2
  show _/\_/\((o.str.size+5+(a.cost+b.cost):Nat):Int)<=_
  rcases qas xs i with ⟨e1,l1⟩|⟨e1,l1⟩
  ·rcases qas xs (qaE xs i) with ⟨e2,l2⟩|⟨e2,l2⟩<;>omega
  ·exact absurd (l1 8) (fun h0=>by
    unfold qqd at h
    rw[h0] at h
    split at h<;>simp at h)
 refine⟨.bin true o a b,i2,⟨⟨h1.1,h4.1,by rw[ho1.1]; exact h1.2.1,by rw[ho1.1]; exact h4.2.1⟩,by simp[h1.2.1,h4.2.1,ho1.1,ho1.2],by simp only[E.dp]; omega,by simp only[mxs,qkY]; omega,hco⟩,h5,?_⟩
 refine qab (pf:=F179) rfl rfl ?_
 unfold qqd at h
 by_cases hd:d<=0
 ·rw[if_pos hd] at h
  obtain h'|h'|h'|h':(qaA xs i 8).tmod 4=1\/(qaA xs i 8).tmod 4=2\/(qaA xs i 8).tmod 4=3\/(qaA xs i 8).tmod 4=4:=by omega
  all_goals simp[F179,n1,n2,hd,h',hat,hc,h3,h6,ot,w1]
 ·rw[if_neg hd] at h
  obtain h'|h'|h'|h':qaA xs i 8=1\/qaA xs i 8=2\/qaA xs i 8=3\/qaA xs i 8=4:=by omega
  all_goals simp[F179,n1,n2,hd,h',hat,hc,h3,h6,ot,w1]
theorem qsx(hd : ¬ d<=0)(hd2:d<=1000)(ih : ∀ j,0<=j/\j<=B->GBb B v xs (d-1) j)(h:qaA xs i 8=5):GBb B v xs d i:=by
 have n1:=qbn (i:=i) (m:=8) hx hl hi (by omega)
 have r1:=qav hi hl
 obtain⟨e,i',h1,h2,h3⟩:=ih _ r1
 have o:=qrx 13 ⟨#[33]⟩ e.kind e.num e.str e.kids (by simp) (by simp)
 have w1:=qai (d-1) (by omega)
 have ed:d.toNat=(d-1).toNat+1:=by omega
 have hco:Co 6 (E.cost (.un true false e)) xs i i':=by
  obtain⟨q1,q2,q3⟩:=h1.2.2.2.2
  show _/\_/\((6+e.cost:Nat):Int)<=_
  rcases qas xs i with ⟨e1,l1⟩|⟨e1,l1⟩
  ·omega
  ·exact absurd (l1 8) (by omega)
 refine⟨.un true false e,i',⟨⟨h1.1,h1.2.1⟩,by simp[h1.2.1],by rw[ed]; simp only[E.dp]; omega,by rw[ed]; have:=h1.2.2.2.1; simp only[mxs,qrs] at *; omega,hco⟩,h2,?_⟩
 refine qab (pf:=F179) rfl rfl ?_
 simp[F179,n1,hd,h,h3,o,w1,ustr]
theorem qsy(hd : ¬ d<=0)(hd2:d<=1000)(ih : ∀ j,0<=j/\j<=B->GBb B v xs (d-1) j)(h:qaA xs i 8=6\/qaA xs i 8=7):GBb B v xs d i:=by
 have n1:=qbn (i:=i) (m:=8) hx hl hi (by omega)
 have r1:=qav hi hl
 have n2:=qbn (i:=qaE xs i) (m:=2) hx hl r1 (by omega)
 have r2:=qav r1 hl
 have p:=qbi (i:=qaE xs i) (m:=2) hx (by omega)
 have hat:=qd9 (qaV [⟨#[38,38]⟩,⟨#[124,124]⟩]) 2 true (qaA xs (qaE xs i) 2) p.1 (by omega)
 obtain⟨o,ho,hc⟩:=qvs p
 simp only[qaV,List.map] at hat hc
 obtain⟨a,i1,h1,h2,h3⟩:=ih _ r2
 obtain⟨b,i2,h4,h5,h6⟩:=ih _ h2
 have ot:=qpm 14 o.str a.kind a.num b.kind b.num a.str b.str a.kids b.kids (by simp) (by simp) (by simp) (by simp)
 have w1:=qai (d-1) (by omega)
 have ed:d.toNat=(d-1).toNat+1:=by omega
 have ho1:o.opd=2/\o.res=2:=by
  simp only[qz3,Wu,Ww,or_false] at ho
  rcases ho with rfl|rfl<;>exact⟨rfl,rfl⟩
 have hco:Co 6 (E.cost (.bin true o a b)) xs i i2:=by
  have ho2:o.str.size<=2:=by cases o<;>decide
  obtain⟨q1,q2,q3⟩:=h1.2.2.2.2
  obtain⟨q4,q5,q6⟩:=h4.2.2.2.2
  show _/\_/\((o.str.size+5+(a.cost+b.cost):Nat):Int)<=_
  rcases qas xs i with ⟨e1,l1⟩|⟨e1,l1⟩
  ·rcases qas xs (qaE xs i) with ⟨e2,l2⟩|⟨e2,l2⟩<;>omega
  ·exact absurd (l1 8) (by omega)
 refine⟨.bin true o a b,i2,⟨⟨h1.1,h4.1,by rw[ho1.1]; exact h1.2.1,by rw[ho1.1]; exact h4.2.1⟩,by simp[h1.2.1,h4.2.1,ho1.1,ho1.2],by rw[ed]; simp only[E.dp]; omega,by rw[ed]; have:=h1.2.2.2.1; have:=h4.2.2.2.1; simp only[mxs,qkY] at *; omega,hco⟩,h5,?_⟩
 refine qab (pf:=F179) rfl rfl ?_
 rcases h with h|h<;>simp[F179,n1,n2,hd,h,hat,hc,h3,h6,ot,w1]
end
theorem qqe{v:D}{xs:List Int}{B:Int}(hx : ∀ x∈xs,I64 x)(hl:Bnd v xs B) : ∀ (n:Nat) (d i:Int),d<=n -> -100<=d->n<=1000->(0<=i/\i<=B)->GBb B v xs d i
 |n,d,i,hd,hd',hn,hi=>by
  have p:=qbi (i:=i) (m:=8) hx (by omega)
  have ihI : ∀ j,0<=j/\j<=B->GIb B v xs (d-1) j:=fun j hj=>qqc hx hl n (d-1) j (by omega) (by omega) hj
  by_cases h0:d<=0
  ·have q:=qh3 p.1 (m:=4) (by omega)
   have e:qqd xs d i=(qaA xs i 8).tmod 4:=if_pos h0
   by_cases h1:qqd xs d i=0
   ·exact qnw hx hl hi h1
   ·exact qnx hx hl hi (by omega) (by omega) ihI (by omega)
  ·have e:qqd xs d i=qaA xs i 8:=if_neg h0
   by_cases h1:qqd xs d i=0
   ·exact qnw hx hl hi h1
   by_cases h2:qqd xs d i<=4
   ·exact qnx hx hl hi (by omega) (by omega) ihI (by omega)
   cases n with
   |zero=>omega
   |succ n=>
    have ih : ∀ j,0<=j/\j<=B->GBb B v xs (d-1) j:=fun j hj=>qqe hx hl n (d-1) j (by omega) (by omega) (by omega) hj
    by_cases h4:qaA xs i 8=5
    ·exact qsx hx hl hi h0 (by omega) ih h4
    ·exact qsy hx hl hi h0 (by omega) ih (by omega)
theorem qoO{xs:List Int}(hx : ∀ x∈xs,I64 x)(hl:xs.length<=100)(n:Nat)(d i:Int)(hd:d<=n)(hn:n<=1000)(hi:0<=i/\i<=100):GI xs d i:=qqc hx (qbA hl) n d i hd hn hi
theorem qt4{xs:List Int}(hx : ∀ x∈xs,I64 x)(hl:xs.length<=100)(n:Nat)(d i:Int)(hd:d<=n)(hd' : -100<=d)(hn:n<=1000)(hi:0<=i/\i<=100):GB xs d i:=qqe hx (qbA hl) n d i hd hd' hn hi
end
section
open F
def Ss.fine:Ss->Prop
 |.nil=>True
 |.assign _ s e r=>(s∈qty/\e.fine/\e.ty=1)/\r.fine
 |.store _ s a b r=>(s∈qgd/\a.fine/\a.ty=1/\b.fine/\b.ty=1)/\r.fine
 |.effect _ a b r=>(a.fine/\a.ty=1/\b.fine/\b.ty=1)/\r.fine
 |.stop r=>r.fine
 |.cond false _ c (.block _ x (.block _ y .nil)) r=>(c.fine/\c.ty=2)/\x.fine/\y.fine/\r.fine
 |.cond true _ c (.block _ x .nil) r=>(c.fine/\c.ty=2)/\x.fine/\r.fine
 |_=>False
def Ss.dp:Ss->Nat
 |.nil=>0
 |.assign _ _ _ r=>r.dp
 |.store _ _ _ _ r=>r.dp
 |.effect _ _ _ r=>r.dp
 |.stop r=>r.dp
 |.cond _ _ _ b r=>max (b.dp+1) r.dp
 |.block _ b r=>max b.dp r.dp
def Ss.edp:Ss->Nat
 |.nil=>0
 |.assign _ _ e r=>max e.dp r.edp
 |.store _ _ a b r=>max (max a.dp b.dp) r.edp
 |.effect _ a b r=>max (max a.dp b.dp) r.edp
 |.stop r=>r.edp
 |.cond _ _ c b r=>max (max c.dp b.edp) r.edp
 |.block _ b r=>max b.edp r.edp
def ssz:Nat->Nat
 |0=>20
 |n+1=>20+4*ssz n
theorem qks(n:Nat):20<=ssz n:=by cases n<;>simp[ssz]
def GS(xs:List Int)(d i:Int):Prop := ∃ (st:Ss) (k n:Int) (s:ByteArray) (f:Bool) (ks:Fo) (i':Int),st.fo = .cons k n s f ks .nil /\
 (st.fine/\st.dp<=d.toNat/\st.edp<=3/\st.fo.size<=ssz d.toNat/\Co 8 st.cost xs i i')/\(0<=i'/\i'<=100)/\Z qad (.call 162 [.ptr 0 0,.int d] (gst xs i))=some (.ret (nd k n s f ks) (gst xs i'))
def GK(xs:List Int)(d m i:Int):Prop := ∃ (b:Ss) (i':Int),(b.fine/\b.dp<=d.toNat/\b.edp<=3/\b.fo.size<=m.toNat*ssz d.toNat/\Co 0 b.cost xs i i')/\(0<=i'/\i'<=100) /\
 Z qad (.call 137 [.ptr 0 0,.int d,.int m] (gst xs i))=some (.ret (nd 7 0 ⟨#[]⟩ false b.fo) (gst xs i'))
def qhM(xs:List Int)(d i:Int):Int:=if d<=0 then (qaA xs i 10).tmod 7 else qaA xs i 10
section
variable{xs:List Int}{i d:Int}(hx : ∀ x∈xs,I64 x)(hl:xs.length<=100)(hi:0<=i/\i<=100)
include hx hl hi
theorem qlw(h:qhM xs d i=0\/qhM xs d i=1):GS xs d i:=by
 have n1:=qbn (i:=i) (m:=10) hx (qbA hl) hi (by omega)
 have r1:=qav hi (qbA hl)
 have n2:=qbn (i:=qaE xs i) (m:=4) hx (qbA hl) r1 (by omega)
 have r2:=qav r1 (qbA hl)
 have p:=qbi (i:=qaE xs i) (m:=4) hx (by omega)
 have hat:=qd9 (qaV qpn) 4 true (qaA xs (qaE xs i) 4) p.1 (by omega)
 obtain⟨s,hs,hc⟩:=qi3 (l:=qpn) (p:=qaA xs (qaE xs i) 4) (by simpa [qpn] using p)
 simp only[qpn,qaV,List.map] at hat hc
 obtain⟨e,i',h1,h2,h3⟩:=qoO hx hl 2 2 _ (by omega) (by omega) r2
 rw[show (2:Int).toNat=2 from rfl] at h1
 have o:=qrx 1 s e.kind e.num e.str e.kids (by simp) (by simp)
 have hz:mxs 2=7:=rfl
 have hp:=qks d.toNat
 have hco:Co 8 (Ss.cost (.assign true s e .nil)) xs i i':=by
  obtain⟨q1,q2,q3⟩:=h1.2.2.2.2
  have hcs : ∀ s∈qpn,s.size<=3:=by decide
  have h5:=hcs s hs
  show _/\_/\((s.size+5+e.cost+0:Nat):Int)<=_
  rcases qas xs i with ⟨e1,l1⟩|⟨e1,l1⟩
  ·rcases qas xs (qaE xs i) with ⟨e2,l2⟩|⟨e2,l2⟩<;>omega
  ·have e3:qaA xs (qaE xs i) 4=0:=by rw[e1]; exact l1 4
   have hs1:s.size=1:=by
    rw[e3] at hc
    simp at hc
    rw[<- hc]
    rfl
   rcases qas xs (qaE xs i) with ⟨e2,l2⟩|⟨e2,l2⟩<;>omega
 refine⟨.assign true s e .nil,1,0,s,true,e.fo .nil,i',rfl,⟨⟨⟨Yr _ hs,h1.1,h1.2.1⟩,trivial⟩,WN _,by simp only[Ss.edp]; omega,by simp only[Ss.fo,qam,qcz,qaX]; omega,hco⟩,h2,?_⟩
 refine qab (pf:=F162) rfl rfl ?_
 unfold qhM at h
 by_cases hd:d<=0
 ·rw[if_pos hd] at h
  rcases h with h|h<;>simp[F162,n1,n2,hd,h,hat,hc,h3,o]
 ·rw[if_neg hd] at h
  rcases h with h|h<;>simp[F162,n1,n2,hd,h,hat,hc,h3,o]
theorem qnp(h:qhM xs d i=2\/qhM xs d i=3\/qhM xs d i=4):GS xs d i:=by
 have n1:=qbn (i:=i) (m:=10) hx (qbA hl) hi (by omega)
 have r1:=qav hi (qbA hl)
 have n2:=qbn (i:=qaE xs i) (m:=6) hx (qbA hl) r1 (by omega)
 have r2:=qav r1 (qbA hl)
 have p:=qbi (i:=qaE xs i) (m:=6) hx (by omega)
 have hat:=qd9 (qaV qgd) 6 true (qaA xs (qaE xs i) 6) p.1 (by omega)
 obtain⟨s,hs,hc⟩:=qi3 (l:=qgd) (p:=qaA xs (qaE xs i) 6) (by simpa [qgd] using p)
 simp only[qgd,qaV,List.map] at hat hc
 obtain⟨a,i1,h1,h2,h3⟩:=qoO hx hl 1 1 _ (by omega) (by omega) r2
 obtain⟨b,i2,h4,h5,h6⟩:=qoO hx hl 2 2 _ (by omega) (by omega) h2
 rw[show (2:Int).toNat=2 from rfl] at h4
 rw[show (1:Int).toNat=1 from rfl] at h1
 have o:=qpm 2 s a.kind a.num b.kind b.num a.str b.str a.kids b.kids (by simp) (by simp) (by simp) (by simp)
 have hz:mxs 2=7:=rfl
 have hz1:mxs 1=3:=rfl
 have hp:=qks d.toNat
 have hco:Co 8 (Ss.cost (.store true s a b .nil)) xs i i2:=by
  have hcs : ∀ s∈qgd,s.size<=2:=by decide
  have h55:=hcs s hs
  obtain⟨q1,q2,q3⟩:=h1.2.2.2.2
  obtain⟨u1,u2,u3⟩:=h4.2.2.2.2
  show _/\_/\((s.size+9+(a.cost+b.cost)+0:Nat):Int)<=_
  rcases qas xs i with ⟨e1,l1⟩|⟨e1,l1⟩
  ·rcases qas xs (qaE xs i) with ⟨e2,l2⟩|⟨e2,l2⟩<;>omega
  ·exact absurd (l1 10) (fun h0=>by
    unfold qhM at h
    rw[h0] at h
    split at h<;>simp at h)
 refine⟨.store true s a b .nil,2,0,s,true,a.fo (b.fo .nil),i2,rfl,⟨⟨⟨hs,h1.1,h1.2.1,h4.1,h4.2.1⟩,trivial⟩,WN _,by simp only[Ss.edp]; omega,by simp only[Ss.fo,qam,qcz,qaX]; omega,hco⟩,h5,?_⟩
 refine qab (pf:=F162) rfl rfl ?_
 unfold qhM at h
 by_cases hd:d<=0
 ·rw[if_pos hd] at h
  rcases h with h|h|h<;>simp[F162,n1,n2,hd,h,hat,hc,h3,h6,o]
 ·rw[if_neg hd] at h
  rcases h with h|h|h<;>simp[F162,n1,n2,hd,h,hat,hc,h3,h6,o]
theorem qlx(h:qhM xs d i=5):GS xs d i:=by
 have n1:=qbn (i:=i) (m:=10) hx (qbA hl) hi (by omega)
 have r1:=qav hi (qbA hl)
 obtain⟨a,i1,h1,h2,h3⟩:=qoO hx hl 1 0 _ (by omega) (by omega) r1
 obtain⟨b,i2,h4,h5,h6⟩:=qoO hx hl 1 1 _ (by omega) (by omega) h2
 rw[show (0:Int).toNat=0 from rfl] at h1
 rw[show (1:Int).toNat=1 from rfl] at h4
 have o:=qpm 5 ⟨#[]⟩ a.kind a.num b.kind b.num a.str b.str a.kids b.kids (by simp) (by simp) (by simp) (by simp)
 have hz:mxs 0=1:=rfl
 have hz1:mxs 1=3:=rfl
 have hp:=qks d.toNat
 have hco:Co 8 (Ss.cost (.effect true a b .nil)) xs i i2:=by
  obtain⟨q1,q2,q3⟩:=h1.2.2.2.2
  obtain⟨u1,u2,u3⟩:=h4.2.2.2.2
  show _/\_/\((11+(a.cost+b.cost)+0:Nat):Int)<=_
  rcases qas xs i with ⟨e1,l1⟩|⟨e1,l1⟩
  ·omega
  ·exact absurd (l1 10) (fun h0=>by
    unfold qhM at h
    rw[h0] at h
    split at h<;>simp at h)
 refine⟨.effect true a b .nil,5,0,_,true,a.fo (b.fo .nil),i2,rfl,⟨⟨⟨h1.1,h1.2.1,h4.1,h4.2.1⟩,trivial⟩,WN _,by simp only[Ss.edp]; omega,by simp only[Ss.fo,qam,qcz,qaX]; omega,hco⟩,h5,?_⟩
 refine qab (pf:=F162) rfl rfl ?_
 unfold qhM at h
 by_cases hd:d<=0
 ·rw[if_pos hd] at h
  simp[F162,n1,hd,h,h3,h6,o]
 ·rw[if_neg hd] at h
  simp[F162,n1,hd,h,h3,h6,o]
theorem qt1(h:qhM xs d i=6):GS xs d i:=by
 have n1:=qbn (i:=i) (m:=10) hx (qbA hl) hi (by omega)
 have r1:=qav hi (qbA hl)
 have n2:=qbn (i:=qaE xs i) (m:=3) hx (qbA hl) r1 (by omega)
 have r2:=qav r1 (qbA hl)
 have p:=qbi (i:=qaE xs i) (m:=3) hx (by omega)
 have hp:=qks d.toNat
 by_cases h0:0<qaA xs (qaE xs i) 3
 ·obtain⟨e,i',h1,h2,h3⟩:=qoO hx hl 1 1 _ (by omega) (by omega) r2
  rw[show (1:Int).toNat=1 from rfl] at h1
  have o:=qrx 1 ⟨#[110]⟩ e.kind e.num e.str e.kids (by simp) (by simp)
  have hz:mxs 1=3:=rfl
  have hco:Co 8 (Ss.cost (.assign true ⟨#[110]⟩ e .nil)) xs i i':=by
   obtain⟨q1,q2,q3⟩:=h1.2.2.2.2
   show _/\_/\((1+5+e.cost+0:Nat):Int)<=_
   rcases qas xs i with ⟨e1,l1⟩|⟨e1,l1⟩
   ·rcases qas xs (qaE xs i) with ⟨e2,l2⟩|⟨e2,l2⟩<;>omega
   ·exact absurd (l1 10) (fun h0=>by
     unfold qhM at h
     rw[h0] at h
     split at h<;>simp at h)
  refine⟨.assign true ⟨#[110]⟩ e .nil,1,0,_,true,e.fo .nil,i',rfl,⟨⟨⟨by simp[qty,qpn],h1.1,h1.2.1⟩,trivial⟩,WN _,by simp only[Ss.edp]; omega,by simp only[Ss.fo,qam,qcz,qaX]; omega,hco⟩,h2,?_⟩
  refine qab (pf:=F162) rfl rfl ?_
  unfold qhM at h
  by_cases hd:d<=0
  ·rw[if_pos hd] at h
   simp[F162,n1,n2,hd,h,h0,h3,o]
  ·rw[if_neg hd] at h
   simp[F162,n1,n2,hd,h,h0,h3,o]
 ·have hco:Co 8 (Ss.cost (.stop .nil)) xs i (qaE xs (qaE xs i)):=by
   show _/\_/\((7+0:Nat):Int)<=_
   rcases qas xs i with ⟨e1,l1⟩|⟨e1,l1⟩<;>rcases qas xs (qaE xs i) with ⟨e2,l2⟩|⟨e2,l2⟩<;>omega
  refine⟨.stop .nil,6,0,_,false,.nil,_,rfl,⟨trivial,WN _,WN _,by simp only[Ss.fo,qam,qaX]; omega,hco⟩,r2,?_⟩
  refine qab (pf:=F162) rfl rfl ?_
  unfold qhM at h
  by_cases hd:d<=0
  ·rw[if_pos hd] at h
   simp[F162,n1,n2,hd,h,h0]
  ·rw[if_neg hd] at h
   simp[F162,n1,n2,hd,h,h0]
theorem qsb(hd : ¬ d<=0)(hd2:d<=1000)(ih : ∀ j,0<=j/\j<=100->GK xs (d-1) 2 j)(h:qaA xs i 10=7):GS xs d i:=by
 have n1:=qbn (i:=i) (m:=10) hx (qbA hl) hi (by omega)
 have r1:=qav hi (qbA hl)
 obtain⟨c,i1,h1,h2,h3⟩:=qt4 hx hl 1 1 _ (by omega) (by omega) (by omega) r1
 obtain⟨b,i2,h4,h5,h6⟩:=ih _ h2
 rw[show (1:Int).toNat=1 from rfl] at h1
 have ed:d.toNat=(d-1).toNat+1:=by omega
 rw[show (2:Int).toNat=2 from rfl] at h4
 have hz:mxs (1+1)=7:=rfl
 have o:=qpm 4 ⟨#[]⟩ c.kind c.num 7 0 c.str ⟨#[]⟩ c.kids (kd false b.fo.len b.fo.cells) (by simp) (by simp) (by simp) (by simp)
 have w1:=qai (d-1) (by omega)
 have hco:Co 8 (Ss.cost (.cond true true c (.block false b .nil) .nil)) xs i i2:=by
  obtain⟨q1,q2,q3⟩:=h1.2.2.2.2
  obtain⟨u1,u2,u3⟩:=h4.2.2.2.2
  show _/\_/\((6+c.cost+(4+b.cost+(0+0))+0:Nat):Int)<=_
  rcases qas xs i with ⟨e1,l1⟩|⟨e1,l1⟩
  ·omega
  ·exact absurd (l1 10) (by omega)
 refine⟨.cond true true c (.block false b .nil) .nil,4,0,_,true,c.fo (.cons 7 0 ⟨#[]⟩ false b.fo .nil),i2,rfl,⟨⟨⟨h1.1,h1.2.1⟩,h4.1,trivial⟩,by simp only[Ss.dp]; omega,by simp only[Ss.edp]; omega,by rw[ed]; simp only[Ss.fo,qam,qcz,qaX,ssz]; omega,hco⟩,h5,?_⟩
 refine qab (pf:=F162) rfl rfl ?_
 simp[F162,n1,hd,h,h3,h6,o,w1]
theorem qAS(hd : ¬ d<=0)(hd2:d<=1000)(ih : ∀ j,0<=j/\j<=100->GK xs (d-1) 2 j)(h:8<=qaA xs i 10):GS xs d i:=by
 have n1:=qbn (i:=i) (m:=10) hx (qbA hl) hi (by omega)
 have r1:=qav hi (qbA hl)
 obtain⟨c,i1,h1,h2,h3⟩:=qt4 hx hl 2 2 _ (by omega) (by omega) (by omega) r1
 obtain⟨a,i2,h4,h5,h6⟩:=ih _ h2
 have n2:=qbn (i:=i2) (m:=2) hx (qbA hl) h5 (by omega)
 have r2:=qav h5 (qbA hl)
 obtain⟨b,i3,h7,h8,h9⟩:=ih _ r2
 rw[show (2:Int).toNat=2 from rfl] at h1 h4 h7
 have ed:d.toNat=(d-1).toNat+1:=by omega
 have hz:mxs (2+1)=15:=rfl
 have w1:=qai (d-1) (by omega)
 have k0 : ¬ qaA xs i 10=0:=by omega
 have k1 : ¬ qaA xs i 10=1:=by omega
 have k2 : ¬ qaA xs i 10=2:=by omega
 have k3 : ¬ qaA xs i 10=3:=by omega
 have k4 : ¬ qaA xs i 10=4:=by omega
 have k5 : ¬ qaA xs i 10=5:=by omega
 have k6 : ¬ qaA xs i 10=6:=by omega
 have k7 : ¬ qaA xs i 10=7:=by omega
 by_cases h0:qaA xs i2 2=1
 ·have hco:Co 8 (Ss.cost (.cond false true c (.block false a (.block false b .nil)) .nil)) xs i i3:=by
   have hl:(if qf2 (.block false b .nil)=true then 5 else 0)<=5:=by split<;>omega
   obtain⟨q1,q2,q3⟩:=h1.2.2.2.2
   obtain⟨u1,u2,u3⟩:=h4.2.2.2.2
   obtain⟨v1,v2,v3⟩:=h7.2.2.2.2
   show _/\_/\((3+c.cost+(4+a.cost+((if qf2 (.block false b .nil)=true then 5 else 0)+(4+b.cost+(0+0))))+0:Nat):Int)<=_
   rcases qas xs i with ⟨e1,l1⟩|⟨e1,l1⟩
   ·rcases qas xs i2 with ⟨e2,l2⟩|⟨e2,l2⟩<;>omega
   ·exact absurd (l1 10) (by omega)
  refine⟨.cond false true c (.block false a (.block false b .nil)) .nil,3,0,_,true,c.fo (.cons 7 0 ⟨#[]⟩ false a.fo (.cons 7 0 ⟨#[]⟩ false b.fo .nil)),i3,rfl,⟨⟨⟨h1.1,h1.2.1⟩,h4.1,h7.1,trivial⟩,by simp only[Ss.dp]; omega,by simp only[Ss.edp]; omega,by rw[ed]; simp only[Ss.fo,qam,qcz,qaX,ssz]; omega,hco⟩,h8,?_⟩
  refine qab (pf:=F162) rfl rfl ?_
  simp[F162,n1,n2,hd,h0,k0,k1,k2,k3,k4,k5,k6,k7,h3,h6,h9,w1,Wa]
 ·have hco:Co 8 (Ss.cost (.cond false true c (.block false a (.block false .nil .nil)) .nil)) xs i (qaE xs i2):=by
   obtain⟨q1,q2,q3⟩:=h1.2.2.2.2
   obtain⟨u1,u2,u3⟩:=h4.2.2.2.2
   show _/\_/\((3+c.cost+(4+a.cost+(0+(4+0+(0+0))))+0:Nat):Int)<=_
   rcases qas xs i with ⟨e1,l1⟩|⟨e1,l1⟩
   ·rcases qas xs i2 with ⟨e2,l2⟩|⟨e2,l2⟩<;>omega
   ·exact absurd (l1 10) (by omega)
  refine⟨.cond false true c (.block false a (.block false .nil .nil)) .nil,3,0,_,true,c.fo (.cons 7 0 ⟨#[]⟩ false a.fo (.cons 7 0 ⟨#[]⟩ false .nil .nil)),_,rfl,⟨⟨⟨h1.1,h1.2.1⟩,h4.1,trivial,trivial⟩,by simp only[Ss.dp]; omega,by simp only[Ss.edp]; omega,by rw[ed]; simp only[Ss.fo,qam,qcz,qaX,ssz]; omega,hco⟩,r2,?_⟩
  refine qab (pf:=F162) rfl rfl ?_
  simp[F162,n1,n2,hd,h0,k0,k1,k2,k3,k4,k5,k6,k7,h3,h6,w1,Wa]
end
end
section
open Gr
def vOp(op n lo hi:Int):Prop:=(1<=op/\op<=21) /\
 if op=1 then -2147483647<=n/\n<=2147483647
 else if op=2\/op=3 then 0<=n/\n<=15
 else if op=4 then 0<=n/\n<=7
 else if op=5 then 0<=n/\n<=5
 else if op=18\/op=19 then lo<=n/\n<=hi
 else n=0
theorem qcG{op n lo hi lo' hi':Int}(h:vOp op n lo hi)(h1:lo'<=lo)(h2:hi<=hi'):vOp op n lo' hi':=by
 obtain⟨h0,h⟩:=h
 refine⟨h0,?_⟩
 split at h
 ·rw[if_pos (by assumption)]; exact h
 rw[if_neg (by assumption)]
 split at h
 ·rw[if_pos (by assumption)]; exact h
 rw[if_neg (by assumption)]
 split at h
 ·rw[if_pos (by assumption)]; exact h
 rw[if_neg (by assumption)]
 split at h
 ·rw[if_pos (by assumption)]; exact h
 rw[if_neg (by assumption)]
 split at h
 ·rw[if_pos (by assumption)]; omega
 rw[if_neg (by assumption)]; exact h
def qo2(op n q:Int):List Int:=if op=21 then [] else if op=18 then [n] else if op=19 then [q+1,n] else [q+1]
theorem qqZ(c:Cd)(i:Nat):qgM c i=qo2 (opA c i) (nA c i) i:=rfl
structure Sg(C:Int->Cd)(n:Nat)(k:Int)(st:Bool)(D:Int->Nat->Int):Prop where
 ln:Ln C n
 beg : ∀ d,D d 0=d
 fin : ∀ d,D d n=d+k
 ok : ∀ p i,i<n->vOp (opA (C p) i) (nA (C p) i) p (p+n)
 pop : ∀ p d i,i<n->qfL (opA (C p) i)<=D d i-d
 flow : ∀ p d i,i<n -> ∀ j∈qo2 (opA (C p) i) (nA (C p) i) (p+i),p<=j/\j<=p+n/\D d (j-p).toNat=D d i+(qd7 (opA (C p) i)-qfL (opA (C p) i))
 stp : ∀ p d i,i<n->opA (C p) i=21->st=true/\D d i=d
def SgE(C:Int->Cd)(n:Nat)(k:Int)(st:Bool):Prop := ∃ D,Sg C n k st D
theorem qd0{a b:Cd}{i:Nat}(h:i<a.length):opA (a++b) i=opA a i/\nA (a++b) i=nA a i:=by
 simp[opA,nA,WB,List.getElem?_append,h]
theorem qcg{a b:Cd}{i:Nat}(h : ¬ i<a.length):opA (a++b) i=opA b (i-a.length)/\nA (a++b) i=nA b (i-a.length):=by
 simp[opA,nA,WB,List.getElem?_append,h]
theorem qjR{op n k:Int}(ho:op≠18/\op≠19/\op≠21)(hv:vOp op n 0 0)(hp:qfL op=0)(hk:k=qd7 op):SgE (fun _=>[(op,n)]) 1 k false:=by
 have hv' : ∀ p,vOp op n p (p+(1:Nat)):=fun p=>by
  obtain⟨h0,h⟩:=hv
  refine⟨h0,?_⟩
  have hj : ¬ (op=18\/op=19):=by omega
  rw[if_neg hj] at h ⊢
  exact h
 refine⟨fun d i=>if i=0 then d else d+k,⟨fun _=>rfl,fun d=>rfl,fun d=>rfl,?_,?_,?_,?_⟩⟩
 ·intro p i hi
  obtain rfl:i=0:=by omega
  exact hv' p
 ·intro p d i hi
  obtain rfl:i=0:=by omega
  show qfL op<=_
  simp[hp]
 ·intro p d i hi j hj
  obtain rfl:i=0:=by omega
  have e:qo2 (opA [(op,n)] 0) (nA [(op,n)] 0) (p+(0:Nat))=[p+1]:=by
   show qo2 op n _=_
   simp[qo2,ho]
  rw[e] at hj
  simp only[Wg] at hj
  subst hj
  refine⟨by omega,by omega,?_⟩
  have:(p+1-p).toNat=1:=by omega
  rw[this]
  show d+k=d+(qd7 op-qfL op)
  omega
 ·intro p d i hi h
  obtain rfl:i=0:=by omega
  exact absurd h ho.2.2
theorem qwz:SgE (fun _=>[(21,0)]) 1 0 true:=by
 refine⟨fun d i=>d,⟨fun _=>rfl,fun d=>rfl,fun d=>by omega,?_,?_,?_,?_⟩⟩
 ·intro p i hi
  obtain rfl:i=0:=by omega
  exact⟨⟨by show (1:Int)<=21; omega,by show (21:Int)<=21; omega⟩,rfl⟩
 ·intro p d i hi
  obtain rfl:i=0:=by omega
  show (0:Int)<=_
  omega
 ·intro p d i hi j hj
  obtain rfl:i=0:=by omega
  have e:qo2 (opA [((21:Int),(0:Int))] 0) (nA [((21:Int),(0:Int))] 0) (p+(0:Nat))=[]:=rfl
  rw[e] at hj; cases hj
 ·intro p d i hi h; exact⟨rfl,rfl⟩
theorem quh:SgE (fun _=>[]) 0 0 false:=
 ⟨fun d i=>d,⟨fun _=>rfl,fun d=>rfl,fun d=>by omega,fun p i h=>by omega,fun p d i h=>by omega,fun p d i h=>by omega,fun p d i h=>by omega⟩⟩
theorem qkP{A B:Int->Cd}{n m:Nat}{k l:Int}{s t:Bool}(ha:SgE A n k s)(hb:SgE B m l t)(hk:0<=k)(ht:t=true->k=0):SgE (sq A B) (n+m) (k+l) (s||t):=by
 obtain⟨DA,a⟩:=ha
 obtain⟨DB,b⟩:=hb
 have dat : ∀ d i,n<=i->(if i<n then DA d i else DB (d+k) (i-n))=DB (d+k) (i-n):=fun d i h=>if_neg (by omega)
 have dle : ∀ d i,i<=n->(if i<n then DA d i else DB (d+k) (i-n))=DA d i:=fun d i h=>by
  by_cases h':i<n
  ·rw[if_pos h']
  ·obtain rfl:i=n:=by omega
   rw[if_neg h',Nat.sub_self,b.beg,a.fin]
 have opl : ∀ p i,i<n->opA (sq A B p) i=opA (A p) i/\nA (sq A B p) i=nA (A p) i:=fun p i h=>qd0 (by rw[a.ln p]; exact h)
 have opr : ∀ p i,n<=i->opA (sq A B p) i=opA (B (p+n)) (i-n)/\nA (sq A B p) i=nA (B (p+n)) (i-n):=fun p i h=>by
  have:=qcg (a:=A p) (b:=B (p+(A p).length)) (i:=i) (by rw[a.ln p]; omega)
  rw[a.ln p] at this
  exact⟨by rw[sq,a.ln p]; exact this.1,by rw[sq,a.ln p]; exact this.2⟩
 refine⟨fun d i=>if i<n then DA d i else DB (d+k) (i-n),⟨qbO a.ln b.ln,fun d=>?_,fun d=>?_,?_,?_,?_,?_⟩⟩
 ·rw[dle d 0 (by omega),a.beg]
 ·rw[dat d _ (by omega),show n+m-n=m by omega,b.fin]; omega
 ·intro p i hi
  by_cases h:i<n
  ·rw[(opl p i h).1,(opl p i h).2]
   exact qcG (a.ok p i h) (by omega) (by omega)
  ·rw[(opr p i (by omega)).1,(opr p i (by omega)).2]
   exact qcG (b.ok (p+n) (i-n) (by omega)) (by omega) (by omega)
 ·intro p d i hi
  by_cases h:i<n
  ·rw[(opl p i h).1]
   show _<=(if i<n then DA d i else DB (d+k) (i-n))-d
   rw[dle d i (by omega)]; exact a.pop p d i h
  ·rw[(opr p i (by omega)).1]
   show _<=(if i<n then DA d i else DB (d+k) (i-n))-d
   rw[dat d i (by omega)]
   have:=b.pop (p+n) (d+k) (i-n) (by omega)
   omega
 ·intro p d i hi j hj
  show _/\_/\(if (j-p).toNat<n then DA d (j-p).toNat else DB (d+k) ((j-p).toNat-n))=(if i<n then DA d i else DB (d+k) (i-n))+_
  by_cases h:i<n
  ·rw[(opl p i h).1,(opl p i h).2] at hj
   rw[(opl p i h).1]
   obtain⟨q1,q2,q3⟩:=a.flow p d i h j hj
   rw[dle d i (by omega),dle d _ (by omega)]
   exact⟨q1,by omega,q3⟩
  ·rw[(opr p i (by omega)).1,(opr p i (by omega)).2,show p+(i:Int)=(p+n)+((i-n:Nat):Int) by omega] at hj
   rw[(opr p i (by omega)).1]
   obtain⟨q1,q2,q3⟩:=b.flow (p+n) (d+k) (i-n) (by omega) j hj
   rw[dat d i (by omega),dat d _ (by omega),show (j-p).toNat-n=(j-(p+n)).toNat by omega]
   exact⟨by omega,by omega,q3⟩
 ·intro p d i hi h
  show _/\(if i<n then DA d i else DB (d+k) (i-n))=d
  by_cases h':i<n
  ·rw[(opl p i h').1] at h
   obtain⟨q1,q2⟩:=a.stp p d i h' h
   rw[dle d i (by omega)]; exact⟨by rw[q1]; rfl,q2⟩
  ·rw[(opr p i (by omega)).1] at h
   obtain⟨q1,q2⟩:=b.stp (p+n) (d+k) (i-n) (by omega) h
   rw[dat d i (by omega),q2,ht q1]
   exact⟨by rw[q1]; simp,by omega⟩
theorem qmU{A:Int->Cd}{n:Nat}{k l op x:Int}{s:Bool}(ha:SgE A n k s)(hs:s=false)(hk:0<=k)(ho:op≠18/\op≠19/\op≠21)(hv:vOp op x 0 0)(hp:qfL op<=k)(hl:l=k+qd7 op-qfL op):SgE (snC A (op,x)) (n+1) l false:=by
 obtain⟨D,a⟩:=ha
 have hv' : ∀ p q,vOp op x p q:=fun p q=>by
  obtain⟨h0,h⟩:=hv
  refine⟨h0,?_⟩
  have hj : ¬ (op=18\/op=19):=by omega
  rw[if_neg hj] at h ⊢
  exact h
 have opl : ∀ p i,i<n->opA (snC A (op,x) p) i=opA (A p) i/\nA (snC A (op,x) p) i=nA (A p) i:=fun p i h=>qd0 (by rw[a.ln p]; exact h)
 have opr : ∀ p,opA (snC A (op,x) p) n=op/\nA (snC A (op,x) p) n=x:=fun p=>by
  have:=qcg (a:=A p) (b:=[(op,x)]) (i:=n) (by rw[a.ln p]; omega)
  rw[a.ln p,Nat.sub_self] at this
  exact this
 have dle : ∀ d i,i<=n->(if i<=n then D d i else d+l)=D d i:=fun d i h=>if_pos h
 refine⟨fun d i=>if i<=n then D d i else d+l,⟨qco a.ln,fun d=>?_,fun d=>if_neg (by omega),?_,?_,?_,?_⟩⟩
 ·rw[dle d 0 (by omega),a.beg]
 ·intro p i hi
  by_cases h:i<n
  ·rw[(opl p i h).1,(opl p i h).2]
   exact qcG (a.ok p i h) (by omega) (by omega)
  ·obtain rfl:i=n:=by omega
   rw[(opr p).1,(opr p).2]; exact hv' _ _
 ·intro p d i hi
  show _<=(if i<=n then D d i else d+l)-d
  rw[dle d i (by omega)]
  by_cases h:i<n
  ·rw[(opl p i h).1]; exact a.pop p d i h
  ·obtain rfl:i=n:=by omega
   rw[(opr p).1,a.fin]; omega
 ·intro p d i hi j hj
  show _/\_/\(if (j-p).toNat<=n then D d (j-p).toNat else d+l)=(if i<=n then D d i else d+l)+_
  rw[dle d i (by omega)]
  by_cases h:i<n
  ·rw[(opl p i h).1,(opl p i h).2] at hj
   rw[(opl p i h).1]
   obtain⟨q1,q2,q3⟩:=a.flow p d i h j hj
   rw[dle d _ (by omega)]
   exact⟨q1,by omega,q3⟩
  ·obtain rfl:i=n:=by omega
   rw[(opr p).1,(opr p).2] at hj
   rw[(opr p).1]
   have e:qo2 op x (p+i)=[p+i+1]:=by simp[qo2,ho]
   rw[e] at hj
   simp only[Wg] at hj
   subst hj
   rw[if_neg (by omega),a.fin]
   exact⟨by omega,by omega,by omega⟩
 ·intro p d i hi h
  by_cases h':i<n
  ·rw[(opl p i h').1] at h
   have:=(a.stp p d i h' h).1
   rw[hs] at this; cases this
  ·obtain rfl:i=n:=by omega
   rw[(opr p).1] at h
   exact absurd h ho.2.2
end
section
open Gr
theorem pop19:qfL 19=1/\qd7 19=0/\qfL 18=0/\qd7 18=0:=by decide
theorem qvD{C A B:Int->Cd}{n m q:Nat}{k:Int}{s t:Bool}(hC:SgE C n 1 false)(hA:SgE A m k s)(hB:SgE B q k t)(hk:0<=k):SgE (brC C A B) (n+m+q+2) k (s||t):=by
 obtain⟨DC,c⟩:=hC
 obtain⟨DA,a⟩:=hA
 obtain⟨DB,b⟩:=hB
 have eq : ∀ p,brC C A B p=C p++((19,p+n+1+m+1)::(A (p+n+1)++((18,p+n+1+m+1+q)::B (p+n+1+m+1)))):=fun p=>by
  simp only[brC,c.ln p,a.ln _,b.ln _]
 have o1 : ∀ p i,i<n->opA (brC C A B p) i=opA (C p) i/\nA (brC C A B p) i=nA (C p) i:=fun p i h=>by
  rw[eq]; exact qd0 (by rw[c.ln p]; exact h)
 have o2 : ∀ p,opA (brC C A B p) n=19/\nA (brC C A B p) n=p+n+1+m+1:=fun p=>by
  rw[eq]
  have:=qcg (a:=C p) (b:=(19,p+n+1+m+1)::(A (p+n+1)++((18,p+n+1+m+1+q)::B (p+n+1+m+1)))) (i:=n) (by rw[c.ln p]; omega)
  rw[c.ln p,Nat.sub_self] at this
  exact this
 have o3 : ∀ p i,i<m->opA (brC C A B p) (n+1+i)=opA (A (p+n+1)) i/\nA (brC C A B p) (n+1+i)=nA (A (p+n+1)) i:=fun p i h=>by
  rw[eq]
  have:=qcg (a:=C p++[(19,p+n+1+m+1)]) (b:=A (p+n+1)++((18,p+n+1+m+1+q)::B (p+n+1+m+1))) (i:=n+1+i) (by simp[c.ln p]<;>omega)
  simp only[Wj,Wi,Wc,Wd,c.ln p,Wf,Wm] at this
  rw[show n+1+i-(n+(0+1))=i by omega] at this
  have l:=qd0 (a:=A (p+n+1)) (b:=(18,p+n+1+m+1+q)::B (p+n+1+m+1)) (i:=i) (by rw[a.ln _]; exact h)
  exact⟨this.1.trans l.1,this.2.trans l.2⟩
 have o4 : ∀ p,opA (brC C A B p) (n+1+m)=18/\nA (brC C A B p) (n+1+m)=p+n+1+m+1+q:=fun p=>by
  rw[eq]
  have:=qcg (a:=C p++((19,p+n+1+m+1)::A (p+n+1))) (b:=(18,p+n+1+m+1+q)::B (p+n+1+m+1)) (i:=n+1+m) (by simp[c.ln p,a.ln _]<;>omega)
  simp only[Wj,Wi,Wd,c.ln p,a.ln _,Wf] at this
  rw[show n+1+m-(n+(m+1))=0 by omega] at this
  exact this
 have o5 : ∀ p i,i<q->opA (brC C A B p) (n+1+m+1+i)=opA (B (p+n+1+m+1)) i/\nA (brC C A B p) (n+1+m+1+i)=nA (B (p+n+1+m+1)) i:=fun p i h=>by
  rw[eq]
  have:=qcg (a:=C p++((19,p+n+1+m+1)::(A (p+n+1)++[(18,p+n+1+m+1+q)]))) (b:=B (p+n+1+m+1)) (i:=n+1+m+1+i) (by simp[c.ln p,a.ln _]<;>omega)
  simp only[Wj,Wi,Wc,Wd,c.ln p,a.ln _,Wf,Wm] at this
  rw[show n+1+m+1+i-(n+(m+(0+1)+1))=i by omega] at this
  exact this
 let D:Int->Nat->Int:=fun d i=>if i<=n then DC d i else if i<=n+1+m then DA d (i-n-1) else DB d (i-n-m-2)
 have d1 : ∀ d i,i<=n->D d i=DC d i:=fun d i h=>if_pos h
 have d3 : ∀ d i,i<=m->D d (n+1+i)=DA d i:=fun d i h=>by
  show (if _ then _ else if _ then _ else _)=_
  rw[if_neg (by omega),if_pos (by omega)]; congr 1; omega
 have d5 : ∀ d i,D d (n+1+m+1+i)=DB d i:=fun d i=>by
  show (if _ then _ else if _ then _ else _)=_
  rw[if_neg (by omega),if_neg (by omega)]; congr 1; omega
 have pos : ∀ i,i<n+m+q+2->i<n\/i=n\/(∃ j,j<m/\i=n+1+j)\/i=n+1+m \/ ∃ j,j<q/\i=n+1+m+1+j:=fun i hi=>by
  by_cases h1:i<n
  ·exact .inl h1
  by_cases h2:i=n
  ·exact .inr (.inl h2)
  by_cases h3:i<n+1+m
  ·exact .inr (.inr (.inl ⟨i-n-1,by omega,by omega⟩))
  by_cases h4:i=n+1+m
  ·exact .inr (.inr (.inr (.inl h4)))
  ·exact .inr (.inr (.inr (.inr ⟨i-n-m-2,by omega,by omega⟩)))
 refine⟨D,⟨qmQ c.ln a.ln b.ln,fun d=>?_,fun d=>?_,?_,?_,?_,?_⟩⟩
 ·rw[d1 d 0 (by omega),c.beg]
 ·rw[show n+m+q+2=n+1+m+1+q by omega,d5,b.fin]
 ·intro p i hi
  rcases pos i hi with h|rfl|⟨j,hj,rfl⟩|rfl|⟨j,hj,rfl⟩
  ·rw[(o1 p i h).1,(o1 p i h).2]; exact qcG (c.ok p i h) (by omega) (by omega)
  ·rw[(o2 p).1,(o2 p).2]; exact⟨by omega,by rw[if_neg (by omega),if_neg (by omega),if_neg (by omega),if_neg (by omega),if_pos (by omega)]; omega⟩
  ·rw[(o3 p j hj).1,(o3 p j hj).2]; exact qcG (a.ok _ j hj) (by omega) (by omega)
  ·rw[(o4 p).1,(o4 p).2]; exact⟨by omega,by rw[if_neg (by omega),if_neg (by omega),if_neg (by omega),if_neg (by omega),if_pos (by omega)]; omega⟩
  ·rw[(o5 p j hj).1,(o5 p j hj).2]; exact qcG (b.ok _ j hj) (by omega) (by omega)
 ·intro p d i hi
  rcases pos i hi with h|rfl|⟨j,hj,rfl⟩|rfl|⟨j,hj,rfl⟩
  ·rw[(o1 p i h).1,d1 d i (by omega)]; exact c.pop p d i h
  ·rw[(o2 p).1,d1 d i (by omega),c.fin,pop19.1]; omega
  ·rw[(o3 p j hj).1,d3 d j (by omega)]; exact a.pop _ d j hj
  ·rw[(o4 p).1,d3 d m (by omega),a.fin,pop19.2.2.1]; omega
  ·rw[(o5 p j hj).1,d5]; exact b.pop _ d j hj
 ·intro p d i hi j hj
  rcases pos i hi with h|rfl|⟨r,hr,rfl⟩|rfl|⟨r,hr,rfl⟩
  ·rw[(o1 p i h).1,(o1 p i h).2] at hj
   rw[(o1 p i h).1,d1 d i (by omega)]
   obtain⟨q1,q2,q3⟩:=c.flow p d i h j hj
   rw[d1 d _ (by omega)]
   exact⟨q1,by omega,q3⟩
  ·rw[(o2 p).1,(o2 p).2] at hj
   have e:qo2 19 (p+i+1+m+1) (p+i)=[p+i+1,p+i+1+m+1]:=rfl
   rw[e] at hj
   rw[(o2 p).1,d1 d i (by omega),c.fin,pop19.1,pop19.2.1]
   simp only[Wu,Ww,or_false] at hj
   rcases hj with rfl|rfl
   ·rw[show (p+i+1-p).toNat=i+1+0 by omega,d3 d 0 (by omega),a.beg]
    exact⟨by omega,by omega,by omega⟩
   ·rw[show (p+i+1+m+1-p).toNat=i+1+m+1+0 by omega,d5,b.beg]
    exact⟨by omega,by omega,by omega⟩
  ·rw[(o3 p r hr).1,(o3 p r hr).2,show p+((n+1+r:Nat):Int)=(p+n+1)+r by omega] at hj
   rw[(o3 p r hr).1,d3 d r (by omega)]
   obtain⟨q1,q2,q3⟩:=a.flow (p+n+1) d r hr j hj
   rw[show (j-p).toNat=n+1+(j-(p+n+1)).toNat by omega,d3 d _ (by omega)]
   exact⟨by omega,by omega,q3⟩
  ·rw[(o4 p).1,(o4 p).2] at hj
   have e : ∀ x y,qo2 18 x y=[x]:=fun _ _=>rfl
   rw[e] at hj
   rw[(o4 p).1,d3 d m (by omega),a.fin,pop19.2.2.1,pop19.2.2.2]
   simp only[Wg] at hj
   subst hj
   rw[show (p+n+1+m+1+q-p).toNat=n+1+m+1+q by omega,d5,b.fin]
   exact⟨by omega,by omega,by omega⟩
  ·rw[(o5 p r hr).1,(o5 p r hr).2,show p+((n+1+m+1+r:Nat):Int)=(p+n+1+m+1)+r by omega] at hj
   rw[(o5 p r hr).1,d5]
   obtain⟨q1,q2,q3⟩:=b.flow (p+n+1+m+1) d r hr j hj
   rw[show (j-p).toNat=n+1+m+1+(j-(p+n+1+m+1)).toNat by omega,d5]
   exact⟨by omega,by omega,q3⟩
 ·intro p d i hi h
  rcases pos i hi with h'|rfl|⟨j,hj,rfl⟩|rfl|⟨j,hj,rfl⟩
  ·rw[(o1 p i h').1] at h
   have:=(c.stp p d i h' h).1
   cases this
  ·rw[(o2 p).1] at h; omega
  ·rw[(o3 p j hj).1] at h
   obtain⟨q1,q2⟩:=a.stp _ d j hj h
   rw[d3 d j (by omega)]
   exact⟨by rw[q1]; rfl,q2⟩
  ·rw[(o4 p).1] at h; omega
  ·rw[(o5 p j hj).1] at h
   obtain⟨q1,q2⟩:=b.stp _ d j hj h
   rw[d5]
   exact⟨by rw[q1]; simp,q2⟩
theorem qA3{C A:Int->Cd}{n m:Nat}{s:Bool}(hC:SgE C n 1 false)(hA:SgE A m 0 s):SgE (whC C A) (n+m+2) 0 s:=by
 obtain⟨DC,c⟩:=hC
 obtain⟨DA,a⟩:=hA
 have eq : ∀ p,whC C A p=C p++((19,p+n+1+m+1)::(A (p+n+1)++[(18,p)])):=fun p=>by
  simp only[whC,c.ln p,a.ln _]
 have o1 : ∀ p i,i<n->opA (whC C A p) i=opA (C p) i/\nA (whC C A p) i=nA (C p) i:=fun p i h=>by
  rw[eq]; exact qd0 (by rw[c.ln p]; exact h)
 have o2 : ∀ p,opA (whC C A p) n=19/\nA (whC C A p) n=p+n+1+m+1:=fun p=>by
  rw[eq]
  have:=qcg (a:=C p) (b:=(19,p+n+1+m+1)::(A (p+n+1)++[(18,p)])) (i:=n) (by rw[c.ln p]; omega)
  rw[c.ln p,Nat.sub_self] at this
  exact this
 have o3 : ∀ p i,i<m->opA (whC C A p) (n+1+i)=opA (A (p+n+1)) i/\nA (whC C A p) (n+1+i)=nA (A (p+n+1)) i:=fun p i h=>by
  rw[eq]
  have:=qcg (a:=C p++[(19,p+n+1+m+1)]) (b:=A (p+n+1)++[(18,p)]) (i:=n+1+i) (by simp[c.ln p]<;>omega)
  simp only[Wj,Wi,Wc,Wd,c.ln p,Wf,Wm] at this
  rw[show n+1+i-(n+(0+1))=i by omega] at this
  have l:=qd0 (a:=A (p+n+1)) (b:=[(18,p)]) (i:=i) (by rw[a.ln _]; exact h)
  exact⟨this.1.trans l.1,this.2.trans l.2⟩
 have o4 : ∀ p,opA (whC C A p) (n+1+m)=18/\nA (whC C A p) (n+1+m)=p:=fun p=>by
  rw[eq]
  have:=qcg (a:=C p++((19,p+n+1+m+1)::A (p+n+1))) (b:=[(18,p)]) (i:=n+1+m) (by simp[c.ln p,a.ln _]<;>omega)
  simp only[Wj,Wi,Wd,c.ln p,a.ln _,Wf] at this
  rw[show n+1+m-(n+(m+1))=0 by omega] at this
  exact this
 let D:Int->Nat->Int:=fun d i=>if i<=n then DC d i else if i<=n+1+m then DA d (i-n-1) else d
 have d1 : ∀ d i,i<=n->D d i=DC d i:=fun d i h=>if_pos h
 have d3 : ∀ d i,i<=m->D d (n+1+i)=DA d i:=fun d i h=>by
  show (if _ then _ else if _ then _ else _)=_
  rw[if_neg (by omega),if_pos (by omega)]; congr 1; omega
 have d5 : ∀ d,D d (n+1+m+1)=d:=fun d=>by
  show (if _ then _ else if _ then _ else _)=_
  rw[if_neg (by omega),if_neg (by omega)]
 have pos : ∀ i,i<n+m+2->i<n\/i=n\/(∃ j,j<m/\i=n+1+j)\/i=n+1+m:=fun i hi=>by
  by_cases h1:i<n
  ·exact .inl h1
  by_cases h2:i=n
  ·exact .inr (.inl h2)
  by_cases h3:i<n+1+m
  ·exact .inr (.inr (.inl ⟨i-n-1,by omega,by omega⟩))
  ·exact .inr (.inr (.inr (by omega)))
 refine⟨D,⟨qwm c.ln a.ln,fun d=>?_,fun d=>?_,?_,?_,?_,?_⟩⟩
 ·rw[d1 d 0 (by omega),c.beg]
 ·rw[show n+m+2=n+1+m+1 by omega,d5]; omega
 ·intro p i hi
  rcases pos i hi with h|rfl|⟨j,hj,rfl⟩|rfl
  ·rw[(o1 p i h).1,(o1 p i h).2]; exact qcG (c.ok p i h) (by omega) (by omega)
  ·rw[(o2 p).1,(o2 p).2]; exact⟨by omega,by rw[if_neg (by omega),if_neg (by omega),if_neg (by omega),if_neg (by omega),if_pos (by omega)]; omega⟩
  ·rw[(o3 p j hj).1,(o3 p j hj).2]; exact qcG (a.ok _ j hj) (by omega) (by omega)
  ·rw[(o4 p).1,(o4 p).2]; exact⟨by omega,by rw[if_neg (by omega),if_neg (by omega),if_neg (by omega),if_neg (by omega),if_pos (by omega)]; omega⟩
 ·intro p d i hi
  rcases pos i hi with h|rfl|⟨j,hj,rfl⟩|rfl
  ·rw[(o1 p i h).1,d1 d i (by omega)]; exact c.pop p d i h
  ·rw[(o2 p).1,d1 d i (by omega),c.fin,pop19.1]; omega
  ·rw[(o3 p j hj).1,d3 d j (by omega)]; exact a.pop _ d j hj
  ·rw[(o4 p).1,d3 d m (by omega),a.fin,pop19.2.2.1]; omega
 ·intro p d i hi j hj
  rcases pos i hi with h|rfl|⟨r,hr,rfl⟩|rfl
  ·rw[(o1 p i h).1,(o1 p i h).2] at hj
   rw[(o1 p i h).1,d1 d i (by omega)]
   obtain⟨q1,q2,q3⟩:=c.flow p d i h j hj
   rw[d1 d _ (by omega)]
   exact⟨q1,by omega,q3⟩
  ·rw[(o2 p).1,(o2 p).2] at hj
   have e:qo2 19 (p+i+1+m+1) (p+i)=[p+i+1,p+i+1+m+1]:=rfl
   rw[e] at hj
   rw[(o2 p).1,d1 d i (by omega),c.fin,pop19.1,pop19.2.1]
   simp only[Wu,Ww,or_false] at hj
   rcases hj with rfl|rfl
   ·rw[show (p+i+1-p).toNat=i+1+0 by omega,d3 d 0 (by omega),a.beg]
    exact⟨by omega,by omega,by omega⟩
   ·rw[show (p+i+1+m+1-p).toNat=i+1+m+1 by omega,d5]
    exact⟨by omega,by omega,by omega⟩
  ·rw[(o3 p r hr).1,(o3 p r hr).2,show p+((n+1+r:Nat):Int)=(p+n+1)+r by omega] at hj
   rw[(o3 p r hr).1,d3 d r (by omega)]
   obtain⟨q1,q2,q3⟩:=a.flow (p+n+1) d r hr j hj
   rw[show (j-p).toNat=n+1+(j-(p+n+1)).toNat by omega,d3 d _ (by omega)]
   exact⟨by omega,by omega,q3⟩
  ·rw[(o4 p).1,(o4 p).2] at hj
   have e : ∀ x y,qo2 18 x y=[x]:=fun _ _=>rfl
   rw[e] at hj
   rw[(o4 p).1,d3 d m (by omega),a.fin,pop19.2.2.1,pop19.2.2.2]
   simp only[Wg] at hj
   subst hj
   rw[show (j-j).toNat=0 by omega,d1 d 0 (by omega),c.beg]
   exact⟨by omega,by omega,by omega⟩
 ·intro p d i hi h
  rcases pos i hi with h'|rfl|⟨j,hj,rfl⟩|rfl
  ·rw[(o1 p i h').1] at h
   have:=(c.stp p d i h' h).1
   cases this
  ·rw[(o2 p).1] at h; omega
  ·rw[(o3 p j hj).1] at h
   obtain⟨q1,q2⟩:=a.stp _ d j hj h
   rw[d3 d j (by omega)]
   exact⟨q1,q2⟩
  ·rw[(o4 p).1] at h; omega
def E.inV(vs:List ByteArray):E->Prop
 |.var s=>s∈vs
 |.field _ _ e=>e.inV vs
 |.un _ _ e=>e.inV vs
 |.bin _ _ a b=>a.inV vs/\b.inV vs
 |_=>True
def Ss.inV(vs:List ByteArray):Ss->Prop
 |.nil=>True
 |.assign _ s e r=>(s∈vs/\e.inV vs)/\r.inV vs
 |.store _ _ a b r=>(a.inV vs/\b.inV vs)/\r.inV vs
 |.effect _ a b r=>(a.inV vs/\b.inV vs)/\r.inV vs
 |.stop r=>r.inV vs
 |.cond _ _ c b r=>c.inV vs/\b.inV vs/\r.inV vs
 |.block _ b r=>b.inV vs/\r.inV vs
theorem qmH{vs:List ByteArray}{s:ByteArray}(h:s∈vs):0<=ixI vs s/\ixI vs s<vs.length:=by
 induction vs with
 |nil=>cases h
 |cons x l ih=>
  simp only[ixI,Wf]
  split
  ·omega
  ·rename_i hx
   have:=ih ((Wu.1 h).resolve_left fun e=>hx e.symm)
   rw[if_neg (by omega)]
   omega
theorem qlG{s:ByteArray}(h:s∈qgd):0<=fieldI s/\fieldI s<=5:=by
 simp only[qgd,Wu,Ww,or_false] at h
 rcases h with rfl|rfl|rfl|rfl|rfl|rfl<;>decide
theorem qlH{s:ByteArray}(h:s∈qdU):0<=fieldI s/\fieldI s<=7:=by
 simp only[qdU,qgd,Wi,Wc,Wu,Ww,or_false] at h
 rcases h with rfl|rfl|rfl|rfl|rfl|rfl|rfl|rfl<;>decide
theorem qqn(s:ByteArray):nameI s=6\/nameI s=7\/nameI s=8:=by unfold nameI; split<;>(try split)<;>simp
section
variable{vs:List ByteArray}(hv:vs.length<=16)
theorem qoR{op:Int}(h:6<=op/\op<=21/\op≠18/\op≠19)(lo hi:Int):vOp op 0 lo hi:=
 ⟨by omega,by rw[if_neg (by omega),if_neg (by omega),if_neg (by omega),if_neg (by omega),if_neg (by omega)]⟩
theorem qsC{A B:Int->Cd}{n m:Nat}{op:Int}(hA:SgE A n 1 false)(hB:SgE B m 1 false)(ho:6<=op/\op<=21/\op≠18/\op≠19/\op≠21)(h2:qfL op=2)(h1:qd7 op=1):SgE (snC (sq A B) (op,0)) (n+m+1) 1 false:=
 qmU (qkP hA hB (by omega) (fun h=>by cases h)) rfl (by omega) ⟨by omega,by omega,by omega⟩ (qoR ⟨by omega,by omega,by omega,by omega⟩ 0 0) (by omega) (by omega)
theorem qyC{o:Bop}{A B:Int->Cd}{n m:Nat}(hA:SgE A n 1 false)(hB:SgE B m 1 false) : ∃ k,SgE (binC o A B) k 1 false:=by
 cases o
 case and=>exact⟨_,qvD hA hB (qjR (by omega) ⟨by omega,by decide⟩ (by decide) (by decide)) (by omega)⟩
 case or=>exact⟨_,qvD hA (qjR (by omega) ⟨by omega,by decide⟩ (by decide) (by decide)) hB (by omega)⟩
 case gt=>exact⟨_,qsC hB hA (by omega) (by decide) (by decide)⟩
 case ge=>exact⟨_,qsC hB hA (by omega) (by decide) (by decide)⟩
 case ne=>exact⟨_,qmU (qsC hA hB (op:=16) (by omega) (by decide) (by decide)) rfl (by omega) (by omega) (qoR (by omega) 0 0) (by decide) (by decide)⟩
 all_goals exact⟨_,qsC hA hB (by decide) (by decide) (by decide)⟩
theorem qyD{A:Int->Cd}{n:Nat}{op x:Int}(hA:SgE A n 2 false)(hv:vOp op x 0 0)(ho:op≠18/\op≠19/\op≠21)(h2:qfL op=2)(h1:qd7 op=0):SgE (snC A (op,x)) (n+1) 0 false:=
 qmU hA rfl (by omega) ho hv (by omega) (by omega)
include hv
theorem qpz : ∀ e:E,e.fine->e.inV vs -> ∃ n,SgE (qdd vs e) n 1 false
 |.int n,h,_=>⟨1,qjR (by omega) ⟨by omega,by rw[if_pos rfl]; have:=h; simp only[E.fine] at this; omega⟩ (by decide) (by decide)⟩
 |.bool n,h,_=>⟨1,qjR (by omega) ⟨by omega,by rw[if_pos rfl]; have:=h; simp only[E.fine] at this; omega⟩ (by decide) (by decide)⟩
 |.var s,_,h=>⟨1,qjR (by omega) ⟨by omega,by rw[if_neg (by omega),if_pos (by omega)]; have:=qmH h; omega⟩ (by decide) (by decide)⟩
 |.name s,_,_=>by
  rcases qqn s with e|e|e<;>exact⟨1,by rw[qdd,e]; exact qjR (by omega) (qoR (by omega) 0 0) (by decide) (by decide)⟩
 |.field _ s e,h,g=>let ⟨_,k⟩:=qpz e h.2.1 g; ⟨_,qmU k rfl (by omega) (by omega) ⟨by omega,by rw[if_neg (by omega),if_neg (by omega),if_pos rfl]; exact qlH h.1⟩ (by decide) (by decide)⟩
 |.un _ true e,h,g=>let ⟨_,k⟩:=qpz e h.1 g; ⟨_,qmU k rfl (by omega) (by decide) (qoR (by decide) 0 0) (by decide) (by decide)⟩
 |.un _ false e,h,g=>let ⟨_,k⟩:=qpz e h.1 g; ⟨_,qmU k rfl (by omega) (by decide) (qoR (by decide) 0 0) (by decide) (by decide)⟩
 |.bin _ o a b,h,g=>let ⟨_,k⟩:=qpz a h.1 g.1; let ⟨_,k'⟩:=qpz b h.2.1 g.2; qyC k k'
theorem qCr(b:Ss)(hf:b.fine)(hi:b.inV vs) : ∃ n s,SgE (codeS vs b) n 0 s:=by
 fun_induction codeS vs b with
 |case1=>exact⟨_,_,quh⟩
 |case2 _ s e r ih=>
  obtain⟨n,h⟩:=qpz hv e hf.1.2.1 hi.1.2
  obtain⟨m,t,g⟩:=ih hf.2 hi.2
  exact⟨_,_,qkP (k:=0) (qmU h rfl (by omega) (by omega) ⟨by omega,by rw[if_neg (by omega),if_pos (by omega)]; have:=qmH hi.1.1; omega⟩ (by decide) (by decide)) g (by omega) (fun _=>rfl)⟩
 |case3 _ s a b r ih=>
  obtain⟨n,h⟩:=qpz hv a hf.1.2.1 hi.1.1
  obtain⟨n',h'⟩:=qpz hv b hf.1.2.2.2.1 hi.1.2
  obtain⟨m,t,g⟩:=ih hf.2 hi.2
  exact⟨_,_,qkP (k:=0) (qyD (qkP h h' (by omega) (fun h=>by cases h)) ⟨by omega,by rw[if_neg (by omega),if_neg (by omega),if_neg (by omega),if_pos rfl]; exact qlG hf.1.1⟩ (by omega) (by decide) (by decide)) g (by omega) (fun _=>rfl)⟩
 |case4 _ a b r ih=>
  obtain⟨n,h⟩:=qpz hv a hf.1.1 hi.1.1
  obtain⟨n',h'⟩:=qpz hv b hf.1.2.2.1 hi.1.2
  obtain⟨m,t,g⟩:=ih hf.2 hi.2
  exact⟨_,_,qkP (k:=0) (qyD (qkP h h' (by omega) (fun h=>by cases h)) (qoR (by omega) 0 0) (by omega) (by decide) (by decide)) g (by omega) (fun _=>rfl)⟩
 |case5 r ih=>
  obtain⟨m,t,g⟩:=ih hf hi
  exact⟨_,_,qkP qwz g (by omega) (fun _=>rfl)⟩
 |case6 _ c _ x _ y r ih1 ih2 ih3=>
  obtain⟨n,h⟩:=qpz hv c hf.1.1 hi.1
  obtain⟨m1,t1,g1⟩:=ih1 hf.2.1 hi.2.1.1
  obtain⟨m2,t2,g2⟩:=ih2 hf.2.2.1 hi.2.1.2.1
  obtain⟨m3,t3,g3⟩:=ih3 hf.2.2.2 hi.2.2
  exact⟨_,_,qkP (qvD h g1 g2 (by omega)) g3 (by omega) (fun _=>rfl)⟩
 |case7 _ c _ x r ih1 ih2=>
  obtain⟨n,h⟩:=qpz hv c hf.1.1 hi.1
  obtain⟨m1,t1,g1⟩:=ih1 hf.2.1 hi.2.1.1
  obtain⟨m2,t2,g2⟩:=ih2 hf.2.2 hi.2.2
  exact⟨_,_,qkP (qA3 h g1) g2 (by omega) (fun _=>rfl)⟩
 |case8=>exact⟨_,_,quh⟩
end
end
end Go.Pm
section
namespace Go.Pm.Gr
theorem qnz {c:Cd} {e i:Nat} : ∀ (l pre:List Int) (a:An) (d:Int),Inv c e (some i) pre a->d=aft c i (gD a.ds i-1)->(∀ j∈l,j∈qgM c i/\0<=j/\j<=c.length) ->
  Inv c e (some i) (pre++l) (l.foldl (one c.length d) a)/\gD (l.foldl (one c.length d) a).ds i=gD a.ds i
 |[],pre,a,d,h,_,_=>by simpa using h
 |j::l,pre,a,d,h,hd,hl=>by
  obtain⟨h1,h2⟩:=qu6 h (hl j (by simp)).1 (hl j (by simp)).2
  rw[<- hd] at h1 h2
  have:=qnz l (pre++[j]) (one c.length d a j) d h1 (by rw[h2]; exact hd) (fun x hx=>hl x (by simp[hx]))
  rw[h2] at this
  simpa using this
theorem qvA{c:Cd}{e i:Nat}{r:List Nat}{a:An}(hf:qrR c)(h:Inv c e none [] a)(ho:a.op=r++[i]):Inv c e none [] (stp c a i r):=by
 have hnd:=h.nodup
 rw[ho,List.nodup_append] at hnd
 have hir:i∉r:=fun hh=>hnd.2.2 i hh i (by simp) rfl
 have hio:i∈a.op:=by rw[ho]; simp
 obtain⟨hil,hi0⟩:=h.opn i hio
 obtain⟨hp1,hp2⟩:=h.pos i hil hi0
 have back : ∀ k,k∉r->k=i\/k∉a.op:=fun k hk=>by
  by_cases hki:k=i
  ·exact .inl hki
  ·right; rw[ho]; simp[hk,hki]
 have h0:Inv c e (some i) [] { a with breaks:=a.breaks||decide (gD a.ds i-1<qfL (opA c i)),depth:=max a.depth (aft c i (gD a.ds i-1)),op:=r }:=by
  refine⟨h.len,hnd.1,fun k hk=>h.opn k (by rw[ho]; simp[hk]),h.pos,h.ent,fun k hk=>?_,fun k k1 k2 k3 x hx=>?_,h.fal,fun hb k k1 k2 k3=>?_,fun D hD=>?_,⟨?_,fun k k1 k2 k3=>?_⟩,?_⟩
  ·have:i=k:=WD hk
   subst this
   exact⟨hil,hi0,hir⟩
  ·simp only at k2 k3 ⊢
   by_cases hk:some i=some k
   ·rw[if_pos hk] at hx; simp at hx
   ·rw[if_neg hk] at hx
    rcases back k k3 with hki|hko
    ·exact absurd (by rw[hki]) hk
    ·have:=h.done k k1 k2 hko
     simp only[reduceCtorEq,if_false] at this
     exact this x hx
  ·simp only[Bool.or_eq_false_iff,decide_eq_false_iff_not] at hb
   simp only at k2 k3 ⊢
   by_cases hk:some i=some k
   ·have:i=k:=WD hk
    subst this
    exact⟨by omega,fun x hx=>by rw[if_pos hk] at hx; simp at hx⟩
   ·rw[if_neg hk]
    rcases back k k3 with hki|hko
    ·exact absurd (by rw[hki]) hk
    ·have:=h.brk hb.1 k k1 k2 hko
     simp only[reduceCtorEq,if_false] at this
     exact this
  ·obtain⟨c1,c2⟩:=h.cf D hD
   refine⟨?_,c2⟩
   have:=hD.pops i hp2
   have:=c2 i hil hi0
   simp only[c1,Bool.false_or,decide_eq_false_iff_not]
   omega
  ·have:=h.dle.1
   simp only
   omega
  ·simp only at k2 k3 ⊢
   rcases back k k3 with hki|hko
   ·rw[hki]; omega
   ·have:=h.dle.2 k k1 k2 hko; omega
  ·simp only
   by_cases hm:aft c i (gD a.ds i-1)<=a.depth
   ·rcases h.dat with hd|⟨k,k1,k2,k3,k4⟩
    ·exact .inl (by omega)
    ·exact .inr ⟨k,k1,k2,fun hh=>k3 (by rw[ho]; simp[hh]),by omega⟩
   ·exact .inr ⟨i,hil,hi0,hir,by omega⟩
 have h1:=(qnz (qgM c i) [] _ (aft c i (gD a.ds i-1)) h0 rfl (fun j hj=>⟨hj,hf i hil j hj⟩)).1
 rw[Wc] at h1
 unfold stp
 refine⟨h1.len,h1.nodup,h1.opn,h1.pos,h1.ent,fun k hk=>(by cases hk),fun k k1 k2 k3 x hx=>?_,h1.fal,fun hb k k1 k2 k3=>?_,h1.cf,h1.dle,h1.dat⟩
 ·have:=h1.done k k1 k2 k3
  simp only[reduceCtorEq,if_false] at hx
  by_cases hk:some i=some k
  ·rw[if_pos hk] at this
   exact this x (by rw[WD hk]; exact hx)
  ·rw[if_neg hk] at this
   exact this x hx
 ·have:=h1.brk hb k k1 k2 k3
  simp only[reduceCtorEq,if_false]
  by_cases hk:some i=some k
  ·have hik:i=k:=WD hk
   subst hik
   rw[if_pos rfl] at this
   exact this
  ·rw[if_neg hk] at this
   exact this
def an0(c:Cd)(e:Nat):An:=⟨false,false,0,(List.replicate c.length 0).set e 1,[e]⟩
theorem qql(n i:Nat):gD (List.replicate n 0) i=0:=by
 simp only[gD,WB,List.getElem?_replicate]
 split<;>rfl
theorem qvB{c:Cd}{e:Nat}(he:e<c.length):Inv c e none [] (an0 c e):=by
 have hse:gD ((List.replicate c.length 0).set e 1) e=1:=qgs (by simpa using he)
 have hne : ∀ i,gD ((List.replicate c.length 0).set e 1) i≠0->i=e:=fun i hi=>by
  by_cases h:e=i
  ·exact h.symm
  ·rw[qgt h,qql] at hi; exact absurd rfl hi
 unfold an0
 refine⟨by simp,by simp,fun i hi=>?_,fun i _ hi=>?_,hse,fun i hi=>(by cases hi),fun i _ h2 h3=>?_,fun h=>(by simp at h),fun _ i _ h2 h3=>?_,fun D hD=>⟨rfl,fun i _ h2=>?_⟩,⟨by simp,fun i _ h2 h3=>?_⟩,.inl rfl⟩
 ·simp only[Wg] at hi
  rw[hi]; exact⟨he,by rw[hse]; omega⟩
 ·rw[hne i hi,hse]; exact⟨by omega,Reach.here⟩
 ·exact absurd (by simp[hne i h2]) h3
 ·exact absurd (by simp[hne i h2]) h3
 ·rw[hne i h2,hse,hD.zero]; rfl
 ·exact absurd (by simp[hne i h2]) h3
theorem qvC {c:Cd} {e:Nat} {a:An} (he:e<c.length) (h:Inv c e none [] a) (ho:a.op=[]) :
  (a.falls=true↔qpX c e)/\(a.breaks=false ↔ ∃ D,CF c e D) /\ ∀ D,CF c e D->Most c e D a.depth:=by
 have hno : ∀ i,i∉a.op:=fun i=>by rw[ho]; simp
 have hall : ∀ i,Reach c e i->gD a.ds i≠0:=fun i hi=>by
  induction hi with
  |here=>rw[h.ent]; omega
  |go hi hl hj hjl ih=>
   have:=h.done _ hl ih (hno _)
   simp only[reduceCtorEq,if_false] at this
   have:=(this _ hj).2 (by omega)
   simpa using this
 refine⟨⟨h.fal,fun ⟨i,hi,hj⟩=>?_⟩,⟨fun hb=>⟨fun i=>gD a.ds i-1,?_,fun i hi=>?_,fun i hi j hj hjl=>?_⟩,fun ⟨D,hD⟩=>(h.cf D hD).1⟩,fun D hD=>⟨h.dle.1,fun i hi=>?_,?_⟩⟩
 ·have:=h.done i (hi.lt he) (hall i hi) (hno i)
  simp only[reduceCtorEq,if_false] at this
  exact (this _ hj).1 rfl
 ·rw[h.ent]; rfl
 ·exact (h.brk hb i (hi.lt he) (hall i hi) (hno i)).1
 ·have:=(h.brk hb i (hi.lt he) (hall i hi) (hno i)).2
  simp only[reduceCtorEq,if_false] at this
  have:=this _ hj (by omega)
  simp only[Int.toNat_natCast] at this
  omega
 ·have h2:=(h.cf D hD).2 i (hi.lt he) (hall i hi)
  have:=h.dle.2 i (hi.lt he) (hall i hi) (hno i)
  rw[h2,show D i+1-1=D i by omega] at this
  exact this
 ·rcases h.dat with h0|⟨i,h1,h2,_,h4⟩
  ·exact .inl h0
  ·refine .inr ⟨i,(h.pos i h1 h2).2,?_⟩
   rw[h4,(h.cf D hD).2 i h1 h2,show D i+1-1=D i by omega]
def mu(a:An):Nat:=2*a.ds.count 0+a.op.length
theorem count_set{l:List Int}{i:Nat}{v:Int}(hi:i<l.length)(h0:gD l i=0)(hv:v≠0):(l.set i v).count 0+1=l.count 0:=by
 have hx:l[i]=0:=by simpa [gD,WB,hi] using h0
 rw[List.count_set hi]
 have hp:0<l.count 0:=List.count_pos_iff.2 (by rw[<- hx]; exact Yx hi)
 simp[hx,hv]
 omega
theorem qyA{n:Nat}{d:Int}{a:An}{j:Int}(hl:a.ds.length=n)(hj:0<=j/\j<=n):mu (one n d a j)<=mu a/\(one n d a j).ds.length=n:=by
 unfold one
 by_cases hn:j=n
 ·rw[if_pos hn]; exact⟨Wp _,hl⟩
 ·rw[if_neg hn]
  by_cases h0:gD a.ds j.toNat=0
  ·rw[if_pos h0]
   refine⟨?_,by simp[hl]⟩
   have:=count_set (v:=max d 0+1) (by omega) h0 (by omega)
   unfold mu
   simp only[Wd,Wh]
   omega
  ·rw[if_neg h0]
   split<;>exact⟨Wp _,hl⟩
theorem qqm{n:Nat}{d:Int} : ∀ (l:List Int) (a:An),a.ds.length=n->(∀ j∈l,0<=j/\j<=n)->mu (l.foldl (one n d) a)<=mu a
 |[],a,_,_=>Wp _
 |j::l,a,hl,hj=>by
  obtain⟨h1,h2⟩:=qyA (d:=d) hl (hj j (by simp))
  exact Yf (qqm l _ h2 (fun x hx=>hj x (by simp[hx]))) h1
theorem qyB{c:Cd}{i:Nat}{r:List Nat}{a:An}(hf:qrR c)(hl:a.ds.length=c.length)(hi:i<c.length)(ho:a.op=r++[i]):mu (stp c a i r)<mu a:=by
 unfold stp
 refine Wx (qqm _ _ (by simpa using hl) (hf i hi)) ?_
 simp only[mu,ho,Wd,Wh]
 omega
end Go.Pm.Gr
end
section
namespace Go.Pm.Gr
structure Rs where
 out:List Int
 ok:Bool
 ch:Bool
structure RI(c:Cd)(e:Nat)(s:Rs):Prop where
 len:s.out.length=c.length
 ent:gD s.out e=0
 rch : ∀ i,i<c.length->0<=gD s.out i->Reach c e i
 cf : ∀ D,CF c e D->s.ok=true /\ ∀ i,i<c.length->0<=gD s.out i->gD s.out i=D i
end Go.Pm.Gr
end
section
namespace Go.Pm.Gr
structure AnaRes(c:Cd)(e:Nat)(fl br:Bool)(dp:Int):Prop where
 fal:fl=true↔qpX c e
 brk:br=false ↔ ∃ D,CF c e D
 most : ∀ D,CF c e D->Most c e D dp
structure RefRes(c:Cd)(e:Nat)(out:List Int)(ok:Bool):Prop where
 len:out.length=c.length
 rch : ∀ i,i<c.length->(0<=gD out i↔Reach c e i)
 ok_:ok=true ↔ ∃ D,CF c e D
 val : ∀ D,CF c e D -> ∀ i,Reach c e i->gD out i=D i
end Go.Pm.Gr
end
namespace Go.Pm
section
open F Gr
def icC(c:Cd):List D:=c.flatMap fun x=>[.lit (.int .i64 x.1),.lit (.int .i64 x.2)]
@[simp] theorem qfC(c:Cd):(icC c).length=c.length*2:=by
 induction c with
 |nil=>rfl
 |cons x c ih=>simp only[icC,List.flatMap_cons,Wd,Wf,Wm] at ih ⊢; omega
theorem qjN(a b:Cd):icC (a++b)=icC a++icC b:=by simp[icC]
theorem qnN(c:Cd)(i:Nat):(icC c).drop (i*2)=icC (c.drop i):=by
 induction i generalizing c with
 |zero=>simp
 |succ i ih=>
  cases c with
  |nil=>simp[icC]
  |cons x c=>
   rw[show (i+1)*2=i*2+2 by omega]
   simp only[icC,List.flatMap_cons,Wi,Wc,Yu] at ih ⊢
   exact ih c
theorem qnO(c:Cd)(i:Nat)(h:i<c.length):qaj (icC c) (i*2) 2=some [.lit (.int .i64 (opA c i)),.lit (.int .i64 (nA c i))]:=by
 unfold qaj
 rw[qnN,Wy h]
 have e:icC (c[i]::c.drop (i+1)) = .lit (.int .i64 c[i].1) :: .lit (.int .i64 c[i].2)::icC (c.drop (i+1)):=rfl
 have e1:opA c i=c[i].1:=by simp[opA,WB,h]
 have e2:nA c i=c[i].2:=by simp[nA,WB,h]
 rw[e,e1,e2]
 rfl
theorem qsW(c:Cd)(i:Nat)(h:i<c.length):qaj (icC c) (i*2) 1=some [.lit (.int .i64 (opA c i))]:=by
 unfold qaj
 rw[qnN,Wy h]
 have e:icC (c[i]::c.drop (i+1)) = .lit (.int .i64 c[i].1) :: .lit (.int .i64 c[i].2)::icC (c.drop (i+1)):=rfl
 have e1:opA c i=c[i].1:=by simp[opA,WB,h]
 rw[e,e1]
 rfl
structure IsCode(d:D)(c:Cd):Prop where
 len : ∀ σ,V.len σ .sl (.dat d)=some c.length
 at_ : ∀ i:Int,0<=i->i<c.length->qae 2 (.dat d) i=some (.dat (.imm (icC c) (i.toNat*2)))
 one:V.one (.dat d)=true
 cells:V.cells (.dat d)=[.dat d]
theorem qiQ(c:Cd)(f:Bool):IsCode (.sl (icC c) c.length f) c where
 len:=fun _=>rfl
 at_:=fun i h0 h1=>by simp[qae,h0,h1]
 one:=rfl
 cells:=rfl
theorem qjO:IsCode (.lit (.slice none 0 0)) [] where
 len:=fun _=>rfl
 at_:=fun i h0 h1=>by simp at h1; omega
 one:=rfl
 cells:=rfl
def pgD(d:D)(e0 e1 e2:Int):V := .dat (.agg [d,.lit (.int .i64 e0),.lit (.int .i64 e1),.lit (.int .i64 e2)])
def qv9(c:Cd)(i:Nat):D:=if opA c i=21 then .lit (.slice none 0 0) else .sl (intsC (qgM c i)) (qgM c i).length true
theorem qsX(c:Cd)(i:Nat):IsRow (qv9 c i) (qgM c i):=by
 unfold qv9
 by_cases h:opA c i=21
 ·rw[if_pos h]
  have:qgM c i=[]:=by unfold qgM; rw[if_pos h]
  rw[this]
  exact qlT none
 ·rw[if_neg h]; exact qnR _ true
section
variable{d:D}{c:Cd}{e0 e1 e2:Int}{i:Nat}
theorem qyW(hd:IsCode d c)(hi:i<c.length)(hi2:i<2^40):Z qad (.call 164 [pgD d e0 e1 e2,.int i] [])=some (.ret (.dat (qv9 c i)) []):=by
 have h1:=hd.at_ i (by omega) (by omega)
 rw[show ((i:Int)).toNat=i by omega] at h1
 have h2:=qnO c i hi
 have w1:=qai ((i:Int)+1) (by omega)
 have ho:=hd.one
 have hc:=hd.cells
 refine qab (pf:=F164) rfl rfl ?_
 unfold qv9 qgM
 generalize opA c i=op at *
 generalize nA c i=n at *
 by_cases k1:op=21
 ·simp[F164,pgD,Wa,h1,h2,k1,ho,hc]
 ·by_cases k2:op=18
  ·simp[F164,pgD,Wa,h1,h2,k1,k2,ho,hc,intsC]
  ·by_cases k3:op=19
   ·simp[F164,pgD,Wa,h1,h2,k1,k2,k3,w1,ho,hc,intsC]
   ·simp[F164,pgD,Wa,h1,h2,k1,k2,k3,w1,ho,hc,intsC]
end
def aS(d:D)(e0 e1 e2:Int)(a:An):S:=
 [.cells [.dat d,.int e0,.int e1,.int e2],.cells [.bool false,.bool false,.int 0],.cells [.bool a.falls,.bool a.breaks,.int a.depth],.cells (qdB a.ds),.vec (qdB (a.op.map fun (i:Nat)=>(i:Int)))]
def bFr(n m:Nat)(dp:Int)(r:D)(len k:Nat):Fr:=[(2,.ptr 0 0),(4,.ptr 1 0),(5,.ptr 2 0),(6,.msl 3 0 n n 1),(7,.own 4 m 1),(10,.int dp),(68,.dat r),(69,.int len),(70,.int k)]
def aFr(n m:Nat):Fr:=[(2,.ptr 0 0),(4,.ptr 1 0),(5,.ptr 2 0),(6,.msl 3 0 n n 1),(7,.own 4 m 1)]
section
variable{d:D}{c:Cd}{e0 e1 e2:Int}{a:An}{r:D}{l:List Int}{k:Nat}{dp:Int}
theorem qwa (hd:IsCode d c) (hr:IsRow r l) (hk:k<l.length) (hk2:k<100) (hl:a.ds.length=c.length) (hcl:c.length<2^30) (hol:a.op.length<2^30) (hj:0<=l[k]/\l[k]<=c.length) (hdp : -10<=dp/\dp<2^40):
  Z qad (.loop 0 F139l1 (bFr c.length a.op.length dp r l.length k) (aS d e0 e1 e2 a))=Z qad (.loop 0 F139l1 (bFr c.length (Gr.one c.length dp a l[k]).op.length dp r l.length (k+1)) (aS d e0 e1 e2 (Gr.one c.length dp a l[k]))):=by
 have h1:=hr.at_ k (by omega) (by omega)
 rw[show ((k:Int)).toNat=k by omega] at h1
 have h2:=qoZ l k hk
 have h2':qrT l k=l[k]:=by simp[qrT,WB,hk]
 rw[h2'] at h2
 have hk':(k:Int)<l.length:=by omega
 have w1:=qai ((k:Int)+1) (by omega)
 have w2:=qai (dp+1) (by omega)
 have hlen:=hd.len
 have ho:=hd.one
 have hc:=hd.cells
 unfold Gr.one
 generalize l[k]=j at *
 obtain⟨fl,br,depth,ds,op⟩:=a
 simp only at hl hol ⊢
 have S1 : ∀ (x:D),x=x:=fun _=>rfl
 by_cases hn:j=c.length
 ·subst hn
  rw[qaa]
  simp[qac,qdv,bFr,aS,Wa,hlen,h1,h2,hk',w1,ho,hc]
 ·rw[if_neg hn]
  have hm:qae 1 (.msl 3 0 c.length c.length 1) j=some (.ptr 3 j.toNat):=by
   have a1:0<=j:=hj.1
   have a2:j<c.length:=by omega
   simp[qae,a1,a2]
  have hu:=qwr (cs:=ds) j (gD ds j.toNat) hj.1 (by omega) rfl
  have hjn:(j.toNat:Int)=j:=by omega
  have hse : ∀ v,(qdB ds).take j.toNat++(V.int v::(qdB ds).drop (j.toNat+1))=qdB (ds.set j.toNat v):=fun v=>qnQ ds j.toNat v (by omega)
  have hjl:j.toNat+1<=ds.length:=by omega
  by_cases h0:gD ds j.toNat=0
  ·rw[if_pos h0]
   have hr8:qay (op.length+1) 8=true:=by simp[qay]; omega
   have hap:qdB (op.map fun (i:Nat)=>(i:Int))++[V.int j]=qdB ((op++[j.toNat]).map fun (i:Nat)=>(i:Int)):=by simp[qdB,hjn]
   have wone:IntKind.i64.wrap 1=1:=rfl
   have hmj:max j 0=j:=by omega
   have hap2 : ∀ X,qdB X++[V.int j]=qdB (X++[j]):=fun X=>by simp[qdB]
   by_cases hneg:dp<0
   ·have hmx:max dp 0+1=1:=by omega
    rw[hmx,qaa]
    simp[qac,qdv,bFr,aS,Wa,hlen,h1,h2,hk',w1,ho,hc,hn,hm,hu,h0,hse,hjl,hr8,qi8,qno,wone,hmj,hap2,hneg]
    refine qag ?_
    simp[Wa,ho,hc]
   ·have hmx:max dp 0=dp:=by omega
    rw[hmx,qaa]
    simp[qac,qdv,bFr,aS,Wa,hlen,h1,h2,hk',w1,ho,hc,hn,hm,hu,h0,hse,hjl,hr8,qi8,qno,wone,hmj,hap2,hneg,w2]
    refine qag ?_
    simp[Wa,ho,hc]
  ·rw[if_neg h0]
   by_cases h3:gD ds j.toNat=dp+1
   ·have h0' : ¬ dp+1=0:=by omega
    rw[if_neg (by omega),qaa]
    simp[qac,qdv,bFr,aS,Wa,hlen,h1,h2,hk',w1,w2,ho,hc,hn,hm,hu,h0,h3,h0']
   ·rw[if_pos h3,qaa]
    simp[qac,qdv,bFr,aS,Wa,hlen,h1,h2,hk',w1,w2,ho,hc,hn,hm,hu,h0,h3]
end
end
section
open F Gr
section
variable{d:D}{c:Cd}{e0 e1 e2:Int}{r:D}{l:List Int}{dp:Int}
theorem qxU(hd:IsCode d c)(a:An):Z qad (.loop 0 F139l1 (bFr c.length a.op.length dp r l.length l.length) (aS d e0 e1 e2 a))=some (.out (.exit 2) (bFr c.length a.op.length dp r l.length l.length++[(71,.bool false)]) (aS d e0 e1 e2 a)):=by
 have ho:=hd.one
 have hc:=hd.cells
 obtain⟨fl,br,depth,ds,op⟩:=a
 rw[qaa]
 simp[qac,qdv,bFr,aS,Wa,ho,hc]
theorem quP{n:Nat}{d:Int}{a:An}{j:Int}(hl:a.ds.length=n):(Gr.one n d a j).ds.length=n/\(Gr.one n d a j).op.length<=a.op.length+1:=by
 unfold Gr.one
 split
 ·exact⟨hl,Yz _⟩
 ·split
  ·exact⟨by simp[hl],by simp⟩
  ·split<;>exact⟨hl,Yz _⟩
theorem quQ (hd:IsCode d c) (hr:IsRow r l) (hl2:l.length<50) (hcl:c.length<2^29) (hj : ∀ x∈l,0<=x/\x<=c.length) (hdp : -10<=dp/\dp<2^40) (m:Nat) : ∀ (k:Nat) (a:An),k+m=l.length->a.ds.length=c.length->a.op.length+m<2^30 ->
  Z qad (.loop 0 F139l1 (bFr c.length a.op.length dp r l.length k) (aS d e0 e1 e2 a))=some (.out (.exit 2) (bFr c.length ((l.drop k).foldl (Gr.one c.length dp) a).op.length dp r l.length l.length++[(71,.bool false)]) (aS d e0 e1 e2 ((l.drop k).foldl (Gr.one c.length dp) a))):=by
 induction m with
 |zero=>
  intro k a hk ha ho
  have:k=l.length:=by omega
  subst this
  rw[List.drop_length]
  exact qxU hd a
 |succ m ih=>
  intro k a hk ha ho
  have hkl:k<l.length:=by omega
  rw[Wy hkl,W8]
  obtain⟨q1,q2⟩:=quP (n:=c.length) (d:=dp) (j:=l[k]) ha
  rw[qwa hd hr hkl (by omega) ha (by omega) (by omega) (hj _ (Yx hkl)) hdp]
  exact ih (k+1) _ (by omega) q1 (by omega)
end
def F139a:PC:=match F139l0 with | .seq a _=>a|_ => .skip
def F139b:PC:=match F139l0 with | .seq _ b=>b|_ => .skip
theorem F139a_eq:F139a = .seq (.region none [⟨some 22,.mov (.t 7),none,[]⟩,⟨some 23,.len .sl (.t 22),none,[]⟩,⟨some 24,.bin .gtr (.t 23) (.c (.int .i64 0)),none,[]⟩] [2,4,5,6,7,24]) (.cond (.t 24) (.skip) (.exit 0)):=rfl
theorem qr5 (d:D) (e0 e1 e2:Int) (a:An) (n m:Nat) (dp:Int) (r:D) (len k:Nat) (b:Bool) :
  Z qad (.loop 0 F139l0 (bFr n m dp r len k++[(71,.bool b)]) (aS d e0 e1 e2 a))=Z qad (.loop 0 F139l0 (aFr n m) (aS d e0 e1 e2 a)):=by
 have e:F139l0 = .seq F139a F139b:=rfl
 rw[qaa,qaa,e]
 simp[qac,F139a_eq,aFr,bFr,aS,Wa,qg6]
theorem qAG : ∀ op:Nat,1<=op->op<=21->qaj G_arenanet_compile_effects (op*2) 2=some [.lit (.int .i64 (qfL op)),.lit (.int .i64 (qd7 op))]:=by
 intro op h1 h2
 have : ∀ k:_root_.Fin 22,1<=k.val->qaj effRows15.flatten (k.val*2) 2=some [qfL k.val,qd7 k.val]:=by decide
 have h:=this ⟨op,by omega⟩ h1
 unfold G_arenanet_compile_effects
 unfold qaj at h ⊢
 simp only at h ⊢
 rw[<- List.map_drop,<- List.map_take]
 split at h
 ·rename_i hh
  simp only[Wb] at h
  rw[if_pos (by rw[Yj]; exact hh),h]
  rfl
 ·cases h
section
variable{d:D}{c:Cd}{e0 e1 e2:Int}
set_option maxHeartbeats 4000000 in
theorem quR (hd:IsCode d c) (hf:qrR c) (hops : ∀ i,i<c.length->1<=opA c i/\opA c i<=21) (hcl:c.length<2^29) {a:An} {i:Nat} {r:List Nat} (ho:a.op=r++[i]) (hi:i<c.length) (hl:a.ds.length=c.length) (hol:a.op.length<2^29) (hb:1<=gD a.ds i/\gD a.ds i<2^39) :
  Z qad (.loop 0 F139l0 (aFr c.length a.op.length) (aS d e0 e1 e2 a))=Z qad (.loop 0 F139l0 (aFr c.length (stp c a i r).op.length) (aS d e0 e1 e2 (stp c a i r))):=by
 have hlen:=hd.len
 have h1:=hd.one
 have h2:=hd.cells
 obtain⟨op,hop⟩ : ∃ op:Nat,(op:Int)=opA c i:=⟨(opA c i).toNat,by have:=hops i hi; omega⟩
 have hopr:1<=op/\op<=21:=by have:=hops i hi; omega
 have heff:=qAG op hopr.1 hopr.2
 have hat:=hd.at_ i (by omega) (by omega)
 rw[show ((i:Int)).toNat=i by omega] at hat
 have hcut:=qsW c i hi
 rw[<- hop] at hcut
 have hsu:=qyW (e0:=e0) (e1:=e1) (e2:=e2) hd hi (by omega)
 have hp:=qnr (opA c i)
 have hq:=qgr (opA c i)
 have hslen:(qgM c i).length<50:=by unfold qgM; split<;>(try split)<;>(try split)<;>simp
 have hdp : -10<=aft c i (gD a.ds i-1)/\aft c i (gD a.ds i-1)<2^40:=by unfold aft; omega
 have hrow:=qsX c i
 have hra:(aft c i (gD a.ds i-1))=gD a.ds i-1+(qd7 (opA c i)-qfL (opA c i)):=rfl
 have hloop:=quQ (e0:=e0) (e1:=e1) (e2:=e2) hd hrow hslen hcl (fun x hx=>hf i hi x hx) hdp (qgM c i).length 0 { a with breaks:=a.breaks||decide (gD a.ds i-1<qfL (opA c i)),depth:=max a.depth (aft c i (gD a.ds i-1)),op:=r } (by omega) hl (by rw[ho] at hol; simp at hol ⊢; omega)
 rw[WT] at hloop
 have hst:stp c a i r=(qgM c i).foldl (Gr.one c.length (aft c i (gD a.ds i-1))) { a with breaks:=a.breaks||decide (gD a.ds i-1<qfL (opA c i)),depth:=max a.depth (aft c i (gD a.ds i-1)),op:=r }:=rfl
 rw[<- hst] at hloop
 have hr2:=hrow.len
 obtain⟨R,hR⟩ : ∃ R,R=stp c a i r:=⟨_,rfl⟩
 rw[<- hR] at hloop ⊢
 clear hst
 obtain⟨dp,hdpe⟩ : ∃ dp,dp=aft c i (gD a.ds i-1):=⟨_,rfl⟩
 rw[<- hdpe] at hloop hra
 obtain⟨fl,br,depth,ds,aop⟩:=a
 simp only at ho hl hol hb hloop hdpe hra hdp
 subst ho
 have hm:qae 1 (.msl 3 0 c.length c.length 1) i=some (.ptr 3 i):=by
  have a2:(i:Int)<c.length:=by omega
  simp[qae,a2]
 have hu:=qnS (cs:=ds) i (gD ds i) (by omega) rfl
 have hown:qae 1 (.own 4 (r.length+1) 1) (r.length:Int)=some (.eptr 4 (r.length+1) r.length):=qy4 4 (r.length+1) r.length (by omega)
 have hou:qaj (qdB (r.map (fun (i:Nat)=>(i:Int))++[(i:Int)])) r.length 1=some [V.int i]:=qnS r.length _ (by simp) (by simp[qrT,WB])
 have w1:IntKind.i64.wrap (r.length:Int)=r.length:=qai _ (by simp at hol; omega)
 have w2:IntKind.i64.wrap (gD ds i-1)=gD ds i-1:=qai _ (by omega)
 have w3:IntKind.i64.wrap (qd7 op-qfL op)=qd7 op-qfL op:=by rw[hop]; exact qai _ (by omega)
 have w4:IntKind.i64.wrap (gD ds i-1+(qd7 op-qfL op))=dp:=by rw[hop,<- hra]; exact qai _ (by omega)
 rw[<- hop] at hloop
 have bn1:bound (some (V.int r.length)) (r.length+1) (r.length+1)=some r.length:=by simp[bound]; omega
 have bn2 : ∀ h,bound none 0 h=some 0:=fun h=>by simp[bound]
 have tk:(qdB (r.map (fun (i:Nat)=>(i:Int))++[(i:Int)])).take r.length=qdB (r.map fun (i:Nat)=>(i:Int)):=by
  rw[qqP]; congr 1; rw[List.take_append_of_le_length (by simp),Wz (by simp)]
 have gpos:0<(r.length:Int)+1:=by omega
 have hir:(i:Int)<c.length:=by omega
 have hop22:(op:Int)<22:=by omega
 have hol':r.length+1<2^29:=by simpa using hol
 simp only[pgD] at hsu
 have key : ∀ (BR:Bool) (DM:Int),BR=(br||decide (gD ds i-1<qfL op))->DM=max depth dp ->
   Z qad (.loop 0 F139l1 [(2,.ptr 0 0),(4,.ptr 1 0),(5,.ptr 2 0),(6,.msl 3 0 c.length c.length 1),(7,.own 5 r.length 1),(10,.int dp),(68,.dat (qv9 c i)),(69,.int (qgM c i).length),(70,.int 0)]
    [.cells [.dat d,.int e0,.int e1,.int e2],.cells [.bool false,.bool false,.int 0],.cells [.bool fl,.bool BR,.int DM],.cells (qdB ds),.dead,.vec (qdB (r.map fun (i:Nat)=>(i:Int))),.cells [.int (qfL op),.int (qd7 op)]]) =
   some (.out (.exit 2) (bFr c.length R.op.length dp (qv9 c i) (qgM c i).length (qgM c i).length++[(71,.bool false)]) (aS d e0 e1 e2 R)):=fun BR DM e1' e2'=>by
  rw[<- hloop]
  refine qag ?_
  rw[<- e1',<- e2']
  simp[bFr,aS,Wa,h1,h2]
 have fin:=qr5 d e0 e1 e2 R c.length R.op.length dp (qv9 c i) (qgM c i).length (qgM c i).length false
 by_cases hbr:gD ds i-1<qfL op
 ·by_cases hmx:depth<dp
  ·have hl3:=key true dp (by simp[hbr]) (by omega)
   rw[qaa,<- fin]
   simp only[bFr] at hl3 ⊢
   simp[qac,qfr,aFr,aS,pgD,Wa,hlen,h1,h2,hat,hcut,heff,hsu,hm,hu,hown,hou,w1,w2,w3,w4,hbr,hmx,qi8,qno,gpos,hop22,hr2,qg6,bn1,bn2,tk,hl3]
  ·have hl3:=key true depth (by simp[hbr]) (by omega)
   rw[qaa,<- fin]
   simp only[bFr] at hl3 ⊢
   simp[qac,qfr,aFr,aS,pgD,Wa,hlen,h1,h2,hat,hcut,heff,hsu,hm,hu,hown,hou,w1,w2,w3,w4,hbr,hmx,qi8,qno,gpos,hop22,hr2,qg6,bn1,bn2,tk,hl3]
 ·by_cases hmx:depth<dp
  ·have hl3:=key br dp (by simp[hbr]) (by omega)
   rw[qaa,<- fin]
   simp only[bFr] at hl3 ⊢
   simp[qac,qfr,aFr,aS,pgD,Wa,hlen,h1,h2,hat,hcut,heff,hsu,hm,hu,hown,hou,w1,w2,w3,w4,hbr,hmx,qi8,qno,gpos,hop22,hr2,qg6,bn1,bn2,tk,hl3]
  ·have hl3:=key br depth (by simp[hbr]) (by omega)
   rw[qaa,<- fin]
   simp only[bFr] at hl3 ⊢
   simp[qac,qfr,aFr,aS,pgD,Wa,hlen,h1,h2,hat,hcut,heff,hsu,hm,hu,hown,hou,w1,w2,w3,w4,hbr,hmx,qi8,qno,gpos,hop22,hr2,qg6,bn1,bn2,tk,hl3]
end
end
section
open F Gr
theorem qxd{n:Nat}{dd b:Int}{a:An}{j:Int}(hd:dd<=b)(hb:0<=b)(h : ∀ i,gD a.ds i<=b+1) : ∀ i,gD (Gr.one n dd a j).ds i<=b+1:=by
 intro i
 unfold Gr.one
 split
 ·exact h i
 ·split
  ·by_cases hij:j.toNat=i
   ·subst hij
    by_cases hl:j.toNat<a.ds.length
    ·simp only; rw[qgs hl]; omega
    ·simp only
     rw[List.set_eq_of_length_le (by omega)]; exact h _
   ·simp only; rw[qgt hij]; exact h i
  ·split<;>exact h i
theorem qon{n:Nat}{dd b:Int}(hd:dd<=b)(hb:0<=b) : ∀ (l:List Int) (a:An),(∀ i,gD a.ds i<=b+1) -> ∀ i,gD (l.foldl (Gr.one n dd) a).ds i<=b+1
 |[],a,h=>h
 |j::l,a,h=>qon hd hb l _ (qxd hd hb h)
theorem qxe{c:Cd}{a:An}{i:Nat}{r:List Nat}{b:Int}(hb:0<=b)(h : ∀ i,gD a.ds i<=b) : ∀ k,gD (stp c a i r).ds k<=b+1:=by
 have hp:=qnr (opA c i)
 have hq:=qgr (opA c i)
 unfold stp
 refine qon (b:=b) ?_ hb _ _ (fun k=>?_)
 ·have:=h i
  unfold aft
  omega
 ·have:=h k
  simp only
  omega
section
variable{d:D}{c:Cd}{e0 e1 e2:Int}
theorem quy(hd:IsCode d c){a:An}(ho:a.op=[]):Z qad (.loop 0 F139l0 (aFr c.length a.op.length) (aS d e0 e1 e2 a))=some (.out (.exit 0) (aFr c.length 0++[(24,.bool false)]) (aS d e0 e1 e2 a)):=by
 obtain⟨fl,br,depth,ds,op⟩:=a
 simp only at ho
 subst ho
 have e:F139l0 = .seq F139a F139b:=rfl
 rw[qaa,e]
 simp[qac,F139a_eq,aFr,aS,Wa,qg6,hd.one,hd.cells]
theorem qxf (hd:IsCode d c) (hf:qrR c) (hops : ∀ i,i<c.length->1<=opA c i/\opA c i<=21) (hcl:c.length<2^27) {e:Nat} (he:e<c.length) (m:Nat) : ∀ (a:An) (b:Int),mu a<=m->Inv c e none [] a->0<=b->b+m<2^38->m<2^29->(∀ i,gD a.ds i<=b) ->
  ∃ a',Inv c e none [] a'/\a'.op=[]/\Z qad (.loop 0 F139l0 (aFr c.length a.op.length) (aS d e0 e1 e2 a))=some (.out (.exit 0) (aFr c.length 0++[(24,.bool false)]) (aS d e0 e1 e2 a')):=by
 induction m with
 |zero=>
  intro a b hm hi hb hbm hm2 hall
  have ho:a.op=[]:=List.length_eq_zero_iff.1 (by unfold mu at hm; omega)
  exact⟨a,hi,ho,quy hd ho⟩
 |succ m ih=>
  intro a b hm hi hb hbm hm2 hall
  by_cases ho:a.op=[]
  ·exact⟨a,hi,ho,quy hd ho⟩
  ·obtain⟨r,i,hr⟩ : ∃ r i,a.op=r++[i]:=⟨a.op.dropLast,a.op.getLast ho,(List.dropLast_concat_getLast ho).symm⟩
   have hio:=hi.opn i (by rw[hr]; simp)
   have hpos:=hi.pos i hio.1 hio.2
   have hmu:=qyB hf hi.len hio.1 hr
   obtain⟨a',q1,q2,q3⟩:=ih (stp c a i r) (b+1) (by omega) (qvA hf hi hr) (by omega) (by omega) (by omega) (qxe hb hall)
   refine⟨a',q1,q2,?_⟩
   rw[quR hd hf hops (by omega) hr hio.1 hi.len (by unfold mu at hm; omega) ⟨hpos.1,by have:=hall i; omega⟩]
   exact q3
theorem qtF (hd:IsCode d c) (hf:qrR c) (hops : ∀ i,i<c.length->1<=opA c i/\opA c i<=21) (hcl:c.length<2^27) {e:Nat} (he:e<c.length) :
  ∃ fl br dp,AnaRes c e fl br dp/\Z qad (.call 139 [pgD d e0 e1 e2,.int e] [])=some (.ret (.dat (.agg [.lit (.bool fl),.lit (.bool br),.lit (.int .i64 dp)])) []):=by
 have hmu:mu (an0 c e)<=2*c.length+1:=by
  have:((List.replicate c.length (0:Int)).set e 1).count 0<=((List.replicate c.length (0:Int)).set e 1).length:=List.count_le_length
  simp only[mu,an0,Wh]
  simp only[List.length_set,List.length_replicate] at this
  omega
 have hall : ∀ i,gD (an0 c e).ds i<=1:=fun i=>by
  unfold an0
  simp only
  by_cases h:e=i
  ·subst h; rw[qgs (by simpa using he)]; exact Int.le_refl _
  ·rw[qgt h,qql]; omega
 obtain⟨a,h1,h2,h3⟩:=qxf (e0:=e0) (e1:=e1) (e2:=e2) hd hf hops hcl he (2*c.length+1) (an0 c e) 1 hmu (qvB he) (by omega) (by omega) (by omega) hall
 obtain⟨f1,f2,f3⟩:=qvC he h1 h2
 refine⟨a.falls,a.breaks,a.depth,⟨f1,f2,f3⟩,?_⟩
 have hlen:=hd.len
 have ho:=hd.one
 have hc:=hd.cells
 have k1:(c.length:Int)<=1099511627776/\8*(c.length:Int)<=281474976710656:=by omega
 have k2:8*c.length<=281474976710656:=by omega
 have hm:qae 1 (.msl 3 0 c.length c.length 1) e=some (.ptr 3 e):=by
  have a2:(e:Int)<c.length:=by omega
  simp[qae,a2]
 have hse:(qdB (List.replicate c.length 0)).take e++(V.int 1::(qdB (List.replicate c.length 0)).drop (e+1))=qdB ((List.replicate c.length 0).set e 1):=qnQ _ e 1 (by simpa using he)
 have hel:e+1<=c.length:=he
 have hone:qdB (([e]:List Nat).map fun (i:Nat)=>(i:Int))=[V.int e]:=rfl
 refine qab (pf:=F139) rfl rfl ?_
 simp only[aFr,aS,an0,Wh,hone] at h3
 simp[F139,pgD,qqQ,k1,k2,hlen,ho,hc,hm,hse,hel,h3,Wa]
end
theorem qoo(fl br:Bool)(dp:Int):Z qad (.call 140 [.dat (.agg [.lit (.bool fl),.lit (.bool br),.lit (.int .i64 dp)])] [])=some (.ret (.bool (!br&&decide (dp<=16))) []):=by
 refine qab (pf:=F140) rfl rfl ?_
 cases br
 ·simp[F140,Wa]
 ·simp[F140,Wa]
end
section
open F Gr
def qdO(op:Int):Bool:=decide (1<=op)&&decide (op<=21)
def qvG(op n len:Int):Bool:=
 if op=1 then decide (-2147483647<=n)&&decide (n<=2147483647)
 else if op=2\/op=3 then decide (0<=n)&&decide (n<=15)
 else if op=4 then decide (0<=n)&&decide (n<=7)
 else if op=5 then decide (0<=n)&&decide (n<=5)
 else if op=18\/op=19 then decide (0<=n)&&decide (n<=len-1)
 else qdO op&&decide (n=0)
theorem qvH(op:Int):Z qad (.call 163 [.int op] [])=some (.ret (.bool (qdO op)) []):=by
 refine qab (pf:=F163) rfl rfl ?_
 unfold qdO
 by_cases h:1<=op
 ·simp[F163,h]
 ·simp[F163,h]
theorem qvI(op n len:Int)(hl:0<=len/\len<2^40):Z qad (.call 138 [.dat (.agg [.lit (.int .i64 op),.lit (.int .i64 n)]),.int len] [])=some (.ret (.bool (qdO op&&qvG op n len)) []):=by
 have zk:=qvH op
 have w:=qai (len-1) (by omega)
 refine qab (pf:=F138) rfl rfl ?_
 cases hk:qdO op with
 |false=>rw[hk] at zk; simp[F138,zk,Wa]
 |true=>
  rw[hk] at zk
  rw[Bool.true_and]
  unfold qvG
  by_cases h1:op=1
  ·subst h1
   by_cases a : -2147483647<=n
   ·simp[F138,zk,Wa,a,w]
   ·simp[F138,zk,Wa,a,w]
  by_cases h2:op=2
  ·subst h2
   by_cases a:0<=n
   ·simp[F138,zk,Wa,a,w]
   ·simp[F138,zk,Wa,a,w]
  by_cases h3:op=3
  ·subst h3
   by_cases a:0<=n
   ·simp[F138,zk,Wa,a,w]
   ·simp[F138,zk,Wa,a,w]
  by_cases h4:op=4
  ·subst h4
   by_cases a:0<=n
   ·simp[F138,zk,Wa,a,w]
   ·simp[F138,zk,Wa,a,w]
  by_cases h5:op=5
  ·subst h5
   by_cases a:0<=n
   ·simp[F138,zk,Wa,a,w]
   ·simp[F138,zk,Wa,a,w]
  by_cases h18:op=18
  ·subst h18
   by_cases a:0<=n
   ·simp[F138,zk,Wa,a,w]
   ·simp[F138,zk,Wa,a,w]
  by_cases h19:op=19
  ·subst h19
   by_cases a:0<=n
   ·simp[F138,zk,Wa,a,w]
   ·simp[F138,zk,Wa,a,w]
  by_cases a:0<=n
  ·have e:decide (n=0)=decide (n<=0):=by
    by_cases b:n<=0
    ·have:n=0:=by omega
     simp[this]
    ·have : ¬ n=0:=by omega
     simp[this,b]
   rw[e]
   simp[F138,zk,Wa,a,h1,h2,h3,h4,h5,h18,h19,hk]
  ·have : ¬ n=0:=by omega
   simp[F138,zk,Wa,a,h1,h2,h3,h4,h5,h18,h19,hk,this]
end
end Go.Pm
