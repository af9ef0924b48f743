/- Chapter 13's parser on printed trees: statements and blocks. -/
import Derived.Test.YtebnoobfoajkbaaGreatDoorPmAL
import Derived.Test.YtebnoobfoajkbaaGreatDoorPmSd
import Derived.Test.YtebnoobfoajkbaaGreatDoorPmDl
import Derived.Test.YtebnoobfoajkbaaGreatDoorPmR
import Derived.Test.YtebnoobfoajkbaaGreatDoorPmHv
import Derived.Test.YtebnoobfoajkbaaGreatDoorPmF6r
import Derived.KernelRfl
import Derived.Test.YtebnoobfoajkbaaGreatDoorPmCm
import Derived.Test.YtebnoobfoajkbaaGreatDoorPmG1
set_option linter.unusedSimpArgs false
set_option linter.unusedVariables false
set_option maxHeartbeats 4000000
namespace Go.Pm
section
open F
section
variable(s:ByteArray)(T:List Tk)
def Sx(lv:Nat)(ts:List Tk)(b:Ss)(r:List Tk):Prop:=
 ∀ i:Nat,T.drop i=ts -> ∃ (i':Nat) (k:Int) (y:ByteArray) (d:D),T.drop i'=r/\Z tP (.call 271 [.ptr 0 0,.int lv] (PS s T i 0 12))=some (.ret (nv k y d) (PS s T i' 0 12))/\V.one (.dat d)=true/\V.cells (.dat d)=[.dat d]/\b.fo.cells=[.lit (.int .i64 k),.lit (.int .i64 0),.lit (.string y),d]/\b.fo.len=1
def Bx(lv:Nat)(ts:List Tk)(b:Ss)(r:List Tk):Prop:=
 ∀ i:Nat,T.drop i=ts -> ∃ i':Nat,T.drop i'=r/\Z tP (.call 256 [.ptr 0 0,.int lv] (PS s T i 0 12))=some (.ret (nv 7 ⟨#[]⟩ (kd false b.fo.len b.fo.cells)) (PS s T i' 0 12))
def Rx(lv:Nat)(a:Ss)(ts:List Tk)(b:Ss)(r:List Tk):Prop:=
 ∀ (i:Nat) (v:V) (σt:S),T.drop i=ts->qw0 v σt a.fo.cells a.fo.len -> ∃ (i':Nat) (t':Tk) (v':V) (σt':S),T.drop i'=t'::r/\t'.bad=0/\t'.s=qsD/\qw0 v' σt' b.fo.cells b.fo.len/\Z tP (.loop 3 F256l0 (bzF lv) (bzS s T i 0 12 v σt))=some (.out (.exit 0) (bzF lv++[(13,.bool false)]) (bzS s T i' 0 12 v' σt'))
variable{s:ByteArray}{T:List Tk}{lv:Nat}{ts r m:List Tk}{a b b1 b2:Ss}{e e':E}{x:ByteArray}{l:List ByteArray}
theorem qxH(hn:nx ts=some (bs [125])):Rx s T lv a ts a ts.tail:=fun i v σt hi hr=>by
 obtain⟨t,q,rfl,hb,hs⟩:=qhA hn
 exact⟨i,t,v,σt,hi,hb,hs,hr,qyA hi hb hs hr⟩
theorem qgM(hn:nx ts=some x)(hx:x≠bs [125])(hl:a.fo.len<=2 ^ 40)(h:Sx s T lv ts b1 m)(h2:Rx s T lv (a.app b1) m b r):Rx s T lv a ts b r:=fun i v σt hi hr=>by
 obtain⟨i1,k,y,d,a1,z,o1,o2,c1,c2⟩:=h i hi
 obtain⟨t,q,rfl,hb,rfl⟩:=qhA hn
 obtain⟨v',σt',r1,r2⟩:=qsE hi hb hx hr hl o1 o2 z
 obtain⟨i3,t3,v3,σ3,e1,e2,e3,e4,e5⟩:=h2 i1 v' σt' a1 (by rw[qiD,qhr,qdy,c1,c2]; exact r1)
 exact⟨i3,t3,v3,σ3,e1,e2,e3,e4,r2.trans e5⟩
theorem qxI(hT:T.length<2 ^ 40)(hlv:lv<=20)(hn:nx ts=some (bs [123]))(h:Rx s T lv .nil ts.tail b r):Bx s T lv ts b r:=fun i hi=>by
 obtain⟨a1,zo⟩:=pop (s:=s) hT (by decide) hn hi hlv
 obtain⟨i3,t3,v3,σ3,e1,e2,e3,e4,e5⟩:=h _ _ [] a1 (.inl ⟨rfl,rfl,rfl,rfl⟩)
 exact⟨i3+1,qhB e1,qAW hT zo e4 e5 e1 e2 e3⟩
theorem qj4(hT:T.length<2 ^ 40)(hn:nx ts=some (bs [59])){i:Nat}(hi:T.drop i=ts){k:Int}{y:ByteArray}{d:D}(od:V.one (.dat d)=true)(oc:V.cells (.dat d)=[.dat d]):Z tP (.call 278 [.ptr 0 0,nv k y d] (PS s T i 0 12))=some (.ret (nv k y d) (PS s T ((i+1:Nat):Int) 0 12)):=
 qzN od oc (pex hT (by decide) hn hi).2
theorem ex1(hT:T.length<2 ^ 40)(hg:e.good)(hx : ∀ o:Bop,o.str≠x)(h:Hx (e.tx false 1++x::l) ts r)(hl:lv+e.nest false 1<=20) : ∃ mid,Px s T 279 lv ts (e.fl true) mid/\nx mid=some x/\Hx l mid.tail r/\Hx (x::l) mid r:=by
 obtain⟨mid,h1,h2⟩:=hx_app.1 h
 obtain⟨h3,h4⟩:=qcQ h2
 exact⟨mid,(rbZ (s:=s) hT e hg).1 1 lv ts mid (by omega) (by omega) h1 hl (qyb x hx h2),h3,h4,h2⟩
theorem qpr(hT:T.length<2 ^ 40)(hlv:lv<=20)(hg:qpZ x)(hn:nx ts=some x)(h1:nx ts.tail=some (bs [61]))(he:Px s T 279 lv ts.tail.tail e m)(h2:nx m=some (bs [59])):Sx s T lv ts (.assign true x e .nil) m.tail:=fun i hi=>by
 obtain⟨t,q,rfl,hb,rfl⟩:=qhA hn
 obtain⟨a1,z1⟩:=pex (s:=s) hT (by decide) h1 (qhB hi)
 obtain⟨i2,a2,z2⟩:=he _ a1
 have z3:=qj4 (s:=s) hT h2 a2 (k:=1) (y:=t.s) (d := .sl (cE e) 1 true) rfl rfl
 have hk:kindT t=1:=by rw[qcO hb,qj3,if_neg (qgj hg.2.1),if_pos hg.2.1,if_neg hg.2.2.1,if_neg hg.2.2.2]
 exact⟨_,_,_,_,(pex (s:=s) hT (by decide) h2 a2).1,qlV hlv hT hi hb hk z1 z2 z3,rfl,rfl,by simp[Ss.fo],by simp[Ss.fo]⟩
theorem kd2{t:Tk}(hb:t.bad=0)(h:qj3 t.s=2):decide (kindT t=1)=false/\decide (kindT t=3)=false:=by rw[qcO hb,h]; decide
theorem qrD(hT:T.length<2 ^ 40)(hlv:lv+1<=20)(hg:x∈fieldNames)(hn:nx ts=some x){m1 m2:List Tk}(hi:Px s T 280 lv ts e m1)(h1:nx m1=some (bs [61]))(he:Px s T 279 lv m1.tail e' m2)(h2:nx m2=some (bs [59])):Sx s T lv ts (.store true x e e' .nil) m2.tail:=fun i ht=>by
 obtain⟨i1,a1,z1⟩:=hi i ht
 obtain⟨a2,z2⟩:=pex (s:=s) hT (by decide) h1 a1
 obtain⟨i3,a3,z3⟩:=he _ a2
 obtain⟨t,q,rfl,hb,rfl⟩:=qhA hn
 have z4:=qj4 (s:=s) hT h2 a3 (k:=2) (y:=t.s) (d := .sl (cE e++cE e') 2 true) rfl rfl
 have hall : ∀ w∈fieldNames,qj3 w=3:=by decide
 exact⟨_,_,_,_,(pex (s:=s) hT (by decide) h2 a3).1,qnP (by omega) hT ht hb (by rw[qcO hb,hall _ hg]) z1 z2 z3 z4,rfl,rfl,by simp[Ss.fo],by simp[Ss.fo]⟩
theorem qps(hT:T.length<2 ^ 40)(hlv:lv<=20)(hn:nx ts=some qke){m1 m2:List Tk}(h:Px s T 279 lv ts.tail e m1)(h1:nx m1=some (bs [44]))(he:Px s T 279 lv m1.tail e' m2)(h2:nx m2=some (bs [59])):Sx s T lv ts (.effect true e e' .nil) m2.tail:=fun i ht=>by
 obtain⟨t,q,rfl,hb,hs⟩:=qhA hn
 obtain⟨i1,a1,z1⟩:=h _ (qhB ht)
 obtain⟨a2,z2⟩:=pex (s:=s) hT (by decide) h1 a1
 obtain⟨i3,a3,z3⟩:=he _ a2
 have z4:=qj4 (s:=s) hT h2 a3 (k:=5) (y:=⟨#[]⟩) (d := .sl (cE e++cE e') 2 true) rfl rfl
 have hk:=kd2 hb (by rw[hs]; decide)
 exact⟨_,_,_,_,(pex (s:=s) hT (by decide) h2 a3).1,qlW hlv hT ht hb hk.1 hk.2 hs z1 z2 z3 z4,rfl,rfl,by simp[Ss.fo],by simp[Ss.fo]⟩
theorem quT(hT:T.length<2 ^ 40)(hlv:lv<=20)(hn:nx ts=some qsm)(h2:nx ts.tail=some (bs [59])):Sx s T lv ts (.stop .nil) ts.tail.tail:=fun i ht=>by
 obtain⟨t,q,rfl,hb,hs⟩:=qhA hn
 have hk:=kd2 hb (by rw[hs]; decide)
 have a3:=qhB ht
 have z4:=qj4 (s:=s) hT h2 a3 (k:=6) (y:=⟨#[]⟩) (d := .lit (.slice none 0 0)) rfl rfl
 exact⟨_,_,_,_,(pex (s:=s) hT (by decide) h2 a3).1,qo7 hlv hT ht hb hk.1 hk.2 hs z4,rfl,rfl,by simp[Ss.fo],by simp[Ss.fo]⟩
theorem qrE(hT:T.length<2 ^ 40)(hlv:lv<=20)(hn:nx ts=some qnf)(h:Px s T 279 lv ts.tail e m)(h2:Bx s T (lv+1) m b r):Sx s T lv ts (.cond true true e (.block false b .nil) .nil) r:=fun i ht=>by
 obtain⟨t,q,rfl,hb,hs⟩:=qhA hn
 have hk:=kd2 hb (by rw[hs]; decide)
 obtain⟨i1,a1,z1⟩:=h _ (qhB ht)
 obtain⟨i2,a2,z2⟩:=h2 _ a1
 exact⟨_,_,_,_,a2,qnQ hlv hT ht hb hk.1 hk.2 hs (by simp) (by simp) z1 z2,rfl,rfl,by simp[Ss.fo],by simp[Ss.fo]⟩
theorem qAc(hT:T.length<2 ^ 40)(hlv:lv<=20)(hn:nx ts=some ifS)(h:Px s T 279 lv ts.tail e m){m1:List Tk}(h2:Bx s T (lv+1) m b1 m1)(hel:(nx m1=some qkd/\Bx s T (lv+1) m1.tail b2 r)\/(∃ x,nx m1=some x/\x≠qkd/\b2 = .nil/\r=m1)):Sx s T lv ts (.cond false true e (.block false b1 (.block false b2 .nil)) .nil) r:=fun i ht=>by
 obtain⟨a0,z0⟩:=pex (s:=s) hT (by decide) hn ht
 obtain⟨t,q,rfl,hb,hs⟩:=qhA hn
 have hk:=kd2 hb (by rw[hs]; decide)
 obtain⟨i1,a1,z1⟩:=h _ a0
 obtain⟨i2,a2,z2⟩:=h2 _ a1
 rcases hel with ⟨h3,h4⟩|⟨x,h3,h4,rfl,rfl⟩
 ·obtain⟨t2,q2,rfl,hb2,hs2⟩:=qhA h3
  obtain⟨i3,a3,z3⟩:=h4 _ (qhB a2)
  exact⟨_,_,_,_,a3,qo6 hlv hT ht hb hk.1 hk.2 hs rfl rfl (qAH hlv (by simp) (by simp) z0 z1 z2 (by simp) (by simp) hT a2 hb2 hs2 z3),rfl,rfl,by simp[Ss.fo],by simp[Ss.fo]⟩
 ·obtain⟨t2,q2,rfl,hb2,rfl⟩:=qhA h3
  exact⟨_,_,_,_,a2,qo6 hlv hT ht hb hk.1 hk.2 hs rfl rfl (qAG hlv (by simp) (by simp) z0 z1 z2 a2 hb2 h4),rfl,rfl,by simp[Ss.fo],by simp[Ss.fo]⟩
def qBA(s:ByteArray)(T:List Tk):Ss->Prop
 |.block _ b r=>(∀ lv ts q,Hx (bs [123]::(b.tx++[bs [125]])) ts q->lv+b.nest<=20->b.tx.length<=2 ^ 40->Bx s T lv ts (b.fl true true false) q)/\qBA s T r
 |_=>True
theorem qB2 (hT:T.length<2 ^ 40) : ∀ z:Ss,
  (z.good none -> ∀ lv a ts r,Hx (z.tx++[bs [125]]) ts r->lv+z.nest<=20->a.fo.len+z.tx.length<=2 ^ 40->Rx s T lv a ts (a.app (z.fl true true false)) r) /\
  ((∃ k,z.good (some k))->qBA s T z):=by
 have one : ∀ {f:Ss} {a:Ss} {n:Nat},f.fo.len=1->a.fo.len+(n+1)<=2 ^ 40->(a.app f).fo.len+n<=2 ^ 40:=fun h1 h2=>by rw[qiD,qdy,h1]; omega
 intro z
 induction z with
 |nil=>
  refine⟨fun _ lv a ts r hx hl _=>?_,fun _=>trivial⟩
  obtain⟨hn,ht⟩:=qcQ hx
  cases ht
  rw[Ss.fl,qoi]
  exact qxH hn
 |assign g w e r ih=>
  refine⟨fun hg lv a ts q hx hl hc=>?_,fun _=>trivial⟩
  obtain⟨-,g1,g2,g3⟩:=hg
  simp only[Ss.nest] at hl
  simp only[Ss.tx,Wi,Wf,We,Wb] at hx hc
  obtain⟨hn,h1⟩:=qcQ hx
  obtain⟨hn1,h2⟩:=qcQ h1
  obtain⟨mid,h3,h4,h5,h5'⟩:=ex1 (s:=s) hT g2 (by intro o; cases o<;>decide) h2 (lv:=lv) (by omega)
  have:=ih.1 g3 lv (a.app (.assign true w (e.fl true) .nil)) mid.tail q h5 (by omega) (one (by simp[Ss.fo]) (by omega))
  rw[qcA] at this
  exact qgM hn (qmf g1 (.inr (.inr (by decide)))) (by omega) (qpr hT (by omega) g1 hn hn1 h3 h4) this
 |store g w x y r ih=>
  refine⟨fun hg lv a ts q hx hl hc=>?_,fun _=>trivial⟩
  obtain⟨-,g1,g2,g3,g4⟩:=hg
  simp only[Ss.nest] at hl
  simp only[Ss.tx,Wi,Wf,We,Wb] at hx hc
  obtain⟨hn,h1⟩:=qcQ hx
  obtain⟨hn1,h2⟩:=qcQ h1
  obtain⟨mid,h3,h4,h5,h5'⟩:=ex1 (s:=s) hT g2 (by intro o; cases o<;>decide) h2 (lv:=lv+1) (by omega)
  obtain⟨hn5,h6⟩:=qcQ h5
  obtain⟨mid2,h7,h8,h9,-⟩:=ex1 (s:=s) hT g3 (by intro o; cases o<;>decide) h6 (lv:=lv) (by omega)
  have:=ih.1 g4 lv (a.app (.store true w (x.fl true) (y.fl true) .nil)) mid2.tail q h9 (by omega) (one (by simp[Ss.fo]) (by omega))
  rw[qcA] at this
  obtain⟨t,q',rfl,hb,_⟩:=qhA hn
  exact qgM hn (qkf g1 (by decide)) (by omega) (qrD hT (by omega) g1 hn (qx8 hT (by omega) hb hn1 h3 h4) hn5 h7 h8) this
 |effect g x y r ih=>
  refine⟨fun hg lv a ts q hx hl hc=>?_,fun _=>trivial⟩
  obtain⟨-,g2,g3,g4⟩:=hg
  simp only[Ss.nest] at hl
  simp only[Ss.tx,Wi,Wf,We,Wb] at hx hc
  obtain⟨hn,h1⟩:=qcQ hx
  obtain⟨mid,h3,h4,h5,h5'⟩:=ex1 (s:=s) hT g2 (by intro o; cases o<;>decide) h1 (lv:=lv) (by omega)
  obtain⟨mid2,h7,h8,h9,-⟩:=ex1 (s:=s) hT g3 (by intro o; cases o<;>decide) h5 (lv:=lv) (by omega)
  have:=ih.1 g4 lv (a.app (.effect true (x.fl true) (y.fl true) .nil)) mid2.tail q h9 (by omega) (one (by simp[Ss.fo]) (by omega))
  rw[qcA] at this
  exact qgM hn (by decide) (by omega) (qps hT (by omega) hn h3 h4 h7 h8) this
 |stop r ih=>
  refine⟨fun hg lv a ts q hx hl hc=>?_,fun _=>trivial⟩
  obtain⟨-,g4⟩:=hg
  simp only[Ss.nest] at hl
  simp only[Ss.tx,Wi,Wf,We,Wb] at hx hc
  obtain⟨hn,h1⟩:=qcQ hx
  obtain⟨hn1,h2⟩:=qcQ h1
  have:=ih.1 g4 lv (a.app (.stop .nil)) ts.tail.tail q h2 (by omega) (one (by simp[Ss.fo]) (by omega))
  rw[qcA] at this
  exact qgM hn (by decide) (by omega) (quT hT (by omega) hn hn1) this
 |cond w g c b r ihb ih=>
  refine⟨fun hg lv a ts q hx hl hc=>?_,fun _=>trivial⟩
  obtain⟨-,g2,g3,g4⟩:=hg
  have hrow:=ihb.2 ⟨_,g3⟩
  have nil1 : ∀ {b:Ss},b.good (some 0)->b = .nil:=fun {b} h=>by
   cases b with
   |nil=>rfl
   |block=>obtain⟨k,hk,_⟩:=h; cases hk
   |_=>exact absurd h.1 (by simp)
  have blk : ∀ {b:Ss} {k:Nat},b.good (some (k+1)) -> ∃ f b1 b',b = .block f b1 b'/\b'.good (some k):=fun {b} {k} h=>by
   cases b with
   |nil=>rcases h with h|h<;>cases h
   |block f b1 b'=>obtain⟨n,hn,_,h⟩:=h; cases hn; exact⟨_,_,_,rfl,h⟩
   |_=>exact absurd h.1 (by simp)
  have split1 : ∀ (b1:Ss) {l:List ByteArray} {mid:List Tk},Hx (bs [123]::(b1.tx++bs [125]::l)) mid q -> ∃ m2,Hx (bs [123]::(b1.tx++[bs [125]])) mid m2/\Hx l m2 q:=fun b1 l mid h=>by
   rw[show bs [123]::(b1.tx++bs [125]::l)=(bs [123]::(b1.tx++[bs [125]]))++l by simp] at h
   exact hx_app.1 h
  simp only[Ss.nest] at hl
  simp only[Ss.tx,Wi,Wf,We,Wb] at hx hc
  obtain⟨hn,h1⟩:=qcQ hx
  cases w with
  |true=>
   simp only[if_true] at g3 hn
   obtain⟨f1,b1,b',rfl,g5⟩:=blk g3
   obtain rfl:=nil1 g5
   simp only[Ss.tx,qiu,Wp,if_false,Wm,Wi,Wf,We,Wb,Ss.nest] at h1 hc hl
   obtain⟨mid,h3,h4,h5,h5'⟩:=ex1 (s:=s) hT g2 (by intro o; cases o<;>decide) h1 (lv:=lv) (by omega)
   obtain⟨m2,h6,h7⟩:=split1 b1 h5'
   have:=ih.1 g4 lv (a.app (.cond true true (c.fl true) (.block false (b1.fl true true false) .nil) .nil)) m2 q h7 (by omega) (one (by simp[Ss.fo]) (by omega))
   rw[qcA] at this
   exact qgM hn (by decide) (by omega) (qrE hT (by omega) hn h3 (hrow.1 (lv+1) mid m2 h6 (by omega) (by omega))) this
  |false=>
   simp only[Wp,if_false] at g3 hn
   obtain⟨f1,b1,b',rfl,g5⟩:=blk g3
   obtain⟨f2,b2,b'',rfl,g6⟩:=blk g5
   obtain rfl:=nil1 g6
   simp only[Ss.tx,Wi,Wf,We,Wb,Ss.nest] at h1 hc hl
   obtain⟨mid,h3,h4,h5,h5'⟩:=ex1 (s:=s) hT g2 (by intro o; cases o<;>decide) h1 (lv:=lv) (by omega)
   obtain⟨m2,h6,h7⟩:=split1 b1 h5'
   have hb1:=hrow.1 (lv+1) mid m2 h6 (by omega) (by omega)
   have fin : ∀ m3,Hx (r.tx++[bs [125]]) m3 q->((nx m2=some qkd/\Bx s T (lv+1) m2.tail (b2.fl true true false) m3)\/(∃ x,nx m2=some x/\x≠qkd/\b2.fl true true false = .nil/\m3=m2))->Rx s T lv a ts (a.app ((Ss.cond false g c (.block f1 b1 (.block f2 b2 .nil)) r).fl true true false)) q:=fun m3 h8 h9=>by
    have:=ih.1 g4 lv (a.app (.cond false true (c.fl true) (.block false (b1.fl true true false) (.block false (b2.fl true true false) .nil)) .nil)) m3 q h8 (by omega) (one (by simp[Ss.fo]) (by omega))
    rw[qcA] at this
    exact qgM hn (by decide) (by omega) (qAc hT (by omega) hn h3 hb1 h9) this
   by_cases he:qiu (.block f2 b2 .nil)=true
   ·rw[if_pos he] at h7 hc
    simp only[Wi,Wf,qiu,Wp,if_false,Wc,We,Wb] at h7 hc
    obtain⟨hn6,h8⟩:=qcQ h7
    obtain⟨m3,h9,h10⟩:=split1 b2 h8
    exact fin m3 h10 (.inl ⟨hn6,hrow.2.1 (lv+1) _ m3 h9 (by omega) (by omega)⟩)
   ·rw[if_neg he,Wc] at h7
    have hb2:b2 = .nil:=by cases b2<;>first|rfl|exact absurd rfl he
    subst hb2
    obtain⟨x,l,q1,q2,-⟩:=qvp r g4
    exact fin m2 h7 (.inr ⟨x,by rw[q1] at h7; exact (qcQ h7).1,q2,rfl,rfl⟩)
 |block g b r ihb ihr=>
  refine⟨fun hg=>(by obtain⟨k,hk,_⟩:=hg; cases hk),fun hg=>?_⟩
  obtain⟨k,k',hk,g1,g2⟩:=hg
  refine⟨fun lv ts q hx hl hc=>?_,ihr.2 ⟨_,g2⟩⟩
  obtain⟨hn,ht⟩:=qcQ hx
  exact qxI hT (by omega) hn (ihb.1 g1 lv .nil ts.tail q ht hl (by show 0+_<=_; omega))
end
end
section
open F
section
variable{s:ByteArray}{T:List Tk}
def Gx(s:ByteArray)(T:List Tk)(h:Nat->Option Ss)(ts:List Tk)(h':Nat->Option Ss)(r:List Tk):Prop:=
 ∀ i:Nat,T.drop i=ts -> ∃ i':Nat,T.drop i'=r/\Z tP (.loop 3 F242l0 pgF (pgS s T i 0 12 fun k=>qkH (h k)))=Z tP (.loop 3 F242l0 pgF (pgS s T i' 0 12 fun k=>qkH (h' k)))
theorem qpY(hT:T.length<2 ^ 40){o:Option Ss}{k:Nat}{h:Nat->Option Ss}{ts r:List Tk}(hk:k<3)(hg:qhm o)(hh:h k=none)(hl:(qjm k o).length<=2 ^ 40)(hx:Hx (qjm k o) ts r):Gx s T h ts (fun i=>if i=k then o.map (·.fl true true false) else h i) r:=fun i hi=>by
 cases o with
 |none=>
  cases hx
  refine⟨i,hi,?_⟩
  congr 4
  funext j
  show qkH (h j)=qkH (if j=k then none else h j)
  split
  ·rename_i e; rw[e,hh]
  ·rfl
 |some b=>
  obtain⟨h1,h2⟩:=qcQ hx
  obtain⟨h3,h4⟩:=qcQ h2
  obtain⟨h5,h6⟩:=qcQ h4
  simp only[qjm,We,Wb] at hl
  have hb:=hg b rfl
  obtain⟨a1,z1⟩:=pex (s:=s) hT (by decide) h1 hi
  obtain⟨t,q,rfl,hb0,hs⟩:=qhA h1
  obtain⟨t2,q2,e2,hb2,hs2⟩:=qhA h3
  have a1':=a1
  rw[e2] at a1' h5 h6
  have hB:=qxI (lv:=1) hT (by omega) h5 ((qB2 (s:=s) hT b).1 hb.1 1 .nil _ r h6 (by omega) (by show 0+_<=_; omega))
  obtain⟨i2,a2,z2⟩:=hB _ (qhB a1')
  refine⟨i2,a2,?_⟩
  have zs:=qAs (s:=s) (q:=fun k=>qkH (h k)) hT hi hb0 (by rw[hs]; decide) z1 a1' hb2 (k:=k) (by rw[hs2]; exact qka hk) (decide_eq_true (by rw[hh]; rfl)) (by simp) (by simp) z2
  rw[zs]
  congr 4
  funext j
  show qzg _ k _ j=qkH (if j=k then some (b.fl true true false) else h j)
  unfold qzg
  split<;>rfl
theorem qsk {h:Nat->Option Ss} (hg : ∀ k,qhm (h k)) (hl:s.size<=2000) {e:Nat} (hx:Hx (qdi h) (toks s) [⟨e,⟨#[]⟩,0⟩]) :
  Z tP (.call 228 [.str s] [])=some (.ret (.tup [qwb fun k=>qkH (if k<3 then (h k).map (·.fl true true false) else none),.int 0,.int 0]) []):=by
 have hlen:=qk9 s (s.size+1) 0
 have hT:(toks s).length<2 ^ 40:=by show (qdU 12 2 6 s (s.size+1) 0).length<_; omega
 have hxl : ∀ {l:List ByteArray} {ts r:List Tk},Hx l ts r->l.length<=ts.length:=by
  intro l
  induction l with
  |nil=>intros; simp
  |cons x l ih=>rintro ts r ⟨t,q,rfl,_,_,h⟩; have:=ih h; simp only[We]; omega
 have hl0:=hxl hx
 have zt:=qqB s (by omega)
 generalize toks s=T at *
 simp only[qdi,Wb] at hl0
 obtain⟨m1,x1,hx⟩:=hx_app.1 hx
 obtain⟨m2,x2,x3⟩:=hx_app.1 hx
 obtain⟨i1,a1,z1⟩:=qpY (s:=s) (h:=fun _=>none) hT (k:=0) (by omega) (hg 0) rfl (by omega) x1 0 rfl
 obtain⟨i2,a2,z2⟩:=qpY (s:=s) (h:=fun i=>if i=0 then (h 0).map (·.fl true true false) else none) hT (k:=1) (by omega) (hg 1) rfl (by omega) x2 i1 a1
 obtain⟨i3,a3,z3⟩:=qpY (s:=s) (h:=fun i=>if i=1 then (h 1).map (·.fl true true false) else if i=0 then (h 0).map (·.fl true true false) else none) hT (k:=2) (by omega) (hg 2) rfl (by omega) x3 i2 a2
 have z4:=z1.trans (z2.trans (z3.trans (qxV a3 rfl rfl)))
 have e:(fun k=>qkH (if k<3 then (h k).map (·.fl true true false) else none))=fun k=>qkH (if k=2 then (h 2).map (·.fl true true false) else if k=1 then (h 1).map (·.fl true true false) else if k=0 then (h 0).map (·.fl true true false) else none):=by
  funext k
  rcases k with _|_|_|k
  ·rfl
  ·rfl
  ·rfl
  ·rw[if_neg (by omega),if_neg (by omega),if_neg (by omega),if_neg (by omega)]
 rw[e]
 exact qs2 (by omega) zt (qn9 z4)
end
theorem qoh {h:Nat->Option Ss} (hg : ∀ k,qhm (h k)) (hl:(qav false (qdi h)).length<=2000) :
  Z tP (.call 228 [.str (bs (qav false (qdi h)))] [])=some (.ret (.tup [qwb fun k=>qkH (if k<3 then (h k).map (·.fl true true false) else none),.int 0,.int 0]) []):=by
 obtain⟨e,hx⟩:=qqU (qvj hg).ok
 exact qsk hg (by rw[qaB]; exact hl) hx
end
end Go.Pm
section
namespace Go.Pm.F
variable(C:Task->Option Res)(q:Nat)(fr:Fr)(σ : S)
def F330:PFun:=pf 3 [.tmp 4] (sr [mx 4 kF] [0,1,2] (.seq (.region (some []) [l1 5 1,nc 6 5,fa 7 0 6,l1 8 7,mv 9 0,jj 10 (.indexAddr 5 (.t 8) (.t 9)),fa 11 0 10,l1 12 11,l1 13 2,bn 14 .gtr 12 13,mv 4 14] [4]) .ret))
@[simp] def F353l0x:PC:=(sr [bn 20 .lss 19 18] [3,17,18,19,20] (.seq (.cond (.t 20) .skip (.exit 0)) (.seq (.block 1 (sr [jj 21 (.indexAddr 2 (.t 17) (.t 19)),la 22 2 21,jj 5 (.alloc [zN,zN]),st 2 5 22] [3,5,17,18,19] (rn [mv 23 3,fa 24 0 5,l1 25 24,fa 26 1 5,l1 27 26,jj 28 (.bslice 2 [zN,zN] [(0,1,(.t 25)),(1,1,(.t 27))]),jj 29 (.appendO 1 8 (.t 23) (.t 28)),mv 3 29] [3,17,18,19]))) (rn [bk 30 .add 19 1,mv 19 30] [3,17,18,19]))))
def F353l0:PC:=F353l0x
def F353:PFun:=pf 1 [.tmp 2] (sr [bx 1 0,jj 2 (.mov (.c (.int .u64 0)))] [1] (sr [fa 6 0 1,l1 7 6,ls 8 7,jj 9 (.bin .mul (kk 2) (.t 8)),jj 10 (.bin .add (kk 3) (.t 9)),jj 11 (.mkslice true [zN] 8 (kk 0) (.t 10)),mv 3 11] [1,3] (sr [mv 12 3,fa 13 1 1,jj 14 (.sliceA 3 1 (.t 13) none none),jj 15 (.appendO 1 8 (.t 12) (.t 14)),mv 3 15] [1,3] (.seq (sr [fa 16 0 1,l1 17 16,ls 18 17,mx 19 (kk 0)] [3,17,18,19] (.block 0 (.loop F353l0))) (sr [mv 31 3,jj 32 (.call 109 [(ks [112,114,111,103,114,97,109]),(.t 31)]),mv 2 32] [2] .ret)))))
end Go.Pm.F
end
section
namespace Go.Pm.F
variable(C:Task->Option Res)(q:Nat)(fr:Fr)(σ : S)
def F336:PFun:=pf 1 [.tmp 2] (sr [mx 2 kF] [0] (sr [mv 13 0,cl 14 227 [13],mv 3 14] [3] (sr [mv 16 3,cl 17 317 [16],mv 15 17,ex 18 15 0,ex 19 15 1,mv 4 18,mv 5 19] [3,4,5] (sr [mv 21 3,cl 22 228 [21],mv 20 22,ex 23 20 0,ex 24 20 1,ex 25 20 2,jj 6 (.alloc [zN,zN,eN,sN,zN,zN,eN,sN,zN,zN,eN,sN]),st 12 6 23,mv 7 24,mv 8 25] [4,5,6,8] (.seq (sr [mv 26 4,jj 27 (.isnil true false (.t 26))] [4,5,6,8,27] (cs 27 (sr [mv 28 5,bk 29 .neq 28 0,mv 30 29,jt 31 30 (.mov (.t 8)),jt 32 30 (.bin .neq (.t 31) (kk 0)),jt 33 30 (.mov (.t 32)),jf 34 33 (.load true 12 (.t 6)),jf 35 33 (.call 12 [(.t 34)]),jf 36 33 (.bin .neq (.t 35) (kk 0)),jt 37 30 (.pick (.t 33) kT (.t 36)),jt 38 30 (.mov (.t 37)),jf 39 38 (.load true 12 (.t 6)),jf 40 38 (.call 348 [(.t 39)]),jf 41 38 (.un .not (.t 40)),jt 42 30 (.pick (.t 38) kT (.t 41)),jj 43 (.pick (.t 30) (.t 42) kF),mv 44 43,jt 45 44 (.call 321 []),jj 46 (.pick (.t 44) (.t 45) kF),mv 2 46] [2] .ret))) (sr [la 48 12 6,cl 49 131 [48],mv 47 49,ex 50 47 0,ex 51 47 1,jj 9 (.alloc [sN,zN,zN,zN]),st 4 9 50,mv 10 51] [4,5,6,8,9,10] (sr [mv 53 4,jj 54 (.call 323 [(.t 53),(kk 5)]),mv 52 54,ex 55 52 0,ex 56 52 1,jj 12 (.alloc [sN,zN,zN,zN]),mv 11 55,st 4 12 56] [4,5,6,8,9,10,12] (.seq (sr [mv 57 5,bk 58 .neq 57 0,mv 59 58,jf 60 59 (.mov (.t 8)),jf 61 59 (.bin .neq (.t 60) (kk 0)),jj 62 (.pick (.t 59) kT (.t 61)),mv 63 62,jf 64 63 (.mov (.t 10)),jf 65 63 (.bin .neq (.t 64) (kk 0)),jj 66 (.pick (.t 63) kT (.t 65)),mv 67 66,jf 68 67 (.load true 12 (.t 6)),jf 69 67 (.call 12 [(.t 68)]),jf 70 67 (.bin .neq (.t 69) (kk 0)),jj 71 (.pick (.t 67) kT (.t 70)),mv 72 71,jf 73 72 (.load true 4 (.t 9)),jf 74 72 (.load true 4 (.t 12)),jf 75 72 (.call 346 [(.t 73),(.t 74)]),jf 76 72 (.un .not (.t 75)),jj 77 (.pick (.t 72) kT (.t 76)),mv 78 77,jf 79 78 (.load true 4 (.t 12)),jf 80 78 (.call 125 [(.t 79)]),jf 81 78 (.bin .neq (.t 80) (kk 0)),jj 82 (.pick (.t 78) kT (.t 81))] [4,12,82] (cs 82 (sr [mx 2 kF] [2] .ret))) (.seq (.region (some []) [mv 83 4,cl 84 343 [83],⟨some 85,.load true 4 (.t 12),none,[1]⟩,cl 86 349 [85],jj 87 (.bslice 2 [zN,zN] [(0,1,(kk 0)),(1,1,(.t 86))]),jj 88 (.call 109 [(ks [98,111,111,107]),(.t 87)]),bn 89 .eql 84 88,mv 90 89,jt 91 90 (.call 321 []),jj 92 (.pick (.t 90) (.t 91) kF),mv 2 92] [2] [3,5,8]) .ret)))))))))
end Go.Pm.F
end
section
namespace Go.Pm.F
def tB:Nat->Option PFun
 |15=>some F15
 |32=>some F32
 |38=>some F38
 |39=>some F39
 |131=>some F131
 |134=>some F134
 |139=>some F139
 |140=>some F140
 |147=>some F147
 |148=>some F148
 |164=>some F164
 |165=>some F165
 |166=>some F166
 |167=>some F167
 |168=>some F168
 |169=>some F169
 |180=>some F180
 |181=>some F181
 |182=>some F182
 |183=>some F183
 |184=>some F184
 |185=>some F185
 |186=>some F186
 |187=>some F187
 |188=>some F188
 |189=>some F189
 |190=>some F190
 |191=>some F191
 |200=>some F200
 |201=>some F201
 |204=>some F204
 |228=>some F228
 |239=>some F239
 |240=>some F240
 |241=>some F241
 |242=>some F242
 |249=>some F249
 |250=>some F250
 |251=>some F251
 |252=>some F252
 |253=>some F253
 |254=>some F254
 |255=>some F255
 |256=>some F256
 |264=>some F264
 |265=>some F265
 |266=>some F266
 |267=>some F267
 |268=>some F268
 |269=>some F269
 |270=>some F270
 |271=>some F271
 |275=>some F275
 |276=>some F276
 |277=>some F277
 |278=>some F278
 |279=>some F279
 |280=>some F280
 |281=>some F281
 |284=>some F284
 |285=>some F285
 |286=>some F286
 |287=>some F287
 |289=>some F289
 |290=>some F290
 |292=>some F292
 |297=>some F297
 |303=>some F303
 |304=>some F304
 |307=>some F307
 |308=>some F308
 |309=>some F309
 |_=>none
end Go.Pm.F
end
namespace Go.Pm
section
open F
structure Vr where
 t:Int
 c:D
 a:Int
 b:Int
 e:Int
 one:V.one (.dat c)=true
 cl:V.cells (.dat c)=[.dat c]
end
section
open F
def tH:Nat->Option PFun
 |70=>some F70
 |79=>some F79
 |80=>some F80
 |109=>some F109
 |110=>some F110
 |111=>some F111
 |112=>some F112
 |113=>some F113
 |_=>none
end
section
open Gr
structure Sl(C:Int->Cd)(n:Nat)(k M:Int)(D:Nat->Int):Prop where
 ln:Ln C n
 op : ∀ p i,i<n->opA (C p) i≠18/\opA (C p) i≠19/\opA (C p) i≠21
 beg:D 0=0
 fin:D n=k
 step : ∀ p i,i<n->D (i+1)=D i+(qdF (opA (C p) i)-qeU (opA (C p) i))
 le : ∀ i,i<n->D (i+1)<=M
 at_ : ∃ i,i<n/\D (i+1)=M
end
section
open F
def qz9:List (Value × V):=[(.string ⟨#[43]⟩,.dat (.agg [.lit (.int .i64 1),.lit (.int .i64 1)])),(.string ⟨#[45]⟩,.dat (.agg [.lit (.int .i64 1),.lit (.int .i64 1)])),(.string ⟨#[42]⟩,.dat (.agg [.lit (.int .i64 1),.lit (.int .i64 1)])),(.string ⟨#[47]⟩,.dat (.agg [.lit (.int .i64 1),.lit (.int .i64 1)])),
 (.string ⟨#[60]⟩,.dat (.agg [.lit (.int .i64 1),.lit (.int .i64 2)])),(.string ⟨#[60,61]⟩,.dat (.agg [.lit (.int .i64 1),.lit (.int .i64 2)])),(.string ⟨#[62]⟩,.dat (.agg [.lit (.int .i64 1),.lit (.int .i64 2)])),(.string ⟨#[62,61]⟩,.dat (.agg [.lit (.int .i64 1),.lit (.int .i64 2)])),
 (.string ⟨#[61,61]⟩,.dat (.agg [.lit (.int .i64 1),.lit (.int .i64 2)])),(.string ⟨#[33,61]⟩,.dat (.agg [.lit (.int .i64 1),.lit (.int .i64 2)])),(.string ⟨#[38,38]⟩,.dat (.agg [.lit (.int .i64 2),.lit (.int .i64 2)])),(.string ⟨#[124,124]⟩,.dat (.agg [.lit (.int .i64 2),.lit (.int .i64 2)]))]
@[simp] theorem qzj:qhu qz9=[]:=rfl
@[simp] theorem qAa(r:Nat->Nat):qrl r qz9=qz9:=rfl
@[simp] theorem qBv:eqS ⟨#[33]⟩ ⟨#[45]⟩=false:=by kernel_rfl
@[simp] theorem qBw:eqS ⟨#[45]⟩ ⟨#[45]⟩=true:=by kernel_rfl
@[simp] theorem qBx:ustr true=⟨#[45]⟩:=rfl
@[simp] theorem qBy:ustr false=⟨#[33]⟩:=rfl
section
variable{e a b:E}{f:Bool}{s:ByteArray}
set_option maxHeartbeats 1000000 in
end
end
section
open F
@[simp] theorem qzm:eqS ⟨#[33]⟩ ⟨#[33]⟩=true:=by kernel_rfl
@[simp] theorem qzn:eqS ⟨#[45]⟩ ⟨#[33]⟩=false:=by kernel_rfl
attribute [local simp] qad qac V.len qae
section
variable{e a b:E}{f:Bool}{s:ByteArray}
set_option maxHeartbeats 1000000 in
end
end
section
open F Gr
set_option maxHeartbeats 4000000
section
variable{prog:Nat->Option PFun}(hb:Sub qaf prog)(h14:Sub qx3 prog)(sp:Sub tP prog)(ss:Sub tS prog)(h7 : ∀ k pf,tB k=some pf->prog k=some pf)(hH : ∀ k pf,tH k=some pf->prog k=some pf)
include hb ss in
theorem qs5(h227:prog 227=some F227){v:D}{xs:List Int}(h:RowV v xs)(hx : ∀ x∈xs,I64 x) : ∃ a b c:Hd,a.gen/\b.gen/\c.gen/\a.cost+(b.cost+c.cost)<=1440/\Z prog (.call 227 [.dat v] [])=some (.ret (.str (bs (qav false (qdi (Hd.opts a b c))))) []):=by
 obtain⟨a,b,c,ha,hb',⟨hc,hco⟩,zp⟩:=qoC h hx
 refine⟨a,b,c,ha,hb',hc,hco,?_⟩
 have hl:=qnv a b c
 have zs:=qiN ss (qrG (qly ha hb' hc) (by omega))
 have zp':=qiN hb zp
 have k0:=h.one
 have k1:=h.cells
 refine qab h227 rfl ?_
 generalize bs (qav false (qdi (Hd.opts a b c)))=R at *
 generalize ru a.nd b.nd c.nd=r at *
 simp -implicitDefEqProofs [F227,zp',zs]
include hb h14 sp ss h7 hH
end
end
section
open F Gr
set_option maxHeartbeats 4000000
def cdV(K:Cd):List (Nat × Int):=K.map fun x=>(x.1.toNat,x.2)
theorem qwa{K:Cd}(h : ∀ x∈K,1<=x.1/\x.1<=21):qoM K=codeDV false (cdV K):=by
 have hc : ∀ K:Cd,(∀ x∈K,1<=x.1/\x.1<=21)->icC K=qbO (cdV K):=fun K h=>by
  induction K with
  |nil=>rfl
  |cons x K ih=>
   have h1:=(h x (WN ..)).1
   have e:icC (x::K)=[.lit (.int .i64 x.1),.lit (.int .i64 x.2)]++icC K:=rfl
   rw[e,ih fun y hy=>h y (Wz _ hy)]
   have e2:((x.1.toNat:Nat):Int)=x.1:=by omega
   simp[cdV,qbO,e2]
 cases K with
 |nil=>rfl
 |cons x K=>
  show D.sl (icC (x::K)) (x::K).length false=_
  rw[hc _ h]
  simp[codeDV,cdV]
theorem qyJ{s:Su}{c:List (Nat × Int)}{e0 e1 e2 a b f:Int}{N:Nat}{cs:List Int}{M:Option (List D × Nat)} : ∃ fr σ,Z qaa (.loop 0 F338l0 (orF a b f cs N 3) (sS s c e0 e1 e2 cs N M))=some (.out (.exit 0) fr σ):=by
 rcases M with _|⟨lg,k⟩<;>rw[qac]<;>simp[qad,qoY,sS,qhL,Su.c,Wa]
theorem qyK {s:Su} {c:List (Nat × Int)} {e0 e1 e2 a b f:Int} {N:Nat} (hs:s.ok) (hn:N=s.n) (hc : ∀ x∈c,1<=x.1/\x.1<=21) (hcl:c.length<2 ^ 30) (ha:I64 a) (hb:I64 b) (hf:I64 f) {cs:List Int} (hN:cs.length=N) :
  ∃ fr σ,Z qaa (.loop 0 F338l0 (orF a b f cs N 0) (sS s c e0 e1 e2 cs N none))=some (.out (.exit 0) fr σ):=by
 obtain⟨c1,M1,z1,n1,k1⟩:=qjP (e0:=e0) (e1:=e1) (e2:=e2) hs hn hc hcl ha hb hf (h:=0) (h1:=1) (by omega) (by omega) rfl (M:=none) (B:=0) hN trivial (by omega)
 obtain⟨c2,M2,z2,n2,k2⟩:=qjP (e0:=e0) (e1:=e1) (e2:=e2) hs hn hc hcl ha hb hf (h:=1) (h1:=2) (by omega) (by omega) rfl n1 k1 (by omega)
 obtain⟨c3,M3,z3,n3,k3⟩:=qjP (e0:=e0) (e1:=e1) (e2:=e2) hs hn hc hcl ha hb hf (h:=2) (h1:=3) (by omega) (by omega) rfl n2 k2 (by omega)
 obtain⟨fr,σ,z4⟩:=qyJ (s:=s) (c:=c) (e0:=e0) (e1:=e1) (e2:=e2) (a:=a) (b:=b) (f:=f) (N:=N) (cs:=c3) (M:=M3)
 exact⟨fr,σ,z1.trans (z2.trans (z3.trans z4))⟩
section
variable{prog:Nat->Option PFun}(hb:Sub qaf prog)(sp:Sub tP prog)(ss:Sub tS prog)(sv:Sub qaa prog)
include hb sp ss in
theorem qoA(h351:prog 351=some F351)(h227:prog 227=some F227){v:D}{xs:List Int}(hr:RowV v xs)(hx : ∀ x∈xs,I64 x) : ∃ (c:List (Nat × Int)) (e0 e1 e2:Int),(∀ x∈c,1<=x.1/\x.1<=21)/\c.length<2 ^ 30/\Z prog (.call 351 [.dat v] [])=some (.ret (.tup [qaq false c e0 e1 e2,.bool true]) []):=by
 obtain⟨a,b,c,ga,gb,gc,hco,zS⟩:=qs5 hb ss h227 hr hx
 have hg:=qly ga gb gc
 have hl:=qnv a b c
 have zP:=qiN sp (qoh hg (by omega))
 simp only[quF] at zP
 have zP:Z prog (.call 228 [.str (bs (qav false (qdi (Hd.opts a b c))))] [])=some (.ret (.tup [.dat (ru a.rf.nd b.rf.nd c.rf.nd),.int 0,.int 0]) []):=zP
 obtain⟨K,e0,e1,e2,hK,hop,zK⟩:=qrF ga gb gc hco
 have zK:=qiN hb zK
 rw[qwa hop] at zK
 refine⟨cdV K,e0,e1,e2,fun x hx=>?_,by simp only[cdV,Ye]; omega,?_⟩
 ·obtain⟨y,hy,rfl⟩:=Yi.1 hx
  have:=hop y hy
  show 1<=y.1.toNat/\y.1.toNat<=21
  omega
 ·have o:V.one (.dat (codeDV false (cdV K)))=true:=by cases K<;>simp[codeDV,cdV]
  have oc:V.cells (.dat (codeDV false (cdV K)))=[.dat (codeDV false (cdV K))]:=by cases K<;>simp[codeDV,cdV]
  unfold qaq
  generalize codeDV false (cdV K)=d at *
  generalize bs (qav false (qdi (Hd.opts a b c)))=S at *
  generalize a.rf.nd=A at *
  generalize b.rf.nd=B at *
  generalize c.rf.nd=C at *
  have k0:=hr.one
  have k1:=hr.cells
  refine qab h351 rfl ?_
  simp only[ru,pgD] at zP zK
  simp -implicitDefEqProofs [F351,zS,zP,zK,o,oc,k0,k1,Wa]
include hb sp ss sv in
theorem qsV (hF:prog 338=some F338) (h351:prog 351=some F351) (h227:prog 227=some F227) {d1 d2 d3:D} {xs1 xs2 xs3:List Int} (h1:IsRow d1 xs1) (i1 : ∀ x∈xs1,I64 x) (h2:RowV d2 xs2) (i2 : ∀ x∈xs2,I64 x) (h3:IsRow d3 xs3) (i3 : ∀ x∈xs3,I64 x) {a b f:Int} (ha:I64 a) (hb':I64 b) (hf:I64 f) :
  Z prog (.call 338 [.dat d1,.dat d2,.dat d3,.int a,.int b,.int f] [])=some (.ret (.bool true) []):=by
 obtain⟨s,bs,hs,hbb,hbl,zs⟩:=qu7 h1 i1
 obtain⟨w,hw,zw⟩:=qwG s hs bs hbb hbl h3 i3
 obtain⟨c,e0,e1,e2,hc,hcl,zc⟩:=qoA hb sp ss h351 h227 h2 i2
 have hp:=hs.p3; have hq:=hs.b5
 have hN:48<=s.n/\s.n<1000:=by unfold Su.n; omega
 have zn:=qiN sv (qxQ w s.n false hw (by omega))
 have zs:=qiN sv zs
 have zw:=qiN sv zw
 have zl:=qiN sv quK
 obtain⟨fr,σ,zo⟩:=qyK (e0:=e0) (e1:=e1) (e2:=e2) hs rfl hc hcl ha hb' hf hw
 have zo:=qiN sv zo
 refine qab hF rfl ?_
 simp only[orF,sS,qhL,qaA,qaq,Su.d,Su.c,List.map] at *
 simp -implicitDefEqProofs [F338,zs,zw,zc,zn,zo,zl,Wa]
end
end
end Go.Pm
section
namespace Go.Pm.F
def prog17p:Nat->Option PFun
 |15=>some F15
 |17=>some F17
 |20=>some F20
 |23=>some F23
 |32=>some F32
 |38=>some F38
 |39=>some F39
 |45=>some F45
 |46=>some F46
 |47=>some F47
 |49=>some F49
 |50=>some F50
 |51=>some F51
 |52=>some F52
 |55=>some F55
 |56=>some F56
 |57=>some F57
 |58=>some F58
 |59=>some F59
 |60=>some F60
 |61=>some F61
 |62=>some F62
 |63=>some F63
 |64=>some F64
 |65=>some F65
 |66=>some F66
 |67=>some F67
 |68=>some F68
 |69=>some F69
 |70=>some F70
 |71=>some F71
 |72=>some F72
 |73=>some F73
 |74=>some F74
 |75=>some F75
 |76=>some F76
 |77=>some F77
 |78=>some F78
 |79=>some F79
 |80=>some F80
 |81=>some F81
 |82=>some F82
 |83=>some F83
 |84=>some F84
 |85=>some F85
 |86=>some F86
 |87=>some F87
 |88=>some F88
 |89=>some F89
 |90=>some F90
 |91=>some F91
 |92=>some F92
 |93=>some F93
 |94=>some F94
 |95=>some F95
 |96=>some F96
 |97=>some F97
 |98=>some F98
 |99=>some F99
 |100=>some F100
 |101=>some F101
 |102=>some F102
 |103=>some F103
 |104=>some F104
 |105=>some F105
 |106=>some F106
 |107=>some F107
 |108=>some F108
 |109=>some F109
 |110=>some F110
 |111=>some F111
 |112=>some F112
 |113=>some F113
 |114=>some F114
 |123=>some F123
 |131=>some F131
 |134=>some F134
 |136=>some F136
 |137=>some F137
 |139=>some F139
 |140=>some F140
 |147=>some F147
 |148=>some F148
 |152=>some F152
 |162=>some F162
 |164=>some F164
 |165=>some F165
 |166=>some F166
 |167=>some F167
 |168=>some F168
 |169=>some F169
 |176=>some F176
 |177=>some F177
 |178=>some F178
 |179=>some F179
 |180=>some F180
 |181=>some F181
 |182=>some F182
 |183=>some F183
 |184=>some F184
 |185=>some F185
 |186=>some F186
 |187=>some F187
 |188=>some F188
 |189=>some F189
 |190=>some F190
 |191=>some F191
 |192=>some F192
 |193=>some F193
 |200=>some F200
 |201=>some F201
 |204=>some F204
 |227=>some F227
 |228=>some F228
 |234=>some F234
 |236=>some F236
 |239=>some F239
 |240=>some F240
 |241=>some F241
 |242=>some F242
 |246=>some F246
 |247=>some F247
 |248=>some F248
 |249=>some F249
 |250=>some F250
 |251=>some F251
 |252=>some F252
 |253=>some F253
 |254=>some F254
 |255=>some F255
 |256=>some F256
 |261=>some F261
 |262=>some F262
 |263=>some F263
 |264=>some F264
 |265=>some F265
 |266=>some F266
 |267=>some F267
 |268=>some F268
 |269=>some F269
 |270=>some F270
 |271=>some F271
 |275=>some F275
 |276=>some F276
 |277=>some F277
 |278=>some F278
 |279=>some F279
 |280=>some F280
 |281=>some F281
 |284=>some F284
 |285=>some F285
 |286=>some F286
 |287=>some F287
 |289=>some F289
 |290=>some F290
 |292=>some F292
 |297=>some F297
 |303=>some F303
 |304=>some F304
 |307=>some F307
 |308=>some F308
 |309=>some F309
 |338=>some F338
 |351=>some F351
 |1000=>some F1000
 |_=>none
end Go.Pm.F
end
namespace Go.Pm
section
open F
theorem qp0:Sub qaf prog17p:=fun f pf h=>by
 unfold qaf at h
 split at h<;>first | (cases h; rfl) | cases h
theorem qvq:Sub tP prog17p:=fun f pf h=>by
 unfold tP at h
 split at h<;>first | (cases h; rfl) | cases h
theorem qvr:Sub tS prog17p:=fun f pf h=>by
 unfold tS at h
 split at h<;>first | (cases h; rfl) | cases h
theorem qvs:Sub qaa prog17p:=fun f pf h=>by
 unfold qaa at h
 split at h<;>first | (cases h; rfl) | cases h
theorem runs16_Z {d1 d2 d3:D} {xs1 xs2 xs3:List Int} (h1:IsRow d1 xs1) (i1 : ∀ x∈xs1,I64 x) (h2:RowV d2 xs2) (i2 : ∀ x∈xs2,I64 x) (h3:IsRow d3 xs3) (i3 : ∀ x∈xs3,I64 x) {a b f:Int} (ha:I64 a) (hb':I64 b) (hf:I64 f) :
  Z prog17p (.call 338 [.dat d1,.dat d2,.dat d3,.int a,.int b,.int f] [])=some (.ret (.bool true) []):=
 qsV qp0 qvq qvr qvs rfl rfl rfl h1 i1 h2 i2 h3 i3 ha hb' hf
end
end Go.Pm
