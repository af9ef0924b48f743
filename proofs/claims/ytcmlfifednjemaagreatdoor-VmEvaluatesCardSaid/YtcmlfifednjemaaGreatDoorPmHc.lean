/- Chapter 13's parser on printed trees: statements and blocks. -/
import Derived.Test.YtcmlfifednjemaaGreatDoorPmAL
import Derived.Test.YtcmlfifednjemaaGreatDoorPmDf
import Derived.Test.YtcmlfifednjemaaGreatDoorPmKf
import Derived.Test.YtcmlfifednjemaaGreatDoorPmVp21
import Derived.Test.YtcmlfifednjemaaGreatDoorPmR
import Derived.Test.YtcmlfifednjemaaGreatDoorPmE7
import Derived.Test.YtcmlfifednjemaaGreatDoorPmF6r
import Derived.KernelRfl
import Derived.Test.YtcmlfifednjemaaGreatDoorPmCb
set_option linter.unusedSimpArgs false
set_option linter.unusedVariables false
set_option maxHeartbeats 4000000
namespace Go.Pm
section
open F
section
variable(s:ByteArray)(T:List Tk)
def Sx(lv:Nat)(ts:List Tk)(b:Ss)(r:List Tk):Prop:=
 ∀ i:Nat,T.drop i=ts -> ∃ (i':Nat) (k:Int) (y:ByteArray) (d:D),T.drop i'=r/\Z tP (.call 271 [.ptr 0 0,.int lv] (PS s T i 0 12))=some (.ret (nv k y d) (PS s T i' 0 12))/\V.one (.dat d)=true/\V.cells (.dat d)=[.dat d]/\b.fo.cells=[.lit (.int .i64 k),.lit (.int .i64 0),.lit (.string y),d]/\b.fo.len=1
def Bx(lv:Nat)(ts:List Tk)(b:Ss)(r:List Tk):Prop:=
 ∀ i:Nat,T.drop i=ts -> ∃ i':Nat,T.drop i'=r/\Z tP (.call 256 [.ptr 0 0,.int lv] (PS s T i 0 12))=some (.ret (nv 7 ⟨#[]⟩ (kd false b.fo.len b.fo.cells)) (PS s T i' 0 12))
def Rx(lv:Nat)(a:Ss)(ts:List Tk)(b:Ss)(r:List Tk):Prop:=
 ∀ (i:Nat) (v:V) (σt:S),T.drop i=ts->qvt v σt a.fo.cells a.fo.len -> ∃ (i':Nat) (t':Tk) (v':V) (σt':S),T.drop i'=t'::r/\t'.bad=0/\t'.s=qru/\qvt v' σt' b.fo.cells b.fo.len/\Z tP (.loop 3 F256l0 (bzF lv) (bzS s T i 0 12 v σt))=some (.out (.exit 0) (bzF lv++[(13,.bool false)]) (bzS s T i' 0 12 v' σt'))
variable{s:ByteArray}{T:List Tk}{lv:Nat}{ts r m:List Tk}{a b b1 b2:Ss}{e e':E}{x:ByteArray}{l:List ByteArray}
theorem qv9(hn:nx ts=some (bs [125])):Rx s T lv a ts a ts.tail:=fun i v σt hi hr=>by
 obtain⟨t,q,rfl,hb,hs⟩:=qha hn
 exact⟨i,t,v,σt,hi,hb,hs,hr,qw3 hi hb hs hr⟩
theorem qgt(hn:nx ts=some x)(hx:x≠bs [125])(hl:a.fo.len<=2 ^ 40)(h:Sx s T lv ts b1 m)(h2:Rx s T lv (a.app b1) m b r):Rx s T lv a ts b r:=fun i v σt hi hr=>by
 obtain⟨i1,k,y,d,a1,z,o1,o2,c1,c2⟩:=h i hi
 obtain⟨t,q,rfl,hb,rfl⟩:=qha hn
 obtain⟨v',σt',r1,r2⟩:=qrv hi hb hx hr hl o1 o2 z
 obtain⟨i3,t3,v3,σ3,e1,e2,e3,e4,e5⟩:=h2 i1 v' σt' a1 (by rw[qsR,qlb,qi9,c1,c2]; exact r1)
 exact⟨i3,t3,v3,σ3,e1,e2,e3,e4,r2.trans e5⟩
theorem qwa(hT:T.length<2 ^ 40)(hlv:lv<=20)(hn:nx ts=some (bs [123]))(h:Rx s T lv .nil ts.tail b r):Bx s T lv ts b r:=fun i hi=>by
 obtain⟨a1,zo⟩:=pop (s:=s) hT (by decide) hn hi hlv
 obtain⟨i3,t3,v3,σ3,e1,e2,e3,e4,e5⟩:=h _ _ [] a1 (.inl ⟨rfl,rfl,rfl,rfl⟩)
 exact⟨i3+1,qhb e1,qzc hT zo e4 e5 e1 e2 e3⟩
theorem qjC(hT:T.length<2 ^ 40)(hn:nx ts=some (bs [59])){i:Nat}(hi:T.drop i=ts){k:Int}{y:ByteArray}{d:D}(od:V.one (.dat d)=true)(oc:V.cells (.dat d)=[.dat d]):Z tP (.call 278 [.ptr 0 0,nv k y d] (PS s T i 0 12))=some (.ret (nv k y d) (PS s T ((i+1:Nat):Int) 0 12)):=
 qyb od oc (pex hT (by decide) hn hi).2
theorem ex1(hT:T.length<2 ^ 40)(hg:e.good)(hx : ∀ o:Bop,o.str≠x)(h:Hx (e.tx false 1++x::l) ts r)(hl:lv+e.nest false 1<=20) : ∃ mid,Px s T 279 lv ts (e.fl true) mid/\nx mid=some x/\Hx l mid.tail r/\Hx (x::l) mid r:=by
 obtain⟨mid,h1,h2⟩:=hx_app.1 h
 obtain⟨h3,h4⟩:=qcF h2
 exact⟨mid,(rbZ (s:=s) hT e hg).1 1 lv ts mid (by omega) (by omega) h1 hl (qwH x hx h2),h3,h4,h2⟩
theorem qoA(hT:T.length<2 ^ 40)(hlv:lv<=20)(hg:qpc x)(hn:nx ts=some x)(h1:nx ts.tail=some (bs [61]))(he:Px s T 279 lv ts.tail.tail e m)(h2:nx m=some (bs [59])):Sx s T lv ts (.assign true x e .nil) m.tail:=fun i hi=>by
 obtain⟨t,q,rfl,hb,rfl⟩:=qha hn
 obtain⟨a1,z1⟩:=pex (s:=s) hT (by decide) h1 (qhb hi)
 obtain⟨i2,a2,z2⟩:=he _ a1
 have z3:=qjC (s:=s) hT h2 a2 (k:=1) (y:=t.s) (d := .sl (cE e) 1 true) rfl rfl
 have hk:kindT t=1:=by rw[qcC hb,qjB,if_neg (qfW hg.2.1),if_pos hg.2.1,if_neg hg.2.2.1,if_neg hg.2.2.2]
 exact⟨_,_,_,_,(pex (s:=s) hT (by decide) h2 a2).1,qlr hlv hT hi hb hk z1 z2 z3,rfl,rfl,by simp[Ss.fo],by simp[Ss.fo]⟩
theorem kd2{t:Tk}(hb:t.bad=0)(h:qjB t.s=2):decide (kindT t=1)=false/\decide (kindT t=3)=false:=by rw[qcC hb,h]; decide
theorem qqC(hT:T.length<2 ^ 40)(hlv:lv+1<=20)(hg:x∈fieldNames)(hn:nx ts=some x){m1 m2:List Tk}(hi:Px s T 280 lv ts e m1)(h1:nx m1=some (bs [61]))(he:Px s T 279 lv m1.tail e' m2)(h2:nx m2=some (bs [59])):Sx s T lv ts (.store true x e e' .nil) m2.tail:=fun i ht=>by
 obtain⟨i1,a1,z1⟩:=hi i ht
 obtain⟨a2,z2⟩:=pex (s:=s) hT (by decide) h1 a1
 obtain⟨i3,a3,z3⟩:=he _ a2
 obtain⟨t,q,rfl,hb,rfl⟩:=qha hn
 have z4:=qjC (s:=s) hT h2 a3 (k:=2) (y:=t.s) (d := .sl (cE e++cE e') 2 true) rfl rfl
 have hall : ∀ w∈fieldNames,qjB w=3:=by decide
 exact⟨_,_,_,_,(pex (s:=s) hT (by decide) h2 a3).1,qnd (by omega) hT ht hb (by rw[qcC hb,hall _ hg]) z1 z2 z3 z4,rfl,rfl,by simp[Ss.fo],by simp[Ss.fo]⟩
theorem qoB(hT:T.length<2 ^ 40)(hlv:lv<=20)(hn:nx ts=some qlG){m1 m2:List Tk}(h:Px s T 279 lv ts.tail e m1)(h1:nx m1=some (bs [44]))(he:Px s T 279 lv m1.tail e' m2)(h2:nx m2=some (bs [59])):Sx s T lv ts (.effect true e e' .nil) m2.tail:=fun i ht=>by
 obtain⟨t,q,rfl,hb,hs⟩:=qha hn
 obtain⟨i1,a1,z1⟩:=h _ (qhb ht)
 obtain⟨a2,z2⟩:=pex (s:=s) hT (by decide) h1 a1
 obtain⟨i3,a3,z3⟩:=he _ a2
 have z4:=qjC (s:=s) hT h2 a3 (k:=5) (y:=⟨#[]⟩) (d := .sl (cE e++cE e') 2 true) rfl rfl
 have hk:=kd2 hb (by rw[hs]; decide)
 exact⟨_,_,_,_,(pex (s:=s) hT (by decide) h2 a3).1,qls hlv hT ht hb hk.1 hk.2 hs z1 z2 z3 z4,rfl,rfl,by simp[Ss.fo],by simp[Ss.fo]⟩
theorem qtu(hT:T.length<2 ^ 40)(hlv:lv<=20)(hn:nx ts=some qt0)(h2:nx ts.tail=some (bs [59])):Sx s T lv ts (.stop .nil) ts.tail.tail:=fun i ht=>by
 obtain⟨t,q,rfl,hb,hs⟩:=qha hn
 have hk:=kd2 hb (by rw[hs]; decide)
 have a3:=qhb ht
 have z4:=qjC (s:=s) hT h2 a3 (k:=6) (y:=⟨#[]⟩) (d := .lit (.slice none 0 0)) rfl rfl
 exact⟨_,_,_,_,(pex (s:=s) hT (by decide) h2 a3).1,qog hlv hT ht hb hk.1 hk.2 hs z4,rfl,rfl,by simp[Ss.fo],by simp[Ss.fo]⟩
theorem qqD(hT:T.length<2 ^ 40)(hlv:lv<=20)(hn:nx ts=some qpb)(h:Px s T 279 lv ts.tail e m)(h2:Bx s T (lv+1) m b r):Sx s T lv ts (.cond true true e (.block false b .nil) .nil) r:=fun i ht=>by
 obtain⟨t,q,rfl,hb,hs⟩:=qha hn
 have hk:=kd2 hb (by rw[hs]; decide)
 obtain⟨i1,a1,z1⟩:=h _ (qhb ht)
 obtain⟨i2,a2,z2⟩:=h2 _ a1
 exact⟨_,_,_,_,a2,qne hlv hT ht hb hk.1 hk.2 hs (by simp) (by simp) z1 z2,rfl,rfl,by simp[Ss.fo],by simp[Ss.fo]⟩
theorem qyv(hT:T.length<2 ^ 40)(hlv:lv<=20)(hn:nx ts=some ifS)(h:Px s T 279 lv ts.tail e m){m1:List Tk}(h2:Bx s T (lv+1) m b1 m1)(hel:(nx m1=some qjR/\Bx s T (lv+1) m1.tail b2 r)\/(∃ x,nx m1=some x/\x≠qjR/\b2 = .nil/\r=m1)):Sx s T lv ts (.cond false true e (.block false b1 (.block false b2 .nil)) .nil) r:=fun i ht=>by
 obtain⟨a0,z0⟩:=pex (s:=s) hT (by decide) hn ht
 obtain⟨t,q,rfl,hb,hs⟩:=qha hn
 have hk:=kd2 hb (by rw[hs]; decide)
 obtain⟨i1,a1,z1⟩:=h _ a0
 obtain⟨i2,a2,z2⟩:=h2 _ a1
 rcases hel with ⟨h3,h4⟩|⟨x,h3,h4,rfl,rfl⟩
 ·obtain⟨t2,q2,rfl,hb2,hs2⟩:=qha h3
  obtain⟨i3,a3,z3⟩:=h4 _ (qhb a2)
  exact⟨_,_,_,_,a3,qof hlv hT ht hb hk.1 hk.2 hs rfl rfl (qyY hlv (by simp) (by simp) z0 z1 z2 (by simp) (by simp) hT a2 hb2 hs2 z3),rfl,rfl,by simp[Ss.fo],by simp[Ss.fo]⟩
 ·obtain⟨t2,q2,rfl,hb2,rfl⟩:=qha h3
  exact⟨_,_,_,_,a2,qof hlv hT ht hb hk.1 hk.2 hs rfl rfl (qyX hlv (by simp) (by simp) z0 z1 z2 a2 hb2 h4),rfl,rfl,by simp[Ss.fo],by simp[Ss.fo]⟩
def qzO(s:ByteArray)(T:List Tk):Ss->Prop
 |.block _ b r=>(∀ lv ts q,Hx (bs [123]::(b.tx++[bs [125]])) ts q->lv+b.nest<=20->b.tx.length<=2 ^ 40->Bx s T lv ts (b.fl true true false) q)/\qzO s T r
 |_=>True
theorem qAg (hT:T.length<2 ^ 40) : ∀ z:Ss,
  (z.good none -> ∀ lv a ts r,Hx (z.tx++[bs [125]]) ts r->lv+z.nest<=20->a.fo.len+z.tx.length<=2 ^ 40->Rx s T lv a ts (a.app (z.fl true true false)) r) /\
  ((∃ k,z.good (some k))->qzO s T z):=by
 have one : ∀ {f:Ss} {a:Ss} {n:Nat},f.fo.len=1->a.fo.len+(n+1)<=2 ^ 40->(a.app f).fo.len+n<=2 ^ 40:=fun h1 h2=>by rw[qsR,qi9,h1]; omega
 intro z
 induction z with
 |nil=>
  refine⟨fun _ lv a ts r hx hl _=>?_,fun _=>trivial⟩
  obtain⟨hn,ht⟩:=qcF hx
  cases ht
  rw[Ss.fl,qnF]
  exact qv9 hn
 |assign g w e r ih=>
  refine⟨fun hg lv a ts q hx hl hc=>?_,fun _=>trivial⟩
  obtain⟨-,g1,g2,g3⟩:=hg
  simp only[Ss.nest] at hl
  simp only[Ss.tx,Wh,Wo,Wd,Wb] at hx hc
  obtain⟨hn,h1⟩:=qcF hx
  obtain⟨hn1,h2⟩:=qcF h1
  obtain⟨mid,h3,h4,h5,h5'⟩:=ex1 (s:=s) hT g2 (by intro o; cases o<;>decide) h2 (lv:=lv) (by omega)
  have:=ih.1 g3 lv (a.app (.assign true w (e.fl true) .nil)) mid.tail q h5 (by omega) (one (by simp[Ss.fo]) (by omega))
  rw[qcl] at this
  exact qgt hn (qlI g1 (.inr (.inr (by decide)))) (by omega) (qoA hT (by omega) g1 hn hn1 h3 h4) this
 |store g w x y r ih=>
  refine⟨fun hg lv a ts q hx hl hc=>?_,fun _=>trivial⟩
  obtain⟨-,g1,g2,g3,g4⟩:=hg
  simp only[Ss.nest] at hl
  simp only[Ss.tx,Wh,Wo,Wd,Wb] at hx hc
  obtain⟨hn,h1⟩:=qcF hx
  obtain⟨hn1,h2⟩:=qcF h1
  obtain⟨mid,h3,h4,h5,h5'⟩:=ex1 (s:=s) hT g2 (by intro o; cases o<;>decide) h2 (lv:=lv+1) (by omega)
  obtain⟨hn5,h6⟩:=qcF h5
  obtain⟨mid2,h7,h8,h9,-⟩:=ex1 (s:=s) hT g3 (by intro o; cases o<;>decide) h6 (lv:=lv) (by omega)
  have:=ih.1 g4 lv (a.app (.store true w (x.fl true) (y.fl true) .nil)) mid2.tail q h9 (by omega) (one (by simp[Ss.fo]) (by omega))
  rw[qcl] at this
  obtain⟨t,q',rfl,hb,_⟩:=qha hn
  exact qgt hn (qjS g1 (by decide)) (by omega) (qqC hT (by omega) g1 hn (qwE hT (by omega) hb hn1 h3 h4) hn5 h7 h8) this
 |effect g x y r ih=>
  refine⟨fun hg lv a ts q hx hl hc=>?_,fun _=>trivial⟩
  obtain⟨-,g2,g3,g4⟩:=hg
  simp only[Ss.nest] at hl
  simp only[Ss.tx,Wh,Wo,Wd,Wb] at hx hc
  obtain⟨hn,h1⟩:=qcF hx
  obtain⟨mid,h3,h4,h5,h5'⟩:=ex1 (s:=s) hT g2 (by intro o; cases o<;>decide) h1 (lv:=lv) (by omega)
  obtain⟨mid2,h7,h8,h9,-⟩:=ex1 (s:=s) hT g3 (by intro o; cases o<;>decide) h5 (lv:=lv) (by omega)
  have:=ih.1 g4 lv (a.app (.effect true (x.fl true) (y.fl true) .nil)) mid2.tail q h9 (by omega) (one (by simp[Ss.fo]) (by omega))
  rw[qcl] at this
  exact qgt hn (by decide) (by omega) (qoB hT (by omega) hn h3 h4 h7 h8) this
 |stop r ih=>
  refine⟨fun hg lv a ts q hx hl hc=>?_,fun _=>trivial⟩
  obtain⟨-,g4⟩:=hg
  simp only[Ss.nest] at hl
  simp only[Ss.tx,Wh,Wo,Wd,Wb] at hx hc
  obtain⟨hn,h1⟩:=qcF hx
  obtain⟨hn1,h2⟩:=qcF h1
  have:=ih.1 g4 lv (a.app (.stop .nil)) ts.tail.tail q h2 (by omega) (one (by simp[Ss.fo]) (by omega))
  rw[qcl] at this
  exact qgt hn (by decide) (by omega) (qtu hT (by omega) hn hn1) this
 |cond w g c b r ihb ih=>
  refine⟨fun hg lv a ts q hx hl hc=>?_,fun _=>trivial⟩
  obtain⟨-,g2,g3,g4⟩:=hg
  have hrow:=ihb.2 ⟨_,g3⟩
  have nil1 : ∀ {b:Ss},b.good (some 0)->b = .nil:=fun {b} h=>by
   cases b with
   |nil=>rfl
   |block=>obtain⟨k,hk,_⟩:=h; cases hk
   |_=>exact absurd h.1 (by simp)
  have blk : ∀ {b:Ss} {k:Nat},b.good (some (k+1)) -> ∃ f b1 b',b = .block f b1 b'/\b'.good (some k):=fun {b} {k} h=>by
   cases b with
   |nil=>rcases h with h|h<;>cases h
   |block f b1 b'=>obtain⟨n,hn,_,h⟩:=h; cases hn; exact⟨_,_,_,rfl,h⟩
   |_=>exact absurd h.1 (by simp)
  have split1 : ∀ (b1:Ss) {l:List ByteArray} {mid:List Tk},Hx (bs [123]::(b1.tx++bs [125]::l)) mid q -> ∃ m2,Hx (bs [123]::(b1.tx++[bs [125]])) mid m2/\Hx l m2 q:=fun b1 l mid h=>by
   rw[show bs [123]::(b1.tx++bs [125]::l)=(bs [123]::(b1.tx++[bs [125]]))++l by simp] at h
   exact hx_app.1 h
  simp only[Ss.nest] at hl
  simp only[Ss.tx,Wh,Wo,Wd,Wb] at hx hc
  obtain⟨hn,h1⟩:=qcF hx
  cases w with
  |true=>
   simp only[if_true] at g3 hn
   obtain⟨f1,b1,b',rfl,g5⟩:=blk g3
   obtain rfl:=nil1 g5
   simp only[Ss.tx,qlH,Wm,if_false,WD,Wh,Wo,Wd,Wb,Ss.nest] at h1 hc hl
   obtain⟨mid,h3,h4,h5,h5'⟩:=ex1 (s:=s) hT g2 (by intro o; cases o<;>decide) h1 (lv:=lv) (by omega)
   obtain⟨m2,h6,h7⟩:=split1 b1 h5'
   have:=ih.1 g4 lv (a.app (.cond true true (c.fl true) (.block false (b1.fl true true false) .nil) .nil)) m2 q h7 (by omega) (one (by simp[Ss.fo]) (by omega))
   rw[qcl] at this
   exact qgt hn (by decide) (by omega) (qqD hT (by omega) hn h3 (hrow.1 (lv+1) mid m2 h6 (by omega) (by omega))) this
  |false=>
   simp only[Wm,if_false] at g3 hn
   obtain⟨f1,b1,b',rfl,g5⟩:=blk g3
   obtain⟨f2,b2,b'',rfl,g6⟩:=blk g5
   obtain rfl:=nil1 g6
   simp only[Ss.tx,Wh,Wo,Wd,Wb,Ss.nest] at h1 hc hl
   obtain⟨mid,h3,h4,h5,h5'⟩:=ex1 (s:=s) hT g2 (by intro o; cases o<;>decide) h1 (lv:=lv) (by omega)
   obtain⟨m2,h6,h7⟩:=split1 b1 h5'
   have hb1:=hrow.1 (lv+1) mid m2 h6 (by omega) (by omega)
   have fin : ∀ m3,Hx (r.tx++[bs [125]]) m3 q->((nx m2=some qjR/\Bx s T (lv+1) m2.tail (b2.fl true true false) m3)\/(∃ x,nx m2=some x/\x≠qjR/\b2.fl true true false = .nil/\m3=m2))->Rx s T lv a ts (a.app ((Ss.cond false g c (.block f1 b1 (.block f2 b2 .nil)) r).fl true true false)) q:=fun m3 h8 h9=>by
    have:=ih.1 g4 lv (a.app (.cond false true (c.fl true) (.block false (b1.fl true true false) (.block false (b2.fl true true false) .nil)) .nil)) m3 q h8 (by omega) (one (by simp[Ss.fo]) (by omega))
    rw[qcl] at this
    exact qgt hn (by decide) (by omega) (qyv hT (by omega) hn h3 hb1 h9) this
   by_cases he:qlH (.block f2 b2 .nil)=true
   ·rw[if_pos he] at h7 hc
    simp only[Wh,Wo,qlH,Wm,if_false,Wg,Wd,Wb] at h7 hc
    obtain⟨hn6,h8⟩:=qcF h7
    obtain⟨m3,h9,h10⟩:=split1 b2 h8
    exact fin m3 h10 (.inl ⟨hn6,hrow.2.1 (lv+1) _ m3 h9 (by omega) (by omega)⟩)
   ·rw[if_neg he,Wg] at h7
    have hb2:b2 = .nil:=by cases b2<;>first|rfl|exact absurd rfl he
    subst hb2
    obtain⟨x,l,q1,q2,-⟩:=qt1 r g4
    exact fin m2 h7 (.inr ⟨x,by rw[q1] at h7; exact (qcF h7).1,q2,rfl,rfl⟩)
 |block g b r ihb ihr=>
  refine⟨fun hg=>(by obtain⟨k,hk,_⟩:=hg; cases hk),fun hg=>?_⟩
  obtain⟨k,k',hk,g1,g2⟩:=hg
  refine⟨fun lv ts q hx hl hc=>?_,ihr.2 ⟨_,g2⟩⟩
  obtain⟨hn,ht⟩:=qcF hx
  exact qwa hT (by omega) hn (ihb.1 g1 lv .nil ts.tail q ht hl (by show 0+_<=_; omega))
end
end
section
open F
section
variable{s:ByteArray}{T:List Tk}
def Gx(s:ByteArray)(T:List Tk)(h:Nat->Option Ss)(ts:List Tk)(h':Nat->Option Ss)(r:List Tk):Prop:=
 ∀ i:Nat,T.drop i=ts -> ∃ i':Nat,T.drop i'=r/\Z tP (.loop 3 F242l0 pgF (pgS s T i 0 12 fun k=>qkp (h k)))=Z tP (.loop 3 F242l0 pgF (pgS s T i' 0 12 fun k=>qkp (h' k)))
theorem qpa(hT:T.length<2 ^ 40){o:Option Ss}{k:Nat}{h:Nat->Option Ss}{ts r:List Tk}(hk:k<3)(hg:qkP o)(hh:h k=none)(hl:(qq3 k o).length<=2 ^ 40)(hx:Hx (qq3 k o) ts r):Gx s T h ts (fun i=>if i=k then o.map (·.fl true true false) else h i) r:=fun i hi=>by
 cases o with
 |none=>
  cases hx
  refine⟨i,hi,?_⟩
  congr 4
  funext j
  show qkp (h j)=qkp (if j=k then none else h j)
  split
  ·rename_i e; rw[e,hh]
  ·rfl
 |some b=>
  obtain⟨h1,h2⟩:=qcF hx
  obtain⟨h3,h4⟩:=qcF h2
  obtain⟨h5,h6⟩:=qcF h4
  simp only[qq3,Wd,Wb] at hl
  have hb:=hg b rfl
  obtain⟨a1,z1⟩:=pex (s:=s) hT (by decide) h1 hi
  obtain⟨t,q,rfl,hb0,hs⟩:=qha h1
  obtain⟨t2,q2,e2,hb2,hs2⟩:=qha h3
  have a1':=a1
  rw[e2] at a1' h5 h6
  have hB:=qwa (lv:=1) hT (by omega) h5 ((qAg (s:=s) hT b).1 hb.1 1 .nil _ r h6 (by omega) (by show 0+_<=_; omega))
  obtain⟨i2,a2,z2⟩:=hB _ (qhb a1')
  refine⟨i2,a2,?_⟩
  have zs:=qyL (s:=s) (q:=fun k=>qkp (h k)) hT hi hb0 (by rw[hs]; decide) z1 a1' hb2 (k:=k) (by rw[hs2]; exact qjN hk) (decide_eq_true (by rw[hh]; rfl)) (by simp) (by simp) z2
  rw[zs]
  congr 4
  funext j
  show qxK _ k _ j=qkp (if j=k then some (b.fl true true false) else h j)
  unfold qxK
  split<;>rfl
theorem qre {h:Nat->Option Ss} (hg : ∀ k,qkP (h k)) (hl:s.size<=2000) {e:Nat} (hx:Hx (qf1 h) (toks s) [⟨e,⟨#[]⟩,0⟩]) :
  Z tP (.call 228 [.str s] [])=some (.ret (.tup [qvu fun k=>qkp (if k<3 then (h k).map (·.fl true true false) else none),.int 0,.int 0]) []):=by
 have hlen:=qkH s (s.size+1) 0
 have hT:(toks s).length<2 ^ 40:=by show (qdC 12 2 6 s (s.size+1) 0).length<_; omega
 have hxl : ∀ {l:List ByteArray} {ts r:List Tk},Hx l ts r->l.length<=ts.length:=by
  intro l
  induction l with
  |nil=>intros; simp
  |cons x l ih=>rintro ts r ⟨t,q,rfl,_,_,h⟩; have:=ih h; simp only[Wd]; omega
 have hl0:=hxl hx
 have zt:=qpE s (by omega)
 generalize toks s=T at *
 simp only[qf1,Wb] at hl0
 obtain⟨m1,x1,hx⟩:=hx_app.1 hx
 obtain⟨m2,x2,x3⟩:=hx_app.1 hx
 obtain⟨i1,a1,z1⟩:=qpa (s:=s) (h:=fun _=>none) hT (k:=0) (by omega) (hg 0) rfl (by omega) x1 0 rfl
 obtain⟨i2,a2,z2⟩:=qpa (s:=s) (h:=fun i=>if i=0 then (h 0).map (·.fl true true false) else none) hT (k:=1) (by omega) (hg 1) rfl (by omega) x2 i1 a1
 obtain⟨i3,a3,z3⟩:=qpa (s:=s) (h:=fun i=>if i=1 then (h 1).map (·.fl true true false) else if i=0 then (h 0).map (·.fl true true false) else none) hT (k:=2) (by omega) (hg 2) rfl (by omega) x3 i2 a2
 have z4:=z1.trans (z2.trans (z3.trans (qwm a3 rfl rfl)))
 have e:(fun k=>qkp (if k<3 then (h k).map (·.fl true true false) else none))=fun k=>qkp (if k=2 then (h 2).map (·.fl true true false) else if k=1 then (h 1).map (·.fl true true false) else if k=0 then (h 0).map (·.fl true true false) else none):=by
  funext k
  rcases k with _|_|_|k
  ·rfl
  ·rfl
  ·rfl
  ·rw[if_neg (by omega),if_neg (by omega),if_neg (by omega),if_neg (by omega)]
 rw[e]
 exact qrP (by omega) zt (qnx z4)
end
end
section
open F Gr
set_option maxHeartbeats 2000000
theorem qqi {a b c:Hd} (ha:a.fine) (hb:b.fine) (hc:c.fine) (wa:a.ss.hh<=15) (wb:b.ss.hh<=15) (wc:c.ss.hh<=15) (h400:(qct (rvars a.nd b.nd c.nd) a b c).length<=400) :
  (∀ x∈qct (rvars a.nd b.nd c.nd) a b c,1<=x.1/\x.1<=21)/\Z qae (.call 131 [.dat (ru a.rf.nd b.rf.nd c.rf.nd)] [])=some (.ret (.tup [pgD (ql2 (qct (rvars a.nd b.nd c.nd) a b c)) (qgh a) (qf2 (rvars a.nd b.nd c.nd) a b) (qgi (rvars a.nd b.nd c.nd) a b c),.int 0]) []):=by
 have l4:=qgs ha.fine hb.fine hc.fine
 obtain⟨ia,ib,ic⟩:=qjA (a:=a) (b:=b) (c:=c)
 obtain⟨n,D,g,p0,p1,p2,hD⟩:=qmF (vs:=rvars a.nd b.nd c.nd) (by omega) ha.fine hb.fine hc.fine ia ib ic
 have hn:(qct (rvars a.nd b.nd c.nd) a b c).length=n:=g.ln 0
 have low : ∀ {e:Int},(e = -1\/(0<=e/\e<n/\D e.toNat=0)) -> ∃ m,DepIs (qct (rvars a.nd b.nd c.nd) a b c) e m/\m<=16:=fun {e} p=>by
  obtain⟨m,d⟩:=qxd (c:=qct (rvars a.nd b.nd c.nd) a b c) (e:=e) (by rcases p with p|⟨x,y,z⟩<;>omega)
  refine⟨m,d,?_⟩
  rcases p with p|⟨x,y,z⟩
  ·rw[d.1 (by omega)]; omega
  ·have hm:=d.2 x D (g.cf (by omega) z)
   rcases hm.at_ with h0|⟨i,hi,h1⟩
   ·omega
   ·have:=hD i (by rw[<- hn]; exact hi.lt (by omega))
    have hpu : ∀ op:Int,qdp op-qeC op<=1:=fun op=>by unfold qdp qeC; split<;>split<;>omega
    have:=hpu (opA (qct (rvars a.nd b.nd c.nd) a b c) i)
    unfold aft at h1
    omega
 obtain⟨m0,d0,b0⟩:=low p0
 obtain⟨m1,d1,b1⟩:=low p1
 obtain⟨m2,d2,b2⟩:=low p2
 obtain⟨er,hr⟩:=qxe ha hb hc
 obtain⟨h1,h2,h3,h4⟩:=hr (rvars a.nd b.nd c.nd)
 have z:=qo1 (qlT ha) (qlT hb) (qlT hc) (m0:=m0) (m1:=m1) (m2:=m2) (by rw[er,h1,h2]; exact d0) (by rw[er,h1,h3]; exact d1) (by rw[er,h1,h4]; exact d2)
 rw[er,h1,h2,h3,h4] at z
 unfold qu2 at z
 rw[if_neg (by omega),if_neg (by omega)] at z
 refine⟨fun x hx=>?_,z⟩
 obtain⟨i,hi,rfl⟩:=List.getElem_of_mem hx
 have:=(g.ok 0 i (by omega)).1
 have e:opA (qct (rvars a.nd b.nd c.nd) a b c) i=((qct (rvars a.nd b.nd c.nd) a b c)[i]).1:=by simp[opA,Wn,hi]
 rw[<- e]
 exact this
structure EvE(b:Bool)(e:E):Prop where
 fine:e.fine
 ty:e.ty=if b then 2 else 1
 dp:e.dp<=4
 size:e.size<=31
section
variable{b:Bool}{e:E}(h:EvE b e)
include h
theorem qsg:(Hd.some false (evS b e)).fine:=by
 have m:bs [97]∈qir:=by decide
 have h1:=h.ty
 have h2:=h.size
 have e0:(E.int 0).fine:=⟨by omega,by omega⟩
 have e1:(E.int 1).fine:=⟨by omega,by omega⟩
 cases b
 ·exact⟨⟨⟨m,e0,rfl,h.fine,h1⟩,trivial⟩,by simp[Hd.ss,evS,stS,Ss.fo,qej,E.size]; omega⟩
 ·exact⟨⟨⟨h.fine,h1⟩,⟨⟨m,e0,rfl,e1,rfl⟩,trivial⟩,⟨⟨m,e0,rfl,e0,rfl⟩,trivial⟩,trivial⟩,by simp[Hd.ss,evS,qqa,stS,Ss.fo,qej,E.size]; omega⟩
theorem qsh:(evS b e).hh<=10/\e.hh<=5:=by
 have:=qwd e
 have:=h.dp
 have:=e.hh_pos
 refine⟨?_,by omega⟩
 cases b<;>simp only[evS,qqa,stS,Ss.hh,E.hh,if_true,if_false,Wm]<;>omega
theorem qjv(vs:List ByteArray)(p:Int):(qat vs e p).length<=120/\(codeS vs (evS b e) p).length<=150:=by
 have hc : ∀ p,(qat vs e p).length<=120:=fun p=>by
  obtain⟨n,ln,hn⟩:=qn4 vs e h.fine
  have:=qcm e h.fine
  have:=h.size
  rw[ln p]
  omega
 refine⟨hc p,?_⟩
 cases b
 ·have:=hc (p+1)
  simp[evS,stS,codeS,sq,snC,qat]; omega
 ·have:=hc p
  simp[evS,qqa,stS,codeS,sq,snC,brC,qat]; omega
theorem qqj : ∃ (vs:List ByteArray) (e0 e2:Int),vs.length<=16/\e.inV vs/\(∀ x∈codeS vs (evS b e) 0++[(21,0)],1<=x.1/\x.1<=21) /\
  Z qae (.call 131 [.dat (ru Hd.none.rf.nd (Hd.some false (evS b e)).rf.nd Hd.none.rf.nd)] [])=some (.ret (.tup [pgD (ql2 (codeS vs (evS b e) 0++[(21,0)])) e0 0 e2,.int 0]) []):=by
 have hn:Hd.none.fine:=⟨trivial,by decide⟩
 have l4:=qgs hn.fine (qsg h).fine hn.fine
 have e1 : ∀ vs,qct vs Hd.none (.some false (evS b e)) Hd.none=codeS vs (evS b e) 0++[(21,0)]:=fun vs=>by simp[qct,sq,hdC,snC]
 have h0:Hd.none.ss.hh<=15:=by show (0:Int)<=15; omega
 have hw:=(qsh h).1
 obtain⟨c1,c2⟩:=qqi hn (qsg h) hn h0 (by show (evS b e).hh<=15; omega) h0 (by rw[e1]; have:=(qjv h (rvars Hd.none.nd (Hd.some false (evS b e)).nd Hd.none.nd) 0).2; simp; omega)
 rw[e1] at c1 c2
 refine⟨rvars Hd.none.nd (Hd.some false (evS b e)).nd Hd.none.nd,_,_,by omega,?_,c1,c2⟩
 obtain⟨-,ib,-⟩:=qjA (a:=Hd.none) (b:=Hd.some false (evS b e)) (c:=Hd.none)
 cases b
 ·exact ib.1.2
 ·exact ib.1
theorem qoi:Z tP (.call 228 [.str (bs (evT b (qaI false (e.tx false 1))))] [])=some (.ret (.tup [.dat (ru Hd.none.rf.nd (Hd.some false (evS b e)).rf.nd Hd.none.rf.nd),.int 0,.int 0]) []):=by
 have hg:=qdi e h.fine
 have hn:e.nest false 1<=15:=by have:=qf9 false e 1; have:=h.dp; omega
 obtain⟨e0,hx⟩:=qq7 (b:=b) hg hn
 have hlen:(qaI false (e.tx false 1)).length<=1000:=by
  have h1:=qlS false e 1; have h2:=qj0 (e.tx false 1) false; have h3:=qcm e h.fine; have h4:=h.size; omega
 have z:=qre (qmG (b:=b) hg hn) (by rw[qa1]; cases b<;>simp[evT,i1L,i2L,s1L,s2L]<;>omega) hx
 simp only[qth] at z
 exact z
end
end
end Go.Pm
section
namespace Go.Pm.F
variable(C:Task->Option Res)(q:Nat)(fr:Fr)(σ : S)
def F330:PFun:=pf 3 [.tmp 4] (sr [mx 4 kF] [0,1,2] (.seq (.region (some []) [l1 5 1,nc 6 5,fa 7 0 6,l1 8 7,mv 9 0,jj 10 (.indexAddr 5 (.t 8) (.t 9)),fa 11 0 10,l1 12 11,l1 13 2,bn 14 .gtr 12 13,mv 4 14] [4]) .ret))
@[simp] def F353l0x:PC:=(sr [bn 20 .lss 19 18] [3,17,18,19,20] (.seq (.cond (.t 20) .skip (.exit 0)) (.seq (.block 1 (sr [jj 21 (.indexAddr 2 (.t 17) (.t 19)),la 22 2 21,jj 5 (.alloc [zN,zN]),st 2 5 22] [3,5,17,18,19] (rn [mv 23 3,fa 24 0 5,l1 25 24,fa 26 1 5,l1 27 26,jj 28 (.bslice 2 [zN,zN] [(0,1,(.t 25)),(1,1,(.t 27))]),jj 29 (.appendO 1 8 (.t 23) (.t 28)),mv 3 29] [3,17,18,19]))) (rn [bk 30 .add 19 1,mv 19 30] [3,17,18,19]))))
def F353l0:PC:=F353l0x
def F353:PFun:=pf 1 [.tmp 2] (sr [bx 1 0,jj 2 (.mov (.c (.int .u64 0)))] [1] (sr [fa 6 0 1,l1 7 6,ls 8 7,jj 9 (.bin .mul (kk 2) (.t 8)),jj 10 (.bin .add (kk 3) (.t 9)),jj 11 (.mkslice true [zN] 8 (kk 0) (.t 10)),mv 3 11] [1,3] (sr [mv 12 3,fa 13 1 1,jj 14 (.sliceA 3 1 (.t 13) none none),jj 15 (.appendO 1 8 (.t 12) (.t 14)),mv 3 15] [1,3] (.seq (sr [fa 16 0 1,l1 17 16,ls 18 17,mx 19 (kk 0)] [3,17,18,19] (.block 0 (.loop F353l0))) (sr [mv 31 3,jj 32 (.call 109 [(ks [112,114,111,103,114,97,109]),(.t 31)]),mv 2 32] [2] .ret)))))
end Go.Pm.F
end
section
namespace Go.Pm.F
variable(C:Task->Option Res)(q:Nat)(fr:Fr)(σ : S)
def F336:PFun:=pf 1 [.tmp 2] (sr [mx 2 kF] [0] (sr [mv 13 0,cl 14 227 [13],mv 3 14] [3] (sr [mv 16 3,cl 17 317 [16],mv 15 17,ex 18 15 0,ex 19 15 1,mv 4 18,mv 5 19] [3,4,5] (sr [mv 21 3,cl 22 228 [21],mv 20 22,ex 23 20 0,ex 24 20 1,ex 25 20 2,jj 6 (.alloc [zN,zN,eN,sN,zN,zN,eN,sN,zN,zN,eN,sN]),st 12 6 23,mv 7 24,mv 8 25] [4,5,6,8] (.seq (sr [mv 26 4,jj 27 (.isnil true false (.t 26))] [4,5,6,8,27] (cs 27 (sr [mv 28 5,bk 29 .neq 28 0,mv 30 29,jt 31 30 (.mov (.t 8)),jt 32 30 (.bin .neq (.t 31) (kk 0)),jt 33 30 (.mov (.t 32)),jf 34 33 (.load true 12 (.t 6)),jf 35 33 (.call 12 [(.t 34)]),jf 36 33 (.bin .neq (.t 35) (kk 0)),jt 37 30 (.pick (.t 33) kT (.t 36)),jt 38 30 (.mov (.t 37)),jf 39 38 (.load true 12 (.t 6)),jf 40 38 (.call 348 [(.t 39)]),jf 41 38 (.un .not (.t 40)),jt 42 30 (.pick (.t 38) kT (.t 41)),jj 43 (.pick (.t 30) (.t 42) kF),mv 44 43,jt 45 44 (.call 321 []),jj 46 (.pick (.t 44) (.t 45) kF),mv 2 46] [2] .ret))) (sr [la 48 12 6,cl 49 131 [48],mv 47 49,ex 50 47 0,ex 51 47 1,jj 9 (.alloc [sN,zN,zN,zN]),st 4 9 50,mv 10 51] [4,5,6,8,9,10] (sr [mv 53 4,jj 54 (.call 323 [(.t 53),(kk 5)]),mv 52 54,ex 55 52 0,ex 56 52 1,jj 12 (.alloc [sN,zN,zN,zN]),mv 11 55,st 4 12 56] [4,5,6,8,9,10,12] (.seq (sr [mv 57 5,bk 58 .neq 57 0,mv 59 58,jf 60 59 (.mov (.t 8)),jf 61 59 (.bin .neq (.t 60) (kk 0)),jj 62 (.pick (.t 59) kT (.t 61)),mv 63 62,jf 64 63 (.mov (.t 10)),jf 65 63 (.bin .neq (.t 64) (kk 0)),jj 66 (.pick (.t 63) kT (.t 65)),mv 67 66,jf 68 67 (.load true 12 (.t 6)),jf 69 67 (.call 12 [(.t 68)]),jf 70 67 (.bin .neq (.t 69) (kk 0)),jj 71 (.pick (.t 67) kT (.t 70)),mv 72 71,jf 73 72 (.load true 4 (.t 9)),jf 74 72 (.load true 4 (.t 12)),jf 75 72 (.call 346 [(.t 73),(.t 74)]),jf 76 72 (.un .not (.t 75)),jj 77 (.pick (.t 72) kT (.t 76)),mv 78 77,jf 79 78 (.load true 4 (.t 12)),jf 80 78 (.call 125 [(.t 79)]),jf 81 78 (.bin .neq (.t 80) (kk 0)),jj 82 (.pick (.t 78) kT (.t 81))] [4,12,82] (cs 82 (sr [mx 2 kF] [2] .ret))) (.seq (.region (some []) [mv 83 4,cl 84 343 [83],⟨some 85,.load true 4 (.t 12),none,[1]⟩,cl 86 349 [85],jj 87 (.bslice 2 [zN,zN] [(0,1,(kk 0)),(1,1,(.t 86))]),jj 88 (.call 109 [(ks [98,111,111,107]),(.t 87)]),bn 89 .eql 84 88,mv 90 89,jt 91 90 (.call 321 []),jj 92 (.pick (.t 90) (.t 91) kF),mv 2 92] [2] [3,5,8]) .ret)))))))))
end Go.Pm.F
end
section
namespace Go.Pm.F
def tB:Nat->Option PFun
 |15=>some F15
 |32=>some F32
 |38=>some F38
 |39=>some F39
 |131=>some F131
 |134=>some F134
 |139=>some F139
 |140=>some F140
 |147=>some F147
 |148=>some F148
 |164=>some F164
 |165=>some F165
 |166=>some F166
 |167=>some F167
 |168=>some F168
 |169=>some F169
 |180=>some F180
 |181=>some F181
 |182=>some F182
 |183=>some F183
 |184=>some F184
 |185=>some F185
 |186=>some F186
 |187=>some F187
 |188=>some F188
 |189=>some F189
 |190=>some F190
 |191=>some F191
 |200=>some F200
 |201=>some F201
 |204=>some F204
 |228=>some F228
 |239=>some F239
 |240=>some F240
 |241=>some F241
 |242=>some F242
 |249=>some F249
 |250=>some F250
 |251=>some F251
 |252=>some F252
 |253=>some F253
 |254=>some F254
 |255=>some F255
 |256=>some F256
 |264=>some F264
 |265=>some F265
 |266=>some F266
 |267=>some F267
 |268=>some F268
 |269=>some F269
 |270=>some F270
 |271=>some F271
 |275=>some F275
 |276=>some F276
 |277=>some F277
 |278=>some F278
 |279=>some F279
 |280=>some F280
 |281=>some F281
 |284=>some F284
 |285=>some F285
 |286=>some F286
 |287=>some F287
 |289=>some F289
 |290=>some F290
 |292=>some F292
 |297=>some F297
 |303=>some F303
 |304=>some F304
 |307=>some F307
 |308=>some F308
 |309=>some F309
 |_=>none
end Go.Pm.F
end
namespace Go.Pm
section
open F
structure Vr where
 t:Int
 c:D
 a:Int
 b:Int
 e:Int
 one:V.one (.dat c)=true
 cl:V.cells (.dat c)=[.dat c]
end
section
open F
def tH:Nat->Option PFun
 |109=>some F109
 |110=>some F110
 |111=>some F111
 |112=>some F112
 |113=>some F113
 |_=>none
end
section
open Gr
structure Sl(C:Int->Cd)(n:Nat)(k M:Int)(D:Nat->Int):Prop where
 ln:Ln C n
 op : ∀ p i,i<n->opA (C p) i≠18/\opA (C p) i≠19/\opA (C p) i≠21
 beg:D 0=0
 fin:D n=k
 step : ∀ p i,i<n->D (i+1)=D i+(qdp (opA (C p) i)-qeC (opA (C p) i))
 le : ∀ i,i<n->D (i+1)<=M
 at_ : ∃ i,i<n/\D (i+1)=M
end
section
open F
def qys:List (Value × V):=[(.string ⟨#[43]⟩,.dat (.agg [.lit (.int .i64 1),.lit (.int .i64 1)])),(.string ⟨#[45]⟩,.dat (.agg [.lit (.int .i64 1),.lit (.int .i64 1)])),(.string ⟨#[42]⟩,.dat (.agg [.lit (.int .i64 1),.lit (.int .i64 1)])),(.string ⟨#[47]⟩,.dat (.agg [.lit (.int .i64 1),.lit (.int .i64 1)])),
 (.string ⟨#[60]⟩,.dat (.agg [.lit (.int .i64 1),.lit (.int .i64 2)])),(.string ⟨#[60,61]⟩,.dat (.agg [.lit (.int .i64 1),.lit (.int .i64 2)])),(.string ⟨#[62]⟩,.dat (.agg [.lit (.int .i64 1),.lit (.int .i64 2)])),(.string ⟨#[62,61]⟩,.dat (.agg [.lit (.int .i64 1),.lit (.int .i64 2)])),
 (.string ⟨#[61,61]⟩,.dat (.agg [.lit (.int .i64 1),.lit (.int .i64 2)])),(.string ⟨#[33,61]⟩,.dat (.agg [.lit (.int .i64 1),.lit (.int .i64 2)])),(.string ⟨#[38,38]⟩,.dat (.agg [.lit (.int .i64 2),.lit (.int .i64 2)])),(.string ⟨#[124,124]⟩,.dat (.agg [.lit (.int .i64 2),.lit (.int .i64 2)]))]
@[simp] theorem qxN:qg6 qys=[]:=rfl
@[simp] theorem qyt(r:Nat->Nat):qqn r qys=qys:=rfl
@[simp] theorem qzJ:eqS ⟨#[33]⟩ ⟨#[45]⟩=false:=by kernel_rfl
@[simp] theorem qzK:eqS ⟨#[45]⟩ ⟨#[45]⟩=true:=by kernel_rfl
@[simp] theorem qzL:ustr true=⟨#[45]⟩:=rfl
@[simp] theorem qzM:ustr false=⟨#[33]⟩:=rfl
section
variable{e a b:E}{f:Bool}{s:ByteArray}
set_option maxHeartbeats 1000000 in
end
end
section
open F
@[simp] theorem qxQ:eqS ⟨#[33]⟩ ⟨#[33]⟩=true:=by kernel_rfl
@[simp] theorem qxR:eqS ⟨#[45]⟩ ⟨#[33]⟩=false:=by kernel_rfl
attribute [local simp] qad qac V.len qag
section
variable{e a b:E}{f:Bool}{s:ByteArray}
set_option maxHeartbeats 1000000 in
end
end
section
open F Gr
set_option maxHeartbeats 4000000
def cdV(K:Cd):List (Nat × Int):=K.map fun x=>(x.1.toNat,x.2)
theorem quG{K:Cd}(h : ∀ x∈K,1<=x.1/\x.1<=21):ql2 K=codeDV false (cdV K):=by
 have hc : ∀ K:Cd,(∀ x∈K,1<=x.1/\x.1<=21)->icC K=qcu (cdV K):=fun K h=>by
  induction K with
  |nil=>rfl
  |cons x K ih=>
   have h1:=(h x (WQ ..)).1
   have e:icC (x::K)=[.lit (.int .i64 x.1),.lit (.int .i64 x.2)]++icC K:=rfl
   rw[e,ih fun y hy=>h y (Wz _ hy)]
   have e2:((x.1.toNat:Nat):Int)=x.1:=by omega
   simp[cdV,qcu,e2]
 cases K with
 |nil=>rfl
 |cons x K=>
  show D.sl (icC (x::K)) (x::K).length false=_
  rw[hc _ h]
  simp[codeDV,cdV]
end
section
open F Gr
set_option maxHeartbeats 8000000
theorem qq9(K:Cd):CAt (cdV K) 0 K:=fun i hi=>by
 refine⟨by simpa [cdV] using hi,?_⟩
 simp[cdV,Wn,hi]
theorem qra{w:List Int}(h48:48<=w.length)(h9:getN w 9=1)(h10:getN w 10=2):St w 0 1000 [] (qhL w 0 1000 1 2):=by
 unfold qhL
 refine⟨by simp,?_,?_,?_,fun j h6 h7 h8 hj=>?_,fun k hk=>by simp at hk⟩
 ·rw[qam (by decide),qam (by decide),qam (by decide),qam (by decide),qax (by decide) (by omega)]; rfl
 ·rw[qam (by decide),qam (by decide),qam (by decide),qax (by decide) (by simp; omega)]; rfl
 ·rw[qam (by decide),qam (by decide),qax (by decide) (by simp; omega)]
 ·by_cases e10:j=10
  ·rw[e10,qax (by decide) (by simp; omega),h10]
  ·rw[qam (by simp; omega)]
   by_cases e9:j=9
   ·rw[e9,qax (by decide) (by simp; omega),h9]
   ·rw[qam (by simp; omega),qam (by simp; omega),qam (by simp; omega),qam (by simp; omega)]
def veG(s:Su)(w:List Int)(e:E)(d3:D)(A B C:Nd)(c:List (Nat × Int))(e0 e1 e2:Int)(cs:List Int)(N:Nat)(lg:List D)(k:Nat)(j:Int):S:=
 [qhk s,.froz (qan w),.cells [.dat d3,.int j],qh3 e,qpJ A B C,.cells [.dat (codeDV false c),.int e0,.int e1,.int e2],.cells [.msl 7 0 N N 1,.gsl lg k 2 8,.int 0],.cells (qbz cs),.tip (k*2)]
section
variable{prog:Nat->Option PFun}(hb:Sub qae prog)(sp:Sub tP prog)(ss:Sub tS prog)(sv:Sub qab prog)(h350:prog 350=some F350)
include sv in
theorem qst {s:Su} {c:List (Nat × Int)} {e0 e1 e2 v:Int} {w:List Int} {e:E} {N:Nat} (hs:s.ok) (hn:N=s.n) (hwl:w.length=N) (hc : ∀ x∈c,1<=x.1/\x.1<=21) (hcl:c.length<2 ^ 30) (hev:EvK prog s w N v e) :
  ∀ (m i:Nat) (cs cs':List Int) (lg:List D) (k:Nat),cs.length=N->lg.length=k*2->k+6*m<10000->i+m<1000->Run s c m cs cs'->(qbY s c cs').ended=true->getN (qbY s c cs').cs (bodyI s 0+4).toNat=ev s w v e ->
   ∃ fr σ,Z prog (.loop 0 F360l1 (veF N v i) (veS s w e c e0 e1 e2 cs N lg k))=some (.out (.exit 2) fr σ) /\ ∃ σ2,run (Z prog) 0 veR fr σ = some (.ret,[(10,.bool true)],σ2)
 |0,i,cs,cs',lg,k,hN,hl,hk,hi,hr,he,hv=>by
  cases hr
  obtain⟨x1,x2,x3,x4,hx⟩:=qjc s c cs
  obtain⟨lg',k',h1,h2,h3⟩:=qAd s c false e0 e1 e2 cs N lg k hl (by omega) hs hN hn hc hcl
  rw[StR.v,hx,he] at h3
  exact quu sv hs hn hwl (by rw[qg1]; exact hN) (by omega) hv hev (qcy sv h3)
 |m+1,i,cs,cs',lg,k,hN,hl,hk,hi,hr,he,hv=>by
  obtain⟨x1,x2,x3,x4,hx⟩:=qjc s c cs
  obtain⟨lg',k',h1,h2,h3⟩:=qAd s c false e0 e1 e2 cs N lg k hl (by omega) hs hN hn hc hcl
  rw[StR.v,hx,hr.1] at h3
  rw[qzd (by omega) (qcy sv h3)]
  exact qst hs hn hwl hc hcl hev m (i+1) _ cs' lg' k' (by rw[qg1]; exact hN) h1 (by omega) (by omega) hr.2 he hv
include hb sp ss sv h350 in
theorem qjQ (hF:prog 360=some F360) (h359:prog 359=some F359) {d1 d2 d3:D} {xs1 xs2 xs3:List Int} (h1:IsRow d1 xs1) (i1 : ∀ x∈xs1,I64 x) (h2:IsRow d2 xs2) (i2 : ∀ x∈xs2,I64 x) (h3:RowV d3 xs3) (i3 : ∀ x∈xs3,I64 x) (hl3:xs3.length<=9223372036854775807) {a:Int} (ha:I64 a) (bo:Bool) :
  Z prog (.call 360 [.dat d1,.dat d2,.dat d3,.int a,.bool bo] [])=some (.ret (.bool true) []):=by
 obtain⟨s,bs',hs,hbb,hbl,zs⟩:=qtG h1 i1
 obtain⟨w,hw,zw⟩:=qrm sv h359 s hs bs' hbb hbl h2 i2
 have hp:=hs.p3; have hq:=hs.b5
 have hN:48<=s.n/\s.n<1000:=by unfold Su.n; omega
 have za:=qcy sv (qed ha (m:=2001) (by omega))
 have rA:=around_lt ha (m:=2001) (by omega)
 generalize around a 2001=A at *
 obtain⟨v,hv⟩ : ∃ v,v=A-1000:=⟨_,rfl⟩
 have w1:IntKind.i64.wrap (A-1000)=v:=by rw[hv]; exact qaf _ (by omega)
 have zf:=qkY (prog:=prog) (s:=s) (d2:=d3) (bo:=bo) (v:=v) hw hN.1 16 0 (by omega)
 have fget:=fun k (h:k<16)=>qkX v (by omega) 16 k h (w:=w) (by omega)
 have flen:(fillN w v 16).length=s.n:=by simp[hw]
 rw[show fillN w v 0=w from rfl,show ((0:Nat):Int)=0 from rfl] at zf
 generalize fillN w v 16=w2 at *
 obtain⟨w3,hw3⟩ : ∃ w3,w3=qaK w2 9 1:=⟨_,rfl⟩
 obtain⟨w4,hw4⟩ : ∃ w4,w4=qaK w3 10 2:=⟨_,rfl⟩
 have l3:w3.length=s.n:=by rw[hw3]; simp[flen]
 have l4:w4.length=s.n:=by rw[hw4]; simp[l3]
 have g9:getN w4 9=1:=by rw[hw4,qam (by decide),hw3,qax (by decide) (by omega)]
 have g10:getN w4 10=2:=by rw[hw4,qax (by decide) (by omega)]
 have gv : ∀ k:Nat,k<16->getN w4 (32+k)=v:=fun k hk=>by rw[hw4,qam (by simp; omega),hw3,qam (by simp; omega),fget k hk]
 have n10:10<=s.n:=by omega
 have n11:11<=s.n:=by omega
 have o9:=qk1 1 s.n 9 (by omega) (by omega)
 have o10:=qk1 1 s.n 10 (by omega) (by omega)
 have f9:(qbz w2).take 9++(V.int 1::(qbz w2).drop 10)=qbz w3:=by rw[hw3]; exact qbH w2 9 1 (by omega)
 have f10:(qbz w3).take 10++(V.int 2::(qbz w3).drop 11)=qbz w4:=by rw[hw4]; exact qbH w3 10 2 (by omega)
 have zs:=qcy sv zs
 have zn:=qcy sv (qwg w4 s.n false l4 (by omega))
 have zl:=qcy sv qoq
 have key : ∀ e:E,EvE bo e -> ∃ (A B C:Nd) (c:List (Nat × Int)) (x0 x2:Int) (cs0:List Int) (lg:List D) (k:Nat) (fr:Fr) (σ σ2:S),
   Z prog (.call 228 [.str (bs (evT bo (qaI false (e.tx false 1))))] [])=some (.ret (.tup [.dat (ru A B C),.int 0,.int 0]) []) /\
   Z prog (.call 131 [.dat (ru A B C)] [])=some (.ret (.tup [qbZ false c x0 0 x2,.int 0]) []) /\
   Z prog (.call 49 [.iface 0 (.ptr 0 0),qbZ false c x0 0 x2,.int 1,.int 1,.int 2,.int 1000] (qc2 w4 s.n))=some (.ret (.bool true) (qak cs0 s.n lg k (k*2))) /\
   (∀ j,Z prog (.loop 0 F360l1 [(11,.ptr 0 0),(12,.own 1 s.n 1),(13,.int v),(16,.ptr 3 0),(21,.ptr 5 0),(23,.ptr 6 0),(24,.int 0)] (veG s w4 e d3 A B C c x0 0 x2 cs0 s.n lg k j))=some (.out (.exit 2) fr σ))/\run (Z prog) 0 veR fr σ = some (.ret,[(10,.bool true)],σ2):=fun e he=>by
  obtain⟨vs,x0,x2,hvs,hin,hop,zc⟩:=qqj he
  have zp:=qcy sp (qoi he)
  have zc:=qcy hb zc
  rw[quG hop] at zc
  have hops : ∀ x∈cdV (codeS vs (evS bo e) 0++[(21,0)]),1<=x.1/\x.1<=21:=fun x hx=>by
   obtain⟨y,hy,rfl⟩:=Ye.1 hx
   have:=hop y hy
   show 1<=y.1.toNat/\y.1.toNat<=21
   omega
  have hcl:(cdV (codeS vs (evS bo e) 0++[(21,0)])).length<2 ^ 30:=by
   have:=(qjv he vs 0).2
   simp[cdV]; omega
  have hcat:=qq9 (codeS vs (evS bo e) 0++[(21,0)])
  obtain⟨lg,k,b1,b2,zb⟩:=qqc (cdV (codeS vs (evS bo e) 0++[(21,0)])) false x0 0 x2 1 1 2 1000 w4 s.n l4 hN.1 (by unfold qiM; omega)
  rw[show qiM x0 0 x2 1=0 from rfl] at zb
  have hst:=qra (w:=w4) (by omega) g9 g10
  have hv4:=qkI hb sv h350 hs l4 rfl (v:=v) e he.fine
  have hhh:=(qsh he).2
  obtain⟨m,cs',R,hm,hend,hval⟩ : ∃ (m:Nat) (cs':List Int),Run s (cdV (codeS vs (evS bo e) 0++[(21,0)])) m (qhL w4 0 1000 1 2) cs'/\m<=520/\(qbY s (cdV (codeS vs (evS bo e) 0++[(21,0)])) cs').ended=true/\getN (qbY s (cdV (codeS vs (evS bo e) 0++[(21,0)])) cs').cs (plI s).toNat=ev s w4 v e:=by
   cases bo
   ·exact qtS hs l4 hcl hvs gv he.fine hin (by omega) (by have:=(qjv he vs 1).1; omega) hcat hst
   ·exact qwx hs l4 hcl hvs gv he.fine hin (by omega) he.ty (by have:=(qjv he vs 0).1; omega) hcat hst
  obtain⟨fr,σ,zl1,σ2,zr⟩:=qst (e0:=x0) (e1:=0) (e2:=x2) sv hs rfl l4 hops hcl hv4 m 0 _ cs' lg k (by rw[qjD]; exact l4) b1 (by omega) (by omega) R hend hval
  refine⟨_,_,_,_,x0,x2,_,lg,k,fr,σ,σ2,zp,zc,qcy sv zb,fun j=>(qal ?_).trans zl1,zr⟩
  have o:V.one (.dat (codeDV false (cdV (codeS vs (evS bo e) 0++[(21,0)]))))=true:=by cases cdV (codeS vs (evS bo e) 0++[(21,0)])<;>simp[codeDV]
  generalize codeDV false (cdV (codeS vs (evS bo e) 0++[(21,0)]))=cD at *
  have o1:=qgd e
  have c1:=qd3 e
  have k0:=h3.one
  have k1:=h3.cells
  simp[gcF,veG,veF,veS,qh3,qhk,Su.c,Wa,o,o1,c1,k0,k1]
 obtain⟨e1,j1,⟨f1,t1,p1,q1,_⟩,hj1,z1⟩:=qoH (v:=d3) (B:=9223372036854775807) i3 ⟨h3,by omega,by omega⟩ 3 3 0 (by omega) (by omega) (by omega)
 obtain⟨e2,j2,⟨f2,t2,p2,q2,_⟩,hj2,z2⟩:=qoJ (v:=d3) (B:=9223372036854775807) i3 ⟨h3,by omega,by omega⟩ 3 3 j1 (by omega) (by omega) (by omega) hj1
 have m3:mxs (3:Int).toNat=15:=rfl
 have m4:mxs ((3:Int).toNat+1)=31:=rfl
 have t3:(3:Int).toNat=3:=rfl
 have zt : ∀ e:E,e.fine->e.size<=31->Z prog (.call 234 [e.node] [])=some (.ret (.str (bs (qaI false (e.tx false 1)))) []):=fun e hf hz=>
  qcy ss (qwl (qdi e hf) (by have h1:=qlS false e 1; have h2:=qj0 (e.tx false 1) false; have h3:=qcm e hf; omega))
 have y1:=zt e1 f1 (by omega)
 have y2:=zt e2 f2 (by omega)
 have z1:=qcy hb z1
 have z2:=qcy hb z2
 have o1:=qgd e1
 have c1:=qd3 e1
 have o2:=qgd e2
 have c2:=qd3 e2
 have k0:=h3.one
 have k1:=h3.cells
 have hT1:(⟨#[111,110,32,116,105,99,107,123,97,91,48,93,61]⟩++bs (qaI false (e1.tx false 1)):ByteArray)++⟨#[59,125]⟩=bs (evT false (qaI false (e1.tx false 1))):=by
  rw[qcL,qcL _ (bs _),qbg,qbg,Wo]; rfl
 have hT2:(⟨#[111,110,32,116,105,99,107,123,105,102,32]⟩++bs (qaI false (e2.tx false 1)):ByteArray)++⟨#[123,97,91,48,93,61,49,59,125,101,108,115,101,123,97,91,48,93,61,48,59,125,125]⟩=bs (evT true (qaI false (e2.tx false 1))):=by
  rw[qcL,qcL _ (bs _),qbg,qbg,Wo]; rfl
 have u1:(⟨#[111,110,32,116,105,99,107,123,97,91,48,93,61]⟩:ByteArray).size=13:=rfl
 have u2:(⟨#[59,125]⟩:ByteArray).size=2:=rfl
 have u3:(⟨#[111,110,32,116,105,99,107,123,105,102,32]⟩:ByteArray).size=11:=rfl
 have u4:(⟨#[123,97,91,48,93,61,49,59,125,101,108,115,101,123,97,91,48,93,61,48,59,125,125]⟩:ByteArray).size=23:=rfl
 have hsz : ∀ e:E,e.fine->e.size<=31->(bs (qaI false (e.tx false 1))).size<=1000:=fun e hf hz=>by
  have h1:=qlS false e 1; have h2:=qj0 (e.tx false 1) false; have h3:=qcm e hf
  rw[qa1]; omega
 have l1:=hsz e1 f1 (by omega)
 have l2:=hsz e2 f2 (by omega)
 cases bo
 ·obtain⟨A,B,C,c,x0,x2,cs0,lg,k,fr,σ,σ2,kp,kc,kb,kl,kr⟩:=key e1 ⟨f1,t1,by omega,by omega⟩
  rw[<- hT1] at kp
  have o:V.one (.dat (codeDV false c))=true:=by cases c<;>simp[codeDV]
  have oc:V.cells (.dat (codeDV false c))=[.dat (codeDV false c)]:=by cases c<;>simp[codeDV]
  clear key zt hsz hT1 hT2 gv fget f1 f2 t1 t2 q1 q2 hw3 hw4
  simp only[E.node,qsU,evF,veG,qh3,qhk,qc2,qak,qbZ,ru,Su.d,Su.c,List.map] at *
  generalize e1.kids=ks1 at *
  generalize e2.kids=ks2 at *
  generalize bs (qaI false (e1.tx false 1))=T1 at *
  generalize codeDV false c=cD at *
  have n1 : ¬ 9223372036854775807<13+(T1.size:Int):=by omega
  have n2 : ¬ 9223372036854775807<13+(T1.size:Int)+2:=by omega
  refine qaa hF rfl ?_
  simp (config:={ maxSteps:=2000000,implicitDefEqProofs:=false }) [F360,u1,u2,u3,u4,n1,n2,W1,zs,zw,za,w1,zf,n10,n11,o9,o10,f9,f10,l3,l4,flen,z1,y1,kp,kc,kb,kl,kr,zn,zl,o1,c1,k0,k1,o,oc,hw,kr,Wa]
 ·obtain⟨A,B,C,c,x0,x2,cs0,lg,k,fr,σ,σ2,kp,kc,kb,kl,kr⟩:=key e2 ⟨f2,t2,by omega,by omega⟩
  rw[<- hT2] at kp
  have o:V.one (.dat (codeDV false c))=true:=by cases c<;>simp[codeDV]
  have oc:V.cells (.dat (codeDV false c))=[.dat (codeDV false c)]:=by cases c<;>simp[codeDV]
  clear key zt hsz hT1 hT2 gv fget f1 f2 t1 t2 q1 q2 hw3 hw4
  simp only[E.node,qsU,evF,veG,qh3,qhk,qc2,qak,qbZ,ru,Su.d,Su.c,List.map] at *
  generalize e1.kids=ks1 at *
  generalize e2.kids=ks2 at *
  generalize bs (qaI false (e1.tx false 1))=T1 at *
  generalize bs (qaI false (e2.tx false 1))=T2 at *
  generalize codeDV false c=cD at *
  have n1 : ¬ 9223372036854775807<13+(T1.size:Int):=by omega
  have n2 : ¬ 9223372036854775807<13+(T1.size:Int)+2:=by omega
  have n3 : ¬ 9223372036854775807<11+(T2.size:Int):=by omega
  have n4 : ¬ 9223372036854775807<11+(T2.size:Int)+23:=by omega
  refine qaa hF rfl ?_
  simp (config:={ maxSteps:=2000000,implicitDefEqProofs:=false }) [F360,u1,u2,u3,u4,n1,n2,n3,n4,W1,zs,zw,za,w1,zf,n10,n11,o9,o10,f9,f10,l3,l4,flen,z1,y1,z2,y2,kp,kc,kb,kl,kr,zn,zl,o1,c1,o2,c2,k0,k1,o,oc,hw,kr,Wa]
end
end
end Go.Pm
section
namespace Go.Pm.F
def prog17e:Nat->Option PFun
 |15=>some F15
 |17=>some F17
 |20=>some F20
 |32=>some F32
 |38=>some F38
 |39=>some F39
 |45=>some F45
 |46=>some F46
 |49=>some F49
 |50=>some F50
 |51=>some F51
 |52=>some F52
 |55=>some F55
 |60=>some F60
 |61=>some F61
 |62=>some F62
 |63=>some F63
 |64=>some F64
 |65=>some F65
 |66=>some F66
 |71=>some F71
 |74=>some F74
 |75=>some F75
 |76=>some F76
 |77=>some F77
 |78=>some F78
 |81=>some F81
 |82=>some F82
 |83=>some F83
 |84=>some F84
 |85=>some F85
 |86=>some F86
 |87=>some F87
 |88=>some F88
 |89=>some F89
 |90=>some F90
 |91=>some F91
 |92=>some F92
 |93=>some F93
 |94=>some F94
 |95=>some F95
 |96=>some F96
 |97=>some F97
 |98=>some F98
 |99=>some F99
 |100=>some F100
 |101=>some F101
 |102=>some F102
 |103=>some F103
 |104=>some F104
 |105=>some F105
 |106=>some F106
 |107=>some F107
 |108=>some F108
 |109=>some F109
 |110=>some F110
 |111=>some F111
 |112=>some F112
 |113=>some F113
 |114=>some F114
 |131=>some F131
 |134=>some F134
 |136=>some F136
 |139=>some F139
 |140=>some F140
 |147=>some F147
 |148=>some F148
 |161=>some F161
 |164=>some F164
 |165=>some F165
 |166=>some F166
 |167=>some F167
 |168=>some F168
 |169=>some F169
 |176=>some F176
 |177=>some F177
 |178=>some F178
 |179=>some F179
 |180=>some F180
 |181=>some F181
 |182=>some F182
 |183=>some F183
 |184=>some F184
 |185=>some F185
 |186=>some F186
 |187=>some F187
 |188=>some F188
 |189=>some F189
 |190=>some F190
 |191=>some F191
 |192=>some F192
 |193=>some F193
 |200=>some F200
 |201=>some F201
 |204=>some F204
 |228=>some F228
 |234=>some F234
 |239=>some F239
 |240=>some F240
 |241=>some F241
 |242=>some F242
 |246=>some F246
 |247=>some F247
 |249=>some F249
 |250=>some F250
 |251=>some F251
 |252=>some F252
 |253=>some F253
 |254=>some F254
 |255=>some F255
 |256=>some F256
 |261=>some F261
 |262=>some F262
 |264=>some F264
 |265=>some F265
 |266=>some F266
 |267=>some F267
 |268=>some F268
 |269=>some F269
 |270=>some F270
 |271=>some F271
 |275=>some F275
 |276=>some F276
 |277=>some F277
 |278=>some F278
 |279=>some F279
 |280=>some F280
 |281=>some F281
 |284=>some F284
 |285=>some F285
 |286=>some F286
 |287=>some F287
 |289=>some F289
 |290=>some F290
 |292=>some F292
 |297=>some F297
 |303=>some F303
 |304=>some F304
 |307=>some F307
 |308=>some F308
 |309=>some F309
 |350=>some F350
 |1000=>some F1000
 |359=>some F359
 |360=>some F360
 |_=>none
end Go.Pm.F
end
namespace Go.Pm
section
open F
theorem qo5:Sub qae prog17e:=fun f pf h=>by
 unfold qae at h
 split at h<;>first | (cases h; rfl) | cases h
theorem qtU:Sub tP prog17e:=fun f pf h=>by
 unfold tP at h
 split at h<;>first | (cases h; rfl) | cases h
theorem qtV:Sub tS prog17e:=fun f pf h=>by
 unfold tS at h
 split at h<;>first | (cases h; rfl) | cases h
theorem qtW:Sub qab prog17e:=fun f pf h=>by
 unfold qab at h
 split at h<;>first | (cases h; rfl) | cases h
theorem evals16_Z {d1 d2 d3:D} {xs1 xs2 xs3:List Int} (h1:IsRow d1 xs1) (i1 : ∀ x∈xs1,I64 x) (h2:IsRow d2 xs2) (i2 : ∀ x∈xs2,I64 x) (h3:RowV d3 xs3) (i3 : ∀ x∈xs3,I64 x) (hl3:xs3.length<=9223372036854775807) {a:Int} (ha:I64 a) {bo:Bool} :
  Z prog17e (.call 360 [.dat d1,.dat d2,.dat d3,.int a,.bool bo] [])=some (.ret (.bool true) []):=
 qjQ qo5 qtU qtV qtW rfl rfl rfl h1 i1 h2 i2 h3 i3 hl3 ha bo
end
end Go.Pm
