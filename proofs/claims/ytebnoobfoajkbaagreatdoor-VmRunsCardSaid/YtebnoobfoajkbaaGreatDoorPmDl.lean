/- Chapter 15: the program's Compile, whole. -/
import Derived.Test.YtebnoobfoajkbaaGreatDoorPmAL
import Derived.Test.YtebnoobfoajkbaaGreatDoorPmCm
import Derived.Test.YtebnoobfoajkbaaGreatDoorPmHv
import Derived.Test.YtebnoobfoajkbaaGreatDoorPmR
import Derived.Test.YtebnoobfoajkbaaGreatDoorPmG1
import Derived.Laws.BitsAllLaws
import Derived.Laws.Bits64
set_option linter.unusedSimpArgs false
set_option linter.unusedVariables false
set_option maxHeartbeats 4000000
namespace Go.Pm
section
open F Gr
set_option maxHeartbeats 2000000
attribute [local simp] qbe qbK dkey qga
section
variable{a b c:Hd}
theorem qmd:(rvars a.nd b.nd c.nd).Nodup:=qhi _ _ (by simp)
theorem qpQ (fa:a.fine) (fb:b.fine) (fc:c.fine) {m0 m1 m2:Int} (d0:DepIs (qd5 (rvars a.nd b.nd c.nd) a b c) (qhO a) m0) (d1:DepIs (qd5 (rvars a.nd b.nd c.nd) a b c) (qhy (rvars a.nd b.nd c.nd) a b) m1) (d2:DepIs (qd5 (rvars a.nd b.nd c.nd) a b c) (qhP (rvars a.nd b.nd c.nd) a b c) m2) :
  Z qaf (.call 131 [.dat (ru a.nd b.nd c.nd)] [])=some (.ret (qwC (qd5 (rvars a.nd b.nd c.nd) a b c) (qhO a) (qhy (rvars a.nd b.nd c.nd) a b) (qhP (rvars a.nd b.nd c.nd) a b c) m0 m1 m2) []):=by
 have l4:=qjh fa.fine fb.fine fc.fine
 have sa:=qwD a fa
 have sb:=qwD b fb
 have sc:=qwD c fc
 have zv:=qiN qgx (qmy (a:=a.nd) (b:=b.nd) (c:=c.nd) (by omega) (by omega) (by omega))
 obtain⟨ia,ib,ic⟩:=qmX (a:=a) (b:=b) (c:=c)
 obtain⟨n,D,g,p0,p1,p2⟩:=qpT (vs:=rvars a.nd b.nd c.nd) (by omega) fa.fine fb.fine fc.fine ia ib ic
 obtain⟨σ,hst,hloop⟩:=qAK (vs:=rvars a.nd b.nd c.nd) fa fb fc ia ib ic
 have hlen:=qqY (vs:=rvars a.nd b.nd c.nd) fa fb fc
 have hn:(qd5 (rvars a.nd b.nd c.nd) a b c).length=n:=g.ln 0
 have hvl:=qtN a.nd b.nd c.nd (vs:=rvars a.nd b.nd c.nd) (by omega) qmd (rvars a.nd b.nd c.nd).length 0 (by omega)
 rw[List.take_zero] at hvl
 have q0:0<=qhO a->qgT (qd5 (rvars a.nd b.nd c.nd) a b c) (qhO a) (qhy (rvars a.nd b.nd c.nd) a b) (qhP (rvars a.nd b.nd c.nd) a b c) (qhO a) (decide (m0<=16)):=fun h=>by
  rcases p0 with p|⟨x,y,z⟩
  ·omega
  ·exact qmg g (by omega) _ _ _ x y z d0
 have q1:0<=qhy (rvars a.nd b.nd c.nd) a b->qgT (qd5 (rvars a.nd b.nd c.nd) a b c) (qhO a) (qhy (rvars a.nd b.nd c.nd) a b) (qhP (rvars a.nd b.nd c.nd) a b c) (qhy (rvars a.nd b.nd c.nd) a b) (decide (m1<=16)):=fun h=>by
  rcases p1 with p|⟨x,y,z⟩
  ·omega
  ·exact qmg g (by omega) _ _ _ x y z d1
 have q2:0<=qhP (rvars a.nd b.nd c.nd) a b c->qgT (qd5 (rvars a.nd b.nd c.nd) a b c) (qhO a) (qhy (rvars a.nd b.nd c.nd) a b) (qhP (rvars a.nd b.nd c.nd) a b c) (qhP (rvars a.nd b.nd c.nd) a b c) (decide (m2<=16)):=fun h=>by
  rcases p2 with p|⟨x,y,z⟩
  ·omega
  ·exact qmg g (by omega) _ _ _ x y z d2
 have w0:qhO a<0->decide (m0<=16)=true:=fun h=>by rw[d0.1 h]; rfl
 have w1:qhy (rvars a.nd b.nd c.nd) a b<0->decide (m1<=16)=true:=fun h=>by rw[d1.1 h]; rfl
 have w2:qhP (rvars a.nd b.nd c.nd) a b c<0->decide (m2<=16)=true:=fun h=>by rw[d2.1 h]; rfl
 clear d0 d1 d2 g
 generalize rvars a.nd b.nd c.nd=vs at *
 generalize hC:qd5 vs a b c=C at *
 generalize hE0:qhO a=e0 at *
 generalize hE1:qhy vs a b=e1 at *
 generalize hE2:qhP vs a b c=e2 at *
 have hcond:(16<m0\/16<m1\/16<m2)↔(decide (m0<=16)&&(decide (m1<=16)&&decide (m2<=16)))=false:=by
  rw[W3,W3,decide_eq_false_iff_not,decide_eq_false_iff_not,decide_eq_false_iff_not]
  omega
 have hv':=(qam (prog:=qaf) (k:=0) (b:=F131l0) (fr:=[(1,.ptr 0 0),(2,.ptr 1 0),(4,.ptr 3 0),(17,.dat (qmt vs)),(18,.int vs.length),(19,.int 0)]) (σ := [qhD a.nd b.nd c.nd,zP,.map [],qnS 0 0 0 2]) (by simp[yFr,ySt,mapM,Wa])).trans hvl
 have hloop':=(qam (prog:=qaf) (k:=0) (b:=F131l1) (fr:=[(2,.ptr 1 0),(4,.ptr 2 0),(33,.dat (ru a.nd b.nd c.nd)),(34,.int 0)]) (σ := [qhD a.nd b.nd c.nd,zP,qnS 0 0 0 3,mpo vs]) (by simp[jFr,Wa])).trans hloop
 simp only[qhD,zP,Nd.d,qBb,qBc,qBd,qBe,qs8,yFr,jFr,ru,Wi,Wc] at hv' hloop'
 simp only[ru,Nd.d,qBb,qBc,qBd,qBe,qs8] at zv
 refine qab (pf:=F131) rfl rfl ?_
 unfold qwC
 cases hst with
 |nil=>
  have hn0:n=0:=by rw[<- hn]; rfl
  obtain⟨σ',hk,z⟩:=qyi (KSt.nil (e0:=e0) (e1:=e1) (e2:=e2) (by omega)) q0 w0 q1 w1 q2 w2
  have h400 : ¬ 400<([]:Cd).length:=by simp
  rw[if_neg h400]
  replace z:=(qam (prog:=qaf) (k:=0) (b:=F131l2) (fr:=[(2,.ptr 0 0),(9,.ptr 3 0),(86,.dat (.agg [.lit (.int .i64 e0),.lit (.int .i64 e1),.lit (.int .i64 e2)])),(87,.int 0)]) (σ := [zP,qnS e0 e1 e2 2,mpo vs,.cells [.dat (.lit (.slice none 0 0)),.int e0,.int e1,.int e2]]) (by simp[Wa])).trans z
  by_cases hb:16<m0\/16<m1\/16<m2
  ·rw[hcond.1 hb] at z
   rw[if_pos hb]
   cases hk with
   |nil=>simp[F131,ru,Nd.d,zv,hv',hloop',z,pgD,qoM,qdN,qaI,qan,Wa]
   |vec _ g=>exact absurd rfl g
   |froz _ g=>exact absurd rfl g
  ·have hb':(decide (m0<=16)&&(decide (m1<=16)&&decide (m2<=16)))=true:=by
    rw[<- Bool.not_eq_false,<- hcond]; exact hb
   rw[hb'] at z
   rw[if_neg hb]
   cases hk with
   |nil=>simp[F131,ru,Nd.d,zv,hv',hloop',z,pgD,qoM,qdN,qaI,qan,Wa]
   |vec _ g=>exact absurd rfl g
   |froz _ g=>exact absurd rfl g
 |gr _ hne=>
  have hdat:=qjX C
  have hvl:=qfO C
  rw[qti hne]
  by_cases h4:400<C.length
  ·rw[if_pos h4]
   have h4':(400:Int)<C.length:=by omega
   simp[F131,ru,Nd.d,zv,hv',hloop',pgD,qcK,h4',qaI,qan,Wa]
  rw[if_neg h4]
  have h4' : ¬ (400:Int)<C.length:=by omega
  obtain⟨σ',hk,z⟩:=qyi (KSt.vec (e0:=e0) (e1:=e1) (e2:=e2) C hne) q0 w0 q1 w1 q2 w2
  replace z:=(qam (prog:=qaf) (k:=0) (b:=F131l2) (fr:=[(2,.ptr 0 0),(9,.ptr 4 0),(86,.dat (.agg [.lit (.int .i64 e0),.lit (.int .i64 e1),.lit (.int .i64 e2)])),(87,.int 0)]) (σ := [zP,cob e0 e1 e2 2 C.length 3,.vec (icV C),mpo vs,.cells [.own 2 C.length 2,.int e0,.int e1,.int e2]]) (by simp[Wa])).trans z
  by_cases hb:16<m0\/16<m1\/16<m2
  ·rw[hcond.1 hb] at z
   rw[if_pos hb]
   cases hk with
   |nil=>exact absurd rfl hne
   |vec _ g=>simp[F131,ru,Nd.d,zv,hv',hloop',z,pgD,qcK,h4',qaI,qan,Wa]
   |froz _ g=>simp[F131,ru,Nd.d,zv,hv',hloop',z,pgD,qcK,h4',qaI,qan,Wa]
  ·have hb':(decide (m0<=16)&&(decide (m1<=16)&&decide (m2<=16)))=true:=by
    rw[<- Bool.not_eq_false,<- hcond]; exact hb
   rw[hb'] at z
   rw[if_neg hb]
   cases hk with
   |nil=>exact absurd rfl hne
   |vec _ g=>simp[F131,ru,Nd.d,zv,hv',hloop',z,pgD,qcK,h4',hdat,hvl,qaI,qan,Wa]
   |froz _ g=>simp[F131,ru,Nd.d,zv,hv',hloop',z,pgD,qcK,h4',hdat,hvl,qaI,qan,Wa]
end
end
section
def qvf(u:ByteArray):Prop:=(byl u).head?≠some 61
def qzp(t:ByteArray):Prop:=t≠bs [60]/\t≠bs [62]/\t≠bs [61]/\t≠bs [33]
theorem qmc : ∀ {a b:List ByteArray},Ok2 a->Ok2 b->(∀ t u,a.getLast?=some t->b.head?=some u->Adj t u)->Ok2 (a++b)
 |[],b,_,hb,_=>hb
 |t::a,b,ha,hb,h=>by
  refine⟨ha.1,fun u hu=>?_,qmc ha.2.2 hb fun t' u h1 h2=>?_⟩
  ·cases a with
   |nil=>exact h t u rfl hu
   |cons v a=>exact ha.2.1 u hu
  ·cases a with
   |nil=>cases h1
   |cons v a=>exact h t' u (by rw[Yu]; exact h1) h2
structure Cl(l:List ByteArray):Prop where
 ok:Ok2 l
 st : ∀ u,l.head?=some u->qvf u
 en : ∀ t,l.getLast?=some t->qzp t
theorem qpN:Cl []:=⟨trivial,fun u h=>(by cases h),fun t h=>(by cases h)⟩
theorem qna{x:ByteArray}(h:Tg (byl x))(h1:qvf x)(h2:qzp x):Cl [x]:=⟨⟨h,fun u hu=>(by cases hu),trivial⟩,fun u hu=>(by cases hu; exact h1),fun t ht=>(by cases ht; exact h2)⟩
theorem qbq{a b:List ByteArray}(ha:Cl a)(hb:Cl b):Cl (a++b):=by
 refine⟨qmc ha.ok hb.ok fun t u h1 _ => .inl (ha.en t h1),fun u hu=>?_,fun t ht=>?_⟩
 ·cases a with
  |nil=>exact hb.st u hu
  |cons v a=>exact ha.st u hu
 ·rw[List.getLast?_append] at ht
  cases hbl:b.getLast? with
  |none=>rw[hbl] at ht; exact ha.en t ht
  |some v=>rw[hbl] at ht; exact hb.en t (hbl.trans ht)
theorem qvg{x:ByteArray}{a b:List ByteArray}(h:Tg (byl x))(ha:Cl a)(hb:Cl b)(na:a≠[])(nb:b≠[]):Cl (a++x::b):=by
 have hxb:Ok2 (x::b):=⟨h,fun u hu => .inr (hb.st u hu),hb.ok⟩
 refine⟨qmc ha.ok hxb fun t u h1 _ => .inl (ha.en t h1),fun u hu=>?_,fun t ht=>?_⟩
 ·cases a with
  |nil=>exact absurd rfl na
  |cons v a=>exact ha.st u hu
 ·cases b with
  |nil=>exact absurd rfl nb
  |cons v b=>
   rw[List.getLast?_append,Yu] at ht
   cases hbl:(v::b).getLast? with
   |none=>simp at hbl
   |some w=>rw[hbl] at ht; exact hb.en t (hbl.trans ht)
theorem qx4{x:ByteArray}{b:List ByteArray}(h:Tg (byl x))(h1:qvf x)(hb:Cl b)(nb:b≠[]):Cl (x::b):=by
 refine⟨⟨h,fun u hu => .inr (hb.st u hu),hb.ok⟩,fun u hu=>(by cases hu; exact h1),fun t ht=>?_⟩
 cases b with
 |nil=>exact absurd rfl nb
 |cons v b=>rw[Yu] at ht; exact hb.en t ht
theorem qpO{c:UInt8}(h:c.toNat∈qkG):Tg (byl (bs [c])):=by rw[qbX]; exact .inr (.inr (.inr ⟨c,rfl,h⟩))
theorem qAC(o:Bop):Tg (byl o.str):=by
 cases o
 all_goals first
  |exact .inr (.inr (.inr ⟨_,rfl,by decide⟩))
  |exact .inr (.inr (.inl (by decide)))
theorem qAD(neg:Bool):Tg (byl (ustr neg)):=by
 cases neg<;>exact .inr (.inr (.inr ⟨_,rfl,by decide⟩))
theorem qvh{c:UInt8}{r:List UInt8}(h:qbg c=true)(h2 : ∀ b∈r,qaM b=true)(h3:(c::r).length<=8):Tg (byl (bs (c::r))):=by
 rw[qbX]
 exact .inl ⟨c,r,rfl,h,h2,fun h=>by omega⟩
theorem clf{x:ByteArray}(h:x∈fieldNames):Cl [x]:=by
 simp only[fieldNames,Wr,Wt,or_false] at h
 rcases h with h|h|h|h|h|h|h|h<;>rw[h]
 all_goals exact qna (.inl ⟨_,_,rfl,by decide,by decide,by decide⟩) (by unfold qvf; decide) (by unfold qzp; decide)
theorem clw{x:ByteArray}(h:x∈wordNames):Cl [x]:=by
 simp only[wordNames,Wr,Wt,or_false] at h
 rcases h with h|h|h|h|h|h|h|h|h|h|h|h|h<;>rw[h]
 all_goals exact qna (.inl ⟨_,_,rfl,by decide,by decide,by decide⟩) (by unfold qvf; decide) (by unfold qzp; decide)
theorem qtG{x:ByteArray}(h:Tg (byl x))(hs:qaY qbg x=true\/qaY qaF x=true):Cl [x]:=by
 refine qna h ?_ ⟨?_,?_,?_,?_⟩
 ·intro h1
  rw[qbG,qbG,h1] at hs
  exact absurd hs (by decide)
 all_goals rintro rfl; exact absurd hs (by decide)
theorem qpP{x:ByteArray}(h:qpZ x):Cl [x]:=qtG h.1 (.inl h.2.1)
theorem cls{c:UInt8}(h:c.toNat∈qkG)(h1:c≠61)(h2:c≠60/\c≠62/\c≠33):Cl [bs [c]]:=by
 refine qna (qpO h) (by rw[qvf,qbX]; simpa using h1) ⟨?_,?_,?_,?_⟩
 all_goals
  intro h
  have:=qt9 h
  simp only[WX,and_true] at this
  simp_all
theorem qsd(full:Bool){e:E}(h:e.good)(p:Nat):e.tx full p≠[]:=by
 obtain⟨x,l,h1,_⟩:=qmi full e h p
 rw[h1]; simp
theorem qnb{b:Bool}{l:List ByteArray}(h:Cl l):Cl (qda b l):=by
 unfold qda
 split
 ·exact qbq (a:=[bs [40]]) (cls (by decide) (by decide) (by decide)) (qbq h (cls (by decide) (by decide) (by decide)))
 ·exact h
theorem qim(full:Bool) : ∀ e:E,e.good -> ∀ p,Cl (e.tx full p)
 |.int n,h,p=>qtG (by rw[qbX]; exact qvy (by have:=h.1; have:=h.2; omega)) (.inr (qhR (by have:=h.1; have:=h.2; omega)))
 |.bool n,h,p=>by
  simp only[E.tx]
  split<;>exact clw (by decide)
 |.var s,h,p=>qpP h
 |.name s,h,p=>by
  refine clw ?_
  rcases h with rfl|rfl|rfl<;>decide
 |.field g s e,h,p=>qbq (clf h.1) (qbq (a:=[bs [91]]) (cls (by decide) (by decide) (by decide)) (qbq (qim full e h.2 1) (cls (by decide) (by decide) (by decide))))
 |.un g neg e,h,p=>qnb (qx4 (qAD neg) (by unfold qvf; cases neg<;>decide) (qim full e h _) (qsd full (e:=e) h _))
 |.bin g o a b,h,p=>qnb (qvg (qAC o) (qim full a h.1 _) (qim full b h.2 _) (qsd full h.1 _) (qsd full h.2 _))
theorem qin : ∀ (s:Ss) m,s.good m->Cl s.tx
 |.nil,m,h=>qpN
 |.assign g s e r,m,h=>qvg (a:=[s]) (qpO (by decide)) (qpP h.2.1) (qbq (qim false e h.2.2.1 1) (qbq (a:=[bs [59]]) (cls (by decide) (by decide) (by decide)) (qin r _ h.2.2.2))) (by simp) (by simp)
 |.store g s a b r,m,h=>by
  have h1:Cl (s::bs [91]::(a.tx false 1++[bs [93]])):=qbq (clf h.2.1) (qbq (a:=[bs [91]]) (cls (by decide) (by decide) (by decide)) (qbq (qim false a h.2.2.1 1) (cls (by decide) (by decide) (by decide))))
  have h2:Cl (b.tx false 1++(bs [59]::r.tx)):=qbq (qim false b h.2.2.2.1 1) (qbq (a:=[bs [59]]) (cls (by decide) (by decide) (by decide)) (qin r _ h.2.2.2.2))
  have:=qvg (x:=bs [61]) (qpO (by decide)) h1 h2 (by simp) (by simp)
  simpa [Ss.tx] using this
 |.effect g a b r,m,h=>qbq (a:=[qke]) (clw (by decide)) (qbq (qim false a h.2.1 1) (qbq (a:=[bs [44]]) (cls (by decide) (by decide) (by decide)) (qbq (qim false b h.2.2.1 1) (qbq (a:=[bs [59]]) (cls (by decide) (by decide) (by decide)) (qin r _ h.2.2.2)))))
 |.stop r,m,h=>qbq (a:=[qsm]) (clw (by decide)) (qbq (a:=[bs [59]]) (cls (by decide) (by decide) (by decide)) (qin r _ h.2))
 |.cond w g c b r,m,h=>qbq (a:=[if w then qnf else ifS]) (clw (by cases w<;>decide)) (qbq (qim false c h.2.1 1) (qbq (qin b _ h.2.2.1) (qin r _ h.2.2.2)))
 |.block g b r,m,h=>by
  obtain⟨n,_,h1,h2⟩:=h
  have hlast:Cl (if qiu r then qkd::r.tx else []):=?_
  ·exact qbq (a:=[bs [123]]) (cls (by decide) (by decide) (by decide)) (qbq (qin b _ h1) (qbq (a:=[bs [125]]) (cls (by decide) (by decide) (by decide)) hlast))
  split
  ·exact qbq (a:=[qkd]) (clw (by decide)) (qin r _ h2)
  ·exact qpN
def qfJ(k:Nat):ByteArray:=match k with|0=>bs [97,99,116] | 1=>qso|_=>qq8
def qjm(k:Nat):Option Ss->List ByteArray
 |none=>[]
 |some b=>onS::qfJ k::bs [123]::(b.tx++[bs [125]])
def qhm(h:Option Ss):Prop := ∀ b,h=some b->b.good none/\b.nest<=19
theorem qvi{k:Nat}{h:Option Ss}(hg:qhm h):Cl (qjm k h):=by
 cases h with
 |none=>exact qpN
 |some b=>
  refine qbq (a:=[onS]) (clw (by decide)) (qbq (a:=[qfJ k]) (clw ?_) (qbq (a:=[bs [123]]) (cls (by decide) (by decide) (by decide)) (qbq (qin b _ (hg b rfl).1) (cls (by decide) (by decide) (by decide)))))
  rcases k with _|_|k
  ·decide
  ·decide
  ·show qq8∈wordNames; decide
def qdi(h:Nat->Option Ss):List ByteArray:=qjm 0 (h 0)++(qjm 1 (h 1)++qjm 2 (h 2))
theorem qvj{h:Nat->Option Ss}(hg : ∀ k,qhm (h k)):Cl (qdi h):=qbq (qvi (hg 0)) (qbq (qvi (hg 1)) (qvi (hg 2)))
theorem qka{k:Nat}(h:k<3):qfp (qfJ k)=some k:=by
 rcases k with _|_|_|k
 ·rfl
 ·rfl
 ·rfl
 ·omega
end
section
def Fo.eqv:Fo->Fo->Bool
 |.nil,.nil=>true
 |.cons k n s _ ks r,.cons k' n' s' _ ks' r'=>(decide (k=k')&&(decide (n=n')&&decide (s=s')))&&(ks.eqv ks'&&r.eqv r')
 |_,_=>false
def Rz.map{α β : Type}(k : α -> β):Rz α -> Rz β
 |.ok a r => .ok (k a) r
 |.er i c => .er i c
end
end Go.Pm
section
namespace Go.Pm.F
variable(C:Task->Option Res)(q:Nat)(fr:Fr)(σ : S)
@[simp] def F228a0x:PC:=(rn [jj 6 (.alloc [zN,eN,zN,zN,zN]),st 5 6 20] [1000000,5,6])
def F228a0:PC:=F228a0x
theorem qi8:run C q F228a0 fr σ = run C q F228a0x fr σ := rfl
@[simp] def F228b0x:PC:=(.block 1 (.region (some []) [⟨some 21,.load false 1 (.t 5),none,[7]⟩,l1 22 5,nc 23 22,fa 24 2 23,l1 25 24,la 26 5 6,jj 27 (.bslice 1 [zN,eN,zN,zN,zN] [(0,5,(.t 26))]),jj 28 (.append 5 48 (.t 25) (.t 27)),nc 29 21,fa 30 2 29,st 1 30 28] [1000000]))
def F228b0:PC:=F228b0x
theorem qi9:run C q F228b0 fr σ = run C q F228b0x fr σ := rfl
theorem qh8:F228a0.flat=true:=rfl
theorem qh9:F228b0.flat=true:=rfl
def F228:PFun:=⟨1,[.cell 2 true 12,.cell 3 false 1,.cell 4 false 1],sr [jj 2 (.alloc [zN,zN,eN,sN,zN,zN,eN,sN,zN,zN,eN,sN]),jj 3 (.alloc [zN]),jj 4 (.alloc [zN])] [1000000,0,2,3,4] (.seq (sr [mv 7 0,lz 8 7,bk 9 .gtr 8 2000] [1000000,0,2,3,4,9] (cs 9 (sr [jj 10 (.build [zN,zN,eN,sN,zN,zN,eN,sN,zN,zN,eN,sN] []),st 12 2 10,jn (.store 1 (.t 3) (kk 2000)),jn (.store 1 (.t 4) (kk 2))] [1000000,2,3,4] .ret))) (sr [mv 11 0,cl 12 239 [11],jj 13 (.build [eN,(.lit (.map none)),sN,zN,zN,zN] [(0,2,(.t 12)),(5,1,(kk 12))]),bx 14 13,jj 5 (.alloc [(.lit (.pointer none))]),st 1 5 14] [1000000,2,3,4,5] (sr [jj 15 (.mkfn 240 [] [(.t 5),(.t 2),(.t 3),(.t 4)]),jj 1000000 (.defer (.t 15) [])] [1000000,2,3,4,5] (.seq (sr [l1 16 5,nc 17 16,fa 18 0 17,cl 19 241 [18]] [1000000,2,3,4,5,19] (.block 0 (.range (.t 19) [20] F228a0 F228b0))) (sr [l1 31 5,cl 32 242 [31],st 12 2 32,jn (.store 1 (.t 3) (kk 0)),jn (.store 1 (.t 4) (kk 0))] [1000000,2,3,4] .ret))))),false,true,false⟩
def F239:PFun:=pf 1 [.cell 2 true 2] (sr [jj 2 (.alloc [eN,(.lit (.map none))])] [0,2] (sr [mv 3 0,jj 4 (.mkmap),jn (.mapset .s (.t 4) (ks [111,110]) (kk 2)),jn (.mapset .s (.t 4) (ks [97,99,116]) (kk 2)),jn (.mapset .s (.t 4) (ks [116,105,99,107]) (kk 2)),jn (.mapset .s (.t 4) (ks [105,102]) (kk 2)),jn (.mapset .s (.t 4) (ks [101,108,115,101]) (kk 2)),jn (.mapset .s (.t 4) (ks [119,104,105,108,101]) (kk 2)),jn (.mapset .s (.t 4) (ks [101,102,102,101,99,116]) (kk 2)),jn (.mapset .s (.t 4) (ks [115,116,111,112]) (kk 2)),jn (.mapset .s (.t 4) (ks [116,114,117,101]) (kk 2)),jn (.mapset .s (.t 4) (ks [102,97,108,115,101]) (kk 2)),jn (.mapset .s (.t 4) (ks [115,101,108,102]) (kk 2)),jn (.mapset .s (.t 4) (ks [111,116,104,101,114]) (kk 2)),jn (.mapset .s (.t 4) (ks [120]) (kk 3)),jn (.mapset .s (.t 4) (ks [121]) (kk 3)),jn (.mapset .s (.t 4) (ks [118,120]) (kk 3)),jn (.mapset .s (.t 4) (ks [118,121]) (kk 3)),jn (.mapset .s (.t 4) (ks [97]) (kk 3)),jn (.mapset .s (.t 4) (ks [98]) (kk 3)),jn (.mapset .s (.t 4) (ks [104,105,116]) (kk 3)),jn (.mapset .s (.t 4) (ks [115,116,105,108,108]) (kk 3)),mv 5 4,jj 6 (.build [eN,(.lit (.map none))] [(0,1,(.t 3)),(1,1,(.t 5))]),st 2 2 6] [2] .ret))
def F240:PFun:=⟨4,[],sr [jj 4 (.recov),jj 5 (.isnil false true (.t 4))] [0,1,2,3,5] (cs 5 (.region (some []) [jj 6 (.build [zN,zN,eN,sN,zN,zN,eN,sN,zN,zN,eN,sN] []),l1 7 0,nc 8 7,fa 9 4 8,l1 10 9,l1 11 0,nc 12 11,fa 13 5 12,l1 14 13,st 12 1 6,st 1 2 10,st 1 3 14] [])),false,false,true⟩
def F241:PFun:=pf 1 [.tmp 2] (sr [bx 1 0,jj 2 (.mov (.c .nilFunc))] [1] (sr [jj 3 (.mkfn 249 [] [(.t 1)]),mv 2 3] [2] .ret))
@[simp] def F242l0x:PC:=(.seq (sr [mv 5 0,cl 6 252 [5],jj 7 (.field false 0 1 (.t 6)),bk 8 .neq 7 0] [0,2,3,8] (.cond (.t 8) .skip (.exit 0))) (.block 1 (sr [mv 9 0,jj 10 (.call 253 [(.t 9),(ks [111,110])])] [0,2,3] (sr [mv 11 0,cl 12 254 [11],mv 4 12] [0,2,3,4] (.seq (sr [mv 13 4,fa 14 0 3,jj 15 (.indexAddrA 3 4 (.t 14) (.t 13)),fa 16 0 15,l1 17 16,bk 18 .neq 17 0] [0,2,3,4,18] (cs 18 (rn [mv 19 0,mv 20 0,cl 21 252 [20],jj 22 (.call 255 [(.t 19),(.t 21),(kk 4)])] [0,2,3,4]))) (sr [mv 23 0,nc 24 23,fa 25 3 24,l1 26 25,bk 27 .add 26 1,nc 28 23,fa 29 3 28,st 1 29 27] [0,2,3,4] (rn [mv 30 4,mv 31 0,jj 32 (.call 256 [(.t 31),(kk 1)]),fa 33 0 3,jj 34 (.indexAddrA 3 4 (.t 33) (.t 30)),st 4 34 32] [0,2,3])))))))
def F242l0:PC:=F242l0x
theorem qja:run C q F242l0 fr σ = run C q F242l0x fr σ := rfl
def F242:PFun:=pf 1 [.cell 2 true 12] (sr [jj 2 (.alloc [zN,zN,eN,sN,zN,zN,eN,sN,zN,zN,eN,sN])] [0,2] (sr [jj 3 (.alloc [zN,zN,eN,sN,zN,zN,eN,sN,zN,zN,eN,sN])] [0,2,3] (.seq (.block 0 (.loop F242l0)) (sr [la 35 12 3,st 12 2 35] [2] .ret))))
@[simp] def F249l0x:PC:=(.block 1 (.seq (.region (some [(34,[zN,eN,zN,zN,zN])]) [⟨some 5,.load false 1 (.t 1),none,[3]⟩,l1 6 1,mv 7 3,cl 8 251 [6,7],cl 9 250 [5,8],⟨some 4,.fill 34,none,[3,4]⟩,st 5 4 9] [0,1,4]) (.seq (sr [mv 10 0,la 11 5 4,jj 12 (.callv (.t 10) [(.t 11)]),jj 13 (.un .not (.t 12)),mv 14 13,jf 15 14 (.fieldAddr 0 (.t 4)),jf 16 14 (.load false 1 (.t 15)),jf 17 14 (.bin .eql (.t 16) (kk 0)),jj 18 (.pick (.t 14) kT (.t 17)),mv 19 18,jf 20 19 (.fieldAddr 0 (.t 4)),jf 21 19 (.load false 1 (.t 20)),jf 22 19 (.bin .eql (.t 21) (kk 6)),jj 23 (.pick (.t 19) kT (.t 22))] [0,1,4,23] (cs 23 .ret)) (rn [fa 24 2 4,l1 25 24,fa 26 1 4,l1 27 26,lz 28 27,bn 29 .add 25 28,mv 3 29] [0,1,3]))))
def F249l0:PC:=F249l0x
theorem qfm:run C q F249l0 fr σ = run C q F249l0x fr σ := rfl
def F249:PFun:=pf 2 [] (sr [mx 3 (kk 0)] [0,1,3] (.block 0 (.loop F249l0)))
def F250:PFun:=pf 2 [.cell 4 true 5] (sr [jj 4 (.alloc [zN,eN,zN,zN,zN])] [0,1,4] (.seq (sr [mv 7 1,mv 8 0,nc 9 8,fa 10 0 9,l1 11 10,lz 12 11,bn 13 .eql 7 12] [0,1,4,13] (cs 13 (sr [mv 14 1,jj 15 (.build [zN,eN,zN,zN,zN] [(0,1,(kk 0)),(2,1,(.t 14))]),st 5 4 15] [4] .ret))) (.seq (sr [mv 16 0,nc 17 16,fa 18 0 17,l1 19 18,mv 20 1,jj 21 (.indexS (.t 19) (.t 20)),mv 5 21] [0,1,4,5] (.block 0 (sr [mv 23 5,cl 24 264 [23],mv 22 24] [0,1,4,5,22] (.cond (.t 22) (sr [mv 25 0,mv 26 1,cl 27 265 [25,26],st 5 4 27] [4] .ret) (sr [mv 29 5,cl 30 266 [29],mv 28 30] [0,1,4,28] (cs 28 (sr [mv 31 0,mv 32 1,cl 33 267 [31,32],st 5 4 33] [4] .ret))))))) (.seq (sr [mv 34 1,bk 35 .add 34 2,mv 36 0,nc 37 36,fa 38 0 37,l1 39 38,lz 40 39,bn 41 .leq 35 40] [0,1,4,41] (cs 41 (sr [mv 42 0,nc 43 42,fa 44 0 43,l1 45 44,mv 46 1,mv 47 1,bk 48 .add 47 2,jj 49 (.sliceS (.t 45) (some (.t 46)) (some (.t 48))),mv 6 49] [0,1,4,6] (sr [mv 50 6] [0,1,4,6,50] (.block 1 (.seq (sr [jj 52 (.bin .eql (.t 50) (ks [124,124])),mv 51 52] [0,1,4,6,50,51] (.cond (.t 51) .skip (sr [jj 53 (.bin .eql (.t 50) (ks [38,38])),mv 51 53] [0,1,4,6,50,51] (.cond (.t 51) .skip (sr [jj 54 (.bin .eql (.t 50) (ks [60,61])),mv 51 54] [0,1,4,6,50,51] (.cond (.t 51) .skip (sr [jj 55 (.bin .eql (.t 50) (ks [62,61])),mv 51 55] [0,1,4,6,50,51] (.cond (.t 51) .skip (sr [jj 56 (.bin .eql (.t 50) (ks [61,61])),mv 51 56] [0,1,4,6,50,51] (.cond (.t 51) .skip (rn [jj 57 (.bin .eql (.t 50) (ks [33,61])),mv 51 57] [0,1,4,6,51]))))))))))) (cs 51 (sr [mv 58 6,mv 59 1,jj 60 (.build [zN,eN,zN,zN,zN] [(0,1,(kk 5)),(1,1,(.t 58)),(2,1,(.t 59))]),st 5 4 60] [4] .ret)))))))) (.seq (sr [mv 61 0,nc 62 61,fa 63 0 62,l1 64 63,mv 65 1,jj 66 (.indexS (.t 64) (.t 65)),jj 67 (.call 268 [(ks [123,125,91,93,40,41,61,59,44,60,62,43,45,42,47,33]),(.t 66)]),bk 68 .geq 67 0] [0,1,4,68] (cs 68 (sr [mv 69 0,nc 70 69,fa 71 0 70,l1 72 71,mv 73 1,mv 74 1,bk 75 .add 74 1,jj 76 (.sliceS (.t 72) (some (.t 73)) (some (.t 75))),mv 77 1,jj 78 (.build [zN,eN,zN,zN,zN] [(0,1,(kk 5)),(1,1,(.t 76)),(2,1,(.t 77))]),st 5 4 78] [4] .ret))) (sr [mv 79 1,jj 80 (.build [zN,eN,zN,zN,zN] [(0,1,(kk 6)),(2,1,(.t 79)),(4,1,(kk 12))]),st 5 4 80] [4] .ret))))))
@[simp] def F251l0x:PC:=(.seq (sr [mv 7 1,mv 8 0,nc 9 8,fa 10 0 9,l1 11 10,lz 12 11,bn 13 .lss 7 12] [0,1,5,13] (.cond (.t 13) .skip (.exit 0))) (.seq (.block 1 (sr [mv 16 0,nc 17 16,fa 18 0 17,l1 19 18,mv 20 1,jj 21 (.indexS (.t 19) (.t 20)),mv 6 21] [0,1,5,6] (.block 2 (sr [mv 24 6,jj 25 (.bin .eql (.t 24) (.c (.int .u8 10))),mv 23 25] [0,1,5,6,23] (.cond (.t 23) (rn [mx 5 kF] [0,1,5]) (sr [mv 27 5,mv 28 27,jf 29 28 (.mov (.t 6)),jf 30 28 (.bin .eql (.t 29) (.c (.int .u8 32))),jj 31 (.pick (.t 28) kT (.t 30)),mv 32 31,jf 33 32 (.mov (.t 6)),jf 34 32 (.bin .eql (.t 33) (.c (.int .u8 9))),jj 35 (.pick (.t 32) kT (.t 34)),mv 26 35] [0,1,5,6,26] (.cond (.t 26) .skip (sr [mv 37 6,jj 38 (.bin .eql (.t 37) (.c (.int .u8 35))),mv 36 38] [0,1,36] (.cond (.t 36) (rn [mx 5 kT] [0,1,5]) (sr [mv 22 1,mv 4 22] [4] .ret)))))))))) (rn [mv 14 1,bk 15 .add 14 1,mv 1 15] [0,1,5])))
def F251l0:PC:=F251l0x
theorem qdu:run C q F251l0 fr σ = run C q F251l0x fr σ := rfl
def F251:PFun:=pf 2 [.tmp 4] (sr [mx 4 (kk 0)] [0,1] (.seq (sr [mx 5 kF] [0,1,5] (.block 0 (.loop F251l0))) (sr [mv 39 1,mv 4 39] [4] .ret)))
def F252:PFun:=pf 1 [.cell 2 true 5] (sr [jj 2 (.alloc [zN,eN,zN,zN,zN])] [0,2] (.seq (.region (some [(26,[zN,eN,zN,zN,zN])]) [mv 4 0,nc 5 4,fa 6 2 5,l1 7 6,mv 8 0,nc 9 8,fa 10 3 9,l1 11 10,jj 12 (.indexAddr 5 (.t 7) (.t 11)),la 13 5 12,jj 3 (.fill 26),st 5 3 13] [0,2,3]) (.seq (sr [fa 14 0 3,l1 15 14,bk 16 .eql 15 6] [0,2,3,16] (cs 16 (rn [mv 17 0,la 18 5 3,fa 19 4 3,l1 20 19,cl 21 255 [17,18,20]] [2,3]))) (sr [la 22 5 3,st 5 2 22] [2] .ret))))
def F253:PFun:=pf 2 [] (.seq (sr [mv 4 0,mv 5 1,jj 6 (.bslice 1 [eN] [(0,1,(.t 5))]),cl 7 269 [4,6],jj 8 (.un .not (.t 7))] [0,8] (cs 8 (rn [mv 9 0,mv 10 0,cl 11 252 [10],jj 12 (.call 255 [(.t 9),(.t 11),(kk 12)])] [0]))) (rn [mv 13 0,nc 14 13,fa 15 3 14,l1 16 15,bk 17 .add 16 1,nc 18 13,fa 19 3 18,st 1 19 17] []))
def F254:PFun:=pf 1 [.tmp 2] (sr [mx 2 (kk 0)] [0] (sr [mv 4 0,cl 5 252 [4],jj 3 (.alloc [zN,eN,zN,zN,zN]),st 5 3 5] [0,3] (.seq (sr [fa 6 1 3,l1 7 6] [0,3,7] (.block 0 (sr [jj 9 (.bin .eql (.t 7) (ks [97,99,116])),mv 8 9] [0,3,7,8] (.cond (.t 8) (sr [mx 2 (kk 0)] [2] .ret) (sr [jj 11 (.bin .eql (.t 7) (ks [116,105,99,107])),mv 10 11] [0,3,7,10] (.cond (.t 10) (sr [mx 2 (kk 1)] [2] .ret) (sr [jj 13 (.bin .eql (.t 7) (ks [104,105,116])),mv 12 13] [0,3,12] (cs 12 (sr [mx 2 (kk 2)] [2] .ret))))))))) (sr [mv 14 0,la 15 5 3,jj 16 (.call 255 [(.t 14),(.t 15),(kk 12)])] [] (sr [mx 2 (kk (-1))] [2] .ret)))))
def F255:PFun:=pf 3 [] (sr [bx 4 1] [0,2,4] (sr [mv 6 0,mv 7 0,fa 8 2 4,l1 9 8,mv 10 2,nc 11 6,fa 12 4 11,st 1 12 9,nc 13 7,fa 14 5 13,st 1 14 10] [2] (rn [mv 15 2,jj 16 (.mkif 1 (.t 15)),jn (.panic (.t 16))] [])))
@[simp] def F256l0x:PC:=(.seq (sr [mv 10 0,jj 11 (.bslice 1 [eN] [(0,1,(ks [125]))]),cl 12 269 [10,11],jj 13 (.un .not (.t 12))] [0,1,4,5,13] (.cond (.t 13) .skip (.exit 0))) (.block 1 (.region (some []) [fa 14 3 5,⟨some 15,.load false 1 (.t 14),none,[4]⟩,mv 16 0,mv 17 1,cl 18 271 [16,17],jj 19 (.bslice 1 [zN,zN,eN,sN] [(0,4,(.t 18))]),jj 20 (.append 4 56 (.t 15) (.t 19)),fa 21 3 5,st 1 21 20] [0,1,4,5] [4])))
def F256l0:PC:=F256l0x
theorem qgI:run C q F256l0 fr σ = run C q F256l0x fr σ := rfl
def F256:PFun:=pf 2 [.cell 4 true 4] (sr [jj 4 (.alloc [zN,zN,eN,sN])] [0,1,4] (sr [mv 6 0,mv 7 1,jj 8 (.call 270 [(.t 6),(ks [123]),(.t 7)])] [0,1,4] (sr [jj 9 (.build [zN,zN,eN,sN] [(0,1,(kk 7))]),jj 5 (.alloc [zN,zN,eN,sN]),st 4 5 9] [0,1,4,5] (.seq (.block 0 (.loop F256l0)) (sr [mv 22 0,jj 23 (.call 253 [(.t 22),(ks [125])])] [4,5] (sr [la 24 4 5,st 4 4 24] [4] .ret))))))
def F264:PFun:=pf 1 [.tmp 2] (sr [mx 2 kF] [0] (sr [mv 3 0,jj 4 (.bin .leq (.c (.int .u8 97)) (.t 3)),mv 5 4,jt 6 5 (.mov (.t 0)),jt 7 5 (.bin .leq (.t 6) (.c (.int .u8 122))),jj 8 (.pick (.t 5) (.t 7) kF),mv 2 8] [2] .ret))
@[simp] def F265l0x:PC:=(.seq (sr [mv 10 5,mv 11 0,nc 12 11,fa 13 0 12,l1 14 13,lz 15 14,bn 16 .lss 10 15,mv 17 16,jt 18 17 (.mov (.t 0)),jt 19 17 (.nilchk (.t 18)),jt 20 17 (.fieldAddr 0 (.t 19)),jt 21 17 (.load false 1 (.t 20)),jt 22 17 (.mov (.t 5)),jt 23 17 (.indexS (.t 21) (.t 22)),jt 24 17 (.call 264 [(.t 23)]),jt 25 17 (.mov (.t 24)),jf 26 25 (.mov (.t 0)),jf 27 25 (.nilchk (.t 26)),jf 28 25 (.fieldAddr 0 (.t 27)),jf 29 25 (.load false 1 (.t 28)),jf 30 25 (.mov (.t 5)),jf 31 25 (.indexS (.t 29) (.t 30)),jf 32 25 (.call 266 [(.t 31)]),jt 33 17 (.pick (.t 25) kT (.t 32)),jj 34 (.pick (.t 17) (.t 33) kF)] [0,1,4,5,34] (.cond (.t 34) .skip (.exit 0))) (.block 1 (rn [mv 35 5,bk 36 .add 35 1,mv 5 36] [0,1,4,5])))
def F265l0:PC:=F265l0x
theorem qfn:run C q F265l0 fr σ = run C q F265l0x fr σ := rfl
def F265:PFun:=pf 2 [.cell 4 true 5] (sr [jj 4 (.alloc [zN,eN,zN,zN,zN])] [0,1,4] (sr [mv 9 1,mv 5 9] [0,1,4,5] (.seq (.block 0 (.loop F265l0)) (sr [mv 37 0,nc 38 37,fa 39 0 38,l1 40 39,mv 41 1,mv 42 5,jj 43 (.sliceS (.t 40) (some (.t 41)) (some (.t 42))),mv 44 1,jj 45 (.build [zN,eN,zN,zN,zN] [(0,1,(kk 1)),(1,1,(.t 43)),(2,1,(.t 44))]),jj 6 (.alloc [zN,eN,zN,zN,zN]),st 5 6 45] [0,4,6] (.seq (.seq (.region (some []) [mv 47 0,nc 48 47,fa 49 1 48,l1 50 49,fa 51 1 6,l1 52 51,jj 53 (.lookup .s zN (.t 50) (.t 52) true),mv 46 53,ex 54 46 0,ex 55 46 1,mv 7 54,mv 8 55] [4,6,7,8]) (sr [mv 56 8] [4,6,7,56] (.cond (.t 56) (rn [mv 57 7,fa 58 0 6,st 1 58 57] [4,6]) (sr [fa 59 1 6,l1 60 59,lz 61 60,bk 62 .gtr 61 8] [4,6,62] (cs 62 (rn [fa 63 0 6,jn (.store 1 (.t 63) (kk 6)),fa 64 4 6,jn (.store 1 (.t 64) (kk 2))] [4,6])))))) (sr [la 65 5 6,st 5 4 65] [4] .ret))))))
def F266:PFun:=pf 1 [.tmp 2] (sr [mx 2 kF] [0] (sr [mv 3 0,jj 4 (.bin .leq (.c (.int .u8 48)) (.t 3)),mv 5 4,jt 6 5 (.mov (.t 0)),jt 7 5 (.bin .leq (.t 6) (.c (.int .u8 57))),jj 8 (.pick (.t 5) (.t 7) kF),mv 2 8] [2] .ret))
@[simp] def F267l0x:PC:=(.seq (sr [mv 9 5,mv 10 0,nc 11 10,fa 12 0 11,l1 13 12,lz 14 13,bn 15 .lss 9 14,mv 16 15,jt 17 16 (.mov (.t 0)),jt 18 16 (.nilchk (.t 17)),jt 19 16 (.fieldAddr 0 (.t 18)),jt 20 16 (.load false 1 (.t 19)),jt 21 16 (.mov (.t 5)),jt 22 16 (.indexS (.t 20) (.t 21)),jt 23 16 (.call 266 [(.t 22)]),jj 24 (.pick (.t 16) (.t 23) kF)] [0,1,4,5,6,24] (.cond (.t 24) .skip (.exit 0))) (.block 1 (sr [mv 25 6,jj 26 (.bin .mul (kk 10) (.t 25)),mv 27 0,nc 28 27,fa 29 0 28,l1 30 29,mv 31 5,jj 32 (.indexS (.t 30) (.t 31)),jj 33 (.bin .sub (.t 32) (.c (.int .u8 48))),jj 34 (.conv (.int .i64) (.t 33)),bn 35 .add 26 34,jj 36 (.min [(.t 35),(kk 2147483648)]),mv 6 36] [0,1,4,5,6] (rn [mv 37 5,bk 38 .add 37 1,mv 5 38] [0,1,4,5,6]))))
def F267l0:PC:=F267l0x
theorem qgJ:run C q F267l0 fr σ = run C q F267l0x fr σ := rfl
def F267:PFun:=pf 2 [.cell 4 true 5] (sr [jj 4 (.alloc [zN,eN,zN,zN,zN])] [0,1,4] (sr [mv 8 1,mv 5 8,mx 6 (kk 0)] [0,1,4,5,6] (.seq (.block 0 (.loop F267l0)) (sr [mv 39 0,nc 40 39,fa 41 0 40,l1 42 41,mv 43 1,mv 44 5,jj 45 (.sliceS (.t 42) (some (.t 43)) (some (.t 44))),mv 46 1,mv 47 6,jj 48 (.build [zN,eN,zN,zN,zN] [(0,1,(kk 4)),(1,1,(.t 45)),(2,1,(.t 46)),(3,1,(.t 47))]),jj 7 (.alloc [zN,eN,zN,zN,zN]),st 5 7 48] [4,6,7] (.seq (sr [mv 49 6,bk 50 .gtr 49 2147483647] [4,7,50] (cs 50 (rn [fa 51 0 7,jn (.store 1 (.t 51) (kk 6)),fa 52 4 7,jn (.store 1 (.t 52) (kk 6))] [4,7]))) (sr [la 53 5 7,st 5 4 53] [4] .ret))))))
def F269:PFun:=pf 2 [.tmp 4] (sr [mx 4 kF] [0,1] (sr [mv 6 0,cl 7 252 [6],jj 5 (.alloc [zN,eN,zN,zN,zN]),st 5 5 7] [1,5] (sr [fa 8 0 5,l1 9 8,bk 10 .neq 9 0,mv 11 10,jt 12 11 (.mov (.t 1)),jt 13 11 (.fieldAddr 1 (.t 5)),jt 14 11 (.load false 1 (.t 13)),jt 15 11 (.call 276 [(.t 12),(.t 14)]),jj 16 (.pick (.t 11) (.t 15) kF),mv 4 16] [4] .ret)))
def F270:PFun:=pf 3 [] (.seq (sr [mv 6 0,mv 7 1,jj 8 (.bslice 1 [eN] [(0,1,(.t 7))]),cl 9 269 [6,8],mv 10 9,jt 11 10 (.mov (.t 2)),jt 12 10 (.bin .gtr (.t 11) (kk 20)),jj 13 (.pick (.t 10) (.t 12) kF)] [0,1,13] (cs 13 (rn [mv 14 0,mv 15 0,cl 16 252 [15],jj 17 (.call 255 [(.t 14),(.t 16),(kk 2)])] [0,1]))) (rn [mv 18 0,mv 19 1,cl 20 253 [18,19]] []))
def F271:PFun:=pf 2 [.cell 4 true 4] (sr [jj 4 (.alloc [zN,zN,eN,sN])] [0,1,4] (sr [mv 9 0,cl 10 252 [9],jj 5 (.alloc [zN,eN,zN,zN,zN]),st 5 5 10] [0,1,4,5] (.seq (.block 0 (sr [fa 12 0 5,l1 13 12,bk 14 .eql 13 1,mv 11 14] [0,1,4,5,11] (.cond (.t 11) (sr [mv 15 0,cl 16 277 [15]] [0,1,4,5] (sr [mv 17 0,jj 18 (.call 253 [(.t 17),(ks [61])])] [0,1,4,5] (.seq (.region (some []) [mv 19 0,fa 20 1 5,⟨some 21,.load false 1 (.t 20),none,[5]⟩,mv 22 0,mv 23 1,cl 24 279 [22,23],jj 25 (.bslice 1 [zN,zN,eN,sN] [(0,4,(.t 24))]),jj 26 (.build [zN,zN,eN,sN] [(0,1,(kk 1)),(2,1,(.t 21)),(3,1,(.t 25))]),cl 27 278 [19,26],st 4 4 27] [4] [5,8]) .ret))) (sr [fa 29 0 5,l1 30 29,bk 31 .eql 30 3,mv 28 31] [0,1,4,5,28] (.cond (.t 28) (sr [mv 32 0,mv 33 1,cl 34 280 [32,33],jj 6 (.alloc [zN,zN,eN,sN]),st 4 6 34] [0,1,4,5,6] (sr [mv 35 0,jj 36 (.call 253 [(.t 35),(ks [61])])] [0,1,4,5,6] (.seq (.region (some []) [mv 37 0,fa 38 1 5,⟨some 39,.load false 1 (.t 38),none,[6]⟩,⟨some 40,.load true 4 (.t 6),none,[6]⟩,mv 41 0,mv 42 1,cl 43 279 [41,42],jj 44 (.bslice 2 [zN,zN,eN,sN,zN,zN,eN,sN] [(0,4,(.t 40)),(4,4,(.t 43))]),jj 45 (.build [zN,zN,eN,sN] [(0,1,(kk 2)),(2,1,(.t 39)),(3,1,(.t 44))]),cl 46 278 [37,45],st 4 4 46] [4] [6,9]) .ret))) (sr [mv 48 0,jj 49 (.bslice 1 [eN] [(0,1,(ks [105,102]))]),cl 50 269 [48,49],mv 47 50] [0,1,4,5,47] (.cond (.t 47) (sr [mv 51 0,mv 52 1,cl 53 281 [51,52],st 4 4 53] [4] .ret) (sr [mv 55 0,jj 56 (.bslice 1 [eN] [(0,1,(ks [119,104,105,108,101]))]),cl 57 269 [55,56],mv 54 57] [0,1,4,5,54] (.cond (.t 54) (sr [mv 58 0,cl 59 277 [58]] [0,1,4] (sr [mv 60 0,mv 61 1,cl 62 279 [60,61],jj 7 (.alloc [zN,zN,eN,sN]),st 4 7 62] [0,1,4,7] (.seq (.region (some []) [⟨some 63,.load true 4 (.t 7),none,[4]⟩,mv 64 0,mv 65 1,bk 66 .add 65 1,cl 67 256 [64,66],jj 68 (.bslice 2 [zN,zN,eN,sN,zN,zN,eN,sN] [(0,4,(.t 63)),(4,4,(.t 67))]),jj 69 (.build [zN,zN,eN,sN] [(0,1,(kk 4)),(3,1,(.t 68))]),st 4 4 69] [4] [4]) .ret))) (sr [mv 71 0,jj 72 (.bslice 1 [eN] [(0,1,(ks [101,102,102,101,99,116]))]),cl 73 269 [71,72],mv 70 73] [0,1,4,5,70] (.cond (.t 70) (sr [mv 74 0,cl 75 277 [74]] [0,1,4] (sr [mv 76 0,mv 77 1,cl 78 279 [76,77],jj 8 (.alloc [zN,zN,eN,sN]),st 4 8 78] [0,1,4,8] (sr [mv 79 0,jj 80 (.call 253 [(.t 79),(ks [44])])] [0,1,4,8] (.seq (.region (some []) [mv 81 0,⟨some 82,.load true 4 (.t 8),none,[4]⟩,mv 83 0,mv 84 1,cl 85 279 [83,84],jj 86 (.bslice 2 [zN,zN,eN,sN,zN,zN,eN,sN] [(0,4,(.t 82)),(4,4,(.t 85))]),jj 87 (.build [zN,zN,eN,sN] [(0,1,(kk 5)),(3,1,(.t 86))]),cl 88 278 [81,87],st 4 4 88] [4] [4,7]) .ret)))) (sr [mv 90 0,jj 91 (.bslice 1 [eN] [(0,1,(ks [115,116,111,112]))]),cl 92 269 [90,91],mv 89 92] [0,4,5,89] (cs 89 (sr [mv 93 0,cl 94 277 [93]] [0,4] (sr [mv 95 0,jj 96 (.build [zN,zN,eN,sN] [(0,1,(kk 6))]),cl 97 278 [95,96],st 4 4 97] [4] .ret))))))))))))))) (sr [mv 98 0,la 99 5 5,jj 100 (.call 255 [(.t 98),(.t 99),(kk 12)])] [4] (sr [jj 101 (.build [zN,zN,eN,sN] []),st 4 4 101] [4] .ret)))))
def F277:PFun:=pf 1 [.cell 2 true 5] (sr [jj 2 (.alloc [zN,eN,zN,zN,zN])] [0,2] (sr [mv 4 0,cl 5 252 [4],jj 3 (.alloc [zN,eN,zN,zN,zN]),st 5 3 5] [0,2,3] (sr [mv 6 0,nc 7 6,fa 8 3 7,l1 9 8,bk 10 .add 9 1,nc 11 6,fa 12 3 11,st 1 12 10] [2,3] (sr [la 13 5 3,st 5 2 13] [2] .ret))))
def F278:PFun:=pf 2 [.cell 4 true 4] (sr [bx 3 1,jj 4 (.alloc [zN,zN,eN,sN])] [0,3,4] (sr [mv 5 0,jj 6 (.call 253 [(.t 5),(ks [59])])] [3,4] (sr [la 7 4 3,st 4 4 7] [4] .ret)))
def F279:PFun:=pf 2 [.cell 4 true 4] (sr [bx 2 0,bx 3 1,jj 4 (.alloc [zN,zN,eN,sN])] [2,3,4] (sr [l1 5 2,jj 6 (.mkfn 286 [] [(.t 2),(.t 3)]),jj 7 (.bslice 1 [eN] [(0,1,(ks [124,124]))]),cl 8 285 [5,6,7],st 4 4 8] [4] .ret))
def F280:PFun:=pf 2 [.cell 4 true 4] (sr [jj 4 (.alloc [zN,zN,eN,sN])] [0,1,4] (sr [mv 6 0,cl 7 277 [6]] [0,1,4] (sr [mv 8 0,mv 9 1,bk 10 .add 9 1,jj 11 (.call 270 [(.t 8),(ks [91]),(.t 10)])] [0,1,4] (sr [mv 12 0,mv 13 1,bk 14 .add 13 1,cl 15 279 [12,14],jj 5 (.alloc [zN,zN,eN,sN]),st 4 5 15] [0,4,5] (sr [mv 16 0,jj 17 (.call 253 [(.t 16),(ks [93])])] [4,5] (sr [la 18 4 5,st 4 4 18] [4] .ret))))))
def F281:PFun:=pf 2 [.cell 4 true 4] (sr [jj 4 (.alloc [zN,zN,eN,sN])] [0,1,4] (sr [mv 8 0,jj 9 (.call 253 [(.t 8),(ks [105,102])])] [0,1,4] (sr [mv 10 0,mv 11 1,cl 12 279 [10,11],jj 5 (.alloc [zN,zN,eN,sN]),st 4 5 12] [0,1,4,5] (sr [mv 13 0,mv 14 1,bk 15 .add 14 1,cl 16 256 [13,15],jj 17 (.build [zN,zN,eN,sN] [(0,1,(kk 7))]),jj 6 (.alloc [zN,zN,eN,sN]),jj 7 (.alloc [zN,zN,eN,sN]),st 4 6 16,st 4 7 17] [0,1,4,5,6,7] (.seq (sr [mv 18 0,jj 19 (.bslice 1 [eN] [(0,1,(ks [101,108,115,101]))]),cl 20 269 [18,19]] [0,1,4,5,6,7,20] (cs 20 (sr [mv 21 0,cl 22 277 [21]] [0,1,4,5,6,7] (rn [mv 23 0,mv 24 1,bk 25 .add 24 1,cl 26 256 [23,25],st 4 7 26] [4,5,6,7])))) (sr [la 27 4 5,la 28 4 6,la 29 4 7,jj 30 (.bslice 3 [zN,zN,eN,sN,zN,zN,eN,sN,zN,zN,eN,sN] [(0,4,(.t 27)),(4,4,(.t 28)),(8,4,(.t 29))]),jj 31 (.build [zN,zN,eN,sN] [(0,1,(kk 3)),(3,1,(.t 30))]),st 4 4 31] [4] .ret))))))
@[simp] def F285l0x:PC:=(.seq (sr [mv 11 0,mv 12 2,cl 13 269 [11,12]] [0,1,2,6,7,13] (.cond (.t 13) .skip (.exit 0))) (.block 1 (sr [mv 14 0,cl 15 277 [14],jj 16 (.field false 1 1 (.t 15)),mv 8 16] [0,1,2,6,7,8] (.region (some []) [mv 17 8,⟨some 18,.load true 4 (.t 7),none,[3]⟩,mv 19 1,jj 20 (.callv (.t 19) []),jj 21 (.bslice 2 [zN,zN,eN,sN,zN,zN,eN,sN] [(0,4,(.t 18)),(4,4,(.t 20))]),jj 22 (.build [zN,zN,eN,sN] [(0,1,(kk 14)),(2,1,(.t 17)),(3,1,(.t 21))]),st 4 7 22] [0,1,2,6,7] [3]))))
def F285l0:PC:=F285l0x
theorem qjb:run C q F285l0 fr σ = run C q F285l0x fr σ := rfl
def F285:PFun:=pf 3 [.cell 6 true 4] (sr [jj 6 (.alloc [zN,zN,eN,sN])] [0,1,2,6] (sr [mv 9 1,jj 10 (.callv (.t 9) []),jj 7 (.alloc [zN,zN,eN,sN]),st 4 7 10] [0,1,2,6,7] (.seq (.block 0 (.loop F285l0)) (sr [la 23 4 7,st 4 6 23] [6] .ret))))
def F286:PFun:=pf 2 [.cell 2 true 4] (sr [jj 2 (.alloc [zN,zN,eN,sN])] [0,1,2] (sr [l1 3 0,l1 4 1,cl 5 287 [3,4],st 4 2 5] [2] .ret))
def F287:PFun:=pf 2 [.cell 4 true 4] (sr [bx 2 0,bx 3 1,jj 4 (.alloc [zN,zN,eN,sN])] [2,3,4] (sr [l1 5 2,jj 6 (.mkfn 289 [] [(.t 2),(.t 3)]),jj 7 (.bslice 1 [eN] [(0,1,(ks [38,38]))]),cl 8 285 [5,6,7],st 4 4 8] [4] .ret))
def F289:PFun:=pf 2 [.cell 2 true 4] (sr [jj 2 (.alloc [zN,zN,eN,sN])] [0,1,2] (sr [l1 3 0,l1 4 1,cl 5 290 [3,4],st 4 2 5] [2] .ret))
def F290:PFun:=pf 2 [.cell 4 true 4] (sr [jj 4 (.alloc [zN,zN,eN,sN])] [0,1,4] (.seq (sr [mv 5 0,jj 6 (.bslice 1 [eN] [(0,1,(ks [33]))]),cl 7 269 [5,6]] [0,1,4,7] (cs 7 (sr [mv 8 0,mv 9 1,bk 10 .add 9 1,jj 11 (.call 270 [(.t 8),(ks [33]),(.t 10)])] [0,1,4] (sr [mv 12 0,mv 13 1,bk 14 .add 13 1,cl 15 290 [12,14],jj 16 (.bslice 1 [zN,zN,eN,sN] [(0,4,(.t 15))]),jj 17 (.build [zN,zN,eN,sN] [(0,1,(kk 13)),(2,1,(ks [33])),(3,1,(.t 16))]),st 4 4 17] [4] .ret)))) (sr [mv 18 0,mv 19 1,cl 20 292 [18,19],st 4 4 20] [4] .ret)))
def F292:PFun:=pf 2 [.cell 4 true 4] (sr [jj 4 (.alloc [zN,zN,eN,sN])] [0,1,4] (sr [mv 7 0,mv 8 1,cl 9 297 [7,8],jj 5 (.alloc [zN,zN,eN,sN]),st 4 5 9] [0,1,4,5] (.seq (sr [mv 10 0,jj 11 (.bslice 6 [eN,eN,eN,eN,eN,eN] [(0,1,(ks [60])),(1,1,(ks [60,61])),(2,1,(ks [62])),(3,1,(ks [62,61])),(4,1,(ks [61,61])),(5,1,(ks [33,61]))]),cl 12 269 [10,11],jj 13 (.un .not (.t 12))] [0,1,4,5,13] (cs 13 (sr [la 14 4 5,st 4 4 14] [4] .ret))) (sr [mv 15 0,cl 16 277 [15],jj 17 (.field false 1 1 (.t 16)),mv 6 17] [0,1,4,5,6] (.seq (.region (some []) [mv 18 6,⟨some 19,.load true 4 (.t 5),none,[4]⟩,mv 20 0,mv 21 1,cl 22 297 [20,21],jj 23 (.bslice 2 [zN,zN,eN,sN,zN,zN,eN,sN] [(0,4,(.t 19)),(4,4,(.t 22))]),jj 24 (.build [zN,zN,eN,sN] [(0,1,(kk 14)),(2,1,(.t 18)),(3,1,(.t 23))]),st 4 4 24] [4] [4]) .ret)))))
def F297:PFun:=pf 2 [.cell 4 true 4] (sr [bx 2 0,bx 3 1,jj 4 (.alloc [zN,zN,eN,sN])] [2,3,4] (sr [l1 5 2,jj 6 (.mkfn 303 [] [(.t 2),(.t 3)]),jj 7 (.bslice 2 [eN,eN] [(0,1,(ks [43])),(1,1,(ks [45]))]),cl 8 285 [5,6,7],st 4 4 8] [4] .ret))
def F303:PFun:=pf 2 [.cell 2 true 4] (sr [jj 2 (.alloc [zN,zN,eN,sN])] [0,1,2] (sr [l1 3 0,l1 4 1,cl 5 304 [3,4],st 4 2 5] [2] .ret))
def F304:PFun:=pf 2 [.cell 4 true 4] (sr [bx 2 0,bx 3 1,jj 4 (.alloc [zN,zN,eN,sN])] [2,3,4] (sr [l1 5 2,jj 6 (.mkfn 307 [] [(.t 2),(.t 3)]),jj 7 (.bslice 2 [eN,eN] [(0,1,(ks [42])),(1,1,(ks [47]))]),cl 8 285 [5,6,7],st 4 4 8] [4] .ret))
def F307:PFun:=pf 2 [.cell 2 true 4] (sr [jj 2 (.alloc [zN,zN,eN,sN])] [0,1,2] (sr [l1 3 0,l1 4 1,cl 5 308 [3,4],st 4 2 5] [2] .ret))
def F308:PFun:=pf 2 [.cell 4 true 4] (sr [jj 4 (.alloc [zN,zN,eN,sN])] [0,1,4] (.seq (sr [mv 5 0,jj 6 (.bslice 1 [eN] [(0,1,(ks [45]))]),cl 7 269 [5,6]] [0,1,4,7] (cs 7 (sr [mv 8 0,mv 9 1,bk 10 .add 9 1,jj 11 (.call 270 [(.t 8),(ks [45]),(.t 10)])] [0,1,4] (sr [mv 12 0,mv 13 1,bk 14 .add 13 1,cl 15 308 [12,14],jj 16 (.bslice 1 [zN,zN,eN,sN] [(0,4,(.t 15))]),jj 17 (.build [zN,zN,eN,sN] [(0,1,(kk 13)),(2,1,(ks [45])),(3,1,(.t 16))]),st 4 4 17] [4] .ret)))) (sr [mv 18 0,mv 19 1,cl 20 309 [18,19],st 4 4 20] [4] .ret)))
def F309:PFun:=pf 2 [.cell 4 true 4] (sr [jj 4 (.alloc [zN,zN,eN,sN])] [0,1,4] (sr [mv 7 0,cl 8 252 [7],jj 5 (.alloc [zN,eN,zN,zN,zN]),st 5 5 8] [0,1,4,5] (.seq (.block 0 (sr [fa 10 0 5,l1 11 10,bk 12 .eql 11 4,mv 9 12] [0,1,4,5,9] (.cond (.t 9) (sr [mv 13 0,cl 14 277 [13]] [4,5] (sr [fa 15 3 5,l1 16 15,jj 17 (.build [zN,zN,eN,sN] [(0,1,(kk 8)),(1,1,(.t 16))]),st 4 4 17] [4] .ret)) (sr [fa 19 0 5,l1 20 19,bk 21 .eql 20 1,mv 18 21] [0,1,4,5,18] (.cond (.t 18) (sr [mv 22 0,cl 23 277 [22]] [4,5] (sr [fa 24 1 5,l1 25 24,jj 26 (.build [zN,zN,eN,sN] [(0,1,(kk 10)),(2,1,(.t 25))]),st 4 4 26] [4] .ret)) (sr [fa 28 0 5,l1 29 28,bk 30 .eql 29 3,mv 27 30] [0,1,4,5,27] (.cond (.t 27) (.seq (.region (some []) [fa 31 1 5,⟨some 32,.load false 1 (.t 31),none,[4]⟩,mv 33 0,mv 34 1,cl 35 280 [33,34],jj 36 (.bslice 1 [zN,zN,eN,sN] [(0,4,(.t 35))]),jj 37 (.build [zN,zN,eN,sN] [(0,1,(kk 11)),(2,1,(.t 32)),(3,1,(.t 36))]),st 4 4 37] [4] [4]) .ret) (sr [mv 39 0,jj 40 (.bslice 1 [eN] [(0,1,(ks [116,114,117,101]))]),cl 41 269 [39,40],mv 38 41] [0,1,4,5,38] (.cond (.t 38) (sr [mv 42 0,cl 43 277 [42]] [4] (sr [jj 44 (.build [zN,zN,eN,sN] [(0,1,(kk 9)),(1,1,(kk 1))]),st 4 4 44] [4] .ret)) (sr [mv 46 0,jj 47 (.bslice 1 [eN] [(0,1,(ks [102,97,108,115,101]))]),cl 48 269 [46,47],mv 45 48] [0,1,4,5,45] (.cond (.t 45) (sr [mv 49 0,cl 50 277 [49]] [4] (sr [jj 51 (.build [zN,zN,eN,sN] [(0,1,(kk 9))]),st 4 4 51] [4] .ret)) (sr [mv 53 0,jj 54 (.bslice 3 [eN,eN,eN] [(0,1,(ks [115,101,108,102])),(1,1,(ks [111,116,104,101,114])),(2,1,(ks [116,105,99,107]))]),cl 55 269 [53,54],mv 52 55] [0,1,4,5,52] (cs 52 (sr [mv 56 0,cl 57 277 [56]] [4,5] (sr [fa 58 1 5,l1 59 58,jj 60 (.build [zN,zN,eN,sN] [(0,1,(kk 12)),(2,1,(.t 59))]),st 4 4 60] [4] .ret))))))))))))))) (sr [mv 61 0,mv 62 1,bk 63 .add 62 1,jj 64 (.call 270 [(.t 61),(ks [40]),(.t 63)])] [0,1,4] (sr [mv 65 0,mv 66 1,bk 67 .add 66 1,cl 68 279 [65,67],jj 6 (.alloc [zN,zN,eN,sN]),st 4 6 68] [0,4,6] (sr [mv 69 0,jj 70 (.call 253 [(.t 69),(ks [41])])] [4,6] (sr [la 71 4 6,st 4 4 71] [4] .ret)))))))
end Go.Pm.F
end
section
namespace Go.Pm.F
variable(C:Task->Option Res)(q:Nat)(fr:Fr)(σ : S)
def F268:PFun:=pf 2 [.tmp 4] (sr [mx 4 (kk 0)] [0,1] (sr [mv 5 0,mv 6 1,cl 7 275 [5,6],mv 4 7] [4] .ret))
def F275:PFun:=pf 2 [.tmp 4] (sr [mx 4 (kk 0)] [0,1] (sr [mv 5 0,mv 6 1,jj 7 (.idxb (.t 5) (.t 6)),mv 4 7] [4] .ret))
def F276:PFun:=pf 2 [.tmp 4] (sr [mx 4 kF] [0,1] (sr [mv 5 0,mv 6 1,cl 7 284 [5,6],bk 8 .geq 7 0,mv 4 8] [4] .ret))
@[simp] def F284l0x:PC:=(sr [bn 9 .lss 8 7] [0,1,7,8,9] (.seq (.cond (.t 9) .skip (.exit 0)) (.seq (.block 1 (sr [mv 10 8,mv 5 10] [0,1,5,7,8] (sr [mv 11 1,mv 12 0,mv 13 5,jj 14 (.indexAddr 1 (.t 12) (.t 13)),l1 15 14,bn 16 .eql 11 15] [0,1,5,7,8,16] (cs 16 (sr [mv 17 5,mv 4 17] [4] .ret))))) (rn [bk 18 .add 8 1,mv 8 18] [0,1,7,8]))))
def F284l0:PC:=F284l0x
theorem qfo:run C q F284l0 fr σ = run C q F284l0x fr σ := rfl
def F284:PFun:=pf 2 [.tmp 4] (sr [mx 4 (kk 0)] [0,1] (.seq (sr [mv 6 0,ls 7 6,mx 8 (kk 0)] [0,1,7,8] (.block 0 (.loop F284l0))) (sr [mx 4 (kk (-1))] [4] .ret)))
end Go.Pm.F
end
section
namespace Go.Pm.F
def tQ:Nat->Option PFun
 |264=>some F264
 |266=>some F266
 |_=>none
end Go.Pm.F
end
namespace Go.Pm
section
open F
def vb(w:List UInt8):List V:=w.map fun b => .dat (.lit (.int .u8 b.toNat))
theorem qpW(w:List UInt8):qaK (vb w)=[]:=by
 induction w with
 |nil=>rfl
 |cons x w ih=>simpa [vb] using ih
theorem qtI(r:Nat->Nat)(w:List UInt8):qen r (vb w)=vb w:=by
 induction w with
 |nil=>rfl
 |cons x w ih=>simpa [vb] using ih
attribute [local simp] qpW qtI
end
section
open F
def lastC(w:List UInt8):UInt8:=(w.getLast?).getD 0
def wl(w:List UInt8):Bool:=qaM (lastC w)
def pw(w:List UInt8)(ts:List ByteArray):List UInt8:=w++qav (wl w) ts
theorem qx6:wl []=false:=by decide
theorem qpX(w r:List UInt8)(h:r≠[]):lastC (w++r)=lastC r:=by
 unfold lastC
 rw[List.getLast?_append]
 cases hr:r.getLast? with
 |none=>exact absurd (Yn.1 hr) h
 |some c=>rfl
theorem qsi(w:List UInt8)(t:ByteArray):qcp (wl w) t=wl (w++(gap (wl w) t++byl t)):=by
 unfold qcp
 cases h:byl t with
 |nil=>
  have hs:qaY qaM t=false:=by rw[qbG,h]; rfl
  simp[gap,hs]
 |cons c r=>
  have hne:c::r≠[]:=by simp
  rw[<- List.append_assoc,show wl (w++gap (wl w) t++c::r)=qaM (lastC (c::r)) by unfold wl; rw[qpX _ _ hne]]
  unfold lastC
  cases hl:(c::r).getLast? with
  |none=>exact absurd (Yn.1 hl) hne
  |some d=>rfl
theorem qdf(w:List UInt8)(t:ByteArray)(ts:List ByteArray):pw w (t::ts)=pw (w++(gap (wl w) t++byl t)) ts:=by
 unfold pw
 rw[qav,qsi,Wf,Wf]
theorem qe3(w:List UInt8):pw w []=w:=by simp[pw,qav]
theorem qjq(w:List UInt8)(a b:List ByteArray):pw w (a++b)=pw (pw w a) b:=by
 induction a generalizing w with
 |nil=>rw[Wc,qe3]
 |cons t a ih=>rw[Wi,qdf,qdf,ih]
theorem qtJ(w:List UInt8)(ts:List ByteArray):w.length<=(pw w ts).length:=by simp[pw]
theorem qsj{t:ByteArray}(h:t.size≠0) : ∃ b,t[0]?=some b/\qaY qaM t=qaM b:=by
 have hd:=qg1 t 0
 rw[W5] at hd
 cases hb:byl t with
 |nil=>exact absurd (by rw[<- qaZ,hb]; rfl) h
 |cons b r=>
  rw[hb] at hd
  exact⟨b,hd,by rw[qbG,hb]; rfl⟩
theorem qvm{t:ByteArray}(h:t.size≠0):t[t.size-1]?=some (lastC (byl t)):=by
 rw[qg1,List.head?_drop,<- qaZ,lastC]
 rw[List.getLast?_eq_getElem?]
 cases hg:(byl t)[(byl t).length-1]? with
 |some c=>rfl
 |none=>
  rw[List.getElem?_eq_none_iff] at hg
  have:=qaZ t
  omega
attribute [local simp] qpW qtI
end
section
def E.lev:E->Nat
 |.un _ neg _=>qfD neg
 |.bin _ o _ _=>o.prec
 |_=>8
theorem qnw : ∀ {l:List ByteArray},Ok2 l -> ∀ t∈l,Tg (byl t)
 |[],_,t,h=>by cases h
 |u::l,ho,t,h=>by
  rcases Wr.1 h with rfl|h
  ·exact ho.1
  ·exact qnw ho.2.2 t h
theorem qkv{s:ByteArray}(h:Tg (byl s)):s.size≠0:=by
 obtain⟨c,r,e,_⟩:=qe2 h
 intro h0
 rw[<- qaZ,e] at h0
 cases h0
theorem qqu(ts:List ByteArray):pw [] ts=qav false ts:=by rw[pw,qx6,Wc]
theorem qjB : ∀ (l:List ByteArray) (p:Bool),(∀ t∈l,t.size≠0)->l.length<=(qav p l).length
 |[],p,_=>by simp
 |t::l,p,h=>by
  have:=qjB l (qcp p t) (fun x hx=>h x (Wz _ hx))
  have h1:=h t (WN ..)
  have h2:=qaZ t
  simp only[qav,Wb,We]
  omega
theorem qfz : ∀ s:Ss,s.good none->s.fo.len<=s.tx.length
 |.nil,_=>by simp[Ss.fo]
 |.assign _ s e r,h=>by have:=qfz r h.2.2.2; simp[Ss.fo,Ss.tx]; omega
 |.store _ s a b r,h=>by have:=qfz r h.2.2.2.2; simp[Ss.fo,Ss.tx]; omega
 |.effect _ a b r,h=>by have:=qfz r h.2.2.2; simp[Ss.fo,Ss.tx]; omega
 |.stop r,h=>by have:=qfz r h.2; simp[Ss.fo,Ss.tx]; omega
 |.cond w _ c b r,h=>by have:=qfz r h.2.2.2; simp[Ss.fo,Ss.tx]; omega
 |.block _ b r,h=>by obtain⟨n,hn,_⟩:=h; cases hn
theorem qqv{b:Ss}(h:b.good (some 1)) : ∃ fb b1,b = .block fb b1 .nil/\b1.good none:=by
 cases b with
 |block fb b1 r=>
  obtain⟨n,hn,h1,h2⟩:=h
  have:n=0:=by simpa using hn.symm
  subst this
  cases r with
  |nil=>exact⟨fb,b1,rfl,h1⟩
  |block _ _ _=>obtain⟨n,hn,_⟩:=h2; simp at hn
  |_=>simp[Ss.good] at h2
 |_=>simp[Ss.good] at h
theorem qwi{b:Ss}(h:b.good (some 2)) : ∃ fb b1 fc b2,b = .block fb b1 (.block fc b2 .nil)/\b1.good none/\b2.good none:=by
 cases b with
 |block fb b1 r=>
  obtain⟨n,hn,h1,h2⟩:=h
  have:n=1:=by simpa using hn.symm
  subst this
  obtain⟨fc,b2,rfl,h3⟩:=qqv h2
  exact⟨fb,b1,fc,b2,rfl,h1,h3⟩
 |_=>simp[Ss.good] at h
def Hd.opt:Hd->Option Ss
 |.none=>Option.none
 |.some _ b=>Option.some b
def Hd.opts(a b c:Hd):Nat->Option Ss
 |0=>a.opt
 |1=>b.opt
 |_=>c.opt
end
end Go.Pm
section
namespace Go.Pm.F
def tR:Nat->Option PFun
 |152=>some F152
 |192=>some F192
 |193=>some F193
 |_=>none
end Go.Pm.F
end
namespace Go.Pm
section
open F
structure RowS(d:D)(l:List ByteArray):Prop where
 len : ∀ σ,V.len σ .sl (.dat d)=some l.length
 at_ : ∀ i:Nat,i<l.length->qae 1 (.dat d) i=some (.dat (.imm (qb3 l) i))
 one:V.one (.dat d)=true
 cells:V.cells (.dat d)=[.dat d]
theorem qaU(l:List ByteArray)(f:Bool):RowS (.sl (qb3 l) l.length f) l where
 len _:=rfl
 at_ i h:=by simp[qae,h]
 one:=rfl
 cells:=rfl
theorem qv8(s:ByteArray)(i:Nat):s[i]?=s.data.toList[i]?:=by
 by_cases h:i<s.size
 ·rw[getElem?_pos s i h,WH (by rw[WC]; exact h)]
  simp[ByteArray.getElem_eq_getElem_data]
 ·rw[getElem?_neg s i h,W4 (by rw[WC]; exact Nat.not_lt.1 h)]
theorem qqq{s:ByteArray}{i:Nat}(h:i<s.size) : ∃ c,s[i]?=some c/\s.data.toList[i]?=some c:=by
 refine⟨s.data.toList[i]'(by rw[WC]; exact h),?_,WH _⟩
 rw[qv8]
 exact WH _
end
section
open F
theorem qiE{s:ByteArray}{i:Nat}{c:UInt8}(h:s.data.toList[i]?=some c):(byl s).drop i=c::(byl s).drop (i+1):=by
 have hi:=(Wd.1 h)
 obtain⟨h1,h2⟩:=hi
 rw[<- h2]
 exact WF h1
end
section
open F
theorem qth(eS eL eR:Nat)(c:UInt8)(r:List UInt8):1<=(tokL eS eL eR (c::r)).1.length/\(tokL eS eL eR (c::r)).1.length<=r.length+1:=by
 have h1:=qfY qaM (c::r)
 have h2:=qfY qaF (c::r)
 simp only[tokL]
 split
 ·rename_i h
  have hw:qaM c=true:=by simp[qaM,h]
  have:1<=qb9 qaM (c::r):=by simp only[qb9,hw,if_true]; omega
  simp only[WL,We] at h1 ⊢
  omega
 split
 ·rename_i h
  have:1<=qb9 qaF (c::r):=by simp only[qb9,h,if_true]; omega
  simp only[WL,We] at h2 ⊢
  omega
 split
 ·rename_i h
  have:=qfA h
  rw[qaB] at this
  simp only[WL,We] at this ⊢
  omega
 split<;>simp
theorem qqW{s:ByteArray}{i:Nat}(hi:i<s.size)(eS eL eR:Nat):1<=(qgH eS eL eR s i).s.size/\i+(qgH eS eL eR s i).s.size<=s.size:=by
 obtain⟨c,h1,h2⟩:=qqq hi
 have hd:=qiE h2
 rw[qfB]
 simp only[qaB]
 rw[hd]
 have:=qth eS eL eR c ((byl s).drop (i+1))
 rw[W7,qaZ] at this
 omega
def qBU:List Tk->List Tk
 |[]=>[]
 |t::r=>if t.bad≠0\/t.s.size=0 then [t] else t::qBU r
end
section
open F
structure Ps where
 i:Nat
 a:Nat
 e:Nat
def qxD(T:List Tk)(i:Nat):Tk:=T.getD i ⟨0,⟨#[]⟩,0⟩
def qS:ByteArray:=bs [63]
end
section
open F
structure TokP(t:Tk):Prop where
 q:t.bad=0->t.s≠qS
 dig:t.bad=0->qaY qaF t.s=true->(∀ c∈t.s.data.toList,qaF c=true)/\digV t.s.data.toList<=2147483647/\t.s.size<2 ^ 40
structure WfT(T:List Tk):Prop where
 len:T.length<2 ^ 40
 tok : ∀ t∈T,TokP t
 pos : ∀ i,i+1<T.length->(qxD T i).s.size≠0
 last : ∀ i,i+1=T.length->(qxD T i).s=⟨#[]⟩/\(qxD T i).bad=0
structure Gd(T:List Tk)(s:Ps)(ts:List Tk):Prop where
 e:s.e=0
 a:s.a=0
 lt:s.i<T.length
 ts:qBU (T.drop s.i)=ts
structure Er(T:List Tk)(s:Ps)(p c:Nat):Prop where
 lt:s.i<T.length
 c0:c≠0
 or:(s.e=c/\s.a=p)\/(s.e=0/\(qxD T s.i).bad=c/\(qxD T s.i).at_=p)
end
section
open F
section
variable{T:List Tk}{s:Ps}{lv:Nat}
abbrev k1(k n:Int)(y:ByteArray)(ks:D):D := .sl [.lit (.int .i64 k),.lit (.int .i64 n),.lit (.string y),ks] 1 true
abbrev k2(k n:Int)(y:ByteArray)(ks:D)(k' n':Int)(y':ByteArray)(ks':D):D := .sl [.lit (.int .i64 k),.lit (.int .i64 n),.lit (.string y),ks,.lit (.int .i64 k'),.lit (.int .i64 n'),.lit (.string y'),ks'] 2 true
abbrev k3(k n:Int)(y:ByteArray)(ks:D)(k' n':Int)(y':ByteArray)(ks':D)(k'' n'':Int)(y'':ByteArray)(ks'':D):D := .sl [.lit (.int .i64 k),.lit (.int .i64 n),.lit (.string y),ks,.lit (.int .i64 k'),.lit (.int .i64 n'),.lit (.string y'),ks',.lit (.int .i64 k''),.lit (.int .i64 n''),.lit (.string y''),ks''] 3 false
end
end
section
open F
structure N4 where
 k:Int
 n:Int
 s:ByteArray
 d:D
 one:V.one (.dat d)=true
 cl:V.cells (.dat d)=[.dat d]
abbrev rob(r:Nat->N4):Ob := .cells [.int (r 0).k,.int (r 0).n,.str (r 0).s,.dat (r 0).d,.int (r 1).k,.int (r 1).n,.str (r 1).s,.dat (r 1).d,.int (r 2).k,.int (r 2).n,.str (r 2).s,.dat (r 2).d]
def qzg(r:Nat->N4)(k:Nat)(v:N4):Nat->N4:=fun i=>if i=k then v else r i
abbrev qwU:Ob := .cells [.int 0,.int 0,.str ⟨#[]⟩,.dat (.lit (.slice none 0 0)),.int 0,.int 0,.str ⟨#[]⟩,.dat (.lit (.slice none 0 0)),.int 0,.int 0,.str ⟨#[]⟩,.dat (.lit (.slice none 0 0))]
section
variable{T:List Tk}{s:Ps}{r:Nat->N4}
def qkH:Option Ss->N4
 |none=>⟨0,0,⟨#[]⟩,.lit (.slice none 0 0),rfl,rfl⟩
 |some b=>⟨7,0,⟨#[]⟩,kd false b.fo.len b.fo.cells,by simp,by simp⟩
end
end
section
open F
def toks(s:ByteArray):List Tk:=qdU 12 2 6 s (s.size+1) 0
abbrev qwb(r:Nat->N4):V := .dat (.agg [.lit (.int .i64 (r 0).k),.lit (.int .i64 (r 0).n),.lit (.string (r 0).s),(r 0).d,.lit (.int .i64 (r 1).k),.lit (.int .i64 (r 1).n),.lit (.string (r 1).s),(r 1).d,.lit (.int .i64 (r 2).k),.lit (.int .i64 (r 2).n),.lit (.string (r 2).s),(r 2).d])
end
section
inductive Red:List ByteArray->List ByteArray->Prop
 |nil:Red [] []
 |keep {t:ByteArray} {l m:List ByteArray} (h:Red l m):Red (t::l) (t::m)
 |del {t:ByteArray} {l m:List ByteArray} (h0:t.size≠0) (h:Red l m):Red (t::l) m
 |dig {t u:ByteArray} {l m:List ByteArray} (h0:u.size<=t.size) (h1 : ∀ p,qcp p u=qcp p t) (h2:qaY qaM u=qaY qaM t) (h:Red l m):Red (t::l) (u::m)
end
section
theorem hx1{t:Tk}{q:List Tk}{s:ByteArray}(h1:t.s=s)(h2:t.bad=0):Hx [s] (t::q) q:=⟨t,q,rfl,h1,h2,rfl⟩
end
section
def qo3(g:List UInt8):Prop := ∀ r,qbc false (g++r)=g.length+qbc false r
theorem qkL:qo3 []:=fun r=>by simp
theorem qo4{c:UInt8}(h:c.toNat=32\/c.toNat=9\/c.toNat=10):qo3 [c]:=fun r=>by
 simp only[Wi,Wc,qbc,Ws]
 by_cases h10:c.toNat=10
 ·rw[if_pos h10]; omega
 ·rw[if_neg h10,if_pos (by rcases h with h|h|h; exact .inr (.inl h); exact .inr (.inr h); exact absurd h h10)]; omega
theorem qrd{w:List UInt8}(h:Tg w)(r:List UInt8):qbc false (w++r)=0:=by
 obtain⟨c,q,hw,h1,h2,h3,h4⟩:=qe2 h
 rw[hw]
 simp[qbc,h1,h2,h3,h4]
def qfC:List (List UInt8 × ByteArray)->List UInt8
 |[]=>[]
 | (g,t)::r=>g++(byl t++qfC r)
def Sep(t:ByteArray)(g:List UInt8)(u:ByteArray):Prop:=(∃ c q,g=c::q/\(c.toNat=32\/c.toNat=10\/c.toNat=9\/c.toNat=35))\/(g=[]/\(qcp false t&&qaY qaM u)=false/\Adj t u)
def OkG:List (List UInt8 × ByteArray)->Prop
 |[]=>True
 | (g,t)::r=>qo3 g/\Tg (byl t)/\(∀ p,r.head?=some p->Sep t p.1 p.2)/\OkG r
theorem qkM{w:List UInt8}(h:Tg w){c:UInt8}(hc:c.toNat=32\/c.toNat=10\/c.toNat=9\/c.toNat=35)(r:List UInt8):Fol w (c::r):=by
 have hw:qaM c=false:=by
  simp only[qaM,qbg,qaF,W8,W3,decide_eq_false_iff_not]
  omega
 have hd:qaF c=false:=by
  simp only[qaF,W3,decide_eq_false_iff_not]
  omega
 obtain⟨a,q,rfl,-⟩:=qe2 h
 simp only[Fol]
 split
 ·exact hw
 split
 ·exact hd
 ·intro _ hp
  rcases pair_cases hp with h|h|h|h|h|h<;>simp only[WX,and_true] at h<;>rw[h.2] at hc<;>exact absurd hc (by decide)
theorem qul(w:List UInt8):Fol w []:=by cases w<;>trivial
theorem qre{w:ByteArray}(h:Tg (byl w))(p q:Bool):qcp p w=qcp q w:=by
 obtain⟨c,r,hw,-⟩:=qe2 h
 unfold qcp
 rw[hw]
 cases hl:(c::r).getLast? with
 |none=>simp at hl
 |some b=>rfl
theorem qkN (eS eL eR:Nat) : ∀ (l:List (List UInt8 × ByteArray)) (n i:Nat) (tail:List UInt8),OkG l->(∀ p,l.getLast?=some p->Fol (byl p.2) tail)->l.length<=n ->
  ∃ ts,qua eS eL eR n i (qfC l++tail)=ts++qua eS eL eR (n-l.length) (i+(qfC l).length) tail /\ ∀ r,Hx (l.map (·.2)) (ts++r) r
 |[],n,i,tail,_,_,_=>⟨[],by simp[qfC],fun r=>rfl⟩
 | (g,t)::l,0,i,tail,_,_,h=>by simp at h
 | (g,t)::l,n+1,i,tail,ho,hl,h=>by
  obtain⟨hg,ht,ha,ho'⟩:=ho
  have hf:Fol (byl t) (qfC l++tail):=by
   cases l with
   |nil=>exact hl (g,t) rfl
   |cons u us=>
    obtain⟨g',u⟩:=u
    simp only[qfC,Wf]
    rcases ha (g',u) rfl with ⟨c,q,h1,h2⟩|⟨h1,h2,h3⟩
    ·simp only at h1
     rw[h1]
     exact qkM ht h2 _
    ·simp only at h1 h2 h3
     rw[h1]
     have:=qse (p:=false) ht ho'.2.1 h3 (qfC us++tail)
     rwa [gap,h2] at this
  have hsk:qbc false (g++(byl t++(qfC l++tail)))=g.length:=by rw[hg,qrd ht]; omega
  have htk:=qpR eS eL eR ht hf
  have hne:(byl t).length≠0:=by
   obtain⟨c,w,hw,-⟩:=qe2 ht
   rw[hw]; simp
  obtain⟨ts,e1,e2⟩:=qkN eS eL eR l n (i+g.length+t.size) tail ho' (fun u hu=>hl u (by
   cases l with
   |nil=>cases hu
   |cons v vs=>rw[Yu]; exact hu)) (by simpa using h)
  refine⟨⟨i+g.length,t,0⟩::ts,?_,fun r=>⟨⟨i+g.length,t,0⟩,ts++r,rfl,rfl,rfl,e2 r⟩⟩
  simp only[qfC,Wf,qua,hsk,List.drop_left,htk]
  rw[if_neg (by
   rintro (h|h)
   ·exact h rfl
   ·exact hne h)]
  rw[qdR,qaZ,e1]
  simp only[Wi,Wb,We,qaZ]
  congr 3<;>omega
theorem qnN (eS eL eR:Nat) {l:List (List UInt8 × ByteArray)} {w:List UInt8} (ho:OkG l) (hw:qo3 w) (hsep:w=[] \/ ∃ c q,w=c::q/\(c.toNat=32\/c.toNat=10\/c.toNat=9\/c.toNat=35)) {s:ByteArray} (hs:byl s=qfC l++w) :
  ∃ e,Hx (l.map (·.2)) (qdU eS eL eR s (s.size+1) 0) [⟨e,⟨#[]⟩,0⟩]:=by
 have htgs : ∀ p∈l,Tg (byl p.2):=by
  induction l with
  |nil=>intro p hp; cases hp
  |cons q l ih=>
   intro p hp
   obtain⟨g,t⟩:=q
   rcases Wr.1 hp with rfl|hp
   ·exact ho.2.1
   ·have hl : ∀ (l:List (List UInt8 × ByteArray)),OkG l -> ∀ p∈l,Tg (byl p.2):=fun l=>by
     induction l with
     |nil=>intro _ p hp; cases hp
     |cons q l ih=>intro h p hp; rcases Wr.1 hp with rfl|hp; exact h.2.1; exact ih h.2.2.2 p hp
    exact hl l ho.2.2.2 p hp
 have hlen:l.length<=(qfC l).length:=by
  clear ho hs
  induction l with
  |nil=>simp
  |cons q l ih=>
   obtain⟨g,t⟩:=q
   have h1:=htgs (g,t) (WN ..)
   obtain⟨c,w,hw,-⟩:=qe2 h1
   have:=ih fun p hp=>htgs p (Wz _ hp)
   simp only[qfC,Wb,We]
   have h2:1<=(byl t).length:=by simp only at hw; rw[hw]; simp
   omega
 have hsz:s.size=(qfC l).length+w.length:=by rw[<- qaZ,hs,Wb]
 rw[qnB,W5,hs]
 obtain⟨ts,e1,e2⟩:=qkN eS eL eR l (s.size+1) 0 w ho (fun p hp=>by
  have ht:=htgs p (List.mem_of_getLast? hp)
  rcases hsep with h|⟨c,q,h1,h2⟩
  ·rw[h]; exact qul _
  ·rw[h1]; exact qkM ht h2 _) (by omega)
 rw[e1]
 obtain⟨k,hk⟩ : ∃ k,s.size+1-l.length=k+1:=⟨s.size-l.length,by omega⟩
 have hend : ∀ j,qua eS eL eR (k+1) j w=[⟨j+w.length,⟨#[]⟩,0⟩]:=fun j=>by
  have h1:qbc false w=w.length:=by
   have:=hw []
   rw[Wm] at this
   rw[this]; simp[qbc]
  simp only[qua,h1,List.drop_length,tokL]
  rw[if_pos (.inr rfl)]
  rfl
 rw[hk,hend]
 exact⟨_,e2 _⟩
end
section
theorem qqU{ts:List ByteArray}(hcl:Ok2 ts) : ∃ e,Hx ts (toks (bs (qav false ts))) [⟨e,⟨#[]⟩,0⟩]:=by
 obtain⟨l,hl,hm⟩ : ∃ l:List (List UInt8 × ByteArray),OkG l/\l.map (·.2)=ts/\qfC l=qav false ts:=by
  have key : ∀ (ts:List ByteArray) (p:Bool),Ok2 ts -> ∃ l:List (List UInt8 × ByteArray),OkG l/\l.map (·.2)=ts/\qfC l=qav p ts/\(∀ q,l.head?=some q -> ∃ t,ts.head?=some t/\q=(gap p t,t)):=by
   intro ts
   induction ts with
   |nil=>intro p _; exact⟨[],trivial,rfl,rfl,fun q h=>by cases h⟩
   |cons t ts ih=>
    intro p ho
    obtain⟨l,l1,l2,l3,l4⟩:=ih (qcp p t) ho.2.2
    have hwg:qo3 (gap p t):=by
     unfold gap
     split
     ·exact qo4 (.inl rfl)
     ·exact qkL
    refine⟨(gap p t,t)::l,⟨hwg,ho.1,fun q hq=>?_,l1⟩,by simp[l2],by simp[qfC,qav,l3],fun q hq=>⟨t,rfl,by cases hq; rfl⟩⟩
    obtain⟨u,hu,rfl⟩:=l4 q hq
    have hadj:=ho.2.1 u hu
    simp only
    by_cases hgap:(qcp p t&&qaY qaM u)=true
    ·left
     exact⟨32,[],by simp[gap,hgap],.inl rfl⟩
    ·right
     have hgap':(qcp p t&&qaY qaM u)=false:=by simpa using hgap
     refine⟨by simp[gap,hgap'],?_,hadj⟩
     rw[qre ho.1 false p]
     exact hgap'
  obtain⟨l,l1,l2,l3,_⟩:=key ts false hcl
  exact⟨l,l1,l2,l3⟩
 have:=qnN 12 2 6 hl qkL (.inl rfl) (s:=bs (qav false ts)) (by rw[qbX,hm.2,Wm])
 rw[hm.1] at this
 exact this
end
end Go.Pm
section
namespace Go.Pm.F
variable(C:Task->Option Res)(q:Nat)(fr:Fr)(σ : S)
def F227:PFun:=pf 1 [.tmp 2] (sr [jj 2 (.mov (ks []))] [0] (sr [mv 3 0,cl 4 123 [3],cl 5 236 [4],mv 2 5] [2] .ret))
def F234:PFun:=pf 1 [.tmp 2] (sr [bx 1 0,jj 2 (.mov (ks []))] [1] (sr [la 3 4 1,jj 4 (.call 246 [(.t 3),(kk 1),kF]),mv 2 4] [2] .ret))
@[simp] def F236l0x:PC:=(.seq (sr [mv 5 4,bk 6 .lss 5 3] [1,3,4,6] (.cond (.t 6) .skip (.exit 0))) (.seq (.block 1 (sr [mv 9 4,fa 10 0 1,jj 11 (.indexAddrA 3 4 (.t 10) (.t 9)),fa 12 0 11,l1 13 12,bk 14 .neq 13 0] [1,3,4,14] (cs 14 (.region (some []) [mv 15 3,jj 16 (.call 152 []),mv 17 4,jj 18 (.indexAddr 1 (.t 16) (.t 17)),⟨some 19,.load false 1 (.t 18),none,[9]⟩,mv 20 4,fa 21 0 1,jj 22 (.indexAddrA 3 4 (.t 21) (.t 20)),⟨some 23,.load true 4 (.t 22),none,[1]⟩,cl 24 248 [23],jj 25 (.bslice 4 [eN,eN,eN,eN] [(0,1,(.t 15)),(1,1,(ks [111,110])),(2,1,(.t 19)),(3,1,(.t 24))]),cl 26 247 [25],mv 3 26] [1,3,4] [9,11])))) (rn [mv 7 4,bk 8 .add 7 1,mv 4 8] [1,3,4])))
def F236l0:PC:=F236l0x
theorem qgZ:run C q F236l0 fr σ = run C q F236l0x fr σ := rfl
def F236:PFun:=pf 1 [.tmp 2] (sr [bx 1 0,jj 2 (.mov (ks []))] [1] (sr [jj 3 (.mov (ks []))] [1,3] (.seq (sr [mx 4 (kk 0)] [1,3,4] (.block 0 (.loop F236l0))) (sr [mv 27 3,mv 2 27] [2] .ret))))
def F246:PFun:=pf 3 [.tmp 6] (sr [bx 3 0,jj 6 (.mov (ks []))] [1,2,3] (sr [la 10 4 3,cl 11 261 [10],mv 7 11] [1,2,3,7] (sr [fa 12 2 3,l1 13 12,mv 8 13] [1,2,3,7,8] (.seq (sr [fa 14 0 3,l1 15 14,bk 16 .eql 15 8] [1,2,3,7,8,16] (cs 16 (rn [fa 17 1 3,l1 18 17,cl 19 20 [18],mv 8 19] [1,2,3,7,8]))) (.seq (sr [fa 20 0 3,l1 21 20,bk 22 .eql 21 9] [1,2,3,7,8,22] (cs 22 (sr [jj 8 (.mov (ks [102,97,108,115,101]))] [1,2,3,7,8] (sr [fa 23 1 3,l1 24 23,bk 25 .eql 24 1] [1,2,3,7,8,25] (cs 25 (rn [jj 8 (.mov (ks [116,114,117,101]))] [1,2,3,7,8])))))) (.seq (sr [fa 26 0 3,l1 27 26,bk 28 .eql 27 11] [1,2,3,7,8,28] (cs 28 (.region (some []) [fa 29 2 3,⟨some 30,.load false 1 (.t 29),none,[7]⟩,fa 31 3 3,l1 32 31,jj 33 (.indexAddr 4 (.t 32) (kk 0)),la 34 4 33,mv 35 2,jj 36 (.call 246 [(.t 34),(kk 1),(.t 35)]),jj 37 (.bslice 4 [eN,eN,eN,eN] [(0,1,(.t 30)),(1,1,(ks [91])),(2,1,(.t 36)),(3,1,(ks [93]))]),cl 38 247 [37],mv 8 38] [1,2,3,7,8] [7,9]))) (.seq (sr [fa 39 0 3,l1 40 39,bk 41 .eql 40 13] [1,2,3,7,8,41] (cs 41 (.region (some []) [fa 42 2 3,⟨some 43,.load false 1 (.t 42),none,[8]⟩,fa 44 3 3,l1 45 44,jj 46 (.indexAddr 4 (.t 45) (kk 0)),la 47 4 46,mv 48 7,mv 49 2,cl 50 246 [47,48,49],jj 51 (.bslice 2 [eN,eN] [(0,1,(.t 43)),(1,1,(.t 50))]),cl 52 247 [51],mv 8 52] [1,2,3,7,8] [8,10]))) (.seq (sr [fa 53 0 3,l1 54 53,bk 55 .eql 54 14] [1,2,3,7,8,55] (cs 55 (sr [mv 56 7,mv 9 56] [1,2,3,7,9] (.seq (sr [mv 57 7,bk 58 .eql 57 4] [1,2,3,7,9,58] (cs 58 (rn [mx 9 (kk 5)] [1,2,3,7,9]))) (.region (some []) [fa 59 3 3,l1 60 59,jj 61 (.indexAddr 4 (.t 60) (kk 0)),la 62 4 61,mv 63 9,mv 64 2,cl 65 246 [62,63,64],fa 66 2 3,⟨some 67,.load false 1 (.t 66),none,[6,16]⟩,fa 68 3 3,⟨some 69,.load false 1 (.t 68),none,[6]⟩,jj 70 (.indexAddr 4 (.t 69) (kk 1)),⟨some 71,.load true 4 (.t 70),none,[6]⟩,mv 72 7,bk 73 .add 72 1,mv 74 2,cl 75 246 [71,73,74],jj 76 (.bslice 3 [eN,eN,eN] [(0,1,(.t 65)),(1,1,(.t 67)),(2,1,(.t 75))]),cl 77 247 [76],mv 8 77] [1,2,7,8] [16,18]))))) (.seq (sr [mv 78 7,mv 79 1,bn 80 .lss 78 79,mv 81 80,jf 82 81 (.mov (.t 2)),jf 83 81 (.mov (.t 82)),jt 84 83 (.mov (.t 7)),jt 85 83 (.bin .lss (.t 84) (kk 8)),jf 86 81 (.pick (.t 83) (.t 85) kF),jj 87 (.pick (.t 81) kT (.t 86))] [8,87] (cs 87 (sr [mv 88 8,jj 89 (.bin .add (ks [40]) (.t 88)),jj 90 (.bin .add (.t 89) (ks [41])),mv 6 90] [6] .ret))) (sr [mv 91 8,mv 6 91] [6] .ret))))))))))
@[simp] def F247l0x:PC:=(.seq (sr [mv 5 4,mv 6 0,ls 7 6,bn 8 .lss 5 7] [0,3,4,8] (.cond (.t 8) .skip (.exit 0))) (.seq (.block 1 (rn [mv 11 3,mv 12 0,mv 13 4,jj 14 (.indexAddr 1 (.t 12) (.t 13)),l1 15 14,cl 16 262 [11,15],mv 3 16] [0,3,4])) (rn [mv 9 4,bk 10 .add 9 1,mv 4 10] [0,3,4])))
def F247l0:PC:=F247l0x
theorem qjG:run C q F247l0 fr σ = run C q F247l0x fr σ := rfl
def F247:PFun:=pf 1 [.tmp 2] (sr [jj 2 (.mov (ks []))] [0] (sr [jj 3 (.mov (ks []))] [0,3] (.seq (sr [mx 4 (kk 0)] [0,3,4] (.block 0 (.loop F247l0))) (sr [mv 17 3,mv 2 17] [2] .ret))))
@[simp] def F248l0x:PC:=(.seq (sr [mv 5 4,fa 6 3 1,l1 7 6,ls 8 7,bn 9 .lss 5 8] [1,3,4,9] (.cond (.t 9) .skip (.exit 0))) (.seq (.block 1 (rn [mv 12 3,fa 13 3 1,l1 14 13,mv 15 4,jj 16 (.indexAddr 4 (.t 14) (.t 15)),la 17 4 16,cl 18 263 [17],cl 19 262 [12,18],mv 3 19] [1,3,4])) (rn [mv 10 4,bk 11 .add 10 1,mv 4 11] [1,3,4])))
def F248l0:PC:=F248l0x
theorem qg0:run C q F248l0 fr σ = run C q F248l0x fr σ := rfl
def F248:PFun:=pf 1 [.tmp 2] (sr [bx 1 0,jj 2 (.mov (ks []))] [1] (sr [jj 3 (.mov (ks [123]))] [1,3] (.seq (sr [mx 4 (kk 0)] [1,3,4] (.block 0 (.loop F248l0))) (sr [mv 20 3,jj 21 (.bin .add (.t 20) (ks [125])),mv 2 21] [2] .ret))))
def F261:PFun:=pf 1 [.tmp 2] (sr [bx 1 0,mx 2 (kk 0)] [1] (.seq (sr [fa 3 0 1,l1 4 3,bk 5 .eql 4 13] [1,5] (cs 5 (.seq (sr [fa 6 2 1,l1 7 6,jj 8 (.bin .eql (.t 7) (ks [33]))] [8] (cs 8 (sr [mx 2 (kk 3)] [2] .ret))) (sr [mx 2 (kk 7)] [2] .ret)))) (.seq (sr [fa 9 0 1,l1 10 9,bk 11 .neq 10 14] [1,11] (cs 11 (sr [mx 2 (kk 8)] [2] .ret))) (.seq (sr [fa 12 2 1,l1 13 12,jj 14 (.bin .eql (.t 13) (ks [124,124]))] [1,14] (cs 14 (sr [mx 2 (kk 1)] [2] .ret))) (.seq (sr [fa 15 2 1,l1 16 15,jj 17 (.bin .eql (.t 16) (ks [38,38]))] [1,17] (cs 17 (sr [mx 2 (kk 2)] [2] .ret))) (.seq (sr [fa 18 2 1,l1 19 18,jj 20 (.bin .eql (.t 19) (ks [43])),mv 21 20,jf 22 21 (.fieldAddr 2 (.t 1)),jf 23 21 (.load false 1 (.t 22)),jf 24 21 (.bin .eql (.t 23) (ks [45])),jj 25 (.pick (.t 21) kT (.t 24))] [1,25] (cs 25 (sr [mx 2 (kk 5)] [2] .ret))) (.seq (sr [fa 26 2 1,l1 27 26,jj 28 (.bin .eql (.t 27) (ks [42])),mv 29 28,jf 30 29 (.fieldAddr 2 (.t 1)),jf 31 29 (.load false 1 (.t 30)),jf 32 29 (.bin .eql (.t 31) (ks [47])),jj 33 (.pick (.t 29) kT (.t 32))] [33] (cs 33 (sr [mx 2 (kk 6)] [2] .ret))) (sr [mx 2 (kk 4)] [2] .ret))))))))
def F262:PFun:=pf 2 [.tmp 4] (sr [jj 4 (.mov (ks []))] [0,1] (.seq (sr [mv 7 0,jj 8 (.bin .neq (.t 7) (ks [])),mv 9 8,jt 10 9 (.mov (.t 1)),jt 11 9 (.bin .neq (.t 10) (ks [])),jj 12 (.pick (.t 9) (.t 11) kF)] [0,1,12] (cs 12 (sr [mv 13 0,mv 14 0,lz 15 14,bk 16 .sub 15 1,jj 17 (.indexS (.t 13) (.t 16)),mv 5 17] [0,1,5] (sr [mv 18 1,jj 19 (.indexS (.t 18) (kk 0)),mv 6 19] [0,1,5,6] (sr [mv 20 5,cl 21 192 [20],mv 22 21,jf 23 22 (.mov (.t 5)),jf 24 22 (.call 193 [(.t 23)]),jj 25 (.pick (.t 22) kT (.t 24)),mv 26 25,jt 27 26 (.mov (.t 6)),jt 28 26 (.call 192 [(.t 27)]),jt 29 26 (.mov (.t 28)),jf 30 29 (.mov (.t 6)),jf 31 29 (.call 193 [(.t 30)]),jt 32 26 (.pick (.t 29) kT (.t 31)),jj 33 (.pick (.t 26) (.t 32) kF)] [0,1,33] (cs 33 (sr [mv 34 0,jj 35 (.bin .add (.t 34) (ks [32])),mv 36 1,bn 37 .add 35 36,mv 4 37] [4] .ret))))))) (sr [mv 38 0,mv 39 1,bn 40 .add 38 39,mv 4 40] [4] .ret)))
def F263:PFun:=pf 1 [.tmp 2] (sr [bx 1 0,jj 2 (.mov (ks []))] [1] (.seq (sr [fa 4 0 1,l1 5 4] [1,5] (.block 0 (sr [bk 7 .eql 5 1,mv 6 7] [1,5,6] (.cond (.t 6) (.seq (.region (some []) [fa 8 2 1,⟨some 9,.load false 1 (.t 8),none,[6]⟩,fa 10 3 1,l1 11 10,jj 12 (.indexAddr 4 (.t 11) (kk 0)),la 13 4 12,cl 14 234 [13],jj 15 (.bslice 4 [eN,eN,eN,eN] [(0,1,(.t 9)),(1,1,(ks [61])),(2,1,(.t 14)),(3,1,(ks [59]))]),cl 16 247 [15],mv 2 16] [2] [6,8]) .ret) (sr [bk 18 .eql 5 2,mv 17 18] [1,5,17] (.cond (.t 17) (.seq (.region (some []) [fa 19 2 1,⟨some 20,.load false 1 (.t 19),none,[6,11]⟩,fa 21 3 1,l1 22 21,jj 23 (.indexAddr 4 (.t 22) (kk 0)),la 24 4 23,cl 25 234 [24],fa 26 3 1,⟨some 27,.load false 1 (.t 26),none,[6]⟩,jj 28 (.indexAddr 4 (.t 27) (kk 1)),⟨some 29,.load true 4 (.t 28),none,[6]⟩,cl 30 234 [29],jj 31 (.bslice 7 [eN,eN,eN,eN,eN,eN,eN] [(0,1,(.t 20)),(1,1,(ks [91])),(2,1,(.t 25)),(3,1,(ks [93])),(4,1,(ks [61])),(5,1,(.t 30)),(6,1,(ks [59]))]),cl 32 247 [31],mv 2 32] [2] [11,13]) .ret) (sr [bk 34 .eql 5 5,mv 33 34] [1,5,33] (.cond (.t 33) (.seq (.region (some []) [fa 35 3 1,l1 36 35,jj 37 (.indexAddr 4 (.t 36) (kk 0)),la 38 4 37,cl 39 234 [38],fa 40 3 1,⟨some 41,.load false 1 (.t 40),none,[4]⟩,jj 42 (.indexAddr 4 (.t 41) (kk 1)),⟨some 43,.load true 4 (.t 42),none,[4]⟩,cl 44 234 [43],jj 45 (.bslice 5 [eN,eN,eN,eN,eN] [(0,1,(ks [101,102,102,101,99,116])),(1,1,(.t 39)),(2,1,(ks [44])),(3,1,(.t 44)),(4,1,(ks [59]))]),cl 46 247 [45],mv 2 46] [2] [9,11]) .ret) (sr [bk 48 .eql 5 6,mv 47 48] [1,5,47] (.cond (.t 47) (sr [jj 2 (.mov (ks [115,116,111,112,59]))] [2] .ret) (sr [bk 50 .eql 5 4,mv 49 50] [1,49] (cs 49 (.seq (.region (some []) [fa 51 3 1,l1 52 51,jj 53 (.indexAddr 4 (.t 52) (kk 0)),la 54 4 53,cl 55 234 [54],fa 56 3 1,⟨some 57,.load false 1 (.t 56),none,[4]⟩,jj 58 (.indexAddr 4 (.t 57) (kk 1)),⟨some 59,.load true 4 (.t 58),none,[4]⟩,cl 60 248 [59],jj 61 (.bslice 3 [eN,eN,eN] [(0,1,(ks [119,104,105,108,101])),(1,1,(.t 55)),(2,1,(.t 60))]),cl 62 247 [61],mv 2 62] [2] [9,11]) .ret))))))))))))) (.seq (.region (some []) [fa 63 3 1,l1 64 63,jj 65 (.indexAddr 4 (.t 64) (kk 0)),la 66 4 65,cl 67 234 [66],fa 68 3 1,⟨some 69,.load false 1 (.t 68),none,[4]⟩,jj 70 (.indexAddr 4 (.t 69) (kk 1)),⟨some 71,.load true 4 (.t 70),none,[4]⟩,cl 72 248 [71],jj 73 (.bslice 3 [eN,eN,eN] [(0,1,(ks [105,102])),(1,1,(.t 67)),(2,1,(.t 72))]),cl 74 247 [73],mv 3 74] [1,3] [9,11]) (.seq (sr [fa 75 3 1,l1 76 75,jj 77 (.indexAddr 4 (.t 76) (kk 2)),fa 78 3 77,l1 79 78,ls 80 79,bk 81 .gtr 80 0] [1,3,81] (cs 81 (rn [mv 82 3,fa 83 3 1,l1 84 83,jj 85 (.indexAddr 4 (.t 84) (kk 2)),la 86 4 85,cl 87 248 [86],jj 88 (.bslice 3 [eN,eN,eN] [(0,1,(.t 82)),(1,1,(ks [101,108,115,101])),(2,1,(.t 87))]),cl 89 247 [88],mv 3 89] [3]))) (sr [mv 90 3,mv 2 90] [2] .ret)))))
end Go.Pm.F
end
section
namespace Go.Pm.F
def tE:Nat->Option PFun
 |_=>none
end Go.Pm.F
end
namespace Go.Pm
section
theorem qc1(f:Bool) : ∀ (e:E) {r r':Fo},r.eqv r'=true->((e.fl f).fo r).eqv (e.fo r')=true
 |.int n,r,r',h=>by simp[E.fl,E.fo,Fo.eqv,h]
 |.bool n,r,r',h=>by simp[E.fl,E.fo,Fo.eqv,h]
 |.var s,r,r',h=>by simp[E.fl,E.fo,Fo.eqv,h]
 |.name s,r,r',h=>by simp[E.fl,E.fo,Fo.eqv,h]
 |.field _ s e,r,r',h=>by simp[E.fl,E.fo,Fo.eqv,h,qc1 f e (r := .nil) (r' := .nil) rfl]
 |.un _ n e,r,r',h=>by simp[E.fl,E.fo,Fo.eqv,h,qc1 f e (r := .nil) (r' := .nil) rfl]
 |.bin _ o a b,r,r',h=>by simp[E.fl,E.fo,Fo.eqv,h,qc1 f a (qc1 f b (r := .nil) (r' := .nil) rfl)]
theorem qdr(f fi fb:Bool) : ∀ (s:Ss),((s.fl f fi fb).fo).eqv s.fo=true
 |.nil=>rfl
 |.assign _ s e r=>by simp[Ss.fl,Ss.fo,Fo.eqv,qc1 f e (r := .nil) (r' := .nil) rfl,qdr f fi fb r]
 |.store _ s a b r=>by simp[Ss.fl,Ss.fo,Fo.eqv,qc1 f a (qc1 f b (r := .nil) (r' := .nil) rfl),qdr f fi fb r]
 |.effect _ a b r=>by simp[Ss.fl,Ss.fo,Fo.eqv,qc1 f a (qc1 f b (r := .nil) (r' := .nil) rfl),qdr f fi fb r]
 |.stop r=>by simp[Ss.fl,Ss.fo,Fo.eqv,qdr f fi fb r]
 |.cond w _ c b r=>by cases w<;>simp[Ss.fl,Ss.fo,Fo.eqv,qc1 f c (qdr f fi fb b),qdr f fi fb r]
 |.block _ b r=>by simp[Ss.fl,Ss.fo,Fo.eqv,qdr f fi fb b,qdr f fi fb r]
theorem qkD : ∀ {a b:Fo},a.eqv b=true->a.size=b.size
 |.nil,.nil,_=>rfl
 |.cons ..,.cons ..,h=>by
  simp only[Fo.eqv,Wq] at h
  simp only[Fo.size,qkD h.2.1,qkD h.2.2]
 |.nil,.cons ..,h=>by cases h
 |.cons ..,.nil,h=>by cases h
end
section
def wt:List ByteArray->Nat
 |[]=>0
 |t::l=>t.size+1+wt l
theorem qfc(a b:List ByteArray):wt (a++b)=wt a+wt b:=by
 induction a with
 |nil=>simp[wt]
 |cons t a ih=>simp only[Wi,wt,ih]; omega
theorem qqp : ∀ (l:List ByteArray) (p:Bool),(qav p l).length<=wt l
 |[],p=>by simp[qav,wt]
 |t::l,p=>by
  have h1:=qqp l (qcp p t)
  have h2:=qaZ t
  have h3:(gap p t).length<=1:=by unfold gap; split<;>simp
  simp only[qav,Wb,wt]
  omega
theorem qnu(b:Bool)(l:List ByteArray):wt (qda b l)<=wt l+4:=by
 cases b with
 |false=>simp[qda]
 |true=>
  have:wt (qda true l)=2+(wt l+2):=by
   show wt (bs [40]::(l++[bs [41]]))=_
   rw[wt,qfc]
   rfl
  omega
theorem qiV(full:Bool) : ∀ (e:E) p,wt (e.tx full p)<=e.cost
 |.int n,p=>by simp[E.tx,wt,E.cost,qaB]
 |.bool n,p=>by
  simp only[E.tx,wt,E.cost]
  split<;>simp[qhn,qll,qaB]
 |.var s,p=>by simp[E.tx,wt,E.cost]
 |.name s,p=>by simp[E.tx,wt,E.cost]
 |.field _ s e,p=>by
  have:=qiV full e 1
  simp only[E.tx,wt,qfc,E.cost,qaB,We,Wk]
  omega
 |.un _ neg e,p=>by
  have h1:=qiV full e (qfD neg)
  have h2:=qnu (full||decide (qfD neg<p)) (ustr neg::e.tx full (qfD neg))
  have h3:(ustr neg).size=1:=by cases neg<;>rfl
  simp only[E.tx,E.cost]
  rw[wt,h3] at h2
  omega
 |.bin _ o a b,p=>by
  have h1:=qiV full a o.left
  have h2:=qiV full b (o.prec+1)
  have h3:=qnu (full||decide (o.prec<p)) (a.tx full o.left++o.str::b.tx full (o.prec+1))
  have how:5<=o.w:=by cases o<;>decide
  simp only[E.tx,E.cost]
  rw[qfc,wt] at h3
  omega
theorem qkr : ∀ s:Ss,wt s.tx<=s.cost
 |.nil=>Wj _
 |.assign _ s e r=>by
  have h1:=qiV false e 1
  have h2:=qkr r
  simp only[Ss.tx,wt,qfc,Ss.cost,qaB,We,Wk]
  omega
 |.store _ s a b r=>by
  have h1:=qiV false a 1
  have h3:=qiV false b 1
  have h2:=qkr r
  simp only[Ss.tx,wt,qfc,Ss.cost,qaB,We,Wk]
  omega
 |.effect _ a b r=>by
  have h1:=qiV false a 1
  have h3:=qiV false b 1
  have h2:=qkr r
  simp only[Ss.tx,wt,qfc,Ss.cost,qke,qaB,We,Wk]
  omega
 |.stop r=>by
  have h2:=qkr r
  simp only[Ss.tx,wt,qfc,Ss.cost,qsm,qaB,We,Wk]
  omega
 |.cond w _ c b r=>by
  have h1:=qiV false c 1
  have h3:=qkr b
  have h2:=qkr r
  cases w<;>simp only[Ss.tx,wt,qfc,Ss.cost,qnf,ifS,qaB,We,Wk,if_true,Wp,if_false]<;>omega
 |.block _ b r=>by
  have h3:=qkr b
  have h2:=qkr r
  simp only[Ss.tx,wt,qfc,Ss.cost,qaB,We,Wk]
  split
  ·simp only[wt,qkd,qaB,We,Wk]; omega
  ·simp only[wt]; omega
theorem qks{s:ByteArray}(h:s∈qq9):qpZ s/\s.size<=3:=by
 simp only[qq9,qoH,Wi,Wc,Wr,Wt,or_false] at h
 have key : ∀ (c:UInt8) (r:List UInt8),qbg c=true->(∀ b∈r,qaM b=true)->(c::r).length<=8->Tg (byl (bs (c::r))):=fun c r h1 h2 h3=>qvh h1 h2 h3
 rcases h with rfl|rfl|rfl|rfl|rfl
 ·exact⟨⟨key 105 [] (by decide) (by decide) (by decide),by decide,by decide,by decide⟩,by decide⟩
 ·exact⟨⟨key 110 [] (by decide) (by decide) (by decide),by decide,by decide,by decide⟩,by decide⟩
 ·exact⟨⟨key 115 [117,109] (by decide) (by decide) (by decide),by decide,by decide,by decide⟩,by decide⟩
 ·exact⟨⟨key 118 [51] (by decide) (by decide) (by decide),by decide,by decide,by decide⟩,by decide⟩
 ·exact⟨⟨key 118 [] (by decide) (by decide) (by decide),by decide,by decide,by decide⟩,by decide⟩
theorem qlx{s:ByteArray}(h:s∈qlE):(s=qyj\/s=qtM\/s=qso)/\s.size<=5:=by
 simp only[qlE,Wr,Wt,or_false] at h
 rcases h with rfl|rfl|rfl
 ·exact⟨.inl rfl,by decide⟩
 ·exact⟨.inr (.inl rfl),by decide⟩
 ·exact⟨.inr (.inr rfl),by decide⟩
theorem qjA{s:ByteArray}(h:s∈qdT):s∈fieldNames/\s.size<=5:=by
 simp only[qdT,qfZ,Wi,Wc,Wr,Wt,or_false] at h
 rcases h with rfl|rfl|rfl|rfl|rfl|rfl|rfl|rfl<;>exact⟨by decide,by decide⟩
theorem qbW : ∀ e:E,e.fine->e.good
 |.int n,h=>h
 |.bool n,h=>h
 |.var s,h=>(qks h).1
 |.name s,h=>(qlx h).1
 |.field _ s e,h=>⟨(qjA h.1).1,qbW e h.2.1⟩
 |.un _ neg e,h=>qbW e h.1
 |.bin _ o a b,h=>⟨qbW a h.1,qbW b h.2.1⟩
theorem qc0(full:Bool) : ∀ (e:E) p,e.nest full p<=2*e.dp
 |.int n,p | .bool n,p | .var s,p | .name s,p=>by simp[E.nest]
 |.field _ s e,p=>by have:=qc0 full e 1; simp only[E.nest,E.dp]; omega
 |.un _ neg e,p=>by have:=qc0 full e (qfD neg); simp only[E.nest,E.dp]; split<;>omega
 |.bin _ o a b,p=>by have h1:=qc0 full a o.left; have h2:=qc0 full b (o.prec+1); simp only[E.nest,E.dp]; split<;>omega
theorem qov{s:ByteArray}(h:s∈qfZ):s∈qdT:=Yp _ h
theorem qow(s:Ss):s.fine->s.good none:=by
 fun_induction Ss.fine s with
 |case1=>intro _; exact .inl rfl
 |case2 _ s e r ih=>intro h; exact⟨rfl,(qks h.1.1).1,qbW e h.1.2.1,ih h.2⟩
 |case3 _ s a b r ih=>intro h; exact⟨rfl,(qjA (qov h.1.1)).1,qbW a h.1.2.1,qbW b h.1.2.2.2.1,ih h.2⟩
 |case4 _ a b r ih=>intro h; exact⟨rfl,qbW a h.1.1,qbW b h.1.2.2.1,ih h.2⟩
 |case5 r ih=>intro h; exact⟨rfl,ih h⟩
 |case6 _ c _ x _ y r ih1 ih2 ih3=>intro h; exact⟨rfl,qbW c h.1.1,⟨1,rfl,ih1 h.2.1,⟨0,rfl,ih2 h.2.2.1,.inr rfl⟩⟩,ih3 h.2.2.2⟩
 |case7 _ c _ x r ih1 ih2=>intro h; exact⟨rfl,qbW c h.1.1,⟨0,rfl,ih1 h.2.1,.inr rfl⟩,ih2 h.2.2⟩
 |case8=>intro h; exact h.elim
theorem qdp : ∀ s:Ss,s.nest<=2*s.edp+1+s.dp
 |.nil=>by simp[Ss.nest]
 |.assign _ s e r=>by have h1:=qc0 false e 1; have h2:=qdp r; simp only[Ss.nest,Ss.edp,Ss.dp]; omega
 |.store _ s a b r=>by have h1:=qc0 false a 1; have h3:=qc0 false b 1; have h2:=qdp r; simp only[Ss.nest,Ss.edp,Ss.dp]; omega
 |.effect _ a b r=>by have h1:=qc0 false a 1; have h3:=qc0 false b 1; have h2:=qdp r; simp only[Ss.nest,Ss.edp,Ss.dp]; omega
 |.stop r=>by have h2:=qdp r; simp only[Ss.nest,Ss.edp,Ss.dp]; omega
 |.cond _ _ c b r=>by have h1:=qc0 false c 1; have h3:=qdp b; have h2:=qdp r; simp only[Ss.nest,Ss.edp,Ss.dp]; omega
 |.block _ b r=>by have h3:=qdp b; have h2:=qdp r; simp only[Ss.nest,Ss.edp,Ss.dp]; omega
theorem qkt{h:Hd}(hg:h.gen):qhm h.opt:=by
 cases h with
 |none=>intro b hb; cases hb
 |some f b=>
  intro x hx
  cases hx
  have h1:=hg.dp
  have h2:=hg.edp
  have h3:=qdp b
  simp only[Hd.ss] at h1 h2
  exact⟨qow b hg.fine,by omega⟩
theorem qly{a b c:Hd}(ha:a.gen)(hb:b.gen)(hc:c.gen) : ∀ k,qhm (Hd.opts a b c k)
 |0=>qkt ha
 |1=>qkt hb
 |_+2=>qkt hc
theorem qv7(k:Nat)(h:Hd):wt (qjm k h.opt)<=h.cost:=by
 cases h with
 |none=>simp[Hd.opt,qjm,wt]
 |some f b=>
  have:=qkr b
  have hk:(qfJ k).size<=4:=by unfold qfJ; split<;>decide
  simp only[Hd.opt,qjm,wt,qfc,Hd.cost,onS,qaB,We,Wk]
  omega
theorem qnv(a b c:Hd):(qav false (qdi (Hd.opts a b c))).length<=a.cost+(b.cost+c.cost):=by
 refine Yd (qqp (qdi (Hd.opts a b c)) false) ?_
 simp only[qdi,qfc]
 exact Nat.add_le_add (qv7 0 a) (Nat.add_le_add (qv7 1 b) (qv7 2 c))
end
end Go.Pm
section
namespace Go.Pm.F
def tK:Nat->Option PFun
 |227=>some F227
 |_=>none
end Go.Pm.F
end
namespace Go.Pm
section
open F
def qzk:ByteArray:=⟨#[48,48,48,49,48,50,48,51,48,52,48,53,48,54,48,55,48,56,48,57,49,48,49,49,49,50,49,51,49,52,49,53,49,54,49,55,49,56,49,57,50,48,50,49,50,50,50,51,50,52,50,53,50,54,50,55,50,56,50,57,51,48,51,49,51,50,51,51,51,52,51,53,51,54,51,55,51,56,51,57,52,48,52,49,52,50,52,51,52,52,52,53,52,54,52,55,52,56,52,57,53,48,53,49,53,50,53,51,53,52,53,53,53,54,53,55,53,56,53,57,54,48,54,49,54,50,54,51,54,52,54,53,54,54,54,55,54,56,54,57,55,48,55,49,55,50,55,51,55,52,55,53,55,54,55,55,55,56,55,57,56,48,56,49,56,50,56,51,56,52,56,53,56,54,56,55,56,56,56,57,57,48,57,49,57,50,57,51,57,52,57,53,57,54,57,55,57,56,57,57]⟩
def dg(d:Nat):UInt8:=(48+d).toUInt8
theorem qxJ : ∀ k,k<100->qzk[2*k]?=some (dg (k / 10)):=by decide +kernel
theorem qxK : ∀ k,k<100->qzk[2*k+1]?=some (dg (k % 10)):=by decide +kernel
end
section
open F
theorem pr{x:Nat}(h:x<100) : ∃ p q:Nat,IntKind.u32.wrap ((x:Int)*2)=(p:Int)/\IntKind.u32.wrap ((p:Int)+1)=(q:Int)/\qzk[p]?=some (dg (x / 10))/\qzk[q]?=some (dg (x % 10)):=
 ⟨2*x,2*x+1,by rw[IntKind.wrap_u32']; omega,by rw[IntKind.wrap_u32']; omega,qxJ x h,qxK x h⟩
end
end Go.Pm
section
namespace Go.Pm.F
def tS:Nat->Option PFun
 |20=>some F20
 |152=>some F152
 |192=>some F192
 |193=>some F193
 |234=>some F234
 |236=>some F236
 |246=>some F246
 |247=>some F247
 |248=>some F248
 |261=>some F261
 |262=>some F262
 |263=>some F263
 |_=>none
end Go.Pm.F
end
namespace Go.Pm
section
open F
theorem qlM(c:UInt8):Z tS (.call 192 [.dat (.lit (.int .u8 c.toNat))] [])=some (.ret (.bool (qbg c)) []):=by
 refine qab (pf:=F192) rfl rfl ?_
 by_cases h1:(97:Int)<=c.toNat
 ·have h1':97<=c.toNat:=by omega
  by_cases h2:(c.toNat:Int)<=122
  ·have h2':c.toNat<=122:=by omega
   simp[F192,qbg,h1,h1',h2,h2']
  ·have h2' : ¬ c.toNat<=122:=by omega
   simp[F192,qbg,h1,h1',h2,h2']
 ·have h1' : ¬ 97<=c.toNat:=by omega
  simp[F192,qbg,h1,h1']
theorem qnJ(c:UInt8):Z tS (.call 193 [.dat (.lit (.int .u8 c.toNat))] [])=some (.ret (.bool (qaF c)) []):=by
 refine qab (pf:=F193) rfl rfl ?_
 by_cases h1:(48:Int)<=c.toNat
 ·have h1':48<=c.toNat:=by omega
  by_cases h2:(c.toNat:Int)<=57
  ·have h2':c.toNat<=57:=by omega
   simp[F193,qaF,h1,h1',h2,h2']
  ·have h2' : ¬ c.toNat<=57:=by omega
   simp[F193,qaF,h1,h1',h2,h2']
 ·have h1' : ¬ 48<=c.toNat:=by omega
  simp[F193,qaF,h1,h1']
theorem quf(a b:List UInt8):bs a++bs b=bs (a++b):=by
 apply qmx
 simp[byl,bs,ByteArray.data_append]
theorem qeA(a b:ByteArray):a++b=bs (byl a++byl b):=by
 rw[<- quf,qdR,qdR]
theorem qjM:qaY qaM ⟨#[]⟩=false:=by rw[qbG]; rfl
theorem qug(a b:ByteArray)(h:a.size+b.size<2 ^ 40):Z tS (.call 262 [.str a,.str b] [])=some (.ret (.str (bs (pw (byl a) [b]))) []):=by
 have hab : ¬ (9223372036854775807:Int)<(a.size:Int)+(b.size:Int):=by omega
 have plain:gap (wl (byl a)) b=[]->bs (pw (byl a) [b])=a++b:=fun hg=>by
  rw[qdf,qe3,hg,Wc,qeA]
 refine qab (pf:=F262) rfl rfl ?_
 by_cases ha:a=⟨#[]⟩
 ·rw[plain (by rw[ha]; rfl)]
  have e:eqS a ⟨#[]⟩=true:=by rw[qbk]; simp[ha]
  simp[F262,e,hab]
 ·have ea:eqS a ⟨#[]⟩=false:=by rw[qbk]; simp[ha]
  by_cases hb:b=⟨#[]⟩
  ·rw[plain (by rw[hb,gap,qjM]; simp)]
   have e:eqS b ⟨#[]⟩=true:=by rw[qbk]; simp[hb]
   simp[F262,ea,e,hab]
  ·have eb:eqS b ⟨#[]⟩=false:=by rw[qbk]; simp[hb]
   have nz : ∀ {t:ByteArray},t≠⟨#[]⟩->t.size≠0:=fun {t} h h0=>h (by
    apply qmx
    have:(byl t).length=0:=by rw[qaZ,h0]
    rw[WP this])
   have ha0:=nz ha
   obtain⟨y,hy,hs⟩:=qsj (nz hb)
   have hx:=qvm ha0
   have hwl:wl (byl a)=qaM (lastC (byl a)):=rfl
   generalize lastC (byl a)=x at *
   have l1:=qlM x
   have l2:=qnJ x
   have l3:=qlM y
   have l4:=qnJ y
   have w2:=qag ((a.size:Int)-1) (by omega)
   have w3:((a.size:Int)-1).toNat=a.size-1:=by omega
   have w4:(0:Int)<=(a.size:Int)-1:=by omega
   have w5:(1:Int)<=a.size:=by omega
   by_cases hg:(qaM x&&qaM y)=true
   ·have hgap:gap (wl (byl a)) b=[32]:=by rw[gap,hwl,hs,if_pos hg]
    have e:bs (pw (byl a) [b])=a++⟨#[32]⟩++b:=by
     rw[qdf,qe3,hgap,qeA,qeA a,qbX]
     simp[byl]
    rw[e]
    have hab2 : ¬ (9223372036854775807:Int)<(a.size:Int)+1:=by omega
    have hab3 : ¬ (9223372036854775807:Int)<(a.size:Int)+1+(b.size:Int):=by omega
    have hsz:(a++⟨#[32]⟩:ByteArray).size=a.size+1:=by rw[Ym]; rfl
    have hsp:(⟨#[32]⟩:ByteArray).size=1:=rfl
    have hsp2:((⟨#[32]⟩:ByteArray).size:Int)=1:=rfl
    unfold qaM at hg
    cases h1:qbg x<;>cases h2:qaF x<;>cases h3:qbg y<;>cases h4:qaF y<;>rw[h1,h2,h3,h4] at hg<;>simp at hg<;>rw[h1] at l1<;>rw[h2] at l2<;>rw[h3] at l3<;>rw[h4] at l4 <;>
     simp[F262,ea,eb,hx,hy,l1,l2,l3,l4,w2,w3,w4,w5,hab2,hab3,hsz,hsp,hsp2,V.len]
   ·have hgap:gap (wl (byl a)) b=[]:=by rw[gap,hwl,hs,if_neg hg]
    rw[plain hgap]
    unfold qaM at hg
    cases h1:qbg x<;>cases h2:qaF x<;>cases h3:qbg y<;>cases h4:qaF y<;>rw[h1,h2,h3,h4] at hg<;>simp at hg<;>rw[h1] at l1<;>rw[h2] at l2<;>rw[h3] at l3<;>rw[h4] at l4 <;>
     simp[F262,ea,eb,hx,hy,l1,l2,l3,l4,w2,w3,w4,w5,hab,V.len]
theorem qnK (fl:Bool) (ts:List ByteArray) (hn:ts.length<2 ^ 30) : ∀ (m i:Nat) (w:List UInt8),i+m=ts.length->(pw w (ts.drop i)).length<2 ^ 40 ->
  Z tS (.loop 0 F247l0 [(0,.dat (.sl (qb3 ts) ts.length fl)),(3,.str (bs w)),(4,.int i)] [])=some (.out (.exit 0) [(0,.dat (.sl (qb3 ts) ts.length fl)),(3,.str (bs (pw w (ts.drop i)))),(4,.int ts.length),(8,.bool false)] [])
 |0,i,w,hi,hsz=>by
  have hi':i=ts.length:=by omega
  subst hi'
  rw[List.drop_length,qe3]
  rw[qac]
  simp[qad,qjG,V.len]
 |m+1,i,w,hi,hsz=>by
  have hlt:i<ts.length:=by omega
  have hd:ts.drop i=ts[i]::ts.drop (i+1):=WF hlt
  rw[hd,qdf] at hsz ⊢
  have hc:=qhT ts i hlt
  generalize ts[i]=t at *
  have hw0:(w++(gap (wl w) t++byl t)).length<2 ^ 40:=Wu (qtJ _ _) hsz
  have ih:=qnK fl ts hn m (i+1) (w++(gap (wl w) t++byl t)) (by omega) hsz
  rw[<- ih]
  have z:=qug (bs w) t (by rw[Wb,Wb,qaZ] at hw0; rw[qaB]; omega)
  rw[qbX,qdf,qe3] at z
  have w1:=qag ((i:Int)+1) (by omega)
  have hlt':(i:Int)<ts.length:=by omega
  conv=>lhs; rw[qac]
  generalize bs (w++(gap (wl w) t++byl t))=R at *
  generalize bs w=R0 at *
  simp[qad,qjG,z,hc,w1,hlt',hlt,qae,V.len]
theorem qBp(fl:Bool){ts:List ByteArray}{R:ByteArray}(hR:R=bs (pw [] ts))(hn:ts.length<2 ^ 30)(hsz:R.size<2 ^ 40):Z tS (.call 247 [.dat (.sl (qb3 ts) ts.length fl)] [])=some (.ret (.str R) []):=by
 subst hR
 have z:=qnK fl ts hn ts.length 0 [] (by omega) (by rw[W5]; exact hsz)
 rw[W5] at z
 simp only[Wv] at z
 rw[show bs []=⟨#[]⟩ from rfl] at z
 refine qab (pf:=F247) rfl rfl ?_
 generalize bs (pw [] ts)=R at *
 simp[F247,z]
theorem quh(w:List UInt8){ts:List ByteArray}(h : ∀ t∈ts,t.size≠0):pw w [bs (qav false ts)]=pw w ts:=by
 cases ts with
 |nil=>
  rw[qdf,qe3,qe3,qav]
  have:=qjM
  simp[gap,bs,byl,this]
 |cons t ts=>
  have ht:=h t (WN ..)
  cases hb:byl t with
  |nil=>exact absurd (by rw[<- qaZ,hb]; rfl) ht
  |cons c r=>
   have hs:qaY qaM (bs (qav false (t::ts)))=qaY qaM t:=by
    rw[qbG,qbG,qbX,qav,hb]
    rfl
   have hg:gap (wl w) (bs (qav false (t::ts)))=gap (wl w) t:=by rw[gap,gap,hs]
   have he:qcp (wl w) t=qcp false t:=by
    unfold qcp
    cases hl:(byl t).getLast? with
    |none=>rw[Yn] at hl; rw[hl] at hb; cases hb
    |some c=>rfl
   rw[qdf,qe3,hg,qbX]
   show w++(gap (wl w) t++qav false (t::ts))=w++qav (wl w) (t::ts)
   rw[qav,qav,he]
   rfl
theorem qmC(w:List UInt8){ts:List ByteArray}(h : ∀ t∈ts,t.size≠0)(r:List ByteArray):pw w (bs (qav false ts)::r)=pw w (ts++r):=by
 rw[show bs (qav false ts)::r=[bs (qav false ts)]++r from rfl,qjq,quh w h,<- qjq]
end
section
open F
def digS:ByteArray:=⟨#[48,49,50,51,52,53,54,55,56,57]⟩
theorem qve : ∀ d,d<10->digS.extract d (d+1)=bs [(48+d).toUInt8]:=by decide
theorem qm2 (n:Int) : ∀ (k m:Nat) (out:ByteArray),m<10 ^ k->k<=18->out.size+k<=100 ->
  Z tS (.loop 0 F20l0 [(0,.int n),(3,.str digS),(4,.str out),(5,.int m)] [])=some (.out (.exit 0) [(0,.int n),(3,.str digS),(4,.str (bs (if m=0 then [] else qlP k m)++out)),(5,.int 0),(11,.bool false)] [])
 |k,0,out,_,_,_=>by
  rw[qac]
  have e:bs []++out=out:=by rw[show bs []=ByteArray.empty from rfl,ByteArray.empty_append]
  simp[qad,qlF,digS,e]
 |0,m+1,out,h,_,_=>by simp at h
 |k+1,m+1,out,h,hk,ho=>by
  have hp:(10:Nat) ^ (k+1)<=10 ^ 18:=Nat.pow_le_pow_right (by omega) hk
  have hd:((m+1:Nat):Int).tmod 10=(((m+1) % 10:Nat):Int):=rfl
  have hq:((m+1:Nat):Int).tdiv 10=(((m+1) / 10:Nat):Int):=rfl
  have hlt:(m+1) % 10<10:=Nat.mod_lt _ (by omega)
  have hx:=qve _ hlt
  have w1:=qag (((m+1) % 10:Nat)+1:Int) (by omega)
  have w2:IntKind.i64.wrap (((m+1) / 10:Nat):Int)=((m+1) / 10:Nat):=qag _ (by omega)
  have hne : ¬ ((m+1:Nat):Int)=0:=by omega
  have hneg : ¬ (((m+1) % 10:Nat):Int)<0:=by omega
  have ih:=qm2 n k ((m+1) / 10) (bs [(48+(m+1) % 10).toUInt8]++out) (by rw[Nat.pow_succ] at h; omega) (by omega) (by rw[Ym,qaB]; simp; omega)
  have hres:bs (if (m+1) / 10=0 then [] else qlP k ((m+1) / 10))++(bs [(48+(m+1) % 10).toUInt8]++out)=bs (qlP (k+1) (m+1))++out:=by
   rw[<- ByteArray.append_assoc]
   congr 1
   simp only[qlP]
   by_cases h10:m+1<10
   ·rw[if_pos h10,if_pos (by omega),Nat.mod_eq_of_lt h10]
    rfl
   ·rw[if_neg h10,if_neg (by omega)]
    rfl
  rw[hres] at ih
  rw[if_neg (by omega),<- ih]
  generalize hd2:(m+1) % 10=d at *
  generalize hq2:(m+1) / 10=q at *
  generalize hm:m+1=M at *
  have hM : ¬ M=0:=by omega
  have b1:(d:Int)<=digS.size:=by rw[show digS.size=10 from rfl]; omega
  have b2:(d:Int)+1<=digS.size:=by rw[show digS.size=10 from rfl]; omega
  have b3:(0:Int)<=(d:Int)+1:=by omega
  have b4:((d:Int)+1).toNat=d+1:=by omega
  have b5:(d:Int)<=(d:Int)+1:=by omega
  have hsz : ¬ (9223372036854775807:Int)<((bs [(48+d).toUInt8]).size:Int)+out.size:=by rw[qaB]; simp; omega
  generalize digS=ds at *
  generalize bs [(48+d).toUInt8]=ch at *
  conv=>lhs; rw[qac]
  simp[qad,qlF,qcv,bound,hd,hq,hne,hneg,w1,w2,b1,b2,b3,b4,b5,hx,hsz,hM]
theorem qpK{n:Nat}(h:n<10 ^ 18):Z tS (.call 20 [.int n] [])=some (.ret (.str (bs (qmh n))) []):=by
 refine qab (pf:=F20) rfl rfl ?_
 by_cases h0:n=0
 ·subst h0
  simp[F20,qmh,qlP,bs]
 ·have hne : ¬ (n:Int)=0:=by omega
  have hneg : ¬ (n:Int)<0:=by omega
  have z:=qm2 n 18 n ⟨#[]⟩ h (by omega) (by decide)
  rw[if_neg h0] at z
  have e : ∀ (k j n:Nat),n<10 ^ k->1<=k->qlP (k+j) n=qlP k n:=fun k=>by
   induction k with
   |zero=>intro j n _ h; omega
   |succ k ih=>
    intro j n hn _
    rw[show k+1+j=(k+j)+1 by omega]
    simp only[qlP]
    split
    ·rfl
    ·rename_i h10
     have hk:1<=k:=by
      rcases k with _|k
      ·simp at hn; omega
      ·omega
     rw[ih j (n / 10) (by rw[Nat.pow_succ] at hn; omega) hk]
  have e2:bs (qlP 18 n)++⟨#[]⟩=bs (qmh n):=by
   rw[show qmh n=qlP (18+2) n from rfl,e 18 2 n h (by omega)]
   exact ByteArray.append_empty
  rw[e2] at z
  simp only[digS] at z
  simp[F20,h0,hne,hneg,z]
end
section
open F
theorem qeC(e:E):Z tS (.call 261 [e.node] [])=some (.ret (.int e.lev) []):=by
 refine qab (pf:=F261) rfl rfl ?_
 cases e with
 |un f neg e=>cases neg<;>simp[F261,E.lev,qfD,ustr,qbk]
 |bin f o a b=>cases o<;>simp[F261,E.lev,Bop.prec,Bop.str,qbk]
 |_=>simp[F261,E.lev]
inductive Parts:List ByteArray->List ByteArray->Prop
 |nil:Parts [] []
 |tok {t:ByteArray} {l ts:List ByteArray} (h:Parts l ts):Parts (t::l) (t::ts)
 |sub {a l ts:List ByteArray} (ha : ∀ t∈a,t.size≠0) (h:Parts l ts):Parts (bs (qav false a)::l) (a++ts)
theorem qrY{l ts:List ByteArray}(h:Parts l ts) : ∀ w,pw w l=pw w ts:=by
 induction h with
 |nil=>intro w; rfl
 |tok h ih=>intro w; rw[qdf,qdf,ih]
 |sub ha h ih=>intro w; rw[qmC w ha,qjq,qjq,ih]
theorem qdJ{l ts:List ByteArray}{R:ByteArray}(hp:Parts l ts)(hR:R=bs (qav false ts))(hn:l.length<2 ^ 30)(hsz:R.size<2 ^ 40):Z tS (.call 247 [.dat (.sl (qb3 l) l.length true)] [])=some (.ret (.str R) []):=
 qBp true (by rw[hR,qrY hp,qqu]) hn hsz
theorem qgo(ts:List ByteArray)(p:Bool):(qav false ts).length<=(qav p ts).length:=by
 cases ts with
 |nil=>simp[qav]
 |cons t ts=>
  simp only[qav,Wb]
  have:(gap false t).length=0:=rfl
  cases hb:byl t with
  |nil=>
   have e : ∀ q,qcp q t=q:=fun q=>by unfold qcp; rw[hb]; rfl
   rw[e,e]
   have:=qgo ts p
   simp[gap]
   omega
  |cons c r=>
   have e:qcp p t=qcp false t:=by
    unfold qcp
    cases hl:(byl t).getLast? with
    |none=>rw[Yn] at hl; rw[hl] at hb; cases hb
    |some c=>rfl
   rw[e]
   omega
theorem qas(a b c:List ByteArray)(p:Bool):(qav false b).length<=(qav p (a++(b++c))).length:=by
 rw[qhN,qhN,Wb,Wb]
 have:=qgo b (qvk p a)
 omega
theorem qil(ts:List ByteArray):qav false (bs [40]::(ts++[bs [41]]))=40::(qav false ts++[41]):=by
 have e1:qcp false (bs [40])=false:=by decide
 have g1:gap false (bs [40])=[]:=rfl
 have g2 : ∀ q,gap q (bs [41])=[]:=fun q=>by cases q<;>decide
 rw[qav,e1,g1,qhN,qav,g2]
 simp[qav,qbX]
def qdm(e:E)(full:Bool)(p:Nat)(i:Int):Prop:=(qav false (e.tx full p)).length<2 ^ 40->Z tS (.call 246 [e.node,.int i,.bool full] [])=some (.ret (.str (bs (qav false (e.tx full p)))) [])
theorem qbU(full:Bool){e:E}(h:e.good)(p:Nat) : ∀ t∈e.tx full p,t.size≠0:=fun t ht=>qkv (qnw (qim full e h p).ok t ht)
theorem qxR{full:Bool}{n:Int}(h0:0<=n)(h1:n<=2147483647){p:Nat}{i:Int}(hi:i=p)(hp:p<=8):qdm (E.int n) full p i:=by
 intro hsz
 have zl:Z tS (.call 261 [.dat (.agg [.lit (.int .i64 8),.lit (.int .i64 n),.lit (.string ⟨#[]⟩),.lit (.slice none 0 0)])] [])=some (.ret (.int 8) []):=qeC (.int n)
 have hc : ¬ (8:Int)<i:=by omega
 have hq : ¬ 8<p:=by omega
 have f0:Z tS (.call 20 [.int n] [])=some (.ret (.str (bs (qmh n.toNat))) []):=by
  have:=qpK (n:=n.toNat) (by omega)
  rw[show ((n.toNat:Nat):Int)=n by omega] at this
  exact this
 have htx:(E.int n).tx full p=[bs (qmh n.toNat)]:=by simp[E.tx,qda,qfD,ustr,bs,qhn,qll,Bop.left]
 have hfin:bs (qav false ((E.int n).tx full p))=(bs (qmh n.toNat)):=by
  rw[htx,qav,qav,Wm]
  exact qdR (bs (qmh n.toNat))
 rw[hfin]
 clear hfin htx hsz
 refine qab (pf:=F246) rfl rfl ?_
 cases full<;>simp[F246,qae,zl,hc,f0]
theorem qrZ{full:Bool}{p:Nat}{i:Int}(hi:i=p)(hp:p<=8):qdm (E.bool 0) full p i:=by
 intro hsz
 have zl:Z tS (.call 261 [.dat (.agg [.lit (.int .i64 9),.lit (.int .i64 0),.lit (.string ⟨#[]⟩),.lit (.slice none 0 0)])] [])=some (.ret (.int 8) []):=qeC (.bool 0)
 have hc : ¬ (8:Int)<i:=by omega
 have hq : ¬ 8<p:=by omega
 have htx:(E.bool 0).tx full p=[⟨#[102,97,108,115,101]⟩]:=by simp[E.tx,qda,qfD,ustr,bs,qhn,qll,Bop.left]
 have hfin:bs (qav false ((E.bool 0).tx full p))=(⟨#[102,97,108,115,101]⟩):=by
  rw[htx,qav,qav,Wm]
  exact qdR (⟨#[102,97,108,115,101]⟩)
 rw[hfin]
 clear hfin htx hsz
 refine qab (pf:=F246) rfl rfl ?_
 cases full<;>simp[F246,qae,zl,hc]
theorem qr0{full:Bool}{p:Nat}{i:Int}(hi:i=p)(hp:p<=8):qdm (E.bool 1) full p i:=by
 intro hsz
 have zl:Z tS (.call 261 [.dat (.agg [.lit (.int .i64 9),.lit (.int .i64 1),.lit (.string ⟨#[]⟩),.lit (.slice none 0 0)])] [])=some (.ret (.int 8) []):=qeC (.bool 1)
 have hc : ¬ (8:Int)<i:=by omega
 have hq : ¬ 8<p:=by omega
 have htx:(E.bool 1).tx full p=[⟨#[116,114,117,101]⟩]:=by simp[E.tx,qda,qfD,ustr,bs,qhn,qll,Bop.left]
 have hfin:bs (qav false ((E.bool 1).tx full p))=(⟨#[116,114,117,101]⟩):=by
  rw[htx,qav,qav,Wm]
  exact qdR (⟨#[116,114,117,101]⟩)
 rw[hfin]
 clear hfin htx hsz
 refine qab (pf:=F246) rfl rfl ?_
 cases full<;>simp[F246,qae,zl,hc]
theorem qxS{full:Bool}{s:ByteArray}{p:Nat}{i:Int}(hi:i=p)(hp:p<=8):qdm (E.var s) full p i:=by
 intro hsz
 have zl:Z tS (.call 261 [.dat (.agg [.lit (.int .i64 10),.lit (.int .i64 0),.lit (.string s),.lit (.slice none 0 0)])] [])=some (.ret (.int 8) []):=qeC (.var s)
 have hc : ¬ (8:Int)<i:=by omega
 have hq : ¬ 8<p:=by omega
 have htx:(E.var s).tx full p=[s]:=by simp[E.tx,qda,qfD,ustr,bs,qhn,qll,Bop.left]
 have hfin:bs (qav false ((E.var s).tx full p))=(s):=by
  rw[htx,qav,qav,Wm]
  exact qdR (s)
 rw[hfin]
 clear hfin htx hsz
 refine qab (pf:=F246) rfl rfl ?_
 cases full<;>simp[F246,qae,zl,hc]
theorem quZ{full:Bool}{s:ByteArray}{p:Nat}{i:Int}(hi:i=p)(hp:p<=8):qdm (E.name s) full p i:=by
 intro hsz
 have zl:Z tS (.call 261 [.dat (.agg [.lit (.int .i64 12),.lit (.int .i64 0),.lit (.string s),.lit (.slice none 0 0)])] [])=some (.ret (.int 8) []):=qeC (.name s)
 have hc : ¬ (8:Int)<i:=by omega
 have hq : ¬ 8<p:=by omega
 have htx:(E.name s).tx full p=[s]:=by simp[E.tx,qda,qfD,ustr,bs,qhn,qll,Bop.left]
 have hfin:bs (qav false ((E.name s).tx full p))=(s):=by
  rw[htx,qav,qav,Wm]
  exact qdR (s)
 rw[hfin]
 clear hfin htx hsz
 refine qab (pf:=F246) rfl rfl ?_
 cases full<;>simp[F246,qae,zl,hc]
theorem qr1{full:Bool}{f:Bool}{s:ByteArray}{e:E}(ge:e.good)(he:qdm e full 1 1){p:Nat}{i:Int}(hi:i=p)(hp:p<=8):qdm (E.field f s e) full p i:=by
 intro hsz
 have zl:Z tS (.call 261 [.dat (.agg [.lit (.int .i64 11),.lit (.int .i64 0),.lit (.string s),.sl [.lit (.int .i64 e.kind),.lit (.int .i64 e.num),.lit (.string e.str),e.kids] 1 f])] [])=some (.ret (.int 8) []):=qeC (.field f s e)
 have hc : ¬ (8:Int)<i:=by omega
 have hq : ¬ 8<p:=by omega
 obtain⟨inn,hinn⟩ : ∃ v,v=[s]++([⟨#[91]⟩]++(e.tx full 1++([⟨#[93]⟩]++[]))):=⟨_,rfl⟩
 have htx:(E.field f s e).tx full p=inn:=by
  rw[hinn]
  simp[E.tx,qda,qfD,ustr,bs,qhn,qll,Bop.left,hq]
 rw[htx] at hsz ⊢
 have hin:=hsz
 have z2:=he (Wu (by
  have:=qas ([s]++([⟨#[91]⟩])) (e.tx full 1) ([⟨#[93]⟩]++[]) false
  try simp only[Wf,Wc] at this
  rw[hinn]
  exact this) hin)
 have hP:Parts [s,⟨#[91]⟩,bs (qav false (e.tx full 1)),⟨#[93]⟩] inn:=by rw[hinn]; exact (.tok (.tok (.sub (qbU full ge 1) (.tok .nil))))
 obtain⟨R,hR⟩ : ∃ v,v=bs (qav false inn):=⟨_,rfl⟩
 have hRs:R.size<2 ^ 40:=by rw[hR,qaB]; exact hin
 have za:Z tS (.call 247 [.dat (.sl [.lit (.string s),.lit (.string ⟨#[91]⟩),.lit (.string (bs (qav false (e.tx full 1)))),.lit (.string ⟨#[93]⟩)] 4 true)] [])=some (.ret (.str R) []):=qdJ hP hR (by simp) hRs
 generalize bs (qav false (e.tx full 1))=r2 at *
 rw[<- hR]
 clear hP hR hinn htx hsz hin
 refine qab (pf:=F246) rfl rfl ?_
 cases full<;>simp[F246,qae,zl,hc,z2,za]
theorem qAr{f neg:Bool}{e:E}{L:Nat}(hL:L=qfD neg)(ge:e.good)(he:qdm e false L L){p:Nat}{i:Int}(hi:i=p)(hp:p<=L):qdm (E.un f neg e) false p i:=by
 intro hsz
 have zl:Z tS (.call 261 [.dat (.agg [.lit (.int .i64 13),.lit (.int .i64 0),.lit (.string (ustr neg)),.sl [.lit (.int .i64 e.kind),.lit (.int .i64 e.num),.lit (.string e.str),e.kids] 1 f])] [])=some (.ret (.int L) []):=by
  have:=qeC (.un f neg e)
  rw[show E.lev (.un f neg e)=L from hL.symm] at this
  exact this
 have hc : ¬ (L:Int)<i:=by omega
 have hq : ¬ L<p:=by omega
 have h8:(L:Int)<8:=by rw[hL]; cases neg<;>decide
 obtain⟨inn,hinn⟩ : ∃ v,v=[(ustr neg)]++(e.tx false L++[]):=⟨_,rfl⟩
 have htx:(E.un f neg e).tx false p=inn:=by
  rw[hinn]
  simp[E.tx,qda,bs,hL.symm,hq]
 rw[htx] at hsz ⊢
 have hin:=hsz
 have z1:=he (Wu (by
  have:=qas ([(ustr neg)]) (e.tx false L) ([]) false
  try simp only[Wf,Wc] at this
  rw[hinn]
  exact this) hin)
 have hP:Parts [(ustr neg),bs (qav false (e.tx false L))] inn:=by rw[hinn]; exact (.tok (.sub (qbU false ge L) .nil))
 obtain⟨R,hR⟩ : ∃ v,v=bs (qav false inn):=⟨_,rfl⟩
 have hRs:R.size<2 ^ 40:=by rw[hR,qaB]; exact hin
 have za:Z tS (.call 247 [.dat (.sl [.lit (.string (ustr neg)),.lit (.string (bs (qav false (e.tx false L))))] 2 true)] [])=some (.ret (.str R) []):=qdJ hP hR (by simp) hRs
 generalize bs (qav false (e.tx false L))=r1 at *
 rw[<- hR]
 clear hP hR hinn htx hsz hin
 refine qab (pf:=F246) rfl rfl ?_
 simp[F246,qae,zl,hc,z1,za,h8]
theorem qxT{f neg:Bool}{e:E}{L:Nat}(hL:L=qfD neg)(ge:e.good)(he:qdm e false L L){p:Nat}{i:Int}(hi:i=p)(hp:L<p):qdm (E.un f neg e) false p i:=by
 intro hsz
 have zl:Z tS (.call 261 [.dat (.agg [.lit (.int .i64 13),.lit (.int .i64 0),.lit (.string (ustr neg)),.sl [.lit (.int .i64 e.kind),.lit (.int .i64 e.num),.lit (.string e.str),e.kids] 1 f])] [])=some (.ret (.int L) []):=by
  have:=qeC (.un f neg e)
  rw[show E.lev (.un f neg e)=L from hL.symm] at this
  exact this
 have hc:(L:Int)<i:=by omega
 have hq:L<p:=hp
 have h8:(L:Int)<8:=by rw[hL]; cases neg<;>decide
 obtain⟨inn,hinn⟩ : ∃ v,v=[(ustr neg)]++(e.tx false L++[]):=⟨_,rfl⟩
 have htx:(E.un f neg e).tx false p=bs [40]::(inn++[bs [41]]):=by
  rw[hinn]
  simp[E.tx,qda,bs,hL.symm,hq]
 rw[htx] at hsz ⊢
 rw[qil] at hsz ⊢
 have hin:(qav false inn).length<2 ^ 40:=by simp at hsz; omega
 have hin2:(qav false inn).length+2<2 ^ 40:=by simp at hsz; omega
 have z1:=he (Wu (by
  have:=qas ([(ustr neg)]) (e.tx false L) ([]) false
  try simp only[Wf,Wc] at this
  rw[hinn]
  exact this) hin)
 have hP:Parts [(ustr neg),bs (qav false (e.tx false L))] inn:=by rw[hinn]; exact (.tok (.sub (qbU false ge L) .nil))
 obtain⟨R,hR⟩ : ∃ v,v=bs (qav false inn):=⟨_,rfl⟩
 have hRs:R.size<2 ^ 40:=by rw[hR,qaB]; exact hin
 have za:Z tS (.call 247 [.dat (.sl [.lit (.string (ustr neg)),.lit (.string (bs (qav false (e.tx false L))))] 2 true)] [])=some (.ret (.str R) []):=qdJ hP hR (by simp) hRs
 generalize bs (qav false (e.tx false L))=r1 at *
 have hfin:bs (40::(qav false inn++[41]))=⟨#[40]⟩++R++⟨#[41]⟩:=by
  rw[qeA,qeA ⟨#[40]⟩,qbX,hR,qbX]
  simp[byl]
 rw[hfin]
 have hRl:R.size+2<2 ^ 40:=by rw[hR,qaB]; exact hin2
 have y1:((⟨#[40]⟩:ByteArray).size:Int)=1:=rfl
 have y2:((⟨#[41]⟩:ByteArray).size:Int)=1:=rfl
 have y3:(⟨#[40]⟩:ByteArray).size=1:=rfl
 have y4:(⟨#[41]⟩:ByteArray).size=1:=rfl
 have y5 : ¬ (9223372036854775807:Int)<1+(R.size:Int):=by omega
 have y6 : ¬ (9223372036854775807:Int)<1+(R.size:Int)+1:=by omega
 have y7:(⟨#[40]⟩++R:ByteArray).size=1+R.size:=by rw[Ym]; rfl
 clear hP hR hinn htx hsz hin hin2 hfin
 refine qab (pf:=F246) rfl rfl ?_
 simp[F246,qae,zl,hc,y1,y2,y3,y4,y5,y6,y7,z1,za,h8]
theorem qxU{f:Bool}{o:Bop}{a b:E}{L:Nat}(hl:o.prec=L)(h4:L≠4)(ga:a.good)(gb:b.good)(ha:qdm a false L L)(hb:qdm b false (L+1) ((L:Int)+1)){p:Nat}{i:Int}(hi:i=p)(hp:p<=L):qdm (E.bin f o a b) false p i:=by
 intro hsz
 have zl:Z tS (.call 261 [.dat (.agg [.lit (.int .i64 14),.lit (.int .i64 0),.lit (.string o.str),.sl [.lit (.int .i64 a.kind),.lit (.int .i64 a.num),.lit (.string a.str),a.kids,.lit (.int .i64 b.kind),.lit (.int .i64 b.num),.lit (.string b.str),b.kids] 2 f])] [])=some (.ret (.int L) []):=by
  have:=qeC (.bin f o a b)
  rw[show E.lev (.bin f o a b)=L from hl] at this
  exact this
 have hc : ¬ (L:Int)<i:=by omega
 have hq : ¬ L<p:=by omega
 have hlf:o.left=L:=by have:=qb8 o; omega
 have h4' : ¬ (L:Int)=4:=by omega
 have h8:(L:Int)<8:=by have:=qb8 o; omega
 have w1:=qag ((L:Int)+1) (by omega)
 obtain⟨inn,hinn⟩ : ∃ v,v=a.tx false L++([o.str]++(b.tx false (L+1)++[])):=⟨_,rfl⟩
 have htx:(E.bin f o a b).tx false p=inn:=by
  rw[hinn]
  simp[E.tx,qda,bs,hl,hlf,hq]
 rw[htx] at hsz ⊢
 have hin:=hsz
 have z0:=ha (Wu (by
  have:=qas ([]) (a.tx false L) ([o.str]++(b.tx false (L+1)++[])) false
  try simp only[Wf,Wc] at this
  rw[hinn]
  exact this) hin)
 have z2:=hb (Wu (by
  have:=qas (a.tx false L++([o.str])) (b.tx false (L+1)) ([]) false
  try simp only[Wf,Wc] at this
  rw[hinn]
  exact this) hin)
 have hP:Parts [bs (qav false (a.tx false L)),o.str,bs (qav false (b.tx false (L+1)))] inn:=by rw[hinn]; exact (.sub (qbU false ga L) (.tok (.sub (qbU false gb (L+1)) .nil)))
 obtain⟨R,hR⟩ : ∃ v,v=bs (qav false inn):=⟨_,rfl⟩
 have hRs:R.size<2 ^ 40:=by rw[hR,qaB]; exact hin
 have za:Z tS (.call 247 [.dat (.sl [.lit (.string (bs (qav false (a.tx false L)))),.lit (.string o.str),.lit (.string (bs (qav false (b.tx false (L+1)))))] 3 true)] [])=some (.ret (.str R) []):=qdJ hP hR (by simp) hRs
 generalize bs (qav false (a.tx false L))=r0 at *
 generalize bs (qav false (b.tx false (L+1)))=r2 at *
 rw[<- hR]
 clear hP hR hinn htx hsz hin
 refine qab (pf:=F246) rfl rfl ?_
 simp[F246,qae,zl,hc,z0,z2,za,h4',h8,w1]
theorem qu0{f:Bool}{o:Bop}{a b:E}{L:Nat}(hl:o.prec=L)(h4:L≠4)(ga:a.good)(gb:b.good)(ha:qdm a false L L)(hb:qdm b false (L+1) ((L:Int)+1)){p:Nat}{i:Int}(hi:i=p)(hp:L<p):qdm (E.bin f o a b) false p i:=by
 intro hsz
 have zl:Z tS (.call 261 [.dat (.agg [.lit (.int .i64 14),.lit (.int .i64 0),.lit (.string o.str),.sl [.lit (.int .i64 a.kind),.lit (.int .i64 a.num),.lit (.string a.str),a.kids,.lit (.int .i64 b.kind),.lit (.int .i64 b.num),.lit (.string b.str),b.kids] 2 f])] [])=some (.ret (.int L) []):=by
  have:=qeC (.bin f o a b)
  rw[show E.lev (.bin f o a b)=L from hl] at this
  exact this
 have hc:(L:Int)<i:=by omega
 have hq:L<p:=hp
 have hlf:o.left=L:=by have:=qb8 o; omega
 have h4' : ¬ (L:Int)=4:=by omega
 have h8:(L:Int)<8:=by have:=qb8 o; omega
 have w1:=qag ((L:Int)+1) (by omega)
 obtain⟨inn,hinn⟩ : ∃ v,v=a.tx false L++([o.str]++(b.tx false (L+1)++[])):=⟨_,rfl⟩
 have htx:(E.bin f o a b).tx false p=bs [40]::(inn++[bs [41]]):=by
  rw[hinn]
  simp[E.tx,qda,bs,hl,hlf,hq]
 rw[htx] at hsz ⊢
 rw[qil] at hsz ⊢
 have hin:(qav false inn).length<2 ^ 40:=by simp at hsz; omega
 have hin2:(qav false inn).length+2<2 ^ 40:=by simp at hsz; omega
 have z0:=ha (Wu (by
  have:=qas ([]) (a.tx false L) ([o.str]++(b.tx false (L+1)++[])) false
  try simp only[Wf,Wc] at this
  rw[hinn]
  exact this) hin)
 have z2:=hb (Wu (by
  have:=qas (a.tx false L++([o.str])) (b.tx false (L+1)) ([]) false
  try simp only[Wf,Wc] at this
  rw[hinn]
  exact this) hin)
 have hP:Parts [bs (qav false (a.tx false L)),o.str,bs (qav false (b.tx false (L+1)))] inn:=by rw[hinn]; exact (.sub (qbU false ga L) (.tok (.sub (qbU false gb (L+1)) .nil)))
 obtain⟨R,hR⟩ : ∃ v,v=bs (qav false inn):=⟨_,rfl⟩
 have hRs:R.size<2 ^ 40:=by rw[hR,qaB]; exact hin
 have za:Z tS (.call 247 [.dat (.sl [.lit (.string (bs (qav false (a.tx false L)))),.lit (.string o.str),.lit (.string (bs (qav false (b.tx false (L+1)))))] 3 true)] [])=some (.ret (.str R) []):=qdJ hP hR (by simp) hRs
 generalize bs (qav false (a.tx false L))=r0 at *
 generalize bs (qav false (b.tx false (L+1)))=r2 at *
 have hfin:bs (40::(qav false inn++[41]))=⟨#[40]⟩++R++⟨#[41]⟩:=by
  rw[qeA,qeA ⟨#[40]⟩,qbX,hR,qbX]
  simp[byl]
 rw[hfin]
 have hRl:R.size+2<2 ^ 40:=by rw[hR,qaB]; exact hin2
 have y1:((⟨#[40]⟩:ByteArray).size:Int)=1:=rfl
 have y2:((⟨#[41]⟩:ByteArray).size:Int)=1:=rfl
 have y3:(⟨#[40]⟩:ByteArray).size=1:=rfl
 have y4:(⟨#[41]⟩:ByteArray).size=1:=rfl
 have y5 : ¬ (9223372036854775807:Int)<1+(R.size:Int):=by omega
 have y6 : ¬ (9223372036854775807:Int)<1+(R.size:Int)+1:=by omega
 have y7:(⟨#[40]⟩++R:ByteArray).size=1+R.size:=by rw[Ym]; rfl
 clear hP hR hinn htx hsz hin hin2 hfin
 refine qab (pf:=F246) rfl rfl ?_
 simp[F246,qae,zl,hc,y1,y2,y3,y4,y5,y6,y7,z0,z2,za,h4',h8,w1]
theorem qu1{f:Bool}{o:Bop}{a b:E}(hl:o.prec=4)(ga:a.good)(gb:b.good)(ha:qdm a false 5 5)(hb:qdm b false 5 5){p:Nat}{i:Int}(hi:i=p)(hp:p<=4):qdm (E.bin f o a b) false p i:=by
 intro hsz
 have zl:Z tS (.call 261 [.dat (.agg [.lit (.int .i64 14),.lit (.int .i64 0),.lit (.string o.str),.sl [.lit (.int .i64 a.kind),.lit (.int .i64 a.num),.lit (.string a.str),a.kids,.lit (.int .i64 b.kind),.lit (.int .i64 b.num),.lit (.string b.str),b.kids] 2 f])] [])=some (.ret (.int 4) []):=by
  have:=qeC (.bin f o a b)
  rw[show E.lev (.bin f o a b)=4 from hl] at this
  exact this
 have hc : ¬ (4:Int)<i:=by omega
 have hq : ¬ 4<p:=by omega
 have hlf:o.left=5:=by have:=qb8 o; omega
 obtain⟨inn,hinn⟩ : ∃ v,v=a.tx false 5++([o.str]++(b.tx false 5++[])):=⟨_,rfl⟩
 have htx:(E.bin f o a b).tx false p=inn:=by
  rw[hinn]
  simp[E.tx,qda,bs,hl,hlf,hq]
 rw[htx] at hsz ⊢
 have hin:=hsz
 have z0:=ha (Wu (by
  have:=qas ([]) (a.tx false 5) ([o.str]++(b.tx false 5++[])) false
  try simp only[Wf,Wc] at this
  rw[hinn]
  exact this) hin)
 have z2:=hb (Wu (by
  have:=qas (a.tx false 5++([o.str])) (b.tx false 5) ([]) false
  try simp only[Wf,Wc] at this
  rw[hinn]
  exact this) hin)
 have hP:Parts [bs (qav false (a.tx false 5)),o.str,bs (qav false (b.tx false 5))] inn:=by rw[hinn]; exact (.sub (qbU false ga 5) (.tok (.sub (qbU false gb 5) .nil)))
 obtain⟨R,hR⟩ : ∃ v,v=bs (qav false inn):=⟨_,rfl⟩
 have hRs:R.size<2 ^ 40:=by rw[hR,qaB]; exact hin
 have za:Z tS (.call 247 [.dat (.sl [.lit (.string (bs (qav false (a.tx false 5)))),.lit (.string o.str),.lit (.string (bs (qav false (b.tx false 5))))] 3 true)] [])=some (.ret (.str R) []):=qdJ hP hR (by simp) hRs
 generalize bs (qav false (a.tx false 5))=r0 at *
 generalize bs (qav false (b.tx false 5))=r2 at *
 rw[<- hR]
 clear hP hR hinn htx hsz hin
 refine qab (pf:=F246) rfl rfl ?_
 simp[F246,qae,zl,hc,z0,z2,za,qag 5 (by omega)]
theorem qr2{f:Bool}{o:Bop}{a b:E}(hl:o.prec=4)(ga:a.good)(gb:b.good)(ha:qdm a false 5 5)(hb:qdm b false 5 5){p:Nat}{i:Int}(hi:i=p)(hp:4<p):qdm (E.bin f o a b) false p i:=by
 intro hsz
 have zl:Z tS (.call 261 [.dat (.agg [.lit (.int .i64 14),.lit (.int .i64 0),.lit (.string o.str),.sl [.lit (.int .i64 a.kind),.lit (.int .i64 a.num),.lit (.string a.str),a.kids,.lit (.int .i64 b.kind),.lit (.int .i64 b.num),.lit (.string b.str),b.kids] 2 f])] [])=some (.ret (.int 4) []):=by
  have:=qeC (.bin f o a b)
  rw[show E.lev (.bin f o a b)=4 from hl] at this
  exact this
 have hc:(4:Int)<i:=by omega
 have hq:4<p:=hp
 have hlf:o.left=5:=by have:=qb8 o; omega
 obtain⟨inn,hinn⟩ : ∃ v,v=a.tx false 5++([o.str]++(b.tx false 5++[])):=⟨_,rfl⟩
 have htx:(E.bin f o a b).tx false p=bs [40]::(inn++[bs [41]]):=by
  rw[hinn]
  simp[E.tx,qda,bs,hl,hlf,hq]
 rw[htx] at hsz ⊢
 rw[qil] at hsz ⊢
 have hin:(qav false inn).length<2 ^ 40:=by simp at hsz; omega
 have hin2:(qav false inn).length+2<2 ^ 40:=by simp at hsz; omega
 have z0:=ha (Wu (by
  have:=qas ([]) (a.tx false 5) ([o.str]++(b.tx false 5++[])) false
  try simp only[Wf,Wc] at this
  rw[hinn]
  exact this) hin)
 have z2:=hb (Wu (by
  have:=qas (a.tx false 5++([o.str])) (b.tx false 5) ([]) false
  try simp only[Wf,Wc] at this
  rw[hinn]
  exact this) hin)
 have hP:Parts [bs (qav false (a.tx false 5)),o.str,bs (qav false (b.tx false 5))] inn:=by rw[hinn]; exact (.sub (qbU false ga 5) (.tok (.sub (qbU false gb 5) .nil)))
 obtain⟨R,hR⟩ : ∃ v,v=bs (qav false inn):=⟨_,rfl⟩
 have hRs:R.size<2 ^ 40:=by rw[hR,qaB]; exact hin
 have za:Z tS (.call 247 [.dat (.sl [.lit (.string (bs (qav false (a.tx false 5)))),.lit (.string o.str),.lit (.string (bs (qav false (b.tx false 5))))] 3 true)] [])=some (.ret (.str R) []):=qdJ hP hR (by simp) hRs
 generalize bs (qav false (a.tx false 5))=r0 at *
 generalize bs (qav false (b.tx false 5))=r2 at *
 have hfin:bs (40::(qav false inn++[41]))=⟨#[40]⟩++R++⟨#[41]⟩:=by
  rw[qeA,qeA ⟨#[40]⟩,qbX,hR,qbX]
  simp[byl]
 rw[hfin]
 have hRl:R.size+2<2 ^ 40:=by rw[hR,qaB]; exact hin2
 have y1:((⟨#[40]⟩:ByteArray).size:Int)=1:=rfl
 have y2:((⟨#[41]⟩:ByteArray).size:Int)=1:=rfl
 have y3:(⟨#[40]⟩:ByteArray).size=1:=rfl
 have y4:(⟨#[41]⟩:ByteArray).size=1:=rfl
 have y5 : ¬ (9223372036854775807:Int)<1+(R.size:Int):=by omega
 have y6 : ¬ (9223372036854775807:Int)<1+(R.size:Int)+1:=by omega
 have y7:(⟨#[40]⟩++R:ByteArray).size=1+R.size:=by rw[Ym]; rfl
 clear hP hR hinn htx hsz hin hin2 hfin
 refine qab (pf:=F246) rfl rfl ?_
 simp[F246,qae,zl,hc,y1,y2,y3,y4,y5,y6,y7,z0,z2,za,qag 5 (by omega)]
theorem qk8 : ∀ e:E,e.good -> ∀ p i,i=((p:Nat):Int)->p<=8->qdm e false p i
 |.int n,h,p,i,hi,hp=>qxR h.1 h.2 hi hp
 |.bool n,h,p,i,hi,hp=>by
  rcases h with rfl|rfl
  ·exact qrZ hi hp
  ·exact qr0 hi hp
 |.var s,h,p,i,hi,hp=>qxS hi hp
 |.name s,h,p,i,hi,hp=>quZ hi hp
 |.field f s e,h,p,i,hi,hp=>qr1 h.2 (qk8 e h.2 1 1 rfl (by omega)) hi hp
 |.un f neg e,h,p,i,hi,hp=>by
  have hg:e.good:=h
  have A:=qk8 e hg (qfD neg) (qfD neg) rfl (by cases neg<;>decide)
  by_cases hq:qfD neg<p
  ·exact qxT rfl hg A hi hq
  ·exact qAr rfl hg A hi (by omega)
 |.bin f o a b,h,p,i,hi,hp=>by
  have hr:=qb8 o
  have A:=qk8 a h.1 o.left o.left rfl (by omega)
  have B:=qk8 b h.2 (o.prec+1) ((o.prec:Int)+1) (by omega) (by omega)
  by_cases h4:o.prec=4
  ·rw[show o.left=5 by omega] at A
   rw[h4] at B
   by_cases hq:4<p
   ·exact qr2 h4 h.1 h.2 A B hi hq
   ·exact qu1 h4 h.1 h.2 A B hi (by omega)
  ·rw[show o.left=o.prec by omega] at A
   by_cases hq:o.prec<p
   ·exact qu0 rfl h4 h.1 h.2 A B hi hq
   ·exact qxU rfl h4 h.1 h.2 A B hi (by omega)
theorem qhk{e:E}(h:e.good)(hsz:(qav false (e.tx false 1)).length<2 ^ 40):Z tS (.call 234 [e.node] [])=some (.ret (.str (bs (qav false (e.tx false 1)))) []):=by
 have z:=qk8 e h 1 1 rfl (by omega) hsz
 generalize bs (qav false (e.tx false 1))=R at *
 refine qab (pf:=F234) rfl rfl ?_
 simp[F234,z]
end
section
open F
def Ss.btx(b:Ss):List ByteArray:=⟨#[123]⟩::(b.tx++[⟨#[125]⟩])
def qiU(b:Ss):Prop:=(∀ t∈b.tx,t.size≠0) /\ ∀ (k n:Int) (s:ByteArray) (f:Bool),(qav false b.btx).length<2 ^ 40->Z tS (.call 248 [.dat (.agg [.lit (.int .i64 k),.lit (.int .i64 n),.lit (.string s),kd f b.fo.len b.fo.cells])] [])=some (.ret (.str (bs (qav false b.btx))) [])
theorem qew{b:Ss}(h : ∀ t∈b.tx,t.size≠0) : ∀ t∈b.btx,t.size≠0:=by
 intro t ht
 rcases Wr.1 ht with rfl|ht
 ·decide
 ·rcases Wo.1 ht with ht|ht
  ·exact h t ht
  ·rw[Wl.1 ht]; decide
theorem qfv{a b:List ByteArray}(ha : ∀ t∈a,t.size≠0)(hb : ∀ t∈b,t.size≠0) : ∀ t∈a++b,t.size≠0:=fun t ht=>by
 rcases Wo.1 ht with h|h
 ·exact ha t h
 ·exact hb t h
theorem qki{x:ByteArray}(h:x.size≠0) : ∀ t∈[x],t.size≠0:=fun t ht=>by rw[Wl.1 ht]; exact h
theorem qni : ∀ t∈([]:List ByteArray),t.size≠0:=fun t ht=>by cases ht
theorem qp5 {f fb fc:Bool} {s:ByteArray} {e:E} (ge:e.good) {T:List ByteArray} (hT:T=[s]++([⟨#[61]⟩]++(e.tx false 1++([⟨#[59]⟩]++[])))) (hsz:(qav false T).length<2 ^ 40) :
  Z tS (.call 263 [.dat (.agg [.lit (.int .i64 1),.lit (.int .i64 0),.lit (.string s),.sl [.lit (.int .i64 e.kind),.lit (.int .i64 e.num),.lit (.string e.str),e.kids] 1 f])] [])=some (.ret (.str (bs (qav false T))) []):=by
 have q2:(qav false (e.tx false 1)).length<2 ^ 40:=Wu (by
  have:=qas ([s]++([⟨#[61]⟩]++[])) (e.tx false 1) ([⟨#[59]⟩]++[]) false
  simp only[Wf,Wc,Wm] at this
  rw[hT]
  simp only[Wf,Wc,Wm]
  exact this) hsz
 have z2:=qhk ge q2
 obtain⟨R,hR⟩ : ∃ v,v=bs (qav false T):=⟨_,rfl⟩
 have hRs:R.size<2 ^ 40:=by rw[hR,qaB]; exact hsz
 have hP:Parts [s,⟨#[61]⟩,bs (qav false (e.tx false 1)),⟨#[59]⟩] T:=by rw[hT]; exact (.tok (.tok (.sub (qbU false ge 1) (.tok .nil))))
 have za:Z tS (.call 247 [.dat (.sl [.lit (.string s),.lit (.string ⟨#[61]⟩),.lit (.string (bs (qav false (e.tx false 1)))),.lit (.string ⟨#[59]⟩)] 4 true)] [])=some (.ret (.str R) []):=qdJ hP hR (by simp) hRs
 generalize bs (qav false (e.tx false 1))=r2 at *
 rw[<- hR]
 refine qab (pf:=F263) rfl rfl ?_
 simp[F263,qae,z2,za]
theorem qsv {f fb fc:Bool} {s:ByteArray} {x y:E} (gx:x.good) (gy:y.good) {T:List ByteArray} (hT:T=[s]++([⟨#[91]⟩]++(x.tx false 1++([⟨#[93]⟩]++([⟨#[61]⟩]++(y.tx false 1++([⟨#[59]⟩]++[]))))))) (hsz:(qav false T).length<2 ^ 40) :
  Z tS (.call 263 [.dat (.agg [.lit (.int .i64 2),.lit (.int .i64 0),.lit (.string s),.sl [.lit (.int .i64 x.kind),.lit (.int .i64 x.num),.lit (.string x.str),x.kids,.lit (.int .i64 y.kind),.lit (.int .i64 y.num),.lit (.string y.str),y.kids] 2 f])] [])=some (.ret (.str (bs (qav false T))) []):=by
 have q2:(qav false (x.tx false 1)).length<2 ^ 40:=Wu (by
  have:=qas ([s]++([⟨#[91]⟩]++[])) (x.tx false 1) ([⟨#[93]⟩]++([⟨#[61]⟩]++(y.tx false 1++([⟨#[59]⟩]++[])))) false
  simp only[Wf,Wc,Wm] at this
  rw[hT]
  simp only[Wf,Wc,Wm]
  exact this) hsz
 have z2:=qhk gx q2
 have q5:(qav false (y.tx false 1)).length<2 ^ 40:=Wu (by
  have:=qas ([s]++([⟨#[91]⟩]++(x.tx false 1++([⟨#[93]⟩]++([⟨#[61]⟩]++[]))))) (y.tx false 1) ([⟨#[59]⟩]++[]) false
  simp only[Wf,Wc,Wm] at this
  rw[hT]
  simp only[Wf,Wc,Wm]
  exact this) hsz
 have z5:=qhk gy q5
 obtain⟨R,hR⟩ : ∃ v,v=bs (qav false T):=⟨_,rfl⟩
 have hRs:R.size<2 ^ 40:=by rw[hR,qaB]; exact hsz
 have hP:Parts [s,⟨#[91]⟩,bs (qav false (x.tx false 1)),⟨#[93]⟩,⟨#[61]⟩,bs (qav false (y.tx false 1)),⟨#[59]⟩] T:=by rw[hT]; exact (.tok (.tok (.sub (qbU false gx 1) (.tok (.tok (.sub (qbU false gy 1) (.tok .nil)))))))
 have za:Z tS (.call 247 [.dat (.sl [.lit (.string s),.lit (.string ⟨#[91]⟩),.lit (.string (bs (qav false (x.tx false 1)))),.lit (.string ⟨#[93]⟩),.lit (.string ⟨#[61]⟩),.lit (.string (bs (qav false (y.tx false 1)))),.lit (.string ⟨#[59]⟩)] 7 true)] [])=some (.ret (.str R) []):=qdJ hP hR (by simp) hRs
 generalize bs (qav false (x.tx false 1))=r2 at *
 generalize bs (qav false (y.tx false 1))=r5 at *
 rw[<- hR]
 refine qab (pf:=F263) rfl rfl ?_
 simp[F263,qae,z2,z5,za]
theorem qp6 {f fb fc:Bool} {x y:E} (gx:x.good) (gy:y.good) {T:List ByteArray} (hT:T=[⟨#[101,102,102,101,99,116]⟩]++(x.tx false 1++([⟨#[44]⟩]++(y.tx false 1++([⟨#[59]⟩]++[]))))) (hsz:(qav false T).length<2 ^ 40) :
  Z tS (.call 263 [.dat (.agg [.lit (.int .i64 5),.lit (.int .i64 0),.lit (.string ⟨#[]⟩),.sl [.lit (.int .i64 x.kind),.lit (.int .i64 x.num),.lit (.string x.str),x.kids,.lit (.int .i64 y.kind),.lit (.int .i64 y.num),.lit (.string y.str),y.kids] 2 f])] [])=some (.ret (.str (bs (qav false T))) []):=by
 have q1:(qav false (x.tx false 1)).length<2 ^ 40:=Wu (by
  have:=qas ([⟨#[101,102,102,101,99,116]⟩]++[]) (x.tx false 1) ([⟨#[44]⟩]++(y.tx false 1++([⟨#[59]⟩]++[]))) false
  simp only[Wf,Wc,Wm] at this
  rw[hT]
  simp only[Wf,Wc,Wm]
  exact this) hsz
 have z1:=qhk gx q1
 have q3:(qav false (y.tx false 1)).length<2 ^ 40:=Wu (by
  have:=qas ([⟨#[101,102,102,101,99,116]⟩]++(x.tx false 1++([⟨#[44]⟩]++[]))) (y.tx false 1) ([⟨#[59]⟩]++[]) false
  simp only[Wf,Wc,Wm] at this
  rw[hT]
  simp only[Wf,Wc,Wm]
  exact this) hsz
 have z3:=qhk gy q3
 obtain⟨R,hR⟩ : ∃ v,v=bs (qav false T):=⟨_,rfl⟩
 have hRs:R.size<2 ^ 40:=by rw[hR,qaB]; exact hsz
 have hP:Parts [⟨#[101,102,102,101,99,116]⟩,bs (qav false (x.tx false 1)),⟨#[44]⟩,bs (qav false (y.tx false 1)),⟨#[59]⟩] T:=by rw[hT]; exact (.tok (.sub (qbU false gx 1) (.tok (.sub (qbU false gy 1) (.tok .nil)))))
 have za:Z tS (.call 247 [.dat (.sl [.lit (.string ⟨#[101,102,102,101,99,116]⟩),.lit (.string (bs (qav false (x.tx false 1)))),.lit (.string ⟨#[44]⟩),.lit (.string (bs (qav false (y.tx false 1)))),.lit (.string ⟨#[59]⟩)] 5 true)] [])=some (.ret (.str R) []):=qdJ hP hR (by simp) hRs
 generalize bs (qav false (x.tx false 1))=r1 at *
 generalize bs (qav false (y.tx false 1))=r3 at *
 rw[<- hR]
 refine qab (pf:=F263) rfl rfl ?_
 simp[F263,qae,z1,z3,za]
theorem qsw {f fb fc:Bool} {c:E} {p:Ss} (gc:c.good) (hb:qiU p) {T:List ByteArray} (hT:T=[⟨#[119,104,105,108,101]⟩]++(c.tx false 1++(p.btx++[]))) (hsz:(qav false T).length<2 ^ 40) :
  Z tS (.call 263 [.dat (.agg [.lit (.int .i64 4),.lit (.int .i64 0),.lit (.string ⟨#[]⟩),.sl [.lit (.int .i64 c.kind),.lit (.int .i64 c.num),.lit (.string c.str),c.kids,.lit (.int .i64 7),.lit (.int .i64 0),.lit (.string ⟨#[]⟩),kd fb p.fo.len p.fo.cells] 2 f])] [])=some (.ret (.str (bs (qav false T))) []):=by
 have q1:(qav false (c.tx false 1)).length<2 ^ 40:=Wu (by
  have:=qas ([⟨#[119,104,105,108,101]⟩]++[]) (c.tx false 1) (p.btx++[]) false
  simp only[Wf,Wc,Wm] at this
  rw[hT]
  simp only[Wf,Wc,Wm]
  exact this) hsz
 have z1:=qhk gc q1
 have q2:(qav false (p.btx)).length<2 ^ 40:=Wu (by
  have:=qas ([⟨#[119,104,105,108,101]⟩]++(c.tx false 1++[])) (p.btx) ([]) false
  simp only[Wf,Wc,Wm] at this
  rw[hT]
  simp only[Wf,Wc,Wm]
  exact this) hsz
 have z2:=hb.2 7 0 ⟨#[]⟩ fb q2
 obtain⟨R,hR⟩ : ∃ v,v=bs (qav false T):=⟨_,rfl⟩
 have hRs:R.size<2 ^ 40:=by rw[hR,qaB]; exact hsz
 have hP:Parts [⟨#[119,104,105,108,101]⟩,bs (qav false (c.tx false 1)),bs (qav false (p.btx))] T:=by rw[hT]; exact (.tok (.sub (qbU false gc 1) (.sub (qew hb.1) .nil)))
 have za:Z tS (.call 247 [.dat (.sl [.lit (.string ⟨#[119,104,105,108,101]⟩),.lit (.string (bs (qav false (c.tx false 1)))),.lit (.string (bs (qav false (p.btx))))] 3 true)] [])=some (.ret (.str R) []):=qdJ hP hR (by simp) hRs
 generalize bs (qav false (c.tx false 1))=r1 at *
 generalize bs (qav false (p.btx))=r2 at *
 rw[<- hR]
 refine qab (pf:=F263) rfl rfl ?_
 simp[F263,qae,z1,z2,za]
theorem qyn {f fb fc:Bool} {c:E} {p q:Ss} (gc:c.good) (hb:qiU p) (hq:q.fo.len=0) {T:List ByteArray} (hT:T=[⟨#[105,102]⟩]++(c.tx false 1++(p.btx++[]))) (hsz:(qav false T).length<2 ^ 40) :
  Z tS (.call 263 [.dat (.agg [.lit (.int .i64 3),.lit (.int .i64 0),.lit (.string ⟨#[]⟩),.sl [.lit (.int .i64 c.kind),.lit (.int .i64 c.num),.lit (.string c.str),c.kids,.lit (.int .i64 7),.lit (.int .i64 0),.lit (.string ⟨#[]⟩),kd fb p.fo.len p.fo.cells,.lit (.int .i64 7),.lit (.int .i64 0),.lit (.string ⟨#[]⟩),kd fc q.fo.len q.fo.cells] 3 f])] [])=some (.ret (.str (bs (qav false T))) []):=by
 have q1:(qav false (c.tx false 1)).length<2 ^ 40:=Wu (by
  have:=qas ([⟨#[105,102]⟩]++[]) (c.tx false 1) (p.btx++[]) false
  simp only[Wf,Wc,Wm] at this
  rw[hT]
  simp only[Wf,Wc,Wm]
  exact this) hsz
 have z1:=qhk gc q1
 have q2:(qav false (p.btx)).length<2 ^ 40:=Wu (by
  have:=qas ([⟨#[105,102]⟩]++(c.tx false 1++[])) (p.btx) ([]) false
  simp only[Wf,Wc,Wm] at this
  rw[hT]
  simp only[Wf,Wc,Wm]
  exact this) hsz
 have z2:=hb.2 7 0 ⟨#[]⟩ fb q2
 obtain⟨R,hR⟩ : ∃ v,v=bs (qav false T):=⟨_,rfl⟩
 have hRs:R.size<2 ^ 40:=by rw[hR,qaB]; exact hsz
 have hP:Parts [⟨#[105,102]⟩,bs (qav false (c.tx false 1)),bs (qav false (p.btx))] T:=by rw[hT]; exact (.tok (.sub (qbU false gc 1) (.sub (qew hb.1) .nil)))
 have za:Z tS (.call 247 [.dat (.sl [.lit (.string ⟨#[105,102]⟩),.lit (.string (bs (qav false (c.tx false 1)))),.lit (.string (bs (qav false (p.btx))))] 3 true)] [])=some (.ret (.str R) []):=qdJ hP hR (by simp) hRs
 generalize bs (qav false (c.tx false 1))=r1 at *
 generalize bs (qav false (p.btx))=r2 at *
 rw[<- hR]
 have hq1 : ∀ cs,kd fc q.fo.len cs = .lit (.slice none 0 0):=fun cs=>by rw[hq]; rfl
 simp only[hq1]
 refine qab (pf:=F263) rfl rfl ?_
 simp[F263,qae,z1,z2,za,qdN]
theorem qyo {f fb fc:Bool} {c:E} {p q:Ss} (gc:c.good) (hb:qiU p) (hq:0<q.fo.len) (hd:qiU q) {T:List ByteArray} (hT:T=[⟨#[105,102]⟩]++(c.tx false 1++(p.btx++([⟨#[101,108,115,101]⟩]++(q.btx++[]))))) (hsz:(qav false T).length<2 ^ 40) :
  Z tS (.call 263 [.dat (.agg [.lit (.int .i64 3),.lit (.int .i64 0),.lit (.string ⟨#[]⟩),.sl [.lit (.int .i64 c.kind),.lit (.int .i64 c.num),.lit (.string c.str),c.kids,.lit (.int .i64 7),.lit (.int .i64 0),.lit (.string ⟨#[]⟩),kd fb p.fo.len p.fo.cells,.lit (.int .i64 7),.lit (.int .i64 0),.lit (.string ⟨#[]⟩),kd fc q.fo.len q.fo.cells] 3 f])] [])=some (.ret (.str (bs (qav false T))) []):=by
 have q1:(qav false (c.tx false 1)).length<2 ^ 40:=Wu (by
  have:=qas ([⟨#[105,102]⟩]++[]) (c.tx false 1) (p.btx++([⟨#[101,108,115,101]⟩]++(q.btx++[]))) false
  simp only[Wf,Wc,Wm] at this
  rw[hT]
  simp only[Wf,Wc,Wm]
  exact this) hsz
 have z1:=qhk gc q1
 have q2:(qav false (p.btx)).length<2 ^ 40:=Wu (by
  have:=qas ([⟨#[105,102]⟩]++(c.tx false 1++[])) (p.btx) ([⟨#[101,108,115,101]⟩]++(q.btx++[])) false
  simp only[Wf,Wc,Wm] at this
  rw[hT]
  simp only[Wf,Wc,Wm]
  exact this) hsz
 have z2:=hb.2 7 0 ⟨#[]⟩ fb q2
 have q4:(qav false (q.btx)).length<2 ^ 40:=Wu (by
  have:=qas ([⟨#[105,102]⟩]++(c.tx false 1++(p.btx++([⟨#[101,108,115,101]⟩]++[])))) (q.btx) ([]) false
  simp only[Wf,Wc,Wm] at this
  rw[hT]
  simp only[Wf,Wc,Wm]
  exact this) hsz
 have z4:=hd.2 7 0 ⟨#[]⟩ fc q4
 obtain⟨R,hR⟩ : ∃ v,v=bs (qav false T):=⟨_,rfl⟩
 have hRs:R.size<2 ^ 40:=by rw[hR,qaB]; exact hsz
 obtain⟨T1,hT1⟩ : ∃ v,v=[⟨#[105,102]⟩]++(c.tx false 1++(p.btx++[])):=⟨_,rfl⟩
 have hT2:T=T1++([⟨#[101,108,115,101]⟩]++(q.btx++[])):=by rw[hT,hT1]; simp only[Wf,Wc,Wm]
 have s1:(qav false T1).length<2 ^ 40:=Wu (by
  have:=qas [] T1 ([⟨#[101,108,115,101]⟩]++(q.btx++[])) false
  rw[Wc] at this
  rw[hT2]
  exact this) hsz
 obtain⟨R1,hR1⟩ : ∃ v,v=bs (qav false T1):=⟨_,rfl⟩
 have hR1s:R1.size<2 ^ 40:=by rw[hR1,qaB]; exact s1
 have n1 : ∀ t∈T1,t.size≠0:=by
  rw[hT1]
  exact qfv (qki (by decide)) (qfv (qbU false gc 1) (qfv (qew hb.1) qni))
 have hP1:Parts [⟨#[105,102]⟩,bs (qav false (c.tx false 1)),bs (qav false (p.btx))] T1:=by rw[hT1]; exact (.tok (.sub (qbU false gc 1) (.sub (qew hb.1) .nil)))
 have za:Z tS (.call 247 [.dat (.sl [.lit (.string ⟨#[105,102]⟩),.lit (.string (bs (qav false (c.tx false 1)))),.lit (.string (bs (qav false (p.btx))))] 3 true)] [])=some (.ret (.str R1) []):=qdJ hP1 hR1 (by simp) hR1s
 have hP2:Parts [R1,⟨#[101,108,115,101]⟩,bs (qav false (q.btx))] T:=by rw[hT2,hR1]; exact .sub n1 (.tok (.sub (qew hd.1) .nil))
 have zb:Z tS (.call 247 [.dat (.sl [.lit (.string R1),.lit (.string ⟨#[101,108,115,101]⟩),.lit (.string (bs (qav false (q.btx))))] 3 true)] [])=some (.ret (.str R) []):=qdJ hP2 hR (by simp) hRs
 generalize bs (qav false (c.tx false 1))=r1 at *
 generalize bs (qav false (p.btx))=r2 at *
 generalize bs (qav false (q.btx))=r4 at *
 rw[<- hR]
 have hq1:(0:Int)<q.fo.len:=by omega
 refine qab (pf:=F263) rfl rfl ?_
 simp[F263,qae,z1,z2,z4,za,zb,hq1,hq]
theorem qvL {d:D} (hd:V.one (.dat d)=true) (hcl:V.cells (.dat d)=[.dat d]) :
  Z tS (.call 263 [.dat (.agg [.lit (.int .i64 6),.lit (.int .i64 0),.lit (.string ⟨#[]⟩),d])] [])=some (.ret (.str (bs (qav false [⟨#[115,116,111,112]⟩,⟨#[59]⟩]))) []):=by
 have e:bs (qav false [⟨#[115,116,111,112]⟩,⟨#[59]⟩])=⟨#[115,116,111,112,59]⟩:=by decide
 rw[e]
 refine qab (pf:=F263) rfl rfl ?_
 simp[F263,hd,hcl]
end
end Go.Pm
