/- The rule language in plain Lean: a source written down from its tokens is read back. No program in sight. -/
import Derived.Test.YtnagipbjopnfpaaGreatDoorPmAL
import Derived.Test.YtnagipbjopnfpaaGreatDoorPmTi
import Derived.Test.YtnagipbjopnfpaaGreatDoorPmR1
import Derived.KernelRfl
set_option linter.unusedSimpArgs false
set_option linter.unusedVariables false
namespace Go.Pm
section
def qb7(p:Bool)(t:ByteArray):Bool:=match (byl t).getLast? with
 |some c=>qaz c
 |none=>p
def gap(p:Bool)(t:ByteArray):List UInt8:=if p&&qaX qaz t then [32] else []
def qap:Bool->List ByteArray->List UInt8
 |_,[]=>[]
 |p,t::ts=>gap p t++(byl t++qap (qb7 p t) ts)
def qv8(p:Bool)(ts:List ByteArray):Bool:=ts.foldl qb7 p
theorem qic : ∀ (a b:List ByteArray) (p:Bool),qap p (a++b)=qap p a++qap (qv8 p a) b
 |[],b,p=>rfl
 |t::a,b,p=>by simp only[Wg,qap,qic a b,Wf,qv8,Ya]
theorem qbw(p:UInt8->Bool)(t:ByteArray):qaX p t=match (byl t).head? with|some c=>p c|none=>false:=by
 unfold qaX
 rw[qhq,WJ]
 all_goals (cases (byl t).head?<;>rfl)
def Tg(w:List UInt8):Prop:=
 (∃ c r,w=c::r/\qaQ c=true/\(∀ b∈r,qaz b=true) /\ ¬ (8<w.length/\bs w∉fieldNames/\bs w∉wordNames)) \/
 (∃ c r,w=c::r/\qaq c=true/\(∀ b∈r,qaq b=true)/\digV w<=2147483647) \/
 bs w∈qdv \/ ∃ c,w=[c]/\c.toNat∈symB
def Fol:List UInt8->List UInt8->Prop
 |c::r,d::_=>if qaQ c then qaz d=false else if qaq c then qaq d=false else r=[]->bs [c,d]∉qdv
 |_,_=>True
theorem qkE(p:UInt8->Bool) : ∀ (w r:List UInt8),(∀ b∈w,p b=true)->(∀ d,r.head?=some d->p d=false)->qbl p (w++r)=w.length
 |[],[],_,_=>rfl
 |[],d::r,_,h=>by simp[qbl,h d rfl]
 |b::w,r,h,h2=>by
  simp only[Wg,qbl,h b (WO ..),if_true,We]
  rw[qkE p w r (fun x hx=>h x (WA _ hx)) h2]
theorem qnJ{c:UInt8}(h:qaQ c=true):qaz c=true:=by simp[qaz,h]
theorem qnK{c:UInt8}(h:qaq c=true):qaz c=true:=by simp[qaz,h]
theorem pair_cases{w:List UInt8}(h:bs w∈qdv):w=[124,124]\/w=[38,38]\/w=[60,61]\/w=[62,61]\/w=[61,61]\/w=[33,61]:=by
 simp only[qdv,Wo,Wx,or_false] at h
 rcases h with h|h|h|h|h|h<;>have:=qrq h<;>simp[this]
theorem qeZ{c:UInt8}(h:c.toNat∈symB):c=123\/c=125\/c=91\/c=93\/c=40\/c=41\/c=61\/c=59\/c=44\/c=60\/c=62\/c=43\/c=45\/c=42\/c=47\/c=33:=by
 simp only[symB,Wo,Wx,or_false] at h
 simp only[<- UInt8.toNat_inj]
 exact h
theorem qqy(eS eL eR:Nat){w rest:List UInt8}(h:Tg w)(hf:Fol w rest):tokL eS eL eR (w++rest)=(w,0):=by
 have take_len : ∀ k,k=w.length->(w++rest).take k=w:=fun k hk=>by rw[hk,List.take_left]
 rcases h with ⟨c,r,rfl,hc,hr,hb⟩|⟨c,r,rfl,hc,hr,hb⟩|hp|⟨c,rfl,hc⟩
 ·have hrun:qbl qaz (c::r++rest)=(c::r).length:=by
   apply qkE
   ·intro b hb'
    rcases Wo.1 hb' with rfl|hb'
    ·exact qnJ hc
    ·exact hr b hb'
   ·intro d hd
    cases rest with
    |nil=>cases hd
    |cons e rest=>
     cases hd
     simp only[Fol,hc,if_true] at hf
     exact hf
  have ht:=take_len _ rfl
  simp only[Wg] at hrun ht ⊢
  simp only[tokL,hc,if_true,hrun,ht,if_neg hb]
 ·have hnl:qaQ c=false:=by
   simp only[qaq,qaQ,Wq,decide_eq_true_eq,Yf,decide_eq_false_iff_not] at hc ⊢
   omega
  have hrun:qbl qaq (c::r++rest)=(c::r).length:=by
   apply qkE
   ·intro b hb'
    rcases Wo.1 hb' with rfl|hb'
    ·exact hc
    ·exact hr b hb'
   ·intro d hd
    cases rest with
    |nil=>cases hd
    |cons e rest=>
     cases hd
     simp only[Fol,hc,hnl,if_true] at hf
     exact hf
  have ht:=take_len _ hrun
  simp only[Wg] at hrun ht ⊢
  simp only[tokL,hc,hnl,if_true,ht,if_neg (Nat.not_lt.2 hb)]
  simp
 ·rcases pair_cases hp with rfl|rfl|rfl|rfl|rfl|rfl<;>simp[tokL,qaQ,qaq,hp]
 ·have h2:bs ((c::rest).take 2)∉qdv:=by
   cases rest with
   |nil=>intro h; have:=qfy h; rw[qaw] at this; simp at this
   |cons d rest=>
    have hl:qaQ c=false/\qaq c=false:=by rcases qeZ hc with rfl|rfl|rfl|rfl|rfl|rfl|rfl|rfl|rfl|rfl|rfl|rfl|rfl|rfl|rfl|rfl<;>exact⟨rfl,rfl⟩
    simp only[Fol,hl.1,hl.2] at hf
    simpa using hf
  have hl:qaQ c=false/\qaq c=false:=by rcases qeZ hc with rfl|rfl|rfl|rfl|rfl|rfl|rfl|rfl|rfl|rfl|rfl|rfl|rfl|rfl|rfl|rfl<;>exact⟨rfl,rfl⟩
  simp only[Wg,Wc,tokL,hl.1,hl.2,if_neg h2,if_pos hc,Wn,if_false]
theorem qfV{w:List UInt8}(h:Tg w) : ∃ c r,w=c::r/\c.toNat≠10/\c.toNat≠32/\c.toNat≠9/\c.toNat≠35:=by
 rcases h with ⟨c,r,rfl,hc,hr,hb⟩|⟨c,r,rfl,hc,hr,hb⟩|hp|⟨c,rfl,hc⟩
 ·simp only[qaQ,Wq,decide_eq_true_eq] at hc
  exact⟨c,r,rfl,by omega,by omega,by omega,by omega⟩
 ·simp only[qaq,Wq,decide_eq_true_eq] at hc
  exact⟨c,r,rfl,by omega,by omega,by omega,by omega⟩
 ·rcases pair_cases hp with rfl|rfl|rfl|rfl|rfl|rfl<;>exact⟨_,_,rfl,by decide,by decide,by decide,by decide⟩
 ·rcases qeZ hc with rfl|rfl|rfl|rfl|rfl|rfl|rfl|rfl|rfl|rfl|rfl|rfl|rfl|rfl|rfl|rfl<;>exact⟨_,_,rfl,by decide,by decide,by decide,by decide⟩
def Adj(t u:ByteArray):Prop:=(t≠bs [60]/\t≠bs [62]/\t≠bs [61]/\t≠bs [33])\/(byl u).head?≠some 61
def Ok2:List ByteArray->Prop
 |[]=>True
 |t::r=>Tg (byl t)/\(∀ u,r.head?=some u->Adj t u)/\Ok2 r
theorem qqz{w:List UInt8}{p:Bool}(h:bs w∈qdv \/ ∃ c,w=[c]/\c.toNat∈symB):qb7 p (bs w)=false:=by
 unfold qb7
 rw[qbp]
 rcases h with hp|⟨c,rfl,hc⟩
 ·rcases pair_cases hp with rfl|rfl|rfl|rfl|rfl|rfl<;>rfl
 ·rcases qeZ hc with rfl|rfl|rfl|rfl|rfl|rfl|rfl|rfl|rfl|rfl|rfl|rfl|rfl|rfl|rfl|rfl<;>rfl
theorem qoX{w:List UInt8}{p:Bool}(h : ∃ c r,w=c::r/\qaz c=true /\ ∀ b∈r,qaz b=true):qb7 p (bs w)=true:=by
 obtain⟨c,r,rfl,hc,hr⟩:=h
 unfold qb7
 rw[qbp]
 cases hl:(c::r).getLast? with
 |none=>simp at hl
 |some b=>
  have:=List.mem_of_getLast? hl
  rcases Wo.1 this with rfl|h
  ·exact hc
  ·exact hr b h
theorem qsS{p:Bool}{t u:ByteArray}(ht:Tg (byl t))(hu:Tg (byl u))(ha:Adj t u)(r:List UInt8):Fol (byl t) (gap (qb7 p t) u++(byl u++r)):=by
 obtain⟨d,w,hd,-⟩:=qfV hu
 have hs:qaX qaz u=qaz d:=by rw[qbw,hd]; rfl
 have hword:(∃ c r,byl t=c::r/\qaz c=true /\ ∀ b∈r,qaz b=true) -> ∀ e q,gap (qb7 p t) u++(byl u++r)=e::q->qaz e=false:=fun h e q he=>by
  have h1:qb7 p t=true:=by
   have:=qoX (p:=p) h
   rwa [qdF] at this
  rw[h1,gap,hs,hd] at he
  cases hwd:qaz d with
  |true=>simp[hwd] at he; rw[<- he.1]; rfl
  |false=>simp[hwd] at he; rw[<- he.1]; exact hwd
 cases he:gap (qb7 p t) u++(byl u++r) with
 |nil=>cases byl t<;>trivial
 |cons e q=>
  rcases ht with ⟨c,r',hw,hc,hr,hb⟩|⟨c,r',hw,hc,hr,hb⟩|hp|⟨c,hw,hc⟩
  ·have:=hword ⟨c,r',hw,qnJ hc,hr⟩ e q he
   rw[hw]
   simp only[Fol,hc,if_true]
   exact this
  ·have:=hword ⟨c,r',hw,qnK hc,fun b h=>qnK (hr b h)⟩ e q he
   rw[hw]
   have hnl:qaQ c=false:=by
    simp only[qaq,qaQ,Wq,decide_eq_true_eq,Yf,decide_eq_false_iff_not] at hc ⊢
    omega
   simp only[Fol,hc,hnl,if_true]
   simp only[qaz,Bool.or_eq_false_iff] at this
   exact this.2
  ·rcases pair_cases hp with h|h|h|h|h|h<;>rw[h]<;>simp[Fol,qaQ,qaq]
  ·have h1:qb7 p t=false:=by
    have:=qqz (p:=p) (.inr ⟨c,hw,hc⟩)
    rwa [qdF] at this
   rw[h1,gap,hd] at he
   simp at he
   have hed:e=d:=he.1.symm
   rw[hw]
   have hl:qaQ c=false/\qaq c=false:=by rcases qeZ hc with rfl|rfl|rfl|rfl|rfl|rfl|rfl|rfl|rfl|rfl|rfl|rfl|rfl|rfl|rfl|rfl<;>exact⟨rfl,rfl⟩
   simp only[Fol,hl.1,hl.2]
   simp only[Wn,if_false]
   intro _ hpr
   have htb:t=bs [c]:=by rw[<- qdF t,hw]
   rw[hed] at hpr
   rcases ha with ⟨a1,a2,a3,a4⟩|ha
   ·rcases pair_cases hpr with h|h|h|h|h|h<;>simp only[WI,and_true] at h
    ·rw[h.1] at hc; simp[symB] at hc
    ·rw[h.1] at hc; simp[symB] at hc
    ·exact a1 (by rw[htb,h.1])
    ·exact a2 (by rw[htb,h.1])
    ·exact a3 (by rw[htb,h.1])
    ·exact a4 (by rw[htb,h.1])
   ·rw[hd] at ha
    simp only[List.head?_cons] at ha
    rcases pair_cases hpr with h|h|h|h|h|h<;>simp only[WI,and_true] at h
    ·rw[h.1] at hc; simp[symB] at hc
    ·rw[h.1] at hc; simp[symB] at hc
    ·exact ha (by rw[h.2])
    ·exact ha (by rw[h.2])
    ·exact ha (by rw[h.2])
    ·exact ha (by rw[h.2])
end
section
def qkJ:Nat->Nat->List UInt8
 |0,_=>[]
 |k+1,n=>if n<10 then [(48+n).toUInt8] else qkJ k (n / 10)++[(48+n % 10).toUInt8]
def decB(n:Nat):List UInt8:=qkJ 20 n
theorem qBR : ∀ d,d<10->((48+d).toUInt8).toNat=48+d:=by decide
theorem qs1(l:List UInt8)(c:UInt8):digV (l++[c])=10*digV l+(c.toNat-48):=by simp[digV]
theorem qlK : ∀ k n,n<10 ^ k->1<=k->digV (qkJ k n)=n/\(∀ b∈qkJ k n,qaq b=true) /\ ∃ c r,qkJ k n=c::r
 |0,n,_,h=>by omega
 |k+1,n,h,_=>by
  rw[qkJ]
  split
  ·rename_i hn
   have h1:=qBR n hn
   refine⟨by simp only[digV,Ya,List.foldl_nil,h1]; omega,fun b hb=>?_,_,_,rfl⟩
   rw[Wm.1 hb]
   simp only[qaq,h1,Wq,decide_eq_true_eq]
   omega
  ·rename_i hn
   have h1:=qBR (n % 10) (by omega)
   have hk:1<=k:=by
    rcases k with _|k
    ·simp at h; omega
    ·omega
   obtain⟨i1,i2,c,r,i3⟩:=qlK k (n / 10) (by rw[YP] at h; omega) hk
   refine⟨by rw[qs1,i1,h1]; omega,fun b hb=>?_,c,r++[(48+n % 10).toUInt8],by rw[i3]; rfl⟩
   rcases Wp.1 hb with hb|hb
   ·exact i2 b hb
   ·rw[Wm.1 hb]
    simp only[qaq,h1,Wq,decide_eq_true_eq]
    omega
theorem qgD{n:Nat}(h:n<10 ^ 20):digV (decB n)=n/\(∀ b∈decB n,qaq b=true) /\ ∃ c r,decB n=c::r:=qlK 20 n h (by omega)
theorem qwl{n:Nat}(h:n<=2147483647):Tg (decB n):=by
 obtain⟨h1,h2,c,r,h3⟩:=qgD (n:=n) (by omega)
 rw[h3] at h1 h2 ⊢
 exact .inr (.inl ⟨c,r,rfl,h2 c (WO ..),fun b hb=>h2 b (WA _ hb),by omega⟩)
theorem qig{n:Nat}(h:n<=2147483647):qaX qaq (bs (decB n))=true:=by
 obtain⟨h1,h2,c,r,h3⟩:=qgD (n:=n) (by omega)
 rw[qbw,qbp,h3]
 rw[h3] at h2
 exact h2 c (WO ..)
def qgE:ByteArray:=bs [116,114,117,101]
def qdP:ByteArray:=bs [102,97,108,115,101]
def qzz:ByteArray:=bs [115,101,108,102]
def qup:ByteArray:=bs [111,116,104,101,114]
def qiR:ByteArray:=bs [116,105,99,107]
def Bop.prec:Bop->Nat
 |.or=>1 | .and=>2 | .lt | .le | .gt | .ge | .eq | .ne=>4 | .add | .sub=>5 | .mul | .div=>6
def qdK(neg:Bool):Nat:=if neg then 7 else 3
def qbR(b:Bool)(l:List ByteArray):List ByteArray:=if b then bs [40]::(l++[bs [41]]) else l
def Bop.left(o:Bop):Nat:=if o.prec=4 then 5 else o.prec
def E.tx(full:Bool):E->Nat->List ByteArray
 |.int n,_=>[bs (decB n.toNat)]
 |.bool n,_=>[if n=0 then qdP else qgE]
 |.var s,_=>[s]
 |.name s,_=>[s]
 |.field _ s e,_=>s::bs [91]::(e.tx full 1++[bs [93]])
 |.un _ neg e,p=>qbR (full||decide (qdK neg<p)) (ustr neg::e.tx full (qdK neg))
 |.bin _ o a b,p=>qbR (full||decide (o.prec<p)) (a.tx full o.left++o.str::b.tx full (o.prec+1))
def E.nest(full:Bool):E->Nat->Nat
 |.field _ _ e,_=>e.nest full 1+1
 |.un _ neg e,p=>e.nest full (qdK neg)+1+if (full||decide (qdK neg<p))=true then 1 else 0
 |.bin _ o a b,p=>max (a.nest full o.left) (b.nest full (o.prec+1))+if (full||decide (o.prec<p))=true then 1 else 0
 |_,_=>0
def E.good:E->Prop
 |.int n=>0<=n/\n<=2147483647
 |.bool n=>n=0\/n=1
 |.var s=>Tg (byl s)/\qaX qaQ s=true/\s∉fieldNames/\s∉wordNames
 |.name s=>s=qzz\/s=qup\/s=qiR
 |.field _ s e=>s∈fieldNames/\e.good
 |.un _ _ e=>e.good
 |.bin _ _ a b=>a.good/\b.good
def E.fl(f:Bool):E->E
 |.int n => .int n
 |.bool n => .bool n
 |.var s => .var s
 |.name s => .name s
 |.field _ s e => .field f s (e.fl f)
 |.un _ neg e => .un f neg (e.fl f)
 |.bin _ o a b => .bin f o (a.fl f) (b.fl f)
theorem qaV(o:Bop):(o.prec=1/\o.left=1)\/(o.prec=2/\o.left=2)\/(o.prec=4/\o.left=5)\/(o.prec=5/\o.left=5)\/(o.prec=6/\o.left=6):=by cases o<;>simp[Bop.prec,Bop.left]
def Hx:List ByteArray->List Tk->List Tk->Prop
 |[],ts,r=>ts=r
 |x::l,ts,r => ∃ t q,ts=t::q/\t.s=x/\t.bad=0/\Hx l q r
theorem hx_app : ∀ {a b:List ByteArray} {ts r:List Tk},Hx (a++b) ts r ↔ ∃ m,Hx a ts m/\Hx b m r
 |[],b,ts,r=>⟨fun h=>⟨ts,rfl,h⟩,fun ⟨m,h1,h2⟩=>by cases h1; exact h2⟩
 |x::a,b,ts,r=>by
  simp only[Wg,Hx]
  constructor
  ·rintro ⟨t,q,h1,h2,h3,h4⟩
   obtain⟨m,h5,h6⟩:=hx_app.1 h4
   exact⟨m,⟨t,q,h1,h2,h3,h5⟩,h6⟩
  ·rintro ⟨m,⟨t,q,h1,h2,h3,h5⟩,h6⟩
   exact⟨t,q,h1,h2,h3,hx_app.2 ⟨m,h5,h6⟩⟩
theorem qcE{x:ByteArray}{l:List ByteArray}{ts r:List Tk}(h:Hx (x::l) ts r):nx ts=some x/\Hx l ts.tail r:=by
 obtain⟨t,q,h1,h2,h3,h4⟩:=h
 subst h1
 simp[nx,h3,h2]
 exact h4
def Stops(p:Nat)(r:List Tk):Prop := ∃ s,nx r=some s /\ ∀ q,p<=q->qrN q s=none
theorem Stops.mono{p q:Nat}{r:List Tk}(h:Stops p r)(hq:p<=q):Stops q r:=by
 obtain⟨s,h1,h2⟩:=h
 exact⟨s,h1,fun k hk=>h2 k (by omega)⟩
theorem qnP(o:Bop):qrN o.prec o.str=some o:=by cases o<;>rfl
theorem qo3(o:Bop)(q:Nat)(h:q≠o.prec):qrN q o.str=none:=by
 rcases q with _|_|_|_|_|_|_|q
 all_goals first|rfl|skip
 all_goals cases o<;>first|rfl|exact absurd rfl h
theorem qmM(full:Bool) : ∀ (e:E),e.good -> ∀ p,∃ x l,e.tx full p=x::l/\(x=ustr false->p<=3)/\(x=ustr true->p<=7)
 |.int n,h,p=>by
  have hd:=qig (n:=n.toNat) (by have:=h.1; have:=h.2; omega)
  refine⟨_,_,rfl,fun hx=>?_,fun hx=>?_⟩
  all_goals
   rw[hx] at hd
   exact absurd hd (by decide)
 |.bool n,h,p=>by
  refine⟨_,_,rfl,fun hx=>?_,fun hx=>?_⟩
  all_goals split at hx<;>exact absurd hx (by decide)
 |.var s,h,p=>by
  refine⟨_,_,rfl,fun hx=>?_,fun hx=>?_⟩
  all_goals
   have:=h.2.1
   rw[hx] at this
   exact absurd this (by decide)
 |.name s,h,p=>by
  refine⟨_,_,rfl,fun hx=>?_,fun hx=>?_⟩
  all_goals rcases h with rfl|rfl|rfl<;>exact absurd hx (by decide)
 |.field f s e,h,p=>by
  refine⟨_,_,rfl,fun hx=>?_,fun hx=>?_⟩
  all_goals
   have:=h.1
   rw[hx] at this
   exact absurd this (by decide)
 |.un f neg e,h,p=>by
  simp only[E.tx,qbR]
  split
  ·exact⟨_,_,rfl,fun hx=>absurd hx (by decide),fun hx=>absurd hx (by decide)⟩
  ·rename_i hc
   simp only[Yl,not_or,decide_eq_true_eq,Nat.not_lt] at hc
   refine⟨_,_,rfl,fun hx=>?_,fun hx=>?_⟩
   ·cases neg with
    |true=>exact absurd hx (by decide)
    |false=>exact hc.2
   ·cases neg with
    |true=>exact hc.2
    |false=>exact absurd hx (by decide)
 |.bin f o a b,h,p=>by
  simp only[E.tx,qbR]
  split
  ·exact⟨_,_,rfl,fun hx=>absurd hx (by decide),fun hx=>absurd hx (by decide)⟩
  ·rename_i hc
   simp only[Yl,not_or,decide_eq_true_eq,Nat.not_lt] at hc
   obtain⟨x,l,h1,h2,h3⟩:=qmM full a h.1 o.left
   refine⟨x,l++o.str::b.tx full (o.prec+1),by rw[h1]; rfl,fun hx=>?_,fun hx=>?_⟩
   ·have:=h2 hx; have:=hc.2
    rcases qaV o with h|h|h|h|h<;>omega
   ·have:=h3 hx; have:=hc.2
    rcases qaV o with h|h|h|h|h<;>omega
section
variable{eS eL:Nat}{f:Bool}
theorem qfX(x:ByteArray)(hx : ∀ q,qrN q x=none){p:Nat}{l:List ByteArray}{ts r:List Tk}(h:Hx (x::l) ts r):Stops p ts:=⟨x,(qcE h).1,fun q _=>hx q⟩
theorem qiS(x:ByteArray)(h : ∀ o:Bop,o.str≠x)(q:Nat):qrN q x=none:=by
 unfold qrN
 rw[YL]
 intro o _
 simp[h o]
end
end
section
def ifS:ByteArray:=bs [105,102]
def qkG:ByteArray:=bs [101,108,115,101]
def qnO:ByteArray:=bs [119,104,105,108,101]
def qkH:ByteArray:=bs [101,102,102,101,99,116]
def qs0:ByteArray:=bs [115,116,111,112]
def onS:ByteArray:=bs [111,110]
def qfD:Ss->Bool
 |.block _ .nil _=>false
 |.block _ _ _=>true
 |_=>false
def Ss.tx:Ss->List ByteArray
 |.nil=>[]
 |.assign _ s e r=>s::bs [61]::(e.tx false 1++(bs [59]::r.tx))
 |.store _ s a b r=>s::bs [91]::(a.tx false 1++(bs [93]::bs [61]::(b.tx false 1++(bs [59]::r.tx))))
 |.effect _ a b r=>qkH::(a.tx false 1++(bs [44]::(b.tx false 1++(bs [59]::r.tx))))
 |.stop r=>qs0::bs [59]::r.tx
 |.cond w _ c b r=>(if w then qnO else ifS)::(c.tx false 1++(b.tx++r.tx))
 |.block _ b r=>bs [123]::(b.tx++(bs [125]::(if qfD r then qkG::r.tx else [])))
def qqH(s:ByteArray):Prop:=Tg (byl s)/\qaX qaQ s=true/\s∉fieldNames/\s∉wordNames
def Ss.good:Ss->Option Nat->Prop
 |.nil,m=>m=none\/m=some 0
 |.assign _ s e r,m=>m=none/\qqH s/\e.good/\r.good none
 |.store _ s a b r,m=>m=none/\s∈fieldNames/\a.good/\b.good/\r.good none
 |.effect _ a b r,m=>m=none/\a.good/\b.good/\r.good none
 |.stop r,m=>m=none/\r.good none
 |.cond w _ c b r,m=>m=none/\c.good/\b.good (some (if w then 1 else 2))/\r.good none
 |.block _ b r,m => ∃ n,m=some (n+1)/\b.good none/\r.good (some n)
def Ss.nest:Ss->Nat
 |.nil=>0
 |.assign _ _ e r=>max (e.nest false 1) r.nest
 |.store _ _ a b r=>max (a.nest false 1+1) (max (b.nest false 1) r.nest)
 |.effect _ a b r=>max (a.nest false 1) (max (b.nest false 1) r.nest)
 |.stop r=>r.nest
 |.cond _ _ c b r=>max (c.nest false 1) (max (b.nest+1) r.nest)
 |.block _ b r=>max b.nest r.nest
def Ss.fl(f fi fb:Bool):Ss->Ss
 |.nil => .nil
 |.assign _ s e r => .assign f s (e.fl f) (r.fl f fi fb)
 |.store _ s a b r => .store f s (a.fl f) (b.fl f) (r.fl f fi fb)
 |.effect _ a b r => .effect f (a.fl f) (b.fl f) (r.fl f fi fb)
 |.stop r => .stop (r.fl f fi fb)
 |.cond w _ c b r => .cond w (if w then f else fi) (c.fl f) (b.fl f fi fb) (r.fl f fi fb)
 |.block _ b r => .block fb (b.fl f fi fb) (r.fl f fi fb)
theorem qo2(a:Ss):a.app .nil=a:=by induction a<;>simp_all [Ss.app]
theorem qcn(a b c:Ss):(a.app b).app c=a.app (b.app c):=by induction a<;>simp_all [Ss.app]
theorem qmK{s x:ByteArray}(h:qqH s)(hx:x∈fieldNames\/x∈wordNames\/qaX qaQ x=false):s≠x:=by
 rintro rfl
 rcases hx with hx|hx|hx
 ·exact h.2.2.1 hx
 ·exact h.2.2.2 hx
 ·rw[h.2.1] at hx; cases hx
theorem qkI{s x:ByteArray}(h:s∈fieldNames)(hx:x∉fieldNames):s≠x:=fun e=>hx (e ▸ h)
theorem qwh : ∀ (s:Ss),s.good none -> ∃ x l,s.tx++[bs [125]]=x::l/\x≠qkG/\(s ≠ .nil->x≠bs [125])
 |.nil,_=>⟨_,_,rfl,by decide,fun h=>absurd rfl h⟩
 |.assign f s e r,h=>⟨_,_,rfl,qmK h.2.1 (.inr (.inl (by decide))),fun _=>qmK h.2.1 (.inr (.inr (by decide)))⟩
 |.store f s a b r,h=>⟨_,_,rfl,qkI h.2.1 (by decide),fun _=>qkI h.2.1 (by decide)⟩
 |.effect f a b r,h=>⟨_,_,rfl,by decide,fun _=>by decide⟩
 |.stop r,h=>⟨_,_,rfl,by decide,fun _=>by decide⟩
 |.cond w f c b r,h=>by
  refine⟨_,_,rfl,?_,fun _=>?_⟩<;>cases w<;>decide
 |.block f b r,h=>by obtain⟨n,hn,_⟩:=h; cases hn
section
variable{eS eL:Nat}{f fi fb:Bool}
theorem qzr(x:ByteArray)(hx : ∀ o:Bop,o.str≠x){l:List ByteArray}{ts r:List Tk}(h:Hx (x::l) ts r):Stops 1 ts:=qfX x (qiS x hx) h
end
end
section
def Bop.w:Bop->Nat
 |.and | .or=>11
 |.lt | .le | .gt | .ge | .eq | .ne=>7
 |_=>5
def E.cost:E->Nat
 |.int n=>(decB n.toNat).length+1
 |.bool n=>if n=0 then 6 else 5
 |.var s=>s.size+1
 |.name s=>s.size+1
 |.field _ s e=>s.size+5+e.cost
 |.un _ _ e=>6+e.cost
 |.bin _ o a b=>o.str.size+o.w+(a.cost+b.cost)
def Ss.cost:Ss->Nat
 |.nil=>0
 |.assign _ s e r=>s.size+5+e.cost+r.cost
 |.store _ s a b r=>s.size+9+(a.cost+b.cost)+r.cost
 |.effect _ a b r=>11+(a.cost+b.cost)+r.cost
 |.stop r=>7+r.cost
 |.cond w _ c b r=>(if w then 6 else 3)+c.cost+b.cost+r.cost
 |.block _ b r=>4+b.cost+((if qfD r then 5 else 0)+r.cost)
def Co(c0:Int)(cost:Nat)(xs:List Int)(i i':Int):Prop:=i<=i'/\(i'<=i\/i'<=xs.length)/\(cost:Int)<=c0+24*(i'-i)
end
section
open F
theorem qoe{n m:Int}(h1:I64 n)(hm:1<=m):Z qad (.call 17 [.int n,.int m] [])=some (.ret (.int (qiV n m)) []):=by
 refine qac (pf:=F17) rfl rfl ?_
 unfold qiV
 have hm0 : ¬ m=0:=by omega
 by_cases h:n<0
 ·have w1:IntKind.i64.wrap (n+1)=n+1:=qai _ (by unfold I64 at h1; omega)
  have w2:IntKind.i64.wrap (-(n+1)) = -(n+1):=qai _ (by unfold I64 at h1; omega)
  simp[F17,h,hm0,w1,w2]
 ·simp[F17,h,hm0]
abbrev qxu(v:D)(i:Int):S:=[.cells [.dat v,.int i]]
abbrev gst(xs:List Int)(i:Int):S:=qxu (qeq xs) i
def qaB(xs:List Int)(i m:Int):Int:=if (xs.length:Int)<=i then 0 else (qiV (xs.getD i.toNat 0) 1000000).tmod m
def qaC(xs:List Int)(i:Int):Int:=if (xs.length:Int)<=i then i else i+1
structure Bnd(v:D)(xs:List Int)(B:Int):Prop where
 row:RowV v xs
 len:(xs.length:Int)<=B
 big:B<=9223372036854775807
theorem qpr(xs:List Int):RowV (qeq xs) xs:=by
 cases xs
 ·exact .inl ⟨_,rfl,rfl⟩
 ·exact .inr rfl
theorem qbt{xs:List Int}(h:xs.length<=100):Bnd (qeq xs) xs 100:=⟨qpr xs,by omega,by omega⟩
theorem qax{v:D}{xs:List Int}{i B:Int}(h:0<=i/\i<=B)(hl:Bnd v xs B):0<=qaC xs i/\qaC xs i<=B:=by
 have:=hl.len
 unfold qaC; split<;>omega
theorem qas(xs:List Int)(i:Int):(qaC xs i=i+1/\i<xs.length)\/(qaC xs i=i /\ ∀ m,qaB xs i m=0):=by
 unfold qaC qaB
 split
 ·exact .inr ⟨rfl,fun m=>rfl⟩
 ·exact .inl ⟨rfl,by omega⟩
theorem qbc{xs:List Int}{i m:Int}(hx : ∀ x∈xs,I64 x)(hm:1<=m):0<=qaB xs i m/\qaB xs i m<m:=by
 unfold qaB
 split
 ·omega
 ·have h0:I64 (xs.getD i.toNat 0):=by
   rw[Wz]
   cases h:xs[i.toNat]? with
   |none=>simp[I64]
   |some y=>exact hx _ (WQ h)
  have:=qlM (m:=1000000) h0 (by omega)
  exact qih this.1 hm
theorem qbi {v:D} {xs:List Int} {i m B:Int} (hx : ∀ x∈xs,I64 x) (hl:Bnd v xs B) (hi:0<=i/\i<=B) (hm:1<=m) :
  Z qad (.call 136 [.ptr 0 0,.int m] (qxu v i))=some (.ret (.int (qaB xs i m)) (qxu v (qaC xs i))):=by
 refine qac (pf:=F136) rfl rfl ?_
 have hm0:m≠0:=by omega
 have hb:=hl.len
 have hb2:=hl.big
 rcases hl.row with ⟨o,rfl,rfl⟩|rfl
 ·have h:(0:Int)<=i:=hi.1
  simp[F136,h,qaB,qaC,V.len]
 by_cases h:(xs.length:Int)<=i
 ·simp[F136,h,qaB,qaC,V.len]
 ·have a1:=qcr (intsC xs) xs.length false i hi.1 (by omega)
  have hlt:i.toNat<xs.length:=by omega
  have a2:=qgh xs i.toNat hlt
  have a3:=qoe (n:=xs[i.toNat]) (m:=1000000) (hx _ (Yn hlt)) (by omega)
  have w1:=qai (i+1) (by omega)
  simp[F136,w1,h,qaB,qaC,V.len,a1,a2,a3,hm0,hlt]
section
variable(k:Int)(s:ByteArray)(a b a' b':Int)(t t':ByteArray)(d d':D)
theorem qrt (h1:V.one (.dat d)=true) (h2:V.cells (.dat d)=[.dat d]) :
  Z qad (.call 176 [.int k,.str s,.dat (.agg [.lit (.int .i64 a),.lit (.int .i64 b),.lit (.string t),d])] []) =
   some (.ret (.dat (.agg [.lit (.int .i64 k),.lit (.int .i64 0),.lit (.string s),.sl [.lit (.int .i64 a),.lit (.int .i64 b),.lit (.string t),d] 1 true])) []):=by
 refine qac (pf:=F176) rfl rfl ?_
 simp[F176,h1,h2]
theorem qps (h1:V.one (.dat d)=true) (h2:V.cells (.dat d)=[.dat d]) (h3:V.one (.dat d')=true) (h4:V.cells (.dat d')=[.dat d']) :
  Z qad (.call 178 [.int k,.str s,.dat (.agg [.lit (.int .i64 a),.lit (.int .i64 b),.lit (.string t),d]),.dat (.agg [.lit (.int .i64 a'),.lit (.int .i64 b'),.lit (.string t'),d'])] []) =
   some (.ret (.dat (.agg [.lit (.int .i64 k),.lit (.int .i64 0),.lit (.string s),.sl [.lit (.int .i64 a),.lit (.int .i64 b),.lit (.string t),d,.lit (.int .i64 a'),.lit (.int .i64 b'),.lit (.string t'),d'] 2 true])) []):=by
 refine qac (pf:=F178) rfl rfl ?_
 simp[F178,h1,h2,h3,h4,Wa]
end
def qpt:List ByteArray:=[⟨#[105]⟩,⟨#[110]⟩,⟨#[115,117,109]⟩,⟨#[118,51]⟩]
def qtE:List ByteArray:=qpt++[⟨#[118]⟩]
def qlZ:List ByteArray:=[⟨#[115,101,108,102]⟩,⟨#[111,116,104,101,114]⟩,⟨#[116,105,99,107]⟩]
def qf4:List ByteArray:=[⟨#[120]⟩,⟨#[121]⟩,⟨#[118,120]⟩,⟨#[118,121]⟩,⟨#[97]⟩,⟨#[98]⟩]
def qdG:List ByteArray:=qf4++[⟨#[104,105,116]⟩,⟨#[115,116,105,108,108]⟩]
def E.fine:E->Prop
 |.int n=>0<=n/\n<=2147483647
 |.bool n=>n=0\/n=1
 |.var s=>s∈qtE
 |.name s=>s∈qlZ
 |.field _ s e=>s∈qdG/\e.fine/\e.ty=1
 |.un _ neg e=>e.fine/\e.ty=if neg then 1 else 2
 |.bin _ o a b=>a.fine/\b.fine/\a.ty=o.opd/\b.ty=o.opd
def E.dp:E->Nat
 |.field _ _ e=>e.dp+1
 |.un _ _ e=>e.dp+1
 |.bin _ _ a b=>max a.dp b.dp+1
 |_=>0
def mxs:Nat->Nat
 |0=>1
 |n+1=>2*mxs n+1
theorem qi6(n:Nat):1<=mxs n:=by cases n<;>simp[mxs]
def GIb(B:Int)(v:D)(xs:List Int)(d i:Int):Prop := ∃ (e:E) (i':Int),(e.fine/\e.ty=1/\e.dp<=d.toNat/\e.size<=mxs d.toNat/\Co 2 e.cost xs i i')/\(0<=i'/\i'<=B) /\
 Z qad (.call 177 [.ptr 0 0,.int d] (qxu v i))=some (.ret e.node (qxu v i'))
def GBb(B:Int)(v:D)(xs:List Int)(d i:Int):Prop := ∃ (e:E) (i':Int),(e.fine/\e.ty=2/\e.dp<=d.toNat+1/\e.size<=mxs (d.toNat+1)/\Co 6 e.cost xs i i')/\(0<=i'/\i'<=B) /\
 Z qad (.call 179 [.ptr 0 0,.int d] (qxu v i))=some (.ret e.node (qxu v i'))
abbrev GI(xs:List Int):=GIb 100 (qeq xs) xs
abbrev GB(xs:List Int):=GBb 100 (qeq xs) xs
theorem qhs{l:List ByteArray}{p:Int}(h:0<=p/\p<l.length) : ∃ s∈l,cutCells (strC l) p.toNat 1=some [.lit (.string s)]:=
 ⟨_,Yn (by omega:p.toNat<l.length),qeA l p.toNat (by omega)⟩
def nums:List Int:=[0,1,2,3,7,100,1024,2147483647]
def qx4:List Bop:=[.add,.sub,.mul,.div]
theorem qxv{p:Int}(h:0<=p/\p<4) : ∃ o∈qx4,cutCells (strC [⟨#[43]⟩,⟨#[45]⟩,⟨#[42]⟩,⟨#[47]⟩]) p.toNat 1=some [.lit (.string (Bop.str o))]:=by
 obtain rfl|rfl|rfl|rfl:p=0\/p=1\/p=2\/p=3:=by omega
 ·exact⟨.add,by simp[qx4],rfl⟩
 ·exact⟨.sub,by simp[qx4],rfl⟩
 ·exact⟨.mul,by simp[qx4],rfl⟩
 ·exact⟨.div,by simp[qx4],rfl⟩
section
variable{v:D}{xs:List Int}{i d B:Int}(hx : ∀ x∈xs,I64 x)(hl:Bnd v xs B)(hi:0<=i/\i<=B)
include hx hl hi
def qj8(xs:List Int)(d i:Int):Int:=if d<=0 then (qaB xs i 12).tmod 6 else qaB xs i 12
theorem qru(h:qj8 xs d i=0\/qj8 xs d i=1):GIb B v xs d i:=by
 have n1:=qbi (i:=i) (m:=12) hx hl hi (by omega)
 have r1:=qax hi hl
 have n2:=qbi (i:=qaC xs i) (m:=8) hx hl r1 (by omega)
 have r2:=qax r1 hl
 have p:=qbc (i:=qaC xs i) (m:=8) hx (by omega)
 have hat:=qcr (intsC nums) 8 true (qaB xs (qaC xs i) 8) p.1 (by omega)
 have hc:=qgh nums (qaB xs (qaC xs i) 8).toNat (by simp[nums]; omega)
 have hm : ∀ n∈nums,0<=n/\n<=2147483647:=by decide
 have hn:=hm _ (Yn (l:=nums) (n:=(qaB xs (qaC xs i) 8).toNat) (by simp[nums]; omega))
 have hlen:(qaB xs (qaC xs i) 8).toNat<nums.length:=by simp[nums]; omega
 have hco:Co 2 (E.cost (.int (nums[(qaB xs (qaC xs i) 8).toNat]'hlen))) xs i (qaC xs (qaC xs i)):=by
  have hcs : ∀ n∈nums,E.cost (.int n)<=11:=by decide +kernel
  have h11:=hcs _ (Yn hlen)
  have h0 : ∀ (k:Nat) (hk:k<nums.length),k=0->E.cost (.int (nums[k]'hk))=2:=fun k hk e=>by subst e; exact (by decide +kernel:E.cost (.int 0)=2)
  have hz:=h0 _ hlen
  unfold Co
  rcases qas xs i with ⟨e1,l1⟩|⟨e1,l1⟩
  ·rcases qas xs (qaC xs i) with ⟨e2,l2⟩|⟨e2,l2⟩<;>omega
  ·have e3:qaB xs (qaC xs i) 8=0:=by rw[e1]; exact l1 8
   have e4:=hz (by rw[e3]; rfl)
   rcases qas xs (qaC xs i) with ⟨e2,l2⟩|⟨e2,l2⟩<;>omega
 generalize nums[(qaB xs (qaC xs i) 8).toNat]'_=vv at hc hn hco
 simp only[nums,intsC,List.map] at hat hc
 refine⟨.int vv,_,⟨hn,rfl,WK _,qi6 _,hco⟩,r2,?_⟩
 refine qac (pf:=F177) rfl rfl ?_
 unfold qj8 at h
 by_cases hd:d<=0
 ·rw[if_pos hd] at h
  rcases h with h|h<;>simp[F177,n1,n2,hd,h,hat,hc]
 ·rw[if_neg hd] at h
  rcases h with h|h<;>simp[F177,n1,n2,hd,h,hat,hc]
theorem qrv(h:qj8 xs d i=2\/qj8 xs d i=3):GIb B v xs d i:=by
 have n1:=qbi (i:=i) (m:=12) hx hl hi (by omega)
 have r1:=qax hi hl
 have n2:=qbi (i:=qaC xs i) (m:=4) hx hl r1 (by omega)
 have r2:=qax r1 hl
 have p:=qbc (i:=qaC xs i) (m:=4) hx (by omega)
 have hat:=qcr (strC qpt) 4 true (qaB xs (qaC xs i) 4) p.1 (by omega)
 obtain⟨s,hs,hc⟩:=qhs (l:=qpt) (p:=qaB xs (qaC xs i) 4) (by simpa [qpt] using p)
 simp only[qpt,strC,List.map] at hat hc
 have hsel:qaB xs i 12≠0:=fun h0=>by
  unfold qj8 at h
  rw[h0] at h
  split at h<;>simp at h
 have hco:Co 2 (E.cost (.var s)) xs i (qaC xs (qaC xs i)):=by
  have hcs : ∀ s∈qpt,s.size<=5:=by decide
  have h5:=hcs s hs
  show _/\_/\((s.size+1:Nat):Int)<=_
  rcases qas xs i with ⟨e1,l1⟩|⟨e1,l1⟩
  ·rcases qas xs (qaC xs i) with ⟨e2,l2⟩|⟨e2,l2⟩<;>omega
  ·exact absurd (l1 12) hsel
 refine⟨.var s,_,⟨Yr _ hs,rfl,WK _,qi6 _,hco⟩,r2,?_⟩
 refine qac (pf:=F177) rfl rfl ?_
 unfold qj8 at h
 by_cases hd:d<=0
 ·rw[if_pos hd] at h
  rcases h with h|h<;>simp[F177,n1,n2,hd,h,hat,hc]
 ·rw[if_neg hd] at h
  rcases h with h|h<;>simp[F177,n1,n2,hd,h,hat,hc]
theorem qof(h:qj8 xs d i=4\/qj8 xs d i=5):GIb B v xs d i:=by
 have n1:=qbi (i:=i) (m:=12) hx hl hi (by omega)
 have r1:=qax hi hl
 have n2:=qbi (i:=qaC xs i) (m:=3) hx hl r1 (by omega)
 have r2:=qax r1 hl
 have p:=qbc (i:=qaC xs i) (m:=3) hx (by omega)
 have hat:=qcr (strC qlZ) 3 true (qaB xs (qaC xs i) 3) p.1 (by omega)
 obtain⟨s,hs,hc⟩:=qhs (l:=qlZ) (p:=qaB xs (qaC xs i) 3) (by simpa [qlZ] using p)
 simp only[qlZ,strC,List.map] at hat hc
 have hsel:qaB xs i 12≠0:=fun h0=>by
  unfold qj8 at h
  rw[h0] at h
  split at h<;>simp at h
 have hco:Co 2 (E.cost (.name s)) xs i (qaC xs (qaC xs i)):=by
  have hcs : ∀ s∈qlZ,s.size<=5:=by decide
  have h5:=hcs s hs
  show _/\_/\((s.size+1:Nat):Int)<=_
  rcases qas xs i with ⟨e1,l1⟩|⟨e1,l1⟩
  ·rcases qas xs (qaC xs i) with ⟨e2,l2⟩|⟨e2,l2⟩<;>omega
  ·exact absurd (l1 12) hsel
 refine⟨.name s,_,⟨hs,rfl,WK _,qi6 _,hco⟩,r2,?_⟩
 refine qac (pf:=F177) rfl rfl ?_
 unfold qj8 at h
 by_cases hd:d<=0
 ·rw[if_pos hd] at h
  rcases h with h|h<;>simp[F177,n1,n2,hd,h,hat,hc]
 ·rw[if_neg hd] at h
  rcases h with h|h<;>simp[F177,n1,n2,hd,h,hat,hc]
theorem qrw(hd : ¬ d<=0)(hd2:d<=1000)(ih : ∀ j,0<=j/\j<=B->GIb B v xs (d-1) j)(h:qaB xs i 12=6\/qaB xs i 12=7):GIb B v xs d i:=by
 have n1:=qbi (i:=i) (m:=12) hx hl hi (by omega)
 have r1:=qax hi hl
 have n2:=qbi (i:=qaC xs i) (m:=8) hx hl r1 (by omega)
 have r2:=qax r1 hl
 have p:=qbc (i:=qaC xs i) (m:=8) hx (by omega)
 have hat:=qcr (strC qdG) 8 true (qaB xs (qaC xs i) 8) p.1 (by omega)
 obtain⟨s,hs,hc⟩:=qhs (l:=qdG) (p:=qaB xs (qaC xs i) 8) (by simpa [qdG,qf4] using p)
 simp only[qdG,qf4,strC,List.map,Wg,Wc] at hat hc
 obtain⟨e,i',h1,h2,h3⟩:=ih _ r2
 have o:=qrt 11 s e.kind e.num e.str e.kids (by simp) (by simp)
 have w1:=qai (d-1) (by omega)
 have ed:d.toNat=(d-1).toNat+1:=by omega
 have hco:Co 2 (E.cost (.field true s e)) xs i i':=by
  have hcs : ∀ s∈qdG,s.size<=5:=by decide
  have h5:=hcs s hs
  obtain⟨q1,q2,q3⟩:=h1.2.2.2.2
  show _/\_/\((s.size+5+e.cost:Nat):Int)<=_
  rcases qas xs i with ⟨e1,l1⟩|⟨e1,l1⟩
  ·rcases qas xs (qaC xs i) with ⟨e2,l2⟩|⟨e2,l2⟩<;>omega
  ·exact absurd (l1 12) (by omega)
 refine⟨.field true s e,i',⟨⟨hs,h1.1,h1.2.1⟩,by simp[h1.2.1],by rw[ed]; simp only[E.dp]; omega,by rw[ed]; simp only[mxs,qpo]; omega,hco⟩,h2,?_⟩
 refine qac (pf:=F177) rfl rfl ?_
 rcases h with h|h<;>simp[F177,n1,n2,hd,h,hat,hc,h3,o,w1]
theorem qxw(hd : ¬ d<=0)(hd2:d<=1000)(ih : ∀ j,0<=j/\j<=B->GIb B v xs (d-1) j)(h:qaB xs i 12=8):GIb B v xs d i:=by
 have n1:=qbi (i:=i) (m:=12) hx hl hi (by omega)
 have r1:=qax hi hl
 obtain⟨e,i',h1,h2,h3⟩:=ih _ r1
 have o:=qrt 13 ⟨#[45]⟩ e.kind e.num e.str e.kids (by simp) (by simp)
 have w1:=qai (d-1) (by omega)
 have ed:d.toNat=(d-1).toNat+1:=by omega
 have hco:Co 2 (E.cost (.un true true e)) xs i i':=by
  obtain⟨q1,q2,q3⟩:=h1.2.2.2.2
  show _/\_/\((6+e.cost:Nat):Int)<=_
  rcases qas xs i with ⟨e1,l1⟩|⟨e1,l1⟩
  ·omega
  ·exact absurd (l1 12) (by omega)
 refine⟨.un true true e,i',⟨⟨h1.1,h1.2.1⟩,by simp[h1.2.1],by rw[ed]; simp only[E.dp]; omega,by rw[ed]; simp only[mxs,qrk]; omega,hco⟩,h2,?_⟩
 refine qac (pf:=F177) rfl rfl ?_
 simp[F177,n1,hd,h,h3,o,w1,ustr]
theorem qxx(hd : ¬ d<=0)(hd2:d<=1000)(ih : ∀ j,0<=j/\j<=B->GIb B v xs (d-1) j)(h:9<=qaB xs i 12):GIb B v xs d i:=by
 have n1:=qbi (i:=i) (m:=12) hx hl hi (by omega)
 have r1:=qax hi hl
 have n2:=qbi (i:=qaC xs i) (m:=4) hx hl r1 (by omega)
 have r2:=qax r1 hl
 have p:=qbc (i:=qaC xs i) (m:=4) hx (by omega)
 have hat:=qcr (strC [⟨#[43]⟩,⟨#[45]⟩,⟨#[42]⟩,⟨#[47]⟩]) 4 true (qaB xs (qaC xs i) 4) p.1 (by omega)
 obtain⟨o,ho,hc⟩:=qxv p
 simp only[strC,List.map] at hat hc
 obtain⟨a,i1,h1,h2,h3⟩:=ih _ r2
 obtain⟨b,i2,h4,h5,h6⟩:=ih _ h2
 have ot:=qps 14 o.str a.kind a.num b.kind b.num a.str b.str a.kids b.kids (by simp) (by simp) (by simp) (by simp)
 have w1:=qai (d-1) (by omega)
 have ed:d.toNat=(d-1).toNat+1:=by omega
 have ho1:o.opd=1/\o.res=1:=by
  simp only[qx4,Wo,Wx,or_false] at ho
  rcases ho with rfl|rfl|rfl|rfl<;>exact⟨rfl,rfl⟩
 have hco:Co 2 (E.cost (.bin true o a b)) xs i i2:=by
  have ho2:o.str.size<=2:=by cases o<;>decide
  obtain⟨q1,q2,q3⟩:=h1.2.2.2.2
  obtain⟨q4,q5,q6⟩:=h4.2.2.2.2
  have how:o.w<=11:=by cases o<;>decide
  show _/\_/\((o.str.size+o.w+(a.cost+b.cost):Nat):Int)<=_
  rcases qas xs i with ⟨e1,l1⟩|⟨e1,l1⟩
  ·rcases qas xs (qaC xs i) with ⟨e2,l2⟩|⟨e2,l2⟩<;>omega
  ·exact absurd (l1 12) (by omega)
 refine⟨.bin true o a b,i2,⟨⟨h1.1,h4.1,by rw[ho1.1]; exact h1.2.1,by rw[ho1.1]; exact h4.2.1⟩,by simp[h1.2.1,h4.2.1,ho1.1,ho1.2],by rw[ed]; simp only[E.dp]; omega,by rw[ed]; simp only[mxs,qkW]; omega,hco⟩,h5,?_⟩
 refine qac (pf:=F177) rfl rfl ?_
 have k0 : ¬ qaB xs i 12=0:=by omega
 have k1 : ¬ qaB xs i 12=1:=by omega
 have k2 : ¬ qaB xs i 12=2:=by omega
 have k3 : ¬ qaB xs i 12=3:=by omega
 have k4 : ¬ qaB xs i 12=4:=by omega
 have k5 : ¬ qaB xs i 12=5:=by omega
 have k6 : ¬ qaB xs i 12=6:=by omega
 have k7 : ¬ qaB xs i 12=7:=by omega
 have k8 : ¬ qaB xs i 12=8:=by omega
 simp[F177,n1,n2,hd,k0,k1,k2,k3,k4,k5,k6,k7,k8,hat,hc,h3,h6,ot,w1]
end
end
section
open F
theorem qqh{v:D}{xs:List Int}{B:Int}(hx : ∀ x∈xs,I64 x)(hl:Bnd v xs B) : ∀ (n:Nat) (d i:Int),d<=n->n<=1000->(0<=i/\i<=B)->GIb B v xs d i
 |n,d,i,hd,hn,hi=>by
  have p:=qbc (i:=i) (m:=12) hx (by omega)
  by_cases h0:d<=0
  ·have q:=qih p.1 (m:=6) (by omega)
   have e:qj8 xs d i=(qaB xs i 12).tmod 6:=if_pos h0
   by_cases h1:qj8 xs d i<2
   ·exact qru hx hl hi (by omega)
   by_cases h2:qj8 xs d i<4
   ·exact qrv hx hl hi (by omega)
   ·exact qof hx hl hi (by omega)
  ·have e:qj8 xs d i=qaB xs i 12:=if_neg h0
   by_cases h1:qj8 xs d i<2
   ·exact qru hx hl hi (by omega)
   by_cases h2:qj8 xs d i<4
   ·exact qrv hx hl hi (by omega)
   by_cases h3:qj8 xs d i<6
   ·exact qof hx hl hi (by omega)
   cases n with
   |zero=>omega
   |succ n=>
    have ih : ∀ j,0<=j/\j<=B->GIb B v xs (d-1) j:=fun j hj=>qqh hx hl n (d-1) j (by omega) (by omega) hj
    by_cases h4:qj8 xs d i<8
    ·exact qrw hx hl hi h0 (by omega) ih (by omega)
    by_cases h5:qj8 xs d i=8
    ·exact qxw hx hl hi h0 (by omega) ih (by omega)
    ·exact qxx hx hl hi h0 (by omega) ih (by omega)
def que:List Bop:=[.lt,.le,.gt,.ge,.eq,.ne]
theorem qvQ{p:Int}(h:0<=p/\p<6) : ∃ o∈que,cutCells (strC [⟨#[60]⟩,⟨#[60,61]⟩,⟨#[62]⟩,⟨#[62,61]⟩,⟨#[61,61]⟩,⟨#[33,61]⟩]) p.toNat 1=some [.lit (.string (Bop.str o))]:=by
 obtain rfl|rfl|rfl|rfl|rfl|rfl:p=0\/p=1\/p=2\/p=3\/p=4\/p=5:=by omega
 ·exact⟨.lt,by simp[que],rfl⟩
 ·exact⟨.le,by simp[que],rfl⟩
 ·exact⟨.gt,by simp[que],rfl⟩
 ·exact⟨.ge,by simp[que],rfl⟩
 ·exact⟨.eq,by simp[que],rfl⟩
 ·exact⟨.ne,by simp[que],rfl⟩
def qAz:List Bop:=[.and,.or]
theorem qvR{p:Int}(h:0<=p/\p<2) : ∃ o∈qAz,cutCells (strC [⟨#[38,38]⟩,⟨#[124,124]⟩]) p.toNat 1=some [.lit (.string (Bop.str o))]:=by
 obtain rfl|rfl:p=0\/p=1:=by omega
 ·exact⟨.and,by simp[qAz],rfl⟩
 ·exact⟨.or,by simp[qAz],rfl⟩
def qqi(xs:List Int)(d i:Int):Int:=if d<=0 then (qaB xs i 8).tmod 4 else qaB xs i 8
section
variable{v:D}{xs:List Int}{i d B:Int}(hx : ∀ x∈xs,I64 x)(hl:Bnd v xs B)(hi:0<=i/\i<=B)
include hx hl hi
theorem qnw(h:qqi xs d i=0):GBb B v xs d i:=by
 have n1:=qbi (i:=i) (m:=8) hx hl hi (by omega)
 have r1:=qax hi hl
 have n2:=qbi (i:=qaC xs i) (m:=2) hx hl r1 (by omega)
 have r2:=qax r1 hl
 have p:=qbc (i:=qaC xs i) (m:=2) hx (by omega)
 have hco:Co 6 (E.cost (.bool (qaB xs (qaC xs i) 2))) xs i (qaC xs (qaC xs i)):=by
  have hb:E.cost (.bool (qaB xs (qaC xs i) 2))<=6:=by simp only[E.cost]; split<;>omega
  unfold Co
  rcases qas xs i with ⟨e1,l1⟩|⟨e1,l1⟩<;>rcases qas xs (qaC xs i) with ⟨e2,l2⟩|⟨e2,l2⟩<;>omega
 refine⟨.bool (qaB xs (qaC xs i) 2),_,⟨by show _\/_; omega,rfl,WK _,qi6 _,hco⟩,r2,?_⟩
 refine qac (pf:=F179) rfl rfl ?_
 unfold qqi at h
 by_cases hd:d<=0
 ·rw[if_pos hd] at h
  simp[F179,n1,n2,hd,h]
 ·rw[if_neg hd] at h
  simp[F179,n1,n2,hd,h]
theorem qnx(hd2:d<=1000)(hd3 : -1000<=d)(ih : ∀ j,0<=j/\j<=B->GIb B v xs (d-1) j)(h:1<=qqi xs d i/\qqi xs d i<=4):GBb B v xs d i:=by
 have n1:=qbi (i:=i) (m:=8) hx hl hi (by omega)
 have r1:=qax hi hl
 have n2:=qbi (i:=qaC xs i) (m:=6) hx hl r1 (by omega)
 have r2:=qax r1 hl
 have p:=qbc (i:=qaC xs i) (m:=6) hx (by omega)
 have hat:=qcr (strC [⟨#[60]⟩,⟨#[60,61]⟩,⟨#[62]⟩,⟨#[62,61]⟩,⟨#[61,61]⟩,⟨#[33,61]⟩]) 6 true (qaB xs (qaC xs i) 6) p.1 (by omega)
 obtain⟨o,ho,hc⟩:=qvQ p
 simp only[strC,List.map] at hat hc
 obtain⟨a,i1,h1,h2,h3⟩:=ih _ r2
 obtain⟨b,i2,h4,h5,h6⟩:=ih _ h2
 have ot:=qps 14 o.str a.kind a.num b.kind b.num a.str b.str a.kids b.kids (by simp) (by simp) (by simp) (by simp)
 have w1:=qai (d-1) (by omega)
 have ed:(d-1).toNat<=d.toNat:=by omega
 have hm:mxs (d-1).toNat<=mxs d.toNat:=by
  by_cases h0:d<=0
  ·rw[show (d-1).toNat=0 by omega]; exact qi6 _
  ·rw[show d.toNat=(d-1).toNat+1 by omega]; simp only[mxs]; omega
 have ho1:o.opd=1/\o.res=2:=by
  simp only[que,Wo,Wx,or_false] at ho
  rcases ho with rfl|rfl|rfl|rfl|rfl|rfl<;>exact⟨rfl,rfl⟩
 have hco:Co 6 (E.cost (.bin true o a b)) xs i i2:=by
  have ho2:o.str.size<=2:=by cases o<;>decide
  obtain⟨q1,q2,q3⟩:=h1.2.2.2.2
  obtain⟨q4,q5,q6⟩:=h4.2.2.2.2
  have how:o.w<=11:=by cases o<;>decide
  show _/\_/\((o.str.size+o.w+(a.cost+b.cost):Nat):Int)<=_
  rcases qas xs i with ⟨e1,l1⟩|⟨e1,l1⟩
  ·rcases qas xs (qaC xs i) with ⟨e2,l2⟩|⟨e2,l2⟩<;>omega
  ·exact absurd (l1 8) (fun h0=>by
    unfold qqi at h
    rw[h0] at h
    split at h<;>simp at h)
 refine⟨.bin true o a b,i2,⟨⟨h1.1,h4.1,by rw[ho1.1]; exact h1.2.1,by rw[ho1.1]; exact h4.2.1⟩,by simp[h1.2.1,h4.2.1,ho1.1,ho1.2],by simp only[E.dp]; omega,by simp only[mxs,qkW]; omega,hco⟩,h5,?_⟩
 refine qac (pf:=F179) rfl rfl ?_
 unfold qqi at h
 by_cases hd:d<=0
 ·rw[if_pos hd] at h
  obtain h'|h'|h'|h':(qaB xs i 8).tmod 4=1\/(qaB xs i 8).tmod 4=2\/(qaB xs i 8).tmod 4=3\/(qaB xs i 8).tmod 4=4:=by omega
  all_goals simp[F179,n1,n2,hd,h',hat,hc,h3,h6,ot,w1]
 ·rw[if_neg hd] at h
  obtain h'|h'|h'|h':qaB xs i 8=1\/qaB xs i 8=2\/qaB xs i 8=3\/qaB xs i 8=4:=by omega
  all_goals simp[F179,n1,n2,hd,h',hat,hc,h3,h6,ot,w1]
theorem qsI(hd : ¬ d<=0)(hd2:d<=1000)(ih : ∀ j,0<=j/\j<=B->GBb B v xs (d-1) j)(h:qaB xs i 8=5):GBb B v xs d i:=by
 have n1:=qbi (i:=i) (m:=8) hx hl hi (by omega)
 have r1:=qax hi hl
 obtain⟨e,i',h1,h2,h3⟩:=ih _ r1
 have o:=qrt 13 ⟨#[33]⟩ e.kind e.num e.str e.kids (by simp) (by simp)
 have w1:=qai (d-1) (by omega)
 have ed:d.toNat=(d-1).toNat+1:=by omega
 have hco:Co 6 (E.cost (.un true false e)) xs i i':=by
  obtain⟨q1,q2,q3⟩:=h1.2.2.2.2
  show _/\_/\((6+e.cost:Nat):Int)<=_
  rcases qas xs i with ⟨e1,l1⟩|⟨e1,l1⟩
  ·omega
  ·exact absurd (l1 8) (by omega)
 refine⟨.un true false e,i',⟨⟨h1.1,h1.2.1⟩,by simp[h1.2.1],by rw[ed]; simp only[E.dp]; omega,by rw[ed]; have:=h1.2.2.2.1; simp only[mxs,qrk] at *; omega,hco⟩,h2,?_⟩
 refine qac (pf:=F179) rfl rfl ?_
 simp[F179,n1,hd,h,h3,o,w1,ustr]
theorem qsJ(hd : ¬ d<=0)(hd2:d<=1000)(ih : ∀ j,0<=j/\j<=B->GBb B v xs (d-1) j)(h:qaB xs i 8=6\/qaB xs i 8=7):GBb B v xs d i:=by
 have n1:=qbi (i:=i) (m:=8) hx hl hi (by omega)
 have r1:=qax hi hl
 have n2:=qbi (i:=qaC xs i) (m:=2) hx hl r1 (by omega)
 have r2:=qax r1 hl
 have p:=qbc (i:=qaC xs i) (m:=2) hx (by omega)
 have hat:=qcr (strC [⟨#[38,38]⟩,⟨#[124,124]⟩]) 2 true (qaB xs (qaC xs i) 2) p.1 (by omega)
 obtain⟨o,ho,hc⟩:=qvR p
 simp only[strC,List.map] at hat hc
 obtain⟨a,i1,h1,h2,h3⟩:=ih _ r2
 obtain⟨b,i2,h4,h5,h6⟩:=ih _ h2
 have ot:=qps 14 o.str a.kind a.num b.kind b.num a.str b.str a.kids b.kids (by simp) (by simp) (by simp) (by simp)
 have w1:=qai (d-1) (by omega)
 have ed:d.toNat=(d-1).toNat+1:=by omega
 have ho1:o.opd=2/\o.res=2:=by
  simp only[qAz,Wo,Wx,or_false] at ho
  rcases ho with rfl|rfl<;>exact⟨rfl,rfl⟩
 have hco:Co 6 (E.cost (.bin true o a b)) xs i i2:=by
  have ho2:o.str.size<=2:=by cases o<;>decide
  obtain⟨q1,q2,q3⟩:=h1.2.2.2.2
  obtain⟨q4,q5,q6⟩:=h4.2.2.2.2
  have how:o.w<=11:=by cases o<;>decide
  show _/\_/\((o.str.size+o.w+(a.cost+b.cost):Nat):Int)<=_
  rcases qas xs i with ⟨e1,l1⟩|⟨e1,l1⟩
  ·rcases qas xs (qaC xs i) with ⟨e2,l2⟩|⟨e2,l2⟩<;>omega
  ·exact absurd (l1 8) (by omega)
 refine⟨.bin true o a b,i2,⟨⟨h1.1,h4.1,by rw[ho1.1]; exact h1.2.1,by rw[ho1.1]; exact h4.2.1⟩,by simp[h1.2.1,h4.2.1,ho1.1,ho1.2],by rw[ed]; simp only[E.dp]; omega,by rw[ed]; have:=h1.2.2.2.1; have:=h4.2.2.2.1; simp only[mxs,qkW] at *; omega,hco⟩,h5,?_⟩
 refine qac (pf:=F179) rfl rfl ?_
 rcases h with h|h<;>simp[F179,n1,n2,hd,h,hat,hc,h3,h6,ot,w1]
end
theorem qqj{v:D}{xs:List Int}{B:Int}(hx : ∀ x∈xs,I64 x)(hl:Bnd v xs B) : ∀ (n:Nat) (d i:Int),d<=n -> -100<=d->n<=1000->(0<=i/\i<=B)->GBb B v xs d i
 |n,d,i,hd,hd',hn,hi=>by
  have p:=qbc (i:=i) (m:=8) hx (by omega)
  have ihI : ∀ j,0<=j/\j<=B->GIb B v xs (d-1) j:=fun j hj=>qqh hx hl n (d-1) j (by omega) (by omega) hj
  by_cases h0:d<=0
  ·have q:=qih p.1 (m:=4) (by omega)
   have e:qqi xs d i=(qaB xs i 8).tmod 4:=if_pos h0
   by_cases h1:qqi xs d i=0
   ·exact qnw hx hl hi h1
   ·exact qnx hx hl hi (by omega) (by omega) ihI (by omega)
  ·have e:qqi xs d i=qaB xs i 8:=if_neg h0
   by_cases h1:qqi xs d i=0
   ·exact qnw hx hl hi h1
   by_cases h2:qqi xs d i<=4
   ·exact qnx hx hl hi (by omega) (by omega) ihI (by omega)
   cases n with
   |zero=>omega
   |succ n=>
    have ih : ∀ j,0<=j/\j<=B->GBb B v xs (d-1) j:=fun j hj=>qqj hx hl n (d-1) j (by omega) (by omega) (by omega) hj
    by_cases h4:qaB xs i 8=5
    ·exact qsI hx hl hi h0 (by omega) ih h4
    ·exact qsJ hx hl hi h0 (by omega) ih (by omega)
theorem qoT{xs:List Int}(hx : ∀ x∈xs,I64 x)(hl:xs.length<=100)(n:Nat)(d i:Int)(hd:d<=n)(hn:n<=1000)(hi:0<=i/\i<=100):GI xs d i:=qqh hx (qbt hl) n d i hd hn hi
theorem quf{xs:List Int}(hx : ∀ x∈xs,I64 x)(hl:xs.length<=100)(n:Nat)(d i:Int)(hd:d<=n)(hd' : -100<=d)(hn:n<=1000)(hi:0<=i/\i<=100):GB xs d i:=qqj hx (qbt hl) n d i hd hd' hn hi
end
section
open F
def Ss.fine:Ss->Prop
 |.nil=>True
 |.assign _ s e r=>(s∈qtE/\e.fine/\e.ty=1)/\r.fine
 |.store _ s a b r=>(s∈qf4/\a.fine/\a.ty=1/\b.fine/\b.ty=1)/\r.fine
 |.effect _ a b r=>(a.fine/\a.ty=1/\b.fine/\b.ty=1)/\r.fine
 |.stop r=>r.fine
 |.cond false _ c (.block _ x (.block _ y .nil)) r=>(c.fine/\c.ty=2)/\x.fine/\y.fine/\r.fine
 |.cond true _ c (.block _ x .nil) r=>(c.fine/\c.ty=2)/\x.fine/\r.fine
 |_=>False
def Ss.dp:Ss->Nat
 |.nil=>0
 |.assign _ _ _ r=>r.dp
 |.store _ _ _ _ r=>r.dp
 |.effect _ _ _ r=>r.dp
 |.stop r=>r.dp
 |.cond _ _ _ b r=>max (b.dp+1) r.dp
 |.block _ b r=>max b.dp r.dp
def Ss.edp:Ss->Nat
 |.nil=>0
 |.assign _ _ e r=>max e.dp r.edp
 |.store _ _ a b r=>max (max a.dp b.dp) r.edp
 |.effect _ a b r=>max (max a.dp b.dp) r.edp
 |.stop r=>r.edp
 |.cond _ _ c b r=>max (max c.dp b.edp) r.edp
 |.block _ b r=>max b.edp r.edp
def ssz:Nat->Nat
 |0=>20
 |n+1=>20+4*ssz n
theorem qkt(n:Nat):20<=ssz n:=by cases n<;>simp[ssz]
def GS(xs:List Int)(d i:Int):Prop := ∃ (st:Ss) (k n:Int) (s:ByteArray) (f:Bool) (ks:Fo) (i':Int),st.fo = .cons k n s f ks .nil /\
 (st.fine/\st.dp<=d.toNat/\st.edp<=3/\st.fo.size<=ssz d.toNat/\Co 8 st.cost xs i i')/\(0<=i'/\i'<=100)/\Z qad (.call 162 [.ptr 0 0,.int d] (gst xs i))=some (.ret (nd k n s f ks) (gst xs i'))
def GK(xs:List Int)(d m i:Int):Prop := ∃ (b:Ss) (i':Int),(b.fine/\b.dp<=d.toNat/\b.edp<=3/\b.fo.size<=m.toNat*ssz d.toNat/\Co 0 b.cost xs i i')/\(0<=i'/\i'<=100) /\
 Z qad (.call 137 [.ptr 0 0,.int d,.int m] (gst xs i))=some (.ret (nd 7 0 ⟨#[]⟩ false b.fo) (gst xs i'))
def qhU(xs:List Int)(d i:Int):Int:=if d<=0 then (qaB xs i 10).tmod 7 else qaB xs i 10
section
variable{xs:List Int}{i d:Int}(hx : ∀ x∈xs,I64 x)(hl:xs.length<=100)(hi:0<=i/\i<=100)
include hx hl hi
theorem qlp(h:qhU xs d i=0\/qhU xs d i=1):GS xs d i:=by
 have n1:=qbi (i:=i) (m:=10) hx (qbt hl) hi (by omega)
 have r1:=qax hi (qbt hl)
 have n2:=qbi (i:=qaC xs i) (m:=4) hx (qbt hl) r1 (by omega)
 have r2:=qax r1 (qbt hl)
 have p:=qbc (i:=qaC xs i) (m:=4) hx (by omega)
 have hat:=qcr (strC qpt) 4 true (qaB xs (qaC xs i) 4) p.1 (by omega)
 obtain⟨s,hs,hc⟩:=qhs (l:=qpt) (p:=qaB xs (qaC xs i) 4) (by simpa [qpt] using p)
 simp only[qpt,strC,List.map] at hat hc
 obtain⟨e,i',h1,h2,h3⟩:=qoT hx hl 2 2 _ (by omega) (by omega) r2
 rw[show (2:Int).toNat=2 from rfl] at h1
 have o:=qrt 1 s e.kind e.num e.str e.kids (by simp) (by simp)
 have hz:mxs 2=7:=rfl
 have hp:=qkt d.toNat
 have hco:Co 8 (Ss.cost (.assign true s e .nil)) xs i i':=by
  obtain⟨q1,q2,q3⟩:=h1.2.2.2.2
  have hcs : ∀ s∈qpt,s.size<=3:=by decide
  have h5:=hcs s hs
  show _/\_/\((s.size+5+e.cost+0:Nat):Int)<=_
  rcases qas xs i with ⟨e1,l1⟩|⟨e1,l1⟩
  ·rcases qas xs (qaC xs i) with ⟨e2,l2⟩|⟨e2,l2⟩<;>omega
  ·have e3:qaB xs (qaC xs i) 4=0:=by rw[e1]; exact l1 4
   have hs1:s.size=1:=by
    rw[e3] at hc
    simp at hc
    rw[<- hc]
    rfl
   rcases qas xs (qaC xs i) with ⟨e2,l2⟩|⟨e2,l2⟩<;>omega
 refine⟨.assign true s e .nil,1,0,s,true,e.fo .nil,i',rfl,⟨⟨⟨Yr _ hs,h1.1,h1.2.1⟩,trivial⟩,WK _,by simp only[Ss.edp]; omega,by simp only[Ss.fo,qak,qck,qaS]; omega,hco⟩,h2,?_⟩
 refine qac (pf:=F162) rfl rfl ?_
 unfold qhU at h
 by_cases hd:d<=0
 ·rw[if_pos hd] at h
  rcases h with h|h<;>simp[F162,n1,n2,hd,h,hat,hc,h3,o]
 ·rw[if_neg hd] at h
  rcases h with h|h<;>simp[F162,n1,n2,hd,h,hat,hc,h3,o]
theorem qns(h:qhU xs d i=2\/qhU xs d i=3\/qhU xs d i=4):GS xs d i:=by
 have n1:=qbi (i:=i) (m:=10) hx (qbt hl) hi (by omega)
 have r1:=qax hi (qbt hl)
 have n2:=qbi (i:=qaC xs i) (m:=6) hx (qbt hl) r1 (by omega)
 have r2:=qax r1 (qbt hl)
 have p:=qbc (i:=qaC xs i) (m:=6) hx (by omega)
 have hat:=qcr (strC qf4) 6 true (qaB xs (qaC xs i) 6) p.1 (by omega)
 obtain⟨s,hs,hc⟩:=qhs (l:=qf4) (p:=qaB xs (qaC xs i) 6) (by simpa [qf4] using p)
 simp only[qf4,strC,List.map] at hat hc
 obtain⟨a,i1,h1,h2,h3⟩:=qoT hx hl 1 1 _ (by omega) (by omega) r2
 obtain⟨b,i2,h4,h5,h6⟩:=qoT hx hl 2 2 _ (by omega) (by omega) h2
 rw[show (2:Int).toNat=2 from rfl] at h4
 rw[show (1:Int).toNat=1 from rfl] at h1
 have o:=qps 2 s a.kind a.num b.kind b.num a.str b.str a.kids b.kids (by simp) (by simp) (by simp) (by simp)
 have hz:mxs 2=7:=rfl
 have hz1:mxs 1=3:=rfl
 have hp:=qkt d.toNat
 have hco:Co 8 (Ss.cost (.store true s a b .nil)) xs i i2:=by
  have hcs : ∀ s∈qf4,s.size<=2:=by decide
  have h55:=hcs s hs
  obtain⟨q1,q2,q3⟩:=h1.2.2.2.2
  obtain⟨u1,u2,u3⟩:=h4.2.2.2.2
  show _/\_/\((s.size+9+(a.cost+b.cost)+0:Nat):Int)<=_
  rcases qas xs i with ⟨e1,l1⟩|⟨e1,l1⟩
  ·rcases qas xs (qaC xs i) with ⟨e2,l2⟩|⟨e2,l2⟩<;>omega
  ·exact absurd (l1 10) (fun h0=>by
    unfold qhU at h
    rw[h0] at h
    split at h<;>simp at h)
 refine⟨.store true s a b .nil,2,0,s,true,a.fo (b.fo .nil),i2,rfl,⟨⟨⟨hs,h1.1,h1.2.1,h4.1,h4.2.1⟩,trivial⟩,WK _,by simp only[Ss.edp]; omega,by simp only[Ss.fo,qak,qck,qaS]; omega,hco⟩,h5,?_⟩
 refine qac (pf:=F162) rfl rfl ?_
 unfold qhU at h
 by_cases hd:d<=0
 ·rw[if_pos hd] at h
  rcases h with h|h|h<;>simp[F162,n1,n2,hd,h,hat,hc,h3,h6,o]
 ·rw[if_neg hd] at h
  rcases h with h|h|h<;>simp[F162,n1,n2,hd,h,hat,hc,h3,h6,o]
theorem qlq(h:qhU xs d i=5):GS xs d i:=by
 have n1:=qbi (i:=i) (m:=10) hx (qbt hl) hi (by omega)
 have r1:=qax hi (qbt hl)
 obtain⟨a,i1,h1,h2,h3⟩:=qoT hx hl 1 0 _ (by omega) (by omega) r1
 obtain⟨b,i2,h4,h5,h6⟩:=qoT hx hl 1 1 _ (by omega) (by omega) h2
 rw[show (0:Int).toNat=0 from rfl] at h1
 rw[show (1:Int).toNat=1 from rfl] at h4
 have o:=qps 5 ⟨#[]⟩ a.kind a.num b.kind b.num a.str b.str a.kids b.kids (by simp) (by simp) (by simp) (by simp)
 have hz:mxs 0=1:=rfl
 have hz1:mxs 1=3:=rfl
 have hp:=qkt d.toNat
 have hco:Co 8 (Ss.cost (.effect true a b .nil)) xs i i2:=by
  obtain⟨q1,q2,q3⟩:=h1.2.2.2.2
  obtain⟨u1,u2,u3⟩:=h4.2.2.2.2
  show _/\_/\((11+(a.cost+b.cost)+0:Nat):Int)<=_
  rcases qas xs i with ⟨e1,l1⟩|⟨e1,l1⟩
  ·omega
  ·exact absurd (l1 10) (fun h0=>by
    unfold qhU at h
    rw[h0] at h
    split at h<;>simp at h)
 refine⟨.effect true a b .nil,5,0,_,true,a.fo (b.fo .nil),i2,rfl,⟨⟨⟨h1.1,h1.2.1,h4.1,h4.2.1⟩,trivial⟩,WK _,by simp only[Ss.edp]; omega,by simp only[Ss.fo,qak,qck,qaS]; omega,hco⟩,h5,?_⟩
 refine qac (pf:=F162) rfl rfl ?_
 unfold qhU at h
 by_cases hd:d<=0
 ·rw[if_pos hd] at h
  simp[F162,n1,hd,h,h3,h6,o]
 ·rw[if_neg hd] at h
  simp[F162,n1,hd,h,h3,h6,o]
theorem qub(h:qhU xs d i=6):GS xs d i:=by
 have n1:=qbi (i:=i) (m:=10) hx (qbt hl) hi (by omega)
 have r1:=qax hi (qbt hl)
 have n2:=qbi (i:=qaC xs i) (m:=3) hx (qbt hl) r1 (by omega)
 have r2:=qax r1 (qbt hl)
 have p:=qbc (i:=qaC xs i) (m:=3) hx (by omega)
 have hp:=qkt d.toNat
 by_cases h0:0<qaB xs (qaC xs i) 3
 ·obtain⟨e,i',h1,h2,h3⟩:=qoT hx hl 1 1 _ (by omega) (by omega) r2
  rw[show (1:Int).toNat=1 from rfl] at h1
  have o:=qrt 1 ⟨#[110]⟩ e.kind e.num e.str e.kids (by simp) (by simp)
  have hz:mxs 1=3:=rfl
  have hco:Co 8 (Ss.cost (.assign true ⟨#[110]⟩ e .nil)) xs i i':=by
   obtain⟨q1,q2,q3⟩:=h1.2.2.2.2
   show _/\_/\((1+5+e.cost+0:Nat):Int)<=_
   rcases qas xs i with ⟨e1,l1⟩|⟨e1,l1⟩
   ·rcases qas xs (qaC xs i) with ⟨e2,l2⟩|⟨e2,l2⟩<;>omega
   ·exact absurd (l1 10) (fun h0=>by
     unfold qhU at h
     rw[h0] at h
     split at h<;>simp at h)
  refine⟨.assign true ⟨#[110]⟩ e .nil,1,0,_,true,e.fo .nil,i',rfl,⟨⟨⟨by simp[qtE,qpt],h1.1,h1.2.1⟩,trivial⟩,WK _,by simp only[Ss.edp]; omega,by simp only[Ss.fo,qak,qck,qaS]; omega,hco⟩,h2,?_⟩
  refine qac (pf:=F162) rfl rfl ?_
  unfold qhU at h
  by_cases hd:d<=0
  ·rw[if_pos hd] at h
   simp[F162,n1,n2,hd,h,h0,h3,o]
  ·rw[if_neg hd] at h
   simp[F162,n1,n2,hd,h,h0,h3,o]
 ·have hco:Co 8 (Ss.cost (.stop .nil)) xs i (qaC xs (qaC xs i)):=by
   show _/\_/\((7+0:Nat):Int)<=_
   rcases qas xs i with ⟨e1,l1⟩|⟨e1,l1⟩<;>rcases qas xs (qaC xs i) with ⟨e2,l2⟩|⟨e2,l2⟩<;>omega
  refine⟨.stop .nil,6,0,_,false,.nil,_,rfl,⟨trivial,WK _,WK _,by simp only[Ss.fo,qak,qaS]; omega,hco⟩,r2,?_⟩
  refine qac (pf:=F162) rfl rfl ?_
  unfold qhU at h
  by_cases hd:d<=0
  ·rw[if_pos hd] at h
   simp[F162,n1,n2,hd,h,h0]
  ·rw[if_neg hd] at h
   simp[F162,n1,n2,hd,h,h0]
theorem qsa(hd : ¬ d<=0)(hd2:d<=1000)(ih : ∀ j,0<=j/\j<=100->GK xs (d-1) 2 j)(h:qaB xs i 10=7):GS xs d i:=by
 have n1:=qbi (i:=i) (m:=10) hx (qbt hl) hi (by omega)
 have r1:=qax hi (qbt hl)
 obtain⟨c,i1,h1,h2,h3⟩:=quf hx hl 1 1 _ (by omega) (by omega) (by omega) r1
 obtain⟨b,i2,h4,h5,h6⟩:=ih _ h2
 rw[show (1:Int).toNat=1 from rfl] at h1
 have ed:d.toNat=(d-1).toNat+1:=by omega
 rw[show (2:Int).toNat=2 from rfl] at h4
 have hz:mxs (1+1)=7:=rfl
 have o:=qps 4 ⟨#[]⟩ c.kind c.num 7 0 c.str ⟨#[]⟩ c.kids (kd false b.fo.len b.fo.cells) (by simp) (by simp) (by simp) (by simp)
 have w1:=qai (d-1) (by omega)
 have hco:Co 8 (Ss.cost (.cond true true c (.block false b .nil) .nil)) xs i i2:=by
  obtain⟨q1,q2,q3⟩:=h1.2.2.2.2
  obtain⟨u1,u2,u3⟩:=h4.2.2.2.2
  show _/\_/\((6+c.cost+(4+b.cost+(0+0))+0:Nat):Int)<=_
  rcases qas xs i with ⟨e1,l1⟩|⟨e1,l1⟩
  ·omega
  ·exact absurd (l1 10) (by omega)
 refine⟨.cond true true c (.block false b .nil) .nil,4,0,_,true,c.fo (.cons 7 0 ⟨#[]⟩ false b.fo .nil),i2,rfl,⟨⟨⟨h1.1,h1.2.1⟩,h4.1,trivial⟩,by simp only[Ss.dp]; omega,by simp only[Ss.edp]; omega,by rw[ed]; simp only[Ss.fo,qak,qck,qaS,ssz]; omega,hco⟩,h5,?_⟩
 refine qac (pf:=F162) rfl rfl ?_
 simp[F162,n1,hd,h,h3,h6,o,w1]
theorem qBm(hd : ¬ d<=0)(hd2:d<=1000)(ih : ∀ j,0<=j/\j<=100->GK xs (d-1) 2 j)(h:8<=qaB xs i 10):GS xs d i:=by
 have n1:=qbi (i:=i) (m:=10) hx (qbt hl) hi (by omega)
 have r1:=qax hi (qbt hl)
 obtain⟨c,i1,h1,h2,h3⟩:=quf hx hl 2 2 _ (by omega) (by omega) (by omega) r1
 obtain⟨a,i2,h4,h5,h6⟩:=ih _ h2
 have n2:=qbi (i:=i2) (m:=2) hx (qbt hl) h5 (by omega)
 have r2:=qax h5 (qbt hl)
 obtain⟨b,i3,h7,h8,h9⟩:=ih _ r2
 rw[show (2:Int).toNat=2 from rfl] at h1 h4 h7
 have ed:d.toNat=(d-1).toNat+1:=by omega
 have hz:mxs (2+1)=15:=rfl
 have w1:=qai (d-1) (by omega)
 have k0 : ¬ qaB xs i 10=0:=by omega
 have k1 : ¬ qaB xs i 10=1:=by omega
 have k2 : ¬ qaB xs i 10=2:=by omega
 have k3 : ¬ qaB xs i 10=3:=by omega
 have k4 : ¬ qaB xs i 10=4:=by omega
 have k5 : ¬ qaB xs i 10=5:=by omega
 have k6 : ¬ qaB xs i 10=6:=by omega
 have k7 : ¬ qaB xs i 10=7:=by omega
 by_cases h0:qaB xs i2 2=1
 ·have hco:Co 8 (Ss.cost (.cond false true c (.block false a (.block false b .nil)) .nil)) xs i i3:=by
   have hl:(if qfD (.block false b .nil)=true then 5 else 0)<=5:=by split<;>omega
   obtain⟨q1,q2,q3⟩:=h1.2.2.2.2
   obtain⟨u1,u2,u3⟩:=h4.2.2.2.2
   obtain⟨v1,v2,v3⟩:=h7.2.2.2.2
   show _/\_/\((3+c.cost+(4+a.cost+((if qfD (.block false b .nil)=true then 5 else 0)+(4+b.cost+(0+0))))+0:Nat):Int)<=_
   rcases qas xs i with ⟨e1,l1⟩|⟨e1,l1⟩
   ·rcases qas xs i2 with ⟨e2,l2⟩|⟨e2,l2⟩<;>omega
   ·exact absurd (l1 10) (by omega)
  refine⟨.cond false true c (.block false a (.block false b .nil)) .nil,3,0,_,true,c.fo (.cons 7 0 ⟨#[]⟩ false a.fo (.cons 7 0 ⟨#[]⟩ false b.fo .nil)),i3,rfl,⟨⟨⟨h1.1,h1.2.1⟩,h4.1,h7.1,trivial⟩,by simp only[Ss.dp]; omega,by simp only[Ss.edp]; omega,by rw[ed]; simp only[Ss.fo,qak,qck,qaS,ssz]; omega,hco⟩,h8,?_⟩
  refine qac (pf:=F162) rfl rfl ?_
  simp[F162,n1,n2,hd,h0,k0,k1,k2,k3,k4,k5,k6,k7,h3,h6,h9,w1,Wa]
 ·have hco:Co 8 (Ss.cost (.cond false true c (.block false a (.block false .nil .nil)) .nil)) xs i (qaC xs i2):=by
   obtain⟨q1,q2,q3⟩:=h1.2.2.2.2
   obtain⟨u1,u2,u3⟩:=h4.2.2.2.2
   show _/\_/\((3+c.cost+(4+a.cost+(0+(4+0+(0+0))))+0:Nat):Int)<=_
   rcases qas xs i with ⟨e1,l1⟩|⟨e1,l1⟩
   ·rcases qas xs i2 with ⟨e2,l2⟩|⟨e2,l2⟩<;>omega
   ·exact absurd (l1 10) (by omega)
  refine⟨.cond false true c (.block false a (.block false .nil .nil)) .nil,3,0,_,true,c.fo (.cons 7 0 ⟨#[]⟩ false a.fo (.cons 7 0 ⟨#[]⟩ false .nil .nil)),_,rfl,⟨⟨⟨h1.1,h1.2.1⟩,h4.1,trivial,trivial⟩,by simp only[Ss.dp]; omega,by simp only[Ss.edp]; omega,by rw[ed]; simp only[Ss.fo,qak,qck,qaS,ssz]; omega,hco⟩,r2,?_⟩
  refine qac (pf:=F162) rfl rfl ?_
  simp[F162,n1,n2,hd,h0,k0,k1,k2,k3,k4,k5,k6,k7,h3,h6,w1,Wa]
end
end
section
open Gr
def vOp(op n lo hi:Int):Prop:=(1<=op/\op<=21) /\
 if op=1 then -2147483647<=n/\n<=2147483647
 else if op=2\/op=3 then 0<=n/\n<=15
 else if op=4 then 0<=n/\n<=7
 else if op=5 then 0<=n/\n<=5
 else if op=18\/op=19 then lo<=n/\n<=hi
 else n=0
theorem qcs{op n lo hi lo' hi':Int}(h:vOp op n lo hi)(h1:lo'<=lo)(h2:hi<=hi'):vOp op n lo' hi':=by
 obtain⟨h0,h⟩:=h
 refine⟨h0,?_⟩
 split at h
 ·rw[if_pos (by assumption)]; exact h
 rw[if_neg (by assumption)]
 split at h
 ·rw[if_pos (by assumption)]; exact h
 rw[if_neg (by assumption)]
 split at h
 ·rw[if_pos (by assumption)]; exact h
 rw[if_neg (by assumption)]
 split at h
 ·rw[if_pos (by assumption)]; exact h
 rw[if_neg (by assumption)]
 split at h
 ·rw[if_pos (by assumption)]; omega
 rw[if_neg (by assumption)]; exact h
def qo7(op n q:Int):List Int:=if op=21 then [] else if op=18 then [n] else if op=19 then [q+1,n] else [q+1]
theorem qwU(c:Cd)(i:Nat):qgM c i=qo7 (opA c i) (nA c i) i:=rfl
structure Sg(C:Int->Cd)(n:Nat)(k:Int)(st:Bool)(h:Int)(D:Int->Nat->Int):Prop where
 ln:Ln C n
 beg : ∀ d,D d 0=d
 fin : ∀ d,D d n=d+k
 ok : ∀ p i,i<n->vOp (opA (C p) i) (nA (C p) i) p (p+n)
 pop : ∀ p d i,i<n->qfA (opA (C p) i)<=D d i-d
 flow : ∀ p d i,i<n -> ∀ j∈qo7 (opA (C p) i) (nA (C p) i) (p+i),p<=j/\j<=p+n/\D d (j-p).toNat=D d i+(qdX (opA (C p) i)-qfA (opA (C p) i))
 stp : ∀ p d i,i<n->opA (C p) i=21->st=true/\D d i=d
 hi : ∀ d i,i<=n->D d i<=d+h
def SgE(C:Int->Cd)(n:Nat)(k:Int)(st:Bool)(h:Int):Prop := ∃ D,Sg C n k st h D
theorem SgE.mono{C:Int->Cd}{n:Nat}{k h h':Int}{st:Bool}(g:SgE C n k st h)(e:h<=h'):SgE C n k st h':=by
 obtain⟨D,g⟩:=g
 exact⟨D,{ g with hi:=fun d i hi=>by have:=g.hi d i hi; omega }⟩
theorem qdQ{a b:Cd}{i:Nat}(h:i<a.length):opA (a++b) i=opA a i/\nA (a++b) i=nA a i:=by
 simp[opA,nA,Wz,List.getElem?_append,h]
theorem qb3{a b:Cd}{i:Nat}(h : ¬ i<a.length):opA (a++b) i=opA b (i-a.length)/\nA (a++b) i=nA b (i-a.length):=by
 simp[opA,nA,Wz,List.getElem?_append,h]
theorem qjV{op n:Int}(ho:op≠18/\op≠19/\op≠21)(hv:vOp op n 0 0)(hp:qfA op=0)(hk:1=qdX op):SgE (fun _=>[(op,n)]) 1 1 false 1:=by
 have hv' : ∀ p,vOp op n p (p+(1:Nat)):=fun p=>by
  obtain⟨h0,h⟩:=hv
  refine⟨h0,?_⟩
  have hj : ¬ (op=18\/op=19):=by omega
  rw[if_neg hj] at h ⊢
  exact h
 refine⟨fun d i=>if i=0 then d else d+1,⟨fun _=>rfl,fun d=>rfl,fun d=>rfl,?_,?_,?_,?_,fun d i _=>?_⟩⟩
 ·intro p i hi
  obtain rfl:i=0:=by omega
  exact hv' p
 ·intro p d i hi
  obtain rfl:i=0:=by omega
  show qfA op<=_
  simp[hp]
 ·intro p d i hi j hj
  obtain rfl:i=0:=by omega
  have e:qo7 (opA [(op,n)] 0) (nA [(op,n)] 0) (p+(0:Nat))=[p+1]:=by
   show qo7 op n _=_
   simp[qo7,ho]
  rw[e] at hj
  simp only[Wm] at hj
  subst hj
  refine⟨by omega,by omega,?_⟩
  have:(p+1-p).toNat=1:=by omega
  rw[this]
  show d+1=d+(qdX op-qfA op)
  omega
 ·intro p d i hi h
  obtain rfl:i=0:=by omega
  exact absurd h ho.2.2
 ·show (if i=0 then d else d+1)<=d+1
  split<;>omega
theorem qwV{h:Int}(h0:0<=h):SgE (fun _=>[(21,0)]) 1 0 true h:=by
 refine⟨fun d i=>d,⟨fun _=>rfl,fun d=>rfl,fun d=>by omega,?_,?_,?_,?_,fun d i _=>by omega⟩⟩
 ·intro p i hi
  obtain rfl:i=0:=by omega
  exact⟨⟨by show (1:Int)<=21; omega,by show (21:Int)<=21; omega⟩,rfl⟩
 ·intro p d i hi
  obtain rfl:i=0:=by omega
  show (0:Int)<=_
  omega
 ·intro p d i hi j hj
  obtain rfl:i=0:=by omega
  have e:qo7 (opA [((21:Int),(0:Int))] 0) (nA [((21:Int),(0:Int))] 0) (p+(0:Nat))=[]:=rfl
  rw[e] at hj; cases hj
 ·intro p d i hi h; exact⟨rfl,rfl⟩
theorem quw{h:Int}(h0:0<=h):SgE (fun _=>[]) 0 0 false h:=
 ⟨fun d i=>d,⟨fun _=>rfl,fun d=>rfl,fun d=>by omega,fun p i h=>by omega,fun p d i h=>by omega,fun p d i h=>by omega,fun p d i h=>by omega,fun d i _=>by omega⟩⟩
theorem qkO{A B:Int->Cd}{n m:Nat}{k l:Int}{s t:Bool}{h1 h2 h:Int}(ha:SgE A n k s h1)(hb:SgE B m l t h2)(hk:0<=k)(ht:t=true->k=0)(e1:h1<=h)(e2:k+h2<=h):SgE (sq A B) (n+m) (k+l) (s||t) h:=by
 obtain⟨DA,a⟩:=ha
 obtain⟨DB,b⟩:=hb
 have dat : ∀ d i,n<=i->(if i<n then DA d i else DB (d+k) (i-n))=DB (d+k) (i-n):=fun d i h=>if_neg (by omega)
 have dle : ∀ d i,i<=n->(if i<n then DA d i else DB (d+k) (i-n))=DA d i:=fun d i h=>by
  by_cases h':i<n
  ·rw[if_pos h']
  ·obtain rfl:i=n:=by omega
   rw[if_neg h',Nat.sub_self,b.beg,a.fin]
 have opl : ∀ p i,i<n->opA (sq A B p) i=opA (A p) i/\nA (sq A B p) i=nA (A p) i:=fun p i h=>qdQ (by rw[a.ln p]; exact h)
 have opr : ∀ p i,n<=i->opA (sq A B p) i=opA (B (p+n)) (i-n)/\nA (sq A B p) i=nA (B (p+n)) (i-n):=fun p i h=>by
  have:=qb3 (a:=A p) (b:=B (p+(A p).length)) (i:=i) (by rw[a.ln p]; omega)
  rw[a.ln p] at this
  exact⟨by rw[sq,a.ln p]; exact this.1,by rw[sq,a.ln p]; exact this.2⟩
 refine⟨fun d i=>if i<n then DA d i else DB (d+k) (i-n),⟨qbG a.ln b.ln,fun d=>?_,fun d=>?_,?_,?_,?_,?_,fun d i hi=>?_⟩⟩
 ·rw[dle d 0 (by omega),a.beg]
 ·rw[dat d _ (by omega),show n+m-n=m by omega,b.fin]; omega
 ·intro p i hi
  by_cases h:i<n
  ·rw[(opl p i h).1,(opl p i h).2]
   exact qcs (a.ok p i h) (by omega) (by omega)
  ·rw[(opr p i (by omega)).1,(opr p i (by omega)).2]
   exact qcs (b.ok (p+n) (i-n) (by omega)) (by omega) (by omega)
 ·intro p d i hi
  by_cases h:i<n
  ·rw[(opl p i h).1]
   show _<=(if i<n then DA d i else DB (d+k) (i-n))-d
   rw[dle d i (by omega)]; exact a.pop p d i h
  ·rw[(opr p i (by omega)).1]
   show _<=(if i<n then DA d i else DB (d+k) (i-n))-d
   rw[dat d i (by omega)]
   have:=b.pop (p+n) (d+k) (i-n) (by omega)
   omega
 ·intro p d i hi j hj
  show _/\_/\(if (j-p).toNat<n then DA d (j-p).toNat else DB (d+k) ((j-p).toNat-n))=(if i<n then DA d i else DB (d+k) (i-n))+_
  by_cases h:i<n
  ·rw[(opl p i h).1,(opl p i h).2] at hj
   rw[(opl p i h).1]
   obtain⟨q1,q2,q3⟩:=a.flow p d i h j hj
   rw[dle d i (by omega),dle d _ (by omega)]
   exact⟨q1,by omega,q3⟩
  ·rw[(opr p i (by omega)).1,(opr p i (by omega)).2,show p+(i:Int)=(p+n)+((i-n:Nat):Int) by omega] at hj
   rw[(opr p i (by omega)).1]
   obtain⟨q1,q2,q3⟩:=b.flow (p+n) (d+k) (i-n) (by omega) j hj
   rw[dat d i (by omega),dat d _ (by omega),show (j-p).toNat-n=(j-(p+n)).toNat by omega]
   exact⟨by omega,by omega,q3⟩
 ·intro p d i hi h
  show _/\(if i<n then DA d i else DB (d+k) (i-n))=d
  by_cases h':i<n
  ·rw[(opl p i h').1] at h
   obtain⟨q1,q2⟩:=a.stp p d i h' h
   rw[dle d i (by omega)]; exact⟨by rw[q1]; rfl,q2⟩
  ·rw[(opr p i (by omega)).1] at h
   obtain⟨q1,q2⟩:=b.stp (p+n) (d+k) (i-n) (by omega) h
   rw[dat d i (by omega),q2,ht q1]
   exact⟨by rw[q1]; simp,by omega⟩
 ·show (if i<n then DA d i else DB (d+k) (i-n))<=d+h
  by_cases h':i<n
  ·rw[if_pos h']; have:=a.hi d i (by omega); omega
  ·rw[if_neg h']; have:=b.hi (d+k) (i-n) (by omega); omega
theorem qmS{A:Int->Cd}{n:Nat}{k l op x h0 h:Int}{s:Bool}(ha:SgE A n k s h0)(hs:s=false)(hk:0<=k)(ho:op≠18/\op≠19/\op≠21)(hv:vOp op x 0 0)(hp:qfA op<=k)(hl:l=k+qdX op-qfA op)(e1:h0<=h)(e2:l<=h):SgE (snC A (op,x)) (n+1) l false h:=by
 obtain⟨D,a⟩:=ha
 have hv' : ∀ p q,vOp op x p q:=fun p q=>by
  obtain⟨h0,h⟩:=hv
  refine⟨h0,?_⟩
  have hj : ¬ (op=18\/op=19):=by omega
  rw[if_neg hj] at h ⊢
  exact h
 have opl : ∀ p i,i<n->opA (snC A (op,x) p) i=opA (A p) i/\nA (snC A (op,x) p) i=nA (A p) i:=fun p i h=>qdQ (by rw[a.ln p]; exact h)
 have opr : ∀ p,opA (snC A (op,x) p) n=op/\nA (snC A (op,x) p) n=x:=fun p=>by
  have:=qb3 (a:=A p) (b:=[(op,x)]) (i:=n) (by rw[a.ln p]; omega)
  rw[a.ln p,Nat.sub_self] at this
  exact this
 have dle : ∀ d i,i<=n->(if i<=n then D d i else d+l)=D d i:=fun d i h=>if_pos h
 refine⟨fun d i=>if i<=n then D d i else d+l,⟨qb8 a.ln,fun d=>?_,fun d=>if_neg (by omega),?_,?_,?_,?_,fun d i hi=>?_⟩⟩
 ·rw[dle d 0 (by omega),a.beg]
 ·intro p i hi
  by_cases h:i<n
  ·rw[(opl p i h).1,(opl p i h).2]
   exact qcs (a.ok p i h) (by omega) (by omega)
  ·obtain rfl:i=n:=by omega
   rw[(opr p).1,(opr p).2]; exact hv' _ _
 ·intro p d i hi
  show _<=(if i<=n then D d i else d+l)-d
  rw[dle d i (by omega)]
  by_cases h:i<n
  ·rw[(opl p i h).1]; exact a.pop p d i h
  ·obtain rfl:i=n:=by omega
   rw[(opr p).1,a.fin]; omega
 ·intro p d i hi j hj
  show _/\_/\(if (j-p).toNat<=n then D d (j-p).toNat else d+l)=(if i<=n then D d i else d+l)+_
  rw[dle d i (by omega)]
  by_cases h:i<n
  ·rw[(opl p i h).1,(opl p i h).2] at hj
   rw[(opl p i h).1]
   obtain⟨q1,q2,q3⟩:=a.flow p d i h j hj
   rw[dle d _ (by omega)]
   exact⟨q1,by omega,q3⟩
  ·obtain rfl:i=n:=by omega
   rw[(opr p).1,(opr p).2] at hj
   rw[(opr p).1]
   have e:qo7 op x (p+i)=[p+i+1]:=by simp[qo7,ho]
   rw[e] at hj
   simp only[Wm] at hj
   subst hj
   rw[if_neg (by omega),a.fin]
   exact⟨by omega,by omega,by omega⟩
 ·intro p d i hi h
  by_cases h':i<n
  ·rw[(opl p i h').1] at h
   have:=(a.stp p d i h' h).1
   rw[hs] at this; cases this
  ·obtain rfl:i=n:=by omega
   rw[(opr p).1] at h
   exact absurd h ho.2.2
 ·show (if i<=n then D d i else d+l)<=d+h
  by_cases h':i<=n
  ·rw[if_pos h']; have:=a.hi d i h'; omega
  ·rw[if_neg h']; omega
end
section
open Gr
theorem pop19:qfA 19=1/\qdX 19=0/\qfA 18=0/\qdX 18=0:=by decide
theorem qvZ{C A B:Int->Cd}{n m q:Nat}{k h:Int}{s t:Bool}(hC:SgE C n 1 false h)(hA:SgE A m k s h)(hB:SgE B q k t h)(hk:0<=k):SgE (brC C A B) (n+m+q+2) k (s||t) h:=by
 obtain⟨DC,c⟩:=hC
 obtain⟨DA,a⟩:=hA
 obtain⟨DB,b⟩:=hB
 have eq : ∀ p,brC C A B p=C p++((19,p+n+1+m+1)::(A (p+n+1)++((18,p+n+1+m+1+q)::B (p+n+1+m+1)))):=fun p=>by
  simp only[brC,c.ln p,a.ln _,b.ln _]
 have o1 : ∀ p i,i<n->opA (brC C A B p) i=opA (C p) i/\nA (brC C A B p) i=nA (C p) i:=fun p i h=>by
  rw[eq]; exact qdQ (by rw[c.ln p]; exact h)
 have o2 : ∀ p,opA (brC C A B p) n=19/\nA (brC C A B p) n=p+n+1+m+1:=fun p=>by
  rw[eq]
  have:=qb3 (a:=C p) (b:=(19,p+n+1+m+1)::(A (p+n+1)++((18,p+n+1+m+1+q)::B (p+n+1+m+1)))) (i:=n) (by rw[c.ln p]; omega)
  rw[c.ln p,Nat.sub_self] at this
  exact this
 have o3 : ∀ p i,i<m->opA (brC C A B p) (n+1+i)=opA (A (p+n+1)) i/\nA (brC C A B p) (n+1+i)=nA (A (p+n+1)) i:=fun p i h=>by
  rw[eq]
  have:=qb3 (a:=C p++[(19,p+n+1+m+1)]) (b:=A (p+n+1)++((18,p+n+1+m+1+q)::B (p+n+1+m+1))) (i:=n+1+i) (by simp[c.ln p]<;>omega)
  simp only[Wf,Wg,Wc,Wb,c.ln p,We,Wk] at this
  rw[show n+1+i-(n+(0+1))=i by omega] at this
  have l:=qdQ (a:=A (p+n+1)) (b:=(18,p+n+1+m+1+q)::B (p+n+1+m+1)) (i:=i) (by rw[a.ln _]; exact h)
  exact⟨this.1.trans l.1,this.2.trans l.2⟩
 have o4 : ∀ p,opA (brC C A B p) (n+1+m)=18/\nA (brC C A B p) (n+1+m)=p+n+1+m+1+q:=fun p=>by
  rw[eq]
  have:=qb3 (a:=C p++((19,p+n+1+m+1)::A (p+n+1))) (b:=(18,p+n+1+m+1+q)::B (p+n+1+m+1)) (i:=n+1+m) (by simp[c.ln p,a.ln _]<;>omega)
  simp only[Wf,Wg,Wb,c.ln p,a.ln _,We] at this
  rw[show n+1+m-(n+(m+1))=0 by omega] at this
  exact this
 have o5 : ∀ p i,i<q->opA (brC C A B p) (n+1+m+1+i)=opA (B (p+n+1+m+1)) i/\nA (brC C A B p) (n+1+m+1+i)=nA (B (p+n+1+m+1)) i:=fun p i h=>by
  rw[eq]
  have:=qb3 (a:=C p++((19,p+n+1+m+1)::(A (p+n+1)++[(18,p+n+1+m+1+q)]))) (b:=B (p+n+1+m+1)) (i:=n+1+m+1+i) (by simp[c.ln p,a.ln _]<;>omega)
  simp only[Wf,Wg,Wc,Wb,c.ln p,a.ln _,We,Wk] at this
  rw[show n+1+m+1+i-(n+(m+(0+1)+1))=i by omega] at this
  exact this
 let D:Int->Nat->Int:=fun d i=>if i<=n then DC d i else if i<=n+1+m then DA d (i-n-1) else DB d (i-n-m-2)
 have d1 : ∀ d i,i<=n->D d i=DC d i:=fun d i h=>if_pos h
 have d3 : ∀ d i,i<=m->D d (n+1+i)=DA d i:=fun d i h=>by
  show (if _ then _ else if _ then _ else _)=_
  rw[if_neg (by omega),if_pos (by omega)]; congr 1; omega
 have d5 : ∀ d i,D d (n+1+m+1+i)=DB d i:=fun d i=>by
  show (if _ then _ else if _ then _ else _)=_
  rw[if_neg (by omega),if_neg (by omega)]; congr 1; omega
 have pos : ∀ i,i<n+m+q+2->i<n\/i=n\/(∃ j,j<m/\i=n+1+j)\/i=n+1+m \/ ∃ j,j<q/\i=n+1+m+1+j:=fun i hi=>by
  by_cases h1:i<n
  ·exact .inl h1
  by_cases h2:i=n
  ·exact .inr (.inl h2)
  by_cases h3:i<n+1+m
  ·exact .inr (.inr (.inl ⟨i-n-1,by omega,by omega⟩))
  by_cases h4:i=n+1+m
  ·exact .inr (.inr (.inr (.inl h4)))
  ·exact .inr (.inr (.inr (.inr ⟨i-n-m-2,by omega,by omega⟩)))
 refine⟨D,⟨qmO c.ln a.ln b.ln,fun d=>?_,fun d=>?_,?_,?_,?_,?_,fun d i hi=>?_⟩⟩
 ·rw[d1 d 0 (by omega),c.beg]
 ·rw[show n+m+q+2=n+1+m+1+q by omega,d5,b.fin]
 ·intro p i hi
  rcases pos i hi with h|rfl|⟨j,hj,rfl⟩|rfl|⟨j,hj,rfl⟩
  ·rw[(o1 p i h).1,(o1 p i h).2]; exact qcs (c.ok p i h) (by omega) (by omega)
  ·rw[(o2 p).1,(o2 p).2]; exact⟨by omega,by rw[if_neg (by omega),if_neg (by omega),if_neg (by omega),if_neg (by omega),if_pos (by omega)]; omega⟩
  ·rw[(o3 p j hj).1,(o3 p j hj).2]; exact qcs (a.ok _ j hj) (by omega) (by omega)
  ·rw[(o4 p).1,(o4 p).2]; exact⟨by omega,by rw[if_neg (by omega),if_neg (by omega),if_neg (by omega),if_neg (by omega),if_pos (by omega)]; omega⟩
  ·rw[(o5 p j hj).1,(o5 p j hj).2]; exact qcs (b.ok _ j hj) (by omega) (by omega)
 ·intro p d i hi
  rcases pos i hi with h|rfl|⟨j,hj,rfl⟩|rfl|⟨j,hj,rfl⟩
  ·rw[(o1 p i h).1,d1 d i (by omega)]; exact c.pop p d i h
  ·rw[(o2 p).1,d1 d i (by omega),c.fin,pop19.1]; omega
  ·rw[(o3 p j hj).1,d3 d j (by omega)]; exact a.pop _ d j hj
  ·rw[(o4 p).1,d3 d m (by omega),a.fin,pop19.2.2.1]; omega
  ·rw[(o5 p j hj).1,d5]; exact b.pop _ d j hj
 ·intro p d i hi j hj
  rcases pos i hi with h|rfl|⟨r,hr,rfl⟩|rfl|⟨r,hr,rfl⟩
  ·rw[(o1 p i h).1,(o1 p i h).2] at hj
   rw[(o1 p i h).1,d1 d i (by omega)]
   obtain⟨q1,q2,q3⟩:=c.flow p d i h j hj
   rw[d1 d _ (by omega)]
   exact⟨q1,by omega,q3⟩
  ·rw[(o2 p).1,(o2 p).2] at hj
   have e:qo7 19 (p+i+1+m+1) (p+i)=[p+i+1,p+i+1+m+1]:=rfl
   rw[e] at hj
   rw[(o2 p).1,d1 d i (by omega),c.fin,pop19.1,pop19.2.1]
   simp only[Wo,Wx,or_false] at hj
   rcases hj with rfl|rfl
   ·rw[show (p+i+1-p).toNat=i+1+0 by omega,d3 d 0 (by omega),a.beg]
    exact⟨by omega,by omega,by omega⟩
   ·rw[show (p+i+1+m+1-p).toNat=i+1+m+1+0 by omega,d5,b.beg]
    exact⟨by omega,by omega,by omega⟩
  ·rw[(o3 p r hr).1,(o3 p r hr).2,show p+((n+1+r:Nat):Int)=(p+n+1)+r by omega] at hj
   rw[(o3 p r hr).1,d3 d r (by omega)]
   obtain⟨q1,q2,q3⟩:=a.flow (p+n+1) d r hr j hj
   rw[show (j-p).toNat=n+1+(j-(p+n+1)).toNat by omega,d3 d _ (by omega)]
   exact⟨by omega,by omega,q3⟩
  ·rw[(o4 p).1,(o4 p).2] at hj
   have e : ∀ x y,qo7 18 x y=[x]:=fun _ _=>rfl
   rw[e] at hj
   rw[(o4 p).1,d3 d m (by omega),a.fin,pop19.2.2.1,pop19.2.2.2]
   simp only[Wm] at hj
   subst hj
   rw[show (p+n+1+m+1+q-p).toNat=n+1+m+1+q by omega,d5,b.fin]
   exact⟨by omega,by omega,by omega⟩
  ·rw[(o5 p r hr).1,(o5 p r hr).2,show p+((n+1+m+1+r:Nat):Int)=(p+n+1+m+1)+r by omega] at hj
   rw[(o5 p r hr).1,d5]
   obtain⟨q1,q2,q3⟩:=b.flow (p+n+1+m+1) d r hr j hj
   rw[show (j-p).toNat=n+1+m+1+(j-(p+n+1+m+1)).toNat by omega,d5]
   exact⟨by omega,by omega,q3⟩
 ·intro p d i hi h
  rcases pos i hi with h'|rfl|⟨j,hj,rfl⟩|rfl|⟨j,hj,rfl⟩
  ·rw[(o1 p i h').1] at h
   have:=(c.stp p d i h' h).1
   cases this
  ·rw[(o2 p).1] at h; omega
  ·rw[(o3 p j hj).1] at h
   obtain⟨q1,q2⟩:=a.stp _ d j hj h
   rw[d3 d j (by omega)]
   exact⟨by rw[q1]; rfl,q2⟩
  ·rw[(o4 p).1] at h; omega
  ·rw[(o5 p j hj).1] at h
   obtain⟨q1,q2⟩:=b.stp _ d j hj h
   rw[d5]
   exact⟨by rw[q1]; simp,q2⟩
 ·show (if i<=n then DC d i else if i<=n+1+m then DA d (i-n-1) else DB d (i-n-m-2))<=d+h
  split
  ·exact c.hi d i (by omega)
  ·split
   ·exact a.hi d _ (by omega)
   ·exact b.hi d _ (by omega)
theorem qBF{C A:Int->Cd}{n m:Nat}{h:Int}{s:Bool}(hC:SgE C n 1 false h)(hA:SgE A m 0 s h):SgE (whC C A) (n+m+2) 0 s h:=by
 obtain⟨DC,c⟩:=hC
 obtain⟨DA,a⟩:=hA
 have eq : ∀ p,whC C A p=C p++((19,p+n+1+m+1)::(A (p+n+1)++[(18,p)])):=fun p=>by
  simp only[whC,c.ln p,a.ln _]
 have o1 : ∀ p i,i<n->opA (whC C A p) i=opA (C p) i/\nA (whC C A p) i=nA (C p) i:=fun p i h=>by
  rw[eq]; exact qdQ (by rw[c.ln p]; exact h)
 have o2 : ∀ p,opA (whC C A p) n=19/\nA (whC C A p) n=p+n+1+m+1:=fun p=>by
  rw[eq]
  have:=qb3 (a:=C p) (b:=(19,p+n+1+m+1)::(A (p+n+1)++[(18,p)])) (i:=n) (by rw[c.ln p]; omega)
  rw[c.ln p,Nat.sub_self] at this
  exact this
 have o3 : ∀ p i,i<m->opA (whC C A p) (n+1+i)=opA (A (p+n+1)) i/\nA (whC C A p) (n+1+i)=nA (A (p+n+1)) i:=fun p i h=>by
  rw[eq]
  have:=qb3 (a:=C p++[(19,p+n+1+m+1)]) (b:=A (p+n+1)++[(18,p)]) (i:=n+1+i) (by simp[c.ln p]<;>omega)
  simp only[Wf,Wg,Wc,Wb,c.ln p,We,Wk] at this
  rw[show n+1+i-(n+(0+1))=i by omega] at this
  have l:=qdQ (a:=A (p+n+1)) (b:=[(18,p)]) (i:=i) (by rw[a.ln _]; exact h)
  exact⟨this.1.trans l.1,this.2.trans l.2⟩
 have o4 : ∀ p,opA (whC C A p) (n+1+m)=18/\nA (whC C A p) (n+1+m)=p:=fun p=>by
  rw[eq]
  have:=qb3 (a:=C p++((19,p+n+1+m+1)::A (p+n+1))) (b:=[(18,p)]) (i:=n+1+m) (by simp[c.ln p,a.ln _]<;>omega)
  simp only[Wf,Wg,Wb,c.ln p,a.ln _,We] at this
  rw[show n+1+m-(n+(m+1))=0 by omega] at this
  exact this
 let D:Int->Nat->Int:=fun d i=>if i<=n then DC d i else if i<=n+1+m then DA d (i-n-1) else d
 have d1 : ∀ d i,i<=n->D d i=DC d i:=fun d i h=>if_pos h
 have d3 : ∀ d i,i<=m->D d (n+1+i)=DA d i:=fun d i h=>by
  show (if _ then _ else if _ then _ else _)=_
  rw[if_neg (by omega),if_pos (by omega)]; congr 1; omega
 have d5 : ∀ d,D d (n+1+m+1)=d:=fun d=>by
  show (if _ then _ else if _ then _ else _)=_
  rw[if_neg (by omega),if_neg (by omega)]
 have pos : ∀ i,i<n+m+2->i<n\/i=n\/(∃ j,j<m/\i=n+1+j)\/i=n+1+m:=fun i hi=>by
  by_cases h1:i<n
  ·exact .inl h1
  by_cases h2:i=n
  ·exact .inr (.inl h2)
  by_cases h3:i<n+1+m
  ·exact .inr (.inr (.inl ⟨i-n-1,by omega,by omega⟩))
  ·exact .inr (.inr (.inr (by omega)))
 refine⟨D,⟨qwz c.ln a.ln,fun d=>?_,fun d=>?_,?_,?_,?_,?_,fun d i hi=>?_⟩⟩
 ·rw[d1 d 0 (by omega),c.beg]
 ·rw[show n+m+2=n+1+m+1 by omega,d5]; omega
 ·intro p i hi
  rcases pos i hi with h|rfl|⟨j,hj,rfl⟩|rfl
  ·rw[(o1 p i h).1,(o1 p i h).2]; exact qcs (c.ok p i h) (by omega) (by omega)
  ·rw[(o2 p).1,(o2 p).2]; exact⟨by omega,by rw[if_neg (by omega),if_neg (by omega),if_neg (by omega),if_neg (by omega),if_pos (by omega)]; omega⟩
  ·rw[(o3 p j hj).1,(o3 p j hj).2]; exact qcs (a.ok _ j hj) (by omega) (by omega)
  ·rw[(o4 p).1,(o4 p).2]; exact⟨by omega,by rw[if_neg (by omega),if_neg (by omega),if_neg (by omega),if_neg (by omega),if_pos (by omega)]; omega⟩
 ·intro p d i hi
  rcases pos i hi with h|rfl|⟨j,hj,rfl⟩|rfl
  ·rw[(o1 p i h).1,d1 d i (by omega)]; exact c.pop p d i h
  ·rw[(o2 p).1,d1 d i (by omega),c.fin,pop19.1]; omega
  ·rw[(o3 p j hj).1,d3 d j (by omega)]; exact a.pop _ d j hj
  ·rw[(o4 p).1,d3 d m (by omega),a.fin,pop19.2.2.1]; omega
 ·intro p d i hi j hj
  rcases pos i hi with h|rfl|⟨r,hr,rfl⟩|rfl
  ·rw[(o1 p i h).1,(o1 p i h).2] at hj
   rw[(o1 p i h).1,d1 d i (by omega)]
   obtain⟨q1,q2,q3⟩:=c.flow p d i h j hj
   rw[d1 d _ (by omega)]
   exact⟨q1,by omega,q3⟩
  ·rw[(o2 p).1,(o2 p).2] at hj
   have e:qo7 19 (p+i+1+m+1) (p+i)=[p+i+1,p+i+1+m+1]:=rfl
   rw[e] at hj
   rw[(o2 p).1,d1 d i (by omega),c.fin,pop19.1,pop19.2.1]
   simp only[Wo,Wx,or_false] at hj
   rcases hj with rfl|rfl
   ·rw[show (p+i+1-p).toNat=i+1+0 by omega,d3 d 0 (by omega),a.beg]
    exact⟨by omega,by omega,by omega⟩
   ·rw[show (p+i+1+m+1-p).toNat=i+1+m+1 by omega,d5]
    exact⟨by omega,by omega,by omega⟩
  ·rw[(o3 p r hr).1,(o3 p r hr).2,show p+((n+1+r:Nat):Int)=(p+n+1)+r by omega] at hj
   rw[(o3 p r hr).1,d3 d r (by omega)]
   obtain⟨q1,q2,q3⟩:=a.flow (p+n+1) d r hr j hj
   rw[show (j-p).toNat=n+1+(j-(p+n+1)).toNat by omega,d3 d _ (by omega)]
   exact⟨by omega,by omega,q3⟩
  ·rw[(o4 p).1,(o4 p).2] at hj
   have e : ∀ x y,qo7 18 x y=[x]:=fun _ _=>rfl
   rw[e] at hj
   rw[(o4 p).1,d3 d m (by omega),a.fin,pop19.2.2.1,pop19.2.2.2]
   simp only[Wm] at hj
   subst hj
   rw[show (j-j).toNat=0 by omega,d1 d 0 (by omega),c.beg]
   exact⟨by omega,by omega,by omega⟩
 ·intro p d i hi h
  rcases pos i hi with h'|rfl|⟨j,hj,rfl⟩|rfl
  ·rw[(o1 p i h').1] at h
   have:=(c.stp p d i h' h).1
   cases this
  ·rw[(o2 p).1] at h; omega
  ·rw[(o3 p j hj).1] at h
   obtain⟨q1,q2⟩:=a.stp _ d j hj h
   rw[d3 d j (by omega)]
   exact⟨q1,q2⟩
  ·rw[(o4 p).1] at h; omega
 ·have h0:=c.hi d 0 (by omega)
  rw[c.beg] at h0
  show (if i<=n then DC d i else if i<=n+1+m then DA d (i-n-1) else d)<=d+h
  split
  ·exact c.hi d i (by omega)
  ·split
   ·exact a.hi d _ (by omega)
   ·exact h0
def E.inV(vs:List ByteArray):E->Prop
 |.var s=>s∈vs
 |.field _ _ e=>e.inV vs
 |.un _ _ e=>e.inV vs
 |.bin _ _ a b=>a.inV vs/\b.inV vs
 |_=>True
def Ss.inV(vs:List ByteArray):Ss->Prop
 |.nil=>True
 |.assign _ s e r=>(s∈vs/\e.inV vs)/\r.inV vs
 |.store _ _ a b r=>(a.inV vs/\b.inV vs)/\r.inV vs
 |.effect _ a b r=>(a.inV vs/\b.inV vs)/\r.inV vs
 |.stop r=>r.inV vs
 |.cond _ _ c b r=>c.inV vs/\b.inV vs/\r.inV vs
 |.block _ b r=>b.inV vs/\r.inV vs
theorem qmD{vs:List ByteArray}{s:ByteArray}(h:s∈vs):0<=ixI vs s/\ixI vs s<vs.length:=by
 induction vs with
 |nil=>cases h
 |cons x l ih=>
  simp only[ixI,We]
  split
  ·omega
  ·rename_i hx
   have:=ih ((Wo.1 h).resolve_left fun e=>hx e.symm)
   rw[if_neg (by omega)]
   omega
theorem qlC{s:ByteArray}(h:s∈qf4):0<=fieldI s/\fieldI s<=5:=by
 simp only[qf4,Wo,Wx,or_false] at h
 rcases h with rfl|rfl|rfl|rfl|rfl|rfl<;>decide
theorem qlD{s:ByteArray}(h:s∈qdG):0<=fieldI s/\fieldI s<=7:=by
 simp only[qdG,qf4,Wg,Wc,Wo,Wx,or_false] at h
 rcases h with rfl|rfl|rfl|rfl|rfl|rfl|rfl|rfl<;>decide
theorem qqn(s:ByteArray):nameI s=6\/nameI s=7\/nameI s=8:=by unfold nameI; split<;>(try split)<;>simp
def E.hh:E->Int
 |.field _ _ e=>e.hh
 |.un _ _ e=>e.hh
 |.bin _ _ a b=>max a.hh b.hh+1
 |_=>1
theorem E.hh_pos(e:E):1<=e.hh:=by induction e<;>simp only[E.hh]<;>omega
def Ss.hh:Ss->Int
 |.nil=>0
 |.assign _ _ e r=>max e.hh r.hh
 |.store _ _ a b r=>max (max a.hh (b.hh+1)) r.hh
 |.effect _ a b r=>max (max a.hh (b.hh+1)) r.hh
 |.stop r=>r.hh
 |.cond _ _ c b r=>max (max c.hh b.hh) r.hh
 |.block _ b r=>max b.hh r.hh
section
variable{vs:List ByteArray}(hv:vs.length<=16)
theorem qoV{op:Int}(h:6<=op/\op<=21/\op≠18/\op≠19)(lo hi:Int):vOp op 0 lo hi:=
 ⟨by omega,by rw[if_neg (by omega),if_neg (by omega),if_neg (by omega),if_neg (by omega),if_neg (by omega)]⟩
theorem qsM{A B:Int->Cd}{n m:Nat}{op h:Int}(hA:SgE A n 1 false h)(hB:SgE B m 1 false h)(ho:6<=op/\op<=21/\op≠18/\op≠19/\op≠21)(h2:qfA op=2)(h1:qdX op=1)(h0:0<=h):SgE (snC (sq A B) (op,0)) (n+m+1) 1 false (h+1):=
 qmS (qkO (h:=h+1) hA hB (by omega) (fun h=>by cases h) (by omega) (by omega)) rfl (by omega) ⟨by omega,by omega,by omega⟩ (qoV ⟨by omega,by omega,by omega,by omega⟩ 0 0) (by omega) (by omega) (by omega) (by omega)
theorem qzc{o:Bop}{A B:Int->Cd}{n m:Nat}{h:Int}(h0:0<=h)(hA:SgE A n 1 false h)(hB:SgE B m 1 false h) : ∃ k,SgE (binC o A B) k 1 false (h+1):=by
 cases o
 case and=>exact⟨_,qvZ (hA.mono (by omega)) (hB.mono (by omega)) ((qjV (by omega) ⟨by omega,by decide⟩ (by decide) (by decide)).mono (by omega)) (by omega)⟩
 case or=>exact⟨_,qvZ (hA.mono (by omega)) ((qjV (by omega) ⟨by omega,by decide⟩ (by decide) (by decide)).mono (by omega)) (hB.mono (by omega)) (by omega)⟩
 case gt=>exact⟨_,qsM hB hA (by omega) (by decide) (by decide) h0⟩
 case ge=>exact⟨_,qsM hB hA (by omega) (by decide) (by decide) h0⟩
 case ne=>exact⟨_,qmS (qsM hA hB (op:=16) (by omega) (by decide) (by decide) h0) rfl (by omega) (by omega) (qoV (by omega) 0 0) (by decide) (by decide) (by omega) (by omega)⟩
 all_goals exact⟨_,qsM hA hB (by decide) (by decide) (by decide) h0⟩
theorem qzd{A:Int->Cd}{n:Nat}{op x h:Int}(hA:SgE A n 2 false h)(hv:vOp op x 0 0)(ho:op≠18/\op≠19/\op≠21)(h2:qfA op=2)(h1:qdX op=0)(h0:0<=h):SgE (snC A (op,x)) (n+1) 0 false h:=
 qmS hA rfl (by omega) ho hv (by omega) (by omega) (by omega) h0
include hv
theorem qpE : ∀ e:E,e.fine->e.inV vs -> ∃ n,SgE (qcY vs e) n 1 false e.hh
 |.int n,h,_=>⟨1,qjV (by omega) ⟨by omega,by rw[if_pos rfl]; have:=h; simp only[E.fine] at this; omega⟩ (by decide) (by decide)⟩
 |.bool n,h,_=>⟨1,qjV (by omega) ⟨by omega,by rw[if_pos rfl]; have:=h; simp only[E.fine] at this; omega⟩ (by decide) (by decide)⟩
 |.var s,_,h=>⟨1,qjV (by omega) ⟨by omega,by rw[if_neg (by omega),if_pos (by omega)]; have:=qmD h; omega⟩ (by decide) (by decide)⟩
 |.name s,_,_=>by
  rcases qqn s with e|e|e<;>exact⟨1,by rw[qcY,e]; exact qjV (by omega) (qoV (by omega) 0 0) (by decide) (by decide)⟩
 |.field _ s e,h,g=>let ⟨_,k⟩:=qpE e h.2.1 g; ⟨_,qmS k rfl (by omega) (by omega) ⟨by omega,by rw[if_neg (by omega),if_neg (by omega),if_pos rfl]; exact qlD h.1⟩ (by decide) (by decide) (Int.le_refl _) e.hh_pos⟩
 |.un _ true e,h,g=>let ⟨_,k⟩:=qpE e h.1 g; ⟨_,qmS k rfl (by omega) (by decide) (qoV (by decide) 0 0) (by decide) (by decide) (Int.le_refl _) e.hh_pos⟩
 |.un _ false e,h,g=>let ⟨_,k⟩:=qpE e h.1 g; ⟨_,qmS k rfl (by omega) (by decide) (qoV (by decide) 0 0) (by decide) (by decide) (Int.le_refl _) e.hh_pos⟩
 |.bin _ o a b,h,g=>let ⟨_,k⟩:=qpE a h.1 g.1; let ⟨_,k'⟩:=qpE b h.2.1 g.2; qzc (by have:=a.hh_pos; omega) (k.mono (Int.le_max_left ..)) (k'.mono (Int.le_max_right ..))
theorem qCY{q:Int}(q0:0<=q)(b:Ss)(hf:b.fine)(hi:b.inV vs)(he:b.hh<=q) : ∃ n s,SgE (codeS vs b) n 0 s q:=by
 fun_induction codeS vs b with
 |case1=>exact⟨_,_,quw q0⟩
 |case2 _ s e r ih=>
  simp only[Ss.hh] at he
  obtain⟨n,h⟩:=qpE hv e hf.1.2.1 hi.1.2
  obtain⟨m,t,g⟩:=ih hf.2 hi.2 (by omega)
  exact⟨_,_,qkO (k:=0) (qmS h rfl (by omega) (by omega) ⟨by omega,by rw[if_neg (by omega),if_pos (by omega)]; have:=qmD hi.1.1; omega⟩ (by decide) (by decide) (show _<=q by omega) q0) g (by omega) (fun _=>rfl) (Int.le_refl _) (by omega)⟩
 |case3 _ s a b r ih=>
  simp only[Ss.hh] at he
  obtain⟨n,h⟩:=qpE hv a hf.1.2.1 hi.1.1
  obtain⟨n',h'⟩:=qpE hv b hf.1.2.2.2.1 hi.1.2
  obtain⟨m,t,g⟩:=ih hf.2 hi.2 (by omega)
  exact⟨_,_,qkO (k:=0) (qzd (qkO (h:=q) h h' (by omega) (fun h=>by cases h) (by omega) (by omega)) ⟨by omega,by rw[if_neg (by omega),if_neg (by omega),if_neg (by omega),if_pos rfl]; exact qlC hf.1.1⟩ (by omega) (by decide) (by decide) q0) g (by omega) (fun _=>rfl) (Int.le_refl _) (by omega)⟩
 |case4 _ a b r ih=>
  simp only[Ss.hh] at he
  obtain⟨n,h⟩:=qpE hv a hf.1.1 hi.1.1
  obtain⟨n',h'⟩:=qpE hv b hf.1.2.2.1 hi.1.2
  obtain⟨m,t,g⟩:=ih hf.2 hi.2 (by omega)
  exact⟨_,_,qkO (k:=0) (qzd (qkO (h:=q) h h' (by omega) (fun h=>by cases h) (by omega) (by omega)) (qoV (by omega) 0 0) (by omega) (by decide) (by decide) q0) g (by omega) (fun _=>rfl) (Int.le_refl _) (by omega)⟩
 |case5 r ih=>
  simp only[Ss.hh] at he
  obtain⟨m,t,g⟩:=ih hf hi he
  exact⟨_,_,qkO (qwV q0) g (by omega) (fun _=>rfl) (Int.le_refl _) (by omega)⟩
 |case6 _ c _ x _ y r ih1 ih2 ih3=>
  simp only[Ss.hh] at he
  obtain⟨n,h⟩:=qpE hv c hf.1.1 hi.1
  obtain⟨m1,t1,g1⟩:=ih1 hf.2.1 hi.2.1.1 (by omega)
  obtain⟨m2,t2,g2⟩:=ih2 hf.2.2.1 hi.2.1.2.1 (by omega)
  obtain⟨m3,t3,g3⟩:=ih3 hf.2.2.2 hi.2.2 (by omega)
  exact⟨_,_,qkO (qvZ (h.mono (by omega)) g1 g2 (by omega)) g3 (by omega) (fun _=>rfl) (Int.le_refl _) (by omega)⟩
 |case7 _ c _ x r ih1 ih2=>
  simp only[Ss.hh] at he
  obtain⟨n,h⟩:=qpE hv c hf.1.1 hi.1
  obtain⟨m1,t1,g1⟩:=ih1 hf.2.1 hi.2.1.1 (by omega)
  obtain⟨m2,t2,g2⟩:=ih2 hf.2.2 hi.2.2 (by omega)
  exact⟨_,_,qkO (qBF (h.mono (by omega)) g1) g2 (by omega) (fun _=>rfl) (Int.le_refl _) (by omega)⟩
 |case8=>exact⟨_,_,quw q0⟩
end
end
end Go.Pm
section
namespace Go.Pm.Gr
theorem qnA {c:Cd} {e i:Nat} : ∀ (l pre:List Int) (a:An) (d:Int),Inv c e (some i) pre a->d=aft c i (gD a.ds i-1)->(∀ j∈l,j∈qgM c i/\0<=j/\j<=c.length) ->
  Inv c e (some i) (pre++l) (l.foldl (one c.length d) a)/\gD (l.foldl (one c.length d) a).ds i=gD a.ds i
 |[],pre,a,d,h,_,_=>by simpa using h
 |j::l,pre,a,d,h,hd,hl=>by
  obtain⟨h1,h2⟩:=qvn h (hl j (by simp)).1 (hl j (by simp)).2
  rw[<- hd] at h1 h2
  have:=qnA l (pre++[j]) (one c.length d a j) d h1 (by rw[h2]; exact hd) (fun x hx=>hl x (by simp[hx]))
  rw[h2] at this
  simpa using this
theorem qvW{c:Cd}{e i:Nat}{r:List Nat}{a:An}(hf:qxU c)(h:Inv c e none [] a)(ho:a.op=r++[i]):Inv c e none [] (stp c a i r):=by
 have hnd:=h.nodup
 rw[ho,List.nodup_append] at hnd
 have hir:i∉r:=fun hh=>hnd.2.2 i hh i (by simp) rfl
 have hio:i∈a.op:=by rw[ho]; simp
 obtain⟨hil,hi0⟩:=h.opn i hio
 obtain⟨hp1,hp2⟩:=h.pos i hil hi0
 have back : ∀ k,k∉r->k=i\/k∉a.op:=fun k hk=>by
  by_cases hki:k=i
  ·exact .inl hki
  ·right; rw[ho]; simp[hk,hki]
 have h0:Inv c e (some i) [] { a with breaks:=a.breaks||decide (gD a.ds i-1<qfA (opA c i)),depth:=max a.depth (aft c i (gD a.ds i-1)),op:=r }:=by
  refine⟨h.len,hnd.1,fun k hk=>h.opn k (by rw[ho]; simp[hk]),h.pos,h.ent,fun k hk=>?_,fun k k1 k2 k3 x hx=>?_,h.fal,fun hb k k1 k2 k3=>?_,fun D hD=>?_,⟨?_,fun k k1 k2 k3=>?_⟩,?_⟩
  ·have:i=k:=Yb hk
   subst this
   exact⟨hil,hi0,hir⟩
  ·simp only at k2 k3 ⊢
   by_cases hk:some i=some k
   ·rw[if_pos hk] at hx; simp at hx
   ·rw[if_neg hk] at hx
    rcases back k k3 with hki|hko
    ·exact absurd (by rw[hki]) hk
    ·have:=h.done k k1 k2 hko
     simp only[reduceCtorEq,if_false] at this
     exact this x hx
  ·simp only[Bool.or_eq_false_iff,decide_eq_false_iff_not] at hb
   simp only at k2 k3 ⊢
   by_cases hk:some i=some k
   ·have:i=k:=Yb hk
    subst this
    exact⟨by omega,fun x hx=>by rw[if_pos hk] at hx; simp at hx⟩
   ·rw[if_neg hk]
    rcases back k k3 with hki|hko
    ·exact absurd (by rw[hki]) hk
    ·have:=h.brk hb.1 k k1 k2 hko
     simp only[reduceCtorEq,if_false] at this
     exact this
  ·obtain⟨c1,c2⟩:=h.cf D hD
   refine⟨?_,c2⟩
   have:=hD.pops i hp2
   have:=c2 i hil hi0
   simp only[c1,YN,decide_eq_false_iff_not]
   omega
  ·have:=h.dle.1
   simp only
   omega
  ·simp only at k2 k3 ⊢
   rcases back k k3 with hki|hko
   ·rw[hki]; omega
   ·have:=h.dle.2 k k1 k2 hko; omega
  ·simp only
   by_cases hm:aft c i (gD a.ds i-1)<=a.depth
   ·rcases h.dat with hd|⟨k,k1,k2,k3,k4⟩
    ·exact .inl (by omega)
    ·exact .inr ⟨k,k1,k2,fun hh=>k3 (by rw[ho]; simp[hh]),by omega⟩
   ·exact .inr ⟨i,hil,hi0,hir,by omega⟩
 have h1:=(qnA (qgM c i) [] _ (aft c i (gD a.ds i-1)) h0 rfl (fun j hj=>⟨hj,hf i hil j hj⟩)).1
 rw[Wc] at h1
 unfold stp
 refine⟨h1.len,h1.nodup,h1.opn,h1.pos,h1.ent,fun k hk=>(by cases hk),fun k k1 k2 k3 x hx=>?_,h1.fal,fun hb k k1 k2 k3=>?_,h1.cf,h1.dle,h1.dat⟩
 ·have:=h1.done k k1 k2 k3
  simp only[reduceCtorEq,if_false] at hx
  by_cases hk:some i=some k
  ·rw[if_pos hk] at this
   exact this x (by rw[Yb hk]; exact hx)
  ·rw[if_neg hk] at this
   exact this x hx
 ·have:=h1.brk hb k k1 k2 k3
  simp only[reduceCtorEq,if_false]
  by_cases hk:some i=some k
  ·have hik:i=k:=Yb hk
   subst hik
   rw[if_pos rfl] at this
   exact this
  ·rw[if_neg hk] at this
   exact this
def an0(c:Cd)(e:Nat):An:=⟨false,false,0,(List.replicate c.length 0).set e 1,[e]⟩
theorem qql(n i:Nat):gD (List.replicate n 0) i=0:=by
 simp only[gD,Wz,List.getElem?_replicate]
 split<;>rfl
theorem qvX{c:Cd}{e:Nat}(he:e<c.length):Inv c e none [] (an0 c e):=by
 have hse:gD ((List.replicate c.length 0).set e 1) e=1:=qgm (by simpa using he)
 have hne : ∀ i,gD ((List.replicate c.length 0).set e 1) i≠0->i=e:=fun i hi=>by
  by_cases h:e=i
  ·exact h.symm
  ·rw[qgn h,qql] at hi; exact absurd rfl hi
 unfold an0
 refine⟨by simp,by simp,fun i hi=>?_,fun i _ hi=>?_,hse,fun i hi=>(by cases hi),fun i _ h2 h3=>?_,fun h=>(by simp at h),fun _ i _ h2 h3=>?_,fun D hD=>⟨rfl,fun i _ h2=>?_⟩,⟨by simp,fun i _ h2 h3=>?_⟩,.inl rfl⟩
 ·simp only[Wm] at hi
  rw[hi]; exact⟨he,by rw[hse]; omega⟩
 ·rw[hne i hi,hse]; exact⟨by omega,Reach.here⟩
 ·exact absurd (by simp[hne i h2]) h3
 ·exact absurd (by simp[hne i h2]) h3
 ·rw[hne i h2,hse,hD.zero]; rfl
 ·exact absurd (by simp[hne i h2]) h3
theorem qvY {c:Cd} {e:Nat} {a:An} (he:e<c.length) (h:Inv c e none [] a) (ho:a.op=[]) :
  (a.falls=true↔qvm c e)/\(a.breaks=false ↔ ∃ D,CF c e D) /\ ∀ D,CF c e D->Most c e D a.depth:=by
 have hno : ∀ i,i∉a.op:=fun i=>by rw[ho]; simp
 have hall : ∀ i,Reach c e i->gD a.ds i≠0:=fun i hi=>by
  induction hi with
  |here=>rw[h.ent]; omega
  |go hi hl hj hjl ih=>
   have:=h.done _ hl ih (hno _)
   simp only[reduceCtorEq,if_false] at this
   have:=(this _ hj).2 (by omega)
   simpa using this
 refine⟨⟨h.fal,fun ⟨i,hi,hj⟩=>?_⟩,⟨fun hb=>⟨fun i=>gD a.ds i-1,?_,fun i hi=>?_,fun i hi j hj hjl=>?_⟩,fun ⟨D,hD⟩=>(h.cf D hD).1⟩,fun D hD=>⟨h.dle.1,fun i hi=>?_,?_⟩⟩
 ·have:=h.done i (hi.lt he) (hall i hi) (hno i)
  simp only[reduceCtorEq,if_false] at this
  exact (this _ hj).1 rfl
 ·rw[h.ent]; rfl
 ·exact (h.brk hb i (hi.lt he) (hall i hi) (hno i)).1
 ·have:=(h.brk hb i (hi.lt he) (hall i hi) (hno i)).2
  simp only[reduceCtorEq,if_false] at this
  have:=this _ hj (by omega)
  simp only[Int.toNat_natCast] at this
  omega
 ·have h2:=(h.cf D hD).2 i (hi.lt he) (hall i hi)
  have:=h.dle.2 i (hi.lt he) (hall i hi) (hno i)
  rw[h2,show D i+1-1=D i by omega] at this
  exact this
 ·rcases h.dat with h0|⟨i,h1,h2,_,h4⟩
  ·exact .inl h0
  ·refine .inr ⟨i,(h.pos i h1 h2).2,?_⟩
   rw[h4,(h.cf D hD).2 i h1 h2,show D i+1-1=D i by omega]
def mu(a:An):Nat:=2*a.ds.count 0+a.op.length
theorem count_set{l:List Int}{i:Nat}{v:Int}(hi:i<l.length)(h0:gD l i=0)(hv:v≠0):(l.set i v).count 0+1=l.count 0:=by
 have hx:l[i]=0:=by simpa [gD,Wz,hi] using h0
 rw[List.count_set hi]
 have hp:0<l.count 0:=List.count_pos_iff.2 (by rw[<- hx]; exact Yn hi)
 simp[hx,hv]
 omega
theorem qza{n:Nat}{d:Int}{a:An}{j:Int}(hl:a.ds.length=n)(hj:0<=j/\j<=n):mu (one n d a j)<=mu a/\(one n d a j).ds.length=n:=by
 unfold one
 by_cases hn:j=n
 ·rw[if_pos hn]; exact⟨Wj _,hl⟩
 ·rw[if_neg hn]
  by_cases h0:gD a.ds j.toNat=0
  ·rw[if_pos h0]
   refine⟨?_,by simp[hl]⟩
   have:=count_set (v:=max d 0+1) (by omega) h0 (by omega)
   unfold mu
   simp only[Wb,Ws]
   omega
  ·rw[if_neg h0]
   split<;>exact⟨Wj _,hl⟩
theorem qqm{n:Nat}{d:Int} : ∀ (l:List Int) (a:An),a.ds.length=n->(∀ j∈l,0<=j/\j<=n)->mu (l.foldl (one n d) a)<=mu a
 |[],a,_,_=>Wj _
 |j::l,a,hl,hj=>by
  obtain⟨h1,h2⟩:=qza (d:=d) hl (hj j (by simp))
  exact Yd (qqm l _ h2 (fun x hx=>hj x (by simp[hx]))) h1
theorem qzb{c:Cd}{i:Nat}{r:List Nat}{a:An}(hf:qxU c)(hl:a.ds.length=c.length)(hi:i<c.length)(ho:a.op=r++[i]):mu (stp c a i r)<mu a:=by
 unfold stp
 refine Wu (qqm _ _ (by simpa using hl) (hf i hi)) ?_
 simp only[mu,ho,Wb,Ws]
 omega
end Go.Pm.Gr
end
section
namespace Go.Pm.Gr
structure Rs where
 out:List Int
 ok:Bool
 ch:Bool
structure RI(c:Cd)(e:Nat)(s:Rs):Prop where
 len:s.out.length=c.length
 ent:gD s.out e=0
 rch : ∀ i,i<c.length->0<=gD s.out i->Reach c e i
 cf : ∀ D,CF c e D->s.ok=true /\ ∀ i,i<c.length->0<=gD s.out i->gD s.out i=D i
end Go.Pm.Gr
end
section
namespace Go.Pm.Gr
structure AnaRes(c:Cd)(e:Nat)(fl br:Bool)(dp:Int):Prop where
 fal:fl=true↔qvm c e
 brk:br=false ↔ ∃ D,CF c e D
 most : ∀ D,CF c e D->Most c e D dp
structure RefRes(c:Cd)(e:Nat)(out:List Int)(ok:Bool):Prop where
 len:out.length=c.length
 rch : ∀ i,i<c.length->(0<=gD out i↔Reach c e i)
 ok_:ok=true ↔ ∃ D,CF c e D
 val : ∀ D,CF c e D -> ∀ i,Reach c e i->gD out i=D i
end Go.Pm.Gr
end
namespace Go.Pm
section
open F Gr
def icC(c:Cd):List D:=c.flatMap fun x=>[.lit (.int .i64 x.1),.lit (.int .i64 x.2)]
@[simp] theorem qfu(c:Cd):(icC c).length=c.length*2:=by
 induction c with
 |nil=>rfl
 |cons x c ih=>simp only[icC,List.flatMap_cons,Wb,We,Wk] at ih ⊢; omega
theorem qjR(a b:Cd):icC (a++b)=icC a++icC b:=by simp[icC]
theorem qnQ(c:Cd)(i:Nat):(icC c).drop (i*2)=icC (c.drop i):=by
 induction i generalizing c with
 |zero=>simp
 |succ i ih=>
  cases c with
  |nil=>simp[icC]
  |cons x c=>
   rw[show (i+1)*2=i*2+2 by omega]
   simp only[icC,List.flatMap_cons,Wg,Wc,Ye] at ih ⊢
   exact ih c
theorem qs2(c:Cd)(i:Nat)(h:i<c.length):cutCells (icC c) (i*2) 2=some [.lit (.int .i64 (opA c i)),.lit (.int .i64 (nA c i))]:=by
 unfold cutCells
 rw[qnQ,Ww h]
 have e:icC (c[i]::c.drop (i+1)) = .lit (.int .i64 c[i].1) :: .lit (.int .i64 c[i].2)::icC (c.drop (i+1)):=rfl
 have e1:opA c i=c[i].1:=by simp[opA,Wz,h]
 have e2:nA c i=c[i].2:=by simp[nA,Wz,h]
 rw[e,e1,e2]
 rfl
theorem qs3(c:Cd)(i:Nat)(h:i<c.length):cutCells (icC c) (i*2) 1=some [.lit (.int .i64 (opA c i))]:=by
 unfold cutCells
 rw[qnQ,Ww h]
 have e:icC (c[i]::c.drop (i+1)) = .lit (.int .i64 c[i].1) :: .lit (.int .i64 c[i].2)::icC (c.drop (i+1)):=rfl
 have e1:opA c i=c[i].1:=by simp[opA,Wz,h]
 rw[e,e1]
 rfl
structure IsCode(d:D)(c:Cd):Prop where
 len : ∀ σ,V.len σ .sl (.dat d)=some c.length
 at_ : ∀ i:Int,0<=i->i<c.length->qaf 2 (.dat d) i=some (.dat (.imm (icC c) (i.toNat*2)))
 one:V.one (.dat d)=true
 cells:V.cells (.dat d)=[.dat d]
theorem qiT(c:Cd)(f:Bool):IsCode (.sl (icC c) c.length f) c where
 len:=fun _=>rfl
 at_:=fun i h0 h1=>by simp[qaf,h0,h1]
 one:=rfl
 cells:=rfl
theorem qjS:IsCode (.lit (.slice none 0 0)) [] where
 len:=fun _=>rfl
 at_:=fun i h0 h1=>by simp at h1; omega
 one:=rfl
 cells:=rfl
def pgD(d:D)(e0 e1 e2:Int):V := .dat (.agg [d,.lit (.int .i64 e0),.lit (.int .i64 e1),.lit (.int .i64 e2)])
def qwn(c:Cd)(i:Nat):D:=if opA c i=21 then .lit (.slice none 0 0) else .sl (intsC (qgM c i)) (qgM c i).length true
theorem qs4(c:Cd)(i:Nat):IsRow (qwn c i) (qgM c i):=by
 unfold qwn
 by_cases h:opA c i=21
 ·rw[if_pos h]
  have:qgM c i=[]:=by unfold qgM; rw[if_pos h]
  rw[this]
  exact qlN none
 ·rw[if_neg h]; exact qnT _ true
section
variable{d:D}{c:Cd}{e0 e1 e2:Int}{i:Nat}
theorem qzA(hd:IsCode d c)(hi:i<c.length)(hi2:i<2^40):Z qad (.call 164 [pgD d e0 e1 e2,.int i] [])=some (.ret (.dat (qwn c i)) []):=by
 have h1:=hd.at_ i (by omega) (by omega)
 rw[show ((i:Int)).toNat=i by omega] at h1
 have h2:=qs2 c i hi
 have w1:=qai ((i:Int)+1) (by omega)
 have ho:=hd.one
 have hc:=hd.cells
 refine qac (pf:=F164) rfl rfl ?_
 unfold qwn qgM
 generalize opA c i=op at *
 generalize nA c i=n at *
 by_cases k1:op=21
 ·simp[F164,pgD,Wa,h1,h2,k1,ho,hc]
 ·by_cases k2:op=18
  ·simp[F164,pgD,Wa,h1,h2,k1,k2,ho,hc,intsC]
  ·by_cases k3:op=19
   ·simp[F164,pgD,Wa,h1,h2,k1,k2,k3,w1,ho,hc,intsC]
   ·simp[F164,pgD,Wa,h1,h2,k1,k2,k3,w1,ho,hc,intsC]
end
def aS(d:D)(e0 e1 e2:Int)(a:An):S:=
 [.cells [.dat d,.int e0,.int e1,.int e2],.cells [.bool false,.bool false,.int 0],.cells [.bool a.falls,.bool a.breaks,.int a.depth],.cells (qdp a.ds),.vec (qdp (a.op.map fun (i:Nat)=>(i:Int)))]
def bFr(n m:Nat)(dp:Int)(r:D)(len k:Nat):Fr:=[(2,.ptr 0 0),(4,.ptr 1 0),(5,.ptr 2 0),(6,.msl 3 0 n n 1),(7,.own 4 m 1),(10,.int dp),(68,.dat r),(69,.int len),(70,.int k)]
def aFr(n m:Nat):Fr:=[(2,.ptr 0 0),(4,.ptr 1 0),(5,.ptr 2 0),(6,.msl 3 0 n n 1),(7,.own 4 m 1)]
section
variable{d:D}{c:Cd}{e0 e1 e2:Int}{a:An}{r:D}{l:List Int}{k:Nat}{dp:Int}
theorem qwo (hd:IsCode d c) (hr:IsRow r l) (hk:k<l.length) (hk2:k<100) (hl:a.ds.length=c.length) (hcl:c.length<2^30) (hol:a.op.length<2^30) (hj:0<=l[k]/\l[k]<=c.length) (hdp : -10<=dp/\dp<2^40):
  Z qad (.loop 0 F139l1 (bFr c.length a.op.length dp r l.length k) (aS d e0 e1 e2 a))=Z qad (.loop 0 F139l1 (bFr c.length (Gr.one c.length dp a l[k]).op.length dp r l.length (k+1)) (aS d e0 e1 e2 (Gr.one c.length dp a l[k]))):=by
 have h1:=hr.at_ k (by omega) (by omega)
 rw[show ((k:Int)).toNat=k by omega] at h1
 have h2:=qo4 l k hk
 have h2':qrR l k=l[k]:=by simp[qrR,Wz,hk]
 rw[h2'] at h2
 have hk':(k:Int)<l.length:=by omega
 have w1:=qai ((k:Int)+1) (by omega)
 have w2:=qai (dp+1) (by omega)
 have hlen:=hd.len
 have ho:=hd.one
 have hc:=hd.cells
 unfold Gr.one
 generalize l[k]=j at *
 obtain⟨fl,br,depth,ds,op⟩:=a
 simp only at hl hol ⊢
 have S1 : ∀ (x:D),x=x:=fun _=>rfl
 by_cases hn:j=c.length
 ·subst hn
  rw[qaa]
  simp[qab,qdj,bFr,aS,Wa,hlen,h1,h2,hk',w1,ho,hc]
 ·rw[if_neg hn]
  have hm:qaf 1 (.msl 3 0 c.length c.length 1) j=some (.ptr 3 j.toNat):=by
   have a1:0<=j:=hj.1
   have a2:j<c.length:=by omega
   simp[qaf,a1,a2]
  have hu:=qwE (cs:=ds) j (gD ds j.toNat) hj.1 (by omega) rfl
  have hjn:(j.toNat:Int)=j:=by omega
  have hse : ∀ v,(qdp ds).take j.toNat++(V.int v::(qdp ds).drop (j.toNat+1))=qdp (ds.set j.toNat v):=fun v=>qnS ds j.toNat v (by omega)
  have hjl:j.toNat+1<=ds.length:=by omega
  by_cases h0:gD ds j.toNat=0
  ·rw[if_pos h0]
   have hr8:qao (op.length+1) 8=true:=by simp[qao]; omega
   have hap:qdp (op.map fun (i:Nat)=>(i:Int))++[V.int j]=qdp ((op++[j.toNat]).map fun (i:Nat)=>(i:Int)):=by simp[qdp,hjn]
   have wone:IntKind.i64.wrap 1=1:=rfl
   have hmj:max j 0=j:=by omega
   have hap2 : ∀ X,qdp X++[V.int j]=qdp (X++[j]):=fun X=>by simp[qdp]
   by_cases hneg:dp<0
   ·have hmx:max dp 0+1=1:=by omega
    rw[hmx,qaa]
    simp[qab,qdj,bFr,aS,Wa,hlen,h1,h2,hk',w1,ho,hc,hn,hm,hu,h0,hse,hjl,hr8,qhT,qnq,wone,hmj,hap2,hneg]
    refine qah ?_
    simp[Wa,ho,hc]
   ·have hmx:max dp 0=dp:=by omega
    rw[hmx,qaa]
    simp[qab,qdj,bFr,aS,Wa,hlen,h1,h2,hk',w1,ho,hc,hn,hm,hu,h0,hse,hjl,hr8,qhT,qnq,wone,hmj,hap2,hneg,w2]
    refine qah ?_
    simp[Wa,ho,hc]
  ·rw[if_neg h0]
   by_cases h3:gD ds j.toNat=dp+1
   ·have h0' : ¬ dp+1=0:=by omega
    rw[if_neg (by omega),qaa]
    simp[qab,qdj,bFr,aS,Wa,hlen,h1,h2,hk',w1,w2,ho,hc,hn,hm,hu,h0,h3,h0']
   ·rw[if_pos h3,qaa]
    simp[qab,qdj,bFr,aS,Wa,hlen,h1,h2,hk',w1,w2,ho,hc,hn,hm,hu,h0,h3]
end
end
section
open F Gr
section
variable{d:D}{c:Cd}{e0 e1 e2:Int}{r:D}{l:List Int}{dp:Int}
theorem qyh(hd:IsCode d c)(a:An):Z qad (.loop 0 F139l1 (bFr c.length a.op.length dp r l.length l.length) (aS d e0 e1 e2 a))=some (.out (.exit 2) (bFr c.length a.op.length dp r l.length l.length++[(71,.bool false)]) (aS d e0 e1 e2 a)):=by
 have ho:=hd.one
 have hc:=hd.cells
 obtain⟨fl,br,depth,ds,op⟩:=a
 rw[qaa]
 simp[qab,qdj,bFr,aS,Wa,ho,hc]
theorem qu3{n:Nat}{d:Int}{a:An}{j:Int}(hl:a.ds.length=n):(Gr.one n d a j).ds.length=n/\(Gr.one n d a j).op.length<=a.op.length+1:=by
 unfold Gr.one
 split
 ·exact⟨hl,Nat.le_succ _⟩
 ·split
  ·exact⟨by simp[hl],by simp⟩
  ·split<;>exact⟨hl,Nat.le_succ _⟩
theorem qu4 (hd:IsCode d c) (hr:IsRow r l) (hl2:l.length<50) (hcl:c.length<2^29) (hj : ∀ x∈l,0<=x/\x<=c.length) (hdp : -10<=dp/\dp<2^40) (m:Nat) : ∀ (k:Nat) (a:An),k+m=l.length->a.ds.length=c.length->a.op.length+m<2^30 ->
  Z qad (.loop 0 F139l1 (bFr c.length a.op.length dp r l.length k) (aS d e0 e1 e2 a))=some (.out (.exit 2) (bFr c.length ((l.drop k).foldl (Gr.one c.length dp) a).op.length dp r l.length l.length++[(71,.bool false)]) (aS d e0 e1 e2 ((l.drop k).foldl (Gr.one c.length dp) a))):=by
 induction m with
 |zero=>
  intro k a hk ha ho
  have:k=l.length:=by omega
  subst this
  rw[List.drop_length]
  exact qyh hd a
 |succ m ih=>
  intro k a hk ha ho
  have hkl:k<l.length:=by omega
  rw[Ww hkl,Ya]
  obtain⟨q1,q2⟩:=qu3 (n:=c.length) (d:=dp) (j:=l[k]) ha
  rw[qwo hd hr hkl (by omega) ha (by omega) (by omega) (hj _ (Yn hkl)) hdp]
  exact ih (k+1) _ (by omega) q1 (by omega)
end
def F139a:PC:=match F139l0 with | .seq a _=>a|_ => .skip
def F139b:PC:=match F139l0 with | .seq _ b=>b|_ => .skip
theorem F139a_eq:F139a = .seq (.region none [⟨some 22,.mov (.t 7),none,[]⟩,⟨some 23,.len .sl (.t 22),none,[]⟩,⟨some 24,.bin .gtr (.t 23) (.c (.int .i64 0)),none,[]⟩] [2,4,5,6,7,24]) (.cond (.t 24) (.skip) (.exit 0)):=rfl
theorem qr2 (d:D) (e0 e1 e2:Int) (a:An) (n m:Nat) (dp:Int) (r:D) (len k:Nat) (b:Bool) :
  Z qad (.loop 0 F139l0 (bFr n m dp r len k++[(71,.bool b)]) (aS d e0 e1 e2 a))=Z qad (.loop 0 F139l0 (aFr n m) (aS d e0 e1 e2 a)):=by
 have e:F139l0 = .seq F139a F139b:=rfl
 rw[qaa,qaa,e]
 simp[qab,F139a_eq,aFr,bFr,aS,Wa,qhf]
theorem qBa : ∀ op:Nat,1<=op->op<=21->cutCells G_arenanet_compile_effects (op*2) 2=some [.lit (.int .i64 (qfA op)),.lit (.int .i64 (qdX op))]:=by
 intro op h1 h2
 have : ∀ k:_root_.Fin 22,1<=k.val->cutCells effRows15.flatten (k.val*2) 2=some [qfA k.val,qdX k.val]:=by decide
 have h:=this ⟨op,by omega⟩ h1
 unfold G_arenanet_compile_effects
 unfold cutCells at h ⊢
 simp only at h ⊢
 rw[<- List.map_drop,<- List.map_take]
 split at h
 ·rename_i hh
  simp only[Wh] at h
  rw[if_pos (by rw[W5]; exact hh),h]
  rfl
 ·cases h
section
variable{d:D}{c:Cd}{e0 e1 e2:Int}
set_option maxHeartbeats 4000000 in
theorem qu5 (hd:IsCode d c) (hf:qxU c) (hops : ∀ i,i<c.length->1<=opA c i/\opA c i<=21) (hcl:c.length<2^29) {a:An} {i:Nat} {r:List Nat} (ho:a.op=r++[i]) (hi:i<c.length) (hl:a.ds.length=c.length) (hol:a.op.length<2^29) (hb:1<=gD a.ds i/\gD a.ds i<2^39) :
  Z qad (.loop 0 F139l0 (aFr c.length a.op.length) (aS d e0 e1 e2 a))=Z qad (.loop 0 F139l0 (aFr c.length (stp c a i r).op.length) (aS d e0 e1 e2 (stp c a i r))):=by
 have hlen:=hd.len
 have h1:=hd.one
 have h2:=hd.cells
 obtain⟨op,hop⟩ : ∃ op:Nat,(op:Int)=opA c i:=⟨(opA c i).toNat,by have:=hops i hi; omega⟩
 have hopr:1<=op/\op<=21:=by have:=hops i hi; omega
 have heff:=qBa op hopr.1 hopr.2
 have hat:=hd.at_ i (by omega) (by omega)
 rw[show ((i:Int)).toNat=i by omega] at hat
 have hcut:=qs3 c i hi
 rw[<- hop] at hcut
 have hsu:=qzA (e0:=e0) (e1:=e1) (e2:=e2) hd hi (by omega)
 have hp:=qnu (opA c i)
 have hq:=qgl (opA c i)
 have hslen:(qgM c i).length<50:=by unfold qgM; split<;>(try split)<;>(try split)<;>simp
 have hdp : -10<=aft c i (gD a.ds i-1)/\aft c i (gD a.ds i-1)<2^40:=by unfold aft; omega
 have hrow:=qs4 c i
 have hra:(aft c i (gD a.ds i-1))=gD a.ds i-1+(qdX (opA c i)-qfA (opA c i)):=rfl
 have hloop:=qu4 (e0:=e0) (e1:=e1) (e2:=e2) hd hrow hslen hcl (fun x hx=>hf i hi x hx) hdp (qgM c i).length 0 { a with breaks:=a.breaks||decide (gD a.ds i-1<qfA (opA c i)),depth:=max a.depth (aft c i (gD a.ds i-1)),op:=r } (by omega) hl (by rw[ho] at hol; simp at hol ⊢; omega)
 rw[WJ] at hloop
 have hst:stp c a i r=(qgM c i).foldl (Gr.one c.length (aft c i (gD a.ds i-1))) { a with breaks:=a.breaks||decide (gD a.ds i-1<qfA (opA c i)),depth:=max a.depth (aft c i (gD a.ds i-1)),op:=r }:=rfl
 rw[<- hst] at hloop
 have hr2:=hrow.len
 obtain⟨R,hR⟩ : ∃ R,R=stp c a i r:=⟨_,rfl⟩
 rw[<- hR] at hloop ⊢
 clear hst
 obtain⟨dp,hdpe⟩ : ∃ dp,dp=aft c i (gD a.ds i-1):=⟨_,rfl⟩
 rw[<- hdpe] at hloop hra
 obtain⟨fl,br,depth,ds,aop⟩:=a
 simp only at ho hl hol hb hloop hdpe hra hdp
 subst ho
 have hm:qaf 1 (.msl 3 0 c.length c.length 1) i=some (.ptr 3 i):=by
  have a2:(i:Int)<c.length:=by omega
  simp[qaf,a2]
 have hu:=qnU (cs:=ds) i (gD ds i) (by omega) rfl
 have hown:qaf 1 (.own 4 (r.length+1) 1) (r.length:Int)=some (.eptr 4 (r.length+1) r.length):=qzH 4 (r.length+1) r.length (by omega)
 have hou:cutCells (qdp (r.map (fun (i:Nat)=>(i:Int))++[(i:Int)])) r.length 1=some [V.int i]:=qnU r.length _ (by simp) (by simp[qrR,Wz])
 have w1:IntKind.i64.wrap (r.length:Int)=r.length:=qai _ (by simp at hol; omega)
 have w2:IntKind.i64.wrap (gD ds i-1)=gD ds i-1:=qai _ (by omega)
 have w3:IntKind.i64.wrap (qdX op-qfA op)=qdX op-qfA op:=by rw[hop]; exact qai _ (by omega)
 have w4:IntKind.i64.wrap (gD ds i-1+(qdX op-qfA op))=dp:=by rw[hop,<- hra]; exact qai _ (by omega)
 rw[<- hop] at hloop
 have bn1:bound (some (V.int r.length)) (r.length+1) (r.length+1)=some r.length:=by simp[bound]; omega
 have bn2 : ∀ h,bound none 0 h=some 0:=fun h=>by simp[bound]
 have tk:(qdp (r.map (fun (i:Nat)=>(i:Int))++[(i:Int)])).take r.length=qdp (r.map fun (i:Nat)=>(i:Int)):=by
  rw[qqN]; congr 1; rw[List.take_append_of_le_length (by simp),Wy (by simp)]
 have gpos:0<(r.length:Int)+1:=by omega
 have hir:(i:Int)<c.length:=by omega
 have hop22:(op:Int)<22:=by omega
 have hol':r.length+1<2^29:=by simpa using hol
 simp only[pgD] at hsu
 have key : ∀ (BR:Bool) (DM:Int),BR=(br||decide (gD ds i-1<qfA op))->DM=max depth dp ->
   Z qad (.loop 0 F139l1 [(2,.ptr 0 0),(4,.ptr 1 0),(5,.ptr 2 0),(6,.msl 3 0 c.length c.length 1),(7,.own 5 r.length 1),(10,.int dp),(68,.dat (qwn c i)),(69,.int (qgM c i).length),(70,.int 0)]
    [.cells [.dat d,.int e0,.int e1,.int e2],.cells [.bool false,.bool false,.int 0],.cells [.bool fl,.bool BR,.int DM],.cells (qdp ds),.dead,.vec (qdp (r.map fun (i:Nat)=>(i:Int))),.cells [.int (qfA op),.int (qdX op)]]) =
   some (.out (.exit 2) (bFr c.length R.op.length dp (qwn c i) (qgM c i).length (qgM c i).length++[(71,.bool false)]) (aS d e0 e1 e2 R)):=fun BR DM e1' e2'=>by
  rw[<- hloop]
  refine qah ?_
  rw[<- e1',<- e2']
  simp[bFr,aS,Wa,h1,h2]
 have fin:=qr2 d e0 e1 e2 R c.length R.op.length dp (qwn c i) (qgM c i).length (qgM c i).length false
 by_cases hbr:gD ds i-1<qfA op
 ·by_cases hmx:depth<dp
  ·have hl3:=key true dp (by simp[hbr]) (by omega)
   rw[qaa,<- fin]
   simp only[bFr] at hl3 ⊢
   simp[qab,qfh,aFr,aS,pgD,Wa,hlen,h1,h2,hat,hcut,heff,hsu,hm,hu,hown,hou,w1,w2,w3,w4,hbr,hmx,qhT,qnq,gpos,hop22,hr2,qhf,bn1,bn2,tk,hl3]
  ·have hl3:=key true depth (by simp[hbr]) (by omega)
   rw[qaa,<- fin]
   simp only[bFr] at hl3 ⊢
   simp[qab,qfh,aFr,aS,pgD,Wa,hlen,h1,h2,hat,hcut,heff,hsu,hm,hu,hown,hou,w1,w2,w3,w4,hbr,hmx,qhT,qnq,gpos,hop22,hr2,qhf,bn1,bn2,tk,hl3]
 ·by_cases hmx:depth<dp
  ·have hl3:=key br dp (by simp[hbr]) (by omega)
   rw[qaa,<- fin]
   simp only[bFr] at hl3 ⊢
   simp[qab,qfh,aFr,aS,pgD,Wa,hlen,h1,h2,hat,hcut,heff,hsu,hm,hu,hown,hou,w1,w2,w3,w4,hbr,hmx,qhT,qnq,gpos,hop22,hr2,qhf,bn1,bn2,tk,hl3]
  ·have hl3:=key br depth (by simp[hbr]) (by omega)
   rw[qaa,<- fin]
   simp only[bFr] at hl3 ⊢
   simp[qab,qfh,aFr,aS,pgD,Wa,hlen,h1,h2,hat,hcut,heff,hsu,hm,hu,hown,hou,w1,w2,w3,w4,hbr,hmx,qhT,qnq,gpos,hop22,hr2,qhf,bn1,bn2,tk,hl3]
end
end
section
open F Gr
theorem qxA{n:Nat}{dd b:Int}{a:An}{j:Int}(hd:dd<=b)(hb:0<=b)(h : ∀ i,gD a.ds i<=b+1) : ∀ i,gD (Gr.one n dd a j).ds i<=b+1:=by
 intro i
 unfold Gr.one
 split
 ·exact h i
 ·split
  ·by_cases hij:j.toNat=i
   ·subst hij
    by_cases hl:j.toNat<a.ds.length
    ·simp only; rw[qgm hl]; omega
    ·simp only
     rw[List.set_eq_of_length_le (by omega)]; exact h _
   ·simp only; rw[qgn hij]; exact h i
  ·split<;>exact h i
theorem qoj{n:Nat}{dd b:Int}(hd:dd<=b)(hb:0<=b) : ∀ (l:List Int) (a:An),(∀ i,gD a.ds i<=b+1) -> ∀ i,gD (l.foldl (Gr.one n dd) a).ds i<=b+1
 |[],a,h=>h
 |j::l,a,h=>qoj hd hb l _ (qxA hd hb h)
theorem qxB{c:Cd}{a:An}{i:Nat}{r:List Nat}{b:Int}(hb:0<=b)(h : ∀ i,gD a.ds i<=b) : ∀ k,gD (stp c a i r).ds k<=b+1:=by
 have hp:=qnu (opA c i)
 have hq:=qgl (opA c i)
 unfold stp
 refine qoj (b:=b) ?_ hb _ _ (fun k=>?_)
 ·have:=h i
  unfold aft
  omega
 ·have:=h k
  simp only
  omega
section
variable{d:D}{c:Cd}{e0 e1 e2:Int}
theorem quN(hd:IsCode d c){a:An}(ho:a.op=[]):Z qad (.loop 0 F139l0 (aFr c.length a.op.length) (aS d e0 e1 e2 a))=some (.out (.exit 0) (aFr c.length 0++[(24,.bool false)]) (aS d e0 e1 e2 a)):=by
 obtain⟨fl,br,depth,ds,op⟩:=a
 simp only at ho
 subst ho
 have e:F139l0 = .seq F139a F139b:=rfl
 rw[qaa,e]
 simp[qab,F139a_eq,aFr,aS,Wa,qhf,hd.one,hd.cells]
theorem qxC (hd:IsCode d c) (hf:qxU c) (hops : ∀ i,i<c.length->1<=opA c i/\opA c i<=21) (hcl:c.length<2^27) {e:Nat} (he:e<c.length) (m:Nat) : ∀ (a:An) (b:Int),mu a<=m->Inv c e none [] a->0<=b->b+m<2^38->m<2^29->(∀ i,gD a.ds i<=b) ->
  ∃ a',Inv c e none [] a'/\a'.op=[]/\Z qad (.loop 0 F139l0 (aFr c.length a.op.length) (aS d e0 e1 e2 a))=some (.out (.exit 0) (aFr c.length 0++[(24,.bool false)]) (aS d e0 e1 e2 a')):=by
 induction m with
 |zero=>
  intro a b hm hi hb hbm hm2 hall
  have ho:a.op=[]:=List.length_eq_zero_iff.1 (by unfold mu at hm; omega)
  exact⟨a,hi,ho,quN hd ho⟩
 |succ m ih=>
  intro a b hm hi hb hbm hm2 hall
  by_cases ho:a.op=[]
  ·exact⟨a,hi,ho,quN hd ho⟩
  ·obtain⟨r,i,hr⟩ : ∃ r i,a.op=r++[i]:=⟨a.op.dropLast,a.op.getLast ho,(List.dropLast_concat_getLast ho).symm⟩
   have hio:=hi.opn i (by rw[hr]; simp)
   have hpos:=hi.pos i hio.1 hio.2
   have hmu:=qzb hf hi.len hio.1 hr
   obtain⟨a',q1,q2,q3⟩:=ih (stp c a i r) (b+1) (by omega) (qvW hf hi hr) (by omega) (by omega) (by omega) (qxB hb hall)
   refine⟨a',q1,q2,?_⟩
   rw[qu5 hd hf hops (by omega) hr hio.1 hi.len (by unfold mu at hm; omega) ⟨hpos.1,by have:=hall i; omega⟩]
   exact q3
theorem qCg (hd:IsCode d c) (hf:qxU c) (hops : ∀ i,i<c.length->1<=opA c i/\opA c i<=21) (hcl:c.length<2^27) {e:Nat} (he:e<c.length) :
  ∃ fl br dp,AnaRes c e fl br dp/\Z qad (.call 139 [pgD d e0 e1 e2,.int e] [])=some (.ret (.dat (.agg [.lit (.bool fl),.lit (.bool br),.lit (.int .i64 dp)])) []):=by
 have hmu:mu (an0 c e)<=2*c.length+1:=by
  have:((List.replicate c.length (0:Int)).set e 1).count 0<=((List.replicate c.length (0:Int)).set e 1).length:=List.count_le_length
  simp only[mu,an0,Ws]
  simp only[List.length_set,List.length_replicate] at this
  omega
 have hall : ∀ i,gD (an0 c e).ds i<=1:=fun i=>by
  unfold an0
  simp only
  by_cases h:e=i
  ·subst h; rw[qgm (by simpa using he)]; exact Int.le_refl _
  ·rw[qgn h,qql]; omega
 obtain⟨a,h1,h2,h3⟩:=qxC (e0:=e0) (e1:=e1) (e2:=e2) hd hf hops hcl he (2*c.length+1) (an0 c e) 1 hmu (qvX he) (by omega) (by omega) (by omega) hall
 obtain⟨f1,f2,f3⟩:=qvY he h1 h2
 refine⟨a.falls,a.breaks,a.depth,⟨f1,f2,f3⟩,?_⟩
 have hlen:=hd.len
 have ho:=hd.one
 have hc:=hd.cells
 have k1:(c.length:Int)<=1099511627776/\8*(c.length:Int)<=281474976710656:=by omega
 have k2:8*c.length<=281474976710656:=by omega
 have hm:qaf 1 (.msl 3 0 c.length c.length 1) e=some (.ptr 3 e):=by
  have a2:(e:Int)<c.length:=by omega
  simp[qaf,a2]
 have hse:(qdp (List.replicate c.length 0)).take e++(V.int 1::(qdp (List.replicate c.length 0)).drop (e+1))=qdp ((List.replicate c.length 0).set e 1):=qnS _ e 1 (by simpa using he)
 have hel:e+1<=c.length:=he
 have hone:qdp (([e]:List Nat).map fun (i:Nat)=>(i:Int))=[V.int e]:=rfl
 refine qac (pf:=F139) rfl rfl ?_
 simp only[aFr,aS,an0,Ws,hone] at h3
 simp[F139,pgD,qqO,k1,k2,hlen,ho,hc,hm,hse,hel,h3,Wa]
end
theorem qAb(fl br:Bool)(dp:Int):Z qad (.call 140 [.dat (.agg [.lit (.bool fl),.lit (.bool br),.lit (.int .i64 dp)])] [])=some (.ret (.bool (!br&&decide (dp<=16))) []):=by
 refine qac (pf:=F140) rfl rfl ?_
 cases br
 ·simp[F140,Wa]
 ·simp[F140,Wa]
end
section
open F Gr
def qhc(op:Int):Bool:=decide (1<=op)&&decide (op<=21)
def qAC(op n len:Int):Bool:=
 if op=1 then decide (-2147483647<=n)&&decide (n<=2147483647)
 else if op=2\/op=3 then decide (0<=n)&&decide (n<=15)
 else if op=4 then decide (0<=n)&&decide (n<=7)
 else if op=5 then decide (0<=n)&&decide (n<=5)
 else if op=18\/op=19 then decide (0<=n)&&decide (n<=len-1)
 else qhc op&&decide (n=0)
end
section
open F Gr
open Classical in
open Classical in
def okI(c:Cd)(i:Nat):Bool:=qhc (opA c i)&&qAC (opA c i) (nA c i) c.length
def okC(c:Cd):Nat->Nat->Bool
 |0,_=>true
 |m+1,i=>okI c i&&okC c m (i+1)
theorem qmC{c:Cd} : ∀ (m i:Nat),okC c m i=true -> ∀ k,i<=k->k<i+m->okI c k=true
 |0,i,_,k,h1,h2=>by omega
 |m+1,i,h,k,h1,h2=>by
  simp only[okC,Wq] at h
  by_cases hk:k=i
  ·rw[hk]; exact h.1
  ·exact qmC m (i+1) h.2 k (by omega) (by omega)
theorem qud{c:Cd}{i:Nat}(h:okI c i=true):(1<=opA c i/\opA c i<=21)/\(opA c i=18\/opA c i=19->0<=nA c i/\nA c i<c.length):=by
 simp only[okI,Wq,qhc,decide_eq_true_eq] at h
 refine⟨h.1,fun hj=>?_⟩
 have h2:=h.2
 unfold qAC at h2
 rw[if_neg (by omega),if_neg (by omega),if_neg (by omega),if_neg (by omega),if_pos hj] at h2
 simp only[Wq,decide_eq_true_eq] at h2
 omega
theorem qsC{c:Cd}(h:okC c c.length 0=true):qxU c:=by
 intro i hi j hj
 have:=(qud (qmC _ _ h i (by omega) (by omega))).2
 unfold qgM at hj
 split at hj
 ·simp at hj
 ·split at hj
  ·simp only[Wm] at hj
   have:=this (.inl (by assumption))
   omega
  ·split at hj
   ·simp only[Wo,Wx,or_false] at hj
    have:=this (.inr (by assumption))
    omega
   ·simp only[Wm] at hj; omega
end
section
open F Gr
theorem qxG(l:List ByteArray)(i:Nat)(h:i<l.length):qaf 1 (.dat (qm0 l)) (i:Int)=some (.dat (.imm (strC l) i)):=by
 cases l with
 |nil=>simp at h
 |cons s l=>simp only[We] at h; simp[qm0,qaf]; omega
end
section
open F Gr
inductive CodeV:V->S->Cd->Prop
 |lit (c:Cd) (h:c≠[]):CodeV (.dat (.sl (icC c) c.length true)) [] c
 |gr (c:Cd) (h:c≠[]):CodeV (.gsl (icC c) c.length 2 0) [.tip (icC c).length] c
def NodeOK(vs:List ByteArray)(x:V)(C:Int->Cd)(L:Nat):Prop:=Ln C L/\0<L /\
 ∀ p:Int,0<=p->p+4*L<2^40 -> ∃ v σ,CodeV v σ (C p)/\Z qad (.call 135 [x,.dat (qm0 vs),.int p] [])=some (.ret v σ)
inductive RowOK(vs:List ByteArray):List D->List (Int->Cd)->Nat->Prop
 |nil:RowOK vs [] [] 0
 |cons {a b c d:D} {C:Int->Cd} {L:Nat} {r:List D} {Cs:List (Int->Cd)} {M:Nat} (h:NodeOK vs (.dat (.agg [a,b,c,d])) C L) (hr:RowOK vs r Cs M):RowOK vs (a::b::c::d::r) (C::Cs) (L+M)
def seqC:List (Int->Cd)->Int->Cd
 |[],_=>[]
 |C::r,p=>C p++seqC r (p+(C p).length)
inductive OutV:V->S->Cd->Prop
 |nil:OutV (.dat (.lit (.slice none 0 0))) [] []
 |gr (c:Cd) (h:c≠[]):OutV (.gsl (icC c) c.length 2 0) [.tip (icC c).length] c
theorem qBQ{f:Bool}{n:Nat}{cs:List D}{i:Int}(h0:0<=i)(h1:i<n):qaf 4 (.dat (kd f n cs)) i=some (.dat (.imm cs (i.toNat*4))):=by
 cases n with
 |zero=>simp at h1; omega
 |succ n=>simp only[qij]; simp[qaf,h0]; omega
theorem qun{n:Nat}(h:n<2^40):qao n 16=true:=by simp only[qao,decide_eq_true_eq]; omega
set_option maxHeartbeats 1000000
end
section
open F Gr
set_option maxHeartbeats 1000000
section
variable{vs:List ByteArray}{f:Bool}{N:Nat}{cs:List D}{p:Int}
inductive AnyV:V->S->Cd->Prop
 |lit (c:Cd) (h:c≠[]):AnyV (.dat (.sl (icC c) c.length true)) [] c
 |gr (c:Cd) (h:c≠[]):AnyV (.gsl (icC c) c.length 2 0) [.tip (icC c).length] c
 |nil:AnyV (.dat (.lit (.slice none 0 0))) [] []
theorem CodeV.any{v:V}{σ : S}{c:Cd}(h:CodeV v σ c):AnyV v σ c:=by cases h; exact .lit _ ‹_›; exact .gr _ ‹_›
theorem OutV.any{v:V}{σ : S}{c:Cd}(h:OutV v σ c):AnyV v σ c:=by cases h; exact .nil; exact .gr _ ‹_›
def qB5(vs:List ByteArray)(x:V)(C:Int->Cd)(L:Nat):Prop:=Ln C L /\
 ∀ p:Int,0<=p->p+4*L<2^40 -> ∃ v σ,AnyV v σ (C p)/\Z qad (.call 135 [x,.dat (qm0 vs),.int p] [])=some (.ret v σ)
theorem NodeOK.blk{x:V}{C:Int->Cd}{L:Nat}(h:NodeOK vs x C L):qB5 vs x C L:=
 ⟨h.1,fun p h0 h1=>let ⟨v,σ,a,b⟩:=h.2.2 p h0 h1; ⟨v,σ,a.any,b⟩⟩
end
end
section
open F Gr
set_option maxHeartbeats 1000000
def qiZ:Bop->Bool | .and=>true|_=>false
def qq7:Bop->Bool | .or=>true|_=>false
def qtk:Bop->Bool | .gt=>true|_=>false
def qw6:Bop->Bool | .ge=>true|_=>false
def qzV:Bop->Bool | .ne=>true|_=>false
theorem qfL(o:Bop):eqS o.str ⟨#[38,38]⟩=qiZ o:=by cases o<;>kernel_rfl
theorem qji(o:Bop):eqS o.str ⟨#[124,124]⟩=qq7 o:=by cases o<;>kernel_rfl
theorem qph(o:Bop):eqS o.str ⟨#[62]⟩=qtk o:=by cases o<;>kernel_rfl
theorem qpi(o:Bop):eqS o.str ⟨#[62,61]⟩=qw6 o:=by cases o<;>kernel_rfl
theorem qpj(o:Bop):eqS o.str ⟨#[33,61]⟩=qzV o:=by cases o<;>kernel_rfl
end
section
open F Gr
set_option maxHeartbeats 1000000
@[simp] theorem qBV:eqS ⟨#[33]⟩ ⟨#[45]⟩=false:=by kernel_rfl
@[simp] theorem qBW:eqS ⟨#[45]⟩ ⟨#[45]⟩=true:=by kernel_rfl
end
section
open F Gr
set_option maxHeartbeats 1000000
section
variable{vs:List ByteArray}
def qel(vs:List ByteArray):Ss->List (Int->Cd)
 |.nil=>[]
 |.assign _ s e r=>snC (qcY vs e) (3,ixI vs s)::qel vs r
 |.store _ s a b r=>snC (sq (qcY vs a) (qcY vs b)) (5,fieldI s)::qel vs r
 |.effect _ a b r=>snC (sq (qcY vs a) (qcY vs b)) (20,0)::qel vs r
 |.stop r=>(fun _=>[(21,0)])::qel vs r
 |.cond false _ c (.block _ x (.block _ y .nil)) r=>brC (qcY vs c) (codeS vs x) (codeS vs y)::qel vs r
 |.cond true _ c (.block _ x .nil) r=>whC (qcY vs c) (codeS vs x)::qel vs r
 |_=>[]
theorem qim(b:Ss)(p:Int):seqC (qel vs b) p=codeS vs b p:=by
 fun_induction qel vs b generalizing p with
 |case1=>rfl
 |case2 _ _ _ _ ih=>simp only[seqC,codeS,sq,ih]
 |case3 _ _ _ _ _ ih=>simp only[seqC,codeS,sq,ih]
 |case4 _ _ _ _ ih=>simp only[seqC,codeS,sq,ih]
 |case5 _ ih=>simp only[seqC,codeS,sq,ih]
 |case6 _ _ _ _ _ _ _ ih=>simp only[seqC,codeS,sq,ih]
 |case7 _ _ _ _ _ ih=>simp only[seqC,codeS,sq,ih]
 |case8 b h1 h2 h3 h4 h5 h6 h7=>
  unfold codeS
  split<;>first|rfl | (exfalso; first|exact h1 rfl|exact h2 _ _ _ _ rfl|exact h3 _ _ _ _ _ rfl|exact h4 _ _ _ _ rfl|exact h5 _ rfl|exact h6 _ _ _ _ _ _ _ rfl|exact h7 _ _ _ _ _ rfl)
end
end
section
open F
theorem qnV{a b:Ss}(ha:a.fine)(hb:b.fine):(a.app b).fine:=by
 fun_induction Ss.fine a with
 |case1=>exact hb
 |case2 _ _ _ _ ih=>exact⟨ha.1,ih ha.2⟩
 |case3 _ _ _ _ _ ih=>exact⟨ha.1,ih ha.2⟩
 |case4 _ _ _ _ ih=>exact⟨ha.1,ih ha.2⟩
 |case5 _ ih=>exact ih ha
 |case6 _ _ _ _ _ _ _ _ _ ih=>exact⟨ha.1,ha.2.1,ha.2.2.1,ih ha.2.2.2⟩
 |case7 _ _ _ _ _ _ ih=>exact⟨ha.1,ha.2.1,ih ha.2.2⟩
 |case8=>exact ha.elim
theorem qnW{a:Ss}(b:Ss)(ha:a.fine):(a.app b).cost=a.cost+b.cost:=by
 fun_induction Ss.fine a with
 |case1=>simp[Ss.app,Ss.cost]
 |case2 _ _ _ _ ih=>simp only[Ss.app,Ss.cost,ih ha.2]; omega
 |case3 _ _ _ _ _ ih=>simp only[Ss.app,Ss.cost,ih ha.2]; omega
 |case4 _ _ _ _ ih=>simp only[Ss.app,Ss.cost,ih ha.2]; omega
 |case5 _ ih=>simp only[Ss.app,Ss.cost,ih ha]; omega
 |case6 _ _ _ _ _ _ _ _ _ ih=>simp only[Ss.app,Ss.cost,ih ha.2.2.2]; omega
 |case7 _ _ _ _ _ _ ih=>simp only[Ss.app,Ss.cost,ih ha.2.2]; omega
 |case8=>exact ha.elim
theorem quu(a b:Ss):(a.app b).dp=max a.dp b.dp:=by
 induction a<;>simp_all [Ss.app,Ss.dp,Nat.max_assoc]
theorem qqQ(a b:Ss):(a.app b).edp=max a.edp b.edp:=by
 induction a<;>simp_all [Ss.app,Ss.edp,Nat.max_assoc]
section
variable{xs:List Int}{i d c:Int}
abbrev z4O:Ob := .cells [.int 0,.int 0,.str ⟨#[]⟩,.dat (.lit (.slice none 0 0))]
abbrev B0(xs:List Int)(i:Int):S:=[.cells [.dat (qeq xs),.int i],z4O,.cells [.int 7,.int 0,.str ⟨#[]⟩,.dat (.lit (.slice none 0 0))]]
abbrev B1(xs:List Int)(i:Int)(pre:Fo):S:=[.cells [.dat (qeq xs),.int i],z4O,.cells [.int 7,.int 0,.str ⟨#[]⟩,.gsl pre.cells pre.len 4 3],.tip pre.cells.length]
abbrev bfr(d c:Int):Fr:=[(0,.ptr 0 0),(1,.int d),(6,.ptr 1 0),(7,.ptr 2 0),(8,.int c)]
theorem qzI:Z qad (.loop 1 F137l0 (bfr d 0) (B0 xs i))=some (.out (.exit 0) (bfr d 0++[(15,.bool false)]) (B0 xs i)):=by
 rw[qaa]
 simp[qab,qfg,Wa]
theorem qzJ{pre:Fo}:Z qad (.loop 1 F137l0 (bfr d 0) (B1 xs i pre))=some (.out (.exit 0) (bfr d 0++[(15,.bool false)]) (B1 xs i pre)):=by
 rw[qaa]
 simp[qab,qfg,Wa]
theorem qwF {i':Int} {k n:Int} {s:ByteArray} {f:Bool} {ks:Fo} (hc:0<c) (hc':c<100) (h:Z qad (.call 162 [.ptr 0 0,.int d] (gst xs i))=some (.ret (nd k n s f ks) (gst xs i'))) :
  Z qad (.loop 1 F137l0 (bfr d c) (B0 xs i))=Z qad (.loop 1 F137l0 (bfr d (c-1)) (B1 xs i' (.cons k n s f ks .nil))):=by
 have w1:=qai (c-1) (by omega)
 conv=>lhs; rw[qaa]
 simp[qab,qfg,hc,h,w1,qbH,qkr,qao,bfr,B1,z4O,Wa]
theorem qwG {i':Int} {k n:Int} {s:ByteArray} {f:Bool} {ks pre:Fo} (hp:pre.len<1000) (hc:0<c) (hc':c<100) (h:Z qad (.call 162 [.ptr 0 0,.int d] (gst xs i))=some (.ret (nd k n s f ks) (gst xs i'))) :
  Z qad (.loop 1 F137l0 (bfr d c) (B1 xs i pre))=Z qad (.loop 1 F137l0 (bfr d (c-1)) (B1 xs i' (pre.app (.cons k n s f ks .nil)))):=by
 have w1:=qai (c-1) (by omega)
 have r1:qao (pre.len+1) 56=true:=by simp[qao]; omega
 have hl:=qfa pre
 have hl2:=qhP pre (.cons k n s f ks .nil)
 have hl3:=qdq pre (.cons k n s f ks .nil)
 simp only[qan,qaI,qaA,qaO] at hl2 hl3
 conv=>lhs; rw[qaa]
 simp[qab,qfg,hc,h,w1,qbH,qkr,r1,hl,hl2,hl3,bfr,B1,z4O,Wa]
theorem qqR (hS : ∀ j,0<=j/\j<=100->GS xs d j) : ∀ (m:Nat) (j:Int) (pre:Fo),m<=3->(0<=j/\j<=100)->pre.len+m<1000->0<pre.len ->
  ∃ (b:Ss) (i':Int),(b.fine/\b.dp<=d.toNat/\b.edp<=3/\b.fo.size<=m*ssz d.toNat/\Co (8*m) b.cost xs j i')/\(0<=i'/\i'<=100)/\Z qad (.loop 1 F137l0 (bfr d m) (B1 xs j pre))=some (.out (.exit 0) (bfr d 0++[(15,.bool false)]) (B1 xs i' (pre.app b.fo)))
 |0,j,pre,_,h1,hp,hp0=>⟨.nil,j,⟨trivial,WK _,WK _,by simp[Ss.fo],by show _/\_/\((0:Nat):Int)<=_; omega⟩,h1,by rw[show pre.app Ss.nil.fo=pre from qxn pre]; exact qzJ⟩
 |m+1,j,pre,hm,h1,hp,hp0=>by
  obtain⟨st,k,n,s,f,ks,i1,g1,g2,g3,g4⟩:=hS j h1
  obtain⟨b,i2,k1,k2,k3⟩:=qqR hS m i1 (pre.app (.cons k n s f ks .nil)) (by omega) g3 (by rw[qdq]; simp; omega) (by rw[qdq]; simp)
  have hstep:=qwG (d:=d) (c:=(m+1:Nat)) (by omega:pre.len<1000) (by omega) (by omega) g4
  rw[show ((m+1:Nat):Int)-1=m by omega] at hstep
  have hco:Co (8*((m+1:Nat):Int)) (st.app b).cost xs j i2:=by
   obtain⟨q1,q2,q3⟩:=g2.2.2.2.2
   obtain⟨u1,u2,u3⟩:=k1.2.2.2.2
   unfold Co
   rw[qnW b g2.1]
   omega
  refine⟨st.app b,i2,⟨qnV g2.1 k1.1,by rw[quu]; omega,by rw[qqQ]; omega,by rw[qi4,qi1,Nat.succ_mul]; omega,hco⟩,k2,?_⟩
  rw[hstep,k3,qi4,<- qrn,g1]
theorem qqS(hx : ∀ x∈xs,I64 x)(hl:xs.length<=100)(hi:0<=i/\i<=100){m:Int}(hm:0<=m)(hm4:m<=3)(hS : ∀ j,0<=j/\j<=100->GS xs d j):GK xs d m i:=by
 have n1:=qbi (i:=i) (m:=m+1) hx (qbt hl) hi (by omega)
 have l1:=qbc (i:=i) (m:=m+1) hx (by omega)
 have r1:=qax hi (qbt hl)
 have w1:=qai (m+1) (by omega)
 by_cases h0:qaB xs i (m+1)=0
 ·refine⟨.nil,_,⟨trivial,WK _,WK _,by simp[Ss.fo],by show _/\_/\((0:Nat):Int)<=_; rcases qas xs i with ⟨e1,l1⟩|⟨e1,l1⟩<;>omega⟩,r1,?_⟩
  have h:=qzI (xs:=xs) (i:=qaC xs i) (d:=d)
  refine qac (pf:=F137) rfl rfl ?_
  simp only[bfr,Wg,Wc] at h
  simp[F137,n1,w1,h0,h,Ss.fo,Wa]
 ·obtain⟨q,hq⟩ : ∃ q:Nat,qaB xs i (m+1)=((q+1:Nat):Int):=⟨(qaB xs i (m+1)-1).toNat,by omega⟩
  obtain⟨st,k,n,s,f,ks,i1,g1,g2,g3,g4⟩:=hS _ r1
  obtain⟨b,i2,k1,k2,k3⟩:=qqR hS q i1 (.cons k n s f ks .nil) (by omega) g3 (by simp; omega) (by simp)
  have hstep:=qwF (d:=d) (c:=(q+1:Nat)) (by omega) (by omega) g4
  rw[show ((q+1:Nat):Int)-1=q by omega,k3,<- g1,<- qi4,<- hq] at hstep
  have hmul:(q+1)*ssz d.toNat<=m.toNat*ssz d.toNat:=WW _ (by omega)
  rw[Nat.succ_mul] at hmul
  have hco:Co 0 (st.app b).cost xs i i2:=by
   obtain⟨q1,q2,q3⟩:=g2.2.2.2.2
   obtain⟨u1,u2,u3⟩:=k1.2.2.2.2
   unfold Co
   rw[qnW b g2.1]
   rcases qas xs i with ⟨e1,l1⟩|⟨e1,l1⟩
   ·omega
   ·exact absurd (l1 (m+1)) h0
  refine⟨st.app b,i2,⟨qnV g2.1 k1.1,by rw[quu]; omega,by rw[qqQ]; omega,by rw[qi4,qi1]; omega,hco⟩,k2,?_⟩
  have hpos:(st.app b).fo.len≠0:=by rw[qi4,qdq,g1]; simp
  obtain⟨z,hz⟩ : ∃ z,(st.app b).fo.len=z+1:=⟨(st.app b).fo.len-1,by omega⟩
  have hg:=qfa (st.app b).fo
  refine qac (pf:=F137) rfl rfl ?_
  simp only[bfr,Wg,Wc] at hstep
  generalize (st.app b).fo=fo at *
  simp[F137,n1,w1,hstep,hz,Wa]
theorem qAG(hx : ∀ x∈xs,I64 x)(hl:xs.length<=100) : ∀ (n:Nat),n<=50->(∀ j,0<=j/\j<=100->GS xs n j)/\(∀ j,0<=j/\j<=100 -> ∀ m,0<=m->m<=3->GK xs n m j)
 |0,_=>by
  have hs : ∀ j,0<=j/\j<=100->GS xs (0:Nat) j:=fun i hi=>by
   have p:=qbc (i:=i) (m:=10) hx (by omega)
   have q:=qih p.1 (m:=7) (by omega)
   have e:qhU xs (0:Nat) i=(qaB xs i 10).tmod 7:=if_pos (by simp)
   by_cases h1:qhU xs (0:Nat) i<2
   ·exact qlp hx hl hi (by omega)
   by_cases h2:qhU xs (0:Nat) i<5
   ·exact qns hx hl hi (by omega)
   by_cases h3:qhU xs (0:Nat) i=5
   ·exact qlq hx hl hi h3
   ·exact qub hx hl hi (by omega)
  exact⟨hs,fun j hj m h0 h3=>qqS hx hl hj h0 h3 hs⟩
 |n+1,hn=>by
  have ih:=(qAG hx hl n (by omega)).2
  have hd : ¬ ((n+1:Nat):Int)<=0:=by omega
  have hs : ∀ j,0<=j/\j<=100->GS xs (n+1:Nat) j:=fun i hi=>by
   have p:=qbc (i:=i) (m:=10) hx (by omega)
   have e:qhU xs (n+1:Nat) i=qaB xs i 10:=if_neg hd
   have ih' : ∀ j,0<=j/\j<=100->GK xs (((n+1:Nat):Int)-1) 2 j:=fun j hj=>by
    rw[show ((n+1:Nat):Int)-1=n by omega]; exact ih j hj 2 (by omega) (by omega)
   by_cases h1:qhU xs (n+1:Nat) i<2
   ·exact qlp hx hl hi (by omega)
   by_cases h2:qhU xs (n+1:Nat) i<5
   ·exact qns hx hl hi (by omega)
   by_cases h3:qhU xs (n+1:Nat) i=5
   ·exact qlq hx hl hi h3
   by_cases h4:qhU xs (n+1:Nat) i=6
   ·exact qub hx hl hi h4
   by_cases h5:qhU xs (n+1:Nat) i=7
   ·exact qsa hx hl hi hd (by omega) ih' (by omega)
   ·exact qBm hx hl hi hd (by omega) ih' (by omega)
  exact⟨hs,fun j hj m h0 h3=>qqS hx hl hj h0 h3 hs⟩
end
end
end Go.Pm
