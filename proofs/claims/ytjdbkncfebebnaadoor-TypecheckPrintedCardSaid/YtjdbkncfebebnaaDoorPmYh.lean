/- The rule language in plain Lean: expressions written down, and read back. No program in sight. The rule language in plain Lean: statements and programs written down, and read back. No program in sight. The rule language in plain Lean: written tokens stand one behind the other; whole programs read back. No program in sight. The rule language in plain Lean: trees that are equal but for their marks; parsing with other marks. No program in sight. The abstract machine's program: short forms of its operations. -/
import Derived.Test.YtjdbkncfebebnaaDoorPmEt
import Derived.Test.YtjdbkncfebebnaaDoorPmA
set_option linter.unusedSimpArgs false
set_option linter.unusedVariables false
section SYh
namespace Go.Pm
def qmL:Nat->Nat->List UInt8
 | 0,_=>[]
 | k+1,n=>if n<10 then [(48+n).toUInt8] else qmL k (n / 10)++[(48+n % 10).toUInt8]
def decB (n:Nat):List UInt8:=qmL 20 n
theorem qvA : ∀ d,d<10->((48+d).toUInt8).toNat=48+d:=by decide
theorem qpu (l:List UInt8) (c:UInt8):digV (l++[c])=10*digV l+(c.toNat-48):=by simp[digV]
theorem qkj : ∀ k n,n<10 ^ k->1<=k->digV (qmL k n)=n/\(∀ b∈qmL k n,qas b=true) /\ ∃ c r,qmL k n=c::r
 | 0,n,_,h=>by omega
 | k+1,n,h,_=>by
  rw[qmL]
  split
  ·rename_i hn
   have h1:=qvA n hn
   refine⟨by simp only[digV,List.foldl_cons,List.foldl_nil,h1]; omega,fun b hb=>?_,_,_,rfl⟩
   rw[List.mem_singleton.1 hb]
   simp only[qas,h1,Bool.and_eq_true,decide_eq_true_eq]
   omega
  ·rename_i hn
   have h1:=qvA (n % 10) (by omega)
   have hk:1<=k:=by
    rcases k with _ | k
    ·simp at h; omega
    ·omega
   obtain⟨i1,i2,c,r,i3⟩:=qkj k (n / 10) (by rw[Nat.pow_succ] at h; omega) hk
   refine⟨by rw[qpu,i1,h1]; omega,fun b hb=>?_,c,r++[(48+n % 10).toUInt8],by rw[i3]; rfl⟩
   rcases List.mem_append.1 hb with hb | hb
   ·exact i2 b hb
   ·rw[List.mem_singleton.1 hb]
    simp only[qas,h1,Bool.and_eq_true,decide_eq_true_eq]
    omega
theorem qfW {n:Nat} (h:n<10 ^ 20):digV (decB n)=n/\(∀ b∈decB n,qas b=true) /\ ∃ c r,decB n=c::r:=qkj 20 n h (by omega)
theorem qrC {n:Nat} (h:n<=2147483647):Tg (decB n):=by
 obtain⟨h1,h2,c,r,h3⟩:=qfW (n:=n) (by omega)
 rw[h3] at h1 h2 ⊢
 exact .inr (.inl ⟨c,r,rfl,h2 c (List.mem_cons_self ..),fun b hb=>h2 b (List.mem_cons_of_mem _ hb),by omega⟩)
theorem qjq {n:Nat} (h:n<=2147483647):qax qas (bs (decB n))=true:=by
 obtain⟨h1,h2,c,r,h3⟩:=qfW (n:=n) (by omega)
 rw[qby,qc6,h3]
 rw[h3] at h2
 exact h2 c (List.mem_cons_self ..)
def qkk:ByteArray:=bs [116,114,117,101]
def qgN:ByteArray:=bs [102,97,108,115,101]
def qtJ:ByteArray:=bs [115,101,108,102]
def qql:ByteArray:=bs [111,116,104,101,114]
def qh9:ByteArray:=bs [116,105,99,107]
def Bop.prec:Bop->Nat
 | .or=>1 | .and=>2 | .lt | .le | .gt | .ge | .eq | .ne=>4 | .add | .sub=>5 | .mul | .div=>6
def qed (neg:Bool):Nat:=if neg then 7 else 3
def qda (b:Bool) (l:List ByteArray):List ByteArray:=if b then bs [40]::(l++[bs [41]]) else l
def Bop.left (o:Bop):Nat:=if o.prec=4 then 5 else o.prec
def E.tx (full:Bool):E->Nat->List ByteArray
 | .int n,_=>[bs (decB n.toNat)]
 | .bool n,_=>[if n=0 then qgN else qkk]
 | .var s,_=>[s]
 | .name s,_=>[s]
 | .field _ s e,_=>s::bs [91]::(e.tx full 1++[bs [93]])
 | .un _ neg e,p=>qda (full||decide (qed neg<p)) (ustr neg::e.tx full (qed neg))
 | .bin _ o a b,p=>qda (full||decide (o.prec<p)) (a.tx full o.left++o.str::b.tx full (o.prec+1))
def E.nest (full:Bool):E->Nat->Nat
 | .field _ _ e,_=>e.nest full 1+1
 | .un _ neg e,p=>e.nest full (qed neg)+1+if (full||decide (qed neg<p))=true then 1 else 0
 | .bin _ o a b,p=>max (a.nest full o.left) (b.nest full (o.prec+1))+if (full||decide (o.prec<p))=true then 1 else 0
 | _,_=>0
def E.good:E->Prop
 | .int n=>0<=n/\n<=2147483647
 | .bool n=>n=0\/n=1
 | .var s=>Tg (byl s)/\qax qaQ s=true/\s∉fieldNames/\s∉wordNames
 | .name s=>s=qtJ\/s=qql\/s=qh9
 | .field _ s e=>s∈fieldNames/\e.good
 | .un _ _ e=>e.good
 | .bin _ _ a b=>a.good/\b.good
def E.fl (f:Bool):E->E
 | .int n => .int n
 | .bool n => .bool n
 | .var s => .var s
 | .name s => .name s
 | .field _ s e => .field f s (e.fl f)
 | .un _ neg e => .un f neg (e.fl f)
 | .bin _ o a b => .bin f o (a.fl f) (b.fl f)
theorem qbG (o:Bop):(o.prec=1/\o.left=1)\/(o.prec=2/\o.left=2)\/(o.prec=4/\o.left=5)\/(o.prec=5/\o.left=5)\/(o.prec=6/\o.left=6):=by cases o<;>simp[Bop.prec,Bop.left]
def Hx:List ByteArray->List Tk->List Tk->Prop
 | [],ts,r=>ts=r
 | x::l,ts,r => ∃ t q,ts=t::q/\t.s=x/\t.bad=0/\Hx l q r
theorem hx_app : ∀ {a b:List ByteArray} {ts r:List Tk},Hx (a++b) ts r ↔ ∃ m,Hx a ts m/\Hx b m r
 | [],b,ts,r=>⟨fun h=>⟨ts,rfl,h⟩,fun ⟨m,h1,h2⟩=>by cases h1; exact h2⟩
 | x::a,b,ts,r=>by
  simp only[List.cons_append,Hx]
  constructor
  ·rintro ⟨t,q,h1,h2,h3,h4⟩
   obtain⟨m,h5,h6⟩:=hx_app.1 h4
   exact⟨m,⟨t,q,h1,h2,h3,h5⟩,h6⟩
  ·rintro ⟨m,⟨t,q,h1,h2,h3,h5⟩,h6⟩
   exact⟨t,q,h1,h2,h3,hx_app.2 ⟨m,h5,h6⟩⟩
theorem qbY {x:ByteArray} {l:List ByteArray} {ts r:List Tk} (h:Hx (x::l) ts r):nx ts=some x/\Hx l ts.tail r:=by
 obtain⟨t,q,h1,h2,h3,h4⟩:=h
 subst h1
 simp[nx,h3,h2]
 exact h4
theorem qcq {eS:Nat} {x:ByteArray} {l:List ByteArray} {ts r:List Tk} (h:Hx (x::l) ts r):qaO eS x ts = .ok () ts.tail:=by
 obtain⟨t,q,h1,h2,h3,h4⟩:=h
 subst h1
 simp[qaO,h3,h2]
theorem qfl {eS eL lv:Nat} {x:ByteArray} {l:List ByteArray} {ts r:List Tk} (h:Hx (x::l) ts r) (hl:lv<=20):qdF eS eL x lv ts = .ok () ts.tail:=by
 rw[qdF,if_neg (by omega)]
 exact qcq h
def Stops (p:Nat) (r:List Tk):Prop := ∃ s,nx r=some s /\ ∀ q,p<=q->qkL q s=none
theorem Stops.mono {p q:Nat} {r:List Tk} (h:Stops p r) (hq:p<=q):Stops q r:=by
 obtain⟨s,h1,h2⟩:=h
 exact⟨s,h1,fun k hk=>h2 k (by omega)⟩
theorem qpv (o:Bop):qkL o.prec o.str=some o:=by cases o<;>rfl
theorem qmw (o:Bop) (q:Nat) (h:q≠o.prec):qkL q o.str=none:=by
 rcases q with _ | _ | _ | _ | _ | _ | _ | q
 all_goals first | rfl | skip
 all_goals cases o<;>first | rfl | exact absurd rfl h
theorem qk5 (full:Bool) : ∀ (e:E),e.good -> ∀ p,∃ x l,e.tx full p=x::l/\(x=ustr false->p<=3)/\(x=ustr true->p<=7)
 | .int n,h,p=>by
  have hd:=qjq (n:=n.toNat) (by have:=h.1; have:=h.2; omega)
  refine⟨_,_,rfl,fun hx=>?_,fun hx=>?_⟩
  all_goals
   rw[hx] at hd
   exact absurd hd (by decide)
 | .bool n,h,p=>by
  refine⟨_,_,rfl,fun hx=>?_,fun hx=>?_⟩
  all_goals split at hx<;>exact absurd hx (by decide)
 | .var s,h,p=>by
  refine⟨_,_,rfl,fun hx=>?_,fun hx=>?_⟩
  all_goals
   have:=h.2.1
   rw[hx] at this
   exact absurd this (by decide)
 | .name s,h,p=>by
  refine⟨_,_,rfl,fun hx=>?_,fun hx=>?_⟩
  all_goals rcases h with rfl | rfl | rfl<;>exact absurd hx (by decide)
 | .field f s e,h,p=>by
  refine⟨_,_,rfl,fun hx=>?_,fun hx=>?_⟩
  all_goals
   have:=h.1
   rw[hx] at this
   exact absurd this (by decide)
 | .un f neg e,h,p=>by
  simp only[E.tx,qda]
  split
  ·exact⟨_,_,rfl,fun hx=>absurd hx (by decide),fun hx=>absurd hx (by decide)⟩
  ·rename_i hc
   simp only[Bool.or_eq_true,not_or,decide_eq_true_eq,Nat.not_lt] at hc
   refine⟨_,_,rfl,fun hx=>?_,fun hx=>?_⟩
   ·cases neg with
    | true=>exact absurd hx (by decide)
    | false=>exact hc.2
   ·cases neg with
    | true=>exact hc.2
    | false=>exact absurd hx (by decide)
 | .bin f o a b,h,p=>by
  simp only[E.tx,qda]
  split
  ·exact⟨_,_,rfl,fun hx=>absurd hx (by decide),fun hx=>absurd hx (by decide)⟩
  ·rename_i hc
   simp only[Bool.or_eq_true,not_or,decide_eq_true_eq,Nat.not_lt] at hc
   obtain⟨x,l,h1,h2,h3⟩:=qk5 full a h.1 o.left
   refine⟨x,l++o.str::b.tx full (o.prec+1),by rw[h1]; rfl,fun hx=>?_,fun hx=>?_⟩
   ·have:=h2 hx; have:=hc.2
    rcases qbG o with h | h | h | h | h<;>omega
   ·have:=h3 hx; have:=hc.2
    rcases qbG o with h | h | h | h | h<;>omega
section
variable {eS eL:Nat} {f:Bool}
theorem qnQ {n q lv:Nat} {ts r:List Tk} {e:E} (h:qao eS eL f n q lv ts=some (.ok e r)) (hq:q<=8) : ∀ (k p:Nat),p+k=q->1<=p->Stops p r ->
  (p<=3->3<q->nx ts≠some (ustr false))->(p<=7->7<q->nx ts≠some (ustr true)) -> ∃ m,qao eS eL f m p lv ts=some (.ok e r)
 | 0,p,hp,h1,_,_,_=>⟨n,by rw[show p=q by omega]; exact h⟩
 | k+1,p,hp,h1,hs,h3,h7=>by
  obtain⟨m,hm⟩:=qnQ h hq k (p+1) (by omega) (by omega) (hs.mono (by omega)) (fun a b=>h3 (by omega) b) (fun a b=>h7 (by omega) b)
  refine⟨m+2,?_⟩
  rw[qao,if_neg,if_pos (by omega),qa2 hm (Nat.le_succ m)]
  ·obtain⟨s,hs1,hs2⟩:=hs
   simp only[qcx,hs1,hs2 p (Nat.le_refl p)]
  ·rintro (⟨h8,h9⟩ | ⟨h8,h9⟩)
   ·exact h3 (by omega) (by omega) h9
   ·exact h7 (by omega) (by omega) h9
theorem qfm (x:ByteArray) (hx : ∀ q,qkL q x=none) {p:Nat} {l:List ByteArray} {ts r:List Tk} (h:Hx (x::l) ts r):Stops p ts:=⟨x,(qbY h).1,fun q _=>hx q⟩
theorem qhK (x:ByteArray) (h : ∀ o:Bop,o.str≠x) (q:Nat):qkL q x=none:=by
 unfold qkL
 rw[List.find?_eq_none]
 intro o _
 simp[h o]
theorem qlT {lv p:Nat} {ts r:List Tk} {e:E} {l:List ByteArray} (ho:Hx (bs [40]::(l++[bs [41]])) ts r) (hl:lv+1<=20)
  (hb : ∀ mid,Hx l ts.tail mid->Stops 1 mid -> ∃ m,qao eS eL f m 1 (lv+1) ts.tail=some (.ok e mid)) (h1:1<=p) (h8:p<=8) (hs:Stops p r) : ∃ n,qao eS eL f n p lv ts=some (.ok e r):=by
 obtain⟨hn,ht⟩:=qbY ho
 obtain⟨mid,hm1,hm2⟩:=hx_app.1 ht
 have hst:Stops 1 mid:=qfm _ (qhK _ (by intro o; cases o<;>decide)) hm2
 obtain⟨m,hm⟩:=hb mid hm1 hst
 have hx:=qcq (eS:=eS) hm2
 have hend:mid.tail=r:=(qbY hm2).2
 have base:qao eS eL f (m+1) 8 lv ts=some (.ok e r):=by
  rw[qao,if_neg (by rintro (⟨h,_⟩ | ⟨h,_⟩)<;>omega),if_neg (by omega),hn]
  simp only
  rw[if_neg (by decide),if_neg (by decide),if_neg (by decide),if_neg (by decide),if_neg (by decide),if_neg (by decide),qfl ho hl]
  simp only[hm,hx,hend]
 exact qnQ base (by omega) (8-p) p (by omega) h1 hs (fun _ _=>by rw[hn]; decide) (fun _ _=>by rw[hn]; decide)
theorem rb (full:Bool) : ∀ e:E,e.good ->
  (∀ p lv ts r,1<=p->p<=8->Hx (e.tx full p) ts r->lv+e.nest full p<=20->Stops p r -> ∃ n,qao eS eL f n p lv ts=some (.ok (e.fl f) r)) /\
  (∀ q lv ts r,1<=q->q<=6->q≠4->q≠3->Hx (e.tx full q) ts r->lv+e.nest full q<=20->Stops (q+1) r ->
   ∃ n e0 r0,qao eS eL f n (q+1) lv ts=some (.ok e0 r0) /\ ∀ m x,qcx eS eL f m q lv (e.fl f) r=some x -> ∃ m',qcx eS eL f m' q lv e0 r0=some x):=by
 have prim : ∀ (e:E) (x:ByteArray) lv ts r,(∃ n,qao eS eL f n 8 lv ts=some (.ok (e.fl f) r))->nx ts=some x->x≠ustr false->x≠ustr true ->
   (∀ p,1<=p->p<=8->Stops p r -> ∃ n,qao eS eL f n p lv ts=some (.ok (e.fl f) r)):=fun e x lv ts r ⟨n,hn⟩ hx h1 h2 p hp1 hp8 hs=>
  qnQ hn (by omega) (8-p) p (by omega) hp1 hs (fun _ _ h=>h1 (by rw[hx] at h; exact Option.some.inj h)) (fun _ _ h=>h2 (by rw[hx] at h; exact Option.some.inj h))
 have self : ∀ (e:E) q lv ts r,(∃ n,qao eS eL f n (q+1) lv ts=some (.ok (e.fl f) r)) -> ∃ n e0 r0,qao eS eL f n (q+1) lv ts=some (.ok e0 r0) /\ ∀ m x,qcx eS eL f m q lv (e.fl f) r=some x -> ∃ m',qcx eS eL f m' q lv e0 r0=some x:=
  fun e q lv ts r ⟨n,hn⟩=>⟨n,_,_,hn,fun m x h=>⟨m,h⟩⟩
 intro e
 induction e with
 | int n=>
  intro hg
  obtain⟨g1,g2⟩:=hg
  have hd:=qjq (n:=n.toNat) (by omega)
  have A : ∀ p lv ts r,1<=p->p<=8->Hx ((E.int n).tx full p) ts r->lv+(E.int n).nest full p<=20->Stops p r -> ∃ k,qao eS eL f k p lv ts=some (.ok ((E.int n).fl f) r):=fun p lv ts r h1 h8 hx _ hs=>by
   obtain⟨hn,ht⟩:=qbY hx
   cases ht
   have n1:bs (decB n.toNat)≠ustr false:=by intro h; rw[h] at hd; exact absurd hd (by decide)
   have n2:bs (decB n.toNat)≠ustr true:=by intro h; rw[h] at hd; exact absurd hd (by decide)
   refine prim (.int n) _ lv ts _ ⟨1,?_⟩ hn n1 n2 p h1 h8 hs
   rw[qao,if_neg (by rintro (⟨h,_⟩ | ⟨h,_⟩)<;>omega),if_neg (by omega),hn]
   simp only
   rw[if_pos hd,ByteArray.toList_eq]
   have:=(qfW (n:=n.toNat) (by omega)).1
   rw[show (bs (decB n.toNat)).data.toList=decB n.toNat from qc6 _,this,show ((n.toNat:Nat):Int)=n by omega]
   rfl
  exact⟨A,fun q lv ts r h1 h6 _ _ hx hl hs=>self _ q lv ts r (A (q+1) lv ts r (by omega) (by omega) hx hl hs)⟩
 | bool n=>
  intro hg
  have A : ∀ p lv ts r,1<=p->p<=8->Hx ((E.bool n).tx full p) ts r->lv+(E.bool n).nest full p<=20->Stops p r -> ∃ k,qao eS eL f k p lv ts=some (.ok ((E.bool n).fl f) r):=fun p lv ts r h1 h8 hx _ hs=>by
   obtain⟨hn,ht⟩:=qbY hx
   cases ht
   refine prim (.bool n) _ lv ts _ ⟨1,?_⟩ hn (by split<;>decide) (by split<;>decide) p h1 h8 hs
   rw[qao,if_neg (by rintro (⟨h,_⟩ | ⟨h,_⟩)<;>omega),if_neg (by omega),hn]
   rcases hg with rfl | rfl
   ·simp only[if_true]
    rw[if_neg (by decide),if_neg (by decide),if_pos (by rfl)]; rfl
   ·rw[if_neg (by decide)]
    simp only
    rw[if_neg (by decide),if_pos (by rfl)]; rfl
  exact⟨A,fun q lv ts r h1 h6 _ _ hx hl hs=>self _ q lv ts r (A (q+1) lv ts r (by omega) (by omega) hx hl hs)⟩
 | var s=>
  intro hg
  obtain⟨g1,g2,g3,g4⟩:=hg
  have A : ∀ p lv ts r,1<=p->p<=8->Hx ((E.var s).tx full p) ts r->lv+(E.var s).nest full p<=20->Stops p r -> ∃ k,qao eS eL f k p lv ts=some (.ok ((E.var s).fl f) r):=fun p lv ts r h1 h8 hx _ hs=>by
   obtain⟨hn,ht⟩:=qbY hx
   cases ht
   have n1:s≠ustr false:=by rintro rfl; exact absurd g2 (by decide)
   have n2:s≠ustr true:=by rintro rfl; exact absurd g2 (by decide)
   refine prim (.var s) _ lv ts _ ⟨1,?_⟩ hn n1 n2 p h1 h8 hs
   have nd : ¬ qax qas s=true:=by
    rw[qby] at g2 ⊢
    cases hh:(byl s).head? with
    | none=>simp
    | some c=>
     rw[hh] at g2
     simp only[qas,qaQ,Bool.and_eq_true,decide_eq_true_eq] at g2 ⊢
     omega
   have w : ∀ x∈wordNames,s≠x:=fun x hx he=>g4 (he ▸ hx)
   rw[qao,if_neg (by rintro (⟨h,_⟩ | ⟨h,_⟩)<;>omega),if_neg (by omega),hn]
   simp only
   rw[if_neg nd,if_neg (w _ (by decide)),if_neg (w _ (by decide)),if_neg (by
    rintro (h | h | h)
    ·exact w _ (by decide) h
    ·exact w _ (by decide) h
    ·exact w _ (by decide) h),if_neg g3,if_pos ⟨g2,g4⟩]
   rfl
  exact⟨A,fun q lv ts r h1 h6 _ _ hx hl hs=>self _ q lv ts r (A (q+1) lv ts r (by omega) (by omega) hx hl hs)⟩
 | name s=>
  intro hg
  have A : ∀ p lv ts r,1<=p->p<=8->Hx ((E.name s).tx full p) ts r->lv+(E.name s).nest full p<=20->Stops p r -> ∃ k,qao eS eL f k p lv ts=some (.ok ((E.name s).fl f) r):=fun p lv ts r h1 h8 hx _ hs=>by
   obtain⟨hn,ht⟩:=qbY hx
   cases ht
   refine prim (.name s) _ lv ts _ ⟨1,?_⟩ hn (by rcases hg with rfl | rfl | rfl<;>decide) (by rcases hg with rfl | rfl | rfl<;>decide) p h1 h8 hs
   rw[qao,if_neg (by rintro (⟨h,_⟩ | ⟨h,_⟩)<;>omega),if_neg (by omega),hn]
   rcases hg with rfl | rfl | rfl<;>simp only<;>rw[if_neg (by decide),if_neg (by decide),if_neg (by decide),if_pos (by decide)]<;>rfl
  exact⟨A,fun q lv ts r h1 h6 _ _ hx hl hs=>self _ q lv ts r (A (q+1) lv ts r (by omega) (by omega) hx hl hs)⟩
 | field g s e ih=>
  intro hg
  obtain⟨g1,g2⟩:=hg
  have ihA:=(ih g2).1
  have A : ∀ p lv ts r,1<=p->p<=8->Hx ((E.field g s e).tx full p) ts r->lv+(E.field g s e).nest full p<=20->Stops p r -> ∃ k,qao eS eL f k p lv ts=some (.ok ((E.field g s e).fl f) r):=fun p lv ts r h1 h8 hx hl hs=>by
   obtain⟨hn,ht⟩:=qbY hx
   obtain⟨hn2,ht2⟩:=qbY ht
   obtain⟨mid,hm1,hm2⟩:=hx_app.1 ht2
   simp only[E.nest] at hl
   have hst:Stops 1 mid:=qfm _ (qhK _ (by intro o; cases o<;>decide)) hm2
   obtain⟨k,hk⟩:=ihA 1 (lv+1) _ mid (by omega) (by omega) hm1 (by omega) hst
   have hx2:=qcq (eS:=eS) hm2
   have hend:mid.tail=r:=(qbY hm2).2
   have hi:qb1 eS eL f (k+1) lv ts.tail=some (.ok (e.fl f) r):=by
    rw[qb1,qfl ht (by omega)]
    simp only[hk,hx2,hend]
   have hs' : ∀ x:ByteArray,x∉fieldNames->s≠x:=fun x hx he=>hx (he ▸ g1)
   refine prim (.field g s e) _ lv ts _ ⟨k+2,?_⟩ hn (hs' _ (by decide)) (hs' _ (by decide)) p h1 h8 hs
   have nd : ¬ qax qas s=true:=by
    simp only[fieldNames,List.mem_cons,List.not_mem_nil,or_false] at g1
    rcases g1 with h | h | h | h | h | h | h | h<;>rw[h]<;>decide
   rw[qao,if_neg (by rintro (⟨h,_⟩ | ⟨h,_⟩)<;>omega),if_neg (by omega),hn]
   simp only
   rw[if_neg nd,if_neg (hs' _ (by decide)),if_neg (hs' _ (by decide)),if_neg (by
    rintro (h | h | h)
    ·exact hs' _ (by decide) h
    ·exact hs' _ (by decide) h
    ·exact hs' _ (by decide) h),if_pos g1,hi]
   rfl
  exact⟨A,fun q lv ts r h1 h6 _ _ hx hl hs=>self _ q lv ts r (A (q+1) lv ts r (by omega) (by omega) hx hl hs)⟩
 | un g neg e ih=>
  intro hg
  have ihA:=(ih hg).1
  have bare : ∀ lv ts r,Hx (ustr neg::e.tx full (qed neg)) ts r->lv+e.nest full (qed neg)+1<=20 -> ∀ p,1<=p->p<=qed neg->Stops p r -> ∃ k,qao eS eL f k p lv ts=some (.ok ((E.un g neg e).fl f) r):=fun lv ts r hx hl p h1 hp hs=>by
   obtain⟨hn,ht⟩:=qbY hx
   obtain⟨k,hk⟩:=ihA (qed neg) (lv+1) _ r (by cases neg<;>decide) (by cases neg<;>decide) ht (by omega) (hs.mono hp)
   have base:qao eS eL f (k+1) (qed neg) lv ts=some (.ok ((E.un g neg e).fl f) r):=by
    rw[qao]
    cases neg with
    | false=>
     rw[if_pos (.inl ⟨rfl,hn⟩)]
     simp only[qed,Bool.false_eq_true,if_false] at hk ⊢
     rw[show ustr ((3:Nat)==7)=ustr false from rfl,qfl hx (by omega)]
     simp only[hk]
     rfl
    | true=>
     rw[if_pos (.inr ⟨rfl,hn⟩)]
     simp only[qed,if_true] at hk ⊢
     rw[show ustr ((7:Nat)==7)=ustr true from rfl,qfl hx (by omega)]
     simp only[hk]
     rfl
   refine qnQ base (by cases neg<;>decide) (qed neg-p) p (by omega) h1 hs (fun a b=>?_) (fun a b=>?_)
   ·cases neg with
    | false=>exact absurd b (by decide)
    | true=>rw[hn]; decide
   ·cases neg<;>exact absurd b (by decide)
  have A : ∀ p lv ts r,1<=p->p<=8->Hx ((E.un g neg e).tx full p) ts r->lv+(E.un g neg e).nest full p<=20->Stops p r -> ∃ k,qao eS eL f k p lv ts=some (.ok ((E.un g neg e).fl f) r):=fun p lv ts r h1 h8 hx hl hs=>by
   simp only[E.tx,E.nest,qda] at hx hl
   by_cases c:(full||decide (qed neg<p))=true
   ·rw[if_pos c] at hx hl
    exact qlT hx (by omega) (fun mid hm hst=>bare (lv+1) _ mid hm (by omega) 1 (by omega) (by cases neg<;>decide) hst) h1 h8 hs
   ·rw[if_neg c] at hx hl
    simp only[Bool.or_eq_true,not_or,decide_eq_true_eq,Nat.not_lt] at c
    exact bare lv ts r hx (by omega) p h1 c.2 hs
  refine⟨A,fun q lv ts r h1 h6 h4 h3 hx hl hs=>self _ q lv ts r (A (q+1) lv ts r (by omega) (by omega) ?_ ?_ hs)⟩
  ·have:(decide (qed neg<q+1))=decide (qed neg<q):=by
    rw[decide_eq_decide]; cases neg<;>simp only[qed]<;>constructor<;>intro h<;>simp at h ⊢ <;> omega
   simp only[E.tx,this] at hx ⊢
   exact hx
  ·have:(decide (qed neg<q+1))=decide (qed neg<q):=by
    rw[decide_eq_decide]; cases neg<;>simp only[qed]<;>constructor<;>intro h<;>simp at h ⊢ <;> omega
   simp only[E.nest,this] at hl ⊢
   exact hl
 | bin g o a b iha ihb=>
  intro hg
  obtain⟨aA,aB⟩:=iha hg.1
  obtain⟨bA,-⟩:=ihb hg.2
  have hp:=qbG o
  have loop : ∀ lv ts r,Hx (a.tx full o.left++o.str::b.tx full (o.prec+1)) ts r->lv+max (a.nest full o.left) (b.nest full (o.prec+1))<=20->Stops (o.prec+1) r ->
    ∃ n e0 r0,qao eS eL f n (o.prec+1) lv ts=some (.ok e0 r0)/\(∀ m x,(if o.prec=4 then some (.ok ((E.bin g o a b).fl f) r) else qcx eS eL f m o.prec lv ((E.bin g o a b).fl f) r)=some x -> ∃ m',qcx eS eL f m' o.prec lv e0 r0=some x):=fun lv ts r hx hl hs=>by
   obtain⟨mid,hm1,hm2⟩:=hx_app.1 hx
   obtain⟨hn,ht⟩:=qbY hm2
   have hst:Stops (o.prec+1) mid:=⟨_,hn,fun q hq=>qmw o q (by omega)⟩
   obtain⟨k,hk⟩:=bA (o.prec+1) lv _ r (by omega) (by omega) ht (by omega) hs
   have fin : ∀ m x,(if o.prec=4 then some (.ok ((E.bin g o a b).fl f) r) else qcx eS eL f m o.prec lv ((E.bin g o a b).fl f) r)=some x -> ∃ m',qcx eS eL f m' o.prec lv (a.fl f) mid=some x:=fun m x h=>by
    refine⟨max k m+1,?_⟩
    rw[qcx,hn]
    simp only[qpv]
    rw[qa2 hk (Nat.le_max_left k m)]
    simp only
    by_cases c:o.prec=4
    ·rw[if_pos c] at h ⊢; exact h
    ·rw[if_neg c] at h ⊢; exact qiA h (Nat.le_max_right k m)
   by_cases c:o.prec=4
   ·have hleft:o.left=o.prec+1:=by omega
    obtain⟨n,hn'⟩:=aA (o.prec+1) lv ts mid (by omega) (by omega) (hleft ▸ hm1) (by rw[<- hleft]; omega) hst
    exact⟨n,_,_,hn',fin⟩
   ·have hleft:o.left=o.prec:=by omega
    rw[hleft] at hm1 hl
    obtain⟨n,e0,r0,h1,h2⟩:=aB o.prec lv ts mid (by omega) (by omega) c (by omega) hm1 (by omega) hst
    refine⟨n,e0,r0,h1,fun m x h=>?_⟩
    obtain⟨m',hm'⟩:=fin m x h
    exact h2 m' x hm'
  have bare : ∀ lv ts r,Hx (a.tx full o.left++o.str::b.tx full (o.prec+1)) ts r->lv+max (a.nest full o.left) (b.nest full (o.prec+1))<=20 -> ∀ p,1<=p->p<=o.prec->Stops p r -> ∃ k,qao eS eL f k p lv ts=some (.ok ((E.bin g o a b).fl f) r):=fun lv ts r hx hl p h1 hpo hs=>by
   obtain⟨n,e0,r0,h2,h3⟩:=loop lv ts r hx hl (hs.mono (by omega))
   have hend:qcx eS eL f 1 o.prec lv ((E.bin g o a b).fl f) r=some (.ok ((E.bin g o a b).fl f) r):=by
    obtain⟨s,hs1,hs2⟩:=hs
    simp only[qcx,hs1,hs2 o.prec hpo]
   obtain⟨m',hm'⟩:=h3 1 _ (by split<;>first | rfl | exact hend)
   obtain⟨x,l,q1,q2,q3⟩:=qk5 full a hg.1 o.left
   have hnx:nx ts=some x:=by
    rw[q1] at hx
    exact (qbY hx).1
   have base:qao eS eL f (max n m'+1) o.prec lv ts=some (.ok ((E.bin g o a b).fl f) r):=by
    rw[qao,if_neg (by rintro (⟨h,_⟩ | ⟨h,_⟩)<;>omega),if_pos (by omega),qa2 h2 (Nat.le_max_left n m')]
    exact qiA hm' (Nat.le_max_right n m')
   refine qnQ base (by omega) (o.prec-p) p (by omega) h1 hs (fun c1 c2 h=>?_) (fun c1 c2=>by omega)
   have:=q2 (Option.some.inj (hnx.symm.trans h))
   omega
  have A : ∀ p lv ts r,1<=p->p<=8->Hx ((E.bin g o a b).tx full p) ts r->lv+(E.bin g o a b).nest full p<=20->Stops p r -> ∃ k,qao eS eL f k p lv ts=some (.ok ((E.bin g o a b).fl f) r):=fun p lv ts r h1 h8 hx hl hs=>by
   simp only[E.tx,E.nest,qda] at hx hl
   by_cases c:(full||decide (o.prec<p))=true
   ·rw[if_pos c] at hx hl
    exact qlT hx (by omega) (fun mid hm hst=>bare (lv+1) _ mid hm (by omega) 1 (by omega) (by omega) hst) h1 h8 hs
   ·rw[if_neg c] at hx hl
    simp only[Bool.or_eq_true,not_or,decide_eq_true_eq,Nat.not_lt] at c
    exact bare lv ts r hx (by omega) p h1 c.2 hs
  refine⟨A,fun q lv ts r h1 h6 h4 h3 hx hl hs=>?_⟩
  by_cases c:full=false/\o.prec=q
  ·obtain⟨c1,rfl⟩:=c
   have hf : ¬ (full||decide (o.prec<o.prec))=true:=by simp[c1]
   simp only[E.tx,E.nest,qda,if_neg hf] at hx hl
   obtain⟨n,e0,r0,h5,h7⟩:=loop lv ts r hx (by omega) hs
   exact⟨n,e0,r0,h5,fun m x h=>h7 m x (by rw[if_neg h4]; exact h)⟩
  ·have hd:(full||decide (o.prec<q+1))=(full||decide (o.prec<q)):=by
    cases full with
    | true=>rfl
    | false=>
     have:o.prec≠q:=fun h=>c ⟨rfl,h⟩
     simp only[Bool.false_or,decide_eq_decide]
     omega
   refine self _ q lv ts r (A (q+1) lv ts r (by omega) (by omega) ?_ ?_ hs)
   ·simp only[E.tx,hd] at hx ⊢
    exact hx
   ·simp only[E.nest,hd] at hl ⊢
    exact hl
end
end Go.Pm
end SYh
section SYi
namespace Go.Pm
def ifS:ByteArray:=bs [105,102]
def qjp:ByteArray:=bs [101,108,115,101]
def qnN:ByteArray:=bs [119,104,105,108,101]
def qk4:ByteArray:=bs [101,102,102,101,99,116]
def qrz:ByteArray:=bs [115,116,111,112]
def onS:ByteArray:=bs [111,110]
def qgl:Ss->Bool
 | .block _ .nil _=>false
 | .block _ _ _=>true
 | _=>false
def Ss.tx:Ss->List ByteArray
 | .nil=>[]
 | .assign _ s e r=>s::bs [61]::(e.tx false 1++(bs [59]::r.tx))
 | .store _ s a b r=>s::bs [91]::(a.tx false 1++(bs [93]::bs [61]::(b.tx false 1++(bs [59]::r.tx))))
 | .effect _ a b r=>qk4::(a.tx false 1++(bs [44]::(b.tx false 1++(bs [59]::r.tx))))
 | .stop r=>qrz::bs [59]::r.tx
 | .cond w _ c b r=>(if w then qnN else ifS)::(c.tx false 1++(b.tx++r.tx))
 | .block _ b r=>bs [123]::(b.tx++(bs [125]::(if qgl r then qjp::r.tx else [])))
def qnO (s:ByteArray):Prop:=Tg (byl s)/\qax qaQ s=true/\s∉fieldNames/\s∉wordNames
def Ss.good:Ss->Option Nat->Prop
 | .nil,m=>m=none\/m=some 0
 | .assign _ s e r,m=>m=none/\qnO s/\e.good/\r.good none
 | .store _ s a b r,m=>m=none/\s∈fieldNames/\a.good/\b.good/\r.good none
 | .effect _ a b r,m=>m=none/\a.good/\b.good/\r.good none
 | .stop r,m=>m=none/\r.good none
 | .cond w _ c b r,m=>m=none/\c.good/\b.good (some (if w then 1 else 2))/\r.good none
 | .block _ b r,m => ∃ n,m=some (n+1)/\b.good none/\r.good (some n)
def Ss.nest:Ss->Nat
 | .nil=>0
 | .assign _ _ e r=>max (e.nest false 1) r.nest
 | .store _ _ a b r=>max (a.nest false 1+1) (max (b.nest false 1) r.nest)
 | .effect _ a b r=>max (a.nest false 1) (max (b.nest false 1) r.nest)
 | .stop r=>r.nest
 | .cond _ _ c b r=>max (c.nest false 1) (max (b.nest+1) r.nest)
 | .block _ b r=>max b.nest r.nest
def Ss.fl (f fi fb:Bool):Ss->Ss
 | .nil => .nil
 | .assign _ s e r => .assign f s (e.fl f) (r.fl f fi fb)
 | .store _ s a b r => .store f s (a.fl f) (b.fl f) (r.fl f fi fb)
 | .effect _ a b r => .effect f (a.fl f) (b.fl f) (r.fl f fi fb)
 | .stop r => .stop (r.fl f fi fb)
 | .cond w _ c b r => .cond w (if w then f else fi) (c.fl f) (b.fl f fi fb) (r.fl f fi fb)
 | .block _ b r => .block fb (b.fl f fi fb) (r.fl f fi fb)
theorem qmu (a:Ss):a.app .nil=a:=by induction a<;>simp_all [Ss.app]
theorem qbT (a b c:Ss):(a.app b).app c=a.app (b.app c):=by induction a<;>simp_all [Ss.app]
theorem qfk {s x:ByteArray} (h:qnO s) (hx:x∈fieldNames\/x∈wordNames\/qax qaQ x=false):s≠x:=by
 rintro rfl
 rcases hx with hx | hx | hx
 ·exact h.2.2.1 hx
 ·exact h.2.2.2 hx
 ·rw[h.2.1] at hx; cases hx
theorem qd4 {s x:ByteArray} (h:s∈fieldNames) (hx:x∉fieldNames):s≠x:=fun e=>hx (e ▸ h)
theorem qrA : ∀ (s:Ss),s.good none -> ∃ x l,s.tx++[bs [125]]=x::l/\x≠qjp/\(s ≠ .nil->x≠bs [125])
 | .nil,_=>⟨_,_,rfl,by decide,fun h=>absurd rfl h⟩
 | .assign f s e r,h=>⟨_,_,rfl,qfk h.2.1 (.inr (.inl (by decide))),fun _=>qfk h.2.1 (.inr (.inr (by decide)))⟩
 | .store f s a b r,h=>⟨_,_,rfl,qd4 h.2.1 (by decide),fun _=>qd4 h.2.1 (by decide)⟩
 | .effect f a b r,h=>⟨_,_,rfl,by decide,fun _=>by decide⟩
 | .stop r,h=>⟨_,_,rfl,by decide,fun _=>by decide⟩
 | .cond w f c b r,h=>by
  refine⟨_,_,rfl,?_,fun _=>?_⟩<;>cases w<;>decide
 | .block f b r,h=>by obtain⟨n,hn,_⟩:=h; cases hn
section
variable {eS eL:Nat} {f fi fb:Bool}
def qwj (eS eL:Nat) (f fi fb:Bool):Ss->Prop
 | .block _ b r=>(∀ lv ts q,Hx (bs [123]::(b.tx++[bs [125]])) ts q->lv+b.nest<=20 -> ∃ n,qbk eS eL f fi fb n lv ts=some (.ok (b.fl f fi fb) q))/\qwj eS eL f fi fb r
 | _=>True
theorem qtI (x:ByteArray) (hx : ∀ o:Bop,o.str≠x) {l:List ByteArray} {ts r:List Tk} (h:Hx (x::l) ts r):Stops 1 ts:=qfm x (qhK x hx) h
theorem rb1 {e:E} (hg:e.good) {x:ByteArray} (hx : ∀ o:Bop,o.str≠x) {l:List ByteArray} {ts r:List Tk} {lv:Nat} (h:Hx (e.tx false 1++x::l) ts r) (hl:lv+e.nest false 1<=20) :
  ∃ n mid,qao eS eL f n 1 lv ts=some (.ok (e.fl f) mid)/\Hx (x::l) mid r:=by
 obtain⟨mid,h1,h2⟩:=hx_app.1 h
 obtain⟨n,hn⟩:=(rb (eS:=eS) (eL:=eL) (f:=f) false e hg).1 1 lv ts mid (by omega) (by omega) h1 hl (qtI x hx h2)
 exact⟨n,mid,hn,h2⟩
theorem qps {e:E} (hg:e.good) {l:List ByteArray} {ts r:List Tk} {lv:Nat} (h:Hx (bs [91]::(e.tx false 1++bs [93]::l)) ts r) (hl:lv+(e.nest false 1+1)<=20) :
  ∃ n mid,qb1 eS eL f n lv ts=some (.ok (e.fl f) mid)/\Hx l mid r:=by
 obtain⟨n,mid,h1,h2⟩:=rb1 (eS:=eS) (eL:=eL) (f:=f) hg (by intro o; cases o<;>decide) (qbY h).2 (lv:=lv+1) (by omega)
 refine⟨n+1,mid.tail,?_,(qbY h2).2⟩
 rw[qb1,qfl h (by omega)]
 simp only[h1,qcq h2]
theorem rbS : ∀ s:Ss,
  (s.good none -> ∀ lv a ts r,Hx (s.tx++[bs [125]]) ts r->lv+s.nest<=20 -> ∃ n,qcu eS eL f fi fb n lv a ts=some (.ok (a.app (s.fl f fi fb)) r)) /\
  ((∃ k,s.good (some k))->qwj eS eL f fi fb s):=by
 have step : ∀ (s1:Ss) (x:ByteArray) lv a ts mid y,nx ts=some x->x≠bs [125]->(∃ n,qc8 eS eL f fi fb n lv ts=some (.ok s1 mid))->(∃ n,qcu eS eL f fi fb n lv (a.app s1) mid=some y) -> ∃ n,qcu eS eL f fi fb n lv a ts=some y:=by
  rintro s1 x lv a ts mid y hn hx ⟨n,h1⟩ ⟨m,h2⟩
  refine⟨max n m+1,?_⟩
  rw[qcu,hn]
  simp only
  rw[if_neg hx,qiB h1 (Nat.le_max_left n m)]
  exact qk1 h2 (Nat.le_max_right n m)
 have closed : ∀ {α : Type} (a : α) (l:List ByteArray) (ts r:List Tk),Hx (bs [59]::l) ts r->qbI eS a ts = .ok a ts.tail:=fun a l ts r h=>by rw[qbI,qcq h]
 intro s
 induction s with
 | nil=>
  refine⟨fun _ lv a ts r hx hl=>⟨1,?_⟩,fun _=>trivial⟩
  obtain⟨hn,ht⟩:=qbY hx
  cases ht
  simp[qcu,hn,qmu,Ss.fl]
 | assign g s e r ih=>
  refine⟨fun hg lv a ts q hx hl=>?_,fun _=>trivial⟩
  obtain⟨-,g1,g2,g3⟩:=hg
  simp only[Ss.nest] at hl
  simp only[Ss.tx,List.cons_append,List.append_assoc] at hx
  obtain⟨hn,h1⟩:=qbY hx
  obtain⟨n,mid,h3,h4⟩:=rb1 (eS:=eS) (eL:=eL) (f:=f) g2 (by intro o; cases o<;>decide) (qbY h1).2 (lv:=lv) (by omega)
  obtain⟨m,hm⟩:=ih.1 g3 lv (a.app (.assign f s (e.fl f) .nil)) mid.tail q (qbY h4).2 (by omega)
  refine step (.assign f s (e.fl f) .nil) s lv a ts mid.tail _ hn (qfk g1 (.inr (.inr (by decide)))) ⟨n+1,?_⟩ ⟨m,?_⟩
  ·rw[qc8,hn]
   simp only
   rw[if_neg (qfk g1 (.inr (.inl (by decide)))),if_neg (qfk g1 (.inr (.inl (by decide)))),if_neg (qfk g1 (.inr (.inl (by decide)))),if_neg (qfk g1 (.inr (.inl (by decide)))),if_neg g1.2.2.1,if_pos ⟨g1.2.1,g1.2.2.2⟩,qcq h1]
   simp only[h3,closed _ _ _ _ h4]
  ·rw[hm,qbT]; rfl
 | store g s x y r ih=>
  refine⟨fun hg lv a ts q hx hl=>?_,fun _=>trivial⟩
  obtain⟨-,g1,g2,g3,g4⟩:=hg
  simp only[Ss.nest] at hl
  simp only[Ss.tx,List.cons_append,List.append_assoc] at hx
  obtain⟨hn,h1⟩:=qbY hx
  obtain⟨n,mid,h3,h4⟩:=qps (eS:=eS) (eL:=eL) (f:=f) g2 h1 (lv:=lv) (by omega)
  obtain⟨n2,mid2,h5,h6⟩:=rb1 (eS:=eS) (eL:=eL) (f:=f) g3 (by intro o; cases o<;>decide) (qbY h4).2 (lv:=lv) (by omega)
  obtain⟨m,hm⟩:=ih.1 g4 lv (a.app (.store f s (x.fl f) (y.fl f) .nil)) mid2.tail q (qbY h6).2 (by omega)
  refine step (.store f s (x.fl f) (y.fl f) .nil) s lv a ts mid2.tail _ hn (qd4 g1 (by decide)) ⟨max n n2+1,?_⟩ ⟨m,?_⟩
  ·rw[qc8,hn]
   simp only
   rw[if_neg (qd4 g1 (by decide)),if_neg (qd4 g1 (by decide)),if_neg (qd4 g1 (by decide)),if_neg (qd4 g1 (by decide)),if_pos g1,qhz h3 (Nat.le_max_left n n2)]
   simp only[qcq h4,qa2 h5 (Nat.le_max_right n n2),closed _ _ _ _ h6]
  ·rw[hm,qbT]; rfl
 | effect g x y r ih=>
  refine⟨fun hg lv a ts q hx hl=>?_,fun _=>trivial⟩
  obtain⟨-,g2,g3,g4⟩:=hg
  simp only[Ss.nest] at hl
  simp only[Ss.tx,List.cons_append,List.append_assoc] at hx
  obtain⟨hn,h1⟩:=qbY hx
  obtain⟨n,mid,h3,h4⟩:=rb1 (eS:=eS) (eL:=eL) (f:=f) g2 (by intro o; cases o<;>decide) h1 (lv:=lv) (by omega)
  obtain⟨n2,mid2,h5,h6⟩:=rb1 (eS:=eS) (eL:=eL) (f:=f) g3 (by intro o; cases o<;>decide) (qbY h4).2 (lv:=lv) (by omega)
  obtain⟨m,hm⟩:=ih.1 g4 lv (a.app (.effect f (x.fl f) (y.fl f) .nil)) mid2.tail q (qbY h6).2 (by omega)
  refine step (.effect f (x.fl f) (y.fl f) .nil) _ lv a ts mid2.tail _ hn (by decide) ⟨max n n2+1,?_⟩ ⟨m,?_⟩
  ·rw[qc8,hn]
   simp only
   rw[if_neg (by decide),if_neg (by decide),if_pos (by rfl),qa2 h3 (Nat.le_max_left n n2)]
   simp only[qcq h4,qa2 h5 (Nat.le_max_right n n2),closed _ _ _ _ h6]
  ·rw[hm,qbT]; rfl
 | stop r ih=>
  refine⟨fun hg lv a ts q hx hl=>?_,fun _=>trivial⟩
  obtain⟨-,g4⟩:=hg
  simp only[Ss.nest] at hl
  simp only[Ss.tx,List.cons_append,List.append_assoc] at hx
  obtain⟨hn,h1⟩:=qbY hx
  obtain⟨m,hm⟩:=ih.1 g4 lv (a.app (.stop .nil)) ts.tail.tail q (qbY h1).2 (by omega)
  refine step (.stop .nil) _ lv a ts ts.tail.tail _ hn (by decide) ⟨1,?_⟩ ⟨m,?_⟩
  ·rw[qc8,hn]
   simp only
   rw[if_neg (by decide),if_neg (by decide),if_neg (by decide),if_pos (by rfl),closed _ _ _ _ h1]
  ·rw[hm,qbT]; rfl
 | cond w g c b r ihb ih=>
  refine⟨fun hg lv a ts q hx hl=>?_,fun _=>trivial⟩
  obtain⟨-,g2,g3,g4⟩:=hg
  simp only[Ss.nest] at hl
  simp only[Ss.tx,List.cons_append,List.append_assoc] at hx
  obtain⟨hn,h1⟩:=qbY hx
  have hrow:=ihb.2 ⟨_,g3⟩
  cases b with
  | block fb1 b1 b'=>
   obtain⟨k,hk,gb1,gb'⟩:=g3
   simp only[Ss.tx,List.cons_append,List.append_assoc] at h1
   obtain⟨n,mid,h3,h4⟩:=rb1 (eS:=eS) (eL:=eL) (f:=f) g2 (by intro o; cases o<;>decide) h1 (lv:=lv) (by omega)
   simp only[Ss.nest] at hl
   have h4' : ∃ mid2,Hx (bs [123]::(b1.tx++[bs [125]])) mid mid2/\Hx ((if qgl b'=true then qjp::b'.tx else [])++(r.tx++[bs [125]])) mid2 q:=by
    have e:bs [123]::(b1.tx++bs [125]::((if qgl b'=true then qjp::b'.tx else [])++(r.tx++[bs [125]])))=(bs [123]::(b1.tx++[bs [125]]))++((if qgl b'=true then qjp::b'.tx else [])++(r.tx++[bs [125]])):=by simp
    rw[e] at h4
    exact hx_app.1 h4
   obtain⟨mid2,h5,h6⟩:=h4'
   obtain⟨n2,h7⟩:=hrow.1 (lv+1) mid mid2 h5 (by omega)
   cases w with
   | true=>
    simp only[if_true] at hk hn
    obtain rfl:k=0:=by simpa using hk.symm
    have hb':b' = .nil:=by
     cases b' with
     | nil=>rfl
     | block=>obtain⟨k,hk,_⟩:=gb'; cases hk
     | _=>exact absurd gb'.1 (by simp)
    subst hb'
    simp only[qgl,Bool.false_eq_true,if_false,List.nil_append] at h6
    obtain⟨m,hm⟩:=ih.1 g4 lv (a.app (.cond true f (c.fl f) (.block fb (b1.fl f fi fb) .nil) .nil)) mid2 q h6 (by omega)
    refine step _ _ lv a ts mid2 _ hn (by decide) ⟨max n n2+1,?_⟩ ⟨m,hm.trans ?_⟩
    ·rw[qc8,hn]
     simp only
     rw[if_neg (by decide),if_pos (by rfl),qa2 h3 (Nat.le_max_left n n2)]
     simp only[qcB h7 (Nat.le_max_right n n2)]
    ·rw[qbT]; rfl
   | false=>
    simp only[Bool.false_eq_true,if_false] at hk hn
    obtain rfl:k=1:=by simpa using hk.symm
    cases b' with
    | block fb2 b2 b''=>
     obtain⟨k2,hk2,gb2,gb''⟩:=gb'
     obtain rfl:k2=0:=by simpa using hk2.symm
     have hb'':b'' = .nil:=by
      cases b'' with
      | nil=>rfl
      | block=>obtain⟨k,hk,_⟩:=gb''; cases hk
      | _=>exact absurd gb''.1 (by simp)
     subst hb''
     simp only[Ss.nest] at hl
     by_cases he:qgl (.block fb2 b2 .nil)=true
     ·rw[if_pos he] at h6
      simp only[List.cons_append,Ss.tx,List.append_assoc] at h6
      obtain⟨hn6,h8⟩:=qbY h6
      have h9 : ∃ mid3,Hx (bs [123]::(b2.tx++[bs [125]])) mid2.tail mid3/\Hx (r.tx++[bs [125]]) mid3 q:=by
       have e:bs [123]::(b2.tx++bs [125]::((if qgl Ss.nil=true then [qjp] else [])++(r.tx++[bs [125]])))=(bs [123]::(b2.tx++[bs [125]]))++(r.tx++[bs [125]]):=by simp[qgl]
       rw[e] at h8
       exact hx_app.1 h8
      obtain⟨mid3,h10,h11⟩:=h9
      obtain⟨n3,h12⟩:=hrow.2.1 (lv+1) mid2.tail mid3 h10 (by omega)
      obtain⟨m,hm⟩:=ih.1 g4 lv (a.app (.cond false fi (c.fl f) (.block fb (b1.fl f fi fb) (.block fb (b2.fl f fi fb) .nil)) .nil)) mid3 q h11 (by omega)
      refine step _ _ lv a ts mid3 _ hn (by decide) ⟨max n (max n2 n3)+1,?_⟩ ⟨m,hm.trans ?_⟩
      ·rw[qc8,hn]
       simp only
       rw[if_pos (by rfl),qa2 h3 (by omega)]
       simp only[qcB h7 (show n2<=max n (max n2 n3) by omega),hn6]
       rw[if_pos (by rfl),qcB h12 (by omega)]
      ·rw[qbT]; rfl
     ·rw[if_neg he] at h6
      simp only[List.nil_append] at h6
      have hb2:b2 = .nil:=by cases b2<;>first | rfl | exact absurd rfl he
      subst hb2
      obtain⟨x,l,q1,q2,q3⟩:=qrA r g4
      have hn6:nx mid2=some x:=by rw[q1] at h6; exact (qbY h6).1
      obtain⟨m,hm⟩:=ih.1 g4 lv (a.app (.cond false fi (c.fl f) (.block fb (b1.fl f fi fb) (.block fb .nil .nil)) .nil)) mid2 q h6 (by omega)
      refine step _ _ lv a ts mid2 _ hn (by decide) ⟨max n n2+1,?_⟩ ⟨m,hm.trans ?_⟩
      ·rw[qc8,hn]
       simp only
       rw[if_pos (by rfl),qa2 h3 (by omega)]
       simp only[qcB h7 (show n2<=max n n2 by omega),hn6]
       rw[if_neg (show ¬ x=bs [101,108,115,101] from q2)]
      ·rw[qbT]; rfl
    | nil=>rcases gb' with h | h<;>cases h
    | _=>exact absurd gb'.1 (by simp)
  | nil=>rcases g3 with h | h<;>cases w<;>cases h
  | _=>exact absurd g3.1 (by simp)
 | block g b r ihb ihr=>
  refine⟨fun hg=>(by obtain⟨k,hk,_⟩:=hg; cases hk),fun hg=>?_⟩
  obtain⟨k,k',hk,g1,g2⟩:=hg
  refine⟨fun lv ts q hx hl=>?_,ihr.2 ⟨_,g2⟩⟩
  obtain⟨m,hm⟩:=ihb.1 g1 lv .nil ts.tail q (qbY hx).2 hl
  refine⟨m+1,?_⟩
  rw[qbk,qfl hx (by omega)]
  exact hm
end
end Go.Pm
end SYi
section SYj
namespace Go.Pm
def qrf (u:ByteArray):Prop:=(byl u).head?≠some 61
def quy (t:ByteArray):Prop:=t≠bs [60]/\t≠bs [62]/\t≠bs [61]/\t≠bs [33]
theorem qkW : ∀ {a b:List ByteArray},Ok2 a->Ok2 b->(∀ t u,a.getLast?=some t->b.head?=some u->Adj t u)->Ok2 (a++b)
 | [],b,_,hb,_=>hb
 | t::a,b,ha,hb,h=>by
  refine⟨ha.1,fun u hu=>?_,qkW ha.2.2 hb fun t' u h1 h2=>?_⟩
  ·cases a with
   | nil=>exact h t u rfl hu
   | cons v a=>exact ha.2.1 u hu
  ·cases a with
   | nil=>cases h1
   | cons v a=>exact h t' u (by rw[List.getLast?_cons_cons]; exact h1) h2
structure Cl (l:List ByteArray):Prop where
 ok:Ok2 l
 st : ∀ u,l.head?=some u->qrf u
 en : ∀ t,l.getLast?=some t->quy t
theorem qnA:Cl []:=⟨trivial,fun u h=>(by cases h),fun t h=>(by cases h)⟩
theorem qlJ {x:ByteArray} (h:Tg (byl x)) (h1:qrf x) (h2:quy x):Cl [x]:=⟨⟨h,fun u hu=>(by cases hu),trivial⟩,fun u hu=>(by cases hu; exact h1),fun t ht=>(by cases ht; exact h2)⟩
theorem qa9 {a b:List ByteArray} (ha:Cl a) (hb:Cl b):Cl (a++b):=by
 refine⟨qkW ha.ok hb.ok fun t u h1 _ => .inl (ha.en t h1),fun u hu=>?_,fun t ht=>?_⟩
 ·cases a with
  | nil=>exact hb.st u hu
  | cons v a=>exact ha.st u hu
 ·rw[List.getLast?_append] at ht
  cases hbl:b.getLast? with
  | none=>rw[hbl] at ht; exact ha.en t ht
  | some v=>rw[hbl] at ht; exact hb.en t (hbl.trans ht)
theorem qrg {x:ByteArray} {a b:List ByteArray} (h:Tg (byl x)) (ha:Cl a) (hb:Cl b) (na:a≠[]) (nb:b≠[]):Cl (a++x::b):=by
 have hxb:Ok2 (x::b):=⟨h,fun u hu => .inr (hb.st u hu),hb.ok⟩
 refine⟨qkW ha.ok hxb fun t u h1 _ => .inl (ha.en t h1),fun u hu=>?_,fun t ht=>?_⟩
 ·cases a with
  | nil=>exact absurd rfl na
  | cons v a=>exact ha.st u hu
 ·cases b with
  | nil=>exact absurd rfl nb
  | cons v b=>
   rw[List.getLast?_append,List.getLast?_cons_cons] at ht
   cases hbl:(v::b).getLast? with
   | none=>simp at hbl
   | some w=>rw[hbl] at ht; exact hb.en t (hbl.trans ht)
theorem qtv {x:ByteArray} {b:List ByteArray} (h:Tg (byl x)) (h1:qrf x) (hb:Cl b) (nb:b≠[]):Cl (x::b):=by
 refine⟨⟨h,fun u hu => .inr (hb.st u hu),hb.ok⟩,fun u hu=>(by cases hu; exact h1),fun t ht=>?_⟩
 cases b with
 | nil=>exact absurd rfl nb
 | cons v b=>rw[List.getLast?_cons_cons] at ht; exact hb.en t ht
theorem qnB {c:UInt8} (h:c.toNat∈qi9):Tg (byl (bs [c])):=by rw[qc6]; exact .inr (.inr (.inr ⟨c,rfl,h⟩))
theorem qvq (o:Bop):Tg (byl o.str):=by
 cases o
 all_goals first
  | exact .inr (.inr (.inr ⟨_,rfl,by decide⟩))
  | exact .inr (.inr (.inl (by decide)))
theorem qvr (neg:Bool):Tg (byl (ustr neg)):=by
 cases neg<;>exact .inr (.inr (.inr ⟨_,rfl,by decide⟩))
theorem qrh {c:UInt8} {r:List UInt8} (h:qaQ c=true) (h2 : ∀ b∈r,qaE b=true) (h3:(c::r).length<=8):Tg (byl (bs (c::r))):=by
 rw[qc6]
 exact .inl ⟨c,r,rfl,h,h2,fun h=>by omega⟩
theorem clf {x:ByteArray} (h:x∈fieldNames):Cl [x]:=by
 simp only[fieldNames,List.mem_cons,List.not_mem_nil,or_false] at h
 rcases h with h | h | h | h | h | h | h | h<;>rw[h]
 all_goals exact qlJ (.inl ⟨_,_,rfl,by decide,by decide,by decide⟩) (by unfold qrf; decide) (by unfold quy; decide)
theorem clw {x:ByteArray} (h:x∈wordNames):Cl [x]:=by
 simp only[wordNames,List.mem_cons,List.not_mem_nil,or_false] at h
 rcases h with h | h | h | h | h | h | h | h | h | h | h | h | h<;>rw[h]
 all_goals exact qlJ (.inl ⟨_,_,rfl,by decide,by decide,by decide⟩) (by unfold qrf; decide) (by unfold quy; decide)
theorem qqh {x:ByteArray} (h:Tg (byl x)) (hs:qax qaQ x=true\/qax qas x=true):Cl [x]:=by
 refine qlJ h ?_ ⟨?_,?_,?_,?_⟩
 ·intro h1
  rw[qby,qby,h1] at hs
  exact absurd hs (by decide)
 all_goals rintro rfl; exact absurd hs (by decide)
theorem qnC {x:ByteArray} (h:qnO x):Cl [x]:=qqh h.1 (.inl h.2.1)
theorem cls {c:UInt8} (h:c.toNat∈qi9) (h1:c≠61) (h2:c≠60/\c≠62/\c≠33):Cl [bs [c]]:=by
 refine qlJ (qnB h) (by rw[qrf,qc6]; simpa using h1) ⟨?_,?_,?_,?_⟩
 all_goals
  intro h
  have:=qkt h
  simp only[List.cons.injEq,and_true] at this
  simp_all
theorem qri (full:Bool) {e:E} (h:e.good) (p:Nat):e.tx full p≠[]:=by
 obtain⟨x,l,h1,_⟩:=qk5 full e h p
 rw[h1]; simp
theorem qlK {b:Bool} {l:List ByteArray} (h:Cl l):Cl (qda b l):=by
 unfold qda
 split
 ·exact qa9 (a:=[bs [40]]) (cls (by decide) (by decide) (by decide)) (qa9 h (cls (by decide) (by decide) (by decide)))
 ·exact h
theorem qh6 (full:Bool) : ∀ e:E,e.good -> ∀ p,Cl (e.tx full p)
 | .int n,h,p=>qqh (by rw[qc6]; exact qrC (by have:=h.1; have:=h.2; omega)) (.inr (qjq (by have:=h.1; have:=h.2; omega)))
 | .bool n,h,p=>by
  simp only[E.tx]
  split<;>exact clw (by decide)
 | .var s,h,p=>qnC h
 | .name s,h,p=>by
  refine clw ?_
  rcases h with rfl | rfl | rfl<;>decide
 | .field g s e,h,p=>qa9 (clf h.1) (qa9 (a:=[bs [91]]) (cls (by decide) (by decide) (by decide)) (qa9 (qh6 full e h.2 1) (cls (by decide) (by decide) (by decide))))
 | .un g neg e,h,p=>qlK (qtv (qvr neg) (by unfold qrf; cases neg<;>decide) (qh6 full e h _) (qri full (e:=e) h _))
 | .bin g o a b,h,p=>qlK (qrg (qvq o) (qh6 full a h.1 _) (qh6 full b h.2 _) (qri full h.1 _) (qri full h.2 _))
theorem qh7 : ∀ (s:Ss) m,s.good m->Cl s.tx
 | .nil,m,h=>qnA
 | .assign g s e r,m,h=>qrg (a:=[s]) (qnB (by decide)) (qnC h.2.1) (qa9 (qh6 false e h.2.2.1 1) (qa9 (a:=[bs [59]]) (cls (by decide) (by decide) (by decide)) (qh7 r _ h.2.2.2))) (by simp) (by simp)
 | .store g s a b r,m,h=>by
  have h1:Cl (s::bs [91]::(a.tx false 1++[bs [93]])):=qa9 (clf h.2.1) (qa9 (a:=[bs [91]]) (cls (by decide) (by decide) (by decide)) (qa9 (qh6 false a h.2.2.1 1) (cls (by decide) (by decide) (by decide))))
  have h2:Cl (b.tx false 1++(bs [59]::r.tx)):=qa9 (qh6 false b h.2.2.2.1 1) (qa9 (a:=[bs [59]]) (cls (by decide) (by decide) (by decide)) (qh7 r _ h.2.2.2.2))
  have:=qrg (x:=bs [61]) (qnB (by decide)) h1 h2 (by simp) (by simp)
  simpa [Ss.tx] using this
 | .effect g a b r,m,h=>qa9 (a:=[qk4]) (clw (by decide)) (qa9 (qh6 false a h.2.1 1) (qa9 (a:=[bs [44]]) (cls (by decide) (by decide) (by decide)) (qa9 (qh6 false b h.2.2.1 1) (qa9 (a:=[bs [59]]) (cls (by decide) (by decide) (by decide)) (qh7 r _ h.2.2.2)))))
 | .stop r,m,h=>qa9 (a:=[qrz]) (clw (by decide)) (qa9 (a:=[bs [59]]) (cls (by decide) (by decide) (by decide)) (qh7 r _ h.2))
 | .cond w g c b r,m,h=>qa9 (a:=[if w then qnN else ifS]) (clw (by cases w<;>decide)) (qa9 (qh6 false c h.2.1 1) (qa9 (qh7 b _ h.2.2.1) (qh7 r _ h.2.2.2)))
 | .block g b r,m,h=>by
  obtain⟨n,_,h1,h2⟩:=h
  have hlast:Cl (if qgl r then qjp::r.tx else []):=?_
  ·exact qa9 (a:=[bs [123]]) (cls (by decide) (by decide) (by decide)) (qa9 (qh7 b _ h1) (qa9 (a:=[bs [125]]) (cls (by decide) (by decide) (by decide)) hlast))
  split
  ·exact qa9 (a:=[qjp]) (clw (by decide)) (qh7 r _ h2)
  ·exact qnA
def qd8 (k:Nat):ByteArray:=match k with | 0=>bs [97,99,116] | 1=>qh9 | _=>qiO
def qkB (k:Nat):Option Ss->List ByteArray
 | none=>[]
 | some b=>onS::qd8 k::bs [123]::(b.tx++[bs [125]])
def qgM (h:Option Ss):Prop := ∀ b,h=some b->b.good none/\b.nest<=19
theorem qrj {k:Nat} {h:Option Ss} (hg:qgM h):Cl (qkB k h):=by
 cases h with
 | none=>exact qnA
 | some b=>
  refine qa9 (a:=[onS]) (clw (by decide)) (qa9 (a:=[qd8 k]) (clw ?_) (qa9 (a:=[bs [123]]) (cls (by decide) (by decide) (by decide)) (qa9 (qh7 b _ (hg b rfl).1) (cls (by decide) (by decide) (by decide)))))
  rcases k with _ | _ | k
  ·decide
  ·decide
  ·show qiO∈wordNames; decide
def qb9 (h:Nat->Option Ss):List ByteArray:=qkB 0 (h 0)++(qkB 1 (h 1)++qkB 2 (h 2))
theorem qrk {h:Nat->Option Ss} (hg : ∀ k,qgM (h k)):Cl (qb9 h):=qa9 (qrj (hg 0)) (qa9 (qrj (hg 1)) (qrj (hg 2)))
theorem qjj {k:Nat} (h:k<3):qbK (qd8 k)=some k:=by
 rcases k with _ | _ | _ | k
 ·rfl
 ·rfl
 ·rfl
 ·omega
section
variable {eS eL eD:Nat} {f fi fb:Bool}
def qwH (h:Nat->Option Ss) (k:Nat) (b:Ss):Nat->Option Ss:=fun i=>if i=k then some b else h i
theorem rbH {h:Nat->Option Ss} {k:Nat} {b:Ss} (hk:k<3) (hh:h k=none) (hg:b.good none) (hn:b.nest<=19) {ts mid:List Tk} (hx:Hx (qkB k (some b)) ts mid) {y} (hy : ∃ n,qdq eS eL eD f fi fb n (qwH h k (b.fl f fi fb)) mid=some y) :
  ∃ n,qdq eS eL eD f fi fb n h ts=some y:=by
 obtain⟨h1,h2⟩:=qbY hx
 obtain⟨h3,h4⟩:=qbY h2
 have hr : ∃ n,qbk eS eL f fi fb n 1 ts.tail.tail=some (.ok (b.fl f fi fb) mid):=by
  obtain⟨n,hn⟩:=(rbS (eS:=eS) (eL:=eL) (f:=f) (fi:=fi) (fb:=fb) b).1 hg 1 .nil ts.tail.tail.tail mid (qbY h4).2 (by omega)
  refine⟨n+1,?_⟩
  rw[qbk,qfl h4 (by omega)]
  exact hn
 obtain⟨n,hn⟩:=hr
 obtain⟨m,hm⟩:=hy
 refine⟨max n m+1,?_⟩
 rw[qdq,h1]
 simp only
 rw[if_neg (by decide),show qaO eS (bs [111,110]) ts = .ok () ts.tail from qcq hx]
 simp only[h3,qjj hk]
 rw[if_neg (by rw[hh]; simp),qcB hn (Nat.le_max_left n m)]
 exact qgi hm (Nat.le_max_right n m)
theorem rbP {h:Nat->Option Ss} (hg : ∀ k,qgM (h k)) {ts mid:List Tk} (hx:Hx (qb9 h) ts mid) (he:nx mid=some ⟨#[]⟩) :
  ∃ n,qdq eS eL eD f fi fb n (fun _=>none) ts=some (.ok (fun k=>if k<3 then (h k).map (·.fl f fi fb) else none) mid):=by
 obtain⟨m1,x1,hx⟩:=hx_app.1 hx
 obtain⟨m2,x2,x3⟩:=hx_app.1 hx
 have one : ∀ (k:Nat) (h0:Nat->Option Ss) (ts m:List Tk) y,k<3->h0 k=none->Hx (qkB k (h k)) ts m->(∃ n,qdq eS eL eD f fi fb n (fun i=>if i=k then (h k).map (·.fl f fi fb) else h0 i) m=some y) -> ∃ n,qdq eS eL eD f fi fb n h0 ts=some y:=by
  intro k h0 ts m y hk h0k hx hy
  have hgk:=hg k
  cases hb:h k with
  | none=>
   rw[hb] at hx hy
   cases hx
   obtain⟨n,hn⟩:=hy
   refine⟨n,?_⟩
   rw[<- hn]
   congr 1
   funext i
   split
   ·rename_i e; rw[e,h0k]; rfl
   ·rfl
  | some b=>
   rw[hb] at hx hy hgk
   exact rbH hk h0k (hgk b rfl).1 (hgk b rfl).2 hx hy
 refine one 0 _ ts m1 _ (by omega) rfl x1 (one 1 _ m1 m2 _ (by omega) (by simp) x2 (one 2 _ m2 mid _ (by omega) (by simp) x3 ⟨1,?_⟩))
 rw[qdq,he]
 simp only
 rw[if_pos (by rfl)]
 congr 2
 funext i
 rcases i with _ | _ | _ | i<;>simp
 omega
end
end Go.Pm
end SYj
section SUa
namespace Go.Pm
def Fo.eqv:Fo->Fo->Bool
 | .nil,.nil=>true
 | .cons k n s _ ks r,.cons k' n' s' _ ks' r'=>(decide (k=k')&&(decide (n=n')&&decide (s=s')))&&(ks.eqv ks'&&r.eqv r')
 | _,_=>false
def Rz.map {α β : Type} (k : α -> β):Rz α -> Rz β
 | .ok a r => .ok (k a) r
 | .er i c => .er i c
end Go.Pm
end SUa
section SFX
namespace Go.Pm.F
@[simp] abbrev sN:D := .lit (.slice none 0 0)
@[simp] abbrev eN:D := .lit (.string ⟨#[]⟩)
@[simp] abbrev zN:D := .lit (.int .i64 0)
@[simp] abbrev ii (n:Int):D := .lit (.int .i64 n)
@[simp] abbrev kk (n:Int):X := .c (.int .i64 n)
@[simp] abbrev kT:X := .c (.bool true)
@[simp] abbrev kF:X := .c (.bool false)
@[simp] abbrev jj (d:Nat) (o:O):I:=⟨some d,o,none,[]⟩
@[simp] abbrev jn (o:O):I:=⟨none,o,none,[]⟩
@[simp] abbrev jt (d g:Nat) (o:O):I:=⟨some d,o,some (g,true),[]⟩
@[simp] abbrev jf (d g:Nat) (o:O):I:=⟨some d,o,some (g,false),[]⟩
@[simp] abbrev mv (d a:Nat):I:=⟨some d,.mov (.t a),none,[]⟩
@[simp] abbrev mx (d:Nat) (x:X):I:=⟨some d,.mov x,none,[]⟩
@[simp] abbrev l1 (d a:Nat):I:=⟨some d,.load false 1 (.t a),none,[]⟩
@[simp] abbrev la (d n a:Nat):I:=⟨some d,.load true n (.t a),none,[]⟩
@[simp] abbrev fa (d o a:Nat):I:=⟨some d,.fieldAddr o (.t a),none,[]⟩
@[simp] abbrev nc (d a:Nat):I:=⟨some d,.nilchk (.t a),none,[]⟩
@[simp] abbrev bx (d a:Nat):I:=⟨some d,.box (.t a),none,[]⟩
@[simp] abbrev ex (d a n:Nat):I:=⟨some d,.extract (.t a) n,none,[]⟩
@[simp] abbrev ls (d a:Nat):I:=⟨some d,.len .sl (.t a),none,[]⟩
@[simp] abbrev lz (d a:Nat):I:=⟨some d,.len .str (.t a),none,[]⟩
@[simp] abbrev bn (d:Nat) (o:BinOp) (a b:Nat):I:=⟨some d,.bin o (.t a) (.t b),none,[]⟩
@[simp] abbrev bk (d:Nat) (o:BinOp) (a:Nat) (n:Int):I:=⟨some d,.bin o (.t a) (.c (.int .i64 n)),none,[]⟩
@[simp] abbrev st (n a b:Nat):I:=⟨none,.store n (.t a) (.t b),none,[]⟩
@[simp] abbrev cl (d f:Nat) (xs:List Nat):I:=⟨some d,.call f (xs.map .t),none,[]⟩
@[simp] abbrev rn (ops:List I) (keep:List Nat) (lasts:List Nat:=[]):PC := .region none ops keep lasts
end Go.Pm.F
end SFX
