/- The rule language in plain Lean: expressions written down, and read back. No program in sight. The rule language in plain Lean: statements and programs written down, and read back. No program in sight. The rule language in plain Lean: written tokens stand one behind the other; whole programs read back. No program in sight. The rule language in plain Lean: trees that are equal but for their marks; parsing with other marks. No program in sight. The abstract machine's program: short forms of its operations. -/
import Derived.Test.YtjdbkncfebebnaaGreatDoorPmEt
import Derived.Test.YtjdbkncfebebnaaGreatDoorPmA
set_option linter.unusedSimpArgs false
set_option linter.unusedVariables false
section SYh
namespace Go.Pm
def qiw:Nat->Nat->List UInt8
 | 0,_=>[]
 | k+1,n=>if n<10 then [(48+n).toUInt8] else qiw k (n / 10)++[(48+n % 10).toUInt8]
def decB (n:Nat):List UInt8:=qiw 20 n
theorem qxD : ∀ d,d<10->((48+d).toUInt8).toNat=48+d:=by decide
theorem qrb (l:List UInt8) (c:UInt8):digV (l++[c])=10*digV l+(c.toNat-48):=by simp[digV]
theorem qlj : ∀ k n,n<10 ^ k->1<=k->digV (qiw k n)=n/\(∀ b∈qiw k n,qaj b=true) /\ ∃ c r,qiw k n=c::r
 | 0,n,_,h=>by omega
 | k+1,n,h,_=>by
  rw[qiw]
  split
  ·rename_i hn
   have h1:=qxD n hn
   refine⟨by simp only[digV,List.foldl_cons,List.foldl_nil,h1]; omega,fun b hb=>?_,_,_,rfl⟩
   rw[List.mem_singleton.1 hb]
   simp only[qaj,h1,Bool.and_eq_true,decide_eq_true_eq]
   omega
  ·rename_i hn
   have h1:=qxD (n % 10) (by omega)
   have hk:1<=k:=by
    rcases k with _ | k
    ·simp at h; omega
    ·omega
   obtain⟨i1,i2,c,r,i3⟩:=qlj k (n / 10) (by rw[Nat.pow_succ] at h; omega) hk
   refine⟨by rw[qrb,i1,h1]; omega,fun b hb=>?_,c,r++[(48+n % 10).toUInt8],by rw[i3]; rfl⟩
   rcases List.mem_append.1 hb with hb | hb
   ·exact i2 b hb
   ·rw[List.mem_singleton.1 hb]
    simp only[qaj,h1,Bool.and_eq_true,decide_eq_true_eq]
    omega
theorem qeP {n:Nat} (h:n<10 ^ 20):digV (decB n)=n/\(∀ b∈decB n,qaj b=true) /\ ∃ c r,decB n=c::r:=qlj 20 n h (by omega)
theorem qtn {n:Nat} (h:n<=2147483647):Tg (decB n):=by
 obtain⟨h1,h2,c,r,h3⟩:=qeP (n:=n) (by omega)
 rw[h3] at h1 h2 ⊢
 exact .inr (.inl ⟨c,r,rfl,h2 c (List.mem_cons_self ..),fun b hb=>h2 b (List.mem_cons_of_mem _ hb),by omega⟩)
theorem qj9 {n:Nat} (h:n<=2147483647):qak qaj (bs (decB n))=true:=by
 obtain⟨h1,h2,c,r,h3⟩:=qeP (n:=n) (by omega)
 rw[qaN,qa6,h3]
 rw[h3] at h2
 exact h2 c (List.mem_cons_self ..)
def qge:ByteArray:=bs [116,114,117,101]
def qdS:ByteArray:=bs [102,97,108,115,101]
def qvA:ByteArray:=bs [115,101,108,102]
def qr2:ByteArray:=bs [111,116,104,101,114]
def qh8:ByteArray:=bs [116,105,99,107]
def Bop.prec:Bop->Nat
 | .or=>1 | .and=>2 | .lt | .le | .gt | .ge | .eq | .ne=>4 | .add | .sub=>5 | .mul | .div=>6
def qcZ (neg:Bool):Nat:=if neg then 7 else 3
def qbz (b:Bool) (l:List ByteArray):List ByteArray:=if b then bs [40]::(l++[bs [41]]) else l
def Bop.left (o:Bop):Nat:=if o.prec=4 then 5 else o.prec
def E.tx (full:Bool):E->Nat->List ByteArray
 | .int n,_=>[bs (decB n.toNat)]
 | .bool n,_=>[if n=0 then qdS else qge]
 | .var s,_=>[s]
 | .name s,_=>[s]
 | .field _ s e,_=>s::bs [91]::(e.tx full 1++[bs [93]])
 | .un _ neg e,p=>qbz (full||decide (qcZ neg<p)) (ustr neg::e.tx full (qcZ neg))
 | .bin _ o a b,p=>qbz (full||decide (o.prec<p)) (a.tx full o.left++o.str::b.tx full (o.prec+1))
def E.nest (full:Bool):E->Nat->Nat
 | .field _ _ e,_=>e.nest full 1+1
 | .un _ neg e,p=>e.nest full (qcZ neg)+1+if (full||decide (qcZ neg<p))=true then 1 else 0
 | .bin _ o a b,p=>max (a.nest full o.left) (b.nest full (o.prec+1))+if (full||decide (o.prec<p))=true then 1 else 0
 | _,_=>0
def E.good:E->Prop
 | .int n=>0<=n/\n<=2147483647
 | .bool n=>n=0\/n=1
 | .var s=>Tg (byl s)/\qak qaM s=true/\s∉fieldNames/\s∉wordNames
 | .name s=>s=qvA\/s=qr2\/s=qh8
 | .field _ s e=>s∈fieldNames/\e.good
 | .un _ _ e=>e.good
 | .bin _ _ a b=>a.good/\b.good
def E.fl (f:Bool):E->E
 | .int n => .int n
 | .bool n => .bool n
 | .var s => .var s
 | .name s => .name s
 | .field _ s e => .field f s (e.fl f)
 | .un _ neg e => .un f neg (e.fl f)
 | .bin _ o a b => .bin f o (a.fl f) (b.fl f)
theorem qaZ (o:Bop):(o.prec=1/\o.left=1)\/(o.prec=2/\o.left=2)\/(o.prec=4/\o.left=5)\/(o.prec=5/\o.left=5)\/(o.prec=6/\o.left=6):=by cases o<;>simp[Bop.prec,Bop.left]
def Hx:List ByteArray->List Tk->List Tk->Prop
 | [],ts,r=>ts=r
 | x::l,ts,r => ∃ t q,ts=t::q/\t.s=x/\t.bad=0/\Hx l q r
theorem hx_app : ∀ {a b:List ByteArray} {ts r:List Tk},Hx (a++b) ts r ↔ ∃ m,Hx a ts m/\Hx b m r
 | [],b,ts,r=>⟨fun h=>⟨ts,rfl,h⟩,fun ⟨m,h1,h2⟩=>by cases h1; exact h2⟩
 | x::a,b,ts,r=>by
  simp only[List.cons_append,Hx]
  constructor
  ·rintro ⟨t,q,h1,h2,h3,h4⟩
   obtain⟨m,h5,h6⟩:=hx_app.1 h4
   exact⟨m,⟨t,q,h1,h2,h3,h5⟩,h6⟩
  ·rintro ⟨m,⟨t,q,h1,h2,h3,h5⟩,h6⟩
   exact⟨t,q,h1,h2,h3,hx_app.2 ⟨m,h5,h6⟩⟩
theorem qch {x:ByteArray} {l:List ByteArray} {ts r:List Tk} (h:Hx (x::l) ts r):nx ts=some x/\Hx l ts.tail r:=by
 obtain⟨t,q,h1,h2,h3,h4⟩:=h
 subst h1
 simp[nx,h3,h2]
 exact h4
theorem qcF {eS:Nat} {x:ByteArray} {l:List ByteArray} {ts r:List Tk} (h:Hx (x::l) ts r):qau eS x ts = .ok () ts.tail:=by
 obtain⟨t,q,h1,h2,h3,h4⟩:=h
 subst h1
 simp[qau,h3,h2]
theorem qfI {eS eL lv:Nat} {x:ByteArray} {l:List ByteArray} {ts r:List Tk} (h:Hx (x::l) ts r) (hl:lv<=20):qcA eS eL x lv ts = .ok () ts.tail:=by
 rw[qcA,if_neg (by omega)]
 exact qcF h
def Stops (p:Nat) (r:List Tk):Prop := ∃ s,nx r=some s /\ ∀ q,p<=q->qjO q s=none
theorem Stops.mono {p q:Nat} {r:List Tk} (h:Stops p r) (hq:p<=q):Stops q r:=by
 obtain⟨s,h1,h2⟩:=h
 exact⟨s,h1,fun k hk=>h2 k (by omega)⟩
theorem qrc (o:Bop):qjO o.prec o.str=some o:=by cases o<;>rfl
theorem qnR (o:Bop) (q:Nat) (h:q≠o.prec):qjO q o.str=none:=by
 rcases q with _ | _ | _ | _ | _ | _ | _ | q
 all_goals first | rfl | skip
 all_goals cases o<;>first | rfl | exact absurd rfl h
theorem ql9 (full:Bool) : ∀ (e:E),e.good -> ∀ p,∃ x l,e.tx full p=x::l/\(x=ustr false->p<=3)/\(x=ustr true->p<=7)
 | .int n,h,p=>by
  have hd:=qj9 (n:=n.toNat) (by have:=h.1; have:=h.2; omega)
  refine⟨_,_,rfl,fun hx=>?_,fun hx=>?_⟩
  all_goals
   rw[hx] at hd
   exact absurd hd (by decide)
 | .bool n,h,p=>by
  refine⟨_,_,rfl,fun hx=>?_,fun hx=>?_⟩
  all_goals split at hx<;>exact absurd hx (by decide)
 | .var s,h,p=>by
  refine⟨_,_,rfl,fun hx=>?_,fun hx=>?_⟩
  all_goals
   have:=h.2.1
   rw[hx] at this
   exact absurd this (by decide)
 | .name s,h,p=>by
  refine⟨_,_,rfl,fun hx=>?_,fun hx=>?_⟩
  all_goals rcases h with rfl | rfl | rfl<;>exact absurd hx (by decide)
 | .field f s e,h,p=>by
  refine⟨_,_,rfl,fun hx=>?_,fun hx=>?_⟩
  all_goals
   have:=h.1
   rw[hx] at this
   exact absurd this (by decide)
 | .un f neg e,h,p=>by
  simp only[E.tx,qbz]
  split
  ·exact⟨_,_,rfl,fun hx=>absurd hx (by decide),fun hx=>absurd hx (by decide)⟩
  ·rename_i hc
   simp only[Bool.or_eq_true,not_or,decide_eq_true_eq,Nat.not_lt] at hc
   refine⟨_,_,rfl,fun hx=>?_,fun hx=>?_⟩
   ·cases neg with
    | true=>exact absurd hx (by decide)
    | false=>exact hc.2
   ·cases neg with
    | true=>exact hc.2
    | false=>exact absurd hx (by decide)
 | .bin f o a b,h,p=>by
  simp only[E.tx,qbz]
  split
  ·exact⟨_,_,rfl,fun hx=>absurd hx (by decide),fun hx=>absurd hx (by decide)⟩
  ·rename_i hc
   simp only[Bool.or_eq_true,not_or,decide_eq_true_eq,Nat.not_lt] at hc
   obtain⟨x,l,h1,h2,h3⟩:=ql9 full a h.1 o.left
   refine⟨x,l++o.str::b.tx full (o.prec+1),by rw[h1]; rfl,fun hx=>?_,fun hx=>?_⟩
   ·have:=h2 hx; have:=hc.2
    rcases qaZ o with h | h | h | h | h<;>omega
   ·have:=h3 hx; have:=hc.2
    rcases qaZ o with h | h | h | h | h<;>omega
section
variable {eS eL:Nat} {f:Bool}
theorem qpo {n q lv:Nat} {ts r:List Tk} {e:E} (h:qal eS eL f n q lv ts=some (.ok e r)) (hq:q<=8) : ∀ (k p:Nat),p+k=q->1<=p->Stops p r ->
  (p<=3->3<q->nx ts≠some (ustr false))->(p<=7->7<q->nx ts≠some (ustr true)) -> ∃ m,qal eS eL f m p lv ts=some (.ok e r)
 | 0,p,hp,h1,_,_,_=>⟨n,by rw[show p=q by omega]; exact h⟩
 | k+1,p,hp,h1,hs,h3,h7=>by
  obtain⟨m,hm⟩:=qpo h hq k (p+1) (by omega) (by omega) (hs.mono (by omega)) (fun a b=>h3 (by omega) b) (fun a b=>h7 (by omega) b)
  refine⟨m+2,?_⟩
  rw[qal,if_neg,if_pos (by omega),qbd hm (Nat.le_succ m)]
  ·obtain⟨s,hs1,hs2⟩:=hs
   simp only[qcc,hs1,hs2 p (Nat.le_refl p)]
  ·rintro (⟨h8,h9⟩ | ⟨h8,h9⟩)
   ·exact h3 (by omega) (by omega) h9
   ·exact h7 (by omega) (by omega) h9
theorem qfJ (x:ByteArray) (hx : ∀ q,qjO q x=none) {p:Nat} {l:List ByteArray} {ts r:List Tk} (h:Hx (x::l) ts r):Stops p ts:=⟨x,(qch h).1,fun q _=>hx q⟩
theorem qh9 (x:ByteArray) (h : ∀ o:Bop,o.str≠x) (q:Nat):qjO q x=none:=by
 unfold qjO
 rw[List.find?_eq_none]
 intro o _
 simp[h o]
theorem qm3 {lv p:Nat} {ts r:List Tk} {e:E} {l:List ByteArray} (ho:Hx (bs [40]::(l++[bs [41]])) ts r) (hl:lv+1<=20)
  (hb : ∀ mid,Hx l ts.tail mid->Stops 1 mid -> ∃ m,qal eS eL f m 1 (lv+1) ts.tail=some (.ok e mid)) (h1:1<=p) (h8:p<=8) (hs:Stops p r) : ∃ n,qal eS eL f n p lv ts=some (.ok e r):=by
 obtain⟨hn,ht⟩:=qch ho
 obtain⟨mid,hm1,hm2⟩:=hx_app.1 ht
 have hst:Stops 1 mid:=qfJ _ (qh9 _ (by intro o; cases o<;>decide)) hm2
 obtain⟨m,hm⟩:=hb mid hm1 hst
 have hx:=qcF (eS:=eS) hm2
 have hend:mid.tail=r:=(qch hm2).2
 have base:qal eS eL f (m+1) 8 lv ts=some (.ok e r):=by
  rw[qal,if_neg (by rintro (⟨h,_⟩ | ⟨h,_⟩)<;>omega),if_neg (by omega),hn]
  simp only
  rw[if_neg (by decide),if_neg (by decide),if_neg (by decide),if_neg (by decide),if_neg (by decide),if_neg (by decide),qfI ho hl]
  simp only[hm,hx,hend]
 exact qpo base (by omega) (8-p) p (by omega) h1 hs (fun _ _=>by rw[hn]; decide) (fun _ _=>by rw[hn]; decide)
theorem rb (full:Bool) : ∀ e:E,e.good ->
  (∀ p lv ts r,1<=p->p<=8->Hx (e.tx full p) ts r->lv+e.nest full p<=20->Stops p r -> ∃ n,qal eS eL f n p lv ts=some (.ok (e.fl f) r)) /\
  (∀ q lv ts r,1<=q->q<=6->q≠4->q≠3->Hx (e.tx full q) ts r->lv+e.nest full q<=20->Stops (q+1) r ->
   ∃ n e0 r0,qal eS eL f n (q+1) lv ts=some (.ok e0 r0) /\ ∀ m x,qcc eS eL f m q lv (e.fl f) r=some x -> ∃ m',qcc eS eL f m' q lv e0 r0=some x):=by
 have prim : ∀ (e:E) (x:ByteArray) lv ts r,(∃ n,qal eS eL f n 8 lv ts=some (.ok (e.fl f) r))->nx ts=some x->x≠ustr false->x≠ustr true ->
   (∀ p,1<=p->p<=8->Stops p r -> ∃ n,qal eS eL f n p lv ts=some (.ok (e.fl f) r)):=fun e x lv ts r ⟨n,hn⟩ hx h1 h2 p hp1 hp8 hs=>
  qpo hn (by omega) (8-p) p (by omega) hp1 hs (fun _ _ h=>h1 (by rw[hx] at h; exact Option.some.inj h)) (fun _ _ h=>h2 (by rw[hx] at h; exact Option.some.inj h))
 have self : ∀ (e:E) q lv ts r,(∃ n,qal eS eL f n (q+1) lv ts=some (.ok (e.fl f) r)) -> ∃ n e0 r0,qal eS eL f n (q+1) lv ts=some (.ok e0 r0) /\ ∀ m x,qcc eS eL f m q lv (e.fl f) r=some x -> ∃ m',qcc eS eL f m' q lv e0 r0=some x:=
  fun e q lv ts r ⟨n,hn⟩=>⟨n,_,_,hn,fun m x h=>⟨m,h⟩⟩
 intro e
 induction e with
 | int n=>
  intro hg
  obtain⟨g1,g2⟩:=hg
  have hd:=qj9 (n:=n.toNat) (by omega)
  have A : ∀ p lv ts r,1<=p->p<=8->Hx ((E.int n).tx full p) ts r->lv+(E.int n).nest full p<=20->Stops p r -> ∃ k,qal eS eL f k p lv ts=some (.ok ((E.int n).fl f) r):=fun p lv ts r h1 h8 hx _ hs=>by
   obtain⟨hn,ht⟩:=qch hx
   cases ht
   have n1:bs (decB n.toNat)≠ustr false:=by intro h; rw[h] at hd; exact absurd hd (by decide)
   have n2:bs (decB n.toNat)≠ustr true:=by intro h; rw[h] at hd; exact absurd hd (by decide)
   refine prim (.int n) _ lv ts _ ⟨1,?_⟩ hn n1 n2 p h1 h8 hs
   rw[qal,if_neg (by rintro (⟨h,_⟩ | ⟨h,_⟩)<;>omega),if_neg (by omega),hn]
   simp only
   rw[if_pos hd,ByteArray.toList_eq]
   have:=(qeP (n:=n.toNat) (by omega)).1
   rw[show (bs (decB n.toNat)).data.toList=decB n.toNat from qa6 _,this,show ((n.toNat:Nat):Int)=n by omega]
   rfl
  exact⟨A,fun q lv ts r h1 h6 _ _ hx hl hs=>self _ q lv ts r (A (q+1) lv ts r (by omega) (by omega) hx hl hs)⟩
 | bool n=>
  intro hg
  have A : ∀ p lv ts r,1<=p->p<=8->Hx ((E.bool n).tx full p) ts r->lv+(E.bool n).nest full p<=20->Stops p r -> ∃ k,qal eS eL f k p lv ts=some (.ok ((E.bool n).fl f) r):=fun p lv ts r h1 h8 hx _ hs=>by
   obtain⟨hn,ht⟩:=qch hx
   cases ht
   refine prim (.bool n) _ lv ts _ ⟨1,?_⟩ hn (by split<;>decide) (by split<;>decide) p h1 h8 hs
   rw[qal,if_neg (by rintro (⟨h,_⟩ | ⟨h,_⟩)<;>omega),if_neg (by omega),hn]
   rcases hg with rfl | rfl
   ·simp only[if_true]
    rw[if_neg (by decide),if_neg (by decide),if_pos (by rfl)]; rfl
   ·rw[if_neg (by decide)]
    simp only
    rw[if_neg (by decide),if_pos (by rfl)]; rfl
  exact⟨A,fun q lv ts r h1 h6 _ _ hx hl hs=>self _ q lv ts r (A (q+1) lv ts r (by omega) (by omega) hx hl hs)⟩
 | var s=>
  intro hg
  obtain⟨g1,g2,g3,g4⟩:=hg
  have A : ∀ p lv ts r,1<=p->p<=8->Hx ((E.var s).tx full p) ts r->lv+(E.var s).nest full p<=20->Stops p r -> ∃ k,qal eS eL f k p lv ts=some (.ok ((E.var s).fl f) r):=fun p lv ts r h1 h8 hx _ hs=>by
   obtain⟨hn,ht⟩:=qch hx
   cases ht
   have n1:s≠ustr false:=by rintro rfl; exact absurd g2 (by decide)
   have n2:s≠ustr true:=by rintro rfl; exact absurd g2 (by decide)
   refine prim (.var s) _ lv ts _ ⟨1,?_⟩ hn n1 n2 p h1 h8 hs
   have nd : ¬ qak qaj s=true:=by
    rw[qaN] at g2 ⊢
    cases hh:(byl s).head? with
    | none=>simp
    | some c=>
     rw[hh] at g2
     simp only[qaj,qaM,Bool.and_eq_true,decide_eq_true_eq] at g2 ⊢
     omega
   have w : ∀ x∈wordNames,s≠x:=fun x hx he=>g4 (he ▸ hx)
   rw[qal,if_neg (by rintro (⟨h,_⟩ | ⟨h,_⟩)<;>omega),if_neg (by omega),hn]
   simp only
   rw[if_neg nd,if_neg (w _ (by decide)),if_neg (w _ (by decide)),if_neg (by
    rintro (h | h | h)
    ·exact w _ (by decide) h
    ·exact w _ (by decide) h
    ·exact w _ (by decide) h),if_neg g3,if_pos ⟨g2,g4⟩]
   rfl
  exact⟨A,fun q lv ts r h1 h6 _ _ hx hl hs=>self _ q lv ts r (A (q+1) lv ts r (by omega) (by omega) hx hl hs)⟩
 | name s=>
  intro hg
  have A : ∀ p lv ts r,1<=p->p<=8->Hx ((E.name s).tx full p) ts r->lv+(E.name s).nest full p<=20->Stops p r -> ∃ k,qal eS eL f k p lv ts=some (.ok ((E.name s).fl f) r):=fun p lv ts r h1 h8 hx _ hs=>by
   obtain⟨hn,ht⟩:=qch hx
   cases ht
   refine prim (.name s) _ lv ts _ ⟨1,?_⟩ hn (by rcases hg with rfl | rfl | rfl<;>decide) (by rcases hg with rfl | rfl | rfl<;>decide) p h1 h8 hs
   rw[qal,if_neg (by rintro (⟨h,_⟩ | ⟨h,_⟩)<;>omega),if_neg (by omega),hn]
   rcases hg with rfl | rfl | rfl<;>simp only<;>rw[if_neg (by decide),if_neg (by decide),if_neg (by decide),if_pos (by decide)]<;>rfl
  exact⟨A,fun q lv ts r h1 h6 _ _ hx hl hs=>self _ q lv ts r (A (q+1) lv ts r (by omega) (by omega) hx hl hs)⟩
 | field g s e ih=>
  intro hg
  obtain⟨g1,g2⟩:=hg
  have ihA:=(ih g2).1
  have A : ∀ p lv ts r,1<=p->p<=8->Hx ((E.field g s e).tx full p) ts r->lv+(E.field g s e).nest full p<=20->Stops p r -> ∃ k,qal eS eL f k p lv ts=some (.ok ((E.field g s e).fl f) r):=fun p lv ts r h1 h8 hx hl hs=>by
   obtain⟨hn,ht⟩:=qch hx
   obtain⟨hn2,ht2⟩:=qch ht
   obtain⟨mid,hm1,hm2⟩:=hx_app.1 ht2
   simp only[E.nest] at hl
   have hst:Stops 1 mid:=qfJ _ (qh9 _ (by intro o; cases o<;>decide)) hm2
   obtain⟨k,hk⟩:=ihA 1 (lv+1) _ mid (by omega) (by omega) hm1 (by omega) hst
   have hx2:=qcF (eS:=eS) hm2
   have hend:mid.tail=r:=(qch hm2).2
   have hi:qbe eS eL f (k+1) lv ts.tail=some (.ok (e.fl f) r):=by
    rw[qbe,qfI ht (by omega)]
    simp only[hk,hx2,hend]
   have hs' : ∀ x:ByteArray,x∉fieldNames->s≠x:=fun x hx he=>hx (he ▸ g1)
   refine prim (.field g s e) _ lv ts _ ⟨k+2,?_⟩ hn (hs' _ (by decide)) (hs' _ (by decide)) p h1 h8 hs
   have nd : ¬ qak qaj s=true:=by
    simp only[fieldNames,List.mem_cons,List.not_mem_nil,or_false] at g1
    rcases g1 with h | h | h | h | h | h | h | h<;>rw[h]<;>decide
   rw[qal,if_neg (by rintro (⟨h,_⟩ | ⟨h,_⟩)<;>omega),if_neg (by omega),hn]
   simp only
   rw[if_neg nd,if_neg (hs' _ (by decide)),if_neg (hs' _ (by decide)),if_neg (by
    rintro (h | h | h)
    ·exact hs' _ (by decide) h
    ·exact hs' _ (by decide) h
    ·exact hs' _ (by decide) h),if_pos g1,hi]
   rfl
  exact⟨A,fun q lv ts r h1 h6 _ _ hx hl hs=>self _ q lv ts r (A (q+1) lv ts r (by omega) (by omega) hx hl hs)⟩
 | un g neg e ih=>
  intro hg
  have ihA:=(ih hg).1
  have bare : ∀ lv ts r,Hx (ustr neg::e.tx full (qcZ neg)) ts r->lv+e.nest full (qcZ neg)+1<=20 -> ∀ p,1<=p->p<=qcZ neg->Stops p r -> ∃ k,qal eS eL f k p lv ts=some (.ok ((E.un g neg e).fl f) r):=fun lv ts r hx hl p h1 hp hs=>by
   obtain⟨hn,ht⟩:=qch hx
   obtain⟨k,hk⟩:=ihA (qcZ neg) (lv+1) _ r (by cases neg<;>decide) (by cases neg<;>decide) ht (by omega) (hs.mono hp)
   have base:qal eS eL f (k+1) (qcZ neg) lv ts=some (.ok ((E.un g neg e).fl f) r):=by
    rw[qal]
    cases neg with
    | false=>
     rw[if_pos (.inl ⟨rfl,hn⟩)]
     simp only[qcZ,Bool.false_eq_true,if_false] at hk ⊢
     rw[show ustr ((3:Nat)==7)=ustr false from rfl,qfI hx (by omega)]
     simp only[hk]
     rfl
    | true=>
     rw[if_pos (.inr ⟨rfl,hn⟩)]
     simp only[qcZ,if_true] at hk ⊢
     rw[show ustr ((7:Nat)==7)=ustr true from rfl,qfI hx (by omega)]
     simp only[hk]
     rfl
   refine qpo base (by cases neg<;>decide) (qcZ neg-p) p (by omega) h1 hs (fun a b=>?_) (fun a b=>?_)
   ·cases neg with
    | false=>exact absurd b (by decide)
    | true=>rw[hn]; decide
   ·cases neg<;>exact absurd b (by decide)
  have A : ∀ p lv ts r,1<=p->p<=8->Hx ((E.un g neg e).tx full p) ts r->lv+(E.un g neg e).nest full p<=20->Stops p r -> ∃ k,qal eS eL f k p lv ts=some (.ok ((E.un g neg e).fl f) r):=fun p lv ts r h1 h8 hx hl hs=>by
   simp only[E.tx,E.nest,qbz] at hx hl
   by_cases c:(full||decide (qcZ neg<p))=true
   ·rw[if_pos c] at hx hl
    exact qm3 hx (by omega) (fun mid hm hst=>bare (lv+1) _ mid hm (by omega) 1 (by omega) (by cases neg<;>decide) hst) h1 h8 hs
   ·rw[if_neg c] at hx hl
    simp only[Bool.or_eq_true,not_or,decide_eq_true_eq,Nat.not_lt] at c
    exact bare lv ts r hx (by omega) p h1 c.2 hs
  refine⟨A,fun q lv ts r h1 h6 h4 h3 hx hl hs=>self _ q lv ts r (A (q+1) lv ts r (by omega) (by omega) ?_ ?_ hs)⟩
  ·have:(decide (qcZ neg<q+1))=decide (qcZ neg<q):=by
    rw[decide_eq_decide]; cases neg<;>simp only[qcZ]<;>constructor<;>intro h<;>simp at h ⊢ <;> omega
   simp only[E.tx,this] at hx ⊢
   exact hx
  ·have:(decide (qcZ neg<q+1))=decide (qcZ neg<q):=by
    rw[decide_eq_decide]; cases neg<;>simp only[qcZ]<;>constructor<;>intro h<;>simp at h ⊢ <;> omega
   simp only[E.nest,this] at hl ⊢
   exact hl
 | bin g o a b iha ihb=>
  intro hg
  obtain⟨aA,aB⟩:=iha hg.1
  obtain⟨bA,-⟩:=ihb hg.2
  have hp:=qaZ o
  have loop : ∀ lv ts r,Hx (a.tx full o.left++o.str::b.tx full (o.prec+1)) ts r->lv+max (a.nest full o.left) (b.nest full (o.prec+1))<=20->Stops (o.prec+1) r ->
    ∃ n e0 r0,qal eS eL f n (o.prec+1) lv ts=some (.ok e0 r0)/\(∀ m x,(if o.prec=4 then some (.ok ((E.bin g o a b).fl f) r) else qcc eS eL f m o.prec lv ((E.bin g o a b).fl f) r)=some x -> ∃ m',qcc eS eL f m' o.prec lv e0 r0=some x):=fun lv ts r hx hl hs=>by
   obtain⟨mid,hm1,hm2⟩:=hx_app.1 hx
   obtain⟨hn,ht⟩:=qch hm2
   have hst:Stops (o.prec+1) mid:=⟨_,hn,fun q hq=>qnR o q (by omega)⟩
   obtain⟨k,hk⟩:=bA (o.prec+1) lv _ r (by omega) (by omega) ht (by omega) hs
   have fin : ∀ m x,(if o.prec=4 then some (.ok ((E.bin g o a b).fl f) r) else qcc eS eL f m o.prec lv ((E.bin g o a b).fl f) r)=some x -> ∃ m',qcc eS eL f m' o.prec lv (a.fl f) mid=some x:=fun m x h=>by
    refine⟨max k m+1,?_⟩
    rw[qcc,hn]
    simp only[qrc]
    rw[qbd hk (Nat.le_max_left k m)]
    simp only
    by_cases c:o.prec=4
    ·rw[if_pos c] at h ⊢; exact h
    ·rw[if_neg c] at h ⊢; exact qi8 h (Nat.le_max_right k m)
   by_cases c:o.prec=4
   ·have hleft:o.left=o.prec+1:=by omega
    obtain⟨n,hn'⟩:=aA (o.prec+1) lv ts mid (by omega) (by omega) (hleft ▸ hm1) (by rw[<- hleft]; omega) hst
    exact⟨n,_,_,hn',fin⟩
   ·have hleft:o.left=o.prec:=by omega
    rw[hleft] at hm1 hl
    obtain⟨n,e0,r0,h1,h2⟩:=aB o.prec lv ts mid (by omega) (by omega) c (by omega) hm1 (by omega) hst
    refine⟨n,e0,r0,h1,fun m x h=>?_⟩
    obtain⟨m',hm'⟩:=fin m x h
    exact h2 m' x hm'
  have bare : ∀ lv ts r,Hx (a.tx full o.left++o.str::b.tx full (o.prec+1)) ts r->lv+max (a.nest full o.left) (b.nest full (o.prec+1))<=20 -> ∀ p,1<=p->p<=o.prec->Stops p r -> ∃ k,qal eS eL f k p lv ts=some (.ok ((E.bin g o a b).fl f) r):=fun lv ts r hx hl p h1 hpo hs=>by
   obtain⟨n,e0,r0,h2,h3⟩:=loop lv ts r hx hl (hs.mono (by omega))
   have hend:qcc eS eL f 1 o.prec lv ((E.bin g o a b).fl f) r=some (.ok ((E.bin g o a b).fl f) r):=by
    obtain⟨s,hs1,hs2⟩:=hs
    simp only[qcc,hs1,hs2 o.prec hpo]
   obtain⟨m',hm'⟩:=h3 1 _ (by split<;>first | rfl | exact hend)
   obtain⟨x,l,q1,q2,q3⟩:=ql9 full a hg.1 o.left
   have hnx:nx ts=some x:=by
    rw[q1] at hx
    exact (qch hx).1
   have base:qal eS eL f (max n m'+1) o.prec lv ts=some (.ok ((E.bin g o a b).fl f) r):=by
    rw[qal,if_neg (by rintro (⟨h,_⟩ | ⟨h,_⟩)<;>omega),if_pos (by omega),qbd h2 (Nat.le_max_left n m')]
    exact qi8 hm' (Nat.le_max_right n m')
   refine qpo base (by omega) (o.prec-p) p (by omega) h1 hs (fun c1 c2 h=>?_) (fun c1 c2=>by omega)
   have:=q2 (Option.some.inj (hnx.symm.trans h))
   omega
  have A : ∀ p lv ts r,1<=p->p<=8->Hx ((E.bin g o a b).tx full p) ts r->lv+(E.bin g o a b).nest full p<=20->Stops p r -> ∃ k,qal eS eL f k p lv ts=some (.ok ((E.bin g o a b).fl f) r):=fun p lv ts r h1 h8 hx hl hs=>by
   simp only[E.tx,E.nest,qbz] at hx hl
   by_cases c:(full||decide (o.prec<p))=true
   ·rw[if_pos c] at hx hl
    exact qm3 hx (by omega) (fun mid hm hst=>bare (lv+1) _ mid hm (by omega) 1 (by omega) (by omega) hst) h1 h8 hs
   ·rw[if_neg c] at hx hl
    simp only[Bool.or_eq_true,not_or,decide_eq_true_eq,Nat.not_lt] at c
    exact bare lv ts r hx (by omega) p h1 c.2 hs
  refine⟨A,fun q lv ts r h1 h6 h4 h3 hx hl hs=>?_⟩
  by_cases c:full=false/\o.prec=q
  ·obtain⟨c1,rfl⟩:=c
   have hf : ¬ (full||decide (o.prec<o.prec))=true:=by simp[c1]
   simp only[E.tx,E.nest,qbz,if_neg hf] at hx hl
   obtain⟨n,e0,r0,h5,h7⟩:=loop lv ts r hx (by omega) hs
   exact⟨n,e0,r0,h5,fun m x h=>h7 m x (by rw[if_neg h4]; exact h)⟩
  ·have hd:(full||decide (o.prec<q+1))=(full||decide (o.prec<q)):=by
    cases full with
    | true=>rfl
    | false=>
     have:o.prec≠q:=fun h=>c ⟨rfl,h⟩
     simp only[Bool.false_or,decide_eq_decide]
     omega
   refine self _ q lv ts r (A (q+1) lv ts r (by omega) (by omega) ?_ ?_ hs)
   ·simp only[E.tx,hd] at hx ⊢
    exact hx
   ·simp only[E.nest,hd] at hl ⊢
    exact hl
end
end Go.Pm
end SYh
section SYi
namespace Go.Pm
def ifS:ByteArray:=bs [105,102]
def qj8:ByteArray:=bs [101,108,115,101]
def qpm:ByteArray:=bs [119,104,105,108,101]
def ql8:ByteArray:=bs [101,102,102,101,99,116]
def qtk:ByteArray:=bs [115,116,111,112]
def onS:ByteArray:=bs [111,110]
def qcR:Ss->Bool
 | .block _ .nil _=>false
 | .block _ _ _=>true
 | _=>false
def Ss.tx:Ss->List ByteArray
 | .nil=>[]
 | .assign _ s e r=>s::bs [61]::(e.tx false 1++(bs [59]::r.tx))
 | .store _ s a b r=>s::bs [91]::(a.tx false 1++(bs [93]::bs [61]::(b.tx false 1++(bs [59]::r.tx))))
 | .effect _ a b r=>ql8::(a.tx false 1++(bs [44]::(b.tx false 1++(bs [59]::r.tx))))
 | .stop r=>qtk::bs [59]::r.tx
 | .cond w _ c b r=>(if w then qpm else ifS)::(c.tx false 1++(b.tx++r.tx))
 | .block _ b r=>bs [123]::(b.tx++(bs [125]::(if qcR r then qj8::r.tx else [])))
def qq8 (s:ByteArray):Prop:=Tg (byl s)/\qak qaM s=true/\s∉fieldNames/\s∉wordNames
def Ss.good:Ss->Option Nat->Prop
 | .nil,m=>m=none\/m=some 0
 | .assign _ s e r,m=>m=none/\qq8 s/\e.good/\r.good none
 | .store _ s a b r,m=>m=none/\s∈fieldNames/\a.good/\b.good/\r.good none
 | .effect _ a b r,m=>m=none/\a.good/\b.good/\r.good none
 | .stop r,m=>m=none/\r.good none
 | .cond w _ c b r,m=>m=none/\c.good/\b.good (some (if w then 1 else 2))/\r.good none
 | .block _ b r,m => ∃ n,m=some (n+1)/\b.good none/\r.good (some n)
def Ss.nest:Ss->Nat
 | .nil=>0
 | .assign _ _ e r=>max (e.nest false 1) r.nest
 | .store _ _ a b r=>max (a.nest false 1+1) (max (b.nest false 1) r.nest)
 | .effect _ a b r=>max (a.nest false 1) (max (b.nest false 1) r.nest)
 | .stop r=>r.nest
 | .cond _ _ c b r=>max (c.nest false 1) (max (b.nest+1) r.nest)
 | .block _ b r=>max b.nest r.nest
def Ss.fl (f fi fb:Bool):Ss->Ss
 | .nil => .nil
 | .assign _ s e r => .assign f s (e.fl f) (r.fl f fi fb)
 | .store _ s a b r => .store f s (a.fl f) (b.fl f) (r.fl f fi fb)
 | .effect _ a b r => .effect f (a.fl f) (b.fl f) (r.fl f fi fb)
 | .stop r => .stop (r.fl f fi fb)
 | .cond w _ c b r => .cond w (if w then f else fi) (c.fl f) (b.fl f fi fb) (r.fl f fi fb)
 | .block _ b r => .block fb (b.fl f fi fb) (r.fl f fi fb)
theorem qnP (a:Ss):a.app .nil=a:=by induction a<;>simp_all [Ss.app]
theorem qca (a b c:Ss):(a.app b).app c=a.app (b.app c):=by induction a<;>simp_all [Ss.app]
theorem qfH {s x:ByteArray} (h:qq8 s) (hx:x∈fieldNames\/x∈wordNames\/qak qaM x=false):s≠x:=by
 rintro rfl
 rcases hx with hx | hx | hx
 ·exact h.2.2.1 hx
 ·exact h.2.2.2 hx
 ·rw[h.2.1] at hx; cases hx
theorem qer {s x:ByteArray} (h:s∈fieldNames) (hx:x∉fieldNames):s≠x:=fun e=>hx (e ▸ h)
theorem qtl : ∀ (s:Ss),s.good none -> ∃ x l,s.tx++[bs [125]]=x::l/\x≠qj8/\(s ≠ .nil->x≠bs [125])
 | .nil,_=>⟨_,_,rfl,by decide,fun h=>absurd rfl h⟩
 | .assign f s e r,h=>⟨_,_,rfl,qfH h.2.1 (.inr (.inl (by decide))),fun _=>qfH h.2.1 (.inr (.inr (by decide)))⟩
 | .store f s a b r,h=>⟨_,_,rfl,qer h.2.1 (by decide),fun _=>qer h.2.1 (by decide)⟩
 | .effect f a b r,h=>⟨_,_,rfl,by decide,fun _=>by decide⟩
 | .stop r,h=>⟨_,_,rfl,by decide,fun _=>by decide⟩
 | .cond w f c b r,h=>by
  refine⟨_,_,rfl,?_,fun _=>?_⟩<;>cases w<;>decide
 | .block f b r,h=>by obtain⟨n,hn,_⟩:=h; cases hn
section
variable {eS eL:Nat} {f fi fb:Bool}
def qyf (eS eL:Nat) (f fi fb:Bool):Ss->Prop
 | .block _ b r=>(∀ lv ts q,Hx (bs [123]::(b.tx++[bs [125]])) ts q->lv+b.nest<=20 -> ∃ n,qaW eS eL f fi fb n lv ts=some (.ok (b.fl f fi fb) q))/\qyf eS eL f fi fb r
 | _=>True
theorem qvz (x:ByteArray) (hx : ∀ o:Bop,o.str≠x) {l:List ByteArray} {ts r:List Tk} (h:Hx (x::l) ts r):Stops 1 ts:=qfJ x (qh9 x hx) h
theorem rb1 {e:E} (hg:e.good) {x:ByteArray} (hx : ∀ o:Bop,o.str≠x) {l:List ByteArray} {ts r:List Tk} {lv:Nat} (h:Hx (e.tx false 1++x::l) ts r) (hl:lv+e.nest false 1<=20) :
  ∃ n mid,qal eS eL f n 1 lv ts=some (.ok (e.fl f) mid)/\Hx (x::l) mid r:=by
 obtain⟨mid,h1,h2⟩:=hx_app.1 h
 obtain⟨n,hn⟩:=(rb (eS:=eS) (eL:=eL) (f:=f) false e hg).1 1 lv ts mid (by omega) (by omega) h1 hl (qvz x hx h2)
 exact⟨n,mid,hn,h2⟩
theorem qq9 {e:E} (hg:e.good) {l:List ByteArray} {ts r:List Tk} {lv:Nat} (h:Hx (bs [91]::(e.tx false 1++bs [93]::l)) ts r) (hl:lv+(e.nest false 1+1)<=20) :
  ∃ n mid,qbe eS eL f n lv ts=some (.ok (e.fl f) mid)/\Hx l mid r:=by
 obtain⟨n,mid,h1,h2⟩:=rb1 (eS:=eS) (eL:=eL) (f:=f) hg (by intro o; cases o<;>decide) (qch h).2 (lv:=lv+1) (by omega)
 refine⟨n+1,mid.tail,?_,(qch h2).2⟩
 rw[qbe,qfI h (by omega)]
 simp only[h1,qcF h2]
theorem rbS : ∀ s:Ss,
  (s.good none -> ∀ lv a ts r,Hx (s.tx++[bs [125]]) ts r->lv+s.nest<=20 -> ∃ n,qbV eS eL f fi fb n lv a ts=some (.ok (a.app (s.fl f fi fb)) r)) /\
  ((∃ k,s.good (some k))->qyf eS eL f fi fb s):=by
 have step : ∀ (s1:Ss) (x:ByteArray) lv a ts mid y,nx ts=some x->x≠bs [125]->(∃ n,qck eS eL f fi fb n lv ts=some (.ok s1 mid))->(∃ n,qbV eS eL f fi fb n lv (a.app s1) mid=some y) -> ∃ n,qbV eS eL f fi fb n lv a ts=some y:=by
  rintro s1 x lv a ts mid y hn hx ⟨n,h1⟩ ⟨m,h2⟩
  refine⟨max n m+1,?_⟩
  rw[qbV,hn]
  simp only
  rw[if_neg hx,qi9 h1 (Nat.le_max_left n m)]
  exact ql5 h2 (Nat.le_max_right n m)
 have closed : ∀ {α : Type} (a : α) (l:List ByteArray) (ts r:List Tk),Hx (bs [59]::l) ts r->qbc eS a ts = .ok a ts.tail:=fun a l ts r h=>by rw[qbc,qcF h]
 intro s
 induction s with
 | nil=>
  refine⟨fun _ lv a ts r hx hl=>⟨1,?_⟩,fun _=>trivial⟩
  obtain⟨hn,ht⟩:=qch hx
  cases ht
  simp[qbV,hn,qnP,Ss.fl]
 | assign g s e r ih=>
  refine⟨fun hg lv a ts q hx hl=>?_,fun _=>trivial⟩
  obtain⟨-,g1,g2,g3⟩:=hg
  simp only[Ss.nest] at hl
  simp only[Ss.tx,List.cons_append,List.append_assoc] at hx
  obtain⟨hn,h1⟩:=qch hx
  obtain⟨n,mid,h3,h4⟩:=rb1 (eS:=eS) (eL:=eL) (f:=f) g2 (by intro o; cases o<;>decide) (qch h1).2 (lv:=lv) (by omega)
  obtain⟨m,hm⟩:=ih.1 g3 lv (a.app (.assign f s (e.fl f) .nil)) mid.tail q (qch h4).2 (by omega)
  refine step (.assign f s (e.fl f) .nil) s lv a ts mid.tail _ hn (qfH g1 (.inr (.inr (by decide)))) ⟨n+1,?_⟩ ⟨m,?_⟩
  ·rw[qck,hn]
   simp only
   rw[if_neg (qfH g1 (.inr (.inl (by decide)))),if_neg (qfH g1 (.inr (.inl (by decide)))),if_neg (qfH g1 (.inr (.inl (by decide)))),if_neg (qfH g1 (.inr (.inl (by decide)))),if_neg g1.2.2.1,if_pos ⟨g1.2.1,g1.2.2.2⟩,qcF h1]
   simp only[h3,closed _ _ _ _ h4]
  ·rw[hm,qca]; rfl
 | store g s x y r ih=>
  refine⟨fun hg lv a ts q hx hl=>?_,fun _=>trivial⟩
  obtain⟨-,g1,g2,g3,g4⟩:=hg
  simp only[Ss.nest] at hl
  simp only[Ss.tx,List.cons_append,List.append_assoc] at hx
  obtain⟨hn,h1⟩:=qch hx
  obtain⟨n,mid,h3,h4⟩:=qq9 (eS:=eS) (eL:=eL) (f:=f) g2 h1 (lv:=lv) (by omega)
  obtain⟨n2,mid2,h5,h6⟩:=rb1 (eS:=eS) (eL:=eL) (f:=f) g3 (by intro o; cases o<;>decide) (qch h4).2 (lv:=lv) (by omega)
  obtain⟨m,hm⟩:=ih.1 g4 lv (a.app (.store f s (x.fl f) (y.fl f) .nil)) mid2.tail q (qch h6).2 (by omega)
  refine step (.store f s (x.fl f) (y.fl f) .nil) s lv a ts mid2.tail _ hn (qer g1 (by decide)) ⟨max n n2+1,?_⟩ ⟨m,?_⟩
  ·rw[qck,hn]
   simp only
   rw[if_neg (qer g1 (by decide)),if_neg (qer g1 (by decide)),if_neg (qer g1 (by decide)),if_neg (qer g1 (by decide)),if_pos g1,qhZ h3 (Nat.le_max_left n n2)]
   simp only[qcF h4,qbd h5 (Nat.le_max_right n n2),closed _ _ _ _ h6]
  ·rw[hm,qca]; rfl
 | effect g x y r ih=>
  refine⟨fun hg lv a ts q hx hl=>?_,fun _=>trivial⟩
  obtain⟨-,g2,g3,g4⟩:=hg
  simp only[Ss.nest] at hl
  simp only[Ss.tx,List.cons_append,List.append_assoc] at hx
  obtain⟨hn,h1⟩:=qch hx
  obtain⟨n,mid,h3,h4⟩:=rb1 (eS:=eS) (eL:=eL) (f:=f) g2 (by intro o; cases o<;>decide) h1 (lv:=lv) (by omega)
  obtain⟨n2,mid2,h5,h6⟩:=rb1 (eS:=eS) (eL:=eL) (f:=f) g3 (by intro o; cases o<;>decide) (qch h4).2 (lv:=lv) (by omega)
  obtain⟨m,hm⟩:=ih.1 g4 lv (a.app (.effect f (x.fl f) (y.fl f) .nil)) mid2.tail q (qch h6).2 (by omega)
  refine step (.effect f (x.fl f) (y.fl f) .nil) _ lv a ts mid2.tail _ hn (by decide) ⟨max n n2+1,?_⟩ ⟨m,?_⟩
  ·rw[qck,hn]
   simp only
   rw[if_neg (by decide),if_neg (by decide),if_pos (by rfl),qbd h3 (Nat.le_max_left n n2)]
   simp only[qcF h4,qbd h5 (Nat.le_max_right n n2),closed _ _ _ _ h6]
  ·rw[hm,qca]; rfl
 | stop r ih=>
  refine⟨fun hg lv a ts q hx hl=>?_,fun _=>trivial⟩
  obtain⟨-,g4⟩:=hg
  simp only[Ss.nest] at hl
  simp only[Ss.tx,List.cons_append,List.append_assoc] at hx
  obtain⟨hn,h1⟩:=qch hx
  obtain⟨m,hm⟩:=ih.1 g4 lv (a.app (.stop .nil)) ts.tail.tail q (qch h1).2 (by omega)
  refine step (.stop .nil) _ lv a ts ts.tail.tail _ hn (by decide) ⟨1,?_⟩ ⟨m,?_⟩
  ·rw[qck,hn]
   simp only
   rw[if_neg (by decide),if_neg (by decide),if_neg (by decide),if_pos (by rfl),closed _ _ _ _ h1]
  ·rw[hm,qca]; rfl
 | cond w g c b r ihb ih=>
  refine⟨fun hg lv a ts q hx hl=>?_,fun _=>trivial⟩
  obtain⟨-,g2,g3,g4⟩:=hg
  simp only[Ss.nest] at hl
  simp only[Ss.tx,List.cons_append,List.append_assoc] at hx
  obtain⟨hn,h1⟩:=qch hx
  have hrow:=ihb.2 ⟨_,g3⟩
  cases b with
  | block fb1 b1 b'=>
   obtain⟨k,hk,gb1,gb'⟩:=g3
   simp only[Ss.tx,List.cons_append,List.append_assoc] at h1
   obtain⟨n,mid,h3,h4⟩:=rb1 (eS:=eS) (eL:=eL) (f:=f) g2 (by intro o; cases o<;>decide) h1 (lv:=lv) (by omega)
   simp only[Ss.nest] at hl
   have h4' : ∃ mid2,Hx (bs [123]::(b1.tx++[bs [125]])) mid mid2/\Hx ((if qcR b'=true then qj8::b'.tx else [])++(r.tx++[bs [125]])) mid2 q:=by
    have e:bs [123]::(b1.tx++bs [125]::((if qcR b'=true then qj8::b'.tx else [])++(r.tx++[bs [125]])))=(bs [123]::(b1.tx++[bs [125]]))++((if qcR b'=true then qj8::b'.tx else [])++(r.tx++[bs [125]])):=by simp
    rw[e] at h4
    exact hx_app.1 h4
   obtain⟨mid2,h5,h6⟩:=h4'
   obtain⟨n2,h7⟩:=hrow.1 (lv+1) mid mid2 h5 (by omega)
   cases w with
   | true=>
    simp only[if_true] at hk hn
    obtain rfl:k=0:=by simpa using hk.symm
    have hb':b' = .nil:=by
     cases b' with
     | nil=>rfl
     | block=>obtain⟨k,hk,_⟩:=gb'; cases hk
     | _=>exact absurd gb'.1 (by simp)
    subst hb'
    simp only[qcR,Bool.false_eq_true,if_false,List.nil_append] at h6
    obtain⟨m,hm⟩:=ih.1 g4 lv (a.app (.cond true f (c.fl f) (.block fb (b1.fl f fi fb) .nil) .nil)) mid2 q h6 (by omega)
    refine step _ _ lv a ts mid2 _ hn (by decide) ⟨max n n2+1,?_⟩ ⟨m,hm.trans ?_⟩
    ·rw[qck,hn]
     simp only
     rw[if_neg (by decide),if_pos (by rfl),qbd h3 (Nat.le_max_left n n2)]
     simp only[qcQ h7 (Nat.le_max_right n n2)]
    ·rw[qca]; rfl
   | false=>
    simp only[Bool.false_eq_true,if_false] at hk hn
    obtain rfl:k=1:=by simpa using hk.symm
    cases b' with
    | block fb2 b2 b''=>
     obtain⟨k2,hk2,gb2,gb''⟩:=gb'
     obtain rfl:k2=0:=by simpa using hk2.symm
     have hb'':b'' = .nil:=by
      cases b'' with
      | nil=>rfl
      | block=>obtain⟨k,hk,_⟩:=gb''; cases hk
      | _=>exact absurd gb''.1 (by simp)
     subst hb''
     simp only[Ss.nest] at hl
     by_cases he:qcR (.block fb2 b2 .nil)=true
     ·rw[if_pos he] at h6
      simp only[List.cons_append,Ss.tx,List.append_assoc] at h6
      obtain⟨hn6,h8⟩:=qch h6
      have h9 : ∃ mid3,Hx (bs [123]::(b2.tx++[bs [125]])) mid2.tail mid3/\Hx (r.tx++[bs [125]]) mid3 q:=by
       have e:bs [123]::(b2.tx++bs [125]::((if qcR Ss.nil=true then [qj8] else [])++(r.tx++[bs [125]])))=(bs [123]::(b2.tx++[bs [125]]))++(r.tx++[bs [125]]):=by simp[qcR]
       rw[e] at h8
       exact hx_app.1 h8
      obtain⟨mid3,h10,h11⟩:=h9
      obtain⟨n3,h12⟩:=hrow.2.1 (lv+1) mid2.tail mid3 h10 (by omega)
      obtain⟨m,hm⟩:=ih.1 g4 lv (a.app (.cond false fi (c.fl f) (.block fb (b1.fl f fi fb) (.block fb (b2.fl f fi fb) .nil)) .nil)) mid3 q h11 (by omega)
      refine step _ _ lv a ts mid3 _ hn (by decide) ⟨max n (max n2 n3)+1,?_⟩ ⟨m,hm.trans ?_⟩
      ·rw[qck,hn]
       simp only
       rw[if_pos (by rfl),qbd h3 (by omega)]
       simp only[qcQ h7 (show n2<=max n (max n2 n3) by omega),hn6]
       rw[if_pos (by rfl),qcQ h12 (by omega)]
      ·rw[qca]; rfl
     ·rw[if_neg he] at h6
      simp only[List.nil_append] at h6
      have hb2:b2 = .nil:=by cases b2<;>first | rfl | exact absurd rfl he
      subst hb2
      obtain⟨x,l,q1,q2,q3⟩:=qtl r g4
      have hn6:nx mid2=some x:=by rw[q1] at h6; exact (qch h6).1
      obtain⟨m,hm⟩:=ih.1 g4 lv (a.app (.cond false fi (c.fl f) (.block fb (b1.fl f fi fb) (.block fb .nil .nil)) .nil)) mid2 q h6 (by omega)
      refine step _ _ lv a ts mid2 _ hn (by decide) ⟨max n n2+1,?_⟩ ⟨m,hm.trans ?_⟩
      ·rw[qck,hn]
       simp only
       rw[if_pos (by rfl),qbd h3 (by omega)]
       simp only[qcQ h7 (show n2<=max n n2 by omega),hn6]
       rw[if_neg (show ¬ x=bs [101,108,115,101] from q2)]
      ·rw[qca]; rfl
    | nil=>rcases gb' with h | h<;>cases h
    | _=>exact absurd gb'.1 (by simp)
  | nil=>rcases g3 with h | h<;>cases w<;>cases h
  | _=>exact absurd g3.1 (by simp)
 | block g b r ihb ihr=>
  refine⟨fun hg=>(by obtain⟨k,hk,_⟩:=hg; cases hk),fun hg=>?_⟩
  obtain⟨k,k',hk,g1,g2⟩:=hg
  refine⟨fun lv ts q hx hl=>?_,ihr.2 ⟨_,g2⟩⟩
  obtain⟨m,hm⟩:=ihb.1 g1 lv .nil ts.tail q (qch hx).2 hl
  refine⟨m+1,?_⟩
  rw[qaW,qfI hx (by omega)]
  exact hm
end
end Go.Pm
end SYi
section SYj
namespace Go.Pm
def qs7 (u:ByteArray):Prop:=(byl u).head?≠some 61
def qws (t:ByteArray):Prop:=t≠bs [60]/\t≠bs [62]/\t≠bs [61]/\t≠bs [33]
theorem ql3 : ∀ {a b:List ByteArray},Ok2 a->Ok2 b->(∀ t u,a.getLast?=some t->b.head?=some u->Adj t u)->Ok2 (a++b)
 | [],b,_,hb,_=>hb
 | t::a,b,ha,hb,h=>by
  refine⟨ha.1,fun u hu=>?_,ql3 ha.2.2 hb fun t' u h1 h2=>?_⟩
  ·cases a with
   | nil=>exact h t u rfl hu
   | cons v a=>exact ha.2.1 u hu
  ·cases a with
   | nil=>cases h1
   | cons v a=>exact h t' u (by rw[List.getLast?_cons_cons]; exact h1) h2
structure Cl (l:List ByteArray):Prop where
 ok:Ok2 l
 st : ∀ u,l.head?=some u->qs7 u
 en : ∀ t,l.getLast?=some t->qws t
theorem qpd:Cl []:=⟨trivial,fun u h=>(by cases h),fun t h=>(by cases h)⟩
theorem qmX {x:ByteArray} (h:Tg (byl x)) (h1:qs7 x) (h2:qws x):Cl [x]:=⟨⟨h,fun u hu=>(by cases hu),trivial⟩,fun u hu=>(by cases hu; exact h1),fun t ht=>(by cases ht; exact h2)⟩
theorem qbo {a b:List ByteArray} (ha:Cl a) (hb:Cl b):Cl (a++b):=by
 refine⟨ql3 ha.ok hb.ok fun t u h1 _ => .inl (ha.en t h1),fun u hu=>?_,fun t ht=>?_⟩
 ·cases a with
  | nil=>exact hb.st u hu
  | cons v a=>exact ha.st u hu
 ·rw[List.getLast?_append] at ht
  cases hbl:b.getLast? with
  | none=>rw[hbl] at ht; exact ha.en t ht
  | some v=>rw[hbl] at ht; exact hb.en t (hbl.trans ht)
theorem qs8 {x:ByteArray} {a b:List ByteArray} (h:Tg (byl x)) (ha:Cl a) (hb:Cl b) (na:a≠[]) (nb:b≠[]):Cl (a++x::b):=by
 have hxb:Ok2 (x::b):=⟨h,fun u hu => .inr (hb.st u hu),hb.ok⟩
 refine⟨ql3 ha.ok hxb fun t u h1 _ => .inl (ha.en t h1),fun u hu=>?_,fun t ht=>?_⟩
 ·cases a with
  | nil=>exact absurd rfl na
  | cons v a=>exact ha.st u hu
 ·cases b with
  | nil=>exact absurd rfl nb
  | cons v b=>
   rw[List.getLast?_append,List.getLast?_cons_cons] at ht
   cases hbl:(v::b).getLast? with
   | none=>simp at hbl
   | some w=>rw[hbl] at ht; exact hb.en t (hbl.trans ht)
theorem qvq {x:ByteArray} {b:List ByteArray} (h:Tg (byl x)) (h1:qs7 x) (hb:Cl b) (nb:b≠[]):Cl (x::b):=by
 refine⟨⟨h,fun u hu => .inr (hb.st u hu),hb.ok⟩,fun u hu=>(by cases hu; exact h1),fun t ht=>?_⟩
 cases b with
 | nil=>exact absurd rfl nb
 | cons v b=>rw[List.getLast?_cons_cons] at ht; exact hb.en t ht
theorem qpe {c:UInt8} (h:c.toNat∈symB):Tg (byl (bs [c])):=by rw[qa6]; exact .inr (.inr (.inr ⟨c,rfl,h⟩))
theorem qxw (o:Bop):Tg (byl o.str):=by
 cases o
 all_goals first
  | exact .inr (.inr (.inr ⟨_,rfl,by decide⟩))
  | exact .inr (.inr (.inl (by decide)))
theorem qxx (neg:Bool):Tg (byl (ustr neg)):=by
 cases neg<;>exact .inr (.inr (.inr ⟨_,rfl,by decide⟩))
theorem qs9 {c:UInt8} {r:List UInt8} (h:qaM c=true) (h2 : ∀ b∈r,qao b=true) (h3:(c::r).length<=8):Tg (byl (bs (c::r))):=by
 rw[qa6]
 exact .inl ⟨c,r,rfl,h,h2,fun h=>by omega⟩
theorem clf {x:ByteArray} (h:x∈fieldNames):Cl [x]:=by
 simp only[fieldNames,List.mem_cons,List.not_mem_nil,or_false] at h
 rcases h with h | h | h | h | h | h | h | h<;>rw[h]
 all_goals exact qmX (.inl ⟨_,_,rfl,by decide,by decide,by decide⟩) (by unfold qs7; decide) (by unfold qws; decide)
theorem clw {x:ByteArray} (h:x∈wordNames):Cl [x]:=by
 simp only[wordNames,List.mem_cons,List.not_mem_nil,or_false] at h
 rcases h with h | h | h | h | h | h | h | h | h | h | h | h | h<;>rw[h]
 all_goals exact qmX (.inl ⟨_,_,rfl,by decide,by decide,by decide⟩) (by unfold qs7; decide) (by unfold qws; decide)
theorem qrY {x:ByteArray} (h:Tg (byl x)) (hs:qak qaM x=true\/qak qaj x=true):Cl [x]:=by
 refine qmX h ?_ ⟨?_,?_,?_,?_⟩
 ·intro h1
  rw[qaN,qaN,h1] at hs
  exact absurd hs (by decide)
 all_goals rintro rfl; exact absurd hs (by decide)
theorem qpf {x:ByteArray} (h:qq8 x):Cl [x]:=qrY h.1 (.inl h.2.1)
theorem cls {c:UInt8} (h:c.toNat∈symB) (h1:c≠61) (h2:c≠60/\c≠62/\c≠33):Cl [bs [c]]:=by
 refine qmX (qpe h) (by rw[qs7,qa6]; simpa using h1) ⟨?_,?_,?_,?_⟩
 all_goals
  intro h
  have:=qjr h
  simp only[List.cons.injEq,and_true] at this
  simp_all
theorem qta (full:Bool) {e:E} (h:e.good) (p:Nat):e.tx full p≠[]:=by
 obtain⟨x,l,h1,_⟩:=ql9 full e h p
 rw[h1]; simp
theorem qmY {b:Bool} {l:List ByteArray} (h:Cl l):Cl (qbz b l):=by
 unfold qbz
 split
 ·exact qbo (a:=[bs [40]]) (cls (by decide) (by decide) (by decide)) (qbo h (cls (by decide) (by decide) (by decide)))
 ·exact h
theorem qhX (full:Bool) : ∀ e:E,e.good -> ∀ p,Cl (e.tx full p)
 | .int n,h,p=>qrY (by rw[qa6]; exact qtn (by have:=h.1; have:=h.2; omega)) (.inr (qj9 (by have:=h.1; have:=h.2; omega)))
 | .bool n,h,p=>by
  simp only[E.tx]
  split<;>exact clw (by decide)
 | .var s,h,p=>qpf h
 | .name s,h,p=>by
  refine clw ?_
  rcases h with rfl | rfl | rfl<;>decide
 | .field g s e,h,p=>qbo (clf h.1) (qbo (a:=[bs [91]]) (cls (by decide) (by decide) (by decide)) (qbo (qhX full e h.2 1) (cls (by decide) (by decide) (by decide))))
 | .un g neg e,h,p=>qmY (qvq (qxx neg) (by unfold qs7; cases neg<;>decide) (qhX full e h _) (qta full (e:=e) h _))
 | .bin g o a b,h,p=>qmY (qs8 (qxw o) (qhX full a h.1 _) (qhX full b h.2 _) (qta full h.1 _) (qta full h.2 _))
theorem qhd : ∀ (s:Ss) m,s.good m->Cl s.tx
 | .nil,m,h=>qpd
 | .assign g s e r,m,h=>qs8 (a:=[s]) (qpe (by decide)) (qpf h.2.1) (qbo (qhX false e h.2.2.1 1) (qbo (a:=[bs [59]]) (cls (by decide) (by decide) (by decide)) (qhd r _ h.2.2.2))) (by simp) (by simp)
 | .store g s a b r,m,h=>by
  have h1:Cl (s::bs [91]::(a.tx false 1++[bs [93]])):=qbo (clf h.2.1) (qbo (a:=[bs [91]]) (cls (by decide) (by decide) (by decide)) (qbo (qhX false a h.2.2.1 1) (cls (by decide) (by decide) (by decide))))
  have h2:Cl (b.tx false 1++(bs [59]::r.tx)):=qbo (qhX false b h.2.2.2.1 1) (qbo (a:=[bs [59]]) (cls (by decide) (by decide) (by decide)) (qhd r _ h.2.2.2.2))
  have:=qs8 (x:=bs [61]) (qpe (by decide)) h1 h2 (by simp) (by simp)
  simpa [Ss.tx] using this
 | .effect g a b r,m,h=>qbo (a:=[ql8]) (clw (by decide)) (qbo (qhX false a h.2.1 1) (qbo (a:=[bs [44]]) (cls (by decide) (by decide) (by decide)) (qbo (qhX false b h.2.2.1 1) (qbo (a:=[bs [59]]) (cls (by decide) (by decide) (by decide)) (qhd r _ h.2.2.2)))))
 | .stop r,m,h=>qbo (a:=[qtk]) (clw (by decide)) (qbo (a:=[bs [59]]) (cls (by decide) (by decide) (by decide)) (qhd r _ h.2))
 | .cond w g c b r,m,h=>qbo (a:=[if w then qpm else ifS]) (clw (by cases w<;>decide)) (qbo (qhX false c h.2.1 1) (qbo (qhd b _ h.2.2.1) (qhd r _ h.2.2.2)))
 | .block g b r,m,h=>by
  obtain⟨n,_,h1,h2⟩:=h
  have hlast:Cl (if qcR r then qj8::r.tx else []):=?_
  ·exact qbo (a:=[bs [123]]) (cls (by decide) (by decide) (by decide)) (qbo (qhd b _ h1) (qbo (a:=[bs [125]]) (cls (by decide) (by decide) (by decide)) hlast))
  split
  ·exact qbo (a:=[qj8]) (clw (by decide)) (qhd r _ h2)
  ·exact qpd
def qb0 (k:Nat):ByteArray:=match k with | 0=>bs [97,99,116] | 1=>qh8 | _=>qik
def qdH (k:Nat):Option Ss->List ByteArray
 | none=>[]
 | some b=>onS::qb0 k::bs [123]::(b.tx++[bs [125]])
def qcD (h:Option Ss):Prop := ∀ b,h=some b->b.good none/\b.nest<=19
theorem qq0 {k:Nat} {h:Option Ss} (hg:qcD h):Cl (qdH k h):=by
 cases h with
 | none=>exact qpd
 | some b=>
  refine qbo (a:=[onS]) (clw (by decide)) (qbo (a:=[qb0 k]) (clw ?_) (qbo (a:=[bs [123]]) (cls (by decide) (by decide) (by decide)) (qbo (qhd b _ (hg b rfl).1) (cls (by decide) (by decide) (by decide)))))
  rcases k with _ | _ | k
  ·decide
  ·decide
  ·show qik∈wordNames; decide
def qaG (h:Nat->Option Ss):List ByteArray:=qdH 0 (h 0)++(qdH 1 (h 1)++qdH 2 (h 2))
theorem ql4 {h:Nat->Option Ss} (hg : ∀ k,qcD (h k)):Cl (qaG h):=qbo (qq0 (hg 0)) (qbo (qq0 (hg 1)) (qq0 (hg 2)))
theorem qj4 {k:Nat} (h:k<3):qby (qb0 k)=some k:=by
 rcases k with _ | _ | _ | k
 ·rfl
 ·rfl
 ·rfl
 ·omega
section
variable {eS eL eD:Nat} {f fi fb:Bool}
def qyw (h:Nat->Option Ss) (k:Nat) (b:Ss):Nat->Option Ss:=fun i=>if i=k then some b else h i
theorem rbH {h:Nat->Option Ss} {k:Nat} {b:Ss} (hk:k<3) (hh:h k=none) (hg:b.good none) (hn:b.nest<=19) {ts mid:List Tk} (hx:Hx (qdH k (some b)) ts mid) {y} (hy : ∃ n,qcC eS eL eD f fi fb n (qyw h k (b.fl f fi fb)) mid=some y) :
  ∃ n,qcC eS eL eD f fi fb n h ts=some y:=by
 obtain⟨h1,h2⟩:=qch hx
 obtain⟨h3,h4⟩:=qch h2
 have hr : ∃ n,qaW eS eL f fi fb n 1 ts.tail.tail=some (.ok (b.fl f fi fb) mid):=by
  obtain⟨n,hn⟩:=(rbS (eS:=eS) (eL:=eL) (f:=f) (fi:=fi) (fb:=fb) b).1 hg 1 .nil ts.tail.tail.tail mid (qch h4).2 (by omega)
  refine⟨n+1,?_⟩
  rw[qaW,qfI h4 (by omega)]
  exact hn
 obtain⟨n,hn⟩:=hr
 obtain⟨m,hm⟩:=hy
 refine⟨max n m+1,?_⟩
 rw[qcC,h1]
 simp only
 rw[if_neg (by decide),show qau eS (bs [111,110]) ts = .ok () ts.tail from qcF hx]
 simp only[h3,qj4 hk]
 rw[if_neg (by rw[hh]; simp),qcQ hn (Nat.le_max_left n m)]
 exact qgA hm (Nat.le_max_right n m)
theorem rbP {h:Nat->Option Ss} (hg : ∀ k,qcD (h k)) {ts mid:List Tk} (hx:Hx (qaG h) ts mid) (he:nx mid=some ⟨#[]⟩) :
  ∃ n,qcC eS eL eD f fi fb n (fun _=>none) ts=some (.ok (fun k=>if k<3 then (h k).map (·.fl f fi fb) else none) mid):=by
 obtain⟨m1,x1,hx⟩:=hx_app.1 hx
 obtain⟨m2,x2,x3⟩:=hx_app.1 hx
 have one : ∀ (k:Nat) (h0:Nat->Option Ss) (ts m:List Tk) y,k<3->h0 k=none->Hx (qdH k (h k)) ts m->(∃ n,qcC eS eL eD f fi fb n (fun i=>if i=k then (h k).map (·.fl f fi fb) else h0 i) m=some y) -> ∃ n,qcC eS eL eD f fi fb n h0 ts=some y:=by
  intro k h0 ts m y hk h0k hx hy
  have hgk:=hg k
  cases hb:h k with
  | none=>
   rw[hb] at hx hy
   cases hx
   obtain⟨n,hn⟩:=hy
   refine⟨n,?_⟩
   rw[<- hn]
   congr 1
   funext i
   split
   ·rename_i e; rw[e,h0k]; rfl
   ·rfl
  | some b=>
   rw[hb] at hx hy hgk
   exact rbH hk h0k (hgk b rfl).1 (hgk b rfl).2 hx hy
 refine one 0 _ ts m1 _ (by omega) rfl x1 (one 1 _ m1 m2 _ (by omega) (by simp) x2 (one 2 _ m2 mid _ (by omega) (by simp) x3 ⟨1,?_⟩))
 rw[qcC,he]
 simp only
 rw[if_pos (by rfl)]
 congr 2
 funext i
 rcases i with _ | _ | _ | i<;>simp
 omega
end
end Go.Pm
end SYj
section SUa
namespace Go.Pm
def Fo.eqv:Fo->Fo->Bool
 | .nil,.nil=>true
 | .cons k n s _ ks r,.cons k' n' s' _ ks' r'=>(decide (k=k')&&(decide (n=n')&&decide (s=s')))&&(ks.eqv ks'&&r.eqv r')
 | _,_=>false
theorem qp5 : ∀ {a b:Fo},a.eqv b=true->a.len=b.len
 | .nil,.nil,_=>rfl
 | .cons ..,.cons ..,h=>by
  simp only[Fo.eqv,Bool.and_eq_true] at h
  simp[qp5 h.2.2]
 | .nil,.cons ..,h=>by cases h
 | .cons ..,.nil,h=>by cases h
theorem qkt : ∀ a:Fo,a.eqv a=true
 | .nil=>rfl
 | .cons k n s f ks r=>by simp[Fo.eqv,qkt ks,qkt r]
theorem qt6 (f fi fb:Bool) (a b:Ss):(a.app b).fl f fi fb=(a.fl f fi fb).app (b.fl f fi fb):=by induction a<;>simp_all [Ss.fl,Ss.app]
theorem qmo (full f:Bool) : ∀ (e:E) p,(e.fl f).tx full p=e.tx full p
 | .int n,p | .bool n,p | .var s,p | .name s,p=>rfl
 | .field _ s e,p=>by simp[E.fl,E.tx,qmo full f e]
 | .un _ n e,p=>by simp[E.fl,E.tx,qmo full f e]
 | .bin _ o a b,p=>by simp[E.fl,E.tx,qmo full f a,qmo full f b]
theorem qrG (f fi fb:Bool) (r:Ss):qcR (r.fl f fi fb)=qcR r:=by
 cases r with
 | block g b r=>cases b<;>rfl
 | _=>rfl
theorem qha (f fi fb:Bool) : ∀ s:Ss,(s.fl f fi fb).tx=s.tx
 | .nil=>rfl
 | .assign _ s e r=>by simp[Ss.fl,Ss.tx,qmo,qha f fi fb r]
 | .store _ s a b r | .effect _ a b r=>by simp[Ss.fl,Ss.tx,qmo,qha f fi fb r]
 | .stop r=>by simp[Ss.fl,Ss.tx,qha f fi fb r]
 | .cond w _ c b r=>by simp[Ss.fl,Ss.tx,qmo,qha f fi fb b,qha f fi fb r]
 | .block _ b r=>by simp[Ss.fl,Ss.tx,qha f fi fb b,qha f fi fb r,qrG]
def Rz.map {α β : Type} (k : α -> β):Rz α -> Rz β
 | .ok a r => .ok (k a) r
 | .er i c => .er i c
theorem qcG {α β : Type} (k : α -> β) (c:Nat) (ts:List Tk):(failP c ts:Rz α).map k=failP c ts:=by cases ts<;>rfl
section
variable (eS eL:Nat) (f g:Bool)
theorem qmp : ∀ n:Nat,
  (∀ p lv ts,qal eS eL f n p lv ts=(qal eS eL g n p lv ts).map (Rz.map (E.fl f))) /\
  (∀ p lv e ts,qcc eS eL f n p lv (e.fl f) ts=(qcc eS eL g n p lv e ts).map (Rz.map (E.fl f))) /\
  (∀ lv ts,qbe eS eL f n lv ts=(qbe eS eL g n lv ts).map (Rz.map (E.fl f)))
 | 0=>⟨fun p lv ts=>by simp[qal],fun p lv e ts=>by simp[qcc],fun lv ts=>by simp[qbe]⟩
 | n+1=>by
  obtain⟨h1,h2,h3⟩:=qmp n
  refine⟨fun p lv ts=>?_,fun p lv e ts=>?_,fun lv ts=>?_⟩
  ·simp only[qal]
   split
   ·cases qcA eS eL (ustr (p==7)) (lv+1) ts with
    | er i c=>rfl
    | ok _ r=>
     simp only[h1 p (lv+1) r]
     cases qal eS eL g n p (lv+1) r with
     | none=>rfl
     | some y=>cases y<;>rfl
   split
   ·simp only[h1 (p+1) lv ts]
    cases qal eS eL g n (p+1) lv ts with
    | none=>rfl
    | some y=>
     cases y with
     | er i c=>rfl
     | ok e r=>simp only[Option.map_some,Rz.map,h2 p lv e r]
   cases nx ts with
   | none=>simp[qcG]
   | some s=>
    simp only
    split
    ·rfl
    split
    ·rfl
    split
    ·rfl
    split
    ·rfl
    split
    ·simp only[h3 lv ts.tail]
     cases qbe eS eL g n lv ts.tail with
     | none=>rfl
     | some y=>cases y<;>rfl
    split
    ·rfl
    cases qcA eS eL (bs [40]) (lv+1) ts with
    | er i c=>rfl
    | ok _ r=>
     simp only[h1 1 (lv+1) r]
     cases qal eS eL g n 1 (lv+1) r with
     | none=>rfl
     | some y=>
      cases y with
      | er i c=>rfl
      | ok e r'=>
       simp only[Option.map_some,Rz.map]
       cases qau eS (bs [41]) r'<;>rfl
  ·simp only[qcc]
   cases nx ts with
   | none=>
    simp only
    split
    ·rfl
    ·cases ts<;>rfl
   | some s=>
    simp only
    cases qjO p s with
    | none=>rfl
    | some o=>
     simp only[h1 (p+1) lv ts.tail]
     cases qal eS eL g n (p+1) lv ts.tail with
     | none=>rfl
     | some y=>
      cases y with
      | er i c=>rfl
      | ok e' r=>
       simp only[Option.map_some,Rz.map]
       split
       ·rfl
       ·exact h2 p lv (.bin g o e e') r
  ·simp only[qbe]
   cases qcA eS eL (bs [91]) (lv+1) ts with
   | er i c=>rfl
   | ok _ r=>
    simp only[h1 1 (lv+1) r]
    cases qal eS eL g n 1 (lv+1) r with
    | none=>rfl
    | some y=>
     cases y with
     | er i c=>rfl
     | ok e r'=>
      simp only[Option.map_some,Rz.map]
      cases qau eS (bs [93]) r'<;>rfl
variable (fi fb gi gb:Bool)
theorem qod (k:Ss->Ss) (a:Ss) (ts:List Tk):(qbc eS a ts).map k=qbc eS (k a) ts:=by
 unfold qbc
 cases qau eS (bs [59]) ts<;>rfl
theorem qp6 : ∀ n:Nat,
  (∀ lv ts,qck eS eL f fi fb n lv ts=(qck eS eL g gi gb n lv ts).map (Rz.map (Ss.fl f fi fb))) /\
  (∀ lv ts,qaW eS eL f fi fb n lv ts=(qaW eS eL g gi gb n lv ts).map (Rz.map (Ss.fl f fi fb))) /\
  (∀ lv a ts,qbV eS eL f fi fb n lv (a.fl f fi fb) ts=(qbV eS eL g gi gb n lv a ts).map (Rz.map (Ss.fl f fi fb)))
 | 0=>⟨fun lv ts=>by simp[qck],fun lv ts=>by simp[qaW],fun lv a ts=>by simp[qbV]⟩
 | n+1=>by
  obtain⟨h1,h2,h3⟩:=qp6 n
  have e1:=(qmp eS eL f g n).1
  have e3:=(qmp eS eL f g n).2.2
  refine⟨fun lv ts=>?_,fun lv ts=>?_,fun lv a ts=>?_⟩
  ·simp only[qck]
   cases nx ts with
   | none=>simp[qcG]
   | some s=>
    simp only
    split
    ·simp only[e1 1 lv ts.tail]
     cases qal eS eL g n 1 lv ts.tail with
     | none=>rfl
     | some y=>
      cases y with
      | er i c=>rfl
      | ok c r=>
       simp only[Option.map_some,Rz.map,h2 (lv+1) r]
       cases qaW eS eL g gi gb n (lv+1) r with
       | none=>rfl
       | some z=>
        cases z with
        | er i k=>rfl
        | ok b r1=>
         simp only[Option.map_some,Rz.map]
         cases nx r1 with
         | none=>simp[qcG]
         | some w=>
          simp only
          split
          ·simp only[h2 (lv+1) r1.tail]
           cases qaW eS eL g gi gb n (lv+1) r1.tail with
           | none=>rfl
           | some z2=>cases z2<;>rfl
          ·rfl
    split
    ·simp only[e1 1 lv ts.tail]
     cases qal eS eL g n 1 lv ts.tail with
     | none=>rfl
     | some y=>
      cases y with
      | er i c=>rfl
      | ok c r=>
       simp only[Option.map_some,Rz.map,h2 (lv+1) r]
       cases qaW eS eL g gi gb n (lv+1) r with
       | none=>rfl
       | some z=>cases z<;>rfl
    split
    ·simp only[e1 1 lv ts.tail]
     cases qal eS eL g n 1 lv ts.tail with
     | none=>rfl
     | some y=>
      cases y with
      | er i c=>rfl
      | ok a r=>
       simp only[Option.map_some,Rz.map]
       cases qau eS (bs [44]) r with
       | er i k=>rfl
       | ok _ r1=>
        simp only[e1 1 lv r1]
        cases qal eS eL g n 1 lv r1 with
        | none=>rfl
        | some z=>
         cases z with
         | er i k=>rfl
         | ok b r2=>
          simp only[Option.map_some,Rz.map,qbc]
          cases qau eS (bs [59]) r2<;>rfl
    split
    ·simp only[Option.map_some,qod]; rfl
    split
    ·simp only[e3 lv ts.tail]
     cases qbe eS eL g n lv ts.tail with
     | none=>rfl
     | some y=>
      cases y with
      | er i c=>rfl
      | ok a r=>
       simp only[Option.map_some,Rz.map]
       cases qau eS (bs [61]) r with
       | er i k=>rfl
       | ok _ r1=>
        simp only[e1 1 lv r1]
        cases qal eS eL g n 1 lv r1 with
        | none=>rfl
        | some z=>
         cases z with
         | er i k=>rfl
         | ok b r2=>
          simp only[Option.map_some,Rz.map,qbc]
          cases qau eS (bs [59]) r2<;>rfl
    split
    ·cases qau eS (bs [61]) ts.tail with
     | er i k=>rfl
     | ok _ r1=>
      simp only[e1 1 lv r1]
      cases qal eS eL g n 1 lv r1 with
      | none=>rfl
      | some z=>
       cases z with
       | er i k=>rfl
       | ok b r2=>
          simp only[Option.map_some,Rz.map,qbc]
          cases qau eS (bs [59]) r2<;>rfl
    ·simp[qcG]
  ·simp only[qaW]
   cases qcA eS eL (bs [123]) lv ts with
   | er i k=>rfl
   | ok _ r=>exact h3 lv .nil r
  ·simp only[qbV]
   cases nx ts with
   | none=>simp[qcG]
   | some s=>
    simp only
    split
    ·rfl
    ·simp only[h1 lv ts]
     cases qck eS eL g gi gb n lv ts with
     | none=>rfl
     | some y=>
      cases y with
      | er i k=>rfl
      | ok b r=>
       simp only[Option.map_some,Rz.map]
       rw[<- qt6]
       exact h3 lv (a.app b) r
variable (eD:Nat)
def qqc (f fi fb:Bool) (h:Nat->Option Ss):Nat->Option Ss:=fun k=>(h k).map (Ss.fl f fi fb)
theorem qp7 : ∀ (n:Nat) (h:Nat->Option Ss) (ts:List Tk),qcC eS eL eD f fi fb n (qqc f fi fb h) ts=(qcC eS eL eD g gi gb n h ts).map (Rz.map (qqc f fi fb))
 | 0,h,ts=>by simp[qcC]
 | n+1,h,ts=>by
  simp only[qcC]
  cases nx ts with
  | none=>simp[qcG]
  | some s=>
   simp only
   split
   ·rfl
   cases qau eS (bs [111,110]) ts with
   | er i k=>rfl
   | ok _ r=>
    simp only
    cases nx r with
    | none=>simp[qcG]
    | some w=>
     simp only
     cases qby w with
     | none=>simp[qcG]
     | some k=>
      have hs:(qqc f fi fb h k).isSome=(h k).isSome:=by unfold qqc; cases h k<;>rfl
      simp only[hs]
      split
      ·simp[qcG]
      ·simp only[(qp6 eS eL f g fi fb gi gb n).2.1 1 r.tail]
       cases qaW eS eL g gi gb n 1 r.tail with
       | none=>rfl
       | some y=>
        cases y with
        | er i c=>rfl
        | ok b r1=>
         simp only[Option.map_some,Rz.map]
         rw[<- qp7 n]
         congr 1
         funext i
         unfold qqc
         by_cases hi:i=k<;>simp[hi]
end
end Go.Pm
end SUa
section SFX
namespace Go.Pm.F
@[simp] abbrev sN:D := .lit (.slice none 0 0)
@[simp] abbrev eN:D := .lit (.string ⟨#[]⟩)
@[simp] abbrev zN:D := .lit (.int .i64 0)
@[simp] abbrev ii (n:Int):D := .lit (.int .i64 n)
@[simp] abbrev kk (n:Int):X := .c (.int .i64 n)
@[simp] abbrev kT:X := .c (.bool true)
@[simp] abbrev kF:X := .c (.bool false)
@[simp] abbrev jj (d:Nat) (o:O):I:=⟨some d,o,none,[]⟩
@[simp] abbrev jn (o:O):I:=⟨none,o,none,[]⟩
@[simp] abbrev jt (d g:Nat) (o:O):I:=⟨some d,o,some (g,true),[]⟩
@[simp] abbrev jf (d g:Nat) (o:O):I:=⟨some d,o,some (g,false),[]⟩
@[simp] abbrev mv (d a:Nat):I:=⟨some d,.mov (.t a),none,[]⟩
@[simp] abbrev mx (d:Nat) (x:X):I:=⟨some d,.mov x,none,[]⟩
@[simp] abbrev l1 (d a:Nat):I:=⟨some d,.load false 1 (.t a),none,[]⟩
@[simp] abbrev la (d n a:Nat):I:=⟨some d,.load true n (.t a),none,[]⟩
@[simp] abbrev fa (d o a:Nat):I:=⟨some d,.fieldAddr o (.t a),none,[]⟩
@[simp] abbrev nc (d a:Nat):I:=⟨some d,.nilchk (.t a),none,[]⟩
@[simp] abbrev bx (d a:Nat):I:=⟨some d,.box (.t a),none,[]⟩
@[simp] abbrev ex (d a n:Nat):I:=⟨some d,.extract (.t a) n,none,[]⟩
@[simp] abbrev ls (d a:Nat):I:=⟨some d,.len .sl (.t a),none,[]⟩
@[simp] abbrev lz (d a:Nat):I:=⟨some d,.len .str (.t a),none,[]⟩
@[simp] abbrev bn (d:Nat) (o:BinOp) (a b:Nat):I:=⟨some d,.bin o (.t a) (.t b),none,[]⟩
@[simp] abbrev bk (d:Nat) (o:BinOp) (a:Nat) (n:Int):I:=⟨some d,.bin o (.t a) (.c (.int .i64 n)),none,[]⟩
@[simp] abbrev st (n a b:Nat):I:=⟨none,.store n (.t a) (.t b),none,[]⟩
@[simp] abbrev cl (d f:Nat) (xs:List Nat):I:=⟨some d,.call f (xs.map .t),none,[]⟩
@[simp] abbrev rn (ops:List I) (keep:List Nat) (lasts:List Nat:=[]):PC := .region none ops keep lasts
end Go.Pm.F
end SFX
