/- The rule language in plain Lean: expressions written down, and read back. No program in sight. The rule language in plain Lean: statements and programs written down, and read back. No program in sight. The rule language in plain Lean: written tokens stand one behind the other; whole programs read back. No program in sight. The rule language in plain Lean: trees that are equal but for their marks; parsing with other marks. No program in sight. The abstract machine's program: short forms of its operations. -/
import Derived.Test.YtjdbkncfebebnaaDoorPmEt
import Derived.Test.YtjdbkncfebebnaaDoorPmA
set_option linter.unusedSimpArgs false
set_option linter.unusedVariables false
section SYh
namespace Go.Pm
def qhW:Nat->Nat->List UInt8
 | 0,_=>[]
 | k+1,n=>if n<10 then [(48+n).toUInt8] else qhW k (n / 10)++[(48+n % 10).toUInt8]
def qhb (n:Nat):List UInt8:=qhW 20 n
theorem qsZ : ∀ d,d<10->((48+d).toUInt8).toNat=48+d:=by decide
theorem qns (l:List UInt8) (c:UInt8):digV (l++[c])=10*digV l+(c.toNat-48):=by simp[digV]
theorem qiP : ∀ k n,n<10 ^ k->1<=k->digV (qhW k n)=n/\(∀ b∈qhW k n,qam b=true) /\ ∃ c r,qhW k n=c::r
 | 0,n,_,h=>by omega
 | k+1,n,h,_=>by
  rw[qhW]
  split
  ·rename_i hn
   have h1:=qsZ n hn
   refine⟨by simp only[digV,List.foldl_cons,List.foldl_nil,h1]; omega,fun b hb=>?_,_,_,rfl⟩
   rw[List.mem_singleton.1 hb]
   simp only[qam,h1,Bool.and_eq_true,decide_eq_true_eq]
   omega
  ·rename_i hn
   have h1:=qsZ (n % 10) (by omega)
   have hk:1<=k:=by
    rcases k with _ | k
    ·simp at h; omega
    ·omega
   obtain⟨i1,i2,c,r,i3⟩:=qiP k (n / 10) (by rw[Nat.pow_succ] at h; omega) hk
   refine⟨by rw[qns,i1,h1]; omega,fun b hb=>?_,c,r++[(48+n % 10).toUInt8],by rw[i3]; rfl⟩
   rcases List.mem_append.1 hb with hb | hb
   ·exact i2 b hb
   ·rw[List.mem_singleton.1 hb]
    simp only[qam,h1,Bool.and_eq_true,decide_eq_true_eq]
    omega
theorem qgq {n:Nat} (h:n<10 ^ 20):digV (qhb n)=n/\(∀ b∈qhb n,qam b=true) /\ ∃ c r,qhb n=c::r:=qiP 20 n h (by omega)
theorem qpa {n:Nat} (h:n<=2147483647):Tg (qhb n):=by
 obtain⟨h1,h2,c,r,h3⟩:=qgq (n:=n) (by omega)
 rw[h3] at h1 h2 ⊢
 exact .inr (.inl ⟨c,r,rfl,h2 c (List.mem_cons_self ..),fun b hb=>h2 b (List.mem_cons_of_mem _ hb),by omega⟩)
theorem qhX {n:Nat} (h:n<=2147483647):qar qam (bs (qhb n))=true:=by
 obtain⟨h1,h2,c,r,h3⟩:=qgq (n:=n) (by omega)
 rw[qaZ,qaU,h3]
 rw[h3] at h2
 exact h2 c (List.mem_cons_self ..)
def qiQ:ByteArray:=bs [116,114,117,101]
def qfE:ByteArray:=bs [102,97,108,115,101]
def qqR:ByteArray:=bs [115,101,108,102]
def qoa:ByteArray:=bs [111,116,104,101,114]
def qqS:ByteArray:=bs [116,105,99,107]
def Bop.prec:Bop->Nat
 | .or=>1 | .and=>2 | .lt | .le | .gt | .ge | .eq | .ne=>4 | .add | .sub=>5 | .mul | .div=>6
def qdt (neg:Bool):Nat:=if neg then 7 else 3
def qcc (b:Bool) (l:List ByteArray):List ByteArray:=if b then bs [40]::(l++[bs [41]]) else l
def Bop.left (o:Bop):Nat:=if o.prec=4 then 5 else o.prec
def E.tx (full:Bool):E->Nat->List ByteArray
 | .int n,_=>[bs (qhb n.toNat)]
 | .bool n,_=>[if n=0 then qfE else qiQ]
 | .var s,_=>[s]
 | .name s,_=>[s]
 | .field _ s e,_=>s::bs [91]::(e.tx full 1++[bs [93]])
 | .un _ neg e,p=>qcc (full||decide (qdt neg<p)) (ustr neg::e.tx full (qdt neg))
 | .bin _ o a b,p=>qcc (full||decide (o.prec<p)) (a.tx full o.left++o.str::b.tx full (o.prec+1))
def E.nest (full:Bool):E->Nat->Nat
 | .field _ _ e,_=>e.nest full 1+1
 | .un _ neg e,p=>e.nest full (qdt neg)+1+if (full||decide (qdt neg<p))=true then 1 else 0
 | .bin _ o a b,p=>max (a.nest full o.left) (b.nest full (o.prec+1))+if (full||decide (o.prec<p))=true then 1 else 0
 | _,_=>0
def E.good:E->Prop
 | .int n=>0<=n/\n<=2147483647
 | .bool n=>n=0\/n=1
 | .var s=>Tg (byl s)/\qar qaL s=true/\s∉fieldNames/\s∉wordNames
 | .name s=>s=qqR\/s=qoa\/s=qqS
 | .field _ s e=>s∈fieldNames/\e.good
 | .un _ _ e=>e.good
 | .bin _ _ a b=>a.good/\b.good
def E.fl (f:Bool):E->E
 | .int n => .int n
 | .bool n => .bool n
 | .var s => .var s
 | .name s => .name s
 | .field _ s e => .field f s (e.fl f)
 | .un _ neg e => .un f neg (e.fl f)
 | .bin _ o a b => .bin f o (a.fl f) (b.fl f)
theorem qa0 (o:Bop):(o.prec=1/\o.left=1)\/(o.prec=2/\o.left=2)\/(o.prec=4/\o.left=5)\/(o.prec=5/\o.left=5)\/(o.prec=6/\o.left=6):=by cases o<;>simp[Bop.prec,Bop.left]
def Hx:List ByteArray->List Tk->List Tk->Prop
 | [],ts,r=>ts=r
 | x::l,ts,r => ∃ t q,ts=t::q/\t.s=x/\t.bad=0/\Hx l q r
theorem hx_app : ∀ {a b:List ByteArray} {ts r:List Tk},Hx (a++b) ts r ↔ ∃ m,Hx a ts m/\Hx b m r
 | [],b,ts,r=>⟨fun h=>⟨ts,rfl,h⟩,fun ⟨m,h1,h2⟩=>by cases h1; exact h2⟩
 | x::a,b,ts,r=>by
  simp only[List.cons_append,Hx]
  constructor
  ·rintro ⟨t,q,h1,h2,h3,h4⟩
   obtain⟨m,h5,h6⟩:=hx_app.1 h4
   exact⟨m,⟨t,q,h1,h2,h3,h5⟩,h6⟩
  ·rintro ⟨m,⟨t,q,h1,h2,h3,h5⟩,h6⟩
   exact⟨t,q,h1,h2,h3,hx_app.2 ⟨m,h5,h6⟩⟩
theorem qdb {x:ByteArray} {l:List ByteArray} {ts r:List Tk} (h:Hx (x::l) ts r):nx ts=some x/\Hx l ts.tail r:=by
 obtain⟨t,q,h1,h2,h3,h4⟩:=h
 subst h1
 simp[nx,h3,h2]
 exact h4
theorem qdc {eS:Nat} {x:ByteArray} {l:List ByteArray} {ts r:List Tk} (h:Hx (x::l) ts r):qaF eS x ts = .ok () ts.tail:=by
 obtain⟨t,q,h1,h2,h3,h4⟩:=h
 subst h1
 simp[qaF,h3,h2]
theorem qgr {eS eL lv:Nat} {x:ByteArray} {l:List ByteArray} {ts r:List Tk} (h:Hx (x::l) ts r) (hl:lv<=20):qc4 eS eL x lv ts = .ok () ts.tail:=by
 rw[qc4,if_neg (by omega)]
 exact qdc h
def Stops (p:Nat) (r:List Tk):Prop := ∃ s,nx r=some s /\ ∀ q,p<=q->qjj q s=none
theorem Stops.mono {p q:Nat} {r:List Tk} (h:Stops p r) (hq:p<=q):Stops q r:=by
 obtain⟨s,h1,h2⟩:=h
 exact⟨s,h1,fun k hk=>h2 k (by omega)⟩
theorem qnt (o:Bop):qjj o.prec o.str=some o:=by cases o<;>rfl
theorem qk3 (o:Bop) (q:Nat) (h:q≠o.prec):qjj q o.str=none:=by
 rcases q with _ | _ | _ | _ | _ | _ | _ | q
 all_goals first | rfl | skip
 all_goals cases o<;>first | rfl | exact absurd rfl h
theorem qjx (full:Bool) : ∀ (e:E),e.good -> ∀ p,∃ x l,e.tx full p=x::l/\(x=ustr false->p<=3)/\(x=ustr true->p<=7)
 | .int n,h,p=>by
  have hd:=qhX (n:=n.toNat) (by have:=h.1; have:=h.2; omega)
  refine⟨_,_,rfl,fun hx=>?_,fun hx=>?_⟩
  all_goals
   rw[hx] at hd
   exact absurd hd (by decide)
 | .bool n,h,p=>by
  refine⟨_,_,rfl,fun hx=>?_,fun hx=>?_⟩
  all_goals split at hx<;>exact absurd hx (by decide)
 | .var s,h,p=>by
  refine⟨_,_,rfl,fun hx=>?_,fun hx=>?_⟩
  all_goals
   have:=h.2.1
   rw[hx] at this
   exact absurd this (by decide)
 | .name s,h,p=>by
  refine⟨_,_,rfl,fun hx=>?_,fun hx=>?_⟩
  all_goals rcases h with rfl | rfl | rfl<;>exact absurd hx (by decide)
 | .field f s e,h,p=>by
  refine⟨_,_,rfl,fun hx=>?_,fun hx=>?_⟩
  all_goals
   have:=h.1
   rw[hx] at this
   exact absurd this (by decide)
 | .un f neg e,h,p=>by
  simp only[E.tx,qcc]
  split
  ·exact⟨_,_,rfl,fun hx=>absurd hx (by decide),fun hx=>absurd hx (by decide)⟩
  ·rename_i hc
   simp only[Bool.or_eq_true,not_or,decide_eq_true_eq,Nat.not_lt] at hc
   refine⟨_,_,rfl,fun hx=>?_,fun hx=>?_⟩
   ·cases neg with
    | true=>exact absurd hx (by decide)
    | false=>exact hc.2
   ·cases neg with
    | true=>exact hc.2
    | false=>exact absurd hx (by decide)
 | .bin f o a b,h,p=>by
  simp only[E.tx,qcc]
  split
  ·exact⟨_,_,rfl,fun hx=>absurd hx (by decide),fun hx=>absurd hx (by decide)⟩
  ·rename_i hc
   simp only[Bool.or_eq_true,not_or,decide_eq_true_eq,Nat.not_lt] at hc
   obtain⟨x,l,h1,h2,h3⟩:=qjx full a h.1 o.left
   refine⟨x,l++o.str::b.tx full (o.prec+1),by rw[h1]; rfl,fun hx=>?_,fun hx=>?_⟩
   ·have:=h2 hx; have:=hc.2
    rcases qa0 o with h | h | h | h | h<;>omega
   ·have:=h3 hx; have:=hc.2
    rcases qa0 o with h | h | h | h | h<;>omega
section
variable {eS eL:Nat} {f:Bool}
theorem qma {n q lv:Nat} {ts r:List Tk} {e:E} (h:qak eS eL f n q lv ts=some (.ok e r)) (hq:q<=8) : ∀ (k p:Nat),p+k=q->1<=p->Stops p r ->
  (p<=3->3<q->nx ts≠some (ustr false))->(p<=7->7<q->nx ts≠some (ustr true)) -> ∃ m,qak eS eL f m p lv ts=some (.ok e r)
 | 0,p,hp,h1,_,_,_=>⟨n,by rw[show p=q by omega]; exact h⟩
 | k+1,p,hp,h1,hs,h3,h7=>by
  obtain⟨m,hm⟩:=qma h hq k (p+1) (by omega) (by omega) (hs.mono (by omega)) (fun a b=>h3 (by omega) b) (fun a b=>h7 (by omega) b)
  refine⟨m+2,?_⟩
  rw[qak,if_neg,if_pos (by omega),qb2 hm (Nat.le_succ m)]
  ·obtain⟨s,hs1,hs2⟩:=hs
   simp only[qb8,hs1,hs2 p (Nat.le_refl p)]
  ·rintro (⟨h8,h9⟩ | ⟨h8,h9⟩)
   ·exact h3 (by omega) (by omega) h9
   ·exact h7 (by omega) (by omega) h9
theorem qeA (x:ByteArray) (hx : ∀ q,qjj q x=none) {p:Nat} {l:List ByteArray} {ts r:List Tk} (h:Hx (x::l) ts r):Stops p ts:=⟨x,(qdb h).1,fun q _=>hx q⟩
theorem qgs (x:ByteArray) (h : ∀ o:Bop,o.str≠x) (q:Nat):qjj q x=none:=by
 unfold qjj
 rw[List.find?_eq_none]
 intro o _
 simp[h o]
theorem qkm {lv p:Nat} {ts r:List Tk} {e:E} {l:List ByteArray} (ho:Hx (bs [40]::(l++[bs [41]])) ts r) (hl:lv+1<=20)
  (hb : ∀ mid,Hx l ts.tail mid->Stops 1 mid -> ∃ m,qak eS eL f m 1 (lv+1) ts.tail=some (.ok e mid)) (h1:1<=p) (h8:p<=8) (hs:Stops p r) : ∃ n,qak eS eL f n p lv ts=some (.ok e r):=by
 obtain⟨hn,ht⟩:=qdb ho
 obtain⟨mid,hm1,hm2⟩:=hx_app.1 ht
 have hst:Stops 1 mid:=qeA _ (qgs _ (by intro o; cases o<;>decide)) hm2
 obtain⟨m,hm⟩:=hb mid hm1 hst
 have hx:=qdc (eS:=eS) hm2
 have hend:mid.tail=r:=(qdb hm2).2
 have base:qak eS eL f (m+1) 8 lv ts=some (.ok e r):=by
  rw[qak,if_neg (by rintro (⟨h,_⟩ | ⟨h,_⟩)<;>omega),if_neg (by omega),hn]
  simp only
  rw[if_neg (by decide),if_neg (by decide),if_neg (by decide),if_neg (by decide),if_neg (by decide),if_neg (by decide),qgr ho hl]
  simp only[hm,hx,hend]
 exact qma base (by omega) (8-p) p (by omega) h1 hs (fun _ _=>by rw[hn]; decide) (fun _ _=>by rw[hn]; decide)
theorem rb (full:Bool) : ∀ e:E,e.good ->
  (∀ p lv ts r,1<=p->p<=8->Hx (e.tx full p) ts r->lv+e.nest full p<=20->Stops p r -> ∃ n,qak eS eL f n p lv ts=some (.ok (e.fl f) r)) /\
  (∀ q lv ts r,1<=q->q<=6->q≠4->q≠3->Hx (e.tx full q) ts r->lv+e.nest full q<=20->Stops (q+1) r ->
   ∃ n e0 r0,qak eS eL f n (q+1) lv ts=some (.ok e0 r0) /\ ∀ m x,qb8 eS eL f m q lv (e.fl f) r=some x -> ∃ m',qb8 eS eL f m' q lv e0 r0=some x):=by
 have prim : ∀ (e:E) (x:ByteArray) lv ts r,(∃ n,qak eS eL f n 8 lv ts=some (.ok (e.fl f) r))->nx ts=some x->x≠ustr false->x≠ustr true ->
   (∀ p,1<=p->p<=8->Stops p r -> ∃ n,qak eS eL f n p lv ts=some (.ok (e.fl f) r)):=fun e x lv ts r ⟨n,hn⟩ hx h1 h2 p hp1 hp8 hs=>
  qma hn (by omega) (8-p) p (by omega) hp1 hs (fun _ _ h=>h1 (by rw[hx] at h; exact Option.some.inj h)) (fun _ _ h=>h2 (by rw[hx] at h; exact Option.some.inj h))
 have self : ∀ (e:E) q lv ts r,(∃ n,qak eS eL f n (q+1) lv ts=some (.ok (e.fl f) r)) -> ∃ n e0 r0,qak eS eL f n (q+1) lv ts=some (.ok e0 r0) /\ ∀ m x,qb8 eS eL f m q lv (e.fl f) r=some x -> ∃ m',qb8 eS eL f m' q lv e0 r0=some x:=
  fun e q lv ts r ⟨n,hn⟩=>⟨n,_,_,hn,fun m x h=>⟨m,h⟩⟩
 intro e
 induction e with
 | int n=>
  intro hg
  obtain⟨g1,g2⟩:=hg
  have hd:=qhX (n:=n.toNat) (by omega)
  have A : ∀ p lv ts r,1<=p->p<=8->Hx ((E.int n).tx full p) ts r->lv+(E.int n).nest full p<=20->Stops p r -> ∃ k,qak eS eL f k p lv ts=some (.ok ((E.int n).fl f) r):=fun p lv ts r h1 h8 hx _ hs=>by
   obtain⟨hn,ht⟩:=qdb hx
   cases ht
   have n1:bs (qhb n.toNat)≠ustr false:=by intro h; rw[h] at hd; exact absurd hd (by decide)
   have n2:bs (qhb n.toNat)≠ustr true:=by intro h; rw[h] at hd; exact absurd hd (by decide)
   refine prim (.int n) _ lv ts _ ⟨1,?_⟩ hn n1 n2 p h1 h8 hs
   rw[qak,if_neg (by rintro (⟨h,_⟩ | ⟨h,_⟩)<;>omega),if_neg (by omega),hn]
   simp only
   rw[if_pos hd,ByteArray.toList_eq]
   have:=(qgq (n:=n.toNat) (by omega)).1
   rw[show (bs (qhb n.toNat)).data.toList=qhb n.toNat from qaU _,this,show ((n.toNat:Nat):Int)=n by omega]
   rfl
  exact⟨A,fun q lv ts r h1 h6 _ _ hx hl hs=>self _ q lv ts r (A (q+1) lv ts r (by omega) (by omega) hx hl hs)⟩
 | bool n=>
  intro hg
  have A : ∀ p lv ts r,1<=p->p<=8->Hx ((E.bool n).tx full p) ts r->lv+(E.bool n).nest full p<=20->Stops p r -> ∃ k,qak eS eL f k p lv ts=some (.ok ((E.bool n).fl f) r):=fun p lv ts r h1 h8 hx _ hs=>by
   obtain⟨hn,ht⟩:=qdb hx
   cases ht
   refine prim (.bool n) _ lv ts _ ⟨1,?_⟩ hn (by split<;>decide) (by split<;>decide) p h1 h8 hs
   rw[qak,if_neg (by rintro (⟨h,_⟩ | ⟨h,_⟩)<;>omega),if_neg (by omega),hn]
   rcases hg with rfl | rfl
   ·simp only[if_true]
    rw[if_neg (by decide),if_neg (by decide),if_pos (by rfl)]; rfl
   ·rw[if_neg (by decide)]
    simp only
    rw[if_neg (by decide),if_pos (by rfl)]; rfl
  exact⟨A,fun q lv ts r h1 h6 _ _ hx hl hs=>self _ q lv ts r (A (q+1) lv ts r (by omega) (by omega) hx hl hs)⟩
 | var s=>
  intro hg
  obtain⟨g1,g2,g3,g4⟩:=hg
  have A : ∀ p lv ts r,1<=p->p<=8->Hx ((E.var s).tx full p) ts r->lv+(E.var s).nest full p<=20->Stops p r -> ∃ k,qak eS eL f k p lv ts=some (.ok ((E.var s).fl f) r):=fun p lv ts r h1 h8 hx _ hs=>by
   obtain⟨hn,ht⟩:=qdb hx
   cases ht
   have n1:s≠ustr false:=by rintro rfl; exact absurd g2 (by decide)
   have n2:s≠ustr true:=by rintro rfl; exact absurd g2 (by decide)
   refine prim (.var s) _ lv ts _ ⟨1,?_⟩ hn n1 n2 p h1 h8 hs
   have nd : ¬ qar qam s=true:=by
    rw[qaZ] at g2 ⊢
    cases hh:(byl s).head? with
    | none=>simp
    | some c=>
     rw[hh] at g2
     simp only[qam,qaL,Bool.and_eq_true,decide_eq_true_eq] at g2 ⊢
     omega
   have w : ∀ x∈wordNames,s≠x:=fun x hx he=>g4 (he ▸ hx)
   rw[qak,if_neg (by rintro (⟨h,_⟩ | ⟨h,_⟩)<;>omega),if_neg (by omega),hn]
   simp only
   rw[if_neg nd,if_neg (w _ (by decide)),if_neg (w _ (by decide)),if_neg (by
    rintro (h | h | h)
    ·exact w _ (by decide) h
    ·exact w _ (by decide) h
    ·exact w _ (by decide) h),if_neg g3,if_pos ⟨g2,g4⟩]
   rfl
  exact⟨A,fun q lv ts r h1 h6 _ _ hx hl hs=>self _ q lv ts r (A (q+1) lv ts r (by omega) (by omega) hx hl hs)⟩
 | name s=>
  intro hg
  have A : ∀ p lv ts r,1<=p->p<=8->Hx ((E.name s).tx full p) ts r->lv+(E.name s).nest full p<=20->Stops p r -> ∃ k,qak eS eL f k p lv ts=some (.ok ((E.name s).fl f) r):=fun p lv ts r h1 h8 hx _ hs=>by
   obtain⟨hn,ht⟩:=qdb hx
   cases ht
   refine prim (.name s) _ lv ts _ ⟨1,?_⟩ hn (by rcases hg with rfl | rfl | rfl<;>decide) (by rcases hg with rfl | rfl | rfl<;>decide) p h1 h8 hs
   rw[qak,if_neg (by rintro (⟨h,_⟩ | ⟨h,_⟩)<;>omega),if_neg (by omega),hn]
   rcases hg with rfl | rfl | rfl<;>simp only<;>rw[if_neg (by decide),if_neg (by decide),if_neg (by decide),if_pos (by decide)]<;>rfl
  exact⟨A,fun q lv ts r h1 h6 _ _ hx hl hs=>self _ q lv ts r (A (q+1) lv ts r (by omega) (by omega) hx hl hs)⟩
 | field g s e ih=>
  intro hg
  obtain⟨g1,g2⟩:=hg
  have ihA:=(ih g2).1
  have A : ∀ p lv ts r,1<=p->p<=8->Hx ((E.field g s e).tx full p) ts r->lv+(E.field g s e).nest full p<=20->Stops p r -> ∃ k,qak eS eL f k p lv ts=some (.ok ((E.field g s e).fl f) r):=fun p lv ts r h1 h8 hx hl hs=>by
   obtain⟨hn,ht⟩:=qdb hx
   obtain⟨hn2,ht2⟩:=qdb ht
   obtain⟨mid,hm1,hm2⟩:=hx_app.1 ht2
   simp only[E.nest] at hl
   have hst:Stops 1 mid:=qeA _ (qgs _ (by intro o; cases o<;>decide)) hm2
   obtain⟨k,hk⟩:=ihA 1 (lv+1) _ mid (by omega) (by omega) hm1 (by omega) hst
   have hx2:=qdc (eS:=eS) hm2
   have hend:mid.tail=r:=(qdb hm2).2
   have hi:qbZ eS eL f (k+1) lv ts.tail=some (.ok (e.fl f) r):=by
    rw[qbZ,qgr ht (by omega)]
    simp only[hk,hx2,hend]
   have hs' : ∀ x:ByteArray,x∉fieldNames->s≠x:=fun x hx he=>hx (he ▸ g1)
   refine prim (.field g s e) _ lv ts _ ⟨k+2,?_⟩ hn (hs' _ (by decide)) (hs' _ (by decide)) p h1 h8 hs
   have nd : ¬ qar qam s=true:=by
    simp only[fieldNames,List.mem_cons,List.not_mem_nil,or_false] at g1
    rcases g1 with h | h | h | h | h | h | h | h<;>rw[h]<;>decide
   rw[qak,if_neg (by rintro (⟨h,_⟩ | ⟨h,_⟩)<;>omega),if_neg (by omega),hn]
   simp only
   rw[if_neg nd,if_neg (hs' _ (by decide)),if_neg (hs' _ (by decide)),if_neg (by
    rintro (h | h | h)
    ·exact hs' _ (by decide) h
    ·exact hs' _ (by decide) h
    ·exact hs' _ (by decide) h),if_pos g1,hi]
   rfl
  exact⟨A,fun q lv ts r h1 h6 _ _ hx hl hs=>self _ q lv ts r (A (q+1) lv ts r (by omega) (by omega) hx hl hs)⟩
 | un g neg e ih=>
  intro hg
  have ihA:=(ih hg).1
  have bare : ∀ lv ts r,Hx (ustr neg::e.tx full (qdt neg)) ts r->lv+e.nest full (qdt neg)+1<=20 -> ∀ p,1<=p->p<=qdt neg->Stops p r -> ∃ k,qak eS eL f k p lv ts=some (.ok ((E.un g neg e).fl f) r):=fun lv ts r hx hl p h1 hp hs=>by
   obtain⟨hn,ht⟩:=qdb hx
   obtain⟨k,hk⟩:=ihA (qdt neg) (lv+1) _ r (by cases neg<;>decide) (by cases neg<;>decide) ht (by omega) (hs.mono hp)
   have base:qak eS eL f (k+1) (qdt neg) lv ts=some (.ok ((E.un g neg e).fl f) r):=by
    rw[qak]
    cases neg with
    | false=>
     rw[if_pos (.inl ⟨rfl,hn⟩)]
     simp only[qdt,Bool.false_eq_true,if_false] at hk ⊢
     rw[show ustr ((3:Nat)==7)=ustr false from rfl,qgr hx (by omega)]
     simp only[hk]
     rfl
    | true=>
     rw[if_pos (.inr ⟨rfl,hn⟩)]
     simp only[qdt,if_true] at hk ⊢
     rw[show ustr ((7:Nat)==7)=ustr true from rfl,qgr hx (by omega)]
     simp only[hk]
     rfl
   refine qma base (by cases neg<;>decide) (qdt neg-p) p (by omega) h1 hs (fun a b=>?_) (fun a b=>?_)
   ·cases neg with
    | false=>exact absurd b (by decide)
    | true=>rw[hn]; decide
   ·cases neg<;>exact absurd b (by decide)
  have A : ∀ p lv ts r,1<=p->p<=8->Hx ((E.un g neg e).tx full p) ts r->lv+(E.un g neg e).nest full p<=20->Stops p r -> ∃ k,qak eS eL f k p lv ts=some (.ok ((E.un g neg e).fl f) r):=fun p lv ts r h1 h8 hx hl hs=>by
   simp only[E.tx,E.nest,qcc] at hx hl
   by_cases c:(full||decide (qdt neg<p))=true
   ·rw[if_pos c] at hx hl
    exact qkm hx (by omega) (fun mid hm hst=>bare (lv+1) _ mid hm (by omega) 1 (by omega) (by cases neg<;>decide) hst) h1 h8 hs
   ·rw[if_neg c] at hx hl
    simp only[Bool.or_eq_true,not_or,decide_eq_true_eq,Nat.not_lt] at c
    exact bare lv ts r hx (by omega) p h1 c.2 hs
  refine⟨A,fun q lv ts r h1 h6 h4 h3 hx hl hs=>self _ q lv ts r (A (q+1) lv ts r (by omega) (by omega) ?_ ?_ hs)⟩
  ·have:(decide (qdt neg<q+1))=decide (qdt neg<q):=by
    rw[decide_eq_decide]; cases neg<;>simp only[qdt]<;>constructor<;>intro h<;>simp at h ⊢ <;> omega
   simp only[E.tx,this] at hx ⊢
   exact hx
  ·have:(decide (qdt neg<q+1))=decide (qdt neg<q):=by
    rw[decide_eq_decide]; cases neg<;>simp only[qdt]<;>constructor<;>intro h<;>simp at h ⊢ <;> omega
   simp only[E.nest,this] at hl ⊢
   exact hl
 | bin g o a b iha ihb=>
  intro hg
  obtain⟨aA,aB⟩:=iha hg.1
  obtain⟨bA,-⟩:=ihb hg.2
  have hp:=qa0 o
  have loop : ∀ lv ts r,Hx (a.tx full o.left++o.str::b.tx full (o.prec+1)) ts r->lv+max (a.nest full o.left) (b.nest full (o.prec+1))<=20->Stops (o.prec+1) r ->
    ∃ n e0 r0,qak eS eL f n (o.prec+1) lv ts=some (.ok e0 r0)/\(∀ m x,(if o.prec=4 then some (.ok ((E.bin g o a b).fl f) r) else qb8 eS eL f m o.prec lv ((E.bin g o a b).fl f) r)=some x -> ∃ m',qb8 eS eL f m' o.prec lv e0 r0=some x):=fun lv ts r hx hl hs=>by
   obtain⟨mid,hm1,hm2⟩:=hx_app.1 hx
   obtain⟨hn,ht⟩:=qdb hm2
   have hst:Stops (o.prec+1) mid:=⟨_,hn,fun q hq=>qk3 o q (by omega)⟩
   obtain⟨k,hk⟩:=bA (o.prec+1) lv _ r (by omega) (by omega) ht (by omega) hs
   have fin : ∀ m x,(if o.prec=4 then some (.ok ((E.bin g o a b).fl f) r) else qb8 eS eL f m o.prec lv ((E.bin g o a b).fl f) r)=some x -> ∃ m',qb8 eS eL f m' o.prec lv (a.fl f) mid=some x:=fun m x h=>by
    refine⟨max k m+1,?_⟩
    rw[qb8,hn]
    simp only[qnt]
    rw[qb2 hk (Nat.le_max_left k m)]
    simp only
    by_cases c:o.prec=4
    ·rw[if_pos c] at h ⊢; exact h
    ·rw[if_neg c] at h ⊢; exact qg7 h (Nat.le_max_right k m)
   by_cases c:o.prec=4
   ·have hleft:o.left=o.prec+1:=by omega
    obtain⟨n,hn'⟩:=aA (o.prec+1) lv ts mid (by omega) (by omega) (hleft ▸ hm1) (by rw[<- hleft]; omega) hst
    exact⟨n,_,_,hn',fin⟩
   ·have hleft:o.left=o.prec:=by omega
    rw[hleft] at hm1 hl
    obtain⟨n,e0,r0,h1,h2⟩:=aB o.prec lv ts mid (by omega) (by omega) c (by omega) hm1 (by omega) hst
    refine⟨n,e0,r0,h1,fun m x h=>?_⟩
    obtain⟨m',hm'⟩:=fin m x h
    exact h2 m' x hm'
  have bare : ∀ lv ts r,Hx (a.tx full o.left++o.str::b.tx full (o.prec+1)) ts r->lv+max (a.nest full o.left) (b.nest full (o.prec+1))<=20 -> ∀ p,1<=p->p<=o.prec->Stops p r -> ∃ k,qak eS eL f k p lv ts=some (.ok ((E.bin g o a b).fl f) r):=fun lv ts r hx hl p h1 hpo hs=>by
   obtain⟨n,e0,r0,h2,h3⟩:=loop lv ts r hx hl (hs.mono (by omega))
   have hend:qb8 eS eL f 1 o.prec lv ((E.bin g o a b).fl f) r=some (.ok ((E.bin g o a b).fl f) r):=by
    obtain⟨s,hs1,hs2⟩:=hs
    simp only[qb8,hs1,hs2 o.prec hpo]
   obtain⟨m',hm'⟩:=h3 1 _ (by split<;>first | rfl | exact hend)
   obtain⟨x,l,q1,q2,q3⟩:=qjx full a hg.1 o.left
   have hnx:nx ts=some x:=by
    rw[q1] at hx
    exact (qdb hx).1
   have base:qak eS eL f (max n m'+1) o.prec lv ts=some (.ok ((E.bin g o a b).fl f) r):=by
    rw[qak,if_neg (by rintro (⟨h,_⟩ | ⟨h,_⟩)<;>omega),if_pos (by omega),qb2 h2 (Nat.le_max_left n m')]
    exact qg7 hm' (Nat.le_max_right n m')
   refine qma base (by omega) (o.prec-p) p (by omega) h1 hs (fun c1 c2 h=>?_) (fun c1 c2=>by omega)
   have:=q2 (Option.some.inj (hnx.symm.trans h))
   omega
  have A : ∀ p lv ts r,1<=p->p<=8->Hx ((E.bin g o a b).tx full p) ts r->lv+(E.bin g o a b).nest full p<=20->Stops p r -> ∃ k,qak eS eL f k p lv ts=some (.ok ((E.bin g o a b).fl f) r):=fun p lv ts r h1 h8 hx hl hs=>by
   simp only[E.tx,E.nest,qcc] at hx hl
   by_cases c:(full||decide (o.prec<p))=true
   ·rw[if_pos c] at hx hl
    exact qkm hx (by omega) (fun mid hm hst=>bare (lv+1) _ mid hm (by omega) 1 (by omega) (by omega) hst) h1 h8 hs
   ·rw[if_neg c] at hx hl
    simp only[Bool.or_eq_true,not_or,decide_eq_true_eq,Nat.not_lt] at c
    exact bare lv ts r hx (by omega) p h1 c.2 hs
  refine⟨A,fun q lv ts r h1 h6 h4 h3 hx hl hs=>?_⟩
  by_cases c:full=false/\o.prec=q
  ·obtain⟨c1,rfl⟩:=c
   have hf : ¬ (full||decide (o.prec<o.prec))=true:=by simp[c1]
   simp only[E.tx,E.nest,qcc,if_neg hf] at hx hl
   obtain⟨n,e0,r0,h5,h7⟩:=loop lv ts r hx (by omega) hs
   exact⟨n,e0,r0,h5,fun m x h=>h7 m x (by rw[if_neg h4]; exact h)⟩
  ·have hd:(full||decide (o.prec<q+1))=(full||decide (o.prec<q)):=by
    cases full with
    | true=>rfl
    | false=>
     have:o.prec≠q:=fun h=>c ⟨rfl,h⟩
     simp only[Bool.false_or,decide_eq_decide]
     omega
   refine self _ q lv ts r (A (q+1) lv ts r (by omega) (by omega) ?_ ?_ hs)
   ·simp only[E.tx,hd] at hx ⊢
    exact hx
   ·simp only[E.nest,hd] at hl ⊢
    exact hl
end
end Go.Pm
end SYh
section SYi
namespace Go.Pm
def ifS:ByteArray:=bs [105,102]
def qsp:ByteArray:=bs [101,108,115,101]
def qqO:ByteArray:=bs [119,104,105,108,101]
def qo7:ByteArray:=bs [101,102,102,101,99,116]
def qsq:ByteArray:=bs [115,116,111,112]
def onS:ByteArray:=bs [111,110]
def qqP:Ss->Bool
 | .block _ .nil _=>false
 | .block _ _ _=>true
 | _=>false
def Ss.tx:Ss->List ByteArray
 | .nil=>[]
 | .assign _ s e r=>s::bs [61]::(e.tx false 1++(bs [59]::r.tx))
 | .store _ s a b r=>s::bs [91]::(a.tx false 1++(bs [93]::bs [61]::(b.tx false 1++(bs [59]::r.tx))))
 | .effect _ a b r=>qo7::(a.tx false 1++(bs [44]::(b.tx false 1++(bs [59]::r.tx))))
 | .stop r=>qsq::bs [59]::r.tx
 | .cond w _ c b r=>(if w then qqO else ifS)::(c.tx false 1++(b.tx++r.tx))
 | .block _ b r=>bs [123]::(b.tx++(bs [125]::(if qqP r then qsp::r.tx else [])))
def qo8 (s:ByteArray):Prop:=Tg (byl s)/\qar qaL s=true/\s∉fieldNames/\s∉wordNames
def Ss.good:Ss->Option Nat->Prop
 | .nil,m=>m=none\/m=some 0
 | .assign _ s e r,m=>m=none/\qo8 s/\e.good/\r.good none
 | .store _ s a b r,m=>m=none/\s∈fieldNames/\a.good/\b.good/\r.good none
 | .effect _ a b r,m=>m=none/\a.good/\b.good/\r.good none
 | .stop r,m=>m=none/\r.good none
 | .cond w _ c b r,m=>m=none/\c.good/\b.good (some (if w then 1 else 2))/\r.good none
 | .block _ b r,m => ∃ n,m=some (n+1)/\b.good none/\r.good (some n)
def Ss.nest:Ss->Nat
 | .nil=>0
 | .assign _ _ e r=>max (e.nest false 1) r.nest
 | .store _ _ a b r=>max (a.nest false 1+1) (max (b.nest false 1) r.nest)
 | .effect _ a b r=>max (a.nest false 1) (max (b.nest false 1) r.nest)
 | .stop r=>r.nest
 | .cond _ _ c b r=>max (c.nest false 1) (max (b.nest+1) r.nest)
 | .block _ b r=>max b.nest r.nest
def Ss.fl (f fi fb:Bool):Ss->Ss
 | .nil => .nil
 | .assign _ s e r => .assign f s (e.fl f) (r.fl f fi fb)
 | .store _ s a b r => .store f s (a.fl f) (b.fl f) (r.fl f fi fb)
 | .effect _ a b r => .effect f (a.fl f) (b.fl f) (r.fl f fi fb)
 | .stop r => .stop (r.fl f fi fb)
 | .cond w _ c b r => .cond w (if w then f else fi) (c.fl f) (b.fl f fi fb) (r.fl f fi fb)
 | .block _ b r => .block fb (b.fl f fi fb) (r.fl f fi fb)
section
variable {eS eL:Nat} {f fi fb:Bool}
theorem qqQ (x:ByteArray) (hx : ∀ o:Bop,o.str≠x) {l:List ByteArray} {ts r:List Tk} (h:Hx (x::l) ts r):Stops 1 ts:=qeA x (qgs x hx) h
end
end Go.Pm
end SYi
section SYj
namespace Go.Pm
def qoX (u:ByteArray):Prop:=(byl u).head?≠some 61
def qrA (t:ByteArray):Prop:=t≠bs [60]/\t≠bs [62]/\t≠bs [61]/\t≠bs [33]
theorem qjt : ∀ {a b:List ByteArray},Ok2 a->Ok2 b->(∀ t u,a.getLast?=some t->b.head?=some u->Adj t u)->Ok2 (a++b)
 | [],b,_,hb,_=>hb
 | t::a,b,ha,hb,h=>by
  refine⟨ha.1,fun u hu=>?_,qjt ha.2.2 hb fun t' u h1 h2=>?_⟩
  ·cases a with
   | nil=>exact h t u rfl hu
   | cons v a=>exact ha.2.1 u hu
  ·cases a with
   | nil=>cases h1
   | cons v a=>exact h t' u (by rw[List.getLast?_cons_cons]; exact h1) h2
structure Cl (l:List ByteArray):Prop where
 ok:Ok2 l
 st : ∀ u,l.head?=some u->qoX u
 en : ∀ t,l.getLast?=some t->qrA t
theorem qkg {x:ByteArray} (h:Tg (byl x)) (h1:qoX x) (h2:qrA x):Cl [x]:=⟨⟨h,fun u hu=>(by cases hu),trivial⟩,fun u hu=>(by cases hu; exact h1),fun t ht=>(by cases ht; exact h2)⟩
theorem qeq {a b:List ByteArray} (ha:Cl a) (hb:Cl b):Cl (a++b):=by
 refine⟨qjt ha.ok hb.ok fun t u h1 _ => .inl (ha.en t h1),fun u hu=>?_,fun t ht=>?_⟩
 ·cases a with
  | nil=>exact hb.st u hu
  | cons v a=>exact ha.st u hu
 ·rw[List.getLast?_append] at ht
  cases hbl:b.getLast? with
  | none=>rw[hbl] at ht; exact ha.en t ht
  | some v=>rw[hbl] at ht; exact hb.en t (hbl.trans ht)
theorem qqH {x:ByteArray} {a b:List ByteArray} (h:Tg (byl x)) (ha:Cl a) (hb:Cl b) (na:a≠[]) (nb:b≠[]):Cl (a++x::b):=by
 have hxb:Ok2 (x::b):=⟨h,fun u hu => .inr (hb.st u hu),hb.ok⟩
 refine⟨qjt ha.ok hxb fun t u h1 _ => .inl (ha.en t h1),fun u hu=>?_,fun t ht=>?_⟩
 ·cases a with
  | nil=>exact absurd rfl na
  | cons v a=>exact ha.st u hu
 ·cases b with
  | nil=>exact absurd rfl nb
  | cons v b=>
   rw[List.getLast?_append,List.getLast?_cons_cons] at ht
   cases hbl:(v::b).getLast? with
   | none=>simp at hbl
   | some w=>rw[hbl] at ht; exact hb.en t (hbl.trans ht)
theorem qqI {x:ByteArray} {b:List ByteArray} (h:Tg (byl x)) (h1:qoX x) (hb:Cl b) (nb:b≠[]):Cl (x::b):=by
 refine⟨⟨h,fun u hu => .inr (hb.st u hu),hb.ok⟩,fun u hu=>(by cases hu; exact h1),fun t ht=>?_⟩
 cases b with
 | nil=>exact absurd rfl nb
 | cons v b=>rw[List.getLast?_cons_cons] at ht; exact hb.en t ht
theorem qn8 {c:UInt8} (h:c.toNat∈qhI):Tg (byl (bs [c])):=by rw[qaU]; exact .inr (.inr (.inr ⟨c,rfl,h⟩))
theorem qsi (o:Bop):Tg (byl o.str):=by
 cases o
 all_goals first
  | exact .inr (.inr (.inr ⟨_,rfl,by decide⟩))
  | exact .inr (.inr (.inl (by decide)))
theorem qsj (neg:Bool):Tg (byl (ustr neg)):=by
 cases neg<;>exact .inr (.inr (.inr ⟨_,rfl,by decide⟩))
theorem ql0 {c:UInt8} {r:List UInt8} (h:qaL c=true) (h2 : ∀ b∈r,qau b=true) (h3:(c::r).length<=8):Tg (byl (bs (c::r))):=by
 rw[qaU]
 exact .inl ⟨c,r,rfl,h,h2,fun h=>by omega⟩
theorem clf {x:ByteArray} (h:x∈fieldNames):Cl [x]:=by
 simp only[fieldNames,List.mem_cons,List.not_mem_nil,or_false] at h
 rcases h with h | h | h | h | h | h | h | h<;>rw[h]
 all_goals exact qkg (.inl ⟨_,_,rfl,by decide,by decide,by decide⟩) (by unfold qoX; decide) (by unfold qrA; decide)
theorem clw {x:ByteArray} (h:x∈wordNames):Cl [x]:=by
 simp only[wordNames,List.mem_cons,List.not_mem_nil,or_false] at h
 rcases h with h | h | h | h | h | h | h | h | h | h | h | h | h<;>rw[h]
 all_goals exact qkg (.inl ⟨_,_,rfl,by decide,by decide,by decide⟩) (by unfold qoX; decide) (by unfold qrA; decide)
theorem ql1 {x:ByteArray} (h:Tg (byl x)) (hs:qar qaL x=true\/qar qam x=true):Cl [x]:=by
 refine qkg h ?_ ⟨?_,?_,?_,?_⟩
 ·intro h1
  rw[qaZ,qaZ,h1] at hs
  exact absurd hs (by decide)
 all_goals rintro rfl; exact absurd hs (by decide)
theorem qoY {x:ByteArray} (h:qo8 x):Cl [x]:=ql1 h.1 (.inl h.2.1)
theorem cls {c:UInt8} (h:c.toNat∈qhI) (h1:c≠61) (h2:c≠60/\c≠62/\c≠33):Cl [bs [c]]:=by
 refine qkg (qn8 h) (by rw[qoX,qaU]; simpa using h1) ⟨?_,?_,?_,?_⟩
 all_goals
  intro h
  have:=qi1 h
  simp only[List.cons.injEq,and_true] at this
  simp_all
theorem qoZ (full:Bool) {e:E} (h:e.good) (p:Nat):e.tx full p≠[]:=by
 obtain⟨x,l,h1,_⟩:=qjx full e h p
 rw[h1]; simp
theorem qkh {b:Bool} {l:List ByteArray} (h:Cl l):Cl (qcc b l):=by
 unfold qcc
 split
 ·exact qeq (a:=[bs [40]]) (cls (by decide) (by decide) (by decide)) (qeq h (cls (by decide) (by decide) (by decide)))
 ·exact h
theorem qkX (full:Bool) : ∀ e:E,e.good -> ∀ p,Cl (e.tx full p)
 | .int n,h,p=>ql1 (by rw[qaU]; exact qpa (by have:=h.1; have:=h.2; omega)) (.inr (qhX (by have:=h.1; have:=h.2; omega)))
 | .bool n,h,p=>by
  simp only[E.tx]
  split<;>exact clw (by decide)
 | .var s,h,p=>qoY h
 | .name s,h,p=>by
  refine clw ?_
  rcases h with rfl | rfl | rfl<;>decide
 | .field g s e,h,p=>qeq (clf h.1) (qeq (a:=[bs [91]]) (cls (by decide) (by decide) (by decide)) (qeq (qkX full e h.2 1) (cls (by decide) (by decide) (by decide))))
 | .un g neg e,h,p=>qkh (qqI (qsj neg) (by unfold qoX; cases neg<;>decide) (qkX full e h _) (qoZ full (e:=e) h _))
 | .bin g o a b,h,p=>qkh (qqH (qsi o) (qkX full a h.1 _) (qkX full b h.2 _) (qoZ full h.1 _) (qoZ full h.2 _))
end Go.Pm
end SYj
section SUa
namespace Go.Pm
def Fo.eqv:Fo->Fo->Bool
 | .nil,.nil=>true
 | .cons k n s _ ks r,.cons k' n' s' _ ks' r'=>(decide (k=k')&&(decide (n=n')&&decide (s=s')))&&(ks.eqv ks'&&r.eqv r')
 | _,_=>false
theorem qmC : ∀ {a b:Fo},a.eqv b=true->a.len=b.len
 | .nil,.nil,_=>rfl
 | .cons ..,.cons ..,h=>by
  simp only[Fo.eqv,Bool.and_eq_true] at h
  simp[qmC h.2.2]
 | .nil,.cons ..,h=>by cases h
 | .cons ..,.nil,h=>by cases h
theorem qh7 : ∀ a:Fo,a.eqv a=true
 | .nil=>rfl
 | .cons k n s f ks r=>by simp[Fo.eqv,qh7 ks,qh7 r]
def Rz.map {α β : Type} (k : α -> β):Rz α -> Rz β
 | .ok a r => .ok (k a) r
 | .er i c => .er i c
end Go.Pm
end SUa
section SFX
namespace Go.Pm.F
@[simp] abbrev sN:D := .lit (.slice none 0 0)
@[simp] abbrev eN:D := .lit (.string ⟨#[]⟩)
@[simp] abbrev zN:D := .lit (.int .i64 0)
@[simp] abbrev ii (n:Int):D := .lit (.int .i64 n)
@[simp] abbrev kk (n:Int):X := .c (.int .i64 n)
@[simp] abbrev kT:X := .c (.bool true)
@[simp] abbrev kF:X := .c (.bool false)
@[simp] abbrev jj (d:Nat) (o:O):I:=⟨some d,o,none,[]⟩
@[simp] abbrev jn (o:O):I:=⟨none,o,none,[]⟩
@[simp] abbrev jt (d g:Nat) (o:O):I:=⟨some d,o,some (g,true),[]⟩
@[simp] abbrev jf (d g:Nat) (o:O):I:=⟨some d,o,some (g,false),[]⟩
@[simp] abbrev mv (d a:Nat):I:=⟨some d,.mov (.t a),none,[]⟩
@[simp] abbrev mx (d:Nat) (x:X):I:=⟨some d,.mov x,none,[]⟩
@[simp] abbrev l1 (d a:Nat):I:=⟨some d,.load false 1 (.t a),none,[]⟩
@[simp] abbrev la (d n a:Nat):I:=⟨some d,.load true n (.t a),none,[]⟩
@[simp] abbrev fa (d o a:Nat):I:=⟨some d,.fieldAddr o (.t a),none,[]⟩
@[simp] abbrev nc (d a:Nat):I:=⟨some d,.nilchk (.t a),none,[]⟩
@[simp] abbrev bx (d a:Nat):I:=⟨some d,.box (.t a),none,[]⟩
@[simp] abbrev ex (d a n:Nat):I:=⟨some d,.extract (.t a) n,none,[]⟩
@[simp] abbrev ls (d a:Nat):I:=⟨some d,.len .sl (.t a),none,[]⟩
@[simp] abbrev lz (d a:Nat):I:=⟨some d,.len .str (.t a),none,[]⟩
@[simp] abbrev bn (d:Nat) (o:BinOp) (a b:Nat):I:=⟨some d,.bin o (.t a) (.t b),none,[]⟩
@[simp] abbrev bk (d:Nat) (o:BinOp) (a:Nat) (n:Int):I:=⟨some d,.bin o (.t a) (.c (.int .i64 n)),none,[]⟩
@[simp] abbrev st (n a b:Nat):I:=⟨none,.store n (.t a) (.t b),none,[]⟩
@[simp] abbrev cl (d f:Nat) (xs:List Nat):I:=⟨some d,.call f (xs.map .t),none,[]⟩
@[simp] abbrev rn (ops:List I) (keep:List Nat) (lasts:List Nat:=[]):PC := .region none ops keep lasts
end Go.Pm.F
end SFX
