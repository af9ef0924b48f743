/- Regions that draw their order: whatever order comes, it ends as the text's does. -/
import Derived.Test.YtmigbfimahjacaaGreatDoorPmAL
import Derived.Test.YtmigbfimahjacaaGreatDoorPmL
import Derived.LoopNIn
import Derived.RangeFuncRecord
import Derived.RecoverIn
set_option linter.unusedSimpArgs false
set_option linter.unusedVariables false
namespace Go.Pm
section
variable{P:Program}{ids:Ids}{fid:Fid}{N:Nat}
structure Trace(C:Task->Option Res)(is:List I)(T:Nat->Fr × S)(val:Nat->V)(es:List Ev):Prop where
 step : ∀ k i,is[k]?=some i ->
  (qaQ (T k).1 i.guard=some true/\qar C (T k).1 (T k).2 i.op=some (val k,(T (k+1)).2)/\es[k]?=some (qck (T k).1 (T k).2 i.op) \/
   qaQ (T k).1 i.guard=some false/\val k = .dat (.lit undef)/\(T (k+1)).2=(T k).2/\es[k]?=some .pure) /\
  (T (k+1)).1=(T k).1.put i.dst (val k)
theorem qki {C:Task->Option Res} : ∀ {is:List I} {fr fr':Fr} {σ σ':S} {es:List Ev},qbZ C is fr σ = some (es,fr',σ') ->
  ∃ T val,T 0=(fr,σ)/\T is.length=(fr',σ')/\Trace C is T val es
 |[],fr,fr',σ,σ',es,h=>by
  simp only[qbZ,Wd,Wx] at h
  obtain⟨rfl,rfl,rfl⟩:=h
  exact⟨fun _=>(fr,σ),fun _=>default,rfl,rfl,⟨fun k i h=>by simp at h⟩⟩
 |i::is,fr,fr',σ,σ',es,h=>by
  simp only[qbZ] at h
  split at h
  ·rename_i hw
   split at h
   ·rename_i v σ1 hv
    split at h
    ·rename_i l fr2 σ2 hrest
     cases h
     obtain⟨T,val,h0,hm,ht⟩:=qki hrest
     refine⟨fun k=>match k with|0=>(fr,σ) | k+1=>T k,fun k=>match k with|0=>v|k+1=>val k,rfl,hm,⟨fun k j hk=>?_⟩⟩
     cases k with
     |zero=>
      simp at hk; subst hk
      exact⟨.inl ⟨hw,by simp only[h0,hv],rfl⟩,by simp only[h0]⟩
     |succ k=>exact ht.step k j (by simpa using hk)
    ·cases h
   ·cases h
  ·rename_i hw
   split at h
   ·rename_i l fr2 σ2 hrest
    cases h
    obtain⟨T,val,h0,hm,ht⟩:=qki hrest
    refine⟨fun k=>match k with|0=>(fr,σ) | k+1=>T k,fun k=>match k with|0 => .dat (.lit undef) | k+1=>val k,rfl,hm,⟨fun k j hk=>?_⟩⟩
    cases k with
    |zero=>
     simp at hk; subst hk
     exact⟨.inr ⟨hw,rfl,by simp only[h0],rfl⟩,by simp only[h0]⟩
    |succ k=>exact ht.step k j (by simpa using hk)
   ·cases h
  ·cases h
theorem qip {C:Task->Option Res} : ∀ {is:List I} {q p:Nat} {fr:Fr} {σ σ':S} {es:List Ev} {v:V},qbA C q is fr σ = some (p,es,v,σ') ->
  ∃ m T val J,p=q+m/\is[m]?=some J/\T 0=(fr,σ)/\Trace C (is.take m) T val es/\qaQ (T m).1 J.guard=some true/\qbk C (T m).1 (T m).2 J.op=some (v,σ')
 |[],q,p,fr,σ,σ',es,v,h=>by simp[qbA] at h
 |i::is,q,p,fr,σ,σ',es,v,h=>by
  simp only[qbA] at h
  split at h
  ·rename_i hw
   split at h
   ·rename_i v1 σ1 hv
    split at h
    ·rename_i p' l u σ2 hrest
     cases h
     obtain⟨m,T,val,J,e1,e2,h0,ht,e3,e4⟩:=qip hrest
     refine⟨m+1,fun k=>match k with|0=>(fr,σ) | k+1=>T k,fun k=>match k with|0=>v1|k+1=>val k,J,by omega,by simpa using e2,rfl,⟨fun k j hk=>?_⟩,e3,e4⟩
     cases k with
     |zero=>
      simp at hk; subst hk
      exact⟨.inl ⟨hw,by simp only[h0,hv],rfl⟩,by simp only[h0]⟩
     |succ k=>exact ht.step k j (by simpa using hk)
    ·cases h
   ·split at h
    ·rename_i v1 σ1 hv
     cases h
     exact⟨0,fun _=>(fr,σ),fun _=>default,i,rfl,rfl,rfl,⟨fun k j hk=>by simp at hk⟩,hw,hv⟩
    ·cases h
  ·rename_i hw
   split at h
   ·rename_i p' l u σ2 hrest
    cases h
    obtain⟨m,T,val,J,e1,e2,h0,ht,e3,e4⟩:=qip hrest
    refine⟨m+1,fun k=>match k with|0=>(fr,σ) | k+1=>T k,fun k=>match k with|0 => .dat (.lit undef) | k+1=>val k,J,by omega,by simpa using e2,rfl,⟨fun k j hk=>?_⟩,e3,e4⟩
    cases k with
    |zero=>
     simp at hk; subst hk
     exact⟨.inr ⟨hw,rfl,by simp only[h0],rfl⟩,by simp only[h0]⟩
    |succ k=>exact ht.step k j (by simpa using hk)
   ·cases h
  ·cases h
theorem qcu{es:List Ev}{l j:Nat} : ∀ {un:List Nat},qh4 es l j un=true -> ∀ i∈un,∀ n T,es[i]?=some (.chain n T)->l∉T/\(j<=i\/l<n)
 |[],_,i,hi=>by cases hi
 |k::un,h,i,hi=>by
  simp only[qh4,Wh] at h
  rcases Wq.1 hi with rfl|hi
  ·grind
  ·exact qcu h.2 i hi
theorem qlS{es:List Ev} : ∀ {is:List I} {r:List Ev} {j:Nat},qot es is j r=true -> ∀ k i l,is[k]?=some i->r[k]?=some (.read l)->qh4 es l (j+k) i.un=true
 |[],r,j,_,k,i,l,hk,_=>by simp at hk
 |a::is,[],j,_,k,i,l,_,hr=>by simp at hr
 |a::is,e::r,j,h,k,i,l,hk,hr=>by
  simp only[qot,Wh] at h
  cases k with
  |zero=>
   simp at hk hr; subst hk; subst hr
   exact h.1
  |succ k=>
   have:=qlS h.2 k i l (by simpa using hk) (by simpa using hr)
   rw[show j+(k+1)=j+1+k from by omega]
   exact this
theorem qqO{u v:V}(h:u.same v=true):u=v:=by
 unfold V.same at h
 split at h
 ·grind
 ·grind [eqI]
 ·rfl
 ·grind
 ·grind
 ·grind [qfr]
 ·cases h
theorem qjt{ss:List (Fr × S)}{agg:Bool}{n:Nat}{p:V} : ∀ {un:List Nat},still ss agg n p un=true -> ∀ q∈un,∀ a b,ss[q]?=some a->ss[q+1]?=some b->qco b.2 agg n p=qco a.2 agg n p
 |[],_,q,hq=>by cases hq
 |i::un,h,q,hq=>by
  simp only[still,Wh] at h
  rcases Wq.1 hq with rfl|hq
  ·grind [still,qco,qqO]
  ·exact qjt h.2 q hq
theorem qju{es:List Ev}{ss:List (Fr × S)} : ∀ {is:List I} {r:List Ev} {j:Nat},qlm es ss is j r=true -> ∀ k i l,is[k]?=some i->r[k]?=some (.read l)->qh4 es l (j+k) i.un=true\/qpT ss i (j+k)=true
 |[],r,j,_,k,i,l,hk,_=>by simp at hk
 |a::is,[],j,_,k,i,l,_,hr=>by simp at hr
 |a::is,e::r,j,h,k,i,l,hk,hr=>by
  simp only[qlm,Wh] at h
  cases k with
  |zero=>
   simp at hk hr; subst hk; subst hr
   have:=h.1
   rw[W1]; simpa only [Bool.or_eq_true] using this
  |succ k=>
   have:=qju h.2 k i l (by simpa using hk) (by simpa using hr)
   rw[show j+(k+1)=j+1+k from by omega]
   exact this
theorem qgM{C:Task->Option Res} : ∀ {is:List I} {T:Nat->Fr × S} {val:Nat->V} {es:List Ev} {ss:List (Fr × S)},Trace C is T val es->qeP C is (T 0).1 (T 0).2=some ss -> ∀ k,k<=is.length->ss[k]?=some (T k)
 |[],T,val,es,ss,_,h,k,hk=>by grind [qeP]
 |i::is,T,val,es,ss,ht,h,k,hk=>by
  have tl:Trace C is (fun k=>T (k+1)) (fun k=>val (k+1)) es.tail:=⟨fun k I hI=>by
   have:=ht.step (k+1) I (by simpa using hI)
   simpa only [List.getElem?_tail] using this⟩
  obtain⟨hst,hfr⟩:=ht.step 0 i (by simp)
  simp only[qeP] at h
  rcases hst with ⟨h1,h2,_⟩|⟨h1,h2,h3,_⟩
  ·simp only[h1,h2] at h
   split at h
   ·rename_i l hl
    cases h
    rw[<- hfr] at hl
    have ih:=qgM tl (ss:=l) hl
    cases k with
    |zero=>rfl
    |succ k=>simpa using ih k (by simpa using hk)
   ·cases h
  ·simp only[h1] at h
   split at h
   ·rename_i l hl
    cases h
    rw[<- h2,<- h3,<- hfr] at hl
    have ih:=qgM tl (ss:=l) hl
    cases k with
    |zero=>rfl
    |succ k=>simpa using ih k (by simpa using hk)
   ·cases h
def qlT(is:List I)(T:Nat->Fr × S)(es:List Ev):Prop:=
 ∀ (k:Nat) (i:I) (l:Nat),is[k]?=some i->es[k]?=some (.read l)->qh4 es l k i.un=true \/ ∃ agg n x p,i.op = .load agg n x/\x.ev (T k).1=some p /\ ∀ q∈i.un,q<is.length->qco (T (q+1)).2 agg n p=qco (T q).2 agg n p
theorem qjv{is:List I}{T:Nat->Fr × S}{es:List Ev}(h:qot es is 0 es=true):qlT is T es:=fun k i l hk hl=>by
 have:=qlS h k i l hk hl
 exact .inl (by simpa using this)
theorem qmR{C:Task->Option Res}{is:List I}{T:Nat->Fr × S}{val:Nat->V}{es:List Ev}{ss:List (Fr × S)}(ht:Trace C is T val es)(hs:qeP C is (T 0).1 (T 0).2=some ss)(h:qlm es ss is 0 es=true):qlT is T es:=fun k i l hk hl=>by
 have hss:=qgM ht hs
 have hlt:=(Wb.1 hk).1
 rcases qju h k i l hk hl with h|h
 ·exact .inl (by simpa using h)
 ·refine .inr ?_
  rw[WF] at h
  unfold qpT at h
  rw[hss k (by omega)] at h
  split at h
  ·grind [qeP,qlm,qlT,qjt]
  ·cases h
structure Stat(ops:Array Oper)(is:List I)(A:Nat->Nat->Prop):Prop where
 lt : ∀ i j,A i j->i<j
 edge : ∀ (j:Nat) (o:Oper) (e:Edge),ops[j]?=some o->e∈o.after.toList->Region.binds .any e=true->A e.on j /\ ∀ i,A i e.on->A i j
 back : ∀ (j:Nat) (o:Oper) (i:Nat),ops[j]?=some o->A i j -> ∃ e,e∈o.after.toList/\Region.binds .any e=true/\(e.on=i\/A i e.on)
 uniq : ∀ (i j:Nat) (I J:Pm.I) (d:Nat),is[i]?=some I->is[j]?=some J->i≠j->I.dst=some d->J.dst≠some d
 look : ∀ (i j:Nat) (I J:Pm.I) (d:Nat),is[i]?=some I->is[j]?=some J->i≠j->I.dst=some d->d∈J.looks->A i j\/A j i
 chn : ∀ (i j:Nat) (I J:Pm.I),is[i]?=some I->is[j]?=some J->i≠j->I.op.chain=true->J.op.chain=true->A i j\/A j i
 rd : ∀ (i j:Nat) (I J:Pm.I),is[i]?=some I->is[j]?=some J->i≠j->I.op.chain=true->J.op.reads=true->A i j\/A j i\/i∈J.un
 fl : ∀ (i j:Nat) (I J:Pm.I),is[i]?=some I->is[j]?=some J->i≠j->I.op.chain=true->J.op.isFill=true->A j i\/i∈J.un
theorem Stat.pre{ops:Array Oper}{is isP:List I}{A:Nat->Nat->Prop}(hs:Stat ops is A)(hpre : ∀ (k:Nat) (I:Pm.I),isP[k]?=some I->is[k]?=some I):Stat ops isP A:=
 ⟨hs.lt,hs.edge,hs.back,fun i j I J d hI hJ=>hs.uniq i j I J d (hpre i I hI) (hpre j J hJ),fun i j I J d hI hJ=>hs.look i j I J d (hpre i I hI) (hpre j J hJ),fun i j I J hI hJ=>hs.chn i j I J (hpre i I hI) (hpre j J hJ),
  fun i j I J hI hJ=>hs.rd i j I J (hpre i I hI) (hpre j J hJ),fun i j I J hI hJ=>hs.fl i j I J (hpre i I hI) (hpre j J hJ)⟩
theorem qqP{ops:Array Oper}{is:List I}{as:List (List Nat)}(hl:is.length=ops.size)(h:qjx ops is as=true):Stat ops is (fun i j=>j<ops.size/\i∈as.getD j []):=by
 have key : ∀ j J,is[j]?=some J -> ∃ o,ops[j]?=some o/\j<ops.size/\(∀ k∈as.getD j [],k<j) /\
   (∀ e∈o.after.toList,Region.binds .any e=true->e.on∈as.getD j [] /\ ∀ k∈as.getD e.on [],k∈as.getD j []) /\
   (∀ k∈as.getD j [],∃ e∈o.after.toList,Region.binds .any e=true/\(e.on=k\/k∈as.getD e.on [])) /\
   ∀ k I,is[k]?=some I->k≠j->(∀ d,I.dst=some d->(d∈J.looks->k∈as.getD j []\/j∈as.getD k [])/\J.dst≠some d) /\
    (J.op.chain=true->I.op.chain=true->k∈as.getD j []\/j∈as.getD k []) /\
    (J.op.reads=true->I.op.chain=true->k∈as.getD j []\/j∈as.getD k []\/k∈J.un) /\
    (J.op.isFill=true->I.op.chain=true->j∈as.getD k []\/k∈J.un):=fun j J hJ=>by
  have hj:j<ops.size:=by rw[<- hl]; exact (Wb.1 hJ).1
  have hh:=Ws.1 h j (List.mem_range.2 hj)
  have ho:ops[j]?=some ops[j]:=by simp[hj]
  rw[ho,hJ] at hh
  simp only[Wh] at hh
  obtain⟨h1,h2,h3,h4⟩:=hh
  refine⟨_,ho,hj,fun k hk=>by simpa using Ws.1 h1 k hk,fun e he hb=>?_,fun k hk=>?_,fun k I hI hkj=>?_⟩
  ·grind
  ·grind
  ·grind [anc]
 have isome : ∀ j,j<ops.size -> ∃ J,is[j]?=some J:=fun j hj=>⟨is[j]'(by omega),by simp⟩
 have osome : ∀ j o,ops[j]?=some o -> ∃ J,is[j]?=some J:=fun j o ho=>isome j (WY.1 ho).1
 refine⟨fun i j hA=>?_,fun j o e ho he hb=>?_,fun j o i ho hA=>?_,fun i j I J d hI hJ hne hd=>?_,fun i j I J d hI hJ hne hd hm=>?_,fun i j I J hI hJ hne c1 c2=>?_,fun i j I J hI hJ hne c1 c2=>?_,fun i j I J hI hJ hne c1 c2=>?_⟩
 ·grind
 ·grind
 ·grind
 ·grind
 ·grind
 ·grind
 ·grind
 ·grind
section
variable{C:Task->Option Res}{ro:Option Nat}{Q:Exit->Act->World->Prop}{ops:Array Oper}{is:List I}{A:Nat->Nat->Prop}{T:Nat->Fr × S}{val:Nat->V}{es:List Ev}{Γ00:Ctx}{ds:List Deferred}
theorem qiq (hs:Stat ops is A) (ht:Trace C is T val es) : ∀ k,k<=is.length ->
  (∀ i I t,i<k->is[i]?=some I->I.dst=some t->(T k).1.get t=some (val i)) /\ ∀ t,(∀ i I,i<k->is[i]?=some I->I.dst≠some t)->(T k).1.get t=(T 0).1.get t
 |0,_=>⟨fun i I t hi=>by omega,fun t _=>rfl⟩
 |k+1,hk=>by
  obtain⟨h1,h2⟩:=qiq hs ht k (by omega)
  obtain⟨J,hJ⟩ : ∃ J,is[k]?=some J:=⟨is[k]'(by omega),by simp⟩
  have hput:=(ht.step k J hJ).2
  rw[hput]
  refine⟨fun i I t hi hI hd=>?_,fun t hn=>?_⟩
  ·by_cases e:i=k
   ·grind [Fr.put,Fr.get]
   ·have:J.dst≠some t:=hs.uniq i k I J t hI hJ e hd
    have h:=h1 i I t (by omega) hI hd
    cases hdj:J.dst with
    |none=>simpa [Fr.put,hdj] using h
    |some d=>
     have:d≠t:=fun e=>this (by rw[hdj,e])
     simp only[Fr.put,Fr.get,if_neg this]
     exact h
  ·have hJn:=hn k J (by omega) hJ
   have h:=h2 t (fun i I hi hI=>hn i I (by omega) hI)
   cases hdj:J.dst with
   |none=>simpa [Fr.put,hdj] using h
   |some d=>
    have:d≠t:=fun e=>hJn (by rw[hdj,e])
    simp only[Fr.put,Fr.get,if_neg this]
    exact h
theorem qgN (ht:Trace C is T val es) {k:Nat} {J:I} (hJ:is[k]?=some J) :
  (T k).2.length<=(T (k+1)).2.length/\(J.op.chain=false->(T (k+1)).2=(T k).2) /\
  ∀ l,l<(T k).2.length->(∀ n L,es[k]?=some (.chain n L)->l∉L)->(T (k+1)).2[l]?=(T k).2[l]?:=by
 obtain⟨h|h,_⟩:=ht.step k J hJ
 ·obtain⟨_,h2,h3⟩:=h
  by_cases hc:J.op.chain=true
  ·grind [qgI]
  ·grind [qlD]
 ·grind
theorem qnN(ht:Trace C is T val es) : ∀ {i k:Nat},i<=k->k<=is.length->(T i).2.length<=(T k).2.length
 | i,0,hi,_=>by have:i=0:=by omega
                subst this; exact Wg _
 |i,k+1,hi,hk=>by
  rcases Yn k i with h|h
  ·grind
  ·obtain⟨J,hJ⟩ : ∃ J,is[k]?=some J:=⟨is[k]'(by omega),by simp⟩
   exact Yc (qnN ht h (by omega)) (qgN ht hJ).1
theorem qqQ(ht:Trace C is T val es) : ∀ {i k:Nat},i<=k->k<=is.length->(∀ j J,i<=j->j<k->is[j]?=some J->J.op.chain=false)->(T k).2=(T i).2
 | i,0,hi,_,_=>by have:i=0:=by omega
                  subst this; rfl
 |i,k+1,hi,hk,h=>by
  rcases Yn k i with hlt|hge
  ·have:i=k+1:=by omega
   subst this; rfl
  ·obtain⟨J,hJ⟩ : ∃ J,is[k]?=some J:=⟨is[k]'(by omega),by simp⟩
   rw[(qgN ht hJ).2.1 (h k J hge (by omega) hJ)]
   exact qqQ ht hge (by omega) fun j J' h1 h2=>h j J' h1 (by omega)
theorem qsr(ht:Trace C is T val es){l:Nat} : ∀ {i k:Nat},i<=k->k<=is.length->(∀ j J,i<=j->j<k->is[j]?=some J->J.op.chain=true->l<(T j).2.length /\ ∀ n L,es[j]?=some (.chain n L)->l∉L)->(T k).2[l]?=(T i).2[l]?
 | i,0,hi,_,_=>by have:i=0:=by omega
                  subst this; rfl
 |i,k+1,hi,hk,h=>by
  rcases Yn k i with hlt|hge
  ·have:i=k+1:=by omega
   subst this; rfl
  ·obtain⟨J,hJ⟩ : ∃ J,is[k]?=some J:=⟨is[k]'(by omega),by simp⟩
   have ih:=qsr ht hge (by omega) fun j J' h1 h2=>h j J' h1 (by omega)
   by_cases hc:J.op.chain=true
   ·grind [qgN]
   ·rw[(qgN ht hJ).2.1 (by simpa using hc),ih]
theorem qu3{α : Type}(g:S -> α)(ht:Trace C is T val es) : ∀ {i k:Nat},i<=k->k<=is.length->(∀ j J,i<=j->j<k->is[j]?=some J->J.op.chain=true->g (T (j+1)).2=g (T j).2)->g (T k).2=g (T i).2
 | i,0,hi,_,_=>by have:i=0:=by omega
                  subst this; rfl
 |i,k+1,hi,hk,h=>by
  rcases Yn k i with hlt|hge
  ·have:i=k+1:=by omega
   subst this; rfl
  ·obtain⟨J,hJ⟩ : ∃ J,is[k]?=some J:=⟨is[k]'(by omega),by simp⟩
   have ih:=qu3 g ht hge (by omega) fun j J' h1 h2=>h j J' h1 (by omega)
   by_cases hc:J.op.chain=true
   ·rw[h k J hge (by omega) hJ hc,ih]
   ·rw[(qgN ht hJ).2.1 (by simpa using hc),ih]
def qfy(o:Option V)(l:Nat):Prop:=o=some (.ptr l 0)\/o=some (.mp l)
structure SInv(fid:Fid)(Γ00 Γ : Ctx)(is:List I)(T:Nat->Fr × S)(val:Nat->V)(A:Nat->Nat->Prop)(fr:Fr)(E:Nat->Prop):Prop where
 real:Real fid Γ
 step:Step Γ00 Γ
 stage : ∃ K,K<=is.length /\ Γ.σ = (T K).2/\(∀ i I,E i->is[i]?=some I->I.op.chain=true->i<K) /\ ∀ i I,i<K->is[i]?=some I->I.op.chain=true->E i
 fr1 : ∀ i I t,E i->is[i]?=some I->I.dst=some t->fr.get t=some (val i)
 fr2 : ∀ t,(∀ i I,E i->is[i]?=some I->I.dst≠some t)->fr.get t=(T 0).1.get t
 hole : ∀ j J k l,is[j]?=some J->J.op = .fill k -> ¬ E j->qfy ((T 0).1.get k) l -> Γ.μ l=none
 down : ∀ i j,E j->A i j->E i
theorem qnO {full:List I} (hs:Stat ops full A) (hpre : ∀ (k:Nat) (I:Pm.I),is[k]?=some I->full[k]?=some I) (hpre' : ∀ (k:Nat) (I:Pm.I),k<is.length->full[k]?=some I->is[k]?=some I) (ht:Trace C is T val es) (hca:qlT is T es)
  {Γ00 Γ : Ctx} {fr:Fr} {E:Nat->Prop} (hi:SInv fid Γ00 Γ is T val A fr E) {j:Nat} {J:I} (hjl':j<=is.length) (hJ:full[j]?=some J) (hE : ¬ E j) (hA : ∀ i,A i j->E i) :
  (∀ t∈J.looks,fr.get t=(T j).1.get t) /\
  (j<is.length -> ∀ v σ1,qar C (T j).1 (T j).2 J.op=some (v,σ1)->(qaQ (T j).1 J.guard=some true->es[j]?=some (qck (T j).1 (T j).2 J.op))->qaQ (T j).1 J.guard=some true ->
   ∃ σ2,qar C fr Γ.σ J.op=some (v,σ2)/\(J.op.chain=true -> σ2 = σ1)/\(J.op.chain=false -> σ2 = Γ.σ)) /\
  (J.op.chain=true -> Γ.σ = (T j).2):=by
 have hsP:=hs.pre hpre
 obtain⟨tf1,tf2⟩:=qiq hsP ht j hjl'
 have hlook : ∀ t∈J.looks,fr.get t=(T j).1.get t:=fun t ht'=>by
  by_cases hw : ∃ (i:Nat) (I:Pm.I),full[i]?=some I/\I.dst=some t
  ·obtain⟨i,I,hI,hd⟩:=hw
   have only : ∀ (i':Nat) (I':Pm.I),full[i']?=some I'->I'.dst=some t->i'=i:=fun i' I' hI' hd'=>by
    by_cases e:i'=i
    ·exact e
    ·exact absurd hd (hs.uniq i' i I' I t hI' hI e hd')
   have both : ¬ E i -> ¬ i<j->fr.get t=(T j).1.get t:=fun h1 h2=>by
    rw[hi.fr2 t (fun i' I' hE' hI' hd'=>by have:=only i' I' (hpre _ _ hI') hd'; subst this; exact h1 hE'),tf2 t (fun i' I' hlt hI' hd'=>by have:=only i' I' (hpre _ _ hI') hd'; subst this; exact h2 hlt)]
   by_cases e:i=j
   ·subst e; exact both hE (by omega)
   ·rcases hs.look i j I J t hI hJ e hd ht' with hij|hji
    ·have hlt:=hs.lt i j hij
     have hIP:=hpre' i I (by omega) hI
     rw[hi.fr1 i I t (hA i hij) hIP hd,tf1 i I t hlt hIP hd]
    ·exact both (fun h=>hE (hi.down j i h hji)) (by have:=hs.lt j i hji; omega)
  ·have hw' : ∀ (i:Nat) (I:Pm.I),full[i]?=some I->I.dst≠some t:=fun i I hI hd=>hw ⟨i,I,hI,hd⟩
   rw[hi.fr2 t (fun i I _ hI=>hw' i I (hpre _ _ hI)),tf2 t (fun i I _ hI=>hw' i I (hpre _ _ hI))]
 have hkj0:J.op.chain=true -> Γ.σ = (T j).2:=fun hc=>by
  obtain⟨K,hK,hσ,hK1,hK2⟩:=hi.stage
  have hle:K<=j:=by grind
  rw[hσ]
  refine (qqQ ht hle hjl' fun i I h1 h2 hI=>?_).symm
  cases hci:I.op.chain with
  |false=>rfl
  |true=>
   exfalso
   rcases hs.chn i j I J (hpre _ _ hI) hJ (by omega) hci hc with h|h
   ·have:=hK1 i I (hA i h) hI hci; omega
   ·have:=hs.lt j i h; omega
 refine⟨hlook,fun hjl v σ1 hrun hev hwant=>?_,hkj0⟩
 have hs:=hsP
 have hJ:=hpre' j J hjl hJ
 have hcong:=fun σ => qoC (C:=C) (fr:=fr) (fr':=(T j).1) (op:=J.op) (fun t ht'=>hlook t (by simp[I.looks,ht'])) σ
 obtain⟨K,hK,hσ,hK1,hK2⟩:=hi.stage
 have hKj:J.op.chain=true->K<=j:=fun hc=>by grind
 by_cases hc:J.op.chain=true
 ·grind
 ·have hc':J.op.chain=false:=by simpa using hc
  obtain⟨_,h2⟩:=qlD hc' hrun
  refine⟨Γ.σ,?_,fun h=>absurd h hc,fun _=>rfl⟩
  rw[(hcong _).1]
  by_cases hq : ∃ agg n x p,J.op = .load agg n x/\x.ev (T j).1=some p /\ ∀ q∈J.un,q<is.length->qco (T (q+1)).2 agg n p=qco (T q).2 agg n p
  ·-- a load of what nothing around it changes
   obtain⟨agg,n,x,p,e1,e2,e3⟩:=hq
   have hreads:J.op.reads=true:=by rw[e1]; rfl
   have hL:qco Γ.σ agg n p=qco (T j).2 agg n p:=by
    rw[hσ]
    rcases Nat.le_total K j with hle|hle
    ·refine (qu3 (fun σ => qco σ agg n p) ht hle (by omega) fun i I h1 h2 hI hci=>?_).symm
     refine e3 i ?_ (by omega)
     rcases hs.rd i j I J hI hJ (by omega) hci hreads with h|h|h
     ·have:=hK1 i I (hA i h) hI hci; omega
     ·have:=hs.lt j i h; omega
     ·exact h
    ·refine qu3 (fun σ => qco σ agg n p) ht hle hK fun i I h1 h2 hI hci=>?_
     have hne:i≠j:=fun e=>by subst e; rw[hJ] at hI; cases hI; exact hc hci
     have hEi:=hK2 i I h2 hI hci
     refine e3 i ?_ (by omega)
     rcases hs.rd i j I J hI hJ hne hci hreads with h|h|h
     ·have:=hs.lt i j h; omega
     ·exact absurd (hi.down j i hEi h) hE
     ·exact h
   rw[e1] at hrun ⊢
   simp only[qar,e2] at hrun ⊢
   rw[hL]
   split at hrun
   ·rename_i u hu; cases hrun; rfl
   ·cases hrun
  refine h2 _ fun l hl=>?_
  rw[hσ]
  have hes:=hev hwant
  rw[hl] at hes
  have hal:=(hca j J l hJ hes).resolve_right hq
  have hreads:J.op.reads=true:=by
   cases hop:J.op<;>rw[hop] at hl hc'<;>first|rfl | (simp[qck] at hl; done) | (cases hc'; done)
  have hlt:l<(T j).2.length:=by
   have key : ∀ {p:Option V},qcM p = .read l -> ∀ {r:Option (V × S)},r=some (v,σ1)->True:=fun _ _ _=>trivial
   cases hop:J.op<;>rw[hop] at hl hrun hc'<;>first | (simp[qck] at hl; done) | (cases hc'; done) | skip
   ·rename_i agg n x
    simp only[qar] at hrun
    split at hrun
    ·rename_i p hp
     simp only[qck,hp] at hl
     split at hrun
     ·rename_i u hu
      cases p<;>simp only[qcM] at hl<;>first | (cases hl; done) | skip
      ·grind [qco]
      ·grind [qco]
      ·cases hl
       simp[qco] at hu
     ·cases hrun
    ·cases hrun
   ·rename_i k x
    simp only[qar] at hrun
    split at hrun
    ·rename_i p hp
     simp only[qck,hp] at hl
     split at hrun
     ·rename_i u hu
      cases p<;>simp only[qcM] at hl<;>first | (cases hl; done) | skip
      ·cases hl
       cases k<;>simp[V.len] at hu
      ·cases hl
       cases k<;>simp[V.len] at hu
      ·cases hl
       cases k<;>simp only[V.len] at hu<;>first | (cases hu; done) | skip
       split at hu
       ·grind
       ·cases hu
     ·cases hrun
    ·cases hrun
   ·grind [qar,qck,qcM]
   ·grind [qar,qck,qcM]
  rcases Nat.le_total K j with hle|hle
  ·refine (qsr ht hle (by omega) fun i I h1 h2 hI hci=>?_).symm
   have hun:i∈J.un:=by
    rcases hs.rd i j I J hI hJ (by omega) hci hreads with h|h|h
    ·have:=hK1 i I (hA i h) hI hci; omega
    ·have:=hs.lt j i h; omega
    ·exact h
   obtain⟨hst|hst,_⟩:=ht.step i I hI
   ·obtain⟨_,r1,r2⟩:=hst
    obtain⟨L,e1,_,_⟩:=qgI hci r1
    rw[e1] at r2
    obtain⟨a1,a2⟩:=qcu hal i hun _ _ r2
    refine⟨by omega,fun n L' h=>?_⟩
    exact (qcu hal i hun n L' h).1
   ·obtain⟨_,_,r1,r2⟩:=hst
    refine⟨?_,fun n L' h=>(qcu hal i hun n L' h).1⟩
    have : ∀ d i',i'+d=j->K<=i'->l<(T i').2.length:=fun d=>by
     induction d with
     | zero => intro i' h _; have:i'=j:=by omega
               subst this; exact hlt
     |succ d ih=>
      intro i' h hKi
      have hn:=ih (i'+1) (by omega) (by omega)
      obtain⟨I',hI'⟩ : ∃ I',is[i']?=some I':=⟨is[i']'(by omega),by simp⟩
      by_cases hci':I'.op.chain=true
      ·have hun':i'∈J.un:=by
        rcases hs.rd i' j I' J hI' hJ (by omega) hci' hreads with h'|h'|h'
        ·have:=hK1 i' I' (hA i' h') hI' hci'; omega
        ·have:=hs.lt j i' h'; omega
        ·exact h'
       obtain⟨hst'|hst',_⟩:=ht.step i' I' hI'
       ·obtain⟨_,r1',r2'⟩:=hst'
        obtain⟨L,e1,_,_⟩:=qgI hci' r1'
        rw[e1] at r2'
        have:=(qcu hal i' hun' _ _ r2').2
        omega
       ·grind
      ·grind [qlT,qar,qaQ,qck,qgN]
    exact this (j-i) i (by omega) h1
  ·refine qsr ht hle hK fun i I h1 h2 hI hci=>?_
   have hne:i≠j:=fun e=>by subst e; rw[hJ] at hI; cases hI; exact hc hci
   have hEi:=hK2 i I h2 hI hci
   have hun:i∈J.un:=by
    rcases hs.rd i j I J hI hJ hne hci hreads with h|h|h
    ·have:=hs.lt i j h; omega
    ·exact absurd (hi.down j i hEi h) hE
    ·exact h
   exact⟨W3 hlt (qnN ht h1 (by omega)),fun n L' h=>(qcu hal i hun n L' h).1⟩
theorem qmS{fr fr':Fr}{op:O}(h : ∀ t∈op.tmps,fr.get t=fr'.get t)(σ : S):qbk C fr σ op=qbk C fr' σ op:=by
 cases op with
 |call f xs=>
  have:=qb0 (xs:=xs) h
  simp only[qbk,this]
 |invoke tbl f xs=>
  have h1:=qa5 (x:=f) (fun t ht=>h t (by simp[O.tmps,ht]))
  have h2:=qb0 (xs:=xs) (fun t ht=>h t (by simp[O.tmps,ht]))
  simp only[qbk,h1,h2]
 |callv f xs=>
  have h1:=qa5 (x:=f) (fun t ht=>h t (by simp[O.tmps,ht]))
  have h2:=qb0 (xs:=xs) (fun t ht=>h t (by simp[O.tmps,ht]))
  simp only[qbk,h1,h2]
 |panic x=>
  have:=qa5 (x:=x) h
  simp only[qbk,this]
 |_=>rfl
theorem qdz{un:Nat->List Nat} : ∀ {l:List Oper} {j:Nat} {is:List I},cIs P ids N true ops un j l=some is->is.length=l.length /\ ∀ (k:Nat) (o:Oper),l[k]?=some o -> ∃ i,is[k]?=some i/\cI P ids N true ops un (j+k) o=some i
 |[],j,is,h=>by simp only[cIs,Wd] at h; subst h; simp
 |o::l,j,is,h=>by
  simp only[cIs] at h
  split at h
  ·rename_i i is' h1 h2
   cases h
   obtain⟨k1,k2⟩:=qdz h2
   refine⟨by simp[k1],fun k o' hk=>?_⟩
   cases k with
   |zero=>simp at hk; subst hk; exact⟨i,rfl,h1⟩
   |succ k=>
    obtain⟨i',h3,h4⟩:=k2 k o' (by simpa using hk)
    exact⟨i',by simpa using h3,by rw[show j+(k+1)=j+1+k from by omega]; exact h4⟩
  ·cases h
theorem qir{q:Op}{op:O}(hq:cOp P ids N q=some op):op.isFill=false:=by
 have key : ∀ (q:Op) (op:O),qcW P ids N q=some op->op.isFill=false:=fun q op hq=>by
  cases q<;>simp only[qcW] at hq<;>first
   | (cases hq; done)
   |skip
  all_goals (try simp only[qoN,Wc] at hq)
  all_goals (repeat' (first
   | (cases hq; done)
   | (obtain⟨_,_,rfl⟩:=hq; rfl)
   | (cases hq; rfl)
   | (simp only[Wc] at hq; obtain⟨_,_,rfl⟩:=hq; rfl)
   |split at hq))
 unfold cOp at hq
 split at hq
 ·rename_i h; cases hq; exact key _ _ h
 ·cases hq; rfl
theorem qdY{o:Oper}{op:O}(h:qyq P ids N true o=some op):(∃ d,(∃ t,o.op = .alloc t\/(o.op = .makeMap t none/\ids.mf=true))/\o.dst=some d/\o.guard=none/\op = .fill (N+d))\/(cOp P ids N o.op=some op/\op.isFill=false):=by
 unfold qyq at h
 split at h
 ·grind
 ·cases h
 ·rename_i t d g e1 e2
  split at h
  ·split at h
   ·cases h
    exact .inl ⟨_,⟨_,.inr ⟨by assumption,by assumption⟩⟩,by assumption,by assumption,rfl⟩
   ·cases h
  ·rename_i e1 _
   rw[e1]
   exact .inr ⟨h,qir h⟩
 ·exact .inr ⟨h,qir h⟩
def Makes(P:Program)(mf:Bool)(q:Op)(u:V)(l:Nat)(ob:Ob):Prop:=
 (∃ t z,q = .alloc t/\qcj P t=some z/\u = .ptr l 0/\ob = .cells ((qaz z).map .dat))\/(∃ t,q = .makeMap t none/\mf=true/\u = .mp l/\ob = .map [])
def qxg(mf:Bool)(q:Op):Prop := ∃ t,q = .alloc t\/(q = .makeMap t none/\mf=true)
theorem Makes.place{mf:Bool}{q:Op}{u:V}{l l':Nat}{ob:Ob}(h:Makes P mf q u l' ob)(hp:qfy (some u) l):l=l':=by
 rcases h with ⟨t,z,_,_,rfl,_⟩|⟨t,_,_,rfl,_⟩<;>rcases hp with e|e<;>cases e<;>rfl
theorem Makes.placed{mf:Bool}{q:Op}{u:V}{l:Nat}{ob:Ob}(h:Makes P mf q u l ob):qfy (some u) l:=by
 rcases h with ⟨t,z,_,_,rfl,_⟩|⟨t,_,_,rfl,_⟩
 ·exact .inl rfl
 ·exact .inr rfl
structure Held(Γ00:Ctx)(is:List I)(ops:Array Oper)(P:Program)(mf:Bool)(N:Nat)(T:Nat->Fr × S):Prop where
 len : Γ00.σ.length<=(T 0).2.length
 at_ : ∀ (j:Nat) (o:Oper) (d:Nat),ops[j]?=some o->qxg mf o.op->o.dst=some d -> ∃ l u ob,(T 0).1.get (N+d)=some u /\ Γ00.σ.length<=l/\Makes P mf o.op u l ob/\(T 0).2[l]?=some ob
 one : ∀ (j:Nat) (o:Oper) (d j':Nat) (o':Oper) (d' l:Nat),ops[j]?=some o->qxg mf o.op->o.dst=some d->ops[j']?=some o'->qxg mf o'.op->o'.dst=some d' ->
  qfy ((T 0).1.get (N+d)) l->qfy ((T 0).1.get (N+d')) l->d=d'
theorem drawn (hid:Ties P ids fid) (hC:CSound P fid C) {un:Nat->List Nat} {full:List I} (hc:cIs P ids N true ops un 0 ops.toList=some full) (hsF:Stat ops full A) (hpre : ∀ (k:Nat) (I:Pm.I),is[k]?=some I->full[k]?=some I) (hpre' : ∀ (k:Nat) (I:Pm.I),k<is.length->full[k]?=some I->is[k]?=some I) (ht:Trace C is T val es)
  (hm:is.length=full.length\/(is.length<full.length/\(∀ i,is.length<i->i<full.length->A is.length i) /\ ∃ J u σP,full[is.length]?=some J/\qaQ (T is.length).1 J.guard=some true/\qbk C (T is.length).1 (T is.length).2 J.op=some (u,σP)/\J.op.chain=true /\
   ∀ Γ' a' x,Γ'.σ = σP->Real fid Γ'->Step Γ00 Γ'->a'.tmps.size=N->a'.defers=ds->Rep fid Γ' u x->Q (.panic [{ v:=x,recovered:=false }]) a' Γ'.w))
  (hca:qlT is T es) (hh:Held Γ00 is ops P ids.mf N T)
  (hk:is.length=full.length -> ∀ Γ' a',Γ'.σ = (T is.length).2->Real fid Γ'->Step Γ00 Γ'->FrRep fid Γ' N (T is.length).1 a'.tmps->a'.defers=ds->Q .normal a' Γ'.w) :
  ∀ (fuel:Nat) (listed:Array Bool) (a:Act) (Γ : Ctx) (fr:Fr),listed.size=ops.size->(∀ i,listed.getD i false=true->i<is.length)->(listed.toList.filter (· == false)).length=fuel ->
   SInv fid Γ00 Γ is T val A fr (fun i=>listed.getD i false=true)->FrRep fid Γ N fr a.tmps->a.defers=ds ->
   wpAnyIn (FR ro) 0 P .any ops Q fuel listed a Γ.w:=by
 have hlen:=(qdz hc).1
 have hs:=hsF.pre hpre
 have hsub:is.length<=full.length:=by rcases hm with h|h<;>omega
 have hfl:full.length=ops.size:=by rw[hlen]; simp
 have hgetF : ∀ (k:Nat) (o:Oper),ops[k]?=some o -> ∃ i,full[k]?=some i/\cI P ids N true ops un k o=some i:=fun k o ho=>by
  have:=(qdz hc).2 k o (by simpa using ho)
  simpa using this
 have hget : ∀ (k:Nat) (o:Oper),k<is.length->ops[k]?=some o -> ∃ i,is[k]?=some i/\cI P ids N true ops un k o=some i:=fun k o hk ho=>by grind
 have fin : ∀ (listed:Array Bool) (a:Act) (Γ : Ctx) (fr:Fr),listed.size=ops.size->(∀ i,listed.getD i false=true->i<is.length)->SInv fid Γ00 Γ is T val A fr (fun i=>listed.getD i false=true)->FrRep fid Γ N fr a.tmps->a.defers=ds ->
   Region.ready .any ops listed=[]->Q .normal a Γ.w:=by
  intro listed a Γ fr hsz hin hi hf hd hr
  have all : ∀ j,j<ops.size->listed.getD j false=true:=fun j=>by
   induction j using Nat.strongRecOn with
   |_ j ih=>
    intro hj
    cases hl:listed.getD j false with
    |true=>rfl
    |false=>
     exfalso
     have:j∈Region.ready .any ops listed:=by
      rw[mem_ready]
      have hjs:j<listed.size:=by omega
      refine⟨?_,ops[j],by simp[hj],fun e he hb=>?_⟩
      ·simp[Array.getD,hjs] at hl ⊢; exact hl
      ·have h1:=(hs.edge j ops[j] e (by simp[hj]) (by simpa using he) hb).1
       have:=hs.lt _ _ h1
       exact ih e.on this (by omega)
     rw[hr] at this; cases this
  obtain⟨K,hK,hσ,hK1,_⟩:=hi.stage
  have hil:is.length=ops.size:=by grind
  have e1 : Γ.σ = (T is.length).2:=by
   rw[hσ]
   refine (qqQ ht hK (Wg _) fun j J h1 h2 hJ=>?_).symm
   cases hcj:J.op.chain with
   |false=>rfl
   |true=>have:=hK1 j J (all j (by omega)) hJ hcj; omega
  obtain⟨f1,f2⟩:=qiq hs ht is.length (Wg _)
  refine hk (by omega) Γ a e1 hi.real hi.step ⟨hf.1,fun t v htN hv=>hf.2 t v htN ?_⟩ hd
  by_cases hw : ∃ (i:Nat) (I:Pm.I),is[i]?=some I/\I.dst=some t
  ·obtain⟨i,I,hI,hdI⟩:=hw
   have hi':=(Wb.1 hI).1
   rw[hi.fr1 i I t (all i (by omega)) hI hdI,<- hv,f1 i I t hi' hI hdI]
  ·rw[hi.fr2 t (fun i I _ hI hdI=>hw ⟨i,I,hI,hdI⟩),<- hv,f2 t (fun i I _ hI hdI=>hw ⟨i,I,hI,hdI⟩)]
 intro fuel
 induction fuel with
 |zero=>
  intro listed a Γ fr hsz hin hcnt hi hf hd
  have hr:Region.ready .any ops listed=[]:=by
   cases hr:Region.ready .any ops listed with
   |nil=>rfl
   |cons j rest=>
    exfalso
    have hj:j∈Region.ready .any ops listed:=by rw[hr]; simp
    obtain⟨h0,o,ho,_⟩:=mem_ready.1 hj
    have hjs:j<listed.size:=by have:=(WY.1 ho).1; omega
    have hm:listed[j]∈listed.toList.filter (· == false):=by
     rw[List.mem_filter]
     refine⟨by simp,?_⟩
     simp[Array.getD,hjs] at h0
     simp[h0]
    rw[WL hcnt] at hm
    cases hm
  exact⟨hr,fin listed a Γ fr hsz hin hi hf hd hr⟩
 |succ fuel ih=>
  intro listed a Γ fr hsz hin hcnt hi hf hd
  refine⟨fin listed a Γ fr hsz hin hi hf hd,fun j hj=>?_⟩
  obtain⟨h0,o,ho,hready⟩:=mem_ready.1 hj
  have hjo:j<ops.size:=(WY.1 ho).1
  have hjs:j<listed.size:=by omega
  have hE : ¬ listed.getD j false=true:=by
   simp[Array.getD,hjs] at h0 ⊢; exact h0
  have hA : ∀ i,A i j->listed.getD i false=true:=fun i hij=>by
   obtain⟨e,he,hb,hor⟩:=hs.back j o i ho hij
   have:=hready e (by simpa using he) hb
   rcases hor with rfl|hor
   ·exact this
   ·exact hi.down i e.on this hor
  rcases Yn j is.length with hjl|hjl
  rotate_left
  ·rcases hm with hm|⟨hm1,hm2,JP,u,σP,hJP,hwP,hrunP,hchP,hkP⟩
   ·omega
   ·by_cases hjm:j=is.length
    ·obtain⟨J,hJ,hcI⟩:=hgetF j o ho
     rw[hjm,hJP] at hJ; cases hJ
     obtain⟨k1,k2,k3,k4⟩:=qb5 hcI
     obtain⟨r1,_,r3⟩:=qnO hsF hpre hpre' ht hca hi (j:=j) (by omega) (by rw[hjm]; exact hJP) hE hA
     have hwcong:qaQ fr JP.guard=qaQ (T j).1 JP.guard:=by grind [qaQ,I.looks]
     unfold wpOpIn
     simp only[ho]
     rw[qbH (ops:=ops) hf k4 (by rw[hwcong,hjm]; exact hwP)]
     simp only[if_true]
     have hop:cOp P ids N o.op=some JP.op:=by
      rcases qdY k1 with ⟨d,e1,e2,e3,e4⟩|⟨hop,hnf⟩
      ·rw[e4] at hchP; cases hchP
      ·exact hop
     refine qkA hid hC hop hi.real hf (v:=u) (σ' := σP) ?_ fun Γ' x f1 f2 f3 f4=>hkP Γ' a x f1 f2 (hi.step.trans f3) hf.1 hd f4
     rw[r3 hchP,qmS (fr:=fr) (fr':=(T j).1) (fun t ht'=>r1 t (by simp[I.looks,ht'])),hjm]
     exact hrunP
    ·grind
  obtain⟨J,hJ,hcI⟩:=hget j o hjl ho
  obtain⟨k1,k2,k3,k4⟩:=qb5 hcI
  obtain⟨r1,r2,_⟩:=qnO hsF hpre hpre' ht hca hi (by omega) (hpre _ _ hJ) hE hA
  have r2:=r2 hjl
  have hwcong:qaQ fr J.guard=qaQ (T j).1 J.guard:=by grind [qaQ,I.looks]
  have hsz':(listed.setIfInBounds j true).size=ops.size:=by simpa using hsz
  have hcnt':((listed.setIfInBounds j true).toList.filter (· == false)).length=fuel:=by
   have hlj:listed.toList[j]?=some false:=by
    simp[Array.getD,hjs] at h0
    simp[hjs,h0]
   have gen : ∀ (l:List Bool) (j:Nat),l[j]?=some false->((l.set j true).filter (· == false)).length+1=(l.filter (· == false)).length:=by
    intro l
    induction l with
    |nil=>intro j h; simp at h
    |cons b l ih'=>
     intro j h
     cases j with
     |zero=>simp at h; subst h; simp
     |succ j=>
      have:=ih' j (by simpa using h)
      cases b<;>simp_all
   have:=gen listed.toList j hlj
   rw[Array.toList_setIfInBounds]
   omega
  have hin' : ∀ i,(listed.setIfInBounds j true).getD i false=true->i<is.length:=fun i h=>by
   by_cases e:i=j
   ·omega
   ·rw[getD_set_ne false (Yb e)] at h; exact hin i h
  have hE' : ∀ i,(listed.setIfInBounds j true).getD i false=true↔(listed.getD i false=true\/i=j):=fun i=>by
   by_cases e:i=j
   ·subst e; simp[Array.getD,hjs]
   ·rw[getD_set_ne false (Yb e)]; simp[e]
  have go : ∀ (Γ':Ctx) (x:Value),Real fid Γ'->Step Γ00 Γ'->Ext Γ Γ'->Rep fid Γ' (val j) x ->
    (J.op.chain=true->qaQ (T j).1 J.guard=some true -> Γ'.σ = (T (j+1)).2)->((J.op.chain=false\/qaQ (T j).1 J.guard=some false) -> Γ'.σ = Γ.σ) ->
    (∀ (i:Nat) (I:Pm.I) (k l:Nat),is[i]?=some I->I.op = .fill k->i≠j->listed.getD i false≠true->qfy ((T 0).1.get k) l -> Γ'.μ l=none) ->
    wpAnyIn (FR ro) 0 P .any ops Q fuel (listed.setIfInBounds j true) (a.put o.dst x) Γ'.w:=by
   intro Γ' x g1 g2 g3 g4 g5 g6 g7
   refine ih _ _ Γ' (fr.put J.dst (val j)) hsz' hin' hcnt' ?_ (k2 ▸ FrRep.put (a:=a) (dst:=J.dst) (hf.ext g3) (by rw[k2]; exact k3) g4) (by cases o.dst<;>exact hd)
   obtain⟨K,hK,hσ,hK1,hK2⟩:=hi.stage
   refine⟨g1,g2,?_,fun i I t hEi hI hdI=>?_,fun t hn=>?_,fun i I k l hI hfill hEi hl=>?_,fun i i' hEi hAi=>?_⟩
   ·-- the stage
    by_cases hcj:J.op.chain=true
    ·by_cases hw:qaQ (T j).1 J.guard=some true
     ·refine⟨j+1,by have:=(Wb.1 hJ).1; omega,g5 hcj hw,fun i I hEi hI hci=>?_,fun i I hlt hI hci=>?_⟩
      ·grind
      ·rw[hE']
       by_cases e:i=j
       ·exact .inr e
       ·rcases hs.chn i j I J hI hJ e hci hcj with h|h
        ·exact .inl (hA i h)
        ·have:=hs.lt j i h; omega
     ·-- an operation that was not wanted
      have hwf:qaQ (T j).1 J.guard=some false:=by
       obtain⟨h|h,_⟩:=ht.step j J hJ
       ·exact absurd h.1 hw
       ·exact h.1
      have hTj:(T (j+1)).2=(T j).2:=by
       obtain⟨h|h,_⟩:=ht.step j J hJ
       ·exact absurd h.1 hw
       ·exact h.2.2.1
      have hKj:K<=j:=by grind
      refine⟨j+1,by have:=(Wb.1 hJ).1; omega,?_,fun i I hEi hI hci=>?_,fun i I hlt hI hci=>?_⟩
      ·grind
      ·grind
      ·rw[hE']
       by_cases e:i=j
       ·exact .inr e
       ·rcases hs.chn i j I J hI hJ e hci hcj with h|h
        ·exact .inl (hA i h)
        ·have:=hs.lt j i h; omega
    ·grind
   ·rcases (hE' i).1 hEi with h|rfl
    ·have hne:i≠j:=fun e=>hE (e ▸ h)
     have h1:=hi.fr1 i I t h hI hdI
     have h2:J.dst≠some t:=hs.uniq i j I J t hI hJ hne hdI
     cases hdj:J.dst with
     |none=>simpa [Fr.put,hdj] using h1
     |some d=>
      have:d≠t:=fun e=>h2 (by rw[hdj,e])
      simp only[Fr.put,Fr.get,if_neg this]; exact h1
    ·grind [Fr.put,Fr.get]
   ·have hJn:=hn j J ((hE' j).2 (.inr rfl)) hJ
    have h1:=hi.fr2 t (fun i I hEi hI=>hn i I ((hE' i).2 (.inl hEi)) hI)
    cases hdj:J.dst with
    |none=>simpa [Fr.put,hdj] using h1
    |some d=>
     have:d≠t:=fun e=>hJn (by rw[hdj,e])
     simp only[Fr.put,Fr.get,if_neg this]; exact h1
   ·grind
   ·rcases (hE' i').1 hEi with h|rfl
    ·exact (hE' i).2 (.inl (hi.down i i' h hAi))
    ·exact (hE' i).2 (.inl (hA i hAi))
  have hplace : ∀ (i:Nat) (I:Pm.I) (k l:Nat),is[i]?=some I->I.op = .fill k->qfy ((T 0).1.get k) l->l < Γ.σ.length /\ Γ00.σ.length<=l:=fun i I k l hI hfill hl=>by
   have hil:=(Wb.1 hI).1
   obtain⟨o',ho'⟩ : ∃ o',ops[i]?=some o':=⟨ops[i]'(by omega),by simp⟩
   obtain⟨I',hI',hcI'⟩:=hget i o' hil ho'
   rw[hI] at hI'; cases hI'
   obtain⟨q1,_⟩:=qb5 hcI'
   rcases qdY q1 with ⟨d,e1,e2,_,e3⟩|⟨_,e⟩
   ·rw[hfill] at e3; cases e3
    obtain⟨l',u,ob,m1,m2,m0,m3⟩:=hh.at_ i o' d ho' e1 e2
    have hll:l=l':=m0.place (by rw[<- m1]; exact hl)
    subst hll
    obtain⟨K,hK,hσ,_⟩:=hi.stage
    have:=qnN ht (YC K) hK
    have h3:=(Wb.1 m3).1
    exact⟨by rw[hσ]; omega,m2⟩
   ·rw[hfill] at e; cases e
  unfold wpOpIn
  simp only[ho]
  obtain⟨hst,hfr⟩:=ht.step j J hJ
  rcases hst with ⟨hw,hrun,hev⟩|⟨hw,hval,hσj,_⟩
  ·rw[qbH (ops:=ops) hf k4 (by rw[hwcong]; exact hw)]
   simp only[if_true]
   obtain⟨σ2,hrun2,hch,hnc⟩:=r2 _ _ hrun (fun _=>hev) hw
   rcases qdY k1 with ⟨d,e1,e2,e3,e4⟩|⟨hop,hnf⟩
   ·-- a qa6 allocation
    obtain⟨l,u,ob,m1,m2,m3,m4⟩:=hh.at_ j o d ho e1 e2
    have hjl:=(Wb.1 hJ).1
    have hkey:(T j).1.get (N+d)=(T 0).1.get (N+d):=(qiq hs ht j (by omega)).2 (N+d) (fun i I hlt hI hdI=>by
     have hio:i<ops.size:=Nat.lt_trans hlt hjo
     obtain⟨o',ho'⟩ : ∃ o',ops[i]?=some o':=⟨ops[i],by simp[hio]⟩
     obtain⟨I',hI',hcI'⟩:=hget i o' (Wb.1 hI).1 ho'
     rw[hI] at hI'; cases hI'
     obtain⟨_,q2,q3,_⟩:=qb5 hcI'
     exact absurd (q3 (N+d) (by rw[<- q2]; exact hdI)) (Nat.not_lt_of_le (Nat.le_add_right N d)))
    have hval:val j=u:=by rcases m3 with ⟨t,z,_,_,rfl,rfl⟩|⟨t,_,_,rfl,rfl⟩<;>grind [qar]
    have hnot : Γ.μ l=none:=hi.hole j J (N+d) l hJ e4 hE (by rw[m1]; exact m3.placed)
    have hobj : Γ.σ[l]?=some ob:=by
     obtain⟨K,hK,hσ,hK1,hK2⟩:=hi.stage
     rw[hσ,<- m4]
     have hesj:es[j]?=some (.read l):=by
      rw[hev,e4]; rcases m3 with ⟨t,z,_,_,rfl,_⟩|⟨t,_,_,rfl,_⟩<;>simp only[qck,hkey,m1,qcM]
     have hal:=(hca j J l hJ hesj).resolve_right (fun ⟨_,_,_,_,e,_⟩=>by rw[e4] at e; cases e)
     refine qsr ht (YC K) hK fun i I _ h2 hI hci=>?_
     have hne:i≠j:=fun e=>by subst e; rw[hJ] at hI; cases hI; rw[e4] at hci; cases hci
     have hun:i∈J.un:=by
      rcases hs.fl i j I J hI hJ hne hci (by rw[e4]; rfl) with h|h
      ·exact absurd (hi.down j i (hK2 i I h2 hI hci) h) hE
      ·exact h
     have h3:=(Wb.1 m4).1
     exact⟨W3 h3 (qnN ht (YC i) (by omega)),fun n L' h=>(qcu hal i hun n L' h).1⟩
    obtain⟨obj,y,hrun,hob,hrep⟩ : ∃ obj y,(execOp a.eval o).run P Γ.w = .ok (.value y) (Γ.w.alloc obj)/\(∀ Γ':Ctx,Γ'.F Γ.w.heap.size=0 -> Γ'.w = Γ.w.alloc obj->RepOb fid Γ' Γ.w.heap.size ob) /\
      (∀ Γ':Ctx,Γ'.μ l=some Γ.w.heap.size -> Γ'.fix l->Rep fid Γ' u y):=by
     rcases m3 with ⟨t,z,e1',m3,rfl,rfl⟩|⟨t,e1',_,rfl,rfl⟩
     ·refine⟨.cells z.cells t,.pointer (some ⟨Γ.w.heap.size,0,none⟩),?_,fun Γ' hF hw=>?_,fun Γ' hm hf=>?_⟩
      ·simp only[execOp,e1',Instr.alloc,newVar,newRow]
       simp[qaZ m3]
      ·simp only[RepOb]
       exact⟨hF,z.cells,t,by rw[hw]; exact qav _ _,Reps_dat.2 (qaS (qbh m3))⟩
      ·simp only[Rep]
       exact⟨Γ.w.heap.size,hm,rfl,hf⟩
     ·refine⟨.map #[] 0,.map (some Γ.w.heap.size),?_,fun Γ' hF hw=>?_,fun Γ' hm hf=>?_⟩
      ·simp only[execOp,e1',Instr.makeMap,Yd]
       simp
      ·simp only[RepOb]
       exact⟨hF,#[],0,by rw[hw]; exact qav _ _,rfl⟩
      ·simp only[Rep]
       exact⟨Γ.w.heap.size,hm,rfl,hf⟩
    have hotip:ob.isTip=false:=by rcases m3 with ⟨_,_,_,_,_,rfl⟩|⟨_,_,_,_,rfl⟩<;>rfl
    obtain⟨u1,u2,u3⟩:=qtW hi.real l _ obj hobj hnot (fun Γ' e hx=>by
     subst e
     exact hob _ (by simp[grow]) rfl)
    refine qm8 (x:=y) (w' := Γ.w.alloc obj) (fun _=>trivial) (by rcases m3 with ⟨_,_,e,_⟩|⟨_,e,_⟩<;>simp[e]) hrun ?_
    ·refine go _ y u1 ⟨hi.step.ext.trans u2,Frm.trans hi.step.ext.size hi.step.frm u3,fun l' hl' hn'=>?_⟩ u2 ?_ (fun h=>by rw[e4] at h; cases h) (fun _=>rfl) (fun i I k l' hI hfill hne hEi hl'=>?_)
     ·simp only[bind]
      rw[if_neg (by omega)]
      exact hi.step.non l' hl' hn'
     ·rw[hval]
      exact hrep _ (by simp[bind]) ⟨_,hobj,hotip⟩
     ·simp only[bind]
      have:l'≠l:=fun e=>by
       subst e
       have hil:=(Wb.1 hI).1
       obtain⟨o',ho'⟩ : ∃ o',ops[i]?=some o':=⟨ops[i]'(by omega),by simp⟩
       obtain⟨I',hI',hcI'⟩:=hget i o' hil ho'
       rw[hI] at hI'; cases hI'
       obtain⟨q1,q2,_⟩:=qb5 hcI'
       rcases qdY q1 with ⟨d',e1',e2',_,e3'⟩|⟨_,e'⟩
       ·rw[hfill] at e3'; cases e3'
        have hdd:=hh.one j o d i o' d' _ ho e1 e2 ho' e1' e2' (by rw[m1]; exact m3.placed) hl'
        subst hdd
        exact hs.uniq i j I J d hI hJ hne (by rw[q2,e2']) (by rw[k2,e2])
       ·rw[hfill] at e'; cases e'
      rw[if_neg this]
      exact hi.hole i I k l' hI hfill hEi hl'
   ·refine qjM hid hC hop hi.real hf hrun2 fun Γ' x f1 f2 f3 f4=>?_
    refine go Γ' x f2 (hi.step.trans f3) f3.ext f4 (fun h _=>by rw[f1,hch h]) (fun h=>?_) (fun i I k l hI hfill hne hEi hl=>?_)
    ·rcases h with h|h
     ·rw[f1,hnc h]
     ·rw[hw] at h; cases h
    ·obtain⟨p1,_⟩:=hplace i I k l hI hfill hl
     exact f3.non l p1 (hi.hole i I k l hI hfill hEi hl)
  ·rw[qbH (ops:=ops) hf k4 (by rw[hwcong]; exact hw)]
   simp only[Wz,if_false]
   refine⟨fun _ _=>trivial,go Γ undef hi.real hi.step (.refl _) (by rw[hval]; exact qie) (fun _ h=>by rw[hw] at h; cases h) (fun _=>rfl) (fun i I k l hI hfill hne hEi hl=>hi.hole i I k l hI hfill hEi hl)⟩
end
end
section
variable{P:Program}{ids:Ids}{fid:Fid}
def qcg(fid:Fid)(Γ : Ctx):Ex->Exit->Prop
 |.normal,e=>e = .normal
 |.exit id,e=>e = .exit id
 |.ret,e=>e = .ret
 |.pan v,e => ∃ x,e = .panic [{ v:=x,recovered:=false }]/\Rep fid Γ v x
def qwh(fid:Fid)(N:Nat)(fl df:Bool)(Γ0:Ctx)(ds0:List Deferred)(e:Ex)(fr':Fr)(σ':S)(Q:Exit->Act->World->Prop):Prop:=
 ∀ Γ' a' ex,Γ'.σ = σ'->At fid N fl df Γ0 ds0 fr' Γ' a'->qcg fid Γ' e ex->Q ex a' Γ'.w
abbrev Ids.with(ids:Ids)(ow d:Bool):Ids:={ ids with own:=ow,df:=d }
def qtZ(P:Program)(ids:Ids)(fid:Fid)(k:Nat)(b:PC)(fr:Fr)(σ : S)(e:Ex)(fr':Fr)(σ':S):Prop:=
 ∃ m,∀ (N:Nat) (K:Nat->List Nat) (ow d:Bool) (c:Code) (ro:Option Nat) (fl:Bool),comp P (ids.with ow d) N K c=some b->2*N<=dkey->(ro.isSome=true->fl=true)->(fl=true->b.flat=true) -> ∀ (Γ0:Ctx) (ds0:List Deferred) (Γ : Ctx) (a:Act) (Q:Exit->Act->World->Prop),
  Γ0.σ.length=k -> Γ.σ = σ -> At fid N fl d Γ0 ds0 fr Γ a->qwh fid N fl d Γ0 ds0 e fr' σ' Q->Code.roundsIn (FR ro) 0 P c Q m a Γ.w
def LSound(P:Program)(ids:Ids)(fid:Fid)(C:Task->Option Res):Prop := ∀ k b fr σ e fr' σ',C (.loop k b fr σ)=some (.out e fr' σ')->qtZ P ids fid k b fr σ e fr' σ'
def Codes(P:Program)(ids:Ids)(fid:Fid):Prop := ∀ N c pc,fid.cr N c pc↔2*N<=dkey /\ ∃ K ow d,comp P (ids.with ow d) N K c=some pc
theorem Ties.with(h:Ties P ids fid)(ow d:Bool):Ties P (ids.with ow d) fid:=⟨h.fn,h.ty,h.mt,h.gl⟩
theorem Codes.with(h:Codes P ids fid)(ow d:Bool):Codes P (ids.with ow d) fid:=h
theorem LSound.with{C:Task->Option Res}(h:LSound P ids fid C)(ow d:Bool):LSound P (ids.with ow d) fid C:=h
theorem qca{fr:Fr}{k:Nat} : ∀ {ks:List Nat},k∈ks->(fr.keep ks).get k=fr.get k
 |[],h=>by cases h
 |j::ks,h=>by
  simp only[Fr.keep]
  by_cases e:j=k
  ·subst e
   cases hg:fr.get j with
   |none=>
    simp only
    by_cases hm:j∈ks
    ·rw[qca hm,hg]
    ·cases hk:(fr.keep ks).get j with
     |none=>rfl
     |some v=>have:=Fr.get_keep hk; rw[hg] at this; cases this
   |some v=>simp[Fr.get]
  ·have hm:k∈ks:=by
    rcases Wq.1 h with rfl|h
    ·exact absurd rfl e
    ·exact h
   cases hg:fr.get j with
   |none=>simp only; exact qca hm
   |some v=>simp only[Fr.get,if_neg e]; exact qca hm
theorem At.keep{N:Nat}{fl:Bool}{Γ0 Γ : Ctx}{ds0:List Deferred}{fr:Fr}{a:Act}(hat:At fid N fl ids.df Γ0 ds0 fr Γ a)(K:Nat->List Nat)(id:Nat):At fid N fl ids.df Γ0 ds0 (fr.keep (ql1 ids K id)) Γ a:=by
 have e:(fr.keep (ql1 ids K id)).get dkey=fr.get dkey:=by
  cases hd:ids.df with
  |true=>exact qca (by simp[ql1,hd])
  |false=>
   rw[hat.nod hd]
   cases hk:(fr.keep (ql1 ids K id)).get dkey with
   |none=>rfl
   |some v=>have:=Fr.get_keep hk; rw[hat.nod hd] at this; cases this
 exact⟨hat.real,hat.step,by simp only[Fr.defs,e]; exact hat.marks,hat.frame.keep _,hat.still,fun h=>by rw[e]; exact hat.nod h⟩
theorem qdm{t:Nat} : ∀ {rs:List (Nat × List D)} {base:Nat} {fr:Fr},(∀ p∈rs,p.1≠t)->(qaU base rs fr).get t=fr.get t
 |[],base,fr,_=>rfl
 | (k,z)::rs,base,fr,h=>by
  simp only[qaU]
  rw[qdm fun p hp=>h p (WH _ hp)]
  simp only[Fr.get]
  rw[if_neg (h (k,z) (by simp))]
theorem qcR{mf:Bool}{N:Nat} : ∀ {l:List Oper} {rs:List (Nat × List D)},qa6 P N mf l=some rs -> ∀ p∈rs,∃ o∈l,∃ d,o.dst=some d/\p.1=N+d
 |[],rs,h,p,hp=>by simp only[qa6,Wd] at h; subst h; cases hp
 |o::l,rs,h,p,hp=>by
  have rest : ∀ {rs'},qa6 P N mf l=some rs'->p∈rs' -> ∃ o'∈o::l,∃ d,o'.dst=some d/\p.1=N+d:=fun h hp=>by
   obtain⟨o',h1,h2⟩:=qcR h p hp
   exact⟨o',WH _ h1,h2⟩
  simp only[qa6] at h
  split at h
  ·rename_i t d ho hd
   split at h
   ·rename_i z rs' hz hrs
    cases h
    rcases Wq.1 hp with rfl|hp
    ·exact⟨o,by simp,d,hd,rfl⟩
    ·exact rest hrs hp
   ·cases h
  ·rename_i t d ho hd
   split at h
   ·split at h
    ·rename_i rs' hrs
     cases h
     rcases Wq.1 hp with rfl|hp
     ·exact⟨o,by simp,d,hd,rfl⟩
     ·exact rest hrs hp
    ·cases h
   ·exact rest h hp
  ·exact rest h hp
def atV(z:List D)(l:Nat):V:=if qdw z then .mp l else .ptr l 0
def atO(z:List D):Ob:=if qdw z then .map [] else .cells (z.map .dat)
theorem qh5{z:Value}:qdw (qaz z)=false:=by
 unfold qaz
 cases z.cells.toList with
 |nil=>rfl
 |cons x xs=>rfl
theorem qln{mf:Bool}{N d:Nat} : ∀ {l:List Oper} {rs:List (Nat × List D)},qa6 P N mf l=some rs->(∀ o'∈l,o'.dst≠some d) -> ∀ (base:Nat) (fr:Fr),(qaU base rs fr).get (N+d)=fr.get (N+d):=fun {l rs} h hn base fr=>
 qdm fun p hp e=>by
  obtain⟨o,ho,d',hd,hk⟩:=qcR h p hp
  rw[hk] at e
  have:d'=d:=Nat.add_left_cancel e
  subst this
  exact hn o ho hd
theorem qlo{mf:Bool}{N:Nat}{l:List Oper}{rs:List (Nat × List D)}(h:qa6 P N mf l=some rs)(base:Nat)(fr:Fr)(t:Nat)(ht:t<N):(qaU base rs fr).get t=fr.get t:=
 qdm fun p hp e=>by
  obtain⟨o,ho,d',hd,hk⟩:=qcR h p hp
  omega
theorem qea {mf:Bool} {N:Nat} : ∀ {l:List Oper} {rs:List (Nat × List D)},qa6 P N mf l=some rs -> ∀ (base:Nat) (fr:Fr) (j:Nat) (o:Oper) (d:Nat),l[j]?=some o->qxg mf o.op->o.dst=some d->(∀ i (o':Oper),l[i]?=some o'->o'.dst=some d->i=j) ->
   ∃ q z,(qaU base rs fr).get (N+d)=some (atV z (base+q))/\Makes P mf o.op (atV z (base+q)) (base+q) (atO z)/\rs[q]?=some (N+d,z)
 |[],rs,h,base,fr,j,o,d,hj,_,_,_=>by simp at hj
 |o::l,rs,h,base,fr,j,o',d',hj,hal,hd',hu=>by
  have hu' : ∀ {i o2},l[i]?=some o2->o2.dst=some d'->i+1=j:=fun hi hd2=>hu _ _ (by simpa using hi) hd2
  have later : ∀ {rs':List (Nat × List D)} {k:Nat} {z':List D},qa6 P N mf l=some rs' -> ∀ j',j=j'+1 -> ∃ q z,(qaU (base+1) rs' ((k,atV z' base)::fr)).get (N+d')=some (atV z (base+q))/\Makes P mf o'.op (atV z (base+q)) (base+q) (atO z)/\((k,z')::rs')[q]?=some (N+d',z):=fun {rs' k z'} hrs j' e=>by
   subst e
   obtain⟨q,z,g1,g2,g3⟩:=qea hrs (base+1) ((k,atV z' base)::fr) j' o' d' (by simpa using hj) hal hd' (fun i o2 hi hd2=>by have:=hu' hi hd2; omega)
   have e1:base+1+q=base+(q+1):=by omega
   rw[e1] at g1 g2
   exact⟨q+1,z,g1,g2,by simpa using g3⟩
  have skip : ∀ {rs':List (Nat × List D)},qa6 P N mf l=some rs' -> ∀ j',j=j'+1 -> ∃ q z,(qaU base rs' fr).get (N+d')=some (atV z (base+q))/\Makes P mf o'.op (atV z (base+q)) (base+q) (atO z)/\rs'[q]?=some (N+d',z):=fun {rs'} hrs j' e=>by
   subst e
   exact qea hrs base fr j' o' d' (by simpa using hj) hal hd' (fun i o2 hi hd2=>by have:=hu' hi hd2; omega)
  have here : ∀ {rs':List (Nat × List D)} {z:List D},qa6 P N mf l=some rs'->j=0->(qaU (base+1) rs' ((N+d',atV z base)::fr)).get (N+d')=some (atV z (base+0)):=fun {rs' z} hrs e=>by
   rw[qln hrs (fun o2 ho2 hd2=>by
    obtain⟨i,hi⟩:=List.getElem?_of_mem ho2
    have:=hu' hi hd2
    omega)]
   simp[Fr.get]
  simp only[qa6] at h
  split at h
  ·rename_i t d ho hd
   split at h
   ·rename_i z rs' hz hrs
    cases h
    simp only[qaU]
    cases j with
    |zero=>
     simp at hj; subst hj
     rw[hd] at hd'; cases hd'
     refine⟨0,qaz z,here hrs rfl,.inl ⟨t,z,ho,hz,by simp[atV,qh5],by simp[atO,qh5]⟩,rfl⟩
    |succ j=>exact later hrs j rfl
   ·cases h
  ·rename_i t d ho hd
   split at h
   ·rename_i hmf
    split at h
    ·rename_i rs' hrs
     cases h
     simp only[qaU]
     cases j with
     |zero=>
      simp at hj; subst hj
      rw[hd] at hd'; cases hd'
      exact⟨0,[.agg []],here hrs rfl,.inr ⟨t,ho,hmf,rfl,rfl⟩,rfl⟩
     |succ j=>exact later hrs j rfl
    ·cases h
   ·rename_i hmf
    cases j with
    |zero=>
     simp at hj; subst hj
     obtain⟨t',h'|⟨h',h''⟩⟩:=hal
     ·rw[ho] at h'; cases h'
     ·exact absurd h'' hmf
    |succ j=>exact skip h j rfl
  ·rename_i hno hno2
   cases j with
   |zero=>
    simp at hj; subst hj
    obtain⟨t',h'|⟨h',h''⟩⟩:=hal
    ·exact absurd hd' (hno t' d' h')
    ·exact absurd hd' (hno2 t' d' h')
   |succ j=>exact skip h j rfl
theorem qgZ : ∀ {rs:List (Nat × List D)} {q k:Nat} {z:List D},rs[q]?=some (k,z)->(qbq rs)[q]?=some (atO z)
 |[],q,k,z,h=>by simp at h
 | (k',z')::rs,0,k,z,h=>by simp at h; obtain⟨rfl,rfl⟩:=h; rfl
 | (k',z')::rs,q+1,k,z,h=>by simpa [qbq] using qgZ (rs:=rs) (by simpa using h)
theorem qf8 (hid:Ties P ids fid) {C:Task->Option Res} (hC:CSound P fid C) (hm:P.follows .mixedOrders=true) {N:Nat} {ro:Option Nat} {Q:Exit->Act->World->Prop} {ops:Array Oper} {un:Nat->List Nat} {as:List (List Nat)} {id:Nat} {full is:List I}
  {rs:List (Nat × List D)} {fr:Fr} {es:List Ev} {Γ : Ctx} {a:Act} (hc:cIs P ids N true ops un 0 ops.toList=some full) (hrs:qa6 P N ids.mf ops.toList=some rs) (hdr:qjx ops full as=true) (hr:Real fid Γ) (hf:FrRep fid Γ N fr a.tmps)
  {m:Nat} (his:is=full.take m) {T:Nat->Fr × S} {val:Nat->V} (t0:T 0=(qaU Γ.σ.length rs fr,Γ.σ ++ qbq rs)) (ht:Trace C is T val es) (hcalm:qlT is T es)
  (hend:is.length=full.length\/(is.length<full.length/\(∀ i,is.length<i->i<full.length->is.length∈as.getD i []) /\ ∃ J u σP,full[is.length]?=some J/\qaQ (T is.length).1 J.guard=some true/\qbk C (T is.length).1 (T is.length).2 J.op=some (u,σP)/\J.op.chain=true /\
   ∀ Γ' a' x,Γ'.σ = σP->Real fid Γ'->Step Γ Γ'->a'.tmps.size=N->a'.defers=a.defers->Rep fid Γ' u x->Q (.panic [{ v:=x,recovered:=false }]) a' Γ'.w))
  (hk:is.length=full.length -> ∀ Γ' a',Γ'.σ = (T is.length).2->Real fid Γ'->Step Γ Γ'->FrRep fid Γ' N (T is.length).1 a'.tmps->a'.defers=a.defers->Q .normal a' Γ'.w) :
  (Code.region id ops true).wpIn (FR ro) 0 P Q a Γ.w:=by
 have hil:full.length=ops.size:=by rw[(qdz hc).1]; simp
 have hs:=qqP hil hdr
 have hpre : ∀ (k:Nat) (I:Pm.I),is[k]?=some I->full[k]?=some I:=fun k I h=>by
  rw[his,WN] at h
  split at h
  ·exact h
  ·cases h
 have hpre' : ∀ (k:Nat) (I:Pm.I),k<is.length->full[k]?=some I->is[k]?=some I:=fun k I hk h=>by
  rw[his,WR] at hk
  rw[his,Yp (by omega)]; exact h
 have q1:=qlo hrs Γ.σ.length fr
 have q2:=qea hrs Γ.σ.length fr
 have hget : ∀ (k:Nat) (o:Oper),ops[k]?=some o -> ∃ i,full[k]?=some i/\cI P ids N true ops un k o=some i:=fun k o ho=>by
  have:=(qdz hc).2 k o (by simpa using ho)
  simpa using this
 refine wpIn_region_any hm ?_
 let Γ0:Ctx:=⟨Γ.σ ++ qbq rs,Γ.μ,Γ.F,Γ.w.drew⟩
 have hleft : ∀ l ob,Γ.σ[l]?=some ob->(Γ.σ ++ qbq rs)[l]?=some ob:=fun l ob h=>by
  rw[Wo (Wb.1 h).1]; exact h
 have hext:Ext Γ Γ0:=⟨Wg _,rfl,rfl,rfl,fun _=>Wg _,fun _ _ _ _ h=>h,fun _ arr _ _ h=>⟨arr,h,rfl⟩,by simp[Γ0],
  fun l ob h ht=>⟨⟨ob,hleft l ob h,ht⟩,fun _ h=>h⟩,fun l m h=>⟨m,hleft l _ h,Wg _,fun h=>h,fun _ _ h=>h⟩,qeQ fun l ob h _ => .inl ⟨hleft l ob h,fun _ hb=>⟨hb,rfl,fun _ _ ha=>ha⟩⟩⟩
 have hreal:Real fid Γ0:=by
  refine⟨fun l ob b h1 h2=>?_,fun l b h=>?_,hr.inj,hr.imm,Glb.ext hext hr.glb⟩
  ·have hd:=hr.dom l b h2
   have h1' : Γ.σ[l]?=some ob:=by
    simp only[Γ0] at h1
    rw[Wo hd.1] at h1; exact h1
   exact RepOb.ext hext rfl rfl ob (hr.obs l ob b h1' h2)
  ·have:=hr.dom l b h
   exact⟨by simp[Γ0]; omega,this.2⟩
 have hstep:Step Γ Γ0:=⟨hext,⟨fun _ _ _=>⟨rfl,rfl⟩,fun l _ h _=>⟨l,h⟩⟩,fun _ _ h=>h⟩
 have huniq : ∀ (i j:Nat) (o o':Oper) (d:Nat),ops[i]?=some o->ops[j]?=some o'->o.dst=some d->o'.dst=some d->i=j:=fun i j o o' d ho ho' hd hd'=>by
  by_cases e:i=j
  ·exact e
  ·obtain⟨I,hI,hcI⟩:=hget i o ho
   obtain⟨J,hJ,hcJ⟩:=hget j o' ho'
   have e1:=(qb5 hcI).2.1
   have e2:=(qb5 hcJ).2.1
   exact absurd (by rw[e2]; exact hd') (hs.uniq i j I J d hI hJ e (by rw[e1]; exact hd))
 have hq : ∀ (j:Nat) (o:Oper) (d:Nat),ops[j]?=some o->qxg ids.mf o.op->o.dst=some d -> ∃ q z,(T 0).1.get (N+d)=some (atV z (Γ.σ.length+q))/\Makes P ids.mf o.op (atV z (Γ.σ.length+q)) (Γ.σ.length+q) (atO z)/\rs[q]?=some (N+d,z):=fun j o d ho hop hd=>by
  rw[t0]
  exact q2 j o d (by simpa using ho) hop hd (fun i o' hi hd'=>huniq i j o' o d (by simpa using hi) ho hd' hd)
 have hheld:Held Γ is ops P ids.mf N T:=by
  refine⟨by rw[t0]; simp,fun j o d ho hop hd=>?_,fun j o d j' o' d' l ho hop hd ho' hop' hd' h1 h2=>?_⟩
  ·obtain⟨q,z,g1,g2,g3⟩:=hq j o d ho hop hd
   refine⟨Γ.σ.length+q,_,_,g1,by omega,g2,?_⟩
   rw[t0]
   simp only
   rw[WC (by omega)]
   simpa using qgZ g3
  ·obtain⟨q,z,g1,g2,g3⟩:=hq j o d ho hop hd
   obtain⟨q',z',g1',g2',g3'⟩:=hq j' o' d' ho' hop' hd'
   rw[g1] at h1; rw[g1'] at h2
   have e1:=g2.place h1
   have e2:=g2'.place h2
   have:q=q':=by omega
   subst this
   rw[g3] at g3'
   simp only[Wd,Wx] at g3'
   exact Nat.add_left_cancel g3'.1
 refine drawn (Γ00 := Γ) (ds:=a.defers) hid hC hc hs hpre hpre' ht ?_ hcalm hheld hk ops.size (Array.replicate ops.size false) a Γ0 (qaU Γ.σ.length rs fr) (by simp) (fun i h=>by simp[Array.getD] at h) (by simp) ?_ ?_ rfl
 ·rcases hend with h|⟨h1,h2,h3⟩
  ·exact .inl h
  ·exact .inr ⟨h1,fun i g1 g2=>⟨by omega,h2 i g1 g2⟩,h3⟩
 ·have hno : ∀ i,¬ (Array.replicate ops.size false).getD i false=true:=fun i=>by simp[Array.getD]
  refine⟨hreal,hstep,⟨0,YC _,by rw[t0],fun i I h=>absurd h (hno i),fun i I h=>by omega⟩,fun i I t h=>absurd h (hno i),fun t _=>by rw[t0],fun j J k l hJ hfill _ hl=>?_,fun i j h=>absurd h (hno j)⟩
  rw[t0] at hl
  have hJ:=hpre _ _ hJ
  obtain⟨o,ho⟩ : ∃ o,ops[j]?=some o:=by
   have:=(Wb.1 hJ).1
   exact⟨ops[j]'(by omega),by simp⟩
  obtain⟨J',hJ',hcJ⟩:=hget j o ho
  rw[hJ] at hJ'; cases hJ'
  rcases qdY (qb5 hcJ).1 with ⟨d,e1,e2,_,e⟩|⟨_,e⟩
  ·rw[hfill] at e; cases e
   obtain⟨q,z,g1,g2,_⟩:=hq j o d ho e1 e2
   rw[t0] at g1
   simp only at g1 hl
   rw[g1] at hl
   have g1:=g2.place hl
   show Γ.μ l=none
   cases hμ : Γ.μ l with
   |none=>rfl
   |some b=>have:=(hr.dom l b hμ).1; omega
  ·rw[hfill] at e; cases e
 ·refine⟨hf.1,fun t v htN hv=>Rep.ext hext _ _ (hf.2 t v htN ?_)⟩
  rw[<- q1 t htN]; exact hv
theorem qou {C:Task->Option Res} {N:Nat} {ops:Array Oper} {un:Nat->List Nat} {full is:List I} {rs:List (Nat × List D)} {as:List (List Nat)} {fr:Fr} {base:Nat} {σ : S} {es:List Ev} (hN:2*N<=dkey) (hc:cIs P ids N true ops un 0 ops.toList=some full) (hrs:qa6 P N ids.mf ops.toList=some rs) (hdr:qjx ops full as=true)
  {m:Nat} (his:is=full.take m) {T:Nat->Fr × S} {val:Nat->V} (t0:T 0=(qaU base rs fr,σ)) (ht:Trace C is T val es):(T is.length).1.get dkey=fr.get dkey:=by
 have hil:full.length=ops.size:=by rw[(qdz hc).1]; simp
 have hs:=qqP hil hdr
 have hpre : ∀ (k:Nat) (I:Pm.I),is[k]?=some I->full[k]?=some I:=fun k I h=>by
  rw[his,WN] at h
  split at h
  ·exact h
  ·cases h
 have hpos:0<dkey:=by decide
 have hdst : ∀ (k:Nat) (o:Oper),ops[k]?=some o -> ∀ d,o.dst=some d->d<N:=fun k o ho d hd=>by
  obtain⟨i,_,hi⟩:=(qdz hc).2 k o (by simpa using ho)
  exact (qb5 hi).2.2.1 d hd
 rw[(qiq (hs.pre hpre) ht is.length (Wg _)).2 dkey fun i I _ hI hd=>?_,t0]
 ·refine qdm fun p hp=>?_
  obtain⟨o,ho,d,h1,h2⟩:=qcR hrs p hp
  obtain⟨k,hk⟩:=List.getElem?_of_mem ho
  have hx:d<N:=hdst k o (by simpa using hk) d h1
  intro e
  rw[h2] at e
  have:N+d<N+N:=Nat.add_lt_add_left hx N
  omega
 ·have hI':=hpre _ _ hI
  have hlt:=(Wb.1 hI').1
  obtain⟨o,ho⟩ : ∃ o,ops[i]?=some o:=⟨ops[i]'(by omega),by simp⟩
  obtain⟨I',h1,h2⟩:=(qdz hc).2 i o (by simpa using ho)
  rw[hI'] at h1; cases h1
  have h3:=(qb5 h2).2.1
  rw[hd] at h3
  have h4:dkey<N:=(qb5 h2).2.2.1 _ h3.symm
  omega
theorem qg0 (hid:Ties P ids fid) {C:Task->Option Res} (hC:CSound P fid C) (hm:P.follows .mixedOrders=true) {N:Nat} (hN:2*N<=dkey) {ro:Option Nat} {fl:Bool} {Γ0:Ctx} {ds0:List Deferred} {Q:Exit->Act->World->Prop} {ops:Array Oper} {un:Nat->List Nat} {as:List (List Nat)} {id:Nat} {is:List I}
  {rs:List (Nat × List D)} {fr fr':Fr} {σ':S} {es:List Ev} {Γ : Ctx} {a:Act} (hc:cIs P ids N true ops un 0 ops.toList=some is) (hrs:qa6 P N ids.mf ops.toList=some rs) (hdr:qjx ops is as=true) (hat:At fid N fl ids.df Γ0 ds0 fr Γ a)
  (h:qbZ C is (qaU Γ.σ.length rs fr) (Γ.σ ++ qbq rs)=some (es,fr',σ')) (hcalm:qot es is 0 es=true \/ ∃ ss,qeP C is (qaU Γ.σ.length rs fr) (Γ.σ ++ qbq rs)=some ss/\qlm es ss is 0 es=true)
  (hk : ∀ Γ' a',Γ'.σ = σ'->At fid N fl ids.df Γ0 ds0 fr' Γ' a'->Q .normal a' Γ'.w) :
  (Code.region id ops true).wpIn (FR ro) 0 P Q a Γ.w:=by
 obtain⟨T,val,t0,tm,ht⟩:=qki h
 have hcalm:qlT is T es:=by
  rcases hcalm with hc|⟨ss,h1,h2⟩
  ·exact qjv hc
  ·exact qmR ht (by rw[t0]; exact h1) h2
 refine qf8 hid hC hm hc hrs hdr hat.real hat.frame (m:=is.length) (Ys).symm t0 ht hcalm (.inl rfl) fun _ Γ' a' g1 g2 g3 g4 g5=>?_
 have hd:=qou hN hc hrs hdr (m:=is.length) (Ys).symm t0 ht
 rw[tm] at g1 g4 hd
 exact hk Γ' a' g1 ⟨g2,hat.step.trans g3,by simp only[Fr.defs,hd]; rw[g5]; exact hat.marks.step g3,g4,fun h=>by rw[g5]; exact hat.still h,fun h=>by rw[hd]; exact hat.nod h⟩
theorem qj0 (hid:Ties P ids fid) {C:Task->Option Res} (hC:CSound P fid C) (hm:P.follows .mixedOrders=true) {N:Nat} (hN:2*N<=dkey) {ro:Option Nat} {fl:Bool} {Γ0:Ctx} {ds0:List Deferred} {Q:Exit->Act->World->Prop} {ops:Array Oper} {un:Nat->List Nat} {as:List (List Nat)} {id:Nat} {is:List I}
  {rs:List (Nat × List D)} {fr:Fr} {σ':S} {es:List Ev} {p:Nat} {u:V} {Γ : Ctx} {a:Act} (hc:cIs P ids N true ops un 0 ops.toList=some is) (hrs:qa6 P N ids.mf ops.toList=some rs) (hdr:qjx ops is as=true) (hat:At fid N fl ids.df Γ0 ds0 fr Γ a)
  (h:qbA C 0 is (qaU Γ.σ.length rs fr) (Γ.σ ++ qbq rs)=some (p,es,u,σ')) (hcalm:qot es (is.take p) 0 es=true) (hlast:p∈qix ops as)
  (hk : ∀ Γ' a' x,Γ'.σ = σ'->At fid N fl ids.df Γ0 ds0 (fr.keep [dkey]) Γ' a'->Rep fid Γ' u x->Q (.panic [{ v:=x,recovered:=false }]) a' Γ'.w) :
  (Code.region id ops true).wpIn (FR ro) 0 P Q a Γ.w:=by
 obtain⟨m,T,val,J,e1,e2,t0,ht,e3,e4⟩:=qip h
 have hpm:p=m:=by omega
 subst hpm
 have hlt:=(Wb.1 e2).1
 have hil:is.length=ops.size:=by rw[(qdz hc).1]; simp
 have hl:(is.take p).length=p:=by simp; omega
 simp only[qix,List.mem_filter,List.mem_range,Wh,Ws,Bool.or_eq_true,decide_eq_true_eq,Yo] at hlast
 obtain⟨_,hcall,hall⟩:=hlast
 have hchain:J.op.chain=true:=by
  obtain⟨o,ho⟩ : ∃ o,ops[p]?=some o:=⟨ops[p]'(by omega),by simp⟩
  obtain⟨J',h1,h2⟩:=(qdz hc).2 p o (by simpa using ho)
  rw[e2] at h1; cases h1
  rw[ho] at hcall
  simp only at hcall
  obtain⟨k1,_⟩:=qb5 h2
  rcases qdY k1 with ⟨d,q1,_⟩|⟨hop,_⟩
  ·obtain⟨t,q1|⟨q1,_⟩⟩:=q1<;>rw[q1] at hcall<;>cases hcall
  ·unfold qta at hcall
   split at hcall
   ·cases hcall
   ·rename_i c hnb ho'
    rw[ho'] at hop
    have e4':=e4
    revert hop e4'
    generalize J.op=jop
    intro hop e4'
    unfold cOp at hop
    split at hop
    rotate_left
    ·cases hop; simp[qbk] at e4'
    rename_i jop' hop'
    cases hop
    have hop:=hop'
    clear hop'
    simp only[qcW,qoN] at hop
    split at hop
    ·split at hop
     ·cases hop; rfl
     ·exfalso
      split at hop
      ·cases hop; simp[qbk] at e4'
      ·cases hop; simp[qbk] at e4'
      ·cases hop
     ·cases hop
    ·split at hop
     ·cases hop; rfl
     ·cases hop
    ·split at hop
     ·cases hop; rfl
     ·cases hop
    ·rename_i b hb
     obtain⟨cal,ar,at'⟩:=c
     simp only at hb
     subst hb
     exact (hnb _ _ _ rfl).elim
   ·cases hcall
 refine qf8 hid hC hm hc hrs hdr hat.real hat.frame (m:=p) rfl t0 ht (qjv hcalm) (.inr ⟨by omega,fun i g1 g2=>?_,J,u,σ',by rw[hl]; exact e2,by rw[hl]; exact e3,by rw[hl]; exact e4,hchain,fun Γ' a' x g1 g2 g3 g4 g5 g6=>?_⟩) (fun h=>by omega)
 ·rw[hl] at g1 ⊢
  rcases hall i (by omega) with h|h
  ·omega
  ·exact h
 ·refine hk Γ' a' x g1 ⟨g2,hat.step.trans g3,?_,⟨g4,fun t v htN hv=>?_⟩,fun h=>by rw[g5]; exact hat.still h,fun h=>?_⟩ g6
  ·have e:(fr.keep [dkey]).get dkey=fr.get dkey:=qca (by simp)
   simp only[Fr.defs,e]
   rw[g5]
   exact hat.marks.step g3
  ·exfalso
   have hne : ∀ {t v},(fr.keep [dkey]).get t=some v->t=dkey:=fun {t v} h=>by
    simp only[Fr.keep] at h
    split at h
    ·simp only[Fr.get] at h
     split at h
     ·rename_i e; exact e.symm
     ·cases h
    ·simp[Fr.get] at h
   have:=hne hv
   have:0<dkey:=by decide
   omega
  ·have e:(fr.keep [dkey]).get dkey=fr.get dkey:=qca (by simp)
   rw[e]; exact hat.nod h
theorem qhg {Γ : Ctx} (hr:Real fid Γ) {l b:Nat} {lp:Lp} (ho : Γ.σ[l]?=some (.loop lp)) (hm : Γ.μ l=some b) :
  ∃ L:Loop,Γ.w.heap[b]?=some (.loop L)/\L.params.toList=lp.ps/\L.state=qvs lp.st/\L.pending=lp.pend.map Ex.code /\
   (∃ N,fid.cr N L.assign lp.assign/\fid.cr N L.body lp.body/\(∀ p∈lp.ps,p<N)/\FrRep fid Γ N lp.fr L.tmps) /\
   ∀ (st:Nat) (pe:Option Ex) (s:LoopState) (j:Option Code),s=qvs st->j=pe.map Ex.code ->
    Real fid ⟨Γ.σ.set l (.loop { lp with st:=st,pend:=pe }),Γ.μ,Γ.F,Γ.w.putObj b (.loop { L with state:=s,pending:=j })⟩ /\
    Step Γ ⟨Γ.σ.set l (.loop { lp with st:=st,pend:=pe }),Γ.μ,Γ.F,Γ.w.putObj b (.loop { L with state:=s,pending:=j })⟩:=by
 have hb:=hr.obs l _ b ho hm
 simp only[RepOb] at hb
 obtain⟨h1,L,h2,h3,h4,h5,N,h6,h7,h8,h9,h10⟩:=hb
 refine⟨L,h2,h3,h4,h5,⟨N,h6,h7,h8,h9⟩,fun st pe s j hs hj=>?_⟩
 subst hs hj
 refine upd hr ho rfl rfl hm ⟨rfl,rfl,rfl,by simp,fun k hk=>World.putObj_heap_other hk⟩ fun hext=>?_
 simp only[RepOb]
 exact⟨h1,_,World.putObj_heap_same (qcp h2),h3,rfl,rfl,N,h6,h7,h8,h9.ext hext,fun l' hl'=>by simpa using h10 l' hl'⟩
theorem qpV{n:Nat}(h:n≠1):qvs n ≠ .busy:=by
 unfold qvs
 split<;>simp_all
end
section
variable{P:Program}{ids:Ids}{fid:Fid}
theorem qve{fr:Fr}{t:Nat}(h:t≠dkey):fr.noD.get t=fr.get t:=by
 induction fr with
 |nil=>rfl
 |cons p fr ih=>
  obtain⟨k,v⟩:=p
  simp only[Fr.noD,Yy] at ih ⊢
  by_cases hk:k=dkey
  ·subst hk
   simp only[bne_self_eq_false,Wz,if_false,Fr.get]
   rw[if_neg (Yb h)]; exact ih
  ·have:(k != dkey)=true:=by simpa using hk
   simp only[this,if_true,Fr.get]
   split
   ·rfl
   ·exact ih
theorem qsA{fr:Fr} : ∀ l∈qaR fr.noD,l∈qaR fr:=by
 induction fr with
 |nil=>intro l h; exact h
 |cons p fr ih=>
  obtain⟨k,v⟩:=p
  intro l hl
  simp only[Fr.noD,Yy] at hl ih
  simp only[qaR,We]
  split at hl
  ·simp only[qaR,We] at hl
   rcases hl with hl|hl
   ·exact .inl hl
   ·exact .inr (ih l hl)
  ·exact .inr (ih l hl)
theorem FrRep.noD{N:Nat}{Γ : Ctx}{fr:Fr}{tmps:Array Value}(hN:2*N<=dkey)(h:FrRep fid Γ N fr tmps):FrRep fid Γ N fr.noD tmps:=
 ⟨h.1,fun t v ht hv=>h.2 t v ht (by
  have hpos:0<dkey:=by decide
  rw[<- qve (show t≠dkey by omega)]; exact hv)⟩
def qzI(Q:Exit->Act->World->Prop):Exit->Act->World->Prop
 |.goto _,_,_=>False
 |e,a,w=>Q e a w
section
variable{b:Frame}{a:Act}{k:List Item}{cs:List Frame}{w:World}{Q:Exit->Act->World->Prop}{F:Fence}{n:Nat}
theorem qcx{c:Code}:step P (lone (b.atR a (.code (.scope c)::k)) cs w) = .next (lone (b.atR a (.code c :: .inScope c::k)) cs w):=
 step_lone_go (by simp[stepG,stepG.exec,Frame.atR])
theorem qkp{c:Code}:step P (lone (b.atR a (.inScope c::k)) cs w) = .next (lone (b.atR a k) cs w):=
 step_lone_go (by simp[stepG,stepG.exec,Frame.atR])
theorem qoP{c:Code}(h:c.wpIn F n P (qzI Q) a w):(Code.scope c).wpIn F n P Q a w:=by
 intro b k cs hro hb hr
 have h0:(lone (b.atR a (.code (.scope c)::k)) cs w).fenced P F:=fenced_calm hb hr rfl
 obtain⟨e,a₁,w₁,hq,harr⟩:=h b (.inScope c::k) cs hro hb hr
 cases e with
 |normal=>exact⟨.normal,a₁,w₁,hq,.head h0 qcx (StepsIn.trans harr (.one (fenced_calm hb hr rfl) qkp))⟩
 |exit id'=>
  have hx:exitTo id' (.inScope c::k)=exitTo id' k:=by simp[exitTo]
  exact⟨.exit id',a₁,w₁,hq,fun k' hk => .head h0 qcx (harr.1 k' (by rw[hx]; exact hk)),
   fun hr' hk=>let ⟨k₁,h1,h2⟩:=harr.2 hr' (by rw[hx]; exact hk); ⟨k₁,h1,.head h0 qcx h2⟩⟩
 |goto l=>exact hq.elim
 |ret=>exact⟨_,a₁,w₁,hq,.of_steps (.one h0 qcx) harr⟩
 |panic ch=>exact⟨_,a₁,w₁,hq,.of_steps (.one h0 qcx) harr⟩
 |outgrown=>exact⟨_,a₁,w₁,hq,.of_steps (.one h0 qcx) harr⟩
end
section
variable{C:Task->Option Res}{ro:Option Nat}{fl:Bool}
theorem qbc (hid:Ties P ids fid) (hcr:Codes P ids fid) (hC:CSound P fid C) (hL:LSound P ids fid C) (hm:P.follows .mixedOrders=true) {N:Nat} (hN:2*N<=dkey) (hro:ro.isSome=true->fl=true) {K:Nat->List Nat} : ∀ (c:Code) (pc:PC),comp P ids N K c=some pc ->
  (fl=true->pc.flat=true) -> ∀ (fr:Fr) (e:Ex) (fr':Fr) (σ':S) (Γ0:Ctx) (ds0:List Deferred) (Γ : Ctx) (a:Act) (Q:Exit->Act->World->Prop),
  run C Γ0.σ.length pc fr Γ.σ = some (e,fr',σ')->At fid N fl ids.df Γ0 ds0 fr Γ a->qwh fid N fl ids.df Γ0 ds0 e fr' σ' Q->c.wpIn (FR ro) 0 P Q a Γ.w
 |.skip,pc,hc,hfl,fr,e,fr',σ',Γ0,ds0,Γ,a,Q,h,hat,hk=>by
  simp only[comp,Wd] at hc; subst hc
  simp only[run,Wd,Wx] at h
  obtain⟨rfl,rfl,rfl⟩:=h
  exact wpIn_skip (hk Γ a _ rfl hat rfl)
 |.exit id,pc,hc,hfl,fr,e,fr',σ',Γ0,ds0,Γ,a,Q,h,hat,hk=>by
  simp only[comp,Wd] at hc; subst hc
  simp only[run,Wd,Wx] at h
  obtain⟨rfl,rfl,rfl⟩:=h
  exact wpIn_exit (hk Γ a _ rfl hat rfl)
 |.ret,pc,hc,hfl,fr,e,fr',σ',Γ0,ds0,Γ,a,Q,h,hat,hk=>by
  simp only[comp,Wd] at hc; subst hc
  simp only[run,Wd,Wx] at h
  obtain⟨rfl,rfl,rfl⟩:=h
  exact wpIn_ret (hk Γ a _ rfl hat rfl)
 |.region id ops false,pc,hc,hfl,fr,e,fr',σ',Γ0,ds0,Γ,a,Q,h,hat,hk=>by
  simp only[comp,Wc] at hc
  obtain⟨is,his,rfl⟩:=hc
  have hnd:fl=true->is.all qcT=true:=fun e=>by
   have:=hfl e
   simp only[PC.flat] at this
   rw[Ws] at this ⊢
   intro i hi
   exact this i hi
  simp only[run] at h
  split at h
  ·rename_i fr1 σ1 hrun
   simp only[Wd,Wx] at h
   obtain⟨rfl,rfl,rfl⟩:=h
   exact qiE hid hC hN hro his hnd hat hrun fun Γ' a' g1 g2=>hk Γ' a' _ g1 (g2.keep K id) rfl
  ·split at h
   ·rename_i u fr1 σ1 hrun
    simp only[Wd,Wx] at h
    obtain⟨rfl,rfl,rfl⟩:=h
    exact qig hid hC hN hro his hnd hat hrun fun Γ' a' x g1 g2 g3=>hk Γ' a' _ g1 g2 ⟨x,rfl,g3⟩
   ·cases h
 |.region id ops true,pc,hc,hfl,fr,e,fr',σ',Γ0,ds0,Γ,a,Q,h,hat,hk=>by
  have go : ∀ (mf:Bool) (as:List (List Nat)) (cs:List Nat) (rs:List (Nat × List D)) (is:List I),qsz P { ids with mf:=mf } N ops as cs=some (rs,is)->run C Γ0.σ.length (.region (some rs) is (ql1 ids K id) (qix ops as)) fr Γ.σ = some (e,fr',σ')->(Code.region id ops true).wpIn (FR ro) 0 P Q a Γ.w:=by
   intro mf as cs rs is hdc h
   have hid':Ties P { ids with mf:=mf } fid:=⟨hid.fn,hid.ty,hid.mt,hid.gl⟩
   unfold qsz at hdc
   split at hdc
   ·rename_i rs' is' hrs his
    split at hdc
    ·rename_i hdr
     cases hdc
     simp only[run] at h
     split at h
     ·rename_i es fr1 σ1 hrun
      split at h
      ·rename_i hcalm
       simp only[Wd,Wx] at h
       obtain⟨rfl,rfl,rfl⟩:=h
       exact qg0 hid' hC hm hN his hrs hdr hat hrun (.inl hcalm) fun Γ' a' g1 g2=>hk Γ' a' _ g1 (g2.keep K id) rfl
      ·split at h
       ·rename_i ss hss
        split at h
        ·rename_i hc2
         simp only[Wd,Wx] at h
         obtain⟨rfl,rfl,rfl⟩:=h
         exact qg0 hid' hC hm hN his hrs hdr hat hrun (.inr ⟨ss,hss,hc2⟩) fun Γ' a' g1 g2=>hk Γ' a' _ g1 (g2.keep K id) rfl
        ·cases h
       ·cases h
     ·split at h
      ·rename_i p es u σ1 hrun
       split at h
       ·rename_i hcond
        simp only[Wh,Yo,decide_eq_true_eq] at hcond
        simp only[Wd,Wx] at h
        obtain⟨rfl,rfl,rfl⟩:=h
        exact qj0 hid' hC hm hN his hrs hdr hat hrun hcond.2 hcond.1 fun Γ' a' x g1 g2 g3=>hk Γ' a' _ g1 g2 ⟨x,rfl,g3⟩
       ·cases h
      ·cases h
    ·cases hdc
   ·cases hdc
  simp only[comp] at hc
  split at hc
  ·rename_i rs is hd
   cases hc
   exact go ids.mf _ _ rs is hd h
  ·split at hc
   ·rename_i rs is hd
    cases hc
    exact go true _ _ rs is hd h
   ·cases hc
 |.seq x y,pc,hc,hfl,fr,e,fr',σ',Γ0,ds0,Γ,a,Q,h,hat,hk=>by
  simp only[comp] at hc
  split at hc
  ·rename_i p q hp hq
   cases hc
   simp only[PC.flat,Wh] at hfl
   simp only[run] at h
   split at h
   ·rename_i fr1 σ1 hx
    refine wpIn_seq (qbc hid hcr hC hL hm hN hro x p hp (fun h=>(hfl h).1) fr .normal fr1 σ1 Γ0 ds0 Γ a _ hx hat fun Γ1 a1 ex g1 g2 g3=>?_)
    subst g1
    simp only[qcg] at g3
    subst g3
    exact qbc hid hcr hC hL hm hN hro y q hq (fun h=>(hfl h).2) fr1 e fr' σ' Γ0 ds0 Γ1 a1 Q h g2 hk
   ·rename_i hnn
    refine wpIn_seq (qbc hid hcr hC hL hm hN hro x p hp (fun h=>(hfl h).1) fr e fr' σ' Γ0 ds0 Γ a _ h hat fun Γ1 a1 ex g1 g2 g3=>?_)
    have:=hk Γ1 a1 ex g1 g2 g3
    cases e with
    |normal=>exact absurd h (hnn _ _)
    |exit id=>simp only[qcg] at g3; subst g3; exact this
    |ret=>simp only[qcg] at g3; subst g3; exact this
    |pan v=>simp only[qcg] at g3; obtain⟨x,rfl,_⟩:=g3; exact this
  ·cases hc
 |.cond z x y,pc,hc,hfl,fr,e,fr',σ',Γ0,ds0,Γ,a,Q,h,hat,hk=>by
  simp only[comp] at hc
  split at hc
  ·rename_i z' p q hz hp hq
   cases hc
   simp only[PC.flat,Wh] at hfl
   simp only[run] at h
   split at h
   ·rename_i hv
    exact wpIn_cond (t:=true) (qaC (qan hid hat.real hat.frame hz hv)).1 (qbc hid hcr hC hL hm hN hro x p hp (fun h=>(hfl h).1) fr e fr' σ' Γ0 ds0 Γ a Q h hat hk)
   ·rename_i hv
    exact wpIn_cond (t:=false) (qaC (qan hid hat.real hat.frame hz hv)).1 (qbc hid hcr hC hL hm hN hro y q hq (fun h=>(hfl h).2) fr e fr' σ' Γ0 ds0 Γ a Q h hat hk)
   ·cases h
  ·cases hc
 |.block id x,pc,hc,hfl,fr,e,fr',σ',Γ0,ds0,Γ,a,Q,h,hat,hk=>by
  simp only[comp,Wc] at hc
  obtain⟨p,hp,rfl⟩:=hc
  simp only[PC.flat] at hfl
  simp only[run] at h
  split at h
  ·rename_i id' fr1 σ1 hx
   split at h
   ·rename_i hid'
    simp only[Wd,Wx] at h
    obtain⟨rfl,rfl,rfl⟩:=h
    refine wpIn_block (qbc hid hcr hC hL hm hN hro x p hp hfl fr _ fr1 σ1 Γ0 ds0 Γ a _ hx hat fun Γ1 a1 ex g1 g2 g3=>?_)
    simp only[qcg] at g3
    subst g3
    simp only[Exit.inBlock,hid',if_true]
    exact hk Γ1 a1 _ g1 g2 rfl
   ·rename_i hid'
    simp only[Wd,Wx] at h
    obtain⟨rfl,rfl,rfl⟩:=h
    refine wpIn_block (qbc hid hcr hC hL hm hN hro x p hp hfl fr _ fr1 σ1 Γ0 ds0 Γ a _ hx hat fun Γ1 a1 ex g1 g2 g3=>?_)
    simp only[qcg] at g3
    subst g3
    simp only[Exit.inBlock,hid',if_false]
    exact hk Γ1 a1 _ g1 g2 rfl
  ·rename_i hne
   refine wpIn_block (qbc hid hcr hC hL hm hN hro x p hp hfl fr e fr' σ' Γ0 ds0 Γ a _ h hat fun Γ1 a1 ex g1 g2 g3=>?_)
   have:=hk Γ1 a1 ex g1 g2 g3
   cases e with
   |normal=>simp only[qcg] at g3; subst g3; exact this
   |exit id'=>exact absurd h (hne _ _ _)
   |ret=>simp only[qcg] at g3; subst g3; exact this
   |pan v=>simp only[qcg] at g3; obtain⟨x,rfl,_⟩:=g3; exact this
 |.loop x,pc,hc,hfl,fr,e,fr',σ',Γ0,ds0,Γ,a,Q,h,hat,hk=>by
  simp only[comp,Wc] at hc
  obtain⟨p,hp,rfl⟩:=hc
  simp only[PC.flat] at hfl
  simp only[run] at h
  split at h
  ·rename_i e1 fr1 σ1 hx
   simp only[Wd,Wx] at h
   obtain⟨rfl,rfl,rfl⟩:=h
   obtain⟨m,hs⟩:=hL _ _ _ _ _ _ _ hx
   exact wpIn_loop_rounds m (hs N K ids.own ids.df x ro fl hp hN hro hfl Γ0 ds0 Γ a Q rfl rfl hat hk)
  ·cases h
 |.rangeFunc g ps x y,pc,hc,hfl,fr,e,fr',σ',Γ0,ds0,Γ,a,Q,h,hat,hk=>by
  simp only[comp] at hc
  split at hc
  ·rename_i z p q hz hp hq
   split at hc
   ·rename_i hps
    cases hc
    have hflf:fl=false:=by
     cases fl with
     |false=>rfl
     |true=>have:=hfl rfl; simp[PC.flat] at this
    have hro:ro=none:=by
     cases ro with
     |none=>rfl
     |some r=>rw[hro rfl] at hflf; cases hflf
    subst hro
    simp only[run] at h
    split at h
    ·rename_i id as bs hv
     split at h
     ·rename_i v1 σ1 hcall
      split at hcall
      ·rename_i hlocs
       split at h
       ·rename_i lp hlp
        split at h
        ·cases h
        ·rename_i hst
         have hnp : ∀ {v},lp.pend=some (.pan v)->False:=fun {v} e=>hst (by simp[e,Ex.isPan])
         have hst : ¬ lp.st=1:=fun e=>hst (by simp[e])
         simp only[Wd,Wx] at h
         obtain⟨rfl,rfl,rfl⟩:=h
         have hfv:=qan hid hat.real hat.frame hz hv
         simp only[Rep] at hfv
         obtain⟨as',bs',e1,e2,e3⟩:=hfv
         refine wpIn_rangeFunc fun fn _=>?_
         obtain⟨r1,s1⟩:=qpU hat.real (.deferred (some []))
         have hD:MarkAt Γ0 ⟨Γ.σ,Γ.μ,Γ.F,Γ.w.alloc (.deferred (some []))⟩ Γ.w.heap.size:=
          ⟨hat.step.ext.size,qav _ _,fun l hl=>by have:=(hat.real.dom l _ hl).2; omega⟩
         obtain⟨r2,s2⟩:=qbW r1 (.loop ⟨fr.noD,ps.toList,p,q,0,none⟩) (.loop { state := .ready,pending:=none,fn,tmps:=a.tmps,params:=ps,assign:=x,body:=y,defers := Γ.w.heap.size }) 0
          (fun Γ' hΓ' hext=>by
           simp only[RepOb]
           refine⟨by rw[hΓ']; simp[grow],_,by rw[hΓ']; exact qav _ _,rfl,rfl,rfl,N,(hcr _ _ _).2 ⟨hN,K,ids.own,ids.df,hp⟩,(hcr _ _ _).2 ⟨hN,K,ids.own,ids.df,hq⟩,fun t ht=>?_,FrRep.noD hN ((hat.frame.ext s1.ext).ext hext),fun l hl=>?_⟩
           ·have:=Ws.1 hps t ht
            simpa using this
           ·have:=Ws.1 hlocs l (qsA l hl)
            have hlt:l < Γ.σ.length:=by simpa using this
            rw[hΓ']; simp; omega)
          (fun h=>absurd h (WP _))
         generalize hΓ2:(⟨Γ.σ ++ [Ob.loop ⟨fr.noD,ps.toList,p,q,0,none⟩],bind Γ.μ Γ.σ.length (Γ.w.alloc (.deferred (some []))).heap.size,grow Γ.F (Γ.w.alloc (.deferred (some []))).heap.size 0,
          (Γ.w.alloc (.deferred (some []))).alloc (.loop { state := .ready,pending:=none,fn,tmps:=a.tmps,params:=ps,assign:=x,body:=y,defers := Γ.w.heap.size })⟩:Ctx) = Γ2 at r2 s2
         have hσ2 : Γ2.σ = Γ.σ ++ [Ob.loop ⟨fr.noD,ps.toList,p,q,0,none⟩]:=by rw[<- hΓ2]
         have hw2 : Γ2.w=(Γ.w.alloc (.deferred (some []))).alloc (.loop { state := .ready,pending:=none,fn,tmps:=a.tmps,params:=ps,assign:=x,body:=y,defers := Γ.w.heap.size }):=by rw[<- hΓ2]
         have hμ2 : Γ2.μ Γ.σ.length=some (Γ.w.heap.size+1):=by rw[<- hΓ2]; simp[bind]
         have s12:=s1.trans s2
         have hyl:Rep fid Γ2 (.yld Γ.σ.length) (.func (.yield (Γ.w.heap.size+1)) #[] #[]):=by
          simp only[Rep]
          exact⟨_,hμ2,rfl,.loop ⟨fr.noD,ps.toList,p,q,0,none⟩,by rw[hσ2]; simp,rfl⟩
         have hargs:Reps fid Γ2 (as++(.yld Γ.σ.length::bs)) (as'++(.func (.yield (Γ.w.heap.size+1)) #[] #[]::bs')):=
          qfJ (Reps.ext s12.ext _ _ e2) ⟨_,_,rfl,hyl,Reps.ext s12.ext _ _ e3⟩
         rw[<- hσ2] at hcall
         obtain⟨k1,k2⟩:=qgT hC r2 hargs hcall
         refine⟨Γ.w.heap.size+1,[qvp Γ.w.heap.size],Γ2.w,{ target := .fn (.func (fid id)) bs'.toArray,args:=as'.toArray ++ #[.func (.yield (Γ.w.heap.size+1)) #[] #[]] },Γ2.w,fid id,
          (as'.toArray ++ #[.func (.yield (Γ.w.heap.size+1)) #[] #[]])++bs'.toArray,Γ2.w,?_,?_,fun _ _=>trivial,?_,fun h=>by simp[Fence.wide] at h,?_⟩
         ·rw[hw2]; exact run_enterLoop_outer _ _ _ _ _
         ·simp only[resolve,e1,Deferred.ofValue,Sem.run_pure]
          rw[show Array.map a.eval #[Operand.const (Value.func (Fn.yield (Γ.w.heap.size+1)) #[] #[])] = #[Value.func (Fn.yield (Γ.w.heap.size+1)) #[] #[]] from by simp[Act.eval]]
         ·simp only[invoke]
          exact qa7 k1 _ _
         ·have ha:(as'.toArray ++ #[Value.func (.yield (Γ.w.heap.size+1)) #[] #[]])++bs'.toArray=(as'++(Value.func (.yield (Γ.w.heap.size+1)) #[] #[]::bs')).toArray:=by simp
          rw[ha]
          refine CallsIn.mono (F:=FR none) k2 ?_
          rintro e' w' ⟨Γ3,v3,rfl,rfl,rfl,r3,s3,_⟩
          have hμ3 : Γ3.μ Γ.σ.length=some (Γ.w.heap.size+1):=(s3.ext.fix _ (.loop ⟨fr.noD,ps.toList,p,q,0,none⟩) (by rw[hσ2]; simp) rfl).2 _ hμ2
          obtain⟨L,q1,_,q3,q4,_,q6⟩:=qhg r3 hlp hμ3
          obtain⟨r4,s4⟩:=q6 3 lp.pend .exhausted (lp.pend.map Ex.code) rfl rfl
          refine⟨L.pending,_,run_endLoop q1 (by rw[q3]; exact qpV hst),?_⟩
          have hmarks:Marks fid Γ0 ⟨Γ3.σ.set Γ.σ.length (.loop { lp with st:=3,pend:=lp.pend }),Γ3.μ,Γ3.F,Γ3.w.putObj (Γ.w.heap.size+1) (.loop { L with state := .exhausted,pending:=lp.pend.map Ex.code })⟩ ds0 fr.defs ([qvp Γ.w.heap.size]++a.defers):=by
           obtain⟨is,ds',m1,m2,m3,m4⟩:=hat.marks
           have m2':=m2.step ((s12.trans s3).trans s4)
           refine⟨.m Γ.w.heap.size::is,qvp Γ.w.heap.size::ds',by simp[m1],⟨_,_,rfl,⟨rfl,((hD.step s2).step s3).step s4⟩,m2'⟩,W0.2 ⟨fun hmem=>?_,m3⟩,by simpa [qbu] using m4⟩
           have old : ∀ {is:List DI} {ds:List Deferred},DIReps fid Γ0 Γ is ds -> ∀ D∈qcK is,D < Γ.w.heap.size:=by
            intro is
            induction is with
            |nil=>intro ds _ D hD; cases hD
            |cons i is ih=>
             intro ds h D hD
             obtain⟨d,r,_,h1,h2⟩:=h
             cases i with
             |m D'=>
              simp only[qcK,Wq] at hD
              rcases hD with rfl|hD
              ·exact qcp h1.2.2.1
              ·exact ih h2 D hD
             |c v=>exact ih h2 D hD
           exact absurd (old m2 _ hmem) (WP _)
          have hfin:=hk ⟨Γ3.σ.set Γ.σ.length (.loop { lp with st:=3,pend:=lp.pend }),Γ3.μ,Γ3.F,Γ3.w.putObj (Γ.w.heap.size+1) (.loop { L with state := .exhausted,pending:=lp.pend.map Ex.code })⟩
           { a with defers:=[qvp Γ.w.heap.size]++a.defers }
          have hat':At fid N fl ids.df Γ0 ds0 fr ⟨Γ3.σ.set Γ.σ.length (.loop { lp with st:=3,pend:=lp.pend }),Γ3.μ,Γ3.F,Γ3.w.putObj (Γ.w.heap.size+1) (.loop { L with state := .exhausted,pending:=lp.pend.map Ex.code })⟩ { a with defers:=[qvp Γ.w.heap.size]++a.defers }:=
           ⟨r4,hat.step.trans ((s12.trans s3).trans s4),hmarks,hat.frame.ext ((s12.trans s3).trans s4).ext,fun h=>by (rw[hflf] at h; cases h),hat.nod⟩
          have hLe:({ L with state:=LoopState.exhausted }:Loop)={ L with state := .exhausted,pending:=lp.pend.map Ex.code }:=by rw[<- q4]
          rw[hLe,q4]
          cases hpe:lp.pend with
          |none=>rw[hpe] at hfin hat'; exact hfin .normal rfl hat' rfl
          |some e'=>
           rw[hpe] at hfin hat'
           cases e' with
           |normal=>exact wpIn_skip (hfin .normal rfl hat' rfl)
           |exit id=>exact wpIn_exit (hfin (.exit id) rfl hat' rfl)
           |ret=>exact wpIn_ret (hfin .ret rfl hat' rfl)
           |pan v=>rw[hpe] at hnp; exact (hnp rfl).elim
       ·cases h
      ·cases hcall
     ·cases h
    ·cases h
   ·cases hc
  ·cases hc
 |.scope x,pc,hc,hfl,fr,e,fr',σ',Γ0,ds0,Γ,a,Q,h,hat,hk=>by
  simp only[comp] at hc
  refine qoP (qbc hid hcr hC hL hm hN hro x pc hc hfl fr e fr' σ' Γ0 ds0 Γ a _ h hat fun Γ1 a1 ex g1 g2 g3=>?_)
  have:=hk Γ1 a1 ex g1 g2 g3
  cases e with
  |normal=>simp only[qcg] at g3; subst g3; exact this
  |exit id'=>simp only[qcg] at g3; subst g3; exact this
  |ret=>simp only[qcg] at g3; subst g3; exact this
  |pan v=>simp only[qcg] at g3; obtain⟨x,rfl,_⟩:=g3; exact this
 |.label _,pc,hc,hfl,fr,e,fr',σ',Γ0,ds0,Γ,a,Q,h,hat,hk=>by
  simp only[comp,Wd] at hc; subst hc
  simp only[run,Wd,Wx] at h
  obtain⟨rfl,rfl,rfl⟩:=h
  exact wpIn_label (hk Γ a _ rfl hat rfl)
 |.goto _,pc,hc,hfl,fr,e,fr',σ',Γ0,ds0,Γ,a,Q,h,hat,hk=>by
  simp only[comp,Wd] at hc
  subst hc
  simp[run,X.ev] at h
 |.refuse _,pc,hc,hfl,fr,e,fr',σ',Γ0,ds0,Γ,a,Q,h,hat,hk=>by
  simp only[comp,Wd] at hc
  subst hc
  simp[run,X.ev] at h
theorem qfz : ∀ {vs:List V} {i t:Nat} {v:V},(qbd i vs).get t=some v->i<=t/\vs[t-i]?=some v
 |[],i,t,v,h=>by simp[qbd,Fr.get] at h
 |u::vs,i,t,v,h=>by
  simp only[qbd,Fr.get] at h
  split at h
  ·rename_i e; subst e; cases h; simp
  ·rename_i hne
   obtain⟨h1,h2⟩:=qfz h
   refine⟨by omega,?_⟩
   rw[show t-i=(t-(i+1))+1 from by omega]
   simpa using h2
def ql2(tmps:Array Value):ResultVar->Sem Value
 |.tmp t=>pure (tmps.getD t undef)
 |.cell a t=>do loadVar t (<- asAddr (tmps.getD a undef))
theorem qjy (fn:Func) (tmps:Array Value):results fn tmps=(do
  let vs <- fn.results.mapM (ql2 tmps)
  pure (if h:vs.size=1 then vs[0] else .tuple vs)):=by
 unfold results
 congr 1
theorem qfA {N:Nat} {Γ : Ctx} (hr:Real fid Γ) {fr:Fr} {tmps:Array Value} (hf:FrRep fid Γ N fr tmps) : ∀ {rs:List ResultVar} {ps:List PR} {vs:List V},qkr P N rs=some ps->qrJ fr Γ.σ ps=some vs ->
  ∃ xs:List Value,(rs.mapM (ql2 tmps)).run P Γ.w = .ok xs Γ.w/\Reps fid Γ vs xs
 |[],ps,vs,hc,h=>by
  simp only[qkr,Wd] at hc; subst hc
  simp only[qrJ,Wd] at h; subst h
  exact⟨[],by simp,rfl⟩
 |.tmp t::rs,ps,vs,hc,h=>by
  simp only[qkr] at hc
  split at hc
  ·rename_i htN
   simp only[Wc] at hc
   obtain⟨ps',hps,rfl⟩:=hc
   simp only[qrJ] at h
   split at h
   ·rename_i v vs' hv hvs
    cases h
    obtain⟨xs,h1,h2⟩:=qfA hr hf hps hvs
    refine⟨tmps.getD t undef::xs,?_,_,_,rfl,hf.2 t v htN hv,h2⟩
    simp only[List.mapM_cons,ql2,Sem.run_bind,Sem.run_pure,Result.andThen_ok]
    rw[h1]
    simp
   ·cases h
  ·cases hc
 |.cell t ty::rs,ps,vs,hc,h=>by
  simp only[qkr] at hc
  split at hc
  ·rename_i htN
   have fin : ∀ {agg:Bool} {n:Nat} {ps'},qkr P N rs=some ps'->((agg=true/\qaJ P ty=some true/\qaH P ty=some n)\/(agg=false/\qaJ P ty=some false/\n=1))->ps = .cell t agg n::ps' ->
     ∃ xs:List Value,((ResultVar.cell t ty::rs).mapM (ql2 tmps)).run P Γ.w = .ok xs Γ.w/\Reps fid Γ vs xs:=by
    intro agg n ps' hps hs hp
    subst hp
    simp only[qrJ] at h
    split at h
    ·rename_i p hp
     split at h
     ·rename_i v vs' hv hvs
      cases h
      obtain⟨xs,h1,h2⟩:=qfA hr hf hps hvs
      obtain⟨ad,y,e1,e2,e3⟩:=qkE hr hs (hf.2 t p htN hp) hv
      refine⟨y::xs,?_,_,_,rfl,e3,h2⟩
      simp only[List.mapM_cons,ql2,Sem.run_bind,e1,asAddr,Sem.run_pure,Result.andThen_ok,e2]
      rw[h1]
      simp
     ·cases h
    ·cases h
   split at hc
   ·rename_i n ps' h1 h2 h3; cases hc; exact fin h3 (.inl ⟨rfl,h1,h2⟩) rfl
   ·rename_i ps' h1 h3; cases hc; exact fin h3 (.inr ⟨rfl,h1,rfl⟩) rfl
   ·cases hc
  ·cases hc
theorem qjz {N:Nat} {Γ : Ctx} : ∀ {ps:List Tmp} {vs:List V} {ys:List Value} {fr:Fr} {tmps:Array Value},FrRep fid Γ N fr tmps->(∀ p∈ps,p<N)->Reps fid Γ vs ys ->
  FrRep fid Γ N (qep fr ps vs) ((ps.zip ys).foldl (fun t (p,v)=>t.setIfInBounds p v) tmps)
 |[],vs,ys,fr,tmps,hf,_,_=>by cases vs<;>simpa [qep] using hf
 |p::ps,[],ys,fr,tmps,hf,_,hr=>by simp only[Reps] at hr; subst hr; simpa [qep] using hf
 |p::ps,v::vs,ys,fr,tmps,hf,hp,hr=>by
  simp only[Reps] at hr
  obtain⟨y,ys',rfl,h1,h2⟩:=hr
  simp only[qep,List.zip_cons_cons,List.foldl_cons]
  refine qjz ?_ (fun q hq=>hp q (WH _ hq)) h2
  exact FrRep.put (a:={ tmps:=tmps,defers:=[] }) (dst:=some p) hf (fun d hd=>by cases hd; exact hp p (by simp)) h1
end
end
end Go.Pm
