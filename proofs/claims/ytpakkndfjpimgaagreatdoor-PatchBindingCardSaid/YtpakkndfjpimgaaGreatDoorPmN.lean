/- Regions that draw their order: whatever order comes, it ends as the text's does. -/
import Derived.Test.YtpakkndfjpimgaaGreatDoorPmM
set_option linter.unusedSimpArgs false
set_option linter.unusedVariables false
section SN
namespace Go.Pm
variable {P:Program} {ids:Ids} {fid:Fid} {N:Nat}
structure Trace (C:Task->Option Res) (is:List I) (T:Nat->Fr × S) (val:Nat->V) (es:List Ev):Prop where
 step : ∀ k i,is[k]?=some i ->
  (qaq (T k).1 i.guard=some true/\qaj C (T k).1 (T k).2 i.op=some (val k,(T (k+1)).2)/\es[k]?=some (qbD (T k).1 (T k).2 i.op) \/
   qaq (T k).1 i.guard=some false/\val k = .dat (.lit undef)/\(T (k+1)).2=(T k).2/\es[k]?=some .pure) /\
  (T (k+1)).1=(T k).1.put i.dst (val k)
theorem qfy {C:Task->Option Res} : ∀ {is:List I} {fr fr':Fr} {σ σ':S} {es:List Ev},qbq C is fr σ = some (es,fr',σ') ->
  ∃ T val,T 0=(fr,σ)/\T is.length=(fr',σ')/\Trace C is T val es
 | [],fr,fr',σ,σ',es,h=>by
  simp only[qbq,Option.some.injEq,Prod.mk.injEq] at h
  obtain⟨rfl,rfl,rfl⟩:=h
  exact⟨fun _=>(fr,σ),fun _=>default,rfl,rfl,⟨fun k i h=>by simp at h⟩⟩
 | i::is,fr,fr',σ,σ',es,h=>by
  simp only[qbq] at h
  split at h
  ·rename_i hw
   split at h
   ·rename_i v σ1 hv
    split at h
    ·rename_i l fr2 σ2 hrest
     cases h
     obtain⟨T,val,h0,hm,ht⟩:=qfy hrest
     refine⟨fun k=>match k with | 0=>(fr,σ) | k+1=>T k,fun k=>match k with | 0=>v | k+1=>val k,rfl,hm,⟨fun k j hk=>?_⟩⟩
     cases k with
     | zero=>
      simp at hk; subst hk
      exact⟨.inl ⟨hw,by simp only[h0,hv],rfl⟩,by simp only[h0]⟩
     | succ k=>exact ht.step k j (by simpa using hk)
    ·cases h
   ·cases h
  ·rename_i hw
   split at h
   ·rename_i l fr2 σ2 hrest
    cases h
    obtain⟨T,val,h0,hm,ht⟩:=qfy hrest
    refine⟨fun k=>match k with | 0=>(fr,σ) | k+1=>T k,fun k=>match k with | 0 => .dat (.lit undef) | k+1=>val k,rfl,hm,⟨fun k j hk=>?_⟩⟩
    cases k with
    | zero=>
     simp at hk; subst hk
     exact⟨.inr ⟨hw,rfl,by simp only[h0],rfl⟩,by simp only[h0]⟩
    | succ k=>exact ht.step k j (by simpa using hk)
   ·cases h
  ·cases h
theorem qet {C:Task->Option Res} : ∀ {is:List I} {q p:Nat} {fr:Fr} {σ σ':S} {es:List Ev} {v:V},qa4 C q is fr σ = some (p,es,v,σ') ->
  ∃ m T val J,p=q+m/\is[m]?=some J/\T 0=(fr,σ)/\Trace C (is.take m) T val es/\qaq (T m).1 J.guard=some true/\qaP C (T m).1 (T m).2 J.op=some (v,σ')
 | [],q,p,fr,σ,σ',es,v,h=>by simp[qa4] at h
 | i::is,q,p,fr,σ,σ',es,v,h=>by
  simp only[qa4] at h
  split at h
  ·rename_i hw
   split at h
   ·rename_i v1 σ1 hv
    split at h
    ·rename_i p' l u σ2 hrest
     cases h
     obtain⟨m,T,val,J,e1,e2,h0,ht,e3,e4⟩:=qet hrest
     refine⟨m+1,fun k=>match k with | 0=>(fr,σ) | k+1=>T k,fun k=>match k with | 0=>v1 | k+1=>val k,J,by omega,by simpa using e2,rfl,⟨fun k j hk=>?_⟩,e3,e4⟩
     cases k with
     | zero=>
      simp at hk; subst hk
      exact⟨.inl ⟨hw,by simp only[h0,hv],rfl⟩,by simp only[h0]⟩
     | succ k=>exact ht.step k j (by simpa using hk)
    ·cases h
   ·split at h
    ·rename_i v1 σ1 hv
     cases h
     exact⟨0,fun _=>(fr,σ),fun _=>default,i,rfl,rfl,rfl,⟨fun k j hk=>by simp at hk⟩,hw,hv⟩
    ·cases h
  ·rename_i hw
   split at h
   ·rename_i p' l u σ2 hrest
    cases h
    obtain⟨m,T,val,J,e1,e2,h0,ht,e3,e4⟩:=qet hrest
    refine⟨m+1,fun k=>match k with | 0=>(fr,σ) | k+1=>T k,fun k=>match k with | 0 => .dat (.lit undef) | k+1=>val k,J,by omega,by simpa using e2,rfl,⟨fun k j hk=>?_⟩,e3,e4⟩
    cases k with
    | zero=>
     simp at hk; subst hk
     exact⟨.inr ⟨hw,rfl,by simp only[h0],rfl⟩,by simp only[h0]⟩
    | succ k=>exact ht.step k j (by simpa using hk)
   ·cases h
  ·cases h
theorem qbk {es:List Ev} {l j:Nat} : ∀ {un:List Nat},qfg es l j un=true -> ∀ i∈un,∀ n T,es[i]?=some (.chain n T)->l∉T/\(j<=i\/l<n)
 | [],_,i,hi=>by cases hi
 | k::un,h,i,hi=>by
  simp only[qfg,Bool.and_eq_true] at h
  rcases List.mem_cons.1 hi with rfl | hi
  ·grind
  ·exact qbk h.2 i hi
theorem qf3 {es:List Ev} : ∀ {is:List I} {r:List Ev} {j:Nat},qiF es is j r=true -> ∀ k i l,is[k]?=some i->r[k]?=some (.read l)->qfg es l (j+k) i.un=true
 | [],r,j,_,k,i,l,hk,_=>by simp at hk
 | a::is,[],j,_,k,i,l,_,hr=>by simp at hr
 | a::is,e::r,j,h,k,i,l,hk,hr=>by
  simp only[qiF,Bool.and_eq_true] at h
  cases k with
  | zero=>
   simp at hk hr; subst hk; subst hr
   exact h.1
  | succ k=>
   have:=qf3 h.2 k i l (by simpa using hk) (by simpa using hr)
   rw[show j+(k+1)=j+1+k from by omega]
   exact this
theorem qiq {u v:V} (h:u.same v=true):u=v:=by
 unfold V.same at h
 split at h
 ·grind
 ·grind [eqI]
 ·rfl
 ·cases h
theorem qeY {ss:List (Fr × S)} {agg:Bool} {n:Nat} {p:V} : ∀ {un:List Nat},still ss agg n p un=true -> ∀ q∈un,∀ a b,ss[q]?=some a->ss[q+1]?=some b->qbp b.2 agg n p=qbp a.2 agg n p
 | [],_,q,hq=>by cases hq
 | i::un,h,q,hq=>by
  simp only[still,Bool.and_eq_true] at h
  rcases List.mem_cons.1 hq with rfl | hq
  ·grind [still,qbp,qiq]
  ·exact qeY h.2 q hq
theorem qeZ {es:List Ev} {ss:List (Fr × S)} : ∀ {is:List I} {r:List Ev} {j:Nat},qgk es ss is j r=true -> ∀ k i l,is[k]?=some i->r[k]?=some (.read l)->qfg es l (j+k) i.un=true\/qhO ss i (j+k)=true
 | [],r,j,_,k,i,l,hk,_=>by simp at hk
 | a::is,[],j,_,k,i,l,_,hr=>by simp at hr
 | a::is,e::r,j,h,k,i,l,hk,hr=>by
  simp only[qgk,Bool.and_eq_true] at h
  cases k with
  | zero=>
   simp at hk hr; subst hk; subst hr
   have:=h.1
   rw[Nat.add_zero]; simpa only [Bool.or_eq_true] using this
  | succ k=>
   have:=qeZ h.2 k i l (by simpa using hk) (by simpa using hr)
   rw[show j+(k+1)=j+1+k from by omega]
   exact this
theorem qdC {C:Task->Option Res} : ∀ {is:List I} {T:Nat->Fr × S} {val:Nat->V} {es:List Ev} {ss:List (Fr × S)},Trace C is T val es->qcX C is (T 0).1 (T 0).2=some ss -> ∀ k,k<=is.length->ss[k]?=some (T k)
 | [],T,val,es,ss,_,h,k,hk=>by grind [qcX]
 | i::is,T,val,es,ss,ht,h,k,hk=>by
  have tl:Trace C is (fun k=>T (k+1)) (fun k=>val (k+1)) es.tail:=⟨fun k I hI=>by
   have:=ht.step (k+1) I (by simpa using hI)
   simpa only [List.getElem?_tail] using this⟩
  obtain⟨hst,hfr⟩:=ht.step 0 i (by simp)
  simp only[qcX] at h
  rcases hst with ⟨h1,h2,_⟩ | ⟨h1,h2,h3,_⟩
  ·simp only[h1,h2] at h
   split at h
   ·rename_i l hl
    cases h
    rw[<- hfr] at hl
    have ih:=qdC tl (ss:=l) hl
    cases k with
    | zero=>rfl
    | succ k=>simpa using ih k (by simpa using hk)
   ·cases h
  ·simp only[h1] at h
   split at h
   ·rename_i l hl
    cases h
    rw[<- h2,<- h3,<- hfr] at hl
    have ih:=qdC tl (ss:=l) hl
    cases k with
    | zero=>rfl
    | succ k=>simpa using ih k (by simpa using hk)
   ·cases h
def qf4 (is:List I) (T:Nat->Fr × S) (es:List Ev):Prop:=
 ∀ (k:Nat) (i:I) (l:Nat),is[k]?=some i->es[k]?=some (.read l)->qfg es l k i.un=true \/ ∃ agg n x p,i.op = .load agg n x/\x.ev (T k).1=some p /\ ∀ q∈i.un,q<is.length->qbp (T (q+1)).2 agg n p=qbp (T q).2 agg n p
theorem qe0 {is:List I} {T:Nat->Fr × S} {es:List Ev} (h:qiF es is 0 es=true):qf4 is T es:=fun k i l hk hl=>by
 have:=qf3 h k i l hk hl
 exact .inl (by simpa using this)
theorem qgx {C:Task->Option Res} {is:List I} {T:Nat->Fr × S} {val:Nat->V} {es:List Ev} {ss:List (Fr × S)} (ht:Trace C is T val es) (hs:qcX C is (T 0).1 (T 0).2=some ss) (h:qgk es ss is 0 es=true):qf4 is T es:=fun k i l hk hl=>by
 have hss:=qdC ht hs
 have hlt:=(List.getElem?_eq_some_iff.1 hk).1
 rcases qeZ h k i l hk hl with h | h
 ·exact .inl (by simpa using h)
 ·refine .inr ?_
  rw[Nat.zero_add] at h
  unfold qhO at h
  rw[hss k (by omega)] at h
  split at h
  ·grind [qcX,qgk,qf4,qeY]
  ·cases h
structure Stat (ops:Array Oper) (is:List I) (A:Nat->Nat->Prop):Prop where
 lt : ∀ i j,A i j->i<j
 edge : ∀ (j:Nat) (o:Oper) (e:Edge),ops[j]?=some o->e∈o.after.toList->Region.binds .any e=true->A e.on j /\ ∀ i,A i e.on->A i j
 back : ∀ (j:Nat) (o:Oper) (i:Nat),ops[j]?=some o->A i j -> ∃ e,e∈o.after.toList/\Region.binds .any e=true/\(e.on=i\/A i e.on)
 uniq : ∀ (i j:Nat) (I J:Pm.I) (d:Nat),is[i]?=some I->is[j]?=some J->i≠j->I.dst=some d->J.dst≠some d
 look : ∀ (i j:Nat) (I J:Pm.I) (d:Nat),is[i]?=some I->is[j]?=some J->i≠j->I.dst=some d->d∈J.looks->A i j\/A j i
 chn : ∀ (i j:Nat) (I J:Pm.I),is[i]?=some I->is[j]?=some J->i≠j->I.op.chain=true->J.op.chain=true->A i j\/A j i
 rd : ∀ (i j:Nat) (I J:Pm.I),is[i]?=some I->is[j]?=some J->i≠j->I.op.chain=true->J.op.reads=true->A i j\/A j i\/i∈J.un
 fl : ∀ (i j:Nat) (I J:Pm.I),is[i]?=some I->is[j]?=some J->i≠j->I.op.chain=true->J.op.isFill=true->A j i\/i∈J.un
theorem Stat.pre {ops:Array Oper} {is isP:List I} {A:Nat->Nat->Prop} (hs:Stat ops is A) (hpre : ∀ (k:Nat) (I:Pm.I),isP[k]?=some I->is[k]?=some I):Stat ops isP A:=
 ⟨hs.lt,hs.edge,hs.back,fun i j I J d hI hJ=>hs.uniq i j I J d (hpre i I hI) (hpre j J hJ),fun i j I J d hI hJ=>hs.look i j I J d (hpre i I hI) (hpre j J hJ),fun i j I J hI hJ=>hs.chn i j I J (hpre i I hI) (hpre j J hJ),
  fun i j I J hI hJ=>hs.rd i j I J (hpre i I hI) (hpre j J hJ),fun i j I J hI hJ=>hs.fl i j I J (hpre i I hI) (hpre j J hJ)⟩
theorem qir {ops:Array Oper} {is:List I} {as:List (List Nat)} (hl:is.length=ops.size) (h:qe1 ops is as=true):Stat ops is (fun i j=>j<ops.size/\i∈as.getD j []):=by
 have key : ∀ j J,is[j]?=some J -> ∃ o,ops[j]?=some o/\j<ops.size/\(∀ k∈as.getD j [],k<j) /\
   (∀ e∈o.after.toList,Region.binds .any e=true->e.on∈as.getD j [] /\ ∀ k∈as.getD e.on [],k∈as.getD j []) /\
   (∀ k∈as.getD j [],∃ e∈o.after.toList,Region.binds .any e=true/\(e.on=k\/k∈as.getD e.on [])) /\
   ∀ k I,is[k]?=some I->k≠j->(∀ d,I.dst=some d->(d∈J.looks->k∈as.getD j []\/j∈as.getD k [])/\J.dst≠some d) /\
    (J.op.chain=true->I.op.chain=true->k∈as.getD j []\/j∈as.getD k []) /\
    (J.op.reads=true->I.op.chain=true->k∈as.getD j []\/j∈as.getD k []\/k∈J.un) /\
    (J.op.isFill=true->I.op.chain=true->j∈as.getD k []\/k∈J.un):=fun j J hJ=>by
  have hj:j<ops.size:=by rw[<- hl]; exact (List.getElem?_eq_some_iff.1 hJ).1
  have hh:=List.all_eq_true.1 h j (List.mem_range.2 hj)
  have ho:ops[j]?=some ops[j]:=by simp[hj]
  rw[ho,hJ] at hh
  simp only[Bool.and_eq_true] at hh
  obtain⟨h1,h2,h3,h4⟩:=hh
  refine⟨_,ho,hj,fun k hk=>by simpa using List.all_eq_true.1 h1 k hk,fun e he hb=>?_,fun k hk=>?_,fun k I hI hkj=>?_⟩
  ·grind
  ·grind
  ·grind [anc]
 have isome : ∀ j,j<ops.size -> ∃ J,is[j]?=some J:=fun j hj=>⟨is[j]'(by omega),by simp⟩
 have osome : ∀ j o,ops[j]?=some o -> ∃ J,is[j]?=some J:=fun j o ho=>isome j (Array.getElem?_eq_some_iff.1 ho).1
 refine⟨fun i j hA=>?_,fun j o e ho he hb=>?_,fun j o i ho hA=>?_,fun i j I J d hI hJ hne hd=>?_,fun i j I J d hI hJ hne hd hm=>?_,fun i j I J hI hJ hne c1 c2=>?_,fun i j I J hI hJ hne c1 c2=>?_,fun i j I J hI hJ hne c1 c2=>?_⟩
 ·grind
 ·grind
 ·grind
 ·grind
 ·grind
 ·grind
 ·grind
 ·grind
section
variable {C:Task->Option Res} {ro:Option Nat} {Q:Exit->Act->World->Prop} {ops:Array Oper} {is:List I} {A:Nat->Nat->Prop} {T:Nat->Fr × S} {val:Nat->V} {es:List Ev} {Γ00:Ctx} {ds:List Deferred}
theorem qeu (hs:Stat ops is A) (ht:Trace C is T val es) : ∀ k,k<=is.length ->
  (∀ i I t,i<k->is[i]?=some I->I.dst=some t->(T k).1.get t=some (val i)) /\ ∀ t,(∀ i I,i<k->is[i]?=some I->I.dst≠some t)->(T k).1.get t=(T 0).1.get t
 | 0,_=>⟨fun i I t hi=>by omega,fun t _=>rfl⟩
 | k+1,hk=>by
  obtain⟨h1,h2⟩:=qeu hs ht k (by omega)
  obtain⟨J,hJ⟩ : ∃ J,is[k]?=some J:=⟨is[k]'(by omega),by simp⟩
  have hput:=(ht.step k J hJ).2
  rw[hput]
  refine⟨fun i I t hi hI hd=>?_,fun t hn=>?_⟩
  ·by_cases e:i=k
   ·grind [Fr.put,Fr.get]
   ·have:J.dst≠some t:=hs.uniq i k I J t hI hJ e hd
    have h:=h1 i I t (by omega) hI hd
    cases hdj:J.dst with
    | none=>simpa [Fr.put,hdj] using h
    | some d=>
     have:d≠t:=fun e=>this (by rw[hdj,e])
     simp only[Fr.put,Fr.get,if_neg this]
     exact h
  ·have hJn:=hn k J (by omega) hJ
   have h:=h2 t (fun i I hi hI=>hn i I (by omega) hI)
   cases hdj:J.dst with
   | none=>simpa [Fr.put,hdj] using h
   | some d=>
    have:d≠t:=fun e=>hJn (by rw[hdj,e])
    simp only[Fr.put,Fr.get,if_neg this]
    exact h
theorem qdD (ht:Trace C is T val es) {k:Nat} {J:I} (hJ:is[k]?=some J) :
  (T k).2.length<=(T (k+1)).2.length/\(J.op.chain=false->(T (k+1)).2=(T k).2) /\
  ∀ l,l<(T k).2.length->(∀ n L,es[k]?=some (.chain n L)->l∉L)->(T (k+1)).2[l]?=(T k).2[l]?:=by
 obtain⟨h | h,_⟩:=ht.step k J hJ
 ·obtain⟨_,h2,h3⟩:=h
  by_cases hc:J.op.chain=true
  ·grind [qdx]
  ·grind [qfY]
 ·grind
theorem qg5 (ht:Trace C is T val es) : ∀ {i k:Nat},i<=k->k<=is.length->(T i).2.length<=(T k).2.length
 | i,0,hi,_=>by have:i=0:=by omega
                subst this; exact Nat.le_refl _
 | i,k+1,hi,hk=>by
  rcases Nat.lt_or_ge k i with h | h
  ·grind
  ·obtain⟨J,hJ⟩ : ∃ J,is[k]?=some J:=⟨is[k]'(by omega),by simp⟩
   exact Nat.le_trans (qg5 ht h (by omega)) (qdD ht hJ).1
theorem qis (ht:Trace C is T val es) : ∀ {i k:Nat},i<=k->k<=is.length->(∀ j J,i<=j->j<k->is[j]?=some J->J.op.chain=false)->(T k).2=(T i).2
 | i,0,hi,_,_=>by have:i=0:=by omega
                  subst this; rfl
 | i,k+1,hi,hk,h=>by
  rcases Nat.lt_or_ge k i with hlt | hge
  ·have:i=k+1:=by omega
   subst this; rfl
  ·obtain⟨J,hJ⟩ : ∃ J,is[k]?=some J:=⟨is[k]'(by omega),by simp⟩
   rw[(qdD ht hJ).2.1 (h k J hge (by omega) hJ)]
   exact qis ht hge (by omega) fun j J' h1 h2=>h j J' h1 (by omega)
theorem qi7 (ht:Trace C is T val es) {l:Nat} : ∀ {i k:Nat},i<=k->k<=is.length->(∀ j J,i<=j->j<k->is[j]?=some J->J.op.chain=true->l<(T j).2.length /\ ∀ n L,es[j]?=some (.chain n L)->l∉L)->(T k).2[l]?=(T i).2[l]?
 | i,0,hi,_,_=>by have:i=0:=by omega
                  subst this; rfl
 | i,k+1,hi,hk,h=>by
  rcases Nat.lt_or_ge k i with hlt | hge
  ·have:i=k+1:=by omega
   subst this; rfl
  ·obtain⟨J,hJ⟩ : ∃ J,is[k]?=some J:=⟨is[k]'(by omega),by simp⟩
   have ih:=qi7 ht hge (by omega) fun j J' h1 h2=>h j J' h1 (by omega)
   by_cases hc:J.op.chain=true
   ·grind [qdD]
   ·rw[(qdD ht hJ).2.1 (by simpa using hc),ih]
theorem qkc {α : Type} (g:S -> α) (ht:Trace C is T val es) : ∀ {i k:Nat},i<=k->k<=is.length->(∀ j J,i<=j->j<k->is[j]?=some J->J.op.chain=true->g (T (j+1)).2=g (T j).2)->g (T k).2=g (T i).2
 | i,0,hi,_,_=>by have:i=0:=by omega
                  subst this; rfl
 | i,k+1,hi,hk,h=>by
  rcases Nat.lt_or_ge k i with hlt | hge
  ·have:i=k+1:=by omega
   subst this; rfl
  ·obtain⟨J,hJ⟩ : ∃ J,is[k]?=some J:=⟨is[k]'(by omega),by simp⟩
   have ih:=qkc g ht hge (by omega) fun j J' h1 h2=>h j J' h1 (by omega)
   by_cases hc:J.op.chain=true
   ·rw[h k J hge (by omega) hJ hc,ih]
   ·rw[(qdD ht hJ).2.1 (by simpa using hc),ih]
structure SInv (fid:Fid) (Γ00 Γ : Ctx) (is:List I) (T:Nat->Fr × S) (val:Nat->V) (A:Nat->Nat->Prop) (fr:Fr) (E:Nat->Prop):Prop where
 real:Real fid Γ
 step:Step Γ00 Γ
 stage : ∃ K,K<=is.length /\ Γ.σ = (T K).2/\(∀ i I,E i->is[i]?=some I->I.op.chain=true->i<K) /\ ∀ i I,i<K->is[i]?=some I->I.op.chain=true->E i
 fr1 : ∀ i I t,E i->is[i]?=some I->I.dst=some t->fr.get t=some (val i)
 fr2 : ∀ t,(∀ i I,E i->is[i]?=some I->I.dst≠some t)->fr.get t=(T 0).1.get t
 hole : ∀ j J k l,is[j]?=some J->J.op = .fill k -> ¬ E j->(T 0).1.get k=some (.ptr l 0) -> Γ.μ l=none
 down : ∀ i j,E j->A i j->E i
theorem qg6 {full:List I} (hs:Stat ops full A) (hpre : ∀ (k:Nat) (I:Pm.I),is[k]?=some I->full[k]?=some I) (hpre' : ∀ (k:Nat) (I:Pm.I),k<is.length->full[k]?=some I->is[k]?=some I) (ht:Trace C is T val es) (hca:qf4 is T es)
  {Γ00 Γ : Ctx} {fr:Fr} {E:Nat->Prop} (hi:SInv fid Γ00 Γ is T val A fr E) {j:Nat} {J:I} (hjl':j<=is.length) (hJ:full[j]?=some J) (hE : ¬ E j) (hA : ∀ i,A i j->E i) :
  (∀ t∈J.looks,fr.get t=(T j).1.get t) /\
  (j<is.length -> ∀ v σ1,qaj C (T j).1 (T j).2 J.op=some (v,σ1)->(qaq (T j).1 J.guard=some true->es[j]?=some (qbD (T j).1 (T j).2 J.op))->qaq (T j).1 J.guard=some true ->
   ∃ σ2,qaj C fr Γ.σ J.op=some (v,σ2)/\(J.op.chain=true -> σ2 = σ1)/\(J.op.chain=false -> σ2 = Γ.σ)) /\
  (J.op.chain=true -> Γ.σ = (T j).2):=by
 have hsP:=hs.pre hpre
 obtain⟨tf1,tf2⟩:=qeu hsP ht j hjl'
 have hlook : ∀ t∈J.looks,fr.get t=(T j).1.get t:=fun t ht'=>by
  by_cases hw : ∃ (i:Nat) (I:Pm.I),full[i]?=some I/\I.dst=some t
  ·obtain⟨i,I,hI,hd⟩:=hw
   have only : ∀ (i':Nat) (I':Pm.I),full[i']?=some I'->I'.dst=some t->i'=i:=fun i' I' hI' hd'=>by
    by_cases e:i'=i
    ·exact e
    ·exact absurd hd (hs.uniq i' i I' I t hI' hI e hd')
   have both : ¬ E i -> ¬ i<j->fr.get t=(T j).1.get t:=fun h1 h2=>by
    rw[hi.fr2 t (fun i' I' hE' hI' hd'=>by have:=only i' I' (hpre _ _ hI') hd'; subst this; exact h1 hE'),tf2 t (fun i' I' hlt hI' hd'=>by have:=only i' I' (hpre _ _ hI') hd'; subst this; exact h2 hlt)]
   by_cases e:i=j
   ·subst e; exact both hE (by omega)
   ·rcases hs.look i j I J t hI hJ e hd ht' with hij | hji
    ·have hlt:=hs.lt i j hij
     have hIP:=hpre' i I (by omega) hI
     rw[hi.fr1 i I t (hA i hij) hIP hd,tf1 i I t hlt hIP hd]
    ·exact both (fun h=>hE (hi.down j i h hji)) (by have:=hs.lt j i hji; omega)
  ·have hw' : ∀ (i:Nat) (I:Pm.I),full[i]?=some I->I.dst≠some t:=fun i I hI hd=>hw ⟨i,I,hI,hd⟩
   rw[hi.fr2 t (fun i I _ hI=>hw' i I (hpre _ _ hI)),tf2 t (fun i I _ hI=>hw' i I (hpre _ _ hI))]
 have hkj0:J.op.chain=true -> Γ.σ = (T j).2:=fun hc=>by
  obtain⟨K,hK,hσ,hK1,hK2⟩:=hi.stage
  have hle:K<=j:=by grind
  rw[hσ]
  refine (qis ht hle hjl' fun i I h1 h2 hI=>?_).symm
  cases hci:I.op.chain with
  | false=>rfl
  | true=>
   exfalso
   rcases hs.chn i j I J (hpre _ _ hI) hJ (by omega) hci hc with h | h
   ·have:=hK1 i I (hA i h) hI hci; omega
   ·have:=hs.lt j i h; omega
 refine⟨hlook,fun hjl v σ1 hrun hev hwant=>?_,hkj0⟩
 have hs:=hsP
 have hJ:=hpre' j J hjl hJ
 have hcong:=fun σ => qhi (C:=C) (fr:=fr) (fr':=(T j).1) (op:=J.op) (fun t ht'=>hlook t (by simp[I.looks,ht'])) σ
 obtain⟨K,hK,hσ,hK1,hK2⟩:=hi.stage
 have hKj:J.op.chain=true->K<=j:=fun hc=>by grind
 by_cases hc:J.op.chain=true
 ·grind
 ·have hc':J.op.chain=false:=by simpa using hc
  obtain⟨_,h2⟩:=qfY hc' hrun
  refine⟨Γ.σ,?_,fun h=>absurd h hc,fun _=>rfl⟩
  rw[(hcong _).1]
  by_cases hq : ∃ agg n x p,J.op = .load agg n x/\x.ev (T j).1=some p /\ ∀ q∈J.un,q<is.length->qbp (T (q+1)).2 agg n p=qbp (T q).2 agg n p
  ·-- a load of what nothing around it changes
   obtain⟨agg,n,x,p,e1,e2,e3⟩:=hq
   have hreads:J.op.reads=true:=by rw[e1]; rfl
   have hL:qbp Γ.σ agg n p=qbp (T j).2 agg n p:=by
    rw[hσ]
    rcases Nat.le_total K j with hle | hle
    ·refine (qkc (fun σ => qbp σ agg n p) ht hle (by omega) fun i I h1 h2 hI hci=>?_).symm
     refine e3 i ?_ (by omega)
     rcases hs.rd i j I J hI hJ (by omega) hci hreads with h | h | h
     ·have:=hK1 i I (hA i h) hI hci; omega
     ·have:=hs.lt j i h; omega
     ·exact h
    ·refine qkc (fun σ => qbp σ agg n p) ht hle hK fun i I h1 h2 hI hci=>?_
     have hne:i≠j:=fun e=>by subst e; rw[hJ] at hI; cases hI; exact hc hci
     have hEi:=hK2 i I h2 hI hci
     refine e3 i ?_ (by omega)
     rcases hs.rd i j I J hI hJ hne hci hreads with h | h | h
     ·have:=hs.lt i j h; omega
     ·exact absurd (hi.down j i hEi h) hE
     ·exact h
   rw[e1] at hrun ⊢
   simp only[qaj,e2] at hrun ⊢
   rw[hL]
   split at hrun
   ·rename_i u hu; cases hrun; rfl
   ·cases hrun
  refine h2 _ fun l hl=>?_
  rw[hσ]
  have hes:=hev hwant
  rw[hl] at hes
  have hal:=(hca j J l hJ hes).resolve_right hq
  have hreads:J.op.reads=true:=by
   cases hop:J.op<;>rw[hop] at hl hc'<;>first | rfl | (simp[qbD] at hl; done) | (cases hc'; done)
  have hlt:l<(T j).2.length:=by
   have key : ∀ {p:Option V},qbJ p = .read l -> ∀ {r:Option (V × S)},r=some (v,σ1)->True:=fun _ _ _=>trivial
   cases hop:J.op<;>rw[hop] at hl hrun hc'<;>first | (simp[qbD] at hl; done) | (cases hc'; done) | skip
   ·rename_i agg n x
    simp only[qaj] at hrun
    split at hrun
    ·rename_i p hp
     simp only[qbD,hp] at hl
     split at hrun
     ·rename_i u hu
      cases p<;>simp only[qbJ] at hl<;>first | (cases hl; done) | skip
      ·grind [qbp]
      ·grind [qbp]
      ·cases hl
       simp[qbp] at hu
     ·cases hrun
    ·cases hrun
   ·rename_i k x
    simp only[qaj] at hrun
    split at hrun
    ·rename_i p hp
     simp only[qbD,hp] at hl
     split at hrun
     ·rename_i u hu
      cases p<;>simp only[qbJ] at hl<;>first | (cases hl; done) | skip
      ·cases hl
       cases k<;>simp[V.len] at hu
      ·cases hl
       cases k<;>simp[V.len] at hu
      ·cases hl
       cases k<;>simp only[V.len] at hu<;>first | (cases hu; done) | skip
       split at hu
       ·grind
       ·cases hu
     ·cases hrun
    ·cases hrun
   ·grind [qaj,qbD,qbJ]
   ·grind [qaj,qbD,qbJ]
  rcases Nat.le_total K j with hle | hle
  ·refine (qi7 ht hle (by omega) fun i I h1 h2 hI hci=>?_).symm
   have hun:i∈J.un:=by
    rcases hs.rd i j I J hI hJ (by omega) hci hreads with h | h | h
    ·have:=hK1 i I (hA i h) hI hci; omega
    ·have:=hs.lt j i h; omega
    ·exact h
   obtain⟨hst | hst,_⟩:=ht.step i I hI
   ·obtain⟨_,r1,r2⟩:=hst
    obtain⟨L,e1,_,_⟩:=qdx hci r1
    rw[e1] at r2
    obtain⟨a1,a2⟩:=qbk hal i hun _ _ r2
    refine⟨by omega,fun n L' h=>?_⟩
    exact (qbk hal i hun n L' h).1
   ·obtain⟨_,_,r1,r2⟩:=hst
    refine⟨?_,fun n L' h=>(qbk hal i hun n L' h).1⟩
    have : ∀ d i',i'+d=j->K<=i'->l<(T i').2.length:=fun d=>by
     induction d with
     | zero => intro i' h _; have:i'=j:=by omega
               subst this; exact hlt
     | succ d ih=>
      intro i' h hKi
      have hn:=ih (i'+1) (by omega) (by omega)
      obtain⟨I',hI'⟩ : ∃ I',is[i']?=some I':=⟨is[i']'(by omega),by simp⟩
      by_cases hci':I'.op.chain=true
      ·have hun':i'∈J.un:=by
        rcases hs.rd i' j I' J hI' hJ (by omega) hci' hreads with h' | h' | h'
        ·have:=hK1 i' I' (hA i' h') hI' hci'; omega
        ·have:=hs.lt j i' h'; omega
        ·exact h'
       obtain⟨hst' | hst',_⟩:=ht.step i' I' hI'
       ·obtain⟨_,r1',r2'⟩:=hst'
        obtain⟨L,e1,_,_⟩:=qdx hci' r1'
        rw[e1] at r2'
        have:=(qbk hal i' hun' _ _ r2').2
        omega
       ·grind
      ·grind [qf4,qaj,qaq,qbD,qdD]
    exact this (j-i) i (by omega) h1
  ·refine qi7 ht hle hK fun i I h1 h2 hI hci=>?_
   have hne:i≠j:=fun e=>by subst e; rw[hJ] at hI; cases hI; exact hc hci
   have hEi:=hK2 i I h2 hI hci
   have hun:i∈J.un:=by
    rcases hs.rd i j I J hI hJ hne hci hreads with h | h | h
    ·have:=hs.lt i j h; omega
    ·exact absurd (hi.down j i hEi h) hE
    ·exact h
   exact⟨Nat.lt_of_lt_of_le hlt (qg5 ht h1 (by omega)),fun n L' h=>(qbk hal i hun n L' h).1⟩
theorem qgy {fr fr':Fr} {op:O} (h : ∀ t∈op.tmps,fr.get t=fr'.get t) (σ : S):qaP C fr σ op=qaP C fr' σ op:=by
 cases op with
 | call f xs=>
  have:=qa8 (xs:=xs) h
  simp only[qaP,this]
 | invoke tbl f xs=>
  have h1:=qaz (x:=f) (fun t ht=>h t (by simp[O.tmps,ht]))
  have h2:=qa8 (xs:=xs) (fun t ht=>h t (by simp[O.tmps,ht]))
  simp only[qaP,h1,h2]
 | callv f xs=>
  have h1:=qaz (x:=f) (fun t ht=>h t (by simp[O.tmps,ht]))
  have h2:=qa8 (xs:=xs) (fun t ht=>h t (by simp[O.tmps,ht]))
  simp only[qaP,h1,h2]
 | panic x=>
  have:=qaz (x:=x) h
  simp only[qaP,this]
 | _=>rfl
theorem qbU {un:Nat->List Nat} : ∀ {l:List Oper} {j:Nat} {is:List I},cIs P ids N true ops un j l=some is->is.length=l.length /\ ∀ (k:Nat) (o:Oper),l[k]?=some o -> ∃ i,is[k]?=some i/\cI P ids N true ops un (j+k) o=some i
 | [],j,is,h=>by simp only[cIs,Option.some.injEq] at h; subst h; simp
 | o::l,j,is,h=>by
  simp only[cIs] at h
  split at h
  ·rename_i i is' h1 h2
   cases h
   obtain⟨k1,k2⟩:=qbU h2
   refine⟨by simp[k1],fun k o' hk=>?_⟩
   cases k with
   | zero=>simp at hk; subst hk; exact⟨i,rfl,h1⟩
   | succ k=>
    obtain⟨i',h3,h4⟩:=k2 k o' (by simpa using hk)
    exact⟨i',by simpa using h3,by rw[show j+(k+1)=j+1+k from by omega]; exact h4⟩
  ·cases h
theorem qb5 {o:Oper} {op:O} (h:qlI P ids N true o=some op):(∃ t d,o.op = .alloc t/\o.dst=some d/\o.guard=none/\op = .fill (N+d))\/(cOp P ids N o.op=some op/\op.isFill=false):=by
 unfold qlI at h
 split at h
 ·grind
 ·cases h
 ·refine .inr ⟨h,?_⟩
  have key : ∀ (q:Op) (op:O),cOp P ids N q=some op->op.isFill=false:=fun q op hq=>by
   cases q<;>simp only[cOp] at hq<;>first
    | (cases hq; done)
    | skip
   all_goals (try simp only[qhp,Option.map_eq_some_iff] at hq)
   all_goals (repeat' (first
    | (cases hq; done)
    | (obtain⟨_,_,rfl⟩:=hq; rfl)
    | (cases hq; rfl)
    | (simp only[Option.map_eq_some_iff] at hq; obtain⟨_,_,rfl⟩:=hq; rfl)
    | split at hq))
  exact key _ _ h
structure Held (Γ00:Ctx) (is:List I) (ops:Array Oper) (P:Program) (N:Nat) (T:Nat->Fr × S):Prop where
 len : Γ00.σ.length<=(T 0).2.length
 at_ : ∀ (j:Nat) (o:Oper) (t d:Nat),ops[j]?=some o->o.op = .alloc t->o.dst=some d -> ∃ l z,(T 0).1.get (N+d)=some (.ptr l 0) /\ Γ00.σ.length<=l/\qbu P t=some z/\(T 0).2[l]?=some (.cells ((qag z).map .dat))
 one : ∀ (j:Nat) (o:Oper) (t d j':Nat) (o':Oper) (t' d' l:Nat),ops[j]?=some o->o.op = .alloc t->o.dst=some d->ops[j']?=some o'->o'.op = .alloc t'->o'.dst=some d' ->
  (T 0).1.get (N+d)=some (.ptr l 0)->(T 0).1.get (N+d')=some (.ptr l 0)->d=d'
theorem drawn (hid:Ties P ids fid) (hC:CSound P fid C) {un:Nat->List Nat} {full:List I} (hc:cIs P ids N true ops un 0 ops.toList=some full) (hsF:Stat ops full A) (hpre : ∀ (k:Nat) (I:Pm.I),is[k]?=some I->full[k]?=some I) (hpre' : ∀ (k:Nat) (I:Pm.I),k<is.length->full[k]?=some I->is[k]?=some I) (ht:Trace C is T val es)
  (hm:is.length=full.length\/(is.length<full.length/\(∀ i,is.length<i->i<full.length->A is.length i) /\ ∃ J u σP,full[is.length]?=some J/\qaq (T is.length).1 J.guard=some true/\qaP C (T is.length).1 (T is.length).2 J.op=some (u,σP)/\J.op.chain=true /\
   ∀ Γ' a' x,Γ'.σ = σP->Real fid Γ'->Step Γ00 Γ'->a'.tmps.size=N->a'.defers=ds->Rep fid Γ' u x->Q (.panic [{ v:=x,recovered:=false }]) a' Γ'.w))
  (hca:qf4 is T es) (hh:Held Γ00 is ops P N T)
  (hk:is.length=full.length -> ∀ Γ' a',Γ'.σ = (T is.length).2->Real fid Γ'->Step Γ00 Γ'->FrRep fid Γ' N (T is.length).1 a'.tmps->a'.defers=ds->Q .normal a' Γ'.w) :
  ∀ (fuel:Nat) (listed:Array Bool) (a:Act) (Γ : Ctx) (fr:Fr),listed.size=ops.size->(∀ i,listed.getD i false=true->i<is.length)->(listed.toList.filter (· == false)).length=fuel ->
   SInv fid Γ00 Γ is T val A fr (fun i=>listed.getD i false=true)->FrRep fid Γ N fr a.tmps->a.defers=ds ->
   wpAnyIn (FR ro) 0 P .any ops Q fuel listed a Γ.w:=by
 have hlen:=(qbU hc).1
 have hs:=hsF.pre hpre
 have hsub:is.length<=full.length:=by rcases hm with h | h<;>omega
 have hfl:full.length=ops.size:=by rw[hlen]; simp
 have hgetF : ∀ (k:Nat) (o:Oper),ops[k]?=some o -> ∃ i,full[k]?=some i/\cI P ids N true ops un k o=some i:=fun k o ho=>by
  have:=(qbU hc).2 k o (by simpa using ho)
  simpa using this
 have hget : ∀ (k:Nat) (o:Oper),k<is.length->ops[k]?=some o -> ∃ i,is[k]?=some i/\cI P ids N true ops un k o=some i:=fun k o hk ho=>by grind
 have fin : ∀ (listed:Array Bool) (a:Act) (Γ : Ctx) (fr:Fr),listed.size=ops.size->(∀ i,listed.getD i false=true->i<is.length)->SInv fid Γ00 Γ is T val A fr (fun i=>listed.getD i false=true)->FrRep fid Γ N fr a.tmps->a.defers=ds ->
   Region.ready .any ops listed=[]->Q .normal a Γ.w:=by
  intro listed a Γ fr hsz hin hi hf hd hr
  have all : ∀ j,j<ops.size->listed.getD j false=true:=fun j=>by
   induction j using Nat.strongRecOn with
   | _ j ih=>
    intro hj
    cases hl:listed.getD j false with
    | true=>rfl
    | false=>
     exfalso
     have:j∈Region.ready .any ops listed:=by
      rw[mem_ready]
      have hjs:j<listed.size:=by omega
      refine⟨?_,ops[j],by simp[hj],fun e he hb=>?_⟩
      ·simp[Array.getD,hjs] at hl ⊢; exact hl
      ·have h1:=(hs.edge j ops[j] e (by simp[hj]) (by simpa using he) hb).1
       have:=hs.lt _ _ h1
       exact ih e.on this (by omega)
     rw[hr] at this; cases this
  obtain⟨K,hK,hσ,hK1,_⟩:=hi.stage
  have hil:is.length=ops.size:=by grind
  have e1 : Γ.σ = (T is.length).2:=by
   rw[hσ]
   refine (qis ht hK (Nat.le_refl _) fun j J h1 h2 hJ=>?_).symm
   cases hcj:J.op.chain with
   | false=>rfl
   | true=>have:=hK1 j J (all j (by omega)) hJ hcj; omega
  obtain⟨f1,f2⟩:=qeu hs ht is.length (Nat.le_refl _)
  refine hk (by omega) Γ a e1 hi.real hi.step ⟨hf.1,fun t v htN hv=>hf.2 t v htN ?_⟩ hd
  by_cases hw : ∃ (i:Nat) (I:Pm.I),is[i]?=some I/\I.dst=some t
  ·obtain⟨i,I,hI,hdI⟩:=hw
   have hi':=(List.getElem?_eq_some_iff.1 hI).1
   rw[hi.fr1 i I t (all i (by omega)) hI hdI,<- hv,f1 i I t hi' hI hdI]
  ·rw[hi.fr2 t (fun i I _ hI hdI=>hw ⟨i,I,hI,hdI⟩),<- hv,f2 t (fun i I _ hI hdI=>hw ⟨i,I,hI,hdI⟩)]
 intro fuel
 induction fuel with
 | zero=>
  intro listed a Γ fr hsz hin hcnt hi hf hd
  have hr:Region.ready .any ops listed=[]:=by
   cases hr:Region.ready .any ops listed with
   | nil=>rfl
   | cons j rest=>
    exfalso
    have hj:j∈Region.ready .any ops listed:=by rw[hr]; simp
    obtain⟨h0,o,ho,_⟩:=mem_ready.1 hj
    have hjs:j<listed.size:=by have:=(Array.getElem?_eq_some_iff.1 ho).1; omega
    have hm:listed[j]∈listed.toList.filter (· == false):=by
     rw[List.mem_filter]
     refine⟨by simp,?_⟩
     simp[Array.getD,hjs] at h0
     simp[h0]
    rw[List.eq_nil_of_length_eq_zero hcnt] at hm
    cases hm
  exact⟨hr,fin listed a Γ fr hsz hin hi hf hd hr⟩
 | succ fuel ih=>
  intro listed a Γ fr hsz hin hcnt hi hf hd
  refine⟨fin listed a Γ fr hsz hin hi hf hd,fun j hj=>?_⟩
  obtain⟨h0,o,ho,hready⟩:=mem_ready.1 hj
  have hjo:j<ops.size:=(Array.getElem?_eq_some_iff.1 ho).1
  have hjs:j<listed.size:=by omega
  have hE : ¬ listed.getD j false=true:=by
   simp[Array.getD,hjs] at h0 ⊢; exact h0
  have hA : ∀ i,A i j->listed.getD i false=true:=fun i hij=>by
   obtain⟨e,he,hb,hor⟩:=hs.back j o i ho hij
   have:=hready e (by simpa using he) hb
   rcases hor with rfl | hor
   ·exact this
   ·exact hi.down i e.on this hor
  rcases Nat.lt_or_ge j is.length with hjl | hjl
  rotate_left
  ·rcases hm with hm | ⟨hm1,hm2,JP,u,σP,hJP,hwP,hrunP,hchP,hkP⟩
   ·omega
   ·by_cases hjm:j=is.length
    ·obtain⟨J,hJ,hcI⟩:=hgetF j o ho
     rw[hjm,hJP] at hJ; cases hJ
     obtain⟨k1,k2,k3,k4⟩:=qbb hcI
     obtain⟨r1,_,r3⟩:=qg6 hsF hpre hpre' ht hca hi (j:=j) (by omega) (by rw[hjm]; exact hJP) hE hA
     have hwcong:qaq fr JP.guard=qaq (T j).1 JP.guard:=by grind [qaq,I.looks]
     unfold wpOpIn
     simp only[ho]
     rw[qa0 (ops:=ops) hf k4 (by rw[hwcong,hjm]; exact hwP)]
     simp only[if_true]
     have hop:cOp P ids N o.op=some JP.op:=by
      rcases qb5 k1 with ⟨t,d,e1,e2,e3,e4⟩ | ⟨hop,hnf⟩
      ·rw[e4] at hchP; cases hchP
      ·exact hop
     refine qfE hid hC hop hi.real hf (v:=u) (σ' := σP) ?_ fun Γ' x f1 f2 f3 f4=>hkP Γ' a x f1 f2 (hi.step.trans f3) hf.1 hd f4
     rw[r3 hchP,qgy (fr:=fr) (fr':=(T j).1) (fun t ht'=>r1 t (by simp[I.looks,ht'])),hjm]
     exact hrunP
    ·grind
  obtain⟨J,hJ,hcI⟩:=hget j o hjl ho
  obtain⟨k1,k2,k3,k4⟩:=qbb hcI
  obtain⟨r1,r2,_⟩:=qg6 hsF hpre hpre' ht hca hi (by omega) (hpre _ _ hJ) hE hA
  have r2:=r2 hjl
  have hwcong:qaq fr J.guard=qaq (T j).1 J.guard:=by grind [qaq,I.looks]
  have hsz':(listed.setIfInBounds j true).size=ops.size:=by simpa using hsz
  have hcnt':((listed.setIfInBounds j true).toList.filter (· == false)).length=fuel:=by
   have hlj:listed.toList[j]?=some false:=by
    simp[Array.getD,hjs] at h0
    simp[hjs,h0]
   have gen : ∀ (l:List Bool) (j:Nat),l[j]?=some false->((l.set j true).filter (· == false)).length+1=(l.filter (· == false)).length:=by
    intro l
    induction l with
    | nil=>intro j h; simp at h
    | cons b l ih'=>
     intro j h
     cases j with
     | zero=>simp at h; subst h; simp
     | succ j=>
      have:=ih' j (by simpa using h)
      cases b<;>simp_all
   have:=gen listed.toList j hlj
   rw[Array.toList_setIfInBounds]
   omega
  have hin' : ∀ i,(listed.setIfInBounds j true).getD i false=true->i<is.length:=fun i h=>by
   by_cases e:i=j
   ·omega
   ·rw[getD_set_ne false (Ne.symm e)] at h; exact hin i h
  have hE' : ∀ i,(listed.setIfInBounds j true).getD i false=true↔(listed.getD i false=true\/i=j):=fun i=>by
   by_cases e:i=j
   ·subst e; simp[Array.getD,hjs]
   ·rw[getD_set_ne false (Ne.symm e)]; simp[e]
  have go : ∀ (Γ':Ctx) (x:Value),Real fid Γ'->Step Γ00 Γ'->Ext Γ Γ'->Rep fid Γ' (val j) x ->
    (J.op.chain=true->qaq (T j).1 J.guard=some true -> Γ'.σ = (T (j+1)).2)->((J.op.chain=false\/qaq (T j).1 J.guard=some false) -> Γ'.σ = Γ.σ) ->
    (∀ (i:Nat) (I:Pm.I) (k l:Nat),is[i]?=some I->I.op = .fill k->i≠j->listed.getD i false≠true->(T 0).1.get k=some (.ptr l 0) -> Γ'.μ l=none) ->
    wpAnyIn (FR ro) 0 P .any ops Q fuel (listed.setIfInBounds j true) (a.put o.dst x) Γ'.w:=by
   intro Γ' x g1 g2 g3 g4 g5 g6 g7
   refine ih _ _ Γ' (fr.put J.dst (val j)) hsz' hin' hcnt' ?_ (k2 ▸ FrRep.put (a:=a) (dst:=J.dst) (hf.ext g3) (by rw[k2]; exact k3) g4) (by cases o.dst<;>exact hd)
   obtain⟨K,hK,hσ,hK1,hK2⟩:=hi.stage
   refine⟨g1,g2,?_,fun i I t hEi hI hdI=>?_,fun t hn=>?_,fun i I k l hI hfill hEi hl=>?_,fun i i' hEi hAi=>?_⟩
   ·-- the stage
    by_cases hcj:J.op.chain=true
    ·by_cases hw:qaq (T j).1 J.guard=some true
     ·refine⟨j+1,by have:=(List.getElem?_eq_some_iff.1 hJ).1; omega,g5 hcj hw,fun i I hEi hI hci=>?_,fun i I hlt hI hci=>?_⟩
      ·grind
      ·rw[hE']
       by_cases e:i=j
       ·exact .inr e
       ·rcases hs.chn i j I J hI hJ e hci hcj with h | h
        ·exact .inl (hA i h)
        ·have:=hs.lt j i h; omega
     ·-- an operation that was not wanted
      have hwf:qaq (T j).1 J.guard=some false:=by
       obtain⟨h | h,_⟩:=ht.step j J hJ
       ·exact absurd h.1 hw
       ·exact h.1
      have hTj:(T (j+1)).2=(T j).2:=by
       obtain⟨h | h,_⟩:=ht.step j J hJ
       ·exact absurd h.1 hw
       ·exact h.2.2.1
      have hKj:K<=j:=by grind
      refine⟨j+1,by have:=(List.getElem?_eq_some_iff.1 hJ).1; omega,?_,fun i I hEi hI hci=>?_,fun i I hlt hI hci=>?_⟩
      ·grind
      ·grind
      ·rw[hE']
       by_cases e:i=j
       ·exact .inr e
       ·rcases hs.chn i j I J hI hJ e hci hcj with h | h
        ·exact .inl (hA i h)
        ·have:=hs.lt j i h; omega
    ·grind
   ·rcases (hE' i).1 hEi with h | rfl
    ·have hne:i≠j:=fun e=>hE (e ▸ h)
     have h1:=hi.fr1 i I t h hI hdI
     have h2:J.dst≠some t:=hs.uniq i j I J t hI hJ hne hdI
     cases hdj:J.dst with
     | none=>simpa [Fr.put,hdj] using h1
     | some d=>
      have:d≠t:=fun e=>h2 (by rw[hdj,e])
      simp only[Fr.put,Fr.get,if_neg this]; exact h1
    ·grind [Fr.put,Fr.get]
   ·have hJn:=hn j J ((hE' j).2 (.inr rfl)) hJ
    have h1:=hi.fr2 t (fun i I hEi hI=>hn i I ((hE' i).2 (.inl hEi)) hI)
    cases hdj:J.dst with
    | none=>simpa [Fr.put,hdj] using h1
    | some d=>
     have:d≠t:=fun e=>hJn (by rw[hdj,e])
     simp only[Fr.put,Fr.get,if_neg this]; exact h1
   ·grind
   ·rcases (hE' i').1 hEi with h | rfl
    ·exact (hE' i).2 (.inl (hi.down i i' h hAi))
    ·exact (hE' i).2 (.inl (hA i hAi))
  have hplace : ∀ (i:Nat) (I:Pm.I) (k l:Nat),is[i]?=some I->I.op = .fill k->(T 0).1.get k=some (.ptr l 0)->l < Γ.σ.length /\ Γ00.σ.length<=l:=fun i I k l hI hfill hl=>by
   have hil:=(List.getElem?_eq_some_iff.1 hI).1
   obtain⟨o',ho'⟩ : ∃ o',ops[i]?=some o':=⟨ops[i]'(by omega),by simp⟩
   obtain⟨I',hI',hcI'⟩:=hget i o' hil ho'
   rw[hI] at hI'; cases hI'
   obtain⟨q1,_⟩:=qbb hcI'
   rcases qb5 q1 with ⟨t,d,e1,e2,_,e3⟩ | ⟨_,e⟩
   ·rw[hfill] at e3; cases e3
    obtain⟨l',z,m1,m2,_,m3⟩:=hh.at_ i o' t d ho' e1 e2
    rw[hl] at m1; cases m1
    obtain⟨K,hK,hσ,_⟩:=hi.stage
    have:=qg5 ht (Nat.zero_le K) hK
    have h3:=(List.getElem?_eq_some_iff.1 m3).1
    exact⟨by rw[hσ]; omega,m2⟩
   ·rw[hfill] at e; cases e
  unfold wpOpIn
  simp only[ho]
  obtain⟨hst,hfr⟩:=ht.step j J hJ
  rcases hst with ⟨hw,hrun,hev⟩ | ⟨hw,hval,hσj,_⟩
  ·rw[qa0 (ops:=ops) hf k4 (by rw[hwcong]; exact hw)]
   simp only[if_true]
   obtain⟨σ2,hrun2,hch,hnc⟩:=r2 _ _ hrun (fun _=>hev) hw
   rcases qb5 k1 with ⟨t,d,e1,e2,e3,e4⟩ | ⟨hop,hnf⟩
   ·-- a qaK allocation
    obtain⟨l,z,m1,m2,m3,m4⟩:=hh.at_ j o t d ho e1 e2
    have hjl:=(List.getElem?_eq_some_iff.1 hJ).1
    have hkey:(T j).1.get (N+d)=(T 0).1.get (N+d):=(qeu hs ht j (by omega)).2 (N+d) (fun i I hlt hI hdI=>by
     have hio:i<ops.size:=Nat.lt_trans hlt hjo
     obtain⟨o',ho'⟩ : ∃ o',ops[i]?=some o':=⟨ops[i],by simp[hio]⟩
     obtain⟨I',hI',hcI'⟩:=hget i o' (List.getElem?_eq_some_iff.1 hI).1 ho'
     rw[hI] at hI'; cases hI'
     obtain⟨_,q2,q3,_⟩:=qbb hcI'
     exact absurd (q3 (N+d) (by rw[<- q2]; exact hdI)) (Nat.not_lt_of_le (Nat.le_add_right N d)))
    have hval:val j = .ptr l 0:=by grind [qaj]
    have hnot : Γ.μ l=none:=hi.hole j J (N+d) l hJ e4 hE m1
    have hobj : Γ.σ[l]?=some (.cells ((qag z).map .dat)):=by
     obtain⟨K,hK,hσ,hK1,hK2⟩:=hi.stage
     rw[hσ,<- m4]
     have hesj:es[j]?=some (.read l):=by
      rw[hev,e4]; simp only[qbD,hkey,m1,qbJ]
     have hal:=(hca j J l hJ hesj).resolve_right (fun ⟨_,_,_,_,e,_⟩=>by rw[e4] at e; cases e)
     refine qi7 ht (Nat.zero_le K) hK fun i I _ h2 hI hci=>?_
     have hne:i≠j:=fun e=>by subst e; rw[hJ] at hI; cases hI; rw[e4] at hci; cases hci
     have hun:i∈J.un:=by
      rcases hs.fl i j I J hI hJ hne hci (by rw[e4]; rfl) with h | h
      ·exact absurd (hi.down j i (hK2 i I h2 hI hci) h) hE
      ·exact h
     have h3:=(List.getElem?_eq_some_iff.1 m4).1
     exact⟨Nat.lt_of_lt_of_le h3 (qg5 ht (Nat.zero_le i) (by omega)),fun n L' h=>(qbk hal i hun n L' h).1⟩
    obtain⟨u1,u2,u3⟩:=qjG hi.real l _ (.cells z.cells t) hobj hnot (fun Γ' e hx=>by
     subst e
     simp only[RepOb,grow,if_pos]
     exact⟨trivial,z.cells,t,qad _ _,Reps_dat.2 (qav (qaV m3))⟩)
    refine qgJ (x := .pointer (some ⟨Γ.w.heap.size,0,none⟩)) (w' := Γ.w.alloc (.cells z.cells t)) (fun _=>trivial) (by simp[e1]) ?_ ?_
    ·simp only[execOp,e1,Instr.alloc,newVar,newRow]
     simp[qaA m3]
    ·refine go _ (.pointer (some ⟨Γ.w.heap.size,0,none⟩)) u1 ⟨hi.step.ext.trans u2,Frm.trans hi.step.ext.size hi.step.frm u3,fun l' hl' hn'=>?_⟩ u2 ?_ (fun h=>by rw[e4] at h; cases h) (fun _=>rfl) (fun i I k l' hI hfill hne hEi hl'=>?_)
     ·simp only[bind]
      rw[if_neg (by omega)]
      exact hi.step.non l' hl' hn'
     ·rw[hval]
      simp only[Rep]
      exact⟨Γ.w.heap.size,by simp[bind],rfl,⟨_,hobj,rfl⟩⟩
     ·simp only[bind]
      have:l'≠l:=fun e=>by
       subst e
       have hil:=(List.getElem?_eq_some_iff.1 hI).1
       obtain⟨o',ho'⟩ : ∃ o',ops[i]?=some o':=⟨ops[i]'(by omega),by simp⟩
       obtain⟨I',hI',hcI'⟩:=hget i o' hil ho'
       rw[hI] at hI'; cases hI'
       obtain⟨q1,q2,_⟩:=qbb hcI'
       rcases qb5 q1 with ⟨t',d',e1',e2',_,e3'⟩ | ⟨_,e'⟩
       ·rw[hfill] at e3'; cases e3'
        have hdd:=hh.one j o t d i o' t' d' _ ho e1 e2 ho' e1' e2' m1 hl'
        subst hdd
        exact hs.uniq i j I J d hI hJ hne (by rw[q2,e2']) (by rw[k2,e2])
       ·rw[hfill] at e'; cases e'
      rw[if_neg this]
      exact hi.hole i I k l' hI hfill hEi hl'
   ·refine qfd hid hC hop hi.real hf hrun2 fun Γ' x f1 f2 f3 f4=>?_
    refine go Γ' x f2 (hi.step.trans f3) f3.ext f4 (fun h _=>by rw[f1,hch h]) (fun h=>?_) (fun i I k l hI hfill hne hEi hl=>?_)
    ·rcases h with h | h
     ·rw[f1,hnc h]
     ·rw[hw] at h; cases h
    ·obtain⟨p1,_⟩:=hplace i I k l hI hfill hl
     exact f3.non l p1 (hi.hole i I k l hI hfill hEi hl)
  ·rw[qa0 (ops:=ops) hf k4 (by rw[hwcong]; exact hw)]
   simp only[Bool.false_eq_true,if_false]
   refine⟨fun _ _=>trivial,go Γ undef hi.real hi.step (.refl _) (by rw[hval]; exact qej) (fun _ h=>by rw[hw] at h; cases h) (fun _=>rfl) (fun i I k l hI hfill hne hEi hl=>hi.hole i I k l hI hfill hEi hl)⟩
end
end Go.Pm
end SN
