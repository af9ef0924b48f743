/- Regions whose order is drawn. Code; functions; the whole run. -/
import Derived.Test.YtpakkndfjpimgaaGreatDoorPmN
import Derived.LoopNIn
import Derived.RangeFuncRecord
import Derived.RecoverIn
set_option linter.unusedSimpArgs false
set_option linter.unusedVariables false
section SR1
namespace Go.Pm
variable {P:Program} {ids:Ids} {fid:Fid}
def qbw (fid:Fid) (Γ : Ctx):Ex->Exit->Prop
 | .normal,e=>e = .normal
 | .exit id,e=>e = .exit id
 | .ret,e=>e = .ret
 | .pan v,e => ∃ x,e = .panic [{ v:=x,recovered:=false }]/\Rep fid Γ v x
def qk0 (fid:Fid) (N:Nat) (fl df:Bool) (Γ0:Ctx) (ds0:List Deferred) (e:Ex) (fr':Fr) (σ':S) (Q:Exit->Act->World->Prop):Prop:=
 ∀ Γ' a' ex,Γ'.σ = σ'->At fid N fl df Γ0 ds0 fr' Γ' a'->qbw fid Γ' e ex->Q ex a' Γ'.w
abbrev Ids.with (ids:Ids) (ow d:Bool):Ids:={ ids with own:=ow,df:=d }
def qjJ (P:Program) (ids:Ids) (fid:Fid) (k:Nat) (b:PC) (fr:Fr) (σ : S) (e:Ex) (fr':Fr) (σ':S):Prop:=
 ∃ m,∀ (N:Nat) (K:Nat->List Nat) (ow d:Bool) (c:Code) (ro:Option Nat) (fl:Bool),comp P (ids.with ow d) N K c=some b->2*N<=dkey->(ro.isSome=true->fl=true)->(fl=true->b.flat=true) -> ∀ (Γ0:Ctx) (ds0:List Deferred) (Γ : Ctx) (a:Act) (Q:Exit->Act->World->Prop),
  Γ0.σ.length=k -> Γ.σ = σ -> At fid N fl d Γ0 ds0 fr Γ a->qk0 fid N fl d Γ0 ds0 e fr' σ' Q->Code.roundsIn (FR ro) 0 P c Q m a Γ.w
def LSound (P:Program) (ids:Ids) (fid:Fid) (C:Task->Option Res):Prop := ∀ k b fr σ e fr' σ',C (.loop k b fr σ)=some (.out e fr' σ')->qjJ P ids fid k b fr σ e fr' σ'
def Codes (P:Program) (ids:Ids) (fid:Fid):Prop := ∀ N c pc,fid.cr N c pc↔2*N<=dkey /\ ∃ K ow d,comp P (ids.with ow d) N K c=some pc
theorem Ties.with (h:Ties P ids fid) (ow d:Bool):Ties P (ids.with ow d) fid:=⟨h.fn,h.ty,h.mt,h.gl⟩
theorem Codes.with (h:Codes P ids fid) (ow d:Bool):Codes P (ids.with ow d) fid:=h
theorem LSound.with {C:Task->Option Res} (h:LSound P ids fid C) (ow d:Bool):LSound P (ids.with ow d) fid C:=h
theorem qbd {fr:Fr} {k:Nat} : ∀ {ks:List Nat},k∈ks->(fr.keep ks).get k=fr.get k
 | [],h=>by cases h
 | j::ks,h=>by
  simp only[Fr.keep]
  by_cases e:j=k
  ·subst e
   cases hg:fr.get j with
   | none=>
    simp only
    by_cases hm:j∈ks
    ·rw[qbd hm,hg]
    ·cases hk:(fr.keep ks).get j with
     | none=>rfl
     | some v=>have:=Fr.get_keep hk; rw[hg] at this; cases this
   | some v=>simp[Fr.get]
  ·have hm:k∈ks:=by
    rcases List.mem_cons.1 h with rfl | h
    ·exact absurd rfl e
    ·exact h
   cases hg:fr.get j with
   | none=>simp only; exact qbd hm
   | some v=>simp only[Fr.get,if_neg e]; exact qbd hm
theorem At.keep {N:Nat} {fl:Bool} {Γ0 Γ : Ctx} {ds0:List Deferred} {fr:Fr} {a:Act} (hat:At fid N fl ids.df Γ0 ds0 fr Γ a) (K:Nat->List Nat) (id:Nat):At fid N fl ids.df Γ0 ds0 (fr.keep (qhq ids K id)) Γ a:=by
 have e:(fr.keep (qhq ids K id)).get dkey=fr.get dkey:=by
  cases hd:ids.df with
  | true=>exact qbd (by simp[qhq,hd])
  | false=>
   rw[hat.nod hd]
   cases hk:(fr.keep (qhq ids K id)).get dkey with
   | none=>rfl
   | some v=>have:=Fr.get_keep hk; rw[hat.nod hd] at this; cases this
 exact⟨hat.real,hat.step,by simp only[Fr.defs,e]; exact hat.marks,hat.frame.keep _,hat.still,fun h=>by rw[e]; exact hat.nod h⟩
theorem qdO {t:Nat} : ∀ {rs:List (Nat × List D)} {base:Nat} {fr:Fr},(∀ p∈rs,p.1≠t)->(qaF base rs fr).get t=fr.get t
 | [],base,fr,_=>rfl
 | (k,z)::rs,base,fr,h=>by
  simp only[qaF]
  rw[qdO fun p hp=>h p (List.mem_cons_of_mem _ hp)]
  simp only[Fr.get]
  rw[if_neg (h (k,z) (by simp))]
theorem qcb {N:Nat} : ∀ {l:List Oper} {rs:List (Nat × List D)},qaK P N l=some rs -> ∀ p∈rs,∃ o∈l,∃ d,o.dst=some d/\p.1=N+d
 | [],rs,h,p,hp=>by simp only[qaK,Option.some.injEq] at h; subst h; cases hp
 | o::l,rs,h,p,hp=>by
  simp only[qaK] at h
  split at h
  ·rename_i t d ho hd
   split at h
   ·rename_i z rs' hz hrs
    cases h
    rcases List.mem_cons.1 hp with rfl | hp
    ·exact⟨o,by simp,d,hd,rfl⟩
    ·obtain⟨o',h1,h2⟩:=qcb hrs p hp
     exact⟨o',List.mem_cons_of_mem _ h1,h2⟩
   ·cases h
  ·obtain⟨o',h1,h2⟩:=qcb h p hp
   exact⟨o',List.mem_cons_of_mem _ h1,h2⟩
theorem qcc {N:Nat} : ∀ {l:List Oper} {rs:List (Nat × List D)},qaK P N l=some rs -> ∀ (base:Nat) (fr:Fr),
  (∀ t,t<N->(qaF base rs fr).get t=fr.get t) /\
  (∀ (j:Nat) (o:Oper) (t d:Nat),l[j]?=some o->o.op = .alloc t->o.dst=some d->(∀ i (o':Oper),l[i]?=some o'->o'.dst=some d->i=j) ->
   ∃ q z,(qaF base rs fr).get (N+d)=some (.ptr (base+q) 0)/\qbu P t=some z/\rs[q]?=some (N+d,qag z))
 | [],rs,h,base,fr=>by
  simp only[qaK,Option.some.injEq] at h; subst h
  exact⟨fun _ _=>rfl,fun j o t d hj=>by simp at hj⟩
 | o::l,rs,h,base,fr=>by
  simp only[qaK] at h
  split at h
  ·rename_i t d ho hd
   split at h
   ·rename_i z rs' hz hrs
    cases h
    simp only[qaF]
    obtain⟨h1,h2⟩:=qcc hrs (base+1) ((N+d,.ptr base 0)::fr)
    refine⟨fun t' ht'=>?_,fun j o' t' d' hj ho' hd' hu=>?_⟩
    ·rw[h1 t' ht']
     simp only[Fr.get]
     rw[if_neg (by have:=Nat.le_add_right N d; omega)]
    ·cases j with
     | zero=>
      simp at hj; subst hj
      rw[ho] at ho'; cases ho'
      rw[hd] at hd'; cases hd'
      refine⟨0,z,?_,hz,rfl⟩
      have key : ∀ {l:List Oper} {rs:List (Nat × List D)},qaK P N l=some rs->(∀ o'∈l,o'.dst≠some d) -> ∀ (base:Nat) (fr:Fr),(qaF base rs fr).get (N+d)=fr.get (N+d):=by
       intro l
       induction l with
       | nil=>intro rs h _ base fr; simp only[qaK,Option.some.injEq] at h; subst h; rfl
       | cons o2 l ih=>
        intro rs h hn base fr
        simp only[qaK] at h
        split at h
        ·rename_i t2 d2 ho2 hd2
         split at h
         ·rename_i z2 rs2 hz2 hrs2
          cases h
          simp only[qaF]
          rw[ih hrs2 (fun o' ho'=>hn o' (List.mem_cons_of_mem _ ho'))]
          simp only[Fr.get]
          rw[if_neg]
          intro e
          have:d2=d:=Nat.add_left_cancel e
          subst this
          exact hn o2 (by simp) hd2
         ·cases h
        ·exact ih h (fun o' ho'=>hn o' (List.mem_cons_of_mem _ ho')) base fr
      rw[key hrs (fun o' ho' hd'=>by
       obtain⟨i,hi⟩:=List.getElem?_of_mem ho'
       have:=hu (i+1) o' (by simpa using hi) hd'
       omega)]
      simp[Fr.get]
     | succ j=>
      obtain⟨q,z',g1,g2,g3⟩:=h2 j o' t' d' (by simpa using hj) ho' hd' (fun i o2 hi hd2=>by
       have:=hu (i+1) o2 (by simpa using hi) hd2
       omega)
      exact⟨q+1,z',by rw[g1]; congr 2; omega,g2,by simpa using g3⟩
   ·cases h
  ·rename_i hno
   obtain⟨h1,h2⟩:=qcc h base fr
   refine⟨h1,fun j o' t' d' hj ho' hd' hu=>?_⟩
   cases j with
   | zero=>
    simp at hj; subst hj
    exact absurd hd' (hno t' d' ho')
   | succ j=>exact h2 j o' t' d' (by simpa using hj) ho' hd' (fun i o2 hi hd2=>by
     have:=hu (i+1) o2 (by simpa using hi) hd2
     omega)
theorem qdP : ∀ {rs:List (Nat × List D)} {q k:Nat} {z:List D},rs[q]?=some (k,z)->(qa2 rs)[q]?=some (.cells (z.map .dat))
 | [],q,k,z,h=>by simp at h
 | (k',z')::rs,0,k,z,h=>by simp at h; obtain⟨rfl,rfl⟩:=h; rfl
 | (k',z')::rs,q+1,k,z,h=>by simpa [qa2] using qdP (rs:=rs) (by simpa using h)
theorem qdj (hid:Ties P ids fid) {C:Task->Option Res} (hC:CSound P fid C) (hm:P.follows .mixedOrders=true) {N:Nat} {ro:Option Nat} {Q:Exit->Act->World->Prop} {ops:Array Oper} {un:Nat->List Nat} {as:List (List Nat)} {id:Nat} {full is:List I}
  {rs:List (Nat × List D)} {fr:Fr} {es:List Ev} {Γ : Ctx} {a:Act} (hc:cIs P ids N true ops un 0 ops.toList=some full) (hrs:qaK P N ops.toList=some rs) (hdr:qe1 ops full as=true) (hr:Real fid Γ) (hf:FrRep fid Γ N fr a.tmps)
  {m:Nat} (his:is=full.take m) {T:Nat->Fr × S} {val:Nat->V} (t0:T 0=(qaF Γ.σ.length rs fr,Γ.σ ++ qa2 rs)) (ht:Trace C is T val es) (hcalm:qf4 is T es)
  (hend:is.length=full.length\/(is.length<full.length/\(∀ i,is.length<i->i<full.length->is.length∈as.getD i []) /\ ∃ J u σP,full[is.length]?=some J/\qaq (T is.length).1 J.guard=some true/\qaP C (T is.length).1 (T is.length).2 J.op=some (u,σP)/\J.op.chain=true /\
   ∀ Γ' a' x,Γ'.σ = σP->Real fid Γ'->Step Γ Γ'->a'.tmps.size=N->a'.defers=a.defers->Rep fid Γ' u x->Q (.panic [{ v:=x,recovered:=false }]) a' Γ'.w))
  (hk:is.length=full.length -> ∀ Γ' a',Γ'.σ = (T is.length).2->Real fid Γ'->Step Γ Γ'->FrRep fid Γ' N (T is.length).1 a'.tmps->a'.defers=a.defers->Q .normal a' Γ'.w) :
  (Code.region id ops true).wpIn (FR ro) 0 P Q a Γ.w:=by
 have hil:full.length=ops.size:=by rw[(qbU hc).1]; simp
 have hs:=qir hil hdr
 have hpre : ∀ (k:Nat) (I:Pm.I),is[k]?=some I->full[k]?=some I:=fun k I h=>by
  rw[his,List.getElem?_take] at h
  split at h
  ·exact h
  ·cases h
 have hpre' : ∀ (k:Nat) (I:Pm.I),k<is.length->full[k]?=some I->is[k]?=some I:=fun k I hk h=>by
  rw[his,List.length_take] at hk
  rw[his,List.getElem?_take_of_lt (by omega)]; exact h
 obtain⟨q1,q2⟩:=qcc hrs Γ.σ.length fr
 have hget : ∀ (k:Nat) (o:Oper),ops[k]?=some o -> ∃ i,full[k]?=some i/\cI P ids N true ops un k o=some i:=fun k o ho=>by
  have:=(qbU hc).2 k o (by simpa using ho)
  simpa using this
 refine wpIn_region_any hm ?_
 let Γ0:Ctx:=⟨Γ.σ ++ qa2 rs,Γ.μ,Γ.F,Γ.w.drew⟩
 have hleft : ∀ l ob,Γ.σ[l]?=some ob->(Γ.σ ++ qa2 rs)[l]?=some ob:=fun l ob h=>by
  rw[List.getElem?_append_left (List.getElem?_eq_some_iff.1 h).1]; exact h
 have hext:Ext Γ Γ0:=⟨Nat.le_refl _,rfl,rfl,rfl,fun _=>Nat.le_refl _,fun _ _ _ _ h=>h,fun _ arr _ _ h=>⟨arr,h,rfl⟩,by simp[Γ0],
  fun l ob h ht=>⟨⟨ob,hleft l ob h,ht⟩,fun _ h=>h⟩,fun l m h=>⟨m,hleft l _ h,Nat.le_refl _,fun h=>h,fun _ _ h=>h⟩,qcr fun l ob h _ => .inl ⟨hleft l ob h,fun _ hb=>⟨hb,fun _ _ ha=>ha⟩⟩⟩
 have hreal:Real fid Γ0:=by
  refine⟨fun l ob b h1 h2=>?_,fun l b h=>?_,hr.inj,hr.imm,Glb.ext hext hr.glb⟩
  ·have hd:=hr.dom l b h2
   have h1' : Γ.σ[l]?=some ob:=by
    simp only[Γ0] at h1
    rw[List.getElem?_append_left hd.1] at h1; exact h1
   exact RepOb.ext hext rfl rfl ob (hr.obs l ob b h1' h2)
  ·have:=hr.dom l b h
   exact⟨by simp[Γ0]; omega,this.2⟩
 have hstep:Step Γ Γ0:=⟨hext,⟨fun _ _ _=>⟨rfl,rfl⟩,fun l _ h _=>⟨l,h⟩⟩,fun _ _ h=>h⟩
 have huniq : ∀ (i j:Nat) (o o':Oper) (d:Nat),ops[i]?=some o->ops[j]?=some o'->o.dst=some d->o'.dst=some d->i=j:=fun i j o o' d ho ho' hd hd'=>by
  by_cases e:i=j
  ·exact e
  ·obtain⟨I,hI,hcI⟩:=hget i o ho
   obtain⟨J,hJ,hcJ⟩:=hget j o' ho'
   have e1:=(qbb hcI).2.1
   have e2:=(qbb hcJ).2.1
   exact absurd (by rw[e2]; exact hd') (hs.uniq i j I J d hI hJ e (by rw[e1]; exact hd))
 have hq : ∀ (j:Nat) (o:Oper) (t d:Nat),ops[j]?=some o->o.op = .alloc t->o.dst=some d -> ∃ q z,(T 0).1.get (N+d)=some (.ptr (Γ.σ.length+q) 0)/\qbu P t=some z/\rs[q]?=some (N+d,qag z):=fun j o t d ho hop hd=>by
  rw[t0]
  exact q2 j o t d (by simpa using ho) hop hd (fun i o' hi hd'=>huniq i j o' o d (by simpa using hi) ho hd' hd)
 have hheld:Held Γ is ops P N T:=by
  refine⟨by rw[t0]; simp,fun j o t d ho hop hd=>?_,fun j o t d j' o' t' d' l ho hop hd ho' hop' hd' h1 h2=>?_⟩
  ·obtain⟨q,z,g1,g2,g3⟩:=hq j o t d ho hop hd
   refine⟨Γ.σ.length+q,z,g1,by omega,g2,?_⟩
   rw[t0]
   simp only
   rw[List.getElem?_append_right (by omega)]
   simpa using qdP g3
  ·obtain⟨q,z,g1,g2,g3⟩:=hq j o t d ho hop hd
   obtain⟨q',z',g1',g2',g3'⟩:=hq j' o' t' d' ho' hop' hd'
   rw[h1] at g1; rw[h2] at g1'
   simp only[Option.some.injEq,V.ptr.injEq] at g1 g1'
   have:q=q':=by omega
   subst this
   rw[g3] at g3'
   simp only[Option.some.injEq,Prod.mk.injEq] at g3'
   exact Nat.add_left_cancel g3'.1
 refine drawn (Γ00 := Γ) (ds:=a.defers) hid hC hc hs hpre hpre' ht ?_ hcalm hheld hk ops.size (Array.replicate ops.size false) a Γ0 (qaF Γ.σ.length rs fr) (by simp) (fun i h=>by simp[Array.getD] at h) (by simp) ?_ ?_ rfl
 ·rcases hend with h | ⟨h1,h2,h3⟩
  ·exact .inl h
  ·exact .inr ⟨h1,fun i g1 g2=>⟨by omega,h2 i g1 g2⟩,h3⟩
 ·have hno : ∀ i,¬ (Array.replicate ops.size false).getD i false=true:=fun i=>by simp[Array.getD]
  refine⟨hreal,hstep,⟨0,Nat.zero_le _,by rw[t0],fun i I h=>absurd h (hno i),fun i I h=>by omega⟩,fun i I t h=>absurd h (hno i),fun t _=>by rw[t0],fun j J k l hJ hfill _ hl=>?_,fun i j h=>absurd h (hno j)⟩
  rw[t0] at hl
  have hJ:=hpre _ _ hJ
  obtain⟨o,ho⟩ : ∃ o,ops[j]?=some o:=by
   have:=(List.getElem?_eq_some_iff.1 hJ).1
   exact⟨ops[j]'(by omega),by simp⟩
  obtain⟨J',hJ',hcJ⟩:=hget j o ho
  rw[hJ] at hJ'; cases hJ'
  rcases qb5 (qbb hcJ).1 with ⟨t,d,e1,e2,_,e⟩ | ⟨_,e⟩
  ·rw[hfill] at e; cases e
   obtain⟨q,z,g1,_,_⟩:=hq j o t d ho e1 e2
   rw[t0] at g1
   simp only at g1
   rw[hl] at g1
   simp only[Option.some.injEq,V.ptr.injEq] at g1
   show Γ.μ l=none
   cases hμ : Γ.μ l with
   | none=>rfl
   | some b=>have:=(hr.dom l b hμ).1; omega
  ·rw[hfill] at e; cases e
 ·refine⟨hf.1,fun t v htN hv=>Rep.ext hext _ _ (hf.2 t v htN ?_)⟩
  rw[<- q1 t htN]; exact hv
theorem qhf {C:Task->Option Res} {N:Nat} {ops:Array Oper} {un:Nat->List Nat} {full is:List I} {rs:List (Nat × List D)} {as:List (List Nat)} {fr:Fr} {base:Nat} {σ : S} {es:List Ev} (hN:2*N<=dkey) (hc:cIs P ids N true ops un 0 ops.toList=some full) (hrs:qaK P N ops.toList=some rs) (hdr:qe1 ops full as=true)
  {m:Nat} (his:is=full.take m) {T:Nat->Fr × S} {val:Nat->V} (t0:T 0=(qaF base rs fr,σ)) (ht:Trace C is T val es):(T is.length).1.get dkey=fr.get dkey:=by
 have hil:full.length=ops.size:=by rw[(qbU hc).1]; simp
 have hs:=qir hil hdr
 have hpre : ∀ (k:Nat) (I:Pm.I),is[k]?=some I->full[k]?=some I:=fun k I h=>by
  rw[his,List.getElem?_take] at h
  split at h
  ·exact h
  ·cases h
 have hpos:0<dkey:=by decide
 have hdst : ∀ (k:Nat) (o:Oper),ops[k]?=some o -> ∀ d,o.dst=some d->d<N:=fun k o ho d hd=>by
  obtain⟨i,_,hi⟩:=(qbU hc).2 k o (by simpa using ho)
  exact (qbb hi).2.2.1 d hd
 rw[(qeu (hs.pre hpre) ht is.length (Nat.le_refl _)).2 dkey fun i I _ hI hd=>?_,t0]
 ·refine qdO fun p hp=>?_
  obtain⟨o,ho,d,h1,h2⟩:=qcb hrs p hp
  obtain⟨k,hk⟩:=List.getElem?_of_mem ho
  have hx:d<N:=hdst k o (by simpa using hk) d h1
  intro e
  rw[h2] at e
  have:N+d<N+N:=Nat.add_lt_add_left hx N
  omega
 ·have hI':=hpre _ _ hI
  have hlt:=(List.getElem?_eq_some_iff.1 hI').1
  obtain⟨o,ho⟩ : ∃ o,ops[i]?=some o:=⟨ops[i]'(by omega),by simp⟩
  obtain⟨I',h1,h2⟩:=(qbU hc).2 i o (by simpa using ho)
  rw[hI'] at h1; cases h1
  have h3:=(qbb h2).2.1
  rw[hd] at h3
  have h4:dkey<N:=(qbb h2).2.2.1 _ h3.symm
  omega
theorem qdQ (hid:Ties P ids fid) {C:Task->Option Res} (hC:CSound P fid C) (hm:P.follows .mixedOrders=true) {N:Nat} (hN:2*N<=dkey) {ro:Option Nat} {fl:Bool} {Γ0:Ctx} {ds0:List Deferred} {Q:Exit->Act->World->Prop} {ops:Array Oper} {un:Nat->List Nat} {as:List (List Nat)} {id:Nat} {is:List I}
  {rs:List (Nat × List D)} {fr fr':Fr} {σ':S} {es:List Ev} {Γ : Ctx} {a:Act} (hc:cIs P ids N true ops un 0 ops.toList=some is) (hrs:qaK P N ops.toList=some rs) (hdr:qe1 ops is as=true) (hat:At fid N fl ids.df Γ0 ds0 fr Γ a)
  (h:qbq C is (qaF Γ.σ.length rs fr) (Γ.σ ++ qa2 rs)=some (es,fr',σ')) (hcalm:qiF es is 0 es=true \/ ∃ ss,qcX C is (qaF Γ.σ.length rs fr) (Γ.σ ++ qa2 rs)=some ss/\qgk es ss is 0 es=true)
  (hk : ∀ Γ' a',Γ'.σ = σ'->At fid N fl ids.df Γ0 ds0 fr' Γ' a'->Q .normal a' Γ'.w) :
  (Code.region id ops true).wpIn (FR ro) 0 P Q a Γ.w:=by
 obtain⟨T,val,t0,tm,ht⟩:=qfy h
 have hcalm:qf4 is T es:=by
  rcases hcalm with hc | ⟨ss,h1,h2⟩
  ·exact qe0 hc
  ·exact qgx ht (by rw[t0]; exact h1) h2
 refine qdj hid hC hm hc hrs hdr hat.real hat.frame (m:=is.length) (List.take_length).symm t0 ht hcalm (.inl rfl) fun _ Γ' a' g1 g2 g3 g4 g5=>?_
 have hd:=qhf hN hc hrs hdr (m:=is.length) (List.take_length).symm t0 ht
 rw[tm] at g1 g4 hd
 exact hk Γ' a' g1 ⟨g2,hat.step.trans g3,by simp only[Fr.defs,hd]; rw[g5]; exact hat.marks.step g3,g4,fun h=>by rw[g5]; exact hat.still h,fun h=>by rw[hd]; exact hat.nod h⟩
theorem qfk (hid:Ties P ids fid) {C:Task->Option Res} (hC:CSound P fid C) (hm:P.follows .mixedOrders=true) {N:Nat} (hN:2*N<=dkey) {ro:Option Nat} {fl:Bool} {Γ0:Ctx} {ds0:List Deferred} {Q:Exit->Act->World->Prop} {ops:Array Oper} {un:Nat->List Nat} {as:List (List Nat)} {id:Nat} {is:List I}
  {rs:List (Nat × List D)} {fr:Fr} {σ':S} {es:List Ev} {p:Nat} {u:V} {Γ : Ctx} {a:Act} (hc:cIs P ids N true ops un 0 ops.toList=some is) (hrs:qaK P N ops.toList=some rs) (hdr:qe1 ops is as=true) (hat:At fid N fl ids.df Γ0 ds0 fr Γ a)
  (h:qa4 C 0 is (qaF Γ.σ.length rs fr) (Γ.σ ++ qa2 rs)=some (p,es,u,σ')) (hcalm:qiF es (is.take p) 0 es=true) (hlast:p∈qgz ops as)
  (hk : ∀ Γ' a' x,Γ'.σ = σ'->At fid N fl ids.df Γ0 ds0 (fr.keep [dkey]) Γ' a'->Rep fid Γ' u x->Q (.panic [{ v:=x,recovered:=false }]) a' Γ'.w) :
  (Code.region id ops true).wpIn (FR ro) 0 P Q a Γ.w:=by
 obtain⟨m,T,val,J,e1,e2,t0,ht,e3,e4⟩:=qet h
 have hpm:p=m:=by omega
 subst hpm
 have hlt:=(List.getElem?_eq_some_iff.1 e2).1
 have hil:is.length=ops.size:=by rw[(qbU hc).1]; simp
 have hl:(is.take p).length=p:=by simp; omega
 simp only[qgz,List.mem_filter,List.mem_range,Bool.and_eq_true,List.all_eq_true,Bool.or_eq_true,decide_eq_true_eq,List.contains_eq_mem] at hlast
 obtain⟨_,hcall,hall⟩:=hlast
 have hchain:J.op.chain=true:=by
  obtain⟨o,ho⟩ : ∃ o,ops[p]?=some o:=⟨ops[p]'(by omega),by simp⟩
  obtain⟨J',h1,h2⟩:=(qbU hc).2 p o (by simpa using ho)
  rw[e2] at h1; cases h1
  rw[ho] at hcall
  simp only at hcall
  obtain⟨k1,_⟩:=qbb h2
  rcases qb5 k1 with ⟨t,d,q1,_⟩ | ⟨hop,_⟩
  ·rw[q1] at hcall; cases hcall
  ·unfold qjv at hcall
   split at hcall
   ·cases hcall
   ·rename_i c hnb ho'
    rw[ho'] at hop
    have e4':=e4
    revert hop e4'
    generalize J.op=jop
    intro hop e4'
    simp only[cOp,qhp] at hop
    split at hop
    ·split at hop
     ·cases hop; rfl
     ·exfalso
      split at hop
      ·cases hop; simp[qaP] at e4'
      ·cases hop; simp[qaP] at e4'
      ·cases hop
     ·cases hop
    ·split at hop
     ·cases hop; rfl
     ·cases hop
    ·split at hop
     ·cases hop; rfl
     ·cases hop
    ·rename_i b hb
     obtain⟨cal,ar,at'⟩:=c
     simp only at hb
     subst hb
     exact (hnb _ _ _ rfl).elim
   ·cases hcall
 refine qdj hid hC hm hc hrs hdr hat.real hat.frame (m:=p) rfl t0 ht (qe0 hcalm) (.inr ⟨by omega,fun i g1 g2=>?_,J,u,σ',by rw[hl]; exact e2,by rw[hl]; exact e3,by rw[hl]; exact e4,hchain,fun Γ' a' x g1 g2 g3 g4 g5 g6=>?_⟩) (fun h=>by omega)
 ·rw[hl] at g1 ⊢
  rcases hall i (by omega) with h | h
  ·omega
  ·exact h
 ·refine hk Γ' a' x g1 ⟨g2,hat.step.trans g3,?_,⟨g4,fun t v htN hv=>?_⟩,fun h=>by rw[g5]; exact hat.still h,fun h=>?_⟩ g6
  ·have e:(fr.keep [dkey]).get dkey=fr.get dkey:=qbd (by simp)
   simp only[Fr.defs,e]
   rw[g5]
   exact hat.marks.step g3
  ·exfalso
   have hne : ∀ {t v},(fr.keep [dkey]).get t=some v->t=dkey:=fun {t v} h=>by
    simp only[Fr.keep] at h
    split at h
    ·simp only[Fr.get] at h
     split at h
     ·rename_i e; exact e.symm
     ·cases h
    ·simp[Fr.get] at h
   have:=hne hv
   have:0<dkey:=by decide
   omega
  ·have e:(fr.keep [dkey]).get dkey=fr.get dkey:=qbd (by simp)
   rw[e]; exact hat.nod h
theorem qdZ {Γ : Ctx} (hr:Real fid Γ) {l b:Nat} {lp:Lp} (ho : Γ.σ[l]?=some (.loop lp)) (hm : Γ.μ l=some b) :
  ∃ L:Loop,Γ.w.heap[b]?=some (.loop L)/\L.params.toList=lp.ps/\L.state=qkt lp.st/\L.pending=lp.pend.map Ex.code /\
   (∃ N,fid.cr N L.assign lp.assign/\fid.cr N L.body lp.body/\(∀ p∈lp.ps,p<N)/\FrRep fid Γ N lp.fr L.tmps) /\
   ∀ (st:Nat) (pe:Option Ex) (s:LoopState) (j:Option Code),s=qkt st->j=pe.map Ex.code ->
    Real fid ⟨Γ.σ.set l (.loop { lp with st:=st,pend:=pe }),Γ.μ,Γ.F,Γ.w.putObj b (.loop { L with state:=s,pending:=j })⟩ /\
    Step Γ ⟨Γ.σ.set l (.loop { lp with st:=st,pend:=pe }),Γ.μ,Γ.F,Γ.w.putObj b (.loop { L with state:=s,pending:=j })⟩:=by
 have hb:=hr.obs l _ b ho hm
 simp only[RepOb] at hb
 obtain⟨h1,L,h2,h3,h4,h5,N,h6,h7,h8,h9,h10⟩:=hb
 refine⟨L,h2,h3,h4,h5,⟨N,h6,h7,h8,h9⟩,fun st pe s j hs hj=>?_⟩
 subst hs hj
 refine upd hr ho rfl rfl hm ⟨rfl,rfl,rfl,by simp,fun k hk=>World.putObj_heap_other hk⟩ fun hext=>?_
 simp only[RepOb]
 exact⟨h1,_,World.putObj_heap_same (qbv h2),h3,rfl,rfl,N,h6,h7,h8,h9.ext hext,fun l' hl'=>by simpa using h10 l' hl'⟩
theorem qhT {n:Nat} (h:n≠1):qkt n ≠ .busy:=by
 unfold qkt
 split<;>simp_all
end Go.Pm
end SR1
section SR2
namespace Go.Pm
variable {P:Program} {ids:Ids} {fid:Fid}
theorem qke {fr:Fr} {t:Nat} (h:t≠dkey):fr.noD.get t=fr.get t:=by
 induction fr with
 | nil=>rfl
 | cons p fr ih=>
  obtain⟨k,v⟩:=p
  simp only[Fr.noD,List.filter_cons] at ih ⊢
  by_cases hk:k=dkey
  ·subst hk
   simp only[bne_self_eq_false,Bool.false_eq_true,if_false,Fr.get]
   rw[if_neg (Ne.symm h)]; exact ih
  ·have:(k != dkey)=true:=by simpa using hk
   simp only[this,if_true,Fr.get]
   split
   ·rfl
   ·exact ih
theorem qja {fr:Fr} : ∀ l∈qbe fr.noD,l∈qbe fr:=by
 induction fr with
 | nil=>intro l h; exact h
 | cons p fr ih=>
  obtain⟨k,v⟩:=p
  intro l hl
  simp only[Fr.noD,List.filter_cons] at hl ih
  simp only[qbe,List.mem_append]
  split at hl
  ·simp only[qbe,List.mem_append] at hl
   rcases hl with hl | hl
   ·exact .inl hl
   ·exact .inr (ih l hl)
  ·exact .inr (ih l hl)
theorem FrRep.noD {N:Nat} {Γ : Ctx} {fr:Fr} {tmps:Array Value} (hN:2*N<=dkey) (h:FrRep fid Γ N fr tmps):FrRep fid Γ N fr.noD tmps:=
 ⟨h.1,fun t v ht hv=>h.2 t v ht (by
  have hpos:0<dkey:=by decide
  rw[<- qke (show t≠dkey by omega)]; exact hv)⟩
section
variable {C:Task->Option Res} {ro:Option Nat} {fl:Bool}
theorem qaE (hid:Ties P ids fid) (hcr:Codes P ids fid) (hC:CSound P fid C) (hL:LSound P ids fid C) (hm:P.follows .mixedOrders=true) {N:Nat} (hN:2*N<=dkey) (hro:ro.isSome=true->fl=true) {K:Nat->List Nat} : ∀ (c:Code) (pc:PC),comp P ids N K c=some pc ->
  (fl=true->pc.flat=true) -> ∀ (fr:Fr) (e:Ex) (fr':Fr) (σ':S) (Γ0:Ctx) (ds0:List Deferred) (Γ : Ctx) (a:Act) (Q:Exit->Act->World->Prop),
  run C Γ0.σ.length pc fr Γ.σ = some (e,fr',σ')->At fid N fl ids.df Γ0 ds0 fr Γ a->qk0 fid N fl ids.df Γ0 ds0 e fr' σ' Q->c.wpIn (FR ro) 0 P Q a Γ.w
 | .skip,pc,hc,hfl,fr,e,fr',σ',Γ0,ds0,Γ,a,Q,h,hat,hk=>by
  simp only[comp,Option.some.injEq] at hc; subst hc
  simp only[run,Option.some.injEq,Prod.mk.injEq] at h
  obtain⟨rfl,rfl,rfl⟩:=h
  exact wpIn_skip (hk Γ a _ rfl hat rfl)
 | .exit id,pc,hc,hfl,fr,e,fr',σ',Γ0,ds0,Γ,a,Q,h,hat,hk=>by
  simp only[comp,Option.some.injEq] at hc; subst hc
  simp only[run,Option.some.injEq,Prod.mk.injEq] at h
  obtain⟨rfl,rfl,rfl⟩:=h
  exact wpIn_exit (hk Γ a _ rfl hat rfl)
 | .ret,pc,hc,hfl,fr,e,fr',σ',Γ0,ds0,Γ,a,Q,h,hat,hk=>by
  simp only[comp,Option.some.injEq] at hc; subst hc
  simp only[run,Option.some.injEq,Prod.mk.injEq] at h
  obtain⟨rfl,rfl,rfl⟩:=h
  exact wpIn_ret (hk Γ a _ rfl hat rfl)
 | .region id ops false,pc,hc,hfl,fr,e,fr',σ',Γ0,ds0,Γ,a,Q,h,hat,hk=>by
  simp only[comp,Option.map_eq_some_iff] at hc
  obtain⟨is,his,rfl⟩:=hc
  have hnd:fl=true->is.all qbA=true:=fun e=>by
   have:=hfl e
   simp only[PC.flat] at this
   rw[List.all_eq_true] at this ⊢
   intro i hi
   exact this i hi
  simp only[run] at h
  split at h
  ·rename_i fr1 σ1 hrun
   simp only[Option.some.injEq,Prod.mk.injEq] at h
   obtain⟨rfl,rfl,rfl⟩:=h
   exact qeA hid hC hN hro his hnd hat hrun fun Γ' a' g1 g2=>hk Γ' a' _ g1 (g2.keep K id) rfl
  ·split at h
   ·rename_i u fr1 σ1 hrun
    simp only[Option.some.injEq,Prod.mk.injEq] at h
    obtain⟨rfl,rfl,rfl⟩:=h
    exact qel hid hC hN hro his hnd hat hrun fun Γ' a' x g1 g2 g3=>hk Γ' a' _ g1 g2 ⟨x,rfl,g3⟩
   ·cases h
 | .region id ops true,pc,hc,hfl,fr,e,fr',σ',Γ0,ds0,Γ,a,Q,h,hat,hk=>by
  simp only[comp] at hc
  split at hc
  ·rename_i rs is hrs his
   split at hc
   ·rename_i hdr
    cases hc
    simp only[run] at h
    split at h
    ·rename_i es fr1 σ1 hrun
     split at h
     ·rename_i hcalm
      simp only[Option.some.injEq,Prod.mk.injEq] at h
      obtain⟨rfl,rfl,rfl⟩:=h
      exact qdQ hid hC hm hN his hrs hdr hat hrun (.inl hcalm) fun Γ' a' g1 g2=>hk Γ' a' _ g1 (g2.keep K id) rfl
     ·split at h
      ·rename_i ss hss
       split at h
       ·rename_i hc2
        simp only[Option.some.injEq,Prod.mk.injEq] at h
        obtain⟨rfl,rfl,rfl⟩:=h
        exact qdQ hid hC hm hN his hrs hdr hat hrun (.inr ⟨ss,hss,hc2⟩) fun Γ' a' g1 g2=>hk Γ' a' _ g1 (g2.keep K id) rfl
       ·cases h
      ·cases h
    ·split at h
     ·rename_i p es u σ1 hrun
      split at h
      ·rename_i hcond
       simp only[Bool.and_eq_true,List.contains_eq_mem,decide_eq_true_eq] at hcond
       simp only[Option.some.injEq,Prod.mk.injEq] at h
       obtain⟨rfl,rfl,rfl⟩:=h
       exact qfk hid hC hm hN his hrs hdr hat hrun hcond.2 hcond.1 fun Γ' a' x g1 g2 g3=>hk Γ' a' _ g1 g2 ⟨x,rfl,g3⟩
      ·cases h
     ·cases h
   ·cases hc
  ·cases hc
 | .seq x y,pc,hc,hfl,fr,e,fr',σ',Γ0,ds0,Γ,a,Q,h,hat,hk=>by
  simp only[comp] at hc
  split at hc
  ·rename_i p q hp hq
   cases hc
   simp only[PC.flat,Bool.and_eq_true] at hfl
   simp only[run] at h
   split at h
   ·rename_i fr1 σ1 hx
    refine wpIn_seq (qaE hid hcr hC hL hm hN hro x p hp (fun h=>(hfl h).1) fr .normal fr1 σ1 Γ0 ds0 Γ a _ hx hat fun Γ1 a1 ex g1 g2 g3=>?_)
    subst g1
    simp only[qbw] at g3
    subst g3
    exact qaE hid hcr hC hL hm hN hro y q hq (fun h=>(hfl h).2) fr1 e fr' σ' Γ0 ds0 Γ1 a1 Q h g2 hk
   ·rename_i hnn
    refine wpIn_seq (qaE hid hcr hC hL hm hN hro x p hp (fun h=>(hfl h).1) fr e fr' σ' Γ0 ds0 Γ a _ h hat fun Γ1 a1 ex g1 g2 g3=>?_)
    have:=hk Γ1 a1 ex g1 g2 g3
    cases e with
    | normal=>exact absurd h (hnn _ _)
    | exit id=>simp only[qbw] at g3; subst g3; exact this
    | ret=>simp only[qbw] at g3; subst g3; exact this
    | pan v=>simp only[qbw] at g3; obtain⟨x,rfl,_⟩:=g3; exact this
  ·cases hc
 | .cond z x y,pc,hc,hfl,fr,e,fr',σ',Γ0,ds0,Γ,a,Q,h,hat,hk=>by
  simp only[comp] at hc
  split at hc
  ·rename_i z' p q hz hp hq
   cases hc
   simp only[PC.flat,Bool.and_eq_true] at hfl
   simp only[run] at h
   split at h
   ·rename_i hv
    exact wpIn_cond (t:=true) (qaf (qaa hid hat.real hat.frame hz hv)).1 (qaE hid hcr hC hL hm hN hro x p hp (fun h=>(hfl h).1) fr e fr' σ' Γ0 ds0 Γ a Q h hat hk)
   ·rename_i hv
    exact wpIn_cond (t:=false) (qaf (qaa hid hat.real hat.frame hz hv)).1 (qaE hid hcr hC hL hm hN hro y q hq (fun h=>(hfl h).2) fr e fr' σ' Γ0 ds0 Γ a Q h hat hk)
   ·cases h
  ·cases hc
 | .block id x,pc,hc,hfl,fr,e,fr',σ',Γ0,ds0,Γ,a,Q,h,hat,hk=>by
  simp only[comp,Option.map_eq_some_iff] at hc
  obtain⟨p,hp,rfl⟩:=hc
  simp only[PC.flat] at hfl
  simp only[run] at h
  split at h
  ·rename_i id' fr1 σ1 hx
   split at h
   ·rename_i hid'
    simp only[Option.some.injEq,Prod.mk.injEq] at h
    obtain⟨rfl,rfl,rfl⟩:=h
    refine wpIn_block (qaE hid hcr hC hL hm hN hro x p hp hfl fr _ fr1 σ1 Γ0 ds0 Γ a _ hx hat fun Γ1 a1 ex g1 g2 g3=>?_)
    simp only[qbw] at g3
    subst g3
    simp only[Exit.inBlock,hid',if_true]
    exact hk Γ1 a1 _ g1 g2 rfl
   ·rename_i hid'
    simp only[Option.some.injEq,Prod.mk.injEq] at h
    obtain⟨rfl,rfl,rfl⟩:=h
    refine wpIn_block (qaE hid hcr hC hL hm hN hro x p hp hfl fr _ fr1 σ1 Γ0 ds0 Γ a _ hx hat fun Γ1 a1 ex g1 g2 g3=>?_)
    simp only[qbw] at g3
    subst g3
    simp only[Exit.inBlock,hid',if_false]
    exact hk Γ1 a1 _ g1 g2 rfl
  ·rename_i hne
   refine wpIn_block (qaE hid hcr hC hL hm hN hro x p hp hfl fr e fr' σ' Γ0 ds0 Γ a _ h hat fun Γ1 a1 ex g1 g2 g3=>?_)
   have:=hk Γ1 a1 ex g1 g2 g3
   cases e with
   | normal=>simp only[qbw] at g3; subst g3; exact this
   | exit id'=>exact absurd h (hne _ _ _)
   | ret=>simp only[qbw] at g3; subst g3; exact this
   | pan v=>simp only[qbw] at g3; obtain⟨x,rfl,_⟩:=g3; exact this
 | .loop x,pc,hc,hfl,fr,e,fr',σ',Γ0,ds0,Γ,a,Q,h,hat,hk=>by
  simp only[comp,Option.map_eq_some_iff] at hc
  obtain⟨p,hp,rfl⟩:=hc
  simp only[PC.flat] at hfl
  simp only[run] at h
  split at h
  ·rename_i e1 fr1 σ1 hx
   simp only[Option.some.injEq,Prod.mk.injEq] at h
   obtain⟨rfl,rfl,rfl⟩:=h
   obtain⟨m,hs⟩:=hL _ _ _ _ _ _ _ hx
   exact wpIn_loop_rounds m (hs N K ids.own ids.df x ro fl hp hN hro hfl Γ0 ds0 Γ a Q rfl rfl hat hk)
  ·cases h
 | .rangeFunc g ps x y,pc,hc,hfl,fr,e,fr',σ',Γ0,ds0,Γ,a,Q,h,hat,hk=>by
  simp only[comp] at hc
  split at hc
  ·rename_i z p q hz hp hq
   split at hc
   ·rename_i hps
    cases hc
    have hflf:fl=false:=by
     cases fl with
     | false=>rfl
     | true=>have:=hfl rfl; simp[PC.flat] at this
    have hro:ro=none:=by
     cases ro with
     | none=>rfl
     | some r=>rw[hro rfl] at hflf; cases hflf
    subst hro
    simp only[run] at h
    split at h
    ·rename_i id as bs hv
     split at h
     ·rename_i v1 σ1 hcall
      split at hcall
      ·rename_i hlocs
       split at h
       ·rename_i lp hlp
        split at h
        ·cases h
        ·rename_i hst
         have hnp : ∀ {v},lp.pend=some (.pan v)->False:=fun {v} e=>hst (by simp[e,Ex.isPan])
         have hst : ¬ lp.st=1:=fun e=>hst (by simp[e])
         simp only[Option.some.injEq,Prod.mk.injEq] at h
         obtain⟨rfl,rfl,rfl⟩:=h
         have hfv:=qaa hid hat.real hat.frame hz hv
         simp only[Rep] at hfv
         obtain⟨as',bs',e1,e2,e3⟩:=hfv
         refine wpIn_rangeFunc fun fn _=>?_
         obtain⟨r1,s1⟩:=qhS hat.real (.deferred (some []))
         have hD:MarkAt Γ0 ⟨Γ.σ,Γ.μ,Γ.F,Γ.w.alloc (.deferred (some []))⟩ Γ.w.heap.size:=
          ⟨hat.step.ext.size,qad _ _,fun l hl=>by have:=(hat.real.dom l _ hl).2; omega⟩
         obtain⟨r2,s2⟩:=qbi r1 (.loop ⟨fr.noD,ps.toList,p,q,0,none⟩) (.loop { state := .ready,pending:=none,fn,tmps:=a.tmps,params:=ps,assign:=x,body:=y,defers := Γ.w.heap.size }) 0
          (fun Γ' hΓ' hext=>by
           simp only[RepOb]
           refine⟨by rw[hΓ']; simp[grow],_,by rw[hΓ']; exact qad _ _,rfl,rfl,rfl,N,(hcr _ _ _).2 ⟨hN,K,ids.own,ids.df,hp⟩,(hcr _ _ _).2 ⟨hN,K,ids.own,ids.df,hq⟩,fun t ht=>?_,FrRep.noD hN ((hat.frame.ext s1.ext).ext hext),fun l hl=>?_⟩
           ·have:=List.all_eq_true.1 hps t ht
            simpa using this
           ·have:=List.all_eq_true.1 hlocs l (qja l hl)
            have hlt:l < Γ.σ.length:=by simpa using this
            rw[hΓ']; simp; omega)
          (fun h=>absurd h (Nat.lt_irrefl _))
         generalize hΓ2:(⟨Γ.σ ++ [Ob.loop ⟨fr.noD,ps.toList,p,q,0,none⟩],bind Γ.μ Γ.σ.length (Γ.w.alloc (.deferred (some []))).heap.size,grow Γ.F (Γ.w.alloc (.deferred (some []))).heap.size 0,
          (Γ.w.alloc (.deferred (some []))).alloc (.loop { state := .ready,pending:=none,fn,tmps:=a.tmps,params:=ps,assign:=x,body:=y,defers := Γ.w.heap.size })⟩:Ctx) = Γ2 at r2 s2
         have hσ2 : Γ2.σ = Γ.σ ++ [Ob.loop ⟨fr.noD,ps.toList,p,q,0,none⟩]:=by rw[<- hΓ2]
         have hw2 : Γ2.w=(Γ.w.alloc (.deferred (some []))).alloc (.loop { state := .ready,pending:=none,fn,tmps:=a.tmps,params:=ps,assign:=x,body:=y,defers := Γ.w.heap.size }):=by rw[<- hΓ2]
         have hμ2 : Γ2.μ Γ.σ.length=some (Γ.w.heap.size+1):=by rw[<- hΓ2]; simp[bind]
         have s12:=s1.trans s2
         have hyl:Rep fid Γ2 (.yld Γ.σ.length) (.func (.yield (Γ.w.heap.size+1)) #[] #[]):=by
          simp only[Rep]
          exact⟨_,hμ2,rfl,.loop ⟨fr.noD,ps.toList,p,q,0,none⟩,by rw[hσ2]; simp,rfl⟩
         have hargs:Reps fid Γ2 (as++(.yld Γ.σ.length::bs)) (as'++(.func (.yield (Γ.w.heap.size+1)) #[] #[]::bs')):=
          qc9 (Reps.ext s12.ext _ _ e2) ⟨_,_,rfl,hyl,Reps.ext s12.ext _ _ e3⟩
         rw[<- hσ2] at hcall
         obtain⟨k1,k2⟩:=qdJ hC r2 hargs hcall
         refine⟨Γ.w.heap.size+1,[qkq Γ.w.heap.size],Γ2.w,{ target := .fn (.func (fid id)) bs'.toArray,args:=as'.toArray ++ #[.func (.yield (Γ.w.heap.size+1)) #[] #[]] },Γ2.w,fid id,
          (as'.toArray ++ #[.func (.yield (Γ.w.heap.size+1)) #[] #[]])++bs'.toArray,Γ2.w,?_,?_,fun _ _=>trivial,?_,fun h=>by simp[Fence.wide] at h,?_⟩
         ·rw[hw2]; exact run_enterLoop_outer _ _ _ _ _
         ·simp only[resolve,e1,Deferred.ofValue,Sem.run_pure]
          rw[show Array.map a.eval #[Operand.const (Value.func (Fn.yield (Γ.w.heap.size+1)) #[] #[])] = #[Value.func (Fn.yield (Γ.w.heap.size+1)) #[] #[]] from by simp[Act.eval]]
         ·simp only[invoke]
          exact qaw k1 _ _
         ·have ha:(as'.toArray ++ #[Value.func (.yield (Γ.w.heap.size+1)) #[] #[]])++bs'.toArray=(as'++(Value.func (.yield (Γ.w.heap.size+1)) #[] #[]::bs')).toArray:=by simp
          rw[ha]
          refine CallsIn.mono (F:=FR none) k2 ?_
          rintro e' w' ⟨Γ3,v3,rfl,rfl,rfl,r3,s3,_⟩
          have hμ3 : Γ3.μ Γ.σ.length=some (Γ.w.heap.size+1):=(s3.ext.fix _ (.loop ⟨fr.noD,ps.toList,p,q,0,none⟩) (by rw[hσ2]; simp) rfl).2 _ hμ2
          obtain⟨L,q1,_,q3,q4,_,q6⟩:=qdZ r3 hlp hμ3
          obtain⟨r4,s4⟩:=q6 3 lp.pend .exhausted (lp.pend.map Ex.code) rfl rfl
          refine⟨L.pending,_,run_endLoop q1 (by rw[q3]; exact qhT hst),?_⟩
          have hmarks:Marks fid Γ0 ⟨Γ3.σ.set Γ.σ.length (.loop { lp with st:=3,pend:=lp.pend }),Γ3.μ,Γ3.F,Γ3.w.putObj (Γ.w.heap.size+1) (.loop { L with state := .exhausted,pending:=lp.pend.map Ex.code })⟩ ds0 fr.defs ([qkq Γ.w.heap.size]++a.defers):=by
           obtain⟨is,ds',m1,m2,m3,m4⟩:=hat.marks
           have m2':=m2.step ((s12.trans s3).trans s4)
           refine⟨.m Γ.w.heap.size::is,qkq Γ.w.heap.size::ds',by simp[m1],⟨_,_,rfl,⟨rfl,((hD.step s2).step s3).step s4⟩,m2'⟩,List.nodup_cons.2 ⟨fun hmem=>?_,m3⟩,by simpa [qaU] using m4⟩
           have old : ∀ {is:List DI} {ds:List Deferred},DIReps fid Γ0 Γ is ds -> ∀ D∈qbx is,D < Γ.w.heap.size:=by
            intro is
            induction is with
            | nil=>intro ds _ D hD; cases hD
            | cons i is ih=>
             intro ds h D hD
             obtain⟨d,r,_,h1,h2⟩:=h
             cases i with
             | m D'=>
              simp only[qbx,List.mem_cons] at hD
              rcases hD with rfl | hD
              ·exact qbv h1.2.2.1
              ·exact ih h2 D hD
             | c v=>exact ih h2 D hD
           exact absurd (old m2 _ hmem) (Nat.lt_irrefl _)
          have hfin:=hk ⟨Γ3.σ.set Γ.σ.length (.loop { lp with st:=3,pend:=lp.pend }),Γ3.μ,Γ3.F,Γ3.w.putObj (Γ.w.heap.size+1) (.loop { L with state := .exhausted,pending:=lp.pend.map Ex.code })⟩
           { a with defers:=[qkq Γ.w.heap.size]++a.defers }
          have hat':At fid N fl ids.df Γ0 ds0 fr ⟨Γ3.σ.set Γ.σ.length (.loop { lp with st:=3,pend:=lp.pend }),Γ3.μ,Γ3.F,Γ3.w.putObj (Γ.w.heap.size+1) (.loop { L with state := .exhausted,pending:=lp.pend.map Ex.code })⟩ { a with defers:=[qkq Γ.w.heap.size]++a.defers }:=
           ⟨r4,hat.step.trans ((s12.trans s3).trans s4),hmarks,hat.frame.ext ((s12.trans s3).trans s4).ext,fun h=>by (rw[hflf] at h; cases h),hat.nod⟩
          have hLe:({ L with state:=LoopState.exhausted }:Loop)={ L with state := .exhausted,pending:=lp.pend.map Ex.code }:=by rw[<- q4]
          rw[hLe,q4]
          cases hpe:lp.pend with
          | none=>rw[hpe] at hfin hat'; exact hfin .normal rfl hat' rfl
          | some e'=>
           rw[hpe] at hfin hat'
           cases e' with
           | normal=>exact wpIn_skip (hfin .normal rfl hat' rfl)
           | exit id=>exact wpIn_exit (hfin (.exit id) rfl hat' rfl)
           | ret=>exact wpIn_ret (hfin .ret rfl hat' rfl)
           | pan v=>rw[hpe] at hnp; exact (hnp rfl).elim
       ·cases h
      ·cases hcall
     ·cases h
    ·cases h
   ·cases hc
  ·cases hc
 | .scope _,pc,hc,hfl,fr,e,fr',σ',Γ0,ds0,Γ,a,Q,h,hat,hk=>by simp[comp] at hc
 | .label _,pc,hc,hfl,fr,e,fr',σ',Γ0,ds0,Γ,a,Q,h,hat,hk=>by simp[comp] at hc
 | .goto _,pc,hc,hfl,fr,e,fr',σ',Γ0,ds0,Γ,a,Q,h,hat,hk=>by simp[comp] at hc
 | .refuse _,pc,hc,hfl,fr,e,fr',σ',Γ0,ds0,Γ,a,Q,h,hat,hk=>by
  simp only[comp,Option.some.injEq] at hc
  subst hc
  simp[run,X.ev] at h
theorem qc4 : ∀ {vs:List V} {i t:Nat} {v:V},(qaG i vs).get t=some v->i<=t/\vs[t-i]?=some v
 | [],i,t,v,h=>by simp[qaG,Fr.get] at h
 | u::vs,i,t,v,h=>by
  simp only[qaG,Fr.get] at h
  split at h
  ·rename_i e; subst e; cases h; simp
  ·rename_i hne
   obtain⟨h1,h2⟩:=qc4 h
   refine⟨by omega,?_⟩
   rw[show t-i=(t-(i+1))+1 from by omega]
   simpa using h2
def qf7 (tmps:Array Value):ResultVar->Sem Value
 | .tmp t=>pure (tmps.getD t undef)
 | .cell a t=>do loadVar t (<- asAddr (tmps.getD a undef))
theorem qe2 (fn:Func) (tmps:Array Value):results fn tmps=(do
  let vs <- fn.results.mapM (qf7 tmps)
  pure (if h:vs.size=1 then vs[0] else .tuple vs)):=by
 unfold results
 congr 1
theorem qc5 {N:Nat} {Γ : Ctx} (hr:Real fid Γ) {fr:Fr} {tmps:Array Value} (hf:FrRep fid Γ N fr tmps) : ∀ {rs:List ResultVar} {ps:List PR} {vs:List V},qfB P N rs=some ps->qjh fr Γ.σ ps=some vs ->
  ∃ xs:List Value,(rs.mapM (qf7 tmps)).run P Γ.w = .ok xs Γ.w/\Reps fid Γ vs xs
 | [],ps,vs,hc,h=>by
  simp only[qfB,Option.some.injEq] at hc; subst hc
  simp only[qjh,Option.some.injEq] at h; subst h
  exact⟨[],by simp,rfl⟩
 | .tmp t::rs,ps,vs,hc,h=>by
  simp only[qfB] at hc
  split at hc
  ·rename_i htN
   simp only[Option.map_eq_some_iff] at hc
   obtain⟨ps',hps,rfl⟩:=hc
   simp only[qjh] at h
   split at h
   ·rename_i v vs' hv hvs
    cases h
    obtain⟨xs,h1,h2⟩:=qc5 hr hf hps hvs
    refine⟨tmps.getD t undef::xs,?_,_,_,rfl,hf.2 t v htN hv,h2⟩
    simp only[List.mapM_cons,qf7,Sem.run_bind,Sem.run_pure,Result.andThen_ok]
    rw[h1]
    simp
   ·cases h
  ·cases hc
 | .cell t ty::rs,ps,vs,hc,h=>by
  simp only[qfB] at hc
  split at hc
  ·rename_i htN
   have fin : ∀ {agg:Bool} {n:Nat} {ps'},qfB P N rs=some ps'->((agg=true/\qam P ty=some true/\qak P ty=some n)\/(agg=false/\qam P ty=some false/\n=1))->ps = .cell t agg n::ps' ->
     ∃ xs:List Value,((ResultVar.cell t ty::rs).mapM (qf7 tmps)).run P Γ.w = .ok xs Γ.w/\Reps fid Γ vs xs:=by
    intro agg n ps' hps hs hp
    subst hp
    simp only[qjh] at h
    split at h
    ·rename_i p hp
     split at h
     ·rename_i v vs' hv hvs
      cases h
      obtain⟨xs,h1,h2⟩:=qc5 hr hf hps hvs
      obtain⟨ad,y,e1,e2,e3⟩:=qfI hr hs (hf.2 t p htN hp) hv
      refine⟨y::xs,?_,_,_,rfl,e3,h2⟩
      simp only[List.mapM_cons,qf7,Sem.run_bind,e1,asAddr,Sem.run_pure,Result.andThen_ok,e2]
      rw[h1]
      simp
     ·cases h
    ·cases h
   split at hc
   ·rename_i n ps' h1 h2 h3; cases hc; exact fin h3 (.inl ⟨rfl,h1,h2⟩) rfl
   ·rename_i ps' h1 h3; cases hc; exact fin h3 (.inr ⟨rfl,h1,rfl⟩) rfl
   ·cases hc
  ·cases hc
theorem qe3 {N:Nat} {Γ : Ctx} : ∀ {ps:List Tmp} {vs:List V} {ys:List Value} {fr:Fr} {tmps:Array Value},FrRep fid Γ N fr tmps->(∀ p∈ps,p<N)->Reps fid Γ vs ys ->
  FrRep fid Γ N (qcP fr ps vs) ((ps.zip ys).foldl (fun t (p,v)=>t.setIfInBounds p v) tmps)
 | [],vs,ys,fr,tmps,hf,_,_=>by cases vs<;>simpa [qcP] using hf
 | p::ps,[],ys,fr,tmps,hf,_,hr=>by simp only[Reps] at hr; subst hr; simpa [qcP] using hf
 | p::ps,v::vs,ys,fr,tmps,hf,hp,hr=>by
  simp only[Reps] at hr
  obtain⟨y,ys',rfl,h1,h2⟩:=hr
  simp only[qcP,List.zip_cons_cons,List.foldl_cons]
  refine qe3 ?_ (fun q hq=>hp q (List.mem_cons_of_mem _ hq)) h2
  exact FrRep.put (a:={ tmps:=tmps,defers:=[] }) (dst:=some p) hf (fun d hd=>by cases hd; exact hp p (by simp)) h1
end
end Go.Pm
end SR2
