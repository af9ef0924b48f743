/- Regions whose order is drawn. -/
import Derived.Test.YtnagipbjopnfpaaGreatDoorPmAL
import Derived.Test.YtnagipbjopnfpaaGreatDoorPmL
import Derived.LoopNIn
import Derived.RangeFuncRecord
import Derived.RecoverIn
import Derived.IntWalk
import Derived.DataReads
import Derived.Below
import Derived.OpenShut
import Derived.FnData
import Derived.LaidMore
set_option linter.unusedSimpArgs false
set_option linter.unusedVariables false
namespace Go.Pm
section
variable{P:Program}{ids:Ids}{fid:Fid}
def qc6(fid:Fid)(Γ : Ctx):Ex->Exit->Prop
 |.normal,e=>e = .normal
 |.exit id,e=>e = .exit id
 |.ret,e=>e = .ret
 |.pan v,e => ∃ x,e = .panic [{ v:=x,recovered:=false }]/\Rep fid Γ v x
def qyE(fid:Fid)(N:Nat)(fl df:Bool)(Γ0:Ctx)(ds0:List Deferred)(e:Ex)(fr':Fr)(σ':S)(Q:Exit->Act->World->Prop):Prop:=
 ∀ Γ' a' ex,Γ'.σ = σ'->At fid N fl df Γ0 ds0 fr' Γ' a'->qc6 fid Γ' e ex->Q ex a' Γ'.w
abbrev Ids.with(ids:Ids)(ow d:Bool):Ids:={ ids with own:=ow,df:=d }
def qvw(P:Program)(ids:Ids)(fid:Fid)(k:Nat)(b:PC)(fr:Fr)(σ : S)(e:Ex)(fr':Fr)(σ':S):Prop:=
 ∃ m,∀ (N:Nat) (K:Nat->List Nat) (ow d:Bool) (c:Code) (ro:Option Nat) (fl:Bool),comp P (ids.with ow d) N K c=some b->2*N<=dkey->(ro.isSome=true->fl=true)->(fl=true->b.flat=true) -> ∀ (Γ0:Ctx) (ds0:List Deferred) (Γ : Ctx) (a:Act) (Q:Exit->Act->World->Prop),
  Γ0.σ.length=k -> Γ.σ = σ -> At fid N fl d Γ0 ds0 fr Γ a->qyE fid N fl d Γ0 ds0 e fr' σ' Q->Code.roundsIn (FR ro) 0 P c Q m a Γ.w
def LSound(P:Program)(ids:Ids)(fid:Fid)(C:Task->Option Res):Prop := ∀ k b fr σ e fr' σ',C (.loop k b fr σ)=some (.out e fr' σ')->qvw P ids fid k b fr σ e fr' σ'
def Codes(P:Program)(ids:Ids)(fid:Fid):Prop := ∀ N c pc,fid.cr N c pc↔2*N<=dkey /\ ∃ K ow d,comp P (ids.with ow d) N K c=some pc
theorem Ties.with(h:Ties P ids fid)(ow d:Bool):Ties P (ids.with ow d) fid:=⟨h.fn,h.ty,h.mt,h.gl⟩
theorem Codes.with(h:Codes P ids fid)(ow d:Bool):Codes P (ids.with ow d) fid:=h
theorem LSound.with{C:Task->Option Res}(h:LSound P ids fid C)(ow d:Bool):LSound P (ids.with ow d) fid C:=h
theorem qcm{fr:Fr}{k:Nat} : ∀ {ks:List Nat},k∈ks->(fr.keep ks).get k=fr.get k
 |[],h=>by cases h
 |j::ks,h=>by
  simp only[Fr.keep]
  by_cases e:j=k
  ·subst e
   cases hg:fr.get j with
   |none=>
    simp only
    by_cases hm:j∈ks
    ·rw[qcm hm,hg]
    ·cases hk:(fr.keep ks).get j with
     |none=>rfl
     |some v=>have:=Fr.get_keep hk; rw[hg] at this; cases this
   |some v=>simp[Fr.get]
  ·have hm:k∈ks:=by
    rcases Wo.1 h with rfl|h
    ·exact absurd rfl e
    ·exact h
   cases hg:fr.get j with
   |none=>simp only; exact qcm hm
   |some v=>simp only[Fr.get,if_neg e]; exact qcm hm
theorem At.keep{N:Nat}{fl:Bool}{Γ0 Γ : Ctx}{ds0:List Deferred}{fr:Fr}{a:Act}(hat:At fid N fl ids.df Γ0 ds0 fr Γ a)(K:Nat->List Nat)(id:Nat):At fid N fl ids.df Γ0 ds0 (fr.keep (qpz ids K id)) Γ a:=by
 have e:(fr.keep (qpz ids K id)).get dkey=fr.get dkey:=by
  cases hd:ids.df with
  |true=>exact qcm (by simp[qpz,hd])
  |false=>
   rw[hat.nod hd]
   cases hk:(fr.keep (qpz ids K id)).get dkey with
   |none=>rfl
   |some v=>have:=Fr.get_keep hk; rw[hat.nod hd] at this; cases this
 exact⟨hat.real,hat.step,by simp only[Fr.defs,e]; exact hat.marks,hat.frame.keep _,hat.still,fun h=>by rw[e]; exact hat.nod h⟩
theorem qhE{t:Nat} : ∀ {rs:List (Nat × List D)} {base:Nat} {fr:Fr},(∀ p∈rs,p.1≠t)->(qbr base rs fr).get t=fr.get t
 |[],base,fr,_=>rfl
 | (k,z)::rs,base,fr,h=>by
  simp only[qbr]
  rw[qhE fun p hp=>h p (WA _ hp)]
  simp only[Fr.get]
  rw[if_neg (h (k,z) (by simp))]
theorem qes{N:Nat} : ∀ {l:List Oper} {rs:List (Nat × List D)},qbD P N l=some rs -> ∀ p∈rs,∃ o∈l,∃ d,o.dst=some d/\p.1=N+d
 |[],rs,h,p,hp=>by simp only[qbD,Wh] at h; subst h; cases hp
 |o::l,rs,h,p,hp=>by
  simp only[qbD] at h
  split at h
  ·rename_i t d ho hd
   split at h
   ·rename_i z rs' hz hrs
    cases h
    rcases Wo.1 hp with rfl|hp
    ·exact⟨o,by simp,d,hd,rfl⟩
    ·obtain⟨o',h1,h2⟩:=qes hrs p hp
     exact⟨o',WA _ h1,h2⟩
   ·cases h
  ·obtain⟨o',h1,h2⟩:=qes h p hp
   exact⟨o',WA _ h1,h2⟩
theorem qet {N:Nat} : ∀ {l:List Oper} {rs:List (Nat × List D)},qbD P N l=some rs -> ∀ (base:Nat) (fr:Fr),
  (∀ t,t<N->(qbr base rs fr).get t=fr.get t) /\
  (∀ (j:Nat) (o:Oper) (t d:Nat),l[j]?=some o->o.op = .alloc t->o.dst=some d->(∀ i (o':Oper),l[i]?=some o'->o'.dst=some d->i=j) ->
   ∃ q z,(qbr base rs fr).get (N+d)=some (.ptr (base+q) 0)/\qc1 P t=some z/\rs[q]?=some (N+d,qay z))
 |[],rs,h,base,fr=>by
  simp only[qbD,Wh] at h; subst h
  exact⟨fun _ _=>rfl,fun j o t d hj=>by simp at hj⟩
 |o::l,rs,h,base,fr=>by
  simp only[qbD] at h
  split at h
  ·rename_i t d ho hd
   split at h
   ·rename_i z rs' hz hrs
    cases h
    simp only[qbr]
    obtain⟨h1,h2⟩:=qet hrs (base+1) ((N+d,.ptr base 0)::fr)
    refine⟨fun t' ht'=>?_,fun j o' t' d' hj ho' hd' hu=>?_⟩
    ·rw[h1 t' ht']
     simp only[Fr.get]
     rw[if_neg (by have:=Nat.le_add_right N d; omega)]
    ·cases j with
     |zero=>
      simp at hj; subst hj
      rw[ho] at ho'; cases ho'
      rw[hd] at hd'; cases hd'
      refine⟨0,z,?_,hz,rfl⟩
      have key : ∀ {l:List Oper} {rs:List (Nat × List D)},qbD P N l=some rs->(∀ o'∈l,o'.dst≠some d) -> ∀ (base:Nat) (fr:Fr),(qbr base rs fr).get (N+d)=fr.get (N+d):=by
       intro l
       induction l with
       |nil=>intro rs h _ base fr; simp only[qbD,Wh] at h; subst h; rfl
       |cons o2 l ih=>
        intro rs h hn base fr
        simp only[qbD] at h
        split at h
        ·rename_i t2 d2 ho2 hd2
         split at h
         ·rename_i z2 rs2 hz2 hrs2
          cases h
          simp only[qbr]
          rw[ih hrs2 (fun o' ho'=>hn o' (WA _ ho'))]
          simp only[Fr.get]
          rw[if_neg]
          intro e
          have:d2=d:=Nat.add_left_cancel e
          subst this
          exact hn o2 (by simp) hd2
         ·cases h
        ·exact ih h (fun o' ho'=>hn o' (WA _ ho')) base fr
      rw[key hrs (fun o' ho' hd'=>by
       obtain⟨i,hi⟩:=List.getElem?_of_mem ho'
       have:=hu (i+1) o' (by simpa using hi) hd'
       omega)]
      simp[Fr.get]
     |succ j=>
      obtain⟨q,z',g1,g2,g3⟩:=h2 j o' t' d' (by simpa using hj) ho' hd' (fun i o2 hi hd2=>by
       have:=hu (i+1) o2 (by simpa using hi) hd2
       omega)
      exact⟨q+1,z',by rw[g1]; congr 2; omega,g2,by simpa using g3⟩
   ·cases h
  ·rename_i hno
   obtain⟨h1,h2⟩:=qet h base fr
   refine⟨h1,fun j o' t' d' hj ho' hd' hu=>?_⟩
   cases j with
   |zero=>
    simp at hj; subst hj
    exact absurd hd' (hno t' d' ho')
   | succ j=>exact h2 j o' t' d' (by simpa using hj) ho' hd' (fun i o2 hi hd2=>by
     have:=hu (i+1) o2 (by simpa using hi) hd2
     omega)
theorem qhF : ∀ {rs:List (Nat × List D)} {q k:Nat} {z:List D},rs[q]?=some (k,z)->(qb4 rs)[q]?=some (.cells (z.map .dat))
 |[],q,k,z,h=>by simp at h
 | (k',z')::rs,0,k,z,h=>by simp at h; obtain⟨rfl,rfl⟩:=h; rfl
 | (k',z')::rs,q+1,k,z,h=>by simpa [qb4] using qhF (rs:=rs) (by simpa using h)
theorem qgp (hid:Ties P ids fid) {C:Task->Option Res} (hC:CSound P fid C) (hm:P.follows .mixedOrders=true) {N:Nat} {ro:Option Nat} {Q:Exit->Act->World->Prop} {ops:Array Oper} {un:Nat->List Nat} {as:List (List Nat)} {id:Nat} {full is:List I}
  {rs:List (Nat × List D)} {fr:Fr} {es:List Ev} {Γ : Ctx} {a:Act} (hc:cIs P ids N true ops un 0 ops.toList=some full) (hrs:qbD P N ops.toList=some rs) (hdr:qkd ops full as=true) (hr:Real fid Γ) (hf:FrRep fid Γ N fr a.tmps)
  {m:Nat} (his:is=full.take m) {T:Nat->Fr × S} {val:Nat->V} (t0:T 0=(qbr Γ.σ.length rs fr,Γ.σ ++ qb4 rs)) (ht:Trace C is T val es) (hcalm:ql3 is T es)
  (hend:is.length=full.length\/(is.length<full.length/\(∀ i,is.length<i->i<full.length->is.length∈as.getD i []) /\ ∃ J u σP,full[is.length]?=some J/\qaR (T is.length).1 J.guard=some true/\qbK C (T is.length).1 (T is.length).2 J.op=some (u,σP)/\J.op.chain=true /\
   ∀ Γ' a' x,Γ'.σ = σP->Real fid Γ'->Step Γ Γ'->a'.tmps.size=N->a'.defers=a.defers->Rep fid Γ' u x->Q (.panic [{ v:=x,recovered:=false }]) a' Γ'.w))
  (hk:is.length=full.length -> ∀ Γ' a',Γ'.σ = (T is.length).2->Real fid Γ'->Step Γ Γ'->FrRep fid Γ' N (T is.length).1 a'.tmps->a'.defers=a.defers->Q .normal a' Γ'.w) :
  (Code.region id ops true).wpIn (FR ro) 0 P Q a Γ.w:=by
 have hil:full.length=ops.size:=by rw[(qd2 hc).1]; simp
 have hs:=qrA hil hdr
 have hpre : ∀ (k:Nat) (I:Pm.I),is[k]?=some I->full[k]?=some I:=fun k I h=>by
  rw[his,W7] at h
  split at h
  ·exact h
  ·cases h
 have hpre' : ∀ (k:Nat) (I:Pm.I),k<is.length->full[k]?=some I->is[k]?=some I:=fun k I hk h=>by
  rw[his,WU] at hk
  rw[his,Yy (by omega)]; exact h
 obtain⟨q1,q2⟩:=qet hrs Γ.σ.length fr
 have hget : ∀ (k:Nat) (o:Oper),ops[k]?=some o -> ∃ i,full[k]?=some i/\cI P ids N true ops un k o=some i:=fun k o ho=>by
  have:=(qd2 hc).2 k o (by simpa using ho)
  simpa using this
 refine wpIn_region_any hm ?_
 let Γ0:Ctx:=⟨Γ.σ ++ qb4 rs,Γ.μ,Γ.F,Γ.w.drew⟩
 have hleft : ∀ l ob,Γ.σ[l]?=some ob->(Γ.σ ++ qb4 rs)[l]?=some ob:=fun l ob h=>by
  rw[WF (Wd.1 h).1]; exact h
 have hext:Ext Γ Γ0:=⟨Wj _,rfl,rfl,rfl,fun _=>Wj _,fun _ _ _ _ h=>h,fun _ arr _ _ h=>⟨arr,h,rfl⟩,by simp[Γ0],
  fun l ob h ht=>⟨⟨ob,hleft l ob h,ht⟩,fun _ h=>h⟩,fun l m h=>⟨m,hleft l _ h,Wj _,fun h=>h,fun _ _ h=>h⟩,qeS fun l ob h _ => .inl ⟨hleft l ob h,fun _ hb=>⟨hb,fun _ _ ha=>ha⟩⟩⟩
 have hreal:Real fid Γ0:=by
  refine⟨fun l ob b h1 h2=>?_,fun l b h=>?_,hr.inj,hr.imm,Glb.ext hext hr.glb⟩
  ·have hd:=hr.dom l b h2
   have h1' : Γ.σ[l]?=some ob:=by
    simp only[Γ0] at h1
    rw[WF hd.1] at h1; exact h1
   exact RepOb.ext hext rfl rfl ob (hr.obs l ob b h1' h2)
  ·have:=hr.dom l b h
   exact⟨by simp[Γ0]; omega,this.2⟩
 have hstep:Step Γ Γ0:=⟨hext,⟨fun _ _ _=>⟨rfl,rfl⟩,fun l _ h _=>⟨l,h⟩⟩,fun _ _ h=>h⟩
 have huniq : ∀ (i j:Nat) (o o':Oper) (d:Nat),ops[i]?=some o->ops[j]?=some o'->o.dst=some d->o'.dst=some d->i=j:=fun i j o o' d ho ho' hd hd'=>by
  by_cases e:i=j
  ·exact e
  ·obtain⟨I,hI,hcI⟩:=hget i o ho
   obtain⟨J,hJ,hcJ⟩:=hget j o' ho'
   have e1:=(qch hcI).2.1
   have e2:=(qch hcJ).2.1
   exact absurd (by rw[e2]; exact hd') (hs.uniq i j I J d hI hJ e (by rw[e1]; exact hd))
 have hq : ∀ (j:Nat) (o:Oper) (t d:Nat),ops[j]?=some o->o.op = .alloc t->o.dst=some d -> ∃ q z,(T 0).1.get (N+d)=some (.ptr (Γ.σ.length+q) 0)/\qc1 P t=some z/\rs[q]?=some (N+d,qay z):=fun j o t d ho hop hd=>by
  rw[t0]
  exact q2 j o t d (by simpa using ho) hop hd (fun i o' hi hd'=>huniq i j o' o d (by simpa using hi) ho hd' hd)
 have hheld:Held Γ is ops P N T:=by
  refine⟨by rw[t0]; simp,fun j o t d ho hop hd=>?_,fun j o t d j' o' t' d' l ho hop hd ho' hop' hd' h1 h2=>?_⟩
  ·obtain⟨q,z,g1,g2,g3⟩:=hq j o t d ho hop hd
   refine⟨Γ.σ.length+q,z,g1,by omega,g2,?_⟩
   rw[t0]
   simp only
   rw[WZ (by omega)]
   simpa using qhF g3
  ·obtain⟨q,z,g1,g2,g3⟩:=hq j o t d ho hop hd
   obtain⟨q',z',g1',g2',g3'⟩:=hq j' o' t' d' ho' hop' hd'
   rw[h1] at g1; rw[h2] at g1'
   simp only[Wh,V.ptr.injEq] at g1 g1'
   have:q=q':=by omega
   subst this
   rw[g3] at g3'
   simp only[Wh,WH] at g3'
   exact Nat.add_left_cancel g3'.1
 refine drawn (Γ00 := Γ) (ds:=a.defers) hid hC hc hs hpre hpre' ht ?_ hcalm hheld hk ops.size (Array.replicate ops.size false) a Γ0 (qbr Γ.σ.length rs fr) (by simp) (fun i h=>by simp[Array.getD] at h) (by simp) ?_ ?_ rfl
 ·rcases hend with h|⟨h1,h2,h3⟩
  ·exact .inl h
  ·exact .inr ⟨h1,fun i g1 g2=>⟨by omega,h2 i g1 g2⟩,h3⟩
 ·have hno : ∀ i,¬ (Array.replicate ops.size false).getD i false=true:=fun i=>by simp[Array.getD]
  refine⟨hreal,hstep,⟨0,WK _,by rw[t0],fun i I h=>absurd h (hno i),fun i I h=>by omega⟩,fun i I t h=>absurd h (hno i),fun t _=>by rw[t0],fun j J k l hJ hfill _ hl=>?_,fun i j h=>absurd h (hno j)⟩
  rw[t0] at hl
  have hJ:=hpre _ _ hJ
  obtain⟨o,ho⟩ : ∃ o,ops[j]?=some o:=by
   have:=(Wd.1 hJ).1
   exact⟨ops[j]'(by omega),by simp⟩
  obtain⟨J',hJ',hcJ⟩:=hget j o ho
  rw[hJ] at hJ'; cases hJ'
  rcases qek (qch hcJ).1 with ⟨t,d,e1,e2,_,e⟩|⟨_,e⟩
  ·rw[hfill] at e; cases e
   obtain⟨q,z,g1,_,_⟩:=hq j o t d ho e1 e2
   rw[t0] at g1
   simp only at g1
   rw[hl] at g1
   simp only[Wh,V.ptr.injEq] at g1
   show Γ.μ l=none
   cases hμ : Γ.μ l with
   |none=>rfl
   |some b=>have:=(hr.dom l b hμ).1; omega
  ·rw[hfill] at e; cases e
 ·refine⟨hf.1,fun t v htN hv=>Rep.ext hext _ _ (hf.2 t v htN ?_)⟩
  rw[<- q1 t htN]; exact hv
theorem qoO {C:Task->Option Res} {N:Nat} {ops:Array Oper} {un:Nat->List Nat} {full is:List I} {rs:List (Nat × List D)} {as:List (List Nat)} {fr:Fr} {base:Nat} {σ : S} {es:List Ev} (hN:2*N<=dkey) (hc:cIs P ids N true ops un 0 ops.toList=some full) (hrs:qbD P N ops.toList=some rs) (hdr:qkd ops full as=true)
  {m:Nat} (his:is=full.take m) {T:Nat->Fr × S} {val:Nat->V} (t0:T 0=(qbr base rs fr,σ)) (ht:Trace C is T val es):(T is.length).1.get dkey=fr.get dkey:=by
 have hil:full.length=ops.size:=by rw[(qd2 hc).1]; simp
 have hs:=qrA hil hdr
 have hpre : ∀ (k:Nat) (I:Pm.I),is[k]?=some I->full[k]?=some I:=fun k I h=>by
  rw[his,W7] at h
  split at h
  ·exact h
  ·cases h
 have hpos:0<dkey:=by decide
 have hdst : ∀ (k:Nat) (o:Oper),ops[k]?=some o -> ∀ d,o.dst=some d->d<N:=fun k o ho d hd=>by
  obtain⟨i,_,hi⟩:=(qd2 hc).2 k o (by simpa using ho)
  exact (qch hi).2.2.1 d hd
 rw[(qi9 (hs.pre hpre) ht is.length (Wj _)).2 dkey fun i I _ hI hd=>?_,t0]
 ·refine qhE fun p hp=>?_
  obtain⟨o,ho,d,h1,h2⟩:=qes hrs p hp
  obtain⟨k,hk⟩:=List.getElem?_of_mem ho
  have hx:d<N:=hdst k o (by simpa using hk) d h1
  intro e
  rw[h2] at e
  have:N+d<N+N:=Nat.add_lt_add_left hx N
  omega
 ·have hI':=hpre _ _ hI
  have hlt:=(Wd.1 hI').1
  obtain⟨o,ho⟩ : ∃ o,ops[i]?=some o:=⟨ops[i]'(by omega),by simp⟩
  obtain⟨I',h1,h2⟩:=(qd2 hc).2 i o (by simpa using ho)
  rw[hI'] at h1; cases h1
  have h3:=(qch h2).2.1
  rw[hd] at h3
  have h4:dkey<N:=(qch h2).2.2.1 _ h3.symm
  omega
theorem qhG (hid:Ties P ids fid) {C:Task->Option Res} (hC:CSound P fid C) (hm:P.follows .mixedOrders=true) {N:Nat} (hN:2*N<=dkey) {ro:Option Nat} {fl:Bool} {Γ0:Ctx} {ds0:List Deferred} {Q:Exit->Act->World->Prop} {ops:Array Oper} {un:Nat->List Nat} {as:List (List Nat)} {id:Nat} {is:List I}
  {rs:List (Nat × List D)} {fr fr':Fr} {σ':S} {es:List Ev} {Γ : Ctx} {a:Act} (hc:cIs P ids N true ops un 0 ops.toList=some is) (hrs:qbD P N ops.toList=some rs) (hdr:qkd ops is as=true) (hat:At fid N fl ids.df Γ0 ds0 fr Γ a)
  (h:qcS C is (qbr Γ.σ.length rs fr) (Γ.σ ++ qb4 rs)=some (es,fr',σ')) (hcalm:qcd es is 0 es=true \/ ∃ ss,qcT C is (qbr Γ.σ.length rs fr) (Γ.σ ++ qb4 rs)=some ss/\qeG es ss is 0 es=true)
  (hk : ∀ Γ' a',Γ'.σ = σ'->At fid N fl ids.df Γ0 ds0 fr' Γ' a'->Q .normal a' Γ'.w) :
  (Code.region id ops true).wpIn (FR ro) 0 P Q a Γ.w:=by
 obtain⟨T,val,t0,tm,ht⟩:=qkX h
 have hcalm:ql3 is T es:=by
  rcases hcalm with hc|⟨ss,h1,h2⟩
  ·exact qkb hc
  ·exact qm2 ht (by rw[t0]; exact h1) h2
 refine qgp hid hC hm hc hrs hdr hat.real hat.frame (m:=is.length) (YB).symm t0 ht hcalm (.inl rfl) fun _ Γ' a' g1 g2 g3 g4 g5=>?_
 have hd:=qoO hN hc hrs hdr (m:=is.length) (YB).symm t0 ht
 rw[tm] at g1 g4 hd
 exact hk Γ' a' g1 ⟨g2,hat.step.trans g3,by simp only[Fr.defs,hd]; rw[g5]; exact hat.marks.step g3,g4,fun h=>by rw[g5]; exact hat.still h,fun h=>by rw[hd]; exact hat.nod h⟩
theorem qkv (hid:Ties P ids fid) {C:Task->Option Res} (hC:CSound P fid C) (hm:P.follows .mixedOrders=true) {N:Nat} (hN:2*N<=dkey) {ro:Option Nat} {fl:Bool} {Γ0:Ctx} {ds0:List Deferred} {Q:Exit->Act->World->Prop} {ops:Array Oper} {un:Nat->List Nat} {as:List (List Nat)} {id:Nat} {is:List I}
  {rs:List (Nat × List D)} {fr:Fr} {σ':S} {es:List Ev} {p:Nat} {u:V} {Γ : Ctx} {a:Act} (hc:cIs P ids N true ops un 0 ops.toList=some is) (hrs:qbD P N ops.toList=some rs) (hdr:qkd ops is as=true) (hat:At fid N fl ids.df Γ0 ds0 fr Γ a)
  (h:qbu C 0 is (qbr Γ.σ.length rs fr) (Γ.σ ++ qb4 rs)=some (p,es,u,σ')) (hcalm:qcd es (is.take p) 0 es=true) (hlast:p∈qm7 ops as)
  (hk : ∀ Γ' a' x,Γ'.σ = σ'->At fid N fl ids.df Γ0 ds0 (fr.keep [dkey]) Γ' a'->Rep fid Γ' u x->Q (.panic [{ v:=x,recovered:=false }]) a' Γ'.w) :
  (Code.region id ops true).wpIn (FR ro) 0 P Q a Γ.w:=by
 obtain⟨m,T,val,J,e1,e2,t0,ht,e3,e4⟩:=qi8 h
 have hpm:p=m:=by omega
 subst hpm
 have hlt:=(Wd.1 e2).1
 have hil:is.length=ops.size:=by rw[(qd2 hc).1]; simp
 have hl:(is.take p).length=p:=by simp; omega
 simp only[qm7,List.mem_filter,List.mem_range,Wq,WD,Yl,decide_eq_true_eq,YF] at hlast
 obtain⟨_,hcall,hall⟩:=hlast
 have hchain:J.op.chain=true:=by
  obtain⟨o,ho⟩ : ∃ o,ops[p]?=some o:=⟨ops[p]'(by omega),by simp⟩
  obtain⟨J',h1,h2⟩:=(qd2 hc).2 p o (by simpa using ho)
  rw[e2] at h1; cases h1
  rw[ho] at hcall
  simp only at hcall
  obtain⟨k1,_⟩:=qch h2
  rcases qek k1 with ⟨t,d,q1,_⟩|⟨hop,_⟩
  ·rw[q1] at hcall; cases hcall
  ·unfold quP at hcall
   split at hcall
   ·cases hcall
   ·rename_i c hnb ho'
    rw[ho'] at hop
    have e4':=e4
    revert hop e4'
    generalize J.op=jop
    intro hop e4'
    simp only[cOp,qpy] at hop
    split at hop
    ·split at hop
     ·cases hop; rfl
     ·exfalso
      split at hop
      ·cases hop; simp[qbK] at e4'
      ·cases hop; simp[qbK] at e4'
      ·cases hop
     ·cases hop
    ·split at hop
     ·cases hop; rfl
     ·cases hop
    ·split at hop
     ·cases hop; rfl
     ·cases hop
    ·rename_i b hb
     obtain⟨cal,ar,at'⟩:=c
     simp only at hb
     subst hb
     exact (hnb _ _ _ rfl).elim
   ·cases hcall
 refine qgp hid hC hm hc hrs hdr hat.real hat.frame (m:=p) rfl t0 ht (qkb hcalm) (.inr ⟨by omega,fun i g1 g2=>?_,J,u,σ',by rw[hl]; exact e2,by rw[hl]; exact e3,by rw[hl]; exact e4,hchain,fun Γ' a' x g1 g2 g3 g4 g5 g6=>?_⟩) (fun h=>by omega)
 ·rw[hl] at g1 ⊢
  rcases hall i (by omega) with h|h
  ·omega
  ·exact h
 ·refine hk Γ' a' x g1 ⟨g2,hat.step.trans g3,?_,⟨g4,fun t v htN hv=>?_⟩,fun h=>by rw[g5]; exact hat.still h,fun h=>?_⟩ g6
  ·have e:(fr.keep [dkey]).get dkey=fr.get dkey:=qcm (by simp)
   simp only[Fr.defs,e]
   rw[g5]
   exact hat.marks.step g3
  ·exfalso
   have hne : ∀ {t v},(fr.keep [dkey]).get t=some v->t=dkey:=fun {t v} h=>by
    simp only[Fr.keep] at h
    split at h
    ·simp only[Fr.get] at h
     split at h
     ·rename_i e; exact e.symm
     ·cases h
    ·simp[Fr.get] at h
   have:=hne hv
   have:0<dkey:=by decide
   omega
  ·have e:(fr.keep [dkey]).get dkey=fr.get dkey:=qcm (by simp)
   rw[e]; exact hat.nod h
theorem qh7 {Γ : Ctx} (hr:Real fid Γ) {l b:Nat} {lp:Lp} (ho : Γ.σ[l]?=some (.loop lp)) (hm : Γ.μ l=some b) :
  ∃ L:Loop,Γ.w.heap[b]?=some (.loop L)/\L.params.toList=lp.ps/\L.state=qx6 lp.st/\L.pending=lp.pend.map Ex.code /\
   (∃ N,fid.cr N L.assign lp.assign/\fid.cr N L.body lp.body/\(∀ p∈lp.ps,p<N)/\FrRep fid Γ N lp.fr L.tmps) /\
   ∀ (st:Nat) (pe:Option Ex) (s:LoopState) (j:Option Code),s=qx6 st->j=pe.map Ex.code ->
    Real fid ⟨Γ.σ.set l (.loop { lp with st:=st,pend:=pe }),Γ.μ,Γ.F,Γ.w.putObj b (.loop { L with state:=s,pending:=j })⟩ /\
    Step Γ ⟨Γ.σ.set l (.loop { lp with st:=st,pend:=pe }),Γ.μ,Γ.F,Γ.w.putObj b (.loop { L with state:=s,pending:=j })⟩:=by
 have hb:=hr.obs l _ b ho hm
 simp only[RepOb] at hb
 obtain⟨h1,L,h2,h3,h4,h5,N,h6,h7,h8,h9,h10⟩:=hb
 refine⟨L,h2,h3,h4,h5,⟨N,h6,h7,h8,h9⟩,fun st pe s j hs hj=>?_⟩
 subst hs hj
 refine upd hr ho rfl rfl hm ⟨rfl,rfl,rfl,by simp,fun k hk=>World.putObj_heap_other hk⟩ fun hext=>?_
 simp only[RepOb]
 exact⟨h1,_,World.putObj_heap_same (qc5 h2),h3,rfl,rfl,N,h6,h7,h8,h9.ext hext,fun l' hl'=>by simpa using h10 l' hl'⟩
theorem qp4{n:Nat}(h:n≠1):qx6 n ≠ .busy:=by
 unfold qx6
 split<;>simp_all
end
section
variable{P:Program}{ids:Ids}{fid:Fid}
theorem qxM{fr:Fr}{t:Nat}(h:t≠dkey):fr.noD.get t=fr.get t:=by
 induction fr with
 |nil=>rfl
 |cons p fr ih=>
  obtain⟨k,v⟩:=p
  simp only[Fr.noD,List.filter_cons] at ih ⊢
  by_cases hk:k=dkey
  ·subst hk
   simp only[bne_self_eq_false,Wn,if_false,Fr.get]
   rw[if_neg (Yj h)]; exact ih
  ·have:(k != dkey)=true:=by simpa using hk
   simp only[this,if_true,Fr.get]
   split
   ·rfl
   ·exact ih
theorem qt0{fr:Fr} : ∀ l∈qct fr.noD,l∈qct fr:=by
 induction fr with
 |nil=>intro l h; exact h
 |cons p fr ih=>
  obtain⟨k,v⟩:=p
  intro l hl
  simp only[Fr.noD,List.filter_cons] at hl ih
  simp only[qct,Wp]
  split at hl
  ·simp only[qct,Wp] at hl
   rcases hl with hl|hl
   ·exact .inl hl
   ·exact .inr (ih l hl)
  ·exact .inr (ih l hl)
theorem FrRep.noD{N:Nat}{Γ : Ctx}{fr:Fr}{tmps:Array Value}(hN:2*N<=dkey)(h:FrRep fid Γ N fr tmps):FrRep fid Γ N fr.noD tmps:=
 ⟨h.1,fun t v ht hv=>h.2 t v ht (by
  have hpos:0<dkey:=by decide
  rw[<- qxM (show t≠dkey by omega)]; exact hv)⟩
section
variable{C:Task->Option Res}{ro:Option Nat}{fl:Bool}
theorem qbq (hid:Ties P ids fid) (hcr:Codes P ids fid) (hC:CSound P fid C) (hL:LSound P ids fid C) (hm:P.follows .mixedOrders=true) {N:Nat} (hN:2*N<=dkey) (hro:ro.isSome=true->fl=true) {K:Nat->List Nat} : ∀ (c:Code) (pc:PC),comp P ids N K c=some pc ->
  (fl=true->pc.flat=true) -> ∀ (fr:Fr) (e:Ex) (fr':Fr) (σ':S) (Γ0:Ctx) (ds0:List Deferred) (Γ : Ctx) (a:Act) (Q:Exit->Act->World->Prop),
  run C Γ0.σ.length pc fr Γ.σ = some (e,fr',σ')->At fid N fl ids.df Γ0 ds0 fr Γ a->qyE fid N fl ids.df Γ0 ds0 e fr' σ' Q->c.wpIn (FR ro) 0 P Q a Γ.w
 |.skip,pc,hc,hfl,fr,e,fr',σ',Γ0,ds0,Γ,a,Q,h,hat,hk=>by
  simp only[comp,Wh] at hc; subst hc
  simp only[run,Wh,WH] at h
  obtain⟨rfl,rfl,rfl⟩:=h
  exact wpIn_skip (hk Γ a _ rfl hat rfl)
 |.exit id,pc,hc,hfl,fr,e,fr',σ',Γ0,ds0,Γ,a,Q,h,hat,hk=>by
  simp only[comp,Wh] at hc; subst hc
  simp only[run,Wh,WH] at h
  obtain⟨rfl,rfl,rfl⟩:=h
  exact wpIn_exit (hk Γ a _ rfl hat rfl)
 |.ret,pc,hc,hfl,fr,e,fr',σ',Γ0,ds0,Γ,a,Q,h,hat,hk=>by
  simp only[comp,Wh] at hc; subst hc
  simp only[run,Wh,WH] at h
  obtain⟨rfl,rfl,rfl⟩:=h
  exact wpIn_ret (hk Γ a _ rfl hat rfl)
 |.region id ops false,pc,hc,hfl,fr,e,fr',σ',Γ0,ds0,Γ,a,Q,h,hat,hk=>by
  simp only[comp,Wi] at hc
  obtain⟨is,his,rfl⟩:=hc
  have hnd:fl=true->is.all qdc=true:=fun e=>by
   have:=hfl e
   simp only[PC.flat] at this
   rw[WD] at this ⊢
   intro i hi
   exact this i hi
  simp only[run] at h
  split at h
  ·rename_i fr1 σ1 hrun
   simp only[Wh,WH] at h
   obtain⟨rfl,rfl,rfl⟩:=h
   exact qjf hid hC hN hro his hnd hat hrun fun Γ' a' g1 g2=>hk Γ' a' _ g1 (g2.keep K id) rfl
  ·split at h
   ·rename_i u fr1 σ1 hrun
    simp only[Wh,WH] at h
    obtain⟨rfl,rfl,rfl⟩:=h
    exact qiM hid hC hN hro his hnd hat hrun fun Γ' a' x g1 g2 g3=>hk Γ' a' _ g1 g2 ⟨x,rfl,g3⟩
   ·cases h
 |.region id ops true,pc,hc,hfl,fr,e,fr',σ',Γ0,ds0,Γ,a,Q,h,hat,hk=>by
  simp only[comp] at hc
  split at hc
  ·rename_i rs is hrs his
   split at hc
   ·rename_i hdr
    cases hc
    simp only[run] at h
    split at h
    ·rename_i es fr1 σ1 hrun
     split at h
     ·rename_i hcalm
      simp only[Wh,WH] at h
      obtain⟨rfl,rfl,rfl⟩:=h
      exact qhG hid hC hm hN his hrs hdr hat hrun (.inl hcalm) fun Γ' a' g1 g2=>hk Γ' a' _ g1 (g2.keep K id) rfl
     ·split at h
      ·rename_i ss hss
       split at h
       ·rename_i hc2
        simp only[Wh,WH] at h
        obtain⟨rfl,rfl,rfl⟩:=h
        exact qhG hid hC hm hN his hrs hdr hat hrun (.inr ⟨ss,hss,hc2⟩) fun Γ' a' g1 g2=>hk Γ' a' _ g1 (g2.keep K id) rfl
       ·cases h
      ·cases h
    ·split at h
     ·rename_i p es u σ1 hrun
      split at h
      ·rename_i hcond
       simp only[Wq,YF,decide_eq_true_eq] at hcond
       simp only[Wh,WH] at h
       obtain⟨rfl,rfl,rfl⟩:=h
       exact qkv hid hC hm hN his hrs hdr hat hrun hcond.2 hcond.1 fun Γ' a' x g1 g2 g3=>hk Γ' a' _ g1 g2 ⟨x,rfl,g3⟩
      ·cases h
     ·cases h
   ·cases hc
  ·cases hc
 |.seq x y,pc,hc,hfl,fr,e,fr',σ',Γ0,ds0,Γ,a,Q,h,hat,hk=>by
  simp only[comp] at hc
  split at hc
  ·rename_i p q hp hq
   cases hc
   simp only[PC.flat,Wq] at hfl
   simp only[run] at h
   split at h
   ·rename_i fr1 σ1 hx
    refine wpIn_seq (qbq hid hcr hC hL hm hN hro x p hp (fun h=>(hfl h).1) fr .normal fr1 σ1 Γ0 ds0 Γ a _ hx hat fun Γ1 a1 ex g1 g2 g3=>?_)
    subst g1
    simp only[qc6] at g3
    subst g3
    exact qbq hid hcr hC hL hm hN hro y q hq (fun h=>(hfl h).2) fr1 e fr' σ' Γ0 ds0 Γ1 a1 Q h g2 hk
   ·rename_i hnn
    refine wpIn_seq (qbq hid hcr hC hL hm hN hro x p hp (fun h=>(hfl h).1) fr e fr' σ' Γ0 ds0 Γ a _ h hat fun Γ1 a1 ex g1 g2 g3=>?_)
    have:=hk Γ1 a1 ex g1 g2 g3
    cases e with
    |normal=>exact absurd h (hnn _ _)
    |exit id=>simp only[qc6] at g3; subst g3; exact this
    |ret=>simp only[qc6] at g3; subst g3; exact this
    |pan v=>simp only[qc6] at g3; obtain⟨x,rfl,_⟩:=g3; exact this
  ·cases hc
 |.cond z x y,pc,hc,hfl,fr,e,fr',σ',Γ0,ds0,Γ,a,Q,h,hat,hk=>by
  simp only[comp] at hc
  split at hc
  ·rename_i z' p q hz hp hq
   cases hc
   simp only[PC.flat,Wq] at hfl
   simp only[run] at h
   split at h
   ·rename_i hv
    exact wpIn_cond (t:=true) (qat (qae hid hat.real hat.frame hz hv)).1 (qbq hid hcr hC hL hm hN hro x p hp (fun h=>(hfl h).1) fr e fr' σ' Γ0 ds0 Γ a Q h hat hk)
   ·rename_i hv
    exact wpIn_cond (t:=false) (qat (qae hid hat.real hat.frame hz hv)).1 (qbq hid hcr hC hL hm hN hro y q hq (fun h=>(hfl h).2) fr e fr' σ' Γ0 ds0 Γ a Q h hat hk)
   ·cases h
  ·cases hc
 |.block id x,pc,hc,hfl,fr,e,fr',σ',Γ0,ds0,Γ,a,Q,h,hat,hk=>by
  simp only[comp,Wi] at hc
  obtain⟨p,hp,rfl⟩:=hc
  simp only[PC.flat] at hfl
  simp only[run] at h
  split at h
  ·rename_i id' fr1 σ1 hx
   split at h
   ·rename_i hid'
    simp only[Wh,WH] at h
    obtain⟨rfl,rfl,rfl⟩:=h
    refine wpIn_block (qbq hid hcr hC hL hm hN hro x p hp hfl fr _ fr1 σ1 Γ0 ds0 Γ a _ hx hat fun Γ1 a1 ex g1 g2 g3=>?_)
    simp only[qc6] at g3
    subst g3
    simp only[Exit.inBlock,hid',if_true]
    exact hk Γ1 a1 _ g1 g2 rfl
   ·rename_i hid'
    simp only[Wh,WH] at h
    obtain⟨rfl,rfl,rfl⟩:=h
    refine wpIn_block (qbq hid hcr hC hL hm hN hro x p hp hfl fr _ fr1 σ1 Γ0 ds0 Γ a _ hx hat fun Γ1 a1 ex g1 g2 g3=>?_)
    simp only[qc6] at g3
    subst g3
    simp only[Exit.inBlock,hid',if_false]
    exact hk Γ1 a1 _ g1 g2 rfl
  ·rename_i hne
   refine wpIn_block (qbq hid hcr hC hL hm hN hro x p hp hfl fr e fr' σ' Γ0 ds0 Γ a _ h hat fun Γ1 a1 ex g1 g2 g3=>?_)
   have:=hk Γ1 a1 ex g1 g2 g3
   cases e with
   |normal=>simp only[qc6] at g3; subst g3; exact this
   |exit id'=>exact absurd h (hne _ _ _)
   |ret=>simp only[qc6] at g3; subst g3; exact this
   |pan v=>simp only[qc6] at g3; obtain⟨x,rfl,_⟩:=g3; exact this
 |.loop x,pc,hc,hfl,fr,e,fr',σ',Γ0,ds0,Γ,a,Q,h,hat,hk=>by
  simp only[comp,Wi] at hc
  obtain⟨p,hp,rfl⟩:=hc
  simp only[PC.flat] at hfl
  simp only[run] at h
  split at h
  ·rename_i e1 fr1 σ1 hx
   simp only[Wh,WH] at h
   obtain⟨rfl,rfl,rfl⟩:=h
   obtain⟨m,hs⟩:=hL _ _ _ _ _ _ _ hx
   exact wpIn_loop_rounds m (hs N K ids.own ids.df x ro fl hp hN hro hfl Γ0 ds0 Γ a Q rfl rfl hat hk)
  ·cases h
 |.rangeFunc g ps x y,pc,hc,hfl,fr,e,fr',σ',Γ0,ds0,Γ,a,Q,h,hat,hk=>by
  simp only[comp] at hc
  split at hc
  ·rename_i z p q hz hp hq
   split at hc
   ·rename_i hps
    cases hc
    have hflf:fl=false:=by
     cases fl with
     |false=>rfl
     |true=>have:=hfl rfl; simp[PC.flat] at this
    have hro:ro=none:=by
     cases ro with
     |none=>rfl
     |some r=>rw[hro rfl] at hflf; cases hflf
    subst hro
    simp only[run] at h
    split at h
    ·rename_i id as bs hv
     split at h
     ·rename_i v1 σ1 hcall
      split at hcall
      ·rename_i hlocs
       split at h
       ·rename_i lp hlp
        split at h
        ·cases h
        ·rename_i hst
         have hnp : ∀ {v},lp.pend=some (.pan v)->False:=fun {v} e=>hst (by simp[e,Ex.isPan])
         have hst : ¬ lp.st=1:=fun e=>hst (by simp[e])
         simp only[Wh,WH] at h
         obtain⟨rfl,rfl,rfl⟩:=h
         have hfv:=qae hid hat.real hat.frame hz hv
         simp only[Rep] at hfv
         obtain⟨as',bs',e1,e2,e3⟩:=hfv
         refine wpIn_rangeFunc fun fn _=>?_
         obtain⟨r1,s1⟩:=qp3 hat.real (.deferred (some []))
         have hD:MarkAt Γ0 ⟨Γ.σ,Γ.μ,Γ.F,Γ.w.alloc (.deferred (some []))⟩ Γ.w.heap.size:=
          ⟨hat.step.ext.size,qal _ _,fun l hl=>by have:=(hat.real.dom l _ hl).2; omega⟩
         obtain⟨r2,s2⟩:=qcB r1 (.loop ⟨fr.noD,ps.toList,p,q,0,none⟩) (.loop { state := .ready,pending:=none,fn,tmps:=a.tmps,params:=ps,assign:=x,body:=y,defers := Γ.w.heap.size }) 0
          (fun Γ' hΓ' hext=>by
           simp only[RepOb]
           refine⟨by rw[hΓ']; simp[grow],_,by rw[hΓ']; exact qal _ _,rfl,rfl,rfl,N,(hcr _ _ _).2 ⟨hN,K,ids.own,ids.df,hp⟩,(hcr _ _ _).2 ⟨hN,K,ids.own,ids.df,hq⟩,fun t ht=>?_,FrRep.noD hN ((hat.frame.ext s1.ext).ext hext),fun l hl=>?_⟩
           ·have:=WD.1 hps t ht
            simpa using this
           ·have:=WD.1 hlocs l (qt0 l hl)
            have hlt:l < Γ.σ.length:=by simpa using this
            rw[hΓ']; simp; omega)
          (fun h=>absurd h (WX _))
         generalize hΓ2:(⟨Γ.σ ++ [Ob.loop ⟨fr.noD,ps.toList,p,q,0,none⟩],bind Γ.μ Γ.σ.length (Γ.w.alloc (.deferred (some []))).heap.size,grow Γ.F (Γ.w.alloc (.deferred (some []))).heap.size 0,
          (Γ.w.alloc (.deferred (some []))).alloc (.loop { state := .ready,pending:=none,fn,tmps:=a.tmps,params:=ps,assign:=x,body:=y,defers := Γ.w.heap.size })⟩:Ctx) = Γ2 at r2 s2
         have hσ2 : Γ2.σ = Γ.σ ++ [Ob.loop ⟨fr.noD,ps.toList,p,q,0,none⟩]:=by rw[<- hΓ2]
         have hw2 : Γ2.w=(Γ.w.alloc (.deferred (some []))).alloc (.loop { state := .ready,pending:=none,fn,tmps:=a.tmps,params:=ps,assign:=x,body:=y,defers := Γ.w.heap.size }):=by rw[<- hΓ2]
         have hμ2 : Γ2.μ Γ.σ.length=some (Γ.w.heap.size+1):=by rw[<- hΓ2]; simp[bind]
         have s12:=s1.trans s2
         have hyl:Rep fid Γ2 (.yld Γ.σ.length) (.func (.yield (Γ.w.heap.size+1)) #[] #[]):=by
          simp only[Rep]
          exact⟨_,hμ2,rfl,.loop ⟨fr.noD,ps.toList,p,q,0,none⟩,by rw[hσ2]; simp,rfl⟩
         have hargs:Reps fid Γ2 (as++(.yld Γ.σ.length::bs)) (as'++(.func (.yield (Γ.w.heap.size+1)) #[] #[]::bs')):=
          qgd (Reps.ext s12.ext _ _ e2) ⟨_,_,rfl,hyl,Reps.ext s12.ext _ _ e3⟩
         rw[<- hσ2] at hcall
         obtain⟨k1,k2⟩:=qhz hC r2 hargs hcall
         refine⟨Γ.w.heap.size+1,[qxV Γ.w.heap.size],Γ2.w,{ target := .fn (.func (fid id)) bs'.toArray,args:=as'.toArray ++ #[.func (.yield (Γ.w.heap.size+1)) #[] #[]] },Γ2.w,fid id,
          (as'.toArray ++ #[.func (.yield (Γ.w.heap.size+1)) #[] #[]])++bs'.toArray,Γ2.w,?_,?_,fun _ _=>trivial,?_,fun h=>by simp[Fence.wide] at h,?_⟩
         ·rw[hw2]; exact run_enterLoop_outer _ _ _ _ _
         ·simp only[resolve,e1,Deferred.ofValue,Sem.run_pure]
          rw[show Array.map a.eval #[Operand.const (Value.func (Fn.yield (Γ.w.heap.size+1)) #[] #[])] = #[Value.func (Fn.yield (Γ.w.heap.size+1)) #[] #[]] from by simp[Act.eval]]
         ·simp only[invoke]
          exact qa7 k1 _ _
         ·have ha:(as'.toArray ++ #[Value.func (.yield (Γ.w.heap.size+1)) #[] #[]])++bs'.toArray=(as'++(Value.func (.yield (Γ.w.heap.size+1)) #[] #[]::bs')).toArray:=by simp
          rw[ha]
          refine CallsIn.mono (F:=FR none) k2 ?_
          rintro e' w' ⟨Γ3,v3,rfl,rfl,rfl,r3,s3,_⟩
          have hμ3 : Γ3.μ Γ.σ.length=some (Γ.w.heap.size+1):=(s3.ext.fix _ (.loop ⟨fr.noD,ps.toList,p,q,0,none⟩) (by rw[hσ2]; simp) rfl).2 _ hμ2
          obtain⟨L,q1,_,q3,q4,_,q6⟩:=qh7 r3 hlp hμ3
          obtain⟨r4,s4⟩:=q6 3 lp.pend .exhausted (lp.pend.map Ex.code) rfl rfl
          refine⟨L.pending,_,run_endLoop q1 (by rw[q3]; exact qp4 hst),?_⟩
          have hmarks:Marks fid Γ0 ⟨Γ3.σ.set Γ.σ.length (.loop { lp with st:=3,pend:=lp.pend }),Γ3.μ,Γ3.F,Γ3.w.putObj (Γ.w.heap.size+1) (.loop { L with state := .exhausted,pending:=lp.pend.map Ex.code })⟩ ds0 fr.defs ([qxV Γ.w.heap.size]++a.defers):=by
           obtain⟨is,ds',m1,m2,m3,m4⟩:=hat.marks
           have m2':=m2.step ((s12.trans s3).trans s4)
           refine⟨.m Γ.w.heap.size::is,qxV Γ.w.heap.size::ds',by simp[m1],⟨_,_,rfl,⟨rfl,((hD.step s2).step s3).step s4⟩,m2'⟩,Yw.2 ⟨fun hmem=>?_,m3⟩,by simpa [qbP] using m4⟩
           have old : ∀ {is:List DI} {ds:List Deferred},DIReps fid Γ0 Γ is ds -> ∀ D∈qc7 is,D < Γ.w.heap.size:=by
            intro is
            induction is with
            |nil=>intro ds _ D hD; cases hD
            |cons i is ih=>
             intro ds h D hD
             obtain⟨d,r,_,h1,h2⟩:=h
             cases i with
             |m D'=>
              simp only[qc7,Wo] at hD
              rcases hD with rfl|hD
              ·exact qc5 h1.2.2.1
              ·exact ih h2 D hD
             |c v=>exact ih h2 D hD
           exact absurd (old m2 _ hmem) (WX _)
          have hfin:=hk ⟨Γ3.σ.set Γ.σ.length (.loop { lp with st:=3,pend:=lp.pend }),Γ3.μ,Γ3.F,Γ3.w.putObj (Γ.w.heap.size+1) (.loop { L with state := .exhausted,pending:=lp.pend.map Ex.code })⟩
           { a with defers:=[qxV Γ.w.heap.size]++a.defers }
          have hat':At fid N fl ids.df Γ0 ds0 fr ⟨Γ3.σ.set Γ.σ.length (.loop { lp with st:=3,pend:=lp.pend }),Γ3.μ,Γ3.F,Γ3.w.putObj (Γ.w.heap.size+1) (.loop { L with state := .exhausted,pending:=lp.pend.map Ex.code })⟩ { a with defers:=[qxV Γ.w.heap.size]++a.defers }:=
           ⟨r4,hat.step.trans ((s12.trans s3).trans s4),hmarks,hat.frame.ext ((s12.trans s3).trans s4).ext,fun h=>by (rw[hflf] at h; cases h),hat.nod⟩
          have hLe:({ L with state:=LoopState.exhausted }:Loop)={ L with state := .exhausted,pending:=lp.pend.map Ex.code }:=by rw[<- q4]
          rw[hLe,q4]
          cases hpe:lp.pend with
          |none=>rw[hpe] at hfin hat'; exact hfin .normal rfl hat' rfl
          |some e'=>
           rw[hpe] at hfin hat'
           cases e' with
           |normal=>exact wpIn_skip (hfin .normal rfl hat' rfl)
           |exit id=>exact wpIn_exit (hfin (.exit id) rfl hat' rfl)
           |ret=>exact wpIn_ret (hfin .ret rfl hat' rfl)
           |pan v=>rw[hpe] at hnp; exact (hnp rfl).elim
       ·cases h
      ·cases hcall
     ·cases h
    ·cases h
   ·cases hc
  ·cases hc
 |.scope _,pc,hc,hfl,fr,e,fr',σ',Γ0,ds0,Γ,a,Q,h,hat,hk=>by simp[comp] at hc
 |.label _,pc,hc,hfl,fr,e,fr',σ',Γ0,ds0,Γ,a,Q,h,hat,hk=>by simp[comp] at hc
 |.goto _,pc,hc,hfl,fr,e,fr',σ',Γ0,ds0,Γ,a,Q,h,hat,hk=>by simp[comp] at hc
 |.refuse _,pc,hc,hfl,fr,e,fr',σ',Γ0,ds0,Γ,a,Q,h,hat,hk=>by
  simp only[comp,Wh] at hc
  subst hc
  simp[run,X.ev] at h
theorem qf8 : ∀ {vs:List V} {i t:Nat} {v:V},(qbv i vs).get t=some v->i<=t/\vs[t-i]?=some v
 |[],i,t,v,h=>by simp[qbv,Fr.get] at h
 |u::vs,i,t,v,h=>by
  simp only[qbv,Fr.get] at h
  split at h
  ·rename_i e; subst e; cases h; simp
  ·rename_i hne
   obtain⟨h1,h2⟩:=qf8 h
   refine⟨by omega,?_⟩
   rw[show t-i=(t-(i+1))+1 from by omega]
   simpa using h2
def qmc(tmps:Array Value):ResultVar->Sem Value
 |.tmp t=>pure (tmps.getD t undef)
 |.cell a t=>do loadVar t (<- asAddr (tmps.getD a undef))
theorem qkf (fn:Func) (tmps:Array Value):results fn tmps=(do
  let vs <- fn.results.mapM (qmc tmps)
  pure (if h:vs.size=1 then vs[0] else .tuple vs)):=by
 unfold results
 congr 1
theorem qf9 {N:Nat} {Γ : Ctx} (hr:Real fid Γ) {fr:Fr} {tmps:Array Value} (hf:FrRep fid Γ N fr tmps) : ∀ {rs:List ResultVar} {ps:List PR} {vs:List V},qk3 P N rs=some ps->qt9 fr Γ.σ ps=some vs ->
  ∃ xs:List Value,(rs.mapM (qmc tmps)).run P Γ.w = .ok xs Γ.w/\Reps fid Γ vs xs
 |[],ps,vs,hc,h=>by
  simp only[qk3,Wh] at hc; subst hc
  simp only[qt9,Wh] at h; subst h
  exact⟨[],by simp,rfl⟩
 |.tmp t::rs,ps,vs,hc,h=>by
  simp only[qk3] at hc
  split at hc
  ·rename_i htN
   simp only[Wi] at hc
   obtain⟨ps',hps,rfl⟩:=hc
   simp only[qt9] at h
   split at h
   ·rename_i v vs' hv hvs
    cases h
    obtain⟨xs,h1,h2⟩:=qf9 hr hf hps hvs
    refine⟨tmps.getD t undef::xs,?_,_,_,rfl,hf.2 t v htN hv,h2⟩
    simp only[List.mapM_cons,qmc,Sem.run_bind,Sem.run_pure,Result.andThen_ok]
    rw[h1]
    simp
   ·cases h
  ·cases hc
 |.cell t ty::rs,ps,vs,hc,h=>by
  simp only[qk3] at hc
  split at hc
  ·rename_i htN
   have fin : ∀ {agg:Bool} {n:Nat} {ps'},qk3 P N rs=some ps'->((agg=true/\qaJ P ty=some true/\qaF P ty=some n)\/(agg=false/\qaJ P ty=some false/\n=1))->ps = .cell t agg n::ps' ->
     ∃ xs:List Value,((ResultVar.cell t ty::rs).mapM (qmc tmps)).run P Γ.w = .ok xs Γ.w/\Reps fid Γ vs xs:=by
    intro agg n ps' hps hs hp
    subst hp
    simp only[qt9] at h
    split at h
    ·rename_i p hp
     split at h
     ·rename_i v vs' hv hvs
      cases h
      obtain⟨xs,h1,h2⟩:=qf9 hr hf hps hvs
      obtain⟨ad,y,e1,e2,e3⟩:=qlf hr hs (hf.2 t p htN hp) hv
      refine⟨y::xs,?_,_,_,rfl,e3,h2⟩
      simp only[List.mapM_cons,qmc,Sem.run_bind,e1,asAddr,Sem.run_pure,Result.andThen_ok,e2]
      rw[h1]
      simp
     ·cases h
    ·cases h
   split at hc
   ·rename_i n ps' h1 h2 h3; cases hc; exact fin h3 (.inl ⟨rfl,h1,h2⟩) rfl
   ·rename_i ps' h1 h3; cases hc; exact fin h3 (.inr ⟨rfl,h1,rfl⟩) rfl
   ·cases hc
  ·cases hc
theorem qkg {N:Nat} {Γ : Ctx} : ∀ {ps:List Tmp} {vs:List V} {ys:List Value} {fr:Fr} {tmps:Array Value},FrRep fid Γ N fr tmps->(∀ p∈ps,p<N)->Reps fid Γ vs ys ->
  FrRep fid Γ N (qcU fr ps vs) ((ps.zip ys).foldl (fun t (p,v)=>t.setIfInBounds p v) tmps)
 |[],vs,ys,fr,tmps,hf,_,_=>by cases vs<;>simpa [qcU] using hf
 |p::ps,[],ys,fr,tmps,hf,_,hr=>by simp only[Reps] at hr; subst hr; simpa [qcU] using hf
 |p::ps,v::vs,ys,fr,tmps,hf,hp,hr=>by
  simp only[Reps] at hr
  obtain⟨y,ys',rfl,h1,h2⟩:=hr
  simp only[qcU,List.zip_cons_cons,Ya]
  refine qkg ?_ (fun q hq=>hp q (WA _ hq)) h2
  exact FrRep.put (a:={ tmps:=tmps,defers:=[] }) (dst:=some p) hf (fun d hd=>by cases hd; exact hp p (by simp)) h1
end
end
section
variable{P:Program}{ids:Ids}{fid:Fid}
section
variable{C:Task->Option Res}{ro:Option Nat}
theorem qnn {Γ0 Γ1:Ctx} {D:Nat} (hr:Real fid Γ1) (hs:Step Γ0 Γ1) (hD:MarkAt Γ0 Γ1 D) :
  Real fid ⟨Γ1.σ,Γ1.μ,Γ1.F,Γ1.w.putObj D (.deferred none)⟩/\Step Γ0 ⟨Γ1.σ,Γ1.μ,Γ1.F,Γ1.w.putObj D (.deferred none)⟩/\Ext Γ1 ⟨Γ1.σ,Γ1.μ,Γ1.F,Γ1.w.putObj D (.deferred none)⟩ /\
   ∀ k,k≠D->(Γ1.w.putObj D (.deferred none)).heap[k]? = Γ1.w.heap[k]?:=by
 obtain⟨d1,d2,d3⟩:=hD
 have hF : Γ1.F D=0:=by
  rcases YJ (Γ1.F D) with h|h
  ·exact h
  ·obtain⟨arr,e,fz,h1,_⟩:=hr.imm D h
   rw[d2] at h1; cases h1
 have hother : ∀ k,k≠D->(Γ1.w.putObj D (.deferred none)).heap[k]? = Γ1.w.heap[k]?:=fun k hk=>World.putObj_heap_other hk
 have hext:Ext Γ1 ⟨Γ1.σ,Γ1.μ,Γ1.F,Γ1.w.putObj D (.deferred none)⟩:=by
  refine⟨by simp,rfl,rfl,rfl,fun _=>Wj _,fun b i v hi hv=>?_,fun b arr e hb ha=>⟨arr,?_,rfl⟩,Wj _,fun _ ob h ht=>⟨⟨ob,h,ht⟩,fun _ h=>h⟩,fun _ m h=>⟨m,h,Wj _,fun h=>h,fun _ _ h=>h⟩,
   qeS fun l ob h _ => .inl ⟨h,fun b hb=>⟨hb,fun arr e ha=>(hother b fun e=>by subst e; exact d3 l hb).trans ha⟩⟩⟩
  ·rw[cell?_of_block (hother b fun e=>by subst e; omega)]; exact hv
  ·rw[hother b fun e=>by subst e; omega]; exact ha
 have hreal:Real fid ⟨Γ1.σ,Γ1.μ,Γ1.F,Γ1.w.putObj D (.deferred none)⟩:=by
  refine⟨fun l ob b h1 h2=>RepOb.ext hext (hother b fun e=>by subst e; exact d3 l h2) rfl ob (hr.obs l ob b h1 h2),fun l b h=>?_,hr.inj,fun b hb=>?_,Glb.ext hext hr.glb⟩
  ·have:=hr.dom l b h
   exact⟨this.1,by simpa using this.2⟩
  ·obtain⟨a,t,fz,h1,h2⟩:=hr.imm b hb
   have hb':0 < Γ1.F b:=hb
   exact⟨a,t,fz,by rw[hother b fun e=>by subst e; omega]; exact h1,h2⟩
 refine⟨hreal,⟨hs.ext.trans hext,⟨fun b hb hno=>?_,hs.frm.new⟩,hs.non⟩,hext,hother⟩
 have:=hs.frm.same b hb hno
 exact⟨(hother b (by omega)).trans this.1,this.2⟩
theorem DIReps.off{Γ0 Γ1 Γ2:Ctx}{D:Nat}(hext:Ext Γ1 Γ2)(hμ : Γ2.μ = Γ1.μ)(hother : ∀ k,k≠D -> Γ2.w.heap[k]? = Γ1.w.heap[k]?) : ∀ {is:List DI} {ds:List Deferred},D∉qc7 is->DIReps fid Γ0 Γ1 is ds->DIReps fid Γ0 Γ2 is ds
 |[],ds,_,h=>h
 |.m D'::is,ds,hn,⟨d,r,h1,h2,h3⟩=>by
  simp only[qc7,Wo,not_or] at hn
  exact⟨d,r,h1,⟨h2.1,h2.2.1,(hother D' (Yj hn.1)).trans h2.2.2.1,by rw[hμ]; exact h2.2.2.2⟩,DIReps.off hext hμ hother hn.2 h3⟩
 |.c v::is,ds,hn,⟨d,r,h1,h2,h3⟩=>by
  obtain⟨id,as,cap,ys,q1,q2,q3⟩:=h2
  exact⟨d,r,h1,⟨id,as,cap,ys,q1,q2,Reps.ext hext _ _ q3⟩,DIReps.off hext hμ hother hn h3⟩
theorem qer (hC:CSound P fid C) {fn:Func} {R:Ending->World->Prop} {N:Nat} {fr:Fr} {tmps:Array Value} {Γ0:Ctx} {σ2:S} : ∀ (is:List DI) (ds:List Deferred) (Γ1:Ctx),DIReps fid Γ0 Γ1 is ds->(qc7 is).Nodup->Real fid Γ1->Step Γ0 Γ1->FrRep fid Γ1 N fr tmps ->
  qbn C (qbP is) Γ1.σ = some σ2 ->
  (∀ Γ',Γ'.σ = σ2->Real fid Γ'->Step Γ0 Γ'->FrRep fid Γ' N fr tmps -> ∃ v,(results fn tmps).run P Γ'.w = .ok v Γ'.w/\R (.returned v) Γ'.w) ->
  LeavesInM Fence.wide 0 P fn tmps R ds .returning Γ1.w
 |[],ds,Γ1,hd,_,hr,hs,hf,h,hk=>by
  simp only[DIReps] at hd; subst hd
  simp only[qbP,qbn,Wh] at h
  exact hk Γ1 h hr hs hf
 |.m D::is,ds,Γ1,hd,hn,hr,hs,hf,h,hk=>by
  obtain⟨d,r,rfl,⟨rfl,hD⟩,hd'⟩:=hd
  obtain⟨n1,n2⟩:=Yw.1 hn
  obtain⟨a1,a2,a3,a4⟩:=qnn hr hs hD
  have ih:=qer hC (fn:=fn) (R:=R) is r ⟨Γ1.σ,Γ1.μ,Γ1.F,Γ1.w.putObj D (.deferred none)⟩ (DIReps.off a3 rfl a4 n1 hd') n2 a1 a2 (hf.ext a3) h hk
  simp only[LeavesInM]
  exact⟨by simp,.inl ⟨D,_,rfl,run_takeDeferred hD.2.1,ih⟩⟩
 |.c v::is,ds,Γ1,hd,hn,hr,hs,hf,h,hk=>by
  obtain⟨d,r,rfl,⟨id,as,cap,ys,rfl,rfl,hargs⟩,hd'⟩:=hd
  simp only[qbP,qbn] at h
  split at h
  ·rename_i v1 σ1 hcall
   have hnil:Rep fid Γ1 (.dat (.lit .nilIface)) .nilIface:=qef rfl
   obtain⟨k1,k2⟩:=qgf (u := .returning) hC hr hnil hargs (fun _=>rfl) (fun h=>by cases h) hcall
   have harr:(ys.toList++cap.toList).toArray=ys++cap:=by simp
   rw[harr] at k2
   simp only[LeavesInM]
   refine⟨by simp,.inr ⟨fun h=>by simp[Fence.wide] at h,.func (fid id),cap,fid id,ys++cap,rfl,?_,fun _ _=>trivial,CallsDIn.mono k2 ?_⟩⟩
   ·simp only[invoke]; exact qa7 k1 _ _
   ·rintro e u' w' ⟨Γ',y,rfl,rfl,rfl,q1,q2,q3⟩
    show LeavesInM Fence.wide 0 P fn tmps R r (settle u') Γ'.w
    rw[q3]
    exact qer hC is r Γ' (hd'.step q2) hn q1 (hs.trans q2) (hf.ext q2.ext) h hk
  ·cases h
theorem qhC (hC:CSound P fid C) {fn:Func} {R:Ending->World->Prop} {N:Nat} {fr:Fr} {tmps:Array Value} {Γ0:Ctx} {pv:V} {x:Value} : ∀ (is:List DI) (ds:List Deferred) (Γ1:Ctx),DIReps fid Γ0 Γ1 is ds->(qc7 is).Nodup->Real fid Γ1->Step Γ0 Γ1->FrRep fid Γ1 N fr tmps->Rep fid Γ1 pv x ->
  ((qbP is=[] /\ ∀ Γ',Γ'.σ = Γ1.σ -> Real fid Γ'->Step Γ0 Γ'->Rep fid Γ' pv x->R (.panicked [{ v:=x,recovered:=false }]) Γ'.w) \/
   (∃ id as r v1 σ1 σ2,qbP is = .fn id as []::r/\pv.isNilIf=false/\qbF C (.dcall id) (pv::as) Γ1.σ = some (v1,σ1)/\qbn C r σ1=some σ2 /\
    ∀ Γ',Γ'.σ = σ2->Real fid Γ'->Step Γ0 Γ'->FrRep fid Γ' N fr tmps -> ∃ v,(results fn tmps).run P Γ'.w = .ok v Γ'.w/\R (.returned v) Γ'.w)) ->
  LeavesInM Fence.wide 0 P fn tmps R ds (.panicking [{ v:=x,recovered:=false }]) Γ1.w
 |[],ds,Γ1,hd,_,hr,hs,hf,hx,h=>by
  simp only[DIReps] at hd; subst hd
  rcases h with ⟨_,h⟩|⟨id,as,r,v1,σ1,σ2,h,_⟩
  ·simp only[LeavesInM,LeavesIn]; exact h Γ1 rfl hr hs hx
  ·simp[qbP] at h
 |.m D::is,ds,Γ1,hd,hn,hr,hs,hf,hx,h=>by
  obtain⟨d,r,rfl,⟨rfl,hD⟩,hd'⟩:=hd
  obtain⟨n1,n2⟩:=Yw.1 hn
  obtain⟨a1,a2,a3,a4⟩:=qnn hr hs hD
  have ih:=qhC hC (fn:=fn) (R:=R) is r ⟨Γ1.σ,Γ1.μ,Γ1.F,Γ1.w.putObj D (.deferred none)⟩ (DIReps.off a3 rfl a4 n1 hd') n2 a1 a2 (hf.ext a3) (Rep.ext a3 _ _ hx) h
  simp only[LeavesInM]
  exact⟨by simp,.inl ⟨D,_,rfl,run_takeDeferred hD.2.1,ih⟩⟩
 |.c v::is,ds,Γ1,hd,hn,hr,hs,hf,hx,h=>by
  obtain⟨d,r,rfl,⟨id,as,cap,ys,rfl,rfl,hargs⟩,hd'⟩:=hd
  rcases h with ⟨h,_⟩|⟨id',as',r',v1,σ1,σ2,h,hnil,hcall,hrest,hk⟩
  ·simp[qbP] at h
  ·simp only[qbP,WI,V.fn.injEq] at h
   obtain⟨⟨rfl,rfl,_⟩,rfl⟩:=h
   obtain⟨k1,k2⟩:=qgf (u := .panicking [{ v:=x,recovered:=false }]) hC hr hx hargs (fun h=>by rw[hnil] at h; cases h) (fun _=>rfl) hcall
   have harr:(ys.toList++cap.toList).toArray=ys++cap:=by simp
   rw[harr] at k2
   simp only[LeavesInM]
   refine⟨by simp,.inr ⟨fun h=>by simp[Fence.wide] at h,.func (fid id),cap,fid id,ys++cap,rfl,?_,fun _ _=>trivial,CallsDIn.mono k2 ?_⟩⟩
   ·simp only[invoke]; exact qa7 k1 _ _
   ·rintro e u' w' ⟨Γ',y,rfl,rfl,rfl,q1,q2,q3⟩
    show LeavesInM Fence.wide 0 P fn tmps R r (settle u') Γ'.w
    rw[q3]
    exact qer hC is r Γ' (hd'.step q2) hn q1 (hs.trans q2) (hf.ext q2.ext) hrest hk
theorem qmn(hid:Ties P ids fid)(hcr:Codes P ids fid)(hC:CSound P fid C)(hL:LSound P ids fid C)(hm:P.follows .mixedOrders=true){args:List V}{σ σ':S}{v:V}(h:qbs C args σ = some (.ret v σ')):qkj P fid args σ v σ':=by
 intro Γ xs hσ hr hargs
 subst hσ
 unfold qbs at h
 split at h
 ·rename_i l vs
  simp only[Reps] at hargs
  obtain⟨x,ys,rfl,hy,hvs⟩:=hargs
  simp only[Rep] at hy
  obtain⟨b,hb,rfl,_⟩:=hy
  split at h
  ·rename_i lp hlp
   split at h
   ·rename_i hcond
    obtain⟨hlen,hst,hflat,hnod⟩:=hcond
    have hnod:(qcU lp.fr lp.ps vs).get dkey=none:=by simpa using hnod
    have hnodefs:(qcU lp.fr lp.ps vs).defs=[]:=by simp[Fr.defs,hnod]
    simp only[Wq] at hflat
    obtain⟨L,q1,q2,q3,_,⟨N,c1,c2,c3,c4⟩,_⟩:=qh7 hr hlp hb
    obtain⟨hN,K1,ow1,d1,c1⟩:=(hcr _ _ _).1 c1
    obtain⟨_,K2,ow2,d2,c2⟩:=(hcr _ _ _).1 c2
    have hsz:ys.toArray.size=L.params.size:=by grind [Codes,LSound,qbs,qkj,Reps.length]
    refine⟨l,b,ys,L.fn,_,L.assign,L.body,rfl,rfl,run_yield q1 hsz,?_⟩
    split at h
    ·rename_i fr1 σ1 hrun1
     split at h
     ·rename_i lp1 hlp1
      split at h
      ·rename_i hst1
       obtain⟨hst1,hd1⟩:=hst1
       have hd1:fr1.get dkey=none:=by simpa using hd1
       split at h
       ·cases h
       ·rename_i e fr2 σ2 hnpan hrun2
        split at h
        ·rename_i lp2 hlp2
         split at h
         ·rename_i vs3 σ3 hres
          simp only[Wh,Res.ret.injEq] at h
          obtain⟨rfl,rfl⟩:=h
          have hfr:FrRep fid Γ N (qcU lp.fr lp.ps vs) ((L.params.zip ys.toArray).foldl (fun t (p,v)=>t.setIfInBounds p v) L.tmps):=by
           have:=qkg (ps:=L.params.toList) (vs:=vs) (ys:=ys) c4 (by rw[q2]; exact c3) hvs
           rw[q2] at this
           rw[<- Array.foldl_toList,Array.toList_zip,q2]
           exact this
          refine roundIn_of_wpIn (F:=Fence.wide) trivial ?_
          refine qbq (ro:=some b) (fl:=true) (hid.with ow1 d1) (hcr.with ow1 d1) hC (hL.with ow1 d1) hm hN (fun _=>rfl) L.assign lp.assign c1 (fun _=>hflat.1) _ .normal fr1 σ1 Γ [] Γ _ _ hrun1 ⟨hr,.refl _,by rw[hnodefs]; exact .nil _ _ _,hfr,fun _=>rfl,fun _=>hnod⟩ fun Γ1 a1 ex g1 g2 g3=>?_
          subst g1
          simp only[qc6] at g3
          subst g3
          have hb1 : Γ1.μ l=some b:=(g2.step.ext.fix l _ hlp rfl).2 b hb
          obtain⟨L1,u1,_,u3,_,_,u6⟩:=qh7 g2.real hlp1 hb1
          obtain⟨r2,s2⟩:=u6 1 lp1.pend .busy (lp1.pend.map Ex.code) rfl rfl
          have u4:L1.pending=lp1.pend.map Ex.code:=by grind
          have hL1:({ L1 with state:=LoopState.busy }:Loop)={ L1 with state := .busy,pending:=lp1.pend.map Ex.code }:=by rw[<- u4]
          refine⟨_,run_beginRound u1 (by rw[u3,hst1]; rfl),?_⟩
          rw[hL1]
          refine qbq (ro:=some b) (fl:=true) (hid.with ow2 d2) (hcr.with ow2 d2) hC (hL.with ow2 d2) hm hN (fun _=>rfl) L.body lp.body c2 (fun _=>hflat.2) fr1 e fr2 σ2 Γ [] _ a1 _ hrun2 ⟨r2,g2.step.trans s2,g2.marks.step s2,g2.frame.ext s2.ext,g2.still,fun _=>hd1⟩ fun Γ3 a3 ex g3 g4 g5=>?_
          subst g3
          have hb3 : Γ3.μ l=some b:=(g4.step.ext.fix l _ hlp rfl).2 b hb
          obtain⟨L3,w1,_,_,_,_,w6⟩:=qh7 g4.real hlp2 hb3
          have fin : ∀ (st:Nat) (pe:Option Ex) (j:Option Code) (bl:Bool),lp2.ended e={ lp2 with st:=st,pend:=pe }->j=pe.map Ex.code->bl=j.isNone->(if j.isNone then LoopState.ready else .done)=qx6 st ->
            ∃ v w',(Instr.endRound b j).run P Γ3.w = .ok v w' /\ ∃ Γ' x,Ending.returned v = .returned x /\ Γ'.w=w' /\ Γ'.σ = σ3/\Real fid Γ'/\Step Γ Γ'/\Rep fid Γ' (.bool bl) x:=by
           intro st pe j bl he hj hbl hstt
           subst hbl
           obtain⟨r4,s4⟩:=w6 st pe _ j hstt hj
           rw[he] at hres
           obtain⟨t1,t2,t3,t4,t5,t6⟩:=qaZ r4 hres
           refine⟨_,_,run_endRound j w1,Ctx.part _ _ σ3,_,rfl,rfl,rfl,t5,qd4 (g4.step.trans s4) t1 t2 t4 (qgQ _ _ _),?_⟩
           simp[Rep,RepD,qbC]
          cases e with
          |normal=>simp only[qc6] at g5; subst g5; exact fin 0 none none true rfl rfl rfl rfl
          |exit id=>simp only[qc6] at g5; subst g5; exact fin 2 (some (.exit id)) (some (.exit id)) false rfl rfl rfl rfl
          |ret=>simp only[qc6] at g5; subst g5; exact fin 2 (some .ret) (some .ret) false rfl rfl rfl rfl
          |pan v=>exact (hnpan _ rfl).elim
         ·cases h
        ·cases h
       ·cases h
      ·cases h
     ·cases h
    ·cases h
   ·cases h
  ·cases h
 ·cases h
theorem qhD {fn:Func} {pf:PFun} {N:Nat} {Γ Γ2:Ctx} {fr':Fr} {tmps:Array Value} {v:V} {σ':S} (hres:qk3 P N fn.results.toList=some pf.results) (k2:Real fid Γ2) (k3:Step Γ Γ2) (k4:FrRep fid Γ2 N fr' tmps)
  (hfinish:qc9 pf Γ.σ.length fr' Γ2.σ = some (.ret v σ')) : ∃ y,(results fn tmps).run P Γ2.w = .ok y Γ2.w /\ ∃ Γ',Γ'.w = Γ2.w /\ Γ'.σ = σ'/\Real fid Γ'/\Step Γ Γ'/\Rep fid Γ' v y:=by
 unfold qc9 at hfinish
 split at hfinish
 ·rename_i vs0 hvs0
  obtain⟨ys,r1,r2⟩:=qf9 k2 k4 hres hvs0
  have hres':(results fn tmps).run P Γ2.w = .ok (if h:ys.length=1 then ys[0] else .tuple ys.toArray) Γ2.w:=by
   rw[qkf]
   simp only[Sem.run_bind]
   rw[Array.mapM_eq_mapM_toList]
   simp only[Sem.run_map]
   rw[r1]
   simp only[Result.andThen_ok,Sem.run_pure]
   simp
  have plain : ∀ {vs:List V},Reps fid Γ2 vs ys->finishV Γ.σ.length vs Γ2.σ = some (.ret v σ') -> ∃ (Γ':Ctx) (vs':List V),Γ'.σ = σ' /\ Γ'.w = Γ2.w/\Real fid Γ'/\Step Γ Γ'/\Reps fid Γ' vs' ys/\v=one vs':=by
   intro vs hvs hfin
   unfold finishV at hfin
   split at hfin
   ·rename_i vs' σs hrestrict
    simp only[Wh,Res.ret.injEq] at hfin
    obtain⟨rfl,rfl⟩:=hfin
    obtain⟨t1,t2,t3,t4,t5,t6⟩:=qaZ k2 hrestrict
    exact⟨Γ2.part _ σs,vs',rfl,rfl,t5,qd4 k3 t1 t2 t4 (qgQ _ _ _),t6 ys hvs,rfl⟩
   ·cases hfin
  have hout : ∃ (Γ':Ctx) (vs':List V),Γ'.σ = σ' /\ Γ'.w = Γ2.w/\Real fid Γ'/\Step Γ Γ'/\Reps fid Γ' vs' ys/\v=one vs':=by grind [finishV,qk3,FrRep,qc9,Rep,qpG,qgQ,qpL]
  obtain⟨Γ',vs',e1,e2,e3,e4,r3,rfl⟩:=hout
  ·refine⟨_,hres',Γ',e2,e1,e3,e4,?_⟩
   have hl:=Reps.length r3
   cases vs' with
   |nil=>
    simp only[Reps] at r3; subst r3
    simp only[one,Rep]
    exact⟨[],by simp,rfl⟩
   |cons v1 rest=>
    cases rest with
    |nil=>
     simp only[Reps] at r3
     obtain⟨y,ys',rfl,k1,rfl⟩:=r3
     simpa [one] using k1
    |cons v2 rest=>
     have : ¬ ys.length=1:=by rw[hl]; simp
     rw[dif_neg this]
     simp only[one,Rep]
     exact⟨ys,rfl,r3⟩
 ·cases hfinish
theorem qfR{N:Nat}{Γ : Ctx}{args:List V}{xs:List Value}(hargs:Reps fid Γ args xs)(hle:args.length<=N):FrRep fid Γ N (qbv 0 args) (xs.toArray++Array.replicate (N-xs.toArray.size) undef):=by
 have hxl:=Reps.length hargs
 refine⟨by simp; omega,fun t u ht hu=>?_⟩
 obtain⟨_,h2⟩:=qf8 hu
 obtain⟨x,h3,h4⟩:=qn2 hargs h2
 have:(xs.toArray++Array.replicate (N-xs.toArray.size) undef).getD t undef=x:=by
  have hlt:=(Wd.1 h3).1
  rw[Array.getD_eq_getD_getElem?,W8 (by simpa using hlt)]
  simp only[Nat.sub_zero] at h3
  simp[h3]
 rw[this]; exact h4
theorem qiy{args:List V}{k:Nat}(h:args.length<=k):(qbv 0 args).get k=none:=by
 cases hg:(qbv 0 args).get k with
 |none=>rfl
 |some v=>
  obtain⟨_,h2⟩:=qf8 hg
  have:=(Wd.1 h2).1
  omega
theorem qmo (hid:Ties P ids fid) (hcr:Codes P ids fid) (hC:CSound P fid C) (hL:LSound P ids fid C) (hm:P.follows .mixedOrders=true) {f:Nat} {fn:Func} {K:Nat->List Nat} {ow df:Bool} {pf:PFun} {c:Code} (hfn:P.funcs[fid f]?=some fn) (hbody:fn.body=some c)
  (hname:(fn.name == "runtime.NumGoroutine")=false) (hN:2*fn.ntmps<=dkey) (hcomp:comp P (ids.with ow df) fn.ntmps K c=some pf.body) (hres:qk3 P fn.ntmps fn.results.toList=some pf.results) (hpn:pf.np<=fn.ntmps) (hpd:pf.df=df)
  {args:List V} {σ σ':S} {v:V} (h:qb5 C pf args σ = some (.ret v σ')):qmj P fid f args σ v σ':=by
 unfold qb5 at h
 split at h
 ·rename_i hlen
  refine⟨⟨fn,hfn,hname,by rw[hbody]; rfl⟩,fun Γ xs hσ hr hargs=>?_⟩
  subst hσ
  have hf0:=qfR (N:=fn.ntmps) hargs (by omega)
  have hpos:0<dkey:=by decide
  have hk0:(qbv 0 args).get dkey=none:=qiy (by omega)
  refine callsIn_of_wp_marks (F:=Fence.wide) hfn hbody trivial ?_
  have fin : ∀ (e:Ex) (fr':Fr) (σ1:S),run C Γ.σ.length pf.body (qbv 0 args) Γ.σ = some (e,fr',σ1) ->
    (∀ Γ1 a1 ex,Γ1.σ = σ1->At fid fn.ntmps false df Γ [] fr' Γ1 a1->qc6 fid Γ1 e ex->bodyPostM Fence.wide 0 P fn (fun e w' => ∃ Γ',Γ'.w=w' /\ Γ'.σ = σ'/\Real fid Γ'/\Step Γ Γ'/\qx8 fid Γ' v e) ex a1 Γ1.w) ->
    c.wpIn Fence.wide 0 P (bodyPostM Fence.wide 0 P fn (fun e w' => ∃ Γ',Γ'.w=w' /\ Γ'.σ = σ'/\Real fid Γ'/\Step Γ Γ'/\qx8 fid Γ' v e)) { tmps:=xs.toArray++Array.replicate (fn.ntmps-xs.toArray.size) undef,defers:=[] } Γ.w:=by
   intro e fr' σ1 hrun hk
   exact qbq (ro:=none) (fl:=false) (hid.with ow df) (hcr.with ow df) hC (hL.with ow df) hm hN (fun h=>by simp at h) c pf.body hcomp (fun h=>by cases h) (qbv 0 args) e fr' σ1 Γ [] Γ _ _ hrun
    ⟨hr,.refl _,by simp only[Fr.defs,hk0]; exact .nil _ _ _,hf0,fun h=>by (cases h),fun _=>hk0⟩ hk
  have norm : ∀ (fr':Fr) (σ1:S) (ex:Exit) (e:Ex),(ex = .normal\/ex = .ret)->(if pf.df then qgk C pf Γ.σ.length fr' σ1 else qc9 pf Γ.σ.length fr' σ1)=some (.ret v σ') ->
    ∀ Γ1 a1,Γ1.σ = σ1->At fid fn.ntmps false df Γ [] fr' Γ1 a1->bodyPostM Fence.wide 0 P fn (fun e w' => ∃ Γ',Γ'.w=w' /\ Γ'.σ = σ'/\Real fid Γ'/\Step Γ Γ'/\qx8 fid Γ' v e) ex a1 Γ1.w:=by
   intro fr' σ1 ex e hex hend Γ1 a1 g1 g2
   subst g1
   obtain⟨is,ds',m1,m2,m3,m4⟩:=g2.marks
   have hrd : ∃ σ2,qbn C (qbP is) Γ1.σ = some σ2/\qc9 pf Γ.σ.length fr' σ2=some (.ret v σ'):=by
    cases hd:df with
    |false=>
     rw[hpd,hd] at hend
     have:fr'.defs=[]:=by simp only[Fr.defs,g2.nod hd]
     rw[this] at m4
     exact⟨Γ1.σ,by rw[m4]; rfl,hend⟩
    |true=>
     rw[hpd,hd] at hend
     simp only[if_true,qgk] at hend
     split at hend
     ·grind
     ·cases hend
   obtain⟨σ2,h1,h2⟩:=hrd
   have post:LeavesInM Fence.wide 0 P fn a1.tmps (fun e w' => ∃ Γ',Γ'.w=w' /\ Γ'.σ = σ'/\Real fid Γ'/\Step Γ Γ'/\qx8 fid Γ' v e) a1.defers .returning Γ1.w:=by
    rw[m1,Wl]
    refine qer hC is ds' Γ1 m2 m3 g2.real g2.step g2.frame h1 fun Γ2 k1 k2 k3 k4=>?_
    subst k1
    obtain⟨y,r1,Γ',r2,r3,r4,r5,r6⟩:=qhD hres k2 k3 k4 h2
    exact⟨y,r1,Γ',r2,r3,r4,r5,.inl ⟨y,rfl,r6⟩⟩
   rcases hex with rfl|rfl
   ·exact post
   ·exact post
  split at h
  ·rename_i fr' σ1 hrun
   refine fin .normal fr' σ1 hrun fun Γ1 a1 ex g1 g2 g3=>?_
   simp only[qc6] at g3; subst g3
   exact norm fr' σ1 _ .normal (.inl rfl) h Γ1 a1 g1 g2
  ·rename_i fr' σ1 hrun
   refine fin .ret fr' σ1 hrun fun Γ1 a1 ex g1 g2 g3=>?_
   simp only[qc6] at g3; subst g3
   exact norm fr' σ1 _ .ret (.inr rfl) h Γ1 a1 g1 g2
  ·rename_i pv fr' σ1 hrun
   refine fin (.pan pv) fr' σ1 hrun fun Γ1 a1 ex g1 g2 g3=>?_
   subst g1
   obtain⟨x,rfl,hx⟩:=g3
   obtain⟨is,ds',m1,m2,m3,m4⟩:=g2.marks
   show LeavesInM Fence.wide 0 P fn a1.tmps _ a1.defers (.panicking [{ v:=x,recovered:=false }]) Γ1.w
   rw[m1,Wl]
   refine qhC hC is ds' Γ1 m2 m3 g2.real g2.step g2.frame hx ?_
   unfold qfG at h
   split at h
   ·rename_i hd
    refine .inl ⟨by rw[m4]; exact hd,fun Γ2 k1 k2 k3 k4=>?_⟩
    rw[<- k1] at h
    split at h
    ·rename_i v' σs hres'
     cases h
     obtain⟨t1,t2,t3,t4,t5,t6⟩:=qaZ k2 hres'
     have:=t6 [x] ⟨x,[],rfl,k4,rfl⟩
     simp only[Reps] at this
     obtain⟨y,ys,e1,e2,e3⟩:=this
     cases e1
     exact⟨Γ2.part _ σ',rfl,rfl,t5,qd4 k3 t1 t2 t4 (qgQ _ _ _),.inr ⟨v',x,rfl,rfl,e2⟩⟩
    ·cases h
   ·rename_i id as r hd
    split at h
    ·cases h
    ·rename_i hnil
     split at h
     ·rename_i v1 σ2 hcall
      split at h
      ·rename_i σ3 hrest
       refine .inr ⟨id,as,r,v1,σ2,σ3,by rw[m4]; exact hd,by simpa using hnil,hcall,hrest,fun Γ2 k1 k2 k3 k4=>?_⟩
       subst k1
       obtain⟨y,r1,Γ',r2,r3,r4,r5,r6⟩:=qhD hres k2 k3 k4 h
       exact⟨y,r1,Γ',r2,r3,r4,r5,.inl ⟨y,rfl,r6⟩⟩
      ·cases h
     ·cases h
   ·cases h
  ·cases h
 ·cases h
theorem qiz{fn:Func}{rs:List PR}{N:Nat}(hres:qk3 P N fn.results.toList=some rs)(he:rs.isEmpty=true)(tmps:Array Value)(w:World):(results fn tmps).run P w = .ok (.tuple #[]) w:=by
 have hnil:fn.results.toList=[]:=by
  cases hr:fn.results.toList with
  |nil=>rfl
  |cons r rest=>
   rw[hr] at hres
   cases r with
   |tmp t=>
    simp only[qk3] at hres
    split at hres
    ·simp_all
    ·cases hres
   |cell a t=>
    simp only[qk3] at hres
    split at hres
    ·split at hres<;>cases hres<;>cases he
    ·cases hres
 rw[qkf]
 simp only[Sem.run_bind]
 rw[Array.mapM_eq_mapM_toList,hnil]
 simp
theorem qCu{Γ Γ1:Ctx}(hr:Real fid Γ1)(hs:Step Γ Γ1){vs:List V}{σ':S}(h:qby (gcL Γ.σ.length [] Γ1.σ) [] Γ1.σ = some (vs,σ')) : ∃ Γ',Γ'.w = Γ1.w /\ Γ'.σ = σ'/\Real fid Γ'/\Step Γ Γ':=by
 obtain⟨t1,t2,t3,t4,t5,t6⟩:=qaZ hr h
 exact⟨Γ1.part _ σ',rfl,rfl,t5,qd4 hs t1 t2 t4 (qgQ _ _ _)⟩
theorem qlh (hid:Ties P ids fid) (hcr:Codes P ids fid) (hC:CSound P fid C) (hL:LSound P ids fid C) (hm:P.follows .mixedOrders=true) {f:Nat} {fn:Func} {K:Nat->List Nat} {ow:Bool} {pf:PFun} {c:Code} (hfn:P.funcs[fid f]?=some fn) (hbody:fn.body=some c)
  (hname:(fn.name == "runtime.NumGoroutine")=false) (hN:2*fn.ntmps<=dkey) (hcomp:comp P (ids.with ow false) fn.ntmps K c=some pf.body) (hres:qk3 P fn.ntmps fn.results.toList=some pf.results) (hpn:pf.np<=fn.ntmps) (hpc:pf.catches=false)
  {args:List V} {σ σ':S} {v:V} (h:qaU C pf args σ = some (.ret v σ')):qxN P fid f args σ σ':=by
 refine⟨⟨fn,hfn,hname,by rw[hbody]; rfl⟩,fun Γ pv as px ys u hargs hσ hr hp hys hu hu'=>?_⟩
 subst hσ hargs
 simp only[qaU] at h
 split at h
 ·rename_i hcond
  obtain⟨hlen,hdf,hemp,hflat,hcn⟩:=hcond
  have hnil:pv.isNilIf=true:=by rcases hcn with h | h
                                ·rw[hpc] at h; cases h
                                ·exact h
  have hu1:=hu hnil
  subst hu1
  have hf0:=qfR (N:=fn.ntmps) hys (by omega)
  have hpos:0<dkey:=by decide
  have hk0:Fr.get ((qga,pv)::qbv 0 as) dkey=none:=by
   simp only[Fr.get]; rw[if_neg (by decide)]; exact qiy (by omega)
  have hf1:FrRep fid Γ fn.ntmps ((qga,pv)::qbv 0 as) (ys.toArray++Array.replicate (fn.ntmps-ys.toArray.size) undef):=⟨hf0.1,fun t v ht hv=>by
   have:qga≠t:=fun e=>by
    have h1:qga=dkey+1:=rfl
    omega
   simp only[Fr.get,if_neg this] at hv
   exact hf0.2 t v ht hv⟩
  have fin : ∀ (e:Ex) (fr':Fr) (σ1:S),(e = .normal\/e = .ret)->run C Γ.σ.length pf.body ((qga,pv)::qbv 0 as) Γ.σ = some (e,fr',σ1)->(∃ vs,qby (gcL Γ.σ.length [] σ1) [] σ1=some (vs,σ')) ->
    CallsDIn Fence.wide 0 P (fid f) ys.toArray .returning Γ.w fun e u' w' => ∃ Γ' y,e = .returned y /\ Γ'.w=w' /\ Γ'.σ = σ'/\Real fid Γ'/\Step Γ Γ'/\settle u' = .returning:=by
   intro e fr' σ1 he hrun hend
   obtain⟨vs,hend⟩:=hend
   refine CallsDIn.mono (callsDIn_of_wp (F:=Fence.wide) (n:=0) (R:=fun e w' => ∃ Γ' y,e = .returned y /\ Γ'.w=w' /\ Γ'.σ = σ'/\Real fid Γ'/\Step Γ Γ') hfn hbody trivial ?_) ?_
   ·refine qbq (ro:=none) (fl:=true) (hid.with ow false) (hcr.with ow false) hC (hL.with ow false) hm hN (fun _=>rfl) c pf.body hcomp (fun _=>hflat) _ e fr' σ1 Γ [] Γ _ _ hrun
     ⟨hr,.refl _,by simp only[Fr.defs,hk0]; exact .nil _ _ _,hf1,fun _=>rfl,fun _=>hk0⟩ fun Γ1 a1 ex g1 g2 g3=>?_
    subst g1
    obtain⟨Γ',q1,q2,q3,q4⟩:=qCu g2.real g2.step hend
    have post:a1.defers=[] /\ ∃ v,(results fn a1.tmps).run P Γ1.w = .ok v Γ1.w /\ ∃ Γ' y,Ending.returned v = .returned y /\ Γ'.w = Γ1.w /\ Γ'.σ = σ'/\Real fid Γ'/\Step Γ Γ':=
     ⟨g2.still rfl,_,qiz hres hemp _ _,Γ',_,rfl,q1,q2,q3,q4⟩
    rcases he with rfl|rfl
    ·simp only[qc6] at g3; subst g3; exact post
    ·simp only[qc6] at g3; subst g3; exact post
   ·rintro e u' w' ⟨rfl,Γ',y,q1,q2,q3,q4,q5⟩
    exact⟨Γ',y,q1,q2,q3,q4,q5,rfl⟩
  split at h
  ·grind
  ·grind
  ·cases h
 ·cases h
theorem qmp (hid:Ties P ids fid) {N:Nat} {Γ : Ctx} {fr:Fr} {a:Act} {o:Oper} {neg:Bool} {x:X} {v:V} {σ':S} (hc:cOp P ids N o.op=some (.isnil false neg x)) (hr:Real fid Γ) (hf:FrRep fid Γ N fr a.tmps) (h:qaE C fr Γ.σ (.isnil false neg x)=some (v,σ')) :
  σ' = Γ.σ /\ ∃ y,(execOp a.eval o).run P Γ.w = .ok (.value y) Γ.w/\Rep fid Γ v y:=by
 have fin : ∀ {op:BinOp} {t t':TypeId} {y:Operand} (neg':Bool),(op=if neg' then .neq else .eql)->o.op = .binOp op t y (.const .nilIface) t'->(∃ ms,P.underlying t=some (.interface ms))->(∃ y',cX ids N y=some y'/\O.isnil false neg' y' = .isnil false neg x) ->
   σ' = Γ.σ /\ ∃ y,(execOp a.eval o).run P Γ.w = .ok (.value y) Γ.w/\Rep fid Γ v y:=by
  rintro op t t' y neg' hop ho ⟨ms,ht⟩ ⟨y',h1,e⟩
  cases e
  simp only[qaE] at h
  split at h
  ·rename_i u hu
   split at h
   ·rename_i b hb
    cases h
    obtain⟨g1,g2⟩:=qjU (P:=P) (qae hid hr hf h1 hu) hb (.inl ⟨rfl,rfl,ms,ht⟩) Γ.w
    refine⟨rfl,.bool (if neg then !b else b),?_,qef rfl⟩
    have hρ : a.eval (.const .nilIface) = .nilIface:=rfl
    simp only[execOp,ho,hρ]
    generalize a.eval y=z at *
    subst hop
    rcases g2 with ⟨a,c,rfl,_⟩|⟨rfl,_⟩|⟨a,_,h⟩
    ·cases neg<;>simp[eqGuard,binOp,g1]
    ·cases neg<;>simp[eqGuard,binOp,g1]
    ·cases h
   ·cases h
  ·cases h
 cases ho:o.op with
 |binOp op t y z t'=>
  rw[ho] at hc
  simp only[cOp] at hc
  split at hc
  ·simp_all
  ·simp_all
  ·simp_all
  ·simp_all
  ·simp_all
  ·simp_all
  ·exfalso
   repeat' (first
    | (cases hc; done)
    | (simp only[Wi] at hc; obtain⟨_,_,e⟩:=hc; cases e; done)
    |split at hc)
 |makeFunc fn u z=>
  exfalso
  rw[ho] at hc
  cases fn<;>simp only[cOp] at hc
  all_goals repeat' (first
   | (cases hc; done)
   | (simp only[Wi] at hc; obtain⟨_,_,e⟩:=hc; cases e; done)
   |split at hc)
 |_=>
  exfalso
  rw[ho] at hc
  simp only[cOp] at hc
  all_goals (try simp only[qpy] at hc)
  repeat' (first
   | (cases hc; done)
   | (simp only[Wi] at hc; obtain⟨_,_,e⟩:=hc; cases e; done)
   | (simp only[Wi] at hc; obtain⟨_,_,e⟩:=hc; split at e<;>cases e; done)
   | (split at hc<;>first | (cases hc; done) | skip))
theorem qli (hid:Ties P ids fid) (hcr:Codes P ids fid) (hC:CSound P fid C) (hL:LSound P ids fid C) (hm:P.follows .mixedOrders=true) {f:Nat} {fn:Func} {K:Nat->List Nat} {ow:Bool} {pf:PFun} {c:Code} (hfn:P.funcs[fid f]?=some fn) (hbody:fn.body=some c)
  (hname:(fn.name == "runtime.NumGoroutine")=false) (hN:2*fn.ntmps<=dkey) (hcomp:qpA P ids K ow false true fn.ntmps c=some pf.body) (hres:qk3 P fn.ntmps fn.results.toList=some pf.results) (hpn:pf.np<=fn.ntmps)
  {args:List V} {σ σ':S} {v:V} (h:qaU C pf args σ = some (.ret v σ')):qxN P fid f args σ σ':=by
 refine⟨⟨fn,hfn,hname,by rw[hbody]; rfl⟩,fun Γ pv as px ys u hargs hσ hr hp hys hu hu'=>?_⟩
 subst hσ hargs
 simp only[qaU] at h
 split at h
 ·rename_i hcond
  obtain⟨hlen,hdf,hemp,hflat,_⟩:=hcond
  have hf0:=qfR (N:=fn.ntmps) hys (by omega)
  have hpos:0<dkey:=by decide
  have hrk:qga=dkey+1:=rfl
  have hk0:Fr.get ((qga,pv)::qbv 0 as) dkey=none:=by grind [Fr.get,Codes,LSound,dkey,qpA,qk3,qaU,qxN,qiy]
  have hf1:FrRep fid Γ fn.ntmps ((qga,pv)::qbv 0 as) (ys.toArray++Array.replicate (fn.ntmps-ys.toArray.size) undef):=⟨hf0.1,fun t v ht hv=>by
   have:qga≠t:=fun e=>by omega
   simp only[Fr.get,if_neg this] at hv
   exact hf0.2 t v ht hv⟩
  have hex : ∃ e fr' σ1 vs,(e = .normal\/e = .ret)/\run C Γ.σ.length pf.body ((qga,pv)::qbv 0 as) Γ.σ = some (e,fr',σ1)/\qby (gcL Γ.σ.length [] σ1) [] σ1=some (vs,σ'):=by grind
  obtain⟨e,fr',σ1,vs,he,hrun,hend⟩:=hex
  unfold qpA at hcomp
  split at hcomp
  ·rename_i id ops rest _
   split at hcomp
   ·rename_i o os hops
    split at hcomp
    ·rename_i c0 ar0 at0 d is r ho hd hg his hrest
     split at hcomp
     ·rename_i hcond2
      obtain⟨hdN,htest⟩:=hcond2
      simp only[Wh] at hcomp
      obtain⟨dst1,neg,x1,un1,his1⟩ : ∃ dst1 neg x1 un1,is=[⟨dst1,.isnil false neg x1,none,un1⟩]:=by
       unfold qrL at htest
       split at htest
       ·exact⟨_,_,_,_,rfl⟩
       ·cases htest
      subst his1
      obtain⟨o1,hos⟩ : ∃ o1,os=[o1]:=by
       cases os with
       |nil=>simp[cIs] at his
       |cons o1 os=>
        obtain⟨i,is',e1,e2,_⟩:=qgz his
        cases e1
        cases os with
        |nil=>exact⟨o1,rfl⟩
        |cons o2 os=>
         obtain⟨i,is',e1,_⟩:=qgz e2
         cases e1
      subst hos
      obtain⟨i,is',e1,e2,e3⟩:=qgz his
      cases e1
      have hcI:cI P (ids.with ow false) fn.ntmps false ops (fun _=>[]) 1 o1=some ⟨dst1,.isnil false neg x1,none,un1⟩:=by grind [Codes,LSound,dkey,qpA,qk3,qaU,qxN,qev]
      obtain⟨q1,q2,q3,q4⟩:=qch hcI
      have q2:dst1=o1.dst:=q2
      subst q2
      have hg1:o1.guard=none:=by grind
      have q1':cOp P (ids.with ow false) fn.ntmps o1.op=some (.isnil false neg x1):=q1
      have hop0:ops[0]?=some o:=by
       have:ops.toList[0]?=some o:=by rw[hops]; rfl
       simpa using this
      have hop1:ops[1]?=some o1:=by
       have:ops.toList[1]?=some o1:=by rw[hops]; rfl
       simpa using this
      have hsz:ops.size=2:=by
       have:ops.toList.length=2:=by rw[hops]; rfl
       simpa using this
      rw[<- hcomp] at hrun
      simp only[run,qeF,qaR,qaE,Fr.get,if_true] at hrun
      refine callsDIn_of_wpSIn (F:=Fence.wide) (n:=0) hfn hbody trivial fun c₀ cs hcu=>?_
      refine wpSIn_seq (wpSIn_region ?_)
      rw[hsz]
      show wpOpsSIn Fence.wide 0 P ops _ [0,1] _ _ _
      unfold wpOpsSIn
      simp only[hop0]
      have hexec : ∀ (a:Act) (w:World),(execOp a.eval o).run P w = .ok .recover w:=fun a w=>by
       simp only[execOp,ho,resolve,Sem.run_bind,Sem.run_pure,Result.andThen_ok,invoke,builtin]
      have hw0 : ∀ tm,Region.wanted o (yielded ops tm)=true:=fun tm=>by simp[Region.wanted,hg]
      have hw1 : ∀ tm,Region.wanted o1 (yielded ops tm)=true:=fun tm=>by simp[Region.wanted,hg1]
      refine⟨fun _ _=>trivial,?_⟩
      rw[hw0]
      simp only[if_true,hexec]
      have key : ∀ (y0:Value) (cs':List Frame) (u2:FrameMode),Rep fid Γ pv y0->cs'={ c₀ with mode:=u2 }::cs->settle u2 = .returning ->
        wpOpsSIn Fence.wide 0 P ops (Exit.thenS (rest.wpSIn Fence.wide 0 P (bodyPostS P fn c₀ cs (fun e u' w' => ∃ Γ' y,e = .returned y /\ Γ'.w=w' /\ Γ'.σ = σ'/\Real fid Γ'/\Step Γ Γ'/\settle u' = .returning))) (bodyPostS P fn c₀ cs (fun e u' w' => ∃ Γ' y,e = .returned y /\ Γ'.w=w' /\ Γ'.σ = σ'/\Real fid Γ'/\Step Γ Γ'/\settle u' = .returning)))
         [1] (Act.put { tmps:=ys.toArray++Array.replicate (fn.ntmps-ys.toArray.size) undef,defers:=[] } o.dst y0) cs' Γ.w:=by
       intro y0 cs' u2 hy0 hcs hset
       unfold wpOpsSIn
       simp only[hop1]
       refine⟨fun _ _=>trivial,?_⟩
       rw[hw1]
       simp only[if_true]
       have hat0:At fid fn.ntmps true (ids.with ow false).df Γ [] ((qga,pv)::qbv 0 as) Γ { tmps:=ys.toArray++Array.replicate (fn.ntmps-ys.toArray.size) undef,defers:=[] }:=
        ⟨hr,.refl _,by simp only[Fr.defs,hk0]; exact .nil _ _ _,hf1,fun _=>rfl,fun _=>hk0⟩
       have hat1:=hat0.put (d:=o.dst) (v:=pv) (x:=y0) hN (fun k hk=>by rw[hd] at hk; cases hk; exact hdN) hr (.refl _) hy0
       cases hev:qaE C (Fr.put ((qga,pv)::qbv 0 as) o.dst pv) Γ.σ (.isnil false neg x1) with
       |none=>
        exfalso
        rw[hd] at hev
        simp only[qaE] at hev
        simp only[hev] at hrun
        simp[qcv,qaR,qaE,qbK,Fr.get,hev] at hrun
       |some res=>
        obtain⟨b,σb⟩:=res
        obtain⟨rfl,y1,r1,r2⟩:=qmp (hid.with ow false) q1' hat1.real hat1.frame hev
        rw[r1]
        simp only
        unfold wpOpsSIn
        have hat2:=hat1.put (d:=o1.dst) (v:=b) (x:=y1) hN q3 hr (.refl _) r2
        have hev':=hev
        rw[hd] at hev'
        simp only[qaE] at hev'
        simp only[hev'] at hrun
        simp only[Exit.thenS]
        refine wpSIn_of_wpIn rfl ?_
        have hflr:r.flat=true:=by grind [PC.flat]
        have hat3:At fid fn.ntmps true (ids.with ow false).df Γ [] ((Fr.put (Fr.put ((qga,pv)::qbv 0 as) o.dst pv) o1.dst b).keep (K id)) Γ ((Act.put { tmps:=ys.toArray++Array.replicate (fn.ntmps-ys.toArray.size) undef,defers:=[] } o.dst y0).put o1.dst y1):=hat2.keep (ids:=ids.with ow false) K id
        rw[hd] at hat3 ⊢
        refine qbq (ro:=none) (fl:=true) (hid.with ow false) (hcr.with ow false) hC (hL.with ow false) hm hN (fun _=>rfl) rest r hrest (fun _=>hflr) _ e fr' σ1 Γ [] Γ _ _ hrun hat3 fun Γ1 a1 ex g1 g2 g3=>?_
        subst g1
        obtain⟨Γ',z1,z2,z3,z4⟩:=qCu g2.real g2.step hend
        have post:a1.defers=[] /\ ∃ u',cs'={ c₀ with mode:=u' }::cs /\ ∃ v,(results fn a1.tmps).run P Γ1.w = .ok v Γ1.w /\ ∃ Γ' y,Ending.returned v = .returned y /\ Γ'.w = Γ1.w /\ Γ'.σ = σ'/\Real fid Γ'/\Step Γ Γ'/\settle u' = .returning:=
         ⟨g2.still rfl,u2,hcs,_,qiz hres hemp _ _,Γ',_,rfl,z1,z2,z3,z4,hset⟩
        rcases he with rfl|rfl
        ·simp only[qc6] at g3; subst g3; exact post
        ·simp only[qc6] at g3; subst g3; exact post
      cases hnil:pv.isNilIf with
      |true=>
       have hu1:=hu hnil
       have hrec:recoverD (c₀ :: cs)=none:=by simp[recoverD,hcu,hu1]
       rw[hrec]
       have hpv:pv = .dat (.lit .nilIface):=by grind [V.isNilIf]
       refine key .nilIface (c₀ :: cs) u (by rw[hpv]; exact qef rfl) ?_ (by rw[hu1]; rfl)
       subst hcu; rfl
      |false=>
       have hu1:=hu' hnil
       have hrec:recoverD (c₀ :: cs)=some (px,{ c₀ with mode := .panicking [{ v:=px,recovered:=true }] }::cs):=by simp[recoverD,hcu,hu1]
       rw[hrec]
       exact key px _ (.panicking [{ v:=px,recovered:=true }]) hp rfl rfl
     ·cases hcomp
    ·cases hcomp
   ·cases hcomp
  ·cases hcomp
  ·rename_i h1; cases h1
 ·cases h
theorem qju (hid:Ties P ids fid) (hcr:Codes P ids fid) (hC:CSound P fid C) (hL:LSound P ids fid C) (hm:P.follows .mixedOrders=true) {f:Nat} {fn:Func} {K:Nat->List Nat} {ns ow df ca:Bool} {pf:PFun} (hfn:P.funcs[fid f]?=some fn) (hc:qrM P ids K ns ow df ca fn=some pf) :
  (∀ args σ v σ',ca=false->qb5 C pf args σ = some (.ret v σ')->qmj P fid f args σ v σ') /\ ∀ args σ v σ',qaU C pf args σ = some (.ret v σ')->qxN P fid f args σ σ':=by
 unfold qrM at hc
 split at hc
 ·rename_i c hbody
  split at hc
  ·rename_i body rs hcomp hres
   split at hc
   ·rename_i hcond
    cases hc
    obtain⟨c1,c2,c3,c4⟩:=hcond
    have hname:(fn.name == "runtime.NumGoroutine")=false:=by simpa using c3
    cases ca with
    |false=>
     have hcomp':comp P (ids.with ow df) fn.ntmps K c=some body:=by
      simpa only [qpA] using hcomp
     refine⟨fun args σ v σ' _ h=>qmo hid hcr hC hL hm hfn hbody hname c2 hcomp' hres c1 rfl h,fun args σ v σ' h=>?_⟩
     have hdf:df=false:=by
      unfold qaU at h
      split at h
      ·grind
      ·cases h
     subst hdf
     exact qlh hid hcr hC hL hm hfn hbody hname c2 hcomp' hres c1 rfl h
    |true=>
     have hdf:=c4 rfl
     subst hdf
     exact⟨fun _ _ _ _ h=>by (cases h),fun args σ v σ' h=>qli hid hcr hC hL hm hfn hbody hname c2 hcomp hres c1 h⟩
   ·cases hc
  ·cases hc
 ·cases hc
end
def Tied(P:Program)(ids:Ids)(fid:Fid)(prog:Nat->Option PFun):Prop:=
 ∀ f pf,prog f=some pf -> ∃ fn K ns ow df,P.funcs[fid f]?=some fn/\qrM P ids K ns ow df pf.catches fn=some pf
theorem qr6{r:Nat->Nat}{fr:Fr}:(qmr r fr).defs=qdI r fr.defs:=by
 have hg : ∀ fr:Fr,(qmr r fr).get dkey=(fr.get dkey).map (V.ren r):=fun fr=>by
  induction fr with
  |nil=>rfl
  |cons p fr ih=>
   obtain⟨k,v⟩:=p
   simp only[qmr,Fr.get]
   split
   ·rfl
   ·exact ih
 simp only[Fr.defs,hg]
 cases fr.get dkey with
 |none=>rfl
 |some v=>cases v<;>rfl
theorem qpQ{fr:Fr} : ∀ l∈qaG fr.defs,l∈qct fr:=by
 intro l hl
 simp only[Fr.defs] at hl
 split at hl
 ·rename_i vs hg
  have key : ∀ fr:Fr,fr.get dkey=some (.tup vs)->l∈qct fr:=fun fr=>by
   induction fr with
   |nil=>intro h; simp[Fr.get] at h
   |cons p fr ih=>
    obtain⟨k,v⟩:=p
    intro h
    simp only[Fr.get] at h
    simp only[qct,Wp]
    split at h
    ·cases h; exact .inl (by simpa only [V.locs] using hl)
    ·exact .inr (ih h)
  exact key fr hg
 ·cases hl
theorem qlj {N:Nat} {fl df:Bool} {Γ0 Γ : Ctx} {ds0:List Deferred} {fr fr1:Fr} {σ1:S} {a:Act} (hat:At fid N fl df Γ0 ds0 fr Γ a) (h:gcF Γ0.σ.length fr Γ.σ = some (fr1,σ1)) :
  ∃ Γ1:Ctx,Γ1.σ = σ1 /\ Γ1.w = Γ.w/\At fid N fl df Γ0 ds0 fr1 Γ1 a:=by
 unfold gcF at h
 simp only at h
 split at h
 ·rename_i vs σs hres
  split at h
  ·rename_i hin
   simp only[Wh,WH] at h
   obtain⟨rfl,rfl⟩:=h
   obtain⟨t1,t2,t3,t4,t5,t6⟩:=qaZ hat.real hres
   refine⟨Γ.part _ σs,rfl,rfl,⟨t5,qd4 hat.step t1 t2 t4 (qgQ _ _ _),?_,FrRep.ren t4 (qha hin) hat.frame,hat.still,fun hd=>?_⟩⟩
   ·obtain⟨is,ds',m1,m2,m3,m4⟩:=hat.marks
    have ren : ∀ {is:List DI} {ds:List Deferred},DIReps fid Γ0 Γ is ds->(∀ l∈qaG (qbP is),l∈gcL Γ0.σ.length (qct fr) Γ.σ) ->
      ∃ is',DIReps fid Γ0 (Γ.part (gcL Γ0.σ.length (qct fr) Γ.σ) σs) is' ds/\qc7 is'=qc7 is/\qbP is'=qdI (idx (gcL Γ0.σ.length (qct fr) Γ.σ)) (qbP is):=by
     intro is
     induction is with
     |nil=>intro ds h _; exact⟨[],h,rfl,rfl⟩
     |cons i is ih=>
      intro ds h hl
      obtain⟨d,r,h1,h2,h3⟩:=h
      cases i with
      |m D=>
       obtain⟨is',a1,a2,a3⟩:=ih h3 hl
       refine⟨.m D::is',⟨d,r,h1,⟨h2.1,h2.2.1,h2.2.2.1,fun l hl=>?_⟩,a1⟩,by simp[qc7,a2],a3⟩
       simp only[Ctx.part] at hl
       cases hl':(gcL Γ0.σ.length (qct fr) Γ.σ)[l]? with
       |none=>rw[hl'] at hl; cases hl
       |some l'=>rw[hl'] at hl; exact h2.2.2.2 l' hl
      |c v=>
       simp only[qbP,qaG,Wp] at hl
       obtain⟨is',a1,a2,a3⟩:=ih h3 (fun l h=>hl l (.inr h))
       obtain⟨id,as,cap,ys,q1,q2,q3⟩:=h2
       subst q1
       refine⟨.c (.fn id (qdI (idx (gcL Γ0.σ.length (qct fr) Γ.σ)) as) [])::is',⟨d,r,h1,⟨id,_,cap,ys,rfl,q2,Reps.ren t4 as _ (fun l hl'=>hl l (.inl (by simp[V.locs,hl']))) q3⟩,a1⟩,a2,by simp[qbP,qdI,V.ren,a3]⟩
    obtain⟨is',a1,a2,a3⟩:=ren m2 (fun l hl=>qha hin l (qpQ l (by rw[m4] at hl; exact hl)))
    exact⟨is',ds',m1,a1,by rw[a2]; exact m3,by rw[a3,m4,qr6]⟩
   ·have:=hat.nod hd
    cases hg:(qmr (idx (gcL Γ0.σ.length (qct fr) Γ.σ)) fr).get dkey with
    |none=>rfl
    |some v=>
     obtain⟨u,h1,_⟩:=qkz hg
     rw[this] at h1; cases h1
  ·cases h
 ·cases h
theorem qjv(hid:Ties P ids fid)(hcr:Codes P ids fid)(hm:P.follows .mixedOrders=true){prog:Nat->Option PFun}(ht:Tied P ids fid prog) : ∀ n,CSound P fid (qbX prog n)/\LSound P ids fid (qbX prog n)
 |0=>⟨⟨fun f args σ v σ' h=>by simp[qbX] at h,fun f args σ v σ' h=>by simp[qbX] at h,fun args σ v σ' h=>by simp[qbX] at h⟩,fun k b fr σ e fr' σ' h=>by simp[qbX] at h⟩
 |n+1=>by
  obtain⟨hC,hL⟩:=qjv hid hcr hm ht n
  refine⟨⟨fun f args σ v σ' h=>?_,fun f args σ v σ' h=>?_,fun args σ v σ' h=>?_⟩,fun k b fr σ e fr' σ' h=>?_⟩
  ·grind [qbX,Codes,Tied,LSound,qju]
  ·grind [qbX,Codes,Tied,LSound,qju]
  ·grind [qbX,Codes,Tied,LSound,qmn]
  ·simp only[qbX] at h
   split at h
   ·rename_i fr0 σ0 hgc
    split at h
    ·rename_i fr1 σ1 hrun
     obtain⟨m,hs⟩:=hL _ _ _ _ _ _ _ h
     refine⟨m+1,fun N K ow d c ro fl hc hN hro hfl Γ0 ds0 Γ a Q hk0 hσ hat hk=>?_⟩
     subst hσ hk0
     obtain⟨Γ',rfl,e2,hat'⟩:=qlj hat hgc
     rw[roundsIn_succ,<- e2]
     refine qbq (hid.with ow d) (hcr.with ow d) hC (hL.with ow d) hm hN hro c b hc hfl fr0 .normal fr1 σ1 Γ0 ds0 Γ' a _ hrun hat' fun Γ1 a1 ex g1 g2 g3=>?_
     simp only[qc6] at g3; subst g3
     exact hs N K ow d c ro fl hc hN hro hfl Γ0 ds0 Γ1 a1 Q rfl g1 g2 hk
    ·rename_i e1 fr1 σ1 hne hrun
     simp only[Wh,Res.out.injEq] at h
     obtain⟨rfl,rfl,rfl⟩:=h
     refine⟨1,fun N K ow d c ro fl hc hN hro hfl Γ0 ds0 Γ a Q hk0 hσ hat hk=>?_⟩
     subst hσ hk0
     obtain⟨Γ',rfl,e2,hat'⟩:=qlj hat hgc
     rw[roundsIn_succ,<- e2]
     refine qbq (hid.with ow d) (hcr.with ow d) hC (hL.with ow d) hm hN hro c b hc hfl fr0 e1 fr1 σ1 Γ0 ds0 Γ' a _ hrun hat' fun Γ1 a1 ex g1 g2 g3=>?_
     have:=hk Γ1 a1 ex g1 g2 g3
     cases e1 with
     |normal=>exact (hne rfl).elim
     |exit id=>simp only[qc6] at g3; subst g3; exact this
     |ret=>simp only[qc6] at g3; subst g3; exact this
     |pan v=>simp only[qc6] at g3; obtain⟨x,rfl,_⟩:=g3; exact this
    ·cases h
   ·cases h
end
end Go.Pm
section
namespace Go.Pm
def Le(C C':Task->Option Res):Prop := ∀ t r,C t=some r->C' t=some r
section
variable{C C':Task->Option Res}
theorem qbE(h:Le C C'){f:List V->S->Task}{args:List V}{σ : S}{r:V × S}(hr:qbF C f args σ = some r):qbF C' f args σ = some r:=by grind [qbF,Le]
theorem qdL(h:Le C C'){f:List V->S->Task}{args:List V}{σ : S}{r:V × S}(hr:qba C f args σ = some r):qba C' f args σ = some r:=by grind [qba,Le]
theorem qjl(h:Le C C'){fr:Fr}{σ : S}{op:O}{r:V × S}(hr:qbK C fr σ op=some r):qbK C' fr σ op=some r:=by
 cases op with
 |call f xs=>
  simp only[qbK] at hr ⊢
  split at hr
  ·exact qdL h hr
  ·cases hr
 |callv f xs=>
  simp only[qbK] at hr ⊢
  split at hr
  ·exact qdL h hr
  ·exact qdL h hr
  ·cases hr
 |invoke tbl x xs=>
  simp only[qbK] at hr ⊢
  split at hr
  ·grind [Le,qbK,qdL]
  ·cases hr
 |_=>exact hr
theorem qcb(h:Le C C'){fr:Fr}{σ : S}{op:O}{r:V × S}(hr:qaE C fr σ op=some r):qaE C' fr σ op=some r:=by
 cases op with
 |call f xs=>
  simp only[qaE] at hr ⊢
  split at hr
  ·exact qbE h hr
  ·cases hr
 |callv f xs=>
  simp only[qaE] at hr ⊢
  split at hr
  ·exact qbE h hr
  ·exact qbE h hr
  ·exact qbE h hr
  ·cases hr
 |invoke tbl x xs=>
  simp only[qaE] at hr ⊢
  split at hr
  ·grind [Le,qaE,qbE]
  ·cases hr
 |_=>exact hr
theorem qfd(h:Le C C') : ∀ {is:List I} {fr:Fr} {σ : S} {r:Fr × S},qeF C is fr σ = some r->qeF C' is fr σ = some r
 |[],_,_,_,hr=>hr
 |i::is,fr,σ,r,hr=>by
  simp only[qeF] at hr ⊢
  split at hr
  ·rename_i hw
   split at hr
   ·rename_i v σ' hv
    simp only[qcb h hv]
    exact qfd h hr
   ·cases hr
  ·exact qfd h hr
  ·cases hr
theorem qen(h:Le C C'){f:List V->S->Task}{args:List V}{σ : S}{r:V × S}(hr:qba C f args σ = some r):qbF C' f args σ = none:=by grind [qba,qbF,Le]
theorem qgb(h:Le C C'){fr:Fr}{σ : S}{op:O}{r:V × S}(hr:qbK C fr σ op=some r):qaE C' fr σ op=none:=by
 cases op with
 |call f xs=>
  simp only[qbK] at hr
  simp only[qaE]
  split at hr
  ·exact qen h hr
  ·cases hr
 |callv f xs=>
  simp only[qbK] at hr
  simp only[qaE]
  split at hr
  ·grind [Le,qbK,qaE,qen]
  ·grind [Le,qbK,qaE,qen]
  ·cases hr
 |invoke tbl x xs=>
  simp only[qbK] at hr
  simp only[qaE]
  split at hr
  ·grind [Le,qbK,qaE,qen]
  ·cases hr
 |panic x=>rfl
 |_=>cases hr
theorem qds(h:Le C C') : ∀ {is:List I} {fr:Fr} {σ : S} {r:V × Fr × S},qcv C is fr σ = some r->qcv C' is fr σ = some r/\qeF C' is fr σ = none
 |[],_,_,_,hr=>by simp[qcv] at hr
 |i::is,fr,σ,r,hr=>by
  simp only[qcv,qeF] at hr ⊢
  split at hr
  ·rename_i hw
   split at hr
   ·rename_i v σ' hv
    simp only[qcb h hv]
    exact qds h hr
   ·grind [Le,qcv,qeF,qgb,qjl]
  ·exact qds h hr
  ·cases hr
theorem qcP(h:Le C C') : ∀ {is:List I} {q:Nat} {fr:Fr} {σ : S} {r:Nat × List Ev × V × S},qbu C q is fr σ = some r->qbu C' q is fr σ = some r/\qcS C' is fr σ = none
 |[],_,_,_,_,hr=>by simp[qbu] at hr
 |i::is,q,fr,σ,r,hr=>by
  simp only[qbu,qcS] at hr ⊢
  split at hr
  ·rename_i hw
   split at hr
   ·rename_i v σ' hv
    simp only[qcb h hv]
    split at hr
    ·rename_i p l u σ'' hrest
     obtain⟨h1,h2⟩:=qcP h hrest
     simp only[h1,h2]
     exact⟨hr,trivial⟩
    ·cases hr
   ·grind [Le,qbu,qcS,qgb,qjl]
  ·split at hr
   ·rename_i p l u σ'' hrest
    obtain⟨h1,h2⟩:=qcP h hrest
    simp only[h1,h2]
    exact⟨hr,trivial⟩
   ·cases hr
  ·cases hr
theorem qdt(h:Le C C') : ∀ {is:List I} {fr:Fr} {σ : S} {r:List Ev × Fr × S},qcS C is fr σ = some r->qcS C' is fr σ = some r
 |[],_,_,_,hr=>hr
 |i::is,fr,σ,r,hr=>by
  simp only[qcS] at hr ⊢
  split at hr
  ·rename_i hw
   split at hr
   ·rename_i v σ' hv
    simp only[qcb h hv]
    split at hr
    ·rename_i l fr' σ'' hrest
     simp only[qdt h hrest]; exact hr
    ·cases hr
   ·cases hr
  ·split at hr
   ·rename_i l fr' σ'' hrest
    simp only[qdt h hrest]; exact hr
   ·cases hr
  ·cases hr
theorem qd5(h:Le C C') : ∀ {is:List I} {fr:Fr} {σ : S} {r:List (Fr × S)},qcT C is fr σ = some r->qcT C' is fr σ = some r
 |[],_,_,_,hr=>hr
 |i::is,fr,σ,r,hr=>by
  simp only[qcT] at hr ⊢
  split at hr
  ·rename_i hw
   split at hr
   ·rename_i v σ' hv
    simp only[qcb h hv]
    split at hr
    ·rename_i l hrest
     simp only[qd5 h hrest]; exact hr
    ·cases hr
   ·cases hr
  ·split at hr
   ·rename_i l hrest
    simp only[qd5 h hrest]; exact hr
   ·cases hr
  ·cases hr
theorem qa3(h:Le C C'){k:Nat} : ∀ {pc:PC} {fr:Fr} {σ : S} {r:Ex × Fr × S},run C k pc fr σ = some r->run C' k pc fr σ = some r
 |.range f ps as bd,fr,σ,r,hr=>by grind [run,Le,qbE]
 |.skip,_,_,_,hr=>hr
 |.exit _,_,_,_,hr=>hr
 |.ret,_,_,_,hr=>hr
 |.region none ops keep _,fr,σ,r,hr=>by grind [run,Le,qfd,qds]
 |.region (some rs) ops keep _,fr,σ,r,hr=>by grind [run,Le,qdt,qd5,qcP]
 |.seq a b,fr,σ,r,hr=>by
  simp only[run] at hr ⊢
  split at hr
  ·rename_i fr' σ' hx; simp only[qa3 h hx]; exact qa3 h hr
  ·rename_i hne
   have:=qa3 h hr
   rw[this]
   obtain⟨e,fr',σ'⟩:=r
   cases e with
   |normal=>exact absurd hr (hne _ _)
   |exit id=>rfl
   |ret=>rfl
   |pan v=>rfl
 |.cond c a b,fr,σ,r,hr=>by
  simp only[run] at hr ⊢
  split at hr
  ·exact qa3 h hr
  ·exact qa3 h hr
  ·cases hr
 |.block id b,fr,σ,r,hr=>by
  simp only[run] at hr ⊢
  split at hr
  ·rename_i id' fr' σ' hx; simp only[qa3 h hx]; exact hr
  ·rename_i hne
   have:=qa3 h hr
   rw[this]
   obtain⟨e,fr',σ'⟩:=r
   cases e with
   |normal=>rfl
   |exit id=>exact absurd hr (hne _ _ _)
   |ret=>rfl
   |pan v=>rfl
 |.loop b,fr,σ,r,hr=>by grind [run,Le]
theorem qeo(h:Le C C'){args:List V}{σ : S}{r:Res}(hr:qbs C args σ = some r):qbs C' args σ = some r:=by
 unfold qbs at hr ⊢
 split at hr
 ·split at hr
  ·split at hr
   ·rename_i hlp hc
    simp only[if_pos hc]
    split at hr
    ·rename_i fr1 σ1 hx
     simp only[qa3 h hx]
     split at hr
     ·split at hr
      ·rename_i hlp1 hst
       simp only[hlp1,if_pos hst]
       split at hr
       ·cases hr
       ·rename_i e fr2 σ2 hnp hy
        simp only[qa3 h hy]
        cases e with
        |pan v=>exact (hnp _ rfl).elim
        |normal=>exact hr
        |exit id=>exact hr
        |ret=>exact hr
       ·cases hr
      ·cases hr
     ·cases hr
    ·cases hr
   ·cases hr
  ·cases hr
 ·cases hr
theorem qcc(h:Le C C') : ∀ {l:List V} {σ : S} {r:S},qbn C l σ = some r->qbn C' l σ = some r
 |[],σ,r,hr=>hr
 |v::l,σ,r,hr=>by
  unfold qbn at hr ⊢
  split at hr
  ·rename_i e; cases e
  ·rename_i id a r' e
   cases e
   split at hr
   ·rename_i v' σ' hc
    simp only[qbE h hc]
    exact qcc h hr
   ·cases hr
  ·cases hr
theorem qjm(h:Le C C'){pf:PFun}{k:Nat}{fr:Fr}{σ : S}{r:Res}(hr:qgk C pf k fr σ = some r):qgk C' pf k fr σ = some r:=by grind [qgk,Le,qcc]
theorem qir(h:Le C C'){pf:PFun}{k:Nat}{v:V}{fr:Fr}{σ : S}{r:Res}(hr:qfG C pf k v fr σ = some r):qfG C' pf k v fr σ = some r:=by
 unfold qfG at hr ⊢
 split at hr
 ·exact hr
 ·grind [Le,qfG,qbE,qcc]
 ·cases hr
theorem qgc(h:Le C C'){pf:PFun}{args:List V}{σ : S}{r:Res}(hr:qb5 C pf args σ = some r):qb5 C' pf args σ = some r:=by grind [qgk,qc9,qb5,Le,qjm,qa3,qir]
theorem qfE(h:Le C C'){pf:PFun}{args:List V}{σ : S}{r:Res}(hr:qaU C pf args σ = some r):qaU C' pf args σ = some r:=by
 unfold qaU at hr ⊢
 split at hr
 ·grind [Le,qaU,qa3]
 ·cases hr
end
variable{prog:Nat->Option PFun}
theorem qk5 : ∀ n,Le (qbX prog n) (qbX prog (n+1))
 |0=>fun t r h=>by simp[qbX] at h
 |n+1=>fun t r h=>by
  have ih:=qk5 n
  cases t with
  |call f args σ=>
   simp only[qbX] at h ⊢
   split at h
   ·grind [Le,qbX,qgc]
   ·cases h
  |dcall f args σ=>
   simp only[qbX] at h ⊢
   split at h
   ·exact qfE ih h
   ·cases h
  |round args σ=>
   simp only[qbX] at h ⊢
   exact qeo ih h
  |loop k b fr σ=>
   simp only[qbX] at h ⊢
   split at h
   ·grind [Le,qbX,qa3]
   ·cases h
theorem qa0{m n:Nat}(h:m<=n):Le (qbX prog m) (qbX prog n):=by
 induction n with
 | zero => have:m=0:=by omega
           subst this; exact fun _ _ h=>h
 |succ n ih=>
  rcases Yc n m with h'|h'
  ·grind [Le,qbX]
  ·exact fun t r ht=>qk5 n t r (ih h' t r ht)
open Classical in
noncomputable def Z(prog:Nat->Option PFun)(t:Task):Option Res:=if h : ∃ n r,qbX prog n t=some r then qbX prog (Classical.choose h) t else none
theorem Z_iff{t:Task}{r:Res}:Z prog t=some r ↔ ∃ n,qbX prog n t=some r:=by
 classical
 unfold Z
 constructor
 ·intro h
  split at h
  ·exact⟨_,h⟩
  ·cases h
 ·rintro ⟨n,hn⟩
  have hex : ∃ n r,qbX prog n t=some r:=⟨n,r,hn⟩
  rw[dif_pos hex]
  obtain⟨r',hr'⟩:=Classical.choose_spec hex
  have h1:=qa0 (prog:=prog) (WT n (Classical.choose hex)) t r hn
  have h2:=qa0 (prog:=prog) (WR n (Classical.choose hex)) t r' hr'
  rw[h1] at h2
  rw[hr',h2]
theorem qmf{n:Nat}{t:Task}{r:Res}(h:qbX prog n t=some r):Z prog t=some r:=Z_iff.2 ⟨n,h⟩
theorem qcQ{f:List V->S->Task}{args:List V}{σ : S}{r:V × S}(hr:qbF (Z prog) f args σ = some r) : ∃ n,qbF (qbX prog n) f args σ = some r:=by
 unfold qbF at hr ⊢
 simp only at hr ⊢
 split at hr
 ·split at hr
  ·cases hr
  ·rename_i v s' hnp hc
   obtain⟨n,hn⟩:=Z_iff.1 hc
   exact⟨n,by simp only[hn]; exact hr⟩
  ·cases hr
 ·cases hr
theorem qfe{f:List V->S->Task}{args:List V}{σ : S}{r:V × S}(hr:qba (Z prog) f args σ = some r) : ∃ n,qba (qbX prog n) f args σ = some r:=by
 unfold qba at hr ⊢
 simp only at hr ⊢
 split at hr
 ·split at hr
  ·rename_i v s' hc
   obtain⟨n,hn⟩:=Z_iff.1 hc
   exact⟨n,by simp only[hn]; exact hr⟩
  ·cases hr
 ·cases hr
theorem qnb{fr:Fr}{σ : S}{op:O}{r:V × S}(hr:qbK (Z prog) fr σ op=some r) : ∃ n,qbK (qbX prog n) fr σ op=some r:=by
 cases op with
 |call f xs=>
  simp only[qbK] at hr ⊢
  split at hr
  ·exact qfe hr
  ·cases hr
 |callv f xs=>
  simp only[qbK] at hr ⊢
  split at hr
  ·exact qfe hr
  ·exact qfe hr
  ·cases hr
 |invoke tbl x xs=>
  simp only[qbK] at hr ⊢
  split at hr
  ·split at hr
   ·exact qfe hr
   ·cases hr
  ·cases hr
 |_=>exact⟨0,hr⟩
theorem qis{fr:Fr}{σ : S}{op:O}{r:V × S}(hr:qaE (Z prog) fr σ op=some r) : ∃ n,qaE (qbX prog n) fr σ op=some r:=by
 cases op with
 |call f xs=>
  simp only[qaE] at hr ⊢
  split at hr
  ·exact qcQ hr
  ·cases hr
 |callv f xs=>
  simp only[qaE] at hr ⊢
  split at hr
  ·exact qcQ hr
  ·exact qcQ hr
  ·exact qcQ hr
  ·cases hr
 |invoke tbl x xs=>
  simp only[qaE] at hr ⊢
  split at hr
  ·split at hr
   ·exact qcQ hr
   ·cases hr
  ·cases hr
 |_=>exact⟨0,hr⟩
theorem qkh : ∀ {is:List I} {fr:Fr} {σ : S} {r:Fr × S},qeF (Z prog) is fr σ = some r -> ∃ n,qeF (qbX prog n) is fr σ = some r
 |[],_,_,_,hr=>⟨0,hr⟩
 |i::is,fr,σ,r,hr=>by
  simp only[qeF] at hr ⊢
  split at hr
  ·rename_i hw
   split at hr
   ·rename_i v σ' hv
    obtain⟨n,hn⟩:=qis hv
    obtain⟨m,hm⟩:=qkh hr
    refine⟨max n m,?_⟩
    simp only[qcb (qa0 (WT n m)) hn]
    exact qfd (qa0 (WR n m)) hm
   ·cases hr
  ·exact qkh hr
  ·cases hr
theorem qit : ∀ {is:List I} {fr:Fr} {σ : S} {r:List Ev × Fr × S},qcS (Z prog) is fr σ = some r -> ∃ n,qcS (qbX prog n) is fr σ = some r
 |[],_,_,_,hr=>⟨0,hr⟩
 |i::is,fr,σ,r,hr=>by
  simp only[qcS] at hr ⊢
  split at hr
  ·rename_i hw
   split at hr
   ·rename_i v σ' hv
    obtain⟨n,hn⟩:=qis hv
    split at hr
    ·rename_i l fr' σ'' hrest
     obtain⟨m,hm⟩:=qit hrest
     refine⟨max n m,?_⟩
     simp only[qcb (qa0 (WT n m)) hn,qdt (qa0 (WR n m)) hm]
     exact hr
    ·cases hr
   ·cases hr
  ·split at hr
   ·rename_i l fr' σ'' hrest
    obtain⟨m,hm⟩:=qit hrest
    exact⟨m,by simp only[hm]; exact hr⟩
   ·cases hr
  ·cases hr
theorem qki : ∀ {is:List I} {fr:Fr} {σ : S} {r:List (Fr × S)},qcT (Z prog) is fr σ = some r -> ∃ n,qcT (qbX prog n) is fr σ = some r
 |[],_,_,_,hr=>⟨0,hr⟩
 |i::is,fr,σ,r,hr=>by
  simp only[qcT] at hr ⊢
  split at hr
  ·rename_i hw
   split at hr
   ·rename_i v σ' hv
    obtain⟨n,hn⟩:=qis hv
    split at hr
    ·rename_i l hrest
     obtain⟨m,hm⟩:=qki hrest
     refine⟨max n m,?_⟩
     simp only[qcb (qa0 (WT n m)) hn,qd5 (qa0 (WR n m)) hm]
     exact hr
    ·cases hr
   ·cases hr
  ·split at hr
   ·rename_i l hrest
    obtain⟨m,hm⟩:=qki hrest
    exact⟨m,by simp only[hm]; exact hr⟩
   ·cases hr
  ·cases hr
theorem qiu : ∀ {is:List I} {fr:Fr} {σ : S} {r:V × Fr × S},qcv (Z prog) is fr σ = some r -> ∃ n,qcv (qbX prog n) is fr σ = some r
 |[],_,_,_,hr=>by simp[qcv] at hr
 |i::is,fr,σ,r,hr=>by
  simp only[qcv] at hr ⊢
  split at hr
  ·rename_i hw
   split at hr
   ·rename_i v σ' hv
    obtain⟨n,hn⟩:=qis hv
    obtain⟨m,hm⟩:=qiu hr
    refine⟨max n m,?_⟩
    simp only[qcb (qa0 (WT n m)) hn]
    exact (qds (qa0 (WR n m)) hm).1
   ·split at hr
    ·rename_i v σ' hv
     obtain⟨n,hn⟩:=qnb hv
     exact⟨n,by simp only[qgb (fun _ _ h=>h) hn,hn]; exact hr⟩
    ·cases hr
  ·exact qiu hr
  ·cases hr
theorem qgR : ∀ {is:List I} {q:Nat} {fr:Fr} {σ : S} {r:Nat × List Ev × V × S},qbu (Z prog) q is fr σ = some r -> ∃ n,qbu (qbX prog n) q is fr σ = some r
 |[],_,_,_,_,hr=>by simp[qbu] at hr
 |i::is,q,fr,σ,r,hr=>by
  simp only[qbu] at hr ⊢
  split at hr
  ·rename_i hw
   split at hr
   ·rename_i v σ' hv
    obtain⟨n,hn⟩:=qis hv
    split at hr
    ·rename_i p l u σ'' hrest
     obtain⟨m,hm⟩:=qgR hrest
     refine⟨max n m,?_⟩
     simp only[qcb (qa0 (WT n m)) hn,(qcP (qa0 (WR n m)) hm).1]
     exact hr
    ·cases hr
   ·split at hr
    ·rename_i v σ' hv
     obtain⟨n,hn⟩:=qnb hv
     exact⟨n,by simp only[qgb (fun _ _ h=>h) hn,hn]; exact hr⟩
    ·cases hr
  ·split at hr
   ·rename_i p l u σ'' hrest
    obtain⟨m,hm⟩:=qgR hrest
    exact⟨m,by simp only[hm]; exact hr⟩
   ·cases hr
  ·cases hr
theorem qdu{k:Nat} : ∀ {pc:PC} {fr:Fr} {σ : S} {r:Ex × Fr × S},run (Z prog) k pc fr σ = some r -> ∃ n,run (qbX prog n) k pc fr σ = some r
 |.range f ps as bd,fr,σ,r,hr=>by grind [run,Z,qbX,qcQ]
 |.skip,_,_,_,hr=>⟨0,hr⟩
 |.exit _,_,_,_,hr=>⟨0,hr⟩
 |.ret,_,_,_,hr=>⟨0,hr⟩
 |.region none ops keep _,fr,σ,r,hr=>by
  simp only[run] at hr ⊢
  split at hr
  ·grind [run,Z,qbX,qkh]
  ·split at hr
   ·rename_i v fr' σ' hx
    obtain⟨n,hn⟩:=qiu hx
    exact⟨n,by simp only[hn,(qds (fun _ _ h=>h) hn).2]; exact hr⟩
   ·cases hr
 |.region (some rs) ops keep _,fr,σ,r,hr=>by
  simp only[run] at hr ⊢
  split at hr
  ·rename_i es fr' σ' hx
   obtain⟨n,hn⟩:=qit hx
   split at hr
   ·grind
   ·rename_i hc
    split at hr
    ·rename_i ss ht
     obtain⟨m,hm⟩:=qki ht
     refine⟨max n m,?_⟩
     simp only[qdt (qa0 (WT n m)) hn,qd5 (qa0 (WR n m)) hm]
     rw[if_neg hc]; exact hr
    ·cases hr
  ·split at hr
   ·rename_i p es v σ' hx
    obtain⟨n,hn⟩:=qgR hx
    exact⟨n,by simp only[hn,(qcP (fun _ _ h=>h) hn).2]; exact hr⟩
   ·cases hr
 |.seq a b,fr,σ,r,hr=>by
  simp only[run] at hr ⊢
  split at hr
  ·rename_i fr' σ' hx
   obtain⟨n,hn⟩:=qdu hx
   obtain⟨m,hm⟩:=qdu hr
   refine⟨max n m,?_⟩
   simp only[qa3 (qa0 (WT n m)) hn]
   exact qa3 (qa0 (WR n m)) hm
  ·rename_i hne
   obtain⟨n,hn⟩:=qdu hr
   refine⟨n,?_⟩
   rw[hn]
   obtain⟨e,fr',σ'⟩:=r
   cases e with
   |normal=>exact absurd hr (hne _ _)
   |exit id=>rfl
   |ret=>rfl
   |pan v=>rfl
 |.cond c a b,fr,σ,r,hr=>by
  simp only[run] at hr ⊢
  split at hr
  ·exact qdu hr
  ·exact qdu hr
  ·cases hr
 |.block id b,fr,σ,r,hr=>by
  simp only[run] at hr ⊢
  split at hr
  ·rename_i id' fr' σ' hx
   obtain⟨n,hn⟩:=qdu hx
   exact⟨n,by simp only[hn]; exact hr⟩
  ·rename_i hne
   obtain⟨n,hn⟩:=qdu hr
   refine⟨n,?_⟩
   rw[hn]
   obtain⟨e,fr',σ'⟩:=r
   cases e with
   |normal=>rfl
   |exit id=>exact absurd hr (hne _ _ _)
   |ret=>rfl
   |pan v=>rfl
 |.loop b,fr,σ,r,hr=>by
  simp only[run] at hr ⊢
  split at hr
  ·rename_i e fr' σ' hx
   obtain⟨n,hn⟩:=Z_iff.1 hx
   exact⟨n,by simp only[hn]; exact hr⟩
  ·cases hr
theorem qeM : ∀ {l:List V} {σ : S} {r:S},qbn (Z prog) l σ = some r -> ∃ n,qbn (qbX prog n) l σ = some r
 |[],σ,r,hr=>⟨0,hr⟩
 |v::l,σ,r,hr=>by
  unfold qbn at hr ⊢
  split at hr
  ·rename_i e; cases e
  ·rename_i id a r' e
   cases e
   split at hr
   ·rename_i v' σ' hc
    obtain⟨n,hn⟩:=qcQ hc
    obtain⟨m,hm⟩:=qeM hr
    refine⟨max n m,?_⟩
    simp only[qbE (qa0 (WT n m)) hn]
    exact qcc (qa0 (WR n m)) hm
   ·cases hr
  ·cases hr
theorem qnc{pf:PFun}{k:Nat}{fr:Fr}{σ : S}{r:Res}(hr:(if pf.df then qgk (Z prog) pf k fr σ else qc9 pf k fr σ)=some r) : ∃ n,(if pf.df then qgk (qbX prog n) pf k fr σ else qc9 pf k fr σ)=some r:=by
 split at hr
 ·grind [qgk,Z,qc9,qbX,qeM]
 ·rename_i hd
  simp only[if_neg hd]
  exact⟨0,hr⟩
theorem qpH{pf:PFun}{k:Nat}{v:V}{fr:Fr}{σ : S}{r:Res}(hr:qfG (Z prog) pf k v fr σ = some r) : ∃ n,qfG (qbX prog n) pf k v fr σ = some r:=by
 unfold qfG at hr ⊢
 split at hr
 ·exact⟨0,hr⟩
 ·split at hr
  ·cases hr
  ·rename_i hn
   simp only[if_neg hn]
   split at hr
   ·rename_i v' σ' hc
    obtain⟨n,hn⟩:=qcQ hc
    split at hr
    ·rename_i σ'' hx
     obtain⟨m,hm⟩:=qeM hx
     refine⟨max n m,?_⟩
     simp only[qbE (qa0 (WT n m)) hn,qcc (qa0 (WR n m)) hm]
     exact hr
    ·cases hr
   ·cases hr
 ·cases hr
theorem qmg{pf:PFun}{args:List V}{σ : S}{r:Res}(h:qb5 (Z prog) pf args σ = some r) : ∃ n,qb5 (qbX prog n) pf args σ = some r:=by
 have lv : ∀ {n m k fr σ},(if pf.df then qgk (qbX prog m) pf k fr σ else qc9 pf k fr σ)=some r->m<=n->(if pf.df then qgk (qbX prog n) pf k fr σ else qc9 pf k fr σ)=some r:=fun hr hle=>by
  split at hr
  ·rename_i hd; rw[if_pos hd]; exact qjm (qa0 hle) hr
  ·rename_i hd; rw[if_neg hd]; exact hr
 unfold qb5 at h ⊢
 split at h
 ·rename_i hl
  simp only[if_pos hl]
  split at h
  ·rename_i fr σ' hx
   obtain⟨n,hn⟩:=qdu hx
   obtain⟨m,hm⟩:=qnc h
   refine⟨max n m,?_⟩
   simp only[qa3 (qa0 (WT n m)) hn]
   exact lv hm (WR n m)
  ·rename_i fr σ' hx
   obtain⟨n,hn⟩:=qdu hx
   obtain⟨m,hm⟩:=qnc h
   refine⟨max n m,?_⟩
   simp only[qa3 (qa0 (WT n m)) hn]
   exact lv hm (WR n m)
  ·rename_i v fr σ' hx
   obtain⟨n,hn⟩:=qdu hx
   obtain⟨m,hm⟩:=qpH h
   refine⟨max n m,?_⟩
   simp only[qa3 (qa0 (WT n m)) hn]
   exact qir (qa0 (WR n m)) hm
  ·cases h
 ·cases h
theorem qac{f:Nat}{pf:PFun}{args:List V}{σ : S}{r:Res}(hf:prog f=some pf)(hc:pf.catches=false)(h:qb5 (Z prog) pf args σ = some r):Z prog (.call f args σ)=some r:=by
 obtain⟨n,hn⟩:=qmg h
 exact qmf (n:=n+1) (by simp only[qbX,hf,hc,Wn,if_false,hn])
theorem qmh{f:Nat}{pf:PFun}{args:List V}{σ : S}{r:Res}(hf:prog f=some pf)(h:qaU (Z prog) pf args σ = some r):Z prog (.dcall f args σ)=some r:=by
 have : ∃ n,qaU (qbX prog n) pf args σ = some r:=by
  unfold qaU at h ⊢
  split at h
  ·grind [qaU,Z,qdu]
  ·cases h
 obtain⟨n,hn⟩:=this
 exact qmf (n:=n+1) (by simp only[qbX,hf,hn])
theorem qmi{k:Nat}{b:PC}{fr fr0 fr':Fr}{σ σ0 σ':S}{r:Res}(hg:gcF k fr σ = some (fr0,σ0))(h:run (Z prog) k b fr0 σ0=some (.normal,fr',σ'))(hr:Z prog (.loop k b fr' σ')=some r):Z prog (.loop k b fr σ)=some r:=by
 obtain⟨n,hn⟩:=qdu h
 obtain⟨m,hm⟩:=Z_iff.1 hr
 refine qmf (n:=max n m+1) ?_
 simp only[qbX,hg,qa3 (qa0 (WT n m)) hn]
 exact qa0 (WR n m) _ _ hm
theorem qoq{k:Nat}{b:PC}{fr fr0 fr':Fr}{σ σ0 σ':S}{e:Ex}(he:e ≠ .normal)(hg:gcF k fr σ = some (fr0,σ0))(h:run (Z prog) k b fr0 σ0=some (e,fr',σ')):Z prog (.loop k b fr σ)=some (.out e fr' σ'):=by
 obtain⟨n,hn⟩:=qdu h
 refine qmf (n:=n+1) ?_
 simp only[qbX,hg,hn]
 all_goals (cases e with
  |normal=>exact absurd rfl he
  |exit id=>rfl
  |ret=>rfl
  |pan v=>rfl)
theorem quU{args:List V}{σ : S}{r:Res}(h:qbs (Z prog) args σ = some r):Z prog (.round args σ)=some r:=by
 have : ∃ n,qbs (qbX prog n) args σ = some r:=by
  unfold qbs at h ⊢
  split at h
  ·split at h
   ·split at h
    ·rename_i hlp hc
     simp only[if_pos hc]
     split at h
     ·rename_i fr1 σ1 hx
      obtain⟨n,hn⟩:=qdu hx
      split at h
      ·split at h
       ·rename_i hlp1 hst
        split at h
        ·cases h
        ·rename_i e fr2 σ2 hnp hy
         obtain⟨m,hm⟩:=qdu hy
         refine⟨max n m,?_⟩
         simp only[qa3 (qa0 (WT n m)) hn,hlp1,if_pos hst,qa3 (qa0 (WR n m)) hm]
         cases e with
         |pan v=>exact (hnp _ rfl).elim
         |normal=>exact h
         |exit id=>exact h
         |ret=>exact h
        ·cases h
       ·cases h
      ·cases h
     ·cases h
    ·cases h
   ·cases h
  ·cases h
 obtain⟨n,hn⟩:=this
 exact qmf (n:=n+1) (by simp only[qbX,hn])
variable{P:Program}{ids:Ids}{fid:Fid}
def qpI(w:World):Nat->Nat:=fun b=>match w.heap[b]? with
 |some (.cells arr _ _)=>arr.size
 |_=>0
def qfN(w:World):Ctx:=⟨[],fun _=>none,qpI w,w⟩
def GlbAt(fid:Fid)(w:World):Prop := ∀ g cs,fid.gl g=some cs -> ∃ vs,RepDs (qpI w) w cs vs/\Row (qpI w) w g 0 vs
theorem qor{w:World}(hg:GlbAt fid w):Real fid (qfN w):=by
 refine⟨fun l ob b h=>by simp[qfN] at h,fun l b h=>by simp[qfN] at h,fun l l' b h=>by simp[qfN] at h,fun b hb=>?_,hg⟩
 simp only[qfN,qpI] at hb ⊢
 cases h:w.heap[b]? with
 |none=>rw[h] at hb; simp at hb
 |some o=>
  rw[h] at hb
  cases o<;>simp only at hb<;>first | (exact absurd hb (WX _)) | exact⟨_,_,_,rfl,Wj _⟩
theorem calls_of_Z (hid:Ties P ids fid) (hcr:Codes P ids fid) (hm:P.follows .mixedOrders=true) (ht:Tied P ids fid prog) {f:Nat} {args:List V} {xs:List Value} {d:Value} {σ':S} {w:World} (h:Z prog (.call f args [])=some (.ret (.dat (.lit d)) σ')) (hg:GlbAt fid w)
  (ha:Reps fid (qfN w) args xs):Calls P (fid f) xs.toArray w fun e w'=>e = .returned d/\w'.os=w.os/\w'.tape=w.tape/\w'.output=w.output/\w.heap.size<=w'.heap.size /\ ∀ k,k<w.heap.size->w'.heap[k]?=w.heap[k]?:=by
 obtain⟨n,hn⟩:=Z_iff.1 h
 obtain⟨_,hs⟩:=(qjv hid hcr hm ht n).1.call _ _ _ _ _ hn
 refine (callsIn_wide.1 (hs (qfN w) xs rfl (qor hg) ha)).mono ?_
 rintro e w' ⟨Γ',rfl,_,_,h3,hout⟩
 rcases hout with ⟨x,rfl,h4⟩|⟨u,x,hu,_⟩
 rotate_left
 ·cases hu
 refine⟨by rw[(qat h4).1],h3.ext.os,h3.ext.tape,h3.ext.output,h3.ext.size,fun k hk=>(h3.frm.same k hk fun l h=>by simp[qfN] at h).1⟩
end Go.Pm
namespace Go.Pm
variable{prog:Nat->Option PFun}
theorem qpJ{α : Type}{a b:Option α}(h : ∀ r,a=some r->b=some r)(k : ∀ r,b=some r->a=some r):a=b:=by
 cases a with
 |some r=>exact (h r rfl).symm
 |none=>cases b with
  |none=>rfl
  |some r=>exact k r rfl
theorem qt4{n:Nat}:Le (qbX prog n) (Z prog):=fun _ _ h=>qmf h
def qab(C:Task->Option Res)(k:Nat)(b:PC):Option (Fr × S)->Option Res
 |some (fr0,σ0)=>match run C k b fr0 σ0 with
  |some (.normal,fr',σ')=>C (.loop k b fr' σ')
  |some (e,fr',σ')=>some (.out e fr' σ')
  |none=>none
 |none=>none
theorem qaa(k:Nat)(b:PC)(fr:Fr)(σ : S):Z prog (.loop k b fr σ)=qab (Z prog) k b (gcF k fr σ):=by
 refine qpJ (fun r h=>?_) (fun r h=>?_)
 ·obtain⟨n,hn⟩:=Z_iff.1 h
  cases n with
  |zero=>simp[qbX] at hn
  |succ n=>
   simp only[qbX] at hn
   split at hn
   ·grind [qab,Z,gcF,qa3,qt4,qmf]
   ·cases hn
 ·grind [qab,Z,gcF,qmi,qoq]
theorem qcx(args:List V)(σ : S):Z prog (.round args σ)=qbs (Z prog) args σ:=by
 refine qpJ (fun r h=>?_) (fun r h=>quU h)
 obtain⟨n,hn⟩:=Z_iff.1 h
 cases n with
 |zero=>simp[qbX] at hn
 |succ n=>
  simp only[qbX] at hn
  exact qeo qt4 hn
theorem qnd{prog prog':Nat->Option PFun}(hs : ∀ f pf,prog f=some pf->prog' f=some pf) : ∀ n,Le (qbX prog n) (qbX prog' n)
 |0=>fun t r h=>by simp[qbX] at h
 |n+1=>fun t r h=>by
  have ih:=qnd hs n
  cases t with
  |call f args σ=>
   simp only[qbX] at h ⊢
   split at h
   ·grind [Le,qbX,qgc]
   ·cases h
  |dcall f args σ=>
   simp only[qbX] at h ⊢
   split at h
   ·grind [Le,qbX,qfE]
   ·cases h
  |round args σ=>
   simp only[qbX] at h ⊢
   exact qeo ih h
  |loop k b fr σ=>
   simp only[qbX] at h ⊢
   split at h
   ·grind [Le,qbX,qa3]
   ·cases h
theorem qgS{prog prog':Nat->Option PFun}(hs : ∀ f pf,prog f=some pf->prog' f=some pf){t:Task}{r:Res}(h:Z prog t=some r):Z prog' t=some r:=by
 obtain⟨n,hn⟩:=Z_iff.1 h
 exact qmf (qnd hs n _ _ hn)
end Go.Pm
end
namespace Go.Pm
section
attribute [simp] qyy qAv qoN qeJ qpC qpS qpT qjd outV qnp qrO qd7 finishV Ob.rows qyz qvh appendO appendT qr9 qks V.isStr qoK qgj qgk qfG qbn Fr.defs qbK qcv qgi undef qb5 qbv run qeF qcS qaE qaR X.ev evs qdw qfS Fr.get Fr.put Fr.keep qlm unV qoL qc9 qt9 qoI qjA V.sealT V.sealv qby qjB reach qaG V.locs qlk inL qll qdI V.ren one
 gcL gcF qct qmr Ob.locs Ob.ren qhS qr8 idx back qaH qbF qb4 qbr qcd qaP qdn qdx qeR qiC qcR storeV qcA qxT Value.oneCell' qbx V.aggCells qdV qeE
@[simp] theorem qBc(v:Value):V.one (.dat (.lit v))=v.oneCell':=rfl
@[simp] theorem qyi(v:Value):V.cells (.dat (.lit v))=[(.dat (.lit v))]:=rfl
@[simp] theorem qCq(cs:List D)(n:Nat)(f:Bool):V.one (.dat (.sl cs n f))=true:=rfl
@[simp] theorem qAk(cs:List D)(n:Nat)(f:Bool):V.cells (.dat (.sl cs n f))=[(.dat (.sl cs n f))]:=rfl
@[simp] theorem qBd(cs:List D)(o:Nat):V.one (.dat (.imm cs o))=true:=rfl
@[simp] theorem qyj(cs:List D)(o:Nat):V.cells (.dat (.imm cs o))=[(.dat (.imm cs o))]:=rfl
@[simp] theorem qAl(cs:List D):V.one (.dat (.agg cs))=false:=rfl
@[simp] theorem qxO(cs:List D):V.cells (.dat (.agg cs))=cs.map .dat:=rfl
@[simp] theorem qxP(t:Nat)(d:D):V.one (.dat (.iface t d))=true:=rfl
@[simp] theorem qt7(t:Nat)(d:D):V.cells (.dat (.iface t d))=[(.dat (.iface t d))]:=rfl
@[simp] theorem qBe(l o:Nat):V.one (.ptr l o)=true:=rfl
@[simp] theorem qyk(l o:Nat):V.cells (.ptr l o)=[(.ptr l o)]:=rfl
@[simp] theorem qBf(cs:List D)(n sz l:Nat):V.one (.gsl cs n sz l)=true:=rfl
@[simp] theorem qyl(cs:List D)(n sz l:Nat):V.cells (.gsl cs n sz l)=[(.gsl cs n sz l)]:=rfl
@[simp] theorem qBg(l o n cap sz:Nat):V.one (.msl l o n cap sz)=true:=rfl
@[simp] theorem qym(l o n cap sz:Nat):V.cells (.msl l o n cap sz)=[(.msl l o n cap sz)]:=rfl
@[simp] theorem qBh(l n sz:Nat):V.one (.own l n sz)=true:=rfl
@[simp] theorem qyn(l n sz:Nat):V.cells (.own l n sz)=[(.own l n sz)]:=rfl
@[simp] theorem qAm(l n o:Nat):V.one (.eptr l n o)=true:=rfl
@[simp] theorem qxQ(l n o:Nat):V.cells (.eptr l n o)=[(.eptr l n o)]:=rfl
@[simp] theorem qCr(g:Nat)(v:V):V.one (.bm g v)=true:=rfl
@[simp] theorem qAn(g:Nat)(v:V):V.cells (.bm g v)=[(.bm g v)]:=rfl
@[simp] theorem qBi(cs:List V):V.one (.agg cs)=false:=rfl
@[simp] theorem qyo(cs:List V):V.cells (.agg cs)=cs:=rfl
@[simp] theorem qCs(f:Nat)(a b:List V):V.one (.fn f a b)=true:=rfl
@[simp] theorem qAo(f:Nat)(a b:List V):V.cells (.fn f a b)=[(.fn f a b)]:=rfl
@[simp] theorem qCt(l:Nat):V.one (.mp l)=true:=rfl
@[simp] theorem qAp(l:Nat):V.cells (.mp l)=[(.mp l)]:=rfl
@[simp] theorem qyp(t:Nat)(v:V):V.one (.iface t v)=true:=rfl
@[simp] theorem qu9(t:Nat)(v:V):V.cells (.iface t v)=[(.iface t v)]:=rfl
@[simp] theorem qBj(vs:List V):V.one (.tup vs)=false:=rfl
@[simp] theorem qyq(vs:List V):V.cells (.tup vs)=[(.tup vs)]:=rfl
@[simp] theorem qBk(l:Nat):V.one (.yld l)=true:=rfl
@[simp] theorem qyr(l:Nat):V.cells (.yld l)=[(.yld l)]:=rfl
@[simp] theorem qAq{α : Type}(cs:List α):cutCells cs 0 0=some []:=by simp[cutCells]
@[simp] theorem qAr{α : Type}(c : α)(cs:List α)(n:Nat):cutCells (c::cs) 0 (n+1)=(cutCells cs 0 n).map (c :: ·):=by grind [cutCells]
@[simp] theorem qAs{α : Type}(c : α)(cs:List α)(o n:Nat):cutCells (c::cs) (o+1) n=cutCells cs o n:=by
 simp only[cutCells,Ye]
@[simp] theorem qBl(a b:Int):eqI a b=decide (a=b):=rfl
abbrev I64(n:Int):Prop := -9223372036854775808<=n/\n<=9223372036854775807
theorem qai(n:Int)(h : -9223372036854775808<=n/\n<=9223372036854775807):IntKind.i64.wrap n=n:=by rw[IntKind.wrap_i64]; omega
def intsC(xs:List Int):List D:=xs.map fun x => .lit (.int .i64 x)
def qeq:List Int->D
 |[] => .lit (.slice none 0 0)
 |x::xs => .sl (intsC (x::xs)) (x::xs).length false
@[simp] theorem qys(σ : S)(xs:List Int):V.len σ .sl (.dat (qeq xs))=some xs.length:=by
 cases xs<;>simp[qeq,V.len]
@[simp] theorem qyt(xs:List Int):V.one (.dat (qeq xs))=true:=by cases xs<;>rfl
@[simp] theorem qva(xs:List Int):V.cells (.dat (qeq xs))=[.dat (qeq xs)]:=by cases xs<;>rfl
theorem qgh(xs:List Int)(i:Nat)(h:i<xs.length):cutCells (intsC xs) i 1=some [.lit (.int .i64 xs[i])]:=by
 unfold cutCells intsC
 rw[Ww (by simpa using h)]
 simp
end
section
def RowV(v:D)(xs:List Int):Prop:=
 (∃ o,v = .lit (.slice o 0 0)/\xs=[])\/v = .sl (intsC xs) xs.length false
theorem RowV.one{v:D}{xs:List Int}(h:RowV v xs):V.one (.dat v)=true:=by rcases h with ⟨o,rfl,rfl⟩|rfl<;>rfl
theorem RowV.cells{v:D}{xs:List Int}(h:RowV v xs):V.cells (.dat v)=[.dat v]:=by rcases h with ⟨o,rfl,rfl⟩|rfl<;>rfl
theorem qlE(F:Nat->Nat)(w:World) : ∀ xs:List Int,RepDs F w (intsC xs) (xs.map (.int .i64))
 |[]=>rfl
 |x::xs=>⟨_,_,rfl,⟨rfl,rfl⟩,qlE F w xs⟩
theorem row_rep (fid:Fid) {w:World} {a:Option Addr} {len cap:Nat} {zs:List Int}
  (h:(a=none/\len=0/\cap=0/\zs=[]) \/ ∃ x,a=some x/\len<=cap/\cap<=maxLen/\zs.length=cap/\(∀ i,i<zs.length->w.cell? (x.add i)=some (.int .i64 (zs.getD i 0))) /\ ∀ n∈zs,(Lit.int .i64 n).wf=true) :
  ∃ d,RowV d (zs.take len)/\(∀ x∈zs.take len,I64 x)/\Rep fid (qfN w) (.dat d) (.slice a len cap):=by
 rcases h with ⟨rfl,rfl,rfl,rfl⟩|⟨x,rfl,h1,h2,h3,h4,h5⟩
 ·exact⟨.lit (.slice none 0 0),.inl ⟨_,rfl,rfl⟩,by simp,rfl,rfl⟩
 by_cases hc:cap=0
 ·subst hc
  have:len=0:=by omega
  subst this
  exact⟨.lit (.slice (some x) 0 0),.inl ⟨_,rfl,by simp⟩,by simp,rfl,rfl⟩
 have hl:(zs.take len).length=len:=by rw[WU]; omega
 have hs:x.spot=none:=World.cell?_spot (v := .int .i64 (zs.getD 0 0)) (by simpa [Addr.add] using h4 0 (by omega))
 obtain⟨b,o,sp⟩:=x
 simp only at hs
 subst hs
 have hcell : ∀ i,i<zs.length->w.cell? ⟨b,o+i,none⟩=some (.int .i64 (zs.getD i 0)):=fun i hi=>by
  have:=h4 i hi
  by_cases h0:i=0
  ·subst h0; simpa [Addr.add] using this
  ·simpa [Addr.add,h0] using this
 refine⟨.sl (intsC (zs.take len)) len false,.inr (by rw[hl]),fun n hn=>?_,b,o,cap,(zs.take len).map (.int .i64),rfl,h1,by simp,qlE _ _ _,?_,?_,?_⟩
 ·have:=h5 n (Yq hn)
  simp only[Lit.wf,Wq,decide_eq_true_eq] at this
  have e1:IntKind.i64.min = -9223372036854775808:=by decide
  have e2:IntKind.i64.max=9223372036854775807:=by decide
  unfold I64
  omega
 ·intro i v hv
  rw[Ys,W7] at hv
  split at hv
  ·rename_i hi
   rw[WP (by omega)] at hv
   simp only[Ym,Wh] at hv
   subst hv
   rw[show (qfN w).w=w from rfl,hcell i (by omega)]
   simp[Wz,show i<zs.length by omega]
  ·simp at hv
 ·intro hp
  simp only[W5,hl] at hp ⊢
  have:=hcell (len-1) (by omega)
  unfold World.cell? at this
  simp only[qfN,qpI]
  split at this
  ·rename_i c _ _ hb
   rw[hb]
   simp only[YC,Wn,if_false] at this
   have hlt:o+(len-1)<c.size:=by
    rcases Yc (o+(len-1)) c.size with h'|h'
    ·exact h'
    ·rw[Array.getElem?_eq_none h'] at this; cases this
   simp only
   omega
  ·cases this
 ·intro v hv
  obtain⟨n,_,rfl⟩:=WV.1 hv
  rfl
theorem qBG(fid:Fid)(w:World)(n:Int):Rep fid (qfN w) (.int n) (.int .i64 n):=⟨rfl,rfl⟩
theorem reps_cons{fid:Fid}{Γ : Ctx}{a:V}{x:Value}{as:List V}{xs:List Value}(h:Rep fid Γ a x)(k:Reps fid Γ as xs):Reps fid Γ (a::as) (x::xs):=⟨_,_,rfl,h,k⟩
end
section
def fl(P:Program):Nat->TypeId->DataW Unit->Option (List Value)
 |0,_,_=>none
 |m+1,t,d=>match P.underlying t,d with
  |some (.int k),.lit (.int k' n)=>if k=k' then some [.int k n] else none
  |some (.array n e),.agg ds=>match ds.mapM (fl P m e) with
   |some vs=>if ds.length=n/\vs.all (fun v=>v.length==P.cellsOf e)/\P.cellsOf t=n*P.cellsOf e then some vs.flatten else none
   |none=>none
  |some (.struct fs),.agg ds=>match (fs.toList.zip ds).mapM (fun x=>fl P m x.1.type x.2) with
   |some vs=>if ds.length=fs.size/\((fs.toList.zip vs).all (fun x=>x.2.length==P.cellsOf x.1.type))/\(List.range fs.size).all (fun i=>(fs[i]?.map (·.offset)).getD 0==(vs.take i).flatten.length)/\P.cellsOf t=vs.flatten.length then some vs.flatten else none
   |none=>none
  |_,_=>none
theorem parts{α : Type} : ∀ (vs:List (List α)) (cs:List α) (o:Nat),(∀ (i:Nat) (v:List α),vs[i]?=some v->(cs.drop (o+(vs.take i).flatten.length)).take v.length=v)->cs.length=o+vs.flatten.length->cs.drop o=vs.flatten
 |[],cs,o,_,hl=>by simp at hl; simp[hl]
 |v::vs,cs,o,h,hl=>by
  have h0:=h 0 v rfl
  simp only[List.take_zero,List.flatten_nil,Wk,Yp] at h0
  have ih:=parts vs cs (o+v.length) (fun i u hu=>by
   have:=h (i+1) u hu
   simpa [YH] using this) (by rw[List.flatten_cons,Wb] at hl; omega)
  rw[List.flatten_cons,<- ih]
  have e:=Yh v.length (cs.drop o)
  rw[h0,List.drop_drop] at e
  exact e.symm
theorem qkU{α β : Type}{f : α -> Option β} : ∀ {l:List α} {r:List β},l.mapM f=some r->r.length=l.length /\ ∀ (i:Nat) (a : α),l[i]?=some a -> ∃ b,r[i]?=some b/\f a=some b
 |[],r,h=>by simp at h; subst h; simp
 |a::l,r,h=>by
  simp only[List.mapM_cons,Option.pure_def,Option.bind_eq_bind,Option.bind_eq_some_iff,Wh] at h
  obtain⟨b,hb,r',hr,rfl⟩:=h
  obtain⟨h1,h2⟩:=qkU hr
  refine⟨by simp[h1],fun i x hx=>?_⟩
  cases i with
  |zero=>simp at hx; subst hx; exact⟨b,rfl,hb⟩
  |succ i=>simpa using h2 i x (by simpa using hx)
theorem qe6{α : Type}(m:Nat) : ∀ (vs:List (List α)) (i:Nat),(∀ v∈vs,v.length=m)->i<=vs.length->(vs.take i).flatten.length=i*m
 |_,0,_,_=>by simp
 |[],i+1,_,h=>by simp at h
 |v::vs,i+1,h,hi=>by
  simp only[List.take_succ_cons,List.flatten_cons,Wb]
  rw[qe6 m vs i (fun u hu=>h u (WA _ hu)) (by simpa using hi),h v WO,W3]
  omega
section
variable{enc:TypeId × Value->Unit}{P:Program}{w:World}{base:Nat}{spare:Nat->Bool}{held:Bool}
theorem qkV : ∀ (m:Nat) (t:TypeId) (d:DataW Unit) (vs:List Value) (fuel:Nat) (cs:List Value) (p:List MemPlace),fl P m t d=some vs->DataW.trod enc P w base spare held fuel t cs=some (d,p)->cs=vs
 |0,t,d,vs,fuel,cs,p,h,_=>by simp[fl] at h
 |m+1,t,d,vs,fuel,cs,p,h,ht=>by
  unfold fl at h
  split at h
  ·rename_i k k' n hu
   split at h
   ·rename_i hk
    subst hk
    cases h
    obtain⟨n',rfl,e,_⟩:=DataW.trod_int hu ht
    simp only[WH,DataW.lit.injEq,Lit.int.injEq] at e
    rw[e.1.2]
   ·cases h
  ·rename_i n e ds hu
   split at h
   ·rename_i us hus
    split at h
    ·rename_i hc
     cases h
     obtain⟨h1,h2,h3⟩:=hc
     obtain⟨xs,q,rfl,hx,hl,hn,hel⟩:=DataW.trod_array hu ht
     simp only[WH,DataW.agg.injEq] at hx
     obtain⟨g1,g2⟩:=qkU hus
     have hlen : ∀ v∈us,v.length=P.cellsOf e:=fun v hv=>by simpa using WD.1 h2 v hv
     have hp:=parts us cs 0 (fun i v hv=>by
      have hi:i<us.length:=(Wd.1 hv).1
      have hfl:=qe6 (P.cellsOf e) us i hlen (by omega)
      rw[WG,hfl,hlen v (WQ hv)]
      have:=hel i (by omega)
      obtain⟨x,hxi⟩ : ∃ x,xs[i]?=some x:=⟨xs[i]'(by omega),WP (by omega)⟩
      rw[hxi] at this
      have hd:ds[i]?=some x.1:=by rw[hx.1]; simp[hxi]
      obtain⟨b,hb,hf⟩:=g2 i _ hd
      rw[hv] at hb
      cases hb
      exact qkV m e x.1 v q _ x.2 hf this) (by
      have hfl:=qe6 (P.cellsOf e) us us.length hlen (by omega)
      rw[YB] at hfl
      rw[hl,h3,hfl,g1,h1]; simp)
     simpa using hp
    ·cases h
   ·cases h
  ·rename_i fs ds hu
   split at h
   ·rename_i us hus
    split at h
    ·rename_i hc
     cases h
     obtain⟨h1,h2,h3,h4⟩:=hc
     obtain⟨xs,q,rfl,hx,hl,hn,hel⟩:=DataW.trod_struct hu ht
     simp only[WH,DataW.agg.injEq] at hx
     obtain⟨g1,g2⟩:=qkU hus
     have gl:us.length=fs.size:=by rw[g1]; simp[h1]
     have hp:=parts us cs 0 (fun i v hv=>by
      have hi:i<us.length:=(Wd.1 hv).1
      obtain⟨f,hf⟩ : ∃ f,fs[i]?=some f:=⟨fs[i]'(by omega),Array.getElem?_eq_getElem (by omega)⟩
      have hfl:fs.toList[i]?=some f:=by simpa using hf
      have ho:=WD.1 h3 i (by simp; omega)
      simp only[hf,Ym,Option.getD_some,beq_iff_eq] at ho
      have hz:(fs.toList.zip us)[i]?=some (f,v):=by simp[List.getElem?_zip_eq_some,hfl,hv]
      have hlv:=WD.1 h2 (f,v) (WQ hz)
      simp only[beq_iff_eq] at hlv
      rw[WG,<- ho,hlv]
      have:=hel i f hf
      obtain⟨x,hxi⟩ : ∃ x,xs[i]?=some x:=⟨xs[i]'(by omega),WP (by omega)⟩
      rw[hxi] at this
      have hd:ds[i]?=some x.1:=by rw[hx.1]; simp[hxi]
      have hz2:(fs.toList.zip ds)[i]?=some (f,x.1):=by simp[List.getElem?_zip_eq_some,hfl,hd]
      obtain⟨b,hb,hf2⟩:=g2 i _ hz2
      rw[hv] at hb
      cases hb
      exact qkV m f.type x.1 v q _ x.2 hf2 this) (by rw[hl,h4]; simp)
     simpa using hp
    ·cases h
   ·cases h
  ·cases h
end
theorem qhk{F:Nat->Nat}{w:World} : ∀ (vs:List Value),(vs.all fun v=>qbC v)=true->RepDs F w (vs.map .lit) vs
 |[],_=>rfl
 |v::vs,h=>by
  simp only[List.all_cons,Wq] at h
  exact⟨v,vs,rfl,⟨rfl,h.1⟩,qhk vs h.2⟩
theorem qxe {P:Program} {w:World} {n:String} {d:DataW Unit} {g:Nat} {t:TypeId} {vs:List Value} {m:Nat} (hg:P.globalNamed n=some g) (ht:(P.globals[g]?).map (·.type)=some t)
  (hf:fl P m t d=some vs) (hv:(vs.all fun v=>qbC v&&v.oneCell')=true) (h:laidMet P [(n,d)] w):RepDs (qpI w) w (vs.map .lit) vs/\Row (qpI w) w g 0 vs:=by
 obtain⟨ps,⟨g0,t0,cs,fuel,p,q,hg0,ht0,hvar,hd,_,hps⟩,_,hcell⟩:=h
 obtain rfl:=Yb (hg.symm.trans hg0)
 obtain rfl:=Yb (ht.symm.trans ht0)
 have e:=qkV m t d vs fuel cs.toList p hf hd
 have hc : ∀ i,w.cell? ⟨g,i,none⟩=vs[i]?:=fun i=>by rw[World.var?_cell hg hvar i,<- e]; simp
 refine⟨qhk vs (by
  rw[WD] at hv ⊢
  intro v hvm
  have:=hv v hvm
  simp only[Wq] at this
  exact this.1),fun i v hi=>by rw[WG,hc,hi],fun hl=>?_,fun v hvm=>?_⟩
 ·have h0:w.cell? ⟨g,vs.length-1,none⟩=some (vs[vs.length-1]'(by omega)):=by rw[hc,WP]
  unfold World.cell? at h0
  unfold qpI
  split at h0
  ·rename_i c _ _ hb
   rw[hb]
   simp only[YC,Wn,if_false] at h0
   have hlt:vs.length-1<c.size:=by
    rcases Yc (vs.length-1) c.size with h'|h'
    ·exact h'
    ·rw[Array.getElem?_eq_none h'] at h0; cases h0
   simp only
   omega
  ·cases h0
 ·have:=WD.1 hv v hvm
  simp only[Wq] at this
  exact this.2
end
section
open Go
theorem qno {P:Program} {w:World} {n:String} {d:DataW Unit} : ∀ (L:List (String × DataW Unit)) (ps:List MemPlace),DataW.LaidVars P w L ps->(n,d)∈L ->
  ∃ g t cs fuel p,P.globalNamed n=some g/\(P.globals[g]?).map (·.type)=some t/\w.var? P n=some cs/\DataW.trod (fun _=>()) P w 0 (fun _=>true) false fuel t cs.toList=some (d,p)
 |[],ps,_,hm=>by cases hm
 | (n',d')::r,ps,h,hm=>by
  obtain⟨g,t,cs,fuel,p,q,h1,h2,h3,h4,h5,_⟩:=h
  rcases Wo.1 hm with e|hm
  ·cases e; exact⟨g,t,cs,fuel,p,h1,h2,h3,h4⟩
  ·exact qno r q h5 hm
theorem glb_of_laids {P:Program} {w:World} {n:String} {d:DataW Unit} {L:List (String × DataW Unit)} {g:Nat} {t:TypeId} {vs:List Value} {m:Nat} (hmem:(n,d)∈L) (hg:P.globalNamed n=some g) (ht:(P.globals[g]?).map (·.type)=some t)
  (hf:fl P m t d=some vs) (hv:(vs.all fun v=>qbC v&&v.oneCell')=true) (h:laidMet P L w):RepDs (qpI w) w (vs.map .lit) vs/\Row (qpI w) w g 0 vs:=by
 obtain⟨ps,hL,_,hcell⟩:=h
 obtain⟨g0,t0,cs,fuel,p,hg0,ht0,hvar,hd⟩:=qno L ps hL hmem
 obtain rfl:=Yb (hg.symm.trans hg0)
 obtain rfl:=Yb (ht.symm.trans ht0)
 have e:=qkV m t d vs fuel cs.toList p hf hd
 have hc : ∀ i,w.cell? ⟨g,i,none⟩=vs[i]?:=fun i=>by rw[World.var?_cell hg hvar i,<- e]; simp
 refine⟨qhk vs (by
  rw[WD] at hv ⊢
  intro v hvm
  have:=hv v hvm
  simp only[Wq] at this
  exact this.1),fun i v hi=>by rw[WG,hc,hi],fun hl=>?_,fun v hvm=>?_⟩
 ·have h0:w.cell? ⟨g,vs.length-1,none⟩=some (vs[vs.length-1]'(by omega)):=by rw[hc,WP]
  unfold World.cell? at h0
  unfold qpI
  split at h0
  ·rename_i c _ _ hb
   rw[hb]
   simp only[YC,Wn,if_false] at h0
   have hlt:vs.length-1<c.size:=by
    rcases Yc (vs.length-1) c.size with h'|h'
    ·exact h'
    ·rw[Array.getElem?_eq_none h'] at h0; cases h0
   simp only
   omega
  ·cases h0
 ·have:=WD.1 hv v hvm
  simp only[Wq] at this
  exact this.2
end
section
def qdp(xs:List Int):List V:=xs.map fun n=>V.int n
@[simp] theorem qwB(xs:List Int):(qdp xs).length=xs.length:=by simp[qdp]
@[simp] theorem qus(xs:List Int):(intsC xs).length=xs.length:=by simp[intsC]
@[simp] theorem qxX(xs:List Int):qaG (qdp xs)=[]:=by
 induction xs with
 |nil=>rfl
 |cons x xs ih=>simpa [qdp] using ih
@[simp] theorem qzF(r:Nat->Nat)(xs:List Int):qdI r (qdp xs)=qdp xs:=by
 induction xs with
 |nil=>rfl
 |cons x xs ih=>simpa [qdp] using ih
@[simp] theorem qwC(xs:List Int):qbx (qdp xs)=some (intsC xs):=by
 induction xs with
 |nil=>rfl
 |cons x xs ih=>
  have:qbx (qdp (x::xs))=match qbx (qdp xs) with
   |some ds=>some (.lit (.int .i64 x)::ds)
   |none=>none:=rfl
  rw[this,ih]; rfl
@[simp] theorem qs9(xs:List Int):(intsC xs).all (fun d=>V.one (.dat d))=true:=by
 simp[intsC,Value.oneCell']
@[simp] theorem qut(xs:List Int):(qdp xs).all V.one=true:=by
 simp[qdp,Value.oneCell']
@[simp] theorem qta(xs:List Int):(∀ x∈intsC xs,V.one (.dat x)=true):=by
 simp[intsC,Value.oneCell']
theorem qqM(xs:List Int)(n:Nat):(qdp xs).drop n=qdp (xs.drop n):=by simp[qdp]
theorem qqN(xs:List Int)(n:Nat):(qdp xs).take n=qdp (xs.take n):=by simp[qdp]
theorem qnS(xs:List Int)(i:Nat)(v:Int)(h:i<xs.length):(qdp xs).take i++(V.int v::(qdp xs).drop (i+1))=qdp (xs.set i v):=by
 rw[List.set_eq_take_append_cons_drop,if_pos h]; simp[qdp]
def qrR(cs:List Int)(i:Nat):Int:=cs.getD i 0
def qBY(cs:List Int)(i:Int):Int:=qrR cs i.toNat
def qCG(cs:List Int)(i v:Int):List Int:=cs.set i.toNat v
@[simp] theorem qwD(cs:List Int)(i v:Int):(qCG cs i v).length=cs.length:=by simp[qCG]
theorem qlL(xs:List Int)(i:Int)(h:i.toNat<xs.length):cutCells (qdp xs) i.toNat 1=some [V.int (qBY xs i)]:=by
 have:xs.drop i.toNat=xs[i.toNat]::xs.drop (i.toNat+1):=Ww h
 simp only[cutCells,qqM,this,qBY,qrR,Wz,WP h]
 rfl
theorem qqO(n:Nat):(qdm n [(D.lit (.int .i64 0))]).map V.dat=qdp (List.replicate n 0):=by
 induction n with
 |zero=>rfl
 |succ n ih=>
  simp only[qdm,List.map_append,ih,qdp,List.replicate_succ,Wv]
  rfl
theorem qo4(xs:List Int)(i:Nat)(h:i<xs.length):cutCells (intsC xs) i 1=some [.lit (.int .i64 (qrR xs i))]:=by
 rw[qgh xs i h]; simp[qrR,Wz,h]
abbrev wr(n:Int):Int:=IntKind.i64.wrap n
def qiV(n m:Int):Int:=(if n<0 then -(n+1) else n).tmod m
theorem qlM{n m:Int}(h1:I64 n)(hm:1<=m):0<=qiV n m/\qiV n m<m:=by
 unfold qiV
 split
 ·exact⟨Int.tmod_nonneg _ (by omega),Int.tmod_lt_of_pos _ (by omega)⟩
 ·exact⟨Int.tmod_nonneg _ (by omega),Int.tmod_lt_of_pos _ (by omega)⟩
theorem qih{n m:Int}(h0:0<=n)(hm:1<=m):0<=n.tmod m/\n.tmod m<m:=⟨Int.tmod_nonneg _ h0,Int.tmod_lt_of_pos _ (by omega)⟩
structure IsRow(d:D)(xs:List Int):Prop where
 len : ∀ σ,V.len σ .sl (.dat d)=some xs.length
 at_ : ∀ i:Int,0<=i->i<xs.length->qaf 1 (.dat d) i=some (.dat (.imm (intsC xs) i.toNat))
 one:V.one (.dat d)=true
 cells:V.cells (.dat d)=[.dat d]
theorem qnT(xs:List Int)(f:Bool):IsRow (.sl (intsC xs) xs.length f) xs where
 len:=fun _=>rfl
 at_:=fun i h0 h1=>by simp[qaf,h0,h1]
 one:=rfl
 cells:=rfl
theorem qlN(o:Option Addr):IsRow (.lit (.slice o 0 0)) [] where
 len:=fun _=>rfl
 at_:=fun i h0 h1=>by simp at h1; omega
 one:=rfl
 cells:=rfl
theorem qah{prog:Nat->Option PFun}{k:Nat}{b:PC}{fr fr':Fr}{σ σ':S}(h:gcF k fr σ = gcF k fr' σ'):Z prog (.loop k b fr σ)=Z prog (.loop k b fr' σ'):=by
 rw[qaa,qaa,h]
theorem qcr(cs:List D)(n:Nat)(f:Bool)(i:Int)(h0:0<=i)(h1:i<n):qaf 1 (.dat (.sl cs n f)) i=some (.dat (.imm cs i.toNat)):=by
 simp[qaf,h0,h1]
theorem qzG(l N:Nat)(i:Int)(h0:0<=i)(h1:i<N):qaf 1 (.own l N 1) i=some (.eptr l N i.toNat):=by
 simp[qaf,h0,h1]
theorem qhf(σ : S)(l N:Nat):V.len σ .sl (.own l N 1)=some N:=rfl
theorem qcF(σ : S):V.len σ .sl (.dat (.lit (.slice none 0 0)))=some 0:=rfl
theorem qqP(σ : S)(cs:List D)(n:Nat)(f:Bool):V.len σ .sl (.dat (.sl cs n f))=some n:=rfl
theorem qo5(xs:List Int)(i:Nat)(h:i<xs.length):cutCells (qdp xs) i 1=some [V.int (qrR xs i)]:=by
 have:=qlL xs (i:Int) (by simpa using h)
 simpa [qBY] using this
theorem qzH(l N i:Nat)(h:i<N):qaf 1 (.own l N 1) i=some (.eptr l N i):=by
 have:=qzG l N i (by omega) (by omega)
 simpa using this
theorem qwE{cs:List Int}(i v:Int)(h0:0<=i)(h:i<cs.length)(hv:qrR cs i.toNat=v):cutCells (qdp cs) i.toNat 1=some [V.int v]:=by
 rw[qlL cs i (by omega),<- hv]; rfl
theorem qnU{cs:List Int}(i:Nat)(v:Int)(h:i<cs.length)(hv:qrR cs i=v):cutCells (qdp cs) i 1=some [V.int v]:=by
 rw[qo5 cs i h,hv]
@[simp] theorem qBZ:Fr.noD []=[]:=rfl
@[simp] theorem qAF(k:Nat)(v:V)(r:Fr):Fr.noD ((k,v)::r)=if k=1000000 then Fr.noD r else (k,v)::Fr.noD r:=by
 simp only[Fr.noD,List.filter_cons,dkey]
 by_cases h:k=1000000<;>simp[h]
end
section
theorem qxW{d:D}{xs:List Int}(h:RowV d xs):IsRow d xs:=by
 rcases h with ⟨o,rfl,rfl⟩|rfl
 ·exact qlN o
 ·exact qnT xs false
theorem qCE{n:Int}(h:(Lit.int .i64 n).wf=true):I64 n:=by
 simp only[Lit.wf,Wq,decide_eq_true_eq] at h
 have e1:IntKind.i64.min = -9223372036854775808:=by decide
 have e2:IntKind.i64.max=9223372036854775807:=by decide
 unfold I64
 omega
theorem qBS {w:World} {a:Option Addr} {len cap:Nat} {zs:List Int}
  (h:(a=none/\len=0/\cap=0/\zs=[]) \/ ∃ x,a=some x/\len<=cap/\cap<=maxLen/\zs.length=cap/\(∀ i,i<zs.length->w.cell? (x.add i)=some (.int .i64 (zs.getD i 0))) /\ ∀ n∈zs,(Lit.int .i64 n).wf=true) :
  (zs.take len).length<=9223372036854775807:=by
 rcases h with ⟨rfl,rfl,rfl,rfl⟩|⟨x,rfl,h1,h2,h3,h4,h5⟩
 ·simp
 ·have e:maxLen<=9223372036854775807:=by decide
  rw[WU]
  omega
theorem qAE(fid:Fid)(w:World)(b:Bool):Rep fid (qfN w) (.bool b) (.bool b):=⟨rfl,rfl⟩
end
section
open Go
theorem qCj(fid:Fid)(w:World)(s:ByteArray):Rep fid (qfN w) (.str s) (.string s):=⟨rfl,rfl⟩
theorem qA1(fid:Fid)(w:World)(n:Int):Rep fid (qfN w) (.dat (.lit (.int .u8 n))) (.int .u8 n):=⟨rfl,rfl⟩
theorem qC9{n:Int}(h:(Lit.int .u8 n).wf=true) : ∃ c:Nat,c<256/\n=c:=by
 have:0<=n/\n<256:=by
  simp only[Lit.wf,Wq,decide_eq_true_eq] at h
  have e1:IntKind.u8.min=0:=by decide
  have e2:IntKind.u8.max=255:=by decide
  omega
 exact⟨n.toNat,by omega,by omega⟩
end
end Go.Pm
