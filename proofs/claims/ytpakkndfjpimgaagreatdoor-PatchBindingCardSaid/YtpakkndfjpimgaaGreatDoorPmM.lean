/- Regions. -/
import Derived.Test.YtpakkndfjpimgaaGreatDoorPmL
set_option linter.unusedSimpArgs false
set_option linter.unusedVariables false
section SM
namespace Go.Pm
variable {P:Program} {ids:Ids} {fid:Fid} {N:Nat}
def qkq (D:Nat):Deferred:={ target := .collected D,args := #[] }
def MarkAt (Γ0 Γ : Ctx) (D:Nat):Prop := Γ0.w.heap.size<=D /\ Γ.w.heap[D]?=some (.deferred (some [])) /\ ∀ l,Γ.μ l≠some D
theorem MarkAt.step {Γ0 Γ Γ':Ctx} {D:Nat} (h:MarkAt Γ0 Γ D) (hs:Step Γ Γ'):MarkAt Γ0 Γ' D:=by
 obtain⟨h1,h2,h3⟩:=h
 have hlt:=qbv h2
 refine⟨h1,by rw[(hs.frm.same D hlt h3).1]; exact h2,fun l hl=>?_⟩
 obtain⟨l',hl'⟩:=hs.frm.new l D hl hlt
 exact h3 l' hl'
inductive DI where
 | m (D:Nat)
 | c (v:V)
def DIRep (fid:Fid) (Γ0 Γ : Ctx):DI->Deferred->Prop
 | .m D,d=>d=qkq D/\MarkAt Γ0 Γ D
 | .c v,d => ∃ id as cap ys,v = .fn id as []/\d={ target := .fn (.func (fid id)) cap,args:=ys }/\Reps fid Γ as (ys.toList++cap.toList)
def DIReps (fid:Fid) (Γ0 Γ : Ctx):List DI->List Deferred->Prop
 | [],ds=>ds=[]
 | i::is,ds => ∃ d r,ds=d::r/\DIRep fid Γ0 Γ i d/\DIReps fid Γ0 Γ is r
def qbx:List DI->List Nat
 | []=>[]
 | .m D::r=>D::qbx r
 | .c _::r=>qbx r
def qaU:List DI->List V
 | []=>[]
 | .m _::r=>qaU r
 | .c v::r=>v::qaU r
theorem DIRep.step {Γ0 Γ Γ':Ctx} (hs:Step Γ Γ') : ∀ {i:DI} {d:Deferred},DIRep fid Γ0 Γ i d->DIRep fid Γ0 Γ' i d
 | .m D,d,h=>⟨h.1,h.2.step hs⟩
 | .c v,d,⟨id,as,cap,ys,h1,h2,h3⟩=>⟨id,as,cap,ys,h1,h2,Reps.ext hs.ext _ _ h3⟩
theorem DIReps.step {Γ0 Γ Γ':Ctx} (hs:Step Γ Γ') : ∀ {is:List DI} {ds:List Deferred},DIReps fid Γ0 Γ is ds->DIReps fid Γ0 Γ' is ds
 | [],ds,h=>h
 | i::is,ds,⟨d,r,h1,h2,h3⟩=>⟨d,r,h1,DIRep.step hs h2,DIReps.step hs h3⟩
def Marks (fid:Fid) (Γ0 Γ : Ctx) (ds0:List Deferred) (dl:List V) (ds:List Deferred):Prop:=
 ∃ (is:List DI) (ds':List Deferred),ds=ds'++ds0/\DIReps fid Γ0 Γ is ds'/\(qbx is).Nodup/\qaU is=dl
theorem Marks.step {Γ0 Γ Γ':Ctx} {ds0 ds:List Deferred} {dl:List V} (h:Marks fid Γ0 Γ ds0 dl ds) (hs:Step Γ Γ'):Marks fid Γ0 Γ' ds0 dl ds:=by
 obtain⟨is,ds',h1,h2,h3,h4⟩:=h
 exact⟨is,ds',h1,h2.step hs,h3,h4⟩
theorem Marks.nil (Γ0 Γ : Ctx) (ds:List Deferred):Marks fid Γ0 Γ ds [] ds:=⟨[],[],rfl,rfl,List.nodup_nil,rfl⟩
theorem Marks.call {Γ0 Γ : Ctx} {ds0 ds:List Deferred} {dl:List V} (h:Marks fid Γ0 Γ ds0 dl ds) {id:Nat} {as:List V} {cap ys:Array Value} (hr:Reps fid Γ as (ys.toList++cap.toList)) :
  Marks fid Γ0 Γ ds0 (.fn id as []::dl) ({ target := .fn (.func (fid id)) cap,args:=ys }::ds):=by
 obtain⟨is,ds',h1,h2,h3,h4⟩:=h
 exact⟨.c (.fn id as [])::is,_::ds',by rw[h1]; rfl,⟨_,_,rfl,⟨id,as,cap,ys,rfl,rfl,hr⟩,h2⟩,h3,by simp[qaU,h4]⟩
structure At (fid:Fid) (N:Nat) (fl df:Bool) (Γ0:Ctx) (ds0:List Deferred) (fr:Fr) (Γ : Ctx) (a:Act):Prop where
 real:Real fid Γ
 step:Step Γ0 Γ
 marks:Marks fid Γ0 Γ ds0 fr.defs a.defers
 frame:FrRep fid Γ N fr a.tmps
 still:fl=true->a.defers=ds0
 nod:df=false->fr.get dkey=none
def qbA (i:I):Bool:=match i.op with
 | .defer _ _=>false
 | _=>true
theorem qiS {fr:Fr} {d:Option Nat} {v:V} (h : ∀ k,d=some k->k≠dkey):(fr.put d v).get dkey=fr.get dkey/\(fr.put d v).defs=fr.defs:=by
 have e:(fr.put d v).get dkey=fr.get dkey:=by
  cases d with
  | none=>rfl
  | some k=>simp only[Fr.put,Fr.get]; rw[if_neg (h k rfl)]
 exact⟨e,by simp only[Fr.defs,e]⟩
section
variable {C:Task->Option Res} {ro:Option Nat} {Q:Exit->Act->World->Prop} {ops:Array Oper} {un:Nat->List Nat}
theorem qa0 {Γ : Ctx} {fr:Fr} {a:Act} (hf:FrRep fid Γ N fr a.tmps) {o:Oper} {g:Option (Nat × Bool)} {b:Bool}
  (hg:(o.guard=none/\g=none) \/ ∃ i want d,o.guard=some (i,want)/\(ops[i]?).bind (·.dst)=some d/\d<N/\g=some (d,want)) (h:qaq fr g=some b) :
  Region.wanted o (yielded ops a.tmps)=b:=by
 rcases hg with ⟨h1,rfl⟩ | ⟨i,want,d,h1,h2,h3,rfl⟩
 ·simp only[qaq,Option.some.injEq] at h
  subst h
  simp[Region.wanted,h1]
 ·simp only[qaq] at h
  have hget : ∀ v,fr.get d=some v -> ∃ x,a.tmps[d]?=some x/\Rep fid Γ v x:=fun v hv=>by
   have:=hf.2 d v h3 hv
   have hs:d<a.tmps.size:=by rw[hf.1]; exact h3
   refine⟨a.tmps[d],by simp[hs],?_⟩
   simpa [Array.getD,hs] using this
  simp only[Region.wanted,h1,yielded,h2,Option.bind_some]
  split at h
  ·rename_i c hc
   cases h
   obtain⟨x,hx,hr⟩:=hget _ hc
   rw[hx,(qaf hr).1]
   cases c<;>cases want<;>rfl
  ·rename_i v hnb hc
   cases h
   obtain⟨x,hx,hr⟩:=hget _ hc
   rw[hx,(qaf hr).1]
   cases v<;>first | rfl | exact absurd rfl (hnb _)
  ·cases h
theorem qbb {draw:Bool} {j:Nat} {o:Oper} {i:I} (h:cI P ids N draw ops un j o=some i) :
  qlI P ids N draw o=some i.op/\i.dst=o.dst/\(∀ d,o.dst=some d->d<N) /\
  ((o.guard=none/\i.guard=none) \/ ∃ k want d,o.guard=some (k,want)/\(ops[k]?).bind (·.dst)=some d/\d<N/\i.guard=some (d,want)):=by
 unfold cI at h
 split at h
 ·grind [qlq]
 ·cases h
theorem qej {Γ : Ctx}:Rep fid Γ (.dat (.lit undef)) undef:=qb1 rfl
theorem qdo {j:Nat} {o:Oper} {l:List Oper} {is:List I} (h:cIs P ids N false ops un j (o::l)=some is) :
  ∃ i is',is=i::is'/\cIs P ids N false ops un (j+1) l=some is'/\(qf6 ids N o=some i\/cI P ids N false ops un j o=some i):=by
 simp only[cIs] at h
 split at h
 ·grind
 ·cases h
theorem qcf {o:Oper} {i:I} (h:qf6 ids N o=some i) : ∃ c x f xs,o.op = .defer c/\o.dst=none/\o.guard=none/\c.callee = .value x/\cX ids N x=some f/\cXs ids N c.args.toList=some xs/\ids.df=true/\i=⟨some dkey,.defer f xs,none,[]⟩:=by grind [qf6]
theorem At.put {fl:Bool} {Γ0 Γ Γ':Ctx} {ds0:List Deferred} {fr:Fr} {a:Act} {d:Option Nat} {v:V} {x:Value} (hat:At fid N fl ids.df Γ0 ds0 fr Γ a) (hN:2*N<=dkey) (hd : ∀ k,d=some k->k<N) (hr:Real fid Γ') (hs:Step Γ Γ') (hv:Rep fid Γ' v x) :
  At fid N fl ids.df Γ0 ds0 (fr.put d v) Γ' (a.put d x):=by
 have hpos:0<dkey:=by decide
 have hne : ∀ k,d=some k->k≠dkey:=fun k hk=>by have:=hd k hk; omega
 obtain⟨e1,e2⟩:=qiS (fr:=fr) (v:=v) hne
 have e3:(a.put d x).defers=a.defers:=by cases d<;>rfl
 exact⟨hr,hat.step.trans hs,by rw[e2,e3]; exact hat.marks.step hs,FrRep.put (hat.frame.ext hs.ext) hd hv,fun h=>by rw[e3]; exact hat.still h,fun h=>by rw[e1]; exact hat.nod h⟩
theorem qek (hid:Ties P ids fid) (hN:2*N<=dkey) {o:Oper} {i:I} {fl:Bool} {Γ0 Γ : Ctx} {ds0:List Deferred} {fr:Fr} {a:Act} {v:V} {σ1:S} {K:Act->World->Prop} (hro:ro=none) (hi:qf6 ids N o=some i) (hat:At fid N fl ids.df Γ0 ds0 fr Γ a) (hfl:fl=false)
  (h:qaj C fr Γ.σ i.op=some (v,σ1)) (hk : ∀ a',σ1 = Γ.σ -> At fid N fl ids.df Γ0 ds0 (fr.put i.dst v) Γ a'->K a' Γ.w):o.wpIn (FR ro) 0 P a Γ.w K Q:=by
 obtain⟨c,x,f,xs,h1,h2,h3,h4,h5,h6,h7,rfl⟩:=qcf hi
 simp only[qaj] at h
 split at h
 ·rename_i id as bs vs hf hvs
  cases h
  have hfv:=qaa hid hat.real hat.frame h5 hf
  have hargs:=qaC hid hat.real hat.frame h6 hvs
  simp only[Rep] at hfv
  obtain⟨as',bs',e1,e2,e3⟩:=hfv
  refine⟨fun f _=>trivial,?_⟩
  subst hro
  have hrun:(o.semAt none a.eval).run P Γ.w = .ok (.defer { target := .fn (.func (fid id)) bs'.toArray,args:=as'.toArray++c.args.map a.eval }) Γ.w:=by
   rw[Oper.semAt_none]
   simp only[execOp,h1,resolve,h4,e1,Deferred.ofValue,Sem.run_bind,Sem.run_pure,Result.andThen_ok]
  have hrun':(o.semAt (FR none).round a.eval).run P Γ.w=_:=hrun
  rw[hrun']
  show K _ _
  rw[h2]
  have hreps:Reps fid Γ (as++vs++bs) ((as'.toArray++c.args.map a.eval).toList++bs'.toArray.toList):=by
   refine Reps_append.2 ⟨_,_,rfl,?_,by simpa using e3⟩
   have:(as'.toArray++c.args.map a.eval).toList=as'++c.args.toList.map a.eval:=by simp
   rw[this]
   exact Reps_append.2 ⟨_,_,rfl,e2,hargs⟩
  refine hk { a with defers:={ target := .fn (.func (fid id)) bs'.toArray,args:=as'.toArray++c.args.map a.eval }::a.defers } rfl ⟨hat.real,hat.step,?_,⟨hat.frame.1,fun t w ht hw=>?_⟩,fun h=>by (rw[hfl] at h; cases h),fun h=>by (rw[h7] at h; cases h)⟩
  ·have:(fr.put (some dkey) (.tup (.fn id (as++vs++bs) []::fr.defs))).defs = .fn id (as++vs++bs) []::fr.defs:=by simp[Fr.put,Fr.defs,Fr.get]
   rw[this]
   exact hat.marks.call hreps
  ·have hne:dkey≠t:=fun e=>by
    subst e
    have:0<dkey:=by decide
    omega
   simp only[Fr.put,Fr.get,if_neg hne] at hw
   exact hat.frame.2 t w ht hw
 ·cases h
theorem qfr (hid:Ties P ids fid) (hC:CSound P fid C) (hN:2*N<=dkey) {fl:Bool} (hro:ro.isSome=true->fl=true) {Γ0:Ctx} {ds0:List Deferred} {σ':S} {fr':Fr} : ∀ {l:List Oper} {j:Nat} {is:List I} {fr:Fr} {Γ : Ctx} {a:Act},
  (∀ k,l[k]?=ops[j+k]?)->cIs P ids N false ops un j l=some is->(fl=true->is.all qbA=true)->At fid N fl ids.df Γ0 ds0 fr Γ a->qcj C is fr Γ.σ = some (fr',σ') ->
  (∀ Γ' a',Γ'.σ = σ'->At fid N fl ids.df Γ0 ds0 fr' Γ' a'->Q .normal a' Γ'.w) ->
  wpOpsIn (FR ro) 0 P ops Q (List.range' j l.length) a Γ.w
 | [],j,is,fr,Γ,a,hl,hc,hnd,hat,h,hk=>by
  simp only[cIs,Option.some.injEq] at hc; subst hc
  simp only[qcj,Option.some.injEq,Prod.mk.injEq] at h
  obtain⟨rfl,rfl⟩:=h
  simp only[List.length_nil,List.range'_zero,wpOpsIn]
  exact hk Γ a rfl hat
 | o::l,j,is,fr,Γ,a,hl,hc,hnd,hat,h,hk=>by
  obtain⟨i,is',rfl,h2,h1⟩:=qdo hc
  have ho:ops[j]?=some o:=by have:=hl 0; simpa using this.symm
  have hl' : ∀ k,l[k]?=ops[j+1+k]?:=fun k=>by have:=hl (k+1); simpa [Nat.add_assoc,Nat.add_comm 1 k] using this
  have hnd':fl=true->is'.all qbA=true:=fun e=>by have:=hnd e; simp only[List.all_cons,Bool.and_eq_true] at this; exact this.2
  simp only[List.length_cons,List.range'_succ,wpOpsIn,ho]
  simp only[qcj] at h
  rcases h1 with h1 | h1
  ·obtain⟨c,x,f,xs,q1,q2,q3,q4,q5,q6,q7,q8⟩:=qcf h1
   have hflf:fl=false:=by grind [qbA]
   have hro':ro=none:=by simp_all
   have hg:i.guard=none:=by rw[q8]
   have hw:Region.wanted o (yielded ops a.tmps)=true:=by simp[Region.wanted,q3]
   rw[hw]
   simp only[if_true]
   simp only[hg,qaq] at h
   split at h
   ·rename_i v σ1 hv
    refine qek hid hN hro' h1 hat hflf hv fun a' e1 e2=>?_
    subst e1
    exact qfr hid hC hN hro hl' h2 hnd' e2 h hk
   ·cases h
  ·obtain⟨k1,k2,k3,k4⟩:=qbb h1
   have k1':cOp P ids N o.op=some i.op:=k1
   split at h
   ·rename_i hw
    rw[qa0 (ops:=ops) hat.frame k4 hw]
    simp only[if_true]
    split at h
    ·rename_i v σ1 hv
     refine qfd hid hC k1' hat.real hat.frame hv fun Γ1 x e1 e2 e3 e4=>?_
     subst e1
     rw[k2] at h
     exact qfr hid hC hN hro hl' h2 hnd' (hat.put hN k3 e2 e3 e4) h hk
    ·cases h
   ·rename_i hw
    rw[qa0 (ops:=ops) hat.frame k4 hw]
    simp only[Bool.false_eq_true,if_false]
    rw[k2] at h
    exact⟨fun f _=>trivial,qfr hid hC hN hro hl' h2 hnd' (hat.put hN k3 hat.real (.refl _) qej) h hk⟩
   ·cases h
theorem qd2 (hid:Ties P ids fid) (hC:CSound P fid C) (hN:2*N<=dkey) {fl:Bool} (hro:ro.isSome=true->fl=true) {Γ0:Ctx} {ds0:List Deferred} {σ':S} {fr':Fr} {u:V} : ∀ {l:List Oper} {j:Nat} {is:List I} {fr:Fr} {Γ : Ctx} {a:Act},
  (∀ k,l[k]?=ops[j+k]?)->cIs P ids N false ops un j l=some is->(fl=true->is.all qbA=true)->At fid N fl ids.df Γ0 ds0 fr Γ a->qbg C is fr Γ.σ = some (u,fr',σ') ->
  (∀ Γ' a' x,Γ'.σ = σ'->At fid N fl ids.df Γ0 ds0 fr' Γ' a'->Rep fid Γ' u x->Q (.panic [{ v:=x,recovered:=false }]) a' Γ'.w) ->
  wpOpsIn (FR ro) 0 P ops Q (List.range' j l.length) a Γ.w
 | [],j,is,fr,Γ,a,hl,hc,hnd,hat,h,hk=>by simp_all [cIs,qbg]
 | o::l,j,is,fr,Γ,a,hl,hc,hnd,hat,h,hk=>by
  obtain⟨i,is',rfl,h2,h1⟩:=qdo hc
  have ho:ops[j]?=some o:=by have:=hl 0; simpa using this.symm
  have hl' : ∀ k,l[k]?=ops[j+1+k]?:=fun k=>by have:=hl (k+1); simpa [Nat.add_assoc,Nat.add_comm 1 k] using this
  have hnd':fl=true->is'.all qbA=true:=fun e=>by have:=hnd e; simp only[List.all_cons,Bool.and_eq_true] at this; exact this.2
  simp only[List.length_cons,List.range'_succ,wpOpsIn,ho]
  simp only[qbg] at h
  rcases h1 with h1 | h1
  ·obtain⟨c,x,f,xs,q1,q2,q3,q4,q5,q6,q7,q8⟩:=qcf h1
   have hflf:fl=false:=by grind [qbA]
   have hro':ro=none:=by simp_all
   have hg:i.guard=none:=by rw[q8]
   have hw:Region.wanted o (yielded ops a.tmps)=true:=by simp[Region.wanted,q3]
   rw[hw]
   simp only[if_true]
   simp only[hg,qaq] at h
   split at h
   ·rename_i v σ1 hv
    refine qek hid hN hro' h1 hat hflf hv fun a' e1 e2=>?_
    subst e1
    exact qd2 hid hC hN hro hl' h2 hnd' e2 h hk
   ·rw[q8] at h; simp[qaP] at h
  ·obtain⟨k1,k2,k3,k4⟩:=qbb h1
   have k1':cOp P ids N o.op=some i.op:=k1
   split at h
   ·rename_i hw
    rw[qa0 (ops:=ops) hat.frame k4 hw]
    simp only[if_true]
    split at h
    ·rename_i v σ1 hv
     refine qfd hid hC k1' hat.real hat.frame hv fun Γ1 x e1 e2 e3 e4=>?_
     subst e1
     rw[k2] at h
     exact qd2 hid hC hN hro hl' h2 hnd' (hat.put hN k3 e2 e3 e4) h hk
    ·split at h
     ·rename_i v σ1 hv
      cases h
      refine qfE hid hC k1' hat.real hat.frame hv fun Γ1 x e1 e2 e3 e4=>?_
      exact hk Γ1 a x e1 ⟨e2,hat.step.trans e3,hat.marks.step e3,hat.frame.ext e3.ext,hat.still,hat.nod⟩ e4
     ·cases h
   ·rename_i hw
    rw[qa0 (ops:=ops) hat.frame k4 hw]
    simp only[Bool.false_eq_true,if_false]
    rw[k2] at h
    exact⟨fun f _=>trivial,qd2 hid hC hN hro hl' h2 hnd' (hat.put hN k3 hat.real (.refl _) qej) h hk⟩
   ·cases h
theorem qeA (hid:Ties P ids fid) (hC:CSound P fid C) (hN:2*N<=dkey) {fl:Bool} (hro:ro.isSome=true->fl=true) {Γ0:Ctx} {ds0:List Deferred} {id:Nat} {is:List I} {fr fr':Fr} {σ':S} {Γ : Ctx} {a:Act} (hc:cIs P ids N false ops un 0 ops.toList=some is)
  (hnd:fl=true->is.all qbA=true) (hat:At fid N fl ids.df Γ0 ds0 fr Γ a)
  (h:qcj C is fr Γ.σ = some (fr',σ')) (hk : ∀ Γ' a',Γ'.σ = σ'->At fid N fl ids.df Γ0 ds0 fr' Γ' a'->Q .normal a' Γ'.w) :
  (Code.region id ops false).wpIn (FR ro) 0 P Q a Γ.w:=by
 refine wpIn_region ?_
 rw[List.range_eq_range',<- Array.length_toList]
 exact qfr hid hC hN hro (l:=ops.toList) (j:=0) (fun k=>by simp) hc hnd hat h hk
theorem qel (hid:Ties P ids fid) (hC:CSound P fid C) (hN:2*N<=dkey) {fl:Bool} (hro:ro.isSome=true->fl=true) {Γ0:Ctx} {ds0:List Deferred} {id:Nat} {is:List I} {fr fr':Fr} {σ':S} {u:V} {Γ : Ctx} {a:Act} (hc:cIs P ids N false ops un 0 ops.toList=some is)
  (hnd:fl=true->is.all qbA=true) (hat:At fid N fl ids.df Γ0 ds0 fr Γ a)
  (h:qbg C is fr Γ.σ = some (u,fr',σ')) (hk : ∀ Γ' a' x,Γ'.σ = σ'->At fid N fl ids.df Γ0 ds0 fr' Γ' a'->Rep fid Γ' u x->Q (.panic [{ v:=x,recovered:=false }]) a' Γ'.w) :
  (Code.region id ops false).wpIn (FR ro) 0 P Q a Γ.w:=by
 refine wpIn_region ?_
 rw[List.range_eq_range',<- Array.length_toList]
 exact qd2 hid hC hN hro (l:=ops.toList) (j:=0) (fun k=>by simp) hc hnd hat h hk
theorem qaz {fr fr':Fr} : ∀ {x:X},(∀ t∈x.tmps,fr.get t=fr'.get t)->x.ev fr=x.ev fr'
 | .t n,h=>h n (by simp[X.tmps])
 | .c _,_=>rfl
 | .f _,_=>rfl
 | .g _,_=>rfl
theorem qa8 {fr fr':Fr} : ∀ {xs:List X},(∀ t∈qey xs,fr.get t=fr'.get t)->evs fr xs=evs fr' xs
 | [],_=>rfl
 | x::r,h=>by
  simp only[evs]
  rw[qaz (x:=x) (fun t ht=>h t (by simp[qey,ht])),qa8 (xs:=r) (fun t ht=>h t (by simp[qey,ht]))]
theorem qdp {fr fr':Fr} : ∀ {xs:List (Nat × Nat × X)},(∀ t∈qhM xs,fr.get t=fr'.get t)->qbI fr xs=qbI fr' xs
 | [],_=>rfl
 | (o,n,x)::r,h=>by
  simp only[qbI]
  rw[qaz (x:=x) (fun t ht=>h t (by simp[qhM,ht])),qdp (xs:=r) (fun t ht=>h t (by simp[qhM,ht]))]
theorem qem {fr fr':Fr} : ∀ {x:Option X},(∀ t∈qhN x,fr.get t=fr'.get t)->qcW fr x=qcW fr' x
 | none,_=>rfl
 | some x,h=>by simp only[qcW]; rw[qaz (x:=x) h]
theorem qhi {fr fr':Fr} {op:O} (h : ∀ t∈op.tmps,fr.get t=fr'.get t) (σ : S):qaj C fr σ op=qaj C fr' σ op/\qbD fr σ op=qbD fr' σ op:=by
 cases op with
 | mov x | box x | load _ _ x | nilchk x | isnil _ _ x | isnils _ x | mkif _ x | mkmeth _ x | bytes x | boxT _ x | up x | down _ x | usd x | bstr x | un _ x | conv _ x | fieldAddr _ x | field _ _ _ x | len _ x | extract x _=>
  have:=qaz (x:=x) h
  simp only[qaj,qbD,this,and_self]
 | pick c a b=>
  have h1:=qaz (x:=c) (fun t ht=>h t (by simp[O.tmps,ht]))
  have h2:=qaz (x:=a) (fun t ht=>h t (by simp[O.tmps,ht]))
  have h3:=qaz (x:=b) (fun t ht=>h t (by simp[O.tmps,ht]))
  simp only[qaj,qbD,h1,h2,h3,and_self]
 | alloc _ | mkmap=>simp only[qaj,qbD,and_self]
 | build _ ps | bslice _ _ ps | bsliceO _ _ _ ps=>
  have:=qdp (xs:=ps) h
  simp only[qaj,qbD,this,and_self]
 | store _ a x | bin _ a x | eqb _ a x | eqa _ _ a x | mkslice _ _ _ a x | indexAddr _ a x | indexAddrA _ _ a x | indexA _ _ _ a x | indexS a x | append _ _ a x | appendO _ _ a x | appendT _ _ _ a x | peq _ a x | ustr _ a x | idxb a x | lookup _ _ a x _=>
  have h1:=qaz (x:=a) (fun t ht=>h t (by simp[O.tmps,ht]))
  have h2:=qaz (x:=x) (fun t ht=>h t (by simp[O.tmps,ht]))
  simp only[qaj,qbD,h1,h2,and_self]
 | slice _ x l u | sliceS x l u | cut _ x l u | sliceA _ _ x l u=>
  have h1:=qaz (x:=x) (fun t ht=>h t (by simp[O.tmps,ht]))
  have h2:=qem (x:=l) (fun t ht=>h t (by simp[O.tmps,ht]))
  have h3:=qem (x:=u) (fun t ht=>h t (by simp[O.tmps,ht]))
  simp only[qaj,qbD,h1,h2,h3,and_self]
 | min xs | max xs | call _ xs=>
  have:=qa8 (xs:=xs) h
  simp only[qaj,qbD,this,and_self]
 | mapset _ a b c=>
  have h1:=qaz (x:=a) (fun t ht=>h t (by simp[O.tmps,ht]))
  have h2:=qaz (x:=b) (fun t ht=>h t (by simp[O.tmps,ht]))
  have h3:=qaz (x:=c) (fun t ht=>h t (by simp[O.tmps,ht]))
  simp only[qaj,qbD,h1,h2,h3,and_self]
 | mkfn _ a b=>
  have h1:=qa8 (xs:=a) (fun t ht=>h t (by simp[O.tmps,ht]))
  have h2:=qa8 (xs:=b) (fun t ht=>h t (by simp[O.tmps,ht]))
  simp only[qaj,qbD,h1,h2,and_self]
 | invoke tbl f xs=>
  have h1:=qaz (x:=f) (fun t ht=>h t (by simp[O.tmps,ht]))
  have h2:=qa8 (xs:=xs) (fun t ht=>h t (by simp[O.tmps,ht]))
  simp only[qaj,qbD,h1,h2,and_self]
 | callv f xs=>
  have h1:=qaz (x:=f) (fun t ht=>h t (by simp[O.tmps,ht]))
  have h2:=qa8 (xs:=xs) (fun t ht=>h t (by simp[O.tmps,ht]))
  simp only[qaj,qbD,h1,h2,and_self]
 | defer f xs=>
  have h0:=h dkey (by simp[O.tmps])
  have h1:=qaz (x:=f) (fun t ht=>h t (by simp[O.tmps,ht]))
  have h2:=qa8 (xs:=xs) (fun t ht=>h t (by simp[O.tmps,ht]))
  simp only[qaj,qbD,Fr.defs,h0,h1,h2,and_self]
 | panic x=>simp only[qaj,qbD,and_self]
 | recov=>
  have h1:=h qfO (by simp[O.tmps])
  simp only[qaj,qbD,h1,and_self]
 | fill k=>
  have h1:=h k (by simp[O.tmps])
  simp only[qaj,qbD,h1,and_self]
theorem qgq {σ σ':S} {agg:Bool} {n:Nat} {p:V} (h : ∀ l,qbJ (some p) = .read l -> σ'[l]? = σ[l]?):qbp σ' agg n p=qbp σ agg n p:=by
 unfold qbp
 split
 ·rename_i l o; rw[h l rfl]
 ·rfl
 ·rename_i l m o; rw[h l rfl]
 ·rfl
theorem qfY {fr:Fr} {σ σ1:S} {op:O} {v:V} (hc:op.chain=false) (h:qaj C fr σ op=some (v,σ1)) :
  σ1 = σ /\ ∀ σ',(∀ l,qbD fr σ op = .read l -> σ'[l]? = σ[l]?)->qaj C fr σ' op=some (v,σ'):=by
 cases op with
 | alloc _ | mkmap | mkslice _ _ _ _ _ | bsliceO _ _ _ _ | box _ | store _ _ _ | append _ _ _ _ | appendO _ _ _ _ | appendT _ _ _ _ _ | boxT _ _ | up _ | down _ _ | ustr _ _ _ | bstr _ | cut _ _ _ _ | mapset _ _ _ _ | call _ _ | callv _ _ | invoke _ _ _=>cases hc
 | load agg n x=>
  simp only[qaj] at h ⊢
  split at h
  ·grind [qbp,qbD,qaj,qgq]
  ·cases h
 | lookup kd z m k ok=>
  simp only[qaj] at h
  split at h
  ·grind [qbD,qbJ,qaj]
  ·cases h
 | len k x=>
  simp only[qaj] at h
  split at h
  ·rename_i p hp
   split at h
   ·rename_i n hn
    cases h
    refine⟨rfl,fun σ' hs=>?_⟩
    have:V.len σ' k p=V.len σ k p:=by
     unfold V.len
     split<;>first | rfl | skip
     rename_i l
     rw[hs l (by simp only[qbD,hp,qbJ])]
    simp only[qaj,hp,this,hn]
   ·cases h
  ·cases h
 | fill k=>
  simp only[qaj] at h
  split at h
  ·grind [qbD,qbJ,qaj]
  ·cases h
 | _=>
  simp only[qaj] at h ⊢
  refine⟨?_,fun σ' _=>?_⟩
  ·grind
  ·repeat' (first | (cases h; done) | (split at h) | (cases h; simp_all; done))
theorem qeQ {σ : S} {v:V}:(qht σ v).2.length = σ.length /\ ∀ l,l∉v.locs->(qht σ v).2[l]? = σ[l]?:=by
 unfold qht
 split
 ·grind [V.locs]
 ·exact⟨rfl,fun _ _=>rfl⟩
 ·exact⟨rfl,fun _ _=>rfl⟩
theorem qeR : ∀ {vs:List V} {σ : S},(qhK σ vs).2.length = σ.length /\ ∀ l,l∉qai vs->(qhK σ vs).2[l]? = σ[l]?
 | [],σ => ⟨rfl,fun _ _=>rfl⟩
 | v::vs,σ=>by
  obtain⟨h1,h2⟩:=qeQ (σ := σ) (v:=v)
  obtain⟨h3,h4⟩:=qeR (vs:=vs) (σ := (qht σ v).2)
  simp only[qhK,qai,List.mem_append,not_or]
  exact⟨h3.trans h1,fun l hl=>(h4 l hl.2).trans (h2 l hl.1)⟩
theorem qhj {σ : S} {v:V}:(qhL σ v).2.length = σ.length /\ ∀ l,l∉v.locs->(qhL σ v).2[l]? = σ[l]?:=by
 unfold qhL
 split
 ·simpa only [V.locs] using qeR
 ·exact qeQ
theorem qen : ∀ {vs:List V} {σ : S},(qex σ vs).2.length = σ.length /\ ∀ l,l∉qai vs->(qex σ vs).2[l]? = σ[l]?
 | [],σ => ⟨rfl,fun _ _=>rfl⟩
 | v::vs,σ=>by
  obtain⟨h1,h2⟩:=qhj (σ := σ) (v:=v)
  obtain⟨h3,h4⟩:=qen (vs:=vs) (σ := (qhL σ v).2)
  simp only[qex,qai,List.mem_append,not_or]
  exact⟨h3.trans h1,fun l hl=>(h4 l hl.2).trans (h2 l hl.1)⟩
theorem qcL {f:Nat} {vs:List V} {σ : S}:(qcl f vs σ).2.length = σ.length /\ ∀ l,l∉qai vs->(qcl f vs σ).2[l]? = σ[l]?:=by grind [qcl,qai,qen]
theorem qeo {L:List Nat} {σ : S} {obs:List Ob} {l:Nat} (hl:l < σ.length) (hm:l∉L):(qal σ L obs)[l]? = σ[l]? /\ σ.length<=(qal σ L obs).length:=by
 induction L generalizing σ obs with
 | nil=>
  cases obs<;>simp only[qal]<;>exact⟨by rw[List.getElem?_append_left hl],by simp⟩
 | cons k ks ih=>
  cases obs with
  | nil=>simp only[qal]; exact⟨by rw[List.getElem?_append_left hl],by simp⟩
  | cons ob obs=>
   simp only[qal]
   obtain⟨h1,h2⟩:=ih (σ := σ.set k ob) (obs:=obs) (by simpa using hl) (fun h=>hm (by simp[h]))
   exact⟨by rw[h1,List.getElem?_set_ne (fun e=>hm (by simp[e]))],by simpa using h2⟩
theorem qdU {L:List Nat} {σ : S} {obs:List Ob} : σ.length<=(qal σ L obs).length:=by
 induction L generalizing σ obs with
 | nil=>cases obs<;>simp[qal]
 | cons k ks ih=>
  cases obs with
  | nil=>simp[qal]
  | cons ob obs=>
   simp only[qal]
   have:=ih (σ := σ.set k ob) (obs:=obs)
   simpa using this
theorem qbr {σ σ':S} {mk:List V->S->Task} {args:List V} {v:V} (h:qaM C mk args σ = some (v,σ')) :
  σ.length <= σ'.length /\ ∀ l,l < σ.length->l∉reach σ 100000 (qai args) [] -> σ'[l]? = σ[l]?:=by
 unfold qaM at h
 simp only at h
 split at h
 ·grind [qaM,reach,qai,qdU,qeo]
 ·cases h
theorem qdx {fr:Fr} {σ σ1:S} {op:O} {v:V} (hc:op.chain=true) (h:qaj C fr σ op=some (v,σ1)) :
  ∃ T,qbD fr σ op = .chain σ.length T /\ σ.length <= σ1.length /\ ∀ l,l < σ.length->l∉T -> σ1[l]? = σ[l]?:=by
 have app : ∀ {σ : S} {ob:Ob} (l:Nat),l < σ.length->(σ ++ [ob])[l]? = σ[l]?:=fun l hl=>List.getElem?_append_left hl
 cases op with
 | alloc z=>simp only[qaj,Option.some.injEq,Prod.mk.injEq] at h; obtain⟨rfl,rfl⟩:=h; exact⟨[],rfl,by simp,fun l hl _=>app l hl⟩
 | mkslice w z b x y=>
  simp only[qaj] at h
  split at h
  ·split at h
   ·split at h
    ·cases h; exact⟨[],rfl,by simp,fun l hl _=>app l hl⟩
    ·cases h; exact⟨[],rfl,by simp,fun l hl _=>app l hl⟩
   ·cases h
  ·cases h
 | mkmap=>simp only[qaj,Option.some.injEq,Prod.mk.injEq] at h; obtain⟨rfl,rfl⟩:=h; exact⟨[],rfl,by simp,fun l hl _=>app l hl⟩
 | bsliceO n sz z ps=>
  simp only[qaj] at h
  split at h
  ·split at h
   ·split at h
    ·cases h; exact⟨[],rfl,by simp,fun l hl _=>app l hl⟩
    ·cases h
   ·cases h
  ·cases h
 | box x=>
  simp only[qaj] at h
  split at h
  ·split at h
   ·cases h; exact⟨[],rfl,by simp,fun l hl _=>app l hl⟩
   ·cases h
  ·cases h
 | store n a x=>
  simp only[qaj] at h
  split at h
  ·rename_i p u hp hu
   split at h
   ·rename_i s hs
    cases h
    unfold storeV at hs
    split at hs
    ·rename_i l o
     refine⟨[l],by simp[qbD,hp,qcq,V.locs],?_⟩
     split at hs
     ·grind
     ·grind
     ·cases hs
    ·rename_i l m o
     refine⟨[l],by simp[qbD,hp,qcq,V.locs],?_⟩
     split at hs
     ·grind
     ·cases hs
    ·cases hs
   ·cases h
  ·cases h
 | append sz b s x=>
  simp only[qaj] at h
  split at h
  ·rename_i p q hp hq
   refine⟨qcq (s.ev fr),rfl,?_⟩
   rw[hp]
   unfold qbS at h
   split at h
   ·cases h
   ·grind [qcq,V.locs]
  ·cases h
 | appendO sz b s x=>
  simp only[qaj] at h
  split at h
  ·rename_i p q hp hq
   refine⟨qcq (s.ev fr),rfl,?_⟩
   rw[hp]
   unfold appendO at h
   split at h
   ·cases h
   ·grind [qcq,V.locs]
  ·cases h
 | boxT k x=>
  simp only[qaj] at h
  split at h
  ·split at h
   ·cases h; exact⟨[],rfl,by simp,fun l hl _=>app l hl⟩
   ·cases h
  ·cases h
 | up x=>
  simp only[qaj] at h
  refine⟨[],rfl,?_⟩
  repeat' (first | (cases h; done) | (cases h; exact⟨Nat.le_refl _,fun _ _ _=>rfl⟩) | split at h)
 | down k x=>
  simp only[qaj] at h
  refine⟨[],rfl,?_⟩
  repeat' (first | (cases h; done) | (cases h; exact⟨Nat.le_refl _,fun _ _ _=>rfl⟩) | split at h)
 | bstr x=>
  simp only[qaj] at h
  refine⟨[],rfl,?_⟩
  repeat' (first | (cases h; done) | (cases h; exact⟨Nat.le_refl _,fun _ _ _=>rfl⟩) | split at h)
 | ustr k x n=>
  simp only[qaj] at h
  refine⟨qcq (x.ev fr),rfl,?_⟩
  split at h
  ·grind
  ·grind [qcq,V.locs]
  ·cases h
 | appendT k sz b s x=>
  simp only[qaj] at h
  split at h
  ·rename_i p q hp hq
   refine⟨qcq (s.ev fr),rfl,?_⟩
   rw[hp]
   unfold appendT at h
   split at h
   ·cases h
   ·grind [qcq,V.locs]
  ·cases h
 | cut n x lo hi=>
  simp only[qaj] at h
  split at h
  ·rename_i p l' u' hp hl hu
   refine⟨qcq (x.ev fr),rfl,?_⟩
   rw[hp]
   unfold qkW at h
   split at h
   ·grind [qcq,V.locs]
   ·grind
  ·cases h
 | mapset kd m k x=>
  simp only[qaj] at h
  split at h
  ·rename_i l key u hm hk hu
   refine⟨[l],by simp[qbD,hm,qcq,V.locs],?_⟩
   split at h
   ·grind
   ·cases h
  ·cases h
 | call f xs=>
  simp only[qaj] at h
  split at h
  ·rename_i vs hvs
   obtain⟨h1,h2⟩:=qbr h
   obtain⟨a1,a2⟩:=qcL (f:=f) (vs:=vs) (σ := σ)
   have he:qbD fr σ (.call f xs) = .chain σ.length (qai vs++reach (qcl f vs σ).2 100000 (qai (qcl f vs σ).1) []):=by simp only[qbD,hvs,qhd,qec]
   refine⟨_,he,by omega,fun l hl hm=>?_⟩
   simp only[List.mem_append,not_or] at hm
   rw[h2 l (by omega) hm.2,a2 l hm.1]
  ·cases h
 | invoke tbl x xs=>
  simp only[qaj] at h
  split at h
  ·rename_i t v vs hx hvs
   split at h
   ·rename_i g hg
    obtain⟨h1,h2⟩:=qbr h
    obtain⟨a1,a2⟩:=qcL (f:=g) (vs:=v::vs) (σ := σ)
    have he:qbD fr σ (.invoke tbl x xs) = .chain σ.length (v.locs++qai vs++reach (qcl g (v::vs) σ).2 100000 (qai (qcl g (v::vs) σ).1) []):=by simp only[qbD,hx,hg,hvs,Option.map_some,qhd,qec]
    refine⟨_,he,by omega,fun l hl hm=>?_⟩
    simp only[List.mem_append,not_or] at hm
    rw[h2 l (by omega) hm.2,a2 l (by simp only[qai,List.mem_append,not_or]; exact hm.1)]
   ·cases h
  ·cases h
 | callv f xs=>
  simp only[qaj] at h
  split at h
  ·rename_i id as bs vs hf hvs
   obtain⟨h1,h2⟩:=qbr h
   obtain⟨a1,a2⟩:=qcL (f:=id) (vs:=vs) (σ := σ)
   have he:qbD fr σ (.callv f xs) = .chain σ.length (qai vs++reach (qcl id vs σ).2 100000 (qai as++(qai (qcl id vs σ).1++qai bs)) []):=by simp only[qbD,hf,hvs,qhd,qec]
   refine⟨_,he,by omega,fun l hl hm=>?_⟩
   have happ : ∀ a b:List V,qai (a++b)=qai a++qai b:=fun a b=>by
    induction a with
    | nil=>simp[qai]
    | cons x a ih=>simp[qai,ih]
   simp only[List.mem_append,not_or] at hm
   rw[h2 l (by omega) (by rw[happ,happ,List.append_assoc]; exact hm.2),a2 l hm.1]
  ·rename_i g u vs hf hvs
   obtain⟨h1,h2⟩:=qbr h
   obtain⟨a1,a2⟩:=qcL (f:=g) (vs:=u::vs) (σ := σ)
   have he:qbD fr σ (.callv f xs) = .chain σ.length (u.locs++qai vs++reach (qcl g (u::vs) σ).2 100000 (qai (qcl g (u::vs) σ).1) []):=by simp only[qbD,hf,hvs,Option.map_some,qhd,qec]
   refine⟨_,he,by omega,fun l hl hm=>?_⟩
   simp only[List.mem_append,not_or] at hm
   rw[h2 l (by omega) hm.2,a2 l (by simp only[qai,List.mem_append,not_or]; exact hm.1)]
  ·rename_i l vs hf hvs
   obtain⟨h1,h2⟩:=qbr h
   refine⟨reach σ 100000 (l::qai vs) [],by simp only[qbD,hf,hvs,qec],h1,fun l hl hm=>h2 l hl ?_⟩
   simpa [qai,V.locs] using hm
  ·cases h
 | _=>cases hc
end
end Go.Pm
end SM
