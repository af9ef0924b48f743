/- Functions; the whole run. -/
import Derived.Test.YtpakkndfjpimgaaGreatDoorPmR1
set_option linter.unusedSimpArgs false
set_option linter.unusedVariables false
section SR
namespace Go.Pm
variable {P:Program} {ids:Ids} {fid:Fid}
section
variable {C:Task->Option Res} {ro:Option Nat}
theorem qgK {Γ0 Γ1:Ctx} {D:Nat} (hr:Real fid Γ1) (hs:Step Γ0 Γ1) (hD:MarkAt Γ0 Γ1 D) :
  Real fid ⟨Γ1.σ,Γ1.μ,Γ1.F,Γ1.w.putObj D (.deferred none)⟩/\Step Γ0 ⟨Γ1.σ,Γ1.μ,Γ1.F,Γ1.w.putObj D (.deferred none)⟩/\Ext Γ1 ⟨Γ1.σ,Γ1.μ,Γ1.F,Γ1.w.putObj D (.deferred none)⟩ /\
   ∀ k,k≠D->(Γ1.w.putObj D (.deferred none)).heap[k]? = Γ1.w.heap[k]?:=by
 obtain⟨d1,d2,d3⟩:=hD
 have hF : Γ1.F D=0:=by
  rcases Nat.eq_zero_or_pos (Γ1.F D) with h | h
  ·exact h
  ·obtain⟨arr,e,fz,h1,_⟩:=hr.imm D h
   rw[d2] at h1; cases h1
 have hother : ∀ k,k≠D->(Γ1.w.putObj D (.deferred none)).heap[k]? = Γ1.w.heap[k]?:=fun k hk=>World.putObj_heap_other hk
 have hext:Ext Γ1 ⟨Γ1.σ,Γ1.μ,Γ1.F,Γ1.w.putObj D (.deferred none)⟩:=by
  refine⟨by simp,rfl,rfl,rfl,fun _=>Nat.le_refl _,fun b i v hi hv=>?_,fun b arr e hb ha=>⟨arr,?_,rfl⟩,Nat.le_refl _,fun _ ob h ht=>⟨⟨ob,h,ht⟩,fun _ h=>h⟩,fun _ m h=>⟨m,h,Nat.le_refl _,fun h=>h,fun _ _ h=>h⟩,
   qcr fun l ob h _ => .inl ⟨h,fun b hb=>⟨hb,fun arr e ha=>(hother b fun e=>by subst e; exact d3 l hb).trans ha⟩⟩⟩
  ·rw[cell?_of_block (hother b fun e=>by subst e; omega)]; exact hv
  ·rw[hother b fun e=>by subst e; omega]; exact ha
 have hreal:Real fid ⟨Γ1.σ,Γ1.μ,Γ1.F,Γ1.w.putObj D (.deferred none)⟩:=by
  refine⟨fun l ob b h1 h2=>RepOb.ext hext (hother b fun e=>by subst e; exact d3 l h2) rfl ob (hr.obs l ob b h1 h2),fun l b h=>?_,hr.inj,fun b hb=>?_,Glb.ext hext hr.glb⟩
  ·have:=hr.dom l b h
   exact⟨this.1,by simpa using this.2⟩
  ·obtain⟨a,t,fz,h1,h2⟩:=hr.imm b hb
   have hb':0 < Γ1.F b:=hb
   exact⟨a,t,fz,by rw[hother b fun e=>by subst e; omega]; exact h1,h2⟩
 refine⟨hreal,⟨hs.ext.trans hext,⟨fun b hb hno=>?_,hs.frm.new⟩,hs.non⟩,hext,hother⟩
 have:=hs.frm.same b hb hno
 exact⟨(hother b (by omega)).trans this.1,this.2⟩
theorem DIReps.off {Γ0 Γ1 Γ2:Ctx} {D:Nat} (hext:Ext Γ1 Γ2) (hμ : Γ2.μ = Γ1.μ) (hother : ∀ k,k≠D -> Γ2.w.heap[k]? = Γ1.w.heap[k]?) : ∀ {is:List DI} {ds:List Deferred},D∉qbx is->DIReps fid Γ0 Γ1 is ds->DIReps fid Γ0 Γ2 is ds
 | [],ds,_,h=>h
 | .m D'::is,ds,hn,⟨d,r,h1,h2,h3⟩=>by
  simp only[qbx,List.mem_cons,not_or] at hn
  exact⟨d,r,h1,⟨h2.1,h2.2.1,(hother D' (Ne.symm hn.1)).trans h2.2.2.1,by rw[hμ]; exact h2.2.2.2⟩,DIReps.off hext hμ hother hn.2 h3⟩
 | .c v::is,ds,hn,⟨d,r,h1,h2,h3⟩=>by
  obtain⟨id,as,cap,ys,q1,q2,q3⟩:=h2
  exact⟨d,r,h1,⟨id,as,cap,ys,q1,q2,Reps.ext hext _ _ q3⟩,DIReps.off hext hμ hother hn h3⟩
theorem qb8 (hC:CSound P fid C) {fn:Func} {R:Ending->World->Prop} {N:Nat} {fr:Fr} {tmps:Array Value} {Γ0:Ctx} {σ2:S} : ∀ (is:List DI) (ds:List Deferred) (Γ1:Ctx),DIReps fid Γ0 Γ1 is ds->(qbx is).Nodup->Real fid Γ1->Step Γ0 Γ1->FrRep fid Γ1 N fr tmps ->
  qaD C (qaU is) Γ1.σ = some σ2 ->
  (∀ Γ',Γ'.σ = σ2->Real fid Γ'->Step Γ0 Γ'->FrRep fid Γ' N fr tmps -> ∃ v,(results fn tmps).run P Γ'.w = .ok v Γ'.w/\R (.returned v) Γ'.w) ->
  LeavesInM Fence.wide 0 P fn tmps R ds .returning Γ1.w
 | [],ds,Γ1,hd,_,hr,hs,hf,h,hk=>by
  simp only[DIReps] at hd; subst hd
  simp only[qaU,qaD,Option.some.injEq] at h
  exact hk Γ1 h hr hs hf
 | .m D::is,ds,Γ1,hd,hn,hr,hs,hf,h,hk=>by
  obtain⟨d,r,rfl,⟨rfl,hD⟩,hd'⟩:=hd
  obtain⟨n1,n2⟩:=List.nodup_cons.1 hn
  obtain⟨a1,a2,a3,a4⟩:=qgK hr hs hD
  have ih:=qb8 hC (fn:=fn) (R:=R) is r ⟨Γ1.σ,Γ1.μ,Γ1.F,Γ1.w.putObj D (.deferred none)⟩ (DIReps.off a3 rfl a4 n1 hd') n2 a1 a2 (hf.ext a3) h hk
  simp only[LeavesInM]
  exact⟨by simp,.inl ⟨D,_,rfl,run_takeDeferred hD.2.1,ih⟩⟩
 | .c v::is,ds,Γ1,hd,hn,hr,hs,hf,h,hk=>by
  obtain⟨d,r,rfl,⟨id,as,cap,ys,rfl,rfl,hargs⟩,hd'⟩:=hd
  simp only[qaU,qaD] at h
  split at h
  ·rename_i v1 σ1 hcall
   have hnil:Rep fid Γ1 (.dat (.lit .nilIface)) .nilIface:=qb1 rfl
   obtain⟨k1,k2⟩:=qdb (u := .returning) hC hr hnil hargs (fun _=>rfl) (fun h=>by cases h) hcall
   have harr:(ys.toList++cap.toList).toArray=ys++cap:=by simp
   rw[harr] at k2
   simp only[LeavesInM]
   refine⟨by simp,.inr ⟨fun h=>by simp[Fence.wide] at h,.func (fid id),cap,fid id,ys++cap,rfl,?_,fun _ _=>trivial,CallsDIn.mono k2 ?_⟩⟩
   ·simp only[invoke]; exact qaw k1 _ _
   ·rintro e u' w' ⟨Γ',y,rfl,rfl,rfl,q1,q2,q3⟩
    show LeavesInM Fence.wide 0 P fn tmps R r (settle u') Γ'.w
    rw[q3]
    exact qb8 hC is r Γ' (hd'.step q2) hn q1 (hs.trans q2) (hf.ext q2.ext) h hk
  ·cases h
theorem qdM (hC:CSound P fid C) {fn:Func} {R:Ending->World->Prop} {N:Nat} {fr:Fr} {tmps:Array Value} {Γ0:Ctx} {pv:V} {x:Value} : ∀ (is:List DI) (ds:List Deferred) (Γ1:Ctx),DIReps fid Γ0 Γ1 is ds->(qbx is).Nodup->Real fid Γ1->Step Γ0 Γ1->FrRep fid Γ1 N fr tmps->Rep fid Γ1 pv x ->
  ((qaU is=[] /\ ∀ Γ',Γ'.σ = Γ1.σ -> Real fid Γ'->Step Γ0 Γ'->Rep fid Γ' pv x->R (.panicked [{ v:=x,recovered:=false }]) Γ'.w) \/
   (∃ id as r v1 σ1 σ2,qaU is = .fn id as []::r/\pv.isNilIf=false/\qaM C (.dcall id) (pv::as) Γ1.σ = some (v1,σ1)/\qaD C r σ1=some σ2 /\
    ∀ Γ',Γ'.σ = σ2->Real fid Γ'->Step Γ0 Γ'->FrRep fid Γ' N fr tmps -> ∃ v,(results fn tmps).run P Γ'.w = .ok v Γ'.w/\R (.returned v) Γ'.w)) ->
  LeavesInM Fence.wide 0 P fn tmps R ds (.panicking [{ v:=x,recovered:=false }]) Γ1.w
 | [],ds,Γ1,hd,_,hr,hs,hf,hx,h=>by
  simp only[DIReps] at hd; subst hd
  rcases h with ⟨_,h⟩ | ⟨id,as,r,v1,σ1,σ2,h,_⟩
  ·simp only[LeavesInM,LeavesIn]; exact h Γ1 rfl hr hs hx
  ·simp[qaU] at h
 | .m D::is,ds,Γ1,hd,hn,hr,hs,hf,hx,h=>by
  obtain⟨d,r,rfl,⟨rfl,hD⟩,hd'⟩:=hd
  obtain⟨n1,n2⟩:=List.nodup_cons.1 hn
  obtain⟨a1,a2,a3,a4⟩:=qgK hr hs hD
  have ih:=qdM hC (fn:=fn) (R:=R) is r ⟨Γ1.σ,Γ1.μ,Γ1.F,Γ1.w.putObj D (.deferred none)⟩ (DIReps.off a3 rfl a4 n1 hd') n2 a1 a2 (hf.ext a3) (Rep.ext a3 _ _ hx) h
  simp only[LeavesInM]
  exact⟨by simp,.inl ⟨D,_,rfl,run_takeDeferred hD.2.1,ih⟩⟩
 | .c v::is,ds,Γ1,hd,hn,hr,hs,hf,hx,h=>by
  obtain⟨d,r,rfl,⟨id,as,cap,ys,rfl,rfl,hargs⟩,hd'⟩:=hd
  rcases h with ⟨h,_⟩ | ⟨id',as',r',v1,σ1,σ2,h,hnil,hcall,hrest,hk⟩
  ·simp[qaU] at h
  ·simp only[qaU,List.cons.injEq,V.fn.injEq] at h
   obtain⟨⟨rfl,rfl,_⟩,rfl⟩:=h
   obtain⟨k1,k2⟩:=qdb (u := .panicking [{ v:=x,recovered:=false }]) hC hr hx hargs (fun h=>by rw[hnil] at h; cases h) (fun _=>rfl) hcall
   have harr:(ys.toList++cap.toList).toArray=ys++cap:=by simp
   rw[harr] at k2
   simp only[LeavesInM]
   refine⟨by simp,.inr ⟨fun h=>by simp[Fence.wide] at h,.func (fid id),cap,fid id,ys++cap,rfl,?_,fun _ _=>trivial,CallsDIn.mono k2 ?_⟩⟩
   ·simp only[invoke]; exact qaw k1 _ _
   ·rintro e u' w' ⟨Γ',y,rfl,rfl,rfl,q1,q2,q3⟩
    show LeavesInM Fence.wide 0 P fn tmps R r (settle u') Γ'.w
    rw[q3]
    exact qb8 hC is r Γ' (hd'.step q2) hn q1 (hs.trans q2) (hf.ext q2.ext) hrest hk
theorem qgd (hid:Ties P ids fid) (hcr:Codes P ids fid) (hC:CSound P fid C) (hL:LSound P ids fid C) (hm:P.follows .mixedOrders=true) {args:List V} {σ σ':S} {v:V} (h:qca C args σ = some (.ret v σ')):qe9 P fid args σ v σ':=by
 intro Γ xs hσ hr hargs
 subst hσ
 unfold qca at h
 split at h
 ·rename_i l vs
  simp only[Reps] at hargs
  obtain⟨x,ys,rfl,hy,hvs⟩:=hargs
  simp only[Rep] at hy
  obtain⟨b,hb,rfl,_⟩:=hy
  split at h
  ·rename_i lp hlp
   split at h
   ·rename_i hcond
    obtain⟨hlen,hst,hflat,hnod⟩:=hcond
    have hnod:(qcP lp.fr lp.ps vs).get dkey=none:=by simpa using hnod
    have hnodefs:(qcP lp.fr lp.ps vs).defs=[]:=by simp[Fr.defs,hnod]
    simp only[Bool.and_eq_true] at hflat
    obtain⟨L,q1,q2,q3,_,⟨N,c1,c2,c3,c4⟩,_⟩:=qdZ hr hlp hb
    obtain⟨hN,K1,ow1,d1,c1⟩:=(hcr _ _ _).1 c1
    obtain⟨_,K2,ow2,d2,c2⟩:=(hcr _ _ _).1 c2
    have hsz:ys.toArray.size=L.params.size:=by grind [Codes,LSound,qca,qe9,Reps.length]
    refine⟨l,b,ys,L.fn,_,L.assign,L.body,rfl,rfl,run_yield q1 hsz,?_⟩
    split at h
    ·rename_i fr1 σ1 hrun1
     split at h
     ·rename_i lp1 hlp1
      split at h
      ·rename_i hst1
       obtain⟨hst1,hd1⟩:=hst1
       have hd1:fr1.get dkey=none:=by simpa using hd1
       split at h
       ·cases h
       ·rename_i e fr2 σ2 hnpan hrun2
        split at h
        ·rename_i lp2 hlp2
         split at h
         ·rename_i vs3 σ3 hres
          simp only[Option.some.injEq,Res.ret.injEq] at h
          obtain⟨rfl,rfl⟩:=h
          have hfr:FrRep fid Γ N (qcP lp.fr lp.ps vs) ((L.params.zip ys.toArray).foldl (fun t (p,v)=>t.setIfInBounds p v) L.tmps):=by
           have:=qe3 (ps:=L.params.toList) (vs:=vs) (ys:=ys) c4 (by rw[q2]; exact c3) hvs
           rw[q2] at this
           rw[<- Array.foldl_toList,Array.toList_zip,q2]
           exact this
          refine roundIn_of_wpIn (F:=Fence.wide) trivial ?_
          refine qaE (ro:=some b) (fl:=true) (hid.with ow1 d1) (hcr.with ow1 d1) hC (hL.with ow1 d1) hm hN (fun _=>rfl) L.assign lp.assign c1 (fun _=>hflat.1) _ .normal fr1 σ1 Γ [] Γ _ _ hrun1 ⟨hr,.refl _,by rw[hnodefs]; exact .nil _ _ _,hfr,fun _=>rfl,fun _=>hnod⟩ fun Γ1 a1 ex g1 g2 g3=>?_
          subst g1
          simp only[qbw] at g3
          subst g3
          have hb1 : Γ1.μ l=some b:=(g2.step.ext.fix l _ hlp rfl).2 b hb
          obtain⟨L1,u1,_,u3,_,_,u6⟩:=qdZ g2.real hlp1 hb1
          obtain⟨r2,s2⟩:=u6 1 lp1.pend .busy (lp1.pend.map Ex.code) rfl rfl
          have u4:L1.pending=lp1.pend.map Ex.code:=by grind
          have hL1:({ L1 with state:=LoopState.busy }:Loop)={ L1 with state := .busy,pending:=lp1.pend.map Ex.code }:=by rw[<- u4]
          refine⟨_,run_beginRound u1 (by rw[u3,hst1]; rfl),?_⟩
          rw[hL1]
          refine qaE (ro:=some b) (fl:=true) (hid.with ow2 d2) (hcr.with ow2 d2) hC (hL.with ow2 d2) hm hN (fun _=>rfl) L.body lp.body c2 (fun _=>hflat.2) fr1 e fr2 σ2 Γ [] _ a1 _ hrun2 ⟨r2,g2.step.trans s2,g2.marks.step s2,g2.frame.ext s2.ext,g2.still,fun _=>hd1⟩ fun Γ3 a3 ex g3 g4 g5=>?_
          subst g3
          have hb3 : Γ3.μ l=some b:=(g4.step.ext.fix l _ hlp rfl).2 b hb
          obtain⟨L3,w1,_,_,_,_,w6⟩:=qdZ g4.real hlp2 hb3
          have fin : ∀ (st:Nat) (pe:Option Ex) (j:Option Code) (bl:Bool),lp2.ended e={ lp2 with st:=st,pend:=pe }->j=pe.map Ex.code->bl=j.isNone->(if j.isNone then LoopState.ready else .done)=qkt st ->
            ∃ v w',(Instr.endRound b j).run P Γ3.w = .ok v w' /\ ∃ Γ' x,Ending.returned v = .returned x /\ Γ'.w=w' /\ Γ'.σ = σ3/\Real fid Γ'/\Step Γ Γ'/\Rep fid Γ' (.bool bl) x:=by
           intro st pe j bl he hj hbl hstt
           subst hbl
           obtain⟨r4,s4⟩:=w6 st pe _ j hstt hj
           rw[he] at hres
           obtain⟨t1,t2,t3,t4,t5,t6⟩:=qar r4 hres
           refine⟨_,_,run_endRound j w1,Ctx.part _ _ σ3,_,rfl,rfl,rfl,t5,qbV (g4.step.trans s4) t1 t2 t4 (qdr _ _ _),?_⟩
           simp[Rep,RepD,qaJ]
          cases e with
          | normal=>simp only[qbw] at g5; subst g5; exact fin 0 none none true rfl rfl rfl rfl
          | exit id=>simp only[qbw] at g5; subst g5; exact fin 2 (some (.exit id)) (some (.exit id)) false rfl rfl rfl rfl
          | ret=>simp only[qbw] at g5; subst g5; exact fin 2 (some .ret) (some .ret) false rfl rfl rfl rfl
          | pan v=>exact (hnpan _ rfl).elim
         ·cases h
        ·cases h
       ·cases h
      ·cases h
     ·cases h
    ·cases h
   ·cases h
  ·cases h
 ·cases h
theorem qdN {fn:Func} {pf:PFun} {N:Nat} {Γ Γ2:Ctx} {fr':Fr} {tmps:Array Value} {v:V} {σ':S} (hres:qfB P N fn.results.toList=some pf.results) (k2:Real fid Γ2) (k3:Step Γ Γ2) (k4:FrRep fid Γ2 N fr' tmps)
  (hfinish:qby pf Γ.σ.length fr' Γ2.σ = some (.ret v σ')) : ∃ y,(results fn tmps).run P Γ2.w = .ok y Γ2.w /\ ∃ Γ',Γ'.w = Γ2.w /\ Γ'.σ = σ'/\Real fid Γ'/\Step Γ Γ'/\Rep fid Γ' v y:=by
 unfold qby at hfinish
 split at hfinish
 ·rename_i vs0 hvs0
  obtain⟨ys,r1,r2⟩:=qc5 k2 k4 hres hvs0
  have hres':(results fn tmps).run P Γ2.w = .ok (if h:ys.length=1 then ys[0] else .tuple ys.toArray) Γ2.w:=by
   rw[qe2]
   simp only[Sem.run_bind]
   rw[Array.mapM_eq_mapM_toList]
   simp only[Sem.run_map]
   rw[r1]
   simp only[Result.andThen_ok,Sem.run_pure]
   simp
  have plain : ∀ {vs:List V},Reps fid Γ2 vs ys->finishV Γ.σ.length vs Γ2.σ = some (.ret v σ') -> ∃ (Γ':Ctx) (vs':List V),Γ'.σ = σ' /\ Γ'.w = Γ2.w/\Real fid Γ'/\Step Γ Γ'/\Reps fid Γ' vs' ys/\v=one vs':=by
   intro vs hvs hfin
   unfold finishV at hfin
   split at hfin
   ·rename_i vs' σs hrestrict
    simp only[Option.some.injEq,Res.ret.injEq] at hfin
    obtain⟨rfl,rfl⟩:=hfin
    obtain⟨t1,t2,t3,t4,t5,t6⟩:=qar k2 hrestrict
    exact⟨Γ2.part _ σs,vs',rfl,rfl,t5,qbV k3 t1 t2 t4 (qdr _ _ _),t6 ys hvs,rfl⟩
   ·cases hfin
  have hout : ∃ (Γ':Ctx) (vs':List V),Γ'.σ = σ' /\ Γ'.w = Γ2.w/\Real fid Γ'/\Step Γ Γ'/\Reps fid Γ' vs' ys/\v=one vs':=by grind [finishV,qfB,FrRep,qby,Rep,qhw,qdr,qhD]
  obtain⟨Γ',vs',e1,e2,e3,e4,r3,rfl⟩:=hout
  ·refine⟨_,hres',Γ',e2,e1,e3,e4,?_⟩
   have hl:=Reps.length r3
   cases vs' with
   | nil=>
    simp only[Reps] at r3; subst r3
    simp only[one,Rep]
    exact⟨[],by simp,rfl⟩
   | cons v1 rest=>
    cases rest with
    | nil=>
     simp only[Reps] at r3
     obtain⟨y,ys',rfl,k1,rfl⟩:=r3
     simpa [one] using k1
    | cons v2 rest=>
     have : ¬ ys.length=1:=by rw[hl]; simp
     rw[dif_neg this]
     simp only[one,Rep]
     exact⟨ys,rfl,r3⟩
 ·cases hfinish
theorem qcV {N:Nat} {Γ : Ctx} {args:List V} {xs:List Value} (hargs:Reps fid Γ args xs) (hle:args.length<=N):FrRep fid Γ N (qaG 0 args) (xs.toArray++Array.replicate (N-xs.toArray.size) undef):=by
 have hxl:=Reps.length hargs
 refine⟨by simp; omega,fun t u ht hu=>?_⟩
 obtain⟨_,h2⟩:=qc4 hu
 obtain⟨x,h3,h4⟩:=qg2 hargs h2
 have:(xs.toArray++Array.replicate (N-xs.toArray.size) undef).getD t undef=x:=by
  have hlt:=(List.getElem?_eq_some_iff.1 h3).1
  rw[Array.getD_eq_getD_getElem?,Array.getElem?_append_left (by simpa using hlt)]
  simp only[Nat.sub_zero] at h3
  simp[h3]
 rw[this]; exact h4
theorem qea {args:List V} {k:Nat} (h:args.length<=k):(qaG 0 args).get k=none:=by
 cases hg:(qaG 0 args).get k with
 | none=>rfl
 | some v=>
  obtain⟨_,h2⟩:=qc4 hg
  have:=(List.getElem?_eq_some_iff.1 h2).1
  omega
theorem qge (hid:Ties P ids fid) (hcr:Codes P ids fid) (hC:CSound P fid C) (hL:LSound P ids fid C) (hm:P.follows .mixedOrders=true) {f:Nat} {fn:Func} {K:Nat->List Nat} {ow df:Bool} {pf:PFun} {c:Code} (hfn:P.funcs[fid f]?=some fn) (hbody:fn.body=some c)
  (hname:(fn.name == "runtime.NumGoroutine")=false) (hN:2*fn.ntmps<=dkey) (hcomp:comp P (ids.with ow df) fn.ntmps K c=some pf.body) (hres:qfB P fn.ntmps fn.results.toList=some pf.results) (hpn:pf.np<=fn.ntmps) (hpd:pf.df=df)
  {args:List V} {σ σ':S} {v:V} (h:qa3 C pf args σ = some (.ret v σ')):qgc P fid f args σ v σ':=by
 unfold qa3 at h
 split at h
 ·rename_i hlen
  refine⟨⟨fn,hfn,hname,by rw[hbody]; rfl⟩,fun Γ xs hσ hr hargs=>?_⟩
  subst hσ
  have hf0:=qcV (N:=fn.ntmps) hargs (by omega)
  have hpos:0<dkey:=by decide
  have hk0:(qaG 0 args).get dkey=none:=qea (by omega)
  refine callsIn_of_wp_marks (F:=Fence.wide) hfn hbody trivial ?_
  have fin : ∀ (e:Ex) (fr':Fr) (σ1:S),run C Γ.σ.length pf.body (qaG 0 args) Γ.σ = some (e,fr',σ1) ->
    (∀ Γ1 a1 ex,Γ1.σ = σ1->At fid fn.ntmps false df Γ [] fr' Γ1 a1->qbw fid Γ1 e ex->bodyPostM Fence.wide 0 P fn (fun e w' => ∃ Γ',Γ'.w=w' /\ Γ'.σ = σ'/\Real fid Γ'/\Step Γ Γ'/\qkv fid Γ' v e) ex a1 Γ1.w) ->
    c.wpIn Fence.wide 0 P (bodyPostM Fence.wide 0 P fn (fun e w' => ∃ Γ',Γ'.w=w' /\ Γ'.σ = σ'/\Real fid Γ'/\Step Γ Γ'/\qkv fid Γ' v e)) { tmps:=xs.toArray++Array.replicate (fn.ntmps-xs.toArray.size) undef,defers:=[] } Γ.w:=by
   intro e fr' σ1 hrun hk
   exact qaE (ro:=none) (fl:=false) (hid.with ow df) (hcr.with ow df) hC (hL.with ow df) hm hN (fun h=>by simp at h) c pf.body hcomp (fun h=>by cases h) (qaG 0 args) e fr' σ1 Γ [] Γ _ _ hrun
    ⟨hr,.refl _,by simp only[Fr.defs,hk0]; exact .nil _ _ _,hf0,fun h=>by (cases h),fun _=>hk0⟩ hk
  have norm : ∀ (fr':Fr) (σ1:S) (ex:Exit) (e:Ex),(ex = .normal\/ex = .ret)->(if pf.df then qdg C pf Γ.σ.length fr' σ1 else qby pf Γ.σ.length fr' σ1)=some (.ret v σ') ->
    ∀ Γ1 a1,Γ1.σ = σ1->At fid fn.ntmps false df Γ [] fr' Γ1 a1->bodyPostM Fence.wide 0 P fn (fun e w' => ∃ Γ',Γ'.w=w' /\ Γ'.σ = σ'/\Real fid Γ'/\Step Γ Γ'/\qkv fid Γ' v e) ex a1 Γ1.w:=by
   intro fr' σ1 ex e hex hend Γ1 a1 g1 g2
   subst g1
   obtain⟨is,ds',m1,m2,m3,m4⟩:=g2.marks
   have hrd : ∃ σ2,qaD C (qaU is) Γ1.σ = some σ2/\qby pf Γ.σ.length fr' σ2=some (.ret v σ'):=by
    cases hd:df with
    | false=>
     rw[hpd,hd] at hend
     have:fr'.defs=[]:=by simp only[Fr.defs,g2.nod hd]
     rw[this] at m4
     exact⟨Γ1.σ,by rw[m4]; rfl,hend⟩
    | true=>
     rw[hpd,hd] at hend
     simp only[if_true,qdg] at hend
     split at hend
     ·grind
     ·cases hend
   obtain⟨σ2,h1,h2⟩:=hrd
   have post:LeavesInM Fence.wide 0 P fn a1.tmps (fun e w' => ∃ Γ',Γ'.w=w' /\ Γ'.σ = σ'/\Real fid Γ'/\Step Γ Γ'/\qkv fid Γ' v e) a1.defers .returning Γ1.w:=by
    rw[m1,List.append_nil]
    refine qb8 hC is ds' Γ1 m2 m3 g2.real g2.step g2.frame h1 fun Γ2 k1 k2 k3 k4=>?_
    subst k1
    obtain⟨y,r1,Γ',r2,r3,r4,r5,r6⟩:=qdN hres k2 k3 k4 h2
    exact⟨y,r1,Γ',r2,r3,r4,r5,.inl ⟨y,rfl,r6⟩⟩
   rcases hex with rfl | rfl
   ·exact post
   ·exact post
  split at h
  ·rename_i fr' σ1 hrun
   refine fin .normal fr' σ1 hrun fun Γ1 a1 ex g1 g2 g3=>?_
   simp only[qbw] at g3; subst g3
   exact norm fr' σ1 _ .normal (.inl rfl) h Γ1 a1 g1 g2
  ·rename_i fr' σ1 hrun
   refine fin .ret fr' σ1 hrun fun Γ1 a1 ex g1 g2 g3=>?_
   simp only[qbw] at g3; subst g3
   exact norm fr' σ1 _ .ret (.inr rfl) h Γ1 a1 g1 g2
  ·rename_i pv fr' σ1 hrun
   refine fin (.pan pv) fr' σ1 hrun fun Γ1 a1 ex g1 g2 g3=>?_
   subst g1
   obtain⟨x,rfl,hx⟩:=g3
   obtain⟨is,ds',m1,m2,m3,m4⟩:=g2.marks
   show LeavesInM Fence.wide 0 P fn a1.tmps _ a1.defers (.panicking [{ v:=x,recovered:=false }]) Γ1.w
   rw[m1,List.append_nil]
   refine qdM hC is ds' Γ1 m2 m3 g2.real g2.step g2.frame hx ?_
   unfold qcQ at h
   split at h
   ·rename_i hd
    refine .inl ⟨by rw[m4]; exact hd,fun Γ2 k1 k2 k3 k4=>?_⟩
    rw[<- k1] at h
    split at h
    ·rename_i v' σs hres'
     cases h
     obtain⟨t1,t2,t3,t4,t5,t6⟩:=qar k2 hres'
     have:=t6 [x] ⟨x,[],rfl,k4,rfl⟩
     simp only[Reps] at this
     obtain⟨y,ys,e1,e2,e3⟩:=this
     cases e1
     exact⟨Γ2.part _ σ',rfl,rfl,t5,qbV k3 t1 t2 t4 (qdr _ _ _),.inr ⟨v',x,rfl,rfl,e2⟩⟩
    ·cases h
   ·rename_i id as r hd
    split at h
    ·cases h
    ·rename_i hnil
     split at h
     ·rename_i v1 σ2 hcall
      split at h
      ·rename_i σ3 hrest
       refine .inr ⟨id,as,r,v1,σ2,σ3,by rw[m4]; exact hd,by simpa using hnil,hcall,hrest,fun Γ2 k1 k2 k3 k4=>?_⟩
       subst k1
       obtain⟨y,r1,Γ',r2,r3,r4,r5,r6⟩:=qdN hres k2 k3 k4 h
       exact⟨y,r1,Γ',r2,r3,r4,r5,.inl ⟨y,rfl,r6⟩⟩
      ·cases h
     ·cases h
   ·cases h
  ·cases h
 ·cases h
theorem qeb {fn:Func} {rs:List PR} {N:Nat} (hres:qfB P N fn.results.toList=some rs) (he:rs.isEmpty=true) (tmps:Array Value) (w:World):(results fn tmps).run P w = .ok (.tuple #[]) w:=by
 have hnil:fn.results.toList=[]:=by
  cases hr:fn.results.toList with
  | nil=>rfl
  | cons r rest=>
   rw[hr] at hres
   cases r with
   | tmp t=>
    simp only[qfB] at hres
    split at hres
    ·simp_all
    ·cases hres
   | cell a t=>
    simp only[qfB] at hres
    split at hres
    ·split at hres<;>cases hres<;>cases he
    ·cases hres
 rw[qe2]
 simp only[Sem.run_bind]
 rw[Array.mapM_eq_mapM_toList,hnil]
 simp
theorem qmM {Γ Γ1:Ctx} (hr:Real fid Γ1) (hs:Step Γ Γ1) {vs:List V} {σ':S} (h:qaH (gcL Γ.σ.length [] Γ1.σ) [] Γ1.σ = some (vs,σ')) : ∃ Γ',Γ'.w = Γ1.w /\ Γ'.σ = σ'/\Real fid Γ'/\Step Γ Γ':=by
 obtain⟨t1,t2,t3,t4,t5,t6⟩:=qar hr h
 exact⟨Γ1.part _ σ',rfl,rfl,t5,qbV hs t1 t2 t4 (qdr _ _ _)⟩
theorem qfJ (hid:Ties P ids fid) (hcr:Codes P ids fid) (hC:CSound P fid C) (hL:LSound P ids fid C) (hm:P.follows .mixedOrders=true) {f:Nat} {fn:Func} {K:Nat->List Nat} {ow:Bool} {pf:PFun} {c:Code} (hfn:P.funcs[fid f]?=some fn) (hbody:fn.body=some c)
  (hname:(fn.name == "runtime.NumGoroutine")=false) (hN:2*fn.ntmps<=dkey) (hcomp:comp P (ids.with ow false) fn.ntmps K c=some pf.body) (hres:qfB P fn.ntmps fn.results.toList=some pf.results) (hpn:pf.np<=fn.ntmps) (hpc:pf.catches=false)
  {args:List V} {σ σ':S} {v:V} (h:qaO C pf args σ = some (.ret v σ')):qkf P fid f args σ σ':=by
 refine⟨⟨fn,hfn,hname,by rw[hbody]; rfl⟩,fun Γ pv as px ys u hargs hσ hr hp hys hu hu'=>?_⟩
 subst hσ hargs
 simp only[qaO] at h
 split at h
 ·rename_i hcond
  obtain⟨hlen,hdf,hemp,hflat,hcn⟩:=hcond
  have hnil:pv.isNilIf=true:=by rcases hcn with h | h
                                ·rw[hpc] at h; cases h
                                ·exact h
  have hu1:=hu hnil
  subst hu1
  have hf0:=qcV (N:=fn.ntmps) hys (by omega)
  have hpos:0<dkey:=by decide
  have hk0:Fr.get ((qfO,pv)::qaG 0 as) dkey=none:=by
   simp only[Fr.get]; rw[if_neg (by decide)]; exact qea (by omega)
  have hf1:FrRep fid Γ fn.ntmps ((qfO,pv)::qaG 0 as) (ys.toArray++Array.replicate (fn.ntmps-ys.toArray.size) undef):=⟨hf0.1,fun t v ht hv=>by
   have:qfO≠t:=fun e=>by
    have h1:qfO=dkey+1:=rfl
    omega
   simp only[Fr.get,if_neg this] at hv
   exact hf0.2 t v ht hv⟩
  have fin : ∀ (e:Ex) (fr':Fr) (σ1:S),(e = .normal\/e = .ret)->run C Γ.σ.length pf.body ((qfO,pv)::qaG 0 as) Γ.σ = some (e,fr',σ1)->(∃ vs,qaH (gcL Γ.σ.length [] σ1) [] σ1=some (vs,σ')) ->
    CallsDIn Fence.wide 0 P (fid f) ys.toArray .returning Γ.w fun e u' w' => ∃ Γ' y,e = .returned y /\ Γ'.w=w' /\ Γ'.σ = σ'/\Real fid Γ'/\Step Γ Γ'/\settle u' = .returning:=by
   intro e fr' σ1 he hrun hend
   obtain⟨vs,hend⟩:=hend
   refine CallsDIn.mono (callsDIn_of_wp (F:=Fence.wide) (n:=0) (R:=fun e w' => ∃ Γ' y,e = .returned y /\ Γ'.w=w' /\ Γ'.σ = σ'/\Real fid Γ'/\Step Γ Γ') hfn hbody trivial ?_) ?_
   ·refine qaE (ro:=none) (fl:=true) (hid.with ow false) (hcr.with ow false) hC (hL.with ow false) hm hN (fun _=>rfl) c pf.body hcomp (fun _=>hflat) _ e fr' σ1 Γ [] Γ _ _ hrun
     ⟨hr,.refl _,by simp only[Fr.defs,hk0]; exact .nil _ _ _,hf1,fun _=>rfl,fun _=>hk0⟩ fun Γ1 a1 ex g1 g2 g3=>?_
    subst g1
    obtain⟨Γ',q1,q2,q3,q4⟩:=qmM g2.real g2.step hend
    have post:a1.defers=[] /\ ∃ v,(results fn a1.tmps).run P Γ1.w = .ok v Γ1.w /\ ∃ Γ' y,Ending.returned v = .returned y /\ Γ'.w = Γ1.w /\ Γ'.σ = σ'/\Real fid Γ'/\Step Γ Γ':=
     ⟨g2.still rfl,_,qeb hres hemp _ _,Γ',_,rfl,q1,q2,q3,q4⟩
    rcases he with rfl | rfl
    ·simp only[qbw] at g3; subst g3; exact post
    ·simp only[qbw] at g3; subst g3; exact post
   ·rintro e u' w' ⟨rfl,Γ',y,q1,q2,q3,q4,q5⟩
    exact⟨Γ',y,q1,q2,q3,q4,q5,rfl⟩
  split at h
  ·grind
  ·grind
  ·cases h
 ·cases h
theorem qgf (hid:Ties P ids fid) {N:Nat} {Γ : Ctx} {fr:Fr} {a:Act} {o:Oper} {neg:Bool} {x:X} {v:V} {σ':S} (hc:cOp P ids N o.op=some (.isnil false neg x)) (hr:Real fid Γ) (hf:FrRep fid Γ N fr a.tmps) (h:qaj C fr Γ.σ (.isnil false neg x)=some (v,σ')) :
  σ' = Γ.σ /\ ∃ y,(execOp a.eval o).run P Γ.w = .ok (.value y) Γ.w/\Rep fid Γ v y:=by
 have fin : ∀ {op:BinOp} {t t':TypeId} {y:Operand} (neg':Bool),(op=if neg' then .neq else .eql)->o.op = .binOp op t y (.const .nilIface) t'->(∃ ms,P.underlying t=some (.interface ms))->(∃ y',cX ids N y=some y'/\O.isnil false neg' y' = .isnil false neg x) ->
   σ' = Γ.σ /\ ∃ y,(execOp a.eval o).run P Γ.w = .ok (.value y) Γ.w/\Rep fid Γ v y:=by
  rintro op t t' y neg' hop ho ⟨ms,ht⟩ ⟨y',h1,e⟩
  cases e
  simp only[qaj] at h
  split at h
  ·rename_i u hu
   split at h
   ·rename_i b hb
    cases h
    obtain⟨g1,g2⟩:=qeU (P:=P) (qaa hid hr hf h1 hu) hb (.inl ⟨rfl,rfl,ms,ht⟩) Γ.w
    refine⟨rfl,.bool (if neg then !b else b),?_,qb1 rfl⟩
    have hρ : a.eval (.const .nilIface) = .nilIface:=rfl
    simp only[execOp,ho,hρ]
    generalize a.eval y=z at *
    subst hop
    rcases g2 with ⟨a,c,rfl,_⟩ | ⟨rfl,_⟩ | ⟨a,_,h⟩
    ·cases neg<;>simp[eqGuard,binOp,g1]
    ·cases neg<;>simp[eqGuard,binOp,g1]
    ·cases h
   ·cases h
  ·cases h
 cases ho:o.op with
 | binOp op t y z t'=>
  rw[ho] at hc
  simp only[cOp] at hc
  split at hc
  ·simp_all
  ·simp_all
  ·simp_all
  ·simp_all
  ·simp_all
  ·simp_all
  ·exfalso
   repeat' (first
    | (cases hc; done)
    | (simp only[Option.map_eq_some_iff] at hc; obtain⟨_,_,e⟩:=hc; cases e; done)
    | split at hc)
 | makeFunc fn u z=>
  exfalso
  rw[ho] at hc
  cases fn<;>simp only[cOp] at hc
  all_goals repeat' (first
   | (cases hc; done)
   | (simp only[Option.map_eq_some_iff] at hc; obtain⟨_,_,e⟩:=hc; cases e; done)
   | split at hc)
 | _=>
  exfalso
  rw[ho] at hc
  simp only[cOp] at hc
  all_goals (try simp only[qhp] at hc)
  repeat' (first
   | (cases hc; done)
   | (simp only[Option.map_eq_some_iff] at hc; obtain⟨_,_,e⟩:=hc; cases e; done)
   | (simp only[Option.map_eq_some_iff] at hc; obtain⟨_,_,e⟩:=hc; split at e<;>cases e; done)
   | (split at hc<;>first | (cases hc; done) | skip))
theorem qfK (hid:Ties P ids fid) (hcr:Codes P ids fid) (hC:CSound P fid C) (hL:LSound P ids fid C) (hm:P.follows .mixedOrders=true) {f:Nat} {fn:Func} {K:Nat->List Nat} {ow:Bool} {pf:PFun} {c:Code} (hfn:P.funcs[fid f]?=some fn) (hbody:fn.body=some c)
  (hname:(fn.name == "runtime.NumGoroutine")=false) (hN:2*fn.ntmps<=dkey) (hcomp:qhr P ids K ow false true fn.ntmps c=some pf.body) (hres:qfB P fn.ntmps fn.results.toList=some pf.results) (hpn:pf.np<=fn.ntmps)
  {args:List V} {σ σ':S} {v:V} (h:qaO C pf args σ = some (.ret v σ')):qkf P fid f args σ σ':=by
 refine⟨⟨fn,hfn,hname,by rw[hbody]; rfl⟩,fun Γ pv as px ys u hargs hσ hr hp hys hu hu'=>?_⟩
 subst hσ hargs
 simp only[qaO] at h
 split at h
 ·rename_i hcond
  obtain⟨hlen,hdf,hemp,hflat,_⟩:=hcond
  have hf0:=qcV (N:=fn.ntmps) hys (by omega)
  have hpos:0<dkey:=by decide
  have hrk:qfO=dkey+1:=rfl
  have hk0:Fr.get ((qfO,pv)::qaG 0 as) dkey=none:=by grind [Fr.get,Codes,LSound,dkey,qhr,qfB,qaO,qkf,qea]
  have hf1:FrRep fid Γ fn.ntmps ((qfO,pv)::qaG 0 as) (ys.toArray++Array.replicate (fn.ntmps-ys.toArray.size) undef):=⟨hf0.1,fun t v ht hv=>by
   have:qfO≠t:=fun e=>by omega
   simp only[Fr.get,if_neg this] at hv
   exact hf0.2 t v ht hv⟩
  have hex : ∃ e fr' σ1 vs,(e = .normal\/e = .ret)/\run C Γ.σ.length pf.body ((qfO,pv)::qaG 0 as) Γ.σ = some (e,fr',σ1)/\qaH (gcL Γ.σ.length [] σ1) [] σ1=some (vs,σ'):=by grind
  obtain⟨e,fr',σ1,vs,he,hrun,hend⟩:=hex
  unfold qhr at hcomp
  split at hcomp
  ·rename_i id ops rest _
   split at hcomp
   ·rename_i o os hops
    split at hcomp
    ·rename_i c0 ar0 at0 d is r ho hd hg his hrest
     split at hcomp
     ·rename_i hcond2
      obtain⟨hdN,htest⟩:=hcond2
      simp only[Option.some.injEq] at hcomp
      obtain⟨dst1,neg,x1,un1,his1⟩ : ∃ dst1 neg x1 un1,is=[⟨dst1,.isnil false neg x1,none,un1⟩]:=by
       unfold qiu at htest
       split at htest
       ·exact⟨_,_,_,_,rfl⟩
       ·cases htest
      subst his1
      obtain⟨o1,hos⟩ : ∃ o1,os=[o1]:=by
       cases os with
       | nil=>simp[cIs] at his
       | cons o1 os=>
        obtain⟨i,is',e1,e2,_⟩:=qdo his
        cases e1
        cases os with
        | nil=>exact⟨o1,rfl⟩
        | cons o2 os=>
         obtain⟨i,is',e1,_⟩:=qdo e2
         cases e1
      subst hos
      obtain⟨i,is',e1,e2,e3⟩:=qdo his
      cases e1
      have hcI:cI P (ids.with ow false) fn.ntmps false ops (fun _=>[]) 1 o1=some ⟨dst1,.isnil false neg x1,none,un1⟩:=by grind [Codes,LSound,dkey,qhr,qfB,qaO,qkf,qcf]
      obtain⟨q1,q2,q3,q4⟩:=qbb hcI
      have q2:dst1=o1.dst:=q2
      subst q2
      have hg1:o1.guard=none:=by grind
      have q1':cOp P (ids.with ow false) fn.ntmps o1.op=some (.isnil false neg x1):=q1
      have hop0:ops[0]?=some o:=by
       have:ops.toList[0]?=some o:=by rw[hops]; rfl
       simpa using this
      have hop1:ops[1]?=some o1:=by
       have:ops.toList[1]?=some o1:=by rw[hops]; rfl
       simpa using this
      have hsz:ops.size=2:=by
       have:ops.toList.length=2:=by rw[hops]; rfl
       simpa using this
      rw[<- hcomp] at hrun
      simp only[run,qcj,qaq,qaj,Fr.get,if_true] at hrun
      refine callsDIn_of_wpSIn (F:=Fence.wide) (n:=0) hfn hbody trivial fun c₀ cs hcu=>?_
      refine wpSIn_seq (wpSIn_region ?_)
      rw[hsz]
      show wpOpsSIn Fence.wide 0 P ops _ [0,1] _ _ _
      unfold wpOpsSIn
      simp only[hop0]
      have hexec : ∀ (a:Act) (w:World),(execOp a.eval o).run P w = .ok .recover w:=fun a w=>by
       simp only[execOp,ho,resolve,Sem.run_bind,Sem.run_pure,Result.andThen_ok,invoke,builtin]
      have hw0 : ∀ tm,Region.wanted o (yielded ops tm)=true:=fun tm=>by simp[Region.wanted,hg]
      have hw1 : ∀ tm,Region.wanted o1 (yielded ops tm)=true:=fun tm=>by simp[Region.wanted,hg1]
      refine⟨fun _ _=>trivial,?_⟩
      rw[hw0]
      simp only[if_true,hexec]
      have key : ∀ (y0:Value) (cs':List Frame) (u2:FrameMode),Rep fid Γ pv y0->cs'={ c₀ with mode:=u2 }::cs->settle u2 = .returning ->
        wpOpsSIn Fence.wide 0 P ops (Exit.thenS (rest.wpSIn Fence.wide 0 P (bodyPostS P fn c₀ cs (fun e u' w' => ∃ Γ' y,e = .returned y /\ Γ'.w=w' /\ Γ'.σ = σ'/\Real fid Γ'/\Step Γ Γ'/\settle u' = .returning))) (bodyPostS P fn c₀ cs (fun e u' w' => ∃ Γ' y,e = .returned y /\ Γ'.w=w' /\ Γ'.σ = σ'/\Real fid Γ'/\Step Γ Γ'/\settle u' = .returning)))
         [1] (Act.put { tmps:=ys.toArray++Array.replicate (fn.ntmps-ys.toArray.size) undef,defers:=[] } o.dst y0) cs' Γ.w:=by
       intro y0 cs' u2 hy0 hcs hset
       unfold wpOpsSIn
       simp only[hop1]
       refine⟨fun _ _=>trivial,?_⟩
       rw[hw1]
       simp only[if_true]
       have hat0:At fid fn.ntmps true (ids.with ow false).df Γ [] ((qfO,pv)::qaG 0 as) Γ { tmps:=ys.toArray++Array.replicate (fn.ntmps-ys.toArray.size) undef,defers:=[] }:=
        ⟨hr,.refl _,by simp only[Fr.defs,hk0]; exact .nil _ _ _,hf1,fun _=>rfl,fun _=>hk0⟩
       have hat1:=hat0.put (d:=o.dst) (v:=pv) (x:=y0) hN (fun k hk=>by rw[hd] at hk; cases hk; exact hdN) hr (.refl _) hy0
       cases hev:qaj C (Fr.put ((qfO,pv)::qaG 0 as) o.dst pv) Γ.σ (.isnil false neg x1) with
       | none=>
        exfalso
        rw[hd] at hev
        simp only[qaj] at hev
        simp only[hev] at hrun
        simp[qbg,qaq,qaj,qaP,Fr.get,hev] at hrun
       | some res=>
        obtain⟨b,σb⟩:=res
        obtain⟨rfl,y1,r1,r2⟩:=qgf (hid.with ow false) q1' hat1.real hat1.frame hev
        rw[r1]
        simp only
        unfold wpOpsSIn
        have hat2:=hat1.put (d:=o1.dst) (v:=b) (x:=y1) hN q3 hr (.refl _) r2
        have hev':=hev
        rw[hd] at hev'
        simp only[qaj] at hev'
        simp only[hev'] at hrun
        simp only[Exit.thenS]
        refine wpSIn_of_wpIn rfl ?_
        have hflr:r.flat=true:=by grind [PC.flat]
        have hat3:At fid fn.ntmps true (ids.with ow false).df Γ [] ((Fr.put (Fr.put ((qfO,pv)::qaG 0 as) o.dst pv) o1.dst b).keep (K id)) Γ ((Act.put { tmps:=ys.toArray++Array.replicate (fn.ntmps-ys.toArray.size) undef,defers:=[] } o.dst y0).put o1.dst y1):=hat2.keep (ids:=ids.with ow false) K id
        rw[hd] at hat3 ⊢
        refine qaE (ro:=none) (fl:=true) (hid.with ow false) (hcr.with ow false) hC (hL.with ow false) hm hN (fun _=>rfl) rest r hrest (fun _=>hflr) _ e fr' σ1 Γ [] Γ _ _ hrun hat3 fun Γ1 a1 ex g1 g2 g3=>?_
        subst g1
        obtain⟨Γ',z1,z2,z3,z4⟩:=qmM g2.real g2.step hend
        have post:a1.defers=[] /\ ∃ u',cs'={ c₀ with mode:=u' }::cs /\ ∃ v,(results fn a1.tmps).run P Γ1.w = .ok v Γ1.w /\ ∃ Γ' y,Ending.returned v = .returned y /\ Γ'.w = Γ1.w /\ Γ'.σ = σ'/\Real fid Γ'/\Step Γ Γ'/\settle u' = .returning:=
         ⟨g2.still rfl,u2,hcs,_,qeb hres hemp _ _,Γ',_,rfl,z1,z2,z3,z4,hset⟩
        rcases he with rfl | rfl
        ·simp only[qbw] at g3; subst g3; exact post
        ·simp only[qbw] at g3; subst g3; exact post
      cases hnil:pv.isNilIf with
      | true=>
       have hu1:=hu hnil
       have hrec:recoverD (c₀ :: cs)=none:=by simp[recoverD,hcu,hu1]
       rw[hrec]
       have hpv:pv = .dat (.lit .nilIface):=by grind [V.isNilIf]
       refine key .nilIface (c₀ :: cs) u (by rw[hpv]; exact qb1 rfl) ?_ (by rw[hu1]; rfl)
       subst hcu; rfl
      | false=>
       have hu1:=hu' hnil
       have hrec:recoverD (c₀ :: cs)=some (px,{ c₀ with mode := .panicking [{ v:=px,recovered:=true }] }::cs):=by simp[recoverD,hcu,hu1]
       rw[hrec]
       exact key px _ (.panicking [{ v:=px,recovered:=true }]) hp rfl rfl
     ·cases hcomp
    ·cases hcomp
   ·cases hcomp
  ·cases hcomp
  ·rename_i h1; cases h1
 ·cases h
theorem qeH (hid:Ties P ids fid) (hcr:Codes P ids fid) (hC:CSound P fid C) (hL:LSound P ids fid C) (hm:P.follows .mixedOrders=true) {f:Nat} {fn:Func} {K:Nat->List Nat} {ns ow df ca:Bool} {pf:PFun} (hfn:P.funcs[fid f]?=some fn) (hc:compF P ids K ns ow df ca fn=some pf) :
  (∀ args σ v σ',ca=false->qa3 C pf args σ = some (.ret v σ')->qgc P fid f args σ v σ') /\ ∀ args σ v σ',qaO C pf args σ = some (.ret v σ')->qkf P fid f args σ σ':=by
 unfold compF at hc
 split at hc
 ·rename_i c hbody
  split at hc
  ·rename_i body rs hcomp hres
   split at hc
   ·rename_i hcond
    cases hc
    obtain⟨c1,c2,c3,c4⟩:=hcond
    have hname:(fn.name == "runtime.NumGoroutine")=false:=by simpa using c3
    cases ca with
    | false=>
     have hcomp':comp P (ids.with ow df) fn.ntmps K c=some body:=by
      simpa only [qhr] using hcomp
     refine⟨fun args σ v σ' _ h=>qge hid hcr hC hL hm hfn hbody hname c2 hcomp' hres c1 rfl h,fun args σ v σ' h=>?_⟩
     have hdf:df=false:=by
      unfold qaO at h
      split at h
      ·grind
      ·cases h
     subst hdf
     exact qfJ hid hcr hC hL hm hfn hbody hname c2 hcomp' hres c1 rfl h
    | true=>
     have hdf:=c4 rfl
     subst hdf
     exact⟨fun _ _ _ _ h=>by (cases h),fun args σ v σ' h=>qfK hid hcr hC hL hm hfn hbody hname c2 hcomp hres c1 h⟩
   ·cases hc
  ·cases hc
 ·cases hc
end
def Tied (P:Program) (ids:Ids) (fid:Fid) (prog:Nat->Option PFun):Prop:=
 ∀ f pf,prog f=some pf -> ∃ fn K ns ow df,P.funcs[fid f]?=some fn/\compF P ids K ns ow df pf.catches fn=some pf
theorem qiB {r:Nat->Nat} {fr:Fr}:(qgh r fr).defs=qbH r fr.defs:=by
 have hg : ∀ fr:Fr,(qgh r fr).get dkey=(fr.get dkey).map (V.ren r):=fun fr=>by
  induction fr with
  | nil=>rfl
  | cons p fr ih=>
   obtain⟨k,v⟩:=p
   simp only[qgh,Fr.get]
   split
   ·rfl
   ·exact ih
 simp only[Fr.defs,hg]
 cases fr.get dkey with
 | none=>rfl
 | some v=>cases v<;>rfl
theorem qhH {fr:Fr} : ∀ l∈qai fr.defs,l∈qbe fr:=by
 intro l hl
 simp only[Fr.defs] at hl
 split at hl
 ·rename_i vs hg
  have key : ∀ fr:Fr,fr.get dkey=some (.tup vs)->l∈qbe fr:=fun fr=>by
   induction fr with
   | nil=>intro h; simp[Fr.get] at h
   | cons p fr ih=>
    obtain⟨k,v⟩:=p
    intro h
    simp only[Fr.get] at h
    simp only[qbe,List.mem_append]
    split at h
    ·cases h; exact .inl (by simpa only [V.locs] using hl)
    ·exact .inr (ih h)
  exact key fr hg
 ·cases hl
theorem qfL {N:Nat} {fl df:Bool} {Γ0 Γ : Ctx} {ds0:List Deferred} {fr fr1:Fr} {σ1:S} {a:Act} (hat:At fid N fl df Γ0 ds0 fr Γ a) (h:gcF Γ0.σ.length fr Γ.σ = some (fr1,σ1)) :
  ∃ Γ1:Ctx,Γ1.σ = σ1 /\ Γ1.w = Γ.w/\At fid N fl df Γ0 ds0 fr1 Γ1 a:=by
 unfold gcF at h
 simp only at h
 split at h
 ·rename_i vs σs hres
  split at h
  ·rename_i hin
   simp only[Option.some.injEq,Prod.mk.injEq] at h
   obtain⟨rfl,rfl⟩:=h
   obtain⟨t1,t2,t3,t4,t5,t6⟩:=qar hat.real hres
   refine⟨Γ.part _ σs,rfl,rfl,⟨t5,qbV hat.step t1 t2 t4 (qdr _ _ _),?_,FrRep.ren t4 (qdw hin) hat.frame,hat.still,fun hd=>?_⟩⟩
   ·obtain⟨is,ds',m1,m2,m3,m4⟩:=hat.marks
    have ren : ∀ {is:List DI} {ds:List Deferred},DIReps fid Γ0 Γ is ds->(∀ l∈qai (qaU is),l∈gcL Γ0.σ.length (qbe fr) Γ.σ) ->
      ∃ is',DIReps fid Γ0 (Γ.part (gcL Γ0.σ.length (qbe fr) Γ.σ) σs) is' ds/\qbx is'=qbx is/\qaU is'=qbH (idx (gcL Γ0.σ.length (qbe fr) Γ.σ)) (qaU is):=by
     intro is
     induction is with
     | nil=>intro ds h _; exact⟨[],h,rfl,rfl⟩
     | cons i is ih=>
      intro ds h hl
      obtain⟨d,r,h1,h2,h3⟩:=h
      cases i with
      | m D=>
       obtain⟨is',a1,a2,a3⟩:=ih h3 hl
       refine⟨.m D::is',⟨d,r,h1,⟨h2.1,h2.2.1,h2.2.2.1,fun l hl=>?_⟩,a1⟩,by simp[qbx,a2],a3⟩
       simp only[Ctx.part] at hl
       cases hl':(gcL Γ0.σ.length (qbe fr) Γ.σ)[l]? with
       | none=>rw[hl'] at hl; cases hl
       | some l'=>rw[hl'] at hl; exact h2.2.2.2 l' hl
      | c v=>
       simp only[qaU,qai,List.mem_append] at hl
       obtain⟨is',a1,a2,a3⟩:=ih h3 (fun l h=>hl l (.inr h))
       obtain⟨id,as,cap,ys,q1,q2,q3⟩:=h2
       subst q1
       refine⟨.c (.fn id (qbH (idx (gcL Γ0.σ.length (qbe fr) Γ.σ)) as) [])::is',⟨d,r,h1,⟨id,_,cap,ys,rfl,q2,Reps.ren t4 as _ (fun l hl'=>hl l (.inl (by simp[V.locs,hl']))) q3⟩,a1⟩,a2,by simp[qaU,qbH,V.ren,a3]⟩
    obtain⟨is',a1,a2,a3⟩:=ren m2 (fun l hl=>qdw hin l (qhH l (by rw[m4] at hl; exact hl)))
    exact⟨is',ds',m1,a1,by rw[a2]; exact m3,by rw[a3,m4,qiB]⟩
   ·have:=hat.nod hd
    cases hg:(qgh (idx (gcL Γ0.σ.length (qbe fr) Γ.σ)) fr).get dkey with
    | none=>rfl
    | some v=>
     obtain⟨u,h1,_⟩:=qfo hg
     rw[this] at h1; cases h1
  ·cases h
 ·cases h
theorem qeI (hid:Ties P ids fid) (hcr:Codes P ids fid) (hm:P.follows .mixedOrders=true) {prog:Nat->Option PFun} (ht:Tied P ids fid prog) : ∀ n,CSound P fid (qa5 prog n)/\LSound P ids fid (qa5 prog n)
 | 0=>⟨⟨fun f args σ v σ' h=>by simp[qa5] at h,fun f args σ v σ' h=>by simp[qa5] at h,fun args σ v σ' h=>by simp[qa5] at h⟩,fun k b fr σ e fr' σ' h=>by simp[qa5] at h⟩
 | n+1=>by
  obtain⟨hC,hL⟩:=qeI hid hcr hm ht n
  refine⟨⟨fun f args σ v σ' h=>?_,fun f args σ v σ' h=>?_,fun args σ v σ' h=>?_⟩,fun k b fr σ e fr' σ' h=>?_⟩
  ·grind [qa5,Codes,Tied,LSound,qeH]
  ·grind [qa5,Codes,Tied,LSound,qeH]
  ·grind [qa5,Codes,Tied,LSound,qgd]
  ·simp only[qa5] at h
   split at h
   ·rename_i fr0 σ0 hgc
    split at h
    ·rename_i fr1 σ1 hrun
     obtain⟨m,hs⟩:=hL _ _ _ _ _ _ _ h
     refine⟨m+1,fun N K ow d c ro fl hc hN hro hfl Γ0 ds0 Γ a Q hk0 hσ hat hk=>?_⟩
     subst hσ hk0
     obtain⟨Γ',rfl,e2,hat'⟩:=qfL hat hgc
     rw[roundsIn_succ,<- e2]
     refine qaE (hid.with ow d) (hcr.with ow d) hC (hL.with ow d) hm hN hro c b hc hfl fr0 .normal fr1 σ1 Γ0 ds0 Γ' a _ hrun hat' fun Γ1 a1 ex g1 g2 g3=>?_
     simp only[qbw] at g3; subst g3
     exact hs N K ow d c ro fl hc hN hro hfl Γ0 ds0 Γ1 a1 Q rfl g1 g2 hk
    ·rename_i e1 fr1 σ1 hne hrun
     simp only[Option.some.injEq,Res.out.injEq] at h
     obtain⟨rfl,rfl,rfl⟩:=h
     refine⟨1,fun N K ow d c ro fl hc hN hro hfl Γ0 ds0 Γ a Q hk0 hσ hat hk=>?_⟩
     subst hσ hk0
     obtain⟨Γ',rfl,e2,hat'⟩:=qfL hat hgc
     rw[roundsIn_succ,<- e2]
     refine qaE (hid.with ow d) (hcr.with ow d) hC (hL.with ow d) hm hN hro c b hc hfl fr0 e1 fr1 σ1 Γ0 ds0 Γ' a _ hrun hat' fun Γ1 a1 ex g1 g2 g3=>?_
     have:=hk Γ1 a1 ex g1 g2 g3
     cases e1 with
     | normal=>exact (hne rfl).elim
     | exit id=>simp only[qbw] at g3; subst g3; exact this
     | ret=>simp only[qbw] at g3; subst g3; exact this
     | pan v=>simp only[qbw] at g3; obtain⟨x,rfl,_⟩:=g3; exact this
    ·cases h
   ·cases h
end Go.Pm
end SR
