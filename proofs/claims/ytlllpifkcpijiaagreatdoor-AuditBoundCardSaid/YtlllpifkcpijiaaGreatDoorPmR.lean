/- Functions; the whole run. -/
import Derived.Test.YtlllpifkcpijiaaGreatDoorPmM
set_option linter.unusedSimpArgs false
set_option linter.unusedVariables false
namespace Go.Pm
section
variable{P:Program}{ids:Ids}{fid:Fid}
section
variable{C:Task->Option Res}{ro:Option Nat}
theorem qkE {Γ0 Γ1:Ctx} {D:Nat} (hr:Real fid Γ1) (hs:Step Γ0 Γ1) (hD:MarkAt Γ0 Γ1 D) :
  Real fid ⟨Γ1.σ,Γ1.μ,Γ1.F,Γ1.w.putObj D (.deferred none)⟩/\Step Γ0 ⟨Γ1.σ,Γ1.μ,Γ1.F,Γ1.w.putObj D (.deferred none)⟩/\Ext Γ1 ⟨Γ1.σ,Γ1.μ,Γ1.F,Γ1.w.putObj D (.deferred none)⟩ /\
   ∀ k,k≠D->(Γ1.w.putObj D (.deferred none)).heap[k]? = Γ1.w.heap[k]?:=by
 obtain⟨d1,d2,d3⟩:=hD
 have hF : Γ1.F D=0:=by
  rcases Nat.eq_zero_or_pos (Γ1.F D) with h|h
  ·exact h
  ·obtain⟨arr,e,fz,h1,_⟩:=hr.imm D h
   rw[d2] at h1; cases h1
 have hother : ∀ k,k≠D->(Γ1.w.putObj D (.deferred none)).heap[k]? = Γ1.w.heap[k]?:=fun k hk=>World.putObj_heap_other hk
 have hext:Ext Γ1 ⟨Γ1.σ,Γ1.μ,Γ1.F,Γ1.w.putObj D (.deferred none)⟩:=by
  refine⟨by simp,rfl,rfl,rfl,fun _=>Nat.le_refl _,fun b i v hi hv=>?_,fun b arr e hb ha=>⟨arr,?_,rfl⟩,Nat.le_refl _,fun _ ob h ht=>⟨⟨ob,h,ht⟩,fun _ h=>h⟩,fun _ m h=>⟨m,h,Nat.le_refl _,fun h=>h,fun _ _ h=>h⟩,
   qdC fun l ob h _ => .inl ⟨h,fun b hb=>⟨hb,rfl,fun arr e ha=>(hother b fun e=>by subst e; exact d3 l hb).trans ha⟩⟩⟩
  ·rw[cell?_of_block (hother b fun e=>by subst e; omega)]; exact hv
  ·rw[hother b fun e=>by subst e; omega]; exact ha
 have hreal:Real fid ⟨Γ1.σ,Γ1.μ,Γ1.F,Γ1.w.putObj D (.deferred none)⟩:=by
  refine⟨fun l ob b h1 h2=>RepOb.ext hext (hother b fun e=>by subst e; exact d3 l h2) rfl ob (hr.obs l ob b h1 h2),fun l b h=>?_,hr.inj,fun b hb=>?_,Glb.ext hext hr.glb⟩
  ·have:=hr.dom l b h
   exact⟨this.1,by simpa using this.2⟩
  ·obtain⟨a,t,fz,h1,h2⟩:=hr.imm b hb
   have hb':0 < Γ1.F b:=hb
   exact⟨a,t,fz,by rw[hother b fun e=>by subst e; omega]; exact h1,h2⟩
 refine⟨hreal,⟨hs.ext.trans hext,⟨fun b hb hno=>?_,hs.frm.new⟩,hs.non⟩,hext,hother⟩
 have:=hs.frm.same b hb hno
 exact⟨(hother b (by omega)).trans this.1,this.2⟩
theorem DIReps.off{Γ0 Γ1 Γ2:Ctx}{D:Nat}(hext:Ext Γ1 Γ2)(hμ : Γ2.μ = Γ1.μ)(hother : ∀ k,k≠D -> Γ2.w.heap[k]? = Γ1.w.heap[k]?) : ∀ {is:List DI} {ds:List Deferred},D∉qb6 is->DIReps fid Γ0 Γ1 is ds->DIReps fid Γ0 Γ2 is ds
 |[],ds,_,h=>h
 |.m D'::is,ds,hn,⟨d,r,h1,h2,h3⟩=>by
  simp only[qb6,List.mem_cons,not_or] at hn
  exact⟨d,r,h1,⟨h2.1,h2.2.1,(hother D' (Ne.symm hn.1)).trans h2.2.2.1,by rw[hμ]; exact h2.2.2.2⟩,DIReps.off hext hμ hother hn.2 h3⟩
 |.c v::is,ds,hn,⟨d,r,h1,h2,h3⟩=>by
  obtain⟨id,as,cap,ys,q1,q2,q3⟩:=h2
  exact⟨d,r,h1,⟨id,as,cap,ys,q1,q2,Reps.ext hext _ _ q3⟩,DIReps.off hext hμ hother hn h3⟩
theorem qc5 (hC:CSound P fid C) {fn:Func} {R:Ending->World->Prop} {N:Nat} {fr:Fr} {tmps:Array Value} {Γ0:Ctx} {σ2:S} : ∀ (is:List DI) (ds:List Deferred) (Γ1:Ctx),DIReps fid Γ0 Γ1 is ds->(qb6 is).Nodup->Real fid Γ1->Step Γ0 Γ1->FrRep fid Γ1 N fr tmps ->
  qaS C (qbc is) Γ1.σ = some σ2 ->
  (∀ Γ',Γ'.σ = σ2->Real fid Γ'->Step Γ0 Γ'->FrRep fid Γ' N fr tmps -> ∃ v,(results fn tmps).run P Γ'.w = .ok v Γ'.w/\R (.returned v) Γ'.w) ->
  LeavesInM Fence.wide 0 P fn tmps R ds .returning Γ1.w
 |[],ds,Γ1,hd,_,hr,hs,hf,h,hk=>by
  simp only[DIReps] at hd; subst hd
  simp only[qbc,qaS,Option.some.injEq] at h
  exact hk Γ1 h hr hs hf
 |.m D::is,ds,Γ1,hd,hn,hr,hs,hf,h,hk=>by
  obtain⟨d,r,rfl,⟨rfl,hD⟩,hd'⟩:=hd
  obtain⟨n1,n2⟩:=List.nodup_cons.1 hn
  obtain⟨a1,a2,a3,a4⟩:=qkE hr hs hD
  have ih:=qc5 hC (fn:=fn) (R:=R) is r ⟨Γ1.σ,Γ1.μ,Γ1.F,Γ1.w.putObj D (.deferred none)⟩ (DIReps.off a3 rfl a4 n1 hd') n2 a1 a2 (hf.ext a3) h hk
  simp only[LeavesInM]
  exact⟨by simp,.inl ⟨D,_,rfl,run_takeDeferred hD.2.1,ih⟩⟩
 |.c v::is,ds,Γ1,hd,hn,hr,hs,hf,h,hk=>by
  obtain⟨d,r,rfl,⟨id,as,cap,ys,rfl,rfl,hargs⟩,hd'⟩:=hd
  simp only[qbc,qaS] at h
  split at h
  ·rename_i v1 σ1 hcall
   have hnil:Rep fid Γ1 (.dat (.lit .nilIface)) .nilIface:=qcq rfl
   obtain⟨k1,k2⟩:=qem (u := .returning) hC hr hnil hargs (fun _=>rfl) (fun h=>by cases h) hcall
   have harr:(ys.toList++cap.toList).toArray=ys++cap:=by simp
   rw[harr] at k2
   simp only[LeavesInM]
   refine⟨by simp,.inr ⟨fun h=>by simp[Fence.wide] at h,.func (fid id),cap,fid id,ys++cap,rfl,?_,fun _ _=>trivial,CallsDIn.mono k2 ?_⟩⟩
   ·simp only[invoke]; exact qaR k1 _ _
   ·rintro e u' w' ⟨Γ',y,rfl,rfl,rfl,q1,q2,q3⟩
    show LeavesInM Fence.wide 0 P fn tmps R r (settle u') Γ'.w
    rw[q3]
    exact qc5 hC is r Γ' (hd'.step q2) hn q1 (hs.trans q2) (hf.ext q2.ext) h hk
  ·cases h
theorem qfd (hC:CSound P fid C) {fn:Func} {R:Ending->World->Prop} {N:Nat} {fr:Fr} {tmps:Array Value} {Γ0:Ctx} {pv:V} {x:Value} : ∀ (is:List DI) (ds:List Deferred) (Γ1:Ctx),DIReps fid Γ0 Γ1 is ds->(qb6 is).Nodup->Real fid Γ1->Step Γ0 Γ1->FrRep fid Γ1 N fr tmps->Rep fid Γ1 pv x ->
  ((qbc is=[] /\ ∀ Γ',Γ'.σ = Γ1.σ -> Real fid Γ'->Step Γ0 Γ'->Rep fid Γ' pv x->R (.panicked [{ v:=x,recovered:=false }]) Γ'.w) \/
   (∃ id as r v1 σ1 σ2,qbc is = .fn id as []::r/\pv.isNilIf=false/\qaW C (.dcall id) (pv::as) Γ1.σ = some (v1,σ1)/\qaS C r σ1=some σ2 /\
    ∀ Γ',Γ'.σ = σ2->Real fid Γ'->Step Γ0 Γ'->FrRep fid Γ' N fr tmps -> ∃ v,(results fn tmps).run P Γ'.w = .ok v Γ'.w/\R (.returned v) Γ'.w)) ->
  LeavesInM Fence.wide 0 P fn tmps R ds (.panicking [{ v:=x,recovered:=false }]) Γ1.w
 |[],ds,Γ1,hd,_,hr,hs,hf,hx,h=>by
  simp only[DIReps] at hd; subst hd
  rcases h with ⟨_,h⟩|⟨id,as,r,v1,σ1,σ2,h,_⟩
  ·simp only[LeavesInM,LeavesIn]; exact h Γ1 rfl hr hs hx
  ·simp[qbc] at h
 |.m D::is,ds,Γ1,hd,hn,hr,hs,hf,hx,h=>by
  obtain⟨d,r,rfl,⟨rfl,hD⟩,hd'⟩:=hd
  obtain⟨n1,n2⟩:=List.nodup_cons.1 hn
  obtain⟨a1,a2,a3,a4⟩:=qkE hr hs hD
  have ih:=qfd hC (fn:=fn) (R:=R) is r ⟨Γ1.σ,Γ1.μ,Γ1.F,Γ1.w.putObj D (.deferred none)⟩ (DIReps.off a3 rfl a4 n1 hd') n2 a1 a2 (hf.ext a3) (Rep.ext a3 _ _ hx) h
  simp only[LeavesInM]
  exact⟨by simp,.inl ⟨D,_,rfl,run_takeDeferred hD.2.1,ih⟩⟩
 |.c v::is,ds,Γ1,hd,hn,hr,hs,hf,hx,h=>by
  obtain⟨d,r,rfl,⟨id,as,cap,ys,rfl,rfl,hargs⟩,hd'⟩:=hd
  rcases h with ⟨h,_⟩|⟨id',as',r',v1,σ1,σ2,h,hnil,hcall,hrest,hk⟩
  ·simp[qbc] at h
  ·simp only[qbc,List.cons.injEq,V.fn.injEq] at h
   obtain⟨⟨rfl,rfl,_⟩,rfl⟩:=h
   obtain⟨k1,k2⟩:=qem (u := .panicking [{ v:=x,recovered:=false }]) hC hr hx hargs (fun h=>by rw[hnil] at h; cases h) (fun _=>rfl) hcall
   have harr:(ys.toList++cap.toList).toArray=ys++cap:=by simp
   rw[harr] at k2
   simp only[LeavesInM]
   refine⟨by simp,.inr ⟨fun h=>by simp[Fence.wide] at h,.func (fid id),cap,fid id,ys++cap,rfl,?_,fun _ _=>trivial,CallsDIn.mono k2 ?_⟩⟩
   ·simp only[invoke]; exact qaR k1 _ _
   ·rintro e u' w' ⟨Γ',y,rfl,rfl,rfl,q1,q2,q3⟩
    show LeavesInM Fence.wide 0 P fn tmps R r (settle u') Γ'.w
    rw[q3]
    exact qc5 hC is r Γ' (hd'.step q2) hn q1 (hs.trans q2) (hf.ext q2.ext) hrest hk
theorem qj1(hid:Ties P ids fid)(hcr:Codes P ids fid)(hC:CSound P fid C)(hL:LSound P ids fid C)(hm:P.follows .mixedOrders=true){args:List V}{σ σ':S}{v:V}(h:qbg C args σ = some (.ret v σ')):qhH P fid args σ v σ':=by
 intro Γ xs hσ hr hargs
 subst hσ
 unfold qbg at h
 split at h
 ·rename_i l vs
  simp only[Reps] at hargs
  obtain⟨x,ys,rfl,hy,hvs⟩:=hargs
  simp only[Rep] at hy
  obtain⟨b,hb,rfl,_⟩:=hy
  split at h
  ·rename_i lp hlp
   split at h
   ·rename_i hcond
    obtain⟨hlen,hst,hflat,hnod⟩:=hcond
    have hnod:(qdf lp.fr lp.ps vs).get dkey=none:=by simpa using hnod
    have hnodefs:(qdf lp.fr lp.ps vs).defs=[]:=by simp[Fr.defs,hnod]
    simp only[Bool.and_eq_true] at hflat
    obtain⟨L,q1,q2,q3,_,⟨N,c1,c2,c3,c4⟩,_⟩:=qfv hr hlp hb
    obtain⟨hN,K1,ow1,d1,c1⟩:=(hcr _ _ _).1 c1
    obtain⟨_,K2,ow2,d2,c2⟩:=(hcr _ _ _).1 c2
    have hsz:ys.toArray.size=L.params.size:=by grind [Codes,LSound,qbg,qhH,Reps.length]
    refine⟨l,b,ys,L.fn,_,L.assign,L.body,rfl,rfl,run_yield q1 hsz,?_⟩
    split at h
    ·rename_i fr1 σ1 hrun1
     split at h
     ·rename_i lp1 hlp1
      split at h
      ·rename_i hst1
       obtain⟨hst1,hd1⟩:=hst1
       have hd1:fr1.get dkey=none:=by simpa using hd1
       split at h
       ·cases h
       ·rename_i e fr2 σ2 hnpan hrun2
        split at h
        ·rename_i lp2 hlp2
         split at h
         ·rename_i vs3 σ3 hres
          simp only[Option.some.injEq,Res.ret.injEq] at h
          obtain⟨rfl,rfl⟩:=h
          have hfr:FrRep fid Γ N (qdf lp.fr lp.ps vs) ((L.params.zip ys.toArray).foldl (fun t (p,v)=>t.setIfInBounds p v) L.tmps):=by
           have:=qhx (ps:=L.params.toList) (vs:=vs) (ys:=ys) c4 (by rw[q2]; exact c3) hvs
           rw[q2] at this
           rw[<- Array.foldl_toList,Array.toList_zip,q2]
           exact this
          refine roundIn_of_wpIn (F:=Fence.wide) trivial ?_
          refine qaZ (ro:=some b) (fl:=true) (hid.with ow1 d1) (hcr.with ow1 d1) hC (hL.with ow1 d1) hm hN (fun _=>rfl) L.assign lp.assign c1 (fun _=>hflat.1) _ .normal fr1 σ1 Γ [] Γ _ _ hrun1 ⟨hr,.refl _,by rw[hnodefs]; exact .nil _ _ _,hfr,fun _=>rfl,fun _=>hnod⟩ fun Γ1 a1 ex g1 g2 g3=>?_
          subst g1
          simp only[qb5] at g3
          subst g3
          have hb1 : Γ1.μ l=some b:=(g2.step.ext.fix l _ hlp rfl).2 b hb
          obtain⟨L1,u1,_,u3,_,_,u6⟩:=qfv g2.real hlp1 hb1
          obtain⟨r2,s2⟩:=u6 1 lp1.pend .busy (lp1.pend.map Ex.code) rfl rfl
          have u4:L1.pending=lp1.pend.map Ex.code:=by grind
          have hL1:({ L1 with state:=LoopState.busy }:Loop)={ L1 with state := .busy,pending:=lp1.pend.map Ex.code }:=by rw[<- u4]
          refine⟨_,run_beginRound u1 (by rw[u3,hst1]; rfl),?_⟩
          rw[hL1]
          refine qaZ (ro:=some b) (fl:=true) (hid.with ow2 d2) (hcr.with ow2 d2) hC (hL.with ow2 d2) hm hN (fun _=>rfl) L.body lp.body c2 (fun _=>hflat.2) fr1 e fr2 σ2 Γ [] _ a1 _ hrun2 ⟨r2,g2.step.trans s2,g2.marks.step s2,g2.frame.ext s2.ext,g2.still,fun _=>hd1⟩ fun Γ3 a3 ex g3 g4 g5=>?_
          subst g3
          have hb3 : Γ3.μ l=some b:=(g4.step.ext.fix l _ hlp rfl).2 b hb
          obtain⟨L3,w1,_,_,_,_,w6⟩:=qfv g4.real hlp2 hb3
          have fin : ∀ (st:Nat) (pe:Option Ex) (j:Option Code) (bl:Bool),lp2.ended e={ lp2 with st:=st,pend:=pe }->j=pe.map Ex.code->bl=j.isNone->(if j.isNone then LoopState.ready else .done)=qto st ->
            ∃ v w',(Instr.endRound b j).run P Γ3.w = .ok v w' /\ ∃ Γ' x,Ending.returned v = .returned x /\ Γ'.w=w' /\ Γ'.σ = σ3/\Real fid Γ'/\Step Γ Γ'/\Rep fid Γ' (.bool bl) x:=by
           intro st pe j bl he hj hbl hstt
           subst hbl
           obtain⟨r4,s4⟩:=w6 st pe _ j hstt hj
           rw[he] at hres
           obtain⟨t1,t2,t3,t4,t5,t6⟩:=qaI r4 hres
           refine⟨_,_,run_endRound j w1,Ctx.part _ _ σ3,_,rfl,rfl,rfl,t5,qcH (g4.step.trans s4) t1 t2 t4 (qeS _ _ _),?_⟩
           simp[Rep,RepD,qa4]
          cases e with
          |normal=>simp only[qb5] at g5; subst g5; exact fin 0 none none true rfl rfl rfl rfl
          |exit id=>simp only[qb5] at g5; subst g5; exact fin 2 (some (.exit id)) (some (.exit id)) false rfl rfl rfl rfl
          |ret=>simp only[qb5] at g5; subst g5; exact fin 2 (some .ret) (some .ret) false rfl rfl rfl rfl
          |pan v=>exact (hnpan _ rfl).elim
         ·cases h
        ·cases h
       ·cases h
      ·cases h
     ·cases h
    ·cases h
   ·cases h
  ·cases h
 ·cases h
theorem qfe {fn:Func} {pf:PFun} {N:Nat} {Γ Γ2:Ctx} {fr':Fr} {tmps:Array Value} {v:V} {σ':S} (hres:qik P N fn.results.toList=some pf.results) (k2:Real fid Γ2) (k3:Step Γ Γ2) (k4:FrRep fid Γ2 N fr' tmps)
  (hfinish:qbt pf Γ.σ.length fr' Γ2.σ = some (.ret v σ')) : ∃ y,(results fn tmps).run P Γ2.w = .ok y Γ2.w /\ ∃ Γ',Γ'.w = Γ2.w /\ Γ'.σ = σ'/\Real fid Γ'/\Step Γ Γ'/\Rep fid Γ' v y:=by
 unfold qbt at hfinish
 split at hfinish
 ·rename_i vs0 hvs0
  obtain⟨ys,r1,r2⟩:=qeh k2 k4 hres hvs0
  have hres':(results fn tmps).run P Γ2.w = .ok (if h:ys.length=1 then ys[0] else .tuple ys.toArray) Γ2.w:=by
   rw[qhw]
   simp only[Sem.run_bind]
   rw[Array.mapM_eq_mapM_toList]
   simp only[Sem.run_map]
   rw[r1]
   simp only[Result.andThen_ok,Sem.run_pure]
   simp
  have plain : ∀ {vs:List V},Reps fid Γ2 vs ys->finishV Γ.σ.length vs Γ2.σ = some (.ret v σ') -> ∃ (Γ':Ctx) (vs':List V),Γ'.σ = σ' /\ Γ'.w = Γ2.w/\Real fid Γ'/\Step Γ Γ'/\Reps fid Γ' vs' ys/\v=one vs':=by
   intro vs hvs hfin
   unfold finishV at hfin
   split at hfin
   ·rename_i vs' σs hrestrict
    simp only[Option.some.injEq,Res.ret.injEq] at hfin
    obtain⟨rfl,rfl⟩:=hfin
    obtain⟨t1,t2,t3,t4,t5,t6⟩:=qaI k2 hrestrict
    exact⟨Γ2.part _ σs,vs',rfl,rfl,t5,qcH k3 t1 t2 t4 (qeS _ _ _),t6 ys hvs,rfl⟩
   ·cases hfin
  have hout : ∃ (Γ':Ctx) (vs':List V),Γ'.σ = σ' /\ Γ'.w = Γ2.w/\Real fid Γ'/\Step Γ Γ'/\Reps fid Γ' vs' ys/\v=one vs':=by grind [finishV,qik,FrRep,qbt,Rep,qmd,qeS,qmp]
  obtain⟨Γ',vs',e1,e2,e3,e4,r3,rfl⟩:=hout
  ·refine⟨_,hres',Γ',e2,e1,e3,e4,?_⟩
   have hl:=Reps.length r3
   cases vs' with
   |nil=>
    simp only[Reps] at r3; subst r3
    simp only[one,Rep]
    exact⟨[],by simp,rfl⟩
   |cons v1 rest=>
    cases rest with
    |nil=>
     simp only[Reps] at r3
     obtain⟨y,ys',rfl,k1,rfl⟩:=r3
     simpa [one] using k1
    |cons v2 rest=>
     have : ¬ ys.length=1:=by rw[hl]; simp
     rw[dif_neg this]
     simp only[one,Rep]
     exact⟨ys,rfl,r3⟩
 ·cases hfinish
theorem qd8{N:Nat}{Γ : Ctx}{args:List V}{xs:List Value}(hargs:Reps fid Γ args xs)(hle:args.length<=N):FrRep fid Γ N (qaV 0 args) (xs.toArray++Array.replicate (N-xs.toArray.size) undef):=by
 have hxl:=Reps.length hargs
 refine⟨by simp; omega,fun t u ht hu=>?_⟩
 obtain⟨_,h2⟩:=qeg hu
 obtain⟨x,h3,h4⟩:=qlm hargs h2
 have:(xs.toArray++Array.replicate (N-xs.toArray.size) undef).getD t undef=x:=by
  have hlt:=(List.getElem?_eq_some_iff.1 h3).1
  rw[Array.getD_eq_getD_getElem?,Array.getElem?_append_left (by simpa using hlt)]
  simp only[Nat.sub_zero] at h3
  simp[h3]
 rw[this]; exact h4
theorem qgb{args:List V}{k:Nat}(h:args.length<=k):(qaV 0 args).get k=none:=by
 cases hg:(qaV 0 args).get k with
 |none=>rfl
 |some v=>
  obtain⟨_,h2⟩:=qeg hg
  have:=(List.getElem?_eq_some_iff.1 h2).1
  omega
theorem qj2 (hid:Ties P ids fid) (hcr:Codes P ids fid) (hC:CSound P fid C) (hL:LSound P ids fid C) (hm:P.follows .mixedOrders=true) {f:Nat} {fn:Func} {K:Nat->List Nat} {ow df:Bool} {pf:PFun} {c:Code} (hfn:P.funcs[fid f]?=some fn) (hbody:fn.body=some c)
  (hname:(fn.name == "runtime.NumGoroutine")=false) (hN:2*fn.ntmps<=dkey) (hcomp:comp P (ids.with ow df) fn.ntmps K c=some pf.body) (hres:qik P fn.ntmps fn.results.toList=some pf.results) (hpn:pf.np<=fn.ntmps) (hpd:pf.df=df)
  {args:List V} {σ σ':S} {v:V} (h:qa0 C pf args σ = some (.ret v σ')):qjK P fid f args σ v σ':=by
 unfold qa0 at h
 split at h
 ·rename_i hlen
  refine⟨⟨fn,hfn,hname,by rw[hbody]; rfl⟩,fun Γ xs hσ hr hargs=>?_⟩
  subst hσ
  have hf0:=qd8 (N:=fn.ntmps) hargs (by omega)
  have hpos:0<dkey:=by decide
  have hk0:(qaV 0 args).get dkey=none:=qgb (by omega)
  refine callsIn_of_wp_marks (F:=Fence.wide) hfn hbody trivial ?_
  have fin : ∀ (e:Ex) (fr':Fr) (σ1:S),run C Γ.σ.length pf.body (qaV 0 args) Γ.σ = some (e,fr',σ1) ->
    (∀ Γ1 a1 ex,Γ1.σ = σ1->At fid fn.ntmps false df Γ [] fr' Γ1 a1->qb5 fid Γ1 e ex->bodyPostM Fence.wide 0 P fn (fun e w' => ∃ Γ',Γ'.w=w' /\ Γ'.σ = σ'/\Real fid Γ'/\Step Γ Γ'/\qtu fid Γ' v e) ex a1 Γ1.w) ->
    c.wpIn Fence.wide 0 P (bodyPostM Fence.wide 0 P fn (fun e w' => ∃ Γ',Γ'.w=w' /\ Γ'.σ = σ'/\Real fid Γ'/\Step Γ Γ'/\qtu fid Γ' v e)) { tmps:=xs.toArray++Array.replicate (fn.ntmps-xs.toArray.size) undef,defers:=[] } Γ.w:=by
   intro e fr' σ1 hrun hk
   exact qaZ (ro:=none) (fl:=false) (hid.with ow df) (hcr.with ow df) hC (hL.with ow df) hm hN (fun h=>by simp at h) c pf.body hcomp (fun h=>by cases h) (qaV 0 args) e fr' σ1 Γ [] Γ _ _ hrun
    ⟨hr,.refl _,by simp only[Fr.defs,hk0]; exact .nil _ _ _,hf0,fun h=>by (cases h),fun _=>hk0⟩ hk
  have norm : ∀ (fr':Fr) (σ1:S) (ex:Exit) (e:Ex),(ex = .normal\/ex = .ret)->(if pf.df then qdg C pf Γ.σ.length fr' σ1 else qbt pf Γ.σ.length fr' σ1)=some (.ret v σ') ->
    ∀ Γ1 a1,Γ1.σ = σ1->At fid fn.ntmps false df Γ [] fr' Γ1 a1->bodyPostM Fence.wide 0 P fn (fun e w' => ∃ Γ',Γ'.w=w' /\ Γ'.σ = σ'/\Real fid Γ'/\Step Γ Γ'/\qtu fid Γ' v e) ex a1 Γ1.w:=by
   intro fr' σ1 ex e hex hend Γ1 a1 g1 g2
   subst g1
   obtain⟨is,ds',m1,m2,m3,m4⟩:=g2.marks
   have hrd : ∃ σ2,qaS C (qbc is) Γ1.σ = some σ2/\qbt pf Γ.σ.length fr' σ2=some (.ret v σ'):=by
    cases hd:df with
    |false=>
     rw[hpd,hd] at hend
     have:fr'.defs=[]:=by simp only[Fr.defs,g2.nod hd]
     rw[this] at m4
     exact⟨Γ1.σ,by rw[m4]; rfl,hend⟩
    |true=>
     rw[hpd,hd] at hend
     simp only[if_true,qdg] at hend
     split at hend
     ·grind
     ·cases hend
   obtain⟨σ2,h1,h2⟩:=hrd
   have post:LeavesInM Fence.wide 0 P fn a1.tmps (fun e w' => ∃ Γ',Γ'.w=w' /\ Γ'.σ = σ'/\Real fid Γ'/\Step Γ Γ'/\qtu fid Γ' v e) a1.defers .returning Γ1.w:=by
    rw[m1,List.append_nil]
    refine qc5 hC is ds' Γ1 m2 m3 g2.real g2.step g2.frame h1 fun Γ2 k1 k2 k3 k4=>?_
    subst k1
    obtain⟨y,r1,Γ',r2,r3,r4,r5,r6⟩:=qfe hres k2 k3 k4 h2
    exact⟨y,r1,Γ',r2,r3,r4,r5,.inl ⟨y,rfl,r6⟩⟩
   rcases hex with rfl|rfl
   ·exact post
   ·exact post
  split at h
  ·rename_i fr' σ1 hrun
   refine fin .normal fr' σ1 hrun fun Γ1 a1 ex g1 g2 g3=>?_
   simp only[qb5] at g3; subst g3
   exact norm fr' σ1 _ .normal (.inl rfl) h Γ1 a1 g1 g2
  ·rename_i fr' σ1 hrun
   refine fin .ret fr' σ1 hrun fun Γ1 a1 ex g1 g2 g3=>?_
   simp only[qb5] at g3; subst g3
   exact norm fr' σ1 _ .ret (.inr rfl) h Γ1 a1 g1 g2
  ·rename_i pv fr' σ1 hrun
   refine fin (.pan pv) fr' σ1 hrun fun Γ1 a1 ex g1 g2 g3=>?_
   subst g1
   obtain⟨x,rfl,hx⟩:=g3
   obtain⟨is,ds',m1,m2,m3,m4⟩:=g2.marks
   show LeavesInM Fence.wide 0 P fn a1.tmps _ a1.defers (.panicking [{ v:=x,recovered:=false }]) Γ1.w
   rw[m1,List.append_nil]
   refine qfd hC is ds' Γ1 m2 m3 g2.real g2.step g2.frame hx ?_
   unfold qcU at h
   split at h
   ·rename_i hd
    refine .inl ⟨by rw[m4]; exact hd,fun Γ2 k1 k2 k3 k4=>?_⟩
    rw[<- k1] at h
    split at h
    ·rename_i v' σs hres'
     cases h
     obtain⟨t1,t2,t3,t4,t5,t6⟩:=qaI k2 hres'
     have:=t6 [x] ⟨x,[],rfl,k4,rfl⟩
     simp only[Reps] at this
     obtain⟨y,ys,e1,e2,e3⟩:=this
     cases e1
     exact⟨Γ2.part _ σ',rfl,rfl,t5,qcH k3 t1 t2 t4 (qeS _ _ _),.inr ⟨v',x,rfl,rfl,e2⟩⟩
    ·cases h
   ·rename_i id as r hd
    split at h
    ·cases h
    ·rename_i hnil
     split at h
     ·rename_i v1 σ2 hcall
      split at h
      ·rename_i σ3 hrest
       refine .inr ⟨id,as,r,v1,σ2,σ3,by rw[m4]; exact hd,by simpa using hnil,hcall,hrest,fun Γ2 k1 k2 k3 k4=>?_⟩
       subst k1
       obtain⟨y,r1,Γ',r2,r3,r4,r5,r6⟩:=qfe hres k2 k3 k4 h
       exact⟨y,r1,Γ',r2,r3,r4,r5,.inl ⟨y,rfl,r6⟩⟩
      ·cases h
     ·cases h
   ·cases h
  ·cases h
 ·cases h
theorem qgc{fn:Func}{rs:List PR}{N:Nat}(hres:qik P N fn.results.toList=some rs)(he:rs.isEmpty=true)(tmps:Array Value)(w:World):(results fn tmps).run P w = .ok (.tuple #[]) w:=by
 have hnil:fn.results.toList=[]:=by
  cases hr:fn.results.toList with
  |nil=>rfl
  |cons r rest=>
   rw[hr] at hres
   cases r with
   |tmp t=>
    simp only[qik] at hres
    split at hres
    ·simp_all
    ·cases hres
   |cell a t=>
    simp only[qik] at hres
    split at hres
    ·split at hres<;>cases hres<;>cases he
    ·cases hres
 rw[qhw]
 simp only[Sem.run_bind]
 rw[Array.mapM_eq_mapM_toList,hnil]
 simp
theorem qv3{Γ Γ1:Ctx}(hr:Real fid Γ1)(hs:Step Γ Γ1){vs:List V}{σ':S}(h:qaF (gcL Γ.σ.length [] Γ1.σ) [] Γ1.σ = some (vs,σ')) : ∃ Γ',Γ'.w = Γ1.w /\ Γ'.σ = σ'/\Real fid Γ'/\Step Γ Γ':=by
 obtain⟨t1,t2,t3,t4,t5,t6⟩:=qaI hr h
 exact⟨Γ1.part _ σ',rfl,rfl,t5,qcH hs t1 t2 t4 (qeS _ _ _)⟩
theorem qi4 (hid:Ties P ids fid) (hcr:Codes P ids fid) (hC:CSound P fid C) (hL:LSound P ids fid C) (hm:P.follows .mixedOrders=true) {f:Nat} {fn:Func} {K:Nat->List Nat} {ow:Bool} {pf:PFun} {c:Code} (hfn:P.funcs[fid f]?=some fn) (hbody:fn.body=some c)
  (hname:(fn.name == "runtime.NumGoroutine")=false) (hN:2*fn.ntmps<=dkey) (hcomp:comp P (ids.with ow false) fn.ntmps K c=some pf.body) (hres:qik P fn.ntmps fn.results.toList=some pf.results) (hpn:pf.np<=fn.ntmps) (hpc:pf.catches=false)
  {args:List V} {σ σ':S} {v:V} (h:qaA C pf args σ = some (.ret v σ')):qrt P fid f args σ σ':=by
 refine⟨⟨fn,hfn,hname,by rw[hbody]; rfl⟩,fun Γ pv as px ys u hargs hσ hr hp hys hu hu'=>?_⟩
 subst hσ hargs
 simp only[qaA] at h
 split at h
 ·rename_i hcond
  obtain⟨hlen,hdf,hemp,hflat,hcn⟩:=hcond
  have hnil:pv.isNilIf=true:=by rcases hcn with h | h
                                ·rw[hpc] at h; cases h
                                ·exact h
  have hu1:=hu hnil
  subst hu1
  have hf0:=qd8 (N:=fn.ntmps) hys (by omega)
  have hpos:0<dkey:=by decide
  have hk0:Fr.get ((qhU,pv)::qaV 0 as) dkey=none:=by
   simp only[Fr.get]; rw[if_neg (by decide)]; exact qgb (by omega)
  have hf1:FrRep fid Γ fn.ntmps ((qhU,pv)::qaV 0 as) (ys.toArray++Array.replicate (fn.ntmps-ys.toArray.size) undef):=⟨hf0.1,fun t v ht hv=>by
   have:qhU≠t:=fun e=>by
    have h1:qhU=dkey+1:=rfl
    omega
   simp only[Fr.get,if_neg this] at hv
   exact hf0.2 t v ht hv⟩
  have fin : ∀ (e:Ex) (fr':Fr) (σ1:S),(e = .normal\/e = .ret)->run C Γ.σ.length pf.body ((qhU,pv)::qaV 0 as) Γ.σ = some (e,fr',σ1)->(∃ vs,qaF (gcL Γ.σ.length [] σ1) [] σ1=some (vs,σ')) ->
    CallsDIn Fence.wide 0 P (fid f) ys.toArray .returning Γ.w fun e u' w' => ∃ Γ' y,e = .returned y /\ Γ'.w=w' /\ Γ'.σ = σ'/\Real fid Γ'/\Step Γ Γ'/\settle u' = .returning:=by
   intro e fr' σ1 he hrun hend
   obtain⟨vs,hend⟩:=hend
   refine CallsDIn.mono (callsDIn_of_wp (F:=Fence.wide) (n:=0) (R:=fun e w' => ∃ Γ' y,e = .returned y /\ Γ'.w=w' /\ Γ'.σ = σ'/\Real fid Γ'/\Step Γ Γ') hfn hbody trivial ?_) ?_
   ·refine qaZ (ro:=none) (fl:=true) (hid.with ow false) (hcr.with ow false) hC (hL.with ow false) hm hN (fun _=>rfl) c pf.body hcomp (fun _=>hflat) _ e fr' σ1 Γ [] Γ _ _ hrun
     ⟨hr,.refl _,by simp only[Fr.defs,hk0]; exact .nil _ _ _,hf1,fun _=>rfl,fun _=>hk0⟩ fun Γ1 a1 ex g1 g2 g3=>?_
    subst g1
    obtain⟨Γ',q1,q2,q3,q4⟩:=qv3 g2.real g2.step hend
    have post:a1.defers=[] /\ ∃ v,(results fn a1.tmps).run P Γ1.w = .ok v Γ1.w /\ ∃ Γ' y,Ending.returned v = .returned y /\ Γ'.w = Γ1.w /\ Γ'.σ = σ'/\Real fid Γ'/\Step Γ Γ':=
     ⟨g2.still rfl,_,qgc hres hemp _ _,Γ',_,rfl,q1,q2,q3,q4⟩
    rcases he with rfl|rfl
    ·simp only[qb5] at g3; subst g3; exact post
    ·simp only[qb5] at g3; subst g3; exact post
   ·rintro e u' w' ⟨rfl,Γ',y,q1,q2,q3,q4,q5⟩
    exact⟨Γ',y,q1,q2,q3,q4,q5,rfl⟩
  split at h
  ·grind
  ·grind
  ·cases h
 ·cases h
theorem qj3 (hid:Ties P ids fid) {N:Nat} {Γ : Ctx} {fr:Fr} {a:Act} {o:Oper} {neg:Bool} {x:X} {v:V} {σ':S} (hc:cOp P ids N o.op=some (.isnil false neg x)) (hr:Real fid Γ) (hf:FrRep fid Γ N fr a.tmps) (h:qan C fr Γ.σ (.isnil false neg x)=some (v,σ')) :
  σ' = Γ.σ /\ ∃ y,(execOp a.eval o).run P Γ.w = .ok (.value y) Γ.w/\Rep fid Γ v y:=by
 have fin : ∀ {op:BinOp} {t t':TypeId} {y:Operand} (neg':Bool),(op=if neg' then .neq else .eql)->o.op = .binOp op t y (.const .nilIface) t'->(∃ ms,P.underlying t=some (.interface ms))->(∃ y',cX ids N y=some y'/\O.isnil false neg' y' = .isnil false neg x) ->
   σ' = Γ.σ /\ ∃ y,(execOp a.eval o).run P Γ.w = .ok (.value y) Γ.w/\Rep fid Γ v y:=by
  rintro op t t' y neg' hop ho ⟨ms,ht⟩ ⟨y',h1,e⟩
  cases e
  simp only[qan] at h
  split at h
  ·rename_i u hu
   split at h
   ·rename_i b hb
    cases h
    obtain⟨g1,g2⟩:=qho (P:=P) (qal hid hr hf h1 hu) hb (.inl ⟨rfl,rfl,ms,ht⟩) Γ.w
    refine⟨rfl,.bool (if neg then !b else b),?_,qcq rfl⟩
    have hρ : a.eval (.const .nilIface) = .nilIface:=rfl
    simp only[execOp,ho,hρ]
    generalize a.eval y=z at *
    subst hop
    rcases g2 with ⟨a,c,rfl,_⟩|⟨rfl,_⟩|⟨a,_,h⟩
    ·cases neg<;>simp[eqGuard,binOp,g1]
    ·cases neg<;>simp[eqGuard,binOp,g1]
    ·cases h
   ·cases h
  ·cases h
 have hc1:qb7 P ids N o.op=some (.isnil false neg x):=by
  unfold cOp at hc
  split at hc
  ·rename_i h'; cases hc; exact h'
  ·cases hc
 clear hc
 have hc:=hc1
 clear hc1
 cases ho:o.op with
 |binOp op t y z t'=>
  rw[ho] at hc
  simp only[qb7] at hc
  split at hc
  ·simp_all
  ·simp_all
  ·simp_all
  ·simp_all
  ·simp_all
  ·simp_all
  ·exfalso
   repeat' (first
    | (cases hc; done)
    | (simp only[Option.map_eq_some_iff] at hc; obtain⟨_,_,e⟩:=hc; cases e; done)
    |split at hc)
 |next y b=>
  rw[ho] at hc
  cases b with
  |true=>cases hc
  |false=>simp only[qb7,Option.map_eq_some_iff] at hc; obtain⟨_,_,e⟩:=hc; cases e
 |makeFunc fn u z=>
  exfalso
  rw[ho] at hc
  cases fn<;>simp only[qb7] at hc
  all_goals repeat' (first
   | (cases hc; done)
   | (simp only[Option.map_eq_some_iff] at hc; obtain⟨_,_,e⟩:=hc; cases e; done)
   |split at hc)
 |_=>
  exfalso
  rw[ho] at hc
  simp only[qb7] at hc
  all_goals (try simp only[qko] at hc)
  repeat' (first
   | (cases hc; done)
   | (simp only[Option.map_eq_some_iff] at hc; obtain⟨_,_,e⟩:=hc; cases e; done)
   | (simp only[Option.map_eq_some_iff] at hc; obtain⟨_,_,e⟩:=hc; split at e<;>cases e; done)
   | (split at hc<;>first | (cases hc; done) | skip))
theorem qi5 (hid:Ties P ids fid) (hcr:Codes P ids fid) (hC:CSound P fid C) (hL:LSound P ids fid C) (hm:P.follows .mixedOrders=true) {f:Nat} {fn:Func} {K:Nat->List Nat} {ow:Bool} {pf:PFun} {c:Code} (hfn:P.funcs[fid f]?=some fn) (hbody:fn.body=some c)
  (hname:(fn.name == "runtime.NumGoroutine")=false) (hN:2*fn.ntmps<=dkey) (hcomp:ql6 P ids K ow false true fn.ntmps c=some pf.body) (hres:qik P fn.ntmps fn.results.toList=some pf.results) (hpn:pf.np<=fn.ntmps)
  {args:List V} {σ σ':S} {v:V} (h:qaA C pf args σ = some (.ret v σ')):qrt P fid f args σ σ':=by
 refine⟨⟨fn,hfn,hname,by rw[hbody]; rfl⟩,fun Γ pv as px ys u hargs hσ hr hp hys hu hu'=>?_⟩
 subst hσ hargs
 simp only[qaA] at h
 split at h
 ·rename_i hcond
  obtain⟨hlen,hdf,hemp,hflat,_⟩:=hcond
  have hf0:=qd8 (N:=fn.ntmps) hys (by omega)
  have hpos:0<dkey:=by decide
  have hrk:qhU=dkey+1:=rfl
  have hk0:Fr.get ((qhU,pv)::qaV 0 as) dkey=none:=by grind [Fr.get,Codes,LSound,dkey,ql6,qik,qaA,qrt,qgb]
  have hf1:FrRep fid Γ fn.ntmps ((qhU,pv)::qaV 0 as) (ys.toArray++Array.replicate (fn.ntmps-ys.toArray.size) undef):=⟨hf0.1,fun t v ht hv=>by
   have:qhU≠t:=fun e=>by omega
   simp only[Fr.get,if_neg this] at hv
   exact hf0.2 t v ht hv⟩
  have hex : ∃ e fr' σ1 vs,(e = .normal\/e = .ret)/\run C Γ.σ.length pf.body ((qhU,pv)::qaV 0 as) Γ.σ = some (e,fr',σ1)/\qaF (gcL Γ.σ.length [] σ1) [] σ1=some (vs,σ'):=by grind
  obtain⟨e,fr',σ1,vs,he,hrun,hend⟩:=hex
  unfold ql6 at hcomp
  split at hcomp
  ·rename_i id ops rest _
   split at hcomp
   ·rename_i o os hops
    split at hcomp
    ·rename_i c0 ar0 at0 d is r ho hd hg his hrest
     split at hcomp
     ·rename_i hcond2
      obtain⟨hdN,htest⟩:=hcond2
      simp only[Option.some.injEq] at hcomp
      obtain⟨dst1,neg,x1,un1,his1⟩ : ∃ dst1 neg x1 un1,is=[⟨dst1,.isnil false neg x1,none,un1⟩]:=by
       unfold qnP at htest
       split at htest
       ·exact⟨_,_,_,_,rfl⟩
       ·cases htest
      subst his1
      obtain⟨o1,hos⟩ : ∃ o1,os=[o1]:=by
       cases os with
       |nil=>simp[cIs] at his
       |cons o1 os=>
        obtain⟨i,is',e1,e2,_⟩:=qeO his
        cases e1
        cases os with
        |nil=>exact⟨o1,rfl⟩
        |cons o2 os=>
         obtain⟨i,is',e1,_⟩:=qeO e2
         cases e1
      subst hos
      obtain⟨i,is',e1,e2,e3⟩:=qeO his
      cases e1
      have hcI:cI P (ids.with ow false) fn.ntmps false ops (fun _=>[]) 1 o1=some ⟨dst1,.isnil false neg x1,none,un1⟩:=by grind [Codes,LSound,dkey,ql6,qik,qaA,qrt,qda]
      obtain⟨q1,q2,q3,q4⟩:=qbz hcI
      have q2:dst1=o1.dst:=q2
      subst q2
      have hg1:o1.guard=none:=by grind
      have q1':cOp P (ids.with ow false) fn.ntmps o1.op=some (.isnil false neg x1):=q1
      have hop0:ops[0]?=some o:=by
       have:ops.toList[0]?=some o:=by rw[hops]; rfl
       simpa using this
      have hop1:ops[1]?=some o1:=by
       have:ops.toList[1]?=some o1:=by rw[hops]; rfl
       simpa using this
      have hsz:ops.size=2:=by
       have:ops.toList.length=2:=by rw[hops]; rfl
       simpa using this
      rw[<- hcomp] at hrun
      simp only[run,qcT,qaE,qan,Fr.get,if_true] at hrun
      refine callsDIn_of_wpSIn (F:=Fence.wide) (n:=0) hfn hbody trivial fun c₀ cs hcu=>?_
      refine wpSIn_seq (wpSIn_region ?_)
      rw[hsz]
      show wpOpsSIn Fence.wide 0 P ops _ [0,1] _ _ _
      unfold wpOpsSIn
      simp only[hop0]
      have hexec : ∀ (a:Act) (w:World),(execOp a.eval o).run P w = .ok .recover w:=fun a w=>by
       simp only[execOp,ho,resolve,Sem.run_bind,Sem.run_pure,Result.andThen_ok,invoke,builtin]
      have hw0 : ∀ tm,Region.wanted o (yielded ops tm)=true:=fun tm=>by simp[Region.wanted,hg]
      have hw1 : ∀ tm,Region.wanted o1 (yielded ops tm)=true:=fun tm=>by simp[Region.wanted,hg1]
      refine⟨fun _ _=>trivial,?_⟩
      rw[hw0]
      simp only[if_true,hexec]
      have key : ∀ (y0:Value) (cs':List Frame) (u2:FrameMode),Rep fid Γ pv y0->cs'={ c₀ with mode:=u2 }::cs->settle u2 = .returning ->
        wpOpsSIn Fence.wide 0 P ops (Exit.thenS (rest.wpSIn Fence.wide 0 P (bodyPostS P fn c₀ cs (fun e u' w' => ∃ Γ' y,e = .returned y /\ Γ'.w=w' /\ Γ'.σ = σ'/\Real fid Γ'/\Step Γ Γ'/\settle u' = .returning))) (bodyPostS P fn c₀ cs (fun e u' w' => ∃ Γ' y,e = .returned y /\ Γ'.w=w' /\ Γ'.σ = σ'/\Real fid Γ'/\Step Γ Γ'/\settle u' = .returning)))
         [1] (Act.put { tmps:=ys.toArray++Array.replicate (fn.ntmps-ys.toArray.size) undef,defers:=[] } o.dst y0) cs' Γ.w:=by
       intro y0 cs' u2 hy0 hcs hset
       unfold wpOpsSIn
       simp only[hop1]
       refine⟨fun _ _=>trivial,?_⟩
       rw[hw1]
       simp only[if_true]
       have hat0:At fid fn.ntmps true (ids.with ow false).df Γ [] ((qhU,pv)::qaV 0 as) Γ { tmps:=ys.toArray++Array.replicate (fn.ntmps-ys.toArray.size) undef,defers:=[] }:=
        ⟨hr,.refl _,by simp only[Fr.defs,hk0]; exact .nil _ _ _,hf1,fun _=>rfl,fun _=>hk0⟩
       have hat1:=hat0.put (d:=o.dst) (v:=pv) (x:=y0) hN (fun k hk=>by rw[hd] at hk; cases hk; exact hdN) hr (.refl _) hy0
       cases hev:qan C (Fr.put ((qhU,pv)::qaV 0 as) o.dst pv) Γ.σ (.isnil false neg x1) with
       |none=>
        exfalso
        rw[hd] at hev
        simp only[qan] at hev
        simp only[hev] at hrun
        simp[qbA,qaE,qan,qa3,Fr.get,hev] at hrun
       |some res=>
        obtain⟨b,σb⟩:=res
        obtain⟨rfl,y1,r1,r2⟩:=qj3 (hid.with ow false) q1' hat1.real hat1.frame hev
        rw[r1]
        simp only
        unfold wpOpsSIn
        have hat2:=hat1.put (d:=o1.dst) (v:=b) (x:=y1) hN q3 hr (.refl _) r2
        have hev':=hev
        rw[hd] at hev'
        simp only[qan] at hev'
        simp only[hev'] at hrun
        simp only[Exit.thenS]
        refine wpSIn_of_wpIn rfl ?_
        have hflr:r.flat=true:=by grind [PC.flat]
        have hat3:At fid fn.ntmps true (ids.with ow false).df Γ [] ((Fr.put (Fr.put ((qhU,pv)::qaV 0 as) o.dst pv) o1.dst b).keep (K id)) Γ ((Act.put { tmps:=ys.toArray++Array.replicate (fn.ntmps-ys.toArray.size) undef,defers:=[] } o.dst y0).put o1.dst y1):=hat2.keep (ids:=ids.with ow false) K id
        rw[hd] at hat3 ⊢
        refine qaZ (ro:=none) (fl:=true) (hid.with ow false) (hcr.with ow false) hC (hL.with ow false) hm hN (fun _=>rfl) rest r hrest (fun _=>hflr) _ e fr' σ1 Γ [] Γ _ _ hrun hat3 fun Γ1 a1 ex g1 g2 g3=>?_
        subst g1
        obtain⟨Γ',z1,z2,z3,z4⟩:=qv3 g2.real g2.step hend
        have post:a1.defers=[] /\ ∃ u',cs'={ c₀ with mode:=u' }::cs /\ ∃ v,(results fn a1.tmps).run P Γ1.w = .ok v Γ1.w /\ ∃ Γ' y,Ending.returned v = .returned y /\ Γ'.w = Γ1.w /\ Γ'.σ = σ'/\Real fid Γ'/\Step Γ Γ'/\settle u' = .returning:=
         ⟨g2.still rfl,u2,hcs,_,qgc hres hemp _ _,Γ',_,rfl,z1,z2,z3,z4,hset⟩
        rcases he with rfl|rfl
        ·simp only[qb5] at g3; subst g3; exact post
        ·simp only[qb5] at g3; subst g3; exact post
      cases hnil:pv.isNilIf with
      |true=>
       have hu1:=hu hnil
       have hrec:recoverD (c₀ :: cs)=none:=by simp[recoverD,hcu,hu1]
       rw[hrec]
       have hpv:pv = .dat (.lit .nilIface):=by grind [V.isNilIf]
       refine key .nilIface (c₀ :: cs) u (by rw[hpv]; exact qcq rfl) ?_ (by rw[hu1]; rfl)
       subst hcu; rfl
      |false=>
       have hu1:=hu' hnil
       have hrec:recoverD (c₀ :: cs)=some (px,{ c₀ with mode := .panicking [{ v:=px,recovered:=true }] }::cs):=by simp[recoverD,hcu,hu1]
       rw[hrec]
       exact key px _ (.panicking [{ v:=px,recovered:=true }]) hp rfl rfl
     ·cases hcomp
    ·cases hcomp
   ·cases hcomp
  ·cases hcomp
  ·rename_i h1; cases h1
 ·cases h
theorem qgS (hid:Ties P ids fid) (hcr:Codes P ids fid) (hC:CSound P fid C) (hL:LSound P ids fid C) (hm:P.follows .mixedOrders=true) {f:Nat} {fn:Func} {K:Nat->List Nat} {ns ow df ca:Bool} {pf:PFun} (hfn:P.funcs[fid f]?=some fn) (hc:compF P ids K ns ow df ca fn=some pf) :
  (∀ args σ v σ',ca=false->qa0 C pf args σ = some (.ret v σ')->qjK P fid f args σ v σ') /\ ∀ args σ v σ',qaA C pf args σ = some (.ret v σ')->qrt P fid f args σ σ':=by
 unfold compF at hc
 split at hc
 ·rename_i c hbody
  split at hc
  ·rename_i body rs hcomp hres
   split at hc
   ·rename_i hcond
    cases hc
    obtain⟨c1,c2,c3,c4⟩:=hcond
    have hname:(fn.name == "runtime.NumGoroutine")=false:=by simpa using c3
    cases ca with
    |false=>
     have hcomp':comp P (ids.with ow df) fn.ntmps K c=some body:=by
      simpa only [ql6] using hcomp
     refine⟨fun args σ v σ' _ h=>qj2 hid hcr hC hL hm hfn hbody hname c2 hcomp' hres c1 rfl h,fun args σ v σ' h=>?_⟩
     have hdf:df=false:=by
      unfold qaA at h
      split at h
      ·grind
      ·cases h
     subst hdf
     exact qi4 hid hcr hC hL hm hfn hbody hname c2 hcomp' hres c1 rfl h
    |true=>
     have hdf:=c4 rfl
     subst hdf
     exact⟨fun _ _ _ _ h=>by (cases h),fun args σ v σ' h=>qi5 hid hcr hC hL hm hfn hbody hname c2 hcomp hres c1 h⟩
   ·cases hc
  ·cases hc
 ·cases hc
end
def Tied(P:Program)(ids:Ids)(fid:Fid)(prog:Nat->Option PFun):Prop:=
 ∀ f pf,prog f=some pf -> ∃ fn K ns ow df,P.funcs[fid f]?=some fn/\compF P ids K ns ow df pf.catches fn=some pf
theorem qoY{C:Task->Option Res}{pf:PFun}{args:List V}{σ : S}{r:Res}(h:qa0 C pf args σ = some r) : ∃ v σ',r = .ret v σ':=by
 have fv : ∀ {k vs σ1},finishV k vs σ1=some r -> ∃ v σ',r = .ret v σ':=fun h=>by grind [finishV]
 have fin : ∀ {k fr σ1},qbt pf k fr σ1=some r -> ∃ v σ',r = .ret v σ':=fun h=>by grind [qbt]
 have lv : ∀ {k fr σ1},(if pf.df then qdg C pf k fr σ1 else qbt pf k fr σ1)=some r -> ∃ v σ',r = .ret v σ':=fun h=>by grind [qdg]
 unfold qa0 at h
 split at h
 ·split at h
  ·exact lv h
  ·exact lv h
  ·unfold qcU at h
   split at h
   ·grind
   ·grind
   ·cases h
  ·cases h
 ·cases h
theorem qoc{C:Task->Option Res}{pf:PFun}{args:List V}{σ : S}{r:Res}(h:qaA C pf args σ = some r) : ∃ v σ',r = .ret v σ':=by
 unfold qaA at h
 split at h
 ·grind
 ·cases h
theorem qod{r:Nat->Nat}{fr:Fr}:(qhT r fr).defs=qcw r fr.defs:=by
 have hg : ∀ fr:Fr,(qhT r fr).get dkey=(fr.get dkey).map (V.ren r):=fun fr=>by
  induction fr with
  |nil=>rfl
  |cons p fr ih=>
   obtain⟨k,v⟩:=p
   simp only[qhT,Fr.get]
   split
   ·rfl
   ·exact ih
 simp only[Fr.defs,hg]
 cases fr.get dkey with
 |none=>rfl
 |some v=>cases v<;>rfl
theorem qmI{fr:Fr} : ∀ l∈qav fr.defs,l∈qa9 fr:=by
 intro l hl
 simp only[Fr.defs] at hl
 split at hl
 ·rename_i vs hg
  have key : ∀ fr:Fr,fr.get dkey=some (.tup vs)->l∈qa9 fr:=fun fr=>by
   induction fr with
   |nil=>intro h; simp[Fr.get] at h
   |cons p fr ih=>
    obtain⟨k,v⟩:=p
    intro h
    simp only[Fr.get] at h
    simp only[qa9,List.mem_append]
    split at h
    ·cases h; exact .inl (by simpa only [V.locs] using hl)
    ·exact .inr (ih h)
  exact key fr hg
 ·cases hl
theorem qi6 {N:Nat} {fl df:Bool} {Γ0 Γ : Ctx} {ds0:List Deferred} {fr fr1:Fr} {σ1:S} {a:Act} (hat:At fid N fl df Γ0 ds0 fr Γ a) (h:gcF Γ0.σ.length fr Γ.σ = some (fr1,σ1)) :
  ∃ Γ1:Ctx,Γ1.σ = σ1 /\ Γ1.w = Γ.w/\At fid N fl df Γ0 ds0 fr1 Γ1 a:=by
 unfold gcF at h
 simp only at h
 split at h
 ·rename_i vs σs hres
  split at h
  ·rename_i hin
   simp only[Option.some.injEq,Prod.mk.injEq] at h
   obtain⟨rfl,rfl⟩:=h
   obtain⟨t1,t2,t3,t4,t5,t6⟩:=qaI hat.real hres
   refine⟨Γ.part _ σs,rfl,rfl,⟨t5,qcH hat.step t1 t2 t4 (qeS _ _ _),?_,FrRep.ren t4 (qdF hin) hat.frame,hat.still,fun hd=>?_⟩⟩
   ·obtain⟨is,ds',m1,m2,m3,m4⟩:=hat.marks
    have ren : ∀ {is:List DI} {ds:List Deferred},DIReps fid Γ0 Γ is ds->(∀ l∈qav (qbc is),l∈gcL Γ0.σ.length (qa9 fr) Γ.σ) ->
      ∃ is',DIReps fid Γ0 (Γ.part (gcL Γ0.σ.length (qa9 fr) Γ.σ) σs) is' ds/\qb6 is'=qb6 is/\qbc is'=qcw (idx (gcL Γ0.σ.length (qa9 fr) Γ.σ)) (qbc is):=by
     intro is
     induction is with
     |nil=>intro ds h _; exact⟨[],h,rfl,rfl⟩
     |cons i is ih=>
      intro ds h hl
      obtain⟨d,r,h1,h2,h3⟩:=h
      cases i with
      |m D=>
       obtain⟨is',a1,a2,a3⟩:=ih h3 hl
       refine⟨.m D::is',⟨d,r,h1,⟨h2.1,h2.2.1,h2.2.2.1,fun l hl=>?_⟩,a1⟩,by simp[qb6,a2],a3⟩
       simp only[Ctx.part] at hl
       cases hl':(gcL Γ0.σ.length (qa9 fr) Γ.σ)[l]? with
       |none=>rw[hl'] at hl; cases hl
       |some l'=>rw[hl'] at hl; exact h2.2.2.2 l' hl
      |c v=>
       simp only[qbc,qav,List.mem_append] at hl
       obtain⟨is',a1,a2,a3⟩:=ih h3 (fun l h=>hl l (.inr h))
       obtain⟨id,as,cap,ys,q1,q2,q3⟩:=h2
       subst q1
       refine⟨.c (.fn id (qcw (idx (gcL Γ0.σ.length (qa9 fr) Γ.σ)) as) [])::is',⟨d,r,h1,⟨id,_,cap,ys,rfl,q2,Reps.ren t4 as _ (fun l hl'=>hl l (.inl (by simp[V.locs,hl']))) q3⟩,a1⟩,a2,by simp[qbc,qcw,V.ren,a3]⟩
    obtain⟨is',a1,a2,a3⟩:=ren m2 (fun l hl=>qdF hin l (qmI l (by rw[m4] at hl; exact hl)))
    exact⟨is',ds',m1,a1,by rw[a2]; exact m3,by rw[a3,m4,qod]⟩
   ·have:=hat.nod hd
    cases hg:(qhT (idx (gcL Γ0.σ.length (qa9 fr) Γ.σ)) fr).get dkey with
    |none=>rfl
    |some v=>
     obtain⟨u,h1,_⟩:=qh0 hg
     rw[this] at h1; cases h1
  ·cases h
 ·cases h
theorem qgT(hid:Ties P ids fid)(hcr:Codes P ids fid)(hm:P.follows .mixedOrders=true){prog:Nat->Option PFun}(ht:Tied P ids fid prog) : ∀ n,CSound P fid (qa8 prog n)/\LSound P ids fid (qa8 prog n)
 |0=>⟨⟨fun f args σ v σ' h=>by simp[qa8] at h,fun f args σ v σ' h=>by simp[qa8] at h,fun args σ v σ' h=>by simp[qa8] at h⟩,fun k b fr σ e fr' σ' h=>by simp[qa8] at h⟩
 |n+1=>by
  obtain⟨hC,hL⟩:=qgT hid hcr hm ht n
  refine⟨⟨fun f args σ v σ' h=>?_,fun f args σ v σ' h=>?_,fun args σ v σ' h=>?_⟩,fun k b fr σ e fr' σ' h=>?_⟩
  ·grind [qa8,Codes,Tied,LSound,qgS]
  ·grind [qa8,Codes,Tied,LSound,qgS]
  ·grind [qa8,Codes,Tied,LSound,qj1]
  ·simp only[qa8] at h
   split at h
   ·rename_i fr0 σ0 hgc
    split at h
    ·rename_i fr1 σ1 hrun
     obtain⟨m,hs⟩:=hL _ _ _ _ _ _ _ h
     refine⟨m+1,fun N K ow d c ro fl hc hN hro hfl Γ0 ds0 Γ a Q hk0 hσ hat hk=>?_⟩
     subst hσ hk0
     obtain⟨Γ',rfl,e2,hat'⟩:=qi6 hat hgc
     rw[roundsIn_succ,<- e2]
     refine qaZ (hid.with ow d) (hcr.with ow d) hC (hL.with ow d) hm hN hro c b hc hfl fr0 .normal fr1 σ1 Γ0 ds0 Γ' a _ hrun hat' fun Γ1 a1 ex g1 g2 g3=>?_
     simp only[qb5] at g3; subst g3
     exact hs N K ow d c ro fl hc hN hro hfl Γ0 ds0 Γ1 a1 Q rfl g1 g2 hk
    ·rename_i e1 fr1 σ1 hne hrun
     simp only[Option.some.injEq,Res.out.injEq] at h
     obtain⟨rfl,rfl,rfl⟩:=h
     refine⟨1,fun N K ow d c ro fl hc hN hro hfl Γ0 ds0 Γ a Q hk0 hσ hat hk=>?_⟩
     subst hσ hk0
     obtain⟨Γ',rfl,e2,hat'⟩:=qi6 hat hgc
     rw[roundsIn_succ,<- e2]
     refine qaZ (hid.with ow d) (hcr.with ow d) hC (hL.with ow d) hm hN hro c b hc hfl fr0 e1 fr1 σ1 Γ0 ds0 Γ' a _ hrun hat' fun Γ1 a1 ex g1 g2 g3=>?_
     have:=hk Γ1 a1 ex g1 g2 g3
     cases e1 with
     |normal=>exact (hne rfl).elim
     |exit id=>simp only[qb5] at g3; subst g3; exact this
     |ret=>simp only[qb5] at g3; subst g3; exact this
     |pan v=>simp only[qb5] at g3; obtain⟨x,rfl,_⟩:=g3; exact this
    ·cases h
   ·cases h
end
end Go.Pm
section
namespace Go.Pm
def Le(C C':Task->Option Res):Prop := ∀ t r,C t=some r->C' t=some r
section
variable{C C':Task->Option Res}
theorem qa5(h:Le C C'){f:List V->S->Task}{args:List V}{σ : S}{r:V × S}(hr:qaW C f args σ = some r):qaW C' f args σ = some r:=by grind [qaW,Le]
theorem qcu(h:Le C C'){f:List V->S->Task}{args:List V}{σ : S}{r:V × S}(hr:qba C f args σ = some r):qba C' f args σ = some r:=by grind [qba,Le]
theorem qgK(h:Le C C'){fr:Fr}{σ : S}{op:O}{r:V × S}(hr:qa3 C fr σ op=some r):qa3 C' fr σ op=some r:=by
 cases op with
 |call f xs=>
  simp only[qa3] at hr ⊢
  split at hr
  ·exact qcu h hr
  ·cases hr
 |callv f xs=>
  simp only[qa3] at hr ⊢
  split at hr
  ·exact qcu h hr
  ·exact qcu h hr
  ·cases hr
 |invoke tbl x xs=>
  simp only[qa3] at hr ⊢
  split at hr
  ·grind [Le,qa3,qcu]
  ·cases hr
 |_=>exact hr
theorem qbo(h:Le C C'){fr:Fr}{σ : S}{op:O}{r:V × S}(hr:qan C fr σ op=some r):qan C' fr σ op=some r:=by
 cases op with
 |call f xs=>
  simp only[qan] at hr ⊢
  split at hr
  ·exact qa5 h hr
  ·cases hr
 |callv f xs=>
  simp only[qan] at hr ⊢
  split at hr
  ·exact qa5 h hr
  ·exact qa5 h hr
  ·exact qa5 h hr
  ·cases hr
 |invoke tbl x xs=>
  simp only[qan] at hr ⊢
  split at hr
  ·grind [Le,qan,qa5]
  ·cases hr
 |_=>exact hr
theorem qdM(h:Le C C') : ∀ {is:List I} {fr:Fr} {σ : S} {r:Fr × S},qcT C is fr σ = some r->qcT C' is fr σ = some r
 |[],_,_,_,hr=>hr
 |i::is,fr,σ,r,hr=>by
  simp only[qcT] at hr ⊢
  split at hr
  ·rename_i hw
   split at hr
   ·rename_i v σ' hv
    simp only[qbo h hv]
    exact qdM h hr
   ·cases hr
  ·exact qdM h hr
  ·cases hr
theorem qc3(h:Le C C'){f:List V->S->Task}{args:List V}{σ : S}{r:V × S}(hr:qba C f args σ = some r):qaW C' f args σ = none:=by grind [qba,qaW,Le]
theorem qei(h:Le C C'){fr:Fr}{σ : S}{op:O}{r:V × S}(hr:qa3 C fr σ op=some r):qan C' fr σ op=none:=by
 cases op with
 |call f xs=>
  simp only[qa3] at hr
  simp only[qan]
  split at hr
  ·exact qc3 h hr
  ·cases hr
 |callv f xs=>
  simp only[qa3] at hr
  simp only[qan]
  split at hr
  ·grind [Le,qa3,qan,qc3]
  ·grind [Le,qa3,qan,qc3]
  ·cases hr
 |invoke tbl x xs=>
  simp only[qa3] at hr
  simp only[qan]
  split at hr
  ·grind [Le,qa3,qan,qc3]
  ·cases hr
 |panic x=>rfl
 |_=>cases hr
theorem qci(h:Le C C') : ∀ {is:List I} {fr:Fr} {σ : S} {r:V × Fr × S},qbA C is fr σ = some r->qbA C' is fr σ = some r/\qcT C' is fr σ = none
 |[],_,_,_,hr=>by simp[qbA] at hr
 |i::is,fr,σ,r,hr=>by
  simp only[qbA,qcT] at hr ⊢
  split at hr
  ·rename_i hw
   split at hr
   ·rename_i v σ' hv
    simp only[qbo h hv]
    exact qci h hr
   ·grind [Le,qbA,qcT,qei,qgK]
  ·exact qci h hr
  ·cases hr
theorem qbX(h:Le C C') : ∀ {is:List I} {q:Nat} {fr:Fr} {σ : S} {r:Nat × List Ev × V × S},qbe C q is fr σ = some r->qbe C' q is fr σ = some r/\qbs C' is fr σ = none
 |[],_,_,_,_,hr=>by simp[qbe] at hr
 |i::is,q,fr,σ,r,hr=>by
  simp only[qbe,qbs] at hr ⊢
  split at hr
  ·rename_i hw
   split at hr
   ·rename_i v σ' hv
    simp only[qbo h hv]
    split at hr
    ·rename_i p l u σ'' hrest
     obtain⟨h1,h2⟩:=qbX h hrest
     simp only[h1,h2]
     exact⟨hr,trivial⟩
    ·cases hr
   ·grind [Le,qbe,qbs,qei,qgK]
  ·split at hr
   ·rename_i p l u σ'' hrest
    obtain⟨h1,h2⟩:=qbX h hrest
    simp only[h1,h2]
    exact⟨hr,trivial⟩
   ·cases hr
  ·cases hr
theorem qcj(h:Le C C') : ∀ {is:List I} {fr:Fr} {σ : S} {r:List Ev × Fr × S},qbs C is fr σ = some r->qbs C' is fr σ = some r
 |[],_,_,_,hr=>hr
 |i::is,fr,σ,r,hr=>by
  simp only[qbs] at hr ⊢
  split at hr
  ·rename_i hw
   split at hr
   ·rename_i v σ' hv
    simp only[qbo h hv]
    split at hr
    ·rename_i l fr' σ'' hrest
     simp only[qcj h hrest]; exact hr
    ·cases hr
   ·cases hr
  ·split at hr
   ·rename_i l fr' σ'' hrest
    simp only[qcj h hrest]; exact hr
   ·cases hr
  ·cases hr
theorem qcI(h:Le C C') : ∀ {is:List I} {fr:Fr} {σ : S} {r:List (Fr × S)},qdB C is fr σ = some r->qdB C' is fr σ = some r
 |[],_,_,_,hr=>hr
 |i::is,fr,σ,r,hr=>by
  simp only[qdB] at hr ⊢
  split at hr
  ·rename_i hw
   split at hr
   ·rename_i v σ' hv
    simp only[qbo h hv]
    split at hr
    ·rename_i l hrest
     simp only[qcI h hrest]; exact hr
    ·cases hr
   ·cases hr
  ·split at hr
   ·rename_i l hrest
    simp only[qcI h hrest]; exact hr
   ·cases hr
  ·cases hr
theorem qaJ(h:Le C C'){k:Nat} : ∀ {pc:PC} {fr:Fr} {σ : S} {r:Ex × Fr × S},run C k pc fr σ = some r->run C' k pc fr σ = some r
 |.range f ps as bd,fr,σ,r,hr=>by grind [run,Le,qa5]
 |.skip,_,_,_,hr=>hr
 |.exit _,_,_,_,hr=>hr
 |.ret,_,_,_,hr=>hr
 |.region none ops keep _,fr,σ,r,hr=>by grind [run,Le,qdM,qci]
 |.region (some rs) ops keep _,fr,σ,r,hr=>by grind [run,Le,qcj,qcI,qbX]
 |.seq a b,fr,σ,r,hr=>by
  simp only[run] at hr ⊢
  split at hr
  ·rename_i fr' σ' hx; simp only[qaJ h hx]; exact qaJ h hr
  ·rename_i hne
   have:=qaJ h hr
   rw[this]
   obtain⟨e,fr',σ'⟩:=r
   cases e with
   |normal=>exact absurd hr (hne _ _)
   |exit id=>rfl
   |ret=>rfl
   |pan v=>rfl
 |.cond c a b,fr,σ,r,hr=>by
  simp only[run] at hr ⊢
  split at hr
  ·exact qaJ h hr
  ·exact qaJ h hr
  ·cases hr
 |.block id b,fr,σ,r,hr=>by
  simp only[run] at hr ⊢
  split at hr
  ·rename_i id' fr' σ' hx; simp only[qaJ h hx]; exact hr
  ·rename_i hne
   have:=qaJ h hr
   rw[this]
   obtain⟨e,fr',σ'⟩:=r
   cases e with
   |normal=>rfl
   |exit id=>exact absurd hr (hne _ _ _)
   |ret=>rfl
   |pan v=>rfl
 |.loop b,fr,σ,r,hr=>by grind [run,Le]
theorem qcb(h:Le C C'){args:List V}{σ : S}{r:Res}(hr:qbg C args σ = some r):qbg C' args σ = some r:=by
 unfold qbg at hr ⊢
 split at hr
 ·split at hr
  ·split at hr
   ·rename_i hlp hc
    simp only[if_pos hc]
    split at hr
    ·rename_i fr1 σ1 hx
     simp only[qaJ h hx]
     split at hr
     ·split at hr
      ·rename_i hlp1 hst
       simp only[hlp1,if_pos hst]
       split at hr
       ·cases hr
       ·rename_i e fr2 σ2 hnp hy
        simp only[qaJ h hy]
        cases e with
        |pan v=>exact (hnp _ rfl).elim
        |normal=>exact hr
        |exit id=>exact hr
        |ret=>exact hr
       ·cases hr
      ·cases hr
     ·cases hr
    ·cases hr
   ·cases hr
  ·cases hr
 ·cases hr
theorem qbp(h:Le C C') : ∀ {l:List V} {σ : S} {r:S},qaS C l σ = some r->qaS C' l σ = some r
 |[],σ,r,hr=>hr
 |v::l,σ,r,hr=>by
  unfold qaS at hr ⊢
  split at hr
  ·rename_i e; cases e
  ·rename_i id a r' e
   cases e
   split at hr
   ·rename_i v' σ' hc
    simp only[qa5 h hc]
    exact qbp h hr
   ·cases hr
  ·cases hr
theorem qgL(h:Le C C'){pf:PFun}{k:Nat}{fr:Fr}{σ : S}{r:Res}(hr:qdg C pf k fr σ = some r):qdg C' pf k fr σ = some r:=by grind [qdg,Le,qbp]
theorem qfD(h:Le C C'){pf:PFun}{k:Nat}{v:V}{fr:Fr}{σ : S}{r:Res}(hr:qcU C pf k v fr σ = some r):qcU C' pf k v fr σ = some r:=by
 unfold qcU at hr ⊢
 split at hr
 ·exact hr
 ·grind [Le,qcU,qa5,qbp]
 ·cases hr
theorem qcc(h:Le C C'){pf:PFun}{args:List V}{σ : S}{r:Res}(hr:qa0 C pf args σ = some r):qa0 C' pf args σ = some r:=by grind [qdg,qbt,qa0,Le,qgL,qaJ,qfD]
theorem qbU(h:Le C C'){pf:PFun}{args:List V}{σ : S}{r:Res}(hr:qaA C pf args σ = some r):qaA C' pf args σ = some r:=by
 unfold qaA at hr ⊢
 split at hr
 ·grind [Le,qaA,qaJ]
 ·cases hr
end
variable{prog:Nat->Option PFun}
theorem qin : ∀ n,Le (qa8 prog n) (qa8 prog (n+1))
 |0=>fun t r h=>by simp[qa8] at h
 |n+1=>fun t r h=>by
  have ih:=qin n
  cases t with
  |call f args σ=>
   simp only[qa8] at h ⊢
   split at h
   ·grind [Le,qa8,qcc]
   ·cases h
  |dcall f args σ=>
   simp only[qa8] at h ⊢
   split at h
   ·exact qbU ih h
   ·cases h
  |round args σ=>
   simp only[qa8] at h ⊢
   exact qcb ih h
  |loop k b fr σ=>
   simp only[qa8] at h ⊢
   split at h
   ·grind [Le,qa8,qaJ]
   ·cases h
theorem qaK{m n:Nat}(h:m<=n):Le (qa8 prog m) (qa8 prog n):=by
 induction n with
 | zero => have:m=0:=by omega
           subst this; exact fun _ _ h=>h
 |succ n ih=>
  rcases Nat.lt_or_ge n m with h'|h'
  ·grind [Le,qa8]
  ·exact fun t r ht=>qin n t r (ih h' t r ht)
open Classical in
noncomputable def Z(prog:Nat->Option PFun)(t:Task):Option Res:=if h : ∃ n r,qa8 prog n t=some r then qa8 prog (Classical.choose h) t else none
theorem Z_iff{t:Task}{r:Res}:Z prog t=some r ↔ ∃ n,qa8 prog n t=some r:=by
 classical
 unfold Z
 constructor
 ·intro h
  split at h
  ·exact⟨_,h⟩
  ·cases h
 ·rintro ⟨n,hn⟩
  have hex : ∃ n r,qa8 prog n t=some r:=⟨n,r,hn⟩
  rw[dif_pos hex]
  obtain⟨r',hr'⟩:=Classical.choose_spec hex
  have h1:=qaK (prog:=prog) (Nat.le_max_left n (Classical.choose hex)) t r hn
  have h2:=qaK (prog:=prog) (Nat.le_max_right n (Classical.choose hex)) t r' hr'
  rw[h1] at h2
  rw[hr',h2]
theorem qoQ{n:Nat}{t:Task}{r:Res}(h:qa8 prog n t=some r):Z prog t=some r:=Z_iff.2 ⟨n,h⟩
theorem qbY{f:List V->S->Task}{args:List V}{σ : S}{r:V × S}(hr:qaW (Z prog) f args σ = some r) : ∃ n,qaW (qa8 prog n) f args σ = some r:=by
 unfold qaW at hr ⊢
 simp only at hr ⊢
 split at hr
 ·split at hr
  ·cases hr
  ·rename_i v s' hnp hc
   obtain⟨n,hn⟩:=Z_iff.1 hc
   exact⟨n,by simp only[hn]; exact hr⟩
  ·cases hr
 ·cases hr
theorem qdN{f:List V->S->Task}{args:List V}{σ : S}{r:V × S}(hr:qba (Z prog) f args σ = some r) : ∃ n,qba (qa8 prog n) f args σ = some r:=by
 unfold qba at hr ⊢
 simp only at hr ⊢
 split at hr
 ·split at hr
  ·rename_i v s' hc
   obtain⟨n,hn⟩:=Z_iff.1 hc
   exact⟨n,by simp only[hn]; exact hr⟩
  ·cases hr
 ·cases hr
theorem qkr{fr:Fr}{σ : S}{op:O}{r:V × S}(hr:qa3 (Z prog) fr σ op=some r) : ∃ n,qa3 (qa8 prog n) fr σ op=some r:=by
 cases op with
 |call f xs=>
  simp only[qa3] at hr ⊢
  split at hr
  ·exact qdN hr
  ·cases hr
 |callv f xs=>
  simp only[qa3] at hr ⊢
  split at hr
  ·exact qdN hr
  ·exact qdN hr
  ·cases hr
 |invoke tbl x xs=>
  simp only[qa3] at hr ⊢
  split at hr
  ·split at hr
   ·exact qdN hr
   ·cases hr
  ·cases hr
 |_=>exact⟨0,hr⟩
theorem qfE{fr:Fr}{σ : S}{op:O}{r:V × S}(hr:qan (Z prog) fr σ op=some r) : ∃ n,qan (qa8 prog n) fr σ op=some r:=by
 cases op with
 |call f xs=>
  simp only[qan] at hr ⊢
  split at hr
  ·exact qbY hr
  ·cases hr
 |callv f xs=>
  simp only[qan] at hr ⊢
  split at hr
  ·exact qbY hr
  ·exact qbY hr
  ·exact qbY hr
  ·cases hr
 |invoke tbl x xs=>
  simp only[qan] at hr ⊢
  split at hr
  ·split at hr
   ·exact qbY hr
   ·cases hr
  ·cases hr
 |_=>exact⟨0,hr⟩
theorem qhy : ∀ {is:List I} {fr:Fr} {σ : S} {r:Fr × S},qcT (Z prog) is fr σ = some r -> ∃ n,qcT (qa8 prog n) is fr σ = some r
 |[],_,_,_,hr=>⟨0,hr⟩
 |i::is,fr,σ,r,hr=>by
  simp only[qcT] at hr ⊢
  split at hr
  ·rename_i hw
   split at hr
   ·rename_i v σ' hv
    obtain⟨n,hn⟩:=qfE hv
    obtain⟨m,hm⟩:=qhy hr
    refine⟨max n m,?_⟩
    simp only[qbo (qaK (Nat.le_max_left n m)) hn]
    exact qdM (qaK (Nat.le_max_right n m)) hm
   ·cases hr
  ·exact qhy hr
  ·cases hr
theorem qfF : ∀ {is:List I} {fr:Fr} {σ : S} {r:List Ev × Fr × S},qbs (Z prog) is fr σ = some r -> ∃ n,qbs (qa8 prog n) is fr σ = some r
 |[],_,_,_,hr=>⟨0,hr⟩
 |i::is,fr,σ,r,hr=>by
  simp only[qbs] at hr ⊢
  split at hr
  ·rename_i hw
   split at hr
   ·rename_i v σ' hv
    obtain⟨n,hn⟩:=qfE hv
    split at hr
    ·rename_i l fr' σ'' hrest
     obtain⟨m,hm⟩:=qfF hrest
     refine⟨max n m,?_⟩
     simp only[qbo (qaK (Nat.le_max_left n m)) hn,qcj (qaK (Nat.le_max_right n m)) hm]
     exact hr
    ·cases hr
   ·cases hr
  ·split at hr
   ·rename_i l fr' σ'' hrest
    obtain⟨m,hm⟩:=qfF hrest
    exact⟨m,by simp only[hm]; exact hr⟩
   ·cases hr
  ·cases hr
theorem qhz : ∀ {is:List I} {fr:Fr} {σ : S} {r:List (Fr × S)},qdB (Z prog) is fr σ = some r -> ∃ n,qdB (qa8 prog n) is fr σ = some r
 |[],_,_,_,hr=>⟨0,hr⟩
 |i::is,fr,σ,r,hr=>by
  simp only[qdB] at hr ⊢
  split at hr
  ·rename_i hw
   split at hr
   ·rename_i v σ' hv
    obtain⟨n,hn⟩:=qfE hv
    split at hr
    ·rename_i l hrest
     obtain⟨m,hm⟩:=qhz hrest
     refine⟨max n m,?_⟩
     simp only[qbo (qaK (Nat.le_max_left n m)) hn,qcI (qaK (Nat.le_max_right n m)) hm]
     exact hr
    ·cases hr
   ·cases hr
  ·split at hr
   ·rename_i l hrest
    obtain⟨m,hm⟩:=qhz hrest
    exact⟨m,by simp only[hm]; exact hr⟩
   ·cases hr
  ·cases hr
theorem qfG : ∀ {is:List I} {fr:Fr} {σ : S} {r:V × Fr × S},qbA (Z prog) is fr σ = some r -> ∃ n,qbA (qa8 prog n) is fr σ = some r
 |[],_,_,_,hr=>by simp[qbA] at hr
 |i::is,fr,σ,r,hr=>by
  simp only[qbA] at hr ⊢
  split at hr
  ·rename_i hw
   split at hr
   ·rename_i v σ' hv
    obtain⟨n,hn⟩:=qfE hv
    obtain⟨m,hm⟩:=qfG hr
    refine⟨max n m,?_⟩
    simp only[qbo (qaK (Nat.le_max_left n m)) hn]
    exact (qci (qaK (Nat.le_max_right n m)) hm).1
   ·split at hr
    ·rename_i v σ' hv
     obtain⟨n,hn⟩:=qkr hv
     exact⟨n,by simp only[qei (fun _ _ h=>h) hn,hn]; exact hr⟩
    ·cases hr
  ·exact qfG hr
  ·cases hr
theorem qeT : ∀ {is:List I} {q:Nat} {fr:Fr} {σ : S} {r:Nat × List Ev × V × S},qbe (Z prog) q is fr σ = some r -> ∃ n,qbe (qa8 prog n) q is fr σ = some r
 |[],_,_,_,_,hr=>by simp[qbe] at hr
 |i::is,q,fr,σ,r,hr=>by
  simp only[qbe] at hr ⊢
  split at hr
  ·rename_i hw
   split at hr
   ·rename_i v σ' hv
    obtain⟨n,hn⟩:=qfE hv
    split at hr
    ·rename_i p l u σ'' hrest
     obtain⟨m,hm⟩:=qeT hrest
     refine⟨max n m,?_⟩
     simp only[qbo (qaK (Nat.le_max_left n m)) hn,(qbX (qaK (Nat.le_max_right n m)) hm).1]
     exact hr
    ·cases hr
   ·split at hr
    ·rename_i v σ' hv
     obtain⟨n,hn⟩:=qkr hv
     exact⟨n,by simp only[qei (fun _ _ h=>h) hn,hn]; exact hr⟩
    ·cases hr
  ·split at hr
   ·rename_i p l u σ'' hrest
    obtain⟨m,hm⟩:=qeT hrest
    exact⟨m,by simp only[hm]; exact hr⟩
   ·cases hr
  ·cases hr
theorem qck{k:Nat} : ∀ {pc:PC} {fr:Fr} {σ : S} {r:Ex × Fr × S},run (Z prog) k pc fr σ = some r -> ∃ n,run (qa8 prog n) k pc fr σ = some r
 |.range f ps as bd,fr,σ,r,hr=>by grind [run,Z,qa8,qbY]
 |.skip,_,_,_,hr=>⟨0,hr⟩
 |.exit _,_,_,_,hr=>⟨0,hr⟩
 |.ret,_,_,_,hr=>⟨0,hr⟩
 |.region none ops keep _,fr,σ,r,hr=>by
  simp only[run] at hr ⊢
  split at hr
  ·grind [run,Z,qa8,qhy]
  ·split at hr
   ·rename_i v fr' σ' hx
    obtain⟨n,hn⟩:=qfG hx
    exact⟨n,by simp only[hn,(qci (fun _ _ h=>h) hn).2]; exact hr⟩
   ·cases hr
 |.region (some rs) ops keep _,fr,σ,r,hr=>by
  simp only[run] at hr ⊢
  split at hr
  ·rename_i es fr' σ' hx
   obtain⟨n,hn⟩:=qfF hx
   split at hr
   ·grind
   ·rename_i hc
    split at hr
    ·rename_i ss ht
     obtain⟨m,hm⟩:=qhz ht
     refine⟨max n m,?_⟩
     simp only[qcj (qaK (Nat.le_max_left n m)) hn,qcI (qaK (Nat.le_max_right n m)) hm]
     rw[if_neg hc]; exact hr
    ·cases hr
  ·split at hr
   ·rename_i p es v σ' hx
    obtain⟨n,hn⟩:=qeT hx
    exact⟨n,by simp only[hn,(qbX (fun _ _ h=>h) hn).2]; exact hr⟩
   ·cases hr
 |.seq a b,fr,σ,r,hr=>by
  simp only[run] at hr ⊢
  split at hr
  ·rename_i fr' σ' hx
   obtain⟨n,hn⟩:=qck hx
   obtain⟨m,hm⟩:=qck hr
   refine⟨max n m,?_⟩
   simp only[qaJ (qaK (Nat.le_max_left n m)) hn]
   exact qaJ (qaK (Nat.le_max_right n m)) hm
  ·rename_i hne
   obtain⟨n,hn⟩:=qck hr
   refine⟨n,?_⟩
   rw[hn]
   obtain⟨e,fr',σ'⟩:=r
   cases e with
   |normal=>exact absurd hr (hne _ _)
   |exit id=>rfl
   |ret=>rfl
   |pan v=>rfl
 |.cond c a b,fr,σ,r,hr=>by
  simp only[run] at hr ⊢
  split at hr
  ·exact qck hr
  ·exact qck hr
  ·cases hr
 |.block id b,fr,σ,r,hr=>by
  simp only[run] at hr ⊢
  split at hr
  ·rename_i id' fr' σ' hx
   obtain⟨n,hn⟩:=qck hx
   exact⟨n,by simp only[hn]; exact hr⟩
  ·rename_i hne
   obtain⟨n,hn⟩:=qck hr
   refine⟨n,?_⟩
   rw[hn]
   obtain⟨e,fr',σ'⟩:=r
   cases e with
   |normal=>rfl
   |exit id=>exact absurd hr (hne _ _ _)
   |ret=>rfl
   |pan v=>rfl
 |.loop b,fr,σ,r,hr=>by
  simp only[run] at hr ⊢
  split at hr
  ·rename_i e fr' σ' hx
   obtain⟨n,hn⟩:=Z_iff.1 hx
   exact⟨n,by simp only[hn]; exact hr⟩
  ·cases hr
theorem qdi : ∀ {l:List V} {σ : S} {r:S},qaS (Z prog) l σ = some r -> ∃ n,qaS (qa8 prog n) l σ = some r
 |[],σ,r,hr=>⟨0,hr⟩
 |v::l,σ,r,hr=>by
  unfold qaS at hr ⊢
  split at hr
  ·rename_i e; cases e
  ·rename_i id a r' e
   cases e
   split at hr
   ·rename_i v' σ' hc
    obtain⟨n,hn⟩:=qbY hc
    obtain⟨m,hm⟩:=qdi hr
    refine⟨max n m,?_⟩
    simp only[qa5 (qaK (Nat.le_max_left n m)) hn]
    exact qbp (qaK (Nat.le_max_right n m)) hm
   ·cases hr
  ·cases hr
theorem qks{pf:PFun}{k:Nat}{fr:Fr}{σ : S}{r:Res}(hr:(if pf.df then qdg (Z prog) pf k fr σ else qbt pf k fr σ)=some r) : ∃ n,(if pf.df then qdg (qa8 prog n) pf k fr σ else qbt pf k fr σ)=some r:=by
 split at hr
 ·grind [qdg,Z,qbt,qa8,qdi]
 ·rename_i hd
  simp only[if_neg hd]
  exact⟨0,hr⟩
theorem qmf{pf:PFun}{k:Nat}{v:V}{fr:Fr}{σ : S}{r:Res}(hr:qcU (Z prog) pf k v fr σ = some r) : ∃ n,qcU (qa8 prog n) pf k v fr σ = some r:=by
 unfold qcU at hr ⊢
 split at hr
 ·exact⟨0,hr⟩
 ·split at hr
  ·cases hr
  ·rename_i hn
   simp only[if_neg hn]
   split at hr
   ·rename_i v' σ' hc
    obtain⟨n,hn⟩:=qbY hc
    split at hr
    ·rename_i σ'' hx
     obtain⟨m,hm⟩:=qdi hx
     refine⟨max n m,?_⟩
     simp only[qa5 (qaK (Nat.le_max_left n m)) hn,qbp (qaK (Nat.le_max_right n m)) hm]
     exact hr
    ·cases hr
   ·cases hr
 ·cases hr
theorem qjE{pf:PFun}{args:List V}{σ : S}{r:Res}(h:qa0 (Z prog) pf args σ = some r) : ∃ n,qa0 (qa8 prog n) pf args σ = some r:=by
 have lv : ∀ {n m k fr σ},(if pf.df then qdg (qa8 prog m) pf k fr σ else qbt pf k fr σ)=some r->m<=n->(if pf.df then qdg (qa8 prog n) pf k fr σ else qbt pf k fr σ)=some r:=fun hr hle=>by
  split at hr
  ·rename_i hd; rw[if_pos hd]; exact qgL (qaK hle) hr
  ·rename_i hd; rw[if_neg hd]; exact hr
 unfold qa0 at h ⊢
 split at h
 ·rename_i hl
  simp only[if_pos hl]
  split at h
  ·rename_i fr σ' hx
   obtain⟨n,hn⟩:=qck hx
   obtain⟨m,hm⟩:=qks h
   refine⟨max n m,?_⟩
   simp only[qaJ (qaK (Nat.le_max_left n m)) hn]
   exact lv hm (Nat.le_max_right n m)
  ·rename_i fr σ' hx
   obtain⟨n,hn⟩:=qck hx
   obtain⟨m,hm⟩:=qks h
   refine⟨max n m,?_⟩
   simp only[qaJ (qaK (Nat.le_max_left n m)) hn]
   exact lv hm (Nat.le_max_right n m)
  ·rename_i v fr σ' hx
   obtain⟨n,hn⟩:=qck hx
   obtain⟨m,hm⟩:=qmf h
   refine⟨max n m,?_⟩
   simp only[qaJ (qaK (Nat.le_max_left n m)) hn]
   exact qfD (qaK (Nat.le_max_right n m)) hm
  ·cases h
 ·cases h
theorem qbL{f:Nat}{pf:PFun}{args:List V}{σ : S}{r:Res}(hf:prog f=some pf)(hc:pf.catches=false)(h:qa0 (Z prog) pf args σ = some r):Z prog (.call f args σ)=some r:=by
 obtain⟨n,hn⟩:=qjE h
 exact qoQ (n:=n+1) (by simp only[qa8,hf,hc,Bool.false_eq_true,if_false,hn])
theorem qmg{f:Nat}{pf:PFun}{args:List V}{σ : S}{r:Res}(hf:prog f=some pf)(h:qaA (Z prog) pf args σ = some r):Z prog (.dcall f args σ)=some r:=by
 have : ∃ n,qaA (qa8 prog n) pf args σ = some r:=by
  unfold qaA at h ⊢
  split at h
  ·grind [qaA,Z,qck]
  ·cases h
 obtain⟨n,hn⟩:=this
 exact qoQ (n:=n+1) (by simp only[qa8,hf,hn])
theorem qfH{k:Nat}{b:PC}{fr fr0 fr':Fr}{σ σ0 σ':S}{r:Res}(hg:gcF k fr σ = some (fr0,σ0))(h:run (Z prog) k b fr0 σ0=some (.normal,fr',σ'))(hr:Z prog (.loop k b fr' σ')=some r):Z prog (.loop k b fr σ)=some r:=by
 obtain⟨n,hn⟩:=qck h
 obtain⟨m,hm⟩:=Z_iff.1 hr
 refine qoQ (n:=max n m+1) ?_
 simp only[qa8,hg,qaJ (qaK (Nat.le_max_left n m)) hn]
 exact qaK (Nat.le_max_right n m) _ _ hm
theorem qdO{k:Nat}{b:PC}{fr fr0 fr':Fr}{σ σ0 σ':S}{e:Ex}(he:e ≠ .normal)(hg:gcF k fr σ = some (fr0,σ0))(h:run (Z prog) k b fr0 σ0=some (e,fr',σ')):Z prog (.loop k b fr σ)=some (.out e fr' σ'):=by
 obtain⟨n,hn⟩:=qck h
 refine qoQ (n:=n+1) ?_
 simp only[qa8,hg,hn]
 all_goals (cases e with
  |normal=>exact absurd rfl he
  |exit id=>rfl
  |ret=>rfl
  |pan v=>rfl)
theorem qmh{args:List V}{σ : S}{r:Res}(h:qbg (Z prog) args σ = some r):Z prog (.round args σ)=some r:=by
 have : ∃ n,qbg (qa8 prog n) args σ = some r:=by
  unfold qbg at h ⊢
  split at h
  ·split at h
   ·split at h
    ·rename_i hlp hc
     simp only[if_pos hc]
     split at h
     ·rename_i fr1 σ1 hx
      obtain⟨n,hn⟩:=qck hx
      split at h
      ·split at h
       ·rename_i hlp1 hst
        split at h
        ·cases h
        ·rename_i e fr2 σ2 hnp hy
         obtain⟨m,hm⟩:=qck hy
         refine⟨max n m,?_⟩
         simp only[qaJ (qaK (Nat.le_max_left n m)) hn,hlp1,if_pos hst,qaJ (qaK (Nat.le_max_right n m)) hm]
         cases e with
         |pan v=>exact (hnp _ rfl).elim
         |normal=>exact h
         |exit id=>exact h
         |ret=>exact h
        ·cases h
       ·cases h
      ·cases h
     ·cases h
    ·cases h
   ·cases h
  ·cases h
 obtain⟨n,hn⟩:=this
 exact qoQ (n:=n+1) (by simp only[qa8,hn])
variable{P:Program}{ids:Ids}{fid:Fid}
def qmi(w:World):Nat->Nat:=fun b=>match w.heap[b]? with
 |some (.cells arr _ _)=>arr.size
 |_=>0
def qeU(w:World):Ctx:=⟨[],fun _=>none,qmi w,w⟩
def GlbAt(fid:Fid)(w:World):Prop := ∀ g cs,fid.gl g=some cs -> ∃ vs,RepDs (qmi w) w cs vs/\Row (qmi w) w g 0 vs
theorem qls{w:World}(hg:GlbAt fid w):Real fid (qeU w):=by
 refine⟨fun l ob b h=>by simp[qeU] at h,fun l b h=>by simp[qeU] at h,fun l l' b h=>by simp[qeU] at h,fun b hb=>?_,hg⟩
 simp only[qeU,qmi] at hb ⊢
 cases h:w.heap[b]? with
 |none=>rw[h] at hb; simp at hb
 |some o=>
  rw[h] at hb
  cases o<;>simp only at hb<;>first | (exact absurd hb (Nat.lt_irrefl _)) | exact⟨_,_,_,rfl,Nat.le_refl _⟩
theorem calls_of_Z (hid:Ties P ids fid) (hcr:Codes P ids fid) (hm:P.follows .mixedOrders=true) (ht:Tied P ids fid prog) {f:Nat} {args:List V} {xs:List Value} {d:Value} {σ':S} {w:World} (h:Z prog (.call f args [])=some (.ret (.dat (.lit d)) σ')) (hg:GlbAt fid w)
  (ha:Reps fid (qeU w) args xs):Calls P (fid f) xs.toArray w fun e w'=>e = .returned d/\w'.os=w.os/\w'.tape=w.tape/\w'.output=w.output/\w.heap.size<=w'.heap.size /\ ∀ k,k<w.heap.size->w'.heap[k]?=w.heap[k]?:=by
 obtain⟨n,hn⟩:=Z_iff.1 h
 obtain⟨_,hs⟩:=(qgT hid hcr hm ht n).1.call _ _ _ _ _ hn
 refine (callsIn_wide.1 (hs (qeU w) xs rfl (qls hg) ha)).mono ?_
 rintro e w' ⟨Γ',rfl,_,_,h3,hout⟩
 rcases hout with ⟨x,rfl,h4⟩|⟨u,x,hu,_⟩
 rotate_left
 ·cases hu
 refine⟨by rw[(qat h4).1],h3.ext.os,h3.ext.tape,h3.ext.output,h3.ext.size,fun k hk=>(h3.frm.same k hk fun l h=>by simp[qeU] at h).1⟩
end Go.Pm
namespace Go.Pm
variable{prog:Nat->Option PFun}
theorem qhA{α : Type}{a b:Option α}(h : ∀ r,a=some r->b=some r)(k : ∀ r,b=some r->a=some r):a=b:=by
 cases a with
 |some r=>exact (h r rfl).symm
 |none=>cases b with
  |none=>rfl
  |some r=>exact k r rfl
theorem qkt{n:Nat}:Le (qa8 prog n) (Z prog):=fun _ _ h=>qoQ h
theorem qtr{f:Nat}{pf:PFun}(hf:prog f=some pf)(args:List V)(σ : S)(hc:pf.catches=false:=by rfl):Z prog (.call f args σ)=qa0 (Z prog) pf args σ:=by
 refine qhA (fun r h=>?_) (fun r h=>qbL hf hc h)
 obtain⟨n,hn⟩:=Z_iff.1 h
 cases n with
 |zero=>simp[qa8] at hn
 |succ n=>
  simp only[qa8,hf,hc,Bool.false_eq_true,if_false] at hn
  exact qcc qkt hn
theorem qro{f:Nat}{pf:PFun}(hf:prog f=some pf)(args:List V)(σ : S):Z prog (.dcall f args σ)=qaA (Z prog) pf args σ:=by
 refine qhA (fun r h=>?_) (fun r h=>qmg hf h)
 obtain⟨n,hn⟩:=Z_iff.1 h
 cases n with
 |zero=>simp[qa8] at hn
 |succ n=>
  simp only[qa8,hf] at hn
  exact qbU qkt hn
def qdP(C:Task->Option Res)(k:Nat)(b:PC):Option (Fr × S)->Option Res
 |some (fr0,σ0)=>match run C k b fr0 σ0 with
  |some (.normal,fr',σ')=>C (.loop k b fr' σ')
  |some (e,fr',σ')=>some (.out e fr' σ')
  |none=>none
 |none=>none
theorem qfI(k:Nat)(b:PC)(fr:Fr)(σ : S):Z prog (.loop k b fr σ)=qdP (Z prog) k b (gcF k fr σ):=by
 refine qhA (fun r h=>?_) (fun r h=>?_)
 ·obtain⟨n,hn⟩:=Z_iff.1 h
  cases n with
  |zero=>simp[qa8] at hn
  |succ n=>
   simp only[qa8] at hn
   split at hn
   ·grind [qdP,Z,gcF,qaJ,qkt,qoQ]
   ·cases hn
 ·grind [qdP,Z,gcF,qfH,qdO]
theorem qrp(args:List V)(σ : S):Z prog (.round args σ)=qbg (Z prog) args σ:=by
 refine qhA (fun r h=>?_) (fun r h=>qmh h)
 obtain⟨n,hn⟩:=Z_iff.1 h
 cases n with
 |zero=>simp[qa8] at hn
 |succ n=>
  simp only[qa8] at hn
  exact qcb qkt hn
theorem qku{prog prog':Nat->Option PFun}(hs : ∀ f pf,prog f=some pf->prog' f=some pf) : ∀ n,Le (qa8 prog n) (qa8 prog' n)
 |0=>fun t r h=>by simp[qa8] at h
 |n+1=>fun t r h=>by
  have ih:=qku hs n
  cases t with
  |call f args σ=>
   simp only[qa8] at h ⊢
   split at h
   ·grind [Le,qa8,qcc]
   ·cases h
  |dcall f args σ=>
   simp only[qa8] at h ⊢
   split at h
   ·grind [Le,qa8,qbU]
   ·cases h
  |round args σ=>
   simp only[qa8] at h ⊢
   exact qcb ih h
  |loop k b fr σ=>
   simp only[qa8] at h ⊢
   split at h
   ·grind [Le,qa8,qaJ]
   ·cases h
theorem qwa{prog prog':Nat->Option PFun}(hs : ∀ f pf,prog f=some pf->prog' f=some pf){t:Task}{r:Res}(h:Z prog t=some r):Z prog' t=some r:=by
 obtain⟨n,hn⟩:=Z_iff.1 h
 exact qoQ (qku hs n _ _ hn)
end Go.Pm
end
namespace Go.Pm
section
universe u
variable{α : Type u}
mutual
def fD:D->(D -> α) -> α
 |.lit v,k=>k (.lit v)
 |.sl cs n f,k=>fDs cs fun cs=>k (.sl cs n f)
 |.imm cs o,k=>fDs cs fun cs=>k (.imm cs o)
 |.agg cs,k=>fDs cs fun cs=>k (.agg cs)
 |.iface t d,k=>fD d fun d=>k (.iface t d)
def fDs:List D->(List D -> α) -> α
 |[],k=>k []
 |d::ds,k=>fD d fun d=>fDs ds fun ds=>k (d::ds)
end
mutual
theorem qqM : ∀ (d:D) (k:D -> α),fD d k=k d
 |.lit _,_=>by simp only[fD]
 |.sl cs _ _,_=>by simp only[fD,qhf cs]
 |.imm cs _,_=>by simp only[fD,qhf cs]
 |.agg cs,_=>by simp only[fD,qhf cs]
 |.iface _ d,_=>by simp only[fD,qqM d]
theorem qhf : ∀ (ds:List D) (k:List D -> α),fDs ds k=k ds
 |[],_=>by simp only[fDs]
 |d::ds,_=>by simp only[fDs,qqM d,qhf ds]
end
mutual
def fV:V->(V -> α) -> α
 |.dat d,k=>fD d fun d=>k (.dat d)
 |.ptr l o,k=>k (.ptr l o)
 |.gsl cs n sz l,k=>fDs cs fun cs=>k (.gsl cs n sz l)
 |.msl l o n cap sz,k=>k (.msl l o n cap sz)
 |.own l n sz,k=>k (.own l n sz)
 |.eptr l n o,k=>k (.eptr l n o)
 |.vw l n o m sz,k=>k (.vw l n o m sz)
 |.rw cs n,k=>fVs cs fun cs=>k (.rw cs n)
 |.bm g v,k=>fV v fun v=>k (.bm g v)
 |.agg cs,k=>fVs cs fun cs=>k (.agg cs)
 |.fn f a b,k=>fVs a fun a=>fVs b fun b=>k (.fn f a b)
 |.mp l,k=>k (.mp l)
 |.iface t v,k=>fV v fun v=>k (.iface t v)
 |.tup vs,k=>fVs vs fun vs=>k (.tup vs)
 |.yld l,k=>k (.yld l)
 |.pan v,k=>fV v fun v=>k (.pan v)
def fVs:List V->(List V -> α) -> α
 |[],k=>k []
 |v::vs,k=>fV v fun v=>fVs vs fun vs=>k (v::vs)
end
mutual
theorem qjm : ∀ (v:V) (k:V -> α),fV v k=k v
 |.dat d,_=>by simp only[fV,qqM]
 |.ptr _ _,_=>by simp only[fV]
 |.gsl cs _ _ _,_=>by simp only[fV,qhf]
 |.msl _ _ _ _ _,_=>by simp only[fV]
 |.own _ _ _,_=>by simp only[fV]
 |.eptr _ _ _,_=>by simp only[fV]
 |.vw _ _ _ _ _,_=>by simp only[fV]
 |.rw cs _,_=>by simp only[fV,qb9 cs]
 |.bm _ v,_=>by simp only[fV,qjm v]
 |.agg cs,_=>by simp only[fV,qb9 cs]
 |.fn _ a b,_=>by simp only[fV,qb9 a,qb9 b]
 |.mp _,_=>by simp only[fV]
 |.iface _ v,_=>by simp only[fV,qjm v]
 |.tup vs,_=>by simp only[fV,qb9 vs]
 |.yld _,_=>by simp only[fV]
 |.pan v,_=>by simp only[fV,qjm v]
theorem qb9 : ∀ (vs:List V) (k:List V -> α),fVs vs k=k vs
 |[],_=>by simp only[fVs]
 |v::vs,_=>by simp only[fVs,qjm v,qb9 vs]
end
def fE:List (Value × V)->(List (Value × V) -> α) -> α
 |[],k=>k []
 | (a,v)::r,k=>fV v fun v=>fE r fun r=>k ((a,v)::r)
theorem quJ : ∀ (es:List (Value × V)) (k:List (Value × V) -> α),fE es k=k es
 |[],_=>rfl
 | (a,v)::r,k=>by simp only[fE,qjm,quJ r]
def fF:Fr->(Fr -> α) -> α
 |[],k=>k []
 | (a,v)::r,k=>fV v fun v=>fF r fun r=>k ((a,v)::r)
theorem qqN : ∀ (es:Fr) (k:Fr -> α),fF es k=k es
 |[],_=>rfl
 | (a,v)::r,k=>by simp only[fF,qjm,qqN r]
def fOb:Ob->(Ob -> α) -> α
 |.cells cs,k=>fVs cs fun cs=>k (.cells cs)
 |.map es,k=>fE es fun es=>k (.map es)
 |.tip n,k=>k (.tip n)
 |.loop lp,k=>fF lp.fr fun fr=>k (.loop { lp with fr:=fr })
 |.vec cs,k=>fVs cs fun cs=>k (.vec cs)
 |.cellsT t cs,k=>fVs cs fun cs=>k (.cellsT t cs)
 |.vecT t cs,k=>fVs cs fun cs=>k (.vecT t cs)
 |.froz cs,k=>fDs cs fun cs=>k (.froz cs)
 |.dead,k=>k .dead
 |.iter l,k=>k (.iter l)
theorem qnh : ∀ (o:Ob) (k:Ob -> α),fOb o k=k o
 |.cells _,_=>by simp only[fOb,qb9]
 |.map _,_=>by simp only[fOb,quJ]
 |.tip _,_=>rfl
 |.loop _,_=>by simp only[fOb,qqN]
 |.vec _,_=>by simp only[fOb,qb9]
 |.cellsT _ _,_=>by simp only[fOb,qb9]
 |.vecT _ _,_=>by simp only[fOb,qb9]
 |.froz _,_=>by simp only[fOb,qhf]
 |.dead,_=>rfl
 |.iter _,_=>rfl
def fS:S->(S -> α) -> α
 |[],k=>k []
 |o::r,k=>fOb o fun o=>fS r fun r=>k (o::r)
theorem qni : ∀ (σ : S) (k:S -> α),fS σ k=k σ
 |[],_=>rfl
 |o::r,k=>by simp only[fS,qnh,qni r]
mutual
theorem V.ren_id{r:Nat->Nat} : ∀ (v:V),(∀ l∈v.locs,r l=l)->v.ren r=v
 |.dat _,_=>rfl
 |.ptr l o,h=>by simp only[V.ren]; rw[h l (by simp[V.locs])]
 |.gsl cs n sz l,h=>by simp only[V.ren]; rw[h l (by simp[V.locs])]
 |.msl l _ _ _ _,h=>by simp only[V.ren]; rw[h l (by simp[V.locs])]
 |.own l _ _,h=>by simp only[V.ren]; rw[h l (by simp[V.locs])]
 |.eptr l _ _,h=>by simp only[V.ren]; rw[h l (by simp[V.locs])]
 |.vw l _ _ _ _,h=>by simp only[V.ren]; rw[h l (by simp[V.locs])]
 |.rw cs n,h=>by simp only[V.ren]; rw[qco cs (by simpa only [V.locs] using h)]
 |.bm g v,h=>by simp only[V.ren]; rw[V.ren_id v (by simpa only [V.locs] using h)]
 |.agg cs,h=>by simp only[V.ren]; rw[qco cs (by simpa only [V.locs] using h)]
 |.fn f a b,h=>by
  simp only[V.locs,List.mem_append] at h
  simp only[V.ren]; rw[qco a fun l hl=>h l (.inl hl),qco b fun l hl=>h l (.inr hl)]
 |.mp l,h=>by simp only[V.ren]; rw[h l (by simp[V.locs])]
 |.iface t v,h=>by simp only[V.ren]; rw[V.ren_id v (by simpa only [V.locs] using h)]
 |.tup vs,h=>by simp only[V.ren]; rw[qco vs (by simpa only [V.locs] using h)]
 |.yld l,h=>by simp only[V.ren]; rw[h l (by simp[V.locs])]
 |.pan v,h=>by simp only[V.ren]; rw[V.ren_id v (by simpa only [V.locs] using h)]
theorem qco{r:Nat->Nat} : ∀ (vs:List V),(∀ l∈qav vs,r l=l)->qcw r vs=vs
 |[],_=>rfl
 |v::vs,h=>by
  simp only[qav,List.mem_append] at h
  simp only[qcw]; rw[V.ren_id v fun l hl=>h l (.inl hl),qco vs fun l hl=>h l (.inr hl)]
end
theorem qnj{r:Nat->Nat} : ∀ (es:List (Value × V)),(∀ l∈qfo es,r l=l)->qoZ r es=es
 |[],_=>rfl
 | (k,v)::es,h=>by
  simp only[qfo,List.mem_append] at h
  simp only[qoZ]; rw[V.ren_id v fun l hl=>h l (.inl hl),qnj es fun l hl=>h l (.inr hl)]
theorem qka{r:Nat->Nat} : ∀ (es:Fr),(∀ l∈qa9 es,r l=l)->qhT r es=es
 |[],_=>rfl
 | (k,v)::es,h=>by
  simp only[qa9,List.mem_append] at h
  simp only[qhT]; rw[V.ren_id v fun l hl=>h l (.inl hl),qka es fun l hl=>h l (.inr hl)]
theorem Ob.ren_id{r:Nat->Nat} : ∀ (o:Ob),(∀ l∈o.locs,r l=l)->o.ren r=o
 |.cells cs,h=>by simp only[Ob.ren]; rw[qco cs h]
 |.map es,h=>by simp only[Ob.ren]; rw[qnj es h]
 |.tip _,_=>rfl
 |.loop lp,h=>by simp only[Ob.ren]; rw[qka lp.fr h]
 |.vec cs,h=>by simp only[Ob.ren]; rw[qco cs h]
 |.cellsT _ cs,h=>by simp only[Ob.ren]; rw[qco cs h]
 |.vecT _ cs,h=>by simp only[Ob.ren]; rw[qco cs h]
 |.froz _,_=>rfl
 |.dead,_=>rfl
 |.iter l,h=>by simp only[Ob.ren]; rw[h l (by simp[Ob.locs])]
def fNs:List Nat->(List Nat -> α) -> α
 |[],k=>k []
 |n::r,k=>fNs r fun r=>k (n::r)
theorem qhg : ∀ (l:List Nat) (k:List Nat -> α),fNs l k=k l
 |[],_=>rfl
 |n::r,k=>by simp only[fNs,qhg r]
def fOs:S->(S -> α) -> α
 |[],k=>k []
 |o::r,k=>fOs r fun r=>k (o::r)
theorem qlb : ∀ (l:S) (k:S -> α),fOs l k=k l
 |[],_=>rfl
 |n::r,k=>by simp only[fOs,qlb r]
def qqO(r:Nat->Nat)(o:Ob)(k:Ob -> α) : α := match o.locs with
 |[]=>k o
 |_::_=>fOb (o.ren r) k
theorem qoB(r:Nat->Nat)(o:Ob)(k:Ob -> α):qqO r o k=k (o.ren r):=by
 unfold qqO
 split
 ·rename_i h; rw[Ob.ren_id o (by simp[h])]
 ·rw[qnh]
def qgn(r:Nat->Nat):S->(S -> α) -> α
 |[],k=>k []
 |o::os,k=>qqO r o fun o=>qgn r os fun os=>k (o::os)
theorem qgo(r:Nat->Nat) : ∀ (os:S) (k:S -> α),qgn r os k=k (os.map (Ob.ren r))
 |[],_=>rfl
 |o::os,k=>by simp only[qgn,qoB,qgo r os,List.map_cons]
def qmb:Nat->List Nat->Nat->Bool
 |i,[],n=>Nat.beq i n
 |i,l::ls,n=>cond (Nat.beq l i) (qmb (i+1) ls n) false
theorem qjn : ∀ {i:Nat} {L:List Nat} {n:Nat},qmb i L n=true->n=i+L.length /\ ∀ j l,L[j]?=some l->l=i+j
 |i,[],n,h=>by
  have:=Nat.eq_of_beq_eq_true h
  exact⟨by simp[this],fun j l hj=>by simp at hj⟩
 |i,l::ls,n,h=>by
  simp only[qmb] at h
  cases hb:Nat.beq l i with
  |false=>rw[hb] at h; cases h
  |true=>
   rw[hb] at h
   obtain⟨h1,h2⟩:=qjn h
   have hl:=Nat.eq_of_beq_eq_true hb
   refine⟨by simp only[List.length_cons]; omega,fun j l' hj=>?_⟩
   cases j with
   |zero=>simp at hj; omega
   |succ j=>have:=h2 j l' (by simpa using hj); omega
theorem qeY{L:List Nat}{n:Nat}(h:qmb 0 L n=true):L=List.range n:=by
 obtain⟨h1,h2⟩:=qjn h
 apply List.ext_getElem?
 intro j
 by_cases hj:j<L.length
 ·have:=h2 j L[j] (by simp[hj])
  simp[hj,show j<n by omega]
  omega
 ·rw[List.getElem?_eq_none (by omega),List.getElem?_eq_none (by simp; omega)]
theorem qgp{n l:Nat}(h:l∈List.range n):idx (List.range n) l=l:=qcg List.nodup_range (by rw[List.mem_range] at h; simp[h])
theorem ql0(σ : S):qde σ (List.range σ.length)=some σ:=by
 have key : ∀ (pre suf:S),qde (pre++suf) ((List.range suf.length).map (· + pre.length))=some suf:=by
  intro pre suf
  induction suf generalizing pre with
  |nil=>rfl
  |cons o r ih=>
   rw[List.length_cons,List.range_succ_eq_map]
   simp only[List.map_cons,List.map_map,qde]
   have h1:(pre++o::r)[0+pre.length]?=some o:=by simp
   rw[h1]
   have:=ih (pre++[o])
   simp only[List.append_assoc,List.singleton_append,List.length_append,List.length_singleton] at this
   have e:((fun x=>x+pre.length) ∘ Nat.succ)=(fun x=>x+(pre.length+1)):=by funext x; simp; omega
   rw[e,this]
 simpa using key [] σ
theorem qnk{L:List Nat}(h:L.Nodup):qd2 L=true:=by
 induction L with
 |nil=>rfl
 |cons a l ih=>
  obtain⟨h1,h2⟩:=List.nodup_cons.1 h
  simp[qd2,ih h2,h1]
def qcp(L:List Nat)(vs:List V)(σ : S)(k:Option (List V × S) -> α) : α:=
 cond (qmb 0 L σ.length)
  (cond (inL L (qav vs)&&closed L σ) (k (some (vs,σ))) (k none))
  (match qde σ L with
  |some obs=>cond (qd2 L&&(inL L (qav vs)&&closed L obs)) (fVs (qcw (idx L) vs) fun vs'=>qgn (idx L) obs fun obs'=>k (some (vs',obs'))) (k none)
  |none=>k none)
theorem qbC(L:List Nat)(vs:List V)(σ : S)(k:Option (List V × S) -> α):qcp L vs σ k=k (qaF L vs σ):=by
 unfold qcp
 cases hu:qmb 0 L σ.length with
 |true=>
  have:=qeY hu
  subst this
  simp only[cond_true,qaF,ql0,qnk List.nodup_range,Bool.true_and]
  cases hc:(inL (List.range σ.length) (qav vs)&&closed (List.range σ.length) σ) with
  |false=>simp
  |true=>
   simp only[Bool.and_eq_true] at hc
   simp only[cond_true,if_true]
   rw[qco vs fun l hl=>qgp (qdF hc.1 l hl)]
   congr 3
   symm
   have : ∀ (os:S),(∀ o∈os,∀ l∈o.locs,l∈List.range σ.length)->os.map (Ob.ren (idx (List.range σ.length)))=os:=fun os h=>by
    induction os with
    |nil=>rfl
    |cons o os ih=>rw[List.map_cons,Ob.ren_id o (fun l hl=>qgp (h o (by simp) l hl)),ih fun o' ho'=>h o' (by simp[ho'])]
   exact this σ (qec hc.2)
 |false=>
  simp only[cond_false,qaF]
  cases qde σ L with
  |none=>rfl
  |some obs=>
   simp only
   cases (qd2 L&&(inL L (qav vs)&&closed L obs))<;>simp[qb9,qgo]
theorem qhh(n i:Nat):back (List.range n) n i=i:=by
 unfold back
 by_cases h:i<n
 ·simp[h]
 ·rw[List.getElem?_eq_none (by simp; omega)]; simp; omega
theorem qh2 : ∀ (σ σ':S),σ.length <= σ'.length->qau σ (List.range σ.length) σ' = σ':=fun σ σ' h=>by
 obtain⟨h1,h2,_,h4⟩:=qc8 (σ := σ) (L:=List.range σ.length) (obs := σ') List.nodup_range (fun l hl=>by simpa using hl) (by simpa using h)
 simp only[List.length_range] at h1 h4
 apply List.ext_getElem?
 intro j
 by_cases hj:j < σ.length
 ·rw[h2 j j (by simp[hj])]
 ·have:=h4 (j - σ.length)
  rw[show σ.length+(j - σ.length)=j from by omega] at this
  exact this
def qnl(L:List Nat)(σ : S)(v:V)(σ':S):Option (V × S):=
 cond (qmb 0 L σ.length&&Nat.ble σ.length σ'.length) (some (v,σ'))
  (fV (v.ren (back L σ.length)) fun v=>qgn (back L σ.length) σ' fun σ''=>fOs (qau σ L σ'') fun σ3=>some (v,σ3))
theorem qh3(L:List Nat)(σ : S)(v:V)(σ':S):qnl L σ v σ'=some (v.ren (back L σ.length),qau σ L (σ'.map (Ob.ren (back L σ.length)))):=by
 unfold qnl
 cases hc:(qmb 0 L σ.length&&Nat.ble σ.length σ'.length) with
 |false=>simp only[cond_false,qjm,qgo,qlb]
 |true=>
  simp only[Bool.and_eq_true] at hc
  have:=qeY hc.1
  subst this
  have e : ∀ os:S,os.map (Ob.ren (back (List.range σ.length) σ.length))=os:=fun os=>by
   induction os with
   |nil=>rfl
   |cons o os ih=>rw[List.map_cons,Ob.ren_id o (fun l _=>qhh _ l),ih]
  rw[cond_true,V.ren_id v (fun l _=>qhh _ l),e,qh2 σ σ' (Nat.le_of_ble_eq_true hc.2)]
def qnm(C:Task->Option Res)(mk:List V->S->Task)(args:List V)(σ : S):Option (V × S):=
 fNs (reach σ 100000 (qav args) []) fun L=>qcp L args σ fun r=>match r with
 |some (args',σs)=>
  match C (mk args' σs) with
  |some (.ret (.pan _) _)=>none
  |some (.ret v σs')=>qnl L σ v σs'
  |_=>none
 |none=>none
theorem qtj(C:Task->Option Res)(mk:List V->S->Task)(args:List V)(σ : S):qnm C mk args σ = qaW C mk args σ:=by
 simp only[qnm,qaW,qhg,qbC,qh3]
 all_goals rfl
def qlc(C:Task->Option Res)(mk:List V->S->Task)(args:List V)(σ : S):Option (V × S):=
 fNs (reach σ 100000 (qav args) []) fun L=>qcp L args σ fun r=>match r with
 |some (args',σs)=>
  match C (mk args' σs) with
  |some (.ret (.pan v) σs')=>qnl L σ v σs'
  |_=>none
 |none=>none
theorem qqP(C:Task->Option Res)(mk:List V->S->Task)(args:List V)(σ : S):qlc C mk args σ = qba C mk args σ:=by
 simp only[qlc,qba,qhg,qbC,qh3]
 all_goals rfl
def qvN(k:Nat)(fr:Fr)(σ : S):Option (Fr × S):=
 fNs (gcL k (qa9 fr) σ) fun L=>qcp L [] σ fun r=>match r with
 |some (_,σ')=>cond (inL L (qa9 fr)) (cond (qmb 0 L σ.length) (some (fr,σ')) (fF (qhT (idx L) fr) fun fr=>some (fr,σ'))) none
 |none=>none
theorem qqQ(k:Nat)(fr:Fr)(σ : S):qvN k fr σ = gcF k fr σ:=by
 simp only[qvN,gcF,qhg,qbC]
 cases qaF (gcL k (qa9 fr) σ) [] σ with
 |none=>rfl
 |some p=>
  simp only
  cases hi:inL (gcL k (qa9 fr) σ) (qa9 fr) with
  |false=>simp
  |true=>
   cases hu:qmb 0 (gcL k (qa9 fr) σ) σ.length with
   |false=>simp[qqN]
   |true=>
    have:=qeY hu
    simp only[cond_true,if_true]
    rw[qka fr (fun l hl=>by rw[this]; exact qgp (by rw[<- this]; exact qdF hi l hl))]
def qld(k:Nat)(vs:List V)(σ : S):Option Res:=
 fNs (gcL k (qav vs) σ) fun L=>qcp L vs σ fun r=>match r with
 |some (vs',σ')=>some (.ret (one vs') σ')
 |none=>none
theorem qqR(k:Nat)(vs:List V)(σ : S):qld k vs σ = finishV k vs σ:=by
 simp only[qld,finishV,qhg,qbC]
 all_goals rfl
def quK(σ : S)(l:Nat)(o:Ob)(k:S -> α) : α := fOb o fun o=>fOs (σ.set l o) k
theorem qkb(σ : S)(l:Nat)(o:Ob)(k:S -> α):quK σ l o k=k (σ.set l o):=by simp only[quK,qnh,qlb]
def qnn(σ : S)(n:Nat):V->V->Option S
 |.ptr l o,v=>match σ[l]? with
  |some (.cells cs)=>
   let new:=v.cells
   if new.length=n/\o+n<=cs.length/\new.all V.one then quK σ l (.cells (cs.take o++(new++cs.drop (o+n)))) some else none
  |some (.cellsT t cs)=>
   let new:=v.cells
   if new.length=n/\o+n<=cs.length/\new.all V.one then quK σ l (.cellsT t (cs.take o++(new++cs.drop (o+n)))) some else none
  |_=>none
 |.eptr l m o,v=>match σ[l]? with
  |some (.vec cs)=>
   let new:=v.cells
   if cs.length=m/\new.length=n/\o+n<=cs.length/\new.all V.one then quK σ l (.vec (cs.take o++(new++cs.drop (o+n)))) some else none
  |_=>none
 |_,_=>none
theorem qtk(σ : S)(n:Nat)(p v:V):qnn σ n p v=storeV σ n p v:=by
 unfold qnn storeV
 cases p<;>first
  |rfl
  | (simp only[qkb]; rfl)
  | (simp only[qkb]; rename_i l o; cases σ[l]? with|none=>rfl|some ob=>cases ob<;>rfl)
  | (simp only[qkb]; rename_i l m o; cases σ[l]? with|none=>rfl|some ob=>cases ob<;>rfl)
def fOp:Option (V × S)->Option (V × S)
 |some (v,σ)=>fS σ fun σ => some (v,σ)
 |none=>none
theorem qv6(r:Option (V × S)):fOp r=r:=by
 cases r with
 |none=>rfl
 |some p=>simp only[fOp,qni]
end
section
universe u
variable{α : Type u}
noncomputable def qpL(t:Nat)(fr:Fr):Option V:=List.rec (motive:=fun _=>Option V) none (fun p _ ih=>Bool.rec (motive:=fun _=>Option V) ih (some p.2) (Nat.beq p.1 t)) fr
theorem qae : ∀ (t:Nat) (fr:Fr),qpL t fr=fr.get t
 |_,[]=>rfl
 |t,(k,v)::r=>by
  show Bool.rec (motive:=fun _=>Option V) (qpL t r) (some v) (Nat.beq k t)=_
  rw[qae t r,Fr.get]
  by_cases h:k=t
  ·subst h; rw[if_pos rfl,Nat.beq_refl]
  ·rw[if_neg h]
   cases hb:Nat.beq k t with
   |true=>exact absurd (Nat.eq_of_beq_eq_true hb) h
   |false=>rfl
noncomputable def qjF(d:Option Nat)(v:V)(fr:Fr)(k:Fr -> α) : α := Option.rec (motive:=fun _ => α) (k fr) (fun d=>k ((d,v)::fr)) d
theorem qhB(d:Option Nat)(v:V)(fr:Fr)(k:Fr -> α):qjF d v fr k=k (fr.put d v):=by cases d<;>rfl
noncomputable def qlt(fr:Fr)(ks:List Nat):Fr:=List.rec (motive:=fun _=>Fr) [] (fun k _ ih=>Option.rec (motive:=fun _=>Fr) ih (fun v=>(k,v)::ih) (qpL k fr)) ks
theorem qhC(fr:Fr) : ∀ ks,qlt fr ks=fr.keep ks
 |[]=>rfl
 |k::ks=>by
  show Option.rec (motive:=fun _=>Fr) (qlt fr ks) (fun v=>(k,v)::qlt fr ks) (qpL k fr)=_
  rw[qhC fr ks,qae,Fr.keep]
  cases fr.get k<;>rfl
noncomputable def evK(fr:Fr)(x:X):Option V:=X.rec (motive:=fun _=>Fr->Option V) (fun n fr=>qpL n fr) (fun v _=>some (.dat (.lit v))) (fun id _=>some (.fn id [] [])) (fun cs _=>some (.dat (.imm cs 0))) x fr
theorem qam(fr:Fr)(x:X):evK fr x=x.ev fr:=by
 cases x with
 |t n=>exact qae n fr
 |_=>rfl
noncomputable def qlu(fr:Fr)(xs:List X):Option (List V):=List.rec (motive:=fun _=>Option (List V)) (some []) (fun x _ ih=>Option.rec (motive:=fun _=>Option (List V)) none (fun v=>Option.rec (motive:=fun _=>Option (List V)) none (fun vs=>some (v::vs)) ih) (evK fr x)) xs
theorem qaf(fr:Fr) : ∀ xs,qlu fr xs=evs fr xs
 |[]=>rfl
 |x::xs=>by
  show Option.rec (motive:=fun _=>Option (List V)) none (fun v=>Option.rec (motive:=fun _=>Option (List V)) none (fun vs=>some (v::vs)) (qlu fr xs)) (evK fr x)=_
  rw[qaf fr xs,qam,evs]
  cases x.ev fr<;>cases evs fr xs<;>rfl
noncomputable def qcB(fr:Fr)(g:Option (Nat × Bool)):Option Bool:=Option.rec (motive:=fun _=>Option Bool) (some true) (fun p=>qaE fr (some p)) g
theorem qcJ(fr:Fr)(g:Option (Nat × Bool)):qcB fr g=qaE fr g:=by cases g<;>rfl
noncomputable def qij(σ : S)(l:Nat):Option Ob:=List.rec (motive:=fun _=>Nat->Option Ob) (fun _=>none) (fun o _ ih i=>Nat.rec (motive:=fun _=>Option Ob) (some o) (fun j _=>ih j) i) σ l
theorem qad : ∀ (σ : S) (l:Nat),qij σ l = σ[l]?
 |[],_=>rfl
 |o :: σ,0=>rfl
 |o :: σ,l+1=>by
  show qij σ l=_
  rw[qad σ l]; rfl
noncomputable def qrq(l:Nat)(L:List Nat):Bool:=List.rec (motive:=fun _=>Bool) false (fun a _ ih=>Bool.rec (motive:=fun _=>Bool) ih true (Nat.beq a l)) L
theorem qjG(l:Nat) : ∀ L,qrq l L=L.contains l
 |[]=>rfl
 |a::L=>by
  show Bool.rec (motive:=fun _=>Bool) (qrq l L) true (Nat.beq a l)=_
  rw[qjG l L,List.contains_cons]
  cases hb:Nat.beq a l with
  |true=>have:=Nat.eq_of_beq_eq_true hb; subst this; simp
  |false=>
   have:l≠a:=fun e=>by subst e; rw[Nat.beq_refl] at hb; cases hb
   simp[this]
noncomputable def qrr(L:List Nat)(M:List Nat):Bool:=List.rec (motive:=fun _=>Bool) true (fun k _ ih=>Bool.rec (motive:=fun _=>Bool) false ih (qrq k L)) M
theorem qhD(L:List Nat) : ∀ M,qrr L M=inL L M
 |[]=>rfl
 |k::M=>by
  show Bool.rec (motive:=fun _=>Bool) false (qrr L M) (qrq k L)=_
  rw[qhD L M,qjG,inL]
  cases L.contains k<;>rfl
noncomputable def qkv(a b:List Nat):List Nat:=List.rec (motive:=fun _=>List Nat) b (fun x _ ih=>x::ih) a
theorem qhE(b:List Nat) : ∀ a,qkv a b=a++b
 |[]=>rfl
 |x::a=>by
  show x::qkv a b=_
  rw[qhE b a]; rfl
noncomputable def vlK(v:V)(r:List Nat):List Nat:=V.rec (motive_1:=fun _=>List Nat->List Nat) (motive_2:=fun _=>PUnit) (fun _ r=>r) (fun l _ r=>l::r) (fun _ _ _ l r=>l::r) (fun l _ _ _ _ r=>l::r) (fun l _ _ r=>l::r) (fun l _ _ r=>l::r) (fun l _ _ _ _ r=>l::r)
 (fun cs _ _ r=>qkv (qav cs) r) (fun _ v _ r=>qkv v.locs r) (fun cs _ r=>qkv (qav cs) r) (fun _ a b _ _ r=>qkv (qav a) (qkv (qav b) r)) (fun l r=>l::r) (fun _ v _ r=>qkv v.locs r) (fun vs _ r=>qkv (qav vs) r) (fun l r=>l::r) (fun v _ r=>qkv v.locs r) ⟨⟩ (fun _ _ _ _=>⟨⟩) v r
theorem qoR(v:V)(r:List Nat):vlK v r=v.locs++r:=by
 cases v<;>simp[vlK,V.locs,qhE]
noncomputable def llK(vs:List V):List Nat:=List.rec (motive:=fun _=>List Nat) [] (fun v _ ih=>vlK v ih) vs
theorem qio : ∀ vs,llK vs=qav vs
 |[]=>rfl
 |v::vs=>by
  show vlK v (llK vs)=_
  rw[qio vs,qoR,qav]
noncomputable def lfK(fr:Fr):List Nat:=List.rec (motive:=fun _=>List Nat) [] (fun p _ ih=>vlK p.2 ih) fr
theorem qmj : ∀ fr,lfK fr=qa9 fr
 |[]=>rfl
 | (k,v)::fr=>by
  show vlK v (lfK fr)=_
  rw[qmj fr,qoR,qa9]
noncomputable def loK(o:Ob):List Nat:=Ob.casesOn (motive:=fun _=>List Nat) o llK qfo (fun _=>[]) (fun lp=>lfK lp.fr) llK (fun _ cs=>llK cs) (fun _ cs=>llK cs) (fun _=>[]) [] (fun l=>[l])
theorem qoS(o:Ob):loK o=o.locs:=by
 cases o<;>simp[loK,Ob.locs,qio,qmj]
noncomputable def qpM(a b:List Nat):List Nat:=List.rec (motive:=fun _=>List Nat->List Nat) (fun b=>b) (fun x _ ih b=>ih (x::b)) a b
theorem qhF : ∀ (a b:List Nat),qpM a b=a.reverse++b
 |[],_=>rfl
 |x::a,b=>by
  show qpM a (x::b)=_
  rw[qhF a]; simp
noncomputable def qkw(σ : S)(n:Nat):List Nat->List Nat->List Nat:=Nat.rec (motive:=fun _=>List Nat->List Nat->List Nat) (fun _ seen=>qpM seen [])
 (fun _ ih todo seen=>List.rec (motive:=fun _=>List Nat) (qpM seen []) (fun l todo _=>Bool.rec (motive:=fun _=>List Nat) (ih (qkv todo (Option.rec (motive:=fun _=>List Nat) [] loK (qij σ l))) (l::seen)) (ih todo seen) (qrq l seen)) todo) n
theorem qfJ(σ : S) : ∀ (n:Nat) (todo seen:List Nat),qkw σ n todo seen=reach σ n todo seen.reverse
 |0,[],seen=>by show qpM seen []=_; rw[qhF]; simp[reach]
 |0,_::_,seen=>by show qpM seen []=_; rw[qhF]; simp[reach]
 |n+1,[],seen=>by show qpM seen []=_; rw[qhF]; simp[reach]
 |n+1,l::todo,seen=>by
  show Bool.rec (motive:=fun _=>List Nat) (qkw σ n (qkv todo (Option.rec (motive:=fun _=>List Nat) [] loK (qij σ l))) (l::seen)) (qkw σ n todo seen) (qrq l seen)=_
  rw[qfJ σ n,qfJ σ n,qjG,qad,qhE,reach]
  have e:seen.reverse.contains l=seen.contains l:=by
   rw[Bool.eq_iff_iff]; simp
  rw[e]
  have e2:(Option.rec (motive:=fun _=>List Nat) [] loK σ[l]?:List Nat)=(match σ[l]? with|some ob=>ob.locs|none=>[]):=by
   cases σ[l]? with
   |none=>rfl
   |some ob=>exact qoS ob
  rw[e2,List.reverse_cons]
  cases seen.contains l<;>rfl
noncomputable def qip(σ : S)(ls:List Nat):List Nat:=qkw σ 100000 ls []
theorem qfK(σ : S)(ls:List Nat):qip σ ls=reach σ 100000 ls []:=by
 rw[qip,qfJ]; rfl
noncomputable def qjH(L:List Nat)(os:S):Bool:=List.rec (motive:=fun _=>Bool) true (fun o _ ih=>Bool.rec (motive:=fun _=>Bool) false ih (qrr L (loK o))) os
theorem qgM(L:List Nat) : ∀ os,qjH L os=closed L os
 |[]=>rfl
 |o::os=>by
  show Bool.rec (motive:=fun _=>Bool) false (qjH L os) (qrr L (loK o))=_
  rw[qgM L os,qhD,qoS,closed]
  cases inL L o.locs<;>rfl
noncomputable def qrs(n:Nat)(k:Nat -> α) : α := Nat.rec (motive:=fun _ => α) (k 0) (fun m _=>k (Nat.succ m)) n
theorem qfL(n:Nat)(k:Nat -> α):qrs n k=k n:=by cases n<;>rfl
noncomputable def qvu(i:Int)(k:Int -> α) : α := Int.rec (motive:=fun _ => α) (fun n=>qrs n fun n=>k (.ofNat n)) (fun n=>qrs n fun n=>k (.negSucc n)) i
theorem qpN(i:Int)(k:Int -> α):qvu i k=k i:=by cases i<;>simp only[qvu,qfL]
noncomputable def qu7:Value->(Value -> α) -> α
 |.int t i,k=>qvu i fun i=>k (.int t i)
 |v,k=>k v
theorem qpO(v:Value)(k:Value -> α):qu7 v k=k v:=by cases v<;>simp only[qu7,qpN]
noncomputable def ql7(r:Option (V × S)):Option (V × S):=Option.rec (motive:=fun _=>Option (V × S)) none (fun p=>Prod.rec (motive:=fun _=>Option (V × S)) (fun v σ => match v with|V.dat (.lit x)=>qu7 x fun x=>some (V.dat (.lit x),σ) | v=>some (v,σ)) p) r
theorem qai(r:Option (V × S)):ql7 r=r:=by
 cases r with
 |none=>rfl
 |some p=>
  obtain⟨v,σ⟩:=p
  show (match v with|V.dat (.lit x)=>qu7 x fun x=>some (V.dat (.lit x),σ) | v=>some (v,σ))=_
  split
  ·rw[qpO]
  ·rfl
noncomputable def qnQ(l:List Nat)(k:List Nat -> α) : α := List.rec (motive:=fun _=>(List Nat -> α) -> α) (fun k=>k []) (fun n _ ih k=>ih fun r=>k (n::r)) l k
theorem qfM : ∀ (l:List Nat) (k:List Nat -> α),qnQ l k=k l
 |[],_=>rfl
 |n::r,k=>by
  show qnQ r (fun r=>k (n::r))=_
  rw[qfM r]
noncomputable def qn1(l:S)(k:S -> α) : α := List.rec (motive:=fun _=>(S -> α) -> α) (fun k=>k []) (fun n _ ih k=>ih fun r=>k (n::r)) l k
theorem qag : ∀ (l:S) (k:S -> α),qn1 l k=k l
 |[],_=>rfl
 |n::r,k=>by
  show qn1 r (fun r=>k (n::r))=_
  rw[qag r]
noncomputable def qoT(σ : S):Nat:=List.rec (motive:=fun _=>Nat) 0 (fun _ _ ih=>Nat.succ ih) σ
theorem qeV : ∀ σ,qoT σ = σ.length
 |[]=>rfl
 |_ :: σ=>by
  show Nat.succ (qoT σ)=_
  rw[qeV σ]; rfl
noncomputable def qu8(l:List V)(k:List V -> α) : α := List.rec (motive:=fun _=>(List V -> α) -> α) (fun k=>k []) (fun n _ ih k=>ih fun r=>k (n::r)) l k
theorem qah : ∀ (l:List V) (k:List V -> α),qu8 l k=k l
 |[],_=>rfl
 |n::r,k=>by
  show qu8 r (fun r=>k (n::r))=_
  rw[qah r]
noncomputable def qmk(i:Nat)(L:List Nat)(n:Nat):Bool:=List.rec (motive:=fun _=>Nat->Bool) (fun i=>Nat.beq i n) (fun l _ ih i=>Bool.rec (motive:=fun _=>Bool) false (ih (Nat.succ i)) (Nat.beq l i)) L i
theorem qfs(n:Nat) : ∀ (L:List Nat) (i:Nat),qmk i L n=qmb i L n
 |[],_=>rfl
 |l::L,i=>by
  show Bool.rec (motive:=fun _=>Bool) false (qmk (i+1) L n) (Nat.beq l i)=_
  rw[qfs n L,qmb]
  cases Nat.beq l i<;>rfl
noncomputable def qvv(L A:List Nat)(σ : S):Bool:=qrr L A&&qjH L σ
noncomputable def qcK(L A:List Nat)(vs:List V)(σ : S)(k:Option (List V × S) -> α) : α:=
 cond (qmk 0 L (qoT σ))
  (cond (qvv L A σ) (k (some (vs,σ))) (k none))
  (match qde σ L with
  |some obs=>cond (qd2 L&&qvv L A obs) (fVs (qcw (idx L) vs) fun vs'=>qgn (idx L) obs fun obs'=>k (some (vs',obs'))) (k none)
  |none=>k none)
theorem qcv(L:List Nat)(vs:List V)(σ : S)(k:Option (List V × S) -> α):qcK L (qav vs) vs σ k=k (qaF L vs σ):=by
 rw[<- qbC L vs σ k]
 simp only[qcK,qcp,qfs,qeV,qvv,qhD,qgM]
 all_goals rfl
noncomputable def qn2(L:List Nat)(σ : S)(v:V)(σ':S):Option (V × S):=
 cond (qmk 0 L (qoT σ)&&Nat.ble (qoT σ) (qoT σ')) (some (v,σ'))
  (fV (v.ren (back L σ.length)) fun v=>qgn (back L σ.length) σ' fun σ''=>qn1 (qau σ L σ'') fun σ3=>some (v,σ3))
theorem qkx(L:List Nat)(σ : S)(v:V)(σ':S):qn2 L σ v σ'=some (v.ren (back L σ.length),qau σ L (σ'.map (Ob.ren (back L σ.length)))):=by
 rw[<- qh3]
 simp only[qn2,qnl,qfs,qeV,qag,qlb]
noncomputable def qcC(C:Task->Option Res)(mk:List V->S->Task)(args:List V)(σ : S):Option (V × S):=
 fVs args fun args=>qn1 σ fun σ => qnQ (llK args) fun A=>qnQ (qip σ A) fun L=>qcK L A args σ fun r=>match r with
 |some (args',σs)=>
  match C (mk args' σs) with
  |some (.ret (.pan _) _)=>none
  |some (.ret v σs')=>qn2 L σ v σs'
  |_=>none
 |none=>none
theorem qab(C:Task->Option Res)(mk:List V->S->Task)(args:List V)(σ : S):qcC C mk args σ = qaW C mk args σ:=by
 simp only[qcC,qaW,qb9,qag,qfM,qio,qfK,qcv,qkx]
 all_goals rfl
noncomputable def qdQ(C:Task->Option Res)(mk:List V->S->Task)(args:List V)(σ : S):Option (V × S):=
 fVs args fun args=>qn1 σ fun σ => qnQ (llK args) fun A=>qnQ (qip σ A) fun L=>qcK L A args σ fun r=>match r with
 |some (args',σs)=>
  match C (mk args' σs) with
  |some (.ret (.pan v) σs')=>qn2 L σ v σs'
  |_=>none
 |none=>none
theorem qaa(C:Task->Option Res)(mk:List V->S->Task)(args:List V)(σ : S):qdQ C mk args σ = qba C mk args σ:=by
 simp only[qdQ,qba,qb9,qag,qfM,qio,qfK,qcv,qkx]
 all_goals rfl
noncomputable def qn3(k:Nat)(L:List Nat):List Nat:=List.rec (motive:=fun _=>List Nat) [] (fun l _ ih=>Bool.rec (motive:=fun _=>List Nat) ih (l::ih) (Nat.ble k l)) L
theorem qky(k:Nat) : ∀ L,qn3 k L=L.filter (fun l=>decide (k<=l))
 |[]=>rfl
 |l::L=>by
  show Bool.rec (motive:=fun _=>List Nat) (qn3 k L) (l::qn3 k L) (Nat.ble k l)=_
  rw[qky k L,List.filter_cons]
  cases hb:Nat.ble k l with
  |true=>simp[Nat.le_of_ble_eq_true hb]
  |false=>
   have : ¬ k<=l:=fun h=>by rw[Nat.ble_eq_true_of_le h] at hb; cases hb
   simp[this]
noncomputable def qu9(k:Nat)(ls:List Nat)(σ : S):List Nat:=qkv (List.range k) (qn3 k (qip σ (qkv (List.range k) ls)))
theorem qml(k:Nat)(ls:List Nat)(σ : S):qu9 k ls σ = gcL k ls σ:=by
 simp only[qu9,gcL,qhE,qky,qfK]
noncomputable def qvw(k:Nat)(fr:Fr)(σ : S):Option (Fr × S):=
 qnQ (lfK fr) fun A=>qnQ (qu9 k A σ) fun L=>qcK L [] [] σ fun r=>match r with
 |some (_,σ')=>cond (qrr L A) (cond (qmk 0 L (qoT σ)) (some (fr,σ')) (fF (qhT (idx L) fr) fun fr=>some (fr,σ'))) none
 |none=>none
theorem qmm(k:Nat)(fr:Fr)(σ : S):qvw k fr σ = gcF k fr σ:=by
 rw[<- qqQ]
 simp only[qvw,qvN,qfM,qhg,qmj,qml,qbC,qfs,qeV,qhD]
 have:=fun (k':Option (List V × S)->Option (Fr × S))=>qcv (gcL k (qa9 fr) σ) [] σ k'
 simp only[qav] at this
 rw[this]
 all_goals rfl
noncomputable def qej(k:Nat)(vs:List V)(σ : S):Option Res:=
 fVs vs fun vs=>qnQ (llK vs) fun A=>qnQ (qu9 k A σ) fun L=>qcK L A vs σ fun r=>match r with
 |some (vs',σ')=>some (.ret (one vs') σ')
 |none=>none
theorem qjI(k:Nat)(vs:List V)(σ : S):qej k vs σ = finishV k vs σ:=by
 simp only[qej,finishV,qb9,qfM,qio,qml,qcv]
 all_goals rfl
noncomputable def qts(σ : S)(l:Nat)(o:Ob):S:=List.rec (motive:=fun _=>Nat->S) (fun _=>[]) (fun a r ih i=>Nat.rec (motive:=fun _=>S) (o::r) (fun j _=>a::ih j) i) σ l
theorem qmn(o:Ob) : ∀ (σ : S) (l:Nat),qts σ l o = σ.set l o
 |[],_=>rfl
 |_::_,0=>rfl
 |a :: σ,l+1=>by
  show a::qts σ l o=_
  rw[qmn o σ l]; rfl
noncomputable def qpP(n:Nat)(l:List V):List V:=List.rec (motive:=fun _=>Nat->List V) (fun _=>[]) (fun a _ ih i=>Nat.rec (motive:=fun _=>List V) [] (fun j _=>a::ih j) i) l n
theorem qkz : ∀ (l:List V) (n:Nat),qpP n l=l.take n
 |[],n=>by cases n<;>rfl
 |_::_,0=>rfl
 |a::l,n+1=>by
  show a::qpP n l=_
  rw[qkz l n]; rfl
noncomputable def qpQ(n:Nat)(l:List V):List V:=List.rec (motive:=fun _=>Nat->List V) (fun _=>[]) (fun a r ih i=>Nat.rec (motive:=fun _=>List V) (a::r) (fun j _=>ih j) i) l n
theorem qkA : ∀ (l:List V) (n:Nat),qpQ n l=l.drop n
 |[],n=>by cases n<;>rfl
 |_::_,0=>rfl
 |a::l,n+1=>by
  show qpQ n l=_
  rw[qkA l n]; rfl
noncomputable def qva(a b:List V):List V:=List.rec (motive:=fun _=>List V) b (fun x _ ih=>x::ih) a
theorem qmo(b:List V) : ∀ a,qva a b=a++b
 |[]=>rfl
 |x::a=>by
  show x::qva a b=_
  rw[qmo b a]; rfl
noncomputable def lnK(l:List V):Nat:=List.rec (motive:=fun _=>Nat) 0 (fun _ _ ih=>Nat.succ ih) l
theorem qoU : ∀ l,lnK l=l.length
 |[]=>rfl
 |_::l=>by
  show Nat.succ (lnK l)=_
  rw[qoU l]; rfl
noncomputable def qtt(cs new:List V)(o n:Nat)(k:List V -> α) : α := fVs new fun new=>qu8 (qva (qpP o cs) (qva new (qpQ (o+n) cs))) k
theorem qpR(cs new:List V)(o n:Nat)(k:List V -> α):qtt cs new o n k=k (cs.take o++(new++cs.drop (o+n))):=by
 simp only[qtt,qb9,qah,qmo,qkz,qkA]
noncomputable def qjJ(σ : S)(n:Nat)(p v:V):Option S:=match p,v with
 |.ptr l o,v=>match qij σ l with
  |some (.cells cs)=>
   let new:=v.cells
   if new.length=n/\o+n<=lnK cs/\new.all V.one then qtt cs new o n fun cs=>qn1 (qts σ l (.cells cs)) some else none
  |some (.cellsT t cs)=>
   let new:=v.cells
   if new.length=n/\o+n<=lnK cs/\new.all V.one then qtt cs new o n fun cs=>qn1 (qts σ l (.cellsT t cs)) some else none
  |_=>none
 |.eptr l m o,v=>match qij σ l with
  |some (.vec cs)=>
   let new:=v.cells
   if lnK cs=m/\new.length=n/\o+n<=lnK cs/\new.all V.one then qtt cs new o n fun cs=>qn1 (qts σ l (.vec cs)) some else none
  |_=>none
 |_,_=>none
theorem qac(σ : S)(n:Nat)(p v:V):qjJ σ n p v=storeV σ n p v:=by
 unfold qjJ
 simp only[qad,qoU,qpR,qag,qmn]
 cases p<;>first
  |rfl
  | (rename_i l o; simp only[storeV]; cases σ[l]? with|none=>rfl|some ob=>cases ob<;>rfl)
  | (rename_i l m o; simp only[storeV]; cases σ[l]? with|none=>rfl|some ob=>cases ob<;>rfl)
noncomputable def qhG(r:Option (V × S)):Option (V × S):=Option.rec (motive:=fun _=>Option (V × S)) none (fun p=>Prod.rec (motive:=fun _=>Option (V × S)) (fun v σ => fS σ fun σ => some (v,σ)) p) r
theorem qaj(r:Option (V × S)):qhG r=r:=by
 cases r with
 |none=>rfl
 |some p=>obtain⟨v,σ⟩:=p; show fS σ (fun σ => some (v,σ))=_; rw[qni]
noncomputable def qpS(r:Option (Ex × Fr × S))(k:Fr->S->Option (Ex × Fr × S)):Option (Ex × Fr × S):=
 Option.rec (motive:=fun _=>Option (Ex × Fr × S)) none (fun p=>Prod.rec (motive:=fun _=>Option (Ex × Fr × S)) (fun e q=>Ex.rec (motive:=fun _=>Option (Ex × Fr × S)) (Prod.rec (motive:=fun _=>Option (Ex × Fr × S)) k q) (fun id=>some (.exit id,q)) (some (.ret,q)) (fun v=>some (.pan v,q)) e) p) r
theorem qn4(r:Option (Ex × Fr × S))(k:Fr->S->Option (Ex × Fr × S)):qpS r k=(match r with|some (.normal,fr',σ')=>k fr' σ'|r=>r):=by
 cases r with
 |none=>rfl
 |some p=>obtain⟨e,fr,σ⟩:=p; cases e<;>rfl
noncomputable def qwb{β γ : Type}(r:Option (β × S))(k : β -> S->Option γ):Option γ := Option.rec (motive:=fun _=>Option γ) none (fun p=>Prod.rec (motive:=fun _=>Option γ) k p) r
end
end Go.Pm
