/- Functions; the whole run. -/
import Derived.Test.YtmigbfimahjacaaGreatDoorPmAL
import Derived.Test.YtmigbfimahjacaaGreatDoorPmN
set_option linter.unusedSimpArgs false
set_option linter.unusedVariables false
namespace Go.Pm
section
variable{P:Program}{ids:Ids}{fid:Fid}
section
variable{C:Task->Option Res}{ro:Option Nat}
theorem qna {Γ0 Γ1:Ctx} {D:Nat} (hr:Real fid Γ1) (hs:Step Γ0 Γ1) (hD:MarkAt Γ0 Γ1 D) :
  Real fid ⟨Γ1.σ,Γ1.μ,Γ1.F,Γ1.w.putObj D (.deferred none)⟩/\Step Γ0 ⟨Γ1.σ,Γ1.μ,Γ1.F,Γ1.w.putObj D (.deferred none)⟩/\Ext Γ1 ⟨Γ1.σ,Γ1.μ,Γ1.F,Γ1.w.putObj D (.deferred none)⟩ /\
   ∀ k,k≠D->(Γ1.w.putObj D (.deferred none)).heap[k]? = Γ1.w.heap[k]?:=by
 obtain⟨d1,d2,d3⟩:=hD
 have hF : Γ1.F D=0:=by
  rcases W6 (Γ1.F D) with h|h
  ·exact h
  ·obtain⟨arr,e,fz,h1,_⟩:=hr.imm D h
   rw[d2] at h1; cases h1
 have hother : ∀ k,k≠D->(Γ1.w.putObj D (.deferred none)).heap[k]? = Γ1.w.heap[k]?:=fun k hk=>World.putObj_heap_other hk
 have hext:Ext Γ1 ⟨Γ1.σ,Γ1.μ,Γ1.F,Γ1.w.putObj D (.deferred none)⟩:=by
  refine⟨by simp,rfl,rfl,rfl,fun _=>Wg _,fun b i v hi hv=>?_,fun b arr e hb ha=>⟨arr,?_,rfl⟩,Wg _,fun _ ob h ht=>⟨⟨ob,h,ht⟩,fun _ h=>h⟩,fun _ m h=>⟨m,h,Wg _,fun h=>h,fun _ _ h=>h⟩,
   qeQ fun l ob h _ => .inl ⟨h,fun b hb=>⟨hb,rfl,fun arr e ha=>(hother b fun e=>by subst e; exact d3 l hb).trans ha⟩⟩⟩
  ·rw[cell?_of_block (hother b fun e=>by subst e; omega)]; exact hv
  ·rw[hother b fun e=>by subst e; omega]; exact ha
 have hreal:Real fid ⟨Γ1.σ,Γ1.μ,Γ1.F,Γ1.w.putObj D (.deferred none)⟩:=by
  refine⟨fun l ob b h1 h2=>RepOb.ext hext (hother b fun e=>by subst e; exact d3 l h2) rfl ob (hr.obs l ob b h1 h2),fun l b h=>?_,hr.inj,fun b hb=>?_,Glb.ext hext hr.glb⟩
  ·have:=hr.dom l b h
   exact⟨this.1,by simpa using this.2⟩
  ·obtain⟨a,t,fz,h1,h2⟩:=hr.imm b hb
   have hb':0 < Γ1.F b:=hb
   exact⟨a,t,fz,by rw[hother b fun e=>by subst e; omega]; exact h1,h2⟩
 refine⟨hreal,⟨hs.ext.trans hext,⟨fun b hb hno=>?_,hs.frm.new⟩,hs.non⟩,hext,hother⟩
 have:=hs.frm.same b hb hno
 exact⟨(hother b (by omega)).trans this.1,this.2⟩
theorem DIReps.off{Γ0 Γ1 Γ2:Ctx}{D:Nat}(hext:Ext Γ1 Γ2)(hμ : Γ2.μ = Γ1.μ)(hother : ∀ k,k≠D -> Γ2.w.heap[k]? = Γ1.w.heap[k]?) : ∀ {is:List DI} {ds:List Deferred},D∉qcK is->DIReps fid Γ0 Γ1 is ds->DIReps fid Γ0 Γ2 is ds
 |[],ds,_,h=>h
 |.m D'::is,ds,hn,⟨d,r,h1,h2,h3⟩=>by
  simp only[qcK,Wq,not_or] at hn
  exact⟨d,r,h1,⟨h2.1,h2.2.1,(hother D' (Yb hn.1)).trans h2.2.2.1,by rw[hμ]; exact h2.2.2.2⟩,DIReps.off hext hμ hother hn.2 h3⟩
 |.c v::is,ds,hn,⟨d,r,h1,h2,h3⟩=>by
  obtain⟨id,as,cap,ys,q1,q2,q3⟩:=h2
  exact⟨d,r,h1,⟨id,as,cap,ys,q1,q2,Reps.ext hext _ _ q3⟩,DIReps.off hext hμ hother hn h3⟩
theorem qd6 (hC:CSound P fid C) {fn:Func} {R:Ending->World->Prop} {N:Nat} {fr:Fr} {tmps:Array Value} {Γ0:Ctx} {σ2:S} : ∀ (is:List DI) (ds:List Deferred) (Γ1:Ctx),DIReps fid Γ0 Γ1 is ds->(qcK is).Nodup->Real fid Γ1->Step Γ0 Γ1->FrRep fid Γ1 N fr tmps ->
  qa8 C (qbu is) Γ1.σ = some σ2 ->
  (∀ Γ',Γ'.σ = σ2->Real fid Γ'->Step Γ0 Γ'->FrRep fid Γ' N fr tmps -> ∃ v,(results fn tmps).run P Γ'.w = .ok v Γ'.w/\R (.returned v) Γ'.w) ->
  LeavesInM Fence.wide 0 P fn tmps R ds .returning Γ1.w
 |[],ds,Γ1,hd,_,hr,hs,hf,h,hk=>by
  simp only[DIReps] at hd; subst hd
  simp only[qbu,qa8,Wd] at h
  exact hk Γ1 h hr hs hf
 |.m D::is,ds,Γ1,hd,hn,hr,hs,hf,h,hk=>by
  obtain⟨d,r,rfl,⟨rfl,hD⟩,hd'⟩:=hd
  obtain⟨n1,n2⟩:=W0.1 hn
  obtain⟨a1,a2,a3,a4⟩:=qna hr hs hD
  have ih:=qd6 hC (fn:=fn) (R:=R) is r ⟨Γ1.σ,Γ1.μ,Γ1.F,Γ1.w.putObj D (.deferred none)⟩ (DIReps.off a3 rfl a4 n1 hd') n2 a1 a2 (hf.ext a3) h hk
  simp only[LeavesInM]
  exact⟨by simp,.inl ⟨D,_,rfl,run_takeDeferred hD.2.1,ih⟩⟩
 |.c v::is,ds,Γ1,hd,hn,hr,hs,hf,h,hk=>by
  obtain⟨d,r,rfl,⟨id,as,cap,ys,rfl,rfl,hargs⟩,hd'⟩:=hd
  simp only[qbu,qa8] at h
  split at h
  ·rename_i v1 σ1 hcall
   have hnil:Rep fid Γ1 (.dat (.lit .nilIface)) .nilIface:=qdf rfl
   obtain⟨k1,k2⟩:=qfL (u := .returning) hC hr hnil hargs (fun _=>rfl) (fun h=>by cases h) hcall
   have harr:(ys.toList++cap.toList).toArray=ys++cap:=by simp
   rw[harr] at k2
   simp only[LeavesInM]
   refine⟨by simp,.inr ⟨fun h=>by simp[Fence.wide] at h,.func (fid id),cap,fid id,ys++cap,rfl,?_,fun _ _=>trivial,CallsDIn.mono k2 ?_⟩⟩
   ·simp only[invoke]; exact qa7 k1 _ _
   ·rintro e u' w' ⟨Γ',y,rfl,rfl,rfl,q1,q2,q3⟩
    show LeavesInM Fence.wide 0 P fn tmps R r (settle u') Γ'.w
    rw[q3]
    exact qd6 hC is r Γ' (hd'.step q2) hn q1 (hs.trans q2) (hf.ext q2.ext) h hk
  ·cases h
theorem qgX (hC:CSound P fid C) {fn:Func} {R:Ending->World->Prop} {N:Nat} {fr:Fr} {tmps:Array Value} {Γ0:Ctx} {pv:V} {x:Value} : ∀ (is:List DI) (ds:List Deferred) (Γ1:Ctx),DIReps fid Γ0 Γ1 is ds->(qcK is).Nodup->Real fid Γ1->Step Γ0 Γ1->FrRep fid Γ1 N fr tmps->Rep fid Γ1 pv x ->
  ((qbu is=[] /\ ∀ Γ',Γ'.σ = Γ1.σ -> Real fid Γ'->Step Γ0 Γ'->Rep fid Γ' pv x->R (.panicked [{ v:=x,recovered:=false }]) Γ'.w) \/
   (∃ id as r v1 σ1 σ2,qbu is = .fn id as []::r/\pv.isNilIf=false/\qaE C (.dcall id) (pv::as) Γ1.σ = some (v1,σ1)/\qa8 C r σ1=some σ2 /\
    ∀ Γ',Γ'.σ = σ2->Real fid Γ'->Step Γ0 Γ'->FrRep fid Γ' N fr tmps -> ∃ v,(results fn tmps).run P Γ'.w = .ok v Γ'.w/\R (.returned v) Γ'.w)) ->
  LeavesInM Fence.wide 0 P fn tmps R ds (.panicking [{ v:=x,recovered:=false }]) Γ1.w
 |[],ds,Γ1,hd,_,hr,hs,hf,hx,h=>by
  simp only[DIReps] at hd; subst hd
  rcases h with ⟨_,h⟩|⟨id,as,r,v1,σ1,σ2,h,_⟩
  ·simp only[LeavesInM,LeavesIn]; exact h Γ1 rfl hr hs hx
  ·simp[qbu] at h
 |.m D::is,ds,Γ1,hd,hn,hr,hs,hf,hx,h=>by
  obtain⟨d,r,rfl,⟨rfl,hD⟩,hd'⟩:=hd
  obtain⟨n1,n2⟩:=W0.1 hn
  obtain⟨a1,a2,a3,a4⟩:=qna hr hs hD
  have ih:=qgX hC (fn:=fn) (R:=R) is r ⟨Γ1.σ,Γ1.μ,Γ1.F,Γ1.w.putObj D (.deferred none)⟩ (DIReps.off a3 rfl a4 n1 hd') n2 a1 a2 (hf.ext a3) (Rep.ext a3 _ _ hx) h
  simp only[LeavesInM]
  exact⟨by simp,.inl ⟨D,_,rfl,run_takeDeferred hD.2.1,ih⟩⟩
 |.c v::is,ds,Γ1,hd,hn,hr,hs,hf,hx,h=>by
  obtain⟨d,r,rfl,⟨id,as,cap,ys,rfl,rfl,hargs⟩,hd'⟩:=hd
  rcases h with ⟨h,_⟩|⟨id',as',r',v1,σ1,σ2,h,hnil,hcall,hrest,hk⟩
  ·simp[qbu] at h
  ·simp only[qbu,Yh,V.fn.injEq] at h
   obtain⟨⟨rfl,rfl,_⟩,rfl⟩:=h
   obtain⟨k1,k2⟩:=qfL (u := .panicking [{ v:=x,recovered:=false }]) hC hr hx hargs (fun h=>by rw[hnil] at h; cases h) (fun _=>rfl) hcall
   have harr:(ys.toList++cap.toList).toArray=ys++cap:=by simp
   rw[harr] at k2
   simp only[LeavesInM]
   refine⟨by simp,.inr ⟨fun h=>by simp[Fence.wide] at h,.func (fid id),cap,fid id,ys++cap,rfl,?_,fun _ _=>trivial,CallsDIn.mono k2 ?_⟩⟩
   ·simp only[invoke]; exact qa7 k1 _ _
   ·rintro e u' w' ⟨Γ',y,rfl,rfl,rfl,q1,q2,q3⟩
    show LeavesInM Fence.wide 0 P fn tmps R r (settle u') Γ'.w
    rw[q3]
    exact qd6 hC is r Γ' (hd'.step q2) hn q1 (hs.trans q2) (hf.ext q2.ext) hrest hk
theorem qmt(hid:Ties P ids fid)(hcr:Codes P ids fid)(hC:CSound P fid C)(hL:LSound P ids fid C)(hm:P.follows .mixedOrders=true){args:List V}{σ σ':S}{v:V}(h:qb3 C args σ = some (.ret v σ')):qjI P fid args σ v σ':=by
 intro Γ xs hσ hr hargs
 subst hσ
 unfold qb3 at h
 split at h
 ·rename_i l vs
  simp only[Reps] at hargs
  obtain⟨x,ys,rfl,hy,hvs⟩:=hargs
  simp only[Rep] at hy
  obtain⟨b,hb,rfl,_⟩:=hy
  split at h
  ·rename_i lp hlp
   split at h
   ·rename_i hcond
    obtain⟨hlen,hst,hflat,hnod⟩:=hcond
    have hnod:(qep lp.fr lp.ps vs).get dkey=none:=by simpa using hnod
    have hnodefs:(qep lp.fr lp.ps vs).defs=[]:=by simp[Fr.defs,hnod]
    simp only[Wh] at hflat
    obtain⟨L,q1,q2,q3,_,⟨N,c1,c2,c3,c4⟩,_⟩:=qhg hr hlp hb
    obtain⟨hN,K1,ow1,d1,c1⟩:=(hcr _ _ _).1 c1
    obtain⟨_,K2,ow2,d2,c2⟩:=(hcr _ _ _).1 c2
    have hsz:ys.toArray.size=L.params.size:=by grind [Codes,LSound,qb3,qjI,Reps.length]
    refine⟨l,b,ys,L.fn,_,L.assign,L.body,rfl,rfl,run_yield q1 hsz,?_⟩
    split at h
    ·rename_i fr1 σ1 hrun1
     split at h
     ·rename_i lp1 hlp1
      split at h
      ·rename_i hst1
       obtain⟨hst1,hd1⟩:=hst1
       have hd1:fr1.get dkey=none:=by simpa using hd1
       split at h
       ·cases h
       ·rename_i e fr2 σ2 hnpan hrun2
        split at h
        ·rename_i lp2 hlp2
         split at h
         ·rename_i vs3 σ3 hres
          simp only[Wd,Res.ret.injEq] at h
          obtain⟨rfl,rfl⟩:=h
          have hfr:FrRep fid Γ N (qep lp.fr lp.ps vs) ((L.params.zip ys.toArray).foldl (fun t (p,v)=>t.setIfInBounds p v) L.tmps):=by
           have:=qjz (ps:=L.params.toList) (vs:=vs) (ys:=ys) c4 (by rw[q2]; exact c3) hvs
           rw[q2] at this
           rw[<- Array.foldl_toList,Array.toList_zip,q2]
           exact this
          refine roundIn_of_wpIn (F:=Fence.wide) trivial ?_
          refine qbc (ro:=some b) (fl:=true) (hid.with ow1 d1) (hcr.with ow1 d1) hC (hL.with ow1 d1) hm hN (fun _=>rfl) L.assign lp.assign c1 (fun _=>hflat.1) _ .normal fr1 σ1 Γ [] Γ _ _ hrun1 ⟨hr,.refl _,by rw[hnodefs]; exact .nil _ _ _,hfr,fun _=>rfl,fun _=>hnod⟩ fun Γ1 a1 ex g1 g2 g3=>?_
          subst g1
          simp only[qcg] at g3
          subst g3
          have hb1 : Γ1.μ l=some b:=(g2.step.ext.fix l _ hlp rfl).2 b hb
          obtain⟨L1,u1,_,u3,_,_,u6⟩:=qhg g2.real hlp1 hb1
          obtain⟨r2,s2⟩:=u6 1 lp1.pend .busy (lp1.pend.map Ex.code) rfl rfl
          have u4:L1.pending=lp1.pend.map Ex.code:=by grind
          have hL1:({ L1 with state:=LoopState.busy }:Loop)={ L1 with state := .busy,pending:=lp1.pend.map Ex.code }:=by rw[<- u4]
          refine⟨_,run_beginRound u1 (by rw[u3,hst1]; rfl),?_⟩
          rw[hL1]
          refine qbc (ro:=some b) (fl:=true) (hid.with ow2 d2) (hcr.with ow2 d2) hC (hL.with ow2 d2) hm hN (fun _=>rfl) L.body lp.body c2 (fun _=>hflat.2) fr1 e fr2 σ2 Γ [] _ a1 _ hrun2 ⟨r2,g2.step.trans s2,g2.marks.step s2,g2.frame.ext s2.ext,g2.still,fun _=>hd1⟩ fun Γ3 a3 ex g3 g4 g5=>?_
          subst g3
          have hb3 : Γ3.μ l=some b:=(g4.step.ext.fix l _ hlp rfl).2 b hb
          obtain⟨L3,w1,_,_,_,_,w6⟩:=qhg g4.real hlp2 hb3
          have fin : ∀ (st:Nat) (pe:Option Ex) (j:Option Code) (bl:Bool),lp2.ended e={ lp2 with st:=st,pend:=pe }->j=pe.map Ex.code->bl=j.isNone->(if j.isNone then LoopState.ready else .done)=qvs st ->
            ∃ v w',(Instr.endRound b j).run P Γ3.w = .ok v w' /\ ∃ Γ' x,Ending.returned v = .returned x /\ Γ'.w=w' /\ Γ'.σ = σ3/\Real fid Γ'/\Step Γ Γ'/\Rep fid Γ' (.bool bl) x:=by
           intro st pe j bl he hj hbl hstt
           subst hbl
           obtain⟨r4,s4⟩:=w6 st pe _ j hstt hj
           rw[he] at hres
           obtain⟨t1,t2,t3,t4,t5,t6⟩:=qaW r4 hres
           refine⟨_,_,run_endRound j w1,Ctx.part _ _ σ3,_,rfl,rfl,rfl,t5,qdA (g4.step.trans s4) t1 t2 t4 (qgp _ _ _),?_⟩
           simp[Rep,RepD,qbo]
          cases e with
          |normal=>simp only[qcg] at g5; subst g5; exact fin 0 none none true rfl rfl rfl rfl
          |exit id=>simp only[qcg] at g5; subst g5; exact fin 2 (some (.exit id)) (some (.exit id)) false rfl rfl rfl rfl
          |ret=>simp only[qcg] at g5; subst g5; exact fin 2 (some .ret) (some .ret) false rfl rfl rfl rfl
          |pan v=>exact (hnpan _ rfl).elim
         ·cases h
        ·cases h
       ·cases h
      ·cases h
     ·cases h
    ·cases h
   ·cases h
  ·cases h
 ·cases h
theorem qgY {fn:Func} {pf:PFun} {N:Nat} {Γ Γ2:Ctx} {fr':Fr} {tmps:Array Value} {v:V} {σ':S} (hres:qkr P N fn.results.toList=some pf.results) (k2:Real fid Γ2) (k3:Step Γ Γ2) (k4:FrRep fid Γ2 N fr' tmps)
  (hfinish:qcl pf Γ.σ.length fr' Γ2.σ = some (.ret v σ')) : ∃ y,(results fn tmps).run P Γ2.w = .ok y Γ2.w /\ ∃ Γ',Γ'.w = Γ2.w /\ Γ'.σ = σ'/\Real fid Γ'/\Step Γ Γ'/\Rep fid Γ' v y:=by
 unfold qcl at hfinish
 split at hfinish
 ·rename_i vs0 hvs0
  obtain⟨ys,r1,r2⟩:=qfA k2 k4 hres hvs0
  have hres':(results fn tmps).run P Γ2.w = .ok (if h:ys.length=1 then ys[0] else .tuple ys.toArray) Γ2.w:=by
   rw[qjy]
   simp only[Sem.run_bind]
   rw[Array.mapM_eq_mapM_toList]
   simp only[Sem.run_map]
   rw[r1]
   simp only[Result.andThen_ok,Sem.run_pure]
   simp
  have plain : ∀ {vs:List V},Reps fid Γ2 vs ys->finishV Γ.σ.length vs Γ2.σ = some (.ret v σ') -> ∃ (Γ':Ctx) (vs':List V),Γ'.σ = σ' /\ Γ'.w = Γ2.w/\Real fid Γ'/\Step Γ Γ'/\Reps fid Γ' vs' ys/\v=one vs':=by
   intro vs hvs hfin
   unfold finishV at hfin
   split at hfin
   ·rename_i vs' σs hrestrict
    simp only[Wd,Res.ret.injEq] at hfin
    obtain⟨rfl,rfl⟩:=hfin
    obtain⟨t1,t2,t3,t4,t5,t6⟩:=qaW k2 hrestrict
    exact⟨Γ2.part _ σs,vs',rfl,rfl,t5,qdA k3 t1 t2 t4 (qgp _ _ _),t6 ys hvs,rfl⟩
   ·cases hfin
  have hout : ∃ (Γ':Ctx) (vs':List V),Γ'.σ = σ' /\ Γ'.w = Γ2.w/\Real fid Γ'/\Step Γ Γ'/\Reps fid Γ' vs' ys/\v=one vs':=by grind [finishV,qkr,FrRep,qcl,Rep,qoX,qgp,qpb]
  obtain⟨Γ',vs',e1,e2,e3,e4,r3,rfl⟩:=hout
  ·refine⟨_,hres',Γ',e2,e1,e3,e4,?_⟩
   have hl:=Reps.length r3
   cases vs' with
   |nil=>
    simp only[Reps] at r3; subst r3
    simp only[one,Rep]
    exact⟨[],by simp,rfl⟩
   |cons v1 rest=>
    cases rest with
    |nil=>
     simp only[Reps] at r3
     obtain⟨y,ys',rfl,k1,rfl⟩:=r3
     simpa [one] using k1
    |cons v2 rest=>
     have : ¬ ys.length=1:=by rw[hl]; simp
     rw[dif_neg this]
     simp only[one,Rep]
     exact⟨ys,rfl,r3⟩
 ·cases hfinish
theorem qfq{N:Nat}{Γ : Ctx}{args:List V}{xs:List Value}(hargs:Reps fid Γ args xs)(hle:args.length<=N):FrRep fid Γ N (qbd 0 args) (xs.toArray++Array.replicate (N-xs.toArray.size) undef):=by
 have hxl:=Reps.length hargs
 refine⟨by simp; omega,fun t u ht hu=>?_⟩
 obtain⟨_,h2⟩:=qfz hu
 obtain⟨x,h3,h4⟩:=qnC hargs h2
 have:(xs.toArray++Array.replicate (N-xs.toArray.size) undef).getD t undef=x:=by
  have hlt:=(Wb.1 h3).1
  rw[Array.getD_eq_getD_getElem?,W2 (by simpa using hlt)]
  simp only[Nat.sub_zero] at h3
  simp[h3]
 rw[this]; exact h4
theorem qhY{args:List V}{k:Nat}(h:args.length<=k):(qbd 0 args).get k=none:=by
 cases hg:(qbd 0 args).get k with
 |none=>rfl
 |some v=>
  obtain⟨_,h2⟩:=qfz hg
  have:=(Wb.1 h2).1
  omega
theorem qmu (hid:Ties P ids fid) (hcr:Codes P ids fid) (hC:CSound P fid C) (hL:LSound P ids fid C) (hm:P.follows .mixedOrders=true) {f:Nat} {fn:Func} {K:Nat->List Nat} {ow df:Bool} {pf:PFun} {c:Code} (hfn:P.funcs[fid f]?=some fn) (hbody:fn.body=some c)
  (hname:(fn.name == "runtime.NumGoroutine")=false) (hN:2*fn.ntmps<=dkey) (hcomp:comp P (ids.with ow df) fn.ntmps K c=some pf.body) (hres:qkr P fn.ntmps fn.results.toList=some pf.results) (hpn:pf.np<=fn.ntmps) (hpd:pf.df=df)
  {args:List V} {σ σ':S} {v:V} (h:qbB C pf args σ = some (.ret v σ')):qmb P fid f args σ v σ':=by
 unfold qbB at h
 split at h
 ·rename_i hlen
  refine⟨⟨fn,hfn,hname,by rw[hbody]; rfl⟩,fun Γ xs hσ hr hargs=>?_⟩
  subst hσ
  have hf0:=qfq (N:=fn.ntmps) hargs (by omega)
  have hpos:0<dkey:=by decide
  have hk0:(qbd 0 args).get dkey=none:=qhY (by omega)
  refine callsIn_of_wp_marks (F:=Fence.wide) hfn hbody trivial ?_
  have fin : ∀ (e:Ex) (fr':Fr) (σ1:S),run C Γ.σ.length pf.body (qbd 0 args) Γ.σ = some (e,fr',σ1) ->
    (∀ Γ1 a1 ex,Γ1.σ = σ1->At fid fn.ntmps false df Γ [] fr' Γ1 a1->qcg fid Γ1 e ex->bodyPostM Fence.wide 0 P fn (fun e w' => ∃ Γ',Γ'.w=w' /\ Γ'.σ = σ'/\Real fid Γ'/\Step Γ Γ'/\qvA fid Γ' v e) ex a1 Γ1.w) ->
    c.wpIn Fence.wide 0 P (bodyPostM Fence.wide 0 P fn (fun e w' => ∃ Γ',Γ'.w=w' /\ Γ'.σ = σ'/\Real fid Γ'/\Step Γ Γ'/\qvA fid Γ' v e)) { tmps:=xs.toArray++Array.replicate (fn.ntmps-xs.toArray.size) undef,defers:=[] } Γ.w:=by
   intro e fr' σ1 hrun hk
   exact qbc (ro:=none) (fl:=false) (hid.with ow df) (hcr.with ow df) hC (hL.with ow df) hm hN (fun h=>by simp at h) c pf.body hcomp (fun h=>by cases h) (qbd 0 args) e fr' σ1 Γ [] Γ _ _ hrun
    ⟨hr,.refl _,by simp only[Fr.defs,hk0]; exact .nil _ _ _,hf0,fun h=>by (cases h),fun _=>hk0⟩ hk
  have norm : ∀ (fr':Fr) (σ1:S) (ex:Exit) (e:Ex),(ex = .normal\/ex = .ret)->(if pf.df then qfh C pf Γ.σ.length fr' σ1 else qcl pf Γ.σ.length fr' σ1)=some (.ret v σ') ->
    ∀ Γ1 a1,Γ1.σ = σ1->At fid fn.ntmps false df Γ [] fr' Γ1 a1->bodyPostM Fence.wide 0 P fn (fun e w' => ∃ Γ',Γ'.w=w' /\ Γ'.σ = σ'/\Real fid Γ'/\Step Γ Γ'/\qvA fid Γ' v e) ex a1 Γ1.w:=by
   intro fr' σ1 ex e hex hend Γ1 a1 g1 g2
   subst g1
   obtain⟨is,ds',m1,m2,m3,m4⟩:=g2.marks
   have hrd : ∃ σ2,qa8 C (qbu is) Γ1.σ = some σ2/\qcl pf Γ.σ.length fr' σ2=some (.ret v σ'):=by
    cases hd:df with
    |false=>
     rw[hpd,hd] at hend
     have:fr'.defs=[]:=by simp only[Fr.defs,g2.nod hd]
     rw[this] at m4
     exact⟨Γ1.σ,by rw[m4]; rfl,hend⟩
    |true=>
     rw[hpd,hd] at hend
     simp only[if_true,qfh] at hend
     split at hend
     ·grind
     ·cases hend
   obtain⟨σ2,h1,h2⟩:=hrd
   have post:LeavesInM Fence.wide 0 P fn a1.tmps (fun e w' => ∃ Γ',Γ'.w=w' /\ Γ'.σ = σ'/\Real fid Γ'/\Step Γ Γ'/\qvA fid Γ' v e) a1.defers .returning Γ1.w:=by
    rw[m1,Wp]
    refine qd6 hC is ds' Γ1 m2 m3 g2.real g2.step g2.frame h1 fun Γ2 k1 k2 k3 k4=>?_
    subst k1
    obtain⟨y,r1,Γ',r2,r3,r4,r5,r6⟩:=qgY hres k2 k3 k4 h2
    exact⟨y,r1,Γ',r2,r3,r4,r5,.inl ⟨y,rfl,r6⟩⟩
   rcases hex with rfl|rfl
   ·exact post
   ·exact post
  split at h
  ·rename_i fr' σ1 hrun
   refine fin .normal fr' σ1 hrun fun Γ1 a1 ex g1 g2 g3=>?_
   simp only[qcg] at g3; subst g3
   exact norm fr' σ1 _ .normal (.inl rfl) h Γ1 a1 g1 g2
  ·rename_i fr' σ1 hrun
   refine fin .ret fr' σ1 hrun fun Γ1 a1 ex g1 g2 g3=>?_
   simp only[qcg] at g3; subst g3
   exact norm fr' σ1 _ .ret (.inr rfl) h Γ1 a1 g1 g2
  ·rename_i pv fr' σ1 hrun
   refine fin (.pan pv) fr' σ1 hrun fun Γ1 a1 ex g1 g2 g3=>?_
   subst g1
   obtain⟨x,rfl,hx⟩:=g3
   obtain⟨is,ds',m1,m2,m3,m4⟩:=g2.marks
   show LeavesInM Fence.wide 0 P fn a1.tmps _ a1.defers (.panicking [{ v:=x,recovered:=false }]) Γ1.w
   rw[m1,Wp]
   refine qgX hC is ds' Γ1 m2 m3 g2.real g2.step g2.frame hx ?_
   unfold qeq at h
   split at h
   ·rename_i hd
    refine .inl ⟨by rw[m4]; exact hd,fun Γ2 k1 k2 k3 k4=>?_⟩
    rw[<- k1] at h
    split at h
    ·rename_i v' σs hres'
     cases h
     obtain⟨t1,t2,t3,t4,t5,t6⟩:=qaW k2 hres'
     have:=t6 [x] ⟨x,[],rfl,k4,rfl⟩
     simp only[Reps] at this
     obtain⟨y,ys,e1,e2,e3⟩:=this
     cases e1
     exact⟨Γ2.part _ σ',rfl,rfl,t5,qdA k3 t1 t2 t4 (qgp _ _ _),.inr ⟨v',x,rfl,rfl,e2⟩⟩
    ·cases h
   ·rename_i id as r hd
    split at h
    ·cases h
    ·rename_i hnil
     split at h
     ·rename_i v1 σ2 hcall
      split at h
      ·rename_i σ3 hrest
       refine .inr ⟨id,as,r,v1,σ2,σ3,by rw[m4]; exact hd,by simpa using hnil,hcall,hrest,fun Γ2 k1 k2 k3 k4=>?_⟩
       subst k1
       obtain⟨y,r1,Γ',r2,r3,r4,r5,r6⟩:=qgY hres k2 k3 k4 h
       exact⟨y,r1,Γ',r2,r3,r4,r5,.inl ⟨y,rfl,r6⟩⟩
      ·cases h
     ·cases h
   ·cases h
  ·cases h
 ·cases h
theorem qhZ{fn:Func}{rs:List PR}{N:Nat}(hres:qkr P N fn.results.toList=some rs)(he:rs.isEmpty=true)(tmps:Array Value)(w:World):(results fn tmps).run P w = .ok (.tuple #[]) w:=by
 have hnil:fn.results.toList=[]:=by
  cases hr:fn.results.toList with
  |nil=>rfl
  |cons r rest=>
   rw[hr] at hres
   cases r with
   |tmp t=>
    simp only[qkr] at hres
    split at hres
    ·simp_all
    ·cases hres
   |cell a t=>
    simp only[qkr] at hres
    split at hres
    ·split at hres<;>cases hres<;>cases he
    ·cases hres
 rw[qjy]
 simp only[Sem.run_bind]
 rw[Array.mapM_eq_mapM_toList,hnil]
 simp
theorem qzi{Γ Γ1:Ctx}(hr:Real fid Γ1)(hs:Step Γ Γ1){vs:List V}{σ':S}(h:qaO (gcL Γ.σ.length [] Γ1.σ) [] Γ1.σ = some (vs,σ')) : ∃ Γ',Γ'.w = Γ1.w /\ Γ'.σ = σ'/\Real fid Γ'/\Step Γ Γ':=by
 obtain⟨t1,t2,t3,t4,t5,t6⟩:=qaW hr h
 exact⟨Γ1.part _ σ',rfl,rfl,t5,qdA hs t1 t2 t4 (qgp _ _ _)⟩
theorem qle (hid:Ties P ids fid) (hcr:Codes P ids fid) (hC:CSound P fid C) (hL:LSound P ids fid C) (hm:P.follows .mixedOrders=true) {f:Nat} {fn:Func} {K:Nat->List Nat} {ow:Bool} {pf:PFun} {c:Code} (hfn:P.funcs[fid f]?=some fn) (hbody:fn.body=some c)
  (hname:(fn.name == "runtime.NumGoroutine")=false) (hN:2*fn.ntmps<=dkey) (hcomp:comp P (ids.with ow false) fn.ntmps K c=some pf.body) (hres:qkr P fn.ntmps fn.results.toList=some pf.results) (hpn:pf.np<=fn.ntmps) (hpc:pf.catches=false)
  {args:List V} {σ σ':S} {v:V} (h:qaY C pf args σ = some (.ret v σ')):qvi P fid f args σ σ':=by
 refine⟨⟨fn,hfn,hname,by rw[hbody]; rfl⟩,fun Γ pv as px ys u hargs hσ hr hp hys hu hu'=>?_⟩
 subst hσ hargs
 simp only[qaY] at h
 split at h
 ·rename_i hcond
  obtain⟨hlen,hdf,hemp,hflat,hcn⟩:=hcond
  have hnil:pv.isNilIf=true:=by rcases hcn with h | h
                                ·rw[hpc] at h; cases h
                                ·exact h
  have hu1:=hu hnil
  subst hu1
  have hf0:=qfq (N:=fn.ntmps) hys (by omega)
  have hpos:0<dkey:=by decide
  have hk0:Fr.get ((qjX,pv)::qbd 0 as) dkey=none:=by
   simp only[Fr.get]; rw[if_neg (by decide)]; exact qhY (by omega)
  have hf1:FrRep fid Γ fn.ntmps ((qjX,pv)::qbd 0 as) (ys.toArray++Array.replicate (fn.ntmps-ys.toArray.size) undef):=⟨hf0.1,fun t v ht hv=>by
   have:qjX≠t:=fun e=>by
    have h1:qjX=dkey+1:=rfl
    omega
   simp only[Fr.get,if_neg this] at hv
   exact hf0.2 t v ht hv⟩
  have fin : ∀ (e:Ex) (fr':Fr) (σ1:S),(e = .normal\/e = .ret)->run C Γ.σ.length pf.body ((qjX,pv)::qbd 0 as) Γ.σ = some (e,fr',σ1)->(∃ vs,qaO (gcL Γ.σ.length [] σ1) [] σ1=some (vs,σ')) ->
    CallsDIn Fence.wide 0 P (fid f) ys.toArray .returning Γ.w fun e u' w' => ∃ Γ' y,e = .returned y /\ Γ'.w=w' /\ Γ'.σ = σ'/\Real fid Γ'/\Step Γ Γ'/\settle u' = .returning:=by
   intro e fr' σ1 he hrun hend
   obtain⟨vs,hend⟩:=hend
   refine CallsDIn.mono (callsDIn_of_wp (F:=Fence.wide) (n:=0) (R:=fun e w' => ∃ Γ' y,e = .returned y /\ Γ'.w=w' /\ Γ'.σ = σ'/\Real fid Γ'/\Step Γ Γ') hfn hbody trivial ?_) ?_
   ·refine qbc (ro:=none) (fl:=true) (hid.with ow false) (hcr.with ow false) hC (hL.with ow false) hm hN (fun _=>rfl) c pf.body hcomp (fun _=>hflat) _ e fr' σ1 Γ [] Γ _ _ hrun
     ⟨hr,.refl _,by simp only[Fr.defs,hk0]; exact .nil _ _ _,hf1,fun _=>rfl,fun _=>hk0⟩ fun Γ1 a1 ex g1 g2 g3=>?_
    subst g1
    obtain⟨Γ',q1,q2,q3,q4⟩:=qzi g2.real g2.step hend
    have post:a1.defers=[] /\ ∃ v,(results fn a1.tmps).run P Γ1.w = .ok v Γ1.w /\ ∃ Γ' y,Ending.returned v = .returned y /\ Γ'.w = Γ1.w /\ Γ'.σ = σ'/\Real fid Γ'/\Step Γ Γ':=
     ⟨g2.still rfl,_,qhZ hres hemp _ _,Γ',_,rfl,q1,q2,q3,q4⟩
    rcases he with rfl|rfl
    ·simp only[qcg] at g3; subst g3; exact post
    ·simp only[qcg] at g3; subst g3; exact post
   ·rintro e u' w' ⟨rfl,Γ',y,q1,q2,q3,q4,q5⟩
    exact⟨Γ',y,q1,q2,q3,q4,q5,rfl⟩
  split at h
  ·grind
  ·grind
  ·cases h
 ·cases h
theorem qmv (hid:Ties P ids fid) {N:Nat} {Γ : Ctx} {fr:Fr} {a:Act} {o:Oper} {neg:Bool} {x:X} {v:V} {σ':S} (hc:cOp P ids N o.op=some (.isnil false neg x)) (hr:Real fid Γ) (hf:FrRep fid Γ N fr a.tmps) (h:qar C fr Γ.σ (.isnil false neg x)=some (v,σ')) :
  σ' = Γ.σ /\ ∃ y,(execOp a.eval o).run P Γ.w = .ok (.value y) Γ.w/\Rep fid Γ v y:=by
 have fin : ∀ {op:BinOp} {t t':TypeId} {y:Operand} (neg':Bool),(op=if neg' then .neq else .eql)->o.op = .binOp op t y (.const .nilIface) t'->(∃ ms,P.underlying t=some (.interface ms))->(∃ y',cX ids N y=some y'/\O.isnil false neg' y' = .isnil false neg x) ->
   σ' = Γ.σ /\ ∃ y,(execOp a.eval o).run P Γ.w = .ok (.value y) Γ.w/\Rep fid Γ v y:=by
  rintro op t t' y neg' hop ho ⟨ms,ht⟩ ⟨y',h1,e⟩
  cases e
  simp only[qar] at h
  split at h
  ·rename_i u hu
   split at h
   ·rename_i b hb
    cases h
    obtain⟨g1,g2⟩:=qjm (P:=P) (qan hid hr hf h1 hu) hb (.inl ⟨rfl,rfl,ms,ht⟩) Γ.w
    refine⟨rfl,.bool (if neg then !b else b),?_,qdf rfl⟩
    have hρ : a.eval (.const .nilIface) = .nilIface:=rfl
    simp only[execOp,ho,hρ]
    generalize a.eval y=z at *
    subst hop
    rcases g2 with ⟨a,c,rfl,_⟩|⟨rfl,_⟩|⟨a,_,h⟩
    ·cases neg<;>simp[eqGuard,binOp,g1]
    ·cases neg<;>simp[eqGuard,binOp,g1]
    ·cases h
   ·cases h
  ·cases h
 have hc1:qcW P ids N o.op=some (.isnil false neg x):=by
  unfold cOp at hc
  split at hc
  ·rename_i h'; cases hc; exact h'
  ·cases hc
 clear hc
 have hc:=hc1
 clear hc1
 cases ho:o.op with
 |binOp op t y z t'=>
  rw[ho] at hc
  simp only[qcW] at hc
  split at hc
  ·simp_all
  ·simp_all
  ·simp_all
  ·simp_all
  ·simp_all
  ·simp_all
  ·exfalso
   repeat' (first
    | (cases hc; done)
    | (simp only[Wc] at hc; obtain⟨_,_,e⟩:=hc; cases e; done)
    |split at hc)
 |next y b=>
  rw[ho] at hc
  cases b with
  |true=>cases hc
  |false=>simp only[qcW,Wc] at hc; obtain⟨_,_,e⟩:=hc; cases e
 |makeFunc fn u z=>
  exfalso
  rw[ho] at hc
  cases fn<;>simp only[qcW] at hc
  all_goals repeat' (first
   | (cases hc; done)
   | (simp only[Wc] at hc; obtain⟨_,_,e⟩:=hc; cases e; done)
   |split at hc)
 |_=>
  exfalso
  rw[ho] at hc
  simp only[qcW] at hc
  all_goals (try simp only[qoN] at hc)
  repeat' (first
   | (cases hc; done)
   | (simp only[Wc] at hc; obtain⟨_,_,e⟩:=hc; cases e; done)
   | (simp only[Wc] at hc; obtain⟨_,_,e⟩:=hc; split at e<;>cases e; done)
   | (split at hc<;>first | (cases hc; done) | skip))
theorem qlf (hid:Ties P ids fid) (hcr:Codes P ids fid) (hC:CSound P fid C) (hL:LSound P ids fid C) (hm:P.follows .mixedOrders=true) {f:Nat} {fn:Func} {K:Nat->List Nat} {ow:Bool} {pf:PFun} {c:Code} (hfn:P.funcs[fid f]?=some fn) (hbody:fn.body=some c)
  (hname:(fn.name == "runtime.NumGoroutine")=false) (hN:2*fn.ntmps<=dkey) (hcomp:qoO P ids K ow false true fn.ntmps c=some pf.body) (hres:qkr P fn.ntmps fn.results.toList=some pf.results) (hpn:pf.np<=fn.ntmps)
  {args:List V} {σ σ':S} {v:V} (h:qaY C pf args σ = some (.ret v σ')):qvi P fid f args σ σ':=by
 refine⟨⟨fn,hfn,hname,by rw[hbody]; rfl⟩,fun Γ pv as px ys u hargs hσ hr hp hys hu hu'=>?_⟩
 subst hσ hargs
 simp only[qaY] at h
 split at h
 ·rename_i hcond
  obtain⟨hlen,hdf,hemp,hflat,_⟩:=hcond
  have hf0:=qfq (N:=fn.ntmps) hys (by omega)
  have hpos:0<dkey:=by decide
  have hrk:qjX=dkey+1:=rfl
  have hk0:Fr.get ((qjX,pv)::qbd 0 as) dkey=none:=by grind [Fr.get,Codes,LSound,dkey,qoO,qkr,qaY,qvi,qhY]
  have hf1:FrRep fid Γ fn.ntmps ((qjX,pv)::qbd 0 as) (ys.toArray++Array.replicate (fn.ntmps-ys.toArray.size) undef):=⟨hf0.1,fun t v ht hv=>by
   have:qjX≠t:=fun e=>by omega
   simp only[Fr.get,if_neg this] at hv
   exact hf0.2 t v ht hv⟩
  have hex : ∃ e fr' σ1 vs,(e = .normal\/e = .ret)/\run C Γ.σ.length pf.body ((qjX,pv)::qbd 0 as) Γ.σ = some (e,fr',σ1)/\qaO (gcL Γ.σ.length [] σ1) [] σ1=some (vs,σ'):=by grind
  obtain⟨e,fr',σ1,vs,he,hrun,hend⟩:=hex
  unfold qoO at hcomp
  split at hcomp
  ·rename_i id ops rest _
   split at hcomp
   ·rename_i o os hops
    split at hcomp
    ·rename_i c0 ar0 at0 d is r ho hd hg his hrest
     split at hcomp
     ·rename_i hcond2
      obtain⟨hdN,htest⟩:=hcond2
      simp only[Wd] at hcomp
      obtain⟨dst1,neg,x1,un1,his1⟩ : ∃ dst1 neg x1 un1,is=[⟨dst1,.isnil false neg x1,none,un1⟩]:=by
       unfold qrc at htest
       split at htest
       ·exact⟨_,_,_,_,rfl⟩
       ·cases htest
      subst his1
      obtain⟨o1,hos⟩ : ∃ o1,os=[o1]:=by
       cases os with
       |nil=>simp[cIs] at his
       |cons o1 os=>
        obtain⟨i,is',e1,e2,_⟩:=qge his
        cases e1
        cases os with
        |nil=>exact⟨o1,rfl⟩
        |cons o2 os=>
         obtain⟨i,is',e1,_⟩:=qge e2
         cases e1
      subst hos
      obtain⟨i,is',e1,e2,e3⟩:=qge his
      cases e1
      have hcI:cI P (ids.with ow false) fn.ntmps false ops (fun _=>[]) 1 o1=some ⟨dst1,.isnil false neg x1,none,un1⟩:=by grind [Codes,LSound,dkey,qoO,qkr,qaY,qvi,qeg]
      obtain⟨q1,q2,q3,q4⟩:=qb5 hcI
      have q2:dst1=o1.dst:=q2
      subst q2
      have hg1:o1.guard=none:=by grind
      have q1':cOp P (ids.with ow false) fn.ntmps o1.op=some (.isnil false neg x1):=q1
      have hop0:ops[0]?=some o:=by
       have:ops.toList[0]?=some o:=by rw[hops]; rfl
       simpa using this
      have hop1:ops[1]?=some o1:=by
       have:ops.toList[1]?=some o1:=by rw[hops]; rfl
       simpa using this
      have hsz:ops.size=2:=by
       have:ops.toList.length=2:=by rw[hops]; rfl
       simpa using this
      rw[<- hcomp] at hrun
      simp only[run,qbM,qaQ,qar,Fr.get,if_true] at hrun
      refine callsDIn_of_wpSIn (F:=Fence.wide) (n:=0) hfn hbody trivial fun c₀ cs hcu=>?_
      refine wpSIn_seq (wpSIn_region ?_)
      rw[hsz]
      show wpOpsSIn Fence.wide 0 P ops _ [0,1] _ _ _
      unfold wpOpsSIn
      simp only[hop0]
      have hexec : ∀ (a:Act) (w:World),(execOp a.eval o).run P w = .ok .recover w:=fun a w=>by
       simp only[execOp,ho,resolve,Sem.run_bind,Sem.run_pure,Result.andThen_ok,invoke,builtin]
      have hw0 : ∀ tm,Region.wanted o (yielded ops tm)=true:=fun tm=>by simp[Region.wanted,hg]
      have hw1 : ∀ tm,Region.wanted o1 (yielded ops tm)=true:=fun tm=>by simp[Region.wanted,hg1]
      refine⟨fun _ _=>trivial,?_⟩
      rw[hw0]
      simp only[if_true,hexec]
      have key : ∀ (y0:Value) (cs':List Frame) (u2:FrameMode),Rep fid Γ pv y0->cs'={ c₀ with mode:=u2 }::cs->settle u2 = .returning ->
        wpOpsSIn Fence.wide 0 P ops (Exit.thenS (rest.wpSIn Fence.wide 0 P (bodyPostS P fn c₀ cs (fun e u' w' => ∃ Γ' y,e = .returned y /\ Γ'.w=w' /\ Γ'.σ = σ'/\Real fid Γ'/\Step Γ Γ'/\settle u' = .returning))) (bodyPostS P fn c₀ cs (fun e u' w' => ∃ Γ' y,e = .returned y /\ Γ'.w=w' /\ Γ'.σ = σ'/\Real fid Γ'/\Step Γ Γ'/\settle u' = .returning)))
         [1] (Act.put { tmps:=ys.toArray++Array.replicate (fn.ntmps-ys.toArray.size) undef,defers:=[] } o.dst y0) cs' Γ.w:=by
       intro y0 cs' u2 hy0 hcs hset
       unfold wpOpsSIn
       simp only[hop1]
       refine⟨fun _ _=>trivial,?_⟩
       rw[hw1]
       simp only[if_true]
       have hat0:At fid fn.ntmps true (ids.with ow false).df Γ [] ((qjX,pv)::qbd 0 as) Γ { tmps:=ys.toArray++Array.replicate (fn.ntmps-ys.toArray.size) undef,defers:=[] }:=
        ⟨hr,.refl _,by simp only[Fr.defs,hk0]; exact .nil _ _ _,hf1,fun _=>rfl,fun _=>hk0⟩
       have hat1:=hat0.put (d:=o.dst) (v:=pv) (x:=y0) hN (fun k hk=>by rw[hd] at hk; cases hk; exact hdN) hr (.refl _) hy0
       cases hev:qar C (Fr.put ((qjX,pv)::qbd 0 as) o.dst pv) Γ.σ (.isnil false neg x1) with
       |none=>
        exfalso
        rw[hd] at hev
        simp only[qar] at hev
        simp only[hev] at hrun
        simp[qb9,qaQ,qar,qbk,Fr.get,hev] at hrun
       |some res=>
        obtain⟨b,σb⟩:=res
        obtain⟨rfl,y1,r1,r2⟩:=qmv (hid.with ow false) q1' hat1.real hat1.frame hev
        rw[r1]
        simp only
        unfold wpOpsSIn
        have hat2:=hat1.put (d:=o1.dst) (v:=b) (x:=y1) hN q3 hr (.refl _) r2
        have hev':=hev
        rw[hd] at hev'
        simp only[qar] at hev'
        simp only[hev'] at hrun
        simp only[Exit.thenS]
        refine wpSIn_of_wpIn rfl ?_
        have hflr:r.flat=true:=by grind [PC.flat]
        have hat3:At fid fn.ntmps true (ids.with ow false).df Γ [] ((Fr.put (Fr.put ((qjX,pv)::qbd 0 as) o.dst pv) o1.dst b).keep (K id)) Γ ((Act.put { tmps:=ys.toArray++Array.replicate (fn.ntmps-ys.toArray.size) undef,defers:=[] } o.dst y0).put o1.dst y1):=hat2.keep (ids:=ids.with ow false) K id
        rw[hd] at hat3 ⊢
        refine qbc (ro:=none) (fl:=true) (hid.with ow false) (hcr.with ow false) hC (hL.with ow false) hm hN (fun _=>rfl) rest r hrest (fun _=>hflr) _ e fr' σ1 Γ [] Γ _ _ hrun hat3 fun Γ1 a1 ex g1 g2 g3=>?_
        subst g1
        obtain⟨Γ',z1,z2,z3,z4⟩:=qzi g2.real g2.step hend
        have post:a1.defers=[] /\ ∃ u',cs'={ c₀ with mode:=u' }::cs /\ ∃ v,(results fn a1.tmps).run P Γ1.w = .ok v Γ1.w /\ ∃ Γ' y,Ending.returned v = .returned y /\ Γ'.w = Γ1.w /\ Γ'.σ = σ'/\Real fid Γ'/\Step Γ Γ'/\settle u' = .returning:=
         ⟨g2.still rfl,u2,hcs,_,qhZ hres hemp _ _,Γ',_,rfl,z1,z2,z3,z4,hset⟩
        rcases he with rfl|rfl
        ·simp only[qcg] at g3; subst g3; exact post
        ·simp only[qcg] at g3; subst g3; exact post
      cases hnil:pv.isNilIf with
      |true=>
       have hu1:=hu hnil
       have hrec:recoverD (c₀ :: cs)=none:=by simp[recoverD,hcu,hu1]
       rw[hrec]
       have hpv:pv = .dat (.lit .nilIface):=by grind [V.isNilIf]
       refine key .nilIface (c₀ :: cs) u (by rw[hpv]; exact qdf rfl) ?_ (by rw[hu1]; rfl)
       subst hcu; rfl
      |false=>
       have hu1:=hu' hnil
       have hrec:recoverD (c₀ :: cs)=some (px,{ c₀ with mode := .panicking [{ v:=px,recovered:=true }] }::cs):=by simp[recoverD,hcu,hu1]
       rw[hrec]
       exact key px _ (.panicking [{ v:=px,recovered:=true }]) hp rfl rfl
     ·cases hcomp
    ·cases hcomp
   ·cases hcomp
  ·cases hcomp
  ·rename_i h1; cases h1
 ·cases h
theorem qiO (hid:Ties P ids fid) (hcr:Codes P ids fid) (hC:CSound P fid C) (hL:LSound P ids fid C) (hm:P.follows .mixedOrders=true) {f:Nat} {fn:Func} {K:Nat->List Nat} {ns:Bool × Bool} {ow df ca:Bool} {pf:PFun} (hfn:P.funcs[fid f]?=some fn) (hc:compF P ids K ns ow df ca fn=some pf) :
  (∀ args σ v σ',ca=false->qbB C pf args σ = some (.ret v σ')->qmb P fid f args σ v σ') /\ ∀ args σ v σ',qaY C pf args σ = some (.ret v σ')->qvi P fid f args σ σ':=by
 unfold compF at hc
 split at hc
 ·rename_i c hbody
  split at hc
  ·rename_i body rs hcomp hres
   split at hc
   ·rename_i hcond
    cases hc
    obtain⟨c1,c2,c3,c4⟩:=hcond
    have hname:(fn.name == "runtime.NumGoroutine")=false:=by simpa using c3
    cases ca with
    |false=>
     have hcomp':comp P (ids.with ow df) fn.ntmps K c=some body:=by
      simpa only [qoO] using hcomp
     refine⟨fun args σ v σ' _ h=>qmu hid hcr hC hL hm hfn hbody hname c2 hcomp' hres c1 rfl h,fun args σ v σ' h=>?_⟩
     have hdf:df=false:=by
      unfold qaY at h
      split at h
      ·grind
      ·cases h
     subst hdf
     exact qle hid hcr hC hL hm hfn hbody hname c2 hcomp' hres c1 rfl h
    |true=>
     have hdf:=c4 rfl
     subst hdf
     exact⟨fun _ _ _ _ h=>by (cases h),fun args σ v σ' h=>qlf hid hcr hC hL hm hfn hbody hname c2 hcomp hres c1 h⟩
   ·cases hc
  ·cases hc
 ·cases hc
end
def Tied(P:Program)(ids:Ids)(fid:Fid)(prog:Nat->Option PFun):Prop:=
 ∀ f pf,prog f=some pf -> ∃ fn K ns ow df,P.funcs[fid f]?=some fn/\compF P ids K ns ow df pf.catches fn=some pf
theorem qrE{r:Nat->Nat}{fr:Fr}:(qd8 r fr).defs=qbl r fr.defs:=by
 have hg : ∀ fr:Fr,(qd8 r fr).get dkey=(fr.get dkey).map (V.ren r):=fun fr=>by
  induction fr with
  |nil=>rfl
  |cons p fr ih=>
   obtain⟨k,v⟩:=p
   simp only[qd8,Fr.get]
   split
   ·rfl
   ·exact ih
 simp only[Fr.defs,hg]
 cases fr.get dkey with
 |none=>rfl
 |some v=>cases v<;>rfl
theorem qpI{fr:Fr} : ∀ l∈qau fr.defs,l∈qaR fr:=by
 intro l hl
 simp only[Fr.defs] at hl
 split at hl
 ·rename_i vs hg
  have key : ∀ fr:Fr,fr.get dkey=some (.tup vs)->l∈qaR fr:=fun fr=>by
   induction fr with
   |nil=>intro h; simp[Fr.get] at h
   |cons p fr ih=>
    obtain⟨k,v⟩:=p
    intro h
    simp only[Fr.get] at h
    simp only[qaR,We]
    split at h
    ·cases h; exact .inl (by simpa only [V.locs] using hl)
    ·exact .inr (ih h)
  exact key fr hg
 ·cases hl
theorem qlg {N:Nat} {fl df:Bool} {Γ0 Γ : Ctx} {ds0:List Deferred} {fr fr1:Fr} {σ1:S} {a:Act} (hat:At fid N fl df Γ0 ds0 fr Γ a) (h:gcF Γ0.σ.length fr Γ.σ = some (fr1,σ1)) :
  ∃ Γ1:Ctx,Γ1.σ = σ1 /\ Γ1.w = Γ.w/\At fid N fl df Γ0 ds0 fr1 Γ1 a:=by
 unfold gcF at h
 simp only at h
 split at h
 ·rename_i vs σs hres
  split at h
  ·rename_i hin
   simp only[Wd,Wx] at h
   obtain⟨rfl,rfl⟩:=h
   obtain⟨t1,t2,t3,t4,t5,t6⟩:=qaW hat.real hres
   refine⟨Γ.part _ σs,rfl,rfl,⟨t5,qdA hat.step t1 t2 t4 (qgp _ _ _),?_,FrRep.ren t4 (qeb hin) hat.frame,hat.still,fun hd=>?_⟩⟩
   ·obtain⟨is,ds',m1,m2,m3,m4⟩:=hat.marks
    have ren : ∀ {is:List DI} {ds:List Deferred},DIReps fid Γ0 Γ is ds->(∀ l∈qau (qbu is),l∈gcL Γ0.σ.length (qaR fr) Γ.σ) ->
      ∃ is',DIReps fid Γ0 (Γ.part (gcL Γ0.σ.length (qaR fr) Γ.σ) σs) is' ds/\qcK is'=qcK is/\qbu is'=qbl (idx (gcL Γ0.σ.length (qaR fr) Γ.σ)) (qbu is):=by
     intro is
     induction is with
     |nil=>intro ds h _; exact⟨[],h,rfl,rfl⟩
     |cons i is ih=>
      intro ds h hl
      obtain⟨d,r,h1,h2,h3⟩:=h
      cases i with
      |m D=>
       obtain⟨is',a1,a2,a3⟩:=ih h3 hl
       refine⟨.m D::is',⟨d,r,h1,⟨h2.1,h2.2.1,h2.2.2.1,fun l hl=>?_⟩,a1⟩,by simp[qcK,a2],a3⟩
       simp only[Ctx.part] at hl
       cases hl':(gcL Γ0.σ.length (qaR fr) Γ.σ)[l]? with
       |none=>rw[hl'] at hl; cases hl
       |some l'=>rw[hl'] at hl; exact h2.2.2.2 l' hl
      |c v=>
       simp only[qbu,qau,We] at hl
       obtain⟨is',a1,a2,a3⟩:=ih h3 (fun l h=>hl l (.inr h))
       obtain⟨id,as,cap,ys,q1,q2,q3⟩:=h2
       subst q1
       refine⟨.c (.fn id (qbl (idx (gcL Γ0.σ.length (qaR fr) Γ.σ)) as) [])::is',⟨d,r,h1,⟨id,_,cap,ys,rfl,q2,Reps.ren t4 as _ (fun l hl'=>hl l (.inl (by simp[V.locs,hl']))) q3⟩,a1⟩,a2,by simp[qbu,qbl,V.ren,a3]⟩
    obtain⟨is',a1,a2,a3⟩:=ren m2 (fun l hl=>qeb hin l (qpI l (by rw[m4] at hl; exact hl)))
    exact⟨is',ds',m1,a1,by rw[a2]; exact m3,by rw[a3,m4,qrE]⟩
   ·have:=hat.nod hd
    cases hg:(qd8 (idx (gcL Γ0.σ.length (qaR fr) Γ.σ)) fr).get dkey with
    |none=>rfl
    |some v=>
     obtain⟨u,h1,_⟩:=qj1 hg
     rw[this] at h1; cases h1
  ·cases h
 ·cases h
theorem qiP(hid:Ties P ids fid)(hcr:Codes P ids fid)(hm:P.follows .mixedOrders=true){prog:Nat->Option PFun}(ht:Tied P ids fid prog) : ∀ n,CSound P fid (exec prog n)/\LSound P ids fid (exec prog n)
 |0=>⟨⟨fun f args σ v σ' h=>by simp[exec] at h,fun f args σ v σ' h=>by simp[exec] at h,fun args σ v σ' h=>by simp[exec] at h⟩,fun k b fr σ e fr' σ' h=>by simp[exec] at h⟩
 |n+1=>by
  obtain⟨hC,hL⟩:=qiP hid hcr hm ht n
  refine⟨⟨fun f args σ v σ' h=>?_,fun f args σ v σ' h=>?_,fun args σ v σ' h=>?_⟩,fun k b fr σ e fr' σ' h=>?_⟩
  ·grind [exec,Codes,Tied,LSound,qiO]
  ·grind [exec,Codes,Tied,LSound,qiO]
  ·grind [exec,Codes,Tied,LSound,qmt]
  ·simp only[exec] at h
   split at h
   ·rename_i fr0 σ0 hgc
    split at h
    ·rename_i fr1 σ1 hrun
     obtain⟨m,hs⟩:=hL _ _ _ _ _ _ _ h
     refine⟨m+1,fun N K ow d c ro fl hc hN hro hfl Γ0 ds0 Γ a Q hk0 hσ hat hk=>?_⟩
     subst hσ hk0
     obtain⟨Γ',rfl,e2,hat'⟩:=qlg hat hgc
     rw[roundsIn_succ,<- e2]
     refine qbc (hid.with ow d) (hcr.with ow d) hC (hL.with ow d) hm hN hro c b hc hfl fr0 .normal fr1 σ1 Γ0 ds0 Γ' a _ hrun hat' fun Γ1 a1 ex g1 g2 g3=>?_
     simp only[qcg] at g3; subst g3
     exact hs N K ow d c ro fl hc hN hro hfl Γ0 ds0 Γ1 a1 Q rfl g1 g2 hk
    ·rename_i e1 fr1 σ1 hne hrun
     simp only[Wd,Res.out.injEq] at h
     obtain⟨rfl,rfl,rfl⟩:=h
     refine⟨1,fun N K ow d c ro fl hc hN hro hfl Γ0 ds0 Γ a Q hk0 hσ hat hk=>?_⟩
     subst hσ hk0
     obtain⟨Γ',rfl,e2,hat'⟩:=qlg hat hgc
     rw[roundsIn_succ,<- e2]
     refine qbc (hid.with ow d) (hcr.with ow d) hC (hL.with ow d) hm hN hro c b hc hfl fr0 e1 fr1 σ1 Γ0 ds0 Γ' a _ hrun hat' fun Γ1 a1 ex g1 g2 g3=>?_
     have:=hk Γ1 a1 ex g1 g2 g3
     cases e1 with
     |normal=>exact (hne rfl).elim
     |exit id=>simp only[qcg] at g3; subst g3; exact this
     |ret=>simp only[qcg] at g3; subst g3; exact this
     |pan v=>simp only[qcg] at g3; obtain⟨x,rfl,_⟩:=g3; exact this
    ·cases h
   ·cases h
end
end Go.Pm
section
namespace Go.Pm
def Le(C C':Task->Option Res):Prop := ∀ t r,C t=some r->C' t=some r
section
variable{C C':Task->Option Res}
theorem qbp(h:Le C C'){f:List V->S->Task}{args:List V}{σ : S}{r:V × S}(hr:qaE C f args σ = some r):qaE C' f args σ = some r:=by grind [qaE,Le]
theorem qdk(h:Le C C'){f:List V->S->Task}{args:List V}{σ : S}{r:V × S}(hr:qbF C f args σ = some r):qbF C' f args σ = some r:=by grind [qbF,Le]
theorem qiH(h:Le C C'){fr:Fr}{σ : S}{op:O}{r:V × S}(hr:qbk C fr σ op=some r):qbk C' fr σ op=some r:=by
 cases op with
 |call f xs=>
  simp only[qbk] at hr ⊢
  split at hr
  ·exact qdk h hr
  ·cases hr
 |callv f xs=>
  simp only[qbk] at hr ⊢
  split at hr
  ·exact qdk h hr
  ·exact qdk h hr
  ·cases hr
 |invoke tbl x xs=>
  simp only[qbk] at hr ⊢
  split at hr
  ·grind [Le,qbk,qdk]
  ·cases hr
 |_=>exact hr
theorem qbX(h:Le C C'){fr:Fr}{σ : S}{op:O}{r:V × S}(hr:qar C fr σ op=some r):qar C' fr σ op=some r:=by
 cases op with
 |call f xs=>
  simp only[qar] at hr ⊢
  split at hr
  ·exact qbp h hr
  ·cases hr
 |callv f xs=>
  simp only[qar] at hr ⊢
  split at hr
  ·exact qbp h hr
  ·exact qbp h hr
  ·exact qbp h hr
  ·cases hr
 |invoke tbl x xs=>
  simp only[qar] at hr ⊢
  split at hr
  ·grind [Le,qar,qbp]
  ·cases hr
 |_=>exact hr
theorem qe1(h:Le C C') : ∀ {is:List I} {fr:Fr} {σ : S} {r:Fr × S},qbM C is fr σ = some r->qbM C' is fr σ = some r
 |[],_,_,_,hr=>hr
 |i::is,fr,σ,r,hr=>by
  simp only[qbM] at hr ⊢
  split at hr
  ·rename_i hw
   split at hr
   ·rename_i v σ' hv
    simp only[qbX h hv]
    exact qe1 h hr
   ·cases hr
  ·exact qe1 h hr
  ·cases hr
theorem qd2(h:Le C C'){f:List V->S->Task}{args:List V}{σ : S}{r:V × S}(hr:qbF C f args σ = some r):qaE C' f args σ = none:=by grind [qbF,qaE,Le]
theorem qfF(h:Le C C'){fr:Fr}{σ : S}{op:O}{r:V × S}(hr:qbk C fr σ op=some r):qar C' fr σ op=none:=by
 cases op with
 |call f xs=>
  simp only[qbk] at hr
  simp only[qar]
  split at hr
  ·exact qd2 h hr
  ·cases hr
 |callv f xs=>
  simp only[qbk] at hr
  simp only[qar]
  split at hr
  ·grind [Le,qbk,qar,qd2]
  ·grind [Le,qbk,qar,qd2]
  ·cases hr
 |invoke tbl x xs=>
  simp only[qbk] at hr
  simp only[qar]
  split at hr
  ·grind [Le,qbk,qar,qd2]
  ·cases hr
 |panic x=>rfl
 |_=>cases hr
theorem qc3(h:Le C C') : ∀ {is:List I} {fr:Fr} {σ : S} {r:V × Fr × S},qb9 C is fr σ = some r->qb9 C' is fr σ = some r/\qbM C' is fr σ = none
 |[],_,_,_,hr=>by simp[qb9] at hr
 |i::is,fr,σ,r,hr=>by
  simp only[qb9,qbM] at hr ⊢
  split at hr
  ·rename_i hw
   split at hr
   ·rename_i v σ' hv
    simp only[qbX h hv]
    exact qc3 h hr
   ·grind [Le,qb9,qbM,qfF,qiH]
  ·exact qc3 h hr
  ·cases hr
theorem qcB(h:Le C C') : ∀ {is:List I} {q:Nat} {fr:Fr} {σ : S} {r:Nat × List Ev × V × S},qbA C q is fr σ = some r->qbA C' q is fr σ = some r/\qbZ C' is fr σ = none
 |[],_,_,_,_,hr=>by simp[qbA] at hr
 |i::is,q,fr,σ,r,hr=>by
  simp only[qbA,qbZ] at hr ⊢
  split at hr
  ·rename_i hw
   split at hr
   ·rename_i v σ' hv
    simp only[qbX h hv]
    split at hr
    ·rename_i p l u σ'' hrest
     obtain⟨h1,h2⟩:=qcB h hrest
     simp only[h1,h2]
     exact⟨hr,trivial⟩
    ·cases hr
   ·grind [Le,qbA,qbZ,qfF,qiH]
  ·split at hr
   ·rename_i p l u σ'' hrest
    obtain⟨h1,h2⟩:=qcB h hrest
    simp only[h1,h2]
    exact⟨hr,trivial⟩
   ·cases hr
  ·cases hr
theorem qc4(h:Le C C') : ∀ {is:List I} {fr:Fr} {σ : S} {r:List Ev × Fr × S},qbZ C is fr σ = some r->qbZ C' is fr σ = some r
 |[],_,_,_,hr=>hr
 |i::is,fr,σ,r,hr=>by
  simp only[qbZ] at hr ⊢
  split at hr
  ·rename_i hw
   split at hr
   ·rename_i v σ' hv
    simp only[qbX h hv]
    split at hr
    ·rename_i l fr' σ'' hrest
     simp only[qc4 h hrest]; exact hr
    ·cases hr
   ·cases hr
  ·split at hr
   ·rename_i l fr' σ'' hrest
    simp only[qc4 h hrest]; exact hr
   ·cases hr
  ·cases hr
theorem qdD(h:Le C C') : ∀ {is:List I} {fr:Fr} {σ : S} {r:List (Fr × S)},qeP C is fr σ = some r->qeP C' is fr σ = some r
 |[],_,_,_,hr=>hr
 |i::is,fr,σ,r,hr=>by
  simp only[qeP] at hr ⊢
  split at hr
  ·rename_i hw
   split at hr
   ·rename_i v σ' hv
    simp only[qbX h hv]
    split at hr
    ·rename_i l hrest
     simp only[qdD h hrest]; exact hr
    ·cases hr
   ·cases hr
  ·split at hr
   ·rename_i l hrest
    simp only[qdD h hrest]; exact hr
   ·cases hr
  ·cases hr
theorem qa3(h:Le C C'){k:Nat} : ∀ {pc:PC} {fr:Fr} {σ : S} {r:Ex × Fr × S},run C k pc fr σ = some r->run C' k pc fr σ = some r
 |.range f ps as bd,fr,σ,r,hr=>by grind [run,Le,qbp]
 |.skip,_,_,_,hr=>hr
 |.exit _,_,_,_,hr=>hr
 |.ret,_,_,_,hr=>hr
 |.region none ops keep _,fr,σ,r,hr=>by grind [run,Le,qe1,qc3]
 |.region (some rs) ops keep _,fr,σ,r,hr=>by grind [run,Le,qc4,qdD,qcB]
 |.seq a b,fr,σ,r,hr=>by
  simp only[run] at hr ⊢
  split at hr
  ·rename_i fr' σ' hx; simp only[qa3 h hx]; exact qa3 h hr
  ·rename_i hne
   have:=qa3 h hr
   rw[this]
   obtain⟨e,fr',σ'⟩:=r
   cases e with
   |normal=>exact absurd hr (hne _ _)
   |exit id=>rfl
   |ret=>rfl
   |pan v=>rfl
 |.cond c a b,fr,σ,r,hr=>by
  simp only[run] at hr ⊢
  split at hr
  ·exact qa3 h hr
  ·exact qa3 h hr
  ·cases hr
 |.block id b,fr,σ,r,hr=>by
  simp only[run] at hr ⊢
  split at hr
  ·rename_i id' fr' σ' hx; simp only[qa3 h hx]; exact hr
  ·rename_i hne
   have:=qa3 h hr
   rw[this]
   obtain⟨e,fr',σ'⟩:=r
   cases e with
   |normal=>rfl
   |exit id=>exact absurd hr (hne _ _ _)
   |ret=>rfl
   |pan v=>rfl
 |.loop b,fr,σ,r,hr=>by grind [run,Le]
theorem qfG(h:Le C C'){args:List V}{σ : S}{r:Res}(hr:qb3 C args σ = some r):qb3 C' args σ = some r:=by
 unfold qb3 at hr ⊢
 split at hr
 ·split at hr
  ·split at hr
   ·rename_i hlp hc
    simp only[if_pos hc]
    split at hr
    ·rename_i fr1 σ1 hx
     simp only[qa3 h hx]
     split at hr
     ·split at hr
      ·rename_i hlp1 hst
       simp only[hlp1,if_pos hst]
       split at hr
       ·cases hr
       ·rename_i e fr2 σ2 hnp hy
        simp only[qa3 h hy]
        cases e with
        |pan v=>exact (hnp _ rfl).elim
        |normal=>exact hr
        |exit id=>exact hr
        |ret=>exact hr
       ·cases hr
      ·cases hr
     ·cases hr
    ·cases hr
   ·cases hr
  ·cases hr
 ·cases hr
theorem qbY(h:Le C C') : ∀ {l:List V} {σ : S} {r:S},qa8 C l σ = some r->qa8 C' l σ = some r
 |[],σ,r,hr=>hr
 |v::l,σ,r,hr=>by
  unfold qa8 at hr ⊢
  split at hr
  ·rename_i e; cases e
  ·rename_i id a r' e
   cases e
   split at hr
   ·rename_i v' σ' hc
    simp only[qbp h hc]
    exact qbY h hr
   ·cases hr
  ·cases hr
theorem qiI(h:Le C C'){pf:PFun}{k:Nat}{fr:Fr}{σ : S}{r:Res}(hr:qfh C pf k fr σ = some r):qfh C' pf k fr σ = some r:=by grind [qfh,Le,qbY]
theorem qhq(h:Le C C'){pf:PFun}{k:Nat}{v:V}{fr:Fr}{σ : S}{r:Res}(hr:qeq C pf k v fr σ = some r):qeq C' pf k v fr σ = some r:=by
 unfold qeq at hr ⊢
 split at hr
 ·exact hr
 ·grind [Le,qeq,qbp,qbY]
 ·cases hr
theorem qfH(h:Le C C'){pf:PFun}{args:List V}{σ : S}{r:Res}(hr:qbB C pf args σ = some r):qbB C' pf args σ = some r:=by grind [qfh,qcl,qbB,Le,qiI,qa3,qhq]
theorem qfj(h:Le C C'){pf:PFun}{args:List V}{σ : S}{r:Res}(hr:qaY C pf args σ = some r):qaY C' pf args σ = some r:=by
 unfold qaY at hr ⊢
 split at hr
 ·grind [Le,qaY,qa3]
 ·cases hr
end
variable{prog:Nat->Option PFun}
theorem qkx : ∀ n,Le (exec prog n) (exec prog (n+1))
 |0=>fun t r h=>by simp[exec] at h
 |n+1=>fun t r h=>by
  have ih:=qkx n
  cases t with
  |call f args σ=>
   simp only[exec] at h ⊢
   split at h
   ·grind [Le,exec,qfH]
   ·cases h
  |dcall f args σ=>
   simp only[exec] at h ⊢
   split at h
   ·exact qfj ih h
   ·cases h
  |round args σ=>
   simp only[exec] at h ⊢
   exact qfG ih h
  |loop k b fr σ=>
   simp only[exec] at h ⊢
   split at h
   ·grind [Le,exec,qa3]
   ·cases h
theorem qaX{m n:Nat}(h:m<=n):Le (exec prog m) (exec prog n):=by
 induction n with
 | zero => have:m=0:=by omega
           subst this; exact fun _ _ h=>h
 |succ n ih=>
  rcases Yn n m with h'|h'
  ·grind [Le,exec]
  ·exact fun t r ht=>qkx n t r (ih h' t r ht)
open Classical in
noncomputable def Z(prog:Nat->Option PFun)(t:Task):Option Res:=if h : ∃ n r,exec prog n t=some r then exec prog (Classical.choose h) t else none
theorem Z_iff{t:Task}{r:Res}:Z prog t=some r ↔ ∃ n,exec prog n t=some r:=by
 classical
 unfold Z
 constructor
 ·intro h
  split at h
  ·exact⟨_,h⟩
  ·cases h
 ·rintro ⟨n,hn⟩
  have hex : ∃ n r,exec prog n t=some r:=⟨n,r,hn⟩
  rw[dif_pos hex]
  obtain⟨r',hr'⟩:=Classical.choose_spec hex
  have h1:=qaX (prog:=prog) (WS n (Classical.choose hex)) t r hn
  have h2:=qaX (prog:=prog) (WM n (Classical.choose hex)) t r' hr'
  rw[h1] at h2
  rw[hr',h2]
theorem qtg{n:Nat}{t:Task}{r:Res}(h:exec prog n t=some r):Z prog t=some r:=Z_iff.2 ⟨n,h⟩
theorem qcC{f:List V->S->Task}{args:List V}{σ : S}{r:V × S}(hr:qaE (Z prog) f args σ = some r) : ∃ n,qaE (exec prog n) f args σ = some r:=by
 unfold qaE at hr ⊢
 simp only at hr ⊢
 split at hr
 ·split at hr
  ·cases hr
  ·rename_i v s' hnp hc
   obtain⟨n,hn⟩:=Z_iff.1 hc
   exact⟨n,by simp only[hn]; exact hr⟩
  ·cases hr
 ·cases hr
theorem qe2{f:List V->S->Task}{args:List V}{σ : S}{r:V × S}(hr:qbF (Z prog) f args σ = some r) : ∃ n,qbF (exec prog n) f args σ = some r:=by
 unfold qbF at hr ⊢
 simp only at hr ⊢
 split at hr
 ·split at hr
  ·rename_i v s' hc
   obtain⟨n,hn⟩:=Z_iff.1 hc
   exact⟨n,by simp only[hn]; exact hr⟩
  ·cases hr
 ·cases hr
theorem qmY{fr:Fr}{σ : S}{op:O}{r:V × S}(hr:qbk (Z prog) fr σ op=some r) : ∃ n,qbk (exec prog n) fr σ op=some r:=by
 cases op with
 |call f xs=>
  simp only[qbk] at hr ⊢
  split at hr
  ·exact qe2 hr
  ·cases hr
 |callv f xs=>
  simp only[qbk] at hr ⊢
  split at hr
  ·exact qe2 hr
  ·exact qe2 hr
  ·cases hr
 |invoke tbl x xs=>
  simp only[qbk] at hr ⊢
  split at hr
  ·split at hr
   ·exact qe2 hr
   ·cases hr
  ·cases hr
 |_=>exact⟨0,hr⟩
theorem qhr{fr:Fr}{σ : S}{op:O}{r:V × S}(hr:qar (Z prog) fr σ op=some r) : ∃ n,qar (exec prog n) fr σ op=some r:=by
 cases op with
 |call f xs=>
  simp only[qar] at hr ⊢
  split at hr
  ·exact qcC hr
  ·cases hr
 |callv f xs=>
  simp only[qar] at hr ⊢
  split at hr
  ·exact qcC hr
  ·exact qcC hr
  ·exact qcC hr
  ·cases hr
 |invoke tbl x xs=>
  simp only[qar] at hr ⊢
  split at hr
  ·split at hr
   ·exact qcC hr
   ·cases hr
  ·cases hr
 |_=>exact⟨0,hr⟩
theorem qjB : ∀ {is:List I} {fr:Fr} {σ : S} {r:Fr × S},qbM (Z prog) is fr σ = some r -> ∃ n,qbM (exec prog n) is fr σ = some r
 |[],_,_,_,hr=>⟨0,hr⟩
 |i::is,fr,σ,r,hr=>by
  simp only[qbM] at hr ⊢
  split at hr
  ·rename_i hw
   split at hr
   ·rename_i v σ' hv
    obtain⟨n,hn⟩:=qhr hv
    obtain⟨m,hm⟩:=qjB hr
    refine⟨max n m,?_⟩
    simp only[qbX (qaX (WS n m)) hn]
    exact qe1 (qaX (WM n m)) hm
   ·cases hr
  ·exact qjB hr
  ·cases hr
theorem qhs : ∀ {is:List I} {fr:Fr} {σ : S} {r:List Ev × Fr × S},qbZ (Z prog) is fr σ = some r -> ∃ n,qbZ (exec prog n) is fr σ = some r
 |[],_,_,_,hr=>⟨0,hr⟩
 |i::is,fr,σ,r,hr=>by
  simp only[qbZ] at hr ⊢
  split at hr
  ·rename_i hw
   split at hr
   ·rename_i v σ' hv
    obtain⟨n,hn⟩:=qhr hv
    split at hr
    ·rename_i l fr' σ'' hrest
     obtain⟨m,hm⟩:=qhs hrest
     refine⟨max n m,?_⟩
     simp only[qbX (qaX (WS n m)) hn,qc4 (qaX (WM n m)) hm]
     exact hr
    ·cases hr
   ·cases hr
  ·split at hr
   ·rename_i l fr' σ'' hrest
    obtain⟨m,hm⟩:=qhs hrest
    exact⟨m,by simp only[hm]; exact hr⟩
   ·cases hr
  ·cases hr
theorem qjC : ∀ {is:List I} {fr:Fr} {σ : S} {r:List (Fr × S)},qeP (Z prog) is fr σ = some r -> ∃ n,qeP (exec prog n) is fr σ = some r
 |[],_,_,_,hr=>⟨0,hr⟩
 |i::is,fr,σ,r,hr=>by
  simp only[qeP] at hr ⊢
  split at hr
  ·rename_i hw
   split at hr
   ·rename_i v σ' hv
    obtain⟨n,hn⟩:=qhr hv
    split at hr
    ·rename_i l hrest
     obtain⟨m,hm⟩:=qjC hrest
     refine⟨max n m,?_⟩
     simp only[qbX (qaX (WS n m)) hn,qdD (qaX (WM n m)) hm]
     exact hr
    ·cases hr
   ·cases hr
  ·split at hr
   ·rename_i l hrest
    obtain⟨m,hm⟩:=qjC hrest
    exact⟨m,by simp only[hm]; exact hr⟩
   ·cases hr
  ·cases hr
theorem qht : ∀ {is:List I} {fr:Fr} {σ : S} {r:V × Fr × S},qb9 (Z prog) is fr σ = some r -> ∃ n,qb9 (exec prog n) is fr σ = some r
 |[],_,_,_,hr=>by simp[qb9] at hr
 |i::is,fr,σ,r,hr=>by
  simp only[qb9] at hr ⊢
  split at hr
  ·rename_i hw
   split at hr
   ·rename_i v σ' hv
    obtain⟨n,hn⟩:=qhr hv
    obtain⟨m,hm⟩:=qht hr
    refine⟨max n m,?_⟩
    simp only[qbX (qaX (WS n m)) hn]
    exact (qc3 (qaX (WM n m)) hm).1
   ·split at hr
    ·rename_i v σ' hv
     obtain⟨n,hn⟩:=qmY hv
     exact⟨n,by simp only[qfF (fun _ _ h=>h) hn,hn]; exact hr⟩
    ·cases hr
  ·exact qht hr
  ·cases hr
theorem qgs : ∀ {is:List I} {q:Nat} {fr:Fr} {σ : S} {r:Nat × List Ev × V × S},qbA (Z prog) q is fr σ = some r -> ∃ n,qbA (exec prog n) q is fr σ = some r
 |[],_,_,_,_,hr=>by simp[qbA] at hr
 |i::is,q,fr,σ,r,hr=>by
  simp only[qbA] at hr ⊢
  split at hr
  ·rename_i hw
   split at hr
   ·rename_i v σ' hv
    obtain⟨n,hn⟩:=qhr hv
    split at hr
    ·rename_i p l u σ'' hrest
     obtain⟨m,hm⟩:=qgs hrest
     refine⟨max n m,?_⟩
     simp only[qbX (qaX (WS n m)) hn,(qcB (qaX (WM n m)) hm).1]
     exact hr
    ·cases hr
   ·split at hr
    ·rename_i v σ' hv
     obtain⟨n,hn⟩:=qmY hv
     exact⟨n,by simp only[qfF (fun _ _ h=>h) hn,hn]; exact hr⟩
    ·cases hr
  ·split at hr
   ·rename_i p l u σ'' hrest
    obtain⟨m,hm⟩:=qgs hrest
    exact⟨m,by simp only[hm]; exact hr⟩
   ·cases hr
  ·cases hr
theorem qc5{k:Nat} : ∀ {pc:PC} {fr:Fr} {σ : S} {r:Ex × Fr × S},run (Z prog) k pc fr σ = some r -> ∃ n,run (exec prog n) k pc fr σ = some r
 |.range f ps as bd,fr,σ,r,hr=>by grind [run,Z,exec,qcC]
 |.skip,_,_,_,hr=>⟨0,hr⟩
 |.exit _,_,_,_,hr=>⟨0,hr⟩
 |.ret,_,_,_,hr=>⟨0,hr⟩
 |.region none ops keep _,fr,σ,r,hr=>by
  simp only[run] at hr ⊢
  split at hr
  ·grind [run,Z,exec,qjB]
  ·split at hr
   ·rename_i v fr' σ' hx
    obtain⟨n,hn⟩:=qht hx
    exact⟨n,by simp only[hn,(qc3 (fun _ _ h=>h) hn).2]; exact hr⟩
   ·cases hr
 |.region (some rs) ops keep _,fr,σ,r,hr=>by
  simp only[run] at hr ⊢
  split at hr
  ·rename_i es fr' σ' hx
   obtain⟨n,hn⟩:=qhs hx
   split at hr
   ·grind
   ·rename_i hc
    split at hr
    ·rename_i ss ht
     obtain⟨m,hm⟩:=qjC ht
     refine⟨max n m,?_⟩
     simp only[qc4 (qaX (WS n m)) hn,qdD (qaX (WM n m)) hm]
     rw[if_neg hc]; exact hr
    ·cases hr
  ·split at hr
   ·rename_i p es v σ' hx
    obtain⟨n,hn⟩:=qgs hx
    exact⟨n,by simp only[hn,(qcB (fun _ _ h=>h) hn).2]; exact hr⟩
   ·cases hr
 |.seq a b,fr,σ,r,hr=>by
  simp only[run] at hr ⊢
  split at hr
  ·rename_i fr' σ' hx
   obtain⟨n,hn⟩:=qc5 hx
   obtain⟨m,hm⟩:=qc5 hr
   refine⟨max n m,?_⟩
   simp only[qa3 (qaX (WS n m)) hn]
   exact qa3 (qaX (WM n m)) hm
  ·rename_i hne
   obtain⟨n,hn⟩:=qc5 hr
   refine⟨n,?_⟩
   rw[hn]
   obtain⟨e,fr',σ'⟩:=r
   cases e with
   |normal=>exact absurd hr (hne _ _)
   |exit id=>rfl
   |ret=>rfl
   |pan v=>rfl
 |.cond c a b,fr,σ,r,hr=>by
  simp only[run] at hr ⊢
  split at hr
  ·exact qc5 hr
  ·exact qc5 hr
  ·cases hr
 |.block id b,fr,σ,r,hr=>by
  simp only[run] at hr ⊢
  split at hr
  ·rename_i id' fr' σ' hx
   obtain⟨n,hn⟩:=qc5 hx
   exact⟨n,by simp only[hn]; exact hr⟩
  ·rename_i hne
   obtain⟨n,hn⟩:=qc5 hr
   refine⟨n,?_⟩
   rw[hn]
   obtain⟨e,fr',σ'⟩:=r
   cases e with
   |normal=>rfl
   |exit id=>exact absurd hr (hne _ _ _)
   |ret=>rfl
   |pan v=>rfl
 |.loop b,fr,σ,r,hr=>by
  simp only[run] at hr ⊢
  split at hr
  ·rename_i e fr' σ' hx
   obtain⟨n,hn⟩:=Z_iff.1 hx
   exact⟨n,by simp only[hn]; exact hr⟩
  ·cases hr
theorem qeu : ∀ {l:List V} {σ : S} {r:S},qa8 (Z prog) l σ = some r -> ∃ n,qa8 (exec prog n) l σ = some r
 |[],σ,r,hr=>⟨0,hr⟩
 |v::l,σ,r,hr=>by
  unfold qa8 at hr ⊢
  split at hr
  ·rename_i e; cases e
  ·rename_i id a r' e
   cases e
   split at hr
   ·rename_i v' σ' hc
    obtain⟨n,hn⟩:=qcC hc
    obtain⟨m,hm⟩:=qeu hr
    refine⟨max n m,?_⟩
    simp only[qbp (qaX (WS n m)) hn]
    exact qbY (qaX (WM n m)) hm
   ·cases hr
  ·cases hr
theorem qmZ{pf:PFun}{k:Nat}{fr:Fr}{σ : S}{r:Res}(hr:(if pf.df then qfh (Z prog) pf k fr σ else qcl pf k fr σ)=some r) : ∃ n,(if pf.df then qfh (exec prog n) pf k fr σ else qcl pf k fr σ)=some r:=by
 split at hr
 ·grind [qfh,Z,qcl,exec,qeu]
 ·rename_i hd
  simp only[if_neg hd]
  exact⟨0,hr⟩
theorem qo5{pf:PFun}{k:Nat}{v:V}{fr:Fr}{σ : S}{r:Res}(hr:qeq (Z prog) pf k v fr σ = some r) : ∃ n,qeq (exec prog n) pf k v fr σ = some r:=by
 unfold qeq at hr ⊢
 split at hr
 ·exact⟨0,hr⟩
 ·split at hr
  ·cases hr
  ·rename_i hn
   simp only[if_neg hn]
   split at hr
   ·rename_i v' σ' hc
    obtain⟨n,hn⟩:=qcC hc
    split at hr
    ·rename_i σ'' hx
     obtain⟨m,hm⟩:=qeu hx
     refine⟨max n m,?_⟩
     simp only[qbp (qaX (WS n m)) hn,qbY (qaX (WM n m)) hm]
     exact hr
    ·cases hr
   ·cases hr
 ·cases hr
theorem ql4{pf:PFun}{args:List V}{σ : S}{r:Res}(h:qbB (Z prog) pf args σ = some r) : ∃ n,qbB (exec prog n) pf args σ = some r:=by
 have lv : ∀ {n m k fr σ},(if pf.df then qfh (exec prog m) pf k fr σ else qcl pf k fr σ)=some r->m<=n->(if pf.df then qfh (exec prog n) pf k fr σ else qcl pf k fr σ)=some r:=fun hr hle=>by
  split at hr
  ·rename_i hd; rw[if_pos hd]; exact qiI (qaX hle) hr
  ·rename_i hd; rw[if_neg hd]; exact hr
 unfold qbB at h ⊢
 split at h
 ·rename_i hl
  simp only[if_pos hl]
  split at h
  ·rename_i fr σ' hx
   obtain⟨n,hn⟩:=qc5 hx
   obtain⟨m,hm⟩:=qmZ h
   refine⟨max n m,?_⟩
   simp only[qa3 (qaX (WS n m)) hn]
   exact lv hm (WM n m)
  ·rename_i fr σ' hx
   obtain⟨n,hn⟩:=qc5 hx
   obtain⟨m,hm⟩:=qmZ h
   refine⟨max n m,?_⟩
   simp only[qa3 (qaX (WS n m)) hn]
   exact lv hm (WM n m)
  ·rename_i v fr σ' hx
   obtain⟨n,hn⟩:=qc5 hx
   obtain⟨m,hm⟩:=qo5 h
   refine⟨max n m,?_⟩
   simp only[qa3 (qaX (WS n m)) hn]
   exact qhq (qaX (WM n m)) hm
  ·cases h
 ·cases h
theorem qaD{f:Nat}{pf:PFun}{args:List V}{σ : S}{r:Res}(hf:prog f=some pf)(hc:pf.catches=false)(h:qbB (Z prog) pf args σ = some r):Z prog (.call f args σ)=some r:=by
 obtain⟨n,hn⟩:=ql4 h
 exact qtg (n:=n+1) (by simp only[exec,hf,hc,Wz,if_false,hn])
theorem qth{f:Nat}{pf:PFun}{args:List V}{σ : S}{r:Res}(hf:prog f=some pf)(h:qaY (Z prog) pf args σ = some r):Z prog (.dcall f args σ)=some r:=by
 have : ∃ n,qaY (exec prog n) pf args σ = some r:=by
  unfold qaY at h ⊢
  split at h
  ·grind [qaY,Z,qc5]
  ·cases h
 obtain⟨n,hn⟩:=this
 exact qtg (n:=n+1) (by simp only[exec,hf,hn])
theorem qhu{k:Nat}{b:PC}{fr fr0 fr':Fr}{σ σ0 σ':S}{r:Res}(hg:gcF k fr σ = some (fr0,σ0))(h:run (Z prog) k b fr0 σ0=some (.normal,fr',σ'))(hr:Z prog (.loop k b fr' σ')=some r):Z prog (.loop k b fr σ)=some r:=by
 obtain⟨n,hn⟩:=qc5 h
 obtain⟨m,hm⟩:=Z_iff.1 hr
 refine qtg (n:=max n m+1) ?_
 simp only[exec,hg,qa3 (qaX (WS n m)) hn]
 exact qaX (WM n m) _ _ hm
theorem qe3{k:Nat}{b:PC}{fr fr0 fr':Fr}{σ σ0 σ':S}{e:Ex}(he:e ≠ .normal)(hg:gcF k fr σ = some (fr0,σ0))(h:run (Z prog) k b fr0 σ0=some (e,fr',σ')):Z prog (.loop k b fr σ)=some (.out e fr' σ'):=by
 obtain⟨n,hn⟩:=qc5 h
 refine qtg (n:=n+1) ?_
 simp only[exec,hg,hn]
 all_goals (cases e with
  |normal=>exact absurd rfl he
  |exit id=>rfl
  |ret=>rfl
  |pan v=>rfl)
theorem qti{args:List V}{σ : S}{r:Res}(h:qb3 (Z prog) args σ = some r):Z prog (.round args σ)=some r:=by
 have : ∃ n,qb3 (exec prog n) args σ = some r:=by
  unfold qb3 at h ⊢
  split at h
  ·split at h
   ·split at h
    ·rename_i hlp hc
     simp only[if_pos hc]
     split at h
     ·rename_i fr1 σ1 hx
      obtain⟨n,hn⟩:=qc5 hx
      split at h
      ·split at h
       ·rename_i hlp1 hst
        split at h
        ·cases h
        ·rename_i e fr2 σ2 hnp hy
         obtain⟨m,hm⟩:=qc5 hy
         refine⟨max n m,?_⟩
         simp only[qa3 (qaX (WS n m)) hn,hlp1,if_pos hst,qa3 (qaX (WM n m)) hm]
         cases e with
         |pan v=>exact (hnp _ rfl).elim
         |normal=>exact h
         |exit id=>exact h
         |ret=>exact h
        ·cases h
       ·cases h
      ·cases h
     ·cases h
    ·cases h
   ·cases h
  ·cases h
 obtain⟨n,hn⟩:=this
 exact qtg (n:=n+1) (by simp only[exec,hn])
variable{P:Program}{ids:Ids}{fid:Fid}
def qsD(w:World):Nat->Nat:=fun b=>match w.heap[b]? with
 |some (.cells arr _ _)=>arr.size
 |_=>0
def qgt(w:World):Ctx:=⟨[],fun _=>none,qsD w,w⟩
def GlbAt(fid:Fid)(w:World):Prop := ∀ g cs,fid.gl g=some cs -> ∃ vs,RepDs (qsD w) w cs vs/\Row (qsD w) w g 0 vs
theorem qnU{w:World}(hg:GlbAt fid w):Real fid (qgt w):=by
 refine⟨fun l ob b h=>by simp[qgt] at h,fun l b h=>by simp[qgt] at h,fun l l' b h=>by simp[qgt] at h,fun b hb=>?_,hg⟩
 simp only[qgt,qsD] at hb ⊢
 cases h:w.heap[b]? with
 |none=>rw[h] at hb; simp at hb
 |some o=>
  rw[h] at hb
  cases o<;>simp only at hb<;>first | (exact absurd hb (WP _)) | exact⟨_,_,_,rfl,Wg _⟩
theorem calls_of_Z (hid:Ties P ids fid) (hcr:Codes P ids fid) (hm:P.follows .mixedOrders=true) (ht:Tied P ids fid prog) {f:Nat} {args:List V} {xs:List Value} {d:Value} {σ':S} {w:World} (h:Z prog (.call f args [])=some (.ret (.dat (.lit d)) σ')) (hg:GlbAt fid w)
  (ha:Reps fid (qgt w) args xs):Calls P (fid f) xs.toArray w fun e w'=>e = .returned d/\w'.os=w.os/\w'.tape=w.tape/\w'.output=w.output/\w.heap.size<=w'.heap.size /\ ∀ k,k<w.heap.size->w'.heap[k]?=w.heap[k]?:=by
 obtain⟨n,hn⟩:=Z_iff.1 h
 obtain⟨_,hs⟩:=(qiP hid hcr hm ht n).1.call _ _ _ _ _ hn
 refine (callsIn_wide.1 (hs (qgt w) xs rfl (qnU hg) ha)).mono ?_
 rintro e w' ⟨Γ',rfl,_,_,h3,hout⟩
 rcases hout with ⟨x,rfl,h4⟩|⟨u,x,hu,_⟩
 rotate_left
 ·cases hu
 refine⟨by rw[(qaC h4).1],h3.ext.os,h3.ext.tape,h3.ext.output,h3.ext.size,fun k hk=>(h3.frm.same k hk fun l h=>by simp[qgt] at h).1⟩
end Go.Pm
namespace Go.Pm
variable{prog:Nat->Option PFun}
theorem qtj{α : Type}{a b:Option α}(h : ∀ r,a=some r->b=some r)(k : ∀ r,b=some r->a=some r):a=b:=by
 cases a with
 |some r=>exact (h r rfl).symm
 |none=>cases b with
  |none=>rfl
  |some r=>exact k r rfl
theorem qvx{n:Nat}:Le (exec prog n) (Z prog):=fun _ _ h=>qtg h
def qao(C:Task->Option Res)(k:Nat)(b:PC):Option (Fr × S)->Option Res
 |some (fr0,σ0)=>match run C k b fr0 σ0 with
  |some (.normal,fr',σ')=>C (.loop k b fr' σ')
  |some (e,fr',σ')=>some (.out e fr' σ')
  |none=>none
 |none=>none
theorem qap(k:Nat)(b:PC)(fr:Fr)(σ : S):Z prog (.loop k b fr σ)=qao (Z prog) k b (gcF k fr σ):=by
 refine qtj (fun r h=>?_) (fun r h=>?_)
 ·obtain⟨n,hn⟩:=Z_iff.1 h
  cases n with
  |zero=>simp[exec] at hn
  |succ n=>
   simp only[exec] at hn
   split at hn
   ·grind [qao,Z,gcF,qa3,qvx,qtg]
   ·cases hn
 ·grind [qao,Z,gcF,qhu,qe3]
end Go.Pm
end
namespace Go.Pm
section
universe u
variable{α : Type u}
mutual
def fD:D->(D -> α) -> α
 |.lit v,k=>k (.lit v)
 |.sl cs n f,k=>fDs cs fun cs=>k (.sl cs n f)
 |.imm cs o,k=>fDs cs fun cs=>k (.imm cs o)
 |.agg cs,k=>fDs cs fun cs=>k (.agg cs)
 |.iface t d,k=>fD d fun d=>k (.iface t d)
def fDs:List D->(List D -> α) -> α
 |[],k=>k []
 |d::ds,k=>fD d fun d=>fDs ds fun ds=>k (d::ds)
end
mutual
theorem quc : ∀ (d:D) (k:D -> α),fD d k=k d
 |.lit _,_=>by simp only[fD]
 |.sl cs _ _,_=>by simp only[fD,qi6 cs]
 |.imm cs _,_=>by simp only[fD,qi6 cs]
 |.agg cs,_=>by simp only[fD,qi6 cs]
 |.iface _ d,_=>by simp only[fD,quc d]
theorem qi6 : ∀ (ds:List D) (k:List D -> α),fDs ds k=k ds
 |[],_=>by simp only[fDs]
 |d::ds,_=>by simp only[fDs,quc d,qi6 ds]
end
mutual
def fV:V->(V -> α) -> α
 |.dat d,k=>fD d fun d=>k (.dat d)
 |.ptr l o,k=>k (.ptr l o)
 |.gsl cs n sz l,k=>fDs cs fun cs=>k (.gsl cs n sz l)
 |.msl l o n cap sz,k=>k (.msl l o n cap sz)
 |.own l n sz,k=>k (.own l n sz)
 |.eptr l n o,k=>k (.eptr l n o)
 |.vw l n o m sz,k=>k (.vw l n o m sz)
 |.rw cs n,k=>fVs cs fun cs=>k (.rw cs n)
 |.bm g v,k=>fV v fun v=>k (.bm g v)
 |.agg cs,k=>fVs cs fun cs=>k (.agg cs)
 |.fn f a b,k=>fVs a fun a=>fVs b fun b=>k (.fn f a b)
 |.mp l,k=>k (.mp l)
 |.iface t v,k=>fV v fun v=>k (.iface t v)
 |.tup vs,k=>fVs vs fun vs=>k (.tup vs)
 |.yld l,k=>k (.yld l)
 |.pan v,k=>fV v fun v=>k (.pan v)
def fVs:List V->(List V -> α) -> α
 |[],k=>k []
 |v::vs,k=>fV v fun v=>fVs vs fun vs=>k (v::vs)
end
mutual
theorem qlu : ∀ (v:V) (k:V -> α),fV v k=k v
 |.dat d,_=>by simp only[fV,quc]
 |.ptr _ _,_=>by simp only[fV]
 |.gsl cs _ _ _,_=>by simp only[fV,qi6]
 |.msl _ _ _ _ _,_=>by simp only[fV]
 |.own _ _ _,_=>by simp only[fV]
 |.eptr _ _ _,_=>by simp only[fV]
 |.vw _ _ _ _ _,_=>by simp only[fV]
 |.rw cs _,_=>by simp only[fV,qcN cs]
 |.bm _ v,_=>by simp only[fV,qlu v]
 |.agg cs,_=>by simp only[fV,qcN cs]
 |.fn _ a b,_=>by simp only[fV,qcN a,qcN b]
 |.mp _,_=>by simp only[fV]
 |.iface _ v,_=>by simp only[fV,qlu v]
 |.tup vs,_=>by simp only[fV,qcN vs]
 |.yld _,_=>by simp only[fV]
 |.pan v,_=>by simp only[fV,qlu v]
theorem qcN : ∀ (vs:List V) (k:List V -> α),fVs vs k=k vs
 |[],_=>by simp only[fVs]
 |v::vs,_=>by simp only[fVs,qlu v,qcN vs]
end
def fE:List (Value × V)->(List (Value × V) -> α) -> α
 |[],k=>k []
 | (a,v)::r,k=>fV v fun v=>fE r fun r=>k ((a,v)::r)
theorem qwv : ∀ (es:List (Value × V)) (k:List (Value × V) -> α),fE es k=k es
 |[],_=>rfl
 | (a,v)::r,k=>by simp only[fE,qlu,qwv r]
def fF:Fr->(Fr -> α) -> α
 |[],k=>k []
 | (a,v)::r,k=>fV v fun v=>fF r fun r=>k ((a,v)::r)
theorem qud : ∀ (es:Fr) (k:Fr -> α),fF es k=k es
 |[],_=>rfl
 | (a,v)::r,k=>by simp only[fF,qlu,qud r]
def fOb:Ob->(Ob -> α) -> α
 |.cells cs,k=>fVs cs fun cs=>k (.cells cs)
 |.map es,k=>fE es fun es=>k (.map es)
 |.tip n,k=>k (.tip n)
 |.loop lp,k=>fF lp.fr fun fr=>k (.loop { lp with fr:=fr })
 |.vec cs,k=>fVs cs fun cs=>k (.vec cs)
 |.cellsT t cs,k=>fVs cs fun cs=>k (.cellsT t cs)
 |.vecT t cs,k=>fVs cs fun cs=>k (.vecT t cs)
 |.froz cs,k=>fDs cs fun cs=>k (.froz cs)
 |.dead,k=>k .dead
 |.iter l,k=>k (.iter l)
theorem qsS : ∀ (o:Ob) (k:Ob -> α),fOb o k=k o
 |.cells _,_=>by simp only[fOb,qcN]
 |.map _,_=>by simp only[fOb,qwv]
 |.tip _,_=>rfl
 |.loop _,_=>by simp only[fOb,qud]
 |.vec _,_=>by simp only[fOb,qcN]
 |.cellsT _ _,_=>by simp only[fOb,qcN]
 |.vecT _ _,_=>by simp only[fOb,qcN]
 |.froz _,_=>by simp only[fOb,qi6]
 |.dead,_=>rfl
 |.iter _,_=>rfl
def fS:S->(S -> α) -> α
 |[],k=>k []
 |o::r,k=>fOb o fun o=>fS r fun r=>k (o::r)
theorem qrV : ∀ (σ : S) (k:S -> α),fS σ k=k σ
 |[],_=>rfl
 |o::r,k=>by simp only[fS,qsS,qrV r]
mutual
theorem V.ren_id{r:Nat->Nat} : ∀ (v:V),(∀ l∈v.locs,r l=l)->v.ren r=v
 |.dat _,_=>rfl
 |.ptr l o,h=>by simp only[V.ren]; rw[h l (by simp[V.locs])]
 |.gsl cs n sz l,h=>by simp only[V.ren]; rw[h l (by simp[V.locs])]
 |.msl l _ _ _ _,h=>by simp only[V.ren]; rw[h l (by simp[V.locs])]
 |.own l _ _,h=>by simp only[V.ren]; rw[h l (by simp[V.locs])]
 |.eptr l _ _,h=>by simp only[V.ren]; rw[h l (by simp[V.locs])]
 |.vw l _ _ _ _,h=>by simp only[V.ren]; rw[h l (by simp[V.locs])]
 |.rw cs n,h=>by simp only[V.ren]; rw[qda cs (by simpa only [V.locs] using h)]
 |.bm g v,h=>by simp only[V.ren]; rw[V.ren_id v (by simpa only [V.locs] using h)]
 |.agg cs,h=>by simp only[V.ren]; rw[qda cs (by simpa only [V.locs] using h)]
 |.fn f a b,h=>by
  simp only[V.locs,We] at h
  simp only[V.ren]; rw[qda a fun l hl=>h l (.inl hl),qda b fun l hl=>h l (.inr hl)]
 |.mp l,h=>by simp only[V.ren]; rw[h l (by simp[V.locs])]
 |.iface t v,h=>by simp only[V.ren]; rw[V.ren_id v (by simpa only [V.locs] using h)]
 |.tup vs,h=>by simp only[V.ren]; rw[qda vs (by simpa only [V.locs] using h)]
 |.yld l,h=>by simp only[V.ren]; rw[h l (by simp[V.locs])]
 |.pan v,h=>by simp only[V.ren]; rw[V.ren_id v (by simpa only [V.locs] using h)]
theorem qda{r:Nat->Nat} : ∀ (vs:List V),(∀ l∈qau vs,r l=l)->qbl r vs=vs
 |[],_=>rfl
 |v::vs,h=>by
  simp only[qau,We] at h
  simp only[qbl]; rw[V.ren_id v fun l hl=>h l (.inl hl),qda vs fun l hl=>h l (.inr hl)]
end
theorem qp7{r:Nat->Nat} : ∀ (es:List (Value × V)),(∀ l∈qc7 es,r l=l)->qjW r es=es
 |[],_=>rfl
 | (k,v)::es,h=>by
  simp only[qc7,We] at h
  simp only[qjW]; rw[V.ren_id v fun l hl=>h l (.inl hl),qp7 es fun l hl=>h l (.inr hl)]
theorem qmC{r:Nat->Nat} : ∀ (es:Fr),(∀ l∈qaR es,r l=l)->qd8 r es=es
 |[],_=>rfl
 | (k,v)::es,h=>by
  simp only[qaR,We] at h
  simp only[qd8]; rw[V.ren_id v fun l hl=>h l (.inl hl),qmC es fun l hl=>h l (.inr hl)]
theorem Ob.ren_id{r:Nat->Nat} : ∀ (o:Ob),(∀ l∈o.locs,r l=l)->o.ren r=o
 |.cells cs,h=>by simp only[Ob.ren]; rw[qda cs h]
 |.map es,h=>by simp only[Ob.ren]; rw[qp7 es h]
 |.tip _,_=>rfl
 |.loop lp,h=>by simp only[Ob.ren]; rw[qmC lp.fr h]
 |.vec cs,h=>by simp only[Ob.ren]; rw[qda cs h]
 |.cellsT _ cs,h=>by simp only[Ob.ren]; rw[qda cs h]
 |.vecT _ cs,h=>by simp only[Ob.ren]; rw[qda cs h]
 |.froz _,_=>rfl
 |.dead,_=>rfl
 |.iter l,h=>by simp only[Ob.ren]; rw[h l (by simp[Ob.locs])]
def fNs:List Nat->(List Nat -> α) -> α
 |[],k=>k []
 |n::r,k=>fNs r fun r=>k (n::r)
theorem qp8 : ∀ (l:List Nat) (k:List Nat -> α),fNs l k=k l
 |[],_=>rfl
 |n::r,k=>by simp only[fNs,qp8 r]
def fOs:S->(S -> α) -> α
 |[],k=>k []
 |o::r,k=>fOs r fun r=>k (o::r)
theorem qp9 : ∀ (l:S) (k:S -> α),fOs l k=k l
 |[],_=>rfl
 |n::r,k=>by simp only[fOs,qp9 r]
def que(r:Nat->Nat)(o:Ob)(k:Ob -> α) : α := match o.locs with
 |[]=>k o
 |_::_=>fOb (o.ren r) k
theorem qrW(r:Nat->Nat)(o:Ob)(k:Ob -> α):que r o k=k (o.ren r):=by
 unfold que
 split
 ·rename_i h; rw[Ob.ren_id o (by simp[h])]
 ·rw[qsS]
def qib(r:Nat->Nat):S->(S -> α) -> α
 |[],k=>k []
 |o::os,k=>que r o fun o=>qib r os fun os=>k (o::os)
theorem qic(r:Nat->Nat) : ∀ (os:S) (k:S -> α),qib r os k=k (os.map (Ob.ren r))
 |[],_=>rfl
 |o::os,k=>by simp only[qib,qrW,qic r os,Wi]
def qoU:Nat->List Nat->Nat->Bool
 |i,[],n=>Nat.beq i n
 |i,l::ls,n=>cond (Nat.beq l i) (qoU (i+1) ls n) false
theorem qlv : ∀ {i:Nat} {L:List Nat} {n:Nat},qoU i L n=true->n=i+L.length /\ ∀ j l,L[j]?=some l->l=i+j
 |i,[],n,h=>by
  have:=Nat.eq_of_beq_eq_true h
  exact⟨by simp[this],fun j l hj=>by simp at hj⟩
 |i,l::ls,n,h=>by
  simp only[qoU] at h
  cases hb:Nat.beq l i with
  |false=>rw[hb] at h; cases h
  |true=>
   rw[hb] at h
   obtain⟨h1,h2⟩:=qlv h
   have hl:=Nat.eq_of_beq_eq_true hb
   refine⟨by simp only[WK]; omega,fun j l' hj=>?_⟩
   cases j with
   |zero=>simp at hj; omega
   |succ j=>have:=h2 j l' (by simpa using hj); omega
theorem qgG{L:List Nat}{n:Nat}(h:qoU 0 L n=true):L=List.range n:=by
 obtain⟨h1,h2⟩:=qlv h
 apply List.ext_getElem?
 intro j
 by_cases hj:j<L.length
 ·have:=h2 j L[j] (by simp[hj])
  simp[hj,show j<n by omega]
  omega
 ·rw[WX (by omega),WX (by simp; omega)]
theorem qid{n l:Nat}(h:l∈List.range n):idx (List.range n) l=l:=qbN List.nodup_range (by rw[List.mem_range] at h; simp[h])
theorem qoy(σ : S):qc9 σ (List.range σ.length)=some σ:=by
 have key : ∀ (pre suf:S),qc9 (pre++suf) ((List.range suf.length).map (· + pre.length))=some suf:=by
  intro pre suf
  induction suf generalizing pre with
  |nil=>rfl
  |cons o r ih=>
   rw[WK,List.range_succ_eq_map]
   simp only[Wi,List.map_map,qc9]
   have h1:(pre++o::r)[0+pre.length]?=some o:=by simp
   rw[h1]
   have:=ih (pre++[o])
   simp only[WA,List.singleton_append,Wt,Ye] at this
   have e:((fun x=>x+pre.length) ∘ Nat.succ)=(fun x=>x+(pre.length+1)):=by funext x; simp; omega
   rw[e,this]
 simpa using key [] σ
theorem qlw{L:List Nat}(h:L.Nodup):qeN L=true:=by
 induction L with
 |nil=>rfl
 |cons a l ih=>
  obtain⟨h1,h2⟩:=W0.1 h
  simp[qeN,ih h2,h1]
def qgc(L:List Nat)(vs:List V)(σ : S)(k:Option (List V × S) -> α) : α:=
 cond (qoU 0 L σ.length)
  (cond (inL L (qau vs)&&closed L σ) (k (some (vs,σ))) (k none))
  (match qc9 σ L with
  |some obs=>cond (qeN L&&(inL L (qau vs)&&closed L obs)) (fVs (qbl (idx L) vs) fun vs'=>qib (idx L) obs fun obs'=>k (some (vs',obs'))) (k none)
  |none=>k none)
theorem qeT(L:List Nat)(vs:List V)(σ : S)(k:Option (List V × S) -> α):qgc L vs σ k=k (qaO L vs σ):=by
 unfold qgc
 cases hu:qoU 0 L σ.length with
 |true=>
  have:=qgG hu
  subst this
  simp only[cond_true,qaO,qoy,qlw List.nodup_range,Bool.true_and]
  cases hc:(inL (List.range σ.length) (qau vs)&&closed (List.range σ.length) σ) with
  |false=>simp
  |true=>
   simp only[Wh] at hc
   simp only[cond_true,if_true]
   rw[qda vs fun l hl=>qid (qeb hc.1 l hl)]
   congr 3
   symm
   have : ∀ (os:S),(∀ o∈os,∀ l∈o.locs,l∈List.range σ.length)->os.map (Ob.ren (idx (List.range σ.length)))=os:=fun os h=>by
    induction os with
    |nil=>rfl
    |cons o os ih=>rw[Wi,Ob.ren_id o (fun l hl=>qid (h o (by simp) l hl)),ih fun o' ho'=>h o' (by simp[ho'])]
   exact this σ (qec hc.2)
 |false=>
  simp only[cond_false,qaO]
  cases qc9 σ L with
  |none=>rfl
  |some obs=>
   simp only
   cases (qeN L&&(inL L (qau vs)&&closed L obs))<;>simp[qcN,qic]
theorem qi7(n i:Nat):back (List.range n) n i=i:=by
 unfold back
 by_cases h:i<n
 ·simp[h]
 ·rw[WX (by simp; omega)]; simp; omega
theorem qj2 : ∀ (σ σ':S),σ.length <= σ'.length->qaF σ (List.range σ.length) σ' = σ':=fun σ σ' h=>by
 obtain⟨h1,h2,_,h4⟩:=qcS (σ := σ) (L:=List.range σ.length) (obs := σ') List.nodup_range (fun l hl=>by simpa using hl) (by simpa using h)
 simp only[List.length_range] at h1 h4
 apply List.ext_getElem?
 intro j
 by_cases hj:j < σ.length
 ·rw[h2 j j (by simp[hj])]
 ·have:=h4 (j - σ.length)
  rw[show σ.length+(j - σ.length)=j from by omega] at this
  exact this
def quf(L:List Nat)(σ : S)(v:V)(σ':S):Option (V × S):=
 cond (qoU 0 L σ.length&&Nat.ble σ.length σ'.length) (some (v,σ'))
  (fV (v.ren (back L σ.length)) fun v=>qib (back L σ.length) σ' fun σ''=>fOs (qaF σ L σ'') fun σ3=>some (v,σ3))
theorem qrX(L:List Nat)(σ : S)(v:V)(σ':S):quf L σ v σ'=some (v.ren (back L σ.length),qaF σ L (σ'.map (Ob.ren (back L σ.length)))):=by
 unfold quf
 cases hc:(qoU 0 L σ.length&&Nat.ble σ.length σ'.length) with
 |false=>simp only[cond_false,qlu,qic,qp9]
 |true=>
  simp only[Wh] at hc
  have:=qgG hc.1
  subst this
  have e : ∀ os:S,os.map (Ob.ren (back (List.range σ.length) σ.length))=os:=fun os=>by
   induction os with
   |nil=>rfl
   |cons o os ih=>rw[Wi,Ob.ren_id o (fun l _=>qi7 _ l),ih]
  rw[cond_true,V.ren_id v (fun l _=>qi7 _ l),e,qj2 σ σ' (Nat.le_of_ble_eq_true hc.2)]
def qyQ(k:Nat)(fr:Fr)(σ : S):Option (Fr × S):=
 fNs (gcL k (qaR fr) σ) fun L=>qgc L [] σ fun r=>match r with
 |some (_,σ')=>cond (inL L (qaR fr)) (cond (qoU 0 L σ.length) (some (fr,σ')) (fF (qd8 (idx L) fr) fun fr=>some (fr,σ'))) none
 |none=>none
theorem qug(k:Nat)(fr:Fr)(σ : S):qyQ k fr σ = gcF k fr σ:=by
 simp only[qyQ,gcF,qp8,qeT]
 cases qaO (gcL k (qaR fr) σ) [] σ with
 |none=>rfl
 |some p=>
  simp only
  cases hi:inL (gcL k (qaR fr) σ) (qaR fr) with
  |false=>simp
  |true=>
   cases hu:qoU 0 (gcL k (qaR fr) σ) σ.length with
   |false=>simp[qud]
   |true=>
    have:=qgG hu
    simp only[cond_true,if_true]
    rw[qmC fr (fun l hl=>by rw[this]; exact qid (by rw[<- this]; exact qeb hi l hl))]
end
section
universe u
variable{α : Type u}
noncomputable def qtk(t:Nat)(fr:Fr):Option V:=List.rec (motive:=fun _=>Option V) none (fun p _ ih=>Bool.rec (motive:=fun _=>Option V) ih (some p.2) (Nat.beq p.1 t)) fr
theorem qaf : ∀ (t:Nat) (fr:Fr),qtk t fr=fr.get t
 |_,[]=>rfl
 |t,(k,v)::r=>by
  show Bool.rec (motive:=fun _=>Option V) (qtk t r) (some v) (Nat.beq k t)=_
  rw[qaf t r,Fr.get]
  by_cases h:k=t
  ·subst h; rw[if_pos rfl,Nat.beq_refl]
  ·rw[if_neg h]
   cases hb:Nat.beq k t with
   |true=>exact absurd (Nat.eq_of_beq_eq_true hb) h
   |false=>rfl
noncomputable def ql5(d:Option Nat)(v:V)(fr:Fr)(k:Fr -> α) : α := Option.rec (motive:=fun _ => α) (k fr) (fun d=>k ((d,v)::fr)) d
theorem qjD(d:Option Nat)(v:V)(fr:Fr)(k:Fr -> α):ql5 d v fr k=k (fr.put d v):=by cases d<;>rfl
noncomputable def qnV(fr:Fr)(ks:List Nat):Fr:=List.rec (motive:=fun _=>Fr) [] (fun k _ ih=>Option.rec (motive:=fun _=>Fr) ih (fun v=>(k,v)::ih) (qtk k fr)) ks
theorem qjE(fr:Fr) : ∀ ks,qnV fr ks=fr.keep ks
 |[]=>rfl
 |k::ks=>by
  show Option.rec (motive:=fun _=>Fr) (qnV fr ks) (fun v=>(k,v)::qnV fr ks) (qtk k fr)=_
  rw[qjE fr ks,qaf,Fr.keep]
  cases fr.get k<;>rfl
noncomputable def evK(fr:Fr)(x:X):Option V:=X.rec (motive:=fun _=>Fr->Option V) (fun n fr=>qtk n fr) (fun v _=>some (.dat (.lit v))) (fun id _=>some (.fn id [] [])) (fun cs _=>some (.dat (.imm cs 0))) x fr
theorem qaq(fr:Fr)(x:X):evK fr x=x.ev fr:=by
 cases x with
 |t n=>exact qaf n fr
 |_=>rfl
noncomputable def qnW(fr:Fr)(xs:List X):Option (List V):=List.rec (motive:=fun _=>Option (List V)) (some []) (fun x _ ih=>Option.rec (motive:=fun _=>Option (List V)) none (fun v=>Option.rec (motive:=fun _=>Option (List V)) none (fun vs=>some (v::vs)) ih) (evK fr x)) xs
theorem qag(fr:Fr) : ∀ xs,qnW fr xs=evs fr xs
 |[]=>rfl
 |x::xs=>by
  show Option.rec (motive:=fun _=>Option (List V)) none (fun v=>Option.rec (motive:=fun _=>Option (List V)) none (fun vs=>some (v::vs)) (qnW fr xs)) (evK fr x)=_
  rw[qag fr xs,qaq,evs]
  cases x.ev fr<;>cases evs fr xs<;>rfl
noncomputable def qds(fr:Fr)(g:Option (Nat × Bool)):Option Bool:=Option.rec (motive:=fun _=>Option Bool) (some true) (fun p=>qaQ fr (some p)) g
theorem qdE(fr:Fr)(g:Option (Nat × Bool)):qds fr g=qaQ fr g:=by cases g<;>rfl
noncomputable def qkq(σ : S)(l:Nat):Option Ob:=List.rec (motive:=fun _=>Nat->Option Ob) (fun _=>none) (fun o _ ih i=>Nat.rec (motive:=fun _=>Option Ob) (some o) (fun j _=>ih j) i) σ l
theorem qae : ∀ (σ : S) (l:Nat),qkq σ l = σ[l]?
 |[],_=>rfl
 |o :: σ,0=>rfl
 |o :: σ,l+1=>by
  show qkq σ l=_
  rw[qae σ l]; rfl
noncomputable def qvf(l:Nat)(L:List Nat):Bool:=List.rec (motive:=fun _=>Bool) false (fun a _ ih=>Bool.rec (motive:=fun _=>Bool) ih true (Nat.beq a l)) L
theorem ql6(l:Nat) : ∀ L,qvf l L=L.contains l
 |[]=>rfl
 |a::L=>by
  show Bool.rec (motive:=fun _=>Bool) (qvf l L) true (Nat.beq a l)=_
  rw[ql6 l L,List.contains_cons]
  cases hb:Nat.beq a l with
  |true=>have:=Nat.eq_of_beq_eq_true hb; subst this; simp
  |false=>
   have:l≠a:=fun e=>by subst e; rw[Nat.beq_refl] at hb; cases hb
   simp[this]
noncomputable def qvg(L:List Nat)(M:List Nat):Bool:=List.rec (motive:=fun _=>Bool) true (fun k _ ih=>Bool.rec (motive:=fun _=>Bool) false ih (qvf k L)) M
theorem qjF(L:List Nat) : ∀ M,qvg L M=inL L M
 |[]=>rfl
 |k::M=>by
  show Bool.rec (motive:=fun _=>Bool) false (qvg L M) (qvf k L)=_
  rw[qjF L M,ql6,inL]
  cases L.contains k<;>rfl
noncomputable def qm0(a b:List Nat):List Nat:=List.rec (motive:=fun _=>List Nat) b (fun x _ ih=>x::ih) a
theorem qjG(b:List Nat) : ∀ a,qm0 a b=a++b
 |[]=>rfl
 |x::a=>by
  show x::qm0 a b=_
  rw[qjG b a]; rfl
noncomputable def vlK(v:V)(r:List Nat):List Nat:=V.rec (motive_1:=fun _=>List Nat->List Nat) (motive_2:=fun _=>PUnit) (fun _ r=>r) (fun l _ r=>l::r) (fun _ _ _ l r=>l::r) (fun l _ _ _ _ r=>l::r) (fun l _ _ r=>l::r) (fun l _ _ r=>l::r) (fun l _ _ _ _ r=>l::r)
 (fun cs _ _ r=>qm0 (qau cs) r) (fun _ v _ r=>qm0 v.locs r) (fun cs _ r=>qm0 (qau cs) r) (fun _ a b _ _ r=>qm0 (qau a) (qm0 (qau b) r)) (fun l r=>l::r) (fun _ v _ r=>qm0 v.locs r) (fun vs _ r=>qm0 (qau vs) r) (fun l r=>l::r) (fun v _ r=>qm0 v.locs r) ⟨⟩ (fun _ _ _ _=>⟨⟩) v r
theorem qsE(v:V)(r:List Nat):vlK v r=v.locs++r:=by
 cases v<;>simp[vlK,V.locs,qjG]
noncomputable def llK(vs:List V):List Nat:=List.rec (motive:=fun _=>List Nat) [] (fun v _ ih=>vlK v ih) vs
theorem qky : ∀ vs,llK vs=qau vs
 |[]=>rfl
 |v::vs=>by
  show vlK v (llK vs)=_
  rw[qky vs,qsE,qau]
noncomputable def lfK(fr:Fr):List Nat:=List.rec (motive:=fun _=>List Nat) [] (fun p _ ih=>vlK p.2 ih) fr
theorem qo6 : ∀ fr,lfK fr=qaR fr
 |[]=>rfl
 | (k,v)::fr=>by
  show vlK v (lfK fr)=_
  rw[qo6 fr,qsE,qaR]
noncomputable def loK(o:Ob):List Nat:=Ob.casesOn (motive:=fun _=>List Nat) o llK qc7 (fun _=>[]) (fun lp=>lfK lp.fr) llK (fun _ cs=>llK cs) (fun _ cs=>llK cs) (fun _=>[]) [] (fun l=>[l])
theorem qsF(o:Ob):loK o=o.locs:=by
 cases o<;>simp[loK,Ob.locs,qky,qo6]
noncomputable def qvh(a b:List Nat):List Nat:=List.rec (motive:=fun _=>List Nat->List Nat) (fun b=>b) (fun x _ ih b=>ih (x::b)) a b
theorem ql7 : ∀ (a b:List Nat),qvh a b=a.reverse++b
 |[],_=>rfl
 |x::a,b=>by
  show qvh a (x::b)=_
  rw[ql7 a]; simp
noncomputable def qrm(σ : S):Nat:=List.rec (motive:=fun _=>Nat) 0 (fun _ _ ih=>Nat.succ ih) σ
theorem qgu : ∀ σ,qrm σ = σ.length
 |[]=>rfl
 |_ :: σ=>by
  show Nat.succ (qrm σ)=_
  rw[qgu σ]; rfl
noncomputable def qm1(σ : S)(n:Nat):List Nat->List Nat->List Nat:=Nat.rec (motive:=fun _=>List Nat->List Nat->List Nat) (fun _ seen=>qvh seen [])
 (fun _ ih todo=>List.rec (motive:=fun _=>List Nat->List Nat) (fun seen=>qvh seen []) (fun l todo go seen=>Bool.rec (motive:=fun _=>List Nat) (ih (qm0 todo (Option.rec (motive:=fun _=>List Nat) [] loK (qkq σ l))) (l::seen)) (go seen) (qvf l seen)) todo) n
theorem qhv(σ : S) : ∀ (n:Nat) (todo seen:List Nat),qm1 σ n todo seen=reach σ n todo seen.reverse
 |0,todo,seen=>by show qvh seen []=_; rw[ql7]; simp[reach]
 |n+1,[],seen=>by show qvh seen []=_; rw[ql7]; simp[qeM]
 |n+1,l::todo,seen=>by
  show Bool.rec (motive:=fun _=>List Nat) (qm1 σ n (qm0 todo (Option.rec (motive:=fun _=>List Nat) [] loK (qkq σ l))) (l::seen)) (qm1 σ (n+1) todo seen) (qvf l seen)=_
  rw[qhv σ n,qhv σ (n+1) todo,ql6,qae,qjG,qi3]
  have e:seen.reverse.contains l=seen.contains l:=by
   rw[Bool.eq_iff_iff]; simp
  rw[e]
  have e2:(Option.rec (motive:=fun _=>List Nat) [] loK σ[l]?:List Nat)=(match σ[l]? with|some ob=>ob.locs|none=>[]):=by
   cases σ[l]? with
   |none=>rfl
   |some ob=>exact qsF ob
  rw[e2,List.reverse_cons]
  cases seen.contains l<;>rfl
noncomputable def qtl(n:Nat)(k:Nat -> α) : α := Nat.rec (motive:=fun _ => α) (k 0) (fun m _=>k (Nat.succ m)) n
theorem qhw(n:Nat)(k:Nat -> α):qtl n k=k n:=by cases n<;>rfl
noncomputable def qkz(σ : S)(ls:List Nat):List Nat:=qtl (qrm σ) fun n=>qm1 σ n ls []
theorem qhx(σ : S)(ls:List Nat):qkz σ ls=reach σ σ.length ls []:=by
 rw[qkz,qhw,qgu,qhv]; rfl
noncomputable def ql8(L:List Nat)(os:S):Bool:=List.rec (motive:=fun _=>Bool) true (fun o _ ih=>Bool.rec (motive:=fun _=>Bool) false ih (qvg L (loK o))) os
theorem qiJ(L:List Nat) : ∀ os,ql8 L os=closed L os
 |[]=>rfl
 |o::os=>by
  show Bool.rec (motive:=fun _=>Bool) false (ql8 L os) (qvg L (loK o))=_
  rw[qiJ L os,qjF,qsF,closed]
  cases inL L o.locs<;>rfl
noncomputable def qys(i:Int)(k:Int -> α) : α := Int.rec (motive:=fun _ => α) (fun n=>qtl n fun n=>k (.ofNat n)) (fun n=>qtl n fun n=>k (.negSucc n)) i
theorem qtm(i:Int)(k:Int -> α):qys i k=k i:=by cases i<;>simp only[qys,qhw]
noncomputable def qxX:Value->(Value -> α) -> α
 |.int t i,k=>qys i fun i=>k (.int t i)
 |v,k=>k v
theorem qtn(v:Value)(k:Value -> α):qxX v k=k v:=by cases v<;>simp only[qxX,qtm]
noncomputable def qoQ(r:Option (V × S)):Option (V × S):=Option.rec (motive:=fun _=>Option (V × S)) none (fun p=>Prod.rec (motive:=fun _=>Option (V × S)) (fun v σ => match v with|V.dat (.lit x)=>qxX x fun x=>some (V.dat (.lit x),σ) | v=>some (v,σ)) p) r
theorem qak(r:Option (V × S)):qoQ r=r:=by
 cases r with
 |none=>rfl
 |some p=>
  obtain⟨v,σ⟩:=p
  show (match v with|V.dat (.lit x)=>qxX x fun x=>some (V.dat (.lit x),σ) | v=>some (v,σ))=_
  split
  ·rw[qtn]
  ·rfl
noncomputable def qrd(l:List Nat)(k:List Nat -> α) : α := List.rec (motive:=fun _=>(List Nat -> α) -> α) (fun k=>k []) (fun n _ ih k=>ih fun r=>k (n::r)) l k
theorem qhy : ∀ (l:List Nat) (k:List Nat -> α),qrd l k=k l
 |[],_=>rfl
 |n::r,k=>by
  show qrd r (fun r=>k (n::r))=_
  rw[qhy r]
noncomputable def qrn(l:S)(k:S -> α) : α := List.rec (motive:=fun _=>(S -> α) -> α) (fun k=>k []) (fun n _ ih k=>ih fun r=>k (n::r)) l k
theorem qah : ∀ (l:S) (k:S -> α),qrn l k=k l
 |[],_=>rfl
 |n::r,k=>by
  show qrn r (fun r=>k (n::r))=_
  rw[qah r]
noncomputable def qxY(l:List V)(k:List V -> α) : α := List.rec (motive:=fun _=>(List V -> α) -> α) (fun k=>k []) (fun n _ ih k=>ih fun r=>k (n::r)) l k
theorem qaj : ∀ (l:List V) (k:List V -> α),qxY l k=k l
 |[],_=>rfl
 |n::r,k=>by
  show qxY r (fun r=>k (n::r))=_
  rw[qaj r]
noncomputable def qo7(i:Nat)(L:List Nat)(n:Nat):Bool:=List.rec (motive:=fun _=>Nat->Bool) (fun i=>Nat.beq i n) (fun l _ ih i=>Bool.rec (motive:=fun _=>Bool) false (ih (Nat.succ i)) (Nat.beq l i)) L i
theorem qhd(n:Nat) : ∀ (L:List Nat) (i:Nat),qo7 i L n=qoU i L n
 |[],_=>rfl
 |l::L,i=>by
  show Bool.rec (motive:=fun _=>Bool) false (qo7 (i+1) L n) (Nat.beq l i)=_
  rw[qhd n L,qoU]
  cases Nat.beq l i<;>rfl
noncomputable def qyt(L A:List Nat)(σ : S):Bool:=qvg L A&&ql8 L σ
noncomputable def qdF(L A:List Nat)(vs:List V)(σ : S)(k:Option (List V × S) -> α) : α:=
 cond (qo7 0 L (qrm σ))
  (cond (qyt L A σ) (k (some (vs,σ))) (k none))
  (match qc9 σ L with
  |some obs=>cond (qeN L&&qyt L A obs) (fVs (qbl (idx L) vs) fun vs'=>qib (idx L) obs fun obs'=>k (some (vs',obs'))) (k none)
  |none=>k none)
theorem qdl(L:List Nat)(vs:List V)(σ : S)(k:Option (List V × S) -> α):qdF L (qau vs) vs σ k=k (qaO L vs σ):=by
 rw[<- qeT L vs σ k]
 simp only[qdF,qgc,qhd,qgu,qyt,qjF,qiJ]
 all_goals rfl
noncomputable def qro(L:List Nat)(σ : S)(v:V)(σ':S):Option (V × S):=
 cond (qo7 0 L (qrm σ)&&Nat.ble (qrm σ) (qrm σ')) (some (v,σ'))
  (fV (v.ren (back L σ.length)) fun v=>qib (back L σ.length) σ' fun σ''=>qrn (qaF σ L σ'') fun σ3=>some (v,σ3))
theorem qm2(L:List Nat)(σ : S)(v:V)(σ':S):qro L σ v σ'=some (v.ren (back L σ.length),qaF σ L (σ'.map (Ob.ren (back L σ.length)))):=by
 rw[<- qrX]
 simp only[qro,quf,qhd,qgu,qah,qp9]
noncomputable def qdt(C:Task->Option Res)(mk:List V->S->Task)(args:List V)(σ : S):Option (V × S):=
 fVs args fun args=>qrn σ fun σ => qrd (llK args) fun A=>qrd (qkz σ A) fun L=>qdF L A args σ fun r=>match r with
 |some (args',σs)=>
  match C (mk args' σs) with
  |some (.ret (.pan _) _)=>none
  |some (.ret v σs')=>qro L σ v σs'
  |_=>none
 |none=>none
theorem qab(C:Task->Option Res)(mk:List V->S->Task)(args:List V)(σ : S):qdt C mk args σ = qaE C mk args σ:=by
 simp only[qdt,qaE,qcN,qah,qhy,qky,qhx,qdl,qm2]
 all_goals rfl
noncomputable def qe4(C:Task->Option Res)(mk:List V->S->Task)(args:List V)(σ : S):Option (V × S):=
 fVs args fun args=>qrn σ fun σ => qrd (llK args) fun A=>qrd (qkz σ A) fun L=>qdF L A args σ fun r=>match r with
 |some (args',σs)=>
  match C (mk args' σs) with
  |some (.ret (.pan v) σs')=>qro L σ v σs'
  |_=>none
 |none=>none
theorem qaa(C:Task->Option Res)(mk:List V->S->Task)(args:List V)(σ : S):qe4 C mk args σ = qbF C mk args σ:=by
 simp only[qe4,qbF,qcN,qah,qhy,qky,qhx,qdl,qm2]
 all_goals rfl
noncomputable def qrp(k:Nat)(L:List Nat):List Nat:=List.rec (motive:=fun _=>List Nat) [] (fun l _ ih=>Bool.rec (motive:=fun _=>List Nat) ih (l::ih) (Nat.ble k l)) L
theorem qm3(k:Nat) : ∀ L,qrp k L=L.filter (fun l=>decide (k<=l))
 |[]=>rfl
 |l::L=>by
  show Bool.rec (motive:=fun _=>List Nat) (qrp k L) (l::qrp k L) (Nat.ble k l)=_
  rw[qm3 k L,Yy]
  cases hb:Nat.ble k l with
  |true=>simp[Nat.le_of_ble_eq_true hb]
  |false=>
   have : ¬ k<=l:=fun h=>by rw[Nat.ble_eq_true_of_le h] at hb; cases hb
   simp[this]
noncomputable def qxZ(k:Nat)(ls:List Nat)(σ : S):List Nat:=qm0 (List.range k) (qrp k (qkz σ (qm0 (List.range k) ls)))
theorem qo8(k:Nat)(ls:List Nat)(σ : S):qxZ k ls σ = gcL k ls σ:=by
 simp only[qxZ,gcL,qjG,qm3,qhx]
noncomputable def qyu(k:Nat)(fr:Fr)(σ : S):Option (Fr × S):=
 qrd (lfK fr) fun A=>qrd (qxZ k A σ) fun L=>qdF L [] [] σ fun r=>match r with
 |some (_,σ')=>cond (qvg L A) (cond (qo7 0 L (qrm σ)) (some (fr,σ')) (fF (qd8 (idx L) fr) fun fr=>some (fr,σ'))) none
 |none=>none
theorem qto(k:Nat)(fr:Fr)(σ : S):qyu k fr σ = gcF k fr σ:=by
 rw[<- qug]
 simp only[qyu,qyQ,qhy,qp8,qo6,qo8,qeT,qhd,qgu,qjF]
 have:=fun (k':Option (List V × S)->Option (Fr × S))=>qdl (gcL k (qaR fr) σ) [] σ k'
 simp only[qau] at this
 rw[this]
 all_goals rfl
noncomputable def qfI(k:Nat)(vs:List V)(σ : S):Option Res:=
 fVs vs fun vs=>qrd (llK vs) fun A=>qrd (qxZ k A σ) fun L=>qdF L A vs σ fun r=>match r with
 |some (vs',σ')=>some (.ret (one vs') σ')
 |none=>none
theorem ql9(k:Nat)(vs:List V)(σ : S):qfI k vs σ = finishV k vs σ:=by
 simp only[qfI,finishV,qcN,qhy,qky,qo8,qdl]
 all_goals rfl
noncomputable def qvy(σ : S)(l:Nat)(o:Ob):S:=List.rec (motive:=fun _=>Nat->S) (fun _=>[]) (fun a r ih i=>Nat.rec (motive:=fun _=>S) (o::r) (fun j _=>a::ih j) i) σ l
theorem qo9(o:Ob) : ∀ (σ : S) (l:Nat),qvy σ l o = σ.set l o
 |[],_=>rfl
 |_::_,0=>rfl
 |a :: σ,l+1=>by
  show a::qvy σ l o=_
  rw[qo9 o σ l]; rfl
noncomputable def qtp(n:Nat)(l:List V):List V:=List.rec (motive:=fun _=>Nat->List V) (fun _=>[]) (fun a _ ih i=>Nat.rec (motive:=fun _=>List V) [] (fun j _=>a::ih j) i) l n
theorem qm4 : ∀ (l:List V) (n:Nat),qtp n l=l.take n
 |[],n=>by cases n<;>rfl
 |_::_,0=>rfl
 |a::l,n+1=>by
  show a::qtp n l=_
  rw[qm4 l n]; rfl
noncomputable def qtq(n:Nat)(l:List V):List V:=List.rec (motive:=fun _=>Nat->List V) (fun _=>[]) (fun a r ih i=>Nat.rec (motive:=fun _=>List V) (a::r) (fun j _=>ih j) i) l n
theorem qm5 : ∀ (l:List V) (n:Nat),qtq n l=l.drop n
 |[],n=>by cases n<;>rfl
 |_::_,0=>rfl
 |a::l,n+1=>by
  show qtq n l=_
  rw[qm5 l n]; rfl
noncomputable def qx0(a b:List V):List V:=List.rec (motive:=fun _=>List V) b (fun x _ ih=>x::ih) a
theorem qpa(b:List V) : ∀ a,qx0 a b=a++b
 |[]=>rfl
 |x::a=>by
  show x::qx0 a b=_
  rw[qpa b a]; rfl
noncomputable def lnK(l:List V):Nat:=List.rec (motive:=fun _=>Nat) 0 (fun _ _ ih=>Nat.succ ih) l
theorem qsG : ∀ l,lnK l=l.length
 |[]=>rfl
 |_::l=>by
  show Nat.succ (lnK l)=_
  rw[qsG l]; rfl
noncomputable def qvz(cs new:List V)(o n:Nat)(k:List V -> α) : α := fVs new fun new=>qxY (qx0 (qtp o cs) (qx0 new (qtq (o+n) cs))) k
theorem qtr(cs new:List V)(o n:Nat)(k:List V -> α):qvz cs new o n k=k (cs.take o++(new++cs.drop (o+n))):=by
 simp only[qvz,qcN,qaj,qpa,qm4,qm5]
noncomputable def qma(σ : S)(n:Nat)(p v:V):Option S:=match p,v with
 |.ptr l o,v=>match qkq σ l with
  |some (.cells cs)=>
   let new:=v.cells
   if new.length=n/\o+n<=lnK cs/\new.all V.one then qvz cs new o n fun cs=>qrn (qvy σ l (.cells cs)) some else none
  |some (.cellsT t cs)=>
   let new:=v.cells
   if new.length=n/\o+n<=lnK cs/\new.all V.one then qvz cs new o n fun cs=>qrn (qvy σ l (.cellsT t cs)) some else none
  |_=>none
 |.eptr l m o,v=>match qkq σ l with
  |some (.vec cs)=>
   let new:=v.cells
   if lnK cs=m/\new.length=n/\o+n<=lnK cs/\new.all V.one then qvz cs new o n fun cs=>qrn (qvy σ l (.vec cs)) some else none
  |_=>none
 |_,_=>none
theorem qac(σ : S)(n:Nat)(p v:V):qma σ n p v=storeV σ n p v:=by
 unfold qma
 simp only[qae,qsG,qtr,qah,qo9]
 cases p<;>first
  |rfl
  | (rename_i l o; simp only[storeV]; cases σ[l]? with|none=>rfl|some ob=>cases ob<;>rfl)
  | (rename_i l m o; simp only[storeV]; cases σ[l]? with|none=>rfl|some ob=>cases ob<;>rfl)
noncomputable def qjH(r:Option (V × S)):Option (V × S):=Option.rec (motive:=fun _=>Option (V × S)) none (fun p=>Prod.rec (motive:=fun _=>Option (V × S)) (fun v σ => fS σ fun σ => some (v,σ)) p) r
theorem qal(r:Option (V × S)):qjH r=r:=by
 cases r with
 |none=>rfl
 |some p=>obtain⟨v,σ⟩:=p; show fS σ (fun σ => some (v,σ))=_; rw[qrV]
noncomputable def qts(r:Option (Ex × Fr × S))(k:Fr->S->Option (Ex × Fr × S)):Option (Ex × Fr × S):=
 Option.rec (motive:=fun _=>Option (Ex × Fr × S)) none (fun p=>Prod.rec (motive:=fun _=>Option (Ex × Fr × S)) (fun e q=>Ex.rec (motive:=fun _=>Option (Ex × Fr × S)) (Prod.rec (motive:=fun _=>Option (Ex × Fr × S)) k q) (fun id=>some (.exit id,q)) (some (.ret,q)) (fun v=>some (.pan v,q)) e) p) r
theorem qrq(r:Option (Ex × Fr × S))(k:Fr->S->Option (Ex × Fr × S)):qts r k=(match r with|some (.normal,fr',σ')=>k fr' σ'|r=>r):=by
 cases r with
 |none=>rfl
 |some p=>obtain⟨e,fr,σ⟩:=p; cases e<;>rfl
end
end Go.Pm
