/- Functions; the whole run. -/
import Derived.Test.YtpakkndfjpimgaaGreatDoorPmAL
import Derived.Test.YtpakkndfjpimgaaGreatDoorPmM
import Derived.IntWalk
import Derived.DataReads
import Derived.Below
import Derived.OpenShut
import Derived.FnData
import Derived.LaidMore
import Derived.Laws.Strings
import Derived.KernelRfl
import Init
set_option linter.unusedSimpArgs false
set_option linter.unusedVariables false
namespace Go.Pm
section
variable{P:Program}{ids:Ids}{fid:Fid}
section
variable{C:Task->Option Res}{ro:Option Nat}
theorem qnl {Γ0 Γ1:Ctx} {D:Nat} (hr:Real fid Γ1) (hs:Step Γ0 Γ1) (hD:MarkAt Γ0 Γ1 D) :
  Real fid ⟨Γ1.σ,Γ1.μ,Γ1.F,Γ1.w.putObj D (.deferred none)⟩/\Step Γ0 ⟨Γ1.σ,Γ1.μ,Γ1.F,Γ1.w.putObj D (.deferred none)⟩/\Ext Γ1 ⟨Γ1.σ,Γ1.μ,Γ1.F,Γ1.w.putObj D (.deferred none)⟩ /\
   ∀ k,k≠D->(Γ1.w.putObj D (.deferred none)).heap[k]? = Γ1.w.heap[k]?:=by
 obtain⟨d1,d2,d3⟩:=hD
 have hF : Γ1.F D=0:=by
  rcases YJ (Γ1.F D) with h|h
  ·exact h
  ·obtain⟨arr,e,fz,h1,_⟩:=hr.imm D h
   rw[d2] at h1; cases h1
 have hother : ∀ k,k≠D->(Γ1.w.putObj D (.deferred none)).heap[k]? = Γ1.w.heap[k]?:=fun k hk=>World.putObj_heap_other hk
 have hext:Ext Γ1 ⟨Γ1.σ,Γ1.μ,Γ1.F,Γ1.w.putObj D (.deferred none)⟩:=by
  refine⟨by simp,rfl,rfl,rfl,fun _=>Wp _,fun b i v hi hv=>?_,fun b arr e hb ha=>⟨arr,?_,rfl⟩,Wp _,fun _ ob h ht=>⟨⟨ob,h,ht⟩,fun _ h=>h⟩,fun _ m h=>⟨m,h,Wp _,fun h=>h,fun _ _ h=>h⟩,
   qfQ fun l ob h _ => .inl ⟨h,fun b hb=>⟨hb,fun arr e ha=>(hother b fun e=>by subst e; exact d3 l hb).trans ha⟩⟩⟩
  ·rw[cell?_of_block (hother b fun e=>by subst e; omega)]; exact hv
  ·rw[hother b fun e=>by subst e; omega]; exact ha
 have hreal:Real fid ⟨Γ1.σ,Γ1.μ,Γ1.F,Γ1.w.putObj D (.deferred none)⟩:=by
  refine⟨fun l ob b h1 h2=>RepOb.ext hext (hother b fun e=>by subst e; exact d3 l h2) rfl ob (hr.obs l ob b h1 h2),fun l b h=>?_,hr.inj,fun b hb=>?_,Glb.ext hext hr.glb⟩
  ·have:=hr.dom l b h
   exact⟨this.1,by simpa using this.2⟩
  ·obtain⟨a,t,fz,h1,h2⟩:=hr.imm b hb
   have hb':0 < Γ1.F b:=hb
   exact⟨a,t,fz,by rw[hother b fun e=>by subst e; omega]; exact h1,h2⟩
 refine⟨hreal,⟨hs.ext.trans hext,⟨fun b hb hno=>?_,hs.frm.new⟩,hs.non⟩,hext,hother⟩
 have:=hs.frm.same b hb hno
 exact⟨(hother b (by omega)).trans this.1,this.2⟩
theorem DIReps.off{Γ0 Γ1 Γ2:Ctx}{D:Nat}(hext:Ext Γ1 Γ2)(hμ : Γ2.μ = Γ1.μ)(hother : ∀ k,k≠D -> Γ2.w.heap[k]? = Γ1.w.heap[k]?) : ∀ {is:List DI} {ds:List Deferred},D∉qdi is->DIReps fid Γ0 Γ1 is ds->DIReps fid Γ0 Γ2 is ds
 |[],ds,_,h=>h
 |.m D'::is,ds,hn,⟨d,r,h1,h2,h3⟩=>by
  simp only[qdi,Wu,not_or] at hn
  exact⟨d,r,h1,⟨h2.1,h2.2.1,(hother D' (YD hn.1)).trans h2.2.2.1,by rw[hμ]; exact h2.2.2.2⟩,DIReps.off hext hμ hother hn.2 h3⟩
 |.c v::is,ds,hn,⟨d,r,h1,h2,h3⟩=>by
  obtain⟨id,as,cap,ys,q1,q2,q3⟩:=h2
  exact⟨d,r,h1,⟨id,as,cap,ys,q1,q2,Reps.ext hext _ _ q3⟩,DIReps.off hext hμ hother hn h3⟩
theorem qeB (hC:CSound P fid C) {fn:Func} {R:Ending->World->Prop} {N:Nat} {fr:Fr} {tmps:Array Value} {Γ0:Ctx} {σ2:S} : ∀ (is:List DI) (ds:List Deferred) (Γ1:Ctx),DIReps fid Γ0 Γ1 is ds->(qdi is).Nodup->Real fid Γ1->Step Γ0 Γ1->FrRep fid Γ1 N fr tmps ->
  qbu C (qbV is) Γ1.σ = some σ2 ->
  (∀ Γ',Γ'.σ = σ2->Real fid Γ'->Step Γ0 Γ'->FrRep fid Γ' N fr tmps -> ∃ v,(results fn tmps).run P Γ'.w = .ok v Γ'.w/\R (.returned v) Γ'.w) ->
  LeavesInM Fence.wide 0 P fn tmps R ds .returning Γ1.w
 |[],ds,Γ1,hd,_,hr,hs,hf,h,hk=>by
  simp only[DIReps] at hd; subst hd
  simp only[qbV,qbu,Wb] at h
  exact hk Γ1 h hr hs hf
 |.m D::is,ds,Γ1,hd,hn,hr,hs,hf,h,hk=>by
  obtain⟨d,r,rfl,⟨rfl,hD⟩,hd'⟩:=hd
  obtain⟨n1,n2⟩:=Yq.1 hn
  obtain⟨a1,a2,a3,a4⟩:=qnl hr hs hD
  have ih:=qeB hC (fn:=fn) (R:=R) is r ⟨Γ1.σ,Γ1.μ,Γ1.F,Γ1.w.putObj D (.deferred none)⟩ (DIReps.off a3 rfl a4 n1 hd') n2 a1 a2 (hf.ext a3) h hk
  simp only[LeavesInM]
  exact⟨by simp,.inl ⟨D,_,rfl,run_takeDeferred hD.2.1,ih⟩⟩
 |.c v::is,ds,Γ1,hd,hn,hr,hs,hf,h,hk=>by
  obtain⟨d,r,rfl,⟨id,as,cap,ys,rfl,rfl,hargs⟩,hd'⟩:=hd
  simp only[qbV,qbu] at h
  split at h
  ·rename_i v1 σ1 hcall
   have hnil:Rep fid Γ1 (.dat (.lit .nilIface)) .nilIface:=qer rfl
   obtain⟨k1,k2⟩:=qgm (u := .returning) hC hr hnil hargs (fun _=>rfl) (fun h=>by cases h) hcall
   have harr:(ys.toList++cap.toList).toArray=ys++cap:=by simp
   rw[harr] at k2
   simp only[LeavesInM]
   refine⟨by simp,.inr ⟨fun h=>by simp[Fence.wide] at h,.func (fid id),cap,fid id,ys++cap,rfl,?_,fun _ _=>trivial,CallsDIn.mono k2 ?_⟩⟩
   ·simp only[invoke]; exact qba k1 _ _
   ·rintro e u' w' ⟨Γ',y,rfl,rfl,rfl,q1,q2,q3⟩
    show LeavesInM Fence.wide 0 P fn tmps R r (settle u') Γ'.w
    rw[q3]
    exact qeB hC is r Γ' (hd'.step q2) hn q1 (hs.trans q2) (hf.ext q2.ext) h hk
  ·cases h
theorem qhs (hC:CSound P fid C) {fn:Func} {R:Ending->World->Prop} {N:Nat} {fr:Fr} {tmps:Array Value} {Γ0:Ctx} {pv:V} {x:Value} : ∀ (is:List DI) (ds:List Deferred) (Γ1:Ctx),DIReps fid Γ0 Γ1 is ds->(qdi is).Nodup->Real fid Γ1->Step Γ0 Γ1->FrRep fid Γ1 N fr tmps->Rep fid Γ1 pv x ->
  ((qbV is=[] /\ ∀ Γ',Γ'.σ = Γ1.σ -> Real fid Γ'->Step Γ0 Γ'->Rep fid Γ' pv x->R (.panicked [{ v:=x,recovered:=false }]) Γ'.w) \/
   (∃ id as r v1 σ1 σ2,qbV is = .fn id as []::r/\pv.isNilIf=false/\qbL C (.dcall id) (pv::as) Γ1.σ = some (v1,σ1)/\qbu C r σ1=some σ2 /\
    ∀ Γ',Γ'.σ = σ2->Real fid Γ'->Step Γ0 Γ'->FrRep fid Γ' N fr tmps -> ∃ v,(results fn tmps).run P Γ'.w = .ok v Γ'.w/\R (.returned v) Γ'.w)) ->
  LeavesInM Fence.wide 0 P fn tmps R ds (.panicking [{ v:=x,recovered:=false }]) Γ1.w
 |[],ds,Γ1,hd,_,hr,hs,hf,hx,h=>by
  simp only[DIReps] at hd; subst hd
  rcases h with ⟨_,h⟩|⟨id,as,r,v1,σ1,σ2,h,_⟩
  ·simp only[LeavesInM,LeavesIn]; exact h Γ1 rfl hr hs hx
  ·simp[qbV] at h
 |.m D::is,ds,Γ1,hd,hn,hr,hs,hf,hx,h=>by
  obtain⟨d,r,rfl,⟨rfl,hD⟩,hd'⟩:=hd
  obtain⟨n1,n2⟩:=Yq.1 hn
  obtain⟨a1,a2,a3,a4⟩:=qnl hr hs hD
  have ih:=qhs hC (fn:=fn) (R:=R) is r ⟨Γ1.σ,Γ1.μ,Γ1.F,Γ1.w.putObj D (.deferred none)⟩ (DIReps.off a3 rfl a4 n1 hd') n2 a1 a2 (hf.ext a3) (Rep.ext a3 _ _ hx) h
  simp only[LeavesInM]
  exact⟨by simp,.inl ⟨D,_,rfl,run_takeDeferred hD.2.1,ih⟩⟩
 |.c v::is,ds,Γ1,hd,hn,hr,hs,hf,hx,h=>by
  obtain⟨d,r,rfl,⟨id,as,cap,ys,rfl,rfl,hargs⟩,hd'⟩:=hd
  rcases h with ⟨h,_⟩|⟨id',as',r',v1,σ1,σ2,h,hnil,hcall,hrest,hk⟩
  ·simp[qbV] at h
  ·simp only[qbV,WU,V.fn.injEq] at h
   obtain⟨⟨rfl,rfl,_⟩,rfl⟩:=h
   obtain⟨k1,k2⟩:=qgm (u := .panicking [{ v:=x,recovered:=false }]) hC hr hx hargs (fun h=>by rw[hnil] at h; cases h) (fun _=>rfl) hcall
   have harr:(ys.toList++cap.toList).toArray=ys++cap:=by simp
   rw[harr] at k2
   simp only[LeavesInM]
   refine⟨by simp,.inr ⟨fun h=>by simp[Fence.wide] at h,.func (fid id),cap,fid id,ys++cap,rfl,?_,fun _ _=>trivial,CallsDIn.mono k2 ?_⟩⟩
   ·simp only[invoke]; exact qba k1 _ _
   ·rintro e u' w' ⟨Γ',y,rfl,rfl,rfl,q1,q2,q3⟩
    show LeavesInM Fence.wide 0 P fn tmps R r (settle u') Γ'.w
    rw[q3]
    exact qeB hC is r Γ' (hd'.step q2) hn q1 (hs.trans q2) (hf.ext q2.ext) hrest hk
theorem qmv(hid:Ties P ids fid)(hcr:Codes P ids fid)(hC:CSound P fid C)(hL:LSound P ids fid C)(hm:P.follows .mixedOrders=true){args:List V}{σ σ':S}{v:V}(h:qby C args σ = some (.ret v σ')):qkc P fid args σ v σ':=by
 intro Γ xs hσ hr hargs
 subst hσ
 unfold qby at h
 split at h
 ·rename_i l vs
  simp only[Reps] at hargs
  obtain⟨x,ys,rfl,hy,hvs⟩:=hargs
  simp only[Rep] at hy
  obtain⟨b,hb,rfl,_⟩:=hy
  split at h
  ·rename_i lp hlp
   split at h
   ·rename_i hcond
    obtain⟨hlen,hst,hflat,hnod⟩:=hcond
    have hnod:(qda lp.fr lp.ps vs).get dkey=none:=by simpa using hnod
    have hnodefs:(qda lp.fr lp.ps vs).defs=[]:=by simp[Fr.defs,hnod]
    simp only[Wv] at hflat
    obtain⟨L,q1,q2,q3,_,⟨N,c1,c2,c3,c4⟩,_⟩:=qhV hr hlp hb
    obtain⟨hN,K1,ow1,d1,c1⟩:=(hcr _ _ _).1 c1
    obtain⟨_,K2,ow2,d2,c2⟩:=(hcr _ _ _).1 c2
    have hsz:ys.toArray.size=L.params.size:=by grind [Codes,LSound,qby,qkc,Reps.length]
    refine⟨l,b,ys,L.fn,_,L.assign,L.body,rfl,rfl,run_yield q1 hsz,?_⟩
    split at h
    ·rename_i fr1 σ1 hrun1
     split at h
     ·rename_i lp1 hlp1
      split at h
      ·rename_i hst1
       obtain⟨hst1,hd1⟩:=hst1
       have hd1:fr1.get dkey=none:=by simpa using hd1
       split at h
       ·cases h
       ·rename_i e fr2 σ2 hnpan hrun2
        split at h
        ·rename_i lp2 hlp2
         split at h
         ·rename_i vs3 σ3 hres
          simp only[Wb,Res.ret.injEq] at h
          obtain⟨rfl,rfl⟩:=h
          have hfr:FrRep fid Γ N (qda lp.fr lp.ps vs) ((L.params.zip ys.toArray).foldl (fun t (p,v)=>t.setIfInBounds p v) L.tmps):=by
           have:=qj9 (ps:=L.params.toList) (vs:=vs) (ys:=ys) c4 (by rw[q2]; exact c3) hvs
           rw[q2] at this
           rw[<- Array.foldl_toList,Array.toList_zip,q2]
           exact this
          refine roundIn_of_wpIn (F:=Fence.wide) trivial ?_
          refine qbw (ro:=some b) (fl:=true) (hid.with ow1 d1) (hcr.with ow1 d1) hC (hL.with ow1 d1) hm hN (fun _=>rfl) L.assign lp.assign c1 (fun _=>hflat.1) _ .normal fr1 σ1 Γ [] Γ _ _ hrun1 ⟨hr,.refl _,by rw[hnodefs]; exact .nil _ _ _,hfr,fun _=>rfl,fun _=>hnod⟩ fun Γ1 a1 ex g1 g2 g3=>?_
          subst g1
          simp only[qdh] at g3
          subst g3
          have hb1 : Γ1.μ l=some b:=(g2.step.ext.fix l _ hlp rfl).2 b hb
          obtain⟨L1,u1,_,u3,_,_,u6⟩:=qhV g2.real hlp1 hb1
          obtain⟨r2,s2⟩:=u6 1 lp1.pend .busy (lp1.pend.map Ex.code) rfl rfl
          have u4:L1.pending=lp1.pend.map Ex.code:=by grind
          have hL1:({ L1 with state:=LoopState.busy }:Loop)={ L1 with state := .busy,pending:=lp1.pend.map Ex.code }:=by rw[<- u4]
          refine⟨_,run_beginRound u1 (by rw[u3,hst1]; rfl),?_⟩
          rw[hL1]
          refine qbw (ro:=some b) (fl:=true) (hid.with ow2 d2) (hcr.with ow2 d2) hC (hL.with ow2 d2) hm hN (fun _=>rfl) L.body lp.body c2 (fun _=>hflat.2) fr1 e fr2 σ2 Γ [] _ a1 _ hrun2 ⟨r2,g2.step.trans s2,g2.marks.step s2,g2.frame.ext s2.ext,g2.still,fun _=>hd1⟩ fun Γ3 a3 ex g3 g4 g5=>?_
          subst g3
          have hb3 : Γ3.μ l=some b:=(g4.step.ext.fix l _ hlp rfl).2 b hb
          obtain⟨L3,w1,_,_,_,_,w6⟩:=qhV g4.real hlp2 hb3
          have fin : ∀ (st:Nat) (pe:Option Ex) (j:Option Code) (bl:Bool),lp2.ended e={ lp2 with st:=st,pend:=pe }->j=pe.map Ex.code->bl=j.isNone->(if j.isNone then LoopState.ready else .done)=qxH st ->
            ∃ v w',(Instr.endRound b j).run P Γ3.w = .ok v w' /\ ∃ Γ' x,Ending.returned v = .returned x /\ Γ'.w=w' /\ Γ'.σ = σ3/\Real fid Γ'/\Step Γ Γ'/\Rep fid Γ' (.bool bl) x:=by
           intro st pe j bl he hj hbl hstt
           subst hbl
           obtain⟨r4,s4⟩:=w6 st pe _ j hstt hj
           rw[he] at hres
           obtain⟨t1,t2,t3,t4,t5,t6⟩:=qa1 r4 hres
           refine⟨_,_,run_endRound j w1,Ctx.part _ _ σ3,_,rfl,rfl,rfl,t5,qed (g4.step.trans s4) t1 t2 t4 (qgP _ _ _),?_⟩
           simp[Rep,RepD,qbY]
          cases e with
          |normal=>simp only[qdh] at g5; subst g5; exact fin 0 none none true rfl rfl rfl rfl
          |exit id=>simp only[qdh] at g5; subst g5; exact fin 2 (some (.exit id)) (some (.exit id)) false rfl rfl rfl rfl
          |ret=>simp only[qdh] at g5; subst g5; exact fin 2 (some .ret) (some .ret) false rfl rfl rfl rfl
          |pan v=>exact (hnpan _ rfl).elim
         ·cases h
        ·cases h
       ·cases h
      ·cases h
     ·cases h
    ·cases h
   ·cases h
  ·cases h
 ·cases h
theorem qht {fn:Func} {pf:PFun} {N:Nat} {Γ Γ2:Ctx} {fr':Fr} {tmps:Array Value} {v:V} {σ':S} (hres:qk7 P N fn.results.toList=some pf.results) (k2:Real fid Γ2) (k3:Step Γ Γ2) (k4:FrRep fid Γ2 N fr' tmps)
  (hfinish:qdl pf Γ.σ.length fr' Γ2.σ = some (.ret v σ')) : ∃ y,(results fn tmps).run P Γ2.w = .ok y Γ2.w /\ ∃ Γ',Γ'.w = Γ2.w /\ Γ'.σ = σ'/\Real fid Γ'/\Step Γ Γ'/\Rep fid Γ' v y:=by
 unfold qdl at hfinish
 split at hfinish
 ·rename_i vs0 hvs0
  obtain⟨ys,r1,r2⟩:=qgg k2 k4 hres hvs0
  have hres':(results fn tmps).run P Γ2.w = .ok (if h:ys.length=1 then ys[0] else .tuple ys.toArray) Γ2.w:=by
   rw[qj8]
   simp only[Sem.run_bind]
   rw[Array.mapM_eq_mapM_toList]
   simp only[Sem.run_map]
   rw[r1]
   simp only[Result.andThen_ok,Sem.run_pure]
   simp
  have plain : ∀ {vs:List V},Reps fid Γ2 vs ys->finishV Γ.σ.length vs Γ2.σ = some (.ret v σ') -> ∃ (Γ':Ctx) (vs':List V),Γ'.σ = σ' /\ Γ'.w = Γ2.w/\Real fid Γ'/\Step Γ Γ'/\Reps fid Γ' vs' ys/\v=one vs':=by
   intro vs hvs hfin
   unfold finishV at hfin
   split at hfin
   ·rename_i vs' σs hrestrict
    simp only[Wb,Res.ret.injEq] at hfin
    obtain⟨rfl,rfl⟩:=hfin
    obtain⟨t1,t2,t3,t4,t5,t6⟩:=qa1 k2 hrestrict
    exact⟨Γ2.part _ σs,vs',rfl,rfl,t5,qed k3 t1 t2 t4 (qgP _ _ _),t6 ys hvs,rfl⟩
   ·cases hfin
  have hout : ∃ (Γ':Ctx) (vs':List V),Γ'.σ = σ' /\ Γ'.w = Γ2.w/\Real fid Γ'/\Step Γ Γ'/\Reps fid Γ' vs' ys/\v=one vs':=by grind [finishV,qk7,FrRep,qdl,Rep,qpB,qgP,qpH]
  obtain⟨Γ',vs',e1,e2,e3,e4,r3,rfl⟩:=hout
  ·refine⟨_,hres',Γ',e2,e1,e3,e4,?_⟩
   have hl:=Reps.length r3
   cases vs' with
   |nil=>
    simp only[Reps] at r3; subst r3
    simp only[one,Rep]
    exact⟨[],by simp,rfl⟩
   |cons v1 rest=>
    cases rest with
    |nil=>
     simp only[Reps] at r3
     obtain⟨y,ys',rfl,k1,rfl⟩:=r3
     simpa [one] using k1
    |cons v2 rest=>
     have : ¬ ys.length=1:=by rw[hl]; simp
     rw[dif_neg this]
     simp only[one,Rep]
     exact⟨ys,rfl,r3⟩
 ·cases hfinish
theorem qfY{N:Nat}{Γ : Ctx}{args:List V}{xs:List Value}(hargs:Reps fid Γ args xs)(hle:args.length<=N):FrRep fid Γ N (qbC 0 args) (xs.toArray++Array.replicate (N-xs.toArray.size) undef):=by
 have hxl:=Reps.length hargs
 refine⟨by simp; omega,fun t u ht hu=>?_⟩
 obtain⟨_,h2⟩:=qgf hu
 obtain⟨x,h3,h4⟩:=qn0 hargs h2
 have:(xs.toArray++Array.replicate (N-xs.toArray.size) undef).getD t undef=x:=by
  have hlt:=(We.1 h3).1
  rw[Array.getD_eq_getD_getElem?,WZ (by simpa using hlt)]
  simp only[Nat.sub_zero] at h3
  simp[h3]
 rw[this]; exact h4
theorem qin{args:List V}{k:Nat}(h:args.length<=k):(qbC 0 args).get k=none:=by
 cases hg:(qbC 0 args).get k with
 |none=>rfl
 |some v=>
  obtain⟨_,h2⟩:=qgf hg
  have:=(We.1 h2).1
  omega
theorem qmw (hid:Ties P ids fid) (hcr:Codes P ids fid) (hC:CSound P fid C) (hL:LSound P ids fid C) (hm:P.follows .mixedOrders=true) {f:Nat} {fn:Func} {K:Nat->List Nat} {ow df:Bool} {pf:PFun} {c:Code} (hfn:P.funcs[fid f]?=some fn) (hbody:fn.body=some c)
  (hname:(fn.name == "runtime.NumGoroutine")=false) (hN:2*fn.ntmps<=dkey) (hcomp:comp P (ids.with ow df) fn.ntmps K c=some pf.body) (hres:qk7 P fn.ntmps fn.results.toList=some pf.results) (hpn:pf.np<=fn.ntmps) (hpd:pf.df=df)
  {args:List V} {σ σ':S} {v:V} (h:qb5 C pf args σ = some (.ret v σ')):qmq P fid f args σ v σ':=by
 unfold qb5 at h
 split at h
 ·rename_i hlen
  refine⟨⟨fn,hfn,hname,by rw[hbody]; rfl⟩,fun Γ xs hσ hr hargs=>?_⟩
  subst hσ
  have hf0:=qfY (N:=fn.ntmps) hargs (by omega)
  have hpos:0<dkey:=by decide
  have hk0:(qbC 0 args).get dkey=none:=qin (by omega)
  refine callsIn_of_wp_marks (F:=Fence.wide) hfn hbody trivial ?_
  have fin : ∀ (e:Ex) (fr':Fr) (σ1:S),run C Γ.σ.length pf.body (qbC 0 args) Γ.σ = some (e,fr',σ1) ->
    (∀ Γ1 a1 ex,Γ1.σ = σ1->At fid fn.ntmps false df Γ [] fr' Γ1 a1->qdh fid Γ1 e ex->bodyPostM Fence.wide 0 P fn (fun e w' => ∃ Γ',Γ'.w=w' /\ Γ'.σ = σ'/\Real fid Γ'/\Step Γ Γ'/\qxJ fid Γ' v e) ex a1 Γ1.w) ->
    c.wpIn Fence.wide 0 P (bodyPostM Fence.wide 0 P fn (fun e w' => ∃ Γ',Γ'.w=w' /\ Γ'.σ = σ'/\Real fid Γ'/\Step Γ Γ'/\qxJ fid Γ' v e)) { tmps:=xs.toArray++Array.replicate (fn.ntmps-xs.toArray.size) undef,defers:=[] } Γ.w:=by
   intro e fr' σ1 hrun hk
   exact qbw (ro:=none) (fl:=false) (hid.with ow df) (hcr.with ow df) hC (hL.with ow df) hm hN (fun h=>by simp at h) c pf.body hcomp (fun h=>by cases h) (qbC 0 args) e fr' σ1 Γ [] Γ _ _ hrun
    ⟨hr,.refl _,by simp only[Fr.defs,hk0]; exact .nil _ _ _,hf0,fun h=>by (cases h),fun _=>hk0⟩ hk
  have norm : ∀ (fr':Fr) (σ1:S) (ex:Exit) (e:Ex),(ex = .normal\/ex = .ret)->(if pf.df then qgq C pf Γ.σ.length fr' σ1 else qdl pf Γ.σ.length fr' σ1)=some (.ret v σ') ->
    ∀ Γ1 a1,Γ1.σ = σ1->At fid fn.ntmps false df Γ [] fr' Γ1 a1->bodyPostM Fence.wide 0 P fn (fun e w' => ∃ Γ',Γ'.w=w' /\ Γ'.σ = σ'/\Real fid Γ'/\Step Γ Γ'/\qxJ fid Γ' v e) ex a1 Γ1.w:=by
   intro fr' σ1 ex e hex hend Γ1 a1 g1 g2
   subst g1
   obtain⟨is,ds',m1,m2,m3,m4⟩:=g2.marks
   have hrd : ∃ σ2,qbu C (qbV is) Γ1.σ = some σ2/\qdl pf Γ.σ.length fr' σ2=some (.ret v σ'):=by
    cases hd:df with
    |false=>
     rw[hpd,hd] at hend
     have:fr'.defs=[]:=by simp only[Fr.defs,g2.nod hd]
     rw[this] at m4
     exact⟨Γ1.σ,by rw[m4]; rfl,hend⟩
    |true=>
     rw[hpd,hd] at hend
     simp only[if_true,qgq] at hend
     split at hend
     ·grind
     ·cases hend
   obtain⟨σ2,h1,h2⟩:=hrd
   have post:LeavesInM Fence.wide 0 P fn a1.tmps (fun e w' => ∃ Γ',Γ'.w=w' /\ Γ'.σ = σ'/\Real fid Γ'/\Step Γ Γ'/\qxJ fid Γ' v e) a1.defers .returning Γ1.w:=by
    rw[m1,Wr]
    refine qeB hC is ds' Γ1 m2 m3 g2.real g2.step g2.frame h1 fun Γ2 k1 k2 k3 k4=>?_
    subst k1
    obtain⟨y,r1,Γ',r2,r3,r4,r5,r6⟩:=qht hres k2 k3 k4 h2
    exact⟨y,r1,Γ',r2,r3,r4,r5,.inl ⟨y,rfl,r6⟩⟩
   rcases hex with rfl|rfl
   ·exact post
   ·exact post
  split at h
  ·rename_i fr' σ1 hrun
   refine fin .normal fr' σ1 hrun fun Γ1 a1 ex g1 g2 g3=>?_
   simp only[qdh] at g3; subst g3
   exact norm fr' σ1 _ .normal (.inl rfl) h Γ1 a1 g1 g2
  ·rename_i fr' σ1 hrun
   refine fin .ret fr' σ1 hrun fun Γ1 a1 ex g1 g2 g3=>?_
   simp only[qdh] at g3; subst g3
   exact norm fr' σ1 _ .ret (.inr rfl) h Γ1 a1 g1 g2
  ·rename_i pv fr' σ1 hrun
   refine fin (.pan pv) fr' σ1 hrun fun Γ1 a1 ex g1 g2 g3=>?_
   subst g1
   obtain⟨x,rfl,hx⟩:=g3
   obtain⟨is,ds',m1,m2,m3,m4⟩:=g2.marks
   show LeavesInM Fence.wide 0 P fn a1.tmps _ a1.defers (.panicking [{ v:=x,recovered:=false }]) Γ1.w
   rw[m1,Wr]
   refine qhs hC is ds' Γ1 m2 m3 g2.real g2.step g2.frame hx ?_
   unfold qfP at h
   split at h
   ·rename_i hd
    refine .inl ⟨by rw[m4]; exact hd,fun Γ2 k1 k2 k3 k4=>?_⟩
    rw[<- k1] at h
    split at h
    ·rename_i v' σs hres'
     cases h
     obtain⟨t1,t2,t3,t4,t5,t6⟩:=qa1 k2 hres'
     have:=t6 [x] ⟨x,[],rfl,k4,rfl⟩
     simp only[Reps] at this
     obtain⟨y,ys,e1,e2,e3⟩:=this
     cases e1
     exact⟨Γ2.part _ σ',rfl,rfl,t5,qed k3 t1 t2 t4 (qgP _ _ _),.inr ⟨v',x,rfl,rfl,e2⟩⟩
    ·cases h
   ·rename_i id as r hd
    split at h
    ·cases h
    ·rename_i hnil
     split at h
     ·rename_i v1 σ2 hcall
      split at h
      ·rename_i σ3 hrest
       refine .inr ⟨id,as,r,v1,σ2,σ3,by rw[m4]; exact hd,by simpa using hnil,hcall,hrest,fun Γ2 k1 k2 k3 k4=>?_⟩
       subst k1
       obtain⟨y,r1,Γ',r2,r3,r4,r5,r6⟩:=qht hres k2 k3 k4 h
       exact⟨y,r1,Γ',r2,r3,r4,r5,.inl ⟨y,rfl,r6⟩⟩
      ·cases h
     ·cases h
   ·cases h
  ·cases h
 ·cases h
theorem qio{fn:Func}{rs:List PR}{N:Nat}(hres:qk7 P N fn.results.toList=some rs)(he:rs.isEmpty=true)(tmps:Array Value)(w:World):(results fn tmps).run P w = .ok (.tuple #[]) w:=by
 have hnil:fn.results.toList=[]:=by
  cases hr:fn.results.toList with
  |nil=>rfl
  |cons r rest=>
   rw[hr] at hres
   cases r with
   |tmp t=>
    simp only[qk7] at hres
    split at hres
    ·simp_all
    ·cases hres
   |cell a t=>
    simp only[qk7] at hres
    split at hres
    ·split at hres<;>cases hres<;>cases he
    ·cases hres
 rw[qj8]
 simp only[Sem.run_bind]
 rw[Array.mapM_eq_mapM_toList,hnil]
 simp
theorem qBR{Γ Γ1:Ctx}(hr:Real fid Γ1)(hs:Step Γ Γ1){vs:List V}{σ':S}(h:qbE (gcL Γ.σ.length [] Γ1.σ) [] Γ1.σ = some (vs,σ')) : ∃ Γ',Γ'.w = Γ1.w /\ Γ'.σ = σ'/\Real fid Γ'/\Step Γ Γ':=by
 obtain⟨t1,t2,t3,t4,t5,t6⟩:=qa1 hr h
 exact⟨Γ1.part _ σ',rfl,rfl,t5,qed hs t1 t2 t4 (qgP _ _ _)⟩
theorem qlr (hid:Ties P ids fid) (hcr:Codes P ids fid) (hC:CSound P fid C) (hL:LSound P ids fid C) (hm:P.follows .mixedOrders=true) {f:Nat} {fn:Func} {K:Nat->List Nat} {ow:Bool} {pf:PFun} {c:Code} (hfn:P.funcs[fid f]?=some fn) (hbody:fn.body=some c)
  (hname:(fn.name == "runtime.NumGoroutine")=false) (hN:2*fn.ntmps<=dkey) (hcomp:comp P (ids.with ow false) fn.ntmps K c=some pf.body) (hres:qk7 P fn.ntmps fn.results.toList=some pf.results) (hpn:pf.np<=fn.ntmps) (hpc:pf.catches=false)
  {args:List V} {σ σ':S} {v:V} (h:qa0 C pf args σ = some (.ret v σ')):qxt P fid f args σ σ':=by
 refine⟨⟨fn,hfn,hname,by rw[hbody]; rfl⟩,fun Γ pv as px ys u hargs hσ hr hp hys hu hu'=>?_⟩
 subst hσ hargs
 simp only[qa0] at h
 split at h
 ·rename_i hcond
  obtain⟨hlen,hdf,hemp,hflat,hcn⟩:=hcond
  have hnil:pv.isNilIf=true:=by rcases hcn with h | h
                                ·rw[hpc] at h; cases h
                                ·exact h
  have hu1:=hu hnil
  subst hu1
  have hf0:=qfY (N:=fn.ntmps) hys (by omega)
  have hpos:0<dkey:=by decide
  have hk0:Fr.get ((qgh,pv)::qbC 0 as) dkey=none:=by
   simp only[Fr.get]; rw[if_neg (by decide)]; exact qin (by omega)
  have hf1:FrRep fid Γ fn.ntmps ((qgh,pv)::qbC 0 as) (ys.toArray++Array.replicate (fn.ntmps-ys.toArray.size) undef):=⟨hf0.1,fun t v ht hv=>by
   have:qgh≠t:=fun e=>by
    have h1:qgh=dkey+1:=rfl
    omega
   simp only[Fr.get,if_neg this] at hv
   exact hf0.2 t v ht hv⟩
  have fin : ∀ (e:Ex) (fr':Fr) (σ1:S),(e = .normal\/e = .ret)->run C Γ.σ.length pf.body ((qgh,pv)::qbC 0 as) Γ.σ = some (e,fr',σ1)->(∃ vs,qbE (gcL Γ.σ.length [] σ1) [] σ1=some (vs,σ')) ->
    CallsDIn Fence.wide 0 P (fid f) ys.toArray .returning Γ.w fun e u' w' => ∃ Γ' y,e = .returned y /\ Γ'.w=w' /\ Γ'.σ = σ'/\Real fid Γ'/\Step Γ Γ'/\settle u' = .returning:=by
   intro e fr' σ1 he hrun hend
   obtain⟨vs,hend⟩:=hend
   refine CallsDIn.mono (callsDIn_of_wp (F:=Fence.wide) (n:=0) (R:=fun e w' => ∃ Γ' y,e = .returned y /\ Γ'.w=w' /\ Γ'.σ = σ'/\Real fid Γ'/\Step Γ Γ') hfn hbody trivial ?_) ?_
   ·refine qbw (ro:=none) (fl:=true) (hid.with ow false) (hcr.with ow false) hC (hL.with ow false) hm hN (fun _=>rfl) c pf.body hcomp (fun _=>hflat) _ e fr' σ1 Γ [] Γ _ _ hrun
     ⟨hr,.refl _,by simp only[Fr.defs,hk0]; exact .nil _ _ _,hf1,fun _=>rfl,fun _=>hk0⟩ fun Γ1 a1 ex g1 g2 g3=>?_
    subst g1
    obtain⟨Γ',q1,q2,q3,q4⟩:=qBR g2.real g2.step hend
    have post:a1.defers=[] /\ ∃ v,(results fn a1.tmps).run P Γ1.w = .ok v Γ1.w /\ ∃ Γ' y,Ending.returned v = .returned y /\ Γ'.w = Γ1.w /\ Γ'.σ = σ'/\Real fid Γ'/\Step Γ Γ':=
     ⟨g2.still rfl,_,qio hres hemp _ _,Γ',_,rfl,q1,q2,q3,q4⟩
    rcases he with rfl|rfl
    ·simp only[qdh] at g3; subst g3; exact post
    ·simp only[qdh] at g3; subst g3; exact post
   ·rintro e u' w' ⟨rfl,Γ',y,q1,q2,q3,q4,q5⟩
    exact⟨Γ',y,q1,q2,q3,q4,q5,rfl⟩
  split at h
  ·grind
  ·grind
  ·cases h
 ·cases h
theorem qmx (hid:Ties P ids fid) {N:Nat} {Γ : Ctx} {fr:Fr} {a:Act} {o:Oper} {neg:Bool} {x:X} {v:V} {σ':S} (hc:cOp P ids N o.op=some (.isnil false neg x)) (hr:Real fid Γ) (hf:FrRep fid Γ N fr a.tmps) (h:qaM C fr Γ.σ (.isnil false neg x)=some (v,σ')) :
  σ' = Γ.σ /\ ∃ y,(execOp a.eval o).run P Γ.w = .ok (.value y) Γ.w/\Rep fid Γ v y:=by
 have fin : ∀ {op:BinOp} {t t':TypeId} {y:Operand} (neg':Bool),(op=if neg' then .neq else .eql)->o.op = .binOp op t y (.const .nilIface) t'->(∃ ms,P.underlying t=some (.interface ms))->(∃ y',cX ids N y=some y'/\O.isnil false neg' y' = .isnil false neg x) ->
   σ' = Γ.σ /\ ∃ y,(execOp a.eval o).run P Γ.w = .ok (.value y) Γ.w/\Rep fid Γ v y:=by
  rintro op t t' y neg' hop ho ⟨ms,ht⟩ ⟨y',h1,e⟩
  cases e
  simp only[qaM] at h
  split at h
  ·rename_i u hu
   split at h
   ·rename_i b hb
    cases h
    obtain⟨g1,g2⟩:=qjQ (P:=P) (qaf hid hr hf h1 hu) hb (.inl ⟨rfl,rfl,ms,ht⟩) Γ.w
    refine⟨rfl,.bool (if neg then !b else b),?_,qer rfl⟩
    have hρ : a.eval (.const .nilIface) = .nilIface:=rfl
    simp only[execOp,ho,hρ]
    generalize a.eval y=z at *
    subst hop
    rcases g2 with ⟨a,c,rfl,_⟩|⟨rfl,_⟩|⟨a,_,h⟩
    ·cases neg<;>simp[eqGuard,binOp,g1]
    ·cases neg<;>simp[eqGuard,binOp,g1]
    ·cases h
   ·cases h
  ·cases h
 cases ho:o.op with
 |binOp op t y z t'=>
  rw[ho] at hc
  simp only[cOp] at hc
  split at hc
  ·simp_all
  ·simp_all
  ·simp_all
  ·simp_all
  ·simp_all
  ·simp_all
  ·exfalso
   repeat' (first
    | (cases hc; done)
    | (simp only[Wk] at hc; obtain⟨_,_,e⟩:=hc; cases e; done)
    |split at hc)
 |makeFunc fn u z=>
  exfalso
  rw[ho] at hc
  cases fn<;>simp only[cOp] at hc
  all_goals repeat' (first
   | (cases hc; done)
   | (simp only[Wk] at hc; obtain⟨_,_,e⟩:=hc; cases e; done)
   |split at hc)
 |_=>
  exfalso
  rw[ho] at hc
  simp only[cOp] at hc
  all_goals (try simp only[qps] at hc)
  repeat' (first
   | (cases hc; done)
   | (simp only[Wk] at hc; obtain⟨_,_,e⟩:=hc; cases e; done)
   | (simp only[Wk] at hc; obtain⟨_,_,e⟩:=hc; split at e<;>cases e; done)
   | (split at hc<;>first | (cases hc; done) | skip))
theorem qls (hid:Ties P ids fid) (hcr:Codes P ids fid) (hC:CSound P fid C) (hL:LSound P ids fid C) (hm:P.follows .mixedOrders=true) {f:Nat} {fn:Func} {K:Nat->List Nat} {ow:Bool} {pf:PFun} {c:Code} (hfn:P.funcs[fid f]?=some fn) (hbody:fn.body=some c)
  (hname:(fn.name == "runtime.NumGoroutine")=false) (hN:2*fn.ntmps<=dkey) (hcomp:qpu P ids K ow false true fn.ntmps c=some pf.body) (hres:qk7 P fn.ntmps fn.results.toList=some pf.results) (hpn:pf.np<=fn.ntmps)
  {args:List V} {σ σ':S} {v:V} (h:qa0 C pf args σ = some (.ret v σ')):qxt P fid f args σ σ':=by
 refine⟨⟨fn,hfn,hname,by rw[hbody]; rfl⟩,fun Γ pv as px ys u hargs hσ hr hp hys hu hu'=>?_⟩
 subst hσ hargs
 simp only[qa0] at h
 split at h
 ·rename_i hcond
  obtain⟨hlen,hdf,hemp,hflat,_⟩:=hcond
  have hf0:=qfY (N:=fn.ntmps) hys (by omega)
  have hpos:0<dkey:=by decide
  have hrk:qgh=dkey+1:=rfl
  have hk0:Fr.get ((qgh,pv)::qbC 0 as) dkey=none:=by grind [Fr.get,Codes,LSound,dkey,qpu,qk7,qa0,qxt,qin]
  have hf1:FrRep fid Γ fn.ntmps ((qgh,pv)::qbC 0 as) (ys.toArray++Array.replicate (fn.ntmps-ys.toArray.size) undef):=⟨hf0.1,fun t v ht hv=>by
   have:qgh≠t:=fun e=>by omega
   simp only[Fr.get,if_neg this] at hv
   exact hf0.2 t v ht hv⟩
  have hex : ∃ e fr' σ1 vs,(e = .normal\/e = .ret)/\run C Γ.σ.length pf.body ((qgh,pv)::qbC 0 as) Γ.σ = some (e,fr',σ1)/\qbE (gcL Γ.σ.length [] σ1) [] σ1=some (vs,σ'):=by grind
  obtain⟨e,fr',σ1,vs,he,hrun,hend⟩:=hex
  unfold qpu at hcomp
  split at hcomp
  ·rename_i id ops rest _
   split at hcomp
   ·rename_i o os hops
    split at hcomp
    ·rename_i c0 ar0 at0 d is r ho hd hg his hrest
     split at hcomp
     ·rename_i hcond2
      obtain⟨hdN,htest⟩:=hcond2
      simp only[Wb] at hcomp
      obtain⟨dst1,neg,x1,un1,his1⟩ : ∃ dst1 neg x1 un1,is=[⟨dst1,.isnil false neg x1,none,un1⟩]:=by
       unfold qrN at htest
       split at htest
       ·exact⟨_,_,_,_,rfl⟩
       ·cases htest
      subst his1
      obtain⟨o1,hos⟩ : ∃ o1,os=[o1]:=by
       cases os with
       |nil=>simp[cIs] at his
       |cons o1 os=>
        obtain⟨i,is',e1,e2,_⟩:=qgE his
        cases e1
        cases os with
        |nil=>exact⟨o1,rfl⟩
        |cons o2 os=>
         obtain⟨i,is',e1,_⟩:=qgE e2
         cases e1
      subst hos
      obtain⟨i,is',e1,e2,e3⟩:=qgE his
      cases e1
      have hcI:cI P (ids.with ow false) fn.ntmps false ops (fun _=>[]) 1 o1=some ⟨dst1,.isnil false neg x1,none,un1⟩:=by grind [Codes,LSound,dkey,qpu,qk7,qa0,qxt,qeH]
      obtain⟨q1,q2,q3,q4⟩:=qcy hcI
      have q2:dst1=o1.dst:=q2
      subst q2
      have hg1:o1.guard=none:=by grind
      have q1':cOp P (ids.with ow false) fn.ntmps o1.op=some (.isnil false neg x1):=q1
      have hop0:ops[0]?=some o:=by
       have:ops.toList[0]?=some o:=by rw[hops]; rfl
       simpa using this
      have hop1:ops[1]?=some o1:=by
       have:ops.toList[1]?=some o1:=by rw[hops]; rfl
       simpa using this
      have hsz:ops.size=2:=by
       have:ops.toList.length=2:=by rw[hops]; rfl
       simpa using this
      rw[<- hcomp] at hrun
      simp only[run,qeQ,qaW,qaM,Fr.get,if_true] at hrun
      refine callsDIn_of_wpSIn (F:=Fence.wide) (n:=0) hfn hbody trivial fun c₀ cs hcu=>?_
      refine wpSIn_seq (wpSIn_region ?_)
      rw[hsz]
      show wpOpsSIn Fence.wide 0 P ops _ [0,1] _ _ _
      unfold wpOpsSIn
      simp only[hop0]
      have hexec : ∀ (a:Act) (w:World),(execOp a.eval o).run P w = .ok .recover w:=fun a w=>by
       simp only[execOp,ho,resolve,Sem.run_bind,Sem.run_pure,Result.andThen_ok,invoke,builtin]
      have hw0 : ∀ tm,Region.wanted o (yielded ops tm)=true:=fun tm=>by simp[Region.wanted,hg]
      have hw1 : ∀ tm,Region.wanted o1 (yielded ops tm)=true:=fun tm=>by simp[Region.wanted,hg1]
      refine⟨fun _ _=>trivial,?_⟩
      rw[hw0]
      simp only[if_true,hexec]
      have key : ∀ (y0:Value) (cs':List Frame) (u2:FrameMode),Rep fid Γ pv y0->cs'={ c₀ with mode:=u2 }::cs->settle u2 = .returning ->
        wpOpsSIn Fence.wide 0 P ops (Exit.thenS (rest.wpSIn Fence.wide 0 P (bodyPostS P fn c₀ cs (fun e u' w' => ∃ Γ' y,e = .returned y /\ Γ'.w=w' /\ Γ'.σ = σ'/\Real fid Γ'/\Step Γ Γ'/\settle u' = .returning))) (bodyPostS P fn c₀ cs (fun e u' w' => ∃ Γ' y,e = .returned y /\ Γ'.w=w' /\ Γ'.σ = σ'/\Real fid Γ'/\Step Γ Γ'/\settle u' = .returning)))
         [1] (Act.put { tmps:=ys.toArray++Array.replicate (fn.ntmps-ys.toArray.size) undef,defers:=[] } o.dst y0) cs' Γ.w:=by
       intro y0 cs' u2 hy0 hcs hset
       unfold wpOpsSIn
       simp only[hop1]
       refine⟨fun _ _=>trivial,?_⟩
       rw[hw1]
       simp only[if_true]
       have hat0:At fid fn.ntmps true (ids.with ow false).df Γ [] ((qgh,pv)::qbC 0 as) Γ { tmps:=ys.toArray++Array.replicate (fn.ntmps-ys.toArray.size) undef,defers:=[] }:=
        ⟨hr,.refl _,by simp only[Fr.defs,hk0]; exact .nil _ _ _,hf1,fun _=>rfl,fun _=>hk0⟩
       have hat1:=hat0.put (d:=o.dst) (v:=pv) (x:=y0) hN (fun k hk=>by rw[hd] at hk; cases hk; exact hdN) hr (.refl _) hy0
       cases hev:qaM C (Fr.put ((qgh,pv)::qbC 0 as) o.dst pv) Γ.σ (.isnil false neg x1) with
       |none=>
        exfalso
        rw[hd] at hev
        simp only[qaM] at hev
        simp only[hev] at hrun
        simp[qcI,qaW,qaM,qbS,Fr.get,hev] at hrun
       |some res=>
        obtain⟨b,σb⟩:=res
        obtain⟨rfl,y1,r1,r2⟩:=qmx (hid.with ow false) q1' hat1.real hat1.frame hev
        rw[r1]
        simp only
        unfold wpOpsSIn
        have hat2:=hat1.put (d:=o1.dst) (v:=b) (x:=y1) hN q3 hr (.refl _) r2
        have hev':=hev
        rw[hd] at hev'
        simp only[qaM] at hev'
        simp only[hev'] at hrun
        simp only[Exit.thenS]
        refine wpSIn_of_wpIn rfl ?_
        have hflr:r.flat=true:=by grind [PC.flat]
        have hat3:At fid fn.ntmps true (ids.with ow false).df Γ [] ((Fr.put (Fr.put ((qgh,pv)::qbC 0 as) o.dst pv) o1.dst b).keep (K id)) Γ ((Act.put { tmps:=ys.toArray++Array.replicate (fn.ntmps-ys.toArray.size) undef,defers:=[] } o.dst y0).put o1.dst y1):=hat2.keep (ids:=ids.with ow false) K id
        rw[hd] at hat3 ⊢
        refine qbw (ro:=none) (fl:=true) (hid.with ow false) (hcr.with ow false) hC (hL.with ow false) hm hN (fun _=>rfl) rest r hrest (fun _=>hflr) _ e fr' σ1 Γ [] Γ _ _ hrun hat3 fun Γ1 a1 ex g1 g2 g3=>?_
        subst g1
        obtain⟨Γ',z1,z2,z3,z4⟩:=qBR g2.real g2.step hend
        have post:a1.defers=[] /\ ∃ u',cs'={ c₀ with mode:=u' }::cs /\ ∃ v,(results fn a1.tmps).run P Γ1.w = .ok v Γ1.w /\ ∃ Γ' y,Ending.returned v = .returned y /\ Γ'.w = Γ1.w /\ Γ'.σ = σ'/\Real fid Γ'/\Step Γ Γ'/\settle u' = .returning:=
         ⟨g2.still rfl,u2,hcs,_,qio hres hemp _ _,Γ',_,rfl,z1,z2,z3,z4,hset⟩
        rcases he with rfl|rfl
        ·simp only[qdh] at g3; subst g3; exact post
        ·simp only[qdh] at g3; subst g3; exact post
      cases hnil:pv.isNilIf with
      |true=>
       have hu1:=hu hnil
       have hrec:recoverD (c₀ :: cs)=none:=by simp[recoverD,hcu,hu1]
       rw[hrec]
       have hpv:pv = .dat (.lit .nilIface):=by grind [V.isNilIf]
       refine key .nilIface (c₀ :: cs) u (by rw[hpv]; exact qer rfl) ?_ (by rw[hu1]; rfl)
       subst hcu; rfl
      |false=>
       have hu1:=hu' hnil
       have hrec:recoverD (c₀ :: cs)=some (px,{ c₀ with mode := .panicking [{ v:=px,recovered:=true }] }::cs):=by simp[recoverD,hcu,hu1]
       rw[hrec]
       exact key px _ (.panicking [{ v:=px,recovered:=true }]) hp rfl rfl
     ·cases hcomp
    ·cases hcomp
   ·cases hcomp
  ·cases hcomp
  ·rename_i h1; cases h1
 ·cases h
theorem qjv (hid:Ties P ids fid) (hcr:Codes P ids fid) (hC:CSound P fid C) (hL:LSound P ids fid C) (hm:P.follows .mixedOrders=true) {f:Nat} {fn:Func} {K:Nat->List Nat} {ns ow df ca:Bool} {pf:PFun} (hfn:P.funcs[fid f]?=some fn) (hc:compF P ids K ns ow df ca fn=some pf) :
  (∀ args σ v σ',ca=false->qb5 C pf args σ = some (.ret v σ')->qmq P fid f args σ v σ') /\ ∀ args σ v σ',qa0 C pf args σ = some (.ret v σ')->qxt P fid f args σ σ':=by
 unfold compF at hc
 split at hc
 ·rename_i c hbody
  split at hc
  ·rename_i body rs hcomp hres
   split at hc
   ·rename_i hcond
    cases hc
    obtain⟨c1,c2,c3,c4⟩:=hcond
    have hname:(fn.name == "runtime.NumGoroutine")=false:=by simpa using c3
    cases ca with
    |false=>
     have hcomp':comp P (ids.with ow df) fn.ntmps K c=some body:=by
      simpa only [qpu] using hcomp
     refine⟨fun args σ v σ' _ h=>qmw hid hcr hC hL hm hfn hbody hname c2 hcomp' hres c1 rfl h,fun args σ v σ' h=>?_⟩
     have hdf:df=false:=by
      unfold qa0 at h
      split at h
      ·grind
      ·cases h
     subst hdf
     exact qlr hid hcr hC hL hm hfn hbody hname c2 hcomp' hres c1 rfl h
    |true=>
     have hdf:=c4 rfl
     subst hdf
     exact⟨fun _ _ _ _ h=>by (cases h),fun args σ v σ' h=>qls hid hcr hC hL hm hfn hbody hname c2 hcomp hres c1 h⟩
   ·cases hc
  ·cases hc
 ·cases hc
end
def Tied(P:Program)(ids:Ids)(fid:Fid)(prog:Nat->Option PFun):Prop:=
 ∀ f pf,prog f=some pf -> ∃ fn K ns ow df,P.funcs[fid f]?=some fn/\compF P ids K ns ow df pf.catches fn=some pf
theorem qr8{r:Nat->Nat}{fr:Fr}:(qmy r fr).defs=qdV r fr.defs:=by
 have hg : ∀ fr:Fr,(qmy r fr).get dkey=(fr.get dkey).map (V.ren r):=fun fr=>by
  induction fr with
  |nil=>rfl
  |cons p fr ih=>
   obtain⟨k,v⟩:=p
   simp only[qmy,Fr.get]
   split
   ·rfl
   ·exact ih
 simp only[Fr.defs,hg]
 cases fr.get dkey with
 |none=>rfl
 |some v=>cases v<;>rfl
theorem qpP{fr:Fr} : ∀ l∈qaG fr.defs,l∈qcH fr:=by
 intro l hl
 simp only[Fr.defs] at hl
 split at hl
 ·rename_i vs hg
  have key : ∀ fr:Fr,fr.get dkey=some (.tup vs)->l∈qcH fr:=fun fr=>by
   induction fr with
   |nil=>intro h; simp[Fr.get] at h
   |cons p fr ih=>
    obtain⟨k,v⟩:=p
    intro h
    simp only[Fr.get] at h
    simp only[qcH,Ws]
    split at h
    ·cases h; exact .inl (by simpa only [V.locs] using hl)
    ·exact .inr (ih h)
  exact key fr hg
 ·cases hl
theorem qlt {N:Nat} {fl df:Bool} {Γ0 Γ : Ctx} {ds0:List Deferred} {fr fr1:Fr} {σ1:S} {a:Act} (hat:At fid N fl df Γ0 ds0 fr Γ a) (h:gcF Γ0.σ.length fr Γ.σ = some (fr1,σ1)) :
  ∃ Γ1:Ctx,Γ1.σ = σ1 /\ Γ1.w = Γ.w/\At fid N fl df Γ0 ds0 fr1 Γ1 a:=by
 unfold gcF at h
 simp only at h
 split at h
 ·rename_i vs σs hres
  split at h
  ·rename_i hin
   simp only[Wb,WK] at h
   obtain⟨rfl,rfl⟩:=h
   obtain⟨t1,t2,t3,t4,t5,t6⟩:=qa1 hat.real hres
   refine⟨Γ.part _ σs,rfl,rfl,⟨t5,qed hat.step t1 t2 t4 (qgP _ _ _),?_,FrRep.ren t4 (qg1 hin) hat.frame,hat.still,fun hd=>?_⟩⟩
   ·obtain⟨is,ds',m1,m2,m3,m4⟩:=hat.marks
    have ren : ∀ {is:List DI} {ds:List Deferred},DIReps fid Γ0 Γ is ds->(∀ l∈qaG (qbV is),l∈gcL Γ0.σ.length (qcH fr) Γ.σ) ->
      ∃ is',DIReps fid Γ0 (Γ.part (gcL Γ0.σ.length (qcH fr) Γ.σ) σs) is' ds/\qdi is'=qdi is/\qbV is'=qdV (idx (gcL Γ0.σ.length (qcH fr) Γ.σ)) (qbV is):=by
     intro is
     induction is with
     |nil=>intro ds h _; exact⟨[],h,rfl,rfl⟩
     |cons i is ih=>
      intro ds h hl
      obtain⟨d,r,h1,h2,h3⟩:=h
      cases i with
      |m D=>
       obtain⟨is',a1,a2,a3⟩:=ih h3 hl
       refine⟨.m D::is',⟨d,r,h1,⟨h2.1,h2.2.1,h2.2.2.1,fun l hl=>?_⟩,a1⟩,by simp[qdi,a2],a3⟩
       simp only[Ctx.part] at hl
       cases hl':(gcL Γ0.σ.length (qcH fr) Γ.σ)[l]? with
       |none=>rw[hl'] at hl; cases hl
       |some l'=>rw[hl'] at hl; exact h2.2.2.2 l' hl
      |c v=>
       simp only[qbV,qaG,Ws] at hl
       obtain⟨is',a1,a2,a3⟩:=ih h3 (fun l h=>hl l (.inr h))
       obtain⟨id,as,cap,ys,q1,q2,q3⟩:=h2
       subst q1
       refine⟨.c (.fn id (qdV (idx (gcL Γ0.σ.length (qcH fr) Γ.σ)) as) [])::is',⟨d,r,h1,⟨id,_,cap,ys,rfl,q2,Reps.ren t4 as _ (fun l hl'=>hl l (.inl (by simp[V.locs,hl']))) q3⟩,a1⟩,a2,by simp[qbV,qdV,V.ren,a3]⟩
    obtain⟨is',a1,a2,a3⟩:=ren m2 (fun l hl=>qg1 hin l (qpP l (by rw[m4] at hl; exact hl)))
    exact⟨is',ds',m1,a1,by rw[a2]; exact m3,by rw[a3,m4,qr8]⟩
   ·have:=hat.nod hd
    cases hg:(qmy (idx (gcL Γ0.σ.length (qcH fr) Γ.σ)) fr).get dkey with
    |none=>rfl
    |some v=>
     obtain⟨u,h1,_⟩:=qkz hg
     rw[this] at h1; cases h1
  ·cases h
 ·cases h
theorem qjw(hid:Ties P ids fid)(hcr:Codes P ids fid)(hm:P.follows .mixedOrders=true){prog:Nat->Option PFun}(ht:Tied P ids fid prog) : ∀ n,CSound P fid (qb9 prog n)/\LSound P ids fid (qb9 prog n)
 |0=>⟨⟨fun f args σ v σ' h=>by simp[qb9] at h,fun f args σ v σ' h=>by simp[qb9] at h,fun args σ v σ' h=>by simp[qb9] at h⟩,fun k b fr σ e fr' σ' h=>by simp[qb9] at h⟩
 |n+1=>by
  obtain⟨hC,hL⟩:=qjw hid hcr hm ht n
  refine⟨⟨fun f args σ v σ' h=>?_,fun f args σ v σ' h=>?_,fun args σ v σ' h=>?_⟩,fun k b fr σ e fr' σ' h=>?_⟩
  ·grind [qb9,Codes,Tied,LSound,qjv]
  ·grind [qb9,Codes,Tied,LSound,qjv]
  ·grind [qb9,Codes,Tied,LSound,qmv]
  ·simp only[qb9] at h
   split at h
   ·rename_i fr0 σ0 hgc
    split at h
    ·rename_i fr1 σ1 hrun
     obtain⟨m,hs⟩:=hL _ _ _ _ _ _ _ h
     refine⟨m+1,fun N K ow d c ro fl hc hN hro hfl Γ0 ds0 Γ a Q hk0 hσ hat hk=>?_⟩
     subst hσ hk0
     obtain⟨Γ',rfl,e2,hat'⟩:=qlt hat hgc
     rw[roundsIn_succ,<- e2]
     refine qbw (hid.with ow d) (hcr.with ow d) hC (hL.with ow d) hm hN hro c b hc hfl fr0 .normal fr1 σ1 Γ0 ds0 Γ' a _ hrun hat' fun Γ1 a1 ex g1 g2 g3=>?_
     simp only[qdh] at g3; subst g3
     exact hs N K ow d c ro fl hc hN hro hfl Γ0 ds0 Γ1 a1 Q rfl g1 g2 hk
    ·rename_i e1 fr1 σ1 hne hrun
     simp only[Wb,Res.out.injEq] at h
     obtain⟨rfl,rfl,rfl⟩:=h
     refine⟨1,fun N K ow d c ro fl hc hN hro hfl Γ0 ds0 Γ a Q hk0 hσ hat hk=>?_⟩
     subst hσ hk0
     obtain⟨Γ',rfl,e2,hat'⟩:=qlt hat hgc
     rw[roundsIn_succ,<- e2]
     refine qbw (hid.with ow d) (hcr.with ow d) hC (hL.with ow d) hm hN hro c b hc hfl fr0 e1 fr1 σ1 Γ0 ds0 Γ' a _ hrun hat' fun Γ1 a1 ex g1 g2 g3=>?_
     have:=hk Γ1 a1 ex g1 g2 g3
     cases e1 with
     |normal=>exact (hne rfl).elim
     |exit id=>simp only[qdh] at g3; subst g3; exact this
     |ret=>simp only[qdh] at g3; subst g3; exact this
     |pan v=>simp only[qdh] at g3; obtain⟨x,rfl,_⟩:=g3; exact this
    ·cases h
   ·cases h
end
end Go.Pm
section
namespace Go.Pm
def Le(C C':Task->Option Res):Prop := ∀ t r,C t=some r->C' t=some r
section
variable{C C':Task->Option Res}
theorem qbK(h:Le C C'){f:List V->S->Task}{args:List V}{σ : S}{r:V × S}(hr:qbL C f args σ = some r):qbL C' f args σ = some r:=by grind [qbL,Le]
theorem qdY(h:Le C C'){f:List V->S->Task}{args:List V}{σ : S}{r:V × S}(hr:qak C f args σ = some r):qak C' f args σ = some r:=by grind [qak,Le]
theorem qjl(h:Le C C'){fr:Fr}{σ : S}{op:O}{r:V × S}(hr:qbS C fr σ op=some r):qbS C' fr σ op=some r:=by
 cases op with
 |call f xs=>
  simp only[qbS] at hr ⊢
  split at hr
  ·exact qdY h hr
  ·cases hr
 |callv f xs=>
  simp only[qbS] at hr ⊢
  split at hr
  ·exact qdY h hr
  ·exact qdY h hr
  ·cases hr
 |invoke tbl x xs=>
  simp only[qbS] at hr ⊢
  split at hr
  ·grind [Le,qbS,qdY]
  ·cases hr
 |_=>exact hr
theorem qcr(h:Le C C'){fr:Fr}{σ : S}{op:O}{r:V × S}(hr:qaM C fr σ op=some r):qaM C' fr σ op=some r:=by
 cases op with
 |call f xs=>
  simp only[qaM] at hr ⊢
  split at hr
  ·exact qbK h hr
  ·cases hr
 |callv f xs=>
  simp only[qaM] at hr ⊢
  split at hr
  ·exact qbK h hr
  ·exact qbK h hr
  ·exact qbK h hr
  ·cases hr
 |invoke tbl x xs=>
  simp only[qaM] at hr ⊢
  split at hr
  ·grind [Le,qaM,qbK]
  ·cases hr
 |_=>exact hr
theorem qfn(h:Le C C') : ∀ {is:List I} {fr:Fr} {σ : S} {r:Fr × S},qeQ C is fr σ = some r->qeQ C' is fr σ = some r
 |[],_,_,_,hr=>hr
 |i::is,fr,σ,r,hr=>by
  simp only[qeQ] at hr ⊢
  split at hr
  ·rename_i hw
   split at hr
   ·rename_i v σ' hv
    simp only[qcr h hv]
    exact qfn h hr
   ·cases hr
  ·exact qfn h hr
  ·cases hr
theorem qex(h:Le C C'){f:List V->S->Task}{args:List V}{σ : S}{r:V × S}(hr:qak C f args σ = some r):qbL C' f args σ = none:=by grind [qak,qbL,Le]
theorem qgi(h:Le C C'){fr:Fr}{σ : S}{op:O}{r:V × S}(hr:qbS C fr σ op=some r):qaM C' fr σ op=none:=by
 cases op with
 |call f xs=>
  simp only[qbS] at hr
  simp only[qaM]
  split at hr
  ·exact qex h hr
  ·cases hr
 |callv f xs=>
  simp only[qbS] at hr
  simp only[qaM]
  split at hr
  ·grind [Le,qbS,qaM,qex]
  ·grind [Le,qbS,qaM,qex]
  ·cases hr
 |invoke tbl x xs=>
  simp only[qbS] at hr
  simp only[qaM]
  split at hr
  ·grind [Le,qbS,qaM,qex]
  ·cases hr
 |panic x=>rfl
 |_=>cases hr
theorem qdE(h:Le C C') : ∀ {is:List I} {fr:Fr} {σ : S} {r:V × Fr × S},qcI C is fr σ = some r->qcI C' is fr σ = some r/\qeQ C' is fr σ = none
 |[],_,_,_,hr=>by simp[qcI] at hr
 |i::is,fr,σ,r,hr=>by
  simp only[qcI,qeQ] at hr ⊢
  split at hr
  ·rename_i hw
   split at hr
   ·rename_i v σ' hv
    simp only[qcr h hv]
    exact qdE h hr
   ·grind [Le,qcI,qeQ,qgi,qjl]
  ·exact qdE h hr
  ·cases hr
theorem qc6(h:Le C C') : ∀ {is:List I} {q:Nat} {fr:Fr} {σ : S} {r:Nat × List Ev × V × S},qaI C q is fr σ = some r->qaI C' q is fr σ = some r/\qc9 C' is fr σ = none
 |[],_,_,_,_,hr=>by simp[qaI] at hr
 |i::is,q,fr,σ,r,hr=>by
  simp only[qaI,qc9] at hr ⊢
  split at hr
  ·rename_i hw
   split at hr
   ·rename_i v σ' hv
    simp only[qcr h hv]
    split at hr
    ·rename_i p l u σ'' hrest
     obtain⟨h1,h2⟩:=qc6 h hrest
     simp only[h1,h2]
     exact⟨hr,trivial⟩
    ·cases hr
   ·grind [Le,qaI,qc9,qgi,qjl]
  ·split at hr
   ·rename_i p l u σ'' hrest
    obtain⟨h1,h2⟩:=qc6 h hrest
    simp only[h1,h2]
    exact⟨hr,trivial⟩
   ·cases hr
  ·cases hr
theorem qdF(h:Le C C') : ∀ {is:List I} {fr:Fr} {σ : S} {r:List Ev × Fr × S},qc9 C is fr σ = some r->qc9 C' is fr σ = some r
 |[],_,_,_,hr=>hr
 |i::is,fr,σ,r,hr=>by
  simp only[qc9] at hr ⊢
  split at hr
  ·rename_i hw
   split at hr
   ·rename_i v σ' hv
    simp only[qcr h hv]
    split at hr
    ·rename_i l fr' σ'' hrest
     simp only[qdF h hrest]; exact hr
    ·cases hr
   ·cases hr
  ·split at hr
   ·rename_i l fr' σ'' hrest
    simp only[qdF h hrest]; exact hr
   ·cases hr
  ·cases hr
theorem qee(h:Le C C') : ∀ {is:List I} {fr:Fr} {σ : S} {r:List (Fr × S)},qbB C is fr σ = some r->qbB C' is fr σ = some r
 |[],_,_,_,hr=>hr
 |i::is,fr,σ,r,hr=>by
  simp only[qbB] at hr ⊢
  split at hr
  ·rename_i hw
   split at hr
   ·rename_i v σ' hv
    simp only[qcr h hv]
    split at hr
    ·rename_i l hrest
     simp only[qee h hrest]; exact hr
    ·cases hr
   ·cases hr
  ·split at hr
   ·rename_i l hrest
    simp only[qee h hrest]; exact hr
   ·cases hr
  ·cases hr
theorem qa6(h:Le C C'){k:Nat} : ∀ {pc:PC} {fr:Fr} {σ : S} {r:Ex × Fr × S},run C k pc fr σ = some r->run C' k pc fr σ = some r
 |.range f ps as bd,fr,σ,r,hr=>by grind [run,Le,qbK]
 |.skip,_,_,_,hr=>hr
 |.exit _,_,_,_,hr=>hr
 |.ret,_,_,_,hr=>hr
 |.region none ops keep _,fr,σ,r,hr=>by grind [run,Le,qfn,qdE]
 |.region (some rs) ops keep _,fr,σ,r,hr=>by grind [run,Le,qdF,qee,qc6]
 |.seq a b,fr,σ,r,hr=>by
  simp only[run] at hr ⊢
  split at hr
  ·rename_i fr' σ' hx; simp only[qa6 h hx]; exact qa6 h hr
  ·rename_i hne
   have:=qa6 h hr
   rw[this]
   obtain⟨e,fr',σ'⟩:=r
   cases e with
   |normal=>exact absurd hr (hne _ _)
   |exit id=>rfl
   |ret=>rfl
   |pan v=>rfl
 |.cond c a b,fr,σ,r,hr=>by
  simp only[run] at hr ⊢
  split at hr
  ·exact qa6 h hr
  ·exact qa6 h hr
  ·cases hr
 |.block id b,fr,σ,r,hr=>by
  simp only[run] at hr ⊢
  split at hr
  ·rename_i id' fr' σ' hx; simp only[qa6 h hx]; exact hr
  ·rename_i hne
   have:=qa6 h hr
   rw[this]
   obtain⟨e,fr',σ'⟩:=r
   cases e with
   |normal=>rfl
   |exit id=>exact absurd hr (hne _ _ _)
   |ret=>rfl
   |pan v=>rfl
 |.loop b,fr,σ,r,hr=>by grind [run,Le]
theorem qey(h:Le C C'){args:List V}{σ : S}{r:Res}(hr:qby C args σ = some r):qby C' args σ = some r:=by
 unfold qby at hr ⊢
 split at hr
 ·split at hr
  ·split at hr
   ·rename_i hlp hc
    simp only[if_pos hc]
    split at hr
    ·rename_i fr1 σ1 hx
     simp only[qa6 h hx]
     split at hr
     ·split at hr
      ·rename_i hlp1 hst
       simp only[hlp1,if_pos hst]
       split at hr
       ·cases hr
       ·rename_i e fr2 σ2 hnp hy
        simp only[qa6 h hy]
        cases e with
        |pan v=>exact (hnp _ rfl).elim
        |normal=>exact hr
        |exit id=>exact hr
        |ret=>exact hr
       ·cases hr
      ·cases hr
     ·cases hr
    ·cases hr
   ·cases hr
  ·cases hr
 ·cases hr
theorem qcs(h:Le C C') : ∀ {l:List V} {σ : S} {r:S},qbu C l σ = some r->qbu C' l σ = some r
 |[],σ,r,hr=>hr
 |v::l,σ,r,hr=>by
  unfold qbu at hr ⊢
  split at hr
  ·rename_i e; cases e
  ·rename_i id a r' e
   cases e
   split at hr
   ·rename_i v' σ' hc
    simp only[qbK h hc]
    exact qcs h hr
   ·cases hr
  ·cases hr
theorem qjm(h:Le C C'){pf:PFun}{k:Nat}{fr:Fr}{σ : S}{r:Res}(hr:qgq C pf k fr σ = some r):qgq C' pf k fr σ = some r:=by grind [qgq,Le,qcs]
theorem qif(h:Le C C'){pf:PFun}{k:Nat}{v:V}{fr:Fr}{σ : S}{r:Res}(hr:qfP C pf k v fr σ = some r):qfP C' pf k v fr σ = some r:=by
 unfold qfP at hr ⊢
 split at hr
 ·exact hr
 ·grind [Le,qfP,qbK,qcs]
 ·cases hr
theorem qgj(h:Le C C'){pf:PFun}{args:List V}{σ : S}{r:Res}(hr:qb5 C pf args σ = some r):qb5 C' pf args σ = some r:=by grind [qgq,qdl,qb5,Le,qjm,qa6,qif]
theorem qfN(h:Le C C'){pf:PFun}{args:List V}{σ : S}{r:Res}(hr:qa0 C pf args σ = some r):qa0 C' pf args σ = some r:=by
 unfold qa0 at hr ⊢
 split at hr
 ·grind [Le,qa0,qa6]
 ·cases hr
end
variable{prog:Nat->Option PFun}
theorem qla : ∀ n,Le (qb9 prog n) (qb9 prog (n+1))
 |0=>fun t r h=>by simp[qb9] at h
 |n+1=>fun t r h=>by
  have ih:=qla n
  cases t with
  |call f args σ=>
   simp only[qb9] at h ⊢
   split at h
   ·grind [Le,qb9,qgj]
   ·cases h
  |dcall f args σ=>
   simp only[qb9] at h ⊢
   split at h
   ·exact qfN ih h
   ·cases h
  |round args σ=>
   simp only[qb9] at h ⊢
   exact qey ih h
  |loop k b fr σ=>
   simp only[qb9] at h ⊢
   split at h
   ·grind [Le,qb9,qa6]
   ·cases h
theorem qa2{m n:Nat}(h:m<=n):Le (qb9 prog m) (qb9 prog n):=by
 induction n with
 | zero => have:m=0:=by omega
           subst this; exact fun _ _ h=>h
 |succ n ih=>
  rcases Yc n m with h'|h'
  ·grind [Le,qb9]
  ·exact fun t r ht=>qla n t r (ih h' t r ht)
open Classical in
noncomputable def Z(prog:Nat->Option PFun)(t:Task):Option Res:=if h : ∃ n r,qb9 prog n t=some r then qb9 prog (Classical.choose h) t else none
theorem Z_iff{t:Task}{r:Res}:Z prog t=some r ↔ ∃ n,qb9 prog n t=some r:=by
 classical
 unfold Z
 constructor
 ·intro h
  split at h
  ·exact⟨_,h⟩
  ·cases h
 ·rintro ⟨n,hn⟩
  have hex : ∃ n r,qb9 prog n t=some r:=⟨n,r,hn⟩
  rw[dif_pos hex]
  obtain⟨r',hr'⟩:=Classical.choose_spec hex
  have h1:=qa2 (prog:=prog) (WF n (Classical.choose hex)) t r hn
  have h2:=qa2 (prog:=prog) (WC n (Classical.choose hex)) t r' hr'
  rw[h1] at h2
  rw[hr',h2]
theorem qmh{n:Nat}{t:Task}{r:Res}(h:qb9 prog n t=some r):Z prog t=some r:=Z_iff.2 ⟨n,h⟩
theorem qc7{f:List V->S->Task}{args:List V}{σ : S}{r:V × S}(hr:qbL (Z prog) f args σ = some r) : ∃ n,qbL (qb9 prog n) f args σ = some r:=by
 unfold qbL at hr ⊢
 simp only at hr ⊢
 split at hr
 ·split at hr
  ·cases hr
  ·rename_i v s' hnp hc
   obtain⟨n,hn⟩:=Z_iff.1 hc
   exact⟨n,by simp only[hn]; exact hr⟩
  ·cases hr
 ·cases hr
theorem qfo{f:List V->S->Task}{args:List V}{σ : S}{r:V × S}(hr:qak (Z prog) f args σ = some r) : ∃ n,qak (qb9 prog n) f args σ = some r:=by
 unfold qak at hr ⊢
 simp only at hr ⊢
 split at hr
 ·split at hr
  ·rename_i v s' hc
   obtain⟨n,hn⟩:=Z_iff.1 hc
   exact⟨n,by simp only[hn]; exact hr⟩
  ·cases hr
 ·cases hr
theorem qnc{fr:Fr}{σ : S}{op:O}{r:V × S}(hr:qbS (Z prog) fr σ op=some r) : ∃ n,qbS (qb9 prog n) fr σ op=some r:=by
 cases op with
 |call f xs=>
  simp only[qbS] at hr ⊢
  split at hr
  ·exact qfo hr
  ·cases hr
 |callv f xs=>
  simp only[qbS] at hr ⊢
  split at hr
  ·exact qfo hr
  ·exact qfo hr
  ·cases hr
 |invoke tbl x xs=>
  simp only[qbS] at hr ⊢
  split at hr
  ·split at hr
   ·exact qfo hr
   ·cases hr
  ·cases hr
 |_=>exact⟨0,hr⟩
theorem qig{fr:Fr}{σ : S}{op:O}{r:V × S}(hr:qaM (Z prog) fr σ op=some r) : ∃ n,qaM (qb9 prog n) fr σ op=some r:=by
 cases op with
 |call f xs=>
  simp only[qaM] at hr ⊢
  split at hr
  ·exact qc7 hr
  ·cases hr
 |callv f xs=>
  simp only[qaM] at hr ⊢
  split at hr
  ·exact qc7 hr
  ·exact qc7 hr
  ·exact qc7 hr
  ·cases hr
 |invoke tbl x xs=>
  simp only[qaM] at hr ⊢
  split at hr
  ·split at hr
   ·exact qc7 hr
   ·cases hr
  ·cases hr
 |_=>exact⟨0,hr⟩
theorem qka : ∀ {is:List I} {fr:Fr} {σ : S} {r:Fr × S},qeQ (Z prog) is fr σ = some r -> ∃ n,qeQ (qb9 prog n) is fr σ = some r
 |[],_,_,_,hr=>⟨0,hr⟩
 |i::is,fr,σ,r,hr=>by
  simp only[qeQ] at hr ⊢
  split at hr
  ·rename_i hw
   split at hr
   ·rename_i v σ' hv
    obtain⟨n,hn⟩:=qig hv
    obtain⟨m,hm⟩:=qka hr
    refine⟨max n m,?_⟩
    simp only[qcr (qa2 (WF n m)) hn]
    exact qfn (qa2 (WC n m)) hm
   ·cases hr
  ·exact qka hr
  ·cases hr
theorem qih : ∀ {is:List I} {fr:Fr} {σ : S} {r:List Ev × Fr × S},qc9 (Z prog) is fr σ = some r -> ∃ n,qc9 (qb9 prog n) is fr σ = some r
 |[],_,_,_,hr=>⟨0,hr⟩
 |i::is,fr,σ,r,hr=>by
  simp only[qc9] at hr ⊢
  split at hr
  ·rename_i hw
   split at hr
   ·rename_i v σ' hv
    obtain⟨n,hn⟩:=qig hv
    split at hr
    ·rename_i l fr' σ'' hrest
     obtain⟨m,hm⟩:=qih hrest
     refine⟨max n m,?_⟩
     simp only[qcr (qa2 (WF n m)) hn,qdF (qa2 (WC n m)) hm]
     exact hr
    ·cases hr
   ·cases hr
  ·split at hr
   ·rename_i l fr' σ'' hrest
    obtain⟨m,hm⟩:=qih hrest
    exact⟨m,by simp only[hm]; exact hr⟩
   ·cases hr
  ·cases hr
theorem qkb : ∀ {is:List I} {fr:Fr} {σ : S} {r:List (Fr × S)},qbB (Z prog) is fr σ = some r -> ∃ n,qbB (qb9 prog n) is fr σ = some r
 |[],_,_,_,hr=>⟨0,hr⟩
 |i::is,fr,σ,r,hr=>by
  simp only[qbB] at hr ⊢
  split at hr
  ·rename_i hw
   split at hr
   ·rename_i v σ' hv
    obtain⟨n,hn⟩:=qig hv
    split at hr
    ·rename_i l hrest
     obtain⟨m,hm⟩:=qkb hrest
     refine⟨max n m,?_⟩
     simp only[qcr (qa2 (WF n m)) hn,qee (qa2 (WC n m)) hm]
     exact hr
    ·cases hr
   ·cases hr
  ·split at hr
   ·rename_i l hrest
    obtain⟨m,hm⟩:=qkb hrest
    exact⟨m,by simp only[hm]; exact hr⟩
   ·cases hr
  ·cases hr
theorem qii : ∀ {is:List I} {fr:Fr} {σ : S} {r:V × Fr × S},qcI (Z prog) is fr σ = some r -> ∃ n,qcI (qb9 prog n) is fr σ = some r
 |[],_,_,_,hr=>by simp[qcI] at hr
 |i::is,fr,σ,r,hr=>by
  simp only[qcI] at hr ⊢
  split at hr
  ·rename_i hw
   split at hr
   ·rename_i v σ' hv
    obtain⟨n,hn⟩:=qig hv
    obtain⟨m,hm⟩:=qii hr
    refine⟨max n m,?_⟩
    simp only[qcr (qa2 (WF n m)) hn]
    exact (qdE (qa2 (WC n m)) hm).1
   ·split at hr
    ·rename_i v σ' hv
     obtain⟨n,hn⟩:=qnc hv
     exact⟨n,by simp only[qgi (fun _ _ h=>h) hn,hn]; exact hr⟩
    ·cases hr
  ·exact qii hr
  ·cases hr
theorem qgQ : ∀ {is:List I} {q:Nat} {fr:Fr} {σ : S} {r:Nat × List Ev × V × S},qaI (Z prog) q is fr σ = some r -> ∃ n,qaI (qb9 prog n) q is fr σ = some r
 |[],_,_,_,_,hr=>by simp[qaI] at hr
 |i::is,q,fr,σ,r,hr=>by
  simp only[qaI] at hr ⊢
  split at hr
  ·rename_i hw
   split at hr
   ·rename_i v σ' hv
    obtain⟨n,hn⟩:=qig hv
    split at hr
    ·rename_i p l u σ'' hrest
     obtain⟨m,hm⟩:=qgQ hrest
     refine⟨max n m,?_⟩
     simp only[qcr (qa2 (WF n m)) hn,(qc6 (qa2 (WC n m)) hm).1]
     exact hr
    ·cases hr
   ·split at hr
    ·rename_i v σ' hv
     obtain⟨n,hn⟩:=qnc hv
     exact⟨n,by simp only[qgi (fun _ _ h=>h) hn,hn]; exact hr⟩
    ·cases hr
  ·split at hr
   ·rename_i p l u σ'' hrest
    obtain⟨m,hm⟩:=qgQ hrest
    exact⟨m,by simp only[hm]; exact hr⟩
   ·cases hr
  ·cases hr
theorem qdG{k:Nat} : ∀ {pc:PC} {fr:Fr} {σ : S} {r:Ex × Fr × S},run (Z prog) k pc fr σ = some r -> ∃ n,run (qb9 prog n) k pc fr σ = some r
 |.range f ps as bd,fr,σ,r,hr=>by grind [run,Z,qb9,qc7]
 |.skip,_,_,_,hr=>⟨0,hr⟩
 |.exit _,_,_,_,hr=>⟨0,hr⟩
 |.ret,_,_,_,hr=>⟨0,hr⟩
 |.region none ops keep _,fr,σ,r,hr=>by
  simp only[run] at hr ⊢
  split at hr
  ·grind [run,Z,qb9,qka]
  ·split at hr
   ·rename_i v fr' σ' hx
    obtain⟨n,hn⟩:=qii hx
    exact⟨n,by simp only[hn,(qdE (fun _ _ h=>h) hn).2]; exact hr⟩
   ·cases hr
 |.region (some rs) ops keep _,fr,σ,r,hr=>by
  simp only[run] at hr ⊢
  split at hr
  ·rename_i es fr' σ' hx
   obtain⟨n,hn⟩:=qih hx
   split at hr
   ·grind
   ·rename_i hc
    split at hr
    ·rename_i ss ht
     obtain⟨m,hm⟩:=qkb ht
     refine⟨max n m,?_⟩
     simp only[qdF (qa2 (WF n m)) hn,qee (qa2 (WC n m)) hm]
     rw[if_neg hc]; exact hr
    ·cases hr
  ·split at hr
   ·rename_i p es v σ' hx
    obtain⟨n,hn⟩:=qgQ hx
    exact⟨n,by simp only[hn,(qc6 (fun _ _ h=>h) hn).2]; exact hr⟩
   ·cases hr
 |.seq a b,fr,σ,r,hr=>by
  simp only[run] at hr ⊢
  split at hr
  ·rename_i fr' σ' hx
   obtain⟨n,hn⟩:=qdG hx
   obtain⟨m,hm⟩:=qdG hr
   refine⟨max n m,?_⟩
   simp only[qa6 (qa2 (WF n m)) hn]
   exact qa6 (qa2 (WC n m)) hm
  ·rename_i hne
   obtain⟨n,hn⟩:=qdG hr
   refine⟨n,?_⟩
   rw[hn]
   obtain⟨e,fr',σ'⟩:=r
   cases e with
   |normal=>exact absurd hr (hne _ _)
   |exit id=>rfl
   |ret=>rfl
   |pan v=>rfl
 |.cond c a b,fr,σ,r,hr=>by
  simp only[run] at hr ⊢
  split at hr
  ·exact qdG hr
  ·exact qdG hr
  ·cases hr
 |.block id b,fr,σ,r,hr=>by
  simp only[run] at hr ⊢
  split at hr
  ·rename_i id' fr' σ' hx
   obtain⟨n,hn⟩:=qdG hx
   exact⟨n,by simp only[hn]; exact hr⟩
  ·rename_i hne
   obtain⟨n,hn⟩:=qdG hr
   refine⟨n,?_⟩
   rw[hn]
   obtain⟨e,fr',σ'⟩:=r
   cases e with
   |normal=>rfl
   |exit id=>exact absurd hr (hne _ _ _)
   |ret=>rfl
   |pan v=>rfl
 |.loop b,fr,σ,r,hr=>by
  simp only[run] at hr ⊢
  split at hr
  ·rename_i e fr' σ' hx
   obtain⟨n,hn⟩:=Z_iff.1 hx
   exact⟨n,by simp only[hn]; exact hr⟩
  ·cases hr
theorem qeY : ∀ {l:List V} {σ : S} {r:S},qbu (Z prog) l σ = some r -> ∃ n,qbu (qb9 prog n) l σ = some r
 |[],σ,r,hr=>⟨0,hr⟩
 |v::l,σ,r,hr=>by
  unfold qbu at hr ⊢
  split at hr
  ·rename_i e; cases e
  ·rename_i id a r' e
   cases e
   split at hr
   ·rename_i v' σ' hc
    obtain⟨n,hn⟩:=qc7 hc
    obtain⟨m,hm⟩:=qeY hr
    refine⟨max n m,?_⟩
    simp only[qbK (qa2 (WF n m)) hn]
    exact qcs (qa2 (WC n m)) hm
   ·cases hr
  ·cases hr
theorem qnd{pf:PFun}{k:Nat}{fr:Fr}{σ : S}{r:Res}(hr:(if pf.df then qgq (Z prog) pf k fr σ else qdl pf k fr σ)=some r) : ∃ n,(if pf.df then qgq (qb9 prog n) pf k fr σ else qdl pf k fr σ)=some r:=by
 split at hr
 ·grind [qgq,Z,qdl,qb9,qeY]
 ·rename_i hd
  simp only[if_neg hd]
  exact⟨0,hr⟩
theorem qpC{pf:PFun}{k:Nat}{v:V}{fr:Fr}{σ : S}{r:Res}(hr:qfP (Z prog) pf k v fr σ = some r) : ∃ n,qfP (qb9 prog n) pf k v fr σ = some r:=by
 unfold qfP at hr ⊢
 split at hr
 ·exact⟨0,hr⟩
 ·split at hr
  ·cases hr
  ·rename_i hn
   simp only[if_neg hn]
   split at hr
   ·rename_i v' σ' hc
    obtain⟨n,hn⟩:=qc7 hc
    split at hr
    ·rename_i σ'' hx
     obtain⟨m,hm⟩:=qeY hx
     refine⟨max n m,?_⟩
     simp only[qbK (qa2 (WF n m)) hn,qcs (qa2 (WC n m)) hm]
     exact hr
    ·cases hr
   ·cases hr
 ·cases hr
theorem qmn{pf:PFun}{args:List V}{σ : S}{r:Res}(h:qb5 (Z prog) pf args σ = some r) : ∃ n,qb5 (qb9 prog n) pf args σ = some r:=by
 have lv : ∀ {n m k fr σ},(if pf.df then qgq (qb9 prog m) pf k fr σ else qdl pf k fr σ)=some r->m<=n->(if pf.df then qgq (qb9 prog n) pf k fr σ else qdl pf k fr σ)=some r:=fun hr hle=>by
  split at hr
  ·rename_i hd; rw[if_pos hd]; exact qjm (qa2 hle) hr
  ·rename_i hd; rw[if_neg hd]; exact hr
 unfold qb5 at h ⊢
 split at h
 ·rename_i hl
  simp only[if_pos hl]
  split at h
  ·rename_i fr σ' hx
   obtain⟨n,hn⟩:=qdG hx
   obtain⟨m,hm⟩:=qnd h
   refine⟨max n m,?_⟩
   simp only[qa6 (qa2 (WF n m)) hn]
   exact lv hm (WC n m)
  ·rename_i fr σ' hx
   obtain⟨n,hn⟩:=qdG hx
   obtain⟨m,hm⟩:=qnd h
   refine⟨max n m,?_⟩
   simp only[qa6 (qa2 (WF n m)) hn]
   exact lv hm (WC n m)
  ·rename_i v fr σ' hx
   obtain⟨n,hn⟩:=qdG hx
   obtain⟨m,hm⟩:=qpC h
   refine⟨max n m,?_⟩
   simp only[qa6 (qa2 (WF n m)) hn]
   exact qif (qa2 (WC n m)) hm
  ·cases h
 ·cases h
theorem qab{f:Nat}{pf:PFun}{args:List V}{σ : S}{r:Res}(hf:prog f=some pf)(hc:pf.catches=false)(h:qb5 (Z prog) pf args σ = some r):Z prog (.call f args σ)=some r:=by
 obtain⟨n,hn⟩:=qmn h
 exact qmh (n:=n+1) (by simp only[qb9,hf,hc,Wo,if_false,hn])
theorem qmo{f:Nat}{pf:PFun}{args:List V}{σ : S}{r:Res}(hf:prog f=some pf)(h:qa0 (Z prog) pf args σ = some r):Z prog (.dcall f args σ)=some r:=by
 have : ∃ n,qa0 (qb9 prog n) pf args σ = some r:=by
  unfold qa0 at h ⊢
  split at h
  ·grind [qa0,Z,qdG]
  ·cases h
 obtain⟨n,hn⟩:=this
 exact qmh (n:=n+1) (by simp only[qb9,hf,hn])
theorem qmp{k:Nat}{b:PC}{fr fr0 fr':Fr}{σ σ0 σ':S}{r:Res}(hg:gcF k fr σ = some (fr0,σ0))(h:run (Z prog) k b fr0 σ0=some (.normal,fr',σ'))(hr:Z prog (.loop k b fr' σ')=some r):Z prog (.loop k b fr σ)=some r:=by
 obtain⟨n,hn⟩:=qdG h
 obtain⟨m,hm⟩:=Z_iff.1 hr
 refine qmh (n:=max n m+1) ?_
 simp only[qb9,hg,qa6 (qa2 (WF n m)) hn]
 exact qa2 (WC n m) _ _ hm
theorem qot{k:Nat}{b:PC}{fr fr0 fr':Fr}{σ σ0 σ':S}{e:Ex}(he:e ≠ .normal)(hg:gcF k fr σ = some (fr0,σ0))(h:run (Z prog) k b fr0 σ0=some (e,fr',σ')):Z prog (.loop k b fr σ)=some (.out e fr' σ'):=by
 obtain⟨n,hn⟩:=qdG h
 refine qmh (n:=n+1) ?_
 simp only[qb9,hg,hn]
 all_goals (cases e with
  |normal=>exact absurd rfl he
  |exit id=>rfl
  |ret=>rfl
  |pan v=>rfl)
theorem quG{args:List V}{σ : S}{r:Res}(h:qby (Z prog) args σ = some r):Z prog (.round args σ)=some r:=by
 have : ∃ n,qby (qb9 prog n) args σ = some r:=by
  unfold qby at h ⊢
  split at h
  ·split at h
   ·split at h
    ·rename_i hlp hc
     simp only[if_pos hc]
     split at h
     ·rename_i fr1 σ1 hx
      obtain⟨n,hn⟩:=qdG hx
      split at h
      ·split at h
       ·rename_i hlp1 hst
        split at h
        ·cases h
        ·rename_i e fr2 σ2 hnp hy
         obtain⟨m,hm⟩:=qdG hy
         refine⟨max n m,?_⟩
         simp only[qa6 (qa2 (WF n m)) hn,hlp1,if_pos hst,qa6 (qa2 (WC n m)) hm]
         cases e with
         |pan v=>exact (hnp _ rfl).elim
         |normal=>exact h
         |exit id=>exact h
         |ret=>exact h
        ·cases h
       ·cases h
      ·cases h
     ·cases h
    ·cases h
   ·cases h
  ·cases h
 obtain⟨n,hn⟩:=this
 exact qmh (n:=n+1) (by simp only[qb9,hn])
variable{P:Program}{ids:Ids}{fid:Fid}
def qpD(w:World):Nat->Nat:=fun b=>match w.heap[b]? with
 |some (.cells arr _ _)=>arr.size
 |_=>0
def start(w:World):Ctx:=⟨[],fun _=>none,qpD w,w⟩
def GlbAt(fid:Fid)(w:World):Prop := ∀ g cs,fid.gl g=some cs -> ∃ vs,RepDs (qpD w) w cs vs/\Row (qpD w) w g 0 vs
theorem qou{w:World}(hg:GlbAt fid w):Real fid (start w):=by
 refine⟨fun l ob b h=>by simp[start] at h,fun l b h=>by simp[start] at h,fun l l' b h=>by simp[start] at h,fun b hb=>?_,hg⟩
 simp only[start,qpD] at hb ⊢
 cases h:w.heap[b]? with
 |none=>rw[h] at hb; simp at hb
 |some o=>
  rw[h] at hb
  cases o<;>simp only at hb<;>first | (exact absurd hb (W4 _)) | exact⟨_,_,_,rfl,Wp _⟩
theorem calls_of_Z (hid:Ties P ids fid) (hcr:Codes P ids fid) (hm:P.follows .mixedOrders=true) (ht:Tied P ids fid prog) {f:Nat} {args:List V} {xs:List Value} {d:Value} {σ':S} {w:World} (h:Z prog (.call f args [])=some (.ret (.dat (.lit d)) σ')) (hg:GlbAt fid w)
  (ha:Reps fid (start w) args xs):Calls P (fid f) xs.toArray w fun e w'=>e = .returned d/\w'.os=w.os/\w'.tape=w.tape/\w'.output=w.output/\w.heap.size<=w'.heap.size /\ ∀ k,k<w.heap.size->w'.heap[k]?=w.heap[k]?:=by
 obtain⟨n,hn⟩:=Z_iff.1 h
 obtain⟨_,hs⟩:=(qjw hid hcr hm ht n).1.call _ _ _ _ _ hn
 refine (callsIn_wide.1 (hs (start w) xs rfl (qou hg) ha)).mono ?_
 rintro e w' ⟨Γ',rfl,_,_,h3,hout⟩
 rcases hout with ⟨x,rfl,h4⟩|⟨u,x,hu,_⟩
 rotate_left
 ·cases hu
 refine⟨by rw[(qaB h4).1],h3.ext.os,h3.ext.tape,h3.ext.output,h3.ext.size,fun k hk=>(h3.frm.same k hk fun l h=>by simp[start] at h).1⟩
end Go.Pm
namespace Go.Pm
variable{prog:Nat->Option PFun}
theorem qpE{α : Type}{a b:Option α}(h : ∀ r,a=some r->b=some r)(k : ∀ r,b=some r->a=some r):a=b:=by
 cases a with
 |some r=>exact (h r rfl).symm
 |none=>cases b with
  |none=>rfl
  |some r=>exact k r rfl
theorem qtT{n:Nat}:Le (qb9 prog n) (Z prog):=fun _ _ h=>qmh h
def qac(C:Task->Option Res)(k:Nat)(b:PC):Option (Fr × S)->Option Res
 |some (fr0,σ0)=>match run C k b fr0 σ0 with
  |some (.normal,fr',σ')=>C (.loop k b fr' σ')
  |some (e,fr',σ')=>some (.out e fr' σ')
  |none=>none
 |none=>none
theorem qaa(k:Nat)(b:PC)(fr:Fr)(σ : S):Z prog (.loop k b fr σ)=qac (Z prog) k b (gcF k fr σ):=by
 refine qpE (fun r h=>?_) (fun r h=>?_)
 ·obtain⟨n,hn⟩:=Z_iff.1 h
  cases n with
  |zero=>simp[qb9] at hn
  |succ n=>
   simp only[qb9] at hn
   split at hn
   ·grind [qac,Z,gcF,qa6,qtT,qmh]
   ·cases hn
 ·grind [qac,Z,gcF,qmp,qot]
theorem qcN(args:List V)(σ : S):Z prog (.round args σ)=qby (Z prog) args σ:=by
 refine qpE (fun r h=>?_) (fun r h=>quG h)
 obtain⟨n,hn⟩:=Z_iff.1 h
 cases n with
 |zero=>simp[qb9] at hn
 |succ n=>
  simp only[qb9] at hn
  exact qey qtT hn
theorem qne{prog prog':Nat->Option PFun}(hs : ∀ f pf,prog f=some pf->prog' f=some pf) : ∀ n,Le (qb9 prog n) (qb9 prog' n)
 |0=>fun t r h=>by simp[qb9] at h
 |n+1=>fun t r h=>by
  have ih:=qne hs n
  cases t with
  |call f args σ=>
   simp only[qb9] at h ⊢
   split at h
   ·grind [Le,qb9,qgj]
   ·cases h
  |dcall f args σ=>
   simp only[qb9] at h ⊢
   split at h
   ·grind [Le,qb9,qfN]
   ·cases h
  |round args σ=>
   simp only[qb9] at h ⊢
   exact qey ih h
  |loop k b fr σ=>
   simp only[qb9] at h ⊢
   split at h
   ·grind [Le,qb9,qa6]
   ·cases h
theorem qhJ{prog prog':Nat->Option PFun}(hs : ∀ f pf,prog f=some pf->prog' f=some pf){t:Task}{r:Res}(h:Z prog t=some r):Z prog' t=some r:=by
 obtain⟨n,hn⟩:=Z_iff.1 h
 exact qmh (qne hs n _ _ hn)
end Go.Pm
end
namespace Go.Pm
section
attribute [simp] qx8 qzZ qoL qeU qpw qpR qpS qjb outV qnn qrO qej finishV Ob.rows qx9 qya appendO qkr V.isStr qoK qgp qgq qfP qbu Fr.defs qbS qcI qgo undef qb5 qbC run qeQ qc9 qaM qaW X.ev evs qdH qfZ Fr.get Fr.put Fr.keep qir unV qsa qdl qtZ qoI qjz V.sealT V.sealv qbE qjA reach qaG V.locs qlu inL closed qdV V.ren one
 gcL gcF qcH qmy Ob.locs Ob.ren qhL qr9 idx back qaH qbL qch qbx qbN qaF qdz qdI qgV qis qc8 storeV qcS qxz Value.oneCell' qbD V.aggCells qd5 qeP
@[simp] theorem qAI(v:Value):V.one (.dat (.lit v))=v.oneCell':=rfl
@[simp] theorem qxV(v:Value):V.cells (.dat (.lit v))=[(.dat (.lit v))]:=rfl
@[simp] theorem qBN(cs:List D)(n:Nat)(f:Bool):V.one (.dat (.sl cs n f))=true:=rfl
@[simp] theorem qzO(cs:List D)(n:Nat)(f:Bool):V.cells (.dat (.sl cs n f))=[(.dat (.sl cs n f))]:=rfl
@[simp] theorem qAJ(cs:List D)(o:Nat):V.one (.dat (.imm cs o))=true:=rfl
@[simp] theorem qxW(cs:List D)(o:Nat):V.cells (.dat (.imm cs o))=[(.dat (.imm cs o))]:=rfl
@[simp] theorem qzP(cs:List D):V.one (.dat (.agg cs))=false:=rfl
@[simp] theorem qxu(cs:List D):V.cells (.dat (.agg cs))=cs.map .dat:=rfl
@[simp] theorem qxv(t:Nat)(d:D):V.one (.dat (.iface t d))=true:=rfl
@[simp] theorem qtW(t:Nat)(d:D):V.cells (.dat (.iface t d))=[(.dat (.iface t d))]:=rfl
@[simp] theorem qAK(l o:Nat):V.one (.ptr l o)=true:=rfl
@[simp] theorem qxX(l o:Nat):V.cells (.ptr l o)=[(.ptr l o)]:=rfl
@[simp] theorem qAL(cs:List D)(n sz l:Nat):V.one (.gsl cs n sz l)=true:=rfl
@[simp] theorem qxY(cs:List D)(n sz l:Nat):V.cells (.gsl cs n sz l)=[(.gsl cs n sz l)]:=rfl
@[simp] theorem qAM(l o n cap sz:Nat):V.one (.msl l o n cap sz)=true:=rfl
@[simp] theorem qxZ(l o n cap sz:Nat):V.cells (.msl l o n cap sz)=[(.msl l o n cap sz)]:=rfl
@[simp] theorem qAN(l n sz:Nat):V.one (.own l n sz)=true:=rfl
@[simp] theorem qx0(l n sz:Nat):V.cells (.own l n sz)=[(.own l n sz)]:=rfl
@[simp] theorem qzQ(l n o:Nat):V.one (.eptr l n o)=true:=rfl
@[simp] theorem qxw(l n o:Nat):V.cells (.eptr l n o)=[(.eptr l n o)]:=rfl
@[simp] theorem qBO(g:Nat)(v:V):V.one (.bm g v)=true:=rfl
@[simp] theorem qzR(g:Nat)(v:V):V.cells (.bm g v)=[(.bm g v)]:=rfl
@[simp] theorem qAO(cs:List V):V.one (.agg cs)=false:=rfl
@[simp] theorem qx1(cs:List V):V.cells (.agg cs)=cs:=rfl
@[simp] theorem qBP(f:Nat)(a b:List V):V.one (.fn f a b)=true:=rfl
@[simp] theorem qzS(f:Nat)(a b:List V):V.cells (.fn f a b)=[(.fn f a b)]:=rfl
@[simp] theorem qBQ(l:Nat):V.one (.mp l)=true:=rfl
@[simp] theorem qzT(l:Nat):V.cells (.mp l)=[(.mp l)]:=rfl
@[simp] theorem qx2(t:Nat)(v:V):V.one (.iface t v)=true:=rfl
@[simp] theorem quV(t:Nat)(v:V):V.cells (.iface t v)=[(.iface t v)]:=rfl
@[simp] theorem qAP(vs:List V):V.one (.tup vs)=false:=rfl
@[simp] theorem qx3(vs:List V):V.cells (.tup vs)=[(.tup vs)]:=rfl
@[simp] theorem qAQ(l:Nat):V.one (.yld l)=true:=rfl
@[simp] theorem qx4(l:Nat):V.cells (.yld l)=[(.yld l)]:=rfl
@[simp] theorem qzU{α : Type}(cs:List α):qaj cs 0 0=some []:=by simp[qaj]
@[simp] theorem qzV{α : Type}(c : α)(cs:List α)(n:Nat):qaj (c::cs) 0 (n+1)=(qaj cs 0 n).map (c :: ·):=by grind [qaj]
@[simp] theorem qzW{α : Type}(c : α)(cs:List α)(o n:Nat):qaj (c::cs) (o+1) n=qaj cs o n:=by
 simp only[qaj,Yu]
@[simp] theorem qAR(a b:Int):eqI a b=decide (a=b):=rfl
abbrev I64(n:Int):Prop := -9223372036854775808<=n/\n<=9223372036854775807
theorem qai(n:Int)(h : -9223372036854775808<=n/\n<=9223372036854775807):IntKind.i64.wrap n=n:=by rw[IntKind.wrap_i64]; omega
def intsC(xs:List Int):List D:=xs.map fun x => .lit (.int .i64 x)
def qeA:List Int->D
 |[] => .lit (.slice none 0 0)
 |x::xs => .sl (intsC (x::xs)) (x::xs).length false
@[simp] theorem qx5(σ : S)(xs:List Int):V.len σ .sl (.dat (qeA xs))=some xs.length:=by
 cases xs<;>simp[qeA,V.len]
@[simp] theorem qx6(xs:List Int):V.one (.dat (qeA xs))=true:=by cases xs<;>rfl
@[simp] theorem quW(xs:List Int):V.cells (.dat (qeA xs))=[.dat (qeA xs)]:=by cases xs<;>rfl
theorem qim(xs:List Int)(i:Nat)(h:i<xs.length):qaj (intsC xs) i 1=some [.lit (.int .i64 xs[i])]:=by
 unfold qaj intsC
 rw[Wy (by simpa using h)]
 simp
end
section
def RowV(v:D)(xs:List Int):Prop:=
 (∃ o,v = .lit (.slice o 0 0)/\xs=[])\/v = .sl (intsC xs) xs.length false
theorem RowV.one{v:D}{xs:List Int}(h:RowV v xs):V.one (.dat v)=true:=by rcases h with ⟨o,rfl,rfl⟩|rfl<;>rfl
theorem RowV.cells{v:D}{xs:List Int}(h:RowV v xs):V.cells (.dat v)=[.dat v]:=by rcases h with ⟨o,rfl,rfl⟩|rfl<;>rfl
theorem qlJ(F:Nat->Nat)(w:World) : ∀ xs:List Int,RepDs F w (intsC xs) (xs.map (.int .i64))
 |[]=>rfl
 |x::xs=>⟨_,_,rfl,⟨rfl,rfl⟩,qlJ F w xs⟩
theorem row_rep (fid:Fid) {w:World} {a:Option Addr} {len cap:Nat} {zs:List Int}
  (h:(a=none/\len=0/\cap=0/\zs=[]) \/ ∃ x,a=some x/\len<=cap/\cap<=maxLen/\zs.length=cap/\(∀ i,i<zs.length->w.cell? (x.add i)=some (.int .i64 (zs.getD i 0))) /\ ∀ n∈zs,(Lit.int .i64 n).wf=true) :
  ∃ d,RowV d (zs.take len)/\(∀ x∈zs.take len,I64 x)/\Rep fid (start w) (.dat d) (.slice a len cap):=by
 rcases h with ⟨rfl,rfl,rfl,rfl⟩|⟨x,rfl,h1,h2,h3,h4,h5⟩
 ·exact⟨.lit (.slice none 0 0),.inl ⟨_,rfl,rfl⟩,by simp,rfl,rfl⟩
 by_cases hc:cap=0
 ·subst hc
  have:len=0:=by omega
  subst this
  exact⟨.lit (.slice (some x) 0 0),.inl ⟨_,rfl,by simp⟩,by simp,rfl,rfl⟩
 have hl:(zs.take len).length=len:=by rw[WS]; omega
 have hs:x.spot=none:=World.cell?_spot (v := .int .i64 (zs.getD 0 0)) (by simpa [Addr.add] using h4 0 (by omega))
 obtain⟨b,o,sp⟩:=x
 simp only at hs
 subst hs
 have hcell : ∀ i,i<zs.length->w.cell? ⟨b,o+i,none⟩=some (.int .i64 (zs.getD i 0)):=fun i hi=>by
  have:=h4 i hi
  by_cases h0:i=0
  ·subst h0; simpa [Addr.add] using this
  ·simpa [Addr.add,h0] using this
 refine⟨.sl (intsC (zs.take len)) len false,.inr (by rw[hl]),fun n hn=>?_,b,o,cap,(zs.take len).map (.int .i64),rfl,h1,by simp,qlJ _ _ _,?_,?_,?_⟩
 ·have:=h5 n (Yi hn)
  simp only[Lit.wf,Wv,decide_eq_true_eq] at this
  have e1:IntKind.i64.min = -9223372036854775808:=by decide
  have e2:IntKind.i64.max=9223372036854775807:=by decide
  unfold I64
  omega
 ·intro i v hv
  rw[Ys,WY] at hv
  split at hv
  ·rename_i hi
   rw[WM (by omega)] at hv
   simp only[Yl,Wb] at hv
   subst hv
   rw[show (start w).w=w from rfl,hcell i (by omega)]
   simp[WB,show i<zs.length by omega]
  ·simp at hv
 ·intro hp
  simp only[Yj,hl] at hp ⊢
  have:=hcell (len-1) (by omega)
  unfold World.cell? at this
  simp only[start,qpD]
  split at this
  ·rename_i c _ _ hb
   rw[hb]
   simp only[YA,Wo,if_false] at this
   have hlt:o+(len-1)<c.size:=by
    rcases Yc (o+(len-1)) c.size with h'|h'
    ·exact h'
    ·rw[Array.getElem?_eq_none h'] at this; cases this
   simp only
   omega
  ·cases this
 ·intro v hv
  obtain⟨n,_,rfl⟩:=W7.1 hv
  rfl
theorem qA4(fid:Fid)(w:World)(n:Int):Rep fid (start w) (.int n) (.int .i64 n):=⟨rfl,rfl⟩
theorem reps_cons{fid:Fid}{Γ : Ctx}{a:V}{x:Value}{as:List V}{xs:List Value}(h:Rep fid Γ a x)(k:Reps fid Γ as xs):Reps fid Γ (a::as) (x::xs):=⟨_,_,rfl,h,k⟩
end
section
def fl(P:Program):Nat->TypeId->DataW Unit->Option (List Value)
 |0,_,_=>none
 |m+1,t,d=>match P.underlying t,d with
  |some (.int k),.lit (.int k' n)=>if k=k' then some [.int k n] else none
  |some (.array n e),.agg ds=>match ds.mapM (fl P m e) with
   |some vs=>if ds.length=n/\vs.all (fun v=>v.length==P.cellsOf e)/\P.cellsOf t=n*P.cellsOf e then some vs.flatten else none
   |none=>none
  |some (.struct fs),.agg ds=>match (fs.toList.zip ds).mapM (fun x=>fl P m x.1.type x.2) with
   |some vs=>if ds.length=fs.size/\((fs.toList.zip vs).all (fun x=>x.2.length==P.cellsOf x.1.type))/\(List.range fs.size).all (fun i=>(fs[i]?.map (·.offset)).getD 0==(vs.take i).flatten.length)/\P.cellsOf t=vs.flatten.length then some vs.flatten else none
   |none=>none
  |_,_=>none
theorem parts{α : Type} : ∀ (vs:List (List α)) (cs:List α) (o:Nat),(∀ (i:Nat) (v:List α),vs[i]?=some v->(cs.drop (o+(vs.take i).flatten.length)).take v.length=v)->cs.length=o+vs.flatten.length->cs.drop o=vs.flatten
 |[],cs,o,_,hl=>by simp at hl; simp[hl]
 |v::vs,cs,o,h,hl=>by
  have h0:=h 0 v rfl
  simp only[List.take_zero,List.flatten_nil,Wm,Yg] at h0
  have ih:=parts vs cs (o+v.length) (fun i u hu=>by
   have:=h (i+1) u hu
   simpa [Nat.add_assoc] using this) (by rw[List.flatten_cons,Wd] at hl; omega)
  rw[List.flatten_cons,<- ih]
  have e:=Yh v.length (cs.drop o)
  rw[h0,Yd] at e
  exact e.symm
theorem qkV{α β : Type}{f : α -> Option β} : ∀ {l:List α} {r:List β},l.mapM f=some r->r.length=l.length /\ ∀ (i:Nat) (a : α),l[i]?=some a -> ∃ b,r[i]?=some b/\f a=some b
 |[],r,h=>by simp at h; subst h; simp
 |a::l,r,h=>by
  simp only[List.mapM_cons,Option.pure_def,Option.bind_eq_bind,Option.bind_eq_some_iff,Wb] at h
  obtain⟨b,hb,r',hr,rfl⟩:=h
  obtain⟨h1,h2⟩:=qkV hr
  refine⟨by simp[h1],fun i x hx=>?_⟩
  cases i with
  |zero=>simp at hx; subst hx; exact⟨b,rfl,hb⟩
  |succ i=>simpa using h2 i x (by simpa using hx)
theorem qfh{α : Type}(m:Nat) : ∀ (vs:List (List α)) (i:Nat),(∀ v∈vs,v.length=m)->i<=vs.length->(vs.take i).flatten.length=i*m
 |_,0,_,_=>by simp
 |[],i+1,_,h=>by simp at h
 |v::vs,i+1,h,hi=>by
  simp only[List.take_succ_cons,List.flatten_cons,Wd]
  rw[qfh m vs i (fun u hu=>h u (WH _ hu)) (by simpa using hi),h v WQ,W9]
  omega
section
variable{enc:TypeId × Value->Unit}{P:Program}{w:World}{base:Nat}{spare:Nat->Bool}{held:Bool}
theorem qkW : ∀ (m:Nat) (t:TypeId) (d:DataW Unit) (vs:List Value) (fuel:Nat) (cs:List Value) (p:List MemPlace),fl P m t d=some vs->DataW.trod enc P w base spare held fuel t cs=some (d,p)->cs=vs
 |0,t,d,vs,fuel,cs,p,h,_=>by simp[fl] at h
 |m+1,t,d,vs,fuel,cs,p,h,ht=>by
  unfold fl at h
  split at h
  ·rename_i k k' n hu
   split at h
   ·rename_i hk
    subst hk
    cases h
    obtain⟨n',rfl,e,_⟩:=DataW.trod_int hu ht
    simp only[WK,DataW.lit.injEq,Lit.int.injEq] at e
    rw[e.1.2]
   ·cases h
  ·rename_i n e ds hu
   split at h
   ·rename_i us hus
    split at h
    ·rename_i hc
     cases h
     obtain⟨h1,h2,h3⟩:=hc
     obtain⟨xs,q,rfl,hx,hl,hn,hel⟩:=DataW.trod_array hu ht
     simp only[WK,DataW.agg.injEq] at hx
     obtain⟨g1,g2⟩:=qkV hus
     have hlen : ∀ v∈us,v.length=P.cellsOf e:=fun v hv=>by simpa using WG.1 h2 v hv
     have hp:=parts us cs 0 (fun i v hv=>by
      have hi:i<us.length:=(We.1 hv).1
      have hfl:=qfh (P.cellsOf e) us i hlen (by omega)
      rw[WO,hfl,hlen v (WP hv)]
      have:=hel i (by omega)
      obtain⟨x,hxi⟩ : ∃ x,xs[i]?=some x:=⟨xs[i]'(by omega),WM (by omega)⟩
      rw[hxi] at this
      have hd:ds[i]?=some x.1:=by rw[hx.1]; simp[hxi]
      obtain⟨b,hb,hf⟩:=g2 i _ hd
      rw[hv] at hb
      cases hb
      exact qkW m e x.1 v q _ x.2 hf this) (by
      have hfl:=qfh (P.cellsOf e) us us.length hlen (by omega)
      rw[Yn] at hfl
      rw[hl,h3,hfl,g1,h1]; simp)
     simpa using hp
    ·cases h
   ·cases h
  ·rename_i fs ds hu
   split at h
   ·rename_i us hus
    split at h
    ·rename_i hc
     cases h
     obtain⟨h1,h2,h3,h4⟩:=hc
     obtain⟨xs,q,rfl,hx,hl,hn,hel⟩:=DataW.trod_struct hu ht
     simp only[WK,DataW.agg.injEq] at hx
     obtain⟨g1,g2⟩:=qkV hus
     have gl:us.length=fs.size:=by rw[g1]; simp[h1]
     have hp:=parts us cs 0 (fun i v hv=>by
      have hi:i<us.length:=(We.1 hv).1
      obtain⟨f,hf⟩ : ∃ f,fs[i]?=some f:=⟨fs[i]'(by omega),Array.getElem?_eq_getElem (by omega)⟩
      have hfl:fs.toList[i]?=some f:=by simpa using hf
      have ho:=WG.1 h3 i (by simp; omega)
      simp only[hf,Yl,Option.getD_some,beq_iff_eq] at ho
      have hz:(fs.toList.zip us)[i]?=some (f,v):=by simp[List.getElem?_zip_eq_some,hfl,hv]
      have hlv:=WG.1 h2 (f,v) (WP hz)
      simp only[beq_iff_eq] at hlv
      rw[WO,<- ho,hlv]
      have:=hel i f hf
      obtain⟨x,hxi⟩ : ∃ x,xs[i]?=some x:=⟨xs[i]'(by omega),WM (by omega)⟩
      rw[hxi] at this
      have hd:ds[i]?=some x.1:=by rw[hx.1]; simp[hxi]
      have hz2:(fs.toList.zip ds)[i]?=some (f,x.1):=by simp[List.getElem?_zip_eq_some,hfl,hd]
      obtain⟨b,hb,hf2⟩:=g2 i _ hz2
      rw[hv] at hb
      cases hb
      exact qkW m f.type x.1 v q _ x.2 hf2 this) (by rw[hl,h4]; simp)
     simpa using hp
    ·cases h
   ·cases h
  ·cases h
end
theorem qhb{F:Nat->Nat}{w:World} : ∀ (vs:List Value),(vs.all fun v=>qbY v)=true->RepDs F w (vs.map .lit) vs
 |[],_=>rfl
 |v::vs,h=>by
  simp only[List.all_cons,Wv] at h
  exact⟨v,vs,rfl,⟨rfl,h.1⟩,qhb vs h.2⟩
theorem qwV {P:Program} {w:World} {n:String} {d:DataW Unit} {g:Nat} {t:TypeId} {vs:List Value} {m:Nat} (hg:P.globalNamed n=some g) (ht:(P.globals[g]?).map (·.type)=some t)
  (hf:fl P m t d=some vs) (hv:(vs.all fun v=>qbY v&&v.oneCell')=true) (h:laidMet P [(n,d)] w):RepDs (qpD w) w (vs.map .lit) vs/\Row (qpD w) w g 0 vs:=by
 obtain⟨ps,⟨g0,t0,cs,fuel,p,q,hg0,ht0,hvar,hd,_,hps⟩,_,hcell⟩:=h
 obtain rfl:=WD (hg.symm.trans hg0)
 obtain rfl:=WD (ht.symm.trans ht0)
 have e:=qkW m t d vs fuel cs.toList p hf hd
 have hc : ∀ i,w.cell? ⟨g,i,none⟩=vs[i]?:=fun i=>by rw[World.var?_cell hg hvar i,<- e]; simp
 refine⟨qhb vs (by
  rw[WG] at hv ⊢
  intro v hvm
  have:=hv v hvm
  simp only[Wv] at this
  exact this.1),fun i v hi=>by rw[WO,hc,hi],fun hl=>?_,fun v hvm=>?_⟩
 ·have h0:w.cell? ⟨g,vs.length-1,none⟩=some (vs[vs.length-1]'(by omega)):=by rw[hc,WM]
  unfold World.cell? at h0
  unfold qpD
  split at h0
  ·rename_i c _ _ hb
   rw[hb]
   simp only[YA,Wo,if_false] at h0
   have hlt:vs.length-1<c.size:=by
    rcases Yc (vs.length-1) c.size with h'|h'
    ·exact h'
    ·rw[Array.getElem?_eq_none h'] at h0; cases h0
   simp only
   omega
  ·cases h0
 ·have:=WG.1 hv v hvm
  simp only[Wv] at this
  exact this.2
end
section
open Go
theorem qnm {P:Program} {w:World} {n:String} {d:DataW Unit} : ∀ (L:List (String × DataW Unit)) (ps:List MemPlace),DataW.LaidVars P w L ps->(n,d)∈L ->
  ∃ g t cs fuel p,P.globalNamed n=some g/\(P.globals[g]?).map (·.type)=some t/\w.var? P n=some cs/\DataW.trod (fun _=>()) P w 0 (fun _=>true) false fuel t cs.toList=some (d,p)
 |[],ps,_,hm=>by cases hm
 | (n',d')::r,ps,h,hm=>by
  obtain⟨g,t,cs,fuel,p,q,h1,h2,h3,h4,h5,_⟩:=h
  rcases Wu.1 hm with e|hm
  ·cases e; exact⟨g,t,cs,fuel,p,h1,h2,h3,h4⟩
  ·exact qnm r q h5 hm
theorem glb_of_laids {P:Program} {w:World} {n:String} {d:DataW Unit} {L:List (String × DataW Unit)} {g:Nat} {t:TypeId} {vs:List Value} {m:Nat} (hmem:(n,d)∈L) (hg:P.globalNamed n=some g) (ht:(P.globals[g]?).map (·.type)=some t)
  (hf:fl P m t d=some vs) (hv:(vs.all fun v=>qbY v&&v.oneCell')=true) (h:laidMet P L w):RepDs (qpD w) w (vs.map .lit) vs/\Row (qpD w) w g 0 vs:=by
 obtain⟨ps,hL,_,hcell⟩:=h
 obtain⟨g0,t0,cs,fuel,p,hg0,ht0,hvar,hd⟩:=qnm L ps hL hmem
 obtain rfl:=WD (hg.symm.trans hg0)
 obtain rfl:=WD (ht.symm.trans ht0)
 have e:=qkW m t d vs fuel cs.toList p hf hd
 have hc : ∀ i,w.cell? ⟨g,i,none⟩=vs[i]?:=fun i=>by rw[World.var?_cell hg hvar i,<- e]; simp
 refine⟨qhb vs (by
  rw[WG] at hv ⊢
  intro v hvm
  have:=hv v hvm
  simp only[Wv] at this
  exact this.1),fun i v hi=>by rw[WO,hc,hi],fun hl=>?_,fun v hvm=>?_⟩
 ·have h0:w.cell? ⟨g,vs.length-1,none⟩=some (vs[vs.length-1]'(by omega)):=by rw[hc,WM]
  unfold World.cell? at h0
  unfold qpD
  split at h0
  ·rename_i c _ _ hb
   rw[hb]
   simp only[YA,Wo,if_false] at h0
   have hlt:vs.length-1<c.size:=by
    rcases Yc (vs.length-1) c.size with h'|h'
    ·exact h'
    ·rw[Array.getElem?_eq_none h'] at h0; cases h0
   simp only
   omega
  ·cases h0
 ·have:=WG.1 hv v hvm
  simp only[Wv] at this
  exact this.2
end
section
def qdB(xs:List Int):List V:=xs.map fun n=>V.int n
@[simp] theorem qwo(xs:List Int):(qdB xs).length=xs.length:=by simp[qdB]
@[simp] theorem qud(xs:List Int):(intsC xs).length=xs.length:=by simp[intsC]
@[simp] theorem qxC(xs:List Int):qaG (qdB xs)=[]:=by
 induction xs with
 |nil=>rfl
 |cons x xs ih=>simpa [qdB] using ih
@[simp] theorem qy2(r:Nat->Nat)(xs:List Int):qdV r (qdB xs)=qdB xs:=by
 induction xs with
 |nil=>rfl
 |cons x xs ih=>simpa [qdB] using ih
@[simp] theorem qwp(xs:List Int):qbD (qdB xs)=some (intsC xs):=by
 induction xs with
 |nil=>rfl
 |cons x xs ih=>
  have:qbD (qdB (x::xs))=match qbD (qdB xs) with
   |some ds=>some (.lit (.int .i64 x)::ds)
   |none=>none:=rfl
  rw[this,ih]; rfl
@[simp] theorem qs2(xs:List Int):(intsC xs).all (fun d=>V.one (.dat d))=true:=by
 simp[intsC,Value.oneCell']
@[simp] theorem que(xs:List Int):(qdB xs).all V.one=true:=by
 simp[qdB,Value.oneCell']
@[simp] theorem qs3(xs:List Int):(∀ x∈intsC xs,V.one (.dat x)=true):=by
 simp[intsC,Value.oneCell']
theorem qqO(xs:List Int)(n:Nat):(qdB xs).drop n=qdB (xs.drop n):=by simp[qdB]
theorem qqP(xs:List Int)(n:Nat):(qdB xs).take n=qdB (xs.take n):=by simp[qdB]
theorem qnQ(xs:List Int)(i:Nat)(v:Int)(h:i<xs.length):(qdB xs).take i++(V.int v::(qdB xs).drop (i+1))=qdB (xs.set i v):=by
 rw[List.set_eq_take_append_cons_drop,if_pos h]; simp[qdB]
def qrT(cs:List Int)(i:Nat):Int:=cs.getD i 0
def qBn(cs:List Int)(i:Int):Int:=qrT cs i.toNat
def qB2(cs:List Int)(i v:Int):List Int:=cs.set i.toNat v
@[simp] theorem qwq(cs:List Int)(i v:Int):(qB2 cs i v).length=cs.length:=by simp[qB2]
theorem qlS(xs:List Int)(i:Int)(h:i.toNat<xs.length):qaj (qdB xs) i.toNat 1=some [V.int (qBn xs i)]:=by
 have:xs.drop i.toNat=xs[i.toNat]::xs.drop (i.toNat+1):=Wy h
 simp only[qaj,qqO,this,qBn,qrT,WB,WM h]
 rfl
theorem qqQ(n:Nat):(qdy n [(D.lit (.int .i64 0))]).map V.dat=qdB (List.replicate n 0):=by
 induction n with
 |zero=>rfl
 |succ n ih=>
  simp only[qdy,List.map_append,ih,qdB,List.replicate_succ,Wl]
  rfl
theorem qoZ(xs:List Int)(i:Nat)(h:i<xs.length):qaj (intsC xs) i 1=some [.lit (.int .i64 (qrT xs i))]:=by
 rw[qim xs i h]; simp[qrT,WB,h]
abbrev wr(n:Int):Int:=IntKind.i64.wrap n
def qiS(n m:Int):Int:=(if n<0 then -(n+1) else n).tmod m
theorem qqR{n m:Int}(h1:I64 n)(hm:1<=m):0<=qiS n m/\qiS n m<m:=by
 unfold qiS
 split
 ·exact⟨Int.tmod_nonneg _ (by omega),Int.tmod_lt_of_pos _ (by omega)⟩
 ·exact⟨Int.tmod_nonneg _ (by omega),Int.tmod_lt_of_pos _ (by omega)⟩
theorem qh3{n m:Int}(h0:0<=n)(hm:1<=m):0<=n.tmod m/\n.tmod m<m:=⟨Int.tmod_nonneg _ h0,Int.tmod_lt_of_pos _ (by omega)⟩
structure IsRow(d:D)(xs:List Int):Prop where
 len : ∀ σ,V.len σ .sl (.dat d)=some xs.length
 at_ : ∀ i:Int,0<=i->i<xs.length->qae 1 (.dat d) i=some (.dat (.imm (intsC xs) i.toNat))
 one:V.one (.dat d)=true
 cells:V.cells (.dat d)=[.dat d]
theorem qnR(xs:List Int)(f:Bool):IsRow (.sl (intsC xs) xs.length f) xs where
 len:=fun _=>rfl
 at_:=fun i h0 h1=>by simp[qae,h0,h1]
 one:=rfl
 cells:=rfl
theorem qlT(o:Option Addr):IsRow (.lit (.slice o 0 0)) [] where
 len:=fun _=>rfl
 at_:=fun i h0 h1=>by simp at h1; omega
 one:=rfl
 cells:=rfl
theorem qag{prog:Nat->Option PFun}{k:Nat}{b:PC}{fr fr':Fr}{σ σ':S}(h:gcF k fr σ = gcF k fr' σ'):Z prog (.loop k b fr σ)=Z prog (.loop k b fr' σ'):=by
 rw[qaa,qaa,h]
theorem qd9(cs:List D)(n:Nat)(f:Bool)(i:Int)(h0:0<=i)(h1:i<n):qae 1 (.dat (.sl cs n f)) i=some (.dat (.imm cs i.toNat)):=by
 simp[qae,h0,h1]
theorem qy3(l N:Nat)(i:Int)(h0:0<=i)(h1:i<N):qae 1 (.own l N 1) i=some (.eptr l N i.toNat):=by
 simp[qae,h0,h1]
theorem qg6(σ : S)(l N:Nat):V.len σ .sl (.own l N 1)=some N:=rfl
theorem qdR(σ : S):V.len σ .sl (.dat (.lit (.slice none 0 0)))=some 0:=rfl
theorem qo0(xs:List Int)(i:Nat)(h:i<xs.length):qaj (qdB xs) i 1=some [V.int (qrT xs i)]:=by
 have:=qlS xs (i:Int) (by simpa using h)
 simpa [qBn] using this
theorem qy4(l N i:Nat)(h:i<N):qae 1 (.own l N 1) i=some (.eptr l N i):=by
 have:=qy3 l N i (by omega) (by omega)
 simpa using this
theorem qwr{cs:List Int}(i v:Int)(h0:0<=i)(h:i<cs.length)(hv:qrT cs i.toNat=v):qaj (qdB cs) i.toNat 1=some [V.int v]:=by
 rw[qlS cs i (by omega),<- hv]; rfl
theorem qnS{cs:List Int}(i:Nat)(v:Int)(h:i<cs.length)(hv:qrT cs i=v):qaj (qdB cs) i 1=some [V.int v]:=by
 rw[qo0 cs i h,hv]
@[simp] theorem qBo:Fr.noD []=[]:=rfl
@[simp] theorem qz8(k:Nat)(v:V)(r:Fr):Fr.noD ((k,v)::r)=if k=1000000 then Fr.noD r else (k,v)::Fr.noD r:=by
 simp only[Fr.noD,List.filter_cons,dkey]
 by_cases h:k=1000000<;>simp[h]
end
section
theorem qxB{d:D}{xs:List Int}(h:RowV d xs):IsRow d xs:=by
 rcases h with ⟨o,rfl,rfl⟩|rfl
 ·exact qlT o
 ·exact qnR xs false
theorem qB1{n:Int}(h:(Lit.int .i64 n).wf=true):I64 n:=by
 simp only[Lit.wf,Wv,decide_eq_true_eq] at h
 have e1:IntKind.i64.min = -9223372036854775808:=by decide
 have e2:IntKind.i64.max=9223372036854775807:=by decide
 unfold I64
 omega
theorem qBf {w:World} {a:Option Addr} {len cap:Nat} {zs:List Int}
  (h:(a=none/\len=0/\cap=0/\zs=[]) \/ ∃ x,a=some x/\len<=cap/\cap<=maxLen/\zs.length=cap/\(∀ i,i<zs.length->w.cell? (x.add i)=some (.int .i64 (zs.getD i 0))) /\ ∀ n∈zs,(Lit.int .i64 n).wf=true) :
  (zs.take len).length<=9223372036854775807:=by
 rcases h with ⟨rfl,rfl,rfl,rfl⟩|⟨x,rfl,h1,h2,h3,h4,h5⟩
 ·simp
 ·have e:maxLen<=9223372036854775807:=by decide
  rw[WS]
  omega
theorem qz7(fid:Fid)(w:World)(b:Bool):Rep fid (start w) (.bool b) (.bool b):=⟨rfl,rfl⟩
end
section
open Go
theorem qBG(fid:Fid)(w:World)(s:ByteArray):Rep fid (start w) (.str s) (.string s):=⟨rfl,rfl⟩
theorem qAv(fid:Fid)(w:World)(n:Int):Rep fid (start w) (.dat (.lit (.int .u8 n))) (.int .u8 n):=⟨rfl,rfl⟩
theorem qCF{n:Int}(h:(Lit.int .u8 n).wf=true) : ∃ c:Nat,c<256/\n=c:=by
 have:0<=n/\n<256:=by
  simp only[Lit.wf,Wv,decide_eq_true_eq] at h
  have e1:IntKind.u8.min=0:=by decide
  have e2:IntKind.u8.max=255:=by decide
  omega
 exact⟨n.toNat,by omega,by omega⟩
end
section
inductive Bop where
 |add|sub|mul|div|lt|le|gt|ge|eq|ne|and|or
def Bop.str:Bop->ByteArray
 |.add=>⟨#[43]⟩ | .sub=>⟨#[45]⟩ | .mul=>⟨#[42]⟩ | .div=>⟨#[47]⟩
 |.lt=>⟨#[60]⟩ | .le=>⟨#[60,61]⟩ | .gt=>⟨#[62]⟩ | .ge=>⟨#[62,61]⟩ | .eq=>⟨#[61,61]⟩ | .ne=>⟨#[33,61]⟩
 |.and=>⟨#[38,38]⟩ | .or=>⟨#[124,124]⟩
def Bop.opd:Bop->Int
 |.and | .or=>2
 |_=>1
def Bop.res:Bop->Int
 |.add | .sub | .mul | .div=>1
 |_=>2
def ustr(neg:Bool):ByteArray:=if neg then ⟨#[45]⟩ else ⟨#[33]⟩
inductive E where
 |int (n:Int)
 |bool (n:Int)
 |var (s:ByteArray)
 |name (s:ByteArray)
 |field (f:Bool) (s:ByteArray) (e:E)
 |un (f:Bool) (neg:Bool) (e:E)
 |bin (f:Bool) (o:Bop) (a b:E)
def E.kind:E->Int
 |.int _=>8 | .bool _=>9 | .var _=>10 | .field .. => 11 | .name _=>12 | .un .. => 13 | .bin .. => 14
def E.num:E->Int
 |.int n=>n | .bool n=>n|_=>0
def E.str:E->ByteArray
 |.var s=>s | .name s=>s | .field _ s _=>s | .un _ neg _=>ustr neg | .bin _ o _ _=>o.str|_=>⟨#[]⟩
def E.kids:E->D
 |.field f _ e => .sl [.lit (.int .i64 e.kind),.lit (.int .i64 e.num),.lit (.string e.str),e.kids] 1 f
 |.un f _ e => .sl [.lit (.int .i64 e.kind),.lit (.int .i64 e.num),.lit (.string e.str),e.kids] 1 f
 |.bin f _ a b => .sl [.lit (.int .i64 a.kind),.lit (.int .i64 a.num),.lit (.string a.str),a.kids,.lit (.int .i64 b.kind),.lit (.int .i64 b.num),.lit (.string b.str),b.kids] 2 f
 |_ => .lit (.slice none 0 0)
@[simp] theorem qAa(e:E):V.one (.dat e.kids)=true:=by cases e<;>rfl
@[simp] theorem qxD(e:E):V.cells (.dat e.kids)=[.dat e.kids]:=by cases e<;>rfl
abbrev E.node(e:E):V := .dat (.agg [.lit (.int .i64 e.kind),.lit (.int .i64 e.num),.lit (.string e.str),e.kids])
def E.size:E->Nat
 |.field _ _ e=>e.size+1
 |.un _ _ e=>e.size+1
 |.bin _ _ a b=>a.size+b.size+1
 |_=>1
@[simp] theorem qAb(n:Int):E.size (.int n)=1:=rfl
@[simp] theorem qzz(n:Int):E.size (.bool n)=1:=rfl
@[simp] theorem qAc(s:ByteArray):E.size (.var s)=1:=rfl
@[simp] theorem qzA(s:ByteArray):E.size (.name s)=1:=rfl
@[simp] theorem qpj(f:Bool)(s:ByteArray)(e:E):E.size (.field f s e)=e.size+1:=rfl
@[simp] theorem qrs(f neg:Bool)(e:E):E.size (.un f neg e)=e.size+1:=rfl
@[simp] theorem qkY(f:Bool)(o:Bop)(a b:E):E.size (.bin f o a b)=a.size+b.size+1:=rfl
def E.ok:E->Prop
 |.var s=>s.size<=100
 |.field _ _ e=>e.ok
 |.un _ _ e=>e.ok
 |.bin _ _ a b=>a.ok/\b.ok
 |_=>True
def E.ty:E->Int
 |.int _ | .var _ | .name _=>1
 |.bool _=>2
 |.field _ _ e=>if e.ty=1 then 1 else 0
 |.un _ neg e=>if e.ty=(if neg then 1 else 2) then (if neg then 1 else 2) else 0
 |.bin _ o a b=>if a.ty=o.opd/\b.ty=o.opd then o.res else 0
@[simp] theorem qAd(n:Int):E.kind (.int n)=8:=rfl
@[simp] theorem qBz(n:Int):E.num (.int n)=n:=rfl
@[simp] theorem qBA(n:Int):E.str (.int n)=⟨#[]⟩:=rfl
@[simp] theorem qAe(n:Int):E.kids (.int n) = .lit (.slice none 0 0):=rfl
@[simp] theorem qB3(n:Int):E.ty (.int n)=1:=rfl
@[simp] theorem qzB(n:Int):E.kind (.bool n)=9:=rfl
@[simp] theorem qAf(n:Int):E.num (.bool n)=n:=rfl
@[simp] theorem qAg(n:Int):E.str (.bool n)=⟨#[]⟩:=rfl
@[simp] theorem qzC(n:Int):E.kids (.bool n) = .lit (.slice none 0 0):=rfl
@[simp] theorem qBB(n:Int):E.ty (.bool n)=2:=rfl
@[simp] theorem qAh(s:ByteArray):E.kind (.var s)=10:=rfl
@[simp] theorem qBC(s:ByteArray):E.num (.var s)=0:=rfl
@[simp] theorem qBD(s:ByteArray):E.str (.var s)=s:=rfl
@[simp] theorem qAi(s:ByteArray):E.kids (.var s) = .lit (.slice none 0 0):=rfl
@[simp] theorem qB4(s:ByteArray):E.ty (.var s)=1:=rfl
@[simp] theorem qzD(s:ByteArray):E.kind (.name s)=12:=rfl
@[simp] theorem qAj(s:ByteArray):E.num (.name s)=0:=rfl
@[simp] theorem qAk(s:ByteArray):E.str (.name s)=s:=rfl
@[simp] theorem qzE(s:ByteArray):E.kids (.name s) = .lit (.slice none 0 0):=rfl
@[simp] theorem qBE(s:ByteArray):E.ty (.name s)=1:=rfl
@[simp] theorem qjZ(f:Bool)(s:ByteArray)(e:E):E.kind (.field f s e)=11:=rfl
@[simp] theorem ql2(f:Bool)(s:ByteArray)(e:E):E.num (.field f s e)=0:=rfl
@[simp] theorem ql3(f:Bool)(s:ByteArray)(e:E):E.str (.field f s e)=s:=rfl
@[simp] theorem qhc(f:Bool)(s:ByteArray)(e:E):E.kids (.field f s e) = .sl [.lit (.int .i64 e.kind),.lit (.int .i64 e.num),.lit (.string e.str),e.kids] 1 f:=rfl
@[simp] theorem qAl(f:Bool)(s:ByteArray)(e:E):E.ty (.field f s e)=if e.ty=1 then 1 else 0:=rfl
@[simp] theorem qfi(f:Bool)(neg:Bool)(e:E):E.kind (.un f neg e)=13:=rfl
@[simp] theorem qhG(f:Bool)(neg:Bool)(e:E):E.num (.un f neg e)=0:=rfl
@[simp] theorem qhH(f:Bool)(neg:Bool)(e:E):E.str (.un f neg e)=ustr neg:=rfl
@[simp] theorem qeK(f:Bool)(neg:Bool)(e:E):E.kids (.un f neg e) = .sl [.lit (.int .i64 e.kind),.lit (.int .i64 e.num),.lit (.string e.str),e.kids] 1 f:=rfl
@[simp] theorem qCy(f:Bool)(neg:Bool)(e:E):E.ty (.un f neg e)=if e.ty=(if neg then 1 else 2) then (if neg then 1 else 2) else 0:=rfl
@[simp] theorem qd2(f:Bool)(o:Bop)(a b:E):E.kind (.bin f o a b)=14:=rfl
@[simp] theorem qfj(f:Bool)(o:Bop)(a b:E):E.num (.bin f o a b)=0:=rfl
@[simp] theorem qfk(f:Bool)(o:Bop)(a b:E):E.str (.bin f o a b)=o.str:=rfl
@[simp] theorem qdt(f:Bool)(o:Bop)(a b:E):E.kids (.bin f o a b) = .sl [.lit (.int .i64 a.kind),.lit (.int .i64 a.num),.lit (.string a.str),a.kids,.lit (.int .i64 b.kind),.lit (.int .i64 b.num),.lit (.string b.str),b.kids] 2 f:=rfl
@[simp] theorem qB5(f:Bool)(o:Bop)(a b:E):E.ty (.bin f o a b)=if a.ty=o.opd/\b.ty=o.opd then o.res else 0:=rfl
abbrev qw3:V := .dat (.agg [.lit (.int .i64 0),.lit (.int .i64 0),.lit (.string ⟨#[]⟩),.lit (.slice none 0 0)])
def kd(f:Bool):Nat->List D->D
 |0,_ => .lit (.slice none 0 0)
 |n+1,cs => .sl cs (n+1) f
@[simp] theorem qB6(f:Bool)(n:Nat)(cs:List D):V.one (.dat (kd f n cs))=true:=by cases n<;>rfl
@[simp] theorem qAm(f:Bool)(n:Nat)(cs:List D):V.cells (.dat (kd f n cs))=[.dat (kd f n cs)]:=by cases n<;>rfl
@[simp] theorem qB7(σ : S)(f:Bool)(n:Nat)(cs:List D):V.len σ .sl (.dat (kd f n cs))=some n:=by cases n<;>simp[kd,V.len]
@[simp] theorem qAn(f:Bool)(cs:List D):kd f 0 cs = .lit (.slice none 0 0):=rfl
@[simp] theorem qkZ(f:Bool)(n:Nat)(cs:List D):kd f (n+1) cs = .sl cs (n+1) f:=rfl
inductive Fo where
 |nil
 |cons (k n:Int) (s:ByteArray) (f:Bool) (kids rest:Fo)
def Fo.len:Fo->Nat
 |.nil=>0
 |.cons _ _ _ _ _ r=>r.len+1
def Fo.cells:Fo->List D
 |.nil=>[]
 |.cons k n s f ks r => .lit (.int .i64 k) :: .lit (.int .i64 n) :: .lit (.string s)::kd f ks.len ks.cells::r.cells
def Fo.app:Fo->Fo->Fo
 |.nil,b=>b
 |.cons k n s f ks r,b => .cons k n s f ks (r.app b)
def Fo.size:Fo->Nat
 |.nil=>0
 |.cons _ _ _ _ ks r=>ks.size+r.size+1
@[simp] theorem qbs:Fo.len .nil=0:=rfl
@[simp] theorem qaR(k n:Int)(s:ByteArray)(f:Bool)(ks r:Fo):(Fo.cons k n s f ks r).len=r.len+1:=rfl
@[simp] theorem qbc:Fo.cells .nil=[]:=rfl
@[simp] theorem qaC(k n:Int)(s:ByteArray)(f:Bool)(ks r:Fo):(Fo.cons k n s f ks r).cells = .lit (.int .i64 k) :: .lit (.int .i64 n) :: .lit (.string s)::kd f ks.len ks.cells::r.cells:=rfl
@[simp] theorem qaX:Fo.size .nil=0:=rfl
@[simp] theorem qam(k n:Int)(s:ByteArray)(f:Bool)(ks r:Fo):(Fo.cons k n s f ks r).size=ks.size+r.size+1:=rfl
@[simp] theorem qxE(b:Fo):Fo.app .nil b=b:=rfl
@[simp] theorem qw4(k n:Int)(s:ByteArray)(f:Bool)(ks r b:Fo):(Fo.cons k n s f ks r).app b = .cons k n s f ks (r.app b):=rfl
theorem qdC(a b:Fo):(a.app b).len=a.len+b.len:=by induction a with
 |nil=>simp
 |cons k n s f ks r _ ih=>simp[ih]; omega
theorem qhI(a b:Fo):(a.app b).cells=a.cells++b.cells:=by induction a with
 |nil=>simp
 |cons k n s f ks r _ ih=>simp[ih]
theorem qiZ(a b:Fo):(a.app b).size=a.size+b.size:=by induction a with
 |nil=>simp
 |cons k n s f ks r _ ih=>simp[ih]; omega
theorem qfl(a:Fo):a.cells.length=a.len*4:=by induction a with
 |nil=>simp
 |cons k n s f ks r _ ih=>simp[ih]; omega
theorem qbv(a:Fo):a.len<=a.size:=by induction a with
 |nil=>simp
 |cons k n s f ks r _ ih=>simp; omega
abbrev nd(k n:Int)(s:ByteArray)(f:Bool)(ks:Fo):V := .dat (.agg [.lit (.int .i64 k),.lit (.int .i64 n),.lit (.string s),kd f ks.len ks.cells])
def Fo.hk:Fo->Int
 |.nil=>0
 |.cons k _ _ _ _ _=>k
def Fo.hn:Fo->Int
 |.nil=>0
 |.cons _ n _ _ _ _=>n
def Fo.hs:Fo->ByteArray
 |.nil=>⟨#[]⟩
 |.cons _ _ s _ _ _=>s
def Fo.hf:Fo->Bool
 |.nil=>false
 |.cons _ _ _ f _ _=>f
def Fo.hks:Fo->Fo
 |.nil => .nil
 |.cons _ _ _ _ ks _=>ks
def Fo.tl:Fo->Fo
 |.nil => .nil
 |.cons _ _ _ _ _ r=>r
abbrev Fo.hd(a:Fo):V:=nd a.hk a.hn a.hs a.hf a.hks
def E.flag:E->Bool
 |.field f _ _=>f | .un f _ _=>f | .bin f _ _ _=>f|_=>false
def E.fo:E->Fo->Fo
 |.int n,r => .cons 8 n ⟨#[]⟩ false .nil r
 |.bool n,r => .cons 9 n ⟨#[]⟩ false .nil r
 |.var s,r => .cons 10 0 s false .nil r
 |.name s,r => .cons 12 0 s false .nil r
 |.field f s e,r => .cons 11 0 s f (e.fo .nil) r
 |.un f neg e,r => .cons 13 0 (ustr neg) f (e.fo .nil) r
 |.bin f o a b,r => .cons 14 0 o.str f (a.fo (b.fo .nil)) r
def E.kfo:E->Fo
 |.field _ _ e=>e.fo .nil | .un _ _ e=>e.fo .nil | .bin _ _ a b=>a.fo (b.fo .nil) | _ => .nil
theorem qi0(e:E)(r:Fo):e.fo r = .cons e.kind e.num e.str e.flag e.kfo r:=by cases e<;>rfl
theorem qrt(e:E):e.kids=kd e.flag e.kfo.len e.kfo.cells:=by
 induction e with
 |field f s e ih=>
  show (E.field f s e).kids=kd f (e.fo .nil).len (e.fo .nil).cells
  rw[qi0]
  simp only[qhc,qaR,qbs,qkZ,qaC,qbc,<- ih]
 |un f neg e ih=>
  show (E.un f neg e).kids=kd f (e.fo .nil).len (e.fo .nil).cells
  rw[qi0]
  simp only[qeK,qaR,qbs,qkZ,qaC,qbc,<- ih]
 |bin f o a b iha ihb=>
  show (E.bin f o a b).kids=kd f (a.fo (b.fo .nil)).len (a.fo (b.fo .nil)).cells
  rw[qi0,qi0]
  simp only[qdt,qaR,qbs,qkZ,qaC,qbc,<- iha,<- ihb]
 |_=>rfl
theorem qcz(e:E)(r:Fo):(e.fo r).size=e.size+r.size:=by
 induction e generalizing r<;>simp only[E.fo,E.size,qam,qaX, *]<;>omega
@[simp] theorem qCz(e:E)(r:Fo):(e.fo r).tl=r:=by rw[qi0]; rfl
inductive Ss where
 |nil
 |assign (f:Bool) (s:ByteArray) (e:E) (r:Ss)
 |store (f:Bool) (s:ByteArray) (a b:E) (r:Ss)
 |effect (f:Bool) (a b:E) (r:Ss)
 |stop (r:Ss)
 |cond (w:Bool) (f:Bool) (c:E) (b:Ss) (r:Ss)
 |block (f:Bool) (b:Ss) (r:Ss)
def qod:ByteArray:=⟨#[104,105,116]⟩
def qoe:ByteArray:=⟨#[115,116,105,108,108]⟩
def Ss.well:Ss->Bool
 |.nil=>true
 |.assign _ _ e r=>decide (e.ty=1)&&r.well
 |.store _ s a b r=>(!(eqS s qod||eqS s qoe)&&(decide (a.ty=1)&&decide (b.ty=1)))&&r.well
 |.effect _ a b r=>(decide (a.ty=1)&&decide (b.ty=1))&&r.well
 |.stop r=>r.well
 |.cond _ _ c b r=>(decide (c.ty=2)&&b.well)&&r.well
 |.block _ b r=>b.well&&r.well
def Ss.ok:Ss->Prop
 |.nil=>True
 |.assign _ s e r=>s.size<=100/\e.ok/\r.ok
 |.store _ _ a b r=>a.ok/\b.ok/\r.ok
 |.effect _ a b r=>a.ok/\b.ok/\r.ok
 |.stop r=>r.ok
 |.cond _ _ c b r=>c.ok/\b.ok/\r.ok
 |.block _ b r=>b.ok/\r.ok
def Ss.fo:Ss->Fo
 |.nil => .nil
 |.assign f s e r => .cons 1 0 s f (e.fo .nil) r.fo
 |.store f s a b r => .cons 2 0 s f (a.fo (b.fo .nil)) r.fo
 |.effect f a b r => .cons 5 0 ⟨#[]⟩ f (a.fo (b.fo .nil)) r.fo
 |.stop r => .cons 6 0 ⟨#[]⟩ false .nil r.fo
 |.cond w f c b r => .cons (if w then 4 else 3) 0 ⟨#[]⟩ f (c.fo b.fo) r.fo
 |.block f b r => .cons 7 0 ⟨#[]⟩ f b.fo r.fo
theorem qzF{cs r:List D}{o:Nat}{a b c d:D}(h:cs.drop o=a::b::c::d::r):qaj cs o 4=some [a,b,c,d]:=by
 unfold qaj
 rw[h]
 simp
@[simp] theorem qCA(e:E)(r:Fo):(e.fo r).hk=e.kind:=by rw[qi0]; rfl
@[simp] theorem qCB(e:E)(r:Fo):(e.fo r).hn=e.num:=by rw[qi0]; rfl
@[simp] theorem qCC(e:E)(r:Fo):(e.fo r).hs=e.str:=by rw[qi0]; rfl
@[simp] theorem qB8(e:E)(r:Fo):kd (e.fo r).hf (e.fo r).hks.len (e.fo r).hks.cells=e.kids:=by rw[qi0,qrt]; rfl
@[simp] theorem ql4(e:E)(r:Fo):(e.fo r).len=r.len+1:=by rw[qi0]; rfl
@[simp] theorem qgL(e:E)(r:Fo):(e.fo r).cells = .lit (.int .i64 e.kind) :: .lit (.int .i64 e.num) :: .lit (.string e.str)::e.kids::r.cells:=by rw[qi0,qrt]; rfl
@[simp] theorem qB9:Fo.hk .nil=0:=rfl
@[simp] theorem qCa:Fo.hn .nil=0:=rfl
@[simp] theorem qCb:Fo.hs .nil=⟨#[]⟩:=rfl
@[simp] theorem qCc:Fo.hf .nil=false:=rfl
@[simp] theorem qBF:Fo.hks .nil = .nil:=rfl
def qaV(ss:List ByteArray):List D:=ss.map fun s => .lit (.string s)
theorem qh5(ss:List ByteArray)(i:Nat)(h:i<ss.length):qaj (qaV ss) i 1=some [.lit (.string ss[i])]:=by
 unfold qaj qaV
 rw[Wy (by simpa using h)]
 simp
theorem qbd(a b:ByteArray):eqS a b=decide (a=b):=by
 rw[Bool.eq_iff_iff]
 simp only[eqS,beq_iff_eq,decide_eq_true_eq,ByteArray.toList_eq]
 exact⟨fun h=>by cases a; cases b; simp only[Array.toList_inj] at h; rw[h],fun h=>by rw[h]⟩
instance:LawfulBEq ByteArray where
 eq_of_beq h:=by rw[qeq] at h; exact of_decide_eq_true h
 rfl:=by intro a; rw[qeq]; exact decide_eq_true rfl
def qof:List ByteArray->D
 |[] => .lit (.slice none 0 0)
 |s::l => .sl (qaV (s::l)) (l.length+1) false
@[simp] theorem qAo(l:List ByteArray):V.one (.dat (qof l))=true:=by cases l<;>rfl
@[simp] theorem qxF(l:List ByteArray):V.cells (.dat (qof l))=[.dat (qof l)]:=by cases l<;>rfl
@[simp] theorem qAp(σ : S)(l:List ByteArray):V.len σ .sl (.dat (qof l))=some l.length:=by cases l<;>simp[qof,V.len]
@[simp] theorem qAq(l:List ByteArray):(qaV l).length=l.length:=by simp[qaV]
def Fo.vars:Fo->List ByteArray
 |.nil=>[]
 |.cons k _ s _ ks r=>(if k=1\/k=10 then [s] else [])++(ks.vars++r.vars)
def qru(l:List ByteArray)(s:ByteArray):List ByteArray:=if s∈l then l else l++[s]
def addAll(l:List ByteArray)(xs:List ByteArray):List ByteArray:=xs.foldl qru l
theorem qcX(l a b:List ByteArray):addAll l (a++b)=addAll (addAll l a) b:=by simp[addAll,List.foldl_append]
theorem qtv(l:List ByteArray)(s:ByteArray):l.length<=(qru l s).length/\(qru l s).length<=l.length+1:=by
 unfold qru
 split<;>simp
theorem qcC(xs:List ByteArray) : ∀ l,l.length<=(addAll l xs).length/\(addAll l xs).length<=l.length+xs.length:=by
 induction xs with
 |nil=>intro l; simp[addAll]
 |cons x xs ih=>
  intro l
  have:=ih (qru l x)
  have h2:=qtv l x
  simp only[addAll,W8,Wf] at this ⊢
  omega
theorem qh6(a:Fo):a.vars.length<=a.size:=by
 induction a with
 |nil=>simp[Fo.vars]
 |cons k n s f ks r ih1 ih2=>
  simp only[Fo.vars,Wd,qam]
  split<;>simp<;>omega
theorem qcv{cs r:List D}{i:Nat}{a b c d:D}(h:cs.drop (i*4)=a::b::c::d::r):cs.drop ((i+1)*4)=r:=by
 rw[show (i+1)*4=i*4+4 by omega,<- List.drop_drop,h]
 rfl
theorem qhd{b:Ss}(hb:b.fo.len=0):b = .nil:=by cases b<;>simp[Ss.fo] at hb; rfl
theorem qw5{l:List ByteArray}(h:l≠[]):qof l = .sl (qaV l) l.length false:=by
 cases l with
 |nil=>exact absurd rfl h
 |cons s l=>rfl
theorem qog(s:ByteArray):qaV [s]=[.lit (.string s)]:=rfl
theorem qtw(a b:List ByteArray):qaV (a++b)=qaV a++qaV b:=by simp[qaV]
structure Nd where
 k:Int
 n:Int
 s:ByteArray
 f:Bool
 ks:Fo
abbrev Nd.v(a:Nd):V:=nd a.k a.n a.s a.f a.ks
def Nd.vars(a:Nd):List ByteArray:=(if a.k=1\/a.k=10 then [a.s] else [])++a.ks.vars
abbrev Nd.d(a:Nd):D:=kd a.f a.ks.len a.ks.cells
theorem qeL(a:Nd):a.vars.length<=a.ks.size+1:=by
 have h:=qh6 a.ks
 unfold Nd.vars
 rw[Wd]
 split<;>simp<;>omega
abbrev ru(a b c:Nd):D := .agg [.lit (.int .i64 a.k),.lit (.int .i64 a.n),.lit (.string a.s),a.d,.lit (.int .i64 b.k),.lit (.int .i64 b.n),.lit (.string b.s),b.d,.lit (.int .i64 c.k),.lit (.int .i64 c.n),.lit (.string c.s),c.d]
def rvars(a b c:Nd):List ByteArray:=addAll [] (a.vars++(b.vars++c.vars))
inductive Hd where
 |none
 |some (f:Bool) (b:Ss)
def Hd.k:Hd->Int
 |.none=>0
 |.some _ _=>7
def Hd.f:Hd->Bool
 |.none=>false
 |.some f _=>f
def Hd.ks:Hd->Fo
 |.none => .nil
 |.some _ b=>b.fo
def Hd.nd(h:Hd):Nd:=⟨h.k,0,⟨#[]⟩,h.f,h.ks⟩
@[simp] theorem qAr(h:Hd):h.nd.k=h.k:=rfl
@[simp] theorem qAs(h:Hd):h.nd.n=0:=rfl
@[simp] theorem qAt(h:Hd):h.nd.s=⟨#[]⟩:=rfl
@[simp] theorem qAu(h:Hd):h.nd.f=h.f:=rfl
@[simp] theorem qpk(h:Hd):h.nd.ks=h.ks:=rfl
def Hd.well:Hd->Bool
 |.none=>true
 |.some _ b=>b.well
abbrev qgO(a b c:Nd):Ob := .cells [.int a.k,.int a.n,.str a.s,.dat a.d,.int b.k,.int b.n,.str b.s,.dat b.d,.int c.k,.int c.n,.str c.s,.dat c.d]
def Ss.app:Ss->Ss->Ss
 |.nil,b=>b
 |.assign f s e r,b => .assign f s e (r.app b)
 |.store f s x y r,b => .store f s x y (r.app b)
 |.effect f x y r,b => .effect f x y (r.app b)
 |.stop r,b => .stop (r.app b)
 |.cond w f c q r,b => .cond w f c q (r.app b)
 |.block f q r,b => .block f q (r.app b)
theorem qi1(a b:Ss):(a.app b).fo=a.fo.app b.fo:=by
 induction a<;>simp_all [Ss.app,Ss.fo]
theorem qrv(a b c:Fo):(a.app b).app c=a.app (b.app c):=by
 induction a<;>simp_all
theorem qw6(a:Fo):a.app .nil=a:=by
 induction a<;>simp_all
end
end Go.Pm
section
namespace Go.Pm.Gr
abbrev Cd:=List (Int × Int)
def qfL(op:Int):Int:=if op=3\/op=4\/op=13\/op=17\/op=19 then 1 else if op=5\/op=9\/op=10\/op=11\/op=12\/op=14\/op=15\/op=16\/op=20 then 2 else 0
def qd7(op:Int):Int:=if op=3\/op=5\/op=18\/op=19\/op=20\/op=21 then 0 else 1
theorem qnr(op:Int):0<=qfL op/\qfL op<=2:=by unfold qfL; split<;>(try split)<;>omega
theorem qgr(op:Int):0<=qd7 op/\qd7 op<=1:=by unfold qd7; split<;>omega
def opA(c:Cd)(i:Nat):Int:=(c.getD i (0,0)).1
def nA(c:Cd)(i:Nat):Int:=(c.getD i (0,0)).2
def qgM(c:Cd)(i:Nat):List Int:=if opA c i=21 then [] else if opA c i=18 then [nA c i] else if opA c i=19 then [(i:Int)+1,nA c i] else [(i:Int)+1]
def qrR(c:Cd):Prop := ∀ i,i<c.length -> ∀ j∈qgM c i,0<=j/\j<=c.length
def aft(c:Cd)(i:Nat)(d:Int):Int:=d+(qd7 (opA c i)-qfL (opA c i))
inductive Reach(c:Cd)(e:Nat):Nat->Prop
 |here:Reach c e e
 |go {i j:Nat}:Reach c e i->i<c.length->(j:Int)∈qgM c i->j<c.length->Reach c e j
theorem Reach.lt{c:Cd}{e i:Nat}(he:e<c.length)(h:Reach c e i):i<c.length:=by
 cases h with
 |here=>exact he
 |go _ _ _ h=>exact h
structure CF(c:Cd)(e:Nat)(D:Nat->Int):Prop where
 zero:D e=0
 pops : ∀ i,Reach c e i->qfL (opA c i)<=D i
 step : ∀ i,Reach c e i -> ∀ j:Nat,(j:Int)∈qgM c i->j<c.length->D j=aft c i (D i)
def qpX(c:Cd)(e:Nat):Prop := ∃ i,Reach c e i/\(c.length:Int)∈qgM c i
structure Most(c:Cd)(e:Nat)(D:Nat->Int)(m:Int):Prop where
 nonneg:0<=m
 le : ∀ i,Reach c e i->aft c i (D i)<=m
 at_:m=0 \/ ∃ i,Reach c e i/\m=aft c i (D i)
theorem Most.unique{c:Cd}{e:Nat}{D:Nat->Int}{m m':Int}(h:Most c e D m)(h':Most c e D m'):m=m':=by
 have a:m<=m':=by
  rcases h.at_ with h0|⟨i,hi,h0⟩
  ·have:=h'.nonneg; omega
  ·have:=h'.le i hi; omega
 have b:m'<=m:=by
  rcases h'.at_ with h0|⟨i,hi,h0⟩
  ·have:=h.nonneg; omega
  ·have:=h.le i hi; omega
 omega
theorem CF.unique{c:Cd}{e:Nat}{D D':Nat->Int}(h:CF c e D)(h':CF c e D'){i:Nat}(hi:Reach c e i):D i=D' i:=by
 induction hi with
 |here=>rw[h.zero,h'.zero]
 |go hi hl hj hjl ih=>rw[h.step _ hi _ hj hjl,h'.step _ hi _ hj hjl,ih]
theorem Most.of_eq{c:Cd}{e:Nat}{D D':Nat->Int}{m:Int}(h:CF c e D)(h':CF c e D')(hm:Most c e D m):Most c e D' m:=by
 refine⟨hm.nonneg,fun i hi=>?_,?_⟩
 ·rw[<- CF.unique h h' hi]; exact hm.le i hi
 ·rcases hm.at_ with h0|⟨i,hi,h0⟩
  ·exact .inl h0
  ·exact .inr ⟨i,hi,by rw[<- CF.unique h h' hi]; exact h0⟩
structure An where
 falls:Bool
 breaks:Bool
 depth:Int
 ds:List Int
 op:List Nat
def gD(l:List Int)(i:Nat):Int:=l.getD i 0
def one(n:Nat)(d:Int)(a:An)(j:Int):An:=
 if j=n then { a with falls:=true }
 else if gD a.ds j.toNat=0 then { a with ds:=a.ds.set j.toNat (max d 0+1),op:=a.op++[j.toNat] }
 else if gD a.ds j.toNat≠d+1 then { a with breaks:=true }
 else a
def stp(c:Cd)(a:An)(i:Nat)(r:List Nat):An:=
 let d:=gD a.ds i-1
 let d':=aft c i d
 (qgM c i).foldl (one c.length d') { a with breaks:=a.breaks||decide (d<qfL (opA c i)),depth:=max a.depth d',op:=r }
theorem qgs{l:List Int}{i:Nat}{v:Int}(h:i<l.length):gD (l.set i v) i=v:=by
 simp[gD,WB,h]
theorem qgt{l:List Int}{i j:Nat}{v:Int}(h:i≠j):gD (l.set i v) j=gD l j:=by
 simp only[gD,WB]
 rw[WA h]
structure Inv(c:Cd)(e:Nat)(cur:Option Nat)(pre:List Int)(a:An):Prop where
 len:a.ds.length=c.length
 nodup:a.op.Nodup
 opn : ∀ i∈a.op,i<c.length/\gD a.ds i≠0
 pos : ∀ i,i<c.length->gD a.ds i≠0->1<=gD a.ds i/\Reach c e i
 ent:gD a.ds e=1
 cur_ : ∀ i,cur=some i->i<c.length/\gD a.ds i≠0/\i∉a.op
 done : ∀ i,i<c.length->gD a.ds i≠0->i∉a.op -> ∀ j∈(if cur=some i then pre else qgM c i),(j=c.length->a.falls=true)/\(j<c.length->gD a.ds j.toNat≠0)
 fal:a.falls=true->qpX c e
 brk:a.breaks=false -> ∀ i,i<c.length->gD a.ds i≠0->i∉a.op->qfL (opA c i)<=gD a.ds i-1 /\ ∀ j∈(if cur=some i then pre else qgM c i),j<c.length->gD a.ds j.toNat=aft c i (gD a.ds i-1)+1
 cf : ∀ D,CF c e D->a.breaks=false /\ ∀ i,i<c.length->gD a.ds i≠0->gD a.ds i=D i+1
 dle:0<=a.depth /\ ∀ i,i<c.length->gD a.ds i≠0->i∉a.op->aft c i (gD a.ds i-1)<=a.depth
 dat:a.depth=0 \/ ∃ i,i<c.length/\gD a.ds i≠0/\i∉a.op/\a.depth=aft c i (gD a.ds i-1)
theorem qu6 {c:Cd} {e i:Nat} {pre:List Int} {j:Int} {a:An} (h:Inv c e (some i) pre a) (hs:j∈qgM c i) (hj:0<=j/\j<=c.length) :
  Inv c e (some i) (pre++[j]) (one c.length (aft c i (gD a.ds i-1)) a j)/\gD (one c.length (aft c i (gD a.ds i-1)) a j).ds i=gD a.ds i:=by
 obtain⟨hi1,hi2,hi3⟩:=h.cur_ i rfl
 obtain⟨hp1,hp2⟩:=h.pos i hi1 hi2
 unfold one
 by_cases hn:j=c.length
 ·rw[if_pos hn]
  refine⟨⟨h.len,h.nodup,h.opn,h.pos,h.ent,h.cur_,?_,fun _=>⟨i,hp2,by rw[<- hn]; exact hs⟩,?_,h.cf,h.dle,h.dat⟩,rfl⟩
  ·intro k k1 k2 k3 x hx
   have:=h.done k k1 k2 k3
   by_cases hk:some i=some k
   ·rw[if_pos hk] at hx this
    rcases Ws.1 hx with hx|hx
    ·exact⟨fun _=>rfl,(this x hx).2⟩
    ·simp only[Wg] at hx
     exact⟨fun _=>rfl,fun hl=>by omega⟩
   ·rw[if_neg hk] at hx this
    exact⟨fun _=>rfl,(this x hx).2⟩
  ·intro hb k k1 k2 k3
   have:=h.brk hb k k1 k2 k3
   refine⟨this.1,fun x hx hl=>?_⟩
   by_cases hk:some i=some k
   ·rw[if_pos hk] at hx
    rw[if_pos hk] at this
    rcases Ws.1 hx with hx|hx
    ·exact this.2 x hx hl
    ·simp only[Wg] at hx; omega
   ·rw[if_neg hk] at hx this
    exact this.2 x hx hl
 ·rw[if_neg hn]
  have hjl:j.toNat<c.length:=by omega
  have hjs:((j.toNat:Nat):Int)∈qgM c i:=by rw[show ((j.toNat:Nat):Int)=j by omega]; exact hs
  have hjr:Reach c e j.toNat:=Reach.go hp2 hi1 hjs hjl
  by_cases h0:gD a.ds j.toNat=0
  ·rw[if_pos h0]
   have hij:j.toNat≠i:=fun hh=>hi2 (by rw[<- hh]; exact h0)
   have hjo:j.toNat∉a.op:=fun hh=>(h.opn _ hh).2 h0
   have hnew:gD (a.ds.set j.toNat (max (aft c i (gD a.ds i-1)) 0+1)) j.toNat=max (aft c i (gD a.ds i-1)) 0+1:=qgs (by rw[h.len]; exact hjl)
   have hold : ∀ k,k≠j.toNat->gD (a.ds.set j.toNat (max (aft c i (gD a.ds i-1)) 0+1)) k=gD a.ds k:=fun k hk=>qgt (YD hk)
   have hge : ∀ k,gD a.ds k≠0->gD (a.ds.set j.toNat (max (aft c i (gD a.ds i-1)) 0+1)) k=gD a.ds k:=fun k hk=>hold k (fun hh=>hk (by rw[hh]; exact h0))
   generalize hV:a.ds.set j.toNat (max (aft c i (gD a.ds i-1)) 0+1)=V at *
   have back : ∀ k,gD V k≠0->k∉a.op++[j.toNat]->gD a.ds k≠0/\k∉a.op/\gD V k=gD a.ds k:=fun k k2 k3=>by
    have hk:k≠j.toNat:=fun hh=>k3 (by rw[hh]; simp)
    rw[hold k hk] at k2
    exact⟨k2,fun hh=>k3 (by simp[hh]),hold k hk⟩
   refine⟨⟨by simp only; rw[<- hV]; simp[h.len],?_,?_,?_,?_,?_,?_,h.fal,?_,?_,?_,?_⟩,hold i (Ne.symm hij)⟩
   ·simp only
    rw[List.nodup_append]
    exact⟨h.nodup,by simp,fun x hx y hy=>by simp only[List.mem_singleton] at hy; rw[hy]; exact fun hh=>hjo (by rw[<- hh]; exact hx)⟩
   ·intro k hk
    simp only at hk ⊢
    rcases Ws.1 hk with hk|hk
    ·have:=h.opn k hk
     exact⟨this.1,by rw[hge k this.2]; exact this.2⟩
    ·simp only[Wg] at hk
     rw[hk,hnew]
     exact⟨hjl,by omega⟩
   ·intro k k1 k2
    simp only at k2 ⊢
    by_cases hk:k=j.toNat
    ·rw[hk,hnew]; exact⟨by omega,hjr⟩
    ·rw[hold k hk] at k2 ⊢; exact h.pos k k1 k2
   ·simp only; rw[hge e (by rw[h.ent]; omega)]; exact h.ent
   ·intro k hk
    have:=h.cur_ k hk
    simp only
    refine⟨this.1,by rw[hge k this.2.1]; exact this.2.1,?_⟩
    rw[Ws,not_or]
    refine⟨this.2.2,?_⟩
    simp only[Wg]
    intro hh
    exact this.2.1 (by rw[hh]; exact h0)
   ·intro k k1 k2 k3 x hx
    simp only at k2 k3 ⊢
    obtain⟨b1,b2,b3⟩:=back k k2 k3
    have:=h.done k k1 b1 b2
    by_cases hk:some i=some k
    ·rw[if_pos hk] at hx this
     rcases Ws.1 hx with hx|hx
     ·exact⟨(this x hx).1,fun hl=>by rw[hge _ ((this x hx).2 hl)]; exact (this x hx).2 hl⟩
     ·simp only[Wg] at hx
      exact⟨fun hh=>absurd (hx ▸ hh) hn,fun _=>by rw[hx,hnew]; omega⟩
    ·rw[if_neg hk] at hx this
     exact⟨(this x hx).1,fun hl=>by rw[hge _ ((this x hx).2 hl)]; exact (this x hx).2 hl⟩
   ·intro hb k k1 k2 k3
    simp only at hb k2 k3 ⊢
    obtain⟨b1,b2,b3⟩:=back k k2 k3
    have hbr:=h.brk hb k k1 b1 b2
    have hdo:=h.done k k1 b1 b2
    rw[b3]
    refine⟨hbr.1,fun x hx hl=>?_⟩
    by_cases hk:some i=some k
    ·rw[if_pos hk] at hx hbr hdo
     rcases Ws.1 hx with hx|hx
     ·rw[hge _ ((hdo x hx).2 hl)]; exact hbr.2 x hx hl
     ·simp only[Wg] at hx
      have hik:i=k:=WD hk
      subst hik
      have:=qgr (opA c i)
      rw[hx,hnew]
      have hh:=hbr.1
      unfold aft
      omega
    ·rw[if_neg hk] at hx hbr hdo
     rw[hge _ ((hdo x hx).2 hl)]; exact hbr.2 x hx hl
   ·intro D hD
    obtain⟨c1,c2⟩:=h.cf D hD
    refine⟨c1,fun k k1 k2=>?_⟩
    simp only at k2 ⊢
    by_cases hk:k=j.toNat
    ·rw[hk,hnew,hD.step i hp2 j.toNat hjs hjl]
     have hDi:gD a.ds i=D i+1:=c2 i hi1 hi2
     rw[show gD a.ds i-1=D i by omega]
     have:=hD.pops i hp2
     have:=qgr (opA c i)
     unfold aft
     omega
    ·rw[hold k hk] at k2 ⊢; exact c2 k k1 k2
   ·refine⟨h.dle.1,fun k k1 k2 k3=>?_⟩
    simp only at k2 k3 ⊢
    obtain⟨b1,b2,b3⟩:=back k k2 k3
    rw[b3]; exact h.dle.2 k k1 b1 b2
   ·rcases h.dat with hd|⟨k,k1,k2,k3,k4⟩
    ·exact .inl hd
    ·refine .inr ⟨k,k1,by simp only; rw[hge k k2]; exact k2,?_,by simp only; rw[hge k k2]; exact k4⟩
     simp only
     rw[Ws,not_or]
     refine⟨k3,?_⟩
     simp only[Wg]
     intro hh
     exact k2 (by rw[hh]; exact h0)
  ·rw[if_neg h0]
   by_cases hd:gD a.ds j.toNat≠aft c i (gD a.ds i-1)+1
   ·rw[if_pos hd]
    refine⟨⟨h.len,h.nodup,h.opn,h.pos,h.ent,h.cur_,?_,h.fal,fun hb=>by simp at hb,?_,h.dle,h.dat⟩,rfl⟩
    ·intro k k1 k2 k3 x hx
     have:=h.done k k1 k2 k3
     by_cases hk:some i=some k
     ·rw[if_pos hk] at hx this
      rcases Ws.1 hx with hx|hx
      ·exact this x hx
      ·simp only[Wg] at hx
       exact⟨fun hh=>absurd (hx ▸ hh) hn,fun _=>by rw[hx]; exact h0⟩
     ·rw[if_neg hk] at hx this
      exact this x hx
    ·intro D hD
     exfalso
     obtain⟨c1,c2⟩:=h.cf D hD
     apply hd
     rw[c2 j.toNat hjl h0,hD.step i hp2 j.toNat hjs hjl,c2 i hi1 hi2,show D i+1-1=D i by omega]
   ·rw[if_neg hd]
    have hd':gD a.ds j.toNat=aft c i (gD a.ds i-1)+1:=by omega
    refine⟨⟨h.len,h.nodup,h.opn,h.pos,h.ent,h.cur_,?_,h.fal,?_,h.cf,h.dle,h.dat⟩,rfl⟩
    ·intro k k1 k2 k3 x hx
     have:=h.done k k1 k2 k3
     by_cases hk:some i=some k
     ·rw[if_pos hk] at hx this
      rcases Ws.1 hx with hx|hx
      ·exact this x hx
      ·simp only[Wg] at hx
       exact⟨fun hh=>absurd (hx ▸ hh) hn,fun _=>by rw[hx]; exact h0⟩
     ·rw[if_neg hk] at hx this
      exact this x hx
    ·intro hb k k1 k2 k3
     have:=h.brk hb k k1 k2 k3
     refine⟨this.1,fun x hx hl=>?_⟩
     by_cases hk:some i=some k
     ·rw[if_pos hk] at hx
      rw[if_pos hk] at this
      rcases Ws.1 hx with hx|hx
      ·exact this.2 x hx hl
      ·simp only[Wg] at hx
       have hik:i=k:=WD hk
       subst hik
       rw[hx]; exact hd'
     ·rw[if_neg hk] at hx this
      exact this.2 x hx hl
end Go.Pm.Gr
end
namespace Go.Pm
section
open Gr
def ixI:List ByteArray->ByteArray->Int
 |[],_ => -1
 |x::l,s=>if x=s then 0 else if ixI l s<0 then -1 else ixI l s+1
def qwl:List ByteArray:=[⟨#[120]⟩,⟨#[121]⟩,⟨#[118,120]⟩,⟨#[118,121]⟩,⟨#[97]⟩,⟨#[98]⟩,⟨#[104,105,116]⟩,⟨#[115,116,105,108,108]⟩]
def fieldI(s:ByteArray):Int:=ixI qwl s
def nameI(s:ByteArray):Int:=if s=⟨#[115,101,108,102]⟩ then 6 else if s=⟨#[111,116,104,101,114]⟩ then 7 else 8
def opI:Bop->Int
 |.add=>9 | .sub=>10 | .mul=>11 | .div=>12
 |.lt=>14 | .gt=>14 | .le=>15 | .ge=>15
 |_=>16
def sq(a b:Int->Cd)(at_:Int):Cd:=a at_++b (at_+(a at_).length)
def brC(c a b:Int->Cd)(at_:Int):Cd:=
 c at_++((19,at_+(c at_).length+1+(a (at_+(c at_).length+1)).length+1)::(a (at_+(c at_).length+1) ++
  ((18,at_+(c at_).length+1+(a (at_+(c at_).length+1)).length+1+(b (at_+(c at_).length+1+(a (at_+(c at_).length+1)).length+1)).length) ::
    b (at_+(c at_).length+1+(a (at_+(c at_).length+1)).length+1))))
def whC(c a:Int->Cd)(at_:Int):Cd:=
 c at_++((19,at_+(c at_).length+1+(a (at_+(c at_).length+1)).length+1)::(a (at_+(c at_).length+1)++[(18,at_)]))
def snC(c:Int->Cd)(i:Int × Int)(at_:Int):Cd:=c at_++[i]
def binC(o:Bop)(a b:Int->Cd):Int->Cd:=
 match o with
 |.and=>brC a b (fun _=>[(1,0)])
 |.or=>brC a (fun _=>[(1,1)]) b
 |.gt=>snC (sq b a) (14,0)
 |.ge=>snC (sq b a) (15,0)
 |.ne=>snC (snC (sq a b) (16,0)) (17,0)
 |o=>snC (sq a b) (opI o,0)
def qdd(vs:List ByteArray):E->Int->Cd
 |.int n=>fun _=>[(1,n)]
 |.bool n=>fun _=>[(1,n)]
 |.var s=>fun _=>[(2,ixI vs s)]
 |.name s=>fun _=>[(nameI s,0)]
 |.field _ s e=>snC (qdd vs e) (4,fieldI s)
 |.un _ neg e=>snC (qdd vs e) (if neg then 13 else 17,0)
 |.bin _ o a b=>binC o (qdd vs a) (qdd vs b)
def codeS(vs:List ByteArray):Ss->Int->Cd
 |.nil=>fun _=>[]
 |.assign _ s e r=>sq (snC (qdd vs e) (3,ixI vs s)) (codeS vs r)
 |.store _ s a b r=>sq (snC (sq (qdd vs a) (qdd vs b)) (5,fieldI s)) (codeS vs r)
 |.effect _ a b r=>sq (snC (sq (qdd vs a) (qdd vs b)) (20,0)) (codeS vs r)
 |.stop r=>sq (fun _=>[(21,0)]) (codeS vs r)
 |.cond false _ c (.block _ x (.block _ y .nil)) r=>sq (brC (qdd vs c) (codeS vs x) (codeS vs y)) (codeS vs r)
 |.cond true _ c (.block _ x .nil) r=>sq (whC (qdd vs c) (codeS vs x)) (codeS vs r)
 |_=>fun _=>[]
def Ln(C:Int->Cd)(n:Nat):Prop := ∀ p,(C p).length=n
theorem qbO{a b:Int->Cd}{n m:Nat}(ha:Ln a n)(hb:Ln b m):Ln (sq a b) (n+m):=fun p=>by simp[sq,ha p,hb _]
theorem qco{c:Int->Cd}{i:Int × Int}{n:Nat}(h:Ln c n):Ln (snC c i) (n+1):=fun p=>by simp[snC,h p]
theorem qmQ{c a b:Int->Cd}{n m k:Nat}(hc:Ln c n)(ha:Ln a m)(hb:Ln b k):Ln (brC c a b) (n+m+k+2):=fun p=>by simp[brC,hc p,ha _,hb _]; omega
theorem qwm{c a:Int->Cd}{n m:Nat}(hc:Ln c n)(ha:Ln a m):Ln (whC c a) (n+m+2):=fun p=>by simp[whC,hc p,ha _]; omega
theorem qyZ{o:Bop}{a b:Int->Cd}{n m:Nat}(ha:Ln a n)(hb:Ln b m) : ∃ k,Ln (binC o a b) k/\n+m+1<=k/\k<=n+m+3/\0<k:=by
 cases o
 case and=>
  have h1:Ln (fun _=>[((1:Int),(0:Int))]) 1:=fun _=>rfl
  exact⟨_,qmQ ha hb h1,by omega,by omega,by omega⟩
 case or=>
  have h1:Ln (fun _=>[((1:Int),(1:Int))]) 1:=fun _=>rfl
  exact⟨_,qmQ ha h1 hb,by omega,by omega,by omega⟩
 case gt=>exact⟨_,qco (qbO hb ha),by omega,by omega,by omega⟩
 case ge=>exact⟨_,qco (qbO hb ha),by omega,by omega,by omega⟩
 case ne=>exact⟨_,qco (qco (qbO ha hb)),by omega,by omega,by omega⟩
 all_goals exact⟨_,qco (qbO ha hb),by omega,by omega,by omega⟩
theorem qqL(vs:List ByteArray) : ∀ e:E,∃ n,Ln (qdd vs e) n/\0<n/\n<=4*e.size
 |.int _=>⟨1,fun _=>rfl,by omega,by simp⟩
 |.bool _=>⟨1,fun _=>rfl,by omega,by simp⟩
 |.var _=>⟨1,fun _=>rfl,by omega,by simp⟩
 |.name _=>⟨1,fun _=>rfl,by omega,by simp⟩
 |.field _ s e=>by
  obtain⟨n,h,h0,h1⟩:=qqL vs e
  exact⟨n+1,qco h,by omega,by simp; omega⟩
 |.un _ neg e=>by
  obtain⟨n,h,h0,h1⟩:=qqL vs e
  exact⟨n+1,qco h,by omega,by simp; omega⟩
 |.bin _ o a b=>by
  obtain⟨n,h,h0,h1⟩:=qqL vs a
  obtain⟨m,g,g0,g1⟩:=qqL vs b
  obtain⟨k,k1,k2,k3,k4⟩:=qyZ (o:=o) h g
  exact⟨k,k1,k4,by simp; omega⟩
theorem qBm(vs:List ByteArray)(b:Ss) : ∃ n,Ln (codeS vs b) n/\n<=4*b.fo.size:=by
 fun_induction codeS vs b with
 |case1=>exact⟨0,fun _=>rfl,by omega⟩
 |case2 _ s e r ih=>
  obtain⟨n,h,h0,h1⟩:=qqL vs e
  obtain⟨m,g,g1⟩:=ih
  exact⟨_,qbO (qco h) g,by simp only[Ss.fo,qam,qcz,qaX]; omega⟩
 |case3 _ s a b r ih=>
  obtain⟨n,h,h0,h1⟩:=qqL vs a
  obtain⟨n',h',h0',h1'⟩:=qqL vs b
  obtain⟨m,g,g1⟩:=ih
  exact⟨_,qbO (qco (qbO h h')) g,by simp only[Ss.fo,qam,qcz,qaX]; omega⟩
 |case4 _ a b r ih=>
  obtain⟨n,h,h0,h1⟩:=qqL vs a
  obtain⟨n',h',h0',h1'⟩:=qqL vs b
  obtain⟨m,g,g1⟩:=ih
  exact⟨_,qbO (qco (qbO h h')) g,by simp only[Ss.fo,qam,qcz,qaX]; omega⟩
 |case5 r ih=>
  obtain⟨m,g,g1⟩:=ih
  exact⟨_,qbO (n:=1) (fun _=>rfl) g,by simp only[Ss.fo,qam,qaX]; omega⟩
 |case6 _ c _ x _ y r ih1 ih2 ih3=>
  obtain⟨n,h,h0,h1⟩:=qqL vs c
  obtain⟨m1,g1,k1⟩:=ih1
  obtain⟨m2,g2,k2⟩:=ih2
  obtain⟨m3,g3,k3⟩:=ih3
  exact⟨_,qbO (qmQ h g1 g2) g3,by simp only[Ss.fo,qam,qcz,qaX]; omega⟩
 |case7 _ c _ x r ih1 ih2=>
  obtain⟨n,h,h0,h1⟩:=qqL vs c
  obtain⟨m1,g1,k1⟩:=ih1
  obtain⟨m2,g2,k2⟩:=ih2
  exact⟨_,qbO (qwm h g1) g2,by simp only[Ss.fo,qam,qcz,qaX]; omega⟩
 |case8=>exact⟨0,fun _=>rfl,by omega⟩
end
end Go.Pm
section
namespace Go.Pm.F
@[simp] abbrev sN:D := .lit (.slice none 0 0)
@[simp] abbrev eN:D := .lit (.string ⟨#[]⟩)
@[simp] abbrev zN:D := .lit (.int .i64 0)
@[simp] abbrev ii(n:Int):D := .lit (.int .i64 n)
@[simp] abbrev kk(n:Int):X := .c (.int .i64 n)
@[simp] abbrev kT:X := .c (.bool true)
@[simp] abbrev kF:X := .c (.bool false)
@[simp] abbrev jj(d:Nat)(o:O):I:=⟨some d,o,none,[]⟩
@[simp] abbrev jn(o:O):I:=⟨none,o,none,[]⟩
@[simp] abbrev jt(d g:Nat)(o:O):I:=⟨some d,o,some (g,true),[]⟩
@[simp] abbrev jf(d g:Nat)(o:O):I:=⟨some d,o,some (g,false),[]⟩
@[simp] abbrev mv(d a:Nat):I:=⟨some d,.mov (.t a),none,[]⟩
@[simp] abbrev mx(d:Nat)(x:X):I:=⟨some d,.mov x,none,[]⟩
@[simp] abbrev l1(d a:Nat):I:=⟨some d,.load false 1 (.t a),none,[]⟩
@[simp] abbrev la(d n a:Nat):I:=⟨some d,.load true n (.t a),none,[]⟩
@[simp] abbrev fa(d o a:Nat):I:=⟨some d,.fieldAddr o (.t a),none,[]⟩
@[simp] abbrev nc(d a:Nat):I:=⟨some d,.nilchk (.t a),none,[]⟩
@[simp] abbrev bx(d a:Nat):I:=⟨some d,.box (.t a),none,[]⟩
@[simp] abbrev ex(d a n:Nat):I:=⟨some d,.extract (.t a) n,none,[]⟩
@[simp] abbrev ls(d a:Nat):I:=⟨some d,.len .sl (.t a),none,[]⟩
@[simp] abbrev lz(d a:Nat):I:=⟨some d,.len .str (.t a),none,[]⟩
@[simp] abbrev bn(d:Nat)(o:BinOp)(a b:Nat):I:=⟨some d,.bin o (.t a) (.t b),none,[]⟩
@[simp] abbrev bk(d:Nat)(o:BinOp)(a:Nat)(n:Int):I:=⟨some d,.bin o (.t a) (.c (.int .i64 n)),none,[]⟩
@[simp] abbrev st(n a b:Nat):I:=⟨none,.store n (.t a) (.t b),none,[]⟩
@[simp] abbrev cl(d f:Nat)(xs:List Nat):I:=⟨some d,.call f (xs.map .t),none,[]⟩
@[simp] abbrev rn(ops:List I)(keep:List Nat)(lasts:List Nat:=[]):PC := .region none ops keep lasts
end Go.Pm.F
end
