/- Functions; the whole run. -/
import Derived.Test.YtcmlfifednjemaaGreatDoorPmAL
import Derived.Test.YtcmlfifednjemaaGreatDoorPmM
import Derived.IntWalk
import Derived.DataReads
import Derived.Below
import Derived.OpenShut
import Derived.FnData
import Derived.LaidMore
set_option linter.unusedSimpArgs false
set_option linter.unusedVariables false
namespace Go.Pm
section
variable{P:Program}{ids:Ids}{fid:Fid}
section
variable{C:Task->Option Res}{ro:Option Nat}
theorem qmi {Γ0 Γ1:Ctx} {D:Nat} (hr:Real fid Γ1) (hs:Step Γ0 Γ1) (hD:MarkAt Γ0 Γ1 D) :
  Real fid ⟨Γ1.σ,Γ1.μ,Γ1.F,Γ1.w.putObj D (.deferred none)⟩/\Step Γ0 ⟨Γ1.σ,Γ1.μ,Γ1.F,Γ1.w.putObj D (.deferred none)⟩/\Ext Γ1 ⟨Γ1.σ,Γ1.μ,Γ1.F,Γ1.w.putObj D (.deferred none)⟩ /\
   ∀ k,k≠D->(Γ1.w.putObj D (.deferred none)).heap[k]? = Γ1.w.heap[k]?:=by
 obtain⟨d1,d2,d3⟩:=hD
 have hF : Γ1.F D=0:=by
  rcases YD (Γ1.F D) with h|h
  ·exact h
  ·obtain⟨arr,e,fz,h1,_⟩:=hr.imm D h
   rw[d2] at h1; cases h1
 have hother : ∀ k,k≠D->(Γ1.w.putObj D (.deferred none)).heap[k]? = Γ1.w.heap[k]?:=fun k hk=>World.putObj_heap_other hk
 have hext:Ext Γ1 ⟨Γ1.σ,Γ1.μ,Γ1.F,Γ1.w.putObj D (.deferred none)⟩:=by
  refine⟨by simp,rfl,rfl,rfl,fun _=>Wi _,fun b i v hi hv=>?_,fun b arr e hb ha=>⟨arr,?_,rfl⟩,Wi _,fun _ ob h ht=>⟨⟨ob,h,ht⟩,fun _ h=>h⟩,fun _ m h=>⟨m,h,Wi _,fun h=>h,fun _ _ h=>h⟩,
   qfm fun l ob h _ => .inl ⟨h,fun b hb=>⟨hb,fun arr e ha=>(hother b fun e=>by subst e; exact d3 l hb).trans ha⟩⟩⟩
  ·rw[cell?_of_block (hother b fun e=>by subst e; omega)]; exact hv
  ·rw[hother b fun e=>by subst e; omega]; exact ha
 have hreal:Real fid ⟨Γ1.σ,Γ1.μ,Γ1.F,Γ1.w.putObj D (.deferred none)⟩:=by
  refine⟨fun l ob b h1 h2=>RepOb.ext hext (hother b fun e=>by subst e; exact d3 l h2) rfl ob (hr.obs l ob b h1 h2),fun l b h=>?_,hr.inj,fun b hb=>?_,Glb.ext hext hr.glb⟩
  ·have:=hr.dom l b h
   exact⟨this.1,by simpa using this.2⟩
  ·obtain⟨a,t,fz,h1,h2⟩:=hr.imm b hb
   have hb':0 < Γ1.F b:=hb
   exact⟨a,t,fz,by rw[hother b fun e=>by subst e; omega]; exact h1,h2⟩
 refine⟨hreal,⟨hs.ext.trans hext,⟨fun b hb hno=>?_,hs.frm.new⟩,hs.non⟩,hext,hother⟩
 have:=hs.frm.same b hb hno
 exact⟨(hother b (by omega)).trans this.1,this.2⟩
theorem DIReps.off{Γ0 Γ1 Γ2:Ctx}{D:Nat}(hext:Ext Γ1 Γ2)(hμ : Γ2.μ = Γ1.μ)(hother : ∀ k,k≠D -> Γ2.w.heap[k]? = Γ1.w.heap[k]?) : ∀ {is:List DI} {ds:List Deferred},D∉qc4 is->DIReps fid Γ0 Γ1 is ds->DIReps fid Γ0 Γ2 is ds
 |[],ds,_,h=>h
 |.m D'::is,ds,hn,⟨d,r,h1,h2,h3⟩=>by
  simp only[qc4,Wp,not_or] at hn
  exact⟨d,r,h1,⟨h2.1,h2.2.1,(hother D' (Yw hn.1)).trans h2.2.2.1,by rw[hμ]; exact h2.2.2.2⟩,DIReps.off hext hμ hother hn.2 h3⟩
 |.c v::is,ds,hn,⟨d,r,h1,h2,h3⟩=>by
  obtain⟨id,as,cap,ys,q1,q2,q3⟩:=h2
  exact⟨d,r,h1,⟨id,as,cap,ys,q1,q2,Reps.ext hext _ _ q3⟩,DIReps.off hext hμ hother hn h3⟩
theorem qd9 (hC:CSound P fid C) {fn:Func} {R:Ending->World->Prop} {N:Nat} {fr:Fr} {tmps:Array Value} {Γ0:Ctx} {σ2:S} : ∀ (is:List DI) (ds:List Deferred) (Γ1:Ctx),DIReps fid Γ0 Γ1 is ds->(qc4 is).Nodup->Real fid Γ1->Step Γ0 Γ1->FrRep fid Γ1 N fr tmps ->
  qbk C (qbG is) Γ1.σ = some σ2 ->
  (∀ Γ',Γ'.σ = σ2->Real fid Γ'->Step Γ0 Γ'->FrRep fid Γ' N fr tmps -> ∃ v,(results fn tmps).run P Γ'.w = .ok v Γ'.w/\R (.returned v) Γ'.w) ->
  LeavesInM Fence.wide 0 P fn tmps R ds .returning Γ1.w
 |[],ds,Γ1,hd,_,hr,hs,hf,h,hk=>by
  simp only[DIReps] at hd; subst hd
  simp only[qbG,qbk,We] at h
  exact hk Γ1 h hr hs hf
 |.m D::is,ds,Γ1,hd,hn,hr,hs,hf,h,hk=>by
  obtain⟨d,r,rfl,⟨rfl,hD⟩,hd'⟩:=hd
  obtain⟨n1,n2⟩:=Yi.1 hn
  obtain⟨a1,a2,a3,a4⟩:=qmi hr hs hD
  have ih:=qd9 hC (fn:=fn) (R:=R) is r ⟨Γ1.σ,Γ1.μ,Γ1.F,Γ1.w.putObj D (.deferred none)⟩ (DIReps.off a3 rfl a4 n1 hd') n2 a1 a2 (hf.ext a3) h hk
  simp only[LeavesInM]
  exact⟨by simp,.inl ⟨D,_,rfl,run_takeDeferred hD.2.1,ih⟩⟩
 |.c v::is,ds,Γ1,hd,hn,hr,hs,hf,h,hk=>by
  obtain⟨d,r,rfl,⟨id,as,cap,ys,rfl,rfl,hargs⟩,hd'⟩:=hd
  simp only[qbG,qbk] at h
  split at h
  ·rename_i v1 σ1 hcall
   have hnil:Rep fid Γ1 (.dat (.lit .nilIface)) .nilIface:=qd0 rfl
   obtain⟨k1,k2⟩:=qfK (u := .returning) hC hr hnil hargs (fun _=>rfl) (fun h=>by cases h) hcall
   have harr:(ys.toList++cap.toList).toArray=ys++cap:=by simp
   rw[harr] at k2
   simp only[LeavesInM]
   refine⟨by simp,.inr ⟨fun h=>by simp[Fence.wide] at h,.func (fid id),cap,fid id,ys++cap,rfl,?_,fun _ _=>trivial,CallsDIn.mono k2 ?_⟩⟩
   ·simp only[invoke]; exact qa5 k1 _ _
   ·rintro e u' w' ⟨Γ',y,rfl,rfl,rfl,q1,q2,q3⟩
    show LeavesInM Fence.wide 0 P fn tmps R r (settle u') Γ'.w
    rw[q3]
    exact qd9 hC is r Γ' (hd'.step q2) hn q1 (hs.trans q2) (hf.ext q2.ext) h hk
  ·cases h
theorem qgR (hC:CSound P fid C) {fn:Func} {R:Ending->World->Prop} {N:Nat} {fr:Fr} {tmps:Array Value} {Γ0:Ctx} {pv:V} {x:Value} : ∀ (is:List DI) (ds:List Deferred) (Γ1:Ctx),DIReps fid Γ0 Γ1 is ds->(qc4 is).Nodup->Real fid Γ1->Step Γ0 Γ1->FrRep fid Γ1 N fr tmps->Rep fid Γ1 pv x ->
  ((qbG is=[] /\ ∀ Γ',Γ'.σ = Γ1.σ -> Real fid Γ'->Step Γ0 Γ'->Rep fid Γ' pv x->R (.panicked [{ v:=x,recovered:=false }]) Γ'.w) \/
   (∃ id as r v1 σ1 σ2,qbG is = .fn id as []::r/\pv.isNilIf=false/\qbB C (.dcall id) (pv::as) Γ1.σ = some (v1,σ1)/\qbk C r σ1=some σ2 /\
    ∀ Γ',Γ'.σ = σ2->Real fid Γ'->Step Γ0 Γ'->FrRep fid Γ' N fr tmps -> ∃ v,(results fn tmps).run P Γ'.w = .ok v Γ'.w/\R (.returned v) Γ'.w)) ->
  LeavesInM Fence.wide 0 P fn tmps R ds (.panicking [{ v:=x,recovered:=false }]) Γ1.w
 |[],ds,Γ1,hd,_,hr,hs,hf,hx,h=>by
  simp only[DIReps] at hd; subst hd
  rcases h with ⟨_,h⟩|⟨id,as,r,v1,σ1,σ2,h,_⟩
  ·simp only[LeavesInM,LeavesIn]; exact h Γ1 rfl hr hs hx
  ·simp[qbG] at h
 |.m D::is,ds,Γ1,hd,hn,hr,hs,hf,hx,h=>by
  obtain⟨d,r,rfl,⟨rfl,hD⟩,hd'⟩:=hd
  obtain⟨n1,n2⟩:=Yi.1 hn
  obtain⟨a1,a2,a3,a4⟩:=qmi hr hs hD
  have ih:=qgR hC (fn:=fn) (R:=R) is r ⟨Γ1.σ,Γ1.μ,Γ1.F,Γ1.w.putObj D (.deferred none)⟩ (DIReps.off a3 rfl a4 n1 hd') n2 a1 a2 (hf.ext a3) (Rep.ext a3 _ _ hx) h
  simp only[LeavesInM]
  exact⟨by simp,.inl ⟨D,_,rfl,run_takeDeferred hD.2.1,ih⟩⟩
 |.c v::is,ds,Γ1,hd,hn,hr,hs,hf,hx,h=>by
  obtain⟨d,r,rfl,⟨id,as,cap,ys,rfl,rfl,hargs⟩,hd'⟩:=hd
  rcases h with ⟨h,_⟩|⟨id',as',r',v1,σ1,σ2,h,hnil,hcall,hrest,hk⟩
  ·simp[qbG] at h
  ·simp only[qbG,WW,V.fn.injEq] at h
   obtain⟨⟨rfl,rfl,_⟩,rfl⟩:=h
   obtain⟨k1,k2⟩:=qfK (u := .panicking [{ v:=x,recovered:=false }]) hC hr hx hargs (fun h=>by rw[hnil] at h; cases h) (fun _=>rfl) hcall
   have harr:(ys.toList++cap.toList).toArray=ys++cap:=by simp
   rw[harr] at k2
   simp only[LeavesInM]
   refine⟨by simp,.inr ⟨fun h=>by simp[Fence.wide] at h,.func (fid id),cap,fid id,ys++cap,rfl,?_,fun _ _=>trivial,CallsDIn.mono k2 ?_⟩⟩
   ·simp only[invoke]; exact qa5 k1 _ _
   ·rintro e u' w' ⟨Γ',y,rfl,rfl,rfl,q1,q2,q3⟩
    show LeavesInM Fence.wide 0 P fn tmps R r (settle u') Γ'.w
    rw[q3]
    exact qd9 hC is r Γ' (hd'.step q2) hn q1 (hs.trans q2) (hf.ext q2.ext) hrest hk
theorem qlu(hid:Ties P ids fid)(hcr:Codes P ids fid)(hC:CSound P fid C)(hL:LSound P ids fid C)(hm:P.follows .mixedOrders=true){args:List V}{σ σ':S}{v:V}(h:qbo C args σ = some (.ret v σ')):qjo P fid args σ v σ':=by
 intro Γ xs hσ hr hargs
 subst hσ
 unfold qbo at h
 split at h
 ·rename_i l vs
  simp only[Reps] at hargs
  obtain⟨x,ys,rfl,hy,hvs⟩:=hargs
  simp only[Rep] at hy
  obtain⟨b,hb,rfl,_⟩:=hy
  split at h
  ·rename_i lp hlp
   split at h
   ·rename_i hcond
    obtain⟨hlen,hst,hflat,hnod⟩:=hcond
    have hnod:(qcW lp.fr lp.ps vs).get dkey=none:=by simpa using hnod
    have hnodefs:(qcW lp.fr lp.ps vs).defs=[]:=by simp[Fr.defs,hnod]
    simp only[Wq] at hflat
    obtain⟨L,q1,q2,q3,_,⟨N,c1,c2,c3,c4⟩,_⟩:=qhi hr hlp hb
    obtain⟨hN,K1,ow1,d1,c1⟩:=(hcr _ _ _).1 c1
    obtain⟨_,K2,ow2,d2,c2⟩:=(hcr _ _ _).1 c2
    have hsz:ys.toArray.size=L.params.size:=by grind [Codes,LSound,qbo,qjo,Reps.length]
    refine⟨l,b,ys,L.fn,_,L.assign,L.body,rfl,rfl,run_yield q1 hsz,?_⟩
    split at h
    ·rename_i fr1 σ1 hrun1
     split at h
     ·rename_i lp1 hlp1
      split at h
      ·rename_i hst1
       obtain⟨hst1,hd1⟩:=hst1
       have hd1:fr1.get dkey=none:=by simpa using hd1
       split at h
       ·cases h
       ·rename_i e fr2 σ2 hnpan hrun2
        split at h
        ·rename_i lp2 hlp2
         split at h
         ·rename_i vs3 σ3 hres
          simp only[We,Res.ret.injEq] at h
          obtain⟨rfl,rfl⟩:=h
          have hfr:FrRep fid Γ N (qcW lp.fr lp.ps vs) ((L.params.zip ys.toArray).foldl (fun t (p,v)=>t.setIfInBounds p v) L.tmps):=by
           have:=qjl (ps:=L.params.toList) (vs:=vs) (ys:=ys) c4 (by rw[q2]; exact c3) hvs
           rw[q2] at this
           rw[<- Array.foldl_toList,Array.toList_zip,q2]
           exact this
          refine roundIn_of_wpIn (F:=Fence.wide) trivial ?_
          refine qbm (ro:=some b) (fl:=true) (hid.with ow1 d1) (hcr.with ow1 d1) hC (hL.with ow1 d1) hm hN (fun _=>rfl) L.assign lp.assign c1 (fun _=>hflat.1) _ .normal fr1 σ1 Γ [] Γ _ _ hrun1 ⟨hr,.refl _,by rw[hnodefs]; exact .nil _ _ _,hfr,fun _=>rfl,fun _=>hnod⟩ fun Γ1 a1 ex g1 g2 g3=>?_
          subst g1
          simp only[qc3] at g3
          subst g3
          have hb1 : Γ1.μ l=some b:=(g2.step.ext.fix l _ hlp rfl).2 b hb
          obtain⟨L1,u1,_,u3,_,_,u6⟩:=qhi g2.real hlp1 hb1
          obtain⟨r2,s2⟩:=u6 1 lp1.pend .busy (lp1.pend.map Ex.code) rfl rfl
          have u4:L1.pending=lp1.pend.map Ex.code:=by grind
          have hL1:({ L1 with state:=LoopState.busy }:Loop)={ L1 with state := .busy,pending:=lp1.pend.map Ex.code }:=by rw[<- u4]
          refine⟨_,run_beginRound u1 (by rw[u3,hst1]; rfl),?_⟩
          rw[hL1]
          refine qbm (ro:=some b) (fl:=true) (hid.with ow2 d2) (hcr.with ow2 d2) hC (hL.with ow2 d2) hm hN (fun _=>rfl) L.body lp.body c2 (fun _=>hflat.2) fr1 e fr2 σ2 Γ [] _ a1 _ hrun2 ⟨r2,g2.step.trans s2,g2.marks.step s2,g2.frame.ext s2.ext,g2.still,fun _=>hd1⟩ fun Γ3 a3 ex g3 g4 g5=>?_
          subst g3
          have hb3 : Γ3.μ l=some b:=(g4.step.ext.fix l _ hlp rfl).2 b hb
          obtain⟨L3,w1,_,_,_,_,w6⟩:=qhi g4.real hlp2 hb3
          have fin : ∀ (st:Nat) (pe:Option Ex) (j:Option Code) (bl:Bool),lp2.ended e={ lp2 with st:=st,pend:=pe }->j=pe.map Ex.code->bl=j.isNone->(if j.isNone then LoopState.ready else .done)=qvA st ->
            ∃ v w',(Instr.endRound b j).run P Γ3.w = .ok v w' /\ ∃ Γ' x,Ending.returned v = .returned x /\ Γ'.w=w' /\ Γ'.σ = σ3/\Real fid Γ'/\Step Γ Γ'/\Rep fid Γ' (.bool bl) x:=by
           intro st pe j bl he hj hbl hstt
           subst hbl
           obtain⟨r4,s4⟩:=w6 st pe _ j hstt hj
           rw[he] at hres
           obtain⟨t1,t2,t3,t4,t5,t6⟩:=qaT r4 hres
           refine⟨_,_,run_endRound j w1,Ctx.part _ _ σ3,_,rfl,rfl,rfl,t5,qdT (g4.step.trans s4) t1 t2 t4 (qgj _ _ _),?_⟩
           simp[Rep,RepD,qbL]
          cases e with
          |normal=>simp only[qc3] at g5; subst g5; exact fin 0 none none true rfl rfl rfl rfl
          |exit id=>simp only[qc3] at g5; subst g5; exact fin 2 (some (.exit id)) (some (.exit id)) false rfl rfl rfl rfl
          |ret=>simp only[qc3] at g5; subst g5; exact fin 2 (some .ret) (some .ret) false rfl rfl rfl rfl
          |pan v=>exact (hnpan _ rfl).elim
         ·cases h
        ·cases h
       ·cases h
      ·cases h
     ·cases h
    ·cases h
   ·cases h
  ·cases h
 ·cases h
theorem qgS {fn:Func} {pf:PFun} {N:Nat} {Γ Γ2:Ctx} {fr':Fr} {tmps:Array Value} {v:V} {σ':S} (hres:qkd P N fn.results.toList=some pf.results) (k2:Real fid Γ2) (k3:Step Γ Γ2) (k4:FrRep fid Γ2 N fr' tmps)
  (hfinish:qc6 pf Γ.σ.length fr' Γ2.σ = some (.ret v σ')) : ∃ y,(results fn tmps).run P Γ2.w = .ok y Γ2.w /\ ∃ Γ',Γ'.w = Γ2.w /\ Γ'.σ = σ'/\Real fid Γ'/\Step Γ Γ'/\Rep fid Γ' v y:=by
 unfold qc6 at hfinish
 split at hfinish
 ·rename_i vs0 hvs0
  obtain⟨ys,r1,r2⟩:=qfF k2 k4 hres hvs0
  have hres':(results fn tmps).run P Γ2.w = .ok (if h:ys.length=1 then ys[0] else .tuple ys.toArray) Γ2.w:=by
   rw[qjk]
   simp only[Sem.run_bind]
   rw[Array.mapM_eq_mapM_toList]
   simp only[Sem.run_map]
   rw[r1]
   simp only[Result.andThen_ok,Sem.run_pure]
   simp
  have plain : ∀ {vs:List V},Reps fid Γ2 vs ys->finishV Γ.σ.length vs Γ2.σ = some (.ret v σ') -> ∃ (Γ':Ctx) (vs':List V),Γ'.σ = σ' /\ Γ'.w = Γ2.w/\Real fid Γ'/\Step Γ Γ'/\Reps fid Γ' vs' ys/\v=one vs':=by
   intro vs hvs hfin
   unfold finishV at hfin
   split at hfin
   ·rename_i vs' σs hrestrict
    simp only[We,Res.ret.injEq] at hfin
    obtain⟨rfl,rfl⟩:=hfin
    obtain⟨t1,t2,t3,t4,t5,t6⟩:=qaT k2 hrestrict
    exact⟨Γ2.part _ σs,vs',rfl,rfl,t5,qdT k3 t1 t2 t4 (qgj _ _ _),t6 ys hvs,rfl⟩
   ·cases hfin
  have hout : ∃ (Γ':Ctx) (vs':List V),Γ'.σ = σ' /\ Γ'.w = Γ2.w/\Real fid Γ'/\Step Γ Γ'/\Reps fid Γ' vs' ys/\v=one vs':=by grind [finishV,qkd,FrRep,qc6,Rep,qn9,qgj,qoe]
  obtain⟨Γ',vs',e1,e2,e3,e4,r3,rfl⟩:=hout
  ·refine⟨_,hres',Γ',e2,e1,e3,e4,?_⟩
   have hl:=Reps.length r3
   cases vs' with
   |nil=>
    simp only[Reps] at r3; subst r3
    simp only[one,Rep]
    exact⟨[],by simp,rfl⟩
   |cons v1 rest=>
    cases rest with
    |nil=>
     simp only[Reps] at r3
     obtain⟨y,ys',rfl,k1,rfl⟩:=r3
     simpa [one] using k1
    |cons v2 rest=>
     have : ¬ ys.length=1:=by rw[hl]; simp
     rw[dif_neg this]
     simp only[one,Rep]
     exact⟨ys,rfl,r3⟩
 ·cases hfinish
theorem qfu{N:Nat}{Γ : Ctx}{args:List V}{xs:List Value}(hargs:Reps fid Γ args xs)(hle:args.length<=N):FrRep fid Γ N (qbq 0 args) (xs.toArray++Array.replicate (N-xs.toArray.size) undef):=by
 have hxl:=Reps.length hargs
 refine⟨by simp; omega,fun t u ht hu=>?_⟩
 obtain⟨_,h2⟩:=qfE hu
 obtain⟨x,h3,h4⟩:=qmS hargs h2
 have:(xs.toArray++Array.replicate (N-xs.toArray.size) undef).getD t undef=x:=by
  have hlt:=(Wc.1 h3).1
  rw[Array.getD_eq_getD_getElem?,WU (by simpa using hlt)]
  simp only[Nat.sub_zero] at h3
  simp[h3]
 rw[this]; exact h4
theorem qhD{args:List V}{k:Nat}(h:args.length<=k):(qbq 0 args).get k=none:=by
 cases hg:(qbq 0 args).get k with
 |none=>rfl
 |some v=>
  obtain⟨_,h2⟩:=qfE hg
  have:=(Wc.1 h2).1
  omega
theorem qlv (hid:Ties P ids fid) (hcr:Codes P ids fid) (hC:CSound P fid C) (hL:LSound P ids fid C) (hm:P.follows .mixedOrders=true) {f:Nat} {fn:Func} {K:Nat->List Nat} {ow df:Bool} {pf:PFun} {c:Code} (hfn:P.funcs[fid f]?=some fn) (hbody:fn.body=some c)
  (hname:(fn.name == "runtime.NumGoroutine")=false) (hN:2*fn.ntmps<=dkey) (hcomp:comp P (ids.with ow df) fn.ntmps K c=some pf.body) (hres:qkd P fn.ntmps fn.results.toList=some pf.results) (hpn:pf.np<=fn.ntmps) (hpd:pf.df=df)
  {args:List V} {σ σ':S} {v:V} (h:qb7 C pf args σ = some (.ret v σ')):qlq P fid f args σ v σ':=by
 unfold qb7 at h
 split at h
 ·rename_i hlen
  refine⟨⟨fn,hfn,hname,by rw[hbody]; rfl⟩,fun Γ xs hσ hr hargs=>?_⟩
  subst hσ
  have hf0:=qfu (N:=fn.ntmps) hargs (by omega)
  have hpos:0<dkey:=by decide
  have hk0:(qbq 0 args).get dkey=none:=qhD (by omega)
  refine callsIn_of_wp_marks (F:=Fence.wide) hfn hbody trivial ?_
  have fin : ∀ (e:Ex) (fr':Fr) (σ1:S),run C Γ.σ.length pf.body (qbq 0 args) Γ.σ = some (e,fr',σ1) ->
    (∀ Γ1 a1 ex,Γ1.σ = σ1->At fid fn.ntmps false df Γ [] fr' Γ1 a1->qc3 fid Γ1 e ex->bodyPostM Fence.wide 0 P fn (fun e w' => ∃ Γ',Γ'.w=w' /\ Γ'.σ = σ'/\Real fid Γ'/\Step Γ Γ'/\qvB fid Γ' v e) ex a1 Γ1.w) ->
    c.wpIn Fence.wide 0 P (bodyPostM Fence.wide 0 P fn (fun e w' => ∃ Γ',Γ'.w=w' /\ Γ'.σ = σ'/\Real fid Γ'/\Step Γ Γ'/\qvB fid Γ' v e)) { tmps:=xs.toArray++Array.replicate (fn.ntmps-xs.toArray.size) undef,defers:=[] } Γ.w:=by
   intro e fr' σ1 hrun hk
   exact qbm (ro:=none) (fl:=false) (hid.with ow df) (hcr.with ow df) hC (hL.with ow df) hm hN (fun h=>by simp at h) c pf.body hcomp (fun h=>by cases h) (qbq 0 args) e fr' σ1 Γ [] Γ _ _ hrun
    ⟨hr,.refl _,by simp only[Fr.defs,hk0]; exact .nil _ _ _,hf0,fun h=>by (cases h),fun _=>hk0⟩ hk
  have norm : ∀ (fr':Fr) (σ1:S) (ex:Exit) (e:Ex),(ex = .normal\/ex = .ret)->(if pf.df then qfQ C pf Γ.σ.length fr' σ1 else qc6 pf Γ.σ.length fr' σ1)=some (.ret v σ') ->
    ∀ Γ1 a1,Γ1.σ = σ1->At fid fn.ntmps false df Γ [] fr' Γ1 a1->bodyPostM Fence.wide 0 P fn (fun e w' => ∃ Γ',Γ'.w=w' /\ Γ'.σ = σ'/\Real fid Γ'/\Step Γ Γ'/\qvB fid Γ' v e) ex a1 Γ1.w:=by
   intro fr' σ1 ex e hex hend Γ1 a1 g1 g2
   subst g1
   obtain⟨is,ds',m1,m2,m3,m4⟩:=g2.marks
   have hrd : ∃ σ2,qbk C (qbG is) Γ1.σ = some σ2/\qc6 pf Γ.σ.length fr' σ2=some (.ret v σ'):=by
    cases hd:df with
    |false=>
     rw[hpd,hd] at hend
     have:fr'.defs=[]:=by simp only[Fr.defs,g2.nod hd]
     rw[this] at m4
     exact⟨Γ1.σ,by rw[m4]; rfl,hend⟩
    |true=>
     rw[hpd,hd] at hend
     simp only[if_true,qfQ] at hend
     split at hend
     ·grind
     ·cases hend
   obtain⟨σ2,h1,h2⟩:=hrd
   have post:LeavesInM Fence.wide 0 P fn a1.tmps (fun e w' => ∃ Γ',Γ'.w=w' /\ Γ'.σ = σ'/\Real fid Γ'/\Step Γ Γ'/\qvB fid Γ' v e) a1.defers .returning Γ1.w:=by
    rw[m1,WD]
    refine qd9 hC is ds' Γ1 m2 m3 g2.real g2.step g2.frame h1 fun Γ2 k1 k2 k3 k4=>?_
    subst k1
    obtain⟨y,r1,Γ',r2,r3,r4,r5,r6⟩:=qgS hres k2 k3 k4 h2
    exact⟨y,r1,Γ',r2,r3,r4,r5,.inl ⟨y,rfl,r6⟩⟩
   rcases hex with rfl|rfl
   ·exact post
   ·exact post
  split at h
  ·rename_i fr' σ1 hrun
   refine fin .normal fr' σ1 hrun fun Γ1 a1 ex g1 g2 g3=>?_
   simp only[qc3] at g3; subst g3
   exact norm fr' σ1 _ .normal (.inl rfl) h Γ1 a1 g1 g2
  ·rename_i fr' σ1 hrun
   refine fin .ret fr' σ1 hrun fun Γ1 a1 ex g1 g2 g3=>?_
   simp only[qc3] at g3; subst g3
   exact norm fr' σ1 _ .ret (.inr rfl) h Γ1 a1 g1 g2
  ·rename_i pv fr' σ1 hrun
   refine fin (.pan pv) fr' σ1 hrun fun Γ1 a1 ex g1 g2 g3=>?_
   subst g1
   obtain⟨x,rfl,hx⟩:=g3
   obtain⟨is,ds',m1,m2,m3,m4⟩:=g2.marks
   show LeavesInM Fence.wide 0 P fn a1.tmps _ a1.defers (.panicking [{ v:=x,recovered:=false }]) Γ1.w
   rw[m1,WD]
   refine qgR hC is ds' Γ1 m2 m3 g2.real g2.step g2.frame hx ?_
   unfold qfl at h
   split at h
   ·rename_i hd
    refine .inl ⟨by rw[m4]; exact hd,fun Γ2 k1 k2 k3 k4=>?_⟩
    rw[<- k1] at h
    split at h
    ·rename_i v' σs hres'
     cases h
     obtain⟨t1,t2,t3,t4,t5,t6⟩:=qaT k2 hres'
     have:=t6 [x] ⟨x,[],rfl,k4,rfl⟩
     simp only[Reps] at this
     obtain⟨y,ys,e1,e2,e3⟩:=this
     cases e1
     exact⟨Γ2.part _ σ',rfl,rfl,t5,qdT k3 t1 t2 t4 (qgj _ _ _),.inr ⟨v',x,rfl,rfl,e2⟩⟩
    ·cases h
   ·rename_i id as r hd
    split at h
    ·cases h
    ·rename_i hnil
     split at h
     ·rename_i v1 σ2 hcall
      split at h
      ·rename_i σ3 hrest
       refine .inr ⟨id,as,r,v1,σ2,σ3,by rw[m4]; exact hd,by simpa using hnil,hcall,hrest,fun Γ2 k1 k2 k3 k4=>?_⟩
       subst k1
       obtain⟨y,r1,Γ',r2,r3,r4,r5,r6⟩:=qgS hres k2 k3 k4 h
       exact⟨y,r1,Γ',r2,r3,r4,r5,.inl ⟨y,rfl,r6⟩⟩
      ·cases h
     ·cases h
   ·cases h
  ·cases h
 ·cases h
theorem qhE{fn:Func}{rs:List PR}{N:Nat}(hres:qkd P N fn.results.toList=some rs)(he:rs.isEmpty=true)(tmps:Array Value)(w:World):(results fn tmps).run P w = .ok (.tuple #[]) w:=by
 have hnil:fn.results.toList=[]:=by
  cases hr:fn.results.toList with
  |nil=>rfl
  |cons r rest=>
   rw[hr] at hres
   cases r with
   |tmp t=>
    simp only[qkd] at hres
    split at hres
    ·simp_all
    ·cases hres
   |cell a t=>
    simp only[qkd] at hres
    split at hres
    ·split at hres<;>cases hres<;>cases he
    ·cases hres
 rw[qjk]
 simp only[Sem.run_bind]
 rw[Array.mapM_eq_mapM_toList,hnil]
 simp
theorem qzI{Γ Γ1:Ctx}(hr:Real fid Γ1)(hs:Step Γ Γ1){vs:List V}{σ':S}(h:qbs (gcL Γ.σ.length [] Γ1.σ) [] Γ1.σ = some (vs,σ')) : ∃ Γ',Γ'.w = Γ1.w /\ Γ'.σ = σ'/\Real fid Γ'/\Step Γ Γ':=by
 obtain⟨t1,t2,t3,t4,t5,t6⟩:=qaT hr h
 exact⟨Γ1.part _ σ',rfl,rfl,t5,qdT hs t1 t2 t4 (qgj _ _ _)⟩
theorem qkq (hid:Ties P ids fid) (hcr:Codes P ids fid) (hC:CSound P fid C) (hL:LSound P ids fid C) (hm:P.follows .mixedOrders=true) {f:Nat} {fn:Func} {K:Nat->List Nat} {ow:Bool} {pf:PFun} {c:Code} (hfn:P.funcs[fid f]?=some fn) (hbody:fn.body=some c)
  (hname:(fn.name == "runtime.NumGoroutine")=false) (hN:2*fn.ntmps<=dkey) (hcomp:comp P (ids.with ow false) fn.ntmps K c=some pf.body) (hres:qkd P fn.ntmps fn.results.toList=some pf.results) (hpn:pf.np<=fn.ntmps) (hpc:pf.catches=false)
  {args:List V} {σ σ':S} {v:V} (h:qaV C pf args σ = some (.ret v σ')):qvi P fid f args σ σ':=by
 refine⟨⟨fn,hfn,hname,by rw[hbody]; rfl⟩,fun Γ pv as px ys u hargs hσ hr hp hys hu hu'=>?_⟩
 subst hσ hargs
 simp only[qaV] at h
 split at h
 ·rename_i hcond
  obtain⟨hlen,hdf,hemp,hflat,hcn⟩:=hcond
  have hnil:pv.isNilIf=true:=by rcases hcn with h | h
                                ·rw[hpc] at h; cases h
                                ·exact h
  have hu1:=hu hnil
  subst hu1
  have hf0:=qfu (N:=fn.ntmps) hys (by omega)
  have hpos:0<dkey:=by decide
  have hk0:Fr.get ((qfN,pv)::qbq 0 as) dkey=none:=by
   simp only[Fr.get]; rw[if_neg (by decide)]; exact qhD (by omega)
  have hf1:FrRep fid Γ fn.ntmps ((qfN,pv)::qbq 0 as) (ys.toArray++Array.replicate (fn.ntmps-ys.toArray.size) undef):=⟨hf0.1,fun t v ht hv=>by
   have:qfN≠t:=fun e=>by
    have h1:qfN=dkey+1:=rfl
    omega
   simp only[Fr.get,if_neg this] at hv
   exact hf0.2 t v ht hv⟩
  have fin : ∀ (e:Ex) (fr':Fr) (σ1:S),(e = .normal\/e = .ret)->run C Γ.σ.length pf.body ((qfN,pv)::qbq 0 as) Γ.σ = some (e,fr',σ1)->(∃ vs,qbs (gcL Γ.σ.length [] σ1) [] σ1=some (vs,σ')) ->
    CallsDIn Fence.wide 0 P (fid f) ys.toArray .returning Γ.w fun e u' w' => ∃ Γ' y,e = .returned y /\ Γ'.w=w' /\ Γ'.σ = σ'/\Real fid Γ'/\Step Γ Γ'/\settle u' = .returning:=by
   intro e fr' σ1 he hrun hend
   obtain⟨vs,hend⟩:=hend
   refine CallsDIn.mono (callsDIn_of_wp (F:=Fence.wide) (n:=0) (R:=fun e w' => ∃ Γ' y,e = .returned y /\ Γ'.w=w' /\ Γ'.σ = σ'/\Real fid Γ'/\Step Γ Γ') hfn hbody trivial ?_) ?_
   ·refine qbm (ro:=none) (fl:=true) (hid.with ow false) (hcr.with ow false) hC (hL.with ow false) hm hN (fun _=>rfl) c pf.body hcomp (fun _=>hflat) _ e fr' σ1 Γ [] Γ _ _ hrun
     ⟨hr,.refl _,by simp only[Fr.defs,hk0]; exact .nil _ _ _,hf1,fun _=>rfl,fun _=>hk0⟩ fun Γ1 a1 ex g1 g2 g3=>?_
    subst g1
    obtain⟨Γ',q1,q2,q3,q4⟩:=qzI g2.real g2.step hend
    have post:a1.defers=[] /\ ∃ v,(results fn a1.tmps).run P Γ1.w = .ok v Γ1.w /\ ∃ Γ' y,Ending.returned v = .returned y /\ Γ'.w = Γ1.w /\ Γ'.σ = σ'/\Real fid Γ'/\Step Γ Γ':=
     ⟨g2.still rfl,_,qhE hres hemp _ _,Γ',_,rfl,q1,q2,q3,q4⟩
    rcases he with rfl|rfl
    ·simp only[qc3] at g3; subst g3; exact post
    ·simp only[qc3] at g3; subst g3; exact post
   ·rintro e u' w' ⟨rfl,Γ',y,q1,q2,q3,q4,q5⟩
    exact⟨Γ',y,q1,q2,q3,q4,q5,rfl⟩
  split at h
  ·grind
  ·grind
  ·cases h
 ·cases h
theorem qlw (hid:Ties P ids fid) {N:Nat} {Γ : Ctx} {fr:Fr} {a:Act} {o:Oper} {neg:Bool} {x:X} {v:V} {σ':S} (hc:cOp P ids N o.op=some (.isnil false neg x)) (hr:Real fid Γ) (hf:FrRep fid Γ N fr a.tmps) (h:qaA C fr Γ.σ (.isnil false neg x)=some (v,σ')) :
  σ' = Γ.σ /\ ∃ y,(execOp a.eval o).run P Γ.w = .ok (.value y) Γ.w/\Rep fid Γ v y:=by
 have fin : ∀ {op:BinOp} {t t':TypeId} {y:Operand} (neg':Bool),(op=if neg' then .neq else .eql)->o.op = .binOp op t y (.const .nilIface) t'->(∃ ms,P.underlying t=some (.interface ms))->(∃ y',cX ids N y=some y'/\O.isnil false neg' y' = .isnil false neg x) ->
   σ' = Γ.σ /\ ∃ y,(execOp a.eval o).run P Γ.w = .ok (.value y) Γ.w/\Rep fid Γ v y:=by
  rintro op t t' y neg' hop ho ⟨ms,ht⟩ ⟨y',h1,e⟩
  cases e
  simp only[qaA] at h
  split at h
  ·rename_i u hu
   split at h
   ·rename_i b hb
    cases h
    obtain⟨g1,g2⟩:=qiX (P:=P) (qah hid hr hf h1 hu) hb (.inl ⟨rfl,rfl,ms,ht⟩) Γ.w
    refine⟨rfl,.bool (if neg then !b else b),?_,qd0 rfl⟩
    have hρ : a.eval (.const .nilIface) = .nilIface:=rfl
    simp only[execOp,ho,hρ]
    generalize a.eval y=z at *
    subst hop
    rcases g2 with ⟨a,c,rfl,_⟩|⟨rfl,_⟩|⟨a,_,h⟩
    ·cases neg<;>simp[eqGuard,binOp,g1]
    ·cases neg<;>simp[eqGuard,binOp,g1]
    ·cases h
   ·cases h
  ·cases h
 cases ho:o.op with
 |binOp op t y z t'=>
  rw[ho] at hc
  simp only[cOp] at hc
  split at hc
  ·simp_all
  ·simp_all
  ·simp_all
  ·simp_all
  ·simp_all
  ·simp_all
  ·exfalso
   repeat' (first
    | (cases hc; done)
    | (simp only[Wf] at hc; obtain⟨_,_,e⟩:=hc; cases e; done)
    |split at hc)
 |makeFunc fn u z=>
  exfalso
  rw[ho] at hc
  cases fn<;>simp only[cOp] at hc
  all_goals repeat' (first
   | (cases hc; done)
   | (simp only[Wf] at hc; obtain⟨_,_,e⟩:=hc; cases e; done)
   |split at hc)
 |_=>
  exfalso
  rw[ho] at hc
  simp only[cOp] at hc
  all_goals (try simp only[qnY] at hc)
  repeat' (first
   | (cases hc; done)
   | (simp only[Wf] at hc; obtain⟨_,_,e⟩:=hc; cases e; done)
   | (simp only[Wf] at hc; obtain⟨_,_,e⟩:=hc; split at e<;>cases e; done)
   | (split at hc<;>first | (cases hc; done) | skip))
theorem qkr (hid:Ties P ids fid) (hcr:Codes P ids fid) (hC:CSound P fid C) (hL:LSound P ids fid C) (hm:P.follows .mixedOrders=true) {f:Nat} {fn:Func} {K:Nat->List Nat} {ow:Bool} {pf:PFun} {c:Code} (hfn:P.funcs[fid f]?=some fn) (hbody:fn.body=some c)
  (hname:(fn.name == "runtime.NumGoroutine")=false) (hN:2*fn.ntmps<=dkey) (hcomp:qn0 P ids K ow false true fn.ntmps c=some pf.body) (hres:qkd P fn.ntmps fn.results.toList=some pf.results) (hpn:pf.np<=fn.ntmps)
  {args:List V} {σ σ':S} {v:V} (h:qaV C pf args σ = some (.ret v σ')):qvi P fid f args σ σ':=by
 refine⟨⟨fn,hfn,hname,by rw[hbody]; rfl⟩,fun Γ pv as px ys u hargs hσ hr hp hys hu hu'=>?_⟩
 subst hσ hargs
 simp only[qaV] at h
 split at h
 ·rename_i hcond
  obtain⟨hlen,hdf,hemp,hflat,_⟩:=hcond
  have hf0:=qfu (N:=fn.ntmps) hys (by omega)
  have hpos:0<dkey:=by decide
  have hrk:qfN=dkey+1:=rfl
  have hk0:Fr.get ((qfN,pv)::qbq 0 as) dkey=none:=by grind [Fr.get,Codes,LSound,dkey,qn0,qkd,qaV,qvi,qhD]
  have hf1:FrRep fid Γ fn.ntmps ((qfN,pv)::qbq 0 as) (ys.toArray++Array.replicate (fn.ntmps-ys.toArray.size) undef):=⟨hf0.1,fun t v ht hv=>by
   have:qfN≠t:=fun e=>by omega
   simp only[Fr.get,if_neg this] at hv
   exact hf0.2 t v ht hv⟩
  have hex : ∃ e fr' σ1 vs,(e = .normal\/e = .ret)/\run C Γ.σ.length pf.body ((qfN,pv)::qbq 0 as) Γ.σ = some (e,fr',σ1)/\qbs (gcL Γ.σ.length [] σ1) [] σ1=some (vs,σ'):=by grind
  obtain⟨e,fr',σ1,vs,he,hrun,hend⟩:=hex
  unfold qn0 at hcomp
  split at hcomp
  ·rename_i id ops rest _
   split at hcomp
   ·rename_i o os hops
    split at hcomp
    ·rename_i c0 ar0 at0 d is r ho hd hg his hrest
     split at hcomp
     ·rename_i hcond2
      obtain⟨hdN,htest⟩:=hcond2
      simp only[We] at hcomp
      obtain⟨dst1,neg,x1,un1,his1⟩ : ∃ dst1 neg x1 un1,is=[⟨dst1,.isnil false neg x1,none,un1⟩]:=by
       unfold qp3 at htest
       split at htest
       ·exact⟨_,_,_,_,rfl⟩
       ·cases htest
      subst his1
      obtain⟨o1,hos⟩ : ∃ o1,os=[o1]:=by
       cases os with
       |nil=>simp[cIs] at his
       |cons o1 os=>
        obtain⟨i,is',e1,e2,_⟩:=qf3 his
        cases e1
        cases os with
        |nil=>exact⟨o1,rfl⟩
        |cons o2 os=>
         obtain⟨i,is',e1,_⟩:=qf3 e2
         cases e1
      subst hos
      obtain⟨i,is',e1,e2,e3⟩:=qf3 his
      cases e1
      have hcI:cI P (ids.with ow false) fn.ntmps false ops (fun _=>[]) 1 o1=some ⟨dst1,.isnil false neg x1,none,un1⟩:=by grind [Codes,LSound,dkey,qn0,qkd,qaV,qvi,qef]
      obtain⟨q1,q2,q3,q4⟩:=qcg hcI
      have q2:dst1=o1.dst:=q2
      subst q2
      have hg1:o1.guard=none:=by grind
      have q1':cOp P (ids.with ow false) fn.ntmps o1.op=some (.isnil false neg x1):=q1
      have hop0:ops[0]?=some o:=by
       have:ops.toList[0]?=some o:=by rw[hops]; rfl
       simpa using this
      have hop1:ops[1]?=some o1:=by
       have:ops.toList[1]?=some o1:=by rw[hops]; rfl
       simpa using this
      have hsz:ops.size=2:=by
       have:ops.toList.length=2:=by rw[hops]; rfl
       simpa using this
      rw[<- hcomp] at hrun
      simp only[run,qeq,qaM,qaA,Fr.get,if_true] at hrun
      refine callsDIn_of_wpSIn (F:=Fence.wide) (n:=0) hfn hbody trivial fun c₀ cs hcu=>?_
      refine wpSIn_seq (wpSIn_region ?_)
      rw[hsz]
      show wpOpsSIn Fence.wide 0 P ops _ [0,1] _ _ _
      unfold wpOpsSIn
      simp only[hop0]
      have hexec : ∀ (a:Act) (w:World),(execOp a.eval o).run P w = .ok .recover w:=fun a w=>by
       simp only[execOp,ho,resolve,Sem.run_bind,Sem.run_pure,Result.andThen_ok,invoke,builtin]
      have hw0 : ∀ tm,Region.wanted o (yielded ops tm)=true:=fun tm=>by simp[Region.wanted,hg]
      have hw1 : ∀ tm,Region.wanted o1 (yielded ops tm)=true:=fun tm=>by simp[Region.wanted,hg1]
      refine⟨fun _ _=>trivial,?_⟩
      rw[hw0]
      simp only[if_true,hexec]
      have key : ∀ (y0:Value) (cs':List Frame) (u2:FrameMode),Rep fid Γ pv y0->cs'={ c₀ with mode:=u2 }::cs->settle u2 = .returning ->
        wpOpsSIn Fence.wide 0 P ops (Exit.thenS (rest.wpSIn Fence.wide 0 P (bodyPostS P fn c₀ cs (fun e u' w' => ∃ Γ' y,e = .returned y /\ Γ'.w=w' /\ Γ'.σ = σ'/\Real fid Γ'/\Step Γ Γ'/\settle u' = .returning))) (bodyPostS P fn c₀ cs (fun e u' w' => ∃ Γ' y,e = .returned y /\ Γ'.w=w' /\ Γ'.σ = σ'/\Real fid Γ'/\Step Γ Γ'/\settle u' = .returning)))
         [1] (Act.put { tmps:=ys.toArray++Array.replicate (fn.ntmps-ys.toArray.size) undef,defers:=[] } o.dst y0) cs' Γ.w:=by
       intro y0 cs' u2 hy0 hcs hset
       unfold wpOpsSIn
       simp only[hop1]
       refine⟨fun _ _=>trivial,?_⟩
       rw[hw1]
       simp only[if_true]
       have hat0:At fid fn.ntmps true (ids.with ow false).df Γ [] ((qfN,pv)::qbq 0 as) Γ { tmps:=ys.toArray++Array.replicate (fn.ntmps-ys.toArray.size) undef,defers:=[] }:=
        ⟨hr,.refl _,by simp only[Fr.defs,hk0]; exact .nil _ _ _,hf1,fun _=>rfl,fun _=>hk0⟩
       have hat1:=hat0.put (d:=o.dst) (v:=pv) (x:=y0) hN (fun k hk=>by rw[hd] at hk; cases hk; exact hdN) hr (.refl _) hy0
       cases hev:qaA C (Fr.put ((qfN,pv)::qbq 0 as) o.dst pv) Γ.σ (.isnil false neg x1) with
       |none=>
        exfalso
        rw[hd] at hev
        simp only[qaA] at hev
        simp only[hev] at hrun
        simp[qcv,qaM,qaA,qbD,Fr.get,hev] at hrun
       |some res=>
        obtain⟨b,σb⟩:=res
        obtain⟨rfl,y1,r1,r2⟩:=qlw (hid.with ow false) q1' hat1.real hat1.frame hev
        rw[r1]
        simp only
        unfold wpOpsSIn
        have hat2:=hat1.put (d:=o1.dst) (v:=b) (x:=y1) hN q3 hr (.refl _) r2
        have hev':=hev
        rw[hd] at hev'
        simp only[qaA] at hev'
        simp only[hev'] at hrun
        simp only[Exit.thenS]
        refine wpSIn_of_wpIn rfl ?_
        have hflr:r.flat=true:=by grind [PC.flat]
        have hat3:At fid fn.ntmps true (ids.with ow false).df Γ [] ((Fr.put (Fr.put ((qfN,pv)::qbq 0 as) o.dst pv) o1.dst b).keep (K id)) Γ ((Act.put { tmps:=ys.toArray++Array.replicate (fn.ntmps-ys.toArray.size) undef,defers:=[] } o.dst y0).put o1.dst y1):=hat2.keep (ids:=ids.with ow false) K id
        rw[hd] at hat3 ⊢
        refine qbm (ro:=none) (fl:=true) (hid.with ow false) (hcr.with ow false) hC (hL.with ow false) hm hN (fun _=>rfl) rest r hrest (fun _=>hflr) _ e fr' σ1 Γ [] Γ _ _ hrun hat3 fun Γ1 a1 ex g1 g2 g3=>?_
        subst g1
        obtain⟨Γ',z1,z2,z3,z4⟩:=qzI g2.real g2.step hend
        have post:a1.defers=[] /\ ∃ u',cs'={ c₀ with mode:=u' }::cs /\ ∃ v,(results fn a1.tmps).run P Γ1.w = .ok v Γ1.w /\ ∃ Γ' y,Ending.returned v = .returned y /\ Γ'.w = Γ1.w /\ Γ'.σ = σ'/\Real fid Γ'/\Step Γ Γ'/\settle u' = .returning:=
         ⟨g2.still rfl,u2,hcs,_,qhE hres hemp _ _,Γ',_,rfl,z1,z2,z3,z4,hset⟩
        rcases he with rfl|rfl
        ·simp only[qc3] at g3; subst g3; exact post
        ·simp only[qc3] at g3; subst g3; exact post
      cases hnil:pv.isNilIf with
      |true=>
       have hu1:=hu hnil
       have hrec:recoverD (c₀ :: cs)=none:=by simp[recoverD,hcu,hu1]
       rw[hrec]
       have hpv:pv = .dat (.lit .nilIface):=by grind [V.isNilIf]
       refine key .nilIface (c₀ :: cs) u (by rw[hpv]; exact qd0 rfl) ?_ (by rw[hu1]; rfl)
       subst hcu; rfl
      |false=>
       have hu1:=hu' hnil
       have hrec:recoverD (c₀ :: cs)=some (px,{ c₀ with mode := .panicking [{ v:=px,recovered:=true }] }::cs):=by simp[recoverD,hcu,hu1]
       rw[hrec]
       exact key px _ (.panicking [{ v:=px,recovered:=true }]) hp rfl rfl
     ·cases hcomp
    ·cases hcomp
   ·cases hcomp
  ·cases hcomp
  ·rename_i h1; cases h1
 ·cases h
theorem qiC (hid:Ties P ids fid) (hcr:Codes P ids fid) (hC:CSound P fid C) (hL:LSound P ids fid C) (hm:P.follows .mixedOrders=true) {f:Nat} {fn:Func} {K:Nat->List Nat} {ns ow df ca:Bool} {pf:PFun} (hfn:P.funcs[fid f]?=some fn) (hc:qp4 P ids K ns ow df ca fn=some pf) :
  (∀ args σ v σ',ca=false->qb7 C pf args σ = some (.ret v σ')->qlq P fid f args σ v σ') /\ ∀ args σ v σ',qaV C pf args σ = some (.ret v σ')->qvi P fid f args σ σ':=by
 unfold qp4 at hc
 split at hc
 ·rename_i c hbody
  split at hc
  ·rename_i body rs hcomp hres
   split at hc
   ·rename_i hcond
    cases hc
    obtain⟨c1,c2,c3,c4⟩:=hcond
    have hname:(fn.name == "runtime.NumGoroutine")=false:=by simpa using c3
    cases ca with
    |false=>
     have hcomp':comp P (ids.with ow df) fn.ntmps K c=some body:=by
      simpa only [qn0] using hcomp
     refine⟨fun args σ v σ' _ h=>qlv hid hcr hC hL hm hfn hbody hname c2 hcomp' hres c1 rfl h,fun args σ v σ' h=>?_⟩
     have hdf:df=false:=by
      unfold qaV at h
      split at h
      ·grind
      ·cases h
     subst hdf
     exact qkq hid hcr hC hL hm hfn hbody hname c2 hcomp' hres c1 rfl h
    |true=>
     have hdf:=c4 rfl
     subst hdf
     exact⟨fun _ _ _ _ h=>by (cases h),fun args σ v σ' h=>qkr hid hcr hC hL hm hfn hbody hname c2 hcomp hres c1 h⟩
   ·cases hc
  ·cases hc
 ·cases hc
end
def Tied(P:Program)(ids:Ids)(fid:Fid)(prog:Nat->Option PFun):Prop:=
 ∀ f pf,prog f=some pf -> ∃ fn K ns ow df,P.funcs[fid f]?=some fn/\qp4 P ids K ns ow df pf.catches fn=some pf
theorem qqm{r:Nat->Nat}{fr:Fr}:(qlx r fr).defs=qd6 r fr.defs:=by
 have hg : ∀ fr:Fr,(qlx r fr).get dkey=(fr.get dkey).map (V.ren r):=fun fr=>by
  induction fr with
  |nil=>rfl
  |cons p fr ih=>
   obtain⟨k,v⟩:=p
   simp only[qlx,Fr.get]
   split
   ·rfl
   ·exact ih
 simp only[Fr.defs,hg]
 cases fr.get dkey with
 |none=>rfl
 |some v=>cases v<;>rfl
theorem qok{fr:Fr} : ∀ l∈qaz fr.defs,l∈qcs fr:=by
 intro l hl
 simp only[Fr.defs] at hl
 split at hl
 ·rename_i vs hg
  have key : ∀ fr:Fr,fr.get dkey=some (.tup vs)->l∈qcs fr:=fun fr=>by
   induction fr with
   |nil=>intro h; simp[Fr.get] at h
   |cons p fr ih=>
    obtain⟨k,v⟩:=p
    intro h
    simp only[Fr.get] at h
    simp only[qcs,Wl]
    split at h
    ·cases h; exact .inl (by simpa only [V.locs] using hl)
    ·exact .inr (ih h)
  exact key fr hg
 ·cases hl
theorem qks {N:Nat} {fl df:Bool} {Γ0 Γ : Ctx} {ds0:List Deferred} {fr fr1:Fr} {σ1:S} {a:Act} (hat:At fid N fl df Γ0 ds0 fr Γ a) (h:gcF Γ0.σ.length fr Γ.σ = some (fr1,σ1)) :
  ∃ Γ1:Ctx,Γ1.σ = σ1 /\ Γ1.w = Γ.w/\At fid N fl df Γ0 ds0 fr1 Γ1 a:=by
 unfold gcF at h
 simp only at h
 split at h
 ·rename_i vs σs hres
  split at h
  ·rename_i hin
   simp only[We,WF] at h
   obtain⟨rfl,rfl⟩:=h
   obtain⟨t1,t2,t3,t4,t5,t6⟩:=qaT hat.real hres
   refine⟨Γ.part _ σs,rfl,rfl,⟨t5,qdT hat.step t1 t2 t4 (qgj _ _ _),?_,FrRep.ren t4 (qgu hin) hat.frame,hat.still,fun hd=>?_⟩⟩
   ·obtain⟨is,ds',m1,m2,m3,m4⟩:=hat.marks
    have ren : ∀ {is:List DI} {ds:List Deferred},DIReps fid Γ0 Γ is ds->(∀ l∈qaz (qbG is),l∈gcL Γ0.σ.length (qcs fr) Γ.σ) ->
      ∃ is',DIReps fid Γ0 (Γ.part (gcL Γ0.σ.length (qcs fr) Γ.σ) σs) is' ds/\qc4 is'=qc4 is/\qbG is'=qd6 (idx (gcL Γ0.σ.length (qcs fr) Γ.σ)) (qbG is):=by
     intro is
     induction is with
     |nil=>intro ds h _; exact⟨[],h,rfl,rfl⟩
     |cons i is ih=>
      intro ds h hl
      obtain⟨d,r,h1,h2,h3⟩:=h
      cases i with
      |m D=>
       obtain⟨is',a1,a2,a3⟩:=ih h3 hl
       refine⟨.m D::is',⟨d,r,h1,⟨h2.1,h2.2.1,h2.2.2.1,fun l hl=>?_⟩,a1⟩,by simp[qc4,a2],a3⟩
       simp only[Ctx.part] at hl
       cases hl':(gcL Γ0.σ.length (qcs fr) Γ.σ)[l]? with
       |none=>rw[hl'] at hl; cases hl
       |some l'=>rw[hl'] at hl; exact h2.2.2.2 l' hl
      |c v=>
       simp only[qbG,qaz,Wl] at hl
       obtain⟨is',a1,a2,a3⟩:=ih h3 (fun l h=>hl l (.inr h))
       obtain⟨id,as,cap,ys,q1,q2,q3⟩:=h2
       subst q1
       refine⟨.c (.fn id (qd6 (idx (gcL Γ0.σ.length (qcs fr) Γ.σ)) as) [])::is',⟨d,r,h1,⟨id,_,cap,ys,rfl,q2,Reps.ren t4 as _ (fun l hl'=>hl l (.inl (by simp[V.locs,hl']))) q3⟩,a1⟩,a2,by simp[qbG,qd6,V.ren,a3]⟩
    obtain⟨is',a1,a2,a3⟩:=ren m2 (fun l hl=>qgu hin l (qok l (by rw[m4] at hl; exact hl)))
    exact⟨is',ds',m1,a1,by rw[a2]; exact m3,by rw[a3,m4,qqm]⟩
   ·have:=hat.nod hd
    cases hg:(qlx (idx (gcL Γ0.σ.length (qcs fr) Γ.σ)) fr).get dkey with
    |none=>rfl
    |some v=>
     obtain⟨u,h1,_⟩:=qjF hg
     rw[this] at h1; cases h1
  ·cases h
 ·cases h
theorem qiD(hid:Ties P ids fid)(hcr:Codes P ids fid)(hm:P.follows .mixedOrders=true){prog:Nat->Option PFun}(ht:Tied P ids fid prog) : ∀ n,CSound P fid (qbX prog n)/\LSound P ids fid (qbX prog n)
 |0=>⟨⟨fun f args σ v σ' h=>by simp[qbX] at h,fun f args σ v σ' h=>by simp[qbX] at h,fun args σ v σ' h=>by simp[qbX] at h⟩,fun k b fr σ e fr' σ' h=>by simp[qbX] at h⟩
 |n+1=>by
  obtain⟨hC,hL⟩:=qiD hid hcr hm ht n
  refine⟨⟨fun f args σ v σ' h=>?_,fun f args σ v σ' h=>?_,fun args σ v σ' h=>?_⟩,fun k b fr σ e fr' σ' h=>?_⟩
  ·grind [qbX,Codes,Tied,LSound,qiC]
  ·grind [qbX,Codes,Tied,LSound,qiC]
  ·grind [qbX,Codes,Tied,LSound,qlu]
  ·simp only[qbX] at h
   split at h
   ·rename_i fr0 σ0 hgc
    split at h
    ·rename_i fr1 σ1 hrun
     obtain⟨m,hs⟩:=hL _ _ _ _ _ _ _ h
     refine⟨m+1,fun N K ow d c ro fl hc hN hro hfl Γ0 ds0 Γ a Q hk0 hσ hat hk=>?_⟩
     subst hσ hk0
     obtain⟨Γ',rfl,e2,hat'⟩:=qks hat hgc
     rw[roundsIn_succ,<- e2]
     refine qbm (hid.with ow d) (hcr.with ow d) hC (hL.with ow d) hm hN hro c b hc hfl fr0 .normal fr1 σ1 Γ0 ds0 Γ' a _ hrun hat' fun Γ1 a1 ex g1 g2 g3=>?_
     simp only[qc3] at g3; subst g3
     exact hs N K ow d c ro fl hc hN hro hfl Γ0 ds0 Γ1 a1 Q rfl g1 g2 hk
    ·rename_i e1 fr1 σ1 hne hrun
     simp only[We,Res.out.injEq] at h
     obtain⟨rfl,rfl,rfl⟩:=h
     refine⟨1,fun N K ow d c ro fl hc hN hro hfl Γ0 ds0 Γ a Q hk0 hσ hat hk=>?_⟩
     subst hσ hk0
     obtain⟨Γ',rfl,e2,hat'⟩:=qks hat hgc
     rw[roundsIn_succ,<- e2]
     refine qbm (hid.with ow d) (hcr.with ow d) hC (hL.with ow d) hm hN hro c b hc hfl fr0 e1 fr1 σ1 Γ0 ds0 Γ' a _ hrun hat' fun Γ1 a1 ex g1 g2 g3=>?_
     have:=hk Γ1 a1 ex g1 g2 g3
     cases e1 with
     |normal=>exact (hne rfl).elim
     |exit id=>simp only[qc3] at g3; subst g3; exact this
     |ret=>simp only[qc3] at g3; subst g3; exact this
     |pan v=>simp only[qc3] at g3; obtain⟨x,rfl,_⟩:=g3; exact this
    ·cases h
   ·cases h
end
end Go.Pm
section
namespace Go.Pm
def Le(C C':Task->Option Res):Prop := ∀ t r,C t=some r->C' t=some r
section
variable{C C':Task->Option Res}
theorem qbA(h:Le C C'){f:List V->S->Task}{args:List V}{σ : S}{r:V × S}(hr:qbB C f args σ = some r):qbB C' f args σ = some r:=by grind [qbB,Le]
theorem qdE(h:Le C C'){f:List V->S->Task}{args:List V}{σ : S}{r:V × S}(hr:qa8 C f args σ = some r):qa8 C' f args σ = some r:=by grind [qa8,Le]
theorem qit(h:Le C C'){fr:Fr}{σ : S}{op:O}{r:V × S}(hr:qbD C fr σ op=some r):qbD C' fr σ op=some r:=by
 cases op with
 |call f xs=>
  simp only[qbD] at hr ⊢
  split at hr
  ·exact qdE h hr
  ·cases hr
 |callv f xs=>
  simp only[qbD] at hr ⊢
  split at hr
  ·exact qdE h hr
  ·exact qdE h hr
  ·cases hr
 |invoke tbl x xs=>
  simp only[qbD] at hr ⊢
  split at hr
  ·grind [Le,qbD,qdE]
  ·cases hr
 |_=>exact hr
theorem qca(h:Le C C'){fr:Fr}{σ : S}{op:O}{r:V × S}(hr:qaA C fr σ op=some r):qaA C' fr σ op=some r:=by
 cases op with
 |call f xs=>
  simp only[qaA] at hr ⊢
  split at hr
  ·exact qbA h hr
  ·cases hr
 |callv f xs=>
  simp only[qaA] at hr ⊢
  split at hr
  ·exact qbA h hr
  ·exact qbA h hr
  ·exact qbA h hr
  ·cases hr
 |invoke tbl x xs=>
  simp only[qaA] at hr ⊢
  split at hr
  ·grind [Le,qaA,qbA]
  ·cases hr
 |_=>exact hr
theorem qeY(h:Le C C') : ∀ {is:List I} {fr:Fr} {σ : S} {r:Fr × S},qeq C is fr σ = some r->qeq C' is fr σ = some r
 |[],_,_,_,hr=>hr
 |i::is,fr,σ,r,hr=>by
  simp only[qeq] at hr ⊢
  split at hr
  ·rename_i hw
   split at hr
   ·rename_i v σ' hv
    simp only[qca h hv]
    exact qeY h hr
   ·cases hr
  ·exact qeY h hr
  ·cases hr
theorem qd7(h:Le C C'){f:List V->S->Task}{args:List V}{σ : S}{r:V × S}(hr:qa8 C f args σ = some r):qbB C' f args σ = none:=by grind [qa8,qbB,Le]
theorem qfG(h:Le C C'){fr:Fr}{σ : S}{op:O}{r:V × S}(hr:qbD C fr σ op=some r):qaA C' fr σ op=none:=by
 cases op with
 |call f xs=>
  simp only[qbD] at hr
  simp only[qaA]
  split at hr
  ·exact qd7 h hr
  ·cases hr
 |callv f xs=>
  simp only[qbD] at hr
  simp only[qaA]
  split at hr
  ·grind [Le,qbD,qaA,qd7]
  ·grind [Le,qbD,qaA,qd7]
  ·cases hr
 |invoke tbl x xs=>
  simp only[qbD] at hr
  simp only[qaA]
  split at hr
  ·grind [Le,qbD,qaA,qd7]
  ·cases hr
 |panic x=>rfl
 |_=>cases hr
theorem qdk(h:Le C C') : ∀ {is:List I} {fr:Fr} {σ : S} {r:V × Fr × S},qcv C is fr σ = some r->qcv C' is fr σ = some r/\qeq C' is fr σ = none
 |[],_,_,_,hr=>by simp[qcv] at hr
 |i::is,fr,σ,r,hr=>by
  simp only[qcv,qeq] at hr ⊢
  split at hr
  ·rename_i hw
   split at hr
   ·rename_i v σ' hv
    simp only[qca h hv]
    exact qdk h hr
   ·grind [Le,qcv,qeq,qfG,qit]
  ·exact qdk h hr
  ·cases hr
theorem qcR(h:Le C C') : ∀ {is:List I} {q:Nat} {fr:Fr} {σ : S} {r:Nat × List Ev × V × S},qbp C q is fr σ = some r->qbp C' q is fr σ = some r/\qcU C' is fr σ = none
 |[],_,_,_,_,hr=>by simp[qbp] at hr
 |i::is,q,fr,σ,r,hr=>by
  simp only[qbp,qcU] at hr ⊢
  split at hr
  ·rename_i hw
   split at hr
   ·rename_i v σ' hv
    simp only[qca h hv]
    split at hr
    ·rename_i p l u σ'' hrest
     obtain⟨h1,h2⟩:=qcR h hrest
     simp only[h1,h2]
     exact⟨hr,trivial⟩
    ·cases hr
   ·grind [Le,qbp,qcU,qfG,qit]
  ·split at hr
   ·rename_i p l u σ'' hrest
    obtain⟨h1,h2⟩:=qcR h hrest
    simp only[h1,h2]
    exact⟨hr,trivial⟩
   ·cases hr
  ·cases hr
theorem qdl(h:Le C C') : ∀ {is:List I} {fr:Fr} {σ : S} {r:List Ev × Fr × S},qcU C is fr σ = some r->qcU C' is fr σ = some r
 |[],_,_,_,hr=>hr
 |i::is,fr,σ,r,hr=>by
  simp only[qcU] at hr ⊢
  split at hr
  ·rename_i hw
   split at hr
   ·rename_i v σ' hv
    simp only[qca h hv]
    split at hr
    ·rename_i l fr' σ'' hrest
     simp only[qdl h hrest]; exact hr
    ·cases hr
   ·cases hr
  ·split at hr
   ·rename_i l fr' σ'' hrest
    simp only[qdl h hrest]; exact hr
   ·cases hr
  ·cases hr
theorem qdU(h:Le C C') : ∀ {is:List I} {fr:Fr} {σ : S} {r:List (Fr × S)},qcV C is fr σ = some r->qcV C' is fr σ = some r
 |[],_,_,_,hr=>hr
 |i::is,fr,σ,r,hr=>by
  simp only[qcV] at hr ⊢
  split at hr
  ·rename_i hw
   split at hr
   ·rename_i v σ' hv
    simp only[qca h hv]
    split at hr
    ·rename_i l hrest
     simp only[qdU h hrest]; exact hr
    ·cases hr
   ·cases hr
  ·split at hr
   ·rename_i l hrest
    simp only[qdU h hrest]; exact hr
   ·cases hr
  ·cases hr
theorem qaZ(h:Le C C'){k:Nat} : ∀ {pc:PC} {fr:Fr} {σ : S} {r:Ex × Fr × S},run C k pc fr σ = some r->run C' k pc fr σ = some r
 |.range f ps as bd,fr,σ,r,hr=>by grind [run,Le,qbA]
 |.skip,_,_,_,hr=>hr
 |.exit _,_,_,_,hr=>hr
 |.ret,_,_,_,hr=>hr
 |.region none ops keep _,fr,σ,r,hr=>by grind [run,Le,qeY,qdk]
 |.region (some rs) ops keep _,fr,σ,r,hr=>by grind [run,Le,qdl,qdU,qcR]
 |.seq a b,fr,σ,r,hr=>by
  simp only[run] at hr ⊢
  split at hr
  ·rename_i fr' σ' hx; simp only[qaZ h hx]; exact qaZ h hr
  ·rename_i hne
   have:=qaZ h hr
   rw[this]
   obtain⟨e,fr',σ'⟩:=r
   cases e with
   |normal=>exact absurd hr (hne _ _)
   |exit id=>rfl
   |ret=>rfl
   |pan v=>rfl
 |.cond c a b,fr,σ,r,hr=>by
  simp only[run] at hr ⊢
  split at hr
  ·exact qaZ h hr
  ·exact qaZ h hr
  ·cases hr
 |.block id b,fr,σ,r,hr=>by
  simp only[run] at hr ⊢
  split at hr
  ·rename_i id' fr' σ' hx; simp only[qaZ h hx]; exact hr
  ·rename_i hne
   have:=qaZ h hr
   rw[this]
   obtain⟨e,fr',σ'⟩:=r
   cases e with
   |normal=>rfl
   |exit id=>exact absurd hr (hne _ _ _)
   |ret=>rfl
   |pan v=>rfl
 |.loop b,fr,σ,r,hr=>by grind [run,Le]
theorem qd8(h:Le C C'){args:List V}{σ : S}{r:Res}(hr:qbo C args σ = some r):qbo C' args σ = some r:=by
 unfold qbo at hr ⊢
 split at hr
 ·split at hr
  ·split at hr
   ·rename_i hlp hc
    simp only[if_pos hc]
    split at hr
    ·rename_i fr1 σ1 hx
     simp only[qaZ h hx]
     split at hr
     ·split at hr
      ·rename_i hlp1 hst
       simp only[hlp1,if_pos hst]
       split at hr
       ·cases hr
       ·rename_i e fr2 σ2 hnp hy
        simp only[qaZ h hy]
        cases e with
        |pan v=>exact (hnp _ rfl).elim
        |normal=>exact hr
        |exit id=>exact hr
        |ret=>exact hr
       ·cases hr
      ·cases hr
     ·cases hr
    ·cases hr
   ·cases hr
  ·cases hr
 ·cases hr
theorem qcb(h:Le C C') : ∀ {l:List V} {σ : S} {r:S},qbk C l σ = some r->qbk C' l σ = some r
 |[],σ,r,hr=>hr
 |v::l,σ,r,hr=>by
  unfold qbk at hr ⊢
  split at hr
  ·rename_i e; cases e
  ·rename_i id a r' e
   cases e
   split at hr
   ·rename_i v' σ' hc
    simp only[qbA h hc]
    exact qcb h hr
   ·cases hr
  ·cases hr
theorem qiu(h:Le C C'){pf:PFun}{k:Nat}{fr:Fr}{σ : S}{r:Res}(hr:qfQ C pf k fr σ = some r):qfQ C' pf k fr σ = some r:=by grind [qfQ,Le,qcb]
theorem qhv(h:Le C C'){pf:PFun}{k:Nat}{v:V}{fr:Fr}{σ : S}{r:Res}(hr:qfl C pf k v fr σ = some r):qfl C' pf k v fr σ = some r:=by
 unfold qfl at hr ⊢
 split at hr
 ·exact hr
 ·grind [Le,qfl,qbA,qcb]
 ·cases hr
theorem qfH(h:Le C C'){pf:PFun}{args:List V}{σ : S}{r:Res}(hr:qb7 C pf args σ = some r):qb7 C' pf args σ = some r:=by grind [qfQ,qc6,qb7,Le,qiu,qaZ,qhv]
theorem qfi(h:Le C C'){pf:PFun}{args:List V}{σ : S}{r:Res}(hr:qaV C pf args σ = some r):qaV C' pf args σ = some r:=by
 unfold qaV at hr ⊢
 split at hr
 ·grind [Le,qaV,qaZ]
 ·cases hr
end
variable{prog:Nat->Option PFun}
theorem qkf : ∀ n,Le (qbX prog n) (qbX prog (n+1))
 |0=>fun t r h=>by simp[qbX] at h
 |n+1=>fun t r h=>by
  have ih:=qkf n
  cases t with
  |call f args σ=>
   simp only[qbX] at h ⊢
   split at h
   ·grind [Le,qbX,qfH]
   ·cases h
  |dcall f args σ=>
   simp only[qbX] at h ⊢
   split at h
   ·exact qfi ih h
   ·cases h
  |round args σ=>
   simp only[qbX] at h ⊢
   exact qd8 ih h
  |loop k b fr σ=>
   simp only[qbX] at h ⊢
   split at h
   ·grind [Le,qbX,qaZ]
   ·cases h
theorem qaU{m n:Nat}(h:m<=n):Le (qbX prog m) (qbX prog n):=by
 induction n with
 | zero => have:m=0:=by omega
           subst this; exact fun _ _ h=>h
 |succ n ih=>
  rcases Yf n m with h'|h'
  ·grind [Le,qbX]
  ·exact fun t r ht=>qkf n t r (ih h' t r ht)
open Classical in
noncomputable def Z(prog:Nat->Option PFun)(t:Task):Option Res:=if h : ∃ n r,qbX prog n t=some r then qbX prog (Classical.choose h) t else none
theorem Z_iff{t:Task}{r:Res}:Z prog t=some r ↔ ∃ n,qbX prog n t=some r:=by
 classical
 unfold Z
 constructor
 ·intro h
  split at h
  ·exact⟨_,h⟩
  ·cases h
 ·rintro ⟨n,hn⟩
  have hex : ∃ n r,qbX prog n t=some r:=⟨n,r,hn⟩
  rw[dif_pos hex]
  obtain⟨r',hr'⟩:=Classical.choose_spec hex
  have h1:=qaU (prog:=prog) (WM n (Classical.choose hex)) t r hn
  have h2:=qaU (prog:=prog) (WH n (Classical.choose hex)) t r' hr'
  rw[h1] at h2
  rw[hr',h2]
theorem qeZ{n:Nat}{t:Task}{r:Res}(h:qbX prog n t=some r):Z prog t=some r:=Z_iff.2 ⟨n,h⟩
theorem qcS{f:List V->S->Task}{args:List V}{σ : S}{r:V × S}(hr:qbB (Z prog) f args σ = some r) : ∃ n,qbB (qbX prog n) f args σ = some r:=by
 unfold qbB at hr ⊢
 simp only at hr ⊢
 split at hr
 ·split at hr
  ·cases hr
  ·rename_i v s' hnp hc
   obtain⟨n,hn⟩:=Z_iff.1 hc
   exact⟨n,by simp only[hn]; exact hr⟩
  ·cases hr
 ·cases hr
theorem qe0{f:List V->S->Task}{args:List V}{σ : S}{r:V × S}(hr:qa8 (Z prog) f args σ = some r) : ∃ n,qa8 (qbX prog n) f args σ = some r:=by
 unfold qa8 at hr ⊢
 simp only at hr ⊢
 split at hr
 ·split at hr
  ·rename_i v s' hc
   obtain⟨n,hn⟩:=Z_iff.1 hc
   exact⟨n,by simp only[hn]; exact hr⟩
  ·cases hr
 ·cases hr
theorem ql8{fr:Fr}{σ : S}{op:O}{r:V × S}(hr:qbD (Z prog) fr σ op=some r) : ∃ n,qbD (qbX prog n) fr σ op=some r:=by
 cases op with
 |call f xs=>
  simp only[qbD] at hr ⊢
  split at hr
  ·exact qe0 hr
  ·cases hr
 |callv f xs=>
  simp only[qbD] at hr ⊢
  split at hr
  ·exact qe0 hr
  ·exact qe0 hr
  ·cases hr
 |invoke tbl x xs=>
  simp only[qbD] at hr ⊢
  split at hr
  ·split at hr
   ·exact qe0 hr
   ·cases hr
  ·cases hr
 |_=>exact⟨0,hr⟩
theorem qhw{fr:Fr}{σ : S}{op:O}{r:V × S}(hr:qaA (Z prog) fr σ op=some r) : ∃ n,qaA (qbX prog n) fr σ op=some r:=by
 cases op with
 |call f xs=>
  simp only[qaA] at hr ⊢
  split at hr
  ·exact qcS hr
  ·cases hr
 |callv f xs=>
  simp only[qaA] at hr ⊢
  split at hr
  ·exact qcS hr
  ·exact qcS hr
  ·exact qcS hr
  ·cases hr
 |invoke tbl x xs=>
  simp only[qaA] at hr ⊢
  split at hr
  ·split at hr
   ·exact qcS hr
   ·cases hr
  ·cases hr
 |_=>exact⟨0,hr⟩
theorem qjm : ∀ {is:List I} {fr:Fr} {σ : S} {r:Fr × S},qeq (Z prog) is fr σ = some r -> ∃ n,qeq (qbX prog n) is fr σ = some r
 |[],_,_,_,hr=>⟨0,hr⟩
 |i::is,fr,σ,r,hr=>by
  simp only[qeq] at hr ⊢
  split at hr
  ·rename_i hw
   split at hr
   ·rename_i v σ' hv
    obtain⟨n,hn⟩:=qhw hv
    obtain⟨m,hm⟩:=qjm hr
    refine⟨max n m,?_⟩
    simp only[qca (qaU (WM n m)) hn]
    exact qeY (qaU (WH n m)) hm
   ·cases hr
  ·exact qjm hr
  ·cases hr
theorem qhx : ∀ {is:List I} {fr:Fr} {σ : S} {r:List Ev × Fr × S},qcU (Z prog) is fr σ = some r -> ∃ n,qcU (qbX prog n) is fr σ = some r
 |[],_,_,_,hr=>⟨0,hr⟩
 |i::is,fr,σ,r,hr=>by
  simp only[qcU] at hr ⊢
  split at hr
  ·rename_i hw
   split at hr
   ·rename_i v σ' hv
    obtain⟨n,hn⟩:=qhw hv
    split at hr
    ·rename_i l fr' σ'' hrest
     obtain⟨m,hm⟩:=qhx hrest
     refine⟨max n m,?_⟩
     simp only[qca (qaU (WM n m)) hn,qdl (qaU (WH n m)) hm]
     exact hr
    ·cases hr
   ·cases hr
  ·split at hr
   ·rename_i l fr' σ'' hrest
    obtain⟨m,hm⟩:=qhx hrest
    exact⟨m,by simp only[hm]; exact hr⟩
   ·cases hr
  ·cases hr
theorem qjn : ∀ {is:List I} {fr:Fr} {σ : S} {r:List (Fr × S)},qcV (Z prog) is fr σ = some r -> ∃ n,qcV (qbX prog n) is fr σ = some r
 |[],_,_,_,hr=>⟨0,hr⟩
 |i::is,fr,σ,r,hr=>by
  simp only[qcV] at hr ⊢
  split at hr
  ·rename_i hw
   split at hr
   ·rename_i v σ' hv
    obtain⟨n,hn⟩:=qhw hv
    split at hr
    ·rename_i l hrest
     obtain⟨m,hm⟩:=qjn hrest
     refine⟨max n m,?_⟩
     simp only[qca (qaU (WM n m)) hn,qdU (qaU (WH n m)) hm]
     exact hr
    ·cases hr
   ·cases hr
  ·split at hr
   ·rename_i l hrest
    obtain⟨m,hm⟩:=qjn hrest
    exact⟨m,by simp only[hm]; exact hr⟩
   ·cases hr
  ·cases hr
theorem qhy : ∀ {is:List I} {fr:Fr} {σ : S} {r:V × Fr × S},qcv (Z prog) is fr σ = some r -> ∃ n,qcv (qbX prog n) is fr σ = some r
 |[],_,_,_,hr=>by simp[qcv] at hr
 |i::is,fr,σ,r,hr=>by
  simp only[qcv] at hr ⊢
  split at hr
  ·rename_i hw
   split at hr
   ·rename_i v σ' hv
    obtain⟨n,hn⟩:=qhw hv
    obtain⟨m,hm⟩:=qhy hr
    refine⟨max n m,?_⟩
    simp only[qca (qaU (WM n m)) hn]
    exact (qdk (qaU (WH n m)) hm).1
   ·split at hr
    ·rename_i v σ' hv
     obtain⟨n,hn⟩:=ql8 hv
     exact⟨n,by simp only[qfG (fun _ _ h=>h) hn,hn]; exact hr⟩
    ·cases hr
  ·exact qhy hr
  ·cases hr
theorem qgk : ∀ {is:List I} {q:Nat} {fr:Fr} {σ : S} {r:Nat × List Ev × V × S},qbp (Z prog) q is fr σ = some r -> ∃ n,qbp (qbX prog n) q is fr σ = some r
 |[],_,_,_,_,hr=>by simp[qbp] at hr
 |i::is,q,fr,σ,r,hr=>by
  simp only[qbp] at hr ⊢
  split at hr
  ·rename_i hw
   split at hr
   ·rename_i v σ' hv
    obtain⟨n,hn⟩:=qhw hv
    split at hr
    ·rename_i p l u σ'' hrest
     obtain⟨m,hm⟩:=qgk hrest
     refine⟨max n m,?_⟩
     simp only[qca (qaU (WM n m)) hn,(qcR (qaU (WH n m)) hm).1]
     exact hr
    ·cases hr
   ·split at hr
    ·rename_i v σ' hv
     obtain⟨n,hn⟩:=ql8 hv
     exact⟨n,by simp only[qfG (fun _ _ h=>h) hn,hn]; exact hr⟩
    ·cases hr
  ·split at hr
   ·rename_i p l u σ'' hrest
    obtain⟨m,hm⟩:=qgk hrest
    exact⟨m,by simp only[hm]; exact hr⟩
   ·cases hr
  ·cases hr
theorem qdm{k:Nat} : ∀ {pc:PC} {fr:Fr} {σ : S} {r:Ex × Fr × S},run (Z prog) k pc fr σ = some r -> ∃ n,run (qbX prog n) k pc fr σ = some r
 |.range f ps as bd,fr,σ,r,hr=>by grind [run,Z,qbX,qcS]
 |.skip,_,_,_,hr=>⟨0,hr⟩
 |.exit _,_,_,_,hr=>⟨0,hr⟩
 |.ret,_,_,_,hr=>⟨0,hr⟩
 |.region none ops keep _,fr,σ,r,hr=>by
  simp only[run] at hr ⊢
  split at hr
  ·grind [run,Z,qbX,qjm]
  ·split at hr
   ·rename_i v fr' σ' hx
    obtain⟨n,hn⟩:=qhy hx
    exact⟨n,by simp only[hn,(qdk (fun _ _ h=>h) hn).2]; exact hr⟩
   ·cases hr
 |.region (some rs) ops keep _,fr,σ,r,hr=>by
  simp only[run] at hr ⊢
  split at hr
  ·rename_i es fr' σ' hx
   obtain⟨n,hn⟩:=qhx hx
   split at hr
   ·grind
   ·rename_i hc
    split at hr
    ·rename_i ss ht
     obtain⟨m,hm⟩:=qjn ht
     refine⟨max n m,?_⟩
     simp only[qdl (qaU (WM n m)) hn,qdU (qaU (WH n m)) hm]
     rw[if_neg hc]; exact hr
    ·cases hr
  ·split at hr
   ·rename_i p es v σ' hx
    obtain⟨n,hn⟩:=qgk hx
    exact⟨n,by simp only[hn,(qcR (fun _ _ h=>h) hn).2]; exact hr⟩
   ·cases hr
 |.seq a b,fr,σ,r,hr=>by
  simp only[run] at hr ⊢
  split at hr
  ·rename_i fr' σ' hx
   obtain⟨n,hn⟩:=qdm hx
   obtain⟨m,hm⟩:=qdm hr
   refine⟨max n m,?_⟩
   simp only[qaZ (qaU (WM n m)) hn]
   exact qaZ (qaU (WH n m)) hm
  ·rename_i hne
   obtain⟨n,hn⟩:=qdm hr
   refine⟨n,?_⟩
   rw[hn]
   obtain⟨e,fr',σ'⟩:=r
   cases e with
   |normal=>exact absurd hr (hne _ _)
   |exit id=>rfl
   |ret=>rfl
   |pan v=>rfl
 |.cond c a b,fr,σ,r,hr=>by
  simp only[run] at hr ⊢
  split at hr
  ·exact qdm hr
  ·exact qdm hr
  ·cases hr
 |.block id b,fr,σ,r,hr=>by
  simp only[run] at hr ⊢
  split at hr
  ·rename_i id' fr' σ' hx
   obtain⟨n,hn⟩:=qdm hx
   exact⟨n,by simp only[hn]; exact hr⟩
  ·rename_i hne
   obtain⟨n,hn⟩:=qdm hr
   refine⟨n,?_⟩
   rw[hn]
   obtain⟨e,fr',σ'⟩:=r
   cases e with
   |normal=>rfl
   |exit id=>exact absurd hr (hne _ _ _)
   |ret=>rfl
   |pan v=>rfl
 |.loop b,fr,σ,r,hr=>by
  simp only[run] at hr ⊢
  split at hr
  ·rename_i e fr' σ' hx
   obtain⟨n,hn⟩:=Z_iff.1 hx
   exact⟨n,by simp only[hn]; exact hr⟩
  ·cases hr
theorem qew : ∀ {l:List V} {σ : S} {r:S},qbk (Z prog) l σ = some r -> ∃ n,qbk (qbX prog n) l σ = some r
 |[],σ,r,hr=>⟨0,hr⟩
 |v::l,σ,r,hr=>by
  unfold qbk at hr ⊢
  split at hr
  ·rename_i e; cases e
  ·rename_i id a r' e
   cases e
   split at hr
   ·rename_i v' σ' hc
    obtain⟨n,hn⟩:=qcS hc
    obtain⟨m,hm⟩:=qew hr
    refine⟨max n m,?_⟩
    simp only[qbA (qaU (WM n m)) hn]
    exact qcb (qaU (WH n m)) hm
   ·cases hr
  ·cases hr
theorem ql9{pf:PFun}{k:Nat}{fr:Fr}{σ : S}{r:Res}(hr:(if pf.df then qfQ (Z prog) pf k fr σ else qc6 pf k fr σ)=some r) : ∃ n,(if pf.df then qfQ (qbX prog n) pf k fr σ else qc6 pf k fr σ)=some r:=by
 split at hr
 ·grind [qfQ,Z,qc6,qbX,qew]
 ·rename_i hd
  simp only[if_neg hd]
  exact⟨0,hr⟩
theorem qoa{pf:PFun}{k:Nat}{v:V}{fr:Fr}{σ : S}{r:Res}(hr:qfl (Z prog) pf k v fr σ = some r) : ∃ n,qfl (qbX prog n) pf k v fr σ = some r:=by
 unfold qfl at hr ⊢
 split at hr
 ·exact⟨0,hr⟩
 ·split at hr
  ·cases hr
  ·rename_i hn
   simp only[if_neg hn]
   split at hr
   ·rename_i v' σ' hc
    obtain⟨n,hn⟩:=qcS hc
    split at hr
    ·rename_i σ'' hx
     obtain⟨m,hm⟩:=qew hx
     refine⟨max n m,?_⟩
     simp only[qbA (qaU (WM n m)) hn,qcb (qaU (WH n m)) hm]
     exact hr
    ·cases hr
   ·cases hr
 ·cases hr
theorem qln{pf:PFun}{args:List V}{σ : S}{r:Res}(h:qb7 (Z prog) pf args σ = some r) : ∃ n,qb7 (qbX prog n) pf args σ = some r:=by
 have lv : ∀ {n m k fr σ},(if pf.df then qfQ (qbX prog m) pf k fr σ else qc6 pf k fr σ)=some r->m<=n->(if pf.df then qfQ (qbX prog n) pf k fr σ else qc6 pf k fr σ)=some r:=fun hr hle=>by
  split at hr
  ·rename_i hd; rw[if_pos hd]; exact qiu (qaU hle) hr
  ·rename_i hd; rw[if_neg hd]; exact hr
 unfold qb7 at h ⊢
 split at h
 ·rename_i hl
  simp only[if_pos hl]
  split at h
  ·rename_i fr σ' hx
   obtain⟨n,hn⟩:=qdm hx
   obtain⟨m,hm⟩:=ql9 h
   refine⟨max n m,?_⟩
   simp only[qaZ (qaU (WM n m)) hn]
   exact lv hm (WH n m)
  ·rename_i fr σ' hx
   obtain⟨n,hn⟩:=qdm hx
   obtain⟨m,hm⟩:=ql9 h
   refine⟨max n m,?_⟩
   simp only[qaZ (qaU (WM n m)) hn]
   exact lv hm (WH n m)
  ·rename_i v fr σ' hx
   obtain⟨n,hn⟩:=qdm hx
   obtain⟨m,hm⟩:=qoa h
   refine⟨max n m,?_⟩
   simp only[qaZ (qaU (WM n m)) hn]
   exact qhv (qaU (WH n m)) hm
  ·cases h
 ·cases h
theorem qaa{f:Nat}{pf:PFun}{args:List V}{σ : S}{r:Res}(hf:prog f=some pf)(hc:pf.catches=false)(h:qb7 (Z prog) pf args σ = some r):Z prog (.call f args σ)=some r:=by
 obtain⟨n,hn⟩:=qln h
 exact qeZ (n:=n+1) (by simp only[qbX,hf,hc,Wm,if_false,hn])
theorem qob{f:Nat}{pf:PFun}{args:List V}{σ : S}{r:Res}(hf:prog f=some pf)(h:qaV (Z prog) pf args σ = some r):Z prog (.dcall f args σ)=some r:=by
 have : ∃ n,qaV (qbX prog n) pf args σ = some r:=by
  unfold qaV at h ⊢
  split at h
  ·grind [qaV,Z,qdm]
  ·cases h
 obtain⟨n,hn⟩:=this
 exact qeZ (n:=n+1) (by simp only[qbX,hf,hn])
theorem qlo{k:Nat}{b:PC}{fr fr0 fr':Fr}{σ σ0 σ':S}{r:Res}(hg:gcF k fr σ = some (fr0,σ0))(h:run (Z prog) k b fr0 σ0=some (.normal,fr',σ'))(hr:Z prog (.loop k b fr' σ')=some r):Z prog (.loop k b fr σ)=some r:=by
 obtain⟨n,hn⟩:=qdm h
 obtain⟨m,hm⟩:=Z_iff.1 hr
 refine qeZ (n:=max n m+1) ?_
 simp only[qbX,hg,qaZ (qaU (WM n m)) hn]
 exact qaU (WH n m) _ _ hm
theorem qna{k:Nat}{b:PC}{fr fr0 fr':Fr}{σ σ0 σ':S}{e:Ex}(he:e ≠ .normal)(hg:gcF k fr σ = some (fr0,σ0))(h:run (Z prog) k b fr0 σ0=some (e,fr',σ')):Z prog (.loop k b fr σ)=some (.out e fr' σ'):=by
 obtain⟨n,hn⟩:=qdm h
 refine qeZ (n:=n+1) ?_
 simp only[qbX,hg,hn]
 all_goals (cases e with
  |normal=>exact absurd rfl he
  |exit id=>rfl
  |ret=>rfl
  |pan v=>rfl)
theorem qsZ{args:List V}{σ : S}{r:Res}(h:qbo (Z prog) args σ = some r):Z prog (.round args σ)=some r:=by
 have : ∃ n,qbo (qbX prog n) args σ = some r:=by
  unfold qbo at h ⊢
  split at h
  ·split at h
   ·split at h
    ·rename_i hlp hc
     simp only[if_pos hc]
     split at h
     ·rename_i fr1 σ1 hx
      obtain⟨n,hn⟩:=qdm hx
      split at h
      ·split at h
       ·rename_i hlp1 hst
        split at h
        ·cases h
        ·rename_i e fr2 σ2 hnp hy
         obtain⟨m,hm⟩:=qdm hy
         refine⟨max n m,?_⟩
         simp only[qaZ (qaU (WM n m)) hn,hlp1,if_pos hst,qaZ (qaU (WH n m)) hm]
         cases e with
         |pan v=>exact (hnp _ rfl).elim
         |normal=>exact h
         |exit id=>exact h
         |ret=>exact h
        ·cases h
       ·cases h
      ·cases h
     ·cases h
    ·cases h
   ·cases h
  ·cases h
 obtain⟨n,hn⟩:=this
 exact qeZ (n:=n+1) (by simp only[qbX,hn])
variable{P:Program}{ids:Ids}{fid:Fid}
def qoc(w:World):Nat->Nat:=fun b=>match w.heap[b]? with
 |some (.cells arr _ _)=>arr.size
 |_=>0
def qfr(w:World):Ctx:=⟨[],fun _=>none,qoc w,w⟩
def GlbAt(fid:Fid)(w:World):Prop := ∀ g cs,fid.gl g=some cs -> ∃ vs,RepDs (qoc w) w cs vs/\Row (qoc w) w g 0 vs
theorem qnb{w:World}(hg:GlbAt fid w):Real fid (qfr w):=by
 refine⟨fun l ob b h=>by simp[qfr] at h,fun l b h=>by simp[qfr] at h,fun l l' b h=>by simp[qfr] at h,fun b hb=>?_,hg⟩
 simp only[qfr,qoc] at hb ⊢
 cases h:w.heap[b]? with
 |none=>rw[h] at hb; simp at hb
 |some o=>
  rw[h] at hb
  cases o<;>simp only at hb<;>first | (exact absurd hb (WR _)) | exact⟨_,_,_,rfl,Wi _⟩
theorem calls_of_Z (hid:Ties P ids fid) (hcr:Codes P ids fid) (hm:P.follows .mixedOrders=true) (ht:Tied P ids fid prog) {f:Nat} {args:List V} {xs:List Value} {d:Value} {σ':S} {w:World} (h:Z prog (.call f args [])=some (.ret (.dat (.lit d)) σ')) (hg:GlbAt fid w)
  (ha:Reps fid (qfr w) args xs):Calls P (fid f) xs.toArray w fun e w'=>e = .returned d/\w'.os=w.os/\w'.tape=w.tape/\w'.output=w.output/\w.heap.size<=w'.heap.size /\ ∀ k,k<w.heap.size->w'.heap[k]?=w.heap[k]?:=by
 obtain⟨n,hn⟩:=Z_iff.1 h
 obtain⟨_,hs⟩:=(qiD hid hcr hm ht n).1.call _ _ _ _ _ hn
 refine (callsIn_wide.1 (hs (qfr w) xs rfl (qnb hg) ha)).mono ?_
 rintro e w' ⟨Γ',rfl,_,_,h3,hout⟩
 rcases hout with ⟨x,rfl,h4⟩|⟨u,x,hu,_⟩
 rotate_left
 ·cases hu
 refine⟨by rw[(qas h4).1],h3.ext.os,h3.ext.tape,h3.ext.output,h3.ext.size,fun k hk=>(h3.frm.same k hk fun l h=>by simp[qfr] at h).1⟩
end Go.Pm
namespace Go.Pm
variable{prog:Nat->Option PFun}
theorem qod{α : Type}{a b:Option α}(h : ∀ r,a=some r->b=some r)(k : ∀ r,b=some r->a=some r):a=b:=by
 cases a with
 |some r=>exact (h r rfl).symm
 |none=>cases b with
  |none=>rfl
  |some r=>exact k r rfl
theorem qsd{n:Nat}:Le (qbX prog n) (Z prog):=fun _ _ h=>qeZ h
def qad(C:Task->Option Res)(k:Nat)(b:PC):Option (Fr × S)->Option Res
 |some (fr0,σ0)=>match run C k b fr0 σ0 with
  |some (.normal,fr',σ')=>C (.loop k b fr' σ')
  |some (e,fr',σ')=>some (.out e fr' σ')
  |none=>none
 |none=>none
theorem qac(k:Nat)(b:PC)(fr:Fr)(σ : S):Z prog (.loop k b fr σ)=qad (Z prog) k b (gcF k fr σ):=by
 refine qod (fun r h=>?_) (fun r h=>?_)
 ·obtain⟨n,hn⟩:=Z_iff.1 h
  cases n with
  |zero=>simp[qbX] at hn
  |succ n=>
   simp only[qbX] at hn
   split at hn
   ·grind [qad,Z,gcF,qaZ,qsd,qeZ]
   ·cases hn
 ·grind [qad,Z,gcF,qlo,qna]
theorem qcx(args:List V)(σ : S):Z prog (.round args σ)=qbo (Z prog) args σ:=by
 refine qod (fun r h=>?_) (fun r h=>qsZ h)
 obtain⟨n,hn⟩:=Z_iff.1 h
 cases n with
 |zero=>simp[qbX] at hn
 |succ n=>
  simp only[qbX] at hn
  exact qd8 qsd hn
theorem qma{prog prog':Nat->Option PFun}(hs : ∀ f pf,prog f=some pf->prog' f=some pf) : ∀ n,Le (qbX prog n) (qbX prog' n)
 |0=>fun t r h=>by simp[qbX] at h
 |n+1=>fun t r h=>by
  have ih:=qma hs n
  cases t with
  |call f args σ=>
   simp only[qbX] at h ⊢
   split at h
   ·grind [Le,qbX,qfH]
   ·cases h
  |dcall f args σ=>
   simp only[qbX] at h ⊢
   split at h
   ·grind [Le,qbX,qfi]
   ·cases h
  |round args σ=>
   simp only[qbX] at h ⊢
   exact qd8 ih h
  |loop k b fr σ=>
   simp only[qbX] at h ⊢
   split at h
   ·grind [Le,qbX,qaZ]
   ·cases h
theorem qcy{prog prog':Nat->Option PFun}(hs : ∀ f pf,prog f=some pf->prog' f=some pf){t:Task}{r:Res}(h:Z prog t=some r):Z prog' t=some r:=by
 obtain⟨n,hn⟩:=Z_iff.1 h
 exact qeZ (qma hs n _ _ hn)
end Go.Pm
end
namespace Go.Pm
section
attribute [simp] qv0 qxM qnu qet qn2 qol qom qik outV qmk qp7 qdV finishV Ob.rows qv1 qv2 appendO qjx V.isStr qnt qfO qfQ qfl qbk Fr.defs qbD qcv qfM undef qb7 qbq run qeq qcU qaA qaM X.ev evs qdn qfv Fr.get Fr.put Fr.keep qkv unV qqo qc6 qsl qnr qiI V.sealT V.sealv qbs qiJ reach qaz V.locs qkt inL qku qd6 V.ren one
 gcL gcF qcs qlx Ob.locs Ob.ren qg6 qqn idx back qav qbB qb6 qbn qa9 qaq qdg qdo qgq qhH qcT storeV qcA qvo Value.oneCell' qbC V.aggCells qdM qeo
@[simp] theorem qyi(v:Value):V.one (.dat (.lit v))=v.oneCell':=rfl
@[simp] theorem qvN(v:Value):V.cells (.dat (.lit v))=[(.dat (.lit v))]:=rfl
@[simp] theorem qzE(cs:List D)(n:Nat)(f:Bool):V.one (.dat (.sl cs n f))=true:=rfl
@[simp] theorem qxB(cs:List D)(n:Nat)(f:Bool):V.cells (.dat (.sl cs n f))=[(.dat (.sl cs n f))]:=rfl
@[simp] theorem qyj(cs:List D)(o:Nat):V.one (.dat (.imm cs o))=true:=rfl
@[simp] theorem qvO(cs:List D)(o:Nat):V.cells (.dat (.imm cs o))=[(.dat (.imm cs o))]:=rfl
@[simp] theorem qxC(cs:List D):V.one (.dat (.agg cs))=false:=rfl
@[simp] theorem qvj(cs:List D):V.cells (.dat (.agg cs))=cs.map .dat:=rfl
@[simp] theorem qvk(t:Nat)(d:D):V.one (.dat (.iface t d))=true:=rfl
@[simp] theorem qsj(t:Nat)(d:D):V.cells (.dat (.iface t d))=[(.dat (.iface t d))]:=rfl
@[simp] theorem qyk(l o:Nat):V.one (.ptr l o)=true:=rfl
@[simp] theorem qvP(l o:Nat):V.cells (.ptr l o)=[(.ptr l o)]:=rfl
@[simp] theorem qyl(cs:List D)(n sz l:Nat):V.one (.gsl cs n sz l)=true:=rfl
@[simp] theorem qvQ(cs:List D)(n sz l:Nat):V.cells (.gsl cs n sz l)=[(.gsl cs n sz l)]:=rfl
@[simp] theorem qym(l o n cap sz:Nat):V.one (.msl l o n cap sz)=true:=rfl
@[simp] theorem qvR(l o n cap sz:Nat):V.cells (.msl l o n cap sz)=[(.msl l o n cap sz)]:=rfl
@[simp] theorem qyn(l n sz:Nat):V.one (.own l n sz)=true:=rfl
@[simp] theorem qvS(l n sz:Nat):V.cells (.own l n sz)=[(.own l n sz)]:=rfl
@[simp] theorem qxD(l n o:Nat):V.one (.eptr l n o)=true:=rfl
@[simp] theorem qvl(l n o:Nat):V.cells (.eptr l n o)=[(.eptr l n o)]:=rfl
@[simp] theorem qzF(g:Nat)(v:V):V.one (.bm g v)=true:=rfl
@[simp] theorem qxE(g:Nat)(v:V):V.cells (.bm g v)=[(.bm g v)]:=rfl
@[simp] theorem qyo(cs:List V):V.one (.agg cs)=false:=rfl
@[simp] theorem qvT(cs:List V):V.cells (.agg cs)=cs:=rfl
@[simp] theorem qzG(f:Nat)(a b:List V):V.one (.fn f a b)=true:=rfl
@[simp] theorem qxF(f:Nat)(a b:List V):V.cells (.fn f a b)=[(.fn f a b)]:=rfl
@[simp] theorem qzH(l:Nat):V.one (.mp l)=true:=rfl
@[simp] theorem qxG(l:Nat):V.cells (.mp l)=[(.mp l)]:=rfl
@[simp] theorem qvU(t:Nat)(v:V):V.one (.iface t v)=true:=rfl
@[simp] theorem qtb(t:Nat)(v:V):V.cells (.iface t v)=[(.iface t v)]:=rfl
@[simp] theorem qyp(vs:List V):V.one (.tup vs)=false:=rfl
@[simp] theorem qvV(vs:List V):V.cells (.tup vs)=[(.tup vs)]:=rfl
@[simp] theorem qyq(l:Nat):V.one (.yld l)=true:=rfl
@[simp] theorem qvW(l:Nat):V.cells (.yld l)=[(.yld l)]:=rfl
@[simp] theorem qxH{α : Type}(cs:List α):qaj cs 0 0=some []:=by simp[qaj]
@[simp] theorem qxI{α : Type}(c : α)(cs:List α)(n:Nat):qaj (c::cs) 0 (n+1)=(qaj cs 0 n).map (c :: ·):=by grind [qaj]
@[simp] theorem qxJ{α : Type}(c : α)(cs:List α)(o n:Nat):qaj (c::cs) (o+1) n=qaj cs o n:=by
 simp only[qaj,YB]
@[simp] theorem qyr(a b:Int):eqI a b=decide (a=b):=rfl
abbrev I64(n:Int):Prop := -9223372036854775808<=n/\n<=9223372036854775807
theorem qaf(n:Int)(h : -9223372036854775808<=n/\n<=9223372036854775807):IntKind.i64.wrap n=n:=by rw[IntKind.wrap_i64]; omega
def qan(xs:List Int):List D:=xs.map fun x => .lit (.int .i64 x)
def qni:List Int->D
 |[] => .lit (.slice none 0 0)
 |x::xs => .sl (qan (x::xs)) (x::xs).length false
@[simp] theorem qvX(σ : S)(xs:List Int):V.len σ .sl (.dat (qni xs))=some xs.length:=by
 cases xs<;>simp[qni,V.len]
@[simp] theorem qvY(xs:List Int):V.one (.dat (qni xs))=true:=by cases xs<;>rfl
@[simp] theorem qtc(xs:List Int):V.cells (.dat (qni xs))=[.dat (qni xs)]:=by cases xs<;>rfl
theorem qhC(xs:List Int)(i:Nat)(h:i<xs.length):qaj (qan xs) i 1=some [.lit (.int .i64 xs[i])]:=by
 unfold qaj qan
 rw[WC (by simpa using h)]
 simp
end
section
def RowV(v:D)(xs:List Int):Prop:=
 (∃ o,v = .lit (.slice o 0 0)/\xs=[])\/v = .sl (qan xs) xs.length false
theorem RowV.one{v:D}{xs:List Int}(h:RowV v xs):V.one (.dat v)=true:=by rcases h with ⟨o,rfl,rfl⟩|rfl<;>rfl
theorem RowV.cells{v:D}{xs:List Int}(h:RowV v xs):V.cells (.dat v)=[.dat v]:=by rcases h with ⟨o,rfl,rfl⟩|rfl<;>rfl
theorem qkK(F:Nat->Nat)(w:World) : ∀ xs:List Int,RepDs F w (qan xs) (xs.map (.int .i64))
 |[]=>rfl
 |x::xs=>⟨_,_,rfl,⟨rfl,rfl⟩,qkK F w xs⟩
theorem row_rep (fid:Fid) {w:World} {a:Option Addr} {len cap:Nat} {zs:List Int}
  (h:(a=none/\len=0/\cap=0/\zs=[]) \/ ∃ x,a=some x/\len<=cap/\cap<=maxLen/\zs.length=cap/\(∀ i,i<zs.length->w.cell? (x.add i)=some (.int .i64 (zs.getD i 0))) /\ ∀ n∈zs,(Lit.int .i64 n).wf=true) :
  ∃ d,RowV d (zs.take len)/\(∀ x∈zs.take len,I64 x)/\Rep fid (qfr w) (.dat d) (.slice a len cap):=by
 rcases h with ⟨rfl,rfl,rfl,rfl⟩|⟨x,rfl,h1,h2,h3,h4,h5⟩
 ·exact⟨.lit (.slice none 0 0),.inl ⟨_,rfl,rfl⟩,by simp,rfl,rfl⟩
 by_cases hc:cap=0
 ·subst hc
  have:len=0:=by omega
  subst this
  exact⟨.lit (.slice (some x) 0 0),.inl ⟨_,rfl,by simp⟩,by simp,rfl,rfl⟩
 have hl:(zs.take len).length=len:=by rw[WL]; omega
 have hs:x.spot=none:=World.cell?_spot (v := .int .i64 (zs.getD 0 0)) (by simpa [Addr.add] using h4 0 (by omega))
 obtain⟨b,o,sp⟩:=x
 simp only at hs
 subst hs
 have hcell : ∀ i,i<zs.length->w.cell? ⟨b,o+i,none⟩=some (.int .i64 (zs.getD i 0)):=fun i hi=>by
  have:=h4 i hi
  by_cases h0:i=0
  ·subst h0; simpa [Addr.add] using this
  ·simpa [Addr.add,h0] using this
 refine⟨.sl (qan (zs.take len)) len false,.inr (by rw[hl]),fun n hn=>?_,b,o,cap,(zs.take len).map (.int .i64),rfl,h1,by simp,qkK _ _ _,?_,?_,?_⟩
 ·have:=h5 n (Yj hn)
  simp only[Lit.wf,Wq,decide_eq_true_eq] at this
  have e1:IntKind.i64.min = -9223372036854775808:=by decide
  have e2:IntKind.i64.max=9223372036854775807:=by decide
  unfold I64
  omega
 ·intro i v hv
  rw[Yl,WS] at hv
  split at hv
  ·rename_i hi
   rw[WG (by omega)] at hv
   simp only[W4,We] at hv
   subst hv
   rw[show (qfr w).w=w from rfl,hcell i (by omega)]
   simp[Wn,show i<zs.length by omega]
  ·simp at hv
 ·intro hp
  simp only[Yd,hl] at hp ⊢
  have:=hcell (len-1) (by omega)
  unfold World.cell? at this
  simp only[qfr,qoc]
  split at this
  ·rename_i c _ _ hb
   rw[hb]
   simp only[Yq,Wm,if_false] at this
   have hlt:o+(len-1)<c.size:=by
    rcases Yf (o+(len-1)) c.size with h'|h'
    ·exact h'
    ·rw[Array.getElem?_eq_none h'] at this; cases this
   simp only
   omega
  ·cases this
 ·intro v hv
  obtain⟨n,_,rfl⟩:=Ye.1 hv
  rfl
theorem int_rep(fid:Fid)(w:World)(n:Int):Rep fid (qfr w) (.int n) (.int .i64 n):=⟨rfl,rfl⟩
theorem reps_cons{fid:Fid}{Γ : Ctx}{a:V}{x:Value}{as:List V}{xs:List Value}(h:Rep fid Γ a x)(k:Reps fid Γ as xs):Reps fid Γ (a::as) (x::xs):=⟨_,_,rfl,h,k⟩
end
section
def fl(P:Program):Nat->TypeId->DataW Unit->Option (List Value)
 |0,_,_=>none
 |m+1,t,d=>match P.underlying t,d with
  |some (.int k),.lit (.int k' n)=>if k=k' then some [.int k n] else none
  |some (.array n e),.agg ds=>match ds.mapM (fl P m e) with
   |some vs=>if ds.length=n/\vs.all (fun v=>v.length==P.cellsOf e)/\P.cellsOf t=n*P.cellsOf e then some vs.flatten else none
   |none=>none
  |some (.struct fs),.agg ds=>match (fs.toList.zip ds).mapM (fun x=>fl P m x.1.type x.2) with
   |some vs=>if ds.length=fs.size/\((fs.toList.zip vs).all (fun x=>x.2.length==P.cellsOf x.1.type))/\(List.range fs.size).all (fun i=>(fs[i]?.map (·.offset)).getD 0==(vs.take i).flatten.length)/\P.cellsOf t=vs.flatten.length then some vs.flatten else none
   |none=>none
  |_,_=>none
theorem parts{α : Type} : ∀ (vs:List (List α)) (cs:List α) (o:Nat),(∀ (i:Nat) (v:List α),vs[i]?=some v->(cs.drop (o+(vs.take i).flatten.length)).take v.length=v)->cs.length=o+vs.flatten.length->cs.drop o=vs.flatten
 |[],cs,o,_,hl=>by simp at hl; simp[hl]
 |v::vs,cs,o,h,hl=>by
  have h0:=h 0 v rfl
  simp only[List.take_zero,List.flatten_nil,Wj,Ys] at h0
  have ih:=parts vs cs (o+v.length) (fun i u hu=>by
   have:=h (i+1) u hu
   simpa [Yv] using this) (by rw[List.flatten_cons,Wb] at hl; omega)
  rw[List.flatten_cons,<- ih]
  have e:=W9 v.length (cs.drop o)
  rw[h0,List.drop_drop] at e
  exact e.symm
theorem qj3{α β : Type}{f : α -> Option β} : ∀ {l:List α} {r:List β},l.mapM f=some r->r.length=l.length /\ ∀ (i:Nat) (a : α),l[i]?=some a -> ∃ b,r[i]?=some b/\f a=some b
 |[],r,h=>by simp at h; subst h; simp
 |a::l,r,h=>by
  simp only[List.mapM_cons,Option.pure_def,Option.bind_eq_bind,Option.bind_eq_some_iff,We] at h
  obtain⟨b,hb,r',hr,rfl⟩:=h
  obtain⟨h1,h2⟩:=qj3 hr
  refine⟨by simp[h1],fun i x hx=>?_⟩
  cases i with
  |zero=>simp at hx; subst hx; exact⟨b,rfl,hb⟩
  |succ i=>simpa using h2 i x (by simpa using hx)
theorem qeT{α : Type}(m:Nat) : ∀ (vs:List (List α)) (i:Nat),(∀ v∈vs,v.length=m)->i<=vs.length->(vs.take i).flatten.length=i*m
 |_,0,_,_=>by simp
 |[],i+1,_,h=>by simp at h
 |v::vs,i+1,h,hi=>by
  simp only[List.take_succ_cons,List.flatten_cons,Wb]
  rw[qeT m vs i (fun u hu=>h u (Wz _ hu)) (by simpa using hi),h v WQ,W6]
  omega
section
variable{enc:TypeId × Value->Unit}{P:Program}{w:World}{base:Nat}{spare:Nat->Bool}{held:Bool}
theorem qj4 : ∀ (m:Nat) (t:TypeId) (d:DataW Unit) (vs:List Value) (fuel:Nat) (cs:List Value) (p:List MemPlace),fl P m t d=some vs->DataW.trod enc P w base spare held fuel t cs=some (d,p)->cs=vs
 |0,t,d,vs,fuel,cs,p,h,_=>by simp[fl] at h
 |m+1,t,d,vs,fuel,cs,p,h,ht=>by
  unfold fl at h
  split at h
  ·rename_i k k' n hu
   split at h
   ·rename_i hk
    subst hk
    cases h
    obtain⟨n',rfl,e,_⟩:=DataW.trod_int hu ht
    simp only[WF,DataW.lit.injEq,Lit.int.injEq] at e
    rw[e.1.2]
   ·cases h
  ·rename_i n e ds hu
   split at h
   ·rename_i us hus
    split at h
    ·rename_i hc
     cases h
     obtain⟨h1,h2,h3⟩:=hc
     obtain⟨xs,q,rfl,hx,hl,hn,hel⟩:=DataW.trod_array hu ht
     simp only[WF,DataW.agg.injEq] at hx
     obtain⟨g1,g2⟩:=qj3 hus
     have hlen : ∀ v∈us,v.length=P.cellsOf e:=fun v hv=>by simpa using Wy.1 h2 v hv
     have hp:=parts us cs 0 (fun i v hv=>by
      have hi:i<us.length:=(Wc.1 hv).1
      have hfl:=qeT (P.cellsOf e) us i hlen (by omega)
      rw[WJ,hfl,hlen v (WK hv)]
      have:=hel i (by omega)
      obtain⟨x,hxi⟩ : ∃ x,xs[i]?=some x:=⟨xs[i]'(by omega),WG (by omega)⟩
      rw[hxi] at this
      have hd:ds[i]?=some x.1:=by rw[hx.1]; simp[hxi]
      obtain⟨b,hb,hf⟩:=g2 i _ hd
      rw[hv] at hb
      cases hb
      exact qj4 m e x.1 v q _ x.2 hf this) (by
      have hfl:=qeT (P.cellsOf e) us us.length hlen (by omega)
      rw[List.take_length] at hfl
      rw[hl,h3,hfl,g1,h1]; simp)
     simpa using hp
    ·cases h
   ·cases h
  ·rename_i fs ds hu
   split at h
   ·rename_i us hus
    split at h
    ·rename_i hc
     cases h
     obtain⟨h1,h2,h3,h4⟩:=hc
     obtain⟨xs,q,rfl,hx,hl,hn,hel⟩:=DataW.trod_struct hu ht
     simp only[WF,DataW.agg.injEq] at hx
     obtain⟨g1,g2⟩:=qj3 hus
     have gl:us.length=fs.size:=by rw[g1]; simp[h1]
     have hp:=parts us cs 0 (fun i v hv=>by
      have hi:i<us.length:=(Wc.1 hv).1
      obtain⟨f,hf⟩ : ∃ f,fs[i]?=some f:=⟨fs[i]'(by omega),Array.getElem?_eq_getElem (by omega)⟩
      have hfl:fs.toList[i]?=some f:=by simpa using hf
      have ho:=Wy.1 h3 i (by simp; omega)
      simp only[hf,W4,Option.getD_some,beq_iff_eq] at ho
      have hz:(fs.toList.zip us)[i]?=some (f,v):=by simp[List.getElem?_zip_eq_some,hfl,hv]
      have hlv:=Wy.1 h2 (f,v) (WK hz)
      simp only[beq_iff_eq] at hlv
      rw[WJ,<- ho,hlv]
      have:=hel i f hf
      obtain⟨x,hxi⟩ : ∃ x,xs[i]?=some x:=⟨xs[i]'(by omega),WG (by omega)⟩
      rw[hxi] at this
      have hd:ds[i]?=some x.1:=by rw[hx.1]; simp[hxi]
      have hz2:(fs.toList.zip ds)[i]?=some (f,x.1):=by simp[List.getElem?_zip_eq_some,hfl,hd]
      obtain⟨b,hb,hf2⟩:=g2 i _ hz2
      rw[hv] at hb
      cases hb
      exact qj4 m f.type x.1 v q _ x.2 hf2 this) (by rw[hl,h4]; simp)
     simpa using hp
    ·cases h
   ·cases h
  ·cases h
end
theorem qgF{F:Nat->Nat}{w:World} : ∀ (vs:List Value),(vs.all fun v=>qbL v)=true->RepDs F w (vs.map .lit) vs
 |[],_=>rfl
 |v::vs,h=>by
  simp only[List.all_cons,Wq] at h
  exact⟨v,vs,rfl,⟨rfl,h.1⟩,qgF vs h.2⟩
theorem quK {P:Program} {w:World} {n:String} {d:DataW Unit} {g:Nat} {t:TypeId} {vs:List Value} {m:Nat} (hg:P.globalNamed n=some g) (ht:(P.globals[g]?).map (·.type)=some t)
  (hf:fl P m t d=some vs) (hv:(vs.all fun v=>qbL v&&v.oneCell')=true) (h:laidMet P [(n,d)] w):RepDs (qoc w) w (vs.map .lit) vs/\Row (qoc w) w g 0 vs:=by
 obtain⟨ps,⟨g0,t0,cs,fuel,p,q,hg0,ht0,hvar,hd,_,hps⟩,_,hcell⟩:=h
 obtain rfl:=WX (hg.symm.trans hg0)
 obtain rfl:=WX (ht.symm.trans ht0)
 have e:=qj4 m t d vs fuel cs.toList p hf hd
 have hc : ∀ i,w.cell? ⟨g,i,none⟩=vs[i]?:=fun i=>by rw[World.var?_cell hg hvar i,<- e]; simp
 refine⟨qgF vs (by
  rw[Wy] at hv ⊢
  intro v hvm
  have:=hv v hvm
  simp only[Wq] at this
  exact this.1),fun i v hi=>by rw[WJ,hc,hi],fun hl=>?_,fun v hvm=>?_⟩
 ·have h0:w.cell? ⟨g,vs.length-1,none⟩=some (vs[vs.length-1]'(by omega)):=by rw[hc,WG]
  unfold World.cell? at h0
  unfold qoc
  split at h0
  ·rename_i c _ _ hb
   rw[hb]
   simp only[Yq,Wm,if_false] at h0
   have hlt:vs.length-1<c.size:=by
    rcases Yf (vs.length-1) c.size with h'|h'
    ·exact h'
    ·rw[Array.getElem?_eq_none h'] at h0; cases h0
   simp only
   omega
  ·cases h0
 ·have:=Wy.1 hv v hvm
  simp only[Wq] at this
  exact this.2
end
section
open Go
theorem qmj {P:Program} {w:World} {n:String} {d:DataW Unit} : ∀ (L:List (String × DataW Unit)) (ps:List MemPlace),DataW.LaidVars P w L ps->(n,d)∈L ->
  ∃ g t cs fuel p,P.globalNamed n=some g/\(P.globals[g]?).map (·.type)=some t/\w.var? P n=some cs/\DataW.trod (fun _=>()) P w 0 (fun _=>true) false fuel t cs.toList=some (d,p)
 |[],ps,_,hm=>by cases hm
 | (n',d')::r,ps,h,hm=>by
  obtain⟨g,t,cs,fuel,p,q,h1,h2,h3,h4,h5,_⟩:=h
  rcases Wp.1 hm with e|hm
  ·cases e; exact⟨g,t,cs,fuel,p,h1,h2,h3,h4⟩
  ·exact qmj r q h5 hm
theorem glb_of_laids {P:Program} {w:World} {n:String} {d:DataW Unit} {L:List (String × DataW Unit)} {g:Nat} {t:TypeId} {vs:List Value} {m:Nat} (hmem:(n,d)∈L) (hg:P.globalNamed n=some g) (ht:(P.globals[g]?).map (·.type)=some t)
  (hf:fl P m t d=some vs) (hv:(vs.all fun v=>qbL v&&v.oneCell')=true) (h:laidMet P L w):RepDs (qoc w) w (vs.map .lit) vs/\Row (qoc w) w g 0 vs:=by
 obtain⟨ps,hL,_,hcell⟩:=h
 obtain⟨g0,t0,cs,fuel,p,hg0,ht0,hvar,hd⟩:=qmj L ps hL hmem
 obtain rfl:=WX (hg.symm.trans hg0)
 obtain rfl:=WX (ht.symm.trans ht0)
 have e:=qj4 m t d vs fuel cs.toList p hf hd
 have hc : ∀ i,w.cell? ⟨g,i,none⟩=vs[i]?:=fun i=>by rw[World.var?_cell hg hvar i,<- e]; simp
 refine⟨qgF vs (by
  rw[Wy] at hv ⊢
  intro v hvm
  have:=hv v hvm
  simp only[Wq] at this
  exact this.1),fun i v hi=>by rw[WJ,hc,hi],fun hl=>?_,fun v hvm=>?_⟩
 ·have h0:w.cell? ⟨g,vs.length-1,none⟩=some (vs[vs.length-1]'(by omega)):=by rw[hc,WG]
  unfold World.cell? at h0
  unfold qoc
  split at h0
  ·rename_i c _ _ hb
   rw[hb]
   simp only[Yq,Wm,if_false] at h0
   have hlt:vs.length-1<c.size:=by
    rcases Yf (vs.length-1) c.size with h'|h'
    ·exact h'
    ·rw[Array.getElem?_eq_none h'] at h0; cases h0
   simp only
   omega
  ·cases h0
 ·have:=Wy.1 hv v hvm
  simp only[Wq] at this
  exact this.2
end
section
def qbz(xs:List Int):List V:=xs.map fun n=>V.int n
@[simp] theorem qui(xs:List Int):(qbz xs).length=xs.length:=by simp[qbz]
@[simp] theorem qsz(xs:List Int):(qan xs).length=xs.length:=by simp[qan]
@[simp] theorem qvs(xs:List Int):qaz (qbz xs)=[]:=by
 induction xs with
 |nil=>rfl
 |cons x xs ih=>simpa [qbz] using ih
@[simp] theorem qwT(r:Nat->Nat)(xs:List Int):qd6 r (qbz xs)=qbz xs:=by
 induction xs with
 |nil=>rfl
 |cons x xs ih=>simpa [qbz] using ih
@[simp] theorem quj(xs:List Int):qbC (qbz xs)=some (qan xs):=by
 induction xs with
 |nil=>rfl
 |cons x xs ih=>
  have:qbC (qbz (x::xs))=match qbC (qbz xs) with
   |some ds=>some (.lit (.int .i64 x)::ds)
   |none=>none:=rfl
  rw[this,ih]; rfl
@[simp] theorem qro(xs:List Int):(qan xs).all (fun d=>V.one (.dat d))=true:=by
 simp[qan,Value.oneCell']
@[simp] theorem qsA(xs:List Int):(qbz xs).all V.one=true:=by
 simp[qbz,Value.oneCell']
@[simp] theorem qrp(xs:List Int):(∀ x∈qan xs,V.one (.dat x)=true):=by
 simp[qan,Value.oneCell']
theorem qio(xs:List Int)(n:Nat)(h:xs.length<=n):(qan xs).take n=qan xs:=Ww (by simpa using h)
theorem qpg(xs:List Int)(n:Nat):(qbz xs).drop n=qbz (xs.drop n):=by simp[qbz]
theorem qph(xs:List Int)(n:Nat):(qbz xs).take n=qbz (xs.take n):=by simp[qbz]
theorem qbH(xs:List Int)(i:Nat)(v:Int)(h:i<xs.length):(qbz xs).take i++(V.int v::(qbz xs).drop (i+1))=qbz (xs.set i v):=by
 rw[List.set_eq_take_append_cons_drop,if_pos h]; simp[qbz]
def getN(cs:List Int)(i:Nat):Int:=cs.getD i 0
def getI(cs:List Int)(i:Int):Int:=getN cs i.toNat
def qaK(cs:List Int)(i v:Int):List Int:=cs.set i.toNat v
@[simp] theorem quk(cs:List Int)(i v:Int):(qaK cs i v).length=cs.length:=by simp[qaK]
theorem qeK(xs:List Int)(i:Int)(h:i.toNat<xs.length):qaj (qbz xs) i.toNat 1=some [V.int (getI xs i)]:=by
 have:xs.drop i.toNat=xs[i.toNat]::xs.drop (i.toNat+1):=WC h
 simp only[qaj,qpg,this,getI,getN,Wn,WG h]
 rfl
theorem qh2(n:Nat):(qdF n [(D.lit (.int .i64 0))]).map V.dat=qbz (List.replicate n 0):=by
 induction n with
 |zero=>rfl
 |succ n ih=>
  simp only[qdF,List.map_append,ih,qbz,List.replicate_succ,Wu]
  rfl
theorem qaB(xs:List Int)(i:Nat)(h:i<xs.length):qaj (qan xs) i 1=some [.lit (.int .i64 (getN xs i))]:=by
 rw[qhC xs i h]; simp[getN,Wn,h]
abbrev wr(n:Int):Int:=IntKind.i64.wrap n
def around(n m:Int):Int:=(if n<0 then -(n+1) else n).tmod m
theorem around_lt{n m:Int}(h1:I64 n)(hm:1<=m):0<=around n m/\around n m<m:=by
 unfold around
 split
 ·exact⟨Int.tmod_nonneg _ (by omega),Int.tmod_lt_of_pos _ (by omega)⟩
 ·exact⟨Int.tmod_nonneg _ (by omega),Int.tmod_lt_of_pos _ (by omega)⟩
theorem qaL{n m:Int}(h0:0<=n)(hm:1<=m):0<=n.tmod m/\n.tmod m<m:=⟨Int.tmod_nonneg _ h0,Int.tmod_lt_of_pos _ (by omega)⟩
theorem qbw{n m:Int}(h0:0<=n)(hm:1<=m):0<=n.tdiv m/\n.tdiv m<=n:=by
 rw[Int.tdiv_eq_ediv_of_nonneg h0]
 refine⟨Int.ediv_nonneg h0 (by omega),Int.ediv_le_self _ h0⟩
structure IsRow(d:D)(xs:List Int):Prop where
 len : ∀ σ,V.len σ .sl (.dat d)=some xs.length
 at_ : ∀ i:Int,0<=i->i<xs.length->qag 1 (.dat d) i=some (.dat (.imm (qan xs) i.toNat))
 one:V.one (.dat d)=true
 cells:V.cells (.dat d)=[.dat d]
theorem qmL(xs:List Int)(f:Bool):IsRow (.sl (qan xs) xs.length f) xs where
 len:=fun _=>rfl
 at_:=fun i h0 h1=>by simp[qag,h0,h1]
 one:=rfl
 cells:=rfl
theorem qkZ(o:Option Addr):IsRow (.lit (.slice o 0 0)) [] where
 len:=fun _=>rfl
 at_:=fun i h0 h1=>by simp at h1; omega
 one:=rfl
 cells:=rfl
theorem qk0(a b:List Int):qan (a++b)=qan a++qan b:=by simp[qan]
theorem qcN{xs:List Int}{i:Nat}(h:i<xs.length):getN xs i∈xs:=by
 simp[getN,Wn,h]
theorem qal{prog:Nat->Option PFun}{k:Nat}{b:PC}{fr fr':Fr}{σ σ':S}(h:gcF k fr σ = gcF k fr' σ'):Z prog (.loop k b fr σ)=Z prog (.loop k b fr' σ'):=by
 rw[qac,qac,h]
theorem qcG(cs:List D)(n:Nat)(f:Bool)(i:Int)(h0:0<=i)(h1:i<n):qag 1 (.dat (.sl cs n f)) i=some (.dat (.imm cs i.toNat)):=by
 simp[qag,h0,h1]
theorem qk1(l N:Nat)(i:Int)(h0:0<=i)(h1:i<N):qag 1 (.own l N 1) i=some (.eptr l N i.toNat):=by
 simp[qag,h0,h1]
theorem qbS(σ : S)(l N:Nat):V.len σ .sl (.own l N 1)=some N:=rfl
theorem qdP(σ : S):V.len σ .sl (.dat (.lit (.slice none 0 0)))=some 0:=rfl
theorem qam{cs:List Int}{i v:Int}{j:Nat}(h:i.toNat≠j):getN (qaK cs i v) j=getN cs j:=by
 simp only[getN,qaK,Wn]
 rw[Wt h]
theorem qax{cs:List Int}{i v:Int}{j:Nat}(h:i.toNat=j)(hj:j<cs.length):getN (qaK cs i v) j=v:=by
 subst h
 simp[getN,qaK,Wn,hj]
theorem qnJ(xs:List Int)(i:Nat)(h:i<xs.length):qaj (qbz xs) i 1=some [V.int (getN xs i)]:=by
 have:=qeK xs (i:Int) (by simpa using h)
 simpa [getI] using this
theorem qwU(l N i:Nat)(h:i<N):qag 1 (.own l N 1) i=some (.eptr l N i):=by
 have:=qk1 l N i (by omega) (by omega)
 simpa using this
theorem qpi(cs:List D)(N i:Nat)(h:i<N):qag 1 (.dat (.sl cs N false)) i=some (.dat (.imm cs i)):=by
 have:=qcG cs N false i (by omega) (by omega)
 simpa using this
theorem qul{cs:List Int}(i v:Int)(h0:0<=i)(h:i<cs.length)(hv:getN cs i.toNat=v):qaj (qbz cs) i.toNat 1=some [V.int v]:=by
 rw[qeK cs i (by omega),<- hv]; rfl
theorem qmM{cs:List Int}(i:Nat)(v:Int)(h:i<cs.length)(hv:getN cs i=v):qaj (qbz cs) i 1=some [V.int v]:=by
 rw[qnJ cs i h,hv]
theorem qk2:qan []=[]:=rfl
theorem qiV(x:Int)(xs:List Int):qan (x::xs) = .lit (.int .i64 x)::qan xs:=rfl
@[simp] theorem qy8:Fr.noD []=[]:=rfl
@[simp] theorem qxU(k:Nat)(v:V)(r:Fr):Fr.noD ((k,v)::r)=if k=1000000 then Fr.noD r else (k,v)::Fr.noD r:=by
 simp only[Fr.noD,List.filter_cons,dkey]
 by_cases h:k=1000000<;>simp[h]
end
section
theorem rowv_isRow{d:D}{xs:List Int}(h:RowV d xs):IsRow d xs:=by
 rcases h with ⟨o,rfl,rfl⟩|rfl
 ·exact qkZ o
 ·exact qmL xs false
theorem wf_i64{n:Int}(h:(Lit.int .i64 n).wf=true):I64 n:=by
 simp only[Lit.wf,Wq,decide_eq_true_eq] at h
 have e1:IntKind.i64.min = -9223372036854775808:=by decide
 have e2:IntKind.i64.max=9223372036854775807:=by decide
 unfold I64
 omega
theorem row_len {w:World} {a:Option Addr} {len cap:Nat} {zs:List Int}
  (h:(a=none/\len=0/\cap=0/\zs=[]) \/ ∃ x,a=some x/\len<=cap/\cap<=maxLen/\zs.length=cap/\(∀ i,i<zs.length->w.cell? (x.add i)=some (.int .i64 (zs.getD i 0))) /\ ∀ n∈zs,(Lit.int .i64 n).wf=true) :
  (zs.take len).length<=9223372036854775807:=by
 rcases h with ⟨rfl,rfl,rfl,rfl⟩|⟨x,rfl,h1,h2,h3,h4,h5⟩
 ·simp
 ·have e:maxLen<=9223372036854775807:=by decide
  rw[WL]
  omega
theorem bool_rep(fid:Fid)(w:World)(b:Bool):Rep fid (qfr w) (.bool b) (.bool b):=⟨rfl,rfl⟩
end
section
open Go
theorem qzz(fid:Fid)(w:World)(s:ByteArray):Rep fid (qfr w) (.str s) (.string s):=⟨rfl,rfl⟩
theorem qx9(fid:Fid)(w:World)(n:Int):Rep fid (qfr w) (.dat (.lit (.int .u8 n))) (.int .u8 n):=⟨rfl,rfl⟩
theorem qAQ{n:Int}(h:(Lit.int .u8 n).wf=true) : ∃ c:Nat,c<256/\n=c:=by
 have:0<=n/\n<256:=by
  simp only[Lit.wf,Wq,decide_eq_true_eq] at h
  have e1:IntKind.u8.min=0:=by decide
  have e2:IntKind.u8.max=255:=by decide
  omega
 exact⟨n.toNat,by omega,by omega⟩
end
section
def PC.ks:PC->Code->List (Nat × List Nat)
 |.region _ _ k _,.region id _ _=>[(id,k)]
 |.seq a b,.seq x y=>a.ks x++b.ks y
 |.cond _ a b,.cond _ x y=>a.ks x++b.ks y
 |.range _ _ a b,.rangeFunc _ _ x y=>a.ks x++b.ks y
 |.block _ a,.block _ x=>a.ks x
 |.loop a,.loop x=>a.ks x
 |_,_=>[]
def PFun.ks(F:PFun)(f:Func)(i:Nat):List Nat:=match f.body with
 |some c=>match (F.body.ks c).find? fun x=>x.1==i with
  |some x=>if F.df then x.2.tail else x.2
  |none=>[]
 |none=>[]
theorem tq{P:Program}{ids:Ids}{n:FuncId}{F:PFun}{f:Func}(ow:Bool)(h:P.funcs[n]?=some f)(e:qp4 P ids (F.ks f) F.noseal ow F.df F.catches f=some F) : ∃ fn K ns ow df,P.funcs[n]?=some fn/\qp4 P ids K ns ow df F.catches fn=some F:=⟨f,_,_,ow,_,h,e⟩
def toL(l:List (Nat × Nat))(f:Nat):Option Nat:=(l.find? fun x=>x.1==f).map (·.2)
def ofL(l:List (Nat × Nat))(g:Nat):Nat:=((l.find? fun x=>x.2==g).map (·.1)).getD 0
theorem prs{l:List (Nat × Nat)}(h:(l.all fun x=>ofL l x.2==x.1)=true){f g:Nat}(e:toL l f=some g):ofL l g=f:=by
 unfold toL at e
 cases hx:l.find? (fun x=>x.1==f) with
 |none=>rw[hx] at e; cases e
 |some x=>
  rw[hx] at e
  have h1:=List.find?_some hx
  have h2:=Wy.1 h x (List.mem_of_find?_eq_some hx)
  simp only[W4,We,beq_iff_eq] at e h1 h2
  rw[<- e,h2,h1]
end
end Go.Pm
section
namespace Go.Pm.F
@[simp] abbrev sN:D := .lit (.slice none 0 0)
@[simp] abbrev eN:D := .lit (.string ⟨#[]⟩)
@[simp] abbrev zN:D := .lit (.int .i64 0)
@[simp] abbrev ii(n:Int):D := .lit (.int .i64 n)
@[simp] abbrev kk(n:Int):X := .c (.int .i64 n)
@[simp] abbrev kT:X := .c (.bool true)
@[simp] abbrev kF:X := .c (.bool false)
@[simp] abbrev jj(d:Nat)(o:O):I:=⟨some d,o,none,[]⟩
@[simp] abbrev jn(o:O):I:=⟨none,o,none,[]⟩
@[simp] abbrev jt(d g:Nat)(o:O):I:=⟨some d,o,some (g,true),[]⟩
@[simp] abbrev jf(d g:Nat)(o:O):I:=⟨some d,o,some (g,false),[]⟩
@[simp] abbrev mv(d a:Nat):I:=⟨some d,.mov (.t a),none,[]⟩
@[simp] abbrev mx(d:Nat)(x:X):I:=⟨some d,.mov x,none,[]⟩
@[simp] abbrev l1(d a:Nat):I:=⟨some d,.load false 1 (.t a),none,[]⟩
@[simp] abbrev la(d n a:Nat):I:=⟨some d,.load true n (.t a),none,[]⟩
@[simp] abbrev fa(d o a:Nat):I:=⟨some d,.fieldAddr o (.t a),none,[]⟩
@[simp] abbrev nc(d a:Nat):I:=⟨some d,.nilchk (.t a),none,[]⟩
@[simp] abbrev bx(d a:Nat):I:=⟨some d,.box (.t a),none,[]⟩
@[simp] abbrev ex(d a n:Nat):I:=⟨some d,.extract (.t a) n,none,[]⟩
@[simp] abbrev ls(d a:Nat):I:=⟨some d,.len .sl (.t a),none,[]⟩
@[simp] abbrev lz(d a:Nat):I:=⟨some d,.len .str (.t a),none,[]⟩
@[simp] abbrev bn(d:Nat)(o:BinOp)(a b:Nat):I:=⟨some d,.bin o (.t a) (.t b),none,[]⟩
@[simp] abbrev bk(d:Nat)(o:BinOp)(a:Nat)(n:Int):I:=⟨some d,.bin o (.t a) (.c (.int .i64 n)),none,[]⟩
@[simp] abbrev st(n a b:Nat):I:=⟨none,.store n (.t a) (.t b),none,[]⟩
@[simp] abbrev cl(d f:Nat)(xs:List Nat):I:=⟨some d,.call f (xs.map .t),none,[]⟩
@[simp] abbrev rn(ops:List I)(keep:List Nat)(lasts:List Nat:=[]):PC := .region none ops keep lasts
@[simp] abbrev sr(a:List I)(k:List Nat)(b:PC):PC := .seq (rn a k) b
@[simp] abbrev cs(t:Nat)(a:PC):PC := .cond (.t t) a .skip
@[simp] abbrev pf(n:Nat)(r:List PR)(b:PC):PFun:=⟨n,r,b,false,false,false⟩
@[simp] abbrev ks(l:List UInt8):X := .c (.string ⟨l.toArray⟩)
end Go.Pm.F
end
section
namespace Go.Pm.F
variable(C:Task->Option Res)(q:Nat)(fr:Fr)(σ : S)
def F17:PFun:=pf 2 [.tmp 4] (sr [mx 4 (kk 0)] [0,1] (.seq (sr [mv 5 0,bk 6 .lss 5 0] [0,1,6] (cs 6 (rn [mv 7 0,bk 8 .add 7 1,jj 9 (.un .neg (.t 8)),mv 0 9] [0,1]))) (sr [mv 10 0,mv 11 1,bn 12 .rem 10 11,mv 4 12] [4] .ret)))
@[simp] def F20l0x:PC:=(.seq (sr [mv 10 5,bk 11 .neq 10 0] [0,3,4,5,11] (.cond (.t 11) .skip (.exit 0))) (.seq (.block 1 (sr [mv 14 5,bk 15 .rem 14 10,mv 6 15] [0,3,4,5,6] (.seq (sr [mv 16 6,bk 17 .lss 16 0] [0,3,4,5,6,17] (cs 17 (rn [mv 18 6,jj 19 (.un .neg (.t 18)),mv 6 19] [0,3,4,5,6]))) (rn [mv 20 3,mv 21 6,mv 22 6,bk 23 .add 22 1,jj 24 (.sliceS (.t 20) (some (.t 21)) (some (.t 23))),mv 25 4,bn 26 .add 24 25,mv 4 26] [0,3,4,5])))) (rn [mv 12 5,bk 13 .quo 12 10,mv 5 13] [0,3,4,5])))
def F20l0:PC:=F20l0x
theorem qlc:run C q F20l0 fr σ = run C q F20l0x fr σ := rfl
def F20:PFun:=pf 1 [.tmp 2] (sr [jj 2 (.mov (ks []))] [0] (.seq (sr [mv 7 0,bk 8 .eql 7 0] [0,8] (cs 8 (sr [jj 2 (.mov (ks [48]))] [2] .ret))) (sr [jj 3 (.mov (ks [48,49,50,51,52,53,54,55,56,57]))] [0,3] (sr [jj 4 (.mov (ks []))] [0,3,4] (.seq (sr [mv 9 0,mv 5 9] [0,3,4,5] (.block 0 (.loop F20l0))) (.seq (sr [mv 27 0,bk 28 .lss 27 0] [4,28] (cs 28 (sr [mv 29 4,jj 30 (.bin .add (ks [45]) (.t 29)),mv 2 30] [2] .ret))) (sr [mv 31 4,mv 2 31] [2] .ret)))))))
end Go.Pm.F
end
section
namespace Go.Pm.F
variable(C:Task->Option Res)(q:Nat)(fr:Fr)(σ : S)
def F78:PFun:=pf 3 [.tmp 6] (sr [mx 6 (kk 0)] [0,1,2] (.seq (sr [mv 7 0,mv 8 1,bn 9 .lss 7 8] [0,1,2,9] (cs 9 (sr [mv 10 1,mv 6 10] [6] .ret))) (.seq (sr [mv 11 0,mv 12 2,bn 13 .gtr 11 12] [0,2,13] (cs 13 (sr [mv 14 2,mv 6 14] [6] .ret))) (sr [mv 15 0,mv 6 15] [6] .ret))))
end Go.Pm.F
end
section
namespace Go.Pm.F
variable(C:Task->Option Res)(q:Nat)(fr:Fr)(σ : S)
def F100:PFun:=pf 2 [.tmp 4] (sr [bx 2 0,mx 4 (kk 0)] [1,2] (.seq (sr [mv 5 1,bk 6 .lss 5 0,mv 7 6,jf 8 7 (.mov (.t 1)),jf 9 7 (.fieldAddr 1 (.t 2)),jf 10 7 (.load false 1 (.t 9)),jf 11 7 (.len .sl (.t 10)),jf 12 7 (.bin .geq (.t 8) (.t 11)),jj 13 (.pick (.t 7) kT (.t 12))] [1,2,13] (cs 13 (sr [mx 4 (kk (-1))] [4] .ret))) (sr [fa 14 0 2,l1 15 14,jj 16 (.bin .mul (kk 4) (.t 15)),jj 17 (.bin .add (kk 48) (.t 16)),mv 18 1,jj 19 (.bin .mul (kk 8) (.t 18)),bn 20 .add 17 19,mv 4 20] [4] .ret)))
end Go.Pm.F
end
section
namespace Go.Pm.F
variable(C:Task->Option Res)(q:Nat)(fr:Fr)(σ : S)
@[simp] def F45l0x:PC:=(.seq (sr [mv 11 4,bk 12 .lss 11 24] [0,2,3,4,12] (.cond (.t 12) .skip (.exit 0))) (.seq (.block 1 (sr [mx 5 (kk 0)] [0,2,3,4,5] (.seq (sr [mv 15 4,mv 16 0,ls 17 16,bn 18 .lss 15 17] [0,2,3,4,5,18] (cs 18 (rn [mv 19 0,mv 20 4,jj 21 (.indexAddr 1 (.t 19) (.t 20)),l1 22 21,jj 23 (.call 17 [(.t 22),(kk 1000000)]),mv 5 23] [0,2,3,4,5]))) (rn [mv 24 3,mv 25 5,jj 26 (.bslice 1 [zN] [(0,1,(.t 25))]),jj 27 (.append 1 8 (.t 24) (.t 26)),mv 3 27] [0,2,3,4])))) (rn [mv 13 4,bk 14 .add 13 1,mv 4 14] [0,2,3,4])))
def F45l0:PC:=F45l0x
theorem qeR:run C q F45l0 fr σ = run C q F45l0x fr σ := rfl
@[simp] def F45l1x:PC:=(.seq (.seq (.region (some []) [mv 92 7,fa 93 0 6,l1 94 93,mv 95 3,jj 96 (.indexAddr 1 (.t 95) (kk 3)),l1 97 96,bk 98 .quo 97 3,bk 99 .rem 98 3,bn 100 .add 94 99,bn 101 .lss 92 100] [2,3,6,7,101]) (.cond (.t 101) .skip (.exit 2))) (.seq (.block 3 (sr [mv 104 3,mv 105 7,jj 106 (.bin .mul (kk 2) (.t 105)),jj 107 (.bin .add (kk 4) (.t 106)),jj 108 (.indexAddr 1 (.t 104) (.t 107)),l1 109 108,mv 8 109] [2,3,6,7,8] (sr [mv 110 3,mv 111 7,jj 112 (.bin .mul (kk 2) (.t 111)),jj 113 (.bin .add (kk 5) (.t 112)),jj 114 (.indexAddr 1 (.t 110) (.t 113)),l1 115 114,mv 9 115] [2,3,6,7,8,9] (sr [mv 116 8,cl 117 60 [116],mv 118 9,bk 119 .rem 118 50,mv 120 8,bk 121 .rem 120 7,jj 122 (.build [zN,sN,zN,zN,zN,zN,zN,zN,zN] [(0,2,(.t 117)),(7,1,(.t 119)),(8,1,(.t 121))]),jj 10 (.alloc [zN,sN,zN,zN,zN,zN,zN,zN,zN]),st 9 10 122] [2,3,6,7,8,9,10] (sr [mv 123 8,bk 124 .quo 123 1000,bk 125 .rem 124 13,bk 126 .sub 125 6,bk 127 .mul 126 900,mv 128 9,bk 129 .quo 128 50,bk 130 .rem 129 11,bk 131 .sub 130 5,bk 132 .mul 131 800,jj 133 (.build [zN,zN] [(0,1,(.t 127)),(1,1,(.t 132))]),mv 134 9,bk 135 .quo 134 550,bk 136 .rem 135 9,bk 137 .sub 136 4,bk 138 .mul 137 300,mv 139 8,bk 140 .quo 139 13000,bk 141 .rem 140 9,bk 142 .sub 141 4,bk 143 .mul 142 300,jj 144 (.build [zN,zN] [(0,1,(.t 138)),(1,1,(.t 143))]),jj 145 (.bslice 5 [zN,zN,zN,zN,zN] [(0,1,(kk 1024)),(1,1,(kk 1024)),(2,1,(kk 512)),(3,1,(kk 2048)),(4,1,(kk 0))]),mv 146 9,bk 147 .quo 146 5000,bk 148 .rem 147 5,jj 149 (.indexAddr 1 (.t 145) (.t 148)),l1 150 149,jj 151 (.build [zN,zN,zN,zN,zN] [(0,2,(.t 133)),(2,2,(.t 144)),(4,1,(.t 150))]),fa 152 2 10,st 5 152 151] [2,3,6,7,10] (rn [fa 153 1 6,l1 154 153,la 155 9 10,jj 156 (.bslice 1 [zN,sN,zN,zN,zN,zN,zN,zN,zN] [(0,9,(.t 155))]),jj 157 (.append 9 88 (.t 154) (.t 156)),fa 158 1 6,st 1 158 157] [2,3,6,7])))))) (rn [mv 102 7,bk 103 .add 102 1,mv 7 103] [2,3,6,7])))
def F45l1:PC:=F45l1x
theorem qh6:run C q F45l1 fr σ = run C q F45l1x fr σ := rfl
def F45:PFun:=pf 1 [.cell 2 true 16] (sr [jj 2 (.alloc [zN,sN,zN,zN,zN,zN,sN,sN,zN,zN,zN,zN,zN,zN,zN,zN])] [0,2] (sr [jj 3 (.mov (.c (.slice none 0 0)))] [0,2,3] (.seq (sr [mx 4 (kk 0)] [0,2,3,4] (.block 0 (.loop F45l0))) (.seq (.region (some [(166,[zN,sN,zN,zN,zN,zN,sN,sN,zN,zN,zN,zN,zN,zN,zN,zN])]) [mv 28 3,jj 29 (.indexAddr 1 (.t 28) (kk 0)),l1 30 29,bk 31 .rem 30 3,jj 32 (.bin .add (kk 1) (.t 31)),jj 33 (.build [zN,zN,zN,zN] [(0,1,(kk (-12000))),(1,1,(kk (-9000))),(2,1,(kk 12000)),(3,1,(kk 9000))]),mv 34 3,jj 35 (.indexAddr 1 (.t 34) (kk 1)),l1 36 35,bk 37 .rem 36 9,bk 38 .mul 37 1000,jj 39 (.bin .add (kk 4000) (.t 38)),mv 40 3,jj 41 (.indexAddr 1 (.t 40) (kk 1)),l1 42 41,bk 43 .quo 42 9,bk 44 .rem 43 5,bk 45 .mul 44 100,mv 46 3,jj 47 (.indexAddr 1 (.t 46) (kk 2)),l1 48 47,bk 49 .rem 48 4,bk 50 .mul 49 100,mv 51 3,jj 52 (.indexAddr 1 (.t 51) (kk 2)),l1 53 52,bk 54 .quo 53 4,bk 55 .rem 54 3,bk 56 .mul 55 512,mv 57 3,jj 58 (.indexAddr 1 (.t 57) (kk 2)),l1 59 58,bk 60 .quo 59 12,bk 61 .rem 60 3,jj 62 (.bin .add (kk 1) (.t 61)),jj 63 (.build [zN,sN,zN,zN,zN,zN,sN,sN,zN,zN,zN,zN,zN,zN,zN,zN] [(0,1,(.t 32)),(2,4,(.t 33)),(8,1,(.t 39)),(11,1,(.t 45)),(12,1,(.t 50)),(13,1,(.t 56)),(14,1,(.t 62)),(15,1,(kk 60))]),jj 6 (.fill 166),st 16 6 63] [2,3,6]) (sr [mv 64 3,jj 65 (.indexAddr 1 (.t 64) (kk 2)),l1 66 65,bk 67 .quo 66 36,bk 68 .rem 67 3,jj 69 (.un .neg (.t 68)),bk 70 .mul 69 40,jj 71 (.build [zN,zN] [(0,1,(kk 0)),(1,1,(.t 70))]),fa 72 9 6,st 2 72 71] [2,3,6] (sr [jj 73 (.build [zN,zN,zN,zN] [(0,1,(kk (-12000))),(1,1,(kk (-9000))),(2,1,(kk (-1))),(3,1,(kk 9000))]),jj 74 (.build [zN,zN,zN,zN] [(0,1,(kk 0)),(1,1,(kk 0)),(2,1,(kk 12000)),(3,1,(kk 9000))]),jj 75 (.build [zN,zN,zN,zN] [(0,1,(kk 0)),(1,1,(kk (-9000))),(2,1,(kk 12000)),(3,1,(kk (-1)))]),jj 76 (.bslice 3 [zN,zN,zN,zN,zN,zN,zN,zN,zN,zN,zN,zN] [(0,4,(.t 73)),(4,4,(.t 74)),(8,4,(.t 75))]),fa 77 6 6,st 1 77 76] [2,3,6] (sr [jj 78 (.bslice 0 [] []),jj 79 (.build [zN,zN] [(0,1,(kk 0)),(1,1,(kk 1))]),jj 80 (.bslice 1 [zN,zN] [(0,2,(.t 79))]),jj 81 (.build [zN,zN] [(0,1,(kk 0)),(1,1,(kk 2))]),jj 82 (.build [zN,zN] [(0,1,(kk 1)),(1,1,(kk 2))]),jj 83 (.bslice 2 [zN,zN,zN,zN] [(0,2,(.t 81)),(2,2,(.t 82))]),jj 84 (.bslice 3 [sN,sN,sN] [(0,1,(.t 78)),(1,1,(.t 80)),(2,1,(.t 83))]),mv 85 3,jj 86 (.indexAddr 1 (.t 85) (kk 3)),l1 87 86,bk 88 .rem 87 3,jj 89 (.indexAddr 1 (.t 84) (.t 88)),l1 90 89,fa 91 7 6,st 1 91 90] [2,3,6] (.seq (sr [mx 7 (kk 0)] [2,3,6,7] (.block 2 (.loop F45l1))) (sr [la 159 16 6,st 16 2 159] [2] .ret)))))))))
@[simp] def F55l0x:PC:=(.seq (sr [mv 10 4,fa 11 1 1,l1 12 11,ls 13 12,bn 14 .lss 10 13] [1,3,4,14] (.cond (.t 14) .skip (.exit 0))) (.seq (.block 1 (sr [la 17 16 1,mv 18 4,cl 19 66 [17,18],mv 5 19] [1,3,4,5] (sr [fa 20 1 1,l1 21 20,mv 22 4,jj 23 (.indexAddr 9 (.t 21) (.t 22)),la 24 9 23,jj 6 (.alloc [zN,sN,zN,zN,zN,zN,zN,zN,zN]),st 9 6 24] [1,3,4,5,6] (sr [mv 25 3,mv 26 5,fa 27 2 6,fa 28 0 27,fa 29 0 28,l1 30 29,jj 31 (.indexAddr 1 (.t 25) (.t 26)),st 1 31 30] [1,3,4,5,6] (sr [mv 32 3,mv 33 5,bk 34 .add 33 1,fa 35 2 6,fa 36 0 35,fa 37 1 36,l1 38 37,jj 39 (.indexAddr 1 (.t 32) (.t 34)),st 1 39 38] [1,3,4,5,6] (sr [mv 40 3,mv 41 5,bk 42 .add 41 2,fa 43 2 6,fa 44 2 43,fa 45 0 44,l1 46 45,jj 47 (.indexAddr 1 (.t 40) (.t 42)),st 1 47 46] [1,3,4,5,6] (sr [mv 48 3,mv 49 5,bk 50 .add 49 3,fa 51 2 6,fa 52 2 51,fa 53 1 52,l1 54 53,jj 55 (.indexAddr 1 (.t 48) (.t 50)),st 1 55 54] [1,3,4,5,6] (sr [mv 56 3,mv 57 5,bk 58 .add 57 4,fa 59 7 6,l1 60 59,jj 61 (.indexAddr 1 (.t 56) (.t 58)),st 1 61 60] [1,3,4,5,6] (rn [mv 62 3,mv 63 5,bk 64 .add 63 5,fa 65 8 6,l1 66 65,jj 67 (.indexAddr 1 (.t 62) (.t 64)),st 1 67 66] [1,3,4]))))))))) (rn [mv 15 4,bk 16 .add 15 1,mv 4 16] [1,3,4])))
def F55l0:PC:=F55l0x
theorem qk7:run C q F55l0 fr σ = run C q F55l0x fr σ := rfl
def F55:PFun:=pf 1 [.tmp 2] (sr [bx 1 0,jj 2 (.mov (.c (.slice none 0 0)))] [1] (sr [la 7 16 1,cl 8 65 [7],jj 9 (.mkslice false [zN] 8 (.t 8) (.t 8)),mv 3 9] [1,3] (.seq (sr [mx 4 (kk 0)] [1,3,4] (.block 0 (.loop F55l0))) (sr [mv 68 3,mv 2 68] [2] .ret))))
def F60:PFun:=pf 1 [.cell 2 true 2] (sr [jj 2 (.alloc [zN,sN])] [0,2] (sr [mv 5 0,jj 6 (.call 17 [(.t 5),(kk 1000)]),mv 3 6] [2,3] (sr [mv 7 3,bk 8 .quo 7 7,bk 9 .rem 8 5,jj 10 (.bin .add (kk 1) (.t 9)),jj 11 (.bin .mul (kk 512) (.t 10)),mv 4 11] [2,3,4] (.seq (sr [mv 12 3,bk 13 .rem 12 7] [2,4,13] (.block 0 (.seq (sr [bk 15 .eql 13 0,mv 14 15] [2,4,13,14] (.cond (.t 14) .skip (sr [bk 16 .eql 13 1,mv 14 16] [2,4,13,14] (.cond (.t 14) .skip (rn [bk 17 .eql 13 2,mv 14 17] [2,4,13,14]))))) (.cond (.t 14) (sr [mv 18 4,jj 19 (.build [zN,sN] [(0,1,(.t 18))]),st 2 2 19] [2] .ret) (.seq (sr [bk 21 .eql 13 3,mv 20 21] [2,4,13,20] (.cond (.t 20) .skip (rn [bk 22 .eql 13 4,mv 20 22] [2,4,13,20]))) (.cond (.t 20) (sr [mv 23 4,jj 24 (.un .neg (.t 23)),mv 25 4,jj 26 (.un .neg (.t 25)),jj 27 (.build [zN,zN] [(0,1,(.t 24)),(1,1,(.t 26))]),mv 28 4,mv 29 4,jj 30 (.un .neg (.t 29)),jj 31 (.build [zN,zN] [(0,1,(.t 28)),(1,1,(.t 30))]),mv 32 4,mv 33 4,jj 34 (.build [zN,zN] [(0,1,(.t 32)),(1,1,(.t 33))]),mv 35 4,jj 36 (.un .neg (.t 35)),mv 37 4,jj 38 (.build [zN,zN] [(0,1,(.t 36)),(1,1,(.t 37))]),jj 39 (.bslice 4 [zN,zN,zN,zN,zN,zN,zN,zN] [(0,2,(.t 27)),(2,2,(.t 31)),(4,2,(.t 34)),(6,2,(.t 38))]),jj 40 (.build [zN,sN] [(1,1,(.t 39))]),st 2 2 40] [2] .ret) (sr [bk 42 .eql 13 5,mv 41 42] [2,4,41] (cs 41 (sr [mv 43 4,jj 44 (.un .neg (.t 43)),mv 45 4,jj 46 (.un .neg (.t 45)),jj 47 (.build [zN,zN] [(0,1,(.t 44)),(1,1,(.t 46))]),mv 48 4,mv 49 4,jj 50 (.un .neg (.t 49)),jj 51 (.build [zN,zN] [(0,1,(.t 48)),(1,1,(.t 50))]),mv 52 4,jj 53 (.build [zN,zN] [(0,1,(kk 0)),(1,1,(.t 52))]),jj 54 (.bslice 3 [zN,zN,zN,zN,zN,zN] [(0,2,(.t 47)),(2,2,(.t 51)),(4,2,(.t 53))]),jj 55 (.build [zN,sN] [(1,1,(.t 54))]),st 2 2 55] [2] .ret))))))))) (sr [mv 56 4,jj 57 (.bin .mul (kk (-2)) (.t 56)),jj 58 (.build [zN,zN] [(0,1,(.t 57)),(1,1,(kk (-300)))]),mv 59 4,jj 60 (.bin .mul (kk 2) (.t 59)),jj 61 (.build [zN,zN] [(0,1,(.t 60)),(1,1,(kk (-300)))]),mv 62 4,jj 63 (.bin .mul (kk 2) (.t 62)),jj 64 (.build [zN,zN] [(0,1,(.t 63)),(1,1,(kk 300))]),mv 65 4,jj 66 (.bin .mul (kk (-2)) (.t 65)),jj 67 (.build [zN,zN] [(0,1,(.t 66)),(1,1,(kk 300))]),jj 68 (.bslice 4 [zN,zN,zN,zN,zN,zN,zN,zN] [(0,2,(.t 58)),(2,2,(.t 61)),(4,2,(.t 64)),(6,2,(.t 67))]),jj 69 (.build [zN,sN] [(1,1,(.t 68))]),st 2 2 69] [2] .ret)))))
def F65:PFun:=pf 1 [.tmp 2] (sr [bx 1 0,mx 2 (kk 0)] [1] (sr [fa 3 0 1,l1 4 3,jj 5 (.bin .mul (kk 4) (.t 4)),jj 6 (.bin .add (kk 48) (.t 5)),fa 7 1 1,l1 8 7,ls 9 8,jj 10 (.bin .mul (kk 8) (.t 9)),bn 11 .add 6 10,mv 2 11] [2] .ret))
def F66:PFun:=pf 2 [.tmp 4] (sr [bx 2 0,mx 4 (kk 0)] [1,2] (.seq (sr [mv 5 1,bk 6 .lss 5 0,mv 7 6,jf 8 7 (.mov (.t 1)),jf 9 7 (.fieldAddr 1 (.t 2)),jf 10 7 (.load false 1 (.t 9)),jf 11 7 (.len .sl (.t 10)),jf 12 7 (.bin .geq (.t 8) (.t 11)),jj 13 (.pick (.t 7) kT (.t 12))] [1,2,13] (cs 13 (sr [mx 4 (kk (-1))] [4] .ret))) (sr [fa 14 0 2,l1 15 14,jj 16 (.bin .mul (kk 4) (.t 15)),jj 17 (.bin .add (kk 48) (.t 16)),mv 18 1,jj 19 (.bin .mul (kk 8) (.t 18)),bn 20 .add 17 19,mv 4 20] [4] .ret)))
end Go.Pm.F
end
section
namespace Go.Pm.F
variable(C:Task->Option Res)(q:Nat)(fr:Fr)(σ : S)
def effRows:List (List Int):=[[0,0,0],[0,1,0],[0,1,16],[1,0,16],[1,1,8],[2,0,8],[0,1,0],[0,1,0],[0,1,0],[2,1,0],[2,1,0],[2,1,0],[2,1,0],[1,1,0],[2,1,0],[2,1,0],[2,1,0],[1,1,0],[0,0,0],[1,0,0],[2,0,0],[0,0,0]]
def G_arenanet_vm_effects:List D:=effRows.flatten.map fun n => .lit (.int .i64 n)
def F49:PFun:=pf 6 [.tmp 12] (sr [bx 7 1,mx 12 kF] [0,2,3,4,5,7] (.seq (sr [mv 13 0,jj 14 (.isnil false false (.t 13)),mv 15 14,jf 16 15 (.mov (.t 2)),jf 17 15 (.bin .lss (.t 16) (kk 0)),jj 18 (.pick (.t 15) kT (.t 17)),mv 19 18,jf 20 19 (.mov (.t 2)),jf 21 19 (.bin .geq (.t 20) (kk 3)),jj 22 (.pick (.t 19) kT (.t 21)),mv 23 22,jf 24 23 (.mov (.t 2)),jf 25 23 (.fieldAddr 1 (.t 7)),jf 26 23 (.indexAddrA 3 1 (.t 25) (.t 24)),jf 27 23 (.load false 1 (.t 26)),jf 28 23 (.bin .lss (.t 27) (kk 0)),jj 29 (.pick (.t 23) kT (.t 28))] [0,2,3,4,5,7,29] (cs 29 (sr [mx 12 kF] [12] .ret))) (.seq (.region (some []) [mv 30 0,mv 31 2,fa 32 1 7,jj 33 (.indexAddrA 3 1 (.t 32) (.t 31)),l1 34 33,jj 35 (.mkmeth [(0,114)] (.t 30)),nc 36 35,mv 37 30,jj 38 (.invoke [(0,114)] (.t 37) [(kk 6),(.t 34)])] [0,3,4,5] [8]) (sr [mv 39 0,jj 40 (.invoke [(0,114)] (.t 39) [(kk 7),(kk 0)])] [0,3,4,5] (sr [mv 41 0,mv 42 5,jj 43 (.invoke [(0,114)] (.t 41) [(kk 8),(.t 42)])] [0,3,4] (sr [mv 44 0,mv 45 3,jj 46 (.invoke [(0,114)] (.t 44) [(kk 9),(.t 45)])] [0,4] (sr [mv 47 0,mv 48 4,jj 49 (.invoke [(0,114)] (.t 47) [(kk 10),(.t 48)])] [] (sr [mx 12 kT] [12] .ret))))))))
def F52:PFun:=pf 3 [.tmp 6,.cell 7 true 4,.tmp 8] (sr [bx 4 1,bx 5 2,mx 6 kF,jj 7 (.alloc [zN,zN,zN,zN]),mx 8 kF] [0,4,5,7] (.seq (sr [mv 18 0,jj 19 (.isnil false false (.t 18))] [0,4,5,7,19] (cs 19 (sr [jj 20 (.build [zN,zN,zN,zN] []),mx 6 kT,st 4 7 20,mx 8 kF] [6,7,8] .ret))) (sr [mv 21 0,jj 22 (.invoke [(0,51)] (.t 21) [(kk 6)]),mv 23 0,jj 24 (.invoke [(0,51)] (.t 23) [(kk 7)]),mv 25 0,jj 26 (.invoke [(0,51)] (.t 25) [(kk 8)]),mv 9 22,mv 10 24,mv 11 26] [0,4,5,7,9,10,11] (.seq (sr [mv 27 11,bk 28 .lss 27 1,mv 29 28,jf 30 29 (.mov (.t 9)),jf 31 29 (.bin .lss (.t 30) (kk 0)),jj 32 (.pick (.t 29) kT (.t 31)),mv 33 32,jf 34 33 (.mov (.t 9)),jf 35 33 (.fieldAddr 0 (.t 5)),jf 36 33 (.load false 1 (.t 35)),jf 37 33 (.len .sl (.t 36)),jf 38 33 (.bin .geq (.t 34) (.t 37)),jj 39 (.pick (.t 33) kT (.t 38)),mv 40 39,jf 41 40 (.fieldAddr 0 (.t 5)),jf 42 40 (.load false 1 (.t 41)),jf 43 40 (.mov (.t 9)),jf 44 40 (.indexAddr 2 (.t 42) (.t 43)),jf 45 40 (.load true 2 (.t 44)),jf 46 40 (.mov (.t 10)),jf 47 40 (.call 63 [(.t 45),(.t 46)]),jf 48 40 (.un .not (.t 47)),jj 49 (.pick (.t 40) kT (.t 48))] [0,4,5,7,9,10,11,49] (cs 49 (sr [jj 50 (.build [zN,zN,zN,zN] []),mx 6 kT,st 4 7 50,mx 8 kF] [6,7,8] .ret))) (sr [fa 51 0 5,l1 52 51,mv 53 9,jj 54 (.indexAddr 2 (.t 52) (.t 53)),la 55 2 54,jj 12 (.alloc [zN,zN]),st 2 12 55] [0,4,7,9,10,11,12] (.seq (.region (some []) [fa 56 0 12,l1 57 56,jj 58 (.indexAddrA 22 3 (.g G_arenanet_vm_effects) (.t 57)),fa 59 0 58,l1 60 59,fa 61 0 12,l1 62 61,jj 63 (.indexAddrA 22 3 (.g G_arenanet_vm_effects) (.t 62)),fa 64 1 63,l1 65 64,mv 13 60,mv 14 65] [0,4,7,9,10,11,12,13,14]) (sr [fa 66 1 12,l1 67 66,jj 68 (.build [zN,zN,zN] [(0,1,(.t 67))]),jj 15 (.alloc [zN,zN,zN]),st 3 15 68] [0,4,7,9,10,11,12,13,14,15] (.seq (sr [mv 69 10,jj 70 (.bin .add (kk 16) (.t 69)),mv 71 13,bn 72 .sub 70 71,mv 16 72] [0,4,7,9,10,11,12,13,14,15,16] (sr [mv 73 13] [0,4,7,9,10,11,12,13,14,15,16,73] (.block 0 (.seq (.block 2 (.seq (.block 1 (.seq (.seq (sr [bk 75 .eql 73 2,mv 74 75] [0,4,7,9,10,11,12,13,14,15,16,73,74] (cs 74 (.exit 1))) (sr [bk 77 .eql 73 1,mv 76 77] [0,4,7,9,10,11,12,13,14,15,16,76] (cs 76 (.exit 2)))) (.exit 0))) (rn [mv 78 0,mv 79 16,bk 80 .add 79 1,jj 81 (.invoke [(0,51)] (.t 78) [(.t 80)]),fa 82 2 15,st 1 82 81] [0,4,7,9,10,11,12,13,14,15,16]))) (sr [mv 83 0,mv 84 16,jj 85 (.invoke [(0,51)] (.t 83) [(.t 84)]),fa 86 1 15,st 1 86 85] [0,4,7,9,10,11,12,13,14,15] (.exit 0)))))) (sr [mv 87 0,mv 88 11,bk 89 .sub 88 1,jj 90 (.invoke [(0,114)] (.t 87) [(kk 8),(.t 89)])] [0,4,7,9,10,12,13,14,15] (sr [mv 91 0,mv 92 9,bk 93 .add 92 1,jj 94 (.invoke [(0,114)] (.t 91) [(kk 6),(.t 93)])] [0,4,7,10,12,13,14,15] (.seq (sr [mv 95 13,mv 96 14,bn 97 .neq 95 96] [0,4,7,10,12,13,14,15,97] (cs 97 (rn [mv 98 0,mv 99 10,mv 100 13,bn 101 .sub 99 100,mv 102 14,bn 103 .add 101 102,jj 104 (.invoke [(0,114)] (.t 98) [(kk 7),(.t 103)])] [0,4,7,10,12,13,14,15]))) (sr [fa 106 0 12,l1 107 106,mv 108 0,la 109 16 4,la 110 3 15,cl 111 64 [107,108,109,110],mv 105 111,ex 112 105 0,ex 113 105 1,ex 114 105 2,mv 17 112,st 4 7 113,mv 8 114] [0,7,8,10,12,13,14,17] (.seq (sr [mv 115 14,bk 116 .gtr 115 0] [0,7,8,10,12,13,17,116] (cs 116 (rn [mv 117 0,mv 118 10,jj 119 (.bin .add (kk 16) (.t 118)),mv 120 13,bn 121 .sub 119 120,mv 122 17,jj 123 (.invoke [(0,114)] (.t 117) [(.t 121),(.t 122)])] [7,8,12]))) (.seq (.region (some []) [fa 124 0 12,l1 125 124,bk 126 .eql 125 21,la 127 4 7,mv 128 8,mv 6 126,st 4 7 127,mv 8 128] [6,7,8]) .ret))))))))))))))
def F63:PFun:=pf 2 [.tmp 4] (sr [bx 2 0,mx 4 kF] [1,2] (.seq (sr [fa 6 0 2,l1 7 6,bk 8 .lss 7 1,mv 9 8,jf 10 9 (.fieldAddr 0 (.t 2)),jf 11 9 (.load false 1 (.t 10)),jf 12 9 (.bin .gtr (.t 11) (kk 21)),jj 13 (.pick (.t 9) kT (.t 12)),mv 14 13,jf 15 14 (.mov (.t 1)),jf 16 14 (.bin .gtr (.t 15) (kk 16)),jj 17 (.pick (.t 14) kT (.t 16))] [1,2,17] (cs 17 (sr [mx 4 kF] [4] .ret))) (sr [fa 18 0 2,l1 19 18,jj 20 (.indexAddrA 22 3 (.g G_arenanet_vm_effects) (.t 19)),la 21 3 20,jj 5 (.alloc [zN,zN,zN]),st 3 5 21] [1,2,5] (.seq (sr [mv 22 1,fa 23 0 5,l1 24 23,bn 25 .lss 22 24,mv 26 25,jf 27 26 (.mov (.t 1)),jf 28 26 (.fieldAddr 0 (.t 5)),jf 29 26 (.load false 1 (.t 28)),jf 30 26 (.bin .sub (.t 27) (.t 29)),jf 31 26 (.fieldAddr 1 (.t 5)),jf 32 26 (.load false 1 (.t 31)),jf 33 26 (.bin .add (.t 30) (.t 32)),jf 34 26 (.bin .gtr (.t 33) (kk 16)),jj 35 (.pick (.t 26) kT (.t 34))] [2,5,35] (cs 35 (sr [mx 4 kF] [4] .ret))) (sr [fa 36 2 5,l1 37 36,bk 38 .eql 37 0,mv 39 38,jf 40 39 (.fieldAddr 1 (.t 2)),jf 41 39 (.load false 1 (.t 40)),jf 42 39 (.bin .geq (.t 41) (kk 0)),jf 43 39 (.mov (.t 42)),jt 44 43 (.fieldAddr 1 (.t 2)),jt 45 43 (.load false 1 (.t 44)),jt 46 43 (.fieldAddr 2 (.t 5)),jt 47 43 (.load false 1 (.t 46)),jt 48 43 (.bin .lss (.t 45) (.t 47)),jf 49 39 (.pick (.t 43) (.t 48) kF),jj 50 (.pick (.t 39) kT (.t 49)),mv 4 50] [4] .ret)))))
def F64:PFun:=pf 4 [.tmp 8,.cell 9 true 4,.tmp 10] (sr [bx 6 2,bx 7 3,mx 8 (kk 0),jj 9 (.alloc [zN,zN,zN,zN]),mx 10 kF] [0,1,6,7,9] (.seq (sr [mv 11 0] [0,1,6,7,9,11] (.block 0 (.seq (sr [bk 13 .eql 11 1,mv 12 13] [0,1,6,7,9,11,12] (.cond (.t 12) .skip (sr [bk 14 .eql 11 2,mv 12 14] [0,1,6,7,9,11,12] (.cond (.t 12) .skip (sr [bk 15 .eql 11 6,mv 12 15] [0,1,6,7,9,11,12] (.cond (.t 12) .skip (sr [bk 16 .eql 11 7,mv 12 16] [0,1,6,7,9,11,12] (.cond (.t 12) .skip (rn [bk 17 .eql 11 8,mv 12 17] [0,1,6,7,9,11,12]))))))))) (.cond (.t 12) (.seq (.region (some []) [mv 18 0,cl 19 74 [18],mv 20 1,fa 21 0 7,⟨some 22,.load false 1 (.t 21),none,[1]⟩,jj 23 (.callv (.t 19) [(.t 20),(.t 22)]),jj 24 (.build [zN,zN,zN,zN] []),mv 8 23,st 4 9 24,mx 10 kF] [8,9,10]) .ret) (.seq (sr [bk 26 .eql 11 9,mv 25 26] [0,1,6,7,9,11,25] (.cond (.t 25) .skip (sr [bk 27 .eql 11 10,mv 25 27] [0,1,6,7,9,11,25] (.cond (.t 25) .skip (sr [bk 28 .eql 11 11,mv 25 28] [0,1,6,7,9,11,25] (.cond (.t 25) .skip (sr [bk 29 .eql 11 12,mv 25 29] [0,1,6,7,9,11,25] (.cond (.t 25) .skip (sr [bk 30 .eql 11 14,mv 25 30] [0,1,6,7,9,11,25] (.cond (.t 25) .skip (sr [bk 31 .eql 11 15,mv 25 31] [0,1,6,7,9,11,25] (.cond (.t 25) .skip (rn [bk 32 .eql 11 16,mv 25 32] [0,1,6,7,9,11,25]))))))))))))) (.cond (.t 25) (.seq (.region (some []) [mv 33 0,cl 34 75 [33],fa 35 1 7,⟨some 36,.load false 1 (.t 35),none,[1]⟩,fa 37 2 7,⟨some 38,.load false 1 (.t 37),none,[1]⟩,jj 39 (.callv (.t 34) [(.t 36),(.t 38)]),jj 40 (.build [zN,zN,zN,zN] []),mv 8 39,st 4 9 40,mx 10 kF] [8,9,10]) .ret) (.seq (sr [bk 42 .eql 11 13,mv 41 42] [0,1,6,7,9,11,41] (.cond (.t 41) .skip (rn [bk 43 .eql 11 17,mv 41 43] [0,1,6,7,9,41]))) (cs 41 (.seq (.region (some []) [mv 44 0,cl 45 76 [44],fa 46 1 7,⟨some 47,.load false 1 (.t 46),none,[1]⟩,jj 48 (.callv (.t 45) [(.t 47)]),jj 49 (.build [zN,zN,zN,zN] []),mv 8 48,st 4 9 49,mx 10 kF] [8,9,10]) .ret))))))))) (.seq (.region (some []) [mv 50 0,cl 51 77 [50],mv 52 1,⟨some 53,.load true 16 (.t 6),none,[1]⟩,⟨some 54,.load true 3 (.t 7),none,[1]⟩,jj 55 (.callv (.t 51) [(.t 52),(.t 53),(.t 54)]),ex 56 55 0,ex 57 55 1,ex 58 55 2,mv 8 56,st 4 9 57,mv 10 58] [8,9,10] [5]) .ret)))
def F74:PFun:=pf 1 [.tmp 2] (sr [jj 2 (.mov (.c .nilFunc))] [0] (sr [jj 3 (.mkmap),jn (.mapset .i (.t 3) (kk 1) (.f 82)),jn (.mapset .i (.t 3) (kk 2) (.f 83)),jn (.mapset .i (.t 3) (kk 6) (.f 84)),jn (.mapset .i (.t 3) (kk 7) (.f 85)),jn (.mapset .i (.t 3) (kk 8) (.f 86)),mv 4 3,mv 5 0,jj 6 (.lookup .i (.lit .nilFunc) (.t 4) (.t 5) false),mv 2 6] [2] .ret))
def F75:PFun:=pf 1 [.tmp 2] (sr [jj 2 (.mov (.c .nilFunc))] [0] (sr [jj 3 (.mkmap),jn (.mapset .i (.t 3) (kk 9) (.f 87)),jn (.mapset .i (.t 3) (kk 10) (.f 89)),jn (.mapset .i (.t 3) (kk 11) (.f 90)),jn (.mapset .i (.t 3) (kk 12) (.f 91)),jn (.mapset .i (.t 3) (kk 14) (.f 92)),jn (.mapset .i (.t 3) (kk 15) (.f 94)),jn (.mapset .i (.t 3) (kk 16) (.f 95)),mv 4 3,mv 5 0,jj 6 (.lookup .i (.lit .nilFunc) (.t 4) (.t 5) false),mv 2 6] [2] .ret))
def F76:PFun:=pf 1 [.tmp 2] (sr [jj 2 (.mov (.c .nilFunc))] [0] (sr [jj 3 (.mkmap),jn (.mapset .i (.t 3) (kk 13) (.f 96)),jn (.mapset .i (.t 3) (kk 17) (.f 97)),mv 4 3,mv 5 0,jj 6 (.lookup .i (.lit .nilFunc) (.t 4) (.t 5) false),mv 2 6] [2] .ret))
def F77:PFun:=pf 1 [.tmp 2] (sr [jj 2 (.mov (.c .nilFunc))] [0] (sr [jj 3 (.mkmap),jn (.mapset .i (.t 3) (kk 3) (.f 98)),jn (.mapset .i (.t 3) (kk 4) (.f 99)),jn (.mapset .i (.t 3) (kk 5) (.f 101)),jn (.mapset .i (.t 3) (kk 18) (.f 103)),jn (.mapset .i (.t 3) (kk 19) (.f 104)),jn (.mapset .i (.t 3) (kk 20) (.f 105)),jn (.mapset .i (.t 3) (kk 21) (.f 107)),mv 4 3,mv 5 0,jj 6 (.lookup .i (.lit .nilFunc) (.t 4) (.t 5) false),mv 2 6] [2] .ret))
def F82:PFun:=pf 2 [.tmp 4] (sr [mx 4 (kk 0)] [1] (sr [mv 5 1,mv 4 5] [4] .ret))
def F83:PFun:=pf 2 [.tmp 4] (sr [mx 4 (kk 0)] [0,1] (sr [mv 5 0,mv 6 1,jj 7 (.bin .add (kk 32) (.t 6)),jj 8 (.invoke [(0,51)] (.t 5) [(.t 7)]),mv 4 8] [4] .ret))
def F84:PFun:=pf 2 [.tmp 4] (sr [mx 4 (kk 0)] [0] (sr [mv 5 0,jj 6 (.invoke [(0,51)] (.t 5) [(kk 9)]),mv 4 6] [4] .ret))
def F85:PFun:=pf 2 [.tmp 4] (sr [mx 4 (kk 0)] [0] (sr [mv 5 0,jj 6 (.invoke [(0,51)] (.t 5) [(kk 10)]),mv 4 6] [4] .ret))
def F86:PFun:=pf 2 [.tmp 4] (sr [mx 4 (kk 0)] [0] (sr [mv 5 0,jj 6 (.invoke [(0,51)] (.t 5) [(kk 0)]),mv 4 6] [4] .ret))
def F87:PFun:=pf 2 [.tmp 4] (sr [mx 4 (kk 0)] [0,1] (sr [mv 5 0,mv 6 1,bn 7 .add 5 6,cl 8 88 [7],mv 4 8] [4] .ret))
def F88:PFun:=pf 1 [.tmp 2] (sr [mx 2 (kk 0)] [0] (sr [mv 3 0,jj 4 (.call 108 [(.t 3),(kk (-2147483647)),(kk 2147483647)]),mv 2 4] [2] .ret))
def F89:PFun:=pf 2 [.tmp 4] (sr [mx 4 (kk 0)] [0,1] (sr [mv 5 0,mv 6 1,bn 7 .sub 5 6,cl 8 88 [7],mv 4 8] [4] .ret))
def F90:PFun:=pf 2 [.tmp 4] (sr [mx 4 (kk 0)] [0,1] (sr [mv 5 0,mv 6 1,bn 7 .mul 5 6,cl 8 88 [7],mv 4 8] [4] .ret))
def F91:PFun:=pf 2 [.tmp 4] (sr [mx 4 (kk 0)] [0,1] (.seq (sr [mv 5 1,bk 6 .eql 5 0] [0,1,6] (cs 6 (sr [mx 4 (kk 0)] [4] .ret))) (sr [mv 7 0,mv 8 1,bn 9 .quo 7 8,cl 10 88 [9],mv 4 10] [4] .ret)))
def F92:PFun:=pf 2 [.tmp 4] (sr [mx 4 (kk 0)] [0,1] (sr [mv 5 0,mv 6 1,bn 7 .lss 5 6,cl 8 93 [7],mv 4 8] [4] .ret))
def F93:PFun:=pf 1 [.tmp 2] (sr [mx 2 (kk 0)] [0] (.seq (sr [mv 3 0] [3] (cs 3 (sr [mx 2 (kk 1)] [2] .ret))) (sr [mx 2 (kk 0)] [2] .ret)))
def F94:PFun:=pf 2 [.tmp 4] (sr [mx 4 (kk 0)] [0,1] (sr [mv 5 0,mv 6 1,bn 7 .leq 5 6,cl 8 93 [7],mv 4 8] [4] .ret))
def F95:PFun:=pf 2 [.tmp 4] (sr [mx 4 (kk 0)] [0,1] (sr [mv 5 0,mv 6 1,bn 7 .eql 5 6,cl 8 93 [7],mv 4 8] [4] .ret))
def F96:PFun:=pf 1 [.tmp 2] (sr [mx 2 (kk 0)] [0] (sr [mv 3 0,jj 4 (.un .neg (.t 3)),cl 5 88 [4],mv 2 5] [2] .ret))
def F97:PFun:=pf 1 [.tmp 2] (sr [mx 2 (kk 0)] [0] (sr [mv 3 0,bk 4 .eql 3 0,cl 5 93 [4],mv 2 5] [2] .ret))
def F98:PFun:=pf 3 [.tmp 6,.cell 7 true 4,.tmp 8] (sr [bx 4 1,bx 5 2,mx 6 (kk 0),jj 7 (.alloc [zN,zN,zN,zN]),mx 8 kF] [0,5,7] (sr [mv 9 0,fa 10 0 5,l1 11 10,jj 12 (.bin .add (kk 32) (.t 11)),fa 13 1 5,l1 14 13,jj 15 (.invoke [(0,114)] (.t 9) [(.t 12),(.t 14)])] [7] (sr [jj 16 (.build [zN,zN,zN,zN] []),mx 6 (kk 0),st 4 7 16,mx 8 kF] [6,7,8] .ret)))
def F99:PFun:=pf 3 [.tmp 6,.cell 7 true 4,.tmp 8] (sr [bx 4 1,bx 5 2,mx 6 (kk 0),jj 7 (.alloc [zN,zN,zN,zN]),mx 8 kF] [0,4,5,7] (.seq (sr [la 10 16 4,fa 11 1 5,l1 12 11,cl 13 100 [10,12],mv 9 13] [0,5,7,9] (sr [mv 14 9,bk 15 .geq 14 0] [0,5,7,9,15] (cs 15 (sr [mv 16 0,mv 17 9,fa 18 0 5,l1 19 18,bn 20 .add 17 19,jj 21 (.invoke [(0,51)] (.t 16) [(.t 20)]),jj 22 (.build [zN,zN,zN,zN] []),mv 6 21,st 4 7 22,mx 8 kF] [6,7,8] .ret)))) (sr [jj 23 (.build [zN,zN,zN,zN] []),mx 6 (kk 0),st 4 7 23,mx 8 kF] [6,7,8] .ret)))
def F101:PFun:=pf 3 [.tmp 6,.cell 7 true 4,.tmp 8] (sr [bx 4 1,bx 5 2,mx 6 (kk 0),jj 7 (.alloc [zN,zN,zN,zN]),mx 8 kF] [0,4,5,7] (.seq (sr [la 10 16 4,fa 11 1 5,l1 12 11,cl 13 100 [10,12],mv 9 13] [0,5,7,9] (sr [mv 14 9,bk 15 .geq 14 0] [0,5,7,9,15] (cs 15 (.region (some []) [mv 16 0,mv 17 9,fa 18 0 5,⟨some 19,.load false 1 (.t 18),none,[9]⟩,bn 20 .add 17 19,fa 21 0 5,l1 22 21,fa 23 2 5,l1 24 23,cl 25 102 [22,24],jj 26 (.mkmeth [(0,114)] (.t 16)),nc 27 26,mv 28 16,jj 29 (.invoke [(0,114)] (.t 28) [(.t 20),(.t 25)])] [7] [13])))) (sr [jj 30 (.build [zN,zN,zN,zN] []),mx 6 (kk 0),st 4 7 30,mx 8 kF] [6,7,8] .ret)))
def F102:PFun:=pf 2 [.tmp 4] (sr [mx 4 (kk 0)] [0,1] (.seq (sr [mv 5 0] [1,5] (.block 0 (.seq (sr [bk 7 .eql 5 0,mv 6 7] [1,5,6] (.cond (.t 6) .skip (rn [bk 8 .eql 5 1,mv 6 8] [1,5,6]))) (.cond (.t 6) (sr [mv 9 1,jj 10 (.call 108 [(.t 9),(kk (-1048576)),(kk 1048576)]),mv 4 10] [4] .ret) (.seq (sr [bk 12 .eql 5 2,mv 11 12] [1,5,11] (.cond (.t 11) .skip (rn [bk 13 .eql 5 3,mv 11 13] [1,11]))) (cs 11 (sr [mv 14 1,jj 15 (.call 108 [(.t 14),(kk (-16384)),(kk 16384)]),mv 4 15] [4] .ret))))))) (sr [mv 16 1,mv 4 16] [4] .ret)))
def F103:PFun:=pf 3 [.tmp 6,.cell 7 true 4,.tmp 8] (sr [bx 4 1,bx 5 2,mx 6 (kk 0),jj 7 (.alloc [zN,zN,zN,zN]),mx 8 kF] [0,5,7] (sr [mv 9 0,fa 10 0 5,l1 11 10,jj 12 (.invoke [(0,114)] (.t 9) [(kk 6),(.t 11)])] [7] (sr [jj 13 (.build [zN,zN,zN,zN] []),mx 6 (kk 0),st 4 7 13,mx 8 kF] [6,7,8] .ret)))
def F104:PFun:=pf 3 [.tmp 6,.cell 7 true 4,.tmp 8] (sr [bx 4 1,bx 5 2,mx 6 (kk 0),jj 7 (.alloc [zN,zN,zN,zN]),mx 8 kF] [0,5,7] (.seq (sr [fa 9 1 5,l1 10 9,bk 11 .eql 10 0] [0,5,7,11] (cs 11 (rn [mv 12 0,fa 13 0 5,l1 14 13,jj 15 (.invoke [(0,114)] (.t 12) [(kk 6),(.t 14)])] [7]))) (sr [jj 16 (.build [zN,zN,zN,zN] []),mx 6 (kk 0),st 4 7 16,mx 8 kF] [6,7,8] .ret)))
def F105:PFun:=pf 3 [.tmp 6,.cell 7 true 4,.tmp 8] (sr [bx 4 1,bx 5 2,mx 6 (kk 0),jj 7 (.alloc [zN,zN,zN,zN]),mx 8 kF] [0,5,7] (sr [mv 12 0,fa 13 1 5,l1 14 13,fa 15 2 5,l1 16 15,cl 17 106 [12,14,16],mv 11 17,ex 18 11 0,ex 19 11 1,jj 9 (.alloc [zN,zN,zN,zN]),st 4 9 18,mv 10 19] [7,9,10] (.seq (.region (some []) [la 20 4 9,mv 21 10,mx 6 (kk 0),st 4 7 20,mv 8 21] [6,7,8]) .ret)))
def F106:PFun:=pf 3 [.cell 6 true 4,.tmp 7] (sr [jj 6 (.alloc [zN,zN,zN,zN]),mx 7 kF] [0,1,2,6] (sr [mv 11 0,jj 12 (.invoke [(0,51)] (.t 11) [(kk 11)]),mv 8 12] [0,1,2,6,8] (.seq (sr [mv 13 8,bk 14 .geq 13 40] [0,1,2,6,8,14] (cs 14 (sr [jj 15 (.build [zN,zN,zN,zN] []),st 4 6 15,mx 7 kF] [6,7] .ret))) (sr [mv 16 0,jj 17 (.invoke [(0,51)] (.t 16) [(kk 0)]),mv 9 17] [0,1,2,6,8,9] (sr [mv 18 0,jj 19 (.invoke [(0,51)] (.t 18) [(kk 12)]),mv 20 9,mv 21 1,mv 22 2,jj 23 (.bslice 4 [zN,zN,zN,zN] [(0,1,(.t 19)),(1,1,(.t 20)),(2,1,(.t 21)),(3,1,(.t 22))]),jj 24 (.call 109 [(ks [101,102,102,101,99,116]),(.t 23)]),mv 10 24] [0,1,2,6,8,9,10] (sr [mv 25 0,mv 26 10,jj 27 (.bin .shr (.t 26) (.c (.int .u64 1))),jj 28 (.conv (.int .i64) (.t 27)),jj 29 (.invoke [(0,114)] (.t 25) [(kk 12),(.t 28)])] [0,1,2,6,8,9] (sr [mv 30 0,mv 31 8,bk 32 .add 31 1,jj 33 (.invoke [(0,114)] (.t 30) [(kk 11),(.t 32)])] [1,2,6,8,9] (sr [mv 34 9,mv 35 8,mv 36 1,mv 37 2,jj 38 (.build [zN,zN,zN,zN] [(0,1,(.t 34)),(1,1,(.t 35)),(2,1,(.t 36)),(3,1,(.t 37))]),st 4 6 38,mx 7 kT] [6,7] .ret))))))))
def F107:PFun:=pf 3 [.tmp 6,.cell 7 true 4,.tmp 8] (sr [bx 4 1,bx 5 2,mx 6 (kk 0),jj 7 (.alloc [zN,zN,zN,zN]),mx 8 kF] [7] (sr [jj 9 (.build [zN,zN,zN,zN] []),mx 6 (kk 0),st 4 7 9,mx 8 kF] [6,7,8] .ret))
end Go.Pm.F
end
