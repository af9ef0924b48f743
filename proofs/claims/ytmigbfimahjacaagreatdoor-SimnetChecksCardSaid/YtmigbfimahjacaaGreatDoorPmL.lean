/- Calls; every operation. -/
import Derived.Test.YtmigbfimahjacaaGreatDoorPmAL
import Derived.Test.YtmigbfimahjacaaGreatDoorPmK
import Derived.DefersIn
set_option linter.unusedSimpArgs false
set_option linter.unusedVariables false
namespace Go.Pm
section
variable{P:Program}{ids:Ids}{fid:Fid}{N:Nat}
abbrev FR(ro:Option Nat):Fence:={ Fence.wide with round:=ro }
def qgS(P:Program)(f:FuncId):Prop := ∃ fn,P.funcs[f]?=some fn/\(fn.name == "runtime.NumGoroutine")=false/\fn.body.isSome=true
def qvA(fid:Fid)(Γ':Ctx)(v:V)(e:Ending):Prop:=
 (∃ x,e = .returned x/\Rep fid Γ' v x) \/ ∃ u x,v = .pan u/\e = .panicked [{ v:=x,recovered:=false }]/\Rep fid Γ' u x
def qmb(P:Program)(fid:Fid)(f:Nat)(args:List V)(σ : S)(v:V)(σ':S):Prop:=
 qgS P (fid f) /\ ∀ (Γ : Ctx) (xs:List Value),Γ.σ = σ -> Real fid Γ -> Reps fid Γ args xs ->
  CallsIn Fence.wide 0 P (fid f) xs.toArray Γ.w fun e w' => ∃ Γ',Γ'.w=w' /\ Γ'.σ = σ'/\Real fid Γ'/\Step Γ Γ'/\qvA fid Γ' v e
def qvi(P:Program)(fid:Fid)(f:Nat)(args:List V)(σ : S)(σ':S):Prop:=
 qgS P (fid f) /\ ∀ (Γ : Ctx) (pv:V) (as:List V) (px:Value) (ys:List Value) (u:FrameMode),args=pv::as -> Γ.σ = σ -> Real fid Γ -> Rep fid Γ pv px->Reps fid Γ as ys ->
  (pv.isNilIf=true->u = .returning)->(pv.isNilIf=false->u = .panicking [{ v:=px,recovered:=false }]) ->
  CallsDIn Fence.wide 0 P (fid f) ys.toArray u Γ.w fun e u' w' => ∃ Γ' y,e = .returned y /\ Γ'.w=w' /\ Γ'.σ = σ'/\Real fid Γ'/\Step Γ Γ'/\settle u' = .returning
def qjI(P:Program)(fid:Fid)(args:List V)(σ : S)(v:V)(σ':S):Prop:=
 ∀ (Γ : Ctx) (xs:List Value),Γ.σ = σ -> Real fid Γ -> Reps fid Γ args xs -> ∃ l b ys fn tmps as bd,args.head?=some (.yld l)/\xs = .func (.yield b) #[] #[]::ys /\
  (Instr.yield b ys.toArray).run P Γ.w = .ok (.round b fn tmps as bd) Γ.w /\
  RoundIn Fence.wide 0 P b fn tmps as bd Γ.w fun e w' => ∃ Γ' x,e = .returned x /\ Γ'.w=w' /\ Γ'.σ = σ'/\Real fid Γ'/\Step Γ Γ'/\Rep fid Γ' v x
structure CSound(P:Program)(fid:Fid)(C:Task->Option Res):Prop where
 call : ∀ f args σ v σ',C (.call f args σ)=some (.ret v σ')->qmb P fid f args σ v σ'
 dcall : ∀ f args σ v σ',C (.dcall f args σ)=some (.ret v σ')->qvi P fid f args σ σ'
 round : ∀ args σ v σ',C (.round args σ)=some (.ret v σ')->qjI P fid args σ v σ'
theorem qfJ{Γ : Ctx}{a b:List V}{xs ys:List Value}(ha:Reps fid Γ a xs)(hb:Reps fid Γ b ys):Reps fid Γ (a++b) (xs++ys):=Reps_append.2 ⟨_,_,rfl,ha,hb⟩
theorem qvB{Γ : Ctx}{v:V}{x:Value}(h:Rep fid Γ v x):Rep fid Γ v.sealT x:=by
 unfold V.sealT
 split
 ·simp only[Rep] at h
  obtain⟨vs,rfl,h⟩:=h
  exact qdW (qnG h)
 ·exact qw2 h
theorem qpb{Γ : Ctx} : ∀ {vs:List V} {xs:List Value},Reps fid Γ vs xs->Reps fid Γ (qh0 vs) xs
 |[],xs,h=>by simpa only [qh0,Reps] using h
 |v::vs,xs,h=>by
  simp only[qh0,Reps] at h ⊢
  obtain⟨y,ys,h1,h2,h3⟩:=h
  exact⟨y,ys,h1,qvB h2,qpb h3⟩
theorem qiz {t e:TypeId} {i:TypeInfo} {name:String} {m:Method} {f:FuncId} (hi:P.info? t=some i) (hm:i.methods.find? (·.name==name)=some m) (hp:m.path = #[]) (hf:m.func=some (f,true)) (hu:P.underlying t=some (.pointer e)) (n:Nat) (v:Value) (w:World) :
  (method (n+1) t v name).run P w = .ok (f,v) w:=by
 unfold method
 simp only[Sem.run_bind,qa2 hi,Result.andThen_ok,hm,hp,follow,Sem.run_pure,hf,receiverAt,qam hu,Place.get]
theorem run_callMethod_ptr {t e:TypeId} {i:TypeInfo} {name:String} {m:Method} {f:FuncId} (hi:P.info? t=some i) (hm:i.methods.find? (·.name==name)=some m) (hp:m.path = #[]) (hf:m.func=some (f,true)) (hu:P.underlying t=some (.pointer e)) (v:Value) (args:Array Value) (w:World) :
  (callMethod (.iface t v) name args).run P w=(callFunc f (#[v]++args)).run P w:=by
 unfold callMethod
 simp only[Sem.run_bind,run_program,Result.andThen_ok,qiz hi hm hp hf hu _ v w,Made.depth]
theorem qfK{t:TypeId}{name:String}{f:FuncId}(h:methT P t name=some f)(v:Value)(args:Array Value)(w:World):(callMethod (.iface t v) name args).run P w=(callFunc f (#[v]++args)).run P w:=by
 unfold methT at h
 split at h
 ·rename_i i e hi hu
  split at h
  ·rename_i m hm
   split at h
   ·rename_i hp
    split at h
    ·rename_i f' hf
     cases h
     exact run_callMethod_ptr hi hm (Array.isEmpty_iff.1 hp) hf hu v args w
    ·cases h
   ·cases h
  ·cases h
 ·cases h
theorem qbD(hid:Ties P ids fid){name:String}{t g:Nat} : ∀ {ts:List Nat},(qko P ids name ts).lookup t=some g -> ∃ f,methT P (fid.ty t) name=some f/\ids f=some g
 |[],h=>by simp[qko] at h
 |s::r,h=>by
  simp only[qko] at h
  split at h
  ·rename_i u hu
   split at h
   ·rename_i f hf
    split at h
    ·rename_i g' hg
     rw[List.lookup_cons] at h
     split at h
     ·rename_i he
      cases h
      rw[beq_iff_eq.1 he,hid.ty _ _ hu]
      exact⟨f,hf,hg⟩
     ·exact qbD hid h
    ·exact qbD hid h
   ·exact qbD hid h
  ·exact qbD hid h
theorem qiK{Γ : Ctx}(hr:Real fid Γ)(f:Nat){vs:List V}{xs:List Value}(h:Reps fid Γ vs xs) : ∃ Γ':Ctx,Γ'.σ = (qbT f vs Γ.σ).2 /\ Γ'.w = Γ.w/\Real fid Γ'/\Step Γ Γ'/\Reps fid Γ' (qbT f vs Γ.σ).1 xs:=by
 unfold qbT
 split
 ·exact qim hr h
 ·exact⟨Γ,rfl,rfl,hr,.refl _,h⟩
theorem qgT {C:Task->Option Res} (hC:CSound P fid C) {Γ : Ctx} (hr:Real fid Γ) {f:Nat} {args:List V} {xs:List Value} {v:V} {σ':S} (ha:Reps fid Γ args xs) (h:qaE C (.call f) args Γ.σ = some (v,σ')) :
  qgS P (fid f)/\CallsIn Fence.wide 0 P (fid f) xs.toArray Γ.w fun e w' => ∃ Γ' x,e = .returned x /\ Γ'.w=w' /\ Γ'.σ = σ'/\Real fid Γ'/\Step Γ Γ'/\Rep fid Γ' v x:=by
 unfold qaE at h
 simp only at h
 generalize reach Γ.σ Γ.σ.length (qau args) []=L at h
 split at h
 ·rename_i args' σs hres
  split at h
  ·cases h
  ·rename_i v' σs' hnp hcall
   cases h
   obtain⟨h1,h2,h3,h4,h5,h6⟩:=qaW hr hres
   obtain⟨he,hs⟩:=hC.call _ _ _ _ _ hcall
   refine⟨he,(hs (Γ.part L σs) xs rfl h5 (h6 xs ha)).mono ?_⟩
   rintro e w' ⟨Γs',hw,hσ,hr',hst,hx⟩
   obtain⟨Γ',k1,k2,k3,k4,k5⟩:=qgb hr h1 h3 h4 h2 hr' hst
   rcases hx with ⟨x,he,hx⟩|⟨u,x,rfl,_⟩
   ·exact⟨Γ',x,he,k2.trans hw,by rw[k1,hσ],k3,k4,k5 _ _ hx⟩
   ·exact (hnp _ rfl).elim
  ·cases h
 ·cases h
theorem qjJ {C:Task->Option Res} (hC:CSound P fid C) {Γ : Ctx} (hr:Real fid Γ) {f:Nat} {args:List V} {xs:List Value} {v:V} {σ':S} (ha:Reps fid Γ args xs) (h:qbF C (.call f) args Γ.σ = some (v,σ')) :
  qgS P (fid f)/\CallsIn Fence.wide 0 P (fid f) xs.toArray Γ.w fun e w' => ∃ Γ' x,e = .panicked [{ v:=x,recovered:=false }] /\ Γ'.w=w' /\ Γ'.σ = σ'/\Real fid Γ'/\Step Γ Γ'/\Rep fid Γ' v x:=by
 unfold qbF at h
 simp only at h
 generalize reach Γ.σ Γ.σ.length (qau args) []=L at h
 split at h
 ·rename_i args' σs hres
  split at h
  ·rename_i v' σs' hcall
   cases h
   obtain⟨h1,h2,h3,h4,h5,h6⟩:=qaW hr hres
   obtain⟨he,hs⟩:=hC.call _ _ _ _ _ hcall
   refine⟨he,(hs (Γ.part L σs) xs rfl h5 (h6 xs ha)).mono ?_⟩
   rintro e w' ⟨Γs',hw,hσ,hr',hst,hx⟩
   obtain⟨Γ',k1,k2,k3,k4,k5⟩:=qgb hr h1 h3 h4 h2 hr' hst
   rcases hx with ⟨x,_,hx⟩|⟨u,x,e1,e2,hx⟩
   ·simp only[Rep] at hx
   ·cases e1
    exact⟨Γ',x,e2,k2.trans hw,by rw[k1,hσ],k3,k4,k5 _ _ hx⟩
  ·cases h
 ·cases h
theorem qhz(r:Nat->Nat)(v:V):(v.ren r).isNilIf=v.isNilIf:=by cases v<;>rfl
theorem qfL {C:Task->Option Res} (hC:CSound P fid C) {Γ : Ctx} (hr:Real fid Γ) {f:Nat} {pv:V} {as:List V} {px:Value} {ys:List Value} {v:V} {σ':S} {u:FrameMode} (hp:Rep fid Γ pv px) (ha:Reps fid Γ as ys)
  (hu:pv.isNilIf=true->u = .returning) (hu':pv.isNilIf=false->u = .panicking [{ v:=px,recovered:=false }]) (h:qaE C (.dcall f) (pv::as) Γ.σ = some (v,σ')) :
  qgS P (fid f)/\CallsDIn Fence.wide 0 P (fid f) ys.toArray u Γ.w fun e u' w' => ∃ Γ' y,e = .returned y /\ Γ'.w=w' /\ Γ'.σ = σ'/\Real fid Γ'/\Step Γ Γ'/\settle u' = .returning:=by
 unfold qaE at h
 simp only at h
 generalize reach Γ.σ Γ.σ.length (qau (pv::as)) []=L at h
 split at h
 ·rename_i args' σs hres
  split at h
  ·cases h
  ·rename_i v' σs' hnp hcall
   cases h
   obtain⟨h1,h2,h3,h4,h5,h6⟩:=qaW hr hres
   obtain⟨he,hs⟩:=hC.dcall _ _ _ _ _ hcall
   have hargs:args'=pv.ren (idx L)::qbl (idx L) as:=by
    unfold qaO at hres
    split at hres
    ·split at hres
     ·cases hres; rfl
     ·cases hres
    ·cases hres
   have h7:=h6 (px::ys) ⟨_,_,rfl,hp,ha⟩
   rw[hargs] at h7
   simp only[Reps] at h7
   obtain⟨x,xs,e,q1,q2⟩:=h7
   cases e
   refine⟨he,CallsDIn.mono (hs (Γ.part L σs) _ _ px ys u hargs rfl h5 q1 q2 (by rw[qhz]; exact hu) (by rw[qhz]; exact hu')) ?_⟩
   rintro e u' w' ⟨Γs',y,he,hw,hσ,hr',hst,hx⟩
   obtain⟨Γ',k1,k2,k3,k4,k5⟩:=qgb hr h1 h3 h4 h2 hr' hst
   exact⟨Γ',y,he,k2.trans hw,by rw[k1,hσ],k3,k4,hx⟩
  ·cases h
 ·cases h
theorem qcQ {C:Task->Option Res} (hC:CSound P fid C) {Γ : Ctx} (hr:Real fid Γ) {f:Nat} {pre args post:List V} {xs ys zs:List Value} {v:V} {σ':S} (hp:Reps fid Γ pre xs) (ha:Reps fid Γ args ys) (hq:Reps fid Γ post zs)
  (h:qaE C (.call f) (pre++(qbT f args Γ.σ).1++post) (qbT f args Γ.σ).2=some (v,σ')) :
  qgS P (fid f)/\CallsIn Fence.wide 0 P (fid f) (xs++ys++zs).toArray Γ.w fun e w' => ∃ Γ' x,e = .returned x /\ Γ'.w=w' /\ Γ'.σ = σ'/\Real fid Γ'/\Step Γ Γ'/\Rep fid Γ' v x:=by
 obtain⟨Γ1,a1,a2,a3,a4,a5⟩:=qiK hr f ha
 rw[<- a1] at h
 obtain⟨k1,k2⟩:=qgT hC a3 (qfJ (qfJ (Reps.ext a4.ext _ _ hp) a5) (Reps.ext a4.ext _ _ hq)) h
 rw[a2] at k2
 refine⟨k1,k2.mono ?_⟩
 rintro e w' ⟨Γ',x,h1,h2,h3,h4,h5,h6⟩
 exact⟨Γ',x,h1,h2,h3,h4,a4.trans h5,h6⟩
theorem qcy {C:Task->Option Res} (hC:CSound P fid C) {Γ : Ctx} (hr:Real fid Γ) {f:Nat} {pre args post:List V} {xs ys zs:List Value} {v:V} {σ':S} (hp:Reps fid Γ pre xs) (ha:Reps fid Γ args ys) (hq:Reps fid Γ post zs)
  (h:qbF C (.call f) (pre++(qbT f args Γ.σ).1++post) (qbT f args Γ.σ).2=some (v,σ')) :
  qgS P (fid f)/\CallsIn Fence.wide 0 P (fid f) (xs++ys++zs).toArray Γ.w fun e w' => ∃ Γ' x,e = .panicked [{ v:=x,recovered:=false }] /\ Γ'.w=w' /\ Γ'.σ = σ'/\Real fid Γ'/\Step Γ Γ'/\Rep fid Γ' v x:=by
 obtain⟨Γ1,a1,a2,a3,a4,a5⟩:=qiK hr f ha
 rw[<- a1] at h
 obtain⟨k1,k2⟩:=qjJ hC a3 (qfJ (qfJ (Reps.ext a4.ext _ _ hp) a5) (Reps.ext a4.ext _ _ hq)) h
 rw[a2] at k2
 refine⟨k1,k2.mono ?_⟩
 rintro e w' ⟨Γ',x,h1,h2,h3,h4,h5,h6⟩
 exact⟨Γ',x,h1,h2,h3,h4,a4.trans h5,h6⟩
theorem qjK {C:Task->Option Res} (hC:CSound P fid C) {Γ : Ctx} (hr:Real fid Γ) {args:List V} {xs:List Value} {v:V} {σ':S} (ha:Reps fid Γ args xs) (h:qaE C .round args Γ.σ = some (v,σ')) :
  ∃ b ys fn tmps as bd,xs = .func (.yield b) #[] #[]::ys/\(Instr.yield b ys.toArray).run P Γ.w = .ok (.round b fn tmps as bd) Γ.w /\
   RoundIn Fence.wide 0 P b fn tmps as bd Γ.w fun e w' => ∃ Γ' x,e = .returned x /\ Γ'.w=w' /\ Γ'.σ = σ'/\Real fid Γ'/\Step Γ Γ'/\Rep fid Γ' v x:=by
 unfold qaE at h
 simp only at h
 generalize reach Γ.σ Γ.σ.length (qau args) []=L at h
 split at h
 ·rename_i args' σs hres
  split at h
  ·cases h
  ·rename_i v' σs' hnp hcall
   cases h
   obtain⟨h1,h2,h3,h4,h5,h6⟩:=qaW hr hres
   obtain⟨l,b,ys,fn,tmps,as,bd,_,q1,q2,q3⟩:=hC.round _ _ _ _ hcall (Γ.part L σs) xs rfl h5 (h6 xs ha)
   refine⟨b,ys,fn,tmps,as,bd,q1,q2,q3.mono ?_⟩
   rintro e w' ⟨Γs',x,he,hw,hσ,hr',hst,hx⟩
   obtain⟨Γ',k1,k2,k3,k4,k5⟩:=qgb hr h1 h3 h4 h2 hr' hst
   exact⟨Γ',x,he,k2.trans hw,by rw[k1,hσ],k3,k4,k5 _ _ hx⟩
  ·cases h
 ·cases h
theorem qa7{f:FuncId}(h:qgS P f)(args:Array Value)(w:World):(callFunc f args).run P w = .ok (.enter f args) w:=by
 obtain⟨fn,h1,h2,h3⟩:=h
 have h3':fn.body.isNone=false:=by cases hb:fn.body<;>simp_all
 simp only[callFunc,Sem.run_bind,run_program,Result.andThen_ok,h1,h2,h3',Wz,if_false,Sem.run_pure]
section
variable{Γ : Ctx}{fr:Fr}{a:Act}{o:Oper}{v:V}{σ':S}{C:Task->Option Res}{ro:Option Nat}{K:Act->World->Prop}{Q:Exit->Act->World->Prop}
theorem qba(hid:Ties P ids fid)(hr:Real fid Γ)(hf:FrRep fid Γ N fr a.tmps){x:Option Operand}{y:Option X}{u:Option V}(hc:cOX ids N x=some y)(hv:qci fr y=some u):qiy fid Γ a.eval u x:=by
 cases x with
 |none=>simp only[cOX,Wd] at hc; subst hc; simp only[qci,Wd] at hv; subst hv; exact trivial
 |some x=>
  simp only[cOX,Wc] at hc
  obtain⟨z,hz,rfl⟩:=hc
  simp only[qci] at hv
  split at hv
  ·rename_i u' hu'; cases hv; exact qan hid hr hf hz hu'
  ·cases hv
theorem qjL {f:FuncId} {args:Array Value} {Γ₀ : Ctx} (hd : ∀ c,o.op ≠ .defer c) (h:(execOp a.eval o).run P Γ₀.w = .ok (.enter f args) Γ₀.w)
  (hcall:CallsIn Fence.wide 0 P f args Γ₀.w fun e w' => ∃ Γ' x,e = .returned x /\ Γ'.w=w' /\ Γ'.σ = σ'/\Real fid Γ'/\Step Γ₀ Γ'/\Rep fid Γ' v x)
  (hk : ∀ Γ' x,Γ'.σ = σ'->Real fid Γ'->Step Γ₀ Γ'->Rep fid Γ' v x->K (a.put o.dst x) Γ'.w):o.wpIn (FR ro) 0 P a Γ₀.w K Q:=by
 refine⟨fun f _=>trivial,?_⟩
 rw[Oper.semAt_eq _ _ _ hd,h]
 refine⟨fun h=>by simp[Fence.wide] at h,?_⟩
 refine CallsIn.mono (F:=FR ro) hcall ?_
 rintro e w' ⟨Γ',x,rfl,rfl,h1,h2,h3,h4⟩
 exact hk Γ' x h1 h2 h3 h4
theorem qhe {f:FuncId} {args:Array Value} {Γ₀ : Ctx} (hd : ∀ c,o.op ≠ .defer c) (h:(execOp a.eval o).run P Γ₀.w = .ok (.enter f args) Γ₀.w)
  (hcall:CallsIn Fence.wide 0 P f args Γ₀.w fun e w' => ∃ Γ' x,e = .panicked [{ v:=x,recovered:=false }] /\ Γ'.w=w' /\ Γ'.σ = σ'/\Real fid Γ'/\Step Γ₀ Γ'/\Rep fid Γ' v x)
  (hk : ∀ Γ' x,Γ'.σ = σ'->Real fid Γ'->Step Γ₀ Γ'->Rep fid Γ' v x->Q (.panic [{ v:=x,recovered:=false }]) a Γ'.w):o.wpIn (FR ro) 0 P a Γ₀.w K Q:=by
 refine⟨fun f _=>trivial,?_⟩
 rw[Oper.semAt_eq _ _ _ hd,h]
 refine⟨fun h=>by simp[Fence.wide] at h,?_⟩
 refine CallsIn.mono (F:=FR ro) hcall ?_
 rintro e w' ⟨Γ',x,rfl,rfl,h1,h2,h3,h4⟩
 exact hk Γ' x h1 h2 h3 h4
theorem qrr {b:Nat} {fn:FuncId} {tmps:Array Value} {as bd:Code} {Γ₀ : Ctx} (hd : ∀ c,o.op ≠ .defer c) (h:(execOp a.eval o).run P Γ₀.w = .ok (.round b fn tmps as bd) Γ₀.w)
  (hcall:RoundIn Fence.wide 0 P b fn tmps as bd Γ₀.w fun e w' => ∃ Γ' x,e = .returned x /\ Γ'.w=w' /\ Γ'.σ = σ'/\Real fid Γ'/\Step Γ₀ Γ'/\Rep fid Γ' v x)
  (hk : ∀ Γ' x,Γ'.σ = σ'->Real fid Γ'->Step Γ₀ Γ'->Rep fid Γ' v x->K (a.put o.dst x) Γ'.w):o.wpIn (FR ro) 0 P a Γ₀.w K Q:=by
 refine⟨fun f _=>trivial,?_⟩
 rw[Oper.semAt_eq _ _ _ hd,h]
 refine⟨fun h=>by simp[Fence.wide] at h,?_⟩
 refine RoundIn.mono (F:=FR ro) hcall ?_
 rintro e w' ⟨Γ',x,rfl,rfl,h1,h2,h3,h4⟩
 exact hk Γ' x h1 h2 h3 h4
theorem qpc (hid:Ties P ids fid) (hC:CSound P fid C) {op:O} (hc:qcW P ids N o.op=some op) (hr:Real fid Γ) (hf:FrRep fid Γ N fr a.tmps) (h:qar C fr Γ.σ op=some (v,σ'))
  (hk : ∀ Γ' x,Γ'.σ = σ'->Real fid Γ'->Step Γ Γ'->Rep fid Γ' v x->K (a.put o.dst x) Γ'.w):o.wpIn (FR ro) 0 P a Γ.w K Q:=by
 have hF : ∀ f,(FR ro).fn f:=fun _=>trivial
 cases ho:o.op with
 |move x=>
  rw[ho] at hc
  simp only[qcW,Wc] at hc
  obtain⟨y,hy,rfl⟩:=hc
  simp only[qar] at h
  split at h
  ·rename_i u hu; cases h
   exact (qwV hr (.inl ho) (qan hid hr hf hy hu)).wp hF (by simp[ho]) hk
  ·cases h
 |assign x=>
  rw[ho] at hc
  simp only[qcW,Wc] at hc
  obtain⟨y,hy,rfl⟩:=hc
  simp only[qar] at h
  split at h
  ·rename_i u hu; cases h
   exact (qwV hr (.inr ho) (qan hid hr hf hy hu)).wp hF (by simp[ho]) hk
  ·cases h
 |pick c x y=>
  rw[ho] at hc
  simp only[qcW] at hc
  split at hc
  ·rename_i c' x' y' h1 h2 h3
   cases hc
   simp only[qar] at h
   split at h
   ·rename_i hcv
    split at h
    ·rename_i u hu; cases h
     have:=qs2 (P:=P) (o:=o) (u:=v) (u':=v) hr ho (qan hid hr hf h1 hcv) (fun _=>qan hid hr hf h2 hu) (fun h=>by cases h)
     exact (by simpa using this:Comes P fid Γ a.eval o v Γ.σ).wp hF (by simp[ho]) hk
    ·cases h
   ·rename_i hcv
    split at h
    ·rename_i u hu; cases h
     have:=qs2 (P:=P) (o:=o) (u:=v) (u':=v) hr ho (qan hid hr hf h1 hcv) (fun h=>by cases h) (fun _=>qan hid hr hf h3 hu)
     exact (by simpa using this:Comes P fid Γ a.eval o v Γ.σ).wp hF (by simp[ho]) hk
    ·cases h
   ·cases h
  ·cases hc
 |alloc t=>
  rw[ho] at hc
  simp only[qcW,Wc] at hc
  obtain⟨z,hz,rfl⟩:=hc
  simp only[qar,Wd,Wx] at h
  obtain⟨rfl,rfl⟩:=h
  exact (qtD hr ho hz).wp hF (by simp[ho]) hk
 |makeInterface t x=>
  rw[ho] at hc
  simp only[qcW] at hc
  split at hc
  ·cases hc
  ·rename_i d hne ht
   split at hc
   ·rename_i k hk'
    simp only[Wc] at hc
    obtain⟨x',h1,rfl⟩:=hc
    simp only[qar] at h
    split at h
    ·rename_i u hu; cases h
     exact (qwY hr (hid.ty _ _ hk') ho ht (fun ms e=>hne ms e) (qan hid hr hf h1 hu)).wp hF (by simp[ho]) hk
    ·cases h
   ·cases hc
  ·cases hc
 |makeSlice t x y=>
  rw[ho] at hc
  simp only[qcW] at hc
  split at hc
  ·rename_i e x' y' ht h1 h2
   split at hc
   ·rename_i n z b hn hz hb
    split at hc
    ·rename_i hcond
     cases hc
     simp only[qar] at h
     split at h
     ·rename_i k l k' c hx hy
      split at h
      ·rename_i hlc
       have hboth:=qqg hr ho ht hz hn hb hcond.1 hcond.2 (qan hid hr hf h1 hx) (qan hid hr hf h2 hy) hlc
       split at h
       ·cases h; exact hboth.2.wp hF (by simp[ho]) hk
       ·cases h; exact hboth.1.wp hF (by simp[ho]) hk
      ·cases h
     ·cases h
    ·cases hc
   ·cases hc
  ·cases hc
 |box t x=>
  rw[ho] at hc
  simp only[qcW] at hc
  split at hc
  ·rename_i k hw hty
   simp only[Wc] at hc
   obtain⟨y,hy,rfl⟩:=hc
   simp only[qar] at h
   split at h
   ·rename_i u hu
    split at h
    ·cases h
     exact (qwj hr ho (hid.ty _ _ hty) (qan hid hr hf hy hu)).wp hF (by simp[ho]) hk
    ·cases h
   ·cases h
  ·simp only[Wc] at hc
   obtain⟨y,hy,rfl⟩:=hc
   simp only[qar] at h
   split at h
   ·rename_i u hu
    split at h
    ·cases h
     exact (qyw hr ho (qan hid hr hf hy hu)).wp hF (by simp[ho]) hk
    ·cases h
   ·cases h
 |build t parts=>
  rw[ho] at hc
  simp only[qcW] at hc
  split at hc
  ·rename_i fields z ht hz
   split at hc
   ·rename_i pl hpl
    simp only[Wc] at hc
    obtain⟨ps,hps,rfl⟩:=hc
    simp only[qar] at h
    split at h
    ·rename_i vs hvs
     split at h
     ·rename_i cs hcs; cases h
      exact (qr1 hr ho ht hz hpl (qcr hid hr hf hps hvs) hcs).wp hF (by simp[ho]) hk
     ·cases h
    ·cases h
   ·cases hc
  ·rename_i len e z ht hz
   split at hc
   ·rename_i n hn
    simp only[Wc] at hc
    obtain⟨ps,hps,rfl⟩:=hc
    simp only[qar] at h
    split at h
    ·rename_i vs hvs
     split at h
     ·rename_i cs hcs; cases h
      exact (qr2 hr ho ht hz hn (qcr hid hr hf hps hvs) hcs).wp hF (by simp[ho]) hk
     ·cases h
    ·cases h
   ·cases hc
  ·cases hc
 |buildSlice t len parts=>
  rw[ho] at hc
  simp only[qcW] at hc
  split at hc
  ·rename_i e ht
   split at hc
   ·rename_i n z hn hz
    split at hc
    ·rename_i hcond
     simp only[Wc] at hc
     obtain⟨ps,hps,rfl⟩:=hc
     split at h
     ·simp only[qar] at h
      split at h
      ·rename_i vs hvs
       split at h
       ·rename_i cs hcs
        split at h
        ·rename_i ds hds; cases h
         exact (qqf hr ho ht hz hn hcond.1 hcond.2.1 hcond.2.2 (qcr hid hr hf hps hvs) hcs hds).wp hF (by simp[ho]) hk
        ·cases h
       ·cases h
      ·cases h
     ·simp only[qar] at h
      split at h
      ·rename_i vs hvs
       split at h
       ·rename_i cs hcs
        split at h
        ·rename_i ds hds; cases h
         exact (qni hr ho ht hz hn hcond.1 hcond.2.1 hcond.2.2 (qcr hid hr hf hps hvs) hcs (by rw[hds])).wp hF (by simp[ho]) hk
        ·rename_i hds; cases h
         exact (qni hr ho ht hz hn hcond.1 hcond.2.1 hcond.2.2 (qcr hid hr hf hps hvs) hcs (by rw[hds])).wp hF (by simp[ho]) hk
       ·cases h
      ·cases h
    ·cases hc
   ·cases hc
  ·cases hc
 |load t x=>
  rw[ho] at hc
  simp only[qcW] at hc
  split at hc
  ·rename_i n y h1 h2 h3
   cases hc
   simp only[qar] at h
   split at h
   ·rename_i p hp
    split at h
    ·rename_i u hu; cases h
     exact (qsH hr ho (.inl ⟨rfl,h1,h2⟩) (qan hid hr hf h3 hp) hu).wp hF (by simp[ho]) hk
    ·cases h
   ·cases h
  ·rename_i y h1 h3
   cases hc
   simp only[qar] at h
   split at h
   ·rename_i p hp
    split at h
    ·rename_i u hu; cases h
     exact (qsH hr ho (.inr ⟨rfl,h1,rfl⟩) (qan hid hr hf h3 hp) hu).wp hF (by simp[ho]) hk
    ·cases h
   ·cases h
  ·cases hc
 |store t x y=>
  rw[ho] at hc
  simp only[qcW] at hc
  split at hc
  ·rename_i n x' y' h1 h2 h3
   cases hc
   simp only[qar] at h
   split at h
   ·rename_i p u hp hu
    split at h
    ·rename_i s hs; cases h
     exact (qtF hr ho h1 (qan hid hr hf h2 hp) (qan hid hr hf h3 hu) hs).wp hF (by simp[ho]) hk
    ·cases h
   ·cases h
  ·cases hc
 |nilCheck x=>
  rw[ho] at hc
  simp only[qcW,Wc] at hc
  obtain⟨y,hy,rfl⟩:=hc
  simp only[qar] at h
  split at h
  ·rename_i l k hu; cases h
   exact (qkc hr ho (qan hid hr hf hy hu) (.inl ⟨_,_,rfl⟩)).wp hF (by simp[ho]) hk
  ·rename_i l k hu; cases h
   exact (qkc hr ho (qan hid hr hf hy hu) (.inr (.inl ⟨_,_,rfl⟩))).wp hF (by simp[ho]) hk
  ·rename_i l n k hu; cases h
   exact (qkc hr ho (qan hid hr hf hy hu) (.inr (.inr ⟨_,_,_,rfl⟩))).wp hF (by simp[ho]) hk
  ·rename_i g l k hu; cases h
   exact (qqx hr hid.mt ho (qan hid hr hf hy hu)).wp hF (by simp[ho]) hk
  ·rename_i t u hu; cases h
   exact (qqw hr ho (qan hid hr hf hy hu)).wp hF (by simp[ho]) hk
  ·cases h
 |binOp op t x y t'=>
  rw[ho] at hc
  simp only[qcW] at hc
  split at hc
  ·rename_i ht
   simp only[Wc] at hc
   obtain⟨x',h1,rfl⟩:=hc
   simp only[qar] at h
   split at h
   ·rename_i u hu
    split at h
    ·rename_i b hb; cases h
     exact (qkb hr false false rfl ho rfl (.inl ⟨rfl,rfl,_,ht⟩) (qan hid hr hf h1 hu) hb).wp hF (by simp[ho]) hk
    ·cases h
   ·cases h
  ·rename_i ht
   simp only[Wc] at hc
   obtain⟨x',h1,rfl⟩:=hc
   simp only[qar] at h
   split at h
   ·rename_i u hu
    split at h
    ·rename_i b hb; cases h
     exact (qkb hr false true rfl ho rfl (.inl ⟨rfl,rfl,_,ht⟩) (qan hid hr hf h1 hu) hb).wp hF (by simp[ho]) hk
    ·cases h
   ·cases h
  ·rename_i ht
   simp only[Wc] at hc
   obtain⟨x',h1,rfl⟩:=hc
   simp only[qar] at h
   split at h
   ·rename_i u hu
    split at h
    ·rename_i b hb; cases h
     exact (qkb hr true false rfl ho rfl (.inr ⟨rfl,rfl,_,ht⟩) (qan hid hr hf h1 hu) hb).wp hF (by simp[ho]) hk
    ·cases h
   ·cases h
  ·rename_i ht
   simp only[Wc] at hc
   obtain⟨x',h1,rfl⟩:=hc
   simp only[qar] at h
   split at h
   ·rename_i u hu
    split at h
    ·rename_i b hb; cases h
     exact (qkb hr true true rfl ho rfl (.inr ⟨rfl,rfl,_,ht⟩) (qan hid hr hf h1 hu) hb).wp hF (by simp[ho]) hk
    ·cases h
   ·cases h
  ·rename_i ht
   simp only[Wc] at hc
   obtain⟨x',h1,rfl⟩:=hc
   simp only[qar] at h
   split at h
   ·rename_i u hu
    split at h
    ·rename_i b hb; cases h
     exact (qnx hr false rfl ho rfl ht (qan hid hr hf h1 hu) hb).wp hF (by simp[ho]) hk
    ·cases h
   ·cases h
  ·rename_i ht
   simp only[Wc] at hc
   obtain⟨x',h1,rfl⟩:=hc
   simp only[qar] at h
   split at h
   ·rename_i u hu
    split at h
    ·rename_i b hb; cases h
     exact (qnx hr true rfl ho rfl ht (qan hid hr hf h1 hu) hb).wp hF (by simp[ho]) hk
    ·cases h
   ·cases h
  ·split at hc
   ·rename_i x' y' h1 h2
    split at hc
    ·have ht:P.underlying t=some .bool:=by assumption
     cases hc
     simp only[qar] at h
     split at h
     ·rename_i A B hA hB
      cases h
      exact (qwW hr false rfl ho ht (qan hid hr hf h1 hA) (qan hid hr hf h2 hB)).wp hF (by simp[ho]) hk
     ·cases h
    ·have ht:P.underlying t=some .bool:=by assumption
     cases hc
     simp only[qar] at h
     split at h
     ·rename_i A B hA hB
      cases h
      exact (qwW hr true rfl ho ht (qan hid hr hf h1 hA) (qan hid hr hf h2 hB)).wp hF (by simp[ho]) hk
     ·cases h
    ·have ht:qaJ P t=some true:=by
      have : ∃ f,P.underlying t=some (.struct f):=⟨_,by assumption⟩
      obtain⟨f,e⟩:=this
      simp[qaJ,e]
     simp only[Wc] at hc
     obtain⟨ks,hks,rfl⟩:=hc
     simp only[qar] at h
     split at h
     ·rename_i A B hA hB
      split at h
      ·rename_i r hr'; cases h
       exact (qrs hr false rfl ho ht hks (qan hid hr hf h1 hA) (qan hid hr hf h2 hB) hr').wp hF (by simp[ho]) hk
      ·cases h
     ·cases h
    ·have ht:qaJ P t=some true:=by
      have : ∃ f,P.underlying t=some (.struct f):=⟨_,by assumption⟩
      obtain⟨f,e⟩:=this
      simp[qaJ,e]
     simp only[Wc] at hc
     obtain⟨ks,hks,rfl⟩:=hc
     simp only[qar] at h
     split at h
     ·rename_i A B hA hB
      split at h
      ·rename_i r hr'; cases h
       exact (qrs hr true rfl ho ht hks (qan hid hr hf h1 hA) (qan hid hr hf h2 hB) hr').wp hF (by simp[ho]) hk
      ·cases h
     ·cases h
    ·have ht:qaJ P t=some true:=by
      have : ∃ n f,P.underlying t=some (.array n f):=⟨_,_,by assumption⟩
      obtain⟨n,f,e⟩:=this
      simp[qaJ,e]
     simp only[Wc] at hc
     obtain⟨ks,hks,rfl⟩:=hc
     simp only[qar] at h
     split at h
     ·rename_i A B hA hB
      split at h
      ·rename_i r hr'; cases h
       exact (qrs hr false rfl ho ht hks (qan hid hr hf h1 hA) (qan hid hr hf h2 hB) hr').wp hF (by simp[ho]) hk
      ·cases h
     ·cases h
    ·have ht:qaJ P t=some true:=by
      have : ∃ n f,P.underlying t=some (.array n f):=⟨_,_,by assumption⟩
      obtain⟨n,f,e⟩:=this
      simp[qaJ,e]
     simp only[Wc] at hc
     obtain⟨ks,hks,rfl⟩:=hc
     simp only[qar] at h
     split at h
     ·rename_i A B hA hB
      split at h
      ·rename_i r hr'; cases h
       exact (qrs hr true rfl ho ht hks (qan hid hr hf h1 hA) (qan hid hr hf h2 hB) hr').wp hF (by simp[ho]) hk
      ·cases h
     ·cases h
    ·have ht : ∃ e',P.underlying t=some (.pointer e')/\(if qaH P e'=none\/qaH P e'=some 0 then none else some (O.peq false x' y'))=some op:=⟨_,by assumption,hc⟩
     obtain⟨e',ht,hc⟩:=ht
     split at hc
     ·cases hc
     ·rename_i hz
      cases hc
      simp only[qar] at h
      split at h
      ·rename_i l1 o1 l2 o2 hA hB
       split at h
       ·rename_i hlo
        obtain⟨rfl,rfl⟩:=hlo
        cases h
        cases hn:qaH P e' with
        |none=>exact absurd (.inl hn) hz
        |some n=>exact (qwl hr false rfl ho ht hn (fun h0=>hz (.inr (by rw[hn,h0]))) (qan hid hr hf h1 hA) (qan hid hr hf h2 hB)).wp hF (by simp[ho]) hk
       ·cases h
      ·cases h
    ·have ht : ∃ e',P.underlying t=some (.pointer e')/\(if qaH P e'=none\/qaH P e'=some 0 then none else some (O.peq true x' y'))=some op:=⟨_,by assumption,hc⟩
     obtain⟨e',ht,hc⟩:=ht
     split at hc
     ·cases hc
     ·rename_i hz
      cases hc
      simp only[qar] at h
      split at h
      ·rename_i l1 o1 l2 o2 hA hB
       split at h
       ·rename_i hlo
        obtain⟨rfl,rfl⟩:=hlo
        cases h
        cases hn:qaH P e' with
        |none=>exact absurd (.inl hn) hz
        |some n=>exact (qwl hr true rfl ho ht hn (fun h0=>hz (.inr (by rw[hn,h0]))) (qan hid hr hf h1 hA) (qan hid hr hf h2 hB)).wp hF (by simp[ho]) hk
       ·cases h
      ·cases h
    ·cases hc
     simp only[qar] at h
     split at h
     ·rename_i A B hA hB
      split at h
      ·rename_i r hr'; cases h
       exact (qy2 hr ho (qan hid hr hf h1 hA) (qan hid hr hf h2 hB) hr').wp hF (by simp[ho]) hk
      ·cases h
     ·cases h
   ·cases hc
 |unOp op t x=>
  rw[ho] at hc
  simp only[qcW,Wc] at hc
  obtain⟨y,hy,rfl⟩:=hc
  simp only[qar] at h
  split at h
  ·rename_i A hA
   split at h
   ·rename_i r hr'; cases h
    exact (qzE hr ho (qan hid hr hf hy hA) hr').wp hF (by simp[ho]) hk
   ·cases h
  ·cases h
 |convert s t x=>
  rw[ho] at hc
  simp only[qcW] at hc
  split at hc
  ·rename_i d k y h1 h2 h3
   cases hc
   simp only[qar] at h
   split at h
   ·rename_i A hA
    split at h
    ·rename_i r hr'; cases h
     exact (qqv hr ho (qan hid hr hf h3 hA) h1 (.inl ⟨_,rfl,h2⟩) hr').wp hF (by simp[ho]) hk
    ·cases h
   ·cases h
  ·rename_i k y h1 h2 h3
   cases hc
   simp only[qar] at h
   split at h
   ·rename_i A hA
    split at h
    ·rename_i r hr'; cases h
     exact (qqv hr ho (qan hid hr hf h3 hA) h1 (.inr (.inl ⟨rfl,h2⟩)) hr').wp hF (by simp[ho]) hk
    ·cases h
   ·cases h
  ·rename_i y h1 h2 h3
   cases hc
   simp only[qar] at h
   split at h
   ·rename_i A hA
    split at h
    ·rename_i r hr'; cases h
     exact (qqv hr ho (qan hid hr hf h3 hA) h1 (.inr (.inr ⟨rfl,h2⟩)) hr').wp hF (by simp[ho]) hk
    ·cases h
   ·cases h
  ·rename_i e y h1 h2 h3
   split at hc
   ·rename_i he hb
    cases hc
    simp only[qar] at h
    split at h
    ·rename_i A hA
     split at h
     ·cases h
      exact (quM hr ho (qan hid hr hf h3 hA) h1 h2 he).wp hF (by simp[ho]) hk
     ·cases h
    ·cases h
   ·cases hc
  ·rename_i e y h1 h2 h3
   split at hc
   ·rename_i he
    cases hc
    simp only[qar] at h
    split at h
    ·rename_i A hA
     split at h
     ·rename_i u hu
      cases h
      exact (qwi hr ho (qan hid hr hf h3 hA) h1 he h2 hu).wp hF (by simp[ho]) hk
     ·cases h
    ·cases h
   ·cases hc
  ·rename_i e y h1 h2 h3
   split at hc
   ·cases hc
   ·rename_i hz
    cases hc
    simp only[qar] at h
    split at h
    ·rename_i l off hA
     split at h
     ·rename_i k cs hcs
      split at h
      ·rename_i hlt
       cases h
       cases hn:qaH P e with
       |none=>exact absurd (.inl hn) hz
       |some n=>exact (qzA hr ho h1 h2 hn (fun h0=>hz (.inr (by rw[hn,h0]))) (qan hid hr hf h3 hA) hcs hlt).wp hF (by simp[ho]) hk
      ·cases h
     ·cases h
    ·cases h
  ·rename_i e y h1 h2 h3
   split at hc
   ·cases hc
   ·rename_i hz
    cases hc
    simp only[qar] at h
    split at h
    ·rename_i l hA
     split at h
     ·rename_i k cs hcs
      split at h
      ·rename_i hlt
       cases h
       cases hn:qaH P e with
       |none=>exact absurd (.inl hn) hz
       |some n=>exact (qwk hid hr ho h1 h2 hn (qan hid hr hf h3 hA) hcs hlt).wp hF (by simp[ho]) hk
      ·cases h
     ·cases h
    ·cases h
  ·cases hc
 |fieldAddr s x f=>
  rw[ho] at hc
  simp only[qcW] at hc
  split at hc
  ·rename_i fields y h1 h2
   split at hc
   ·rename_i fd hfd
    split at hc
    ·cases hc
    ·rename_i h0
     simp only[Wc] at hc
     obtain⟨n,hn,rfl⟩:=hc
     simp only[qar] at h
     split at h
     ·rename_i p hp
      split at h
      ·rename_i u hu; cases h
       exact (qmI hr ho (qan hid hr hf h2 hp) h1 hfd hn (fun e=>h0 (by rw[hn,e])) hu).wp hF (by simp[ho]) hk
      ·cases h
     ·cases h
   ·cases hc
  ·cases hc
 |field t x f=>
  rw[ho] at hc
  simp only[qcW] at hc
  split at hc
  ·rename_i fields y h1 h2
   split at hc
   ·rename_i fd hfd
    split at hc
    ·rename_i n k1 k2
     cases hc
     simp only[qar] at h
     split at h
     ·rename_i p hp
      split at h
      ·rename_i cs hcs
       split at h
       ·rename_i vs hvs
        split at h
        ·rename_i u hu; cases h
         exact (qqy hr ho (qan hid hr hf h2 hp) h1 hfd (.inl ⟨rfl,k1,k2⟩) hcs hvs hu).wp hF (by simp[ho]) hk
        ·cases h
       ·cases h
      ·cases h
     ·cases h
    ·rename_i k1
     cases hc
     simp only[qar] at h
     split at h
     ·rename_i p hp
      split at h
      ·rename_i cs hcs
       split at h
       ·rename_i vs hvs
        split at h
        ·rename_i u hu; cases h
         exact (qqy hr ho (qan hid hr hf h2 hp) h1 hfd (.inr ⟨rfl,k1,rfl⟩) hcs hvs hu).wp hF (by simp[ho]) hk
        ·cases h
       ·cases h
      ·cases h
     ·cases h
    ·cases hc
   ·cases hc
  ·cases hc
 |indexAddr t x i=>
  rw[ho] at hc
  simp only[qcW] at hc
  split at hc
  ·rename_i e y j h1 h2 h3
   simp only[Wc] at hc
   obtain⟨n,hn,rfl⟩:=hc
   simp only[qar] at h
   split at h
   ·rename_i s k m hs hm
    split at h
    ·rename_i u hu; cases h
     exact (qmJ hr ho (qan hid hr hf h2 hs) (qan hid hr hf h3 hm) h1 hn hu).wp hF (by simp[ho]) hk
    ·cases h
   ·cases h
  ·rename_i len e y j h1 h2 h3
   simp only[Wc] at hc
   obtain⟨n,hn,rfl⟩:=hc
   simp only[qar] at h
   split at h
   ·rename_i s k m hs hm
    split at h
    ·rename_i hj
     split at h
     ·rename_i u hu; cases h
      exact (qlO hr ho (qan hid hr hf h2 hs) (qan hid hr hf h3 hm) h1 hn hj hu).wp hF (by simp[ho]) hk
     ·cases h
    ·cases h
   ·cases h
  ·cases hc
 |index t x i=>
  rw[ho] at hc
  simp only[qcW] at hc
  split at hc
  ·rename_i len e y j h1 h2 h3
   split at hc
   ·rename_i n k1 k2
    cases hc
    simp only[qar] at h
    split at h
    ·rename_i s k m hs hm
     split at h
     ·rename_i hj
      split at h
      ·rename_i cs hcs
       split at h
       ·rename_i vs hvs
        split at h
        ·rename_i u hu; cases h
         exact (qnz hr ho (qan hid hr hf h2 hs) (qan hid hr hf h3 hm) h1 (.inl ⟨rfl,k1,k2⟩) hj hcs hvs hu).wp hF (by simp[ho]) hk
        ·cases h
       ·cases h
      ·cases h
     ·cases h
    ·cases h
   ·rename_i n k1 k2
    split at hc
    ·rename_i hn1
     subst hn1
     cases hc
     simp only[qar] at h
     split at h
     ·rename_i s k m hs hm
      split at h
      ·rename_i hj
       split at h
       ·rename_i cs hcs
        split at h
        ·rename_i vs hvs
         split at h
         ·rename_i u hu; cases h
          exact (qnz hr ho (qan hid hr hf h2 hs) (qan hid hr hf h3 hm) h1 (.inr ⟨rfl,k1,rfl,k2⟩) hj hcs hvs hu).wp hF (by simp[ho]) hk
         ·cases h
        ·cases h
       ·cases h
      ·cases h
     ·cases h
    ·cases hc
   ·cases hc
  ·rename_i y j h1 h2 h3
   cases hc
   simp only[qar] at h
   split at h
   ·rename_i s k m hs hm
    split at h
    ·rename_i hj
     split at h
     ·rename_i u hu; cases h
      exact (qsl hr ho (qan hid hr hf h2 hs) (qan hid hr hf h3 hm) h1 hj hu).wp hF (by simp[ho]) hk
     ·cases h
    ·cases h
   ·cases h
  ·cases hc
 |slice t x lo hi mx=>
  rw[ho] at hc
  simp only[qcW] at hc
  split at hc
  ·rename_i e y l u h1 h2 h3 h4
   simp only[Wc] at hc
   obtain⟨n,hn,rfl⟩:=hc
   split at h
   ·simp only[qar] at h
    split at h
    ·rename_i p l' u' hp hl hu
     by_cases hpv:(ids.pv e&&(l.isNone&&hiC u))=true
     ·rw[if_pos hpv] at hl
      simp only[Wh,Option.isNone_iff_eq_none] at hpv
      obtain⟨_,rfl,_⟩:=hpv
      simp only[qci,X.ev,WO,Wd] at hl
      subst hl
      exact (qw1 hr ho (qan hid hr hf h2 hp) h1 hn (lo0:=none) (qba hid hr hf h3 rfl) (qba hid hr hf h4 hu) (fun m=>by simp[bound]) h).wp hF (by simp[ho]) hk
     ·rw[if_neg hpv] at hl
      exact (qw1 hr ho (qan hid hr hf h2 hp) h1 hn (qba hid hr hf h3 hl) (qba hid hr hf h4 hu) (fun _=>rfl) h).wp hF (by simp[ho]) hk
    ·cases h
   ·simp only[qar] at h
    split at h
    ·rename_i p l' u' hp hl hu
     split at h
     ·rename_i r hr'; cases h
      exact (qqB hr ho (qan hid hr hf h2 hp) h1 hn (qba hid hr hf h3 hl) (qba hid hr hf h4 hu) hr').wp hF (by simp[ho]) hk
     ·cases h
    ·cases h
  ·rename_i y l u h1 h2 h3 h4
   cases hc
   simp only[qar] at h
   split at h
   ·rename_i p l' u' hp hl hu
    split at h
    ·rename_i r hr'; cases h
     exact (qsm hr ho (qan hid hr hf h2 hp) h1 (qba hid hr hf h3 hl) (qba hid hr hf h4 hu) hr').wp hF (by simp[ho]) hk
    ·cases h
   ·cases h
  ·rename_i len e y l u h1 h2 h3 h4
   simp only[Wc] at hc
   obtain⟨n,hn,rfl⟩:=hc
   simp only[qar] at h
   split at h
   ·rename_i p l' u' hp hl hu
    split at h
    ·rename_i r hr'; cases h
     exact (qrL hr ho (qan hid hr hf h2 hp) h1 hn (qba hid hr hf h3 hl) (qba hid hr hf h4 hu) hr').wp hF (by simp[ho]) hk
    ·cases h
   ·cases h
  ·rename_i m e y l u h1 h2 h3 h4
   split at hc
   ·rename_i n z hn hz
    cases hc
    simp only[qar] at h
    split at h
    ·rename_i p l' u' m' hp hl hu hm
     split at h
     ·rename_i r hr'; cases h
      exact (qri hr ho (qan hid hr hf h2 hp) h1 hn (qba hid hr hf h3 hl) (qba hid hr hf h4 hu) (qan hid hr hf hz hm) hr').wp hF (by simp[ho]) hk
     ·cases h
    ·cases h
   ·cases hc
  ·cases hc
 |makeMap t r=>
  rw[ho] at hc
  simp only[qcW] at hc
  split at hc
  ·cases hc
   simp only[qar,Wd,Wx] at h
   obtain⟨rfl,rfl⟩:=h
   exact (qtE hr ho).wp hF (by simp[ho]) hk
  ·rename_i x kt e ht
   simp only[Wc] at hc
   obtain⟨y,hy,rfl⟩:=hc
   simp only[qar] at h
   split at h
   ·rename_i k i hx; cases h
    exact (qrj hr ho ht (qan hid hr hf hy hx)).wp hF (by simp[ho]) hk
   ·cases h
  ·cases hc
 |range t x=>
  rw[ho] at hc
  simp only[qcW] at hc
  split at hc
  ·rename_i kt e ht
   simp only[Wc] at hc
   obtain⟨y,hy,rfl⟩:=hc
   simp only[qar] at h
   split at h
   ·rename_i l hx
    split at h
    ·rename_i es hes; cases h
     exact (qrl hr ho ht (qan hid hr hf hy hx) ⟨es,hes⟩).wp hF (by simp[ho]) hk
    ·cases h
   ·cases h
  ·cases hc
 |next x b=>
  rw[ho] at hc
  cases b with
  |true=>cases hc
  |false=>
   simp only[qcW,Wc] at hc
   obtain⟨y,hy,rfl⟩:=hc
   simp only[qar] at h
   split at h
   ·rename_i l hx
    split at h
    ·rename_i m hi
     split at h
     ·rename_i hm; cases h
      exact (qtf hr ho (qan hid hr hf hy hx) hi hm).wp hF (by simp[ho]) hk
     ·cases h
    ·cases h
   ·cases h
 |mapUpdate t m k x=>
  rw[ho] at hc
  simp only[qcW] at hc
  split at hc
  ·rename_i kt e m' k' x' h1 h2 h3 h4
   simp only[Wc] at hc
   obtain⟨kd,hkd,rfl⟩:=hc
   simp only[qar] at h
   split at h
   ·rename_i l key u hm hkey hu
    split at h
    ·rename_i es hes
     split at h
     ·split at h
      ·rename_i es' hes'; cases h
       exact (qnk hr (.inl ho) h1 hkd (qan hid hr hf h2 hm) (qan hid hr hf h3 hkey) (qan hid hr hf h4 hu) hes hes').wp hF (by simp[ho]) hk
      ·cases h
     ·cases h
    ·cases h
   ·cases h
  ·cases hc
 |insert t m k x=>
  rw[ho] at hc
  simp only[qcW] at hc
  split at hc
  ·rename_i kt e m' k' x' h1 h2 h3 h4
   simp only[Wc] at hc
   obtain⟨kd,hkd,rfl⟩:=hc
   simp only[qar] at h
   split at h
   ·rename_i l key u hm hkey hu
    split at h
    ·rename_i es hes
     split at h
     ·split at h
      ·rename_i es' hes'; cases h
       exact (qnk hr (.inr ho) h1 hkd (qan hid hr hf h2 hm) (qan hid hr hf h3 hkey) (qan hid hr hf h4 hu) hes hes').wp hF (by simp[ho]) hk
      ·cases h
     ·cases h
    ·cases h
   ·cases h
  ·cases hc
 |lookup t m k ok=>
  rw[ho] at hc
  simp only[qcW] at hc
  split at hc
  ·rename_i kt e m' k' h1 h2 h3
   split at hc
   ·rename_i kd z hkd hz
    cases hc
    simp only[qar] at h
    split at h
    ·rename_i l key hm hkey
     split at h
     ·rename_i es hes
      split at h
      ·split at h
       ·rename_i u hu; cases h
        exact (qnj hr ho h1 hkd hz (qan hid hr hf h2 hm) (qan hid hr hf h3 hkey) hes hu).wp hF (by simp[ho]) hk
       ·rename_i hu; cases h
        exact (qnj hr ho h1 hkd hz (qan hid hr hf h2 hm) (qan hid hr hf h3 hkey) hes hu).wp hF (by simp[ho]) hk
       ·cases h
      ·cases h
     ·cases h
    ·cases h
   ·cases hc
  ·cases hc
 |makeFunc fn x y=>
  rw[ho] at hc
  cases fn with
  |func f=>
   simp only[qcW] at hc
   split at hc
   ·rename_i g as bs h1 h2 h3
    cases hc
    simp only[qar] at h
    split at h
    ·rename_i us ws hu hw; cases h
     exact (qwZ hr ho (hid.fn f g h1) (qbf hid hr hf h2 hu) (qbf hid hr hf h3 hw)).wp hF (by simp[ho]) hk
    ·cases h
   ·cases hc
  |method name=>
   simp only[qcW] at hc
   split at hc
   ·rename_i x1 hxs hys
    simp only[Wc] at hc
    obtain⟨y1,h1,rfl⟩:=hc
    simp only[qar] at h
    split at h
    ·rename_i t v vs' hv
     split at h
     ·rename_i g hg
      cases h
      have e1:x = #[x1]:=by apply WG; simpa using hxs
      have e2:y = #[]:=by apply WG; simpa using hys
      obtain⟨fn,hm,hi⟩:=qbD hid hg
      exact (qsk hr (by rw[e2] at ho; exact ho) e1 (qan hid hr hf h1 hv) ((hid.mt _ _ _).2 ⟨fn,hm,hi⟩)).wp hF (by simp[ho]) hk
     ·cases h
    ·cases h
   ·cases hc
  |_=>simp[qcW] at hc
 |extract x i=>
  rw[ho] at hc
  simp only[qcW,Wc] at hc
  obtain⟨y,hy,rfl⟩:=hc
  simp only[qar] at h
  split at h
  ·rename_i vs hvs
   split at h
   ·rename_i u hu; cases h
    exact (qqz hr ho (qan hid hr hf hy hvs) hu).wp hF (by simp[ho]) hk
   ·cases h
  ·cases h
 |call c=>
  rw[ho] at hc
  simp only[qcW,qoN] at hc
  split at hc
  ·rename_i f hcal
   split at hc
   ·rename_i g xs h1 h2
    cases hc
    simp only[qar] at h
    split at h
    ·rename_i vs hvs
     have hargs:=qbf hid hr hf h2 hvs
     obtain⟨k1,k2⟩:=qcQ (pre:=[]) (post:=[]) (xs:=[]) (zs:=[]) hC hr rfl hargs rfl (by simpa using h)
     rw[hid.fn f g h1] at k1 k2
     simp only[Wk,Wp] at k2
     refine qjL (by simp[ho]) ?_ k2 hk
     simp only[execOp,ho,resolve,hcal,Act.eval,Deferred.ofValue,Sem.run_bind,Sem.run_pure,Result.andThen_ok,invoke]
     rw[qa7 k1]
     simp
     apply WG; simp
    ·cases h
   ·rename_i xs h1 h2
    split at hc
    ·rename_i y he
     cases hc
     simp only[qar] at h
     split at h
     ·rename_i u hu
      cases h
      obtain⟨p,q1,q2⟩:=qzl h2
      exact (qwo hr ho hcal he q1 rfl (qan hid hr hf q2 hu)).wp hF (by simp[ho]) hk
     ·cases h
    ·rename_i y z he
     cases hc
     simp only[qar] at h
     split at h
     ·rename_i s n hs hn
      cases h
      obtain⟨p,q,q1,q2,q3⟩:=qzB h2
      exact (qyM hr ho hcal he q1 rfl (qan hid hr hf q2 hs) (qan hid hr hf q3 hn)).wp hF (by simp[ho]) hk
     ·cases h
    ·cases hc
   ·cases hc
  ·rename_i x hx hcal
   split at hc
   ·rename_i g xs h1 h2
    cases hc
    simp only[qar] at h
    split at h
    ·rename_i id as bs vs hfn hvs
     have hargs:=qbf hid hr hf h2 hvs
     have hfv:=qan hid hr hf h1 hfn
     simp only[Rep] at hfv
     obtain⟨as',bs',e1,e2,e3⟩:=hfv
     obtain⟨k1,k2⟩:=qcQ hC hr e2 hargs e3 h
     refine qjL (by simp[ho]) ?_ k2 hk
     simp only[execOp,ho,resolve,hcal,e1,Deferred.ofValue,Sem.run_bind,Sem.run_pure,Result.andThen_ok,invoke]
     rw[qa7 k1]
     simp
    ·rename_i g' v' vs hfn hvs
     have hargs:=qbf hid hr hf h2 hvs
     have hfv:=qan hid hr hf h1 hfn
     simp only[Rep] at hfv
     obtain⟨t,nm,y,e1,e2,e3⟩:=hfv
     obtain⟨fn,hm,hi⟩:=(hid.mt _ _ _).1 e2
     have hall:Reps fid Γ (v'::vs) (y::c.args.toList.map a.eval):=by simp only[Reps]; exact⟨_,_,rfl,e3,hargs⟩
     obtain⟨k1,k2⟩:=qcQ (pre:=[]) (post:=[]) (xs:=[]) (zs:=[]) hC hr rfl hall rfl (by simpa using h)
     rw[hid.fn fn g' hi] at k1 k2
     simp only[Wk,Wp] at k2
     refine qjL (by simp[ho]) ?_ k2 hk
     simp only[execOp,ho,resolve,hcal,e1,Deferred.ofValue,Sem.run_bind,Sem.run_pure,Result.andThen_ok,invoke]
     have q0:(#[Value.iface t y]++Array.map a.eval c.args)[0]?=some (.iface t y):=by
      rw[W2 (by show 0<1; omega)]; rfl
     have q1:(#[Value.iface t y]++Array.map a.eval c.args).extract 1 (#[Value.iface t y]++Array.map a.eval c.args).size=Array.map a.eval c.args:=by
      apply WG; simp; try exact Wl (by simp)
     simp only[q0,q1]
     rw[qfK hm,qa7 k1]
     try simp
     try (apply WG; simp)
    ·rename_i l vs hfn hvs
     have hargs:=qbf hid hr hf h2 hvs
     have hfv:=qan hid hr hf h1 hfn
     obtain⟨b,ys,fn,tmps,as,bd,q1,q2,q3⟩:=qjK hC hr (args := .yld l::vs) (xs:=a.eval x::c.args.toList.map a.eval) ⟨_,_,rfl,hfv,hargs⟩ h
     simp only[Yh] at q1
     obtain⟨q0,rfl⟩:=q1
     refine qrr (by simp[ho]) ?_ q3 hk
     simp only[execOp,ho,resolve,hcal,q0,Deferred.ofValue,Sem.run_bind,Sem.run_pure,Result.andThen_ok,invoke]
     have e:(List.map a.eval c.args.toList).toArray=Array.map a.eval c.args:=by apply WG; simp
     rw[e] at q2
     simpa using q2
    ·cases h
   ·cases hc
  ·rename_i recv name hcal
   split at hc
   ·rename_i x xs h1 h2
    cases hc
    simp only[qar] at h
    split at h
    ·rename_i t v vs hv hvs
     split at h
     ·rename_i g hg
      have hargs:=qbf hid hr hf h2 hvs
      have hfv:=qan hid hr hf h1 hv
      simp only[Rep] at hfv
      obtain⟨y,e1,e2⟩:=hfv
      obtain⟨fn,hm,hi⟩:=qbD hid hg
      have hall:Reps fid Γ (v::vs) (y::c.args.toList.map a.eval):=by simp only[Reps]; exact⟨_,_,rfl,e2,hargs⟩
      obtain⟨k1,k2⟩:=qcQ (pre:=[]) (post:=[]) (xs:=[]) (zs:=[]) hC hr rfl hall rfl (by simpa using h)
      rw[hid.fn fn g hi] at k1 k2
      simp only[Wk,Wp] at k2
      refine qjL (by simp[ho]) ?_ k2 hk
      simp only[execOp,ho,resolve,hcal,e1,Sem.run_bind,Sem.run_pure,Result.andThen_ok,invoke]
      have q0:(#[Value.iface (fid.ty t) y]++Array.map a.eval c.args)[0]?=some (.iface (fid.ty t) y):=by
       rw[W2 (by show 0<1; omega)]; rfl
      have q1:(#[Value.iface (fid.ty t) y]++Array.map a.eval c.args).extract 1 (#[Value.iface (fid.ty t) y]++Array.map a.eval c.args).size=Array.map a.eval c.args:=by
       apply WG; simp; try exact Wl (by simp)
      simp only[q0,q1]
      rw[qfK hm,qa7 k1]
      try simp
      try (apply WG; simp)
     ·cases h
    ·cases h
   ·cases hc
  ·rename_i b hcal
   split at hc
   ·rename_i x t hxs hts
    split at hc
    ·rename_i y h1 h2
     cases hc
     simp only[qar] at h
     split at h
     ·rename_i u hu
      split at h
      ·rename_i n hn; cases h
       exact (quL hr ho hcal hxs hts (qan hid hr hf h2 hu) (.inl ⟨rfl,h1⟩) hn).wp hF (by simp[ho]) hk
      ·cases h
     ·cases h
    ·rename_i e y h1 h2
     cases hc
     simp only[qar] at h
     split at h
     ·rename_i u hu
      split at h
      ·rename_i n hn; cases h
       exact (quL hr ho hcal hxs hts (qan hid hr hf h2 hu) (.inr (.inl ⟨rfl,_,h1⟩)) hn).wp hF (by simp[ho]) hk
      ·cases h
     ·cases h
    ·rename_i e e' y h1 h2
     cases hc
     simp only[qar] at h
     split at h
     ·rename_i u hu
      split at h
      ·rename_i n hn; cases h
       exact (quL hr ho hcal hxs hts (qan hid hr hf h2 hu) (.inr (.inr ⟨rfl,_,_,h1⟩)) hn).wp hF (by simp[ho]) hk
      ·cases h
     ·cases h
    ·cases hc
   ·rename_i xs ts
    simp only[Wc] at hc
    obtain⟨ys,hys,rfl⟩:=hc
    simp only[qar] at h
    split at h
    ·rename_i vs hvs
     split at h
     ·rename_i y ys' hl
      split at h
      ·rename_i r hr'; cases h
       exact (qy3 hr ho hcal (qbf hid hr hf hys hvs) hl hr').wp hF (by simp[ho]) hk
      ·cases h
     ·cases h
    ·cases h
   ·rename_i xs ts
    simp only[Wc] at hc
    obtain⟨ys,hys,rfl⟩:=hc
    simp only[qar] at h
    split at h
    ·rename_i vs hvs
     split at h
     ·rename_i y ys' hl
      split at h
      ·rename_i r hr'; cases h
       exact (qy4 hr ho hcal (qbf hid hr hf hys hvs) hl hr').wp hF (by simp[ho]) hk
      ·cases h
     ·cases h
    ·cases h
   ·rename_i s x ts tx hxs hts
    split at hc
    ·rename_i e ex s' x' h1 h2 h3 h4
     split at hc
     ·rename_i n b z hn hb hz
      split at hc
      ·rename_i hzn
       cases hc
       split at h
       ·split at h
        ·rename_i k hty
         simp only[qar] at h
         split at h
         ·rename_i p q hp hq
          exact (qlq hr ho hcal hxs hts h1 (.inl ⟨_,h2⟩) hn hb hz hzn (hid.ty _ _ (Ids.tyA_ty hty)) (qan hid hr hf h3 hp) (qan hid hr hf h4 hq) h).wp hF (by simp[ho]) hk
         ·cases h
        ·simp only[qar] at h
         split at h
         ·rename_i p q hp hq
          exact (qlP hr ho hcal hxs hts h1 (.inl ⟨_,h2⟩) hn hb hz hzn (qan hid hr hf h3 hp) (qan hid hr hf h4 hq) h).wp hF (by simp[ho]) hk
         ·cases h
       ·simp only[qar] at h
        split at h
        ·rename_i p q hp hq
         exact (qnf hr ho hcal hxs hts h1 (.inl ⟨_,h2⟩) hn hb hz hzn (qan hid hr hf h3 hp) (qan hid hr hf h4 hq) h).wp hF (by simp[ho]) hk
        ·cases h
      ·cases hc
     ·cases hc
    ·rename_i e s' x' h1 h2 h3 h4
     split at hc
     ·rename_i n b z hn hb hz
      split at hc
      ·rename_i hzn
       cases hc
       split at h
       ·split at h
        ·rename_i k hty
         simp only[qar] at h
         split at h
         ·rename_i p q hp hq
          exact (qlq hr ho hcal hxs hts h1 (.inr h2) hn hb hz hzn (hid.ty _ _ (Ids.tyA_ty hty)) (qan hid hr hf h3 hp) (qan hid hr hf h4 hq) h).wp hF (by simp[ho]) hk
         ·cases h
        ·simp only[qar] at h
         split at h
         ·rename_i p q hp hq
          exact (qlP hr ho hcal hxs hts h1 (.inr h2) hn hb hz hzn (qan hid hr hf h3 hp) (qan hid hr hf h4 hq) h).wp hF (by simp[ho]) hk
         ·cases h
       ·simp only[qar] at h
        split at h
        ·rename_i p q hp hq
         exact (qnf hr ho hcal hxs hts h1 (.inr h2) hn hb hz hzn (qan hid hr hf h3 hp) (qan hid hr hf h4 hq) h).wp hF (by simp[ho]) hk
        ·cases h
      ·cases hc
     ·cases hc
    ·rename_i e ik s' x' h1 h2 h3 h4
     split at hc
     ·rename_i n b z hn hb hz
      split at hc
      ·rename_i hzn
       cases hc
       simp only[qar] at h
       split at h
       ·rename_i k m hp hq
        split at h
        ·rename_i hcond
         cases h
         have hll:(qaz z).length=n:=by simpa [qaz] using hzn.1
         rw[hll] at hk
         exact (qo4 hr ho hcal hxs hts h1 h2 hn hb hz hzn.1 hzn.2 (qan hid hr hf h3 hp) (qan hid hr hf h4 hq) hcond.1 hcond.2.1 hcond.2.2).wp hF (by simp[ho]) hk
        ·cases h
       ·cases h
      ·cases hc
     ·cases hc
    ·cases hc
   ·rename_i x ts hxs
    simp only[Wc] at hc
    obtain⟨y,hy,rfl⟩:=hc
    simp only[qar] at h
    split at h
    ·rename_i hu
     cases h
     exact (qwm hr ho hcal hxs (qan hid hr hf hy hu) (.inl ⟨rfl,rfl⟩)).wp hF (by simp[ho]) hk
    ·rename_i l n sz hu
     split at h
     ·rename_i hc2
      obtain⟨hn0,rfl⟩:=hc2
      cases h
      exact (qwm hr ho hcal hxs (qan hid hr hf hy hu) (.inr ⟨l,n,rfl,hn0,rfl⟩)).wp hF (by simp[ho]) hk
     ·cases h
    ·cases h
   ·rename_i x n tx ty hxs hts
    split at hc
    ·rename_i e A B h1 h2 h3
     split at hc
     ·rename_i u hty hu8
      split at hc
      ·rename_i hcond
       cases hc
       simp only[qar] at h
       split at h
       ·rename_i k kk hp hn
        split at h
        ·rename_i hk0
         subst hk0
         cases h
         exact (qt2 hr ho hcal hxs hts (qan hid hr hf h2 hp) (qan hid hr hf h3 hn) rfl).wp hF (by simp[ho]) hk
        ·cases h
       ·rename_i l m off kk k hp hn
        split at h
        ·rename_i t cs hcs
         split at h
         ·rename_i hcond2
          split at h
          ·rename_i bs hbs
           cases h
           obtain⟨d1,d2,d3,d4,d5,d6⟩:=hcond2
           subst d2 d3 d5
           simp only[List.contains_cons,List.contains_nil,Bool.or_false,beq_iff_eq] at d1
           subst d1
           exact (qwn hr ho hcal hxs hts h1 hcond.2.1 (hid.ty _ _ hty) (qan hid hr hf h2 hp) (qan hid hr hf h3 hn) rfl hcs d4 d6 hbs).wp hF (by simp[ho]) hk
          ·cases h
         ·cases h
        ·cases h
       ·cases h
      ·cases hc
     ·cases hc
    ·cases hc
   ·rename_i x t hxs hts
    split at hc
    ·rename_i e y h1 h2
     cases hc
     simp only[qar] at h
     split at h
     ·rename_i hp; cases h
      exact (qvv hr ho hcal hxs hts h1 (qan hid hr hf h2 hp)).wp hF (by simp[ho]) hk
     ·cases h
    ·cases hc
   ·rename_i x y t ts hxs hts
    split at hc
    ·rename_i e p q h1 h2 h3
     simp only[Wc] at hc
     obtain⟨n,hn,rfl⟩:=hc
     simp only[qar] at h
     split at h
     ·rename_i u w hp hq
      split at h
      ·rename_i xs m k hs hl
       split at h
       ·rename_i hcond
        split at h
        ·rename_i σ1 hlay; cases h
         exact (qvu hr ho hcal hxs hts h1 hn (qan hid hr hf h2 hp) (qan hid hr hf h3 hq) hs hl hcond.1 hcond.2.1 hcond.2.2 hlay).wp hF (by simp[ho]) hk
        ·cases h
       ·cases h
      ·cases h
     ·cases h
    ·cases hc
   ·rename_i x t hxs hts
    split at hc
    ·rename_i e p h1 h2
     split at hc
     ·rename_i z hz
      split at hc
      ·rename_i hz0
       cases hc
       simp only[qar] at h
       split at h
       ·rename_i u hu
        split at h
        ·rename_i n hl
         split at h
         ·rename_i σ1 hlay; cases h
          exact (qyr hr ho hcal hxs hts h1 hz hz0 (qan hid hr hf h2 hu) hl hlay).wp hF (by simp[ho]) hk
         ·cases h
        ·cases h
       ·cases h
      ·cases hc
     ·cases hc
    ·cases hc
   ·rename_i m k t ts hxs hts
    split at hc
    ·rename_i kt e p q h1 h2 h3
     simp only[Wc] at hc
     obtain⟨kd,hkd,rfl⟩:=hc
     simp only[qar] at h
     split at h
     ·rename_i l key hm hkey
      split at h
      ·rename_i es hes
       split at h
       ·split at h
        ·rename_i es' hes'; cases h
         exact (qrk hr ho hcal hxs hts h1 hkd (qan hid hr hf h2 hm) (qan hid hr hf h3 hkey) hes hes').wp hF (by simp[ho]) hk
        ·cases h
       ·cases h
      ·cases h
     ·cases h
    ·cases hc
   ·cases hc
 |panic x=>
  rw[ho] at hc
  simp only[qcW,Wc] at hc
  obtain⟨y,hy,rfl⟩:=hc
  simp[qar] at h
 |_=>rw[ho] at hc; simp[qcW] at hc
theorem qjM (hid:Ties P ids fid) (hC:CSound P fid C) {op:O} (hc:cOp P ids N o.op=some op) (hr:Real fid Γ) (hf:FrRep fid Γ N fr a.tmps) (h:qar C fr Γ.σ op=some (v,σ'))
  (hk : ∀ Γ' x,Γ'.σ = σ'->Real fid Γ'->Step Γ Γ'->Rep fid Γ' v x->K (a.put o.dst x) Γ'.w):o.wpIn (FR ro) 0 P a Γ.w K Q:=by
 unfold cOp at hc
 split at hc
 ·rename_i hc'; cases hc; exact qpc hid hC hc' hr hf h hk
 ·cases hc; cases h
theorem qnX (hid:Ties P ids fid) (hC:CSound P fid C) {op:O} (hc:qcW P ids N o.op=some op) (hr:Real fid Γ) (hf:FrRep fid Γ N fr a.tmps) (h:qbk C fr Γ.σ op=some (v,σ'))
  (hk : ∀ Γ' x,Γ'.σ = σ'->Real fid Γ'->Step Γ Γ'->Rep fid Γ' v x->Q (.panic [{ v:=x,recovered:=false }]) a Γ'.w):o.wpIn (FR ro) 0 P a Γ.w K Q:=by
 have other:op.calls=false->False:=fun hn=>by rw[qmy hn] at h; cases h
 cases ho:o.op with
 |call c=>
  rw[ho] at hc
  simp only[qcW,qoN] at hc
  split at hc
  ·rename_i f hcal
   split at hc
   ·rename_i g xs h1 h2
    cases hc
    simp only[qbk] at h
    split at h
    ·rename_i vs hvs
     have hargs:=qbf hid hr hf h2 hvs
     obtain⟨k1,k2⟩:=qcy (pre:=[]) (post:=[]) (xs:=[]) (zs:=[]) hC hr rfl hargs rfl (by simpa using h)
     rw[hid.fn f g h1] at k1 k2
     simp only[Wk,Wp] at k2
     refine qhe (by simp[ho]) ?_ k2 hk
     simp only[execOp,ho,resolve,hcal,Act.eval,Deferred.ofValue,Sem.run_bind,Sem.run_pure,Result.andThen_ok,invoke]
     rw[qa7 k1]
     simp
     apply WG; simp
    ·cases h
   ·exfalso
    split at hc
    ·cases hc; exact other rfl
    ·cases hc; exact other rfl
    ·cases hc
   ·cases hc
  ·rename_i x hx hcal
   split at hc
   ·rename_i g xs h1 h2
    cases hc
    simp only[qbk] at h
    split at h
    ·rename_i id as bs vs hfn hvs
     have hargs:=qbf hid hr hf h2 hvs
     have hfv:=qan hid hr hf h1 hfn
     simp only[Rep] at hfv
     obtain⟨as',bs',e1,e2,e3⟩:=hfv
     obtain⟨k1,k2⟩:=qcy hC hr e2 hargs e3 h
     refine qhe (by simp[ho]) ?_ k2 hk
     simp only[execOp,ho,resolve,hcal,e1,Deferred.ofValue,Sem.run_bind,Sem.run_pure,Result.andThen_ok,invoke]
     rw[qa7 k1]
     simp
    ·rename_i g' v' vs hfn hvs
     have hargs:=qbf hid hr hf h2 hvs
     have hfv:=qan hid hr hf h1 hfn
     simp only[Rep] at hfv
     obtain⟨t,nm,y,e1,e2,e3⟩:=hfv
     obtain⟨fn,hm,hi⟩:=(hid.mt _ _ _).1 e2
     have hall:Reps fid Γ (v'::vs) (y::c.args.toList.map a.eval):=by simp only[Reps]; exact⟨_,_,rfl,e3,hargs⟩
     obtain⟨k1,k2⟩:=qcy (pre:=[]) (post:=[]) (xs:=[]) (zs:=[]) hC hr rfl hall rfl (by simpa using h)
     rw[hid.fn fn g' hi] at k1 k2
     simp only[Wk,Wp] at k2
     refine qhe (by simp[ho]) ?_ k2 hk
     simp only[execOp,ho,resolve,hcal,e1,Deferred.ofValue,Sem.run_bind,Sem.run_pure,Result.andThen_ok,invoke]
     have q0:(#[Value.iface t y]++Array.map a.eval c.args)[0]?=some (.iface t y):=by
      rw[W2 (by show 0<1; omega)]; rfl
     have q1:(#[Value.iface t y]++Array.map a.eval c.args).extract 1 (#[Value.iface t y]++Array.map a.eval c.args).size=Array.map a.eval c.args:=by
      apply WG; simp; try exact Wl (by simp)
     simp only[q0,q1]
     rw[qfK hm,qa7 k1]
     try simp
     try (apply WG; simp)
    ·cases h
   ·cases hc
  ·rename_i recv name hcal
   split at hc
   ·rename_i x xs h1 h2
    cases hc
    simp only[qbk] at h
    split at h
    ·rename_i t v vs hv hvs
     split at h
     ·rename_i g hg
      have hargs:=qbf hid hr hf h2 hvs
      have hfv:=qan hid hr hf h1 hv
      simp only[Rep] at hfv
      obtain⟨y,e1,e2⟩:=hfv
      obtain⟨fn,hm,hi⟩:=qbD hid hg
      have hall:Reps fid Γ (v::vs) (y::c.args.toList.map a.eval):=by simp only[Reps]; exact⟨_,_,rfl,e2,hargs⟩
      obtain⟨k1,k2⟩:=qcy (pre:=[]) (post:=[]) (xs:=[]) (zs:=[]) hC hr rfl hall rfl (by simpa using h)
      rw[hid.fn fn g hi] at k1 k2
      simp only[Wk,Wp] at k2
      refine qhe (by simp[ho]) ?_ k2 hk
      simp only[execOp,ho,resolve,hcal,e1,Sem.run_bind,Sem.run_pure,Result.andThen_ok,invoke]
      have q0:(#[Value.iface (fid.ty t) y]++Array.map a.eval c.args)[0]?=some (.iface (fid.ty t) y):=by
       rw[W2 (by show 0<1; omega)]; rfl
      have q1:(#[Value.iface (fid.ty t) y]++Array.map a.eval c.args).extract 1 (#[Value.iface (fid.ty t) y]++Array.map a.eval c.args).size=Array.map a.eval c.args:=by
       apply WG; simp; try exact Wl (by simp)
      simp only[q0,q1]
      rw[qfK hm,qa7 k1]
      try simp
      try (apply WG; simp)
     ·cases h
    ·cases h
   ·cases hc
  ·refine (other ?_).elim
   clear h other
   repeat' (first
    | (cases hc; done)
    | (cases hc; rfl)
    | (cases hc; split<;>rfl)
    | (simp only[Wc] at hc; obtain⟨_,_,rfl⟩:=hc; rfl)
    |split at hc)
 |panic x=>
  rw[ho] at hc
  simp only[qcW,Wc] at hc
  obtain⟨y,hy,rfl⟩:=hc
  simp only[qbk] at h
  split at h
  ·rename_i t u hu
   cases h
   have hv:=qan hid hr hf hy hu
   refine⟨fun f _=>trivial,?_⟩
   rw[Oper.semAt_eq _ _ _ (by simp[ho])]
   have hrun:(execOp a.eval o).run P Γ.w = .halt (.panic (a.eval x)) Γ.w:=by
    have hv':=hv
    simp only[Rep] at hv'
    obtain⟨w,e,_⟩:=hv'
    simp only[execOp,ho,Instr.panic,e]
    rfl
   rw[hrun]
   exact hk Γ _ rfl hr (.refl _) hv
  ·cases h
 |next x b=>
  refine (other ?_).elim
  clear h other
  rw[ho] at hc
  cases b with
  |true=>cases hc
  |false=>
   simp only[qcW,Wc] at hc
   obtain⟨_,_,rfl⟩:=hc
   rfl
 |makeFunc fn x y=>
  refine (other ?_).elim
  clear h other
  rw[ho] at hc
  cases fn<;>simp only[qcW] at hc
  all_goals repeat' (first
   | (cases hc; done)
   | (cases hc; rfl)
   | (simp only[Wc] at hc; obtain⟨_,_,rfl⟩:=hc; rfl)
   |split at hc)
 |_=>
  refine (other ?_).elim
  clear h other
  rw[ho] at hc
  simp only[qcW] at hc
  repeat' (first
   | (cases hc; done)
   | (cases hc; rfl)
   | (simp only[Wc] at hc; obtain⟨_,_,rfl⟩:=hc; rfl)
   | (simp only[Wc] at hc; obtain⟨_,_,rfl⟩:=hc; split<;>rfl)
   |split at hc)
theorem qkA (hid:Ties P ids fid) (hC:CSound P fid C) {op:O} (hc:cOp P ids N o.op=some op) (hr:Real fid Γ) (hf:FrRep fid Γ N fr a.tmps) (h:qbk C fr Γ.σ op=some (v,σ'))
  (hk : ∀ Γ' x,Γ'.σ = σ'->Real fid Γ'->Step Γ Γ'->Rep fid Γ' v x->Q (.panic [{ v:=x,recovered:=false }]) a Γ'.w):o.wpIn (FR ro) 0 P a Γ.w K Q:=by
 unfold cOp at hc
 split at hc
 ·rename_i hc'; cases hc; exact qnX hid hC hc' hr hf h hk
 ·cases hc; cases h
end
end
section
variable{P:Program}{ids:Ids}{fid:Fid}{N:Nat}
def qvp(D:Nat):Deferred:={ target := .collected D,args := #[] }
def MarkAt(Γ0 Γ : Ctx)(D:Nat):Prop := Γ0.w.heap.size<=D /\ Γ.w.heap[D]?=some (.deferred (some [])) /\ ∀ l,Γ.μ l≠some D
theorem MarkAt.step{Γ0 Γ Γ':Ctx}{D:Nat}(h:MarkAt Γ0 Γ D)(hs:Step Γ Γ'):MarkAt Γ0 Γ' D:=by
 obtain⟨h1,h2,h3⟩:=h
 have hlt:=qcp h2
 refine⟨h1,by rw[(hs.frm.same D hlt h3).1]; exact h2,fun l hl=>?_⟩
 obtain⟨l',hl'⟩:=hs.frm.new l D hl hlt
 exact h3 l' hl'
inductive DI where
 |m (D:Nat)
 |c (v:V)
def DIRep(fid:Fid)(Γ0 Γ : Ctx):DI->Deferred->Prop
 |.m D,d=>d=qvp D/\MarkAt Γ0 Γ D
 |.c v,d => ∃ id as cap ys,v = .fn id as []/\d={ target := .fn (.func (fid id)) cap,args:=ys }/\Reps fid Γ as (ys.toList++cap.toList)
def DIReps(fid:Fid)(Γ0 Γ : Ctx):List DI->List Deferred->Prop
 |[],ds=>ds=[]
 |i::is,ds => ∃ d r,ds=d::r/\DIRep fid Γ0 Γ i d/\DIReps fid Γ0 Γ is r
def qcK:List DI->List Nat
 |[]=>[]
 |.m D::r=>D::qcK r
 |.c _::r=>qcK r
def qbu:List DI->List V
 |[]=>[]
 |.m _::r=>qbu r
 |.c v::r=>v::qbu r
theorem DIRep.step{Γ0 Γ Γ':Ctx}(hs:Step Γ Γ') : ∀ {i:DI} {d:Deferred},DIRep fid Γ0 Γ i d->DIRep fid Γ0 Γ' i d
 |.m D,d,h=>⟨h.1,h.2.step hs⟩
 |.c v,d,⟨id,as,cap,ys,h1,h2,h3⟩=>⟨id,as,cap,ys,h1,h2,Reps.ext hs.ext _ _ h3⟩
theorem DIReps.step{Γ0 Γ Γ':Ctx}(hs:Step Γ Γ') : ∀ {is:List DI} {ds:List Deferred},DIReps fid Γ0 Γ is ds->DIReps fid Γ0 Γ' is ds
 |[],ds,h=>h
 |i::is,ds,⟨d,r,h1,h2,h3⟩=>⟨d,r,h1,DIRep.step hs h2,DIReps.step hs h3⟩
def Marks(fid:Fid)(Γ0 Γ : Ctx)(ds0:List Deferred)(dl:List V)(ds:List Deferred):Prop:=
 ∃ (is:List DI) (ds':List Deferred),ds=ds'++ds0/\DIReps fid Γ0 Γ is ds'/\(qcK is).Nodup/\qbu is=dl
theorem Marks.step{Γ0 Γ Γ':Ctx}{ds0 ds:List Deferred}{dl:List V}(h:Marks fid Γ0 Γ ds0 dl ds)(hs:Step Γ Γ'):Marks fid Γ0 Γ' ds0 dl ds:=by
 obtain⟨is,ds',h1,h2,h3,h4⟩:=h
 exact⟨is,ds',h1,h2.step hs,h3,h4⟩
theorem Marks.nil(Γ0 Γ : Ctx)(ds:List Deferred):Marks fid Γ0 Γ ds [] ds:=⟨[],[],rfl,rfl,List.nodup_nil,rfl⟩
theorem Marks.call {Γ0 Γ : Ctx} {ds0 ds:List Deferred} {dl:List V} (h:Marks fid Γ0 Γ ds0 dl ds) {id:Nat} {as:List V} {cap ys:Array Value} (hr:Reps fid Γ as (ys.toList++cap.toList)) :
  Marks fid Γ0 Γ ds0 (.fn id as []::dl) ({ target := .fn (.func (fid id)) cap,args:=ys }::ds):=by
 obtain⟨is,ds',h1,h2,h3,h4⟩:=h
 exact⟨.c (.fn id as [])::is,_::ds',by rw[h1]; rfl,⟨_,_,rfl,⟨id,as,cap,ys,rfl,rfl,hr⟩,h2⟩,h3,by simp[qbu,h4]⟩
structure At(fid:Fid)(N:Nat)(fl df:Bool)(Γ0:Ctx)(ds0:List Deferred)(fr:Fr)(Γ : Ctx)(a:Act):Prop where
 real:Real fid Γ
 step:Step Γ0 Γ
 marks:Marks fid Γ0 Γ ds0 fr.defs a.defers
 frame:FrRep fid Γ N fr a.tmps
 still:fl=true->a.defers=ds0
 nod:df=false->fr.get dkey=none
def qcT(i:I):Bool:=match i.op with
 |.defer _ _=>false
 |_=>true
theorem qr5{fr:Fr}{d:Option Nat}{v:V}(h : ∀ k,d=some k->k≠dkey):(fr.put d v).get dkey=fr.get dkey/\(fr.put d v).defs=fr.defs:=by
 have e:(fr.put d v).get dkey=fr.get dkey:=by
  cases d with
  |none=>rfl
  |some k=>simp only[Fr.put,Fr.get]; rw[if_neg (h k rfl)]
 exact⟨e,by simp only[Fr.defs,e]⟩
section
variable{C:Task->Option Res}{ro:Option Nat}{Q:Exit->Act->World->Prop}{ops:Array Oper}{un:Nat->List Nat}
theorem qbH {Γ : Ctx} {fr:Fr} {a:Act} (hf:FrRep fid Γ N fr a.tmps) {o:Oper} {g:Option (Nat × Bool)} {b:Bool}
  (hg:(o.guard=none/\g=none) \/ ∃ i want d,o.guard=some (i,want)/\(ops[i]?).bind (·.dst)=some d/\d<N/\g=some (d,want)) (h:qaQ fr g=some b) :
  Region.wanted o (yielded ops a.tmps)=b:=by
 rcases hg with ⟨h1,rfl⟩|⟨i,want,d,h1,h2,h3,rfl⟩
 ·simp only[qaQ,Wd] at h
  subst h
  simp[Region.wanted,h1]
 ·simp only[qaQ] at h
  have hget : ∀ v,fr.get d=some v -> ∃ x,a.tmps[d]?=some x/\Rep fid Γ v x:=fun v hv=>by
   have:=hf.2 d v h3 hv
   have hs:d<a.tmps.size:=by rw[hf.1]; exact h3
   refine⟨a.tmps[d],by simp[hs],?_⟩
   simpa [Array.getD,hs] using this
  simp only[Region.wanted,h1,yielded,h2,Option.bind_some]
  split at h
  ·rename_i c hc
   cases h
   obtain⟨x,hx,hr⟩:=hget _ hc
   rw[hx,(qaC hr).1]
   cases c<;>cases want<;>rfl
  ·rename_i v hnb hc
   cases h
   obtain⟨x,hx,hr⟩:=hget _ hc
   rw[hx,(qaC hr).1]
   cases v<;>first|rfl|exact absurd rfl (hnb _)
  ·cases h
theorem qb5 {draw:Bool} {j:Nat} {o:Oper} {i:I} (h:cI P ids N draw ops un j o=some i) :
  qyq P ids N draw o=some i.op/\i.dst=o.dst/\(∀ d,o.dst=some d->d<N) /\
  ((o.guard=none/\i.guard=none) \/ ∃ k want d,o.guard=some (k,want)/\(ops[k]?).bind (·.dst)=some d/\d<N/\i.guard=some (d,want)):=by
 unfold cI at h
 split at h
 ·grind [qxV]
 ·cases h
theorem qie{Γ : Ctx}:Rep fid Γ (.dat (.lit undef)) undef:=qdf rfl
theorem qge {j:Nat} {o:Oper} {l:List Oper} {is:List I} (h:cIs P ids N false ops un j (o::l)=some is) :
  ∃ i is',is=i::is'/\cIs P ids N false ops un (j+1) l=some is'/\(ql0 ids N o=some i\/cI P ids N false ops un j o=some i):=by
 simp only[cIs] at h
 split at h
 ·grind
 ·cases h
theorem qeg{o:Oper}{i:I}(h:ql0 ids N o=some i) : ∃ c x f xs,o.op = .defer c/\o.dst=none/\o.guard=none/\c.callee = .value x/\cX ids N x=some f/\cXs ids N c.args.toList=some xs/\ids.df=true/\i=⟨some dkey,.defer f xs,none,[]⟩:=by grind [ql0]
theorem At.put {fl:Bool} {Γ0 Γ Γ':Ctx} {ds0:List Deferred} {fr:Fr} {a:Act} {d:Option Nat} {v:V} {x:Value} (hat:At fid N fl ids.df Γ0 ds0 fr Γ a) (hN:2*N<=dkey) (hd : ∀ k,d=some k->k<N) (hr:Real fid Γ') (hs:Step Γ Γ') (hv:Rep fid Γ' v x) :
  At fid N fl ids.df Γ0 ds0 (fr.put d v) Γ' (a.put d x):=by
 have hpos:0<dkey:=by decide
 have hne : ∀ k,d=some k->k≠dkey:=fun k hk=>by have:=hd k hk; omega
 obtain⟨e1,e2⟩:=qr5 (fr:=fr) (v:=v) hne
 have e3:(a.put d x).defers=a.defers:=by cases d<;>rfl
 exact⟨hr,hat.step.trans hs,by rw[e2,e3]; exact hat.marks.step hs,FrRep.put (hat.frame.ext hs.ext) hd hv,fun h=>by rw[e3]; exact hat.still h,fun h=>by rw[e1]; exact hat.nod h⟩
theorem qif (hid:Ties P ids fid) (hN:2*N<=dkey) {o:Oper} {i:I} {fl:Bool} {Γ0 Γ : Ctx} {ds0:List Deferred} {fr:Fr} {a:Act} {v:V} {σ1:S} {K:Act->World->Prop} (hro:ro=none) (hi:ql0 ids N o=some i) (hat:At fid N fl ids.df Γ0 ds0 fr Γ a) (hfl:fl=false)
  (h:qar C fr Γ.σ i.op=some (v,σ1)) (hk : ∀ a',σ1 = Γ.σ -> At fid N fl ids.df Γ0 ds0 (fr.put i.dst v) Γ a'->K a' Γ.w):o.wpIn (FR ro) 0 P a Γ.w K Q:=by
 obtain⟨c,x,f,xs,h1,h2,h3,h4,h5,h6,h7,rfl⟩:=qeg hi
 simp only[qar] at h
 split at h
 ·rename_i id as bs vs hf hvs
  cases h
  have hfv:=qan hid hat.real hat.frame h5 hf
  have hargs:=qbf hid hat.real hat.frame h6 hvs
  simp only[Rep] at hfv
  obtain⟨as',bs',e1,e2,e3⟩:=hfv
  refine⟨fun f _=>trivial,?_⟩
  subst hro
  have hrun:(o.semAt none a.eval).run P Γ.w = .ok (.defer { target := .fn (.func (fid id)) bs'.toArray,args:=as'.toArray++c.args.map a.eval }) Γ.w:=by
   rw[Oper.semAt_none]
   simp only[execOp,h1,resolve,h4,e1,Deferred.ofValue,Sem.run_bind,Sem.run_pure,Result.andThen_ok]
  have hrun':(o.semAt (FR none).round a.eval).run P Γ.w=_:=hrun
  rw[hrun']
  show K _ _
  rw[h2]
  have hreps:Reps fid Γ (as++vs++bs) ((as'.toArray++c.args.map a.eval).toList++bs'.toArray.toList):=by
   refine Reps_append.2 ⟨_,_,rfl,?_,by simpa using e3⟩
   have:(as'.toArray++c.args.map a.eval).toList=as'++c.args.toList.map a.eval:=by simp
   rw[this]
   exact Reps_append.2 ⟨_,_,rfl,e2,hargs⟩
  refine hk { a with defers:={ target := .fn (.func (fid id)) bs'.toArray,args:=as'.toArray++c.args.map a.eval }::a.defers } rfl ⟨hat.real,hat.step,?_,⟨hat.frame.1,fun t w ht hw=>?_⟩,fun h=>by (rw[hfl] at h; cases h),fun h=>by (rw[h7] at h; cases h)⟩
  ·have:(fr.put (some dkey) (.tup (.fn id (as++vs++bs) []::fr.defs))).defs = .fn id (as++vs++bs) []::fr.defs:=by simp[Fr.put,Fr.defs,Fr.get]
   rw[this]
   exact hat.marks.call hreps
  ·have hne:dkey≠t:=fun e=>by
    subst e
    have:0<dkey:=by decide
    omega
   simp only[Fr.put,Fr.get,if_neg hne] at hw
   exact hat.frame.2 t w ht hw
 ·cases h
theorem qj8 (hid:Ties P ids fid) (hC:CSound P fid C) (hN:2*N<=dkey) {fl:Bool} (hro:ro.isSome=true->fl=true) {Γ0:Ctx} {ds0:List Deferred} {σ':S} {fr':Fr} : ∀ {l:List Oper} {j:Nat} {is:List I} {fr:Fr} {Γ : Ctx} {a:Act},
  (∀ k,l[k]?=ops[j+k]?)->cIs P ids N false ops un j l=some is->(fl=true->is.all qcT=true)->At fid N fl ids.df Γ0 ds0 fr Γ a->qbM C is fr Γ.σ = some (fr',σ') ->
  (∀ Γ' a',Γ'.σ = σ'->At fid N fl ids.df Γ0 ds0 fr' Γ' a'->Q .normal a' Γ'.w) ->
  wpOpsIn (FR ro) 0 P ops Q (List.range' j l.length) a Γ.w
 |[],j,is,fr,Γ,a,hl,hc,hnd,hat,h,hk=>by
  simp only[cIs,Wd] at hc; subst hc
  simp only[qbM,Wd,Wx] at h
  obtain⟨rfl,rfl⟩:=h
  simp only[W4,List.range'_zero,wpOpsIn]
  exact hk Γ a rfl hat
 |o::l,j,is,fr,Γ,a,hl,hc,hnd,hat,h,hk=>by
  obtain⟨i,is',rfl,h2,h1⟩:=qge hc
  have ho:ops[j]?=some o:=by have:=hl 0; simpa using this.symm
  have hl' : ∀ k,l[k]?=ops[j+1+k]?:=fun k=>by have:=hl (k+1); simpa [Yj,Nat.add_comm 1 k] using this
  have hnd':fl=true->is'.all qcT=true:=fun e=>by have:=hnd e; simp only[WQ,Wh] at this; exact this.2
  simp only[WK,List.range'_succ,wpOpsIn,ho]
  simp only[qbM] at h
  rcases h1 with h1|h1
  ·obtain⟨c,x,f,xs,q1,q2,q3,q4,q5,q6,q7,q8⟩:=qeg h1
   have hflf:fl=false:=by grind [qcT]
   have hro':ro=none:=by simp_all
   have hg:i.guard=none:=by rw[q8]
   have hw:Region.wanted o (yielded ops a.tmps)=true:=by simp[Region.wanted,q3]
   rw[hw]
   simp only[if_true]
   simp only[hg,qaQ] at h
   split at h
   ·rename_i v σ1 hv
    refine qif hid hN hro' h1 hat hflf hv fun a' e1 e2=>?_
    subst e1
    exact qj8 hid hC hN hro hl' h2 hnd' e2 h hk
   ·cases h
  ·obtain⟨k1,k2,k3,k4⟩:=qb5 h1
   have k1':cOp P ids N o.op=some i.op:=k1
   split at h
   ·rename_i hw
    rw[qbH (ops:=ops) hat.frame k4 hw]
    simp only[if_true]
    split at h
    ·rename_i v σ1 hv
     refine qjM hid hC k1' hat.real hat.frame hv fun Γ1 x e1 e2 e3 e4=>?_
     subst e1
     rw[k2] at h
     exact qj8 hid hC hN hro hl' h2 hnd' (hat.put hN k3 e2 e3 e4) h hk
    ·cases h
   ·rename_i hw
    rw[qbH (ops:=ops) hat.frame k4 hw]
    simp only[Wz,if_false]
    rw[k2] at h
    exact⟨fun f _=>trivial,qj8 hid hC hN hro hl' h2 hnd' (hat.put hN k3 hat.real (.refl _) qie) h hk⟩
   ·cases h
theorem qhk (hid:Ties P ids fid) (hC:CSound P fid C) (hN:2*N<=dkey) {fl:Bool} (hro:ro.isSome=true->fl=true) {Γ0:Ctx} {ds0:List Deferred} {σ':S} {fr':Fr} {u:V} : ∀ {l:List Oper} {j:Nat} {is:List I} {fr:Fr} {Γ : Ctx} {a:Act},
  (∀ k,l[k]?=ops[j+k]?)->cIs P ids N false ops un j l=some is->(fl=true->is.all qcT=true)->At fid N fl ids.df Γ0 ds0 fr Γ a->qb9 C is fr Γ.σ = some (u,fr',σ') ->
  (∀ Γ' a' x,Γ'.σ = σ'->At fid N fl ids.df Γ0 ds0 fr' Γ' a'->Rep fid Γ' u x->Q (.panic [{ v:=x,recovered:=false }]) a' Γ'.w) ->
  wpOpsIn (FR ro) 0 P ops Q (List.range' j l.length) a Γ.w
 |[],j,is,fr,Γ,a,hl,hc,hnd,hat,h,hk=>by simp_all [cIs,qb9]
 |o::l,j,is,fr,Γ,a,hl,hc,hnd,hat,h,hk=>by
  obtain⟨i,is',rfl,h2,h1⟩:=qge hc
  have ho:ops[j]?=some o:=by have:=hl 0; simpa using this.symm
  have hl' : ∀ k,l[k]?=ops[j+1+k]?:=fun k=>by have:=hl (k+1); simpa [Yj,Nat.add_comm 1 k] using this
  have hnd':fl=true->is'.all qcT=true:=fun e=>by have:=hnd e; simp only[WQ,Wh] at this; exact this.2
  simp only[WK,List.range'_succ,wpOpsIn,ho]
  simp only[qb9] at h
  rcases h1 with h1|h1
  ·obtain⟨c,x,f,xs,q1,q2,q3,q4,q5,q6,q7,q8⟩:=qeg h1
   have hflf:fl=false:=by grind [qcT]
   have hro':ro=none:=by simp_all
   have hg:i.guard=none:=by rw[q8]
   have hw:Region.wanted o (yielded ops a.tmps)=true:=by simp[Region.wanted,q3]
   rw[hw]
   simp only[if_true]
   simp only[hg,qaQ] at h
   split at h
   ·rename_i v σ1 hv
    refine qif hid hN hro' h1 hat hflf hv fun a' e1 e2=>?_
    subst e1
    exact qhk hid hC hN hro hl' h2 hnd' e2 h hk
   ·rw[q8] at h; simp[qbk] at h
  ·obtain⟨k1,k2,k3,k4⟩:=qb5 h1
   have k1':cOp P ids N o.op=some i.op:=k1
   split at h
   ·rename_i hw
    rw[qbH (ops:=ops) hat.frame k4 hw]
    simp only[if_true]
    split at h
    ·rename_i v σ1 hv
     refine qjM hid hC k1' hat.real hat.frame hv fun Γ1 x e1 e2 e3 e4=>?_
     subst e1
     rw[k2] at h
     exact qhk hid hC hN hro hl' h2 hnd' (hat.put hN k3 e2 e3 e4) h hk
    ·split at h
     ·rename_i v σ1 hv
      cases h
      refine qkA hid hC k1' hat.real hat.frame hv fun Γ1 x e1 e2 e3 e4=>?_
      exact hk Γ1 a x e1 ⟨e2,hat.step.trans e3,hat.marks.step e3,hat.frame.ext e3.ext,hat.still,hat.nod⟩ e4
     ·cases h
   ·rename_i hw
    rw[qbH (ops:=ops) hat.frame k4 hw]
    simp only[Wz,if_false]
    rw[k2] at h
    exact⟨fun f _=>trivial,qhk hid hC hN hro hl' h2 hnd' (hat.put hN k3 hat.real (.refl _) qie) h hk⟩
   ·cases h
theorem qiE (hid:Ties P ids fid) (hC:CSound P fid C) (hN:2*N<=dkey) {fl:Bool} (hro:ro.isSome=true->fl=true) {Γ0:Ctx} {ds0:List Deferred} {id:Nat} {is:List I} {fr fr':Fr} {σ':S} {Γ : Ctx} {a:Act} (hc:cIs P ids N false ops un 0 ops.toList=some is)
  (hnd:fl=true->is.all qcT=true) (hat:At fid N fl ids.df Γ0 ds0 fr Γ a)
  (h:qbM C is fr Γ.σ = some (fr',σ')) (hk : ∀ Γ' a',Γ'.σ = σ'->At fid N fl ids.df Γ0 ds0 fr' Γ' a'->Q .normal a' Γ'.w) :
  (Code.region id ops false).wpIn (FR ro) 0 P Q a Γ.w:=by
 refine wpIn_region ?_
 rw[List.range_eq_range',<- Array.length_toList]
 exact qj8 hid hC hN hro (l:=ops.toList) (j:=0) (fun k=>by simp) hc hnd hat h hk
theorem qig (hid:Ties P ids fid) (hC:CSound P fid C) (hN:2*N<=dkey) {fl:Bool} (hro:ro.isSome=true->fl=true) {Γ0:Ctx} {ds0:List Deferred} {id:Nat} {is:List I} {fr fr':Fr} {σ':S} {u:V} {Γ : Ctx} {a:Act} (hc:cIs P ids N false ops un 0 ops.toList=some is)
  (hnd:fl=true->is.all qcT=true) (hat:At fid N fl ids.df Γ0 ds0 fr Γ a)
  (h:qb9 C is fr Γ.σ = some (u,fr',σ')) (hk : ∀ Γ' a' x,Γ'.σ = σ'->At fid N fl ids.df Γ0 ds0 fr' Γ' a'->Rep fid Γ' u x->Q (.panic [{ v:=x,recovered:=false }]) a' Γ'.w) :
  (Code.region id ops false).wpIn (FR ro) 0 P Q a Γ.w:=by
 refine wpIn_region ?_
 rw[List.range_eq_range',<- Array.length_toList]
 exact qhk hid hC hN hro (l:=ops.toList) (j:=0) (fun k=>by simp) hc hnd hat h hk
theorem qa5{fr fr':Fr} : ∀ {x:X},(∀ t∈x.tmps,fr.get t=fr'.get t)->x.ev fr=x.ev fr'
 |.t n,h=>h n (by simp[X.tmps])
 |.c _,_=>rfl
 |.f _,_=>rfl
 |.g _,_=>rfl
theorem qb0{fr fr':Fr} : ∀ {xs:List X},(∀ t∈qiD xs,fr.get t=fr'.get t)->evs fr xs=evs fr' xs
 |[],_=>rfl
 |x::r,h=>by
  simp only[evs]
  rw[qa5 (x:=x) (fun t ht=>h t (by simp[qiD,ht])),qb0 (xs:=r) (fun t ht=>h t (by simp[qiD,ht]))]
theorem qgf{fr fr':Fr} : ∀ {xs:List (Nat × Nat × X)},(∀ t∈qpO xs,fr.get t=fr'.get t)->qcf fr xs=qcf fr' xs
 |[],_=>rfl
 | (o,n,x)::r,h=>by
  simp only[qcf]
  rw[qa5 (x:=x) (fun t ht=>h t (by simp[qpO,ht])),qgf (xs:=r) (fun t ht=>h t (by simp[qpO,ht]))]
theorem qeh{fr fr':Fr} : ∀ {x:Option X},(∀ t∈qlk x,fr.get t=fr'.get t)->qci fr x=qci fr' x
 |none,_=>rfl
 |some x,h=>by simp only[qci]; rw[qa5 (x:=x) h]
theorem qoC{fr fr':Fr}{op:O}(h : ∀ t∈op.tmps,fr.get t=fr'.get t)(σ : S):qar C fr σ op=qar C fr' σ op/\qck fr σ op=qck fr' σ op:=by
 cases op with
 |mov x|box x|load _ _ x|nilchk x|isnil _ _ x|isnils _ x|mkif _ x|mkmeth _ x|bytes x|boxT _ x|up x|down _ x|usd x|bstr x|clr _ x|mkmapH x|cap0 x|mrange x|mnext x|un _ x|conv _ x|fieldAddr _ x|field _ _ _ x|len _ x|extract x _=>
  have:=qa5 (x:=x) h
  simp only[qar,qck,this,and_self]
 |pick c a b=>
  have h1:=qa5 (x:=c) (fun t ht=>h t (by simp[O.tmps,ht]))
  have h2:=qa5 (x:=a) (fun t ht=>h t (by simp[O.tmps,ht]))
  have h3:=qa5 (x:=b) (fun t ht=>h t (by simp[O.tmps,ht]))
  simp only[qar,qck,h1,h2,h3,and_self]
 |alloc _|mkmap|bad=>simp only[qar,qck,and_self]
 |build _ ps|bslice _ _ ps|bsliceO _ _ _ ps=>
  have:=qgf (xs:=ps) h
  simp only[qar,qck,this,and_self]
 |store _ a x|bin _ a x|eqb _ a x|eqa _ _ a x|mkslice _ _ _ a x|indexAddr _ a x|indexAddrA _ _ a x|indexA _ _ _ a x|indexS a x|append _ _ a x|appendO _ _ a x|appendT _ _ _ a x|peq _ a x|ustr _ a x|idxb a x|copy _ a x|mapdel _ a x|appendZ _ _ a x|lookup _ _ a x _=>
  have h1:=qa5 (x:=a) (fun t ht=>h t (by simp[O.tmps,ht]))
  have h2:=qa5 (x:=x) (fun t ht=>h t (by simp[O.tmps,ht]))
  simp only[qar,qck,h1,h2,and_self]
 |slice _ x l u|sliceS x l u|cut _ x l u|sliceA _ _ x l u=>
  have h1:=qa5 (x:=x) (fun t ht=>h t (by simp[O.tmps,ht]))
  have h2:=qeh (x:=l) (fun t ht=>h t (by simp[O.tmps,ht]))
  have h3:=qeh (x:=u) (fun t ht=>h t (by simp[O.tmps,ht]))
  simp only[qar,qck,h1,h2,h3,and_self]
 |slice3 _ x l u m=>
  have h1:=qa5 (x:=x) (fun t ht=>h t (by simp[O.tmps,ht]))
  have h2:=qeh (x:=l) (fun t ht=>h t (by simp[O.tmps,ht]))
  have h3:=qeh (x:=u) (fun t ht=>h t (by simp[O.tmps,ht]))
  have h4:=qa5 (x:=m) (fun t ht=>h t (by simp[O.tmps,ht]))
  simp only[qar,qck,h1,h2,h3,h4,and_self]
 |min xs|max xs|call _ xs=>
  have:=qb0 (xs:=xs) h
  simp only[qar,qck,this,and_self]
 |mapset _ a b c=>
  have h1:=qa5 (x:=a) (fun t ht=>h t (by simp[O.tmps,ht]))
  have h2:=qa5 (x:=b) (fun t ht=>h t (by simp[O.tmps,ht]))
  have h3:=qa5 (x:=c) (fun t ht=>h t (by simp[O.tmps,ht]))
  simp only[qar,qck,h1,h2,h3,and_self]
 |mkfn _ a b=>
  have h1:=qb0 (xs:=a) (fun t ht=>h t (by simp[O.tmps,ht]))
  have h2:=qb0 (xs:=b) (fun t ht=>h t (by simp[O.tmps,ht]))
  simp only[qar,qck,h1,h2,and_self]
 |invoke tbl f xs=>
  have h1:=qa5 (x:=f) (fun t ht=>h t (by simp[O.tmps,ht]))
  have h2:=qb0 (xs:=xs) (fun t ht=>h t (by simp[O.tmps,ht]))
  simp only[qar,qck,h1,h2,and_self]
 |callv f xs=>
  have h1:=qa5 (x:=f) (fun t ht=>h t (by simp[O.tmps,ht]))
  have h2:=qb0 (xs:=xs) (fun t ht=>h t (by simp[O.tmps,ht]))
  simp only[qar,qck,h1,h2,and_self]
 |defer f xs=>
  have h0:=h dkey (by simp[O.tmps])
  have h1:=qa5 (x:=f) (fun t ht=>h t (by simp[O.tmps,ht]))
  have h2:=qb0 (xs:=xs) (fun t ht=>h t (by simp[O.tmps,ht]))
  simp only[qar,qck,Fr.defs,h0,h1,h2,and_self]
 |panic x=>simp only[qar,qck,and_self]
 |recov=>
  have h1:=h qjX (by simp[O.tmps])
  simp only[qar,qck,h1,and_self]
 |fill k=>
  have h1:=h k (by simp[O.tmps])
  simp only[qar,qck,h1,and_self]
theorem qmE{σ σ':S}{agg:Bool}{n:Nat}{p:V}(h : ∀ l,qcM (some p) = .read l -> σ'[l]? = σ[l]?):qco σ' agg n p=qco σ agg n p:=by
 unfold qco
 split
 ·rename_i l o; rw[h l rfl]
 ·rfl
 ·rename_i l m o; rw[h l rfl]
 ·rfl
theorem qlD {fr:Fr} {σ σ1:S} {op:O} {v:V} (hc:op.chain=false) (h:qar C fr σ op=some (v,σ1)) :
  σ1 = σ /\ ∀ σ',(∀ l,qck fr σ op = .read l -> σ'[l]? = σ[l]?)->qar C fr σ' op=some (v,σ'):=by
 cases op with
 |alloc _|mkmap|mkslice _ _ _ _ _|bsliceO _ _ _ _|box _|store _ _ _|append _ _ _ _|appendO _ _ _ _|appendT _ _ _ _ _|boxT _ _|up _|down _ _|ustr _ _ _|bstr _|cut _ _ _ _|mapset _ _ _ _|mkmapH _|appendZ _ _ _ _|mapdel _ _ _|copy _ _ _|clr _ _|mrange _|mnext _|slice3 _ _ _ _ _|call _ _|callv _ _|invoke _ _ _=>cases hc
 |bad=>cases h
 |load agg n x=>
  simp only[qar] at h ⊢
  split at h
  ·grind [qco,qck,qar,qmE]
  ·cases h
 |lookup kd z m k ok=>
  simp only[qar] at h
  split at h
  ·grind [qck,qcM,qar]
  ·cases h
 |len k x=>
  simp only[qar] at h
  split at h
  ·rename_i p hp
   split at h
   ·rename_i n hn
    cases h
    refine⟨rfl,fun σ' hs=>?_⟩
    have:V.len σ' k p=V.len σ k p:=by
     unfold V.len
     split<;>first|rfl|skip
     rename_i l
     rw[hs l (by simp only[qck,hp,qcM])]
    simp only[qar,hp,this,hn]
   ·cases h
  ·cases h
 |fill k=>
  simp only[qar] at h
  split at h
  ·grind [qck,qcM,qar]
  ·grind [qck,qcM,qar]
  ·cases h
 |_=>
  simp only[qar] at h ⊢
  refine⟨?_,fun σ' _=>?_⟩
  ·grind
  ·repeat' (first | (cases h; done) | (split at h) | (cases h; simp_all; done))
theorem qjc{σ : S}{v:V}:(qi1 σ v).2.length = σ.length /\ ∀ l,l∉v.locs->(qi1 σ v).2[l]? = σ[l]?:=by
 unfold qi1
 split
 ·grind [V.locs]
 ·exact⟨rfl,fun _ _=>rfl⟩
 ·exact⟨rfl,fun _ _=>rfl⟩
theorem qjd : ∀ {vs:List V} {σ : S},(qnc σ vs).2.length = σ.length /\ ∀ l,l∉qau vs->(qnc σ vs).2[l]? = σ[l]?
 |[],σ => ⟨rfl,fun _ _=>rfl⟩
 |v::vs,σ=>by
  obtain⟨h1,h2⟩:=qjc (σ := σ) (v:=v)
  obtain⟨h3,h4⟩:=qjd (vs:=vs) (σ := (qi1 σ v).2)
  simp only[qnc,qau,We,not_or]
  exact⟨h3.trans h1,fun l hl=>(h4 l hl.2).trans (h2 l hl.1)⟩
theorem qoD{σ : S}{v:V}:(qoS σ v).2.length = σ.length /\ ∀ l,l∉v.locs->(qoS σ v).2[l]? = σ[l]?:=by
 unfold qoS
 split
 ·simpa only [V.locs] using qjd
 ·exact qjc
theorem qih : ∀ {vs:List V} {σ : S},(qh1 σ vs).2.length = σ.length /\ ∀ l,l∉qau vs->(qh1 σ vs).2[l]? = σ[l]?
 |[],σ => ⟨rfl,fun _ _=>rfl⟩
 |v::vs,σ=>by
  obtain⟨h1,h2⟩:=qoD (σ := σ) (v:=v)
  obtain⟨h3,h4⟩:=qih (vs:=vs) (σ := (qoS σ v).2)
  simp only[qh1,qau,We,not_or]
  exact⟨h3.trans h1,fun l hl=>(h4 l hl.2).trans (h2 l hl.1)⟩
theorem qfd{f:Nat}{vs:List V}{σ : S}:(qbT f vs σ).2.length = σ.length /\ ∀ l,l∉qau vs->(qbT f vs σ).2[l]? = σ[l]?:=by grind [qbT,qau,qih]
theorem qii{L:List Nat}{σ : S}{obs:List Ob}{l:Nat}(hl:l < σ.length)(hm:l∉L):(qaF σ L obs)[l]? = σ[l]? /\ σ.length<=(qaF σ L obs).length:=by
 induction L generalizing σ obs with
 |nil=>
  cases obs<;>simp only[qaF]<;>exact⟨by rw[Wo hl],by simp⟩
 |cons k ks ih=>
  cases obs with
  |nil=>simp only[qaF]; exact⟨by rw[Wo hl],by simp⟩
  |cons ob obs=>
   simp only[qaF]
   obtain⟨h1,h2⟩:=ih (σ := σ.set k ob) (obs:=obs) (by simpa using hl) (fun h=>hm (by simp[h]))
   exact⟨by rw[h1,Wj (fun e=>hm (by simp[e]))],by simpa using h2⟩
theorem qg7{L:List Nat}{σ : S}{obs:List Ob} : σ.length<=(qaF σ L obs).length:=by
 induction L generalizing σ obs with
 |nil=>cases obs<;>simp[qaF]
 |cons k ks ih=>
  cases obs with
  |nil=>simp[qaF]
  |cons ob obs=>
   simp only[qaF]
   have:=ih (σ := σ.set k ob) (obs:=obs)
   simpa using this
theorem qcF {σ σ':S} {mk:List V->S->Task} {args:List V} {v:V} (h:qaE C mk args σ = some (v,σ')) :
  σ.length <= σ'.length /\ ∀ l,l < σ.length->l∉reach σ σ.length (qau args) [] -> σ'[l]? = σ[l]?:=by
 unfold qaE at h
 simp only at h
 split at h
 ·grind [qaE,reach,qau,qg7,qii]
 ·cases h
theorem qje{σ σ':S}{xs:List V}{u:V}(h:qrg σ xs u=some σ') : σ.length <= σ'.length /\ ∀ l,l < σ.length->l∉qdh (some u) -> σ'[l]? = σ[l]?:=by
 unfold qrg at h
 split at h<;>grind [qdh,V.locs]
theorem qgI {fr:Fr} {σ σ1:S} {op:O} {v:V} (hc:op.chain=true) (h:qar C fr σ op=some (v,σ1)) :
  ∃ T,qck fr σ op = .chain σ.length T /\ σ.length <= σ1.length /\ ∀ l,l < σ.length->l∉T -> σ1[l]? = σ[l]?:=by
 have app : ∀ {σ : S} {ob:Ob} (l:Nat),l < σ.length->(σ ++ [ob])[l]? = σ[l]?:=fun l hl=>Wo hl
 cases op with
 |alloc z=>simp only[qar,Wd,Wx] at h; obtain⟨rfl,rfl⟩:=h; exact⟨[],rfl,by simp,fun l hl _=>app l hl⟩
 |mkslice w z b x y=>
  simp only[qar] at h
  split at h
  ·split at h
   ·split at h
    ·cases h; exact⟨[],rfl,by simp,fun l hl _=>app l hl⟩
    ·cases h; exact⟨[],rfl,by simp,fun l hl _=>app l hl⟩
   ·cases h
  ·cases h
 |mkmap=>simp only[qar,Wd,Wx] at h; obtain⟨rfl,rfl⟩:=h; exact⟨[],rfl,by simp,fun l hl _=>app l hl⟩
 |bsliceO n sz z ps=>
  simp only[qar] at h
  split at h
  ·split at h
   ·split at h
    ·cases h; exact⟨[],rfl,by simp,fun l hl _=>app l hl⟩
    ·cases h
   ·cases h
  ·cases h
 |box x=>
  simp only[qar] at h
  split at h
  ·split at h
   ·cases h; exact⟨[],rfl,by simp,fun l hl _=>app l hl⟩
   ·cases h
  ·cases h
 |store n a x=>
  simp only[qar] at h
  split at h
  ·rename_i p u hp hu
   split at h
   ·rename_i s hs
    cases h
    unfold storeV at hs
    split at hs
    ·rename_i l o
     refine⟨[l],by simp[qck,hp,qdh,V.locs],?_⟩
     split at hs
     ·grind
     ·grind
     ·cases hs
    ·rename_i l m o
     refine⟨[l],by simp[qck,hp,qdh,V.locs],?_⟩
     split at hs
     ·grind
     ·cases hs
    ·cases hs
   ·cases h
  ·cases h
 |append sz b s x=>
  simp only[qar] at h
  split at h
  ·rename_i p q hp hq
   refine⟨qdh (s.ev fr),rfl,?_⟩
   rw[hp]
   unfold qbs at h
   split at h
   ·cases h
   ·grind [qdh,V.locs]
  ·cases h
 |appendO sz b s x=>
  simp only[qar] at h
  split at h
  ·rename_i p q hp hq
   refine⟨qdh (s.ev fr),rfl,?_⟩
   rw[hp]
   unfold appendO at h
   split at h
   ·cases h
   ·grind [qdh,V.locs]
  ·cases h
 |boxT k x=>
  simp only[qar] at h
  split at h
  ·split at h
   ·cases h; exact⟨[],rfl,by simp,fun l hl _=>app l hl⟩
   ·cases h
  ·cases h
 |up x=>
  simp only[qar] at h
  refine⟨[],rfl,?_⟩
  repeat' (first | (cases h; done) | (cases h; exact⟨Wg _,fun _ _ _=>rfl⟩) | split at h)
 |down k x=>
  simp only[qar] at h
  refine⟨[],rfl,?_⟩
  repeat' (first | (cases h; done) | (cases h; exact⟨Wg _,fun _ _ _=>rfl⟩) | split at h)
 |bstr x=>
  simp only[qar] at h
  refine⟨[],rfl,?_⟩
  repeat' (first | (cases h; done) | (cases h; exact⟨Wg _,fun _ _ _=>rfl⟩) | split at h)
 |ustr k x n=>
  simp only[qar] at h
  refine⟨qdh (x.ev fr),rfl,?_⟩
  split at h
  ·grind
  ·grind [qdh,V.locs]
  ·cases h
 |appendT k sz b s x=>
  simp only[qar] at h
  split at h
  ·rename_i p q hp hq
   refine⟨qdh (s.ev fr),rfl,?_⟩
   rw[hp]
   unfold appendT at h
   split at h
   ·cases h
   ·grind [qdh,V.locs]
  ·cases h
 |cut n x lo hi=>
  simp only[qar] at h
  split at h
  ·rename_i p l' u' hp hl hu
   refine⟨qdh (x.ev fr),rfl,?_⟩
   rw[hp]
   unfold qvo at h
   split at h
   ·grind [qdh,V.locs]
   ·grind
  ·cases h
 |mkmapH x|appendZ z b x y|mrange x=>
  simp only[qar] at h
  refine⟨[],rfl,?_⟩
  repeat' (first | (cases h; done) | (cases h; exact⟨by simp,fun l hl _=>app l hl⟩) | split at h)
 |mnext x|slice3 n x lo hi mx=>
  simp only[qar] at h
  refine⟨[],rfl,?_⟩
  repeat' (first | (cases h; done) | (cases h; exact⟨Wg _,fun _ _ _=>rfl⟩) | split at h)
 |copy n x y=>
  simp only[qar] at h
  refine⟨qdh (x.ev fr),rfl,?_⟩
  split at h
  ·rename_i a b ha hb
   rw[ha]
   repeat' (first | (cases h; done) | (rename_i hlay; cases h; exact qje hlay) | split at h)
  ·cases h
 |clr z x=>
  simp only[qar] at h
  refine⟨qdh (x.ev fr),rfl,?_⟩
  split at h
  ·rename_i a ha
   rw[ha]
   repeat' (first | (cases h; done) | (rename_i hlay; cases h; exact qje hlay) | split at h)
  ·cases h
 |mapdel kd m k=>
  simp only[qar] at h
  split at h
  ·rename_i l key hm hk
   refine⟨[l],by simp[qck,hm,qdh,V.locs],?_⟩
   split at h
   ·grind
   ·cases h
  ·cases h
 |mapset kd m k x=>
  simp only[qar] at h
  split at h
  ·rename_i l key u hm hk hu
   refine⟨[l],by simp[qck,hm,qdh,V.locs],?_⟩
   split at h
   ·grind
   ·cases h
  ·cases h
 |call f xs=>
  simp only[qar] at h
  split at h
  ·rename_i vs hvs
   obtain⟨h1,h2⟩:=qcF h
   obtain⟨a1,a2⟩:=qfd (f:=f) (vs:=vs) (σ := σ)
   have he:qck fr σ (.call f xs) = .chain σ.length (qau vs++reach (qbT f vs σ).2 (qbT f vs σ).2.length (qau (qbT f vs σ).1) []):=by simp only[qck,hvs,qll,qh3]
   refine⟨_,he,by omega,fun l hl hm=>?_⟩
   simp only[We,not_or] at hm
   rw[h2 l (by omega) hm.2,a2 l hm.1]
  ·cases h
 |invoke tbl x xs=>
  simp only[qar] at h
  split at h
  ·rename_i t v vs hx hvs
   split at h
   ·rename_i g hg
    obtain⟨h1,h2⟩:=qcF h
    obtain⟨a1,a2⟩:=qfd (f:=g) (vs:=v::vs) (σ := σ)
    have he:qck fr σ (.invoke tbl x xs) = .chain σ.length (v.locs++qau vs++reach (qbT g (v::vs) σ).2 (qbT g (v::vs) σ).2.length (qau (qbT g (v::vs) σ).1) []):=by simp only[qck,hx,hg,hvs,WO,qll,qh3]
    refine⟨_,he,by omega,fun l hl hm=>?_⟩
    simp only[We,not_or] at hm
    rw[h2 l (by omega) hm.2,a2 l (by simp only[qau,We,not_or]; exact hm.1)]
   ·cases h
  ·cases h
 |callv f xs=>
  simp only[qar] at h
  split at h
  ·rename_i id as bs vs hf hvs
   obtain⟨h1,h2⟩:=qcF h
   obtain⟨a1,a2⟩:=qfd (f:=id) (vs:=vs) (σ := σ)
   have he:qck fr σ (.callv f xs) = .chain σ.length (qau vs++reach (qbT id vs σ).2 (qbT id vs σ).2.length (qau as++(qau (qbT id vs σ).1++qau bs)) []):=by simp only[qck,hf,hvs,qll,qh3]
   refine⟨_,he,by omega,fun l hl hm=>?_⟩
   have happ : ∀ a b:List V,qau (a++b)=qau a++qau b:=fun a b=>by
    induction a with
    |nil=>simp[qau]
    |cons x a ih=>simp[qau,ih]
   simp only[We,not_or] at hm
   rw[h2 l (by omega) (by rw[happ,happ,WA]; exact hm.2),a2 l hm.1]
  ·rename_i g u vs hf hvs
   obtain⟨h1,h2⟩:=qcF h
   obtain⟨a1,a2⟩:=qfd (f:=g) (vs:=u::vs) (σ := σ)
   have he:qck fr σ (.callv f xs) = .chain σ.length (u.locs++qau vs++reach (qbT g (u::vs) σ).2 (qbT g (u::vs) σ).2.length (qau (qbT g (u::vs) σ).1) []):=by simp only[qck,hf,hvs,WO,qll,qh3]
   refine⟨_,he,by omega,fun l hl hm=>?_⟩
   simp only[We,not_or] at hm
   rw[h2 l (by omega) hm.2,a2 l (by simp only[qau,We,not_or]; exact hm.1)]
  ·rename_i l vs hf hvs
   obtain⟨h1,h2⟩:=qcF h
   refine⟨reach σ σ.length (l::qau vs) [],by simp only[qck,hf,hvs,qh3],h1,fun l hl hm=>h2 l hl ?_⟩
   simpa [qau,V.locs] using hm
  ·cases h
 |_=>cases hc
end
end
end Go.Pm
