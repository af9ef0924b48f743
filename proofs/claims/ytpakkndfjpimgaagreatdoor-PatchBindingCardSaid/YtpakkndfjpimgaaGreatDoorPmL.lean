/- Calls; every operation. -/
import Derived.Test.YtpakkndfjpimgaaGreatDoorPmK
import Derived.DefersIn
set_option linter.unusedSimpArgs false
set_option linter.unusedVariables false
section SL
namespace Go.Pm
variable {P:Program} {ids:Ids} {fid:Fid} {N:Nat}
abbrev FR (ro:Option Nat):Fence:={ Fence.wide with round:=ro }
def qdI (P:Program) (f:FuncId):Prop := ∃ fn,P.funcs[f]?=some fn/\(fn.name == "runtime.NumGoroutine")=false/\fn.body.isSome=true
def qkv (fid:Fid) (Γ':Ctx) (v:V) (e:Ending):Prop:=
 (∃ x,e = .returned x/\Rep fid Γ' v x) \/ ∃ u x,v = .pan u/\e = .panicked [{ v:=x,recovered:=false }]/\Rep fid Γ' u x
def qgc (P:Program) (fid:Fid) (f:Nat) (args:List V) (σ : S) (v:V) (σ':S):Prop:=
 qdI P (fid f) /\ ∀ (Γ : Ctx) (xs:List Value),Γ.σ = σ -> Real fid Γ -> Reps fid Γ args xs ->
  CallsIn Fence.wide 0 P (fid f) xs.toArray Γ.w fun e w' => ∃ Γ',Γ'.w=w' /\ Γ'.σ = σ'/\Real fid Γ'/\Step Γ Γ'/\qkv fid Γ' v e
def qkf (P:Program) (fid:Fid) (f:Nat) (args:List V) (σ : S) (σ':S):Prop:=
 qdI P (fid f) /\ ∀ (Γ : Ctx) (pv:V) (as:List V) (px:Value) (ys:List Value) (u:FrameMode),args=pv::as -> Γ.σ = σ -> Real fid Γ -> Rep fid Γ pv px->Reps fid Γ as ys ->
  (pv.isNilIf=true->u = .returning)->(pv.isNilIf=false->u = .panicking [{ v:=px,recovered:=false }]) ->
  CallsDIn Fence.wide 0 P (fid f) ys.toArray u Γ.w fun e u' w' => ∃ Γ' y,e = .returned y /\ Γ'.w=w' /\ Γ'.σ = σ'/\Real fid Γ'/\Step Γ Γ'/\settle u' = .returning
def qe9 (P:Program) (fid:Fid) (args:List V) (σ : S) (v:V) (σ':S):Prop:=
 ∀ (Γ : Ctx) (xs:List Value),Γ.σ = σ -> Real fid Γ -> Reps fid Γ args xs -> ∃ l b ys fn tmps as bd,args.head?=some (.yld l)/\xs = .func (.yield b) #[] #[]::ys /\
  (Instr.yield b ys.toArray).run P Γ.w = .ok (.round b fn tmps as bd) Γ.w /\
  RoundIn Fence.wide 0 P b fn tmps as bd Γ.w fun e w' => ∃ Γ' x,e = .returned x /\ Γ'.w=w' /\ Γ'.σ = σ'/\Real fid Γ'/\Step Γ Γ'/\Rep fid Γ' v x
structure CSound (P:Program) (fid:Fid) (C:Task->Option Res):Prop where
 call : ∀ f args σ v σ',C (.call f args σ)=some (.ret v σ')->qgc P fid f args σ v σ'
 dcall : ∀ f args σ v σ',C (.dcall f args σ)=some (.ret v σ')->qkf P fid f args σ σ'
 round : ∀ args σ v σ',C (.round args σ)=some (.ret v σ')->qe9 P fid args σ v σ'
theorem qc9 {Γ : Ctx} {a b:List V} {xs ys:List Value} (ha:Reps fid Γ a xs) (hb:Reps fid Γ b ys):Reps fid Γ (a++b) (xs++ys):=Reps_append.2 ⟨_,_,rfl,ha,hb⟩
theorem qkw {Γ : Ctx} {v:V} {x:Value} (h:Rep fid Γ v x):Rep fid Γ v.sealv x:=by
 unfold V.sealv
 split
 ·simp only[Rep,RepD] at h ⊢
  obtain⟨b,cap,vs,m,h1,h2,h3,h4,_⟩:=h
  exact⟨b,0,cap,vs,h1,h2,by simp,h3,h4⟩
 ·exact h
theorem qjc {Γ : Ctx} : ∀ {vs:List V} {xs:List Value},Reps fid Γ vs xs->Reps fid Γ (qha vs) xs
 | [],xs,h=>by simpa only [qha,Reps] using h
 | v::vs,xs,h=>by
  simp only[qha,Reps] at h ⊢
  obtain⟨y,ys,h1,h2,h3⟩:=h
  exact⟨y,ys,h1,qkw h2,qjc h3⟩
theorem qkx {Γ : Ctx} {v:V} {x:Value} (h:Rep fid Γ v x):Rep fid Γ v.sealT x:=by
 unfold V.sealT
 split
 ·simp only[Rep] at h
  obtain⟨vs,rfl,h⟩:=h
  exact qb3 (qjc h)
 ·exact qkw h
theorem qhD {Γ : Ctx} : ∀ {vs:List V} {xs:List Value},Reps fid Γ vs xs->Reps fid Γ (qeJ vs) xs
 | [],xs,h=>by simpa only [qeJ,Reps] using h
 | v::vs,xs,h=>by
  simp only[qeJ,Reps] at h ⊢
  obtain⟨y,ys,h1,h2,h3⟩:=h
  exact⟨y,ys,h1,qkx h2,qhD h3⟩
theorem qew {t e:TypeId} {i:TypeInfo} {name:String} {m:Method} {f:FuncId} (hi:P.info? t=some i) (hm:i.methods.find? (·.name==name)=some m) (hp:m.path = #[]) (hf:m.func=some (f,true)) (hu:P.underlying t=some (.pointer e)) (n:Nat) (v:Value) (w:World) :
  (method (n+1) t v name).run P w = .ok (f,v) w:=by
 unfold method
 simp only[Sem.run_bind,qaQ hi,Result.andThen_ok,hm,hp,follow,Sem.run_pure,hf,receiverAt,qab hu,Place.get]
theorem run_callMethod_ptr {t e:TypeId} {i:TypeInfo} {name:String} {m:Method} {f:FuncId} (hi:P.info? t=some i) (hm:i.methods.find? (·.name==name)=some m) (hp:m.path = #[]) (hf:m.func=some (f,true)) (hu:P.underlying t=some (.pointer e)) (v:Value) (args:Array Value) (w:World) :
  (callMethod (.iface t v) name args).run P w=(callFunc f (#[v]++args)).run P w:=by
 unfold callMethod
 simp only[Sem.run_bind,run_program,Result.andThen_ok,qew hi hm hp hf hu _ v w,Made.depth]
theorem qda {t:TypeId} {name:String} {f:FuncId} (h:methT P t name=some f) (v:Value) (args:Array Value) (w:World):(callMethod (.iface t v) name args).run P w=(callFunc f (#[v]++args)).run P w:=by
 unfold methT at h
 split at h
 ·rename_i i e hi hu
  split at h
  ·rename_i m hm
   split at h
   ·rename_i hp
    split at h
    ·rename_i f' hf
     cases h
     exact run_callMethod_ptr hi hm (Array.isEmpty_iff.1 hp) hf hu v args w
    ·cases h
   ·cases h
  ·cases h
 ·cases h
theorem qaX (hid:Ties P ids fid) {name:String} {t g:Nat} : ∀ {ts:List Nat},(qfA P ids name ts).lookup t=some g -> ∃ f,methT P (fid.ty t) name=some f/\ids f=some g
 | [],h=>by simp[qfA] at h
 | s::r,h=>by
  simp only[qfA] at h
  split at h
  ·rename_i f hf
   split at h
   ·rename_i g' hg
    split at h
    ·rename_i u hu
     rw[List.lookup_cons] at h
     split at h
     ·rename_i he
      cases h
      rw[beq_iff_eq.1 he,hid.ty _ _ hu]
      exact⟨f,hf,hg⟩
     ·exact qaX hid h
    ·exact qaX hid h
   ·exact qaX hid h
  ·exact qaX hid h
theorem qeF {Γ : Ctx} (hr:Real fid Γ) (f:Nat) {vs:List V} {xs:List Value} (h:Reps fid Γ vs xs) : ∃ Γ':Ctx,Γ'.σ = (qcl f vs Γ.σ).2 /\ Γ'.w = Γ.w/\Real fid Γ'/\Step Γ Γ'/\Reps fid Γ' (qcl f vs Γ.σ).1 xs:=by
 unfold qcl
 split
 ·exact qeq hr h
 ·exact⟨Γ,rfl,rfl,hr,.refl _,h⟩
theorem qdJ {C:Task->Option Res} (hC:CSound P fid C) {Γ : Ctx} (hr:Real fid Γ) {f:Nat} {args:List V} {xs:List Value} {v:V} {σ':S} (ha:Reps fid Γ args xs) (h:qaM C (.call f) args Γ.σ = some (v,σ')) :
  qdI P (fid f)/\CallsIn Fence.wide 0 P (fid f) xs.toArray Γ.w fun e w' => ∃ Γ' x,e = .returned x /\ Γ'.w=w' /\ Γ'.σ = σ'/\Real fid Γ'/\Step Γ Γ'/\Rep fid Γ' v x:=by
 unfold qaM at h
 simp only at h
 generalize reach Γ.σ 100000 (qai args) []=L at h
 split at h
 ·rename_i args' σs hres
  split at h
  ·cases h
  ·rename_i v' σs' hnp hcall
   cases h
   obtain⟨h1,h2,h3,h4,h5,h6⟩:=qar hr hres
   obtain⟨he,hs⟩:=hC.call _ _ _ _ _ hcall
   refine⟨he,(hs (Γ.part L σs) xs rfl h5 (h6 xs ha)).mono ?_⟩
   rintro e w' ⟨Γs',hw,hσ,hr',hst,hx⟩
   obtain⟨Γ',k1,k2,k3,k4,k5⟩:=qdn hr h1 h3 h4 h2 hr' hst
   rcases hx with ⟨x,he,hx⟩ | ⟨u,x,rfl,_⟩
   ·exact⟨Γ',x,he,k2.trans hw,by rw[k1,hσ],k3,k4,k5 _ _ hx⟩
   ·exact (hnp _ rfl).elim
  ·cases h
 ·cases h
theorem qfa {C:Task->Option Res} (hC:CSound P fid C) {Γ : Ctx} (hr:Real fid Γ) {f:Nat} {args:List V} {xs:List Value} {v:V} {σ':S} (ha:Reps fid Γ args xs) (h:qba C (.call f) args Γ.σ = some (v,σ')) :
  qdI P (fid f)/\CallsIn Fence.wide 0 P (fid f) xs.toArray Γ.w fun e w' => ∃ Γ' x,e = .panicked [{ v:=x,recovered:=false }] /\ Γ'.w=w' /\ Γ'.σ = σ'/\Real fid Γ'/\Step Γ Γ'/\Rep fid Γ' v x:=by
 unfold qba at h
 simp only at h
 generalize reach Γ.σ 100000 (qai args) []=L at h
 split at h
 ·rename_i args' σs hres
  split at h
  ·rename_i v' σs' hcall
   cases h
   obtain⟨h1,h2,h3,h4,h5,h6⟩:=qar hr hres
   obtain⟨he,hs⟩:=hC.call _ _ _ _ _ hcall
   refine⟨he,(hs (Γ.part L σs) xs rfl h5 (h6 xs ha)).mono ?_⟩
   rintro e w' ⟨Γs',hw,hσ,hr',hst,hx⟩
   obtain⟨Γ',k1,k2,k3,k4,k5⟩:=qdn hr h1 h3 h4 h2 hr' hst
   rcases hx with ⟨x,_,hx⟩ | ⟨u,x,e1,e2,hx⟩
   ·simp only[Rep] at hx
   ·cases e1
    exact⟨Γ',x,e2,k2.trans hw,by rw[k1,hσ],k3,k4,k5 _ _ hx⟩
  ·cases h
 ·cases h
theorem qd9 (r:Nat->Nat) (v:V):(v.ren r).isNilIf=v.isNilIf:=by cases v<;>rfl
theorem qdb {C:Task->Option Res} (hC:CSound P fid C) {Γ : Ctx} (hr:Real fid Γ) {f:Nat} {pv:V} {as:List V} {px:Value} {ys:List Value} {v:V} {σ':S} {u:FrameMode} (hp:Rep fid Γ pv px) (ha:Reps fid Γ as ys)
  (hu:pv.isNilIf=true->u = .returning) (hu':pv.isNilIf=false->u = .panicking [{ v:=px,recovered:=false }]) (h:qaM C (.dcall f) (pv::as) Γ.σ = some (v,σ')) :
  qdI P (fid f)/\CallsDIn Fence.wide 0 P (fid f) ys.toArray u Γ.w fun e u' w' => ∃ Γ' y,e = .returned y /\ Γ'.w=w' /\ Γ'.σ = σ'/\Real fid Γ'/\Step Γ Γ'/\settle u' = .returning:=by
 unfold qaM at h
 simp only at h
 generalize reach Γ.σ 100000 (qai (pv::as)) []=L at h
 split at h
 ·rename_i args' σs hres
  split at h
  ·cases h
  ·rename_i v' σs' hnp hcall
   cases h
   obtain⟨h1,h2,h3,h4,h5,h6⟩:=qar hr hres
   obtain⟨he,hs⟩:=hC.dcall _ _ _ _ _ hcall
   have hargs:args'=pv.ren (idx L)::qbH (idx L) as:=by
    unfold qaH at hres
    split at hres
    ·split at hres
     ·cases hres; rfl
     ·cases hres
    ·cases hres
   have h7:=h6 (px::ys) ⟨_,_,rfl,hp,ha⟩
   rw[hargs] at h7
   simp only[Reps] at h7
   obtain⟨x,xs,e,q1,q2⟩:=h7
   cases e
   refine⟨he,CallsDIn.mono (hs (Γ.part L σs) _ _ px ys u hargs rfl h5 q1 q2 (by rw[qd9]; exact hu) (by rw[qd9]; exact hu')) ?_⟩
   rintro e u' w' ⟨Γs',y,he,hw,hσ,hr',hst,hx⟩
   obtain⟨Γ',k1,k2,k3,k4,k5⟩:=qdn hr h1 h3 h4 h2 hr' hst
   exact⟨Γ',y,he,k2.trans hw,by rw[k1,hσ],k3,k4,hx⟩
  ·cases h
 ·cases h
theorem qbz {C:Task->Option Res} (hC:CSound P fid C) {Γ : Ctx} (hr:Real fid Γ) {f:Nat} {pre args post:List V} {xs ys zs:List Value} {v:V} {σ':S} (hp:Reps fid Γ pre xs) (ha:Reps fid Γ args ys) (hq:Reps fid Γ post zs)
  (h:qaM C (.call f) (pre++(qcl f args Γ.σ).1++post) (qcl f args Γ.σ).2=some (v,σ')) :
  qdI P (fid f)/\CallsIn Fence.wide 0 P (fid f) (xs++ys++zs).toArray Γ.w fun e w' => ∃ Γ' x,e = .returned x /\ Γ'.w=w' /\ Γ'.σ = σ'/\Real fid Γ'/\Step Γ Γ'/\Rep fid Γ' v x:=by
 obtain⟨Γ1,a1,a2,a3,a4,a5⟩:=qeF hr f ha
 rw[<- a1] at h
 obtain⟨k1,k2⟩:=qdJ hC a3 (qc9 (qc9 (Reps.ext a4.ext _ _ hp) a5) (Reps.ext a4.ext _ _ hq)) h
 rw[a2] at k2
 refine⟨k1,k2.mono ?_⟩
 rintro e w' ⟨Γ',x,h1,h2,h3,h4,h5,h6⟩
 exact⟨Γ',x,h1,h2,h3,h4,a4.trans h5,h6⟩
theorem qbm {C:Task->Option Res} (hC:CSound P fid C) {Γ : Ctx} (hr:Real fid Γ) {f:Nat} {pre args post:List V} {xs ys zs:List Value} {v:V} {σ':S} (hp:Reps fid Γ pre xs) (ha:Reps fid Γ args ys) (hq:Reps fid Γ post zs)
  (h:qba C (.call f) (pre++(qcl f args Γ.σ).1++post) (qcl f args Γ.σ).2=some (v,σ')) :
  qdI P (fid f)/\CallsIn Fence.wide 0 P (fid f) (xs++ys++zs).toArray Γ.w fun e w' => ∃ Γ' x,e = .panicked [{ v:=x,recovered:=false }] /\ Γ'.w=w' /\ Γ'.σ = σ'/\Real fid Γ'/\Step Γ Γ'/\Rep fid Γ' v x:=by
 obtain⟨Γ1,a1,a2,a3,a4,a5⟩:=qeF hr f ha
 rw[<- a1] at h
 obtain⟨k1,k2⟩:=qfa hC a3 (qc9 (qc9 (Reps.ext a4.ext _ _ hp) a5) (Reps.ext a4.ext _ _ hq)) h
 rw[a2] at k2
 refine⟨k1,k2.mono ?_⟩
 rintro e w' ⟨Γ',x,h1,h2,h3,h4,h5,h6⟩
 exact⟨Γ',x,h1,h2,h3,h4,a4.trans h5,h6⟩
theorem qfb {C:Task->Option Res} (hC:CSound P fid C) {Γ : Ctx} (hr:Real fid Γ) {args:List V} {xs:List Value} {v:V} {σ':S} (ha:Reps fid Γ args xs) (h:qaM C .round args Γ.σ = some (v,σ')) :
  ∃ b ys fn tmps as bd,xs = .func (.yield b) #[] #[]::ys/\(Instr.yield b ys.toArray).run P Γ.w = .ok (.round b fn tmps as bd) Γ.w /\
   RoundIn Fence.wide 0 P b fn tmps as bd Γ.w fun e w' => ∃ Γ' x,e = .returned x /\ Γ'.w=w' /\ Γ'.σ = σ'/\Real fid Γ'/\Step Γ Γ'/\Rep fid Γ' v x:=by
 unfold qaM at h
 simp only at h
 generalize reach Γ.σ 100000 (qai args) []=L at h
 split at h
 ·rename_i args' σs hres
  split at h
  ·cases h
  ·rename_i v' σs' hnp hcall
   cases h
   obtain⟨h1,h2,h3,h4,h5,h6⟩:=qar hr hres
   obtain⟨l,b,ys,fn,tmps,as,bd,_,q1,q2,q3⟩:=hC.round _ _ _ _ hcall (Γ.part L σs) xs rfl h5 (h6 xs ha)
   refine⟨b,ys,fn,tmps,as,bd,q1,q2,q3.mono ?_⟩
   rintro e w' ⟨Γs',x,he,hw,hσ,hr',hst,hx⟩
   obtain⟨Γ',k1,k2,k3,k4,k5⟩:=qdn hr h1 h3 h4 h2 hr' hst
   exact⟨Γ',x,he,k2.trans hw,by rw[k1,hσ],k3,k4,k5 _ _ hx⟩
  ·cases h
 ·cases h
theorem qaw {f:FuncId} (h:qdI P f) (args:Array Value) (w:World):(callFunc f args).run P w = .ok (.enter f args) w:=by
 obtain⟨fn,h1,h2,h3⟩:=h
 have h3':fn.body.isNone=false:=by cases hb:fn.body<;>simp_all
 simp only[callFunc,Sem.run_bind,run_program,Result.andThen_ok,h1,h2,h3',Bool.false_eq_true,if_false,Sem.run_pure]
section
variable {Γ : Ctx} {fr:Fr} {a:Act} {o:Oper} {v:V} {σ':S} {C:Task->Option Res} {ro:Option Nat} {K:Act->World->Prop} {Q:Exit->Act->World->Prop}
theorem qaY (hid:Ties P ids fid) (hr:Real fid Γ) (hf:FrRep fid Γ N fr a.tmps) {x:Option Operand} {y:Option X} {u:Option V} (hc:cOX ids N x=some y) (hv:qcW fr y=some u):qf1 fid Γ a.eval u x:=by
 cases x with
 | none=>simp only[cOX,Option.some.injEq] at hc; subst hc; simp only[qcW,Option.some.injEq] at hv; subst hv; exact trivial
 | some x=>
  simp only[cOX,Option.map_eq_some_iff] at hc
  obtain⟨z,hz,rfl⟩:=hc
  simp only[qcW] at hv
  split at hv
  ·rename_i u' hu'; cases hv; exact qaa hid hr hf hz hu'
  ·cases hv
theorem qfc {f:FuncId} {args:Array Value} {Γ₀ : Ctx} (hd : ∀ c,o.op ≠ .defer c) (h:(execOp a.eval o).run P Γ₀.w = .ok (.enter f args) Γ₀.w)
  (hcall:CallsIn Fence.wide 0 P f args Γ₀.w fun e w' => ∃ Γ' x,e = .returned x /\ Γ'.w=w' /\ Γ'.σ = σ'/\Real fid Γ'/\Step Γ₀ Γ'/\Rep fid Γ' v x)
  (hk : ∀ Γ' x,Γ'.σ = σ'->Real fid Γ'->Step Γ₀ Γ'->Rep fid Γ' v x->K (a.put o.dst x) Γ'.w):o.wpIn (FR ro) 0 P a Γ₀.w K Q:=by
 refine⟨fun f _=>trivial,?_⟩
 rw[Oper.semAt_eq _ _ _ hd,h]
 refine⟨fun h=>by simp[Fence.wide] at h,?_⟩
 refine CallsIn.mono (F:=FR ro) hcall ?_
 rintro e w' ⟨Γ',x,rfl,rfl,h1,h2,h3,h4⟩
 exact hk Γ' x h1 h2 h3 h4
theorem qdW {f:FuncId} {args:Array Value} {Γ₀ : Ctx} (hd : ∀ c,o.op ≠ .defer c) (h:(execOp a.eval o).run P Γ₀.w = .ok (.enter f args) Γ₀.w)
  (hcall:CallsIn Fence.wide 0 P f args Γ₀.w fun e w' => ∃ Γ' x,e = .panicked [{ v:=x,recovered:=false }] /\ Γ'.w=w' /\ Γ'.σ = σ'/\Real fid Γ'/\Step Γ₀ Γ'/\Rep fid Γ' v x)
  (hk : ∀ Γ' x,Γ'.σ = σ'->Real fid Γ'->Step Γ₀ Γ'->Rep fid Γ' v x->Q (.panic [{ v:=x,recovered:=false }]) a Γ'.w):o.wpIn (FR ro) 0 P a Γ₀.w K Q:=by
 refine⟨fun f _=>trivial,?_⟩
 rw[Oper.semAt_eq _ _ _ hd,h]
 refine⟨fun h=>by simp[Fence.wide] at h,?_⟩
 refine CallsIn.mono (F:=FR ro) hcall ?_
 rintro e w' ⟨Γ',x,rfl,rfl,h1,h2,h3,h4⟩
 exact hk Γ' x h1 h2 h3 h4
theorem qiz {b:Nat} {fn:FuncId} {tmps:Array Value} {as bd:Code} {Γ₀ : Ctx} (hd : ∀ c,o.op ≠ .defer c) (h:(execOp a.eval o).run P Γ₀.w = .ok (.round b fn tmps as bd) Γ₀.w)
  (hcall:RoundIn Fence.wide 0 P b fn tmps as bd Γ₀.w fun e w' => ∃ Γ' x,e = .returned x /\ Γ'.w=w' /\ Γ'.σ = σ'/\Real fid Γ'/\Step Γ₀ Γ'/\Rep fid Γ' v x)
  (hk : ∀ Γ' x,Γ'.σ = σ'->Real fid Γ'->Step Γ₀ Γ'->Rep fid Γ' v x->K (a.put o.dst x) Γ'.w):o.wpIn (FR ro) 0 P a Γ₀.w K Q:=by
 refine⟨fun f _=>trivial,?_⟩
 rw[Oper.semAt_eq _ _ _ hd,h]
 refine⟨fun h=>by simp[Fence.wide] at h,?_⟩
 refine RoundIn.mono (F:=FR ro) hcall ?_
 rintro e w' ⟨Γ',x,rfl,rfl,h1,h2,h3,h4⟩
 exact hk Γ' x h1 h2 h3 h4
theorem qfd (hid:Ties P ids fid) (hC:CSound P fid C) {op:O} (hc:cOp P ids N o.op=some op) (hr:Real fid Γ) (hf:FrRep fid Γ N fr a.tmps) (h:qaj C fr Γ.σ op=some (v,σ'))
  (hk : ∀ Γ' x,Γ'.σ = σ'->Real fid Γ'->Step Γ Γ'->Rep fid Γ' v x->K (a.put o.dst x) Γ'.w):o.wpIn (FR ro) 0 P a Γ.w K Q:=by
 have hF : ∀ f,(FR ro).fn f:=fun _=>trivial
 cases ho:o.op with
 | move x=>
  rw[ho] at hc
  simp only[cOp,Option.map_eq_some_iff] at hc
  obtain⟨y,hy,rfl⟩:=hc
  simp only[qaj] at h
  split at h
  ·rename_i u hu; cases h
   exact (qlh hr (.inl ho) (qaa hid hr hf hy hu)).wp hF (by simp[ho]) hk
  ·cases h
 | assign x=>
  rw[ho] at hc
  simp only[cOp,Option.map_eq_some_iff] at hc
  obtain⟨y,hy,rfl⟩:=hc
  simp only[qaj] at h
  split at h
  ·rename_i u hu; cases h
   exact (qlh hr (.inr ho) (qaa hid hr hf hy hu)).wp hF (by simp[ho]) hk
  ·cases h
 | pick c x y=>
  rw[ho] at hc
  simp only[cOp] at hc
  split at hc
  ·rename_i c' x' y' h1 h2 h3
   cases hc
   simp only[qaj] at h
   split at h
   ·rename_i hcv
    split at h
    ·rename_i u hu; cases h
     have:=qjp (P:=P) (o:=o) (u:=v) (u':=v) hr ho (qaa hid hr hf h1 hcv) (fun _=>qaa hid hr hf h2 hu) (fun h=>by cases h)
     exact (by simpa using this:Comes P fid Γ a.eval o v Γ.σ).wp hF (by simp[ho]) hk
    ·cases h
   ·rename_i hcv
    split at h
    ·rename_i u hu; cases h
     have:=qjp (P:=P) (o:=o) (u:=v) (u':=v) hr ho (qaa hid hr hf h1 hcv) (fun h=>by cases h) (fun _=>qaa hid hr hf h3 hu)
     exact (by simpa using this:Comes P fid Γ a.eval o v Γ.σ).wp hF (by simp[ho]) hk
    ·cases h
   ·cases h
  ·cases hc
 | alloc t=>
  rw[ho] at hc
  simp only[cOp,Option.map_eq_some_iff] at hc
  obtain⟨z,hz,rfl⟩:=hc
  simp only[qaj,Option.some.injEq,Prod.mk.injEq] at h
  obtain⟨rfl,rfl⟩:=h
  exact (qjy hr ho hz).wp hF (by simp[ho]) hk
 | makeInterface t x=>
  rw[ho] at hc
  simp only[cOp] at hc
  split at hc
  ·cases hc
  ·rename_i d hne ht
   split at hc
   ·rename_i k hk'
    simp only[Option.map_eq_some_iff] at hc
    obtain⟨x',h1,rfl⟩:=hc
    simp only[qaj] at h
    split at h
    ·rename_i u hu; cases h
     exact (qlk hr (hid.ty _ _ hk') ho ht (fun ms e=>hne ms e) (qaa hid hr hf h1 hu)).wp hF (by simp[ho]) hk
    ·cases h
   ·cases hc
  ·cases hc
 | makeSlice t x y=>
  rw[ho] at hc
  simp only[cOp] at hc
  split at hc
  ·rename_i e x' y' ht h1 h2
   split at hc
   ·rename_i n z b hn hz hb
    split at hc
    ·rename_i hcond
     cases hc
     simp only[qaj] at h
     split at h
     ·rename_i k l k' c hx hy
      split at h
      ·rename_i hlc
       have hboth:=qh9 hr ho ht hz hn hb hcond.1 hcond.2 (qaa hid hr hf h1 hx) (qaa hid hr hf h2 hy) hlc
       split at h
       ·cases h; exact hboth.2.wp hF (by simp[ho]) hk
       ·cases h; exact hboth.1.wp hF (by simp[ho]) hk
      ·cases h
     ·cases h
    ·cases hc
   ·cases hc
  ·cases hc
 | box t x=>
  rw[ho] at hc
  simp only[cOp] at hc
  split at hc
  ·rename_i k hw hty
   simp only[Option.map_eq_some_iff] at hc
   obtain⟨y,hy,rfl⟩:=hc
   simp only[qaj] at h
   split at h
   ·rename_i u hu
    split at h
    ·cases h
     exact (qk5 hr ho (hid.ty _ _ hty) (qaa hid hr hf hy hu)).wp hF (by simp[ho]) hk
    ·cases h
   ·cases h
  ·simp only[Option.map_eq_some_iff] at hc
   obtain⟨y,hy,rfl⟩:=hc
   simp only[qaj] at h
   split at h
   ·rename_i u hu
    split at h
    ·cases h
     exact (qlK hr ho (qaa hid hr hf hy hu)).wp hF (by simp[ho]) hk
    ·cases h
   ·cases h
 | build t parts=>
  rw[ho] at hc
  simp only[cOp] at hc
  split at hc
  ·rename_i fields z ht hz
   split at hc
   ·rename_i pl hpl
    simp only[Option.map_eq_some_iff] at hc
    obtain⟨ps,hps,rfl⟩:=hc
    simp only[qaj] at h
    split at h
    ·rename_i vs hvs
     split at h
     ·rename_i cs hcs; cases h
      exact (qiO hr ho ht hz hpl (qbK hid hr hf hps hvs) hcs).wp hF (by simp[ho]) hk
     ·cases h
    ·cases h
   ·cases hc
  ·rename_i len e z ht hz
   split at hc
   ·rename_i n hn
    simp only[Option.map_eq_some_iff] at hc
    obtain⟨ps,hps,rfl⟩:=hc
    simp only[qaj] at h
    split at h
    ·rename_i vs hvs
     split at h
     ·rename_i cs hcs; cases h
      exact (qiP hr ho ht hz hn (qbK hid hr hf hps hvs) hcs).wp hF (by simp[ho]) hk
     ·cases h
    ·cases h
   ·cases hc
  ·cases hc
 | buildSlice t len parts=>
  rw[ho] at hc
  simp only[cOp] at hc
  split at hc
  ·rename_i e ht
   split at hc
   ·rename_i n z hn hz
    split at hc
    ·rename_i hcond
     simp only[Option.map_eq_some_iff] at hc
     obtain⟨ps,hps,rfl⟩:=hc
     split at h
     ·simp only[qaj] at h
      split at h
      ·rename_i vs hvs
       split at h
       ·rename_i cs hcs
        split at h
        ·rename_i ds hds; cases h
         exact (qh8 hr ho ht hz hn hcond.1 hcond.2.1 hcond.2.2 (qbK hid hr hf hps hvs) hcs hds).wp hF (by simp[ho]) hk
        ·cases h
       ·cases h
      ·cases h
     ·simp only[qaj] at h
      split at h
      ·rename_i vs hvs
       split at h
       ·rename_i cs hcs
        split at h
        ·rename_i ds hds; cases h
         exact (qiQ hr ho ht hz hn hcond.1 hcond.2.1 hcond.2.2 (qbK hid hr hf hps hvs) hcs hds).wp hF (by simp[ho]) hk
        ·cases h
       ·cases h
      ·cases h
    ·cases hc
   ·cases hc
  ·cases hc
 | load t x=>
  rw[ho] at hc
  simp only[cOp] at hc
  split at hc
  ·rename_i n y h1 h2 h3
   cases hc
   simp only[qaj] at h
   split at h
   ·rename_i p hp
    split at h
    ·rename_i u hu; cases h
     exact (qjd hr ho (.inl ⟨rfl,h1,h2⟩) (qaa hid hr hf h3 hp) hu).wp hF (by simp[ho]) hk
    ·cases h
   ·cases h
  ·rename_i y h1 h3
   cases hc
   simp only[qaj] at h
   split at h
   ·rename_i p hp
    split at h
    ·rename_i u hu; cases h
     exact (qjd hr ho (.inr ⟨rfl,h1,rfl⟩) (qaa hid hr hf h3 hp) hu).wp hF (by simp[ho]) hk
    ·cases h
   ·cases h
  ·cases hc
 | store t x y=>
  rw[ho] at hc
  simp only[cOp] at hc
  split at hc
  ·rename_i n x' y' h1 h2 h3
   cases hc
   simp only[qaj] at h
   split at h
   ·rename_i p u hp hu
    split at h
    ·rename_i s hs; cases h
     exact (qjA hr ho h1 (qaa hid hr hf h2 hp) (qaa hid hr hf h3 hu) hs).wp hF (by simp[ho]) hk
    ·cases h
   ·cases h
  ·cases hc
 | nilCheck x=>
  rw[ho] at hc
  simp only[cOp,Option.map_eq_some_iff] at hc
  obtain⟨y,hy,rfl⟩:=hc
  simp only[qaj] at h
  split at h
  ·rename_i l k hu; cases h
   exact (qfu hr ho (qaa hid hr hf hy hu) (.inl ⟨_,_,rfl⟩)).wp hF (by simp[ho]) hk
  ·rename_i l k hu; cases h
   exact (qfu hr ho (qaa hid hr hf hy hu) (.inr (.inl ⟨_,_,rfl⟩))).wp hF (by simp[ho]) hk
  ·rename_i l n k hu; cases h
   exact (qfu hr ho (qaa hid hr hf hy hu) (.inr (.inr ⟨_,_,_,rfl⟩))).wp hF (by simp[ho]) hk
  ·rename_i g l k hu; cases h
   exact (qig hr hid.mt ho (qaa hid hr hf hy hu)).wp hF (by simp[ho]) hk
  ·cases h
 | binOp op t x y t'=>
  rw[ho] at hc
  simp only[cOp] at hc
  split at hc
  ·rename_i ht
   simp only[Option.map_eq_some_iff] at hc
   obtain⟨x',h1,rfl⟩:=hc
   simp only[qaj] at h
   split at h
   ·rename_i u hu
    split at h
    ·rename_i b hb; cases h
     exact (qft hr false false rfl ho rfl (.inl ⟨rfl,rfl,_,ht⟩) (qaa hid hr hf h1 hu) hb).wp hF (by simp[ho]) hk
    ·cases h
   ·cases h
  ·rename_i ht
   simp only[Option.map_eq_some_iff] at hc
   obtain⟨x',h1,rfl⟩:=hc
   simp only[qaj] at h
   split at h
   ·rename_i u hu
    split at h
    ·rename_i b hb; cases h
     exact (qft hr false true rfl ho rfl (.inl ⟨rfl,rfl,_,ht⟩) (qaa hid hr hf h1 hu) hb).wp hF (by simp[ho]) hk
    ·cases h
   ·cases h
  ·rename_i ht
   simp only[Option.map_eq_some_iff] at hc
   obtain⟨x',h1,rfl⟩:=hc
   simp only[qaj] at h
   split at h
   ·rename_i u hu
    split at h
    ·rename_i b hb; cases h
     exact (qft hr true false rfl ho rfl (.inr ⟨rfl,rfl,_,ht⟩) (qaa hid hr hf h1 hu) hb).wp hF (by simp[ho]) hk
    ·cases h
   ·cases h
  ·rename_i ht
   simp only[Option.map_eq_some_iff] at hc
   obtain⟨x',h1,rfl⟩:=hc
   simp only[qaj] at h
   split at h
   ·rename_i u hu
    split at h
    ·rename_i b hb; cases h
     exact (qft hr true true rfl ho rfl (.inr ⟨rfl,rfl,_,ht⟩) (qaa hid hr hf h1 hu) hb).wp hF (by simp[ho]) hk
    ·cases h
   ·cases h
  ·rename_i ht
   simp only[Option.map_eq_some_iff] at hc
   obtain⟨x',h1,rfl⟩:=hc
   simp only[qaj] at h
   split at h
   ·rename_i u hu
    split at h
    ·rename_i b hb; cases h
     exact (qgX hr false rfl ho rfl ht (qaa hid hr hf h1 hu) hb).wp hF (by simp[ho]) hk
    ·cases h
   ·cases h
  ·rename_i ht
   simp only[Option.map_eq_some_iff] at hc
   obtain⟨x',h1,rfl⟩:=hc
   simp only[qaj] at h
   split at h
   ·rename_i u hu
    split at h
    ·rename_i b hb; cases h
     exact (qgX hr true rfl ho rfl ht (qaa hid hr hf h1 hu) hb).wp hF (by simp[ho]) hk
    ·cases h
   ·cases h
  ·split at hc
   ·rename_i x' y' h1 h2
    split at hc
    ·have ht:P.underlying t=some .bool:=by assumption
     cases hc
     simp only[qaj] at h
     split at h
     ·rename_i A B hA hB
      cases h
      exact (qli hr false rfl ho ht (qaa hid hr hf h1 hA) (qaa hid hr hf h2 hB)).wp hF (by simp[ho]) hk
     ·cases h
    ·have ht:P.underlying t=some .bool:=by assumption
     cases hc
     simp only[qaj] at h
     split at h
     ·rename_i A B hA hB
      cases h
      exact (qli hr true rfl ho ht (qaa hid hr hf h1 hA) (qaa hid hr hf h2 hB)).wp hF (by simp[ho]) hk
     ·cases h
    ·have ht:qam P t=some true:=by
      have : ∃ f,P.underlying t=some (.struct f):=⟨_,by assumption⟩
      obtain⟨f,e⟩:=this
      simp[qam,e]
     simp only[Option.map_eq_some_iff] at hc
     obtain⟨ks,hks,rfl⟩:=hc
     simp only[qaj] at h
     split at h
     ·rename_i A B hA hB
      split at h
      ·rename_i r hr'; cases h
       exact (qiA hr false rfl ho ht hks (qaa hid hr hf h1 hA) (qaa hid hr hf h2 hB) hr').wp hF (by simp[ho]) hk
      ·cases h
     ·cases h
    ·have ht:qam P t=some true:=by
      have : ∃ f,P.underlying t=some (.struct f):=⟨_,by assumption⟩
      obtain⟨f,e⟩:=this
      simp[qam,e]
     simp only[Option.map_eq_some_iff] at hc
     obtain⟨ks,hks,rfl⟩:=hc
     simp only[qaj] at h
     split at h
     ·rename_i A B hA hB
      split at h
      ·rename_i r hr'; cases h
       exact (qiA hr true rfl ho ht hks (qaa hid hr hf h1 hA) (qaa hid hr hf h2 hB) hr').wp hF (by simp[ho]) hk
      ·cases h
     ·cases h
    ·have ht:qam P t=some true:=by
      have : ∃ n f,P.underlying t=some (.array n f):=⟨_,_,by assumption⟩
      obtain⟨n,f,e⟩:=this
      simp[qam,e]
     simp only[Option.map_eq_some_iff] at hc
     obtain⟨ks,hks,rfl⟩:=hc
     simp only[qaj] at h
     split at h
     ·rename_i A B hA hB
      split at h
      ·rename_i r hr'; cases h
       exact (qiA hr false rfl ho ht hks (qaa hid hr hf h1 hA) (qaa hid hr hf h2 hB) hr').wp hF (by simp[ho]) hk
      ·cases h
     ·cases h
    ·have ht:qam P t=some true:=by
      have : ∃ n f,P.underlying t=some (.array n f):=⟨_,_,by assumption⟩
      obtain⟨n,f,e⟩:=this
      simp[qam,e]
     simp only[Option.map_eq_some_iff] at hc
     obtain⟨ks,hks,rfl⟩:=hc
     simp only[qaj] at h
     split at h
     ·rename_i A B hA hB
      split at h
      ·rename_i r hr'; cases h
       exact (qiA hr true rfl ho ht hks (qaa hid hr hf h1 hA) (qaa hid hr hf h2 hB) hr').wp hF (by simp[ho]) hk
      ·cases h
     ·cases h
    ·have ht : ∃ e',P.underlying t=some (.pointer e')/\(if qak P e'=none\/qak P e'=some 0 then none else some (O.peq false x' y'))=some op:=⟨_,by assumption,hc⟩
     obtain⟨e',ht,hc⟩:=ht
     split at hc
     ·cases hc
     ·rename_i hz
      cases hc
      simp only[qaj] at h
      split at h
      ·rename_i l1 o1 l2 o2 hA hB
       split at h
       ·rename_i hlo
        obtain⟨rfl,rfl⟩:=hlo
        cases h
        cases hn:qak P e' with
        | none=>exact absurd (.inl hn) hz
        | some n=>exact (qk7 hr false rfl ho ht hn (fun h0=>hz (.inr (by rw[hn,h0]))) (qaa hid hr hf h1 hA) (qaa hid hr hf h2 hB)).wp hF (by simp[ho]) hk
       ·cases h
      ·cases h
    ·have ht : ∃ e',P.underlying t=some (.pointer e')/\(if qak P e'=none\/qak P e'=some 0 then none else some (O.peq true x' y'))=some op:=⟨_,by assumption,hc⟩
     obtain⟨e',ht,hc⟩:=ht
     split at hc
     ·cases hc
     ·rename_i hz
      cases hc
      simp only[qaj] at h
      split at h
      ·rename_i l1 o1 l2 o2 hA hB
       split at h
       ·rename_i hlo
        obtain⟨rfl,rfl⟩:=hlo
        cases h
        cases hn:qak P e' with
        | none=>exact absurd (.inl hn) hz
        | some n=>exact (qk7 hr true rfl ho ht hn (fun h0=>hz (.inr (by rw[hn,h0]))) (qaa hid hr hf h1 hA) (qaa hid hr hf h2 hB)).wp hF (by simp[ho]) hk
       ·cases h
      ·cases h
    ·cases hc
     simp only[qaj] at h
     split at h
     ·rename_i A B hA hB
      split at h
      ·rename_i r hr'; cases h
       exact (qlY hr ho (qaa hid hr hf h1 hA) (qaa hid hr hf h2 hB) hr').wp hF (by simp[ho]) hk
      ·cases h
     ·cases h
   ·cases hc
 | unOp op t x=>
  rw[ho] at hc
  simp only[cOp,Option.map_eq_some_iff] at hc
  obtain⟨y,hy,rfl⟩:=hc
  simp only[qaj] at h
  split at h
  ·rename_i A hA
   split at h
   ·rename_i r hr'; cases h
    exact (qnf hr ho (qaa hid hr hf hy hA) hr').wp hF (by simp[ho]) hk
   ·cases h
  ·cases h
 | convert s t x=>
  rw[ho] at hc
  simp only[cOp] at hc
  split at hc
  ·rename_i d k y h1 h2 h3
   cases hc
   simp only[qaj] at h
   split at h
   ·rename_i A hA
    split at h
    ·rename_i r hr'; cases h
     exact (qif hr ho (qaa hid hr hf h3 hA) h1 (.inl ⟨_,rfl,h2⟩) hr').wp hF (by simp[ho]) hk
    ·cases h
   ·cases h
  ·rename_i k y h1 h2 h3
   cases hc
   simp only[qaj] at h
   split at h
   ·rename_i A hA
    split at h
    ·rename_i r hr'; cases h
     exact (qif hr ho (qaa hid hr hf h3 hA) h1 (.inr (.inl ⟨rfl,h2⟩)) hr').wp hF (by simp[ho]) hk
    ·cases h
   ·cases h
  ·rename_i y h1 h2 h3
   cases hc
   simp only[qaj] at h
   split at h
   ·rename_i A hA
    split at h
    ·rename_i r hr'; cases h
     exact (qif hr ho (qaa hid hr hf h3 hA) h1 (.inr (.inr ⟨rfl,h2⟩)) hr').wp hF (by simp[ho]) hk
    ·cases h
   ·cases h
  ·rename_i e y h1 h2 h3
   split at hc
   ·rename_i he hb
    cases hc
    simp only[qaj] at h
    split at h
    ·rename_i A hA
     split at h
     ·cases h
      exact (qj3 hr ho (qaa hid hr hf h3 hA) h1 h2 he).wp hF (by simp[ho]) hk
     ·cases h
    ·cases h
   ·cases hc
  ·rename_i e y h1 h2 h3
   split at hc
   ·rename_i he
    cases hc
    simp only[qaj] at h
    split at h
    ·rename_i A hA
     split at h
     ·rename_i u hu
      cases h
      exact (qk4 hr ho (qaa hid hr hf h3 hA) h1 he h2 hu).wp hF (by simp[ho]) hk
     ·cases h
    ·cases h
   ·cases hc
  ·rename_i e y h1 h2 h3
   split at hc
   ·cases hc
   ·rename_i hz
    cases hc
    simp only[qaj] at h
    split at h
    ·rename_i l off hA
     split at h
     ·rename_i k cs hcs
      split at h
      ·rename_i hlt
       cases h
       cases hn:qak P e with
       | none=>exact absurd (.inl hn) hz
       | some n=>exact (qnb hr ho h1 h2 hn (fun h0=>hz (.inr (by rw[hn,h0]))) (qaa hid hr hf h3 hA) hcs hlt).wp hF (by simp[ho]) hk
      ·cases h
     ·cases h
    ·cases h
  ·rename_i e y h1 h2 h3
   split at hc
   ·cases hc
   ·rename_i hz
    cases hc
    simp only[qaj] at h
    split at h
    ·rename_i l hA
     split at h
     ·rename_i k cs hcs
      split at h
      ·rename_i hlt
       cases h
       cases hn:qak P e with
       | none=>exact absurd (.inl hn) hz
       | some n=>exact (qk6 hid hr ho h1 h2 hn (qaa hid hr hf h3 hA) hcs hlt).wp hF (by simp[ho]) hk
      ·cases h
     ·cases h
    ·cases h
  ·cases hc
 | fieldAddr s x f=>
  rw[ho] at hc
  simp only[cOp] at hc
  split at hc
  ·rename_i fields y h1 h2
   split at hc
   ·rename_i fd hfd
    split at hc
    ·cases hc
    ·rename_i h0
     simp only[Option.map_eq_some_iff] at hc
     obtain⟨n,hn,rfl⟩:=hc
     simp only[qaj] at h
     split at h
     ·rename_i p hp
      split at h
      ·rename_i u hu; cases h
       exact (qgt hr ho (qaa hid hr hf h2 hp) h1 hfd hn (fun e=>h0 (by rw[hn,e])) hu).wp hF (by simp[ho]) hk
      ·cases h
     ·cases h
   ·cases hc
  ·cases hc
 | field t x f=>
  rw[ho] at hc
  simp only[cOp] at hc
  split at hc
  ·rename_i fields y h1 h2
   split at hc
   ·rename_i fd hfd
    split at hc
    ·rename_i n k1 k2
     cases hc
     simp only[qaj] at h
     split at h
     ·rename_i p hp
      split at h
      ·rename_i cs hcs
       split at h
       ·rename_i vs hvs
        split at h
        ·rename_i u hu; cases h
         exact (qih hr ho (qaa hid hr hf h2 hp) h1 hfd (.inl ⟨rfl,k1,k2⟩) hcs hvs hu).wp hF (by simp[ho]) hk
        ·cases h
       ·cases h
      ·cases h
     ·cases h
    ·rename_i k1
     cases hc
     simp only[qaj] at h
     split at h
     ·rename_i p hp
      split at h
      ·rename_i cs hcs
       split at h
       ·rename_i vs hvs
        split at h
        ·rename_i u hu; cases h
         exact (qih hr ho (qaa hid hr hf h2 hp) h1 hfd (.inr ⟨rfl,k1,rfl⟩) hcs hvs hu).wp hF (by simp[ho]) hk
        ·cases h
       ·cases h
      ·cases h
     ·cases h
    ·cases hc
   ·cases hc
  ·cases hc
 | indexAddr t x i=>
  rw[ho] at hc
  simp only[cOp] at hc
  split at hc
  ·rename_i e y j h1 h2 h3
   simp only[Option.map_eq_some_iff] at hc
   obtain⟨n,hn,rfl⟩:=hc
   simp only[qaj] at h
   split at h
   ·rename_i s k m hs hm
    split at h
    ·rename_i u hu; cases h
     exact (qgu hr ho (qaa hid hr hf h2 hs) (qaa hid hr hf h3 hm) h1 hn hu).wp hF (by simp[ho]) hk
    ·cases h
   ·cases h
  ·rename_i len e y j h1 h2 h3
   simp only[Option.map_eq_some_iff] at hc
   obtain⟨n,hn,rfl⟩:=hc
   simp only[qaj] at h
   split at h
   ·rename_i s k m hs hm
    split at h
    ·rename_i hj
     split at h
     ·rename_i u hu; cases h
      exact (qf0 hr ho (qaa hid hr hf h2 hs) (qaa hid hr hf h3 hm) h1 hn hj hu).wp hF (by simp[ho]) hk
     ·cases h
    ·cases h
   ·cases h
  ·cases hc
 | index t x i=>
  rw[ho] at hc
  simp only[cOp] at hc
  split at hc
  ·rename_i len e y j h1 h2 h3
   split at hc
   ·rename_i n k1 k2
    cases hc
    simp only[qaj] at h
    split at h
    ·rename_i s k m hs hm
     split at h
     ·rename_i hj
      split at h
      ·rename_i cs hcs
       split at h
       ·rename_i vs hvs
        split at h
        ·rename_i u hu; cases h
         exact (qgZ hr ho (qaa hid hr hf h2 hs) (qaa hid hr hf h3 hm) h1 (.inl ⟨rfl,k1,k2⟩) hj hcs hvs hu).wp hF (by simp[ho]) hk
        ·cases h
       ·cases h
      ·cases h
     ·cases h
    ·cases h
   ·rename_i n k1 k2
    split at hc
    ·rename_i hn1
     subst hn1
     cases hc
     simp only[qaj] at h
     split at h
     ·rename_i s k m hs hm
      split at h
      ·rename_i hj
       split at h
       ·rename_i cs hcs
        split at h
        ·rename_i vs hvs
         split at h
         ·rename_i u hu; cases h
          exact (qgZ hr ho (qaa hid hr hf h2 hs) (qaa hid hr hf h3 hm) h1 (.inr ⟨rfl,k1,rfl,k2⟩) hj hcs hvs hu).wp hF (by simp[ho]) hk
         ·cases h
        ·cases h
       ·cases h
      ·cases h
     ·cases h
    ·cases hc
   ·cases hc
  ·rename_i y j h1 h2 h3
   cases hc
   simp only[qaj] at h
   split at h
   ·rename_i s k m hs hm
    split at h
    ·rename_i hj
     split at h
     ·rename_i u hu; cases h
      exact (qiY hr ho (qaa hid hr hf h2 hs) (qaa hid hr hf h3 hm) h1 hj hu).wp hF (by simp[ho]) hk
     ·cases h
    ·cases h
   ·cases h
  ·cases hc
 | slice t x lo hi mx=>
  rw[ho] at hc
  simp only[cOp] at hc
  split at hc
  ·rename_i e y l u h1 h2 h3 h4
   simp only[Option.map_eq_some_iff] at hc
   obtain⟨n,hn,rfl⟩:=hc
   split at h
   ·simp only[qaj] at h
    split at h
    ·rename_i p l' u' hp hl hu
     exact (ql1 hr ho (qaa hid hr hf h2 hp) h1 hn (qaY hid hr hf h3 hl) (qaY hid hr hf h4 hu) h).wp hF (by simp[ho]) hk
    ·cases h
   ·simp only[qaj] at h
    split at h
    ·rename_i p l' u' hp hl hu
     split at h
     ·rename_i r hr'; cases h
      exact (c_slice hr ho (qaa hid hr hf h2 hp) h1 hn (qaY hid hr hf h3 hl) (qaY hid hr hf h4 hu) hr').wp hF (by simp[ho]) hk
     ·cases h
    ·cases h
  ·rename_i y l u h1 h2 h3 h4
   cases hc
   simp only[qaj] at h
   split at h
   ·rename_i p l' u' hp hl hu
    split at h
    ·rename_i r hr'; cases h
     exact (qiZ hr ho (qaa hid hr hf h2 hp) h1 (qaY hid hr hf h3 hl) (qaY hid hr hf h4 hu) hr').wp hF (by simp[ho]) hk
    ·cases h
   ·cases h
  ·rename_i len e y l u h1 h2 h3 h4
   simp only[Option.map_eq_some_iff] at hc
   obtain⟨n,hn,rfl⟩:=hc
   simp only[qaj] at h
   split at h
   ·rename_i p l' u' hp hl hu
    split at h
    ·rename_i r hr'; cases h
     exact (qiK hr ho (qaa hid hr hf h2 hp) h1 hn (qaY hid hr hf h3 hl) (qaY hid hr hf h4 hu) hr').wp hF (by simp[ho]) hk
    ·cases h
   ·cases h
  ·cases hc
 | makeMap t r=>
  rw[ho] at hc
  simp only[cOp] at hc
  split at hc
  ·cases hc
   simp only[qaj,Option.some.injEq,Prod.mk.injEq] at h
   obtain⟨rfl,rfl⟩:=h
   exact (qjz hr ho).wp hF (by simp[ho]) hk
  ·cases hc
 | mapUpdate t m k x=>
  rw[ho] at hc
  simp only[cOp] at hc
  split at hc
  ·rename_i kt e m' k' x' h1 h2 h3 h4
   simp only[Option.map_eq_some_iff] at hc
   obtain⟨kd,hkd,rfl⟩:=hc
   simp only[qaj] at h
   split at h
   ·rename_i l key u hm hkey hu
    split at h
    ·rename_i es hes
     split at h
     ·split at h
      ·rename_i es' hes'; cases h
       exact (qgV hr (.inl ho) h1 hkd (qaa hid hr hf h2 hm) (qaa hid hr hf h3 hkey) (qaa hid hr hf h4 hu) hes hes').wp hF (by simp[ho]) hk
      ·cases h
     ·cases h
    ·cases h
   ·cases h
  ·cases hc
 | insert t m k x=>
  rw[ho] at hc
  simp only[cOp] at hc
  split at hc
  ·rename_i kt e m' k' x' h1 h2 h3 h4
   simp only[Option.map_eq_some_iff] at hc
   obtain⟨kd,hkd,rfl⟩:=hc
   simp only[qaj] at h
   split at h
   ·rename_i l key u hm hkey hu
    split at h
    ·rename_i es hes
     split at h
     ·split at h
      ·rename_i es' hes'; cases h
       exact (qgV hr (.inr ho) h1 hkd (qaa hid hr hf h2 hm) (qaa hid hr hf h3 hkey) (qaa hid hr hf h4 hu) hes hes').wp hF (by simp[ho]) hk
      ·cases h
     ·cases h
    ·cases h
   ·cases h
  ·cases hc
 | lookup t m k ok=>
  rw[ho] at hc
  simp only[cOp] at hc
  split at hc
  ·rename_i kt e m' k' h1 h2 h3
   split at hc
   ·rename_i kd z hkd hz
    cases hc
    simp only[qaj] at h
    split at h
    ·rename_i l key hm hkey
     split at h
     ·rename_i es hes
      split at h
      ·split at h
       ·rename_i u hu; cases h
        exact (qgU hr ho h1 hkd hz (qaa hid hr hf h2 hm) (qaa hid hr hf h3 hkey) hes hu).wp hF (by simp[ho]) hk
       ·rename_i hu; cases h
        exact (qgU hr ho h1 hkd hz (qaa hid hr hf h2 hm) (qaa hid hr hf h3 hkey) hes hu).wp hF (by simp[ho]) hk
       ·cases h
      ·cases h
     ·cases h
    ·cases h
   ·cases hc
  ·cases hc
 | makeFunc fn x y=>
  rw[ho] at hc
  cases fn with
  | func f=>
   simp only[cOp] at hc
   split at hc
   ·rename_i g as bs h1 h2 h3
    cases hc
    simp only[qaj] at h
    split at h
    ·rename_i us ws hu hw; cases h
     exact (qll hr ho (hid.fn f g h1) (qaC hid hr hf h2 hu) (qaC hid hr hf h3 hw)).wp hF (by simp[ho]) hk
    ·cases h
   ·cases hc
  | method name=>
   simp only[cOp] at hc
   split at hc
   ·rename_i x1 hxs hys
    simp only[Option.map_eq_some_iff] at hc
    obtain⟨y1,h1,rfl⟩:=hc
    simp only[qaj] at h
    split at h
    ·rename_i t v vs' hv
     split at h
     ·rename_i g hg
      cases h
      have e1:x = #[x1]:=by apply Array.ext'; simpa using hxs
      have e2:y = #[]:=by apply Array.ext'; simpa using hys
      obtain⟨fn,hm,hi⟩:=qaX hid hg
      exact (qiX hr (by rw[e2] at ho; exact ho) e1 (qaa hid hr hf h1 hv) ((hid.mt _ _ _).2 ⟨fn,hm,hi⟩)).wp hF (by simp[ho]) hk
     ·cases h
    ·cases h
   ·cases hc
  | _=>simp[cOp] at hc
 | extract x i=>
  rw[ho] at hc
  simp only[cOp,Option.map_eq_some_iff] at hc
  obtain⟨y,hy,rfl⟩:=hc
  simp only[qaj] at h
  split at h
  ·rename_i vs hvs
   split at h
   ·rename_i u hu; cases h
    exact (qii hr ho (qaa hid hr hf hy hvs) hu).wp hF (by simp[ho]) hk
   ·cases h
  ·cases h
 | call c=>
  rw[ho] at hc
  simp only[cOp,qhp] at hc
  split at hc
  ·rename_i f hcal
   split at hc
   ·rename_i g xs h1 h2
    cases hc
    simp only[qaj] at h
    split at h
    ·rename_i vs hvs
     have hargs:=qaC hid hr hf h2 hvs
     obtain⟨k1,k2⟩:=qbz (pre:=[]) (post:=[]) (xs:=[]) (zs:=[]) hC hr rfl hargs rfl (by simpa using h)
     rw[hid.fn f g h1] at k1 k2
     simp only[List.nil_append,List.append_nil] at k2
     refine qfc (by simp[ho]) ?_ k2 hk
     simp only[execOp,ho,resolve,hcal,Act.eval,Deferred.ofValue,Sem.run_bind,Sem.run_pure,Result.andThen_ok,invoke]
     rw[qaw k1]
     simp
     apply Array.ext'; simp
    ·cases h
   ·rename_i xs h1 h2
    split at hc
    ·rename_i y he
     cases hc
     simp only[qaj] at h
     split at h
     ·rename_i u hu
      cases h
      obtain⟨p,q1,q2⟩:=qmN h2
      exact (qla hr ho hcal he q1 rfl (qaa hid hr hf q2 hu)).wp hF (by simp[ho]) hk
     ·cases h
    ·rename_i y z he
     cases hc
     simp only[qaj] at h
     split at h
     ·rename_i s n hs hn
      cases h
      obtain⟨p,q,q1,q2,q3⟩:=qnc h2
      exact (qlV hr ho hcal he q1 rfl (qaa hid hr hf q2 hs) (qaa hid hr hf q3 hn)).wp hF (by simp[ho]) hk
     ·cases h
    ·cases hc
   ·cases hc
  ·rename_i x hx hcal
   split at hc
   ·rename_i g xs h1 h2
    cases hc
    simp only[qaj] at h
    split at h
    ·rename_i id as bs vs hfn hvs
     have hargs:=qaC hid hr hf h2 hvs
     have hfv:=qaa hid hr hf h1 hfn
     simp only[Rep] at hfv
     obtain⟨as',bs',e1,e2,e3⟩:=hfv
     obtain⟨k1,k2⟩:=qbz hC hr e2 hargs e3 h
     refine qfc (by simp[ho]) ?_ k2 hk
     simp only[execOp,ho,resolve,hcal,e1,Deferred.ofValue,Sem.run_bind,Sem.run_pure,Result.andThen_ok,invoke]
     rw[qaw k1]
     simp
    ·rename_i g' v' vs hfn hvs
     have hargs:=qaC hid hr hf h2 hvs
     have hfv:=qaa hid hr hf h1 hfn
     simp only[Rep] at hfv
     obtain⟨t,nm,y,e1,e2,e3⟩:=hfv
     obtain⟨fn,hm,hi⟩:=(hid.mt _ _ _).1 e2
     have hall:Reps fid Γ (v'::vs) (y::c.args.toList.map a.eval):=by simp only[Reps]; exact⟨_,_,rfl,e3,hargs⟩
     obtain⟨k1,k2⟩:=qbz (pre:=[]) (post:=[]) (xs:=[]) (zs:=[]) hC hr rfl hall rfl (by simpa using h)
     rw[hid.fn fn g' hi] at k1 k2
     simp only[List.nil_append,List.append_nil] at k2
     refine qfc (by simp[ho]) ?_ k2 hk
     simp only[execOp,ho,resolve,hcal,e1,Deferred.ofValue,Sem.run_bind,Sem.run_pure,Result.andThen_ok,invoke]
     have q0:(#[Value.iface t y]++Array.map a.eval c.args)[0]?=some (.iface t y):=by
      rw[Array.getElem?_append_left (by show 0<1; omega)]; rfl
     have q1:(#[Value.iface t y]++Array.map a.eval c.args).extract 1 (#[Value.iface t y]++Array.map a.eval c.args).size=Array.map a.eval c.args:=by
      apply Array.ext'; simp; try exact List.take_of_length_le (by simp)
     simp only[q0,q1]
     rw[qda hm,qaw k1]
     try simp
     try (apply Array.ext'; simp)
    ·rename_i l vs hfn hvs
     have hargs:=qaC hid hr hf h2 hvs
     have hfv:=qaa hid hr hf h1 hfn
     obtain⟨b,ys,fn,tmps,as,bd,q1,q2,q3⟩:=qfb hC hr (args := .yld l::vs) (xs:=a.eval x::c.args.toList.map a.eval) ⟨_,_,rfl,hfv,hargs⟩ h
     simp only[List.cons.injEq] at q1
     obtain⟨q0,rfl⟩:=q1
     refine qiz (by simp[ho]) ?_ q3 hk
     simp only[execOp,ho,resolve,hcal,q0,Deferred.ofValue,Sem.run_bind,Sem.run_pure,Result.andThen_ok,invoke]
     have e:(List.map a.eval c.args.toList).toArray=Array.map a.eval c.args:=by apply Array.ext'; simp
     rw[e] at q2
     simpa using q2
    ·cases h
   ·cases hc
  ·rename_i recv name hcal
   split at hc
   ·rename_i x xs h1 h2
    cases hc
    simp only[qaj] at h
    split at h
    ·rename_i t v vs hv hvs
     split at h
     ·rename_i g hg
      have hargs:=qaC hid hr hf h2 hvs
      have hfv:=qaa hid hr hf h1 hv
      simp only[Rep] at hfv
      obtain⟨y,e1,e2⟩:=hfv
      obtain⟨fn,hm,hi⟩:=qaX hid hg
      have hall:Reps fid Γ (v::vs) (y::c.args.toList.map a.eval):=by simp only[Reps]; exact⟨_,_,rfl,e2,hargs⟩
      obtain⟨k1,k2⟩:=qbz (pre:=[]) (post:=[]) (xs:=[]) (zs:=[]) hC hr rfl hall rfl (by simpa using h)
      rw[hid.fn fn g hi] at k1 k2
      simp only[List.nil_append,List.append_nil] at k2
      refine qfc (by simp[ho]) ?_ k2 hk
      simp only[execOp,ho,resolve,hcal,e1,Sem.run_bind,Sem.run_pure,Result.andThen_ok,invoke]
      have q0:(#[Value.iface (fid.ty t) y]++Array.map a.eval c.args)[0]?=some (.iface (fid.ty t) y):=by
       rw[Array.getElem?_append_left (by show 0<1; omega)]; rfl
      have q1:(#[Value.iface (fid.ty t) y]++Array.map a.eval c.args).extract 1 (#[Value.iface (fid.ty t) y]++Array.map a.eval c.args).size=Array.map a.eval c.args:=by
       apply Array.ext'; simp; try exact List.take_of_length_le (by simp)
      simp only[q0,q1]
      rw[qda hm,qaw k1]
      try simp
      try (apply Array.ext'; simp)
     ·cases h
    ·cases h
   ·cases hc
  ·rename_i b hcal
   split at hc
   ·rename_i x t hxs hts
    split at hc
    ·rename_i y h1 h2
     cases hc
     simp only[qaj] at h
     split at h
     ·rename_i u hu
      split at h
      ·rename_i n hn; cases h
       exact (qj0 hr ho hcal hxs hts (qaa hid hr hf h2 hu) (.inl ⟨rfl,h1⟩) hn).wp hF (by simp[ho]) hk
      ·cases h
     ·cases h
    ·rename_i e y h1 h2
     cases hc
     simp only[qaj] at h
     split at h
     ·rename_i u hu
      split at h
      ·rename_i n hn; cases h
       exact (qj0 hr ho hcal hxs hts (qaa hid hr hf h2 hu) (.inr (.inl ⟨rfl,_,h1⟩)) hn).wp hF (by simp[ho]) hk
      ·cases h
     ·cases h
    ·rename_i e e' y h1 h2
     cases hc
     simp only[qaj] at h
     split at h
     ·rename_i u hu
      split at h
      ·rename_i n hn; cases h
       exact (qj0 hr ho hcal hxs hts (qaa hid hr hf h2 hu) (.inr (.inr ⟨rfl,_,_,h1⟩)) hn).wp hF (by simp[ho]) hk
      ·cases h
     ·cases h
    ·cases hc
   ·rename_i xs ts
    simp only[Option.map_eq_some_iff] at hc
    obtain⟨ys,hys,rfl⟩:=hc
    simp only[qaj] at h
    split at h
    ·rename_i vs hvs
     split at h
     ·rename_i y ys' hl
      split at h
      ·rename_i r hr'; cases h
       exact (qlZ hr ho hcal (qaC hid hr hf hys hvs) hl hr').wp hF (by simp[ho]) hk
      ·cases h
     ·cases h
    ·cases h
   ·rename_i xs ts
    simp only[Option.map_eq_some_iff] at hc
    obtain⟨ys,hys,rfl⟩:=hc
    simp only[qaj] at h
    split at h
    ·rename_i vs hvs
     split at h
     ·rename_i y ys' hl
      split at h
      ·rename_i r hr'; cases h
       exact (ql0 hr ho hcal (qaC hid hr hf hys hvs) hl hr').wp hF (by simp[ho]) hk
      ·cases h
     ·cases h
    ·cases h
   ·rename_i s x ts tx hxs hts
    split at hc
    ·rename_i e ex s' x' h1 h2 h3 h4
     split at hc
     ·rename_i n b z hn hb hz
      split at hc
      ·rename_i hzn
       cases hc
       split at h
       ·split at h
        ·rename_i k hty
         simp only[qaj] at h
         split at h
         ·rename_i p q hp hq
          exact (qfT hr ho hcal hxs hts h1 (.inl ⟨_,h2⟩) hn hb hz hzn (hid.ty _ _ hty) (qaa hid hr hf h3 hp) (qaa hid hr hf h4 hq) h).wp hF (by simp[ho]) hk
         ·cases h
        ·simp only[qaj] at h
         split at h
         ·rename_i p q hp hq
          exact (qf2 hr ho hcal hxs hts h1 (.inl ⟨_,h2⟩) hn hb hz hzn (qaa hid hr hf h3 hp) (qaa hid hr hf h4 hq) h).wp hF (by simp[ho]) hk
         ·cases h
       ·simp only[qaj] at h
        split at h
        ·rename_i p q hp hq
         exact (qgQ hr ho hcal hxs hts h1 (.inl ⟨_,h2⟩) hn hb hz hzn (qaa hid hr hf h3 hp) (qaa hid hr hf h4 hq) h).wp hF (by simp[ho]) hk
        ·cases h
      ·cases hc
     ·cases hc
    ·rename_i e s' x' h1 h2 h3 h4
     split at hc
     ·rename_i n b z hn hb hz
      split at hc
      ·rename_i hzn
       cases hc
       split at h
       ·split at h
        ·rename_i k hty
         simp only[qaj] at h
         split at h
         ·rename_i p q hp hq
          exact (qfT hr ho hcal hxs hts h1 (.inr h2) hn hb hz hzn (hid.ty _ _ hty) (qaa hid hr hf h3 hp) (qaa hid hr hf h4 hq) h).wp hF (by simp[ho]) hk
         ·cases h
        ·simp only[qaj] at h
         split at h
         ·rename_i p q hp hq
          exact (qf2 hr ho hcal hxs hts h1 (.inr h2) hn hb hz hzn (qaa hid hr hf h3 hp) (qaa hid hr hf h4 hq) h).wp hF (by simp[ho]) hk
         ·cases h
       ·simp only[qaj] at h
        split at h
        ·rename_i p q hp hq
         exact (qgQ hr ho hcal hxs hts h1 (.inr h2) hn hb hz hzn (qaa hid hr hf h3 hp) (qaa hid hr hf h4 hq) h).wp hF (by simp[ho]) hk
        ·cases h
      ·cases hc
     ·cases hc
    ·cases hc
   ·rename_i x ts hxs
    simp only[Option.map_eq_some_iff] at hc
    obtain⟨y,hy,rfl⟩:=hc
    simp only[qaj] at h
    split at h
    ·rename_i hu
     cases h
     exact (qk8 hr ho hcal hxs (qaa hid hr hf hy hu) (.inl ⟨rfl,rfl⟩)).wp hF (by simp[ho]) hk
    ·rename_i l n sz hu
     split at h
     ·rename_i hc2
      obtain⟨hn0,rfl⟩:=hc2
      cases h
      exact (qk8 hr ho hcal hxs (qaa hid hr hf hy hu) (.inr ⟨l,n,rfl,hn0,rfl⟩)).wp hF (by simp[ho]) hk
     ·cases h
    ·cases h
   ·rename_i x n tx ty hxs hts
    split at hc
    ·rename_i e A B h1 h2 h3
     split at hc
     ·rename_i u hty hu8
      split at hc
      ·rename_i hcond
       cases hc
       simp only[qaj] at h
       split at h
       ·rename_i k kk hp hn
        split at h
        ·rename_i hk0
         subst hk0
         cases h
         exact (qjP hr ho hcal hxs hts (qaa hid hr hf h2 hp) (qaa hid hr hf h3 hn) rfl).wp hF (by simp[ho]) hk
        ·cases h
       ·rename_i l m off kk k hp hn
        split at h
        ·rename_i t cs hcs
         split at h
         ·rename_i hcond2
          split at h
          ·rename_i bs hbs
           cases h
           obtain⟨d1,d2,d3,d4,d5,d6⟩:=hcond2
           subst d2 d3 d5
           simp only[List.contains_cons,List.contains_nil,Bool.or_false,beq_iff_eq] at d1
           subst d1
           exact (qk9 hr ho hcal hxs hts h1 hcond.2.1 (hid.ty _ _ hty) (qaa hid hr hf h2 hp) (qaa hid hr hf h3 hn) rfl hcs d4 d6 hbs).wp hF (by simp[ho]) hk
          ·cases h
         ·cases h
        ·cases h
       ·cases h
      ·cases hc
     ·cases hc
    ·cases hc
   ·cases hc
 | panic x=>
  rw[ho] at hc
  simp only[cOp,Option.map_eq_some_iff] at hc
  obtain⟨y,hy,rfl⟩:=hc
  simp[qaj] at h
 | _=>rw[ho] at hc; simp[cOp] at hc
theorem qfE (hid:Ties P ids fid) (hC:CSound P fid C) {op:O} (hc:cOp P ids N o.op=some op) (hr:Real fid Γ) (hf:FrRep fid Γ N fr a.tmps) (h:qaP C fr Γ.σ op=some (v,σ'))
  (hk : ∀ Γ' x,Γ'.σ = σ'->Real fid Γ'->Step Γ Γ'->Rep fid Γ' v x->Q (.panic [{ v:=x,recovered:=false }]) a Γ'.w):o.wpIn (FR ro) 0 P a Γ.w K Q:=by
 have other:op.calls=false->False:=fun hn=>by rw[qgj hn] at h; cases h
 cases ho:o.op with
 | call c=>
  rw[ho] at hc
  simp only[cOp,qhp] at hc
  split at hc
  ·rename_i f hcal
   split at hc
   ·rename_i g xs h1 h2
    cases hc
    simp only[qaP] at h
    split at h
    ·rename_i vs hvs
     have hargs:=qaC hid hr hf h2 hvs
     obtain⟨k1,k2⟩:=qbm (pre:=[]) (post:=[]) (xs:=[]) (zs:=[]) hC hr rfl hargs rfl (by simpa using h)
     rw[hid.fn f g h1] at k1 k2
     simp only[List.nil_append,List.append_nil] at k2
     refine qdW (by simp[ho]) ?_ k2 hk
     simp only[execOp,ho,resolve,hcal,Act.eval,Deferred.ofValue,Sem.run_bind,Sem.run_pure,Result.andThen_ok,invoke]
     rw[qaw k1]
     simp
     apply Array.ext'; simp
    ·cases h
   ·exfalso
    split at hc
    ·cases hc; exact other rfl
    ·cases hc; exact other rfl
    ·cases hc
   ·cases hc
  ·rename_i x hx hcal
   split at hc
   ·rename_i g xs h1 h2
    cases hc
    simp only[qaP] at h
    split at h
    ·rename_i id as bs vs hfn hvs
     have hargs:=qaC hid hr hf h2 hvs
     have hfv:=qaa hid hr hf h1 hfn
     simp only[Rep] at hfv
     obtain⟨as',bs',e1,e2,e3⟩:=hfv
     obtain⟨k1,k2⟩:=qbm hC hr e2 hargs e3 h
     refine qdW (by simp[ho]) ?_ k2 hk
     simp only[execOp,ho,resolve,hcal,e1,Deferred.ofValue,Sem.run_bind,Sem.run_pure,Result.andThen_ok,invoke]
     rw[qaw k1]
     simp
    ·rename_i g' v' vs hfn hvs
     have hargs:=qaC hid hr hf h2 hvs
     have hfv:=qaa hid hr hf h1 hfn
     simp only[Rep] at hfv
     obtain⟨t,nm,y,e1,e2,e3⟩:=hfv
     obtain⟨fn,hm,hi⟩:=(hid.mt _ _ _).1 e2
     have hall:Reps fid Γ (v'::vs) (y::c.args.toList.map a.eval):=by simp only[Reps]; exact⟨_,_,rfl,e3,hargs⟩
     obtain⟨k1,k2⟩:=qbm (pre:=[]) (post:=[]) (xs:=[]) (zs:=[]) hC hr rfl hall rfl (by simpa using h)
     rw[hid.fn fn g' hi] at k1 k2
     simp only[List.nil_append,List.append_nil] at k2
     refine qdW (by simp[ho]) ?_ k2 hk
     simp only[execOp,ho,resolve,hcal,e1,Deferred.ofValue,Sem.run_bind,Sem.run_pure,Result.andThen_ok,invoke]
     have q0:(#[Value.iface t y]++Array.map a.eval c.args)[0]?=some (.iface t y):=by
      rw[Array.getElem?_append_left (by show 0<1; omega)]; rfl
     have q1:(#[Value.iface t y]++Array.map a.eval c.args).extract 1 (#[Value.iface t y]++Array.map a.eval c.args).size=Array.map a.eval c.args:=by
      apply Array.ext'; simp; try exact List.take_of_length_le (by simp)
     simp only[q0,q1]
     rw[qda hm,qaw k1]
     try simp
     try (apply Array.ext'; simp)
    ·cases h
   ·cases hc
  ·rename_i recv name hcal
   split at hc
   ·rename_i x xs h1 h2
    cases hc
    simp only[qaP] at h
    split at h
    ·rename_i t v vs hv hvs
     split at h
     ·rename_i g hg
      have hargs:=qaC hid hr hf h2 hvs
      have hfv:=qaa hid hr hf h1 hv
      simp only[Rep] at hfv
      obtain⟨y,e1,e2⟩:=hfv
      obtain⟨fn,hm,hi⟩:=qaX hid hg
      have hall:Reps fid Γ (v::vs) (y::c.args.toList.map a.eval):=by simp only[Reps]; exact⟨_,_,rfl,e2,hargs⟩
      obtain⟨k1,k2⟩:=qbm (pre:=[]) (post:=[]) (xs:=[]) (zs:=[]) hC hr rfl hall rfl (by simpa using h)
      rw[hid.fn fn g hi] at k1 k2
      simp only[List.nil_append,List.append_nil] at k2
      refine qdW (by simp[ho]) ?_ k2 hk
      simp only[execOp,ho,resolve,hcal,e1,Sem.run_bind,Sem.run_pure,Result.andThen_ok,invoke]
      have q0:(#[Value.iface (fid.ty t) y]++Array.map a.eval c.args)[0]?=some (.iface (fid.ty t) y):=by
       rw[Array.getElem?_append_left (by show 0<1; omega)]; rfl
      have q1:(#[Value.iface (fid.ty t) y]++Array.map a.eval c.args).extract 1 (#[Value.iface (fid.ty t) y]++Array.map a.eval c.args).size=Array.map a.eval c.args:=by
       apply Array.ext'; simp; try exact List.take_of_length_le (by simp)
      simp only[q0,q1]
      rw[qda hm,qaw k1]
      try simp
      try (apply Array.ext'; simp)
     ·cases h
    ·cases h
   ·cases hc
  ·refine (other ?_).elim
   clear h other
   repeat' (first
    | (cases hc; done)
    | (cases hc; rfl)
    | (cases hc; split<;>rfl)
    | (simp only[Option.map_eq_some_iff] at hc; obtain⟨_,_,rfl⟩:=hc; rfl)
    | split at hc)
 | panic x=>
  rw[ho] at hc
  simp only[cOp,Option.map_eq_some_iff] at hc
  obtain⟨y,hy,rfl⟩:=hc
  simp only[qaP] at h
  split at h
  ·rename_i t u hu
   cases h
   have hv:=qaa hid hr hf hy hu
   refine⟨fun f _=>trivial,?_⟩
   rw[Oper.semAt_eq _ _ _ (by simp[ho])]
   have hrun:(execOp a.eval o).run P Γ.w = .halt (.panic (a.eval x)) Γ.w:=by
    have hv':=hv
    simp only[Rep] at hv'
    obtain⟨w,e,_⟩:=hv'
    simp only[execOp,ho,Instr.panic,e]
    rfl
   rw[hrun]
   exact hk Γ _ rfl hr (.refl _) hv
  ·cases h
 | makeFunc fn x y=>
  refine (other ?_).elim
  clear h other
  rw[ho] at hc
  cases fn<;>simp only[cOp] at hc
  all_goals repeat' (first
   | (cases hc; done)
   | (cases hc; rfl)
   | (simp only[Option.map_eq_some_iff] at hc; obtain⟨_,_,rfl⟩:=hc; rfl)
   | split at hc)
 | _=>
  refine (other ?_).elim
  clear h other
  rw[ho] at hc
  simp only[cOp] at hc
  repeat' (first
   | (cases hc; done)
   | (cases hc; rfl)
   | (simp only[Option.map_eq_some_iff] at hc; obtain⟨_,_,rfl⟩:=hc; rfl)
   | (simp only[Option.map_eq_some_iff] at hc; obtain⟨_,_,rfl⟩:=hc; split<;>rfl)
   | split at hc)
end
end Go.Pm
end SL
