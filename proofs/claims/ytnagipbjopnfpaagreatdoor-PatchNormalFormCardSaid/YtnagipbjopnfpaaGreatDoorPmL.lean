/- Calls; every operation. -/
import Derived.Test.YtnagipbjopnfpaaGreatDoorPmAL
import Derived.Test.YtnagipbjopnfpaaGreatDoorPmJ2
import Derived.DefersIn
set_option linter.unusedSimpArgs false
set_option linter.unusedVariables false
namespace Go.Pm
section
variable{P:Program}{ids:Ids}{fid:Fid}{N:Nat}
abbrev FR(ro:Option Nat):Fence:={ Fence.wide with round:=ro }
def qhy(P:Program)(f:FuncId):Prop := ∃ fn,P.funcs[f]?=some fn/\(fn.name == "runtime.NumGoroutine")=false/\fn.body.isSome=true
def qx8(fid:Fid)(Γ':Ctx)(v:V)(e:Ending):Prop:=
 (∃ x,e = .returned x/\Rep fid Γ' v x) \/ ∃ u x,v = .pan u/\e = .panicked [{ v:=x,recovered:=false }]/\Rep fid Γ' u x
def qmj(P:Program)(fid:Fid)(f:Nat)(args:List V)(σ : S)(v:V)(σ':S):Prop:=
 qhy P (fid f) /\ ∀ (Γ : Ctx) (xs:List Value),Γ.σ = σ -> Real fid Γ -> Reps fid Γ args xs ->
  CallsIn Fence.wide 0 P (fid f) xs.toArray Γ.w fun e w' => ∃ Γ',Γ'.w=w' /\ Γ'.σ = σ'/\Real fid Γ'/\Step Γ Γ'/\qx8 fid Γ' v e
def qxN(P:Program)(fid:Fid)(f:Nat)(args:List V)(σ : S)(σ':S):Prop:=
 qhy P (fid f) /\ ∀ (Γ : Ctx) (pv:V) (as:List V) (px:Value) (ys:List Value) (u:FrameMode),args=pv::as -> Γ.σ = σ -> Real fid Γ -> Rep fid Γ pv px->Reps fid Γ as ys ->
  (pv.isNilIf=true->u = .returning)->(pv.isNilIf=false->u = .panicking [{ v:=px,recovered:=false }]) ->
  CallsDIn Fence.wide 0 P (fid f) ys.toArray u Γ.w fun e u' w' => ∃ Γ' y,e = .returned y /\ Γ'.w=w' /\ Γ'.σ = σ'/\Real fid Γ'/\Step Γ Γ'/\settle u' = .returning
def qkj(P:Program)(fid:Fid)(args:List V)(σ : S)(v:V)(σ':S):Prop:=
 ∀ (Γ : Ctx) (xs:List Value),Γ.σ = σ -> Real fid Γ -> Reps fid Γ args xs -> ∃ l b ys fn tmps as bd,args.head?=some (.yld l)/\xs = .func (.yield b) #[] #[]::ys /\
  (Instr.yield b ys.toArray).run P Γ.w = .ok (.round b fn tmps as bd) Γ.w /\
  RoundIn Fence.wide 0 P b fn tmps as bd Γ.w fun e w' => ∃ Γ' x,e = .returned x /\ Γ'.w=w' /\ Γ'.σ = σ'/\Real fid Γ'/\Step Γ Γ'/\Rep fid Γ' v x
structure CSound(P:Program)(fid:Fid)(C:Task->Option Res):Prop where
 call : ∀ f args σ v σ',C (.call f args σ)=some (.ret v σ')->qmj P fid f args σ v σ'
 dcall : ∀ f args σ v σ',C (.dcall f args σ)=some (.ret v σ')->qxN P fid f args σ σ'
 round : ∀ args σ v σ',C (.round args σ)=some (.ret v σ')->qkj P fid args σ v σ'
theorem qgd{Γ : Ctx}{a b:List V}{xs ys:List Value}(ha:Reps fid Γ a xs)(hb:Reps fid Γ b ys):Reps fid Γ (a++b) (xs++ys):=Reps_append.2 ⟨_,_,rfl,ha,hb⟩
theorem qx9{Γ : Ctx}{v:V}{x:Value}(h:Rep fid Γ v x):Rep fid Γ v.sealv x:=by
 unfold V.sealv
 split
 ·simp only[Rep,RepD] at h ⊢
  obtain⟨b,cap,vs,m,h1,h2,h3,h4,_⟩:=h
  exact⟨b,0,cap,vs,h1,h2,by simp,h3,h4⟩
 ·exact h
theorem qt5{Γ : Ctx} : ∀ {vs:List V} {xs:List Value},Reps fid Γ vs xs->Reps fid Γ (qoI vs) xs
 |[],xs,h=>by simpa only [qoI,Reps] using h
 |v::vs,xs,h=>by
  simp only[qoI,Reps] at h ⊢
  obtain⟨y,ys,h1,h2,h3⟩:=h
  exact⟨y,ys,h1,qx9 h2,qt5 h3⟩
theorem qya{Γ : Ctx}{v:V}{x:Value}(h:Rep fid Γ v x):Rep fid Γ v.sealT x:=by
 unfold V.sealT
 split
 ·simp only[Rep] at h
  obtain⟨vs,rfl,h⟩:=h
  exact qeh (qt5 h)
 ·exact qx9 h
theorem qpL{Γ : Ctx} : ∀ {vs:List V} {xs:List Value},Reps fid Γ vs xs->Reps fid Γ (qjA vs) xs
 |[],xs,h=>by simpa only [qjA,Reps] using h
 |v::vs,xs,h=>by
  simp only[qjA,Reps] at h ⊢
  obtain⟨y,ys,h1,h2,h3⟩:=h
  exact⟨y,ys,h1,qya h2,qpL h3⟩
theorem qjc {t e:TypeId} {i:TypeInfo} {name:String} {m:Method} {f:FuncId} (hi:P.info? t=some i) (hm:i.methods.find? (·.name==name)=some m) (hp:m.path = #[]) (hf:m.func=some (f,true)) (hu:P.underlying t=some (.pointer e)) (n:Nat) (v:Value) (w:World) :
  (method (n+1) t v name).run P w = .ok (f,v) w:=by
 unfold method
 simp only[Sem.run_bind,qbM hi,Result.andThen_ok,hm,hp,follow,Sem.run_pure,hf,receiverAt,qag hu,Place.get]
theorem run_callMethod_ptr {t e:TypeId} {i:TypeInfo} {name:String} {m:Method} {f:FuncId} (hi:P.info? t=some i) (hm:i.methods.find? (·.name==name)=some m) (hp:m.path = #[]) (hf:m.func=some (f,true)) (hu:P.underlying t=some (.pointer e)) (v:Value) (args:Array Value) (w:World) :
  (callMethod (.iface t v) name args).run P w=(callFunc f (#[v]++args)).run P w:=by
 unfold callMethod
 simp only[Sem.run_bind,run_program,Result.andThen_ok,qjc hi hm hp hf hu _ v w,Made.depth]
theorem qge{t:TypeId}{name:String}{f:FuncId}(h:methT P t name=some f)(v:Value)(args:Array Value)(w:World):(callMethod (.iface t v) name args).run P w=(callFunc f (#[v]++args)).run P w:=by
 unfold methT at h
 split at h
 ·rename_i i e hi hu
  split at h
  ·rename_i m hm
   split at h
   ·rename_i hp
    split at h
    ·rename_i f' hf
     cases h
     exact run_callMethod_ptr hi hm (Array.isEmpty_iff.1 hp) hf hu v args w
    ·cases h
   ·cases h
  ·cases h
 ·cases h
theorem qbY(hid:Ties P ids fid){name:String}{t g:Nat} : ∀ {ts:List Nat},(qk1 P ids name ts).lookup t=some g -> ∃ f,methT P (fid.ty t) name=some f/\ids f=some g
 |[],h=>by simp[qk1] at h
 |s::r,h=>by
  simp only[qk1] at h
  split at h
  ·rename_i f hf
   split at h
   ·rename_i g' hg
    split at h
    ·rename_i u hu
     rw[List.lookup_cons] at h
     split at h
     ·rename_i he
      cases h
      rw[beq_iff_eq.1 he,hid.ty _ _ hu]
      exact⟨f,hf,hg⟩
     ·exact qbY hid h
    ·exact qbY hid h
   ·exact qbY hid h
  ·exact qbY hid h
theorem qjo{Γ : Ctx}(hr:Real fid Γ)(f:Nat){vs:List V}{xs:List Value}(h:Reps fid Γ vs xs) : ∃ Γ':Ctx,Γ'.σ = (qeJ f vs Γ.σ).2 /\ Γ'.w = Γ.w/\Real fid Γ'/\Step Γ Γ'/\Reps fid Γ' (qeJ f vs Γ.σ).1 xs:=by
 unfold qeJ
 split
 ·exact qiX hr h
 ·exact⟨Γ,rfl,rfl,hr,.refl _,h⟩
theorem qhz {C:Task->Option Res} (hC:CSound P fid C) {Γ : Ctx} (hr:Real fid Γ) {f:Nat} {args:List V} {xs:List Value} {v:V} {σ':S} (ha:Reps fid Γ args xs) (h:qbF C (.call f) args Γ.σ = some (v,σ')) :
  qhy P (fid f)/\CallsIn Fence.wide 0 P (fid f) xs.toArray Γ.w fun e w' => ∃ Γ' x,e = .returned x /\ Γ'.w=w' /\ Γ'.σ = σ'/\Real fid Γ'/\Step Γ Γ'/\Rep fid Γ' v x:=by
 unfold qbF at h
 simp only at h
 generalize reach Γ.σ 100000 (qaG args) []=L at h
 split at h
 ·rename_i args' σs hres
  split at h
  ·cases h
  ·rename_i v' σs' hnp hcall
   cases h
   obtain⟨h1,h2,h3,h4,h5,h6⟩:=qaZ hr hres
   obtain⟨he,hs⟩:=hC.call _ _ _ _ _ hcall
   refine⟨he,(hs (Γ.part L σs) xs rfl h5 (h6 xs ha)).mono ?_⟩
   rintro e w' ⟨Γs',hw,hσ,hr',hst,hx⟩
   obtain⟨Γ',k1,k2,k3,k4,k5⟩:=qgu hr h1 h3 h4 h2 hr' hst
   rcases hx with ⟨x,he,hx⟩|⟨u,x,rfl,_⟩
   ·exact⟨Γ',x,he,k2.trans hw,by rw[k1,hσ],k3,k4,k5 _ _ hx⟩
   ·exact (hnp _ rfl).elim
  ·cases h
 ·cases h
theorem qkk {C:Task->Option Res} (hC:CSound P fid C) {Γ : Ctx} (hr:Real fid Γ) {f:Nat} {args:List V} {xs:List Value} {v:V} {σ':S} (ha:Reps fid Γ args xs) (h:qba C (.call f) args Γ.σ = some (v,σ')) :
  qhy P (fid f)/\CallsIn Fence.wide 0 P (fid f) xs.toArray Γ.w fun e w' => ∃ Γ' x,e = .panicked [{ v:=x,recovered:=false }] /\ Γ'.w=w' /\ Γ'.σ = σ'/\Real fid Γ'/\Step Γ Γ'/\Rep fid Γ' v x:=by
 unfold qba at h
 simp only at h
 generalize reach Γ.σ 100000 (qaG args) []=L at h
 split at h
 ·rename_i args' σs hres
  split at h
  ·rename_i v' σs' hcall
   cases h
   obtain⟨h1,h2,h3,h4,h5,h6⟩:=qaZ hr hres
   obtain⟨he,hs⟩:=hC.call _ _ _ _ _ hcall
   refine⟨he,(hs (Γ.part L σs) xs rfl h5 (h6 xs ha)).mono ?_⟩
   rintro e w' ⟨Γs',hw,hσ,hr',hst,hx⟩
   obtain⟨Γ',k1,k2,k3,k4,k5⟩:=qgu hr h1 h3 h4 h2 hr' hst
   rcases hx with ⟨x,_,hx⟩|⟨u,x,e1,e2,hx⟩
   ·simp only[Rep] at hx
   ·cases e1
    exact⟨Γ',x,e2,k2.trans hw,by rw[k1,hσ],k3,k4,k5 _ _ hx⟩
  ·cases h
 ·cases h
theorem qiv(r:Nat->Nat)(v:V):(v.ren r).isNilIf=v.isNilIf:=by cases v<;>rfl
theorem qgf {C:Task->Option Res} (hC:CSound P fid C) {Γ : Ctx} (hr:Real fid Γ) {f:Nat} {pv:V} {as:List V} {px:Value} {ys:List Value} {v:V} {σ':S} {u:FrameMode} (hp:Rep fid Γ pv px) (ha:Reps fid Γ as ys)
  (hu:pv.isNilIf=true->u = .returning) (hu':pv.isNilIf=false->u = .panicking [{ v:=px,recovered:=false }]) (h:qbF C (.dcall f) (pv::as) Γ.σ = some (v,σ')) :
  qhy P (fid f)/\CallsDIn Fence.wide 0 P (fid f) ys.toArray u Γ.w fun e u' w' => ∃ Γ' y,e = .returned y /\ Γ'.w=w' /\ Γ'.σ = σ'/\Real fid Γ'/\Step Γ Γ'/\settle u' = .returning:=by
 unfold qbF at h
 simp only at h
 generalize reach Γ.σ 100000 (qaG (pv::as)) []=L at h
 split at h
 ·rename_i args' σs hres
  split at h
  ·cases h
  ·rename_i v' σs' hnp hcall
   cases h
   obtain⟨h1,h2,h3,h4,h5,h6⟩:=qaZ hr hres
   obtain⟨he,hs⟩:=hC.dcall _ _ _ _ _ hcall
   have hargs:args'=pv.ren (idx L)::qdI (idx L) as:=by
    unfold qby at hres
    split at hres
    ·split at hres
     ·cases hres; rfl
     ·cases hres
    ·cases hres
   have h7:=h6 (px::ys) ⟨_,_,rfl,hp,ha⟩
   rw[hargs] at h7
   simp only[Reps] at h7
   obtain⟨x,xs,e,q1,q2⟩:=h7
   cases e
   refine⟨he,CallsDIn.mono (hs (Γ.part L σs) _ _ px ys u hargs rfl h5 q1 q2 (by rw[qiv]; exact hu) (by rw[qiv]; exact hu')) ?_⟩
   rintro e u' w' ⟨Γs',y,he,hw,hσ,hr',hst,hx⟩
   obtain⟨Γ',k1,k2,k3,k4,k5⟩:=qgu hr h1 h3 h4 h2 hr' hst
   exact⟨Γ',y,he,k2.trans hw,by rw[k1,hσ],k3,k4,hx⟩
  ·cases h
 ·cases h
theorem qda {C:Task->Option Res} (hC:CSound P fid C) {Γ : Ctx} (hr:Real fid Γ) {f:Nat} {pre args post:List V} {xs ys zs:List Value} {v:V} {σ':S} (hp:Reps fid Γ pre xs) (ha:Reps fid Γ args ys) (hq:Reps fid Γ post zs)
  (h:qbF C (.call f) (pre++(qeJ f args Γ.σ).1++post) (qeJ f args Γ.σ).2=some (v,σ')) :
  qhy P (fid f)/\CallsIn Fence.wide 0 P (fid f) (xs++ys++zs).toArray Γ.w fun e w' => ∃ Γ' x,e = .returned x /\ Γ'.w=w' /\ Γ'.σ = σ'/\Real fid Γ'/\Step Γ Γ'/\Rep fid Γ' v x:=by
 obtain⟨Γ1,a1,a2,a3,a4,a5⟩:=qjo hr f ha
 rw[<- a1] at h
 obtain⟨k1,k2⟩:=qhz hC a3 (qgd (qgd (Reps.ext a4.ext _ _ hp) a5) (Reps.ext a4.ext _ _ hq)) h
 rw[a2] at k2
 refine⟨k1,k2.mono ?_⟩
 rintro e w' ⟨Γ',x,h1,h2,h3,h4,h5,h6⟩
 exact⟨Γ',x,h1,h2,h3,h4,a4.trans h5,h6⟩
theorem qcK {C:Task->Option Res} (hC:CSound P fid C) {Γ : Ctx} (hr:Real fid Γ) {f:Nat} {pre args post:List V} {xs ys zs:List Value} {v:V} {σ':S} (hp:Reps fid Γ pre xs) (ha:Reps fid Γ args ys) (hq:Reps fid Γ post zs)
  (h:qba C (.call f) (pre++(qeJ f args Γ.σ).1++post) (qeJ f args Γ.σ).2=some (v,σ')) :
  qhy P (fid f)/\CallsIn Fence.wide 0 P (fid f) (xs++ys++zs).toArray Γ.w fun e w' => ∃ Γ' x,e = .panicked [{ v:=x,recovered:=false }] /\ Γ'.w=w' /\ Γ'.σ = σ'/\Real fid Γ'/\Step Γ Γ'/\Rep fid Γ' v x:=by
 obtain⟨Γ1,a1,a2,a3,a4,a5⟩:=qjo hr f ha
 rw[<- a1] at h
 obtain⟨k1,k2⟩:=qkk hC a3 (qgd (qgd (Reps.ext a4.ext _ _ hp) a5) (Reps.ext a4.ext _ _ hq)) h
 rw[a2] at k2
 refine⟨k1,k2.mono ?_⟩
 rintro e w' ⟨Γ',x,h1,h2,h3,h4,h5,h6⟩
 exact⟨Γ',x,h1,h2,h3,h4,a4.trans h5,h6⟩
theorem qkl {C:Task->Option Res} (hC:CSound P fid C) {Γ : Ctx} (hr:Real fid Γ) {args:List V} {xs:List Value} {v:V} {σ':S} (ha:Reps fid Γ args xs) (h:qbF C .round args Γ.σ = some (v,σ')) :
  ∃ b ys fn tmps as bd,xs = .func (.yield b) #[] #[]::ys/\(Instr.yield b ys.toArray).run P Γ.w = .ok (.round b fn tmps as bd) Γ.w /\
   RoundIn Fence.wide 0 P b fn tmps as bd Γ.w fun e w' => ∃ Γ' x,e = .returned x /\ Γ'.w=w' /\ Γ'.σ = σ'/\Real fid Γ'/\Step Γ Γ'/\Rep fid Γ' v x:=by
 unfold qbF at h
 simp only at h
 generalize reach Γ.σ 100000 (qaG args) []=L at h
 split at h
 ·rename_i args' σs hres
  split at h
  ·cases h
  ·rename_i v' σs' hnp hcall
   cases h
   obtain⟨h1,h2,h3,h4,h5,h6⟩:=qaZ hr hres
   obtain⟨l,b,ys,fn,tmps,as,bd,_,q1,q2,q3⟩:=hC.round _ _ _ _ hcall (Γ.part L σs) xs rfl h5 (h6 xs ha)
   refine⟨b,ys,fn,tmps,as,bd,q1,q2,q3.mono ?_⟩
   rintro e w' ⟨Γs',x,he,hw,hσ,hr',hst,hx⟩
   obtain⟨Γ',k1,k2,k3,k4,k5⟩:=qgu hr h1 h3 h4 h2 hr' hst
   exact⟨Γ',x,he,k2.trans hw,by rw[k1,hσ],k3,k4,k5 _ _ hx⟩
  ·cases h
 ·cases h
theorem qa7{f:FuncId}(h:qhy P f)(args:Array Value)(w:World):(callFunc f args).run P w = .ok (.enter f args) w:=by
 obtain⟨fn,h1,h2,h3⟩:=h
 have h3':fn.body.isNone=false:=by cases hb:fn.body<;>simp_all
 simp only[callFunc,Sem.run_bind,run_program,Result.andThen_ok,h1,h2,h3',Wn,if_false,Sem.run_pure]
section
variable{Γ : Ctx}{fr:Fr}{a:Act}{o:Oper}{v:V}{σ':S}{C:Task->Option Res}{ro:Option Nat}{K:Act->World->Prop}{Q:Exit->Act->World->Prop}
theorem qbZ(hid:Ties P ids fid)(hr:Real fid Γ)(hf:FrRep fid Γ N fr a.tmps){x:Option Operand}{y:Option X}{u:Option V}(hc:cOX ids N x=some y)(hv:qfS fr y=some u):qlQ fid Γ a.eval u x:=by
 cases x with
 |none=>simp only[cOX,Wh] at hc; subst hc; simp only[qfS,Wh] at hv; subst hv; exact trivial
 |some x=>
  simp only[cOX,Wi] at hc
  obtain⟨z,hz,rfl⟩:=hc
  simp only[qfS] at hv
  split at hv
  ·rename_i u' hu'; cases hv; exact qae hid hr hf hz hu'
  ·cases hv
theorem qkm {f:FuncId} {args:Array Value} {Γ₀ : Ctx} (hd : ∀ c,o.op ≠ .defer c) (h:(execOp a.eval o).run P Γ₀.w = .ok (.enter f args) Γ₀.w)
  (hcall:CallsIn Fence.wide 0 P f args Γ₀.w fun e w' => ∃ Γ' x,e = .returned x /\ Γ'.w=w' /\ Γ'.σ = σ'/\Real fid Γ'/\Step Γ₀ Γ'/\Rep fid Γ' v x)
  (hk : ∀ Γ' x,Γ'.σ = σ'->Real fid Γ'->Step Γ₀ Γ'->Rep fid Γ' v x->K (a.put o.dst x) Γ'.w):o.wpIn (FR ro) 0 P a Γ₀.w K Q:=by
 refine⟨fun f _=>trivial,?_⟩
 rw[Oper.semAt_eq _ _ _ hd,h]
 refine⟨fun h=>by simp[Fence.wide] at h,?_⟩
 refine CallsIn.mono (F:=FR ro) hcall ?_
 rintro e w' ⟨Γ',x,rfl,rfl,h1,h2,h3,h4⟩
 exact hk Γ' x h1 h2 h3 h4
theorem qh2 {f:FuncId} {args:Array Value} {Γ₀ : Ctx} (hd : ∀ c,o.op ≠ .defer c) (h:(execOp a.eval o).run P Γ₀.w = .ok (.enter f args) Γ₀.w)
  (hcall:CallsIn Fence.wide 0 P f args Γ₀.w fun e w' => ∃ Γ' x,e = .panicked [{ v:=x,recovered:=false }] /\ Γ'.w=w' /\ Γ'.σ = σ'/\Real fid Γ'/\Step Γ₀ Γ'/\Rep fid Γ' v x)
  (hk : ∀ Γ' x,Γ'.σ = σ'->Real fid Γ'->Step Γ₀ Γ'->Rep fid Γ' v x->Q (.panic [{ v:=x,recovered:=false }]) a Γ'.w):o.wpIn (FR ro) 0 P a Γ₀.w K Q:=by
 refine⟨fun f _=>trivial,?_⟩
 rw[Oper.semAt_eq _ _ _ hd,h]
 refine⟨fun h=>by simp[Fence.wide] at h,?_⟩
 refine CallsIn.mono (F:=FR ro) hcall ?_
 rintro e w' ⟨Γ',x,rfl,rfl,h1,h2,h3,h4⟩
 exact hk Γ' x h1 h2 h3 h4
theorem qrW {b:Nat} {fn:FuncId} {tmps:Array Value} {as bd:Code} {Γ₀ : Ctx} (hd : ∀ c,o.op ≠ .defer c) (h:(execOp a.eval o).run P Γ₀.w = .ok (.round b fn tmps as bd) Γ₀.w)
  (hcall:RoundIn Fence.wide 0 P b fn tmps as bd Γ₀.w fun e w' => ∃ Γ' x,e = .returned x /\ Γ'.w=w' /\ Γ'.σ = σ'/\Real fid Γ'/\Step Γ₀ Γ'/\Rep fid Γ' v x)
  (hk : ∀ Γ' x,Γ'.σ = σ'->Real fid Γ'->Step Γ₀ Γ'->Rep fid Γ' v x->K (a.put o.dst x) Γ'.w):o.wpIn (FR ro) 0 P a Γ₀.w K Q:=by
 refine⟨fun f _=>trivial,?_⟩
 rw[Oper.semAt_eq _ _ _ hd,h]
 refine⟨fun h=>by simp[Fence.wide] at h,?_⟩
 refine RoundIn.mono (F:=FR ro) hcall ?_
 rintro e w' ⟨Γ',x,rfl,rfl,h1,h2,h3,h4⟩
 exact hk Γ' x h1 h2 h3 h4
theorem qkn (hid:Ties P ids fid) (hC:CSound P fid C) {op:O} (hc:cOp P ids N o.op=some op) (hr:Real fid Γ) (hf:FrRep fid Γ N fr a.tmps) (h:qaE C fr Γ.σ op=some (v,σ'))
  (hk : ∀ Γ' x,Γ'.σ = σ'->Real fid Γ'->Step Γ Γ'->Rep fid Γ' v x->K (a.put o.dst x) Γ'.w):o.wpIn (FR ro) 0 P a Γ.w K Q:=by
 have hF : ∀ f,(FR ro).fn f:=fun _=>trivial
 cases ho:o.op with
 |move x=>
  rw[ho] at hc
  simp only[cOp,Wi] at hc
  obtain⟨y,hy,rfl⟩:=hc
  simp only[qaE] at h
  split at h
  ·rename_i u hu; cases h
   exact (qzK hr (.inl ho) (qae hid hr hf hy hu)).wp hF (by simp[ho]) hk
  ·cases h
 |assign x=>
  rw[ho] at hc
  simp only[cOp,Wi] at hc
  obtain⟨y,hy,rfl⟩:=hc
  simp only[qaE] at h
  split at h
  ·rename_i u hu; cases h
   exact (qzK hr (.inr ho) (qae hid hr hf hy hu)).wp hF (by simp[ho]) hk
  ·cases h
 |pick c x y=>
  rw[ho] at hc
  simp only[cOp] at hc
  split at hc
  ·rename_i c' x' y' h1 h2 h3
   cases hc
   simp only[qaE] at h
   split at h
   ·rename_i hcv
    split at h
    ·rename_i u hu; cases h
     have:=quv (P:=P) (o:=o) (u:=v) (u':=v) hr ho (qae hid hr hf h1 hcv) (fun _=>qae hid hr hf h2 hu) (fun h=>by cases h)
     exact (by simpa using this:Comes P fid Γ a.eval o v Γ.σ).wp hF (by simp[ho]) hk
    ·cases h
   ·rename_i hcv
    split at h
    ·rename_i u hu; cases h
     have:=quv (P:=P) (o:=o) (u:=v) (u':=v) hr ho (qae hid hr hf h1 hcv) (fun h=>by cases h) (fun _=>qae hid hr hf h3 hu)
     exact (by simpa using this:Comes P fid Γ a.eval o v Γ.σ).wp hF (by simp[ho]) hk
    ·cases h
   ·cases h
  ·cases hc
 |alloc t=>
  rw[ho] at hc
  simp only[cOp,Wi] at hc
  obtain⟨z,hz,rfl⟩:=hc
  simp only[qaE,Wh,WH] at h
  obtain⟨rfl,rfl⟩:=h
  exact (qu6 hr ho hz).wp hF (by simp[ho]) hk
 |makeInterface t x=>
  rw[ho] at hc
  simp only[cOp] at hc
  split at hc
  ·cases hc
  ·rename_i d hne ht
   split at hc
   ·rename_i k hk'
    simp only[Wi] at hc
    obtain⟨x',h1,rfl⟩:=hc
    simp only[qaE] at h
    split at h
    ·rename_i u hu; cases h
     exact (qzN hr (hid.ty _ _ hk') ho ht (fun ms e=>hne ms e) (qae hid hr hf h1 hu)).wp hF (by simp[ho]) hk
    ·cases h
   ·cases hc
  ·cases hc
 |makeSlice t x y=>
  rw[ho] at hc
  simp only[cOp] at hc
  split at hc
  ·rename_i e x' y' ht h1 h2
   split at hc
   ·rename_i n z b hn hz hb
    split at hc
    ·rename_i hcond
     cases hc
     simp only[qaE] at h
     split at h
     ·rename_i k l k' c hx hy
      split at h
      ·rename_i hlc
       have hboth:=qqt hr ho ht hz hn hb hcond.1 hcond.2 (qae hid hr hf h1 hx) (qae hid hr hf h2 hy) hlc
       split at h
       ·cases h; exact hboth.2.wp hF (by simp[ho]) hk
       ·cases h; exact hboth.1.wp hF (by simp[ho]) hk
      ·cases h
     ·cases h
    ·cases hc
   ·cases hc
  ·cases hc
 |box t x=>
  rw[ho] at hc
  simp only[cOp] at hc
  split at hc
  ·rename_i k hw hty
   simp only[Wi] at hc
   obtain⟨y,hy,rfl⟩:=hc
   simp only[qaE] at h
   split at h
   ·rename_i u hu
    split at h
    ·cases h
     exact (qyH hr ho (hid.ty _ _ hty) (qae hid hr hf hy hu)).wp hF (by simp[ho]) hk
    ·cases h
   ·cases h
  ·simp only[Wi] at hc
   obtain⟨y,hy,rfl⟩:=hc
   simp only[qaE] at h
   split at h
   ·rename_i u hu
    split at h
    ·cases h
     exact (qBb hr ho (qae hid hr hf hy hu)).wp hF (by simp[ho]) hk
    ·cases h
   ·cases h
 |build t parts=>
  rw[ho] at hc
  simp only[cOp] at hc
  split at hc
  ·rename_i fields z ht hz
   split at hc
   ·rename_i pl hpl
    simp only[Wi] at hc
    obtain⟨ps,hps,rfl⟩:=hc
    simp only[qaE] at h
    split at h
    ·rename_i vs hvs
     split at h
     ·rename_i cs hcs; cases h
      exact (qsN hr ho ht hz hpl (qdA hid hr hf hps hvs) hcs).wp hF (by simp[ho]) hk
     ·cases h
    ·cases h
   ·cases hc
  ·rename_i len e z ht hz
   split at hc
   ·rename_i n hn
    simp only[Wi] at hc
    obtain⟨ps,hps,rfl⟩:=hc
    simp only[qaE] at h
    split at h
    ·rename_i vs hvs
     split at h
     ·rename_i cs hcs; cases h
      exact (qsO hr ho ht hz hn (qdA hid hr hf hps hvs) hcs).wp hF (by simp[ho]) hk
     ·cases h
    ·cases h
   ·cases hc
  ·cases hc
 |buildSlice t len parts=>
  rw[ho] at hc
  simp only[cOp] at hc
  split at hc
  ·rename_i e ht
   split at hc
   ·rename_i n z hn hz
    split at hc
    ·rename_i hcond
     simp only[Wi] at hc
     obtain⟨ps,hps,rfl⟩:=hc
     split at h
     ·simp only[qaE] at h
      split at h
      ·rename_i vs hvs
       split at h
       ·rename_i cs hcs
        split at h
        ·rename_i ds hds; cases h
         exact (qqs hr ho ht hz hn hcond.1 hcond.2.1 hcond.2.2 (qdA hid hr hf hps hvs) hcs hds).wp hF (by simp[ho]) hk
        ·cases h
       ·cases h
      ·cases h
     ·simp only[qaE] at h
      split at h
      ·rename_i vs hvs
       split at h
       ·rename_i cs hcs
        split at h
        ·rename_i ds hds; cases h
         exact (qsP hr ho ht hz hn hcond.1 hcond.2.1 hcond.2.2 (qdA hid hr hf hps hvs) hcs hds).wp hF (by simp[ho]) hk
        ·cases h
       ·cases h
      ·cases h
    ·cases hc
   ·cases hc
  ·cases hc
 |load t x=>
  rw[ho] at hc
  simp only[cOp] at hc
  split at hc
  ·rename_i n y h1 h2 h3
   cases hc
   simp only[qaE] at h
   split at h
   ·rename_i p hp
    split at h
    ·rename_i u hu; cases h
     exact (qt6 hr ho (.inl ⟨rfl,h1,h2⟩) (qae hid hr hf h3 hp) hu).wp hF (by simp[ho]) hk
    ·cases h
   ·cases h
  ·rename_i y h1 h3
   cases hc
   simp only[qaE] at h
   split at h
   ·rename_i p hp
    split at h
    ·rename_i u hu; cases h
     exact (qt6 hr ho (.inr ⟨rfl,h1,rfl⟩) (qae hid hr hf h3 hp) hu).wp hF (by simp[ho]) hk
    ·cases h
   ·cases h
  ·cases hc
 |store t x y=>
  rw[ho] at hc
  simp only[cOp] at hc
  split at hc
  ·rename_i n x' y' h1 h2 h3
   cases hc
   simp only[qaE] at h
   split at h
   ·rename_i p u hp hu
    split at h
    ·rename_i s hs; cases h
     exact (qu8 hr ho h1 (qae hid hr hf h2 hp) (qae hid hr hf h3 hu) hs).wp hF (by simp[ho]) hk
    ·cases h
   ·cases h
  ·cases hc
 |nilCheck x=>
  rw[ho] at hc
  simp only[cOp,Wi] at hc
  obtain⟨y,hy,rfl⟩:=hc
  simp only[qaE] at h
  split at h
  ·rename_i l k hu; cases h
   exact (qkN hr ho (qae hid hr hf hy hu) (.inl ⟨_,_,rfl⟩)).wp hF (by simp[ho]) hk
  ·rename_i l k hu; cases h
   exact (qkN hr ho (qae hid hr hf hy hu) (.inr (.inl ⟨_,_,rfl⟩))).wp hF (by simp[ho]) hk
  ·rename_i l n k hu; cases h
   exact (qkN hr ho (qae hid hr hf hy hu) (.inr (.inr ⟨_,_,_,rfl⟩))).wp hF (by simp[ho]) hk
  ·rename_i g l k hu; cases h
   exact (qqU hr hid.mt ho (qae hid hr hf hy hu)).wp hF (by simp[ho]) hk
  ·cases h
 |binOp op t x y t'=>
  rw[ho] at hc
  simp only[cOp] at hc
  split at hc
  ·rename_i ht
   simp only[Wi] at hc
   obtain⟨x',h1,rfl⟩:=hc
   simp only[qaE] at h
   split at h
   ·rename_i u hu
    split at h
    ·rename_i b hb; cases h
     exact (qkM hr false false rfl ho rfl (.inl ⟨rfl,rfl,_,ht⟩) (qae hid hr hf h1 hu) hb).wp hF (by simp[ho]) hk
    ·cases h
   ·cases h
  ·rename_i ht
   simp only[Wi] at hc
   obtain⟨x',h1,rfl⟩:=hc
   simp only[qaE] at h
   split at h
   ·rename_i u hu
    split at h
    ·rename_i b hb; cases h
     exact (qkM hr false true rfl ho rfl (.inl ⟨rfl,rfl,_,ht⟩) (qae hid hr hf h1 hu) hb).wp hF (by simp[ho]) hk
    ·cases h
   ·cases h
  ·rename_i ht
   simp only[Wi] at hc
   obtain⟨x',h1,rfl⟩:=hc
   simp only[qaE] at h
   split at h
   ·rename_i u hu
    split at h
    ·rename_i b hb; cases h
     exact (qkM hr true false rfl ho rfl (.inr ⟨rfl,rfl,_,ht⟩) (qae hid hr hf h1 hu) hb).wp hF (by simp[ho]) hk
    ·cases h
   ·cases h
  ·rename_i ht
   simp only[Wi] at hc
   obtain⟨x',h1,rfl⟩:=hc
   simp only[qaE] at h
   split at h
   ·rename_i u hu
    split at h
    ·rename_i b hb; cases h
     exact (qkM hr true true rfl ho rfl (.inr ⟨rfl,rfl,_,ht⟩) (qae hid hr hf h1 hu) hb).wp hF (by simp[ho]) hk
    ·cases h
   ·cases h
  ·rename_i ht
   simp only[Wi] at hc
   obtain⟨x',h1,rfl⟩:=hc
   simp only[qaE] at h
   split at h
   ·rename_i u hu
    split at h
    ·rename_i b hb; cases h
     exact (qnX hr false rfl ho rfl ht (qae hid hr hf h1 hu) hb).wp hF (by simp[ho]) hk
    ·cases h
   ·cases h
  ·rename_i ht
   simp only[Wi] at hc
   obtain⟨x',h1,rfl⟩:=hc
   simp only[qaE] at h
   split at h
   ·rename_i u hu
    split at h
    ·rename_i b hb; cases h
     exact (qnX hr true rfl ho rfl ht (qae hid hr hf h1 hu) hb).wp hF (by simp[ho]) hk
    ·cases h
   ·cases h
  ·split at hc
   ·rename_i x' y' h1 h2
    split at hc
    ·have ht:P.underlying t=some .bool:=by assumption
     cases hc
     simp only[qaE] at h
     split at h
     ·rename_i A B hA hB
      cases h
      exact (qzL hr false rfl ho ht (qae hid hr hf h1 hA) (qae hid hr hf h2 hB)).wp hF (by simp[ho]) hk
     ·cases h
    ·have ht:P.underlying t=some .bool:=by assumption
     cases hc
     simp only[qaE] at h
     split at h
     ·rename_i A B hA hB
      cases h
      exact (qzL hr true rfl ho ht (qae hid hr hf h1 hA) (qae hid hr hf h2 hB)).wp hF (by simp[ho]) hk
     ·cases h
    ·have ht:qaJ P t=some true:=by
      have : ∃ f,P.underlying t=some (.struct f):=⟨_,by assumption⟩
      obtain⟨f,e⟩:=this
      simp[qaJ,e]
     simp only[Wi] at hc
     obtain⟨ks,hks,rfl⟩:=hc
     simp only[qaE] at h
     split at h
     ·rename_i A B hA hB
      split at h
      ·rename_i r hr'; cases h
       exact (qrX hr false rfl ho ht hks (qae hid hr hf h1 hA) (qae hid hr hf h2 hB) hr').wp hF (by simp[ho]) hk
      ·cases h
     ·cases h
    ·have ht:qaJ P t=some true:=by
      have : ∃ f,P.underlying t=some (.struct f):=⟨_,by assumption⟩
      obtain⟨f,e⟩:=this
      simp[qaJ,e]
     simp only[Wi] at hc
     obtain⟨ks,hks,rfl⟩:=hc
     simp only[qaE] at h
     split at h
     ·rename_i A B hA hB
      split at h
      ·rename_i r hr'; cases h
       exact (qrX hr true rfl ho ht hks (qae hid hr hf h1 hA) (qae hid hr hf h2 hB) hr').wp hF (by simp[ho]) hk
      ·cases h
     ·cases h
    ·have ht:qaJ P t=some true:=by
      have : ∃ n f,P.underlying t=some (.array n f):=⟨_,_,by assumption⟩
      obtain⟨n,f,e⟩:=this
      simp[qaJ,e]
     simp only[Wi] at hc
     obtain⟨ks,hks,rfl⟩:=hc
     simp only[qaE] at h
     split at h
     ·rename_i A B hA hB
      split at h
      ·rename_i r hr'; cases h
       exact (qrX hr false rfl ho ht hks (qae hid hr hf h1 hA) (qae hid hr hf h2 hB) hr').wp hF (by simp[ho]) hk
      ·cases h
     ·cases h
    ·have ht:qaJ P t=some true:=by
      have : ∃ n f,P.underlying t=some (.array n f):=⟨_,_,by assumption⟩
      obtain⟨n,f,e⟩:=this
      simp[qaJ,e]
     simp only[Wi] at hc
     obtain⟨ks,hks,rfl⟩:=hc
     simp only[qaE] at h
     split at h
     ·rename_i A B hA hB
      split at h
      ·rename_i r hr'; cases h
       exact (qrX hr true rfl ho ht hks (qae hid hr hf h1 hA) (qae hid hr hf h2 hB) hr').wp hF (by simp[ho]) hk
      ·cases h
     ·cases h
    ·have ht : ∃ e',P.underlying t=some (.pointer e')/\(if qaF P e'=none\/qaF P e'=some 0 then none else some (O.peq false x' y'))=some op:=⟨_,by assumption,hc⟩
     obtain⟨e',ht,hc⟩:=ht
     split at hc
     ·cases hc
     ·rename_i hz
      cases hc
      simp only[qaE] at h
      split at h
      ·rename_i l1 o1 l2 o2 hA hB
       split at h
       ·rename_i hlo
        obtain⟨rfl,rfl⟩:=hlo
        cases h
        cases hn:qaF P e' with
        |none=>exact absurd (.inl hn) hz
        |some n=>exact (qyJ hr false rfl ho ht hn (fun h0=>hz (.inr (by rw[hn,h0]))) (qae hid hr hf h1 hA) (qae hid hr hf h2 hB)).wp hF (by simp[ho]) hk
       ·cases h
      ·cases h
    ·have ht : ∃ e',P.underlying t=some (.pointer e')/\(if qaF P e'=none\/qaF P e'=some 0 then none else some (O.peq true x' y'))=some op:=⟨_,by assumption,hc⟩
     obtain⟨e',ht,hc⟩:=ht
     split at hc
     ·cases hc
     ·rename_i hz
      cases hc
      simp only[qaE] at h
      split at h
      ·rename_i l1 o1 l2 o2 hA hB
       split at h
       ·rename_i hlo
        obtain⟨rfl,rfl⟩:=hlo
        cases h
        cases hn:qaF P e' with
        |none=>exact absurd (.inl hn) hz
        |some n=>exact (qyJ hr true rfl ho ht hn (fun h0=>hz (.inr (by rw[hn,h0]))) (qae hid hr hf h1 hA) (qae hid hr hf h2 hB)).wp hF (by simp[ho]) hk
       ·cases h
      ·cases h
    ·cases hc
     simp only[qaE] at h
     split at h
     ·rename_i A B hA hB
      split at h
      ·rename_i r hr'; cases h
       exact (qB0 hr ho (qae hid hr hf h1 hA) (qae hid hr hf h2 hB) hr').wp hF (by simp[ho]) hk
      ·cases h
     ·cases h
   ·cases hc
 |unOp op t x=>
  rw[ho] at hc
  simp only[cOp,Wi] at hc
  obtain⟨y,hy,rfl⟩:=hc
  simp only[qaE] at h
  split at h
  ·rename_i A hA
   split at h
   ·rename_i r hr'; cases h
    exact (qC0 hr ho (qae hid hr hf hy hA) hr').wp hF (by simp[ho]) hk
   ·cases h
  ·cases h
 |convert s t x=>
  rw[ho] at hc
  simp only[cOp] at hc
  split at hc
  ·rename_i d k y h1 h2 h3
   cases hc
   simp only[qaE] at h
   split at h
   ·rename_i A hA
    split at h
    ·rename_i r hr'; cases h
     exact (qqT hr ho (qae hid hr hf h3 hA) h1 (.inl ⟨_,rfl,h2⟩) hr').wp hF (by simp[ho]) hk
    ·cases h
   ·cases h
  ·rename_i k y h1 h2 h3
   cases hc
   simp only[qaE] at h
   split at h
   ·rename_i A hA
    split at h
    ·rename_i r hr'; cases h
     exact (qqT hr ho (qae hid hr hf h3 hA) h1 (.inr (.inl ⟨rfl,h2⟩)) hr').wp hF (by simp[ho]) hk
    ·cases h
   ·cases h
  ·rename_i y h1 h2 h3
   cases hc
   simp only[qaE] at h
   split at h
   ·rename_i A hA
    split at h
    ·rename_i r hr'; cases h
     exact (qqT hr ho (qae hid hr hf h3 hA) h1 (.inr (.inr ⟨rfl,h2⟩)) hr').wp hF (by simp[ho]) hk
    ·cases h
   ·cases h
  ·rename_i e y h1 h2 h3
   split at hc
   ·rename_i he hb
    cases hc
    simp only[qaE] at h
    split at h
    ·rename_i A hA
     split at h
     ·cases h
      exact (qwK hr ho (qae hid hr hf h3 hA) h1 h2 he).wp hF (by simp[ho]) hk
     ·cases h
    ·cases h
   ·cases hc
  ·rename_i e y h1 h2 h3
   split at hc
   ·rename_i he
    cases hc
    simp only[qaE] at h
    split at h
    ·rename_i A hA
     split at h
     ·rename_i u hu
      cases h
      exact (qyG hr ho (qae hid hr hf h3 hA) h1 he h2 hu).wp hF (by simp[ho]) hk
     ·cases h
    ·cases h
   ·cases hc
  ·rename_i e y h1 h2 h3
   split at hc
   ·cases hc
   ·rename_i hz
    cases hc
    simp only[qaE] at h
    split at h
    ·rename_i l off hA
     split at h
     ·rename_i k cs hcs
      split at h
      ·rename_i hlt
       cases h
       cases hn:qaF P e with
       |none=>exact absurd (.inl hn) hz
       |some n=>exact (qCU hr ho h1 h2 hn (fun h0=>hz (.inr (by rw[hn,h0]))) (qae hid hr hf h3 hA) hcs hlt).wp hF (by simp[ho]) hk
      ·cases h
     ·cases h
    ·cases h
  ·rename_i e y h1 h2 h3
   split at hc
   ·cases hc
   ·rename_i hz
    cases hc
    simp only[qaE] at h
    split at h
    ·rename_i l hA
     split at h
     ·rename_i k cs hcs
      split at h
      ·rename_i hlt
       cases h
       cases hn:qaF P e with
       |none=>exact absurd (.inl hn) hz
       |some n=>exact (qyI hid hr ho h1 h2 hn (qae hid hr hf h3 hA) hcs hlt).wp hF (by simp[ho]) hk
      ·cases h
     ·cases h
    ·cases h
  ·cases hc
 |fieldAddr s x f=>
  rw[ho] at hc
  simp only[cOp] at hc
  split at hc
  ·rename_i fields y h1 h2
   split at hc
   ·rename_i fd hfd
    split at hc
    ·cases hc
    ·rename_i h0
     simp only[Wi] at hc
     obtain⟨n,hn,rfl⟩:=hc
     simp only[qaE] at h
     split at h
     ·rename_i p hp
      split at h
      ·rename_i u hu; cases h
       exact (qmQ hr ho (qae hid hr hf h2 hp) h1 hfd hn (fun e=>h0 (by rw[hn,e])) hu).wp hF (by simp[ho]) hk
      ·cases h
     ·cases h
   ·cases hc
  ·cases hc
 |field t x f=>
  rw[ho] at hc
  simp only[cOp] at hc
  split at hc
  ·rename_i fields y h1 h2
   split at hc
   ·rename_i fd hfd
    split at hc
    ·rename_i n k1 k2
     cases hc
     simp only[qaE] at h
     split at h
     ·rename_i p hp
      split at h
      ·rename_i cs hcs
       split at h
       ·rename_i vs hvs
        split at h
        ·rename_i u hu; cases h
         exact (qqV hr ho (qae hid hr hf h2 hp) h1 hfd (.inl ⟨rfl,k1,k2⟩) hcs hvs hu).wp hF (by simp[ho]) hk
        ·cases h
       ·cases h
      ·cases h
     ·cases h
    ·rename_i k1
     cases hc
     simp only[qaE] at h
     split at h
     ·rename_i p hp
      split at h
      ·rename_i cs hcs
       split at h
       ·rename_i vs hvs
        split at h
        ·rename_i u hu; cases h
         exact (qqV hr ho (qae hid hr hf h2 hp) h1 hfd (.inr ⟨rfl,k1,rfl⟩) hcs hvs hu).wp hF (by simp[ho]) hk
        ·cases h
       ·cases h
      ·cases h
     ·cases h
    ·cases hc
   ·cases hc
  ·cases hc
 |indexAddr t x i=>
  rw[ho] at hc
  simp only[cOp] at hc
  split at hc
  ·rename_i e y j h1 h2 h3
   simp only[Wi] at hc
   obtain⟨n,hn,rfl⟩:=hc
   simp only[qaE] at h
   split at h
   ·rename_i s k m hs hm
    split at h
    ·rename_i u hu; cases h
     exact (qmR hr ho (qae hid hr hf h2 hs) (qae hid hr hf h3 hm) h1 hn hu).wp hF (by simp[ho]) hk
    ·cases h
   ·cases h
  ·rename_i len e y j h1 h2 h3
   simp only[Wi] at hc
   obtain⟨n,hn,rfl⟩:=hc
   simp only[qaE] at h
   split at h
   ·rename_i s k m hs hm
    split at h
    ·rename_i hj
     split at h
     ·rename_i u hu; cases h
      exact (qlP hr ho (qae hid hr hf h2 hs) (qae hid hr hf h3 hm) h1 hn hj hu).wp hF (by simp[ho]) hk
     ·cases h
    ·cases h
   ·cases h
  ·cases hc
 |index t x i=>
  rw[ho] at hc
  simp only[cOp] at hc
  split at hc
  ·rename_i len e y j h1 h2 h3
   split at hc
   ·rename_i n k1 k2
    cases hc
    simp only[qaE] at h
    split at h
    ·rename_i s k m hs hm
     split at h
     ·rename_i hj
      split at h
      ·rename_i cs hcs
       split at h
       ·rename_i vs hvs
        split at h
        ·rename_i u hu; cases h
         exact (qnZ hr ho (qae hid hr hf h2 hs) (qae hid hr hf h3 hm) h1 (.inl ⟨rfl,k1,k2⟩) hj hcs hvs hu).wp hF (by simp[ho]) hk
        ·cases h
       ·cases h
      ·cases h
     ·cases h
    ·cases h
   ·rename_i n k1 k2
    split at hc
    ·rename_i hn1
     subst hn1
     cases hc
     simp only[qaE] at h
     split at h
     ·rename_i s k m hs hm
      split at h
      ·rename_i hj
       split at h
       ·rename_i cs hcs
        split at h
        ·rename_i vs hvs
         split at h
         ·rename_i u hu; cases h
          exact (qnZ hr ho (qae hid hr hf h2 hs) (qae hid hr hf h3 hm) h1 (.inr ⟨rfl,k1,rfl,k2⟩) hj hcs hvs hu).wp hF (by simp[ho]) hk
         ·cases h
        ·cases h
       ·cases h
      ·cases h
     ·cases h
    ·cases hc
   ·cases hc
  ·rename_i y j h1 h2 h3
   cases hc
   simp only[qaE] at h
   split at h
   ·rename_i s k m hs hm
    split at h
    ·rename_i hj
     split at h
     ·rename_i u hu; cases h
      exact (qtd hr ho (qae hid hr hf h2 hs) (qae hid hr hf h3 hm) h1 hj hu).wp hF (by simp[ho]) hk
     ·cases h
    ·cases h
   ·cases h
  ·cases hc
 |slice t x lo hi mx=>
  rw[ho] at hc
  simp only[cOp] at hc
  split at hc
  ·rename_i e y l u h1 h2 h3 h4
   simp only[Wi] at hc
   obtain⟨n,hn,rfl⟩:=hc
   split at h
   ·simp only[qaE] at h
    split at h
    ·rename_i p l' u' hp hl hu
     exact (qB4 hr ho (qae hid hr hf h2 hp) h1 hn (qbZ hid hr hf h3 hl) (qbZ hid hr hf h4 hu) h).wp hF (by simp[ho]) hk
    ·cases h
   ·simp only[qaE] at h
    split at h
    ·rename_i p l' u' hp hl hu
     split at h
     ·rename_i r hr'; cases h
      exact (c_slice hr ho (qae hid hr hf h2 hp) h1 hn (qbZ hid hr hf h3 hl) (qbZ hid hr hf h4 hu) hr').wp hF (by simp[ho]) hk
     ·cases h
    ·cases h
  ·rename_i y l u h1 h2 h3 h4
   cases hc
   simp only[qaE] at h
   split at h
   ·rename_i p l' u' hp hl hu
    split at h
    ·rename_i r hr'; cases h
     exact (qte hr ho (qae hid hr hf h2 hp) h1 (qbZ hid hr hf h3 hl) (qbZ hid hr hf h4 hu) hr').wp hF (by simp[ho]) hk
    ·cases h
   ·cases h
  ·rename_i len e y l u h1 h2 h3 h4
   simp only[Wi] at hc
   obtain⟨n,hn,rfl⟩:=hc
   simp only[qaE] at h
   split at h
   ·rename_i p l' u' hp hl hu
    split at h
    ·rename_i r hr'; cases h
     exact (qsi hr ho (qae hid hr hf h2 hp) h1 hn (qbZ hid hr hf h3 hl) (qbZ hid hr hf h4 hu) hr').wp hF (by simp[ho]) hk
    ·cases h
   ·cases h
  ·cases hc
 |makeMap t r=>
  rw[ho] at hc
  simp only[cOp] at hc
  split at hc
  ·cases hc
   simp only[qaE,Wh,WH] at h
   obtain⟨rfl,rfl⟩:=h
   exact (qu7 hr ho).wp hF (by simp[ho]) hk
  ·cases hc
 |mapUpdate t m k x=>
  rw[ho] at hc
  simp only[cOp] at hc
  split at hc
  ·rename_i kt e m' k' x' h1 h2 h3 h4
   simp only[Wi] at hc
   obtain⟨kd,hkd,rfl⟩:=hc
   simp only[qaE] at h
   split at h
   ·rename_i l key u hm hkey hu
    split at h
    ·rename_i es hes
     split at h
     ·split at h
      ·rename_i es' hes'; cases h
       exact (qnF hr (.inl ho) h1 hkd (qae hid hr hf h2 hm) (qae hid hr hf h3 hkey) (qae hid hr hf h4 hu) hes hes').wp hF (by simp[ho]) hk
      ·cases h
     ·cases h
    ·cases h
   ·cases h
  ·cases hc
 |insert t m k x=>
  rw[ho] at hc
  simp only[cOp] at hc
  split at hc
  ·rename_i kt e m' k' x' h1 h2 h3 h4
   simp only[Wi] at hc
   obtain⟨kd,hkd,rfl⟩:=hc
   simp only[qaE] at h
   split at h
   ·rename_i l key u hm hkey hu
    split at h
    ·rename_i es hes
     split at h
     ·split at h
      ·rename_i es' hes'; cases h
       exact (qnF hr (.inr ho) h1 hkd (qae hid hr hf h2 hm) (qae hid hr hf h3 hkey) (qae hid hr hf h4 hu) hes hes').wp hF (by simp[ho]) hk
      ·cases h
     ·cases h
    ·cases h
   ·cases h
  ·cases hc
 |lookup t m k ok=>
  rw[ho] at hc
  simp only[cOp] at hc
  split at hc
  ·rename_i kt e m' k' h1 h2 h3
   split at hc
   ·rename_i kd z hkd hz
    cases hc
    simp only[qaE] at h
    split at h
    ·rename_i l key hm hkey
     split at h
     ·rename_i es hes
      split at h
      ·split at h
       ·rename_i u hu; cases h
        exact (qnE hr ho h1 hkd hz (qae hid hr hf h2 hm) (qae hid hr hf h3 hkey) hes hu).wp hF (by simp[ho]) hk
       ·rename_i hu; cases h
        exact (qnE hr ho h1 hkd hz (qae hid hr hf h2 hm) (qae hid hr hf h3 hkey) hes hu).wp hF (by simp[ho]) hk
       ·cases h
      ·cases h
     ·cases h
    ·cases h
   ·cases hc
  ·cases hc
 |makeFunc fn x y=>
  rw[ho] at hc
  cases fn with
  |func f=>
   simp only[cOp] at hc
   split at hc
   ·rename_i g as bs h1 h2 h3
    cases hc
    simp only[qaE] at h
    split at h
    ·rename_i us ws hu hw; cases h
     exact (qzO hr ho (hid.fn f g h1) (qbm hid hr hf h2 hu) (qbm hid hr hf h3 hw)).wp hF (by simp[ho]) hk
    ·cases h
   ·cases hc
  |method name=>
   simp only[cOp] at hc
   split at hc
   ·rename_i x1 hxs hys
    simp only[Wi] at hc
    obtain⟨y1,h1,rfl⟩:=hc
    simp only[qaE] at h
    split at h
    ·rename_i t v vs' hv
     split at h
     ·rename_i g hg
      cases h
      have e1:x = #[x1]:=by apply WN; simpa using hxs
      have e2:y = #[]:=by apply WN; simpa using hys
      obtain⟨fn,hm,hi⟩:=qbY hid hg
      exact (qtc hr (by rw[e2] at ho; exact ho) e1 (qae hid hr hf h1 hv) ((hid.mt _ _ _).2 ⟨fn,hm,hi⟩)).wp hF (by simp[ho]) hk
     ·cases h
    ·cases h
   ·cases hc
  |_=>simp[cOp] at hc
 |extract x i=>
  rw[ho] at hc
  simp only[cOp,Wi] at hc
  obtain⟨y,hy,rfl⟩:=hc
  simp only[qaE] at h
  split at h
  ·rename_i vs hvs
   split at h
   ·rename_i u hu; cases h
    exact (qqW hr ho (qae hid hr hf hy hvs) hu).wp hF (by simp[ho]) hk
   ·cases h
  ·cases h
 |call c=>
  rw[ho] at hc
  simp only[cOp,qpy] at hc
  split at hc
  ·rename_i f hcal
   split at hc
   ·rename_i g xs h1 h2
    cases hc
    simp only[qaE] at h
    split at h
    ·rename_i vs hvs
     have hargs:=qbm hid hr hf h2 hvs
     obtain⟨k1,k2⟩:=qda (pre:=[]) (post:=[]) (xs:=[]) (zs:=[]) hC hr rfl hargs rfl (by simpa using h)
     rw[hid.fn f g h1] at k1 k2
     simp only[Wc,Wl] at k2
     refine qkm (by simp[ho]) ?_ k2 hk
     simp only[execOp,ho,resolve,hcal,Act.eval,Deferred.ofValue,Sem.run_bind,Sem.run_pure,Result.andThen_ok,invoke]
     rw[qa7 k1]
     simp
     apply WN; simp
    ·cases h
   ·rename_i xs h1 h2
    split at hc
    ·rename_i y he
     cases hc
     simp only[qaE] at h
     split at h
     ·rename_i u hu
      cases h
      obtain⟨p,q1,q2⟩:=qCz h2
      exact (qyM hr ho hcal he q1 rfl (qae hid hr hf q2 hu)).wp hF (by simp[ho]) hk
     ·cases h
    ·rename_i y z he
     cases hc
     simp only[qaE] at h
     split at h
     ·rename_i s n hs hn
      cases h
      obtain⟨p,q,q1,q2,q3⟩:=qCV h2
      exact (qBq hr ho hcal he q1 rfl (qae hid hr hf q2 hs) (qae hid hr hf q3 hn)).wp hF (by simp[ho]) hk
     ·cases h
    ·cases hc
   ·cases hc
  ·rename_i x hx hcal
   split at hc
   ·rename_i g xs h1 h2
    cases hc
    simp only[qaE] at h
    split at h
    ·rename_i id as bs vs hfn hvs
     have hargs:=qbm hid hr hf h2 hvs
     have hfv:=qae hid hr hf h1 hfn
     simp only[Rep] at hfv
     obtain⟨as',bs',e1,e2,e3⟩:=hfv
     obtain⟨k1,k2⟩:=qda hC hr e2 hargs e3 h
     refine qkm (by simp[ho]) ?_ k2 hk
     simp only[execOp,ho,resolve,hcal,e1,Deferred.ofValue,Sem.run_bind,Sem.run_pure,Result.andThen_ok,invoke]
     rw[qa7 k1]
     simp
    ·rename_i g' v' vs hfn hvs
     have hargs:=qbm hid hr hf h2 hvs
     have hfv:=qae hid hr hf h1 hfn
     simp only[Rep] at hfv
     obtain⟨t,nm,y,e1,e2,e3⟩:=hfv
     obtain⟨fn,hm,hi⟩:=(hid.mt _ _ _).1 e2
     have hall:Reps fid Γ (v'::vs) (y::c.args.toList.map a.eval):=by simp only[Reps]; exact⟨_,_,rfl,e3,hargs⟩
     obtain⟨k1,k2⟩:=qda (pre:=[]) (post:=[]) (xs:=[]) (zs:=[]) hC hr rfl hall rfl (by simpa using h)
     rw[hid.fn fn g' hi] at k1 k2
     simp only[Wc,Wl] at k2
     refine qkm (by simp[ho]) ?_ k2 hk
     simp only[execOp,ho,resolve,hcal,e1,Deferred.ofValue,Sem.run_bind,Sem.run_pure,Result.andThen_ok,invoke]
     have q0:(#[Value.iface t y]++Array.map a.eval c.args)[0]?=some (.iface t y):=by
      rw[W8 (by show 0<1; omega)]; rfl
     have q1:(#[Value.iface t y]++Array.map a.eval c.args).extract 1 (#[Value.iface t y]++Array.map a.eval c.args).size=Array.map a.eval c.args:=by
      apply WN; simp; try exact Wy (by simp)
     simp only[q0,q1]
     rw[qge hm,qa7 k1]
     try simp
     try (apply WN; simp)
    ·rename_i l vs hfn hvs
     have hargs:=qbm hid hr hf h2 hvs
     have hfv:=qae hid hr hf h1 hfn
     obtain⟨b,ys,fn,tmps,as,bd,q1,q2,q3⟩:=qkl hC hr (args := .yld l::vs) (xs:=a.eval x::c.args.toList.map a.eval) ⟨_,_,rfl,hfv,hargs⟩ h
     simp only[WI] at q1
     obtain⟨q0,rfl⟩:=q1
     refine qrW (by simp[ho]) ?_ q3 hk
     simp only[execOp,ho,resolve,hcal,q0,Deferred.ofValue,Sem.run_bind,Sem.run_pure,Result.andThen_ok,invoke]
     have e:(List.map a.eval c.args.toList).toArray=Array.map a.eval c.args:=by apply WN; simp
     rw[e] at q2
     simpa using q2
    ·cases h
   ·cases hc
  ·rename_i recv name hcal
   split at hc
   ·rename_i x xs h1 h2
    cases hc
    simp only[qaE] at h
    split at h
    ·rename_i t v vs hv hvs
     split at h
     ·rename_i g hg
      have hargs:=qbm hid hr hf h2 hvs
      have hfv:=qae hid hr hf h1 hv
      simp only[Rep] at hfv
      obtain⟨y,e1,e2⟩:=hfv
      obtain⟨fn,hm,hi⟩:=qbY hid hg
      have hall:Reps fid Γ (v::vs) (y::c.args.toList.map a.eval):=by simp only[Reps]; exact⟨_,_,rfl,e2,hargs⟩
      obtain⟨k1,k2⟩:=qda (pre:=[]) (post:=[]) (xs:=[]) (zs:=[]) hC hr rfl hall rfl (by simpa using h)
      rw[hid.fn fn g hi] at k1 k2
      simp only[Wc,Wl] at k2
      refine qkm (by simp[ho]) ?_ k2 hk
      simp only[execOp,ho,resolve,hcal,e1,Sem.run_bind,Sem.run_pure,Result.andThen_ok,invoke]
      have q0:(#[Value.iface (fid.ty t) y]++Array.map a.eval c.args)[0]?=some (.iface (fid.ty t) y):=by
       rw[W8 (by show 0<1; omega)]; rfl
      have q1:(#[Value.iface (fid.ty t) y]++Array.map a.eval c.args).extract 1 (#[Value.iface (fid.ty t) y]++Array.map a.eval c.args).size=Array.map a.eval c.args:=by
       apply WN; simp; try exact Wy (by simp)
      simp only[q0,q1]
      rw[qge hm,qa7 k1]
      try simp
      try (apply WN; simp)
     ·cases h
    ·cases h
   ·cases hc
  ·rename_i b hcal
   split at hc
   ·rename_i x t hxs hts
    split at hc
    ·rename_i y h1 h2
     cases hc
     simp only[qaE] at h
     split at h
     ·rename_i u hu
      split at h
      ·rename_i n hn; cases h
       exact (qwH hr ho hcal hxs hts (qae hid hr hf h2 hu) (.inl ⟨rfl,h1⟩) hn).wp hF (by simp[ho]) hk
      ·cases h
     ·cases h
    ·rename_i e y h1 h2
     cases hc
     simp only[qaE] at h
     split at h
     ·rename_i u hu
      split at h
      ·rename_i n hn; cases h
       exact (qwH hr ho hcal hxs hts (qae hid hr hf h2 hu) (.inr (.inl ⟨rfl,_,h1⟩)) hn).wp hF (by simp[ho]) hk
      ·cases h
     ·cases h
    ·rename_i e e' y h1 h2
     cases hc
     simp only[qaE] at h
     split at h
     ·rename_i u hu
      split at h
      ·rename_i n hn; cases h
       exact (qwH hr ho hcal hxs hts (qae hid hr hf h2 hu) (.inr (.inr ⟨rfl,_,_,h1⟩)) hn).wp hF (by simp[ho]) hk
      ·cases h
     ·cases h
    ·cases hc
   ·rename_i xs ts
    simp only[Wi] at hc
    obtain⟨ys,hys,rfl⟩:=hc
    simp only[qaE] at h
    split at h
    ·rename_i vs hvs
     split at h
     ·rename_i y ys' hl
      split at h
      ·rename_i r hr'; cases h
       exact (qB1 hr ho hcal (qbm hid hr hf hys hvs) hl hr').wp hF (by simp[ho]) hk
      ·cases h
     ·cases h
    ·cases h
   ·rename_i xs ts
    simp only[Wi] at hc
    obtain⟨ys,hys,rfl⟩:=hc
    simp only[qaE] at h
    split at h
    ·rename_i vs hvs
     split at h
     ·rename_i y ys' hl
      split at h
      ·rename_i r hr'; cases h
       exact (qB2 hr ho hcal (qbm hid hr hf hys hvs) hl hr').wp hF (by simp[ho]) hk
      ·cases h
     ·cases h
    ·cases h
   ·rename_i s x ts tx hxs hts
    split at hc
    ·rename_i e ex s' x' h1 h2 h3 h4
     split at hc
     ·rename_i n b z hn hb hz
      split at hc
      ·rename_i hzn
       cases hc
       split at h
       ·split at h
        ·rename_i k hty
         simp only[qaE] at h
         split at h
         ·rename_i p q hp hq
          exact (qlt hr ho hcal hxs hts h1 (.inl ⟨_,h2⟩) hn hb hz hzn (hid.ty _ _ hty) (qae hid hr hf h3 hp) (qae hid hr hf h4 hq) h).wp hF (by simp[ho]) hk
         ·cases h
        ·simp only[qaE] at h
         split at h
         ·rename_i p q hp hq
          exact (qlR hr ho hcal hxs hts h1 (.inl ⟨_,h2⟩) hn hb hz hzn (qae hid hr hf h3 hp) (qae hid hr hf h4 hq) h).wp hF (by simp[ho]) hk
         ·cases h
       ·simp only[qaE] at h
        split at h
        ·rename_i p q hp hq
         exact (qnv hr ho hcal hxs hts h1 (.inl ⟨_,h2⟩) hn hb hz hzn (qae hid hr hf h3 hp) (qae hid hr hf h4 hq) h).wp hF (by simp[ho]) hk
        ·cases h
      ·cases hc
     ·cases hc
    ·rename_i e s' x' h1 h2 h3 h4
     split at hc
     ·rename_i n b z hn hb hz
      split at hc
      ·rename_i hzn
       cases hc
       split at h
       ·split at h
        ·rename_i k hty
         simp only[qaE] at h
         split at h
         ·rename_i p q hp hq
          exact (qlt hr ho hcal hxs hts h1 (.inr h2) hn hb hz hzn (hid.ty _ _ hty) (qae hid hr hf h3 hp) (qae hid hr hf h4 hq) h).wp hF (by simp[ho]) hk
         ·cases h
        ·simp only[qaE] at h
         split at h
         ·rename_i p q hp hq
          exact (qlR hr ho hcal hxs hts h1 (.inr h2) hn hb hz hzn (qae hid hr hf h3 hp) (qae hid hr hf h4 hq) h).wp hF (by simp[ho]) hk
         ·cases h
       ·simp only[qaE] at h
        split at h
        ·rename_i p q hp hq
         exact (qnv hr ho hcal hxs hts h1 (.inr h2) hn hb hz hzn (qae hid hr hf h3 hp) (qae hid hr hf h4 hq) h).wp hF (by simp[ho]) hk
        ·cases h
      ·cases hc
     ·cases hc
    ·cases hc
   ·rename_i x ts hxs
    simp only[Wi] at hc
    obtain⟨y,hy,rfl⟩:=hc
    simp only[qaE] at h
    split at h
    ·rename_i hu
     cases h
     exact (qyK hr ho hcal hxs (qae hid hr hf hy hu) (.inl ⟨rfl,rfl⟩)).wp hF (by simp[ho]) hk
    ·rename_i l n sz hu
     split at h
     ·rename_i hc2
      obtain⟨hn0,rfl⟩:=hc2
      cases h
      exact (qyK hr ho hcal hxs (qae hid hr hf hy hu) (.inr ⟨l,n,rfl,hn0,rfl⟩)).wp hF (by simp[ho]) hk
     ·cases h
    ·cases h
   ·rename_i x n tx ty hxs hts
    split at hc
    ·rename_i e A B h1 h2 h3
     split at hc
     ·rename_i u hty hu8
      split at hc
      ·rename_i hcond
       cases hc
       simp only[qaE] at h
       split at h
       ·rename_i k kk hp hn
        split at h
        ·rename_i hk0
         subst hk0
         cases h
         exact (qvC hr ho hcal hxs hts (qae hid hr hf h2 hp) (qae hid hr hf h3 hn) rfl).wp hF (by simp[ho]) hk
        ·cases h
       ·rename_i l m off kk k hp hn
        split at h
        ·rename_i t cs hcs
         split at h
         ·rename_i hcond2
          split at h
          ·rename_i bs hbs
           cases h
           obtain⟨d1,d2,d3,d4,d5,d6⟩:=hcond2
           subst d2 d3 d5
           simp only[List.contains_cons,List.contains_nil,Bool.or_false,beq_iff_eq] at d1
           subst d1
           exact (qyL hr ho hcal hxs hts h1 hcond.2.1 (hid.ty _ _ hty) (qae hid hr hf h2 hp) (qae hid hr hf h3 hn) rfl hcs d4 d6 hbs).wp hF (by simp[ho]) hk
          ·cases h
         ·cases h
        ·cases h
       ·cases h
      ·cases hc
     ·cases hc
    ·cases hc
   ·cases hc
 |panic x=>
  rw[ho] at hc
  simp only[cOp,Wi] at hc
  obtain⟨y,hy,rfl⟩:=hc
  simp[qaE] at h
 |_=>rw[ho] at hc; simp[cOp] at hc
theorem qk9 (hid:Ties P ids fid) (hC:CSound P fid C) {op:O} (hc:cOp P ids N o.op=some op) (hr:Real fid Γ) (hf:FrRep fid Γ N fr a.tmps) (h:qbK C fr Γ.σ op=some (v,σ'))
  (hk : ∀ Γ' x,Γ'.σ = σ'->Real fid Γ'->Step Γ Γ'->Rep fid Γ' v x->Q (.panic [{ v:=x,recovered:=false }]) a Γ'.w):o.wpIn (FR ro) 0 P a Γ.w K Q:=by
 have other:op.calls=false->False:=fun hn=>by rw[qms hn] at h; cases h
 cases ho:o.op with
 |call c=>
  rw[ho] at hc
  simp only[cOp,qpy] at hc
  split at hc
  ·rename_i f hcal
   split at hc
   ·rename_i g xs h1 h2
    cases hc
    simp only[qbK] at h
    split at h
    ·rename_i vs hvs
     have hargs:=qbm hid hr hf h2 hvs
     obtain⟨k1,k2⟩:=qcK (pre:=[]) (post:=[]) (xs:=[]) (zs:=[]) hC hr rfl hargs rfl (by simpa using h)
     rw[hid.fn f g h1] at k1 k2
     simp only[Wc,Wl] at k2
     refine qh2 (by simp[ho]) ?_ k2 hk
     simp only[execOp,ho,resolve,hcal,Act.eval,Deferred.ofValue,Sem.run_bind,Sem.run_pure,Result.andThen_ok,invoke]
     rw[qa7 k1]
     simp
     apply WN; simp
    ·cases h
   ·exfalso
    split at hc
    ·cases hc; exact other rfl
    ·cases hc; exact other rfl
    ·cases hc
   ·cases hc
  ·rename_i x hx hcal
   split at hc
   ·rename_i g xs h1 h2
    cases hc
    simp only[qbK] at h
    split at h
    ·rename_i id as bs vs hfn hvs
     have hargs:=qbm hid hr hf h2 hvs
     have hfv:=qae hid hr hf h1 hfn
     simp only[Rep] at hfv
     obtain⟨as',bs',e1,e2,e3⟩:=hfv
     obtain⟨k1,k2⟩:=qcK hC hr e2 hargs e3 h
     refine qh2 (by simp[ho]) ?_ k2 hk
     simp only[execOp,ho,resolve,hcal,e1,Deferred.ofValue,Sem.run_bind,Sem.run_pure,Result.andThen_ok,invoke]
     rw[qa7 k1]
     simp
    ·rename_i g' v' vs hfn hvs
     have hargs:=qbm hid hr hf h2 hvs
     have hfv:=qae hid hr hf h1 hfn
     simp only[Rep] at hfv
     obtain⟨t,nm,y,e1,e2,e3⟩:=hfv
     obtain⟨fn,hm,hi⟩:=(hid.mt _ _ _).1 e2
     have hall:Reps fid Γ (v'::vs) (y::c.args.toList.map a.eval):=by simp only[Reps]; exact⟨_,_,rfl,e3,hargs⟩
     obtain⟨k1,k2⟩:=qcK (pre:=[]) (post:=[]) (xs:=[]) (zs:=[]) hC hr rfl hall rfl (by simpa using h)
     rw[hid.fn fn g' hi] at k1 k2
     simp only[Wc,Wl] at k2
     refine qh2 (by simp[ho]) ?_ k2 hk
     simp only[execOp,ho,resolve,hcal,e1,Deferred.ofValue,Sem.run_bind,Sem.run_pure,Result.andThen_ok,invoke]
     have q0:(#[Value.iface t y]++Array.map a.eval c.args)[0]?=some (.iface t y):=by
      rw[W8 (by show 0<1; omega)]; rfl
     have q1:(#[Value.iface t y]++Array.map a.eval c.args).extract 1 (#[Value.iface t y]++Array.map a.eval c.args).size=Array.map a.eval c.args:=by
      apply WN; simp; try exact Wy (by simp)
     simp only[q0,q1]
     rw[qge hm,qa7 k1]
     try simp
     try (apply WN; simp)
    ·cases h
   ·cases hc
  ·rename_i recv name hcal
   split at hc
   ·rename_i x xs h1 h2
    cases hc
    simp only[qbK] at h
    split at h
    ·rename_i t v vs hv hvs
     split at h
     ·rename_i g hg
      have hargs:=qbm hid hr hf h2 hvs
      have hfv:=qae hid hr hf h1 hv
      simp only[Rep] at hfv
      obtain⟨y,e1,e2⟩:=hfv
      obtain⟨fn,hm,hi⟩:=qbY hid hg
      have hall:Reps fid Γ (v::vs) (y::c.args.toList.map a.eval):=by simp only[Reps]; exact⟨_,_,rfl,e2,hargs⟩
      obtain⟨k1,k2⟩:=qcK (pre:=[]) (post:=[]) (xs:=[]) (zs:=[]) hC hr rfl hall rfl (by simpa using h)
      rw[hid.fn fn g hi] at k1 k2
      simp only[Wc,Wl] at k2
      refine qh2 (by simp[ho]) ?_ k2 hk
      simp only[execOp,ho,resolve,hcal,e1,Sem.run_bind,Sem.run_pure,Result.andThen_ok,invoke]
      have q0:(#[Value.iface (fid.ty t) y]++Array.map a.eval c.args)[0]?=some (.iface (fid.ty t) y):=by
       rw[W8 (by show 0<1; omega)]; rfl
      have q1:(#[Value.iface (fid.ty t) y]++Array.map a.eval c.args).extract 1 (#[Value.iface (fid.ty t) y]++Array.map a.eval c.args).size=Array.map a.eval c.args:=by
       apply WN; simp; try exact Wy (by simp)
      simp only[q0,q1]
      rw[qge hm,qa7 k1]
      try simp
      try (apply WN; simp)
     ·cases h
    ·cases h
   ·cases hc
  ·refine (other ?_).elim
   clear h other
   repeat' (first
    | (cases hc; done)
    | (cases hc; rfl)
    | (cases hc; split<;>rfl)
    | (simp only[Wi] at hc; obtain⟨_,_,rfl⟩:=hc; rfl)
    |split at hc)
 |panic x=>
  rw[ho] at hc
  simp only[cOp,Wi] at hc
  obtain⟨y,hy,rfl⟩:=hc
  simp only[qbK] at h
  split at h
  ·rename_i t u hu
   cases h
   have hv:=qae hid hr hf hy hu
   refine⟨fun f _=>trivial,?_⟩
   rw[Oper.semAt_eq _ _ _ (by simp[ho])]
   have hrun:(execOp a.eval o).run P Γ.w = .halt (.panic (a.eval x)) Γ.w:=by
    have hv':=hv
    simp only[Rep] at hv'
    obtain⟨w,e,_⟩:=hv'
    simp only[execOp,ho,Instr.panic,e]
    rfl
   rw[hrun]
   exact hk Γ _ rfl hr (.refl _) hv
  ·cases h
 |makeFunc fn x y=>
  refine (other ?_).elim
  clear h other
  rw[ho] at hc
  cases fn<;>simp only[cOp] at hc
  all_goals repeat' (first
   | (cases hc; done)
   | (cases hc; rfl)
   | (simp only[Wi] at hc; obtain⟨_,_,rfl⟩:=hc; rfl)
   |split at hc)
 |_=>
  refine (other ?_).elim
  clear h other
  rw[ho] at hc
  simp only[cOp] at hc
  repeat' (first
   | (cases hc; done)
   | (cases hc; rfl)
   | (simp only[Wi] at hc; obtain⟨_,_,rfl⟩:=hc; rfl)
   | (simp only[Wi] at hc; obtain⟨_,_,rfl⟩:=hc; split<;>rfl)
   |split at hc)
end
end
section
variable{P:Program}{ids:Ids}{fid:Fid}{N:Nat}
def qxV(D:Nat):Deferred:={ target := .collected D,args := #[] }
def MarkAt(Γ0 Γ : Ctx)(D:Nat):Prop := Γ0.w.heap.size<=D /\ Γ.w.heap[D]?=some (.deferred (some [])) /\ ∀ l,Γ.μ l≠some D
theorem MarkAt.step{Γ0 Γ Γ':Ctx}{D:Nat}(h:MarkAt Γ0 Γ D)(hs:Step Γ Γ'):MarkAt Γ0 Γ' D:=by
 obtain⟨h1,h2,h3⟩:=h
 have hlt:=qc5 h2
 refine⟨h1,by rw[(hs.frm.same D hlt h3).1]; exact h2,fun l hl=>?_⟩
 obtain⟨l',hl'⟩:=hs.frm.new l D hl hlt
 exact h3 l' hl'
inductive DI where
 |m (D:Nat)
 |c (v:V)
def DIRep(fid:Fid)(Γ0 Γ : Ctx):DI->Deferred->Prop
 |.m D,d=>d=qxV D/\MarkAt Γ0 Γ D
 |.c v,d => ∃ id as cap ys,v = .fn id as []/\d={ target := .fn (.func (fid id)) cap,args:=ys }/\Reps fid Γ as (ys.toList++cap.toList)
def DIReps(fid:Fid)(Γ0 Γ : Ctx):List DI->List Deferred->Prop
 |[],ds=>ds=[]
 |i::is,ds => ∃ d r,ds=d::r/\DIRep fid Γ0 Γ i d/\DIReps fid Γ0 Γ is r
def qc7:List DI->List Nat
 |[]=>[]
 |.m D::r=>D::qc7 r
 |.c _::r=>qc7 r
def qbP:List DI->List V
 |[]=>[]
 |.m _::r=>qbP r
 |.c v::r=>v::qbP r
theorem DIRep.step{Γ0 Γ Γ':Ctx}(hs:Step Γ Γ') : ∀ {i:DI} {d:Deferred},DIRep fid Γ0 Γ i d->DIRep fid Γ0 Γ' i d
 |.m D,d,h=>⟨h.1,h.2.step hs⟩
 |.c v,d,⟨id,as,cap,ys,h1,h2,h3⟩=>⟨id,as,cap,ys,h1,h2,Reps.ext hs.ext _ _ h3⟩
theorem DIReps.step{Γ0 Γ Γ':Ctx}(hs:Step Γ Γ') : ∀ {is:List DI} {ds:List Deferred},DIReps fid Γ0 Γ is ds->DIReps fid Γ0 Γ' is ds
 |[],ds,h=>h
 |i::is,ds,⟨d,r,h1,h2,h3⟩=>⟨d,r,h1,DIRep.step hs h2,DIReps.step hs h3⟩
def Marks(fid:Fid)(Γ0 Γ : Ctx)(ds0:List Deferred)(dl:List V)(ds:List Deferred):Prop:=
 ∃ (is:List DI) (ds':List Deferred),ds=ds'++ds0/\DIReps fid Γ0 Γ is ds'/\(qc7 is).Nodup/\qbP is=dl
theorem Marks.step{Γ0 Γ Γ':Ctx}{ds0 ds:List Deferred}{dl:List V}(h:Marks fid Γ0 Γ ds0 dl ds)(hs:Step Γ Γ'):Marks fid Γ0 Γ' ds0 dl ds:=by
 obtain⟨is,ds',h1,h2,h3,h4⟩:=h
 exact⟨is,ds',h1,h2.step hs,h3,h4⟩
theorem Marks.nil(Γ0 Γ : Ctx)(ds:List Deferred):Marks fid Γ0 Γ ds [] ds:=⟨[],[],rfl,rfl,List.nodup_nil,rfl⟩
theorem Marks.call {Γ0 Γ : Ctx} {ds0 ds:List Deferred} {dl:List V} (h:Marks fid Γ0 Γ ds0 dl ds) {id:Nat} {as:List V} {cap ys:Array Value} (hr:Reps fid Γ as (ys.toList++cap.toList)) :
  Marks fid Γ0 Γ ds0 (.fn id as []::dl) ({ target := .fn (.func (fid id)) cap,args:=ys }::ds):=by
 obtain⟨is,ds',h1,h2,h3,h4⟩:=h
 exact⟨.c (.fn id as [])::is,_::ds',by rw[h1]; rfl,⟨_,_,rfl,⟨id,as,cap,ys,rfl,rfl,hr⟩,h2⟩,h3,by simp[qbP,h4]⟩
structure At(fid:Fid)(N:Nat)(fl df:Bool)(Γ0:Ctx)(ds0:List Deferred)(fr:Fr)(Γ : Ctx)(a:Act):Prop where
 real:Real fid Γ
 step:Step Γ0 Γ
 marks:Marks fid Γ0 Γ ds0 fr.defs a.defers
 frame:FrRep fid Γ N fr a.tmps
 still:fl=true->a.defers=ds0
 nod:df=false->fr.get dkey=none
def qdc(i:I):Bool:=match i.op with
 |.defer _ _=>false
 |_=>true
theorem qsV{fr:Fr}{d:Option Nat}{v:V}(h : ∀ k,d=some k->k≠dkey):(fr.put d v).get dkey=fr.get dkey/\(fr.put d v).defs=fr.defs:=by
 have e:(fr.put d v).get dkey=fr.get dkey:=by
  cases d with
  |none=>rfl
  |some k=>simp only[Fr.put,Fr.get]; rw[if_neg (h k rfl)]
 exact⟨e,by simp only[Fr.defs,e]⟩
section
variable{C:Task->Option Res}{ro:Option Nat}{Q:Exit->Act->World->Prop}{ops:Array Oper}{un:Nat->List Nat}
theorem qb2 {Γ : Ctx} {fr:Fr} {a:Act} (hf:FrRep fid Γ N fr a.tmps) {o:Oper} {g:Option (Nat × Bool)} {b:Bool}
  (hg:(o.guard=none/\g=none) \/ ∃ i want d,o.guard=some (i,want)/\(ops[i]?).bind (·.dst)=some d/\d<N/\g=some (d,want)) (h:qaR fr g=some b) :
  Region.wanted o (yielded ops a.tmps)=b:=by
 rcases hg with ⟨h1,rfl⟩|⟨i,want,d,h1,h2,h3,rfl⟩
 ·simp only[qaR,Wh] at h
  subst h
  simp[Region.wanted,h1]
 ·simp only[qaR] at h
  have hget : ∀ v,fr.get d=some v -> ∃ x,a.tmps[d]?=some x/\Rep fid Γ v x:=fun v hv=>by
   have:=hf.2 d v h3 hv
   have hs:d<a.tmps.size:=by rw[hf.1]; exact h3
   refine⟨a.tmps[d],by simp[hs],?_⟩
   simpa [Array.getD,hs] using this
  simp only[Region.wanted,h1,yielded,h2,Option.bind_some]
  split at h
  ·rename_i c hc
   cases h
   obtain⟨x,hx,hr⟩:=hget _ hc
   rw[hx,(qat hr).1]
   cases c<;>cases want<;>rfl
  ·rename_i v hnb hc
   cases h
   obtain⟨x,hx,hr⟩:=hget _ hc
   rw[hx,(qat hr).1]
   cases v<;>first|rfl|exact absurd rfl (hnb _)
  ·cases h
theorem qch {draw:Bool} {j:Nat} {o:Oper} {i:I} (h:cI P ids N draw ops un j o=some i) :
  qA2 P ids N draw o=some i.op/\i.dst=o.dst/\(∀ d,o.dst=some d->d<N) /\
  ((o.guard=none/\i.guard=none) \/ ∃ k want d,o.guard=some (k,want)/\(ops[k]?).bind (·.dst)=some d/\d<N/\i.guard=some (d,want)):=by
 unfold cI at h
 split at h
 ·grind [qAg]
 ·cases h
theorem qiK{Γ : Ctx}:Rep fid Γ (.dat (.lit undef)) undef:=qef rfl
theorem qgz {j:Nat} {o:Oper} {l:List Oper} {is:List I} (h:cIs P ids N false ops un j (o::l)=some is) :
  ∃ i is',is=i::is'/\cIs P ids N false ops un (j+1) l=some is'/\(qma ids N o=some i\/cI P ids N false ops un j o=some i):=by
 simp only[cIs] at h
 split at h
 ·grind
 ·cases h
theorem qev{o:Oper}{i:I}(h:qma ids N o=some i) : ∃ c x f xs,o.op = .defer c/\o.dst=none/\o.guard=none/\c.callee = .value x/\cX ids N x=some f/\cXs ids N c.args.toList=some xs/\ids.df=true/\i=⟨some dkey,.defer f xs,none,[]⟩:=by grind [qma]
theorem At.put {fl:Bool} {Γ0 Γ Γ':Ctx} {ds0:List Deferred} {fr:Fr} {a:Act} {d:Option Nat} {v:V} {x:Value} (hat:At fid N fl ids.df Γ0 ds0 fr Γ a) (hN:2*N<=dkey) (hd : ∀ k,d=some k->k<N) (hr:Real fid Γ') (hs:Step Γ Γ') (hv:Rep fid Γ' v x) :
  At fid N fl ids.df Γ0 ds0 (fr.put d v) Γ' (a.put d x):=by
 have hpos:0<dkey:=by decide
 have hne : ∀ k,d=some k->k≠dkey:=fun k hk=>by have:=hd k hk; omega
 obtain⟨e1,e2⟩:=qsV (fr:=fr) (v:=v) hne
 have e3:(a.put d x).defers=a.defers:=by cases d<;>rfl
 exact⟨hr,hat.step.trans hs,by rw[e2,e3]; exact hat.marks.step hs,FrRep.put (hat.frame.ext hs.ext) hd hv,fun h=>by rw[e3]; exact hat.still h,fun h=>by rw[e1]; exact hat.nod h⟩
theorem qiL (hid:Ties P ids fid) (hN:2*N<=dkey) {o:Oper} {i:I} {fl:Bool} {Γ0 Γ : Ctx} {ds0:List Deferred} {fr:Fr} {a:Act} {v:V} {σ1:S} {K:Act->World->Prop} (hro:ro=none) (hi:qma ids N o=some i) (hat:At fid N fl ids.df Γ0 ds0 fr Γ a) (hfl:fl=false)
  (h:qaE C fr Γ.σ i.op=some (v,σ1)) (hk : ∀ a',σ1 = Γ.σ -> At fid N fl ids.df Γ0 ds0 (fr.put i.dst v) Γ a'->K a' Γ.w):o.wpIn (FR ro) 0 P a Γ.w K Q:=by
 obtain⟨c,x,f,xs,h1,h2,h3,h4,h5,h6,h7,rfl⟩:=qev hi
 simp only[qaE] at h
 split at h
 ·rename_i id as bs vs hf hvs
  cases h
  have hfv:=qae hid hat.real hat.frame h5 hf
  have hargs:=qbm hid hat.real hat.frame h6 hvs
  simp only[Rep] at hfv
  obtain⟨as',bs',e1,e2,e3⟩:=hfv
  refine⟨fun f _=>trivial,?_⟩
  subst hro
  have hrun:(o.semAt none a.eval).run P Γ.w = .ok (.defer { target := .fn (.func (fid id)) bs'.toArray,args:=as'.toArray++c.args.map a.eval }) Γ.w:=by
   rw[Oper.semAt_none]
   simp only[execOp,h1,resolve,h4,e1,Deferred.ofValue,Sem.run_bind,Sem.run_pure,Result.andThen_ok]
  have hrun':(o.semAt (FR none).round a.eval).run P Γ.w=_:=hrun
  rw[hrun']
  show K _ _
  rw[h2]
  have hreps:Reps fid Γ (as++vs++bs) ((as'.toArray++c.args.map a.eval).toList++bs'.toArray.toList):=by
   refine Reps_append.2 ⟨_,_,rfl,?_,by simpa using e3⟩
   have:(as'.toArray++c.args.map a.eval).toList=as'++c.args.toList.map a.eval:=by simp
   rw[this]
   exact Reps_append.2 ⟨_,_,rfl,e2,hargs⟩
  refine hk { a with defers:={ target := .fn (.func (fid id)) bs'.toArray,args:=as'.toArray++c.args.map a.eval }::a.defers } rfl ⟨hat.real,hat.step,?_,⟨hat.frame.1,fun t w ht hw=>?_⟩,fun h=>by (rw[hfl] at h; cases h),fun h=>by (rw[h7] at h; cases h)⟩
  ·have:(fr.put (some dkey) (.tup (.fn id (as++vs++bs) []::fr.defs))).defs = .fn id (as++vs++bs) []::fr.defs:=by simp[Fr.put,Fr.defs,Fr.get]
   rw[this]
   exact hat.marks.call hreps
  ·have hne:dkey≠t:=fun e=>by
    subst e
    have:0<dkey:=by decide
    omega
   simp only[Fr.put,Fr.get,if_neg hne] at hw
   exact hat.frame.2 t w ht hw
 ·cases h
theorem qkF (hid:Ties P ids fid) (hC:CSound P fid C) (hN:2*N<=dkey) {fl:Bool} (hro:ro.isSome=true->fl=true) {Γ0:Ctx} {ds0:List Deferred} {σ':S} {fr':Fr} : ∀ {l:List Oper} {j:Nat} {is:List I} {fr:Fr} {Γ : Ctx} {a:Act},
  (∀ k,l[k]?=ops[j+k]?)->cIs P ids N false ops un j l=some is->(fl=true->is.all qdc=true)->At fid N fl ids.df Γ0 ds0 fr Γ a->qeF C is fr Γ.σ = some (fr',σ') ->
  (∀ Γ' a',Γ'.σ = σ'->At fid N fl ids.df Γ0 ds0 fr' Γ' a'->Q .normal a' Γ'.w) ->
  wpOpsIn (FR ro) 0 P ops Q (List.range' j l.length) a Γ.w
 |[],j,is,fr,Γ,a,hl,hc,hnd,hat,h,hk=>by
  simp only[cIs,Wh] at hc; subst hc
  simp only[qeF,Wh,WH] at h
  obtain⟨rfl,rfl⟩:=h
  simp only[Wk,List.range'_zero,wpOpsIn]
  exact hk Γ a rfl hat
 |o::l,j,is,fr,Γ,a,hl,hc,hnd,hat,h,hk=>by
  obtain⟨i,is',rfl,h2,h1⟩:=qgz hc
  have ho:ops[j]?=some o:=by have:=hl 0; simpa using this.symm
  have hl' : ∀ k,l[k]?=ops[j+1+k]?:=fun k=>by have:=hl (k+1); simpa [YH,YM 1 k] using this
  have hnd':fl=true->is'.all qdc=true:=fun e=>by have:=hnd e; simp only[List.all_cons,Wq] at this; exact this.2
  simp only[We,List.range'_succ,wpOpsIn,ho]
  simp only[qeF] at h
  rcases h1 with h1|h1
  ·obtain⟨c,x,f,xs,q1,q2,q3,q4,q5,q6,q7,q8⟩:=qev h1
   have hflf:fl=false:=by grind [qdc]
   have hro':ro=none:=by simp_all
   have hg:i.guard=none:=by rw[q8]
   have hw:Region.wanted o (yielded ops a.tmps)=true:=by simp[Region.wanted,q3]
   rw[hw]
   simp only[if_true]
   simp only[hg,qaR] at h
   split at h
   ·rename_i v σ1 hv
    refine qiL hid hN hro' h1 hat hflf hv fun a' e1 e2=>?_
    subst e1
    exact qkF hid hC hN hro hl' h2 hnd' e2 h hk
   ·cases h
  ·obtain⟨k1,k2,k3,k4⟩:=qch h1
   have k1':cOp P ids N o.op=some i.op:=k1
   split at h
   ·rename_i hw
    rw[qb2 (ops:=ops) hat.frame k4 hw]
    simp only[if_true]
    split at h
    ·rename_i v σ1 hv
     refine qkn hid hC k1' hat.real hat.frame hv fun Γ1 x e1 e2 e3 e4=>?_
     subst e1
     rw[k2] at h
     exact qkF hid hC hN hro hl' h2 hnd' (hat.put hN k3 e2 e3 e4) h hk
    ·cases h
   ·rename_i hw
    rw[qb2 (ops:=ops) hat.frame k4 hw]
    simp only[Wn,if_false]
    rw[k2] at h
    exact⟨fun f _=>trivial,qkF hid hC hN hro hl' h2 hnd' (hat.put hN k3 hat.real (.refl _) qiK) h hk⟩
   ·cases h
theorem qid (hid:Ties P ids fid) (hC:CSound P fid C) (hN:2*N<=dkey) {fl:Bool} (hro:ro.isSome=true->fl=true) {Γ0:Ctx} {ds0:List Deferred} {σ':S} {fr':Fr} {u:V} : ∀ {l:List Oper} {j:Nat} {is:List I} {fr:Fr} {Γ : Ctx} {a:Act},
  (∀ k,l[k]?=ops[j+k]?)->cIs P ids N false ops un j l=some is->(fl=true->is.all qdc=true)->At fid N fl ids.df Γ0 ds0 fr Γ a->qcv C is fr Γ.σ = some (u,fr',σ') ->
  (∀ Γ' a' x,Γ'.σ = σ'->At fid N fl ids.df Γ0 ds0 fr' Γ' a'->Rep fid Γ' u x->Q (.panic [{ v:=x,recovered:=false }]) a' Γ'.w) ->
  wpOpsIn (FR ro) 0 P ops Q (List.range' j l.length) a Γ.w
 |[],j,is,fr,Γ,a,hl,hc,hnd,hat,h,hk=>by simp_all [cIs,qcv]
 |o::l,j,is,fr,Γ,a,hl,hc,hnd,hat,h,hk=>by
  obtain⟨i,is',rfl,h2,h1⟩:=qgz hc
  have ho:ops[j]?=some o:=by have:=hl 0; simpa using this.symm
  have hl' : ∀ k,l[k]?=ops[j+1+k]?:=fun k=>by have:=hl (k+1); simpa [YH,YM 1 k] using this
  have hnd':fl=true->is'.all qdc=true:=fun e=>by have:=hnd e; simp only[List.all_cons,Wq] at this; exact this.2
  simp only[We,List.range'_succ,wpOpsIn,ho]
  simp only[qcv] at h
  rcases h1 with h1|h1
  ·obtain⟨c,x,f,xs,q1,q2,q3,q4,q5,q6,q7,q8⟩:=qev h1
   have hflf:fl=false:=by grind [qdc]
   have hro':ro=none:=by simp_all
   have hg:i.guard=none:=by rw[q8]
   have hw:Region.wanted o (yielded ops a.tmps)=true:=by simp[Region.wanted,q3]
   rw[hw]
   simp only[if_true]
   simp only[hg,qaR] at h
   split at h
   ·rename_i v σ1 hv
    refine qiL hid hN hro' h1 hat hflf hv fun a' e1 e2=>?_
    subst e1
    exact qid hid hC hN hro hl' h2 hnd' e2 h hk
   ·rw[q8] at h; simp[qbK] at h
  ·obtain⟨k1,k2,k3,k4⟩:=qch h1
   have k1':cOp P ids N o.op=some i.op:=k1
   split at h
   ·rename_i hw
    rw[qb2 (ops:=ops) hat.frame k4 hw]
    simp only[if_true]
    split at h
    ·rename_i v σ1 hv
     refine qkn hid hC k1' hat.real hat.frame hv fun Γ1 x e1 e2 e3 e4=>?_
     subst e1
     rw[k2] at h
     exact qid hid hC hN hro hl' h2 hnd' (hat.put hN k3 e2 e3 e4) h hk
    ·split at h
     ·rename_i v σ1 hv
      cases h
      refine qk9 hid hC k1' hat.real hat.frame hv fun Γ1 x e1 e2 e3 e4=>?_
      exact hk Γ1 a x e1 ⟨e2,hat.step.trans e3,hat.marks.step e3,hat.frame.ext e3.ext,hat.still,hat.nod⟩ e4
     ·cases h
   ·rename_i hw
    rw[qb2 (ops:=ops) hat.frame k4 hw]
    simp only[Wn,if_false]
    rw[k2] at h
    exact⟨fun f _=>trivial,qid hid hC hN hro hl' h2 hnd' (hat.put hN k3 hat.real (.refl _) qiK) h hk⟩
   ·cases h
theorem qjf (hid:Ties P ids fid) (hC:CSound P fid C) (hN:2*N<=dkey) {fl:Bool} (hro:ro.isSome=true->fl=true) {Γ0:Ctx} {ds0:List Deferred} {id:Nat} {is:List I} {fr fr':Fr} {σ':S} {Γ : Ctx} {a:Act} (hc:cIs P ids N false ops un 0 ops.toList=some is)
  (hnd:fl=true->is.all qdc=true) (hat:At fid N fl ids.df Γ0 ds0 fr Γ a)
  (h:qeF C is fr Γ.σ = some (fr',σ')) (hk : ∀ Γ' a',Γ'.σ = σ'->At fid N fl ids.df Γ0 ds0 fr' Γ' a'->Q .normal a' Γ'.w) :
  (Code.region id ops false).wpIn (FR ro) 0 P Q a Γ.w:=by
 refine wpIn_region ?_
 rw[List.range_eq_range',<- Array.length_toList]
 exact qkF hid hC hN hro (l:=ops.toList) (j:=0) (fun k=>by simp) hc hnd hat h hk
theorem qiM (hid:Ties P ids fid) (hC:CSound P fid C) (hN:2*N<=dkey) {fl:Bool} (hro:ro.isSome=true->fl=true) {Γ0:Ctx} {ds0:List Deferred} {id:Nat} {is:List I} {fr fr':Fr} {σ':S} {u:V} {Γ : Ctx} {a:Act} (hc:cIs P ids N false ops un 0 ops.toList=some is)
  (hnd:fl=true->is.all qdc=true) (hat:At fid N fl ids.df Γ0 ds0 fr Γ a)
  (h:qcv C is fr Γ.σ = some (u,fr',σ')) (hk : ∀ Γ' a' x,Γ'.σ = σ'->At fid N fl ids.df Γ0 ds0 fr' Γ' a'->Rep fid Γ' u x->Q (.panic [{ v:=x,recovered:=false }]) a' Γ'.w) :
  (Code.region id ops false).wpIn (FR ro) 0 P Q a Γ.w:=by
 refine wpIn_region ?_
 rw[List.range_eq_range',<- Array.length_toList]
 exact qid hid hC hN hro (l:=ops.toList) (j:=0) (fun k=>by simp) hc hnd hat h hk
theorem qbe{fr fr':Fr} : ∀ {x:X},(∀ t∈x.tmps,fr.get t=fr'.get t)->x.ev fr=x.ev fr'
 |.t n,h=>h n (by simp[X.tmps])
 |.c _,_=>rfl
 |.f _,_=>rfl
 |.g _,_=>rfl
theorem qce{fr fr':Fr} : ∀ {xs:List X},(∀ t∈qje xs,fr.get t=fr'.get t)->evs fr xs=evs fr' xs
 |[],_=>rfl
 |x::r,h=>by
  simp only[evs]
  rw[qbe (x:=x) (fun t ht=>h t (by simp[qje,ht])),qce (xs:=r) (fun t ht=>h t (by simp[qje,ht]))]
theorem qgA{fr fr':Fr} : ∀ {xs:List (Nat × Nat × X)},(∀ t∈qpV xs,fr.get t=fr'.get t)->qdw fr xs=qdw fr' xs
 |[],_=>rfl
 | (o,n,x)::r,h=>by
  simp only[qdw]
  rw[qbe (x:=x) (fun t ht=>h t (by simp[qpV,ht])),qgA (xs:=r) (fun t ht=>h t (by simp[qpV,ht]))]
theorem qiN{fr fr':Fr} : ∀ {x:Option X},(∀ t∈qpW x,fr.get t=fr'.get t)->qfS fr x=qfS fr' x
 |none,_=>rfl
 |some x,h=>by simp only[qfS]; rw[qbe (x:=x) h]
theorem qoY{fr fr':Fr}{op:O}(h : ∀ t∈op.tmps,fr.get t=fr'.get t)(σ : S):qaE C fr σ op=qaE C fr' σ op/\qdn fr σ op=qdn fr' σ op:=by
 cases op with
 |mov x|box x|load _ _ x|nilchk x|isnil _ _ x|isnils _ x|mkif _ x|mkmeth _ x|bytes x|boxT _ x|up x|down _ x|usd x|bstr x|un _ x|conv _ x|fieldAddr _ x|field _ _ _ x|len _ x|extract x _=>
  have:=qbe (x:=x) h
  simp only[qaE,qdn,this,and_self]
 |pick c a b=>
  have h1:=qbe (x:=c) (fun t ht=>h t (by simp[O.tmps,ht]))
  have h2:=qbe (x:=a) (fun t ht=>h t (by simp[O.tmps,ht]))
  have h3:=qbe (x:=b) (fun t ht=>h t (by simp[O.tmps,ht]))
  simp only[qaE,qdn,h1,h2,h3,and_self]
 |alloc _|mkmap=>simp only[qaE,qdn,and_self]
 |build _ ps|bslice _ _ ps|bsliceO _ _ _ ps=>
  have:=qgA (xs:=ps) h
  simp only[qaE,qdn,this,and_self]
 |store _ a x|bin _ a x|eqb _ a x|eqa _ _ a x|mkslice _ _ _ a x|indexAddr _ a x|indexAddrA _ _ a x|indexA _ _ _ a x|indexS a x|append _ _ a x|appendO _ _ a x|appendT _ _ _ a x|peq _ a x|ustr _ a x|idxb a x|lookup _ _ a x _=>
  have h1:=qbe (x:=a) (fun t ht=>h t (by simp[O.tmps,ht]))
  have h2:=qbe (x:=x) (fun t ht=>h t (by simp[O.tmps,ht]))
  simp only[qaE,qdn,h1,h2,and_self]
 |slice _ x l u|sliceS x l u|cut _ x l u|sliceA _ _ x l u=>
  have h1:=qbe (x:=x) (fun t ht=>h t (by simp[O.tmps,ht]))
  have h2:=qiN (x:=l) (fun t ht=>h t (by simp[O.tmps,ht]))
  have h3:=qiN (x:=u) (fun t ht=>h t (by simp[O.tmps,ht]))
  simp only[qaE,qdn,h1,h2,h3,and_self]
 |min xs|max xs|call _ xs=>
  have:=qce (xs:=xs) h
  simp only[qaE,qdn,this,and_self]
 |mapset _ a b c=>
  have h1:=qbe (x:=a) (fun t ht=>h t (by simp[O.tmps,ht]))
  have h2:=qbe (x:=b) (fun t ht=>h t (by simp[O.tmps,ht]))
  have h3:=qbe (x:=c) (fun t ht=>h t (by simp[O.tmps,ht]))
  simp only[qaE,qdn,h1,h2,h3,and_self]
 |mkfn _ a b=>
  have h1:=qce (xs:=a) (fun t ht=>h t (by simp[O.tmps,ht]))
  have h2:=qce (xs:=b) (fun t ht=>h t (by simp[O.tmps,ht]))
  simp only[qaE,qdn,h1,h2,and_self]
 |invoke tbl f xs=>
  have h1:=qbe (x:=f) (fun t ht=>h t (by simp[O.tmps,ht]))
  have h2:=qce (xs:=xs) (fun t ht=>h t (by simp[O.tmps,ht]))
  simp only[qaE,qdn,h1,h2,and_self]
 |callv f xs=>
  have h1:=qbe (x:=f) (fun t ht=>h t (by simp[O.tmps,ht]))
  have h2:=qce (xs:=xs) (fun t ht=>h t (by simp[O.tmps,ht]))
  simp only[qaE,qdn,h1,h2,and_self]
 |defer f xs=>
  have h0:=h dkey (by simp[O.tmps])
  have h1:=qbe (x:=f) (fun t ht=>h t (by simp[O.tmps,ht]))
  have h2:=qce (xs:=xs) (fun t ht=>h t (by simp[O.tmps,ht]))
  simp only[qaE,qdn,Fr.defs,h0,h1,h2,and_self]
 |panic x=>simp only[qaE,qdn,and_self]
 |recov=>
  have h1:=h qga (by simp[O.tmps])
  simp only[qaE,qdn,h1,and_self]
 |fill k=>
  have h1:=h k (by simp[O.tmps])
  simp only[qaE,qdn,h1,and_self]
theorem qmI{σ σ':S}{agg:Bool}{n:Nat}{p:V}(h : ∀ l,qdx (some p) = .read l -> σ'[l]? = σ[l]?):qcR σ' agg n p=qcR σ agg n p:=by
 unfold qcR
 split
 ·rename_i l o; rw[h l rfl]
 ·rfl
 ·rename_i l m o; rw[h l rfl]
 ·rfl
theorem qlI {fr:Fr} {σ σ1:S} {op:O} {v:V} (hc:op.chain=false) (h:qaE C fr σ op=some (v,σ1)) :
  σ1 = σ /\ ∀ σ',(∀ l,qdn fr σ op = .read l -> σ'[l]? = σ[l]?)->qaE C fr σ' op=some (v,σ'):=by
 cases op with
 |alloc _|mkmap|mkslice _ _ _ _ _|bsliceO _ _ _ _|box _|store _ _ _|append _ _ _ _|appendO _ _ _ _|appendT _ _ _ _ _|boxT _ _|up _|down _ _|ustr _ _ _|bstr _|cut _ _ _ _|mapset _ _ _ _|call _ _|callv _ _|invoke _ _ _=>cases hc
 |load agg n x=>
  simp only[qaE] at h ⊢
  split at h
  ·grind [qcR,qdn,qaE,qmI]
  ·cases h
 |lookup kd z m k ok=>
  simp only[qaE] at h
  split at h
  ·grind [qdn,qdx,qaE]
  ·cases h
 |len k x=>
  simp only[qaE] at h
  split at h
  ·rename_i p hp
   split at h
   ·rename_i n hn
    cases h
    refine⟨rfl,fun σ' hs=>?_⟩
    have:V.len σ' k p=V.len σ k p:=by
     unfold V.len
     split<;>first|rfl|skip
     rename_i l
     rw[hs l (by simp only[qdn,hp,qdx])]
    simp only[qaE,hp,this,hn]
   ·cases h
  ·cases h
 |fill k=>
  simp only[qaE] at h
  split at h
  ·grind [qdn,qdx,qaE]
  ·cases h
 |_=>
  simp only[qaE] at h ⊢
  refine⟨?_,fun σ' _=>?_⟩
  ·grind
  ·repeat' (first | (cases h; done) | (split at h) | (cases h; simp_all; done))
theorem qjJ{σ : S}{v:V}:(qpC σ v).2.length = σ.length /\ ∀ l,l∉v.locs->(qpC σ v).2[l]? = σ[l]?:=by
 unfold qpC
 split
 ·grind [V.locs]
 ·exact⟨rfl,fun _ _=>rfl⟩
 ·exact⟨rfl,fun _ _=>rfl⟩
theorem qjK : ∀ {vs:List V} {σ : S},(qpS σ vs).2.length = σ.length /\ ∀ l,l∉qaG vs->(qpS σ vs).2[l]? = σ[l]?
 |[],σ => ⟨rfl,fun _ _=>rfl⟩
 |v::vs,σ=>by
  obtain⟨h1,h2⟩:=qjJ (σ := σ) (v:=v)
  obtain⟨h3,h4⟩:=qjK (vs:=vs) (σ := (qpC σ v).2)
  simp only[qpS,qaG,Wp,not_or]
  exact⟨h3.trans h1,fun l hl=>(h4 l hl.2).trans (h2 l hl.1)⟩
theorem qoZ{σ : S}{v:V}:(qpT σ v).2.length = σ.length /\ ∀ l,l∉v.locs->(qpT σ v).2[l]? = σ[l]?:=by
 unfold qpT
 split
 ·simpa only [V.locs] using qjK
 ·exact qjJ
theorem qiO : ∀ {vs:List V} {σ : S},(qjd σ vs).2.length = σ.length /\ ∀ l,l∉qaG vs->(qjd σ vs).2[l]? = σ[l]?
 |[],σ => ⟨rfl,fun _ _=>rfl⟩
 |v::vs,σ=>by
  obtain⟨h1,h2⟩:=qoZ (σ := σ) (v:=v)
  obtain⟨h3,h4⟩:=qiO (vs:=vs) (σ := (qpT σ v).2)
  simp only[qjd,qaG,Wp,not_or]
  exact⟨h3.trans h1,fun l hl=>(h4 l hl.2).trans (h2 l hl.1)⟩
theorem qfs{f:Nat}{vs:List V}{σ : S}:(qeJ f vs σ).2.length = σ.length /\ ∀ l,l∉qaG vs->(qeJ f vs σ).2[l]? = σ[l]?:=by grind [qeJ,qaG,qiO]
theorem qiP{L:List Nat}{σ : S}{obs:List Ob}{l:Nat}(hl:l < σ.length)(hm:l∉L):(qaH σ L obs)[l]? = σ[l]? /\ σ.length<=(qaH σ L obs).length:=by
 induction L generalizing σ obs with
 |nil=>
  cases obs<;>simp only[qaH]<;>exact⟨by rw[WF hl],by simp⟩
 |cons k ks ih=>
  cases obs with
  |nil=>simp only[qaH]; exact⟨by rw[WF hl],by simp⟩
  |cons ob obs=>
   simp only[qaH]
   obtain⟨h1,h2⟩:=ih (σ := σ.set k ob) (obs:=obs) (by simpa using hl) (fun h=>hm (by simp[h]))
   exact⟨by rw[h1,Wr (fun e=>hm (by simp[e]))],by simpa using h2⟩
theorem qhX{L:List Nat}{σ : S}{obs:List Ob} : σ.length<=(qaH σ L obs).length:=by
 induction L generalizing σ obs with
 |nil=>cases obs<;>simp[qaH]
 |cons k ks ih=>
  cases obs with
  |nil=>simp[qaH]
  |cons ob obs=>
   simp only[qaH]
   have:=ih (σ := σ.set k ob) (obs:=obs)
   simpa using this
theorem qcX {σ σ':S} {mk:List V->S->Task} {args:List V} {v:V} (h:qbF C mk args σ = some (v,σ')) :
  σ.length <= σ'.length /\ ∀ l,l < σ.length->l∉reach σ 100000 (qaG args) [] -> σ'[l]? = σ[l]?:=by
 unfold qbF at h
 simp only at h
 split at h
 ·grind [qbF,reach,qaG,qhX,qiP]
 ·cases h
theorem qhd {fr:Fr} {σ σ1:S} {op:O} {v:V} (hc:op.chain=true) (h:qaE C fr σ op=some (v,σ1)) :
  ∃ T,qdn fr σ op = .chain σ.length T /\ σ.length <= σ1.length /\ ∀ l,l < σ.length->l∉T -> σ1[l]? = σ[l]?:=by
 have app : ∀ {σ : S} {ob:Ob} (l:Nat),l < σ.length->(σ ++ [ob])[l]? = σ[l]?:=fun l hl=>WF hl
 cases op with
 |alloc z=>simp only[qaE,Wh,WH] at h; obtain⟨rfl,rfl⟩:=h; exact⟨[],rfl,by simp,fun l hl _=>app l hl⟩
 |mkslice w z b x y=>
  simp only[qaE] at h
  split at h
  ·split at h
   ·split at h
    ·cases h; exact⟨[],rfl,by simp,fun l hl _=>app l hl⟩
    ·cases h; exact⟨[],rfl,by simp,fun l hl _=>app l hl⟩
   ·cases h
  ·cases h
 |mkmap=>simp only[qaE,Wh,WH] at h; obtain⟨rfl,rfl⟩:=h; exact⟨[],rfl,by simp,fun l hl _=>app l hl⟩
 |bsliceO n sz z ps=>
  simp only[qaE] at h
  split at h
  ·split at h
   ·split at h
    ·cases h; exact⟨[],rfl,by simp,fun l hl _=>app l hl⟩
    ·cases h
   ·cases h
  ·cases h
 |box x=>
  simp only[qaE] at h
  split at h
  ·split at h
   ·cases h; exact⟨[],rfl,by simp,fun l hl _=>app l hl⟩
   ·cases h
  ·cases h
 |store n a x=>
  simp only[qaE] at h
  split at h
  ·rename_i p u hp hu
   split at h
   ·rename_i s hs
    cases h
    unfold storeV at hs
    split at hs
    ·rename_i l o
     refine⟨[l],by simp[qdn,hp,qeR,V.locs],?_⟩
     split at hs
     ·grind
     ·grind
     ·cases hs
    ·rename_i l m o
     refine⟨[l],by simp[qdn,hp,qeR,V.locs],?_⟩
     split at hs
     ·grind
     ·cases hs
    ·cases hs
   ·cases h
  ·cases h
 |append sz b s x=>
  simp only[qaE] at h
  split at h
  ·rename_i p q hp hq
   refine⟨qeR (s.ev fr),rfl,?_⟩
   rw[hp]
   unfold qbH at h
   split at h
   ·cases h
   ·grind [qeR,V.locs]
  ·cases h
 |appendO sz b s x=>
  simp only[qaE] at h
  split at h
  ·rename_i p q hp hq
   refine⟨qeR (s.ev fr),rfl,?_⟩
   rw[hp]
   unfold appendO at h
   split at h
   ·cases h
   ·grind [qeR,V.locs]
  ·cases h
 |boxT k x=>
  simp only[qaE] at h
  split at h
  ·split at h
   ·cases h; exact⟨[],rfl,by simp,fun l hl _=>app l hl⟩
   ·cases h
  ·cases h
 |up x=>
  simp only[qaE] at h
  refine⟨[],rfl,?_⟩
  repeat' (first | (cases h; done) | (cases h; exact⟨Wj _,fun _ _ _=>rfl⟩) | split at h)
 |down k x=>
  simp only[qaE] at h
  refine⟨[],rfl,?_⟩
  repeat' (first | (cases h; done) | (cases h; exact⟨Wj _,fun _ _ _=>rfl⟩) | split at h)
 |bstr x=>
  simp only[qaE] at h
  refine⟨[],rfl,?_⟩
  repeat' (first | (cases h; done) | (cases h; exact⟨Wj _,fun _ _ _=>rfl⟩) | split at h)
 |ustr k x n=>
  simp only[qaE] at h
  refine⟨qeR (x.ev fr),rfl,?_⟩
  split at h
  ·grind
  ·grind [qeR,V.locs]
  ·cases h
 |appendT k sz b s x=>
  simp only[qaE] at h
  split at h
  ·rename_i p q hp hq
   refine⟨qeR (s.ev fr),rfl,?_⟩
   rw[hp]
   unfold appendT at h
   split at h
   ·cases h
   ·grind [qeR,V.locs]
  ·cases h
 |cut n x lo hi=>
  simp only[qaE] at h
  split at h
  ·rename_i p l' u' hp hl hu
   refine⟨qeR (x.ev fr),rfl,?_⟩
   rw[hp]
   unfold qyz at h
   split at h
   ·grind [qeR,V.locs]
   ·grind
  ·cases h
 |mapset kd m k x=>
  simp only[qaE] at h
  split at h
  ·rename_i l key u hm hk hu
   refine⟨[l],by simp[qdn,hm,qeR,V.locs],?_⟩
   split at h
   ·grind
   ·cases h
  ·cases h
 |call f xs=>
  simp only[qaE] at h
  split at h
  ·rename_i vs hvs
   obtain⟨h1,h2⟩:=qcX h
   obtain⟨a1,a2⟩:=qfs (f:=f) (vs:=vs) (σ := σ)
   have he:qdn fr σ (.call f xs) = .chain σ.length (qaG vs++reach (qeJ f vs σ).2 100000 (qaG (qeJ f vs σ).1) []):=by simp only[qdn,hvs,qoN,qiC]
   refine⟨_,he,by omega,fun l hl hm=>?_⟩
   simp only[Wp,not_or] at hm
   rw[h2 l (by omega) hm.2,a2 l hm.1]
  ·cases h
 |invoke tbl x xs=>
  simp only[qaE] at h
  split at h
  ·rename_i t v vs hx hvs
   split at h
   ·rename_i g hg
    obtain⟨h1,h2⟩:=qcX h
    obtain⟨a1,a2⟩:=qfs (f:=g) (vs:=v::vs) (σ := σ)
    have he:qdn fr σ (.invoke tbl x xs) = .chain σ.length (v.locs++qaG vs++reach (qeJ g (v::vs) σ).2 100000 (qaG (qeJ g (v::vs) σ).1) []):=by simp only[qdn,hx,hg,hvs,Ym,qoN,qiC]
    refine⟨_,he,by omega,fun l hl hm=>?_⟩
    simp only[Wp,not_or] at hm
    rw[h2 l (by omega) hm.2,a2 l (by simp only[qaG,Wp,not_or]; exact hm.1)]
   ·cases h
  ·cases h
 |callv f xs=>
  simp only[qaE] at h
  split at h
  ·rename_i id as bs vs hf hvs
   obtain⟨h1,h2⟩:=qcX h
   obtain⟨a1,a2⟩:=qfs (f:=id) (vs:=vs) (σ := σ)
   have he:qdn fr σ (.callv f xs) = .chain σ.length (qaG vs++reach (qeJ id vs σ).2 100000 (qaG as++(qaG (qeJ id vs σ).1++qaG bs)) []):=by simp only[qdn,hf,hvs,qoN,qiC]
   refine⟨_,he,by omega,fun l hl hm=>?_⟩
   have happ : ∀ a b:List V,qaG (a++b)=qaG a++qaG b:=fun a b=>by
    induction a with
    |nil=>simp[qaG]
    |cons x a ih=>simp[qaG,ih]
   simp only[Wp,not_or] at hm
   rw[h2 l (by omega) (by rw[happ,happ,Wf]; exact hm.2),a2 l hm.1]
  ·rename_i g u vs hf hvs
   obtain⟨h1,h2⟩:=qcX h
   obtain⟨a1,a2⟩:=qfs (f:=g) (vs:=u::vs) (σ := σ)
   have he:qdn fr σ (.callv f xs) = .chain σ.length (u.locs++qaG vs++reach (qeJ g (u::vs) σ).2 100000 (qaG (qeJ g (u::vs) σ).1) []):=by simp only[qdn,hf,hvs,Ym,qoN,qiC]
   refine⟨_,he,by omega,fun l hl hm=>?_⟩
   simp only[Wp,not_or] at hm
   rw[h2 l (by omega) hm.2,a2 l (by simp only[qaG,Wp,not_or]; exact hm.1)]
  ·rename_i l vs hf hvs
   obtain⟨h1,h2⟩:=qcX h
   refine⟨reach σ 100000 (l::qaG vs) [],by simp only[qdn,hf,hvs,qiC],h1,fun l hl hm=>h2 l hl ?_⟩
   simpa [qaG,V.locs] using hm
  ·cases h
 |_=>cases hc
end
end
section
variable{P:Program}{ids:Ids}{fid:Fid}{N:Nat}
structure Trace(C:Task->Option Res)(is:List I)(T:Nat->Fr × S)(val:Nat->V)(es:List Ev):Prop where
 step : ∀ k i,is[k]?=some i ->
  (qaR (T k).1 i.guard=some true/\qaE C (T k).1 (T k).2 i.op=some (val k,(T (k+1)).2)/\es[k]?=some (qdn (T k).1 (T k).2 i.op) \/
   qaR (T k).1 i.guard=some false/\val k = .dat (.lit undef)/\(T (k+1)).2=(T k).2/\es[k]?=some .pure) /\
  (T (k+1)).1=(T k).1.put i.dst (val k)
theorem qkX {C:Task->Option Res} : ∀ {is:List I} {fr fr':Fr} {σ σ':S} {es:List Ev},qcS C is fr σ = some (es,fr',σ') ->
  ∃ T val,T 0=(fr,σ)/\T is.length=(fr',σ')/\Trace C is T val es
 |[],fr,fr',σ,σ',es,h=>by
  simp only[qcS,Wh,WH] at h
  obtain⟨rfl,rfl,rfl⟩:=h
  exact⟨fun _=>(fr,σ),fun _=>default,rfl,rfl,⟨fun k i h=>by simp at h⟩⟩
 |i::is,fr,fr',σ,σ',es,h=>by
  simp only[qcS] at h
  split at h
  ·rename_i hw
   split at h
   ·rename_i v σ1 hv
    split at h
    ·rename_i l fr2 σ2 hrest
     cases h
     obtain⟨T,val,h0,hm,ht⟩:=qkX hrest
     refine⟨fun k=>match k with|0=>(fr,σ) | k+1=>T k,fun k=>match k with|0=>v|k+1=>val k,rfl,hm,⟨fun k j hk=>?_⟩⟩
     cases k with
     |zero=>
      simp at hk; subst hk
      exact⟨.inl ⟨hw,by simp only[h0,hv],rfl⟩,by simp only[h0]⟩
     |succ k=>exact ht.step k j (by simpa using hk)
    ·cases h
   ·cases h
  ·rename_i hw
   split at h
   ·rename_i l fr2 σ2 hrest
    cases h
    obtain⟨T,val,h0,hm,ht⟩:=qkX hrest
    refine⟨fun k=>match k with|0=>(fr,σ) | k+1=>T k,fun k=>match k with|0 => .dat (.lit undef) | k+1=>val k,rfl,hm,⟨fun k j hk=>?_⟩⟩
    cases k with
    |zero=>
     simp at hk; subst hk
     exact⟨.inr ⟨hw,rfl,by simp only[h0],rfl⟩,by simp only[h0]⟩
    |succ k=>exact ht.step k j (by simpa using hk)
   ·cases h
  ·cases h
theorem qi8 {C:Task->Option Res} : ∀ {is:List I} {q p:Nat} {fr:Fr} {σ σ':S} {es:List Ev} {v:V},qbu C q is fr σ = some (p,es,v,σ') ->
  ∃ m T val J,p=q+m/\is[m]?=some J/\T 0=(fr,σ)/\Trace C (is.take m) T val es/\qaR (T m).1 J.guard=some true/\qbK C (T m).1 (T m).2 J.op=some (v,σ')
 |[],q,p,fr,σ,σ',es,v,h=>by simp[qbu] at h
 |i::is,q,p,fr,σ,σ',es,v,h=>by
  simp only[qbu] at h
  split at h
  ·rename_i hw
   split at h
   ·rename_i v1 σ1 hv
    split at h
    ·rename_i p' l u σ2 hrest
     cases h
     obtain⟨m,T,val,J,e1,e2,h0,ht,e3,e4⟩:=qi8 hrest
     refine⟨m+1,fun k=>match k with|0=>(fr,σ) | k+1=>T k,fun k=>match k with|0=>v1|k+1=>val k,J,by omega,by simpa using e2,rfl,⟨fun k j hk=>?_⟩,e3,e4⟩
     cases k with
     |zero=>
      simp at hk; subst hk
      exact⟨.inl ⟨hw,by simp only[h0,hv],rfl⟩,by simp only[h0]⟩
     |succ k=>exact ht.step k j (by simpa using hk)
    ·cases h
   ·split at h
    ·rename_i v1 σ1 hv
     cases h
     exact⟨0,fun _=>(fr,σ),fun _=>default,i,rfl,rfl,rfl,⟨fun k j hk=>by simp at hk⟩,hw,hv⟩
    ·cases h
  ·rename_i hw
   split at h
   ·rename_i p' l u σ2 hrest
    cases h
    obtain⟨m,T,val,J,e1,e2,h0,ht,e3,e4⟩:=qi8 hrest
    refine⟨m+1,fun k=>match k with|0=>(fr,σ) | k+1=>T k,fun k=>match k with|0 => .dat (.lit undef) | k+1=>val k,J,by omega,by simpa using e2,rfl,⟨fun k j hk=>?_⟩,e3,e4⟩
    cases k with
    |zero=>
     simp at hk; subst hk
     exact⟨.inr ⟨hw,rfl,by simp only[h0],rfl⟩,by simp only[h0]⟩
    |succ k=>exact ht.step k j (by simpa using hk)
   ·cases h
  ·cases h
theorem qcI{es:List Ev}{l j:Nat} : ∀ {un:List Nat},qaP es l j un=true -> ∀ i∈un,∀ n T,es[i]?=some (.chain n T)->l∉T/\(j<=i\/l<n)
 |[],_,i,hi=>by cases hi
 |k::un,h,i,hi=>by
  simp only[qaP,Wq] at h
  rcases Wo.1 hi with rfl|hi
  ·grind
  ·exact qcI h.2 i hi
theorem ql2{es:List Ev} : ∀ {is:List I} {r:List Ev} {j:Nat},qcd es is j r=true -> ∀ k i l,is[k]?=some i->r[k]?=some (.read l)->qaP es l (j+k) i.un=true
 |[],r,j,_,k,i,l,hk,_=>by simp at hk
 |a::is,[],j,_,k,i,l,_,hr=>by simp at hr
 |a::is,e::r,j,h,k,i,l,hk,hr=>by
  simp only[qcd,Wq] at h
  cases k with
  |zero=>
   simp at hk hr; subst hk; subst hr
   exact h.1
  |succ k=>
   have:=ql2 h.2 k i l (by simpa using hk) (by simpa using hr)
   rw[show j+(k+1)=j+1+k from by omega]
   exact this
theorem qrz{u v:V}(h:u.same v=true):u=v:=by
 unfold V.same at h
 split at h
 ·grind
 ·grind [eqI]
 ·rfl
 ·cases h
theorem qj9{ss:List (Fr × S)}{agg:Bool}{n:Nat}{p:V} : ∀ {un:List Nat},still ss agg n p un=true -> ∀ q∈un,∀ a b,ss[q]?=some a->ss[q+1]?=some b->qcR b.2 agg n p=qcR a.2 agg n p
 |[],_,q,hq=>by cases hq
 |i::un,h,q,hq=>by
  simp only[still,Wq] at h
  rcases Wo.1 hq with rfl|hq
  ·grind [still,qcR,qrz]
  ·exact qj9 h.2 q hq
theorem qka{es:List Ev}{ss:List (Fr × S)} : ∀ {is:List I} {r:List Ev} {j:Nat},qeG es ss is j r=true -> ∀ k i l,is[k]?=some i->r[k]?=some (.read l)->qaP es l (j+k) i.un=true\/qdM ss i (j+k)=true
 |[],r,j,_,k,i,l,hk,_=>by simp at hk
 |a::is,[],j,_,k,i,l,_,hr=>by simp at hr
 |a::is,e::r,j,h,k,i,l,hk,hr=>by
  simp only[qeG,Wq] at h
  cases k with
  |zero=>
   simp at hk hr; subst hk; subst hr
   have:=h.1
   rw[Yp]; simpa only [Yl] using this
  |succ k=>
   have:=qka h.2 k i l (by simpa using hk) (by simpa using hr)
   rw[show j+(k+1)=j+1+k from by omega]
   exact this
theorem qht{C:Task->Option Res} : ∀ {is:List I} {T:Nat->Fr × S} {val:Nat->V} {es:List Ev} {ss:List (Fr × S)},Trace C is T val es->qcT C is (T 0).1 (T 0).2=some ss -> ∀ k,k<=is.length->ss[k]?=some (T k)
 |[],T,val,es,ss,_,h,k,hk=>by grind [qcT]
 |i::is,T,val,es,ss,ht,h,k,hk=>by
  have tl:Trace C is (fun k=>T (k+1)) (fun k=>val (k+1)) es.tail:=⟨fun k I hI=>by
   have:=ht.step (k+1) I (by simpa using hI)
   simpa only [List.getElem?_tail] using this⟩
  obtain⟨hst,hfr⟩:=ht.step 0 i (by simp)
  simp only[qcT] at h
  rcases hst with ⟨h1,h2,_⟩|⟨h1,h2,h3,_⟩
  ·simp only[h1,h2] at h
   split at h
   ·rename_i l hl
    cases h
    rw[<- hfr] at hl
    have ih:=qht tl (ss:=l) hl
    cases k with
    |zero=>rfl
    |succ k=>simpa using ih k (by simpa using hk)
   ·cases h
  ·simp only[h1] at h
   split at h
   ·rename_i l hl
    cases h
    rw[<- h2,<- h3,<- hfr] at hl
    have ih:=qht tl (ss:=l) hl
    cases k with
    |zero=>rfl
    |succ k=>simpa using ih k (by simpa using hk)
   ·cases h
def ql3(is:List I)(T:Nat->Fr × S)(es:List Ev):Prop:=
 ∀ (k:Nat) (i:I) (l:Nat),is[k]?=some i->es[k]?=some (.read l)->qaP es l k i.un=true \/ ∃ agg n x p,i.op = .load agg n x/\x.ev (T k).1=some p /\ ∀ q∈i.un,q<is.length->qcR (T (q+1)).2 agg n p=qcR (T q).2 agg n p
theorem qkb{is:List I}{T:Nat->Fr × S}{es:List Ev}(h:qcd es is 0 es=true):ql3 is T es:=fun k i l hk hl=>by
 have:=ql2 h k i l hk hl
 exact .inl (by simpa using this)
theorem qm2{C:Task->Option Res}{is:List I}{T:Nat->Fr × S}{val:Nat->V}{es:List Ev}{ss:List (Fr × S)}(ht:Trace C is T val es)(hs:qcT C is (T 0).1 (T 0).2=some ss)(h:qeG es ss is 0 es=true):ql3 is T es:=fun k i l hk hl=>by
 have hss:=qht ht hs
 have hlt:=(Wd.1 hk).1
 rcases qka h k i l hk hl with h|h
 ·exact .inl (by simpa using h)
 ·refine .inr ?_
  rw[WG] at h
  unfold qdM at h
  rw[hss k (by omega)] at h
  split at h
  ·grind [qcT,qeG,ql3,qj9]
  ·cases h
structure Stat(ops:Array Oper)(is:List I)(A:Nat->Nat->Prop):Prop where
 lt : ∀ i j,A i j->i<j
 edge : ∀ (j:Nat) (o:Oper) (e:Edge),ops[j]?=some o->e∈o.after.toList->Region.binds .any e=true->A e.on j /\ ∀ i,A i e.on->A i j
 back : ∀ (j:Nat) (o:Oper) (i:Nat),ops[j]?=some o->A i j -> ∃ e,e∈o.after.toList/\Region.binds .any e=true/\(e.on=i\/A i e.on)
 uniq : ∀ (i j:Nat) (I J:Pm.I) (d:Nat),is[i]?=some I->is[j]?=some J->i≠j->I.dst=some d->J.dst≠some d
 look : ∀ (i j:Nat) (I J:Pm.I) (d:Nat),is[i]?=some I->is[j]?=some J->i≠j->I.dst=some d->d∈J.looks->A i j\/A j i
 chn : ∀ (i j:Nat) (I J:Pm.I),is[i]?=some I->is[j]?=some J->i≠j->I.op.chain=true->J.op.chain=true->A i j\/A j i
 rd : ∀ (i j:Nat) (I J:Pm.I),is[i]?=some I->is[j]?=some J->i≠j->I.op.chain=true->J.op.reads=true->A i j\/A j i\/i∈J.un
 fl : ∀ (i j:Nat) (I J:Pm.I),is[i]?=some I->is[j]?=some J->i≠j->I.op.chain=true->J.op.isFill=true->A j i\/i∈J.un
theorem Stat.pre{ops:Array Oper}{is isP:List I}{A:Nat->Nat->Prop}(hs:Stat ops is A)(hpre : ∀ (k:Nat) (I:Pm.I),isP[k]?=some I->is[k]?=some I):Stat ops isP A:=
 ⟨hs.lt,hs.edge,hs.back,fun i j I J d hI hJ=>hs.uniq i j I J d (hpre i I hI) (hpre j J hJ),fun i j I J d hI hJ=>hs.look i j I J d (hpre i I hI) (hpre j J hJ),fun i j I J hI hJ=>hs.chn i j I J (hpre i I hI) (hpre j J hJ),
  fun i j I J hI hJ=>hs.rd i j I J (hpre i I hI) (hpre j J hJ),fun i j I J hI hJ=>hs.fl i j I J (hpre i I hI) (hpre j J hJ)⟩
theorem qrA{ops:Array Oper}{is:List I}{as:List (List Nat)}(hl:is.length=ops.size)(h:qkd ops is as=true):Stat ops is (fun i j=>j<ops.size/\i∈as.getD j []):=by
 have key : ∀ j J,is[j]?=some J -> ∃ o,ops[j]?=some o/\j<ops.size/\(∀ k∈as.getD j [],k<j) /\
   (∀ e∈o.after.toList,Region.binds .any e=true->e.on∈as.getD j [] /\ ∀ k∈as.getD e.on [],k∈as.getD j []) /\
   (∀ k∈as.getD j [],∃ e∈o.after.toList,Region.binds .any e=true/\(e.on=k\/k∈as.getD e.on [])) /\
   ∀ k I,is[k]?=some I->k≠j->(∀ d,I.dst=some d->(d∈J.looks->k∈as.getD j []\/j∈as.getD k [])/\J.dst≠some d) /\
    (J.op.chain=true->I.op.chain=true->k∈as.getD j []\/j∈as.getD k []) /\
    (J.op.reads=true->I.op.chain=true->k∈as.getD j []\/j∈as.getD k []\/k∈J.un) /\
    (J.op.isFill=true->I.op.chain=true->j∈as.getD k []\/k∈J.un):=fun j J hJ=>by
  have hj:j<ops.size:=by rw[<- hl]; exact (Wd.1 hJ).1
  have hh:=WD.1 h j (List.mem_range.2 hj)
  have ho:ops[j]?=some ops[j]:=by simp[hj]
  rw[ho,hJ] at hh
  simp only[Wq] at hh
  obtain⟨h1,h2,h3,h4⟩:=hh
  refine⟨_,ho,hj,fun k hk=>by simpa using WD.1 h1 k hk,fun e he hb=>?_,fun k hk=>?_,fun k I hI hkj=>?_⟩
  ·grind
  ·grind
  ·grind [anc]
 have isome : ∀ j,j<ops.size -> ∃ J,is[j]?=some J:=fun j hj=>⟨is[j]'(by omega),by simp⟩
 have osome : ∀ j o,ops[j]?=some o -> ∃ J,is[j]?=some J:=fun j o ho=>isome j (Yk.1 ho).1
 refine⟨fun i j hA=>?_,fun j o e ho he hb=>?_,fun j o i ho hA=>?_,fun i j I J d hI hJ hne hd=>?_,fun i j I J d hI hJ hne hd hm=>?_,fun i j I J hI hJ hne c1 c2=>?_,fun i j I J hI hJ hne c1 c2=>?_,fun i j I J hI hJ hne c1 c2=>?_⟩
 ·grind
 ·grind
 ·grind
 ·grind
 ·grind
 ·grind
 ·grind
 ·grind
section
variable{C:Task->Option Res}{ro:Option Nat}{Q:Exit->Act->World->Prop}{ops:Array Oper}{is:List I}{A:Nat->Nat->Prop}{T:Nat->Fr × S}{val:Nat->V}{es:List Ev}{Γ00:Ctx}{ds:List Deferred}
theorem qi9 (hs:Stat ops is A) (ht:Trace C is T val es) : ∀ k,k<=is.length ->
  (∀ i I t,i<k->is[i]?=some I->I.dst=some t->(T k).1.get t=some (val i)) /\ ∀ t,(∀ i I,i<k->is[i]?=some I->I.dst≠some t)->(T k).1.get t=(T 0).1.get t
 |0,_=>⟨fun i I t hi=>by omega,fun t _=>rfl⟩
 |k+1,hk=>by
  obtain⟨h1,h2⟩:=qi9 hs ht k (by omega)
  obtain⟨J,hJ⟩ : ∃ J,is[k]?=some J:=⟨is[k]'(by omega),by simp⟩
  have hput:=(ht.step k J hJ).2
  rw[hput]
  refine⟨fun i I t hi hI hd=>?_,fun t hn=>?_⟩
  ·by_cases e:i=k
   ·grind [Fr.put,Fr.get]
   ·have:J.dst≠some t:=hs.uniq i k I J t hI hJ e hd
    have h:=h1 i I t (by omega) hI hd
    cases hdj:J.dst with
    |none=>simpa [Fr.put,hdj] using h
    |some d=>
     have:d≠t:=fun e=>this (by rw[hdj,e])
     simp only[Fr.put,Fr.get,if_neg this]
     exact h
  ·have hJn:=hn k J (by omega) hJ
   have h:=h2 t (fun i I hi hI=>hn i I (by omega) hI)
   cases hdj:J.dst with
   |none=>simpa [Fr.put,hdj] using h
   |some d=>
    have:d≠t:=fun e=>hJn (by rw[hdj,e])
    simp only[Fr.put,Fr.get,if_neg this]
    exact h
theorem qhu (ht:Trace C is T val es) {k:Nat} {J:I} (hJ:is[k]?=some J) :
  (T k).2.length<=(T (k+1)).2.length/\(J.op.chain=false->(T (k+1)).2=(T k).2) /\
  ∀ l,l<(T k).2.length->(∀ n L,es[k]?=some (.chain n L)->l∉L)->(T (k+1)).2[l]?=(T k).2[l]?:=by
 obtain⟨h|h,_⟩:=ht.step k J hJ
 ·obtain⟨_,h2,h3⟩:=h
  by_cases hc:J.op.chain=true
  ·grind [qhd]
  ·grind [qlI]
 ·grind
theorem qoh(ht:Trace C is T val es) : ∀ {i k:Nat},i<=k->k<=is.length->(T i).2.length<=(T k).2.length
 | i,0,hi,_=>by have:i=0:=by omega
                subst this; exact Wj _
 |i,k+1,hi,hk=>by
  rcases Yc k i with h|h
  ·grind
  ·obtain⟨J,hJ⟩ : ∃ J,is[k]?=some J:=⟨is[k]'(by omega),by simp⟩
   exact Yd (qoh ht h (by omega)) (qhu ht hJ).1
theorem qrB(ht:Trace C is T val es) : ∀ {i k:Nat},i<=k->k<=is.length->(∀ j J,i<=j->j<k->is[j]?=some J->J.op.chain=false)->(T k).2=(T i).2
 | i,0,hi,_,_=>by have:i=0:=by omega
                  subst this; rfl
 |i,k+1,hi,hk,h=>by
  rcases Yc k i with hlt|hge
  ·have:i=k+1:=by omega
   subst this; rfl
  ·obtain⟨J,hJ⟩ : ∃ J,is[k]?=some J:=⟨is[k]'(by omega),by simp⟩
   rw[(qhu ht hJ).2.1 (h k J hge (by omega) hJ)]
   exact qrB ht hge (by omega) fun j J' h1 h2=>h j J' h1 (by omega)
theorem qtK(ht:Trace C is T val es){l:Nat} : ∀ {i k:Nat},i<=k->k<=is.length->(∀ j J,i<=j->j<k->is[j]?=some J->J.op.chain=true->l<(T j).2.length /\ ∀ n L,es[j]?=some (.chain n L)->l∉L)->(T k).2[l]?=(T i).2[l]?
 | i,0,hi,_,_=>by have:i=0:=by omega
                  subst this; rfl
 |i,k+1,hi,hk,h=>by
  rcases Yc k i with hlt|hge
  ·have:i=k+1:=by omega
   subst this; rfl
  ·obtain⟨J,hJ⟩ : ∃ J,is[k]?=some J:=⟨is[k]'(by omega),by simp⟩
   have ih:=qtK ht hge (by omega) fun j J' h1 h2=>h j J' h1 (by omega)
   by_cases hc:J.op.chain=true
   ·grind [qhu]
   ·rw[(qhu ht hJ).2.1 (by simpa using hc),ih]
theorem qxz{α : Type}(g:S -> α)(ht:Trace C is T val es) : ∀ {i k:Nat},i<=k->k<=is.length->(∀ j J,i<=j->j<k->is[j]?=some J->J.op.chain=true->g (T (j+1)).2=g (T j).2)->g (T k).2=g (T i).2
 | i,0,hi,_,_=>by have:i=0:=by omega
                  subst this; rfl
 |i,k+1,hi,hk,h=>by
  rcases Yc k i with hlt|hge
  ·have:i=k+1:=by omega
   subst this; rfl
  ·obtain⟨J,hJ⟩ : ∃ J,is[k]?=some J:=⟨is[k]'(by omega),by simp⟩
   have ih:=qxz g ht hge (by omega) fun j J' h1 h2=>h j J' h1 (by omega)
   by_cases hc:J.op.chain=true
   ·rw[h k J hge (by omega) hJ hc,ih]
   ·rw[(qhu ht hJ).2.1 (by simpa using hc),ih]
structure SInv(fid:Fid)(Γ00 Γ : Ctx)(is:List I)(T:Nat->Fr × S)(val:Nat->V)(A:Nat->Nat->Prop)(fr:Fr)(E:Nat->Prop):Prop where
 real:Real fid Γ
 step:Step Γ00 Γ
 stage : ∃ K,K<=is.length /\ Γ.σ = (T K).2/\(∀ i I,E i->is[i]?=some I->I.op.chain=true->i<K) /\ ∀ i I,i<K->is[i]?=some I->I.op.chain=true->E i
 fr1 : ∀ i I t,E i->is[i]?=some I->I.dst=some t->fr.get t=some (val i)
 fr2 : ∀ t,(∀ i I,E i->is[i]?=some I->I.dst≠some t)->fr.get t=(T 0).1.get t
 hole : ∀ j J k l,is[j]?=some J->J.op = .fill k -> ¬ E j->(T 0).1.get k=some (.ptr l 0) -> Γ.μ l=none
 down : ∀ i j,E j->A i j->E i
theorem qoi {full:List I} (hs:Stat ops full A) (hpre : ∀ (k:Nat) (I:Pm.I),is[k]?=some I->full[k]?=some I) (hpre' : ∀ (k:Nat) (I:Pm.I),k<is.length->full[k]?=some I->is[k]?=some I) (ht:Trace C is T val es) (hca:ql3 is T es)
  {Γ00 Γ : Ctx} {fr:Fr} {E:Nat->Prop} (hi:SInv fid Γ00 Γ is T val A fr E) {j:Nat} {J:I} (hjl':j<=is.length) (hJ:full[j]?=some J) (hE : ¬ E j) (hA : ∀ i,A i j->E i) :
  (∀ t∈J.looks,fr.get t=(T j).1.get t) /\
  (j<is.length -> ∀ v σ1,qaE C (T j).1 (T j).2 J.op=some (v,σ1)->(qaR (T j).1 J.guard=some true->es[j]?=some (qdn (T j).1 (T j).2 J.op))->qaR (T j).1 J.guard=some true ->
   ∃ σ2,qaE C fr Γ.σ J.op=some (v,σ2)/\(J.op.chain=true -> σ2 = σ1)/\(J.op.chain=false -> σ2 = Γ.σ)) /\
  (J.op.chain=true -> Γ.σ = (T j).2):=by
 have hsP:=hs.pre hpre
 obtain⟨tf1,tf2⟩:=qi9 hsP ht j hjl'
 have hlook : ∀ t∈J.looks,fr.get t=(T j).1.get t:=fun t ht'=>by
  by_cases hw : ∃ (i:Nat) (I:Pm.I),full[i]?=some I/\I.dst=some t
  ·obtain⟨i,I,hI,hd⟩:=hw
   have only : ∀ (i':Nat) (I':Pm.I),full[i']?=some I'->I'.dst=some t->i'=i:=fun i' I' hI' hd'=>by
    by_cases e:i'=i
    ·exact e
    ·exact absurd hd (hs.uniq i' i I' I t hI' hI e hd')
   have both : ¬ E i -> ¬ i<j->fr.get t=(T j).1.get t:=fun h1 h2=>by
    rw[hi.fr2 t (fun i' I' hE' hI' hd'=>by have:=only i' I' (hpre _ _ hI') hd'; subst this; exact h1 hE'),tf2 t (fun i' I' hlt hI' hd'=>by have:=only i' I' (hpre _ _ hI') hd'; subst this; exact h2 hlt)]
   by_cases e:i=j
   ·subst e; exact both hE (by omega)
   ·rcases hs.look i j I J t hI hJ e hd ht' with hij|hji
    ·have hlt:=hs.lt i j hij
     have hIP:=hpre' i I (by omega) hI
     rw[hi.fr1 i I t (hA i hij) hIP hd,tf1 i I t hlt hIP hd]
    ·exact both (fun h=>hE (hi.down j i h hji)) (by have:=hs.lt j i hji; omega)
  ·have hw' : ∀ (i:Nat) (I:Pm.I),full[i]?=some I->I.dst≠some t:=fun i I hI hd=>hw ⟨i,I,hI,hd⟩
   rw[hi.fr2 t (fun i I _ hI=>hw' i I (hpre _ _ hI)),tf2 t (fun i I _ hI=>hw' i I (hpre _ _ hI))]
 have hkj0:J.op.chain=true -> Γ.σ = (T j).2:=fun hc=>by
  obtain⟨K,hK,hσ,hK1,hK2⟩:=hi.stage
  have hle:K<=j:=by grind
  rw[hσ]
  refine (qrB ht hle hjl' fun i I h1 h2 hI=>?_).symm
  cases hci:I.op.chain with
  |false=>rfl
  |true=>
   exfalso
   rcases hs.chn i j I J (hpre _ _ hI) hJ (by omega) hci hc with h|h
   ·have:=hK1 i I (hA i h) hI hci; omega
   ·have:=hs.lt j i h; omega
 refine⟨hlook,fun hjl v σ1 hrun hev hwant=>?_,hkj0⟩
 have hs:=hsP
 have hJ:=hpre' j J hjl hJ
 have hcong:=fun σ => qoY (C:=C) (fr:=fr) (fr':=(T j).1) (op:=J.op) (fun t ht'=>hlook t (by simp[I.looks,ht'])) σ
 obtain⟨K,hK,hσ,hK1,hK2⟩:=hi.stage
 have hKj:J.op.chain=true->K<=j:=fun hc=>by grind
 by_cases hc:J.op.chain=true
 ·grind
 ·have hc':J.op.chain=false:=by simpa using hc
  obtain⟨_,h2⟩:=qlI hc' hrun
  refine⟨Γ.σ,?_,fun h=>absurd h hc,fun _=>rfl⟩
  rw[(hcong _).1]
  by_cases hq : ∃ agg n x p,J.op = .load agg n x/\x.ev (T j).1=some p /\ ∀ q∈J.un,q<is.length->qcR (T (q+1)).2 agg n p=qcR (T q).2 agg n p
  ·-- a load of what nothing qiV it changes
   obtain⟨agg,n,x,p,e1,e2,e3⟩:=hq
   have hreads:J.op.reads=true:=by rw[e1]; rfl
   have hL:qcR Γ.σ agg n p=qcR (T j).2 agg n p:=by
    rw[hσ]
    rcases Nat.le_total K j with hle|hle
    ·refine (qxz (fun σ => qcR σ agg n p) ht hle (by omega) fun i I h1 h2 hI hci=>?_).symm
     refine e3 i ?_ (by omega)
     rcases hs.rd i j I J hI hJ (by omega) hci hreads with h|h|h
     ·have:=hK1 i I (hA i h) hI hci; omega
     ·have:=hs.lt j i h; omega
     ·exact h
    ·refine qxz (fun σ => qcR σ agg n p) ht hle hK fun i I h1 h2 hI hci=>?_
     have hne:i≠j:=fun e=>by subst e; rw[hJ] at hI; cases hI; exact hc hci
     have hEi:=hK2 i I h2 hI hci
     refine e3 i ?_ (by omega)
     rcases hs.rd i j I J hI hJ hne hci hreads with h|h|h
     ·have:=hs.lt i j h; omega
     ·exact absurd (hi.down j i hEi h) hE
     ·exact h
   rw[e1] at hrun ⊢
   simp only[qaE,e2] at hrun ⊢
   rw[hL]
   split at hrun
   ·rename_i u hu; cases hrun; rfl
   ·cases hrun
  refine h2 _ fun l hl=>?_
  rw[hσ]
  have hes:=hev hwant
  rw[hl] at hes
  have hal:=(hca j J l hJ hes).resolve_right hq
  have hreads:J.op.reads=true:=by
   cases hop:J.op<;>rw[hop] at hl hc'<;>first|rfl | (simp[qdn] at hl; done) | (cases hc'; done)
  have hlt:l<(T j).2.length:=by
   have key : ∀ {p:Option V},qdx p = .read l -> ∀ {r:Option (V × S)},r=some (v,σ1)->True:=fun _ _ _=>trivial
   cases hop:J.op<;>rw[hop] at hl hrun hc'<;>first | (simp[qdn] at hl; done) | (cases hc'; done) | skip
   ·rename_i agg n x
    simp only[qaE] at hrun
    split at hrun
    ·rename_i p hp
     simp only[qdn,hp] at hl
     split at hrun
     ·rename_i u hu
      cases p<;>simp only[qdx] at hl<;>first | (cases hl; done) | skip
      ·grind [qcR]
      ·grind [qcR]
      ·cases hl
       simp[qcR] at hu
     ·cases hrun
    ·cases hrun
   ·rename_i k x
    simp only[qaE] at hrun
    split at hrun
    ·rename_i p hp
     simp only[qdn,hp] at hl
     split at hrun
     ·rename_i u hu
      cases p<;>simp only[qdx] at hl<;>first | (cases hl; done) | skip
      ·cases hl
       cases k<;>simp[V.len] at hu
      ·cases hl
       cases k<;>simp[V.len] at hu
      ·cases hl
       cases k<;>simp only[V.len] at hu<;>first | (cases hu; done) | skip
       split at hu
       ·grind
       ·cases hu
     ·cases hrun
    ·cases hrun
   ·grind [qaE,qdn,qdx]
   ·grind [qaE,qdn,qdx]
  rcases Nat.le_total K j with hle|hle
  ·refine (qtK ht hle (by omega) fun i I h1 h2 hI hci=>?_).symm
   have hun:i∈J.un:=by
    rcases hs.rd i j I J hI hJ (by omega) hci hreads with h|h|h
    ·have:=hK1 i I (hA i h) hI hci; omega
    ·have:=hs.lt j i h; omega
    ·exact h
   obtain⟨hst|hst,_⟩:=ht.step i I hI
   ·obtain⟨_,r1,r2⟩:=hst
    obtain⟨L,e1,_,_⟩:=qhd hci r1
    rw[e1] at r2
    obtain⟨a1,a2⟩:=qcI hal i hun _ _ r2
    refine⟨by omega,fun n L' h=>?_⟩
    exact (qcI hal i hun n L' h).1
   ·obtain⟨_,_,r1,r2⟩:=hst
    refine⟨?_,fun n L' h=>(qcI hal i hun n L' h).1⟩
    have : ∀ d i',i'+d=j->K<=i'->l<(T i').2.length:=fun d=>by
     induction d with
     | zero => intro i' h _; have:i'=j:=by omega
               subst this; exact hlt
     |succ d ih=>
      intro i' h hKi
      have hn:=ih (i'+1) (by omega) (by omega)
      obtain⟨I',hI'⟩ : ∃ I',is[i']?=some I':=⟨is[i']'(by omega),by simp⟩
      by_cases hci':I'.op.chain=true
      ·have hun':i'∈J.un:=by
        rcases hs.rd i' j I' J hI' hJ (by omega) hci' hreads with h'|h'|h'
        ·have:=hK1 i' I' (hA i' h') hI' hci'; omega
        ·have:=hs.lt j i' h'; omega
        ·exact h'
       obtain⟨hst'|hst',_⟩:=ht.step i' I' hI'
       ·obtain⟨_,r1',r2'⟩:=hst'
        obtain⟨L,e1,_,_⟩:=qhd hci' r1'
        rw[e1] at r2'
        have:=(qcI hal i' hun' _ _ r2').2
        omega
       ·grind
      ·grind [ql3,qaE,qaR,qdn,qhu]
    exact this (j-i) i (by omega) h1
  ·refine qtK ht hle hK fun i I h1 h2 hI hci=>?_
   have hne:i≠j:=fun e=>by subst e; rw[hJ] at hI; cases hI; exact hc hci
   have hEi:=hK2 i I h2 hI hci
   have hun:i∈J.un:=by
    rcases hs.rd i j I J hI hJ hne hci hreads with h|h|h
    ·have:=hs.lt i j h; omega
    ·exact absurd (hi.down j i hEi h) hE
    ·exact h
   exact⟨W9 hlt (qoh ht h1 (by omega)),fun n L' h=>(qcI hal i hun n L' h).1⟩
theorem qm3{fr fr':Fr}{op:O}(h : ∀ t∈op.tmps,fr.get t=fr'.get t)(σ : S):qbK C fr σ op=qbK C fr' σ op:=by
 cases op with
 |call f xs=>
  have:=qce (xs:=xs) h
  simp only[qbK,this]
 |invoke tbl f xs=>
  have h1:=qbe (x:=f) (fun t ht=>h t (by simp[O.tmps,ht]))
  have h2:=qce (xs:=xs) (fun t ht=>h t (by simp[O.tmps,ht]))
  simp only[qbK,h1,h2]
 |callv f xs=>
  have h1:=qbe (x:=f) (fun t ht=>h t (by simp[O.tmps,ht]))
  have h2:=qce (xs:=xs) (fun t ht=>h t (by simp[O.tmps,ht]))
  simp only[qbK,h1,h2]
 |panic x=>
  have:=qbe (x:=x) h
  simp only[qbK,this]
 |_=>rfl
theorem qd2{un:Nat->List Nat} : ∀ {l:List Oper} {j:Nat} {is:List I},cIs P ids N true ops un j l=some is->is.length=l.length /\ ∀ (k:Nat) (o:Oper),l[k]?=some o -> ∃ i,is[k]?=some i/\cI P ids N true ops un (j+k) o=some i
 |[],j,is,h=>by simp only[cIs,Wh] at h; subst h; simp
 |o::l,j,is,h=>by
  simp only[cIs] at h
  split at h
  ·rename_i i is' h1 h2
   cases h
   obtain⟨k1,k2⟩:=qd2 h2
   refine⟨by simp[k1],fun k o' hk=>?_⟩
   cases k with
   |zero=>simp at hk; subst hk; exact⟨i,rfl,h1⟩
   |succ k=>
    obtain⟨i',h3,h4⟩:=k2 k o' (by simpa using hk)
    exact⟨i',by simpa using h3,by rw[show j+(k+1)=j+1+k from by omega]; exact h4⟩
  ·cases h
theorem qek{o:Oper}{op:O}(h:qA2 P ids N true o=some op):(∃ t d,o.op = .alloc t/\o.dst=some d/\o.guard=none/\op = .fill (N+d))\/(cOp P ids N o.op=some op/\op.isFill=false):=by
 unfold qA2 at h
 split at h
 ·grind
 ·cases h
 ·refine .inr ⟨h,?_⟩
  have key : ∀ (q:Op) (op:O),cOp P ids N q=some op->op.isFill=false:=fun q op hq=>by
   cases q<;>simp only[cOp] at hq<;>first
    | (cases hq; done)
    |skip
   all_goals (try simp only[qpy,Wi] at hq)
   all_goals (repeat' (first
    | (cases hq; done)
    | (obtain⟨_,_,rfl⟩:=hq; rfl)
    | (cases hq; rfl)
    | (simp only[Wi] at hq; obtain⟨_,_,rfl⟩:=hq; rfl)
    |split at hq))
  exact key _ _ h
structure Held(Γ00:Ctx)(is:List I)(ops:Array Oper)(P:Program)(N:Nat)(T:Nat->Fr × S):Prop where
 len : Γ00.σ.length<=(T 0).2.length
 at_ : ∀ (j:Nat) (o:Oper) (t d:Nat),ops[j]?=some o->o.op = .alloc t->o.dst=some d -> ∃ l z,(T 0).1.get (N+d)=some (.ptr l 0) /\ Γ00.σ.length<=l/\qc1 P t=some z/\(T 0).2[l]?=some (.cells ((qay z).map .dat))
 one : ∀ (j:Nat) (o:Oper) (t d j':Nat) (o':Oper) (t' d' l:Nat),ops[j]?=some o->o.op = .alloc t->o.dst=some d->ops[j']?=some o'->o'.op = .alloc t'->o'.dst=some d' ->
  (T 0).1.get (N+d)=some (.ptr l 0)->(T 0).1.get (N+d')=some (.ptr l 0)->d=d'
theorem drawn (hid:Ties P ids fid) (hC:CSound P fid C) {un:Nat->List Nat} {full:List I} (hc:cIs P ids N true ops un 0 ops.toList=some full) (hsF:Stat ops full A) (hpre : ∀ (k:Nat) (I:Pm.I),is[k]?=some I->full[k]?=some I) (hpre' : ∀ (k:Nat) (I:Pm.I),k<is.length->full[k]?=some I->is[k]?=some I) (ht:Trace C is T val es)
  (hm:is.length=full.length\/(is.length<full.length/\(∀ i,is.length<i->i<full.length->A is.length i) /\ ∃ J u σP,full[is.length]?=some J/\qaR (T is.length).1 J.guard=some true/\qbK C (T is.length).1 (T is.length).2 J.op=some (u,σP)/\J.op.chain=true /\
   ∀ Γ' a' x,Γ'.σ = σP->Real fid Γ'->Step Γ00 Γ'->a'.tmps.size=N->a'.defers=ds->Rep fid Γ' u x->Q (.panic [{ v:=x,recovered:=false }]) a' Γ'.w))
  (hca:ql3 is T es) (hh:Held Γ00 is ops P N T)
  (hk:is.length=full.length -> ∀ Γ' a',Γ'.σ = (T is.length).2->Real fid Γ'->Step Γ00 Γ'->FrRep fid Γ' N (T is.length).1 a'.tmps->a'.defers=ds->Q .normal a' Γ'.w) :
  ∀ (fuel:Nat) (listed:Array Bool) (a:Act) (Γ : Ctx) (fr:Fr),listed.size=ops.size->(∀ i,listed.getD i false=true->i<is.length)->(listed.toList.filter (· == false)).length=fuel ->
   SInv fid Γ00 Γ is T val A fr (fun i=>listed.getD i false=true)->FrRep fid Γ N fr a.tmps->a.defers=ds ->
   wpAnyIn (FR ro) 0 P .any ops Q fuel listed a Γ.w:=by
 have hlen:=(qd2 hc).1
 have hs:=hsF.pre hpre
 have hsub:is.length<=full.length:=by rcases hm with h|h<;>omega
 have hfl:full.length=ops.size:=by rw[hlen]; simp
 have hgetF : ∀ (k:Nat) (o:Oper),ops[k]?=some o -> ∃ i,full[k]?=some i/\cI P ids N true ops un k o=some i:=fun k o ho=>by
  have:=(qd2 hc).2 k o (by simpa using ho)
  simpa using this
 have hget : ∀ (k:Nat) (o:Oper),k<is.length->ops[k]?=some o -> ∃ i,is[k]?=some i/\cI P ids N true ops un k o=some i:=fun k o hk ho=>by grind
 have fin : ∀ (listed:Array Bool) (a:Act) (Γ : Ctx) (fr:Fr),listed.size=ops.size->(∀ i,listed.getD i false=true->i<is.length)->SInv fid Γ00 Γ is T val A fr (fun i=>listed.getD i false=true)->FrRep fid Γ N fr a.tmps->a.defers=ds ->
   Region.ready .any ops listed=[]->Q .normal a Γ.w:=by
  intro listed a Γ fr hsz hin hi hf hd hr
  have all : ∀ j,j<ops.size->listed.getD j false=true:=fun j=>by
   induction j using Nat.strongRecOn with
   |_ j ih=>
    intro hj
    cases hl:listed.getD j false with
    |true=>rfl
    |false=>
     exfalso
     have:j∈Region.ready .any ops listed:=by
      rw[mem_ready]
      have hjs:j<listed.size:=by omega
      refine⟨?_,ops[j],by simp[hj],fun e he hb=>?_⟩
      ·simp[Array.getD,hjs] at hl ⊢; exact hl
      ·have h1:=(hs.edge j ops[j] e (by simp[hj]) (by simpa using he) hb).1
       have:=hs.lt _ _ h1
       exact ih e.on this (by omega)
     rw[hr] at this; cases this
  obtain⟨K,hK,hσ,hK1,_⟩:=hi.stage
  have hil:is.length=ops.size:=by grind
  have e1 : Γ.σ = (T is.length).2:=by
   rw[hσ]
   refine (qrB ht hK (Wj _) fun j J h1 h2 hJ=>?_).symm
   cases hcj:J.op.chain with
   |false=>rfl
   |true=>have:=hK1 j J (all j (by omega)) hJ hcj; omega
  obtain⟨f1,f2⟩:=qi9 hs ht is.length (Wj _)
  refine hk (by omega) Γ a e1 hi.real hi.step ⟨hf.1,fun t v htN hv=>hf.2 t v htN ?_⟩ hd
  by_cases hw : ∃ (i:Nat) (I:Pm.I),is[i]?=some I/\I.dst=some t
  ·obtain⟨i,I,hI,hdI⟩:=hw
   have hi':=(Wd.1 hI).1
   rw[hi.fr1 i I t (all i (by omega)) hI hdI,<- hv,f1 i I t hi' hI hdI]
  ·rw[hi.fr2 t (fun i I _ hI hdI=>hw ⟨i,I,hI,hdI⟩),<- hv,f2 t (fun i I _ hI hdI=>hw ⟨i,I,hI,hdI⟩)]
 intro fuel
 induction fuel with
 |zero=>
  intro listed a Γ fr hsz hin hcnt hi hf hd
  have hr:Region.ready .any ops listed=[]:=by
   cases hr:Region.ready .any ops listed with
   |nil=>rfl
   |cons j rest=>
    exfalso
    have hj:j∈Region.ready .any ops listed:=by rw[hr]; simp
    obtain⟨h0,o,ho,_⟩:=mem_ready.1 hj
    have hjs:j<listed.size:=by have:=(Yk.1 ho).1; omega
    have hm:listed[j]∈listed.toList.filter (· == false):=by
     rw[List.mem_filter]
     refine⟨by simp,?_⟩
     simp[Array.getD,hjs] at h0
     simp[h0]
    rw[WL hcnt] at hm
    cases hm
  exact⟨hr,fin listed a Γ fr hsz hin hi hf hd hr⟩
 |succ fuel ih=>
  intro listed a Γ fr hsz hin hcnt hi hf hd
  refine⟨fin listed a Γ fr hsz hin hi hf hd,fun j hj=>?_⟩
  obtain⟨h0,o,ho,hready⟩:=mem_ready.1 hj
  have hjo:j<ops.size:=(Yk.1 ho).1
  have hjs:j<listed.size:=by omega
  have hE : ¬ listed.getD j false=true:=by
   simp[Array.getD,hjs] at h0 ⊢; exact h0
  have hA : ∀ i,A i j->listed.getD i false=true:=fun i hij=>by
   obtain⟨e,he,hb,hor⟩:=hs.back j o i ho hij
   have:=hready e (by simpa using he) hb
   rcases hor with rfl|hor
   ·exact this
   ·exact hi.down i e.on this hor
  rcases Yc j is.length with hjl|hjl
  rotate_left
  ·rcases hm with hm|⟨hm1,hm2,JP,u,σP,hJP,hwP,hrunP,hchP,hkP⟩
   ·omega
   ·by_cases hjm:j=is.length
    ·obtain⟨J,hJ,hcI⟩:=hgetF j o ho
     rw[hjm,hJP] at hJ; cases hJ
     obtain⟨k1,k2,k3,k4⟩:=qch hcI
     obtain⟨r1,_,r3⟩:=qoi hsF hpre hpre' ht hca hi (j:=j) (by omega) (by rw[hjm]; exact hJP) hE hA
     have hwcong:qaR fr JP.guard=qaR (T j).1 JP.guard:=by grind [qaR,I.looks]
     unfold wpOpIn
     simp only[ho]
     rw[qb2 (ops:=ops) hf k4 (by rw[hwcong,hjm]; exact hwP)]
     simp only[if_true]
     have hop:cOp P ids N o.op=some JP.op:=by
      rcases qek k1 with ⟨t,d,e1,e2,e3,e4⟩|⟨hop,hnf⟩
      ·rw[e4] at hchP; cases hchP
      ·exact hop
     refine qk9 hid hC hop hi.real hf (v:=u) (σ' := σP) ?_ fun Γ' x f1 f2 f3 f4=>hkP Γ' a x f1 f2 (hi.step.trans f3) hf.1 hd f4
     rw[r3 hchP,qm3 (fr:=fr) (fr':=(T j).1) (fun t ht'=>r1 t (by simp[I.looks,ht'])),hjm]
     exact hrunP
    ·grind
  obtain⟨J,hJ,hcI⟩:=hget j o hjl ho
  obtain⟨k1,k2,k3,k4⟩:=qch hcI
  obtain⟨r1,r2,_⟩:=qoi hsF hpre hpre' ht hca hi (by omega) (hpre _ _ hJ) hE hA
  have r2:=r2 hjl
  have hwcong:qaR fr J.guard=qaR (T j).1 J.guard:=by grind [qaR,I.looks]
  have hsz':(listed.setIfInBounds j true).size=ops.size:=by simpa using hsz
  have hcnt':((listed.setIfInBounds j true).toList.filter (· == false)).length=fuel:=by
   have hlj:listed.toList[j]?=some false:=by
    simp[Array.getD,hjs] at h0
    simp[hjs,h0]
   have gen : ∀ (l:List Bool) (j:Nat),l[j]?=some false->((l.set j true).filter (· == false)).length+1=(l.filter (· == false)).length:=by
    intro l
    induction l with
    |nil=>intro j h; simp at h
    |cons b l ih'=>
     intro j h
     cases j with
     |zero=>simp at h; subst h; simp
     |succ j=>
      have:=ih' j (by simpa using h)
      cases b<;>simp_all
   have:=gen listed.toList j hlj
   rw[Array.toList_setIfInBounds]
   omega
  have hin' : ∀ i,(listed.setIfInBounds j true).getD i false=true->i<is.length:=fun i h=>by
   by_cases e:i=j
   ·omega
   ·rw[getD_set_ne false (Yj e)] at h; exact hin i h
  have hE' : ∀ i,(listed.setIfInBounds j true).getD i false=true↔(listed.getD i false=true\/i=j):=fun i=>by
   by_cases e:i=j
   ·subst e; simp[Array.getD,hjs]
   ·rw[getD_set_ne false (Yj e)]; simp[e]
  have go : ∀ (Γ':Ctx) (x:Value),Real fid Γ'->Step Γ00 Γ'->Ext Γ Γ'->Rep fid Γ' (val j) x ->
    (J.op.chain=true->qaR (T j).1 J.guard=some true -> Γ'.σ = (T (j+1)).2)->((J.op.chain=false\/qaR (T j).1 J.guard=some false) -> Γ'.σ = Γ.σ) ->
    (∀ (i:Nat) (I:Pm.I) (k l:Nat),is[i]?=some I->I.op = .fill k->i≠j->listed.getD i false≠true->(T 0).1.get k=some (.ptr l 0) -> Γ'.μ l=none) ->
    wpAnyIn (FR ro) 0 P .any ops Q fuel (listed.setIfInBounds j true) (a.put o.dst x) Γ'.w:=by
   intro Γ' x g1 g2 g3 g4 g5 g6 g7
   refine ih _ _ Γ' (fr.put J.dst (val j)) hsz' hin' hcnt' ?_ (k2 ▸ FrRep.put (a:=a) (dst:=J.dst) (hf.ext g3) (by rw[k2]; exact k3) g4) (by cases o.dst<;>exact hd)
   obtain⟨K,hK,hσ,hK1,hK2⟩:=hi.stage
   refine⟨g1,g2,?_,fun i I t hEi hI hdI=>?_,fun t hn=>?_,fun i I k l hI hfill hEi hl=>?_,fun i i' hEi hAi=>?_⟩
   ·-- the stage
    by_cases hcj:J.op.chain=true
    ·by_cases hw:qaR (T j).1 J.guard=some true
     ·refine⟨j+1,by have:=(Wd.1 hJ).1; omega,g5 hcj hw,fun i I hEi hI hci=>?_,fun i I hlt hI hci=>?_⟩
      ·grind
      ·rw[hE']
       by_cases e:i=j
       ·exact .inr e
       ·rcases hs.chn i j I J hI hJ e hci hcj with h|h
        ·exact .inl (hA i h)
        ·have:=hs.lt j i h; omega
     ·-- an operation that was not wanted
      have hwf:qaR (T j).1 J.guard=some false:=by
       obtain⟨h|h,_⟩:=ht.step j J hJ
       ·exact absurd h.1 hw
       ·exact h.1
      have hTj:(T (j+1)).2=(T j).2:=by
       obtain⟨h|h,_⟩:=ht.step j J hJ
       ·exact absurd h.1 hw
       ·exact h.2.2.1
      have hKj:K<=j:=by grind
      refine⟨j+1,by have:=(Wd.1 hJ).1; omega,?_,fun i I hEi hI hci=>?_,fun i I hlt hI hci=>?_⟩
      ·grind
      ·grind
      ·rw[hE']
       by_cases e:i=j
       ·exact .inr e
       ·rcases hs.chn i j I J hI hJ e hci hcj with h|h
        ·exact .inl (hA i h)
        ·have:=hs.lt j i h; omega
    ·grind
   ·rcases (hE' i).1 hEi with h|rfl
    ·have hne:i≠j:=fun e=>hE (e ▸ h)
     have h1:=hi.fr1 i I t h hI hdI
     have h2:J.dst≠some t:=hs.uniq i j I J t hI hJ hne hdI
     cases hdj:J.dst with
     |none=>simpa [Fr.put,hdj] using h1
     |some d=>
      have:d≠t:=fun e=>h2 (by rw[hdj,e])
      simp only[Fr.put,Fr.get,if_neg this]; exact h1
    ·grind [Fr.put,Fr.get]
   ·have hJn:=hn j J ((hE' j).2 (.inr rfl)) hJ
    have h1:=hi.fr2 t (fun i I hEi hI=>hn i I ((hE' i).2 (.inl hEi)) hI)
    cases hdj:J.dst with
    |none=>simpa [Fr.put,hdj] using h1
    |some d=>
     have:d≠t:=fun e=>hJn (by rw[hdj,e])
     simp only[Fr.put,Fr.get,if_neg this]; exact h1
   ·grind
   ·rcases (hE' i').1 hEi with h|rfl
    ·exact (hE' i).2 (.inl (hi.down i i' h hAi))
    ·exact (hE' i).2 (.inl (hA i hAi))
  have hplace : ∀ (i:Nat) (I:Pm.I) (k l:Nat),is[i]?=some I->I.op = .fill k->(T 0).1.get k=some (.ptr l 0)->l < Γ.σ.length /\ Γ00.σ.length<=l:=fun i I k l hI hfill hl=>by
   have hil:=(Wd.1 hI).1
   obtain⟨o',ho'⟩ : ∃ o',ops[i]?=some o':=⟨ops[i]'(by omega),by simp⟩
   obtain⟨I',hI',hcI'⟩:=hget i o' hil ho'
   rw[hI] at hI'; cases hI'
   obtain⟨q1,_⟩:=qch hcI'
   rcases qek q1 with ⟨t,d,e1,e2,_,e3⟩|⟨_,e⟩
   ·rw[hfill] at e3; cases e3
    obtain⟨l',z,m1,m2,_,m3⟩:=hh.at_ i o' t d ho' e1 e2
    rw[hl] at m1; cases m1
    obtain⟨K,hK,hσ,_⟩:=hi.stage
    have:=qoh ht (WK K) hK
    have h3:=(Wd.1 m3).1
    exact⟨by rw[hσ]; omega,m2⟩
   ·rw[hfill] at e; cases e
  unfold wpOpIn
  simp only[ho]
  obtain⟨hst,hfr⟩:=ht.step j J hJ
  rcases hst with ⟨hw,hrun,hev⟩|⟨hw,hval,hσj,_⟩
  ·rw[qb2 (ops:=ops) hf k4 (by rw[hwcong]; exact hw)]
   simp only[if_true]
   obtain⟨σ2,hrun2,hch,hnc⟩:=r2 _ _ hrun (fun _=>hev) hw
   rcases qek k1 with ⟨t,d,e1,e2,e3,e4⟩|⟨hop,hnf⟩
   ·-- a qbD allocation
    obtain⟨l,z,m1,m2,m3,m4⟩:=hh.at_ j o t d ho e1 e2
    have hjl:=(Wd.1 hJ).1
    have hkey:(T j).1.get (N+d)=(T 0).1.get (N+d):=(qi9 hs ht j (by omega)).2 (N+d) (fun i I hlt hI hdI=>by
     have hio:i<ops.size:=Nat.lt_trans hlt hjo
     obtain⟨o',ho'⟩ : ∃ o',ops[i]?=some o':=⟨ops[i],by simp[hio]⟩
     obtain⟨I',hI',hcI'⟩:=hget i o' (Wd.1 hI).1 ho'
     rw[hI] at hI'; cases hI'
     obtain⟨_,q2,q3,_⟩:=qch hcI'
     exact absurd (q3 (N+d) (by rw[<- q2]; exact hdI)) (Nat.not_lt_of_le (Nat.le_add_right N d)))
    have hval:val j = .ptr l 0:=by grind [qaE]
    have hnot : Γ.μ l=none:=hi.hole j J (N+d) l hJ e4 hE m1
    have hobj : Γ.σ[l]?=some (.cells ((qay z).map .dat)):=by
     obtain⟨K,hK,hσ,hK1,hK2⟩:=hi.stage
     rw[hσ,<- m4]
     have hesj:es[j]?=some (.read l):=by
      rw[hev,e4]; simp only[qdn,hkey,m1,qdx]
     have hal:=(hca j J l hJ hesj).resolve_right (fun ⟨_,_,_,_,e,_⟩=>by rw[e4] at e; cases e)
     refine qtK ht (WK K) hK fun i I _ h2 hI hci=>?_
     have hne:i≠j:=fun e=>by subst e; rw[hJ] at hI; cases hI; rw[e4] at hci; cases hci
     have hun:i∈J.un:=by
      rcases hs.fl i j I J hI hJ hne hci (by rw[e4]; rfl) with h|h
      ·exact absurd (hi.down j i (hK2 i I h2 hI hci) h) hE
      ·exact h
     have h3:=(Wd.1 m4).1
     exact⟨W9 h3 (qoh ht (WK i) (by omega)),fun n L' h=>(qcI hal i hun n L' h).1⟩
    obtain⟨u1,u2,u3⟩:=qvo hi.real l _ (.cells z.cells t) hobj hnot (fun Γ' e hx=>by
     subst e
     simp only[RepOb,grow,if_pos]
     exact⟨trivial,z.cells,t,qal _ _,Reps_dat.2 (qa6 (qbV m3))⟩)
    refine qnk (x := .pointer (some ⟨Γ.w.heap.size,0,none⟩)) (w' := Γ.w.alloc (.cells z.cells t)) (fun _=>trivial) (by simp[e1]) ?_ ?_
    ·simp only[execOp,e1,Instr.alloc,newVar,newRow]
     simp[qbf m3]
    ·refine go _ (.pointer (some ⟨Γ.w.heap.size,0,none⟩)) u1 ⟨hi.step.ext.trans u2,Frm.trans hi.step.ext.size hi.step.frm u3,fun l' hl' hn'=>?_⟩ u2 ?_ (fun h=>by rw[e4] at h; cases h) (fun _=>rfl) (fun i I k l' hI hfill hne hEi hl'=>?_)
     ·simp only[bind]
      rw[if_neg (by omega)]
      exact hi.step.non l' hl' hn'
     ·rw[hval]
      simp only[Rep]
      exact⟨Γ.w.heap.size,by simp[bind],rfl,⟨_,hobj,rfl⟩⟩
     ·simp only[bind]
      have:l'≠l:=fun e=>by
       subst e
       have hil:=(Wd.1 hI).1
       obtain⟨o',ho'⟩ : ∃ o',ops[i]?=some o':=⟨ops[i]'(by omega),by simp⟩
       obtain⟨I',hI',hcI'⟩:=hget i o' hil ho'
       rw[hI] at hI'; cases hI'
       obtain⟨q1,q2,_⟩:=qch hcI'
       rcases qek q1 with ⟨t',d',e1',e2',_,e3'⟩|⟨_,e'⟩
       ·rw[hfill] at e3'; cases e3'
        have hdd:=hh.one j o t d i o' t' d' _ ho e1 e2 ho' e1' e2' m1 hl'
        subst hdd
        exact hs.uniq i j I J d hI hJ hne (by rw[q2,e2']) (by rw[k2,e2])
       ·rw[hfill] at e'; cases e'
      rw[if_neg this]
      exact hi.hole i I k l' hI hfill hEi hl'
   ·refine qkn hid hC hop hi.real hf hrun2 fun Γ' x f1 f2 f3 f4=>?_
    refine go Γ' x f2 (hi.step.trans f3) f3.ext f4 (fun h _=>by rw[f1,hch h]) (fun h=>?_) (fun i I k l hI hfill hne hEi hl=>?_)
    ·rcases h with h|h
     ·rw[f1,hnc h]
     ·rw[hw] at h; cases h
    ·obtain⟨p1,_⟩:=hplace i I k l hI hfill hl
     exact f3.non l p1 (hi.hole i I k l hI hfill hEi hl)
  ·rw[qb2 (ops:=ops) hf k4 (by rw[hwcong]; exact hw)]
   simp only[Wn,if_false]
   refine⟨fun _ _=>trivial,go Γ undef hi.real hi.step (.refl _) (by rw[hval]; exact qiK) (fun _ h=>by rw[hw] at h; cases h) (fun _=>rfl) (fun i I k l hI hfill hne hEi hl=>hi.hole i I k l hI hfill hEi hl)⟩
end
end
end Go.Pm
