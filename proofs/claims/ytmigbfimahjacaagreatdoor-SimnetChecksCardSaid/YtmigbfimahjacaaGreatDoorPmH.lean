/- More operations that only compute. -/
import Derived.Test.YtmigbfimahjacaaGreatDoorPmAL
import Derived.Test.YtmigbfimahjacaaGreatDoorPmC
import Derived.Laws.Small
import Derived.Lib.ConvBytes
import Derived.Laws.StructEq
import Derived.ChangeKeysEq
import Derived.IntWalk
set_option linter.unusedSimpArgs false
set_option linter.unusedVariables false
namespace Go.Pm
section
variable{P:Program}{ids:Ids}{fid:Fid}{N:Nat}
section
variable{Γ : Ctx}{fr:Fr}{ρ : Operand->Value}{o:Oper}{v:V}{σ':S}{C:Task->Option Res}
theorem qaC{v x:Value}(h:Rep fid Γ (.dat (.lit v)) x):x=v/\qbo v=true:=by simpa [Rep,RepD] using h
theorem qdf{v:Value}(h:qbo v=true):Rep fid Γ (.dat (.lit v)) v:=by simp[Rep,RepD,h]
theorem qwV(hr:Real fid Γ){x:Operand}{u:V}(ho:o.op = .move x\/o.op = .assign x)(hu:Rep fid Γ u (ρ x)):Comes P fid Γ ρ o u Γ.σ:=by
 refine .pure hr (x := ρ x) ?_ hu
 rcases ho with ho|ho<;>simp[execOp,ho]
theorem qs2 (hr:Real fid Γ) {c x y:Operand} {u u':V} {b:Bool} (ho:o.op = .pick c x y) (hc:Rep fid Γ (.dat (.lit (.bool b))) (ρ c)) (hu:b=true->Rep fid Γ u (ρ x)) (hu':b=false->Rep fid Γ u' (ρ y)) :
  Comes P fid Γ ρ o (if b then u else u') Γ.σ:=by
 have h:=(qaC hc).1
 cases b with
 |true=>exact .pure hr (x := ρ x) (by simp[execOp,ho,h,asBool]) (hu rfl)
 |false=>exact .pure hr (x := ρ y) (by simp[execOp,ho,h,asBool]) (hu' rfl)
theorem qsj {op:BinOp} {t:TypeId} {x y:Operand} {A B r:Value} (h:qrf op A B=some r) (w:World) :
  (do eqGuard op t x y A B; binOp op t A B:Sem Value).run P w = .ok r w/\qbo r=true:=by
 cases A with
 |int k a=>
  cases B with
  |int k' b=>
   simp only[qrf] at h
   split at h
   ·rename_i hk
    subst hk
    cases op<;>simp only at h<;>first
     | (cases h; done)
     | (split at h
        ·cases h
        ·rename_i hb; cases h
         first
         | (simp[eqGuard,binOp,Op.intDiv,hb,qbo]; done)
         | (simp[eqGuard,binOp,Op.shift,hb,qbo,qye,qyf]; done))
     | (cases h; simp[eqGuard,binOp,Op.intArith,Op.intCmp,qbo]; done)
     | (cases h; simp[eqGuard,binOp,Op.intArith,Op.intCmp,qbo,eqI,bne]; done)
     | (cases h; simp[eqGuard,binOp,Op.intBits,qbo,qtP]; done)
   ·cases op<;>simp only at h<;>first
     | (cases h; done)
     | (split at h
        ·cases h
        ·rename_i hb; cases h
         simp[eqGuard,binOp,Op.shift,hb,qbo,qye,qyf])
  |_=>simp[qrf] at h
 |string a=>
  cases B with
  |string b=>
   cases op<;>simp only[qrf] at h<;>first
    | (cases h; done)
    | (split at h
       ·cases h
       ·rename_i hb; cases h
        simp only[eqGuard,binOp,Op.stringOp,if_neg hb]
        simp[qbo])
    | (cases h; simp[eqGuard,binOp,Op.stringOp,qbo]; done)
    | (cases h; simp[eqGuard,binOp,Op.stringOp,qbo,eqS]; done)
  |_=>simp[qrf] at h
 |_=>simp[qrf] at h
theorem qy2 (hr:Real fid Γ) {op:BinOp} {t t':TypeId} {x y:Operand} {A B r:Value} (ho:o.op = .binOp op t x y t') (hx:Rep fid Γ (.dat (.lit A)) (ρ x)) (hy:Rep fid Γ (.dat (.lit B)) (ρ y))
  (h:qrf op A B=some r):Comes P fid Γ ρ o (.dat (.lit r)) Γ.σ:=by
 obtain⟨h1,h2⟩:=qsj (P:=P) (t:=t) (x:=x) (y:=y) h Γ.w
 refine .pure hr (x:=r) ?_ (qdf h2)
 simp only[execOp,ho,(qaC hx).1,(qaC hy).1]
 rw[Sem.run_bind,h1]
 simp
theorem qwW (hr:Real fid Γ) {op:BinOp} {t t':TypeId} {x y:Operand} {a b:Bool} (neg:Bool) (hop:op=if neg then .neq else .eql) (ho:o.op = .binOp op t x y t') (ht:P.underlying t=some .bool)
  (hx:Rep fid Γ (.dat (.lit (.bool a))) (ρ x)) (hy:Rep fid Γ (.dat (.lit (.bool b))) (ρ y)):Comes P fid Γ ρ o (.bool (if neg then !(a==b) else a==b)) Γ.σ:=by
 refine .pure hr (x := .bool (if neg then !(a==b) else a==b)) ?_ (qdf rfl)
 simp only[execOp,ho,(qaC hx).1,(qaC hy).1]
 subst hop
 cases neg
 ·simp only[Wz,if_false,eqGuard,binOp,Sem.run_bind,run_equal_bool _ t a b ht,Result.andThen_ok]
  simp
 ·simp only[if_true,eqGuard,binOp,Sem.run_bind,run_equal_bool _ t a b ht,Result.andThen_ok]
  simp
theorem qlN(d:Nat){t:TypeId}{ms}(ht:P.underlying t=some (.interface ms))(a:TypeId)(b:Value)(w:World):(Op.equalIn (d+1) t (.iface a b) .nilIface).run P w = .ok false w:=by
 unfold Op.equalIn
 simp only[Sem.run_bind,qam ht,Result.andThen_ok,Sem.run_pure]
theorem qoE(d:Nat){t:TypeId}{ms}(ht:P.underlying t=some (.interface ms))(w:World):(Op.equalIn (d+1) t .nilIface .nilIface).run P w = .ok true w:=by
 unfold Op.equalIn
 simp only[Sem.run_bind,qam ht,Result.andThen_ok,Sem.run_pure]
theorem qjl(d:Nat){t e:TypeId}(ht:P.underlying t=some (.pointer e))(a:Addr)(w:World):(Op.equalIn (d+1) t (.pointer (some a)) (.pointer none)).run P w = .ok false w:=by
 unfold Op.equalIn
 simp only[Sem.run_bind,qam ht,Result.andThen_ok,Sem.run_pure]
theorem qmH(d:Nat){t e:TypeId}(ht:P.underlying t=some (.pointer e))(w:World):(Op.equalIn (d+1) t (.pointer none) (.pointer none)).run P w = .ok true w:=by
 unfold Op.equalIn
 simp only[Sem.run_bind,qam ht,Result.andThen_ok,Sem.run_pure]
 rfl
theorem qjm {p b:Bool} {v:V} {x nv:Value} {t:TypeId} (hx:Rep fid Γ v x) (h:qvm p v=some b)
  (ht:(p=false/\nv = .nilIface /\ ∃ ms,P.underlying t=some (.interface ms))\/(p=true/\nv = .pointer none /\ ∃ e,P.underlying t=some (.pointer e))) (w:World) :
  (Op.equal t x nv).run P w = .ok b w/\((∃ a c,x = .iface a c/\nv = .nilIface)\/(x = .nilIface/\nv = .nilIface)\/(∃ a,x = .pointer a/\nv = .pointer none)):=by
 unfold qvm at h
 split at h<;>cases h
 ·rcases ht with ⟨h1,_⟩|⟨_,rfl,e,he⟩
  ·cases h1
  ·simp only[Rep] at hx; obtain⟨b,_,rfl,_⟩:=hx
   exact⟨qjl 9999 he _ w,.inr (.inr ⟨_,rfl,rfl⟩)⟩
 ·rcases ht with ⟨h1,_⟩|⟨_,rfl,e,he⟩
  ·cases h1
  ·simp only[Rep,RepD] at hx; obtain⟨b,_,_,rfl,_⟩:=hx
   exact⟨qjl 9999 he _ w,.inr (.inr ⟨_,rfl,rfl⟩)⟩
 ·rcases ht with ⟨h1,_⟩|⟨_,rfl,e,he⟩
  ·cases h1
  ·obtain rfl:=(qaC hx).1
   exact⟨qmH 9999 he w,.inr (.inr ⟨_,rfl,rfl⟩)⟩
 ·rcases ht with ⟨_,rfl,e,he⟩|⟨h1,_⟩
  ·simp only[Rep] at hx; obtain⟨y,rfl,_⟩:=hx
   exact⟨qlN 9999 he _ _ w,.inl ⟨_,_,rfl,rfl⟩⟩
  ·cases h1
 ·rcases ht with ⟨_,rfl,e,he⟩|⟨h1,_⟩
  ·obtain rfl:=(qaC hx).1
   exact⟨qoE 9999 he w,.inr (.inl ⟨rfl,rfl⟩)⟩
  ·cases h1
theorem qkb (hr:Real fid Γ) {op:BinOp} {t t':TypeId} {x:Operand} {nv:Value} {v:V} {b:Bool} (p neg:Bool) (hop:op=if neg then .neq else .eql) (ho:o.op = .binOp op t x (.const nv) t') (hρ : ρ (.const nv)=nv)
  (ht:(p=false/\nv = .nilIface /\ ∃ ms,P.underlying t=some (.interface ms))\/(p=true/\nv = .pointer none /\ ∃ e,P.underlying t=some (.pointer e)))
  (hx:Rep fid Γ v (ρ x)) (h:qvm p v=some b):Comes P fid Γ ρ o (.bool (if neg then !b else b)) Γ.σ:=by
 obtain⟨h1,h2⟩:=qjm hx h ht Γ.w
 refine .pure hr (x := .bool (if neg then !b else b)) ?_ (qdf rfl)
 simp only[execOp,ho,hρ]
 generalize ρ x=y at *
 subst hop
 rcases h2 with ⟨a,c,rfl,rfl⟩|⟨rfl,rfl⟩|⟨a,rfl,rfl⟩<;>cases neg<;>simp[eqGuard,binOp,h1]
theorem qwX(d:Nat){t e:TypeId}(ht:P.underlying t=some (.slice e))(a:Option Addr)(n c:Nat)(w:World):(Op.equalIn (d+1) t (.slice a n c) (.slice none 0 0)).run P w = .ok a.isNone w:=by
 unfold Op.equalIn
 cases a<;>simp only[Sem.run_bind,qam ht,Result.andThen_ok,Sem.run_pure]<;>rfl
theorem qnx (hr:Real fid Γ) {op:BinOp} {t t' e:TypeId} {x:Operand} {v:V} {b:Bool} (neg:Bool) (hop:op=if neg then .neq else .eql) (ho:o.op = .binOp op t x (.const (.slice none 0 0)) t') (hρ : ρ (.const (.slice none 0 0)) = .slice none 0 0)
  (ht:P.underlying t=some (.slice e)) (hx:Rep fid Γ v (ρ x)) (h:qrG v=some b):Comes P fid Γ ρ o (.bool (if neg then !b else b)) Γ.σ:=by
 have key : ∃ a n c,ρ x = .slice a n c/\a.isNone=b:=by
  unfold qrG at h
  split at h<;>cases h
  ·exact⟨_,_,_,(qaC hx).1,rfl⟩
  ·simp only[Rep,RepD] at hx
   obtain⟨_,_,_,_,h,_⟩:=hx
   exact⟨_,_,_,h,rfl⟩
  ·simp only[Rep] at hx
   obtain⟨_,_,_,_,h,_⟩:=hx
   exact⟨_,_,_,h,rfl⟩
  ·simp only[Rep] at hx
   obtain⟨_,_,h,_⟩:=hx
   exact⟨_,_,_,h,rfl⟩
  ·simp only[Rep] at hx
   obtain⟨_,_,h,_⟩:=hx
   exact⟨_,_,_,h,rfl⟩
  ·simp only[Rep] at hx
   obtain⟨_,_,h,_⟩:=hx
   exact⟨_,_,_,h,rfl⟩
 obtain⟨a,n,c,hy,rfl⟩:=key
 have h1:(Op.equal t (.slice a n c) (.slice none 0 0)).run P Γ.w = .ok a.isNone Γ.w:=qwX 9999 ht a n c Γ.w
 refine .pure hr (x := .bool (if neg then !a.isNone else a.isNone)) ?_ (qdf rfl)
 simp only[execOp,ho,hρ,hy]
 subst hop
 cases neg<;>simp[eqGuard,binOp,h1]
theorem qwY(hr:Real fid Γ){t:TypeId}{u:Nat}(hty:fid.ty u=t){x:Operand}{v:V}{d:TypeDesc}(ho:o.op = .makeInterface t x)(ht:P.underlying t=some d)(hd : ∀ ms,d ≠ .interface ms)(hx:Rep fid Γ v (ρ x)):Comes P fid Γ ρ o (.iface u v) Γ.σ:=by
 refine .pure hr (x := .iface t (ρ x)) ?_ ?_
 ·simp only[execOp,ho,Instr.makeInterface,Sem.run_bind,qam ht,Result.andThen_ok]
  cases d<;>first | (exact absurd rfl (hd _)) | simp
 ·simp only[Rep]; exact⟨_,by rw[hty],hx⟩
theorem qsk(hr:Real fid Γ){name:String}{xs:Array Operand}{x:Operand}{u g:Nat}{v:V}(ho:o.op = .makeFunc (.method name) xs #[])(hxs:xs = #[x])(hx:Rep fid Γ (.iface u v) (ρ x))(hm:fid.mt g (fid.ty u) name):Comes P fid Γ ρ o (.bm g v) Γ.σ:=by
 simp only[Rep] at hx
 obtain⟨y,h1,h2⟩:=hx
 subst hxs
 refine .pure hr (x := .func (.method name) #[.iface (fid.ty u) y] #[]) ?_ ?_
 ·simp[execOp,ho,Instr.makeFunc,h1]
 ·simp only[Rep]
  exact⟨_,_,_,rfl,hm,h2⟩
theorem qzE (hr:Real fid Γ) {op:UnOp} {t:TypeId} {x:Operand} {A r:Value} (ho:o.op = .unOp op t x) (hx:Rep fid Γ (.dat (.lit A)) (ρ x))
  (h:unV op A=some r):Comes P fid Γ ρ o (.dat (.lit r)) Γ.σ:=by
 have key:(Op.unary op A).run P Γ.w = .ok r Γ.w/\qbo r=true:=by
  cases A<;>cases op<;>simp only[unV] at h<;>first
   | (cases h; done)
   | (cases h; simp[Op.unary,Op.intArith,qbo]; done)
   | (cases h; simp[Op.unary,Op.intBits,qbo,qtP]; done)
 refine .pure hr (x:=r) ?_ (qdf key.2)
 simp only[execOp,ho,(qaC hx).1]
 rw[Sem.run_bind,key.1]
 simp
theorem qqv (hr:Real fid Γ) {k:CK} {s t:TypeId} {x:Operand} {A r:Value} {d:TypeDesc} (ho:o.op = .convert s t x) (hx:Rep fid Γ (.dat (.lit A)) (ρ x))
  (hs:P.underlying s=some d) (ht:(∃ j,k = .int j/\P.underlying t=some (.int j))\/(k = .intStr/\P.underlying t=some .string)\/(k = .strStr/\P.underlying t=some .string))
  (h:qpK k A=some r):Comes P fid Γ ρ o (.dat (.lit r)) Γ.σ:=by
 have key:(convert s t A).run P Γ.w = .ok r Γ.w/\qbo r=true:=by
  rcases ht with ⟨j,rfl,ht⟩|⟨rfl,ht⟩|⟨rfl,ht⟩<;>cases A<;>simp only[qpK] at h<;>first
   | (cases h; done)
   | (cases h
      simp only[convert,Sem.run_bind,qam hs,qam ht,Result.andThen_ok]
      simp[Conv.intToInt,Conv.intToString,qbo])
 refine .pure hr (x:=r) ?_ (qdf key.2)
 simp only[execOp,ho,(qaC hx).1]
 rw[Sem.run_bind,key.1]
 simp
theorem qkc(hr:Real fid Γ){x:Operand}{u:V}(ho:o.op = .nilCheck x)(hu:Rep fid Γ u (ρ x))(h:(∃ l k,u = .ptr l k)\/(∃ cs k,u = .dat (.imm cs k)) \/ ∃ l n k,u = .eptr l n k):Comes P fid Γ ρ o u Γ.σ:=by
 have : ∃ a,ρ x = .pointer (some a):=by grind [Rep,RepD]
 obtain⟨a,ha⟩:=this
 refine .pure hr (x := ρ x) ?_ hu
 simp[execOp,ho,ha]
theorem qqw(hr:Real fid Γ){x:Operand}{t:Nat}{u:V}(ho:o.op = .nilCheck x)(hu:Rep fid Γ (.iface t u) (ρ x)):Comes P fid Γ ρ o (.iface t u) Γ.σ:=by
 refine .pure hr (x := ρ x) ?_ hu
 simp only[Rep] at hu
 obtain⟨y,h1,_⟩:=hu
 simp[execOp,ho,h1]
theorem qg8 {t e:TypeId} {i:TypeInfo} {name:String} {m:Method} {f:FuncId} (hi:P.info? t=some i) (hm:i.methods.find? (·.name==name)=some m) (hp:m.path = #[]) (hf:m.func=some (f,true)) (n:Nat) (v:Value) (w:World) :
  (nilAhead (n+1) t v name).run P w = .ok (some false) w:=by
 unfold nilAhead
 simp only[Sem.run_bind,qa2 hi,Result.andThen_ok,hm,hp,followBlind,Sem.run_pure,hf]
theorem qqx(hr:Real fid Γ)(hmt : ∀ g t nm,fid.mt g t nm ↔ ∃ f,methT P t nm=some f/\ids.fn f=some g){x:Operand}{g:Nat}{u:V}(ho:o.op = .nilCheck x)(hu:Rep fid Γ (.bm g u) (ρ x)):Comes P fid Γ ρ o (.bm g u) Γ.σ:=by
 refine .pure hr (x := ρ x) ?_ hu
 simp only[Rep] at hu
 obtain⟨t,nm,y,h1,h2,h3⟩:=hu
 obtain⟨f,hf,_⟩:=(hmt _ _ _).1 h2
 unfold methT at hf
 split at hf
 ·rename_i i e hi hu
  split at hf
  ·rename_i m hm
   split at hf
   ·rename_i hp
    split at hf
    ·rename_i f' hf'
     simp only[execOp,ho,h1,Sem.run_bind,run_program,Result.andThen_ok]
     have:(#[Value.iface t y]:Array Value)[0]?=some (.iface t y):=rfl
     simp only[this,Sem.run_bind,run_program,Result.andThen_ok,Made.depth,qg8 (e:=e) hi hm (Array.isEmpty_iff.1 hp) hf']
     simp
    ·cases hf
   ·cases hf
  ·cases hf
 ·cases hf
theorem qgh{k:Nat}{p q:V}{x:Value}(hp:Rep fid Γ p x)(h:qcJ k p=some q) : ∃ a,x = .pointer (some a)/\Rep fid Γ q (.pointer (some (a.add k))):=by
 unfold qcJ at h
 split at h
 ·grind [Rep,qcJ,qa9]
 ·grind [Rep,RepD,qcJ,qa9]
 ·grind [Rep,qcJ,qa9]
 ·cases h
theorem qmI (hr:Real fid Γ) {s:TypeId} {f:Nat} {x:Operand} {p q:V} {fields:Array Field} {fd:Field} {n:Nat} (ho:o.op = .fieldAddr s x f) (hp:Rep fid Γ p (ρ x))
  (hs:P.underlying s=some (.struct fields)) (hf:fields[f]?=some fd) (hn:qaH P fd.type=some n) (h0:n≠0) (h:qcJ fd.offset p=some q):Comes P fid Γ ρ o q Γ.σ:=by
 obtain⟨a,h1,h2⟩:=qgh hp h
 refine .pure hr ?_ h2
 simp only[execOp,ho,Instr.fieldAt,h1,Instr.sureAddr,Sem.run_bind,qam hs,Result.andThen_ok,hf,fieldPlace,qaG hn]
 simp[h0]
theorem qfm{u:V}{x:Value}{cs:List V}(hu:Rep fid Γ u x)(h:u.aggCells=some cs) : ∃ xs,x = .agg xs.toArray/\Reps fid Γ cs xs:=by
 unfold V.aggCells at h
 split at h
 ·cases h
  simp only[Rep,RepD] at hu
  obtain⟨vs,rfl,h⟩:=hu
  exact⟨vs,rfl,Reps_dat.2 h⟩
 ·cases h
  simpa only [Rep] using hu
 ·cases h
theorem qny {t:TypeId} {agg:Bool} {off n:Nat} {xs:List Value} {cs vs:List V} {u:V} (hs:(agg=true/\qaJ P t=some true/\qaH P t=some n)\/(agg=false/\qaJ P t=some false/\n=1))
  (hx:Reps fid Γ cs xs) (hc:qad cs off n=some vs) (hu:qbV agg vs=some u) (w:World) : ∃ y,(part t xs.toArray off).run P w = .ok y w/\Rep fid Γ u y:=by
 obtain⟨c1,c2,c3⟩:=qfw hc
 have h4:Reps fid Γ vs ((xs.drop off).take n):=by rw[c1]; exact qbI (qb1 hx off) n
 rcases hs with ⟨rfl,ha,hsz⟩|⟨rfl,ha,rfl⟩
 ·rcases qdq h4 hu with ⟨_,h5⟩|⟨h5,_⟩
  ·refine⟨_,?_,h5⟩
   simp only[part,Sem.run_bind,qcG ha,Result.andThen_ok,if_true,qaG hsz,Sem.run_pure]
   congr 2
   apply WG
   simp[List.take_drop]
  ·cases h5
 ·rcases qdq h4 hu with ⟨h5,_⟩|⟨_,x,hx',h5⟩
  ·cases h5
  ·refine⟨x,?_,h5⟩
   have:xs[off]?=some x:=by
    have:((xs.drop off).take 1)[0]?=some x:=by rw[hx']; rfl
    simpa using this
   simp only[part,Sem.run_bind,qcG ha,Result.andThen_ok]
   simp[this]
theorem qqy (hr:Real fid Γ) {s:TypeId} {f:Nat} {x:Operand} {p u:V} {agg:Bool} {n:Nat} {fields:Array Field} {fd:Field} {cs vs:List V} (ho:o.op = .field s x f) (hp:Rep fid Γ p (ρ x))
  (hs:P.underlying s=some (.struct fields)) (hf:fields[f]?=some fd) (hn:(agg=true/\qaJ P fd.type=some true/\qaH P fd.type=some n)\/(agg=false/\qaJ P fd.type=some false/\n=1))
  (ha:p.aggCells=some cs) (hc:qad cs fd.offset n=some vs) (hu:qbV agg vs=some u):Comes P fid Γ ρ o u Γ.σ:=by
 obtain⟨xs,h1,h2⟩:=qfm hp ha
 obtain⟨y,h3,h4⟩:=qny hn h2 hc hu Γ.w
 refine .pure hr ?_ h4
 simp only[execOp,ho,Instr.field,h1,asAgg,Sem.run_bind,qam hs,Result.andThen_ok,hf]
 simp[h3]
theorem qmJ (hr:Real fid Γ) {t e:TypeId} {n:Nat} {x i:Operand} {p q:V} {k:IntKind} {j:Int} (ho:o.op = .indexAddr t x i) (hp:Rep fid Γ p (ρ x)) (hi:Rep fid Γ (.dat (.lit (.int k j))) (ρ i))
  (ht:P.underlying t=some (.slice e)) (hn:qaH P e=some n) (h:qai n p j=some q):Comes P fid Γ ρ o q Γ.σ:=by
 have key : ∃ a len cap,ρ x = .slice (some a) len cap/\0<=j/\j<len/\Rep fid Γ q (.pointer (some (a.add (j.toNat*n)))):=by
  unfold qai at h
  split at h
  ·grind [Rep,RepD,qaH,qai,Comes,qa9]
  ·grind [Rep,RepD,qaH,qai,Comes,qa9]
  ·grind [Rep,qaH,qai,Comes,qa9]
  ·split at h
   ·rename_i hj
    cases h
    simp only[Rep] at hp ⊢
    obtain⟨a,cap,hx,h2,h0,h3,h4⟩:=hp
    obtain⟨hj1,hj2,rfl⟩:=hj
    refine⟨_,_,_,hx,hj1,hj2,_,rfl,h3,fun ob cs k1 k2=>⟨(h4 ob cs k1 k2).1,fun hl=>?_⟩⟩
    obtain⟨b,arr,e,g1,rfl,g3,g4⟩:=(h4 ob cs k1 k2).2 hl
    exact⟨b,arr,e,g1,by rw[qa9],g3,Yc (Nat.add_le_add_left (WB _ h2) _) g4⟩
   ·cases h
  ·split at h
   ·rename_i hj
    cases h
    simp only[Rep] at hp ⊢
    obtain⟨a,cap,hx,h2,h0,h3,h4⟩:=hp
    obtain⟨hj1,hj2,rfl⟩:=hj
    refine⟨_,_,_,hx,hj1,hj2,_,rfl,h3,fun ob cs k1 k2=>⟨(h4 ob cs k1 k2).1,fun hl=>?_⟩⟩
    obtain⟨b,arr,e,g1,ga,g3,g4,g5,g6⟩:=(h4 ob cs k1 k2).2 hl
    exact⟨b,arr,e,g1,by rw[ga (by omega),qa9,Yj],g3,g5⟩
   ·cases h
  ·cases h
 obtain⟨a,len,cap,h1,h2,h3,h4⟩:=key
 refine .pure hr ?_ h4
 simp only[execOp,ho,Instr.indexAt,(qaC hi).1,asIntOf,h1,Sem.run_bind,Sem.run_pure,Result.andThen_ok,qam ht]
 simp[qaG hn,h2,h3]
theorem qlO (hr:Real fid Γ) {t e:TypeId} {n len:Nat} {x i:Operand} {p q:V} {k:IntKind} {j:Int} (ho:o.op = .indexAddr t x i) (hp:Rep fid Γ p (ρ x)) (hi:Rep fid Γ (.dat (.lit (.int k j))) (ρ i))
  (ht:P.underlying t=some (.array len e)) (hn:qaH P e=some n) (hj:0<=j/\j<len) (h:qcJ (j.toNat*n) p=some q):Comes P fid Γ ρ o q Γ.σ:=by
 obtain⟨a,h1,h2⟩:=qgh hp h
 refine .pure hr ?_ h2
 simp only[execOp,ho,Instr.indexAt,(qaC hi).1,asIntOf,h1,Instr.sureAddr,Sem.run_bind,Sem.run_pure,Result.andThen_ok,qam ht]
 simp[qaG hn,hj.1,hj.2]
theorem qnz (hr:Real fid Γ) {t e:TypeId} {agg:Bool} {n len:Nat} {x i:Operand} {p u:V} {k:IntKind} {j:Int} {cs vs:List V} (ho:o.op = .index t x i) (hp:Rep fid Γ p (ρ x)) (hi:Rep fid Γ (.dat (.lit (.int k j))) (ρ i))
  (ht:P.underlying t=some (.array len e)) (hn:(agg=true/\qaJ P e=some true/\qaH P e=some n)\/(agg=false/\qaJ P e=some false/\n=1/\qaH P e=some 1)) (hj:0<=j/\j<len)
  (ha:p.aggCells=some cs) (hc:qad cs (j.toNat*n) n=some vs) (hu:qbV agg vs=some u):Comes P fid Γ ρ o u Γ.σ:=by
 obtain⟨xs,h1,h2⟩:=qfm hp ha
 obtain⟨y,h3,h4⟩:=qny (P:=P) (t:=e) (by rcases hn with h|⟨a,b,c,_⟩; exact .inl h; exact .inr ⟨a,b,c⟩) h2 hc hu Γ.w
 have hsz:qaH P e=some n:=by rcases hn with ⟨_,_,h⟩|⟨_,_,rfl,h⟩<;>exact h
 refine .pure hr ?_ h4
 simp only[execOp,ho,Instr.index,(qaC hi).1,asIntOf,h1,Sem.run_bind,Sem.run_pure,Result.andThen_ok,qam ht]
 simp[qaG hsz,hj.1,hj.2,h3]
theorem qsl (hr:Real fid Γ) {t:TypeId} {x i:Operand} {k:IntKind} {j:Int} {s:ByteArray} {c:UInt8} (ho:o.op = .index t x i) (hp:Rep fid Γ (.dat (.lit (.string s))) (ρ x)) (hi:Rep fid Γ (.dat (.lit (.int k j))) (ρ i))
  (ht:P.underlying t=some .string) (hj:0<=j) (hs:s[j.toNat]?=some c):Comes P fid Γ ρ o (.dat (.lit (.int .u8 c.toNat))) Γ.σ:=by
 refine .pure hr ?_ (qdf rfl)
 simp only[execOp,ho,Instr.index,(qaC hi).1,(qaC hp).1,asIntOf,Sem.run_bind,Sem.run_pure,Result.andThen_ok,qam ht]
 simp[hj,hs]
theorem quL (hr:Real fid Γ) {k:LK} {t:TypeId} {x:Operand} {p:V} {n:Int} {c:Call} (ho:o.op = .call c) (hcal:c.callee = .builtin .len) (hargs:c.args.toList=[x]) (hts:c.argTypes.toList=[t]) (hp:Rep fid Γ p (ρ x))
  (ht:(k = .str/\P.underlying t=some .string)\/(k = .sl /\ ∃ e,P.underlying t=some (.slice e))\/(k = .mp /\ ∃ a b,P.underlying t=some (.map a b))) (h:p.len Γ.σ k=some n):Comes P fid Γ ρ o (.dat (.lit (.int .i64 n))) Γ.σ:=by
 have ha:c.args = #[x]:=by apply WG; simpa using hargs
 have hb:c.argTypes = #[t]:=by apply WG; simpa using hts
 have key:(Builtin.len_ #[t] o.type #[ρ x]).run P Γ.w = .ok (.int .i64 n) Γ.w:=by
  unfold V.len at h
  simp only[Builtin.len_]
  split at h
  ·cases h
   rcases ht with ⟨h,_⟩|⟨_,e,ht⟩|⟨h,_⟩<;>first|cases h; done|skip
   rw[(qaC hp).1]
   simp[qam ht,goInt]
  ·cases h
   rcases ht with ⟨_,ht⟩|⟨h,_⟩|⟨h,_⟩<;>first|cases h; done|skip
   rw[(qaC hp).1]
   simp[qam ht,goInt]
  ·cases h
   rcases ht with ⟨h,_⟩|⟨_,e,ht⟩|⟨h,_⟩<;>first|cases h; done|skip
   simp only[Rep,RepD] at hp
   obtain⟨b,o',cap,vs,hx,_⟩:=hp
   rw[hx]
   simp[qam ht,goInt]
  ·cases h
   rcases ht with ⟨h,_⟩|⟨_,e,ht⟩|⟨h,_⟩<;>first|cases h; done|skip
   simp only[Rep] at hp
   obtain⟨b,cap,vs,m,hx,_⟩:=hp
   rw[hx]
   simp[qam ht,goInt]
  ·cases h
   rcases ht with ⟨h,_⟩|⟨_,e,ht⟩|⟨h,_⟩<;>first|cases h; done|skip
   simp only[Rep] at hp
   obtain⟨b,_,hx,_⟩:=hp
   rw[hx]
   simp[qam ht,goInt]
  ·cases h
   rcases ht with ⟨h,_⟩|⟨_,e,ht⟩|⟨h,_⟩<;>first|cases h; done|skip
   simp only[Rep] at hp
   obtain⟨a,cap,hx,_⟩:=hp
   rw[hx]
   simp[qam ht,goInt]
  ·cases h
   rcases ht with ⟨h,_⟩|⟨_,e,ht⟩|⟨h,_⟩<;>first|cases h; done|skip
   simp only[Rep] at hp
   obtain⟨a,cap,hx,_⟩:=hp
   rw[hx]
   simp[qam ht,goInt]
  ·split at h
   ·rename_i es hes
    cases h
    rcases ht with ⟨h,_⟩|⟨h,_⟩|⟨_,a,b,ht⟩<;>first|cases h; done|skip
    simp only[Rep] at hp
    obtain⟨b,hm,hx,_⟩:=hp
    obtain⟨_,ents,clock,h2,h3⟩:=hr.obs _ _ b hes hm
    rw[hx]
    have hl : ∀ {es:List (Value × V)} {xs:List MapEntry},RepE fid Γ es xs->xs.length=es.length:=by
     intro es
     induction es with
     |nil=>intro xs h; simp only[RepE] at h; simp[h]
     |cons a r ih=>intro xs h; obtain⟨k,v⟩:=a; simp only[RepE] at h; obtain⟨e,es',rfl,_,_,h⟩:=h; simp[ih h]
    have:=hl h3
    simp only[Ww] at this
    simp[qam ht,goInt,getObj,Sem.run,h2,this]
   ·cases h
  ·cases h
 refine .pure hr (x := .int .i64 n) ?_ (qdf rfl)
 simp only[execOp,ho,resolve,hcal,ha,hb,invoke,builtin,Sem.run_bind,Sem.run_pure,Result.andThen_ok]
 simp[key]
theorem qnA : ∀ {ys:List Value} {y r:Value},qpM y ys=some r->qbo y=true->(ys.foldlM Builtin.min2 y).run P Γ.w = .ok r Γ.w/\qbo r=true
 |[],y,r,h,hy=>by simp_all [qpM]
 |z::ys,y,r,h,hy=>by
  cases y<;>cases z<;>simp only[qpM] at h<;>first | (cases h; done) | skip
  have:=qnA (ys:=ys) h rfl
  simp only[List.foldlM_cons,Sem.run_bind,Builtin.min2,Sem.run_pure,Result.andThen_ok]
  exact this
theorem qgK : ∀ {vs:List V} {ys xs:List Value},qmx vs=some ys->Reps fid Γ vs xs->xs=ys /\ ∀ y∈ys,qbo y=true
 |[],ys,xs,h,hx=>by grind [qmx,Reps]
 |v::vs,ys,xs,h,hx=>by
  simp only[Reps] at hx
  obtain⟨x,xs',rfl,h1,h2⟩:=hx
  cases v with
  |dat d=>
   cases d with
   |lit u=>
    simp only[qmx] at h
    split at h
    ·rename_i us hus
     cases h
     obtain⟨h3,h4⟩:=qgK hus h2
     obtain⟨h5,h6⟩:=qaC h1
     subst h3; subst h5
     exact⟨rfl,by simpa [h6] using h4⟩
    ·cases h
   |_=>simp[qmx] at h
  |_=>simp[qmx] at h
theorem qy3 (hr:Real fid Γ) {c:Call} {vs:List V} {y r:Value} {ys:List Value} (ho:o.op = .call c) (hcal:c.callee = .builtin .min) (hp:Reps fid Γ vs (c.args.toList.map ρ))
  (hl:qmx vs=some (y::ys)) (h:qpM y ys=some r):Comes P fid Γ ρ o (.dat (.lit r)) Γ.σ:=by
 obtain⟨h1,h2⟩:=qgK hl hp
 obtain⟨h3,h4⟩:=qnA (P:=P) (Γ := Γ) h (h2 y (by simp))
 refine .pure hr (x:=r) ?_ (qdf h4)
 simp only[execOp,ho,resolve,hcal,invoke,builtin,Sem.run_bind,Sem.run_pure,Result.andThen_ok,Builtin.min_,Ya,h1,h3]
theorem qnB : ∀ {ys:List Value} {y r:Value},qpN y ys=some r->qbo y=true->(ys.foldlM Builtin.max2 y).run P Γ.w = .ok r Γ.w/\qbo r=true
 |[],y,r,h,hy=>by simp_all [qpN]
 |z::ys,y,r,h,hy=>by
  cases y<;>cases z<;>simp only[qpN] at h<;>first | (cases h; done) | skip
  have:=qnB (ys:=ys) h rfl
  simp only[List.foldlM_cons,Sem.run_bind,Builtin.max2,Sem.run_pure,Result.andThen_ok]
  exact this
theorem qy4 (hr:Real fid Γ) {c:Call} {vs:List V} {y r:Value} {ys:List Value} (ho:o.op = .call c) (hcal:c.callee = .builtin .max) (hp:Reps fid Γ vs (c.args.toList.map ρ))
  (hl:qmx vs=some (y::ys)) (h:qpN y ys=some r):Comes P fid Γ ρ o (.dat (.lit r)) Γ.σ:=by
 obtain⟨h1,h2⟩:=qgK hl hp
 obtain⟨h3,h4⟩:=qnB (P:=P) (Γ := Γ) h (h2 y (by simp))
 refine .pure hr (x:=r) ?_ (qdf h4)
 simp only[execOp,ho,resolve,hcal,invoke,builtin,Sem.run_bind,Sem.run_pure,Result.andThen_ok,Builtin.max_,Ya,h1,h3]
theorem qwZ (hr:Real fid Γ) {f:FuncId} {g:Nat} {xs ys:Array Operand} {as bs:List V} (ho:o.op = .makeFunc (.func f) xs ys) (hg:fid g=f) (ha:Reps fid Γ as (xs.toList.map ρ)) (hb:Reps fid Γ bs (ys.toList.map ρ)) :
  Comes P fid Γ ρ o (.fn g as bs) Γ.σ:=by
 refine .pure hr (x := .func (.func f) (xs.map ρ) (ys.map ρ)) ?_ ?_
 ·simp[execOp,ho,Instr.makeFunc]
 ·simp only[Rep]
  exact⟨_,_,by rw[hg]; simp[<- Array.toList_map],ha,hb⟩
theorem qnC{vs:List V}{xs:List Value}(h:Reps fid Γ vs xs){i:Nat}{v:V}(hv:vs[i]?=some v) : ∃ x,xs[i]?=some x/\Rep fid Γ v x:=by
 induction vs generalizing xs i with
 |nil=>simp at hv
 |cons u vs ih=>
  simp only[Reps] at h
  obtain⟨x,xs',rfl,h1,h2⟩:=h
  cases i with
  |zero=>simp at hv; subst hv; exact⟨x,rfl,h1⟩
  |succ i=>exact ih h2 (by simpa using hv)
theorem qqz(hr:Real fid Γ){x:Operand}{i:Nat}{vs:List V}{u:V}(ho:o.op = .extract x i)(hp:Rep fid Γ (.tup vs) (ρ x))(h:vs[i]?=some u):Comes P fid Γ ρ o u Γ.σ:=by
 simp only[Rep] at hp
 obtain⟨xs,hx,h1⟩:=hp
 obtain⟨y,h2,h3⟩:=qnC h1 h
 refine .pure hr ?_ h3
 simp[execOp,ho,hx,Instr.extract,h2]
def qiy(fid:Fid)(Γ : Ctx)(ρ : Operand->Value):Option V->Option Operand->Prop
 |none,none=>True
 |some v,some y=>Rep fid Γ v (ρ y)
 |_,_=>False
theorem qaP {x:Option V} {xo:Option Operand} {d most k:Nat} (hx:qiy fid Γ ρ x xo) (h:bound x d most=some k) :
  (xo=none/\k=d) \/ ∃ y kd i,xo=some y /\ ρ y = .int kd i/\0<=i/\i<=most/\k=i.toNat:=by
 cases x with
 |none=>
  cases xo with
  |none=>simp only[bound,Wd] at h; exact .inl ⟨rfl,h.symm⟩
  |some y=>exact hx.elim
 |some v=>
  cases xo with
  |none=>exact hx.elim
  |some y=>
   unfold bound at h
   split at h
   ·rename_i e; cases e
   ·rename_i kd i e
    cases e
    split at h
    ·rename_i hi
     cases h
     exact .inr ⟨y,kd,i,rfl,(qaC (fid:=fid) (Γ := Γ) hx).1,hi.1,hi.2,rfl⟩
    ·cases h
   ·cases h
theorem qbO {lo hi:Option V} {lx hx:Option Operand} {isSl:Bool} {n cap h l:Nat}
  (h1:qiy fid Γ ρ lo lx) (h2:qiy fid Γ ρ hi hx)
  (hn:n<=cap) (hh:bound hi n n=some h) (hl:bound lo 0 h=some l) (w:World) :
  (Instr.sliceBounds isSl n cap (lx.map ρ) (hx.map ρ) none).run P w = .ok (l,h,cap) w:=by
 rcases qaP h2 hh with ⟨rfl,rfl⟩|⟨y,kd,i,rfl,e1,e2,e3,rfl⟩<;>rcases qaP h1 hl with ⟨rfl,rfl⟩|⟨y',kd',i',rfl,f1,f2,f3,rfl⟩
 ·simp[Instr.sliceBounds]
 ·simp[Instr.sliceBounds,Instr.sliceBound,f1,asIntOf,f2,f3]
 ·simp[Instr.sliceBounds,Instr.sliceBound,e1,asIntOf,e2,show i<=(cap:Int) from by omega]
 ·simp[Instr.sliceBounds,Instr.sliceBound,e1,f1,asIntOf,e2,f2,show i<=(cap:Int) from by omega]
  omega
theorem qqA{F:Nat->Nat}{w:World}{b o:Nat}{vs:List Value}(h:Row F w b o vs)(l n:Nat):Row F w b (o+l) ((vs.drop l).take n):=by grind [Row]
theorem qmK{F:Nat->Nat}{w:World}{b o:Nat}:Row F w b o []:=⟨fun i v h=>by simp at h,fun h=>absurd h (WP _),fun v h=>by simp at h⟩
theorem qgi{lo hi:Option V}{lx hx:Option Operand}{n ll hh:Nat}(h1:qiy fid Γ ρ lo lx)(h2:qiy fid Γ ρ hi hx)(eh:bound hi n n=some hh)(el:bound lo 0 hh=some ll):ll<=hh/\hh<=n:=by
 constructor
 ·rcases qaP h1 el with ⟨_,rfl⟩|⟨_,_,i',_,_,i3,i4,rfl⟩<;>omega
 ·rcases qaP h2 eh with ⟨_,rfl⟩|⟨_,_,i',_,_,i3,i4,rfl⟩<;>omega
theorem qnD {l n off len sz ll hh cap:Nat} {a:Addr} (g2:len<=cap) (g0:0<sz) (g3 : ∃ ob,Γ.σ[l]?=some ob/\ob.isTip=true)
  (g4 : ∀ ob cs,Γ.σ[l]?=some ob->ob.rows=some cs->n<=cs.length/\(cs.length=n -> ∃ b arr e,Γ.μ l=some b/\(0<cap->a=⟨b,Γ.F b-ob.fz+off,none⟩) /\ Γ.w.heap[b]?=some (.cells arr e (0,0))/\off+len*sz<=n /\ Γ.F b-ob.fz+n<=arr.size /\ Γ.F b-ob.fz+(off+cap*sz)<=arr.size))
  (a1:ll<=hh) (a2:hh<=len):Rep fid Γ (.vw l n (off+ll*sz) (hh-ll) sz) (.slice (if cap=ll then some a else (some a).map (·.add (ll*sz))) (hh-ll) (cap-ll)):=by
 have e1:hh*sz<=len*sz:=WB _ a2
 have e2:ll*sz<=hh*sz:=WB _ a1
 have e3:(hh-ll)*sz=hh*sz-ll*sz:=Nat.sub_mul _ _ _
 have e4:(cap-ll)*sz=cap*sz-ll*sz:=Nat.sub_mul _ _ _
 have e5:hh*sz<=cap*sz:=WB _ (by omega)
 simp only[Rep]
 refine⟨if cap=ll then a else a.add (ll*sz),cap-ll,by split<;>simp,by omega,g0,g3,fun ob cs k1 k2=>⟨(g4 ob cs k1 k2).1,fun hl=>?_⟩⟩
 obtain⟨b,arr,e,j1,j2,j3,j4,j5,j6⟩:=(g4 ob cs k1 k2).2 hl
 refine⟨b,arr,e,j1,fun hc=>?_,j3,by omega,j5,by omega⟩
 rw[if_neg (by omega),j2 (by omega),qa9,Yj]
theorem qqB (hr:Real fid Γ) {t e:TypeId} {n:Nat} {x:Operand} {p u:V} {lo hi:Option V} {lx hx:Option Operand} (ho:o.op = .slice t x lx hx none) (hp:Rep fid Γ p (ρ x))
  (ht:P.underlying t=some (.slice e)) (hn:qaH P e=some n)
  (h1:qiy fid Γ ρ lo lx) (h2:qiy fid Γ ρ hi hx)
  (h:qcL n lo hi p=some u):Comes P fid Γ ρ o u Γ.σ:=by
 have fin : ∀ {a len cap l h},ρ x = .slice a len cap->(Instr.sliceBounds true len cap (lx.map ρ) (hx.map ρ) none).run P Γ.w = .ok (l,h,cap) Γ.w ->
   Rep fid Γ u (.slice (if cap=l then a else a.map (·.add (l*n))) (h-l) (cap-l))->Comes P fid Γ ρ o u Γ.σ := fun ha hb hc=>by
  refine .pure hr ?_ hc
  simp only[execOp,ho,Instr.sliceAt,Sem.run_bind,qam ht,Result.andThen_ok,Instr.slice,ha,Yd,hb,qaG hn,Sem.run_pure]
 have cut : ∀ {cs:List D} {len full':Nat} {b off cap:Nat} {vs:List Value} {l h:Nat},RepDs Γ.F Γ.w cs vs->Row Γ.F Γ.w b off vs->cs.length=len*n->len<=cap->l<=h->h<=len ->
   Rep fid Γ (.dat (.sl ((cs.drop (l*n)).take ((h-l)*n)) (h-l) false)) (.slice (if cap=l then some ⟨b,off,none⟩ else (some (⟨b,off,none⟩:Addr)).map (·.add (l*n))) (h-l) (cap-l)):=by
  intro cs len _ b off cap vs l h g1 g2 g3 g4 g5 g6
  simp only[Rep,RepD]
  by_cases hc:cap=l
  ·have:h-l=0:=by omega
   rw[this]
   refine⟨b,off,cap-l,[],by simp[hc],by omega,by simp,by simp[RepDs],qmK⟩
  ·refine⟨b,off+l*n,cap-l,((vs.drop (l*n)).take ((h-l)*n)),by simp[hc,qa9],by omega,by simp,qff (qfe g1 _) _,qqA g2 _ _⟩
 unfold qcL at h
 split at h
 ·split at h
  ·rename_i hh eh
   split at h
   ·rename_i ll el
    cases h
    have hb:=qbO (P:=P) (isSl:=true) h1 h2 (Wg 0) eh el Γ.w
    refine fin (qaC hp).1 hb ?_
    have:ll=0/\hh=0:=by grind [Rep,qaH,qiy,qcL,Comes,qaP]
    obtain⟨rfl,rfl⟩:=this
    simp only[if_true]
    exact qdf rfl
   ·cases h
  ·cases h
 ·rename_i cs len full
  split at h
  ·rename_i hh eh
   split at h
   ·rename_i ll el
    split at h
    ·rename_i hlen
     cases h
     simp only[Rep,RepD] at hp
     obtain⟨b,off,cap,vs,hx',g2,g3,g4,g5⟩:=hp
     refine fin hx' (qbO (P:=P) (isSl:=true) h1 h2 g2 eh el Γ.w) (cut (full':=0) g4 g5 hlen g2 ?_ ?_)
     ·grind [Rep,qaH,qiy,qcL,Comes,qaP]
     ·grind [Rep,qaH,qiy,qcL,Comes,qaP]
    ·cases h
   ·cases h
  ·cases h
 ·rename_i cs len sz l0
  split at h
  ·rename_i hh eh
   split at h
   ·rename_i ll el
    split at h
    ·rename_i hlen
     cases h
     simp only[Rep] at hp
     obtain⟨b,cap,vs,m,hx',g2,g4,g5,_⟩:=hp
     refine fin hx' (qbO (P:=P) (isSl:=true) h1 h2 g2 eh el Γ.w) (cut (full':=0) g4 g5 hlen g2 ?_ ?_)
     ·grind [Rep,qaH,qiy,qcL,Comes,qaP]
     ·grind [Rep,qaH,qiy,qcL,Comes,qaP]
    ·cases h
   ·cases h
  ·cases h
 ·rename_i l0 off len cap sz'
  split at h
  ·rename_i hh eh
   split at h
   ·rename_i ll el
    split at h
    ·rename_i hsz
     subst hsz
     cases h
     simp only[Rep] at hp
     obtain⟨b,hm,hx',g2,g3⟩:=hp
     refine fin hx' (qbO (P:=P) (isSl:=true) h1 h2 g2 eh el Γ.w) ?_
     have a1:ll<=hh:=by rcases qaP h1 el with ⟨_,rfl⟩|⟨_,_,i',_,_,i3,i4,rfl⟩<;>omega
     have a2:hh<=len:=by rcases qaP h2 eh with ⟨_,rfl⟩|⟨_,_,i',_,_,i3,i4,rfl⟩<;>omega
     simp only[Rep]
     refine⟨b,hm,?_,by omega,g3⟩
     by_cases hc:cap=ll
     ·simp[hc]
     ·simp[hc,qa9]
    ·cases h
   ·cases h
  ·cases h
 ·rename_i l0 m0 off len sz'
  split at h
  ·rename_i hh eh
   split at h
   ·rename_i ll el
    split at h
    ·rename_i hsz
     subst hsz
     cases h
     simp only[Rep] at hp
     obtain⟨a,cap,hx',g2,g0,g3,g4⟩:=hp
     refine fin hx' (qbO (P:=P) (isSl:=true) h1 h2 g2 eh el Γ.w) ?_
     exact qnD g2 g0 g3 g4 (qgi h1 h2 eh el).1 (qgi h1 h2 eh el).2
    ·cases h
   ·cases h
  ·cases h
 ·cases h
theorem quM (hr:Real fid Γ) {s t e:TypeId} {x:Operand} {b:ByteArray} {d:TypeDesc} (ho:o.op = .convert s t x) (hx:Rep fid Γ (.dat (.lit (.string b))) (ρ x)) (hs:P.underlying s=some d) (ht:P.underlying t=some (.slice e)) (he:P.underlying e=some (.int .u8)) :
  Comes P fid Γ ρ o (.dat (.sl (qeO b) b.size false)) Γ.σ:=by
 have hrun:=Lib.run_convert_string_bytes (P:=P) Γ.w s t e b hs ht he
 have hsz:=Lib.bytesWorld_size Γ.w e b
 have hold:=fun j hj=>Lib.bytesWorld_at_old Γ.w e b j hj
 have hnew:=Lib.bytesWorld_at_new Γ.w e b
 have hcell:=fun j hj=>Lib.bytesWorld_cell Γ.w e b j hj
 have hcap:b.size<=grownCap Γ.w b.size 0 e:=by simp only[grownCap,Question.cut]; omega
 have hasz:b.size<=(Lib.bytesCells Γ.w e b).size:=by show b.data.size<=_; simp only[Lib.bytesCells,Yg,Array.size_map]; omega
 have hw:(Lib.bytesWorld Γ.w e b).os = Γ.w.os/\(Lib.bytesWorld Γ.w e b).tape = Γ.w.tape/\(Lib.bytesWorld Γ.w e b).output = Γ.w.output:=by
  unfold Lib.bytesWorld World.freeze
  simp only[Nat.one_ne_zero,if_false]
  exact⟨rfl,rfl,rfl⟩
 generalize Lib.bytesWorld Γ.w e b=w' at *
 have hext:Ext Γ ⟨Γ.σ,Γ.μ,grow Γ.F Γ.w.heap.size b.size,w'⟩:=by
  refine⟨by simp; omega,hw.1,hw.2.1,hw.2.2,fun k=>?_,fun k i v hi hv=>?_,fun k arr t hb ha=>⟨arr,?_,rfl⟩,Wg _,fun _ ob h ht=>⟨⟨ob,h,ht⟩,fun _ h=>h⟩,fun _ m h=>⟨m,h,Wg _,fun h=>h,fun _ _ h=>h⟩,
   qeQ fun l ob h _ => .inl ⟨h,fun k hk=>⟨hk,by simp only[grow]; rw[if_neg (by have:=(hr.dom l k hk).2; omega)],fun _ _ ha=>by show w'.heap[k]?=_; rw[hold k (hr.dom l k hk).2]; exact ha⟩⟩⟩
  ·simp only[grow]; split
   ·rename_i e; subst e; rw[hr.F_size]; exact YC _
   ·exact Wg _
  ·rw[cell?_of_block (hold k (hr.F_lt (by omega)))]; exact hv
  ·rw[hold k (hr.F_lt hb)]; exact ha
 refine⟨⟨Γ.σ,Γ.μ,grow Γ.F Γ.w.heap.size b.size,w'⟩,_,rfl,⟨fun l ob k h1 h2=>?_,fun l k h=>?_,hr.inj,fun k hk=>?_,Glb.ext hext hr.glb⟩,⟨hext,⟨fun k hk hn=>⟨hold k hk,?_⟩,fun l k h _=>⟨l,h⟩⟩,fun _ _ h=>h⟩,?_,.inl (by
  simp only[execOp,ho,(qaC hx).1]; rw[Sem.run_bind,hrun]; simp; rfl)⟩
 ·have hb:=(hr.dom l k h2).2
  exact RepOb.ext hext (hold k hb) (by simp only[grow]; rw[if_neg (by omega)]) ob (hr.obs l ob k h1 h2)
 ·have:=hr.dom l k h
  exact⟨this.1,by simp; omega⟩
 ·simp only[grow] at hk ⊢
  split at hk
  ·grind
  ·rename_i e'
   obtain⟨a,t,fz,h1,h2⟩:=hr.imm k hk
   exact⟨a,t,fz,by rw[hold k (qcp h1)]; exact h1,by simpa [e'] using h2⟩
 ·simp only[grow]; rw[if_neg (by omega)]
 ·simp only[Rep,RepD]
  refine⟨Γ.w.heap.size,0,_,b.data.toList.map fun c => .int .u8 c.toNat,rfl,hcap,by simp,?_,⟨fun i v hi=>?_,fun _=>?_,?_⟩⟩
  ·have:qeO b=(b.data.toList.map fun c=>Value.int .u8 c.toNat).map .lit:=by simp[qeO]
   rw[this]
   exact qeZ fun v hv=>by obtain⟨c,_,rfl⟩:=Wm.1 hv; rfl
  ·have hi':i<b.size:=by have:=(Wb.1 hi).1; rw[Wf,Ww] at this; exact this
   have:=hcell i hi'
   rw[WF,this]
   rw[WZ] at hi
   cases hg:b.data.toList[i]? with
   |none=>rw[hg] at hi; cases hi
   |some c=>rw[hg] at hi; simp at hi; subst hi; simp[List.getD,hg]
  ·simp_all [grow]
  ·intro v hv
   obtain⟨c,_,rfl⟩:=Wm.1 hv
   rfl
theorem qsm (hr:Real fid Γ) {t:TypeId} {x:Operand} {p u:V} {lo hi:Option V} {lx hx:Option Operand} (ho:o.op = .slice t x lx hx none) (hp:Rep fid Γ p (ρ x))
  (ht:P.underlying t=some .string)
  (h1:qiy fid Γ ρ lo lx) (h2:qiy fid Γ ρ hi hx)
  (h:qjY lo hi p=some u):Comes P fid Γ ρ o u Γ.σ:=by
 unfold qjY at h
 split at h
 ·split at h
  ·rename_i hh eh
   split at h
   ·rename_i ll el
    cases h
    refine .pure hr ?_ (qdf rfl)
    have hb:=qbO (P:=P) (isSl:=false) h1 h2 (Wg _) eh el Γ.w
    simp only[execOp,ho,Instr.sliceAt,Sem.run_bind,qam ht,Result.andThen_ok,Instr.slice,(qaC hp).1,Yd,Sem.run_pure]
    simp[hb]
   ·cases h
  ·cases h
 ·cases h
end
end
section
variable{P:Program}{fid:Fid}
theorem qm7{α : Type}(l:List α) : ∀ n,(qbU n l).length=n*l.length
 |0=>by simp[qbU]
 |n+1=>by simp[qbU,qm7 l n,WW]; omega
def qbE:List KD->List Value->List Value->Option Bool
 |[],[],[]=>some true
 |k::ks,a::as,b::bs=>match qoq k a b,qbE ks as bs with
  |some x,some y=>some (x&&y)
  |_,_=>none
 |_,_,_=>none
theorem qkB : ∀ {ks:List KD} {as bs:List D} {xs ys:List Value} {F:Nat->Nat} {w:World} {b:Bool},qfk ks as bs=some b->RepDs F w as xs->RepDs F w bs ys->qbE ks xs ys=some b
 |[],as,bs,xs,ys,F,w,b,h,hx,hy=>by grind [qfk,RepDs,qbE]
 |k::ks,as,bs,xs,ys,F,w,b,h,hx,hy=>by
  cases as with
  |nil=>cases bs<;>simp[qfk] at h
  |cons a as=>
   cases bs with
   |nil=>cases a<;>simp[qfk] at h
   |cons c bs=>
    cases a<;>cases c<;>simp only[qfk] at h<;>first | (cases h; done) | skip
    rename_i u v
    simp only[RepDs,RepD] at hx hy
    obtain⟨x,xs',rfl,⟨rfl,_⟩,h1⟩:=hx
    obtain⟨y,ys',rfl,⟨rfl,_⟩,h2⟩:=hy
    split at h
    ·rename_i p q hp hq
     simp only[qbE,hp,qkB hq h1 h2]
     exact h
    ·cases h
theorem qe5 : ∀ {ks:List KD} {xs ys:List Value} {b:Bool},qbE ks xs ys=some b->xs.length=ks.length/\ys.length=ks.length
 |[],xs,ys,b,h=>by cases xs<;>cases ys<;>simp[qbE] at h ⊢
 |k::ks,xs,ys,b,h=>by
  cases xs<;>cases ys<;>simp only[qbE] at h<;>first | (cases h; done) | skip
  split at h
  ·rename_i p q hp hq
   have:=qe5 hq
   simp[this.1,this.2]
  ·cases h
theorem qev : ∀ {k1 k2:List KD} {xs ys:List Value} {b:Bool},qbE (k1++k2) xs ys=some b ->
  ∃ b1 b2,qbE k1 (xs.take k1.length) (ys.take k1.length)=some b1/\qbE k2 (xs.drop k1.length) (ys.drop k1.length)=some b2/\b=(b1&&b2)
 |[],k2,xs,ys,b,h=>⟨true,b,by simp[qbE],by simpa using h,by simp⟩
 |k::k1,k2,xs,ys,b,h=>by
  cases xs<;>cases ys<;>simp only[Wu,qbE] at h<;>first | (cases h; done) | skip
  split at h
  ·rename_i p q hp hq
   obtain⟨b1,b2,h1,h2,rfl⟩:=qev hq
   cases h
   refine⟨p&&b1,b2,?_,by simpa using h2,by rw[Bool.and_assoc]⟩
   simp only[WK,List.take_succ_cons,qbE,hp,h1]
  ·cases h
def EqV(P:Program)(D:Nat)(t:TypeId)(ks:List KD):Prop := ∀ (w:World) (x y:Value) (b:Bool),
 ((qaJ P t=some true /\ ∃ xs ys:List Value,x = .agg xs.toArray/\y = .agg ys.toArray/\qbE ks xs ys=some b)\/(qaJ P t=some false/\qbE ks [x] [y]=some b))->(Op.equalIn D t x y).run P w = .ok b w
theorem qkC {t:TypeId} {ks:List KD} (hsz:qaH P t=some ks.length) (hag:qaJ P t=some true\/(qaJ P t=some false/\ks.length=1)) {xs ys:List Value} {off:Nat} {b:Bool} {D:Nat} (hE:EqV P D t ks)
  (h:qbE ks ((xs.drop off).take ks.length) ((ys.drop off).take ks.length)=some b) (w:World) :
  ∃ x y,(part t xs.toArray off).run P w = .ok x w/\(part t ys.toArray off).run P w = .ok y w/\(Op.equalIn D t x y).run P w = .ok b w:=by
 rcases hag with ha|⟨ha,h1⟩
 ·refine⟨_,_,?_,?_,hE w _ _ b (.inl ⟨ha,(xs.drop off).take ks.length,(ys.drop off).take ks.length,rfl,rfl,h⟩)⟩
  ·simp only[part,Sem.run_bind,qcG ha,Result.andThen_ok,if_true,qaG hsz,Sem.run_pure]
   congr 2
   apply WG
   simp[List.take_drop]
  ·simp only[part,Sem.run_bind,qcG ha,Result.andThen_ok,if_true,qaG hsz,Sem.run_pure]
   congr 2
   apply WG
   simp[List.take_drop]
 ·rw[h1] at h
  obtain⟨l1,l2⟩:=qe5 h
  rw[h1] at l1 l2
  obtain⟨x,hx⟩:=List.length_eq_one_iff.1 l1
  obtain⟨y,hy⟩:=List.length_eq_one_iff.1 l2
  rw[hx,hy] at h
  have g1:xs[off]?=some x:=by
   have:((xs.drop off).take 1)[0]?=some x:=by rw[hx]; rfl
   simpa using this
  have g2:ys[off]?=some y:=by
   have:((ys.drop off).take 1)[0]?=some y:=by rw[hy]; rfl
   simpa using this
  refine⟨x,y,?_,?_,hE w x y b (.inr ⟨ha,h⟩)⟩
  ·simp only[part,Sem.run_bind,qcG ha,Result.andThen_ok]
   simp[g1]
  ·simp only[part,Sem.run_bind,qcG ha,Result.andThen_ok]
   simp[g2]
theorem qfo{t:TypeId}{o:Option (List KD)}{ks:List KD}(h:qrb P t o=some ks):o=some ks/\qaH P t=some ks.length:=by
 unfold qrb at h
 split at h
 ·grind
 ·cases h
theorem qiL{d:Nat}{t:TypeId}{ks:List KD}(h:qet P d t=some ks):qaH P t=some ks.length/\(qaJ P t=some true\/(qaJ P t=some false/\ks.length=1)):=by
 cases d with
 |zero=>simp[qet] at h
 |succ d=>
  simp only[qet] at h
  obtain⟨h1,h2⟩:=qfo h
  refine⟨h2,?_⟩
  unfold qaJ
  split at h1<;>rename_i hu<;>first | (cases h1; done) | (rw[hu]; first | (cases h1; exact .inr ⟨rfl,rfl⟩) | exact .inl rfl)
theorem qfM {D:Nat} {rec:TypeId->Option (List KD)} (hrec : ∀ t ks,rec t=some ks->qaH P t=some ks.length/\(qaJ P t=some true\/(qaJ P t=some false/\ks.length=1))/\EqV P D t ks)
  (xs ys:List Value) (w:World) : ∀ (fs:List Field) (off:Nat) (ks:List KD) (b:Bool),qcw rec off fs=some ks->qbE ks ((xs.drop off).take ks.length) ((ys.drop off).take ks.length)=some b ->
   (Op.eqFields D xs.toArray ys.toArray fs).run P w = .ok b w
 |[],off,ks,b,h,he=>by
  simp only[qcw,Wd] at h; subst h
  simp[qbE] at he; subst he
  simp[Op.eqFields]
 |f::fs,off,ks,b,h,he=>by
  simp only[qcw] at h
  split at h
  ·rename_i hc
   split at h
   ·rename_i k1 hk1
    split at h
    ·rename_i k2 hk2
     cases h
     obtain⟨b1,b2,e1,e2,rfl⟩:=qev he
     obtain⟨s1,s2,s3⟩:=hrec _ _ hk1
     rw[Yk,Yk,Nat.min_eq_left (by simp)] at e1
     have hd : ∀ l:List Value,((l.drop off).take (k1++k2).length).drop k1.length=(l.drop (off+k1.length)).take k2.length:=fun l=>by
      rw[List.drop_take,List.drop_drop]; congr 1; simp
     rw[hd,hd] at e2
     obtain⟨x,y,p1,p2,p3⟩:=qkC s1 s2 s3 e1 w
     have ih:=qfM hrec xs ys w fs _ _ _ hk2 e2
     rw[<- hc.1] at p1 p2
     simp only[Op.eqFields,hc.2,ne_eq,not_false_eq_true,if_true,Sem.run_bind,p1,p2,p3,Result.andThen_ok]
     cases b1
     ·simp
     ·simpa using ih
    ·cases h
   ·cases h
  ·cases h
theorem qgU {D:Nat} {t:TypeId} {k1:List KD} (s1:qaH P t=some k1.length) (s2:qaJ P t=some true\/(qaJ P t=some false/\k1.length=1)) (s3:EqV P D t k1)
  (xs ys:List Value) (w:World) : ∀ (n i:Nat) (b:Bool),qbE (qbU n k1) ((xs.drop (i*k1.length)).take (n*k1.length)) ((ys.drop (i*k1.length)).take (n*k1.length))=some b ->
   (Op.eqItems D t k1.length xs.toArray ys.toArray (List.range' i n)).run P w = .ok b w
 |0,i,b,he=>by
  simp[qbE,qbU] at he; subst he
  simp[Op.eqItems]
 |n+1,i,b,he=>by
  simp only[qbU] at he
  obtain⟨b1,b2,e1,e2,rfl⟩:=qev he
  rw[Yk,Yk,Nat.min_eq_left (by rw[WW]; omega)] at e1
  have hd : ∀ l:List Value,((l.drop (i*k1.length)).take ((n+1)*k1.length)).drop k1.length=(l.drop ((i+1)*k1.length)).take (n*k1.length):=fun l=>by
   rw[List.drop_take,List.drop_drop,WW,Nat.one_mul,WW,Nat.one_mul]; congr 1; omega
  rw[hd,hd] at e2
  obtain⟨x,y,p1,p2,p3⟩:=qkC s1 s2 s3 e1 w
  have ih:=qgU s1 s2 s3 xs ys w n (i+1) _ e2
  simp only[List.range'_succ,Op.eqItems,Sem.run_bind,p1,p2,p3,Result.andThen_ok]
  cases b1
  ·simp
  ·simpa using ih
theorem qpf : ∀ (d:Nat) (t:TypeId) (ks:List KD),qet P d t=some ks -> ∀ D,d<=D->EqV P D t ks
 |0,t,ks,h,D,hD=>by simp[qet] at h
 |d+1,t,ks,h,D,hD=>by
  obtain⟨D,rfl⟩ : ∃ D',D=D'+1:=⟨D-1,by omega⟩
  simp only[qet] at h
  obtain⟨h1,h2⟩:=qfo h
  intro w x y b hxy
  have hrec : ∀ t ks,qet P d t=some ks->qaH P t=some ks.length/\(qaJ P t=some true\/(qaJ P t=some false/\ks.length=1))/\EqV P D t ks:=fun t ks hk=>
   ⟨(qiL hk).1,(qiL hk).2,qpf d t ks hk D (by omega)⟩
  split at h1
  ·rename_i hu
   cases h1
   rcases hxy with ⟨ha,_⟩|⟨_,he⟩
   ·simp[qaJ,hu] at ha
   ·simp only[qbE] at he
    cases x<;>cases y<;>simp only[qoq] at he<;>first | (cases he; done) | skip
    simp at he; subst he
    exact run_equalIn_bool w D t _ _ hu
  ·rename_i k hu
   cases h1
   rcases hxy with ⟨ha,_⟩|⟨_,he⟩
   ·simp[qaJ,hu] at ha
   ·simp only[qbE] at he
    cases x<;>cases y<;>simp only[qoq] at he<;>first | (cases he; done) | skip
    rename_i k1 a k2 c
    by_cases hk:k1=k2
    ·subst hk
     simp[eqI] at he; subst he
     have:=run_equalIn_int (P:=P) w D t k1 k a c hu
     simpa using this
    ·rw[if_neg hk] at he; cases he
  ·rename_i hu
   cases h1
   rcases hxy with ⟨ha,_⟩|⟨_,he⟩
   ·simp[qaJ,hu] at ha
   ·simp only[qbE] at he
    cases x<;>cases y<;>simp only[qoq] at he<;>first | (cases he; done) | skip
    rename_i a c
    simp[eqS] at he; subst he
    have:=run_equalIn_string (P:=P) w D t a c hu
    simpa using this
  ·rename_i fs hu
   split at h1
   ·cases h1
   ·rename_i hst
    have hst':P.stoodInHeld t=false:=by simpa using hst
    rcases hxy with ⟨_,xs,ys,rfl,rfl,he⟩|⟨ha,_⟩
    ·obtain⟨l1,l2⟩:=qe5 he
     have hf:P.fieldsOf t=fs:=by simp[Program.fieldsOf,hu]
     rw[run_equalIn_struct w D t _ _ (by rw[hf]; exact hu) hst',hf]
     refine qfM hrec xs ys w fs.toList 0 ks b h1 ?_
     rw[WE,WE,Wl (by omega),Wl (by omega)]
     exact he
    ·simp[qaJ,hu] at ha
  ·rename_i len e hu
   simp only[Wc] at h1
   obtain⟨k1,hk1,rfl⟩:=h1
   rcases hxy with ⟨_,xs,ys,rfl,rfl,he⟩|⟨ha,_⟩
   ·obtain⟨l1,l2⟩:=qe5 he
    obtain⟨s1,s2,s3⟩:=hrec _ _ hk1
    have hi : ∃ i,P.info? e=some i/\i.size=k1.length:=by simp_all [qaH]
    obtain⟨i,hi,his⟩:=hi
    have hc:P.cellsOf e=k1.length:=by simp[Program.cellsOf,hi,his]
    rw[run_equalIn_array w D _ _ hu hi,hc,List.range_eq_range']
    have hl:(qbU len k1).length=len*k1.length:=qm7 k1 len
    refine qgU s1 s2 s3 xs ys w len 0 b ?_
    rw[Nat.zero_mul,WE,WE,Wl (by omega),Wl (by omega)]
    exact he
   ·simp[qaJ,hu] at ha
  ·cases h1
theorem qgv : ∀ (d:Nat) (t:TypeId) (ks:List KD),qet P d t=some ks -> ∀ k,d<=k->P.eqGuardType k t=false
 |0,t,ks,h,k,_=>by simp[qet] at h
 |d+1,t,ks,h,k,hk=>by
  obtain⟨k,rfl⟩ : ∃ k',k=k'+1:=⟨k-1,by omega⟩
  simp only[qet] at h
  obtain⟨h1,h2⟩:=qfo h
  unfold Program.eqGuardType
  split at h1<;>rename_i hu<;>first | (cases h1; done) | skip
  ·rw[hu]
  ·rw[hu]
  ·rw[hu]
  ·rename_i fs
   rw[hu]
   split at h1
   ·cases h1
   ·have key : ∀ (l:List Field) (off:Nat) (ks:List KD),qcw (qet P d) off l=some ks -> ∀ f∈l,P.eqGuardType k f.type=false:=by
     intro l
     induction l with
     |nil=>intro _ _ _ f hf; cases hf
     |cons g l ih=>
      intro off ks h f hf
      simp only[qcw] at h
      split at h
      ·split at h
       ·rename_i k1 hk1
        split at h
        ·rename_i k2 hk2
         rcases Wq.1 hf with rfl|hf
         ·exact qgv d _ _ hk1 k (by omega)
         ·exact ih _ _ hk2 f hf
        ·cases h
       ·cases h
      ·cases h
    simp only[Array.any_eq_false']
    intro f hf
    have:=key _ _ _ h1 f (by simpa using hf)
    simp[this]
  ·rw[hu]
   simp only[Wc] at h1
   obtain⟨k1,hk1,rfl⟩:=h1
   exact qgv d _ _ hk1 k (by omega)
section
variable{Γ : Ctx}{ρ : Operand->Value}{o:Oper}
theorem qrs (hr:Real fid Γ) {op:BinOp} {t t':TypeId} {x y:Operand} {as bs:List D} {ks:List KD} {b:Bool} (neg:Bool) (hop:op=if neg then .neq else .eql) (ho:o.op = .binOp op t x y t') (ht:qaJ P t=some true) (hk:qet P 20 t=some ks)
  (hx:Rep fid Γ (.dat (.agg as)) (ρ x)) (hy:Rep fid Γ (.dat (.agg bs)) (ρ y)) (h:qfk ks as bs=some b):Comes P fid Γ ρ o (.bool (if neg then !b else b)) Γ.σ:=by
 simp only[Rep,RepD] at hx hy
 obtain⟨xs,hx,h1⟩:=hx
 obtain⟨ys,hy,h2⟩:=hy
 have he:=qkB h h1 h2
 have hq:(Op.equal t (.agg xs.toArray) (.agg ys.toArray)).run P Γ.w = .ok b Γ.w:=qpf 20 t ks hk 10000 (by omega) Γ.w _ _ b (.inl ⟨ht,xs,ys,rfl,rfl,he⟩)
 have hg : ∀ op,(eqGuard op t x y (.agg xs.toArray) (.agg ys.toArray)).run P Γ.w = .ok () Γ.w:=fun op=>run_eqGuard_agg Γ.w op t x y _ _ (qgv 20 t ks hk _ (by unfold Program.depth Made.depth; omega))
 refine .pure hr (x := .bool (if neg then !b else b)) ?_ (qdf rfl)
 simp only[execOp,ho,hx,hy,Sem.run_bind,hg,Result.andThen_ok]
 subst hop
 cases neg<;>simp[binOp,hq]
end
end
section
variable{P:Program}{ids:Ids}{fid:Fid}{N:Nat}
section
variable{Γ : Ctx}{fr:Fr}{ρ : Operand->Value}{o:Oper}{v:V}{σ':S}{C:Task->Option Res}
inductive PartsRep(fid:Fid)(Γ : Ctx)(place:Nat->Option (Nat × Nat)):List (Nat × Nat × V)->List (Nat × Value)->Prop
 |nil:PartsRep fid Γ place [] []
 | cons {i off n:Nat} {v:V} {x:Value} {ps:List (Nat × Nat × V)} {xs:List (Nat × Value)} (hp:place i=some (off,n)) (hv:Rep fid Γ v x) (h:PartsRep fid Γ place ps xs) :
   PartsRep fid Γ place ((off,n,v)::ps) ((i,x)::xs)
theorem qcr (hid:Ties P ids fid) (hr:Real fid Γ) {a:Act} (hf:FrRep fid Γ N fr a.tmps) {place:Nat->Option (Nat × Nat)} : ∀ {xs:List (Nat × Operand)} {ys:List (Nat × Nat × X)} {ps:List (Nat × Nat × V)},
  qiw ids N place xs=some ys->qcf fr ys=some ps->PartsRep fid Γ place ps (xs.map fun (i,x)=>(i,a.eval x))
 |[],ys,ps,hc,hv=>by
  simp only[qiw,Wd] at hc; subst hc
  simp only[qcf,Wd] at hv; subst hv
  exact .nil
 | (i,x)::xs,ys,ps,hc,hv=>by
  simp only[qiw] at hc
  split at hc
  ·rename_i off n y ys' h1 h2 h3
   cases hc
   simp only[qcf] at hv
   split at hv
   ·rename_i u us h4 h5
    cases hv
    exact .cons h1 (qan hid hr hf h2 h4) (qcr hid hr hf h3 h5)
   ·cases hv
  ·cases hc
theorem qlB : ∀ (xs:List Value) (cs:Array Value) (off k:Nat),off+k+xs.length<=cs.size ->
  ((xs.zipIdx k).foldl (fun cs (c,j)=>cs.setIfInBounds (off+j) c) cs).toList=cs.toList.take (off+k)++(xs++cs.toList.drop (off+k+xs.length))
 |[],cs,off,k,_=>by simp
 |x::xs,cs,off,k,h=>by
  simp only[WK] at h
  simp only[List.zipIdx_cons,List.foldl_cons]
  rw[qlB xs _ off (k+1) (by simp; omega)]
  have hlt:off+k<cs.toList.length:=by rw[Ww]; omega
  rw[Array.toList_setIfInBounds,show off+(k+1)=off+k+1 from by omega]
  rw[List.take_succ_eq_append_getElem (by simpa using hlt),List.getElem_set_self,List.take_set_of_le (Wg _),List.drop_set_of_lt (by omega)]
  simp
  omega
theorem qfc {place:Nat->Option (Nat × Nat)} {ps:List (Nat × Nat × V)} {xs:List (Nat × Value)} (h:PartsRep fid Γ place ps xs) : ∀ {cs:List V} {arr:Array Value} {r:List V},
  Reps fid Γ cs arr.toList->qdu cs ps=some r -> ∃ arr',Instr.fill place arr xs=some arr'/\Reps fid Γ r arr'.toList:=by
 induction h with
 |nil=>intro cs arr r hc hr; simp only[qdu,Wd] at hr; subst hr; exact⟨arr,rfl,hc⟩
 | @cons i off n v x ps xs hp hv h ih=>
  intro cs arr r hc hr
  simp only[qdu] at hr
  split at hr
  ·rename_i hcond
   obtain⟨c1,c2,c3⟩:=hcond
   have hcells:=qdX hv
   have hl1:=Reps.length hcells
   have hl2:=Reps.length hc
   simp only[Ww] at hl1 hl2
   have hfold:=qlB x.cells.toList arr off 0 (by simp; omega)
   have hfold':(x.cells.zipIdx.foldl (fun cs (c,j)=>cs.setIfInBounds (off+j) c) arr).toList=arr.toList.take off++(x.cells.toList++arr.toList.drop (off+n)):=by
    rw[<- Array.foldl_toList,Array.toList_zipIdx,hfold]
    simp[hl1,c1]
   obtain⟨arr',h1,h2⟩:=ih (cs:=cs.take off++(v.cells++cs.drop (off+n))) (arr:=x.cells.zipIdx.foldl (fun cs (c,j)=>cs.setIfInBounds (off+j) c) arr)
    (by rw[hfold']; exact Reps_append.2 ⟨_,_,rfl,qbI hc off,Reps_append.2 ⟨_,_,rfl,hcells,qb1 hc _⟩⟩) hr
   refine⟨arr',?_,h2⟩
   simp only[Instr.fill,hp]
   rw[if_neg (by simp; omega)]
   exact h1
  ·cases hr
theorem qja(w:World) : ∀ {fs:List Field} {ps:List (Nat × Nat)},qgP P fs=some ps->(fs.mapM fun f=>do pure (f.offset,<- sizeOf f.type):Sem (List (Nat × Nat))).run P w = .ok ps w
 |[],ps,h=>by simp only[qgP,Wd] at h; subst h; simp
 |f::fs,ps,h=>by
  simp only[qgP] at h
  split at h
  ·rename_i n ps' h1 h2
   cases h
   simp only[List.mapM_cons,Sem.run_bind,qaG h1,Result.andThen_ok,Sem.run_pure]
   rw[qja w h2]
   simp
  ·cases h
theorem qr1 (hr:Real fid Γ) {t:TypeId} {parts:Array (Nat × Operand)} {fields:Array Field} {z:Value} {pl:List (Nat × Nat)} {ps:List (Nat × Nat × V)} {cs:List V}
  (ho:o.op = .build t parts) (ht:P.underlying t=some (.struct fields)) (hz:qcj P t=some z) (hpl:qgP P fields.toList=some pl)
  (hps:PartsRep fid Γ (fun i=>pl[i]?) ps (parts.toList.map fun (i,x)=>(i,ρ x))) (h:qdu ((qaz z).map .dat) ps=some cs):Comes P fid Γ ρ o (qc6 cs) Γ.σ:=by
 obtain⟨arr',h1,h2⟩:=qfc hps (Reps_dat.2 (qaS (qbh hz))) h
 refine .pure hr (x := .agg arr') ?_ (by have:=qdW h2; simpa using this)
 simp only[execOp,ho,Instr.build,Sem.run_bind,qaZ hz,Result.andThen_ok,qam ht,Array.mapM_eq_mapM_toList]
 have:=qja (P:=P) Γ.w hpl
 simp only[Sem.run_map] at this ⊢
 rw[this]
 simp only[Result.andThen_ok,Ya,WV]
 have e:(parts.toList.map fun x=>match x with | (i,x)=>(i,ρ x))=parts.toList.map fun (i,x)=>(i,ρ x):=rfl
 rw[h1]
 simp
theorem qr2 (hr:Real fid Γ) {t e:TypeId} {parts:Array (Nat × Operand)} {len n:Nat} {z:Value} {ps:List (Nat × Nat × V)} {cs:List V}
  (ho:o.op = .build t parts) (ht:P.underlying t=some (.array len e)) (hz:qcj P t=some z) (hn:qaH P e=some n)
  (hps:PartsRep fid Γ (fun i=>some (i*n,n)) ps (parts.toList.map fun (i,x)=>(i,ρ x))) (h:qdu ((qaz z).map .dat) ps=some cs):Comes P fid Γ ρ o (qc6 cs) Γ.σ:=by
 obtain⟨arr',h1,h2⟩:=qfc hps (Reps_dat.2 (qaS (qbh hz))) h
 refine .pure hr (x := .agg arr') ?_ (by have:=qdW h2; simpa using this)
 simp only[execOp,ho,Instr.build,Sem.run_bind,qaZ hz,Result.andThen_ok,qam ht,qaG hn,Ya]
 rw[h1]
 simp
theorem qb4{α : Type}(l:List α) : ∀ n,(qbU n l).length=n*l.length
 |0=>by simp[qbU]
 |n+1=>by simp[qbU,qb4 l n,WW]; omega
theorem qhi{α : Type}(l:List α) : ∀ (n j:Nat),j<n*l.length->(qbU n l)[j]?=l[j % l.length]?
 |0,j,h=>by simp at h
 |n+1,j,h=>by
  simp only[qbU]
  by_cases hj:j<l.length
  ·rw[Wo hj,Nat.mod_eq_of_lt hj]
  ·rw[WC (by omega),qhi l n (j-l.length) (by rw[WW] at h; omega)]
   congr 1
   rw[<- Nat.mod_eq_sub_mod (by omega)]
theorem qcs(zs:Array Value)(n:Nat)(hz:0<zs.size):((Array.range (n*zs.size)).map (zs[· % zs.size]!)).toList=qbU n zs.toList:=by
 apply List.ext_getElem?
 intro j
 by_cases hj:j<n*zs.size
 ·rw[qhi _ _ _ (by simpa using hj)]
  simp[hj,Array.getElem!_eq_getD,Array.getD,Nat.mod_lt j hz]
 ·rw[WX (by simp; omega),WX (by rw[qb4]; simp; omega)]
theorem qcb{F:Nat->Nat}{w:World}{ds:List D}{xs:List Value}(h:RepDs F w ds xs) : ∀ n,RepDs F w (qbU n ds) (qbU n xs)
 |0=>by simp[qbU,RepDs]
 |n+1=>RepDs_append.2 ⟨_,_,rfl,h,qcb h n⟩
theorem qlC (hr:Real fid Γ) {ds:List D} {arr:Array Value} (e:TypeId) (hd:RepDs Γ.F Γ.w ds arr.toList) (h1' : ∀ v∈arr.toList,v.oneCell'=true) (n cap:Nat) (full:Bool) (hc:n<=cap) (hf:full=true->cap=n) :
  ∃ Γ':Ctx,Γ'.σ = Γ.σ /\ Real fid Γ'/\Step Γ Γ' /\ Γ'.w = Γ.w.alloc (.cells arr e)/\Rep fid Γ' (.dat (.sl ds n full)) (.slice (some ⟨Γ.w.heap.size,0,none⟩) n cap):=by
 obtain⟨h1,h2⟩:=qne hr arr e arr.size (Wg _)
 refine⟨⟨Γ.σ,Γ.μ,grow Γ.F Γ.w.heap.size arr.size,Γ.w.alloc (.cells arr e)⟩,rfl,h1,h2,rfl,?_⟩
 simp only[Rep,RepD]
 refine⟨Γ.w.heap.size,0,cap,arr.toList,rfl,hc,hf,RepDs.ext h2.ext _ _ hd,fun i v hi=>?_,fun _=>by simp[grow],h1'⟩
 simp only[World.cell?,qav]
 simpa using hi
theorem fillV_one : ∀ {ps:List (Nat × Nat × V)} {cs r:List V},qdu cs ps=some r->cs.all V.one=true->r.all V.one=true
 |[],cs,r,h,hc=>by simp only[qdu,Wd] at h; subst h; exact hc
 | (off,n,v)::ps,cs,r,h,hc=>by
  simp only[qdu] at h
  split at h
  ·rename_i hcond
   refine fillV_one h ?_
   rw[Ws] at hc ⊢
   intro x hx
   rcases We.1 hx with hx|hx
   ·exact hc x (W8 hx)
   ·rcases We.1 hx with hx|hx
    ·exact Ws.1 hcond.2.2 x hx
    ·exact hc x (Yx hx)
  ·cases h
theorem qj5{α : Type}{x : α}{l:List α} : ∀ {n:Nat},x∈qbU n l->x∈l
 |0,h=>by simp[qbU] at h
 |n+1,h=>by
  simp only[qbU] at h
  rcases We.1 h with h|h
  ·exact h
  ·exact qj5 h
theorem qhj{z:Value}(h:qeo z=true)(n:Nat):((qbU n (qaz z)).map V.dat).all V.one=true:=by
 rw[Ws]
 intro x hx
 obtain⟨d,hd,rfl⟩:=Wm.1 hx
 have:=qj5 hd
 unfold qaz at this
 obtain⟨v,hv,rfl⟩:=Wm.1 this
 simp only[qeo,Ws,Wh] at h
 exact (h v hv).2
theorem qj6 (hr:Real fid Γ) {cs:List V} {arr:Array Value} (e:TypeId) (hd:Reps fid Γ cs arr.toList) (h1 : ∀ v∈arr.toList,v.oneCell'=true) (n:Nat) :
  ∃ Γ':Ctx,Γ'.σ = Γ.σ /\ Real fid Γ'/\Step Γ Γ' /\ Γ'.w = Γ.w.alloc (.cells arr e)/\Rep fid Γ' (.rw cs n) (.slice (some ⟨Γ.w.heap.size,0,none⟩) n n):=by
 obtain⟨k1,k2⟩:=qne hr arr e arr.size (Wg _)
 refine⟨⟨Γ.σ,Γ.μ,grow Γ.F Γ.w.heap.size arr.size,Γ.w.alloc (.cells arr e)⟩,rfl,k1,k2,rfl,?_⟩
 simp only[Rep]
 refine⟨Γ.w.heap.size,0,n,arr.toList,rfl,Wg _,Reps.ext k2.ext _ _ hd,fun j v hj=>?_,fun _=>?_,h1⟩
 ·simp only[World.cell?,qav]
  simpa using hj
 ·simp[grow]
theorem qni (hr:Real fid Γ) {t e:TypeId} {parts:Array (Nat × Operand)} {len n:Nat} {z:Value} {ps:List (Nat × Nat × V)} {cs:List V} {u:V}
  (ho:o.op = .buildSlice t len parts) (ht:P.underlying t=some (.slice e)) (hz:qcj P e=some z) (hn:qaH P e=some n) (hlen:len*n<=2 ^ 24) (hzn:z.cells.size=n) (h0:0<n)
  (hps:PartsRep fid Γ (fun i=>some (i*n,n)) ps (parts.toList.map fun (i,x)=>(i,ρ x))) (h:qdu ((qbU len (qaz z)).map .dat) ps=some cs) (hd:(match qaI (qdQ cs) with|some ds => .dat (.sl ds len true) | none => .rw (qdQ cs) len)=u) :
  Comes P fid Γ ρ o u Γ.σ:=by
 have hzero:Reps fid Γ ((qbU len (qaz z)).map .dat) ((Array.range (len*n)).map (z.cells[· % z.cells.size]!)).toList:=by
  subst hzn
  rw[qcs _ _ h0]
  exact Reps_dat.2 (qcb (qaS (qbh hz)) len)
 obtain⟨arr',h1,h2⟩:=qfc hps hzero h
 have h3:=qnG h2
 have hone:=qbP h2 (fillV_one h (qhj (qbh hz) len))
 have key : ∃ Γ':Ctx,Γ'.σ = Γ.σ /\ Real fid Γ'/\Step Γ Γ' /\ Γ'.w = Γ.w.alloc (.cells arr' e)/\Rep fid Γ' u (.slice (some ⟨Γ.w.heap.size,0,none⟩) len len):=by
  subst hd
  split
  ·rename_i ds hds
   rw[qcH hds] at h3
   exact qlC hr e (Reps_dat.1 h3) hone len len true (Wg _) (fun _=>rfl)
  ·exact qj6 hr e h3 hone len
 obtain⟨Γ',k1,k2,k3,k4,k5⟩:=key
 refine⟨Γ',_,k1,k2,k3,k5,.inl ?_⟩
 rw[k4]
 simp only[execOp,ho,Instr.buildSlice,Sem.run_bind,qam ht,Result.andThen_ok,qaG hn,if_neg (show ¬ len*n > 2 ^ 24 by omega)]
 by_cases hl:len*n=0
 ·simp only[hl,if_true,Sem.run_bind,Result.andThen_ok,Sem.run_pure]
  have e0 : ∀ f:Nat->Value,Array.map f (Array.range 0) = #[]:=fun f=>by simp
  rw[hl,e0] at h1
  rw[Ya,e0,h1]
  simp[newRow]
 ·simp only[hl,if_false,Sem.run_bind,qaZ hz,Result.andThen_ok,Sem.run_pure]
  rw[Ya,h1]
  simp[newRow]
theorem qg2 : ∀ {ps:List (Nat × Nat × V)} {cs r:List V},qdu cs ps=some r->r.length=cs.length
 |[],cs,r,h=>by simp only[qdu,Wd] at h; subst h; rfl
 | (off,n,v)::ps,cs,r,h=>by
  simp only[qdu] at h
  split at h
  ·rename_i hcond
   rw[qg2 h]
   simp only[Wt,WR,Yf,hcond.1]
   have:=hcond.2.1
   omega
  ·cases h
theorem qqf (hr:Real fid Γ) {t e:TypeId} {parts:Array (Nat × Operand)} {len n:Nat} {z:Value} {ps:List (Nat × Nat × V)} {cs:List V} {ds:List D}
  (ho:o.op = .buildSlice t len parts) (ht:P.underlying t=some (.slice e)) (hz:qcj P e=some z) (hn:qaH P e=some n) (hlen:len*n<=2 ^ 24) (hzn:z.cells.size=n) (h0:0<n)
  (hps:PartsRep fid Γ (fun i=>some (i*n,n)) ps (parts.toList.map fun (i,x)=>(i,ρ x))) (h:qdu ((qbU len (qaz z)).map .dat) ps=some cs) (hd:qaI cs=some ds) :
  Comes P fid Γ ρ o (.own Γ.σ.length len n) (Γ.σ ++ [.vec cs]):=by
 have hzero:Reps fid Γ ((qbU len (qaz z)).map .dat) ((Array.range (len*n)).map (z.cells[· % z.cells.size]!)).toList:=by
  subst hzn
  rw[qcs _ _ h0]
  exact Reps_dat.2 (qcb (qaS (qbh hz)) len)
 obtain⟨arr',h1,h2⟩:=qfc hps hzero h
 have hone:=qbP h2 (fillV_one h (qhj (qbh hz) len))
 have hlen2:arr'.toList.length=cs.length:=Reps.length h2
 have hcl:cs.length=len*n:=by
  rw[qg2 h,Wf,qb4]
  unfold qaz
  rw[Wf,Ww,hzn]
 have hsz:arr'.size=cs.length:=by rw[<- hlen2,Ww]
 obtain⟨k1,k2⟩:=qbW hr (.vec cs) (.cells arr' e) 0
  (fun Γ' e' hx'=>by
   subst e'
   simp only[RepOb,grow,if_pos,WF,WE]
   have htk:arr'.toList.take cs.length=arr'.toList:=Wl (by omega)
   refine⟨_,e,qav _ _,by rw[hsz]; exact Wg _,?_,?_⟩
   ·rw[htk]; exact Reps.ext hx' _ _ h2
   ·rw[htk]; exact hone) (fun h=>absurd h (WP _))
 have hrun:(execOp ρ o).run P Γ.w = .ok (.value (.slice (some ⟨Γ.w.heap.size,0,none⟩) len len)) (Γ.w.alloc (.cells arr' e)):=by
  simp only[execOp,ho,Instr.buildSlice,Sem.run_bind,qam ht,Result.andThen_ok,qaG hn,if_neg (show ¬ len*n > 2 ^ 24 by omega)]
  by_cases hl:len*n=0
  ·simp only[hl,if_true,Sem.run_bind,Result.andThen_ok,Sem.run_pure]
   have e0 : ∀ f:Nat->Value,Array.map f (Array.range 0) = #[]:=fun f=>by simp
   rw[hl,e0] at h1
   rw[Ya,e0,h1]
   simp[newRow]
  ·simp only[hl,if_false,Sem.run_bind,qaZ hz,Result.andThen_ok,Sem.run_pure]
   rw[Ya,h1]
   simp[newRow]
 refine⟨_,.slice (some ⟨Γ.w.heap.size,0,none⟩) len len,rfl,k1,k2,?_,.inl hrun⟩
 simp only[Rep]
 refine⟨_,_,rfl,Wg _,h0,⟨.vec cs,by simp,rfl⟩,fun ob cs' q1 q2=>?_⟩
 have:ob = .vec cs:=by simpa using q1.symm
 subst this
 simp only[Ob.rows,Wd] at q2; subst q2
 refine⟨by rw[hcl]; exact Wg _,fun _=>⟨Γ.w.heap.size,_,e,by simp[bind],by simp[grow,Ob.fz],qav _ _,?_⟩⟩
 simp[grow,Ob.fz,hsz,hcl]
theorem qqg (hr:Real fid Γ) {t e:TypeId} {x y:Operand} {k k':IntKind} {l c:Int} {n b:Nat} {z:Value} (ho:o.op = .makeSlice t x y) (ht:P.underlying t=some (.slice e)) (hz:qcj P e=some z) (hn:qaH P e=some n) (hb:qcP P e=some b)
  (hzn:z.cells.size=n) (h0:0<n) (hx:Rep fid Γ (.dat (.lit (.int k l))) (ρ x)) (hy:Rep fid Γ (.dat (.lit (.int k' c))) (ρ y)) (hc:0<=l/\l<=c/\c<=2 ^ 40/\b*c<=2 ^ 48) :
  Comes P fid Γ ρ o (.msl Γ.σ.length 0 l.toNat c.toNat (qaz z).length) (Γ.σ ++ [.cells ((qbU c.toNat (qaz z)).map .dat)]) /\
  Comes P fid Γ ρ o (.own Γ.σ.length l.toNat (qaz z).length) (Γ.σ ++ [.vec ((qbU l.toNat (qaz z)).map .dat)]):=by
 have hzl:(qaz z).length=n:=by simp[qaz,hzn]
 have hzero:Reps fid Γ ((qbU c.toNat (qaz z)).map .dat) ((Array.range (c.toNat*n)).map (z.cells[· % z.cells.size]!)).toList:=by
  subst hzn
  rw[qcs _ _ h0]
  exact Reps_dat.2 (qcb (qaS (qbh hz)) c.toNat)
 obtain⟨i,hi,hib⟩ : ∃ i,P.info? e=some i/\i.bytes=b:=by
  unfold qcP at hb
  cases hi:P.info? e with
  |none=>rw[hi] at hb; cases hb
  |some i=>rw[hi] at hb; simp at hb; exact⟨i,rfl,hb⟩
 obtain⟨h1,h2⟩:=qbW hr (.cells ((qbU c.toNat (qaz z)).map .dat)) (.cells ((Array.range (c.toNat*n)).map (z.cells[· % z.cells.size]!)) e) 0
  (fun Γ' e' hx'=>by
   subst e'
   simp only[RepOb,grow,if_pos]
   refine⟨trivial,_,e,qav _ _,?_⟩
   rw[Reps_dat] at hzero ⊢
   subst hzn
   rw[qcs _ _ h0]
   exact qcb (qaS (qbh hz)) c.toNat) (fun h=>absurd h (WP _))
 have hrun:(execOp ρ o).run P Γ.w = .ok (.value (.slice (some ⟨Γ.w.heap.size,0,none⟩) l.toNat c.toNat)) (Γ.w.alloc (.cells ((Array.range (c.toNat*n)).map (z.cells[· % z.cells.size]!)) e)):=by
  have w1:IntKind.i64.wrap l=l:=by rw[IntKind.wrap_i64]; omega
  have w2:IntKind.i64.wrap c=c:=by rw[IntKind.wrap_i64]; omega
  simp only[execOp,ho,(qaC hx).1,(qaC hy).1,Instr.makeSlice,Sem.run_bind,qam ht,Result.andThen_ok,asInt,Sem.run_pure,qa2 hi,w1,w2,hib]
  have c1 : ¬ (c<0):=by omega
  have c2 : ¬ ((b:Int)*c > 2 ^ 48):=by omega
  have c3 : ¬ (l<0):=by omega
  have c4 : ¬ (l > c):=by omega
  simp only[asIntOf,Sem.run_pure,Result.andThen_ok,w1,w2,c1,c2,c3,c4,decide_false,Bool.or_false,Bool.false_or,Wz,if_false,or_false,Sem.run_bind,run_askRoom,Result.andThen_ok,qaG hn]
  by_cases hl:c.toNat*n=0
  ·simp only[hl,if_true,Sem.run_bind,Result.andThen_ok,Sem.run_pure]
   have e0 : ∀ f:Nat->Value,Array.map f (Array.range 0) = #[]:=fun f=>by simp
   rw[e0,e0]
   simp[newRow]
  ·simp only[hl,if_false,Sem.run_bind,qaZ hz,Result.andThen_ok,Sem.run_pure]
   simp[newRow]
 refine⟨⟨_,_,rfl,h1,h2,?_,.inl hrun⟩,?_⟩
 ·simp only[Rep]
  exact⟨Γ.w.heap.size,by simp[bind],rfl,by omega,⟨.cells ((qbU c.toNat (qaz z)).map .dat),by simp,rfl⟩⟩
 ·have hle:l.toNat*n<=c.toNat*n:=WB _ (by omega)
  have hrl:((qbU l.toNat (qaz z)).map V.dat).length=l.toNat*n:=by rw[Wf,qb4,hzl]
  have hsz:((Array.range (c.toNat*n)).map (z.cells[· % z.cells.size]!)).size=c.toNat*n:=by simp
  have hl':((Array.range (c.toNat*n)).map (z.cells[· % z.cells.size]!)).toList=qbU c.toNat z.cells.toList:=by subst hzn; rw[qcs _ _ h0]
  have htake:(qbU c.toNat z.cells.toList).take (l.toNat*n)=qbU l.toNat z.cells.toList:=by
   have hz':z.cells.toList.length=n:=by simpa using hzn
   apply List.ext_getElem?
   intro j
   by_cases hj:j<l.toNat*n
   ·rw[Yp hj,qhi _ _ _ (by rw[hz']; omega),qhi _ _ _ (by rw[hz']; omega)]
   ·rw[WN,if_neg hj,WX (by rw[qb4,hz']; omega)]
  obtain⟨h1,h2⟩:=qbW hr (.vec ((qbU l.toNat (qaz z)).map .dat)) (.cells ((Array.range (c.toNat*n)).map (z.cells[· % z.cells.size]!)) e) 0
   (fun Γ' e' hx'=>by
    subst e'
    simp only[RepOb,grow,if_pos,WF,WE]
    refine⟨_,e,qav _ _,by rw[hrl,hsz]; exact hle,?_,?_⟩
    ·rw[hrl,hl',htake]
     exact Reps_dat.2 (qcb (qaS (qbh hz)) l.toNat)
    ·rw[hrl,hl',htake]
     intro v hv
     have:=qj5 hv
     have hok:=qbh hz
     simp only[qeo,Ws,Wh] at hok
     exact (hok v this).2) (fun h=>absurd h (WP _))
  refine⟨_,.slice (some ⟨Γ.w.heap.size,0,none⟩) l.toNat c.toNat,rfl,h1,h2,?_,.inl hrun⟩
  simp only[Rep]
  refine⟨_,_,rfl,by omega,by rw[hzl]; exact h0,⟨.vec ((qbU l.toNat (qaz z)).map .dat),by simp,rfl⟩,fun ob cs k1 k2=>?_⟩
  have:ob = .vec ((qbU l.toNat (qaz z)).map .dat):=by simpa using k1.symm
  subst this
  simp only[Ob.rows,Wd] at k2; subst k2
  refine⟨by rw[hrl,hzl]; exact Wg _,fun _=>⟨Γ.w.heap.size,_,e,by simp[bind],by simp[grow,Ob.fz],qav _ _,?_⟩⟩
  rw[hzl,hsz]; simp[grow,Ob.fz]
theorem qc1{kd:KD}{kt:TypeId}(hk:kdT P kt=some kd){a b:Value}{r:Bool}(h:qdv kd a b=some r) : ∃ d,P.underlying kt=some d/\Instr.sameNow d a b=some r:=by
 unfold kdT at hk
 split at hk
 ·rename_i hu; cases hk
  refine⟨_,hu,?_⟩
  cases a<;>cases b<;>simp_all [qdv,Instr.sameNow]
 ·rename_i hu; cases hk
  refine⟨_,hu,?_⟩
  cases a<;>cases b<;>simp_all [qdv,Instr.sameNow]
 ·rename_i hu; cases hk
  refine⟨_,hu,?_⟩
  cases a<;>cases b<;>simp_all [qdv,Instr.sameNow]
 ·cases hk
theorem qdo{kd:KD}{kt:TypeId}(hk:kdT P kt=some kd)(e:Bool)(n:Nat)(key:Value)(w:World):(Instr.checkKey e (n+1) kt key).run P w = .ok () w:=by
 unfold kdT at hk
 split at hk
 ·rename_i hu; simp only[Instr.checkKey,Sem.run_bind,qam hu,Result.andThen_ok]; rfl
 ·rename_i hu; simp only[Instr.checkKey,Sem.run_bind,qam hu,Result.andThen_ok]; rfl
 ·rename_i hu; simp only[Instr.checkKey,Sem.run_bind,qam hu,Result.andThen_ok]; rfl
 ·cases hk
theorem qj7{kd:KD}{kt:TypeId}(hk:kdT P kt=some kd) : ∃ d,P.underlying kt=some d:=by
 unfold kdT at hk
 split at hk
 ·rename_i hu; exact⟨_,hu⟩
 ·rename_i hu; exact⟨_,hu⟩
 ·rename_i hu; exact⟨_,hu⟩
 ·cases hk
theorem qjb {kd:KD} {kt:TypeId} {d:TypeDesc} (hk:kdT P kt=some kd) (hu:P.underlying kt=some d) {key:Value} : ∀ {es:List (Value × V)} {xs:List MapEntry} {r:Option V} (i:Nat),RepE fid Γ es xs->qmw kd key es=some r ->
  (r=none/\Instr.findNow d key xs i=some none) \/ ∃ u j x,r=some u/\Instr.findNow d key xs i=some (some (i+j,x))/\Rep fid Γ u x/\j<xs.length
 |[],xs,r,i,hx,h=>by
  simp only[qmw,Wd] at h; subst h
  simp only[RepE] at hx; subst hx
  exact .inl ⟨rfl,rfl⟩
 | (k,v)::es,xs,r,i,hx,h=>by
  simp only[RepE] at hx
  obtain⟨e,xs',rfl,h1,h2,h3⟩:=hx
  simp only[qmw] at h
  split at h
  ·rename_i hs
   cases h
   obtain⟨d',hd,hs'⟩:=qc1 hk hs
   rw[hu] at hd; cases hd
   refine .inr ⟨v,0,e.val,rfl,?_,h2,by simp⟩
   simp only[Instr.findNow,h1,hs',W1]
  ·rename_i hs
   obtain⟨d',hd,hs'⟩:=qc1 hk hs
   rw[hu] at hd; cases hd
   rcases qjb hk hu (i+1) h3 h with ⟨rfl,h4⟩|⟨u,j,x,rfl,h4,h5,h6⟩
   ·exact .inl ⟨rfl,by simp only[Instr.findNow,h1,hs',h4]⟩
   ·exact .inr ⟨u,j+1,x,rfl,by simp only[Instr.findNow,h1,hs',h4]; congr 3; omega,h5,by simp; omega⟩
  ·cases h
theorem qnj (hr:Real fid Γ) {t kt e:TypeId} {kd:KD} {m k:Operand} {ok:Bool} {l:Nat} {key z:Value} {es:List (Value × V)} {r:Option V} (ho:o.op = .lookup t m k ok)
  (ht:P.underlying t=some (.map kt e)) (hk:kdT P kt=some kd) (hz:qcj P e=some z) (hm:Rep fid Γ (.mp l) (ρ m)) (hkey:Rep fid Γ (.dat (.lit key)) (ρ k)) (hes : Γ.σ[l]?=some (.map es)) (h:qmw kd key es=some r) :
  Comes P fid Γ ρ o (match r with|some u=>if ok then .tup [u,.bool true] else u|none=>if ok then .tup [.dat (toD z),.bool false] else .dat (toD z)) Γ.σ:=by
 simp only[Rep] at hm
 obtain⟨b,hb,hmx,_⟩:=hm
 obtain⟨hF,ents,clock,h1,h2⟩:=hr.obs l _ b hes hb
 obtain⟨d,hu⟩:=qj7 hk
 have hrun : ∀ x,(Instr.findKey kt key ents.toList).run P Γ.w = .ok x Γ.w->(Instr.lookup t (.map (some b)) key ok).run P Γ.w=(match x with
   |some (_,v)=>Result.ok (if ok then .tuple #[v,.bool true] else v) Γ.w
   |none=>Result.ok (if ok then .tuple #[z,.bool false] else z) Γ.w):=fun x hx=>by
  simp only[Instr.lookup,Sem.run_bind,qam ht,Result.andThen_ok,getObj,Sem.run,h1,Sem.run_pure,qdo hk,hx]
  cases x with
  |none=>simp[qaZ hz]
  |some p=>simp
 have hfk : ∀ x,Instr.findNow d key ents.toList 0=some x->(Instr.findKey kt key ents.toList).run P Γ.w = .ok x Γ.w:=fun x hx=>by
  simp only[Instr.findKey,Sem.run_bind,qam hu,Result.andThen_ok,hx]
  rfl
 rcases qjb hk hu 0 h2 h with ⟨rfl,h4⟩|⟨u,j,x,rfl,h4,h5,_⟩
 ·refine .pure hr (x:=if ok then .tuple #[z,.bool false] else z) ?_ ?_
  ·simp only[execOp,ho,hmx,(qaC hkey).1,Sem.run_bind,hrun _ (hfk _ h4),Result.andThen_ok,Sem.run_pure]
  ·cases ok
   ·simpa [Rep] using qnF (qbh hz)
   ·simp only[if_true,Rep]
    exact⟨[z,.bool false],rfl,z,_,rfl,by simpa [Rep] using qnF (qbh hz),_,_,rfl,qdf rfl,rfl⟩
 ·refine .pure hr (x:=if ok then .tuple #[x,.bool true] else x) ?_ ?_
  ·simp only[execOp,ho,hmx,(qaC hkey).1,Sem.run_bind,hrun _ (hfk _ h4),Result.andThen_ok,Sem.run_pure]
  ·cases ok
   ·simpa using h5
   ·simp only[if_true,Rep]
    exact⟨[x,.bool true],rfl,x,_,rfl,h5,_,_,rfl,qdf rfl,rfl⟩
theorem set_sound {kd:KD} {kt:TypeId} {d:TypeDesc} (hk:kdT P kt=some kd) (hu:P.underlying kt=some d) {key:Value} {u:V} {x:Value} (hx:Rep fid Γ u x) : ∀ {es es':List (Value × V)} {xs:List MapEntry} (i clock:Nat),RepE fid Γ es xs->qtQ kd key u es=some es' ->
  (Instr.findNow d key xs i=some none/\RepE fid Γ es' (xs++[⟨key,x,clock⟩])) \/ ∃ j y old,Instr.findNow d key xs i=some (some (i+j,y))/\xs[j]?=some old/\qdv kd key old.key=some true /\
   ∀ f:MapEntry->MapEntry,(∀ e,(f e).key=key/\(f e).val=x)->RepE fid Γ es' (xs.modify j f)
 |[],es',xs,i,clock,hxs,h=>by
  simp only[qtQ,Wd] at h; subst h
  simp only[RepE] at hxs; subst hxs
  exact .inl ⟨rfl,⟨key,x,clock⟩,[],rfl,rfl,hx,rfl⟩
 | (k,v)::es,es',xs,i,clock,hxs,h=>by
  simp only[RepE] at hxs
  obtain⟨e,xs',rfl,h1,h2,h3⟩:=hxs
  simp only[qtQ] at h
  split at h
  ·rename_i hs
   cases h
   obtain⟨d',hd,hs'⟩:=qc1 hk hs
   rw[hu] at hd; cases hd
   refine .inr ⟨0,e.val,e,?_,by simp,by rw[h1]; exact hs,fun f hf=>?_⟩
   ·simp only[Instr.findNow,h1,hs',W1]
   ·rw[List.modify_zero_cons]
    simp only[RepE]
    exact⟨f e,xs',rfl,(hf e).1,by rw[(hf e).2]; exact hx,h3⟩
  ·rename_i hs
   obtain⟨d',hd,hs'⟩:=qc1 hk hs
   rw[hu] at hd; cases hd
   split at h
   ·rename_i r' hr'
    cases h
    rcases set_sound hk hu hx (i+1) clock h3 hr' with ⟨h4,h5⟩|⟨j,y,old,h4,h5,h6,h7⟩
    ·refine .inl ⟨by simp only[Instr.findNow,h1,hs',h4],?_⟩
     simp only[Wu,RepE]
     exact⟨e,_,rfl,h1,h2,h5⟩
    ·refine .inr ⟨j+1,y,old,by simp only[Instr.findNow,h1,hs',h4]; congr 3; omega,by simpa using h5,h6,fun f hf=>?_⟩
     rw[List.modify_succ_cons]
     simp only[RepE]
     exact⟨e,_,rfl,h1,h2,h7 f hf⟩
   ·cases h
  ·cases h
theorem qqh(x y:ByteArray):(x==y)=decide (x=y):=by
 have h:(x==y)=(x.data==y.data):=rfl
 rw[h,Bool.eq_iff_iff]
 simp only[beq_iff_eq,decide_eq_true_eq]
 exact⟨fun h=>by cases x; cases y; simp only at h; rw[h],fun h=>by rw[h]⟩
theorem qmD{kd:KD}{a b:Value}(h:qdv kd a b=some true)(n:Nat):Instr.sameBits n b a=true:=by
 cases kd<;>cases a<;>cases b<;>simp_all [qdv,Instr.sameBits]
 simp only[qqh,decide_eq_true_eq] at h ⊢
 exact h.symm
theorem qnk (hr:Real fid Γ) {t kt e:TypeId} {kd:KD} {m k x:Operand} {l:Nat} {key:Value} {u:V} {es es':List (Value × V)} (ho:o.op = .mapUpdate t m k x\/o.op = .insert t m k x)
  (ht:P.underlying t=some (.map kt e)) (hk:kdT P kt=some kd) (hm:Rep fid Γ (.mp l) (ρ m)) (hkey:Rep fid Γ (.dat (.lit key)) (ρ k)) (hx:Rep fid Γ u (ρ x)) (hes : Γ.σ[l]?=some (.map es)) (h:qtQ kd key u es=some es') :
  Comes P fid Γ ρ o (.dat (.lit undef)) (Γ.σ.set l (.map es')):=by
 simp only[Rep] at hm
 obtain⟨b,hb,hmx,_⟩:=hm
 obtain⟨hF,ents,clock,h1,h2⟩:=hr.obs l _ b hes hb
 obtain⟨d,hu⟩:=qj7 hk
 have hfk : ∀ x,Instr.findNow d key ents.toList 0=some x->(Instr.findKey kt key ents.toList).run P Γ.w = .ok x Γ.w:=fun x hx=>by
  simp only[Instr.findKey,Sem.run_bind,qam hu,Result.andThen_ok,hx]
  rfl
 have hblt:=qcp h1
 have fin : ∀ ents' clock',(Instr.mapUpdate t (.map (some b)) key (ρ x)).run P Γ.w = .ok () { Γ.w with heap := Γ.w.heap.setIfInBounds b (.map ents' clock') }->RepE fid Γ es' ents'.toList ->
   Comes P fid Γ ρ o (.dat (.lit undef)) (Γ.σ.set l (.map es')):=fun ents' clock' hrun hrep=>by
  obtain⟨u1,u2⟩:=upd hr hes rfl (ob' := .map es') rfl hb (w':={ Γ.w with heap := Γ.w.heap.setIfInBounds b (.map ents' clock') })
   ⟨rfl,rfl,rfl,by simp,fun k hk=>by simp[Yq (Yb hk)]⟩ (fun hx=>by
    simp only[RepOb]
    exact⟨hF,ents',clock',by simp[hblt],RepE.ext hx _ _ hrep⟩)
  refine⟨_,undef,rfl,u1,u2,qdf rfl,.inr ⟨?_,rfl⟩⟩
  rcases ho with ho|ho<;>simp only[execOp,ho,hmx,(qaC hkey).1,Sem.run_bind,hrun,Result.andThen_ok,Sem.run_pure]
 rcases set_sound hk hu hx 0 clock h2 h with ⟨h4,h5⟩|⟨j,y,old,h4,h5,h6,h7⟩
 ·refine fin (ents.push ⟨key,ρ x,clock⟩) (clock+1) ?_ (by simpa using h5)
  simp only[Instr.mapUpdate,Sem.run_bind,qam ht,Result.andThen_ok,getObj,Sem.run,h1,qdo hk,hfk _ h4,setObj]
 ·refine fin (ents.modify j fun e=>{ e with key,val := ρ x }) clock ?_ (by
   have:=h7 (fun e=>{ e with key,val := ρ x }) (fun e=>⟨rfl,rfl⟩)
   rw[Array.toList_modify]; exact this)
  have hold:ents[j]?=some old:=by simpa using h5
  simp only[Instr.mapUpdate,Sem.run_bind,qam ht,Result.andThen_ok,getObj,Sem.run,h1,qdo hk,hfk _ h4,setObj,WF,hold,WO,Option.getD_some,Instr.keyThatStays,qmD h6,if_true,Sem.run_pure]
end
end
section
variable{P:Program}{ids:Ids}{fid:Fid}{N:Nat}
section
variable{Γ : Ctx}{fr:Fr}{ρ : Operand->Value}{o:Oper}{v:V}{σ':S}{C:Task->Option Res}
theorem qlp(newLen:Nat) : ∀ (r c:Nat),c<newLen->Builtin.growBy newLen r c<=2*newLen+192
 |0,c,h=>by simp only[Builtin.growBy]; omega
 |r+1,c,h=>by
  simp only[Builtin.growBy]
  rw[if_neg (by omega)]
  by_cases h2:c+(c+768) / 4<newLen
  ·exact qlp newLen r _ h2
  ·cases r with
   |zero=>simp only[Builtin.growBy]; omega
   |succ r=>simp only[Builtin.growBy]; rw[if_pos (by omega)]; omega
theorem qeR{need cap:Nat}(h:cap<need):Builtin.nextslicecap need cap<=2*need+192:=by
 unfold Builtin.nextslicecap
 split
 ·omega
 ·split
  ·omega
  ·exact qlp _ _ _ h
theorem qi4(F:Nat->Nat)(w:World)(s:ByteArray):RepDs F w (qeO s) (s.data.toList.map fun c=>Value.int .u8 c.toNat):=by
 have:qeO s=(s.data.toList.map fun c=>Value.int .u8 c.toNat).map .lit:=by simp[qeO]
 rw[this]
 exact qeZ fun v hv=>by obtain⟨c,_,rfl⟩:=Wm.1 hv; rfl
theorem qdn(sz:Nat)(s:ByteArray)(w:World):(Builtin.firstCells sz s.size (.string s)).run P w = .ok (s.data.toList.map fun c=>Value.int .u8 c.toNat).toArray w:=by
 simp only[Builtin.firstCells,ByteArray.extract_zero_size,Sem.run_pure]
 congr 1
 apply WG
 simp
theorem qpW {u:V} {x:Value} {xs:List D} {m sz:Nat} (hu:Rep fid Γ u x) (h:qlj u=some (xs,m)) (hl:xs.length=m*sz) :
  ∃ vs,RepDs Γ.F Γ.w xs vs/\(∀ v∈vs,v.oneCell'=true)/\(∀ w',(Builtin.lenOf x).run P w' = .ok m w') /\
   ∀ w':World,(∀ b i,w'.cell? ⟨b,i,none⟩ = Γ.w.cell? ⟨b,i,none⟩)->(Builtin.firstCells sz m x).run P w' = .ok vs.toArray w':=by
 unfold qlj at h
 split at h
 ·rename_i a
  cases h
  rw[(qaC hu).1]
  refine⟨[],by simp[RepDs],by simp,fun w'=>by simp[Builtin.lenOf],fun w' _=>?_⟩
  cases a with
  |none=>simp[Builtin.firstCells]
  |some a=>simp[Builtin.firstCells,loadCells,loadCellsFrom]
 ·cases h
  simp only[Rep,RepD] at hu
  obtain⟨b,o',cap,vs,rfl,_,_,h3,h4⟩:=hu
  refine⟨vs,h3,h4.2.2,fun w'=>by simp[Builtin.lenOf],fun w' hw=>?_⟩
  have:=qa0 (P:=P) (w:=w') (b:=b) (o:=o') (vs:=vs) (fun j v hj=>by rw[hw]; exact h4.1 j v hj)
  rw[h3.length,hl] at this
  simp only[Builtin.firstCells,this]
 ·cases h
  simp only[Rep] at hu
  obtain⟨b,cap,vs,k,rfl,_,h3,h4,_⟩:=hu
  refine⟨vs,h3,h4.2.2,fun w'=>by simp[Builtin.lenOf],fun w' hw=>?_⟩
  have:=qa0 (P:=P) (w:=w') (b:=b) (o:=0) (vs:=vs) (fun j v hj=>by rw[hw]; exact h4.1 j v hj)
  rw[h3.length,hl] at this
  simp only[Builtin.firstCells,this]
 ·rename_i s
  cases h
  rw[(qaC hu).1]
  exact⟨_,qi4 _ _ s,fun v hv=>by obtain⟨c,_,rfl⟩:=Wm.1 hv; rfl,fun w'=>by simp[Builtin.lenOf],fun w' _=>qdn sz s w'⟩
 ·cases h
section
variable{ts tx e ex:TypeId}{s x:Operand}{c:Call}{sz bytes:Nat}{z:Value}
theorem qh6 (hts:P.underlying ts=some (.slice e)) (htx:(∃ ex,P.underlying tx=some (.slice ex))\/P.underlying tx=some .string) (hsz:qaH P e=some sz) (hby:qcP P e=some bytes) (hz:qcj P e=some z)
  {base:Option Addr} {sLen sCap m:Nat} {X:Value} {olds news:List Value} {w:World} (hlen : ∀ w',(Builtin.lenOf X).run P w' = .ok m w')
  (hgt:sCap<sLen+m) (hroom:qaA (sLen+m) bytes=true)
  (hold : ∀ w':World,(∀ b i,w'.cell? ⟨b,i,none⟩=w.cell? ⟨b,i,none⟩)->(Builtin.firstCells sz sLen (.slice base sLen sCap)).run P w' = .ok olds.toArray w')
  (hnew : ∀ w':World,(∀ b i,w'.cell? ⟨b,i,none⟩=w.cell? ⟨b,i,none⟩)->(Builtin.firstCells sz m X).run P w' = .ok news.toArray w') :
  ∃ (cap:Nat) (rest:Array Value),sLen+m<=cap/\rest.size=(cap-(sLen+m))*z.cells.size /\
   (Builtin.append_ #[ts,tx] o.type #[.slice base sLen sCap,X]).run P w = .ok (.slice (some ⟨w.heap.size,0,none⟩) (sLen+m) cap) (w.drew.alloc (.cells ((olds++news).toArray++rest) e)):=by
 simp only[qaA,decide_eq_true_eq] at hroom
 have hn:=qeR hgt
 have h1:(2*(sLen+m)+192)*(bytes+1)=(2*(sLen+m)+192)*bytes+(2*(sLen+m)+192):=by rw[Nat.mul_add,Nat.mul_one]
 have h2:Builtin.nextslicecap (sLen+m) sCap*bytes<=(2*(sLen+m)+192)*bytes:=WB _ hn
 have hmax:IntKind.max .i64=9223372036854775807:=by decide
 have hinfo : ∃ i,P.info? e=some i/\i.bytes=bytes:=by
  unfold qcP at hby
  cases hi:P.info? e with
  |none=>rw[hi] at hby; cases hby
  |some i=>rw[hi] at hby; simp at hby; exact⟨i,rfl,hby⟩
 obtain⟨i,hi,hib⟩:=hinfo
 refine⟨sLen+m+w.tape w.drawn (.appendCap (sLen+m) sCap e) % (2 ^ 63-(sLen+m)),Builtin.zeroCells z.cells (sLen+m+w.tape w.drawn (.appendCap (sLen+m) sCap e) % (2 ^ 63-(sLen+m))-(sLen+m)),by omega,by simp[Builtin.zeroCells],?_⟩
 rcases htx with ⟨ex,htx⟩|htx
 all_goals
  simp only[Builtin.append_,WV,WT,W9,Sem.run_bind,qam hts,Result.andThen_ok,qaG hsz,qam htx,Sem.run_pure,hlen,Wz,if_false]
  rw[if_neg (by omega)]
  simp only[Sem.run_bind,qa2 hi,Result.andThen_ok,hib,false_or]
  rw[Sem.run_ite]
  have c1 : ¬ (((sLen+m:Nat):Int) > IntKind.i64.max/\bytes=0):=by
   rw[hmax]; intro h; have:=h.1; omega
  rw[if_neg c1]
  simp only[Sem.run_bind,qa2 hi,Result.andThen_ok,hib]
  rw[Sem.run_ite,if_neg (by omega)]
  simp only[Sem.run_bind,run_choose,Question.forced,Wz,if_false,Question.cut,Result.andThen_ok,run_askRoom]
  simp only[qa2 hi,Result.andThen_ok,World.drew_eq]
  rw[hold w.drew (fun b i=>rfl)]
  simp only[Result.andThen_ok,if_true,Bool.not_false]
  rw[hnew w.drew (fun b i=>rfl)]
  simp only[Result.andThen_ok,qaZ hz,newRow,Sem.run_bind,run_newObj,Sem.run_pure]
  simp
  rfl
theorem qfb (hts:P.underlying ts=some (.slice e)) (htx:(∃ ex,P.underlying tx=some (.slice ex))\/P.underlying tx=some .string) (hsz:qaH P e=some sz)
  {base:Option Addr} {sLen sCap m:Nat} {X:Value} {news:List Value} {w w':World} (hlen:(Builtin.lenOf X).run P w = .ok m w)
  (hle:sLen+m<=sCap) (hnew:(Builtin.firstCells sz m X).run P w = .ok news.toArray w)
  (hst:(match base with|some a=>storeCells (a.add (sLen*sz)) news|none=>pure ()).run P w = .ok () w') :
  (Builtin.append_ #[ts,tx] o.type #[.slice base sLen sCap,X]).run P w = .ok (.slice base (sLen+m) sCap) w':=by
 rcases htx with ⟨ex,htx⟩|htx
 all_goals
  simp only[Builtin.append_,WV,WT,W9,Sem.run_bind,qam hts,Result.andThen_ok,qaG hsz,qam htx,Sem.run_pure,hlen,Wz,if_false]
  rw[if_pos hle]
  simp only[Sem.run_bind,Bool.not_false,if_true,hnew,Result.andThen_ok]
  cases base with
  |none=>
   simp only[Sem.run_pure] at hst ⊢
   cases hst
   simp
  |some a=>
   simp only at hst ⊢
   simp only[Sem.run_bind,hst]
   simp
theorem qbt (ho:o.op = .call c) (hcal:c.callee = .builtin .append) (hargs:c.args.toList=[s,x]) (hts:c.argTypes.toList=[ts,tx]) {w w':World} {r:Value}
  (h:(Builtin.append_ #[ts,tx] o.type #[ρ s,ρ x]).run P w = .ok r w'):(execOp ρ o).run P w = .ok (.value r) w':=by
 have ha:c.args = #[s,x]:=by apply WG; simpa using hargs
 have hb:c.argTypes = #[ts,tx]:=by apply WG; simpa using hts
 simp only[execOp,ho,resolve,hcal,ha,hb,invoke,builtin,Sem.run_bind,Sem.run_pure,Result.andThen_ok]
 simp[h]
theorem qnf (hr:Real fid Γ) (ho:o.op = .call c) (hcal:c.callee = .builtin .append) (hargs:c.args.toList=[s,x]) (hats:c.argTypes.toList=[ts,tx])
  (hts:P.underlying ts=some (.slice e)) (htx:(∃ ex,P.underlying tx=some (.slice ex))\/P.underlying tx=some .string) (hsz:qaH P e=some sz) (hby:qcP P e=some bytes) (hz:qcj P e=some z) (hzn:z.cells.size=sz)
  {a b u:V} (ha:Rep fid Γ a (ρ s)) (hb:Rep fid Γ b (ρ x)) (h:qbs Γ.σ sz bytes a b=some (u,σ')):Comes P fid Γ ρ o u σ':=by
 unfold qbs at h
 split at h
 ·cases h
 ·rename_i xs m hsrc
  split at h
  ·rename_i hcond
   obtain⟨hxl,hsz0⟩:=hcond
   obtain⟨news,n1,n2,n3,n4⟩:=qpW (P:=P) hb hsrc hxl
   have hnl:news.length=m*sz:=by rw[n1.length,hxl]
   split at h
   ·-- nothing is appended
    rename_i hm
    subst hm
    have hnews:news=[]:=by
     apply WL; rw[hnl]; simp
    have fin : ∀ base n cap,ρ s = .slice base n cap->n<=cap->(u=a /\ σ' = Γ.σ)->Comes P fid Γ ρ o u σ':=fun base n cap hs hle hu=>by
     obtain⟨rfl,rfl⟩:=hu
     refine .pure hr (x := ρ s) ?_ ha
     refine qbt ho hcal hargs hats ?_
     rw[hs]
     have:=qfb (P:=P) (o:=o) hts htx hsz (base:=base) (n3 Γ.w) (show n+0<=cap by omega) (n4 Γ.w fun _ _=>rfl) (w' := Γ.w) (by rw[hnews]; cases base<;>simp[storeCells])
     simpa using this
    split at h
    ·cases h
     exact fin _ _ _ (qaC ha).1 (Wg _) ⟨rfl,rfl⟩
    ·cases h
     have ha':=ha
     simp only[Rep,RepD] at ha'
     obtain⟨b',o',cap,vs,hs,h2,_⟩:=ha'
     exact fin _ _ _ hs h2 ⟨rfl,rfl⟩
    ·cases h
     have ha':=ha
     simp only[Rep] at ha'
     obtain⟨b',cap,vs,k,hs,h2,_⟩:=ha'
     exact fin _ _ _ hs h2 ⟨rfl,rfl⟩
    ·cases h
   ·rename_i hm
    have fresh : ∀ {olds:List Value} {cs:List D} {base:Option Addr} {n cap:Nat},ρ s = .slice base n cap->cap<n+m->qaA (n+m) bytes=true->RepDs Γ.F Γ.w cs olds->(∀ v∈olds,v.oneCell'=true)->cs.length=n*sz ->
      (∀ w':World,(∀ b i,w'.cell? ⟨b,i,none⟩ = Γ.w.cell? ⟨b,i,none⟩)->(Builtin.firstCells sz n (.slice base n cap)).run P w' = .ok olds.toArray w') ->
      ∃ (newCap:Nat) (rest:Array Value),n+m<=newCap/\(n+m)*sz+rest.size=newCap*sz/\(cs++xs).length=(n+m)*sz/\0<(n+m)*sz/\RepDs Γ.F Γ.w (cs++xs) (olds++news)/\(∀ v∈olds++news,v.oneCell'=true) /\
       (execOp ρ o).run P Γ.w = .ok (.value (.slice (some ⟨Γ.w.heap.size,0,none⟩) (n+m) newCap)) (Γ.w.drew.alloc (.cells ((olds++news).toArray++rest) e)):=by
     intro olds cs base n cap hs hlt hroom hd hone hcl hold
     obtain⟨newCap,rest,r1,r2,r3⟩:=qh6 (P:=P) (o:=o) hts htx hsz hby hz n3 hlt hroom hold n4
     refine⟨newCap,rest,r1,?_,?_,YD (by omega) hsz0,RepDs_append.2 ⟨_,_,rfl,hd,n1⟩,?_,qbt ho hcal hargs hats (by rw[hs]; exact r3)⟩
     ·rw[r2,hzn,<- Nat.add_mul]; congr 1; omega
     ·rw[Wt,hcl,hxl,WW]
     ·intro v hv
      rcases We.1 hv with hv|hv
      ·exact hone v hv
      ·exact n2 v hv
    obtain⟨d1,d2⟩:=qf7 hr
    have grown : ∀ {Γ':Ctx} {olds:List Value} {cs:List D} {rest:Array Value} {n newCap l:Nat},Ext ⟨Γ.σ,Γ.μ,Γ.F,Γ.w.drew⟩ Γ' -> Γ'.w = Γ.w.drew.alloc (.cells ((olds++news).toArray++rest) e) -> Γ'.F Γ.w.heap.size=(cs++xs).length ->
      Γ'.σ[l]?=some (.tip (cs++xs).length) -> Γ'.μ l=some Γ.w.heap.size->n+m<=newCap->(n+m)*sz+rest.size=newCap*sz->(cs++xs).length=(n+m)*sz->0<(n+m)*sz->RepDs Γ.F Γ.w (cs++xs) (olds++news)->(∀ v∈olds++news,v.oneCell'=true) ->
      Rep fid Γ' (.gsl (cs++xs) (n+m) sz l) (.slice (some ⟨Γ.w.heap.size,0,none⟩) (n+m) newCap):=by
     intro Γ' olds cs rest n newCap l hx hw hF hσ hμ g1 g2 g3 g4 g5 g6
     have hlen:=g5.length
     simp only[Rep]
     refine⟨Γ.w.heap.size,newCap,olds++news,(cs++xs).length,rfl,g1,RepDs.ext hx _ _ (RepDs.ext d2.ext _ _ g5),⟨fun i v hi=>?_,fun _=>by rw[hF,hlen]; omega,g6⟩,?_,hσ,by simp[hμ],Wg _,fun _=>⟨hμ,_,e,by rw[hw]; exact qav Γ.w.drew _,?_⟩⟩
     ·have hi':i<(olds++news).length:=(Wb.1 hi).1
      simp only[World.cell?,hw]
      rw[show Γ.w.heap.size = Γ.w.drew.heap.size from rfl,qav]
      simp only[YA,Wz,if_false,WF]
      rw[W2 (by simpa using hi')]
      simpa using hi
     ·intro h0
      rw[h0] at g3
      simp at g3
      omega
     ·simp only[Yg,Yw,hlen,g3]
      omega
    split at h
    ·-- a nil slice
     split at h
     ·rename_i hroom
      cases h
      obtain⟨newCap,rest,f1,f2,f3,f4,f5,f6,f7⟩:=fresh (olds:=[]) (cs:=[]) (qaC ha).1 (show 0<0+m by omega) (by simpa using hroom) (by simp[RepDs]) (by simp) (by simp)
       (fun w' _=>by simp[Builtin.firstCells])
      obtain⟨k1,k2⟩:=qbW d1 (.tip xs.length) (.cells (([]++news).toArray++rest) e) xs.length
       (fun Γ' e' hx=>by subst e'; simp only[RepOb,grow,if_pos]; simp at f3; exact⟨trivial,by rw[f3]; simpa using f4⟩)
       (fun _=>⟨_,_,_,rfl,by simp[hnl,hxl]⟩)
      refine⟨_,_,rfl,k1,d2.trans k2,?_,.inl f7⟩
      have:=grown (cs:=[]) (olds:=[]) (rest:=rest) (n:=0) (newCap:=newCap) (l := Γ.σ.length) k2.ext rfl (by simp[grow]) (by simp) (by simp[bind]) f1 f2 f3 f4 f5 f6
      simpa using this
     ·cases h
    ·-- a full slice
     rename_i cs n
     split at h
     ·rename_i hcond
      obtain⟨hroom,hcl⟩:=hcond
      cases h
      have ha':=ha
      simp only[Rep,RepD] at ha'
      obtain⟨b',o',cap,olds,hs,h2,h3,h4,h5⟩:=ha'
      have hcap:=h3 trivial
      subst hcap
      obtain⟨newCap,rest,f1,f2,f3,f4,f5,f6,f7⟩:=fresh hs (show cap<cap+m by omega) hroom h4 h5.2.2 hcl (fun w' hw=>by
       have:=qa0 (P:=P) (w:=w') (b:=b') (o:=o') (vs:=olds) (fun j v hj=>by rw[hw]; exact h5.1 j v hj)
       rw[h4.length,hcl] at this
       simp only[Builtin.firstCells,this])
      obtain⟨k1,k2⟩:=qbW d1 (.tip (cs++xs).length) (.cells ((olds++news).toArray++rest) e) (cs++xs).length
       (fun Γ' e' hx=>by subst e'; simp only[RepOb,grow,if_pos]; exact⟨trivial,by rw[f3]; exact f4⟩)
       (fun _=>⟨_,_,_,rfl,by have:=f5.length; simp only[Yg,Yw]; omega⟩)
      exact⟨_,_,rfl,k1,d2.trans k2,grown k2.ext rfl (by simp[grow]) (by simp) (by simp[bind]) f1 f2 f3 f4 f5 f6,.inl f7⟩
     ·cases h
    ·-- a row of the program's own
     rename_i cs n sz' l
     split at h
     ·rename_i k hk
      split at h
      ·rename_i hcond
       obtain⟨hroom,hcl,rfl,hkl⟩:=hcond
       cases h
       have ha':=ha
       simp only[Rep] at ha'
       obtain⟨b',cap,olds,m',hs,h2,h4,h5,h6,h7,h8,h9,h10⟩:=ha'
       rw[hk] at h7
       cases h7
       obtain⟨q1,arr,e',q2,q3⟩:=h10 hkl.symm
       subst hkl
       by_cases hfit:n+m<=cap
       ·-- it fits
        have hbd:(n+m)*sz'<=cap*sz':=WB _ hfit
        rw[WW] at hbd
        obtain⟨w',s1,s2,arr',s3,s4⟩:=qbe (P:=P) news 0 Γ.w b' (n*sz') arr e' q2 n2 (by rw[hnl]; omega)
        have hlen':arr'.size=arr.size:=by
         have:=congrArg List.length s4
         simp[hnl] at this
         omega
        obtain⟨k1,k2⟩:=qtY hr hk q1 (show cs.length<(cs++xs).length by rw[Wt,hxl]; have:=YD (show 0<m by omega) hsz0; omega) s2 q2 s3 hlen'
         (by rw[Wt,hcl,hxl]; omega) (fun i hi=>by
          rw[<- Array.getElem?_toList,<- Array.getElem?_toList,s4,Wo (by simp; omega),Yp (by omega)])
        refine⟨_,.slice (some ⟨b',0,none⟩) (n+m) cap,rfl,k1,k2,?_,.inl (qbt ho hcal hargs hats ?_)⟩
        ·simp only[Rep]
         have holdlen:=h4.length
         refine⟨b',cap,olds++news,(cs++xs).length,rfl,hfit,RepDs.ext k2.ext _ _ (RepDs_append.2 ⟨_,_,rfl,h4,n1⟩),⟨fun i v hi=>?_,fun _=>?_,?_⟩,?_,?_,?_,Wg _,fun _=>⟨q1,arr',e',s3,by omega⟩⟩
         ·simp only[World.cell?,s3,YA,Wz,if_false,WF]
          rw[<- Array.getElem?_toList,s4]
          by_cases hi':i<olds.length
          ·rw[Wo hi'] at hi
           rw[Wo (by simp; omega),Yp (by omega)]
           have:=h5.1 i v hi
           simpa [World.cell?,q2] using this
          ·rw[WC (by omega)] at hi
           have hi2:i-olds.length<news.length:=(Wb.1 hi).1
           rw[WC (by simp; omega),Wo (by simp; omega)]
           rw[<- hi]; congr 1; simp; omega
         ·simp[grow,holdlen,n1.length]
         ·intro v hv
          rcases We.1 hv with hv|hv
          ·exact h5.2.2 v hv
          ·exact n2 v hv
         ·simp[h6]
         ·simp only[Yi (Wb.1 hk).1]
         ·simp[q1]
        ·rw[hs]
         refine qfb (P:=P) (o:=o) hts htx hsz (n3 Γ.w) hfit (n4 Γ.w fun _ _=>rfl) ?_
         simp only[qa9,WF]
         exact s1
       ·-- it moves
        obtain⟨newCap,rest,f1,f2,f3,f4,f5,f6,f7⟩:=fresh hs (show cap<n+m by omega) hroom h4 h5.2.2 hcl (fun w' hw=>by
         have:=qa0 (P:=P) (w:=w') (b:=b') (o:=0) (vs:=olds) (fun j v hj=>by rw[hw]; exact h5.1 j v hj)
         rw[h4.length,hcl] at this
         simp only[Builtin.firstCells,this])
        obtain⟨k1,k2⟩:=qtX d1 hk h8 (show cs.length<(cs++xs).length by rw[Wt,hxl]; have:=YD (show 0<m by omega) hsz0; omega) ((olds++news).toArray++rest) e
         (by have:=f5.length; simp only[Yg,Yw]; omega)
        exact⟨_,_,rfl,k1,d2.trans k2,grown k2.ext rfl (by simp[grow]) (by simp[(Wb.1 hk).1]) (by simp[bind]) f1 f2 f3 f4 f5 f6,.inl f7⟩
      ·cases h
     ·cases h
    ·cases h
  ·cases h
end
end
end
end Go.Pm
