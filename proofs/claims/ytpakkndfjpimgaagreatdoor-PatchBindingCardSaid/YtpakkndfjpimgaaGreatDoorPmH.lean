/- More operations that only compute. Aggregates of plain values are held against each other. -/
import Derived.Test.YtpakkndfjpimgaaGreatDoorPmD2
import Derived.Laws.Small
import Derived.Lib.ConvBytes
import Derived.Laws.StructEq
import Derived.ChangeKeysEq
set_option linter.unusedSimpArgs false
set_option linter.unusedVariables false
section SH
namespace Go.Pm
variable {P:Program} {ids:Ids} {fid:Fid} {N:Nat}
section
variable {Γ : Ctx} {fr:Fr} {ρ : Operand->Value} {o:Oper} {v:V} {σ':S} {C:Task->Option Res}
theorem qaf {v x:Value} (h:Rep fid Γ (.dat (.lit v)) x):x=v/\qaJ v=true:=by simpa [Rep,RepD] using h
theorem qb1 {v:Value} (h:qaJ v=true):Rep fid Γ (.dat (.lit v)) v:=by simp[Rep,RepD,h]
theorem qlh (hr:Real fid Γ) {x:Operand} {u:V} (ho:o.op = .move x\/o.op = .assign x) (hu:Rep fid Γ u (ρ x)):Comes P fid Γ ρ o u Γ.σ:=by
 refine .pure hr (x := ρ x) ?_ hu
 rcases ho with ho | ho<;>simp[execOp,ho]
theorem qjp (hr:Real fid Γ) {c x y:Operand} {u u':V} {b:Bool} (ho:o.op = .pick c x y) (hc:Rep fid Γ (.dat (.lit (.bool b))) (ρ c)) (hu:b=true->Rep fid Γ u (ρ x)) (hu':b=false->Rep fid Γ u' (ρ y)) :
  Comes P fid Γ ρ o (if b then u else u') Γ.σ:=by
 have h:=(qaf hc).1
 cases b with
 | true=>exact .pure hr (x := ρ x) (by simp[execOp,ho,h,asBool]) (hu rfl)
 | false=>exact .pure hr (x := ρ y) (by simp[execOp,ho,h,asBool]) (hu' rfl)
theorem qiW {op:BinOp} {t:TypeId} {x y:Operand} {A B r:Value} (h:qfP op A B=some r) (w:World) :
  (do eqGuard op t x y A B; binOp op t A B:Sem Value).run P w = .ok r w/\qaJ r=true:=by
 cases A with
 | int k a=>
  cases B with
  | int k' b=>
   simp only[qfP] at h
   split at h
   ·rename_i hk
    subst hk
    cases op<;>simp only at h<;>first
     | (cases h; done)
     | (split at h
        ·cases h
        ·rename_i hb; cases h
         first
         | (simp[eqGuard,binOp,Op.intDiv,hb,qaJ]; done)
         | (simp[eqGuard,binOp,Op.shift,hb,qaJ,qlC,qkU]; done))
     | (cases h; simp[eqGuard,binOp,Op.intArith,Op.intCmp,qaJ]; done)
     | (cases h; simp[eqGuard,binOp,Op.intArith,Op.intCmp,qaJ,eqI,bne]; done)
     | (cases h; simp[eqGuard,binOp,Op.intBits,qaJ,qgN]; done)
   ·cases op<;>simp only at h<;>first
     | (cases h; done)
     | (split at h
        ·cases h
        ·rename_i hb; cases h
         simp[eqGuard,binOp,Op.shift,hb,qaJ,qlC,qkU])
  | _=>simp[qfP] at h
 | string a=>
  cases B with
  | string b=>
   cases op<;>simp only[qfP] at h<;>first
    | (cases h; done)
    | (split at h
       ·cases h
       ·rename_i hb; cases h
        simp only[eqGuard,binOp,Op.stringOp,if_neg hb]
        simp[qaJ])
    | (cases h; simp[eqGuard,binOp,Op.stringOp,qaJ]; done)
    | (cases h; simp[eqGuard,binOp,Op.stringOp,qaJ,eqS]; done)
  | _=>simp[qfP] at h
 | _=>simp[qfP] at h
theorem qlY (hr:Real fid Γ) {op:BinOp} {t t':TypeId} {x y:Operand} {A B r:Value} (ho:o.op = .binOp op t x y t') (hx:Rep fid Γ (.dat (.lit A)) (ρ x)) (hy:Rep fid Γ (.dat (.lit B)) (ρ y))
  (h:qfP op A B=some r):Comes P fid Γ ρ o (.dat (.lit r)) Γ.σ:=by
 obtain⟨h1,h2⟩:=qiW (P:=P) (t:=t) (x:=x) (y:=y) h Γ.w
 refine .pure hr (x:=r) ?_ (qb1 h2)
 simp only[execOp,ho,(qaf hx).1,(qaf hy).1]
 rw[Sem.run_bind,h1]
 simp
theorem qli (hr:Real fid Γ) {op:BinOp} {t t':TypeId} {x y:Operand} {a b:Bool} (neg:Bool) (hop:op=if neg then .neq else .eql) (ho:o.op = .binOp op t x y t') (ht:P.underlying t=some .bool)
  (hx:Rep fid Γ (.dat (.lit (.bool a))) (ρ x)) (hy:Rep fid Γ (.dat (.lit (.bool b))) (ρ y)):Comes P fid Γ ρ o (.bool (if neg then !(a==b) else a==b)) Γ.σ:=by
 refine .pure hr (x := .bool (if neg then !(a==b) else a==b)) ?_ (qb1 rfl)
 simp only[execOp,ho,(qaf hx).1,(qaf hy).1]
 subst hop
 cases neg
 ·simp only[Bool.false_eq_true,if_false,eqGuard,binOp,Sem.run_bind,run_equal_bool _ t a b ht,Result.andThen_ok]
  simp
 ·simp only[if_true,eqGuard,binOp,Sem.run_bind,run_equal_bool _ t a b ht,Result.andThen_ok]
  simp
theorem qfZ (d:Nat) {t:TypeId} {ms} (ht:P.underlying t=some (.interface ms)) (a:TypeId) (b:Value) (w:World):(Op.equalIn (d+1) t (.iface a b) .nilIface).run P w = .ok false w:=by
 unfold Op.equalIn
 simp only[Sem.run_bind,qab ht,Result.andThen_ok,Sem.run_pure]
theorem qhk (d:Nat) {t:TypeId} {ms} (ht:P.underlying t=some (.interface ms)) (w:World):(Op.equalIn (d+1) t .nilIface .nilIface).run P w = .ok true w:=by
 unfold Op.equalIn
 simp only[Sem.run_bind,qab ht,Result.andThen_ok,Sem.run_pure]
theorem qeT (d:Nat) {t e:TypeId} (ht:P.underlying t=some (.pointer e)) (a:Addr) (w:World):(Op.equalIn (d+1) t (.pointer (some a)) (.pointer none)).run P w = .ok false w:=by
 unfold Op.equalIn
 simp only[Sem.run_bind,qab ht,Result.andThen_ok,Sem.run_pure]
theorem qgs (d:Nat) {t e:TypeId} (ht:P.underlying t=some (.pointer e)) (w:World):(Op.equalIn (d+1) t (.pointer none) (.pointer none)).run P w = .ok true w:=by
 unfold Op.equalIn
 simp only[Sem.run_bind,qab ht,Result.andThen_ok,Sem.run_pure]
 rfl
theorem qeU {p b:Bool} {v:V} {x nv:Value} {t:TypeId} (hx:Rep fid Γ v x) (h:qkV p v=some b)
  (ht:(p=false/\nv = .nilIface /\ ∃ ms,P.underlying t=some (.interface ms))\/(p=true/\nv = .pointer none /\ ∃ e,P.underlying t=some (.pointer e))) (w:World) :
  (Op.equal t x nv).run P w = .ok b w/\((∃ a c,x = .iface a c/\nv = .nilIface)\/(x = .nilIface/\nv = .nilIface)\/(∃ a,x = .pointer a/\nv = .pointer none)):=by
 unfold qkV at h
 split at h<;>cases h
 ·rcases ht with ⟨h1,_⟩ | ⟨_,rfl,e,he⟩
  ·cases h1
  ·simp only[Rep] at hx; obtain⟨b,_,rfl,_⟩:=hx
   exact⟨qeT 9999 he _ w,.inr (.inr ⟨_,rfl,rfl⟩)⟩
 ·rcases ht with ⟨h1,_⟩ | ⟨_,rfl,e,he⟩
  ·cases h1
  ·simp only[Rep,RepD] at hx; obtain⟨b,_,_,rfl,_⟩:=hx
   exact⟨qeT 9999 he _ w,.inr (.inr ⟨_,rfl,rfl⟩)⟩
 ·rcases ht with ⟨h1,_⟩ | ⟨_,rfl,e,he⟩
  ·cases h1
  ·obtain rfl:=(qaf hx).1
   exact⟨qgs 9999 he w,.inr (.inr ⟨_,rfl,rfl⟩)⟩
 ·rcases ht with ⟨_,rfl,e,he⟩ | ⟨h1,_⟩
  ·simp only[Rep] at hx; obtain⟨y,rfl,_⟩:=hx
   exact⟨qfZ 9999 he _ _ w,.inl ⟨_,_,rfl,rfl⟩⟩
  ·cases h1
 ·rcases ht with ⟨_,rfl,e,he⟩ | ⟨h1,_⟩
  ·obtain rfl:=(qaf hx).1
   exact⟨qhk 9999 he w,.inr (.inl ⟨rfl,rfl⟩)⟩
  ·cases h1
theorem qft (hr:Real fid Γ) {op:BinOp} {t t':TypeId} {x:Operand} {nv:Value} {v:V} {b:Bool} (p neg:Bool) (hop:op=if neg then .neq else .eql) (ho:o.op = .binOp op t x (.const nv) t') (hρ : ρ (.const nv)=nv)
  (ht:(p=false/\nv = .nilIface /\ ∃ ms,P.underlying t=some (.interface ms))\/(p=true/\nv = .pointer none /\ ∃ e,P.underlying t=some (.pointer e)))
  (hx:Rep fid Γ v (ρ x)) (h:qkV p v=some b):Comes P fid Γ ρ o (.bool (if neg then !b else b)) Γ.σ:=by
 obtain⟨h1,h2⟩:=qeU hx h ht Γ.w
 refine .pure hr (x := .bool (if neg then !b else b)) ?_ (qb1 rfl)
 simp only[execOp,ho,hρ]
 generalize ρ x=y at *
 subst hop
 rcases h2 with ⟨a,c,rfl,rfl⟩ | ⟨rfl,rfl⟩ | ⟨a,rfl,rfl⟩<;>cases neg<;>simp[eqGuard,binOp,h1]
theorem qlj (d:Nat) {t e:TypeId} (ht:P.underlying t=some (.slice e)) (a:Option Addr) (n c:Nat) (w:World):(Op.equalIn (d+1) t (.slice a n c) (.slice none 0 0)).run P w = .ok a.isNone w:=by
 unfold Op.equalIn
 cases a<;>simp only[Sem.run_bind,qab ht,Result.andThen_ok,Sem.run_pure]<;>rfl
theorem qgX (hr:Real fid Γ) {op:BinOp} {t t' e:TypeId} {x:Operand} {v:V} {b:Bool} (neg:Bool) (hop:op=if neg then .neq else .eql) (ho:o.op = .binOp op t x (.const (.slice none 0 0)) t') (hρ : ρ (.const (.slice none 0 0)) = .slice none 0 0)
  (ht:P.underlying t=some (.slice e)) (hx:Rep fid Γ v (ρ x)) (h:qlD v=some b):Comes P fid Γ ρ o (.bool (if neg then !b else b)) Γ.σ:=by
 have key : ∃ a n c,ρ x = .slice a n c/\a.isNone=b:=by
  unfold qlD at h
  split at h<;>cases h
  ·exact⟨_,_,_,(qaf hx).1,rfl⟩
  ·simp only[Rep,RepD] at hx
   obtain⟨_,_,_,_,h,_⟩:=hx
   exact⟨_,_,_,h,rfl⟩
  ·simp only[Rep] at hx
   obtain⟨_,_,_,_,h,_⟩:=hx
   exact⟨_,_,_,h,rfl⟩
  ·simp only[Rep] at hx
   obtain⟨_,_,h,_⟩:=hx
   exact⟨_,_,_,h,rfl⟩
  ·simp only[Rep] at hx
   obtain⟨_,_,h,_⟩:=hx
   exact⟨_,_,_,h,rfl⟩
 obtain⟨a,n,c,hy,rfl⟩:=key
 have h1:(Op.equal t (.slice a n c) (.slice none 0 0)).run P Γ.w = .ok a.isNone Γ.w:=qlj 9999 ht a n c Γ.w
 refine .pure hr (x := .bool (if neg then !a.isNone else a.isNone)) ?_ (qb1 rfl)
 simp only[execOp,ho,hρ,hy]
 subst hop
 cases neg<;>simp[eqGuard,binOp,h1]
theorem qlk (hr:Real fid Γ) {t:TypeId} {u:Nat} (hty:fid.ty u=t) {x:Operand} {v:V} {d:TypeDesc} (ho:o.op = .makeInterface t x) (ht:P.underlying t=some d) (hd : ∀ ms,d ≠ .interface ms) (hx:Rep fid Γ v (ρ x)):Comes P fid Γ ρ o (.iface u v) Γ.σ:=by
 refine .pure hr (x := .iface t (ρ x)) ?_ ?_
 ·simp only[execOp,ho,Instr.makeInterface,Sem.run_bind,qab ht,Result.andThen_ok]
  cases d<;>first | (exact absurd rfl (hd _)) | simp
 ·simp only[Rep]; exact⟨_,by rw[hty],hx⟩
theorem qiX (hr:Real fid Γ) {name:String} {xs:Array Operand} {x:Operand} {u g:Nat} {v:V} (ho:o.op = .makeFunc (.method name) xs #[]) (hxs:xs = #[x]) (hx:Rep fid Γ (.iface u v) (ρ x)) (hm:fid.mt g (fid.ty u) name):Comes P fid Γ ρ o (.bm g v) Γ.σ:=by
 simp only[Rep] at hx
 obtain⟨y,h1,h2⟩:=hx
 subst hxs
 refine .pure hr (x := .func (.method name) #[.iface (fid.ty u) y] #[]) ?_ ?_
 ·simp[execOp,ho,Instr.makeFunc,h1]
 ·simp only[Rep]
  exact⟨_,_,_,rfl,hm,h2⟩
theorem qnf (hr:Real fid Γ) {op:UnOp} {t:TypeId} {x:Operand} {A r:Value} (ho:o.op = .unOp op t x) (hx:Rep fid Γ (.dat (.lit A)) (ρ x))
  (h:unV op A=some r):Comes P fid Γ ρ o (.dat (.lit r)) Γ.σ:=by
 have key:(Op.unary op A).run P Γ.w = .ok r Γ.w/\qaJ r=true:=by
  cases A<;>cases op<;>simp only[unV] at h<;>first
   | (cases h; done)
   | (cases h; simp[Op.unary,Op.intArith,qaJ]; done)
   | (cases h; simp[Op.unary,Op.intBits,qaJ,qgN]; done)
 refine .pure hr (x:=r) ?_ (qb1 key.2)
 simp only[execOp,ho,(qaf hx).1]
 rw[Sem.run_bind,key.1]
 simp
theorem qif (hr:Real fid Γ) {k:CK} {s t:TypeId} {x:Operand} {A r:Value} {d:TypeDesc} (ho:o.op = .convert s t x) (hx:Rep fid Γ (.dat (.lit A)) (ρ x))
  (hs:P.underlying s=some d) (ht:(∃ j,k = .int j/\P.underlying t=some (.int j))\/(k = .intStr/\P.underlying t=some .string)\/(k = .strStr/\P.underlying t=some .string))
  (h:qiC k A=some r):Comes P fid Γ ρ o (.dat (.lit r)) Γ.σ:=by
 have key:(convert s t A).run P Γ.w = .ok r Γ.w/\qaJ r=true:=by
  rcases ht with ⟨j,rfl,ht⟩ | ⟨rfl,ht⟩ | ⟨rfl,ht⟩<;>cases A<;>simp only[qiC] at h<;>first
   | (cases h; done)
   | (cases h
      simp only[convert,Sem.run_bind,qab hs,qab ht,Result.andThen_ok]
      simp[Conv.intToInt,Conv.intToString,qaJ])
 refine .pure hr (x:=r) ?_ (qb1 key.2)
 simp only[execOp,ho,(qaf hx).1]
 rw[Sem.run_bind,key.1]
 simp
theorem qfu (hr:Real fid Γ) {x:Operand} {u:V} (ho:o.op = .nilCheck x) (hu:Rep fid Γ u (ρ x)) (h:(∃ l k,u = .ptr l k)\/(∃ cs k,u = .dat (.imm cs k)) \/ ∃ l n k,u = .eptr l n k):Comes P fid Γ ρ o u Γ.σ:=by
 have : ∃ a,ρ x = .pointer (some a):=by grind [Rep,RepD]
 obtain⟨a,ha⟩:=this
 refine .pure hr (x := ρ x) ?_ hu
 simp[execOp,ho,ha]
theorem qdV {t e:TypeId} {i:TypeInfo} {name:String} {m:Method} {f:FuncId} (hi:P.info? t=some i) (hm:i.methods.find? (·.name==name)=some m) (hp:m.path = #[]) (hf:m.func=some (f,true)) (n:Nat) (v:Value) (w:World) :
  (nilAhead (n+1) t v name).run P w = .ok (some false) w:=by
 unfold nilAhead
 simp only[Sem.run_bind,qaQ hi,Result.andThen_ok,hm,hp,followBlind,Sem.run_pure,hf]
theorem qig (hr:Real fid Γ) (hmt : ∀ g t nm,fid.mt g t nm ↔ ∃ f,methT P t nm=some f/\ids.fn f=some g) {x:Operand} {g:Nat} {u:V} (ho:o.op = .nilCheck x) (hu:Rep fid Γ (.bm g u) (ρ x)):Comes P fid Γ ρ o (.bm g u) Γ.σ:=by
 refine .pure hr (x := ρ x) ?_ hu
 simp only[Rep] at hu
 obtain⟨t,nm,y,h1,h2,h3⟩:=hu
 obtain⟨f,hf,_⟩:=(hmt _ _ _).1 h2
 unfold methT at hf
 split at hf
 ·rename_i i e hi hu
  split at hf
  ·rename_i m hm
   split at hf
   ·rename_i hp
    split at hf
    ·rename_i f' hf'
     simp only[execOp,ho,h1,Sem.run_bind,run_program,Result.andThen_ok]
     have:(#[Value.iface t y]:Array Value)[0]?=some (.iface t y):=rfl
     simp only[this,Sem.run_bind,run_program,Result.andThen_ok,Made.depth,qdV (e:=e) hi hm (Array.isEmpty_iff.1 hp) hf']
     simp
    ·cases hf
   ·cases hf
  ·cases hf
 ·cases hf
theorem qdq {k:Nat} {p q:V} {x:Value} (hp:Rep fid Γ p x) (h:qbR k p=some q) : ∃ a,x = .pointer (some a)/\Rep fid Γ q (.pointer (some (a.add k))):=by
 unfold qbR at h
 split at h
 ·grind [Rep,qbR,qaI]
 ·grind [Rep,RepD,qbR,qaI]
 ·grind [Rep,qbR,qaI]
 ·cases h
theorem qgt (hr:Real fid Γ) {s:TypeId} {f:Nat} {x:Operand} {p q:V} {fields:Array Field} {fd:Field} {n:Nat} (ho:o.op = .fieldAddr s x f) (hp:Rep fid Γ p (ρ x))
  (hs:P.underlying s=some (.struct fields)) (hf:fields[f]?=some fd) (hn:qak P fd.type=some n) (h0:n≠0) (h:qbR fd.offset p=some q):Comes P fid Γ ρ o q Γ.σ:=by
 obtain⟨a,h1,h2⟩:=qdq hp h
 refine .pure hr ?_ h2
 simp only[execOp,ho,Instr.fieldAt,h1,Instr.sureAddr,Sem.run_bind,qab hs,Result.andThen_ok,hf,fieldPlace,qan hn]
 simp[h0]
theorem qcS {u:V} {x:Value} {cs:List V} (hu:Rep fid Γ u x) (h:u.aggCells=some cs) : ∃ xs,x = .agg xs.toArray/\Reps fid Γ cs xs:=by
 unfold V.aggCells at h
 split at h
 ·cases h
  simp only[Rep,RepD] at hu
  obtain⟨vs,rfl,h⟩:=hu
  exact⟨vs,rfl,Reps_dat.2 h⟩
 ·cases h
  simpa only [Rep] using hu
 ·cases h
theorem qgY {t:TypeId} {agg:Bool} {off n:Nat} {xs:List Value} {cs vs:List V} {u:V} (hs:(agg=true/\qam P t=some true/\qak P t=some n)\/(agg=false/\qam P t=some false/\n=1))
  (hx:Reps fid Γ cs xs) (hc:qae cs off n=some vs) (hu:qbh agg vs=some u) (w:World) : ∃ y,(part t xs.toArray off).run P w = .ok y w/\Rep fid Γ u y:=by
 obtain⟨c1,c2,c3⟩:=qc2 hc
 have h4:Reps fid Γ vs ((xs.drop off).take n):=by rw[c1]; exact qbt (qbM hx off) n
 rcases hs with ⟨rfl,ha,hsz⟩ | ⟨rfl,ha,rfl⟩
 ·rcases qbQ h4 hu with ⟨_,h5⟩ | ⟨h5,_⟩
  ·refine⟨_,?_,h5⟩
   simp only[part,Sem.run_bind,qbs ha,Result.andThen_ok,if_true,qan hsz,Sem.run_pure]
   congr 2
   apply Array.ext'
   simp[List.take_drop]
  ·cases h5
 ·rcases qbQ h4 hu with ⟨h5,_⟩ | ⟨_,x,hx',h5⟩
  ·cases h5
  ·refine⟨x,?_,h5⟩
   have:xs[off]?=some x:=by
    have:((xs.drop off).take 1)[0]?=some x:=by rw[hx']; rfl
    simpa using this
   simp only[part,Sem.run_bind,qbs ha,Result.andThen_ok]
   simp[this]
theorem qih (hr:Real fid Γ) {s:TypeId} {f:Nat} {x:Operand} {p u:V} {agg:Bool} {n:Nat} {fields:Array Field} {fd:Field} {cs vs:List V} (ho:o.op = .field s x f) (hp:Rep fid Γ p (ρ x))
  (hs:P.underlying s=some (.struct fields)) (hf:fields[f]?=some fd) (hn:(agg=true/\qam P fd.type=some true/\qak P fd.type=some n)\/(agg=false/\qam P fd.type=some false/\n=1))
  (ha:p.aggCells=some cs) (hc:qae cs fd.offset n=some vs) (hu:qbh agg vs=some u):Comes P fid Γ ρ o u Γ.σ:=by
 obtain⟨xs,h1,h2⟩:=qcS hp ha
 obtain⟨y,h3,h4⟩:=qgY hn h2 hc hu Γ.w
 refine .pure hr ?_ h4
 simp only[execOp,ho,Instr.field,h1,asAgg,Sem.run_bind,qab hs,Result.andThen_ok,hf]
 simp[h3]
theorem qgu (hr:Real fid Γ) {t e:TypeId} {n:Nat} {x i:Operand} {p q:V} {k:IntKind} {j:Int} (ho:o.op = .indexAddr t x i) (hp:Rep fid Γ p (ρ x)) (hi:Rep fid Γ (.dat (.lit (.int k j))) (ρ i))
  (ht:P.underlying t=some (.slice e)) (hn:qak P e=some n) (h:qah n p j=some q):Comes P fid Γ ρ o q Γ.σ:=by
 have key : ∃ a len cap,ρ x = .slice (some a) len cap/\0<=j/\j<len/\Rep fid Γ q (.pointer (some (a.add (j.toNat*n)))):=by
  unfold qah at h
  split at h
  ·grind [Rep,RepD,qak,qah,Comes,qaI]
  ·grind [Rep,RepD,qak,qah,Comes,qaI]
  ·grind [Rep,qak,qah,Comes,qaI]
  ·split at h
   ·rename_i hj
    cases h
    simp only[Rep] at hp ⊢
    obtain⟨a,cap,hx,h2,h0,h3,h4⟩:=hp
    obtain⟨hj1,hj2,rfl⟩:=hj
    refine⟨_,_,_,hx,hj1,hj2,_,rfl,h3,fun ob cs k1 k2=>⟨(h4 ob cs k1 k2).1,fun hl=>?_⟩⟩
    obtain⟨b,arr,e,g1,rfl,g3,g4⟩:=(h4 ob cs k1 k2).2 hl
    refine⟨b,arr,e,g1,by rw[qaI]; simp,g3,Nat.le_trans (Nat.mul_le_mul_right _ h2) g4⟩
   ·cases h
  ·cases h
 obtain⟨a,len,cap,h1,h2,h3,h4⟩:=key
 refine .pure hr ?_ h4
 simp only[execOp,ho,Instr.indexAt,(qaf hi).1,asIntOf,h1,Sem.run_bind,Sem.run_pure,Result.andThen_ok,qab ht]
 simp[qan hn,h2,h3]
theorem qf0 (hr:Real fid Γ) {t e:TypeId} {n len:Nat} {x i:Operand} {p q:V} {k:IntKind} {j:Int} (ho:o.op = .indexAddr t x i) (hp:Rep fid Γ p (ρ x)) (hi:Rep fid Γ (.dat (.lit (.int k j))) (ρ i))
  (ht:P.underlying t=some (.array len e)) (hn:qak P e=some n) (hj:0<=j/\j<len) (h:qbR (j.toNat*n) p=some q):Comes P fid Γ ρ o q Γ.σ:=by
 obtain⟨a,h1,h2⟩:=qdq hp h
 refine .pure hr ?_ h2
 simp only[execOp,ho,Instr.indexAt,(qaf hi).1,asIntOf,h1,Instr.sureAddr,Sem.run_bind,Sem.run_pure,Result.andThen_ok,qab ht]
 simp[qan hn,hj.1,hj.2]
theorem qgZ (hr:Real fid Γ) {t e:TypeId} {agg:Bool} {n len:Nat} {x i:Operand} {p u:V} {k:IntKind} {j:Int} {cs vs:List V} (ho:o.op = .index t x i) (hp:Rep fid Γ p (ρ x)) (hi:Rep fid Γ (.dat (.lit (.int k j))) (ρ i))
  (ht:P.underlying t=some (.array len e)) (hn:(agg=true/\qam P e=some true/\qak P e=some n)\/(agg=false/\qam P e=some false/\n=1/\qak P e=some 1)) (hj:0<=j/\j<len)
  (ha:p.aggCells=some cs) (hc:qae cs (j.toNat*n) n=some vs) (hu:qbh agg vs=some u):Comes P fid Γ ρ o u Γ.σ:=by
 obtain⟨xs,h1,h2⟩:=qcS hp ha
 obtain⟨y,h3,h4⟩:=qgY (P:=P) (t:=e) (by rcases hn with h | ⟨a,b,c,_⟩; exact .inl h; exact .inr ⟨a,b,c⟩) h2 hc hu Γ.w
 have hsz:qak P e=some n:=by rcases hn with ⟨_,_,h⟩ | ⟨_,_,rfl,h⟩<;>exact h
 refine .pure hr ?_ h4
 simp only[execOp,ho,Instr.index,(qaf hi).1,asIntOf,h1,Sem.run_bind,Sem.run_pure,Result.andThen_ok,qab ht]
 simp[qan hsz,hj.1,hj.2,h3]
theorem qiY (hr:Real fid Γ) {t:TypeId} {x i:Operand} {k:IntKind} {j:Int} {s:ByteArray} {c:UInt8} (ho:o.op = .index t x i) (hp:Rep fid Γ (.dat (.lit (.string s))) (ρ x)) (hi:Rep fid Γ (.dat (.lit (.int k j))) (ρ i))
  (ht:P.underlying t=some .string) (hj:0<=j) (hs:s[j.toNat]?=some c):Comes P fid Γ ρ o (.dat (.lit (.int .u8 c.toNat))) Γ.σ:=by
 refine .pure hr ?_ (qb1 rfl)
 simp only[execOp,ho,Instr.index,(qaf hi).1,(qaf hp).1,asIntOf,Sem.run_bind,Sem.run_pure,Result.andThen_ok,qab ht]
 simp[hj,hs]
theorem qj0 (hr:Real fid Γ) {k:LK} {t:TypeId} {x:Operand} {p:V} {n:Int} {c:Call} (ho:o.op = .call c) (hcal:c.callee = .builtin .len) (hargs:c.args.toList=[x]) (hts:c.argTypes.toList=[t]) (hp:Rep fid Γ p (ρ x))
  (ht:(k = .str/\P.underlying t=some .string)\/(k = .sl /\ ∃ e,P.underlying t=some (.slice e))\/(k = .mp /\ ∃ a b,P.underlying t=some (.map a b))) (h:p.len Γ.σ k=some n):Comes P fid Γ ρ o (.dat (.lit (.int .i64 n))) Γ.σ:=by
 have ha:c.args = #[x]:=by apply Array.ext'; simpa using hargs
 have hb:c.argTypes = #[t]:=by apply Array.ext'; simpa using hts
 have key:(Builtin.len_ #[t] o.type #[ρ x]).run P Γ.w = .ok (.int .i64 n) Γ.w:=by
  unfold V.len at h
  simp only[Builtin.len_]
  split at h
  ·cases h
   rcases ht with ⟨h,_⟩ | ⟨_,e,ht⟩ | ⟨h,_⟩<;>first | cases h; done | skip
   rw[(qaf hp).1]
   simp[qab ht,goInt]
  ·cases h
   rcases ht with ⟨_,ht⟩ | ⟨h,_⟩ | ⟨h,_⟩<;>first | cases h; done | skip
   rw[(qaf hp).1]
   simp[qab ht,goInt]
  ·cases h
   rcases ht with ⟨h,_⟩ | ⟨_,e,ht⟩ | ⟨h,_⟩<;>first | cases h; done | skip
   simp only[Rep,RepD] at hp
   obtain⟨b,o',cap,vs,hx,_⟩:=hp
   rw[hx]
   simp[qab ht,goInt]
  ·cases h
   rcases ht with ⟨h,_⟩ | ⟨_,e,ht⟩ | ⟨h,_⟩<;>first | cases h; done | skip
   simp only[Rep] at hp
   obtain⟨b,cap,vs,m,hx,_⟩:=hp
   rw[hx]
   simp[qab ht,goInt]
  ·cases h
   rcases ht with ⟨h,_⟩ | ⟨_,e,ht⟩ | ⟨h,_⟩<;>first | cases h; done | skip
   simp only[Rep] at hp
   obtain⟨b,_,hx,_⟩:=hp
   rw[hx]
   simp[qab ht,goInt]
  ·cases h
   rcases ht with ⟨h,_⟩ | ⟨_,e,ht⟩ | ⟨h,_⟩<;>first | cases h; done | skip
   simp only[Rep] at hp
   obtain⟨a,cap,hx,_⟩:=hp
   rw[hx]
   simp[qab ht,goInt]
  ·split at h
   ·rename_i es hes
    cases h
    rcases ht with ⟨h,_⟩ | ⟨h,_⟩ | ⟨_,a,b,ht⟩<;>first | cases h; done | skip
    simp only[Rep] at hp
    obtain⟨b,hm,hx,_⟩:=hp
    obtain⟨_,ents,clock,h2,h3⟩:=hr.obs _ _ b hes hm
    rw[hx]
    have hl : ∀ {es:List (Value × V)} {xs:List MapEntry},RepE fid Γ es xs->xs.length=es.length:=by
     intro es
     induction es with
     | nil=>intro xs h; simp only[RepE] at h; simp[h]
     | cons a r ih=>intro xs h; obtain⟨k,v⟩:=a; simp only[RepE] at h; obtain⟨e,es',rfl,_,_,h⟩:=h; simp[ih h]
    have:=hl h3
    simp only[Array.length_toList] at this
    simp[qab ht,goInt,getObj,Sem.run,h2,this]
   ·cases h
  ·cases h
 refine .pure hr (x := .int .i64 n) ?_ (qb1 rfl)
 simp only[execOp,ho,resolve,hcal,ha,hb,invoke,builtin,Sem.run_bind,Sem.run_pure,Result.andThen_ok]
 simp[key]
theorem qg0 : ∀ {ys:List Value} {y r:Value},qkn y ys=some r->qaJ y=true->(ys.foldlM Builtin.min2 y).run P Γ.w = .ok r Γ.w/\qaJ r=true
 | [],y,r,h,hy=>by simp_all [qkn]
 | z::ys,y,r,h,hy=>by
  cases y<;>cases z<;>simp only[qkn] at h<;>first | (cases h; done) | skip
  have:=qg0 (ys:=ys) h rfl
  simp only[List.foldlM_cons,Sem.run_bind,Builtin.min2,Sem.run_pure,Result.andThen_ok]
  exact this
theorem qdy : ∀ {vs:List V} {ys xs:List Value},qiw vs=some ys->Reps fid Γ vs xs->xs=ys /\ ∀ y∈ys,qaJ y=true
 | [],ys,xs,h,hx=>by grind [qiw,Reps]
 | v::vs,ys,xs,h,hx=>by
  simp only[Reps] at hx
  obtain⟨x,xs',rfl,h1,h2⟩:=hx
  cases v with
  | dat d=>
   cases d with
   | lit u=>
    simp only[qiw] at h
    split at h
    ·rename_i us hus
     cases h
     obtain⟨h3,h4⟩:=qdy hus h2
     obtain⟨h5,h6⟩:=qaf h1
     subst h3; subst h5
     exact⟨rfl,by simpa [h6] using h4⟩
    ·cases h
   | _=>simp[qiw] at h
  | _=>simp[qiw] at h
theorem qlZ (hr:Real fid Γ) {c:Call} {vs:List V} {y r:Value} {ys:List Value} (ho:o.op = .call c) (hcal:c.callee = .builtin .min) (hp:Reps fid Γ vs (c.args.toList.map ρ))
  (hl:qiw vs=some (y::ys)) (h:qkn y ys=some r):Comes P fid Γ ρ o (.dat (.lit r)) Γ.σ:=by
 obtain⟨h1,h2⟩:=qdy hl hp
 obtain⟨h3,h4⟩:=qg0 (P:=P) (Γ := Γ) h (h2 y (by simp))
 refine .pure hr (x:=r) ?_ (qb1 h4)
 simp only[execOp,ho,resolve,hcal,invoke,builtin,Sem.run_bind,Sem.run_pure,Result.andThen_ok,Builtin.min_,Array.toList_map,h1,h3]
theorem qg1 : ∀ {ys:List Value} {y r:Value},qko y ys=some r->qaJ y=true->(ys.foldlM Builtin.max2 y).run P Γ.w = .ok r Γ.w/\qaJ r=true
 | [],y,r,h,hy=>by simp_all [qko]
 | z::ys,y,r,h,hy=>by
  cases y<;>cases z<;>simp only[qko] at h<;>first | (cases h; done) | skip
  have:=qg1 (ys:=ys) h rfl
  simp only[List.foldlM_cons,Sem.run_bind,Builtin.max2,Sem.run_pure,Result.andThen_ok]
  exact this
theorem ql0 (hr:Real fid Γ) {c:Call} {vs:List V} {y r:Value} {ys:List Value} (ho:o.op = .call c) (hcal:c.callee = .builtin .max) (hp:Reps fid Γ vs (c.args.toList.map ρ))
  (hl:qiw vs=some (y::ys)) (h:qko y ys=some r):Comes P fid Γ ρ o (.dat (.lit r)) Γ.σ:=by
 obtain⟨h1,h2⟩:=qdy hl hp
 obtain⟨h3,h4⟩:=qg1 (P:=P) (Γ := Γ) h (h2 y (by simp))
 refine .pure hr (x:=r) ?_ (qb1 h4)
 simp only[execOp,ho,resolve,hcal,invoke,builtin,Sem.run_bind,Sem.run_pure,Result.andThen_ok,Builtin.max_,Array.toList_map,h1,h3]
theorem qll (hr:Real fid Γ) {f:FuncId} {g:Nat} {xs ys:Array Operand} {as bs:List V} (ho:o.op = .makeFunc (.func f) xs ys) (hg:fid g=f) (ha:Reps fid Γ as (xs.toList.map ρ)) (hb:Reps fid Γ bs (ys.toList.map ρ)) :
  Comes P fid Γ ρ o (.fn g as bs) Γ.σ:=by
 refine .pure hr (x := .func (.func f) (xs.map ρ) (ys.map ρ)) ?_ ?_
 ·simp[execOp,ho,Instr.makeFunc]
 ·simp only[Rep]
  exact⟨_,_,by rw[hg]; simp[<- Array.toList_map],ha,hb⟩
theorem qg2 {vs:List V} {xs:List Value} (h:Reps fid Γ vs xs) {i:Nat} {v:V} (hv:vs[i]?=some v) : ∃ x,xs[i]?=some x/\Rep fid Γ v x:=by
 induction vs generalizing xs i with
 | nil=>simp at hv
 | cons u vs ih=>
  simp only[Reps] at h
  obtain⟨x,xs',rfl,h1,h2⟩:=h
  cases i with
  | zero=>simp at hv; subst hv; exact⟨x,rfl,h1⟩
  | succ i=>exact ih h2 (by simpa using hv)
theorem qii (hr:Real fid Γ) {x:Operand} {i:Nat} {vs:List V} {u:V} (ho:o.op = .extract x i) (hp:Rep fid Γ (.tup vs) (ρ x)) (h:vs[i]?=some u):Comes P fid Γ ρ o u Γ.σ:=by
 simp only[Rep] at hp
 obtain⟨xs,hx,h1⟩:=hp
 obtain⟨y,h2,h3⟩:=qg2 h1 h
 refine .pure hr ?_ h3
 simp[execOp,ho,hx,Instr.extract,h2]
def qf1 (fid:Fid) (Γ : Ctx) (ρ : Operand->Value):Option V->Option Operand->Prop
 | none,none=>True
 | some v,some y=>Rep fid Γ v (ρ y)
 | _,_=>False
theorem qay {x:Option V} {xo:Option Operand} {d most k:Nat} (hx:qf1 fid Γ ρ x xo) (h:bound x d most=some k) :
  (xo=none/\k=d) \/ ∃ y kd i,xo=some y /\ ρ y = .int kd i/\0<=i/\i<=most/\k=i.toNat:=by
 cases x with
 | none=>
  cases xo with
  | none=>simp only[bound,Option.some.injEq] at h; exact .inl ⟨rfl,h.symm⟩
  | some y=>exact hx.elim
 | some v=>
  cases xo with
  | none=>exact hx.elim
  | some y=>
   unfold bound at h
   split at h
   ·rename_i e; cases e
   ·rename_i kd i e
    cases e
    split at h
    ·rename_i hi
     cases h
     exact .inr ⟨y,kd,i,rfl,(qaf (fid:=fid) (Γ := Γ) hx).1,hi.1,hi.2,rfl⟩
    ·cases h
   ·cases h
theorem qbj {lo hi:Option V} {lx hx:Option Operand} {isSl:Bool} {n cap h l:Nat}
  (h1:qf1 fid Γ ρ lo lx) (h2:qf1 fid Γ ρ hi hx)
  (hn:n<=cap) (hh:bound hi n n=some h) (hl:bound lo 0 h=some l) (w:World) :
  (Instr.sliceBounds isSl n cap (lx.map ρ) (hx.map ρ) none).run P w = .ok (l,h,cap) w:=by
 rcases qay h2 hh with ⟨rfl,rfl⟩ | ⟨y,kd,i,rfl,e1,e2,e3,rfl⟩<;>rcases qay h1 hl with ⟨rfl,rfl⟩ | ⟨y',kd',i',rfl,f1,f2,f3,rfl⟩
 ·simp[Instr.sliceBounds]
 ·simp[Instr.sliceBounds,Instr.sliceBound,f1,asIntOf,f2,f3]
 ·simp[Instr.sliceBounds,Instr.sliceBound,e1,asIntOf,e2,show i<=(cap:Int) from by omega]
 ·simp[Instr.sliceBounds,Instr.sliceBound,e1,f1,asIntOf,e2,f2,show i<=(cap:Int) from by omega]
  omega
theorem qj1 {F:Nat->Nat} {w:World} {b o:Nat} {vs:List Value} (h:Row F w b o vs) (l n:Nat):Row F w b (o+l) ((vs.drop l).take n):=by grind [Row]
theorem qj2 {F:Nat->Nat} {w:World} {b o:Nat}:Row F w b o []:=⟨fun i v h=>by simp at h,fun h=>absurd h (Nat.lt_irrefl _),fun v h=>by simp at h⟩
theorem c_slice (hr:Real fid Γ) {t e:TypeId} {n:Nat} {x:Operand} {p u:V} {lo hi:Option V} {lx hx:Option Operand} (ho:o.op = .slice t x lx hx none) (hp:Rep fid Γ p (ρ x))
  (ht:P.underlying t=some (.slice e)) (hn:qak P e=some n)
  (h1:qf1 fid Γ ρ lo lx) (h2:qf1 fid Γ ρ hi hx)
  (h:qdf n lo hi p=some u):Comes P fid Γ ρ o u Γ.σ:=by
 have fin : ∀ {a len cap l h},ρ x = .slice a len cap->(Instr.sliceBounds true len cap (lx.map ρ) (hx.map ρ) none).run P Γ.w = .ok (l,h,cap) Γ.w ->
   Rep fid Γ u (.slice (if cap=l then a else a.map (·.add (l*n))) (h-l) (cap-l))->Comes P fid Γ ρ o u Γ.σ := fun ha hb hc=>by
  refine .pure hr ?_ hc
  simp only[execOp,ho,Instr.sliceAt,Sem.run_bind,qab ht,Result.andThen_ok,Instr.slice,ha,Option.map_none,hb,qan hn,Sem.run_pure]
 have cut : ∀ {cs:List D} {len full':Nat} {b off cap:Nat} {vs:List Value} {l h:Nat},RepDs Γ.F Γ.w cs vs->Row Γ.F Γ.w b off vs->cs.length=len*n->len<=cap->l<=h->h<=len ->
   Rep fid Γ (.dat (.sl ((cs.drop (l*n)).take ((h-l)*n)) (h-l) false)) (.slice (if cap=l then some ⟨b,off,none⟩ else (some (⟨b,off,none⟩:Addr)).map (·.add (l*n))) (h-l) (cap-l)):=by
  intro cs len _ b off cap vs l h g1 g2 g3 g4 g5 g6
  simp only[Rep,RepD]
  by_cases hc:cap=l
  ·have:h-l=0:=by omega
   rw[this]
   refine⟨b,off,cap-l,[],by simp[hc],by omega,by simp,by simp[RepDs],qj2⟩
  ·refine⟨b,off+l*n,cap-l,((vs.drop (l*n)).take ((h-l)*n)),by simp[hc,qaI],by omega,by simp,qdA (qdz g1 _) _,qj1 g2 _ _⟩
 unfold qdf at h
 split at h
 ·split at h
  ·rename_i hh eh
   split at h
   ·rename_i ll el
    cases h
    have hb:=qbj (P:=P) (isSl:=true) h1 h2 (Nat.le_refl 0) eh el Γ.w
    refine fin (qaf hp).1 hb ?_
    have:ll=0/\hh=0:=by grind [Rep,qak,qf1,qdf,Comes,qay]
    obtain⟨rfl,rfl⟩:=this
    simp only[if_true]
    exact qb1 rfl
   ·cases h
  ·cases h
 ·rename_i cs len full
  split at h
  ·rename_i hh eh
   split at h
   ·rename_i ll el
    split at h
    ·rename_i hlen
     cases h
     simp only[Rep,RepD] at hp
     obtain⟨b,off,cap,vs,hx',g2,g3,g4,g5⟩:=hp
     refine fin hx' (qbj (P:=P) (isSl:=true) h1 h2 g2 eh el Γ.w) (cut (full':=0) g4 g5 hlen g2 ?_ ?_)
     ·grind [Rep,qak,qf1,qdf,Comes,qay]
     ·grind [Rep,qak,qf1,qdf,Comes,qay]
    ·cases h
   ·cases h
  ·cases h
 ·rename_i cs len sz l0
  split at h
  ·rename_i hh eh
   split at h
   ·rename_i ll el
    split at h
    ·rename_i hlen
     cases h
     simp only[Rep] at hp
     obtain⟨b,cap,vs,m,hx',g2,g4,g5,_⟩:=hp
     refine fin hx' (qbj (P:=P) (isSl:=true) h1 h2 g2 eh el Γ.w) (cut (full':=0) g4 g5 hlen g2 ?_ ?_)
     ·grind [Rep,qak,qf1,qdf,Comes,qay]
     ·grind [Rep,qak,qf1,qdf,Comes,qay]
    ·cases h
   ·cases h
  ·cases h
 ·rename_i l0 off len cap sz'
  split at h
  ·rename_i hh eh
   split at h
   ·rename_i ll el
    split at h
    ·rename_i hsz
     subst hsz
     cases h
     simp only[Rep] at hp
     obtain⟨b,hm,hx',g2,g3⟩:=hp
     refine fin hx' (qbj (P:=P) (isSl:=true) h1 h2 g2 eh el Γ.w) ?_
     have a1:ll<=hh:=by rcases qay h1 el with ⟨_,rfl⟩ | ⟨_,_,i',_,_,i3,i4,rfl⟩<;>omega
     have a2:hh<=len:=by rcases qay h2 eh with ⟨_,rfl⟩ | ⟨_,_,i',_,_,i3,i4,rfl⟩<;>omega
     simp only[Rep]
     refine⟨b,hm,?_,by omega,g3⟩
     by_cases hc:cap=ll
     ·simp[hc]
     ·simp[hc,qaI]
    ·cases h
   ·cases h
  ·cases h
 ·cases h
theorem qj3 (hr:Real fid Γ) {s t e:TypeId} {x:Operand} {b:ByteArray} {d:TypeDesc} (ho:o.op = .convert s t x) (hx:Rep fid Γ (.dat (.lit (.string b))) (ρ x)) (hs:P.underlying s=some d) (ht:P.underlying t=some (.slice e)) (he:P.underlying e=some (.int .u8)) :
  Comes P fid Γ ρ o (.dat (.sl (qcO b) b.size false)) Γ.σ:=by
 have hrun:=Lib.run_convert_string_bytes (P:=P) Γ.w s t e b hs ht he
 have hsz:=Lib.bytesWorld_size Γ.w e b
 have hold:=fun j hj=>Lib.bytesWorld_at_old Γ.w e b j hj
 have hnew:=Lib.bytesWorld_at_new Γ.w e b
 have hcell:=fun j hj=>Lib.bytesWorld_cell Γ.w e b j hj
 have hcap:b.size<=grownCap Γ.w b.size 0 e:=by simp only[grownCap,Question.cut]; omega
 have hasz:b.size<=(Lib.bytesCells Γ.w e b).size:=by show b.data.size<=_; simp only[Lib.bytesCells,Array.size_append,Array.size_map]; omega
 have hw:(Lib.bytesWorld Γ.w e b).os = Γ.w.os/\(Lib.bytesWorld Γ.w e b).tape = Γ.w.tape/\(Lib.bytesWorld Γ.w e b).output = Γ.w.output:=by
  unfold Lib.bytesWorld World.freeze
  simp only[Nat.one_ne_zero,if_false]
  exact⟨rfl,rfl,rfl⟩
 generalize Lib.bytesWorld Γ.w e b=w' at *
 have hext:Ext Γ ⟨Γ.σ,Γ.μ,grow Γ.F Γ.w.heap.size b.size,w'⟩:=by
  refine⟨by simp; omega,hw.1,hw.2.1,hw.2.2,fun k=>?_,fun k i v hi hv=>?_,fun k arr t hb ha=>⟨arr,?_,rfl⟩,Nat.le_refl _,fun _ ob h ht=>⟨⟨ob,h,ht⟩,fun _ h=>h⟩,fun _ m h=>⟨m,h,Nat.le_refl _,fun h=>h,fun _ _ h=>h⟩,
   qcr fun l ob h _ => .inl ⟨h,fun k hk=>⟨hk,fun _ _ ha=>by show w'.heap[k]?=_; rw[hold k (hr.dom l k hk).2]; exact ha⟩⟩⟩
  ·simp only[grow]; split
   ·rename_i e; subst e; rw[hr.F_size]; exact Nat.zero_le _
   ·exact Nat.le_refl _
  ·rw[cell?_of_block (hold k (hr.F_lt (by omega)))]; exact hv
  ·rw[hold k (hr.F_lt hb)]; exact ha
 refine⟨⟨Γ.σ,Γ.μ,grow Γ.F Γ.w.heap.size b.size,w'⟩,_,rfl,⟨fun l ob k h1 h2=>?_,fun l k h=>?_,hr.inj,fun k hk=>?_,Glb.ext hext hr.glb⟩,⟨hext,⟨fun k hk hn=>⟨hold k hk,?_⟩,fun l k h _=>⟨l,h⟩⟩,fun _ _ h=>h⟩,?_,.inl (by
  simp only[execOp,ho,(qaf hx).1]; rw[Sem.run_bind,hrun]; simp; rfl)⟩
 ·have hb:=(hr.dom l k h2).2
  exact RepOb.ext hext (hold k hb) (by simp only[grow]; rw[if_neg (by omega)]) ob (hr.obs l ob k h1 h2)
 ·have:=hr.dom l k h
  exact⟨this.1,by simp; omega⟩
 ·simp only[grow] at hk ⊢
  split at hk
  ·grind
  ·rename_i e'
   obtain⟨a,t,fz,h1,h2⟩:=hr.imm k hk
   exact⟨a,t,fz,by rw[hold k (qbv h1)]; exact h1,by simpa [e'] using h2⟩
 ·simp only[grow]; rw[if_neg (by omega)]
 ·simp only[Rep,RepD]
  refine⟨Γ.w.heap.size,0,_,b.data.toList.map fun c => .int .u8 c.toNat,rfl,hcap,by simp,?_,⟨fun i v hi=>?_,fun _=>?_,?_⟩⟩
  ·have:qcO b=(b.data.toList.map fun c=>Value.int .u8 c.toNat).map .lit:=by simp[qcO]
   rw[this]
   exact qcz fun v hv=>by obtain⟨c,_,rfl⟩:=List.mem_map.1 hv; rfl
  ·have hi':i<b.size:=by have:=(List.getElem?_eq_some_iff.1 hi).1; rw[List.length_map,Array.length_toList] at this; exact this
   have:=hcell i hi'
   rw[Nat.zero_add,this]
   rw[List.getElem?_map] at hi
   cases hg:b.data.toList[i]? with
   | none=>rw[hg] at hi; cases hi
   | some c=>rw[hg] at hi; simp at hi; subst hi; simp[List.getD,hg]
  ·simp_all [grow]
  ·intro v hv
   obtain⟨c,_,rfl⟩:=List.mem_map.1 hv
   rfl
theorem qiZ (hr:Real fid Γ) {t:TypeId} {x:Operand} {p u:V} {lo hi:Option V} {lx hx:Option Operand} (ho:o.op = .slice t x lx hx none) (hp:Rep fid Γ p (ρ x))
  (ht:P.underlying t=some .string)
  (h1:qf1 fid Γ ρ lo lx) (h2:qf1 fid Γ ρ hi hx)
  (h:qgi lo hi p=some u):Comes P fid Γ ρ o u Γ.σ:=by
 unfold qgi at h
 split at h
 ·split at h
  ·rename_i hh eh
   split at h
   ·rename_i ll el
    cases h
    refine .pure hr ?_ (qb1 rfl)
    have hb:=qbj (P:=P) (isSl:=false) h1 h2 (Nat.le_refl _) eh el Γ.w
    simp only[execOp,ho,Instr.sliceAt,Sem.run_bind,qab ht,Result.andThen_ok,Instr.slice,(qaf hp).1,Option.map_none,Sem.run_pure]
    simp[hb]
   ·cases h
  ·cases h
 ·cases h
end
end Go.Pm
end SH
section SH2
namespace Go.Pm
variable {P:Program} {fid:Fid}
theorem qgH {α : Type} (l:List α) : ∀ n,(qbC n l).length=n*l.length
 | 0=>by simp[qbC]
 | n+1=>by simp[qbC,qgH l n,Nat.add_mul]; omega
def qaZ:List KD->List Value->List Value->Option Bool
 | [],[],[]=>some true
 | k::ks,a::as,b::bs=>match qhb k a b,qaZ ks as bs with
  | some x,some y=>some (x&&y)
  | _,_=>none
 | _,_,_=>none
theorem qfF : ∀ {ks:List KD} {as bs:List D} {xs ys:List Value} {F:Nat->Nat} {w:World} {b:Bool},qde ks as bs=some b->RepDs F w as xs->RepDs F w bs ys->qaZ ks xs ys=some b
 | [],as,bs,xs,ys,F,w,b,h,hx,hy=>by grind [qde,RepDs,qaZ]
 | k::ks,as,bs,xs,ys,F,w,b,h,hx,hy=>by
  cases as with
  | nil=>cases bs<;>simp[qde] at h
  | cons a as=>
   cases bs with
   | nil=>cases a<;>simp[qde] at h
   | cons c bs=>
    cases a<;>cases c<;>simp only[qde] at h<;>first | (cases h; done) | skip
    rename_i u v
    simp only[RepDs,RepD] at hx hy
    obtain⟨x,xs',rfl,⟨rfl,_⟩,h1⟩:=hx
    obtain⟨y,ys',rfl,⟨rfl,_⟩,h2⟩:=hy
    split at h
    ·rename_i p q hp hq
     simp only[qaZ,hp,qfF hq h1 h2]
     exact h
    ·cases h
theorem qcE : ∀ {ks:List KD} {xs ys:List Value} {b:Bool},qaZ ks xs ys=some b->xs.length=ks.length/\ys.length=ks.length
 | [],xs,ys,b,h=>by cases xs<;>cases ys<;>simp[qaZ] at h ⊢
 | k::ks,xs,ys,b,h=>by
  cases xs<;>cases ys<;>simp only[qaZ] at h<;>first | (cases h; done) | skip
  split at h
  ·rename_i p q hp hq
   have:=qcE hq
   simp[this.1,this.2]
  ·cases h
theorem qcn : ∀ {k1 k2:List KD} {xs ys:List Value} {b:Bool},qaZ (k1++k2) xs ys=some b ->
  ∃ b1 b2,qaZ k1 (xs.take k1.length) (ys.take k1.length)=some b1/\qaZ k2 (xs.drop k1.length) (ys.drop k1.length)=some b2/\b=(b1&&b2)
 | [],k2,xs,ys,b,h=>⟨true,b,by simp[qaZ],by simpa using h,by simp⟩
 | k::k1,k2,xs,ys,b,h=>by
  cases xs<;>cases ys<;>simp only[List.cons_append,qaZ] at h<;>first | (cases h; done) | skip
  split at h
  ·rename_i p q hp hq
   obtain⟨b1,b2,h1,h2,rfl⟩:=qcn hq
   cases h
   refine⟨p&&b1,b2,?_,by simpa using h2,by rw[Bool.and_assoc]⟩
   simp only[List.length_cons,List.take_succ_cons,qaZ,hp,h1]
  ·cases h
def EqV (P:Program) (D:Nat) (t:TypeId) (ks:List KD):Prop := ∀ (w:World) (x y:Value) (b:Bool),
 ((qam P t=some true /\ ∃ xs ys:List Value,x = .agg xs.toArray/\y = .agg ys.toArray/\qaZ ks xs ys=some b)\/(qam P t=some false/\qaZ ks [x] [y]=some b))->(Op.equalIn D t x y).run P w = .ok b w
theorem qfG {t:TypeId} {ks:List KD} (hsz:qak P t=some ks.length) (hag:qam P t=some true\/(qam P t=some false/\ks.length=1)) {xs ys:List Value} {off:Nat} {b:Bool} {D:Nat} (hE:EqV P D t ks)
  (h:qaZ ks ((xs.drop off).take ks.length) ((ys.drop off).take ks.length)=some b) (w:World) :
  ∃ x y,(part t xs.toArray off).run P w = .ok x w/\(part t ys.toArray off).run P w = .ok y w/\(Op.equalIn D t x y).run P w = .ok b w:=by
 rcases hag with ha | ⟨ha,h1⟩
 ·refine⟨_,_,?_,?_,hE w _ _ b (.inl ⟨ha,(xs.drop off).take ks.length,(ys.drop off).take ks.length,rfl,rfl,h⟩)⟩
  ·simp only[part,Sem.run_bind,qbs ha,Result.andThen_ok,if_true,qan hsz,Sem.run_pure]
   congr 2
   apply Array.ext'
   simp[List.take_drop]
  ·simp only[part,Sem.run_bind,qbs ha,Result.andThen_ok,if_true,qan hsz,Sem.run_pure]
   congr 2
   apply Array.ext'
   simp[List.take_drop]
 ·rw[h1] at h
  obtain⟨l1,l2⟩:=qcE h
  rw[h1] at l1 l2
  obtain⟨x,hx⟩:=List.length_eq_one_iff.1 l1
  obtain⟨y,hy⟩:=List.length_eq_one_iff.1 l2
  rw[hx,hy] at h
  have g1:xs[off]?=some x:=by
   have:((xs.drop off).take 1)[0]?=some x:=by rw[hx]; rfl
   simpa using this
  have g2:ys[off]?=some y:=by
   have:((ys.drop off).take 1)[0]?=some y:=by rw[hy]; rfl
   simpa using this
  refine⟨x,y,?_,?_,hE w x y b (.inr ⟨ha,h⟩)⟩
  ·simp only[part,Sem.run_bind,qbs ha,Result.andThen_ok]
   simp[g1]
  ·simp only[part,Sem.run_bind,qbs ha,Result.andThen_ok]
   simp[g2]
theorem qcU {t:TypeId} {o:Option (List KD)} {ks:List KD} (h:qit P t o=some ks):o=some ks/\qak P t=some ks.length:=by
 unfold qit at h
 split at h
 ·grind
 ·cases h
theorem qeG {d:Nat} {t:TypeId} {ks:List KD} (h:qck P d t=some ks):qak P t=some ks.length/\(qam P t=some true\/(qam P t=some false/\ks.length=1)):=by
 cases d with
 | zero=>simp[qck] at h
 | succ d=>
  simp only[qck] at h
  obtain⟨h1,h2⟩:=qcU h
  refine⟨h2,?_⟩
  unfold qam
  split at h1<;>rename_i hu<;>first | (cases h1; done) | (rw[hu]; first | (cases h1; exact .inr ⟨rfl,rfl⟩) | exact .inl rfl)
theorem qdc {D:Nat} {rec:TypeId->Option (List KD)} (hrec : ∀ t ks,rec t=some ks->qak P t=some ks.length/\(qam P t=some true\/(qam P t=some false/\ks.length=1))/\EqV P D t ks)
  (xs ys:List Value) (w:World) : ∀ (fs:List Field) (off:Nat) (ks:List KD) (b:Bool),qbl rec off fs=some ks->qaZ ks ((xs.drop off).take ks.length) ((ys.drop off).take ks.length)=some b ->
   (Op.eqFields D xs.toArray ys.toArray fs).run P w = .ok b w
 | [],off,ks,b,h,he=>by
  simp only[qbl,Option.some.injEq] at h; subst h
  simp[qaZ] at he; subst he
  simp[Op.eqFields]
 | f::fs,off,ks,b,h,he=>by
  simp only[qbl] at h
  split at h
  ·rename_i hc
   split at h
   ·rename_i k1 hk1
    split at h
    ·rename_i k2 hk2
     cases h
     obtain⟨b1,b2,e1,e2,rfl⟩:=qcn he
     obtain⟨s1,s2,s3⟩:=hrec _ _ hk1
     rw[List.take_take,List.take_take,Nat.min_eq_left (by simp)] at e1
     have hd : ∀ l:List Value,((l.drop off).take (k1++k2).length).drop k1.length=(l.drop (off+k1.length)).take k2.length:=fun l=>by
      rw[List.drop_take,List.drop_drop]; congr 1; simp
     rw[hd,hd] at e2
     obtain⟨x,y,p1,p2,p3⟩:=qfG s1 s2 s3 e1 w
     have ih:=qdc hrec xs ys w fs _ _ _ hk2 e2
     rw[<- hc.1] at p1 p2
     simp only[Op.eqFields,hc.2,ne_eq,not_false_eq_true,if_true,Sem.run_bind,p1,p2,p3,Result.andThen_ok]
     cases b1
     ·simp
     ·simpa using ih
    ·cases h
   ·cases h
  ·cases h
theorem qdK {D:Nat} {t:TypeId} {k1:List KD} (s1:qak P t=some k1.length) (s2:qam P t=some true\/(qam P t=some false/\k1.length=1)) (s3:EqV P D t k1)
  (xs ys:List Value) (w:World) : ∀ (n i:Nat) (b:Bool),qaZ (qbC n k1) ((xs.drop (i*k1.length)).take (n*k1.length)) ((ys.drop (i*k1.length)).take (n*k1.length))=some b ->
   (Op.eqItems D t k1.length xs.toArray ys.toArray (List.range' i n)).run P w = .ok b w
 | 0,i,b,he=>by
  simp[qaZ,qbC] at he; subst he
  simp[Op.eqItems]
 | n+1,i,b,he=>by
  simp only[qbC] at he
  obtain⟨b1,b2,e1,e2,rfl⟩:=qcn he
  rw[List.take_take,List.take_take,Nat.min_eq_left (by rw[Nat.add_mul]; omega)] at e1
  have hd : ∀ l:List Value,((l.drop (i*k1.length)).take ((n+1)*k1.length)).drop k1.length=(l.drop ((i+1)*k1.length)).take (n*k1.length):=fun l=>by
   rw[List.drop_take,List.drop_drop,Nat.add_mul,Nat.one_mul,Nat.add_mul,Nat.one_mul]; congr 1; omega
  rw[hd,hd] at e2
  obtain⟨x,y,p1,p2,p3⟩:=qfG s1 s2 s3 e1 w
  have ih:=qdK s1 s2 s3 xs ys w n (i+1) _ e2
  simp only[List.range'_succ,Op.eqItems,Sem.run_bind,p1,p2,p3,Result.andThen_ok]
  cases b1
  ·simp
  ·simpa using ih
theorem qhE : ∀ (d:Nat) (t:TypeId) (ks:List KD),qck P d t=some ks -> ∀ D,d<=D->EqV P D t ks
 | 0,t,ks,h,D,hD=>by simp[qck] at h
 | d+1,t,ks,h,D,hD=>by
  obtain⟨D,rfl⟩ : ∃ D',D=D'+1:=⟨D-1,by omega⟩
  simp only[qck] at h
  obtain⟨h1,h2⟩:=qcU h
  intro w x y b hxy
  have hrec : ∀ t ks,qck P d t=some ks->qak P t=some ks.length/\(qam P t=some true\/(qam P t=some false/\ks.length=1))/\EqV P D t ks:=fun t ks hk=>
   ⟨(qeG hk).1,(qeG hk).2,qhE d t ks hk D (by omega)⟩
  split at h1
  ·rename_i hu
   cases h1
   rcases hxy with ⟨ha,_⟩ | ⟨_,he⟩
   ·simp[qam,hu] at ha
   ·simp only[qaZ] at he
    cases x<;>cases y<;>simp only[qhb] at he<;>first | (cases he; done) | skip
    simp at he; subst he
    exact run_equalIn_bool w D t _ _ hu
  ·rename_i k hu
   cases h1
   rcases hxy with ⟨ha,_⟩ | ⟨_,he⟩
   ·simp[qam,hu] at ha
   ·simp only[qaZ] at he
    cases x<;>cases y<;>simp only[qhb] at he<;>first | (cases he; done) | skip
    rename_i k1 a k2 c
    by_cases hk:k1=k2
    ·subst hk
     simp[eqI] at he; subst he
     have:=run_equalIn_int (P:=P) w D t k1 k a c hu
     simpa using this
    ·rw[if_neg hk] at he; cases he
  ·rename_i hu
   cases h1
   rcases hxy with ⟨ha,_⟩ | ⟨_,he⟩
   ·simp[qam,hu] at ha
   ·simp only[qaZ] at he
    cases x<;>cases y<;>simp only[qhb] at he<;>first | (cases he; done) | skip
    rename_i a c
    simp[eqS] at he; subst he
    have:=run_equalIn_string (P:=P) w D t a c hu
    simpa using this
  ·rename_i fs hu
   split at h1
   ·cases h1
   ·rename_i hst
    have hst':P.stoodInHeld t=false:=by simpa using hst
    rcases hxy with ⟨_,xs,ys,rfl,rfl,he⟩ | ⟨ha,_⟩
    ·obtain⟨l1,l2⟩:=qcE he
     have hf:P.fieldsOf t=fs:=by simp[Program.fieldsOf,hu]
     rw[run_equalIn_struct w D t _ _ (by rw[hf]; exact hu) hst',hf]
     refine qdc hrec xs ys w fs.toList 0 ks b h1 ?_
     rw[List.drop_zero,List.drop_zero,List.take_of_length_le (by omega),List.take_of_length_le (by omega)]
     exact he
    ·simp[qam,hu] at ha
  ·rename_i len e hu
   simp only[Option.map_eq_some_iff] at h1
   obtain⟨k1,hk1,rfl⟩:=h1
   rcases hxy with ⟨_,xs,ys,rfl,rfl,he⟩ | ⟨ha,_⟩
   ·obtain⟨l1,l2⟩:=qcE he
    obtain⟨s1,s2,s3⟩:=hrec _ _ hk1
    have hi : ∃ i,P.info? e=some i/\i.size=k1.length:=by simp_all [qak]
    obtain⟨i,hi,his⟩:=hi
    have hc:P.cellsOf e=k1.length:=by simp[Program.cellsOf,hi,his]
    rw[run_equalIn_array w D _ _ hu hi,hc,List.range_eq_range']
    have hl:(qbC len k1).length=len*k1.length:=qgH k1 len
    refine qdK s1 s2 s3 xs ys w len 0 b ?_
    rw[Nat.zero_mul,List.drop_zero,List.drop_zero,List.take_of_length_le (by omega),List.take_of_length_le (by omega)]
    exact he
   ·simp[qam,hu] at ha
  ·cases h1
theorem qdu : ∀ (d:Nat) (t:TypeId) (ks:List KD),qck P d t=some ks -> ∀ k,d<=k->P.eqGuardType k t=false
 | 0,t,ks,h,k,_=>by simp[qck] at h
 | d+1,t,ks,h,k,hk=>by
  obtain⟨k,rfl⟩ : ∃ k',k=k'+1:=⟨k-1,by omega⟩
  simp only[qck] at h
  obtain⟨h1,h2⟩:=qcU h
  unfold Program.eqGuardType
  split at h1<;>rename_i hu<;>first | (cases h1; done) | skip
  ·rw[hu]
  ·rw[hu]
  ·rw[hu]
  ·rename_i fs
   rw[hu]
   split at h1
   ·cases h1
   ·have key : ∀ (l:List Field) (off:Nat) (ks:List KD),qbl (qck P d) off l=some ks -> ∀ f∈l,P.eqGuardType k f.type=false:=by
     intro l
     induction l with
     | nil=>intro _ _ _ f hf; cases hf
     | cons g l ih=>
      intro off ks h f hf
      simp only[qbl] at h
      split at h
      ·split at h
       ·rename_i k1 hk1
        split at h
        ·rename_i k2 hk2
         rcases List.mem_cons.1 hf with rfl | hf
         ·exact qdu d _ _ hk1 k (by omega)
         ·exact ih _ _ hk2 f hf
        ·cases h
       ·cases h
      ·cases h
    simp only[Array.any_eq_false']
    intro f hf
    have:=key _ _ _ h1 f (by simpa using hf)
    simp[this]
  ·rw[hu]
   simp only[Option.map_eq_some_iff] at h1
   obtain⟨k1,hk1,rfl⟩:=h1
   exact qdu d _ _ hk1 k (by omega)
section
variable {Γ : Ctx} {ρ : Operand->Value} {o:Oper}
theorem qiA (hr:Real fid Γ) {op:BinOp} {t t':TypeId} {x y:Operand} {as bs:List D} {ks:List KD} {b:Bool} (neg:Bool) (hop:op=if neg then .neq else .eql) (ho:o.op = .binOp op t x y t') (ht:qam P t=some true) (hk:qck P 20 t=some ks)
  (hx:Rep fid Γ (.dat (.agg as)) (ρ x)) (hy:Rep fid Γ (.dat (.agg bs)) (ρ y)) (h:qde ks as bs=some b):Comes P fid Γ ρ o (.bool (if neg then !b else b)) Γ.σ:=by
 simp only[Rep,RepD] at hx hy
 obtain⟨xs,hx,h1⟩:=hx
 obtain⟨ys,hy,h2⟩:=hy
 have he:=qfF h h1 h2
 have hq:(Op.equal t (.agg xs.toArray) (.agg ys.toArray)).run P Γ.w = .ok b Γ.w:=qhE 20 t ks hk 10000 (by omega) Γ.w _ _ b (.inl ⟨ht,xs,ys,rfl,rfl,he⟩)
 have hg : ∀ op,(eqGuard op t x y (.agg xs.toArray) (.agg ys.toArray)).run P Γ.w = .ok () Γ.w:=fun op=>run_eqGuard_agg Γ.w op t x y _ _ (qdu 20 t ks hk _ (by unfold Program.depth Made.depth; omega))
 refine .pure hr (x := .bool (if neg then !b else b)) ?_ (qb1 rfl)
 simp only[execOp,ho,hx,hy,Sem.run_bind,hg,Result.andThen_ok]
 subst hop
 cases neg<;>simp[binOp,hq]
end
end Go.Pm
end SH2
