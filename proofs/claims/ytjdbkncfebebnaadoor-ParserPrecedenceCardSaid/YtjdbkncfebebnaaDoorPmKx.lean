/- Chapter 13's parser: a statement is the plain one. Chapter 13's parser: assignments, stores, loops, ifs against the plain ones. Chapter 13's parser: every statement is the plain one. Chapter 13's parser: blocks are the plain ones. Chapter 13's parser: handlers. Chapter 13's parser: a whole program: the walks. Chapter 13's parser: whole programs are the plain ones. Chapter 13's parser: program. Chapter 13's parser: Parse is the plain one. Chapter 13's parser: Parse behind an error. Chapter 13's parser: Parse, whole. What the laws of chapter 13 call, over any table that has it: Short, Broken, Source, Parse, Print, equal. Chapter 13's law ParserRound. Chapter 13's reference printer: expressions with all parentheses. The rule language in plain Lean: one assignment of an expression, printed either way, and read back. No program in sight. -/
import Derived.Test.YtjdbkncfebebnaaDoorPmKs
import Derived.Test.YtjdbkncfebebnaaDoorPmG1
import Derived.Test.YtjdbkncfebebnaaDoorPmFx
import Derived.Test.YtjdbkncfebebnaaDoorPmYh
import Derived.Test.YtjdbkncfebebnaaDoorPmSb
set_option linter.unusedSimpArgs false
set_option linter.unusedVariables false
section SKx
namespace Go.Pm
open F
set_option maxHeartbeats 2000000
def qnr (s:ByteArray) (T:List Tk) (res:Option Res) (x:Rz Ss):Prop:=match x with
 | .ok b r => ∃ (i':Nat) (k:Int) (y:ByteArray) (d:D),T.drop i'=r/\r≠[]/\res=some (.ret (nv k y d) (PS s T i' 0 12))/\V.one (.dat d)=true/\V.cells (.dat d)=[.dat d]/\b.fo.cells=[.lit (.int .i64 k),.lit (.int .i64 0),.lit (.string y),d]/\b.fo.len=1
 | .er a c => ∃ i':Nat,res=some (.ret (qa8 c) (PS s T i' a c))
def qtk (s:ByteArray) (T:List Tk) (res:Option Res) (x:Rz Ss):Prop:=match x with
 | .ok b r => ∃ i':Nat,T.drop i'=r/\r≠[]/\res=some (.ret (nv 7 ⟨#[]⟩ (kd false b.fo.len b.fo.cells)) (PS s T i' 0 12))
 | .er a c => ∃ i':Nat,res=some (.ret (qa8 c) (PS s T i' a c))
section
variable (s:ByteArray) (T:List Tk)
def StK (n:Nat):Prop := ∀ (lv i:Nat) (t:Tk) (r:List Tk) (x:Rz Ss),lv<=20->T.drop i=t::r->qdA 12 2 true true false n lv (t::r)=some x->qnr s T (Z tP (.call 271 [.ptr 0 0,.int lv] (PS s T i 0 12))) x
def BkK (n:Nat):Prop := ∀ (lv i:Nat) (t:Tk) (r:List Tk) (x:Rz Ss),T.drop i=t::r->qbm 12 2 true true false n lv (t::r)=some x->qtk s T (Z tP (.call 256 [.ptr 0 0,.int lv] (PS s T i 0 12))) x
variable {s:ByteArray} {T:List Tk}
theorem qee (hw:WfQ T) (hT:T.length<2 ^ 40) {i:Nat} {t:Tk} {r:List Tk} (h:T.drop i=t::r) {k:Int} {y:ByteArray} {d:D} (od:V.one (.dat d)=true) (oc:V.cells (.dat d)=[.dat d]) (b:Ss) :
  (∃ r' i',qbC 12 b (t::r) = .ok b r'/\T.drop i'=r'/\r'≠[]/\Z tP (.call 278 [.ptr 0 0,nv k y d] (PS s T i 0 12))=some (.ret (nv k y d) (PS s T i' 0 12))) \/
  (∃ a c,qbC 12 b (t::r) = .er a c /\ ∃ i':Nat,Z tP (.call 278 [.ptr 0 0,nv k y d] (PS s T i 0 12))=some (.ret (qa8 c) (PS s T i' a c))):=by
 have he:=qb1 (s:=s) hw hT h (x:=bs [59]) (by decide)
 unfold qbC
 cases hq:qaF 12 (bs [59]) (t::r) with
 | ok u r'=>
  rw[hq] at he
  obtain⟨i',a1,a2,z⟩:=he
  exact .inl ⟨r',i',rfl,a1,a2,qrV od oc z⟩
 | er a c=>
  rw[hq] at he
  obtain⟨i',z⟩:=he
  exact .inr ⟨a,c,rfl,i',qp1 od oc z⟩
theorem qk2 (hw:WfQ T) (hT:T.length<2 ^ 40) (hP : ∀ t∈T,TokP t) {n lv i:Nat} {t:Tk} {r:List Tk} {x:Rz E} (hlv:lv<=20) (h:T.drop i=t::r) (hx:qak 12 2 true n 1 lv (t::r)=some x):Out s T (Z tP (.call 279 [.ptr 0 0,.int lv] (PS s T i 0 12))) x E.node:=
 (qlM hw hT hP n).1 1 lv i t r x (by omega) (by omega) hlv h hx
theorem qo9 (hw:WfQ T) (hT:T.length<2 ^ 40) {lv i:Nat} {t:Tk} {r:List Tk} {x:Rz Ss} (hlv:lv<=20) (h:T.drop i=t::r) (hb:t.bad=0) (hm:t.s=qei) (hx:qbC 12 (Ss.stop .nil) r=x):qnr s T (Z tP (.call 271 [.ptr 0 0,.int lv] (PS s T i 0 12))) x:=by
 have hk:kindT t=2:=by rw[qbH hb,hm]; decide
 obtain⟨n1,n2⟩:=hw.next h hb (by rw[hm]; decide)
 obtain⟨t1,r1,rfl⟩:=qaP n2
 have d1:decide (kindT t=1)=false:=decide_eq_false (by omega)
 have d3:decide (kindT t=3)=false:=decide_eq_false (by omega)
 rcases qee (s:=s) hw hT n1 (k:=6) (y:=⟨#[]⟩) (d := .lit (.slice none 0 0)) rfl rfl (Ss.stop .nil) with ⟨r',i',e1,e2,e3,z⟩ | ⟨a,c,e1,i',z⟩
 ·rw[e1] at hx; subst hx
  exact⟨i',6,⟨#[]⟩,.lit (.slice none 0 0),e2,e3,qls hlv hT h hb d1 d3 hm z,rfl,rfl,by simp[Ss.fo],by simp[Ss.fo]⟩
 ·rw[e1] at hx; subst hx
  exact⟨i',qji hlv hT h hb d1 d3 hm z⟩
theorem ql9 (hw:WfQ T) (hT:T.length<2 ^ 40) (hP : ∀ t∈T,TokP t) {n lv i:Nat} {t:Tk} {r:List Tk} {x:Rz Ss} (hlv:lv<=20) (h:T.drop i=t::r) (hb:t.bad=0) (hm:t.s=qaE)
  (hx:(match qak 12 2 true n 1 lv r with
    | some (.ok a r)=>match qaF 12 (bs [44]) r with
     | .ok _ r1=>match qak 12 2 true n 1 lv r1 with
      | some (.ok b r2)=>some (qbC 12 (.effect true a b .nil) r2)
      | some (.er i k)=>some (.er i k)
      | none=>none
     | .er i k=>some (.er i k)
    | some (.er i k)=>some (.er i k)
    | none=>none)=some x):qnr s T (Z tP (.call 271 [.ptr 0 0,.int lv] (PS s T i 0 12))) x:=by
 have hk:kindT t=2:=by rw[qbH hb,hm]; decide
 obtain⟨n1,n2⟩:=hw.next h hb (by rw[hm]; decide)
 obtain⟨t1,r1,rfl⟩:=qaP n2
 have d1:decide (kindT t=1)=false:=decide_eq_false (by omega)
 have d3:decide (kindT t=3)=false:=decide_eq_false (by omega)
 cases hq:qak 12 2 true n 1 lv (t1::r1) with
 | none=>rw[hq] at hx; cases hx
 | some y=>
  rw[hq] at hx
  have h1:=qk2 (s:=s) hw hT hP hlv n1 hq
  cases y with
  | er a c=>
   simp only[Option.some.injEq] at hx
   subst hx
   obtain⟨i1,z1⟩:=h1
   exact⟨i1,qhE hlv hT h hb d1 d3 hm z1⟩
  | ok e r2=>
   simp only at hx
   obtain⟨i1,a1,a2,z1⟩:=h1
   obtain⟨t2,r3,rfl⟩:=qaP a2
   have h2:=qb1 (s:=s) hw hT a1 (x:=bs [44]) (by decide)
   cases hq2:qaF 12 (bs [44]) (t2::r3) with
   | er a c=>
    rw[hq2] at hx h2
    simp only[Option.some.injEq] at hx
    subst hx
    obtain⟨i2,z2⟩:=h2
    exact⟨i2,qhF hlv hT h hb d1 d3 hm z1 z2⟩
   | ok u r4=>
    rw[hq2] at hx h2
    simp only at hx
    obtain⟨i2,b1,b2,z2⟩:=h2
    obtain⟨t3,r5,rfl⟩:=qaP b2
    cases hq3:qak 12 2 true n 1 lv (t3::r5) with
    | none=>rw[hq3] at hx; cases hx
    | some y=>
     rw[hq3] at hx
     have h3:=qk2 (s:=s) hw hT hP hlv b1 hq3
     cases y with
     | er a c=>
      simp only[Option.some.injEq] at hx
      subst hx
      obtain⟨i3,z3⟩:=h3
      exact⟨i3,qhG hlv hT h hb d1 d3 hm z1 z2 z3⟩
     | ok e' r6=>
      simp only[Option.some.injEq] at hx
      obtain⟨i3,c1,c2,z3⟩:=h3
      obtain⟨t4,r7,rfl⟩:=qaP c2
      rcases qee (s:=s) hw hT c1 (k:=5) (y:=⟨#[]⟩) (d := .sl (cE e++cE e') 2 true) rfl rfl (Ss.effect true e e' .nil) with ⟨r',i',e1,e2,e3,z⟩ | ⟨a,c,e1,i',z⟩
      ·rw[e1] at hx; subst hx
       exact⟨i',5,⟨#[]⟩,.sl (cE e++cE e') 2 true,e2,e3,qjh hlv hT h hb d1 d3 hm z1 z2 z3 z,rfl,rfl,by simp[Ss.fo],by simp[Ss.fo]⟩
      ·rw[e1] at hx; subst hx
       exact⟨i',qhH hlv hT h hb d1 d3 hm z1 z2 z3 z⟩
end
end Go.Pm
end SKx
section SKy
namespace Go.Pm
open F
set_option maxHeartbeats 2000000
section
variable {s:ByteArray} {T:List Tk}
theorem qmq (hw:WfQ T) (hT:T.length<2 ^ 40) (hP : ∀ t∈T,TokP t) {n lv i:Nat} {t:Tk} {r:List Tk} {x:Rz Ss} (hlv:lv<=20) (h:T.drop i=t::r) (hb:t.bad=0) (hl:qar qaL t.s=true) (hf:t.s∉fieldNames) (hwd:t.s∉wordNames)
  (hx:(match qaF 12 (bs [61]) r with
    | .ok _ r1=>match qak 12 2 true n 1 lv r1 with
     | some (.ok b r2)=>some (qbC 12 (.assign true t.s b .nil) r2)
     | some (.er i k)=>some (.er i k)
     | none=>none
    | .er i k=>some (.er i k))=some x):qnr s T (Z tP (.call 271 [.ptr 0 0,.int lv] (PS s T i 0 12))) x:=by
 have hne:=qeU hl
 have hk:kindT t=1:=by rw[qbH hb,qgc,if_neg hne,if_pos hl,if_neg hf,if_neg hwd]
 obtain⟨n1,n2⟩:=hw.next h hb hne
 obtain⟨t2,r3,rfl⟩:=qaP n2
 have h2:=qb1 (s:=s) hw hT n1 (x:=bs [61]) (by decide)
 cases hq2:qaF 12 (bs [61]) (t2::r3) with
 | er a c=>
  rw[hq2] at hx h2
  simp only[Option.some.injEq] at hx
  subst hx
  obtain⟨i2,z2⟩:=h2
  exact⟨i2,qhB hlv hT h hb hk z2⟩
 | ok u r4=>
  rw[hq2] at hx h2
  simp only at hx
  obtain⟨i2,b1,b2,z2⟩:=h2
  obtain⟨t3,r5,rfl⟩:=qaP b2
  cases hq3:qak 12 2 true n 1 lv (t3::r5) with
  | none=>rw[hq3] at hx; cases hx
  | some y=>
   rw[hq3] at hx
   have h3:=qk2 (s:=s) hw hT hP hlv b1 hq3
   cases y with
   | er a c=>
    simp only[Option.some.injEq] at hx
    subst hx
    obtain⟨i3,z3⟩:=h3
    exact⟨i3,qhC hlv hT h hb hk z2 z3⟩
   | ok e r6=>
    simp only[Option.some.injEq] at hx
    obtain⟨i3,c1,c2,z3⟩:=h3
    obtain⟨t4,r7,rfl⟩:=qaP c2
    rcases qee (s:=s) hw hT c1 (k:=1) (y:=t.s) (d := .sl (cE e) 1 true) rfl rfl (Ss.assign true t.s e .nil) with ⟨r',i',e1,e2,e3,z⟩ | ⟨a,c,e1,i',z⟩
    ·rw[e1] at hx; subst hx
     exact⟨i',1,t.s,.sl (cE e) 1 true,e2,e3,qjg hlv hT h hb hk z2 z3 z,rfl,rfl,by simp[Ss.fo],by simp[Ss.fo]⟩
    ·rw[e1] at hx; subst hx
     exact⟨i',qhD hlv hT h hb hk z2 z3 z⟩
theorem qnL (hw:WfQ T) (hT:T.length<2 ^ 40) (hP : ∀ t∈T,TokP t) {n lv i:Nat} {t:Tk} {r:List Tk} {x:Rz Ss} (hlv:lv<=20) (h:T.drop i=t::r) (hb:t.bad=0) (hf:t.s∈fieldNames)
  (hx:(match qbZ 12 2 true n lv r with
    | some (.ok a r)=>match qaF 12 (bs [61]) r with
     | .ok _ r1=>match qak 12 2 true n 1 lv r1 with
      | some (.ok b r2)=>some (qbC 12 (.store true t.s a b .nil) r2)
      | some (.er i k)=>some (.er i k)
      | none=>none
     | .er i k=>some (.er i k)
    | some (.er i k)=>some (.er i k)
    | none=>none)=some x):qnr s T (Z tP (.call 271 [.ptr 0 0,.int lv] (PS s T i 0 12))) x:=by
 have hall : ∀ w∈fieldNames,qgc w=3/\w≠⟨#[]⟩:=by decide
 have hk:kindT t=3:=by rw[qbH hb]; exact (hall _ hf).1
 cases hq:qbZ 12 2 true n lv r with
 | none=>rw[hq] at hx; cases hx
 | some y=>
  rw[hq] at hx
  have h1:=(qlM (s:=s) hw hT hP n).2.2 lv i t r y hlv h hb (hall _ hf).2 hq
  cases y with
  | er a c=>
   simp only[Option.some.injEq] at hx
   subst hx
   obtain⟨i1,z1⟩:=h1
   exact⟨i1,qik hlv hT h hb hk z1⟩
  | ok e r2=>
   simp only at hx
   obtain⟨i1,a1,a2,z1⟩:=h1
   obtain⟨t2,r3,rfl⟩:=qaP a2
   have h2:=qb1 (s:=s) hw hT a1 (x:=bs [61]) (by decide)
   cases hq2:qaF 12 (bs [61]) (t2::r3) with
   | er a c=>
    rw[hq2] at hx h2
    simp only[Option.some.injEq] at hx
    subst hx
    obtain⟨i2,z2⟩:=h2
    exact⟨i2,qil hlv hT h hb hk z1 z2⟩
   | ok u r4=>
    rw[hq2] at hx h2
    simp only at hx
    obtain⟨i2,b1,b2,z2⟩:=h2
    obtain⟨t3,r5,rfl⟩:=qaP b2
    cases hq3:qak 12 2 true n 1 lv (t3::r5) with
    | none=>rw[hq3] at hx; cases hx
    | some y=>
     rw[hq3] at hx
     have h3:=qk2 (s:=s) hw hT hP hlv b1 hq3
     cases y with
     | er a c=>
      simp only[Option.some.injEq] at hx
      subst hx
      obtain⟨i3,z3⟩:=h3
      exact⟨i3,qim hlv hT h hb hk z1 z2 z3⟩
     | ok e' r6=>
      simp only[Option.some.injEq] at hx
      obtain⟨i3,c1,c2,z3⟩:=h3
      obtain⟨t4,r7,rfl⟩:=qaP c2
      rcases qee (s:=s) hw hT c1 (k:=2) (y:=t.s) (d := .sl (cE e++cE e') 2 true) rfl rfl (Ss.store true t.s e e' .nil) with ⟨r',i',e1,e2,e3,z⟩ | ⟨a,c,e1,i',z⟩
      ·rw[e1] at hx; subst hx
       exact⟨i',2,t.s,.sl (cE e++cE e') 2 true,e2,e3,qkL hlv hT h hb hk z1 z2 z3 z,rfl,rfl,by simp[Ss.fo],by simp[Ss.fo]⟩
      ·rw[e1] at hx; subst hx
       exact⟨i',qin hlv hT h hb hk z1 z2 z3 z⟩
theorem qnM (hw:WfQ T) (hT:T.length<2 ^ 40) (hP : ∀ t∈T,TokP t) {n lv i:Nat} (ihb:BkK s T n) {t:Tk} {r:List Tk} {x:Rz Ss} (hlv:lv<=20) (h:T.drop i=t::r) (hb:t.bad=0) (hm:t.s=qaQ)
  (hx:(match qak 12 2 true n 1 lv r with
    | some (.ok c r)=>match qbm 12 2 true true false n (lv+1) r with
     | some (.ok b r1)=>some (.ok (.cond true true c (.block false b .nil) .nil) r1)
     | some (.er i k)=>some (.er i k)
     | none=>none
    | some (.er i k)=>some (.er i k)
    | none=>none)=some x):qnr s T (Z tP (.call 271 [.ptr 0 0,.int lv] (PS s T i 0 12))) x:=by
 have hk:kindT t=2:=by rw[qbH hb,hm]; decide
 obtain⟨n1,n2⟩:=hw.next h hb (by rw[hm]; decide)
 obtain⟨t1,r1,rfl⟩:=qaP n2
 have d1:decide (kindT t=1)=false:=decide_eq_false (by omega)
 have d3:decide (kindT t=3)=false:=decide_eq_false (by omega)
 cases hq:qak 12 2 true n 1 lv (t1::r1) with
 | none=>rw[hq] at hx; cases hx
 | some y=>
  rw[hq] at hx
  have h1:=qk2 (s:=s) hw hT hP hlv n1 hq
  cases y with
  | er a c=>
   simp only[Option.some.injEq] at hx
   subst hx
   obtain⟨i1,z1⟩:=h1
   exact⟨i1,qio (d := .lit (.bool true)) hlv hT h hb d1 d3 hm rfl rfl z1⟩
  | ok e r2=>
   simp only at hx
   obtain⟨i1,a1,a2,z1⟩:=h1
   obtain⟨t2,r3,rfl⟩:=qaP a2
   cases hq2:qbm 12 2 true true false n (lv+1) (t2::r3) with
   | none=>rw[hq2] at hx; cases hx
   | some y=>
    rw[hq2] at hx
    have h2:=ihb (lv+1) i1 t2 r3 y a1 hq2
    cases y with
    | er a c=>
     simp only[Option.some.injEq] at hx
     subst hx
     obtain⟨i2,z2⟩:=h2
     exact⟨i2,qip (d := .lit (.bool true)) hlv hT h hb d1 d3 hm rfl rfl z1 z2⟩
    | ok b r4=>
     simp only[Option.some.injEq] at hx
     subst hx
     obtain⟨i2,b1,b2,z2⟩:=h2
     refine⟨i2,4,⟨#[]⟩,_,b1,b2,qkM hlv hT h hb d1 d3 hm (by simp) (by simp) z1 z2,rfl,rfl,?_,?_⟩<;>simp[Ss.fo]
end
end Go.Pm
end SKy
section SKz
namespace Go.Pm
open F
set_option maxHeartbeats 2000000
section
variable {s:ByteArray} {T:List Tk}
theorem qsz (hw:WfQ T) (hT:T.length<2 ^ 40) (hP : ∀ t∈T,TokP t) {n lv i:Nat} (ihb:BkK s T n) {t:Tk} {r:List Tk} {x:Rz Ss} (hlv:lv<=20) (h:T.drop i=t::r) (hb:t.bad=0) (hm:t.s=ifT)
  (hx:(match qak 12 2 true n 1 lv r with
    | some (.ok c r)=>match qbm 12 2 true true false n (lv+1) r with
     | some (.ok b r1)=>match nx r1 with
      | none=>some (qbP 12 r1)
      | some w=>if w=bs [101,108,115,101] then match qbm 12 2 true true false n (lv+1) r1.tail with
        | some (.ok b2 r2)=>some (.ok (.cond false true c (.block false b (.block false b2 .nil)) .nil) r2)
        | some (.er i k)=>some (.er i k)
        | none=>none
       else some (.ok (.cond false true c (.block false b (.block false .nil .nil)) .nil) r1)
     | some (.er i k)=>some (.er i k)
     | none=>none
    | some (.er i k)=>some (.er i k)
    | none=>none)=some x):qnr s T (Z tP (.call 271 [.ptr 0 0,.int lv] (PS s T i 0 12))) x:=by
 have hk:kindT t=2:=by rw[qbH hb,hm]; decide
 obtain⟨n1,n2⟩:=hw.next h hb (by rw[hm]; decide)
 obtain⟨t1,r1,rfl⟩:=qaP n2
 have d1:decide (kindT t=1)=false:=decide_eq_false (by omega)
 have d3:decide (kindT t=3)=false:=decide_eq_false (by omega)
 have z0:=qfi (s:=s) (a:=0) (c:=12) h hb hT (by rw[hm]; decide)
 rw[hm] at z0
 have pan : ∀ {i' a c:Nat},Z tP (.call 281 [.ptr 0 0,.int lv] (PS s T i 0 12))=some (.ret (qa8 c) (PS s T i' a c))->qnr s T (Z tP (.call 271 [.ptr 0 0,.int lv] (PS s T i 0 12))) (.er a c):=fun z=>
  ⟨_,qlr (d := .lit (.bool true)) hlv hT h hb d1 d3 hm rfl rfl z⟩
 have fin : ∀ {i':Nat} {d:D} {b:Ss} {r':List Tk},T.drop i'=r'->r'≠[]->V.one (.dat d)=true->V.cells (.dat d)=[.dat d]->b.fo.cells=[.lit (.int .i64 3),.lit (.int .i64 0),.lit (.string ⟨#[]⟩),d]->b.fo.len=1->Z tP (.call 281 [.ptr 0 0,.int lv] (PS s T i 0 12))=some (.ret (nv 3 ⟨#[]⟩ d) (PS s T i' 0 12))->qnr s T (Z tP (.call 271 [.ptr 0 0,.int lv] (PS s T i 0 12))) (.ok b r'):=fun q1 q2 o1 o2 q3 q4 z=>
  ⟨_,3,⟨#[]⟩,_,q1,q2,qom hlv hT h hb d1 d3 hm o1 o2 z,o1,o2,q3,q4⟩
 cases hq:qak 12 2 true n 1 lv (t1::r1) with
 | none=>rw[hq] at hx; cases hx
 | some y=>
  rw[hq] at hx
  have h1:=qk2 (s:=s) hw hT hP hlv n1 hq
  cases y with
  | er a c=>
   simp only[Option.some.injEq] at hx
   subst hx
   obtain⟨i1,z1⟩:=h1
   exact pan (qqJ hlv z0 z1)
  | ok e r2=>
   simp only at hx
   obtain⟨i1,a1,a2,z1⟩:=h1
   obtain⟨t2,r3,rfl⟩:=qaP a2
   cases hq2:qbm 12 2 true true false n (lv+1) (t2::r3) with
   | none=>rw[hq2] at hx; cases hx
   | some y=>
    rw[hq2] at hx
    have h2:=ihb (lv+1) i1 t2 r3 y a1 hq2
    cases y with
    | er a c=>
     simp only[Option.some.injEq] at hx
     subst hx
     obtain⟨i2,z2⟩:=h2
     exact pan (qqK hlv z0 z1 z2)
    | ok b r4=>
     simp only at hx
     obtain⟨i2,b1,b2,z2⟩:=h2
     obtain⟨t3,r5,rfl⟩:=qaP b2
     by_cases hb3:t3.bad=0
     ·have hnx:nx (t3::r5)=some t3.s:=if_pos hb3
      rw[hnx] at hx
      simp only[List.tail_cons] at hx
      by_cases hel:t3.s=bs [101,108,115,101]
      ·rw[if_pos hel] at hx
       obtain⟨m1,m2⟩:=hw.next b1 hb3 (by rw[hel]; decide)
       obtain⟨t4,r6,rfl⟩:=qaP m2
       cases hq3:qbm 12 2 true true false n (lv+1) (t4::r6) with
       | none=>rw[hq3] at hx; cases hx
       | some y=>
        rw[hq3] at hx
        have h3:=ihb (lv+1) (i2+1) t4 r6 y m1 hq3
        cases y with
        | er a c=>
         simp only[Option.some.injEq] at hx
         subst hx
         obtain⟨i3,z3⟩:=h3
         exact pan (qqL hlv (by simp) (by simp) z0 z1 z2 hT b1 hb3 hel z3)
        | ok b' r7=>
         simp only[Option.some.injEq] at hx
         subst hx
         obtain⟨i3,c1,c2,z3⟩:=h3
         exact fin c1 c2 rfl rfl (by simp[Ss.fo]) (by simp[Ss.fo]) (qso hlv (by simp) (by simp) z0 z1 z2 (by simp) (by simp) hT b1 hb3 hel z3)
      ·rw[if_neg hel] at hx
       simp only[Option.some.injEq] at hx
       subst hx
       exact fin b1 (by simp) rfl rfl (by simp[Ss.fo]) (by simp[Ss.fo]) (qsn hlv (by simp) (by simp) z0 z1 z2 b1 hb3 hel)
     ·have hnx:nx (t3::r5)=none:=if_neg hb3
      rw[hnx] at hx
      simp only[qbP,if_neg hb3,Option.some.injEq] at hx
      subst hx
      exact pan (qsm hlv (by simp) (by simp) z0 z1 z2 b1 hb3)
theorem qpm (hw:WfQ T) (hT:T.length<2 ^ 40) (hP : ∀ t∈T,TokP t) {n:Nat} (ihb:BkK s T n):StK s T (n+1):=by
 intro lv i t r x hlv h hx
 by_cases hb:t.bad=0
 case neg=>
  have hnx:nx (t::r)=none:=if_neg hb
  rw[qdA,hnx] at hx
  simp only[qbP,if_neg hb,Option.some.injEq] at hx
  subst hx
  exact⟨i,qrW h hb⟩
 have hnx:nx (t::r)=some t.s:=if_pos hb
 rw[qdA,hnx] at hx
 simp only[List.tail_cons] at hx
 by_cases h1:t.s=bs [105,102]
 ·rw[if_pos h1] at hx
  exact qsz hw hT hP ihb hlv h hb h1 hx
 rw[if_neg h1] at hx
 by_cases h2:t.s=bs [119,104,105,108,101]
 ·rw[if_pos h2] at hx
  exact qnM hw hT hP ihb hlv h hb h2 hx
 rw[if_neg h2] at hx
 by_cases h3:t.s=bs [101,102,102,101,99,116]
 ·rw[if_pos h3] at hx
  exact ql9 hw hT hP hlv h hb h3 hx
 rw[if_neg h3] at hx
 by_cases h4:t.s=bs [115,116,111,112]
 ·rw[if_pos h4] at hx
  exact qo9 hw hT hlv h hb h4 (Option.some.inj hx)
 rw[if_neg h4] at hx
 by_cases hf:t.s∈fieldNames
 ·rw[if_pos hf] at hx
  exact qnL hw hT hP hlv h hb hf hx
 rw[if_neg hf] at hx
 by_cases hv:qar qaL t.s=true/\t.s∉wordNames
 ·rw[if_pos hv] at hx
  exact qmq hw hT hP hlv h hb hv.1 hf hv.2 hx
 rw[if_neg hv] at hx
 simp only[qbP,if_pos hb,Option.some.injEq] at hx
 subst hx
 have hk5:kindT t≠1/\kindT t≠3:=by
  rw[qbH hb,qgc]
  by_cases a1:t.s=⟨#[]⟩
  ·rw[if_pos a1]; decide
  ·rw[if_neg a1]
   by_cases a2:qar qaL t.s=true
   ·rw[if_pos a2,if_neg hf]
    by_cases a3:t.s∈wordNames
    ·rw[if_pos a3]; decide
    ·exact absurd ⟨a2,a3⟩ hv
   ·rw[if_neg a2]
    split<;>decide
 exact⟨i,qp2 hlv hT h hb (decide_eq_false hk5.1) (decide_eq_false hk5.2) h1 h2 h3 h4⟩
end
end Go.Pm
end SKz
section SMa
namespace Go.Pm
open F
set_option maxHeartbeats 2000000
section
variable (s:ByteArray) (T:List Tk)
def SsK (n:Nat):Prop := ∀ (lv i:Nat) (t:Tk) (r:List Tk) (a:Ss) (v:V) (σt:S) (x:Rz Ss),lv<=20->T.drop i=t::r->a.fo.len+(t::r).length<=2 ^ 40->qnB v σt a.fo.cells a.fo.len->qcR 12 2 true true false n lv a (t::r)=some x->match x with
 | .ok b r' => ∃ (i':Nat) (t':Tk) (v':V) (σt':S),T.drop i'=t'::r'/\t'.bad=0/\t'.s=qkt/\qnB v' σt' b.fo.cells b.fo.len/\Z tP (.loop 3 F256l0 (bzF lv) (bzS s T i 0 12 v σt))=some (.out (.exit 0) (bzF lv++[(13,.bool false)]) (bzS s T i' 0 12 v' σt'))
 | .er a c => ∃ (i':Nat) (fr:Fr) (v':V) (σt':S),fr.get 1000000=none/\Z tP (.loop 3 F256l0 (bzF lv) (bzS s T i 0 12 v σt))=some (.out (.pan (.iface 1 (.int c))) fr (bzS s T i' a c v' σt'))
variable {s:ByteArray} {T:List Tk}
theorem qlz {n lv:Nat} {ts r:List Tk} {b:Ss} (h:qdA 12 2 true true false n lv ts=some (.ok b r)):r.length<=ts.length-1:=by
 have h1:=qkZ h (Nat.le_max_left n (10*ts.length+1))
 obtain⟨y,h2,h3⟩:=(qfU 12 2 true true false (max n (10*ts.length+1))).1 lv ts (Nat.le_max_right _ _)
 rw[h1] at h2
 cases h2
 exact h3 b r rfl
theorem qoz {n:Nat} (ihs:StK s T n) (ihl:SsK s T n):SsK s T (n+1):=by
 intro lv i t r a v σt x hlv h hlen hr hx
 rw[qcR] at hx
 by_cases hb:t.bad=0
 case neg=>
  have hnx:nx (t::r)=none:=if_neg hb
  rw[hnx] at hx
  simp only[qbP,if_neg hb,Option.some.injEq] at hx
  subst hx
  obtain⟨fr,f1,f2⟩:=qq0 (s:=s) (lv:=lv) h hb hr
  exact⟨i,fr,v,σt,f1,f2⟩
 have hnx:nx (t::r)=some t.s:=if_pos hb
 rw[hnx] at hx
 simp only[List.tail_cons] at hx
 by_cases he:t.s=bs [125]
 ·rw[if_pos he] at hx
  simp only[Option.some.injEq] at hx
  subst hx
  exact⟨i,t,v,σt,h,hb,he,hr,qqZ h hb he hr⟩
 rw[if_neg he] at hx
 cases hq:qdA 12 2 true true false n lv (t::r) with
 | none=>rw[hq] at hx; cases hx
 | some y=>
  rw[hq] at hx
  have hs:=ihs lv i t r y hlv h hq
  cases y with
  | er p c=>
   simp only[Option.some.injEq] at hx
   subst hx
   obtain⟨i',z⟩:=hs
   exact⟨i',[],v,σt,rfl,qq1 h hb he hr z⟩
  | ok b r'=>
   simp only at hx
   obtain⟨i',k,y,d,a1,a2,z,o1,o2,c1,c2⟩:=hs
   have hl:=qlz hq
   simp only[List.length_cons] at hl hlen
   obtain⟨v',σt',r1,r2⟩:=qnC h hb he hr (by omega) o1 o2 z
   obtain⟨t2,r2',rfl⟩:=qaP a2
   have hr':qnB v' σt' (a.app b).fo.cells (a.app b).fo.len:=by
    rw[qoh,qiY,qhl,c1,c2]; exact r1
   have hlen':(a.app b).fo.len+(t2::r2').length<=2 ^ 40:=by
    rw[qoh,qhl,c2]
    simp only[List.length_cons] at hl ⊢
    omega
   have:=ihl lv i' t2 r2' (a.app b) v' σt' x hlv a1 hlen' hr' hx
   cases x with
   | ok b3 r3=>
    obtain⟨i3,t3,v3,σ3,e1,e2,e3,e4,e5⟩:=this
    exact⟨i3,t3,v3,σ3,e1,e2,e3,e4,r2.trans e5⟩
   | er p c=>
    obtain⟨i3,fr,v3,σ3,e1,e2⟩:=this
    exact⟨i3,fr,v3,σ3,e1,r2.trans e2⟩
theorem qoA (hw:WfQ T) (hT:T.length<2 ^ 30) {n:Nat} (ihl:SsK s T n):BkK s T (n+1):=by
 intro lv i t r x h hx
 rw[qbm] at hx
 have ho:=qfO (s:=s) hw (by omega) h (x:=bs [123]) (by decide) (lv:=lv)
 cases hq:qc4 12 2 (bs [123]) lv (t::r) with
 | er a c=>
  rw[hq] at hx ho
  simp only[Option.some.injEq] at hx
  subst hx
  obtain⟨i',z⟩:=ho
  exact⟨i',qpj z⟩
 | ok u r1=>
  have hl1:=qhP hq
  rw[hq] at hx ho
  simp only at hx
  obtain⟨i1,a1,a2,z1⟩:=ho
  obtain⟨t1,r2,rfl⟩:=qaP a2
  have hlen:(t1::r2).length<=T.length:=by rw[<- a1,List.length_drop]; omega
  have hl:=ihl lv i1 t1 r2 .nil (.dat (.lit (.slice none 0 0))) [] x hl1 a1 (by show 0+_<=_; omega) (.inl ⟨rfl,rfl,rfl,rfl⟩) hx
  cases x with
  | er p c=>
   obtain⟨i3,fr,v3,σ3,e1,e2⟩:=hl
   exact⟨i3,qq2 z1 e1 e2⟩
  | ok b r3=>
   obtain⟨i3,t3,v3,σ3,e1,e2,e3,e4,e5⟩:=hl
   obtain⟨n1,n2⟩:=hw.next e1 e2 (by rw[e3]; decide)
   exact⟨i3+1,n1,n2,qsx (by omega) z1 e4 e5 e1 e2 e3⟩
theorem qnY (hw:WfQ T) (hT:T.length<2 ^ 30) (hP : ∀ t∈T,TokP t) : ∀ n,StK s T n/\BkK s T n/\SsK s T n
 | 0=>⟨fun lv i t r x _ _ hx=>by simp[qdA] at hx,fun lv i t r x _ hx=>by simp[qbm] at hx,fun lv i t r a v σt x _ _ _ _ hx=>by simp[qcR] at hx⟩
 | n+1=>by
  obtain⟨ihs,ihb,ihl⟩:=qnY hw hT hP n
  exact⟨qpm hw (by omega) hP ihb,qoA hw hT ihl,qoz ihs ihl⟩
end
end Go.Pm
end SMa
section SMb
namespace Go.Pm
open F
set_option maxHeartbeats 4000000
attribute [local simp] qa4 qbv dkey
section
variable {s:ByteArray} {T:List Tk} {i:Nat} {t:Tk} {r:List Tk} {a c:Int}
theorem qfm {k:Nat} (h:T.drop i=t::r) (hb:t.bad=0) (hk:qbw t.s=some k):Z tP (.call 254 [.ptr 0 0] (PS s T i 0 12))=some (.ret (.int k) (PS s T i 0 12)):=by
 have zp:=qap (s:=s) (a:=0) (c:=12) h hb
 simp only[PS,pO,ptk,ptD,qah hb] at zp
 generalize t.s=w at zp hk
 unfold qbw at hk
 by_cases h1:w=bs [97,99,116]
 ·subst h1
  simp only[if_true,Option.some.injEq] at hk
  subst hk
  simp only[bs] at zp
  refine Z_call (pf:=F254) rfl rfl ?_
  simp[F254,zp,qa1,List.range_succ]
 rw[if_neg h1] at hk
 by_cases h2:w=bs [116,105,99,107]
 ·subst h2
  simp only[if_true,Option.some.injEq] at hk
  subst hk
  simp only[bs] at zp
  refine Z_call (pf:=F254) rfl rfl ?_
  simp[F254,zp,qa1,List.range_succ]
 rw[if_neg h2] at hk
 by_cases h3:w=qiZ
 ·subst h3
  simp only[if_true,Option.some.injEq] at hk
  subst hk
  simp only[qiZ] at zp
  refine Z_call (pf:=F254) rfl rfl ?_
  simp[F254,zp,qa1,List.range_succ]
 ·rw[if_neg h3] at hk; cases hk
theorem qk9 (h:T.drop i=t::r) (hb:t.bad=0) (hk:qbw t.s=none):Z tP (.call 254 [.ptr 0 0] (PS s T i 0 12))=some (.ret (qa8 12) (PS s T i t.at_ 12)):=by
 have zp:=qap (s:=s) (a:=0) (c:=12) h hb
 have zf:=qfb (s:=s) (T:=T) (i:=i) (a:=0) (c:=12) (k:=kindT t) (x:=t.s) (at_:=t.at_) (v:=valT t) (e:=t.bad) (c':=12)
 simp only[PS,pO,ptk,ptD,qah hb] at zp zf
 unfold qbw at hk
 by_cases h1:t.s=bs [97,99,116]
 ·rw[if_pos h1] at hk; cases hk
 rw[if_neg h1] at hk
 by_cases h2:t.s=bs [116,105,99,107]
 ·rw[if_pos h2] at hk; cases hk
 rw[if_neg h2] at hk
 by_cases h3:t.s=qiZ
 ·rw[if_pos h3] at hk; cases hk
 simp only[bs] at h1 h2
 simp only[qiZ] at h3
 refine Z_call (pf:=F254) rfl rfl ?_
 simp[F254,zp,zf,h1,h2,h3,qa1,qac,List.range_succ]
theorem qjJ (h:T.drop i=t::r) (hb:t.bad≠0):Z tP (.call 254 [.ptr 0 0] (PS s T i 0 12))=some (.ret (qa8 t.bad) (PS s T i t.at_ t.bad)):=by
 have zp:=qdF (s:=s) (a:=0) (c:=12) h hb
 simp only[PS,pO] at zp
 refine Z_call (pf:=F254) rfl rfl ?_
 simp[F254,zp,qac,List.range_succ]
theorem qdZ {w:ByteArray} {k:Nat} (h:qbw w=some k):k=0\/k=1\/k=2:=by
 unfold qbw at h
 split at h
 ·cases h; omega
 split at h
 ·cases h; omega
 split at h
 ·cases h; omega
 ·cases h
end
end Go.Pm
end SMb
section SMc
namespace Go.Pm
open F
set_option maxHeartbeats 4000000
attribute [local simp] qa4 qbv dkey
abbrev pgF:Fr:=[(0,.ptr 0 0),(2,.ptr 3 0),(3,.ptr 4 0)]
abbrev pgS (s:ByteArray) (T:List Tk) (i a c:Int) (q:Nat->N4):S:=PS s T i a c++[qpL,rob q]
section
variable {s:ByteArray} {T:List Tk} {i i' i2:Nat} {t:Tk} {r:List Tk} {a c:Int} {q:Nat->N4}
theorem qqC (h:T.drop i=t::r) (hb:t.bad=0) (hs:t.s=⟨#[]⟩):Z tP (.loop 3 F242l0 pgF (pgS s T i 0 12 q))=some (.out (.exit 0) (pgF++[(8,.bool false)]) (pgS s T i 0 12 q)):=by
 have zp:=qap (s:=s) (a:=0) (c:=12) h hb
 have hk:kindT t=0:=by rw[qbH hb,qgc,if_pos hs]
 have k0:=(q 0).one
 have k1:=(q 1).one
 have k2:=(q 2).one
 have c0:=(q 0).cl
 have c1:=(q 1).cl
 have c2:=(q 2).cl
 simp only[PS,pO,ptk,ptD,hk] at zp
 rw[qaf]
 simp[qai,qb9,zp,k0,k1,k2,c0,c1,c2,List.range_succ]
theorem qqD (h:T.drop i=t::r) (hb:t.bad≠0) : ∃ fr,fr.get 1000000=none/\Z tP (.loop 3 F242l0 pgF (pgS s T i 0 12 q))=some (.out (.pan (.iface 1 (.int t.bad))) fr (pgS s T i t.at_ t.bad q)):=by
 have zp:=qdF (s:=s) (a:=0) (c:=12) h hb
 simp only[PS,pO] at zp
 refine⟨(5,.ptr 0 0)::pgF,by simp[Fr.get],?_⟩
 rw[qaf]
 simp[qai,qb9,zp,qac,List.range_succ]
theorem qse (h:T.drop i=t::r) (hb:t.bad=0) (hs:t.s≠⟨#[]⟩) (z:Z tP (.call 253 [.ptr 0 0,.str ⟨#[111,110]⟩] (PS s T i 0 12))=some (.ret (qa8 c) (PS s T i' a c))) : ∃ fr,fr.get 1000000=none/\Z tP (.loop 3 F242l0 pgF (pgS s T i 0 12 q))=some (.out (.pan (.iface 1 (.int c))) fr (pgS s T i' a c q)):=by
 have zp:=qap (s:=s) (a:=0) (c:=12) h hb
 have hk:decide (kindT t=0)=false:=decide_eq_false (fun e=>hs ((qdi hb).mp e))
 simp only[PS,pO,ptk,ptD] at zp z
 refine⟨(9,.ptr 0 0)::(pgF++[(8,.bool true)]),by simp[Fr.get],?_⟩
 rw[qaf]
 simp[qai,qb9,zp,z,hk,qac,List.range_succ]
theorem qlT (h:T.drop i=t::r) (hb:t.bad=0) (hs:t.s≠⟨#[]⟩) (z:Z tP (.call 253 [.ptr 0 0,.str ⟨#[111,110]⟩] (PS s T i 0 12))=some (.ret (.tup []) (PS s T i' 0 12)))
  (zh:Z tP (.call 254 [.ptr 0 0] (PS s T i' 0 12))=some (.ret (qa8 c) (PS s T i2 a c))) : ∃ fr,fr.get 1000000=none/\Z tP (.loop 3 F242l0 pgF (pgS s T i 0 12 q))=some (.out (.pan (.iface 1 (.int c))) fr (pgS s T i2 a c q)):=by
 have zp:=qap (s:=s) (a:=0) (c:=12) h hb
 have hk:decide (kindT t=0)=false:=decide_eq_false (fun e=>hs ((qdi hb).mp e))
 simp only[PS,pO,ptk,ptD] at zp z zh
 refine⟨(11,.ptr 0 0)::pgF,by simp[Fr.get],?_⟩
 rw[qaf]
 simp[qai,qb9,zp,z,zh,hk,qac,List.range_succ]
theorem qqE {t2:Tk} {r2:List Tk} {k:Nat} (h:T.drop i=t::r) (hb:t.bad=0) (hs:t.s≠⟨#[]⟩) (z:Z tP (.call 253 [.ptr 0 0,.str ⟨#[111,110]⟩] (PS s T i 0 12))=some (.ret (.tup []) (PS s T i' 0 12)))
  (h2:T.drop i'=t2::r2) (hb2:t2.bad=0) (hh:qbw t2.s=some k) (hq:decide ((q k).k=0)=false) : ∃ fr,fr.get 1000000=none/\Z tP (.loop 3 F242l0 pgF (pgS s T i 0 12 q))=some (.out (.pan (.iface 1 (.int 4))) fr (pgS s T i' t2.at_ 4 q)):=by
 have zp:=qap (s:=s) (a:=0) (c:=12) h hb
 have zp2:=qap (s:=s) (a:=0) (c:=12) h2 hb2
 have zh:=qfm (s:=s) h2 hb2 hh
 have zf:=qfb (s:=s) (T:=T) (i:=i') (a:=0) (c:=12) (k:=kindT t2) (x:=qej t2) (at_:=t2.at_) (v:=valT t2) (e:=t2.bad) (c':=4)
 have hk:decide (kindT t=0)=false:=decide_eq_false (fun e=>hs ((qdi hb).mp e))
 simp only[PS,pO,ptk,ptD] at zp zp2 z zh zf
 have k0:=(q 0).one
 have k1:=(q 1).one
 have k2:=(q 2).one
 have c0:=(q 0).cl
 have c1:=(q 1).cl
 have c2:=(q 2).cl
 refine⟨(21,ptk t2)::(20,.ptr 0 0)::(19,.ptr 0 0)::(pgF++[(4,.int k),(18,.bool true)]),by simp[Fr.get],?_⟩
 rw[qaf]
 rcases qdZ hh with rfl | rfl | rfl<;>simp[qai,qb9,zp,zp2,z,zh,zf,hk,hq,k0,k1,k2,c0,c1,c2,qac,List.range_succ]
theorem qqF {t2:Tk} {r2:List Tk} {k:Nat} (hT:T.length<2 ^ 40) (h:T.drop i=t::r) (hb:t.bad=0) (hs:t.s≠⟨#[]⟩) (z:Z tP (.call 253 [.ptr 0 0,.str ⟨#[111,110]⟩] (PS s T i 0 12))=some (.ret (.tup []) (PS s T i' 0 12)))
  (h2:T.drop i'=t2::r2) (hb2:t2.bad=0) (hh:qbw t2.s=some k) (hq:decide ((q k).k=0)=true) (zb:Z tP (.call 256 [.ptr 0 0,.int 1] (PS s T ((i'+1:Nat):Int) 0 12))=some (.ret (qa8 c) (PS s T i2 a c))) : ∃ fr,fr.get 1000000=none/\Z tP (.loop 3 F242l0 pgF (pgS s T i 0 12 q))=some (.out (.pan (.iface 1 (.int c))) fr (pgS s T i2 a c q)):=by
 have zp:=qap (s:=s) (a:=0) (c:=12) h hb
 have zh:=qfm (s:=s) h2 hb2 hh
 have hlt:=qgT h2
 have w1:=qaj ((i':Int)+1) (by omega)
 have hk:decide (kindT t=0)=false:=decide_eq_false (fun e=>hs ((qdi hb).mp e))
 simp only[PS,pO,ptk,ptD] at zp z zh zb
 simp only[Int.natCast_add,Int.cast_ofNat_Int] at zb
 have k0:=(q 0).one
 have k1:=(q 1).one
 have k2:=(q 2).one
 have c0:=(q 0).cl
 have c1:=(q 1).cl
 have c2:=(q 2).cl
 refine⟨(31,.ptr 0 0)::(30,.int k)::(pgF++[(4,.int k)]),by simp[Fr.get],?_⟩
 rw[qaf]
 rcases qdZ hh with rfl | rfl | rfl<;>simp[qai,qb9,zp,z,zh,zb,w1,hk,hq,k0,k1,k2,c0,c1,c2,qac,List.range_succ]
theorem qsf {t2:Tk} {r2:List Tk} {k:Nat} {d:D} (hT:T.length<2 ^ 40) (h:T.drop i=t::r) (hb:t.bad=0) (hs:t.s≠⟨#[]⟩) (z:Z tP (.call 253 [.ptr 0 0,.str ⟨#[111,110]⟩] (PS s T i 0 12))=some (.ret (.tup []) (PS s T i' 0 12)))
  (h2:T.drop i'=t2::r2) (hb2:t2.bad=0) (hh:qbw t2.s=some k) (hq:decide ((q k).k=0)=true) (od:V.one (.dat d)=true) (oc:V.cells (.dat d)=[.dat d]) (zb:Z tP (.call 256 [.ptr 0 0,.int 1] (PS s T ((i'+1:Nat):Int) 0 12))=some (.ret (nv 7 ⟨#[]⟩ d) (PS s T i2 0 12))):Z tP (.loop 3 F242l0 pgF (pgS s T i 0 12 q))=Z tP (.loop 3 F242l0 pgF (pgS s T i2 0 12 (qrw q k ⟨7,0,⟨#[]⟩,d,od,oc⟩))):=by
 have zp:=qap (s:=s) (a:=0) (c:=12) h hb
 have zh:=qfm (s:=s) h2 hb2 hh
 have hlt:=qgT h2
 have w1:=qaj ((i':Int)+1) (by omega)
 have hk:decide (kindT t=0)=false:=decide_eq_false (fun e=>hs ((qdi hb).mp e))
 simp only[PS,pO,ptk,ptD] at zp z zh
 simp only[PS,pO,nv] at zb
 simp only[Int.natCast_add,Int.cast_ofNat_Int] at zb
 have k0:=(q 0).one
 have k1:=(q 1).one
 have k2:=(q 2).one
 have c0:=(q 0).cl
 have c1:=(q 1).cl
 have c2:=(q 2).cl
 conv=>lhs; rw[qaf]
 rcases qdZ hh with rfl | rfl | rfl<;>simp[qai,qb9,zp,z,zh,zb,od,oc,w1,hk,hq,k0,k1,k2,c0,c1,c2,qrw,List.range_succ]<;>rfl
end
end Go.Pm
end SMc
section SMd
namespace Go.Pm
open F
set_option maxHeartbeats 2000000
theorem qsg {w:ByteArray} (h:w.size=0):w=⟨#[]⟩:=by
 have hb:byl w=[]:=List.eq_nil_of_length_eq_zero (by rw[qaI]; exact h)
 have:=qcr w
 rw[hb] at this
 exact this.symm
section
variable {s:ByteArray} {T:List Tk}
theorem qiJ (hw:WfQ T) (hT:T.length<2 ^ 30) (hP : ∀ t∈T,TokP t) : ∀ (n:Nat) (hh:Nat->Option Ss) (i:Nat) (t:Tk) (r:List Tk) (x:Rz (Nat->Option Ss)),T.drop i=t::r->qdO 12 2 4 true true false n hh (t::r)=some x->match x with
  | .ok h' _ => ∃ i':Nat,Z tP (.loop 3 F242l0 pgF (pgS s T i 0 12 fun k=>qem (hh k)))=some (.out (.exit 0) (pgF++[(8,.bool false)]) (pgS s T i' 0 12 fun k=>qem (h' k)))
  | .er a c => ∃ (i':Nat) (fr:Fr) (q':Nat->N4),fr.get 1000000=none/\Z tP (.loop 3 F242l0 pgF (pgS s T i 0 12 fun k=>qem (hh k)))=some (.out (.pan (.iface 1 (.int c))) fr (pgS s T i' a c q'))
 | 0,hh,i,t,r,x,_,hx=>by simp[qdO] at hx
 | n+1,hh,i,t,r,x,h,hx=>by
  rw[qdO] at hx
  by_cases hb:t.bad=0
  case neg=>
   have hnx:nx (t::r)=none:=if_neg hb
   rw[hnx] at hx
   simp only[qbP,if_neg hb,Option.some.injEq] at hx
   subst hx
   obtain⟨fr,f1,f2⟩:=qqD (s:=s) (q:=fun k=>qem (hh k)) h hb
   exact⟨i,fr,_,f1,f2⟩
  have hnx:nx (t::r)=some t.s:=if_pos hb
  rw[hnx] at hx
  simp only at hx
  by_cases h0:t.s.size=0
  ·rw[if_pos h0] at hx
   simp only[Option.some.injEq] at hx
   subst hx
   exact⟨i,qqC h hb (qsg h0)⟩
  rw[if_neg h0] at hx
  have hne:t.s≠⟨#[]⟩:=fun e=>h0 (by rw[e]; rfl)
  have ho:=qb1 (s:=s) hw (by omega) h (x:=bs [111,110]) (by decide)
  cases hq:qaF 12 (bs [111,110]) (t::r) with
  | er a c=>
   rw[hq] at hx ho
   simp only[Option.some.injEq] at hx
   subst hx
   obtain⟨i',z⟩:=ho
   obtain⟨fr,f1,f2⟩:=qse (q:=fun k=>qem (hh k)) h hb hne z
   exact⟨i',fr,_,f1,f2⟩
  | ok u r1=>
   rw[hq] at hx ho
   simp only at hx
   obtain⟨i1,a1,a2,z⟩:=ho
   obtain⟨t2,r2,rfl⟩:=qaP a2
   by_cases hb2:t2.bad=0
   case neg=>
    have hnx2:nx (t2::r2)=none:=if_neg hb2
    rw[hnx2] at hx
    simp only[qbP,if_neg hb2,Option.some.injEq] at hx
    subst hx
    obtain⟨fr,f1,f2⟩:=qlT (q:=fun k=>qem (hh k)) h hb hne z (qjJ a1 hb2)
    exact⟨i1,fr,_,f1,f2⟩
   have hnx2:nx (t2::r2)=some t2.s:=if_pos hb2
   rw[hnx2] at hx
   simp only at hx
   cases hk:qbw t2.s with
   | none=>
    rw[hk] at hx
    simp only[qbP,if_pos hb2,Option.some.injEq] at hx
    subst hx
    obtain⟨fr,f1,f2⟩:=qlT (q:=fun k=>qem (hh k)) h hb hne z (qk9 a1 hb2 hk)
    exact⟨i1,fr,_,f1,f2⟩
   | some k=>
    rw[hk] at hx
    simp only at hx
    by_cases hd:(hh k).isSome=true
    ·rw[if_pos hd] at hx
     simp only[qbP,if_pos hb2,Option.some.injEq] at hx
     subst hx
     obtain⟨b,hbb⟩:=Option.isSome_iff_exists.1 hd
     obtain⟨fr,f1,f2⟩:=qqE (s:=s) (q:=fun k=>qem (hh k)) h hb hne z a1 hb2 hk (decide_eq_false (by simp only[hbb,qem]; decide))
     exact⟨i1,fr,_,f1,f2⟩
    ·rw[if_neg hd] at hx
     have hno:hh k=none:=by simpa using hd
     have hq0:decide ((qem (hh k)).k=0)=true:=decide_eq_true (by rw[hno]; rfl)
     obtain⟨n1,n2⟩:=hw.next a1 hb2 (fun e=>by rw[e,show qbw ⟨#[]⟩=none by decide] at hk; cases hk)
     obtain⟨t3,r3,rfl⟩:=qaP n2
     simp only[List.tail_cons] at hx
     cases hq3:qbm 12 2 true true false n 1 (t3::r3) with
     | none=>rw[hq3] at hx; cases hx
     | some y=>
      rw[hq3] at hx
      have hbk:=(qnY (s:=s) hw hT hP n).2.1 1 (i1+1) t3 r3 y n1 hq3
      cases y with
      | er a c=>
       simp only[Option.some.injEq] at hx
       subst hx
       obtain⟨i2,z2⟩:=hbk
       obtain⟨fr,f1,f2⟩:=qqF (q:=fun k=>qem (hh k)) (by omega) h hb hne z a1 hb2 hk hq0 z2
       exact⟨i2,fr,_,f1,f2⟩
      | ok b r4=>
       simp only at hx
       obtain⟨i2,b1,b2,z2⟩:=hbk
       obtain⟨t4,r5,rfl⟩:=qaP b2
       have zs:=qsf (q:=fun k=>qem (hh k)) (by omega) h hb hne z a1 hb2 hk hq0 (by simp) (by simp) z2
       have hu:qrw (fun k=>qem (hh k)) k ⟨7,0,⟨#[]⟩,kd false b.fo.len b.fo.cells,by simp,by simp⟩=fun j=>qem (if j=k then some b else hh j):=by
        funext j
        unfold qrw
        split<;>rfl
       rw[hu] at zs
       have:=qiJ hw hT hP n (fun j=>if j=k then some b else hh j) i2 t4 r5 x b1 hx
       cases x with
       | ok h' q=>
        obtain⟨i3,e1⟩:=this
        exact⟨i3,zs.trans e1⟩
       | er a c=>
        obtain⟨i3,fr,q',e1,e2⟩:=this
        exact⟨i3,fr,q',e1,zs.trans e2⟩
end
end Go.Pm
end SMd
section SMe
namespace Go.Pm
open F
set_option maxHeartbeats 4000000
attribute [local simp] qa4 qbv dkey
section
variable {s:ByteArray} {T:List Tk} {i':Nat} {q:Nat->N4} {a c:Int}
theorem qkV (z:Z tP (.loop 3 F242l0 pgF (pgS s T 0 0 12 fun k=>qem none))=some (.out (.exit 0) (pgF++[(8,.bool false)]) (pgS s T i' 0 12 q))):Z tP (.call 242 [.ptr 0 0] (PS s T 0 0 12))=some (.ret (qnE q) (PS s T i' 0 12)):=by
 have k0:=(q 0).one
 have k1:=(q 1).one
 have k2:=(q 2).one
 have c0:=(q 0).cl
 have c1:=(q 1).cl
 have c2:=(q 2).cl
 simp only[pgS,PS,pO,rob,qem,List.cons_append,List.nil_append] at z
 refine Z_call (pf:=F242) rfl rfl ?_
 simp[F242,z,k0,k1,k2,c0,c1,c2,List.range_succ]
theorem qjr {fr:Fr} (hf:fr.get 1000000=none) (z:Z tP (.loop 3 F242l0 pgF (pgS s T 0 0 12 fun k=>qem none))=some (.out (.pan (.iface 1 (.int c))) fr (pgS s T i' a c q))):Z tP (.call 242 [.ptr 0 0] (PS s T 0 0 12))=some (.ret (qa8 c) (PS s T i' a c)):=by
 simp only[pgS,PS,pO,rob,qem,List.cons_append,List.nil_append] at z
 refine Z_call (pf:=F242) rfl rfl ?_
 simp[F242,z,hf,List.range_succ]
end
end Go.Pm
end SMe
section SMf
namespace Go.Pm
open F
set_option maxHeartbeats 4000000
attribute [local simp] qa4 qbv dkey
section
variable {s:ByteArray} {T:List Tk} {i':Nat} {q:Nat->N4} {a c:Int}
theorem qmm (h:(2000:Int)<s.size):Z tP (.call 228 [.str s] [])=some (.ret (.tup [qnE fun _=>qem none,.int 2000,.int 2]) []):=by
 refine Z_call (pf:=F228) rfl rfl ?_
 simp[F228,h,V.len,qem,List.range_succ]
abbrev dS (s:ByteArray) (T:List Tk) (q:Nat->N4) (x y:Int) (i a c:Int):S:=[.cells [.ptr 4 0],rob q,.cells [.int x],.cells [.int y],pO s 5 (.gsl (ptC T) T.length 5 6) i a c,.map kwM,.tip (ptC T).length]
theorem qmn {x y i a c:Int}:Z tP (.dcall 240 [.dat (.lit .nilIface),.ptr 0 0,.ptr 1 0,.ptr 2 0,.ptr 3 0] (dS s T q x y i a c))=some (.ret (.dat (.lit undef)) (dS s T q x y i a c)):=by
 have k0:=(q 0).one
 have k1:=(q 1).one
 have k2:=(q 2).one
 have c0:=(q 0).cl
 have c1:=(q 1).cl
 have c2:=(q 2).cl
 refine qlk (pf:=F240) rfl ?_
 have hfl:F240.body.flat=true:=rfl
 simp only[qbb]
 rw[if_pos ⟨rfl,rfl,rfl,hfl,.inl rfl⟩]
 simp[F240,qhJ,k0,k1,k2,c0,c1,c2,List.range_succ]
theorem qnI (h : ¬ (2000:Int)<s.size) (zt:Z tP (.call 249 [.yld 0,.ptr 1 0] (TT0 s))=some (.ret (.tup []) (TT1 s (ptC T) T.length)))
  (z:Z tP (.call 242 [.ptr 0 0] (PS s T 0 0 12))=some (.ret (qnE q) (PS s T i' 0 12))):Z tP (.call 228 [.str s] [])=some (.ret (.tup [qnE q,.int 0,.int 0]) []):=by
 have z1:=qgU s
 have z2:=qiD s
 have k0:=(q 0).one
 have k1:=(q 1).one
 have k2:=(q 2).one
 have c0:=(q 0).cl
 have c1:=(q 1).cl
 have c2:=(q 2).cl
 simp only[pO] at z2
 simp only[TT0,TT1,pO] at zt
 simp only[PS,pO] at z
 have zd:=qmn (s:=s) (T:=T) (q:=q) (x:=0) (y:=0) (i:=i') (a:=0) (c:=12)
 simp only[dS,pO,rob] at zd
 refine Z_call (pf:=F228) rfl rfl ?_
 simp[F228,z1,z2,zt,z,zd,h,V.len,k0,k1,k2,c0,c1,c2,List.range_succ]
end
end Go.Pm
end SMf
section SMg
namespace Go.Pm
open F
set_option maxHeartbeats 4000000
attribute [local simp] qa4 qbv dkey
section
variable {s:ByteArray} {T:List Tk} {i':Nat} {a c:Int}
abbrev q0:Nat->N4:=fun _=>qem none
theorem qlw {i a c:Int}:Z tP (.dcall 240 [.iface 1 (.int c),.ptr 0 0,.ptr 1 0,.ptr 2 0,.ptr 3 0] (dS s T q0 0 0 i a c))=some (.ret (.dat (.lit undef)) (dS s T q0 a c i a c)):=by
 refine qlk (pf:=F240) rfl ?_
 have hfl:F240.body.flat=true:=rfl
 simp only[qbb]
 rw[if_pos ⟨rfl,rfl,rfl,hfl,.inl rfl⟩]
 simp[F240,qhJ,qem,qcy,qa2,List.range_succ]
theorem qlx (h : ¬ (2000:Int)<s.size) (zt:Z tP (.call 249 [.yld 0,.ptr 1 0] (TT0 s))=some (.ret (.tup []) (TT1 s (ptC T) T.length)))
  (z:Z tP (.call 242 [.ptr 0 0] (PS s T 0 0 12))=some (.ret (qa8 c) (PS s T i' a c))):Z tP (.call 228 [.str s] [])=some (.ret (.tup [qnE fun _=>qem none,.int a,.int c]) []):=by
 have z1:=qgU s
 have z2:=qiD s
 simp only[pO] at z2
 simp only[TT0,TT1,pO] at zt
 simp only[PS,pO] at z
 have zd:=qlw (s:=s) (T:=T) (i:=i') (a:=a) (c:=c)
 simp only[dS,pO,rob,q0,qem] at zd
 refine Z_call (pf:=F228) rfl rfl ?_
 simp[F228,z1,z2,zt,z,zd,h,V.len,qem,qac,V.isNilIf,List.range_succ]
end
end Go.Pm
end SMg
section SMh
namespace Go.Pm
open F
set_option maxHeartbeats 1000000
theorem qiI (s:ByteArray) : ∀ n i,(qbK 12 2 6 s n i).length<=n+1
 | 0,i=>by simp[qbK]
 | n+1,i=>by
  rw[qbK]
  have:=qiI s n
  split
  ·simp
  ·simp only[List.length_cons]; have:=this ((tokAt 12 2 6 s (qf2 s (s.size-i) false i)).at_+(tokAt 12 2 6 s (qf2 s (s.size-i) false i)).s.size); omega
theorem qne (s:ByteArray) : ∀ n i,qbK 12 2 6 s n i≠[]
 | 0,i=>by simp[qbK]
 | n+1,i=>by rw[qbK]; split<;>simp
theorem qlR (s:ByteArray) (hP : ∀ t∈toks s,TokP t):Z tP (.call 228 [.str s] [])=some (.ret (qiX true true false s) []):=by
 unfold qiX
 by_cases hbig:2000<s.size
 ·have:qfF true true false s = .er 2000 2:=by rw[qfF,if_pos hbig]
  rw[this]
  exact qmm (by omega)
 ·have hlen:=qiI s (s.size+1) 0
  have hT:(toks s).length<2 ^ 30:=by show (qbK 12 2 6 s (s.size+1) 0).length<_; omega
  have hw:WfQ (toks s):=qmo s _ 0
  have zt:=qmp s (by omega)
  obtain⟨t,r,htr⟩:=qaP (show toks s≠[] from qne s _ 0)
  have hv:=qgv (f:=true) (fi:=true) (fb:=false) hbig
  have hp:=hv
  rw[htr] at hp
  have:=qiJ (s:=s) hw hT hP _ (fun _=>none) 0 t r _ (by rw[List.drop_zero]; exact htr) hp
  cases hx:qfF true true false s with
  | ok h' ts=>
   rw[hx] at this
   obtain⟨i',z⟩:=this
   exact qnI (by omega) zt (qkV z)
  | er a c=>
   rw[hx] at this
   obtain⟨i',fr,q',f1,z⟩:=this
   exact qlx (by omega) zt (qjr f1 z)
theorem qlS (s:ByteArray) (hl:s.size<2 ^ 30) : ∀ n i,∀ t∈qbK 12 2 6 s n i,TokP t
 | 0,i,t,h=>by
  simp only[qbK,List.mem_singleton] at h
  rw[h]
  exact⟨fun _=>show (⟨#[]⟩:ByteArray)≠qS by decide,fun _ h=>(by cases h)⟩
 | n+1,i,t,h=>by
  have one : ∀ j,TokP (tokAt 12 2 6 s j):=fun j=>by
   by_cases hj:j<s.size
   ·exact qpn hl hj
   ·have hd:(byl s).drop j=[]:=List.drop_eq_nil_of_le (by rw[qaI]; omega)
    rw[qcT,hd]
    exact⟨fun _=>show (⟨#[]⟩:ByteArray)≠qS by decide,fun _ h=>(by cases h)⟩
  rw[qbK] at h
  split at h
  ·rw[List.mem_singleton.1 h]; exact one _
  ·rcases List.mem_cons.1 h with h | h
   ·rw[h]; exact one _
   ·exact qlS s hl n _ t h
theorem qnf (s:ByteArray) (hl:s.size<2 ^ 30):Z tP (.call 228 [.str s] [])=some (.ret (qiX true true false s) []):=qlR s (qlS s hl _ 0)
end Go.Pm
end SMh
section SUh
namespace Go.Pm
open F
set_option maxHeartbeats 4000000
abbrev Sub (p q:Nat->Option PFun):Prop := ∀ f pf,p f=some pf->q f=some pf
structure Has (prog:Nat->Option PFun):Prop where
 b:Sub qe5 prog
 r:Sub tR prog
 s:Sub tS prog
 p:Sub tP prog
 q:Sub tQ prog
 e:Sub tE prog
 k:Sub tK prog
section
variable {prog:Nat->Option PFun} (H:Has prog)
include H
theorem qmS (s:ByteArray) (hl:s.size<2 ^ 30):Z prog (.call 228 [.str s] [])=some (.ret (qiX true true false s) []):=qif H.p (qnf s hl)
end
def hdO:Option Ss->Hd
 | none => .none
 | some b => .some false b
theorem qox (o:Option Ss):(qem o).k=(hdO o).nd.k/\(qem o).n=(hdO o).nd.n/\(qem o).s=(hdO o).nd.s/\(qem o).d=(hdO o).nd.d:=by cases o<;>exact⟨rfl,rfl,rfl,rfl⟩
theorem qoy (h:Nat->Option Ss):qnE (fun k=>qem (h k)) = .dat (ru (hdO (h 0)).nd (hdO (h 1)).nd (hdO (h 2)).nd):=by
 obtain⟨a1,a2,a3,a4⟩:=qox (h 0)
 obtain⟨b1,b2,b3,b4⟩:=qox (h 1)
 obtain⟨c1,c2,c3,c4⟩:=qox (h 2)
 simp only[qnE,ru,a1,a2,a3,a4,b1,b2,b3,b4,c1,c2,c3,c4]
end Go.Pm
end SUh
section SUj
namespace Go.Pm
open F
set_option maxHeartbeats 8000000
theorem qja (A:Nd):ndEq A.k A.n A.s A.ks A.k A.n A.s A.ks=true:=by simp[ndEq,qh7]
structure HasD (prog:Nat->Option PFun):Prop extends Has prog where
 kd:Sub tKd prog
end Go.Pm
end SUj
section SSf
namespace Go.Pm
open F
set_option maxHeartbeats 8000000
theorem qqx {f neg:Bool} {e:E} {L:Nat} (hL:L=qdt neg) (ge:e.good) (he:qbL e true L L) {p:Nat} {i:Int} (hi:i=p)  : qbL (E.un f neg e) true p i:=by
 intro hsz
 have zl:Z tS (.call 261 [.dat (.agg [.lit (.int .i64 13),.lit (.int .i64 0),.lit (.string (ustr neg)),.sl [.lit (.int .i64 e.kind),.lit (.int .i64 e.num),.lit (.string e.str),e.kids] 1 f])] [])=some (.ret (.int L) []):=by
  have:=qcK (.un f neg e)
  rw[show E.lev (.un f neg e)=L from hL.symm] at this
  exact this
 have h8:(L:Int)<8:=by rw[hL]; cases neg<;>decide
 obtain⟨inn,hinn⟩ : ∃ v,v=[(ustr neg)]++(e.tx true L++[]):=⟨_,rfl⟩
 have htx:(E.un f neg e).tx true p=bs [40]::(inn++[bs [41]]):=by
  rw[hinn]
  simp[E.tx,qcc,bs,hL.symm]
 rw[htx] at hsz ⊢
 rw[qc9] at hsz ⊢
 have hin:(qay false inn).length<2 ^ 40:=by simp at hsz; omega
 have hin2:(qay false inn).length+2<2 ^ 40:=by simp at hsz; omega
 have z1:=he (Nat.lt_of_le_of_lt (by
  have:=qaH ([(ustr neg)]) (e.tx true L) ([]) false
  try simp only[List.append_assoc,List.nil_append] at this
  rw[hinn]
  exact this) hin)
 have hP:Parts [(ustr neg),bs (qay false (e.tx true L))] inn:=by rw[hinn]; exact (.tok (.sub (qbM true ge L) .nil))
 obtain⟨R,hR⟩ : ∃ v,v=bs (qay false inn):=⟨_,rfl⟩
 have hRs:R.size<2 ^ 40:=by rw[hR,qaG]; exact hin
 have za:Z tS (.call 247 [.dat (.sl [.lit (.string (ustr neg)),.lit (.string (bs (qay false (e.tx true L))))] 2 true)] [])=some (.ret (.str R) []):=qep hP hR (by simp) hRs
 generalize bs (qay false (e.tx true L))=r1 at *
 have hfin:bs (40::(qay false inn++[41]))=⟨#[40]⟩++R++⟨#[41]⟩:=by
  rw[qbF,qbF ⟨#[40]⟩,qaU,hR,qaU]
  simp[byl]
 rw[hfin]
 have hRl:R.size+2<2 ^ 40:=by rw[hR,qaG]; exact hin2
 have y1:((⟨#[40]⟩:ByteArray).size:Int)=1:=rfl
 have y2:((⟨#[41]⟩:ByteArray).size:Int)=1:=rfl
 have y3:(⟨#[40]⟩:ByteArray).size=1:=rfl
 have y4:(⟨#[41]⟩:ByteArray).size=1:=rfl
 have y5 : ¬ (9223372036854775807:Int)<1+(R.size:Int):=by omega
 have y6 : ¬ (9223372036854775807:Int)<1+(R.size:Int)+1:=by omega
 have y7:(⟨#[40]⟩++R:ByteArray).size=1+R.size:=by rw[ByteArray.size_append]; rfl
 clear hP hR hinn htx hsz hin hin2 hfin
 refine Z_call (pf:=F246) rfl rfl ?_
 by_cases hc:(L:Int)<i<;>simp[F246,qao,hc,zl,y1,y2,y3,y4,y5,y6,y7,z1,za,h8]
theorem qoQ {f:Bool} {o:Bop} {a b:E} {L:Nat} (hl:o.prec=L) (h4:L≠4) (ga:a.good) (gb:b.good) (ha:qbL a true L L) (hb:qbL b true (L+1) ((L:Int)+1)) {p:Nat} {i:Int} (hi:i=p)  : qbL (E.bin f o a b) true p i:=by
 intro hsz
 have zl:Z tS (.call 261 [.dat (.agg [.lit (.int .i64 14),.lit (.int .i64 0),.lit (.string o.str),.sl [.lit (.int .i64 a.kind),.lit (.int .i64 a.num),.lit (.string a.str),a.kids,.lit (.int .i64 b.kind),.lit (.int .i64 b.num),.lit (.string b.str),b.kids] 2 f])] [])=some (.ret (.int L) []):=by
  have:=qcK (.bin f o a b)
  rw[show E.lev (.bin f o a b)=L from hl] at this
  exact this
 have hlf:o.left=L:=by have:=qa0 o; omega
 have h4' : ¬ (L:Int)=4:=by omega
 have h8:(L:Int)<8:=by have:=qa0 o; omega
 have w1:=qaj ((L:Int)+1) (by omega)
 obtain⟨inn,hinn⟩ : ∃ v,v=a.tx true L++([o.str]++(b.tx true (L+1)++[])):=⟨_,rfl⟩
 have htx:(E.bin f o a b).tx true p=bs [40]::(inn++[bs [41]]):=by
  rw[hinn]
  simp[E.tx,qcc,bs,hl,hlf]
 rw[htx] at hsz ⊢
 rw[qc9] at hsz ⊢
 have hin:(qay false inn).length<2 ^ 40:=by simp at hsz; omega
 have hin2:(qay false inn).length+2<2 ^ 40:=by simp at hsz; omega
 have z0:=ha (Nat.lt_of_le_of_lt (by
  have:=qaH ([]) (a.tx true L) ([o.str]++(b.tx true (L+1)++[])) false
  try simp only[List.append_assoc,List.nil_append] at this
  rw[hinn]
  exact this) hin)
 have z2:=hb (Nat.lt_of_le_of_lt (by
  have:=qaH (a.tx true L++([o.str])) (b.tx true (L+1)) ([]) false
  try simp only[List.append_assoc,List.nil_append] at this
  rw[hinn]
  exact this) hin)
 have hP:Parts [bs (qay false (a.tx true L)),o.str,bs (qay false (b.tx true (L+1)))] inn:=by rw[hinn]; exact (.sub (qbM true ga L) (.tok (.sub (qbM true gb (L+1)) .nil)))
 obtain⟨R,hR⟩ : ∃ v,v=bs (qay false inn):=⟨_,rfl⟩
 have hRs:R.size<2 ^ 40:=by rw[hR,qaG]; exact hin
 have za:Z tS (.call 247 [.dat (.sl [.lit (.string (bs (qay false (a.tx true L)))),.lit (.string o.str),.lit (.string (bs (qay false (b.tx true (L+1)))))] 3 true)] [])=some (.ret (.str R) []):=qep hP hR (by simp) hRs
 generalize bs (qay false (a.tx true L))=r0 at *
 generalize bs (qay false (b.tx true (L+1)))=r2 at *
 have hfin:bs (40::(qay false inn++[41]))=⟨#[40]⟩++R++⟨#[41]⟩:=by
  rw[qbF,qbF ⟨#[40]⟩,qaU,hR,qaU]
  simp[byl]
 rw[hfin]
 have hRl:R.size+2<2 ^ 40:=by rw[hR,qaG]; exact hin2
 have y1:((⟨#[40]⟩:ByteArray).size:Int)=1:=rfl
 have y2:((⟨#[41]⟩:ByteArray).size:Int)=1:=rfl
 have y3:(⟨#[40]⟩:ByteArray).size=1:=rfl
 have y4:(⟨#[41]⟩:ByteArray).size=1:=rfl
 have y5 : ¬ (9223372036854775807:Int)<1+(R.size:Int):=by omega
 have y6 : ¬ (9223372036854775807:Int)<1+(R.size:Int)+1:=by omega
 have y7:(⟨#[40]⟩++R:ByteArray).size=1+R.size:=by rw[ByteArray.size_append]; rfl
 clear hP hR hinn htx hsz hin hin2 hfin
 refine Z_call (pf:=F246) rfl rfl ?_
 by_cases hc:(L:Int)<i<;>simp[F246,qao,hc,zl,y1,y2,y3,y4,y5,y6,y7,z0,z2,za,h4',h8,w1]
theorem qm9 {f:Bool} {o:Bop} {a b:E} (hl:o.prec=4) (ga:a.good) (gb:b.good) (ha:qbL a true 5 5) (hb:qbL b true 5 5) {p:Nat} {i:Int} (hi:i=p)  : qbL (E.bin f o a b) true p i:=by
 intro hsz
 have zl:Z tS (.call 261 [.dat (.agg [.lit (.int .i64 14),.lit (.int .i64 0),.lit (.string o.str),.sl [.lit (.int .i64 a.kind),.lit (.int .i64 a.num),.lit (.string a.str),a.kids,.lit (.int .i64 b.kind),.lit (.int .i64 b.num),.lit (.string b.str),b.kids] 2 f])] [])=some (.ret (.int 4) []):=by
  have:=qcK (.bin f o a b)
  rw[show E.lev (.bin f o a b)=4 from hl] at this
  exact this
 have hlf:o.left=5:=by have:=qa0 o; omega
 obtain⟨inn,hinn⟩ : ∃ v,v=a.tx true 5++([o.str]++(b.tx true 5++[])):=⟨_,rfl⟩
 have htx:(E.bin f o a b).tx true p=bs [40]::(inn++[bs [41]]):=by
  rw[hinn]
  simp[E.tx,qcc,bs,hl,hlf]
 rw[htx] at hsz ⊢
 rw[qc9] at hsz ⊢
 have hin:(qay false inn).length<2 ^ 40:=by simp at hsz; omega
 have hin2:(qay false inn).length+2<2 ^ 40:=by simp at hsz; omega
 have z0:=ha (Nat.lt_of_le_of_lt (by
  have:=qaH ([]) (a.tx true 5) ([o.str]++(b.tx true 5++[])) false
  try simp only[List.append_assoc,List.nil_append] at this
  rw[hinn]
  exact this) hin)
 have z2:=hb (Nat.lt_of_le_of_lt (by
  have:=qaH (a.tx true 5++([o.str])) (b.tx true 5) ([]) false
  try simp only[List.append_assoc,List.nil_append] at this
  rw[hinn]
  exact this) hin)
 have hP:Parts [bs (qay false (a.tx true 5)),o.str,bs (qay false (b.tx true 5))] inn:=by rw[hinn]; exact (.sub (qbM true ga 5) (.tok (.sub (qbM true gb 5) .nil)))
 obtain⟨R,hR⟩ : ∃ v,v=bs (qay false inn):=⟨_,rfl⟩
 have hRs:R.size<2 ^ 40:=by rw[hR,qaG]; exact hin
 have za:Z tS (.call 247 [.dat (.sl [.lit (.string (bs (qay false (a.tx true 5)))),.lit (.string o.str),.lit (.string (bs (qay false (b.tx true 5))))] 3 true)] [])=some (.ret (.str R) []):=qep hP hR (by simp) hRs
 generalize bs (qay false (a.tx true 5))=r0 at *
 generalize bs (qay false (b.tx true 5))=r2 at *
 have hfin:bs (40::(qay false inn++[41]))=⟨#[40]⟩++R++⟨#[41]⟩:=by
  rw[qbF,qbF ⟨#[40]⟩,qaU,hR,qaU]
  simp[byl]
 rw[hfin]
 have hRl:R.size+2<2 ^ 40:=by rw[hR,qaG]; exact hin2
 have y1:((⟨#[40]⟩:ByteArray).size:Int)=1:=rfl
 have y2:((⟨#[41]⟩:ByteArray).size:Int)=1:=rfl
 have y3:(⟨#[40]⟩:ByteArray).size=1:=rfl
 have y4:(⟨#[41]⟩:ByteArray).size=1:=rfl
 have y5 : ¬ (9223372036854775807:Int)<1+(R.size:Int):=by omega
 have y6 : ¬ (9223372036854775807:Int)<1+(R.size:Int)+1:=by omega
 have y7:(⟨#[40]⟩++R:ByteArray).size=1+R.size:=by rw[ByteArray.size_append]; rfl
 clear hP hR hinn htx hsz hin hin2 hfin
 refine Z_call (pf:=F246) rfl rfl ?_
 by_cases hc:(4:Int)<i<;>simp[F246,qao,hc,zl,y1,y2,y3,y4,y5,y6,y7,z0,z2,za,qaj 5 (by omega)]
theorem qiF : ∀ e:E,e.good -> ∀ p i,i=((p:Nat):Int)->p<=8->qbL e true p i
 | .int n,h,p,i,hi,hp=>qn4 h.1 h.2 hi hp
 | .bool n,h,p,i,hi,hp=>by
  rcases h with rfl | rfl
  ·exact qj6 hi hp
  ·exact qj7 hi hp
 | .var s,h,p,i,hi,hp=>qn5 hi hp
 | .name s,h,p,i,hi,hp=>qlN hi hp
 | .field f s e,h,p,i,hi,hp=>qj8 h.2 (qiF e h.2 1 1 rfl (by omega)) hi hp
 | .un f neg e,h,p,i,hi,hp=>qqx (e:=e) rfl h (qiF e h (qdt neg) (qdt neg) rfl (by cases neg<;>decide)) hi
 | .bin f o a b,h,p,i,hi,hp=>by
  have hr:=qa0 o
  have A:=qiF a h.1 o.left o.left rfl (by omega)
  have B:=qiF b h.2 (o.prec+1) ((o.prec:Int)+1) (by omega) (by omega)
  by_cases h4:o.prec=4
  ·rw[show o.left=5 by omega] at A
   rw[h4] at B
   exact qm9 h4 h.1 h.2 A B hi
  ·rw[show o.left=o.prec by omega] at A
   exact qoQ rfl h4 h.1 h.2 A B hi
theorem qqy {e:E} (h:e.good) (hsz:(qay false (e.tx true 1)).length<2 ^ 40):Z tSf (.call 233 [e.node] [])=some (.ret (.str (bs (qay false (e.tx true 1)))) []):=by
 have z:=qif qld (qiF e h 1 1 rfl (by omega) hsz)
 generalize bs (qay false (e.tx true 1))=R at *
 refine Z_call (pf:=F233) rfl rfl ?_
 simp[F233,z]
end Go.Pm
end SSf
section SWa
namespace Go.Pm
def qh8 (full:Bool) (e:E):List ByteArray:=onS::qiZ::bs [123]::bs [118]::bs [61]::(e.tx full 1++[bs [59],bs [125]])
theorem qmD (full:Bool) {e:E} (h:e.good):Cl (qh8 full e):=by
 refine qeq (a:=[onS]) (clw (by decide)) (qeq (a:=[qiZ]) (clw (by decide)) (qeq (a:=[bs [123]]) (cls (by decide) (by decide) (by decide)) ?_))
 exact qqH (a:=[bs [118]]) (x:=bs [61]) (qn8 (by decide)) (ql1 (ql0 (by decide) (by decide) (by decide)) (.inl (by decide)))
  (qeq (qkX full e h 1) (qeq (a:=[bs [59]]) (cls (by decide) (by decide) (by decide)) (cls (by decide) (by decide) (by decide)))) (by simp) (by simp)
theorem qkF (full:Bool) (e:E):qay false (qh8 full e)=[111,110,32,104,105,116,123,118,61]++(qay false (e.tx full 1)++[59,125]):=by
 have g2 : ∀ q,gap q (bs [59])=[]:=fun q=>by cases q<;>decide
 have g3 : ∀ q,gap q (bs [125])=[]:=fun q=>by cases q<;>decide
 have e1:qay false (qh8 full e)=qay false [onS,qiZ,bs [123],bs [118],bs [61]]++qay (ql2 false [onS,qiZ,bs [123],bs [118],bs [61]]) (e.tx full 1++[bs [59],bs [125]]):=qec [onS,qiZ,bs [123],bs [118],bs [61]] _ false
 rw[e1,show qay false [onS,qiZ,bs [123],bs [118],bs [61]]=[111,110,32,104,105,116,123,118,61] by decide,show ql2 false [onS,qiZ,bs [123],bs [118],bs [61]]=false by decide,qec,qay,qay,qay,g2,g3]
 simp[qaU]
theorem qmE {f fi fb:Bool} (full:Bool) {e:E} (hg:e.good) (hn:e.nest full 1<=19) (hs:(qay false (qh8 full e)).length<=2000) :
  ∃ r,qfF f fi fb (bs (qay false (qh8 full e))) = .ok (fun k=>if k=2 then some (.assign f (bs [118]) (e.fl f) .nil) else none) r:=by
 obtain⟨e0,hx⟩:=qmB (qmD full hg).ok
 refine⟨_,qmA (by rw[qaG]; omega) (y := .ok _ [⟨e0,⟨#[]⟩,0⟩]) ?_⟩
 generalize toks (bs (qay false (qh8 full e)))=ts at hx
 obtain⟨h1,h2⟩:=qdb hx
 obtain⟨h3,h4⟩:=qdb h2
 obtain⟨h5,h6⟩:=qdb h4
 obtain⟨h7,h8⟩:=qdb h6
 obtain⟨h9,h10⟩:=qdb h8
 obtain⟨mid,m1,m2⟩:=hx_app.1 h10
 obtain⟨m3,m4⟩:=qdb m2
 obtain⟨m5,m6⟩:=qdb m4
 obtain⟨n,hn1⟩:=(rb (eS:=12) (eL:=2) (f:=f) full e hg).1 1 1 _ mid (by omega) (by omega) m1 (by omega) (qqQ _ (by intro o; cases o<;>decide) m2)
 have hend:mid.tail.tail=[⟨e0,⟨#[]⟩,0⟩]:=m6
 have hst:qdA 12 2 f fi fb (n+1) 1 ts.tail.tail.tail=some (.ok (.assign f (bs [118]) (e.fl f) .nil) mid.tail):=by
  rw[qdA,h7]
  simp only
  rw[if_neg (by decide),if_neg (by decide),if_neg (by decide),if_neg (by decide),if_neg (by decide),if_pos (by decide),show qaF 12 (bs [61]) ts.tail.tail.tail.tail = .ok () ts.tail.tail.tail.tail.tail from qdc h8]
  simp only[hn1,qbC,qdc m2]
 have hss:qcR 12 2 f fi fb (n+2) 1 .nil ts.tail.tail.tail=some (.ok (.assign f (bs [118]) (e.fl f) .nil) [⟨e0,⟨#[]⟩,0⟩]):=by
  rw[qcR,h7]
  simp only
  rw[if_neg (by decide),hst]
  simp only[Ss.app]
  rw[qcR,m5]
  simp only
  rw[if_pos trivial,hend]
 have hbl:qbm 12 2 f fi fb (n+3) 1 ts.tail.tail=some (.ok (.assign f (bs [118]) (e.fl f) .nil) [⟨e0,⟨#[]⟩,0⟩]):=by
  rw[qbm,qgr h4 (by omega)]
  exact hss
 refine⟨n+4,?_⟩
 rw[qdO,h1]
 simp only
 rw[if_neg (by decide),show qaF 12 (bs [111,110]) ts = .ok () ts.tail from qdc hx]
 simp only[h3,show qbw qiZ=some 2 from rfl]
 rw[if_neg (by simp),hbl]
 simp only
 exact (show qdO 12 2 4 f fi fb (n+3) _ [⟨e0,⟨#[]⟩,0⟩]=_ from rfl)
theorem qeg (f:Bool) : ∀ (e:E) {r r':Fo},r.eqv r'=true->((e.fl f).fo r).eqv (e.fo r')=true
 | .int n,r,r',h=>by simp[E.fl,E.fo,Fo.eqv,h]
 | .bool n,r,r',h=>by simp[E.fl,E.fo,Fo.eqv,h]
 | .var s,r,r',h=>by simp[E.fl,E.fo,Fo.eqv,h]
 | .name s,r,r',h=>by simp[E.fl,E.fo,Fo.eqv,h]
 | .field _ s e,r,r',h=>by simp[E.fl,E.fo,Fo.eqv,h,qeg f e (r := .nil) (r' := .nil) rfl]
 | .un _ n e,r,r',h=>by simp[E.fl,E.fo,Fo.eqv,h,qeg f e (r := .nil) (r' := .nil) rfl]
 | .bin _ o a b,r,r',h=>by simp[E.fl,E.fo,Fo.eqv,h,qeg f a (qeg f b (r := .nil) (r' := .nil) rfl)]
theorem qh9 : ∀ {a b:Fo},a.eqv b=true->a.size=b.size
 | .nil,.nil,_=>rfl
 | .cons ..,.cons ..,h=>by
  simp only[Fo.eqv,Bool.and_eq_true] at h
  simp only[Fo.size,qh9 h.2.1,qh9 h.2.2]
 | .nil,.cons ..,h=>by cases h
 | .cons ..,.nil,h=>by cases h
theorem qpC {e e':E} (h:(e.fo .nil).eqv (e'.fo .nil)=true):ndEq e.kind e.num e.str e.kfo e'.kind e'.num e'.str e'.kfo=true:=by
 rw[qek,qek] at h
 simp only[Fo.eqv,Bool.and_true] at h
 exact h
end Go.Pm
end SWa
