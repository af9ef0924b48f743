/- Chapter 13's parser: a statement is the plain one. Chapter 13's parser: assignments, stores, loops, ifs against the plain ones. Chapter 13's parser: every statement is the plain one. Chapter 13's parser: blocks are the plain ones. Chapter 13's parser: handlers. Chapter 13's parser: a whole program: the walks. Chapter 13's parser: whole programs are the plain ones. Chapter 13's parser: program. Chapter 13's parser: Parse is the plain one. Chapter 13's parser: Parse behind an error. Chapter 13's parser: Parse, whole. What the laws of chapter 13 call, over any table that has it: Short, Broken, Source, Parse, Print, equal. Chapter 13's law ParserRound. -/
import Derived.Test.YtjdbkncfebebnaaDoorPmKs
import Derived.Test.YtjdbkncfebebnaaDoorPmG5
import Derived.Test.YtjdbkncfebebnaaDoorPmYj
import Derived.Test.YtjdbkncfebebnaaDoorPmFx
import Derived.Test.YtjdbkncfebebnaaDoorPmEt
import Derived.Test.YtjdbkncfebebnaaDoorPmSd
set_option linter.unusedSimpArgs false
set_option linter.unusedVariables false
section SKx
namespace Go.Pm
open F
set_option maxHeartbeats 2000000
def qow (s:ByteArray) (T:List Tk) (res:Option Res) (x:Rz Ss):Prop:=match x with
 | .ok b r => ∃ (i':Nat) (k:Int) (y:ByteArray) (d:D),T.drop i'=r/\r≠[]/\res=some (.ret (nv k y d) (PS s T i' 0 12))/\V.one (.dat d)=true/\V.cells (.dat d)=[.dat d]/\b.fo.cells=[.lit (.int .i64 k),.lit (.int .i64 0),.lit (.string y),d]/\b.fo.len=1
 | .er a c => ∃ i':Nat,res=some (.ret (qbj c) (PS s T i' a c))
def quB (s:ByteArray) (T:List Tk) (res:Option Res) (x:Rz Ss):Prop:=match x with
 | .ok b r => ∃ i':Nat,T.drop i'=r/\r≠[]/\res=some (.ret (nv 7 ⟨#[]⟩ (kd false b.fo.len b.fo.cells)) (PS s T i' 0 12))
 | .er a c => ∃ i':Nat,res=some (.ret (qbj c) (PS s T i' a c))
section
variable (s:ByteArray) (T:List Tk)
def StK (n:Nat):Prop := ∀ (lv i:Nat) (t:Tk) (r:List Tk) (x:Rz Ss),lv<=20->T.drop i=t::r->qcm 12 2 true true false n lv (t::r)=some x->qow s T (Z tP (.call 271 [.ptr 0 0,.int lv] (PS s T i 0 12))) x
def BkK (n:Nat):Prop := ∀ (lv i:Nat) (t:Tk) (r:List Tk) (x:Rz Ss),T.drop i=t::r->qaQ 12 2 true true false n lv (t::r)=some x->quB s T (Z tP (.call 256 [.ptr 0 0,.int lv] (PS s T i 0 12))) x
variable {s:ByteArray} {T:List Tk}
theorem qeF (hw:WfQ T) (hT:T.length<2 ^ 40) {i:Nat} {t:Tk} {r:List Tk} (h:T.drop i=t::r) {k:Int} {y:ByteArray} {d:D} (od:V.one (.dat d)=true) (oc:V.cells (.dat d)=[.dat d]) (b:Ss) :
  (∃ r' i',qa7 12 b (t::r) = .ok b r'/\T.drop i'=r'/\r'≠[]/\Z tP (.call 278 [.ptr 0 0,nv k y d] (PS s T i 0 12))=some (.ret (nv k y d) (PS s T i' 0 12))) \/
  (∃ a c,qa7 12 b (t::r) = .er a c /\ ∃ i':Nat,Z tP (.call 278 [.ptr 0 0,nv k y d] (PS s T i 0 12))=some (.ret (qbj c) (PS s T i' a c))):=by
 have he:=qch (s:=s) hw hT h (x:=bs [59]) (by decide)
 unfold qa7
 cases hq:qax 12 (bs [59]) (t::r) with
 | ok u r'=>
  rw[hq] at he
  obtain⟨i',a1,a2,z⟩:=he
  exact .inl ⟨r',i',rfl,a1,a2,qtg od oc z⟩
 | er a c=>
  rw[hq] at he
  obtain⟨i',z⟩:=he
  exact .inr ⟨a,c,rfl,i',qrp od oc z⟩
theorem qlJ (hw:WfQ T) (hT:T.length<2 ^ 40) (hP : ∀ t∈T,TokP t) {n lv i:Nat} {t:Tk} {r:List Tk} {x:Rz E} (hlv:lv<=20) (h:T.drop i=t::r) (hx:qaq 12 2 true n 1 lv (t::r)=some x):Out s T (Z tP (.call 279 [.ptr 0 0,.int lv] (PS s T i 0 12))) x E.node:=
 (qmA hw hT hP n).1 1 lv i t r x (by omega) (by omega) hlv h hx
theorem qqr (hw:WfQ T) (hT:T.length<2 ^ 40) {lv i:Nat} {t:Tk} {r:List Tk} {x:Rz Ss} (hlv:lv<=20) (h:T.drop i=t::r) (hb:t.bad=0) (hm:t.s=qeK) (hx:qa7 12 (Ss.stop .nil) r=x):qow s T (Z tP (.call 271 [.ptr 0 0,.int lv] (PS s T i 0 12))) x:=by
 have hk:kindT t=2:=by rw[qb3 hb,hm]; decide
 obtain⟨n1,n2⟩:=hw.next h hb (by rw[hm]; decide)
 obtain⟨t1,r1,rfl⟩:=qaY n2
 have d1:decide (kindT t=1)=false:=decide_eq_false (by omega)
 have d3:decide (kindT t=3)=false:=decide_eq_false (by omega)
 rcases qeF (s:=s) hw hT n1 (k:=6) (y:=⟨#[]⟩) (d := .lit (.slice none 0 0)) rfl rfl (Ss.stop .nil) with ⟨r',i',e1,e2,e3,z⟩ | ⟨a,c,e1,i',z⟩
 ·rw[e1] at hx; subst hx
  exact⟨i',6,⟨#[]⟩,.lit (.slice none 0 0),e2,e3,qmg hlv hT h hb d1 d3 hm z,rfl,rfl,by simp[Ss.fo],by simp[Ss.fo]⟩
 ·rw[e1] at hx; subst hx
  exact⟨i',qj4 hlv hT h hb d1 d3 hm z⟩
theorem qmV (hw:WfQ T) (hT:T.length<2 ^ 40) (hP : ∀ t∈T,TokP t) {n lv i:Nat} {t:Tk} {r:List Tk} {x:Rz Ss} (hlv:lv<=20) (h:T.drop i=t::r) (hb:t.bad=0) (hm:t.s=qaM)
  (hx:(match qaq 12 2 true n 1 lv r with
    | some (.ok a r)=>match qax 12 (bs [44]) r with
     | .ok _ r1=>match qaq 12 2 true n 1 lv r1 with
      | some (.ok b r2)=>some (qa7 12 (.effect true a b .nil) r2)
      | some (.er i k)=>some (.er i k)
      | none=>none
     | .er i k=>some (.er i k)
    | some (.er i k)=>some (.er i k)
    | none=>none)=some x):qow s T (Z tP (.call 271 [.ptr 0 0,.int lv] (PS s T i 0 12))) x:=by
 have hk:kindT t=2:=by rw[qb3 hb,hm]; decide
 obtain⟨n1,n2⟩:=hw.next h hb (by rw[hm]; decide)
 obtain⟨t1,r1,rfl⟩:=qaY n2
 have d1:decide (kindT t=1)=false:=decide_eq_false (by omega)
 have d3:decide (kindT t=3)=false:=decide_eq_false (by omega)
 cases hq:qaq 12 2 true n 1 lv (t1::r1) with
 | none=>rw[hq] at hx; cases hx
 | some y=>
  rw[hq] at hx
  have h1:=qlJ (s:=s) hw hT hP hlv n1 hq
  cases y with
  | er a c=>
   simp only[Option.some.injEq] at hx
   subst hx
   obtain⟨i1,z1⟩:=h1
   exact⟨i1,qio hlv hT h hb d1 d3 hm z1⟩
  | ok e r2=>
   simp only at hx
   obtain⟨i1,a1,a2,z1⟩:=h1
   obtain⟨t2,r3,rfl⟩:=qaY a2
   have h2:=qch (s:=s) hw hT a1 (x:=bs [44]) (by decide)
   cases hq2:qax 12 (bs [44]) (t2::r3) with
   | er a c=>
    rw[hq2] at hx h2
    simp only[Option.some.injEq] at hx
    subst hx
    obtain⟨i2,z2⟩:=h2
    exact⟨i2,qip hlv hT h hb d1 d3 hm z1 z2⟩
   | ok u r4=>
    rw[hq2] at hx h2
    simp only at hx
    obtain⟨i2,b1,b2,z2⟩:=h2
    obtain⟨t3,r5,rfl⟩:=qaY b2
    cases hq3:qaq 12 2 true n 1 lv (t3::r5) with
    | none=>rw[hq3] at hx; cases hx
    | some y=>
     rw[hq3] at hx
     have h3:=qlJ (s:=s) hw hT hP hlv b1 hq3
     cases y with
     | er a c=>
      simp only[Option.some.injEq] at hx
      subst hx
      obtain⟨i3,z3⟩:=h3
      exact⟨i3,qiq hlv hT h hb d1 d3 hm z1 z2 z3⟩
     | ok e' r6=>
      simp only[Option.some.injEq] at hx
      obtain⟨i3,c1,c2,z3⟩:=h3
      obtain⟨t4,r7,rfl⟩:=qaY c2
      rcases qeF (s:=s) hw hT c1 (k:=5) (y:=⟨#[]⟩) (d := .sl (cE e++cE e') 2 true) rfl rfl (Ss.effect true e e' .nil) with ⟨r',i',e1,e2,e3,z⟩ | ⟨a,c,e1,i',z⟩
      ·rw[e1] at hx; subst hx
       exact⟨i',5,⟨#[]⟩,.sl (cE e++cE e') 2 true,e2,e3,qj3 hlv hT h hb d1 d3 hm z1 z2 z3 z,rfl,rfl,by simp[Ss.fo],by simp[Ss.fo]⟩
      ·rw[e1] at hx; subst hx
       exact⟨i',qir hlv hT h hb d1 d3 hm z1 z2 z3 z⟩
end
end Go.Pm
end SKx
section SKy
namespace Go.Pm
open F
set_option maxHeartbeats 2000000
section
variable {s:ByteArray} {T:List Tk}
theorem qnh (hw:WfQ T) (hT:T.length<2 ^ 40) (hP : ∀ t∈T,TokP t) {n lv i:Nat} {t:Tk} {r:List Tk} {x:Rz Ss} (hlv:lv<=20) (h:T.drop i=t::r) (hb:t.bad=0) (hl:qaH qbi t.s=true) (hf:t.s∉fieldNames) (hwd:t.s∉wordNames)
  (hx:(match qax 12 (bs [61]) r with
    | .ok _ r1=>match qaq 12 2 true n 1 lv r1 with
     | some (.ok b r2)=>some (qa7 12 (.assign true t.s b .nil) r2)
     | some (.er i k)=>some (.er i k)
     | none=>none
    | .er i k=>some (.er i k))=some x):qow s T (Z tP (.call 271 [.ptr 0 0,.int lv] (PS s T i 0 12))) x:=by
 have hne:=qfl hl
 have hk:kindT t=1:=by rw[qb3 hb,qgP,if_neg hne,if_pos hl,if_neg hf,if_neg hwd]
 obtain⟨n1,n2⟩:=hw.next h hb hne
 obtain⟨t2,r3,rfl⟩:=qaY n2
 have h2:=qch (s:=s) hw hT n1 (x:=bs [61]) (by decide)
 cases hq2:qax 12 (bs [61]) (t2::r3) with
 | er a c=>
  rw[hq2] at hx h2
  simp only[Option.some.injEq] at hx
  subst hx
  obtain⟨i2,z2⟩:=h2
  exact⟨i2,qil hlv hT h hb hk z2⟩
 | ok u r4=>
  rw[hq2] at hx h2
  simp only at hx
  obtain⟨i2,b1,b2,z2⟩:=h2
  obtain⟨t3,r5,rfl⟩:=qaY b2
  cases hq3:qaq 12 2 true n 1 lv (t3::r5) with
  | none=>rw[hq3] at hx; cases hx
  | some y=>
   rw[hq3] at hx
   have h3:=qlJ (s:=s) hw hT hP hlv b1 hq3
   cases y with
   | er a c=>
    simp only[Option.some.injEq] at hx
    subst hx
    obtain⟨i3,z3⟩:=h3
    exact⟨i3,qim hlv hT h hb hk z2 z3⟩
   | ok e r6=>
    simp only[Option.some.injEq] at hx
    obtain⟨i3,c1,c2,z3⟩:=h3
    obtain⟨t4,r7,rfl⟩:=qaY c2
    rcases qeF (s:=s) hw hT c1 (k:=1) (y:=t.s) (d := .sl (cE e) 1 true) rfl rfl (Ss.assign true t.s e .nil) with ⟨r',i',e1,e2,e3,z⟩ | ⟨a,c,e1,i',z⟩
    ·rw[e1] at hx; subst hx
     exact⟨i',1,t.s,.sl (cE e) 1 true,e2,e3,qj2 hlv hT h hb hk z2 z3 z,rfl,rfl,by simp[Ss.fo],by simp[Ss.fo]⟩
    ·rw[e1] at hx; subst hx
     exact⟨i',qin hlv hT h hb hk z2 z3 z⟩
theorem qoQ (hw:WfQ T) (hT:T.length<2 ^ 40) (hP : ∀ t∈T,TokP t) {n lv i:Nat} {t:Tk} {r:List Tk} {x:Rz Ss} (hlv:lv<=20) (h:T.drop i=t::r) (hb:t.bad=0) (hf:t.s∈fieldNames)
  (hx:(match qbe 12 2 true n lv r with
    | some (.ok a r)=>match qax 12 (bs [61]) r with
     | .ok _ r1=>match qaq 12 2 true n 1 lv r1 with
      | some (.ok b r2)=>some (qa7 12 (.store true t.s a b .nil) r2)
      | some (.er i k)=>some (.er i k)
      | none=>none
     | .er i k=>some (.er i k)
    | some (.er i k)=>some (.er i k)
    | none=>none)=some x):qow s T (Z tP (.call 271 [.ptr 0 0,.int lv] (PS s T i 0 12))) x:=by
 have hall : ∀ w∈fieldNames,qgP w=3/\w≠⟨#[]⟩:=by decide
 have hk:kindT t=3:=by rw[qb3 hb]; exact (hall _ hf).1
 cases hq:qbe 12 2 true n lv r with
 | none=>rw[hq] at hx; cases hx
 | some y=>
  rw[hq] at hx
  have h1:=(qmA (s:=s) hw hT hP n).2.2 lv i t r y hlv h hb (hall _ hf).2 hq
  cases y with
  | er a c=>
   simp only[Option.some.injEq] at hx
   subst hx
   obtain⟨i1,z1⟩:=h1
   exact⟨i1,qi6 hlv hT h hb hk z1⟩
  | ok e r2=>
   simp only at hx
   obtain⟨i1,a1,a2,z1⟩:=h1
   obtain⟨t2,r3,rfl⟩:=qaY a2
   have h2:=qch (s:=s) hw hT a1 (x:=bs [61]) (by decide)
   cases hq2:qax 12 (bs [61]) (t2::r3) with
   | er a c=>
    rw[hq2] at hx h2
    simp only[Option.some.injEq] at hx
    subst hx
    obtain⟨i2,z2⟩:=h2
    exact⟨i2,qi7 hlv hT h hb hk z1 z2⟩
   | ok u r4=>
    rw[hq2] at hx h2
    simp only at hx
    obtain⟨i2,b1,b2,z2⟩:=h2
    obtain⟨t3,r5,rfl⟩:=qaY b2
    cases hq3:qaq 12 2 true n 1 lv (t3::r5) with
    | none=>rw[hq3] at hx; cases hx
    | some y=>
     rw[hq3] at hx
     have h3:=qlJ (s:=s) hw hT hP hlv b1 hq3
     cases y with
     | er a c=>
      simp only[Option.some.injEq] at hx
      subst hx
      obtain⟨i3,z3⟩:=h3
      exact⟨i3,qi8 hlv hT h hb hk z1 z2 z3⟩
     | ok e' r6=>
      simp only[Option.some.injEq] at hx
      obtain⟨i3,c1,c2,z3⟩:=h3
      obtain⟨t4,r7,rfl⟩:=qaY c2
      rcases qeF (s:=s) hw hT c1 (k:=2) (y:=t.s) (d := .sl (cE e++cE e') 2 true) rfl rfl (Ss.store true t.s e e' .nil) with ⟨r',i',e1,e2,e3,z⟩ | ⟨a,c,e1,i',z⟩
      ·rw[e1] at hx; subst hx
       exact⟨i',2,t.s,.sl (cE e++cE e') 2 true,e2,e3,qls hlv hT h hb hk z1 z2 z3 z,rfl,rfl,by simp[Ss.fo],by simp[Ss.fo]⟩
      ·rw[e1] at hx; subst hx
       exact⟨i',qi9 hlv hT h hb hk z1 z2 z3 z⟩
theorem qoR (hw:WfQ T) (hT:T.length<2 ^ 40) (hP : ∀ t∈T,TokP t) {n lv i:Nat} (ihb:BkK s T n) {t:Tk} {r:List Tk} {x:Rz Ss} (hlv:lv<=20) (h:T.drop i=t::r) (hb:t.bad=0) (hm:t.s=qa0)
  (hx:(match qaq 12 2 true n 1 lv r with
    | some (.ok c r)=>match qaQ 12 2 true true false n (lv+1) r with
     | some (.ok b r1)=>some (.ok (.cond true true c (.block false b .nil) .nil) r1)
     | some (.er i k)=>some (.er i k)
     | none=>none
    | some (.er i k)=>some (.er i k)
    | none=>none)=some x):qow s T (Z tP (.call 271 [.ptr 0 0,.int lv] (PS s T i 0 12))) x:=by
 have hk:kindT t=2:=by rw[qb3 hb,hm]; decide
 obtain⟨n1,n2⟩:=hw.next h hb (by rw[hm]; decide)
 obtain⟨t1,r1,rfl⟩:=qaY n2
 have d1:decide (kindT t=1)=false:=decide_eq_false (by omega)
 have d3:decide (kindT t=3)=false:=decide_eq_false (by omega)
 cases hq:qaq 12 2 true n 1 lv (t1::r1) with
 | none=>rw[hq] at hx; cases hx
 | some y=>
  rw[hq] at hx
  have h1:=qlJ (s:=s) hw hT hP hlv n1 hq
  cases y with
  | er a c=>
   simp only[Option.some.injEq] at hx
   subst hx
   obtain⟨i1,z1⟩:=h1
   exact⟨i1,qja (d := .lit (.bool true)) hlv hT h hb d1 d3 hm rfl rfl z1⟩
  | ok e r2=>
   simp only at hx
   obtain⟨i1,a1,a2,z1⟩:=h1
   obtain⟨t2,r3,rfl⟩:=qaY a2
   cases hq2:qaQ 12 2 true true false n (lv+1) (t2::r3) with
   | none=>rw[hq2] at hx; cases hx
   | some y=>
    rw[hq2] at hx
    have h2:=ihb (lv+1) i1 t2 r3 y a1 hq2
    cases y with
    | er a c=>
     simp only[Option.some.injEq] at hx
     subst hx
     obtain⟨i2,z2⟩:=h2
     exact⟨i2,qjb (d := .lit (.bool true)) hlv hT h hb d1 d3 hm rfl rfl z1 z2⟩
    | ok b r4=>
     simp only[Option.some.injEq] at hx
     subst hx
     obtain⟨i2,b1,b2,z2⟩:=h2
     refine⟨i2,4,⟨#[]⟩,_,b1,b2,qlt hlv hT h hb d1 d3 hm (by simp) (by simp) z1 z2,rfl,rfl,?_,?_⟩<;>simp[Ss.fo]
end
end Go.Pm
end SKy
section SKz
namespace Go.Pm
open F
set_option maxHeartbeats 2000000
section
variable {s:ByteArray} {T:List Tk}
theorem qtR (hw:WfQ T) (hT:T.length<2 ^ 40) (hP : ∀ t∈T,TokP t) {n lv i:Nat} (ihb:BkK s T n) {t:Tk} {r:List Tk} {x:Rz Ss} (hlv:lv<=20) (h:T.drop i=t::r) (hb:t.bad=0) (hm:t.s=ifT)
  (hx:(match qaq 12 2 true n 1 lv r with
    | some (.ok c r)=>match qaQ 12 2 true true false n (lv+1) r with
     | some (.ok b r1)=>match nx r1 with
      | none=>some (failP 12 r1)
      | some w=>if w=bs [101,108,115,101] then match qaQ 12 2 true true false n (lv+1) r1.tail with
        | some (.ok b2 r2)=>some (.ok (.cond false true c (.block false b (.block false b2 .nil)) .nil) r2)
        | some (.er i k)=>some (.er i k)
        | none=>none
       else some (.ok (.cond false true c (.block false b (.block false .nil .nil)) .nil) r1)
     | some (.er i k)=>some (.er i k)
     | none=>none
    | some (.er i k)=>some (.er i k)
    | none=>none)=some x):qow s T (Z tP (.call 271 [.ptr 0 0,.int lv] (PS s T i 0 12))) x:=by
 have hk:kindT t=2:=by rw[qb3 hb,hm]; decide
 obtain⟨n1,n2⟩:=hw.next h hb (by rw[hm]; decide)
 obtain⟨t1,r1,rfl⟩:=qaY n2
 have d1:decide (kindT t=1)=false:=decide_eq_false (by omega)
 have d3:decide (kindT t=3)=false:=decide_eq_false (by omega)
 have z0:=qfO (s:=s) (a:=0) (c:=12) h hb hT (by rw[hm]; decide)
 rw[hm] at z0
 have pan : ∀ {i' a c:Nat},Z tP (.call 281 [.ptr 0 0,.int lv] (PS s T i 0 12))=some (.ret (qbj c) (PS s T i' a c))->qow s T (Z tP (.call 271 [.ptr 0 0,.int lv] (PS s T i 0 12))) (.er a c):=fun z=>
  ⟨_,qmf (d := .lit (.bool true)) hlv hT h hb d1 d3 hm rfl rfl z⟩
 have fin : ∀ {i':Nat} {d:D} {b:Ss} {r':List Tk},T.drop i'=r'->r'≠[]->V.one (.dat d)=true->V.cells (.dat d)=[.dat d]->b.fo.cells=[.lit (.int .i64 3),.lit (.int .i64 0),.lit (.string ⟨#[]⟩),d]->b.fo.len=1->Z tP (.call 281 [.ptr 0 0,.int lv] (PS s T i 0 12))=some (.ret (nv 3 ⟨#[]⟩ d) (PS s T i' 0 12))->qow s T (Z tP (.call 271 [.ptr 0 0,.int lv] (PS s T i 0 12))) (.ok b r'):=fun q1 q2 o1 o2 q3 q4 z=>
  ⟨_,3,⟨#[]⟩,_,q1,q2,qpu hlv hT h hb d1 d3 hm o1 o2 z,o1,o2,q3,q4⟩
 cases hq:qaq 12 2 true n 1 lv (t1::r1) with
 | none=>rw[hq] at hx; cases hx
 | some y=>
  rw[hq] at hx
  have h1:=qlJ (s:=s) hw hT hP hlv n1 hq
  cases y with
  | er a c=>
   simp only[Option.some.injEq] at hx
   subst hx
   obtain⟨i1,z1⟩:=h1
   exact pan (qr7 hlv z0 z1)
  | ok e r2=>
   simp only at hx
   obtain⟨i1,a1,a2,z1⟩:=h1
   obtain⟨t2,r3,rfl⟩:=qaY a2
   cases hq2:qaQ 12 2 true true false n (lv+1) (t2::r3) with
   | none=>rw[hq2] at hx; cases hx
   | some y=>
    rw[hq2] at hx
    have h2:=ihb (lv+1) i1 t2 r3 y a1 hq2
    cases y with
    | er a c=>
     simp only[Option.some.injEq] at hx
     subst hx
     obtain⟨i2,z2⟩:=h2
     exact pan (qr8 hlv z0 z1 z2)
    | ok b r4=>
     simp only at hx
     obtain⟨i2,b1,b2,z2⟩:=h2
     obtain⟨t3,r5,rfl⟩:=qaY b2
     by_cases hb3:t3.bad=0
     ·have hnx:nx (t3::r5)=some t3.s:=if_pos hb3
      rw[hnx] at hx
      simp only[List.tail_cons] at hx
      by_cases hel:t3.s=bs [101,108,115,101]
      ·rw[if_pos hel] at hx
       obtain⟨m1,m2⟩:=hw.next b1 hb3 (by rw[hel]; decide)
       obtain⟨t4,r6,rfl⟩:=qaY m2
       cases hq3:qaQ 12 2 true true false n (lv+1) (t4::r6) with
       | none=>rw[hq3] at hx; cases hx
       | some y=>
        rw[hq3] at hx
        have h3:=ihb (lv+1) (i2+1) t4 r6 y m1 hq3
        cases y with
        | er a c=>
         simp only[Option.some.injEq] at hx
         subst hx
         obtain⟨i3,z3⟩:=h3
         exact pan (qr9 hlv (by simp) (by simp) z0 z1 z2 hT b1 hb3 hel z3)
        | ok b' r7=>
         simp only[Option.some.injEq] at hx
         subst hx
         obtain⟨i3,c1,c2,z3⟩:=h3
         exact fin c1 c2 rfl rfl (by simp[Ss.fo]) (by simp[Ss.fo]) (qtI hlv (by simp) (by simp) z0 z1 z2 (by simp) (by simp) hT b1 hb3 hel z3)
      ·rw[if_neg hel] at hx
       simp only[Option.some.injEq] at hx
       subst hx
       exact fin b1 (by simp) rfl rfl (by simp[Ss.fo]) (by simp[Ss.fo]) (qtH hlv (by simp) (by simp) z0 z1 z2 b1 hb3 hel)
     ·have hnx:nx (t3::r5)=none:=if_neg hb3
      rw[hnx] at hx
      simp only[failP,if_neg hb3,Option.some.injEq] at hx
      subst hx
      exact pan (qtG hlv (by simp) (by simp) z0 z1 z2 b1 hb3)
theorem qqJ (hw:WfQ T) (hT:T.length<2 ^ 40) (hP : ∀ t∈T,TokP t) {n:Nat} (ihb:BkK s T n):StK s T (n+1):=by
 intro lv i t r x hlv h hx
 by_cases hb:t.bad=0
 case neg=>
  have hnx:nx (t::r)=none:=if_neg hb
  rw[qcm,hnx] at hx
  simp only[failP,if_neg hb,Option.some.injEq] at hx
  subst hx
  exact⟨i,qth h hb⟩
 have hnx:nx (t::r)=some t.s:=if_pos hb
 rw[qcm,hnx] at hx
 simp only[List.tail_cons] at hx
 by_cases h1:t.s=bs [105,102]
 ·rw[if_pos h1] at hx
  exact qtR hw hT hP ihb hlv h hb h1 hx
 rw[if_neg h1] at hx
 by_cases h2:t.s=bs [119,104,105,108,101]
 ·rw[if_pos h2] at hx
  exact qoR hw hT hP ihb hlv h hb h2 hx
 rw[if_neg h2] at hx
 by_cases h3:t.s=bs [101,102,102,101,99,116]
 ·rw[if_pos h3] at hx
  exact qmV hw hT hP hlv h hb h3 hx
 rw[if_neg h3] at hx
 by_cases h4:t.s=bs [115,116,111,112]
 ·rw[if_pos h4] at hx
  exact qqr hw hT hlv h hb h4 (Option.some.inj hx)
 rw[if_neg h4] at hx
 by_cases hf:t.s∈fieldNames
 ·rw[if_pos hf] at hx
  exact qoQ hw hT hP hlv h hb hf hx
 rw[if_neg hf] at hx
 by_cases hv:qaH qbi t.s=true/\t.s∉wordNames
 ·rw[if_pos hv] at hx
  exact qnh hw hT hP hlv h hb hv.1 hf hv.2 hx
 rw[if_neg hv] at hx
 simp only[failP,if_pos hb,Option.some.injEq] at hx
 subst hx
 have hk5:kindT t≠1/\kindT t≠3:=by
  rw[qb3 hb,qgP]
  by_cases a1:t.s=⟨#[]⟩
  ·rw[if_pos a1]; decide
  ·rw[if_neg a1]
   by_cases a2:qaH qbi t.s=true
   ·rw[if_pos a2,if_neg hf]
    by_cases a3:t.s∈wordNames
    ·rw[if_pos a3]; decide
    ·exact absurd ⟨a2,a3⟩ hv
   ·rw[if_neg a2]
    split<;>decide
 exact⟨i,qrq hlv hT h hb (decide_eq_false hk5.1) (decide_eq_false hk5.2) h1 h2 h3 h4⟩
end
end Go.Pm
end SKz
section SMa
namespace Go.Pm
open F
set_option maxHeartbeats 2000000
section
variable (s:ByteArray) (T:List Tk)
def SsK (n:Nat):Prop := ∀ (lv i:Nat) (t:Tk) (r:List Tk) (a:Ss) (v:V) (σt:S) (x:Rz Ss),lv<=20->T.drop i=t::r->a.fo.len+(t::r).length<=2 ^ 40->qoH v σt a.fo.cells a.fo.len->qb5 12 2 true true false n lv a (t::r)=some x->match x with
 | .ok b r' => ∃ (i':Nat) (t':Tk) (v':V) (σt':S),T.drop i'=t'::r'/\t'.bad=0/\t'.s=qlc/\qoH v' σt' b.fo.cells b.fo.len/\Z tP (.loop 3 F256l0 (bzF lv) (bzS s T i 0 12 v σt))=some (.out (.exit 0) (bzF lv++[(13,.bool false)]) (bzS s T i' 0 12 v' σt'))
 | .er a c => ∃ (i':Nat) (fr:Fr) (v':V) (σt':S),fr.get 1000000=none/\Z tP (.loop 3 F256l0 (bzF lv) (bzS s T i 0 12 v σt))=some (.out (.pan (.iface 1 (.int c))) fr (bzS s T i' a c v' σt'))
variable {s:ByteArray} {T:List Tk}
theorem qmo {n lv:Nat} {ts r:List Tk} {b:Ss} (h:qcm 12 2 true true false n lv ts=some (.ok b r)):r.length<=ts.length-1:=by
 have h1:=qlG h (Nat.le_max_left n (10*ts.length+1))
 obtain⟨y,h2,h3⟩:=(qgw 12 2 true true false (max n (10*ts.length+1))).1 lv ts (Nat.le_max_right _ _)
 rw[h1] at h2
 cases h2
 exact h3 b r rfl
theorem qpJ {n:Nat} (ihs:StK s T n) (ihl:SsK s T n):SsK s T (n+1):=by
 intro lv i t r a v σt x hlv h hlen hr hx
 rw[qb5] at hx
 by_cases hb:t.bad=0
 case neg=>
  have hnx:nx (t::r)=none:=if_neg hb
  rw[hnx] at hx
  simp only[failP,if_neg hb,Option.some.injEq] at hx
  subst hx
  obtain⟨fr,f1,f2⟩:=qso (s:=s) (lv:=lv) h hb hr
  exact⟨i,fr,v,σt,f1,f2⟩
 have hnx:nx (t::r)=some t.s:=if_pos hb
 rw[hnx] at hx
 simp only[List.tail_cons] at hx
 by_cases he:t.s=bs [125]
 ·rw[if_pos he] at hx
  simp only[Option.some.injEq] at hx
  subst hx
  exact⟨i,t,v,σt,h,hb,he,hr,qsn h hb he hr⟩
 rw[if_neg he] at hx
 cases hq:qcm 12 2 true true false n lv (t::r) with
 | none=>rw[hq] at hx; cases hx
 | some y=>
  rw[hq] at hx
  have hs:=ihs lv i t r y hlv h hq
  cases y with
  | er p c=>
   simp only[Option.some.injEq] at hx
   subst hx
   obtain⟨i',z⟩:=hs
   exact⟨i',[],v,σt,rfl,qsp h hb he hr z⟩
  | ok b r'=>
   simp only at hx
   obtain⟨i',k,y,d,a1,a2,z,o1,o2,c1,c2⟩:=hs
   have hl:=qmo hq
   simp only[List.length_cons] at hl hlen
   obtain⟨v',σt',r1,r2⟩:=qoI h hb he hr (by omega) o1 o2 z
   obtain⟨t2,r2',rfl⟩:=qaY a2
   have hr':qoH v' σt' (a.app b).fo.cells (a.app b).fo.len:=by
    rw[qg9,qgc,qc6,c1,c2]; exact r1
   have hlen':(a.app b).fo.len+(t2::r2').length<=2 ^ 40:=by
    rw[qg9,qc6,c2]
    simp only[List.length_cons] at hl ⊢
    omega
   have:=ihl lv i' t2 r2' (a.app b) v' σt' x hlv a1 hlen' hr' hx
   cases x with
   | ok b3 r3=>
    obtain⟨i3,t3,v3,σ3,e1,e2,e3,e4,e5⟩:=this
    exact⟨i3,t3,v3,σ3,e1,e2,e3,e4,r2.trans e5⟩
   | er p c=>
    obtain⟨i3,fr,v3,σ3,e1,e2⟩:=this
    exact⟨i3,fr,v3,σ3,e1,r2.trans e2⟩
theorem qpK (hw:WfQ T) (hT:T.length<2 ^ 30) {n:Nat} (ihl:SsK s T n):BkK s T (n+1):=by
 intro lv i t r x h hx
 rw[qaQ] at hx
 have ho:=qgm (s:=s) hw (by omega) h (x:=bs [123]) (by decide) (lv:=lv)
 cases hq:qcr 12 2 (bs [123]) lv (t::r) with
 | er a c=>
  rw[hq] at hx ho
  simp only[Option.some.injEq] at hx
  subst hx
  obtain⟨i',z⟩:=ho
  exact⟨i',qqF z⟩
 | ok u r1=>
  have hl1:=qiz hq
  rw[hq] at hx ho
  simp only at hx
  obtain⟨i1,a1,a2,z1⟩:=ho
  obtain⟨t1,r2,rfl⟩:=qaY a2
  have hlen:(t1::r2).length<=T.length:=by rw[<- a1,List.length_drop]; omega
  have hl:=ihl lv i1 t1 r2 .nil (.dat (.lit (.slice none 0 0))) [] x hl1 a1 (by show 0+_<=_; omega) (.inl ⟨rfl,rfl,rfl,rfl⟩) hx
  cases x with
  | er p c=>
   obtain⟨i3,fr,v3,σ3,e1,e2⟩:=hl
   exact⟨i3,qsq z1 e1 e2⟩
  | ok b r3=>
   obtain⟨i3,t3,v3,σ3,e1,e2,e3,e4,e5⟩:=hl
   obtain⟨n1,n2⟩:=hw.next e1 e2 (by rw[e3]; decide)
   exact⟨i3+1,n1,n2,qtP (by omega) z1 e4 e5 e1 e2 e3⟩
theorem qo3 (hw:WfQ T) (hT:T.length<2 ^ 30) (hP : ∀ t∈T,TokP t) : ∀ n,StK s T n/\BkK s T n/\SsK s T n
 | 0=>⟨fun lv i t r x _ _ hx=>by simp[qcm] at hx,fun lv i t r x _ hx=>by simp[qaQ] at hx,fun lv i t r a v σt x _ _ _ _ hx=>by simp[qb5] at hx⟩
 | n+1=>by
  obtain⟨ihs,ihb,ihl⟩:=qo3 hw hT hP n
  exact⟨qqJ hw (by omega) hP ihb,qpK hw hT ihl,qpJ ihs ihl⟩
end
end Go.Pm
end SMa
section SMb
namespace Go.Pm
open F
set_option maxHeartbeats 4000000
attribute [local simp] qbb qbP dkey
section
variable {s:ByteArray} {T:List Tk} {i:Nat} {t:Tk} {r:List Tk} {a c:Int}
theorem qfU {k:Nat} (h:T.drop i=t::r) (hb:t.bad=0) (hk:qbL t.s=some k):Z tP (.call 254 [.ptr 0 0] (PS s T i 0 12))=some (.ret (.int k) (PS s T i 0 12)):=by
 have zp:=qav (s:=s) (a:=0) (c:=12) h hb
 simp only[PS,pO,ptk,ptD,qao hb] at zp
 generalize t.s=w at zp hk
 unfold qbL at hk
 by_cases h1:w=bs [97,99,116]
 ·subst h1
  simp only[if_true,Option.some.injEq] at hk
  subst hk
  simp only[bs] at zp
  refine qaa (pf:=F254) rfl rfl ?_
  simp[F254,zp,qbO,List.range_succ]
 rw[if_neg h1] at hk
 by_cases h2:w=bs [116,105,99,107]
 ·subst h2
  simp only[if_true,Option.some.injEq] at hk
  subst hk
  simp only[bs] at zp
  refine qaa (pf:=F254) rfl rfl ?_
  simp[F254,zp,qbO,List.range_succ]
 rw[if_neg h2] at hk
 by_cases h3:w=qjL
 ·subst h3
  simp only[if_true,Option.some.injEq] at hk
  subst hk
  simp only[qjL] at zp
  refine qaa (pf:=F254) rfl rfl ?_
  simp[F254,zp,qbO,List.range_succ]
 ·rw[if_neg h3] at hk; cases hk
theorem qlV (h:T.drop i=t::r) (hb:t.bad=0) (hk:qbL t.s=none):Z tP (.call 254 [.ptr 0 0] (PS s T i 0 12))=some (.ret (qbj 12) (PS s T i t.at_ 12)):=by
 have zp:=qav (s:=s) (a:=0) (c:=12) h hb
 have zf:=qfF (s:=s) (T:=T) (i:=i) (a:=0) (c:=12) (k:=kindT t) (x:=t.s) (at_:=t.at_) (v:=valT t) (e:=t.bad) (c':=12)
 simp only[PS,pO,ptk,ptD,qao hb] at zp zf
 unfold qbL at hk
 by_cases h1:t.s=bs [97,99,116]
 ·rw[if_pos h1] at hk; cases hk
 rw[if_neg h1] at hk
 by_cases h2:t.s=bs [116,105,99,107]
 ·rw[if_pos h2] at hk; cases hk
 rw[if_neg h2] at hk
 by_cases h3:t.s=qjL
 ·rw[if_pos h3] at hk; cases hk
 simp only[bs] at h1 h2
 simp only[qjL] at h3
 refine qaa (pf:=F254) rfl rfl ?_
 simp[F254,zp,zf,h1,h2,h3,qbO,qaf,List.range_succ]
theorem qkq (h:T.drop i=t::r) (hb:t.bad≠0):Z tP (.call 254 [.ptr 0 0] (PS s T i 0 12))=some (.ret (qbj t.bad) (PS s T i t.at_ t.bad)):=by
 have zp:=qd8 (s:=s) (a:=0) (c:=12) h hb
 simp only[PS,pO] at zp
 refine qaa (pf:=F254) rfl rfl ?_
 simp[F254,zp,qaf,List.range_succ]
theorem qer {w:ByteArray} {k:Nat} (h:qbL w=some k):k=0\/k=1\/k=2:=by
 unfold qbL at h
 split at h
 ·cases h; omega
 split at h
 ·cases h; omega
 split at h
 ·cases h; omega
 ·cases h
end
end Go.Pm
end SMb
section SMc
namespace Go.Pm
open F
set_option maxHeartbeats 4000000
attribute [local simp] qbb qbP dkey
abbrev pgF:Fr:=[(0,.ptr 0 0),(2,.ptr 3 0),(3,.ptr 4 0)]
abbrev pgS (s:ByteArray) (T:List Tk) (i a c:Int) (q:Nat->N4):S:=PS s T i a c++[qq8,rob q]
section
variable {s:ByteArray} {T:List Tk} {i i' i2:Nat} {t:Tk} {r:List Tk} {a c:Int} {q:Nat->N4}
theorem qr1 (h:T.drop i=t::r) (hb:t.bad=0) (hs:t.s=⟨#[]⟩):Z tP (.loop 3 F242l0 pgF (pgS s T i 0 12 q))=some (.out (.exit 0) (pgF++[(8,.bool false)]) (pgS s T i 0 12 q)):=by
 have zp:=qav (s:=s) (a:=0) (c:=12) h hb
 have hk:kindT t=0:=by rw[qb3 hb,qgP,if_pos hs]
 have k0:=(q 0).one
 have k1:=(q 1).one
 have k2:=(q 2).one
 have c0:=(q 0).cl
 have c1:=(q 1).cl
 have c2:=(q 2).cl
 simp only[PS,pO,ptk,ptD,hk] at zp
 rw[qae]
 simp[qag,qct,zp,k0,k1,k2,c0,c1,c2,List.range_succ]
theorem qr2 (h:T.drop i=t::r) (hb:t.bad≠0) : ∃ fr,fr.get 1000000=none/\Z tP (.loop 3 F242l0 pgF (pgS s T i 0 12 q))=some (.out (.pan (.iface 1 (.int t.bad))) fr (pgS s T i t.at_ t.bad q)):=by
 have zp:=qd8 (s:=s) (a:=0) (c:=12) h hb
 simp only[PS,pO] at zp
 refine⟨(5,.ptr 0 0)::pgF,by simp[Fr.get],?_⟩
 rw[qae]
 simp[qag,qct,zp,qaf,List.range_succ]
theorem qtz (h:T.drop i=t::r) (hb:t.bad=0) (hs:t.s≠⟨#[]⟩) (z:Z tP (.call 253 [.ptr 0 0,.str ⟨#[111,110]⟩] (PS s T i 0 12))=some (.ret (qbj c) (PS s T i' a c))) : ∃ fr,fr.get 1000000=none/\Z tP (.loop 3 F242l0 pgF (pgS s T i 0 12 q))=some (.out (.pan (.iface 1 (.int c))) fr (pgS s T i' a c q)):=by
 have zp:=qav (s:=s) (a:=0) (c:=12) h hb
 have hk:decide (kindT t=0)=false:=decide_eq_false (fun e=>hs ((qdN hb).mp e))
 simp only[PS,pO,ptk,ptD] at zp z
 refine⟨(9,.ptr 0 0)::(pgF++[(8,.bool true)]),by simp[Fr.get],?_⟩
 rw[qae]
 simp[qag,qct,zp,z,hk,qaf,List.range_succ]
theorem qmF (h:T.drop i=t::r) (hb:t.bad=0) (hs:t.s≠⟨#[]⟩) (z:Z tP (.call 253 [.ptr 0 0,.str ⟨#[111,110]⟩] (PS s T i 0 12))=some (.ret (.tup []) (PS s T i' 0 12)))
  (zh:Z tP (.call 254 [.ptr 0 0] (PS s T i' 0 12))=some (.ret (qbj c) (PS s T i2 a c))) : ∃ fr,fr.get 1000000=none/\Z tP (.loop 3 F242l0 pgF (pgS s T i 0 12 q))=some (.out (.pan (.iface 1 (.int c))) fr (pgS s T i2 a c q)):=by
 have zp:=qav (s:=s) (a:=0) (c:=12) h hb
 have hk:decide (kindT t=0)=false:=decide_eq_false (fun e=>hs ((qdN hb).mp e))
 simp only[PS,pO,ptk,ptD] at zp z zh
 refine⟨(11,.ptr 0 0)::pgF,by simp[Fr.get],?_⟩
 rw[qae]
 simp[qag,qct,zp,z,zh,hk,qaf,List.range_succ]
theorem qr3 {t2:Tk} {r2:List Tk} {k:Nat} (h:T.drop i=t::r) (hb:t.bad=0) (hs:t.s≠⟨#[]⟩) (z:Z tP (.call 253 [.ptr 0 0,.str ⟨#[111,110]⟩] (PS s T i 0 12))=some (.ret (.tup []) (PS s T i' 0 12)))
  (h2:T.drop i'=t2::r2) (hb2:t2.bad=0) (hh:qbL t2.s=some k) (hq:decide ((q k).k=0)=false) : ∃ fr,fr.get 1000000=none/\Z tP (.loop 3 F242l0 pgF (pgS s T i 0 12 q))=some (.out (.pan (.iface 1 (.int 4))) fr (pgS s T i' t2.at_ 4 q)):=by
 have zp:=qav (s:=s) (a:=0) (c:=12) h hb
 have zp2:=qav (s:=s) (a:=0) (c:=12) h2 hb2
 have zh:=qfU (s:=s) h2 hb2 hh
 have zf:=qfF (s:=s) (T:=T) (i:=i') (a:=0) (c:=12) (k:=kindT t2) (x:=qeL t2) (at_:=t2.at_) (v:=valT t2) (e:=t2.bad) (c':=4)
 have hk:decide (kindT t=0)=false:=decide_eq_false (fun e=>hs ((qdN hb).mp e))
 simp only[PS,pO,ptk,ptD] at zp zp2 z zh zf
 have k0:=(q 0).one
 have k1:=(q 1).one
 have k2:=(q 2).one
 have c0:=(q 0).cl
 have c1:=(q 1).cl
 have c2:=(q 2).cl
 refine⟨(21,ptk t2)::(20,.ptr 0 0)::(19,.ptr 0 0)::(pgF++[(4,.int k),(18,.bool true)]),by simp[Fr.get],?_⟩
 rw[qae]
 rcases qer hh with rfl | rfl | rfl<;>simp[qag,qct,zp,zp2,z,zh,zf,hk,hq,k0,k1,k2,c0,c1,c2,qaf,List.range_succ]
theorem qr4 {t2:Tk} {r2:List Tk} {k:Nat} (hT:T.length<2 ^ 40) (h:T.drop i=t::r) (hb:t.bad=0) (hs:t.s≠⟨#[]⟩) (z:Z tP (.call 253 [.ptr 0 0,.str ⟨#[111,110]⟩] (PS s T i 0 12))=some (.ret (.tup []) (PS s T i' 0 12)))
  (h2:T.drop i'=t2::r2) (hb2:t2.bad=0) (hh:qbL t2.s=some k) (hq:decide ((q k).k=0)=true) (zb:Z tP (.call 256 [.ptr 0 0,.int 1] (PS s T ((i'+1:Nat):Int) 0 12))=some (.ret (qbj c) (PS s T i2 a c))) : ∃ fr,fr.get 1000000=none/\Z tP (.loop 3 F242l0 pgF (pgS s T i 0 12 q))=some (.out (.pan (.iface 1 (.int c))) fr (pgS s T i2 a c q)):=by
 have zp:=qav (s:=s) (a:=0) (c:=12) h hb
 have zh:=qfU (s:=s) h2 hb2 hh
 have hlt:=qhA h2
 have w1:=qal ((i':Int)+1) (by omega)
 have hk:decide (kindT t=0)=false:=decide_eq_false (fun e=>hs ((qdN hb).mp e))
 simp only[PS,pO,ptk,ptD] at zp z zh zb
 simp only[Int.natCast_add,Int.cast_ofNat_Int] at zb
 have k0:=(q 0).one
 have k1:=(q 1).one
 have k2:=(q 2).one
 have c0:=(q 0).cl
 have c1:=(q 1).cl
 have c2:=(q 2).cl
 refine⟨(31,.ptr 0 0)::(30,.int k)::(pgF++[(4,.int k)]),by simp[Fr.get],?_⟩
 rw[qae]
 rcases qer hh with rfl | rfl | rfl<;>simp[qag,qct,zp,z,zh,zb,w1,hk,hq,k0,k1,k2,c0,c1,c2,qaf,List.range_succ]
theorem qtA {t2:Tk} {r2:List Tk} {k:Nat} {d:D} (hT:T.length<2 ^ 40) (h:T.drop i=t::r) (hb:t.bad=0) (hs:t.s≠⟨#[]⟩) (z:Z tP (.call 253 [.ptr 0 0,.str ⟨#[111,110]⟩] (PS s T i 0 12))=some (.ret (.tup []) (PS s T i' 0 12)))
  (h2:T.drop i'=t2::r2) (hb2:t2.bad=0) (hh:qbL t2.s=some k) (hq:decide ((q k).k=0)=true) (od:V.one (.dat d)=true) (oc:V.cells (.dat d)=[.dat d]) (zb:Z tP (.call 256 [.ptr 0 0,.int 1] (PS s T ((i'+1:Nat):Int) 0 12))=some (.ret (nv 7 ⟨#[]⟩ d) (PS s T i2 0 12))):Z tP (.loop 3 F242l0 pgF (pgS s T i 0 12 q))=Z tP (.loop 3 F242l0 pgF (pgS s T i2 0 12 (qsS q k ⟨7,0,⟨#[]⟩,d,od,oc⟩))):=by
 have zp:=qav (s:=s) (a:=0) (c:=12) h hb
 have zh:=qfU (s:=s) h2 hb2 hh
 have hlt:=qhA h2
 have w1:=qal ((i':Int)+1) (by omega)
 have hk:decide (kindT t=0)=false:=decide_eq_false (fun e=>hs ((qdN hb).mp e))
 simp only[PS,pO,ptk,ptD] at zp z zh
 simp only[PS,pO,nv] at zb
 simp only[Int.natCast_add,Int.cast_ofNat_Int] at zb
 have k0:=(q 0).one
 have k1:=(q 1).one
 have k2:=(q 2).one
 have c0:=(q 0).cl
 have c1:=(q 1).cl
 have c2:=(q 2).cl
 conv=>lhs; rw[qae]
 rcases qer hh with rfl | rfl | rfl<;>simp[qag,qct,zp,z,zh,zb,od,oc,w1,hk,hq,k0,k1,k2,c0,c1,c2,qsS,List.range_succ]<;>rfl
end
end Go.Pm
end SMc
section SMd
namespace Go.Pm
open F
set_option maxHeartbeats 2000000
theorem qtB {w:ByteArray} (h:w.size=0):w=⟨#[]⟩:=by
 have hb:byl w=[]:=List.eq_nil_of_length_eq_zero (by rw[qaP]; exact h)
 have:=qdO w
 rw[hb] at this
 exact this.symm
section
variable {s:ByteArray} {T:List Tk}
theorem qjx (hw:WfQ T) (hT:T.length<2 ^ 30) (hP : ∀ t∈T,TokP t) : ∀ (n:Nat) (hh:Nat->Option Ss) (i:Nat) (t:Tk) (r:List Tk) (x:Rz (Nat->Option Ss)),T.drop i=t::r->qcJ 12 2 4 true true false n hh (t::r)=some x->match x with
  | .ok h' _ => ∃ i':Nat,Z tP (.loop 3 F242l0 pgF (pgS s T i 0 12 fun k=>qeN (hh k)))=some (.out (.exit 0) (pgF++[(8,.bool false)]) (pgS s T i' 0 12 fun k=>qeN (h' k)))
  | .er a c => ∃ (i':Nat) (fr:Fr) (q':Nat->N4),fr.get 1000000=none/\Z tP (.loop 3 F242l0 pgF (pgS s T i 0 12 fun k=>qeN (hh k)))=some (.out (.pan (.iface 1 (.int c))) fr (pgS s T i' a c q'))
 | 0,hh,i,t,r,x,_,hx=>by simp[qcJ] at hx
 | n+1,hh,i,t,r,x,h,hx=>by
  rw[qcJ] at hx
  by_cases hb:t.bad=0
  case neg=>
   have hnx:nx (t::r)=none:=if_neg hb
   rw[hnx] at hx
   simp only[failP,if_neg hb,Option.some.injEq] at hx
   subst hx
   obtain⟨fr,f1,f2⟩:=qr2 (s:=s) (q:=fun k=>qeN (hh k)) h hb
   exact⟨i,fr,_,f1,f2⟩
  have hnx:nx (t::r)=some t.s:=if_pos hb
  rw[hnx] at hx
  simp only at hx
  by_cases h0:t.s.size=0
  ·rw[if_pos h0] at hx
   simp only[Option.some.injEq] at hx
   subst hx
   exact⟨i,qr1 h hb (qtB h0)⟩
  rw[if_neg h0] at hx
  have hne:t.s≠⟨#[]⟩:=fun e=>h0 (by rw[e]; rfl)
  have ho:=qch (s:=s) hw (by omega) h (x:=bs [111,110]) (by decide)
  cases hq:qax 12 (bs [111,110]) (t::r) with
  | er a c=>
   rw[hq] at hx ho
   simp only[Option.some.injEq] at hx
   subst hx
   obtain⟨i',z⟩:=ho
   obtain⟨fr,f1,f2⟩:=qtz (q:=fun k=>qeN (hh k)) h hb hne z
   exact⟨i',fr,_,f1,f2⟩
  | ok u r1=>
   rw[hq] at hx ho
   simp only at hx
   obtain⟨i1,a1,a2,z⟩:=ho
   obtain⟨t2,r2,rfl⟩:=qaY a2
   by_cases hb2:t2.bad=0
   case neg=>
    have hnx2:nx (t2::r2)=none:=if_neg hb2
    rw[hnx2] at hx
    simp only[failP,if_neg hb2,Option.some.injEq] at hx
    subst hx
    obtain⟨fr,f1,f2⟩:=qmF (q:=fun k=>qeN (hh k)) h hb hne z (qkq a1 hb2)
    exact⟨i1,fr,_,f1,f2⟩
   have hnx2:nx (t2::r2)=some t2.s:=if_pos hb2
   rw[hnx2] at hx
   simp only at hx
   cases hk:qbL t2.s with
   | none=>
    rw[hk] at hx
    simp only[failP,if_pos hb2,Option.some.injEq] at hx
    subst hx
    obtain⟨fr,f1,f2⟩:=qmF (q:=fun k=>qeN (hh k)) h hb hne z (qlV a1 hb2 hk)
    exact⟨i1,fr,_,f1,f2⟩
   | some k=>
    rw[hk] at hx
    simp only at hx
    by_cases hd:(hh k).isSome=true
    ·rw[if_pos hd] at hx
     simp only[failP,if_pos hb2,Option.some.injEq] at hx
     subst hx
     obtain⟨b,hbb⟩:=Option.isSome_iff_exists.1 hd
     obtain⟨fr,f1,f2⟩:=qr3 (s:=s) (q:=fun k=>qeN (hh k)) h hb hne z a1 hb2 hk (decide_eq_false (by simp only[hbb,qeN]; decide))
     exact⟨i1,fr,_,f1,f2⟩
    ·rw[if_neg hd] at hx
     have hno:hh k=none:=by simpa using hd
     have hq0:decide ((qeN (hh k)).k=0)=true:=decide_eq_true (by rw[hno]; rfl)
     obtain⟨n1,n2⟩:=hw.next a1 hb2 (fun e=>by rw[e,show qbL ⟨#[]⟩=none by decide] at hk; cases hk)
     obtain⟨t3,r3,rfl⟩:=qaY n2
     simp only[List.tail_cons] at hx
     cases hq3:qaQ 12 2 true true false n 1 (t3::r3) with
     | none=>rw[hq3] at hx; cases hx
     | some y=>
      rw[hq3] at hx
      have hbk:=(qo3 (s:=s) hw hT hP n).2.1 1 (i1+1) t3 r3 y n1 hq3
      cases y with
      | er a c=>
       simp only[Option.some.injEq] at hx
       subst hx
       obtain⟨i2,z2⟩:=hbk
       obtain⟨fr,f1,f2⟩:=qr4 (q:=fun k=>qeN (hh k)) (by omega) h hb hne z a1 hb2 hk hq0 z2
       exact⟨i2,fr,_,f1,f2⟩
      | ok b r4=>
       simp only at hx
       obtain⟨i2,b1,b2,z2⟩:=hbk
       obtain⟨t4,r5,rfl⟩:=qaY b2
       have zs:=qtA (q:=fun k=>qeN (hh k)) (by omega) h hb hne z a1 hb2 hk hq0 (by simp) (by simp) z2
       have hu:qsS (fun k=>qeN (hh k)) k ⟨7,0,⟨#[]⟩,kd false b.fo.len b.fo.cells,by simp,by simp⟩=fun j=>qeN (if j=k then some b else hh j):=by
        funext j
        unfold qsS
        split<;>rfl
       rw[hu] at zs
       have:=qjx hw hT hP n (fun j=>if j=k then some b else hh j) i2 t4 r5 x b1 hx
       cases x with
       | ok h' q=>
        obtain⟨i3,e1⟩:=this
        exact⟨i3,zs.trans e1⟩
       | er a c=>
        obtain⟨i3,fr,q',e1,e2⟩:=this
        exact⟨i3,fr,q',e1,zs.trans e2⟩
end
end Go.Pm
end SMd
section SMe
namespace Go.Pm
open F
set_option maxHeartbeats 4000000
attribute [local simp] qbb qbP dkey
section
variable {s:ByteArray} {T:List Tk} {i':Nat} {q:Nat->N4} {a c:Int}
theorem qlD (z:Z tP (.loop 3 F242l0 pgF (pgS s T 0 0 12 fun k=>qeN none))=some (.out (.exit 0) (pgF++[(8,.bool false)]) (pgS s T i' 0 12 q))):Z tP (.call 242 [.ptr 0 0] (PS s T 0 0 12))=some (.ret (qoK q) (PS s T i' 0 12)):=by
 have k0:=(q 0).one
 have k1:=(q 1).one
 have k2:=(q 2).one
 have c0:=(q 0).cl
 have c1:=(q 1).cl
 have c2:=(q 2).cl
 simp only[pgS,PS,pO,rob,qeN,List.cons_append,List.nil_append] at z
 refine qaa (pf:=F242) rfl rfl ?_
 simp[F242,z,k0,k1,k2,c0,c1,c2,List.range_succ]
theorem qkc {fr:Fr} (hf:fr.get 1000000=none) (z:Z tP (.loop 3 F242l0 pgF (pgS s T 0 0 12 fun k=>qeN none))=some (.out (.pan (.iface 1 (.int c))) fr (pgS s T i' a c q))):Z tP (.call 242 [.ptr 0 0] (PS s T 0 0 12))=some (.ret (qbj c) (PS s T i' a c)):=by
 simp only[pgS,PS,pO,rob,qeN,List.cons_append,List.nil_append] at z
 refine qaa (pf:=F242) rfl rfl ?_
 simp[F242,z,hf,List.range_succ]
end
end Go.Pm
end SMe
section SMf
namespace Go.Pm
open F
set_option maxHeartbeats 4000000
attribute [local simp] qbb qbP dkey
section
variable {s:ByteArray} {T:List Tk} {i':Nat} {q:Nat->N4} {a c:Int}
theorem qnd (h:(2000:Int)<s.size):Z tP (.call 228 [.str s] [])=some (.ret (.tup [qoK fun _=>qeN none,.int 2000,.int 2]) []):=by
 refine qaa (pf:=F228) rfl rfl ?_
 simp[F228,h,V.len,qeN,List.range_succ]
abbrev dS (s:ByteArray) (T:List Tk) (q:Nat->N4) (x y:Int) (i a c:Int):S:=[.cells [.ptr 4 0],rob q,.cells [.int x],.cells [.int y],pO s 5 (.gsl (ptC T) T.length 5 6) i a c,.map kwM,.tip (ptC T).length]
theorem qne {x y i a c:Int}:Z tP (.dcall 240 [.dat (.lit .nilIface),.ptr 0 0,.ptr 1 0,.ptr 2 0,.ptr 3 0] (dS s T q x y i a c))=some (.ret (.dat (.lit undef)) (dS s T q x y i a c)):=by
 have k0:=(q 0).one
 have k1:=(q 1).one
 have k2:=(q 2).one
 have c0:=(q 0).cl
 have c1:=(q 1).cl
 have c2:=(q 2).cl
 refine ql9 (pf:=F240) rfl ?_
 have hfl:F240.body.flat=true:=rfl
 simp only[qbn]
 rw[if_pos ⟨rfl,rfl,rfl,hfl,.inl rfl⟩]
 simp[F240,qis,k0,k1,k2,c0,c1,c2,List.range_succ]
theorem qoN (h : ¬ (2000:Int)<s.size) (zt:Z tP (.call 249 [.yld 0,.ptr 1 0] (TT0 s))=some (.ret (.tup []) (TT1 s (ptC T) T.length)))
  (z:Z tP (.call 242 [.ptr 0 0] (PS s T 0 0 12))=some (.ret (qoK q) (PS s T i' 0 12))):Z tP (.call 228 [.str s] [])=some (.ret (.tup [qoK q,.int 0,.int 0]) []):=by
 have z1:=qhB s
 have z2:=qjs s
 have k0:=(q 0).one
 have k1:=(q 1).one
 have k2:=(q 2).one
 have c0:=(q 0).cl
 have c1:=(q 1).cl
 have c2:=(q 2).cl
 simp only[pO] at z2
 simp only[TT0,TT1,pO] at zt
 simp only[PS,pO] at z
 have zd:=qne (s:=s) (T:=T) (q:=q) (x:=0) (y:=0) (i:=i') (a:=0) (c:=12)
 simp only[dS,pO,rob] at zd
 refine qaa (pf:=F228) rfl rfl ?_
 simp[F228,z1,z2,zt,z,zd,h,V.len,k0,k1,k2,c0,c1,c2,List.range_succ]
end
end Go.Pm
end SMf
section SMg
namespace Go.Pm
open F
set_option maxHeartbeats 4000000
attribute [local simp] qbb qbP dkey
section
variable {s:ByteArray} {T:List Tk} {i':Nat} {a c:Int}
abbrev q0:Nat->N4:=fun _=>qeN none
theorem qmk {i a c:Int}:Z tP (.dcall 240 [.iface 1 (.int c),.ptr 0 0,.ptr 1 0,.ptr 2 0,.ptr 3 0] (dS s T q0 0 0 i a c))=some (.ret (.dat (.lit undef)) (dS s T q0 a c i a c)):=by
 refine ql9 (pf:=F240) rfl ?_
 have hfl:F240.body.flat=true:=rfl
 simp only[qbn]
 rw[if_pos ⟨rfl,rfl,rfl,hfl,.inl rfl⟩]
 simp[F240,qis,qeN,qcX,qa8,List.range_succ]
theorem qml (h : ¬ (2000:Int)<s.size) (zt:Z tP (.call 249 [.yld 0,.ptr 1 0] (TT0 s))=some (.ret (.tup []) (TT1 s (ptC T) T.length)))
  (z:Z tP (.call 242 [.ptr 0 0] (PS s T 0 0 12))=some (.ret (qbj c) (PS s T i' a c))):Z tP (.call 228 [.str s] [])=some (.ret (.tup [qoK fun _=>qeN none,.int a,.int c]) []):=by
 have z1:=qhB s
 have z2:=qjs s
 simp only[pO] at z2
 simp only[TT0,TT1,pO] at zt
 simp only[PS,pO] at z
 have zd:=qmk (s:=s) (T:=T) (i:=i') (a:=a) (c:=c)
 simp only[dS,pO,rob,q0,qeN] at zd
 refine qaa (pf:=F228) rfl rfl ?_
 simp[F228,z1,z2,zt,z,zd,h,V.len,qeN,qaf,V.isNilIf,List.range_succ]
end
end Go.Pm
end SMg
section SMh
namespace Go.Pm
open F
set_option maxHeartbeats 1000000
theorem qjw (s:ByteArray) : ∀ n i,(qb1 12 2 6 s n i).length<=n+1
 | 0,i=>by simp[qb1]
 | n+1,i=>by
  rw[qb1]
  have:=qjw s n
  split
  ·simp
  ·simp only[List.length_cons]; have:=this ((tokAt 12 2 6 s (qgE s (s.size-i) false i)).at_+(tokAt 12 2 6 s (qgE s (s.size-i) false i)).s.size); omega
theorem qok (s:ByteArray) : ∀ n i,qb1 12 2 6 s n i≠[]
 | 0,i=>by simp[qb1]
 | n+1,i=>by rw[qb1]; split<;>simp
theorem qmD (s:ByteArray) (hP : ∀ t∈qhZ s,TokP t):Z tP (.call 228 [.str s] [])=some (.ret (qh0 true true false s) []):=by
 unfold qh0
 by_cases hbig:2000<s.size
 ·have:qdj true true false s = .er 2000 2:=by rw[qdj,if_pos hbig]
  rw[this]
  exact qnd (by omega)
 ·have hlen:=qjw s (s.size+1) 0
  have hT:(qhZ s).length<2 ^ 30:=by show (qb1 12 2 6 s (s.size+1) 0).length<_; omega
  have hw:WfQ (qhZ s):=qnf s _ 0
  have zt:=qng s (by omega)
  obtain⟨t,r,htr⟩:=qaY (show qhZ s≠[] from qok s _ 0)
  have hv:=qd0 (f:=true) (fi:=true) (fb:=false) hbig
  have hp:=hv
  rw[htr] at hp
  have:=qjx (s:=s) hw hT hP _ (fun _=>none) 0 t r _ (by rw[List.drop_zero]; exact htr) hp
  cases hx:qdj true true false s with
  | ok h' ts=>
   rw[hx] at this
   obtain⟨i',z⟩:=this
   exact qoN (by omega) zt (qlD z)
  | er a c=>
   rw[hx] at this
   obtain⟨i',fr,q',f1,z⟩:=this
   exact qml (by omega) zt (qkc f1 z)
theorem qmE (s:ByteArray) (hl:s.size<2 ^ 30) : ∀ n i,∀ t∈qb1 12 2 6 s n i,TokP t
 | 0,i,t,h=>by
  simp only[qb1,List.mem_singleton] at h
  rw[h]
  exact⟨fun _=>show (⟨#[]⟩:ByteArray)≠qS by decide,fun _ h=>(by cases h)⟩
 | n+1,i,t,h=>by
  have one : ∀ j,TokP (tokAt 12 2 6 s j):=fun j=>by
   by_cases hj:j<s.size
   ·exact qqK hl hj
   ·have hd:(byl s).drop j=[]:=List.drop_eq_nil_of_le (by rw[qaP]; omega)
    rw[qdq,hd]
    exact⟨fun _=>show (⟨#[]⟩:ByteArray)≠qS by decide,fun _ h=>(by cases h)⟩
  rw[qb1] at h
  split at h
  ·rw[List.mem_singleton.1 h]; exact one _
  ·rcases List.mem_cons.1 h with h | h
   ·rw[h]; exact one _
   ·exact qmE s hl n _ t h
theorem qol (s:ByteArray) (hl:s.size<2 ^ 30):Z tP (.call 228 [.str s] [])=some (.ret (qh0 true true false s) []):=qmD s (qmE s hl _ 0)
end Go.Pm
end SMh
section SUh
namespace Go.Pm
open F
set_option maxHeartbeats 4000000
abbrev Sub (p q:Nat->Option PFun):Prop := ∀ f pf,p f=some pf->q f=some pf
structure Has (prog:Nat->Option PFun):Prop where
 b:Sub qbf prog
 r:Sub tR prog
 s:Sub tS prog
 p:Sub tP prog
 q:Sub tQ prog
 e:Sub tE prog
 k:Sub tK prog
section
variable {prog:Nat->Option PFun} (H:Has prog)
include H
theorem qmn (s:ByteArray) {m:Nat} (hm:m<=1000) : ∃ t:ByteArray,t.size<=m/\Z prog (.call 225 [.str s,.int m] [])=some (.ret (.str t) []):=by
 by_cases h:m<s.size
 ·refine⟨s.extract 0 m,by rw[ByteArray.size_extract]; omega,?_⟩
  have h1:(m:Int)<s.size:=by omega
  have h2:(m:Int)<=s.size:=by omega
  refine qaa (H.k 225 F225 rfl) rfl ?_
  simp[F225,V.len,h,h1,h2,qbD,bound]
 ·refine⟨s,by omega,?_⟩
  have h1 : ¬ (m:Int)<s.size:=by omega
  refine qaa (H.k 225 F225 rfl) rfl ?_
  simp[F225,V.len,h,h1]
theorem qnI {s:ByteArray} (hs:s.size<2 ^ 30) {at_ how:Int} {c:Nat} (ha:I64 at_) (hh:I64 how) (hc:c<256) :
  ∃ t:ByteArray,t.size<=s.size+1/\Z prog (.call 226 [.str s,.int at_,.int how,.dat (.lit (.int .u8 c))] [])=some (.ret (.str t) []):=by
 have z1:=qmd H.b (qiW ha (m:=(s.size:Int)+1) (by omega))
 have z2:=qmd H.b (qiW hh (m:=4) (by omega))
 have r1:=qg5 ha (m:=(s.size:Int)+1) (by omega)
 have r2:=qg5 hh (m:=4) (by omega)
 obtain⟨k,hk⟩ : ∃ k:Nat,qeR at_ ((s.size:Int)+1)=k:=⟨(qeR at_ ((s.size:Int)+1)).toNat,by omega⟩
 rw[hk] at z1 r1
 have w1:=qal ((s.size:Int)+1) (by omega)
 have c0:(0:Int)<=c:=by omega
 have c1:(c:Int)<256:=by omega
 obtain⟨C,hC⟩ : ∃ v:ByteArray,v=⟨#[UInt8.ofNat c]⟩:=⟨_,rfl⟩
 have hCs:C.size=1:=by rw[hC]; rfl
 have hb : ∀ (bs:List UInt8),bs=[UInt8.ofNat c]->(⟨bs.toArray⟩:ByteArray)=C:=fun bs h=>by rw[h,hC]
 have hb1:=hb _ rfl
 by_cases hlen:k=s.size
 ·subst hlen
  refine⟨s++C,by rw[ByteArray.size_append]; omega,?_⟩
  have n1 : ¬ (9223372036854775807:Int)<(s.size:Int)+C.size:=by omega
  refine qaa (H.k 226 F226 rfl) rfl ?_
  simp -implicitDefEqProofs [F226,V.len,w1,z1,c0,c1,hCs,qcw,hb1,show ¬ (9223372036854775807:Int)<(s.size:Int)+1 by omega]
 ·have hlt:k<s.size:=by omega
  have w2:IntKind.i64.wrap ((k:Int)+1)=((k+1:Nat):Int):=by rw[qal _ (by omega)]; omega
  obtain⟨k1,hk1⟩ : ∃ v:Nat,v=k+1:=⟨_,rfl⟩
  rw[<- hk1] at w2
  have b1:(k:Int)<=s.size:=by omega
  have b2:(k1:Int)<=s.size:=by omega
  have hne : ¬ (k:Int)=s.size:=by omega
  obtain⟨A,hA⟩ : ∃ v,v=s.extract 0 k:=⟨_,rfl⟩
  obtain⟨B,hB⟩ : ∃ v,v=s.extract k1 s.size:=⟨_,rfl⟩
  obtain⟨B',hB'⟩ : ∃ v,v=s.extract k s.size:=⟨_,rfl⟩
  have sA:A.size=k:=by rw[hA,ByteArray.size_extract]; omega
  have sB:B.size=s.size-k1:=by rw[hB,ByteArray.size_extract]; omega
  have sB':B'.size=s.size-k:=by rw[hB',ByteArray.size_extract]; omega
  have sAC:(A++C).size=A.size+1:=by rw[ByteArray.size_append,hCs]
  have q1 : ¬ (9223372036854775807:Int)<(k:Int)+1:=by omega
  have q2 : ∀ n:Nat,n<=s.size -> ¬ (9223372036854775807:Int)<(k:Int)+1+(n:Int):=fun n hn=>by omega
  have q3:=q2 (s.size-k1) (by omega)
  have q4:=q2 (s.size-k) (by omega)
  have q5 : ¬ (9223372036854775807:Int)<(k:Int)+((s.size-k1:Nat):Int):=by omega
  obtain⟨g,hg⟩ : ∃ v,v=qeR how 4:=⟨_,rfl⟩
  rw[<- hg] at z2 r2
  obtain h0 | h0 | h0 | h0:g=0\/g=1\/g=2\/g=3:=by omega
  ·refine⟨A++C++B,by rw[ByteArray.size_append,sAC]; omega,?_⟩
   rw[h0] at z2
   refine qaa (H.k 226 F226 rfl) rfl ?_
   simp -implicitDefEqProofs [F226,V.len,w1,w2,z1,z2,c0,c1,hne,hlen,qbD,bound,b1,b2,<- hA,<- hB,sA,sB,hCs,sAC,qcw,hb1,q1,q3]
  ·refine⟨A++B,by rw[ByteArray.size_append]; omega,?_⟩
   rw[h0] at z2
   refine qaa (H.k 226 F226 rfl) rfl ?_
   simp -implicitDefEqProofs [F226,V.len,w1,w2,z1,z2,c0,c1,hne,hlen,qbD,bound,b1,b2,<- hA,<- hB,sA,sB,hCs,sAC,qcw,hb1,q5]
  ·refine⟨A,by omega,?_⟩
   rw[h0] at z2
   refine qaa (H.k 226 F226 rfl) rfl ?_
   simp -implicitDefEqProofs [F226,V.len,w1,w2,z1,z2,c0,c1,hne,hlen,qbD,bound,b1,b2,<- hA,<- hB,sA,sB,hCs,sAC,qcw,hb1]
  ·refine⟨A++C++B',by rw[ByteArray.size_append,sAC]; omega,?_⟩
   rw[h0] at z2
   refine qaa (H.k 226 F226 rfl) rfl ?_
   simp -implicitDefEqProofs [F226,V.len,w1,w2,z1,z2,c0,c1,hne,hlen,qbD,bound,b1,b2,<- hA,<- hB',sA,sB',hCs,sAC,qcw,hb1,q1,q4]
theorem qnJ {v:D} {xs:List Int} (h:RowV v xs) (hx : ∀ x∈xs,I64 x) : ∃ a b c:Hd,a.gen/\b.gen/\c.gen/\Z prog (.call 227 [.dat v] [])=some (.ret (.str (bs (qaj false (qdg (Hd.opts a b c))))) []):=by
 obtain⟨a,b,c,ha,hb,hc,zp⟩:=qna h hx
 refine⟨a,b,c,ha,hb,hc,?_⟩
 have hl:=qlf a b c
 have h1:=qeI ha
 have h2:=qeI hb
 have h3:=qeI hc
 have zs:=qmd H.s (qn4 (qm9 ha hb hc) (by omega))
 have zp':=qmd H.b zp
 have k0:=h.one
 have k1:=h.cells
 refine qaa (H.k 227 F227 rfl) rfl ?_
 generalize bs (qaj false (qdg (Hd.opts a b c)))=R at *
 generalize ru a.nd b.nd c.nd=r at *
 simp -implicitDefEqProofs [F227,zp',zs]
theorem qkJ (s:ByteArray) (hl:s.size<2 ^ 30):Z prog (.call 228 [.str s] [])=some (.ret (qh0 true true false s) []):=qmd H.p (qol s hl)
end
def hdO:Option Ss->Hd
 | none => .none
 | some b => .some false b
theorem qpH (o:Option Ss):(qeN o).k=(hdO o).nd.k/\(qeN o).n=(hdO o).nd.n/\(qeN o).s=(hdO o).nd.s/\(qeN o).d=(hdO o).nd.d:=by cases o<;>exact⟨rfl,rfl,rfl,rfl⟩
theorem qpI (h:Nat->Option Ss):qoK (fun k=>qeN (h k)) = .dat (ru (hdO (h 0)).nd (hdO (h 1)).nd (hdO (h 2)).nd):=by
 obtain⟨a1,a2,a3,a4⟩:=qpH (h 0)
 obtain⟨b1,b2,b3,b4⟩:=qpH (h 1)
 obtain⟨c1,c2,c3,c4⟩:=qpH (h 2)
 simp only[qoK,ru,a1,a2,a3,a4,b1,b2,b3,b4,c1,c2,c3,c4]
end Go.Pm
end SUh
section SUj
namespace Go.Pm
open F
set_option maxHeartbeats 8000000
structure HasD (prog:Nat->Option PFun):Prop extends Has prog where
 kd:Sub tKd prog
section
variable {prog:Nat->Option PFun} (H:Has prog)
include H
theorem qt8 {s:ByteArray} (hs:s.size<2 ^ 30) {h:Nat->Option Ss} {r:List Tk} (hp:qdj true true false s = .ok h r) : ∃ (A B C:Nd),A=(hdO (h 0)).nd/\B=(hdO (h 1)).nd/\C=(hdO (h 2)).nd/\Z prog (.call 228 [.str s] [])=some (.ret (.tup [.dat (ru A B C),.int 0,.int 0]) []):=by
 refine⟨_,_,_,rfl,rfl,rfl,?_⟩
 have z:=qkJ H s hs
 rw[qh0,hp] at z
 simp only[qpI] at z
 exact z
theorem quy {s:ByteArray} (hs:s.size<2 ^ 30) {a c:Nat} (hp:qdj true true false s = .er a c):c≠0/\Z prog (.call 228 [.str s] [])=some (.ret (.tup [.dat (ru Hd.none.nd Hd.none.nd Hd.none.nd),.int a,.int c]) []):=by
 refine⟨qjJ hp,?_⟩
 have z:=qkJ H s hs
 rw[qh0,hp] at z
 exact z
end
end Go.Pm
end SUj
