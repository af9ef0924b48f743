/- Chapter 13's parser: rows of operators against the plain ones. Chapter 13's parser: binary operators. Chapter 13's parser: comparisons. Chapter 13's parser: operators before an operand. Chapter 13's parser: operators before an operand, against the plain ones. Chapter 13's parser: operands and indices: the walks. Chapter 13's parser: brackets in expressions: the walks. Printed by ks.py. Chapter 13's parser: every expression is the plain one. -/
import Derived.Test.YtjdbkncfebebnaaDoorPmKa
import Derived.Test.YtjdbkncfebebnaaDoorPmEt
set_option linter.unusedSimpArgs false
set_option linter.unusedVariables false
section SKm
namespace Go.Pm
open F
set_option maxHeartbeats 4000000
attribute [local simp] qaU qbo dkey
theorem qoj {p:Nat} (hp:qhr p) {y:ByteArray} {o:Bop} (h:qiD p y=some o):y=o.str/\y∈qeL p:=by
 have h1:o.str=y:=by have:=List.find?_some h; simpa using this
 have h2:=List.mem_of_find?_eq_some h
 subst h1
 refine⟨rfl,?_⟩
 rcases hp with rfl | rfl | rfl | rfl<;>simp only[List.mem_cons,List.not_mem_nil,or_false] at h2
 ·subst h2; decide
 ·subst h2; decide
 ·rcases h2 with rfl | rfl<;>decide
 ·rcases h2 with rfl | rfl<;>decide
theorem qok {p:Nat} (hp:qhr p) {y:ByteArray} (h:qiD p y=none):y∉qeL p:=by
 have h2:=List.find?_eq_none.1 h
 rcases hp with rfl | rfl | rfl | rfl<;>simp only[List.mem_cons,List.not_mem_nil,or_false] at h2
 ·intro hm
  exact h2 .or rfl (by simpa [qeL,Bop.str,eq_comm] using hm)
 ·intro hm
  exact h2 .and rfl (by simpa [qeL,Bop.str,eq_comm] using hm)
 ·intro hm
  simp only[qeL,List.mem_cons,List.not_mem_nil,or_false] at hm
  rcases hm with rfl | rfl
  ·exact h2 .add (.inl rfl) (by decide)
  ·exact h2 .sub (.inr rfl) (by decide)
 ·intro hm
  simp only[qeL,List.mem_cons,List.not_mem_nil,or_false] at hm
  rcases hm with rfl | rfl
  ·exact h2 .mul (.inl rfl) (by decide)
  ·exact h2 .div (.inr rfl) (by decide)
theorem qqb {p:Nat} (hp:qhr p):(⟨#[]⟩:ByteArray)∉qeL p/\(qeL p).length<2 ^ 40:=by
 rcases hp with rfl | rfl | rfl | rfl<;>exact⟨by decide,by decide⟩
section
variable (s:ByteArray) (T:List Tk)
def ExK (n:Nat):Prop := ∀ (p lv i:Nat) (t:Tk) (r:List Tk) (x:Rz E),1<=p->p<=8->lv<=20->T.drop i=t::r->qal 12 2 true n p lv (t::r)=some x->Out s T (Z tP (.call (fnP p) [.ptr 0 0,.int lv] (PS s T i 0 12))) x E.node
def LoK (n:Nat):Prop := ∀ (p lv i:Nat) (t:Tk) (r:List Tk) (e:E) (x:Rz E),qhr p->lv<=20->T.drop i=t::r->qbX 12 2 true n p lv e (t::r)=some x->match x with
 | .ok e' r' => ∃ i',T.drop i'=r'/\r'≠[]/\Z tP (.loop 5 F285l0 (bqF (clF p) (.sl (qa5 (qeL p)) (qeL p).length true)) (BL s T lv i 0 12 e))=some (.out (.exit 0) (bqF (clF p) (.sl (qa5 (qeL p)) (qeL p).length true)++[(13,.bool false)]) (BL s T lv i' 0 12 e'))
 | .er a c => ∃ (i':Nat) (fr:Fr) (e':E),fr.get 1000000=none/\Z tP (.loop 5 F285l0 (bqF (clF p) (.sl (qa5 (qeL p)) (qeL p).length true)) (BL s T lv i 0 12 e))=some (.out (.pan (.iface 1 (.int c))) fr (BL s T lv i' a c e'))
variable {s:ByteArray} {T:List Tk}
theorem qol (hw:WfQ T) (hT:T.length<2 ^ 40) {n:Nat} (ihe:ExK s T n) (ihl:LoK s T n):LoK s T (n+1):=by
 intro p lv i t r e x hp hlv h hx
 obtain⟨on,ol⟩:=qqb hp
 have hd:=qae (qeL p) true
 have hp2:p≠3/\p≠4/\p≠7/\1<=p/\p<=6:=by rcases hp with rfl | rfl | rfl | rfl<;>omega
 rw[qbX] at hx
 by_cases hb:t.bad=0
 ·have hnx:nx (t::r)=some t.s:=if_pos hb
  rw[hnx] at hx
  simp only at hx
  cases ho:qiD p t.s with
  | none=>
   rw[ho] at hx
   cases hx
   exact⟨i,h,by simp,qmb hd ol on h hb (qok hp ho) e⟩
  | some o=>
   rw[ho] at hx
   simp only[List.tail_cons] at hx
   obtain⟨q1,q2⟩:=qoj hp ho
   have hne:t.s≠⟨#[]⟩:=fun e=>on (e ▸ q2)
   obtain⟨n1,n2⟩:=hw.next h hb hne
   obtain⟨t',r',hr⟩ : ∃ t' r',r=t'::r':=by cases r with
    | nil=>exact absurd rfl n2
    | cons a b=>exact⟨a,b,rfl⟩
   subst hr
   cases hq:qal 12 2 true n (p+1) lv (t'::r') with
   | none=>rw[hq] at hx; cases hx
   | some y=>
    rw[hq] at hx
    have ho':=ihe (p+1) lv (i+1) t' r' y (by omega) (by omega) hlv n1 hq
    cases y with
    | er a c=>
     simp only[Option.some.injEq] at hx
     subst hx
     obtain⟨i',z⟩:=ho'
     exact⟨i',_,e,rfl,qmd hd ol hT on h hb q2 e (qjs hp z)⟩
    | ok e' r''=>
     simp only[if_neg hp2.2.1] at hx
     obtain⟨i',a1,a2,z⟩:=ho'
     have zs:=qlb hd ol hT on h hb q2 q1 e e' (qla hp z)
     obtain⟨t2,r2,hr2⟩ : ∃ t2 r2,r''=t2::r2:=by cases r'' with
      | nil=>exact absurd rfl a2
      | cons a b=>exact⟨a,b,rfl⟩
     subst hr2
     have:=ihl p lv i' t2 r2 (.bin true o e e') x hp hlv a1 hx
     cases x with
     | ok e3 r3=>
      obtain⟨i3,b1,b2,b3⟩:=this
      exact⟨i3,b1,b2,zs.trans b3⟩
     | er a c=>
      obtain⟨i3,fr,e3,b1,b2⟩:=this
      exact⟨i3,fr,e3,b1,zs.trans b2⟩
 ·have hnx:nx (t::r)=none:=if_neg hb
  rw[hnx] at hx
  simp only at hx
  rw[if_neg (by omega)] at hx
  simp only[qbG,if_neg hb,Option.some.injEq] at hx
  subst hx
  exact⟨i,_,e,rfl,qmc hd h hb e⟩
end
end Go.Pm
end SKm
section SKn
namespace Go.Pm
open F
set_option maxHeartbeats 4000000
attribute [local simp] qaU qbo dkey
section
variable {s:ByteArray} {T:List Tk} {lv i i' i2:Nat} {g:Nat} {d:D} {e e':E} {a c:Int}
theorem qss (ho:V.one (.dat d)=true) (hc:V.cells (.dat d)=[.dat d])
  (z:Z tP (.call g [.ptr 0 0,.ptr 1 0] (CS s T lv i 0 12))=some (.ret e.node (CS s T lv i' 0 12)))
  (zl:Z tP (.loop 5 F285l0 (bqF g d) (BL s T lv i' 0 12 e))=some (.out (.exit 0) (bqF g d++[(13,.bool false)]) (BL s T lv i2 0 12 e'))) :
  Z tP (.call 285 [.ptr 0 0,.fn g [] [.ptr 1 0,.ptr 2 0],.dat d] (BS s T lv i 0 12))=some (.ret e'.node (BS s T lv i2 0 12)):=by
 simp only[CS,BL,pO,ndO] at z zl
 refine qac (pf:=F285) rfl rfl ?_
 simp[F285,z,zl,ho,hc,List.range_succ]
theorem qp8 (ho:V.one (.dat d)=true) (hc:V.cells (.dat d)=[.dat d])
  (z:Z tP (.call g [.ptr 0 0,.ptr 1 0] (CS s T lv i 0 12))=some (.ret (qaX c) (CS s T lv i' a c))) :
  Z tP (.call 285 [.ptr 0 0,.fn g [] [.ptr 1 0,.ptr 2 0],.dat d] (BS s T lv i 0 12))=some (.ret (qaX c) (BS s T lv i' a c)):=by
 simp only[CS,pO] at z
 refine qac (pf:=F285) rfl rfl ?_
 simp[F285,z,ho,hc,qad,List.range_succ]
theorem qp9 (ho:V.one (.dat d)=true) (hc:V.cells (.dat d)=[.dat d]) {fr:Fr} (hf:fr.get 1000000=none)
  (z:Z tP (.call g [.ptr 0 0,.ptr 1 0] (CS s T lv i 0 12))=some (.ret e.node (CS s T lv i' 0 12)))
  (zl:Z tP (.loop 5 F285l0 (bqF g d) (BL s T lv i' 0 12 e))=some (.out (.pan (.iface 1 (.int c))) fr (BL s T lv i2 a c e'))) :
  Z tP (.call 285 [.ptr 0 0,.fn g [] [.ptr 1 0,.ptr 2 0],.dat d] (BS s T lv i 0 12))=some (.ret (qaX c) (BS s T lv i2 a c)):=by
 simp only[CS,BL,pO,ndO] at z zl
 refine qac (pf:=F285) rfl rfl ?_
 simp[F285,z,zl,ho,hc,hf,List.range_succ]
theorem qst {p:Nat} (hp:qhr p) (z:Z tP (.call 285 [.ptr 0 0,.fn (clF p) [] [.ptr 1 0,.ptr 2 0],.dat (.sl (qa5 (qeL p)) (qeL p).length true)] (BS s T lv i 0 12))=some (.ret e.node (BS s T lv i' 0 12))) :
  Z tP (.call (fnP p) [.ptr 0 0,.int lv] (PS s T i 0 12))=some (.ret e.node (PS s T i' 0 12)):=by
 simp only[BS,pO] at z
 rcases hp with rfl | rfl | rfl | rfl
 ·refine qac (pf:=F279) rfl rfl ?_
  simp only[clF,qeL,qa5,List.map_cons,List.map_nil,List.length_cons,List.length_nil] at z
  simp[F279,z,List.range_succ]
 ·refine qac (pf:=F287) rfl rfl ?_
  simp only[clF,qeL,qa5,List.map_cons,List.map_nil,List.length_cons,List.length_nil] at z
  simp[F287,z,List.range_succ]
 ·refine qac (pf:=F297) rfl rfl ?_
  simp only[clF,qeL,qa5,List.map_cons,List.map_nil,List.length_cons,List.length_nil] at z
  simp[F297,z,List.range_succ]
 ·refine qac (pf:=F304) rfl rfl ?_
  simp only[clF,qeL,qa5,List.map_cons,List.map_nil,List.length_cons,List.length_nil] at z
  simp[F304,z,List.range_succ]
theorem qqa {p:Nat} (hp:qhr p) (z:Z tP (.call 285 [.ptr 0 0,.fn (clF p) [] [.ptr 1 0,.ptr 2 0],.dat (.sl (qa5 (qeL p)) (qeL p).length true)] (BS s T lv i 0 12))=some (.ret (qaX c) (BS s T lv i' a c))) :
  Z tP (.call (fnP p) [.ptr 0 0,.int lv] (PS s T i 0 12))=some (.ret (qaX c) (PS s T i' a c)):=by
 simp only[BS,pO] at z
 rcases hp with rfl | rfl | rfl | rfl
 ·refine qac (pf:=F279) rfl rfl ?_
  simp only[clF,qeL,qa5,List.map_cons,List.map_nil,List.length_cons,List.length_nil] at z
  simp[F279,z,qad,List.range_succ]
 ·refine qac (pf:=F287) rfl rfl ?_
  simp only[clF,qeL,qa5,List.map_cons,List.map_nil,List.length_cons,List.length_nil] at z
  simp[F287,z,qad,List.range_succ]
 ·refine qac (pf:=F297) rfl rfl ?_
  simp only[clF,qeL,qa5,List.map_cons,List.map_nil,List.length_cons,List.length_nil] at z
  simp[F297,z,qad,List.range_succ]
 ·refine qac (pf:=F304) rfl rfl ?_
  simp only[clF,qeL,qa5,List.map_cons,List.map_nil,List.length_cons,List.length_nil] at z
  simp[F304,z,qad,List.range_succ]
end
section
variable {s:ByteArray} {T:List Tk}
theorem qjI {n:Nat} (ihe:ExK s T n) (ihl:LoK s T n) {p lv i:Nat} {t:Tk} {r:List Tk} {x:Rz E} (hp:qhr p) (hlv:lv<=20) (h:T.drop i=t::r) (hx:qal 12 2 true (n+1) p lv (t::r)=some x):Out s T (Z tP (.call (fnP p) [.ptr 0 0,.int lv] (PS s T i 0 12))) x E.node:=by
 have hp2:p≠3/\p≠7/\1<=p/\p<8/\p+1<=8:=by rcases hp with rfl | rfl | rfl | rfl<;>omega
 have hd:=qae (qeL p) true
 rw[qal,if_neg (by rintro (h | h); exact hp2.1 h.1; exact hp2.2.1 h.1),if_pos hp2.2.2.2.1] at hx
 cases hq:qal 12 2 true n (p+1) lv (t::r) with
 | none=>rw[hq] at hx; cases hx
 | some y=>
  rw[hq] at hx
  have ho:=ihe (p+1) lv i t r y (by omega) hp2.2.2.2.2 hlv h hq
  cases y with
  | er a c=>
   simp only[Option.some.injEq] at hx
   subst hx
   obtain⟨i',z⟩:=ho
   exact⟨i',qqa hp (qp8 hd.one hd.cells (qjs hp z))⟩
  | ok e r'=>
   simp only at hx
   obtain⟨i',a1,a2,z⟩:=ho
   have zc:=qla hp z
   obtain⟨t2,r2,hr2⟩ : ∃ t2 r2,r'=t2::r2:=by cases r' with
    | nil=>exact absurd rfl a2
    | cons a b=>exact⟨a,b,rfl⟩
   subst hr2
   have hl:=ihl p lv i' t2 r2 e x hp hlv a1 hx
   cases x with
   | ok e3 r3=>
    obtain⟨i3,b1,b2,b3⟩:=hl
    exact⟨i3,b1,b2,qst hp (qss hd.one hd.cells zc b3)⟩
   | er a c=>
    obtain⟨i3,fr,e3,b1,b2⟩:=hl
    exact⟨i3,qqa hp (qp9 hd.one hd.cells b1 zc b2)⟩
end
end Go.Pm
end SKn
section SKo
namespace Go.Pm
open F
set_option maxHeartbeats 4000000
attribute [local simp] qaU qbo dkey
def qjE:List ByteArray:=[⟨#[60]⟩,⟨#[60,61]⟩,⟨#[62]⟩,⟨#[62,61]⟩,⟨#[61,61]⟩,⟨#[33,61]⟩]
theorem qmr {y:ByteArray} {o:Bop} (h:qiD 4 y=some o):y=o.str/\y∈qjE:=by
 have h1:o.str=y:=by have:=List.find?_some h; simpa using this
 have h2:=List.mem_of_find?_eq_some h
 subst h1
 refine⟨rfl,?_⟩
 simp only[List.mem_cons,List.not_mem_nil,or_false] at h2
 rcases h2 with rfl | rfl | rfl | rfl | rfl | rfl<;>decide
theorem qms {y:ByteArray} (h:qiD 4 y=none):y∉qjE:=by
 have h2:=List.find?_eq_none.1 h
 intro hm
 simp only[qjE,List.mem_cons,List.not_mem_nil,or_false] at hm
 simp only[List.mem_cons,List.not_mem_nil,or_false] at h2
 rcases hm with rfl | rfl | rfl | rfl | rfl | rfl
 ·exact h2 .lt (by simp) (by decide)
 ·exact h2 .le (by simp) (by decide)
 ·exact h2 .gt (by simp) (by decide)
 ·exact h2 .ge (by simp) (by decide)
 ·exact h2 .eq (by simp) (by decide)
 ·exact h2 .ne (by simp) (by decide)
section
variable {s:ByteArray} {T:List Tk} {lv i i' i2:Nat} {e e':E} {a c:Int} {t:Tk} {r:List Tk}
theorem qpV (z:Z tP (.call 297 [.ptr 0 0,.int lv] (PS s T i 0 12))=some (.ret (qaX c) (PS s T i' a c))):Z tP (.call 292 [.ptr 0 0,.int lv] (PS s T i 0 12))=some (.ret (qaX c) (PS s T i' a c)):=by
 simp only[PS,pO] at z
 refine qac (pf:=F292) rfl rfl ?_
 simp[F292,z,qad,List.range_succ]
theorem qrr (z:Z tP (.call 297 [.ptr 0 0,.int lv] (PS s T i 0 12))=some (.ret e.node (PS s T i' 0 12))) (h:T.drop i'=t::r) (hb:t.bad=0) (hm:t.s∉qjE):Z tP (.call 292 [.ptr 0 0,.int lv] (PS s T i 0 12))=some (.ret e.node (PS s T i' 0 12)):=by
 have zi:=qay (s:=s) (a:=0) (c:=12) h hb (qae qjE true) (by decide) (by decide)
 simp only[PS,pO] at z
 simp only[hm,decide_false] at zi
 simp only[PS,pO,qjE,qa5,List.map_cons,List.map_nil,List.length_cons,List.length_nil] at zi
 refine qac (pf:=F292) rfl rfl ?_
 simp[F292,z,zi,List.range_succ]
theorem qrs (z:Z tP (.call 297 [.ptr 0 0,.int lv] (PS s T i 0 12))=some (.ret e.node (PS s T i' 0 12))) (h:T.drop i'=t::r) (hb:t.bad≠0):Z tP (.call 292 [.ptr 0 0,.int lv] (PS s T i 0 12))=some (.ret (qaX t.bad) (PS s T i' t.at_ t.bad)):=by
 have zi:=qeg (s:=s) (a:=0) (c:=12) h hb (qae qjE true)
 simp only[PS,pO] at z
 simp only[PS,pO,qjE,qa5,List.map_cons,List.map_nil,List.length_cons,List.length_nil] at zi
 refine qac (pf:=F292) rfl rfl ?_
 simp[F292,z,zi,qad,List.range_succ]
theorem qsk (hT:T.length<2 ^ 40) (z:Z tP (.call 297 [.ptr 0 0,.int lv] (PS s T i 0 12))=some (.ret e.node (PS s T i' 0 12))) (h:T.drop i'=t::r) (hb:t.bad=0) (hm:t.s∈qjE) {o:Bop} (hs:t.s=o.str)
  (z2:Z tP (.call 297 [.ptr 0 0,.int lv] (PS s T ((i'+1:Nat):Int) 0 12))=some (.ret e'.node (PS s T i2 0 12))):Z tP (.call 292 [.ptr 0 0,.int lv] (PS s T i 0 12))=some (.ret (E.bin true o e e').node (PS s T i2 0 12)):=by
 have zi:=qay (s:=s) (a:=0) (c:=12) h hb (qae qjE true) (by decide) (by decide)
 have zt:=qaw (s:=s) (a:=0) (c:=12) h hb hT
 have htx:=qah hb
 simp only[PS,pO] at z z2
 simp only[hm,decide_true] at zi
 simp only[PS,pO,qjE,qa5,List.map_cons,List.map_nil,List.length_cons,List.length_nil] at zi
 simp only[PS,pO,ptk,ptD,htx,hs] at zt
 simp only[Int.natCast_add,Int.cast_ofNat_Int] at z2 zt
 refine qac (pf:=F292) rfl rfl ?_
 simp[F292,z,zi,zt,z2,qco,qaS,qa8,qbs,qaT,still,V.same,List.range_succ]
 try rfl
theorem qpW (hT:T.length<2 ^ 40) (z:Z tP (.call 297 [.ptr 0 0,.int lv] (PS s T i 0 12))=some (.ret e.node (PS s T i' 0 12))) (h:T.drop i'=t::r) (hb:t.bad=0) (hm:t.s∈qjE)
  (z2:Z tP (.call 297 [.ptr 0 0,.int lv] (PS s T ((i'+1:Nat):Int) 0 12))=some (.ret (qaX c) (PS s T i2 a c))):Z tP (.call 292 [.ptr 0 0,.int lv] (PS s T i 0 12))=some (.ret (qaX c) (PS s T i2 a c)):=by
 have zi:=qay (s:=s) (a:=0) (c:=12) h hb (qae qjE true) (by decide) (by decide)
 have zt:=qaw (s:=s) (a:=0) (c:=12) h hb hT
 simp only[PS,pO] at z z2
 simp only[hm,decide_true] at zi
 simp only[PS,pO,qjE,qa5,List.map_cons,List.map_nil,List.length_cons,List.length_nil] at zi
 simp only[PS,pO,ptk,ptD] at zt
 simp only[Int.natCast_add,Int.cast_ofNat_Int] at z2 zt
 refine qac (pf:=F292) rfl rfl ?_
 simp[F292,z,zi,zt,z2,qad,qar,qco,qaS,qa8,qbs,qaT,still,V.same,List.range_succ]
theorem qpX (hw:WfQ T) (hT:T.length<2 ^ 40) {n:Nat} (ihe:ExK s T n) {x:Rz E} (hlv:lv<=20) (h:T.drop i=t::r) (hx:qal 12 2 true (n+1) 4 lv (t::r)=some x):Out s T (Z tP (.call 292 [.ptr 0 0,.int lv] (PS s T i 0 12))) x E.node:=by
 rw[qal,if_neg (by rintro (h | h); exact absurd h.1 (by decide); exact absurd h.1 (by decide)),if_pos (by decide)] at hx
 cases hq:qal 12 2 true n 5 lv (t::r) with
 | none=>rw[hq] at hx; cases hx
 | some y=>
  rw[hq] at hx
  have ho:=ihe 5 lv i t r y (by omega) (by omega) hlv h hq
  cases y with
  | er a c=>
   simp only[Option.some.injEq] at hx
   subst hx
   obtain⟨i',z⟩:=ho
   exact⟨i',qpV z⟩
  | ok e r'=>
   simp only at hx
   obtain⟨i',a1,a2,z⟩:=ho
   obtain⟨t2,r2,hr2⟩ : ∃ t2 r2,r'=t2::r2:=by cases r' with
    | nil=>exact absurd rfl a2
    | cons a b=>exact⟨a,b,rfl⟩
   subst hr2
   cases n with
   | zero=>simp only[qal] at hq; cases hq
   | succ m=>
    rw[qbX] at hx
    by_cases hb:t2.bad=0
    ·have hnx:nx (t2::r2)=some t2.s:=if_pos hb
     rw[hnx] at hx
     simp only at hx
     cases hop:qiD 4 t2.s with
     | none=>
      rw[hop] at hx
      cases hx
      exact⟨i',a1,a2,qrr z a1 hb (qms hop)⟩
     | some o=>
      rw[hop] at hx
      simp only[List.tail_cons,if_true] at hx
      obtain⟨q1,q2⟩:=qmr hop
      have hne:t2.s≠⟨#[]⟩:=fun e=>absurd (e ▸ q2) (by decide)
      obtain⟨n1,n2⟩:=hw.next a1 hb hne
      obtain⟨t3,r3,hr3⟩ : ∃ t3 r3,r2=t3::r3:=by cases r2 with
       | nil=>exact absurd rfl n2
       | cons a b=>exact⟨a,b,rfl⟩
      subst hr3
      cases hq2:qal 12 2 true m 5 lv (t3::r3) with
      | none=>rw[hq2] at hx; cases hx
      | some y2=>
       rw[hq2] at hx
       have ho2:=ihe 5 lv (i'+1) t3 r3 y2 (by omega) (by omega) hlv n1 (qaR hq2 (by omega))
       cases y2 with
       | er a c=>
        simp only[Option.some.injEq] at hx
        subst hx
        obtain⟨i2,z2⟩:=ho2
        exact⟨i2,qpW hT z a1 hb q2 z2⟩
       | ok e2 r4=>
        simp only[Option.some.injEq] at hx
        subst hx
        obtain⟨i2,d1,d2,z2⟩:=ho2
        exact⟨i2,d1,d2,qsk hT z a1 hb q2 q1 z2⟩
    ·have hnx:nx (t2::r2)=none:=if_neg hb
     rw[hnx] at hx
     simp only at hx
     rw[if_neg (by decide)] at hx
     simp only[qbG,if_neg hb,Option.some.injEq] at hx
     subst hx
     exact⟨i',qrs z a1 hb⟩
end
end Go.Pm
end SKo
section SKp
namespace Go.Pm
open F
set_option maxHeartbeats 4000000
attribute [local simp] qaU qbo dkey
theorem qlf {t:Tk} (hb:t.bad≠0) (r:List Tk) : ∀ (n p lv:Nat) (x:Rz E),qal 12 2 true n p lv (t::r)=some x->x = .er t.at_ t.bad
 | 0,p,lv,x,h=>by simp[qal] at h
 | n+1,p,lv,x,h=>by
  have hnx:nx (t::r)=none:=if_neg hb
  rw[qal,hnx,if_neg (by rintro (h | h); cases h.2; cases h.2)] at h
  by_cases hp:p<8
  ·rw[if_pos hp] at h
   cases hq:qal 12 2 true n (p+1) lv (t::r) with
   | none=>rw[hq] at h; cases h
   | some y=>
    have:=qlf hb r n (p+1) lv y hq
    rw[hq,this] at h
    simpa using h.symm
  ·rw[if_neg hp] at h
   simp only[qbG,if_neg hb,Option.some.injEq] at h
   exact h.symm
def unF (neg:Bool):Nat:=if neg then 308 else 290
def unG (neg:Bool):Nat:=if neg then 309 else 292
section
variable {s:ByteArray} {T:List Tk} {lv i i' i2:Nat} {e e':E} {a c:Int} {t:Tk} {r:List Tk} {neg:Bool}
theorem qsh (h:T.drop i=t::r) (hb:t.bad=0) (hm:t.s≠ustr neg) (z:Z tP (.call (unG neg) [.ptr 0 0,.int lv] (PS s T i 0 12))=some (.ret e.node (PS s T i' 0 12))):Z tP (.call (unF neg) [.ptr 0 0,.int lv] (PS s T i 0 12))=some (.ret e.node (PS s T i' 0 12)):=by
 have zi:=qay (s:=s) (a:=0) (c:=12) h hb (qae [ustr neg] true) (by simp) (by cases neg<;>decide)
 simp only[List.mem_singleton,hm,decide_false] at zi
 simp only[PS,pO] at z
 cases neg
 ·simp only[unG,Bool.false_eq_true,if_false] at z
  simp only[PS,pO,ustr,qa5,List.map_cons,List.map_nil,List.length_singleton,Bool.false_eq_true,if_false] at zi
  refine qac (pf:=F290) rfl rfl ?_
  simp[F290,z,zi,List.range_succ]
 ·simp only[unG,if_true] at z
  simp only[PS,pO,ustr,qa5,List.map_cons,List.map_nil,List.length_singleton,if_true] at zi
  refine qac (pf:=F308) rfl rfl ?_
  simp[F308,z,zi,List.range_succ]
theorem qnZ (h:T.drop i=t::r) (hb:t.bad=0) (hm:t.s≠ustr neg) (z:Z tP (.call (unG neg) [.ptr 0 0,.int lv] (PS s T i 0 12))=some (.ret (qaX c) (PS s T i' a c))):Z tP (.call (unF neg) [.ptr 0 0,.int lv] (PS s T i 0 12))=some (.ret (qaX c) (PS s T i' a c)):=by
 have zi:=qay (s:=s) (a:=0) (c:=12) h hb (qae [ustr neg] true) (by simp) (by cases neg<;>decide)
 simp only[List.mem_singleton,hm,decide_false] at zi
 simp only[PS,pO] at z
 cases neg
 ·simp only[unG,Bool.false_eq_true,if_false] at z
  simp only[PS,pO,ustr,qa5,List.map_cons,List.map_nil,List.length_singleton,Bool.false_eq_true,if_false] at zi
  refine qac (pf:=F290) rfl rfl ?_
  simp[F290,z,zi,qad,List.range_succ]
 ·simp only[unG,if_true] at z
  simp only[PS,pO,ustr,qa5,List.map_cons,List.map_nil,List.length_singleton,if_true] at zi
  refine qac (pf:=F308) rfl rfl ?_
  simp[F308,z,zi,qad,List.range_succ]
theorem qri (h:T.drop i=t::r) (hb:t.bad≠0):Z tP (.call (unF neg) [.ptr 0 0,.int lv] (PS s T i 0 12))=some (.ret (qaX t.bad) (PS s T i t.at_ t.bad)):=by
 have zi:=qeg (s:=s) (a:=0) (c:=12) h hb (qae [ustr neg] true)
 cases neg
 ·simp only[PS,pO,ustr,qa5,List.map_cons,List.map_nil,List.length_singleton,Bool.false_eq_true,if_false] at zi
  refine qac (pf:=F290) rfl rfl ?_
  simp[F290,zi,qad,List.range_succ]
 ·simp only[PS,pO,ustr,qa5,List.map_cons,List.map_nil,List.length_singleton,if_true] at zi
  refine qac (pf:=F308) rfl rfl ?_
  simp[F308,zi,qad,List.range_succ]
theorem qpL (hlv:lv<=20) (h:T.drop i=t::r) (hb:t.bad=0) (hm:t.s=ustr neg) (zo:Z tP (.call 270 [.ptr 0 0,.str (ustr neg),.int ((lv+1:Nat):Int)] (PS s T i 0 12))=some (.ret (qaX c) (PS s T i' a c))):Z tP (.call (unF neg) [.ptr 0 0,.int lv] (PS s T i 0 12))=some (.ret (qaX c) (PS s T i' a c)):=by
 have zi:=qay (s:=s) (a:=0) (c:=12) h hb (qae [ustr neg] true) (by simp) (by cases neg<;>decide)
 have w1:=qak ((lv:Int)+1) (by omega)
 simp only[List.mem_singleton,hm,decide_true] at zi
 simp only[PS,pO] at zo
 simp only[Int.natCast_add,Int.cast_ofNat_Int] at zo
 cases neg
 ·simp only[PS,pO,ustr,qa5,List.map_cons,List.map_nil,List.length_singleton,Bool.false_eq_true,if_false] at zi zo
  refine qac (pf:=F290) rfl rfl ?_
  simp[F290,zo,zi,w1,qad,List.range_succ]
 ·simp only[PS,pO,ustr,qa5,List.map_cons,List.map_nil,List.length_singleton,if_true] at zi zo
  refine qac (pf:=F308) rfl rfl ?_
  simp[F308,zo,zi,w1,qad,List.range_succ]
theorem qrj (hlv:lv<=20) (h:T.drop i=t::r) (hb:t.bad=0) (hm:t.s=ustr neg) (zo:Z tP (.call 270 [.ptr 0 0,.str (ustr neg),.int ((lv+1:Nat):Int)] (PS s T i 0 12))=some (.ret (.tup []) (PS s T i' 0 12)))
  (z:Z tP (.call (unF neg) [.ptr 0 0,.int ((lv+1:Nat):Int)] (PS s T i' 0 12))=some (.ret (qaX c) (PS s T i2 a c))):Z tP (.call (unF neg) [.ptr 0 0,.int lv] (PS s T i 0 12))=some (.ret (qaX c) (PS s T i2 a c)):=by
 have zi:=qay (s:=s) (a:=0) (c:=12) h hb (qae [ustr neg] true) (by simp) (by cases neg<;>decide)
 have w1:=qak ((lv:Int)+1) (by omega)
 simp only[List.mem_singleton,hm,decide_true] at zi
 simp only[PS,pO] at zo z
 simp only[Int.natCast_add,Int.cast_ofNat_Int] at zo z
 cases neg
 ·simp only[PS,pO,unF,ustr,qa5,List.map_cons,List.map_nil,List.length_singleton,Bool.false_eq_true,if_false] at zi zo z
  refine qac (pf:=F290) rfl rfl ?_
  simp[F290,zo,zi,z,w1,qad,List.range_succ]
 ·simp only[PS,pO,unF,ustr,qa5,List.map_cons,List.map_nil,List.length_singleton,if_true] at zi zo z
  refine qac (pf:=F308) rfl rfl ?_
  simp[F308,zo,zi,z,w1,qad,List.range_succ]
theorem qsi (hlv:lv<=20) (h:T.drop i=t::r) (hb:t.bad=0) (hm:t.s=ustr neg) (zo:Z tP (.call 270 [.ptr 0 0,.str (ustr neg),.int ((lv+1:Nat):Int)] (PS s T i 0 12))=some (.ret (.tup []) (PS s T i' 0 12)))
  (z:Z tP (.call (unF neg) [.ptr 0 0,.int ((lv+1:Nat):Int)] (PS s T i' 0 12))=some (.ret e.node (PS s T i2 0 12))):Z tP (.call (unF neg) [.ptr 0 0,.int lv] (PS s T i 0 12))=some (.ret (E.un true neg e).node (PS s T i2 0 12)):=by
 have zi:=qay (s:=s) (a:=0) (c:=12) h hb (qae [ustr neg] true) (by simp) (by cases neg<;>decide)
 have w1:=qak ((lv:Int)+1) (by omega)
 simp only[List.mem_singleton,hm,decide_true] at zi
 simp only[PS,pO] at zo z
 simp only[Int.natCast_add,Int.cast_ofNat_Int] at zo z
 cases neg
 ·simp only[PS,pO,unF,ustr,qa5,List.map_cons,List.map_nil,List.length_singleton,Bool.false_eq_true,if_false] at zi zo z
  refine qac (pf:=F290) rfl rfl ?_
  simp[F290,zo,zi,z,w1,List.range_succ]
  rfl
 ·simp only[PS,pO,unF,ustr,qa5,List.map_cons,List.map_nil,List.length_singleton,if_true] at zi zo z
  refine qac (pf:=F308) rfl rfl ?_
  simp[F308,zo,zi,z,w1,List.range_succ]
  rfl
end
end Go.Pm
end SKp
section SKq
namespace Go.Pm
open F
set_option maxHeartbeats 2000000
theorem qhj {α : Type} {c:Nat} {ts:List Tk} {a : α} {r:List Tk} (h:qbG (α := α) c ts = .ok a r):False:=by
 cases ts<;>simp[qbG] at h
theorem qhk {x:ByteArray} {lv:Nat} {ts r:List Tk} {u:Unit} (h:qcT 12 2 x lv ts = .ok u r):lv<=20:=by
 by_cases h20:20<lv
 ·rw[qcT] at h
  by_cases hn:nx ts=some x
  ·rw[if_pos ⟨hn,h20⟩] at h
   exact (qhj h).elim
  ·rw[if_neg (fun e=>hn e.1)] at h
   cases ts with
   | nil=>rw[qaB] at h; exact (qhj h).elim
   | cons t r'=>
    simp only[qaB] at h
    by_cases hc:t.bad=0/\t.s=x
    ·exact absurd (show nx (t::r')=some x by rw[nx,if_pos hc.1,hc.2]) hn
    ·rw[if_neg hc] at h
     exact (qhj h).elim
 ·omega
section
variable {s:ByteArray} {T:List Tk} {lv i:Nat} {t:Tk} {r:List Tk}
theorem qaI {α : Type} {l:List α} (h:l≠[]) : ∃ a r,l=a::r:=by
 cases l with
 | nil=>exact absurd rfl h
 | cons a b=>exact⟨a,b,rfl⟩
theorem qpl (hw:WfQ T) (hT:T.length<2 ^ 40) {n:Nat} (ihe:ExK s T n) {p:Nat} {neg:Bool} (hp:p=3/\neg=false\/p=7/\neg=true) {x:Rz E} (hlv:lv<=20) (h:T.drop i=t::r) (hx:qal 12 2 true (n+1) p lv (t::r)=some x):Out s T (Z tP (.call (unF neg) [.ptr 0 0,.int lv] (PS s T i 0 12))) x E.node:=by
 have hF:fnP p=unF neg:=by rcases hp with ⟨rfl,rfl⟩ | ⟨rfl,rfl⟩<;>rfl
 have hG:fnP (p+1)=unG neg:=by rcases hp with ⟨rfl,rfl⟩ | ⟨rfl,rfl⟩<;>rfl
 have hp8:p<8/\1<=p:=by rcases hp with ⟨rfl,_⟩ | ⟨rfl,_⟩<;>omega
 by_cases hb:t.bad=0
 ·have hnx:nx (t::r)=some t.s:=if_pos hb
  by_cases hm:t.s=ustr neg
  ·have hcond:p=3/\nx (t::r)=some (ustr false)\/p=7/\nx (t::r)=some (ustr true):=by
    rw[hnx,hm]
    rcases hp with ⟨rfl,rfl⟩ | ⟨rfl,rfl⟩
    ·exact .inl ⟨rfl,rfl⟩
    ·exact .inr ⟨rfl,rfl⟩
   have h7:(p==7)=neg:=by rcases hp with ⟨rfl,rfl⟩ | ⟨rfl,rfl⟩<;>rfl
   rw[qal,if_pos hcond,h7] at hx
   have ho:=qfr (s:=s) hw hT h (x:=ustr neg) (by cases neg<;>decide) (lv:=lv+1)
   cases hq:qcT 12 2 (ustr neg) (lv+1) (t::r) with
   | er a c=>
    rw[hq] at hx ho
    simp only[Option.some.injEq] at hx
    subst hx
    obtain⟨i',z⟩:=ho
    exact⟨i',qpL hlv h hb hm z⟩
   | ok u r1=>
    have hl1:=qhk hq
    rw[hq] at hx ho
    simp only at hx
    obtain⟨i',a1,a2,z⟩:=ho
    obtain⟨t1,r2,rfl⟩:=qaI a2
    cases hq2:qal 12 2 true n p (lv+1) (t1::r2) with
    | none=>rw[hq2] at hx; cases hx
    | some y=>
     rw[hq2] at hx
     have h2:=ihe p (lv+1) i' t1 r2 y hp8.2 (by omega) hl1 a1 hq2
     rw[hF] at h2
     cases y with
     | er a c=>
      simp only[Option.some.injEq] at hx
      subst hx
      obtain⟨i2,z2⟩:=h2
      exact⟨i2,qrj hlv h hb hm z z2⟩
     | ok e r3=>
      simp only[Option.some.injEq] at hx
      subst hx
      obtain⟨i2,b1,b2,z2⟩:=h2
      exact⟨i2,b1,b2,qsi hlv h hb hm z z2⟩
  ·have hcond : ¬ (p=3/\nx (t::r)=some (ustr false)\/p=7/\nx (t::r)=some (ustr true)):=by
    rw[hnx]
    rcases hp with ⟨rfl,rfl⟩ | ⟨rfl,rfl⟩
    ·rintro (⟨_,h⟩ | ⟨h,_⟩)
     ·exact hm (Option.some.inj h)
     ·cases h
    ·rintro (⟨h,_⟩ | ⟨_,h⟩)
     ·cases h
     ·exact hm (Option.some.inj h)
   rw[qal,if_neg hcond,if_pos hp8.1] at hx
   cases hq:qal 12 2 true n (p+1) lv (t::r) with
   | none=>rw[hq] at hx; cases hx
   | some y=>
    rw[hq] at hx
    have h2:=ihe (p+1) lv i t r y (by omega) (by omega) hlv h hq
    rw[hG] at h2
    cases y with
    | er a c=>
     simp only[Option.some.injEq] at hx
     subst hx
     obtain⟨i2,z2⟩:=h2
     exact⟨i2,qnZ h hb hm z2⟩
    | ok e r3=>
     simp only at hx
     obtain⟨i2,b1,b2,z2⟩:=h2
     cases n with
     | zero=>simp only[qal] at hq; cases hq
     | succ m=>
      have hxx:x = .ok e r3:=by
       rw[qbX] at hx
       cases hn3:nx r3 with
       | none=>
        rw[hn3] at hx
        simp only at hx
        rw[if_pos (by rcases hp with ⟨rfl,_⟩ | ⟨rfl,_⟩; exact .inl rfl; exact .inr rfl)] at hx
        exact (Option.some.inj hx).symm
       | some y=>
        rw[hn3] at hx
        have hop:qiD p y=none:=by rcases hp with ⟨rfl,_⟩ | ⟨rfl,_⟩<;>rfl
        simp only[hop] at hx
        exact (Option.some.inj hx).symm
      subst hxx
      exact⟨i2,b1,b2,qsh h hb hm z2⟩
 ·have:=qlf hb r (n+1) p lv x hx
  subst this
  exact⟨i,qri h hb⟩
end
end Go.Pm
end SKq
section SKr
namespace Go.Pm
open F
set_option maxHeartbeats 4000000
attribute [local simp] qaU qbo dkey
def qcK:ByteArray:=⟨#[116,114,117,101]⟩
def qbS:ByteArray:=⟨#[102,97,108,115,101]⟩
def qcR:List ByteArray:=[⟨#[115,101,108,102]⟩,⟨#[111,116,104,101,114]⟩,⟨#[116,105,99,107]⟩]
section
variable {s:ByteArray} {T:List Tk} {lv i i' i2 i3:Nat} {e e':E} {a c:Int} {t:Tk} {r:List Tk}
theorem qqP (h:T.drop i=t::r) (hb:t.bad≠0):Z tP (.call 309 [.ptr 0 0,.int lv] (PS s T i 0 12))=some (.ret (qaX t.bad) (PS s T i t.at_ t.bad)):=by
 have zp:=qdq (s:=s) (a:=0) (c:=12) h hb
 simp only[PS,pO] at zp
 refine qac (pf:=F309) rfl rfl ?_
 simp[F309,zp,qad,List.range_succ]
theorem qqQ (hT:T.length<2 ^ 40) (h:T.drop i=t::r) (hb:t.bad=0) (hk:kindT t=4):Z tP (.call 309 [.ptr 0 0,.int lv] (PS s T i 0 12))=some (.ret (E.int (valT t)).node (PS s T ((i+1:Nat):Int) 0 12)):=by
 have zp:=qao (s:=s) (a:=0) (c:=12) h hb
 have zt:=qaw (s:=s) (a:=0) (c:=12) h hb hT
 simp only[PS,pO,ptk,ptD,hk] at zp zt
 refine qac (pf:=F309) rfl rfl ?_
 simp[F309,zp,zt,List.range_succ]
 try rfl
theorem qqR (hT:T.length<2 ^ 40) (h:T.drop i=t::r) (hb:t.bad=0) (hk:kindT t=1):Z tP (.call 309 [.ptr 0 0,.int lv] (PS s T i 0 12))=some (.ret (E.var t.s).node (PS s T ((i+1:Nat):Int) 0 12)):=by
 have zp:=qao (s:=s) (a:=0) (c:=12) h hb
 have zt:=qaw (s:=s) (a:=0) (c:=12) h hb hT
 simp only[PS,pO,ptk,ptD,hk,qah hb] at zp zt
 refine qac (pf:=F309) rfl rfl ?_
 simp[F309,zp,zt,List.range_succ]
 try rfl
theorem qqS (h:T.drop i=t::r) (hb:t.bad=0) (hk:kindT t=3) (z:Z tP (.call 280 [.ptr 0 0,.int lv] (PS s T i 0 12))=some (.ret e.node (PS s T i' 0 12))):Z tP (.call 309 [.ptr 0 0,.int lv] (PS s T i 0 12))=some (.ret (E.field true t.s e).node (PS s T i' 0 12)):=by
 have zp:=qao (s:=s) (a:=0) (c:=12) h hb
 simp only[PS,pO,ptk,ptD,hk,qah hb] at zp z
 refine qac (pf:=F309) rfl rfl ?_
 simp[F309,zp,z,qco,qaS,qa8,qbs,qaT,still,V.same,List.range_succ]
 try rfl
theorem qlG (h:T.drop i=t::r) (hb:t.bad=0) (hk:kindT t=3) (z:Z tP (.call 280 [.ptr 0 0,.int lv] (PS s T i 0 12))=some (.ret (qaX c) (PS s T i' a c))):Z tP (.call 309 [.ptr 0 0,.int lv] (PS s T i 0 12))=some (.ret (qaX c) (PS s T i' a c)):=by
 have zp:=qao (s:=s) (a:=0) (c:=12) h hb
 simp only[PS,pO,ptk,ptD,hk,qah hb] at zp z
 refine qac (pf:=F309) rfl rfl ?_
 simp[F309,zp,z,qad,qar,qco,qaS,qa8,qbs,qaT,still,V.same,List.range_succ]
theorem qoN (hT:T.length<2 ^ 40) (h:T.drop i=t::r) (hb:t.bad=0) (hk:kindT t=2) (hm:t.s=qcK):Z tP (.call 309 [.ptr 0 0,.int lv] (PS s T i 0 12))=some (.ret (E.bool 1).node (PS s T ((i+1:Nat):Int) 0 12)):=by
 have zp:=qao (s:=s) (a:=0) (c:=12) h hb
 have zt:=qaw (s:=s) (a:=0) (c:=12) h hb hT
 have z1:=qay (s:=s) (a:=0) (c:=12) h hb (qae [qcK] true) (by simp) (by decide)
 simp only[hm,List.mem_singleton,decide_true] at z1
 simp only[PS,pO,ptk,ptD,hk] at zp zt
 simp only[PS,pO,qcK,qa5,List.map_cons,List.map_nil,List.length_singleton] at z1
 refine qac (pf:=F309) rfl rfl ?_
 simp[F309,zp,zt,z1,List.range_succ]
 try rfl
theorem qm5 (hT:T.length<2 ^ 40) (h:T.drop i=t::r) (hb:t.bad=0) (hk:kindT t=2) (hm:t.s=qbS):Z tP (.call 309 [.ptr 0 0,.int lv] (PS s T i 0 12))=some (.ret (E.bool 0).node (PS s T ((i+1:Nat):Int) 0 12)):=by
 have zp:=qao (s:=s) (a:=0) (c:=12) h hb
 have zt:=qaw (s:=s) (a:=0) (c:=12) h hb hT
 have z1:=qay (s:=s) (a:=0) (c:=12) h hb (qae [qcK] true) (by simp) (by decide)
 have z2:=qay (s:=s) (a:=0) (c:=12) h hb (qae [qbS] true) (by simp) (by decide)
 have hne:qbS≠qcK:=by decide
 simp only[hm,List.mem_singleton,hne,decide_false,decide_true] at z1 z2
 simp only[PS,pO,ptk,ptD,hk] at zp zt
 simp only[PS,pO,qcK,qbS,qa5,List.map_cons,List.map_nil,List.length_singleton] at z1 z2
 refine qac (pf:=F309) rfl rfl ?_
 simp[F309,zp,zt,z1,z2,List.range_succ]
 try rfl
theorem qoO (hT:T.length<2 ^ 40) (h:T.drop i=t::r) (hb:t.bad=0) (hk:kindT t=2) (hm:t.s∈qcR):Z tP (.call 309 [.ptr 0 0,.int lv] (PS s T i 0 12))=some (.ret (E.name t.s).node (PS s T ((i+1:Nat):Int) 0 12)):=by
 have zp:=qao (s:=s) (a:=0) (c:=12) h hb
 have zt:=qaw (s:=s) (a:=0) (c:=12) h hb hT
 have z1:=qay (s:=s) (a:=0) (c:=12) h hb (qae [qcK] true) (by simp) (by decide)
 have z2:=qay (s:=s) (a:=0) (c:=12) h hb (qae [qbS] true) (by simp) (by decide)
 have z3:=qay (s:=s) (a:=0) (c:=12) h hb (qae qcR true) (by decide) (by decide)
 have n1:t.s≠qcK:=fun e=>absurd (e ▸ hm) (by decide)
 have n2:t.s≠qbS:=fun e=>absurd (e ▸ hm) (by decide)
 simp only[hm,List.mem_singleton,n1,n2,decide_false,decide_true] at z1 z2 z3
 simp only[PS,pO,ptk,ptD,hk,qah hb] at zp zt
 simp only[PS,pO,qcK,qbS,qcR,qa5,List.map_cons,List.map_nil,List.length_cons,List.length_nil] at z1 z2 z3
 refine qac (pf:=F309) rfl rfl ?_
 simp[F309,zp,zt,z1,z2,z3,List.range_succ]
 try rfl
end
end Go.Pm
end SKr
section SKs
namespace Go.Pm
open F
set_option maxHeartbeats 4000000
attribute [local simp] qaU qbo dkey
section
variable {s:ByteArray} {T:List Tk} {lv i i' i2 i3:Nat} {e:E} {a c:Int} {t:Tk} {r:List Tk}
theorem qnP (hlv:lv<=20) (h:T.drop i=t::r) (hb:t.bad=0) (h4:decide (kindT t=4)=false) (h1:decide (kindT t=1)=false) (h3:decide (kindT t=3)=false) (n1:t.s≠qcK) (n2:t.s≠qbS) (n3:t.s∉qcR)
  (zo:Z tP (.call 270 [.ptr 0 0,.str ⟨#[40]⟩,.int ((lv+1:Nat):Int)] (PS s T i 0 12))=some (.ret (qaX c) (PS s T i' a c))):Z tP (.call 309 [.ptr 0 0,.int lv] (PS s T i 0 12))=some (.ret (qaX c) (PS s T i' a c)):=by
 have w1:=qak ((lv:Int)+1) (by omega)
 have zp:=qao (s:=s) (a:=0) (c:=12) h hb
 have z1:=qay (s:=s) (a:=0) (c:=12) h hb (qae [qcK] true) (by simp) (by decide)
 have z2:=qay (s:=s) (a:=0) (c:=12) h hb (qae [qbS] true) (by simp) (by decide)
 have z3:=qay (s:=s) (a:=0) (c:=12) h hb (qae qcR true) (by decide) (by decide)
 simp only[List.mem_singleton,n1,n2,n3,decide_false] at z1 z2 z3
 simp only[PS,pO,ptk,ptD,qah hb] at zp
 simp only[PS,pO,qcK,qbS,qcR,qa5,List.map_cons,List.map_nil,List.length_cons,List.length_nil] at z1 z2 z3
 simp only[PS,pO] at zo
 simp only[Int.natCast_add,Int.cast_ofNat_Int] at zo
 refine qac (pf:=F309) rfl rfl ?_
 simp[F309,zp,z1,z2,z3,h4,h1,h3,w1,zo,qad,List.range_succ]
theorem qnQ (hlv:lv<=20) (h:T.drop i=t::r) (hb:t.bad=0) (h4:decide (kindT t=4)=false) (h1:decide (kindT t=1)=false) (h3:decide (kindT t=3)=false) (n1:t.s≠qcK) (n2:t.s≠qbS) (n3:t.s∉qcR)
  (zo:Z tP (.call 270 [.ptr 0 0,.str ⟨#[40]⟩,.int ((lv+1:Nat):Int)] (PS s T i 0 12))=some (.ret (.tup []) (PS s T i' 0 12)))
  (ze:Z tP (.call 279 [.ptr 0 0,.int ((lv+1:Nat):Int)] (PS s T i' 0 12))=some (.ret (qaX c) (PS s T i2 a c))):Z tP (.call 309 [.ptr 0 0,.int lv] (PS s T i 0 12))=some (.ret (qaX c) (PS s T i2 a c)):=by
 have w1:=qak ((lv:Int)+1) (by omega)
 have zp:=qao (s:=s) (a:=0) (c:=12) h hb
 have z1:=qay (s:=s) (a:=0) (c:=12) h hb (qae [qcK] true) (by simp) (by decide)
 have z2:=qay (s:=s) (a:=0) (c:=12) h hb (qae [qbS] true) (by simp) (by decide)
 have z3:=qay (s:=s) (a:=0) (c:=12) h hb (qae qcR true) (by decide) (by decide)
 simp only[List.mem_singleton,n1,n2,n3,decide_false] at z1 z2 z3
 simp only[PS,pO,ptk,ptD,qah hb] at zp
 simp only[PS,pO,qcK,qbS,qcR,qa5,List.map_cons,List.map_nil,List.length_cons,List.length_nil] at z1 z2 z3
 simp only[PS,pO] at zo ze
 simp only[Int.natCast_add,Int.cast_ofNat_Int] at zo ze
 refine qac (pf:=F309) rfl rfl ?_
 simp[F309,zp,z1,z2,z3,h4,h1,h3,w1,zo,ze,qad,List.range_succ]
theorem qnR (hlv:lv<=20) (h:T.drop i=t::r) (hb:t.bad=0) (h4:decide (kindT t=4)=false) (h1:decide (kindT t=1)=false) (h3:decide (kindT t=3)=false) (n1:t.s≠qcK) (n2:t.s≠qbS) (n3:t.s∉qcR)
  (zo:Z tP (.call 270 [.ptr 0 0,.str ⟨#[40]⟩,.int ((lv+1:Nat):Int)] (PS s T i 0 12))=some (.ret (.tup []) (PS s T i' 0 12)))
  (ze:Z tP (.call 279 [.ptr 0 0,.int ((lv+1:Nat):Int)] (PS s T i' 0 12))=some (.ret e.node (PS s T i2 0 12)))
  (zc:Z tP (.call 253 [.ptr 0 0,.str ⟨#[41]⟩] (PS s T i2 0 12))=some (.ret (qaX c) (PS s T i3 a c))):Z tP (.call 309 [.ptr 0 0,.int lv] (PS s T i 0 12))=some (.ret (qaX c) (PS s T i3 a c)):=by
 have w1:=qak ((lv:Int)+1) (by omega)
 have zp:=qao (s:=s) (a:=0) (c:=12) h hb
 have z1:=qay (s:=s) (a:=0) (c:=12) h hb (qae [qcK] true) (by simp) (by decide)
 have z2:=qay (s:=s) (a:=0) (c:=12) h hb (qae [qbS] true) (by simp) (by decide)
 have z3:=qay (s:=s) (a:=0) (c:=12) h hb (qae qcR true) (by decide) (by decide)
 simp only[List.mem_singleton,n1,n2,n3,decide_false] at z1 z2 z3
 simp only[PS,pO,ptk,ptD,qah hb] at zp
 simp only[PS,pO,qcK,qbS,qcR,qa5,List.map_cons,List.map_nil,List.length_cons,List.length_nil] at z1 z2 z3
 simp only[PS,pO] at zo ze zc
 simp only[Int.natCast_add,Int.cast_ofNat_Int] at zo ze
 refine qac (pf:=F309) rfl rfl ?_
 simp[F309,zp,z1,z2,z3,h4,h1,h3,w1,zo,ze,zc,qad,List.range_succ]
theorem qra (hlv:lv<=20) (h:T.drop i=t::r) (hb:t.bad=0) (h4:decide (kindT t=4)=false) (h1:decide (kindT t=1)=false) (h3:decide (kindT t=3)=false) (n1:t.s≠qcK) (n2:t.s≠qbS) (n3:t.s∉qcR)
  (zo:Z tP (.call 270 [.ptr 0 0,.str ⟨#[40]⟩,.int ((lv+1:Nat):Int)] (PS s T i 0 12))=some (.ret (.tup []) (PS s T i' 0 12)))
  (ze:Z tP (.call 279 [.ptr 0 0,.int ((lv+1:Nat):Int)] (PS s T i' 0 12))=some (.ret e.node (PS s T i2 0 12)))
  (zc:Z tP (.call 253 [.ptr 0 0,.str ⟨#[41]⟩] (PS s T i2 0 12))=some (.ret (.tup []) (PS s T i3 0 12))):Z tP (.call 309 [.ptr 0 0,.int lv] (PS s T i 0 12))=some (.ret e.node (PS s T i3 0 12)):=by
 have w1:=qak ((lv:Int)+1) (by omega)
 have zp:=qao (s:=s) (a:=0) (c:=12) h hb
 have z1:=qay (s:=s) (a:=0) (c:=12) h hb (qae [qcK] true) (by simp) (by decide)
 have z2:=qay (s:=s) (a:=0) (c:=12) h hb (qae [qbS] true) (by simp) (by decide)
 have z3:=qay (s:=s) (a:=0) (c:=12) h hb (qae qcR true) (by decide) (by decide)
 simp only[List.mem_singleton,n1,n2,n3,decide_false] at z1 z2 z3
 simp only[PS,pO,ptk,ptD,qah hb] at zp
 simp only[PS,pO,qcK,qbS,qcR,qa5,List.map_cons,List.map_nil,List.length_cons,List.length_nil] at z1 z2 z3
 simp only[PS,pO] at zo ze zc
 simp only[Int.natCast_add,Int.cast_ofNat_Int] at zo ze
 refine qac (pf:=F309) rfl rfl ?_
 simp[F309,zp,z1,z2,z3,h4,h1,h3,w1,zo,ze,zc,qad,List.range_succ]
theorem qnS (hlv:lv<=20) (hT:T.length<2 ^ 40) (h:T.drop i=t::r) (hb:t.bad=0)
  (zo:Z tP (.call 270 [.ptr 0 0,.str ⟨#[91]⟩,.int ((lv+1:Nat):Int)] (PS s T ((i+1:Nat):Int) 0 12))=some (.ret (qaX c) (PS s T i' a c))):Z tP (.call 280 [.ptr 0 0,.int lv] (PS s T i 0 12))=some (.ret (qaX c) (PS s T i' a c)):=by
 have w1:=qak ((lv:Int)+1) (by omega)
 have zt:=qaw (s:=s) (a:=0) (c:=12) h hb hT
 simp only[PS,pO,ptk,ptD] at zt
 simp only[Int.natCast_add,Int.cast_ofNat_Int] at zt
 simp only[PS,pO] at zo
 simp only[Int.natCast_add,Int.cast_ofNat_Int] at zo
 refine qac (pf:=F280) rfl rfl ?_
 simp[F280,zt,w1,zo,qad,List.range_succ]
theorem qnT (hlv:lv<=20) (hT:T.length<2 ^ 40) (h:T.drop i=t::r) (hb:t.bad=0)
  (zo:Z tP (.call 270 [.ptr 0 0,.str ⟨#[91]⟩,.int ((lv+1:Nat):Int)] (PS s T ((i+1:Nat):Int) 0 12))=some (.ret (.tup []) (PS s T i' 0 12)))
  (ze:Z tP (.call 279 [.ptr 0 0,.int ((lv+1:Nat):Int)] (PS s T i' 0 12))=some (.ret (qaX c) (PS s T i2 a c))):Z tP (.call 280 [.ptr 0 0,.int lv] (PS s T i 0 12))=some (.ret (qaX c) (PS s T i2 a c)):=by
 have w1:=qak ((lv:Int)+1) (by omega)
 have zt:=qaw (s:=s) (a:=0) (c:=12) h hb hT
 simp only[PS,pO,ptk,ptD] at zt
 simp only[Int.natCast_add,Int.cast_ofNat_Int] at zt
 simp only[PS,pO] at zo ze
 simp only[Int.natCast_add,Int.cast_ofNat_Int] at zo ze
 refine qac (pf:=F280) rfl rfl ?_
 simp[F280,zt,w1,zo,ze,qad,List.range_succ]
theorem qnU (hlv:lv<=20) (hT:T.length<2 ^ 40) (h:T.drop i=t::r) (hb:t.bad=0)
  (zo:Z tP (.call 270 [.ptr 0 0,.str ⟨#[91]⟩,.int ((lv+1:Nat):Int)] (PS s T ((i+1:Nat):Int) 0 12))=some (.ret (.tup []) (PS s T i' 0 12)))
  (ze:Z tP (.call 279 [.ptr 0 0,.int ((lv+1:Nat):Int)] (PS s T i' 0 12))=some (.ret e.node (PS s T i2 0 12)))
  (zc:Z tP (.call 253 [.ptr 0 0,.str ⟨#[93]⟩] (PS s T i2 0 12))=some (.ret (qaX c) (PS s T i3 a c))):Z tP (.call 280 [.ptr 0 0,.int lv] (PS s T i 0 12))=some (.ret (qaX c) (PS s T i3 a c)):=by
 have w1:=qak ((lv:Int)+1) (by omega)
 have zt:=qaw (s:=s) (a:=0) (c:=12) h hb hT
 simp only[PS,pO,ptk,ptD] at zt
 simp only[Int.natCast_add,Int.cast_ofNat_Int] at zt
 simp only[PS,pO] at zo ze zc
 simp only[Int.natCast_add,Int.cast_ofNat_Int] at zo ze
 refine qac (pf:=F280) rfl rfl ?_
 simp[F280,zt,w1,zo,ze,zc,qad,List.range_succ]
theorem qrb (hlv:lv<=20) (hT:T.length<2 ^ 40) (h:T.drop i=t::r) (hb:t.bad=0)
  (zo:Z tP (.call 270 [.ptr 0 0,.str ⟨#[91]⟩,.int ((lv+1:Nat):Int)] (PS s T ((i+1:Nat):Int) 0 12))=some (.ret (.tup []) (PS s T i' 0 12)))
  (ze:Z tP (.call 279 [.ptr 0 0,.int ((lv+1:Nat):Int)] (PS s T i' 0 12))=some (.ret e.node (PS s T i2 0 12)))
  (zc:Z tP (.call 253 [.ptr 0 0,.str ⟨#[93]⟩] (PS s T i2 0 12))=some (.ret (.tup []) (PS s T i3 0 12))):Z tP (.call 280 [.ptr 0 0,.int lv] (PS s T i 0 12))=some (.ret e.node (PS s T i3 0 12)):=by
 have w1:=qak ((lv:Int)+1) (by omega)
 have zt:=qaw (s:=s) (a:=0) (c:=12) h hb hT
 simp only[PS,pO,ptk,ptD] at zt
 simp only[Int.natCast_add,Int.cast_ofNat_Int] at zt
 simp only[PS,pO] at zo ze zc
 simp only[Int.natCast_add,Int.cast_ofNat_Int] at zo ze
 refine qac (pf:=F280) rfl rfl ?_
 simp[F280,zt,w1,zo,ze,zc,qad,List.range_succ]
end
end Go.Pm
end SKs
section SKt
namespace Go.Pm
open F
set_option maxHeartbeats 2000000
def qfP (w:ByteArray):Int:=if w=⟨#[]⟩ then 0 else if qaC qaQ w then (if w∈fieldNames then 3 else if w∈wordNames then 2 else 1) else if qaC qap w then 4 else 5
theorem qbz {t:Tk} (hb:t.bad=0):kindT t=qfP t.s:=by unfold kindT qfP; rw[if_neg (by simp[hb])]
theorem qkQ (w:ByteArray):qaC qap w=true->w≠⟨#[]⟩/\qaC qaQ w=false:=by
 rw[qb1,qb1]
 intro h
 refine⟨?_,?_⟩
 ·rintro rfl
  exact absurd h (by decide)
 ·cases hh:(byl w).head? with
  | none=>rfl
  | some c=>
   rw[hh] at h
   simp only at h ⊢
   by_cases hl:qaQ c=true
   ·rw[qkK hl] at h; cases h
   ·simpa using hl
theorem qeB {w:ByteArray} (h:qaC qaQ w=true):w≠⟨#[]⟩:=by
 rintro rfl
 exact absurd h (by decide)
section
variable (s:ByteArray) (T:List Tk)
def IdK (n:Nat):Prop := ∀ (lv i:Nat) (t:Tk) (r:List Tk) (x:Rz E),lv<=20->T.drop i=t::r->t.bad=0->t.s≠⟨#[]⟩->qbC 12 2 true n lv r=some x->Out s T (Z tP (.call 280 [.ptr 0 0,.int lv] (PS s T i 0 12))) x E.node
variable {s:ByteArray} {T:List Tk}
theorem qnx (hw:WfQ T) (hT:T.length<2 ^ 40) {n:Nat} (ihe:ExK s T n):IdK s T (n+1):=by
 intro lv i t r x hlv h hb hs hx
 obtain⟨n1,n2⟩:=hw.next h hb hs
 obtain⟨t1,r1,rfl⟩:=qaI n2
 rw[qbC] at hx
 have ho:=qfr (s:=s) hw hT n1 (x:=bs [91]) (by decide) (lv:=lv+1)
 cases hq:qcT 12 2 (bs [91]) (lv+1) (t1::r1) with
 | er a c=>
  rw[hq] at hx ho
  simp only[Option.some.injEq] at hx
  subst hx
  obtain⟨i',z⟩:=ho
  exact⟨i',qnS hlv hT h hb z⟩
 | ok u r2=>
  have hl1:=qhk hq
  rw[hq] at hx ho
  simp only at hx
  obtain⟨i',a1,a2,z⟩:=ho
  obtain⟨t2,r3,rfl⟩:=qaI a2
  cases hq2:qal 12 2 true n 1 (lv+1) (t2::r3) with
  | none=>rw[hq2] at hx; cases hx
  | some y=>
   rw[hq2] at hx
   have h2:=ihe 1 (lv+1) i' t2 r3 y (by omega) (by omega) hl1 a1 hq2
   cases y with
   | er a c=>
    simp only[Option.some.injEq] at hx
    subst hx
    obtain⟨i2,z2⟩:=h2
    exact⟨i2,qnT hlv hT h hb z z2⟩
   | ok e r4=>
    simp only at hx
    obtain⟨i2,b1,b2,z2⟩:=h2
    obtain⟨t3,r5,rfl⟩:=qaI b2
    have hc:=qbQ (s:=s) hw hT b1 (x:=bs [93]) (by decide)
    cases hq3:qaB 12 (bs [93]) (t3::r5) with
    | er a c=>
     rw[hq3] at hx hc
     simp only[Option.some.injEq] at hx
     subst hx
     obtain⟨i3,z3⟩:=hc
     exact⟨i3,qnU hlv hT h hb z z2 z3⟩
    | ok u2 r6=>
     rw[hq3] at hx hc
     simp only[Option.some.injEq] at hx
     subst hx
     obtain⟨i3,c1,c2,z3⟩:=hc
     exact⟨i3,c1,c2,qrb hlv hT h hb z z2 z3⟩
theorem qny (hw:WfQ T) (hT:T.length<2 ^ 40) (hP : ∀ t∈T,TokP t) {n:Nat} (ihe:ExK s T n) (ihi:IdK s T n) {lv i:Nat} {t:Tk} {r:List Tk} {x:Rz E} (hlv:lv<=20) (h:T.drop i=t::r) (hx:qal 12 2 true (n+1) 8 lv (t::r)=some x):Out s T (Z tP (.call 309 [.ptr 0 0,.int lv] (PS s T i 0 12))) x E.node:=by
 by_cases hb:t.bad=0
 case neg=>
  have:=qlf hb r (n+1) 8 lv x hx
  subst this
  exact⟨i,qqP h hb⟩
 have hnx:nx (t::r)=some t.s:=if_pos hb
 have hmem:t∈T:=List.mem_of_mem_drop (by rw[h]; exact List.mem_cons_self ..)
 have hk:=qbz hb
 rw[qal,if_neg (by rintro (h | h); exact absurd h.1 (by decide); exact absurd h.1 (by decide)),if_neg (by decide),hnx] at hx
 simp only[List.tail_cons] at hx
 have good : ∀ {e:E},t.s≠⟨#[]⟩->x = .ok e r->Z tP (.call 309 [.ptr 0 0,.int lv] (PS s T i 0 12))=some (.ret e.node (PS s T ((i+1:Nat):Int) 0 12))->Out s T (Z tP (.call 309 [.ptr 0 0,.int lv] (PS s T i 0 12))) x E.node:=fun hne hx z=>by
  subst hx
  obtain⟨n1,n2⟩:=hw.next h hb hne
  exact⟨i+1,n1,n2,z⟩
 by_cases hd:qaC qap t.s=true
 ·rw[if_pos hd] at hx
  obtain⟨d1,d2⟩:=qkQ t.s hd
  have hv:=((hP t hmem).dig hb hd).2.1
  have hval:(valT t:Int)=digV t.s.toList:=by
   unfold valT
   rw[if_pos hd,ByteArray.toList_eq,byl]
   omega
  refine good d1 (Option.some.inj hx).symm ?_
  rw[<- hval]
  exact qqQ hT h hb (by rw[hk,qfP,if_neg d1,d2,if_neg (by decide),if_pos hd])
 rw[if_neg hd] at hx
 by_cases h1:t.s=bs [116,114,117,101]
 ·rw[if_pos h1] at hx
  refine good (by rw[h1]; decide) (Option.some.inj hx).symm (qoN hT h hb ?_ h1)
  rw[hk,h1]; decide
 rw[if_neg h1] at hx
 by_cases h2:t.s=bs [102,97,108,115,101]
 ·rw[if_pos h2] at hx
  refine good (by rw[h2]; decide) (Option.some.inj hx).symm (qm5 hT h hb ?_ h2)
  rw[hk,h2]; decide
 rw[if_neg h2] at hx
 by_cases h3:t.s=bs [115,101,108,102]\/t.s=bs [111,116,104,101,114]\/t.s=bs [116,105,99,107]
 ·rw[if_pos h3] at hx
  have hm:t.s∈qcR:=by
   simp only[qcR,List.mem_cons,List.not_mem_nil,or_false]
   exact h3
  have hall : ∀ w∈qcR,qfP w=2/\w≠⟨#[]⟩:=by decide
  exact good (hall _ hm).2 (Option.some.inj hx).symm (qoO hT h hb (by rw[hk]; exact (hall _ hm).1) hm)
 rw[if_neg h3] at hx
 have n3:t.s∉qcR:=fun hm=>h3 (by
  simp only[qcR,List.mem_cons,List.not_mem_nil,or_false] at hm
  exact hm)
 by_cases hf:t.s∈fieldNames
 ·rw[if_pos hf] at hx
  have hall : ∀ w∈fieldNames,qfP w=3/\w≠⟨#[]⟩:=by decide
  have hk3:kindT t=3:=by rw[hk]; exact (hall _ hf).1
  cases hq:qbC 12 2 true n lv r with
  | none=>rw[hq] at hx; cases hx
  | some y=>
   rw[hq] at hx
   have hi:=ihi lv i t r y hlv h hb (hall _ hf).2 hq
   cases y with
   | er a c=>
    simp only[Option.some.injEq] at hx
    subst hx
    obtain⟨i',z⟩:=hi
    exact⟨i',qlG h hb hk3 z⟩
   | ok e r'=>
    simp only[Option.some.injEq] at hx
    subst hx
    obtain⟨i',a1,a2,z⟩:=hi
    exact⟨i',a1,a2,qqS h hb hk3 z⟩
 rw[if_neg hf] at hx
 by_cases hv:qaC qaQ t.s=true/\t.s∉wordNames
 ·rw[if_pos hv] at hx
  have hne:=qeB hv.1
  exact good hne (Option.some.inj hx).symm (qqR hT h hb (by rw[hk,qfP,if_neg hne,if_pos hv.1,if_neg hf,if_neg hv.2]))
 rw[if_neg hv] at hx
 have hk5:kindT t=0\/kindT t=2\/kindT t=5:=by
  rw[hk,qfP]
  by_cases a1:t.s=⟨#[]⟩
  ·exact .inl (if_pos a1)
  ·rw[if_neg a1]
   by_cases a2:qaC qaQ t.s=true
   ·rw[if_pos a2,if_neg hf]
    by_cases a3:t.s∈wordNames
    ·rw[if_pos a3]; exact .inr (.inl rfl)
    ·exact absurd ⟨a2,a3⟩ hv
   ·rw[if_neg a2,if_neg hd]; exact .inr (.inr rfl)
 have d4:decide (kindT t=4)=false:=decide_eq_false (by omega)
 have d1:decide (kindT t=1)=false:=decide_eq_false (by omega)
 have d3:decide (kindT t=3)=false:=decide_eq_false (by omega)
 have ho:=qfr (s:=s) hw hT h (x:=bs [40]) (by decide) (lv:=lv+1)
 cases hq:qcT 12 2 (bs [40]) (lv+1) (t::r) with
 | er a c=>
  rw[hq] at hx ho
  simp only[Option.some.injEq] at hx
  subst hx
  obtain⟨i',z⟩:=ho
  exact⟨i',qnP hlv h hb d4 d1 d3 h1 h2 n3 z⟩
 | ok u r2=>
  have hl1:=qhk hq
  rw[hq] at hx ho
  simp only at hx
  obtain⟨i',a1,a2,z⟩:=ho
  obtain⟨t2,r3,rfl⟩:=qaI a2
  cases hq2:qal 12 2 true n 1 (lv+1) (t2::r3) with
  | none=>rw[hq2] at hx; cases hx
  | some y=>
   rw[hq2] at hx
   have h2':=ihe 1 (lv+1) i' t2 r3 y (by omega) (by omega) hl1 a1 hq2
   cases y with
   | er a c=>
    simp only[Option.some.injEq] at hx
    subst hx
    obtain⟨i2,z2⟩:=h2'
    exact⟨i2,qnQ hlv h hb d4 d1 d3 h1 h2 n3 z z2⟩
   | ok e r4=>
    simp only at hx
    obtain⟨i2,b1,b2,z2⟩:=h2'
    obtain⟨t3,r5,rfl⟩:=qaI b2
    have hc:=qbQ (s:=s) hw hT b1 (x:=bs [41]) (by decide)
    cases hq3:qaB 12 (bs [41]) (t3::r5) with
    | er a c=>
     rw[hq3] at hx hc
     simp only[Option.some.injEq] at hx
     subst hx
     obtain⟨i3,z3⟩:=hc
     exact⟨i3,qnR hlv h hb d4 d1 d3 h1 h2 n3 z z2 z3⟩
    | ok u2 r6=>
     rw[hq3] at hx hc
     simp only[Option.some.injEq] at hx
     subst hx
     obtain⟨i3,c1,c2,z3⟩:=hc
     exact⟨i3,c1,c2,qra hlv h hb d4 d1 d3 h1 h2 n3 z z2 z3⟩
theorem qkR (hw:WfQ T) (hT:T.length<2 ^ 40) (hP : ∀ t∈T,TokP t) : ∀ n,ExK s T n/\LoK s T n/\IdK s T n
 | 0=>⟨fun p lv i t r x _ _ _ _ hx=>by simp[qal] at hx,fun p lv i t r e x _ _ _ hx=>by simp[qbX] at hx,fun lv i t r x _ _ _ _ hx=>by simp[qbC] at hx⟩
 | n+1=>by
  obtain⟨ihe,ihl,ihi⟩:=qkR hw hT hP n
  refine⟨fun p lv i t r x p1 p8 hlv h hx=>?_,qol hw hT ihe ihl,qnx hw hT ihe⟩
  obtain rfl | rfl | rfl | rfl | rfl | rfl | rfl | rfl:p=1\/p=2\/p=3\/p=4\/p=5\/p=6\/p=7\/p=8:=by omega
  ·exact qjI ihe ihl (.inl rfl) hlv h hx
  ·exact qjI ihe ihl (.inr (.inl rfl)) hlv h hx
  ·exact qpl hw hT ihe (neg:=false) (.inl ⟨rfl,rfl⟩) hlv h hx
  ·exact qpX hw hT ihe hlv h hx
  ·exact qjI ihe ihl (.inr (.inr (.inl rfl))) hlv h hx
  ·exact qjI ihe ihl (.inr (.inr (.inr rfl))) hlv h hx
  ·exact qpl hw hT ihe (neg:=true) (.inr ⟨rfl,rfl⟩) hlv h hx
  ·exact qny hw hT hP ihe ihi hlv h hx
end
end Go.Pm
end SKt
