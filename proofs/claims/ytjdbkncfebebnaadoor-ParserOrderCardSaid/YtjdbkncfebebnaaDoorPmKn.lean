/- Chapter 13's parser: binary operators. Chapter 13's parser: comparisons. Chapter 13's parser: operators before an operand. Chapter 13's parser: operators before an operand, against the plain ones. Chapter 13's parser: operands and indices: the walks. Chapter 13's parser: brackets in expressions: the walks. Printed by ks.py. Chapter 13's parser: every expression is the plain one. -/
import Derived.Test.YtjdbkncfebebnaaDoorPmKb
import Derived.Test.YtjdbkncfebebnaaDoorPmEt
set_option linter.unusedSimpArgs false
set_option linter.unusedVariables false
section SKn
namespace Go.Pm
open F
set_option maxHeartbeats 4000000
attribute [local simp] qbd qbQ dkey
section
variable {s:ByteArray} {T:List Tk} {lv i i' i2:Nat} {g:Nat} {d:D} {e e':E} {a c:Int}
theorem qwm (ho:V.one (.dat d)=true) (hc:V.cells (.dat d)=[.dat d])
  (z:Z tP (.call g [.ptr 0 0,.ptr 1 0] (CS s T lv i 0 12))=some (.ret e.node (CS s T lv i' 0 12)))
  (zl:Z tP (.loop 5 F285l0 (bqF g d) (BL s T lv i' 0 12 e))=some (.out (.exit 0) (bqF g d++[(13,.bool false)]) (BL s T lv i2 0 12 e'))) :
  Z tP (.call 285 [.ptr 0 0,.fn g [] [.ptr 1 0,.ptr 2 0],.dat d] (BS s T lv i 0 12))=some (.ret e'.node (BS s T lv i2 0 12)):=by
 simp only[CS,BL,pO,ndO] at z zl
 refine Z_call (pf:=F285) rfl rfl ?_
 simp[F285,z,zl,ho,hc,List.range_succ]
theorem qtS (ho:V.one (.dat d)=true) (hc:V.cells (.dat d)=[.dat d])
  (z:Z tP (.call g [.ptr 0 0,.ptr 1 0] (CS s T lv i 0 12))=some (.ret (qbk c) (CS s T lv i' a c))) :
  Z tP (.call 285 [.ptr 0 0,.fn g [] [.ptr 1 0,.ptr 2 0],.dat d] (BS s T lv i 0 12))=some (.ret (qbk c) (BS s T lv i' a c)):=by
 simp only[CS,pO] at z
 refine Z_call (pf:=F285) rfl rfl ?_
 simp[F285,z,ho,hc,qad,List.range_succ]
theorem qtT (ho:V.one (.dat d)=true) (hc:V.cells (.dat d)=[.dat d]) {fr:Fr} (hf:fr.get 1000000=none)
  (z:Z tP (.call g [.ptr 0 0,.ptr 1 0] (CS s T lv i 0 12))=some (.ret e.node (CS s T lv i' 0 12)))
  (zl:Z tP (.loop 5 F285l0 (bqF g d) (BL s T lv i' 0 12 e))=some (.out (.pan (.iface 1 (.int c))) fr (BL s T lv i2 a c e'))) :
  Z tP (.call 285 [.ptr 0 0,.fn g [] [.ptr 1 0,.ptr 2 0],.dat d] (BS s T lv i 0 12))=some (.ret (qbk c) (BS s T lv i2 a c)):=by
 simp only[CS,BL,pO,ndO] at z zl
 refine Z_call (pf:=F285) rfl rfl ?_
 simp[F285,z,zl,ho,hc,hf,List.range_succ]
theorem qwn {p:Nat} (hp:qjo p) (z:Z tP (.call 285 [.ptr 0 0,.fn (clF p) [] [.ptr 1 0,.ptr 2 0],.dat (.sl (qaW (qfV p)) (qfV p).length true)] (BS s T lv i 0 12))=some (.ret e.node (BS s T lv i' 0 12))) :
  Z tP (.call (fnP p) [.ptr 0 0,.int lv] (PS s T i 0 12))=some (.ret e.node (PS s T i' 0 12)):=by
 simp only[BS,pO] at z
 rcases hp with rfl | rfl | rfl | rfl
 ·refine Z_call (pf:=F279) rfl rfl ?_
  simp only[clF,qfV,qaW,List.map_cons,List.map_nil,List.length_cons,List.length_nil] at z
  simp[F279,z,List.range_succ]
 ·refine Z_call (pf:=F287) rfl rfl ?_
  simp only[clF,qfV,qaW,List.map_cons,List.map_nil,List.length_cons,List.length_nil] at z
  simp[F287,z,List.range_succ]
 ·refine Z_call (pf:=F297) rfl rfl ?_
  simp only[clF,qfV,qaW,List.map_cons,List.map_nil,List.length_cons,List.length_nil] at z
  simp[F297,z,List.range_succ]
 ·refine Z_call (pf:=F304) rfl rfl ?_
  simp only[clF,qfV,qaW,List.map_cons,List.map_nil,List.length_cons,List.length_nil] at z
  simp[F304,z,List.range_succ]
theorem qtU {p:Nat} (hp:qjo p) (z:Z tP (.call 285 [.ptr 0 0,.fn (clF p) [] [.ptr 1 0,.ptr 2 0],.dat (.sl (qaW (qfV p)) (qfV p).length true)] (BS s T lv i 0 12))=some (.ret (qbk c) (BS s T lv i' a c))) :
  Z tP (.call (fnP p) [.ptr 0 0,.int lv] (PS s T i 0 12))=some (.ret (qbk c) (PS s T i' a c)):=by
 simp only[BS,pO] at z
 rcases hp with rfl | rfl | rfl | rfl
 ·refine Z_call (pf:=F279) rfl rfl ?_
  simp only[clF,qfV,qaW,List.map_cons,List.map_nil,List.length_cons,List.length_nil] at z
  simp[F279,z,qad,List.range_succ]
 ·refine Z_call (pf:=F287) rfl rfl ?_
  simp only[clF,qfV,qaW,List.map_cons,List.map_nil,List.length_cons,List.length_nil] at z
  simp[F287,z,qad,List.range_succ]
 ·refine Z_call (pf:=F297) rfl rfl ?_
  simp only[clF,qfV,qaW,List.map_cons,List.map_nil,List.length_cons,List.length_nil] at z
  simp[F297,z,qad,List.range_succ]
 ·refine Z_call (pf:=F304) rfl rfl ?_
  simp only[clF,qfV,qaW,List.map_cons,List.map_nil,List.length_cons,List.length_nil] at z
  simp[F304,z,qad,List.range_succ]
end
section
variable {s:ByteArray} {T:List Tk}
theorem qmb {n:Nat} (ihe:ExK s T n) (ihl:LoK s T n) {p lv i:Nat} {t:Tk} {r:List Tk} {x:Rz E} (hp:qjo p) (hlv:lv<=20) (h:T.drop i=t::r) (hx:qan 12 2 true (n+1) p lv (t::r)=some x):Out s T (Z tP (.call (fnP p) [.ptr 0 0,.int lv] (PS s T i 0 12))) x E.node:=by
 have hp2:p≠3/\p≠7/\1<=p/\p<8/\p+1<=8:=by rcases hp with rfl | rfl | rfl | rfl<;>omega
 have hd:=qaf (qfV p) true
 rw[qan,if_neg (by rintro (h | h); exact hp2.1 h.1; exact hp2.2.1 h.1),if_pos hp2.2.2.2.1] at hx
 cases hq:qan 12 2 true n (p+1) lv (t::r) with
 | none=>rw[hq] at hx; cases hx
 | some y=>
  rw[hq] at hx
  have ho:=ihe (p+1) lv i t r y (by omega) hp2.2.2.2.2 hlv h hq
  cases y with
  | er a c=>
   simp only[Option.some.injEq] at hx
   subst hx
   obtain⟨i',z⟩:=ho
   exact⟨i',qtU hp (qtS hd.one hd.cells (qlU hp z))⟩
  | ok e r'=>
   simp only at hx
   obtain⟨i',a1,a2,z⟩:=ho
   have zc:=qn2 hp z
   obtain⟨t2,r2,hr2⟩ : ∃ t2 r2,r'=t2::r2:=by cases r' with
    | nil=>exact absurd rfl a2
    | cons a b=>exact⟨a,b,rfl⟩
   subst hr2
   have hl:=ihl p lv i' t2 r2 e x hp hlv a1 hx
   cases x with
   | ok e3 r3=>
    obtain⟨i3,b1,b2,b3⟩:=hl
    exact⟨i3,b1,b2,qwn hp (qwm hd.one hd.cells zc b3)⟩
   | er a c=>
    obtain⟨i3,fr,e3,b1,b2⟩:=hl
    exact⟨i3,qtU hp (qtT hd.one hd.cells b1 zc b2)⟩
end
end Go.Pm
end SKn
section SKo
namespace Go.Pm
open F
set_option maxHeartbeats 4000000
attribute [local simp] qbd qbQ dkey
def ql8:List ByteArray:=[⟨#[60]⟩,⟨#[60,61]⟩,⟨#[62]⟩,⟨#[62,61]⟩,⟨#[61,61]⟩,⟨#[33,61]⟩]
theorem qpS {y:ByteArray} {o:Bop} (h:qjJ 4 y=some o):y=o.str/\y∈ql8:=by
 have h1:o.str=y:=by have:=List.find?_some h; simpa using this
 have h2:=List.mem_of_find?_eq_some h
 subst h1
 refine⟨rfl,?_⟩
 simp only[List.mem_cons,List.not_mem_nil,or_false] at h2
 rcases h2 with rfl | rfl | rfl | rfl | rfl | rfl<;>decide
theorem qpT {y:ByteArray} (h:qjJ 4 y=none):y∉ql8:=by
 have h2:=List.find?_eq_none.1 h
 intro hm
 simp only[ql8,List.mem_cons,List.not_mem_nil,or_false] at hm
 simp only[List.mem_cons,List.not_mem_nil,or_false] at h2
 rcases hm with rfl | rfl | rfl | rfl | rfl | rfl
 ·exact h2 .lt (by simp) (by decide)
 ·exact h2 .le (by simp) (by decide)
 ·exact h2 .gt (by simp) (by decide)
 ·exact h2 .ge (by simp) (by decide)
 ·exact h2 .eq (by simp) (by decide)
 ·exact h2 .ne (by simp) (by decide)
section
variable {s:ByteArray} {T:List Tk} {lv i i' i2:Nat} {e e':E} {a c:Int} {t:Tk} {r:List Tk}
theorem qtE (z:Z tP (.call 297 [.ptr 0 0,.int lv] (PS s T i 0 12))=some (.ret (qbk c) (PS s T i' a c))):Z tP (.call 292 [.ptr 0 0,.int lv] (PS s T i 0 12))=some (.ret (qbk c) (PS s T i' a c)):=by
 simp only[PS,pO] at z
 refine Z_call (pf:=F292) rfl rfl ?_
 simp[F292,z,qad,List.range_succ]
theorem qvk (z:Z tP (.call 297 [.ptr 0 0,.int lv] (PS s T i 0 12))=some (.ret e.node (PS s T i' 0 12))) (h:T.drop i'=t::r) (hb:t.bad=0) (hm:t.s∉ql8):Z tP (.call 292 [.ptr 0 0,.int lv] (PS s T i 0 12))=some (.ret e.node (PS s T i' 0 12)):=by
 have zi:=qaL (s:=s) (a:=0) (c:=12) h hb (qaf ql8 true) (by decide) (by decide)
 simp only[PS,pO] at z
 simp only[hm,decide_false] at zi
 simp only[PS,pO,ql8,qaW,List.map_cons,List.map_nil,List.length_cons,List.length_nil] at zi
 refine Z_call (pf:=F292) rfl rfl ?_
 simp[F292,z,zi,List.range_succ]
theorem qvl (z:Z tP (.call 297 [.ptr 0 0,.int lv] (PS s T i 0 12))=some (.ret e.node (PS s T i' 0 12))) (h:T.drop i'=t::r) (hb:t.bad≠0):Z tP (.call 292 [.ptr 0 0,.int lv] (PS s T i 0 12))=some (.ret (qbk t.bad) (PS s T i' t.at_ t.bad)):=by
 have zi:=qfj (s:=s) (a:=0) (c:=12) h hb (qaf ql8 true)
 simp only[PS,pO] at z
 simp only[PS,pO,ql8,qaW,List.map_cons,List.map_nil,List.length_cons,List.length_nil] at zi
 refine Z_call (pf:=F292) rfl rfl ?_
 simp[F292,z,zi,qad,List.range_succ]
theorem qwc (hT:T.length<2 ^ 40) (z:Z tP (.call 297 [.ptr 0 0,.int lv] (PS s T i 0 12))=some (.ret e.node (PS s T i' 0 12))) (h:T.drop i'=t::r) (hb:t.bad=0) (hm:t.s∈ql8) {o:Bop} (hs:t.s=o.str)
  (z2:Z tP (.call 297 [.ptr 0 0,.int lv] (PS s T ((i'+1:Nat):Int) 0 12))=some (.ret e'.node (PS s T i2 0 12))):Z tP (.call 292 [.ptr 0 0,.int lv] (PS s T i 0 12))=some (.ret (E.bin true o e e').node (PS s T i2 0 12)):=by
 have zi:=qaL (s:=s) (a:=0) (c:=12) h hb (qaf ql8 true) (by decide) (by decide)
 have zt:=qaJ (s:=s) (a:=0) (c:=12) h hb hT
 have htx:=qam hb
 simp only[PS,pO] at z z2
 simp only[hm,decide_true] at zi
 simp only[PS,pO,ql8,qaW,List.map_cons,List.map_nil,List.length_cons,List.length_nil] at zi
 simp only[PS,pO,ptk,ptD,htx,hs] at zt
 simp only[Int.natCast_add,Int.cast_ofNat_Int] at z2 zt
 refine Z_call (pf:=F292) rfl rfl ?_
 simp[F292,z,zi,zt,z2,qc6,qa8,qbx,qbV,qa9,still,V.same,List.range_succ]
 try rfl
theorem qtF (hT:T.length<2 ^ 40) (z:Z tP (.call 297 [.ptr 0 0,.int lv] (PS s T i 0 12))=some (.ret e.node (PS s T i' 0 12))) (h:T.drop i'=t::r) (hb:t.bad=0) (hm:t.s∈ql8)
  (z2:Z tP (.call 297 [.ptr 0 0,.int lv] (PS s T ((i'+1:Nat):Int) 0 12))=some (.ret (qbk c) (PS s T i2 a c))):Z tP (.call 292 [.ptr 0 0,.int lv] (PS s T i 0 12))=some (.ret (qbk c) (PS s T i2 a c)):=by
 have zi:=qaL (s:=s) (a:=0) (c:=12) h hb (qaf ql8 true) (by decide) (by decide)
 have zt:=qaJ (s:=s) (a:=0) (c:=12) h hb hT
 simp only[PS,pO] at z z2
 simp only[hm,decide_true] at zi
 simp only[PS,pO,ql8,qaW,List.map_cons,List.map_nil,List.length_cons,List.length_nil] at zi
 simp only[PS,pO,ptk,ptD] at zt
 simp only[Int.natCast_add,Int.cast_ofNat_Int] at z2 zt
 refine Z_call (pf:=F292) rfl rfl ?_
 simp[F292,z,zi,zt,z2,qad,qaC,qc6,qa8,qbx,qbV,qa9,still,V.same,List.range_succ]
theorem qtG (hw:WfQ T) (hT:T.length<2 ^ 40) {n:Nat} (ihe:ExK s T n) {x:Rz E} (hlv:lv<=20) (h:T.drop i=t::r) (hx:qan 12 2 true (n+1) 4 lv (t::r)=some x):Out s T (Z tP (.call 292 [.ptr 0 0,.int lv] (PS s T i 0 12))) x E.node:=by
 rw[qan,if_neg (by rintro (h | h); exact absurd h.1 (by decide); exact absurd h.1 (by decide)),if_pos (by decide)] at hx
 cases hq:qan 12 2 true n 5 lv (t::r) with
 | none=>rw[hq] at hx; cases hx
 | some y=>
  rw[hq] at hx
  have ho:=ihe 5 lv i t r y (by omega) (by omega) hlv h hq
  cases y with
  | er a c=>
   simp only[Option.some.injEq] at hx
   subst hx
   obtain⟨i',z⟩:=ho
   exact⟨i',qtE z⟩
  | ok e r'=>
   simp only at hx
   obtain⟨i',a1,a2,z⟩:=ho
   obtain⟨t2,r2,hr2⟩ : ∃ t2 r2,r'=t2::r2:=by cases r' with
    | nil=>exact absurd rfl a2
    | cons a b=>exact⟨a,b,rfl⟩
   subst hr2
   cases n with
   | zero=>simp only[qan] at hq; cases hq
   | succ m=>
    rw[qcb] at hx
    by_cases hb:t2.bad=0
    ·have hnx:nx (t2::r2)=some t2.s:=if_pos hb
     rw[hnx] at hx
     simp only at hx
     cases hop:qjJ 4 t2.s with
     | none=>
      rw[hop] at hx
      cases hx
      exact⟨i',a1,a2,qvk z a1 hb (qpT hop)⟩
     | some o=>
      rw[hop] at hx
      simp only[List.tail_cons,if_true] at hx
      obtain⟨q1,q2⟩:=qpS hop
      have hne:t2.s≠⟨#[]⟩:=fun e=>absurd (e ▸ q2) (by decide)
      obtain⟨n1,n2⟩:=hw.next a1 hb hne
      obtain⟨t3,r3,hr3⟩ : ∃ t3 r3,r2=t3::r3:=by cases r2 with
       | nil=>exact absurd rfl n2
       | cons a b=>exact⟨a,b,rfl⟩
      subst hr3
      cases hq2:qan 12 2 true m 5 lv (t3::r3) with
      | none=>rw[hq2] at hx; cases hx
      | some y2=>
       rw[hq2] at hx
       have ho2:=ihe 5 lv (i'+1) t3 r3 y2 (by omega) (by omega) hlv n1 (qa5 hq2 (by omega))
       cases y2 with
       | er a c=>
        simp only[Option.some.injEq] at hx
        subst hx
        obtain⟨i2,z2⟩:=ho2
        exact⟨i2,qtF hT z a1 hb q2 z2⟩
       | ok e2 r4=>
        simp only[Option.some.injEq] at hx
        subst hx
        obtain⟨i2,d1,d2,z2⟩:=ho2
        exact⟨i2,d1,d2,qwc hT z a1 hb q2 q1 z2⟩
    ·have hnx:nx (t2::r2)=none:=if_neg hb
     rw[hnx] at hx
     simp only at hx
     rw[if_neg (by decide)] at hx
     simp only[failP,if_neg hb,Option.some.injEq] at hx
     subst hx
     exact⟨i',qvl z a1 hb⟩
end
end Go.Pm
end SKo
section SKp
namespace Go.Pm
open F
set_option maxHeartbeats 4000000
attribute [local simp] qbd qbQ dkey
theorem qn9 {t:Tk} (hb:t.bad≠0) (r:List Tk) : ∀ (n p lv:Nat) (x:Rz E),qan 12 2 true n p lv (t::r)=some x->x = .er t.at_ t.bad
 | 0,p,lv,x,h=>by simp[qan] at h
 | n+1,p,lv,x,h=>by
  have hnx:nx (t::r)=none:=if_neg hb
  rw[qan,hnx,if_neg (by rintro (h | h); cases h.2; cases h.2)] at h
  by_cases hp:p<8
  ·rw[if_pos hp] at h
   cases hq:qan 12 2 true n (p+1) lv (t::r) with
   | none=>rw[hq] at h; cases h
   | some y=>
    have:=qn9 hb r n (p+1) lv y hq
    rw[hq,this] at h
    simpa using h.symm
  ·rw[if_neg hp] at h
   simp only[failP,if_neg hb,Option.some.injEq] at h
   exact h.symm
def unF (neg:Bool):Nat:=if neg then 308 else 290
def unG (neg:Bool):Nat:=if neg then 309 else 292
section
variable {s:ByteArray} {T:List Tk} {lv i i' i2:Nat} {e e':E} {a c:Int} {t:Tk} {r:List Tk} {neg:Bool}
theorem qv8 (h:T.drop i=t::r) (hb:t.bad=0) (hm:t.s≠ustr neg) (z:Z tP (.call (unG neg) [.ptr 0 0,.int lv] (PS s T i 0 12))=some (.ret e.node (PS s T i' 0 12))):Z tP (.call (unF neg) [.ptr 0 0,.int lv] (PS s T i 0 12))=some (.ret e.node (PS s T i' 0 12)):=by
 have zi:=qaL (s:=s) (a:=0) (c:=12) h hb (qaf [ustr neg] true) (by simp) (by cases neg<;>decide)
 simp only[List.mem_singleton,hm,decide_false] at zi
 simp only[PS,pO] at z
 cases neg
 ·simp only[unG,Bool.false_eq_true,if_false] at z
  simp only[PS,pO,ustr,qaW,List.map_cons,List.map_nil,List.length_singleton,Bool.false_eq_true,if_false] at zi
  refine Z_call (pf:=F290) rfl rfl ?_
  simp[F290,z,zi,List.range_succ]
 ·simp only[unG,if_true] at z
  simp only[PS,pO,ustr,qaW,List.map_cons,List.map_nil,List.length_singleton,if_true] at zi
  refine Z_call (pf:=F308) rfl rfl ?_
  simp[F308,z,zi,List.range_succ]
theorem qrz (h:T.drop i=t::r) (hb:t.bad=0) (hm:t.s≠ustr neg) (z:Z tP (.call (unG neg) [.ptr 0 0,.int lv] (PS s T i 0 12))=some (.ret (qbk c) (PS s T i' a c))):Z tP (.call (unF neg) [.ptr 0 0,.int lv] (PS s T i 0 12))=some (.ret (qbk c) (PS s T i' a c)):=by
 have zi:=qaL (s:=s) (a:=0) (c:=12) h hb (qaf [ustr neg] true) (by simp) (by cases neg<;>decide)
 simp only[List.mem_singleton,hm,decide_false] at zi
 simp only[PS,pO] at z
 cases neg
 ·simp only[unG,Bool.false_eq_true,if_false] at z
  simp only[PS,pO,ustr,qaW,List.map_cons,List.map_nil,List.length_singleton,Bool.false_eq_true,if_false] at zi
  refine Z_call (pf:=F290) rfl rfl ?_
  simp[F290,z,zi,qad,List.range_succ]
 ·simp only[unG,if_true] at z
  simp only[PS,pO,ustr,qaW,List.map_cons,List.map_nil,List.length_singleton,if_true] at zi
  refine Z_call (pf:=F308) rfl rfl ?_
  simp[F308,z,zi,qad,List.range_succ]
theorem qvb (h:T.drop i=t::r) (hb:t.bad≠0):Z tP (.call (unF neg) [.ptr 0 0,.int lv] (PS s T i 0 12))=some (.ret (qbk t.bad) (PS s T i t.at_ t.bad)):=by
 have zi:=qfj (s:=s) (a:=0) (c:=12) h hb (qaf [ustr neg] true)
 cases neg
 ·simp only[PS,pO,ustr,qaW,List.map_cons,List.map_nil,List.length_singleton,Bool.false_eq_true,if_false] at zi
  refine Z_call (pf:=F290) rfl rfl ?_
  simp[F290,zi,qad,List.range_succ]
 ·simp only[PS,pO,ustr,qaW,List.map_cons,List.map_nil,List.length_singleton,if_true] at zi
  refine Z_call (pf:=F308) rfl rfl ?_
  simp[F308,zi,qad,List.range_succ]
theorem qtq (hlv:lv<=20) (h:T.drop i=t::r) (hb:t.bad=0) (hm:t.s=ustr neg) (zo:Z tP (.call 270 [.ptr 0 0,.str (ustr neg),.int ((lv+1:Nat):Int)] (PS s T i 0 12))=some (.ret (qbk c) (PS s T i' a c))):Z tP (.call (unF neg) [.ptr 0 0,.int lv] (PS s T i 0 12))=some (.ret (qbk c) (PS s T i' a c)):=by
 have zi:=qaL (s:=s) (a:=0) (c:=12) h hb (qaf [ustr neg] true) (by simp) (by cases neg<;>decide)
 have w1:=qal ((lv:Int)+1) (by omega)
 simp only[List.mem_singleton,hm,decide_true] at zi
 simp only[PS,pO] at zo
 simp only[Int.natCast_add,Int.cast_ofNat_Int] at zo
 cases neg
 ·simp only[PS,pO,ustr,qaW,List.map_cons,List.map_nil,List.length_singleton,Bool.false_eq_true,if_false] at zi zo
  refine Z_call (pf:=F290) rfl rfl ?_
  simp[F290,zo,zi,w1,qad,List.range_succ]
 ·simp only[PS,pO,ustr,qaW,List.map_cons,List.map_nil,List.length_singleton,if_true] at zi zo
  refine Z_call (pf:=F308) rfl rfl ?_
  simp[F308,zo,zi,w1,qad,List.range_succ]
theorem qvc (hlv:lv<=20) (h:T.drop i=t::r) (hb:t.bad=0) (hm:t.s=ustr neg) (zo:Z tP (.call 270 [.ptr 0 0,.str (ustr neg),.int ((lv+1:Nat):Int)] (PS s T i 0 12))=some (.ret (.tup []) (PS s T i' 0 12)))
  (z:Z tP (.call (unF neg) [.ptr 0 0,.int ((lv+1:Nat):Int)] (PS s T i' 0 12))=some (.ret (qbk c) (PS s T i2 a c))):Z tP (.call (unF neg) [.ptr 0 0,.int lv] (PS s T i 0 12))=some (.ret (qbk c) (PS s T i2 a c)):=by
 have zi:=qaL (s:=s) (a:=0) (c:=12) h hb (qaf [ustr neg] true) (by simp) (by cases neg<;>decide)
 have w1:=qal ((lv:Int)+1) (by omega)
 simp only[List.mem_singleton,hm,decide_true] at zi
 simp only[PS,pO] at zo z
 simp only[Int.natCast_add,Int.cast_ofNat_Int] at zo z
 cases neg
 ·simp only[PS,pO,unF,ustr,qaW,List.map_cons,List.map_nil,List.length_singleton,Bool.false_eq_true,if_false] at zi zo z
  refine Z_call (pf:=F290) rfl rfl ?_
  simp[F290,zo,zi,z,w1,qad,List.range_succ]
 ·simp only[PS,pO,unF,ustr,qaW,List.map_cons,List.map_nil,List.length_singleton,if_true] at zi zo z
  refine Z_call (pf:=F308) rfl rfl ?_
  simp[F308,zo,zi,z,w1,qad,List.range_succ]
theorem qv9 (hlv:lv<=20) (h:T.drop i=t::r) (hb:t.bad=0) (hm:t.s=ustr neg) (zo:Z tP (.call 270 [.ptr 0 0,.str (ustr neg),.int ((lv+1:Nat):Int)] (PS s T i 0 12))=some (.ret (.tup []) (PS s T i' 0 12)))
  (z:Z tP (.call (unF neg) [.ptr 0 0,.int ((lv+1:Nat):Int)] (PS s T i' 0 12))=some (.ret e.node (PS s T i2 0 12))):Z tP (.call (unF neg) [.ptr 0 0,.int lv] (PS s T i 0 12))=some (.ret (E.un true neg e).node (PS s T i2 0 12)):=by
 have zi:=qaL (s:=s) (a:=0) (c:=12) h hb (qaf [ustr neg] true) (by simp) (by cases neg<;>decide)
 have w1:=qal ((lv:Int)+1) (by omega)
 simp only[List.mem_singleton,hm,decide_true] at zi
 simp only[PS,pO] at zo z
 simp only[Int.natCast_add,Int.cast_ofNat_Int] at zo z
 cases neg
 ·simp only[PS,pO,unF,ustr,qaW,List.map_cons,List.map_nil,List.length_singleton,Bool.false_eq_true,if_false] at zi zo z
  refine Z_call (pf:=F290) rfl rfl ?_
  simp[F290,zo,zi,z,w1,List.range_succ]
  rfl
 ·simp only[PS,pO,unF,ustr,qaW,List.map_cons,List.map_nil,List.length_singleton,if_true] at zi zo z
  refine Z_call (pf:=F308) rfl rfl ?_
  simp[F308,zo,zi,z,w1,List.range_succ]
  rfl
end
end Go.Pm
end SKp
section SKq
namespace Go.Pm
open F
set_option maxHeartbeats 2000000
theorem qjg {α : Type} {c:Nat} {ts:List Tk} {a : α} {r:List Tk} (h:failP (α := α) c ts = .ok a r):False:=by
 cases ts<;>simp[failP] at h
theorem qjh {x:ByteArray} {lv:Nat} {ts r:List Tk} {u:Unit} (h:qcv 12 2 x lv ts = .ok u r):lv<=20:=by
 by_cases h20:20<lv
 ·rw[qcv] at h
  by_cases hn:nx ts=some x
  ·rw[if_pos ⟨hn,h20⟩] at h
   exact (qjg h).elim
  ·rw[if_neg (fun e=>hn e.1)] at h
   cases ts with
   | nil=>rw[qav] at h; exact (qjg h).elim
   | cons t r'=>
    simp only[qav] at h
    by_cases hc:t.bad=0/\t.s=x
    ·exact absurd (show nx (t::r')=some x by rw[nx,if_pos hc.1,hc.2]) hn
    ·rw[if_neg hc] at h
     exact (qjg h).elim
 ·omega
section
variable {s:ByteArray} {T:List Tk} {lv i:Nat} {t:Tk} {r:List Tk}
theorem qaU {α : Type} {l:List α} (h:l≠[]) : ∃ a r,l=a::r:=by
 cases l with
 | nil=>exact absurd rfl h
 | cons a b=>exact⟨a,b,rfl⟩
theorem qs8 (hw:WfQ T) (hT:T.length<2 ^ 40) {n:Nat} (ihe:ExK s T n) {p:Nat} {neg:Bool} (hp:p=3/\neg=false\/p=7/\neg=true) {x:Rz E} (hlv:lv<=20) (h:T.drop i=t::r) (hx:qan 12 2 true (n+1) p lv (t::r)=some x):Out s T (Z tP (.call (unF neg) [.ptr 0 0,.int lv] (PS s T i 0 12))) x E.node:=by
 have hF:fnP p=unF neg:=by rcases hp with ⟨rfl,rfl⟩ | ⟨rfl,rfl⟩<;>rfl
 have hG:fnP (p+1)=unG neg:=by rcases hp with ⟨rfl,rfl⟩ | ⟨rfl,rfl⟩<;>rfl
 have hp8:p<8/\1<=p:=by rcases hp with ⟨rfl,_⟩ | ⟨rfl,_⟩<;>omega
 by_cases hb:t.bad=0
 ·have hnx:nx (t::r)=some t.s:=if_pos hb
  by_cases hm:t.s=ustr neg
  ·have hcond:p=3/\nx (t::r)=some (ustr false)\/p=7/\nx (t::r)=some (ustr true):=by
    rw[hnx,hm]
    rcases hp with ⟨rfl,rfl⟩ | ⟨rfl,rfl⟩
    ·exact .inl ⟨rfl,rfl⟩
    ·exact .inr ⟨rfl,rfl⟩
   have h7:(p==7)=neg:=by rcases hp with ⟨rfl,rfl⟩ | ⟨rfl,rfl⟩<;>rfl
   rw[qan,if_pos hcond,h7] at hx
   have ho:=qgK (s:=s) hw hT h (x:=ustr neg) (by cases neg<;>decide) (lv:=lv+1)
   cases hq:qcv 12 2 (ustr neg) (lv+1) (t::r) with
   | er a c=>
    rw[hq] at hx ho
    simp only[Option.some.injEq] at hx
    subst hx
    obtain⟨i',z⟩:=ho
    exact⟨i',qtq hlv h hb hm z⟩
   | ok u r1=>
    have hl1:=qjh hq
    rw[hq] at hx ho
    simp only at hx
    obtain⟨i',a1,a2,z⟩:=ho
    obtain⟨t1,r2,rfl⟩:=qaU a2
    cases hq2:qan 12 2 true n p (lv+1) (t1::r2) with
    | none=>rw[hq2] at hx; cases hx
    | some y=>
     rw[hq2] at hx
     have h2:=ihe p (lv+1) i' t1 r2 y hp8.2 (by omega) hl1 a1 hq2
     rw[hF] at h2
     cases y with
     | er a c=>
      simp only[Option.some.injEq] at hx
      subst hx
      obtain⟨i2,z2⟩:=h2
      exact⟨i2,qvc hlv h hb hm z z2⟩
     | ok e r3=>
      simp only[Option.some.injEq] at hx
      subst hx
      obtain⟨i2,b1,b2,z2⟩:=h2
      exact⟨i2,b1,b2,qv9 hlv h hb hm z z2⟩
  ·have hcond : ¬ (p=3/\nx (t::r)=some (ustr false)\/p=7/\nx (t::r)=some (ustr true)):=by
    rw[hnx]
    rcases hp with ⟨rfl,rfl⟩ | ⟨rfl,rfl⟩
    ·rintro (⟨_,h⟩ | ⟨h,_⟩)
     ·exact hm (Option.some.inj h)
     ·cases h
    ·rintro (⟨h,_⟩ | ⟨_,h⟩)
     ·cases h
     ·exact hm (Option.some.inj h)
   rw[qan,if_neg hcond,if_pos hp8.1] at hx
   cases hq:qan 12 2 true n (p+1) lv (t::r) with
   | none=>rw[hq] at hx; cases hx
   | some y=>
    rw[hq] at hx
    have h2:=ihe (p+1) lv i t r y (by omega) (by omega) hlv h hq
    rw[hG] at h2
    cases y with
    | er a c=>
     simp only[Option.some.injEq] at hx
     subst hx
     obtain⟨i2,z2⟩:=h2
     exact⟨i2,qrz h hb hm z2⟩
    | ok e r3=>
     simp only at hx
     obtain⟨i2,b1,b2,z2⟩:=h2
     cases n with
     | zero=>simp only[qan] at hq; cases hq
     | succ m=>
      have hxx:x = .ok e r3:=by
       rw[qcb] at hx
       cases hn3:nx r3 with
       | none=>
        rw[hn3] at hx
        simp only at hx
        rw[if_pos (by rcases hp with ⟨rfl,_⟩ | ⟨rfl,_⟩; exact .inl rfl; exact .inr rfl)] at hx
        exact (Option.some.inj hx).symm
       | some y=>
        rw[hn3] at hx
        have hop:qjJ p y=none:=by rcases hp with ⟨rfl,_⟩ | ⟨rfl,_⟩<;>rfl
        simp only[hop] at hx
        exact (Option.some.inj hx).symm
      subst hxx
      exact⟨i2,b1,b2,qv8 h hb hm z2⟩
 ·have:=qn9 hb r (n+1) p lv x hx
  subst this
  exact⟨i,qvb h hb⟩
end
end Go.Pm
end SKq
section SKr
namespace Go.Pm
open F
set_option maxHeartbeats 4000000
attribute [local simp] qbd qbQ dkey
def qdA:ByteArray:=⟨#[116,114,117,101]⟩
def qcs:ByteArray:=⟨#[102,97,108,115,101]⟩
def qdN:List ByteArray:=[⟨#[115,101,108,102]⟩,⟨#[111,116,104,101,114]⟩,⟨#[116,105,99,107]⟩]
section
variable {s:ByteArray} {T:List Tk} {lv i i' i2 i3:Nat} {e e':E} {a c:Int} {t:Tk} {r:List Tk}
theorem quF (h:T.drop i=t::r) (hb:t.bad≠0):Z tP (.call 309 [.ptr 0 0,.int lv] (PS s T i 0 12))=some (.ret (qbk t.bad) (PS s T i t.at_ t.bad)):=by
 have zp:=qem (s:=s) (a:=0) (c:=12) h hb
 simp only[PS,pO] at zp
 refine Z_call (pf:=F309) rfl rfl ?_
 simp[F309,zp,qad,List.range_succ]
theorem quG (hT:T.length<2 ^ 40) (h:T.drop i=t::r) (hb:t.bad=0) (hk:kindT t=4):Z tP (.call 309 [.ptr 0 0,.int lv] (PS s T i 0 12))=some (.ret (E.int (valT t)).node (PS s T ((i+1:Nat):Int) 0 12)):=by
 have zp:=qax (s:=s) (a:=0) (c:=12) h hb
 have zt:=qaJ (s:=s) (a:=0) (c:=12) h hb hT
 simp only[PS,pO,ptk,ptD,hk] at zp zt
 refine Z_call (pf:=F309) rfl rfl ?_
 simp[F309,zp,zt,List.range_succ]
 try rfl
theorem quH (hT:T.length<2 ^ 40) (h:T.drop i=t::r) (hb:t.bad=0) (hk:kindT t=1):Z tP (.call 309 [.ptr 0 0,.int lv] (PS s T i 0 12))=some (.ret (E.var t.s).node (PS s T ((i+1:Nat):Int) 0 12)):=by
 have zp:=qax (s:=s) (a:=0) (c:=12) h hb
 have zt:=qaJ (s:=s) (a:=0) (c:=12) h hb hT
 simp only[PS,pO,ptk,ptD,hk,qam hb] at zp zt
 refine Z_call (pf:=F309) rfl rfl ?_
 simp[F309,zp,zt,List.range_succ]
 try rfl
theorem quI (h:T.drop i=t::r) (hb:t.bad=0) (hk:kindT t=3) (z:Z tP (.call 280 [.ptr 0 0,.int lv] (PS s T i 0 12))=some (.ret e.node (PS s T i' 0 12))):Z tP (.call 309 [.ptr 0 0,.int lv] (PS s T i 0 12))=some (.ret (E.field true t.s e).node (PS s T i' 0 12)):=by
 have zp:=qax (s:=s) (a:=0) (c:=12) h hb
 simp only[PS,pO,ptk,ptD,hk,qam hb] at zp z
 refine Z_call (pf:=F309) rfl rfl ?_
 simp[F309,zp,z,qc6,qa8,qbx,qbV,qa9,still,V.same,List.range_succ]
 try rfl
theorem qoQ (h:T.drop i=t::r) (hb:t.bad=0) (hk:kindT t=3) (z:Z tP (.call 280 [.ptr 0 0,.int lv] (PS s T i 0 12))=some (.ret (qbk c) (PS s T i' a c))):Z tP (.call 309 [.ptr 0 0,.int lv] (PS s T i 0 12))=some (.ret (qbk c) (PS s T i' a c)):=by
 have zp:=qax (s:=s) (a:=0) (c:=12) h hb
 simp only[PS,pO,ptk,ptD,hk,qam hb] at zp z
 refine Z_call (pf:=F309) rfl rfl ?_
 simp[F309,zp,z,qad,qaC,qc6,qa8,qbx,qbV,qa9,still,V.same,List.range_succ]
theorem qsy (hT:T.length<2 ^ 40) (h:T.drop i=t::r) (hb:t.bad=0) (hk:kindT t=2) (hm:t.s=qdA):Z tP (.call 309 [.ptr 0 0,.int lv] (PS s T i 0 12))=some (.ret (E.bool 1).node (PS s T ((i+1:Nat):Int) 0 12)):=by
 have zp:=qax (s:=s) (a:=0) (c:=12) h hb
 have zt:=qaJ (s:=s) (a:=0) (c:=12) h hb hT
 have z1:=qaL (s:=s) (a:=0) (c:=12) h hb (qaf [qdA] true) (by simp) (by decide)
 simp only[hm,List.mem_singleton,decide_true] at z1
 simp only[PS,pO,ptk,ptD,hk] at zp zt
 simp only[PS,pO,qdA,qaW,List.map_cons,List.map_nil,List.length_singleton] at z1
 refine Z_call (pf:=F309) rfl rfl ?_
 simp[F309,zp,zt,z1,List.range_succ]
 try rfl
theorem qqE (hT:T.length<2 ^ 40) (h:T.drop i=t::r) (hb:t.bad=0) (hk:kindT t=2) (hm:t.s=qcs):Z tP (.call 309 [.ptr 0 0,.int lv] (PS s T i 0 12))=some (.ret (E.bool 0).node (PS s T ((i+1:Nat):Int) 0 12)):=by
 have zp:=qax (s:=s) (a:=0) (c:=12) h hb
 have zt:=qaJ (s:=s) (a:=0) (c:=12) h hb hT
 have z1:=qaL (s:=s) (a:=0) (c:=12) h hb (qaf [qdA] true) (by simp) (by decide)
 have z2:=qaL (s:=s) (a:=0) (c:=12) h hb (qaf [qcs] true) (by simp) (by decide)
 have hne:qcs≠qdA:=by decide
 simp only[hm,List.mem_singleton,hne,decide_false,decide_true] at z1 z2
 simp only[PS,pO,ptk,ptD,hk] at zp zt
 simp only[PS,pO,qdA,qcs,qaW,List.map_cons,List.map_nil,List.length_singleton] at z1 z2
 refine Z_call (pf:=F309) rfl rfl ?_
 simp[F309,zp,zt,z1,z2,List.range_succ]
 try rfl
theorem qsz (hT:T.length<2 ^ 40) (h:T.drop i=t::r) (hb:t.bad=0) (hk:kindT t=2) (hm:t.s∈qdN):Z tP (.call 309 [.ptr 0 0,.int lv] (PS s T i 0 12))=some (.ret (E.name t.s).node (PS s T ((i+1:Nat):Int) 0 12)):=by
 have zp:=qax (s:=s) (a:=0) (c:=12) h hb
 have zt:=qaJ (s:=s) (a:=0) (c:=12) h hb hT
 have z1:=qaL (s:=s) (a:=0) (c:=12) h hb (qaf [qdA] true) (by simp) (by decide)
 have z2:=qaL (s:=s) (a:=0) (c:=12) h hb (qaf [qcs] true) (by simp) (by decide)
 have z3:=qaL (s:=s) (a:=0) (c:=12) h hb (qaf qdN true) (by decide) (by decide)
 have n1:t.s≠qdA:=fun e=>absurd (e ▸ hm) (by decide)
 have n2:t.s≠qcs:=fun e=>absurd (e ▸ hm) (by decide)
 simp only[hm,List.mem_singleton,n1,n2,decide_false,decide_true] at z1 z2 z3
 simp only[PS,pO,ptk,ptD,hk,qam hb] at zp zt
 simp only[PS,pO,qdA,qcs,qdN,qaW,List.map_cons,List.map_nil,List.length_cons,List.length_nil] at z1 z2 z3
 refine Z_call (pf:=F309) rfl rfl ?_
 simp[F309,zp,zt,z1,z2,z3,List.range_succ]
 try rfl
end
end Go.Pm
end SKr
section SKs
namespace Go.Pm
open F
set_option maxHeartbeats 4000000
attribute [local simp] qbd qbQ dkey
section
variable {s:ByteArray} {T:List Tk} {lv i i' i2 i3:Nat} {e:E} {a c:Int} {t:Tk} {r:List Tk}
theorem qro (hlv:lv<=20) (h:T.drop i=t::r) (hb:t.bad=0) (h4:decide (kindT t=4)=false) (h1:decide (kindT t=1)=false) (h3:decide (kindT t=3)=false) (n1:t.s≠qdA) (n2:t.s≠qcs) (n3:t.s∉qdN)
  (zo:Z tP (.call 270 [.ptr 0 0,.str ⟨#[40]⟩,.int ((lv+1:Nat):Int)] (PS s T i 0 12))=some (.ret (qbk c) (PS s T i' a c))):Z tP (.call 309 [.ptr 0 0,.int lv] (PS s T i 0 12))=some (.ret (qbk c) (PS s T i' a c)):=by
 have w1:=qal ((lv:Int)+1) (by omega)
 have zp:=qax (s:=s) (a:=0) (c:=12) h hb
 have z1:=qaL (s:=s) (a:=0) (c:=12) h hb (qaf [qdA] true) (by simp) (by decide)
 have z2:=qaL (s:=s) (a:=0) (c:=12) h hb (qaf [qcs] true) (by simp) (by decide)
 have z3:=qaL (s:=s) (a:=0) (c:=12) h hb (qaf qdN true) (by decide) (by decide)
 simp only[List.mem_singleton,n1,n2,n3,decide_false] at z1 z2 z3
 simp only[PS,pO,ptk,ptD,qam hb] at zp
 simp only[PS,pO,qdA,qcs,qdN,qaW,List.map_cons,List.map_nil,List.length_cons,List.length_nil] at z1 z2 z3
 simp only[PS,pO] at zo
 simp only[Int.natCast_add,Int.cast_ofNat_Int] at zo
 refine Z_call (pf:=F309) rfl rfl ?_
 simp[F309,zp,z1,z2,z3,h4,h1,h3,w1,zo,qad,List.range_succ]
theorem qrp (hlv:lv<=20) (h:T.drop i=t::r) (hb:t.bad=0) (h4:decide (kindT t=4)=false) (h1:decide (kindT t=1)=false) (h3:decide (kindT t=3)=false) (n1:t.s≠qdA) (n2:t.s≠qcs) (n3:t.s∉qdN)
  (zo:Z tP (.call 270 [.ptr 0 0,.str ⟨#[40]⟩,.int ((lv+1:Nat):Int)] (PS s T i 0 12))=some (.ret (.tup []) (PS s T i' 0 12)))
  (ze:Z tP (.call 279 [.ptr 0 0,.int ((lv+1:Nat):Int)] (PS s T i' 0 12))=some (.ret (qbk c) (PS s T i2 a c))):Z tP (.call 309 [.ptr 0 0,.int lv] (PS s T i 0 12))=some (.ret (qbk c) (PS s T i2 a c)):=by
 have w1:=qal ((lv:Int)+1) (by omega)
 have zp:=qax (s:=s) (a:=0) (c:=12) h hb
 have z1:=qaL (s:=s) (a:=0) (c:=12) h hb (qaf [qdA] true) (by simp) (by decide)
 have z2:=qaL (s:=s) (a:=0) (c:=12) h hb (qaf [qcs] true) (by simp) (by decide)
 have z3:=qaL (s:=s) (a:=0) (c:=12) h hb (qaf qdN true) (by decide) (by decide)
 simp only[List.mem_singleton,n1,n2,n3,decide_false] at z1 z2 z3
 simp only[PS,pO,ptk,ptD,qam hb] at zp
 simp only[PS,pO,qdA,qcs,qdN,qaW,List.map_cons,List.map_nil,List.length_cons,List.length_nil] at z1 z2 z3
 simp only[PS,pO] at zo ze
 simp only[Int.natCast_add,Int.cast_ofNat_Int] at zo ze
 refine Z_call (pf:=F309) rfl rfl ?_
 simp[F309,zp,z1,z2,z3,h4,h1,h3,w1,zo,ze,qad,List.range_succ]
theorem qrq (hlv:lv<=20) (h:T.drop i=t::r) (hb:t.bad=0) (h4:decide (kindT t=4)=false) (h1:decide (kindT t=1)=false) (h3:decide (kindT t=3)=false) (n1:t.s≠qdA) (n2:t.s≠qcs) (n3:t.s∉qdN)
  (zo:Z tP (.call 270 [.ptr 0 0,.str ⟨#[40]⟩,.int ((lv+1:Nat):Int)] (PS s T i 0 12))=some (.ret (.tup []) (PS s T i' 0 12)))
  (ze:Z tP (.call 279 [.ptr 0 0,.int ((lv+1:Nat):Int)] (PS s T i' 0 12))=some (.ret e.node (PS s T i2 0 12)))
  (zc:Z tP (.call 253 [.ptr 0 0,.str ⟨#[41]⟩] (PS s T i2 0 12))=some (.ret (qbk c) (PS s T i3 a c))):Z tP (.call 309 [.ptr 0 0,.int lv] (PS s T i 0 12))=some (.ret (qbk c) (PS s T i3 a c)):=by
 have w1:=qal ((lv:Int)+1) (by omega)
 have zp:=qax (s:=s) (a:=0) (c:=12) h hb
 have z1:=qaL (s:=s) (a:=0) (c:=12) h hb (qaf [qdA] true) (by simp) (by decide)
 have z2:=qaL (s:=s) (a:=0) (c:=12) h hb (qaf [qcs] true) (by simp) (by decide)
 have z3:=qaL (s:=s) (a:=0) (c:=12) h hb (qaf qdN true) (by decide) (by decide)
 simp only[List.mem_singleton,n1,n2,n3,decide_false] at z1 z2 z3
 simp only[PS,pO,ptk,ptD,qam hb] at zp
 simp only[PS,pO,qdA,qcs,qdN,qaW,List.map_cons,List.map_nil,List.length_cons,List.length_nil] at z1 z2 z3
 simp only[PS,pO] at zo ze zc
 simp only[Int.natCast_add,Int.cast_ofNat_Int] at zo ze
 refine Z_call (pf:=F309) rfl rfl ?_
 simp[F309,zp,z1,z2,z3,h4,h1,h3,w1,zo,ze,zc,qad,List.range_succ]
theorem qu5 (hlv:lv<=20) (h:T.drop i=t::r) (hb:t.bad=0) (h4:decide (kindT t=4)=false) (h1:decide (kindT t=1)=false) (h3:decide (kindT t=3)=false) (n1:t.s≠qdA) (n2:t.s≠qcs) (n3:t.s∉qdN)
  (zo:Z tP (.call 270 [.ptr 0 0,.str ⟨#[40]⟩,.int ((lv+1:Nat):Int)] (PS s T i 0 12))=some (.ret (.tup []) (PS s T i' 0 12)))
  (ze:Z tP (.call 279 [.ptr 0 0,.int ((lv+1:Nat):Int)] (PS s T i' 0 12))=some (.ret e.node (PS s T i2 0 12)))
  (zc:Z tP (.call 253 [.ptr 0 0,.str ⟨#[41]⟩] (PS s T i2 0 12))=some (.ret (.tup []) (PS s T i3 0 12))):Z tP (.call 309 [.ptr 0 0,.int lv] (PS s T i 0 12))=some (.ret e.node (PS s T i3 0 12)):=by
 have w1:=qal ((lv:Int)+1) (by omega)
 have zp:=qax (s:=s) (a:=0) (c:=12) h hb
 have z1:=qaL (s:=s) (a:=0) (c:=12) h hb (qaf [qdA] true) (by simp) (by decide)
 have z2:=qaL (s:=s) (a:=0) (c:=12) h hb (qaf [qcs] true) (by simp) (by decide)
 have z3:=qaL (s:=s) (a:=0) (c:=12) h hb (qaf qdN true) (by decide) (by decide)
 simp only[List.mem_singleton,n1,n2,n3,decide_false] at z1 z2 z3
 simp only[PS,pO,ptk,ptD,qam hb] at zp
 simp only[PS,pO,qdA,qcs,qdN,qaW,List.map_cons,List.map_nil,List.length_cons,List.length_nil] at z1 z2 z3
 simp only[PS,pO] at zo ze zc
 simp only[Int.natCast_add,Int.cast_ofNat_Int] at zo ze
 refine Z_call (pf:=F309) rfl rfl ?_
 simp[F309,zp,z1,z2,z3,h4,h1,h3,w1,zo,ze,zc,qad,List.range_succ]
theorem qrr (hlv:lv<=20) (hT:T.length<2 ^ 40) (h:T.drop i=t::r) (hb:t.bad=0)
  (zo:Z tP (.call 270 [.ptr 0 0,.str ⟨#[91]⟩,.int ((lv+1:Nat):Int)] (PS s T ((i+1:Nat):Int) 0 12))=some (.ret (qbk c) (PS s T i' a c))):Z tP (.call 280 [.ptr 0 0,.int lv] (PS s T i 0 12))=some (.ret (qbk c) (PS s T i' a c)):=by
 have w1:=qal ((lv:Int)+1) (by omega)
 have zt:=qaJ (s:=s) (a:=0) (c:=12) h hb hT
 simp only[PS,pO,ptk,ptD] at zt
 simp only[Int.natCast_add,Int.cast_ofNat_Int] at zt
 simp only[PS,pO] at zo
 simp only[Int.natCast_add,Int.cast_ofNat_Int] at zo
 refine Z_call (pf:=F280) rfl rfl ?_
 simp[F280,zt,w1,zo,qad,List.range_succ]
theorem qrs (hlv:lv<=20) (hT:T.length<2 ^ 40) (h:T.drop i=t::r) (hb:t.bad=0)
  (zo:Z tP (.call 270 [.ptr 0 0,.str ⟨#[91]⟩,.int ((lv+1:Nat):Int)] (PS s T ((i+1:Nat):Int) 0 12))=some (.ret (.tup []) (PS s T i' 0 12)))
  (ze:Z tP (.call 279 [.ptr 0 0,.int ((lv+1:Nat):Int)] (PS s T i' 0 12))=some (.ret (qbk c) (PS s T i2 a c))):Z tP (.call 280 [.ptr 0 0,.int lv] (PS s T i 0 12))=some (.ret (qbk c) (PS s T i2 a c)):=by
 have w1:=qal ((lv:Int)+1) (by omega)
 have zt:=qaJ (s:=s) (a:=0) (c:=12) h hb hT
 simp only[PS,pO,ptk,ptD] at zt
 simp only[Int.natCast_add,Int.cast_ofNat_Int] at zt
 simp only[PS,pO] at zo ze
 simp only[Int.natCast_add,Int.cast_ofNat_Int] at zo ze
 refine Z_call (pf:=F280) rfl rfl ?_
 simp[F280,zt,w1,zo,ze,qad,List.range_succ]
theorem qrt (hlv:lv<=20) (hT:T.length<2 ^ 40) (h:T.drop i=t::r) (hb:t.bad=0)
  (zo:Z tP (.call 270 [.ptr 0 0,.str ⟨#[91]⟩,.int ((lv+1:Nat):Int)] (PS s T ((i+1:Nat):Int) 0 12))=some (.ret (.tup []) (PS s T i' 0 12)))
  (ze:Z tP (.call 279 [.ptr 0 0,.int ((lv+1:Nat):Int)] (PS s T i' 0 12))=some (.ret e.node (PS s T i2 0 12)))
  (zc:Z tP (.call 253 [.ptr 0 0,.str ⟨#[93]⟩] (PS s T i2 0 12))=some (.ret (qbk c) (PS s T i3 a c))):Z tP (.call 280 [.ptr 0 0,.int lv] (PS s T i 0 12))=some (.ret (qbk c) (PS s T i3 a c)):=by
 have w1:=qal ((lv:Int)+1) (by omega)
 have zt:=qaJ (s:=s) (a:=0) (c:=12) h hb hT
 simp only[PS,pO,ptk,ptD] at zt
 simp only[Int.natCast_add,Int.cast_ofNat_Int] at zt
 simp only[PS,pO] at zo ze zc
 simp only[Int.natCast_add,Int.cast_ofNat_Int] at zo ze
 refine Z_call (pf:=F280) rfl rfl ?_
 simp[F280,zt,w1,zo,ze,zc,qad,List.range_succ]
theorem qu6 (hlv:lv<=20) (hT:T.length<2 ^ 40) (h:T.drop i=t::r) (hb:t.bad=0)
  (zo:Z tP (.call 270 [.ptr 0 0,.str ⟨#[91]⟩,.int ((lv+1:Nat):Int)] (PS s T ((i+1:Nat):Int) 0 12))=some (.ret (.tup []) (PS s T i' 0 12)))
  (ze:Z tP (.call 279 [.ptr 0 0,.int ((lv+1:Nat):Int)] (PS s T i' 0 12))=some (.ret e.node (PS s T i2 0 12)))
  (zc:Z tP (.call 253 [.ptr 0 0,.str ⟨#[93]⟩] (PS s T i2 0 12))=some (.ret (.tup []) (PS s T i3 0 12))):Z tP (.call 280 [.ptr 0 0,.int lv] (PS s T i 0 12))=some (.ret e.node (PS s T i3 0 12)):=by
 have w1:=qal ((lv:Int)+1) (by omega)
 have zt:=qaJ (s:=s) (a:=0) (c:=12) h hb hT
 simp only[PS,pO,ptk,ptD] at zt
 simp only[Int.natCast_add,Int.cast_ofNat_Int] at zt
 simp only[PS,pO] at zo ze zc
 simp only[Int.natCast_add,Int.cast_ofNat_Int] at zo ze
 refine Z_call (pf:=F280) rfl rfl ?_
 simp[F280,zt,w1,zo,ze,zc,qad,List.range_succ]
end
end Go.Pm
end SKs
section SKt
namespace Go.Pm
open F
set_option maxHeartbeats 2000000
def qhe (w:ByteArray):Int:=if w=⟨#[]⟩ then 0 else if qai qaO w then (if w∈fieldNames then 3 else if w∈wordNames then 2 else 1) else if qai qaj w then 4 else 5
theorem qb4 {t:Tk} (hb:t.bad=0):kindT t=qhe t.s:=by unfold kindT qhe; rw[if_neg (by simp[hb])]
theorem qnE (w:ByteArray):qai qaj w=true->w≠⟨#[]⟩/\qai qaO w=false:=by
 rw[qaH,qaH]
 intro h
 refine⟨?_,?_⟩
 ·rintro rfl
  exact absurd h (by decide)
 ·cases hh:(byl w).head? with
  | none=>rfl
  | some c=>
   rw[hh] at h
   simp only at h ⊢
   by_cases hl:qaO c=true
   ·rw[qny hl] at h; cases h
   ·simpa using hl
theorem qfD {w:ByteArray} (h:qai qaO w=true):w≠⟨#[]⟩:=by
 rintro rfl
 exact absurd h (by decide)
section
variable (s:ByteArray) (T:List Tk)
def IdK (n:Nat):Prop := ∀ (lv i:Nat) (t:Tk) (r:List Tk) (x:Rz E),lv<=20->T.drop i=t::r->t.bad=0->t.s≠⟨#[]⟩->qbs 12 2 true n lv r=some x->Out s T (Z tP (.call 280 [.ptr 0 0,.int lv] (PS s T i 0 12))) x E.node
variable {s:ByteArray} {T:List Tk}
theorem qq7 (hw:WfQ T) (hT:T.length<2 ^ 40) {n:Nat} (ihe:ExK s T n):IdK s T (n+1):=by
 intro lv i t r x hlv h hb hs hx
 obtain⟨n1,n2⟩:=hw.next h hb hs
 obtain⟨t1,r1,rfl⟩:=qaU n2
 rw[qbs] at hx
 have ho:=qgK (s:=s) hw hT n1 (x:=bs [91]) (by decide) (lv:=lv+1)
 cases hq:qcv 12 2 (bs [91]) (lv+1) (t1::r1) with
 | er a c=>
  rw[hq] at hx ho
  simp only[Option.some.injEq] at hx
  subst hx
  obtain⟨i',z⟩:=ho
  exact⟨i',qrr hlv hT h hb z⟩
 | ok u r2=>
  have hl1:=qjh hq
  rw[hq] at hx ho
  simp only at hx
  obtain⟨i',a1,a2,z⟩:=ho
  obtain⟨t2,r3,rfl⟩:=qaU a2
  cases hq2:qan 12 2 true n 1 (lv+1) (t2::r3) with
  | none=>rw[hq2] at hx; cases hx
  | some y=>
   rw[hq2] at hx
   have h2:=ihe 1 (lv+1) i' t2 r3 y (by omega) (by omega) hl1 a1 hq2
   cases y with
   | er a c=>
    simp only[Option.some.injEq] at hx
    subst hx
    obtain⟨i2,z2⟩:=h2
    exact⟨i2,qrs hlv hT h hb z z2⟩
   | ok e r4=>
    simp only at hx
    obtain⟨i2,b1,b2,z2⟩:=h2
    obtain⟨t3,r5,rfl⟩:=qaU b2
    have hc:=qcq (s:=s) hw hT b1 (x:=bs [93]) (by decide)
    cases hq3:qav 12 (bs [93]) (t3::r5) with
    | er a c=>
     rw[hq3] at hx hc
     simp only[Option.some.injEq] at hx
     subst hx
     obtain⟨i3,z3⟩:=hc
     exact⟨i3,qrt hlv hT h hb z z2 z3⟩
    | ok u2 r6=>
     rw[hq3] at hx hc
     simp only[Option.some.injEq] at hx
     subst hx
     obtain⟨i3,c1,c2,z3⟩:=hc
     exact⟨i3,c1,c2,qu6 hlv hT h hb z z2 z3⟩
theorem qq8 (hw:WfQ T) (hT:T.length<2 ^ 40) (hP : ∀ t∈T,TokP t) {n:Nat} (ihe:ExK s T n) (ihi:IdK s T n) {lv i:Nat} {t:Tk} {r:List Tk} {x:Rz E} (hlv:lv<=20) (h:T.drop i=t::r) (hx:qan 12 2 true (n+1) 8 lv (t::r)=some x):Out s T (Z tP (.call 309 [.ptr 0 0,.int lv] (PS s T i 0 12))) x E.node:=by
 by_cases hb:t.bad=0
 case neg=>
  have:=qn9 hb r (n+1) 8 lv x hx
  subst this
  exact⟨i,quF h hb⟩
 have hnx:nx (t::r)=some t.s:=if_pos hb
 have hmem:t∈T:=List.mem_of_mem_drop (by rw[h]; exact List.mem_cons_self ..)
 have hk:=qb4 hb
 rw[qan,if_neg (by rintro (h | h); exact absurd h.1 (by decide); exact absurd h.1 (by decide)),if_neg (by decide),hnx] at hx
 simp only[List.tail_cons] at hx
 have good : ∀ {e:E},t.s≠⟨#[]⟩->x = .ok e r->Z tP (.call 309 [.ptr 0 0,.int lv] (PS s T i 0 12))=some (.ret e.node (PS s T ((i+1:Nat):Int) 0 12))->Out s T (Z tP (.call 309 [.ptr 0 0,.int lv] (PS s T i 0 12))) x E.node:=fun hne hx z=>by
  subst hx
  obtain⟨n1,n2⟩:=hw.next h hb hne
  exact⟨i+1,n1,n2,z⟩
 by_cases hd:qai qaj t.s=true
 ·rw[if_pos hd] at hx
  obtain⟨d1,d2⟩:=qnE t.s hd
  have hv:=((hP t hmem).dig hb hd).2.1
  have hval:(valT t:Int)=digV t.s.toList:=by
   unfold valT
   rw[if_pos hd,ByteArray.toList_eq,byl]
   omega
  refine good d1 (Option.some.inj hx).symm ?_
  rw[<- hval]
  exact quG hT h hb (by rw[hk,qhe,if_neg d1,d2,if_neg (by decide),if_pos hd])
 rw[if_neg hd] at hx
 by_cases h1:t.s=bs [116,114,117,101]
 ·rw[if_pos h1] at hx
  refine good (by rw[h1]; decide) (Option.some.inj hx).symm (qsy hT h hb ?_ h1)
  rw[hk,h1]; decide
 rw[if_neg h1] at hx
 by_cases h2:t.s=bs [102,97,108,115,101]
 ·rw[if_pos h2] at hx
  refine good (by rw[h2]; decide) (Option.some.inj hx).symm (qqE hT h hb ?_ h2)
  rw[hk,h2]; decide
 rw[if_neg h2] at hx
 by_cases h3:t.s=bs [115,101,108,102]\/t.s=bs [111,116,104,101,114]\/t.s=bs [116,105,99,107]
 ·rw[if_pos h3] at hx
  have hm:t.s∈qdN:=by
   simp only[qdN,List.mem_cons,List.not_mem_nil,or_false]
   exact h3
  have hall : ∀ w∈qdN,qhe w=2/\w≠⟨#[]⟩:=by decide
  exact good (hall _ hm).2 (Option.some.inj hx).symm (qsz hT h hb (by rw[hk]; exact (hall _ hm).1) hm)
 rw[if_neg h3] at hx
 have n3:t.s∉qdN:=fun hm=>h3 (by
  simp only[qdN,List.mem_cons,List.not_mem_nil,or_false] at hm
  exact hm)
 by_cases hf:t.s∈fieldNames
 ·rw[if_pos hf] at hx
  have hall : ∀ w∈fieldNames,qhe w=3/\w≠⟨#[]⟩:=by decide
  have hk3:kindT t=3:=by rw[hk]; exact (hall _ hf).1
  cases hq:qbs 12 2 true n lv r with
  | none=>rw[hq] at hx; cases hx
  | some y=>
   rw[hq] at hx
   have hi:=ihi lv i t r y hlv h hb (hall _ hf).2 hq
   cases y with
   | er a c=>
    simp only[Option.some.injEq] at hx
    subst hx
    obtain⟨i',z⟩:=hi
    exact⟨i',qoQ h hb hk3 z⟩
   | ok e r'=>
    simp only[Option.some.injEq] at hx
    subst hx
    obtain⟨i',a1,a2,z⟩:=hi
    exact⟨i',a1,a2,quI h hb hk3 z⟩
 rw[if_neg hf] at hx
 by_cases hv:qai qaO t.s=true/\t.s∉wordNames
 ·rw[if_pos hv] at hx
  have hne:=qfD hv.1
  exact good hne (Option.some.inj hx).symm (quH hT h hb (by rw[hk,qhe,if_neg hne,if_pos hv.1,if_neg hf,if_neg hv.2]))
 rw[if_neg hv] at hx
 have hk5:kindT t=0\/kindT t=2\/kindT t=5:=by
  rw[hk,qhe]
  by_cases a1:t.s=⟨#[]⟩
  ·exact .inl (if_pos a1)
  ·rw[if_neg a1]
   by_cases a2:qai qaO t.s=true
   ·rw[if_pos a2,if_neg hf]
    by_cases a3:t.s∈wordNames
    ·rw[if_pos a3]; exact .inr (.inl rfl)
    ·exact absurd ⟨a2,a3⟩ hv
   ·rw[if_neg a2,if_neg hd]; exact .inr (.inr rfl)
 have d4:decide (kindT t=4)=false:=decide_eq_false (by omega)
 have d1:decide (kindT t=1)=false:=decide_eq_false (by omega)
 have d3:decide (kindT t=3)=false:=decide_eq_false (by omega)
 have ho:=qgK (s:=s) hw hT h (x:=bs [40]) (by decide) (lv:=lv+1)
 cases hq:qcv 12 2 (bs [40]) (lv+1) (t::r) with
 | er a c=>
  rw[hq] at hx ho
  simp only[Option.some.injEq] at hx
  subst hx
  obtain⟨i',z⟩:=ho
  exact⟨i',qro hlv h hb d4 d1 d3 h1 h2 n3 z⟩
 | ok u r2=>
  have hl1:=qjh hq
  rw[hq] at hx ho
  simp only at hx
  obtain⟨i',a1,a2,z⟩:=ho
  obtain⟨t2,r3,rfl⟩:=qaU a2
  cases hq2:qan 12 2 true n 1 (lv+1) (t2::r3) with
  | none=>rw[hq2] at hx; cases hx
  | some y=>
   rw[hq2] at hx
   have h2':=ihe 1 (lv+1) i' t2 r3 y (by omega) (by omega) hl1 a1 hq2
   cases y with
   | er a c=>
    simp only[Option.some.injEq] at hx
    subst hx
    obtain⟨i2,z2⟩:=h2'
    exact⟨i2,qrp hlv h hb d4 d1 d3 h1 h2 n3 z z2⟩
   | ok e r4=>
    simp only at hx
    obtain⟨i2,b1,b2,z2⟩:=h2'
    obtain⟨t3,r5,rfl⟩:=qaU b2
    have hc:=qcq (s:=s) hw hT b1 (x:=bs [41]) (by decide)
    cases hq3:qav 12 (bs [41]) (t3::r5) with
    | er a c=>
     rw[hq3] at hx hc
     simp only[Option.some.injEq] at hx
     subst hx
     obtain⟨i3,z3⟩:=hc
     exact⟨i3,qrq hlv h hb d4 d1 d3 h1 h2 n3 z z2 z3⟩
    | ok u2 r6=>
     rw[hq3] at hx hc
     simp only[Option.some.injEq] at hx
     subst hx
     obtain⟨i3,c1,c2,z3⟩:=hc
     exact⟨i3,c1,c2,qu5 hlv h hb d4 d1 d3 h1 h2 n3 z z2 z3⟩
theorem qnF (hw:WfQ T) (hT:T.length<2 ^ 40) (hP : ∀ t∈T,TokP t) : ∀ n,ExK s T n/\LoK s T n/\IdK s T n
 | 0=>⟨fun p lv i t r x _ _ _ _ hx=>by simp[qan] at hx,fun p lv i t r e x _ _ _ hx=>by simp[qcb] at hx,fun lv i t r x _ _ _ _ hx=>by simp[qbs] at hx⟩
 | n+1=>by
  obtain⟨ihe,ihl,ihi⟩:=qnF hw hT hP n
  refine⟨fun p lv i t r x p1 p8 hlv h hx=>?_,qr9 hw hT ihe ihl,qq7 hw hT ihe⟩
  obtain rfl | rfl | rfl | rfl | rfl | rfl | rfl | rfl:p=1\/p=2\/p=3\/p=4\/p=5\/p=6\/p=7\/p=8:=by omega
  ·exact qmb ihe ihl (.inl rfl) hlv h hx
  ·exact qmb ihe ihl (.inr (.inl rfl)) hlv h hx
  ·exact qs8 hw hT ihe (neg:=false) (.inl ⟨rfl,rfl⟩) hlv h hx
  ·exact qtG hw hT ihe hlv h hx
  ·exact qmb ihe ihl (.inr (.inr (.inl rfl))) hlv h hx
  ·exact qmb ihe ihl (.inr (.inr (.inr rfl))) hlv h hx
  ·exact qs8 hw hT ihe (neg:=true) (.inr ⟨rfl,rfl⟩) hlv h hx
  ·exact qq8 hw hT hP ihe ihi hlv h hx
end
end Go.Pm
end SKt
