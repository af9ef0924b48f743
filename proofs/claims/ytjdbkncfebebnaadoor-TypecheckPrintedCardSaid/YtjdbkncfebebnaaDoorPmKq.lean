/- Chapter 13's parser: operators before an operand, against the plain ones. Chapter 13's parser: operands and indices: the walks. Chapter 13's parser: brackets in expressions: the walks. Printed by ks.py. Chapter 13's parser: every expression is the plain one. Chapter 13's parser: a statement: the walks. Printed by ku.py. -/
import Derived.Test.YtjdbkncfebebnaaDoorPmKf
set_option linter.unusedSimpArgs false
set_option linter.unusedVariables false
section SKq
namespace Go.Pm
open F
set_option maxHeartbeats 2000000
theorem qjd {α : Type} {c:Nat} {ts:List Tk} {a : α} {r:List Tk} (h:qb8 (α := α) c ts = .ok a r):False:=by
 cases ts<;>simp[qb8] at h
theorem qje {x:ByteArray} {lv:Nat} {ts r:List Tk} {u:Unit} (h:qdF 12 2 x lv ts = .ok u r):lv<=20:=by
 by_cases h20:20<lv
 ·rw[qdF] at h
  by_cases hn:nx ts=some x
  ·rw[if_pos ⟨hn,h20⟩] at h
   exact (qjd h).elim
  ·rw[if_neg (fun e=>hn e.1)] at h
   cases ts with
   | nil=>rw[qaO] at h; exact (qjd h).elim
   | cons t r'=>
    simp only[qaO] at h
    by_cases hc:t.bad=0/\t.s=x
    ·exact absurd (show nx (t::r')=some x by rw[nx,if_pos hc.1,hc.2]) hn
    ·rw[if_neg hc] at h
     exact (qjd h).elim
 ·omega
section
variable {s:ByteArray} {T:List Tk} {lv i:Nat} {t:Tk} {r:List Tk}
theorem qaU {α : Type} {l:List α} (h:l≠[]) : ∃ a r,l=a::r:=by
 cases l with
 | nil=>exact absurd rfl h
 | cons a b=>exact⟨a,b,rfl⟩
theorem qtn (hw:WfQ T) (hT:T.length<2 ^ 40) {n:Nat} (ihe:ExK s T n) {p:Nat} {neg:Bool} (hp:p=3/\neg=false\/p=7/\neg=true) {x:Rz E} (hlv:lv<=20) (h:T.drop i=t::r) (hx:qao 12 2 true (n+1) p lv (t::r)=some x):Out s T (Z tP (.call (unF neg) [.ptr 0 0,.int lv] (PS s T i 0 12))) x E.node:=by
 have hF:fnP p=unF neg:=by rcases hp with ⟨rfl,rfl⟩ | ⟨rfl,rfl⟩<;>rfl
 have hG:fnP (p+1)=unG neg:=by rcases hp with ⟨rfl,rfl⟩ | ⟨rfl,rfl⟩<;>rfl
 have hp8:p<8/\1<=p:=by rcases hp with ⟨rfl,_⟩ | ⟨rfl,_⟩<;>omega
 by_cases hb:t.bad=0
 ·have hnx:nx (t::r)=some t.s:=if_pos hb
  by_cases hm:t.s=ustr neg
  ·have hcond:p=3/\nx (t::r)=some (ustr false)\/p=7/\nx (t::r)=some (ustr true):=by
    rw[hnx,hm]
    rcases hp with ⟨rfl,rfl⟩ | ⟨rfl,rfl⟩
    ·exact .inl ⟨rfl,rfl⟩
    ·exact .inr ⟨rfl,rfl⟩
   have h7:(p==7)=neg:=by rcases hp with ⟨rfl,rfl⟩ | ⟨rfl,rfl⟩<;>rfl
   rw[qao,if_pos hcond,h7] at hx
   have ho:=qgZ (s:=s) hw hT h (x:=ustr neg) (by cases neg<;>decide) (lv:=lv+1)
   cases hq:qdF 12 2 (ustr neg) (lv+1) (t::r) with
   | er a c=>
    rw[hq] at hx ho
    simp only[Option.some.injEq] at hx
    subst hx
    obtain⟨i',z⟩:=ho
    exact⟨i',qtK hlv h hb hm z⟩
   | ok u r1=>
    have hl1:=qje hq
    rw[hq] at hx ho
    simp only at hx
    obtain⟨i',a1,a2,z⟩:=ho
    obtain⟨t1,r2,rfl⟩:=qaU a2
    cases hq2:qao 12 2 true n p (lv+1) (t1::r2) with
    | none=>rw[hq2] at hx; cases hx
    | some y=>
     rw[hq2] at hx
     have h2:=ihe p (lv+1) i' t1 r2 y hp8.2 (by omega) hl1 a1 hq2
     rw[hF] at h2
     cases y with
     | er a c=>
      simp only[Option.some.injEq] at hx
      subst hx
      obtain⟨i2,z2⟩:=h2
      exact⟨i2,qvD hlv h hb hm z z2⟩
     | ok e r3=>
      simp only[Option.some.injEq] at hx
      subst hx
      obtain⟨i2,b1,b2,z2⟩:=h2
      exact⟨i2,b1,b2,qwK hlv h hb hm z z2⟩
  ·have hcond : ¬ (p=3/\nx (t::r)=some (ustr false)\/p=7/\nx (t::r)=some (ustr true)):=by
    rw[hnx]
    rcases hp with ⟨rfl,rfl⟩ | ⟨rfl,rfl⟩
    ·rintro (⟨_,h⟩ | ⟨h,_⟩)
     ·exact hm (Option.some.inj h)
     ·cases h
    ·rintro (⟨h,_⟩ | ⟨_,h⟩)
     ·cases h
     ·exact hm (Option.some.inj h)
   rw[qao,if_neg hcond,if_pos hp8.1] at hx
   cases hq:qao 12 2 true n (p+1) lv (t::r) with
   | none=>rw[hq] at hx; cases hx
   | some y=>
    rw[hq] at hx
    have h2:=ihe (p+1) lv i t r y (by omega) (by omega) hlv h hq
    rw[hG] at h2
    cases y with
    | er a c=>
     simp only[Option.some.injEq] at hx
     subst hx
     obtain⟨i2,z2⟩:=h2
     exact⟨i2,qrH h hb hm z2⟩
    | ok e r3=>
     simp only at hx
     obtain⟨i2,b1,b2,z2⟩:=h2
     cases n with
     | zero=>simp only[qao] at hq; cases hq
     | succ m=>
      have hxx:x = .ok e r3:=by
       rw[qcx] at hx
       cases hn3:nx r3 with
       | none=>
        rw[hn3] at hx
        simp only at hx
        rw[if_pos (by rcases hp with ⟨rfl,_⟩ | ⟨rfl,_⟩; exact .inl rfl; exact .inr rfl)] at hx
        exact (Option.some.inj hx).symm
       | some y=>
        rw[hn3] at hx
        have hop:qkL p y=none:=by rcases hp with ⟨rfl,_⟩ | ⟨rfl,_⟩<;>rfl
        simp only[hop] at hx
        exact (Option.some.inj hx).symm
      subst hxx
      exact⟨i2,b1,b2,qwJ h hb hm z2⟩
 ·have:=qnR hb r (n+1) p lv x hx
  subst this
  exact⟨i,qvC h hb⟩
end
end Go.Pm
end SKq
section SKr
namespace Go.Pm
open F
set_option maxHeartbeats 4000000
attribute [local simp] qa6 qbJ dkey
def qdv:ByteArray:=⟨#[116,114,117,101]⟩
def qcm:ByteArray:=⟨#[102,97,108,115,101]⟩
def qdE:List ByteArray:=[⟨#[115,101,108,102]⟩,⟨#[111,116,104,101,114]⟩,⟨#[116,105,99,107]⟩]
section
variable {s:ByteArray} {T:List Tk} {lv i i' i2 i3:Nat} {e e':E} {a c:Int} {t:Tk} {r:List Tk}
theorem quT (h:T.drop i=t::r) (hb:t.bad≠0):Z tP (.call 309 [.ptr 0 0,.int lv] (PS s T i 0 12))=some (.ret (qbc t.bad) (PS s T i t.at_ t.bad)):=by
 have zp:=qei (s:=s) (a:=0) (c:=12) h hb
 simp only[PS,pO] at zp
 refine qaa (pf:=F309) rfl rfl ?_
 simp[F309,zp,qaf,List.range_succ]
theorem quU (hT:T.length<2 ^ 40) (h:T.drop i=t::r) (hb:t.bad=0) (hk:kindT t=4):Z tP (.call 309 [.ptr 0 0,.int lv] (PS s T i 0 12))=some (.ret (E.int (valT t)).node (PS s T ((i+1:Nat):Int) 0 12)):=by
 have zp:=qau (s:=s) (a:=0) (c:=12) h hb
 have zt:=qaH (s:=s) (a:=0) (c:=12) h hb hT
 simp only[PS,pO,ptk,ptD,hk] at zp zt
 refine qaa (pf:=F309) rfl rfl ?_
 simp[F309,zp,zt,List.range_succ]
 try rfl
theorem quV (hT:T.length<2 ^ 40) (h:T.drop i=t::r) (hb:t.bad=0) (hk:kindT t=1):Z tP (.call 309 [.ptr 0 0,.int lv] (PS s T i 0 12))=some (.ret (E.var t.s).node (PS s T ((i+1:Nat):Int) 0 12)):=by
 have zp:=qau (s:=s) (a:=0) (c:=12) h hb
 have zt:=qaH (s:=s) (a:=0) (c:=12) h hb hT
 simp only[PS,pO,ptk,ptD,hk,qal hb] at zp zt
 refine qaa (pf:=F309) rfl rfl ?_
 simp[F309,zp,zt,List.range_succ]
 try rfl
theorem quW (h:T.drop i=t::r) (hb:t.bad=0) (hk:kindT t=3) (z:Z tP (.call 280 [.ptr 0 0,.int lv] (PS s T i 0 12))=some (.ret e.node (PS s T i' 0 12))):Z tP (.call 309 [.ptr 0 0,.int lv] (PS s T i 0 12))=some (.ret (E.field true t.s e).node (PS s T i' 0 12)):=by
 have zp:=qau (s:=s) (a:=0) (c:=12) h hb
 simp only[PS,pO,ptk,ptD,hk,qal hb] at zp z
 refine qaa (pf:=F309) rfl rfl ?_
 simp[F309,zp,z,qc5,qa3,qbn,qbN,qa4,still,V.same,List.range_succ]
 try rfl
theorem qoB (h:T.drop i=t::r) (hb:t.bad=0) (hk:kindT t=3) (z:Z tP (.call 280 [.ptr 0 0,.int lv] (PS s T i 0 12))=some (.ret (qbc c) (PS s T i' a c))):Z tP (.call 309 [.ptr 0 0,.int lv] (PS s T i 0 12))=some (.ret (qbc c) (PS s T i' a c)):=by
 have zp:=qau (s:=s) (a:=0) (c:=12) h hb
 simp only[PS,pO,ptk,ptD,hk,qal hb] at zp z
 refine qaa (pf:=F309) rfl rfl ?_
 simp[F309,zp,z,qaf,qaz,qc5,qa3,qbn,qbN,qa4,still,V.same,List.range_succ]
theorem qsG (hT:T.length<2 ^ 40) (h:T.drop i=t::r) (hb:t.bad=0) (hk:kindT t=2) (hm:t.s=qdv):Z tP (.call 309 [.ptr 0 0,.int lv] (PS s T i 0 12))=some (.ret (E.bool 1).node (PS s T ((i+1:Nat):Int) 0 12)):=by
 have zp:=qau (s:=s) (a:=0) (c:=12) h hb
 have zt:=qaH (s:=s) (a:=0) (c:=12) h hb hT
 have z1:=qaK (s:=s) (a:=0) (c:=12) h hb (qah [qdv] true) (by simp) (by decide)
 simp only[hm,List.mem_singleton,decide_true] at z1
 simp only[PS,pO,ptk,ptD,hk] at zp zt
 simp only[PS,pO,qdv,strC,List.map_cons,List.map_nil,List.length_singleton] at z1
 refine qaa (pf:=F309) rfl rfl ?_
 simp[F309,zp,zt,z1,List.range_succ]
 try rfl
theorem qqx (hT:T.length<2 ^ 40) (h:T.drop i=t::r) (hb:t.bad=0) (hk:kindT t=2) (hm:t.s=qcm):Z tP (.call 309 [.ptr 0 0,.int lv] (PS s T i 0 12))=some (.ret (E.bool 0).node (PS s T ((i+1:Nat):Int) 0 12)):=by
 have zp:=qau (s:=s) (a:=0) (c:=12) h hb
 have zt:=qaH (s:=s) (a:=0) (c:=12) h hb hT
 have z1:=qaK (s:=s) (a:=0) (c:=12) h hb (qah [qdv] true) (by simp) (by decide)
 have z2:=qaK (s:=s) (a:=0) (c:=12) h hb (qah [qcm] true) (by simp) (by decide)
 have hne:qcm≠qdv:=by decide
 simp only[hm,List.mem_singleton,hne,decide_false,decide_true] at z1 z2
 simp only[PS,pO,ptk,ptD,hk] at zp zt
 simp only[PS,pO,qdv,qcm,strC,List.map_cons,List.map_nil,List.length_singleton] at z1 z2
 refine qaa (pf:=F309) rfl rfl ?_
 simp[F309,zp,zt,z1,z2,List.range_succ]
 try rfl
theorem qsH (hT:T.length<2 ^ 40) (h:T.drop i=t::r) (hb:t.bad=0) (hk:kindT t=2) (hm:t.s∈qdE):Z tP (.call 309 [.ptr 0 0,.int lv] (PS s T i 0 12))=some (.ret (E.name t.s).node (PS s T ((i+1:Nat):Int) 0 12)):=by
 have zp:=qau (s:=s) (a:=0) (c:=12) h hb
 have zt:=qaH (s:=s) (a:=0) (c:=12) h hb hT
 have z1:=qaK (s:=s) (a:=0) (c:=12) h hb (qah [qdv] true) (by simp) (by decide)
 have z2:=qaK (s:=s) (a:=0) (c:=12) h hb (qah [qcm] true) (by simp) (by decide)
 have z3:=qaK (s:=s) (a:=0) (c:=12) h hb (qah qdE true) (by decide) (by decide)
 have n1:t.s≠qdv:=fun e=>absurd (e ▸ hm) (by decide)
 have n2:t.s≠qcm:=fun e=>absurd (e ▸ hm) (by decide)
 simp only[hm,List.mem_singleton,n1,n2,decide_false,decide_true] at z1 z2 z3
 simp only[PS,pO,ptk,ptD,hk,qal hb] at zp zt
 simp only[PS,pO,qdv,qcm,qdE,strC,List.map_cons,List.map_nil,List.length_cons,List.length_nil] at z1 z2 z3
 refine qaa (pf:=F309) rfl rfl ?_
 simp[F309,zp,zt,z1,z2,z3,List.range_succ]
 try rfl
end
end Go.Pm
end SKr
section SKs
namespace Go.Pm
open F
set_option maxHeartbeats 4000000
attribute [local simp] qa6 qbJ dkey
section
variable {s:ByteArray} {T:List Tk} {lv i i' i2 i3:Nat} {e:E} {a c:Int} {t:Tk} {r:List Tk}
theorem qro (hlv:lv<=20) (h:T.drop i=t::r) (hb:t.bad=0) (h4:decide (kindT t=4)=false) (h1:decide (kindT t=1)=false) (h3:decide (kindT t=3)=false) (n1:t.s≠qdv) (n2:t.s≠qcm) (n3:t.s∉qdE)
  (zo:Z tP (.call 270 [.ptr 0 0,.str ⟨#[40]⟩,.int ((lv+1:Nat):Int)] (PS s T i 0 12))=some (.ret (qbc c) (PS s T i' a c))):Z tP (.call 309 [.ptr 0 0,.int lv] (PS s T i 0 12))=some (.ret (qbc c) (PS s T i' a c)):=by
 have w1:=qag ((lv:Int)+1) (by omega)
 have zp:=qau (s:=s) (a:=0) (c:=12) h hb
 have z1:=qaK (s:=s) (a:=0) (c:=12) h hb (qah [qdv] true) (by simp) (by decide)
 have z2:=qaK (s:=s) (a:=0) (c:=12) h hb (qah [qcm] true) (by simp) (by decide)
 have z3:=qaK (s:=s) (a:=0) (c:=12) h hb (qah qdE true) (by decide) (by decide)
 simp only[List.mem_singleton,n1,n2,n3,decide_false] at z1 z2 z3
 simp only[PS,pO,ptk,ptD,qal hb] at zp
 simp only[PS,pO,qdv,qcm,qdE,strC,List.map_cons,List.map_nil,List.length_cons,List.length_nil] at z1 z2 z3
 simp only[PS,pO] at zo
 simp only[Int.natCast_add,Int.cast_ofNat_Int] at zo
 refine qaa (pf:=F309) rfl rfl ?_
 simp[F309,zp,z1,z2,z3,h4,h1,h3,w1,zo,qaf,List.range_succ]
theorem qrp (hlv:lv<=20) (h:T.drop i=t::r) (hb:t.bad=0) (h4:decide (kindT t=4)=false) (h1:decide (kindT t=1)=false) (h3:decide (kindT t=3)=false) (n1:t.s≠qdv) (n2:t.s≠qcm) (n3:t.s∉qdE)
  (zo:Z tP (.call 270 [.ptr 0 0,.str ⟨#[40]⟩,.int ((lv+1:Nat):Int)] (PS s T i 0 12))=some (.ret (.tup []) (PS s T i' 0 12)))
  (ze:Z tP (.call 279 [.ptr 0 0,.int ((lv+1:Nat):Int)] (PS s T i' 0 12))=some (.ret (qbc c) (PS s T i2 a c))):Z tP (.call 309 [.ptr 0 0,.int lv] (PS s T i 0 12))=some (.ret (qbc c) (PS s T i2 a c)):=by
 have w1:=qag ((lv:Int)+1) (by omega)
 have zp:=qau (s:=s) (a:=0) (c:=12) h hb
 have z1:=qaK (s:=s) (a:=0) (c:=12) h hb (qah [qdv] true) (by simp) (by decide)
 have z2:=qaK (s:=s) (a:=0) (c:=12) h hb (qah [qcm] true) (by simp) (by decide)
 have z3:=qaK (s:=s) (a:=0) (c:=12) h hb (qah qdE true) (by decide) (by decide)
 simp only[List.mem_singleton,n1,n2,n3,decide_false] at z1 z2 z3
 simp only[PS,pO,ptk,ptD,qal hb] at zp
 simp only[PS,pO,qdv,qcm,qdE,strC,List.map_cons,List.map_nil,List.length_cons,List.length_nil] at z1 z2 z3
 simp only[PS,pO] at zo ze
 simp only[Int.natCast_add,Int.cast_ofNat_Int] at zo ze
 refine qaa (pf:=F309) rfl rfl ?_
 simp[F309,zp,z1,z2,z3,h4,h1,h3,w1,zo,ze,qaf,List.range_succ]
theorem qrq (hlv:lv<=20) (h:T.drop i=t::r) (hb:t.bad=0) (h4:decide (kindT t=4)=false) (h1:decide (kindT t=1)=false) (h3:decide (kindT t=3)=false) (n1:t.s≠qdv) (n2:t.s≠qcm) (n3:t.s∉qdE)
  (zo:Z tP (.call 270 [.ptr 0 0,.str ⟨#[40]⟩,.int ((lv+1:Nat):Int)] (PS s T i 0 12))=some (.ret (.tup []) (PS s T i' 0 12)))
  (ze:Z tP (.call 279 [.ptr 0 0,.int ((lv+1:Nat):Int)] (PS s T i' 0 12))=some (.ret e.node (PS s T i2 0 12)))
  (zc:Z tP (.call 253 [.ptr 0 0,.str ⟨#[41]⟩] (PS s T i2 0 12))=some (.ret (qbc c) (PS s T i3 a c))):Z tP (.call 309 [.ptr 0 0,.int lv] (PS s T i 0 12))=some (.ret (qbc c) (PS s T i3 a c)):=by
 have w1:=qag ((lv:Int)+1) (by omega)
 have zp:=qau (s:=s) (a:=0) (c:=12) h hb
 have z1:=qaK (s:=s) (a:=0) (c:=12) h hb (qah [qdv] true) (by simp) (by decide)
 have z2:=qaK (s:=s) (a:=0) (c:=12) h hb (qah [qcm] true) (by simp) (by decide)
 have z3:=qaK (s:=s) (a:=0) (c:=12) h hb (qah qdE true) (by decide) (by decide)
 simp only[List.mem_singleton,n1,n2,n3,decide_false] at z1 z2 z3
 simp only[PS,pO,ptk,ptD,qal hb] at zp
 simp only[PS,pO,qdv,qcm,qdE,strC,List.map_cons,List.map_nil,List.length_cons,List.length_nil] at z1 z2 z3
 simp only[PS,pO] at zo ze zc
 simp only[Int.natCast_add,Int.cast_ofNat_Int] at zo ze
 refine qaa (pf:=F309) rfl rfl ?_
 simp[F309,zp,z1,z2,z3,h4,h1,h3,w1,zo,ze,zc,qaf,List.range_succ]
theorem qvv (hlv:lv<=20) (h:T.drop i=t::r) (hb:t.bad=0) (h4:decide (kindT t=4)=false) (h1:decide (kindT t=1)=false) (h3:decide (kindT t=3)=false) (n1:t.s≠qdv) (n2:t.s≠qcm) (n3:t.s∉qdE)
  (zo:Z tP (.call 270 [.ptr 0 0,.str ⟨#[40]⟩,.int ((lv+1:Nat):Int)] (PS s T i 0 12))=some (.ret (.tup []) (PS s T i' 0 12)))
  (ze:Z tP (.call 279 [.ptr 0 0,.int ((lv+1:Nat):Int)] (PS s T i' 0 12))=some (.ret e.node (PS s T i2 0 12)))
  (zc:Z tP (.call 253 [.ptr 0 0,.str ⟨#[41]⟩] (PS s T i2 0 12))=some (.ret (.tup []) (PS s T i3 0 12))):Z tP (.call 309 [.ptr 0 0,.int lv] (PS s T i 0 12))=some (.ret e.node (PS s T i3 0 12)):=by
 have w1:=qag ((lv:Int)+1) (by omega)
 have zp:=qau (s:=s) (a:=0) (c:=12) h hb
 have z1:=qaK (s:=s) (a:=0) (c:=12) h hb (qah [qdv] true) (by simp) (by decide)
 have z2:=qaK (s:=s) (a:=0) (c:=12) h hb (qah [qcm] true) (by simp) (by decide)
 have z3:=qaK (s:=s) (a:=0) (c:=12) h hb (qah qdE true) (by decide) (by decide)
 simp only[List.mem_singleton,n1,n2,n3,decide_false] at z1 z2 z3
 simp only[PS,pO,ptk,ptD,qal hb] at zp
 simp only[PS,pO,qdv,qcm,qdE,strC,List.map_cons,List.map_nil,List.length_cons,List.length_nil] at z1 z2 z3
 simp only[PS,pO] at zo ze zc
 simp only[Int.natCast_add,Int.cast_ofNat_Int] at zo ze
 refine qaa (pf:=F309) rfl rfl ?_
 simp[F309,zp,z1,z2,z3,h4,h1,h3,w1,zo,ze,zc,qaf,List.range_succ]
theorem qrr (hlv:lv<=20) (hT:T.length<2 ^ 40) (h:T.drop i=t::r) (hb:t.bad=0)
  (zo:Z tP (.call 270 [.ptr 0 0,.str ⟨#[91]⟩,.int ((lv+1:Nat):Int)] (PS s T ((i+1:Nat):Int) 0 12))=some (.ret (qbc c) (PS s T i' a c))):Z tP (.call 280 [.ptr 0 0,.int lv] (PS s T i 0 12))=some (.ret (qbc c) (PS s T i' a c)):=by
 have w1:=qag ((lv:Int)+1) (by omega)
 have zt:=qaH (s:=s) (a:=0) (c:=12) h hb hT
 simp only[PS,pO,ptk,ptD] at zt
 simp only[Int.natCast_add,Int.cast_ofNat_Int] at zt
 simp only[PS,pO] at zo
 simp only[Int.natCast_add,Int.cast_ofNat_Int] at zo
 refine qaa (pf:=F280) rfl rfl ?_
 simp[F280,zt,w1,zo,qaf,List.range_succ]
theorem qrs (hlv:lv<=20) (hT:T.length<2 ^ 40) (h:T.drop i=t::r) (hb:t.bad=0)
  (zo:Z tP (.call 270 [.ptr 0 0,.str ⟨#[91]⟩,.int ((lv+1:Nat):Int)] (PS s T ((i+1:Nat):Int) 0 12))=some (.ret (.tup []) (PS s T i' 0 12)))
  (ze:Z tP (.call 279 [.ptr 0 0,.int ((lv+1:Nat):Int)] (PS s T i' 0 12))=some (.ret (qbc c) (PS s T i2 a c))):Z tP (.call 280 [.ptr 0 0,.int lv] (PS s T i 0 12))=some (.ret (qbc c) (PS s T i2 a c)):=by
 have w1:=qag ((lv:Int)+1) (by omega)
 have zt:=qaH (s:=s) (a:=0) (c:=12) h hb hT
 simp only[PS,pO,ptk,ptD] at zt
 simp only[Int.natCast_add,Int.cast_ofNat_Int] at zt
 simp only[PS,pO] at zo ze
 simp only[Int.natCast_add,Int.cast_ofNat_Int] at zo ze
 refine qaa (pf:=F280) rfl rfl ?_
 simp[F280,zt,w1,zo,ze,qaf,List.range_succ]
theorem qrt (hlv:lv<=20) (hT:T.length<2 ^ 40) (h:T.drop i=t::r) (hb:t.bad=0)
  (zo:Z tP (.call 270 [.ptr 0 0,.str ⟨#[91]⟩,.int ((lv+1:Nat):Int)] (PS s T ((i+1:Nat):Int) 0 12))=some (.ret (.tup []) (PS s T i' 0 12)))
  (ze:Z tP (.call 279 [.ptr 0 0,.int ((lv+1:Nat):Int)] (PS s T i' 0 12))=some (.ret e.node (PS s T i2 0 12)))
  (zc:Z tP (.call 253 [.ptr 0 0,.str ⟨#[93]⟩] (PS s T i2 0 12))=some (.ret (qbc c) (PS s T i3 a c))):Z tP (.call 280 [.ptr 0 0,.int lv] (PS s T i 0 12))=some (.ret (qbc c) (PS s T i3 a c)):=by
 have w1:=qag ((lv:Int)+1) (by omega)
 have zt:=qaH (s:=s) (a:=0) (c:=12) h hb hT
 simp only[PS,pO,ptk,ptD] at zt
 simp only[Int.natCast_add,Int.cast_ofNat_Int] at zt
 simp only[PS,pO] at zo ze zc
 simp only[Int.natCast_add,Int.cast_ofNat_Int] at zo ze
 refine qaa (pf:=F280) rfl rfl ?_
 simp[F280,zt,w1,zo,ze,zc,qaf,List.range_succ]
theorem qvw (hlv:lv<=20) (hT:T.length<2 ^ 40) (h:T.drop i=t::r) (hb:t.bad=0)
  (zo:Z tP (.call 270 [.ptr 0 0,.str ⟨#[91]⟩,.int ((lv+1:Nat):Int)] (PS s T ((i+1:Nat):Int) 0 12))=some (.ret (.tup []) (PS s T i' 0 12)))
  (ze:Z tP (.call 279 [.ptr 0 0,.int ((lv+1:Nat):Int)] (PS s T i' 0 12))=some (.ret e.node (PS s T i2 0 12)))
  (zc:Z tP (.call 253 [.ptr 0 0,.str ⟨#[93]⟩] (PS s T i2 0 12))=some (.ret (.tup []) (PS s T i3 0 12))):Z tP (.call 280 [.ptr 0 0,.int lv] (PS s T i 0 12))=some (.ret e.node (PS s T i3 0 12)):=by
 have w1:=qag ((lv:Int)+1) (by omega)
 have zt:=qaH (s:=s) (a:=0) (c:=12) h hb hT
 simp only[PS,pO,ptk,ptD] at zt
 simp only[Int.natCast_add,Int.cast_ofNat_Int] at zt
 simp only[PS,pO] at zo ze zc
 simp only[Int.natCast_add,Int.cast_ofNat_Int] at zo ze
 refine qaa (pf:=F280) rfl rfl ?_
 simp[F280,zt,w1,zo,ze,zc,qaf,List.range_succ]
end
end Go.Pm
end SKs
section SKt
namespace Go.Pm
open F
set_option maxHeartbeats 2000000
def qht (w:ByteArray):Int:=if w=⟨#[]⟩ then 0 else if qax qaQ w then (if w∈fieldNames then 3 else if w∈wordNames then 2 else 1) else if qax qas w then 4 else 5
theorem qbW {t:Tk} (hb:t.bad=0):kindT t=qht t.s:=by unfold kindT qht; rw[if_neg (by simp[hb])]
theorem qno (w:ByteArray):qax qas w=true->w≠⟨#[]⟩/\qax qaQ w=false:=by
 rw[qby,qby]
 intro h
 refine⟨?_,?_⟩
 ·rintro rfl
  exact absurd h (by decide)
 ·cases hh:(byl w).head? with
  | none=>rfl
  | some c=>
   rw[hh] at h
   simp only at h ⊢
   by_cases hl:qaQ c=true
   ·rw[qnh hl] at h; cases h
   ·simpa using hl
theorem qfL {w:ByteArray} (h:qax qaQ w=true):w≠⟨#[]⟩:=by
 rintro rfl
 exact absurd h (by decide)
section
variable (s:ByteArray) (T:List Tk)
def IdK (n:Nat):Prop := ∀ (lv i:Nat) (t:Tk) (r:List Tk) (x:Rz E),lv<=20->T.drop i=t::r->t.bad=0->t.s≠⟨#[]⟩->qb1 12 2 true n lv r=some x->Out s T (Z tP (.call 280 [.ptr 0 0,.int lv] (PS s T i 0 12))) x E.node
variable {s:ByteArray} {T:List Tk}
theorem qq0 (hw:WfQ T) (hT:T.length<2 ^ 40) {n:Nat} (ihe:ExK s T n):IdK s T (n+1):=by
 intro lv i t r x hlv h hb hs hx
 obtain⟨n1,n2⟩:=hw.next h hb hs
 obtain⟨t1,r1,rfl⟩:=qaU n2
 rw[qb1] at hx
 have ho:=qgZ (s:=s) hw hT n1 (x:=bs [91]) (by decide) (lv:=lv+1)
 cases hq:qdF 12 2 (bs [91]) (lv+1) (t1::r1) with
 | er a c=>
  rw[hq] at hx ho
  simp only[Option.some.injEq] at hx
  subst hx
  obtain⟨i',z⟩:=ho
  exact⟨i',qrr hlv hT h hb z⟩
 | ok u r2=>
  have hl1:=qje hq
  rw[hq] at hx ho
  simp only at hx
  obtain⟨i',a1,a2,z⟩:=ho
  obtain⟨t2,r3,rfl⟩:=qaU a2
  cases hq2:qao 12 2 true n 1 (lv+1) (t2::r3) with
  | none=>rw[hq2] at hx; cases hx
  | some y=>
   rw[hq2] at hx
   have h2:=ihe 1 (lv+1) i' t2 r3 y (by omega) (by omega) hl1 a1 hq2
   cases y with
   | er a c=>
    simp only[Option.some.injEq] at hx
    subst hx
    obtain⟨i2,z2⟩:=h2
    exact⟨i2,qrs hlv hT h hb z z2⟩
   | ok e r4=>
    simp only at hx
    obtain⟨i2,b1,b2,z2⟩:=h2
    obtain⟨t3,r5,rfl⟩:=qaU b2
    have hc:=qck (s:=s) hw hT b1 (x:=bs [93]) (by decide)
    cases hq3:qaO 12 (bs [93]) (t3::r5) with
    | er a c=>
     rw[hq3] at hx hc
     simp only[Option.some.injEq] at hx
     subst hx
     obtain⟨i3,z3⟩:=hc
     exact⟨i3,qrt hlv hT h hb z z2 z3⟩
    | ok u2 r6=>
     rw[hq3] at hx hc
     simp only[Option.some.injEq] at hx
     subst hx
     obtain⟨i3,c1,c2,z3⟩:=hc
     exact⟨i3,c1,c2,qvw hlv hT h hb z z2 z3⟩
theorem qq1 (hw:WfQ T) (hT:T.length<2 ^ 40) (hP : ∀ t∈T,TokP t) {n:Nat} (ihe:ExK s T n) (ihi:IdK s T n) {lv i:Nat} {t:Tk} {r:List Tk} {x:Rz E} (hlv:lv<=20) (h:T.drop i=t::r) (hx:qao 12 2 true (n+1) 8 lv (t::r)=some x):Out s T (Z tP (.call 309 [.ptr 0 0,.int lv] (PS s T i 0 12))) x E.node:=by
 by_cases hb:t.bad=0
 case neg=>
  have:=qnR hb r (n+1) 8 lv x hx
  subst this
  exact⟨i,quT h hb⟩
 have hnx:nx (t::r)=some t.s:=if_pos hb
 have hmem:t∈T:=List.mem_of_mem_drop (by rw[h]; exact List.mem_cons_self ..)
 have hk:=qbW hb
 rw[qao,if_neg (by rintro (h | h); exact absurd h.1 (by decide); exact absurd h.1 (by decide)),if_neg (by decide),hnx] at hx
 simp only[List.tail_cons] at hx
 have good : ∀ {e:E},t.s≠⟨#[]⟩->x = .ok e r->Z tP (.call 309 [.ptr 0 0,.int lv] (PS s T i 0 12))=some (.ret e.node (PS s T ((i+1:Nat):Int) 0 12))->Out s T (Z tP (.call 309 [.ptr 0 0,.int lv] (PS s T i 0 12))) x E.node:=fun hne hx z=>by
  subst hx
  obtain⟨n1,n2⟩:=hw.next h hb hne
  exact⟨i+1,n1,n2,z⟩
 by_cases hd:qax qas t.s=true
 ·rw[if_pos hd] at hx
  obtain⟨d1,d2⟩:=qno t.s hd
  have hv:=((hP t hmem).dig hb hd).2.1
  have hval:(valT t:Int)=digV t.s.toList:=by
   unfold valT
   rw[if_pos hd,ByteArray.toList_eq,byl]
   omega
  refine good d1 (Option.some.inj hx).symm ?_
  rw[<- hval]
  exact quU hT h hb (by rw[hk,qht,if_neg d1,d2,if_neg (by decide),if_pos hd])
 rw[if_neg hd] at hx
 by_cases h1:t.s=bs [116,114,117,101]
 ·rw[if_pos h1] at hx
  refine good (by rw[h1]; decide) (Option.some.inj hx).symm (qsG hT h hb ?_ h1)
  rw[hk,h1]; decide
 rw[if_neg h1] at hx
 by_cases h2:t.s=bs [102,97,108,115,101]
 ·rw[if_pos h2] at hx
  refine good (by rw[h2]; decide) (Option.some.inj hx).symm (qqx hT h hb ?_ h2)
  rw[hk,h2]; decide
 rw[if_neg h2] at hx
 by_cases h3:t.s=bs [115,101,108,102]\/t.s=bs [111,116,104,101,114]\/t.s=bs [116,105,99,107]
 ·rw[if_pos h3] at hx
  have hm:t.s∈qdE:=by
   simp only[qdE,List.mem_cons,List.not_mem_nil,or_false]
   exact h3
  have hall : ∀ w∈qdE,qht w=2/\w≠⟨#[]⟩:=by decide
  exact good (hall _ hm).2 (Option.some.inj hx).symm (qsH hT h hb (by rw[hk]; exact (hall _ hm).1) hm)
 rw[if_neg h3] at hx
 have n3:t.s∉qdE:=fun hm=>h3 (by
  simp only[qdE,List.mem_cons,List.not_mem_nil,or_false] at hm
  exact hm)
 by_cases hf:t.s∈fieldNames
 ·rw[if_pos hf] at hx
  have hall : ∀ w∈fieldNames,qht w=3/\w≠⟨#[]⟩:=by decide
  have hk3:kindT t=3:=by rw[hk]; exact (hall _ hf).1
  cases hq:qb1 12 2 true n lv r with
  | none=>rw[hq] at hx; cases hx
  | some y=>
   rw[hq] at hx
   have hi:=ihi lv i t r y hlv h hb (hall _ hf).2 hq
   cases y with
   | er a c=>
    simp only[Option.some.injEq] at hx
    subst hx
    obtain⟨i',z⟩:=hi
    exact⟨i',qoB h hb hk3 z⟩
   | ok e r'=>
    simp only[Option.some.injEq] at hx
    subst hx
    obtain⟨i',a1,a2,z⟩:=hi
    exact⟨i',a1,a2,quW h hb hk3 z⟩
 rw[if_neg hf] at hx
 by_cases hv:qax qaQ t.s=true/\t.s∉wordNames
 ·rw[if_pos hv] at hx
  have hne:=qfL hv.1
  exact good hne (Option.some.inj hx).symm (quV hT h hb (by rw[hk,qht,if_neg hne,if_pos hv.1,if_neg hf,if_neg hv.2]))
 rw[if_neg hv] at hx
 have hk5:kindT t=0\/kindT t=2\/kindT t=5:=by
  rw[hk,qht]
  by_cases a1:t.s=⟨#[]⟩
  ·exact .inl (if_pos a1)
  ·rw[if_neg a1]
   by_cases a2:qax qaQ t.s=true
   ·rw[if_pos a2,if_neg hf]
    by_cases a3:t.s∈wordNames
    ·rw[if_pos a3]; exact .inr (.inl rfl)
    ·exact absurd ⟨a2,a3⟩ hv
   ·rw[if_neg a2,if_neg hd]; exact .inr (.inr rfl)
 have d4:decide (kindT t=4)=false:=decide_eq_false (by omega)
 have d1:decide (kindT t=1)=false:=decide_eq_false (by omega)
 have d3:decide (kindT t=3)=false:=decide_eq_false (by omega)
 have ho:=qgZ (s:=s) hw hT h (x:=bs [40]) (by decide) (lv:=lv+1)
 cases hq:qdF 12 2 (bs [40]) (lv+1) (t::r) with
 | er a c=>
  rw[hq] at hx ho
  simp only[Option.some.injEq] at hx
  subst hx
  obtain⟨i',z⟩:=ho
  exact⟨i',qro hlv h hb d4 d1 d3 h1 h2 n3 z⟩
 | ok u r2=>
  have hl1:=qje hq
  rw[hq] at hx ho
  simp only at hx
  obtain⟨i',a1,a2,z⟩:=ho
  obtain⟨t2,r3,rfl⟩:=qaU a2
  cases hq2:qao 12 2 true n 1 (lv+1) (t2::r3) with
  | none=>rw[hq2] at hx; cases hx
  | some y=>
   rw[hq2] at hx
   have h2':=ihe 1 (lv+1) i' t2 r3 y (by omega) (by omega) hl1 a1 hq2
   cases y with
   | er a c=>
    simp only[Option.some.injEq] at hx
    subst hx
    obtain⟨i2,z2⟩:=h2'
    exact⟨i2,qrp hlv h hb d4 d1 d3 h1 h2 n3 z z2⟩
   | ok e r4=>
    simp only at hx
    obtain⟨i2,b1,b2,z2⟩:=h2'
    obtain⟨t3,r5,rfl⟩:=qaU b2
    have hc:=qck (s:=s) hw hT b1 (x:=bs [41]) (by decide)
    cases hq3:qaO 12 (bs [41]) (t3::r5) with
    | er a c=>
     rw[hq3] at hx hc
     simp only[Option.some.injEq] at hx
     subst hx
     obtain⟨i3,z3⟩:=hc
     exact⟨i3,qrq hlv h hb d4 d1 d3 h1 h2 n3 z z2 z3⟩
    | ok u2 r6=>
     rw[hq3] at hx hc
     simp only[Option.some.injEq] at hx
     subst hx
     obtain⟨i3,c1,c2,z3⟩:=hc
     exact⟨i3,c1,c2,qvv hlv h hb d4 d1 d3 h1 h2 n3 z z2 z3⟩
theorem qnp (hw:WfQ T) (hT:T.length<2 ^ 40) (hP : ∀ t∈T,TokP t) : ∀ n,ExK s T n/\LoK s T n/\IdK s T n
 | 0=>⟨fun p lv i t r x _ _ _ _ hx=>by simp[qao] at hx,fun p lv i t r e x _ _ _ hx=>by simp[qcx] at hx,fun lv i t r x _ _ _ _ hx=>by simp[qb1] at hx⟩
 | n+1=>by
  obtain⟨ihe,ihl,ihi⟩:=qnp hw hT hP n
  refine⟨fun p lv i t r x p1 p8 hlv h hx=>?_,qsl hw hT ihe ihl,qq0 hw hT ihe⟩
  obtain rfl | rfl | rfl | rfl | rfl | rfl | rfl | rfl:p=1\/p=2\/p=3\/p=4\/p=5\/p=6\/p=7\/p=8:=by omega
  ·exact qma ihe ihl (.inl rfl) hlv h hx
  ·exact qma ihe ihl (.inr (.inl rfl)) hlv h hx
  ·exact qtn hw hT ihe (neg:=false) (.inl ⟨rfl,rfl⟩) hlv h hx
  ·exact qtY hw hT ihe hlv h hx
  ·exact qma ihe ihl (.inr (.inr (.inl rfl))) hlv h hx
  ·exact qma ihe ihl (.inr (.inr (.inr rfl))) hlv h hx
  ·exact qtn hw hT ihe (neg:=true) (.inr ⟨rfl,rfl⟩) hlv h hx
  ·exact qq1 hw hT hP ihe ihi hlv h hx
end
end Go.Pm
end SKt
section SKu
namespace Go.Pm
open F
set_option maxHeartbeats 4000000
attribute [local simp] qa6 qbJ dkey
def ifT:ByteArray:=⟨#[105,102]⟩
def qaV:ByteArray:=⟨#[119,104,105,108,101]⟩
def qaM:ByteArray:=⟨#[101,102,102,101,99,116]⟩
def qe1:ByteArray:=⟨#[115,116,111,112]⟩
abbrev nv (k:Int) (x:ByteArray) (d:D):V := .dat (.agg [.lit (.int .i64 k),.lit (.int .i64 0),.lit (.string x),d])
abbrev cE (e:E):List D:=[.lit (.int .i64 e.kind),.lit (.int .i64 e.num),.lit (.string e.str),e.kids]
section
variable {s:ByteArray} {T:List Tk} {lv i i1 i2 i3 i4:Nat} {e e':E} {a c:Int} {t:Tk} {r:List Tk} {d:D}
theorem quR {k:Int} {x:ByteArray} (o:V.one (.dat d)=true) (oc:V.cells (.dat d)=[.dat d]) (z:Z tP (.call 253 [.ptr 0 0,.str ⟨#[59]⟩] (PS s T i 0 12))=some (.ret (.tup []) (PS s T i1 0 12))):Z tP (.call 278 [.ptr 0 0,nv k x d] (PS s T i 0 12))=some (.ret (nv k x d) (PS s T i1 0 12)):=by
 simp only[PS,pO] at z
 refine qaa (pf:=F278) rfl rfl ?_
 simp[F278,z,o,oc,List.range_succ]
theorem qsE {k:Int} {x:ByteArray} (o:V.one (.dat d)=true) (oc:V.cells (.dat d)=[.dat d]) (z:Z tP (.call 253 [.ptr 0 0,.str ⟨#[59]⟩] (PS s T i 0 12))=some (.ret (qbc c) (PS s T i1 a c))):Z tP (.call 278 [.ptr 0 0,nv k x d] (PS s T i 0 12))=some (.ret (qbc c) (PS s T i1 a c)):=by
 simp only[PS,pO] at z
 refine qaa (pf:=F278) rfl rfl ?_
 simp[F278,z,o,oc,qaf,List.range_succ]
theorem qi2 (hlv:lv<=20) (hT:T.length<2 ^ 40) (h:T.drop i=t::r) (hb:t.bad=0) (hk:kindT t=1)
  (z1:Z tP (.call 253 [.ptr 0 0,.str ⟨#[61]⟩] (PS s T ((i+1:Nat):Int) 0 12))=some (.ret (qbc c) (PS s T i1 a c))):Z tP (.call 271 [.ptr 0 0,.int lv] (PS s T i 0 12))=some (.ret (qbc c) (PS s T i1 a c)):=by
 have w1:=qag ((lv:Int)+1) (by omega)
 have zp:=qau (s:=s) (a:=0) (c:=12) h hb
 have zt:=qaH (s:=s) (a:=0) (c:=12) h hb hT
 simp only[PS,pO,ptk,ptD,hk,qal hb] at zp zt
 simp only[PS,pO,cE,nv,List.cons_append,List.nil_append] at z1
 try simp only[Int.natCast_add,Int.cast_ofNat_Int] at zt z1
 refine qaa (pf:=F271) rfl rfl ?_
 simp[F271,zp,zt,w1,z1,qaf,qaz,qc5,qa3,qbn,qbN,qa4,still,V.same,List.range_succ]
theorem qi3 (hlv:lv<=20) (hT:T.length<2 ^ 40) (h:T.drop i=t::r) (hb:t.bad=0) (hk:kindT t=1)
  (z1:Z tP (.call 253 [.ptr 0 0,.str ⟨#[61]⟩] (PS s T ((i+1:Nat):Int) 0 12))=some (.ret (.tup []) (PS s T i1 0 12)))
  (z2:Z tP (.call 279 [.ptr 0 0,.int lv] (PS s T i1 0 12))=some (.ret (qbc c) (PS s T i2 a c))):Z tP (.call 271 [.ptr 0 0,.int lv] (PS s T i 0 12))=some (.ret (qbc c) (PS s T i2 a c)):=by
 have w1:=qag ((lv:Int)+1) (by omega)
 have zp:=qau (s:=s) (a:=0) (c:=12) h hb
 have zt:=qaH (s:=s) (a:=0) (c:=12) h hb hT
 simp only[PS,pO,ptk,ptD,hk,qal hb] at zp zt
 simp only[PS,pO,cE,nv,List.cons_append,List.nil_append] at z1 z2
 try simp only[Int.natCast_add,Int.cast_ofNat_Int] at zt z1 z2
 refine qaa (pf:=F271) rfl rfl ?_
 simp[F271,zp,zt,w1,z1,z2,qaf,qaz,qc5,qa3,qbn,qbN,qa4,still,V.same,List.range_succ]
theorem qi4 (hlv:lv<=20) (hT:T.length<2 ^ 40) (h:T.drop i=t::r) (hb:t.bad=0) (hk:kindT t=1)
  (z1:Z tP (.call 253 [.ptr 0 0,.str ⟨#[61]⟩] (PS s T ((i+1:Nat):Int) 0 12))=some (.ret (.tup []) (PS s T i1 0 12)))
  (z2:Z tP (.call 279 [.ptr 0 0,.int lv] (PS s T i1 0 12))=some (.ret (e).node (PS s T i2 0 12)))
  (z3:Z tP (.call 278 [.ptr 0 0,nv 1 t.s (.sl (cE e) 1 true)] (PS s T i2 0 12))=some (.ret (qbc c) (PS s T i3 a c))):Z tP (.call 271 [.ptr 0 0,.int lv] (PS s T i 0 12))=some (.ret (qbc c) (PS s T i3 a c)):=by
 have w1:=qag ((lv:Int)+1) (by omega)
 have zp:=qau (s:=s) (a:=0) (c:=12) h hb
 have zt:=qaH (s:=s) (a:=0) (c:=12) h hb hT
 simp only[PS,pO,ptk,ptD,hk,qal hb] at zp zt
 simp only[PS,pO,cE,nv,List.cons_append,List.nil_append] at z1 z2 z3
 try simp only[Int.natCast_add,Int.cast_ofNat_Int] at zt z1 z2 z3
 refine qaa (pf:=F271) rfl rfl ?_
 simp[F271,zp,zt,w1,z1,z2,z3,qaf,qaz,qc5,qa3,qbn,qbN,qa4,still,V.same,List.range_succ]
theorem qkI (hlv:lv<=20) (hT:T.length<2 ^ 40) (h:T.drop i=t::r) (hb:t.bad=0) (hk:kindT t=1)
  (z1:Z tP (.call 253 [.ptr 0 0,.str ⟨#[61]⟩] (PS s T ((i+1:Nat):Int) 0 12))=some (.ret (.tup []) (PS s T i1 0 12)))
  (z2:Z tP (.call 279 [.ptr 0 0,.int lv] (PS s T i1 0 12))=some (.ret (e).node (PS s T i2 0 12)))
  (z3:Z tP (.call 278 [.ptr 0 0,nv 1 t.s (.sl (cE e) 1 true)] (PS s T i2 0 12))=some (.ret (nv 1 t.s (.sl (cE e) 1 true)) (PS s T i3 0 12))):Z tP (.call 271 [.ptr 0 0,.int lv] (PS s T i 0 12))=some (.ret (nv 1 t.s (.sl (cE e) 1 true)) (PS s T i3 0 12)):=by
 have w1:=qag ((lv:Int)+1) (by omega)
 have zp:=qau (s:=s) (a:=0) (c:=12) h hb
 have zt:=qaH (s:=s) (a:=0) (c:=12) h hb hT
 simp only[PS,pO,ptk,ptD,hk,qal hb] at zp zt
 simp only[PS,pO,cE,nv,List.cons_append,List.nil_append] at z1 z2 z3
 try simp only[Int.natCast_add,Int.cast_ofNat_Int] at zt z1 z2 z3
 refine qaa (pf:=F271) rfl rfl ?_
 simp[F271,zp,zt,w1,z1,z2,z3,qaf,qaz,qc5,qa3,qbn,qbN,qa4,still,V.same,List.range_succ]
theorem qjN (hlv:lv<=20) (hT:T.length<2 ^ 40) (h:T.drop i=t::r) (hb:t.bad=0) (hk:kindT t=3)
  (z1:Z tP (.call 280 [.ptr 0 0,.int lv] (PS s T i 0 12))=some (.ret (qbc c) (PS s T i1 a c))):Z tP (.call 271 [.ptr 0 0,.int lv] (PS s T i 0 12))=some (.ret (qbc c) (PS s T i1 a c)):=by
 have w1:=qag ((lv:Int)+1) (by omega)
 have zp:=qau (s:=s) (a:=0) (c:=12) h hb
 have zt:=qaH (s:=s) (a:=0) (c:=12) h hb hT
 simp only[PS,pO,ptk,ptD,hk,qal hb] at zp zt
 simp only[PS,pO,cE,nv,List.cons_append,List.nil_append] at z1
 try simp only[Int.natCast_add,Int.cast_ofNat_Int] at zt z1
 refine qaa (pf:=F271) rfl rfl ?_
 simp[F271,zp,zt,w1,z1,qaf,qaz,qc5,qa3,qbn,qbN,qa4,still,V.same,List.range_succ]
theorem qjO (hlv:lv<=20) (hT:T.length<2 ^ 40) (h:T.drop i=t::r) (hb:t.bad=0) (hk:kindT t=3)
  (z1:Z tP (.call 280 [.ptr 0 0,.int lv] (PS s T i 0 12))=some (.ret e.node (PS s T i1 0 12)))
  (z2:Z tP (.call 253 [.ptr 0 0,.str ⟨#[61]⟩] (PS s T i1 0 12))=some (.ret (qbc c) (PS s T i2 a c))):Z tP (.call 271 [.ptr 0 0,.int lv] (PS s T i 0 12))=some (.ret (qbc c) (PS s T i2 a c)):=by
 have w1:=qag ((lv:Int)+1) (by omega)
 have zp:=qau (s:=s) (a:=0) (c:=12) h hb
 have zt:=qaH (s:=s) (a:=0) (c:=12) h hb hT
 simp only[PS,pO,ptk,ptD,hk,qal hb] at zp zt
 simp only[PS,pO,cE,nv,List.cons_append,List.nil_append] at z1 z2
 try simp only[Int.natCast_add,Int.cast_ofNat_Int] at zt z1 z2
 refine qaa (pf:=F271) rfl rfl ?_
 simp[F271,zp,zt,w1,z1,z2,qaf,qaz,qc5,qa3,qbn,qbN,qa4,still,V.same,List.range_succ]
theorem qjP (hlv:lv<=20) (hT:T.length<2 ^ 40) (h:T.drop i=t::r) (hb:t.bad=0) (hk:kindT t=3)
  (z1:Z tP (.call 280 [.ptr 0 0,.int lv] (PS s T i 0 12))=some (.ret e.node (PS s T i1 0 12)))
  (z2:Z tP (.call 253 [.ptr 0 0,.str ⟨#[61]⟩] (PS s T i1 0 12))=some (.ret (.tup []) (PS s T i2 0 12)))
  (z3:Z tP (.call 279 [.ptr 0 0,.int lv] (PS s T i2 0 12))=some (.ret (qbc c) (PS s T i3 a c))):Z tP (.call 271 [.ptr 0 0,.int lv] (PS s T i 0 12))=some (.ret (qbc c) (PS s T i3 a c)):=by
 have w1:=qag ((lv:Int)+1) (by omega)
 have zp:=qau (s:=s) (a:=0) (c:=12) h hb
 have zt:=qaH (s:=s) (a:=0) (c:=12) h hb hT
 simp only[PS,pO,ptk,ptD,hk,qal hb] at zp zt
 simp only[PS,pO,cE,nv,List.cons_append,List.nil_append] at z1 z2 z3
 try simp only[Int.natCast_add,Int.cast_ofNat_Int] at zt z1 z2 z3
 refine qaa (pf:=F271) rfl rfl ?_
 simp[F271,zp,zt,w1,z1,z2,z3,qaf,qaz,qc5,qa3,qbn,qbN,qa4,still,V.same,List.range_succ]
theorem qjQ (hlv:lv<=20) (hT:T.length<2 ^ 40) (h:T.drop i=t::r) (hb:t.bad=0) (hk:kindT t=3)
  (z1:Z tP (.call 280 [.ptr 0 0,.int lv] (PS s T i 0 12))=some (.ret e.node (PS s T i1 0 12)))
  (z2:Z tP (.call 253 [.ptr 0 0,.str ⟨#[61]⟩] (PS s T i1 0 12))=some (.ret (.tup []) (PS s T i2 0 12)))
  (z3:Z tP (.call 279 [.ptr 0 0,.int lv] (PS s T i2 0 12))=some (.ret (e').node (PS s T i3 0 12)))
  (z4:Z tP (.call 278 [.ptr 0 0,nv 2 t.s (.sl (cE e++cE e') 2 true)] (PS s T i3 0 12))=some (.ret (qbc c) (PS s T i4 a c))):Z tP (.call 271 [.ptr 0 0,.int lv] (PS s T i 0 12))=some (.ret (qbc c) (PS s T i4 a c)):=by
 have w1:=qag ((lv:Int)+1) (by omega)
 have zp:=qau (s:=s) (a:=0) (c:=12) h hb
 have zt:=qaH (s:=s) (a:=0) (c:=12) h hb hT
 simp only[PS,pO,ptk,ptD,hk,qal hb] at zp zt
 simp only[PS,pO,cE,nv,List.cons_append,List.nil_append] at z1 z2 z3 z4
 try simp only[Int.natCast_add,Int.cast_ofNat_Int] at zt z1 z2 z3 z4
 refine qaa (pf:=F271) rfl rfl ?_
 simp[F271,zp,zt,w1,z1,z2,z3,z4,qaf,qaz,qc5,qa3,qbn,qbN,qa4,still,V.same,List.range_succ]
theorem qmh (hlv:lv<=20) (hT:T.length<2 ^ 40) (h:T.drop i=t::r) (hb:t.bad=0) (hk:kindT t=3)
  (z1:Z tP (.call 280 [.ptr 0 0,.int lv] (PS s T i 0 12))=some (.ret e.node (PS s T i1 0 12)))
  (z2:Z tP (.call 253 [.ptr 0 0,.str ⟨#[61]⟩] (PS s T i1 0 12))=some (.ret (.tup []) (PS s T i2 0 12)))
  (z3:Z tP (.call 279 [.ptr 0 0,.int lv] (PS s T i2 0 12))=some (.ret (e').node (PS s T i3 0 12)))
  (z4:Z tP (.call 278 [.ptr 0 0,nv 2 t.s (.sl (cE e++cE e') 2 true)] (PS s T i3 0 12))=some (.ret (nv 2 t.s (.sl (cE e++cE e') 2 true)) (PS s T i4 0 12))):Z tP (.call 271 [.ptr 0 0,.int lv] (PS s T i 0 12))=some (.ret (nv 2 t.s (.sl (cE e++cE e') 2 true)) (PS s T i4 0 12)):=by
 have w1:=qag ((lv:Int)+1) (by omega)
 have zp:=qau (s:=s) (a:=0) (c:=12) h hb
 have zt:=qaH (s:=s) (a:=0) (c:=12) h hb hT
 simp only[PS,pO,ptk,ptD,hk,qal hb] at zp zt
 simp only[PS,pO,cE,nv,List.cons_append,List.nil_append] at z1 z2 z3 z4
 try simp only[Int.natCast_add,Int.cast_ofNat_Int] at zt z1 z2 z3 z4
 refine qaa (pf:=F271) rfl rfl ?_
 simp[F271,zp,zt,w1,z1,z2,z3,z4,qaf,qaz,qc5,qa3,qbn,qbN,qa4,still,V.same,List.range_succ]
theorem qmZ (hlv:lv<=20) (hT:T.length<2 ^ 40) (h:T.drop i=t::r) (hb:t.bad=0) (h1:decide (kindT t=1)=false) (h3:decide (kindT t=3)=false) (hm:t.s=ifT) (od:V.one (.dat d)=true) (oc:V.cells (.dat d)=[.dat d])
  (z1:Z tP (.call 281 [.ptr 0 0,.int lv] (PS s T i 0 12))=some (.ret (qbc c) (PS s T i1 a c))):Z tP (.call 271 [.ptr 0 0,.int lv] (PS s T i 0 12))=some (.ret (qbc c) (PS s T i1 a c)):=by
 have w1:=qag ((lv:Int)+1) (by omega)
 have zp:=qau (s:=s) (a:=0) (c:=12) h hb
 have zt:=qaH (s:=s) (a:=0) (c:=12) h hb hT
 simp only[PS,pO,ptk,ptD,qal hb] at zp zt
 have y0:=qaK (s:=s) (a:=0) (c:=12) h hb (qah [ifT] true) (by simp) (by decide)
 simp only[hm,List.mem_singleton,decide_true] at y0
 simp only[PS,pO,ifT,strC,List.map_cons,List.map_nil,List.length_singleton] at y0
 simp only[PS,pO,cE,nv,List.cons_append,List.nil_append] at z1
 try simp only[Int.natCast_add,Int.cast_ofNat_Int] at zt z1
 refine qaa (pf:=F271) rfl rfl ?_
 simp[F271,zp,zt,w1,h1,h3,y0,od,oc,z1,qaf,qaz,qc5,qa3,qbn,qbN,qa4,still,V.same,List.range_succ]
theorem qqw (hlv:lv<=20) (hT:T.length<2 ^ 40) (h:T.drop i=t::r) (hb:t.bad=0) (h1:decide (kindT t=1)=false) (h3:decide (kindT t=3)=false) (hm:t.s=ifT) (od:V.one (.dat d)=true) (oc:V.cells (.dat d)=[.dat d])
  (z1:Z tP (.call 281 [.ptr 0 0,.int lv] (PS s T i 0 12))=some (.ret (nv 3 ⟨#[]⟩ d) (PS s T i1 0 12))):Z tP (.call 271 [.ptr 0 0,.int lv] (PS s T i 0 12))=some (.ret (nv 3 ⟨#[]⟩ d) (PS s T i1 0 12)):=by
 have w1:=qag ((lv:Int)+1) (by omega)
 have zp:=qau (s:=s) (a:=0) (c:=12) h hb
 have zt:=qaH (s:=s) (a:=0) (c:=12) h hb hT
 simp only[PS,pO,ptk,ptD,qal hb] at zp zt
 have y0:=qaK (s:=s) (a:=0) (c:=12) h hb (qah [ifT] true) (by simp) (by decide)
 simp only[hm,List.mem_singleton,decide_true] at y0
 simp only[PS,pO,ifT,strC,List.map_cons,List.map_nil,List.length_singleton] at y0
 simp only[PS,pO,cE,nv,List.cons_append,List.nil_append] at z1
 try simp only[Int.natCast_add,Int.cast_ofNat_Int] at zt z1
 refine qaa (pf:=F271) rfl rfl ?_
 simp[F271,zp,zt,w1,h1,h3,y0,od,oc,z1,qaf,qaz,qc5,qa3,qbn,qbN,qa4,still,V.same,List.range_succ]
theorem qjR (hlv:lv<=20) (hT:T.length<2 ^ 40) (h:T.drop i=t::r) (hb:t.bad=0) (h1:decide (kindT t=1)=false) (h3:decide (kindT t=3)=false) (hm:t.s=qaV) (od:V.one (.dat d)=true) (oc:V.cells (.dat d)=[.dat d])
  (z1:Z tP (.call 279 [.ptr 0 0,.int lv] (PS s T ((i+1:Nat):Int) 0 12))=some (.ret (qbc c) (PS s T i1 a c))):Z tP (.call 271 [.ptr 0 0,.int lv] (PS s T i 0 12))=some (.ret (qbc c) (PS s T i1 a c)):=by
 have w1:=qag ((lv:Int)+1) (by omega)
 have zp:=qau (s:=s) (a:=0) (c:=12) h hb
 have zt:=qaH (s:=s) (a:=0) (c:=12) h hb hT
 simp only[PS,pO,ptk,ptD,qal hb] at zp zt
 have y0:=qaK (s:=s) (a:=0) (c:=12) h hb (qah [ifT] true) (by simp) (by decide)
 have q0:qaV≠ifT:=by decide
 simp only[hm,List.mem_singleton,q0,decide_false] at y0
 simp only[PS,pO,ifT,strC,List.map_cons,List.map_nil,List.length_singleton] at y0
 have y1:=qaK (s:=s) (a:=0) (c:=12) h hb (qah [qaV] true) (by simp) (by decide)
 simp only[hm,List.mem_singleton,decide_true] at y1
 simp only[PS,pO,qaV,strC,List.map_cons,List.map_nil,List.length_singleton] at y1
 simp only[PS,pO,cE,nv,List.cons_append,List.nil_append] at z1
 try simp only[Int.natCast_add,Int.cast_ofNat_Int] at zt z1
 refine qaa (pf:=F271) rfl rfl ?_
 simp[F271,zp,zt,w1,h1,h3,y0,y1,od,oc,z1,qaf,qaz,qc5,qa3,qbn,qbN,qa4,still,V.same,List.range_succ]
theorem qjS (hlv:lv<=20) (hT:T.length<2 ^ 40) (h:T.drop i=t::r) (hb:t.bad=0) (h1:decide (kindT t=1)=false) (h3:decide (kindT t=3)=false) (hm:t.s=qaV) (od:V.one (.dat d)=true) (oc:V.cells (.dat d)=[.dat d])
  (z1:Z tP (.call 279 [.ptr 0 0,.int lv] (PS s T ((i+1:Nat):Int) 0 12))=some (.ret (e).node (PS s T i1 0 12)))
  (z2:Z tP (.call 256 [.ptr 0 0,.int ((lv+1:Nat):Int)] (PS s T i1 0 12))=some (.ret (qbc c) (PS s T i2 a c))):Z tP (.call 271 [.ptr 0 0,.int lv] (PS s T i 0 12))=some (.ret (qbc c) (PS s T i2 a c)):=by
 have w1:=qag ((lv:Int)+1) (by omega)
 have zp:=qau (s:=s) (a:=0) (c:=12) h hb
 have zt:=qaH (s:=s) (a:=0) (c:=12) h hb hT
 simp only[PS,pO,ptk,ptD,qal hb] at zp zt
 have y0:=qaK (s:=s) (a:=0) (c:=12) h hb (qah [ifT] true) (by simp) (by decide)
 have q0:qaV≠ifT:=by decide
 simp only[hm,List.mem_singleton,q0,decide_false] at y0
 simp only[PS,pO,ifT,strC,List.map_cons,List.map_nil,List.length_singleton] at y0
 have y1:=qaK (s:=s) (a:=0) (c:=12) h hb (qah [qaV] true) (by simp) (by decide)
 simp only[hm,List.mem_singleton,decide_true] at y1
 simp only[PS,pO,qaV,strC,List.map_cons,List.map_nil,List.length_singleton] at y1
 simp only[PS,pO,cE,nv,List.cons_append,List.nil_append] at z1 z2
 try simp only[Int.natCast_add,Int.cast_ofNat_Int] at zt z1 z2
 refine qaa (pf:=F271) rfl rfl ?_
 simp[F271,zp,zt,w1,h1,h3,y0,y1,od,oc,z1,z2,qaf,qaz,qc5,qa3,qbn,qbN,qa4,still,V.same,List.range_succ]
theorem qmi (hlv:lv<=20) (hT:T.length<2 ^ 40) (h:T.drop i=t::r) (hb:t.bad=0) (h1:decide (kindT t=1)=false) (h3:decide (kindT t=3)=false) (hm:t.s=qaV) (od:V.one (.dat d)=true) (oc:V.cells (.dat d)=[.dat d])
  (z1:Z tP (.call 279 [.ptr 0 0,.int lv] (PS s T ((i+1:Nat):Int) 0 12))=some (.ret (e).node (PS s T i1 0 12)))
  (z2:Z tP (.call 256 [.ptr 0 0,.int ((lv+1:Nat):Int)] (PS s T i1 0 12))=some (.ret (nv 7 ⟨#[]⟩ d) (PS s T i2 0 12))):Z tP (.call 271 [.ptr 0 0,.int lv] (PS s T i 0 12))=some (.ret (nv 4 ⟨#[]⟩ (.sl (cE e++[.lit (.int .i64 7),.lit (.int .i64 0),.lit (.string ⟨#[]⟩),d]) 2 true)) (PS s T i2 0 12)):=by
 have w1:=qag ((lv:Int)+1) (by omega)
 have zp:=qau (s:=s) (a:=0) (c:=12) h hb
 have zt:=qaH (s:=s) (a:=0) (c:=12) h hb hT
 simp only[PS,pO,ptk,ptD,qal hb] at zp zt
 have y0:=qaK (s:=s) (a:=0) (c:=12) h hb (qah [ifT] true) (by simp) (by decide)
 have q0:qaV≠ifT:=by decide
 simp only[hm,List.mem_singleton,q0,decide_false] at y0
 simp only[PS,pO,ifT,strC,List.map_cons,List.map_nil,List.length_singleton] at y0
 have y1:=qaK (s:=s) (a:=0) (c:=12) h hb (qah [qaV] true) (by simp) (by decide)
 simp only[hm,List.mem_singleton,decide_true] at y1
 simp only[PS,pO,qaV,strC,List.map_cons,List.map_nil,List.length_singleton] at y1
 simp only[PS,pO,cE,nv,List.cons_append,List.nil_append] at z1 z2
 try simp only[Int.natCast_add,Int.cast_ofNat_Int] at zt z1 z2
 refine qaa (pf:=F271) rfl rfl ?_
 simp[F271,zp,zt,w1,h1,h3,y0,y1,od,oc,z1,z2,qaf,qaz,qc5,qa3,qbn,qbN,qa4,still,V.same,List.range_succ]
theorem qi5 (hlv:lv<=20) (hT:T.length<2 ^ 40) (h:T.drop i=t::r) (hb:t.bad=0) (h1:decide (kindT t=1)=false) (h3:decide (kindT t=3)=false) (hm:t.s=qaM)
  (z1:Z tP (.call 279 [.ptr 0 0,.int lv] (PS s T ((i+1:Nat):Int) 0 12))=some (.ret (qbc c) (PS s T i1 a c))):Z tP (.call 271 [.ptr 0 0,.int lv] (PS s T i 0 12))=some (.ret (qbc c) (PS s T i1 a c)):=by
 have w1:=qag ((lv:Int)+1) (by omega)
 have zp:=qau (s:=s) (a:=0) (c:=12) h hb
 have zt:=qaH (s:=s) (a:=0) (c:=12) h hb hT
 simp only[PS,pO,ptk,ptD,qal hb] at zp zt
 have y0:=qaK (s:=s) (a:=0) (c:=12) h hb (qah [ifT] true) (by simp) (by decide)
 have q0:qaM≠ifT:=by decide
 simp only[hm,List.mem_singleton,q0,decide_false] at y0
 simp only[PS,pO,ifT,strC,List.map_cons,List.map_nil,List.length_singleton] at y0
 have y1:=qaK (s:=s) (a:=0) (c:=12) h hb (qah [qaV] true) (by simp) (by decide)
 have q1:qaM≠qaV:=by decide
 simp only[hm,List.mem_singleton,q1,decide_false] at y1
 simp only[PS,pO,qaV,strC,List.map_cons,List.map_nil,List.length_singleton] at y1
 have y2:=qaK (s:=s) (a:=0) (c:=12) h hb (qah [qaM] true) (by simp) (by decide)
 simp only[hm,List.mem_singleton,decide_true] at y2
 simp only[PS,pO,qaM,strC,List.map_cons,List.map_nil,List.length_singleton] at y2
 simp only[PS,pO,cE,nv,List.cons_append,List.nil_append] at z1
 try simp only[Int.natCast_add,Int.cast_ofNat_Int] at zt z1
 refine qaa (pf:=F271) rfl rfl ?_
 simp[F271,zp,zt,w1,h1,h3,y0,y1,y2,z1,qaf,qaz,qc5,qa3,qbn,qbN,qa4,still,V.same,List.range_succ]
theorem qi6 (hlv:lv<=20) (hT:T.length<2 ^ 40) (h:T.drop i=t::r) (hb:t.bad=0) (h1:decide (kindT t=1)=false) (h3:decide (kindT t=3)=false) (hm:t.s=qaM)
  (z1:Z tP (.call 279 [.ptr 0 0,.int lv] (PS s T ((i+1:Nat):Int) 0 12))=some (.ret (e).node (PS s T i1 0 12)))
  (z2:Z tP (.call 253 [.ptr 0 0,.str ⟨#[44]⟩] (PS s T i1 0 12))=some (.ret (qbc c) (PS s T i2 a c))):Z tP (.call 271 [.ptr 0 0,.int lv] (PS s T i 0 12))=some (.ret (qbc c) (PS s T i2 a c)):=by
 have w1:=qag ((lv:Int)+1) (by omega)
 have zp:=qau (s:=s) (a:=0) (c:=12) h hb
 have zt:=qaH (s:=s) (a:=0) (c:=12) h hb hT
 simp only[PS,pO,ptk,ptD,qal hb] at zp zt
 have y0:=qaK (s:=s) (a:=0) (c:=12) h hb (qah [ifT] true) (by simp) (by decide)
 have q0:qaM≠ifT:=by decide
 simp only[hm,List.mem_singleton,q0,decide_false] at y0
 simp only[PS,pO,ifT,strC,List.map_cons,List.map_nil,List.length_singleton] at y0
 have y1:=qaK (s:=s) (a:=0) (c:=12) h hb (qah [qaV] true) (by simp) (by decide)
 have q1:qaM≠qaV:=by decide
 simp only[hm,List.mem_singleton,q1,decide_false] at y1
 simp only[PS,pO,qaV,strC,List.map_cons,List.map_nil,List.length_singleton] at y1
 have y2:=qaK (s:=s) (a:=0) (c:=12) h hb (qah [qaM] true) (by simp) (by decide)
 simp only[hm,List.mem_singleton,decide_true] at y2
 simp only[PS,pO,qaM,strC,List.map_cons,List.map_nil,List.length_singleton] at y2
 simp only[PS,pO,cE,nv,List.cons_append,List.nil_append] at z1 z2
 try simp only[Int.natCast_add,Int.cast_ofNat_Int] at zt z1 z2
 refine qaa (pf:=F271) rfl rfl ?_
 simp[F271,zp,zt,w1,h1,h3,y0,y1,y2,z1,z2,qaf,qaz,qc5,qa3,qbn,qbN,qa4,still,V.same,List.range_succ]
theorem qi7 (hlv:lv<=20) (hT:T.length<2 ^ 40) (h:T.drop i=t::r) (hb:t.bad=0) (h1:decide (kindT t=1)=false) (h3:decide (kindT t=3)=false) (hm:t.s=qaM)
  (z1:Z tP (.call 279 [.ptr 0 0,.int lv] (PS s T ((i+1:Nat):Int) 0 12))=some (.ret (e).node (PS s T i1 0 12)))
  (z2:Z tP (.call 253 [.ptr 0 0,.str ⟨#[44]⟩] (PS s T i1 0 12))=some (.ret (.tup []) (PS s T i2 0 12)))
  (z3:Z tP (.call 279 [.ptr 0 0,.int lv] (PS s T i2 0 12))=some (.ret (qbc c) (PS s T i3 a c))):Z tP (.call 271 [.ptr 0 0,.int lv] (PS s T i 0 12))=some (.ret (qbc c) (PS s T i3 a c)):=by
 have w1:=qag ((lv:Int)+1) (by omega)
 have zp:=qau (s:=s) (a:=0) (c:=12) h hb
 have zt:=qaH (s:=s) (a:=0) (c:=12) h hb hT
 simp only[PS,pO,ptk,ptD,qal hb] at zp zt
 have y0:=qaK (s:=s) (a:=0) (c:=12) h hb (qah [ifT] true) (by simp) (by decide)
 have q0:qaM≠ifT:=by decide
 simp only[hm,List.mem_singleton,q0,decide_false] at y0
 simp only[PS,pO,ifT,strC,List.map_cons,List.map_nil,List.length_singleton] at y0
 have y1:=qaK (s:=s) (a:=0) (c:=12) h hb (qah [qaV] true) (by simp) (by decide)
 have q1:qaM≠qaV:=by decide
 simp only[hm,List.mem_singleton,q1,decide_false] at y1
 simp only[PS,pO,qaV,strC,List.map_cons,List.map_nil,List.length_singleton] at y1
 have y2:=qaK (s:=s) (a:=0) (c:=12) h hb (qah [qaM] true) (by simp) (by decide)
 simp only[hm,List.mem_singleton,decide_true] at y2
 simp only[PS,pO,qaM,strC,List.map_cons,List.map_nil,List.length_singleton] at y2
 simp only[PS,pO,cE,nv,List.cons_append,List.nil_append] at z1 z2 z3
 try simp only[Int.natCast_add,Int.cast_ofNat_Int] at zt z1 z2 z3
 refine qaa (pf:=F271) rfl rfl ?_
 simp[F271,zp,zt,w1,h1,h3,y0,y1,y2,z1,z2,z3,qaf,qaz,qc5,qa3,qbn,qbN,qa4,still,V.same,List.range_succ]
theorem qi8 (hlv:lv<=20) (hT:T.length<2 ^ 40) (h:T.drop i=t::r) (hb:t.bad=0) (h1:decide (kindT t=1)=false) (h3:decide (kindT t=3)=false) (hm:t.s=qaM)
  (z1:Z tP (.call 279 [.ptr 0 0,.int lv] (PS s T ((i+1:Nat):Int) 0 12))=some (.ret (e).node (PS s T i1 0 12)))
  (z2:Z tP (.call 253 [.ptr 0 0,.str ⟨#[44]⟩] (PS s T i1 0 12))=some (.ret (.tup []) (PS s T i2 0 12)))
  (z3:Z tP (.call 279 [.ptr 0 0,.int lv] (PS s T i2 0 12))=some (.ret (e').node (PS s T i3 0 12)))
  (z4:Z tP (.call 278 [.ptr 0 0,nv 5 ⟨#[]⟩ (.sl (cE e++cE e') 2 true)] (PS s T i3 0 12))=some (.ret (qbc c) (PS s T i4 a c))):Z tP (.call 271 [.ptr 0 0,.int lv] (PS s T i 0 12))=some (.ret (qbc c) (PS s T i4 a c)):=by
 have w1:=qag ((lv:Int)+1) (by omega)
 have zp:=qau (s:=s) (a:=0) (c:=12) h hb
 have zt:=qaH (s:=s) (a:=0) (c:=12) h hb hT
 simp only[PS,pO,ptk,ptD,qal hb] at zp zt
 have y0:=qaK (s:=s) (a:=0) (c:=12) h hb (qah [ifT] true) (by simp) (by decide)
 have q0:qaM≠ifT:=by decide
 simp only[hm,List.mem_singleton,q0,decide_false] at y0
 simp only[PS,pO,ifT,strC,List.map_cons,List.map_nil,List.length_singleton] at y0
 have y1:=qaK (s:=s) (a:=0) (c:=12) h hb (qah [qaV] true) (by simp) (by decide)
 have q1:qaM≠qaV:=by decide
 simp only[hm,List.mem_singleton,q1,decide_false] at y1
 simp only[PS,pO,qaV,strC,List.map_cons,List.map_nil,List.length_singleton] at y1
 have y2:=qaK (s:=s) (a:=0) (c:=12) h hb (qah [qaM] true) (by simp) (by decide)
 simp only[hm,List.mem_singleton,decide_true] at y2
 simp only[PS,pO,qaM,strC,List.map_cons,List.map_nil,List.length_singleton] at y2
 simp only[PS,pO,cE,nv,List.cons_append,List.nil_append] at z1 z2 z3 z4
 try simp only[Int.natCast_add,Int.cast_ofNat_Int] at zt z1 z2 z3 z4
 refine qaa (pf:=F271) rfl rfl ?_
 simp[F271,zp,zt,w1,h1,h3,y0,y1,y2,z1,z2,z3,z4,qaf,qaz,qc5,qa3,qbn,qbN,qa4,still,V.same,List.range_succ]
theorem qkJ (hlv:lv<=20) (hT:T.length<2 ^ 40) (h:T.drop i=t::r) (hb:t.bad=0) (h1:decide (kindT t=1)=false) (h3:decide (kindT t=3)=false) (hm:t.s=qaM)
  (z1:Z tP (.call 279 [.ptr 0 0,.int lv] (PS s T ((i+1:Nat):Int) 0 12))=some (.ret (e).node (PS s T i1 0 12)))
  (z2:Z tP (.call 253 [.ptr 0 0,.str ⟨#[44]⟩] (PS s T i1 0 12))=some (.ret (.tup []) (PS s T i2 0 12)))
  (z3:Z tP (.call 279 [.ptr 0 0,.int lv] (PS s T i2 0 12))=some (.ret (e').node (PS s T i3 0 12)))
  (z4:Z tP (.call 278 [.ptr 0 0,nv 5 ⟨#[]⟩ (.sl (cE e++cE e') 2 true)] (PS s T i3 0 12))=some (.ret (nv 5 ⟨#[]⟩ (.sl (cE e++cE e') 2 true)) (PS s T i4 0 12))):Z tP (.call 271 [.ptr 0 0,.int lv] (PS s T i 0 12))=some (.ret (nv 5 ⟨#[]⟩ (.sl (cE e++cE e') 2 true)) (PS s T i4 0 12)):=by
 have w1:=qag ((lv:Int)+1) (by omega)
 have zp:=qau (s:=s) (a:=0) (c:=12) h hb
 have zt:=qaH (s:=s) (a:=0) (c:=12) h hb hT
 simp only[PS,pO,ptk,ptD,qal hb] at zp zt
 have y0:=qaK (s:=s) (a:=0) (c:=12) h hb (qah [ifT] true) (by simp) (by decide)
 have q0:qaM≠ifT:=by decide
 simp only[hm,List.mem_singleton,q0,decide_false] at y0
 simp only[PS,pO,ifT,strC,List.map_cons,List.map_nil,List.length_singleton] at y0
 have y1:=qaK (s:=s) (a:=0) (c:=12) h hb (qah [qaV] true) (by simp) (by decide)
 have q1:qaM≠qaV:=by decide
 simp only[hm,List.mem_singleton,q1,decide_false] at y1
 simp only[PS,pO,qaV,strC,List.map_cons,List.map_nil,List.length_singleton] at y1
 have y2:=qaK (s:=s) (a:=0) (c:=12) h hb (qah [qaM] true) (by simp) (by decide)
 simp only[hm,List.mem_singleton,decide_true] at y2
 simp only[PS,pO,qaM,strC,List.map_cons,List.map_nil,List.length_singleton] at y2
 simp only[PS,pO,cE,nv,List.cons_append,List.nil_append] at z1 z2 z3 z4
 try simp only[Int.natCast_add,Int.cast_ofNat_Int] at zt z1 z2 z3 z4
 refine qaa (pf:=F271) rfl rfl ?_
 simp[F271,zp,zt,w1,h1,h3,y0,y1,y2,z1,z2,z3,z4,qaf,qaz,qc5,qa3,qbn,qbN,qa4,still,V.same,List.range_succ]
theorem qkK (hlv:lv<=20) (hT:T.length<2 ^ 40) (h:T.drop i=t::r) (hb:t.bad=0) (h1:decide (kindT t=1)=false) (h3:decide (kindT t=3)=false) (hm:t.s=qe1)
  (z1:Z tP (.call 278 [.ptr 0 0,nv 6 ⟨#[]⟩ (.lit (.slice none 0 0))] (PS s T ((i+1:Nat):Int) 0 12))=some (.ret (qbc c) (PS s T i1 a c))):Z tP (.call 271 [.ptr 0 0,.int lv] (PS s T i 0 12))=some (.ret (qbc c) (PS s T i1 a c)):=by
 have w1:=qag ((lv:Int)+1) (by omega)
 have zp:=qau (s:=s) (a:=0) (c:=12) h hb
 have zt:=qaH (s:=s) (a:=0) (c:=12) h hb hT
 simp only[PS,pO,ptk,ptD,qal hb] at zp zt
 have y0:=qaK (s:=s) (a:=0) (c:=12) h hb (qah [ifT] true) (by simp) (by decide)
 have q0:qe1≠ifT:=by decide
 simp only[hm,List.mem_singleton,q0,decide_false] at y0
 simp only[PS,pO,ifT,strC,List.map_cons,List.map_nil,List.length_singleton] at y0
 have y1:=qaK (s:=s) (a:=0) (c:=12) h hb (qah [qaV] true) (by simp) (by decide)
 have q1:qe1≠qaV:=by decide
 simp only[hm,List.mem_singleton,q1,decide_false] at y1
 simp only[PS,pO,qaV,strC,List.map_cons,List.map_nil,List.length_singleton] at y1
 have y2:=qaK (s:=s) (a:=0) (c:=12) h hb (qah [qaM] true) (by simp) (by decide)
 have q2:qe1≠qaM:=by decide
 simp only[hm,List.mem_singleton,q2,decide_false] at y2
 simp only[PS,pO,qaM,strC,List.map_cons,List.map_nil,List.length_singleton] at y2
 have y3:=qaK (s:=s) (a:=0) (c:=12) h hb (qah [qe1] true) (by simp) (by decide)
 simp only[hm,List.mem_singleton,decide_true] at y3
 simp only[PS,pO,qe1,strC,List.map_cons,List.map_nil,List.length_singleton] at y3
 simp only[PS,pO,cE,nv,List.cons_append,List.nil_append] at z1
 try simp only[Int.natCast_add,Int.cast_ofNat_Int] at zt z1
 refine qaa (pf:=F271) rfl rfl ?_
 simp[F271,zp,zt,w1,h1,h3,y0,y1,y2,y3,z1,qaf,qaz,qc5,qa3,qbn,qbN,qa4,still,V.same,List.range_succ]
theorem qm0 (hlv:lv<=20) (hT:T.length<2 ^ 40) (h:T.drop i=t::r) (hb:t.bad=0) (h1:decide (kindT t=1)=false) (h3:decide (kindT t=3)=false) (hm:t.s=qe1)
  (z1:Z tP (.call 278 [.ptr 0 0,nv 6 ⟨#[]⟩ (.lit (.slice none 0 0))] (PS s T ((i+1:Nat):Int) 0 12))=some (.ret (nv 6 ⟨#[]⟩ (.lit (.slice none 0 0))) (PS s T i1 0 12))):Z tP (.call 271 [.ptr 0 0,.int lv] (PS s T i 0 12))=some (.ret (nv 6 ⟨#[]⟩ (.lit (.slice none 0 0))) (PS s T i1 0 12)):=by
 have w1:=qag ((lv:Int)+1) (by omega)
 have zp:=qau (s:=s) (a:=0) (c:=12) h hb
 have zt:=qaH (s:=s) (a:=0) (c:=12) h hb hT
 simp only[PS,pO,ptk,ptD,qal hb] at zp zt
 have y0:=qaK (s:=s) (a:=0) (c:=12) h hb (qah [ifT] true) (by simp) (by decide)
 have q0:qe1≠ifT:=by decide
 simp only[hm,List.mem_singleton,q0,decide_false] at y0
 simp only[PS,pO,ifT,strC,List.map_cons,List.map_nil,List.length_singleton] at y0
 have y1:=qaK (s:=s) (a:=0) (c:=12) h hb (qah [qaV] true) (by simp) (by decide)
 have q1:qe1≠qaV:=by decide
 simp only[hm,List.mem_singleton,q1,decide_false] at y1
 simp only[PS,pO,qaV,strC,List.map_cons,List.map_nil,List.length_singleton] at y1
 have y2:=qaK (s:=s) (a:=0) (c:=12) h hb (qah [qaM] true) (by simp) (by decide)
 have q2:qe1≠qaM:=by decide
 simp only[hm,List.mem_singleton,q2,decide_false] at y2
 simp only[PS,pO,qaM,strC,List.map_cons,List.map_nil,List.length_singleton] at y2
 have y3:=qaK (s:=s) (a:=0) (c:=12) h hb (qah [qe1] true) (by simp) (by decide)
 simp only[hm,List.mem_singleton,decide_true] at y3
 simp only[PS,pO,qe1,strC,List.map_cons,List.map_nil,List.length_singleton] at y3
 simp only[PS,pO,cE,nv,List.cons_append,List.nil_append] at z1
 try simp only[Int.natCast_add,Int.cast_ofNat_Int] at zt z1
 refine qaa (pf:=F271) rfl rfl ?_
 simp[F271,zp,zt,w1,h1,h3,y0,y1,y2,y3,z1,qaf,qaz,qc5,qa3,qbn,qbN,qa4,still,V.same,List.range_succ]
theorem qsF (hlv:lv<=20) (hT:T.length<2 ^ 40) (h:T.drop i=t::r) (hb:t.bad=0) (h1:decide (kindT t=1)=false) (h3:decide (kindT t=3)=false) (n0:t.s≠ifT) (n1:t.s≠qaV) (n2:t.s≠qaM) (n3:t.s≠qe1):Z tP (.call 271 [.ptr 0 0,.int lv] (PS s T i 0 12))=some (.ret (qbc 12) (PS s T i t.at_ 12)):=by
 have w1:=qag ((lv:Int)+1) (by omega)
 have zp:=qau (s:=s) (a:=0) (c:=12) h hb
 have zt:=qaH (s:=s) (a:=0) (c:=12) h hb hT
 simp only[PS,pO,ptk,ptD,qal hb] at zp zt
 have y0:=qaK (s:=s) (a:=0) (c:=12) h hb (qah [ifT] true) (by simp) (by decide)
 simp only[List.mem_singleton,n0,decide_false] at y0
 simp only[PS,pO,ifT,strC,List.map_cons,List.map_nil,List.length_singleton] at y0
 have y1:=qaK (s:=s) (a:=0) (c:=12) h hb (qah [qaV] true) (by simp) (by decide)
 simp only[List.mem_singleton,n1,decide_false] at y1
 simp only[PS,pO,qaV,strC,List.map_cons,List.map_nil,List.length_singleton] at y1
 have y2:=qaK (s:=s) (a:=0) (c:=12) h hb (qah [qaM] true) (by simp) (by decide)
 simp only[List.mem_singleton,n2,decide_false] at y2
 simp only[PS,pO,qaM,strC,List.map_cons,List.map_nil,List.length_singleton] at y2
 have y3:=qaK (s:=s) (a:=0) (c:=12) h hb (qah [qe1] true) (by simp) (by decide)
 simp only[List.mem_singleton,n3,decide_false] at y3
 simp only[PS,pO,qe1,strC,List.map_cons,List.map_nil,List.length_singleton] at y3
 have zf:=qgb (s:=s) (T:=T) (i:=i) (a:=0) (c:=12) (k:=kindT t) (x:=t.s) (at_:=t.at_) (v:=valT t) (e:=t.bad) (c':=12)
 simp only[PS,pO,ptD] at zf
 refine qaa (pf:=F271) rfl rfl ?_
 simp[F271,zp,zt,w1,h1,h3,y0,y1,y2,y3,zf,qaf,List.range_succ]
theorem quS (h:T.drop i=t::r) (hb:t.bad≠0):Z tP (.call 271 [.ptr 0 0,.int lv] (PS s T i 0 12))=some (.ret (qbc t.bad) (PS s T i t.at_ t.bad)):=by
 have zp:=qei (s:=s) (a:=0) (c:=12) h hb
 simp only[PS,pO] at zp
 refine qaa (pf:=F271) rfl rfl ?_
 simp[F271,zp,qaf,List.range_succ]
end
end Go.Pm
end SKu
