/- Chapter 13's parser: brackets in expressions: the walks. Printed by ks.py. Chapter 13's parser: every expression is the plain one. Chapter 13's parser: a statement: the walks. Printed by ku.py. Chapter 13's parser: an if: the walks. Printed by kv.py. Chapter 13's parser: a block: the walks. -/
import Derived.Test.YtjdbkncfebebnaaDoorPmKh
set_option linter.unusedSimpArgs false
set_option linter.unusedVariables false
section SKs
namespace Go.Pm
open F
set_option maxHeartbeats 4000000
attribute [local simp] qa4 qbv dkey
section
variable {s:ByteArray} {T:List Tk} {lv i i' i2 i3:Nat} {e:E} {a c:Int} {t:Tk} {r:List Tk}
theorem qo0 (hlv:lv<=20) (h:T.drop i=t::r) (hb:t.bad=0) (h4:decide (kindT t=4)=false) (h1:decide (kindT t=1)=false) (h3:decide (kindT t=3)=false) (n1:t.s≠qcU) (n2:t.s≠qb4) (n3:t.s∉qc2)
  (zo:Z tP (.call 270 [.ptr 0 0,.str ⟨#[40]⟩,.int ((lv+1:Nat):Int)] (PS s T i 0 12))=some (.ret (qa8 c) (PS s T i' a c))):Z tP (.call 309 [.ptr 0 0,.int lv] (PS s T i 0 12))=some (.ret (qa8 c) (PS s T i' a c)):=by
 have w1:=qaj ((lv:Int)+1) (by omega)
 have zp:=qap (s:=s) (a:=0) (c:=12) h hb
 have z1:=qaC (s:=s) (a:=0) (c:=12) h hb (qad [qcU] true) (by simp) (by decide)
 have z2:=qaC (s:=s) (a:=0) (c:=12) h hb (qad [qb4] true) (by simp) (by decide)
 have z3:=qaC (s:=s) (a:=0) (c:=12) h hb (qad qc2 true) (by decide) (by decide)
 simp only[List.mem_singleton,n1,n2,n3,decide_false] at z1 z2 z3
 simp only[PS,pO,ptk,ptD,qah hb] at zp
 simp only[PS,pO,qcU,qb4,qc2,qaS,List.map_cons,List.map_nil,List.length_cons,List.length_nil] at z1 z2 z3
 simp only[PS,pO] at zo
 simp only[Int.natCast_add,Int.cast_ofNat_Int] at zo
 refine Z_call (pf:=F309) rfl rfl ?_
 simp[F309,zp,z1,z2,z3,h4,h1,h3,w1,zo,qac,List.range_succ]
theorem qo1 (hlv:lv<=20) (h:T.drop i=t::r) (hb:t.bad=0) (h4:decide (kindT t=4)=false) (h1:decide (kindT t=1)=false) (h3:decide (kindT t=3)=false) (n1:t.s≠qcU) (n2:t.s≠qb4) (n3:t.s∉qc2)
  (zo:Z tP (.call 270 [.ptr 0 0,.str ⟨#[40]⟩,.int ((lv+1:Nat):Int)] (PS s T i 0 12))=some (.ret (.tup []) (PS s T i' 0 12)))
  (ze:Z tP (.call 279 [.ptr 0 0,.int ((lv+1:Nat):Int)] (PS s T i' 0 12))=some (.ret (qa8 c) (PS s T i2 a c))):Z tP (.call 309 [.ptr 0 0,.int lv] (PS s T i 0 12))=some (.ret (qa8 c) (PS s T i2 a c)):=by
 have w1:=qaj ((lv:Int)+1) (by omega)
 have zp:=qap (s:=s) (a:=0) (c:=12) h hb
 have z1:=qaC (s:=s) (a:=0) (c:=12) h hb (qad [qcU] true) (by simp) (by decide)
 have z2:=qaC (s:=s) (a:=0) (c:=12) h hb (qad [qb4] true) (by simp) (by decide)
 have z3:=qaC (s:=s) (a:=0) (c:=12) h hb (qad qc2 true) (by decide) (by decide)
 simp only[List.mem_singleton,n1,n2,n3,decide_false] at z1 z2 z3
 simp only[PS,pO,ptk,ptD,qah hb] at zp
 simp only[PS,pO,qcU,qb4,qc2,qaS,List.map_cons,List.map_nil,List.length_cons,List.length_nil] at z1 z2 z3
 simp only[PS,pO] at zo ze
 simp only[Int.natCast_add,Int.cast_ofNat_Int] at zo ze
 refine Z_call (pf:=F309) rfl rfl ?_
 simp[F309,zp,z1,z2,z3,h4,h1,h3,w1,zo,ze,qac,List.range_succ]
theorem qo2 (hlv:lv<=20) (h:T.drop i=t::r) (hb:t.bad=0) (h4:decide (kindT t=4)=false) (h1:decide (kindT t=1)=false) (h3:decide (kindT t=3)=false) (n1:t.s≠qcU) (n2:t.s≠qb4) (n3:t.s∉qc2)
  (zo:Z tP (.call 270 [.ptr 0 0,.str ⟨#[40]⟩,.int ((lv+1:Nat):Int)] (PS s T i 0 12))=some (.ret (.tup []) (PS s T i' 0 12)))
  (ze:Z tP (.call 279 [.ptr 0 0,.int ((lv+1:Nat):Int)] (PS s T i' 0 12))=some (.ret e.node (PS s T i2 0 12)))
  (zc:Z tP (.call 253 [.ptr 0 0,.str ⟨#[41]⟩] (PS s T i2 0 12))=some (.ret (qa8 c) (PS s T i3 a c))):Z tP (.call 309 [.ptr 0 0,.int lv] (PS s T i 0 12))=some (.ret (qa8 c) (PS s T i3 a c)):=by
 have w1:=qaj ((lv:Int)+1) (by omega)
 have zp:=qap (s:=s) (a:=0) (c:=12) h hb
 have z1:=qaC (s:=s) (a:=0) (c:=12) h hb (qad [qcU] true) (by simp) (by decide)
 have z2:=qaC (s:=s) (a:=0) (c:=12) h hb (qad [qb4] true) (by simp) (by decide)
 have z3:=qaC (s:=s) (a:=0) (c:=12) h hb (qad qc2 true) (by decide) (by decide)
 simp only[List.mem_singleton,n1,n2,n3,decide_false] at z1 z2 z3
 simp only[PS,pO,ptk,ptD,qah hb] at zp
 simp only[PS,pO,qcU,qb4,qc2,qaS,List.map_cons,List.map_nil,List.length_cons,List.length_nil] at z1 z2 z3
 simp only[PS,pO] at zo ze zc
 simp only[Int.natCast_add,Int.cast_ofNat_Int] at zo ze
 refine Z_call (pf:=F309) rfl rfl ?_
 simp[F309,zp,z1,z2,z3,h4,h1,h3,w1,zo,ze,zc,qac,List.range_succ]
theorem qsk (hlv:lv<=20) (h:T.drop i=t::r) (hb:t.bad=0) (h4:decide (kindT t=4)=false) (h1:decide (kindT t=1)=false) (h3:decide (kindT t=3)=false) (n1:t.s≠qcU) (n2:t.s≠qb4) (n3:t.s∉qc2)
  (zo:Z tP (.call 270 [.ptr 0 0,.str ⟨#[40]⟩,.int ((lv+1:Nat):Int)] (PS s T i 0 12))=some (.ret (.tup []) (PS s T i' 0 12)))
  (ze:Z tP (.call 279 [.ptr 0 0,.int ((lv+1:Nat):Int)] (PS s T i' 0 12))=some (.ret e.node (PS s T i2 0 12)))
  (zc:Z tP (.call 253 [.ptr 0 0,.str ⟨#[41]⟩] (PS s T i2 0 12))=some (.ret (.tup []) (PS s T i3 0 12))):Z tP (.call 309 [.ptr 0 0,.int lv] (PS s T i 0 12))=some (.ret e.node (PS s T i3 0 12)):=by
 have w1:=qaj ((lv:Int)+1) (by omega)
 have zp:=qap (s:=s) (a:=0) (c:=12) h hb
 have z1:=qaC (s:=s) (a:=0) (c:=12) h hb (qad [qcU] true) (by simp) (by decide)
 have z2:=qaC (s:=s) (a:=0) (c:=12) h hb (qad [qb4] true) (by simp) (by decide)
 have z3:=qaC (s:=s) (a:=0) (c:=12) h hb (qad qc2 true) (by decide) (by decide)
 simp only[List.mem_singleton,n1,n2,n3,decide_false] at z1 z2 z3
 simp only[PS,pO,ptk,ptD,qah hb] at zp
 simp only[PS,pO,qcU,qb4,qc2,qaS,List.map_cons,List.map_nil,List.length_cons,List.length_nil] at z1 z2 z3
 simp only[PS,pO] at zo ze zc
 simp only[Int.natCast_add,Int.cast_ofNat_Int] at zo ze
 refine Z_call (pf:=F309) rfl rfl ?_
 simp[F309,zp,z1,z2,z3,h4,h1,h3,w1,zo,ze,zc,qac,List.range_succ]
theorem qo3 (hlv:lv<=20) (hT:T.length<2 ^ 40) (h:T.drop i=t::r) (hb:t.bad=0)
  (zo:Z tP (.call 270 [.ptr 0 0,.str ⟨#[91]⟩,.int ((lv+1:Nat):Int)] (PS s T ((i+1:Nat):Int) 0 12))=some (.ret (qa8 c) (PS s T i' a c))):Z tP (.call 280 [.ptr 0 0,.int lv] (PS s T i 0 12))=some (.ret (qa8 c) (PS s T i' a c)):=by
 have w1:=qaj ((lv:Int)+1) (by omega)
 have zt:=qaA (s:=s) (a:=0) (c:=12) h hb hT
 simp only[PS,pO,ptk,ptD] at zt
 simp only[Int.natCast_add,Int.cast_ofNat_Int] at zt
 simp only[PS,pO] at zo
 simp only[Int.natCast_add,Int.cast_ofNat_Int] at zo
 refine Z_call (pf:=F280) rfl rfl ?_
 simp[F280,zt,w1,zo,qac,List.range_succ]
theorem qo4 (hlv:lv<=20) (hT:T.length<2 ^ 40) (h:T.drop i=t::r) (hb:t.bad=0)
  (zo:Z tP (.call 270 [.ptr 0 0,.str ⟨#[91]⟩,.int ((lv+1:Nat):Int)] (PS s T ((i+1:Nat):Int) 0 12))=some (.ret (.tup []) (PS s T i' 0 12)))
  (ze:Z tP (.call 279 [.ptr 0 0,.int ((lv+1:Nat):Int)] (PS s T i' 0 12))=some (.ret (qa8 c) (PS s T i2 a c))):Z tP (.call 280 [.ptr 0 0,.int lv] (PS s T i 0 12))=some (.ret (qa8 c) (PS s T i2 a c)):=by
 have w1:=qaj ((lv:Int)+1) (by omega)
 have zt:=qaA (s:=s) (a:=0) (c:=12) h hb hT
 simp only[PS,pO,ptk,ptD] at zt
 simp only[Int.natCast_add,Int.cast_ofNat_Int] at zt
 simp only[PS,pO] at zo ze
 simp only[Int.natCast_add,Int.cast_ofNat_Int] at zo ze
 refine Z_call (pf:=F280) rfl rfl ?_
 simp[F280,zt,w1,zo,ze,qac,List.range_succ]
theorem qo5 (hlv:lv<=20) (hT:T.length<2 ^ 40) (h:T.drop i=t::r) (hb:t.bad=0)
  (zo:Z tP (.call 270 [.ptr 0 0,.str ⟨#[91]⟩,.int ((lv+1:Nat):Int)] (PS s T ((i+1:Nat):Int) 0 12))=some (.ret (.tup []) (PS s T i' 0 12)))
  (ze:Z tP (.call 279 [.ptr 0 0,.int ((lv+1:Nat):Int)] (PS s T i' 0 12))=some (.ret e.node (PS s T i2 0 12)))
  (zc:Z tP (.call 253 [.ptr 0 0,.str ⟨#[93]⟩] (PS s T i2 0 12))=some (.ret (qa8 c) (PS s T i3 a c))):Z tP (.call 280 [.ptr 0 0,.int lv] (PS s T i 0 12))=some (.ret (qa8 c) (PS s T i3 a c)):=by
 have w1:=qaj ((lv:Int)+1) (by omega)
 have zt:=qaA (s:=s) (a:=0) (c:=12) h hb hT
 simp only[PS,pO,ptk,ptD] at zt
 simp only[Int.natCast_add,Int.cast_ofNat_Int] at zt
 simp only[PS,pO] at zo ze zc
 simp only[Int.natCast_add,Int.cast_ofNat_Int] at zo ze
 refine Z_call (pf:=F280) rfl rfl ?_
 simp[F280,zt,w1,zo,ze,zc,qac,List.range_succ]
theorem qsl (hlv:lv<=20) (hT:T.length<2 ^ 40) (h:T.drop i=t::r) (hb:t.bad=0)
  (zo:Z tP (.call 270 [.ptr 0 0,.str ⟨#[91]⟩,.int ((lv+1:Nat):Int)] (PS s T ((i+1:Nat):Int) 0 12))=some (.ret (.tup []) (PS s T i' 0 12)))
  (ze:Z tP (.call 279 [.ptr 0 0,.int ((lv+1:Nat):Int)] (PS s T i' 0 12))=some (.ret e.node (PS s T i2 0 12)))
  (zc:Z tP (.call 253 [.ptr 0 0,.str ⟨#[93]⟩] (PS s T i2 0 12))=some (.ret (.tup []) (PS s T i3 0 12))):Z tP (.call 280 [.ptr 0 0,.int lv] (PS s T i 0 12))=some (.ret e.node (PS s T i3 0 12)):=by
 have w1:=qaj ((lv:Int)+1) (by omega)
 have zt:=qaA (s:=s) (a:=0) (c:=12) h hb hT
 simp only[PS,pO,ptk,ptD] at zt
 simp only[Int.natCast_add,Int.cast_ofNat_Int] at zt
 simp only[PS,pO] at zo ze zc
 simp only[Int.natCast_add,Int.cast_ofNat_Int] at zo ze
 refine Z_call (pf:=F280) rfl rfl ?_
 simp[F280,zt,w1,zo,ze,zc,qac,List.range_succ]
end
end Go.Pm
end SKs
section SKt
namespace Go.Pm
open F
set_option maxHeartbeats 2000000
def qgc (w:ByteArray):Int:=if w=⟨#[]⟩ then 0 else if qar qaL w then (if w∈fieldNames then 3 else if w∈wordNames then 2 else 1) else if qar qam w then 4 else 5
theorem qbH {t:Tk} (hb:t.bad=0):kindT t=qgc t.s:=by unfold kindT qgc; rw[if_neg (by simp[hb])]
theorem qlL (w:ByteArray):qar qam w=true->w≠⟨#[]⟩/\qar qaL w=false:=by
 rw[qaZ,qaZ]
 intro h
 refine⟨?_,?_⟩
 ·rintro rfl
  exact absurd h (by decide)
 ·cases hh:(byl w).head? with
  | none=>rfl
  | some c=>
   rw[hh] at h
   simp only at h ⊢
   by_cases hl:qaL c=true
   ·rw[qlF hl] at h; cases h
   ·simpa using hl
theorem qeU {w:ByteArray} (h:qar qaL w=true):w≠⟨#[]⟩:=by
 rintro rfl
 exact absurd h (by decide)
section
variable (s:ByteArray) (T:List Tk)
def IdK (n:Nat):Prop := ∀ (lv i:Nat) (t:Tk) (r:List Tk) (x:Rz E),lv<=20->T.drop i=t::r->t.bad=0->t.s≠⟨#[]⟩->qbZ 12 2 true n lv r=some x->Out s T (Z tP (.call 280 [.ptr 0 0,.int lv] (PS s T i 0 12))) x E.node
variable {s:ByteArray} {T:List Tk}
theorem qoN (hw:WfQ T) (hT:T.length<2 ^ 40) {n:Nat} (ihe:ExK s T n):IdK s T (n+1):=by
 intro lv i t r x hlv h hb hs hx
 obtain⟨n1,n2⟩:=hw.next h hb hs
 obtain⟨t1,r1,rfl⟩:=qaP n2
 rw[qbZ] at hx
 have ho:=qfO (s:=s) hw hT n1 (x:=bs [91]) (by decide) (lv:=lv+1)
 cases hq:qc4 12 2 (bs [91]) (lv+1) (t1::r1) with
 | er a c=>
  rw[hq] at hx ho
  simp only[Option.some.injEq] at hx
  subst hx
  obtain⟨i',z⟩:=ho
  exact⟨i',qo3 hlv hT h hb z⟩
 | ok u r2=>
  have hl1:=qhP hq
  rw[hq] at hx ho
  simp only at hx
  obtain⟨i',a1,a2,z⟩:=ho
  obtain⟨t2,r3,rfl⟩:=qaP a2
  cases hq2:qak 12 2 true n 1 (lv+1) (t2::r3) with
  | none=>rw[hq2] at hx; cases hx
  | some y=>
   rw[hq2] at hx
   have h2:=ihe 1 (lv+1) i' t2 r3 y (by omega) (by omega) hl1 a1 hq2
   cases y with
   | er a c=>
    simp only[Option.some.injEq] at hx
    subst hx
    obtain⟨i2,z2⟩:=h2
    exact⟨i2,qo4 hlv hT h hb z z2⟩
   | ok e r4=>
    simp only at hx
    obtain⟨i2,b1,b2,z2⟩:=h2
    obtain⟨t3,r5,rfl⟩:=qaP b2
    have hc:=qb1 (s:=s) hw hT b1 (x:=bs [93]) (by decide)
    cases hq3:qaF 12 (bs [93]) (t3::r5) with
    | er a c=>
     rw[hq3] at hx hc
     simp only[Option.some.injEq] at hx
     subst hx
     obtain⟨i3,z3⟩:=hc
     exact⟨i3,qo5 hlv hT h hb z z2 z3⟩
    | ok u2 r6=>
     rw[hq3] at hx hc
     simp only[Option.some.injEq] at hx
     subst hx
     obtain⟨i3,c1,c2,z3⟩:=hc
     exact⟨i3,c1,c2,qsl hlv hT h hb z z2 z3⟩
theorem qoO (hw:WfQ T) (hT:T.length<2 ^ 40) (hP : ∀ t∈T,TokP t) {n:Nat} (ihe:ExK s T n) (ihi:IdK s T n) {lv i:Nat} {t:Tk} {r:List Tk} {x:Rz E} (hlv:lv<=20) (h:T.drop i=t::r) (hx:qak 12 2 true (n+1) 8 lv (t::r)=some x):Out s T (Z tP (.call 309 [.ptr 0 0,.int lv] (PS s T i 0 12))) x E.node:=by
 by_cases hb:t.bad=0
 case neg=>
  have:=qmb hb r (n+1) 8 lv x hx
  subst this
  exact⟨i,qrX h hb⟩
 have hnx:nx (t::r)=some t.s:=if_pos hb
 have hmem:t∈T:=List.mem_of_mem_drop (by rw[h]; exact List.mem_cons_self ..)
 have hk:=qbH hb
 rw[qak,if_neg (by rintro (h | h); exact absurd h.1 (by decide); exact absurd h.1 (by decide)),if_neg (by decide),hnx] at hx
 simp only[List.tail_cons] at hx
 have good : ∀ {e:E},t.s≠⟨#[]⟩->x = .ok e r->Z tP (.call 309 [.ptr 0 0,.int lv] (PS s T i 0 12))=some (.ret e.node (PS s T ((i+1:Nat):Int) 0 12))->Out s T (Z tP (.call 309 [.ptr 0 0,.int lv] (PS s T i 0 12))) x E.node:=fun hne hx z=>by
  subst hx
  obtain⟨n1,n2⟩:=hw.next h hb hne
  exact⟨i+1,n1,n2,z⟩
 by_cases hd:qar qam t.s=true
 ·rw[if_pos hd] at hx
  obtain⟨d1,d2⟩:=qlL t.s hd
  have hv:=((hP t hmem).dig hb hd).2.1
  have hval:(valT t:Int)=digV t.s.toList:=by
   unfold valT
   rw[if_pos hd,ByteArray.toList_eq,byl]
   omega
  refine good d1 (Option.some.inj hx).symm ?_
  rw[<- hval]
  exact qrY hT h hb (by rw[hk,qgc,if_neg d1,d2,if_neg (by decide),if_pos hd])
 rw[if_neg hd] at hx
 by_cases h1:t.s=bs [116,114,117,101]
 ·rw[if_pos h1] at hx
  refine good (by rw[h1]; decide) (Option.some.inj hx).symm (qp3 hT h hb ?_ h1)
  rw[hk,h1]; decide
 rw[if_neg h1] at hx
 by_cases h2:t.s=bs [102,97,108,115,101]
 ·rw[if_pos h2] at hx
  refine good (by rw[h2]; decide) (Option.some.inj hx).symm (qon hT h hb ?_ h2)
  rw[hk,h2]; decide
 rw[if_neg h2] at hx
 by_cases h3:t.s=bs [115,101,108,102]\/t.s=bs [111,116,104,101,114]\/t.s=bs [116,105,99,107]
 ·rw[if_pos h3] at hx
  have hm:t.s∈qc2:=by
   simp only[qc2,List.mem_cons,List.not_mem_nil,or_false]
   exact h3
  have hall : ∀ w∈qc2,qgc w=2/\w≠⟨#[]⟩:=by decide
  exact good (hall _ hm).2 (Option.some.inj hx).symm (qp4 hT h hb (by rw[hk]; exact (hall _ hm).1) hm)
 rw[if_neg h3] at hx
 have n3:t.s∉qc2:=fun hm=>h3 (by
  simp only[qc2,List.mem_cons,List.not_mem_nil,or_false] at hm
  exact hm)
 by_cases hf:t.s∈fieldNames
 ·rw[if_pos hf] at hx
  have hall : ∀ w∈fieldNames,qgc w=3/\w≠⟨#[]⟩:=by decide
  have hk3:kindT t=3:=by rw[hk]; exact (hall _ hf).1
  cases hq:qbZ 12 2 true n lv r with
  | none=>rw[hq] at hx; cases hx
  | some y=>
   rw[hq] at hx
   have hi:=ihi lv i t r y hlv h hb (hall _ hf).2 hq
   cases y with
   | er a c=>
    simp only[Option.some.injEq] at hx
    subst hx
    obtain⟨i',z⟩:=hi
    exact⟨i',qmO h hb hk3 z⟩
   | ok e r'=>
    simp only[Option.some.injEq] at hx
    subst hx
    obtain⟨i',a1,a2,z⟩:=hi
    exact⟨i',a1,a2,qr0 h hb hk3 z⟩
 rw[if_neg hf] at hx
 by_cases hv:qar qaL t.s=true/\t.s∉wordNames
 ·rw[if_pos hv] at hx
  have hne:=qeU hv.1
  exact good hne (Option.some.inj hx).symm (qrZ hT h hb (by rw[hk,qgc,if_neg hne,if_pos hv.1,if_neg hf,if_neg hv.2]))
 rw[if_neg hv] at hx
 have hk5:kindT t=0\/kindT t=2\/kindT t=5:=by
  rw[hk,qgc]
  by_cases a1:t.s=⟨#[]⟩
  ·exact .inl (if_pos a1)
  ·rw[if_neg a1]
   by_cases a2:qar qaL t.s=true
   ·rw[if_pos a2,if_neg hf]
    by_cases a3:t.s∈wordNames
    ·rw[if_pos a3]; exact .inr (.inl rfl)
    ·exact absurd ⟨a2,a3⟩ hv
   ·rw[if_neg a2,if_neg hd]; exact .inr (.inr rfl)
 have d4:decide (kindT t=4)=false:=decide_eq_false (by omega)
 have d1:decide (kindT t=1)=false:=decide_eq_false (by omega)
 have d3:decide (kindT t=3)=false:=decide_eq_false (by omega)
 have ho:=qfO (s:=s) hw hT h (x:=bs [40]) (by decide) (lv:=lv+1)
 cases hq:qc4 12 2 (bs [40]) (lv+1) (t::r) with
 | er a c=>
  rw[hq] at hx ho
  simp only[Option.some.injEq] at hx
  subst hx
  obtain⟨i',z⟩:=ho
  exact⟨i',qo0 hlv h hb d4 d1 d3 h1 h2 n3 z⟩
 | ok u r2=>
  have hl1:=qhP hq
  rw[hq] at hx ho
  simp only at hx
  obtain⟨i',a1,a2,z⟩:=ho
  obtain⟨t2,r3,rfl⟩:=qaP a2
  cases hq2:qak 12 2 true n 1 (lv+1) (t2::r3) with
  | none=>rw[hq2] at hx; cases hx
  | some y=>
   rw[hq2] at hx
   have h2':=ihe 1 (lv+1) i' t2 r3 y (by omega) (by omega) hl1 a1 hq2
   cases y with
   | er a c=>
    simp only[Option.some.injEq] at hx
    subst hx
    obtain⟨i2,z2⟩:=h2'
    exact⟨i2,qo1 hlv h hb d4 d1 d3 h1 h2 n3 z z2⟩
   | ok e r4=>
    simp only at hx
    obtain⟨i2,b1,b2,z2⟩:=h2'
    obtain⟨t3,r5,rfl⟩:=qaP b2
    have hc:=qb1 (s:=s) hw hT b1 (x:=bs [41]) (by decide)
    cases hq3:qaF 12 (bs [41]) (t3::r5) with
    | er a c=>
     rw[hq3] at hx hc
     simp only[Option.some.injEq] at hx
     subst hx
     obtain⟨i3,z3⟩:=hc
     exact⟨i3,qo2 hlv h hb d4 d1 d3 h1 h2 n3 z z2 z3⟩
    | ok u2 r6=>
     rw[hq3] at hx hc
     simp only[Option.some.injEq] at hx
     subst hx
     obtain⟨i3,c1,c2,z3⟩:=hc
     exact⟨i3,c1,c2,qsk hlv h hb d4 d1 d3 h1 h2 n3 z z2 z3⟩
theorem qlM (hw:WfQ T) (hT:T.length<2 ^ 40) (hP : ∀ t∈T,TokP t) : ∀ n,ExK s T n/\LoK s T n/\IdK s T n
 | 0=>⟨fun p lv i t r x _ _ _ _ hx=>by simp[qak] at hx,fun p lv i t r e x _ _ _ hx=>by simp[qb8] at hx,fun lv i t r x _ _ _ _ hx=>by simp[qbZ] at hx⟩
 | n+1=>by
  obtain⟨ihe,ihl,ihi⟩:=qlM hw hT hP n
  refine⟨fun p lv i t r x p1 p8 hlv h hx=>?_,qpF hw hT ihe ihl,qoN hw hT ihe⟩
  obtain rfl | rfl | rfl | rfl | rfl | rfl | rfl | rfl:p=1\/p=2\/p=3\/p=4\/p=5\/p=6\/p=7\/p=8:=by omega
  ·exact qkC ihe ihl (.inl rfl) hlv h hx
  ·exact qkC ihe ihl (.inr (.inl rfl)) hlv h hx
  ·exact qqw hw hT ihe (neg:=false) (.inl ⟨rfl,rfl⟩) hlv h hx
  ·exact qq5 hw hT ihe hlv h hx
  ·exact qkC ihe ihl (.inr (.inr (.inl rfl))) hlv h hx
  ·exact qkC ihe ihl (.inr (.inr (.inr rfl))) hlv h hx
  ·exact qqw hw hT ihe (neg:=true) (.inr ⟨rfl,rfl⟩) hlv h hx
  ·exact qoO hw hT hP ihe ihi hlv h hx
end
end Go.Pm
end SKt
section SKu
namespace Go.Pm
open F
set_option maxHeartbeats 4000000
attribute [local simp] qa4 qbv dkey
def ifT:ByteArray:=⟨#[105,102]⟩
def qaQ:ByteArray:=⟨#[119,104,105,108,101]⟩
def qaE:ByteArray:=⟨#[101,102,102,101,99,116]⟩
def qei:ByteArray:=⟨#[115,116,111,112]⟩
abbrev nv (k:Int) (x:ByteArray) (d:D):V := .dat (.agg [.lit (.int .i64 k),.lit (.int .i64 0),.lit (.string x),d])
abbrev cE (e:E):List D:=[.lit (.int .i64 e.kind),.lit (.int .i64 e.num),.lit (.string e.str),e.kids]
section
variable {s:ByteArray} {T:List Tk} {lv i i1 i2 i3 i4:Nat} {e e':E} {a c:Int} {t:Tk} {r:List Tk} {d:D}
theorem qrV {k:Int} {x:ByteArray} (o:V.one (.dat d)=true) (oc:V.cells (.dat d)=[.dat d]) (z:Z tP (.call 253 [.ptr 0 0,.str ⟨#[59]⟩] (PS s T i 0 12))=some (.ret (.tup []) (PS s T i1 0 12))):Z tP (.call 278 [.ptr 0 0,nv k x d] (PS s T i 0 12))=some (.ret (nv k x d) (PS s T i1 0 12)):=by
 simp only[PS,pO] at z
 refine Z_call (pf:=F278) rfl rfl ?_
 simp[F278,z,o,oc,List.range_succ]
theorem qp1 {k:Int} {x:ByteArray} (o:V.one (.dat d)=true) (oc:V.cells (.dat d)=[.dat d]) (z:Z tP (.call 253 [.ptr 0 0,.str ⟨#[59]⟩] (PS s T i 0 12))=some (.ret (qa8 c) (PS s T i1 a c))):Z tP (.call 278 [.ptr 0 0,nv k x d] (PS s T i 0 12))=some (.ret (qa8 c) (PS s T i1 a c)):=by
 simp only[PS,pO] at z
 refine Z_call (pf:=F278) rfl rfl ?_
 simp[F278,z,o,oc,qac,List.range_succ]
theorem qhB (hlv:lv<=20) (hT:T.length<2 ^ 40) (h:T.drop i=t::r) (hb:t.bad=0) (hk:kindT t=1)
  (z1:Z tP (.call 253 [.ptr 0 0,.str ⟨#[61]⟩] (PS s T ((i+1:Nat):Int) 0 12))=some (.ret (qa8 c) (PS s T i1 a c))):Z tP (.call 271 [.ptr 0 0,.int lv] (PS s T i 0 12))=some (.ret (qa8 c) (PS s T i1 a c)):=by
 have w1:=qaj ((lv:Int)+1) (by omega)
 have zp:=qap (s:=s) (a:=0) (c:=12) h hb
 have zt:=qaA (s:=s) (a:=0) (c:=12) h hb hT
 simp only[PS,pO,ptk,ptD,hk,qah hb] at zp zt
 simp only[PS,pO,cE,nv,List.cons_append,List.nil_append] at z1
 try simp only[Int.natCast_add,Int.cast_ofNat_Int] at zt z1
 refine Z_call (pf:=F271) rfl rfl ?_
 simp[F271,zp,zt,w1,z1,qac,qat,qcy,qa2,qbg,qbz,qa3,still,V.same,List.range_succ]
theorem qhC (hlv:lv<=20) (hT:T.length<2 ^ 40) (h:T.drop i=t::r) (hb:t.bad=0) (hk:kindT t=1)
  (z1:Z tP (.call 253 [.ptr 0 0,.str ⟨#[61]⟩] (PS s T ((i+1:Nat):Int) 0 12))=some (.ret (.tup []) (PS s T i1 0 12)))
  (z2:Z tP (.call 279 [.ptr 0 0,.int lv] (PS s T i1 0 12))=some (.ret (qa8 c) (PS s T i2 a c))):Z tP (.call 271 [.ptr 0 0,.int lv] (PS s T i 0 12))=some (.ret (qa8 c) (PS s T i2 a c)):=by
 have w1:=qaj ((lv:Int)+1) (by omega)
 have zp:=qap (s:=s) (a:=0) (c:=12) h hb
 have zt:=qaA (s:=s) (a:=0) (c:=12) h hb hT
 simp only[PS,pO,ptk,ptD,hk,qah hb] at zp zt
 simp only[PS,pO,cE,nv,List.cons_append,List.nil_append] at z1 z2
 try simp only[Int.natCast_add,Int.cast_ofNat_Int] at zt z1 z2
 refine Z_call (pf:=F271) rfl rfl ?_
 simp[F271,zp,zt,w1,z1,z2,qac,qat,qcy,qa2,qbg,qbz,qa3,still,V.same,List.range_succ]
theorem qhD (hlv:lv<=20) (hT:T.length<2 ^ 40) (h:T.drop i=t::r) (hb:t.bad=0) (hk:kindT t=1)
  (z1:Z tP (.call 253 [.ptr 0 0,.str ⟨#[61]⟩] (PS s T ((i+1:Nat):Int) 0 12))=some (.ret (.tup []) (PS s T i1 0 12)))
  (z2:Z tP (.call 279 [.ptr 0 0,.int lv] (PS s T i1 0 12))=some (.ret (e).node (PS s T i2 0 12)))
  (z3:Z tP (.call 278 [.ptr 0 0,nv 1 t.s (.sl (cE e) 1 true)] (PS s T i2 0 12))=some (.ret (qa8 c) (PS s T i3 a c))):Z tP (.call 271 [.ptr 0 0,.int lv] (PS s T i 0 12))=some (.ret (qa8 c) (PS s T i3 a c)):=by
 have w1:=qaj ((lv:Int)+1) (by omega)
 have zp:=qap (s:=s) (a:=0) (c:=12) h hb
 have zt:=qaA (s:=s) (a:=0) (c:=12) h hb hT
 simp only[PS,pO,ptk,ptD,hk,qah hb] at zp zt
 simp only[PS,pO,cE,nv,List.cons_append,List.nil_append] at z1 z2 z3
 try simp only[Int.natCast_add,Int.cast_ofNat_Int] at zt z1 z2 z3
 refine Z_call (pf:=F271) rfl rfl ?_
 simp[F271,zp,zt,w1,z1,z2,z3,qac,qat,qcy,qa2,qbg,qbz,qa3,still,V.same,List.range_succ]
theorem qjg (hlv:lv<=20) (hT:T.length<2 ^ 40) (h:T.drop i=t::r) (hb:t.bad=0) (hk:kindT t=1)
  (z1:Z tP (.call 253 [.ptr 0 0,.str ⟨#[61]⟩] (PS s T ((i+1:Nat):Int) 0 12))=some (.ret (.tup []) (PS s T i1 0 12)))
  (z2:Z tP (.call 279 [.ptr 0 0,.int lv] (PS s T i1 0 12))=some (.ret (e).node (PS s T i2 0 12)))
  (z3:Z tP (.call 278 [.ptr 0 0,nv 1 t.s (.sl (cE e) 1 true)] (PS s T i2 0 12))=some (.ret (nv 1 t.s (.sl (cE e) 1 true)) (PS s T i3 0 12))):Z tP (.call 271 [.ptr 0 0,.int lv] (PS s T i 0 12))=some (.ret (nv 1 t.s (.sl (cE e) 1 true)) (PS s T i3 0 12)):=by
 have w1:=qaj ((lv:Int)+1) (by omega)
 have zp:=qap (s:=s) (a:=0) (c:=12) h hb
 have zt:=qaA (s:=s) (a:=0) (c:=12) h hb hT
 simp only[PS,pO,ptk,ptD,hk,qah hb] at zp zt
 simp only[PS,pO,cE,nv,List.cons_append,List.nil_append] at z1 z2 z3
 try simp only[Int.natCast_add,Int.cast_ofNat_Int] at zt z1 z2 z3
 refine Z_call (pf:=F271) rfl rfl ?_
 simp[F271,zp,zt,w1,z1,z2,z3,qac,qat,qcy,qa2,qbg,qbz,qa3,still,V.same,List.range_succ]
theorem qik (hlv:lv<=20) (hT:T.length<2 ^ 40) (h:T.drop i=t::r) (hb:t.bad=0) (hk:kindT t=3)
  (z1:Z tP (.call 280 [.ptr 0 0,.int lv] (PS s T i 0 12))=some (.ret (qa8 c) (PS s T i1 a c))):Z tP (.call 271 [.ptr 0 0,.int lv] (PS s T i 0 12))=some (.ret (qa8 c) (PS s T i1 a c)):=by
 have w1:=qaj ((lv:Int)+1) (by omega)
 have zp:=qap (s:=s) (a:=0) (c:=12) h hb
 have zt:=qaA (s:=s) (a:=0) (c:=12) h hb hT
 simp only[PS,pO,ptk,ptD,hk,qah hb] at zp zt
 simp only[PS,pO,cE,nv,List.cons_append,List.nil_append] at z1
 try simp only[Int.natCast_add,Int.cast_ofNat_Int] at zt z1
 refine Z_call (pf:=F271) rfl rfl ?_
 simp[F271,zp,zt,w1,z1,qac,qat,qcy,qa2,qbg,qbz,qa3,still,V.same,List.range_succ]
theorem qil (hlv:lv<=20) (hT:T.length<2 ^ 40) (h:T.drop i=t::r) (hb:t.bad=0) (hk:kindT t=3)
  (z1:Z tP (.call 280 [.ptr 0 0,.int lv] (PS s T i 0 12))=some (.ret e.node (PS s T i1 0 12)))
  (z2:Z tP (.call 253 [.ptr 0 0,.str ⟨#[61]⟩] (PS s T i1 0 12))=some (.ret (qa8 c) (PS s T i2 a c))):Z tP (.call 271 [.ptr 0 0,.int lv] (PS s T i 0 12))=some (.ret (qa8 c) (PS s T i2 a c)):=by
 have w1:=qaj ((lv:Int)+1) (by omega)
 have zp:=qap (s:=s) (a:=0) (c:=12) h hb
 have zt:=qaA (s:=s) (a:=0) (c:=12) h hb hT
 simp only[PS,pO,ptk,ptD,hk,qah hb] at zp zt
 simp only[PS,pO,cE,nv,List.cons_append,List.nil_append] at z1 z2
 try simp only[Int.natCast_add,Int.cast_ofNat_Int] at zt z1 z2
 refine Z_call (pf:=F271) rfl rfl ?_
 simp[F271,zp,zt,w1,z1,z2,qac,qat,qcy,qa2,qbg,qbz,qa3,still,V.same,List.range_succ]
theorem qim (hlv:lv<=20) (hT:T.length<2 ^ 40) (h:T.drop i=t::r) (hb:t.bad=0) (hk:kindT t=3)
  (z1:Z tP (.call 280 [.ptr 0 0,.int lv] (PS s T i 0 12))=some (.ret e.node (PS s T i1 0 12)))
  (z2:Z tP (.call 253 [.ptr 0 0,.str ⟨#[61]⟩] (PS s T i1 0 12))=some (.ret (.tup []) (PS s T i2 0 12)))
  (z3:Z tP (.call 279 [.ptr 0 0,.int lv] (PS s T i2 0 12))=some (.ret (qa8 c) (PS s T i3 a c))):Z tP (.call 271 [.ptr 0 0,.int lv] (PS s T i 0 12))=some (.ret (qa8 c) (PS s T i3 a c)):=by
 have w1:=qaj ((lv:Int)+1) (by omega)
 have zp:=qap (s:=s) (a:=0) (c:=12) h hb
 have zt:=qaA (s:=s) (a:=0) (c:=12) h hb hT
 simp only[PS,pO,ptk,ptD,hk,qah hb] at zp zt
 simp only[PS,pO,cE,nv,List.cons_append,List.nil_append] at z1 z2 z3
 try simp only[Int.natCast_add,Int.cast_ofNat_Int] at zt z1 z2 z3
 refine Z_call (pf:=F271) rfl rfl ?_
 simp[F271,zp,zt,w1,z1,z2,z3,qac,qat,qcy,qa2,qbg,qbz,qa3,still,V.same,List.range_succ]
theorem qin (hlv:lv<=20) (hT:T.length<2 ^ 40) (h:T.drop i=t::r) (hb:t.bad=0) (hk:kindT t=3)
  (z1:Z tP (.call 280 [.ptr 0 0,.int lv] (PS s T i 0 12))=some (.ret e.node (PS s T i1 0 12)))
  (z2:Z tP (.call 253 [.ptr 0 0,.str ⟨#[61]⟩] (PS s T i1 0 12))=some (.ret (.tup []) (PS s T i2 0 12)))
  (z3:Z tP (.call 279 [.ptr 0 0,.int lv] (PS s T i2 0 12))=some (.ret (e').node (PS s T i3 0 12)))
  (z4:Z tP (.call 278 [.ptr 0 0,nv 2 t.s (.sl (cE e++cE e') 2 true)] (PS s T i3 0 12))=some (.ret (qa8 c) (PS s T i4 a c))):Z tP (.call 271 [.ptr 0 0,.int lv] (PS s T i 0 12))=some (.ret (qa8 c) (PS s T i4 a c)):=by
 have w1:=qaj ((lv:Int)+1) (by omega)
 have zp:=qap (s:=s) (a:=0) (c:=12) h hb
 have zt:=qaA (s:=s) (a:=0) (c:=12) h hb hT
 simp only[PS,pO,ptk,ptD,hk,qah hb] at zp zt
 simp only[PS,pO,cE,nv,List.cons_append,List.nil_append] at z1 z2 z3 z4
 try simp only[Int.natCast_add,Int.cast_ofNat_Int] at zt z1 z2 z3 z4
 refine Z_call (pf:=F271) rfl rfl ?_
 simp[F271,zp,zt,w1,z1,z2,z3,z4,qac,qat,qcy,qa2,qbg,qbz,qa3,still,V.same,List.range_succ]
theorem qkL (hlv:lv<=20) (hT:T.length<2 ^ 40) (h:T.drop i=t::r) (hb:t.bad=0) (hk:kindT t=3)
  (z1:Z tP (.call 280 [.ptr 0 0,.int lv] (PS s T i 0 12))=some (.ret e.node (PS s T i1 0 12)))
  (z2:Z tP (.call 253 [.ptr 0 0,.str ⟨#[61]⟩] (PS s T i1 0 12))=some (.ret (.tup []) (PS s T i2 0 12)))
  (z3:Z tP (.call 279 [.ptr 0 0,.int lv] (PS s T i2 0 12))=some (.ret (e').node (PS s T i3 0 12)))
  (z4:Z tP (.call 278 [.ptr 0 0,nv 2 t.s (.sl (cE e++cE e') 2 true)] (PS s T i3 0 12))=some (.ret (nv 2 t.s (.sl (cE e++cE e') 2 true)) (PS s T i4 0 12))):Z tP (.call 271 [.ptr 0 0,.int lv] (PS s T i 0 12))=some (.ret (nv 2 t.s (.sl (cE e++cE e') 2 true)) (PS s T i4 0 12)):=by
 have w1:=qaj ((lv:Int)+1) (by omega)
 have zp:=qap (s:=s) (a:=0) (c:=12) h hb
 have zt:=qaA (s:=s) (a:=0) (c:=12) h hb hT
 simp only[PS,pO,ptk,ptD,hk,qah hb] at zp zt
 simp only[PS,pO,cE,nv,List.cons_append,List.nil_append] at z1 z2 z3 z4
 try simp only[Int.natCast_add,Int.cast_ofNat_Int] at zt z1 z2 z3 z4
 refine Z_call (pf:=F271) rfl rfl ?_
 simp[F271,zp,zt,w1,z1,z2,z3,z4,qac,qat,qcy,qa2,qbg,qbz,qa3,still,V.same,List.range_succ]
theorem qlr (hlv:lv<=20) (hT:T.length<2 ^ 40) (h:T.drop i=t::r) (hb:t.bad=0) (h1:decide (kindT t=1)=false) (h3:decide (kindT t=3)=false) (hm:t.s=ifT) (od:V.one (.dat d)=true) (oc:V.cells (.dat d)=[.dat d])
  (z1:Z tP (.call 281 [.ptr 0 0,.int lv] (PS s T i 0 12))=some (.ret (qa8 c) (PS s T i1 a c))):Z tP (.call 271 [.ptr 0 0,.int lv] (PS s T i 0 12))=some (.ret (qa8 c) (PS s T i1 a c)):=by
 have w1:=qaj ((lv:Int)+1) (by omega)
 have zp:=qap (s:=s) (a:=0) (c:=12) h hb
 have zt:=qaA (s:=s) (a:=0) (c:=12) h hb hT
 simp only[PS,pO,ptk,ptD,qah hb] at zp zt
 have y0:=qaC (s:=s) (a:=0) (c:=12) h hb (qad [ifT] true) (by simp) (by decide)
 simp only[hm,List.mem_singleton,decide_true] at y0
 simp only[PS,pO,ifT,qaS,List.map_cons,List.map_nil,List.length_singleton] at y0
 simp only[PS,pO,cE,nv,List.cons_append,List.nil_append] at z1
 try simp only[Int.natCast_add,Int.cast_ofNat_Int] at zt z1
 refine Z_call (pf:=F271) rfl rfl ?_
 simp[F271,zp,zt,w1,h1,h3,y0,od,oc,z1,qac,qat,qcy,qa2,qbg,qbz,qa3,still,V.same,List.range_succ]
theorem qom (hlv:lv<=20) (hT:T.length<2 ^ 40) (h:T.drop i=t::r) (hb:t.bad=0) (h1:decide (kindT t=1)=false) (h3:decide (kindT t=3)=false) (hm:t.s=ifT) (od:V.one (.dat d)=true) (oc:V.cells (.dat d)=[.dat d])
  (z1:Z tP (.call 281 [.ptr 0 0,.int lv] (PS s T i 0 12))=some (.ret (nv 3 ⟨#[]⟩ d) (PS s T i1 0 12))):Z tP (.call 271 [.ptr 0 0,.int lv] (PS s T i 0 12))=some (.ret (nv 3 ⟨#[]⟩ d) (PS s T i1 0 12)):=by
 have w1:=qaj ((lv:Int)+1) (by omega)
 have zp:=qap (s:=s) (a:=0) (c:=12) h hb
 have zt:=qaA (s:=s) (a:=0) (c:=12) h hb hT
 simp only[PS,pO,ptk,ptD,qah hb] at zp zt
 have y0:=qaC (s:=s) (a:=0) (c:=12) h hb (qad [ifT] true) (by simp) (by decide)
 simp only[hm,List.mem_singleton,decide_true] at y0
 simp only[PS,pO,ifT,qaS,List.map_cons,List.map_nil,List.length_singleton] at y0
 simp only[PS,pO,cE,nv,List.cons_append,List.nil_append] at z1
 try simp only[Int.natCast_add,Int.cast_ofNat_Int] at zt z1
 refine Z_call (pf:=F271) rfl rfl ?_
 simp[F271,zp,zt,w1,h1,h3,y0,od,oc,z1,qac,qat,qcy,qa2,qbg,qbz,qa3,still,V.same,List.range_succ]
theorem qio (hlv:lv<=20) (hT:T.length<2 ^ 40) (h:T.drop i=t::r) (hb:t.bad=0) (h1:decide (kindT t=1)=false) (h3:decide (kindT t=3)=false) (hm:t.s=qaQ) (od:V.one (.dat d)=true) (oc:V.cells (.dat d)=[.dat d])
  (z1:Z tP (.call 279 [.ptr 0 0,.int lv] (PS s T ((i+1:Nat):Int) 0 12))=some (.ret (qa8 c) (PS s T i1 a c))):Z tP (.call 271 [.ptr 0 0,.int lv] (PS s T i 0 12))=some (.ret (qa8 c) (PS s T i1 a c)):=by
 have w1:=qaj ((lv:Int)+1) (by omega)
 have zp:=qap (s:=s) (a:=0) (c:=12) h hb
 have zt:=qaA (s:=s) (a:=0) (c:=12) h hb hT
 simp only[PS,pO,ptk,ptD,qah hb] at zp zt
 have y0:=qaC (s:=s) (a:=0) (c:=12) h hb (qad [ifT] true) (by simp) (by decide)
 have q0:qaQ≠ifT:=by decide
 simp only[hm,List.mem_singleton,q0,decide_false] at y0
 simp only[PS,pO,ifT,qaS,List.map_cons,List.map_nil,List.length_singleton] at y0
 have y1:=qaC (s:=s) (a:=0) (c:=12) h hb (qad [qaQ] true) (by simp) (by decide)
 simp only[hm,List.mem_singleton,decide_true] at y1
 simp only[PS,pO,qaQ,qaS,List.map_cons,List.map_nil,List.length_singleton] at y1
 simp only[PS,pO,cE,nv,List.cons_append,List.nil_append] at z1
 try simp only[Int.natCast_add,Int.cast_ofNat_Int] at zt z1
 refine Z_call (pf:=F271) rfl rfl ?_
 simp[F271,zp,zt,w1,h1,h3,y0,y1,od,oc,z1,qac,qat,qcy,qa2,qbg,qbz,qa3,still,V.same,List.range_succ]
theorem qip (hlv:lv<=20) (hT:T.length<2 ^ 40) (h:T.drop i=t::r) (hb:t.bad=0) (h1:decide (kindT t=1)=false) (h3:decide (kindT t=3)=false) (hm:t.s=qaQ) (od:V.one (.dat d)=true) (oc:V.cells (.dat d)=[.dat d])
  (z1:Z tP (.call 279 [.ptr 0 0,.int lv] (PS s T ((i+1:Nat):Int) 0 12))=some (.ret (e).node (PS s T i1 0 12)))
  (z2:Z tP (.call 256 [.ptr 0 0,.int ((lv+1:Nat):Int)] (PS s T i1 0 12))=some (.ret (qa8 c) (PS s T i2 a c))):Z tP (.call 271 [.ptr 0 0,.int lv] (PS s T i 0 12))=some (.ret (qa8 c) (PS s T i2 a c)):=by
 have w1:=qaj ((lv:Int)+1) (by omega)
 have zp:=qap (s:=s) (a:=0) (c:=12) h hb
 have zt:=qaA (s:=s) (a:=0) (c:=12) h hb hT
 simp only[PS,pO,ptk,ptD,qah hb] at zp zt
 have y0:=qaC (s:=s) (a:=0) (c:=12) h hb (qad [ifT] true) (by simp) (by decide)
 have q0:qaQ≠ifT:=by decide
 simp only[hm,List.mem_singleton,q0,decide_false] at y0
 simp only[PS,pO,ifT,qaS,List.map_cons,List.map_nil,List.length_singleton] at y0
 have y1:=qaC (s:=s) (a:=0) (c:=12) h hb (qad [qaQ] true) (by simp) (by decide)
 simp only[hm,List.mem_singleton,decide_true] at y1
 simp only[PS,pO,qaQ,qaS,List.map_cons,List.map_nil,List.length_singleton] at y1
 simp only[PS,pO,cE,nv,List.cons_append,List.nil_append] at z1 z2
 try simp only[Int.natCast_add,Int.cast_ofNat_Int] at zt z1 z2
 refine Z_call (pf:=F271) rfl rfl ?_
 simp[F271,zp,zt,w1,h1,h3,y0,y1,od,oc,z1,z2,qac,qat,qcy,qa2,qbg,qbz,qa3,still,V.same,List.range_succ]
theorem qkM (hlv:lv<=20) (hT:T.length<2 ^ 40) (h:T.drop i=t::r) (hb:t.bad=0) (h1:decide (kindT t=1)=false) (h3:decide (kindT t=3)=false) (hm:t.s=qaQ) (od:V.one (.dat d)=true) (oc:V.cells (.dat d)=[.dat d])
  (z1:Z tP (.call 279 [.ptr 0 0,.int lv] (PS s T ((i+1:Nat):Int) 0 12))=some (.ret (e).node (PS s T i1 0 12)))
  (z2:Z tP (.call 256 [.ptr 0 0,.int ((lv+1:Nat):Int)] (PS s T i1 0 12))=some (.ret (nv 7 ⟨#[]⟩ d) (PS s T i2 0 12))):Z tP (.call 271 [.ptr 0 0,.int lv] (PS s T i 0 12))=some (.ret (nv 4 ⟨#[]⟩ (.sl (cE e++[.lit (.int .i64 7),.lit (.int .i64 0),.lit (.string ⟨#[]⟩),d]) 2 true)) (PS s T i2 0 12)):=by
 have w1:=qaj ((lv:Int)+1) (by omega)
 have zp:=qap (s:=s) (a:=0) (c:=12) h hb
 have zt:=qaA (s:=s) (a:=0) (c:=12) h hb hT
 simp only[PS,pO,ptk,ptD,qah hb] at zp zt
 have y0:=qaC (s:=s) (a:=0) (c:=12) h hb (qad [ifT] true) (by simp) (by decide)
 have q0:qaQ≠ifT:=by decide
 simp only[hm,List.mem_singleton,q0,decide_false] at y0
 simp only[PS,pO,ifT,qaS,List.map_cons,List.map_nil,List.length_singleton] at y0
 have y1:=qaC (s:=s) (a:=0) (c:=12) h hb (qad [qaQ] true) (by simp) (by decide)
 simp only[hm,List.mem_singleton,decide_true] at y1
 simp only[PS,pO,qaQ,qaS,List.map_cons,List.map_nil,List.length_singleton] at y1
 simp only[PS,pO,cE,nv,List.cons_append,List.nil_append] at z1 z2
 try simp only[Int.natCast_add,Int.cast_ofNat_Int] at zt z1 z2
 refine Z_call (pf:=F271) rfl rfl ?_
 simp[F271,zp,zt,w1,h1,h3,y0,y1,od,oc,z1,z2,qac,qat,qcy,qa2,qbg,qbz,qa3,still,V.same,List.range_succ]
theorem qhE (hlv:lv<=20) (hT:T.length<2 ^ 40) (h:T.drop i=t::r) (hb:t.bad=0) (h1:decide (kindT t=1)=false) (h3:decide (kindT t=3)=false) (hm:t.s=qaE)
  (z1:Z tP (.call 279 [.ptr 0 0,.int lv] (PS s T ((i+1:Nat):Int) 0 12))=some (.ret (qa8 c) (PS s T i1 a c))):Z tP (.call 271 [.ptr 0 0,.int lv] (PS s T i 0 12))=some (.ret (qa8 c) (PS s T i1 a c)):=by
 have w1:=qaj ((lv:Int)+1) (by omega)
 have zp:=qap (s:=s) (a:=0) (c:=12) h hb
 have zt:=qaA (s:=s) (a:=0) (c:=12) h hb hT
 simp only[PS,pO,ptk,ptD,qah hb] at zp zt
 have y0:=qaC (s:=s) (a:=0) (c:=12) h hb (qad [ifT] true) (by simp) (by decide)
 have q0:qaE≠ifT:=by decide
 simp only[hm,List.mem_singleton,q0,decide_false] at y0
 simp only[PS,pO,ifT,qaS,List.map_cons,List.map_nil,List.length_singleton] at y0
 have y1:=qaC (s:=s) (a:=0) (c:=12) h hb (qad [qaQ] true) (by simp) (by decide)
 have q1:qaE≠qaQ:=by decide
 simp only[hm,List.mem_singleton,q1,decide_false] at y1
 simp only[PS,pO,qaQ,qaS,List.map_cons,List.map_nil,List.length_singleton] at y1
 have y2:=qaC (s:=s) (a:=0) (c:=12) h hb (qad [qaE] true) (by simp) (by decide)
 simp only[hm,List.mem_singleton,decide_true] at y2
 simp only[PS,pO,qaE,qaS,List.map_cons,List.map_nil,List.length_singleton] at y2
 simp only[PS,pO,cE,nv,List.cons_append,List.nil_append] at z1
 try simp only[Int.natCast_add,Int.cast_ofNat_Int] at zt z1
 refine Z_call (pf:=F271) rfl rfl ?_
 simp[F271,zp,zt,w1,h1,h3,y0,y1,y2,z1,qac,qat,qcy,qa2,qbg,qbz,qa3,still,V.same,List.range_succ]
theorem qhF (hlv:lv<=20) (hT:T.length<2 ^ 40) (h:T.drop i=t::r) (hb:t.bad=0) (h1:decide (kindT t=1)=false) (h3:decide (kindT t=3)=false) (hm:t.s=qaE)
  (z1:Z tP (.call 279 [.ptr 0 0,.int lv] (PS s T ((i+1:Nat):Int) 0 12))=some (.ret (e).node (PS s T i1 0 12)))
  (z2:Z tP (.call 253 [.ptr 0 0,.str ⟨#[44]⟩] (PS s T i1 0 12))=some (.ret (qa8 c) (PS s T i2 a c))):Z tP (.call 271 [.ptr 0 0,.int lv] (PS s T i 0 12))=some (.ret (qa8 c) (PS s T i2 a c)):=by
 have w1:=qaj ((lv:Int)+1) (by omega)
 have zp:=qap (s:=s) (a:=0) (c:=12) h hb
 have zt:=qaA (s:=s) (a:=0) (c:=12) h hb hT
 simp only[PS,pO,ptk,ptD,qah hb] at zp zt
 have y0:=qaC (s:=s) (a:=0) (c:=12) h hb (qad [ifT] true) (by simp) (by decide)
 have q0:qaE≠ifT:=by decide
 simp only[hm,List.mem_singleton,q0,decide_false] at y0
 simp only[PS,pO,ifT,qaS,List.map_cons,List.map_nil,List.length_singleton] at y0
 have y1:=qaC (s:=s) (a:=0) (c:=12) h hb (qad [qaQ] true) (by simp) (by decide)
 have q1:qaE≠qaQ:=by decide
 simp only[hm,List.mem_singleton,q1,decide_false] at y1
 simp only[PS,pO,qaQ,qaS,List.map_cons,List.map_nil,List.length_singleton] at y1
 have y2:=qaC (s:=s) (a:=0) (c:=12) h hb (qad [qaE] true) (by simp) (by decide)
 simp only[hm,List.mem_singleton,decide_true] at y2
 simp only[PS,pO,qaE,qaS,List.map_cons,List.map_nil,List.length_singleton] at y2
 simp only[PS,pO,cE,nv,List.cons_append,List.nil_append] at z1 z2
 try simp only[Int.natCast_add,Int.cast_ofNat_Int] at zt z1 z2
 refine Z_call (pf:=F271) rfl rfl ?_
 simp[F271,zp,zt,w1,h1,h3,y0,y1,y2,z1,z2,qac,qat,qcy,qa2,qbg,qbz,qa3,still,V.same,List.range_succ]
theorem qhG (hlv:lv<=20) (hT:T.length<2 ^ 40) (h:T.drop i=t::r) (hb:t.bad=0) (h1:decide (kindT t=1)=false) (h3:decide (kindT t=3)=false) (hm:t.s=qaE)
  (z1:Z tP (.call 279 [.ptr 0 0,.int lv] (PS s T ((i+1:Nat):Int) 0 12))=some (.ret (e).node (PS s T i1 0 12)))
  (z2:Z tP (.call 253 [.ptr 0 0,.str ⟨#[44]⟩] (PS s T i1 0 12))=some (.ret (.tup []) (PS s T i2 0 12)))
  (z3:Z tP (.call 279 [.ptr 0 0,.int lv] (PS s T i2 0 12))=some (.ret (qa8 c) (PS s T i3 a c))):Z tP (.call 271 [.ptr 0 0,.int lv] (PS s T i 0 12))=some (.ret (qa8 c) (PS s T i3 a c)):=by
 have w1:=qaj ((lv:Int)+1) (by omega)
 have zp:=qap (s:=s) (a:=0) (c:=12) h hb
 have zt:=qaA (s:=s) (a:=0) (c:=12) h hb hT
 simp only[PS,pO,ptk,ptD,qah hb] at zp zt
 have y0:=qaC (s:=s) (a:=0) (c:=12) h hb (qad [ifT] true) (by simp) (by decide)
 have q0:qaE≠ifT:=by decide
 simp only[hm,List.mem_singleton,q0,decide_false] at y0
 simp only[PS,pO,ifT,qaS,List.map_cons,List.map_nil,List.length_singleton] at y0
 have y1:=qaC (s:=s) (a:=0) (c:=12) h hb (qad [qaQ] true) (by simp) (by decide)
 have q1:qaE≠qaQ:=by decide
 simp only[hm,List.mem_singleton,q1,decide_false] at y1
 simp only[PS,pO,qaQ,qaS,List.map_cons,List.map_nil,List.length_singleton] at y1
 have y2:=qaC (s:=s) (a:=0) (c:=12) h hb (qad [qaE] true) (by simp) (by decide)
 simp only[hm,List.mem_singleton,decide_true] at y2
 simp only[PS,pO,qaE,qaS,List.map_cons,List.map_nil,List.length_singleton] at y2
 simp only[PS,pO,cE,nv,List.cons_append,List.nil_append] at z1 z2 z3
 try simp only[Int.natCast_add,Int.cast_ofNat_Int] at zt z1 z2 z3
 refine Z_call (pf:=F271) rfl rfl ?_
 simp[F271,zp,zt,w1,h1,h3,y0,y1,y2,z1,z2,z3,qac,qat,qcy,qa2,qbg,qbz,qa3,still,V.same,List.range_succ]
theorem qhH (hlv:lv<=20) (hT:T.length<2 ^ 40) (h:T.drop i=t::r) (hb:t.bad=0) (h1:decide (kindT t=1)=false) (h3:decide (kindT t=3)=false) (hm:t.s=qaE)
  (z1:Z tP (.call 279 [.ptr 0 0,.int lv] (PS s T ((i+1:Nat):Int) 0 12))=some (.ret (e).node (PS s T i1 0 12)))
  (z2:Z tP (.call 253 [.ptr 0 0,.str ⟨#[44]⟩] (PS s T i1 0 12))=some (.ret (.tup []) (PS s T i2 0 12)))
  (z3:Z tP (.call 279 [.ptr 0 0,.int lv] (PS s T i2 0 12))=some (.ret (e').node (PS s T i3 0 12)))
  (z4:Z tP (.call 278 [.ptr 0 0,nv 5 ⟨#[]⟩ (.sl (cE e++cE e') 2 true)] (PS s T i3 0 12))=some (.ret (qa8 c) (PS s T i4 a c))):Z tP (.call 271 [.ptr 0 0,.int lv] (PS s T i 0 12))=some (.ret (qa8 c) (PS s T i4 a c)):=by
 have w1:=qaj ((lv:Int)+1) (by omega)
 have zp:=qap (s:=s) (a:=0) (c:=12) h hb
 have zt:=qaA (s:=s) (a:=0) (c:=12) h hb hT
 simp only[PS,pO,ptk,ptD,qah hb] at zp zt
 have y0:=qaC (s:=s) (a:=0) (c:=12) h hb (qad [ifT] true) (by simp) (by decide)
 have q0:qaE≠ifT:=by decide
 simp only[hm,List.mem_singleton,q0,decide_false] at y0
 simp only[PS,pO,ifT,qaS,List.map_cons,List.map_nil,List.length_singleton] at y0
 have y1:=qaC (s:=s) (a:=0) (c:=12) h hb (qad [qaQ] true) (by simp) (by decide)
 have q1:qaE≠qaQ:=by decide
 simp only[hm,List.mem_singleton,q1,decide_false] at y1
 simp only[PS,pO,qaQ,qaS,List.map_cons,List.map_nil,List.length_singleton] at y1
 have y2:=qaC (s:=s) (a:=0) (c:=12) h hb (qad [qaE] true) (by simp) (by decide)
 simp only[hm,List.mem_singleton,decide_true] at y2
 simp only[PS,pO,qaE,qaS,List.map_cons,List.map_nil,List.length_singleton] at y2
 simp only[PS,pO,cE,nv,List.cons_append,List.nil_append] at z1 z2 z3 z4
 try simp only[Int.natCast_add,Int.cast_ofNat_Int] at zt z1 z2 z3 z4
 refine Z_call (pf:=F271) rfl rfl ?_
 simp[F271,zp,zt,w1,h1,h3,y0,y1,y2,z1,z2,z3,z4,qac,qat,qcy,qa2,qbg,qbz,qa3,still,V.same,List.range_succ]
theorem qjh (hlv:lv<=20) (hT:T.length<2 ^ 40) (h:T.drop i=t::r) (hb:t.bad=0) (h1:decide (kindT t=1)=false) (h3:decide (kindT t=3)=false) (hm:t.s=qaE)
  (z1:Z tP (.call 279 [.ptr 0 0,.int lv] (PS s T ((i+1:Nat):Int) 0 12))=some (.ret (e).node (PS s T i1 0 12)))
  (z2:Z tP (.call 253 [.ptr 0 0,.str ⟨#[44]⟩] (PS s T i1 0 12))=some (.ret (.tup []) (PS s T i2 0 12)))
  (z3:Z tP (.call 279 [.ptr 0 0,.int lv] (PS s T i2 0 12))=some (.ret (e').node (PS s T i3 0 12)))
  (z4:Z tP (.call 278 [.ptr 0 0,nv 5 ⟨#[]⟩ (.sl (cE e++cE e') 2 true)] (PS s T i3 0 12))=some (.ret (nv 5 ⟨#[]⟩ (.sl (cE e++cE e') 2 true)) (PS s T i4 0 12))):Z tP (.call 271 [.ptr 0 0,.int lv] (PS s T i 0 12))=some (.ret (nv 5 ⟨#[]⟩ (.sl (cE e++cE e') 2 true)) (PS s T i4 0 12)):=by
 have w1:=qaj ((lv:Int)+1) (by omega)
 have zp:=qap (s:=s) (a:=0) (c:=12) h hb
 have zt:=qaA (s:=s) (a:=0) (c:=12) h hb hT
 simp only[PS,pO,ptk,ptD,qah hb] at zp zt
 have y0:=qaC (s:=s) (a:=0) (c:=12) h hb (qad [ifT] true) (by simp) (by decide)
 have q0:qaE≠ifT:=by decide
 simp only[hm,List.mem_singleton,q0,decide_false] at y0
 simp only[PS,pO,ifT,qaS,List.map_cons,List.map_nil,List.length_singleton] at y0
 have y1:=qaC (s:=s) (a:=0) (c:=12) h hb (qad [qaQ] true) (by simp) (by decide)
 have q1:qaE≠qaQ:=by decide
 simp only[hm,List.mem_singleton,q1,decide_false] at y1
 simp only[PS,pO,qaQ,qaS,List.map_cons,List.map_nil,List.length_singleton] at y1
 have y2:=qaC (s:=s) (a:=0) (c:=12) h hb (qad [qaE] true) (by simp) (by decide)
 simp only[hm,List.mem_singleton,decide_true] at y2
 simp only[PS,pO,qaE,qaS,List.map_cons,List.map_nil,List.length_singleton] at y2
 simp only[PS,pO,cE,nv,List.cons_append,List.nil_append] at z1 z2 z3 z4
 try simp only[Int.natCast_add,Int.cast_ofNat_Int] at zt z1 z2 z3 z4
 refine Z_call (pf:=F271) rfl rfl ?_
 simp[F271,zp,zt,w1,h1,h3,y0,y1,y2,z1,z2,z3,z4,qac,qat,qcy,qa2,qbg,qbz,qa3,still,V.same,List.range_succ]
theorem qji (hlv:lv<=20) (hT:T.length<2 ^ 40) (h:T.drop i=t::r) (hb:t.bad=0) (h1:decide (kindT t=1)=false) (h3:decide (kindT t=3)=false) (hm:t.s=qei)
  (z1:Z tP (.call 278 [.ptr 0 0,nv 6 ⟨#[]⟩ (.lit (.slice none 0 0))] (PS s T ((i+1:Nat):Int) 0 12))=some (.ret (qa8 c) (PS s T i1 a c))):Z tP (.call 271 [.ptr 0 0,.int lv] (PS s T i 0 12))=some (.ret (qa8 c) (PS s T i1 a c)):=by
 have w1:=qaj ((lv:Int)+1) (by omega)
 have zp:=qap (s:=s) (a:=0) (c:=12) h hb
 have zt:=qaA (s:=s) (a:=0) (c:=12) h hb hT
 simp only[PS,pO,ptk,ptD,qah hb] at zp zt
 have y0:=qaC (s:=s) (a:=0) (c:=12) h hb (qad [ifT] true) (by simp) (by decide)
 have q0:qei≠ifT:=by decide
 simp only[hm,List.mem_singleton,q0,decide_false] at y0
 simp only[PS,pO,ifT,qaS,List.map_cons,List.map_nil,List.length_singleton] at y0
 have y1:=qaC (s:=s) (a:=0) (c:=12) h hb (qad [qaQ] true) (by simp) (by decide)
 have q1:qei≠qaQ:=by decide
 simp only[hm,List.mem_singleton,q1,decide_false] at y1
 simp only[PS,pO,qaQ,qaS,List.map_cons,List.map_nil,List.length_singleton] at y1
 have y2:=qaC (s:=s) (a:=0) (c:=12) h hb (qad [qaE] true) (by simp) (by decide)
 have q2:qei≠qaE:=by decide
 simp only[hm,List.mem_singleton,q2,decide_false] at y2
 simp only[PS,pO,qaE,qaS,List.map_cons,List.map_nil,List.length_singleton] at y2
 have y3:=qaC (s:=s) (a:=0) (c:=12) h hb (qad [qei] true) (by simp) (by decide)
 simp only[hm,List.mem_singleton,decide_true] at y3
 simp only[PS,pO,qei,qaS,List.map_cons,List.map_nil,List.length_singleton] at y3
 simp only[PS,pO,cE,nv,List.cons_append,List.nil_append] at z1
 try simp only[Int.natCast_add,Int.cast_ofNat_Int] at zt z1
 refine Z_call (pf:=F271) rfl rfl ?_
 simp[F271,zp,zt,w1,h1,h3,y0,y1,y2,y3,z1,qac,qat,qcy,qa2,qbg,qbz,qa3,still,V.same,List.range_succ]
theorem qls (hlv:lv<=20) (hT:T.length<2 ^ 40) (h:T.drop i=t::r) (hb:t.bad=0) (h1:decide (kindT t=1)=false) (h3:decide (kindT t=3)=false) (hm:t.s=qei)
  (z1:Z tP (.call 278 [.ptr 0 0,nv 6 ⟨#[]⟩ (.lit (.slice none 0 0))] (PS s T ((i+1:Nat):Int) 0 12))=some (.ret (nv 6 ⟨#[]⟩ (.lit (.slice none 0 0))) (PS s T i1 0 12))):Z tP (.call 271 [.ptr 0 0,.int lv] (PS s T i 0 12))=some (.ret (nv 6 ⟨#[]⟩ (.lit (.slice none 0 0))) (PS s T i1 0 12)):=by
 have w1:=qaj ((lv:Int)+1) (by omega)
 have zp:=qap (s:=s) (a:=0) (c:=12) h hb
 have zt:=qaA (s:=s) (a:=0) (c:=12) h hb hT
 simp only[PS,pO,ptk,ptD,qah hb] at zp zt
 have y0:=qaC (s:=s) (a:=0) (c:=12) h hb (qad [ifT] true) (by simp) (by decide)
 have q0:qei≠ifT:=by decide
 simp only[hm,List.mem_singleton,q0,decide_false] at y0
 simp only[PS,pO,ifT,qaS,List.map_cons,List.map_nil,List.length_singleton] at y0
 have y1:=qaC (s:=s) (a:=0) (c:=12) h hb (qad [qaQ] true) (by simp) (by decide)
 have q1:qei≠qaQ:=by decide
 simp only[hm,List.mem_singleton,q1,decide_false] at y1
 simp only[PS,pO,qaQ,qaS,List.map_cons,List.map_nil,List.length_singleton] at y1
 have y2:=qaC (s:=s) (a:=0) (c:=12) h hb (qad [qaE] true) (by simp) (by decide)
 have q2:qei≠qaE:=by decide
 simp only[hm,List.mem_singleton,q2,decide_false] at y2
 simp only[PS,pO,qaE,qaS,List.map_cons,List.map_nil,List.length_singleton] at y2
 have y3:=qaC (s:=s) (a:=0) (c:=12) h hb (qad [qei] true) (by simp) (by decide)
 simp only[hm,List.mem_singleton,decide_true] at y3
 simp only[PS,pO,qei,qaS,List.map_cons,List.map_nil,List.length_singleton] at y3
 simp only[PS,pO,cE,nv,List.cons_append,List.nil_append] at z1
 try simp only[Int.natCast_add,Int.cast_ofNat_Int] at zt z1
 refine Z_call (pf:=F271) rfl rfl ?_
 simp[F271,zp,zt,w1,h1,h3,y0,y1,y2,y3,z1,qac,qat,qcy,qa2,qbg,qbz,qa3,still,V.same,List.range_succ]
theorem qp2 (hlv:lv<=20) (hT:T.length<2 ^ 40) (h:T.drop i=t::r) (hb:t.bad=0) (h1:decide (kindT t=1)=false) (h3:decide (kindT t=3)=false) (n0:t.s≠ifT) (n1:t.s≠qaQ) (n2:t.s≠qaE) (n3:t.s≠qei):Z tP (.call 271 [.ptr 0 0,.int lv] (PS s T i 0 12))=some (.ret (qa8 12) (PS s T i t.at_ 12)):=by
 have w1:=qaj ((lv:Int)+1) (by omega)
 have zp:=qap (s:=s) (a:=0) (c:=12) h hb
 have zt:=qaA (s:=s) (a:=0) (c:=12) h hb hT
 simp only[PS,pO,ptk,ptD,qah hb] at zp zt
 have y0:=qaC (s:=s) (a:=0) (c:=12) h hb (qad [ifT] true) (by simp) (by decide)
 simp only[List.mem_singleton,n0,decide_false] at y0
 simp only[PS,pO,ifT,qaS,List.map_cons,List.map_nil,List.length_singleton] at y0
 have y1:=qaC (s:=s) (a:=0) (c:=12) h hb (qad [qaQ] true) (by simp) (by decide)
 simp only[List.mem_singleton,n1,decide_false] at y1
 simp only[PS,pO,qaQ,qaS,List.map_cons,List.map_nil,List.length_singleton] at y1
 have y2:=qaC (s:=s) (a:=0) (c:=12) h hb (qad [qaE] true) (by simp) (by decide)
 simp only[List.mem_singleton,n2,decide_false] at y2
 simp only[PS,pO,qaE,qaS,List.map_cons,List.map_nil,List.length_singleton] at y2
 have y3:=qaC (s:=s) (a:=0) (c:=12) h hb (qad [qei] true) (by simp) (by decide)
 simp only[List.mem_singleton,n3,decide_false] at y3
 simp only[PS,pO,qei,qaS,List.map_cons,List.map_nil,List.length_singleton] at y3
 have zf:=qfb (s:=s) (T:=T) (i:=i) (a:=0) (c:=12) (k:=kindT t) (x:=t.s) (at_:=t.at_) (v:=valT t) (e:=t.bad) (c':=12)
 simp only[PS,pO,ptD] at zf
 refine Z_call (pf:=F271) rfl rfl ?_
 simp[F271,zp,zt,w1,h1,h3,y0,y1,y2,y3,zf,qac,List.range_succ]
theorem qrW (h:T.drop i=t::r) (hb:t.bad≠0):Z tP (.call 271 [.ptr 0 0,.int lv] (PS s T i 0 12))=some (.ret (qa8 t.bad) (PS s T i t.at_ t.bad)):=by
 have zp:=qdF (s:=s) (a:=0) (c:=12) h hb
 simp only[PS,pO] at zp
 refine Z_call (pf:=F271) rfl rfl ?_
 simp[F271,zp,qac,List.range_succ]
end
end Go.Pm
end SKu
section SKv
namespace Go.Pm
open F
set_option maxHeartbeats 4000000
attribute [local simp] qa4 qbv dkey
def qgp:ByteArray:=⟨#[101,108,115,101]⟩
abbrev cB (d:D):List D:=[.lit (.int .i64 7),.lit (.int .i64 0),.lit (.string ⟨#[]⟩),d]
section
variable {s:ByteArray} {T:List Tk} {lv i i1 i2 i3 i4:Nat} {e:E} {a c:Int} {t:Tk} {r:List Tk} {d d':D}
theorem qqJ (hlv:lv<=20)
  (z1:Z tP (.call 253 [.ptr 0 0,.str ifT] (PS s T i 0 12))=some (.ret (.tup []) (PS s T i1 0 12)))
  (z2:Z tP (.call 279 [.ptr 0 0,.int lv] (PS s T i1 0 12))=some (.ret (qa8 c) (PS s T i2 a c))):Z tP (.call 281 [.ptr 0 0,.int lv] (PS s T i 0 12))=some (.ret (qa8 c) (PS s T i2 a c)):=by
 have w1:=qaj ((lv:Int)+1) (by omega)
 simp only[PS,pO,nv,ifT] at z1 z2
 try simp only[Int.natCast_add,Int.cast_ofNat_Int] at z1 z2
 refine Z_call (pf:=F281) rfl rfl ?_
 simp[F281,w1,z1,z2,qac,List.range_succ]
theorem qqK (hlv:lv<=20)
  (z1:Z tP (.call 253 [.ptr 0 0,.str ifT] (PS s T i 0 12))=some (.ret (.tup []) (PS s T i1 0 12)))
  (z2:Z tP (.call 279 [.ptr 0 0,.int lv] (PS s T i1 0 12))=some (.ret e.node (PS s T i2 0 12)))
  (z3:Z tP (.call 256 [.ptr 0 0,.int ((lv+1:Nat):Int)] (PS s T i2 0 12))=some (.ret (qa8 c) (PS s T i3 a c))):Z tP (.call 281 [.ptr 0 0,.int lv] (PS s T i 0 12))=some (.ret (qa8 c) (PS s T i3 a c)):=by
 have w1:=qaj ((lv:Int)+1) (by omega)
 simp only[PS,pO,nv,ifT] at z1 z2 z3
 try simp only[Int.natCast_add,Int.cast_ofNat_Int] at z1 z2 z3
 refine Z_call (pf:=F281) rfl rfl ?_
 simp[F281,w1,z1,z2,z3,qac,List.range_succ]
theorem qsm (hlv:lv<=20) (od:V.one (.dat d)=true) (oc:V.cells (.dat d)=[.dat d])
  (z1:Z tP (.call 253 [.ptr 0 0,.str ifT] (PS s T i 0 12))=some (.ret (.tup []) (PS s T i1 0 12)))
  (z2:Z tP (.call 279 [.ptr 0 0,.int lv] (PS s T i1 0 12))=some (.ret e.node (PS s T i2 0 12)))
  (z3:Z tP (.call 256 [.ptr 0 0,.int ((lv+1:Nat):Int)] (PS s T i2 0 12))=some (.ret (nv 7 ⟨#[]⟩ d) (PS s T i3 0 12))) (h:T.drop i3=t::r) (hb:t.bad≠0):Z tP (.call 281 [.ptr 0 0,.int lv] (PS s T i 0 12))=some (.ret (qa8 t.bad) (PS s T i3 t.at_ t.bad)):=by
 have w1:=qaj ((lv:Int)+1) (by omega)
 simp only[PS,pO,nv,ifT] at z1 z2 z3
 try simp only[Int.natCast_add,Int.cast_ofNat_Int] at z1 z2 z3
 have y:=qeC (s:=s) (a:=0) (c:=12) h hb (qad [qgp] true)
 simp only[PS,pO,qgp,qaS,List.map_cons,List.map_nil,List.length_singleton] at y
 refine Z_call (pf:=F281) rfl rfl ?_
 simp[F281,w1,z1,z2,z3,y,od,oc,qac,List.range_succ]
theorem qsn (hlv:lv<=20) (od:V.one (.dat d)=true) (oc:V.cells (.dat d)=[.dat d])
  (z1:Z tP (.call 253 [.ptr 0 0,.str ifT] (PS s T i 0 12))=some (.ret (.tup []) (PS s T i1 0 12)))
  (z2:Z tP (.call 279 [.ptr 0 0,.int lv] (PS s T i1 0 12))=some (.ret e.node (PS s T i2 0 12)))
  (z3:Z tP (.call 256 [.ptr 0 0,.int ((lv+1:Nat):Int)] (PS s T i2 0 12))=some (.ret (nv 7 ⟨#[]⟩ d) (PS s T i3 0 12))) (h:T.drop i3=t::r) (hb:t.bad=0) (hm:t.s≠qgp):Z tP (.call 281 [.ptr 0 0,.int lv] (PS s T i 0 12))=some (.ret (nv 3 ⟨#[]⟩ (.sl (cE e++cB d++cB (.lit (.slice none 0 0))) 3 true)) (PS s T i3 0 12)):=by
 have w1:=qaj ((lv:Int)+1) (by omega)
 simp only[PS,pO,nv,ifT] at z1 z2 z3
 try simp only[Int.natCast_add,Int.cast_ofNat_Int] at z1 z2 z3
 have y:=qaC (s:=s) (a:=0) (c:=12) h hb (qad [qgp] true) (by simp) (by decide)
 simp only[List.mem_singleton,hm,decide_false] at y
 simp only[PS,pO,qgp,qaS,List.map_cons,List.map_nil,List.length_singleton] at y
 refine Z_call (pf:=F281) rfl rfl ?_
 simp[F281,w1,z1,z2,z3,y,od,oc,qac,List.range_succ]
theorem qqL (hlv:lv<=20) (od:V.one (.dat d)=true) (oc:V.cells (.dat d)=[.dat d])
  (z1:Z tP (.call 253 [.ptr 0 0,.str ifT] (PS s T i 0 12))=some (.ret (.tup []) (PS s T i1 0 12)))
  (z2:Z tP (.call 279 [.ptr 0 0,.int lv] (PS s T i1 0 12))=some (.ret e.node (PS s T i2 0 12)))
  (z3:Z tP (.call 256 [.ptr 0 0,.int ((lv+1:Nat):Int)] (PS s T i2 0 12))=some (.ret (nv 7 ⟨#[]⟩ d) (PS s T i3 0 12))) (hT:T.length<2 ^ 40) (h:T.drop i3=t::r) (hb:t.bad=0) (hm:t.s=qgp)
  (z4:Z tP (.call 256 [.ptr 0 0,.int ((lv+1:Nat):Int)] (PS s T ((i3+1:Nat):Int) 0 12))=some (.ret (qa8 c) (PS s T i4 a c))):Z tP (.call 281 [.ptr 0 0,.int lv] (PS s T i 0 12))=some (.ret (qa8 c) (PS s T i4 a c)):=by
 have w1:=qaj ((lv:Int)+1) (by omega)
 simp only[PS,pO,nv,ifT] at z1 z2 z3
 try simp only[Int.natCast_add,Int.cast_ofNat_Int] at z1 z2 z3
 have y:=qaC (s:=s) (a:=0) (c:=12) h hb (qad [qgp] true) (by simp) (by decide)
 simp only[List.mem_singleton,hm,decide_true] at y
 simp only[PS,pO,qgp,qaS,List.map_cons,List.map_nil,List.length_singleton] at y
 have zt:=qaA (s:=s) (a:=0) (c:=12) h hb hT
 simp only[PS,pO,ptk,ptD] at zt
 simp only[PS,pO,nv] at z4
 simp only[Int.natCast_add,Int.cast_ofNat_Int] at zt z4
 refine Z_call (pf:=F281) rfl rfl ?_
 simp[F281,w1,z1,z2,z3,y,zt,z4,od,oc,qac,List.range_succ]
theorem qso (hlv:lv<=20) (od:V.one (.dat d)=true) (oc:V.cells (.dat d)=[.dat d])
  (z1:Z tP (.call 253 [.ptr 0 0,.str ifT] (PS s T i 0 12))=some (.ret (.tup []) (PS s T i1 0 12)))
  (z2:Z tP (.call 279 [.ptr 0 0,.int lv] (PS s T i1 0 12))=some (.ret e.node (PS s T i2 0 12)))
  (z3:Z tP (.call 256 [.ptr 0 0,.int ((lv+1:Nat):Int)] (PS s T i2 0 12))=some (.ret (nv 7 ⟨#[]⟩ d) (PS s T i3 0 12))) (od':V.one (.dat d')=true) (oc':V.cells (.dat d')=[.dat d']) (hT:T.length<2 ^ 40) (h:T.drop i3=t::r) (hb:t.bad=0) (hm:t.s=qgp)
  (z4:Z tP (.call 256 [.ptr 0 0,.int ((lv+1:Nat):Int)] (PS s T ((i3+1:Nat):Int) 0 12))=some (.ret (nv 7 ⟨#[]⟩ d') (PS s T i4 0 12))):Z tP (.call 281 [.ptr 0 0,.int lv] (PS s T i 0 12))=some (.ret (nv 3 ⟨#[]⟩ (.sl (cE e++cB d++cB d') 3 true)) (PS s T i4 0 12)):=by
 have w1:=qaj ((lv:Int)+1) (by omega)
 simp only[PS,pO,nv,ifT] at z1 z2 z3
 try simp only[Int.natCast_add,Int.cast_ofNat_Int] at z1 z2 z3
 have y:=qaC (s:=s) (a:=0) (c:=12) h hb (qad [qgp] true) (by simp) (by decide)
 simp only[List.mem_singleton,hm,decide_true] at y
 simp only[PS,pO,qgp,qaS,List.map_cons,List.map_nil,List.length_singleton] at y
 have zt:=qaA (s:=s) (a:=0) (c:=12) h hb hT
 simp only[PS,pO,ptk,ptD] at zt
 simp only[PS,pO,nv] at z4
 simp only[Int.natCast_add,Int.cast_ofNat_Int] at zt z4
 refine Z_call (pf:=F281) rfl rfl ?_
 simp[F281,w1,z1,z2,z3,y,zt,z4,od',oc',od,oc,qac,List.range_succ]
end
end Go.Pm
end SKv
section SKw
namespace Go.Pm
open F
set_option maxHeartbeats 4000000
attribute [local simp] qa4 qbv dkey
def qnB (v:V) (σt:S) (cs:List D) (n:Nat):Prop:=(n=0/\cs=[]/\v = .dat (.lit (.slice none 0 0)) /\ σt=[])\/(n≠0/\cs.length=n*4/\v = .gsl cs n 4 5 /\ σt=[.tip cs.length])
abbrev bzF (lv:Nat):Fr:=[(0,.ptr 0 0),(1,.int lv),(4,.ptr 3 0),(5,.ptr 4 0)]
abbrev bzS (s:ByteArray) (T:List Tk) (i a c:Int) (v:V) (σt:S):S:=PS s T i a c++(nd0 :: .cells [.int 7,.int 0,.str ⟨#[]⟩,v] :: σt)
def qkt:ByteArray:=⟨#[125]⟩
section
variable {s:ByteArray} {T:List Tk} {lv i i' i1 i2:Nat} {a c:Int} {t:Tk} {r:List Tk} {d:D} {v:V} {σt:S} {cs:List D} {n:Nat}
theorem qqZ (h:T.drop i=t::r) (hb:t.bad=0) (hm:t.s=qkt) (hr:qnB v σt cs n):Z tP (.loop 3 F256l0 (bzF lv) (bzS s T i 0 12 v σt))=some (.out (.exit 0) (bzF lv++[(13,.bool false)]) (bzS s T i 0 12 v σt)):=by
 have y:=qaC (s:=s) (a:=0) (c:=12) h hb (qad [qkt] true) (by simp) (by decide)
 simp only[List.mem_singleton,hm,decide_true] at y
 simp only[PS,pO,qkt,qaS,List.map_cons,List.map_nil,List.length_singleton] at y
 rw[qaf]
 rcases hr with ⟨rfl,rfl,rfl,rfl⟩ | ⟨h0,h1,rfl,rfl⟩<;>simp[qai,qc5,y,List.range_succ]
theorem qq0 (h:T.drop i=t::r) (hb:t.bad≠0) (hr:qnB v σt cs n) : ∃ fr,fr.get 1000000=none/\Z tP (.loop 3 F256l0 (bzF lv) (bzS s T i 0 12 v σt))=some (.out (.pan (.iface 1 (.int t.bad))) fr (bzS s T i t.at_ t.bad v σt)):=by
 have y:=qeC (s:=s) (a:=0) (c:=12) h hb (qad [qkt] true)
 simp only[PS,pO,qkt,qaS,List.map_cons,List.map_nil,List.length_singleton] at y
 refine⟨(11,.dat (.sl [.lit (.string ⟨#[125]⟩)] 1 true))::(10,.ptr 0 0)::bzF lv,by simp[Fr.get],?_⟩
 rw[qaf]
 rcases hr with ⟨rfl,rfl,rfl,rfl⟩ | ⟨h0,h1,rfl,rfl⟩<;>simp[qai,qc5,y,qac,List.range_succ]
theorem qnC (h:T.drop i=t::r) (hb:t.bad=0) (hm:t.s≠qkt) (hr:qnB v σt cs n) (hn:n<=2 ^ 40) {k:Int} {x:ByteArray} (od:V.one (.dat d)=true) (oc:V.cells (.dat d)=[.dat d])
  (z:Z tP (.call 271 [.ptr 0 0,.int lv] (PS s T i 0 12))=some (.ret (nv k x d) (PS s T i' 0 12))) :
  ∃ v' σt',qnB v' σt' (cs++[.lit (.int .i64 k),.lit (.int .i64 0),.lit (.string x),d]) (n+1)/\Z tP (.loop 3 F256l0 (bzF lv) (bzS s T i 0 12 v σt))=Z tP (.loop 3 F256l0 (bzF lv) (bzS s T i' 0 12 v' σt')):=by
 have y:=qaC (s:=s) (a:=0) (c:=12) h hb (qad [qkt] true) (by simp) (by decide)
 have hroom:qbo (n+1) 56=true:=by simp only[qbo,decide_eq_true_eq]; omega
 simp only[List.mem_singleton,hm,decide_false] at y
 simp only[PS,pO,qkt,qaS,List.map_cons,List.map_nil,List.length_singleton] at y
 simp only[PS,pO,nv] at z
 refine⟨.gsl (cs++[.lit (.int .i64 k),.lit (.int .i64 0),.lit (.string x),d]) (n+1) 4 5,[.tip (cs++[.lit (.int .i64 k),.lit (.int .i64 0),.lit (.string x),d]).length],.inr ⟨by omega,?_,rfl,rfl⟩,?_⟩
 ·rcases hr with ⟨rfl,rfl,_,_⟩ | ⟨_,h1,_,_⟩
  ·simp
  ·simp[h1]; omega
 ·conv=>lhs; rw[qaf]
  rcases hr with ⟨rfl,rfl,rfl,rfl⟩ | ⟨h0,h1,rfl,rfl⟩
  ·have hr1:qbo 1 56=true:=by decide
   simp[qai,qc5,y,z,od,oc,hr1,qdH,qoC,qcy,qa2,qbg,qbz,qa3,still,V.same,List.range_succ]
   try exact qdu (by simp[List.range_succ])
  ·simp[qai,qc5,y,z,od,oc,hroom,h0,h1,qdH,qoC,qcy,qa2,qbg,qbz,qa3,still,V.same,List.range_succ]
   try exact qdu (by simp[List.range_succ])
theorem qq1 (h:T.drop i=t::r) (hb:t.bad=0) (hm:t.s≠qkt) (hr:qnB v σt cs n)
  (z:Z tP (.call 271 [.ptr 0 0,.int lv] (PS s T i 0 12))=some (.ret (qa8 c) (PS s T i' a c))) :
  Z tP (.loop 3 F256l0 (bzF lv) (bzS s T i 0 12 v σt))=some (.out (.pan (.iface 1 (.int c))) [] (bzS s T i' a c v σt)):=by
 have y:=qaC (s:=s) (a:=0) (c:=12) h hb (qad [qkt] true) (by simp) (by decide)
 simp only[List.mem_singleton,hm,decide_false] at y
 simp only[PS,pO,qkt,qaS,List.map_cons,List.map_nil,List.length_singleton] at y
 simp only[PS,pO] at z
 rw[qaf]
 rcases hr with ⟨rfl,rfl,rfl,rfl⟩ | ⟨h0,h1,rfl,rfl⟩<;>simp[qai,qc5,y,z,qac,qat,qcy,qa2,qbg,qbz,qa3,still,V.same,List.range_succ]
theorem qpj (zo:Z tP (.call 270 [.ptr 0 0,.str ⟨#[123]⟩,.int lv] (PS s T i 0 12))=some (.ret (qa8 c) (PS s T i1 a c))):Z tP (.call 256 [.ptr 0 0,.int lv] (PS s T i 0 12))=some (.ret (qa8 c) (PS s T i1 a c)):=by
 simp only[PS,pO] at zo
 refine Z_call (pf:=F256) rfl rfl ?_
 simp[F256,zo,qac,List.range_succ]
theorem qq2 (zo:Z tP (.call 270 [.ptr 0 0,.str ⟨#[123]⟩,.int lv] (PS s T i 0 12))=some (.ret (.tup []) (PS s T i1 0 12))) {fr:Fr} (hf:fr.get 1000000=none)
  (zl:Z tP (.loop 3 F256l0 (bzF lv) (bzS s T i1 0 12 (.dat (.lit (.slice none 0 0))) []))=some (.out (.pan (.iface 1 (.int c))) fr (bzS s T i2 a c v σt))):Z tP (.call 256 [.ptr 0 0,.int lv] (PS s T i 0 12))=some (.ret (qa8 c) (PS s T i2 a c)):=by
 simp only[PS,pO,bzS,List.cons_append,List.nil_append] at zo zl
 refine Z_call (pf:=F256) rfl rfl ?_
 simp[F256,zo,zl,hf,qac,List.range_succ]
theorem qsx (hT:T.length<2 ^ 40) (zo:Z tP (.call 270 [.ptr 0 0,.str ⟨#[123]⟩,.int lv] (PS s T i 0 12))=some (.ret (.tup []) (PS s T i1 0 12))) (hr:qnB v σt cs n)
  (zl:Z tP (.loop 3 F256l0 (bzF lv) (bzS s T i1 0 12 (.dat (.lit (.slice none 0 0))) []))=some (.out (.exit 0) (bzF lv++[(13,.bool false)]) (bzS s T i2 0 12 v σt)))
  (h:T.drop i2=t::r) (hb:t.bad=0) (hm:t.s=qkt):Z tP (.call 256 [.ptr 0 0,.int lv] (PS s T i 0 12))=some (.ret (nv 7 ⟨#[]⟩ (kd false n cs)) (PS s T ((i2+1:Nat):Int) 0 12)):=by
 have zx:=qfi (s:=s) (a:=0) (c:=12) h hb hT (by rw[hm]; decide)
 rw[hm] at zx
 simp only[PS,pO,qkt,Int.natCast_add,Int.cast_ofNat_Int] at zx
 simp only[PS,pO,bzS,List.cons_append,List.nil_append] at zo zl
 refine Z_call (pf:=F256) rfl rfl ?_
 rcases hr with ⟨rfl,rfl,rfl,rfl⟩ | ⟨h0,h1,rfl,rfl⟩
 ·simp[F256,zo,zl,zx,List.range_succ]
 ·obtain⟨m,rfl⟩ : ∃ m,n=m+1:=⟨n-1,by omega⟩
  simp[F256,zo,zl,zx,List.range_succ]
end
end Go.Pm
end SKw
