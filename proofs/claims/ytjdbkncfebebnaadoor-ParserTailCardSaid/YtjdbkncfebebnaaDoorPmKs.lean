/- Chapter 13's parser: brackets in expressions: the walks. Printed by ks.py. Chapter 13's parser: every expression is the plain one. Chapter 13's parser: a statement: the walks. Printed by ku.py. Chapter 13's parser: an if: the walks. Printed by kv.py. Chapter 13's parser: a block: the walks. -/
import Derived.Test.YtjdbkncfebebnaaDoorPmDev
set_option linter.unusedSimpArgs false
set_option linter.unusedVariables false
section SKs
namespace Go.Pm
open F
set_option maxHeartbeats 4000000
attribute [local simp] qbb qbP dkey
section
variable {s:ByteArray} {T:List Tk} {lv i i' i2 i3:Nat} {e:E} {a c:Int} {t:Tk} {r:List Tk}
theorem qqi (hlv:lv<=20) (h:T.drop i=t::r) (hb:t.bad=0) (h4:decide (kindT t=4)=false) (h1:decide (kindT t=1)=false) (h3:decide (kindT t=3)=false) (n1:t.s≠qdr) (n2:t.s≠qcl) (n3:t.s∉qdB)
  (zo:Z tP (.call 270 [.ptr 0 0,.str ⟨#[40]⟩,.int ((lv+1:Nat):Int)] (PS s T i 0 12))=some (.ret (qbj c) (PS s T i' a c))):Z tP (.call 309 [.ptr 0 0,.int lv] (PS s T i 0 12))=some (.ret (qbj c) (PS s T i' a c)):=by
 have w1:=qal ((lv:Int)+1) (by omega)
 have zp:=qav (s:=s) (a:=0) (c:=12) h hb
 have z1:=qaK (s:=s) (a:=0) (c:=12) h hb (qai [qdr] true) (by simp) (by decide)
 have z2:=qaK (s:=s) (a:=0) (c:=12) h hb (qai [qcl] true) (by simp) (by decide)
 have z3:=qaK (s:=s) (a:=0) (c:=12) h hb (qai qdB true) (by decide) (by decide)
 simp only[List.mem_singleton,n1,n2,n3,decide_false] at z1 z2 z3
 simp only[PS,pO,ptk,ptD,qao hb] at zp
 simp only[PS,pO,qdr,qcl,qdB,qaZ,List.map_cons,List.map_nil,List.length_cons,List.length_nil] at z1 z2 z3
 simp only[PS,pO] at zo
 simp only[Int.natCast_add,Int.cast_ofNat_Int] at zo
 refine qaa (pf:=F309) rfl rfl ?_
 simp[F309,zp,z1,z2,z3,h4,h1,h3,w1,zo,qaf,List.range_succ]
theorem qqj (hlv:lv<=20) (h:T.drop i=t::r) (hb:t.bad=0) (h4:decide (kindT t=4)=false) (h1:decide (kindT t=1)=false) (h3:decide (kindT t=3)=false) (n1:t.s≠qdr) (n2:t.s≠qcl) (n3:t.s∉qdB)
  (zo:Z tP (.call 270 [.ptr 0 0,.str ⟨#[40]⟩,.int ((lv+1:Nat):Int)] (PS s T i 0 12))=some (.ret (.tup []) (PS s T i' 0 12)))
  (ze:Z tP (.call 279 [.ptr 0 0,.int ((lv+1:Nat):Int)] (PS s T i' 0 12))=some (.ret (qbj c) (PS s T i2 a c))):Z tP (.call 309 [.ptr 0 0,.int lv] (PS s T i 0 12))=some (.ret (qbj c) (PS s T i2 a c)):=by
 have w1:=qal ((lv:Int)+1) (by omega)
 have zp:=qav (s:=s) (a:=0) (c:=12) h hb
 have z1:=qaK (s:=s) (a:=0) (c:=12) h hb (qai [qdr] true) (by simp) (by decide)
 have z2:=qaK (s:=s) (a:=0) (c:=12) h hb (qai [qcl] true) (by simp) (by decide)
 have z3:=qaK (s:=s) (a:=0) (c:=12) h hb (qai qdB true) (by decide) (by decide)
 simp only[List.mem_singleton,n1,n2,n3,decide_false] at z1 z2 z3
 simp only[PS,pO,ptk,ptD,qao hb] at zp
 simp only[PS,pO,qdr,qcl,qdB,qaZ,List.map_cons,List.map_nil,List.length_cons,List.length_nil] at z1 z2 z3
 simp only[PS,pO] at zo ze
 simp only[Int.natCast_add,Int.cast_ofNat_Int] at zo ze
 refine qaa (pf:=F309) rfl rfl ?_
 simp[F309,zp,z1,z2,z3,h4,h1,h3,w1,zo,ze,qaf,List.range_succ]
theorem qqk (hlv:lv<=20) (h:T.drop i=t::r) (hb:t.bad=0) (h4:decide (kindT t=4)=false) (h1:decide (kindT t=1)=false) (h3:decide (kindT t=3)=false) (n1:t.s≠qdr) (n2:t.s≠qcl) (n3:t.s∉qdB)
  (zo:Z tP (.call 270 [.ptr 0 0,.str ⟨#[40]⟩,.int ((lv+1:Nat):Int)] (PS s T i 0 12))=some (.ret (.tup []) (PS s T i' 0 12)))
  (ze:Z tP (.call 279 [.ptr 0 0,.int ((lv+1:Nat):Int)] (PS s T i' 0 12))=some (.ret e.node (PS s T i2 0 12)))
  (zc:Z tP (.call 253 [.ptr 0 0,.str ⟨#[41]⟩] (PS s T i2 0 12))=some (.ret (qbj c) (PS s T i3 a c))):Z tP (.call 309 [.ptr 0 0,.int lv] (PS s T i 0 12))=some (.ret (qbj c) (PS s T i3 a c)):=by
 have w1:=qal ((lv:Int)+1) (by omega)
 have zp:=qav (s:=s) (a:=0) (c:=12) h hb
 have z1:=qaK (s:=s) (a:=0) (c:=12) h hb (qai [qdr] true) (by simp) (by decide)
 have z2:=qaK (s:=s) (a:=0) (c:=12) h hb (qai [qcl] true) (by simp) (by decide)
 have z3:=qaK (s:=s) (a:=0) (c:=12) h hb (qai qdB true) (by decide) (by decide)
 simp only[List.mem_singleton,n1,n2,n3,decide_false] at z1 z2 z3
 simp only[PS,pO,ptk,ptD,qao hb] at zp
 simp only[PS,pO,qdr,qcl,qdB,qaZ,List.map_cons,List.map_nil,List.length_cons,List.length_nil] at z1 z2 z3
 simp only[PS,pO] at zo ze zc
 simp only[Int.natCast_add,Int.cast_ofNat_Int] at zo ze
 refine qaa (pf:=F309) rfl rfl ?_
 simp[F309,zp,z1,z2,z3,h4,h1,h3,w1,zo,ze,zc,qaf,List.range_succ]
theorem qtE (hlv:lv<=20) (h:T.drop i=t::r) (hb:t.bad=0) (h4:decide (kindT t=4)=false) (h1:decide (kindT t=1)=false) (h3:decide (kindT t=3)=false) (n1:t.s≠qdr) (n2:t.s≠qcl) (n3:t.s∉qdB)
  (zo:Z tP (.call 270 [.ptr 0 0,.str ⟨#[40]⟩,.int ((lv+1:Nat):Int)] (PS s T i 0 12))=some (.ret (.tup []) (PS s T i' 0 12)))
  (ze:Z tP (.call 279 [.ptr 0 0,.int ((lv+1:Nat):Int)] (PS s T i' 0 12))=some (.ret e.node (PS s T i2 0 12)))
  (zc:Z tP (.call 253 [.ptr 0 0,.str ⟨#[41]⟩] (PS s T i2 0 12))=some (.ret (.tup []) (PS s T i3 0 12))):Z tP (.call 309 [.ptr 0 0,.int lv] (PS s T i 0 12))=some (.ret e.node (PS s T i3 0 12)):=by
 have w1:=qal ((lv:Int)+1) (by omega)
 have zp:=qav (s:=s) (a:=0) (c:=12) h hb
 have z1:=qaK (s:=s) (a:=0) (c:=12) h hb (qai [qdr] true) (by simp) (by decide)
 have z2:=qaK (s:=s) (a:=0) (c:=12) h hb (qai [qcl] true) (by simp) (by decide)
 have z3:=qaK (s:=s) (a:=0) (c:=12) h hb (qai qdB true) (by decide) (by decide)
 simp only[List.mem_singleton,n1,n2,n3,decide_false] at z1 z2 z3
 simp only[PS,pO,ptk,ptD,qao hb] at zp
 simp only[PS,pO,qdr,qcl,qdB,qaZ,List.map_cons,List.map_nil,List.length_cons,List.length_nil] at z1 z2 z3
 simp only[PS,pO] at zo ze zc
 simp only[Int.natCast_add,Int.cast_ofNat_Int] at zo ze
 refine qaa (pf:=F309) rfl rfl ?_
 simp[F309,zp,z1,z2,z3,h4,h1,h3,w1,zo,ze,zc,qaf,List.range_succ]
theorem qql (hlv:lv<=20) (hT:T.length<2 ^ 40) (h:T.drop i=t::r) (hb:t.bad=0)
  (zo:Z tP (.call 270 [.ptr 0 0,.str ⟨#[91]⟩,.int ((lv+1:Nat):Int)] (PS s T ((i+1:Nat):Int) 0 12))=some (.ret (qbj c) (PS s T i' a c))):Z tP (.call 280 [.ptr 0 0,.int lv] (PS s T i 0 12))=some (.ret (qbj c) (PS s T i' a c)):=by
 have w1:=qal ((lv:Int)+1) (by omega)
 have zt:=qaI (s:=s) (a:=0) (c:=12) h hb hT
 simp only[PS,pO,ptk,ptD] at zt
 simp only[Int.natCast_add,Int.cast_ofNat_Int] at zt
 simp only[PS,pO] at zo
 simp only[Int.natCast_add,Int.cast_ofNat_Int] at zo
 refine qaa (pf:=F280) rfl rfl ?_
 simp[F280,zt,w1,zo,qaf,List.range_succ]
theorem qqm (hlv:lv<=20) (hT:T.length<2 ^ 40) (h:T.drop i=t::r) (hb:t.bad=0)
  (zo:Z tP (.call 270 [.ptr 0 0,.str ⟨#[91]⟩,.int ((lv+1:Nat):Int)] (PS s T ((i+1:Nat):Int) 0 12))=some (.ret (.tup []) (PS s T i' 0 12)))
  (ze:Z tP (.call 279 [.ptr 0 0,.int ((lv+1:Nat):Int)] (PS s T i' 0 12))=some (.ret (qbj c) (PS s T i2 a c))):Z tP (.call 280 [.ptr 0 0,.int lv] (PS s T i 0 12))=some (.ret (qbj c) (PS s T i2 a c)):=by
 have w1:=qal ((lv:Int)+1) (by omega)
 have zt:=qaI (s:=s) (a:=0) (c:=12) h hb hT
 simp only[PS,pO,ptk,ptD] at zt
 simp only[Int.natCast_add,Int.cast_ofNat_Int] at zt
 simp only[PS,pO] at zo ze
 simp only[Int.natCast_add,Int.cast_ofNat_Int] at zo ze
 refine qaa (pf:=F280) rfl rfl ?_
 simp[F280,zt,w1,zo,ze,qaf,List.range_succ]
theorem qqn (hlv:lv<=20) (hT:T.length<2 ^ 40) (h:T.drop i=t::r) (hb:t.bad=0)
  (zo:Z tP (.call 270 [.ptr 0 0,.str ⟨#[91]⟩,.int ((lv+1:Nat):Int)] (PS s T ((i+1:Nat):Int) 0 12))=some (.ret (.tup []) (PS s T i' 0 12)))
  (ze:Z tP (.call 279 [.ptr 0 0,.int ((lv+1:Nat):Int)] (PS s T i' 0 12))=some (.ret e.node (PS s T i2 0 12)))
  (zc:Z tP (.call 253 [.ptr 0 0,.str ⟨#[93]⟩] (PS s T i2 0 12))=some (.ret (qbj c) (PS s T i3 a c))):Z tP (.call 280 [.ptr 0 0,.int lv] (PS s T i 0 12))=some (.ret (qbj c) (PS s T i3 a c)):=by
 have w1:=qal ((lv:Int)+1) (by omega)
 have zt:=qaI (s:=s) (a:=0) (c:=12) h hb hT
 simp only[PS,pO,ptk,ptD] at zt
 simp only[Int.natCast_add,Int.cast_ofNat_Int] at zt
 simp only[PS,pO] at zo ze zc
 simp only[Int.natCast_add,Int.cast_ofNat_Int] at zo ze
 refine qaa (pf:=F280) rfl rfl ?_
 simp[F280,zt,w1,zo,ze,zc,qaf,List.range_succ]
theorem qtF (hlv:lv<=20) (hT:T.length<2 ^ 40) (h:T.drop i=t::r) (hb:t.bad=0)
  (zo:Z tP (.call 270 [.ptr 0 0,.str ⟨#[91]⟩,.int ((lv+1:Nat):Int)] (PS s T ((i+1:Nat):Int) 0 12))=some (.ret (.tup []) (PS s T i' 0 12)))
  (ze:Z tP (.call 279 [.ptr 0 0,.int ((lv+1:Nat):Int)] (PS s T i' 0 12))=some (.ret e.node (PS s T i2 0 12)))
  (zc:Z tP (.call 253 [.ptr 0 0,.str ⟨#[93]⟩] (PS s T i2 0 12))=some (.ret (.tup []) (PS s T i3 0 12))):Z tP (.call 280 [.ptr 0 0,.int lv] (PS s T i 0 12))=some (.ret e.node (PS s T i3 0 12)):=by
 have w1:=qal ((lv:Int)+1) (by omega)
 have zt:=qaI (s:=s) (a:=0) (c:=12) h hb hT
 simp only[PS,pO,ptk,ptD] at zt
 simp only[Int.natCast_add,Int.cast_ofNat_Int] at zt
 simp only[PS,pO] at zo ze zc
 simp only[Int.natCast_add,Int.cast_ofNat_Int] at zo ze
 refine qaa (pf:=F280) rfl rfl ?_
 simp[F280,zt,w1,zo,ze,zc,qaf,List.range_succ]
end
end Go.Pm
end SKs
section SKt
namespace Go.Pm
open F
set_option maxHeartbeats 2000000
def qgP (w:ByteArray):Int:=if w=⟨#[]⟩ then 0 else if qaH qbi w then (if w∈fieldNames then 3 else if w∈wordNames then 2 else 1) else if qaH qaA w then 4 else 5
theorem qb3 {t:Tk} (hb:t.bad=0):kindT t=qgP t.s:=by unfold kindT qgP; rw[if_neg (by simp[hb])]
theorem qmz (w:ByteArray):qaH qaA w=true->w≠⟨#[]⟩/\qaH qbi w=false:=by
 rw[qbu,qbu]
 intro h
 refine⟨?_,?_⟩
 ·rintro rfl
  exact absurd h (by decide)
 ·cases hh:(byl w).head? with
  | none=>rfl
  | some c=>
   rw[hh] at h
   simp only at h ⊢
   by_cases hl:qbi c=true
   ·rw[qmt hl] at h; cases h
   ·simpa using hl
theorem qfl {w:ByteArray} (h:qaH qbi w=true):w≠⟨#[]⟩:=by
 rintro rfl
 exact absurd h (by decide)
section
variable (s:ByteArray) (T:List Tk)
def IdK (n:Nat):Prop := ∀ (lv i:Nat) (t:Tk) (r:List Tk) (x:Rz E),lv<=20->T.drop i=t::r->t.bad=0->t.s≠⟨#[]⟩->qbe 12 2 true n lv r=some x->Out s T (Z tP (.call 280 [.ptr 0 0,.int lv] (PS s T i 0 12))) x E.node
variable {s:ByteArray} {T:List Tk}
theorem qpX (hw:WfQ T) (hT:T.length<2 ^ 40) {n:Nat} (ihe:ExK s T n):IdK s T (n+1):=by
 intro lv i t r x hlv h hb hs hx
 obtain⟨n1,n2⟩:=hw.next h hb hs
 obtain⟨t1,r1,rfl⟩:=qaY n2
 rw[qbe] at hx
 have ho:=qgm (s:=s) hw hT n1 (x:=bs [91]) (by decide) (lv:=lv+1)
 cases hq:qcr 12 2 (bs [91]) (lv+1) (t1::r1) with
 | er a c=>
  rw[hq] at hx ho
  simp only[Option.some.injEq] at hx
  subst hx
  obtain⟨i',z⟩:=ho
  exact⟨i',qql hlv hT h hb z⟩
 | ok u r2=>
  have hl1:=qiz hq
  rw[hq] at hx ho
  simp only at hx
  obtain⟨i',a1,a2,z⟩:=ho
  obtain⟨t2,r3,rfl⟩:=qaY a2
  cases hq2:qaq 12 2 true n 1 (lv+1) (t2::r3) with
  | none=>rw[hq2] at hx; cases hx
  | some y=>
   rw[hq2] at hx
   have h2:=ihe 1 (lv+1) i' t2 r3 y (by omega) (by omega) hl1 a1 hq2
   cases y with
   | er a c=>
    simp only[Option.some.injEq] at hx
    subst hx
    obtain⟨i2,z2⟩:=h2
    exact⟨i2,qqm hlv hT h hb z z2⟩
   | ok e r4=>
    simp only at hx
    obtain⟨i2,b1,b2,z2⟩:=h2
    obtain⟨t3,r5,rfl⟩:=qaY b2
    have hc:=qch (s:=s) hw hT b1 (x:=bs [93]) (by decide)
    cases hq3:qax 12 (bs [93]) (t3::r5) with
    | er a c=>
     rw[hq3] at hx hc
     simp only[Option.some.injEq] at hx
     subst hx
     obtain⟨i3,z3⟩:=hc
     exact⟨i3,qqn hlv hT h hb z z2 z3⟩
    | ok u2 r6=>
     rw[hq3] at hx hc
     simp only[Option.some.injEq] at hx
     subst hx
     obtain⟨i3,c1,c2,z3⟩:=hc
     exact⟨i3,c1,c2,qtF hlv hT h hb z z2 z3⟩
theorem qpY (hw:WfQ T) (hT:T.length<2 ^ 40) (hP : ∀ t∈T,TokP t) {n:Nat} (ihe:ExK s T n) (ihi:IdK s T n) {lv i:Nat} {t:Tk} {r:List Tk} {x:Rz E} (hlv:lv<=20) (h:T.drop i=t::r) (hx:qaq 12 2 true (n+1) 8 lv (t::r)=some x):Out s T (Z tP (.call 309 [.ptr 0 0,.int lv] (PS s T i 0 12))) x E.node:=by
 by_cases hb:t.bad=0
 case neg=>
  have:=qmX hb r (n+1) 8 lv x hx
  subst this
  exact⟨i,qti h hb⟩
 have hnx:nx (t::r)=some t.s:=if_pos hb
 have hmem:t∈T:=List.mem_of_mem_drop (by rw[h]; exact List.mem_cons_self ..)
 have hk:=qb3 hb
 rw[qaq,if_neg (by rintro (h | h); exact absurd h.1 (by decide); exact absurd h.1 (by decide)),if_neg (by decide),hnx] at hx
 simp only[List.tail_cons] at hx
 have good : ∀ {e:E},t.s≠⟨#[]⟩->x = .ok e r->Z tP (.call 309 [.ptr 0 0,.int lv] (PS s T i 0 12))=some (.ret e.node (PS s T ((i+1:Nat):Int) 0 12))->Out s T (Z tP (.call 309 [.ptr 0 0,.int lv] (PS s T i 0 12))) x E.node:=fun hne hx z=>by
  subst hx
  obtain⟨n1,n2⟩:=hw.next h hb hne
  exact⟨i+1,n1,n2,z⟩
 by_cases hd:qaH qaA t.s=true
 ·rw[if_pos hd] at hx
  obtain⟨d1,d2⟩:=qmz t.s hd
  have hv:=((hP t hmem).dig hb hd).2.1
  have hval:(valT t:Int)=digV t.s.toList:=by
   unfold valT
   rw[if_pos hd,ByteArray.toList_eq,byl]
   omega
  refine good d1 (Option.some.inj hx).symm ?_
  rw[<- hval]
  exact qtj hT h hb (by rw[hk,qgP,if_neg d1,d2,if_neg (by decide),if_pos hd])
 rw[if_neg hd] at hx
 by_cases h1:t.s=bs [116,114,117,101]
 ·rw[if_pos h1] at hx
  refine good (by rw[h1]; decide) (Option.some.inj hx).symm (qrr hT h hb ?_ h1)
  rw[hk,h1]; decide
 rw[if_neg h1] at hx
 by_cases h2:t.s=bs [102,97,108,115,101]
 ·rw[if_pos h2] at hx
  refine good (by rw[h2]; decide) (Option.some.inj hx).symm (qpv hT h hb ?_ h2)
  rw[hk,h2]; decide
 rw[if_neg h2] at hx
 by_cases h3:t.s=bs [115,101,108,102]\/t.s=bs [111,116,104,101,114]\/t.s=bs [116,105,99,107]
 ·rw[if_pos h3] at hx
  have hm:t.s∈qdB:=by
   simp only[qdB,List.mem_cons,List.not_mem_nil,or_false]
   exact h3
  have hall : ∀ w∈qdB,qgP w=2/\w≠⟨#[]⟩:=by decide
  exact good (hall _ hm).2 (Option.some.inj hx).symm (qrs hT h hb (by rw[hk]; exact (hall _ hm).1) hm)
 rw[if_neg h3] at hx
 have n3:t.s∉qdB:=fun hm=>h3 (by
  simp only[qdB,List.mem_cons,List.not_mem_nil,or_false] at hm
  exact hm)
 by_cases hf:t.s∈fieldNames
 ·rw[if_pos hf] at hx
  have hall : ∀ w∈fieldNames,qgP w=3/\w≠⟨#[]⟩:=by decide
  have hk3:kindT t=3:=by rw[hk]; exact (hall _ hf).1
  cases hq:qbe 12 2 true n lv r with
  | none=>rw[hq] at hx; cases hx
  | some y=>
   rw[hq] at hx
   have hi:=ihi lv i t r y hlv h hb (hall _ hf).2 hq
   cases y with
   | er a c=>
    simp only[Option.some.injEq] at hx
    subst hx
    obtain⟨i',z⟩:=hi
    exact⟨i',qnD h hb hk3 z⟩
   | ok e r'=>
    simp only[Option.some.injEq] at hx
    subst hx
    obtain⟨i',a1,a2,z⟩:=hi
    exact⟨i',a1,a2,qtl h hb hk3 z⟩
 rw[if_neg hf] at hx
 by_cases hv:qaH qbi t.s=true/\t.s∉wordNames
 ·rw[if_pos hv] at hx
  have hne:=qfl hv.1
  exact good hne (Option.some.inj hx).symm (qtk hT h hb (by rw[hk,qgP,if_neg hne,if_pos hv.1,if_neg hf,if_neg hv.2]))
 rw[if_neg hv] at hx
 have hk5:kindT t=0\/kindT t=2\/kindT t=5:=by
  rw[hk,qgP]
  by_cases a1:t.s=⟨#[]⟩
  ·exact .inl (if_pos a1)
  ·rw[if_neg a1]
   by_cases a2:qaH qbi t.s=true
   ·rw[if_pos a2,if_neg hf]
    by_cases a3:t.s∈wordNames
    ·rw[if_pos a3]; exact .inr (.inl rfl)
    ·exact absurd ⟨a2,a3⟩ hv
   ·rw[if_neg a2,if_neg hd]; exact .inr (.inr rfl)
 have d4:decide (kindT t=4)=false:=decide_eq_false (by omega)
 have d1:decide (kindT t=1)=false:=decide_eq_false (by omega)
 have d3:decide (kindT t=3)=false:=decide_eq_false (by omega)
 have ho:=qgm (s:=s) hw hT h (x:=bs [40]) (by decide) (lv:=lv+1)
 cases hq:qcr 12 2 (bs [40]) (lv+1) (t::r) with
 | er a c=>
  rw[hq] at hx ho
  simp only[Option.some.injEq] at hx
  subst hx
  obtain⟨i',z⟩:=ho
  exact⟨i',qqi hlv h hb d4 d1 d3 h1 h2 n3 z⟩
 | ok u r2=>
  have hl1:=qiz hq
  rw[hq] at hx ho
  simp only at hx
  obtain⟨i',a1,a2,z⟩:=ho
  obtain⟨t2,r3,rfl⟩:=qaY a2
  cases hq2:qaq 12 2 true n 1 (lv+1) (t2::r3) with
  | none=>rw[hq2] at hx; cases hx
  | some y=>
   rw[hq2] at hx
   have h2':=ihe 1 (lv+1) i' t2 r3 y (by omega) (by omega) hl1 a1 hq2
   cases y with
   | er a c=>
    simp only[Option.some.injEq] at hx
    subst hx
    obtain⟨i2,z2⟩:=h2'
    exact⟨i2,qqj hlv h hb d4 d1 d3 h1 h2 n3 z z2⟩
   | ok e r4=>
    simp only at hx
    obtain⟨i2,b1,b2,z2⟩:=h2'
    obtain⟨t3,r5,rfl⟩:=qaY b2
    have hc:=qch (s:=s) hw hT b1 (x:=bs [41]) (by decide)
    cases hq3:qax 12 (bs [41]) (t3::r5) with
    | er a c=>
     rw[hq3] at hx hc
     simp only[Option.some.injEq] at hx
     subst hx
     obtain⟨i3,z3⟩:=hc
     exact⟨i3,qqk hlv h hb d4 d1 d3 h1 h2 n3 z z2 z3⟩
    | ok u2 r6=>
     rw[hq3] at hx hc
     simp only[Option.some.injEq] at hx
     subst hx
     obtain⟨i3,c1,c2,z3⟩:=hc
     exact⟨i3,c1,c2,qtE hlv h hb d4 d1 d3 h1 h2 n3 z z2 z3⟩
theorem qmA (hw:WfQ T) (hT:T.length<2 ^ 40) (hP : ∀ t∈T,TokP t) : ∀ n,ExK s T n/\LoK s T n/\IdK s T n
 | 0=>⟨fun p lv i t r x _ _ _ _ hx=>by simp[qaq] at hx,fun p lv i t r e x _ _ _ hx=>by simp[qcZ] at hx,fun lv i t r x _ _ _ _ hx=>by simp[qbe] at hx⟩
 | n+1=>by
  obtain⟨ihe,ihl,ihi⟩:=qmA hw hT hP n
  refine⟨fun p lv i t r x p1 p8 hlv h hx=>?_,qq2 hw hT ihe ihl,qpX hw hT ihe⟩
  obtain rfl | rfl | rfl | rfl | rfl | rfl | rfl | rfl:p=1\/p=2\/p=3\/p=4\/p=5\/p=6\/p=7\/p=8:=by omega
  ·exact qll ihe ihl (.inl rfl) hlv h hx
  ·exact qll ihe ihl (.inr (.inl rfl)) hlv h hx
  ·exact qrW hw hT ihe (neg:=false) (.inl ⟨rfl,rfl⟩) hlv h hx
  ·exact qst hw hT ihe hlv h hx
  ·exact qll ihe ihl (.inr (.inr (.inl rfl))) hlv h hx
  ·exact qll ihe ihl (.inr (.inr (.inr rfl))) hlv h hx
  ·exact qrW hw hT ihe (neg:=true) (.inr ⟨rfl,rfl⟩) hlv h hx
  ·exact qpY hw hT hP ihe ihi hlv h hx
end
end Go.Pm
end SKt
section SKu
namespace Go.Pm
open F
set_option maxHeartbeats 4000000
attribute [local simp] qbb qbP dkey
def ifT:ByteArray:=⟨#[105,102]⟩
def qa0:ByteArray:=⟨#[119,104,105,108,101]⟩
def qaM:ByteArray:=⟨#[101,102,102,101,99,116]⟩
def qeK:ByteArray:=⟨#[115,116,111,112]⟩
abbrev nv (k:Int) (x:ByteArray) (d:D):V := .dat (.agg [.lit (.int .i64 k),.lit (.int .i64 0),.lit (.string x),d])
abbrev cE (e:E):List D:=[.lit (.int .i64 e.kind),.lit (.int .i64 e.num),.lit (.string e.str),e.kids]
section
variable {s:ByteArray} {T:List Tk} {lv i i1 i2 i3 i4:Nat} {e e':E} {a c:Int} {t:Tk} {r:List Tk} {d:D}
theorem qtg {k:Int} {x:ByteArray} (o:V.one (.dat d)=true) (oc:V.cells (.dat d)=[.dat d]) (z:Z tP (.call 253 [.ptr 0 0,.str ⟨#[59]⟩] (PS s T i 0 12))=some (.ret (.tup []) (PS s T i1 0 12))):Z tP (.call 278 [.ptr 0 0,nv k x d] (PS s T i 0 12))=some (.ret (nv k x d) (PS s T i1 0 12)):=by
 simp only[PS,pO] at z
 refine qaa (pf:=F278) rfl rfl ?_
 simp[F278,z,o,oc,List.range_succ]
theorem qrp {k:Int} {x:ByteArray} (o:V.one (.dat d)=true) (oc:V.cells (.dat d)=[.dat d]) (z:Z tP (.call 253 [.ptr 0 0,.str ⟨#[59]⟩] (PS s T i 0 12))=some (.ret (qbj c) (PS s T i1 a c))):Z tP (.call 278 [.ptr 0 0,nv k x d] (PS s T i 0 12))=some (.ret (qbj c) (PS s T i1 a c)):=by
 simp only[PS,pO] at z
 refine qaa (pf:=F278) rfl rfl ?_
 simp[F278,z,o,oc,qaf,List.range_succ]
theorem qil (hlv:lv<=20) (hT:T.length<2 ^ 40) (h:T.drop i=t::r) (hb:t.bad=0) (hk:kindT t=1)
  (z1:Z tP (.call 253 [.ptr 0 0,.str ⟨#[61]⟩] (PS s T ((i+1:Nat):Int) 0 12))=some (.ret (qbj c) (PS s T i1 a c))):Z tP (.call 271 [.ptr 0 0,.int lv] (PS s T i 0 12))=some (.ret (qbj c) (PS s T i1 a c)):=by
 have w1:=qal ((lv:Int)+1) (by omega)
 have zp:=qav (s:=s) (a:=0) (c:=12) h hb
 have zt:=qaI (s:=s) (a:=0) (c:=12) h hb hT
 simp only[PS,pO,ptk,ptD,hk,qao hb] at zp zt
 simp only[PS,pO,cE,nv,List.cons_append,List.nil_append] at z1
 try simp only[Int.natCast_add,Int.cast_ofNat_Int] at zt z1
 refine qaa (pf:=F271) rfl rfl ?_
 simp[F271,zp,zt,w1,z1,qaf,qaC,qcX,qa8,qbw,qbS,qa9,still,V.same,List.range_succ]
theorem qim (hlv:lv<=20) (hT:T.length<2 ^ 40) (h:T.drop i=t::r) (hb:t.bad=0) (hk:kindT t=1)
  (z1:Z tP (.call 253 [.ptr 0 0,.str ⟨#[61]⟩] (PS s T ((i+1:Nat):Int) 0 12))=some (.ret (.tup []) (PS s T i1 0 12)))
  (z2:Z tP (.call 279 [.ptr 0 0,.int lv] (PS s T i1 0 12))=some (.ret (qbj c) (PS s T i2 a c))):Z tP (.call 271 [.ptr 0 0,.int lv] (PS s T i 0 12))=some (.ret (qbj c) (PS s T i2 a c)):=by
 have w1:=qal ((lv:Int)+1) (by omega)
 have zp:=qav (s:=s) (a:=0) (c:=12) h hb
 have zt:=qaI (s:=s) (a:=0) (c:=12) h hb hT
 simp only[PS,pO,ptk,ptD,hk,qao hb] at zp zt
 simp only[PS,pO,cE,nv,List.cons_append,List.nil_append] at z1 z2
 try simp only[Int.natCast_add,Int.cast_ofNat_Int] at zt z1 z2
 refine qaa (pf:=F271) rfl rfl ?_
 simp[F271,zp,zt,w1,z1,z2,qaf,qaC,qcX,qa8,qbw,qbS,qa9,still,V.same,List.range_succ]
theorem qin (hlv:lv<=20) (hT:T.length<2 ^ 40) (h:T.drop i=t::r) (hb:t.bad=0) (hk:kindT t=1)
  (z1:Z tP (.call 253 [.ptr 0 0,.str ⟨#[61]⟩] (PS s T ((i+1:Nat):Int) 0 12))=some (.ret (.tup []) (PS s T i1 0 12)))
  (z2:Z tP (.call 279 [.ptr 0 0,.int lv] (PS s T i1 0 12))=some (.ret (e).node (PS s T i2 0 12)))
  (z3:Z tP (.call 278 [.ptr 0 0,nv 1 t.s (.sl (cE e) 1 true)] (PS s T i2 0 12))=some (.ret (qbj c) (PS s T i3 a c))):Z tP (.call 271 [.ptr 0 0,.int lv] (PS s T i 0 12))=some (.ret (qbj c) (PS s T i3 a c)):=by
 have w1:=qal ((lv:Int)+1) (by omega)
 have zp:=qav (s:=s) (a:=0) (c:=12) h hb
 have zt:=qaI (s:=s) (a:=0) (c:=12) h hb hT
 simp only[PS,pO,ptk,ptD,hk,qao hb] at zp zt
 simp only[PS,pO,cE,nv,List.cons_append,List.nil_append] at z1 z2 z3
 try simp only[Int.natCast_add,Int.cast_ofNat_Int] at zt z1 z2 z3
 refine qaa (pf:=F271) rfl rfl ?_
 simp[F271,zp,zt,w1,z1,z2,z3,qaf,qaC,qcX,qa8,qbw,qbS,qa9,still,V.same,List.range_succ]
theorem qj2 (hlv:lv<=20) (hT:T.length<2 ^ 40) (h:T.drop i=t::r) (hb:t.bad=0) (hk:kindT t=1)
  (z1:Z tP (.call 253 [.ptr 0 0,.str ⟨#[61]⟩] (PS s T ((i+1:Nat):Int) 0 12))=some (.ret (.tup []) (PS s T i1 0 12)))
  (z2:Z tP (.call 279 [.ptr 0 0,.int lv] (PS s T i1 0 12))=some (.ret (e).node (PS s T i2 0 12)))
  (z3:Z tP (.call 278 [.ptr 0 0,nv 1 t.s (.sl (cE e) 1 true)] (PS s T i2 0 12))=some (.ret (nv 1 t.s (.sl (cE e) 1 true)) (PS s T i3 0 12))):Z tP (.call 271 [.ptr 0 0,.int lv] (PS s T i 0 12))=some (.ret (nv 1 t.s (.sl (cE e) 1 true)) (PS s T i3 0 12)):=by
 have w1:=qal ((lv:Int)+1) (by omega)
 have zp:=qav (s:=s) (a:=0) (c:=12) h hb
 have zt:=qaI (s:=s) (a:=0) (c:=12) h hb hT
 simp only[PS,pO,ptk,ptD,hk,qao hb] at zp zt
 simp only[PS,pO,cE,nv,List.cons_append,List.nil_append] at z1 z2 z3
 try simp only[Int.natCast_add,Int.cast_ofNat_Int] at zt z1 z2 z3
 refine qaa (pf:=F271) rfl rfl ?_
 simp[F271,zp,zt,w1,z1,z2,z3,qaf,qaC,qcX,qa8,qbw,qbS,qa9,still,V.same,List.range_succ]
theorem qi6 (hlv:lv<=20) (hT:T.length<2 ^ 40) (h:T.drop i=t::r) (hb:t.bad=0) (hk:kindT t=3)
  (z1:Z tP (.call 280 [.ptr 0 0,.int lv] (PS s T i 0 12))=some (.ret (qbj c) (PS s T i1 a c))):Z tP (.call 271 [.ptr 0 0,.int lv] (PS s T i 0 12))=some (.ret (qbj c) (PS s T i1 a c)):=by
 have w1:=qal ((lv:Int)+1) (by omega)
 have zp:=qav (s:=s) (a:=0) (c:=12) h hb
 have zt:=qaI (s:=s) (a:=0) (c:=12) h hb hT
 simp only[PS,pO,ptk,ptD,hk,qao hb] at zp zt
 simp only[PS,pO,cE,nv,List.cons_append,List.nil_append] at z1
 try simp only[Int.natCast_add,Int.cast_ofNat_Int] at zt z1
 refine qaa (pf:=F271) rfl rfl ?_
 simp[F271,zp,zt,w1,z1,qaf,qaC,qcX,qa8,qbw,qbS,qa9,still,V.same,List.range_succ]
theorem qi7 (hlv:lv<=20) (hT:T.length<2 ^ 40) (h:T.drop i=t::r) (hb:t.bad=0) (hk:kindT t=3)
  (z1:Z tP (.call 280 [.ptr 0 0,.int lv] (PS s T i 0 12))=some (.ret e.node (PS s T i1 0 12)))
  (z2:Z tP (.call 253 [.ptr 0 0,.str ⟨#[61]⟩] (PS s T i1 0 12))=some (.ret (qbj c) (PS s T i2 a c))):Z tP (.call 271 [.ptr 0 0,.int lv] (PS s T i 0 12))=some (.ret (qbj c) (PS s T i2 a c)):=by
 have w1:=qal ((lv:Int)+1) (by omega)
 have zp:=qav (s:=s) (a:=0) (c:=12) h hb
 have zt:=qaI (s:=s) (a:=0) (c:=12) h hb hT
 simp only[PS,pO,ptk,ptD,hk,qao hb] at zp zt
 simp only[PS,pO,cE,nv,List.cons_append,List.nil_append] at z1 z2
 try simp only[Int.natCast_add,Int.cast_ofNat_Int] at zt z1 z2
 refine qaa (pf:=F271) rfl rfl ?_
 simp[F271,zp,zt,w1,z1,z2,qaf,qaC,qcX,qa8,qbw,qbS,qa9,still,V.same,List.range_succ]
theorem qi8 (hlv:lv<=20) (hT:T.length<2 ^ 40) (h:T.drop i=t::r) (hb:t.bad=0) (hk:kindT t=3)
  (z1:Z tP (.call 280 [.ptr 0 0,.int lv] (PS s T i 0 12))=some (.ret e.node (PS s T i1 0 12)))
  (z2:Z tP (.call 253 [.ptr 0 0,.str ⟨#[61]⟩] (PS s T i1 0 12))=some (.ret (.tup []) (PS s T i2 0 12)))
  (z3:Z tP (.call 279 [.ptr 0 0,.int lv] (PS s T i2 0 12))=some (.ret (qbj c) (PS s T i3 a c))):Z tP (.call 271 [.ptr 0 0,.int lv] (PS s T i 0 12))=some (.ret (qbj c) (PS s T i3 a c)):=by
 have w1:=qal ((lv:Int)+1) (by omega)
 have zp:=qav (s:=s) (a:=0) (c:=12) h hb
 have zt:=qaI (s:=s) (a:=0) (c:=12) h hb hT
 simp only[PS,pO,ptk,ptD,hk,qao hb] at zp zt
 simp only[PS,pO,cE,nv,List.cons_append,List.nil_append] at z1 z2 z3
 try simp only[Int.natCast_add,Int.cast_ofNat_Int] at zt z1 z2 z3
 refine qaa (pf:=F271) rfl rfl ?_
 simp[F271,zp,zt,w1,z1,z2,z3,qaf,qaC,qcX,qa8,qbw,qbS,qa9,still,V.same,List.range_succ]
theorem qi9 (hlv:lv<=20) (hT:T.length<2 ^ 40) (h:T.drop i=t::r) (hb:t.bad=0) (hk:kindT t=3)
  (z1:Z tP (.call 280 [.ptr 0 0,.int lv] (PS s T i 0 12))=some (.ret e.node (PS s T i1 0 12)))
  (z2:Z tP (.call 253 [.ptr 0 0,.str ⟨#[61]⟩] (PS s T i1 0 12))=some (.ret (.tup []) (PS s T i2 0 12)))
  (z3:Z tP (.call 279 [.ptr 0 0,.int lv] (PS s T i2 0 12))=some (.ret (e').node (PS s T i3 0 12)))
  (z4:Z tP (.call 278 [.ptr 0 0,nv 2 t.s (.sl (cE e++cE e') 2 true)] (PS s T i3 0 12))=some (.ret (qbj c) (PS s T i4 a c))):Z tP (.call 271 [.ptr 0 0,.int lv] (PS s T i 0 12))=some (.ret (qbj c) (PS s T i4 a c)):=by
 have w1:=qal ((lv:Int)+1) (by omega)
 have zp:=qav (s:=s) (a:=0) (c:=12) h hb
 have zt:=qaI (s:=s) (a:=0) (c:=12) h hb hT
 simp only[PS,pO,ptk,ptD,hk,qao hb] at zp zt
 simp only[PS,pO,cE,nv,List.cons_append,List.nil_append] at z1 z2 z3 z4
 try simp only[Int.natCast_add,Int.cast_ofNat_Int] at zt z1 z2 z3 z4
 refine qaa (pf:=F271) rfl rfl ?_
 simp[F271,zp,zt,w1,z1,z2,z3,z4,qaf,qaC,qcX,qa8,qbw,qbS,qa9,still,V.same,List.range_succ]
theorem qls (hlv:lv<=20) (hT:T.length<2 ^ 40) (h:T.drop i=t::r) (hb:t.bad=0) (hk:kindT t=3)
  (z1:Z tP (.call 280 [.ptr 0 0,.int lv] (PS s T i 0 12))=some (.ret e.node (PS s T i1 0 12)))
  (z2:Z tP (.call 253 [.ptr 0 0,.str ⟨#[61]⟩] (PS s T i1 0 12))=some (.ret (.tup []) (PS s T i2 0 12)))
  (z3:Z tP (.call 279 [.ptr 0 0,.int lv] (PS s T i2 0 12))=some (.ret (e').node (PS s T i3 0 12)))
  (z4:Z tP (.call 278 [.ptr 0 0,nv 2 t.s (.sl (cE e++cE e') 2 true)] (PS s T i3 0 12))=some (.ret (nv 2 t.s (.sl (cE e++cE e') 2 true)) (PS s T i4 0 12))):Z tP (.call 271 [.ptr 0 0,.int lv] (PS s T i 0 12))=some (.ret (nv 2 t.s (.sl (cE e++cE e') 2 true)) (PS s T i4 0 12)):=by
 have w1:=qal ((lv:Int)+1) (by omega)
 have zp:=qav (s:=s) (a:=0) (c:=12) h hb
 have zt:=qaI (s:=s) (a:=0) (c:=12) h hb hT
 simp only[PS,pO,ptk,ptD,hk,qao hb] at zp zt
 simp only[PS,pO,cE,nv,List.cons_append,List.nil_append] at z1 z2 z3 z4
 try simp only[Int.natCast_add,Int.cast_ofNat_Int] at zt z1 z2 z3 z4
 refine qaa (pf:=F271) rfl rfl ?_
 simp[F271,zp,zt,w1,z1,z2,z3,z4,qaf,qaC,qcX,qa8,qbw,qbS,qa9,still,V.same,List.range_succ]
theorem qmf (hlv:lv<=20) (hT:T.length<2 ^ 40) (h:T.drop i=t::r) (hb:t.bad=0) (h1:decide (kindT t=1)=false) (h3:decide (kindT t=3)=false) (hm:t.s=ifT) (od:V.one (.dat d)=true) (oc:V.cells (.dat d)=[.dat d])
  (z1:Z tP (.call 281 [.ptr 0 0,.int lv] (PS s T i 0 12))=some (.ret (qbj c) (PS s T i1 a c))):Z tP (.call 271 [.ptr 0 0,.int lv] (PS s T i 0 12))=some (.ret (qbj c) (PS s T i1 a c)):=by
 have w1:=qal ((lv:Int)+1) (by omega)
 have zp:=qav (s:=s) (a:=0) (c:=12) h hb
 have zt:=qaI (s:=s) (a:=0) (c:=12) h hb hT
 simp only[PS,pO,ptk,ptD,qao hb] at zp zt
 have y0:=qaK (s:=s) (a:=0) (c:=12) h hb (qai [ifT] true) (by simp) (by decide)
 simp only[hm,List.mem_singleton,decide_true] at y0
 simp only[PS,pO,ifT,qaZ,List.map_cons,List.map_nil,List.length_singleton] at y0
 simp only[PS,pO,cE,nv,List.cons_append,List.nil_append] at z1
 try simp only[Int.natCast_add,Int.cast_ofNat_Int] at zt z1
 refine qaa (pf:=F271) rfl rfl ?_
 simp[F271,zp,zt,w1,h1,h3,y0,od,oc,z1,qaf,qaC,qcX,qa8,qbw,qbS,qa9,still,V.same,List.range_succ]
theorem qpu (hlv:lv<=20) (hT:T.length<2 ^ 40) (h:T.drop i=t::r) (hb:t.bad=0) (h1:decide (kindT t=1)=false) (h3:decide (kindT t=3)=false) (hm:t.s=ifT) (od:V.one (.dat d)=true) (oc:V.cells (.dat d)=[.dat d])
  (z1:Z tP (.call 281 [.ptr 0 0,.int lv] (PS s T i 0 12))=some (.ret (nv 3 ⟨#[]⟩ d) (PS s T i1 0 12))):Z tP (.call 271 [.ptr 0 0,.int lv] (PS s T i 0 12))=some (.ret (nv 3 ⟨#[]⟩ d) (PS s T i1 0 12)):=by
 have w1:=qal ((lv:Int)+1) (by omega)
 have zp:=qav (s:=s) (a:=0) (c:=12) h hb
 have zt:=qaI (s:=s) (a:=0) (c:=12) h hb hT
 simp only[PS,pO,ptk,ptD,qao hb] at zp zt
 have y0:=qaK (s:=s) (a:=0) (c:=12) h hb (qai [ifT] true) (by simp) (by decide)
 simp only[hm,List.mem_singleton,decide_true] at y0
 simp only[PS,pO,ifT,qaZ,List.map_cons,List.map_nil,List.length_singleton] at y0
 simp only[PS,pO,cE,nv,List.cons_append,List.nil_append] at z1
 try simp only[Int.natCast_add,Int.cast_ofNat_Int] at zt z1
 refine qaa (pf:=F271) rfl rfl ?_
 simp[F271,zp,zt,w1,h1,h3,y0,od,oc,z1,qaf,qaC,qcX,qa8,qbw,qbS,qa9,still,V.same,List.range_succ]
theorem qja (hlv:lv<=20) (hT:T.length<2 ^ 40) (h:T.drop i=t::r) (hb:t.bad=0) (h1:decide (kindT t=1)=false) (h3:decide (kindT t=3)=false) (hm:t.s=qa0) (od:V.one (.dat d)=true) (oc:V.cells (.dat d)=[.dat d])
  (z1:Z tP (.call 279 [.ptr 0 0,.int lv] (PS s T ((i+1:Nat):Int) 0 12))=some (.ret (qbj c) (PS s T i1 a c))):Z tP (.call 271 [.ptr 0 0,.int lv] (PS s T i 0 12))=some (.ret (qbj c) (PS s T i1 a c)):=by
 have w1:=qal ((lv:Int)+1) (by omega)
 have zp:=qav (s:=s) (a:=0) (c:=12) h hb
 have zt:=qaI (s:=s) (a:=0) (c:=12) h hb hT
 simp only[PS,pO,ptk,ptD,qao hb] at zp zt
 have y0:=qaK (s:=s) (a:=0) (c:=12) h hb (qai [ifT] true) (by simp) (by decide)
 have q0:qa0≠ifT:=by decide
 simp only[hm,List.mem_singleton,q0,decide_false] at y0
 simp only[PS,pO,ifT,qaZ,List.map_cons,List.map_nil,List.length_singleton] at y0
 have y1:=qaK (s:=s) (a:=0) (c:=12) h hb (qai [qa0] true) (by simp) (by decide)
 simp only[hm,List.mem_singleton,decide_true] at y1
 simp only[PS,pO,qa0,qaZ,List.map_cons,List.map_nil,List.length_singleton] at y1
 simp only[PS,pO,cE,nv,List.cons_append,List.nil_append] at z1
 try simp only[Int.natCast_add,Int.cast_ofNat_Int] at zt z1
 refine qaa (pf:=F271) rfl rfl ?_
 simp[F271,zp,zt,w1,h1,h3,y0,y1,od,oc,z1,qaf,qaC,qcX,qa8,qbw,qbS,qa9,still,V.same,List.range_succ]
theorem qjb (hlv:lv<=20) (hT:T.length<2 ^ 40) (h:T.drop i=t::r) (hb:t.bad=0) (h1:decide (kindT t=1)=false) (h3:decide (kindT t=3)=false) (hm:t.s=qa0) (od:V.one (.dat d)=true) (oc:V.cells (.dat d)=[.dat d])
  (z1:Z tP (.call 279 [.ptr 0 0,.int lv] (PS s T ((i+1:Nat):Int) 0 12))=some (.ret (e).node (PS s T i1 0 12)))
  (z2:Z tP (.call 256 [.ptr 0 0,.int ((lv+1:Nat):Int)] (PS s T i1 0 12))=some (.ret (qbj c) (PS s T i2 a c))):Z tP (.call 271 [.ptr 0 0,.int lv] (PS s T i 0 12))=some (.ret (qbj c) (PS s T i2 a c)):=by
 have w1:=qal ((lv:Int)+1) (by omega)
 have zp:=qav (s:=s) (a:=0) (c:=12) h hb
 have zt:=qaI (s:=s) (a:=0) (c:=12) h hb hT
 simp only[PS,pO,ptk,ptD,qao hb] at zp zt
 have y0:=qaK (s:=s) (a:=0) (c:=12) h hb (qai [ifT] true) (by simp) (by decide)
 have q0:qa0≠ifT:=by decide
 simp only[hm,List.mem_singleton,q0,decide_false] at y0
 simp only[PS,pO,ifT,qaZ,List.map_cons,List.map_nil,List.length_singleton] at y0
 have y1:=qaK (s:=s) (a:=0) (c:=12) h hb (qai [qa0] true) (by simp) (by decide)
 simp only[hm,List.mem_singleton,decide_true] at y1
 simp only[PS,pO,qa0,qaZ,List.map_cons,List.map_nil,List.length_singleton] at y1
 simp only[PS,pO,cE,nv,List.cons_append,List.nil_append] at z1 z2
 try simp only[Int.natCast_add,Int.cast_ofNat_Int] at zt z1 z2
 refine qaa (pf:=F271) rfl rfl ?_
 simp[F271,zp,zt,w1,h1,h3,y0,y1,od,oc,z1,z2,qaf,qaC,qcX,qa8,qbw,qbS,qa9,still,V.same,List.range_succ]
theorem qlt (hlv:lv<=20) (hT:T.length<2 ^ 40) (h:T.drop i=t::r) (hb:t.bad=0) (h1:decide (kindT t=1)=false) (h3:decide (kindT t=3)=false) (hm:t.s=qa0) (od:V.one (.dat d)=true) (oc:V.cells (.dat d)=[.dat d])
  (z1:Z tP (.call 279 [.ptr 0 0,.int lv] (PS s T ((i+1:Nat):Int) 0 12))=some (.ret (e).node (PS s T i1 0 12)))
  (z2:Z tP (.call 256 [.ptr 0 0,.int ((lv+1:Nat):Int)] (PS s T i1 0 12))=some (.ret (nv 7 ⟨#[]⟩ d) (PS s T i2 0 12))):Z tP (.call 271 [.ptr 0 0,.int lv] (PS s T i 0 12))=some (.ret (nv 4 ⟨#[]⟩ (.sl (cE e++[.lit (.int .i64 7),.lit (.int .i64 0),.lit (.string ⟨#[]⟩),d]) 2 true)) (PS s T i2 0 12)):=by
 have w1:=qal ((lv:Int)+1) (by omega)
 have zp:=qav (s:=s) (a:=0) (c:=12) h hb
 have zt:=qaI (s:=s) (a:=0) (c:=12) h hb hT
 simp only[PS,pO,ptk,ptD,qao hb] at zp zt
 have y0:=qaK (s:=s) (a:=0) (c:=12) h hb (qai [ifT] true) (by simp) (by decide)
 have q0:qa0≠ifT:=by decide
 simp only[hm,List.mem_singleton,q0,decide_false] at y0
 simp only[PS,pO,ifT,qaZ,List.map_cons,List.map_nil,List.length_singleton] at y0
 have y1:=qaK (s:=s) (a:=0) (c:=12) h hb (qai [qa0] true) (by simp) (by decide)
 simp only[hm,List.mem_singleton,decide_true] at y1
 simp only[PS,pO,qa0,qaZ,List.map_cons,List.map_nil,List.length_singleton] at y1
 simp only[PS,pO,cE,nv,List.cons_append,List.nil_append] at z1 z2
 try simp only[Int.natCast_add,Int.cast_ofNat_Int] at zt z1 z2
 refine qaa (pf:=F271) rfl rfl ?_
 simp[F271,zp,zt,w1,h1,h3,y0,y1,od,oc,z1,z2,qaf,qaC,qcX,qa8,qbw,qbS,qa9,still,V.same,List.range_succ]
theorem qio (hlv:lv<=20) (hT:T.length<2 ^ 40) (h:T.drop i=t::r) (hb:t.bad=0) (h1:decide (kindT t=1)=false) (h3:decide (kindT t=3)=false) (hm:t.s=qaM)
  (z1:Z tP (.call 279 [.ptr 0 0,.int lv] (PS s T ((i+1:Nat):Int) 0 12))=some (.ret (qbj c) (PS s T i1 a c))):Z tP (.call 271 [.ptr 0 0,.int lv] (PS s T i 0 12))=some (.ret (qbj c) (PS s T i1 a c)):=by
 have w1:=qal ((lv:Int)+1) (by omega)
 have zp:=qav (s:=s) (a:=0) (c:=12) h hb
 have zt:=qaI (s:=s) (a:=0) (c:=12) h hb hT
 simp only[PS,pO,ptk,ptD,qao hb] at zp zt
 have y0:=qaK (s:=s) (a:=0) (c:=12) h hb (qai [ifT] true) (by simp) (by decide)
 have q0:qaM≠ifT:=by decide
 simp only[hm,List.mem_singleton,q0,decide_false] at y0
 simp only[PS,pO,ifT,qaZ,List.map_cons,List.map_nil,List.length_singleton] at y0
 have y1:=qaK (s:=s) (a:=0) (c:=12) h hb (qai [qa0] true) (by simp) (by decide)
 have q1:qaM≠qa0:=by decide
 simp only[hm,List.mem_singleton,q1,decide_false] at y1
 simp only[PS,pO,qa0,qaZ,List.map_cons,List.map_nil,List.length_singleton] at y1
 have y2:=qaK (s:=s) (a:=0) (c:=12) h hb (qai [qaM] true) (by simp) (by decide)
 simp only[hm,List.mem_singleton,decide_true] at y2
 simp only[PS,pO,qaM,qaZ,List.map_cons,List.map_nil,List.length_singleton] at y2
 simp only[PS,pO,cE,nv,List.cons_append,List.nil_append] at z1
 try simp only[Int.natCast_add,Int.cast_ofNat_Int] at zt z1
 refine qaa (pf:=F271) rfl rfl ?_
 simp[F271,zp,zt,w1,h1,h3,y0,y1,y2,z1,qaf,qaC,qcX,qa8,qbw,qbS,qa9,still,V.same,List.range_succ]
theorem qip (hlv:lv<=20) (hT:T.length<2 ^ 40) (h:T.drop i=t::r) (hb:t.bad=0) (h1:decide (kindT t=1)=false) (h3:decide (kindT t=3)=false) (hm:t.s=qaM)
  (z1:Z tP (.call 279 [.ptr 0 0,.int lv] (PS s T ((i+1:Nat):Int) 0 12))=some (.ret (e).node (PS s T i1 0 12)))
  (z2:Z tP (.call 253 [.ptr 0 0,.str ⟨#[44]⟩] (PS s T i1 0 12))=some (.ret (qbj c) (PS s T i2 a c))):Z tP (.call 271 [.ptr 0 0,.int lv] (PS s T i 0 12))=some (.ret (qbj c) (PS s T i2 a c)):=by
 have w1:=qal ((lv:Int)+1) (by omega)
 have zp:=qav (s:=s) (a:=0) (c:=12) h hb
 have zt:=qaI (s:=s) (a:=0) (c:=12) h hb hT
 simp only[PS,pO,ptk,ptD,qao hb] at zp zt
 have y0:=qaK (s:=s) (a:=0) (c:=12) h hb (qai [ifT] true) (by simp) (by decide)
 have q0:qaM≠ifT:=by decide
 simp only[hm,List.mem_singleton,q0,decide_false] at y0
 simp only[PS,pO,ifT,qaZ,List.map_cons,List.map_nil,List.length_singleton] at y0
 have y1:=qaK (s:=s) (a:=0) (c:=12) h hb (qai [qa0] true) (by simp) (by decide)
 have q1:qaM≠qa0:=by decide
 simp only[hm,List.mem_singleton,q1,decide_false] at y1
 simp only[PS,pO,qa0,qaZ,List.map_cons,List.map_nil,List.length_singleton] at y1
 have y2:=qaK (s:=s) (a:=0) (c:=12) h hb (qai [qaM] true) (by simp) (by decide)
 simp only[hm,List.mem_singleton,decide_true] at y2
 simp only[PS,pO,qaM,qaZ,List.map_cons,List.map_nil,List.length_singleton] at y2
 simp only[PS,pO,cE,nv,List.cons_append,List.nil_append] at z1 z2
 try simp only[Int.natCast_add,Int.cast_ofNat_Int] at zt z1 z2
 refine qaa (pf:=F271) rfl rfl ?_
 simp[F271,zp,zt,w1,h1,h3,y0,y1,y2,z1,z2,qaf,qaC,qcX,qa8,qbw,qbS,qa9,still,V.same,List.range_succ]
theorem qiq (hlv:lv<=20) (hT:T.length<2 ^ 40) (h:T.drop i=t::r) (hb:t.bad=0) (h1:decide (kindT t=1)=false) (h3:decide (kindT t=3)=false) (hm:t.s=qaM)
  (z1:Z tP (.call 279 [.ptr 0 0,.int lv] (PS s T ((i+1:Nat):Int) 0 12))=some (.ret (e).node (PS s T i1 0 12)))
  (z2:Z tP (.call 253 [.ptr 0 0,.str ⟨#[44]⟩] (PS s T i1 0 12))=some (.ret (.tup []) (PS s T i2 0 12)))
  (z3:Z tP (.call 279 [.ptr 0 0,.int lv] (PS s T i2 0 12))=some (.ret (qbj c) (PS s T i3 a c))):Z tP (.call 271 [.ptr 0 0,.int lv] (PS s T i 0 12))=some (.ret (qbj c) (PS s T i3 a c)):=by
 have w1:=qal ((lv:Int)+1) (by omega)
 have zp:=qav (s:=s) (a:=0) (c:=12) h hb
 have zt:=qaI (s:=s) (a:=0) (c:=12) h hb hT
 simp only[PS,pO,ptk,ptD,qao hb] at zp zt
 have y0:=qaK (s:=s) (a:=0) (c:=12) h hb (qai [ifT] true) (by simp) (by decide)
 have q0:qaM≠ifT:=by decide
 simp only[hm,List.mem_singleton,q0,decide_false] at y0
 simp only[PS,pO,ifT,qaZ,List.map_cons,List.map_nil,List.length_singleton] at y0
 have y1:=qaK (s:=s) (a:=0) (c:=12) h hb (qai [qa0] true) (by simp) (by decide)
 have q1:qaM≠qa0:=by decide
 simp only[hm,List.mem_singleton,q1,decide_false] at y1
 simp only[PS,pO,qa0,qaZ,List.map_cons,List.map_nil,List.length_singleton] at y1
 have y2:=qaK (s:=s) (a:=0) (c:=12) h hb (qai [qaM] true) (by simp) (by decide)
 simp only[hm,List.mem_singleton,decide_true] at y2
 simp only[PS,pO,qaM,qaZ,List.map_cons,List.map_nil,List.length_singleton] at y2
 simp only[PS,pO,cE,nv,List.cons_append,List.nil_append] at z1 z2 z3
 try simp only[Int.natCast_add,Int.cast_ofNat_Int] at zt z1 z2 z3
 refine qaa (pf:=F271) rfl rfl ?_
 simp[F271,zp,zt,w1,h1,h3,y0,y1,y2,z1,z2,z3,qaf,qaC,qcX,qa8,qbw,qbS,qa9,still,V.same,List.range_succ]
theorem qir (hlv:lv<=20) (hT:T.length<2 ^ 40) (h:T.drop i=t::r) (hb:t.bad=0) (h1:decide (kindT t=1)=false) (h3:decide (kindT t=3)=false) (hm:t.s=qaM)
  (z1:Z tP (.call 279 [.ptr 0 0,.int lv] (PS s T ((i+1:Nat):Int) 0 12))=some (.ret (e).node (PS s T i1 0 12)))
  (z2:Z tP (.call 253 [.ptr 0 0,.str ⟨#[44]⟩] (PS s T i1 0 12))=some (.ret (.tup []) (PS s T i2 0 12)))
  (z3:Z tP (.call 279 [.ptr 0 0,.int lv] (PS s T i2 0 12))=some (.ret (e').node (PS s T i3 0 12)))
  (z4:Z tP (.call 278 [.ptr 0 0,nv 5 ⟨#[]⟩ (.sl (cE e++cE e') 2 true)] (PS s T i3 0 12))=some (.ret (qbj c) (PS s T i4 a c))):Z tP (.call 271 [.ptr 0 0,.int lv] (PS s T i 0 12))=some (.ret (qbj c) (PS s T i4 a c)):=by
 have w1:=qal ((lv:Int)+1) (by omega)
 have zp:=qav (s:=s) (a:=0) (c:=12) h hb
 have zt:=qaI (s:=s) (a:=0) (c:=12) h hb hT
 simp only[PS,pO,ptk,ptD,qao hb] at zp zt
 have y0:=qaK (s:=s) (a:=0) (c:=12) h hb (qai [ifT] true) (by simp) (by decide)
 have q0:qaM≠ifT:=by decide
 simp only[hm,List.mem_singleton,q0,decide_false] at y0
 simp only[PS,pO,ifT,qaZ,List.map_cons,List.map_nil,List.length_singleton] at y0
 have y1:=qaK (s:=s) (a:=0) (c:=12) h hb (qai [qa0] true) (by simp) (by decide)
 have q1:qaM≠qa0:=by decide
 simp only[hm,List.mem_singleton,q1,decide_false] at y1
 simp only[PS,pO,qa0,qaZ,List.map_cons,List.map_nil,List.length_singleton] at y1
 have y2:=qaK (s:=s) (a:=0) (c:=12) h hb (qai [qaM] true) (by simp) (by decide)
 simp only[hm,List.mem_singleton,decide_true] at y2
 simp only[PS,pO,qaM,qaZ,List.map_cons,List.map_nil,List.length_singleton] at y2
 simp only[PS,pO,cE,nv,List.cons_append,List.nil_append] at z1 z2 z3 z4
 try simp only[Int.natCast_add,Int.cast_ofNat_Int] at zt z1 z2 z3 z4
 refine qaa (pf:=F271) rfl rfl ?_
 simp[F271,zp,zt,w1,h1,h3,y0,y1,y2,z1,z2,z3,z4,qaf,qaC,qcX,qa8,qbw,qbS,qa9,still,V.same,List.range_succ]
theorem qj3 (hlv:lv<=20) (hT:T.length<2 ^ 40) (h:T.drop i=t::r) (hb:t.bad=0) (h1:decide (kindT t=1)=false) (h3:decide (kindT t=3)=false) (hm:t.s=qaM)
  (z1:Z tP (.call 279 [.ptr 0 0,.int lv] (PS s T ((i+1:Nat):Int) 0 12))=some (.ret (e).node (PS s T i1 0 12)))
  (z2:Z tP (.call 253 [.ptr 0 0,.str ⟨#[44]⟩] (PS s T i1 0 12))=some (.ret (.tup []) (PS s T i2 0 12)))
  (z3:Z tP (.call 279 [.ptr 0 0,.int lv] (PS s T i2 0 12))=some (.ret (e').node (PS s T i3 0 12)))
  (z4:Z tP (.call 278 [.ptr 0 0,nv 5 ⟨#[]⟩ (.sl (cE e++cE e') 2 true)] (PS s T i3 0 12))=some (.ret (nv 5 ⟨#[]⟩ (.sl (cE e++cE e') 2 true)) (PS s T i4 0 12))):Z tP (.call 271 [.ptr 0 0,.int lv] (PS s T i 0 12))=some (.ret (nv 5 ⟨#[]⟩ (.sl (cE e++cE e') 2 true)) (PS s T i4 0 12)):=by
 have w1:=qal ((lv:Int)+1) (by omega)
 have zp:=qav (s:=s) (a:=0) (c:=12) h hb
 have zt:=qaI (s:=s) (a:=0) (c:=12) h hb hT
 simp only[PS,pO,ptk,ptD,qao hb] at zp zt
 have y0:=qaK (s:=s) (a:=0) (c:=12) h hb (qai [ifT] true) (by simp) (by decide)
 have q0:qaM≠ifT:=by decide
 simp only[hm,List.mem_singleton,q0,decide_false] at y0
 simp only[PS,pO,ifT,qaZ,List.map_cons,List.map_nil,List.length_singleton] at y0
 have y1:=qaK (s:=s) (a:=0) (c:=12) h hb (qai [qa0] true) (by simp) (by decide)
 have q1:qaM≠qa0:=by decide
 simp only[hm,List.mem_singleton,q1,decide_false] at y1
 simp only[PS,pO,qa0,qaZ,List.map_cons,List.map_nil,List.length_singleton] at y1
 have y2:=qaK (s:=s) (a:=0) (c:=12) h hb (qai [qaM] true) (by simp) (by decide)
 simp only[hm,List.mem_singleton,decide_true] at y2
 simp only[PS,pO,qaM,qaZ,List.map_cons,List.map_nil,List.length_singleton] at y2
 simp only[PS,pO,cE,nv,List.cons_append,List.nil_append] at z1 z2 z3 z4
 try simp only[Int.natCast_add,Int.cast_ofNat_Int] at zt z1 z2 z3 z4
 refine qaa (pf:=F271) rfl rfl ?_
 simp[F271,zp,zt,w1,h1,h3,y0,y1,y2,z1,z2,z3,z4,qaf,qaC,qcX,qa8,qbw,qbS,qa9,still,V.same,List.range_succ]
theorem qj4 (hlv:lv<=20) (hT:T.length<2 ^ 40) (h:T.drop i=t::r) (hb:t.bad=0) (h1:decide (kindT t=1)=false) (h3:decide (kindT t=3)=false) (hm:t.s=qeK)
  (z1:Z tP (.call 278 [.ptr 0 0,nv 6 ⟨#[]⟩ (.lit (.slice none 0 0))] (PS s T ((i+1:Nat):Int) 0 12))=some (.ret (qbj c) (PS s T i1 a c))):Z tP (.call 271 [.ptr 0 0,.int lv] (PS s T i 0 12))=some (.ret (qbj c) (PS s T i1 a c)):=by
 have w1:=qal ((lv:Int)+1) (by omega)
 have zp:=qav (s:=s) (a:=0) (c:=12) h hb
 have zt:=qaI (s:=s) (a:=0) (c:=12) h hb hT
 simp only[PS,pO,ptk,ptD,qao hb] at zp zt
 have y0:=qaK (s:=s) (a:=0) (c:=12) h hb (qai [ifT] true) (by simp) (by decide)
 have q0:qeK≠ifT:=by decide
 simp only[hm,List.mem_singleton,q0,decide_false] at y0
 simp only[PS,pO,ifT,qaZ,List.map_cons,List.map_nil,List.length_singleton] at y0
 have y1:=qaK (s:=s) (a:=0) (c:=12) h hb (qai [qa0] true) (by simp) (by decide)
 have q1:qeK≠qa0:=by decide
 simp only[hm,List.mem_singleton,q1,decide_false] at y1
 simp only[PS,pO,qa0,qaZ,List.map_cons,List.map_nil,List.length_singleton] at y1
 have y2:=qaK (s:=s) (a:=0) (c:=12) h hb (qai [qaM] true) (by simp) (by decide)
 have q2:qeK≠qaM:=by decide
 simp only[hm,List.mem_singleton,q2,decide_false] at y2
 simp only[PS,pO,qaM,qaZ,List.map_cons,List.map_nil,List.length_singleton] at y2
 have y3:=qaK (s:=s) (a:=0) (c:=12) h hb (qai [qeK] true) (by simp) (by decide)
 simp only[hm,List.mem_singleton,decide_true] at y3
 simp only[PS,pO,qeK,qaZ,List.map_cons,List.map_nil,List.length_singleton] at y3
 simp only[PS,pO,cE,nv,List.cons_append,List.nil_append] at z1
 try simp only[Int.natCast_add,Int.cast_ofNat_Int] at zt z1
 refine qaa (pf:=F271) rfl rfl ?_
 simp[F271,zp,zt,w1,h1,h3,y0,y1,y2,y3,z1,qaf,qaC,qcX,qa8,qbw,qbS,qa9,still,V.same,List.range_succ]
theorem qmg (hlv:lv<=20) (hT:T.length<2 ^ 40) (h:T.drop i=t::r) (hb:t.bad=0) (h1:decide (kindT t=1)=false) (h3:decide (kindT t=3)=false) (hm:t.s=qeK)
  (z1:Z tP (.call 278 [.ptr 0 0,nv 6 ⟨#[]⟩ (.lit (.slice none 0 0))] (PS s T ((i+1:Nat):Int) 0 12))=some (.ret (nv 6 ⟨#[]⟩ (.lit (.slice none 0 0))) (PS s T i1 0 12))):Z tP (.call 271 [.ptr 0 0,.int lv] (PS s T i 0 12))=some (.ret (nv 6 ⟨#[]⟩ (.lit (.slice none 0 0))) (PS s T i1 0 12)):=by
 have w1:=qal ((lv:Int)+1) (by omega)
 have zp:=qav (s:=s) (a:=0) (c:=12) h hb
 have zt:=qaI (s:=s) (a:=0) (c:=12) h hb hT
 simp only[PS,pO,ptk,ptD,qao hb] at zp zt
 have y0:=qaK (s:=s) (a:=0) (c:=12) h hb (qai [ifT] true) (by simp) (by decide)
 have q0:qeK≠ifT:=by decide
 simp only[hm,List.mem_singleton,q0,decide_false] at y0
 simp only[PS,pO,ifT,qaZ,List.map_cons,List.map_nil,List.length_singleton] at y0
 have y1:=qaK (s:=s) (a:=0) (c:=12) h hb (qai [qa0] true) (by simp) (by decide)
 have q1:qeK≠qa0:=by decide
 simp only[hm,List.mem_singleton,q1,decide_false] at y1
 simp only[PS,pO,qa0,qaZ,List.map_cons,List.map_nil,List.length_singleton] at y1
 have y2:=qaK (s:=s) (a:=0) (c:=12) h hb (qai [qaM] true) (by simp) (by decide)
 have q2:qeK≠qaM:=by decide
 simp only[hm,List.mem_singleton,q2,decide_false] at y2
 simp only[PS,pO,qaM,qaZ,List.map_cons,List.map_nil,List.length_singleton] at y2
 have y3:=qaK (s:=s) (a:=0) (c:=12) h hb (qai [qeK] true) (by simp) (by decide)
 simp only[hm,List.mem_singleton,decide_true] at y3
 simp only[PS,pO,qeK,qaZ,List.map_cons,List.map_nil,List.length_singleton] at y3
 simp only[PS,pO,cE,nv,List.cons_append,List.nil_append] at z1
 try simp only[Int.natCast_add,Int.cast_ofNat_Int] at zt z1
 refine qaa (pf:=F271) rfl rfl ?_
 simp[F271,zp,zt,w1,h1,h3,y0,y1,y2,y3,z1,qaf,qaC,qcX,qa8,qbw,qbS,qa9,still,V.same,List.range_succ]
theorem qrq (hlv:lv<=20) (hT:T.length<2 ^ 40) (h:T.drop i=t::r) (hb:t.bad=0) (h1:decide (kindT t=1)=false) (h3:decide (kindT t=3)=false) (n0:t.s≠ifT) (n1:t.s≠qa0) (n2:t.s≠qaM) (n3:t.s≠qeK):Z tP (.call 271 [.ptr 0 0,.int lv] (PS s T i 0 12))=some (.ret (qbj 12) (PS s T i t.at_ 12)):=by
 have w1:=qal ((lv:Int)+1) (by omega)
 have zp:=qav (s:=s) (a:=0) (c:=12) h hb
 have zt:=qaI (s:=s) (a:=0) (c:=12) h hb hT
 simp only[PS,pO,ptk,ptD,qao hb] at zp zt
 have y0:=qaK (s:=s) (a:=0) (c:=12) h hb (qai [ifT] true) (by simp) (by decide)
 simp only[List.mem_singleton,n0,decide_false] at y0
 simp only[PS,pO,ifT,qaZ,List.map_cons,List.map_nil,List.length_singleton] at y0
 have y1:=qaK (s:=s) (a:=0) (c:=12) h hb (qai [qa0] true) (by simp) (by decide)
 simp only[List.mem_singleton,n1,decide_false] at y1
 simp only[PS,pO,qa0,qaZ,List.map_cons,List.map_nil,List.length_singleton] at y1
 have y2:=qaK (s:=s) (a:=0) (c:=12) h hb (qai [qaM] true) (by simp) (by decide)
 simp only[List.mem_singleton,n2,decide_false] at y2
 simp only[PS,pO,qaM,qaZ,List.map_cons,List.map_nil,List.length_singleton] at y2
 have y3:=qaK (s:=s) (a:=0) (c:=12) h hb (qai [qeK] true) (by simp) (by decide)
 simp only[List.mem_singleton,n3,decide_false] at y3
 simp only[PS,pO,qeK,qaZ,List.map_cons,List.map_nil,List.length_singleton] at y3
 have zf:=qfF (s:=s) (T:=T) (i:=i) (a:=0) (c:=12) (k:=kindT t) (x:=t.s) (at_:=t.at_) (v:=valT t) (e:=t.bad) (c':=12)
 simp only[PS,pO,ptD] at zf
 refine qaa (pf:=F271) rfl rfl ?_
 simp[F271,zp,zt,w1,h1,h3,y0,y1,y2,y3,zf,qaf,List.range_succ]
theorem qth (h:T.drop i=t::r) (hb:t.bad≠0):Z tP (.call 271 [.ptr 0 0,.int lv] (PS s T i 0 12))=some (.ret (qbj t.bad) (PS s T i t.at_ t.bad)):=by
 have zp:=qd8 (s:=s) (a:=0) (c:=12) h hb
 simp only[PS,pO] at zp
 refine qaa (pf:=F271) rfl rfl ?_
 simp[F271,zp,qaf,List.range_succ]
end
end Go.Pm
end SKu
section SKv
namespace Go.Pm
open F
set_option maxHeartbeats 4000000
attribute [local simp] qbb qbP dkey
def qg3:ByteArray:=⟨#[101,108,115,101]⟩
abbrev cB (d:D):List D:=[.lit (.int .i64 7),.lit (.int .i64 0),.lit (.string ⟨#[]⟩),d]
section
variable {s:ByteArray} {T:List Tk} {lv i i1 i2 i3 i4:Nat} {e:E} {a c:Int} {t:Tk} {r:List Tk} {d d':D}
theorem qr7 (hlv:lv<=20)
  (z1:Z tP (.call 253 [.ptr 0 0,.str ifT] (PS s T i 0 12))=some (.ret (.tup []) (PS s T i1 0 12)))
  (z2:Z tP (.call 279 [.ptr 0 0,.int lv] (PS s T i1 0 12))=some (.ret (qbj c) (PS s T i2 a c))):Z tP (.call 281 [.ptr 0 0,.int lv] (PS s T i 0 12))=some (.ret (qbj c) (PS s T i2 a c)):=by
 have w1:=qal ((lv:Int)+1) (by omega)
 simp only[PS,pO,nv,ifT] at z1 z2
 try simp only[Int.natCast_add,Int.cast_ofNat_Int] at z1 z2
 refine qaa (pf:=F281) rfl rfl ?_
 simp[F281,w1,z1,z2,qaf,List.range_succ]
theorem qr8 (hlv:lv<=20)
  (z1:Z tP (.call 253 [.ptr 0 0,.str ifT] (PS s T i 0 12))=some (.ret (.tup []) (PS s T i1 0 12)))
  (z2:Z tP (.call 279 [.ptr 0 0,.int lv] (PS s T i1 0 12))=some (.ret e.node (PS s T i2 0 12)))
  (z3:Z tP (.call 256 [.ptr 0 0,.int ((lv+1:Nat):Int)] (PS s T i2 0 12))=some (.ret (qbj c) (PS s T i3 a c))):Z tP (.call 281 [.ptr 0 0,.int lv] (PS s T i 0 12))=some (.ret (qbj c) (PS s T i3 a c)):=by
 have w1:=qal ((lv:Int)+1) (by omega)
 simp only[PS,pO,nv,ifT] at z1 z2 z3
 try simp only[Int.natCast_add,Int.cast_ofNat_Int] at z1 z2 z3
 refine qaa (pf:=F281) rfl rfl ?_
 simp[F281,w1,z1,z2,z3,qaf,List.range_succ]
theorem qtG (hlv:lv<=20) (od:V.one (.dat d)=true) (oc:V.cells (.dat d)=[.dat d])
  (z1:Z tP (.call 253 [.ptr 0 0,.str ifT] (PS s T i 0 12))=some (.ret (.tup []) (PS s T i1 0 12)))
  (z2:Z tP (.call 279 [.ptr 0 0,.int lv] (PS s T i1 0 12))=some (.ret e.node (PS s T i2 0 12)))
  (z3:Z tP (.call 256 [.ptr 0 0,.int ((lv+1:Nat):Int)] (PS s T i2 0 12))=some (.ret (nv 7 ⟨#[]⟩ d) (PS s T i3 0 12))) (h:T.drop i3=t::r) (hb:t.bad≠0):Z tP (.call 281 [.ptr 0 0,.int lv] (PS s T i 0 12))=some (.ret (qbj t.bad) (PS s T i3 t.at_ t.bad)):=by
 have w1:=qal ((lv:Int)+1) (by omega)
 simp only[PS,pO,nv,ifT] at z1 z2 z3
 try simp only[Int.natCast_add,Int.cast_ofNat_Int] at z1 z2 z3
 have y:=qe2 (s:=s) (a:=0) (c:=12) h hb (qai [qg3] true)
 simp only[PS,pO,qg3,qaZ,List.map_cons,List.map_nil,List.length_singleton] at y
 refine qaa (pf:=F281) rfl rfl ?_
 simp[F281,w1,z1,z2,z3,y,od,oc,qaf,List.range_succ]
theorem qtH (hlv:lv<=20) (od:V.one (.dat d)=true) (oc:V.cells (.dat d)=[.dat d])
  (z1:Z tP (.call 253 [.ptr 0 0,.str ifT] (PS s T i 0 12))=some (.ret (.tup []) (PS s T i1 0 12)))
  (z2:Z tP (.call 279 [.ptr 0 0,.int lv] (PS s T i1 0 12))=some (.ret e.node (PS s T i2 0 12)))
  (z3:Z tP (.call 256 [.ptr 0 0,.int ((lv+1:Nat):Int)] (PS s T i2 0 12))=some (.ret (nv 7 ⟨#[]⟩ d) (PS s T i3 0 12))) (h:T.drop i3=t::r) (hb:t.bad=0) (hm:t.s≠qg3):Z tP (.call 281 [.ptr 0 0,.int lv] (PS s T i 0 12))=some (.ret (nv 3 ⟨#[]⟩ (.sl (cE e++cB d++cB (.lit (.slice none 0 0))) 3 true)) (PS s T i3 0 12)):=by
 have w1:=qal ((lv:Int)+1) (by omega)
 simp only[PS,pO,nv,ifT] at z1 z2 z3
 try simp only[Int.natCast_add,Int.cast_ofNat_Int] at z1 z2 z3
 have y:=qaK (s:=s) (a:=0) (c:=12) h hb (qai [qg3] true) (by simp) (by decide)
 simp only[List.mem_singleton,hm,decide_false] at y
 simp only[PS,pO,qg3,qaZ,List.map_cons,List.map_nil,List.length_singleton] at y
 refine qaa (pf:=F281) rfl rfl ?_
 simp[F281,w1,z1,z2,z3,y,od,oc,qaf,List.range_succ]
theorem qr9 (hlv:lv<=20) (od:V.one (.dat d)=true) (oc:V.cells (.dat d)=[.dat d])
  (z1:Z tP (.call 253 [.ptr 0 0,.str ifT] (PS s T i 0 12))=some (.ret (.tup []) (PS s T i1 0 12)))
  (z2:Z tP (.call 279 [.ptr 0 0,.int lv] (PS s T i1 0 12))=some (.ret e.node (PS s T i2 0 12)))
  (z3:Z tP (.call 256 [.ptr 0 0,.int ((lv+1:Nat):Int)] (PS s T i2 0 12))=some (.ret (nv 7 ⟨#[]⟩ d) (PS s T i3 0 12))) (hT:T.length<2 ^ 40) (h:T.drop i3=t::r) (hb:t.bad=0) (hm:t.s=qg3)
  (z4:Z tP (.call 256 [.ptr 0 0,.int ((lv+1:Nat):Int)] (PS s T ((i3+1:Nat):Int) 0 12))=some (.ret (qbj c) (PS s T i4 a c))):Z tP (.call 281 [.ptr 0 0,.int lv] (PS s T i 0 12))=some (.ret (qbj c) (PS s T i4 a c)):=by
 have w1:=qal ((lv:Int)+1) (by omega)
 simp only[PS,pO,nv,ifT] at z1 z2 z3
 try simp only[Int.natCast_add,Int.cast_ofNat_Int] at z1 z2 z3
 have y:=qaK (s:=s) (a:=0) (c:=12) h hb (qai [qg3] true) (by simp) (by decide)
 simp only[List.mem_singleton,hm,decide_true] at y
 simp only[PS,pO,qg3,qaZ,List.map_cons,List.map_nil,List.length_singleton] at y
 have zt:=qaI (s:=s) (a:=0) (c:=12) h hb hT
 simp only[PS,pO,ptk,ptD] at zt
 simp only[PS,pO,nv] at z4
 simp only[Int.natCast_add,Int.cast_ofNat_Int] at zt z4
 refine qaa (pf:=F281) rfl rfl ?_
 simp[F281,w1,z1,z2,z3,y,zt,z4,od,oc,qaf,List.range_succ]
theorem qtI (hlv:lv<=20) (od:V.one (.dat d)=true) (oc:V.cells (.dat d)=[.dat d])
  (z1:Z tP (.call 253 [.ptr 0 0,.str ifT] (PS s T i 0 12))=some (.ret (.tup []) (PS s T i1 0 12)))
  (z2:Z tP (.call 279 [.ptr 0 0,.int lv] (PS s T i1 0 12))=some (.ret e.node (PS s T i2 0 12)))
  (z3:Z tP (.call 256 [.ptr 0 0,.int ((lv+1:Nat):Int)] (PS s T i2 0 12))=some (.ret (nv 7 ⟨#[]⟩ d) (PS s T i3 0 12))) (od':V.one (.dat d')=true) (oc':V.cells (.dat d')=[.dat d']) (hT:T.length<2 ^ 40) (h:T.drop i3=t::r) (hb:t.bad=0) (hm:t.s=qg3)
  (z4:Z tP (.call 256 [.ptr 0 0,.int ((lv+1:Nat):Int)] (PS s T ((i3+1:Nat):Int) 0 12))=some (.ret (nv 7 ⟨#[]⟩ d') (PS s T i4 0 12))):Z tP (.call 281 [.ptr 0 0,.int lv] (PS s T i 0 12))=some (.ret (nv 3 ⟨#[]⟩ (.sl (cE e++cB d++cB d') 3 true)) (PS s T i4 0 12)):=by
 have w1:=qal ((lv:Int)+1) (by omega)
 simp only[PS,pO,nv,ifT] at z1 z2 z3
 try simp only[Int.natCast_add,Int.cast_ofNat_Int] at z1 z2 z3
 have y:=qaK (s:=s) (a:=0) (c:=12) h hb (qai [qg3] true) (by simp) (by decide)
 simp only[List.mem_singleton,hm,decide_true] at y
 simp only[PS,pO,qg3,qaZ,List.map_cons,List.map_nil,List.length_singleton] at y
 have zt:=qaI (s:=s) (a:=0) (c:=12) h hb hT
 simp only[PS,pO,ptk,ptD] at zt
 simp only[PS,pO,nv] at z4
 simp only[Int.natCast_add,Int.cast_ofNat_Int] at zt z4
 refine qaa (pf:=F281) rfl rfl ?_
 simp[F281,w1,z1,z2,z3,y,zt,z4,od',oc',od,oc,qaf,List.range_succ]
end
end Go.Pm
end SKv
section SKw
namespace Go.Pm
open F
set_option maxHeartbeats 4000000
attribute [local simp] qbb qbP dkey
def qoH (v:V) (σt:S) (cs:List D) (n:Nat):Prop:=(n=0/\cs=[]/\v = .dat (.lit (.slice none 0 0)) /\ σt=[])\/(n≠0/\cs.length=n*4/\v = .gsl cs n 4 5 /\ σt=[.tip cs.length])
abbrev bzF (lv:Nat):Fr:=[(0,.ptr 0 0),(1,.int lv),(4,.ptr 3 0),(5,.ptr 4 0)]
abbrev bzS (s:ByteArray) (T:List Tk) (i a c:Int) (v:V) (σt:S):S:=PS s T i a c++(nd0 :: .cells [.int 7,.int 0,.str ⟨#[]⟩,v] :: σt)
def qlc:ByteArray:=⟨#[125]⟩
section
variable {s:ByteArray} {T:List Tk} {lv i i' i1 i2:Nat} {a c:Int} {t:Tk} {r:List Tk} {d:D} {v:V} {σt:S} {cs:List D} {n:Nat}
theorem qsn (h:T.drop i=t::r) (hb:t.bad=0) (hm:t.s=qlc) (hr:qoH v σt cs n):Z tP (.loop 3 F256l0 (bzF lv) (bzS s T i 0 12 v σt))=some (.out (.exit 0) (bzF lv++[(13,.bool false)]) (bzS s T i 0 12 v σt)):=by
 have y:=qaK (s:=s) (a:=0) (c:=12) h hb (qai [qlc] true) (by simp) (by decide)
 simp only[List.mem_singleton,hm,decide_true] at y
 simp only[PS,pO,qlc,qaZ,List.map_cons,List.map_nil,List.length_singleton] at y
 rw[qae]
 rcases hr with ⟨rfl,rfl,rfl,rfl⟩ | ⟨h0,h1,rfl,rfl⟩<;>simp[qag,qdC,y,List.range_succ]
theorem qso (h:T.drop i=t::r) (hb:t.bad≠0) (hr:qoH v σt cs n) : ∃ fr,fr.get 1000000=none/\Z tP (.loop 3 F256l0 (bzF lv) (bzS s T i 0 12 v σt))=some (.out (.pan (.iface 1 (.int t.bad))) fr (bzS s T i t.at_ t.bad v σt)):=by
 have y:=qe2 (s:=s) (a:=0) (c:=12) h hb (qai [qlc] true)
 simp only[PS,pO,qlc,qaZ,List.map_cons,List.map_nil,List.length_singleton] at y
 refine⟨(11,.dat (.sl [.lit (.string ⟨#[125]⟩)] 1 true))::(10,.ptr 0 0)::bzF lv,by simp[Fr.get],?_⟩
 rw[qae]
 rcases hr with ⟨rfl,rfl,rfl,rfl⟩ | ⟨h0,h1,rfl,rfl⟩<;>simp[qag,qdC,y,qaf,List.range_succ]
theorem qoI (h:T.drop i=t::r) (hb:t.bad=0) (hm:t.s≠qlc) (hr:qoH v σt cs n) (hn:n<=2 ^ 40) {k:Int} {x:ByteArray} (od:V.one (.dat d)=true) (oc:V.cells (.dat d)=[.dat d])
  (z:Z tP (.call 271 [.ptr 0 0,.int lv] (PS s T i 0 12))=some (.ret (nv k x d) (PS s T i' 0 12))) :
  ∃ v' σt',qoH v' σt' (cs++[.lit (.int .i64 k),.lit (.int .i64 0),.lit (.string x),d]) (n+1)/\Z tP (.loop 3 F256l0 (bzF lv) (bzS s T i 0 12 v σt))=Z tP (.loop 3 F256l0 (bzF lv) (bzS s T i' 0 12 v' σt')):=by
 have y:=qaK (s:=s) (a:=0) (c:=12) h hb (qai [qlc] true) (by simp) (by decide)
 have hroom:qa6 (n+1) 56=true:=by simp only[qa6,decide_eq_true_eq]; omega
 simp only[List.mem_singleton,hm,decide_false] at y
 simp only[PS,pO,qlc,qaZ,List.map_cons,List.map_nil,List.length_singleton] at y
 simp only[PS,pO,nv] at z
 refine⟨.gsl (cs++[.lit (.int .i64 k),.lit (.int .i64 0),.lit (.string x),d]) (n+1) 4 5,[.tip (cs++[.lit (.int .i64 k),.lit (.int .i64 0),.lit (.string x),d]).length],.inr ⟨by omega,?_,rfl,rfl⟩,?_⟩
 ·rcases hr with ⟨rfl,rfl,_,_⟩ | ⟨_,h1,_,_⟩
  ·simp
  ·simp[h1]; omega
 ·conv=>lhs; rw[qae]
  rcases hr with ⟨rfl,rfl,rfl,rfl⟩ | ⟨h0,h1,rfl,rfl⟩
  ·have hr1:qa6 1 56=true:=by decide
   simp[qag,qdC,y,z,od,oc,hr1,qcv,ql0,qcX,qa8,qbw,qbS,qa9,still,V.same,List.range_succ]
   try exact qbZ (by simp[List.range_succ])
  ·simp[qag,qdC,y,z,od,oc,hroom,h0,h1,qcv,ql0,qcX,qa8,qbw,qbS,qa9,still,V.same,List.range_succ]
   try exact qbZ (by simp[List.range_succ])
theorem qsp (h:T.drop i=t::r) (hb:t.bad=0) (hm:t.s≠qlc) (hr:qoH v σt cs n)
  (z:Z tP (.call 271 [.ptr 0 0,.int lv] (PS s T i 0 12))=some (.ret (qbj c) (PS s T i' a c))) :
  Z tP (.loop 3 F256l0 (bzF lv) (bzS s T i 0 12 v σt))=some (.out (.pan (.iface 1 (.int c))) [] (bzS s T i' a c v σt)):=by
 have y:=qaK (s:=s) (a:=0) (c:=12) h hb (qai [qlc] true) (by simp) (by decide)
 simp only[List.mem_singleton,hm,decide_false] at y
 simp only[PS,pO,qlc,qaZ,List.map_cons,List.map_nil,List.length_singleton] at y
 simp only[PS,pO] at z
 rw[qae]
 rcases hr with ⟨rfl,rfl,rfl,rfl⟩ | ⟨h0,h1,rfl,rfl⟩<;>simp[qag,qdC,y,z,qaf,qaC,qcX,qa8,qbw,qbS,qa9,still,V.same,List.range_succ]
theorem qqF (zo:Z tP (.call 270 [.ptr 0 0,.str ⟨#[123]⟩,.int lv] (PS s T i 0 12))=some (.ret (qbj c) (PS s T i1 a c))):Z tP (.call 256 [.ptr 0 0,.int lv] (PS s T i 0 12))=some (.ret (qbj c) (PS s T i1 a c)):=by
 simp only[PS,pO] at zo
 refine qaa (pf:=F256) rfl rfl ?_
 simp[F256,zo,qaf,List.range_succ]
theorem qsq (zo:Z tP (.call 270 [.ptr 0 0,.str ⟨#[123]⟩,.int lv] (PS s T i 0 12))=some (.ret (.tup []) (PS s T i1 0 12))) {fr:Fr} (hf:fr.get 1000000=none)
  (zl:Z tP (.loop 3 F256l0 (bzF lv) (bzS s T i1 0 12 (.dat (.lit (.slice none 0 0))) []))=some (.out (.pan (.iface 1 (.int c))) fr (bzS s T i2 a c v σt))):Z tP (.call 256 [.ptr 0 0,.int lv] (PS s T i 0 12))=some (.ret (qbj c) (PS s T i2 a c)):=by
 simp only[PS,pO,bzS,List.cons_append,List.nil_append] at zo zl
 refine qaa (pf:=F256) rfl rfl ?_
 simp[F256,zo,zl,hf,qaf,List.range_succ]
theorem qtP (hT:T.length<2 ^ 40) (zo:Z tP (.call 270 [.ptr 0 0,.str ⟨#[123]⟩,.int lv] (PS s T i 0 12))=some (.ret (.tup []) (PS s T i1 0 12))) (hr:qoH v σt cs n)
  (zl:Z tP (.loop 3 F256l0 (bzF lv) (bzS s T i1 0 12 (.dat (.lit (.slice none 0 0))) []))=some (.out (.exit 0) (bzF lv++[(13,.bool false)]) (bzS s T i2 0 12 v σt)))
  (h:T.drop i2=t::r) (hb:t.bad=0) (hm:t.s=qlc):Z tP (.call 256 [.ptr 0 0,.int lv] (PS s T i 0 12))=some (.ret (nv 7 ⟨#[]⟩ (kd false n cs)) (PS s T ((i2+1:Nat):Int) 0 12)):=by
 have zx:=qfO (s:=s) (a:=0) (c:=12) h hb hT (by rw[hm]; decide)
 rw[hm] at zx
 simp only[PS,pO,qlc,Int.natCast_add,Int.cast_ofNat_Int] at zx
 simp only[PS,pO,bzS,List.cons_append,List.nil_append] at zo zl
 refine qaa (pf:=F256) rfl rfl ?_
 rcases hr with ⟨rfl,rfl,rfl,rfl⟩ | ⟨h0,h1,rfl,rfl⟩
 ·simp[F256,zo,zl,zx,List.range_succ]
 ·obtain⟨m,rfl⟩ : ∃ m,n=m+1:=⟨n-1,by omega⟩
  simp[F256,zo,zl,zx,List.range_succ]
end
end Go.Pm
end SKw
