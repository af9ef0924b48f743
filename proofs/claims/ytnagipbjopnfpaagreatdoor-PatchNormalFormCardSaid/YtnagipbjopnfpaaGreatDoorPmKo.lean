/- Chapter 13's parser: comparisons. -/
import Derived.Test.YtnagipbjopnfpaaGreatDoorPmAL
import Derived.Test.YtnagipbjopnfpaaGreatDoorPmOj
import Derived.Test.YtnagipbjopnfpaaGreatDoorPmTi
import Derived.Test.YtnagipbjopnfpaaGreatDoorPmJc
import Derived.Test.YtnagipbjopnfpaaGreatDoorPmDj
import Derived.Test.YtnagipbjopnfpaaGreatDoorPmR1
import Derived.KernelRfl
set_option linter.unusedSimpArgs false
set_option linter.unusedVariables false
set_option maxHeartbeats 4000000
namespace Go.Pm
section
open F
attribute [local simp] qbd qbU dkey
def qtn:List ByteArray:=[⟨#[60]⟩,⟨#[60,61]⟩,⟨#[62]⟩,⟨#[62,61]⟩,⟨#[61,61]⟩,⟨#[33,61]⟩]
theorem qto{y:ByteArray}{o:Bop}(h:qrN 4 y=some o):y=o.str/\y∈qtn:=by
 have h1:o.str=y:=by have:=List.find?_some h; simpa using this
 have h2:=List.mem_of_find?_eq_some h
 subst h1
 refine⟨rfl,?_⟩
 simp only[Wo,Wx,or_false] at h2
 rcases h2 with rfl|rfl|rfl|rfl|rfl|rfl<;>decide
theorem qtp{y:ByteArray}(h:qrN 4 y=none):y∉qtn:=by
 have h2:=YL.1 h
 intro hm
 simp only[qtn,Wo,Wx,or_false] at hm
 simp only[Wo,Wx,or_false] at h2
 rcases hm with rfl|rfl|rfl|rfl|rfl|rfl
 ·exact h2 .lt (by simp) (by decide)
 ·exact h2 .le (by simp) (by decide)
 ·exact h2 .gt (by simp) (by decide)
 ·exact h2 .ge (by simp) (by decide)
 ·exact h2 .eq (by simp) (by decide)
 ·exact h2 .ne (by simp) (by decide)
section
variable{s:ByteArray}{T:List Tk}{lv i i' i2:Nat}{e e':E}{a c:Int}{t:Tk}{r:List Tk}
theorem qB7(z:Z tP (.call 297 [.ptr 0 0,.int lv] (PS s T i 0 12))=some (.ret e.node (PS s T i' 0 12)))(h:T.drop i'=t::r)(hb:t.bad=0)(hm:t.s∉qtn):Z tP (.call 292 [.ptr 0 0,.int lv] (PS s T i 0 12))=some (.ret e.node (PS s T i' 0 12)):=by
 have zi:=qci (s:=s) (a:=0) (c:=12) h hb (qaN qtn true) (by decide) (by decide)
 simp only[PS,pO] at z
 simp only[hm,decide_false] at zi
 simp only[PS,pO,qtn,strC,Wv,WB,We,Wk] at zi
 refine qac (pf:=F292) rfl rfl ?_
 simp[F292,z,zi,Wa]
theorem qC1 (hT:T.length<2 ^ 40) (z:Z tP (.call 297 [.ptr 0 0,.int lv] (PS s T i 0 12))=some (.ret e.node (PS s T i' 0 12))) (h:T.drop i'=t::r) (hb:t.bad=0) (hm:t.s∈qtn) {o:Bop} (hs:t.s=o.str)
  (z2:Z tP (.call 297 [.ptr 0 0,.int lv] (PS s T ((i'+1:Nat):Int) 0 12))=some (.ret e'.node (PS s T i2 0 12))):Z tP (.call 292 [.ptr 0 0,.int lv] (PS s T i 0 12))=some (.ret (E.bin true o e e').node (PS s T i2 0 12)):=by
 have zi:=qci (s:=s) (a:=0) (c:=12) h hb (qaN qtn true) (by decide) (by decide)
 have zt:=qcj (s:=s) (a:=0) (c:=12) h hb hT
 have htx:=qaW hb
 simp only[PS,pO] at z z2
 simp only[hm,decide_true] at zi
 simp only[PS,pO,qtn,strC,Wv,WB,We,Wk] at zi
 simp only[PS,pO,ptk,ptD,htx,hs] at zt
 simp only[WE,Wt] at z2 zt
 refine qac (pf:=F292) rfl rfl ?_
 simp[F292,z,zi,zt,z2,qcd,qaP,qcT,qeG,qdM,still,V.same,Wa]
 try rfl
end
end
section
open F
attribute [local simp] qbd qbU dkey
def unF(neg:Bool):Nat:=if neg then 308 else 290
def unG(neg:Bool):Nat:=if neg then 309 else 292
section
variable{s:ByteArray}{T:List Tk}{lv i i' i2:Nat}{e e':E}{a c:Int}{t:Tk}{r:List Tk}{neg:Bool}
theorem qCF(h:T.drop i=t::r)(hb:t.bad=0)(hm:t.s≠ustr neg)(z:Z tP (.call (unG neg) [.ptr 0 0,.int lv] (PS s T i 0 12))=some (.ret e.node (PS s T i' 0 12))):Z tP (.call (unF neg) [.ptr 0 0,.int lv] (PS s T i 0 12))=some (.ret e.node (PS s T i' 0 12)):=by
 have zi:=qci (s:=s) (a:=0) (c:=12) h hb (qaN [ustr neg] true) (by simp) (by cases neg<;>decide)
 simp only[Wm,hm,decide_false] at zi
 simp only[PS,pO] at z
 cases neg
 ·simp only[unG,Wn,if_false] at z
  simp only[PS,pO,ustr,strC,Wv,WB,Ws,Wn,if_false] at zi
  refine qac (pf:=F290) rfl rfl ?_
  simp[F290,z,zi,Wa]
 ·simp only[unG,if_true] at z
  simp only[PS,pO,ustr,strC,Wv,WB,Ws,if_true] at zi
  refine qac (pf:=F308) rfl rfl ?_
  simp[F308,z,zi,Wa]
theorem qCZ (hlv:lv<=20) (h:T.drop i=t::r) (hb:t.bad=0) (hm:t.s=ustr neg) (zo:Z tP (.call 270 [.ptr 0 0,.str (ustr neg),.int ((lv+1:Nat):Int)] (PS s T i 0 12))=some (.ret (.tup []) (PS s T i' 0 12)))
  (z:Z tP (.call (unF neg) [.ptr 0 0,.int ((lv+1:Nat):Int)] (PS s T i' 0 12))=some (.ret e.node (PS s T i2 0 12))):Z tP (.call (unF neg) [.ptr 0 0,.int lv] (PS s T i 0 12))=some (.ret (E.un true neg e).node (PS s T i2 0 12)):=by
 have zi:=qci (s:=s) (a:=0) (c:=12) h hb (qaN [ustr neg] true) (by simp) (by cases neg<;>decide)
 have w1:=qai ((lv:Int)+1) (by omega)
 simp only[Wm,hm,decide_true] at zi
 simp only[PS,pO] at zo z
 simp only[WE,Wt] at zo z
 cases neg
 ·simp only[PS,pO,unF,ustr,strC,Wv,WB,Ws,Wn,if_false] at zi zo z
  refine qac (pf:=F290) rfl rfl ?_
  simp[F290,zo,zi,z,w1,Wa]
  rfl
 ·simp only[PS,pO,unF,ustr,strC,Wv,WB,Ws,if_true] at zi zo z
  refine qac (pf:=F308) rfl rfl ?_
  simp[F308,zo,zi,z,w1,Wa]
  rfl
end
end
section
open F
attribute [local simp] qbd qbU dkey
def qgU:ByteArray:=⟨#[116,114,117,101]⟩
def qeP:ByteArray:=⟨#[102,97,108,115,101]⟩
def qmm:List ByteArray:=[⟨#[115,101,108,102]⟩,⟨#[111,116,104,101,114]⟩,⟨#[116,105,99,107]⟩]
section
variable{s:ByteArray}{T:List Tk}{lv i i' i2 i3:Nat}{e e':E}{a c:Int}{t:Tk}{r:List Tk}
theorem qA7(hT:T.length<2 ^ 40)(h:T.drop i=t::r)(hb:t.bad=0)(hk:kindT t=4):Z tP (.call 309 [.ptr 0 0,.int lv] (PS s T i 0 12))=some (.ret (E.int (valT t)).node (PS s T ((i+1:Nat):Int) 0 12)):=by
 have zp:=qbT (s:=s) (a:=0) (c:=12) h hb
 have zt:=qcj (s:=s) (a:=0) (c:=12) h hb hT
 simp only[PS,pO,ptk,ptD,hk] at zp zt
 refine qac (pf:=F309) rfl rfl ?_
 simp[F309,zp,zt,Wa]
 try rfl
theorem qA8(hT:T.length<2 ^ 40)(h:T.drop i=t::r)(hb:t.bad=0)(hk:kindT t=1):Z tP (.call 309 [.ptr 0 0,.int lv] (PS s T i 0 12))=some (.ret (E.var t.s).node (PS s T ((i+1:Nat):Int) 0 12)):=by
 have zp:=qbT (s:=s) (a:=0) (c:=12) h hb
 have zt:=qcj (s:=s) (a:=0) (c:=12) h hb hT
 simp only[PS,pO,ptk,ptD,hk,qaW hb] at zp zt
 refine qac (pf:=F309) rfl rfl ?_
 simp[F309,zp,zt,Wa]
 try rfl
theorem qA9(h:T.drop i=t::r)(hb:t.bad=0)(hk:kindT t=3)(z:Z tP (.call 280 [.ptr 0 0,.int lv] (PS s T i 0 12))=some (.ret e.node (PS s T i' 0 12))):Z tP (.call 309 [.ptr 0 0,.int lv] (PS s T i 0 12))=some (.ret (E.field true t.s e).node (PS s T i' 0 12)):=by
 have zp:=qbT (s:=s) (a:=0) (c:=12) h hb
 simp only[PS,pO,ptk,ptD,hk,qaW hb] at zp z
 refine qac (pf:=F309) rfl rfl ?_
 simp[F309,zp,z,qcd,qaP,qcT,qeG,qdM,still,V.same,Wa]
 try rfl
theorem qyc(hT:T.length<2 ^ 40)(h:T.drop i=t::r)(hb:t.bad=0)(hk:kindT t=2)(hm:t.s=qgU):Z tP (.call 309 [.ptr 0 0,.int lv] (PS s T i 0 12))=some (.ret (E.bool 1).node (PS s T ((i+1:Nat):Int) 0 12)):=by
 have zp:=qbT (s:=s) (a:=0) (c:=12) h hb
 have zt:=qcj (s:=s) (a:=0) (c:=12) h hb hT
 have z1:=qci (s:=s) (a:=0) (c:=12) h hb (qaN [qgU] true) (by simp) (by decide)
 simp only[hm,Wm,decide_true] at z1
 simp only[PS,pO,ptk,ptD,hk] at zp zt
 simp only[PS,pO,qgU,strC,Wv,WB,Ws] at z1
 refine qac (pf:=F309) rfl rfl ?_
 simp[F309,zp,zt,z1,Wa]
 try rfl
theorem quX(hT:T.length<2 ^ 40)(h:T.drop i=t::r)(hb:t.bad=0)(hk:kindT t=2)(hm:t.s=qeP):Z tP (.call 309 [.ptr 0 0,.int lv] (PS s T i 0 12))=some (.ret (E.bool 0).node (PS s T ((i+1:Nat):Int) 0 12)):=by
 have zp:=qbT (s:=s) (a:=0) (c:=12) h hb
 have zt:=qcj (s:=s) (a:=0) (c:=12) h hb hT
 have z1:=qci (s:=s) (a:=0) (c:=12) h hb (qaN [qgU] true) (by simp) (by decide)
 have z2:=qci (s:=s) (a:=0) (c:=12) h hb (qaN [qeP] true) (by simp) (by decide)
 have hne:qeP≠qgU:=by decide
 simp only[hm,Wm,hne,decide_false,decide_true] at z1 z2
 simp only[PS,pO,ptk,ptD,hk] at zp zt
 simp only[PS,pO,qgU,qeP,strC,Wv,WB,Ws] at z1 z2
 refine qac (pf:=F309) rfl rfl ?_
 simp[F309,zp,zt,z1,z2,Wa]
 try rfl
theorem qyd(hT:T.length<2 ^ 40)(h:T.drop i=t::r)(hb:t.bad=0)(hk:kindT t=2)(hm:t.s∈qmm):Z tP (.call 309 [.ptr 0 0,.int lv] (PS s T i 0 12))=some (.ret (E.name t.s).node (PS s T ((i+1:Nat):Int) 0 12)):=by
 have zp:=qbT (s:=s) (a:=0) (c:=12) h hb
 have zt:=qcj (s:=s) (a:=0) (c:=12) h hb hT
 have z1:=qci (s:=s) (a:=0) (c:=12) h hb (qaN [qgU] true) (by simp) (by decide)
 have z2:=qci (s:=s) (a:=0) (c:=12) h hb (qaN [qeP] true) (by simp) (by decide)
 have z3:=qci (s:=s) (a:=0) (c:=12) h hb (qaN qmm true) (by decide) (by decide)
 have n1:t.s≠qgU:=fun e=>absurd (e ▸ hm) (by decide)
 have n2:t.s≠qeP:=fun e=>absurd (e ▸ hm) (by decide)
 simp only[hm,Wm,n1,n2,decide_false,decide_true] at z1 z2 z3
 simp only[PS,pO,ptk,ptD,hk,qaW hb] at zp zt
 simp only[PS,pO,qgU,qeP,qmm,strC,Wv,WB,We,Wk] at z1 z2 z3
 refine qac (pf:=F309) rfl rfl ?_
 simp[F309,zp,zt,z1,z2,z3,Wa]
 try rfl
end
end
section
open F
attribute [local simp] qbd qbU dkey
section
variable{s:ByteArray}{T:List Tk}{lv i i' i2 i3:Nat}{e:E}{a c:Int}{t:Tk}{r:List Tk}
theorem qBJ (hlv:lv<=20) (h:T.drop i=t::r) (hb:t.bad=0) (h4:decide (kindT t=4)=false) (h1:decide (kindT t=1)=false) (h3:decide (kindT t=3)=false) (n1:t.s≠qgU) (n2:t.s≠qeP) (n3:t.s∉qmm)
  (zo:Z tP (.call 270 [.ptr 0 0,.str ⟨#[40]⟩,.int ((lv+1:Nat):Int)] (PS s T i 0 12))=some (.ret (.tup []) (PS s T i' 0 12)))
  (ze:Z tP (.call 279 [.ptr 0 0,.int ((lv+1:Nat):Int)] (PS s T i' 0 12))=some (.ret e.node (PS s T i2 0 12)))
  (zc:Z tP (.call 253 [.ptr 0 0,.str ⟨#[41]⟩] (PS s T i2 0 12))=some (.ret (.tup []) (PS s T i3 0 12))):Z tP (.call 309 [.ptr 0 0,.int lv] (PS s T i 0 12))=some (.ret e.node (PS s T i3 0 12)):=by
 have w1:=qai ((lv:Int)+1) (by omega)
 have zp:=qbT (s:=s) (a:=0) (c:=12) h hb
 have z1:=qci (s:=s) (a:=0) (c:=12) h hb (qaN [qgU] true) (by simp) (by decide)
 have z2:=qci (s:=s) (a:=0) (c:=12) h hb (qaN [qeP] true) (by simp) (by decide)
 have z3:=qci (s:=s) (a:=0) (c:=12) h hb (qaN qmm true) (by decide) (by decide)
 simp only[Wm,n1,n2,n3,decide_false] at z1 z2 z3
 simp only[PS,pO,ptk,ptD,qaW hb] at zp
 simp only[PS,pO,qgU,qeP,qmm,strC,Wv,WB,We,Wk] at z1 z2 z3
 simp only[PS,pO] at zo ze zc
 simp only[WE,Wt] at zo ze
 refine qac (pf:=F309) rfl rfl ?_
 simp[F309,zp,z1,z2,z3,h4,h1,h3,w1,zo,ze,zc,qba,Wa]
theorem qBK (hlv:lv<=20) (hT:T.length<2 ^ 40) (h:T.drop i=t::r) (hb:t.bad=0)
  (zo:Z tP (.call 270 [.ptr 0 0,.str ⟨#[91]⟩,.int ((lv+1:Nat):Int)] (PS s T ((i+1:Nat):Int) 0 12))=some (.ret (.tup []) (PS s T i' 0 12)))
  (ze:Z tP (.call 279 [.ptr 0 0,.int ((lv+1:Nat):Int)] (PS s T i' 0 12))=some (.ret e.node (PS s T i2 0 12)))
  (zc:Z tP (.call 253 [.ptr 0 0,.str ⟨#[93]⟩] (PS s T i2 0 12))=some (.ret (.tup []) (PS s T i3 0 12))):Z tP (.call 280 [.ptr 0 0,.int lv] (PS s T i 0 12))=some (.ret e.node (PS s T i3 0 12)):=by
 have w1:=qai ((lv:Int)+1) (by omega)
 have zt:=qcj (s:=s) (a:=0) (c:=12) h hb hT
 simp only[PS,pO,ptk,ptD] at zt
 simp only[WE,Wt] at zt
 simp only[PS,pO] at zo ze zc
 simp only[WE,Wt] at zo ze
 refine qac (pf:=F280) rfl rfl ?_
 simp[F280,zt,w1,zo,ze,zc,qba,Wa]
end
end
section
open F
def qkw(w:ByteArray):Int:=if w=⟨#[]⟩ then 0 else if qaX qaQ w then (if w∈fieldNames then 3 else if w∈wordNames then 2 else 1) else if qaX qaq w then 4 else 5
theorem qcC{t:Tk}(hb:t.bad=0):kindT t=qkw t.s:=by unfold kindT qkw; rw[if_neg (by simp[hb])]
theorem qqc(w:ByteArray):qaX qaq w=true->w≠⟨#[]⟩/\qaX qaQ w=false:=by
 rw[qbw,qbw]
 intro h
 refine⟨?_,?_⟩
 ·rintro rfl
  exact absurd h (by decide)
 ·cases hh:(byl w).head? with
  |none=>rfl
  |some c=>
   rw[hh] at h
   simp only at h ⊢
   by_cases hl:qaQ c=true
   ·rw[qp0 hl] at h; cases h
   ·simpa using hl
theorem qgr{w:ByteArray}(h:qaX qaQ w=true):w≠⟨#[]⟩:=by
 rintro rfl
 exact absurd h (by decide)
end
section
open F
attribute [local simp] qbd qbU dkey
def ifT:ByteArray:=⟨#[105,102]⟩
def qfF:ByteArray:=⟨#[119,104,105,108,101]⟩
def qeN:ByteArray:=⟨#[101,102,102,101,99,116]⟩
def qos:ByteArray:=⟨#[115,116,111,112]⟩
abbrev nv(k:Int)(x:ByteArray)(d:D):V := .dat (.agg [.lit (.int .i64 k),.lit (.int .i64 0),.lit (.string x),d])
abbrev cE(e:E):List D:=[.lit (.int .i64 e.kind),.lit (.int .i64 e.num),.lit (.string e.str),e.kids]
section
variable{s:ByteArray}{T:List Tk}{lv i i1 i2 i3 i4:Nat}{e e':E}{a c:Int}{t:Tk}{r:List Tk}{d:D}
theorem qA5{k:Int}{x:ByteArray}(o:V.one (.dat d)=true)(oc:V.cells (.dat d)=[.dat d])(z:Z tP (.call 253 [.ptr 0 0,.str ⟨#[59]⟩] (PS s T i 0 12))=some (.ret (.tup []) (PS s T i1 0 12))):Z tP (.call 278 [.ptr 0 0,nv k x d] (PS s T i 0 12))=some (.ret (nv k x d) (PS s T i1 0 12)):=by
 simp only[PS,pO] at z
 refine qac (pf:=F278) rfl rfl ?_
 simp[F278,z,o,oc,Wa]
theorem qmk (hlv:lv<=20) (hT:T.length<2 ^ 40) (h:T.drop i=t::r) (hb:t.bad=0) (hk:kindT t=1)
  (z1:Z tP (.call 253 [.ptr 0 0,.str ⟨#[61]⟩] (PS s T ((i+1:Nat):Int) 0 12))=some (.ret (.tup []) (PS s T i1 0 12)))
  (z2:Z tP (.call 279 [.ptr 0 0,.int lv] (PS s T i1 0 12))=some (.ret (e).node (PS s T i2 0 12)))
  (z3:Z tP (.call 278 [.ptr 0 0,nv 1 t.s (.sl (cE e) 1 true)] (PS s T i2 0 12))=some (.ret (nv 1 t.s (.sl (cE e) 1 true)) (PS s T i3 0 12))):Z tP (.call 271 [.ptr 0 0,.int lv] (PS s T i 0 12))=some (.ret (nv 1 t.s (.sl (cE e) 1 true)) (PS s T i3 0 12)):=by
 have w1:=qai ((lv:Int)+1) (by omega)
 have zp:=qbT (s:=s) (a:=0) (c:=12) h hb
 have zt:=qcj (s:=s) (a:=0) (c:=12) h hb hT
 simp only[PS,pO,ptk,ptD,hk,qaW hb] at zp zt
 simp only[PS,pO,cE,nv,Wg,Wc] at z1 z2 z3
 try simp only[WE,Wt] at zt z1 z2 z3
 refine qac (pf:=F271) rfl rfl ?_
 simp[F271,zp,zt,w1,z1,z2,z3,qba,qbu,qcd,qaP,qcT,qeG,qdM,still,V.same,Wa]
theorem qot (hlv:lv<=20) (hT:T.length<2 ^ 40) (h:T.drop i=t::r) (hb:t.bad=0) (hk:kindT t=3)
  (z1:Z tP (.call 280 [.ptr 0 0,.int lv] (PS s T i 0 12))=some (.ret e.node (PS s T i1 0 12)))
  (z2:Z tP (.call 253 [.ptr 0 0,.str ⟨#[61]⟩] (PS s T i1 0 12))=some (.ret (.tup []) (PS s T i2 0 12)))
  (z3:Z tP (.call 279 [.ptr 0 0,.int lv] (PS s T i2 0 12))=some (.ret (e').node (PS s T i3 0 12)))
  (z4:Z tP (.call 278 [.ptr 0 0,nv 2 t.s (.sl (cE e++cE e') 2 true)] (PS s T i3 0 12))=some (.ret (nv 2 t.s (.sl (cE e++cE e') 2 true)) (PS s T i4 0 12))):Z tP (.call 271 [.ptr 0 0,.int lv] (PS s T i 0 12))=some (.ret (nv 2 t.s (.sl (cE e++cE e') 2 true)) (PS s T i4 0 12)):=by
 have w1:=qai ((lv:Int)+1) (by omega)
 have zp:=qbT (s:=s) (a:=0) (c:=12) h hb
 have zt:=qcj (s:=s) (a:=0) (c:=12) h hb hT
 simp only[PS,pO,ptk,ptD,hk,qaW hb] at zp zt
 simp only[PS,pO,cE,nv,Wg,Wc] at z1 z2 z3 z4
 try simp only[WE,Wt] at zt z1 z2 z3 z4
 refine qac (pf:=F271) rfl rfl ?_
 simp[F271,zp,zt,w1,z1,z2,z3,z4,qba,qbu,qcd,qaP,qcT,qeG,qdM,still,V.same,Wa]
theorem qpM (hlv:lv<=20) (hT:T.length<2 ^ 40) (h:T.drop i=t::r) (hb:t.bad=0) (h1:decide (kindT t=1)=false) (h3:decide (kindT t=3)=false) (hm:t.s=ifT) (od:V.one (.dat d)=true) (oc:V.cells (.dat d)=[.dat d])
  (z1:Z tP (.call 281 [.ptr 0 0,.int lv] (PS s T i 0 12))=some (.ret (nv 3 ⟨#[]⟩ d) (PS s T i1 0 12))):Z tP (.call 271 [.ptr 0 0,.int lv] (PS s T i 0 12))=some (.ret (nv 3 ⟨#[]⟩ d) (PS s T i1 0 12)):=by
 have w1:=qai ((lv:Int)+1) (by omega)
 have zp:=qbT (s:=s) (a:=0) (c:=12) h hb
 have zt:=qcj (s:=s) (a:=0) (c:=12) h hb hT
 simp only[PS,pO,ptk,ptD,qaW hb] at zp zt
 have y0:=qci (s:=s) (a:=0) (c:=12) h hb (qaN [ifT] true) (by simp) (by decide)
 simp only[hm,Wm,decide_true] at y0
 simp only[PS,pO,ifT,strC,Wv,WB,Ws] at y0
 simp only[PS,pO,cE,nv,Wg,Wc] at z1
 try simp only[WE,Wt] at zt z1
 refine qac (pf:=F271) rfl rfl ?_
 simp[F271,zp,zt,w1,h1,h3,y0,od,oc,z1,qba,qbu,qcd,qaP,qcT,qeG,qdM,still,V.same,Wa]
theorem qou (hlv:lv<=20) (hT:T.length<2 ^ 40) (h:T.drop i=t::r) (hb:t.bad=0) (h1:decide (kindT t=1)=false) (h3:decide (kindT t=3)=false) (hm:t.s=qfF) (od:V.one (.dat d)=true) (oc:V.cells (.dat d)=[.dat d])
  (z1:Z tP (.call 279 [.ptr 0 0,.int lv] (PS s T ((i+1:Nat):Int) 0 12))=some (.ret (e).node (PS s T i1 0 12)))
  (z2:Z tP (.call 256 [.ptr 0 0,.int ((lv+1:Nat):Int)] (PS s T i1 0 12))=some (.ret (nv 7 ⟨#[]⟩ d) (PS s T i2 0 12))):Z tP (.call 271 [.ptr 0 0,.int lv] (PS s T i 0 12))=some (.ret (nv 4 ⟨#[]⟩ (.sl (cE e++[.lit (.int .i64 7),.lit (.int .i64 0),.lit (.string ⟨#[]⟩),d]) 2 true)) (PS s T i2 0 12)):=by
 have w1:=qai ((lv:Int)+1) (by omega)
 have zp:=qbT (s:=s) (a:=0) (c:=12) h hb
 have zt:=qcj (s:=s) (a:=0) (c:=12) h hb hT
 simp only[PS,pO,ptk,ptD,qaW hb] at zp zt
 have y0:=qci (s:=s) (a:=0) (c:=12) h hb (qaN [ifT] true) (by simp) (by decide)
 have q0:qfF≠ifT:=by decide
 simp only[hm,Wm,q0,decide_false] at y0
 simp only[PS,pO,ifT,strC,Wv,WB,Ws] at y0
 have y1:=qci (s:=s) (a:=0) (c:=12) h hb (qaN [qfF] true) (by simp) (by decide)
 simp only[hm,Wm,decide_true] at y1
 simp only[PS,pO,qfF,strC,Wv,WB,Ws] at y1
 simp only[PS,pO,cE,nv,Wg,Wc] at z1 z2
 try simp only[WE,Wt] at zt z1 z2
 refine qac (pf:=F271) rfl rfl ?_
 simp[F271,zp,zt,w1,h1,h3,y0,y1,od,oc,z1,z2,qba,qbu,qcd,qaP,qcT,qeG,qdM,still,V.same,Wa]
theorem qml (hlv:lv<=20) (hT:T.length<2 ^ 40) (h:T.drop i=t::r) (hb:t.bad=0) (h1:decide (kindT t=1)=false) (h3:decide (kindT t=3)=false) (hm:t.s=qeN)
  (z1:Z tP (.call 279 [.ptr 0 0,.int lv] (PS s T ((i+1:Nat):Int) 0 12))=some (.ret (e).node (PS s T i1 0 12)))
  (z2:Z tP (.call 253 [.ptr 0 0,.str ⟨#[44]⟩] (PS s T i1 0 12))=some (.ret (.tup []) (PS s T i2 0 12)))
  (z3:Z tP (.call 279 [.ptr 0 0,.int lv] (PS s T i2 0 12))=some (.ret (e').node (PS s T i3 0 12)))
  (z4:Z tP (.call 278 [.ptr 0 0,nv 5 ⟨#[]⟩ (.sl (cE e++cE e') 2 true)] (PS s T i3 0 12))=some (.ret (nv 5 ⟨#[]⟩ (.sl (cE e++cE e') 2 true)) (PS s T i4 0 12))):Z tP (.call 271 [.ptr 0 0,.int lv] (PS s T i 0 12))=some (.ret (nv 5 ⟨#[]⟩ (.sl (cE e++cE e') 2 true)) (PS s T i4 0 12)):=by
 have w1:=qai ((lv:Int)+1) (by omega)
 have zp:=qbT (s:=s) (a:=0) (c:=12) h hb
 have zt:=qcj (s:=s) (a:=0) (c:=12) h hb hT
 simp only[PS,pO,ptk,ptD,qaW hb] at zp zt
 have y0:=qci (s:=s) (a:=0) (c:=12) h hb (qaN [ifT] true) (by simp) (by decide)
 have q0:qeN≠ifT:=by decide
 simp only[hm,Wm,q0,decide_false] at y0
 simp only[PS,pO,ifT,strC,Wv,WB,Ws] at y0
 have y1:=qci (s:=s) (a:=0) (c:=12) h hb (qaN [qfF] true) (by simp) (by decide)
 have q1:qeN≠qfF:=by decide
 simp only[hm,Wm,q1,decide_false] at y1
 simp only[PS,pO,qfF,strC,Wv,WB,Ws] at y1
 have y2:=qci (s:=s) (a:=0) (c:=12) h hb (qaN [qeN] true) (by simp) (by decide)
 simp only[hm,Wm,decide_true] at y2
 simp only[PS,pO,qeN,strC,Wv,WB,Ws] at y2
 simp only[PS,pO,cE,nv,Wg,Wc] at z1 z2 z3 z4
 try simp only[WE,Wt] at zt z1 z2 z3 z4
 refine qac (pf:=F271) rfl rfl ?_
 simp[F271,zp,zt,w1,h1,h3,y0,y1,y2,z1,z2,z3,z4,qba,qbu,qcd,qaP,qcT,qeG,qdM,still,V.same,Wa]
theorem qpN (hlv:lv<=20) (hT:T.length<2 ^ 40) (h:T.drop i=t::r) (hb:t.bad=0) (h1:decide (kindT t=1)=false) (h3:decide (kindT t=3)=false) (hm:t.s=qos)
  (z1:Z tP (.call 278 [.ptr 0 0,nv 6 ⟨#[]⟩ (.lit (.slice none 0 0))] (PS s T ((i+1:Nat):Int) 0 12))=some (.ret (nv 6 ⟨#[]⟩ (.lit (.slice none 0 0))) (PS s T i1 0 12))):Z tP (.call 271 [.ptr 0 0,.int lv] (PS s T i 0 12))=some (.ret (nv 6 ⟨#[]⟩ (.lit (.slice none 0 0))) (PS s T i1 0 12)):=by
 have w1:=qai ((lv:Int)+1) (by omega)
 have zp:=qbT (s:=s) (a:=0) (c:=12) h hb
 have zt:=qcj (s:=s) (a:=0) (c:=12) h hb hT
 simp only[PS,pO,ptk,ptD,qaW hb] at zp zt
 have y0:=qci (s:=s) (a:=0) (c:=12) h hb (qaN [ifT] true) (by simp) (by decide)
 have q0:qos≠ifT:=by decide
 simp only[hm,Wm,q0,decide_false] at y0
 simp only[PS,pO,ifT,strC,Wv,WB,Ws] at y0
 have y1:=qci (s:=s) (a:=0) (c:=12) h hb (qaN [qfF] true) (by simp) (by decide)
 have q1:qos≠qfF:=by decide
 simp only[hm,Wm,q1,decide_false] at y1
 simp only[PS,pO,qfF,strC,Wv,WB,Ws] at y1
 have y2:=qci (s:=s) (a:=0) (c:=12) h hb (qaN [qeN] true) (by simp) (by decide)
 have q2:qos≠qeN:=by decide
 simp only[hm,Wm,q2,decide_false] at y2
 simp only[PS,pO,qeN,strC,Wv,WB,Ws] at y2
 have y3:=qci (s:=s) (a:=0) (c:=12) h hb (qaN [qos] true) (by simp) (by decide)
 simp only[hm,Wm,decide_true] at y3
 simp only[PS,pO,qos,strC,Wv,WB,Ws] at y3
 simp only[PS,pO,cE,nv,Wg,Wc] at z1
 try simp only[WE,Wt] at zt z1
 refine qac (pf:=F271) rfl rfl ?_
 simp[F271,zp,zt,w1,h1,h3,y0,y1,y2,y3,z1,qba,qbu,qcd,qaP,qcT,qeG,qdM,still,V.same,Wa]
end
end
section
open F
attribute [local simp] qbd qbU dkey
def qo0:ByteArray:=⟨#[101,108,115,101]⟩
abbrev cB(d:D):List D:=[.lit (.int .i64 7),.lit (.int .i64 0),.lit (.string ⟨#[]⟩),d]
section
variable{s:ByteArray}{T:List Tk}{lv i i1 i2 i3 i4:Nat}{e:E}{a c:Int}{t:Tk}{r:List Tk}{d d':D}
theorem qBL (hlv:lv<=20) (od:V.one (.dat d)=true) (oc:V.cells (.dat d)=[.dat d])
  (z1:Z tP (.call 253 [.ptr 0 0,.str ifT] (PS s T i 0 12))=some (.ret (.tup []) (PS s T i1 0 12)))
  (z2:Z tP (.call 279 [.ptr 0 0,.int lv] (PS s T i1 0 12))=some (.ret e.node (PS s T i2 0 12)))
  (z3:Z tP (.call 256 [.ptr 0 0,.int ((lv+1:Nat):Int)] (PS s T i2 0 12))=some (.ret (nv 7 ⟨#[]⟩ d) (PS s T i3 0 12))) (h:T.drop i3=t::r) (hb:t.bad=0) (hm:t.s≠qo0):Z tP (.call 281 [.ptr 0 0,.int lv] (PS s T i 0 12))=some (.ret (nv 3 ⟨#[]⟩ (.sl (cE e++cB d++cB (.lit (.slice none 0 0))) 3 true)) (PS s T i3 0 12)):=by
 have w1:=qai ((lv:Int)+1) (by omega)
 simp only[PS,pO,nv,ifT] at z1 z2 z3
 try simp only[WE,Wt] at z1 z2 z3
 have y:=qci (s:=s) (a:=0) (c:=12) h hb (qaN [qo0] true) (by simp) (by decide)
 simp only[Wm,hm,decide_false] at y
 simp only[PS,pO,qo0,strC,Wv,WB,Ws] at y
 refine qac (pf:=F281) rfl rfl ?_
 simp[F281,w1,z1,z2,z3,y,od,oc,qba,Wa]
theorem qBM (hlv:lv<=20) (od:V.one (.dat d)=true) (oc:V.cells (.dat d)=[.dat d])
  (z1:Z tP (.call 253 [.ptr 0 0,.str ifT] (PS s T i 0 12))=some (.ret (.tup []) (PS s T i1 0 12)))
  (z2:Z tP (.call 279 [.ptr 0 0,.int lv] (PS s T i1 0 12))=some (.ret e.node (PS s T i2 0 12)))
  (z3:Z tP (.call 256 [.ptr 0 0,.int ((lv+1:Nat):Int)] (PS s T i2 0 12))=some (.ret (nv 7 ⟨#[]⟩ d) (PS s T i3 0 12))) (od':V.one (.dat d')=true) (oc':V.cells (.dat d')=[.dat d']) (hT:T.length<2 ^ 40) (h:T.drop i3=t::r) (hb:t.bad=0) (hm:t.s=qo0)
  (z4:Z tP (.call 256 [.ptr 0 0,.int ((lv+1:Nat):Int)] (PS s T ((i3+1:Nat):Int) 0 12))=some (.ret (nv 7 ⟨#[]⟩ d') (PS s T i4 0 12))):Z tP (.call 281 [.ptr 0 0,.int lv] (PS s T i 0 12))=some (.ret (nv 3 ⟨#[]⟩ (.sl (cE e++cB d++cB d') 3 true)) (PS s T i4 0 12)):=by
 have w1:=qai ((lv:Int)+1) (by omega)
 simp only[PS,pO,nv,ifT] at z1 z2 z3
 try simp only[WE,Wt] at z1 z2 z3
 have y:=qci (s:=s) (a:=0) (c:=12) h hb (qaN [qo0] true) (by simp) (by decide)
 simp only[Wm,hm,decide_true] at y
 simp only[PS,pO,qo0,strC,Wv,WB,Ws] at y
 have zt:=qcj (s:=s) (a:=0) (c:=12) h hb hT
 simp only[PS,pO,ptk,ptD] at zt
 simp only[PS,pO,nv] at z4
 simp only[WE,Wt] at zt z4
 refine qac (pf:=F281) rfl rfl ?_
 simp[F281,w1,z1,z2,z3,y,zt,z4,od',oc',od,oc,qba,Wa]
end
end
section
open F
attribute [local simp] qbd qbU dkey
def qxY(v:V)(σt:S)(cs:List D)(n:Nat):Prop:=(n=0/\cs=[]/\v = .dat (.lit (.slice none 0 0)) /\ σt=[])\/(n≠0/\cs.length=n*4/\v = .gsl cs n 4 5 /\ σt=[.tip cs.length])
abbrev bzF(lv:Nat):Fr:=[(0,.ptr 0 0),(1,.int lv),(4,.ptr 3 0),(5,.ptr 4 0)]
abbrev bzS(s:ByteArray)(T:List Tk)(i a c:Int)(v:V)(σt:S):S:=PS s T i a c++(nd0 :: .cells [.int 7,.int 0,.str ⟨#[]⟩,v] :: σt)
def qtf:ByteArray:=⟨#[125]⟩
section
variable{s:ByteArray}{T:List Tk}{lv i i' i1 i2:Nat}{a c:Int}{t:Tk}{r:List Tk}{d:D}{v:V}{σt:S}{cs:List D}{n:Nat}
theorem qzP(h:T.drop i=t::r)(hb:t.bad=0)(hm:t.s=qtf)(hr:qxY v σt cs n):Z tP (.loop 3 F256l0 (bzF lv) (bzS s T i 0 12 v σt))=some (.out (.exit 0) (bzF lv++[(13,.bool false)]) (bzS s T i 0 12 v σt)):=by
 have y:=qci (s:=s) (a:=0) (c:=12) h hb (qaN [qtf] true) (by simp) (by decide)
 simp only[Wm,hm,decide_true] at y
 simp only[PS,pO,qtf,strC,Wv,WB,Ws] at y
 rw[qaa]
 rcases hr with ⟨rfl,rfl,rfl,rfl⟩|⟨h0,h1,rfl,rfl⟩<;>simp[qab,qgX,y,Wa]
theorem qtg (h:T.drop i=t::r) (hb:t.bad=0) (hm:t.s≠qtf) (hr:qxY v σt cs n) (hn:n<=2 ^ 40) {k:Int} {x:ByteArray} (od:V.one (.dat d)=true) (oc:V.cells (.dat d)=[.dat d])
  (z:Z tP (.call 271 [.ptr 0 0,.int lv] (PS s T i 0 12))=some (.ret (nv k x d) (PS s T i' 0 12))) :
  ∃ v' σt',qxY v' σt' (cs++[.lit (.int .i64 k),.lit (.int .i64 0),.lit (.string x),d]) (n+1)/\Z tP (.loop 3 F256l0 (bzF lv) (bzS s T i 0 12 v σt))=Z tP (.loop 3 F256l0 (bzF lv) (bzS s T i' 0 12 v' σt')):=by
 have y:=qci (s:=s) (a:=0) (c:=12) h hb (qaN [qtf] true) (by simp) (by decide)
 have hroom:qao (n+1) 56=true:=by simp only[qao,decide_eq_true_eq]; omega
 simp only[Wm,hm,decide_false] at y
 simp only[PS,pO,qtf,strC,Wv,WB,Ws] at y
 simp only[PS,pO,nv] at z
 refine⟨.gsl (cs++[.lit (.int .i64 k),.lit (.int .i64 0),.lit (.string x),d]) (n+1) 4 5,[.tip (cs++[.lit (.int .i64 k),.lit (.int .i64 0),.lit (.string x),d]).length],.inr ⟨by omega,?_,rfl,rfl⟩,?_⟩
 ·rcases hr with ⟨rfl,rfl,_,_⟩|⟨_,h1,_,_⟩
  ·simp
  ·simp[h1]; omega
 ·conv=>lhs; rw[qaa]
  rcases hr with ⟨rfl,rfl,rfl,rfl⟩|⟨h0,h1,rfl,rfl⟩
  ·have hr1:qao 1 56=true:=by decide
   simp[qab,qgX,y,z,od,oc,hr1,qbH,qkr,qcd,qaP,qcT,qeG,qdM,still,V.same,Wa]
   try exact qah (by simp[Wa])
  ·simp[qab,qgX,y,z,od,oc,hroom,h0,h1,qbH,qkr,qcd,qaP,qcT,qeG,qdM,still,V.same,Wa]
   try exact qah (by simp[Wa])
theorem qB3 (hT:T.length<2 ^ 40) (zo:Z tP (.call 270 [.ptr 0 0,.str ⟨#[123]⟩,.int lv] (PS s T i 0 12))=some (.ret (.tup []) (PS s T i1 0 12))) (hr:qxY v σt cs n)
  (zl:Z tP (.loop 3 F256l0 (bzF lv) (bzS s T i1 0 12 (.dat (.lit (.slice none 0 0))) []))=some (.out (.exit 0) (bzF lv++[(13,.bool false)]) (bzS s T i2 0 12 v σt)))
  (h:T.drop i2=t::r) (hb:t.bad=0) (hm:t.s=qtf):Z tP (.call 256 [.ptr 0 0,.int lv] (PS s T i 0 12))=some (.ret (nv 7 ⟨#[]⟩ (kd false n cs)) (PS s T ((i2+1:Nat):Int) 0 12)):=by
 have zx:=qj2 (s:=s) (a:=0) (c:=12) h hb hT (by rw[hm]; decide)
 rw[hm] at zx
 simp only[PS,pO,qtf,WE,Wt] at zx
 simp only[PS,pO,bzS,Wg,Wc] at zo zl
 refine qac (pf:=F256) rfl rfl ?_
 rcases hr with ⟨rfl,rfl,rfl,rfl⟩|⟨h0,h1,rfl,rfl⟩
 ·simp[F256,zo,zl,zx,Wa]
 ·obtain⟨m,rfl⟩ : ∃ m,n=m+1:=⟨n-1,by omega⟩
  simp[F256,zo,zl,zx,Wa]
end
end
section
open F
attribute [local simp] qbd qbU dkey
section
variable{s:ByteArray}{T:List Tk}{i:Nat}{t:Tk}{r:List Tk}{a c:Int}
theorem qpv{k:Nat}(h:T.drop i=t::r)(hb:t.bad=0)(hk:qfp t.s=some k):Z tP (.call 254 [.ptr 0 0] (PS s T i 0 12))=some (.ret (.int k) (PS s T i 0 12)):=by
 have zp:=qbT (s:=s) (a:=0) (c:=12) h hb
 simp only[PS,pO,ptk,ptD,qaW hb] at zp
 generalize t.s=w at zp hk
 unfold qfp at hk
 by_cases h1:w=bs [97,99,116]
 ·subst h1
  simp only[if_true,Wh] at hk
  subst hk
  simp only[bs] at zp
  refine qac (pf:=F254) rfl rfl ?_
  simp[F254,zp,qaT,Wa]
 rw[if_neg h1] at hk
 by_cases h2:w=bs [116,105,99,107]
 ·subst h2
  simp only[if_true,Wh] at hk
  subst hk
  simp only[bs] at zp
  refine qac (pf:=F254) rfl rfl ?_
  simp[F254,zp,qaT,Wa]
 rw[if_neg h2] at hk
 by_cases h3:w=qi3
 ·subst h3
  simp only[if_true,Wh] at hk
  subst hk
  simp only[qi3] at zp
  refine qac (pf:=F254) rfl rfl ?_
  simp[F254,zp,qaT,Wa]
 ·rw[if_neg h3] at hk; cases hk
theorem ql1{w:ByteArray}{k:Nat}(h:qfp w=some k):k=0\/k=1\/k=2:=by
 unfold qfp at h
 split at h
 ·cases h; omega
 split at h
 ·cases h; omega
 split at h
 ·cases h; omega
 ·cases h
end
end
section
open F
attribute [local simp] qbd qbU dkey
abbrev pgF:Fr:=[(0,.ptr 0 0),(2,.ptr 3 0),(3,.ptr 4 0)]
abbrev pgS(s:ByteArray)(T:List Tk)(i a c:Int)(q:Nat->N4):S:=PS s T i a c++[qxR,rob q]
section
variable{s:ByteArray}{T:List Tk}{i i' i2:Nat}{t:Tk}{r:List Tk}{a c:Int}{q:Nat->N4}
theorem qy7(h:T.drop i=t::r)(hb:t.bad=0)(hs:t.s=⟨#[]⟩):Z tP (.loop 3 F242l0 pgF (pgS s T i 0 12 q))=some (.out (.exit 0) (pgF++[(8,.bool false)]) (pgS s T i 0 12 q)):=by
 have zp:=qbT (s:=s) (a:=0) (c:=12) h hb
 have hk:kindT t=0:=by rw[qcC hb,qkw,if_pos hs]
 have k0:=(q 0).one
 have k1:=(q 1).one
 have k2:=(q 2).one
 have c0:=(q 0).cl
 have c1:=(q 1).cl
 have c2:=(q 2).cl
 simp only[PS,pO,ptk,ptD,hk] at zp
 rw[qaa]
 simp[qab,qjy,zp,k0,k1,k2,c0,c1,c2,Wa]
theorem qBx {t2:Tk} {r2:List Tk} {k:Nat} {d:D} (hT:T.length<2 ^ 40) (h:T.drop i=t::r) (hb:t.bad=0) (hs:t.s≠⟨#[]⟩) (z:Z tP (.call 253 [.ptr 0 0,.str ⟨#[111,110]⟩] (PS s T i 0 12))=some (.ret (.tup []) (PS s T i' 0 12)))
  (h2:T.drop i'=t2::r2) (hb2:t2.bad=0) (hh:qfp t2.s=some k) (hq:decide ((q k).k=0)=true) (od:V.one (.dat d)=true) (oc:V.cells (.dat d)=[.dat d]) (zb:Z tP (.call 256 [.ptr 0 0,.int 1] (PS s T ((i'+1:Nat):Int) 0 12))=some (.ret (nv 7 ⟨#[]⟩ d) (PS s T i2 0 12))):Z tP (.loop 3 F242l0 pgF (pgS s T i 0 12 q))=Z tP (.loop 3 F242l0 pgF (pgS s T i2 0 12 (qAt q k ⟨7,0,⟨#[]⟩,d,od,oc⟩))):=by
 have zp:=qbT (s:=s) (a:=0) (c:=12) h hb
 have zh:=qpv (s:=s) h2 hb2 hh
 have hlt:=qnh h2
 have w1:=qai ((i':Int)+1) (by omega)
 have hk:decide (kindT t=0)=false:=decide_eq_false (fun e=>hs ((qlU hb).mp e))
 simp only[PS,pO,ptk,ptD] at zp z zh
 simp only[PS,pO,nv] at zb
 simp only[WE,Wt] at zb
 have k0:=(q 0).one
 have k1:=(q 1).one
 have k2:=(q 2).one
 have c0:=(q 0).cl
 have c1:=(q 1).cl
 have c2:=(q 2).cl
 conv=>lhs; rw[qaa]
 rcases ql1 hh with rfl|rfl|rfl<;>simp[qab,qjy,zp,z,zh,zb,od,oc,w1,hk,hq,k0,k1,k2,c0,c1,c2,qAt,Wa]<;>rfl
end
end
section
open F
attribute [local simp] qbd qbU dkey
section
variable{s:ByteArray}{T:List Tk}{i':Nat}{q:Nat->N4}{a c:Int}
theorem qoU(z:Z tP (.loop 3 F242l0 pgF (pgS s T 0 0 12 fun k=>qkp none))=some (.out (.exit 0) (pgF++[(8,.bool false)]) (pgS s T i' 0 12 q))):Z tP (.call 242 [.ptr 0 0] (PS s T 0 0 12))=some (.ret (quH q) (PS s T i' 0 12)):=by
 have k0:=(q 0).one
 have k1:=(q 1).one
 have k2:=(q 2).one
 have c0:=(q 0).cl
 have c1:=(q 1).cl
 have c2:=(q 2).cl
 simp only[pgS,PS,pO,rob,qkp,Wg,Wc] at z
 refine qac (pf:=F242) rfl rfl ?_
 simp[F242,z,k0,k1,k2,c0,c1,c2,Wa]
end
end
section
open F
attribute [local simp] qbd qbU dkey
section
variable{s:ByteArray}{T:List Tk}{i':Nat}{q:Nat->N4}{a c:Int}
abbrev dS(s:ByteArray)(T:List Tk)(q:Nat->N4)(x y:Int)(i a c:Int):S:=[.cells [.ptr 4 0],rob q,.cells [.int x],.cells [.int y],pO s 5 (.gsl (ptC T) T.length 5 6) i a c,.map kwM,.tip (ptC T).length]
theorem qrb{x y i a c:Int}:Z tP (.dcall 240 [.dat (.lit .nilIface),.ptr 0 0,.ptr 1 0,.ptr 2 0,.ptr 3 0] (dS s T q x y i a c))=some (.ret (.dat (.lit undef)) (dS s T q x y i a c)):=by
 have k0:=(q 0).one
 have k1:=(q 1).one
 have k2:=(q 2).one
 have c0:=(q 0).cl
 have c1:=(q 1).cl
 have c2:=(q 2).cl
 refine qmh (pf:=F240) rfl ?_
 have hfl:F240.body.flat=true:=rfl
 simp only[qaU]
 rw[if_pos ⟨rfl,rfl,rfl,hfl,.inl rfl⟩]
 simp[F240,qga,k0,k1,k2,c0,c1,c2,Wa]
theorem qtr (h : ¬ (2000:Int)<s.size) (zt:Z tP (.call 249 [.yld 0,.ptr 1 0] (TT0 s))=some (.ret (.tup []) (TT1 s (ptC T) T.length)))
  (z:Z tP (.call 242 [.ptr 0 0] (PS s T 0 0 12))=some (.ret (quH q) (PS s T i' 0 12))):Z tP (.call 228 [.str s] [])=some (.ret (.tup [quH q,.int 0,.int 0]) []):=by
 have z1:=qoA s
 have z2:=qqg s
 have k0:=(q 0).one
 have k1:=(q 1).one
 have k2:=(q 2).one
 have c0:=(q 0).cl
 have c1:=(q 1).cl
 have c2:=(q 2).cl
 simp only[pO] at z2
 simp only[TT0,TT1,pO] at zt
 simp only[PS,pO] at z
 have zd:=qrb (s:=s) (T:=T) (q:=q) (x:=0) (y:=0) (i:=i') (a:=0) (c:=12)
 simp only[dS,pO,rob] at zd
 refine qac (pf:=F228) rfl rfl ?_
 simp[F228,z1,z2,zt,z,zd,h,V.len,k0,k1,k2,c0,c1,c2,Wa]
end
end
section
open F
attribute [local simp] qbd qbU dkey
section
variable{s:ByteArray}{T:List Tk}{i':Nat}{a c:Int}
abbrev q0:Nat->N4:=fun _=>qkp none
end
end
section
open F
theorem qlB(s:ByteArray) : ∀ n i,(qc3 12 2 6 s n i).length<=n+1
 |0,i=>by simp[qc3]
 |n+1,i=>by
  rw[qc3]
  have:=qlB s n
  split
  ·simp
  ·simp only[We]; have:=this ((tokAt 12 2 6 s (qix s (s.size-i) false i)).at_+(tokAt 12 2 6 s (qix s (s.size-i) false i)).s.size); omega
end
section
open F
abbrev Sub(p q:Nat->Option PFun):Prop := ∀ f pf,p f=some pf->q f=some pf
structure Has(prog:Nat->Option PFun):Prop where
 b:Sub qad prog
 r:Sub tR prog
 s:Sub tS prog
 p:Sub tP prog
 q:Sub tQ prog
 e:Sub tE prog
 k:Sub tK prog
def hdO:Option Ss->Hd
 |none => .none
 |some b => .some false b
theorem qkq(o:Option Ss):(hdO o).opt=o:=by cases o<;>rfl
theorem qve(o:Option Ss):(qkp o).k=(hdO o).nd.k/\(qkp o).n=(hdO o).nd.n/\(qkp o).s=(hdO o).nd.s/\(qkp o).d=(hdO o).nd.d:=by cases o<;>exact⟨rfl,rfl,rfl,rfl⟩
theorem qvf(h:Nat->Option Ss):quH (fun k=>qkp (h k)) = .dat (ru (hdO (h 0)).nd (hdO (h 1)).nd (hdO (h 2)).nd):=by
 obtain⟨a1,a2,a3,a4⟩:=qve (h 0)
 obtain⟨b1,b2,b3,b4⟩:=qve (h 1)
 obtain⟨c1,c2,c3,c4⟩:=qve (h 2)
 simp only[quH,ru,a1,a2,a3,a4,b1,b2,b3,b4,c1,c2,c3,c4]
theorem qpR(h:Nat->Option Ss):qaY (Hd.opts (hdO (h 0)) (hdO (h 1)) (hdO (h 2)))=qaY h:=by
 unfold qaY
 simp only[Hd.opts,qkq]
theorem qr7{h:Nat->Option Ss}(hg : ∀ k,qdC (h k)) : ∀ k,qdC (Hd.opts (hdO (h 0)) (hdO (h 1)) (hdO (h 2)) k)
 |0=>by rw[Hd.opts,qkq]; exact hg 0
 |1=>by rw[Hd.opts,qkq]; exact hg 1
 |_+2=>by show qdC (hdO (h 2)).opt; rw[qkq]; exact hg 2
end
section
open F Gr
set_option maxHeartbeats 4000000
theorem qrc{c:Cd}{e:Nat}(D:Nat->Int) : ∀ k:Nat,∃ m:Int,0<=m/\(∀ i,i<k->Gr.Reach c e i->aft c i (D i)<=m)/\(m=0 \/ ∃ i,Gr.Reach c e i/\m=aft c i (D i))
 |0=>⟨0,by omega,fun i h=>by omega,.inl rfl⟩
 |k+1=>by
  obtain⟨m,h0,h1,h2⟩:=qrc D k
  by_cases hr:Gr.Reach c e k/\m<aft c k (D k)
  ·refine⟨aft c k (D k),by omega,fun i hi h=>?_,.inr ⟨k,hr.1,rfl⟩⟩
   by_cases hik:i=k
   ·subst hik; omega
   ·have:=h1 i (by omega) h
    omega
  ·refine⟨m,h0,fun i hi h=>?_,h2⟩
   by_cases hik:i=k
   ·subst hik
    exact Int.not_lt.1 fun h'=>hr ⟨h,h'⟩
   ·exact h1 i (by omega) h
theorem qrd{c:Cd}{e:Int}(he:0<=e->e.toNat<c.length) : ∃ m,DepIs c e m:=by
 by_cases h0:e<0
 ·exact⟨0,fun _=>rfl,fun h=>by omega⟩
 ·by_cases hD : ∃ D,CF c e.toNat D
  ·obtain⟨D,hD⟩:=hD
   obtain⟨m,a,b,d⟩:=qrc (c:=c) (e:=e.toNat) D c.length
   exact⟨m,fun h=>absurd h h0,fun _ D' hD'=>Most.of_eq hD hD' ⟨a,fun i hi=>b i (hi.lt (he (by omega))) hi,d⟩⟩
  ·exact⟨0,fun h=>absurd h h0,fun _ D' hD'=>absurd ⟨D',hD'⟩ hD⟩
theorem qii(vs:List ByteArray)(f:Bool) : ∀ e:E,qcY vs (e.fl f)=qcY vs e
 |.int n | .bool n | .var s | .name s=>rfl
 |.field _ s e | .un _ n e=>by simp only[E.fl,qcY,qii vs f e]
 |.bin _ o a b=>by simp only[E.fl,qcY,qii vs f a,qii vs f b]
theorem qts(f:Bool)(e:E):(e.fl f).ty=e.ty:=by induction e<;>simp_all [E.fl,E.ty]
theorem qgI(f:Bool) : ∀ e:E,e.fine->(e.fl f).fine
 |.int n,h | .bool n,h | .var s,h | .name s,h=>h
 |.field _ s e,h=>by simp only[E.fl,E.fine] at h ⊢; simp_all [qgI f e,qts]
 |.un _ n e,h=>by simp only[E.fl,E.fine] at h ⊢; simp_all [qgI f e,qts]
 |.bin _ o a b,h=>by simp only[E.fl,E.fine] at h ⊢; simp_all [qgI f a,qgI f b,qts]
theorem qtt(vs:List ByteArray)(f fi fb:Bool)(b:Ss)(h:b.fine):codeS vs (b.fl f fi fb)=codeS vs b/\(b.fl f fi fb).fine:=by
 fun_induction Ss.fine b with
 |case1=>exact⟨rfl,trivial⟩
 |case8=>exact absurd h id
 |_=>simp_all [Ss.fl,codeS,Ss.fine,qii,qgI,qts]
def Hd.rf(h:Hd):Hd:=hdO (h.opt.map (·.fl true true false))
theorem qmY{h:Hd}(hf:h.fine):h.rf.fine:=by
 cases h with
 |none=>exact hf
 | some f b=>exact⟨(qtt [] true true false b hf.fine).2,by
   have e:(b.fl true true false).fo.size=b.fo.size:=qkZ (qdi true true false b)
   have:=hf.size
   show (b.fl true true false).fo.size<=2000
   rw[e]
   exact this⟩
end
end Go.Pm
section
namespace Go.Pm.F
variable(C:Task->Option Res)(q:Nat)(fr:Fr)(σ : S)
def F317:PFun:=pf 1 [.tmp 2,.tmp 3] (sr [jj 2 (.mov (.c (.pointer none))),mx 3 (kk 0)] [0] (sr [mv 7 0,cl 8 322 [7],mv 6 8,ex 9 6 0,ex 10 6 1,jj 4 (.alloc [sN,zN,zN,zN]),st 4 4 9,mv 5 10] [4,5] (.seq (sr [mv 11 5,bk 12 .neq 11 0] [4,5,12] (cs 12 (sr [mv 13 5,jj 2 (.mov (.c (.pointer none))),mv 3 13] [2,3] .ret))) (sr [la 14 4 4,jj 15 (.build [zN,sN,zN,zN,zN] [(0,1,(kk 0)),(1,4,(.t 14))]),jj 16 (.bslice 1 [zN,sN,zN,zN,zN] [(0,5,(.t 15))]),jj 17 (.build [sN] [(0,1,(.t 16))]),bx 18 17,mv 2 18,mx 3 (kk 0)] [2,3] .ret))))
def F318:PFun:=pf 3 [.tmp 6] (sr [mx 6 (kk 0)] [0,1,2] (.seq (sr [mv 9 0,nc 10 9,fa 11 0 10,l1 12 11,ls 13 12,bk 14 .gtr 13 8] [0,1,2,14] (cs 14 (sr [mx 6 (kk 2)] [6] .ret))) (.seq (.seq (.region (some []) [mv 15 1,mv 16 0,nc 17 16,fa 18 0 17,l1 19 18,mv 20 0,nc 21 20,fa 22 0 21,l1 23 22,ls 24 23,bk 25 .sub 24 1,jj 26 (.indexAddr 5 (.t 19) (.t 25)),fa 27 0 26,l1 28 27,bn 29 .leq 15 28] [0,1,2,29]) (cs 29 (sr [mx 6 (kk 5)] [6] .ret))) (sr [mv 31 2,cl 32 322 [31],mv 30 32,ex 33 30 0,ex 34 30 1,jj 7 (.alloc [sN,zN,zN,zN]),st 4 7 33,mv 8 34] [0,1,7,8] (.seq (sr [mv 35 8,bk 36 .neq 35 0] [0,1,7,8,36] (cs 36 (sr [mv 37 8,mv 6 37] [6] .ret))) (.seq (.region (some []) [mv 38 0,mv 39 0,nc 40 39,fa 41 0 40,l1 42 41,mv 43 1,la 44 4 7,jj 45 (.build [zN,sN,zN,zN,zN] [(0,1,(.t 43)),(1,4,(.t 44))]),jj 46 (.bslice 1 [zN,sN,zN,zN,zN] [(0,5,(.t 45))]),jj 47 (.append 5 56 (.t 42) (.t 46)),nc 48 38,fa 49 0 48,st 1 49 47] []) (sr [mx 6 (kk 0)] [6] .ret)))))))
@[simp] def F320l0x:PC:=(sr [bn 18 .lss 17 16] [3,15,16,17,18] (.seq (.cond (.t 18) .skip (.exit 0)) (.seq (.block 1 (sr [mv 19 17,jj 20 (.indexAddr 5 (.t 15) (.t 17)),la 21 5 20,jj 5 (.alloc [zN,sN,zN,zN,zN]),mv 4 19,st 5 5 21] [3,4,5,15,16,17] (rn [mv 22 3,mv 23 4,fa 24 0 5,l1 25 24,jj 26 (.indexAddr 1 (.t 22) (.t 23)),st 1 26 25] [3,15,16,17]))) (rn [bk 27 .add 17 1,mv 17 27] [3,15,16,17]))))
def F320l0:PC:=F320l0x
def F320:PFun:=pf 1 [.tmp 2] (sr [jj 2 (.mov (.c (.slice none 0 0)))] [0] (sr [mv 6 0,nc 7 6,fa 8 0 7,l1 9 8,ls 10 9,jj 11 (.mkslice false [zN] 8 (.t 10) (.t 10)),mv 3 11] [0,3] (.seq (sr [mv 12 0,nc 13 12,fa 14 0 13,l1 15 14,ls 16 15,mx 17 (kk 0)] [3,15,16,17] (.block 0 (.loop F320l0))) (sr [mv 28 3,mv 2 28] [2] .ret))))
def F322:PFun:=pf 1 [.cell 2 true 4,.tmp 3] (sr [jj 2 (.alloc [sN,zN,zN,zN]),mx 3 (kk 0)] [0,2] (sr [mv 8 0,jj 9 (.call 324 [(.t 8),(kk 0),(.f 325)]),mv 7 9,ex 10 7 0,ex 11 7 1,jj 4 (.alloc [zN,zN,eN,sN,zN,zN,eN,sN,zN,zN,eN,sN]),st 12 4 10,mv 5 11] [2,4,5] (sr [la 13 12 4,mv 14 5,jj 15 (.call 326 [(.t 13),(.t 14),(.f 327)]),mv 12 15,ex 16 12 0,ex 17 12 1,jj 6 (.alloc [zN,zN,eN,sN,zN,zN,eN,sN,zN,zN,eN,sN]),st 12 6 16,mv 5 17] [2,5,6] (sr [la 18 12 6,mv 19 5,jj 20 (.call 328 [(.t 18),(.t 19),(.f 131)]),ex 21 20 0,ex 22 20 1,st 4 2 21,mv 3 22] [2,3] .ret))))
def F323:PFun:=pf 2 [.tmp 4,.cell 5 true 4] (sr [bx 2 0,bx 3 1,mx 4 (kk 0),jj 5 (.alloc [sN,zN,zN,zN])] [2,3,5] (sr [l1 9 2,nc 10 9,fa 11 0 10,l1 12 11,ls 13 12,jj 14 (.mkfn 330 [] [(.t 2),(.t 3)]),cl 15 329 [13,14],mv 6 15] [2,5,6] (sr [mv 16 6,bk 17 .sub 16 1,jj 18 (.max [(.t 17),(kk 0)]),mv 7 18] [2,5,7] (sr [l1 19 2,nc 20 19,fa 21 0 20,l1 22 21,mv 23 7,jj 24 (.indexAddr 5 (.t 22) (.t 23)),fa 25 1 24,la 26 4 25,jj 8 (.alloc [sN,zN,zN,zN]),st 4 8 26] [5,7,8] (.seq (.region (some []) [mv 27 7,fa 28 0 8,l1 29 28,cl 30 331 [29],fa 31 1 8,⟨some 32,.load true 3 (.t 31),none,[3]⟩,jj 33 (.build [sN,zN,zN,zN] [(0,1,(.t 30)),(1,3,(.t 32))]),mv 4 27,st 4 5 33] [4,5]) .ret)))))
def F324:PFun:=pf 3 [.cell 6 true 12,.tmp 7] (sr [jj 6 (.alloc [zN,zN,eN,sN,zN,zN,eN,sN,zN,zN,eN,sN]),mx 7 (kk 0)] [0,1,2,6] (.seq (sr [mv 9 1,bk 10 .neq 9 0] [0,1,2,6,10] (cs 10 (sr [jj 8 (.alloc [zN,zN,eN,sN,zN,zN,eN,sN,zN,zN,eN,sN])] [1,6,8] (sr [la 11 12 8,mv 12 1,st 12 6 11,mv 7 12] [6,7] .ret)))) (sr [mv 13 2,mv 14 0,jj 15 (.callv (.t 13) [(.t 14)]),ex 16 15 0,ex 17 15 1,st 12 6 16,mv 7 17] [6,7] .ret)))
def F325:PFun:=pf 1 [.cell 2 true 12,.tmp 3] (sr [jj 2 (.alloc [zN,zN,eN,sN,zN,zN,eN,sN,zN,zN,eN,sN]),mx 3 (kk 0)] [0,2] (sr [mv 8 0,cl 9 228 [8],mv 7 9,ex 10 7 0,ex 11 7 1,ex 12 7 2,jj 4 (.alloc [zN,zN,eN,sN,zN,zN,eN,sN,zN,zN,eN,sN]),st 12 4 10,mv 5 11,mv 6 12] [2,4,6] (sr [la 13 12 4,mv 14 6,st 12 2 13,mv 3 14] [2,3] .ret)))
def F326:PFun:=pf 3 [.cell 6 true 12,.tmp 7] (sr [bx 3 0,jj 6 (.alloc [zN,zN,eN,sN,zN,zN,eN,sN,zN,zN,eN,sN]),mx 7 (kk 0)] [1,2,3,6] (.seq (sr [mv 9 1,bk 10 .neq 9 0] [1,2,3,6,10] (cs 10 (sr [jj 8 (.alloc [zN,zN,eN,sN,zN,zN,eN,sN,zN,zN,eN,sN])] [1,6,8] (sr [la 11 12 8,mv 12 1,st 12 6 11,mv 7 12] [6,7] .ret)))) (sr [mv 13 2,la 14 12 3,jj 15 (.callv (.t 13) [(.t 14)]),ex 16 15 0,ex 17 15 1,st 12 6 16,mv 7 17] [6,7] .ret)))
def F327:PFun:=pf 1 [.cell 2 true 12,.tmp 3] (sr [bx 1 0,jj 2 (.alloc [zN,zN,eN,sN,zN,zN,eN,sN,zN,zN,eN,sN]),mx 3 (kk 0)] [1,2] (.seq (.region (some []) [⟨some 4,.load true 12 (.t 1),none,[2]⟩,la 5 12 1,cl 6 12 [5],st 12 2 4,mv 3 6] [2,3] [2]) .ret))
def F328:PFun:=pf 3 [.cell 6 true 4,.tmp 7] (sr [bx 3 0,jj 6 (.alloc [sN,zN,zN,zN]),mx 7 (kk 0)] [1,2,3,6] (.seq (sr [mv 9 1,bk 10 .neq 9 0] [1,2,3,6,10] (cs 10 (sr [jj 8 (.alloc [sN,zN,zN,zN])] [1,6,8] (sr [la 11 4 8,mv 12 1,st 4 6 11,mv 7 12] [6,7] .ret)))) (sr [mv 13 2,la 14 12 3,jj 15 (.callv (.t 13) [(.t 14)]),ex 16 15 0,ex 17 15 1,st 4 6 16,mv 7 17] [6,7] .ret)))
def F330:PFun:=pf 3 [.tmp 4] (sr [mx 4 kF] [0,1,2] (.seq (.region (some []) [l1 5 1,nc 6 5,fa 7 0 6,l1 8 7,mv 9 0,jj 10 (.indexAddr 5 (.t 8) (.t 9)),fa 11 0 10,l1 12 11,l1 13 2,bn 14 .gtr 12 13,mv 4 14] [4]) .ret))
@[simp] def F343l0x:PC:=(sr [bn 19 .lss 18 17] [3,16,17,18,19] (.seq (.cond (.t 19) .skip (.exit 0)) (.seq (.block 1 (sr [jj 20 (.indexAddr 5 (.t 16) (.t 18)),la 21 5 20,jj 5 (.alloc [zN,sN,zN,zN,zN]),st 5 5 21] [3,5,16,17,18] (.region (some []) [mv 22 3,fa 23 0 5,⟨some 24,.load false 1 (.t 23),none,[5]⟩,fa 25 1 5,la 26 4 25,cl 27 353 [26],jj 28 (.conv (.int .i64) (.t 27)),jj 29 (.bslice 2 [zN,zN] [(0,1,(.t 24)),(1,1,(.t 28))]),jj 30 (.appendO 1 8 (.t 22) (.t 29)),mv 3 30] [3,16,17,18] [5]))) (rn [bk 31 .add 18 1,mv 18 31] [3,16,17,18]))))
def F343l0:PC:=F343l0x
theorem qfn:run C q F343l0 fr σ = run C q F343l0x fr σ := rfl
def F343:PFun:=pf 1 [.tmp 2] (sr [jj 2 (.mov (.c (.int .u64 0)))] [0] (sr [mv 6 0,nc 7 6,fa 8 0 7,l1 9 8,ls 10 9,jj 11 (.bin .mul (kk 2) (.t 10)),jj 12 (.mkslice true [zN] 8 (kk 0) (.t 11)),mv 3 12] [0,3] (.seq (sr [mv 13 0,nc 14 13,fa 15 0 14,l1 16 15,ls 17 16,mx 18 (kk 0)] [3,16,17,18] (.block 0 (.loop F343l0))) (sr [mv 32 3,jj 33 (.call 109 [(ks [98,111,111,107]),(.t 32)]),mv 2 33] [2] .ret))))
@[simp] def F353l0x:PC:=(sr [bn 20 .lss 19 18] [3,17,18,19,20] (.seq (.cond (.t 20) .skip (.exit 0)) (.seq (.block 1 (sr [jj 21 (.indexAddr 2 (.t 17) (.t 19)),la 22 2 21,jj 5 (.alloc [zN,zN]),st 2 5 22] [3,5,17,18,19] (rn [mv 23 3,fa 24 0 5,l1 25 24,fa 26 1 5,l1 27 26,jj 28 (.bslice 2 [zN,zN] [(0,1,(.t 25)),(1,1,(.t 27))]),jj 29 (.appendO 1 8 (.t 23) (.t 28)),mv 3 29] [3,17,18,19]))) (rn [bk 30 .add 19 1,mv 19 30] [3,17,18,19]))))
def F353l0:PC:=F353l0x
theorem qg6:run C q F353l0 fr σ = run C q F353l0x fr σ := rfl
def F353:PFun:=pf 1 [.tmp 2] (sr [bx 1 0,jj 2 (.mov (.c (.int .u64 0)))] [1] (sr [fa 6 0 1,l1 7 6,ls 8 7,jj 9 (.bin .mul (kk 2) (.t 8)),jj 10 (.bin .add (kk 3) (.t 9)),jj 11 (.mkslice true [zN] 8 (kk 0) (.t 10)),mv 3 11] [1,3] (sr [mv 12 3,fa 13 1 1,jj 14 (.sliceA 3 1 (.t 13) none none),jj 15 (.appendO 1 8 (.t 12) (.t 14)),mv 3 15] [1,3] (.seq (sr [fa 16 0 1,l1 17 16,ls 18 17,mx 19 (kk 0)] [3,17,18,19] (.block 0 (.loop F353l0))) (sr [mv 31 3,jj 32 (.call 109 [(ks [112,114,111,103,114,97,109]),(.t 31)]),mv 2 32] [2] .ret)))))
end Go.Pm.F
end
section
namespace Go.Pm.F
variable(C:Task->Option Res)(q:Nat)(fr:Fr)(σ : S)
@[simp] def F329l0x:PC:=(.seq (sr [mv 9 5,mv 10 6,bn 11 .lss 9 10] [1,5,6,11] (.cond (.t 11) .skip (.exit 0))) (.block 1 (sr [mv 12 5,mv 13 6,bn 14 .add 12 13,jj 15 (.conv (.int .u64) (.t 14)),jj 16 (.bin .shr (.t 15) (.c (.int .u64 1))),jj 17 (.conv (.int .i64) (.t 16)),mv 7 17] [1,5,6,7] (sr [mv 18 1,mv 19 7,jj 20 (.callv (.t 18) [(.t 19)]),jj 21 (.un .not (.t 20))] [1,5,6,7,21] (.cond (.t 21) (rn [mv 22 7,bk 23 .add 22 1,mv 5 23] [1,5,6]) (rn [mv 24 7,mv 6 24] [1,5,6]))))))
def F329l0:PC:=F329l0x
theorem qfw:run C q F329l0 fr σ = run C q F329l0x fr σ := rfl
def F329:PFun:=pf 2 [.tmp 4] (sr [mx 4 (kk 0)] [0,1] (sr [mv 8 0,mx 5 (kk 0),mv 6 8] [1,5,6] (.seq (.block 0 (.loop F329l0)) (sr [mv 25 5,mv 4 25] [4] .ret))))
def F331:PFun:=pf 1 [.tmp 2] (sr [jj 2 (.mov (.c (.slice none 0 0)))] [0] (.seq (sr [mv 3 0,jj 4 (.isnils false (.t 3))] [0,4] (cs 4 (sr [jj 2 (.mov (.c (.slice none 0 0)))] [2] .ret))) (sr [jj 5 (.bslice 0 [] []),mv 6 0,jj 7 (.append 2 16 (.t 5) (.t 6)),mv 2 7] [2] .ret)))
end Go.Pm.F
end
namespace Go.Pm
section
open F Gr
set_option maxHeartbeats 4000000
section
variable{prog:Nat->Option PFun}{s:ByteArray}{A B C:Nd}{q e x0 x1 x2:Int}{d:D}
theorem qyR(h:prog 325=some F325)(zP:Z prog (.call 228 [.str s] [])=some (.ret (.tup [.dat (ru A B C),.int 0,.int 0]) [])):Z prog (.call 325 [.str s] [])=some (.ret (.tup [.dat (ru A B C),.int 0]) []):=by
 refine qac h rfl ?_
 simp only[ru] at zP ⊢
 simp[F325,zP,Wa]
theorem qyS(h:prog 324=some F324)(z:Z prog (.call 325 [.str s] [])=some (.ret (.tup [.dat (ru A B C),.int 0]) [])):Z prog (.call 324 [.str s,.int 0,.fn 325 [] []] [])=some (.ret (.tup [.dat (ru A B C),.int 0]) []):=by
 refine qac h rfl ?_
 simp only[ru] at z ⊢
 simp[F324,z,Wa]
theorem qyT(h:prog 327=some F327)(zC:Z prog (.call 12 [.dat (ru A B C)] [])=some (.ret (.int q) [])):Z prog (.call 327 [.dat (ru A B C)] [])=some (.ret (.tup [.dat (ru A B C),.int q]) []):=by
 refine qac h rfl ?_
 simp only[ru] at zC ⊢
 simp[F327,zC,Wa]
theorem qyU(h:prog 326=some F326)(z:Z prog (.call 327 [.dat (ru A B C)] [])=some (.ret (.tup [.dat (ru A B C),.int q]) [])):Z prog (.call 326 [.dat (ru A B C),.int 0,.fn 327 [] []] [])=some (.ret (.tup [.dat (ru A B C),.int q]) []):=by
 refine qac h rfl ?_
 simp only[ru] at z ⊢
 simp[F326,z,Wa]
theorem qsq(h:prog 328=some F328)(hq:q≠0):Z prog (.call 328 [.dat (ru A B C),.int q,.fn 131 [] []] [])=some (.ret (.tup [pgD (.lit (.slice none 0 0)) 0 0 0,.int q]) []):=by
 refine qac h rfl ?_
 simp only[ru,pgD]
 simp[F328,hq,Wa]
theorem qmz(h:prog 328=some F328)(o:V.one (.dat d)=true)(c:V.cells (.dat d)=[.dat d])(z:Z prog (.call 131 [.dat (ru A B C)] [])=some (.ret (.tup [pgD d x0 x1 x2,.int e]) [])):Z prog (.call 328 [.dat (ru A B C),.int 0,.fn 131 [] []] [])=some (.ret (.tup [pgD d x0 x1 x2,.int e]) []):=by
 refine qac h rfl ?_
 simp only[ru,pgD] at z ⊢
 simp[F328,z,o,c,Wa]
theorem qyV(h:prog 322=some F322)(o:V.one (.dat d)=true)(c:V.cells (.dat d)=[.dat d])(z1:Z prog (.call 324 [.str s,.int 0,.fn 325 [] []] [])=some (.ret (.tup [.dat (ru A B C),.int 0]) []))(z2:Z prog (.call 326 [.dat (ru A B C),.int 0,.fn 327 [] []] [])=some (.ret (.tup [.dat (ru A B C),.int q]) []))(z3:Z prog (.call 328 [.dat (ru A B C),.int q,.fn 131 [] []] [])=some (.ret (.tup [pgD d x0 x1 x2,.int e]) [])):Z prog (.call 322 [.str s] [])=some (.ret (.tup [pgD d x0 x1 x2,.int e]) []):=by
 refine qac h rfl ?_
 simp only[ru,pgD] at z1 z2 z3 ⊢
 simp[F322,z1,z2,z3,o,c,Wa]
end
end
end Go.Pm
section
namespace Go.Pm.F
variable(C:Task->Option Res)(q:Nat)(fr:Fr)(σ : S)
def F321:PFun:=pf 0 [.tmp 0] (sr [mx 0 kF] [] (sr [jj 9 (.call 317 [(ks [])]),mv 8 9,ex 10 8 0,ex 11 8 1,mv 1 10,mv 2 11] [1,2] (.seq (sr [mv 12 1,jj 13 (.isnil true false (.t 12)),mv 14 13,jf 15 14 (.mov (.t 2)),jf 16 14 (.bin .neq (.t 15) (kk 0)),jj 17 (.pick (.t 14) kT (.t 16))] [1,17] (cs 17 (sr [mx 0 kF] [0] .ret))) (sr [mv 18 1,jj 19 (.call 318 [(.t 18),(kk 10),(ks [111,110,32,116,105,99,107,32,123,32,97,49,32,61,32,49,59,32,125])]),mv 3 19] [1,3] (sr [mv 21 1,jj 22 (.call 323 [(.t 21),(kk 9)]),mv 20 22,ex 23 20 0,ex 24 20 1,jj 5 (.alloc [sN,zN,zN,zN]),mv 4 23,st 4 5 24] [1,3,4,5] (sr [mv 26 1,jj 27 (.call 323 [(.t 26),(kk 10)]),mv 25 27,ex 28 25 0,ex 29 25 1,jj 7 (.alloc [sN,zN,zN,zN]),mv 6 28,st 4 7 29] [1,3,4,5,6,7] (sr [mv 30 3,bk 31 .eql 30 0,mv 32 31,jt 33 32 (.mov (.t 4)),jt 34 32 (.bin .eql (.t 33) (kk 0)),jj 35 (.pick (.t 32) (.t 34) kF),mv 36 35,jt 37 36 (.mov (.t 6)),jt 38 36 (.bin .eql (.t 37) (kk 1)),jj 39 (.pick (.t 36) (.t 38) kF),mv 40 39,jt 41 40 (.fieldAddr 0 (.t 5)),jt 42 40 (.load false 1 (.t 41)),jt 43 40 (.len .sl (.t 42)),jt 44 40 (.bin .eql (.t 43) (kk 0)),jj 45 (.pick (.t 40) (.t 44) kF),mv 46 45,jt 47 46 (.fieldAddr 0 (.t 7)),jt 48 46 (.load false 1 (.t 47)),jt 49 46 (.len .sl (.t 48)),jt 50 46 (.bin .gtr (.t 49) (kk 0)),jj 51 (.pick (.t 46) (.t 50) kF),mv 52 51,jt 53 52 (.mov (.t 1)),jt 54 52 (.call 320 [(.t 53)]),jt 55 52 (.bslice 2 [zN,zN] [(0,1,(kk 0)),(1,1,(kk 10))]),jt 56 52 (.call 58 [(.t 54),(.t 55)]),jj 57 (.pick (.t 52) (.t 56) kF),mv 0 57] [0] .ret)))))))
def F336:PFun:=pf 1 [.tmp 2] (sr [mx 2 kF] [0] (sr [mv 13 0,cl 14 227 [13],mv 3 14] [3] (sr [mv 16 3,cl 17 317 [16],mv 15 17,ex 18 15 0,ex 19 15 1,mv 4 18,mv 5 19] [3,4,5] (sr [mv 21 3,cl 22 228 [21],mv 20 22,ex 23 20 0,ex 24 20 1,ex 25 20 2,jj 6 (.alloc [zN,zN,eN,sN,zN,zN,eN,sN,zN,zN,eN,sN]),st 12 6 23,mv 7 24,mv 8 25] [4,5,6,8] (.seq (sr [mv 26 4,jj 27 (.isnil true false (.t 26))] [4,5,6,8,27] (cs 27 (sr [mv 28 5,bk 29 .neq 28 0,mv 30 29,jt 31 30 (.mov (.t 8)),jt 32 30 (.bin .neq (.t 31) (kk 0)),jt 33 30 (.mov (.t 32)),jf 34 33 (.load true 12 (.t 6)),jf 35 33 (.call 12 [(.t 34)]),jf 36 33 (.bin .neq (.t 35) (kk 0)),jt 37 30 (.pick (.t 33) kT (.t 36)),jt 38 30 (.mov (.t 37)),jf 39 38 (.load true 12 (.t 6)),jf 40 38 (.call 348 [(.t 39)]),jf 41 38 (.un .not (.t 40)),jt 42 30 (.pick (.t 38) kT (.t 41)),jj 43 (.pick (.t 30) (.t 42) kF),mv 44 43,jt 45 44 (.call 321 []),jj 46 (.pick (.t 44) (.t 45) kF),mv 2 46] [2] .ret))) (sr [la 48 12 6,cl 49 131 [48],mv 47 49,ex 50 47 0,ex 51 47 1,jj 9 (.alloc [sN,zN,zN,zN]),st 4 9 50,mv 10 51] [4,5,6,8,9,10] (sr [mv 53 4,jj 54 (.call 323 [(.t 53),(kk 5)]),mv 52 54,ex 55 52 0,ex 56 52 1,jj 12 (.alloc [sN,zN,zN,zN]),mv 11 55,st 4 12 56] [4,5,6,8,9,10,12] (.seq (sr [mv 57 5,bk 58 .neq 57 0,mv 59 58,jf 60 59 (.mov (.t 8)),jf 61 59 (.bin .neq (.t 60) (kk 0)),jj 62 (.pick (.t 59) kT (.t 61)),mv 63 62,jf 64 63 (.mov (.t 10)),jf 65 63 (.bin .neq (.t 64) (kk 0)),jj 66 (.pick (.t 63) kT (.t 65)),mv 67 66,jf 68 67 (.load true 12 (.t 6)),jf 69 67 (.call 12 [(.t 68)]),jf 70 67 (.bin .neq (.t 69) (kk 0)),jj 71 (.pick (.t 67) kT (.t 70)),mv 72 71,jf 73 72 (.load true 4 (.t 9)),jf 74 72 (.load true 4 (.t 12)),jf 75 72 (.call 346 [(.t 73),(.t 74)]),jf 76 72 (.un .not (.t 75)),jj 77 (.pick (.t 72) kT (.t 76)),mv 78 77,jf 79 78 (.load true 4 (.t 12)),jf 80 78 (.call 125 [(.t 79)]),jf 81 78 (.bin .neq (.t 80) (kk 0)),jj 82 (.pick (.t 78) kT (.t 81))] [4,12,82] (cs 82 (sr [mx 2 kF] [2] .ret))) (.seq (.region (some []) [mv 83 4,cl 84 343 [83],⟨some 85,.load true 4 (.t 12),none,[1]⟩,cl 86 349 [85],jj 87 (.bslice 2 [zN,zN] [(0,1,(kk 0)),(1,1,(.t 86))]),jj 88 (.call 109 [(ks [98,111,111,107]),(.t 87)]),bn 89 .eql 84 88,mv 90 89,jt 91 90 (.call 321 []),jj 92 (.pick (.t 90) (.t 91) kF),mv 2 92] [2] [3,5,8]) .ret)))))))))
@[simp] def F339l0x:PC:=(.seq (sr [mv 56 14,bk 57 .lss 56 2] [6,11,13,14,57] (.cond (.t 57) .skip (.exit 0))) (.seq (.block 1 (.seq (sr [mv 60 11,mv 61 14,jj 62 (.indexAddr 1 (.t 60) (.t 61)),l1 63 62,lz 64 63,bk 65 .gtr 64 2000] [6,11,13,14,65] (cs 65 (.exit 1))) (sr [mv 67 11,mv 68 14,jj 69 (.indexAddr 1 (.t 67) (.t 68)),l1 70 69,cl 71 317 [70],mv 66 71,ex 72 66 0,ex 73 66 1,mv 15 72,mv 16 73] [6,11,13,14,15,16] (.seq (sr [mv 74 15,jj 75 (.isnil true false (.t 74)),mv 76 75,jf 77 76 (.mov (.t 16)),jf 78 76 (.bin .neq (.t 77) (kk 0)),jj 79 (.pick (.t 76) kT (.t 78))] [6,11,13,14,15,79] (cs 79 (sr [mx 4 kF] [4] .ret))) (sr [mv 81 15,jj 82 (.call 323 [(.t 81),(kk 0)]),mv 80 82,ex 83 80 0,ex 84 80 1,jj 18 (.alloc [sN,zN,zN,zN]),mv 17 83,st 4 18 84] [6,11,13,14,15,18] (sr [la 85 4 13,la 86 4 18,cl 87 346 [85,86],jj 88 (.un .not (.t 87)),mv 89 88,jf 90 89 (.mov (.t 6)),jf 91 89 (.call 343 [(.t 90)]),jf 92 89 (.mov (.t 15)),jf 93 89 (.call 343 [(.t 92)]),jf 94 89 (.bin .neq (.t 91) (.t 93)),jj 95 (.pick (.t 89) kT (.t 94))] [6,11,13,14,95] (cs 95 (sr [mx 4 kF] [4] .ret)))))))) (rn [mv 58 14,bk 59 .add 58 1,mv 14 59] [6,11,13,14])))
def F339l0:PC:=F339l0x
theorem qem:run C q F339l0 fr σ = run C q F339l0x fr σ := rfl
def F339:PFun:=pf 2 [.tmp 4] (sr [mx 4 kF] [0,1] (sr [mv 19 0,cl 20 227 [19],mv 5 20] [1,5] (sr [mv 22 5,cl 23 317 [22],mv 21 23,ex 24 21 0,ex 25 21 1,mv 6 24,mv 7 25] [1,5,6,7] (.seq (sr [mv 26 6,jj 27 (.isnil true false (.t 26))] [1,5,6,7,27] (cs 27 (sr [mv 28 7,bk 29 .neq 28 0,mv 30 29,jt 31 30 (.call 321 []),jj 32 (.pick (.t 30) (.t 31) kF),mv 4 32] [4] .ret))) (sr [mv 34 5,cl 35 228 [34],mv 33 35,ex 36 33 0,ex 37 33 1,ex 38 33 2,jj 8 (.alloc [zN,zN,eN,sN,zN,zN,eN,sN,zN,zN,eN,sN]),st 12 8 36,mv 9 37,mv 10 38] [1,5,6,7,8,10] (.seq (sr [mv 39 7,bk 40 .neq 39 0,mv 41 40,jf 42 41 (.mov (.t 10)),jf 43 41 (.bin .neq (.t 42) (kk 0)),jj 44 (.pick (.t 41) kT (.t 43))] [1,5,6,8,44] (cs 44 (sr [mx 4 kF] [4] .ret))) (.seq (.region (some []) [mv 45 5,mv 46 1,cl 47 314 [45,46],⟨some 48,.load true 12 (.t 8),none,[2]⟩,cl 49 231 [48],jj 50 (.bslice 2 [eN,eN] [(0,1,(.t 47)),(1,1,(.t 49))]),mv 11 50] [6,11] [4]) (sr [mv 52 6,jj 53 (.call 323 [(.t 52),(kk 0)]),mv 51 53,ex 54 51 0,ex 55 51 1,jj 13 (.alloc [sN,zN,zN,zN]),mv 12 54,st 4 13 55] [6,11,13] (.seq (sr [mx 14 (kk 0)] [6,11,13,14] (.block 0 (.loop F339l0))) (sr [jj 96 (.call 321 []),mv 4 96] [4] .ret))))))))))
end Go.Pm.F
end
namespace Go.Pm
section
open F Gr
set_option maxHeartbeats 4000000
section
variable{prog:Nat->Option PFun}{s:ByteArray}{A B C:Nd}{q e x0 x1 x2:Int}{d dv:D}
theorem qw7(h:prog 317=some F317)(o:V.one (.dat d)=true)(c:V.cells (.dat d)=[.dat d])(he:e≠0)(z:Z prog (.call 322 [.str s] [])=some (.ret (.tup [pgD d x0 x1 x2,.int e]) [])):Z prog (.call 317 [.str s] [])=some (.ret (.tup [.dat (.lit (.pointer none)),.int e]) []):=by
 refine qac h rfl ?_
 simp only[pgD] at z
 simp[F317,z,o,c,he,Wa]
variable(h:prog 336=some F336)(hv:Z prog (.call 321 [] [])=some (.ret (.bool true) []))
 (zS:Z prog (.call 227 [.dat dv] [])=some (.ret (.str s) []))
 (zP:Z prog (.call 228 [.str s] [])=some (.ret (.tup [.dat (ru A B C),.int 0,.int 0]) []))
 (zC:Z prog (.call 12 [.dat (ru A B C)] [])=some (.ret (.int q) []))
include h hv zS zP zC
end
end
section
open F Gr
set_option maxHeartbeats 4000000
section
variable{prog:Nat->Option PFun}{P Q X:ByteArray}{A B C:Nd}{x0 x1 x2 R:Int}{d dv du:D}{w:List D}{f:Bool}{i:Int}
 (o:V.one (.dat d)=true)
 (zA:Z prog (.call 323 [.ptr 0 0,.int 0] [.cells [.dat (.sl w 1 true)]])=some (.ret (.tup [.int 0,pgD d x0 x1 x2]) [.cells [.dat (.sl w 1 true)]]))
 (zs:Z prog (.call 346 [pgD d x0 x1 x2,pgD d x0 x1 x2] [])=some (.ret (.bool true) []))
 (zr:Z prog (.call 343 [.ptr 0 0] [.cells [.dat (.sl w 1 true)]])=some (.ret (.dat (.lit (.int .u64 R))) [.cells [.dat (.sl w 1 true)]]))
abbrev nfF(P Q:ByteArray)(i:Int):Fr:=[(6,.ptr 0 0),(11,.dat (.sl [.lit (.string P),.lit (.string Q)] 2 true)),(13,.ptr 1 0),(14,.int i)]
abbrev nfS(w:List D)(d:D)(x0 x1 x2:Int):S:=[.cells [.dat (.sl w 1 true)],.cells [.dat d,.int x0,.int x1,.int x2]]
include o zA zs zr
theorem qol (hi:(i=0/\X=P)\/(i=1/\X=Q)) (hX:(2000:Int)<X.size\/(¬ (2000:Int)<X.size/\Z prog (.call 317 [.str X] [])=some (.ret (.tup [.ptr 0 0,.int 0]) [.cells [.dat (.sl w 1 true)]]))) {i1:Int} (e1:i1=i+1) :
  Z prog (.loop 0 F339l0 (nfF P Q i) (nfS w d x0 x1 x2))=Z prog (.loop 0 F339l0 (nfF P Q i1) (nfS w d x0 x1 x2)):=by
 simp only[pgD] at zA zs
 have a0:=qcr [.lit (.string P),.lit (.string Q)] 2 true 0 (by omega) (by omega)
 have a1:=qcr [.lit (.string P),.lit (.string Q)] 2 true 1 (by omega) (by omega)
 have b0:cutCells [D.lit (.string P),.lit (.string Q)] 0 1=some [.lit (.string P)]:=rfl
 have b1:cutCells [D.lit (.string P),.lit (.string Q)] 1 1=some [.lit (.string Q)]:=rfl
 have w1:IntKind.i64.wrap 1=1:=rfl
 have w2:IntKind.i64.wrap 2=2:=rfl
 conv=>lhs; rw[qaa]
 rcases hi with ⟨rfl,rfl⟩|⟨rfl,rfl⟩<;>subst e1<;>rcases hX with hX|⟨hX,zN⟩
 ·simp -implicitDefEqProofs [qab,qem,hX,a0,a1,b0,b1,w1,w2,V.len,Wa]
 ·simp -implicitDefEqProofs [qab,qem,hX,zN,zA,zs,zr,o,a0,a1,b0,b1,w1,w2,V.len,Wa]
  exact qah (by simp[Wa])
 ·simp -implicitDefEqProofs [qab,qem,hX,a0,a1,b0,b1,w1,w2,V.len,Wa]
 ·simp -implicitDefEqProofs [qab,qem,hX,zN,zA,zs,zr,o,a0,a1,b0,b1,w1,w2,V.len,Wa]
  exact qah (by simp[Wa])
omit o zA zs zr in
theorem qAf:Z prog (.loop 0 F339l0 (nfF P Q 2) (nfS w d x0 x1 x2))=some (.out (.exit 0) (nfF P Q 2++[(57,.bool false)]) (nfS w d x0 x1 x2)):=by
 rw[qaa]
 simp -implicitDefEqProofs [qab,qem,Wa]
omit o zA zs zr
variable(h:prog 339=some F339)(hv:Z prog (.call 321 [] [])=some (.ret (.bool true) [])){e:Int}
 (zS:Z prog (.call 227 [.dat dv] [])=some (.ret (.str Q) []))
include h hv zS
theorem qCh(he:e≠0)(zN:Z prog (.call 317 [.str Q] [])=some (.ret (.tup [.dat (.lit (.pointer none)),.int e]) [])):Z prog (.call 339 [.dat dv,.dat du] [])=some (.ret (.bool true) []):=by
 refine qac h rfl ?_
 simp -implicitDefEqProofs [F339,zS,zN,he,hv,Wa]
theorem qCi (o:V.one (.dat d)=true) (c:V.cells (.dat d)=[.dat d])
  (zA:Z prog (.call 323 [.ptr 0 0,.int 0] [.cells [.dat (.sl w 1 true)]])=some (.ret (.tup [.int 0,pgD d x0 x1 x2]) [.cells [.dat (.sl w 1 true)]]))
  (zs:Z prog (.call 346 [pgD d x0 x1 x2,pgD d x0 x1 x2] [])=some (.ret (.bool true) []))
  (zr:Z prog (.call 343 [.ptr 0 0] [.cells [.dat (.sl w 1 true)]])=some (.ret (.dat (.lit (.int .u64 R))) [.cells [.dat (.sl w 1 true)]]))
  (zN:Z prog (.call 317 [.str Q] [])=some (.ret (.tup [.ptr 0 0,.int 0]) [.cells [.dat (.sl w 1 true)]]))
  (zP:Z prog (.call 228 [.str Q] [])=some (.ret (.tup [.dat (ru A B C),.int 0,.int 0]) [])) (zsp:Z prog (.call 314 [.str Q,.dat du] [])=some (.ret (.str P) [])) (zR:Z prog (.call 231 [.dat (ru A B C)] [])=some (.ret (.str Q) []))
  (hP:(2000:Int)<P.size\/(¬ (2000:Int)<P.size/\Z prog (.call 317 [.str P] [])=some (.ret (.tup [.ptr 0 0,.int 0]) [.cells [.dat (.sl w 1 true)]]))) (hS : ¬ (2000:Int)<Q.size):Z prog (.call 339 [.dat dv,.dat du] [])=some (.ret (.bool true) []):=by
 have zl:=(qol (Q:=Q) o zA zs zr (.inl ⟨rfl,rfl⟩) hP (i1:=1) rfl).trans ((qol (P:=P) o zA zs zr (.inr ⟨rfl,rfl⟩) (.inr ⟨hS,zN⟩) (i1:=2) rfl).trans qAf)
 refine qac h rfl ?_
 simp only[ru] at zP zR
 simp only[pgD] at zA
 have zl:=fun X:Ob=>(qah (prog:=prog) (k:=0) (b:=F339l0) (fr:=[(6,.ptr 0 0),(11,.dat (.sl [.lit (.string P),.lit (.string Q)] 2 true)),(13,.ptr 2 0),(14,.int 0)]) (σ := [.cells [.dat (.sl w 1 true)],X,.cells [.dat d,.int x0,.int x1,.int x2]]) (by simp[Wa])).trans zl
 simp only[nfF,nfS] at zl
 simp -implicitDefEqProofs [F339,zS,zN,zP,zsp,zR,zA,zl,hv,o,c,Wa]
end
end
section
theorem qpX : ∀ {l:List ByteArray} {ts r:List Tk},Hx l ts r -> ∃ A,ts=A++r/\A.map (·.s)=l /\ ∀ t∈A,t.bad=0
 |[],ts,r,h=>⟨[],h,rfl,fun t ht=>by cases ht⟩
 |x::l,ts,r,h=>by
  obtain⟨t,q,rfl,h1,h2,h3⟩:=h
  obtain⟨A,a1,a2,a3⟩:=qpX h3
  refine⟨t::A,by rw[a1]; rfl,by simp[a2,h1],fun u hu=>?_⟩
  rcases Wo.1 hu with rfl|hu
  ·exact h2
  ·exact a3 u hu
theorem qpY(s:ByteArray) : ∀ (n j:Nat),∀ t∈allT s n j,t.s.size≠0
 |0,j,t,h=>by simp[allT] at h
 |n+1,j,t,h=>by
  rw[allT] at h
  split at h
  ·rename_i hlt
   rcases Wo.1 h with rfl|h
   ·have:=(qgL hlt 12 2 6).1
    omega
   ·exact qpY s n _ t h
  ·cases h
theorem qln : ∀ (l:List Tk) (e:Tk),(∀ t∈l,t.s.size≠0)->(∀ t∈qpw (l++[e]),t.bad=0)->qpw (l++[e])=l++[e]
 |[],e,_,_=>by simp[qpw]
 |t::l,e,h,hb=>by
  rw[Wg,qpw] at hb ⊢
  have h1:=h t (WO ..)
  by_cases hc:t.bad≠0\/t.s.size=0
  ·rw[if_pos hc] at hb
   have:=hb t (by simp)
   rcases hc with hc|hc
   ·exact absurd this hc
   ·exact absurd hc h1
  ·rw[if_neg hc] at hb ⊢
   rw[qln l e (fun u hu=>h u (WA _ hu)) (fun u hu=>hb u (WA _ hu))]
theorem qvi{s:ByteArray}{l:List ByteArray}{e:Nat}(hx:Hx l (toks s) [⟨e,⟨#[]⟩,0⟩]):(refT s).map (·.s)=l++[⟨#[]⟩]:=by
 obtain⟨A,a1,a2,a3⟩:=qpX hx
 have h1:qpw (refT s)=toks s:=qtQ s
 have h2:qpw (refT s)=refT s:=qln _ _ (qpY s _ _) (by
  have:qpw (allT s (s.size+1) (qaD false (byl s))++[⟨s.size,⟨#[]⟩,0⟩])=toks s:=h1
  rw[this,a1]
  intro t ht
  rcases Wp.1 ht with ht|ht
  ·exact a3 t ht
  ·rw[Wm.1 ht])
 rw[<- h2,h1,a1,List.map_append,a2]
 rfl
def GapOk(g:List UInt8):Prop:=White g/\g.length<=8 /\ ∃ c q,g=c::q/\(c.toNat=32\/c.toNat=10\/c.toNat=9\/c.toNat=35)
theorem qnr : ∀ {l:List (List UInt8 × ByteArray)},(∀ p∈l,GapOk p.1/\Tg (byl p.2))->OkG l
 |[],_=>trivial
 | (g,t)::l,h=>by
  obtain⟨⟨h1,_,h2⟩,h3⟩:=h (g,t) (WO ..)
  refine⟨h1,h3,fun p hp=>?_,qnr fun p hp=>h p (WA _ hp)⟩
  obtain⟨⟨_,_,h4⟩,_⟩:=h p (WA _ (List.mem_of_mem_head? hp))
  exact .inl h4
theorem qlo : ∀ (a b:List (List UInt8 × ByteArray)),qc2 (a++b)=qc2 a++qc2 b
 |[],b=>rfl
 | (g,t)::a,b=>by simp[qc2,qlo a b]
theorem qpZ : ∀ g∈([[32],[10],[32,32,9],[35,97,123,10],[10,35,32,111,110,10,32],[32]]:List (List UInt8)),GapOk g:=by
 have hw : ∀ g∈([[32],[10],[32,32,9],[35,97,123,10],[10,35,32,111,110,10,32],[32]]:List (List UInt8)),White g:=by
  intro g hg r
  simp only[Wo,Wx,or_false] at hg
  rcases hg with rfl|rfl|rfl|rfl|rfl|rfl<;>simp[qaD]<;>omega
 intro g hg
 refine⟨hw g hg,?_⟩
 simp only[Wo,Wx,or_false] at hg
 rcases hg with rfl|rfl|rfl|rfl|rfl|rfl<;>exact⟨by decide,_,_,rfl,by decide⟩
end
section
open F
def gapLS:List (List UInt8):=[[32],[10],[32,32,9],[35,97,123,10],[10,35,32,111,110,10,32],[32]]
def qsv:List ByteArray:=[⟨#[32]⟩,⟨#[10]⟩,⟨#[32,32,9]⟩,⟨#[35,97,123,10]⟩,⟨#[10,35,32,111,110,10,32]⟩,⟨#[32]⟩]
abbrev qAy(v:D)(T:List Tk)(out:ByteArray)(i:Int):Fr:=[(1,.dat v),(5,.dat (.sl (tkC T) T.length false)),(6,.str out),(7,.int i)]
section
variable{prog:Nat->Option PFun}(Hb:Sub qad prog)(Hr:Sub tR prog)
include Hb in
theorem qoR {T:List Tk} {i:Nat} (hi:i<T.length) (hT:T.length<=2 ^ 30) {v:D} {xs:List Int} (hv:RowV v xs) (hx : ∀ x∈xs,I64 x) {out:ByteArray} (ho:out.size+(qlr T i).s.size<2 ^ 40) {i1:Int} (e1:i1=i+1) :
  ∃ g∈gapLS,Z prog (.loop 0 F314l0 (qAy v T out i) [])=Z prog (.loop 0 F314l0 (qAy v T (out++bs g++(qlr T i).s) i1) []):=by
 have w1:IntKind.i64.wrap ((i:Int)+1)=i1:=by rw[qai _ (by omega)]; omega
 have hlt:(i:Int)<T.length:=by omega
 have a1:=qBn T hi
 have a2:=qvl hi
 have l1:=qqP ([]:S) (tkC T) T.length false
 have k0:=hv.one
 have k1:=hv.cells
 obtain⟨n,hn0,hn,hL,hnum⟩ : ∃ n:Int,0<=n/\n<6/\(∀ σ,V.len σ .sl (.dat v)=some (xs.length:Int))/\((n=0 /\ ¬ (i:Int)<xs.length)\/((i:Int)<xs.length /\ ∃ c,qaf 1 (.dat v) (i:Int)=some (.dat (.imm (intsC xs) i))/\cutCells (intsC xs) i 1=some [.lit (.int .i64 c)]/\Z prog (.call 17 [.int c,.int 6] [])=some (.ret (.int n) []))):=by
  rcases hv with ⟨o,rfl,rfl⟩|rfl
  ·exact⟨0,by omega,by omega,fun σ => rfl,.inl ⟨rfl,by simp⟩⟩
  ·by_cases h:(i:Int)<xs.length
   ·have hlt2:i<xs.length:=by omega
    have hI:=hx _ (Yn hlt2)
    have z:=qgS Hb (qoe hI (m:=6) (by omega))
    have r:=qlM hI (m:=6) (by omega)
    exact⟨_,r.1,r.2,fun σ => rfl,.inr ⟨h,xs[i],qcr (intsC xs) xs.length false i (by omega) (by omega),qgh xs i hlt2,z⟩⟩
   ·exact⟨0,by omega,by omega,fun σ => rfl,.inl ⟨rfl,h⟩⟩
 have hat:=qcr (strC qsv) 6 true n hn0 (by omega)
 obtain⟨s,hs,hc⟩:=qhs (l:=qsv) (p:=n) ⟨hn0,hn⟩
 have hs7:s.size<=7:=by
  have : ∀ s∈qsv,s.size<=7:=by decide
  exact this s hs
 have hs2:s∈gapLS.map bs:=hs
 obtain⟨g,hg,hgs⟩:=WV.1 hs2
 refine⟨g,hg,?_⟩
 rw[hgs]
 simp only[qsv,strC,List.map] at hat hc
 generalize (qlr T i).s=t at *
 obtain⟨o1,q1⟩ : ∃ o1,out++s=o1:=⟨_,rfl⟩
 have z1:o1.size=out.size+s.size:=by rw[<- q1,W6]
 obtain⟨o2,q2⟩ : ∃ o2,o1++t=o2:=⟨_,rfl⟩
 rw[q1,q2]
 have g1 : ¬ (9223372036854775807:Int)<(out.size:Int)+s.size:=by omega
 have g2 : ¬ (9223372036854775807:Int)<(o1.size:Int)+t.size:=by omega
 conv=>lhs; rw[qaa]
 clear z1 hs2 hgs hg hs hv hx
 rcases hnum with ⟨rfl,hge⟩|⟨hlt2,c,c1,c2,c3⟩
 ·have hs0:s=⟨#[32]⟩:=by simpa using hc.symm
  have f1:(⟨#[32]⟩:ByteArray).size=1:=rfl
  rw[hs0] at q1
  have g1 : ¬ (9223372036854775807:Int)<(out.size:Int)+1:=by omega
  simp -implicitDefEqProofs [qab,qhp,f1,hL,hlt,hge,l1,w1,k0,k1,hat,hc,a1,a2,q1,q2,g1,g2,Wa]
 ·simp -implicitDefEqProofs [qab,qhp,hL,hlt,hlt2,c1,c2,c3,l1,w1,k0,k1,hat,hc,a1,a2,q1,q2,g1,g2,Wa]
include Hb in
theorem qly {T:List Tk} (hT:T.length<=2 ^ 30) {v:D} {xs:List Int} (hv:RowV v xs) (hx : ∀ x∈xs,I64 x) : ∀ (k i:Nat),i+k=T.length -> ∀ (out:ByteArray),out.size+8*wt ((T.drop i).map (·.s))<2 ^ 40 ->
  ∃ (L:List (List UInt8 × ByteArray)) (out':ByteArray) (b:V),L.map (·.2)=(T.drop i).map (·.s)/\(∀ p∈L,p.1∈gapLS)/\byl out'=byl out++qc2 L/\Z prog (.loop 0 F314l0 (qAy v T out i) [])=some (.out (.exit 0) [(1,.dat v),(5,.dat (.sl (tkC T) T.length false)),(6,.str out'),(7,.int T.length),(14,.bool false)] [])
 |0,i,h,out,_=>by
  obtain rfl:i=T.length:=by omega
  refine⟨[],out,.int 0,by simp,by simp,by simp[qc2],?_⟩
  have k0:=hv.one
  have k1:=hv.cells
  have l1:=qqP ([]:S) (tkC T) T.length false
  rw[qaa]
  simp[qab,qhp,l1,k0,k1]
 |k+1,i,h,out,ho=>by
  have hi:i<T.length:=by omega
  have hd:T.drop i=qlr T i::T.drop (i+1):=by rw[Ww hi,qp2 hi]
  rw[hd,Wv,wt] at ho
  obtain⟨g,hg,z⟩:=qoR Hb hi hT hv hx (out:=out) (by omega) (i1:=((i+1:Nat):Int)) (by omega)
  have hg7:g.length<=7:=by
   have : ∀ g∈gapLS,g.length<=7:=by decide
   exact this g hg
  obtain⟨L,out',b,h1,h2,h3,h4⟩:=qly hT hv hx k (i+1) (by omega) (out++bs g++(qlr T i).s) (by rw[W6,W6,qaw]; omega)
  refine⟨(g,(qlr T i).s)::L,out',b,by rw[hd]; simp[h1],?_,?_,z.trans h4⟩
  ·intro p hp
   rcases Wo.1 hp with rfl|hp
   ·exact hg
   ·exact h2 p hp
  ·rw[h3,qdH,qbp,qdH,qbp,qbp]
   simp[qc2]
include Hb Hr in
theorem qsw (h314:prog 314=some F314) {h:Nat->Option Ss} (hg : ∀ k,qdC (h k)) (hw:wt (qaY h)<=2000) {v:D} {xs:List Int} (hv:RowV v xs) (hx : ∀ x∈xs,I64 x) :
  ∃ (l:List (List UInt8 × ByteArray)) (w:List UInt8) (S:ByteArray),l.map (·.2)=qaY h/\(∀ p∈l,GapOk p.1)/\GapOk w/\byl S=qc2 l++w/\Z prog (.call 314 [.str (bs (qap false (qaY h))),.dat v] [])=some (.ret (.str S) []):=by
 have hlen:=qmV (qaY h) false
 obtain⟨e,hx1⟩:=ql4 (qmG hg).ok
 have hT:=qvi hx1
 obtain⟨z1,z2⟩:=qtP (bs (qap false (qaY h))) (by rw[qaw]; omega)
 have z1:=qgS Hr z1
 rw[qaw] at z2
 generalize refT (bs (qap false (qaY h)))=T at *
 obtain⟨L,out',b,h1,h2,h3,h4⟩:=qly Hb (T:=T) (by omega) hv hx T.length 0 (by omega) ⟨#[]⟩ (by
  rw[WJ,hT,qdS]
  show 0+8*(_+(0+1+0))<_
  omega)
 rw[WJ,hT] at h1
 obtain⟨l,q,rfl⟩ : ∃ l q,L=l++[q]:=by
  rcases List.eq_nil_or_concat L with rfl|⟨l,q,rfl⟩
  ·simp at h1
  ·exact⟨l,q,by simp⟩
 rw[List.map_append,Wv,WB] at h1
 have h5:=List.append_inj' h1 rfl
 have hq:q.2=⟨#[]⟩:=by have:=h5.2; simpa using this
 refine⟨l,q.1,out',h5.1,fun p hp=>qpZ _ (h2 p (Yr _ hp)),qpZ _ (h2 q (by simp)),?_,?_⟩
 ·rw[h3,qlo]
  simp[qc2,hq,byl]
 ·have k0:=hv.one
  have k1:=hv.cells
  have h4':Z prog (.loop 0 F314l0 (qAy v T ⟨#[]⟩ 0) [])=_:=h4
  refine qac (h314) rfl ?_
  simp -implicitDefEqProofs [F314,k0,k1,z1,h4']
end
end
section
open F
attribute [local simp] qbd qbU dkey
theorem qhY : ∀ {ts:List Tk} {x:ByteArray},nx ts=some x -> ∃ t r,ts=t::r/\t.bad=0/\t.s=x
 |[],x,h=>by cases h
 |t::r,x,h=>by
  by_cases hb:t.bad=0
  ·rw[nx,if_pos hb] at h
   exact⟨t,r,rfl,hb,Yb h⟩
  ·rw[nx,if_neg hb] at h; cases h
theorem qhZ{T:List Tk}{i:Nat}{t:Tk}{r:List Tk}(h:T.drop i=t::r):T.drop (i+1)=r:=by rw[<- List.drop_drop,h]; rfl
section
variable(s:ByteArray)(T:List Tk)
def Px(g lv:Nat)(ts:List Tk)(e:E)(r:List Tk):Prop:=
 ∀ i:Nat,T.drop i=ts -> ∃ i':Nat,T.drop i'=r/\Z tP (.call g [.ptr 0 0,.int lv] (PS s T i 0 12))=some (.ret e.node (PS s T i' 0 12))
def Lx(p lv:Nat)(e:E)(ts:List Tk)(e':E)(r:List Tk):Prop:=
 ∀ i:Nat,T.drop i=ts -> ∃ i':Nat,T.drop i'=r/\Z tP (.loop 5 F285l0 (bqF (clF p) (.sl (strC (qjL p)) (qjL p).length true)) (BL s T lv i 0 12 e))=Z tP (.loop 5 F285l0 (bqF (clF p) (.sl (strC (qjL p)) (qjL p).length true)) (BL s T lv i' 0 12 e'))
variable{s:ByteArray}{T:List Tk}{p q lv i:Nat}{ts r r':List Tk}{e e':E}{x:ByteArray}
theorem pex(hT:T.length<2 ^ 40)(hx:x≠⟨#[]⟩)(hn:nx ts=some x)(hi:T.drop i=ts):T.drop (i+1)=ts.tail/\Z tP (.call 253 [.ptr 0 0,.str x] (PS s T i 0 12))=some (.ret (.tup []) (PS s T ((i+1:Nat):Int) 0 12)):=by
 obtain⟨t,r,rfl,hb,rfl⟩:=qhY hn
 exact⟨qhZ hi,qj2 hi hb hT hx⟩
theorem pop(hT:T.length<2 ^ 40)(hx:x≠⟨#[]⟩)(hn:nx ts=some x)(hi:T.drop i=ts)(hlv:lv<=20):T.drop (i+1)=ts.tail/\Z tP (.call 270 [.ptr 0 0,.str x,.int lv] (PS s T i 0 12))=some (.ret (.tup []) (PS s T ((i+1:Nat):Int) 0 12)):=by
 obtain⟨h1,z⟩:=pex (s:=s) hT hx hn hi
 obtain⟨t,r,rfl,hb,rfl⟩:=qhY hn
 refine⟨h1,?_⟩
 have zi:=qci (s:=s) (a:=0) (c:=12) hi hb (qaN [t.s] true) (by simp) (by simp; exact fun e=>hx e.symm)
 simp only[PS,pO,strC,Wv,WB,Ws,Wm,decide_true] at zi z
 have h20 : ¬ (20:Int)<lv:=by omega
 generalize ((i+1:Nat):Int)=j at *
 refine qac (pf:=F270) rfl rfl ?_
 simp[F270,zi,z,h20,Wa]
theorem qum(hp:qgB p){e0:E}{r0:List Tk}(h:Px s T (fnP (p+1)) lv ts e0 r0)(hl:Lx s T p lv e0 r0 e r)(hs:Stops p r):Px s T (fnP p) lv ts e r:=fun i hi=>by
 obtain⟨i1,a1,z⟩:=h i hi
 obtain⟨i2,a2,zl⟩:=hl i1 a1
 obtain⟨y,y1,y2⟩:=hs
 obtain⟨t,q,rfl,hb,rfl⟩:=qhY y1
 obtain⟨on,ol⟩:=quO hp
 have hd:=qaN (qjL p) true
 exact⟨i2,a2,qC8 hp (qC7 hd.one hd.cells (qqD hp z) (zl.trans (qsX hd ol on a2 hb (qxF hp (y2 p (Wj p))) e)))⟩
theorem qwf(h:Px s T (fnP (p+1)) lv ts e r)(h1:1<=p)(h7:p<=7)(hs:Stops p r)(hx:nx ts=some x)(h3:p=3->x≠ustr false)(h7':p=7->x≠ustr true):Px s T (fnP p) lv ts e r:=by
 have bin:qgB p->Px s T (fnP p) lv ts e r:=fun hp=>qum hp h (fun i hi=>⟨i,hi,rfl⟩) hs
 obtain⟨t,q,rfl,hb,rfl⟩:=qhY hx
 obtain rfl|rfl|rfl|rfl|rfl|rfl|rfl:p=1\/p=2\/p=3\/p=4\/p=5\/p=6\/p=7:=by omega
 ·exact bin (.inl rfl)
 ·exact bin (.inr (.inl rfl))
 ·intro i hi
  obtain⟨i',a1,z⟩:=h i hi
  exact⟨i',a1,qCF (neg:=false) hi hb (h3 rfl) z⟩
 ·intro i hi
  obtain⟨i',a1,z⟩:=h i hi
  obtain⟨y,y1,y2⟩:=hs
  obtain⟨t2,r2,rfl,hb2,rfl⟩:=qhY y1
  exact⟨i',a1,qB7 z a1 hb2 (qtp (y2 4 (by omega)))⟩
 ·exact bin (.inr (.inr (.inl rfl)))
 ·exact bin (.inr (.inr (.inr rfl)))
 ·intro i hi
  obtain⟨i',a1,z⟩:=h i hi
  exact⟨i',a1,qCF (neg:=true) hi hb (h7' rfl) z⟩
theorem qft(h:Px s T (fnP q) lv ts e r)(hq:q<=8)(hx:nx ts=some x) : ∀ (k p:Nat),p+k=q->1<=p->Stops p r->(p<=3->3<q->x≠ustr false)->(p<=7->7<q->x≠ustr true)->Px s T (fnP p) lv ts e r
 |0,p,hp,_,_,_,_=>by rw[show p=q by omega]; exact h
 |k+1,p,hp,h1,hs,h3,h7=>qwf (qft h hq hx k (p+1) (by omega) (by omega) (hs.mono (by omega)) (fun a b=>h3 (by omega) b) (fun a b=>h7 (by omega) b)) h1 (by omega) hs hx (fun a=>h3 (by omega) (by omega)) (fun a=>h7 (by omega) (by omega))
theorem qwg(hp:qgB p)(hT:T.length<2 ^ 40){o:Bop}(ho:o.prec=p)(hn:nx ts=some o.str)(h:Px s T (fnP (p+1)) lv ts.tail e' r):Lx s T p lv e ts (.bin true o e e') r:=fun i hi=>by
 obtain⟨t,q,rfl,hb,hs⟩:=qhY hn
 obtain⟨i',a1,z⟩:=h (i+1) (qhZ hi)
 obtain⟨on,ol⟩:=quO hp
 exact⟨i',a1,qqE (qaN (qjL p) true) ol hT on hi hb (qxE hp (o:=o) (by rw[hs,<- ho]; exact qnP o)).2 hs e e' (qqD hp z)⟩
theorem qzn(hT:T.length<2 ^ 40){o:Bop}(ho:o.prec=4)(h:Px s T 297 lv ts e r)(hn:nx r=some o.str)(h2:Px s T 297 lv r.tail e' r'):Px s T 292 lv ts (.bin true o e e') r':=fun i hi=>by
 obtain⟨i1,a1,z⟩:=h i hi
 obtain⟨t,q,rfl,hb,hs⟩:=qhY hn
 obtain⟨i2,a2,z2⟩:=h2 (i1+1) (qhZ a1)
 exact⟨i2,a2,qC1 hT z a1 hb (qto (o:=o) (by rw[hs,<- ho]; exact qnP o)).2 hs z2⟩
theorem qBN(hT:T.length<2 ^ 40){neg:Bool}(hlv:lv+1<=20)(hn:nx ts=some (ustr neg))(h:Px s T (unF neg) (lv+1) ts.tail e r):Px s T (unF neg) lv ts (.un true neg e) r:=fun i hi=>by
 obtain⟨a1,zo⟩:=pop (s:=s) hT (by cases neg<;>decide) hn hi hlv
 obtain⟨i2,a2,z⟩:=h _ a1
 obtain⟨t,q,rfl,hb,hs⟩:=qhY hn
 exact⟨i2,a2,qCZ (by omega) hi hb hs zo z⟩
theorem qzo(hT:T.length<2 ^ 40)(hlv:lv+1<=20){t:Tk}(hb:t.bad=0)(hn:nx ts=some (bs [91]))(h:Px s T 279 (lv+1) ts.tail e r)(hc:nx r=some (bs [93])):Px s T 280 lv (t::ts) e r.tail:=fun i hi=>by
 obtain⟨a1,zo⟩:=pop (s:=s) (lv:=lv+1) hT (by decide) hn (qhZ hi) hlv
 obtain⟨i2,a2,z⟩:=h _ a1
 obtain⟨a3,zc⟩:=pex (s:=s) hT (by decide) hc a2
 exact⟨_,a3,qBK (by omega) hT hi hb zo z zc⟩
theorem qsZ(hT:T.length<2 ^ 40)(hlv:lv+1<=20)(hn:nx ts=some (bs [40]))(h:Px s T 279 (lv+1) ts.tail e r)(hc:nx r=some (bs [41])):Px s T 309 lv ts e r.tail:=fun i hi=>by
 obtain⟨a1,zo⟩:=pop (s:=s) hT (by decide) hn hi hlv
 obtain⟨i2,a2,z⟩:=h _ a1
 obtain⟨a3,zc⟩:=pex (s:=s) hT (by decide) hc a2
 obtain⟨t,q,rfl,hb,hs⟩:=qhY hn
 have hk:kindT t=5:=by rw[qcC hb,hs]; decide
 exact⟨_,a3,qBJ (by omega) hi hb (by rw[hk]; decide) (by rw[hk]; decide) (by rw[hk]; decide) (by rw[hs]; decide) (by rw[hs]; decide) (by rw[hs]; decide) zo z zc⟩
theorem qzp(hT:T.length<2 ^ 40)(hg:e.good)(h:e.tx false 8=[x])(hn:nx ts=some x):Px s T 309 lv ts e ts.tail:=fun i hi=>by
 obtain⟨t,q,rfl,hb,hs⟩:=qhY hn
 refine⟨i+1,qhZ hi,?_⟩
 have hk:=qcC hb
 rw[hs] at hk
 cases e with
 |int n=>
  simp only[E.tx,WI,and_true] at h
  obtain⟨g1,g2⟩:=hg
  have hd:=qig (n:=n.toNat) (by omega)
  have hv:=(qgD (n:=n.toNat) (by omega)).1
  rw[h] at hd
  obtain⟨d1,d2⟩:=qqc x hd
  have hval:(valT t:Int)=n:=by
   unfold valT
   rw[hs,if_pos hd,<- h,qbp,hv]
   omega
  rw[<- hval]
  exact qA7 hT hi hb (by rw[hk,qkw,if_neg d1,d2,if_neg (by decide),if_pos hd])
 |bool n=>
  simp only[E.tx,WI,and_true] at h
  rcases hg with rfl|rfl
  ·have h:qeP=x:=by rw[<- h]; rfl
   subst h
   exact quX hT hi hb (by rw[hk]; decide) hs
  ·have h:qgU=x:=by rw[<- h]; rfl
   subst h
   exact qyc hT hi hb (by rw[hk]; decide) hs
 |var w=>
  simp only[E.tx,WI,and_true] at h
  obtain⟨g1,g2,g3,g4⟩:=hg
  subst h
  rw[<- hs]
  exact qA8 hT hi hb (by rw[hk,qkw,if_neg (qgr g2),if_pos g2,if_neg g3,if_neg g4])
 |name w=>
  simp only[E.tx,WI,and_true] at h
  subst h
  have hm:t.s∈qmm:=by rw[hs]; rcases hg with rfl|rfl|rfl<;>decide
  rw[<- hs]
  exact qyd hT hi hb (by rw[hk]; rcases hg with rfl|rfl|rfl<;>decide) hm
 |field g w e=>simp[E.tx] at h
 |un g n e=>cases n<;>simp[E.tx,qbR,qdK] at h
 |bin g o a b=>have:=qsQ false hg.1 o.left; cases o<;>simp[E.tx,qbR,Bop.prec] at h
theorem qzq(hT:T.length<2 ^ 40)(hx:x∈fieldNames)(hn:nx ts=some x)(h:Px s T 280 lv ts e r):Px s T 309 lv ts (.field true x e) r:=fun i hi=>by
 obtain⟨i2,a2,z⟩:=h i hi
 obtain⟨t,q,rfl,hb,rfl⟩:=qhY hn
 have hall : ∀ w∈fieldNames,qkw w=3:=by decide
 exact⟨i2,a2,qA9 hi hb (by rw[qcC hb,hall _ hx]) z⟩
end
end
section
open F
section
variable{s:ByteArray}{T:List Tk}{p q lv i:Nat}{ts r r':List Tk}{e e':E}{x:ByteArray}{l:List ByteArray}
theorem qlF(hT:T.length<2 ^ 40)(ho:Hx (bs [40]::(l++[bs [41]])) ts r)(hl:lv+1<=20)(hb : ∀ mid,Hx l ts.tail mid->Stops 1 mid->Px s T (fnP 1) (lv+1) ts.tail e mid)(h1:1<=p)(h8:p<=8)(hs:Stops p r):Px s T (fnP p) lv ts e r:=by
 obtain⟨hn,ht⟩:=qcE ho
 obtain⟨mid,hm1,hm2⟩:=hx_app.1 ht
 obtain⟨hc,hend⟩:=qcE hm2
 have hst:Stops 1 mid:=qfX _ (qiS _ (by intro o; cases o<;>decide)) hm2
 have base:Px s T (fnP 8) lv ts e r:=by rw[<- (show mid.tail=r from hend)]; exact qsZ hT hl hn (hb mid hm1 hst) hc
 exact qft base (by omega) hn (8-p) p (by omega) h1 hs (fun _ _=>by decide) (fun _ _=>by decide)
theorem rbZ (hT:T.length<2 ^ 40) : ∀ e:E,e.good ->
  (∀ p lv ts r,1<=p->p<=8->Hx (e.tx false p) ts r->lv+e.nest false p<=20->Stops p r->Px s T (fnP p) lv ts (e.fl true) r) /\
  (∀ q lv ts r,qgB q->Hx (e.tx false q) ts r->lv+e.nest false q<=20->Stops (q+1) r -> ∃ e0 r0,Px s T (fnP (q+1)) lv ts e0 r0/\Lx s T q lv e0 r0 (e.fl true) r):=by
 have pr : ∀ {q},qgB q->1<=q/\q<=6/\q≠4/\q≠3:=fun hq=>by rcases hq with rfl|rfl|rfl|rfl<;>omega
 have self : ∀ {e q lv ts r},Px s T (fnP (q+1)) lv ts e r -> ∃ e0 r0,Px s T (fnP (q+1)) lv ts e0 r0/\Lx s T q lv e0 r0 e r:=fun h=>⟨_,_,h,fun i hi=>⟨i,hi,rfl⟩⟩
 have one : ∀ (e:E) (x:ByteArray),e.good->(∀ p,e.tx false p=[x])->e.fl true=e->x≠ustr false->x≠ustr true ->
   (∀ p lv ts r,1<=p->p<=8->Hx (e.tx false p) ts r->lv+e.nest false p<=20->Stops p r->Px s T (fnP p) lv ts (e.fl true) r) /\
   (∀ q lv ts r,qgB q->Hx (e.tx false q) ts r->lv+e.nest false q<=20->Stops (q+1) r -> ∃ e0 r0,Px s T (fnP (q+1)) lv ts e0 r0/\Lx s T q lv e0 r0 (e.fl true) r):=by
  intro e x hg he hfl h1 h2
  have A : ∀ p lv ts r,1<=p->p<=8->Hx (e.tx false p) ts r->Stops p r->Px s T (fnP p) lv ts (e.fl true) r:=fun p lv ts r p1 p8 hx hs=>by
   rw[he p] at hx
   obtain⟨hn,ht⟩:=qcE hx
   cases ht
   rw[hfl]
   exact qft (q:=8) (qzp hT hg (he 8) hn) (by omega) hn (8-p) p (by omega) p1 hs (fun _ _=>h1) (fun _ _=>h2)
  exact⟨fun p lv ts r p1 p8 hx _ hs=>A p lv ts r p1 p8 hx hs,fun q lv ts r hq hx _ hs=>self (A (q+1) lv ts r (by omega) (by have:=pr hq; omega) (by rw[he] at hx ⊢; exact hx) hs)⟩
 intro e
 induction e with
 |int n=>
  intro hg
  have hd:=qig (n:=n.toNat) (by have:=hg.1; have:=hg.2; omega)
  exact one _ _ hg (fun p=>rfl) rfl (by intro h; rw[h] at hd; exact absurd hd (by decide)) (by intro h; rw[h] at hd; exact absurd hd (by decide))
 |bool n=>exact fun hg=>one _ _ hg (fun p=>rfl) rfl (by split<;>decide) (by split<;>decide)
 |var w=>exact fun hg=>one _ _ hg (fun p=>rfl) rfl (by rintro rfl; exact absurd hg.2.1 (by decide)) (by rintro rfl; exact absurd hg.2.1 (by decide))
 |name w=>exact fun hg=>one _ _ hg (fun p=>rfl) rfl (by rcases hg with rfl|rfl|rfl<;>decide) (by rcases hg with rfl|rfl|rfl<;>decide)
 |field g w e ih=>
  intro hg
  obtain⟨g1,g2⟩:=hg
  have A : ∀ p lv ts r,1<=p->p<=8->Hx ((E.field g w e).tx false p) ts r->lv+(E.field g w e).nest false p<=20->Stops p r->Px s T (fnP p) lv ts ((E.field g w e).fl true) r:=fun p lv ts r h1 h8 hx hl hs=>by
   obtain⟨hn,ht⟩:=qcE hx
   obtain⟨hn2,ht2⟩:=qcE ht
   obtain⟨mid,hm1,hm2⟩:=hx_app.1 ht2
   obtain⟨hc,hend⟩:=qcE hm2
   simp only[E.nest] at hl
   have hst:Stops 1 mid:=qfX _ (qiS _ (by intro o; cases o<;>decide)) hm2
   have hk:=(ih g2).1 1 (lv+1) _ mid (by omega) (by omega) hm1 (by omega) hst
   have hs' : ∀ x:ByteArray,x∉fieldNames->w≠x:=fun x hx he=>hx (he ▸ g1)
   obtain⟨t,q,rfl,hb,_⟩:=qhY hn
   have hend:mid.tail=r:=hend
   have hi:=qzo hT (by omega) hb hn2 hk hc
   rw[hend] at hi
   exact qft (q:=8) (qzq hT g1 hn hi) (by omega) hn (8-p) p (by omega) h1 hs (fun _ _=>hs' _ (by decide)) (fun _ _=>hs' _ (by decide))
  exact⟨A,fun q lv ts r hq hx hl hs=>self (A (q+1) lv ts r (by omega) (by have:=pr hq; omega) hx hl hs)⟩
 |un g neg e ih=>
  intro hg
  have bare : ∀ lv ts r,Hx (ustr neg::e.tx false (qdK neg)) ts r->lv+e.nest false (qdK neg)+1<=20 -> ∀ p,1<=p->p<=qdK neg->Stops p r->Px s T (fnP p) lv ts ((E.un g neg e).fl true) r:=fun lv ts r hx hl p h1 hp hs=>by
   obtain⟨hn,ht⟩:=qcE hx
   have hk:=(ih hg).1 (qdK neg) (lv+1) _ r (by cases neg<;>decide) (by cases neg<;>decide) ht (by omega) (hs.mono hp)
   have e1:fnP (qdK neg)=unF neg:=by cases neg<;>rfl
   rw[e1] at hk
   have base:=qBN (neg:=neg) hT (by omega) hn hk
   rw[<- e1] at base
   refine qft base (by cases neg<;>decide) hn (qdK neg-p) p (by omega) h1 hs (fun a b=>?_) (fun a b=>?_)
   all_goals cases neg<;>first|decide|exact absurd b (by decide)
  have A : ∀ p lv ts r,1<=p->p<=8->Hx ((E.un g neg e).tx false p) ts r->lv+(E.un g neg e).nest false p<=20->Stops p r->Px s T (fnP p) lv ts ((E.un g neg e).fl true) r:=fun p lv ts r h1 h8 hx hl hs=>by
   simp only[E.tx,E.nest,qbR,YN,decide_eq_true_eq] at hx hl
   by_cases c:qdK neg<p
   ·rw[if_pos c] at hx hl
    exact qlF hT hx (by omega) (fun mid hm hst=>bare (lv+1) _ mid hm (by omega) 1 (by omega) (by cases neg<;>decide) hst) h1 h8 hs
   ·rw[if_neg c] at hx hl
    exact bare lv ts r hx (by omega) p h1 (by omega) hs
  refine⟨A,fun q lv ts r hq hx hl hs=>self (A (q+1) lv ts r (by omega) (by have:=pr hq; omega) ?_ ?_ hs)⟩
  all_goals
   have:(qdK neg<q+1)=(qdK neg<q):=by
    have:=pr hq
    have h:qdK neg=3\/qdK neg=7:=by cases neg<;>decide
    apply propext; omega
   simp only[E.tx,E.nest,this] at hx hl ⊢
   assumption
 |bin g o a b iha ihb=>
  intro hg
  have hp:=qaV o
  obtain⟨x,l,q1,q2,q3⟩:=qmM false a hg.1 o.left
  have loop : ∀ lv ts r,Hx (a.tx false o.left++o.str::b.tx false (o.prec+1)) ts r->lv+max (a.nest false o.left) (b.nest false (o.prec+1))<=20->Stops (o.prec+1) r ->
    if o.prec=4 then Px s T (fnP 4) lv ts ((E.bin g o a b).fl true) r else∃e0 r0,Px s T (fnP (o.prec+1)) lv ts e0 r0/\Lx s T o.prec lv e0 r0 ((E.bin g o a b).fl true) r:=fun lv ts r hx hl hs=>by
   obtain⟨mid,hm1,hm2⟩:=hx_app.1 hx
   obtain⟨hn,ht⟩:=qcE hm2
   have hst:Stops (o.prec+1) mid:=⟨_,hn,fun q hq=>qo3 o q (by omega)⟩
   have hk:=(ihb hg.2).1 (o.prec+1) lv _ r (by omega) (by omega) ht (by omega) hs
   by_cases c:o.prec=4
   ·rw[if_pos c]
    have hleft:o.left=o.prec+1:=by omega
    have ha:=(iha hg.1).1 (o.prec+1) lv ts mid (by omega) (by omega) (hleft ▸ hm1) (by rw[<- hleft]; omega) hst
    rw[c] at hk ha
    exact qzn hT c ha hn hk
   ·rw[if_neg c]
    have hleft:o.left=o.prec:=by omega
    have h4:qgB o.prec:=by unfold qgB; omega
    rw[hleft] at hm1 hl
    obtain⟨e0,r0,h1,h2⟩:=(iha hg.1).2 o.prec lv ts mid h4 hm1 (by omega) hst
    refine⟨e0,r0,h1,fun i hi=>?_⟩
    obtain⟨i1,a1,z1⟩:=h2 i hi
    obtain⟨i2,a2,z2⟩:=qwg h4 hT rfl hn hk i1 a1
    exact⟨i2,a2,z1.trans z2⟩
  have bare : ∀ lv ts r,Hx (a.tx false o.left++o.str::b.tx false (o.prec+1)) ts r->lv+max (a.nest false o.left) (b.nest false (o.prec+1))<=20 -> ∀ p,1<=p->p<=o.prec->Stops p r->Px s T (fnP p) lv ts ((E.bin g o a b).fl true) r:=fun lv ts r hx hl p h1 hpo hs=>by
   have h2:=loop lv ts r hx hl (hs.mono (by omega))
   have hnx:nx ts=some x:=by
    rw[q1] at hx
    exact (qcE hx).1
   have base:Px s T (fnP o.prec) lv ts ((E.bin g o a b).fl true) r:=by
    by_cases c:o.prec=4
    ·rw[if_pos c] at h2; rw[c]; exact h2
    ·rw[if_neg c] at h2
     obtain⟨e0,r0,h3,h4⟩:=h2
     exact qum (by unfold qgB; omega) h3 h4 (hs.mono hpo)
   exact qft base (by omega) hnx (o.prec-p) p (by omega) h1 hs (fun c1 c2 h=>by have:=q2 h; omega) (fun c1 c2=>by omega)
  have A : ∀ p lv ts r,1<=p->p<=8->Hx ((E.bin g o a b).tx false p) ts r->lv+(E.bin g o a b).nest false p<=20->Stops p r->Px s T (fnP p) lv ts ((E.bin g o a b).fl true) r:=fun p lv ts r h1 h8 hx hl hs=>by
   simp only[E.tx,E.nest,qbR,YN,decide_eq_true_eq] at hx hl
   by_cases c:o.prec<p
   ·rw[if_pos c] at hx hl
    exact qlF hT hx (by omega) (fun mid hm hst=>bare (lv+1) _ mid hm (by omega) 1 (by omega) (by omega) hst) h1 h8 hs
   ·rw[if_neg c] at hx hl
    exact bare lv ts r hx (by omega) p h1 (by omega) hs
  refine⟨A,fun q lv ts r hq hx hl hs=>?_⟩
  have hq':=pr hq
  by_cases c:o.prec=q
  ·subst c
   simp only[E.tx,E.nest,qbR,YN,decide_eq_true_eq,WX,if_false] at hx hl
   have:=loop lv ts r hx (by omega) hs
   rw[if_neg hq'.2.2.1] at this
   exact this
  ·have hd:(o.prec<q+1)=(o.prec<q):=by apply propext; omega
   refine self (A (q+1) lv ts r (by omega) (by omega) ?_ ?_ hs)
   all_goals
    simp only[E.tx,E.nest,hd] at hx hl ⊢
    assumption
end
end
section
open F
section
variable(s:ByteArray)(T:List Tk)
def Sx(lv:Nat)(ts:List Tk)(b:Ss)(r:List Tk):Prop:=
 ∀ i:Nat,T.drop i=ts -> ∃ (i':Nat) (k:Int) (y:ByteArray) (d:D),T.drop i'=r/\Z tP (.call 271 [.ptr 0 0,.int lv] (PS s T i 0 12))=some (.ret (nv k y d) (PS s T i' 0 12))/\V.one (.dat d)=true/\V.cells (.dat d)=[.dat d]/\b.fo.cells=[.lit (.int .i64 k),.lit (.int .i64 0),.lit (.string y),d]/\b.fo.len=1
def Bx(lv:Nat)(ts:List Tk)(b:Ss)(r:List Tk):Prop:=
 ∀ i:Nat,T.drop i=ts -> ∃ i':Nat,T.drop i'=r/\Z tP (.call 256 [.ptr 0 0,.int lv] (PS s T i 0 12))=some (.ret (nv 7 ⟨#[]⟩ (kd false b.fo.len b.fo.cells)) (PS s T i' 0 12))
def Rx(lv:Nat)(a:Ss)(ts:List Tk)(b:Ss)(r:List Tk):Prop:=
 ∀ (i:Nat) (v:V) (σt:S),T.drop i=ts->qxY v σt a.fo.cells a.fo.len -> ∃ (i':Nat) (t':Tk) (v':V) (σt':S),T.drop i'=t'::r/\t'.bad=0/\t'.s=qtf/\qxY v' σt' b.fo.cells b.fo.len/\Z tP (.loop 3 F256l0 (bzF lv) (bzS s T i 0 12 v σt))=some (.out (.exit 0) (bzF lv++[(13,.bool false)]) (bzS s T i' 0 12 v' σt'))
variable{s:ByteArray}{T:List Tk}{lv:Nat}{ts r m:List Tk}{a b b1 b2:Ss}{e e':E}{x:ByteArray}{l:List ByteArray}
theorem qyN(hn:nx ts=some (bs [125])):Rx s T lv a ts a ts.tail:=fun i v σt hi hr=>by
 obtain⟨t,q,rfl,hb,hs⟩:=qhY hn
 exact⟨i,t,v,σt,hi,hb,hs,hr,qzP hi hb hs hr⟩
theorem qg9(hn:nx ts=some x)(hx:x≠bs [125])(hl:a.fo.len<=2 ^ 40)(h:Sx s T lv ts b1 m)(h2:Rx s T lv (a.app b1) m b r):Rx s T lv a ts b r:=fun i v σt hi hr=>by
 obtain⟨i1,k,y,d,a1,z,o1,o2,c1,c2⟩:=h i hi
 obtain⟨t,q,rfl,hb,rfl⟩:=qhY hn
 obtain⟨v',σt',r1,r2⟩:=qtg hi hb hx hr hl o1 o2 z
 obtain⟨i3,t3,v3,σ3,e1,e2,e3,e4,e5⟩:=h2 i1 v' σt' a1 (by rw[qi4,qhP,qdq,c1,c2]; exact r1)
 exact⟨i3,t3,v3,σ3,e1,e2,e3,e4,r2.trans e5⟩
theorem qyO(hT:T.length<2 ^ 40)(hlv:lv<=20)(hn:nx ts=some (bs [123]))(h:Rx s T lv .nil ts.tail b r):Bx s T lv ts b r:=fun i hi=>by
 obtain⟨a1,zo⟩:=pop (s:=s) hT (by decide) hn hi hlv
 obtain⟨i3,t3,v3,σ3,e1,e2,e3,e4,e5⟩:=h _ _ [] a1 (.inl ⟨rfl,rfl,rfl,rfl⟩)
 exact⟨i3+1,qhZ e1,qB3 hT zo e4 e5 e1 e2 e3⟩
theorem qkx(hT:T.length<2 ^ 40)(hn:nx ts=some (bs [59])){i:Nat}(hi:T.drop i=ts){k:Int}{y:ByteArray}{d:D}(od:V.one (.dat d)=true)(oc:V.cells (.dat d)=[.dat d]):Z tP (.call 278 [.ptr 0 0,nv k y d] (PS s T i 0 12))=some (.ret (nv k y d) (PS s T ((i+1:Nat):Int) 0 12)):=
 qA5 od oc (pex hT (by decide) hn hi).2
theorem ex1(hT:T.length<2 ^ 40)(hg:e.good)(hx : ∀ o:Bop,o.str≠x)(h:Hx (e.tx false 1++x::l) ts r)(hl:lv+e.nest false 1<=20) : ∃ mid,Px s T 279 lv ts (e.fl true) mid/\nx mid=some x/\Hx l mid.tail r/\Hx (x::l) mid r:=by
 obtain⟨mid,h1,h2⟩:=hx_app.1 h
 obtain⟨h3,h4⟩:=qcE h2
 exact⟨mid,(rbZ (s:=s) hT e hg).1 1 lv ts mid (by omega) (by omega) h1 hl (qzr x hx h2),h3,h4,h2⟩
theorem qqd(hT:T.length<2 ^ 40)(hlv:lv<=20)(hg:qqH x)(hn:nx ts=some x)(h1:nx ts.tail=some (bs [61]))(he:Px s T 279 lv ts.tail.tail e m)(h2:nx m=some (bs [59])):Sx s T lv ts (.assign true x e .nil) m.tail:=fun i hi=>by
 obtain⟨t,q,rfl,hb,rfl⟩:=qhY hn
 obtain⟨a1,z1⟩:=pex (s:=s) hT (by decide) h1 (qhZ hi)
 obtain⟨i2,a2,z2⟩:=he _ a1
 have z3:=qkx (s:=s) hT h2 a2 (k:=1) (y:=t.s) (d := .sl (cE e) 1 true) rfl rfl
 have hk:kindT t=1:=by rw[qcC hb,qkw,if_neg (qgr hg.2.1),if_pos hg.2.1,if_neg hg.2.2.1,if_neg hg.2.2.2]
 exact⟨_,_,_,_,(pex (s:=s) hT (by decide) h2 a2).1,qmk hlv hT hi hb hk z1 z2 z3,rfl,rfl,by simp[Ss.fo],by simp[Ss.fo]⟩
theorem kd2{t:Tk}(hb:t.bad=0)(h:qkw t.s=2):decide (kindT t=1)=false/\decide (kindT t=3)=false:=by rw[qcC hb,h]; decide
theorem qsm(hT:T.length<2 ^ 40)(hlv:lv+1<=20)(hg:x∈fieldNames)(hn:nx ts=some x){m1 m2:List Tk}(hi:Px s T 280 lv ts e m1)(h1:nx m1=some (bs [61]))(he:Px s T 279 lv m1.tail e' m2)(h2:nx m2=some (bs [59])):Sx s T lv ts (.store true x e e' .nil) m2.tail:=fun i ht=>by
 obtain⟨i1,a1,z1⟩:=hi i ht
 obtain⟨a2,z2⟩:=pex (s:=s) hT (by decide) h1 a1
 obtain⟨i3,a3,z3⟩:=he _ a2
 obtain⟨t,q,rfl,hb,rfl⟩:=qhY hn
 have z4:=qkx (s:=s) hT h2 a3 (k:=2) (y:=t.s) (d := .sl (cE e++cE e') 2 true) rfl rfl
 have hall : ∀ w∈fieldNames,qkw w=3:=by decide
 exact⟨_,_,_,_,(pex (s:=s) hT (by decide) h2 a3).1,qot (by omega) hT ht hb (by rw[qcC hb,hall _ hg]) z1 z2 z3 z4,rfl,rfl,by simp[Ss.fo],by simp[Ss.fo]⟩
theorem qqe(hT:T.length<2 ^ 40)(hlv:lv<=20)(hn:nx ts=some qkH){m1 m2:List Tk}(h:Px s T 279 lv ts.tail e m1)(h1:nx m1=some (bs [44]))(he:Px s T 279 lv m1.tail e' m2)(h2:nx m2=some (bs [59])):Sx s T lv ts (.effect true e e' .nil) m2.tail:=fun i ht=>by
 obtain⟨t,q,rfl,hb,hs⟩:=qhY hn
 obtain⟨i1,a1,z1⟩:=h _ (qhZ ht)
 obtain⟨a2,z2⟩:=pex (s:=s) hT (by decide) h1 a1
 obtain⟨i3,a3,z3⟩:=he _ a2
 have z4:=qkx (s:=s) hT h2 a3 (k:=5) (y:=⟨#[]⟩) (d := .sl (cE e++cE e') 2 true) rfl rfl
 have hk:=kd2 hb (by rw[hs]; decide)
 exact⟨_,_,_,_,(pex (s:=s) hT (by decide) h2 a3).1,qml hlv hT ht hb hk.1 hk.2 hs z1 z2 z3 z4,rfl,rfl,by simp[Ss.fo],by simp[Ss.fo]⟩
theorem qvD(hT:T.length<2 ^ 40)(hlv:lv<=20)(hn:nx ts=some qs0)(h2:nx ts.tail=some (bs [59])):Sx s T lv ts (.stop .nil) ts.tail.tail:=fun i ht=>by
 obtain⟨t,q,rfl,hb,hs⟩:=qhY hn
 have hk:=kd2 hb (by rw[hs]; decide)
 have a3:=qhZ ht
 have z4:=qkx (s:=s) hT h2 a3 (k:=6) (y:=⟨#[]⟩) (d := .lit (.slice none 0 0)) rfl rfl
 exact⟨_,_,_,_,(pex (s:=s) hT (by decide) h2 a3).1,qpN hlv hT ht hb hk.1 hk.2 hs z4,rfl,rfl,by simp[Ss.fo],by simp[Ss.fo]⟩
theorem qsn(hT:T.length<2 ^ 40)(hlv:lv<=20)(hn:nx ts=some qnO)(h:Px s T 279 lv ts.tail e m)(h2:Bx s T (lv+1) m b r):Sx s T lv ts (.cond true true e (.block false b .nil) .nil) r:=fun i ht=>by
 obtain⟨t,q,rfl,hb,hs⟩:=qhY hn
 have hk:=kd2 hb (by rw[hs]; decide)
 obtain⟨i1,a1,z1⟩:=h _ (qhZ ht)
 obtain⟨i2,a2,z2⟩:=h2 _ a1
 exact⟨_,_,_,_,a2,qou hlv hT ht hb hk.1 hk.2 hs (by simp) (by simp) z1 z2,rfl,rfl,by simp[Ss.fo],by simp[Ss.fo]⟩
theorem qBr(hT:T.length<2 ^ 40)(hlv:lv<=20)(hn:nx ts=some ifS)(h:Px s T 279 lv ts.tail e m){m1:List Tk}(h2:Bx s T (lv+1) m b1 m1)(hel:(nx m1=some qkG/\Bx s T (lv+1) m1.tail b2 r)\/(∃ x,nx m1=some x/\x≠qkG/\b2 = .nil/\r=m1)):Sx s T lv ts (.cond false true e (.block false b1 (.block false b2 .nil)) .nil) r:=fun i ht=>by
 obtain⟨a0,z0⟩:=pex (s:=s) hT (by decide) hn ht
 obtain⟨t,q,rfl,hb,hs⟩:=qhY hn
 have hk:=kd2 hb (by rw[hs]; decide)
 obtain⟨i1,a1,z1⟩:=h _ a0
 obtain⟨i2,a2,z2⟩:=h2 _ a1
 rcases hel with ⟨h3,h4⟩|⟨x,h3,h4,rfl,rfl⟩
 ·obtain⟨t2,q2,rfl,hb2,hs2⟩:=qhY h3
  obtain⟨i3,a3,z3⟩:=h4 _ (qhZ a2)
  exact⟨_,_,_,_,a3,qpM hlv hT ht hb hk.1 hk.2 hs rfl rfl (qBM hlv (by simp) (by simp) z0 z1 z2 (by simp) (by simp) hT a2 hb2 hs2 z3),rfl,rfl,by simp[Ss.fo],by simp[Ss.fo]⟩
 ·obtain⟨t2,q2,rfl,hb2,rfl⟩:=qhY h3
  exact⟨_,_,_,_,a2,qpM hlv hT ht hb hk.1 hk.2 hs rfl rfl (qBL hlv (by simp) (by simp) z0 z1 z2 a2 hb2 h4),rfl,rfl,by simp[Ss.fo],by simp[Ss.fo]⟩
def qCA(s:ByteArray)(T:List Tk):Ss->Prop
 |.block _ b r=>(∀ lv ts q,Hx (bs [123]::(b.tx++[bs [125]])) ts q->lv+b.nest<=20->b.tx.length<=2 ^ 40->Bx s T lv ts (b.fl true true false) q)/\qCA s T r
 |_=>True
theorem qCW (hT:T.length<2 ^ 40) : ∀ z:Ss,
  (z.good none -> ∀ lv a ts r,Hx (z.tx++[bs [125]]) ts r->lv+z.nest<=20->a.fo.len+z.tx.length<=2 ^ 40->Rx s T lv a ts (a.app (z.fl true true false)) r) /\
  ((∃ k,z.good (some k))->qCA s T z):=by
 have one : ∀ {f:Ss} {a:Ss} {n:Nat},f.fo.len=1->a.fo.len+(n+1)<=2 ^ 40->(a.app f).fo.len+n<=2 ^ 40:=fun h1 h2=>by rw[qi4,qdq,h1]; omega
 intro z
 induction z with
 |nil=>
  refine⟨fun _ lv a ts r hx hl _=>?_,fun _=>trivial⟩
  obtain⟨hn,ht⟩:=qcE hx
  cases ht
  rw[Ss.fl,qo2]
  exact qyN hn
 |assign g w e r ih=>
  refine⟨fun hg lv a ts q hx hl hc=>?_,fun _=>trivial⟩
  obtain⟨-,g1,g2,g3⟩:=hg
  simp only[Ss.nest] at hl
  simp only[Ss.tx,Wg,Wf,We,Wb] at hx hc
  obtain⟨hn,h1⟩:=qcE hx
  obtain⟨hn1,h2⟩:=qcE h1
  obtain⟨mid,h3,h4,h5,h5'⟩:=ex1 (s:=s) hT g2 (by intro o; cases o<;>decide) h2 (lv:=lv) (by omega)
  have:=ih.1 g3 lv (a.app (.assign true w (e.fl true) .nil)) mid.tail q h5 (by omega) (one (by simp[Ss.fo]) (by omega))
  rw[qcn] at this
  exact qg9 hn (qmK g1 (.inr (.inr (by decide)))) (by omega) (qqd hT (by omega) g1 hn hn1 h3 h4) this
 |store g w x y r ih=>
  refine⟨fun hg lv a ts q hx hl hc=>?_,fun _=>trivial⟩
  obtain⟨-,g1,g2,g3,g4⟩:=hg
  simp only[Ss.nest] at hl
  simp only[Ss.tx,Wg,Wf,We,Wb] at hx hc
  obtain⟨hn,h1⟩:=qcE hx
  obtain⟨hn1,h2⟩:=qcE h1
  obtain⟨mid,h3,h4,h5,h5'⟩:=ex1 (s:=s) hT g2 (by intro o; cases o<;>decide) h2 (lv:=lv+1) (by omega)
  obtain⟨hn5,h6⟩:=qcE h5
  obtain⟨mid2,h7,h8,h9,-⟩:=ex1 (s:=s) hT g3 (by intro o; cases o<;>decide) h6 (lv:=lv) (by omega)
  have:=ih.1 g4 lv (a.app (.store true w (x.fl true) (y.fl true) .nil)) mid2.tail q h9 (by omega) (one (by simp[Ss.fo]) (by omega))
  rw[qcn] at this
  obtain⟨t,q',rfl,hb,_⟩:=qhY hn
  exact qg9 hn (qkI g1 (by decide)) (by omega) (qsm hT (by omega) g1 hn (qzo hT (by omega) hb hn1 h3 h4) hn5 h7 h8) this
 |effect g x y r ih=>
  refine⟨fun hg lv a ts q hx hl hc=>?_,fun _=>trivial⟩
  obtain⟨-,g2,g3,g4⟩:=hg
  simp only[Ss.nest] at hl
  simp only[Ss.tx,Wg,Wf,We,Wb] at hx hc
  obtain⟨hn,h1⟩:=qcE hx
  obtain⟨mid,h3,h4,h5,h5'⟩:=ex1 (s:=s) hT g2 (by intro o; cases o<;>decide) h1 (lv:=lv) (by omega)
  obtain⟨mid2,h7,h8,h9,-⟩:=ex1 (s:=s) hT g3 (by intro o; cases o<;>decide) h5 (lv:=lv) (by omega)
  have:=ih.1 g4 lv (a.app (.effect true (x.fl true) (y.fl true) .nil)) mid2.tail q h9 (by omega) (one (by simp[Ss.fo]) (by omega))
  rw[qcn] at this
  exact qg9 hn (by decide) (by omega) (qqe hT (by omega) hn h3 h4 h7 h8) this
 |stop r ih=>
  refine⟨fun hg lv a ts q hx hl hc=>?_,fun _=>trivial⟩
  obtain⟨-,g4⟩:=hg
  simp only[Ss.nest] at hl
  simp only[Ss.tx,Wg,Wf,We,Wb] at hx hc
  obtain⟨hn,h1⟩:=qcE hx
  obtain⟨hn1,h2⟩:=qcE h1
  have:=ih.1 g4 lv (a.app (.stop .nil)) ts.tail.tail q h2 (by omega) (one (by simp[Ss.fo]) (by omega))
  rw[qcn] at this
  exact qg9 hn (by decide) (by omega) (qvD hT (by omega) hn hn1) this
 |cond w g c b r ihb ih=>
  refine⟨fun hg lv a ts q hx hl hc=>?_,fun _=>trivial⟩
  obtain⟨-,g2,g3,g4⟩:=hg
  have hrow:=ihb.2 ⟨_,g3⟩
  have nil1 : ∀ {b:Ss},b.good (some 0)->b = .nil:=fun {b} h=>by
   cases b with
   |nil=>rfl
   |block=>obtain⟨k,hk,_⟩:=h; cases hk
   |_=>exact absurd h.1 (by simp)
  have blk : ∀ {b:Ss} {k:Nat},b.good (some (k+1)) -> ∃ f b1 b',b = .block f b1 b'/\b'.good (some k):=fun {b} {k} h=>by
   cases b with
   |nil=>rcases h with h|h<;>cases h
   |block f b1 b'=>obtain⟨n,hn,_,h⟩:=h; cases hn; exact⟨_,_,_,rfl,h⟩
   |_=>exact absurd h.1 (by simp)
  have split1 : ∀ (b1:Ss) {l:List ByteArray} {mid:List Tk},Hx (bs [123]::(b1.tx++bs [125]::l)) mid q -> ∃ m2,Hx (bs [123]::(b1.tx++[bs [125]])) mid m2/\Hx l m2 q:=fun b1 l mid h=>by
   rw[show bs [123]::(b1.tx++bs [125]::l)=(bs [123]::(b1.tx++[bs [125]]))++l by simp] at h
   exact hx_app.1 h
  simp only[Ss.nest] at hl
  simp only[Ss.tx,Wg,Wf,We,Wb] at hx hc
  obtain⟨hn,h1⟩:=qcE hx
  cases w with
  |true=>
   simp only[if_true] at g3 hn
   obtain⟨f1,b1,b',rfl,g5⟩:=blk g3
   obtain rfl:=nil1 g5
   simp only[Ss.tx,qfD,Wn,if_false,Wl,Wg,Wf,We,Wb,Ss.nest] at h1 hc hl
   obtain⟨mid,h3,h4,h5,h5'⟩:=ex1 (s:=s) hT g2 (by intro o; cases o<;>decide) h1 (lv:=lv) (by omega)
   obtain⟨m2,h6,h7⟩:=split1 b1 h5'
   have:=ih.1 g4 lv (a.app (.cond true true (c.fl true) (.block false (b1.fl true true false) .nil) .nil)) m2 q h7 (by omega) (one (by simp[Ss.fo]) (by omega))
   rw[qcn] at this
   exact qg9 hn (by decide) (by omega) (qsn hT (by omega) hn h3 (hrow.1 (lv+1) mid m2 h6 (by omega) (by omega))) this
  |false=>
   simp only[Wn,if_false] at g3 hn
   obtain⟨f1,b1,b',rfl,g5⟩:=blk g3
   obtain⟨f2,b2,b'',rfl,g6⟩:=blk g5
   obtain rfl:=nil1 g6
   simp only[Ss.tx,Wg,Wf,We,Wb,Ss.nest] at h1 hc hl
   obtain⟨mid,h3,h4,h5,h5'⟩:=ex1 (s:=s) hT g2 (by intro o; cases o<;>decide) h1 (lv:=lv) (by omega)
   obtain⟨m2,h6,h7⟩:=split1 b1 h5'
   have hb1:=hrow.1 (lv+1) mid m2 h6 (by omega) (by omega)
   have fin : ∀ m3,Hx (r.tx++[bs [125]]) m3 q->((nx m2=some qkG/\Bx s T (lv+1) m2.tail (b2.fl true true false) m3)\/(∃ x,nx m2=some x/\x≠qkG/\b2.fl true true false = .nil/\m3=m2))->Rx s T lv a ts (a.app ((Ss.cond false g c (.block f1 b1 (.block f2 b2 .nil)) r).fl true true false)) q:=fun m3 h8 h9=>by
    have:=ih.1 g4 lv (a.app (.cond false true (c.fl true) (.block false (b1.fl true true false) (.block false (b2.fl true true false) .nil)) .nil)) m3 q h8 (by omega) (one (by simp[Ss.fo]) (by omega))
    rw[qcn] at this
    exact qg9 hn (by decide) (by omega) (qBr hT (by omega) hn h3 hb1 h9) this
   by_cases he:qfD (.block f2 b2 .nil)=true
   ·rw[if_pos he] at h7 hc
    simp only[Wg,Wf,qfD,Wn,if_false,Wc,We,Wb] at h7 hc
    obtain⟨hn6,h8⟩:=qcE h7
    obtain⟨m3,h9,h10⟩:=split1 b2 h8
    exact fin m3 h10 (.inl ⟨hn6,hrow.2.1 (lv+1) _ m3 h9 (by omega) (by omega)⟩)
   ·rw[if_neg he,Wc] at h7
    have hb2:b2 = .nil:=by cases b2<;>first|rfl|exact absurd rfl he
    subst hb2
    obtain⟨x,l,q1,q2,-⟩:=qwh r g4
    exact fin m2 h7 (.inr ⟨x,by rw[q1] at h7; exact (qcE h7).1,q2,rfl,rfl⟩)
 |block g b r ihb ihr=>
  refine⟨fun hg=>(by obtain⟨k,hk,_⟩:=hg; cases hk),fun hg=>?_⟩
  obtain⟨k,k',hk,g1,g2⟩:=hg
  refine⟨fun lv ts q hx hl hc=>?_,ihr.2 ⟨_,g2⟩⟩
  obtain⟨hn,ht⟩:=qcE hx
  exact qyO hT (by omega) hn (ihb.1 g1 lv .nil ts.tail q ht hl (by show 0+_<=_; omega))
end
end
section
open F
section
variable{s:ByteArray}{T:List Tk}
def Gx(s:ByteArray)(T:List Tk)(h:Nat->Option Ss)(ts:List Tk)(h':Nat->Option Ss)(r:List Tk):Prop:=
 ∀ i:Nat,T.drop i=ts -> ∃ i':Nat,T.drop i'=r/\Z tP (.loop 3 F242l0 pgF (pgS s T i 0 12 fun k=>qkp (h k)))=Z tP (.loop 3 F242l0 pgF (pgS s T i' 0 12 fun k=>qkp (h' k)))
theorem qqG(hT:T.length<2 ^ 40){o:Option Ss}{k:Nat}{h:Nat->Option Ss}{ts r:List Tk}(hk:k<3)(hg:qdC o)(hh:h k=none)(hl:(qfC k o).length<=2 ^ 40)(hx:Hx (qfC k o) ts r):Gx s T h ts (fun i=>if i=k then o.map (·.fl true true false) else h i) r:=fun i hi=>by
 cases o with
 |none=>
  cases hx
  refine⟨i,hi,?_⟩
  congr 4
  funext j
  show qkp (h j)=qkp (if j=k then none else h j)
  split
  ·rename_i e; rw[e,hh]
  ·rfl
 |some b=>
  obtain⟨h1,h2⟩:=qcE hx
  obtain⟨h3,h4⟩:=qcE h2
  obtain⟨h5,h6⟩:=qcE h4
  simp only[qfC,We,Wb] at hl
  have hb:=hg b rfl
  obtain⟨a1,z1⟩:=pex (s:=s) hT (by decide) h1 hi
  obtain⟨t,q,rfl,hb0,hs⟩:=qhY h1
  obtain⟨t2,q2,e2,hb2,hs2⟩:=qhY h3
  have a1':=a1
  rw[e2] at a1' h5 h6
  have hB:=qyO (lv:=1) hT (by omega) h5 ((qCW (s:=s) hT b).1 hb.1 1 .nil _ r h6 (by omega) (by show 0+_<=_; omega))
  obtain⟨i2,a2,z2⟩:=hB _ (qhZ a1')
  refine⟨i2,a2,?_⟩
  have zs:=qBx (s:=s) (q:=fun k=>qkp (h k)) hT hi hb0 (by rw[hs]; decide) z1 a1' hb2 (k:=k) (by rw[hs2]; exact qkC hk) (decide_eq_true (by rw[hh]; rfl)) (by simp) (by simp) z2
  rw[zs]
  congr 4
  funext j
  show qAt _ k _ j=qkp (if j=k then some (b.fl true true false) else h j)
  unfold qAt
  split<;>rfl
theorem qnN {h:Nat->Option Ss} (hg : ∀ k,qdC (h k)) (hl:s.size<=2000) {e:Nat} (hx:Hx (qaY h) (toks s) [⟨e,⟨#[]⟩,0⟩]) :
  Z tP (.call 228 [.str s] [])=some (.ret (.tup [quH fun k=>qkp (if k<3 then (h k).map (·.fl true true false) else none),.int 0,.int 0]) []):=by
 have hlen:=qlB s (s.size+1) 0
 have hT:(toks s).length<2 ^ 40:=by show (qc3 12 2 6 s (s.size+1) 0).length<_; omega
 have hxl : ∀ {l:List ByteArray} {ts r:List Tk},Hx l ts r->l.length<=ts.length:=by
  intro l
  induction l with
  |nil=>intros; simp
  |cons x l ih=>rintro ts r ⟨t,q,rfl,_,_,h⟩; have:=ih h; simp only[We]; omega
 have hl0:=hxl hx
 have zt:=qrh s (by omega)
 generalize toks s=T at *
 simp only[qaY,Wb] at hl0
 obtain⟨m1,x1,hx⟩:=hx_app.1 hx
 obtain⟨m2,x2,x3⟩:=hx_app.1 hx
 obtain⟨i1,a1,z1⟩:=qqG (s:=s) (h:=fun _=>none) hT (k:=0) (by omega) (hg 0) rfl (by omega) x1 0 rfl
 obtain⟨i2,a2,z2⟩:=qqG (s:=s) (h:=fun i=>if i=0 then (h 0).map (·.fl true true false) else none) hT (k:=1) (by omega) (hg 1) rfl (by omega) x2 i1 a1
 obtain⟨i3,a3,z3⟩:=qqG (s:=s) (h:=fun i=>if i=1 then (h 1).map (·.fl true true false) else if i=0 then (h 0).map (·.fl true true false) else none) hT (k:=2) (by omega) (hg 2) rfl (by omega) x3 i2 a2
 have z4:=z1.trans (z2.trans (z3.trans (qy7 a3 rfl rfl)))
 have e:(fun k=>qkp (if k<3 then (h k).map (·.fl true true false) else none))=fun k=>qkp (if k=2 then (h 2).map (·.fl true true false) else if k=1 then (h 1).map (·.fl true true false) else if k=0 then (h 0).map (·.fl true true false) else none):=by
  funext k
  rcases k with _|_|_|k
  ·rfl
  ·rfl
  ·rfl
  ·rw[if_neg (by omega),if_neg (by omega),if_neg (by omega),if_neg (by omega)]
 rw[e]
 exact qtr (by omega) zt (qoU z4)
end
theorem qo1 {h:Nat->Option Ss} (hg : ∀ k,qdC (h k)) (hl:(qap false (qaY h)).length<=2000) :
  Z tP (.call 228 [.str (bs (qap false (qaY h)))] [])=some (.ret (.tup [quH fun k=>qkp (if k<3 then (h k).map (·.fl true true false) else none),.int 0,.int 0]) []):=by
 obtain⟨e,hx⟩:=ql4 (qmG hg).ok
 exact qnN hg (by rw[qaw]; exact hl) hx
end
end Go.Pm
section
namespace Go.Pm.F
def tB:Nat->Option PFun
 |12=>some F12
 |15=>some F15
 |26=>some F26
 |27=>some F27
 |30=>some F30
 |32=>some F32
 |35=>some F35
 |37=>some F37
 |38=>some F38
 |39=>some F39
 |131=>some F131
 |134=>some F134
 |139=>some F139
 |140=>some F140
 |147=>some F147
 |148=>some F148
 |164=>some F164
 |165=>some F165
 |166=>some F166
 |167=>some F167
 |168=>some F168
 |169=>some F169
 |180=>some F180
 |181=>some F181
 |182=>some F182
 |183=>some F183
 |184=>some F184
 |185=>some F185
 |186=>some F186
 |187=>some F187
 |188=>some F188
 |189=>some F189
 |190=>some F190
 |191=>some F191
 |200=>some F200
 |201=>some F201
 |204=>some F204
 |228=>some F228
 |239=>some F239
 |240=>some F240
 |241=>some F241
 |242=>some F242
 |249=>some F249
 |250=>some F250
 |251=>some F251
 |252=>some F252
 |253=>some F253
 |254=>some F254
 |255=>some F255
 |256=>some F256
 |264=>some F264
 |265=>some F265
 |266=>some F266
 |267=>some F267
 |268=>some F268
 |269=>some F269
 |270=>some F270
 |271=>some F271
 |275=>some F275
 |276=>some F276
 |277=>some F277
 |278=>some F278
 |279=>some F279
 |280=>some F280
 |281=>some F281
 |284=>some F284
 |285=>some F285
 |286=>some F286
 |287=>some F287
 |289=>some F289
 |290=>some F290
 |292=>some F292
 |297=>some F297
 |303=>some F303
 |304=>some F304
 |307=>some F307
 |308=>some F308
 |309=>some F309
 |317=>some F317
 |318=>some F318
 |320=>some F320
 |322=>some F322
 |324=>some F324
 |325=>some F325
 |326=>some F326
 |327=>some F327
 |328=>some F328
 |_=>none
end Go.Pm.F
end
namespace Go.Pm
section
open F
def qoy(l:List Int):D:=match l with
 |[] => .lit (.slice none 0 0)
 |x::r => .sl (intsC (x::r)) ((x::r).length / 2) false
end
section
open F
structure Vr where
 t:Int
 c:D
 a:Int
 b:Int
 e:Int
 one:V.one (.dat c)=true
 cl:V.cells (.dat c)=[.dat c]
def vrC:List Vr->List D
 |[]=>[]
 |v::r => .lit (.int .i64 v.t)::v.c :: .lit (.int .i64 v.a) :: .lit (.int .i64 v.b) :: .lit (.int .i64 v.e)::vrC r
theorem qh1 : ∀ (L:List Vr) (i:Nat),(vrC L).drop (i*5)=vrC (L.drop i)
 |L,0=>by simp
 |[],i+1=>by simp[vrC]
 |v::L,i+1=>by
  rw[show (i+1)*5=i*5+1+1+1+1+1 by omega]
  simp only[vrC,Ye,qh1 L i]
theorem qrT{L:List Vr}{i:Nat}(h:i<L.length):cutCells (vrC L) (i*5) 1=some [.lit (.int .i64 L[i].t)]:=by
 unfold cutCells
 rw[qh1,Ww h]
 simp[vrC]
def qiq(L:List Vr):S:=if L.length=1 then [.cells [.dat (.sl (vrC L) 1 true)]] else [.cells [.gsl (vrC L) L.length 5 1],.tip (vrC L).length]
theorem qt1(v:Vr):qiq [v]=[.cells [.dat (.sl (vrC [v]) 1 true)]]:=rfl
theorem qt2{L:List Vr}(h:2<=L.length):qiq L=[.cells [.gsl (vrC L) L.length 5 1],.tip (vrC L).length]:=if_neg (by omega)
def qA3(prog:Nat->Option PFun)(s:ByteArray)(v:Vr):Prop:=Z prog (.call 322 [.str s] [])=some (.ret (.tup [.dat (.agg [v.c,.lit (.int .i64 v.a),.lit (.int .i64 v.b),.lit (.int .i64 v.e)]),.int 0]) [])
section
variable{prog:Nat->Option PFun}(h7 : ∀ k pf,tB k=some pf->prog k=some pf)
include h7
theorem qA4{s:ByteArray}{v:Vr}(hp:qA3 prog s v)(h0:v.t=0):Z prog (.call 317 [.str s] [])=some (.ret (.tup [.ptr 0 0,.int 0]) (qiq [v])):=by
 have o:=v.one
 have c:=v.cl
 unfold qA3 at hp
 refine qac (h7 317 F317 rfl) rfl ?_
 simp[F317,hp,o,c,h0,qt1,vrC,Wa]
end
end
section
open F
theorem qg7 : ∀ l:List D,qbx (l.map .dat)=some l
 |[]=>rfl
 |d::l=>by simp[qbx,qg7 l]
theorem qqa{L:List Vr}{i:Nat}(h:i<L.length):cutCells (vrC L) (i*5) 5=some [.lit (.int .i64 L[i].t),L[i].c,.lit (.int .i64 L[i].a),.lit (.int .i64 L[i].b),.lit (.int .i64 L[i].e)]:=by
 unfold cutCells
 rw[qh1,Ww h]
 simp[vrC]
end
section
open F
def atB(L:List Vr):S:=if L.length=1 then [.cells [.dat (.sl (vrC L) 1 true)]] else [.cells [.gsl (vrC L) L.length 5 3],.tip (vrC L).length]
def atS(L:List Vr)(tick:Int):S := .cells [.ptr 2 0] :: .cells [.int tick]::atB L
theorem qCo{L:List Vr}(h:2<=L.length):atB L=[.cells [.gsl (vrC L) L.length 5 3],.tip (vrC L).length]:=if_neg (by omega)
theorem qrY(L:List Vr):(∃ C,atB L=[.cells [.dat (.sl C 1 true)]]) \/ ∃ C n m,atB L=[.cells [.gsl C n 5 3],.tip m]:=by
 unfold atB
 split
 ·exact .inl ⟨_,rfl⟩
 ·exact .inr ⟨_,_,_,rfl⟩
abbrev atF:V := .fn 330 [] [.ptr 0 0,.ptr 1 0]
theorem qCR{n:Nat}:qpU .u64 (n:Int) 1=((n / 2:Nat):Int):=by
 show Int.fdiv _ (2 ^ min (1:Int).toNat IntKind.u64.bits)=_
 rw[Int.fdiv_eq_ediv_of_nonneg _ (by decide)]
 rfl
theorem qrZ{L:List Vr}{i:Nat}(h:i<L.length):cutCells (vrC L) (i*5+1) 4=some [L[i].c,.lit (.int .i64 L[i].a),.lit (.int .i64 L[i].b),.lit (.int .i64 L[i].e)]:=by
 unfold cutCells
 rw[<- List.drop_drop,qh1,Ww h]
 simp[vrC]
section
variable{prog:Nat->Option PFun}(h29:prog 329=some F329)(h30:prog 330=some F330)
include h30
theorem quY{L:List Vr}{tick:Int}{k:Nat}(hk:k<L.length)(hl:L.length<=1000):Z prog (.call 330 [.int k,.ptr 0 0,.ptr 1 0] (atS L tick))=some (.ret (.bool (decide (tick<L[k].t))) (atS L tick)):=by
 have hc:=qrT hk
 have hlt:(k:Int)<L.length:=by omega
 refine qac h30 rfl ?_
 unfold atS
 by_cases h1:L.length=1
 ·have e:atB L=[.cells [.dat (.sl (vrC L) 1 true)]]:=if_pos h1
  obtain rfl:k=0:=by omega
  rw[e]
  generalize L[0]=v at *
  generalize vrC L=C at *
  simp at hc
  simp[F330,V.len,qaf,hc,Wa]
 ·rw[qCo (by omega)]
  generalize L[k]=v at *
  generalize vrC L=C at *
  generalize L.length=n at *
  simp[F330,V.len,qaf,hc,hlt,hk,Wa]
omit h30 in
theorem qCp{n:Nat}(h:n<2 ^ 40):IntKind.u64.wrap (n:Int)=n:=by
 have:IntKind.u64.wrap (n:Int)=(n:Int) % 18446744073709551616:=by simp[IntKind.wrap,IntKind.bits,IntKind.signed]
 rw[this]; omega
theorem qep {L:List Vr} {tick:Int} {r:Nat} (hl:L.length<=1000) (hr:r<=L.length) (hlo : ∀ m (h:m<L.length),m<r->L[m].t<=tick) (hhi : ∀ m (h:m<L.length),r<=m->tick<L[m].t) : ∀ (d i j:Nat),j-i<=d->i<=r->r<=j->j<=L.length ->
  ∃ fr,Z prog (.loop (atS L tick).length F329l0 [(1,atF),(5,.int i),(6,.int j)] (atS L tick))=some (.out (.exit 0) ((1,atF)::(5,.int r)::fr) (atS L tick))
 |0,i,j,h,h1,h2,h3=>by
  obtain rfl:i=r:=by omega
  obtain rfl:j=i:=by omega
  refine⟨[(6,.int j),(11,.bool false)],?_⟩
  rw[qaa]
  unfold atS
  rcases qrY L with ⟨C,e⟩|⟨C,n,m,e⟩
  ·rw[e]; simp[qab,qfw,Wa]
  ·rw[e]; simp[qab,qfw,Wa]
 |d+1,i,j,h,h1,h2,h3=>by
  by_cases hij:i<j
  ·obtain⟨q,hq⟩ : ∃ q,q=(i+j) / 2:=⟨_,rfl⟩
   have hql:q<L.length:=by omega
   have z:=quY h30 (tick:=tick) hql hl
   have w1:IntKind.i64.wrap ((i:Int)+j)=((i+j:Nat):Int):=by rw[qai _ (by omega)]; omega
   have w2:=qCp (n:=i+j) (by omega)
   have w3:qpU .u64 ((i+j:Nat):Int) 1=(q:Int):=by rw[qCR,hq]
   have w4:IntKind.i64.wrap (q:Int)=q:=qai _ (by omega)
   have w5:IntKind.i64.wrap ((q:Int)+1)=((q+1:Nat):Int):=by rw[qai _ (by omega)]; omega
   have w6:=qCp (n:=q) (by omega)
   have hlt:(i:Int)<j:=by omega
   by_cases hg:tick<L[q].t
   ·have hrq:r<=q:=by
     rcases Yc q r with h4|h4
     ·exact absurd (hlo q hql h4) (by omega)
     ·exact h4
    obtain⟨fr,e⟩:=qep hl hr hlo hhi d i q (by omega) h1 hrq (by omega)
    refine⟨fr,?_⟩
    rw[<- e]
    simp only[hg,decide_true] at z
    conv=>lhs; rw[qaa]
    unfold atS at z ⊢
    generalize ((i+j:Nat):Int)=ij at *
    rcases qrY L with ⟨C,e⟩|⟨C,n,m,e⟩<;>rw[e] at z ⊢ <;> simp[qab,qfw,hlt,w1,w2,w3,w4,w6,z,Wa]
   ·have hrq:q+1<=r:=by
     rcases Yc q r with h4|h4
     ·exact h4
     ·exact absurd (hhi q hql h4) hg
    obtain⟨fr,e⟩:=qep hl hr hlo hhi d (q+1) j (by omega) hrq h2 h3
    refine⟨fr,?_⟩
    rw[<- e]
    simp only[hg,decide_false] at z
    conv=>lhs; rw[qaa]
    unfold atS at z ⊢
    generalize ((i+j:Nat):Int)=ij at *
    generalize ((q+1:Nat):Int)=q1 at *
    rcases qrY L with ⟨C,e⟩|⟨C,n,m,e⟩<;>rw[e] at z ⊢ <;> simp[qab,qfw,hlt,w1,w2,w3,w4,w5,w6,z,Wa]
  ·exact qep hl hr hlo hhi d i j (by omega) h1 h2 h3
include h29
theorem qr0 {L:List Vr} {tick:Int} {r:Nat} (hl:L.length<=1000) (hr:r<=L.length) (hlo : ∀ m (h:m<L.length),m<r->L[m].t<=tick) (hhi : ∀ m (h:m<L.length),r<=m->tick<L[m].t) :
  Z prog (.call 329 [.int L.length,atF] (atS L tick))=some (.ret (.int r) (atS L tick)):=by
 obtain⟨fr,z⟩:=qep h30 hl hr hlo hhi L.length 0 L.length (by omega) (by omega) hr (by omega)
 refine qac h29 rfl ?_
 rw[show ((0:Nat):Int)=0 from rfl] at z
 unfold atS at z ⊢
 rcases qrY L with ⟨C,e⟩|⟨C,n,m,e⟩<;>rw[e] at z ⊢ <;> simp only[We,Wk,Nat.reduceAdd] at z<;>simp[F329,z,Wa]
theorem qCS (h23:prog 323=some F323) {L:List Vr} {tick:Int} {r k:Nat} (hl:L.length<=1000) (h0:0<L.length) (hr:r<=L.length) (hlo : ∀ m (h:m<L.length),m<r->L[m].t<=tick) (hhi : ∀ m (h:m<L.length),r<=m->tick<L[m].t)
  (hk:k=r-1) (hkl:k<L.length) (zc:Z prog (.call 331 [.dat L[k].c] [])=some (.ret (.dat L[k].c) [])) :
  Z prog (.call 323 [.ptr 0 0,.int tick] (qiq L))=some (.ret (.tup [.int k,.dat (.agg [L[k].c,.lit (.int .i64 L[k].a),.lit (.int .i64 L[k].b),.lit (.int .i64 L[k].e)])]) (qiq L)):=by
 have z:=qr0 h29 h30 (tick:=tick) hl hr hlo hhi
 have hc:=qrZ hkl
 have o:=L[k].one
 have c:=L[k].cl
 have w1:IntKind.i64.wrap ((r:Int)-1)=(r:Int)-1:=qai _ (by omega)
 have hmax:(if (r:Int)-1<0 then (0:Int) else (r:Int)-1)=(k:Int):=by split<;>omega
 have hlt:(k:Int)<L.length:=by omega
 refine qac h23 rfl ?_
 unfold atS at z
 by_cases h1:L.length=1
 ·have e:qiq L=[.cells [.dat (.sl (vrC L) 1 true)]]:=if_pos h1
  have e':atB L=[.cells [.dat (.sl (vrC L) 1 true)]]:=if_pos h1
  rw[e'] at z
  rw[e]
  obtain rfl:k=0:=by omega
  rw[h1] at z
  clear hlo hhi
  generalize L[0]=v at *
  generalize vrC L=C at *
  rw[show ((1:Nat):Int)=1 from rfl] at z
  rw[show ((0:Nat):Int)=0 from rfl] at hmax
  simp at hc
  simp[F323,V.len,qaf,qnq,qhT,z,zc,hc,o,c,w1,hmax,Wa]
  done
 ·rw[qCo (by omega)] at z
  rw[qt2 (by omega)]
  clear hlo hhi
  generalize L[k]=v at *
  generalize vrC L=C at *
  generalize L.length=n at *
  simp[F323,V.len,qaf,qnq,qhT,z,zc,hc,o,c,w1,hmax,hlt,hkl,Wa]
  done
end
end
end Go.Pm
section
namespace Go.Pm.F
variable(C:Task->Option Res)(q:Nat)(fr:Fr)(σ : S)
@[simp] def F109l0x:PC:=(sr [bn 15 .lss 14 13] [5,12,13,14,15] (.seq (.cond (.t 15) .skip (.exit 0)) (.seq (.block 1 (sr [jj 16 (.indexAddr 1 (.t 12) (.t 14)),l1 17 16,mv 7 17] [5,7,12,13,14] (rn [mv 18 5,mv 19 7,jj 20 (.conv (.int .u64) (.t 19)),cl 21 111 [18,20],mv 5 21] [5,12,13,14]))) (rn [bk 22 .add 14 1,mv 14 22] [5,12,13,14]))))
def F109l0:PC:=F109l0x
theorem qjQ:run C q F109l0 fr σ = run C q F109l0x fr σ := rfl
def F109:PFun:=pf 2 [.tmp 4] (sr [jj 4 (.mov (.c (.int .u64 0)))] [0,1] (sr [mv 8 0,mv 9 1,ls 10 9,cl 11 110 [8,10],mv 5 11] [1,5] (.seq (sr [mv 12 1,ls 13 12,mx 14 (kk 0)] [5,12,13,14] (.block 0 (.loop F109l0))) (sr [mv 23 5,jj 24 (.call 111 [(.t 23),(.c (.int .u64 0))]),mv 4 24] [4] .ret))))
@[simp] def F110a0x:PC:=(rn [mv 6 9] [5,6])
def F110a0:PC:=F110a0x
@[simp] def F110b0x:PC:=(.block 1 (rn [l1 10 5,mv 11 6,cl 12 111 [10,11],st 1 5 12] []))
def F110b0:PC:=F110b0x
def F110:PFun:=pf 2 [.tmp 4] (sr [jj 4 (.mov (.c (.int .u64 0)))] [0,1] (sr [jj 5 (.alloc [(.lit (.int .u64 0))])] [0,1,5] (.seq (sr [mv 7 0,cl 8 112 [7]] [0,1,5,8] (.block 0 (.range (.t 8) [9] F110a0 F110b0))) (sr [l1 13 5,mv 14 0,lz 15 14,jj 16 (.conv (.int .u64) (.t 15)),cl 17 111 [13,16],mv 18 1,jj 19 (.conv (.int .u64) (.t 18)),cl 20 111 [17,19],mv 4 20] [4] .ret))))
def F111:PFun:=pf 2 [.tmp 4] (sr [jj 4 (.mov (.c (.int .u64 0)))] [0,1] (sr [mv 6 0,mv 7 1,bn 8 .xor 6 7,jj 9 (.bin .mul (.t 8) (.c (.int .u64 11400714819323198485))),mv 5 9] [5] (sr [mv 10 5,mv 11 5,jj 12 (.bin .shr (.t 11) (.c (.int .u64 32))),bn 13 .xor 10 12,mv 4 13] [4] .ret)))
def F112:PFun:=pf 1 [.tmp 2] (sr [bx 1 0,jj 2 (.mov (.c .nilFunc))] [1] (sr [jj 3 (.mkfn 113 [] [(.t 1)]),mv 2 3] [2] .ret))
@[simp] def F113l1x:PC:=(.seq (sr [mv 12 5,bk 13 .lss 12 8,mv 14 13,jt 15 14 (.mov (.t 3)),jt 16 14 (.mov (.t 5)),jt 17 14 (.bin .add (.t 15) (.t 16)),jt 18 14 (.load false 1 (.t 1)),jt 19 14 (.len .str (.t 18)),jt 20 14 (.bin .lss (.t 17) (.t 19)),jj 21 (.pick (.t 14) (.t 20) kF)] [0,1,3,4,5,21] (.cond (.t 21) .skip (.exit 2))) (.seq (.block 3 (rn [mv 24 4,l1 25 1,mv 26 3,mv 27 5,bn 28 .add 26 27,jj 29 (.indexS (.t 25) (.t 28)),jj 30 (.conv (.int .u64) (.t 29)),mv 31 5,jj 32 (.bin .mul (kk 8) (.t 31)),bn 33 .shl 30 32,bn 34 .or 24 33,mv 4 34] [0,1,3,4,5])) (rn [mv 22 5,bk 23 .add 22 1,mv 5 23] [0,1,3,4,5])))
def F113l1:PC:=F113l1x
@[simp] def F113l0x:PC:=(.seq (sr [mv 6 3,l1 7 1,lz 8 7,bn 9 .lss 6 8] [0,1,3,9] (.cond (.t 9) .skip (.exit 0))) (.seq (.block 1 (sr [jj 4 (.mov (.c (.int .u64 0)))] [0,1,3,4] (.seq (sr [mx 5 (kk 0)] [0,1,3,4,5] (.block 2 (.loop F113l1))) (sr [mv 35 0,mv 36 4,jj 37 (.callv (.t 35) [(.t 36)]),jj 38 (.un .not (.t 37))] [0,1,3,38] (cs 38 .ret))))) (rn [mv 10 3,bk 11 .add 10 8,mv 3 11] [0,1,3])))
def F113l0:PC:=F113l0x
def F113:PFun:=pf 2 [] (sr [mx 3 (kk 0)] [0,1,3] (.block 0 (.loop F113l0)))
end Go.Pm.F
end
namespace Go.Pm
section
open F
def qk2(s w:Int):Int:=
 let m:=IntKind.u64.wrap (qoJ .u64 (· ^^^ ·) s w*11400714819323198485)
 qoJ .u64 (· ^^^ ·) m (m.tdiv 4294967296)
theorem qjj(n:Int):0<=IntKind.u64.wrap n/\IntKind.u64.wrap n<18446744073709551616:=by
 have:IntKind.u64.wrap n=n % 18446744073709551616:=by simp[IntKind.wrap,IntKind.bits,IntKind.signed]
 rw[this]; omega
theorem qz2(m:Int)(h:0<=m/\m<18446744073709551616):qpU .u64 m 32=m.tdiv 4294967296:=by
 rw[Int.tdiv_eq_ediv_of_nonneg h.1 (b:=4294967296)]
 show Int.fdiv _ (2 ^ min (32:Int).toNat IntKind.u64.bits)=_
 rw[Int.fdiv_eq_ediv_of_nonneg _ (by decide)]
 rfl
def qtv(s w:Int):Int:=IntKind.u64.wrap (qoJ .u64 (· ^^^ ·) s w*11400714819323198485)
theorem qpm(s w:Int):0<=qtv s w/\qtv s w<18446744073709551616:=qjj _
theorem qxh(s w:Int):qk2 s w=qoJ .u64 (· ^^^ ·) (qtv s w) ((qtv s w).tdiv 4294967296):=by
 unfold qk2 qtv
 exact rfl
theorem qri(a b:Int):qlm .xor (.int .u64 a) (.int .u64 b)=some (.int .u64 (qoJ .u64 (· ^^^ ·) a b)):=by simp
theorem qxi(a b:Int):qlm .mul (.int .u64 (qoJ .u64 (· ^^^ ·) a b)) (.int .u64 11400714819323198485)=some (.int .u64 (qtv a b)):=by simp[qtv]
theorem qxj(a b:Int):qlm .shr (.int .u64 (qtv a b)) (.int .u64 32)=some (.int .u64 ((qtv a b).tdiv 4294967296)):=by simp[qz2 _ (qpm a b)]
def F111K(K Q:Int):PFun:=⟨2,[.tmp 4],
 .seq (.region none [⟨some 4,.mov (.c (.int .u64 0)),none,[]⟩] [0,1])
 (.seq (.region none [⟨some 6,.mov (.t 0),none,[]⟩,
  ⟨some 7,.mov (.t 1),none,[]⟩,
  ⟨some 8,.bin .xor (.t 6) (.t 7),none,[]⟩,
  ⟨some 9,.bin .mul (.t 8) (.c (.int .u64 K)),none,[]⟩,
  ⟨some 5,.mov (.t 9),none,[]⟩] [5])
 (.seq (.region none [⟨some 10,.mov (.t 5),none,[]⟩,
  ⟨some 11,.mov (.t 5),none,[]⟩,
  ⟨some 12,.bin .shr (.t 11) (.c (.int .u64 Q)),none,[]⟩,
  ⟨some 13,.bin .xor (.t 10) (.t 12),none,[]⟩,
  ⟨some 4,.mov (.t 13),none,[]⟩] [4])
 (.ret))),false,false,false⟩
theorem qtw (C:Task->Option Res) {K Q s w x m z y:Int} (h1:qlm .xor (.int .u64 s) (.int .u64 w)=some (.int .u64 x)) (h2:qlm .mul (.int .u64 x) (.int .u64 K)=some (.int .u64 m)) (h3:qlm .shr (.int .u64 m) (.int .u64 Q)=some (.int .u64 z)) (h4:qlm .xor (.int .u64 m) (.int .u64 z)=some (.int .u64 y)) :
  qb5 C (F111K K Q) [.dat (.lit (.int .u64 s)),.dat (.lit (.int .u64 w))] []=some (.ret (.dat (.lit (.int .u64 y))) []):=by
 simp[F111K,-qlm,h1,h2,h3,h4]
theorem F111_K:F111=F111K 11400714819323198485 32:=rfl
theorem qoa{prog:Nat->Option PFun}(h111:prog 111=some F111)(s w:Int):Z prog (.call 111 [.dat (.lit (.int .u64 s)),.dat (.lit (.int .u64 w))] [])=some (.ret (.dat (.lit (.int .u64 (qk2 s w)))) []):=by
 refine qac h111 rfl ?_
 rw[qxh,F111_K]
 exact qtw _ (qri s w) (qxi s w) (qxj s w) (qri _ _)
def foldI(B:Int)(ws:List Int):Int:=ws.foldl (fun s w=>qk2 s (IntKind.u64.wrap w)) B
def sumI(B:Int)(ws:List Int):Int:=qk2 (foldI B ws) 0
theorem qpn{B:Int}{ws:List Int}{i:Nat}(h:i<ws.length):qk2 (foldI B (ws.take i)) (IntKind.u64.wrap ws[i])=foldI B (ws.take (i+1)):=by
 unfold foldI
 rw[WS h,List.foldl_append]
 rfl
section
variable{prog:Nat->Option PFun}(h111:prog 111=some F111)
include h111
theorem quJ {ws:List Int} {B:Int} (f:Bool) (hl:ws.length<=100000) : ∀ (k i:Nat),i+k=ws.length -> ∃ fr,Z prog (.loop 0 F109l0 [(5,.dat (.lit (.int .u64 (foldI B (ws.take i))))),(12,.dat (.sl (intsC ws) ws.length f)),(13,.int ws.length),(14,.int i)] []) =
  some (.out (.exit 0) ((5,.dat (.lit (.int .u64 (foldI B ws))))::fr) [])
 |0,i,h=>by
  obtain rfl:i=ws.length:=by omega
  rw[YB]
  exact⟨_,by rw[qaa]; simp[qab,qjQ,Wa]; rfl⟩
 |k+1,i,h=>by
  have hi:i<ws.length:=by omega
  obtain⟨fr,e⟩:=quJ f hl k (i+1) (by omega)
  refine⟨fr,?_⟩
  rw[<- e]
  have m:=qoa h111 (foldI B (ws.take i)) (IntKind.u64.wrap ws[i])
  rw[qpn hi] at m
  have hc:cutCells (intsC ws) i 1=some [.lit (.int .i64 ws[i])]:=by
   unfold cutCells intsC
   rw[<- List.map_drop,Ww hi,Wv]
   rfl
  have w1:IntKind.i64.wrap ((i:Int)+1)=((i+1:Nat):Int):=by rw[qai _ (by omega)]; omega
  have hlt:(i:Int)<ws.length:=by omega
  generalize ((i+1:Nat):Int)=i1 at *
  generalize foldI B (ws.take i)=s0 at *
  generalize foldI B (ws.take (i+1))=s1 at *
  generalize ws[i]=w at *
  generalize intsC ws=C at *
  generalize ws.length=n at *
  conv=>lhs; rw[qaa]
  simp[qab,qjQ,V.len,qaf,hlt,hi,hc,w1,m,Wa]
theorem quK (h109:prog 109=some F109) {s:ByteArray} {ws:List Int} {B:Int} {f:Bool} (hl:ws.length<=100000) (hB:Z prog (.call 110 [.str s,.int ws.length] [])=some (.ret (.dat (.lit (.int .u64 B))) [])) :
  Z prog (.call 109 [.str s,.dat (.sl (intsC ws) ws.length f)] [])=some (.ret (.dat (.lit (.int .u64 (sumI B ws)))) []):=by
 obtain⟨fr,e⟩:=quJ h111 (B:=B) f hl ws.length 0 (by omega)
 have m:=qoa h111 (foldI B ws) 0
 rw[show qk2 (foldI B ws) 0=sumI B ws from rfl] at m
 rw[List.take_zero,show foldI B []=B from rfl,show ((0:Nat):Int)=0 from rfl] at e
 refine qac h109 rfl ?_
 generalize foldI B ws=s1 at *
 generalize sumI B ws=s2 at *
 generalize intsC ws=C at *
 generalize ws.length=n at *
 simp[F109,V.len,hB,e,m,Wa]
end
def tH:Nat->Option PFun
 |109=>some F109
 |110=>some F110
 |111=>some F111
 |112=>some F112
 |113=>some F113
 |_=>none
def qtx:ByteArray:=⟨#[98,111,111,107]⟩
def qAH:ByteArray:=⟨#[112,114,111,103,114,97,109]⟩
def qi0(s:ByteArray)(n W:Int):S:=[.loop { fr:=[(0,.str s),(1,.int n),(5,.ptr 2 0),(8,.fn 113 [] [.ptr 1 0])],ps:=[9],assign:=F110a0,body:=F110b0,st:=0,pend:=none },.cells [.str s],.cells [.dat (.lit (.int .u64 W))]]
theorem qty(n:Int):Z tH (.call 113 [.yld 0,.ptr 1 0] (qi0 qtx n 0))=some (.ret (.tup []) (qi0 qtx n 17196531580303950166)):=qmf (n:=40) (by kernel_rfl)
theorem qtz(n:Int):Z tH (.call 113 [.yld 0,.ptr 1 0] (qi0 qAH n 0))=some (.ret (.tup []) (qi0 qAH n (qk2 0 30787916450984560))):=qmf (n:=40) (by kernel_rfl)
section
variable{prog:Nat->Option PFun}(hH : ∀ k pf,tH k=some pf->prog k=some pf)
include hH
theorem qrj {s:ByteArray} {n W x y:Int} (hw:Z prog (.call 113 [.yld 0,.ptr 1 0] (qi0 s n 0))=some (.ret (.tup []) (qi0 s n W))) {m:Nat} (hm:s.size=m) (hx:qk2 W (IntKind.u64.wrap m)=x) (hy:qk2 x (IntKind.u64.wrap n)=y) :
  Z prog (.call 110 [.str s,.int n] [])=some (.ret (.dat (.lit (.int .u64 y))) []):=by
 have z112:Z prog (.call 112 [.str s] [])=some (.ret (.fn 113 [] [.ptr 0 0]) [.cells [.str s]]):=by
  refine qac (hH 112 F112 rfl) rfl ?_
  simp[F112,Wa]
 have m1:=qoa (hH 111 F111 rfl) W (IntKind.u64.wrap m)
 have m2:=qoa (hH 111 F111 rfl) x (IntKind.u64.wrap n)
 rw[hx] at m1
 rw[hy] at m2
 unfold qi0 at hw
 refine qac (hH 110 F110 rfl) rfl ?_
 simp[F110,z112,hw,m1,m2,hm,V.len,Wa]
end
end
end Go.Pm
