/- Chapter 13's parser: a statement: the walks. Printed by ku.py. Chapter 13's parser: an if: the walks. Printed by kv.py. Chapter 13's parser: a block: the walks. Chapter 13's parser: a statement is the plain one. Chapter 13's parser: assignments, stores, loops, ifs against the plain ones. Chapter 13's parser: every statement is the plain one. -/
import Derived.Test.YtjdbkncfebebnaaDoorPmKn
set_option linter.unusedSimpArgs false
set_option linter.unusedVariables false
section SKu
namespace Go.Pm
open F
set_option maxHeartbeats 4000000
attribute [local simp] qbd qbQ dkey
def ifT:ByteArray:=⟨#[105,102]⟩
def qaZ:ByteArray:=⟨#[119,104,105,108,101]⟩
def qaN:ByteArray:=⟨#[101,102,102,101,99,116]⟩
def qe0:ByteArray:=⟨#[115,116,111,112]⟩
abbrev nv (k:Int) (x:ByteArray) (d:D):V := .dat (.agg [.lit (.int .i64 k),.lit (.int .i64 0),.lit (.string x),d])
abbrev cE (e:E):List D:=[.lit (.int .i64 e.kind),.lit (.int .i64 e.num),.lit (.string e.str),e.kids]
section
variable {s:ByteArray} {T:List Tk} {lv i i1 i2 i3 i4:Nat} {e e':E} {a c:Int} {t:Tk} {r:List Tk} {d:D}
theorem quD {k:Int} {x:ByteArray} (o:V.one (.dat d)=true) (oc:V.cells (.dat d)=[.dat d]) (z:Z tP (.call 253 [.ptr 0 0,.str ⟨#[59]⟩] (PS s T i 0 12))=some (.ret (.tup []) (PS s T i1 0 12))):Z tP (.call 278 [.ptr 0 0,nv k x d] (PS s T i 0 12))=some (.ret (nv k x d) (PS s T i1 0 12)):=by
 simp only[PS,pO] at z
 refine Z_call (pf:=F278) rfl rfl ?_
 simp[F278,z,o,oc,List.range_succ]
theorem qsw {k:Int} {x:ByteArray} (o:V.one (.dat d)=true) (oc:V.cells (.dat d)=[.dat d]) (z:Z tP (.call 253 [.ptr 0 0,.str ⟨#[59]⟩] (PS s T i 0 12))=some (.ret (qbk c) (PS s T i1 a c))):Z tP (.call 278 [.ptr 0 0,nv k x d] (PS s T i 0 12))=some (.ret (qbk c) (PS s T i1 a c)):=by
 simp only[PS,pO] at z
 refine Z_call (pf:=F278) rfl rfl ?_
 simp[F278,z,o,oc,qad,List.range_succ]
theorem qiY (hlv:lv<=20) (hT:T.length<2 ^ 40) (h:T.drop i=t::r) (hb:t.bad=0) (hk:kindT t=1)
  (z1:Z tP (.call 253 [.ptr 0 0,.str ⟨#[61]⟩] (PS s T ((i+1:Nat):Int) 0 12))=some (.ret (qbk c) (PS s T i1 a c))):Z tP (.call 271 [.ptr 0 0,.int lv] (PS s T i 0 12))=some (.ret (qbk c) (PS s T i1 a c)):=by
 have w1:=qal ((lv:Int)+1) (by omega)
 have zp:=qax (s:=s) (a:=0) (c:=12) h hb
 have zt:=qaJ (s:=s) (a:=0) (c:=12) h hb hT
 simp only[PS,pO,ptk,ptD,hk,qam hb] at zp zt
 simp only[PS,pO,cE,nv,List.cons_append,List.nil_append] at z1
 try simp only[Int.natCast_add,Int.cast_ofNat_Int] at zt z1
 refine Z_call (pf:=F271) rfl rfl ?_
 simp[F271,zp,zt,w1,z1,qad,qaC,qc6,qa8,qbx,qbV,qa9,still,V.same,List.range_succ]
theorem qiZ (hlv:lv<=20) (hT:T.length<2 ^ 40) (h:T.drop i=t::r) (hb:t.bad=0) (hk:kindT t=1)
  (z1:Z tP (.call 253 [.ptr 0 0,.str ⟨#[61]⟩] (PS s T ((i+1:Nat):Int) 0 12))=some (.ret (.tup []) (PS s T i1 0 12)))
  (z2:Z tP (.call 279 [.ptr 0 0,.int lv] (PS s T i1 0 12))=some (.ret (qbk c) (PS s T i2 a c))):Z tP (.call 271 [.ptr 0 0,.int lv] (PS s T i 0 12))=some (.ret (qbk c) (PS s T i2 a c)):=by
 have w1:=qal ((lv:Int)+1) (by omega)
 have zp:=qax (s:=s) (a:=0) (c:=12) h hb
 have zt:=qaJ (s:=s) (a:=0) (c:=12) h hb hT
 simp only[PS,pO,ptk,ptD,hk,qam hb] at zp zt
 simp only[PS,pO,cE,nv,List.cons_append,List.nil_append] at z1 z2
 try simp only[Int.natCast_add,Int.cast_ofNat_Int] at zt z1 z2
 refine Z_call (pf:=F271) rfl rfl ?_
 simp[F271,zp,zt,w1,z1,z2,qad,qaC,qc6,qa8,qbx,qbV,qa9,still,V.same,List.range_succ]
theorem qi0 (hlv:lv<=20) (hT:T.length<2 ^ 40) (h:T.drop i=t::r) (hb:t.bad=0) (hk:kindT t=1)
  (z1:Z tP (.call 253 [.ptr 0 0,.str ⟨#[61]⟩] (PS s T ((i+1:Nat):Int) 0 12))=some (.ret (.tup []) (PS s T i1 0 12)))
  (z2:Z tP (.call 279 [.ptr 0 0,.int lv] (PS s T i1 0 12))=some (.ret (e).node (PS s T i2 0 12)))
  (z3:Z tP (.call 278 [.ptr 0 0,nv 1 t.s (.sl (cE e) 1 true)] (PS s T i2 0 12))=some (.ret (qbk c) (PS s T i3 a c))):Z tP (.call 271 [.ptr 0 0,.int lv] (PS s T i 0 12))=some (.ret (qbk c) (PS s T i3 a c)):=by
 have w1:=qal ((lv:Int)+1) (by omega)
 have zp:=qax (s:=s) (a:=0) (c:=12) h hb
 have zt:=qaJ (s:=s) (a:=0) (c:=12) h hb hT
 simp only[PS,pO,ptk,ptD,hk,qam hb] at zp zt
 simp only[PS,pO,cE,nv,List.cons_append,List.nil_append] at z1 z2 z3
 try simp only[Int.natCast_add,Int.cast_ofNat_Int] at zt z1 z2 z3
 refine Z_call (pf:=F271) rfl rfl ?_
 simp[F271,zp,zt,w1,z1,z2,z3,qad,qaC,qc6,qa8,qbx,qbV,qa9,still,V.same,List.range_succ]
theorem qkO (hlv:lv<=20) (hT:T.length<2 ^ 40) (h:T.drop i=t::r) (hb:t.bad=0) (hk:kindT t=1)
  (z1:Z tP (.call 253 [.ptr 0 0,.str ⟨#[61]⟩] (PS s T ((i+1:Nat):Int) 0 12))=some (.ret (.tup []) (PS s T i1 0 12)))
  (z2:Z tP (.call 279 [.ptr 0 0,.int lv] (PS s T i1 0 12))=some (.ret (e).node (PS s T i2 0 12)))
  (z3:Z tP (.call 278 [.ptr 0 0,nv 1 t.s (.sl (cE e) 1 true)] (PS s T i2 0 12))=some (.ret (nv 1 t.s (.sl (cE e) 1 true)) (PS s T i3 0 12))):Z tP (.call 271 [.ptr 0 0,.int lv] (PS s T i 0 12))=some (.ret (nv 1 t.s (.sl (cE e) 1 true)) (PS s T i3 0 12)):=by
 have w1:=qal ((lv:Int)+1) (by omega)
 have zp:=qax (s:=s) (a:=0) (c:=12) h hb
 have zt:=qaJ (s:=s) (a:=0) (c:=12) h hb hT
 simp only[PS,pO,ptk,ptD,hk,qam hb] at zp zt
 simp only[PS,pO,cE,nv,List.cons_append,List.nil_append] at z1 z2 z3
 try simp only[Int.natCast_add,Int.cast_ofNat_Int] at zt z1 z2 z3
 refine Z_call (pf:=F271) rfl rfl ?_
 simp[F271,zp,zt,w1,z1,z2,z3,qad,qaC,qc6,qa8,qbx,qbV,qa9,still,V.same,List.range_succ]
theorem qjR (hlv:lv<=20) (hT:T.length<2 ^ 40) (h:T.drop i=t::r) (hb:t.bad=0) (hk:kindT t=3)
  (z1:Z tP (.call 280 [.ptr 0 0,.int lv] (PS s T i 0 12))=some (.ret (qbk c) (PS s T i1 a c))):Z tP (.call 271 [.ptr 0 0,.int lv] (PS s T i 0 12))=some (.ret (qbk c) (PS s T i1 a c)):=by
 have w1:=qal ((lv:Int)+1) (by omega)
 have zp:=qax (s:=s) (a:=0) (c:=12) h hb
 have zt:=qaJ (s:=s) (a:=0) (c:=12) h hb hT
 simp only[PS,pO,ptk,ptD,hk,qam hb] at zp zt
 simp only[PS,pO,cE,nv,List.cons_append,List.nil_append] at z1
 try simp only[Int.natCast_add,Int.cast_ofNat_Int] at zt z1
 refine Z_call (pf:=F271) rfl rfl ?_
 simp[F271,zp,zt,w1,z1,qad,qaC,qc6,qa8,qbx,qbV,qa9,still,V.same,List.range_succ]
theorem qjS (hlv:lv<=20) (hT:T.length<2 ^ 40) (h:T.drop i=t::r) (hb:t.bad=0) (hk:kindT t=3)
  (z1:Z tP (.call 280 [.ptr 0 0,.int lv] (PS s T i 0 12))=some (.ret e.node (PS s T i1 0 12)))
  (z2:Z tP (.call 253 [.ptr 0 0,.str ⟨#[61]⟩] (PS s T i1 0 12))=some (.ret (qbk c) (PS s T i2 a c))):Z tP (.call 271 [.ptr 0 0,.int lv] (PS s T i 0 12))=some (.ret (qbk c) (PS s T i2 a c)):=by
 have w1:=qal ((lv:Int)+1) (by omega)
 have zp:=qax (s:=s) (a:=0) (c:=12) h hb
 have zt:=qaJ (s:=s) (a:=0) (c:=12) h hb hT
 simp only[PS,pO,ptk,ptD,hk,qam hb] at zp zt
 simp only[PS,pO,cE,nv,List.cons_append,List.nil_append] at z1 z2
 try simp only[Int.natCast_add,Int.cast_ofNat_Int] at zt z1 z2
 refine Z_call (pf:=F271) rfl rfl ?_
 simp[F271,zp,zt,w1,z1,z2,qad,qaC,qc6,qa8,qbx,qbV,qa9,still,V.same,List.range_succ]
theorem qjT (hlv:lv<=20) (hT:T.length<2 ^ 40) (h:T.drop i=t::r) (hb:t.bad=0) (hk:kindT t=3)
  (z1:Z tP (.call 280 [.ptr 0 0,.int lv] (PS s T i 0 12))=some (.ret e.node (PS s T i1 0 12)))
  (z2:Z tP (.call 253 [.ptr 0 0,.str ⟨#[61]⟩] (PS s T i1 0 12))=some (.ret (.tup []) (PS s T i2 0 12)))
  (z3:Z tP (.call 279 [.ptr 0 0,.int lv] (PS s T i2 0 12))=some (.ret (qbk c) (PS s T i3 a c))):Z tP (.call 271 [.ptr 0 0,.int lv] (PS s T i 0 12))=some (.ret (qbk c) (PS s T i3 a c)):=by
 have w1:=qal ((lv:Int)+1) (by omega)
 have zp:=qax (s:=s) (a:=0) (c:=12) h hb
 have zt:=qaJ (s:=s) (a:=0) (c:=12) h hb hT
 simp only[PS,pO,ptk,ptD,hk,qam hb] at zp zt
 simp only[PS,pO,cE,nv,List.cons_append,List.nil_append] at z1 z2 z3
 try simp only[Int.natCast_add,Int.cast_ofNat_Int] at zt z1 z2 z3
 refine Z_call (pf:=F271) rfl rfl ?_
 simp[F271,zp,zt,w1,z1,z2,z3,qad,qaC,qc6,qa8,qbx,qbV,qa9,still,V.same,List.range_succ]
theorem qjU (hlv:lv<=20) (hT:T.length<2 ^ 40) (h:T.drop i=t::r) (hb:t.bad=0) (hk:kindT t=3)
  (z1:Z tP (.call 280 [.ptr 0 0,.int lv] (PS s T i 0 12))=some (.ret e.node (PS s T i1 0 12)))
  (z2:Z tP (.call 253 [.ptr 0 0,.str ⟨#[61]⟩] (PS s T i1 0 12))=some (.ret (.tup []) (PS s T i2 0 12)))
  (z3:Z tP (.call 279 [.ptr 0 0,.int lv] (PS s T i2 0 12))=some (.ret (e').node (PS s T i3 0 12)))
  (z4:Z tP (.call 278 [.ptr 0 0,nv 2 t.s (.sl (cE e++cE e') 2 true)] (PS s T i3 0 12))=some (.ret (qbk c) (PS s T i4 a c))):Z tP (.call 271 [.ptr 0 0,.int lv] (PS s T i 0 12))=some (.ret (qbk c) (PS s T i4 a c)):=by
 have w1:=qal ((lv:Int)+1) (by omega)
 have zp:=qax (s:=s) (a:=0) (c:=12) h hb
 have zt:=qaJ (s:=s) (a:=0) (c:=12) h hb hT
 simp only[PS,pO,ptk,ptD,hk,qam hb] at zp zt
 simp only[PS,pO,cE,nv,List.cons_append,List.nil_append] at z1 z2 z3 z4
 try simp only[Int.natCast_add,Int.cast_ofNat_Int] at zt z1 z2 z3 z4
 refine Z_call (pf:=F271) rfl rfl ?_
 simp[F271,zp,zt,w1,z1,z2,z3,z4,qad,qaC,qc6,qa8,qbx,qbV,qa9,still,V.same,List.range_succ]
theorem qml (hlv:lv<=20) (hT:T.length<2 ^ 40) (h:T.drop i=t::r) (hb:t.bad=0) (hk:kindT t=3)
  (z1:Z tP (.call 280 [.ptr 0 0,.int lv] (PS s T i 0 12))=some (.ret e.node (PS s T i1 0 12)))
  (z2:Z tP (.call 253 [.ptr 0 0,.str ⟨#[61]⟩] (PS s T i1 0 12))=some (.ret (.tup []) (PS s T i2 0 12)))
  (z3:Z tP (.call 279 [.ptr 0 0,.int lv] (PS s T i2 0 12))=some (.ret (e').node (PS s T i3 0 12)))
  (z4:Z tP (.call 278 [.ptr 0 0,nv 2 t.s (.sl (cE e++cE e') 2 true)] (PS s T i3 0 12))=some (.ret (nv 2 t.s (.sl (cE e++cE e') 2 true)) (PS s T i4 0 12))):Z tP (.call 271 [.ptr 0 0,.int lv] (PS s T i 0 12))=some (.ret (nv 2 t.s (.sl (cE e++cE e') 2 true)) (PS s T i4 0 12)):=by
 have w1:=qal ((lv:Int)+1) (by omega)
 have zp:=qax (s:=s) (a:=0) (c:=12) h hb
 have zt:=qaJ (s:=s) (a:=0) (c:=12) h hb hT
 simp only[PS,pO,ptk,ptD,hk,qam hb] at zp zt
 simp only[PS,pO,cE,nv,List.cons_append,List.nil_append] at z1 z2 z3 z4
 try simp only[Int.natCast_add,Int.cast_ofNat_Int] at zt z1 z2 z3 z4
 refine Z_call (pf:=F271) rfl rfl ?_
 simp[F271,zp,zt,w1,z1,z2,z3,z4,qad,qaC,qc6,qa8,qbx,qbV,qa9,still,V.same,List.range_succ]
theorem qnd (hlv:lv<=20) (hT:T.length<2 ^ 40) (h:T.drop i=t::r) (hb:t.bad=0) (h1:decide (kindT t=1)=false) (h3:decide (kindT t=3)=false) (hm:t.s=ifT) (od:V.one (.dat d)=true) (oc:V.cells (.dat d)=[.dat d])
  (z1:Z tP (.call 281 [.ptr 0 0,.int lv] (PS s T i 0 12))=some (.ret (qbk c) (PS s T i1 a c))):Z tP (.call 271 [.ptr 0 0,.int lv] (PS s T i 0 12))=some (.ret (qbk c) (PS s T i1 a c)):=by
 have w1:=qal ((lv:Int)+1) (by omega)
 have zp:=qax (s:=s) (a:=0) (c:=12) h hb
 have zt:=qaJ (s:=s) (a:=0) (c:=12) h hb hT
 simp only[PS,pO,ptk,ptD,qam hb] at zp zt
 have y0:=qaL (s:=s) (a:=0) (c:=12) h hb (qaf [ifT] true) (by simp) (by decide)
 simp only[hm,List.mem_singleton,decide_true] at y0
 simp only[PS,pO,ifT,qaW,List.map_cons,List.map_nil,List.length_singleton] at y0
 simp only[PS,pO,cE,nv,List.cons_append,List.nil_append] at z1
 try simp only[Int.natCast_add,Int.cast_ofNat_Int] at zt z1
 refine Z_call (pf:=F271) rfl rfl ?_
 simp[F271,zp,zt,w1,h1,h3,y0,od,oc,z1,qad,qaC,qc6,qa8,qbx,qbV,qa9,still,V.same,List.range_succ]
theorem qqD (hlv:lv<=20) (hT:T.length<2 ^ 40) (h:T.drop i=t::r) (hb:t.bad=0) (h1:decide (kindT t=1)=false) (h3:decide (kindT t=3)=false) (hm:t.s=ifT) (od:V.one (.dat d)=true) (oc:V.cells (.dat d)=[.dat d])
  (z1:Z tP (.call 281 [.ptr 0 0,.int lv] (PS s T i 0 12))=some (.ret (nv 3 ⟨#[]⟩ d) (PS s T i1 0 12))):Z tP (.call 271 [.ptr 0 0,.int lv] (PS s T i 0 12))=some (.ret (nv 3 ⟨#[]⟩ d) (PS s T i1 0 12)):=by
 have w1:=qal ((lv:Int)+1) (by omega)
 have zp:=qax (s:=s) (a:=0) (c:=12) h hb
 have zt:=qaJ (s:=s) (a:=0) (c:=12) h hb hT
 simp only[PS,pO,ptk,ptD,qam hb] at zp zt
 have y0:=qaL (s:=s) (a:=0) (c:=12) h hb (qaf [ifT] true) (by simp) (by decide)
 simp only[hm,List.mem_singleton,decide_true] at y0
 simp only[PS,pO,ifT,qaW,List.map_cons,List.map_nil,List.length_singleton] at y0
 simp only[PS,pO,cE,nv,List.cons_append,List.nil_append] at z1
 try simp only[Int.natCast_add,Int.cast_ofNat_Int] at zt z1
 refine Z_call (pf:=F271) rfl rfl ?_
 simp[F271,zp,zt,w1,h1,h3,y0,od,oc,z1,qad,qaC,qc6,qa8,qbx,qbV,qa9,still,V.same,List.range_succ]
theorem qjV (hlv:lv<=20) (hT:T.length<2 ^ 40) (h:T.drop i=t::r) (hb:t.bad=0) (h1:decide (kindT t=1)=false) (h3:decide (kindT t=3)=false) (hm:t.s=qaZ) (od:V.one (.dat d)=true) (oc:V.cells (.dat d)=[.dat d])
  (z1:Z tP (.call 279 [.ptr 0 0,.int lv] (PS s T ((i+1:Nat):Int) 0 12))=some (.ret (qbk c) (PS s T i1 a c))):Z tP (.call 271 [.ptr 0 0,.int lv] (PS s T i 0 12))=some (.ret (qbk c) (PS s T i1 a c)):=by
 have w1:=qal ((lv:Int)+1) (by omega)
 have zp:=qax (s:=s) (a:=0) (c:=12) h hb
 have zt:=qaJ (s:=s) (a:=0) (c:=12) h hb hT
 simp only[PS,pO,ptk,ptD,qam hb] at zp zt
 have y0:=qaL (s:=s) (a:=0) (c:=12) h hb (qaf [ifT] true) (by simp) (by decide)
 have q0:qaZ≠ifT:=by decide
 simp only[hm,List.mem_singleton,q0,decide_false] at y0
 simp only[PS,pO,ifT,qaW,List.map_cons,List.map_nil,List.length_singleton] at y0
 have y1:=qaL (s:=s) (a:=0) (c:=12) h hb (qaf [qaZ] true) (by simp) (by decide)
 simp only[hm,List.mem_singleton,decide_true] at y1
 simp only[PS,pO,qaZ,qaW,List.map_cons,List.map_nil,List.length_singleton] at y1
 simp only[PS,pO,cE,nv,List.cons_append,List.nil_append] at z1
 try simp only[Int.natCast_add,Int.cast_ofNat_Int] at zt z1
 refine Z_call (pf:=F271) rfl rfl ?_
 simp[F271,zp,zt,w1,h1,h3,y0,y1,od,oc,z1,qad,qaC,qc6,qa8,qbx,qbV,qa9,still,V.same,List.range_succ]
theorem qjW (hlv:lv<=20) (hT:T.length<2 ^ 40) (h:T.drop i=t::r) (hb:t.bad=0) (h1:decide (kindT t=1)=false) (h3:decide (kindT t=3)=false) (hm:t.s=qaZ) (od:V.one (.dat d)=true) (oc:V.cells (.dat d)=[.dat d])
  (z1:Z tP (.call 279 [.ptr 0 0,.int lv] (PS s T ((i+1:Nat):Int) 0 12))=some (.ret (e).node (PS s T i1 0 12)))
  (z2:Z tP (.call 256 [.ptr 0 0,.int ((lv+1:Nat):Int)] (PS s T i1 0 12))=some (.ret (qbk c) (PS s T i2 a c))):Z tP (.call 271 [.ptr 0 0,.int lv] (PS s T i 0 12))=some (.ret (qbk c) (PS s T i2 a c)):=by
 have w1:=qal ((lv:Int)+1) (by omega)
 have zp:=qax (s:=s) (a:=0) (c:=12) h hb
 have zt:=qaJ (s:=s) (a:=0) (c:=12) h hb hT
 simp only[PS,pO,ptk,ptD,qam hb] at zp zt
 have y0:=qaL (s:=s) (a:=0) (c:=12) h hb (qaf [ifT] true) (by simp) (by decide)
 have q0:qaZ≠ifT:=by decide
 simp only[hm,List.mem_singleton,q0,decide_false] at y0
 simp only[PS,pO,ifT,qaW,List.map_cons,List.map_nil,List.length_singleton] at y0
 have y1:=qaL (s:=s) (a:=0) (c:=12) h hb (qaf [qaZ] true) (by simp) (by decide)
 simp only[hm,List.mem_singleton,decide_true] at y1
 simp only[PS,pO,qaZ,qaW,List.map_cons,List.map_nil,List.length_singleton] at y1
 simp only[PS,pO,cE,nv,List.cons_append,List.nil_append] at z1 z2
 try simp only[Int.natCast_add,Int.cast_ofNat_Int] at zt z1 z2
 refine Z_call (pf:=F271) rfl rfl ?_
 simp[F271,zp,zt,w1,h1,h3,y0,y1,od,oc,z1,z2,qad,qaC,qc6,qa8,qbx,qbV,qa9,still,V.same,List.range_succ]
theorem qmm (hlv:lv<=20) (hT:T.length<2 ^ 40) (h:T.drop i=t::r) (hb:t.bad=0) (h1:decide (kindT t=1)=false) (h3:decide (kindT t=3)=false) (hm:t.s=qaZ) (od:V.one (.dat d)=true) (oc:V.cells (.dat d)=[.dat d])
  (z1:Z tP (.call 279 [.ptr 0 0,.int lv] (PS s T ((i+1:Nat):Int) 0 12))=some (.ret (e).node (PS s T i1 0 12)))
  (z2:Z tP (.call 256 [.ptr 0 0,.int ((lv+1:Nat):Int)] (PS s T i1 0 12))=some (.ret (nv 7 ⟨#[]⟩ d) (PS s T i2 0 12))):Z tP (.call 271 [.ptr 0 0,.int lv] (PS s T i 0 12))=some (.ret (nv 4 ⟨#[]⟩ (.sl (cE e++[.lit (.int .i64 7),.lit (.int .i64 0),.lit (.string ⟨#[]⟩),d]) 2 true)) (PS s T i2 0 12)):=by
 have w1:=qal ((lv:Int)+1) (by omega)
 have zp:=qax (s:=s) (a:=0) (c:=12) h hb
 have zt:=qaJ (s:=s) (a:=0) (c:=12) h hb hT
 simp only[PS,pO,ptk,ptD,qam hb] at zp zt
 have y0:=qaL (s:=s) (a:=0) (c:=12) h hb (qaf [ifT] true) (by simp) (by decide)
 have q0:qaZ≠ifT:=by decide
 simp only[hm,List.mem_singleton,q0,decide_false] at y0
 simp only[PS,pO,ifT,qaW,List.map_cons,List.map_nil,List.length_singleton] at y0
 have y1:=qaL (s:=s) (a:=0) (c:=12) h hb (qaf [qaZ] true) (by simp) (by decide)
 simp only[hm,List.mem_singleton,decide_true] at y1
 simp only[PS,pO,qaZ,qaW,List.map_cons,List.map_nil,List.length_singleton] at y1
 simp only[PS,pO,cE,nv,List.cons_append,List.nil_append] at z1 z2
 try simp only[Int.natCast_add,Int.cast_ofNat_Int] at zt z1 z2
 refine Z_call (pf:=F271) rfl rfl ?_
 simp[F271,zp,zt,w1,h1,h3,y0,y1,od,oc,z1,z2,qad,qaC,qc6,qa8,qbx,qbV,qa9,still,V.same,List.range_succ]
theorem qi1 (hlv:lv<=20) (hT:T.length<2 ^ 40) (h:T.drop i=t::r) (hb:t.bad=0) (h1:decide (kindT t=1)=false) (h3:decide (kindT t=3)=false) (hm:t.s=qaN)
  (z1:Z tP (.call 279 [.ptr 0 0,.int lv] (PS s T ((i+1:Nat):Int) 0 12))=some (.ret (qbk c) (PS s T i1 a c))):Z tP (.call 271 [.ptr 0 0,.int lv] (PS s T i 0 12))=some (.ret (qbk c) (PS s T i1 a c)):=by
 have w1:=qal ((lv:Int)+1) (by omega)
 have zp:=qax (s:=s) (a:=0) (c:=12) h hb
 have zt:=qaJ (s:=s) (a:=0) (c:=12) h hb hT
 simp only[PS,pO,ptk,ptD,qam hb] at zp zt
 have y0:=qaL (s:=s) (a:=0) (c:=12) h hb (qaf [ifT] true) (by simp) (by decide)
 have q0:qaN≠ifT:=by decide
 simp only[hm,List.mem_singleton,q0,decide_false] at y0
 simp only[PS,pO,ifT,qaW,List.map_cons,List.map_nil,List.length_singleton] at y0
 have y1:=qaL (s:=s) (a:=0) (c:=12) h hb (qaf [qaZ] true) (by simp) (by decide)
 have q1:qaN≠qaZ:=by decide
 simp only[hm,List.mem_singleton,q1,decide_false] at y1
 simp only[PS,pO,qaZ,qaW,List.map_cons,List.map_nil,List.length_singleton] at y1
 have y2:=qaL (s:=s) (a:=0) (c:=12) h hb (qaf [qaN] true) (by simp) (by decide)
 simp only[hm,List.mem_singleton,decide_true] at y2
 simp only[PS,pO,qaN,qaW,List.map_cons,List.map_nil,List.length_singleton] at y2
 simp only[PS,pO,cE,nv,List.cons_append,List.nil_append] at z1
 try simp only[Int.natCast_add,Int.cast_ofNat_Int] at zt z1
 refine Z_call (pf:=F271) rfl rfl ?_
 simp[F271,zp,zt,w1,h1,h3,y0,y1,y2,z1,qad,qaC,qc6,qa8,qbx,qbV,qa9,still,V.same,List.range_succ]
theorem qi2 (hlv:lv<=20) (hT:T.length<2 ^ 40) (h:T.drop i=t::r) (hb:t.bad=0) (h1:decide (kindT t=1)=false) (h3:decide (kindT t=3)=false) (hm:t.s=qaN)
  (z1:Z tP (.call 279 [.ptr 0 0,.int lv] (PS s T ((i+1:Nat):Int) 0 12))=some (.ret (e).node (PS s T i1 0 12)))
  (z2:Z tP (.call 253 [.ptr 0 0,.str ⟨#[44]⟩] (PS s T i1 0 12))=some (.ret (qbk c) (PS s T i2 a c))):Z tP (.call 271 [.ptr 0 0,.int lv] (PS s T i 0 12))=some (.ret (qbk c) (PS s T i2 a c)):=by
 have w1:=qal ((lv:Int)+1) (by omega)
 have zp:=qax (s:=s) (a:=0) (c:=12) h hb
 have zt:=qaJ (s:=s) (a:=0) (c:=12) h hb hT
 simp only[PS,pO,ptk,ptD,qam hb] at zp zt
 have y0:=qaL (s:=s) (a:=0) (c:=12) h hb (qaf [ifT] true) (by simp) (by decide)
 have q0:qaN≠ifT:=by decide
 simp only[hm,List.mem_singleton,q0,decide_false] at y0
 simp only[PS,pO,ifT,qaW,List.map_cons,List.map_nil,List.length_singleton] at y0
 have y1:=qaL (s:=s) (a:=0) (c:=12) h hb (qaf [qaZ] true) (by simp) (by decide)
 have q1:qaN≠qaZ:=by decide
 simp only[hm,List.mem_singleton,q1,decide_false] at y1
 simp only[PS,pO,qaZ,qaW,List.map_cons,List.map_nil,List.length_singleton] at y1
 have y2:=qaL (s:=s) (a:=0) (c:=12) h hb (qaf [qaN] true) (by simp) (by decide)
 simp only[hm,List.mem_singleton,decide_true] at y2
 simp only[PS,pO,qaN,qaW,List.map_cons,List.map_nil,List.length_singleton] at y2
 simp only[PS,pO,cE,nv,List.cons_append,List.nil_append] at z1 z2
 try simp only[Int.natCast_add,Int.cast_ofNat_Int] at zt z1 z2
 refine Z_call (pf:=F271) rfl rfl ?_
 simp[F271,zp,zt,w1,h1,h3,y0,y1,y2,z1,z2,qad,qaC,qc6,qa8,qbx,qbV,qa9,still,V.same,List.range_succ]
theorem qi3 (hlv:lv<=20) (hT:T.length<2 ^ 40) (h:T.drop i=t::r) (hb:t.bad=0) (h1:decide (kindT t=1)=false) (h3:decide (kindT t=3)=false) (hm:t.s=qaN)
  (z1:Z tP (.call 279 [.ptr 0 0,.int lv] (PS s T ((i+1:Nat):Int) 0 12))=some (.ret (e).node (PS s T i1 0 12)))
  (z2:Z tP (.call 253 [.ptr 0 0,.str ⟨#[44]⟩] (PS s T i1 0 12))=some (.ret (.tup []) (PS s T i2 0 12)))
  (z3:Z tP (.call 279 [.ptr 0 0,.int lv] (PS s T i2 0 12))=some (.ret (qbk c) (PS s T i3 a c))):Z tP (.call 271 [.ptr 0 0,.int lv] (PS s T i 0 12))=some (.ret (qbk c) (PS s T i3 a c)):=by
 have w1:=qal ((lv:Int)+1) (by omega)
 have zp:=qax (s:=s) (a:=0) (c:=12) h hb
 have zt:=qaJ (s:=s) (a:=0) (c:=12) h hb hT
 simp only[PS,pO,ptk,ptD,qam hb] at zp zt
 have y0:=qaL (s:=s) (a:=0) (c:=12) h hb (qaf [ifT] true) (by simp) (by decide)
 have q0:qaN≠ifT:=by decide
 simp only[hm,List.mem_singleton,q0,decide_false] at y0
 simp only[PS,pO,ifT,qaW,List.map_cons,List.map_nil,List.length_singleton] at y0
 have y1:=qaL (s:=s) (a:=0) (c:=12) h hb (qaf [qaZ] true) (by simp) (by decide)
 have q1:qaN≠qaZ:=by decide
 simp only[hm,List.mem_singleton,q1,decide_false] at y1
 simp only[PS,pO,qaZ,qaW,List.map_cons,List.map_nil,List.length_singleton] at y1
 have y2:=qaL (s:=s) (a:=0) (c:=12) h hb (qaf [qaN] true) (by simp) (by decide)
 simp only[hm,List.mem_singleton,decide_true] at y2
 simp only[PS,pO,qaN,qaW,List.map_cons,List.map_nil,List.length_singleton] at y2
 simp only[PS,pO,cE,nv,List.cons_append,List.nil_append] at z1 z2 z3
 try simp only[Int.natCast_add,Int.cast_ofNat_Int] at zt z1 z2 z3
 refine Z_call (pf:=F271) rfl rfl ?_
 simp[F271,zp,zt,w1,h1,h3,y0,y1,y2,z1,z2,z3,qad,qaC,qc6,qa8,qbx,qbV,qa9,still,V.same,List.range_succ]
theorem qi4 (hlv:lv<=20) (hT:T.length<2 ^ 40) (h:T.drop i=t::r) (hb:t.bad=0) (h1:decide (kindT t=1)=false) (h3:decide (kindT t=3)=false) (hm:t.s=qaN)
  (z1:Z tP (.call 279 [.ptr 0 0,.int lv] (PS s T ((i+1:Nat):Int) 0 12))=some (.ret (e).node (PS s T i1 0 12)))
  (z2:Z tP (.call 253 [.ptr 0 0,.str ⟨#[44]⟩] (PS s T i1 0 12))=some (.ret (.tup []) (PS s T i2 0 12)))
  (z3:Z tP (.call 279 [.ptr 0 0,.int lv] (PS s T i2 0 12))=some (.ret (e').node (PS s T i3 0 12)))
  (z4:Z tP (.call 278 [.ptr 0 0,nv 5 ⟨#[]⟩ (.sl (cE e++cE e') 2 true)] (PS s T i3 0 12))=some (.ret (qbk c) (PS s T i4 a c))):Z tP (.call 271 [.ptr 0 0,.int lv] (PS s T i 0 12))=some (.ret (qbk c) (PS s T i4 a c)):=by
 have w1:=qal ((lv:Int)+1) (by omega)
 have zp:=qax (s:=s) (a:=0) (c:=12) h hb
 have zt:=qaJ (s:=s) (a:=0) (c:=12) h hb hT
 simp only[PS,pO,ptk,ptD,qam hb] at zp zt
 have y0:=qaL (s:=s) (a:=0) (c:=12) h hb (qaf [ifT] true) (by simp) (by decide)
 have q0:qaN≠ifT:=by decide
 simp only[hm,List.mem_singleton,q0,decide_false] at y0
 simp only[PS,pO,ifT,qaW,List.map_cons,List.map_nil,List.length_singleton] at y0
 have y1:=qaL (s:=s) (a:=0) (c:=12) h hb (qaf [qaZ] true) (by simp) (by decide)
 have q1:qaN≠qaZ:=by decide
 simp only[hm,List.mem_singleton,q1,decide_false] at y1
 simp only[PS,pO,qaZ,qaW,List.map_cons,List.map_nil,List.length_singleton] at y1
 have y2:=qaL (s:=s) (a:=0) (c:=12) h hb (qaf [qaN] true) (by simp) (by decide)
 simp only[hm,List.mem_singleton,decide_true] at y2
 simp only[PS,pO,qaN,qaW,List.map_cons,List.map_nil,List.length_singleton] at y2
 simp only[PS,pO,cE,nv,List.cons_append,List.nil_append] at z1 z2 z3 z4
 try simp only[Int.natCast_add,Int.cast_ofNat_Int] at zt z1 z2 z3 z4
 refine Z_call (pf:=F271) rfl rfl ?_
 simp[F271,zp,zt,w1,h1,h3,y0,y1,y2,z1,z2,z3,z4,qad,qaC,qc6,qa8,qbx,qbV,qa9,still,V.same,List.range_succ]
theorem qkP (hlv:lv<=20) (hT:T.length<2 ^ 40) (h:T.drop i=t::r) (hb:t.bad=0) (h1:decide (kindT t=1)=false) (h3:decide (kindT t=3)=false) (hm:t.s=qaN)
  (z1:Z tP (.call 279 [.ptr 0 0,.int lv] (PS s T ((i+1:Nat):Int) 0 12))=some (.ret (e).node (PS s T i1 0 12)))
  (z2:Z tP (.call 253 [.ptr 0 0,.str ⟨#[44]⟩] (PS s T i1 0 12))=some (.ret (.tup []) (PS s T i2 0 12)))
  (z3:Z tP (.call 279 [.ptr 0 0,.int lv] (PS s T i2 0 12))=some (.ret (e').node (PS s T i3 0 12)))
  (z4:Z tP (.call 278 [.ptr 0 0,nv 5 ⟨#[]⟩ (.sl (cE e++cE e') 2 true)] (PS s T i3 0 12))=some (.ret (nv 5 ⟨#[]⟩ (.sl (cE e++cE e') 2 true)) (PS s T i4 0 12))):Z tP (.call 271 [.ptr 0 0,.int lv] (PS s T i 0 12))=some (.ret (nv 5 ⟨#[]⟩ (.sl (cE e++cE e') 2 true)) (PS s T i4 0 12)):=by
 have w1:=qal ((lv:Int)+1) (by omega)
 have zp:=qax (s:=s) (a:=0) (c:=12) h hb
 have zt:=qaJ (s:=s) (a:=0) (c:=12) h hb hT
 simp only[PS,pO,ptk,ptD,qam hb] at zp zt
 have y0:=qaL (s:=s) (a:=0) (c:=12) h hb (qaf [ifT] true) (by simp) (by decide)
 have q0:qaN≠ifT:=by decide
 simp only[hm,List.mem_singleton,q0,decide_false] at y0
 simp only[PS,pO,ifT,qaW,List.map_cons,List.map_nil,List.length_singleton] at y0
 have y1:=qaL (s:=s) (a:=0) (c:=12) h hb (qaf [qaZ] true) (by simp) (by decide)
 have q1:qaN≠qaZ:=by decide
 simp only[hm,List.mem_singleton,q1,decide_false] at y1
 simp only[PS,pO,qaZ,qaW,List.map_cons,List.map_nil,List.length_singleton] at y1
 have y2:=qaL (s:=s) (a:=0) (c:=12) h hb (qaf [qaN] true) (by simp) (by decide)
 simp only[hm,List.mem_singleton,decide_true] at y2
 simp only[PS,pO,qaN,qaW,List.map_cons,List.map_nil,List.length_singleton] at y2
 simp only[PS,pO,cE,nv,List.cons_append,List.nil_append] at z1 z2 z3 z4
 try simp only[Int.natCast_add,Int.cast_ofNat_Int] at zt z1 z2 z3 z4
 refine Z_call (pf:=F271) rfl rfl ?_
 simp[F271,zp,zt,w1,h1,h3,y0,y1,y2,z1,z2,z3,z4,qad,qaC,qc6,qa8,qbx,qbV,qa9,still,V.same,List.range_succ]
theorem qkQ (hlv:lv<=20) (hT:T.length<2 ^ 40) (h:T.drop i=t::r) (hb:t.bad=0) (h1:decide (kindT t=1)=false) (h3:decide (kindT t=3)=false) (hm:t.s=qe0)
  (z1:Z tP (.call 278 [.ptr 0 0,nv 6 ⟨#[]⟩ (.lit (.slice none 0 0))] (PS s T ((i+1:Nat):Int) 0 12))=some (.ret (qbk c) (PS s T i1 a c))):Z tP (.call 271 [.ptr 0 0,.int lv] (PS s T i 0 12))=some (.ret (qbk c) (PS s T i1 a c)):=by
 have w1:=qal ((lv:Int)+1) (by omega)
 have zp:=qax (s:=s) (a:=0) (c:=12) h hb
 have zt:=qaJ (s:=s) (a:=0) (c:=12) h hb hT
 simp only[PS,pO,ptk,ptD,qam hb] at zp zt
 have y0:=qaL (s:=s) (a:=0) (c:=12) h hb (qaf [ifT] true) (by simp) (by decide)
 have q0:qe0≠ifT:=by decide
 simp only[hm,List.mem_singleton,q0,decide_false] at y0
 simp only[PS,pO,ifT,qaW,List.map_cons,List.map_nil,List.length_singleton] at y0
 have y1:=qaL (s:=s) (a:=0) (c:=12) h hb (qaf [qaZ] true) (by simp) (by decide)
 have q1:qe0≠qaZ:=by decide
 simp only[hm,List.mem_singleton,q1,decide_false] at y1
 simp only[PS,pO,qaZ,qaW,List.map_cons,List.map_nil,List.length_singleton] at y1
 have y2:=qaL (s:=s) (a:=0) (c:=12) h hb (qaf [qaN] true) (by simp) (by decide)
 have q2:qe0≠qaN:=by decide
 simp only[hm,List.mem_singleton,q2,decide_false] at y2
 simp only[PS,pO,qaN,qaW,List.map_cons,List.map_nil,List.length_singleton] at y2
 have y3:=qaL (s:=s) (a:=0) (c:=12) h hb (qaf [qe0] true) (by simp) (by decide)
 simp only[hm,List.mem_singleton,decide_true] at y3
 simp only[PS,pO,qe0,qaW,List.map_cons,List.map_nil,List.length_singleton] at y3
 simp only[PS,pO,cE,nv,List.cons_append,List.nil_append] at z1
 try simp only[Int.natCast_add,Int.cast_ofNat_Int] at zt z1
 refine Z_call (pf:=F271) rfl rfl ?_
 simp[F271,zp,zt,w1,h1,h3,y0,y1,y2,y3,z1,qad,qaC,qc6,qa8,qbx,qbV,qa9,still,V.same,List.range_succ]
theorem qne (hlv:lv<=20) (hT:T.length<2 ^ 40) (h:T.drop i=t::r) (hb:t.bad=0) (h1:decide (kindT t=1)=false) (h3:decide (kindT t=3)=false) (hm:t.s=qe0)
  (z1:Z tP (.call 278 [.ptr 0 0,nv 6 ⟨#[]⟩ (.lit (.slice none 0 0))] (PS s T ((i+1:Nat):Int) 0 12))=some (.ret (nv 6 ⟨#[]⟩ (.lit (.slice none 0 0))) (PS s T i1 0 12))):Z tP (.call 271 [.ptr 0 0,.int lv] (PS s T i 0 12))=some (.ret (nv 6 ⟨#[]⟩ (.lit (.slice none 0 0))) (PS s T i1 0 12)):=by
 have w1:=qal ((lv:Int)+1) (by omega)
 have zp:=qax (s:=s) (a:=0) (c:=12) h hb
 have zt:=qaJ (s:=s) (a:=0) (c:=12) h hb hT
 simp only[PS,pO,ptk,ptD,qam hb] at zp zt
 have y0:=qaL (s:=s) (a:=0) (c:=12) h hb (qaf [ifT] true) (by simp) (by decide)
 have q0:qe0≠ifT:=by decide
 simp only[hm,List.mem_singleton,q0,decide_false] at y0
 simp only[PS,pO,ifT,qaW,List.map_cons,List.map_nil,List.length_singleton] at y0
 have y1:=qaL (s:=s) (a:=0) (c:=12) h hb (qaf [qaZ] true) (by simp) (by decide)
 have q1:qe0≠qaZ:=by decide
 simp only[hm,List.mem_singleton,q1,decide_false] at y1
 simp only[PS,pO,qaZ,qaW,List.map_cons,List.map_nil,List.length_singleton] at y1
 have y2:=qaL (s:=s) (a:=0) (c:=12) h hb (qaf [qaN] true) (by simp) (by decide)
 have q2:qe0≠qaN:=by decide
 simp only[hm,List.mem_singleton,q2,decide_false] at y2
 simp only[PS,pO,qaN,qaW,List.map_cons,List.map_nil,List.length_singleton] at y2
 have y3:=qaL (s:=s) (a:=0) (c:=12) h hb (qaf [qe0] true) (by simp) (by decide)
 simp only[hm,List.mem_singleton,decide_true] at y3
 simp only[PS,pO,qe0,qaW,List.map_cons,List.map_nil,List.length_singleton] at y3
 simp only[PS,pO,cE,nv,List.cons_append,List.nil_append] at z1
 try simp only[Int.natCast_add,Int.cast_ofNat_Int] at zt z1
 refine Z_call (pf:=F271) rfl rfl ?_
 simp[F271,zp,zt,w1,h1,h3,y0,y1,y2,y3,z1,qad,qaC,qc6,qa8,qbx,qbV,qa9,still,V.same,List.range_succ]
theorem qsx (hlv:lv<=20) (hT:T.length<2 ^ 40) (h:T.drop i=t::r) (hb:t.bad=0) (h1:decide (kindT t=1)=false) (h3:decide (kindT t=3)=false) (n0:t.s≠ifT) (n1:t.s≠qaZ) (n2:t.s≠qaN) (n3:t.s≠qe0):Z tP (.call 271 [.ptr 0 0,.int lv] (PS s T i 0 12))=some (.ret (qbk 12) (PS s T i t.at_ 12)):=by
 have w1:=qal ((lv:Int)+1) (by omega)
 have zp:=qax (s:=s) (a:=0) (c:=12) h hb
 have zt:=qaJ (s:=s) (a:=0) (c:=12) h hb hT
 simp only[PS,pO,ptk,ptD,qam hb] at zp zt
 have y0:=qaL (s:=s) (a:=0) (c:=12) h hb (qaf [ifT] true) (by simp) (by decide)
 simp only[List.mem_singleton,n0,decide_false] at y0
 simp only[PS,pO,ifT,qaW,List.map_cons,List.map_nil,List.length_singleton] at y0
 have y1:=qaL (s:=s) (a:=0) (c:=12) h hb (qaf [qaZ] true) (by simp) (by decide)
 simp only[List.mem_singleton,n1,decide_false] at y1
 simp only[PS,pO,qaZ,qaW,List.map_cons,List.map_nil,List.length_singleton] at y1
 have y2:=qaL (s:=s) (a:=0) (c:=12) h hb (qaf [qaN] true) (by simp) (by decide)
 simp only[List.mem_singleton,n2,decide_false] at y2
 simp only[PS,pO,qaN,qaW,List.map_cons,List.map_nil,List.length_singleton] at y2
 have y3:=qaL (s:=s) (a:=0) (c:=12) h hb (qaf [qe0] true) (by simp) (by decide)
 simp only[List.mem_singleton,n3,decide_false] at y3
 simp only[PS,pO,qe0,qaW,List.map_cons,List.map_nil,List.length_singleton] at y3
 have zf:=qfZ (s:=s) (T:=T) (i:=i) (a:=0) (c:=12) (k:=kindT t) (x:=t.s) (at_:=t.at_) (v:=valT t) (e:=t.bad) (c':=12)
 simp only[PS,pO,ptD] at zf
 refine Z_call (pf:=F271) rfl rfl ?_
 simp[F271,zp,zt,w1,h1,h3,y0,y1,y2,y3,zf,qad,List.range_succ]
theorem quE (h:T.drop i=t::r) (hb:t.bad≠0):Z tP (.call 271 [.ptr 0 0,.int lv] (PS s T i 0 12))=some (.ret (qbk t.bad) (PS s T i t.at_ t.bad)):=by
 have zp:=qem (s:=s) (a:=0) (c:=12) h hb
 simp only[PS,pO] at zp
 refine Z_call (pf:=F271) rfl rfl ?_
 simp[F271,zp,qad,List.range_succ]
end
end Go.Pm
end SKu
section SKv
namespace Go.Pm
open F
set_option maxHeartbeats 4000000
attribute [local simp] qbd qbQ dkey
def qhx:ByteArray:=⟨#[101,108,115,101]⟩
abbrev cB (d:D):List D:=[.lit (.int .i64 7),.lit (.int .i64 0),.lit (.string ⟨#[]⟩),d]
section
variable {s:ByteArray} {T:List Tk} {lv i i1 i2 i3 i4:Nat} {e:E} {a c:Int} {t:Tk} {r:List Tk} {d d':D}
theorem qtk (hlv:lv<=20)
  (z1:Z tP (.call 253 [.ptr 0 0,.str ifT] (PS s T i 0 12))=some (.ret (.tup []) (PS s T i1 0 12)))
  (z2:Z tP (.call 279 [.ptr 0 0,.int lv] (PS s T i1 0 12))=some (.ret (qbk c) (PS s T i2 a c))):Z tP (.call 281 [.ptr 0 0,.int lv] (PS s T i 0 12))=some (.ret (qbk c) (PS s T i2 a c)):=by
 have w1:=qal ((lv:Int)+1) (by omega)
 simp only[PS,pO,nv,ifT] at z1 z2
 try simp only[Int.natCast_add,Int.cast_ofNat_Int] at z1 z2
 refine Z_call (pf:=F281) rfl rfl ?_
 simp[F281,w1,z1,z2,qad,List.range_succ]
theorem qtl (hlv:lv<=20)
  (z1:Z tP (.call 253 [.ptr 0 0,.str ifT] (PS s T i 0 12))=some (.ret (.tup []) (PS s T i1 0 12)))
  (z2:Z tP (.call 279 [.ptr 0 0,.int lv] (PS s T i1 0 12))=some (.ret e.node (PS s T i2 0 12)))
  (z3:Z tP (.call 256 [.ptr 0 0,.int ((lv+1:Nat):Int)] (PS s T i2 0 12))=some (.ret (qbk c) (PS s T i3 a c))):Z tP (.call 281 [.ptr 0 0,.int lv] (PS s T i 0 12))=some (.ret (qbk c) (PS s T i3 a c)):=by
 have w1:=qal ((lv:Int)+1) (by omega)
 simp only[PS,pO,nv,ifT] at z1 z2 z3
 try simp only[Int.natCast_add,Int.cast_ofNat_Int] at z1 z2 z3
 refine Z_call (pf:=F281) rfl rfl ?_
 simp[F281,w1,z1,z2,z3,qad,List.range_succ]
theorem qu7 (hlv:lv<=20) (od:V.one (.dat d)=true) (oc:V.cells (.dat d)=[.dat d])
  (z1:Z tP (.call 253 [.ptr 0 0,.str ifT] (PS s T i 0 12))=some (.ret (.tup []) (PS s T i1 0 12)))
  (z2:Z tP (.call 279 [.ptr 0 0,.int lv] (PS s T i1 0 12))=some (.ret e.node (PS s T i2 0 12)))
  (z3:Z tP (.call 256 [.ptr 0 0,.int ((lv+1:Nat):Int)] (PS s T i2 0 12))=some (.ret (nv 7 ⟨#[]⟩ d) (PS s T i3 0 12))) (h:T.drop i3=t::r) (hb:t.bad≠0):Z tP (.call 281 [.ptr 0 0,.int lv] (PS s T i 0 12))=some (.ret (qbk t.bad) (PS s T i3 t.at_ t.bad)):=by
 have w1:=qal ((lv:Int)+1) (by omega)
 simp only[PS,pO,nv,ifT] at z1 z2 z3
 try simp only[Int.natCast_add,Int.cast_ofNat_Int] at z1 z2 z3
 have y:=qfj (s:=s) (a:=0) (c:=12) h hb (qaf [qhx] true)
 simp only[PS,pO,qhx,qaW,List.map_cons,List.map_nil,List.length_singleton] at y
 refine Z_call (pf:=F281) rfl rfl ?_
 simp[F281,w1,z1,z2,z3,y,od,oc,qad,List.range_succ]
theorem qu8 (hlv:lv<=20) (od:V.one (.dat d)=true) (oc:V.cells (.dat d)=[.dat d])
  (z1:Z tP (.call 253 [.ptr 0 0,.str ifT] (PS s T i 0 12))=some (.ret (.tup []) (PS s T i1 0 12)))
  (z2:Z tP (.call 279 [.ptr 0 0,.int lv] (PS s T i1 0 12))=some (.ret e.node (PS s T i2 0 12)))
  (z3:Z tP (.call 256 [.ptr 0 0,.int ((lv+1:Nat):Int)] (PS s T i2 0 12))=some (.ret (nv 7 ⟨#[]⟩ d) (PS s T i3 0 12))) (h:T.drop i3=t::r) (hb:t.bad=0) (hm:t.s≠qhx):Z tP (.call 281 [.ptr 0 0,.int lv] (PS s T i 0 12))=some (.ret (nv 3 ⟨#[]⟩ (.sl (cE e++cB d++cB (.lit (.slice none 0 0))) 3 true)) (PS s T i3 0 12)):=by
 have w1:=qal ((lv:Int)+1) (by omega)
 simp only[PS,pO,nv,ifT] at z1 z2 z3
 try simp only[Int.natCast_add,Int.cast_ofNat_Int] at z1 z2 z3
 have y:=qaL (s:=s) (a:=0) (c:=12) h hb (qaf [qhx] true) (by simp) (by decide)
 simp only[List.mem_singleton,hm,decide_false] at y
 simp only[PS,pO,qhx,qaW,List.map_cons,List.map_nil,List.length_singleton] at y
 refine Z_call (pf:=F281) rfl rfl ?_
 simp[F281,w1,z1,z2,z3,y,od,oc,qad,List.range_succ]
theorem qtm (hlv:lv<=20) (od:V.one (.dat d)=true) (oc:V.cells (.dat d)=[.dat d])
  (z1:Z tP (.call 253 [.ptr 0 0,.str ifT] (PS s T i 0 12))=some (.ret (.tup []) (PS s T i1 0 12)))
  (z2:Z tP (.call 279 [.ptr 0 0,.int lv] (PS s T i1 0 12))=some (.ret e.node (PS s T i2 0 12)))
  (z3:Z tP (.call 256 [.ptr 0 0,.int ((lv+1:Nat):Int)] (PS s T i2 0 12))=some (.ret (nv 7 ⟨#[]⟩ d) (PS s T i3 0 12))) (hT:T.length<2 ^ 40) (h:T.drop i3=t::r) (hb:t.bad=0) (hm:t.s=qhx)
  (z4:Z tP (.call 256 [.ptr 0 0,.int ((lv+1:Nat):Int)] (PS s T ((i3+1:Nat):Int) 0 12))=some (.ret (qbk c) (PS s T i4 a c))):Z tP (.call 281 [.ptr 0 0,.int lv] (PS s T i 0 12))=some (.ret (qbk c) (PS s T i4 a c)):=by
 have w1:=qal ((lv:Int)+1) (by omega)
 simp only[PS,pO,nv,ifT] at z1 z2 z3
 try simp only[Int.natCast_add,Int.cast_ofNat_Int] at z1 z2 z3
 have y:=qaL (s:=s) (a:=0) (c:=12) h hb (qaf [qhx] true) (by simp) (by decide)
 simp only[List.mem_singleton,hm,decide_true] at y
 simp only[PS,pO,qhx,qaW,List.map_cons,List.map_nil,List.length_singleton] at y
 have zt:=qaJ (s:=s) (a:=0) (c:=12) h hb hT
 simp only[PS,pO,ptk,ptD] at zt
 simp only[PS,pO,nv] at z4
 simp only[Int.natCast_add,Int.cast_ofNat_Int] at zt z4
 refine Z_call (pf:=F281) rfl rfl ?_
 simp[F281,w1,z1,z2,z3,y,zt,z4,od,oc,qad,List.range_succ]
theorem qu9 (hlv:lv<=20) (od:V.one (.dat d)=true) (oc:V.cells (.dat d)=[.dat d])
  (z1:Z tP (.call 253 [.ptr 0 0,.str ifT] (PS s T i 0 12))=some (.ret (.tup []) (PS s T i1 0 12)))
  (z2:Z tP (.call 279 [.ptr 0 0,.int lv] (PS s T i1 0 12))=some (.ret e.node (PS s T i2 0 12)))
  (z3:Z tP (.call 256 [.ptr 0 0,.int ((lv+1:Nat):Int)] (PS s T i2 0 12))=some (.ret (nv 7 ⟨#[]⟩ d) (PS s T i3 0 12))) (od':V.one (.dat d')=true) (oc':V.cells (.dat d')=[.dat d']) (hT:T.length<2 ^ 40) (h:T.drop i3=t::r) (hb:t.bad=0) (hm:t.s=qhx)
  (z4:Z tP (.call 256 [.ptr 0 0,.int ((lv+1:Nat):Int)] (PS s T ((i3+1:Nat):Int) 0 12))=some (.ret (nv 7 ⟨#[]⟩ d') (PS s T i4 0 12))):Z tP (.call 281 [.ptr 0 0,.int lv] (PS s T i 0 12))=some (.ret (nv 3 ⟨#[]⟩ (.sl (cE e++cB d++cB d') 3 true)) (PS s T i4 0 12)):=by
 have w1:=qal ((lv:Int)+1) (by omega)
 simp only[PS,pO,nv,ifT] at z1 z2 z3
 try simp only[Int.natCast_add,Int.cast_ofNat_Int] at z1 z2 z3
 have y:=qaL (s:=s) (a:=0) (c:=12) h hb (qaf [qhx] true) (by simp) (by decide)
 simp only[List.mem_singleton,hm,decide_true] at y
 simp only[PS,pO,qhx,qaW,List.map_cons,List.map_nil,List.length_singleton] at y
 have zt:=qaJ (s:=s) (a:=0) (c:=12) h hb hT
 simp only[PS,pO,ptk,ptD] at zt
 simp only[PS,pO,nv] at z4
 simp only[Int.natCast_add,Int.cast_ofNat_Int] at zt z4
 refine Z_call (pf:=F281) rfl rfl ?_
 simp[F281,w1,z1,z2,z3,y,zt,z4,od',oc',od,oc,qad,List.range_succ]
end
end Go.Pm
end SKv
section SKw
namespace Go.Pm
open F
set_option maxHeartbeats 4000000
attribute [local simp] qbd qbQ dkey
def qpN (v:V) (σt:S) (cs:List D) (n:Nat):Prop:=(n=0/\cs=[]/\v = .dat (.lit (.slice none 0 0)) /\ σt=[])\/(n≠0/\cs.length=n*4/\v = .gsl cs n 4 5 /\ σt=[.tip cs.length])
abbrev bzF (lv:Nat):Fr:=[(0,.ptr 0 0),(1,.int lv),(4,.ptr 3 0),(5,.ptr 4 0)]
abbrev bzS (s:ByteArray) (T:List Tk) (i a c:Int) (v:V) (σt:S):S:=PS s T i a c++(nd0 :: .cells [.int 7,.int 0,.str ⟨#[]⟩,v] :: σt)
def ql4:ByteArray:=⟨#[125]⟩
section
variable {s:ByteArray} {T:List Tk} {lv i i' i1 i2:Nat} {a c:Int} {t:Tk} {r:List Tk} {d:D} {v:V} {σt:S} {cs:List D} {n:Nat}
theorem qtA (h:T.drop i=t::r) (hb:t.bad=0) (hm:t.s=ql4) (hr:qpN v σt cs n):Z tP (.loop 3 F256l0 (bzF lv) (bzS s T i 0 12 v σt))=some (.out (.exit 0) (bzF lv++[(13,.bool false)]) (bzS s T i 0 12 v σt)):=by
 have y:=qaL (s:=s) (a:=0) (c:=12) h hb (qaf [ql4] true) (by simp) (by decide)
 simp only[List.mem_singleton,hm,decide_true] at y
 simp only[PS,pO,ql4,qaW,List.map_cons,List.map_nil,List.length_singleton] at y
 rw[qac]
 rcases hr with ⟨rfl,rfl,rfl,rfl⟩ | ⟨h0,h1,rfl,rfl⟩<;>simp[qae,qdO,y,List.range_succ]
theorem qtB (h:T.drop i=t::r) (hb:t.bad≠0) (hr:qpN v σt cs n) : ∃ fr,fr.get 1000000=none/\Z tP (.loop 3 F256l0 (bzF lv) (bzS s T i 0 12 v σt))=some (.out (.pan (.iface 1 (.int t.bad))) fr (bzS s T i t.at_ t.bad v σt)):=by
 have y:=qfj (s:=s) (a:=0) (c:=12) h hb (qaf [ql4] true)
 simp only[PS,pO,ql4,qaW,List.map_cons,List.map_nil,List.length_singleton] at y
 refine⟨(11,.dat (.sl [.lit (.string ⟨#[125]⟩)] 1 true))::(10,.ptr 0 0)::bzF lv,by simp[Fr.get],?_⟩
 rw[qac]
 rcases hr with ⟨rfl,rfl,rfl,rfl⟩ | ⟨h0,h1,rfl,rfl⟩<;>simp[qae,qdO,y,qad,List.range_succ]
theorem qpO (h:T.drop i=t::r) (hb:t.bad=0) (hm:t.s≠ql4) (hr:qpN v σt cs n) (hn:n<=2 ^ 40) {k:Int} {x:ByteArray} (od:V.one (.dat d)=true) (oc:V.cells (.dat d)=[.dat d])
  (z:Z tP (.call 271 [.ptr 0 0,.int lv] (PS s T i 0 12))=some (.ret (nv k x d) (PS s T i' 0 12))) :
  ∃ v' σt',qpN v' σt' (cs++[.lit (.int .i64 k),.lit (.int .i64 0),.lit (.string x),d]) (n+1)/\Z tP (.loop 3 F256l0 (bzF lv) (bzS s T i 0 12 v σt))=Z tP (.loop 3 F256l0 (bzF lv) (bzS s T i' 0 12 v' σt')):=by
 have y:=qaL (s:=s) (a:=0) (c:=12) h hb (qaf [ql4] true) (by simp) (by decide)
 have hroom:qa6 (n+1) 56=true:=by simp only[qa6,decide_eq_true_eq]; omega
 simp only[List.mem_singleton,hm,decide_false] at y
 simp only[PS,pO,ql4,qaW,List.map_cons,List.map_nil,List.length_singleton] at y
 simp only[PS,pO,nv] at z
 refine⟨.gsl (cs++[.lit (.int .i64 k),.lit (.int .i64 0),.lit (.string x),d]) (n+1) 4 5,[.tip (cs++[.lit (.int .i64 k),.lit (.int .i64 0),.lit (.string x),d]).length],.inr ⟨by omega,?_,rfl,rfl⟩,?_⟩
 ·rcases hr with ⟨rfl,rfl,_,_⟩ | ⟨_,h1,_,_⟩
  ·simp
  ·simp[h1]; omega
 ·conv=>lhs; rw[qac]
  rcases hr with ⟨rfl,rfl,rfl,rfl⟩ | ⟨h0,h1,rfl,rfl⟩
  ·have hr1:qa6 1 56=true:=by decide
   simp[qae,qdO,y,z,od,oc,hr1,qcE,qmY,qc6,qa8,qbx,qbV,qa9,still,V.same,List.range_succ]
   try exact qb2 (by simp[List.range_succ])
  ·simp[qae,qdO,y,z,od,oc,hroom,h0,h1,qcE,qmY,qc6,qa8,qbx,qbV,qa9,still,V.same,List.range_succ]
   try exact qb2 (by simp[List.range_succ])
theorem qtC (h:T.drop i=t::r) (hb:t.bad=0) (hm:t.s≠ql4) (hr:qpN v σt cs n)
  (z:Z tP (.call 271 [.ptr 0 0,.int lv] (PS s T i 0 12))=some (.ret (qbk c) (PS s T i' a c))) :
  Z tP (.loop 3 F256l0 (bzF lv) (bzS s T i 0 12 v σt))=some (.out (.pan (.iface 1 (.int c))) [] (bzS s T i' a c v σt)):=by
 have y:=qaL (s:=s) (a:=0) (c:=12) h hb (qaf [ql4] true) (by simp) (by decide)
 simp only[List.mem_singleton,hm,decide_false] at y
 simp only[PS,pO,ql4,qaW,List.map_cons,List.map_nil,List.length_singleton] at y
 simp only[PS,pO] at z
 rw[qac]
 rcases hr with ⟨rfl,rfl,rfl,rfl⟩ | ⟨h0,h1,rfl,rfl⟩<;>simp[qae,qdO,y,z,qad,qaC,qc6,qa8,qbx,qbV,qa9,still,V.same,List.range_succ]
theorem qrK (zo:Z tP (.call 270 [.ptr 0 0,.str ⟨#[123]⟩,.int lv] (PS s T i 0 12))=some (.ret (qbk c) (PS s T i1 a c))):Z tP (.call 256 [.ptr 0 0,.int lv] (PS s T i 0 12))=some (.ret (qbk c) (PS s T i1 a c)):=by
 simp only[PS,pO] at zo
 refine Z_call (pf:=F256) rfl rfl ?_
 simp[F256,zo,qad,List.range_succ]
theorem qtD (zo:Z tP (.call 270 [.ptr 0 0,.str ⟨#[123]⟩,.int lv] (PS s T i 0 12))=some (.ret (.tup []) (PS s T i1 0 12))) {fr:Fr} (hf:fr.get 1000000=none)
  (zl:Z tP (.loop 3 F256l0 (bzF lv) (bzS s T i1 0 12 (.dat (.lit (.slice none 0 0))) []))=some (.out (.pan (.iface 1 (.int c))) fr (bzS s T i2 a c v σt))):Z tP (.call 256 [.ptr 0 0,.int lv] (PS s T i 0 12))=some (.ret (qbk c) (PS s T i2 a c)):=by
 simp only[PS,pO,bzS,List.cons_append,List.nil_append] at zo zl
 refine Z_call (pf:=F256) rfl rfl ?_
 simp[F256,zo,zl,hf,qad,List.range_succ]
theorem qvh (hT:T.length<2 ^ 40) (zo:Z tP (.call 270 [.ptr 0 0,.str ⟨#[123]⟩,.int lv] (PS s T i 0 12))=some (.ret (.tup []) (PS s T i1 0 12))) (hr:qpN v σt cs n)
  (zl:Z tP (.loop 3 F256l0 (bzF lv) (bzS s T i1 0 12 (.dat (.lit (.slice none 0 0))) []))=some (.out (.exit 0) (bzF lv++[(13,.bool false)]) (bzS s T i2 0 12 v σt)))
  (h:T.drop i2=t::r) (hb:t.bad=0) (hm:t.s=ql4):Z tP (.call 256 [.ptr 0 0,.int lv] (PS s T i 0 12))=some (.ret (nv 7 ⟨#[]⟩ (kd false n cs)) (PS s T ((i2+1:Nat):Int) 0 12)):=by
 have zx:=qgb (s:=s) (a:=0) (c:=12) h hb hT (by rw[hm]; decide)
 rw[hm] at zx
 simp only[PS,pO,ql4,Int.natCast_add,Int.cast_ofNat_Int] at zx
 simp only[PS,pO,bzS,List.cons_append,List.nil_append] at zo zl
 refine Z_call (pf:=F256) rfl rfl ?_
 rcases hr with ⟨rfl,rfl,rfl,rfl⟩ | ⟨h0,h1,rfl,rfl⟩
 ·simp[F256,zo,zl,zx,List.range_succ]
 ·obtain⟨m,rfl⟩ : ∃ m,n=m+1:=⟨n-1,by omega⟩
  simp[F256,zo,zl,zx,List.range_succ]
end
end Go.Pm
end SKw
section SKx
namespace Go.Pm
open F
set_option maxHeartbeats 2000000
def qpA (s:ByteArray) (T:List Tk) (res:Option Res) (x:Rz Ss):Prop:=match x with
 | .ok b r => ∃ (i':Nat) (k:Int) (y:ByteArray) (d:D),T.drop i'=r/\r≠[]/\res=some (.ret (nv k y d) (PS s T i' 0 12))/\V.one (.dat d)=true/\V.cells (.dat d)=[.dat d]/\b.fo.cells=[.lit (.int .i64 k),.lit (.int .i64 0),.lit (.string y),d]/\b.fo.len=1
 | .er a c => ∃ i':Nat,res=some (.ret (qbk c) (PS s T i' a c))
def qv7 (s:ByteArray) (T:List Tk) (res:Option Res) (x:Rz Ss):Prop:=match x with
 | .ok b r => ∃ i':Nat,T.drop i'=r/\r≠[]/\res=some (.ret (nv 7 ⟨#[]⟩ (kd false b.fo.len b.fo.cells)) (PS s T i' 0 12))
 | .er a c => ∃ i':Nat,res=some (.ret (qbk c) (PS s T i' a c))
section
variable (s:ByteArray) (T:List Tk)
def StK (n:Nat):Prop := ∀ (lv i:Nat) (t:Tk) (r:List Tk) (x:Rz Ss),lv<=20->T.drop i=t::r->qcl 12 2 true true false n lv (t::r)=some x->qpA s T (Z tP (.call 271 [.ptr 0 0,.int lv] (PS s T i 0 12))) x
def BkK (n:Nat):Prop := ∀ (lv i:Nat) (t:Tk) (r:List Tk) (x:Rz Ss),T.drop i=t::r->qaR 12 2 true true false n lv (t::r)=some x->qv7 s T (Z tP (.call 256 [.ptr 0 0,.int lv] (PS s T i 0 12))) x
variable {s:ByteArray} {T:List Tk}
theorem qeT (hw:WfQ T) (hT:T.length<2 ^ 40) {i:Nat} {t:Tk} {r:List Tk} (h:T.drop i=t::r) {k:Int} {y:ByteArray} {d:D} (od:V.one (.dat d)=true) (oc:V.cells (.dat d)=[.dat d]) (b:Ss) :
  (∃ r' i',qbe 12 b (t::r) = .ok b r'/\T.drop i'=r'/\r'≠[]/\Z tP (.call 278 [.ptr 0 0,nv k y d] (PS s T i 0 12))=some (.ret (nv k y d) (PS s T i' 0 12))) \/
  (∃ a c,qbe 12 b (t::r) = .er a c /\ ∃ i':Nat,Z tP (.call 278 [.ptr 0 0,nv k y d] (PS s T i 0 12))=some (.ret (qbk c) (PS s T i' a c))):=by
 have he:=qcq (s:=s) hw hT h (x:=bs [59]) (by decide)
 unfold qbe
 cases hq:qav 12 (bs [59]) (t::r) with
 | ok u r'=>
  rw[hq] at he
  obtain⟨i',a1,a2,z⟩:=he
  exact .inl ⟨r',i',rfl,a1,a2,quD od oc z⟩
 | er a c=>
  rw[hq] at he
  obtain⟨i',z⟩:=he
  exact .inr ⟨a,c,rfl,i',qsw od oc z⟩
theorem qmD (hw:WfQ T) (hT:T.length<2 ^ 40) (hP : ∀ t∈T,TokP t) {n lv i:Nat} {t:Tk} {r:List Tk} {x:Rz E} (hlv:lv<=20) (h:T.drop i=t::r) (hx:qan 12 2 true n 1 lv (t::r)=some x):Out s T (Z tP (.call 279 [.ptr 0 0,.int lv] (PS s T i 0 12))) x E.node:=
 (qnF hw hT hP n).1 1 lv i t r x (by omega) (by omega) hlv h hx
theorem qrx (hw:WfQ T) (hT:T.length<2 ^ 40) {lv i:Nat} {t:Tk} {r:List Tk} {x:Rz Ss} (hlv:lv<=20) (h:T.drop i=t::r) (hb:t.bad=0) (hm:t.s=qe0) (hx:qbe 12 (Ss.stop .nil) r=x):qpA s T (Z tP (.call 271 [.ptr 0 0,.int lv] (PS s T i 0 12))) x:=by
 have hk:kindT t=2:=by rw[qb4 hb,hm]; decide
 obtain⟨n1,n2⟩:=hw.next h hb (by rw[hm]; decide)
 obtain⟨t1,r1,rfl⟩:=qaU n2
 have d1:decide (kindT t=1)=false:=decide_eq_false (by omega)
 have d3:decide (kindT t=3)=false:=decide_eq_false (by omega)
 rcases qeT (s:=s) hw hT n1 (k:=6) (y:=⟨#[]⟩) (d := .lit (.slice none 0 0)) rfl rfl (Ss.stop .nil) with ⟨r',i',e1,e2,e3,z⟩ | ⟨a,c,e1,i',z⟩
 ·rw[e1] at hx; subst hx
  exact⟨i',6,⟨#[]⟩,.lit (.slice none 0 0),e2,e3,qne hlv hT h hb d1 d3 hm z,rfl,rfl,by simp[Ss.fo],by simp[Ss.fo]⟩
 ·rw[e1] at hx; subst hx
  exact⟨i',qkQ hlv hT h hb d1 d3 hm z⟩
theorem qn7 (hw:WfQ T) (hT:T.length<2 ^ 40) (hP : ∀ t∈T,TokP t) {n lv i:Nat} {t:Tk} {r:List Tk} {x:Rz Ss} (hlv:lv<=20) (h:T.drop i=t::r) (hb:t.bad=0) (hm:t.s=qaN)
  (hx:(match qan 12 2 true n 1 lv r with
    | some (.ok a r)=>match qav 12 (bs [44]) r with
     | .ok _ r1=>match qan 12 2 true n 1 lv r1 with
      | some (.ok b r2)=>some (qbe 12 (.effect true a b .nil) r2)
      | some (.er i k)=>some (.er i k)
      | none=>none
     | .er i k=>some (.er i k)
    | some (.er i k)=>some (.er i k)
    | none=>none)=some x):qpA s T (Z tP (.call 271 [.ptr 0 0,.int lv] (PS s T i 0 12))) x:=by
 have hk:kindT t=2:=by rw[qb4 hb,hm]; decide
 obtain⟨n1,n2⟩:=hw.next h hb (by rw[hm]; decide)
 obtain⟨t1,r1,rfl⟩:=qaU n2
 have d1:decide (kindT t=1)=false:=decide_eq_false (by omega)
 have d3:decide (kindT t=3)=false:=decide_eq_false (by omega)
 cases hq:qan 12 2 true n 1 lv (t1::r1) with
 | none=>rw[hq] at hx; cases hx
 | some y=>
  rw[hq] at hx
  have h1:=qmD (s:=s) hw hT hP hlv n1 hq
  cases y with
  | er a c=>
   simp only[Option.some.injEq] at hx
   subst hx
   obtain⟨i1,z1⟩:=h1
   exact⟨i1,qi1 hlv hT h hb d1 d3 hm z1⟩
  | ok e r2=>
   simp only at hx
   obtain⟨i1,a1,a2,z1⟩:=h1
   obtain⟨t2,r3,rfl⟩:=qaU a2
   have h2:=qcq (s:=s) hw hT a1 (x:=bs [44]) (by decide)
   cases hq2:qav 12 (bs [44]) (t2::r3) with
   | er a c=>
    rw[hq2] at hx h2
    simp only[Option.some.injEq] at hx
    subst hx
    obtain⟨i2,z2⟩:=h2
    exact⟨i2,qi2 hlv hT h hb d1 d3 hm z1 z2⟩
   | ok u r4=>
    rw[hq2] at hx h2
    simp only at hx
    obtain⟨i2,b1,b2,z2⟩:=h2
    obtain⟨t3,r5,rfl⟩:=qaU b2
    cases hq3:qan 12 2 true n 1 lv (t3::r5) with
    | none=>rw[hq3] at hx; cases hx
    | some y=>
     rw[hq3] at hx
     have h3:=qmD (s:=s) hw hT hP hlv b1 hq3
     cases y with
     | er a c=>
      simp only[Option.some.injEq] at hx
      subst hx
      obtain⟨i3,z3⟩:=h3
      exact⟨i3,qi3 hlv hT h hb d1 d3 hm z1 z2 z3⟩
     | ok e' r6=>
      simp only[Option.some.injEq] at hx
      obtain⟨i3,c1,c2,z3⟩:=h3
      obtain⟨t4,r7,rfl⟩:=qaU c2
      rcases qeT (s:=s) hw hT c1 (k:=5) (y:=⟨#[]⟩) (d := .sl (cE e++cE e') 2 true) rfl rfl (Ss.effect true e e' .nil) with ⟨r',i',e1,e2,e3,z⟩ | ⟨a,c,e1,i',z⟩
      ·rw[e1] at hx; subst hx
       exact⟨i',5,⟨#[]⟩,.sl (cE e++cE e') 2 true,e2,e3,qkP hlv hT h hb d1 d3 hm z1 z2 z3 z,rfl,rfl,by simp[Ss.fo],by simp[Ss.fo]⟩
      ·rw[e1] at hx; subst hx
       exact⟨i',qi4 hlv hT h hb d1 d3 hm z1 z2 z3 z⟩
end
end Go.Pm
end SKx
section SKy
namespace Go.Pm
open F
set_option maxHeartbeats 2000000
section
variable {s:ByteArray} {T:List Tk}
theorem qot (hw:WfQ T) (hT:T.length<2 ^ 40) (hP : ∀ t∈T,TokP t) {n lv i:Nat} {t:Tk} {r:List Tk} {x:Rz Ss} (hlv:lv<=20) (h:T.drop i=t::r) (hb:t.bad=0) (hl:qai qaO t.s=true) (hf:t.s∉fieldNames) (hwd:t.s∉wordNames)
  (hx:(match qav 12 (bs [61]) r with
    | .ok _ r1=>match qan 12 2 true n 1 lv r1 with
     | some (.ok b r2)=>some (qbe 12 (.assign true t.s b .nil) r2)
     | some (.er i k)=>some (.er i k)
     | none=>none
    | .er i k=>some (.er i k))=some x):qpA s T (Z tP (.call 271 [.ptr 0 0,.int lv] (PS s T i 0 12))) x:=by
 have hne:=qfD hl
 have hk:kindT t=1:=by rw[qb4 hb,qhe,if_neg hne,if_pos hl,if_neg hf,if_neg hwd]
 obtain⟨n1,n2⟩:=hw.next h hb hne
 obtain⟨t2,r3,rfl⟩:=qaU n2
 have h2:=qcq (s:=s) hw hT n1 (x:=bs [61]) (by decide)
 cases hq2:qav 12 (bs [61]) (t2::r3) with
 | er a c=>
  rw[hq2] at hx h2
  simp only[Option.some.injEq] at hx
  subst hx
  obtain⟨i2,z2⟩:=h2
  exact⟨i2,qiY hlv hT h hb hk z2⟩
 | ok u r4=>
  rw[hq2] at hx h2
  simp only at hx
  obtain⟨i2,b1,b2,z2⟩:=h2
  obtain⟨t3,r5,rfl⟩:=qaU b2
  cases hq3:qan 12 2 true n 1 lv (t3::r5) with
  | none=>rw[hq3] at hx; cases hx
  | some y=>
   rw[hq3] at hx
   have h3:=qmD (s:=s) hw hT hP hlv b1 hq3
   cases y with
   | er a c=>
    simp only[Option.some.injEq] at hx
    subst hx
    obtain⟨i3,z3⟩:=h3
    exact⟨i3,qiZ hlv hT h hb hk z2 z3⟩
   | ok e r6=>
    simp only[Option.some.injEq] at hx
    obtain⟨i3,c1,c2,z3⟩:=h3
    obtain⟨t4,r7,rfl⟩:=qaU c2
    rcases qeT (s:=s) hw hT c1 (k:=1) (y:=t.s) (d := .sl (cE e) 1 true) rfl rfl (Ss.assign true t.s e .nil) with ⟨r',i',e1,e2,e3,z⟩ | ⟨a,c,e1,i',z⟩
    ·rw[e1] at hx; subst hx
     exact⟨i',1,t.s,.sl (cE e) 1 true,e2,e3,qkO hlv hT h hb hk z2 z3 z,rfl,rfl,by simp[Ss.fo],by simp[Ss.fo]⟩
    ·rw[e1] at hx; subst hx
     exact⟨i',qi0 hlv hT h hb hk z2 z3 z⟩
theorem qpX (hw:WfQ T) (hT:T.length<2 ^ 40) (hP : ∀ t∈T,TokP t) {n lv i:Nat} {t:Tk} {r:List Tk} {x:Rz Ss} (hlv:lv<=20) (h:T.drop i=t::r) (hb:t.bad=0) (hf:t.s∈fieldNames)
  (hx:(match qbs 12 2 true n lv r with
    | some (.ok a r)=>match qav 12 (bs [61]) r with
     | .ok _ r1=>match qan 12 2 true n 1 lv r1 with
      | some (.ok b r2)=>some (qbe 12 (.store true t.s a b .nil) r2)
      | some (.er i k)=>some (.er i k)
      | none=>none
     | .er i k=>some (.er i k)
    | some (.er i k)=>some (.er i k)
    | none=>none)=some x):qpA s T (Z tP (.call 271 [.ptr 0 0,.int lv] (PS s T i 0 12))) x:=by
 have hall : ∀ w∈fieldNames,qhe w=3/\w≠⟨#[]⟩:=by decide
 have hk:kindT t=3:=by rw[qb4 hb]; exact (hall _ hf).1
 cases hq:qbs 12 2 true n lv r with
 | none=>rw[hq] at hx; cases hx
 | some y=>
  rw[hq] at hx
  have h1:=(qnF (s:=s) hw hT hP n).2.2 lv i t r y hlv h hb (hall _ hf).2 hq
  cases y with
  | er a c=>
   simp only[Option.some.injEq] at hx
   subst hx
   obtain⟨i1,z1⟩:=h1
   exact⟨i1,qjR hlv hT h hb hk z1⟩
  | ok e r2=>
   simp only at hx
   obtain⟨i1,a1,a2,z1⟩:=h1
   obtain⟨t2,r3,rfl⟩:=qaU a2
   have h2:=qcq (s:=s) hw hT a1 (x:=bs [61]) (by decide)
   cases hq2:qav 12 (bs [61]) (t2::r3) with
   | er a c=>
    rw[hq2] at hx h2
    simp only[Option.some.injEq] at hx
    subst hx
    obtain⟨i2,z2⟩:=h2
    exact⟨i2,qjS hlv hT h hb hk z1 z2⟩
   | ok u r4=>
    rw[hq2] at hx h2
    simp only at hx
    obtain⟨i2,b1,b2,z2⟩:=h2
    obtain⟨t3,r5,rfl⟩:=qaU b2
    cases hq3:qan 12 2 true n 1 lv (t3::r5) with
    | none=>rw[hq3] at hx; cases hx
    | some y=>
     rw[hq3] at hx
     have h3:=qmD (s:=s) hw hT hP hlv b1 hq3
     cases y with
     | er a c=>
      simp only[Option.some.injEq] at hx
      subst hx
      obtain⟨i3,z3⟩:=h3
      exact⟨i3,qjT hlv hT h hb hk z1 z2 z3⟩
     | ok e' r6=>
      simp only[Option.some.injEq] at hx
      obtain⟨i3,c1,c2,z3⟩:=h3
      obtain⟨t4,r7,rfl⟩:=qaU c2
      rcases qeT (s:=s) hw hT c1 (k:=2) (y:=t.s) (d := .sl (cE e++cE e') 2 true) rfl rfl (Ss.store true t.s e e' .nil) with ⟨r',i',e1,e2,e3,z⟩ | ⟨a,c,e1,i',z⟩
      ·rw[e1] at hx; subst hx
       exact⟨i',2,t.s,.sl (cE e++cE e') 2 true,e2,e3,qml hlv hT h hb hk z1 z2 z3 z,rfl,rfl,by simp[Ss.fo],by simp[Ss.fo]⟩
      ·rw[e1] at hx; subst hx
       exact⟨i',qjU hlv hT h hb hk z1 z2 z3 z⟩
theorem qpY (hw:WfQ T) (hT:T.length<2 ^ 40) (hP : ∀ t∈T,TokP t) {n lv i:Nat} (ihb:BkK s T n) {t:Tk} {r:List Tk} {x:Rz Ss} (hlv:lv<=20) (h:T.drop i=t::r) (hb:t.bad=0) (hm:t.s=qaZ)
  (hx:(match qan 12 2 true n 1 lv r with
    | some (.ok c r)=>match qaR 12 2 true true false n (lv+1) r with
     | some (.ok b r1)=>some (.ok (.cond true true c (.block false b .nil) .nil) r1)
     | some (.er i k)=>some (.er i k)
     | none=>none
    | some (.er i k)=>some (.er i k)
    | none=>none)=some x):qpA s T (Z tP (.call 271 [.ptr 0 0,.int lv] (PS s T i 0 12))) x:=by
 have hk:kindT t=2:=by rw[qb4 hb,hm]; decide
 obtain⟨n1,n2⟩:=hw.next h hb (by rw[hm]; decide)
 obtain⟨t1,r1,rfl⟩:=qaU n2
 have d1:decide (kindT t=1)=false:=decide_eq_false (by omega)
 have d3:decide (kindT t=3)=false:=decide_eq_false (by omega)
 cases hq:qan 12 2 true n 1 lv (t1::r1) with
 | none=>rw[hq] at hx; cases hx
 | some y=>
  rw[hq] at hx
  have h1:=qmD (s:=s) hw hT hP hlv n1 hq
  cases y with
  | er a c=>
   simp only[Option.some.injEq] at hx
   subst hx
   obtain⟨i1,z1⟩:=h1
   exact⟨i1,qjV (d := .lit (.bool true)) hlv hT h hb d1 d3 hm rfl rfl z1⟩
  | ok e r2=>
   simp only at hx
   obtain⟨i1,a1,a2,z1⟩:=h1
   obtain⟨t2,r3,rfl⟩:=qaU a2
   cases hq2:qaR 12 2 true true false n (lv+1) (t2::r3) with
   | none=>rw[hq2] at hx; cases hx
   | some y=>
    rw[hq2] at hx
    have h2:=ihb (lv+1) i1 t2 r3 y a1 hq2
    cases y with
    | er a c=>
     simp only[Option.some.injEq] at hx
     subst hx
     obtain⟨i2,z2⟩:=h2
     exact⟨i2,qjW (d := .lit (.bool true)) hlv hT h hb d1 d3 hm rfl rfl z1 z2⟩
    | ok b r4=>
     simp only[Option.some.injEq] at hx
     subst hx
     obtain⟨i2,b1,b2,z2⟩:=h2
     refine⟨i2,4,⟨#[]⟩,_,b1,b2,qmm hlv hT h hb d1 d3 hm (by simp) (by simp) z1 z2,rfl,rfl,?_,?_⟩<;>simp[Ss.fo]
end
end Go.Pm
end SKy
section SKz
namespace Go.Pm
open F
set_option maxHeartbeats 2000000
section
variable {s:ByteArray} {T:List Tk}
theorem qvj (hw:WfQ T) (hT:T.length<2 ^ 40) (hP : ∀ t∈T,TokP t) {n lv i:Nat} (ihb:BkK s T n) {t:Tk} {r:List Tk} {x:Rz Ss} (hlv:lv<=20) (h:T.drop i=t::r) (hb:t.bad=0) (hm:t.s=ifT)
  (hx:(match qan 12 2 true n 1 lv r with
    | some (.ok c r)=>match qaR 12 2 true true false n (lv+1) r with
     | some (.ok b r1)=>match nx r1 with
      | none=>some (failP 12 r1)
      | some w=>if w=bs [101,108,115,101] then match qaR 12 2 true true false n (lv+1) r1.tail with
        | some (.ok b2 r2)=>some (.ok (.cond false true c (.block false b (.block false b2 .nil)) .nil) r2)
        | some (.er i k)=>some (.er i k)
        | none=>none
       else some (.ok (.cond false true c (.block false b (.block false .nil .nil)) .nil) r1)
     | some (.er i k)=>some (.er i k)
     | none=>none
    | some (.er i k)=>some (.er i k)
    | none=>none)=some x):qpA s T (Z tP (.call 271 [.ptr 0 0,.int lv] (PS s T i 0 12))) x:=by
 have hk:kindT t=2:=by rw[qb4 hb,hm]; decide
 obtain⟨n1,n2⟩:=hw.next h hb (by rw[hm]; decide)
 obtain⟨t1,r1,rfl⟩:=qaU n2
 have d1:decide (kindT t=1)=false:=decide_eq_false (by omega)
 have d3:decide (kindT t=3)=false:=decide_eq_false (by omega)
 have z0:=qgb (s:=s) (a:=0) (c:=12) h hb hT (by rw[hm]; decide)
 rw[hm] at z0
 have pan : ∀ {i' a c:Nat},Z tP (.call 281 [.ptr 0 0,.int lv] (PS s T i 0 12))=some (.ret (qbk c) (PS s T i' a c))->qpA s T (Z tP (.call 271 [.ptr 0 0,.int lv] (PS s T i 0 12))) (.er a c):=fun z=>
  ⟨_,qnd (d := .lit (.bool true)) hlv hT h hb d1 d3 hm rfl rfl z⟩
 have fin : ∀ {i':Nat} {d:D} {b:Ss} {r':List Tk},T.drop i'=r'->r'≠[]->V.one (.dat d)=true->V.cells (.dat d)=[.dat d]->b.fo.cells=[.lit (.int .i64 3),.lit (.int .i64 0),.lit (.string ⟨#[]⟩),d]->b.fo.len=1->Z tP (.call 281 [.ptr 0 0,.int lv] (PS s T i 0 12))=some (.ret (nv 3 ⟨#[]⟩ d) (PS s T i' 0 12))->qpA s T (Z tP (.call 271 [.ptr 0 0,.int lv] (PS s T i 0 12))) (.ok b r'):=fun q1 q2 o1 o2 q3 q4 z=>
  ⟨_,3,⟨#[]⟩,_,q1,q2,qqD hlv hT h hb d1 d3 hm o1 o2 z,o1,o2,q3,q4⟩
 cases hq:qan 12 2 true n 1 lv (t1::r1) with
 | none=>rw[hq] at hx; cases hx
 | some y=>
  rw[hq] at hx
  have h1:=qmD (s:=s) hw hT hP hlv n1 hq
  cases y with
  | er a c=>
   simp only[Option.some.injEq] at hx
   subst hx
   obtain⟨i1,z1⟩:=h1
   exact pan (qtk hlv z0 z1)
  | ok e r2=>
   simp only at hx
   obtain⟨i1,a1,a2,z1⟩:=h1
   obtain⟨t2,r3,rfl⟩:=qaU a2
   cases hq2:qaR 12 2 true true false n (lv+1) (t2::r3) with
   | none=>rw[hq2] at hx; cases hx
   | some y=>
    rw[hq2] at hx
    have h2:=ihb (lv+1) i1 t2 r3 y a1 hq2
    cases y with
    | er a c=>
     simp only[Option.some.injEq] at hx
     subst hx
     obtain⟨i2,z2⟩:=h2
     exact pan (qtl hlv z0 z1 z2)
    | ok b r4=>
     simp only at hx
     obtain⟨i2,b1,b2,z2⟩:=h2
     obtain⟨t3,r5,rfl⟩:=qaU b2
     by_cases hb3:t3.bad=0
     ·have hnx:nx (t3::r5)=some t3.s:=if_pos hb3
      rw[hnx] at hx
      simp only[List.tail_cons] at hx
      by_cases hel:t3.s=bs [101,108,115,101]
      ·rw[if_pos hel] at hx
       obtain⟨m1,m2⟩:=hw.next b1 hb3 (by rw[hel]; decide)
       obtain⟨t4,r6,rfl⟩:=qaU m2
       cases hq3:qaR 12 2 true true false n (lv+1) (t4::r6) with
       | none=>rw[hq3] at hx; cases hx
       | some y=>
        rw[hq3] at hx
        have h3:=ihb (lv+1) (i2+1) t4 r6 y m1 hq3
        cases y with
        | er a c=>
         simp only[Option.some.injEq] at hx
         subst hx
         obtain⟨i3,z3⟩:=h3
         exact pan (qtm hlv (by simp) (by simp) z0 z1 z2 hT b1 hb3 hel z3)
        | ok b' r7=>
         simp only[Option.some.injEq] at hx
         subst hx
         obtain⟨i3,c1,c2,z3⟩:=h3
         exact fin c1 c2 rfl rfl (by simp[Ss.fo]) (by simp[Ss.fo]) (qu9 hlv (by simp) (by simp) z0 z1 z2 (by simp) (by simp) hT b1 hb3 hel z3)
      ·rw[if_neg hel] at hx
       simp only[Option.some.injEq] at hx
       subst hx
       exact fin b1 (by simp) rfl rfl (by simp[Ss.fo]) (by simp[Ss.fo]) (qu8 hlv (by simp) (by simp) z0 z1 z2 b1 hb3 hel)
     ·have hnx:nx (t3::r5)=none:=if_neg hb3
      rw[hnx] at hx
      simp only[failP,if_neg hb3,Option.some.injEq] at hx
      subst hx
      exact pan (qu7 hlv (by simp) (by simp) z0 z1 z2 b1 hb3)
theorem qrO (hw:WfQ T) (hT:T.length<2 ^ 40) (hP : ∀ t∈T,TokP t) {n:Nat} (ihb:BkK s T n):StK s T (n+1):=by
 intro lv i t r x hlv h hx
 by_cases hb:t.bad=0
 case neg=>
  have hnx:nx (t::r)=none:=if_neg hb
  rw[qcl,hnx] at hx
  simp only[failP,if_neg hb,Option.some.injEq] at hx
  subst hx
  exact⟨i,quE h hb⟩
 have hnx:nx (t::r)=some t.s:=if_pos hb
 rw[qcl,hnx] at hx
 simp only[List.tail_cons] at hx
 by_cases h1:t.s=bs [105,102]
 ·rw[if_pos h1] at hx
  exact qvj hw hT hP ihb hlv h hb h1 hx
 rw[if_neg h1] at hx
 by_cases h2:t.s=bs [119,104,105,108,101]
 ·rw[if_pos h2] at hx
  exact qpY hw hT hP ihb hlv h hb h2 hx
 rw[if_neg h2] at hx
 by_cases h3:t.s=bs [101,102,102,101,99,116]
 ·rw[if_pos h3] at hx
  exact qn7 hw hT hP hlv h hb h3 hx
 rw[if_neg h3] at hx
 by_cases h4:t.s=bs [115,116,111,112]
 ·rw[if_pos h4] at hx
  exact qrx hw hT hlv h hb h4 (Option.some.inj hx)
 rw[if_neg h4] at hx
 by_cases hf:t.s∈fieldNames
 ·rw[if_pos hf] at hx
  exact qpX hw hT hP hlv h hb hf hx
 rw[if_neg hf] at hx
 by_cases hv:qai qaO t.s=true/\t.s∉wordNames
 ·rw[if_pos hv] at hx
  exact qot hw hT hP hlv h hb hv.1 hf hv.2 hx
 rw[if_neg hv] at hx
 simp only[failP,if_pos hb,Option.some.injEq] at hx
 subst hx
 have hk5:kindT t≠1/\kindT t≠3:=by
  rw[qb4 hb,qhe]
  by_cases a1:t.s=⟨#[]⟩
  ·rw[if_pos a1]; decide
  ·rw[if_neg a1]
   by_cases a2:qai qaO t.s=true
   ·rw[if_pos a2,if_neg hf]
    by_cases a3:t.s∈wordNames
    ·rw[if_pos a3]; decide
    ·exact absurd ⟨a2,a3⟩ hv
   ·rw[if_neg a2]
    split<;>decide
 exact⟨i,qsx hlv hT h hb (decide_eq_false hk5.1) (decide_eq_false hk5.2) h1 h2 h3 h4⟩
end
end Go.Pm
end SKz
