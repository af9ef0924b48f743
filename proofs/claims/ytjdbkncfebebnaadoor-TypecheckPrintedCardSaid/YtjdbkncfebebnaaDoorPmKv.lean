/- Chapter 13's parser: an if: the walks. Printed by kv.py. Chapter 13's parser: a block: the walks. Chapter 13's parser: a statement is the plain one. Chapter 13's parser: assignments, stores, loops, ifs against the plain ones. Chapter 13's parser: every statement is the plain one. Chapter 13's parser: blocks are the plain ones. Chapter 13's parser: handlers. Chapter 13's parser: a whole program: the walks. Chapter 13's parser: whole programs are the plain ones. Chapter 13's parser: program. Chapter 13's parser: Parse is the plain one. Chapter 13's parser: Parse behind an error. Chapter 13's parser: Parse, whole. What the laws of chapter 13 call, over any table that has it: Short, Broken, Source, Parse, Print, equal. -/
import Derived.Test.YtjdbkncfebebnaaDoorPmKq
import Derived.Test.YtjdbkncfebebnaaDoorPmF4
import Derived.Test.YtjdbkncfebebnaaDoorPmYh
import Derived.Test.YtjdbkncfebebnaaDoorPmOh
set_option linter.unusedSimpArgs false
set_option linter.unusedVariables false
section SKv
namespace Go.Pm
open F
set_option maxHeartbeats 4000000
attribute [local simp] qa6 qbJ dkey
def qhI:ByteArray:=⟨#[101,108,115,101]⟩
abbrev cB (d:D):List D:=[.lit (.int .i64 7),.lit (.int .i64 0),.lit (.string ⟨#[]⟩),d]
section
variable {s:ByteArray} {T:List Tk} {lv i i1 i2 i3 i4:Nat} {e:E} {a c:Int} {t:Tk} {r:List Tk} {d d':D}
theorem qtA (hlv:lv<=20)
  (z1:Z tP (.call 253 [.ptr 0 0,.str ifT] (PS s T i 0 12))=some (.ret (.tup []) (PS s T i1 0 12)))
  (z2:Z tP (.call 279 [.ptr 0 0,.int lv] (PS s T i1 0 12))=some (.ret (qbc c) (PS s T i2 a c))):Z tP (.call 281 [.ptr 0 0,.int lv] (PS s T i 0 12))=some (.ret (qbc c) (PS s T i2 a c)):=by
 have w1:=qag ((lv:Int)+1) (by omega)
 simp only[PS,pO,nv,ifT] at z1 z2
 try simp only[Int.natCast_add,Int.cast_ofNat_Int] at z1 z2
 refine qaa (pf:=F281) rfl rfl ?_
 simp[F281,w1,z1,z2,qaf,List.range_succ]
theorem qtB (hlv:lv<=20)
  (z1:Z tP (.call 253 [.ptr 0 0,.str ifT] (PS s T i 0 12))=some (.ret (.tup []) (PS s T i1 0 12)))
  (z2:Z tP (.call 279 [.ptr 0 0,.int lv] (PS s T i1 0 12))=some (.ret e.node (PS s T i2 0 12)))
  (z3:Z tP (.call 256 [.ptr 0 0,.int ((lv+1:Nat):Int)] (PS s T i2 0 12))=some (.ret (qbc c) (PS s T i3 a c))):Z tP (.call 281 [.ptr 0 0,.int lv] (PS s T i 0 12))=some (.ret (qbc c) (PS s T i3 a c)):=by
 have w1:=qag ((lv:Int)+1) (by omega)
 simp only[PS,pO,nv,ifT] at z1 z2 z3
 try simp only[Int.natCast_add,Int.cast_ofNat_Int] at z1 z2 z3
 refine qaa (pf:=F281) rfl rfl ?_
 simp[F281,w1,z1,z2,z3,qaf,List.range_succ]
theorem qvx (hlv:lv<=20) (od:V.one (.dat d)=true) (oc:V.cells (.dat d)=[.dat d])
  (z1:Z tP (.call 253 [.ptr 0 0,.str ifT] (PS s T i 0 12))=some (.ret (.tup []) (PS s T i1 0 12)))
  (z2:Z tP (.call 279 [.ptr 0 0,.int lv] (PS s T i1 0 12))=some (.ret e.node (PS s T i2 0 12)))
  (z3:Z tP (.call 256 [.ptr 0 0,.int ((lv+1:Nat):Int)] (PS s T i2 0 12))=some (.ret (nv 7 ⟨#[]⟩ d) (PS s T i3 0 12))) (h:T.drop i3=t::r) (hb:t.bad≠0):Z tP (.call 281 [.ptr 0 0,.int lv] (PS s T i 0 12))=some (.ret (qbc t.bad) (PS s T i3 t.at_ t.bad)):=by
 have w1:=qag ((lv:Int)+1) (by omega)
 simp only[PS,pO,nv,ifT] at z1 z2 z3
 try simp only[Int.natCast_add,Int.cast_ofNat_Int] at z1 z2 z3
 have y:=qfq (s:=s) (a:=0) (c:=12) h hb (qah [qhI] true)
 simp only[PS,pO,qhI,strC,List.map_cons,List.map_nil,List.length_singleton] at y
 refine qaa (pf:=F281) rfl rfl ?_
 simp[F281,w1,z1,z2,z3,y,od,oc,qaf,List.range_succ]
theorem qvy (hlv:lv<=20) (od:V.one (.dat d)=true) (oc:V.cells (.dat d)=[.dat d])
  (z1:Z tP (.call 253 [.ptr 0 0,.str ifT] (PS s T i 0 12))=some (.ret (.tup []) (PS s T i1 0 12)))
  (z2:Z tP (.call 279 [.ptr 0 0,.int lv] (PS s T i1 0 12))=some (.ret e.node (PS s T i2 0 12)))
  (z3:Z tP (.call 256 [.ptr 0 0,.int ((lv+1:Nat):Int)] (PS s T i2 0 12))=some (.ret (nv 7 ⟨#[]⟩ d) (PS s T i3 0 12))) (h:T.drop i3=t::r) (hb:t.bad=0) (hm:t.s≠qhI):Z tP (.call 281 [.ptr 0 0,.int lv] (PS s T i 0 12))=some (.ret (nv 3 ⟨#[]⟩ (.sl (cE e++cB d++cB (.lit (.slice none 0 0))) 3 true)) (PS s T i3 0 12)):=by
 have w1:=qag ((lv:Int)+1) (by omega)
 simp only[PS,pO,nv,ifT] at z1 z2 z3
 try simp only[Int.natCast_add,Int.cast_ofNat_Int] at z1 z2 z3
 have y:=qaK (s:=s) (a:=0) (c:=12) h hb (qah [qhI] true) (by simp) (by decide)
 simp only[List.mem_singleton,hm,decide_false] at y
 simp only[PS,pO,qhI,strC,List.map_cons,List.map_nil,List.length_singleton] at y
 refine qaa (pf:=F281) rfl rfl ?_
 simp[F281,w1,z1,z2,z3,y,od,oc,qaf,List.range_succ]
theorem qtC (hlv:lv<=20) (od:V.one (.dat d)=true) (oc:V.cells (.dat d)=[.dat d])
  (z1:Z tP (.call 253 [.ptr 0 0,.str ifT] (PS s T i 0 12))=some (.ret (.tup []) (PS s T i1 0 12)))
  (z2:Z tP (.call 279 [.ptr 0 0,.int lv] (PS s T i1 0 12))=some (.ret e.node (PS s T i2 0 12)))
  (z3:Z tP (.call 256 [.ptr 0 0,.int ((lv+1:Nat):Int)] (PS s T i2 0 12))=some (.ret (nv 7 ⟨#[]⟩ d) (PS s T i3 0 12))) (hT:T.length<2 ^ 40) (h:T.drop i3=t::r) (hb:t.bad=0) (hm:t.s=qhI)
  (z4:Z tP (.call 256 [.ptr 0 0,.int ((lv+1:Nat):Int)] (PS s T ((i3+1:Nat):Int) 0 12))=some (.ret (qbc c) (PS s T i4 a c))):Z tP (.call 281 [.ptr 0 0,.int lv] (PS s T i 0 12))=some (.ret (qbc c) (PS s T i4 a c)):=by
 have w1:=qag ((lv:Int)+1) (by omega)
 simp only[PS,pO,nv,ifT] at z1 z2 z3
 try simp only[Int.natCast_add,Int.cast_ofNat_Int] at z1 z2 z3
 have y:=qaK (s:=s) (a:=0) (c:=12) h hb (qah [qhI] true) (by simp) (by decide)
 simp only[List.mem_singleton,hm,decide_true] at y
 simp only[PS,pO,qhI,strC,List.map_cons,List.map_nil,List.length_singleton] at y
 have zt:=qaH (s:=s) (a:=0) (c:=12) h hb hT
 simp only[PS,pO,ptk,ptD] at zt
 simp only[PS,pO,nv] at z4
 simp only[Int.natCast_add,Int.cast_ofNat_Int] at zt z4
 refine qaa (pf:=F281) rfl rfl ?_
 simp[F281,w1,z1,z2,z3,y,zt,z4,od,oc,qaf,List.range_succ]
theorem qvz (hlv:lv<=20) (od:V.one (.dat d)=true) (oc:V.cells (.dat d)=[.dat d])
  (z1:Z tP (.call 253 [.ptr 0 0,.str ifT] (PS s T i 0 12))=some (.ret (.tup []) (PS s T i1 0 12)))
  (z2:Z tP (.call 279 [.ptr 0 0,.int lv] (PS s T i1 0 12))=some (.ret e.node (PS s T i2 0 12)))
  (z3:Z tP (.call 256 [.ptr 0 0,.int ((lv+1:Nat):Int)] (PS s T i2 0 12))=some (.ret (nv 7 ⟨#[]⟩ d) (PS s T i3 0 12))) (od':V.one (.dat d')=true) (oc':V.cells (.dat d')=[.dat d']) (hT:T.length<2 ^ 40) (h:T.drop i3=t::r) (hb:t.bad=0) (hm:t.s=qhI)
  (z4:Z tP (.call 256 [.ptr 0 0,.int ((lv+1:Nat):Int)] (PS s T ((i3+1:Nat):Int) 0 12))=some (.ret (nv 7 ⟨#[]⟩ d') (PS s T i4 0 12))):Z tP (.call 281 [.ptr 0 0,.int lv] (PS s T i 0 12))=some (.ret (nv 3 ⟨#[]⟩ (.sl (cE e++cB d++cB d') 3 true)) (PS s T i4 0 12)):=by
 have w1:=qag ((lv:Int)+1) (by omega)
 simp only[PS,pO,nv,ifT] at z1 z2 z3
 try simp only[Int.natCast_add,Int.cast_ofNat_Int] at z1 z2 z3
 have y:=qaK (s:=s) (a:=0) (c:=12) h hb (qah [qhI] true) (by simp) (by decide)
 simp only[List.mem_singleton,hm,decide_true] at y
 simp only[PS,pO,qhI,strC,List.map_cons,List.map_nil,List.length_singleton] at y
 have zt:=qaH (s:=s) (a:=0) (c:=12) h hb hT
 simp only[PS,pO,ptk,ptD] at zt
 simp only[PS,pO,nv] at z4
 simp only[Int.natCast_add,Int.cast_ofNat_Int] at zt z4
 refine qaa (pf:=F281) rfl rfl ?_
 simp[F281,w1,z1,z2,z3,y,zt,z4,od',oc',od,oc,qaf,List.range_succ]
end
end Go.Pm
end SKv
section SKw
namespace Go.Pm
open F
set_option maxHeartbeats 4000000
attribute [local simp] qa6 qbJ dkey
def qpF (v:V) (σt:S) (cs:List D) (n:Nat):Prop:=(n=0/\cs=[]/\v = .dat (.lit (.slice none 0 0)) /\ σt=[])\/(n≠0/\cs.length=n*4/\v = .gsl cs n 4 5 /\ σt=[.tip cs.length])
abbrev bzF (lv:Nat):Fr:=[(0,.ptr 0 0),(1,.int lv),(4,.ptr 3 0),(5,.ptr 4 0)]
abbrev bzS (s:ByteArray) (T:List Tk) (i a c:Int) (v:V) (σt:S):S:=PS s T i a c++(nd0 :: .cells [.int 7,.int 0,.str ⟨#[]⟩,v] :: σt)
def ql0:ByteArray:=⟨#[125]⟩
section
variable {s:ByteArray} {T:List Tk} {lv i i' i1 i2:Nat} {a c:Int} {t:Tk} {r:List Tk} {d:D} {v:V} {σt:S} {cs:List D} {n:Nat}
theorem qtR (h:T.drop i=t::r) (hb:t.bad=0) (hm:t.s=ql0) (hr:qpF v σt cs n):Z tP (.loop 3 F256l0 (bzF lv) (bzS s T i 0 12 v σt))=some (.out (.exit 0) (bzF lv++[(13,.bool false)]) (bzS s T i 0 12 v σt)):=by
 have y:=qaK (s:=s) (a:=0) (c:=12) h hb (qah [ql0] true) (by simp) (by decide)
 simp only[List.mem_singleton,hm,decide_true] at y
 simp only[PS,pO,ql0,strC,List.map_cons,List.map_nil,List.length_singleton] at y
 rw[qac]
 rcases hr with ⟨rfl,rfl,rfl,rfl⟩ | ⟨h0,h1,rfl,rfl⟩<;>simp[qae,qdH,y,List.range_succ]
theorem qtS (h:T.drop i=t::r) (hb:t.bad≠0) (hr:qpF v σt cs n) : ∃ fr,fr.get 1000000=none/\Z tP (.loop 3 F256l0 (bzF lv) (bzS s T i 0 12 v σt))=some (.out (.pan (.iface 1 (.int t.bad))) fr (bzS s T i t.at_ t.bad v σt)):=by
 have y:=qfq (s:=s) (a:=0) (c:=12) h hb (qah [ql0] true)
 simp only[PS,pO,ql0,strC,List.map_cons,List.map_nil,List.length_singleton] at y
 refine⟨(11,.dat (.sl [.lit (.string ⟨#[125]⟩)] 1 true))::(10,.ptr 0 0)::bzF lv,by simp[Fr.get],?_⟩
 rw[qac]
 rcases hr with ⟨rfl,rfl,rfl,rfl⟩ | ⟨h0,h1,rfl,rfl⟩<;>simp[qae,qdH,y,qaf,List.range_succ]
theorem qpG (h:T.drop i=t::r) (hb:t.bad=0) (hm:t.s≠ql0) (hr:qpF v σt cs n) (hn:n<=2 ^ 40) {k:Int} {x:ByteArray} (od:V.one (.dat d)=true) (oc:V.cells (.dat d)=[.dat d])
  (z:Z tP (.call 271 [.ptr 0 0,.int lv] (PS s T i 0 12))=some (.ret (nv k x d) (PS s T i' 0 12))) :
  ∃ v' σt',qpF v' σt' (cs++[.lit (.int .i64 k),.lit (.int .i64 0),.lit (.string x),d]) (n+1)/\Z tP (.loop 3 F256l0 (bzF lv) (bzS s T i 0 12 v σt))=Z tP (.loop 3 F256l0 (bzF lv) (bzS s T i' 0 12 v' σt')):=by
 have y:=qaK (s:=s) (a:=0) (c:=12) h hb (qah [ql0] true) (by simp) (by decide)
 have hroom:qaP (n+1) 56=true:=by simp only[qaP,decide_eq_true_eq]; omega
 simp only[List.mem_singleton,hm,decide_false] at y
 simp only[PS,pO,ql0,strC,List.map_cons,List.map_nil,List.length_singleton] at y
 simp only[PS,pO,nv] at z
 refine⟨.gsl (cs++[.lit (.int .i64 k),.lit (.int .i64 0),.lit (.string x),d]) (n+1) 4 5,[.tip (cs++[.lit (.int .i64 k),.lit (.int .i64 0),.lit (.string x),d]).length],.inr ⟨by omega,?_,rfl,rfl⟩,?_⟩
 ·rcases hr with ⟨rfl,rfl,_,_⟩ | ⟨_,h1,_,_⟩
  ·simp
  ·simp[h1]; omega
 ·conv=>lhs; rw[qac]
  rcases hr with ⟨rfl,rfl,rfl,rfl⟩ | ⟨h0,h1,rfl,rfl⟩
  ·have hr1:qaP 1 56=true:=by decide
   simp[qae,qdH,y,z,od,oc,hr1,qce,qly,qc5,qa3,qbn,qbN,qa4,still,V.same,List.range_succ]
   try exact qam (by simp[List.range_succ])
  ·simp[qae,qdH,y,z,od,oc,hroom,h0,h1,qce,qly,qc5,qa3,qbn,qbN,qa4,still,V.same,List.range_succ]
   try exact qam (by simp[List.range_succ])
theorem qtT (h:T.drop i=t::r) (hb:t.bad=0) (hm:t.s≠ql0) (hr:qpF v σt cs n)
  (z:Z tP (.call 271 [.ptr 0 0,.int lv] (PS s T i 0 12))=some (.ret (qbc c) (PS s T i' a c))) :
  Z tP (.loop 3 F256l0 (bzF lv) (bzS s T i 0 12 v σt))=some (.out (.pan (.iface 1 (.int c))) [] (bzS s T i' a c v σt)):=by
 have y:=qaK (s:=s) (a:=0) (c:=12) h hb (qah [ql0] true) (by simp) (by decide)
 simp only[List.mem_singleton,hm,decide_false] at y
 simp only[PS,pO,ql0,strC,List.map_cons,List.map_nil,List.length_singleton] at y
 simp only[PS,pO] at z
 rw[qac]
 rcases hr with ⟨rfl,rfl,rfl,rfl⟩ | ⟨h0,h1,rfl,rfl⟩<;>simp[qae,qdH,y,z,qaf,qaz,qc5,qa3,qbn,qbN,qa4,still,V.same,List.range_succ]
theorem qrY (zo:Z tP (.call 270 [.ptr 0 0,.str ⟨#[123]⟩,.int lv] (PS s T i 0 12))=some (.ret (qbc c) (PS s T i1 a c))):Z tP (.call 256 [.ptr 0 0,.int lv] (PS s T i 0 12))=some (.ret (qbc c) (PS s T i1 a c)):=by
 simp only[PS,pO] at zo
 refine qaa (pf:=F256) rfl rfl ?_
 simp[F256,zo,qaf,List.range_succ]
theorem qtU (zo:Z tP (.call 270 [.ptr 0 0,.str ⟨#[123]⟩,.int lv] (PS s T i 0 12))=some (.ret (.tup []) (PS s T i1 0 12))) {fr:Fr} (hf:fr.get 1000000=none)
  (zl:Z tP (.loop 3 F256l0 (bzF lv) (bzS s T i1 0 12 (.dat (.lit (.slice none 0 0))) []))=some (.out (.pan (.iface 1 (.int c))) fr (bzS s T i2 a c v σt))):Z tP (.call 256 [.ptr 0 0,.int lv] (PS s T i 0 12))=some (.ret (qbc c) (PS s T i2 a c)):=by
 simp only[PS,pO,bzS,List.cons_append,List.nil_append] at zo zl
 refine qaa (pf:=F256) rfl rfl ?_
 simp[F256,zo,zl,hf,qaf,List.range_succ]
theorem qvI (hT:T.length<2 ^ 40) (zo:Z tP (.call 270 [.ptr 0 0,.str ⟨#[123]⟩,.int lv] (PS s T i 0 12))=some (.ret (.tup []) (PS s T i1 0 12))) (hr:qpF v σt cs n)
  (zl:Z tP (.loop 3 F256l0 (bzF lv) (bzS s T i1 0 12 (.dat (.lit (.slice none 0 0))) []))=some (.out (.exit 0) (bzF lv++[(13,.bool false)]) (bzS s T i2 0 12 v σt)))
  (h:T.drop i2=t::r) (hb:t.bad=0) (hm:t.s=ql0):Z tP (.call 256 [.ptr 0 0,.int lv] (PS s T i 0 12))=some (.ret (nv 7 ⟨#[]⟩ (kd false n cs)) (PS s T ((i2+1:Nat):Int) 0 12)):=by
 have zx:=qgp (s:=s) (a:=0) (c:=12) h hb hT (by rw[hm]; decide)
 rw[hm] at zx
 simp only[PS,pO,ql0,Int.natCast_add,Int.cast_ofNat_Int] at zx
 simp only[PS,pO,bzS,List.cons_append,List.nil_append] at zo zl
 refine qaa (pf:=F256) rfl rfl ?_
 rcases hr with ⟨rfl,rfl,rfl,rfl⟩ | ⟨h0,h1,rfl,rfl⟩
 ·simp[F256,zo,zl,zx,List.range_succ]
 ·obtain⟨m,rfl⟩ : ∃ m,n=m+1:=⟨n-1,by omega⟩
  simp[F256,zo,zl,zx,List.range_succ]
end
end Go.Pm
end SKw
section SKx
namespace Go.Pm
open F
set_option maxHeartbeats 2000000
def qpt (s:ByteArray) (T:List Tk) (res:Option Res) (x:Rz Ss):Prop:=match x with
 | .ok b r => ∃ (i':Nat) (k:Int) (y:ByteArray) (d:D),T.drop i'=r/\r≠[]/\res=some (.ret (nv k y d) (PS s T i' 0 12))/\V.one (.dat d)=true/\V.cells (.dat d)=[.dat d]/\b.fo.cells=[.lit (.int .i64 k),.lit (.int .i64 0),.lit (.string y),d]/\b.fo.len=1
 | .er a c => ∃ i':Nat,res=some (.ret (qbc c) (PS s T i' a c))
def qwI (s:ByteArray) (T:List Tk) (res:Option Res) (x:Rz Ss):Prop:=match x with
 | .ok b r => ∃ i':Nat,T.drop i'=r/\r≠[]/\res=some (.ret (nv 7 ⟨#[]⟩ (kd false b.fo.len b.fo.cells)) (PS s T i' 0 12))
 | .er a c => ∃ i':Nat,res=some (.ret (qbc c) (PS s T i' a c))
section
variable (s:ByteArray) (T:List Tk)
def StK (n:Nat):Prop := ∀ (lv i:Nat) (t:Tk) (r:List Tk) (x:Rz Ss),lv<=20->T.drop i=t::r->qc8 12 2 true true false n lv (t::r)=some x->qpt s T (Z tP (.call 271 [.ptr 0 0,.int lv] (PS s T i 0 12))) x
def BkK (n:Nat):Prop := ∀ (lv i:Nat) (t:Tk) (r:List Tk) (x:Rz Ss),T.drop i=t::r->qbk 12 2 true true false n lv (t::r)=some x->qwI s T (Z tP (.call 256 [.ptr 0 0,.int lv] (PS s T i 0 12))) x
variable {s:ByteArray} {T:List Tk}
theorem qeV (hw:WfQ T) (hT:T.length<2 ^ 40) {i:Nat} {t:Tk} {r:List Tk} (h:T.drop i=t::r) {k:Int} {y:ByteArray} {d:D} (od:V.one (.dat d)=true) (oc:V.cells (.dat d)=[.dat d]) (b:Ss) :
  (∃ r' i',qbI 12 b (t::r) = .ok b r'/\T.drop i'=r'/\r'≠[]/\Z tP (.call 278 [.ptr 0 0,nv k y d] (PS s T i 0 12))=some (.ret (nv k y d) (PS s T i' 0 12))) \/
  (∃ a c,qbI 12 b (t::r) = .er a c /\ ∃ i':Nat,Z tP (.call 278 [.ptr 0 0,nv k y d] (PS s T i 0 12))=some (.ret (qbc c) (PS s T i' a c))):=by
 have he:=qck (s:=s) hw hT h (x:=bs [59]) (by decide)
 unfold qbI
 cases hq:qaO 12 (bs [59]) (t::r) with
 | ok u r'=>
  rw[hq] at he
  obtain⟨i',a1,a2,z⟩:=he
  exact .inl ⟨r',i',rfl,a1,a2,quR od oc z⟩
 | er a c=>
  rw[hq] at he
  obtain⟨i',z⟩:=he
  exact .inr ⟨a,c,rfl,i',qsE od oc z⟩
theorem qmv (hw:WfQ T) (hT:T.length<2 ^ 40) (hP : ∀ t∈T,TokP t) {n lv i:Nat} {t:Tk} {r:List Tk} {x:Rz E} (hlv:lv<=20) (h:T.drop i=t::r) (hx:qao 12 2 true n 1 lv (t::r)=some x):Out s T (Z tP (.call 279 [.ptr 0 0,.int lv] (PS s T i 0 12))) x E.node:=
 (qnp hw hT hP n).1 1 lv i t r x (by omega) (by omega) hlv h hx
theorem qrB (hw:WfQ T) (hT:T.length<2 ^ 40) {lv i:Nat} {t:Tk} {r:List Tk} {x:Rz Ss} (hlv:lv<=20) (h:T.drop i=t::r) (hb:t.bad=0) (hm:t.s=qe1) (hx:qbI 12 (Ss.stop .nil) r=x):qpt s T (Z tP (.call 271 [.ptr 0 0,.int lv] (PS s T i 0 12))) x:=by
 have hk:kindT t=2:=by rw[qbW hb,hm]; decide
 obtain⟨n1,n2⟩:=hw.next h hb (by rw[hm]; decide)
 obtain⟨t1,r1,rfl⟩:=qaU n2
 have d1:decide (kindT t=1)=false:=decide_eq_false (by omega)
 have d3:decide (kindT t=3)=false:=decide_eq_false (by omega)
 rcases qeV (s:=s) hw hT n1 (k:=6) (y:=⟨#[]⟩) (d := .lit (.slice none 0 0)) rfl rfl (Ss.stop .nil) with ⟨r',i',e1,e2,e3,z⟩ | ⟨a,c,e1,i',z⟩
 ·rw[e1] at hx; subst hx
  exact⟨i',6,⟨#[]⟩,.lit (.slice none 0 0),e2,e3,qm0 hlv hT h hb d1 d3 hm z,rfl,rfl,by simp[Ss.fo],by simp[Ss.fo]⟩
 ·rw[e1] at hx; subst hx
  exact⟨i',qkK hlv hT h hb d1 d3 hm z⟩
theorem qnP (hw:WfQ T) (hT:T.length<2 ^ 40) (hP : ∀ t∈T,TokP t) {n lv i:Nat} {t:Tk} {r:List Tk} {x:Rz Ss} (hlv:lv<=20) (h:T.drop i=t::r) (hb:t.bad=0) (hm:t.s=qaM)
  (hx:(match qao 12 2 true n 1 lv r with
    | some (.ok a r)=>match qaO 12 (bs [44]) r with
     | .ok _ r1=>match qao 12 2 true n 1 lv r1 with
      | some (.ok b r2)=>some (qbI 12 (.effect true a b .nil) r2)
      | some (.er i k)=>some (.er i k)
      | none=>none
     | .er i k=>some (.er i k)
    | some (.er i k)=>some (.er i k)
    | none=>none)=some x):qpt s T (Z tP (.call 271 [.ptr 0 0,.int lv] (PS s T i 0 12))) x:=by
 have hk:kindT t=2:=by rw[qbW hb,hm]; decide
 obtain⟨n1,n2⟩:=hw.next h hb (by rw[hm]; decide)
 obtain⟨t1,r1,rfl⟩:=qaU n2
 have d1:decide (kindT t=1)=false:=decide_eq_false (by omega)
 have d3:decide (kindT t=3)=false:=decide_eq_false (by omega)
 cases hq:qao 12 2 true n 1 lv (t1::r1) with
 | none=>rw[hq] at hx; cases hx
 | some y=>
  rw[hq] at hx
  have h1:=qmv (s:=s) hw hT hP hlv n1 hq
  cases y with
  | er a c=>
   simp only[Option.some.injEq] at hx
   subst hx
   obtain⟨i1,z1⟩:=h1
   exact⟨i1,qi5 hlv hT h hb d1 d3 hm z1⟩
  | ok e r2=>
   simp only at hx
   obtain⟨i1,a1,a2,z1⟩:=h1
   obtain⟨t2,r3,rfl⟩:=qaU a2
   have h2:=qck (s:=s) hw hT a1 (x:=bs [44]) (by decide)
   cases hq2:qaO 12 (bs [44]) (t2::r3) with
   | er a c=>
    rw[hq2] at hx h2
    simp only[Option.some.injEq] at hx
    subst hx
    obtain⟨i2,z2⟩:=h2
    exact⟨i2,qi6 hlv hT h hb d1 d3 hm z1 z2⟩
   | ok u r4=>
    rw[hq2] at hx h2
    simp only at hx
    obtain⟨i2,b1,b2,z2⟩:=h2
    obtain⟨t3,r5,rfl⟩:=qaU b2
    cases hq3:qao 12 2 true n 1 lv (t3::r5) with
    | none=>rw[hq3] at hx; cases hx
    | some y=>
     rw[hq3] at hx
     have h3:=qmv (s:=s) hw hT hP hlv b1 hq3
     cases y with
     | er a c=>
      simp only[Option.some.injEq] at hx
      subst hx
      obtain⟨i3,z3⟩:=h3
      exact⟨i3,qi7 hlv hT h hb d1 d3 hm z1 z2 z3⟩
     | ok e' r6=>
      simp only[Option.some.injEq] at hx
      obtain⟨i3,c1,c2,z3⟩:=h3
      obtain⟨t4,r7,rfl⟩:=qaU c2
      rcases qeV (s:=s) hw hT c1 (k:=5) (y:=⟨#[]⟩) (d := .sl (cE e++cE e') 2 true) rfl rfl (Ss.effect true e e' .nil) with ⟨r',i',e1,e2,e3,z⟩ | ⟨a,c,e1,i',z⟩
      ·rw[e1] at hx; subst hx
       exact⟨i',5,⟨#[]⟩,.sl (cE e++cE e') 2 true,e2,e3,qkJ hlv hT h hb d1 d3 hm z1 z2 z3 z,rfl,rfl,by simp[Ss.fo],by simp[Ss.fo]⟩
      ·rw[e1] at hx; subst hx
       exact⟨i',qi8 hlv hT h hb d1 d3 hm z1 z2 z3 z⟩
end
end Go.Pm
end SKx
section SKy
namespace Go.Pm
open F
set_option maxHeartbeats 2000000
section
variable {s:ByteArray} {T:List Tk}
theorem qn9 (hw:WfQ T) (hT:T.length<2 ^ 40) (hP : ∀ t∈T,TokP t) {n lv i:Nat} {t:Tk} {r:List Tk} {x:Rz Ss} (hlv:lv<=20) (h:T.drop i=t::r) (hb:t.bad=0) (hl:qax qaQ t.s=true) (hf:t.s∉fieldNames) (hwd:t.s∉wordNames)
  (hx:(match qaO 12 (bs [61]) r with
    | .ok _ r1=>match qao 12 2 true n 1 lv r1 with
     | some (.ok b r2)=>some (qbI 12 (.assign true t.s b .nil) r2)
     | some (.er i k)=>some (.er i k)
     | none=>none
    | .er i k=>some (.er i k))=some x):qpt s T (Z tP (.call 271 [.ptr 0 0,.int lv] (PS s T i 0 12))) x:=by
 have hne:=qfL hl
 have hk:kindT t=1:=by rw[qbW hb,qht,if_neg hne,if_pos hl,if_neg hf,if_neg hwd]
 obtain⟨n1,n2⟩:=hw.next h hb hne
 obtain⟨t2,r3,rfl⟩:=qaU n2
 have h2:=qck (s:=s) hw hT n1 (x:=bs [61]) (by decide)
 cases hq2:qaO 12 (bs [61]) (t2::r3) with
 | er a c=>
  rw[hq2] at hx h2
  simp only[Option.some.injEq] at hx
  subst hx
  obtain⟨i2,z2⟩:=h2
  exact⟨i2,qi2 hlv hT h hb hk z2⟩
 | ok u r4=>
  rw[hq2] at hx h2
  simp only at hx
  obtain⟨i2,b1,b2,z2⟩:=h2
  obtain⟨t3,r5,rfl⟩:=qaU b2
  cases hq3:qao 12 2 true n 1 lv (t3::r5) with
  | none=>rw[hq3] at hx; cases hx
  | some y=>
   rw[hq3] at hx
   have h3:=qmv (s:=s) hw hT hP hlv b1 hq3
   cases y with
   | er a c=>
    simp only[Option.some.injEq] at hx
    subst hx
    obtain⟨i3,z3⟩:=h3
    exact⟨i3,qi3 hlv hT h hb hk z2 z3⟩
   | ok e r6=>
    simp only[Option.some.injEq] at hx
    obtain⟨i3,c1,c2,z3⟩:=h3
    obtain⟨t4,r7,rfl⟩:=qaU c2
    rcases qeV (s:=s) hw hT c1 (k:=1) (y:=t.s) (d := .sl (cE e) 1 true) rfl rfl (Ss.assign true t.s e .nil) with ⟨r',i',e1,e2,e3,z⟩ | ⟨a,c,e1,i',z⟩
    ·rw[e1] at hx; subst hx
     exact⟨i',1,t.s,.sl (cE e) 1 true,e2,e3,qkI hlv hT h hb hk z2 z3 z,rfl,rfl,by simp[Ss.fo],by simp[Ss.fo]⟩
    ·rw[e1] at hx; subst hx
     exact⟨i',qi4 hlv hT h hb hk z2 z3 z⟩
theorem qpO (hw:WfQ T) (hT:T.length<2 ^ 40) (hP : ∀ t∈T,TokP t) {n lv i:Nat} {t:Tk} {r:List Tk} {x:Rz Ss} (hlv:lv<=20) (h:T.drop i=t::r) (hb:t.bad=0) (hf:t.s∈fieldNames)
  (hx:(match qb1 12 2 true n lv r with
    | some (.ok a r)=>match qaO 12 (bs [61]) r with
     | .ok _ r1=>match qao 12 2 true n 1 lv r1 with
      | some (.ok b r2)=>some (qbI 12 (.store true t.s a b .nil) r2)
      | some (.er i k)=>some (.er i k)
      | none=>none
     | .er i k=>some (.er i k)
    | some (.er i k)=>some (.er i k)
    | none=>none)=some x):qpt s T (Z tP (.call 271 [.ptr 0 0,.int lv] (PS s T i 0 12))) x:=by
 have hall : ∀ w∈fieldNames,qht w=3/\w≠⟨#[]⟩:=by decide
 have hk:kindT t=3:=by rw[qbW hb]; exact (hall _ hf).1
 cases hq:qb1 12 2 true n lv r with
 | none=>rw[hq] at hx; cases hx
 | some y=>
  rw[hq] at hx
  have h1:=(qnp (s:=s) hw hT hP n).2.2 lv i t r y hlv h hb (hall _ hf).2 hq
  cases y with
  | er a c=>
   simp only[Option.some.injEq] at hx
   subst hx
   obtain⟨i1,z1⟩:=h1
   exact⟨i1,qjN hlv hT h hb hk z1⟩
  | ok e r2=>
   simp only at hx
   obtain⟨i1,a1,a2,z1⟩:=h1
   obtain⟨t2,r3,rfl⟩:=qaU a2
   have h2:=qck (s:=s) hw hT a1 (x:=bs [61]) (by decide)
   cases hq2:qaO 12 (bs [61]) (t2::r3) with
   | er a c=>
    rw[hq2] at hx h2
    simp only[Option.some.injEq] at hx
    subst hx
    obtain⟨i2,z2⟩:=h2
    exact⟨i2,qjO hlv hT h hb hk z1 z2⟩
   | ok u r4=>
    rw[hq2] at hx h2
    simp only at hx
    obtain⟨i2,b1,b2,z2⟩:=h2
    obtain⟨t3,r5,rfl⟩:=qaU b2
    cases hq3:qao 12 2 true n 1 lv (t3::r5) with
    | none=>rw[hq3] at hx; cases hx
    | some y=>
     rw[hq3] at hx
     have h3:=qmv (s:=s) hw hT hP hlv b1 hq3
     cases y with
     | er a c=>
      simp only[Option.some.injEq] at hx
      subst hx
      obtain⟨i3,z3⟩:=h3
      exact⟨i3,qjP hlv hT h hb hk z1 z2 z3⟩
     | ok e' r6=>
      simp only[Option.some.injEq] at hx
      obtain⟨i3,c1,c2,z3⟩:=h3
      obtain⟨t4,r7,rfl⟩:=qaU c2
      rcases qeV (s:=s) hw hT c1 (k:=2) (y:=t.s) (d := .sl (cE e++cE e') 2 true) rfl rfl (Ss.store true t.s e e' .nil) with ⟨r',i',e1,e2,e3,z⟩ | ⟨a,c,e1,i',z⟩
      ·rw[e1] at hx; subst hx
       exact⟨i',2,t.s,.sl (cE e++cE e') 2 true,e2,e3,qmh hlv hT h hb hk z1 z2 z3 z,rfl,rfl,by simp[Ss.fo],by simp[Ss.fo]⟩
      ·rw[e1] at hx; subst hx
       exact⟨i',qjQ hlv hT h hb hk z1 z2 z3 z⟩
theorem qpP (hw:WfQ T) (hT:T.length<2 ^ 40) (hP : ∀ t∈T,TokP t) {n lv i:Nat} (ihb:BkK s T n) {t:Tk} {r:List Tk} {x:Rz Ss} (hlv:lv<=20) (h:T.drop i=t::r) (hb:t.bad=0) (hm:t.s=qaV)
  (hx:(match qao 12 2 true n 1 lv r with
    | some (.ok c r)=>match qbk 12 2 true true false n (lv+1) r with
     | some (.ok b r1)=>some (.ok (.cond true true c (.block false b .nil) .nil) r1)
     | some (.er i k)=>some (.er i k)
     | none=>none
    | some (.er i k)=>some (.er i k)
    | none=>none)=some x):qpt s T (Z tP (.call 271 [.ptr 0 0,.int lv] (PS s T i 0 12))) x:=by
 have hk:kindT t=2:=by rw[qbW hb,hm]; decide
 obtain⟨n1,n2⟩:=hw.next h hb (by rw[hm]; decide)
 obtain⟨t1,r1,rfl⟩:=qaU n2
 have d1:decide (kindT t=1)=false:=decide_eq_false (by omega)
 have d3:decide (kindT t=3)=false:=decide_eq_false (by omega)
 cases hq:qao 12 2 true n 1 lv (t1::r1) with
 | none=>rw[hq] at hx; cases hx
 | some y=>
  rw[hq] at hx
  have h1:=qmv (s:=s) hw hT hP hlv n1 hq
  cases y with
  | er a c=>
   simp only[Option.some.injEq] at hx
   subst hx
   obtain⟨i1,z1⟩:=h1
   exact⟨i1,qjR (d := .lit (.bool true)) hlv hT h hb d1 d3 hm rfl rfl z1⟩
  | ok e r2=>
   simp only at hx
   obtain⟨i1,a1,a2,z1⟩:=h1
   obtain⟨t2,r3,rfl⟩:=qaU a2
   cases hq2:qbk 12 2 true true false n (lv+1) (t2::r3) with
   | none=>rw[hq2] at hx; cases hx
   | some y=>
    rw[hq2] at hx
    have h2:=ihb (lv+1) i1 t2 r3 y a1 hq2
    cases y with
    | er a c=>
     simp only[Option.some.injEq] at hx
     subst hx
     obtain⟨i2,z2⟩:=h2
     exact⟨i2,qjS (d := .lit (.bool true)) hlv hT h hb d1 d3 hm rfl rfl z1 z2⟩
    | ok b r4=>
     simp only[Option.some.injEq] at hx
     subst hx
     obtain⟨i2,b1,b2,z2⟩:=h2
     refine⟨i2,4,⟨#[]⟩,_,b1,b2,qmi hlv hT h hb d1 d3 hm (by simp) (by simp) z1 z2,rfl,rfl,?_,?_⟩<;>simp[Ss.fo]
end
end Go.Pm
end SKy
section SKz
namespace Go.Pm
open F
set_option maxHeartbeats 2000000
section
variable {s:ByteArray} {T:List Tk}
theorem qvK (hw:WfQ T) (hT:T.length<2 ^ 40) (hP : ∀ t∈T,TokP t) {n lv i:Nat} (ihb:BkK s T n) {t:Tk} {r:List Tk} {x:Rz Ss} (hlv:lv<=20) (h:T.drop i=t::r) (hb:t.bad=0) (hm:t.s=ifT)
  (hx:(match qao 12 2 true n 1 lv r with
    | some (.ok c r)=>match qbk 12 2 true true false n (lv+1) r with
     | some (.ok b r1)=>match nx r1 with
      | none=>some (qb8 12 r1)
      | some w=>if w=bs [101,108,115,101] then match qbk 12 2 true true false n (lv+1) r1.tail with
        | some (.ok b2 r2)=>some (.ok (.cond false true c (.block false b (.block false b2 .nil)) .nil) r2)
        | some (.er i k)=>some (.er i k)
        | none=>none
       else some (.ok (.cond false true c (.block false b (.block false .nil .nil)) .nil) r1)
     | some (.er i k)=>some (.er i k)
     | none=>none
    | some (.er i k)=>some (.er i k)
    | none=>none)=some x):qpt s T (Z tP (.call 271 [.ptr 0 0,.int lv] (PS s T i 0 12))) x:=by
 have hk:kindT t=2:=by rw[qbW hb,hm]; decide
 obtain⟨n1,n2⟩:=hw.next h hb (by rw[hm]; decide)
 obtain⟨t1,r1,rfl⟩:=qaU n2
 have d1:decide (kindT t=1)=false:=decide_eq_false (by omega)
 have d3:decide (kindT t=3)=false:=decide_eq_false (by omega)
 have z0:=qgp (s:=s) (a:=0) (c:=12) h hb hT (by rw[hm]; decide)
 rw[hm] at z0
 have pan : ∀ {i' a c:Nat},Z tP (.call 281 [.ptr 0 0,.int lv] (PS s T i 0 12))=some (.ret (qbc c) (PS s T i' a c))->qpt s T (Z tP (.call 271 [.ptr 0 0,.int lv] (PS s T i 0 12))) (.er a c):=fun z=>
  ⟨_,qmZ (d := .lit (.bool true)) hlv hT h hb d1 d3 hm rfl rfl z⟩
 have fin : ∀ {i':Nat} {d:D} {b:Ss} {r':List Tk},T.drop i'=r'->r'≠[]->V.one (.dat d)=true->V.cells (.dat d)=[.dat d]->b.fo.cells=[.lit (.int .i64 3),.lit (.int .i64 0),.lit (.string ⟨#[]⟩),d]->b.fo.len=1->Z tP (.call 281 [.ptr 0 0,.int lv] (PS s T i 0 12))=some (.ret (nv 3 ⟨#[]⟩ d) (PS s T i' 0 12))->qpt s T (Z tP (.call 271 [.ptr 0 0,.int lv] (PS s T i 0 12))) (.ok b r'):=fun q1 q2 o1 o2 q3 q4 z=>
  ⟨_,3,⟨#[]⟩,_,q1,q2,qqw hlv hT h hb d1 d3 hm o1 o2 z,o1,o2,q3,q4⟩
 cases hq:qao 12 2 true n 1 lv (t1::r1) with
 | none=>rw[hq] at hx; cases hx
 | some y=>
  rw[hq] at hx
  have h1:=qmv (s:=s) hw hT hP hlv n1 hq
  cases y with
  | er a c=>
   simp only[Option.some.injEq] at hx
   subst hx
   obtain⟨i1,z1⟩:=h1
   exact pan (qtA hlv z0 z1)
  | ok e r2=>
   simp only at hx
   obtain⟨i1,a1,a2,z1⟩:=h1
   obtain⟨t2,r3,rfl⟩:=qaU a2
   cases hq2:qbk 12 2 true true false n (lv+1) (t2::r3) with
   | none=>rw[hq2] at hx; cases hx
   | some y=>
    rw[hq2] at hx
    have h2:=ihb (lv+1) i1 t2 r3 y a1 hq2
    cases y with
    | er a c=>
     simp only[Option.some.injEq] at hx
     subst hx
     obtain⟨i2,z2⟩:=h2
     exact pan (qtB hlv z0 z1 z2)
    | ok b r4=>
     simp only at hx
     obtain⟨i2,b1,b2,z2⟩:=h2
     obtain⟨t3,r5,rfl⟩:=qaU b2
     by_cases hb3:t3.bad=0
     ·have hnx:nx (t3::r5)=some t3.s:=if_pos hb3
      rw[hnx] at hx
      simp only[List.tail_cons] at hx
      by_cases hel:t3.s=bs [101,108,115,101]
      ·rw[if_pos hel] at hx
       obtain⟨m1,m2⟩:=hw.next b1 hb3 (by rw[hel]; decide)
       obtain⟨t4,r6,rfl⟩:=qaU m2
       cases hq3:qbk 12 2 true true false n (lv+1) (t4::r6) with
       | none=>rw[hq3] at hx; cases hx
       | some y=>
        rw[hq3] at hx
        have h3:=ihb (lv+1) (i2+1) t4 r6 y m1 hq3
        cases y with
        | er a c=>
         simp only[Option.some.injEq] at hx
         subst hx
         obtain⟨i3,z3⟩:=h3
         exact pan (qtC hlv (by simp) (by simp) z0 z1 z2 hT b1 hb3 hel z3)
        | ok b' r7=>
         simp only[Option.some.injEq] at hx
         subst hx
         obtain⟨i3,c1,c2,z3⟩:=h3
         exact fin c1 c2 rfl rfl (by simp[Ss.fo]) (by simp[Ss.fo]) (qvz hlv (by simp) (by simp) z0 z1 z2 (by simp) (by simp) hT b1 hb3 hel z3)
      ·rw[if_neg hel] at hx
       simp only[Option.some.injEq] at hx
       subst hx
       exact fin b1 (by simp) rfl rfl (by simp[Ss.fo]) (by simp[Ss.fo]) (qvy hlv (by simp) (by simp) z0 z1 z2 b1 hb3 hel)
     ·have hnx:nx (t3::r5)=none:=if_neg hb3
      rw[hnx] at hx
      simp only[qb8,if_neg hb3,Option.some.injEq] at hx
      subst hx
      exact pan (qvx hlv (by simp) (by simp) z0 z1 z2 b1 hb3)
theorem qr3 (hw:WfQ T) (hT:T.length<2 ^ 40) (hP : ∀ t∈T,TokP t) {n:Nat} (ihb:BkK s T n):StK s T (n+1):=by
 intro lv i t r x hlv h hx
 by_cases hb:t.bad=0
 case neg=>
  have hnx:nx (t::r)=none:=if_neg hb
  rw[qc8,hnx] at hx
  simp only[qb8,if_neg hb,Option.some.injEq] at hx
  subst hx
  exact⟨i,quS h hb⟩
 have hnx:nx (t::r)=some t.s:=if_pos hb
 rw[qc8,hnx] at hx
 simp only[List.tail_cons] at hx
 by_cases h1:t.s=bs [105,102]
 ·rw[if_pos h1] at hx
  exact qvK hw hT hP ihb hlv h hb h1 hx
 rw[if_neg h1] at hx
 by_cases h2:t.s=bs [119,104,105,108,101]
 ·rw[if_pos h2] at hx
  exact qpP hw hT hP ihb hlv h hb h2 hx
 rw[if_neg h2] at hx
 by_cases h3:t.s=bs [101,102,102,101,99,116]
 ·rw[if_pos h3] at hx
  exact qnP hw hT hP hlv h hb h3 hx
 rw[if_neg h3] at hx
 by_cases h4:t.s=bs [115,116,111,112]
 ·rw[if_pos h4] at hx
  exact qrB hw hT hlv h hb h4 (Option.some.inj hx)
 rw[if_neg h4] at hx
 by_cases hf:t.s∈fieldNames
 ·rw[if_pos hf] at hx
  exact qpO hw hT hP hlv h hb hf hx
 rw[if_neg hf] at hx
 by_cases hv:qax qaQ t.s=true/\t.s∉wordNames
 ·rw[if_pos hv] at hx
  exact qn9 hw hT hP hlv h hb hv.1 hf hv.2 hx
 rw[if_neg hv] at hx
 simp only[qb8,if_pos hb,Option.some.injEq] at hx
 subst hx
 have hk5:kindT t≠1/\kindT t≠3:=by
  rw[qbW hb,qht]
  by_cases a1:t.s=⟨#[]⟩
  ·rw[if_pos a1]; decide
  ·rw[if_neg a1]
   by_cases a2:qax qaQ t.s=true
   ·rw[if_pos a2,if_neg hf]
    by_cases a3:t.s∈wordNames
    ·rw[if_pos a3]; decide
    ·exact absurd ⟨a2,a3⟩ hv
   ·rw[if_neg a2]
    split<;>decide
 exact⟨i,qsF hlv hT h hb (decide_eq_false hk5.1) (decide_eq_false hk5.2) h1 h2 h3 h4⟩
end
end Go.Pm
end SKz
section SMa
namespace Go.Pm
open F
set_option maxHeartbeats 2000000
section
variable (s:ByteArray) (T:List Tk)
def SsK (n:Nat):Prop := ∀ (lv i:Nat) (t:Tk) (r:List Tk) (a:Ss) (v:V) (σt:S) (x:Rz Ss),lv<=20->T.drop i=t::r->a.fo.len+(t::r).length<=2 ^ 40->qpF v σt a.fo.cells a.fo.len->qcu 12 2 true true false n lv a (t::r)=some x->match x with
 | .ok b r' => ∃ (i':Nat) (t':Tk) (v':V) (σt':S),T.drop i'=t'::r'/\t'.bad=0/\t'.s=ql0/\qpF v' σt' b.fo.cells b.fo.len/\Z tP (.loop 3 F256l0 (bzF lv) (bzS s T i 0 12 v σt))=some (.out (.exit 0) (bzF lv++[(13,.bool false)]) (bzS s T i' 0 12 v' σt'))
 | .er a c => ∃ (i':Nat) (fr:Fr) (v':V) (σt':S),fr.get 1000000=none/\Z tP (.loop 3 F256l0 (bzF lv) (bzS s T i 0 12 v σt))=some (.out (.pan (.iface 1 (.int c))) fr (bzS s T i' a c v' σt'))
variable {s:ByteArray} {T:List Tk}
theorem qnc {n lv:Nat} {ts r:List Tk} {b:Ss} (h:qc8 12 2 true true false n lv ts=some (.ok b r)):r.length<=ts.length-1:=by
 have h1:=qiB h (Nat.le_max_left n (10*ts.length+1))
 obtain⟨y,h2,h3⟩:=(qhc 12 2 true true false (max n (10*ts.length+1))).1 lv ts (Nat.le_max_right _ _)
 rw[h1] at h2
 cases h2
 exact h3 b r rfl
theorem qqJ {n:Nat} (ihs:StK s T n) (ihl:SsK s T n):SsK s T (n+1):=by
 intro lv i t r a v σt x hlv h hlen hr hx
 rw[qcu] at hx
 by_cases hb:t.bad=0
 case neg=>
  have hnx:nx (t::r)=none:=if_neg hb
  rw[hnx] at hx
  simp only[qb8,if_neg hb,Option.some.injEq] at hx
  subst hx
  obtain⟨fr,f1,f2⟩:=qtS (s:=s) (lv:=lv) h hb hr
  exact⟨i,fr,v,σt,f1,f2⟩
 have hnx:nx (t::r)=some t.s:=if_pos hb
 rw[hnx] at hx
 simp only[List.tail_cons] at hx
 by_cases he:t.s=bs [125]
 ·rw[if_pos he] at hx
  simp only[Option.some.injEq] at hx
  subst hx
  exact⟨i,t,v,σt,h,hb,he,hr,qtR h hb he hr⟩
 rw[if_neg he] at hx
 cases hq:qc8 12 2 true true false n lv (t::r) with
 | none=>rw[hq] at hx; cases hx
 | some y=>
  rw[hq] at hx
  have hs:=ihs lv i t r y hlv h hq
  cases y with
  | er p c=>
   simp only[Option.some.injEq] at hx
   subst hx
   obtain⟨i',z⟩:=hs
   exact⟨i',[],v,σt,rfl,qtT h hb he hr z⟩
  | ok b r'=>
   simp only at hx
   obtain⟨i',k,y,d,a1,a2,z,o1,o2,c1,c2⟩:=hs
   have hl:=qnc hq
   simp only[List.length_cons] at hl hlen
   obtain⟨v',σt',r1,r2⟩:=qpG h hb he hr (by omega) o1 o2 z
   obtain⟨t2,r2',rfl⟩:=qaU a2
   have hr':qpF v' σt' (a.app b).fo.cells (a.app b).fo.len:=by
    rw[qhQ,qgO,qdS,c1,c2]; exact r1
   have hlen':(a.app b).fo.len+(t2::r2').length<=2 ^ 40:=by
    rw[qhQ,qdS,c2]
    simp only[List.length_cons] at hl ⊢
    omega
   have:=ihl lv i' t2 r2' (a.app b) v' σt' x hlv a1 hlen' hr' hx
   cases x with
   | ok b3 r3=>
    obtain⟨i3,t3,v3,σ3,e1,e2,e3,e4,e5⟩:=this
    exact⟨i3,t3,v3,σ3,e1,e2,e3,e4,r2.trans e5⟩
   | er p c=>
    obtain⟨i3,fr,v3,σ3,e1,e2⟩:=this
    exact⟨i3,fr,v3,σ3,e1,r2.trans e2⟩
theorem qqK (hw:WfQ T) (hT:T.length<2 ^ 30) {n:Nat} (ihl:SsK s T n):BkK s T (n+1):=by
 intro lv i t r x h hx
 rw[qbk] at hx
 have ho:=qgZ (s:=s) hw (by omega) h (x:=bs [123]) (by decide) (lv:=lv)
 cases hq:qdF 12 2 (bs [123]) lv (t::r) with
 | er a c=>
  rw[hq] at hx ho
  simp only[Option.some.injEq] at hx
  subst hx
  obtain⟨i',z⟩:=ho
  exact⟨i',qrY z⟩
 | ok u r1=>
  have hl1:=qje hq
  rw[hq] at hx ho
  simp only at hx
  obtain⟨i1,a1,a2,z1⟩:=ho
  obtain⟨t1,r2,rfl⟩:=qaU a2
  have hlen:(t1::r2).length<=T.length:=by rw[<- a1,List.length_drop]; omega
  have hl:=ihl lv i1 t1 r2 .nil (.dat (.lit (.slice none 0 0))) [] x hl1 a1 (by show 0+_<=_; omega) (.inl ⟨rfl,rfl,rfl,rfl⟩) hx
  cases x with
  | er p c=>
   obtain⟨i3,fr,v3,σ3,e1,e2⟩:=hl
   exact⟨i3,qtU z1 e1 e2⟩
  | ok b r3=>
   obtain⟨i3,t3,v3,σ3,e1,e2,e3,e4,e5⟩:=hl
   obtain⟨n1,n2⟩:=hw.next e1 e2 (by rw[e3]; decide)
   exact⟨i3+1,n1,n2,qvI (by omega) z1 e4 e5 e1 e2 e3⟩
theorem qqb (hw:WfQ T) (hT:T.length<2 ^ 30) (hP : ∀ t∈T,TokP t) : ∀ n,StK s T n/\BkK s T n/\SsK s T n
 | 0=>⟨fun lv i t r x _ _ hx=>by simp[qc8] at hx,fun lv i t r x _ hx=>by simp[qbk] at hx,fun lv i t r a v σt x _ _ _ _ hx=>by simp[qcu] at hx⟩
 | n+1=>by
  obtain⟨ihs,ihb,ihl⟩:=qqb hw hT hP n
  exact⟨qr3 hw (by omega) hP ihb,qqK hw hT ihl,qqJ ihs ihl⟩
end
end Go.Pm
end SMa
section SMb
namespace Go.Pm
open F
set_option maxHeartbeats 4000000
attribute [local simp] qa6 qbJ dkey
section
variable {s:ByteArray} {T:List Tk} {i:Nat} {t:Tk} {r:List Tk} {a c:Int}
theorem qgu {k:Nat} (h:T.drop i=t::r) (hb:t.bad=0) (hk:qbK t.s=some k):Z tP (.call 254 [.ptr 0 0] (PS s T i 0 12))=some (.ret (.int k) (PS s T i 0 12)):=by
 have zp:=qau (s:=s) (a:=0) (c:=12) h hb
 simp only[PS,pO,ptk,ptD,qal hb] at zp
 generalize t.s=w at zp hk
 unfold qbK at hk
 by_cases h1:w=bs [97,99,116]
 ·subst h1
  simp only[if_true,Option.some.injEq] at hk
  subst hk
  simp only[bs] at zp
  refine qaa (pf:=F254) rfl rfl ?_
  simp[F254,zp,qbU,List.range_succ]
 rw[if_neg h1] at hk
 by_cases h2:w=bs [116,105,99,107]
 ·subst h2
  simp only[if_true,Option.some.injEq] at hk
  subst hk
  simp only[bs] at zp
  refine qaa (pf:=F254) rfl rfl ?_
  simp[F254,zp,qbU,List.range_succ]
 rw[if_neg h2] at hk
 by_cases h3:w=qiO
 ·subst h3
  simp only[if_true,Option.some.injEq] at hk
  subst hk
  simp only[qiO] at zp
  refine qaa (pf:=F254) rfl rfl ?_
  simp[F254,zp,qbU,List.range_succ]
 ·rw[if_neg h3] at hk; cases hk
theorem qmD (h:T.drop i=t::r) (hb:t.bad=0) (hk:qbK t.s=none):Z tP (.call 254 [.ptr 0 0] (PS s T i 0 12))=some (.ret (qbc 12) (PS s T i t.at_ 12)):=by
 have zp:=qau (s:=s) (a:=0) (c:=12) h hb
 have zf:=qgb (s:=s) (T:=T) (i:=i) (a:=0) (c:=12) (k:=kindT t) (x:=t.s) (at_:=t.at_) (v:=valT t) (e:=t.bad) (c':=12)
 simp only[PS,pO,ptk,ptD,qal hb] at zp zf
 unfold qbK at hk
 by_cases h1:t.s=bs [97,99,116]
 ·rw[if_pos h1] at hk; cases hk
 rw[if_neg h1] at hk
 by_cases h2:t.s=bs [116,105,99,107]
 ·rw[if_pos h2] at hk; cases hk
 rw[if_neg h2] at hk
 by_cases h3:t.s=qiO
 ·rw[if_pos h3] at hk; cases hk
 simp only[bs] at h1 h2
 simp only[qiO] at h3
 refine qaa (pf:=F254) rfl rfl ?_
 simp[F254,zp,zf,h1,h2,h3,qbU,qaf,List.range_succ]
theorem qlc (h:T.drop i=t::r) (hb:t.bad≠0):Z tP (.call 254 [.ptr 0 0] (PS s T i 0 12))=some (.ret (qbc t.bad) (PS s T i t.at_ t.bad)):=by
 have zp:=qei (s:=s) (a:=0) (c:=12) h hb
 simp only[PS,pO] at zp
 refine qaa (pf:=F254) rfl rfl ?_
 simp[F254,zp,qaf,List.range_succ]
theorem qeI {w:ByteArray} {k:Nat} (h:qbK w=some k):k=0\/k=1\/k=2:=by
 unfold qbK at h
 split at h
 ·cases h; omega
 split at h
 ·cases h; omega
 split at h
 ·cases h; omega
 ·cases h
end
end Go.Pm
end SMb
section SMc
namespace Go.Pm
open F
set_option maxHeartbeats 4000000
attribute [local simp] qa6 qbJ dkey
abbrev pgF:Fr:=[(0,.ptr 0 0),(2,.ptr 3 0),(3,.ptr 4 0)]
abbrev pgS (s:ByteArray) (T:List Tk) (i a c:Int) (q:Nat->N4):S:=PS s T i a c++[qsr,rob q]
section
variable {s:ByteArray} {T:List Tk} {i i' i2:Nat} {t:Tk} {r:List Tk} {a c:Int} {q:Nat->N4}
theorem qto (h:T.drop i=t::r) (hb:t.bad=0) (hs:t.s=⟨#[]⟩):Z tP (.loop 3 F242l0 pgF (pgS s T i 0 12 q))=some (.out (.exit 0) (pgF++[(8,.bool false)]) (pgS s T i 0 12 q)):=by
 have zp:=qau (s:=s) (a:=0) (c:=12) h hb
 have hk:kindT t=0:=by rw[qbW hb,qht,if_pos hs]
 have k0:=(q 0).one
 have k1:=(q 1).one
 have k2:=(q 2).one
 have c0:=(q 0).cl
 have c1:=(q 1).cl
 have c2:=(q 2).cl
 simp only[PS,pO,ptk,ptD,hk] at zp
 rw[qac]
 simp[qae,qcy,zp,k0,k1,k2,c0,c1,c2,List.range_succ]
theorem qtp (h:T.drop i=t::r) (hb:t.bad≠0) : ∃ fr,fr.get 1000000=none/\Z tP (.loop 3 F242l0 pgF (pgS s T i 0 12 q))=some (.out (.pan (.iface 1 (.int t.bad))) fr (pgS s T i t.at_ t.bad q)):=by
 have zp:=qei (s:=s) (a:=0) (c:=12) h hb
 simp only[PS,pO] at zp
 refine⟨(5,.ptr 0 0)::pgF,by simp[Fr.get],?_⟩
 rw[qac]
 simp[qae,qcy,zp,qaf,List.range_succ]
theorem qvf (h:T.drop i=t::r) (hb:t.bad=0) (hs:t.s≠⟨#[]⟩) (z:Z tP (.call 253 [.ptr 0 0,.str ⟨#[111,110]⟩] (PS s T i 0 12))=some (.ret (qbc c) (PS s T i' a c))) : ∃ fr,fr.get 1000000=none/\Z tP (.loop 3 F242l0 pgF (pgS s T i 0 12 q))=some (.out (.pan (.iface 1 (.int c))) fr (pgS s T i' a c q)):=by
 have zp:=qau (s:=s) (a:=0) (c:=12) h hb
 have hk:decide (kindT t=0)=false:=decide_eq_false (fun e=>hs ((qdR hb).mp e))
 simp only[PS,pO,ptk,ptD] at zp z
 refine⟨(9,.ptr 0 0)::(pgF++[(8,.bool true)]),by simp[Fr.get],?_⟩
 rw[qac]
 simp[qae,qcy,zp,z,hk,qaf,List.range_succ]
theorem qnt (h:T.drop i=t::r) (hb:t.bad=0) (hs:t.s≠⟨#[]⟩) (z:Z tP (.call 253 [.ptr 0 0,.str ⟨#[111,110]⟩] (PS s T i 0 12))=some (.ret (.tup []) (PS s T i' 0 12)))
  (zh:Z tP (.call 254 [.ptr 0 0] (PS s T i' 0 12))=some (.ret (qbc c) (PS s T i2 a c))) : ∃ fr,fr.get 1000000=none/\Z tP (.loop 3 F242l0 pgF (pgS s T i 0 12 q))=some (.out (.pan (.iface 1 (.int c))) fr (pgS s T i2 a c q)):=by
 have zp:=qau (s:=s) (a:=0) (c:=12) h hb
 have hk:decide (kindT t=0)=false:=decide_eq_false (fun e=>hs ((qdR hb).mp e))
 simp only[PS,pO,ptk,ptD] at zp z zh
 refine⟨(11,.ptr 0 0)::pgF,by simp[Fr.get],?_⟩
 rw[qac]
 simp[qae,qcy,zp,z,zh,hk,qaf,List.range_succ]
theorem qtq {t2:Tk} {r2:List Tk} {k:Nat} (h:T.drop i=t::r) (hb:t.bad=0) (hs:t.s≠⟨#[]⟩) (z:Z tP (.call 253 [.ptr 0 0,.str ⟨#[111,110]⟩] (PS s T i 0 12))=some (.ret (.tup []) (PS s T i' 0 12)))
  (h2:T.drop i'=t2::r2) (hb2:t2.bad=0) (hh:qbK t2.s=some k) (hq:decide ((q k).k=0)=false) : ∃ fr,fr.get 1000000=none/\Z tP (.loop 3 F242l0 pgF (pgS s T i 0 12 q))=some (.out (.pan (.iface 1 (.int 4))) fr (pgS s T i' t2.at_ 4 q)):=by
 have zp:=qau (s:=s) (a:=0) (c:=12) h hb
 have zp2:=qau (s:=s) (a:=0) (c:=12) h2 hb2
 have zh:=qgu (s:=s) h2 hb2 hh
 have zf:=qgb (s:=s) (T:=T) (i:=i') (a:=0) (c:=12) (k:=kindT t2) (x:=qe4 t2) (at_:=t2.at_) (v:=valT t2) (e:=t2.bad) (c':=4)
 have hk:decide (kindT t=0)=false:=decide_eq_false (fun e=>hs ((qdR hb).mp e))
 simp only[PS,pO,ptk,ptD] at zp zp2 z zh zf
 have k0:=(q 0).one
 have k1:=(q 1).one
 have k2:=(q 2).one
 have c0:=(q 0).cl
 have c1:=(q 1).cl
 have c2:=(q 2).cl
 refine⟨(21,ptk t2)::(20,.ptr 0 0)::(19,.ptr 0 0)::(pgF++[(4,.int k),(18,.bool true)]),by simp[Fr.get],?_⟩
 rw[qac]
 rcases qeI hh with rfl | rfl | rfl<;>simp[qae,qcy,zp,zp2,z,zh,zf,hk,hq,k0,k1,k2,c0,c1,c2,qaf,List.range_succ]
theorem qtr {t2:Tk} {r2:List Tk} {k:Nat} (hT:T.length<2 ^ 40) (h:T.drop i=t::r) (hb:t.bad=0) (hs:t.s≠⟨#[]⟩) (z:Z tP (.call 253 [.ptr 0 0,.str ⟨#[111,110]⟩] (PS s T i 0 12))=some (.ret (.tup []) (PS s T i' 0 12)))
  (h2:T.drop i'=t2::r2) (hb2:t2.bad=0) (hh:qbK t2.s=some k) (hq:decide ((q k).k=0)=true) (zb:Z tP (.call 256 [.ptr 0 0,.int 1] (PS s T ((i'+1:Nat):Int) 0 12))=some (.ret (qbc c) (PS s T i2 a c))) : ∃ fr,fr.get 1000000=none/\Z tP (.loop 3 F242l0 pgF (pgS s T i 0 12 q))=some (.out (.pan (.iface 1 (.int c))) fr (pgS s T i2 a c q)):=by
 have zp:=qau (s:=s) (a:=0) (c:=12) h hb
 have zh:=qgu (s:=s) h2 hb2 hh
 have hlt:=qii h2
 have w1:=qag ((i':Int)+1) (by omega)
 have hk:decide (kindT t=0)=false:=decide_eq_false (fun e=>hs ((qdR hb).mp e))
 simp only[PS,pO,ptk,ptD] at zp z zh zb
 simp only[Int.natCast_add,Int.cast_ofNat_Int] at zb
 have k0:=(q 0).one
 have k1:=(q 1).one
 have k2:=(q 2).one
 have c0:=(q 0).cl
 have c1:=(q 1).cl
 have c2:=(q 2).cl
 refine⟨(31,.ptr 0 0)::(30,.int k)::(pgF++[(4,.int k)]),by simp[Fr.get],?_⟩
 rw[qac]
 rcases qeI hh with rfl | rfl | rfl<;>simp[qae,qcy,zp,z,zh,zb,w1,hk,hq,k0,k1,k2,c0,c1,c2,qaf,List.range_succ]
theorem qvg {t2:Tk} {r2:List Tk} {k:Nat} {d:D} (hT:T.length<2 ^ 40) (h:T.drop i=t::r) (hb:t.bad=0) (hs:t.s≠⟨#[]⟩) (z:Z tP (.call 253 [.ptr 0 0,.str ⟨#[111,110]⟩] (PS s T i 0 12))=some (.ret (.tup []) (PS s T i' 0 12)))
  (h2:T.drop i'=t2::r2) (hb2:t2.bad=0) (hh:qbK t2.s=some k) (hq:decide ((q k).k=0)=true) (od:V.one (.dat d)=true) (oc:V.cells (.dat d)=[.dat d]) (zb:Z tP (.call 256 [.ptr 0 0,.int 1] (PS s T ((i'+1:Nat):Int) 0 12))=some (.ret (nv 7 ⟨#[]⟩ d) (PS s T i2 0 12))):Z tP (.loop 3 F242l0 pgF (pgS s T i 0 12 q))=Z tP (.loop 3 F242l0 pgF (pgS s T i2 0 12 (qus q k ⟨7,0,⟨#[]⟩,d,od,oc⟩))):=by
 have zp:=qau (s:=s) (a:=0) (c:=12) h hb
 have zh:=qgu (s:=s) h2 hb2 hh
 have hlt:=qii h2
 have w1:=qag ((i':Int)+1) (by omega)
 have hk:decide (kindT t=0)=false:=decide_eq_false (fun e=>hs ((qdR hb).mp e))
 simp only[PS,pO,ptk,ptD] at zp z zh
 simp only[PS,pO,nv] at zb
 simp only[Int.natCast_add,Int.cast_ofNat_Int] at zb
 have k0:=(q 0).one
 have k1:=(q 1).one
 have k2:=(q 2).one
 have c0:=(q 0).cl
 have c1:=(q 1).cl
 have c2:=(q 2).cl
 conv=>lhs; rw[qac]
 rcases qeI hh with rfl | rfl | rfl<;>simp[qae,qcy,zp,z,zh,zb,od,oc,w1,hk,hq,k0,k1,k2,c0,c1,c2,qus,List.range_succ]<;>rfl
end
end Go.Pm
end SMc
section SMd
namespace Go.Pm
open F
set_option maxHeartbeats 2000000
theorem qvh {w:ByteArray} (h:w.size=0):w=⟨#[]⟩:=by
 have hb:byl w=[]:=List.eq_nil_of_length_eq_zero (by rw[qaw]; exact h)
 have:=qeH w
 rw[hb] at this
 exact this.symm
section
variable {s:ByteArray} {T:List Tk}
theorem qkb (hw:WfQ T) (hT:T.length<2 ^ 30) (hP : ∀ t∈T,TokP t) : ∀ (n:Nat) (hh:Nat->Option Ss) (i:Nat) (t:Tk) (r:List Tk) (x:Rz (Nat->Option Ss)),T.drop i=t::r->qdq 12 2 4 true true false n hh (t::r)=some x->match x with
  | .ok h' _ => ∃ i':Nat,Z tP (.loop 3 F242l0 pgF (pgS s T i 0 12 fun k=>qe6 (hh k)))=some (.out (.exit 0) (pgF++[(8,.bool false)]) (pgS s T i' 0 12 fun k=>qe6 (h' k)))
  | .er a c => ∃ (i':Nat) (fr:Fr) (q':Nat->N4),fr.get 1000000=none/\Z tP (.loop 3 F242l0 pgF (pgS s T i 0 12 fun k=>qe6 (hh k)))=some (.out (.pan (.iface 1 (.int c))) fr (pgS s T i' a c q'))
 | 0,hh,i,t,r,x,_,hx=>by simp[qdq] at hx
 | n+1,hh,i,t,r,x,h,hx=>by
  rw[qdq] at hx
  by_cases hb:t.bad=0
  case neg=>
   have hnx:nx (t::r)=none:=if_neg hb
   rw[hnx] at hx
   simp only[qb8,if_neg hb,Option.some.injEq] at hx
   subst hx
   obtain⟨fr,f1,f2⟩:=qtp (s:=s) (q:=fun k=>qe6 (hh k)) h hb
   exact⟨i,fr,_,f1,f2⟩
  have hnx:nx (t::r)=some t.s:=if_pos hb
  rw[hnx] at hx
  simp only at hx
  by_cases h0:t.s.size=0
  ·rw[if_pos h0] at hx
   simp only[Option.some.injEq] at hx
   subst hx
   exact⟨i,qto h hb (qvh h0)⟩
  rw[if_neg h0] at hx
  have hne:t.s≠⟨#[]⟩:=fun e=>h0 (by rw[e]; rfl)
  have ho:=qck (s:=s) hw (by omega) h (x:=bs [111,110]) (by decide)
  cases hq:qaO 12 (bs [111,110]) (t::r) with
  | er a c=>
   rw[hq] at hx ho
   simp only[Option.some.injEq] at hx
   subst hx
   obtain⟨i',z⟩:=ho
   obtain⟨fr,f1,f2⟩:=qvf (q:=fun k=>qe6 (hh k)) h hb hne z
   exact⟨i',fr,_,f1,f2⟩
  | ok u r1=>
   rw[hq] at hx ho
   simp only at hx
   obtain⟨i1,a1,a2,z⟩:=ho
   obtain⟨t2,r2,rfl⟩:=qaU a2
   by_cases hb2:t2.bad=0
   case neg=>
    have hnx2:nx (t2::r2)=none:=if_neg hb2
    rw[hnx2] at hx
    simp only[qb8,if_neg hb2,Option.some.injEq] at hx
    subst hx
    obtain⟨fr,f1,f2⟩:=qnt (q:=fun k=>qe6 (hh k)) h hb hne z (qlc a1 hb2)
    exact⟨i1,fr,_,f1,f2⟩
   have hnx2:nx (t2::r2)=some t2.s:=if_pos hb2
   rw[hnx2] at hx
   simp only at hx
   cases hk:qbK t2.s with
   | none=>
    rw[hk] at hx
    simp only[qb8,if_pos hb2,Option.some.injEq] at hx
    subst hx
    obtain⟨fr,f1,f2⟩:=qnt (q:=fun k=>qe6 (hh k)) h hb hne z (qmD a1 hb2 hk)
    exact⟨i1,fr,_,f1,f2⟩
   | some k=>
    rw[hk] at hx
    simp only at hx
    by_cases hd:(hh k).isSome=true
    ·rw[if_pos hd] at hx
     simp only[qb8,if_pos hb2,Option.some.injEq] at hx
     subst hx
     obtain⟨b,hbb⟩:=Option.isSome_iff_exists.1 hd
     obtain⟨fr,f1,f2⟩:=qtq (s:=s) (q:=fun k=>qe6 (hh k)) h hb hne z a1 hb2 hk (decide_eq_false (by simp only[hbb,qe6]; decide))
     exact⟨i1,fr,_,f1,f2⟩
    ·rw[if_neg hd] at hx
     have hno:hh k=none:=by simpa using hd
     have hq0:decide ((qe6 (hh k)).k=0)=true:=decide_eq_true (by rw[hno]; rfl)
     obtain⟨n1,n2⟩:=hw.next a1 hb2 (fun e=>by rw[e,show qbK ⟨#[]⟩=none by decide] at hk; cases hk)
     obtain⟨t3,r3,rfl⟩:=qaU n2
     simp only[List.tail_cons] at hx
     cases hq3:qbk 12 2 true true false n 1 (t3::r3) with
     | none=>rw[hq3] at hx; cases hx
     | some y=>
      rw[hq3] at hx
      have hbk:=(qqb (s:=s) hw hT hP n).2.1 1 (i1+1) t3 r3 y n1 hq3
      cases y with
      | er a c=>
       simp only[Option.some.injEq] at hx
       subst hx
       obtain⟨i2,z2⟩:=hbk
       obtain⟨fr,f1,f2⟩:=qtr (q:=fun k=>qe6 (hh k)) (by omega) h hb hne z a1 hb2 hk hq0 z2
       exact⟨i2,fr,_,f1,f2⟩
      | ok b r4=>
       simp only at hx
       obtain⟨i2,b1,b2,z2⟩:=hbk
       obtain⟨t4,r5,rfl⟩:=qaU b2
       have zs:=qvg (q:=fun k=>qe6 (hh k)) (by omega) h hb hne z a1 hb2 hk hq0 (by simp) (by simp) z2
       have hu:qus (fun k=>qe6 (hh k)) k ⟨7,0,⟨#[]⟩,kd false b.fo.len b.fo.cells,by simp,by simp⟩=fun j=>qe6 (if j=k then some b else hh j):=by
        funext j
        unfold qus
        split<;>rfl
       rw[hu] at zs
       have:=qkb hw hT hP n (fun j=>if j=k then some b else hh j) i2 t4 r5 x b1 hx
       cases x with
       | ok h' q=>
        obtain⟨i3,e1⟩:=this
        exact⟨i3,zs.trans e1⟩
       | er a c=>
        obtain⟨i3,fr,q',e1,e2⟩:=this
        exact⟨i3,fr,q',e1,zs.trans e2⟩
end
end Go.Pm
end SMd
section SMe
namespace Go.Pm
open F
set_option maxHeartbeats 4000000
attribute [local simp] qa6 qbJ dkey
section
variable {s:ByteArray} {T:List Tk} {i':Nat} {q:Nat->N4} {a c:Int}
theorem qmp (z:Z tP (.loop 3 F242l0 pgF (pgS s T 0 0 12 fun k=>qe6 none))=some (.out (.exit 0) (pgF++[(8,.bool false)]) (pgS s T i' 0 12 q))):Z tP (.call 242 [.ptr 0 0] (PS s T 0 0 12))=some (.ret (qpJ q) (PS s T i' 0 12)):=by
 have k0:=(q 0).one
 have k1:=(q 1).one
 have k2:=(q 2).one
 have c0:=(q 0).cl
 have c1:=(q 1).cl
 have c2:=(q 2).cl
 simp only[pgS,PS,pO,rob,qe6,List.cons_append,List.nil_append] at z
 refine qaa (pf:=F242) rfl rfl ?_
 simp[F242,z,k0,k1,k2,c0,c1,c2,List.range_succ]
theorem qkU {fr:Fr} (hf:fr.get 1000000=none) (z:Z tP (.loop 3 F242l0 pgF (pgS s T 0 0 12 fun k=>qe6 none))=some (.out (.pan (.iface 1 (.int c))) fr (pgS s T i' a c q))):Z tP (.call 242 [.ptr 0 0] (PS s T 0 0 12))=some (.ret (qbc c) (PS s T i' a c)):=by
 simp only[pgS,PS,pO,rob,qe6,List.cons_append,List.nil_append] at z
 refine qaa (pf:=F242) rfl rfl ?_
 simp[F242,z,hf,List.range_succ]
end
end Go.Pm
end SMe
section SMf
namespace Go.Pm
open F
set_option maxHeartbeats 4000000
attribute [local simp] qa6 qbJ dkey
section
variable {s:ByteArray} {T:List Tk} {i':Nat} {q:Nat->N4} {a c:Int}
theorem qn5 (h:(2000:Int)<s.size):Z tP (.call 228 [.str s] [])=some (.ret (.tup [qpJ fun _=>qe6 none,.int 2000,.int 2]) []):=by
 refine qaa (pf:=F228) rfl rfl ?_
 simp[F228,h,V.len,qe6,List.range_succ]
abbrev dS (s:ByteArray) (T:List Tk) (q:Nat->N4) (x y:Int) (i a c:Int):S:=[.cells [.ptr 4 0],rob q,.cells [.int x],.cells [.int y],pO s 5 (.gsl (ptC T) T.length 5 6) i a c,.map kwM,.tip (ptC T).length]
theorem qn6 {x y i a c:Int}:Z tP (.dcall 240 [.dat (.lit .nilIface),.ptr 0 0,.ptr 1 0,.ptr 2 0,.ptr 3 0] (dS s T q x y i a c))=some (.ret (.dat (.lit undef)) (dS s T q x y i a c)):=by
 have k0:=(q 0).one
 have k1:=(q 1).one
 have k2:=(q 2).one
 have c0:=(q 0).cl
 have c1:=(q 1).cl
 have c2:=(q 2).cl
 refine qkF (pf:=F240) rfl ?_
 have hfl:F240.body.flat=true:=rfl
 simp only[qa5]
 rw[if_pos ⟨rfl,rfl,rfl,hfl,.inl rfl⟩]
 simp[F240,qis,k0,k1,k2,c0,c1,c2,List.range_succ]
theorem qpM (h : ¬ (2000:Int)<s.size) (zt:Z tP (.call 249 [.yld 0,.ptr 1 0] (TT0 s))=some (.ret (.tup []) (TT1 s (ptC T) T.length)))
  (z:Z tP (.call 242 [.ptr 0 0] (PS s T 0 0 12))=some (.ret (qpJ q) (PS s T i' 0 12))):Z tP (.call 228 [.str s] [])=some (.ret (.tup [qpJ q,.int 0,.int 0]) []):=by
 have z1:=qij s
 have z2:=qj7 s
 have k0:=(q 0).one
 have k1:=(q 1).one
 have k2:=(q 2).one
 have c0:=(q 0).cl
 have c1:=(q 1).cl
 have c2:=(q 2).cl
 simp only[pO] at z2
 simp only[TT0,TT1,pO] at zt
 simp only[PS,pO] at z
 have zd:=qn6 (s:=s) (T:=T) (q:=q) (x:=0) (y:=0) (i:=i') (a:=0) (c:=12)
 simp only[dS,pO,rob] at zd
 refine qaa (pf:=F228) rfl rfl ?_
 simp[F228,z1,z2,zt,z,zd,h,V.len,k0,k1,k2,c0,c1,c2,List.range_succ]
end
end Go.Pm
end SMf
section SMg
namespace Go.Pm
open F
set_option maxHeartbeats 4000000
attribute [local simp] qa6 qbJ dkey
section
variable {s:ByteArray} {T:List Tk} {i':Nat} {a c:Int}
abbrev q0:Nat->N4:=fun _=>qe6 none
theorem qm9 {i a c:Int}:Z tP (.dcall 240 [.iface 1 (.int c),.ptr 0 0,.ptr 1 0,.ptr 2 0,.ptr 3 0] (dS s T q0 0 0 i a c))=some (.ret (.dat (.lit undef)) (dS s T q0 a c i a c)):=by
 refine qkF (pf:=F240) rfl ?_
 have hfl:F240.body.flat=true:=rfl
 simp only[qa5]
 rw[if_pos ⟨rfl,rfl,rfl,hfl,.inl rfl⟩]
 simp[F240,qis,qe6,qc5,qa3,List.range_succ]
theorem qna (h : ¬ (2000:Int)<s.size) (zt:Z tP (.call 249 [.yld 0,.ptr 1 0] (TT0 s))=some (.ret (.tup []) (TT1 s (ptC T) T.length)))
  (z:Z tP (.call 242 [.ptr 0 0] (PS s T 0 0 12))=some (.ret (qbc c) (PS s T i' a c))):Z tP (.call 228 [.str s] [])=some (.ret (.tup [qpJ fun _=>qe6 none,.int a,.int c]) []):=by
 have z1:=qij s
 have z2:=qj7 s
 simp only[pO] at z2
 simp only[TT0,TT1,pO] at zt
 simp only[PS,pO] at z
 have zd:=qm9 (s:=s) (T:=T) (i:=i') (a:=a) (c:=c)
 simp only[dS,pO,rob,q0,qe6] at zd
 refine qaa (pf:=F228) rfl rfl ?_
 simp[F228,z1,z2,zt,z,zd,h,V.len,qe6,qaf,V.isNilIf,List.range_succ]
end
end Go.Pm
end SMg
section SMh
namespace Go.Pm
open F
set_option maxHeartbeats 1000000
theorem qka (s:ByteArray) : ∀ n i,(qb2 12 2 6 s n i).length<=n+1
 | 0,i=>by simp[qb2]
 | n+1,i=>by
  rw[qb2]
  have:=qka s n
  split
  ·simp
  ·simp only[List.length_cons]; have:=this ((tokAt 12 2 6 s (qhk s (s.size-i) false i)).at_+(tokAt 12 2 6 s (qhk s (s.size-i) false i)).s.size); omega
theorem qo8 (s:ByteArray) : ∀ n i,qb2 12 2 6 s n i≠[]
 | 0,i=>by simp[qb2]
 | n+1,i=>by rw[qb2]; split<;>simp
theorem qnr (s:ByteArray) (hP : ∀ t∈qjF s,TokP t):Z tP (.call 228 [.str s] [])=some (.ret (qko true true false s) []):=by
 unfold qko
 by_cases hbig:2000<s.size
 ·have:qf2 true true false s = .er 2000 2:=by rw[qf2,if_pos hbig]
  rw[this]
  exact qn5 (by omega)
 ·have hlen:=qka s (s.size+1) 0
  have hT:(qjF s).length<2 ^ 30:=by show (qb2 12 2 6 s (s.size+1) 0).length<_; omega
  have hw:WfQ (qjF s):=qn7 s _ 0
  have zt:=qn8 s (by omega)
  obtain⟨t,r,htr⟩:=qaU (show qjF s≠[] from qo8 s _ 0)
  have hv:=qhN (f:=true) (fi:=true) (fb:=false) hbig
  have hp:=hv
  rw[htr] at hp
  have:=qkb (s:=s) hw hT hP _ (fun _=>none) 0 t r _ (by rw[List.drop_zero]; exact htr) hp
  cases hx:qf2 true true false s with
  | ok h' ts=>
   rw[hx] at this
   obtain⟨i',z⟩:=this
   exact qpM (by omega) zt (qmp z)
  | er a c=>
   rw[hx] at this
   obtain⟨i',fr,q',f1,z⟩:=this
   exact qna (by omega) zt (qkU f1 z)
theorem qns (s:ByteArray) (hl:s.size<2 ^ 30) : ∀ n i,∀ t∈qb2 12 2 6 s n i,TokP t
 | 0,i,t,h=>by
  simp only[qb2,List.mem_singleton] at h
  rw[h]
  exact⟨fun _=>show (⟨#[]⟩:ByteArray)≠qS by decide,fun _ h=>(by cases h)⟩
 | n+1,i,t,h=>by
  have one : ∀ j,TokP (tokAt 12 2 6 s j):=fun j=>by
   by_cases hj:j<s.size
   ·exact qr4 hl hj
   ·have hd:(byl s).drop j=[]:=List.drop_eq_nil_of_le (by rw[qaw]; omega)
    rw[qdu,hd]
    exact⟨fun _=>show (⟨#[]⟩:ByteArray)≠qS by decide,fun _ h=>(by cases h)⟩
  rw[qb2] at h
  split at h
  ·rw[List.mem_singleton.1 h]; exact one _
  ·rcases List.mem_cons.1 h with h | h
   ·rw[h]; exact one _
   ·exact qns s hl n _ t h
theorem qo9 (s:ByteArray) (hl:s.size<2 ^ 30):Z tP (.call 228 [.str s] [])=some (.ret (qko true true false s) []):=qnr s (qns s hl _ 0)
end Go.Pm
end SMh
section SUh
namespace Go.Pm
open F
set_option maxHeartbeats 4000000
abbrev Sub (p q:Nat->Option PFun):Prop := ∀ f pf,p f=some pf->q f=some pf
structure Has (prog:Nat->Option PFun):Prop where
 b:Sub qd9 prog
 r:Sub tR prog
 s:Sub tS prog
 p:Sub tP prog
 q:Sub tQ prog
 e:Sub tE prog
 k:Sub tK prog
section
variable {prog:Nat->Option PFun} (H:Has prog)
include H
theorem qoK (s:ByteArray) (hl:s.size<2 ^ 30):Z prog (.call 228 [.str s] [])=some (.ret (qko true true false s) []):=qgP H.p (qo9 s hl)
end
def hdO:Option Ss->Hd
 | none => .none
 | some b => .some false b
theorem qqH (o:Option Ss):(qe6 o).k=(hdO o).nd.k/\(qe6 o).n=(hdO o).nd.n/\(qe6 o).s=(hdO o).nd.s/\(qe6 o).d=(hdO o).nd.d:=by cases o<;>exact⟨rfl,rfl,rfl,rfl⟩
theorem qqI (h:Nat->Option Ss):qpJ (fun k=>qe6 (h k)) = .dat (ru (hdO (h 0)).nd (hdO (h 1)).nd (hdO (h 2)).nd):=by
 obtain⟨a1,a2,a3,a4⟩:=qqH (h 0)
 obtain⟨b1,b2,b3,b4⟩:=qqH (h 1)
 obtain⟨c1,c2,c3,c4⟩:=qqH (h 2)
 simp only[qpJ,ru,a1,a2,a3,a4,b1,b2,b3,b4,c1,c2,c3,c4]
end Go.Pm
end SUh
