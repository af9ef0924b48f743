/- Chapter 15: the program's translator: statements. -/
import Derived.Test.YtpakkndfjpimgaaGreatDoorPmAL
import Derived.Test.YtpakkndfjpimgaaGreatDoorPmN5
import Derived.Test.YtpakkndfjpimgaaGreatDoorPmYh
import Derived.Test.YtpakkndfjpimgaaGreatDoorPmR
import Derived.Test.YtpakkndfjpimgaaGreatDoorPmF4
set_option linter.unusedSimpArgs false
set_option linter.unusedVariables false
set_option maxHeartbeats 4000000
namespace Go.Pm
section
open F Gr
set_option maxHeartbeats 2000000
attribute [local simp] qbb qbG dkey qgh
section
variable{vs:List ByteArray}{a b:E}{A B:Int->Cd}{La Lb:Nat}{e0 e1 e2:Int}
theorem qq9(f:Bool){s:ByteArray}(hs:s∈vs)(ha:TrOK vs a.node A La):TrOK vs (nd 1 0 s f (a.fo .nil)) (snC A (3,ixI vs s)) (La+1) where
 ln:=qco ha.ln
 pos:=by omega
 one:=fun e0 e1 e2 c hc hl=>by
  have hpa:=ha.pos
  have zf:=qik s vs 0 hs
  rw[show ixI vs s+((0:Nat):Int)=ixI vs s by omega] at zf
  have z1:Z qad (.call 165 [.ptr 0 0,.dat (.agg [.lit (.int .i64 1),.lit (.int .i64 0),.lit (.string s),.sl [.lit (.int .i64 a.kind),.lit (.int .i64 a.num),.lit (.string a.str),a.kids] 1 f]),.int 0] (qcw vs e0 e1 e2 c))=_:=qf8 (f:=f) (N:=1) (i:=0) (e0:=e0) (e1:=e1) (e2:=e2) ha.toTrB rfl (by omega) c hc (by omega)
  have l1:(c++A c.length).length<2^30:=by rw[Wd,ha.ln]; omega
  have z3:=qb8 (vs:=vs) (e0:=e0) (e1:=e1) (e2:=e2) (c++A c.length) (by omega) 3 (ixI vs s)
  rw[show (c++A c.length)++[((3:Int),(ixI vs s:Int))]=c++(snC A (3,ixI vs s)) c.length by simp[snC]] at z3
  generalize c++(snC A (3,ixI vs s)) c.length=c5 at *
  generalize c++A c.length=c1 at *
  have zs:Z qad (.call 169 [.ptr 0 0,.dat (.agg [.lit (.int .i64 1),.lit (.int .i64 0),.lit (.string s),.sl [.lit (.int .i64 a.kind),.lit (.int .i64 a.num),.lit (.string a.str),a.kids] 1 f])] (qcw vs e0 e1 e2 c))=some (.ret (.tup []) (qcw vs e0 e1 e2 c5)):=by
   refine qab (pf:=F169) rfl rfl ?_
   simp[F169,z1,z3,zf,qd6,qbN,qaF,Wa]
  refine qab (pf:=F147) rfl rfl ?_
  simp[F147,zs,Wa]
 zero:=fun e0 e1 e2 hl=>by
  have hpa:=ha.pos
  have zf:=qik s vs 0 hs
  rw[show ixI vs s+((0:Nat):Int)=ixI vs s by omega] at zf
  have z1:Z qad (.call 165 [.ptr 0 0,.dat (.agg [.lit (.int .i64 1),.lit (.int .i64 0),.lit (.string s),.sl [.lit (.int .i64 a.kind),.lit (.int .i64 a.num),.lit (.string a.str),a.kids] 1 f]),.int 0] (qec vs e0 e1 e2))=_:=qn3 (f:=f) (N:=1) (i:=0) (e0:=e0) (e1:=e1) (e2:=e2) ha rfl (by omega) (by omega)
  have l1:(A 0).length<2^30:=by rw[ha.ln]; omega
  have z3:=qb8 (vs:=vs) (e0:=e0) (e1:=e1) (e2:=e2) (A 0) (by omega) 3 (ixI vs s)
  rw[show (A 0)++[((3:Int),(ixI vs s:Int))]=(snC A (3,ixI vs s)) 0 by simp[snC]] at z3
  generalize (snC A (3,ixI vs s)) 0=c5 at *
  generalize A 0=c1 at *
  have zs:Z qad (.call 169 [.ptr 0 0,.dat (.agg [.lit (.int .i64 1),.lit (.int .i64 0),.lit (.string s),.sl [.lit (.int .i64 a.kind),.lit (.int .i64 a.num),.lit (.string a.str),a.kids] 1 f])] (qec vs e0 e1 e2))=some (.ret (.tup []) (qhK vs e0 e1 e2 c5)):=by
   refine qab (pf:=F169) rfl rfl ?_
   simp[F169,z1,z3,zf,qd6,qbN,qaF,Wa]
  refine qab (pf:=F147) rfl rfl ?_
  simp[F147,zs,Wa]
theorem qte(f:Bool){s:ByteArray}(hs:s∈qdU)(ha:TrOK vs a.node A La)(hb:TrOK vs b.node B Lb):TrOK vs (nd 2 0 s f (a.fo (b.fo .nil))) (snC (sq A B) (5,fieldI s)) (La+Lb+1) where
 ln:=qco (qbO ha.ln hb.ln)
 pos:=by omega
 one:=fun e0 e1 e2 c hc hl=>by
  have hpa:=ha.pos
  have hpb:=hb.pos
  have zf:=qhT hs
  have z1:Z qad (.call 165 [.ptr 0 0,.dat (.agg [.lit (.int .i64 2),.lit (.int .i64 0),.lit (.string s),.sl [.lit (.int .i64 a.kind),.lit (.int .i64 a.num),.lit (.string a.str),a.kids,.lit (.int .i64 b.kind),.lit (.int .i64 b.num),.lit (.string b.str),b.kids] 2 f]),.int 0] (qcw vs e0 e1 e2 c))=_:=qf8 (f:=f) (N:=2) (i:=0) (e0:=e0) (e1:=e1) (e2:=e2) ha.toTrB rfl (by omega) c hc (by omega)
  have l1:(c++A c.length).length<2^30:=by rw[Wd,ha.ln]; omega
  have l1':(c++A c.length).length=c.length+La:=by rw[Wd,ha.ln]
  have z2:Z qad (.call 165 [.ptr 0 0,.dat (.agg [.lit (.int .i64 2),.lit (.int .i64 0),.lit (.string s),.sl [.lit (.int .i64 a.kind),.lit (.int .i64 a.num),.lit (.string a.str),a.kids,.lit (.int .i64 b.kind),.lit (.int .i64 b.num),.lit (.string b.str),b.kids] 2 f]),.int 1] (qcw vs e0 e1 e2 (c++A c.length)))=_:=qf8 (f:=f) (N:=2) (i:=1) (e0:=e0) (e1:=e1) (e2:=e2) hb.toTrB rfl (by omega) (c++A c.length) (qiT hc) (by omega)
  rw[qri] at z2
  have l2:(c++sq A B c.length).length<2^30:=by rw[Wd,qbO ha.ln hb.ln]; omega
  have z3:=qb8 (vs:=vs) (e0:=e0) (e1:=e1) (e2:=e2) (c++sq A B c.length) l2 5 (fieldI s)
  rw[show (c++sq A B c.length)++[((5:Int),(fieldI s:Int))]=c++(snC (sq A B) (5,fieldI s)) c.length by simp[snC]] at z3
  generalize c++(snC (sq A B) (5,fieldI s)) c.length=c5 at *
  generalize c++sq A B c.length=c3 at *
  generalize c++A c.length=c1 at *
  have zs:Z qad (.call 169 [.ptr 0 0,.dat (.agg [.lit (.int .i64 2),.lit (.int .i64 0),.lit (.string s),.sl [.lit (.int .i64 a.kind),.lit (.int .i64 a.num),.lit (.string a.str),a.kids,.lit (.int .i64 b.kind),.lit (.int .i64 b.num),.lit (.string b.str),b.kids] 2 f])] (qcw vs e0 e1 e2 c))=some (.ret (.tup []) (qcw vs e0 e1 e2 c5)):=by
   refine qab (pf:=F169) rfl rfl ?_
   simp[F169,z1,z2,z3,zf,qd6,qbN,qaF,Wa]
  refine qab (pf:=F147) rfl rfl ?_
  simp[F147,zs,Wa]
 zero:=fun e0 e1 e2 hl=>by
  have hpa:=ha.pos
  have hpb:=hb.pos
  have zf:=qhT hs
  have z1:Z qad (.call 165 [.ptr 0 0,.dat (.agg [.lit (.int .i64 2),.lit (.int .i64 0),.lit (.string s),.sl [.lit (.int .i64 a.kind),.lit (.int .i64 a.num),.lit (.string a.str),a.kids,.lit (.int .i64 b.kind),.lit (.int .i64 b.num),.lit (.string b.str),b.kids] 2 f]),.int 0] (qec vs e0 e1 e2))=_:=qn3 (f:=f) (N:=2) (i:=0) (e0:=e0) (e1:=e1) (e2:=e2) ha rfl (by omega) (by omega)
  have l1:(A 0).length<2^30:=by rw[ha.ln]; omega
  have n1:A 0≠[]:=fun e=>by have:=ha.ln 0; rw[e] at this; simp only[Wm] at this; omega
  have l1':=ha.ln 0
  have z2:Z qad (.call 165 [.ptr 0 0,.dat (.agg [.lit (.int .i64 2),.lit (.int .i64 0),.lit (.string s),.sl [.lit (.int .i64 a.kind),.lit (.int .i64 a.num),.lit (.string a.str),a.kids,.lit (.int .i64 b.kind),.lit (.int .i64 b.num),.lit (.string b.str),b.kids] 2 f]),.int 1] (qcw vs e0 e1 e2 (A 0)))=_:=qf8 (f:=f) (N:=2) (i:=1) (e0:=e0) (e1:=e1) (e2:=e2) hb.toTrB rfl (by omega) (A 0) n1 (by omega)
  rw[show A 0++B (A 0).length=sq A B 0 by simp[sq]] at z2
  have l2:(sq A B 0).length<2^30:=by rw[qbO ha.ln hb.ln]; omega
  have z3:=qb8 (vs:=vs) (e0:=e0) (e1:=e1) (e2:=e2) (sq A B 0) l2 5 (fieldI s)
  rw[show (sq A B 0)++[((5:Int),(fieldI s:Int))]=(snC (sq A B) (5,fieldI s)) 0 by simp[snC]] at z3
  generalize (snC (sq A B) (5,fieldI s)) 0=c5 at *
  generalize sq A B 0=c3 at *
  generalize A 0=c1 at *
  have zs:Z qad (.call 169 [.ptr 0 0,.dat (.agg [.lit (.int .i64 2),.lit (.int .i64 0),.lit (.string s),.sl [.lit (.int .i64 a.kind),.lit (.int .i64 a.num),.lit (.string a.str),a.kids,.lit (.int .i64 b.kind),.lit (.int .i64 b.num),.lit (.string b.str),b.kids] 2 f])] (qec vs e0 e1 e2))=some (.ret (.tup []) (qhK vs e0 e1 e2 c5)):=by
   refine qab (pf:=F169) rfl rfl ?_
   simp[F169,z1,z2,z3,zf,qd6,qbN,qaF,Wa]
  refine qab (pf:=F147) rfl rfl ?_
  simp[F147,zs,Wa]
theorem qra(f:Bool)(ha:TrOK vs a.node A La)(hb:TrOK vs b.node B Lb):TrOK vs (nd 5 0 ⟨#[]⟩ f (a.fo (b.fo .nil))) (snC (sq A B) (20,0)) (La+Lb+1) where
 ln:=qco (qbO ha.ln hb.ln)
 pos:=by omega
 one:=fun e0 e1 e2 c hc hl=>by
  have hpa:=ha.pos
  have hpb:=hb.pos
  have z1:Z qad (.call 165 [.ptr 0 0,.dat (.agg [.lit (.int .i64 5),.lit (.int .i64 0),.lit (.string ⟨#[]⟩),.sl [.lit (.int .i64 a.kind),.lit (.int .i64 a.num),.lit (.string a.str),a.kids,.lit (.int .i64 b.kind),.lit (.int .i64 b.num),.lit (.string b.str),b.kids] 2 f]),.int 0] (qcw vs e0 e1 e2 c))=_:=qf8 (f:=f) (N:=2) (i:=0) (e0:=e0) (e1:=e1) (e2:=e2) ha.toTrB rfl (by omega) c hc (by omega)
  have l1:(c++A c.length).length<2^30:=by rw[Wd,ha.ln]; omega
  have l1':(c++A c.length).length=c.length+La:=by rw[Wd,ha.ln]
  have z2:Z qad (.call 165 [.ptr 0 0,.dat (.agg [.lit (.int .i64 5),.lit (.int .i64 0),.lit (.string ⟨#[]⟩),.sl [.lit (.int .i64 a.kind),.lit (.int .i64 a.num),.lit (.string a.str),a.kids,.lit (.int .i64 b.kind),.lit (.int .i64 b.num),.lit (.string b.str),b.kids] 2 f]),.int 1] (qcw vs e0 e1 e2 (c++A c.length)))=_:=qf8 (f:=f) (N:=2) (i:=1) (e0:=e0) (e1:=e1) (e2:=e2) hb.toTrB rfl (by omega) (c++A c.length) (qiT hc) (by omega)
  rw[qri] at z2
  have l2:(c++sq A B c.length).length<2^30:=by rw[Wd,qbO ha.ln hb.ln]; omega
  have z3:=qb8 (vs:=vs) (e0:=e0) (e1:=e1) (e2:=e2) (c++sq A B c.length) l2 20 (0)
  rw[show (c++sq A B c.length)++[((20:Int),(0:Int))]=c++(snC (sq A B) (20,0)) c.length by simp[snC]] at z3
  generalize c++(snC (sq A B) (20,0)) c.length=c5 at *
  generalize c++sq A B c.length=c3 at *
  generalize c++A c.length=c1 at *
  have zs:Z qad (.call 169 [.ptr 0 0,.dat (.agg [.lit (.int .i64 5),.lit (.int .i64 0),.lit (.string ⟨#[]⟩),.sl [.lit (.int .i64 a.kind),.lit (.int .i64 a.num),.lit (.string a.str),a.kids,.lit (.int .i64 b.kind),.lit (.int .i64 b.num),.lit (.string b.str),b.kids] 2 f])] (qcw vs e0 e1 e2 c))=some (.ret (.tup []) (qcw vs e0 e1 e2 c5)):=by
   refine qab (pf:=F169) rfl rfl ?_
   simp[F169,z1,z2,z3,qd6,qbN,qaF,Wa]
  refine qab (pf:=F147) rfl rfl ?_
  simp[F147,zs,Wa]
 zero:=fun e0 e1 e2 hl=>by
  have hpa:=ha.pos
  have hpb:=hb.pos
  have z1:Z qad (.call 165 [.ptr 0 0,.dat (.agg [.lit (.int .i64 5),.lit (.int .i64 0),.lit (.string ⟨#[]⟩),.sl [.lit (.int .i64 a.kind),.lit (.int .i64 a.num),.lit (.string a.str),a.kids,.lit (.int .i64 b.kind),.lit (.int .i64 b.num),.lit (.string b.str),b.kids] 2 f]),.int 0] (qec vs e0 e1 e2))=_:=qn3 (f:=f) (N:=2) (i:=0) (e0:=e0) (e1:=e1) (e2:=e2) ha rfl (by omega) (by omega)
  have l1:(A 0).length<2^30:=by rw[ha.ln]; omega
  have n1:A 0≠[]:=fun e=>by have:=ha.ln 0; rw[e] at this; simp only[Wm] at this; omega
  have l1':=ha.ln 0
  have z2:Z qad (.call 165 [.ptr 0 0,.dat (.agg [.lit (.int .i64 5),.lit (.int .i64 0),.lit (.string ⟨#[]⟩),.sl [.lit (.int .i64 a.kind),.lit (.int .i64 a.num),.lit (.string a.str),a.kids,.lit (.int .i64 b.kind),.lit (.int .i64 b.num),.lit (.string b.str),b.kids] 2 f]),.int 1] (qcw vs e0 e1 e2 (A 0)))=_:=qf8 (f:=f) (N:=2) (i:=1) (e0:=e0) (e1:=e1) (e2:=e2) hb.toTrB rfl (by omega) (A 0) n1 (by omega)
  rw[show A 0++B (A 0).length=sq A B 0 by simp[sq]] at z2
  have l2:(sq A B 0).length<2^30:=by rw[qbO ha.ln hb.ln]; omega
  have z3:=qb8 (vs:=vs) (e0:=e0) (e1:=e1) (e2:=e2) (sq A B 0) l2 20 (0)
  rw[show (sq A B 0)++[((20:Int),(0:Int))]=(snC (sq A B) (20,0)) 0 by simp[snC]] at z3
  generalize (snC (sq A B) (20,0)) 0=c5 at *
  generalize sq A B 0=c3 at *
  generalize A 0=c1 at *
  have zs:Z qad (.call 169 [.ptr 0 0,.dat (.agg [.lit (.int .i64 5),.lit (.int .i64 0),.lit (.string ⟨#[]⟩),.sl [.lit (.int .i64 a.kind),.lit (.int .i64 a.num),.lit (.string a.str),a.kids,.lit (.int .i64 b.kind),.lit (.int .i64 b.num),.lit (.string b.str),b.kids] 2 f])] (qec vs e0 e1 e2))=some (.ret (.tup []) (qhK vs e0 e1 e2 c5)):=by
   refine qab (pf:=F169) rfl rfl ?_
   simp[F169,z1,z2,z3,qd6,qbN,qaF,Wa]
  refine qab (pf:=F147) rfl rfl ?_
  simp[F147,zs,Wa]
theorem qwO(f:Bool):TrOK vs (nd 6 0 ⟨#[]⟩ f .nil) (fun _=>[(21,0)]) 1 where
 ln:=fun _=>rfl
 pos:=by omega
 one:=fun e0 e1 e2 c hc hl=>by
  have z:=qb8 (vs:=vs) (e0:=e0) (e1:=e1) (e2:=e2) c (by omega) 21 0
  generalize c++[((21:Int),(0:Int))]=c2 at *
  have zs:Z qad (.call 169 [.ptr 0 0,.dat (.agg [.lit (.int .i64 6),.lit (.int .i64 0),.lit (.string ⟨#[]⟩),.lit (.slice none 0 0)])] (qcw vs e0 e1 e2 c))=some (.ret (.tup []) (qcw vs e0 e1 e2 c2)):=by
   refine qab (pf:=F169) rfl rfl ?_
   simp[F169,z,Wa]
  refine qab (pf:=F147) rfl rfl ?_
  simp[F147,zs,Wa]
 zero:=fun e0 e1 e2 hl=>by
  have z:=qll (vs:=vs) (e0:=e0) (e1:=e1) (e2:=e2) 21 0
  generalize [((21:Int),(0:Int))]=c2 at *
  have zs:Z qad (.call 169 [.ptr 0 0,.dat (.agg [.lit (.int .i64 6),.lit (.int .i64 0),.lit (.string ⟨#[]⟩),.lit (.slice none 0 0)])] (qec vs e0 e1 e2))=some (.ret (.tup []) (qhK vs e0 e1 e2 c2)):=by
   refine qab (pf:=F169) rfl rfl ?_
   simp[F169,z,Wa]
  refine qab (pf:=F147) rfl rfl ?_
  simp[F147,zs,Wa]
theorem qBv (f f1 f2:Bool) {x y:Fo} {X Y:Int->Cd} {Lx Ly:Nat} (ha:TrOK vs a.node A La) (hx:TrB vs (nd 7 0 ⟨#[]⟩ f1 x) X Lx) (hy:TrB vs (nd 7 0 ⟨#[]⟩ f2 y) Y Ly) :
  TrOK vs (nd 3 0 ⟨#[]⟩ f (a.fo (.cons 7 0 ⟨#[]⟩ f1 x (.cons 7 0 ⟨#[]⟩ f2 y .nil)))) (brC A X Y) (La+Lx+Ly+2) where
 ln:=qmQ ha.ln hx.ln hy.ln
 pos:=by omega
 one:=fun e0 e1 e2 c hc hl=>by
  have hpa:=ha.pos
  have z:=qoG (vs:=vs) (e0:=e0) (e1:=e1) (e2:=e2) (qun (k:=3) (n:=0) (s:=⟨#[]⟩) (f:=f) (N:=3) (cs:=[.lit (.int .i64 a.kind),.lit (.int .i64 a.num),.lit (.string a.str),a.kids,.lit (.int .i64 7),.lit (.int .i64 0),.lit (.string ⟨#[]⟩),kd f1 x.len x.cells,.lit (.int .i64 7),.lit (.int .i64 0),.lit (.string ⟨#[]⟩),kd f2 y.len y.cells]) ha.toTrB rfl (by omega)) (qup (k:=3) (n:=0) (s:=⟨#[]⟩) (f:=f) (N:=3) (cs:=[.lit (.int .i64 a.kind),.lit (.int .i64 a.num),.lit (.string a.str),a.kids,.lit (.int .i64 7),.lit (.int .i64 0),.lit (.string ⟨#[]⟩),kd f1 x.len x.cells,.lit (.int .i64 7),.lit (.int .i64 0),.lit (.string ⟨#[]⟩),kd f2 y.len y.cells]) hx rfl (by omega)) (quq (k:=3) (n:=0) (s:=⟨#[]⟩) (f:=f) (N:=3) (cs:=[.lit (.int .i64 a.kind),.lit (.int .i64 a.num),.lit (.string a.str),a.kids,.lit (.int .i64 7),.lit (.int .i64 0),.lit (.string ⟨#[]⟩),kd f1 x.len x.cells,.lit (.int .i64 7),.lit (.int .i64 0),.lit (.string ⟨#[]⟩),kd f2 y.len y.cells]) hy rfl (by omega)) c hc (by omega) ha.pos
  simp only[nbo,qkZ] at z
  generalize c++brC A X Y c.length=c5 at *
  have zs:Z qad (.call 169 [.ptr 0 0,.dat (.agg [.lit (.int .i64 3),.lit (.int .i64 0),.lit (.string ⟨#[]⟩),.sl [.lit (.int .i64 a.kind),.lit (.int .i64 a.num),.lit (.string a.str),a.kids,.lit (.int .i64 7),.lit (.int .i64 0),.lit (.string ⟨#[]⟩),kd f1 x.len x.cells,.lit (.int .i64 7),.lit (.int .i64 0),.lit (.string ⟨#[]⟩),kd f2 y.len y.cells] 3 f])] (qcw vs e0 e1 e2 c))=some (.ret (.tup []) (qcw vs e0 e1 e2 c5)):=by
   refine qab (pf:=F169) rfl rfl ?_
   simp[F169,z,Wa]
  refine qab (pf:=F147) rfl rfl ?_
  simp[F147,zs,Wa]
 zero:=fun e0 e1 e2 hl=>by
  have hpa:=ha.pos
  have z:=qoH (vs:=vs) (e0:=e0) (e1:=e1) (e2:=e2) (qun (k:=3) (n:=0) (s:=⟨#[]⟩) (f:=f) (N:=3) (cs:=[.lit (.int .i64 a.kind),.lit (.int .i64 a.num),.lit (.string a.str),a.kids,.lit (.int .i64 7),.lit (.int .i64 0),.lit (.string ⟨#[]⟩),kd f1 x.len x.cells,.lit (.int .i64 7),.lit (.int .i64 0),.lit (.string ⟨#[]⟩),kd f2 y.len y.cells]) ha.toTrB rfl (by omega)) (qwH (k:=3) (n:=0) (s:=⟨#[]⟩) (f:=f) (N:=3) (cs:=[.lit (.int .i64 a.kind),.lit (.int .i64 a.num),.lit (.string a.str),a.kids,.lit (.int .i64 7),.lit (.int .i64 0),.lit (.string ⟨#[]⟩),kd f1 x.len x.cells,.lit (.int .i64 7),.lit (.int .i64 0),.lit (.string ⟨#[]⟩),kd f2 y.len y.cells]) ha rfl (by omega) (by omega)) (qup (k:=3) (n:=0) (s:=⟨#[]⟩) (f:=f) (N:=3) (cs:=[.lit (.int .i64 a.kind),.lit (.int .i64 a.num),.lit (.string a.str),a.kids,.lit (.int .i64 7),.lit (.int .i64 0),.lit (.string ⟨#[]⟩),kd f1 x.len x.cells,.lit (.int .i64 7),.lit (.int .i64 0),.lit (.string ⟨#[]⟩),kd f2 y.len y.cells]) hx rfl (by omega)) (quq (k:=3) (n:=0) (s:=⟨#[]⟩) (f:=f) (N:=3) (cs:=[.lit (.int .i64 a.kind),.lit (.int .i64 a.num),.lit (.string a.str),a.kids,.lit (.int .i64 7),.lit (.int .i64 0),.lit (.string ⟨#[]⟩),kd f1 x.len x.cells,.lit (.int .i64 7),.lit (.int .i64 0),.lit (.string ⟨#[]⟩),kd f2 y.len y.cells]) hy rfl (by omega)) (by omega) ha.pos
  simp only[nbo,qkZ] at z
  generalize brC A X Y 0=c5 at *
  have zs:Z qad (.call 169 [.ptr 0 0,.dat (.agg [.lit (.int .i64 3),.lit (.int .i64 0),.lit (.string ⟨#[]⟩),.sl [.lit (.int .i64 a.kind),.lit (.int .i64 a.num),.lit (.string a.str),a.kids,.lit (.int .i64 7),.lit (.int .i64 0),.lit (.string ⟨#[]⟩),kd f1 x.len x.cells,.lit (.int .i64 7),.lit (.int .i64 0),.lit (.string ⟨#[]⟩),kd f2 y.len y.cells] 3 f])] (qec vs e0 e1 e2))=some (.ret (.tup []) (qhK vs e0 e1 e2 c5)):=by
   refine qab (pf:=F169) rfl rfl ?_
   simp[F169,z,Wa]
  refine qab (pf:=F147) rfl rfl ?_
  simp[F147,zs,Wa]
theorem qzp(A X:Int->Cd)(c:Cd):(c++A c.length)++(19,((((c++A c.length)++[((19:Int),(0:Int))])++X ((c++A c.length)++[((19:Int),(0:Int))]).length++[((18:Int),(c.length:Int))]).length:Int))::(X ((c++A c.length)++[((19:Int),(0:Int))]).length++[((18:Int),(c.length:Int))])=c++whC A X c.length:=by
 have e:((((c++A c.length)++[((19:Int),(0:Int))]).length:Nat):Int)=c.length+(A c.length).length+1:=by simp only[Wd,Wf,Wm]; omega
 simp only[whC,Wj]
 simp only[Wj] at e
 rw[e]
 have e2:(((c++(A c.length++([((19:Int),(0:Int))]++(X (c.length+(A c.length).length+1)++[((18:Int),(c.length:Int))])))).length:Nat):Int)=c.length+(A c.length).length+1+(X (c.length+(A c.length).length+1)).length+1:=by simp only[Wd,Wf,Wm]; omega
 rw[e2]
theorem qtf (f f1:Bool) {x:Fo} {X:Int->Cd} {Lx:Nat} (ha:TrOK vs a.node A La) (hx:TrB vs (nd 7 0 ⟨#[]⟩ f1 x) X Lx) :
  TrOK vs (nd 4 0 ⟨#[]⟩ f (a.fo (.cons 7 0 ⟨#[]⟩ f1 x .nil))) (whC A X) (La+Lx+2) where
 ln:=qwm ha.ln hx.ln
 pos:=by omega
 one:=fun e0 e1 e2 c hc hl=>by
  have hpa:=ha.pos
  obtain⟨c1,h1⟩ : ∃ c1,c1=c++A c.length:=⟨_,rfl⟩
  have l1:c1.length=c.length+La:=by rw[h1,Wd,ha.ln]
  have n1:c1≠[]:=fun e=>by rw[e] at l1; simp only[Wm] at l1; omega
  have z1:Z qad (.call 165 [.ptr 0 0,.dat (.agg [.lit (.int .i64 4),.lit (.int .i64 0),.lit (.string ⟨#[]⟩),.sl [.lit (.int .i64 a.kind),.lit (.int .i64 a.num),.lit (.string a.str),a.kids,.lit (.int .i64 7),.lit (.int .i64 0),.lit (.string ⟨#[]⟩),kd f1 x.len x.cells] 2 f]),.int 0] (qcw vs e0 e1 e2 c))=_:=qf8 (f:=f) (N:=2) (i:=0) (e0:=e0) (e1:=e1) (e2:=e2) ha.toTrB rfl (by omega) c hc (by omega)
  rw[<- h1] at z1
  have z2:=qpo (vs:=vs) (e0:=e0) (e1:=e1) (e2:=e2) c1 (by omega) 19
  obtain⟨c2,h2⟩ : ∃ c2,c2=c1++[((19:Int),(0:Int))]:=⟨_,rfl⟩
  have l2:c2.length=c1.length+1:=by rw[h2]; simp
  rw[<- h2] at z2
  have z3:Z qad (.call 165 [.ptr 0 0,.dat (.agg [.lit (.int .i64 4),.lit (.int .i64 0),.lit (.string ⟨#[]⟩),.sl [.lit (.int .i64 a.kind),.lit (.int .i64 a.num),.lit (.string a.str),a.kids,.lit (.int .i64 7),.lit (.int .i64 0),.lit (.string ⟨#[]⟩),kd f1 x.len x.cells] 2 f]),.int 1] (qcw vs e0 e1 e2 c2))=_:=qf8 (f:=f) (N:=2) (i:=1) (e0:=e0) (e1:=e1) (e2:=e2) hx rfl (by omega) c2 (by rw[h2]; simp) (by omega)
  obtain⟨c3,h3⟩ : ∃ c3,c3=c2++X c2.length:=⟨_,rfl⟩
  have l3:c3.length=c2.length+Lx:=by rw[h3,Wd,hx.ln]
  rw[<- h3] at z3
  have z4:=qb8 (vs:=vs) (e0:=e0) (e1:=e1) (e2:=e2) c3 (by omega) 18 c.length
  obtain⟨c4,h4⟩ : ∃ c4,c4=c3++[((18:Int),(c.length:Int))]:=⟨_,rfl⟩
  have l4:c4.length=c3.length+1:=by rw[h4]; simp
  rw[<- h4] at z4
  have f4:c4=c1++(19,0)::(X c2.length++[((18:Int),(c.length:Int))]):=by rw[h4,h3,h2]; simp
  have z5:=qea (vs:=vs) (e0:=e0) (e1:=e1) (e2:=e2) c1 (X c2.length++[((18:Int),(c.length:Int))]) 19 0 (by rw[<- f4]; omega)
  rw[<- f4] at z5
  have f5:c1++(19,(c4.length:Int))::(X c2.length++[((18:Int),(c.length:Int))])=c++whC A X c.length:=by
   have:=qzp A X c
   rw[<- h1,<- h2,<- h3,<- h4] at this
   exact this
  have l5:c4.length=(c++whC A X c.length).length:=by rw[<- f5,f4]; simp
  rw[f5] at z5
  generalize c++whC A X c.length=c5 at *
  rw[l5] at z5
  have zl:Z qad (.call 191 [.ptr 0 0,.dat (.agg [.lit (.int .i64 4),.lit (.int .i64 0),.lit (.string ⟨#[]⟩),.sl [.lit (.int .i64 a.kind),.lit (.int .i64 a.num),.lit (.string a.str),a.kids,.lit (.int .i64 7),.lit (.int .i64 0),.lit (.string ⟨#[]⟩),kd f1 x.len x.cells] 2 f])] (qcw vs e0 e1 e2 c))=some (.ret (.tup []) (qcw vs e0 e1 e2 c5)):=by
   refine qab (pf:=F191) rfl rfl ?_
   simp[F191,qcO,z1,z2,z3,z4,z5,l5,V.isNilIf,Wa]
  have zs:Z qad (.call 169 [.ptr 0 0,.dat (.agg [.lit (.int .i64 4),.lit (.int .i64 0),.lit (.string ⟨#[]⟩),.sl [.lit (.int .i64 a.kind),.lit (.int .i64 a.num),.lit (.string a.str),a.kids,.lit (.int .i64 7),.lit (.int .i64 0),.lit (.string ⟨#[]⟩),kd f1 x.len x.cells] 2 f])] (qcw vs e0 e1 e2 c))=some (.ret (.tup []) (qcw vs e0 e1 e2 c5)):=by
   refine qab (pf:=F169) rfl rfl ?_
   simp[F169,zl,Wa]
  refine qab (pf:=F147) rfl rfl ?_
  simp[F147,zs,Wa]
 zero:=fun e0 e1 e2 hl=>by
  obtain⟨c,hcn⟩ : ∃ c:Cd,c=[]:=⟨_,rfl⟩
  have lc:c.length=0:=by rw[hcn]; rfl
  have hpa:=ha.pos
  obtain⟨c1,h1⟩ : ∃ c1,c1=c++A c.length:=⟨_,rfl⟩
  have l1:c1.length=c.length+La:=by rw[h1,Wd,ha.ln]
  have n1:c1≠[]:=fun e=>by rw[e] at l1; simp only[Wm] at l1; omega
  have z1:Z qad (.call 165 [.ptr 0 0,.dat (.agg [.lit (.int .i64 4),.lit (.int .i64 0),.lit (.string ⟨#[]⟩),.sl [.lit (.int .i64 a.kind),.lit (.int .i64 a.num),.lit (.string a.str),a.kids,.lit (.int .i64 7),.lit (.int .i64 0),.lit (.string ⟨#[]⟩),kd f1 x.len x.cells] 2 f]),.int 0] (qec vs e0 e1 e2))=_:=qn3 (f:=f) (N:=2) (i:=0) (e0:=e0) (e1:=e1) (e2:=e2) ha rfl (by omega) (by omega)
  rw[show A 0=c1 by rw[h1,hcn]; rfl] at z1
  have z2:=qpo (vs:=vs) (e0:=e0) (e1:=e1) (e2:=e2) c1 (by omega) 19
  obtain⟨c2,h2⟩ : ∃ c2,c2=c1++[((19:Int),(0:Int))]:=⟨_,rfl⟩
  have l2:c2.length=c1.length+1:=by rw[h2]; simp
  rw[<- h2] at z2
  have z3:Z qad (.call 165 [.ptr 0 0,.dat (.agg [.lit (.int .i64 4),.lit (.int .i64 0),.lit (.string ⟨#[]⟩),.sl [.lit (.int .i64 a.kind),.lit (.int .i64 a.num),.lit (.string a.str),a.kids,.lit (.int .i64 7),.lit (.int .i64 0),.lit (.string ⟨#[]⟩),kd f1 x.len x.cells] 2 f]),.int 1] (qcw vs e0 e1 e2 c2))=_:=qf8 (f:=f) (N:=2) (i:=1) (e0:=e0) (e1:=e1) (e2:=e2) hx rfl (by omega) c2 (by rw[h2]; simp) (by omega)
  obtain⟨c3,h3⟩ : ∃ c3,c3=c2++X c2.length:=⟨_,rfl⟩
  have l3:c3.length=c2.length+Lx:=by rw[h3,Wd,hx.ln]
  rw[<- h3] at z3
  have z4:=qb8 (vs:=vs) (e0:=e0) (e1:=e1) (e2:=e2) c3 (by omega) 18 c.length
  obtain⟨c4,h4⟩ : ∃ c4,c4=c3++[((18:Int),(c.length:Int))]:=⟨_,rfl⟩
  have l4:c4.length=c3.length+1:=by rw[h4]; simp
  rw[<- h4] at z4
  have f4:c4=c1++(19,0)::(X c2.length++[((18:Int),(c.length:Int))]):=by rw[h4,h3,h2]; simp
  have z5:=qea (vs:=vs) (e0:=e0) (e1:=e1) (e2:=e2) c1 (X c2.length++[((18:Int),(c.length:Int))]) 19 0 (by rw[<- f4]; omega)
  rw[<- f4] at z5
  have f5:c1++(19,(c4.length:Int))::(X c2.length++[((18:Int),(c.length:Int))])=c++whC A X c.length:=by
   have:=qzp A X c
   rw[<- h1,<- h2,<- h3,<- h4] at this
   exact this
  have l5:c4.length=(c++whC A X c.length).length:=by rw[<- f5,f4]; simp
  rw[f5] at z5
  rw[show whC A X 0=c++whC A X c.length by rw[hcn]; rfl]
  rw[lc,show ((0:Nat):Int)=0 from rfl] at z4
  generalize c++whC A X c.length=c5 at *
  rw[l5] at z5
  have zl:Z qad (.call 191 [.ptr 0 0,.dat (.agg [.lit (.int .i64 4),.lit (.int .i64 0),.lit (.string ⟨#[]⟩),.sl [.lit (.int .i64 a.kind),.lit (.int .i64 a.num),.lit (.string a.str),a.kids,.lit (.int .i64 7),.lit (.int .i64 0),.lit (.string ⟨#[]⟩),kd f1 x.len x.cells] 2 f])] (qec vs e0 e1 e2))=some (.ret (.tup []) (qhK vs e0 e1 e2 c5)):=by
   refine qab (pf:=F191) rfl rfl ?_
   simp[F191,qcO,z1,z2,z3,z4,z5,qdR,l5,V.isNilIf,Wa]
  have zs:Z qad (.call 169 [.ptr 0 0,.dat (.agg [.lit (.int .i64 4),.lit (.int .i64 0),.lit (.string ⟨#[]⟩),.sl [.lit (.int .i64 a.kind),.lit (.int .i64 a.num),.lit (.string a.str),a.kids,.lit (.int .i64 7),.lit (.int .i64 0),.lit (.string ⟨#[]⟩),kd f1 x.len x.cells] 2 f])] (qec vs e0 e1 e2))=some (.ret (.tup []) (qhK vs e0 e1 e2 c5)):=by
   refine qab (pf:=F169) rfl rfl ?_
   simp[F169,zl,Wa]
  refine qab (pf:=F147) rfl rfl ?_
  simp[F147,zs,Wa]
end
end
section
open F Gr
set_option maxHeartbeats 2000000
attribute [local simp] qbb qbG dkey qgh
inductive RowT(vs:List ByteArray):List D->List (Int->Cd)->Nat->Prop
 |nil:RowT vs [] [] 0
 |cons {a b c d:D} {C:Int->Cd} {L:Nat} {r:List D} {Cs:List (Int->Cd)} {M:Nat} (h:TrOK vs (.dat (.agg [a,b,c,d])) C L) (hr:RowT vs r Cs M):RowT vs (a::b::c::d::r) (C::Cs) (L+M)
theorem qxn{vs:List ByteArray}{r:List D}{Cs:List (Int->Cd)}{M:Nat}(h:RowT vs r Cs M):Ln (seqC Cs) M:=by
 induction h with
 |nil=>exact fun _=>rfl
 |cons h _ ih=>exact fun p=>by simp[seqC,h.ln p,ih _]
section
variable{vs:List ByteArray}{e0 e1 e2:Int}{f:Bool}{N:Nat}{cs:List D}
abbrev bl1(vs:List ByteArray)(e0 e1 e2:Int)(f:Bool)(N:Nat)(cs:List D)(c:Cd):S:=[cob e0 e1 e2 1 c.length 2,.vec (icV c),mpo vs,.cells [.ptr 0 0],.cells [.int 7,.int 0,.str ⟨#[]⟩,.dat (kd f N cs)]]
abbrev bl0(vs:List ByteArray)(e0 e1 e2:Int)(f:Bool)(N:Nat)(cs:List D):S:=[qoz e0 e1 e2 1,mpo vs,.cells [.ptr 0 0],.cells [.int 7,.int 0,.str ⟨#[]⟩,.dat (kd f N cs)]]
abbrev bl2(vs:List ByteArray)(e0 e1 e2:Int)(f:Bool)(N:Nat)(cs:List D)(c:Cd):S:=[cob e0 e1 e2 4 c.length 1,mpo vs,.cells [.ptr 0 0],.cells [.int 7,.int 0,.str ⟨#[]⟩,.dat (kd f N cs)],.vec (icV c)]
abbrev blF(p q N:Nat)(i:Nat):Fr:=[(2,.ptr p 0),(3,.ptr q 0),(64,.int N),(65,.int i)]
theorem qxo(c:Cd):Z qad (.loop 3 F169l0 (blF 3 4 N N) (bl1 vs e0 e1 e2 f N cs c))=some (.out (.exit 1) (blF 3 4 N N++[(66,.bool false)]) (bl1 vs e0 e1 e2 f N cs c)):=by
 rw[qaa]
 simp[qac,qdw,Wa]
theorem qxp:Z qad (.loop 2 F169l0 (blF 2 3 N N) (bl0 vs e0 e1 e2 f N cs))=some (.out (.exit 1) (blF 2 3 N N++[(66,.bool false)]) (bl0 vs e0 e1 e2 f N cs)):=by
 rw[qaa]
 simp[qac,qdw,Wa]
theorem qxq(c:Cd):Z qad (.loop 2 F169l0 (blF 2 3 N N) (bl2 vs e0 e1 e2 f N cs c))=some (.out (.exit 1) (blF 2 3 N N++[(66,.bool false)]) (bl2 vs e0 e1 e2 f N cs c)):=by
 rw[qaa]
 simp[qac,qdw,Wa]
variable{i:Nat}{a b c1 d:D}{r:List D}{C:Int->Cd}{L:Nat}
theorem qtL (hi:i<N) (hN:N<2^40) (hd:cs.drop (i*4)=a::b::c1::d::r) (h:TrOK vs (.dat (.agg [a,b,c1,d])) C L) (c:Cd) (hc:c≠[]) (hl:c.length+4*L<2^30) :
  Z qad (.loop 3 F169l0 (blF 3 4 N i) (bl1 vs e0 e1 e2 f N cs c))=Z qad (.loop 3 F169l0 (blF 3 4 N (i+1)) (bl1 vs e0 e1 e2 f N cs (c++C c.length))):=by
 have w1:=qai ((i:Int)+1) (by omega)
 have hi':(i:Int)<N:=by omega
 have z:=qf8 (e0:=e0) (e1:=e1) (e2:=e2) (k:=7) (n:=0) (s:=⟨#[]⟩) (f:=f) h.toTrB hd hi c hc hl
 generalize c++C c.length=c2 at *
 conv=>lhs; rw[qaa]
 simp[qac,qdw,hi',z,w1,bl0,bl1,bl2,blF,Wa]
theorem qtM (hi:i<N) (hN:N<2^40) (hd:cs.drop (i*4)=a::b::c1::d::r) (h:TrOK vs (.dat (.agg [a,b,c1,d])) C L) (hl:4*L<2^30) :
  Z qad (.loop 2 F169l0 (blF 2 3 N i) (bl0 vs e0 e1 e2 f N cs))=Z qad (.loop 2 F169l0 (blF 2 3 N (i+1)) (bl2 vs e0 e1 e2 f N cs (C 0))):=by
 have w1:=qai ((i:Int)+1) (by omega)
 have hi':(i:Int)<N:=by omega
 have z:=qn3 (e0:=e0) (e1:=e1) (e2:=e2) (k:=7) (n:=0) (s:=⟨#[]⟩) (f:=f) h hd hi hl
 generalize C 0=c2 at *
 conv=>lhs; rw[qaa]
 simp[qac,qdw,hi',z,w1,bl0,bl1,bl2,blF,Wa]
theorem qtN (hi:i<N) (hN:N<2^40) (hd:cs.drop (i*4)=a::b::c1::d::r) (h:TrOK vs (.dat (.agg [a,b,c1,d])) C L) (c:Cd) (hc:c≠[]) (hl:c.length+4*L<2^30) :
  Z qad (.loop 2 F169l0 (blF 2 3 N i) (bl2 vs e0 e1 e2 f N cs c))=Z qad (.loop 2 F169l0 (blF 2 3 N (i+1)) (bl2 vs e0 e1 e2 f N cs (c++C c.length))):=by
 have w1:=qai ((i:Int)+1) (by omega)
 have hi':(i:Int)<N:=by omega
 have z:=qf8 (e0:=e0) (e1:=e1) (e2:=e2) (k:=7) (n:=0) (s:=⟨#[]⟩) (f:=f) h.toTrB hd hi c hc hl
 generalize c++C c.length=c2 at *
 conv=>lhs; rw[qaa]
 simp[qac,qdw,hi',z,w1,bl0,bl1,bl2,blF,Wa]
theorem qmd(C:Int->Cd)(Cs:List (Int->Cd))(c:Cd):(c++C c.length)++seqC Cs (c++C c.length).length=c++seqC (C::Cs) c.length:=by
 simp only[seqC,Wj,Wd]
 rw[show ((c.length+(C c.length).length:Nat):Int)=c.length+(C c.length).length by omega]
theorem qop (hN:N<2^40) : ∀ {r:List D} {Cs:List (Int->Cd)} {M:Nat},RowT vs r Cs M -> ∀ (i:Nat),cs.drop (i*4)=r->i+Cs.length=N -> ∀ (c:Cd),c≠[]->c.length+4*M<2^30 ->
  Z qad (.loop 3 F169l0 (blF 3 4 N i) (bl1 vs e0 e1 e2 f N cs c))=some (.out (.exit 1) (blF 3 4 N N++[(66,.bool false)]) (bl1 vs e0 e1 e2 f N cs (c++seqC Cs c.length)))
 |_,_,_,.nil,i,hd,hn,c,hc,hl=>by
  simp only[Wm,Yg] at hn
  subst hn
  rw[show c++seqC [] c.length=c by simp[seqC]]
  exact qxo c
 |_,_,_,.cons (C:=C) (L:=L) (Cs:=Cs) (M:=M) h1 hr,i,hd,hn,c,hc,hl=>by
  simp only[Wf] at hn
  have hlen:(c++C c.length).length=c.length+L:=by rw[Wd,h1.ln]
  rw[qtL (by omega) hN hd h1 c hc (by omega),qop hN hr (i+1) (qcv hd) (by omega) _ (qiT hc) (by omega),qmd]
theorem qoq (hN:N<2^40) : ∀ {r:List D} {Cs:List (Int->Cd)} {M:Nat},RowT vs r Cs M -> ∀ (i:Nat),cs.drop (i*4)=r->i+Cs.length=N -> ∀ (c:Cd),c≠[]->c.length+4*M<2^30 ->
  Z qad (.loop 2 F169l0 (blF 2 3 N i) (bl2 vs e0 e1 e2 f N cs c))=some (.out (.exit 1) (blF 2 3 N N++[(66,.bool false)]) (bl2 vs e0 e1 e2 f N cs (c++seqC Cs c.length)))
 |_,_,_,.nil,i,hd,hn,c,hc,hl=>by
  simp only[Wm,Yg] at hn
  subst hn
  rw[show c++seqC [] c.length=c by simp[seqC]]
  exact qxq c
 |_,_,_,.cons (C:=C) (L:=L) (Cs:=Cs) (M:=M) h1 hr,i,hd,hn,c,hc,hl=>by
  simp only[Wf] at hn
  have hlen:(c++C c.length).length=c.length+L:=by rw[Wd,h1.ln]
  rw[qtN (by omega) hN hd h1 c hc (by omega),qoq hN hr (i+1) (qcv hd) (by omega) _ (qiT hc) (by omega),qmd]
end
section
variable{vs:List ByteArray}{cs:List D}{Cs:List (Int->Cd)}{M N:Nat}
theorem qtO(h:RowT vs cs Cs M)(hN:Cs.length=N)(hN2:N<2^40)(f:Bool):TrB vs (.dat (.agg [.lit (.int .i64 7),.lit (.int .i64 0),.lit (.string ⟨#[]⟩),kd f N cs])) (seqC Cs) M where
 ln:=qxn h
 one:=fun e0 e1 e2 c hc hl=>by
  have z:=qop (e0:=e0) (e1:=e1) (e2:=e2) (f:=f) hN2 h 0 rfl (by omega) c hc hl
  rw[show blF 3 4 N 0=[(2,.ptr 3 0),(3,.ptr 4 0),(64,.int N),(65,.int 0)] from rfl] at z
  generalize c++seqC Cs c.length=c2 at *
  have zs:Z qad (.call 169 [.ptr 0 0,.dat (.agg [.lit (.int .i64 7),.lit (.int .i64 0),.lit (.string ⟨#[]⟩),kd f N cs])] (qcw vs e0 e1 e2 c))=some (.ret (.tup []) (qcw vs e0 e1 e2 c2)):=by
   refine qab (pf:=F169) rfl rfl ?_
   simp[F169,z,Wa]
  refine qab (pf:=F147) rfl rfl ?_
  simp[F147,zs,Wa]
theorem qBH (h:RowT vs cs Cs M) (hN:Cs.length=N) (hN2:N<2^40) (f:Bool) (e0 e1 e2:Int) (hl:4*M<2^30):Z qad (.call 147 [.ptr 0 0,.dat (.agg [.lit (.int .i64 7),.lit (.int .i64 0),.lit (.string ⟨#[]⟩),kd f N cs])] (qec vs e0 e1 e2)) =
  some (.ret (.tup []) (if seqC Cs 0=[] then qec vs e0 e1 e2 else qhK vs e0 e1 e2 (seqC Cs 0))):=by
 cases h with
 |nil=>
  simp only[Wm] at hN
  subst hN
  rw[if_pos (show seqC ([]:List (Int->Cd)) 0=[] from rfl)]
  have z:=qxp (vs:=vs) (e0:=e0) (e1:=e1) (e2:=e2) (f:=f) (N:=0) (cs:=[])
  rw[show blF 2 3 0 0=[(2,.ptr 2 0),(3,.ptr 3 0),(64,.int 0),(65,.int 0)] from rfl] at z
  have zs:Z qad (.call 169 [.ptr 0 0,.dat (.agg [.lit (.int .i64 7),.lit (.int .i64 0),.lit (.string ⟨#[]⟩),kd f 0 []])] (qec vs e0 e1 e2))=some (.ret (.tup []) (qec vs e0 e1 e2)):=by
   simp only[bl0,qAn] at z
   refine qab (pf:=F169) rfl rfl ?_
   simp[F169,z,qdR,Wa]
  refine qab (pf:=F147) rfl rfl ?_
  simp only[qAn] at zs
  simp[F147,zs,Wa]
 | @cons a b c d C L r Cs M h1 hr=>
  simp only[Wf] at hN
  have hn1:C 0≠[]:=fun e=>by have:=h1.ln 0; have:=h1.pos; rw[e] at *; simp_all
  have hlen:(C 0).length=L:=h1.ln 0
  have z1:=qtM (N:=N) (e0:=e0) (e1:=e1) (e2:=e2) (f:=f) (i:=0) (r:=r) (cs:=a::b::c::d::r) (by omega) hN2 rfl h1 (by omega)
  have z2:=qoq (N:=N) (e0:=e0) (e1:=e1) (e2:=e2) (f:=f) (cs:=a::b::c::d::r) hN2 hr 1 rfl (by omega) (C 0) hn1 (by omega)
  have z:=z1.trans z2
  have e:C 0++seqC Cs (C 0).length=seqC (C::Cs) 0:=by simp[seqC]
  have hne:seqC (C::Cs) 0≠[]:=by rw[<- e]; simp[hn1]
  rw[e] at z
  rw[if_neg hne]
  rw[show blF 2 3 N 0=[(2,.ptr 2 0),(3,.ptr 3 0),(64,.int N),(65,.int 0)] from rfl] at z
  generalize seqC (C::Cs) 0=c2 at *
  have zs:Z qad (.call 169 [.ptr 0 0,.dat (.agg [.lit (.int .i64 7),.lit (.int .i64 0),.lit (.string ⟨#[]⟩),kd f N (a::b::c::d::r)])] (qec vs e0 e1 e2))=some (.ret (.tup []) (qhK vs e0 e1 e2 c2)):=by
   refine qab (pf:=F169) rfl rfl ?_
   simp[F169,z,Wa]
  refine qab (pf:=F147) rfl rfl ?_
  simp[F147,zs,Wa]
theorem qBI(b:Ss)(hf:b.fine)(hi:b.inV vs)(hb:b.fo.size<2^30) : ∃ M,RowT vs b.fo.cells (qew vs b) M/\(qew vs b).length=b.fo.len:=by
 fun_induction Ss.fine b with
 |case1=>exact⟨0,.nil,rfl⟩
 |case2 _ s e r ih=>
  simp only[Ss.fo,qam] at hb
  obtain⟨M,h,hl⟩:=ih hf.2 hi.2 (by omega)
  obtain⟨L,k⟩:=qpv e hf.1.2.1 hi.1.2
  exact⟨_,.cons (qq9 _ hi.1.1 k) h,by simp[qew,Ss.fo,hl]⟩
 |case3 _ s a b r ih=>
  simp only[Ss.fo,qam] at hb
  obtain⟨M,h,hl⟩:=ih hf.2 hi.2 (by omega)
  obtain⟨L,k⟩:=qpv a hf.1.2.1 hi.1.1
  obtain⟨L',k'⟩:=qpv b hf.1.2.2.2.1 hi.1.2
  exact⟨_,.cons (qte _ (Yr _ hf.1.1) k k') h,by simp[qew,Ss.fo,hl]⟩
 |case4 _ a b r ih=>
  simp only[Ss.fo,qam] at hb
  obtain⟨M,h,hl⟩:=ih hf.2 hi.2 (by omega)
  obtain⟨L,k⟩:=qpv a hf.1.1 hi.1.1
  obtain⟨L',k'⟩:=qpv b hf.1.2.2.1 hi.1.2
  exact⟨_,.cons (qra _ k k') h,by simp[qew,Ss.fo,hl]⟩
 |case5 r ih=>
  simp only[Ss.fo,qam] at hb
  obtain⟨M,h,hl⟩:=ih hf hi (by omega)
  exact⟨_,.cons (qwO false) h,by simp[qew,Ss.fo,hl]⟩
 |case6 _ c _ x _ y r ih1 ih2 ih3=>
  simp only[Ss.fo,qam,qcz] at hb
  obtain⟨Mx,hx,hlx⟩:=ih1 hf.2.1 hi.2.1.1 (by omega)
  obtain⟨My,hy,hly⟩:=ih2 hf.2.2.1 hi.2.1.2.1 (by omega)
  obtain⟨M,h,hl⟩:=ih3 hf.2.2.2 hi.2.2 (by omega)
  obtain⟨L,k⟩:=qpv c hf.1.1 hi.1
  have sx:=qbv x.fo
  have sy:=qbv y.fo
  have bx:=qtO hx hlx (by omega)
  have by_:=qtO hy hly (by omega)
  rw[show seqC (qew vs x)=codeS vs x from funext (qh8 x)] at bx
  rw[show seqC (qew vs y)=codeS vs y from funext (qh8 y)] at by_
  exact⟨_,.cons (qBv _ _ _ k (bx _) (by_ _)) h,by simp[qew,Ss.fo,hl]⟩
 |case7 _ c _ x r ih1 ih2=>
  simp only[Ss.fo,qam,qcz] at hb
  obtain⟨Mx,hx,hlx⟩:=ih1 hf.2.1 hi.2.1.1 (by omega)
  obtain⟨M,h,hl⟩:=ih2 hf.2.2 hi.2.2 (by omega)
  obtain⟨L,k⟩:=qpv c hf.1.1 hi.1
  have sx:=qbv x.fo
  have bx:=qtO hx hlx (by omega)
  rw[show seqC (qew vs x)=codeS vs x from funext (qh8 x)] at bx
  exact⟨_,.cons (qtf _ _ k (bx _)) h,by simp[qew,Ss.fo,hl]⟩
 |case8=>exact hf.elim
end
end
section
open F Gr
set_option maxHeartbeats 1000000
def DepIs(c:Cd)(e m:Int):Prop:=(e<0->m=0)/\(0<=e -> ∀ D,CF c e.toNat D->Most c e.toNat D m)
theorem DepIs.unique{c:Cd}{e m m':Int}{D:Nat->Int}(hD:0<=e->CF c e.toNat D)(h:DepIs c e m)(h':DepIs c e m'):m=m':=by
 by_cases h0:e<0
 ·rw[h.1 h0,h'.1 h0]
 ·have:=hD (by omega)
  exact Most.unique (h.2 (by omega) D this) (h'.2 (by omega) D this)
inductive PSt(e0 e1 e2:Int):S->D->Cd->Prop
 |nil:PSt e0 e1 e2 [zP,.cells [.dat (.lit (.slice none 0 0)),.int e0,.int e1,.int e2]] (.lit (.slice none 0 0)) []
 |gr (c:Cd) (h:c≠[]):PSt e0 e1 e2 [zP,.cells [.gsl (icC c) c.length 2 2,.int e0,.int e1,.int e2],.tip (icC c).length] (.sl (icC c) c.length false) c
theorem PSt.code{e0 e1 e2:Int}{σ : S}{d:D}{c:Cd}(h:PSt e0 e1 e2 σ d c):IsCode d c:=by
 cases h with
 |nil=>exact qjO
 |gr=>exact qiQ _ false
end
section
open F Gr
set_option maxHeartbeats 1000000
def codeD:Cd->D
 |[] => .lit (.slice none 0 0)
 |x::c => .sl (icC (x::c)) (x::c).length false
theorem qtI(c:Cd):IsCode (codeD c) c:=by
 cases c with
 |nil=>exact qjO
 |cons x c=>exact qiQ _ false
theorem qtJ{c:Cd}(h:c≠[]):codeD c = .sl (icC c) c.length false:=by
 cases c with
 |nil=>exact absurd rfl h
 |cons x c=>rfl
def qtK(c:Cd)(e0 e1 e2 m0 m1 m2:Int):V:=
 if 400<c.length then .tup [pgD (.lit (.slice none 0 0)) 0 0 0,.int 2]
 else if 16<m0\/16<m1\/16<m2 then .tup [pgD (.lit (.slice none 0 0)) 0 0 0,.int 15]
 else .tup [pgD (codeD c) e0 e1 e2,.int 0]
section
variable{a b c:Hd}
theorem qmc{vs:List ByteArray}(fa:a.fine)(fb:b.fine)(fc:c.fine):(qeS vs a b c).length<=30000:=by
 have key : ∀ h:Hd,h.fine -> ∃ L,L<=8001/\Ln (hdC vs h) L:=fun h f=>by
  cases h with
  |none=>exact⟨0,by omega,fun _=>rfl⟩
  |some g x=>
   obtain⟨n,hn,hn2⟩:=qBm vs x
   have:=f.size
   simp only[Hd.ss] at this
   exact⟨n+1,by omega,qco hn⟩
 obtain⟨la,ka,na⟩:=key a fa
 obtain⟨lb,kb,nb⟩:=key b fb
 obtain⟨lc,kc,nc⟩:=key c fc
 have:=qbO na (qbO nb nc) 0
 unfold qeS
 omega
theorem qpr(h:Hd)(f:h.fine):h.nd.ks.size<=2000:=by
 have:=f.size
 rw[qpk,qti]; exact this
end
end
section
open F Gr
set_option maxHeartbeats 2000000
attribute [local simp] qbb qbG dkey qgh
theorem qqJ {vs:List ByteArray} (b:Ss) (hf:b.fine) (hi:b.inV vs) (hb:b.fo.size<2^30) (f:Bool) : ∃ L,L<=4*b.fo.size/\TrB vs (nd 7 0 ⟨#[]⟩ f b.fo) (codeS vs b) L /\
  ∀ e0 e1 e2:Int,4*L<2^30->Z qad (.call 147 [.ptr 0 0,nd 7 0 ⟨#[]⟩ f b.fo] (qec vs e0 e1 e2))=some (.ret (.tup []) (if codeS vs b 0=[] then qec vs e0 e1 e2 else qhK vs e0 e1 e2 (codeS vs b 0))):=by
 obtain⟨M,h,hl⟩:=qBI b hf hi hb
 have sb:=qbv b.fo
 have k:=qtO h hl (by omega) f
 have k0:=fun e0 e1 e2=>qBH h hl (by omega) f e0 e1 e2
 rw[show seqC (qew vs b)=codeS vs b from funext (qh8 b)] at k k0
 obtain⟨n,hn,hn2⟩:=qBm vs b
 have e:M=n:=by rw[<- k.ln 0,hn 0]
 exact⟨M,by omega,k,k0⟩
abbrev yFr(vs:List ByteArray)(i:Nat):Fr:=[(1,.ptr 0 0),(2,.ptr 1 0),(4,.ptr 2 0),(17,.dat (qof vs)),(18,.int vs.length),(19,.int i)]
abbrev ySt(R:Ob)(l:List ByteArray):S:=[R,zP,qoz 0 0 0 3,.map (mapM 0 l)]
theorem qBg(x y z:Nd)(vs l:List ByteArray):Z qad (.loop 0 F131l0 (yFr vs vs.length) (ySt (qgO x y z) l))=some (.out (.exit 0) (yFr vs vs.length++[(20,.bool false)]) (ySt (qgO x y z) l)):=by
 rw[qaa]
 simp[qac,qju,Wa]
theorem qyX(x y z:Nd){vs:List ByteArray}(hv:vs.length<2^40)(hn:vs.Nodup)(i:Nat)(hi:i<vs.length):Z qad (.loop 0 F131l0 (yFr vs i) (ySt (qgO x y z) (vs.take i)))=Z qad (.loop 0 F131l0 (yFr vs (i+1)) (ySt (qgO x y z) (vs.take (i+1)))):=by
 have hc:=qh5 vs i hi
 have ha:=qxm vs i hi
 have w1:=qai ((i:Int)+1) (by omega)
 have hi':(i:Int)<vs.length:=by omega
 have hnm:vs[i]∉vs.take i:=by
  have h2:=hn
  rw[<- List.take_append_drop i vs,Wy hi] at h2
  rw[List.nodup_append] at h2
  exact fun hm=>h2.2.2 _ hm _ (WQ ..) rfl
 have hs:=qkL vs[i] (vs.take i) 0 hnm
 rw[show ((0+(vs.take i).length:Nat))=i by simp; omega,show vs.take i++[vs[i]]=vs.take (i+1) by rw[WJ hi]] at hs
 conv=>lhs; rw[qaa]
 simp[qac,qju,hi',hc,ha,hs,w1,qd6,yFr,ySt,qgO,zP,Nd.d,Wa]
theorem quc(x y z:Nd){vs:List ByteArray}(hv:vs.length<2^40)(hn:vs.Nodup) : ∀ (n i:Nat),i+n=vs.length->Z qad (.loop 0 F131l0 (yFr vs i) (ySt (qgO x y z) (vs.take i)))=some (.out (.exit 0) (yFr vs vs.length++[(20,.bool false)]) (ySt (qgO x y z) vs))
 |0,i,h=>by
  obtain rfl:i=vs.length:=by omega
  rw[Yn]
  exact qBg x y z vs vs
 |n+1,i,h=>by
  rw[qyX x y z hv hn i (by omega)]
  exact quc x y z hv hn n (i+1) (by omega)
abbrev jFr(R:D)(i:Int):Fr:=[(2,.ptr 0 0),(4,.ptr 1 0),(33,.dat R),(34,.int i)]
inductive HSt(vs:List ByteArray)(e0 e1 e2:Int):S->Cd->Prop
 |nil:HSt vs e0 e1 e2 [zP,qoz e0 e1 e2 2,mpo vs] []
 |gr (c:Cd) (h:c≠[]):HSt vs e0 e1 e2 [zP,cob e0 e1 e2 2 c.length 3,.vec (icV c),mpo vs] c
section
variable{vs:List ByteArray}{e0 e1 e2:Int}{σ : S}{c:Cd}{u v w:Nd}
theorem qBh{R:D}(h:HSt vs e0 e1 e2 σ c):Z qad (.loop 0 F131l1 (jFr R 3) σ)=some (.out (.exit 2) (jFr R 3++[(35,.bool false)]) σ):=by
 rw[qaa]
 cases h<;>simp[qac,qa4,Wa]
theorem qwb(h:HSt vs e0 e1 e2 σ c) : ∃ σ',HSt vs (-1) e1 e2 σ' c/\Z qad (.loop 0 F131l1 (jFr (ru Hd.none.nd v w) 0) σ)=Z qad (.loop 0 F131l1 (jFr (ru Hd.none.nd v w) 1) σ'):=by
 have w1:=qai 1 (by omega)
 cases h with
 |nil=>
  refine⟨_,.nil,?_⟩
  conv=>lhs; rw[qaa]
  simp[qac,qa4,w1,Hd.k,Nd.d,jFr,ru,Wa]
  exact qag (by simp[Wa])
 |gr _ g=>
  refine⟨_,.gr _ g,?_⟩
  conv=>lhs; rw[qaa]
  simp[qac,qa4,w1,Hd.k,Nd.d,jFr,ru,Wa]
  exact qag (by simp[Wa])
theorem qwc {f:Bool} {b:Ss} (h:HSt vs e0 e1 e2 σ c) {L:Nat} (hb:TrB vs (nd 7 0 ⟨#[]⟩ f b.fo) (codeS vs b) L) (h0 : ∀ e0 e1 e2:Int,4*L<2^30->Z qad (.call 147 [.ptr 0 0,nd 7 0 ⟨#[]⟩ f b.fo] (qec vs e0 e1 e2))=some (.ret (.tup []) (if codeS vs b 0=[] then qec vs e0 e1 e2 else qhK vs e0 e1 e2 (codeS vs b 0))))
  (hl:c.length+4*L+10<2^30) : ∃ σ',HSt vs c.length e1 e2 σ' (c++snC (codeS vs b) (21,0) c.length)/\Z qad (.loop 0 F131l1 (jFr (ru (Hd.some f b).nd v w) 0) σ)=Z qad (.loop 0 F131l1 (jFr (ru (Hd.some f b).nd v w) 1) σ'):=by
 have w1:=qai 1 (by omega)
 have lc:=hb.ln c.length
 have hx:c++snC (codeS vs b) (21,0) c.length=(c++codeS vs b c.length)++[((21:Int),(0:Int))]:=by simp[snC]
 refine⟨_,.gr _ (by rw[hx]; simp),?_⟩
 rw[hx]
 cases h with
 |nil=>
  rw[show (([]:Cd).length:Int)=0 from rfl] at *
  rw[Wc]
  by_cases hz:codeS vs b 0=[]
  ·have z1:=h0 0 e1 e2 (by omega)
   rw[if_pos hz] at z1
   have z2:=qll (vs:=vs) (e0:=0) (e1:=e1) (e2:=e2) 21 0
   rw[hz,Wc]
   generalize [((21:Int),(0:Int))]=c5 at *
   conv=>lhs; rw[qaa]
   simp[qac,qa4,qdR,w1,Hd.k,Hd.f,Hd.ks,Nd.d,jFr,ru,z1,z2,qbN,qaF,Wa]
   exact qag (by simp[Wa])
  ·have z1:=h0 0 e1 e2 (by omega)
   rw[if_neg hz] at z1
   have z2:=qb8 (vs:=vs) (e0:=0) (e1:=e1) (e2:=e2) (codeS vs b 0) (by omega) 21 0
   generalize codeS vs b 0++[((21:Int),(0:Int))]=c5 at *
   generalize codeS vs b 0=c4 at *
   conv=>lhs; rw[qaa]
   simp[qac,qa4,qdR,w1,Hd.k,Hd.f,Hd.ks,Nd.d,jFr,ru,z1,z2,qbN,qaF,Wa]
   try exact qag (by simp[Wa])
 |gr _ g=>
  have z1:=hb.one c.length e1 e2 c g (by omega)
  have z2:=qb8 (vs:=vs) (e0:=c.length) (e1:=e1) (e2:=e2) (c++codeS vs b c.length) (by rw[Wd]; omega) 21 0
  generalize c++codeS vs b c.length++[((21:Int),(0:Int))]=c5 at *
  generalize c++codeS vs b c.length=c4 at *
  conv=>lhs; rw[qaa]
  simp[qac,qa4,qcO,w1,Hd.k,Hd.f,Hd.ks,Nd.d,jFr,ru,z1,z2,qbN,qaF,Wa]
  try exact qag (by simp[Wa])
theorem qwd(h:HSt vs e0 e1 e2 σ c) : ∃ σ',HSt vs e0 (-1) e2 σ' c/\Z qad (.loop 0 F131l1 (jFr (ru u Hd.none.nd w) 1) σ)=Z qad (.loop 0 F131l1 (jFr (ru u Hd.none.nd w) 2) σ'):=by
 have w1:=qai 2 (by omega)
 cases h with
 |nil=>
  refine⟨_,.nil,?_⟩
  conv=>lhs; rw[qaa]
  simp[qac,qa4,w1,Hd.k,Nd.d,jFr,ru,Wa]
  exact qag (by simp[Wa])
 |gr _ g=>
  refine⟨_,.gr _ g,?_⟩
  conv=>lhs; rw[qaa]
  simp[qac,qa4,w1,Hd.k,Nd.d,jFr,ru,Wa]
  exact qag (by simp[Wa])
theorem qwe {f:Bool} {b:Ss} (h:HSt vs e0 e1 e2 σ c) {L:Nat} (hb:TrB vs (nd 7 0 ⟨#[]⟩ f b.fo) (codeS vs b) L) (h0 : ∀ e0 e1 e2:Int,4*L<2^30->Z qad (.call 147 [.ptr 0 0,nd 7 0 ⟨#[]⟩ f b.fo] (qec vs e0 e1 e2))=some (.ret (.tup []) (if codeS vs b 0=[] then qec vs e0 e1 e2 else qhK vs e0 e1 e2 (codeS vs b 0))))
  (hl:c.length+4*L+10<2^30) : ∃ σ',HSt vs e0 c.length e2 σ' (c++snC (codeS vs b) (21,0) c.length)/\Z qad (.loop 0 F131l1 (jFr (ru u (Hd.some f b).nd w) 1) σ)=Z qad (.loop 0 F131l1 (jFr (ru u (Hd.some f b).nd w) 2) σ'):=by
 have w1:=qai 2 (by omega)
 have lc:=hb.ln c.length
 have hx:c++snC (codeS vs b) (21,0) c.length=(c++codeS vs b c.length)++[((21:Int),(0:Int))]:=by simp[snC]
 refine⟨_,.gr _ (by rw[hx]; simp),?_⟩
 rw[hx]
 cases h with
 |nil=>
  rw[show (([]:Cd).length:Int)=0 from rfl] at *
  rw[Wc]
  by_cases hz:codeS vs b 0=[]
  ·have z1:=h0 e0 0 e2 (by omega)
   rw[if_pos hz] at z1
   have z2:=qll (vs:=vs) (e0:=e0) (e1:=0) (e2:=e2) 21 0
   rw[hz,Wc]
   generalize [((21:Int),(0:Int))]=c5 at *
   conv=>lhs; rw[qaa]
   simp[qac,qa4,qdR,w1,Hd.k,Hd.f,Hd.ks,Nd.d,jFr,ru,z1,z2,qbN,qaF,Wa]
   exact qag (by simp[Wa])
  ·have z1:=h0 e0 0 e2 (by omega)
   rw[if_neg hz] at z1
   have z2:=qb8 (vs:=vs) (e0:=e0) (e1:=0) (e2:=e2) (codeS vs b 0) (by omega) 21 0
   generalize codeS vs b 0++[((21:Int),(0:Int))]=c5 at *
   generalize codeS vs b 0=c4 at *
   conv=>lhs; rw[qaa]
   simp[qac,qa4,qdR,w1,Hd.k,Hd.f,Hd.ks,Nd.d,jFr,ru,z1,z2,qbN,qaF,Wa]
   try exact qag (by simp[Wa])
 |gr _ g=>
  have z1:=hb.one e0 c.length e2 c g (by omega)
  have z2:=qb8 (vs:=vs) (e0:=e0) (e1:=c.length) (e2:=e2) (c++codeS vs b c.length) (by rw[Wd]; omega) 21 0
  generalize c++codeS vs b c.length++[((21:Int),(0:Int))]=c5 at *
  generalize c++codeS vs b c.length=c4 at *
  conv=>lhs; rw[qaa]
  simp[qac,qa4,qcO,w1,Hd.k,Hd.f,Hd.ks,Nd.d,jFr,ru,z1,z2,qbN,qaF,Wa]
  try exact qag (by simp[Wa])
theorem qwf(h:HSt vs e0 e1 e2 σ c) : ∃ σ',HSt vs e0 e1 (-1) σ' c/\Z qad (.loop 0 F131l1 (jFr (ru u v Hd.none.nd) 2) σ)=Z qad (.loop 0 F131l1 (jFr (ru u v Hd.none.nd) 3) σ'):=by
 have w1:=qai 3 (by omega)
 cases h with
 |nil=>
  refine⟨_,.nil,?_⟩
  conv=>lhs; rw[qaa]
  simp[qac,qa4,w1,Hd.k,Nd.d,jFr,ru,Wa]
  exact qag (by simp[Wa])
 |gr _ g=>
  refine⟨_,.gr _ g,?_⟩
  conv=>lhs; rw[qaa]
  simp[qac,qa4,w1,Hd.k,Nd.d,jFr,ru,Wa]
  exact qag (by simp[Wa])
theorem qwg {f:Bool} {b:Ss} (h:HSt vs e0 e1 e2 σ c) {L:Nat} (hb:TrB vs (nd 7 0 ⟨#[]⟩ f b.fo) (codeS vs b) L) (h0 : ∀ e0 e1 e2:Int,4*L<2^30->Z qad (.call 147 [.ptr 0 0,nd 7 0 ⟨#[]⟩ f b.fo] (qec vs e0 e1 e2))=some (.ret (.tup []) (if codeS vs b 0=[] then qec vs e0 e1 e2 else qhK vs e0 e1 e2 (codeS vs b 0))))
  (hl:c.length+4*L+10<2^30) : ∃ σ',HSt vs e0 e1 c.length σ' (c++snC (codeS vs b) (21,0) c.length)/\Z qad (.loop 0 F131l1 (jFr (ru u v (Hd.some f b).nd) 2) σ)=Z qad (.loop 0 F131l1 (jFr (ru u v (Hd.some f b).nd) 3) σ'):=by
 have w1:=qai 3 (by omega)
 have lc:=hb.ln c.length
 have hx:c++snC (codeS vs b) (21,0) c.length=(c++codeS vs b c.length)++[((21:Int),(0:Int))]:=by simp[snC]
 refine⟨_,.gr _ (by rw[hx]; simp),?_⟩
 rw[hx]
 cases h with
 |nil=>
  rw[show (([]:Cd).length:Int)=0 from rfl] at *
  rw[Wc]
  by_cases hz:codeS vs b 0=[]
  ·have z1:=h0 e0 e1 0 (by omega)
   rw[if_pos hz] at z1
   have z2:=qll (vs:=vs) (e0:=e0) (e1:=e1) (e2:=0) 21 0
   rw[hz,Wc]
   generalize [((21:Int),(0:Int))]=c5 at *
   conv=>lhs; rw[qaa]
   simp[qac,qa4,qdR,w1,Hd.k,Hd.f,Hd.ks,Nd.d,jFr,ru,z1,z2,qbN,qaF,Wa]
   exact qag (by simp[Wa])
  ·have z1:=h0 e0 e1 0 (by omega)
   rw[if_neg hz] at z1
   have z2:=qb8 (vs:=vs) (e0:=e0) (e1:=e1) (e2:=0) (codeS vs b 0) (by omega) 21 0
   generalize codeS vs b 0++[((21:Int),(0:Int))]=c5 at *
   generalize codeS vs b 0=c4 at *
   conv=>lhs; rw[qaa]
   simp[qac,qa4,qdR,w1,Hd.k,Hd.f,Hd.ks,Nd.d,jFr,ru,z1,z2,qbN,qaF,Wa]
   try exact qag (by simp[Wa])
 |gr _ g=>
  have z1:=hb.one e0 e1 c.length c g (by omega)
  have z2:=qb8 (vs:=vs) (e0:=e0) (e1:=e1) (e2:=c.length) (c++codeS vs b c.length) (by rw[Wd]; omega) 21 0
  generalize c++codeS vs b c.length++[((21:Int),(0:Int))]=c5 at *
  generalize c++codeS vs b c.length=c4 at *
  conv=>lhs; rw[qaa]
  simp[qac,qa4,qcO,w1,Hd.k,Hd.f,Hd.ks,Nd.d,jFr,ru,z1,z2,qbN,qaF,Wa]
  try exact qag (by simp[Wa])
end
end
section
open F Gr
set_option maxHeartbeats 2000000
attribute [local simp] qbb qbG dkey qgh
abbrev kFr(e0 e1 e2 i:Int):Fr:=[(2,.ptr 0 0),(9,.ptr 1 0),(86,.dat (.agg [.lit (.int .i64 e0),.lit (.int .i64 e1),.lit (.int .i64 e2)])),(87,.int i)]
inductive KSt(e0 e1 e2:Int):S->Cd->Prop
 |nil (h:e0<0/\e1<0/\e2<0):KSt e0 e1 e2 [zP,.cells [.dat (.lit (.slice none 0 0)),.int e0,.int e1,.int e2]] []
 |vec (c:Cd) (h:c≠[]):KSt e0 e1 e2 [zP,.cells [.own 2 c.length 2,.int e0,.int e1,.int e2],.vec (icV c)] c
 |froz (c:Cd) (h:c≠[]):KSt e0 e1 e2 [zP,.cells [.own 2 c.length 2,.int e0,.int e1,.int e2],.froz (icC c)] c
section
variable{e0 e1 e2:Int}{σ : S}{c:Cd}
theorem qBc(h:KSt e0 e1 e2 σ c):Z qad (.loop 0 F131l2 (kFr e0 e1 e2 3) σ)=some (.out (.exit 4) (kFr e0 e1 e2 3++[(88,.bool false)]) σ):=by
 rw[qaa]
 cases h<;>simp[qac,qa5,Wa]
def qg5(c:Cd)(e0 e1 e2 e:Int)(sf:Bool):Prop := ∃ a:D,Z qad (.call 139 [pgD (.sl (icC c) c.length false) e0 e1 e2,.int e] [])=some (.ret (.dat a) [])/\Z qad (.call 140 [.dat a] [])=some (.ret (.bool sf) [])
theorem qyN(h:KSt e0 e1 e2 σ c)(hn:e0<0):Z qad (.loop 0 F131l2 (kFr e0 e1 e2 0) σ)=Z qad (.loop 0 F131l2 (kFr e0 e1 e2 1) σ):=by
 have w1:=qai 1 (by omega)
 have hn' : ¬ 0<=e0:=by omega
 conv=>lhs; rw[qaa]
 cases h<;>simp[qac,qa5,w1,hn',qaj,Wa]
theorem qyO(h:KSt e0 e1 e2 σ c)(hn:0<=e0){sf:Bool}(hs:qg5 c e0 e1 e2 e0 sf) : ∃ σ',KSt e0 e1 e2 σ' c/\Z qad (.loop 0 F131l2 (kFr e0 e1 e2 0) σ)=if sf then Z qad (.loop 0 F131l2 (kFr e0 e1 e2 1) σ') else some (.out .ret [(2,.ptr 0 0),(3,.int 15)] σ'):=by
 have w1:=qai 1 (by omega)
 obtain⟨a,z1,z2⟩:=hs
 simp only[pgD] at z1
 have hl:=qfW c
 have hd:=qko c
 have hl2:=qfC c
 cases h with
 |nil h=>omega
 |vec _ g=>
  refine⟨_,.froz _ g,?_⟩
  rw[qaa]
  cases sf
  ·simp[qac,qa5,w1,hn,z1,z2,hl,hd,qaj,Wa]
  ·simp[qac,qa5,w1,hn,z1,z2,hl,hd,qaj,Wa]
 |froz _ g=>
  refine⟨_,.froz _ g,?_⟩
  rw[qaa]
  cases sf
  ·simp[qac,qa5,w1,hn,z1,z2,hl,hd,qaj,Wa]
  ·simp[qac,qa5,w1,hn,z1,z2,hl,hd,qaj,Wa]
theorem qv4(h:KSt e0 e1 e2 σ c){sf:Bool}(hs:0<=e0->qg5 c e0 e1 e2 e0 sf)(hs2:e0<0->sf=true) : ∃ σ',KSt e0 e1 e2 σ' c/\Z qad (.loop 0 F131l2 (kFr e0 e1 e2 0) σ)=if sf then Z qad (.loop 0 F131l2 (kFr e0 e1 e2 1) σ') else some (.out .ret [(2,.ptr 0 0),(3,.int 15)] σ'):=by
 by_cases hn:e0<0
 ·exact⟨σ,h,by rw[hs2 hn,qyN h hn]; rfl⟩
 ·exact qyO h (by omega) (hs (by omega))
theorem qyP(h:KSt e0 e1 e2 σ c)(hn:e1<0):Z qad (.loop 0 F131l2 (kFr e0 e1 e2 1) σ)=Z qad (.loop 0 F131l2 (kFr e0 e1 e2 2) σ):=by
 have w1:=qai 2 (by omega)
 have hn' : ¬ 0<=e1:=by omega
 conv=>lhs; rw[qaa]
 cases h<;>simp[qac,qa5,w1,hn',qaj,Wa]
theorem qyQ(h:KSt e0 e1 e2 σ c)(hn:0<=e1){sf:Bool}(hs:qg5 c e0 e1 e2 e1 sf) : ∃ σ',KSt e0 e1 e2 σ' c/\Z qad (.loop 0 F131l2 (kFr e0 e1 e2 1) σ)=if sf then Z qad (.loop 0 F131l2 (kFr e0 e1 e2 2) σ') else some (.out .ret [(2,.ptr 0 0),(3,.int 15)] σ'):=by
 have w1:=qai 2 (by omega)
 obtain⟨a,z1,z2⟩:=hs
 simp only[pgD] at z1
 have hl:=qfW c
 have hd:=qko c
 have hl2:=qfC c
 cases h with
 |nil h=>omega
 |vec _ g=>
  refine⟨_,.froz _ g,?_⟩
  rw[qaa]
  cases sf
  ·simp[qac,qa5,w1,hn,z1,z2,hl,hd,qaj,Wa]
  ·simp[qac,qa5,w1,hn,z1,z2,hl,hd,qaj,Wa]
 |froz _ g=>
  refine⟨_,.froz _ g,?_⟩
  rw[qaa]
  cases sf
  ·simp[qac,qa5,w1,hn,z1,z2,hl,hd,qaj,Wa]
  ·simp[qac,qa5,w1,hn,z1,z2,hl,hd,qaj,Wa]
theorem qv5(h:KSt e0 e1 e2 σ c){sf:Bool}(hs:0<=e1->qg5 c e0 e1 e2 e1 sf)(hs2:e1<0->sf=true) : ∃ σ',KSt e0 e1 e2 σ' c/\Z qad (.loop 0 F131l2 (kFr e0 e1 e2 1) σ)=if sf then Z qad (.loop 0 F131l2 (kFr e0 e1 e2 2) σ') else some (.out .ret [(2,.ptr 0 0),(3,.int 15)] σ'):=by
 by_cases hn:e1<0
 ·exact⟨σ,h,by rw[hs2 hn,qyP h hn]; rfl⟩
 ·exact qyQ h (by omega) (hs (by omega))
theorem qyR(h:KSt e0 e1 e2 σ c)(hn:e2<0):Z qad (.loop 0 F131l2 (kFr e0 e1 e2 2) σ)=Z qad (.loop 0 F131l2 (kFr e0 e1 e2 3) σ):=by
 have w1:=qai 3 (by omega)
 have hn' : ¬ 0<=e2:=by omega
 conv=>lhs; rw[qaa]
 cases h<;>simp[qac,qa5,w1,hn',qaj,Wa]
theorem qyS(h:KSt e0 e1 e2 σ c)(hn:0<=e2){sf:Bool}(hs:qg5 c e0 e1 e2 e2 sf) : ∃ σ',KSt e0 e1 e2 σ' c/\Z qad (.loop 0 F131l2 (kFr e0 e1 e2 2) σ)=if sf then Z qad (.loop 0 F131l2 (kFr e0 e1 e2 3) σ') else some (.out .ret [(2,.ptr 0 0),(3,.int 15)] σ'):=by
 have w1:=qai 3 (by omega)
 obtain⟨a,z1,z2⟩:=hs
 simp only[pgD] at z1
 have hl:=qfW c
 have hd:=qko c
 have hl2:=qfC c
 cases h with
 |nil h=>omega
 |vec _ g=>
  refine⟨_,.froz _ g,?_⟩
  rw[qaa]
  cases sf
  ·simp[qac,qa5,w1,hn,z1,z2,hl,hd,qaj,Wa]
  ·simp[qac,qa5,w1,hn,z1,z2,hl,hd,qaj,Wa]
 |froz _ g=>
  refine⟨_,.froz _ g,?_⟩
  rw[qaa]
  cases sf
  ·simp[qac,qa5,w1,hn,z1,z2,hl,hd,qaj,Wa]
  ·simp[qac,qa5,w1,hn,z1,z2,hl,hd,qaj,Wa]
theorem qv6(h:KSt e0 e1 e2 σ c){sf:Bool}(hs:0<=e2->qg5 c e0 e1 e2 e2 sf)(hs2:e2<0->sf=true) : ∃ σ',KSt e0 e1 e2 σ' c/\Z qad (.loop 0 F131l2 (kFr e0 e1 e2 2) σ)=if sf then Z qad (.loop 0 F131l2 (kFr e0 e1 e2 3) σ') else some (.out .ret [(2,.ptr 0 0),(3,.int 15)] σ'):=by
 by_cases hn:e2<0
 ·exact⟨σ,h,by rw[hs2 hn,qyR h hn]; rfl⟩
 ·exact qyS h (by omega) (hs (by omega))
theorem qyT (h:KSt e0 e1 e2 σ c) {s0 s1 s2:Bool} (h0:0<=e0->qg5 c e0 e1 e2 e0 s0) (g0:e0<0->s0=true) (h1:0<=e1->qg5 c e0 e1 e2 e1 s1) (g1:e1<0->s1=true) (h2:0<=e2->qg5 c e0 e1 e2 e2 s2) (g2:e2<0->s2=true) :
  ∃ σ',KSt e0 e1 e2 σ' c/\Z qad (.loop 0 F131l2 (kFr e0 e1 e2 0) σ)=if s0&&(s1&&s2) then some (.out (.exit 4) (kFr e0 e1 e2 3++[(88,.bool false)]) σ') else some (.out .ret [(2,.ptr 0 0),(3,.int 15)] σ'):=by
 obtain⟨σ0,k0,z0⟩:=qv4 h h0 g0
 cases s0 with
 |false=>exact⟨σ0,k0,z0⟩
 |true=>
  obtain⟨σ1,k1,z1⟩:=qv5 k0 h1 g1
  cases s1 with
  |false=>exact⟨σ1,k1,z0.trans z1⟩
  |true=>
   obtain⟨σ2,k2,z2⟩:=qv6 k1 h2 g2
   cases s2 with
   |false=>exact⟨σ2,k2,z0.trans (z1.trans z2)⟩
   |true=>exact⟨σ2,k2,z0.trans (z1.trans (z2.trans (qBc k2)))⟩
end
section
variable{vs:List ByteArray}{a b c:Hd}
theorem qBd (fa:a.fine) (fb:b.fine) (fc:c.fine) (ia:a.ss.inV vs) (ib:b.ss.inV vs) (ic:c.ss.inV vs) :
  ∃ σ,HSt vs (qjd a) (qi9 vs a b) (qje vs a b c) σ (qeS vs a b c) /\
   Z qad (.loop 0 F131l1 (jFr (ru a.nd b.nd c.nd) 0) [zP,qoz 0 0 0 2,mpo vs])=some (.out (.exit 2) (jFr (ru a.nd b.nd c.nd) 3++[(35,.bool false)]) σ):=by
 have key : ∀ h:Hd,h.fine -> ∃ L,L<=8001/\Ln (hdC vs h) L:=fun h f=>by
  cases h with
  |none=>exact⟨0,by omega,fun _=>rfl⟩
  |some g x=>
   obtain⟨n,hn,hn2⟩:=qBm vs x
   have:=f.size
   simp only[Hd.ss] at this
   exact⟨n+1,by omega,qco hn⟩
 obtain⟨la,ka,na⟩:=key a fa
 obtain⟨lb,kb,nb⟩:=key b fb
 have s0 : ∃ σ,HSt vs (qjd a) 0 0 σ (hdC vs a 0)/\Z qad (.loop 0 F131l1 (jFr (ru a.nd b.nd c.nd) 0) [zP,qoz 0 0 0 2,mpo vs])=Z qad (.loop 0 F131l1 (jFr (ru a.nd b.nd c.nd) 1) σ):=by
  cases a with
  |none=>exact qwb .nil
  |some f x=>
   have:=fa.size
   simp only[Hd.ss] at this ia
   obtain⟨L,hL,h,h0⟩:=qqJ x fa.fine ia (by omega) f
   obtain⟨σ,h1,h2⟩:=qwc (v:=b.nd) (w:=c.nd) (e0:=0) (e1:=0) (e2:=0) .nil h h0 (by simp; omega)
   exact⟨σ,by simpa [qjd,qmj,hdC] using h1,h2⟩
 obtain⟨σ0,c0,z0⟩:=s0
 have l0:=na 0
 have s1 : ∃ σ,HSt vs (qjd a) (qi9 vs a b) 0 σ (hdC vs a 0++hdC vs b (hdC vs a 0).length)/\Z qad (.loop 0 F131l1 (jFr (ru a.nd b.nd c.nd) 1) σ0)=Z qad (.loop 0 F131l1 (jFr (ru a.nd b.nd c.nd) 2) σ):=by
  cases b with
  |none=>
   obtain⟨σ,h1,h2⟩:=qwd (u:=a.nd) (w:=c.nd) c0
   exact⟨σ,by simpa [qi9,qmj,hdC] using h1,h2⟩
  |some f x=>
   have:=fb.size
   simp only[Hd.ss] at this ib
   obtain⟨L,hL,h,h0⟩:=qqJ x fb.fine ib (by omega) f
   obtain⟨σ,h1,h2⟩:=qwe (u:=a.nd) (w:=c.nd) c0 h h0 (by omega)
   exact⟨σ,by simpa [qi9,qmj,hdC] using h1,h2⟩
 obtain⟨σ1,c1,z1⟩:=s1
 have e1:hdC vs a 0++hdC vs b (hdC vs a 0).length=sq (hdC vs a) (hdC vs b) 0:=by simp[sq]
 rw[e1] at c1
 have l1:(sq (hdC vs a) (hdC vs b) 0).length=la+lb:=qbO na nb 0
 have s2 : ∃ σ,HSt vs (qjd a) (qi9 vs a b) (qje vs a b c) σ (sq (hdC vs a) (hdC vs b) 0++hdC vs c (sq (hdC vs a) (hdC vs b) 0).length)/\Z qad (.loop 0 F131l1 (jFr (ru a.nd b.nd c.nd) 2) σ1)=Z qad (.loop 0 F131l1 (jFr (ru a.nd b.nd c.nd) 3) σ):=by
  cases c with
  |none=>
   obtain⟨σ,h1,h2⟩:=qwf (u:=a.nd) (v:=b.nd) c1
   exact⟨σ,by simpa [qje,qmj,hdC] using h1,h2⟩
  |some f x=>
   have:=fc.size
   simp only[Hd.ss] at this ic
   obtain⟨L,hL,h,h0⟩:=qqJ x fc.fine ic (by omega) f
   obtain⟨σ,h1,h2⟩:=qwg (u:=a.nd) (v:=b.nd) c1 h h0 (by omega)
   exact⟨σ,by simpa [qje,qmj,hdC] using h1,h2⟩
 obtain⟨σ2,c2,z2⟩:=s2
 have e2:sq (hdC vs a) (hdC vs b) 0++hdC vs c (sq (hdC vs a) (hdC vs b) 0).length=qeS vs a b c:=by
  unfold qeS
  simp only[sq,Wj,Wd]
  rw[show ((((hdC vs a 0).length+(hdC vs b (0+(hdC vs a 0).length)).length:Nat)):Int)=0+(hdC vs a 0).length+(hdC vs b (0+(hdC vs a 0).length)).length by omega]
 rw[e2] at c2
 exact⟨σ2,c2,z0.trans (z1.trans (z2.trans (qBh c2)))⟩
theorem qmO{C:Int->Cd}{n:Nat}{D:Nat->Int}(g:Hg C n D)(hl:n<2^27)(e0 e1 e2:Int){e m:Int}(h0:0<=e)(h1:e<n)(hD:D e.toNat=0)(hm:DepIs (C 0) e m):qg5 (C 0) e0 e1 e2 e (decide (m<=16)):=by
 have hn:=g.ln 0
 have hok:=g.okC
 have hf:=qnv hok
 have hops : ∀ i,i<(C 0).length->1<=opA (C 0) i/\opA (C 0) i<=21:=fun i hi=>(qqb (qkw _ _ hok i (by omega) (by omega))).1
 obtain⟨fl,br,dp,r1,r2⟩:=qtF (e0:=e0) (e1:=e1) (e2:=e2) (qiQ (C 0) false) hf hops (by omega) (e:=e.toNat) (by omega)
 rw[show ((e.toNat:Nat):Int)=e by omega] at r2
 have hcf:=g.cf (e:=e.toNat) (by omega) hD
 have hbr:br=false:=r1.brk.2 ⟨D,hcf⟩
 have hdp:dp=m:=Most.unique (r1.most D hcf) (hm.2 h0 D hcf)
 refine⟨_,r2,?_⟩
 have:=qoo fl br dp
 rw[hbr,hdp] at this
 rw[hbr,hdp]
 simpa using this
end
end
section
open F Gr
set_option maxHeartbeats 2000000
attribute [local simp] qbb qbG dkey qgh
section
variable{a b c:Hd}
theorem qmK:(rvars a.nd b.nd c.nd).Nodup:=qhy _ _ (by simp)
theorem qqx (fa:a.fine) (fb:b.fine) (fc:c.fine) {m0 m1 m2:Int} (d0:DepIs (qeS (rvars a.nd b.nd c.nd) a b c) (qjd a) m0) (d1:DepIs (qeS (rvars a.nd b.nd c.nd) a b c) (qi9 (rvars a.nd b.nd c.nd) a b) m1) (d2:DepIs (qeS (rvars a.nd b.nd c.nd) a b c) (qje (rvars a.nd b.nd c.nd) a b c) m2) :
  Z qad (.call 131 [.dat (ru a.nd b.nd c.nd)] [])=some (.ret (qtK (qeS (rvars a.nd b.nd c.nd) a b c) (qjd a) (qi9 (rvars a.nd b.nd c.nd) a b) (qje (rvars a.nd b.nd c.nd) a b c) m0 m1 m2) []):=by
 have l4:=qjE fa.fine fb.fine fc.fine
 have sa:=qpr a fa
 have sb:=qpr b fb
 have sc:=qpr c fc
 have zv:=qhJ qgI (qi4 (a:=a.nd) (b:=b.nd) (c:=c.nd) (by omega) (by omega) (by omega))
 obtain⟨ia,ib,ic⟩:=qnu (a:=a) (b:=b) (c:=c)
 obtain⟨n,D,g,p0,p1,p2⟩:=qlM (vs:=rvars a.nd b.nd c.nd) (by omega) fa.fine fb.fine fc.fine ia ib ic
 obtain⟨σ,hst,hloop⟩:=qBd (vs:=rvars a.nd b.nd c.nd) fa fb fc ia ib ic
 have hlen:=qmc (vs:=rvars a.nd b.nd c.nd) fa fb fc
 have hn:(qeS (rvars a.nd b.nd c.nd) a b c).length=n:=g.ln 0
 have hvl:=quc a.nd b.nd c.nd (vs:=rvars a.nd b.nd c.nd) (by omega) qmK (rvars a.nd b.nd c.nd).length 0 (by omega)
 rw[List.take_zero] at hvl
 have q0:0<=qjd a->qg5 (qeS (rvars a.nd b.nd c.nd) a b c) (qjd a) (qi9 (rvars a.nd b.nd c.nd) a b) (qje (rvars a.nd b.nd c.nd) a b c) (qjd a) (decide (m0<=16)):=fun h=>by
  rcases p0 with p|⟨x,y,z⟩
  ·omega
  ·exact qmO g (by omega) _ _ _ x y z d0
 have q1:0<=qi9 (rvars a.nd b.nd c.nd) a b->qg5 (qeS (rvars a.nd b.nd c.nd) a b c) (qjd a) (qi9 (rvars a.nd b.nd c.nd) a b) (qje (rvars a.nd b.nd c.nd) a b c) (qi9 (rvars a.nd b.nd c.nd) a b) (decide (m1<=16)):=fun h=>by
  rcases p1 with p|⟨x,y,z⟩
  ·omega
  ·exact qmO g (by omega) _ _ _ x y z d1
 have q2:0<=qje (rvars a.nd b.nd c.nd) a b c->qg5 (qeS (rvars a.nd b.nd c.nd) a b c) (qjd a) (qi9 (rvars a.nd b.nd c.nd) a b) (qje (rvars a.nd b.nd c.nd) a b c) (qje (rvars a.nd b.nd c.nd) a b c) (decide (m2<=16)):=fun h=>by
  rcases p2 with p|⟨x,y,z⟩
  ·omega
  ·exact qmO g (by omega) _ _ _ x y z d2
 have w0:qjd a<0->decide (m0<=16)=true:=fun h=>by rw[d0.1 h]; rfl
 have w1:qi9 (rvars a.nd b.nd c.nd) a b<0->decide (m1<=16)=true:=fun h=>by rw[d1.1 h]; rfl
 have w2:qje (rvars a.nd b.nd c.nd) a b c<0->decide (m2<=16)=true:=fun h=>by rw[d2.1 h]; rfl
 clear d0 d1 d2 g
 generalize rvars a.nd b.nd c.nd=vs at *
 generalize hC:qeS vs a b c=C at *
 generalize hE0:qjd a=e0 at *
 generalize hE1:qi9 vs a b=e1 at *
 generalize hE2:qje vs a b c=e2 at *
 have hcond:(16<m0\/16<m1\/16<m2)↔(decide (m0<=16)&&(decide (m1<=16)&&decide (m2<=16)))=false:=by
  rw[WX,WX,decide_eq_false_iff_not,decide_eq_false_iff_not,decide_eq_false_iff_not]
  omega
 have hv':=(qag (prog:=qad) (k:=0) (b:=F131l0) (fr:=[(1,.ptr 0 0),(2,.ptr 1 0),(4,.ptr 3 0),(17,.dat (qof vs)),(18,.int vs.length),(19,.int 0)]) (σ := [qgO a.nd b.nd c.nd,zP,.map [],qoz 0 0 0 2]) (by simp[yFr,ySt,mapM,Wa])).trans hvl
 have hloop':=(qag (prog:=qad) (k:=0) (b:=F131l1) (fr:=[(2,.ptr 1 0),(4,.ptr 2 0),(33,.dat (ru a.nd b.nd c.nd)),(34,.int 0)]) (σ := [qgO a.nd b.nd c.nd,zP,qoz 0 0 0 3,mpo vs]) (by simp[jFr,Wa])).trans hloop
 simp only[qgO,zP,Nd.d,qAr,qAs,qAt,qAu,qpk,yFr,jFr,ru,Wi,Wc] at hv' hloop'
 simp only[ru,Nd.d,qAr,qAs,qAt,qAu,qpk] at zv
 refine qab (pf:=F131) rfl rfl ?_
 unfold qtK
 cases hst with
 |nil=>
  have hn0:n=0:=by rw[<- hn]; rfl
  obtain⟨σ',hk,z⟩:=qyT (KSt.nil (e0:=e0) (e1:=e1) (e2:=e2) (by omega)) q0 w0 q1 w1 q2 w2
  have h400 : ¬ 400<([]:Cd).length:=by simp
  rw[if_neg h400]
  replace z:=(qag (prog:=qad) (k:=0) (b:=F131l2) (fr:=[(2,.ptr 0 0),(9,.ptr 3 0),(86,.dat (.agg [.lit (.int .i64 e0),.lit (.int .i64 e1),.lit (.int .i64 e2)])),(87,.int 0)]) (σ := [zP,qoz e0 e1 e2 2,mpo vs,.cells [.dat (.lit (.slice none 0 0)),.int e0,.int e1,.int e2]]) (by simp[Wa])).trans z
  by_cases hb:16<m0\/16<m1\/16<m2
  ·rw[hcond.1 hb] at z
   rw[if_pos hb]
   cases hk with
   |nil=>simp[F131,ru,Nd.d,zv,hv',hloop',z,pgD,codeD,qdR,qbN,qaF,Wa]
   |vec _ g=>exact absurd rfl g
   |froz _ g=>exact absurd rfl g
  ·have hb':(decide (m0<=16)&&(decide (m1<=16)&&decide (m2<=16)))=true:=by
    rw[<- Bool.not_eq_false,<- hcond]; exact hb
   rw[hb'] at z
   rw[if_neg hb]
   cases hk with
   |nil=>simp[F131,ru,Nd.d,zv,hv',hloop',z,pgD,codeD,qdR,qbN,qaF,Wa]
   |vec _ g=>exact absurd rfl g
   |froz _ g=>exact absurd rfl g
 |gr _ hne=>
  have hdat:=qko C
  have hvl:=qfW C
  rw[qtJ hne]
  by_cases h4:400<C.length
  ·rw[if_pos h4]
   have h4':(400:Int)<C.length:=by omega
   simp[F131,ru,Nd.d,zv,hv',hloop',pgD,qcO,h4',qbN,qaF,Wa]
  rw[if_neg h4]
  have h4' : ¬ (400:Int)<C.length:=by omega
  obtain⟨σ',hk,z⟩:=qyT (KSt.vec (e0:=e0) (e1:=e1) (e2:=e2) C hne) q0 w0 q1 w1 q2 w2
  replace z:=(qag (prog:=qad) (k:=0) (b:=F131l2) (fr:=[(2,.ptr 0 0),(9,.ptr 4 0),(86,.dat (.agg [.lit (.int .i64 e0),.lit (.int .i64 e1),.lit (.int .i64 e2)])),(87,.int 0)]) (σ := [zP,cob e0 e1 e2 2 C.length 3,.vec (icV C),mpo vs,.cells [.own 2 C.length 2,.int e0,.int e1,.int e2]]) (by simp[Wa])).trans z
  by_cases hb:16<m0\/16<m1\/16<m2
  ·rw[hcond.1 hb] at z
   rw[if_pos hb]
   cases hk with
   |nil=>exact absurd rfl hne
   |vec _ g=>simp[F131,ru,Nd.d,zv,hv',hloop',z,pgD,qcO,h4',qbN,qaF,Wa]
   |froz _ g=>simp[F131,ru,Nd.d,zv,hv',hloop',z,pgD,qcO,h4',qbN,qaF,Wa]
  ·have hb':(decide (m0<=16)&&(decide (m1<=16)&&decide (m2<=16)))=true:=by
    rw[<- Bool.not_eq_false,<- hcond]; exact hb
   rw[hb'] at z
   rw[if_neg hb]
   cases hk with
   |nil=>exact absurd rfl hne
   |vec _ g=>simp[F131,ru,Nd.d,zv,hv',hloop',z,pgD,qcO,h4',hdat,hvl,qbN,qaF,Wa]
   |froz _ g=>simp[F131,ru,Nd.d,zv,hv',hloop',z,pgD,qcO,h4',hdat,hvl,qbN,qaF,Wa]
end
end
section
def qvJ(u:ByteArray):Prop:=(byl u).head?≠some 61
def qz6(t:ByteArray):Prop:=t≠bs [60]/\t≠bs [62]/\t≠bs [61]/\t≠bs [33]
theorem qmJ : ∀ {a b:List ByteArray},Ok2 a->Ok2 b->(∀ t u,a.getLast?=some t->b.head?=some u->Adj t u)->Ok2 (a++b)
 |[],b,_,hb,_=>hb
 |t::a,b,ha,hb,h=>by
  refine⟨ha.1,fun u hu=>?_,qmJ ha.2.2 hb fun t' u h1 h2=>?_⟩
  ·cases a with
   |nil=>exact h t u rfl hu
   |cons v a=>exact ha.2.1 u hu
  ·cases a with
   |nil=>cases h1
   |cons v a=>exact h t' u (by rw[Yv]; exact h1) h2
structure Cl(l:List ByteArray):Prop where
 ok:Ok2 l
 st : ∀ u,l.head?=some u->qvJ u
 en : ∀ t,l.getLast?=some t->qz6 t
theorem qqu:Cl []:=⟨trivial,fun u h=>(by cases h),fun t h=>(by cases h)⟩
theorem qnF{x:ByteArray}(h:Tg (byl x))(h1:qvJ x)(h2:qz6 x):Cl [x]:=⟨⟨h,fun u hu=>(by cases hu),trivial⟩,fun u hu=>(by cases hu; exact h1),fun t ht=>(by cases ht; exact h2)⟩
theorem qbm{a b:List ByteArray}(ha:Cl a)(hb:Cl b):Cl (a++b):=by
 refine⟨qmJ ha.ok hb.ok fun t u h1 _ => .inl (ha.en t h1),fun u hu=>?_,fun t ht=>?_⟩
 ·cases a with
  |nil=>exact hb.st u hu
  |cons v a=>exact ha.st u hu
 ·rw[List.getLast?_append] at ht
  cases hbl:b.getLast? with
  |none=>rw[hbl] at ht; exact ha.en t ht
  |some v=>rw[hbl] at ht; exact hb.en t (hbl.trans ht)
theorem qvK{x:ByteArray}{a b:List ByteArray}(h:Tg (byl x))(ha:Cl a)(hb:Cl b)(na:a≠[])(nb:b≠[]):Cl (a++x::b):=by
 have hxb:Ok2 (x::b):=⟨h,fun u hu => .inr (hb.st u hu),hb.ok⟩
 refine⟨qmJ ha.ok hxb fun t u h1 _ => .inl (ha.en t h1),fun u hu=>?_,fun t ht=>?_⟩
 ·cases a with
  |nil=>exact absurd rfl na
  |cons v a=>exact ha.st u hu
 ·cases b with
  |nil=>exact absurd rfl nb
  |cons v b=>
   rw[List.getLast?_append,Yv] at ht
   cases hbl:(v::b).getLast? with
   |none=>simp at hbl
   |some w=>rw[hbl] at ht; exact hb.en t (hbl.trans ht)
theorem qyF{x:ByteArray}{b:List ByteArray}(h:Tg (byl x))(h1:qvJ x)(hb:Cl b)(nb:b≠[]):Cl (x::b):=by
 refine⟨⟨h,fun u hu => .inr (hb.st u hu),hb.ok⟩,fun u hu=>(by cases hu; exact h1),fun t ht=>?_⟩
 cases b with
 |nil=>exact absurd rfl nb
 |cons v b=>rw[Yv] at ht; exact hb.en t ht
theorem qqv{c:UInt8}(h:c.toNat∈qkp):Tg (byl (bs [c])):=by rw[qbM]; exact .inr (.inr (.inr ⟨c,rfl,h⟩))
theorem qA5(o:Bop):Tg (byl o.str):=by
 cases o
 all_goals first
  |exact .inr (.inr (.inr ⟨_,rfl,by decide⟩))
  |exact .inr (.inr (.inl (by decide)))
theorem qA6(neg:Bool):Tg (byl (ustr neg)):=by
 cases neg<;>exact .inr (.inr (.inr ⟨_,rfl,by decide⟩))
theorem qvL{c:UInt8}{r:List UInt8}(h:qaZ c=true)(h2 : ∀ b∈r,qaJ b=true)(h3:(c::r).length<=8):Tg (byl (bs (c::r))):=by
 rw[qbM]
 exact .inl ⟨c,r,rfl,h,h2,fun h=>by omega⟩
theorem clf{x:ByteArray}(h:x∈fieldNames):Cl [x]:=by
 simp only[fieldNames,Wu,Ww,or_false] at h
 rcases h with h|h|h|h|h|h|h|h<;>rw[h]
 all_goals exact qnF (.inl ⟨_,_,rfl,by decide,by decide,by decide⟩) (by unfold qvJ; decide) (by unfold qz6; decide)
theorem clw{x:ByteArray}(h:x∈wordNames):Cl [x]:=by
 simp only[wordNames,Wu,Ww,or_false] at h
 rcases h with h|h|h|h|h|h|h|h|h|h|h|h|h<;>rw[h]
 all_goals exact qnF (.inl ⟨_,_,rfl,by decide,by decide,by decide⟩) (by unfold qvJ; decide) (by unfold qz6; decide)
theorem qt6{x:ByteArray}(h:Tg (byl x))(hs:qaD qaZ x=true\/qaD qau x=true):Cl [x]:=by
 refine qnF h ?_ ⟨?_,?_,?_,?_⟩
 ·intro h1
  rw[qbe,qbe,h1] at hs
  exact absurd hs (by decide)
 all_goals rintro rfl; exact absurd hs (by decide)
theorem qqw{x:ByteArray}(h:qsQ x):Cl [x]:=qt6 h.1 (.inl h.2.1)
theorem cls{c:UInt8}(h:c.toNat∈qkp)(h1:c≠61)(h2:c≠60/\c≠62/\c≠33):Cl [bs [c]]:=by
 refine qnF (qqv h) (by rw[qvJ,qbM]; simpa using h1) ⟨?_,?_,?_,?_⟩
 all_goals
  intro h
  have:=ql5 h
  simp only[WU,and_true] at this
  simp_all
theorem qvM(full:Bool){e:E}(h:e.good)(p:Nat):e.tx full p≠[]:=by
 obtain⟨x,l,h1,_⟩:=qmP full e h p
 rw[h1]; simp
theorem qnG{b:Bool}{l:List ByteArray}(h:Cl l):Cl (qdq b l):=by
 unfold qdq
 split
 ·exact qbm (a:=[bs [40]]) (cls (by decide) (by decide) (by decide)) (qbm h (cls (by decide) (by decide) (by decide)))
 ·exact h
theorem qiD(full:Bool) : ∀ e:E,e.good -> ∀ p,Cl (e.tx full p)
 |.int n,h,p=>qt6 (by rw[qbM]; exact qv8 (by have:=h.1; have:=h.2; omega)) (.inr (qkK (by have:=h.1; have:=h.2; omega)))
 |.bool n,h,p=>by
  simp only[E.tx]
  split<;>exact clw (by decide)
 |.var s,h,p=>qqw h
 |.name s,h,p=>by
  refine clw ?_
  rcases h with rfl|rfl|rfl<;>decide
 |.field g s e,h,p=>qbm (clf h.1) (qbm (a:=[bs [91]]) (cls (by decide) (by decide) (by decide)) (qbm (qiD full e h.2 1) (cls (by decide) (by decide) (by decide))))
 |.un g neg e,h,p=>qnG (qyF (qA6 neg) (by unfold qvJ; cases neg<;>decide) (qiD full e h _) (qvM full (e:=e) h _))
 |.bin g o a b,h,p=>qnG (qvK (qA5 o) (qiD full a h.1 _) (qiD full b h.2 _) (qvM full h.1 _) (qvM full h.2 _))
theorem qiE : ∀ (s:Ss) m,s.good m->Cl s.tx
 |.nil,m,h=>qqu
 |.assign g s e r,m,h=>qvK (a:=[s]) (qqv (by decide)) (qqw h.2.1) (qbm (qiD false e h.2.2.1 1) (qbm (a:=[bs [59]]) (cls (by decide) (by decide) (by decide)) (qiE r _ h.2.2.2))) (by simp) (by simp)
 |.store g s a b r,m,h=>by
  have h1:Cl (s::bs [91]::(a.tx false 1++[bs [93]])):=qbm (clf h.2.1) (qbm (a:=[bs [91]]) (cls (by decide) (by decide) (by decide)) (qbm (qiD false a h.2.2.1 1) (cls (by decide) (by decide) (by decide))))
  have h2:Cl (b.tx false 1++(bs [59]::r.tx)):=qbm (qiD false b h.2.2.2.1 1) (qbm (a:=[bs [59]]) (cls (by decide) (by decide) (by decide)) (qiE r _ h.2.2.2.2))
  have:=qvK (x:=bs [61]) (qqv (by decide)) h1 h2 (by simp) (by simp)
  simpa [Ss.tx] using this
 |.effect g a b r,m,h=>qbm (a:=[qmN]) (clw (by decide)) (qbm (qiD false a h.2.1 1) (qbm (a:=[bs [44]]) (cls (by decide) (by decide) (by decide)) (qbm (qiD false b h.2.2.1 1) (qbm (a:=[bs [59]]) (cls (by decide) (by decide) (by decide)) (qiE r _ h.2.2.2)))))
 |.stop r,m,h=>qbm (a:=[qv2]) (clw (by decide)) (qbm (a:=[bs [59]]) (cls (by decide) (by decide) (by decide)) (qiE r _ h.2))
 |.cond w g c b r,m,h=>qbm (a:=[if w then qqG else ifS]) (clw (by cases w<;>decide)) (qbm (qiD false c h.2.1 1) (qbm (qiE b _ h.2.2.1) (qiE r _ h.2.2.2)))
 |.block g b r,m,h=>by
  obtain⟨n,_,h1,h2⟩:=h
  have hlast:Cl (if qf2 r then qkI::r.tx else []):=?_
  ·exact qbm (a:=[bs [123]]) (cls (by decide) (by decide) (by decide)) (qbm (qiE b _ h1) (qbm (a:=[bs [125]]) (cls (by decide) (by decide) (by decide)) hlast))
  split
  ·exact qbm (a:=[qkI]) (clw (by decide)) (qiE r _ h2)
  ·exact qqu
def qfS(k:Nat):ByteArray:=match k with|0=>bs [97,99,116] | 1=>qsU|_=>qod
def qkC(k:Nat):Option Ss->List ByteArray
 |none=>[]
 |some b=>onS::qfS k::bs [123]::(b.tx++[bs [125]])
def qhC(h:Option Ss):Prop := ∀ b,h=some b->b.good none/\b.nest<=19
theorem qvN{k:Nat}{h:Option Ss}(hg:qhC h):Cl (qkC k h):=by
 cases h with
 |none=>exact qqu
 |some b=>
  refine qbm (a:=[onS]) (clw (by decide)) (qbm (a:=[qfS k]) (clw ?_) (qbm (a:=[bs [123]]) (cls (by decide) (by decide) (by decide)) (qbm (qiE b _ (hg b rfl).1) (cls (by decide) (by decide) (by decide)))))
  rcases k with _|_|k
  ·decide
  ·decide
  ·show qod∈wordNames; decide
def qcM(h:Nat->Option Ss):List ByteArray:=qkC 0 (h 0)++(qkC 1 (h 1)++qkC 2 (h 2))
theorem qvO{h:Nat->Option Ss}(hg : ∀ k,qhC (h k)):Cl (qcM h):=qbm (qvN (hg 0)) (qbm (qvN (hg 1)) (qvN (hg 2)))
theorem qkD{k:Nat}(h:k<3):qb6 (qfS k)=some k:=by
 rcases k with _|_|_|k
 ·rfl
 ·rfl
 ·rfl
 ·omega
section
variable{eS eL eD:Nat}{f fi fb:Bool}
def qCs(h:Nat->Option Ss)(k:Nat)(b:Ss):Nat->Option Ss:=fun i=>if i=k then some b else h i
theorem rbH {h:Nat->Option Ss} {k:Nat} {b:Ss} (hk:k<3) (hh:h k=none) (hg:b.good none) (hn:b.nest<=19) {ts mid:List Tk} (hx:Hx (qkC k (some b)) ts mid) {y} (hy : ∃ n,qdX eS eL eD f fi fb n (qCs h k (b.fl f fi fb)) mid=some y) :
  ∃ n,qdX eS eL eD f fi fb n h ts=some y:=by
 obtain⟨h1,h2⟩:=qcj hx
 obtain⟨h3,h4⟩:=qcj h2
 have hr : ∃ n,qbz eS eL f fi fb n 1 ts.tail.tail=some (.ok (b.fl f fi fb) mid):=by
  obtain⟨n,hn⟩:=(rbS (eS:=eS) (eL:=eL) (f:=f) (fi:=fi) (fb:=fb) b).1 hg 1 .nil ts.tail.tail.tail mid (qcj h4).2 (by omega)
  refine⟨n+1,?_⟩
  rw[qbz,qf4 h4 (by omega)]
  exact hn
 obtain⟨n,hn⟩:=hr
 obtain⟨m,hm⟩:=hy
 refine⟨max n m+1,?_⟩
 rw[qdX,h1]
 simp only
 rw[if_neg (by decide),show qaS eS (bs [111,110]) ts = .ok () ts.tail from qcF hx]
 simp only[h3,qkD hk]
 rw[if_neg (by rw[hh]; simp),qcU hn (WF n m)]
 exact qg3 hm (WC n m)
theorem rbP {h:Nat->Option Ss} (hg : ∀ k,qhC (h k)) {ts mid:List Tk} (hx:Hx (qcM h) ts mid) (he:nx mid=some ⟨#[]⟩) :
  ∃ n,qdX eS eL eD f fi fb n (fun _=>none) ts=some (.ok (fun k=>if k<3 then (h k).map (·.fl f fi fb) else none) mid):=by
 obtain⟨m1,x1,hx⟩:=hx_app.1 hx
 obtain⟨m2,x2,x3⟩:=hx_app.1 hx
 have one : ∀ (k:Nat) (h0:Nat->Option Ss) (ts m:List Tk) y,k<3->h0 k=none->Hx (qkC k (h k)) ts m->(∃ n,qdX eS eL eD f fi fb n (fun i=>if i=k then (h k).map (·.fl f fi fb) else h0 i) m=some y) -> ∃ n,qdX eS eL eD f fi fb n h0 ts=some y:=by
  intro k h0 ts m y hk h0k hx hy
  have hgk:=hg k
  cases hb:h k with
  |none=>
   rw[hb] at hx hy
   cases hx
   obtain⟨n,hn⟩:=hy
   refine⟨n,?_⟩
   rw[<- hn]
   congr 1
   funext i
   split
   ·rename_i e; rw[e,h0k]; rfl
   ·rfl
  |some b=>
   rw[hb] at hx hy hgk
   exact rbH hk h0k (hgk b rfl).1 (hgk b rfl).2 hx hy
 refine one 0 _ ts m1 _ (by omega) rfl x1 (one 1 _ m1 m2 _ (by omega) (by simp) x2 (one 2 _ m2 mid _ (by omega) (by simp) x3 ⟨1,?_⟩))
 rw[qdX,he]
 simp only
 rw[if_pos (by rfl)]
 congr 2
 funext i
 rcases i with _|_|_|i<;>simp
 omega
end
end
section
def Fo.eqv:Fo->Fo->Bool
 |.nil,.nil=>true
 |.cons k n s _ ks r,.cons k' n' s' _ ks' r'=>(decide (k=k')&&(decide (n=n')&&decide (s=s')))&&(ks.eqv ks'&&r.eqv r')
 |_,_=>false
def Rz.map{α β : Type}(k : α -> β):Rz α -> Rz β
 |.ok a r => .ok (k a) r
 |.er i c => .er i c
end
end Go.Pm
section
namespace Go.Pm.F
variable(C:Task->Option Res)(q:Nat)(fr:Fr)(σ : S)
@[simp] def F228a0x:PC:=(rn [jj 6 (.alloc [zN,eN,zN,zN,zN]),st 5 6 20] [1000000,5,6])
def F228a0:PC:=F228a0x
theorem qjx:run C q F228a0 fr σ = run C q F228a0x fr σ := rfl
@[simp] def F228b0x:PC:=(.block 1 (.region (some []) [⟨some 21,.load false 1 (.t 5),none,[7]⟩,l1 22 5,nc 23 22,fa 24 2 23,l1 25 24,la 26 5 6,jj 27 (.bslice 1 [zN,eN,zN,zN,zN] [(0,5,(.t 26))]),jj 28 (.append 5 48 (.t 25) (.t 27)),nc 29 21,fa 30 2 29,st 1 30 28] [1000000]))
def F228b0:PC:=F228b0x
theorem qjy:run C q F228b0 fr σ = run C q F228b0x fr σ := rfl
theorem qip:F228a0.flat=true:=rfl
theorem qiq:F228b0.flat=true:=rfl
def F228:PFun:=⟨1,[.cell 2 true 12,.cell 3 false 1,.cell 4 false 1],.seq (rn [jj 2 (.alloc [zN,zN,eN,sN,zN,zN,eN,sN,zN,zN,eN,sN]),jj 3 (.alloc [zN]),jj 4 (.alloc [zN])] [1000000,0,2,3,4]) (.seq (.seq (rn [mv 7 0,lz 8 7,bk 9 .gtr 8 2000] [1000000,0,2,3,4,9]) (.cond (.t 9) (.seq (rn [jj 10 (.build [zN,zN,eN,sN,zN,zN,eN,sN,zN,zN,eN,sN] []),st 12 2 10,jn (.store 1 (.t 3) (kk 2000)),jn (.store 1 (.t 4) (kk 2))] [1000000,2,3,4]) (.ret)) (.skip))) (.seq (rn [mv 11 0,cl 12 239 [11],jj 13 (.build [eN,(.lit (.map none)),sN,zN,zN,zN] [(0,2,(.t 12)),(5,1,(kk 12))]),bx 14 13,jj 5 (.alloc [(.lit (.pointer none))]),st 1 5 14] [1000000,2,3,4,5]) (.seq (rn [jj 15 (.mkfn 240 [] [(.t 5),(.t 2),(.t 3),(.t 4)]),jj 1000000 (.defer (.t 15) [])] [1000000,2,3,4,5]) (.seq (.seq (rn [l1 16 5,nc 17 16,fa 18 0 17,cl 19 241 [18]] [1000000,2,3,4,5,19]) (.block 0 (.range (.t 19) [20] F228a0 F228b0))) (.seq (rn [l1 31 5,cl 32 242 [31],st 12 2 32,jn (.store 1 (.t 3) (kk 0)),jn (.store 1 (.t 4) (kk 0))] [1000000,2,3,4]) (.ret)))))),false,true,false⟩
def F239:PFun:=⟨1,[.cell 2 true 2],.seq (rn [jj 2 (.alloc [eN,(.lit (.map none))])] [0,2]) (.seq (rn [mv 3 0,jj 4 (.mkmap),jn (.mapset .s (.t 4) (.c (.string ⟨#[111,110]⟩)) (kk 2)),jn (.mapset .s (.t 4) (.c (.string ⟨#[97,99,116]⟩)) (kk 2)),jn (.mapset .s (.t 4) (.c (.string ⟨#[116,105,99,107]⟩)) (kk 2)),jn (.mapset .s (.t 4) (.c (.string ⟨#[105,102]⟩)) (kk 2)),jn (.mapset .s (.t 4) (.c (.string ⟨#[101,108,115,101]⟩)) (kk 2)),jn (.mapset .s (.t 4) (.c (.string ⟨#[119,104,105,108,101]⟩)) (kk 2)),jn (.mapset .s (.t 4) (.c (.string ⟨#[101,102,102,101,99,116]⟩)) (kk 2)),jn (.mapset .s (.t 4) (.c (.string ⟨#[115,116,111,112]⟩)) (kk 2)),jn (.mapset .s (.t 4) (.c (.string ⟨#[116,114,117,101]⟩)) (kk 2)),jn (.mapset .s (.t 4) (.c (.string ⟨#[102,97,108,115,101]⟩)) (kk 2)),jn (.mapset .s (.t 4) (.c (.string ⟨#[115,101,108,102]⟩)) (kk 2)),jn (.mapset .s (.t 4) (.c (.string ⟨#[111,116,104,101,114]⟩)) (kk 2)),jn (.mapset .s (.t 4) (.c (.string ⟨#[120]⟩)) (kk 3)),jn (.mapset .s (.t 4) (.c (.string ⟨#[121]⟩)) (kk 3)),jn (.mapset .s (.t 4) (.c (.string ⟨#[118,120]⟩)) (kk 3)),jn (.mapset .s (.t 4) (.c (.string ⟨#[118,121]⟩)) (kk 3)),jn (.mapset .s (.t 4) (.c (.string ⟨#[97]⟩)) (kk 3)),jn (.mapset .s (.t 4) (.c (.string ⟨#[98]⟩)) (kk 3)),jn (.mapset .s (.t 4) (.c (.string ⟨#[104,105,116]⟩)) (kk 3)),jn (.mapset .s (.t 4) (.c (.string ⟨#[115,116,105,108,108]⟩)) (kk 3)),mv 5 4,jj 6 (.build [eN,(.lit (.map none))] [(0,1,(.t 3)),(1,1,(.t 5))]),st 2 2 6] [2]) (.ret)),false,false,false⟩
def F240:PFun:=⟨4,[],.seq (rn [jj 4 (.recov),jj 5 (.isnil false true (.t 4))] [0,1,2,3,5]) (.cond (.t 5) (.region (some []) [jj 6 (.build [zN,zN,eN,sN,zN,zN,eN,sN,zN,zN,eN,sN] []),l1 7 0,nc 8 7,fa 9 4 8,l1 10 9,l1 11 0,nc 12 11,fa 13 5 12,l1 14 13,st 12 1 6,st 1 2 10,st 1 3 14] []) (.skip)),false,false,true⟩
def F241:PFun:=⟨1,[.tmp 2],.seq (rn [bx 1 0,jj 2 (.mov (.c .nilFunc))] [1]) (.seq (rn [jj 3 (.mkfn 249 [] [(.t 1)]),mv 2 3] [2]) (.ret)),false,false,false⟩
@[simp] def F242l0x:PC:=(.seq (.seq (rn [mv 5 0,cl 6 252 [5],jj 7 (.field false 0 1 (.t 6)),bk 8 .neq 7 0] [0,2,3,8]) (.cond (.t 8) (.skip) (.exit 0))) (.block 1 (.seq (rn [mv 9 0,jj 10 (.call 253 [(.t 9),(.c (.string ⟨#[111,110]⟩))])] [0,2,3]) (.seq (rn [mv 11 0,cl 12 254 [11],mv 4 12] [0,2,3,4]) (.seq (.seq (rn [mv 13 4,fa 14 0 3,jj 15 (.indexAddrA 3 4 (.t 14) (.t 13)),fa 16 0 15,l1 17 16,bk 18 .neq 17 0] [0,2,3,4,18]) (.cond (.t 18) (rn [mv 19 0,mv 20 0,cl 21 252 [20],jj 22 (.call 255 [(.t 19),(.t 21),(kk 4)])] [0,2,3,4]) (.skip))) (.seq (rn [mv 23 0,nc 24 23,fa 25 3 24,l1 26 25,bk 27 .add 26 1,nc 28 23,fa 29 3 28,st 1 29 27] [0,2,3,4]) (rn [mv 30 4,mv 31 0,jj 32 (.call 256 [(.t 31),(kk 1)]),fa 33 0 3,jj 34 (.indexAddrA 3 4 (.t 33) (.t 30)),st 4 34 32] [0,2,3])))))))
def F242l0:PC:=F242l0x
theorem qcR:run C q F242l0 fr σ = run C q F242l0x fr σ := rfl
def F242:PFun:=⟨1,[.cell 2 true 12],.seq (rn [jj 2 (.alloc [zN,zN,eN,sN,zN,zN,eN,sN,zN,zN,eN,sN])] [0,2]) (.seq (rn [jj 3 (.alloc [zN,zN,eN,sN,zN,zN,eN,sN,zN,zN,eN,sN])] [0,2,3]) (.seq (.block 0 (.loop F242l0)) (.seq (rn [la 35 12 3,st 12 2 35] [2]) (.ret)))),false,false,false⟩
@[simp] def F249l0x:PC:=(.block 1 (.seq (.region (some [(34,[zN,eN,zN,zN,zN])]) [⟨some 5,.load false 1 (.t 1),none,[3]⟩,l1 6 1,mv 7 3,cl 8 251 [6,7],cl 9 250 [5,8],⟨some 4,.fill 34,none,[3,4]⟩,st 5 4 9] [0,1,4]) (.seq (.seq (rn [mv 10 0,la 11 5 4,jj 12 (.callv (.t 10) [(.t 11)]),jj 13 (.un .not (.t 12)),mv 14 13,jf 15 14 (.fieldAddr 0 (.t 4)),jf 16 14 (.load false 1 (.t 15)),jf 17 14 (.bin .eql (.t 16) (kk 0)),jj 18 (.pick (.t 14) kT (.t 17)),mv 19 18,jf 20 19 (.fieldAddr 0 (.t 4)),jf 21 19 (.load false 1 (.t 20)),jf 22 19 (.bin .eql (.t 21) (kk 6)),jj 23 (.pick (.t 19) kT (.t 22))] [0,1,4,23]) (.cond (.t 23) (.ret) (.skip))) (rn [fa 24 2 4,l1 25 24,fa 26 1 4,l1 27 26,lz 28 27,bn 29 .add 25 28,mv 3 29] [0,1,3]))))
def F249l0:PC:=F249l0x
theorem qfs:run C q F249l0 fr σ = run C q F249l0x fr σ := rfl
def F249:PFun:=⟨2,[],.seq (rn [mx 3 (kk 0)] [0,1,3]) (.block 0 (.loop F249l0)),false,false,false⟩
def F250:PFun:=⟨2,[.cell 4 true 5],.seq (rn [jj 4 (.alloc [zN,eN,zN,zN,zN])] [0,1,4]) (.seq (.seq (rn [mv 7 1,mv 8 0,nc 9 8,fa 10 0 9,l1 11 10,lz 12 11,bn 13 .eql 7 12] [0,1,4,13]) (.cond (.t 13) (.seq (rn [mv 14 1,jj 15 (.build [zN,eN,zN,zN,zN] [(0,1,(kk 0)),(2,1,(.t 14))]),st 5 4 15] [4]) (.ret)) (.skip))) (.seq (.seq (rn [mv 16 0,nc 17 16,fa 18 0 17,l1 19 18,mv 20 1,jj 21 (.indexS (.t 19) (.t 20)),mv 5 21] [0,1,4,5]) (.block 0 (.seq (rn [mv 23 5,cl 24 264 [23],mv 22 24] [0,1,4,5,22]) (.cond (.t 22) (.seq (rn [mv 25 0,mv 26 1,cl 27 265 [25,26],st 5 4 27] [4]) (.ret)) (.seq (rn [mv 29 5,cl 30 266 [29],mv 28 30] [0,1,4,28]) (.cond (.t 28) (.seq (rn [mv 31 0,mv 32 1,cl 33 267 [31,32],st 5 4 33] [4]) (.ret)) (.skip))))))) (.seq (.seq (rn [mv 34 1,bk 35 .add 34 2,mv 36 0,nc 37 36,fa 38 0 37,l1 39 38,lz 40 39,bn 41 .leq 35 40] [0,1,4,41]) (.cond (.t 41) (.seq (rn [mv 42 0,nc 43 42,fa 44 0 43,l1 45 44,mv 46 1,mv 47 1,bk 48 .add 47 2,jj 49 (.sliceS (.t 45) (some (.t 46)) (some (.t 48))),mv 6 49] [0,1,4,6]) (.seq (rn [mv 50 6] [0,1,4,6,50]) (.block 1 (.seq (.seq (rn [jj 52 (.bin .eql (.t 50) (.c (.string ⟨#[124,124]⟩))),mv 51 52] [0,1,4,6,50,51]) (.cond (.t 51) (.skip) (.seq (rn [jj 53 (.bin .eql (.t 50) (.c (.string ⟨#[38,38]⟩))),mv 51 53] [0,1,4,6,50,51]) (.cond (.t 51) (.skip) (.seq (rn [jj 54 (.bin .eql (.t 50) (.c (.string ⟨#[60,61]⟩))),mv 51 54] [0,1,4,6,50,51]) (.cond (.t 51) (.skip) (.seq (rn [jj 55 (.bin .eql (.t 50) (.c (.string ⟨#[62,61]⟩))),mv 51 55] [0,1,4,6,50,51]) (.cond (.t 51) (.skip) (.seq (rn [jj 56 (.bin .eql (.t 50) (.c (.string ⟨#[61,61]⟩))),mv 51 56] [0,1,4,6,50,51]) (.cond (.t 51) (.skip) (rn [jj 57 (.bin .eql (.t 50) (.c (.string ⟨#[33,61]⟩))),mv 51 57] [0,1,4,6,51]))))))))))) (.cond (.t 51) (.seq (rn [mv 58 6,mv 59 1,jj 60 (.build [zN,eN,zN,zN,zN] [(0,1,(kk 5)),(1,1,(.t 58)),(2,1,(.t 59))]),st 5 4 60] [4]) (.ret)) (.skip)))))) (.skip))) (.seq (.seq (rn [mv 61 0,nc 62 61,fa 63 0 62,l1 64 63,mv 65 1,jj 66 (.indexS (.t 64) (.t 65)),jj 67 (.call 268 [(.c (.string ⟨#[123,125,91,93,40,41,61,59,44,60,62,43,45,42,47,33]⟩)),(.t 66)]),bk 68 .geq 67 0] [0,1,4,68]) (.cond (.t 68) (.seq (rn [mv 69 0,nc 70 69,fa 71 0 70,l1 72 71,mv 73 1,mv 74 1,bk 75 .add 74 1,jj 76 (.sliceS (.t 72) (some (.t 73)) (some (.t 75))),mv 77 1,jj 78 (.build [zN,eN,zN,zN,zN] [(0,1,(kk 5)),(1,1,(.t 76)),(2,1,(.t 77))]),st 5 4 78] [4]) (.ret)) (.skip))) (.seq (rn [mv 79 1,jj 80 (.build [zN,eN,zN,zN,zN] [(0,1,(kk 6)),(2,1,(.t 79)),(4,1,(kk 12))]),st 5 4 80] [4]) (.ret)))))),false,false,false⟩
@[simp] def F251l0x:PC:=(.seq (.seq (rn [mv 7 1,mv 8 0,nc 9 8,fa 10 0 9,l1 11 10,lz 12 11,bn 13 .lss 7 12] [0,1,5,13]) (.cond (.t 13) (.skip) (.exit 0))) (.seq (.block 1 (.seq (rn [mv 16 0,nc 17 16,fa 18 0 17,l1 19 18,mv 20 1,jj 21 (.indexS (.t 19) (.t 20)),mv 6 21] [0,1,5,6]) (.block 2 (.seq (rn [mv 24 6,jj 25 (.bin .eql (.t 24) (.c (.int .u8 10))),mv 23 25] [0,1,5,6,23]) (.cond (.t 23) (rn [mx 5 kF] [0,1,5]) (.seq (rn [mv 27 5,mv 28 27,jf 29 28 (.mov (.t 6)),jf 30 28 (.bin .eql (.t 29) (.c (.int .u8 32))),jj 31 (.pick (.t 28) kT (.t 30)),mv 32 31,jf 33 32 (.mov (.t 6)),jf 34 32 (.bin .eql (.t 33) (.c (.int .u8 9))),jj 35 (.pick (.t 32) kT (.t 34)),mv 26 35] [0,1,5,6,26]) (.cond (.t 26) (.skip) (.seq (rn [mv 37 6,jj 38 (.bin .eql (.t 37) (.c (.int .u8 35))),mv 36 38] [0,1,36]) (.cond (.t 36) (rn [mx 5 kT] [0,1,5]) (.seq (rn [mv 22 1,mv 4 22] [4]) (.ret))))))))))) (rn [mv 14 1,bk 15 .add 14 1,mv 1 15] [0,1,5])))
def F251l0:PC:=F251l0x
theorem qdx:run C q F251l0 fr σ = run C q F251l0x fr σ := rfl
def F251:PFun:=⟨2,[.tmp 4],.seq (rn [mx 4 (kk 0)] [0,1]) (.seq (.seq (rn [mx 5 kF] [0,1,5]) (.block 0 (.loop F251l0))) (.seq (rn [mv 39 1,mv 4 39] [4]) (.ret))),false,false,false⟩
def F252:PFun:=⟨1,[.cell 2 true 5],.seq (rn [jj 2 (.alloc [zN,eN,zN,zN,zN])] [0,2]) (.seq (.region (some [(26,[zN,eN,zN,zN,zN])]) [mv 4 0,nc 5 4,fa 6 2 5,l1 7 6,mv 8 0,nc 9 8,fa 10 3 9,l1 11 10,jj 12 (.indexAddr 5 (.t 7) (.t 11)),la 13 5 12,jj 3 (.fill 26),st 5 3 13] [0,2,3]) (.seq (.seq (rn [fa 14 0 3,l1 15 14,bk 16 .eql 15 6] [0,2,3,16]) (.cond (.t 16) (rn [mv 17 0,la 18 5 3,fa 19 4 3,l1 20 19,cl 21 255 [17,18,20]] [2,3]) (.skip))) (.seq (rn [la 22 5 3,st 5 2 22] [2]) (.ret)))),false,false,false⟩
def F253:PFun:=⟨2,[],.seq (.seq (rn [mv 4 0,mv 5 1,jj 6 (.bslice 1 [eN] [(0,1,(.t 5))]),cl 7 269 [4,6],jj 8 (.un .not (.t 7))] [0,8]) (.cond (.t 8) (rn [mv 9 0,mv 10 0,cl 11 252 [10],jj 12 (.call 255 [(.t 9),(.t 11),(kk 12)])] [0]) (.skip))) (rn [mv 13 0,nc 14 13,fa 15 3 14,l1 16 15,bk 17 .add 16 1,nc 18 13,fa 19 3 18,st 1 19 17] []),false,false,false⟩
def F254:PFun:=⟨1,[.tmp 2],.seq (rn [mx 2 (kk 0)] [0]) (.seq (rn [mv 4 0,cl 5 252 [4],jj 3 (.alloc [zN,eN,zN,zN,zN]),st 5 3 5] [0,3]) (.seq (.seq (rn [fa 6 1 3,l1 7 6] [0,3,7]) (.block 0 (.seq (rn [jj 9 (.bin .eql (.t 7) (.c (.string ⟨#[97,99,116]⟩))),mv 8 9] [0,3,7,8]) (.cond (.t 8) (.seq (rn [mx 2 (kk 0)] [2]) (.ret)) (.seq (rn [jj 11 (.bin .eql (.t 7) (.c (.string ⟨#[116,105,99,107]⟩))),mv 10 11] [0,3,7,10]) (.cond (.t 10) (.seq (rn [mx 2 (kk 1)] [2]) (.ret)) (.seq (rn [jj 13 (.bin .eql (.t 7) (.c (.string ⟨#[104,105,116]⟩))),mv 12 13] [0,3,12]) (.cond (.t 12) (.seq (rn [mx 2 (kk 2)] [2]) (.ret)) (.skip))))))))) (.seq (rn [mv 14 0,la 15 5 3,jj 16 (.call 255 [(.t 14),(.t 15),(kk 12)])] []) (.seq (rn [mx 2 (kk (-1))] [2]) (.ret))))),false,false,false⟩
def F255:PFun:=⟨3,[],.seq (rn [bx 4 1] [0,2,4]) (.seq (rn [mv 6 0,mv 7 0,fa 8 2 4,l1 9 8,mv 10 2,nc 11 6,fa 12 4 11,st 1 12 9,nc 13 7,fa 14 5 13,st 1 14 10] [2]) (rn [mv 15 2,jj 16 (.mkif 1 (.t 15)),jn (.panic (.t 16))] [])),false,false,false⟩
@[simp] def F256l0x:PC:=(.seq (.seq (rn [mv 10 0,jj 11 (.bslice 1 [eN] [(0,1,(.c (.string ⟨#[125]⟩)))]),cl 12 269 [10,11],jj 13 (.un .not (.t 12))] [0,1,4,5,13]) (.cond (.t 13) (.skip) (.exit 0))) (.block 1 (.region (some []) [fa 14 3 5,⟨some 15,.load false 1 (.t 14),none,[4]⟩,mv 16 0,mv 17 1,cl 18 271 [16,17],jj 19 (.bslice 1 [zN,zN,eN,sN] [(0,4,(.t 18))]),jj 20 (.append 4 56 (.t 15) (.t 19)),fa 21 3 5,st 1 21 20] [0,1,4,5] [4])))
def F256l0:PC:=F256l0x
theorem qei:run C q F256l0 fr σ = run C q F256l0x fr σ := rfl
def F256:PFun:=⟨2,[.cell 4 true 4],.seq (rn [jj 4 (.alloc [zN,zN,eN,sN])] [0,1,4]) (.seq (rn [mv 6 0,mv 7 1,jj 8 (.call 270 [(.t 6),(.c (.string ⟨#[123]⟩)),(.t 7)])] [0,1,4]) (.seq (rn [jj 9 (.build [zN,zN,eN,sN] [(0,1,(kk 7))]),jj 5 (.alloc [zN,zN,eN,sN]),st 4 5 9] [0,1,4,5]) (.seq (.block 0 (.loop F256l0)) (.seq (rn [mv 22 0,jj 23 (.call 253 [(.t 22),(.c (.string ⟨#[125]⟩))])] [4,5]) (.seq (rn [la 24 4 5,st 4 4 24] [4]) (.ret)))))),false,false,false⟩
def F264:PFun:=⟨1,[.tmp 2],.seq (rn [mx 2 kF] [0]) (.seq (rn [mv 3 0,jj 4 (.bin .leq (.c (.int .u8 97)) (.t 3)),mv 5 4,jt 6 5 (.mov (.t 0)),jt 7 5 (.bin .leq (.t 6) (.c (.int .u8 122))),jj 8 (.pick (.t 5) (.t 7) kF),mv 2 8] [2]) (.ret)),false,false,false⟩
@[simp] def F265l0x:PC:=(.seq (.seq (rn [mv 10 5,mv 11 0,nc 12 11,fa 13 0 12,l1 14 13,lz 15 14,bn 16 .lss 10 15,mv 17 16,jt 18 17 (.mov (.t 0)),jt 19 17 (.nilchk (.t 18)),jt 20 17 (.fieldAddr 0 (.t 19)),jt 21 17 (.load false 1 (.t 20)),jt 22 17 (.mov (.t 5)),jt 23 17 (.indexS (.t 21) (.t 22)),jt 24 17 (.call 264 [(.t 23)]),jt 25 17 (.mov (.t 24)),jf 26 25 (.mov (.t 0)),jf 27 25 (.nilchk (.t 26)),jf 28 25 (.fieldAddr 0 (.t 27)),jf 29 25 (.load false 1 (.t 28)),jf 30 25 (.mov (.t 5)),jf 31 25 (.indexS (.t 29) (.t 30)),jf 32 25 (.call 266 [(.t 31)]),jt 33 17 (.pick (.t 25) kT (.t 32)),jj 34 (.pick (.t 17) (.t 33) kF)] [0,1,4,5,34]) (.cond (.t 34) (.skip) (.exit 0))) (.block 1 (rn [mv 35 5,bk 36 .add 35 1,mv 5 36] [0,1,4,5])))
def F265l0:PC:=F265l0x
theorem qft:run C q F265l0 fr σ = run C q F265l0x fr σ := rfl
def F265:PFun:=⟨2,[.cell 4 true 5],.seq (rn [jj 4 (.alloc [zN,eN,zN,zN,zN])] [0,1,4]) (.seq (rn [mv 9 1,mv 5 9] [0,1,4,5]) (.seq (.block 0 (.loop F265l0)) (.seq (rn [mv 37 0,nc 38 37,fa 39 0 38,l1 40 39,mv 41 1,mv 42 5,jj 43 (.sliceS (.t 40) (some (.t 41)) (some (.t 42))),mv 44 1,jj 45 (.build [zN,eN,zN,zN,zN] [(0,1,(kk 1)),(1,1,(.t 43)),(2,1,(.t 44))]),jj 6 (.alloc [zN,eN,zN,zN,zN]),st 5 6 45] [0,4,6]) (.seq (.seq (.region (some []) [mv 47 0,nc 48 47,fa 49 1 48,l1 50 49,fa 51 1 6,l1 52 51,jj 53 (.lookup .s zN (.t 50) (.t 52) true),mv 46 53,ex 54 46 0,ex 55 46 1,mv 7 54,mv 8 55] [4,6,7,8]) (.seq (rn [mv 56 8] [4,6,7,56]) (.cond (.t 56) (rn [mv 57 7,fa 58 0 6,st 1 58 57] [4,6]) (.seq (rn [fa 59 1 6,l1 60 59,lz 61 60,bk 62 .gtr 61 8] [4,6,62]) (.cond (.t 62) (rn [fa 63 0 6,jn (.store 1 (.t 63) (kk 6)),fa 64 4 6,jn (.store 1 (.t 64) (kk 2))] [4,6]) (.skip)))))) (.seq (rn [la 65 5 6,st 5 4 65] [4]) (.ret)))))),false,false,false⟩
def F266:PFun:=⟨1,[.tmp 2],.seq (rn [mx 2 kF] [0]) (.seq (rn [mv 3 0,jj 4 (.bin .leq (.c (.int .u8 48)) (.t 3)),mv 5 4,jt 6 5 (.mov (.t 0)),jt 7 5 (.bin .leq (.t 6) (.c (.int .u8 57))),jj 8 (.pick (.t 5) (.t 7) kF),mv 2 8] [2]) (.ret)),false,false,false⟩
@[simp] def F267l0x:PC:=(.seq (.seq (rn [mv 9 5,mv 10 0,nc 11 10,fa 12 0 11,l1 13 12,lz 14 13,bn 15 .lss 9 14,mv 16 15,jt 17 16 (.mov (.t 0)),jt 18 16 (.nilchk (.t 17)),jt 19 16 (.fieldAddr 0 (.t 18)),jt 20 16 (.load false 1 (.t 19)),jt 21 16 (.mov (.t 5)),jt 22 16 (.indexS (.t 20) (.t 21)),jt 23 16 (.call 266 [(.t 22)]),jj 24 (.pick (.t 16) (.t 23) kF)] [0,1,4,5,6,24]) (.cond (.t 24) (.skip) (.exit 0))) (.block 1 (.seq (rn [mv 25 6,jj 26 (.bin .mul (kk 10) (.t 25)),mv 27 0,nc 28 27,fa 29 0 28,l1 30 29,mv 31 5,jj 32 (.indexS (.t 30) (.t 31)),jj 33 (.bin .sub (.t 32) (.c (.int .u8 48))),jj 34 (.conv (.int .i64) (.t 33)),bn 35 .add 26 34,jj 36 (.min [(.t 35),(kk 2147483648)]),mv 6 36] [0,1,4,5,6]) (rn [mv 37 5,bk 38 .add 37 1,mv 5 38] [0,1,4,5,6]))))
def F267l0:PC:=F267l0x
theorem qgU:run C q F267l0 fr σ = run C q F267l0x fr σ := rfl
def F267:PFun:=⟨2,[.cell 4 true 5],.seq (rn [jj 4 (.alloc [zN,eN,zN,zN,zN])] [0,1,4]) (.seq (rn [mv 8 1,mv 5 8,mx 6 (kk 0)] [0,1,4,5,6]) (.seq (.block 0 (.loop F267l0)) (.seq (rn [mv 39 0,nc 40 39,fa 41 0 40,l1 42 41,mv 43 1,mv 44 5,jj 45 (.sliceS (.t 42) (some (.t 43)) (some (.t 44))),mv 46 1,mv 47 6,jj 48 (.build [zN,eN,zN,zN,zN] [(0,1,(kk 4)),(1,1,(.t 45)),(2,1,(.t 46)),(3,1,(.t 47))]),jj 7 (.alloc [zN,eN,zN,zN,zN]),st 5 7 48] [4,6,7]) (.seq (.seq (rn [mv 49 6,bk 50 .gtr 49 2147483647] [4,7,50]) (.cond (.t 50) (rn [fa 51 0 7,jn (.store 1 (.t 51) (kk 6)),fa 52 4 7,jn (.store 1 (.t 52) (kk 6))] [4,7]) (.skip))) (.seq (rn [la 53 5 7,st 5 4 53] [4]) (.ret)))))),false,false,false⟩
def F269:PFun:=⟨2,[.tmp 4],.seq (rn [mx 4 kF] [0,1]) (.seq (rn [mv 6 0,cl 7 252 [6],jj 5 (.alloc [zN,eN,zN,zN,zN]),st 5 5 7] [1,5]) (.seq (rn [fa 8 0 5,l1 9 8,bk 10 .neq 9 0,mv 11 10,jt 12 11 (.mov (.t 1)),jt 13 11 (.fieldAddr 1 (.t 5)),jt 14 11 (.load false 1 (.t 13)),jt 15 11 (.call 276 [(.t 12),(.t 14)]),jj 16 (.pick (.t 11) (.t 15) kF),mv 4 16] [4]) (.ret))),false,false,false⟩
def F270:PFun:=⟨3,[],.seq (.seq (rn [mv 6 0,mv 7 1,jj 8 (.bslice 1 [eN] [(0,1,(.t 7))]),cl 9 269 [6,8],mv 10 9,jt 11 10 (.mov (.t 2)),jt 12 10 (.bin .gtr (.t 11) (kk 20)),jj 13 (.pick (.t 10) (.t 12) kF)] [0,1,13]) (.cond (.t 13) (rn [mv 14 0,mv 15 0,cl 16 252 [15],jj 17 (.call 255 [(.t 14),(.t 16),(kk 2)])] [0,1]) (.skip))) (rn [mv 18 0,mv 19 1,cl 20 253 [18,19]] []),false,false,false⟩
def F271:PFun:=⟨2,[.cell 4 true 4],.seq (rn [jj 4 (.alloc [zN,zN,eN,sN])] [0,1,4]) (.seq (rn [mv 9 0,cl 10 252 [9],jj 5 (.alloc [zN,eN,zN,zN,zN]),st 5 5 10] [0,1,4,5]) (.seq (.block 0 (.seq (rn [fa 12 0 5,l1 13 12,bk 14 .eql 13 1,mv 11 14] [0,1,4,5,11]) (.cond (.t 11) (.seq (rn [mv 15 0,cl 16 277 [15]] [0,1,4,5]) (.seq (rn [mv 17 0,jj 18 (.call 253 [(.t 17),(.c (.string ⟨#[61]⟩))])] [0,1,4,5]) (.seq (.region (some []) [mv 19 0,fa 20 1 5,⟨some 21,.load false 1 (.t 20),none,[5]⟩,mv 22 0,mv 23 1,cl 24 279 [22,23],jj 25 (.bslice 1 [zN,zN,eN,sN] [(0,4,(.t 24))]),jj 26 (.build [zN,zN,eN,sN] [(0,1,(kk 1)),(2,1,(.t 21)),(3,1,(.t 25))]),cl 27 278 [19,26],st 4 4 27] [4] [5,8]) (.ret)))) (.seq (rn [fa 29 0 5,l1 30 29,bk 31 .eql 30 3,mv 28 31] [0,1,4,5,28]) (.cond (.t 28) (.seq (rn [mv 32 0,mv 33 1,cl 34 280 [32,33],jj 6 (.alloc [zN,zN,eN,sN]),st 4 6 34] [0,1,4,5,6]) (.seq (rn [mv 35 0,jj 36 (.call 253 [(.t 35),(.c (.string ⟨#[61]⟩))])] [0,1,4,5,6]) (.seq (.region (some []) [mv 37 0,fa 38 1 5,⟨some 39,.load false 1 (.t 38),none,[6]⟩,⟨some 40,.load true 4 (.t 6),none,[6]⟩,mv 41 0,mv 42 1,cl 43 279 [41,42],jj 44 (.bslice 2 [zN,zN,eN,sN,zN,zN,eN,sN] [(0,4,(.t 40)),(4,4,(.t 43))]),jj 45 (.build [zN,zN,eN,sN] [(0,1,(kk 2)),(2,1,(.t 39)),(3,1,(.t 44))]),cl 46 278 [37,45],st 4 4 46] [4] [6,9]) (.ret)))) (.seq (rn [mv 48 0,jj 49 (.bslice 1 [eN] [(0,1,(.c (.string ⟨#[105,102]⟩)))]),cl 50 269 [48,49],mv 47 50] [0,1,4,5,47]) (.cond (.t 47) (.seq (rn [mv 51 0,mv 52 1,cl 53 281 [51,52],st 4 4 53] [4]) (.ret)) (.seq (rn [mv 55 0,jj 56 (.bslice 1 [eN] [(0,1,(.c (.string ⟨#[119,104,105,108,101]⟩)))]),cl 57 269 [55,56],mv 54 57] [0,1,4,5,54]) (.cond (.t 54) (.seq (rn [mv 58 0,cl 59 277 [58]] [0,1,4]) (.seq (rn [mv 60 0,mv 61 1,cl 62 279 [60,61],jj 7 (.alloc [zN,zN,eN,sN]),st 4 7 62] [0,1,4,7]) (.seq (.region (some []) [⟨some 63,.load true 4 (.t 7),none,[4]⟩,mv 64 0,mv 65 1,bk 66 .add 65 1,cl 67 256 [64,66],jj 68 (.bslice 2 [zN,zN,eN,sN,zN,zN,eN,sN] [(0,4,(.t 63)),(4,4,(.t 67))]),jj 69 (.build [zN,zN,eN,sN] [(0,1,(kk 4)),(3,1,(.t 68))]),st 4 4 69] [4] [4]) (.ret)))) (.seq (rn [mv 71 0,jj 72 (.bslice 1 [eN] [(0,1,(.c (.string ⟨#[101,102,102,101,99,116]⟩)))]),cl 73 269 [71,72],mv 70 73] [0,1,4,5,70]) (.cond (.t 70) (.seq (rn [mv 74 0,cl 75 277 [74]] [0,1,4]) (.seq (rn [mv 76 0,mv 77 1,cl 78 279 [76,77],jj 8 (.alloc [zN,zN,eN,sN]),st 4 8 78] [0,1,4,8]) (.seq (rn [mv 79 0,jj 80 (.call 253 [(.t 79),(.c (.string ⟨#[44]⟩))])] [0,1,4,8]) (.seq (.region (some []) [mv 81 0,⟨some 82,.load true 4 (.t 8),none,[4]⟩,mv 83 0,mv 84 1,cl 85 279 [83,84],jj 86 (.bslice 2 [zN,zN,eN,sN,zN,zN,eN,sN] [(0,4,(.t 82)),(4,4,(.t 85))]),jj 87 (.build [zN,zN,eN,sN] [(0,1,(kk 5)),(3,1,(.t 86))]),cl 88 278 [81,87],st 4 4 88] [4] [4,7]) (.ret))))) (.seq (rn [mv 90 0,jj 91 (.bslice 1 [eN] [(0,1,(.c (.string ⟨#[115,116,111,112]⟩)))]),cl 92 269 [90,91],mv 89 92] [0,4,5,89]) (.cond (.t 89) (.seq (rn [mv 93 0,cl 94 277 [93]] [0,4]) (.seq (rn [mv 95 0,jj 96 (.build [zN,zN,eN,sN] [(0,1,(kk 6))]),cl 97 278 [95,96],st 4 4 97] [4]) (.ret))) (.skip)))))))))))))) (.seq (rn [mv 98 0,la 99 5 5,jj 100 (.call 255 [(.t 98),(.t 99),(kk 12)])] [4]) (.seq (rn [jj 101 (.build [zN,zN,eN,sN] []),st 4 4 101] [4]) (.ret))))),false,false,false⟩
def F277:PFun:=⟨1,[.cell 2 true 5],.seq (rn [jj 2 (.alloc [zN,eN,zN,zN,zN])] [0,2]) (.seq (rn [mv 4 0,cl 5 252 [4],jj 3 (.alloc [zN,eN,zN,zN,zN]),st 5 3 5] [0,2,3]) (.seq (rn [mv 6 0,nc 7 6,fa 8 3 7,l1 9 8,bk 10 .add 9 1,nc 11 6,fa 12 3 11,st 1 12 10] [2,3]) (.seq (rn [la 13 5 3,st 5 2 13] [2]) (.ret)))),false,false,false⟩
def F278:PFun:=⟨2,[.cell 4 true 4],.seq (rn [bx 3 1,jj 4 (.alloc [zN,zN,eN,sN])] [0,3,4]) (.seq (rn [mv 5 0,jj 6 (.call 253 [(.t 5),(.c (.string ⟨#[59]⟩))])] [3,4]) (.seq (rn [la 7 4 3,st 4 4 7] [4]) (.ret))),false,false,false⟩
def F279:PFun:=⟨2,[.cell 4 true 4],.seq (rn [bx 2 0,bx 3 1,jj 4 (.alloc [zN,zN,eN,sN])] [2,3,4]) (.seq (rn [l1 5 2,jj 6 (.mkfn 286 [] [(.t 2),(.t 3)]),jj 7 (.bslice 1 [eN] [(0,1,(.c (.string ⟨#[124,124]⟩)))]),cl 8 285 [5,6,7],st 4 4 8] [4]) (.ret)),false,false,false⟩
def F280:PFun:=⟨2,[.cell 4 true 4],.seq (rn [jj 4 (.alloc [zN,zN,eN,sN])] [0,1,4]) (.seq (rn [mv 6 0,cl 7 277 [6]] [0,1,4]) (.seq (rn [mv 8 0,mv 9 1,bk 10 .add 9 1,jj 11 (.call 270 [(.t 8),(.c (.string ⟨#[91]⟩)),(.t 10)])] [0,1,4]) (.seq (rn [mv 12 0,mv 13 1,bk 14 .add 13 1,cl 15 279 [12,14],jj 5 (.alloc [zN,zN,eN,sN]),st 4 5 15] [0,4,5]) (.seq (rn [mv 16 0,jj 17 (.call 253 [(.t 16),(.c (.string ⟨#[93]⟩))])] [4,5]) (.seq (rn [la 18 4 5,st 4 4 18] [4]) (.ret)))))),false,false,false⟩
def F281:PFun:=⟨2,[.cell 4 true 4],.seq (rn [jj 4 (.alloc [zN,zN,eN,sN])] [0,1,4]) (.seq (rn [mv 8 0,jj 9 (.call 253 [(.t 8),(.c (.string ⟨#[105,102]⟩))])] [0,1,4]) (.seq (rn [mv 10 0,mv 11 1,cl 12 279 [10,11],jj 5 (.alloc [zN,zN,eN,sN]),st 4 5 12] [0,1,4,5]) (.seq (rn [mv 13 0,mv 14 1,bk 15 .add 14 1,cl 16 256 [13,15],jj 17 (.build [zN,zN,eN,sN] [(0,1,(kk 7))]),jj 6 (.alloc [zN,zN,eN,sN]),jj 7 (.alloc [zN,zN,eN,sN]),st 4 6 16,st 4 7 17] [0,1,4,5,6,7]) (.seq (.seq (rn [mv 18 0,jj 19 (.bslice 1 [eN] [(0,1,(.c (.string ⟨#[101,108,115,101]⟩)))]),cl 20 269 [18,19]] [0,1,4,5,6,7,20]) (.cond (.t 20) (.seq (rn [mv 21 0,cl 22 277 [21]] [0,1,4,5,6,7]) (rn [mv 23 0,mv 24 1,bk 25 .add 24 1,cl 26 256 [23,25],st 4 7 26] [4,5,6,7])) (.skip))) (.seq (rn [la 27 4 5,la 28 4 6,la 29 4 7,jj 30 (.bslice 3 [zN,zN,eN,sN,zN,zN,eN,sN,zN,zN,eN,sN] [(0,4,(.t 27)),(4,4,(.t 28)),(8,4,(.t 29))]),jj 31 (.build [zN,zN,eN,sN] [(0,1,(kk 3)),(3,1,(.t 30))]),st 4 4 31] [4]) (.ret)))))),false,false,false⟩
@[simp] def F285l0x:PC:=(.seq (.seq (rn [mv 11 0,mv 12 2,cl 13 269 [11,12]] [0,1,2,6,7,13]) (.cond (.t 13) (.skip) (.exit 0))) (.block 1 (.seq (rn [mv 14 0,cl 15 277 [14],jj 16 (.field false 1 1 (.t 15)),mv 8 16] [0,1,2,6,7,8]) (.region (some []) [mv 17 8,⟨some 18,.load true 4 (.t 7),none,[3]⟩,mv 19 1,jj 20 (.callv (.t 19) []),jj 21 (.bslice 2 [zN,zN,eN,sN,zN,zN,eN,sN] [(0,4,(.t 18)),(4,4,(.t 20))]),jj 22 (.build [zN,zN,eN,sN] [(0,1,(kk 14)),(2,1,(.t 17)),(3,1,(.t 21))]),st 4 7 22] [0,1,2,6,7] [3]))))
def F285l0:PC:=F285l0x
theorem qfu:run C q F285l0 fr σ = run C q F285l0x fr σ := rfl
def F285:PFun:=⟨3,[.cell 6 true 4],.seq (rn [jj 6 (.alloc [zN,zN,eN,sN])] [0,1,2,6]) (.seq (rn [mv 9 1,jj 10 (.callv (.t 9) []),jj 7 (.alloc [zN,zN,eN,sN]),st 4 7 10] [0,1,2,6,7]) (.seq (.block 0 (.loop F285l0)) (.seq (rn [la 23 4 7,st 4 6 23] [6]) (.ret)))),false,false,false⟩
def F286:PFun:=⟨2,[.cell 2 true 4],.seq (rn [jj 2 (.alloc [zN,zN,eN,sN])] [0,1,2]) (.seq (rn [l1 3 0,l1 4 1,cl 5 287 [3,4],st 4 2 5] [2]) (.ret)),false,false,false⟩
def F287:PFun:=⟨2,[.cell 4 true 4],.seq (rn [bx 2 0,bx 3 1,jj 4 (.alloc [zN,zN,eN,sN])] [2,3,4]) (.seq (rn [l1 5 2,jj 6 (.mkfn 289 [] [(.t 2),(.t 3)]),jj 7 (.bslice 1 [eN] [(0,1,(.c (.string ⟨#[38,38]⟩)))]),cl 8 285 [5,6,7],st 4 4 8] [4]) (.ret)),false,false,false⟩
def F289:PFun:=⟨2,[.cell 2 true 4],.seq (rn [jj 2 (.alloc [zN,zN,eN,sN])] [0,1,2]) (.seq (rn [l1 3 0,l1 4 1,cl 5 290 [3,4],st 4 2 5] [2]) (.ret)),false,false,false⟩
def F290:PFun:=⟨2,[.cell 4 true 4],.seq (rn [jj 4 (.alloc [zN,zN,eN,sN])] [0,1,4]) (.seq (.seq (rn [mv 5 0,jj 6 (.bslice 1 [eN] [(0,1,(.c (.string ⟨#[33]⟩)))]),cl 7 269 [5,6]] [0,1,4,7]) (.cond (.t 7) (.seq (rn [mv 8 0,mv 9 1,bk 10 .add 9 1,jj 11 (.call 270 [(.t 8),(.c (.string ⟨#[33]⟩)),(.t 10)])] [0,1,4]) (.seq (rn [mv 12 0,mv 13 1,bk 14 .add 13 1,cl 15 290 [12,14],jj 16 (.bslice 1 [zN,zN,eN,sN] [(0,4,(.t 15))]),jj 17 (.build [zN,zN,eN,sN] [(0,1,(kk 13)),(2,1,(.c (.string ⟨#[33]⟩))),(3,1,(.t 16))]),st 4 4 17] [4]) (.ret))) (.skip))) (.seq (rn [mv 18 0,mv 19 1,cl 20 292 [18,19],st 4 4 20] [4]) (.ret))),false,false,false⟩
def F292:PFun:=⟨2,[.cell 4 true 4],.seq (rn [jj 4 (.alloc [zN,zN,eN,sN])] [0,1,4]) (.seq (rn [mv 7 0,mv 8 1,cl 9 297 [7,8],jj 5 (.alloc [zN,zN,eN,sN]),st 4 5 9] [0,1,4,5]) (.seq (.seq (rn [mv 10 0,jj 11 (.bslice 6 [eN,eN,eN,eN,eN,eN] [(0,1,(.c (.string ⟨#[60]⟩))),(1,1,(.c (.string ⟨#[60,61]⟩))),(2,1,(.c (.string ⟨#[62]⟩))),(3,1,(.c (.string ⟨#[62,61]⟩))),(4,1,(.c (.string ⟨#[61,61]⟩))),(5,1,(.c (.string ⟨#[33,61]⟩)))]),cl 12 269 [10,11],jj 13 (.un .not (.t 12))] [0,1,4,5,13]) (.cond (.t 13) (.seq (rn [la 14 4 5,st 4 4 14] [4]) (.ret)) (.skip))) (.seq (rn [mv 15 0,cl 16 277 [15],jj 17 (.field false 1 1 (.t 16)),mv 6 17] [0,1,4,5,6]) (.seq (.region (some []) [mv 18 6,⟨some 19,.load true 4 (.t 5),none,[4]⟩,mv 20 0,mv 21 1,cl 22 297 [20,21],jj 23 (.bslice 2 [zN,zN,eN,sN,zN,zN,eN,sN] [(0,4,(.t 19)),(4,4,(.t 22))]),jj 24 (.build [zN,zN,eN,sN] [(0,1,(kk 14)),(2,1,(.t 18)),(3,1,(.t 23))]),st 4 4 24] [4] [4]) (.ret))))),false,false,false⟩
def F297:PFun:=⟨2,[.cell 4 true 4],.seq (rn [bx 2 0,bx 3 1,jj 4 (.alloc [zN,zN,eN,sN])] [2,3,4]) (.seq (rn [l1 5 2,jj 6 (.mkfn 303 [] [(.t 2),(.t 3)]),jj 7 (.bslice 2 [eN,eN] [(0,1,(.c (.string ⟨#[43]⟩))),(1,1,(.c (.string ⟨#[45]⟩)))]),cl 8 285 [5,6,7],st 4 4 8] [4]) (.ret)),false,false,false⟩
def F303:PFun:=⟨2,[.cell 2 true 4],.seq (rn [jj 2 (.alloc [zN,zN,eN,sN])] [0,1,2]) (.seq (rn [l1 3 0,l1 4 1,cl 5 304 [3,4],st 4 2 5] [2]) (.ret)),false,false,false⟩
def F304:PFun:=⟨2,[.cell 4 true 4],.seq (rn [bx 2 0,bx 3 1,jj 4 (.alloc [zN,zN,eN,sN])] [2,3,4]) (.seq (rn [l1 5 2,jj 6 (.mkfn 307 [] [(.t 2),(.t 3)]),jj 7 (.bslice 2 [eN,eN] [(0,1,(.c (.string ⟨#[42]⟩))),(1,1,(.c (.string ⟨#[47]⟩)))]),cl 8 285 [5,6,7],st 4 4 8] [4]) (.ret)),false,false,false⟩
def F307:PFun:=⟨2,[.cell 2 true 4],.seq (rn [jj 2 (.alloc [zN,zN,eN,sN])] [0,1,2]) (.seq (rn [l1 3 0,l1 4 1,cl 5 308 [3,4],st 4 2 5] [2]) (.ret)),false,false,false⟩
def F308:PFun:=⟨2,[.cell 4 true 4],.seq (rn [jj 4 (.alloc [zN,zN,eN,sN])] [0,1,4]) (.seq (.seq (rn [mv 5 0,jj 6 (.bslice 1 [eN] [(0,1,(.c (.string ⟨#[45]⟩)))]),cl 7 269 [5,6]] [0,1,4,7]) (.cond (.t 7) (.seq (rn [mv 8 0,mv 9 1,bk 10 .add 9 1,jj 11 (.call 270 [(.t 8),(.c (.string ⟨#[45]⟩)),(.t 10)])] [0,1,4]) (.seq (rn [mv 12 0,mv 13 1,bk 14 .add 13 1,cl 15 308 [12,14],jj 16 (.bslice 1 [zN,zN,eN,sN] [(0,4,(.t 15))]),jj 17 (.build [zN,zN,eN,sN] [(0,1,(kk 13)),(2,1,(.c (.string ⟨#[45]⟩))),(3,1,(.t 16))]),st 4 4 17] [4]) (.ret))) (.skip))) (.seq (rn [mv 18 0,mv 19 1,cl 20 309 [18,19],st 4 4 20] [4]) (.ret))),false,false,false⟩
def F309:PFun:=⟨2,[.cell 4 true 4],.seq (rn [jj 4 (.alloc [zN,zN,eN,sN])] [0,1,4]) (.seq (rn [mv 7 0,cl 8 252 [7],jj 5 (.alloc [zN,eN,zN,zN,zN]),st 5 5 8] [0,1,4,5]) (.seq (.block 0 (.seq (rn [fa 10 0 5,l1 11 10,bk 12 .eql 11 4,mv 9 12] [0,1,4,5,9]) (.cond (.t 9) (.seq (rn [mv 13 0,cl 14 277 [13]] [4,5]) (.seq (rn [fa 15 3 5,l1 16 15,jj 17 (.build [zN,zN,eN,sN] [(0,1,(kk 8)),(1,1,(.t 16))]),st 4 4 17] [4]) (.ret))) (.seq (rn [fa 19 0 5,l1 20 19,bk 21 .eql 20 1,mv 18 21] [0,1,4,5,18]) (.cond (.t 18) (.seq (rn [mv 22 0,cl 23 277 [22]] [4,5]) (.seq (rn [fa 24 1 5,l1 25 24,jj 26 (.build [zN,zN,eN,sN] [(0,1,(kk 10)),(2,1,(.t 25))]),st 4 4 26] [4]) (.ret))) (.seq (rn [fa 28 0 5,l1 29 28,bk 30 .eql 29 3,mv 27 30] [0,1,4,5,27]) (.cond (.t 27) (.seq (.region (some []) [fa 31 1 5,⟨some 32,.load false 1 (.t 31),none,[4]⟩,mv 33 0,mv 34 1,cl 35 280 [33,34],jj 36 (.bslice 1 [zN,zN,eN,sN] [(0,4,(.t 35))]),jj 37 (.build [zN,zN,eN,sN] [(0,1,(kk 11)),(2,1,(.t 32)),(3,1,(.t 36))]),st 4 4 37] [4] [4]) (.ret)) (.seq (rn [mv 39 0,jj 40 (.bslice 1 [eN] [(0,1,(.c (.string ⟨#[116,114,117,101]⟩)))]),cl 41 269 [39,40],mv 38 41] [0,1,4,5,38]) (.cond (.t 38) (.seq (rn [mv 42 0,cl 43 277 [42]] [4]) (.seq (rn [jj 44 (.build [zN,zN,eN,sN] [(0,1,(kk 9)),(1,1,(kk 1))]),st 4 4 44] [4]) (.ret))) (.seq (rn [mv 46 0,jj 47 (.bslice 1 [eN] [(0,1,(.c (.string ⟨#[102,97,108,115,101]⟩)))]),cl 48 269 [46,47],mv 45 48] [0,1,4,5,45]) (.cond (.t 45) (.seq (rn [mv 49 0,cl 50 277 [49]] [4]) (.seq (rn [jj 51 (.build [zN,zN,eN,sN] [(0,1,(kk 9))]),st 4 4 51] [4]) (.ret))) (.seq (rn [mv 53 0,jj 54 (.bslice 3 [eN,eN,eN] [(0,1,(.c (.string ⟨#[115,101,108,102]⟩))),(1,1,(.c (.string ⟨#[111,116,104,101,114]⟩))),(2,1,(.c (.string ⟨#[116,105,99,107]⟩)))]),cl 55 269 [53,54],mv 52 55] [0,1,4,5,52]) (.cond (.t 52) (.seq (rn [mv 56 0,cl 57 277 [56]] [4,5]) (.seq (rn [fa 58 1 5,l1 59 58,jj 60 (.build [zN,zN,eN,sN] [(0,1,(kk 12)),(2,1,(.t 59))]),st 4 4 60] [4]) (.ret))) (.skip)))))))))))))) (.seq (rn [mv 61 0,mv 62 1,bk 63 .add 62 1,jj 64 (.call 270 [(.t 61),(.c (.string ⟨#[40]⟩)),(.t 63)])] [0,1,4]) (.seq (rn [mv 65 0,mv 66 1,bk 67 .add 66 1,cl 68 279 [65,67],jj 6 (.alloc [zN,zN,eN,sN]),st 4 6 68] [0,4,6]) (.seq (rn [mv 69 0,jj 70 (.call 253 [(.t 69),(.c (.string ⟨#[41]⟩))])] [4,6]) (.seq (rn [la 71 4 6,st 4 4 71] [4]) (.ret))))))),false,false,false⟩
end Go.Pm.F
end
section
namespace Go.Pm.F
variable(C:Task->Option Res)(q:Nat)(fr:Fr)(σ : S)
def F268:PFun:=⟨2,[.tmp 4],.seq (rn [mx 4 (kk 0)] [0,1]) (.seq (rn [mv 5 0,mv 6 1,cl 7 275 [5,6],mv 4 7] [4]) (.ret)),false,false,false⟩
def F275:PFun:=⟨2,[.tmp 4],.seq (rn [mx 4 (kk 0)] [0,1]) (.seq (rn [mv 5 0,mv 6 1,jj 7 (.idxb (.t 5) (.t 6)),mv 4 7] [4]) (.ret)),false,false,false⟩
def F276:PFun:=⟨2,[.tmp 4],.seq (rn [mx 4 kF] [0,1]) (.seq (rn [mv 5 0,mv 6 1,cl 7 284 [5,6],bk 8 .geq 7 0,mv 4 8] [4]) (.ret)),false,false,false⟩
@[simp] def F284l0x:PC:=(.seq (rn [bn 9 .lss 8 7] [0,1,7,8,9]) (.seq (.cond (.t 9) (.skip) (.exit 0)) (.seq (.block 1 (.seq (rn [mv 10 8,mv 5 10] [0,1,5,7,8]) (.seq (rn [mv 11 1,mv 12 0,mv 13 5,jj 14 (.indexAddr 1 (.t 12) (.t 13)),l1 15 14,bn 16 .eql 11 15] [0,1,5,7,8,16]) (.cond (.t 16) (.seq (rn [mv 17 5,mv 4 17] [4]) (.ret)) (.skip))))) (rn [bk 18 .add 8 1,mv 8 18] [0,1,7,8]))))
def F284l0:PC:=F284l0x
theorem qfx:run C q F284l0 fr σ = run C q F284l0x fr σ := rfl
def F284:PFun:=⟨2,[.tmp 4],.seq (rn [mx 4 (kk 0)] [0,1]) (.seq (.seq (rn [mv 6 0,ls 7 6,mx 8 (kk 0)] [0,1,7,8]) (.block 0 (.loop F284l0))) (.seq (rn [mx 4 (kk (-1))] [4]) (.ret))),false,false,false⟩
end Go.Pm.F
end
section
namespace Go.Pm.F
def tQ:Nat->Option PFun
 |264=>some F264
 |266=>some F266
 |_=>none
end Go.Pm.F
end
namespace Go.Pm
section
open F
def vb(w:List UInt8):List V:=w.map fun b => .dat (.lit (.int .u8 b.toNat))
theorem qqE(w:List UInt8):qaG (vb w)=[]:=by
 induction w with
 |nil=>rfl
 |cons x w ih=>simpa [vb] using ih
theorem qt8(r:Nat->Nat)(w:List UInt8):qdV r (vb w)=vb w:=by
 induction w with
 |nil=>rfl
 |cons x w ih=>simpa [vb] using ih
attribute [local simp] qqE qt8
end
section
open F
def lastC(w:List UInt8):UInt8:=(w.getLast?).getD 0
def wl(w:List UInt8):Bool:=qaJ (lastC w)
def pw(w:List UInt8)(ts:List ByteArray):List UInt8:=w++qar (wl w) ts
theorem qyL:wl []=false:=by decide
theorem qqF(w r:List UInt8)(h:r≠[]):lastC (w++r)=lastC r:=by
 unfold lastC
 rw[List.getLast?_append]
 cases hr:r.getLast? with
 |none=>exact absurd (Yp.1 hr) h
 |some c=>rfl
theorem qsO(w:List UInt8)(t:ByteArray):qcn (wl w) t=wl (w++(gap (wl w) t++byl t)):=by
 unfold qcn
 cases h:byl t with
 |nil=>
  have hs:qaD qaJ t=false:=by rw[qbe,h]; rfl
  simp[gap,hs]
 |cons c r=>
  have hne:c::r≠[]:=by simp
  rw[<- List.append_assoc,show wl (w++gap (wl w) t++c::r)=qaJ (lastC (c::r)) by unfold wl; rw[qqF _ _ hne]]
  unfold lastC
  cases hl:(c::r).getLast? with
  |none=>exact absurd (Yp.1 hl) hne
  |some d=>rfl
theorem qdj(w:List UInt8)(t:ByteArray)(ts:List ByteArray):pw w (t::ts)=pw (w++(gap (wl w) t++byl t)) ts:=by
 unfold pw
 rw[qar,qsO,Wj,Wj]
theorem qe9(w:List UInt8):pw w []=w:=by simp[pw,qar]
theorem qjL(w:List UInt8)(a b:List ByteArray):pw w (a++b)=pw (pw w a) b:=by
 induction a generalizing w with
 |nil=>rw[Wc,qe9]
 |cons t a ih=>rw[Wi,qdj,qdj,ih]
theorem qt9(w:List UInt8)(ts:List ByteArray):w.length<=(pw w ts).length:=by simp[pw]
theorem qsP{t:ByteArray}(h:t.size≠0) : ∃ b,t[0]?=some b/\qaD qaJ t=qaJ b:=by
 have hd:=qhh t 0
 rw[WT] at hd
 cases hb:byl t with
 |nil=>exact absurd (by rw[<- qaU,hb]; rfl) h
 |cons b r=>
  rw[hb] at hd
  exact⟨b,hd,by rw[qbe,hb]; rfl⟩
theorem qv1{t:ByteArray}(h:t.size≠0):t[t.size-1]?=some (lastC (byl t)):=by
 rw[qhh,List.head?_drop,<- qaU,lastC]
 rw[List.getLast?_eq_getElem?]
 cases hg:(byl t)[(byl t).length-1]? with
 |some c=>rfl
 |none=>
  rw[List.getElem?_eq_none_iff] at hg
  have:=qaU t
  omega
attribute [local simp] qqE qt8
end
section
def E.lev:E->Nat
 |.un _ neg _=>qeV neg
 |.bin _ o _ _=>o.prec
 |_=>8
theorem qn9 : ∀ {l:List ByteArray},Ok2 l -> ∀ t∈l,Tg (byl t)
 |[],_,t,h=>by cases h
 |u::l,ho,t,h=>by
  rcases Wu.1 h with rfl|h
  ·exact ho.1
  ·exact qn9 ho.2.2 t h
theorem qkU{s:ByteArray}(h:Tg (byl s)):s.size≠0:=by
 obtain⟨c,r,e,_⟩:=qf1 h
 intro h0
 rw[<- qaU,e] at h0
 cases h0
theorem qrb(ts:List ByteArray):pw [] ts=qar false ts:=by rw[pw,qyL,Wc]
theorem qjV : ∀ (l:List ByteArray) (p:Bool),(∀ t∈l,t.size≠0)->l.length<=(qar p l).length
 |[],p,_=>by simp
 |t::l,p,h=>by
  have:=qjV l (qcn p t) (fun x hx=>h x (WH _ hx))
  have h1:=h t (WQ ..)
  have h2:=qaU t
  simp only[qar,Wd,Wf]
  omega
theorem qfF : ∀ s:Ss,s.good none->s.fo.len<=s.tx.length
 |.nil,_=>by simp[Ss.fo]
 |.assign _ s e r,h=>by have:=qfF r h.2.2.2; simp[Ss.fo,Ss.tx]; omega
 |.store _ s a b r,h=>by have:=qfF r h.2.2.2.2; simp[Ss.fo,Ss.tx]; omega
 |.effect _ a b r,h=>by have:=qfF r h.2.2.2; simp[Ss.fo,Ss.tx]; omega
 |.stop r,h=>by have:=qfF r h.2; simp[Ss.fo,Ss.tx]; omega
 |.cond w _ c b r,h=>by have:=qfF r h.2.2.2; simp[Ss.fo,Ss.tx]; omega
 |.block _ b r,h=>by obtain⟨n,hn,_⟩:=h; cases hn
theorem qrc{b:Ss}(h:b.good (some 1)) : ∃ fb b1,b = .block fb b1 .nil/\b1.good none:=by
 cases b with
 |block fb b1 r=>
  obtain⟨n,hn,h1,h2⟩:=h
  have:n=0:=by simpa using hn.symm
  subst this
  cases r with
  |nil=>exact⟨fb,b1,rfl,h1⟩
  |block _ _ _=>obtain⟨n,hn,_⟩:=h2; simp at hn
  |_=>simp[Ss.good] at h2
 |_=>simp[Ss.good] at h
theorem qwU{b:Ss}(h:b.good (some 2)) : ∃ fb b1 fc b2,b = .block fb b1 (.block fc b2 .nil)/\b1.good none/\b2.good none:=by
 cases b with
 |block fb b1 r=>
  obtain⟨n,hn,h1,h2⟩:=h
  have:n=1:=by simpa using hn.symm
  subst this
  obtain⟨fc,b2,rfl,h3⟩:=qrc h2
  exact⟨fb,b1,fc,b2,rfl,h1,h3⟩
 |_=>simp[Ss.good] at h
def Hd.opt:Hd->Option Ss
 |.none=>Option.none
 |.some _ b=>Option.some b
def Hd.opts(a b c:Hd):Nat->Option Ss
 |0=>a.opt
 |1=>b.opt
 |_=>c.opt
end
end Go.Pm
section
namespace Go.Pm.F
def tR:Nat->Option PFun
 |152=>some F152
 |192=>some F192
 |193=>some F193
 |_=>none
end Go.Pm.F
end
namespace Go.Pm
section
open F
structure RowS(d:D)(l:List ByteArray):Prop where
 len : ∀ σ,V.len σ .sl (.dat d)=some l.length
 at_ : ∀ i:Nat,i<l.length->qae 1 (.dat d) i=some (.dat (.imm (qaV l) i))
 one:V.one (.dat d)=true
 cells:V.cells (.dat d)=[.dat d]
theorem qal(l:List ByteArray)(f:Bool):RowS (.sl (qaV l) l.length f) l where
 len _:=rfl
 at_ i h:=by simp[qae,h]
 one:=rfl
 cells:=rfl
theorem qwJ(s:ByteArray)(i:Nat):s[i]?=s.data.toList[i]?:=by
 by_cases h:i<s.size
 ·rw[getElem?_pos s i h,WM (by rw[WI]; exact h)]
  simp[ByteArray.getElem_eq_getElem_data]
 ·rw[getElem?_neg s i h,W6 (by rw[WI]; exact YN.1 h)]
theorem qpb{s:ByteArray}{i:Nat}(h:i<s.size) : ∃ c,s[i]?=some c/\s.data.toList[i]?=some c:=by
 refine⟨s.data.toList[i]'(by rw[WI]; exact h),?_,WM _⟩
 rw[qwJ]
 exact WM _
end
section
open F
theorem qhe{s:ByteArray}{i:Nat}{c:UInt8}(h:s.data.toList[i]?=some c):(byl s).drop i=c::(byl s).drop (i+1):=by
 have hi:=(We.1 h)
 obtain⟨h1,h2⟩:=hi
 rw[<- h2]
 exact Wy h1
end
section
open F
theorem qni(p:UInt8->Bool) : ∀ l:List UInt8,∀ b∈l.take (qbJ p l),p b=true
 |[],b,h=>by simp[qbJ] at h
 |c::r,b,h=>by
  simp only[qbJ] at h
  split at h
  ·rename_i hc
   rw[List.take_succ_cons] at h
   rcases Wu.1 h with rfl|h
   ·exact hc
   ·exact qni p r b h
  ·simp at h
end
section
open F
theorem qtH(eS eL eR:Nat)(c:UInt8)(r:List UInt8):1<=(tokL eS eL eR (c::r)).1.length/\(tokL eS eL eR (c::r)).1.length<=r.length+1:=by
 have h1:=qgc qaJ (c::r)
 have h2:=qgc qau (c::r)
 simp only[tokL]
 split
 ·rename_i h
  have hw:qaJ c=true:=by simp[qaJ,h]
  have:1<=qbJ qaJ (c::r):=by simp only[qbJ,hw,if_true]; omega
  simp only[WS,Wf] at h1 ⊢
  omega
 split
 ·rename_i h
  have:1<=qbJ qau (c::r):=by simp only[qbJ,h,if_true]; omega
  simp only[WS,Wf] at h2 ⊢
  omega
 split
 ·rename_i h
  have:=qfH h
  rw[qaz] at this
  simp only[WS,Wf] at this ⊢
  omega
 split<;>simp
theorem qmb{s:ByteArray}{i:Nat}(hi:i<s.size)(eS eL eR:Nat):1<=(tokAt eS eL eR s i).s.size/\i+(tokAt eS eL eR s i).s.size<=s.size:=by
 obtain⟨c,h1,h2⟩:=qpb hi
 have hd:=qhe h2
 rw[qd3]
 simp only[qaz]
 rw[hd]
 have:=qtH eS eL eR c ((byl s).drop (i+1))
 rw[W5,qaU] at this
 omega
def qCd:List Tk->List Tk
 |[]=>[]
 |t::r=>if t.bad≠0\/t.s.size=0 then [t] else t::qCd r
end
section
open F
structure Ps where
 i:Nat
 a:Nat
 e:Nat
def qyb(T:List Tk)(i:Nat):Tk:=T.getD i ⟨0,⟨#[]⟩,0⟩
def qS:ByteArray:=bs [63]
end
section
open F
structure TokP(t:Tk):Prop where
 q:t.bad=0->t.s≠qS
 dig:t.bad=0->qaD qau t.s=true->(∀ c∈t.s.data.toList,qau c=true)/\digV t.s.data.toList<=2147483647/\t.s.size<2 ^ 40
structure WfT(T:List Tk):Prop where
 len:T.length<2 ^ 40
 tok : ∀ t∈T,TokP t
 pos : ∀ i,i+1<T.length->(qyb T i).s.size≠0
 last : ∀ i,i+1=T.length->(qyb T i).s=⟨#[]⟩/\(qyb T i).bad=0
structure Gd(T:List Tk)(s:Ps)(ts:List Tk):Prop where
 e:s.e=0
 a:s.a=0
 lt:s.i<T.length
 ts:qCd (T.drop s.i)=ts
structure Er(T:List Tk)(s:Ps)(p c:Nat):Prop where
 lt:s.i<T.length
 c0:c≠0
 or:(s.e=c/\s.a=p)\/(s.e=0/\(qyb T s.i).bad=c/\(qyb T s.i).at_=p)
end
section
open F
section
variable{T:List Tk}{s:Ps}{lv:Nat}
abbrev k1(k n:Int)(y:ByteArray)(ks:D):D := .sl [.lit (.int .i64 k),.lit (.int .i64 n),.lit (.string y),ks] 1 true
abbrev k2(k n:Int)(y:ByteArray)(ks:D)(k' n':Int)(y':ByteArray)(ks':D):D := .sl [.lit (.int .i64 k),.lit (.int .i64 n),.lit (.string y),ks,.lit (.int .i64 k'),.lit (.int .i64 n'),.lit (.string y'),ks'] 2 true
abbrev k3(k n:Int)(y:ByteArray)(ks:D)(k' n':Int)(y':ByteArray)(ks':D)(k'' n'':Int)(y'':ByteArray)(ks'':D):D := .sl [.lit (.int .i64 k),.lit (.int .i64 n),.lit (.string y),ks,.lit (.int .i64 k'),.lit (.int .i64 n'),.lit (.string y'),ks',.lit (.int .i64 k''),.lit (.int .i64 n''),.lit (.string y''),ks''] 3 false
end
end
section
open F
structure N4 where
 k:Int
 n:Int
 s:ByteArray
 d:D
 one:V.one (.dat d)=true
 cl:V.cells (.dat d)=[.dat d]
abbrev rob(r:Nat->N4):Ob := .cells [.int (r 0).k,.int (r 0).n,.str (r 0).s,.dat (r 0).d,.int (r 1).k,.int (r 1).n,.str (r 1).s,.dat (r 1).d,.int (r 2).k,.int (r 2).n,.str (r 2).s,.dat (r 2).d]
def qzX(r:Nat->N4)(k:Nat)(v:N4):Nat->N4:=fun i=>if i=k then v else r i
abbrev qxx:Ob := .cells [.int 0,.int 0,.str ⟨#[]⟩,.dat (.lit (.slice none 0 0)),.int 0,.int 0,.str ⟨#[]⟩,.dat (.lit (.slice none 0 0)),.int 0,.int 0,.str ⟨#[]⟩,.dat (.lit (.slice none 0 0))]
section
variable{T:List Tk}{s:Ps}{r:Nat->N4}
def qfO:Option Ss->N4
 |none=>⟨0,0,⟨#[]⟩,.lit (.slice none 0 0),rfl,rfl⟩
 |some b=>⟨7,0,⟨#[]⟩,kd false b.fo.len b.fo.cells,by simp,by simp⟩
end
end
section
open F
theorem qwN{s:ByteArray}(hl:s.size<2 ^ 30){j:Nat}(hj:j<s.size):TokP (tokAt 12 2 6 s j):=by
 obtain⟨p1,p2⟩:=qmb hj 12 2 6
 obtain⟨c,h1,h2⟩:=qpb hj
 have hd:=qhe h2
 rw[qd3,hd] at p2 ⊢
 generalize (byl s).drop (j+1)=r at *
 have hsz:(bs (tokL 12 2 6 (c::r)).1).size<2 ^ 40:=by simp only at p2; omega
 have start : ∀ (p:UInt8->Bool) (x:UInt8) (w:List UInt8),qaD p (bs (x::w))=p x:=fun p x w=>by rw[qbe,qbM]; rfl
 by_cases hlet:qaZ c=true
 ·have hw:qaJ c=true:=by simp[qaJ,hlet]
  have e:(c::r).take (qbJ qaJ (c::r))=c::r.take (qbJ qaJ r):=by simp[qbJ,hw]
  have ht:(tokL 12 2 6 (c::r)).1=c::r.take (qbJ qaJ r):=by simp only[tokL,hlet,if_true]; exact e
  rw[ht]
  have hnd:qau c=false:=by
   simp only[qau,qaZ,Wv,decide_eq_true_eq,WX,decide_eq_false_iff_not] at hlet ⊢
   omega
  refine⟨fun _ h=>?_,fun _ h=>?_⟩
  ·have:=ql5 h
   simp only[WU] at this
   rw[this.1] at hlet
   exact absurd hlet (by decide)
  ·simp only at h
   rw[start,hnd] at h
   cases h
 ·by_cases hdig:qau c=true
  ·have e:(c::r).take (qbJ qau (c::r))=c::r.take (qbJ qau r):=by simp[qbJ,hdig]
   have ht:tokL 12 2 6 (c::r)=((c::r).take (qbJ qau (c::r)),if 2147483647<digV ((c::r).take (qbJ qau (c::r))) then 6 else 0):=by simp only[tokL,hlet,hdig,if_true,Wo,if_false]
   rw[ht] at hsz ⊢
   refine⟨fun _ h=>?_,fun h _=>⟨fun b hb=>?_,?_,hsz⟩⟩
   ·simp only at h
    rw[e] at h
    have:=ql5 h
    simp only[WU] at this
    rw[this.1] at hdig
    exact absurd hdig (by decide)
   ·exact qni qau (c::r) b hb
   ·simp only at h ⊢
    split at h
    ·cases h
    ·rename_i hb
     exact YN.1 hb
  ·by_cases hp:bs ((c::r).take 2)∈qeg
   ·have ht:tokL 12 2 6 (c::r)=((c::r).take 2,0):=by simp only[tokL,hlet,hdig,if_pos hp,Wo,if_false]
    rw[ht]
    have key : ∀ w:List UInt8,bs w∈qeg->bs w≠qS/\qaD qau (bs w)=false:=fun w hw=>by
     rcases pair_cases hw with rfl|rfl|rfl|rfl|rfl|rfl<;>decide
    obtain⟨k1,k2⟩:=key _ hp
    exact⟨fun _=>k1,fun _ h=>by rw[k2] at h; cases h⟩
   ·by_cases hs:c.toNat∈qkp
    ·have ht:tokL 12 2 6 (c::r)=([c],0):=by simp only[tokL,hlet,hdig,if_neg hp,if_pos hs,Wo,if_false]
     rw[ht]
     refine⟨fun _ h=>?_,fun _ h=>?_⟩
     ·have:=ql5 h
      simp only[WU,and_true] at this
      rw[this] at hs
      exact absurd hs (by decide)
     ·simp only at h
      rw[start] at h
      exact absurd h hdig
    ·have ht:tokL 12 2 6 (c::r)=([c],12):=by simp only[tokL,hlet,hdig,if_neg hp,if_neg hs,Wo,if_false]
     rw[ht]
     exact⟨fun h=>(by cases h),fun h=>(by cases h)⟩
def qk6(s:ByteArray):List Tk:=qcl 12 2 6 s (s.size+1) 0
def qhE(f fi fb:Bool)(s:ByteArray):Rz (Nat->Option Ss):=
 if 2000<s.size then .er 2000 2 else match qdX 12 2 4 f fi fb (10*(qk6 s).length+10) (fun _=>none) (qk6 s) with
  |some x=>x
  |none => .er 0 0
theorem qiW{f fi fb:Bool}{s:ByteArray}(h : ¬ 2000<s.size):qdX 12 2 4 f fi fb (10*(qk6 s).length+10) (fun _=>none) (qk6 s)=some (qhE f fi fb s):=by
 obtain⟨y,hy,_⟩:=qk8 12 2 4 f fi fb (10*(qk6 s).length+10) (fun _=>none) (qk6 s) (by omega)
 unfold qhE
 rw[if_neg h,hy]
abbrev qtd(r:Nat->N4):V := .dat (.agg [.lit (.int .i64 (r 0).k),.lit (.int .i64 (r 0).n),.lit (.string (r 0).s),(r 0).d,.lit (.int .i64 (r 1).k),.lit (.int .i64 (r 1).n),.lit (.string (r 1).s),(r 1).d,.lit (.int .i64 (r 2).k),.lit (.int .i64 (r 2).n),.lit (.string (r 2).s),(r 2).d])
def qn7(f fi fb:Bool)(s:ByteArray):V:=match qhE f fi fb s with
 |.ok h _ => .tup [qtd fun k=>qfO (h k),.int 0,.int 0]
 |.er a c => .tup [qtd fun _=>qfO none,.int a,.int c]
end
section
inductive Red:List ByteArray->List ByteArray->Prop
 |nil:Red [] []
 |keep {t:ByteArray} {l m:List ByteArray} (h:Red l m):Red (t::l) (t::m)
 |del {t:ByteArray} {l m:List ByteArray} (h0:t.size≠0) (h:Red l m):Red (t::l) m
 |dig {t u:ByteArray} {l m:List ByteArray} (h0:u.size<=t.size) (h1 : ∀ p,qcn p u=qcn p t) (h2:qaD qaJ u=qaD qaJ t) (h:Red l m):Red (t::l) (u::m)
end
section
def qpF(g:List UInt8):Prop := ∀ r,qa9 false (g++r)=g.length+qa9 false r
theorem qlb:qpF []:=fun r=>by simp
theorem qpG{c:UInt8}(h:c.toNat=32\/c.toNat=9\/c.toNat=10):qpF [c]:=fun r=>by
 simp only[Wi,Wc,qa9,Wh]
 by_cases h10:c.toNat=10
 ·rw[if_pos h10]; omega
 ·rw[if_neg h10,if_pos (by rcases h with h|h|h; exact .inr (.inl h); exact .inr (.inr h); exact absurd h h10)]; omega
theorem qrX{w:List UInt8}(h:Tg w)(r:List UInt8):qa9 false (w++r)=0:=by
 obtain⟨c,q,hw,h1,h2,h3,h4⟩:=qf1 h
 rw[hw]
 simp[qa9,h1,h2,h3,h4]
def qfJ:List (List UInt8 × ByteArray)->List UInt8
 |[]=>[]
 | (g,t)::r=>g++(byl t++qfJ r)
def Sep(t:ByteArray)(g:List UInt8)(u:ByteArray):Prop:=(∃ c q,g=c::q/\(c.toNat=32\/c.toNat=10\/c.toNat=9\/c.toNat=35))\/(g=[]/\(qcn false t&&qaD qaJ u)=false/\Adj t u)
def OkG:List (List UInt8 × ByteArray)->Prop
 |[]=>True
 | (g,t)::r=>qpF g/\Tg (byl t)/\(∀ p,r.head?=some p->Sep t p.1 p.2)/\OkG r
theorem qlc{w:List UInt8}(h:Tg w){c:UInt8}(hc:c.toNat=32\/c.toNat=10\/c.toNat=9\/c.toNat=35)(r:List UInt8):Fol w (c::r):=by
 have hw:qaJ c=false:=by
  simp only[qaJ,qaZ,qau,Bool.or_eq_false_iff,WX,decide_eq_false_iff_not]
  omega
 have hd:qau c=false:=by
  simp only[qau,WX,decide_eq_false_iff_not]
  omega
 obtain⟨a,q,rfl,-⟩:=qf1 h
 simp only[Fol]
 split
 ·exact hw
 split
 ·exact hd
 ·intro _ hp
  rcases pair_cases hp with h|h|h|h|h|h<;>simp only[WU,and_true] at h<;>rw[h.2] at hc<;>exact absurd hc (by decide)
theorem quH(w:List UInt8):Fol w []:=by cases w<;>trivial
theorem qrY{w:ByteArray}(h:Tg (byl w))(p q:Bool):qcn p w=qcn q w:=by
 obtain⟨c,r,hw,-⟩:=qf1 h
 unfold qcn
 rw[hw]
 cases hl:(c::r).getLast? with
 |none=>simp at hl
 |some b=>rfl
theorem qld (eS eL eR:Nat) : ∀ (l:List (List UInt8 × ByteArray)) (n i:Nat) (tail:List UInt8),OkG l->(∀ p,l.getLast?=some p->Fol (byl p.2) tail)->l.length<=n ->
  ∃ ts,qux eS eL eR n i (qfJ l++tail)=ts++qux eS eL eR (n-l.length) (i+(qfJ l).length) tail /\ ∀ r,Hx (l.map (·.2)) (ts++r) r
 |[],n,i,tail,_,_,_=>⟨[],by simp[qfJ],fun r=>rfl⟩
 | (g,t)::l,0,i,tail,_,_,h=>by simp at h
 | (g,t)::l,n+1,i,tail,ho,hl,h=>by
  obtain⟨hg,ht,ha,ho'⟩:=ho
  have hf:Fol (byl t) (qfJ l++tail):=by
   cases l with
   |nil=>exact hl (g,t) rfl
   |cons u us=>
    obtain⟨g',u⟩:=u
    simp only[qfJ,Wj]
    rcases ha (g',u) rfl with ⟨c,q,h1,h2⟩|⟨h1,h2,h3⟩
    ·simp only at h1
     rw[h1]
     exact qlc ht h2 _
    ·simp only at h1 h2 h3
     rw[h1]
     have:=qsH (p:=false) ht ho'.2.1 h3 (qfJ us++tail)
     rwa [gap,h2] at this
  have hsk:qa9 false (g++(byl t++(qfJ l++tail)))=g.length:=by rw[hg,qrX ht]; omega
  have htk:=qqy eS eL eR ht hf
  have hne:(byl t).length≠0:=by
   obtain⟨c,w,hw,-⟩:=qf1 ht
   rw[hw]; simp
  obtain⟨ts,e1,e2⟩:=qld eS eL eR l n (i+g.length+t.size) tail ho' (fun u hu=>hl u (by
   cases l with
   |nil=>cases hu
   |cons v vs=>rw[Yv]; exact hu)) (by simpa using h)
  refine⟨⟨i+g.length,t,0⟩::ts,?_,fun r=>⟨⟨i+g.length,t,0⟩,ts++r,rfl,rfl,rfl,e2 r⟩⟩
  simp only[qfJ,Wj,qux,hsk,List.drop_left,htk]
  rw[if_neg (by
   rintro (h|h)
   ·exact h rfl
   ·exact hne h)]
  rw[qdg,qaU,e1]
  simp only[Wi,Wd,Wf,qaU]
  congr 3<;>omega
theorem qov (eS eL eR:Nat) {l:List (List UInt8 × ByteArray)} {w:List UInt8} (ho:OkG l) (hw:qpF w) (hsep:w=[] \/ ∃ c q,w=c::q/\(c.toNat=32\/c.toNat=10\/c.toNat=9\/c.toNat=35)) {s:ByteArray} (hs:byl s=qfJ l++w) :
  ∃ e,Hx (l.map (·.2)) (qcl eS eL eR s (s.size+1) 0) [⟨e,⟨#[]⟩,0⟩]:=by
 have htgs : ∀ p∈l,Tg (byl p.2):=by
  induction l with
  |nil=>intro p hp; cases hp
  |cons q l ih=>
   intro p hp
   obtain⟨g,t⟩:=q
   rcases Wu.1 hp with rfl|hp
   ·exact ho.2.1
   ·have hl : ∀ (l:List (List UInt8 × ByteArray)),OkG l -> ∀ p∈l,Tg (byl p.2):=fun l=>by
     induction l with
     |nil=>intro _ p hp; cases hp
     |cons q l ih=>intro h p hp; rcases Wu.1 hp with rfl|hp; exact h.2.1; exact ih h.2.2.2 p hp
    exact hl l ho.2.2.2 p hp
 have hlen:l.length<=(qfJ l).length:=by
  clear ho hs
  induction l with
  |nil=>simp
  |cons q l ih=>
   obtain⟨g,t⟩:=q
   have h1:=htgs (g,t) (WQ ..)
   obtain⟨c,w,hw,-⟩:=qf1 h1
   have:=ih fun p hp=>htgs p (WH _ hp)
   simp only[qfJ,Wd,Wf]
   have h2:1<=(byl t).length:=by simp only at hw; rw[hw]; simp
   omega
 have hsz:s.size=(qfJ l).length+w.length:=by rw[<- qaU,hs,Wd]
 rw[qoh,WT,hs]
 obtain⟨ts,e1,e2⟩:=qld eS eL eR l (s.size+1) 0 w ho (fun p hp=>by
  have ht:=htgs p (List.mem_of_getLast? hp)
  rcases hsep with h|⟨c,q,h1,h2⟩
  ·rw[h]; exact quH _
  ·rw[h1]; exact qlc ht h2 _) (by omega)
 rw[e1]
 obtain⟨k,hk⟩ : ∃ k,s.size+1-l.length=k+1:=⟨s.size-l.length,by omega⟩
 have hend : ∀ j,qux eS eL eR (k+1) j w=[⟨j+w.length,⟨#[]⟩,0⟩]:=fun j=>by
  have h1:qa9 false w=w.length:=by
   have:=hw []
   rw[Wr] at this
   rw[this]; simp[qa9]
  simp only[qux,h1,List.drop_length,tokL]
  rw[if_pos (.inr rfl)]
  rfl
 rw[hk,hend]
 exact⟨_,e2 _⟩
end
end Go.Pm
