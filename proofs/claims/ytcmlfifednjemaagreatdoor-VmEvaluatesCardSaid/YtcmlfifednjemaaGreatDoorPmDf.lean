/- Chapter 15: the program's translator: binary expressions, all expressions. -/
import Derived.Test.YtcmlfifednjemaaGreatDoorPmAL
import Derived.Test.YtcmlfifednjemaaGreatDoorPmCb
import Derived.Test.YtcmlfifednjemaaGreatDoorPmVp21
import Derived.Test.YtcmlfifednjemaaGreatDoorPmE7
import Derived.Test.YtcmlfifednjemaaGreatDoorPmKf
set_option linter.unusedSimpArgs false
set_option linter.unusedVariables false
set_option maxHeartbeats 4000000
namespace Go.Pm
section
open F Gr
set_option maxHeartbeats 2000000
attribute [local simp] qa6 qbu dkey qfN
theorem qpB(A B:Int->Cd)(c:Cd):(c++A c.length)++B (c++A c.length).length=c++sq A B c.length:=by
 simp only[sq,Wo,Wb]
 rw[show ((c.length+(A c.length).length:Nat):Int)=c.length+(A c.length).length by omega]
section
variable{vs:List ByteArray}{a b:E}{A B:Int->Cd}{La Lb:Nat}{e0 e1 e2:Int}
theorem quL(ha:TrOK vs a.node A La)(hb:TrOK vs b.node B Lb)(f:Bool)(c:Cd)(hc:c≠[])(hl:c.length+4*(La+Lb+3)<2^30):Z qae (.call 168 [.ptr 0 0,(E.bin f .and a b).node] (qce vs e0 e1 e2 c))=some (.ret (.tup []) (qce vs e0 e1 e2 (c++(brC A B (fun _=>[(1,0)])) c.length))):=by
 have s1:=qfp .and
 have s2:=qip .and
 have hpa:=ha.pos
 have z:=qnl (vs:=vs) (e0:=e0) (e1:=e1) (e2:=e2) (qsF (k:=14) (n:=0) (s:=(Bop.and).str) (f:=f) (N:=2) (cs:=[.lit (.int .i64 a.kind),.lit (.int .i64 a.num),.lit (.string a.str),a.kids,.lit (.int .i64 b.kind),.lit (.int .i64 b.num),.lit (.string b.str),b.kids]) ha.toTrB rfl (by omega)) (qsG (k:=14) (n:=0) (s:=(Bop.and).str) (f:=f) (N:=2) (cs:=[.lit (.int .i64 a.kind),.lit (.int .i64 a.num),.lit (.string a.str),a.kids,.lit (.int .i64 b.kind),.lit (.int .i64 b.num),.lit (.string b.str),b.kids]) hb.toTrB rfl (by omega)) (qsM) c hc (by omega) ha.pos
 simp only[nbo,qn7] at z
 generalize c++(brC A B (fun _=>[(1,0)])) c.length=c2 at *
 refine qaa (pf:=F168) rfl rfl ?_
 simp[F168,s1,s2,qh9,qpu,z,Wa]
theorem quM(ha:TrOK vs a.node A La)(hb:TrOK vs b.node B Lb)(f:Bool)(hl:4*(La+Lb+3)<2^30):Z qae (.call 168 [.ptr 0 0,(E.bin f .and a b).node] (qdS vs e0 e1 e2))=some (.ret (.tup []) (qg5 vs e0 e1 e2 ((brC A B (fun _=>[(1,0)])) 0))):=by
 have s1:=qfp .and
 have s2:=qip .and
 have hpa:=ha.pos
 have z:=qnm (vs:=vs) (e0:=e0) (e1:=e1) (e2:=e2) (qsF (k:=14) (n:=0) (s:=(Bop.and).str) (f:=f) (N:=2) (cs:=[.lit (.int .i64 a.kind),.lit (.int .i64 a.num),.lit (.string a.str),a.kids,.lit (.int .i64 b.kind),.lit (.int .i64 b.num),.lit (.string b.str),b.kids]) ha.toTrB rfl (by omega)) (quA (k:=14) (n:=0) (s:=(Bop.and).str) (f:=f) (N:=2) (cs:=[.lit (.int .i64 a.kind),.lit (.int .i64 a.num),.lit (.string a.str),a.kids,.lit (.int .i64 b.kind),.lit (.int .i64 b.num),.lit (.string b.str),b.kids]) ha rfl (by omega) (by omega)) (qsG (k:=14) (n:=0) (s:=(Bop.and).str) (f:=f) (N:=2) (cs:=[.lit (.int .i64 a.kind),.lit (.int .i64 a.num),.lit (.string a.str),a.kids,.lit (.int .i64 b.kind),.lit (.int .i64 b.num),.lit (.string b.str),b.kids]) hb.toTrB rfl (by omega)) (qsM) (by omega) ha.pos
 simp only[nbo,qn7] at z
 generalize (brC A B (fun _=>[(1,0)])) 0=c2 at *
 refine qaa (pf:=F168) rfl rfl ?_
 simp[F168,s1,s2,qh9,qpu,z,Wa]
theorem qxf(ha:TrOK vs a.node A La)(hb:TrOK vs b.node B Lb)(f:Bool)(c:Cd)(hc:c≠[])(hl:c.length+4*(La+Lb+3)<2^30):Z qae (.call 168 [.ptr 0 0,(E.bin f .or a b).node] (qce vs e0 e1 e2 c))=some (.ret (.tup []) (qce vs e0 e1 e2 (c++(brC A (fun _=>[(1,1)]) B) c.length))):=by
 have s1:=qfp .or
 have s2:=qip .or
 have hpa:=ha.pos
 have z:=qnn (vs:=vs) (e0:=e0) (e1:=e1) (e2:=e2) (qsH (k:=14) (n:=0) (s:=(Bop.or).str) (f:=f) (N:=2) (cs:=[.lit (.int .i64 a.kind),.lit (.int .i64 a.num),.lit (.string a.str),a.kids,.lit (.int .i64 b.kind),.lit (.int .i64 b.num),.lit (.string b.str),b.kids]) ha.toTrB rfl (by omega)) (qsN) (qsI (k:=14) (n:=0) (s:=(Bop.or).str) (f:=f) (N:=2) (cs:=[.lit (.int .i64 a.kind),.lit (.int .i64 a.num),.lit (.string a.str),a.kids,.lit (.int .i64 b.kind),.lit (.int .i64 b.num),.lit (.string b.str),b.kids]) hb.toTrB rfl (by omega)) c hc (by omega) ha.pos
 simp only[nbo,qn7] at z
 generalize c++(brC A (fun _=>[(1,1)]) B) c.length=c2 at *
 refine qaa (pf:=F168) rfl rfl ?_
 simp[F168,s1,s2,qh9,qpu,z,Wa]
theorem qxg(ha:TrOK vs a.node A La)(hb:TrOK vs b.node B Lb)(f:Bool)(hl:4*(La+Lb+3)<2^30):Z qae (.call 168 [.ptr 0 0,(E.bin f .or a b).node] (qdS vs e0 e1 e2))=some (.ret (.tup []) (qg5 vs e0 e1 e2 ((brC A (fun _=>[(1,1)]) B) 0))):=by
 have s1:=qfp .or
 have s2:=qip .or
 have hpa:=ha.pos
 have z:=qno (vs:=vs) (e0:=e0) (e1:=e1) (e2:=e2) (qsH (k:=14) (n:=0) (s:=(Bop.or).str) (f:=f) (N:=2) (cs:=[.lit (.int .i64 a.kind),.lit (.int .i64 a.num),.lit (.string a.str),a.kids,.lit (.int .i64 b.kind),.lit (.int .i64 b.num),.lit (.string b.str),b.kids]) ha.toTrB rfl (by omega)) (quB (k:=14) (n:=0) (s:=(Bop.or).str) (f:=f) (N:=2) (cs:=[.lit (.int .i64 a.kind),.lit (.int .i64 a.num),.lit (.string a.str),a.kids,.lit (.int .i64 b.kind),.lit (.int .i64 b.num),.lit (.string b.str),b.kids]) ha rfl (by omega) (by omega)) (qsN) (qsI (k:=14) (n:=0) (s:=(Bop.or).str) (f:=f) (N:=2) (cs:=[.lit (.int .i64 a.kind),.lit (.int .i64 a.num),.lit (.string a.str),a.kids,.lit (.int .i64 b.kind),.lit (.int .i64 b.num),.lit (.string b.str),b.kids]) hb.toTrB rfl (by omega)) (by omega) ha.pos
 simp only[nbo,qn7] at z
 generalize (brC A (fun _=>[(1,1)]) B) 0=c2 at *
 refine qaa (pf:=F168) rfl rfl ?_
 simp[F168,s1,s2,qh9,qpu,z,Wa]
theorem qpC(ha:TrOK vs a.node A La)(hb:TrOK vs b.node B Lb)(f:Bool){o:Bop}(h1:qh9 o=false)(h2:qpu o=false)(h3:qrH o=true\/quF o=true)(c:Cd)(hc:c≠[])(hl:c.length+4*(La+Lb+1)<2^30):Z qae (.call 168 [.ptr 0 0,(E.bin f o a b).node] (qce vs e0 e1 e2 c))=some (.ret (.tup []) (qce vs e0 e1 e2 (c++(snC (sq B A) (opI o,0)) c.length))):=by
 have s1:=qfp o
 have s2:=qip o
 have s3:=qnS o
 have s4:=qnT o
 have s5:=qnU o
 have hpa:=ha.pos
 have hpb:=hb.pos
 have z1:Z qae (.call 165 [.ptr 0 0,(E.bin f o a b).node,.int 1] (qce vs e0 e1 e2 c))=_:=qfA (f:=f) (N:=2) (i:=1) (e0:=e0) (e1:=e1) (e2:=e2) hb.toTrB rfl (by omega) c hc (by omega)
 have l1:(c++B c.length).length=c.length+Lb:=by rw[Wb,hb.ln]
 have z2:Z qae (.call 165 [.ptr 0 0,(E.bin f o a b).node,.int 0] (qce vs e0 e1 e2 (c++B c.length)))=_:=qfA (f:=f) (N:=2) (i:=0) (e0:=e0) (e1:=e1) (e2:=e2) ha.toTrB rfl (by omega) (c++B c.length) (qh4 hc) (by omega)
 rw[qpB] at z2
 have l2:(c++sq B A c.length).length<2^30:=by rw[Wb,qa2 hb.ln ha.ln]; omega
 have zo:=qhf o (fun e=>by rw[e] at h1; exact absurd h1 (by decide)) (fun e=>by rw[e] at h2; exact absurd h2 (by decide))
 have z3:=qbW (vs:=vs) (e0:=e0) (e1:=e1) (e2:=e2) (c++sq B A c.length) l2 (opI o) 0
 rw[show (c++sq B A c.length)++[(opI o,(0:Int))]=c++(snC (sq B A) (opI o,0)) c.length by simp[snC]] at z3
 simp only[E.node,qdK,qeV,qeW,qdb] at z1 z2
 generalize c++(snC (sq B A) (opI o,0)) c.length=c5 at *
 generalize c++sq B A c.length=c3 at *
 generalize c++B c.length=c1 at *
 refine qaa (pf:=F168) rfl rfl ?_
 rcases h3 with h3|h3
 ·simp[F168,s1,s2,s3,h1,h2,h3,z1,z2,z3,zo,qa9,qaq,Wa]
 ·cases hg:qrH o with
  |true=>simp[F168,s1,s2,s3,h1,h2,hg,z1,z2,z3,zo,qa9,qaq,Wa]
  |false=>simp[F168,s1,s2,s3,s4,h1,h2,h3,hg,z1,z2,z3,zo,qa9,qaq,Wa]
theorem qxh(ha:TrOK vs a.node A La)(hb:TrOK vs b.node B Lb)(f:Bool){o:Bop}(ho:o = .ne)(c:Cd)(hc:c≠[])(hl:c.length+4*(La+Lb+1)<2^30):Z qae (.call 168 [.ptr 0 0,(E.bin f o a b).node] (qce vs e0 e1 e2 c))=some (.ret (.tup []) (qce vs e0 e1 e2 (c++(snC (snC (sq A B) (16,0)) (17,0)) c.length))):=by
 subst ho
 have s1:=qfp .ne
 have s2:=qip .ne
 have s3:=qnS .ne
 have s4:=qnT .ne
 have s5:=qnU .ne
 have hpa:=ha.pos
 have hpb:=hb.pos
 have z1:Z qae (.call 165 [.ptr 0 0,(E.bin f .ne a b).node,.int 0] (qce vs e0 e1 e2 c))=_:=qfA (f:=f) (N:=2) (i:=0) (e0:=e0) (e1:=e1) (e2:=e2) ha.toTrB rfl (by omega) c hc (by omega)
 have l1:(c++A c.length).length=c.length+La:=by rw[Wb,ha.ln]
 have z2:Z qae (.call 165 [.ptr 0 0,(E.bin f .ne a b).node,.int 1] (qce vs e0 e1 e2 (c++A c.length)))=_:=qfA (f:=f) (N:=2) (i:=1) (e0:=e0) (e1:=e1) (e2:=e2) hb.toTrB rfl (by omega) (c++A c.length) (qh4 hc) (by omega)
 rw[qpB] at z2
 have l2:(c++sq A B c.length).length<2^30:=by rw[Wb,qa2 ha.ln hb.ln]; omega
 have z3:=qbW (vs:=vs) (e0:=e0) (e1:=e1) (e2:=e2) (c++sq A B c.length) l2 16 0
 rw[show (c++sq A B c.length)++[((16:Int),(0:Int))]=c++snC (sq A B) (16,0) c.length by simp[snC]] at z3
 have l3:(c++snC (sq A B) (16,0) c.length).length<2^30:=by rw[Wb,qbv (qa2 ha.ln hb.ln)]; omega
 have z4:=qbW (vs:=vs) (e0:=e0) (e1:=e1) (e2:=e2) (c++snC (sq A B) (16,0) c.length) l3 17 0
 rw[show (c++snC (sq A B) (16,0) c.length)++[((17:Int),(0:Int))]=c++(snC (snC (sq A B) (16,0)) (17,0)) c.length by simp[snC]] at z4
 simp only[E.node,qdK,qeV,qeW,qdb] at z1 z2
 generalize c++(snC (snC (sq A B) (16,0)) (17,0)) c.length=c5 at *
 generalize c++snC (sq A B) (16,0) c.length=c4 at *
 generalize c++sq A B c.length=c3 at *
 generalize c++A c.length=c1 at *
 refine qaa (pf:=F168) rfl rfl ?_
 simp[F168,s1,s2,s3,s4,s5,qh9,qpu,qrH,quF,qxb,z1,z2,z3,z4,qa9,qaq,Wa]
theorem qfB(ha:TrOK vs a.node A La)(hb:TrOK vs b.node B Lb)(f:Bool){o:Bop}(h1:qh9 o=false)(h2:qpu o=false)(h3:qrH o=false)(h4:quF o=false)(h5:qxb o=false)(c:Cd)(hc:c≠[])(hl:c.length+4*(La+Lb+1)<2^30):Z qae (.call 168 [.ptr 0 0,(E.bin f o a b).node] (qce vs e0 e1 e2 c))=some (.ret (.tup []) (qce vs e0 e1 e2 (c++(snC (sq A B) (opI o,0)) c.length))):=by
 have s1:=qfp o
 have s2:=qip o
 have s3:=qnS o
 have s4:=qnT o
 have s5:=qnU o
 have hpa:=ha.pos
 have hpb:=hb.pos
 have z1:Z qae (.call 165 [.ptr 0 0,(E.bin f o a b).node,.int 0] (qce vs e0 e1 e2 c))=_:=qfA (f:=f) (N:=2) (i:=0) (e0:=e0) (e1:=e1) (e2:=e2) ha.toTrB rfl (by omega) c hc (by omega)
 have l1:(c++A c.length).length=c.length+La:=by rw[Wb,ha.ln]
 have z2:Z qae (.call 165 [.ptr 0 0,(E.bin f o a b).node,.int 1] (qce vs e0 e1 e2 (c++A c.length)))=_:=qfA (f:=f) (N:=2) (i:=1) (e0:=e0) (e1:=e1) (e2:=e2) hb.toTrB rfl (by omega) (c++A c.length) (qh4 hc) (by omega)
 rw[qpB] at z2
 have l2:(c++sq A B c.length).length<2^30:=by rw[Wb,qa2 ha.ln hb.ln]; omega
 have zo:=qhf o (fun e=>by rw[e] at h1; exact absurd h1 (by decide)) (fun e=>by rw[e] at h2; exact absurd h2 (by decide))
 have z3:=qbW (vs:=vs) (e0:=e0) (e1:=e1) (e2:=e2) (c++sq A B c.length) l2 (opI o) 0
 rw[show (c++sq A B c.length)++[(opI o,(0:Int))]=c++(snC (sq A B) (opI o,0)) c.length by simp[snC]] at z3
 simp only[E.node,qdK,qeV,qeW,qdb] at z1 z2
 generalize c++(snC (sq A B) (opI o,0)) c.length=c5 at *
 generalize c++sq A B c.length=c3 at *
 generalize c++A c.length=c1 at *
 refine qaa (pf:=F168) rfl rfl ?_
 simp[F168,s1,s2,s3,s4,s5,h1,h2,h3,h4,h5,z1,z2,z3,zo,qa9,qaq,Wa]
theorem qpD(ha:TrOK vs a.node A La)(hb:TrOK vs b.node B Lb)(f:Bool){o:Bop}(h1:qh9 o=false)(h2:qpu o=false)(h3:qrH o=true\/quF o=true)(hl:4*(La+Lb+1)<2^30):Z qae (.call 168 [.ptr 0 0,(E.bin f o a b).node] (qdS vs e0 e1 e2))=some (.ret (.tup []) (qg5 vs e0 e1 e2 ((snC (sq B A) (opI o,0)) 0))):=by
 have s1:=qfp o
 have s2:=qip o
 have s3:=qnS o
 have s4:=qnT o
 have s5:=qnU o
 have hpa:=ha.pos
 have hpb:=hb.pos
 have z1:Z qae (.call 165 [.ptr 0 0,(E.bin f o a b).node,.int 1] (qdS vs e0 e1 e2))=_:=qmU (f:=f) (N:=2) (i:=1) (e0:=e0) (e1:=e1) (e2:=e2) hb rfl (by omega) (by omega)
 have l1:(B 0).length=Lb:=hb.ln 0
 have n1:B 0≠[]:=fun e=>by rw[e] at l1; simp only[Wj] at l1; have:=hb.pos; omega
 have z2:Z qae (.call 165 [.ptr 0 0,(E.bin f o a b).node,.int 0] (qce vs e0 e1 e2 (B 0)))=_:=qfA (f:=f) (N:=2) (i:=0) (e0:=e0) (e1:=e1) (e2:=e2) ha.toTrB rfl (by omega) (B 0) n1 (by omega)
 rw[show B 0++A (B 0).length=sq B A 0 by simp[sq]] at z2
 have l2:(sq B A 0).length<2^30:=by rw[qa2 hb.ln ha.ln]; omega
 have zo:=qhf o (fun e=>by rw[e] at h1; exact absurd h1 (by decide)) (fun e=>by rw[e] at h2; exact absurd h2 (by decide))
 have z3:=qbW (vs:=vs) (e0:=e0) (e1:=e1) (e2:=e2) (sq B A 0) l2 (opI o) 0
 rw[show (sq B A 0)++[(opI o,(0:Int))]=(snC (sq B A) (opI o,0)) 0 by simp[snC]] at z3
 simp only[E.node,qdK,qeV,qeW,qdb] at z1 z2
 generalize (snC (sq B A) (opI o,0)) 0=c5 at *
 generalize sq B A 0=c3 at *
 generalize B 0=c1 at *
 refine qaa (pf:=F168) rfl rfl ?_
 rcases h3 with h3|h3
 ·simp[F168,s1,s2,s3,h1,h2,h3,z1,z2,z3,zo,qa9,qaq,Wa]
 ·cases hg:qrH o with
  |true=>simp[F168,s1,s2,s3,h1,h2,hg,z1,z2,z3,zo,qa9,qaq,Wa]
  |false=>simp[F168,s1,s2,s3,s4,h1,h2,h3,hg,z1,z2,z3,zo,qa9,qaq,Wa]
theorem qxi(ha:TrOK vs a.node A La)(hb:TrOK vs b.node B Lb)(f:Bool){o:Bop}(ho:o = .ne)(hl:4*(La+Lb+1)<2^30):Z qae (.call 168 [.ptr 0 0,(E.bin f o a b).node] (qdS vs e0 e1 e2))=some (.ret (.tup []) (qg5 vs e0 e1 e2 ((snC (snC (sq A B) (16,0)) (17,0)) 0))):=by
 subst ho
 have s1:=qfp .ne
 have s2:=qip .ne
 have s3:=qnS .ne
 have s4:=qnT .ne
 have s5:=qnU .ne
 have hpa:=ha.pos
 have hpb:=hb.pos
 have z1:Z qae (.call 165 [.ptr 0 0,(E.bin f .ne a b).node,.int 0] (qdS vs e0 e1 e2))=_:=qmU (f:=f) (N:=2) (i:=0) (e0:=e0) (e1:=e1) (e2:=e2) ha rfl (by omega) (by omega)
 have l1:(A 0).length=La:=ha.ln 0
 have n1:A 0≠[]:=fun e=>by rw[e] at l1; simp only[Wj] at l1; have:=ha.pos; omega
 have z2:Z qae (.call 165 [.ptr 0 0,(E.bin f .ne a b).node,.int 1] (qce vs e0 e1 e2 (A 0)))=_:=qfA (f:=f) (N:=2) (i:=1) (e0:=e0) (e1:=e1) (e2:=e2) hb.toTrB rfl (by omega) (A 0) n1 (by omega)
 rw[show A 0++B (A 0).length=sq A B 0 by simp[sq]] at z2
 have l2:(sq A B 0).length<2^30:=by rw[qa2 ha.ln hb.ln]; omega
 have z3:=qbW (vs:=vs) (e0:=e0) (e1:=e1) (e2:=e2) (sq A B 0) l2 16 0
 rw[show (sq A B 0)++[((16:Int),(0:Int))]=snC (sq A B) (16,0) 0 by simp[snC]] at z3
 have l3:(snC (sq A B) (16,0) 0).length<2^30:=by rw[qbv (qa2 ha.ln hb.ln)]; omega
 have z4:=qbW (vs:=vs) (e0:=e0) (e1:=e1) (e2:=e2) (snC (sq A B) (16,0) 0) l3 17 0
 rw[show (snC (sq A B) (16,0) 0)++[((17:Int),(0:Int))]=(snC (snC (sq A B) (16,0)) (17,0)) 0 by simp[snC]] at z4
 simp only[E.node,qdK,qeV,qeW,qdb] at z1 z2
 generalize (snC (snC (sq A B) (16,0)) (17,0)) 0=c5 at *
 generalize snC (sq A B) (16,0) 0=c4 at *
 generalize sq A B 0=c3 at *
 generalize A 0=c1 at *
 refine qaa (pf:=F168) rfl rfl ?_
 simp[F168,s1,s2,s3,s4,s5,qh9,qpu,qrH,quF,qxb,z1,z2,z3,z4,qa9,qaq,Wa]
theorem qfC(ha:TrOK vs a.node A La)(hb:TrOK vs b.node B Lb)(f:Bool){o:Bop}(h1:qh9 o=false)(h2:qpu o=false)(h3:qrH o=false)(h4:quF o=false)(h5:qxb o=false)(hl:4*(La+Lb+1)<2^30):Z qae (.call 168 [.ptr 0 0,(E.bin f o a b).node] (qdS vs e0 e1 e2))=some (.ret (.tup []) (qg5 vs e0 e1 e2 ((snC (sq A B) (opI o,0)) 0))):=by
 have s1:=qfp o
 have s2:=qip o
 have s3:=qnS o
 have s4:=qnT o
 have s5:=qnU o
 have hpa:=ha.pos
 have hpb:=hb.pos
 have z1:Z qae (.call 165 [.ptr 0 0,(E.bin f o a b).node,.int 0] (qdS vs e0 e1 e2))=_:=qmU (f:=f) (N:=2) (i:=0) (e0:=e0) (e1:=e1) (e2:=e2) ha rfl (by omega) (by omega)
 have l1:(A 0).length=La:=ha.ln 0
 have n1:A 0≠[]:=fun e=>by rw[e] at l1; simp only[Wj] at l1; have:=ha.pos; omega
 have z2:Z qae (.call 165 [.ptr 0 0,(E.bin f o a b).node,.int 1] (qce vs e0 e1 e2 (A 0)))=_:=qfA (f:=f) (N:=2) (i:=1) (e0:=e0) (e1:=e1) (e2:=e2) hb.toTrB rfl (by omega) (A 0) n1 (by omega)
 rw[show A 0++B (A 0).length=sq A B 0 by simp[sq]] at z2
 have l2:(sq A B 0).length<2^30:=by rw[qa2 ha.ln hb.ln]; omega
 have zo:=qhf o (fun e=>by rw[e] at h1; exact absurd h1 (by decide)) (fun e=>by rw[e] at h2; exact absurd h2 (by decide))
 have z3:=qbW (vs:=vs) (e0:=e0) (e1:=e1) (e2:=e2) (sq A B 0) l2 (opI o) 0
 rw[show (sq A B 0)++[(opI o,(0:Int))]=(snC (sq A B) (opI o,0)) 0 by simp[snC]] at z3
 simp only[E.node,qdK,qeV,qeW,qdb] at z1 z2
 generalize (snC (sq A B) (opI o,0)) 0=c5 at *
 generalize sq A B 0=c3 at *
 generalize A 0=c1 at *
 refine qaa (pf:=F168) rfl rfl ?_
 simp[F168,s1,s2,s3,s4,s5,h1,h2,h3,h4,h5,z1,z2,z3,zo,qa9,qaq,Wa]
end
end
section
open F Gr
set_option maxHeartbeats 2000000
attribute [local simp] qa6 qbu dkey qfN
section
variable{vs:List ByteArray}{a b:E}{A B:Int->Cd}{La Lb:Nat}
theorem qbK (f:Bool) (o:Bop) {K:Nat} (hk:Ln (binC o A B) K) (h0:0<K) (h1 : ∀ (e0 e1 e2:Int) (c:Cd),c≠[]->c.length+4*K<2^30->Z qae (.call 168 [.ptr 0 0,(E.bin f o a b).node] (qce vs e0 e1 e2 c))=some (.ret (.tup []) (qce vs e0 e1 e2 (c++(binC o A B) c.length))))
  (h2 : ∀ (e0 e1 e2:Int),4*K<2^30->Z qae (.call 168 [.ptr 0 0,(E.bin f o a b).node] (qdS vs e0 e1 e2))=some (.ret (.tup []) (qg5 vs e0 e1 e2 ((binC o A B) 0)))):TrOK vs (E.bin f o a b).node (binC o A B) K where
 ln:=hk
 pos:=h0
 one:=fun e0 e1 e2 c hc hl=>by
  have z:=h1 e0 e1 e2 c hc hl
  simp only[E.node,qdK,qeV,qeW,qdb] at z
  generalize c++binC o A B c.length=c2 at *
  refine qaa (pf:=F147) rfl rfl ?_
  simp[F147,z,Wa]
 zero:=fun e0 e1 e2 hl=>by
  have z:=h2 e0 e1 e2 hl
  simp only[E.node,qdK,qeV,qeW,qdb] at z
  generalize binC o A B 0=c2 at *
  refine qaa (pf:=F147) rfl rfl ?_
  simp[F147,z,Wa]
theorem qvZ(ha:TrOK vs a.node A La)(hb:TrOK vs b.node B Lb)(f:Bool)(o:Bop) : ∃ K,TrOK vs (E.bin f o a b).node (binC o A B) K:=by
 have h1:Ln (fun _=>[((1:Int),(0:Int))]) 1:=fun _=>rfl
 have h1':Ln (fun _=>[((1:Int),(1:Int))]) 1:=fun _=>rfl
 have pa:=ha.pos
 have pb:=hb.pos
 cases o
 case and=>exact⟨_,qbK f .and (qin ha.ln hb.ln h1) (by omega) (fun e0 e1 e2 c hc hl=>quL ha hb f c hc (by omega)) (fun e0 e1 e2 hl=>quM ha hb f (by omega))⟩
 case or=>exact⟨_,qbK f .or (qin ha.ln h1' hb.ln) (by omega) (fun e0 e1 e2 c hc hl=>qxf ha hb f c hc (by omega)) (fun e0 e1 e2 hl=>qxg ha hb f (by omega))⟩
 case gt=>exact⟨_,qbK f .gt (qbv (qa2 hb.ln ha.ln)) (by omega) (fun e0 e1 e2 c hc hl=>qpC ha hb f (o := .gt) rfl rfl (.inl rfl) c hc (by omega)) (fun e0 e1 e2 hl=>qpD ha hb f (o := .gt) rfl rfl (.inl rfl) (by omega))⟩
 case ge=>exact⟨_,qbK f .ge (qbv (qa2 hb.ln ha.ln)) (by omega) (fun e0 e1 e2 c hc hl=>qpC ha hb f (o := .ge) rfl rfl (.inr rfl) c hc (by omega)) (fun e0 e1 e2 hl=>qpD ha hb f (o := .ge) rfl rfl (.inr rfl) (by omega))⟩
 case ne=>exact⟨_,qbK f .ne (qbv (qbv (qa2 ha.ln hb.ln))) (by omega) (fun e0 e1 e2 c hc hl=>qxh ha hb f rfl c hc (by omega)) (fun e0 e1 e2 hl=>qxi ha hb f rfl (by omega))⟩
 case add=>exact⟨_,qbK f .add (qbv (qa2 ha.ln hb.ln)) (by omega) (fun e0 e1 e2 c hc hl=>qfB ha hb f (o := .add) rfl rfl rfl rfl rfl c hc (by omega)) (fun e0 e1 e2 hl=>qfC ha hb f (o := .add) rfl rfl rfl rfl rfl (by omega))⟩
 case sub=>exact⟨_,qbK f .sub (qbv (qa2 ha.ln hb.ln)) (by omega) (fun e0 e1 e2 c hc hl=>qfB ha hb f (o := .sub) rfl rfl rfl rfl rfl c hc (by omega)) (fun e0 e1 e2 hl=>qfC ha hb f (o := .sub) rfl rfl rfl rfl rfl (by omega))⟩
 case mul=>exact⟨_,qbK f .mul (qbv (qa2 ha.ln hb.ln)) (by omega) (fun e0 e1 e2 c hc hl=>qfB ha hb f (o := .mul) rfl rfl rfl rfl rfl c hc (by omega)) (fun e0 e1 e2 hl=>qfC ha hb f (o := .mul) rfl rfl rfl rfl rfl (by omega))⟩
 case div=>exact⟨_,qbK f .div (qbv (qa2 ha.ln hb.ln)) (by omega) (fun e0 e1 e2 c hc hl=>qfB ha hb f (o := .div) rfl rfl rfl rfl rfl c hc (by omega)) (fun e0 e1 e2 hl=>qfC ha hb f (o := .div) rfl rfl rfl rfl rfl (by omega))⟩
 case lt=>exact⟨_,qbK f .lt (qbv (qa2 ha.ln hb.ln)) (by omega) (fun e0 e1 e2 c hc hl=>qfB ha hb f (o := .lt) rfl rfl rfl rfl rfl c hc (by omega)) (fun e0 e1 e2 hl=>qfC ha hb f (o := .lt) rfl rfl rfl rfl rfl (by omega))⟩
 case le=>exact⟨_,qbK f .le (qbv (qa2 ha.ln hb.ln)) (by omega) (fun e0 e1 e2 c hc hl=>qfB ha hb f (o := .le) rfl rfl rfl rfl rfl c hc (by omega)) (fun e0 e1 e2 hl=>qfC ha hb f (o := .le) rfl rfl rfl rfl rfl (by omega))⟩
 case eq=>exact⟨_,qbK f .eq (qbv (qa2 ha.ln hb.ln)) (by omega) (fun e0 e1 e2 c hc hl=>qfB ha hb f (o := .eq) rfl rfl rfl rfl rfl c hc (by omega)) (fun e0 e1 e2 hl=>qfC ha hb f (o := .eq) rfl rfl rfl rfl rfl (by omega))⟩
theorem qn1 : ∀ e:E,e.fine->e.inV vs -> ∃ L,TrOK vs e.node (qat vs e) L
 |.int n,_,_=>⟨_,qw4 n⟩
 |.bool n,_,_=>⟨_,quv n⟩
 |.var s,_,g=>⟨_,qw5 g⟩
 |.name s,_,_=>⟨_,quw s⟩
 |.field f s e,h,g=>let ⟨_,k⟩:=qn1 e h.2.1 g; ⟨_,qrw f h.1 k⟩
 |.un f true e,h,g=>let ⟨_,k⟩:=qn1 e h.1 g; ⟨_,qnM f k⟩
 |.un f false e,h,g=>let ⟨_,k⟩:=qn1 e h.1 g; ⟨_,qlP f k⟩
 |.bin f o a b,h,g=>let ⟨_,k⟩:=qn1 a h.1 g.1; let ⟨_,k'⟩:=qn1 b h.2.1 g.2; qvZ k k' f o
end
end
section
open F Gr
set_option maxHeartbeats 2000000
attribute [local simp] qa6 qbu dkey qfN
section
variable{vs:List ByteArray}{a b:E}{A B:Int->Cd}{La Lb:Nat}{e0 e1 e2:Int}
theorem qpv(f:Bool){s:ByteArray}(hs:s∈vs)(ha:TrOK vs a.node A La):TrOK vs (nd 1 0 s f (a.fo .nil)) (snC A (3,ixI vs s)) (La+1) where
 ln:=qbv ha.ln
 pos:=by omega
 one:=fun e0 e1 e2 c hc hl=>by
  have hpa:=ha.pos
  have zf:=qhB s vs 0 hs
  rw[show ixI vs s+((0:Nat):Int)=ixI vs s by omega] at zf
  have z1:Z qae (.call 165 [.ptr 0 0,.dat (.agg [.lit (.int .i64 1),.lit (.int .i64 0),.lit (.string s),.sl [.lit (.int .i64 a.kind),.lit (.int .i64 a.num),.lit (.string a.str),a.kids] 1 f]),.int 0] (qce vs e0 e1 e2 c))=_:=qfA (f:=f) (N:=1) (i:=0) (e0:=e0) (e1:=e1) (e2:=e2) ha.toTrB rfl (by omega) c hc (by omega)
  have l1:(c++A c.length).length<2^30:=by rw[Wb,ha.ln]; omega
  have z3:=qbW (vs:=vs) (e0:=e0) (e1:=e1) (e2:=e2) (c++A c.length) (by omega) 3 (ixI vs s)
  rw[show (c++A c.length)++[((3:Int),(ixI vs s:Int))]=c++(snC A (3,ixI vs s)) c.length by simp[snC]] at z3
  generalize c++(snC A (3,ixI vs s)) c.length=c5 at *
  generalize c++A c.length=c1 at *
  have zs:Z qae (.call 169 [.ptr 0 0,.dat (.agg [.lit (.int .i64 1),.lit (.int .i64 0),.lit (.string s),.sl [.lit (.int .i64 a.kind),.lit (.int .i64 a.num),.lit (.string a.str),a.kids] 1 f])] (qce vs e0 e1 e2 c))=some (.ret (.tup []) (qce vs e0 e1 e2 c5)):=by
   refine qaa (pf:=F169) rfl rfl ?_
   simp[F169,z1,z3,zf,qep,qa9,qaq,Wa]
  refine qaa (pf:=F147) rfl rfl ?_
  simp[F147,zs,Wa]
 zero:=fun e0 e1 e2 hl=>by
  have hpa:=ha.pos
  have zf:=qhB s vs 0 hs
  rw[show ixI vs s+((0:Nat):Int)=ixI vs s by omega] at zf
  have z1:Z qae (.call 165 [.ptr 0 0,.dat (.agg [.lit (.int .i64 1),.lit (.int .i64 0),.lit (.string s),.sl [.lit (.int .i64 a.kind),.lit (.int .i64 a.num),.lit (.string a.str),a.kids] 1 f]),.int 0] (qdS vs e0 e1 e2))=_:=qmU (f:=f) (N:=1) (i:=0) (e0:=e0) (e1:=e1) (e2:=e2) ha rfl (by omega) (by omega)
  have l1:(A 0).length<2^30:=by rw[ha.ln]; omega
  have z3:=qbW (vs:=vs) (e0:=e0) (e1:=e1) (e2:=e2) (A 0) (by omega) 3 (ixI vs s)
  rw[show (A 0)++[((3:Int),(ixI vs s:Int))]=(snC A (3,ixI vs s)) 0 by simp[snC]] at z3
  generalize (snC A (3,ixI vs s)) 0=c5 at *
  generalize A 0=c1 at *
  have zs:Z qae (.call 169 [.ptr 0 0,.dat (.agg [.lit (.int .i64 1),.lit (.int .i64 0),.lit (.string s),.sl [.lit (.int .i64 a.kind),.lit (.int .i64 a.num),.lit (.string a.str),a.kids] 1 f])] (qdS vs e0 e1 e2))=some (.ret (.tup []) (qg5 vs e0 e1 e2 c5)):=by
   refine qaa (pf:=F169) rfl rfl ?_
   simp[F169,z1,z3,zf,qep,qa9,qaq,Wa]
  refine qaa (pf:=F147) rfl rfl ?_
  simp[F147,zs,Wa]
theorem qrI(f:Bool){s:ByteArray}(hs:s∈qdB)(ha:TrOK vs a.node A La)(hb:TrOK vs b.node B Lb):TrOK vs (nd 2 0 s f (a.fo (b.fo .nil))) (snC (sq A B) (5,fieldI s)) (La+Lb+1) where
 ln:=qbv (qa2 ha.ln hb.ln)
 pos:=by omega
 one:=fun e0 e1 e2 c hc hl=>by
  have hpa:=ha.pos
  have hpb:=hb.pos
  have zf:=qhg hs
  have z1:Z qae (.call 165 [.ptr 0 0,.dat (.agg [.lit (.int .i64 2),.lit (.int .i64 0),.lit (.string s),.sl [.lit (.int .i64 a.kind),.lit (.int .i64 a.num),.lit (.string a.str),a.kids,.lit (.int .i64 b.kind),.lit (.int .i64 b.num),.lit (.string b.str),b.kids] 2 f]),.int 0] (qce vs e0 e1 e2 c))=_:=qfA (f:=f) (N:=2) (i:=0) (e0:=e0) (e1:=e1) (e2:=e2) ha.toTrB rfl (by omega) c hc (by omega)
  have l1:(c++A c.length).length<2^30:=by rw[Wb,ha.ln]; omega
  have l1':(c++A c.length).length=c.length+La:=by rw[Wb,ha.ln]
  have z2:Z qae (.call 165 [.ptr 0 0,.dat (.agg [.lit (.int .i64 2),.lit (.int .i64 0),.lit (.string s),.sl [.lit (.int .i64 a.kind),.lit (.int .i64 a.num),.lit (.string a.str),a.kids,.lit (.int .i64 b.kind),.lit (.int .i64 b.num),.lit (.string b.str),b.kids] 2 f]),.int 1] (qce vs e0 e1 e2 (c++A c.length)))=_:=qfA (f:=f) (N:=2) (i:=1) (e0:=e0) (e1:=e1) (e2:=e2) hb.toTrB rfl (by omega) (c++A c.length) (qh4 hc) (by omega)
  rw[qpB] at z2
  have l2:(c++sq A B c.length).length<2^30:=by rw[Wb,qa2 ha.ln hb.ln]; omega
  have z3:=qbW (vs:=vs) (e0:=e0) (e1:=e1) (e2:=e2) (c++sq A B c.length) l2 5 (fieldI s)
  rw[show (c++sq A B c.length)++[((5:Int),(fieldI s:Int))]=c++(snC (sq A B) (5,fieldI s)) c.length by simp[snC]] at z3
  generalize c++(snC (sq A B) (5,fieldI s)) c.length=c5 at *
  generalize c++sq A B c.length=c3 at *
  generalize c++A c.length=c1 at *
  have zs:Z qae (.call 169 [.ptr 0 0,.dat (.agg [.lit (.int .i64 2),.lit (.int .i64 0),.lit (.string s),.sl [.lit (.int .i64 a.kind),.lit (.int .i64 a.num),.lit (.string a.str),a.kids,.lit (.int .i64 b.kind),.lit (.int .i64 b.num),.lit (.string b.str),b.kids] 2 f])] (qce vs e0 e1 e2 c))=some (.ret (.tup []) (qce vs e0 e1 e2 c5)):=by
   refine qaa (pf:=F169) rfl rfl ?_
   simp[F169,z1,z2,z3,zf,qep,qa9,qaq,Wa]
  refine qaa (pf:=F147) rfl rfl ?_
  simp[F147,zs,Wa]
 zero:=fun e0 e1 e2 hl=>by
  have hpa:=ha.pos
  have hpb:=hb.pos
  have zf:=qhg hs
  have z1:Z qae (.call 165 [.ptr 0 0,.dat (.agg [.lit (.int .i64 2),.lit (.int .i64 0),.lit (.string s),.sl [.lit (.int .i64 a.kind),.lit (.int .i64 a.num),.lit (.string a.str),a.kids,.lit (.int .i64 b.kind),.lit (.int .i64 b.num),.lit (.string b.str),b.kids] 2 f]),.int 0] (qdS vs e0 e1 e2))=_:=qmU (f:=f) (N:=2) (i:=0) (e0:=e0) (e1:=e1) (e2:=e2) ha rfl (by omega) (by omega)
  have l1:(A 0).length<2^30:=by rw[ha.ln]; omega
  have n1:A 0≠[]:=fun e=>by have:=ha.ln 0; rw[e] at this; simp only[Wj] at this; omega
  have l1':=ha.ln 0
  have z2:Z qae (.call 165 [.ptr 0 0,.dat (.agg [.lit (.int .i64 2),.lit (.int .i64 0),.lit (.string s),.sl [.lit (.int .i64 a.kind),.lit (.int .i64 a.num),.lit (.string a.str),a.kids,.lit (.int .i64 b.kind),.lit (.int .i64 b.num),.lit (.string b.str),b.kids] 2 f]),.int 1] (qce vs e0 e1 e2 (A 0)))=_:=qfA (f:=f) (N:=2) (i:=1) (e0:=e0) (e1:=e1) (e2:=e2) hb.toTrB rfl (by omega) (A 0) n1 (by omega)
  rw[show A 0++B (A 0).length=sq A B 0 by simp[sq]] at z2
  have l2:(sq A B 0).length<2^30:=by rw[qa2 ha.ln hb.ln]; omega
  have z3:=qbW (vs:=vs) (e0:=e0) (e1:=e1) (e2:=e2) (sq A B 0) l2 5 (fieldI s)
  rw[show (sq A B 0)++[((5:Int),(fieldI s:Int))]=(snC (sq A B) (5,fieldI s)) 0 by simp[snC]] at z3
  generalize (snC (sq A B) (5,fieldI s)) 0=c5 at *
  generalize sq A B 0=c3 at *
  generalize A 0=c1 at *
  have zs:Z qae (.call 169 [.ptr 0 0,.dat (.agg [.lit (.int .i64 2),.lit (.int .i64 0),.lit (.string s),.sl [.lit (.int .i64 a.kind),.lit (.int .i64 a.num),.lit (.string a.str),a.kids,.lit (.int .i64 b.kind),.lit (.int .i64 b.num),.lit (.string b.str),b.kids] 2 f])] (qdS vs e0 e1 e2))=some (.ret (.tup []) (qg5 vs e0 e1 e2 c5)):=by
   refine qaa (pf:=F169) rfl rfl ?_
   simp[F169,z1,z2,z3,zf,qep,qa9,qaq,Wa]
  refine qaa (pf:=F147) rfl rfl ?_
  simp[F147,zs,Wa]
theorem qpw(f:Bool)(ha:TrOK vs a.node A La)(hb:TrOK vs b.node B Lb):TrOK vs (nd 5 0 ⟨#[]⟩ f (a.fo (b.fo .nil))) (snC (sq A B) (20,0)) (La+Lb+1) where
 ln:=qbv (qa2 ha.ln hb.ln)
 pos:=by omega
 one:=fun e0 e1 e2 c hc hl=>by
  have hpa:=ha.pos
  have hpb:=hb.pos
  have z1:Z qae (.call 165 [.ptr 0 0,.dat (.agg [.lit (.int .i64 5),.lit (.int .i64 0),.lit (.string ⟨#[]⟩),.sl [.lit (.int .i64 a.kind),.lit (.int .i64 a.num),.lit (.string a.str),a.kids,.lit (.int .i64 b.kind),.lit (.int .i64 b.num),.lit (.string b.str),b.kids] 2 f]),.int 0] (qce vs e0 e1 e2 c))=_:=qfA (f:=f) (N:=2) (i:=0) (e0:=e0) (e1:=e1) (e2:=e2) ha.toTrB rfl (by omega) c hc (by omega)
  have l1:(c++A c.length).length<2^30:=by rw[Wb,ha.ln]; omega
  have l1':(c++A c.length).length=c.length+La:=by rw[Wb,ha.ln]
  have z2:Z qae (.call 165 [.ptr 0 0,.dat (.agg [.lit (.int .i64 5),.lit (.int .i64 0),.lit (.string ⟨#[]⟩),.sl [.lit (.int .i64 a.kind),.lit (.int .i64 a.num),.lit (.string a.str),a.kids,.lit (.int .i64 b.kind),.lit (.int .i64 b.num),.lit (.string b.str),b.kids] 2 f]),.int 1] (qce vs e0 e1 e2 (c++A c.length)))=_:=qfA (f:=f) (N:=2) (i:=1) (e0:=e0) (e1:=e1) (e2:=e2) hb.toTrB rfl (by omega) (c++A c.length) (qh4 hc) (by omega)
  rw[qpB] at z2
  have l2:(c++sq A B c.length).length<2^30:=by rw[Wb,qa2 ha.ln hb.ln]; omega
  have z3:=qbW (vs:=vs) (e0:=e0) (e1:=e1) (e2:=e2) (c++sq A B c.length) l2 20 (0)
  rw[show (c++sq A B c.length)++[((20:Int),(0:Int))]=c++(snC (sq A B) (20,0)) c.length by simp[snC]] at z3
  generalize c++(snC (sq A B) (20,0)) c.length=c5 at *
  generalize c++sq A B c.length=c3 at *
  generalize c++A c.length=c1 at *
  have zs:Z qae (.call 169 [.ptr 0 0,.dat (.agg [.lit (.int .i64 5),.lit (.int .i64 0),.lit (.string ⟨#[]⟩),.sl [.lit (.int .i64 a.kind),.lit (.int .i64 a.num),.lit (.string a.str),a.kids,.lit (.int .i64 b.kind),.lit (.int .i64 b.num),.lit (.string b.str),b.kids] 2 f])] (qce vs e0 e1 e2 c))=some (.ret (.tup []) (qce vs e0 e1 e2 c5)):=by
   refine qaa (pf:=F169) rfl rfl ?_
   simp[F169,z1,z2,z3,qep,qa9,qaq,Wa]
  refine qaa (pf:=F147) rfl rfl ?_
  simp[F147,zs,Wa]
 zero:=fun e0 e1 e2 hl=>by
  have hpa:=ha.pos
  have hpb:=hb.pos
  have z1:Z qae (.call 165 [.ptr 0 0,.dat (.agg [.lit (.int .i64 5),.lit (.int .i64 0),.lit (.string ⟨#[]⟩),.sl [.lit (.int .i64 a.kind),.lit (.int .i64 a.num),.lit (.string a.str),a.kids,.lit (.int .i64 b.kind),.lit (.int .i64 b.num),.lit (.string b.str),b.kids] 2 f]),.int 0] (qdS vs e0 e1 e2))=_:=qmU (f:=f) (N:=2) (i:=0) (e0:=e0) (e1:=e1) (e2:=e2) ha rfl (by omega) (by omega)
  have l1:(A 0).length<2^30:=by rw[ha.ln]; omega
  have n1:A 0≠[]:=fun e=>by have:=ha.ln 0; rw[e] at this; simp only[Wj] at this; omega
  have l1':=ha.ln 0
  have z2:Z qae (.call 165 [.ptr 0 0,.dat (.agg [.lit (.int .i64 5),.lit (.int .i64 0),.lit (.string ⟨#[]⟩),.sl [.lit (.int .i64 a.kind),.lit (.int .i64 a.num),.lit (.string a.str),a.kids,.lit (.int .i64 b.kind),.lit (.int .i64 b.num),.lit (.string b.str),b.kids] 2 f]),.int 1] (qce vs e0 e1 e2 (A 0)))=_:=qfA (f:=f) (N:=2) (i:=1) (e0:=e0) (e1:=e1) (e2:=e2) hb.toTrB rfl (by omega) (A 0) n1 (by omega)
  rw[show A 0++B (A 0).length=sq A B 0 by simp[sq]] at z2
  have l2:(sq A B 0).length<2^30:=by rw[qa2 ha.ln hb.ln]; omega
  have z3:=qbW (vs:=vs) (e0:=e0) (e1:=e1) (e2:=e2) (sq A B 0) l2 20 (0)
  rw[show (sq A B 0)++[((20:Int),(0:Int))]=(snC (sq A B) (20,0)) 0 by simp[snC]] at z3
  generalize (snC (sq A B) (20,0)) 0=c5 at *
  generalize sq A B 0=c3 at *
  generalize A 0=c1 at *
  have zs:Z qae (.call 169 [.ptr 0 0,.dat (.agg [.lit (.int .i64 5),.lit (.int .i64 0),.lit (.string ⟨#[]⟩),.sl [.lit (.int .i64 a.kind),.lit (.int .i64 a.num),.lit (.string a.str),a.kids,.lit (.int .i64 b.kind),.lit (.int .i64 b.num),.lit (.string b.str),b.kids] 2 f])] (qdS vs e0 e1 e2))=some (.ret (.tup []) (qg5 vs e0 e1 e2 c5)):=by
   refine qaa (pf:=F169) rfl rfl ?_
   simp[F169,z1,z2,z3,qep,qa9,qaq,Wa]
  refine qaa (pf:=F147) rfl rfl ?_
  simp[F147,zs,Wa]
theorem quH(f:Bool):TrOK vs (nd 6 0 ⟨#[]⟩ f .nil) (fun _=>[(21,0)]) 1 where
 ln:=fun _=>rfl
 pos:=by omega
 one:=fun e0 e1 e2 c hc hl=>by
  have z:=qbW (vs:=vs) (e0:=e0) (e1:=e1) (e2:=e2) c (by omega) 21 0
  generalize c++[((21:Int),(0:Int))]=c2 at *
  have zs:Z qae (.call 169 [.ptr 0 0,.dat (.agg [.lit (.int .i64 6),.lit (.int .i64 0),.lit (.string ⟨#[]⟩),.lit (.slice none 0 0)])] (qce vs e0 e1 e2 c))=some (.ret (.tup []) (qce vs e0 e1 e2 c2)):=by
   refine qaa (pf:=F169) rfl rfl ?_
   simp[F169,z,Wa]
  refine qaa (pf:=F147) rfl rfl ?_
  simp[F147,zs,Wa]
 zero:=fun e0 e1 e2 hl=>by
  have z:=qkj (vs:=vs) (e0:=e0) (e1:=e1) (e2:=e2) 21 0
  generalize [((21:Int),(0:Int))]=c2 at *
  have zs:Z qae (.call 169 [.ptr 0 0,.dat (.agg [.lit (.int .i64 6),.lit (.int .i64 0),.lit (.string ⟨#[]⟩),.lit (.slice none 0 0)])] (qdS vs e0 e1 e2))=some (.ret (.tup []) (qg5 vs e0 e1 e2 c2)):=by
   refine qaa (pf:=F169) rfl rfl ?_
   simp[F169,z,Wa]
  refine qaa (pf:=F147) rfl rfl ?_
  simp[F147,zs,Wa]
theorem qzh (f f1 f2:Bool) {x y:Fo} {X Y:Int->Cd} {Lx Ly:Nat} (ha:TrOK vs a.node A La) (hx:TrB vs (nd 7 0 ⟨#[]⟩ f1 x) X Lx) (hy:TrB vs (nd 7 0 ⟨#[]⟩ f2 y) Y Ly) :
  TrOK vs (nd 3 0 ⟨#[]⟩ f (a.fo (.cons 7 0 ⟨#[]⟩ f1 x (.cons 7 0 ⟨#[]⟩ f2 y .nil)))) (brC A X Y) (La+Lx+Ly+2) where
 ln:=qin ha.ln hx.ln hy.ln
 pos:=by omega
 one:=fun e0 e1 e2 c hc hl=>by
  have hpa:=ha.pos
  have z:=qnp (vs:=vs) (e0:=e0) (e1:=e1) (e2:=e2) (qsJ (k:=3) (n:=0) (s:=⟨#[]⟩) (f:=f) (N:=3) (cs:=[.lit (.int .i64 a.kind),.lit (.int .i64 a.num),.lit (.string a.str),a.kids,.lit (.int .i64 7),.lit (.int .i64 0),.lit (.string ⟨#[]⟩),kd f1 x.len x.cells,.lit (.int .i64 7),.lit (.int .i64 0),.lit (.string ⟨#[]⟩),kd f2 y.len y.cells]) ha.toTrB rfl (by omega)) (qsK (k:=3) (n:=0) (s:=⟨#[]⟩) (f:=f) (N:=3) (cs:=[.lit (.int .i64 a.kind),.lit (.int .i64 a.num),.lit (.string a.str),a.kids,.lit (.int .i64 7),.lit (.int .i64 0),.lit (.string ⟨#[]⟩),kd f1 x.len x.cells,.lit (.int .i64 7),.lit (.int .i64 0),.lit (.string ⟨#[]⟩),kd f2 y.len y.cells]) hx rfl (by omega)) (qsL (k:=3) (n:=0) (s:=⟨#[]⟩) (f:=f) (N:=3) (cs:=[.lit (.int .i64 a.kind),.lit (.int .i64 a.num),.lit (.string a.str),a.kids,.lit (.int .i64 7),.lit (.int .i64 0),.lit (.string ⟨#[]⟩),kd f1 x.len x.cells,.lit (.int .i64 7),.lit (.int .i64 0),.lit (.string ⟨#[]⟩),kd f2 y.len y.cells]) hy rfl (by omega)) c hc (by omega) ha.pos
  simp only[nbo,qn7] at z
  generalize c++brC A X Y c.length=c5 at *
  have zs:Z qae (.call 169 [.ptr 0 0,.dat (.agg [.lit (.int .i64 3),.lit (.int .i64 0),.lit (.string ⟨#[]⟩),.sl [.lit (.int .i64 a.kind),.lit (.int .i64 a.num),.lit (.string a.str),a.kids,.lit (.int .i64 7),.lit (.int .i64 0),.lit (.string ⟨#[]⟩),kd f1 x.len x.cells,.lit (.int .i64 7),.lit (.int .i64 0),.lit (.string ⟨#[]⟩),kd f2 y.len y.cells] 3 f])] (qce vs e0 e1 e2 c))=some (.ret (.tup []) (qce vs e0 e1 e2 c5)):=by
   refine qaa (pf:=F169) rfl rfl ?_
   simp[F169,z,Wa]
  refine qaa (pf:=F147) rfl rfl ?_
  simp[F147,zs,Wa]
 zero:=fun e0 e1 e2 hl=>by
  have hpa:=ha.pos
  have z:=qnq (vs:=vs) (e0:=e0) (e1:=e1) (e2:=e2) (qsJ (k:=3) (n:=0) (s:=⟨#[]⟩) (f:=f) (N:=3) (cs:=[.lit (.int .i64 a.kind),.lit (.int .i64 a.num),.lit (.string a.str),a.kids,.lit (.int .i64 7),.lit (.int .i64 0),.lit (.string ⟨#[]⟩),kd f1 x.len x.cells,.lit (.int .i64 7),.lit (.int .i64 0),.lit (.string ⟨#[]⟩),kd f2 y.len y.cells]) ha.toTrB rfl (by omega)) (quC (k:=3) (n:=0) (s:=⟨#[]⟩) (f:=f) (N:=3) (cs:=[.lit (.int .i64 a.kind),.lit (.int .i64 a.num),.lit (.string a.str),a.kids,.lit (.int .i64 7),.lit (.int .i64 0),.lit (.string ⟨#[]⟩),kd f1 x.len x.cells,.lit (.int .i64 7),.lit (.int .i64 0),.lit (.string ⟨#[]⟩),kd f2 y.len y.cells]) ha rfl (by omega) (by omega)) (qsK (k:=3) (n:=0) (s:=⟨#[]⟩) (f:=f) (N:=3) (cs:=[.lit (.int .i64 a.kind),.lit (.int .i64 a.num),.lit (.string a.str),a.kids,.lit (.int .i64 7),.lit (.int .i64 0),.lit (.string ⟨#[]⟩),kd f1 x.len x.cells,.lit (.int .i64 7),.lit (.int .i64 0),.lit (.string ⟨#[]⟩),kd f2 y.len y.cells]) hx rfl (by omega)) (qsL (k:=3) (n:=0) (s:=⟨#[]⟩) (f:=f) (N:=3) (cs:=[.lit (.int .i64 a.kind),.lit (.int .i64 a.num),.lit (.string a.str),a.kids,.lit (.int .i64 7),.lit (.int .i64 0),.lit (.string ⟨#[]⟩),kd f1 x.len x.cells,.lit (.int .i64 7),.lit (.int .i64 0),.lit (.string ⟨#[]⟩),kd f2 y.len y.cells]) hy rfl (by omega)) (by omega) ha.pos
  simp only[nbo,qn7] at z
  generalize brC A X Y 0=c5 at *
  have zs:Z qae (.call 169 [.ptr 0 0,.dat (.agg [.lit (.int .i64 3),.lit (.int .i64 0),.lit (.string ⟨#[]⟩),.sl [.lit (.int .i64 a.kind),.lit (.int .i64 a.num),.lit (.string a.str),a.kids,.lit (.int .i64 7),.lit (.int .i64 0),.lit (.string ⟨#[]⟩),kd f1 x.len x.cells,.lit (.int .i64 7),.lit (.int .i64 0),.lit (.string ⟨#[]⟩),kd f2 y.len y.cells] 3 f])] (qdS vs e0 e1 e2))=some (.ret (.tup []) (qg5 vs e0 e1 e2 c5)):=by
   refine qaa (pf:=F169) rfl rfl ?_
   simp[F169,z,Wa]
  refine qaa (pf:=F147) rfl rfl ?_
  simp[F147,zs,Wa]
theorem qxc(A X:Int->Cd)(c:Cd):(c++A c.length)++(19,((((c++A c.length)++[((19:Int),(0:Int))])++X ((c++A c.length)++[((19:Int),(0:Int))]).length++[((18:Int),(c.length:Int))]).length:Int))::(X ((c++A c.length)++[((19:Int),(0:Int))]).length++[((18:Int),(c.length:Int))])=c++whC A X c.length:=by
 have e:((((c++A c.length)++[((19:Int),(0:Int))]).length:Nat):Int)=c.length+(A c.length).length+1:=by simp only[Wb,Wd,Wj]; omega
 simp only[whC,Wo]
 simp only[Wo] at e
 rw[e]
 have e2:(((c++(A c.length++([((19:Int),(0:Int))]++(X (c.length+(A c.length).length+1)++[((18:Int),(c.length:Int))])))).length:Nat):Int)=c.length+(A c.length).length+1+(X (c.length+(A c.length).length+1)).length+1:=by simp only[Wb,Wd,Wj]; omega
 rw[e2]
theorem qrJ (f f1:Bool) {x:Fo} {X:Int->Cd} {Lx:Nat} (ha:TrOK vs a.node A La) (hx:TrB vs (nd 7 0 ⟨#[]⟩ f1 x) X Lx) :
  TrOK vs (nd 4 0 ⟨#[]⟩ f (a.fo (.cons 7 0 ⟨#[]⟩ f1 x .nil))) (whC A X) (La+Lx+2) where
 ln:=qrn ha.ln hx.ln
 pos:=by omega
 one:=fun e0 e1 e2 c hc hl=>by
  have hpa:=ha.pos
  obtain⟨c1,h1⟩ : ∃ c1,c1=c++A c.length:=⟨_,rfl⟩
  have l1:c1.length=c.length+La:=by rw[h1,Wb,ha.ln]
  have n1:c1≠[]:=fun e=>by rw[e] at l1; simp only[Wj] at l1; omega
  have z1:Z qae (.call 165 [.ptr 0 0,.dat (.agg [.lit (.int .i64 4),.lit (.int .i64 0),.lit (.string ⟨#[]⟩),.sl [.lit (.int .i64 a.kind),.lit (.int .i64 a.num),.lit (.string a.str),a.kids,.lit (.int .i64 7),.lit (.int .i64 0),.lit (.string ⟨#[]⟩),kd f1 x.len x.cells] 2 f]),.int 0] (qce vs e0 e1 e2 c))=_:=qfA (f:=f) (N:=2) (i:=0) (e0:=e0) (e1:=e1) (e2:=e2) ha.toTrB rfl (by omega) c hc (by omega)
  rw[<- h1] at z1
  have z2:=qnW (vs:=vs) (e0:=e0) (e1:=e1) (e2:=e2) c1 (by omega) 19
  obtain⟨c2,h2⟩ : ∃ c2,c2=c1++[((19:Int),(0:Int))]:=⟨_,rfl⟩
  have l2:c2.length=c1.length+1:=by rw[h2]; simp
  rw[<- h2] at z2
  have z3:Z qae (.call 165 [.ptr 0 0,.dat (.agg [.lit (.int .i64 4),.lit (.int .i64 0),.lit (.string ⟨#[]⟩),.sl [.lit (.int .i64 a.kind),.lit (.int .i64 a.num),.lit (.string a.str),a.kids,.lit (.int .i64 7),.lit (.int .i64 0),.lit (.string ⟨#[]⟩),kd f1 x.len x.cells] 2 f]),.int 1] (qce vs e0 e1 e2 c2))=_:=qfA (f:=f) (N:=2) (i:=1) (e0:=e0) (e1:=e1) (e2:=e2) hx rfl (by omega) c2 (by rw[h2]; simp) (by omega)
  obtain⟨c3,h3⟩ : ∃ c3,c3=c2++X c2.length:=⟨_,rfl⟩
  have l3:c3.length=c2.length+Lx:=by rw[h3,Wb,hx.ln]
  rw[<- h3] at z3
  have z4:=qbW (vs:=vs) (e0:=e0) (e1:=e1) (e2:=e2) c3 (by omega) 18 c.length
  obtain⟨c4,h4⟩ : ∃ c4,c4=c3++[((18:Int),(c.length:Int))]:=⟨_,rfl⟩
  have l4:c4.length=c3.length+1:=by rw[h4]; simp
  rw[<- h4] at z4
  have f4:c4=c1++(19,0)::(X c2.length++[((18:Int),(c.length:Int))]):=by rw[h4,h3,h2]; simp
  have z5:=qdQ (vs:=vs) (e0:=e0) (e1:=e1) (e2:=e2) c1 (X c2.length++[((18:Int),(c.length:Int))]) 19 0 (by rw[<- f4]; omega)
  rw[<- f4] at z5
  have f5:c1++(19,(c4.length:Int))::(X c2.length++[((18:Int),(c.length:Int))])=c++whC A X c.length:=by
   have:=qxc A X c
   rw[<- h1,<- h2,<- h3,<- h4] at this
   exact this
  have l5:c4.length=(c++whC A X c.length).length:=by rw[<- f5,f4]; simp
  rw[f5] at z5
  generalize c++whC A X c.length=c5 at *
  rw[l5] at z5
  have zl:Z qae (.call 191 [.ptr 0 0,.dat (.agg [.lit (.int .i64 4),.lit (.int .i64 0),.lit (.string ⟨#[]⟩),.sl [.lit (.int .i64 a.kind),.lit (.int .i64 a.num),.lit (.string a.str),a.kids,.lit (.int .i64 7),.lit (.int .i64 0),.lit (.string ⟨#[]⟩),kd f1 x.len x.cells] 2 f])] (qce vs e0 e1 e2 c))=some (.ret (.tup []) (qce vs e0 e1 e2 c5)):=by
   refine qaa (pf:=F191) rfl rfl ?_
   simp[F191,qcz,z1,z2,z3,z4,z5,l5,V.isNilIf,Wa]
  have zs:Z qae (.call 169 [.ptr 0 0,.dat (.agg [.lit (.int .i64 4),.lit (.int .i64 0),.lit (.string ⟨#[]⟩),.sl [.lit (.int .i64 a.kind),.lit (.int .i64 a.num),.lit (.string a.str),a.kids,.lit (.int .i64 7),.lit (.int .i64 0),.lit (.string ⟨#[]⟩),kd f1 x.len x.cells] 2 f])] (qce vs e0 e1 e2 c))=some (.ret (.tup []) (qce vs e0 e1 e2 c5)):=by
   refine qaa (pf:=F169) rfl rfl ?_
   simp[F169,zl,Wa]
  refine qaa (pf:=F147) rfl rfl ?_
  simp[F147,zs,Wa]
 zero:=fun e0 e1 e2 hl=>by
  obtain⟨c,hcn⟩ : ∃ c:Cd,c=[]:=⟨_,rfl⟩
  have lc:c.length=0:=by rw[hcn]; rfl
  have hpa:=ha.pos
  obtain⟨c1,h1⟩ : ∃ c1,c1=c++A c.length:=⟨_,rfl⟩
  have l1:c1.length=c.length+La:=by rw[h1,Wb,ha.ln]
  have n1:c1≠[]:=fun e=>by rw[e] at l1; simp only[Wj] at l1; omega
  have z1:Z qae (.call 165 [.ptr 0 0,.dat (.agg [.lit (.int .i64 4),.lit (.int .i64 0),.lit (.string ⟨#[]⟩),.sl [.lit (.int .i64 a.kind),.lit (.int .i64 a.num),.lit (.string a.str),a.kids,.lit (.int .i64 7),.lit (.int .i64 0),.lit (.string ⟨#[]⟩),kd f1 x.len x.cells] 2 f]),.int 0] (qdS vs e0 e1 e2))=_:=qmU (f:=f) (N:=2) (i:=0) (e0:=e0) (e1:=e1) (e2:=e2) ha rfl (by omega) (by omega)
  rw[show A 0=c1 by rw[h1,hcn]; rfl] at z1
  have z2:=qnW (vs:=vs) (e0:=e0) (e1:=e1) (e2:=e2) c1 (by omega) 19
  obtain⟨c2,h2⟩ : ∃ c2,c2=c1++[((19:Int),(0:Int))]:=⟨_,rfl⟩
  have l2:c2.length=c1.length+1:=by rw[h2]; simp
  rw[<- h2] at z2
  have z3:Z qae (.call 165 [.ptr 0 0,.dat (.agg [.lit (.int .i64 4),.lit (.int .i64 0),.lit (.string ⟨#[]⟩),.sl [.lit (.int .i64 a.kind),.lit (.int .i64 a.num),.lit (.string a.str),a.kids,.lit (.int .i64 7),.lit (.int .i64 0),.lit (.string ⟨#[]⟩),kd f1 x.len x.cells] 2 f]),.int 1] (qce vs e0 e1 e2 c2))=_:=qfA (f:=f) (N:=2) (i:=1) (e0:=e0) (e1:=e1) (e2:=e2) hx rfl (by omega) c2 (by rw[h2]; simp) (by omega)
  obtain⟨c3,h3⟩ : ∃ c3,c3=c2++X c2.length:=⟨_,rfl⟩
  have l3:c3.length=c2.length+Lx:=by rw[h3,Wb,hx.ln]
  rw[<- h3] at z3
  have z4:=qbW (vs:=vs) (e0:=e0) (e1:=e1) (e2:=e2) c3 (by omega) 18 c.length
  obtain⟨c4,h4⟩ : ∃ c4,c4=c3++[((18:Int),(c.length:Int))]:=⟨_,rfl⟩
  have l4:c4.length=c3.length+1:=by rw[h4]; simp
  rw[<- h4] at z4
  have f4:c4=c1++(19,0)::(X c2.length++[((18:Int),(c.length:Int))]):=by rw[h4,h3,h2]; simp
  have z5:=qdQ (vs:=vs) (e0:=e0) (e1:=e1) (e2:=e2) c1 (X c2.length++[((18:Int),(c.length:Int))]) 19 0 (by rw[<- f4]; omega)
  rw[<- f4] at z5
  have f5:c1++(19,(c4.length:Int))::(X c2.length++[((18:Int),(c.length:Int))])=c++whC A X c.length:=by
   have:=qxc A X c
   rw[<- h1,<- h2,<- h3,<- h4] at this
   exact this
  have l5:c4.length=(c++whC A X c.length).length:=by rw[<- f5,f4]; simp
  rw[f5] at z5
  rw[show whC A X 0=c++whC A X c.length by rw[hcn]; rfl]
  rw[lc,show ((0:Nat):Int)=0 from rfl] at z4
  generalize c++whC A X c.length=c5 at *
  rw[l5] at z5
  have zl:Z qae (.call 191 [.ptr 0 0,.dat (.agg [.lit (.int .i64 4),.lit (.int .i64 0),.lit (.string ⟨#[]⟩),.sl [.lit (.int .i64 a.kind),.lit (.int .i64 a.num),.lit (.string a.str),a.kids,.lit (.int .i64 7),.lit (.int .i64 0),.lit (.string ⟨#[]⟩),kd f1 x.len x.cells] 2 f])] (qdS vs e0 e1 e2))=some (.ret (.tup []) (qg5 vs e0 e1 e2 c5)):=by
   refine qaa (pf:=F191) rfl rfl ?_
   simp[F191,qcz,z1,z2,z3,z4,z5,qdP,l5,V.isNilIf,Wa]
  have zs:Z qae (.call 169 [.ptr 0 0,.dat (.agg [.lit (.int .i64 4),.lit (.int .i64 0),.lit (.string ⟨#[]⟩),.sl [.lit (.int .i64 a.kind),.lit (.int .i64 a.num),.lit (.string a.str),a.kids,.lit (.int .i64 7),.lit (.int .i64 0),.lit (.string ⟨#[]⟩),kd f1 x.len x.cells] 2 f])] (qdS vs e0 e1 e2))=some (.ret (.tup []) (qg5 vs e0 e1 e2 c5)):=by
   refine qaa (pf:=F169) rfl rfl ?_
   simp[F169,zl,Wa]
  refine qaa (pf:=F147) rfl rfl ?_
  simp[F147,zs,Wa]
end
end
section
open F Gr
set_option maxHeartbeats 2000000
attribute [local simp] qa6 qbu dkey qfN
inductive RowT(vs:List ByteArray):List D->List (Int->Cd)->Nat->Prop
 |nil:RowT vs [] [] 0
 |cons {a b c d:D} {C:Int->Cd} {L:Nat} {r:List D} {Cs:List (Int->Cd)} {M:Nat} (h:TrOK vs (.dat (.agg [a,b,c,d])) C L) (hr:RowT vs r Cs M):RowT vs (a::b::c::d::r) (C::Cs) (L+M)
theorem qvc{vs:List ByteArray}{r:List D}{Cs:List (Int->Cd)}{M:Nat}(h:RowT vs r Cs M):Ln (seqC Cs) M:=by
 induction h with
 |nil=>exact fun _=>rfl
 |cons h _ ih=>exact fun p=>by simp[seqC,h.ln p,ih _]
section
variable{vs:List ByteArray}{e0 e1 e2:Int}{f:Bool}{N:Nat}{cs:List D}
abbrev bl1(vs:List ByteArray)(e0 e1 e2:Int)(f:Bool)(N:Nat)(cs:List D)(c:Cd):S:=[cob e0 e1 e2 1 c.length 2,.vec (icV c),mpo vs,.cells [.ptr 0 0],.cells [.int 7,.int 0,.str ⟨#[]⟩,.dat (kd f N cs)]]
abbrev bl0(vs:List ByteArray)(e0 e1 e2:Int)(f:Bool)(N:Nat)(cs:List D):S:=[qng e0 e1 e2 1,mpo vs,.cells [.ptr 0 0],.cells [.int 7,.int 0,.str ⟨#[]⟩,.dat (kd f N cs)]]
abbrev bl2(vs:List ByteArray)(e0 e1 e2:Int)(f:Bool)(N:Nat)(cs:List D)(c:Cd):S:=[cob e0 e1 e2 4 c.length 1,mpo vs,.cells [.ptr 0 0],.cells [.int 7,.int 0,.str ⟨#[]⟩,.dat (kd f N cs)],.vec (icV c)]
abbrev blF(p q N:Nat)(i:Nat):Fr:=[(2,.ptr p 0),(3,.ptr q 0),(64,.int N),(65,.int i)]
theorem qvd(c:Cd):Z qae (.loop 3 F169l0 (blF 3 4 N N) (bl1 vs e0 e1 e2 f N cs c))=some (.out (.exit 1) (blF 3 4 N N++[(66,.bool false)]) (bl1 vs e0 e1 e2 f N cs c)):=by
 rw[qac]
 simp[qad,qde,Wa]
theorem qve:Z qae (.loop 2 F169l0 (blF 2 3 N N) (bl0 vs e0 e1 e2 f N cs))=some (.out (.exit 1) (blF 2 3 N N++[(66,.bool false)]) (bl0 vs e0 e1 e2 f N cs)):=by
 rw[qac]
 simp[qad,qde,Wa]
theorem qvf(c:Cd):Z qae (.loop 2 F169l0 (blF 2 3 N N) (bl2 vs e0 e1 e2 f N cs c))=some (.out (.exit 1) (blF 2 3 N N++[(66,.bool false)]) (bl2 vs e0 e1 e2 f N cs c)):=by
 rw[qac]
 simp[qad,qde,Wa]
variable{i:Nat}{a b c1 d:D}{r:List D}{C:Int->Cd}{L:Nat}
theorem qr8 (hi:i<N) (hN:N<2^40) (hd:cs.drop (i*4)=a::b::c1::d::r) (h:TrOK vs (.dat (.agg [a,b,c1,d])) C L) (c:Cd) (hc:c≠[]) (hl:c.length+4*L<2^30) :
  Z qae (.loop 3 F169l0 (blF 3 4 N i) (bl1 vs e0 e1 e2 f N cs c))=Z qae (.loop 3 F169l0 (blF 3 4 N (i+1)) (bl1 vs e0 e1 e2 f N cs (c++C c.length))):=by
 have w1:=qaf ((i:Int)+1) (by omega)
 have hi':(i:Int)<N:=by omega
 have z:=qfA (e0:=e0) (e1:=e1) (e2:=e2) (k:=7) (n:=0) (s:=⟨#[]⟩) (f:=f) h.toTrB hd hi c hc hl
 generalize c++C c.length=c2 at *
 conv=>lhs; rw[qac]
 simp[qad,qde,hi',z,w1,bl0,bl1,bl2,blF,Wa]
theorem qr9 (hi:i<N) (hN:N<2^40) (hd:cs.drop (i*4)=a::b::c1::d::r) (h:TrOK vs (.dat (.agg [a,b,c1,d])) C L) (hl:4*L<2^30) :
  Z qae (.loop 2 F169l0 (blF 2 3 N i) (bl0 vs e0 e1 e2 f N cs))=Z qae (.loop 2 F169l0 (blF 2 3 N (i+1)) (bl2 vs e0 e1 e2 f N cs (C 0))):=by
 have w1:=qaf ((i:Int)+1) (by omega)
 have hi':(i:Int)<N:=by omega
 have z:=qmU (e0:=e0) (e1:=e1) (e2:=e2) (k:=7) (n:=0) (s:=⟨#[]⟩) (f:=f) h hd hi hl
 generalize C 0=c2 at *
 conv=>lhs; rw[qac]
 simp[qad,qde,hi',z,w1,bl0,bl1,bl2,blF,Wa]
theorem qsa (hi:i<N) (hN:N<2^40) (hd:cs.drop (i*4)=a::b::c1::d::r) (h:TrOK vs (.dat (.agg [a,b,c1,d])) C L) (c:Cd) (hc:c≠[]) (hl:c.length+4*L<2^30) :
  Z qae (.loop 2 F169l0 (blF 2 3 N i) (bl2 vs e0 e1 e2 f N cs c))=Z qae (.loop 2 F169l0 (blF 2 3 N (i+1)) (bl2 vs e0 e1 e2 f N cs (c++C c.length))):=by
 have w1:=qaf ((i:Int)+1) (by omega)
 have hi':(i:Int)<N:=by omega
 have z:=qfA (e0:=e0) (e1:=e1) (e2:=e2) (k:=7) (n:=0) (s:=⟨#[]⟩) (f:=f) h.toTrB hd hi c hc hl
 generalize c++C c.length=c2 at *
 conv=>lhs; rw[qac]
 simp[qad,qde,hi',z,w1,bl0,bl1,bl2,blF,Wa]
theorem qlh(C:Int->Cd)(Cs:List (Int->Cd))(c:Cd):(c++C c.length)++seqC Cs (c++C c.length).length=c++seqC (C::Cs) c.length:=by
 simp only[seqC,Wo,Wb]
 rw[show ((c.length+(C c.length).length:Nat):Int)=c.length+(C c.length).length by omega]
theorem qm6 (hN:N<2^40) : ∀ {r:List D} {Cs:List (Int->Cd)} {M:Nat},RowT vs r Cs M -> ∀ (i:Nat),cs.drop (i*4)=r->i+Cs.length=N -> ∀ (c:Cd),c≠[]->c.length+4*M<2^30 ->
  Z qae (.loop 3 F169l0 (blF 3 4 N i) (bl1 vs e0 e1 e2 f N cs c))=some (.out (.exit 1) (blF 3 4 N N++[(66,.bool false)]) (bl1 vs e0 e1 e2 f N cs (c++seqC Cs c.length)))
 |_,_,_,.nil,i,hd,hn,c,hc,hl=>by
  simp only[Wj,Ys] at hn
  subst hn
  rw[show c++seqC [] c.length=c by simp[seqC]]
  exact qvd c
 |_,_,_,.cons (C:=C) (L:=L) (Cs:=Cs) (M:=M) h1 hr,i,hd,hn,c,hc,hl=>by
  simp only[Wd] at hn
  have hlen:(c++C c.length).length=c.length+L:=by rw[Wb,h1.ln]
  rw[qr8 (by omega) hN hd h1 c hc (by omega),qm6 hN hr (i+1) (qib hd) (by omega) _ (qh4 hc) (by omega),qlh]
theorem qm7 (hN:N<2^40) : ∀ {r:List D} {Cs:List (Int->Cd)} {M:Nat},RowT vs r Cs M -> ∀ (i:Nat),cs.drop (i*4)=r->i+Cs.length=N -> ∀ (c:Cd),c≠[]->c.length+4*M<2^30 ->
  Z qae (.loop 2 F169l0 (blF 2 3 N i) (bl2 vs e0 e1 e2 f N cs c))=some (.out (.exit 1) (blF 2 3 N N++[(66,.bool false)]) (bl2 vs e0 e1 e2 f N cs (c++seqC Cs c.length)))
 |_,_,_,.nil,i,hd,hn,c,hc,hl=>by
  simp only[Wj,Ys] at hn
  subst hn
  rw[show c++seqC [] c.length=c by simp[seqC]]
  exact qvf c
 |_,_,_,.cons (C:=C) (L:=L) (Cs:=Cs) (M:=M) h1 hr,i,hd,hn,c,hc,hl=>by
  simp only[Wd] at hn
  have hlen:(c++C c.length).length=c.length+L:=by rw[Wb,h1.ln]
  rw[qsa (by omega) hN hd h1 c hc (by omega),qm7 hN hr (i+1) (qib hd) (by omega) _ (qh4 hc) (by omega),qlh]
end
section
variable{vs:List ByteArray}{cs:List D}{Cs:List (Int->Cd)}{M N:Nat}
theorem qsb(h:RowT vs cs Cs M)(hN:Cs.length=N)(hN2:N<2^40)(f:Bool):TrB vs (.dat (.agg [.lit (.int .i64 7),.lit (.int .i64 0),.lit (.string ⟨#[]⟩),kd f N cs])) (seqC Cs) M where
 ln:=qvc h
 one:=fun e0 e1 e2 c hc hl=>by
  have z:=qm6 (e0:=e0) (e1:=e1) (e2:=e2) (f:=f) hN2 h 0 rfl (by omega) c hc hl
  rw[show blF 3 4 N 0=[(2,.ptr 3 0),(3,.ptr 4 0),(64,.int N),(65,.int 0)] from rfl] at z
  generalize c++seqC Cs c.length=c2 at *
  have zs:Z qae (.call 169 [.ptr 0 0,.dat (.agg [.lit (.int .i64 7),.lit (.int .i64 0),.lit (.string ⟨#[]⟩),kd f N cs])] (qce vs e0 e1 e2 c))=some (.ret (.tup []) (qce vs e0 e1 e2 c2)):=by
   refine qaa (pf:=F169) rfl rfl ?_
   simp[F169,z,Wa]
  refine qaa (pf:=F147) rfl rfl ?_
  simp[F147,zs,Wa]
theorem qzA (h:RowT vs cs Cs M) (hN:Cs.length=N) (hN2:N<2^40) (f:Bool) (e0 e1 e2:Int) (hl:4*M<2^30):Z qae (.call 147 [.ptr 0 0,.dat (.agg [.lit (.int .i64 7),.lit (.int .i64 0),.lit (.string ⟨#[]⟩),kd f N cs])] (qdS vs e0 e1 e2)) =
  some (.ret (.tup []) (if seqC Cs 0=[] then qdS vs e0 e1 e2 else qg5 vs e0 e1 e2 (seqC Cs 0))):=by
 cases h with
 |nil=>
  simp only[Wj] at hN
  subst hN
  rw[if_pos (show seqC ([]:List (Int->Cd)) 0=[] from rfl)]
  have z:=qve (vs:=vs) (e0:=e0) (e1:=e1) (e2:=e2) (f:=f) (N:=0) (cs:=[])
  rw[show blF 2 3 0 0=[(2,.ptr 2 0),(3,.ptr 3 0),(64,.int 0),(65,.int 0)] from rfl] at z
  have zs:Z qae (.call 169 [.ptr 0 0,.dat (.agg [.lit (.int .i64 7),.lit (.int .i64 0),.lit (.string ⟨#[]⟩),kd f 0 []])] (qdS vs e0 e1 e2))=some (.ret (.tup []) (qdS vs e0 e1 e2)):=by
   simp only[bl0,qz2] at z
   refine qaa (pf:=F169) rfl rfl ?_
   simp[F169,z,qdP,Wa]
  refine qaa (pf:=F147) rfl rfl ?_
  simp only[qz2] at zs
  simp[F147,zs,Wa]
 | @cons a b c d C L r Cs M h1 hr=>
  simp only[Wd] at hN
  have hn1:C 0≠[]:=fun e=>by have:=h1.ln 0; have:=h1.pos; rw[e] at *; simp_all
  have hlen:(C 0).length=L:=h1.ln 0
  have z1:=qr9 (N:=N) (e0:=e0) (e1:=e1) (e2:=e2) (f:=f) (i:=0) (r:=r) (cs:=a::b::c::d::r) (by omega) hN2 rfl h1 (by omega)
  have z2:=qm7 (N:=N) (e0:=e0) (e1:=e1) (e2:=e2) (f:=f) (cs:=a::b::c::d::r) hN2 hr 1 rfl (by omega) (C 0) hn1 (by omega)
  have z:=z1.trans z2
  have e:C 0++seqC Cs (C 0).length=seqC (C::Cs) 0:=by simp[seqC]
  have hne:seqC (C::Cs) 0≠[]:=by rw[<- e]; simp[hn1]
  rw[e] at z
  rw[if_neg hne]
  rw[show blF 2 3 N 0=[(2,.ptr 2 0),(3,.ptr 3 0),(64,.int N),(65,.int 0)] from rfl] at z
  generalize seqC (C::Cs) 0=c2 at *
  have zs:Z qae (.call 169 [.ptr 0 0,.dat (.agg [.lit (.int .i64 7),.lit (.int .i64 0),.lit (.string ⟨#[]⟩),kd f N (a::b::c::d::r)])] (qdS vs e0 e1 e2))=some (.ret (.tup []) (qg5 vs e0 e1 e2 c2)):=by
   refine qaa (pf:=F169) rfl rfl ?_
   simp[F169,z,Wa]
  refine qaa (pf:=F147) rfl rfl ?_
  simp[F147,zs,Wa]
theorem qzB(b:Ss)(hf:b.fine)(hi:b.inV vs)(hb:b.fo.size<2^30) : ∃ M,RowT vs b.fo.cells (qd5 vs b) M/\(qd5 vs b).length=b.fo.len:=by
 fun_induction Ss.fine b with
 |case1=>exact⟨0,.nil,rfl⟩
 |case2 _ s e r ih=>
  simp only[Ss.fo,qaE] at hb
  obtain⟨M,h,hl⟩:=ih hf.2 hi.2 (by omega)
  obtain⟨L,k⟩:=qn1 e hf.1.2.1 hi.1.2
  exact⟨_,.cons (qpv _ hi.1.1 k) h,by simp[qd5,Ss.fo,hl]⟩
 |case3 _ s a b r ih=>
  simp only[Ss.fo,qaE] at hb
  obtain⟨M,h,hl⟩:=ih hf.2 hi.2 (by omega)
  obtain⟨L,k⟩:=qn1 a hf.1.2.1 hi.1.1
  obtain⟨L',k'⟩:=qn1 b hf.1.2.2.2.1 hi.1.2
  exact⟨_,.cons (qrI _ (List.mem_append_left _ hf.1.1) k k') h,by simp[qd5,Ss.fo,hl]⟩
 |case4 _ a b r ih=>
  simp only[Ss.fo,qaE] at hb
  obtain⟨M,h,hl⟩:=ih hf.2 hi.2 (by omega)
  obtain⟨L,k⟩:=qn1 a hf.1.1 hi.1.1
  obtain⟨L',k'⟩:=qn1 b hf.1.2.2.1 hi.1.2
  exact⟨_,.cons (qpw _ k k') h,by simp[qd5,Ss.fo,hl]⟩
 |case5 r ih=>
  simp only[Ss.fo,qaE] at hb
  obtain⟨M,h,hl⟩:=ih hf hi (by omega)
  exact⟨_,.cons (quH false) h,by simp[qd5,Ss.fo,hl]⟩
 |case6 _ c _ x _ y r ih1 ih2 ih3=>
  simp only[Ss.fo,qaE,qej] at hb
  obtain⟨Mx,hx,hlx⟩:=ih1 hf.2.1 hi.2.1.1 (by omega)
  obtain⟨My,hy,hly⟩:=ih2 hf.2.2.1 hi.2.1.2.1 (by omega)
  obtain⟨M,h,hl⟩:=ih3 hf.2.2.2 hi.2.2 (by omega)
  obtain⟨L,k⟩:=qn1 c hf.1.1 hi.1
  have sx:=qdy x.fo
  have sy:=qdy y.fo
  have bx:=qsb hx hlx (by omega)
  have by_:=qsb hy hly (by omega)
  rw[show seqC (qd5 vs x)=codeS vs x from funext (qhs x)] at bx
  rw[show seqC (qd5 vs y)=codeS vs y from funext (qhs y)] at by_
  exact⟨_,.cons (qzh _ _ _ k (bx _) (by_ _)) h,by simp[qd5,Ss.fo,hl]⟩
 |case7 _ c _ x r ih1 ih2=>
  simp only[Ss.fo,qaE,qej] at hb
  obtain⟨Mx,hx,hlx⟩:=ih1 hf.2.1 hi.2.1.1 (by omega)
  obtain⟨M,h,hl⟩:=ih2 hf.2.2 hi.2.2 (by omega)
  obtain⟨L,k⟩:=qn1 c hf.1.1 hi.1
  have sx:=qdy x.fo
  have bx:=qsb hx hlx (by omega)
  rw[show seqC (qd5 vs x)=codeS vs x from funext (qhs x)] at bx
  exact⟨_,.cons (qrJ _ _ k (bx _)) h,by simp[qd5,Ss.fo,hl]⟩
 |case8=>exact hf.elim
end
end
section
open F Gr
set_option maxHeartbeats 1000000
def DepIs(c:Cd)(e m:Int):Prop:=(e<0->m=0)/\(0<=e -> ∀ D,CF c e.toNat D->Most c e.toNat D m)
theorem DepIs.unique{c:Cd}{e m m':Int}{D:Nat->Int}(hD:0<=e->CF c e.toNat D)(h:DepIs c e m)(h':DepIs c e m'):m=m':=by
 by_cases h0:e<0
 ·rw[h.1 h0,h'.1 h0]
 ·have:=hD (by omega)
  exact Most.unique (h.2 (by omega) D this) (h'.2 (by omega) D this)
inductive PSt(e0 e1 e2:Int):S->D->Cd->Prop
 |nil:PSt e0 e1 e2 [zP,.cells [.dat (.lit (.slice none 0 0)),.int e0,.int e1,.int e2]] (.lit (.slice none 0 0)) []
 |gr (c:Cd) (h:c≠[]):PSt e0 e1 e2 [zP,.cells [.gsl (icC c) c.length 2 2,.int e0,.int e1,.int e2],.tip (icC c).length] (.sl (icC c) c.length false) c
theorem PSt.code{e0 e1 e2:Int}{σ : S}{d:D}{c:Cd}(h:PSt e0 e1 e2 σ d c):IsCode d c:=by
 cases h with
 |nil=>exact qnI
 |gr=>exact qkV _ false
end
section
open F Gr
set_option maxHeartbeats 1000000
def ql2:Cd->D
 |[] => .lit (.slice none 0 0)
 |x::c => .sl (icC (x::c)) (x::c).length false
theorem qr7{c:Cd}(h:c≠[]):ql2 c = .sl (icC c) c.length false:=by
 cases c with
 |nil=>exact absurd rfl h
 |cons x c=>rfl
def qu2(c:Cd)(e0 e1 e2 m0 m1 m2:Int):V:=
 if 400<c.length then .tup [pgD (.lit (.slice none 0 0)) 0 0 0,.int 2]
 else if 16<m0\/16<m1\/16<m2 then .tup [pgD (.lit (.slice none 0 0)) 0 0 0,.int 15]
 else .tup [pgD (ql2 c) e0 e1 e2,.int 0]
section
variable{a b c:Hd}
theorem qp0{vs:List ByteArray}(fa:a.fine)(fb:b.fine)(fc:c.fine):(qct vs a b c).length<=30000:=by
 have key : ∀ h:Hd,h.fine -> ∃ L,L<=8001/\Ln (hdC vs h) L:=fun h f=>by
  cases h with
  |none=>exact⟨0,by omega,fun _=>rfl⟩
  |some g x=>
   obtain⟨n,hn,hn2⟩:=qy7 vs x
   have:=f.size
   simp only[Hd.ss] at this
   exact⟨n+1,by omega,qbv hn⟩
 obtain⟨la,ka,na⟩:=key a fa
 obtain⟨lb,kb,nb⟩:=key b fb
 obtain⟨lc,kc,nc⟩:=key c fc
 have:=qa2 na (qa2 nb nc) 0
 unfold qct
 omega
theorem qu3(h:Hd)(f:h.fine):h.nd.ks.size<=2000:=by
 have:=f.size
 rw[qrX,qrN]; exact this
end
end
section
open F Gr
set_option maxHeartbeats 2000000
attribute [local simp] qa6 qbu dkey qfN
theorem qpe {vs:List ByteArray} (b:Ss) (hf:b.fine) (hi:b.inV vs) (hb:b.fo.size<2^30) (f:Bool) : ∃ L,L<=4*b.fo.size/\TrB vs (nd 7 0 ⟨#[]⟩ f b.fo) (codeS vs b) L /\
  ∀ e0 e1 e2:Int,4*L<2^30->Z qae (.call 147 [.ptr 0 0,nd 7 0 ⟨#[]⟩ f b.fo] (qdS vs e0 e1 e2))=some (.ret (.tup []) (if codeS vs b 0=[] then qdS vs e0 e1 e2 else qg5 vs e0 e1 e2 (codeS vs b 0))):=by
 obtain⟨M,h,hl⟩:=qzB b hf hi hb
 have sb:=qdy b.fo
 have k:=qsb h hl (by omega) f
 have k0:=fun e0 e1 e2=>qzA h hl (by omega) f e0 e1 e2
 rw[show seqC (qd5 vs b)=codeS vs b from funext (qhs b)] at k k0
 obtain⟨n,hn,hn2⟩:=qy7 vs b
 have e:M=n:=by rw[<- k.ln 0,hn 0]
 exact⟨M,by omega,k,k0⟩
abbrev yFr(vs:List ByteArray)(i:Nat):Fr:=[(1,.ptr 0 0),(2,.ptr 1 0),(4,.ptr 2 0),(17,.dat (qlW vs)),(18,.int vs.length),(19,.int i)]
abbrev ySt(R:Ob)(l:List ByteArray):S:=[R,zP,qng 0 0 0 3,.map (mapM 0 l)]
theorem qy3(x y z:Nd)(vs l:List ByteArray):Z qae (.loop 0 F131l0 (yFr vs vs.length) (ySt (qpJ x y z) l))=some (.out (.exit 0) (yFr vs vs.length++[(20,.bool false)]) (ySt (qpJ x y z) l)):=by
 rw[qac]
 simp[qad,qiB,Wa]
theorem qwR(x y z:Nd){vs:List ByteArray}(hv:vs.length<2^40)(hn:vs.Nodup)(i:Nat)(hi:i<vs.length):Z qae (.loop 0 F131l0 (yFr vs i) (ySt (qpJ x y z) (vs.take i)))=Z qae (.loop 0 F131l0 (yFr vs (i+1)) (ySt (qpJ x y z) (vs.take (i+1)))):=by
 have hc:=qge vs i hi
 have ha:=qu9 vs i hi
 have w1:=qaf ((i:Int)+1) (by omega)
 have hi':(i:Int)<vs.length:=by omega
 have hnm:vs[i]∉vs.take i:=by
  have h2:=hn
  rw[<- List.take_append_drop i vs,WC hi] at h2
  rw[List.nodup_append] at h2
  exact fun hm=>h2.2.2 _ hm _ (WQ ..) rfl
 have hs:=qjU vs[i] (vs.take i) 0 hnm
 rw[show ((0+(vs.take i).length:Nat))=i by simp; omega,show vs.take i++[vs[i]]=vs.take (i+1) by rw[Ym hi]] at hs
 conv=>lhs; rw[qac]
 simp[qad,qiB,hi',hc,ha,hs,w1,qep,yFr,ySt,qpJ,zP,Nd.d,Wa]
theorem qsy(x y z:Nd){vs:List ByteArray}(hv:vs.length<2^40)(hn:vs.Nodup) : ∀ (n i:Nat),i+n=vs.length->Z qae (.loop 0 F131l0 (yFr vs i) (ySt (qpJ x y z) (vs.take i)))=some (.out (.exit 0) (yFr vs vs.length++[(20,.bool false)]) (ySt (qpJ x y z) vs))
 |0,i,h=>by
  obtain rfl:i=vs.length:=by omega
  rw[List.take_length]
  exact qy3 x y z vs vs
 |n+1,i,h=>by
  rw[qwR x y z hv hn i (by omega)]
  exact qsy x y z hv hn n (i+1) (by omega)
abbrev jFr(R:D)(i:Int):Fr:=[(2,.ptr 0 0),(4,.ptr 1 0),(33,.dat R),(34,.int i)]
inductive HSt(vs:List ByteArray)(e0 e1 e2:Int):S->Cd->Prop
 |nil:HSt vs e0 e1 e2 [zP,qng e0 e1 e2 2,mpo vs] []
 |gr (c:Cd) (h:c≠[]):HSt vs e0 e1 e2 [zP,cob e0 e1 e2 2 c.length 3,.vec (icV c),mpo vs] c
section
variable{vs:List ByteArray}{e0 e1 e2:Int}{σ : S}{c:Cd}{u v w:Nd}
theorem qy4{R:D}(h:HSt vs e0 e1 e2 σ c):Z qae (.loop 0 F131l1 (jFr R 3) σ)=some (.out (.exit 2) (jFr R 3++[(35,.bool false)]) σ):=by
 rw[qac]
 cases h<;>simp[qad,qaX,Wa]
theorem qt9(h:HSt vs e0 e1 e2 σ c) : ∃ σ',HSt vs (-1) e1 e2 σ' c/\Z qae (.loop 0 F131l1 (jFr (ru Hd.none.nd v w) 0) σ)=Z qae (.loop 0 F131l1 (jFr (ru Hd.none.nd v w) 1) σ'):=by
 have w1:=qaf 1 (by omega)
 cases h with
 |nil=>
  refine⟨_,.nil,?_⟩
  conv=>lhs; rw[qac]
  simp[qad,qaX,w1,Hd.k,Nd.d,jFr,ru,Wa]
  exact qal (by simp[Wa])
 |gr _ g=>
  refine⟨_,.gr _ g,?_⟩
  conv=>lhs; rw[qac]
  simp[qad,qaX,w1,Hd.k,Nd.d,jFr,ru,Wa]
  exact qal (by simp[Wa])
theorem qua {f:Bool} {b:Ss} (h:HSt vs e0 e1 e2 σ c) {L:Nat} (hb:TrB vs (nd 7 0 ⟨#[]⟩ f b.fo) (codeS vs b) L) (h0 : ∀ e0 e1 e2:Int,4*L<2^30->Z qae (.call 147 [.ptr 0 0,nd 7 0 ⟨#[]⟩ f b.fo] (qdS vs e0 e1 e2))=some (.ret (.tup []) (if codeS vs b 0=[] then qdS vs e0 e1 e2 else qg5 vs e0 e1 e2 (codeS vs b 0))))
  (hl:c.length+4*L+10<2^30) : ∃ σ',HSt vs c.length e1 e2 σ' (c++snC (codeS vs b) (21,0) c.length)/\Z qae (.loop 0 F131l1 (jFr (ru (Hd.some f b).nd v w) 0) σ)=Z qae (.loop 0 F131l1 (jFr (ru (Hd.some f b).nd v w) 1) σ'):=by
 have w1:=qaf 1 (by omega)
 have lc:=hb.ln c.length
 have hx:c++snC (codeS vs b) (21,0) c.length=(c++codeS vs b c.length)++[((21:Int),(0:Int))]:=by simp[snC]
 refine⟨_,.gr _ (by rw[hx]; simp),?_⟩
 rw[hx]
 cases h with
 |nil=>
  rw[show (([]:Cd).length:Int)=0 from rfl] at *
  rw[Wg]
  by_cases hz:codeS vs b 0=[]
  ·have z1:=h0 0 e1 e2 (by omega)
   rw[if_pos hz] at z1
   have z2:=qkj (vs:=vs) (e0:=0) (e1:=e1) (e2:=e2) 21 0
   rw[hz,Wg]
   generalize [((21:Int),(0:Int))]=c5 at *
   conv=>lhs; rw[qac]
   simp[qad,qaX,qdP,w1,Hd.k,Hd.f,Hd.ks,Nd.d,jFr,ru,z1,z2,qa9,qaq,Wa]
   exact qal (by simp[Wa])
  ·have z1:=h0 0 e1 e2 (by omega)
   rw[if_neg hz] at z1
   have z2:=qbW (vs:=vs) (e0:=0) (e1:=e1) (e2:=e2) (codeS vs b 0) (by omega) 21 0
   generalize codeS vs b 0++[((21:Int),(0:Int))]=c5 at *
   generalize codeS vs b 0=c4 at *
   conv=>lhs; rw[qac]
   simp[qad,qaX,qdP,w1,Hd.k,Hd.f,Hd.ks,Nd.d,jFr,ru,z1,z2,qa9,qaq,Wa]
   try exact qal (by simp[Wa])
 |gr _ g=>
  have z1:=hb.one c.length e1 e2 c g (by omega)
  have z2:=qbW (vs:=vs) (e0:=c.length) (e1:=e1) (e2:=e2) (c++codeS vs b c.length) (by rw[Wb]; omega) 21 0
  generalize c++codeS vs b c.length++[((21:Int),(0:Int))]=c5 at *
  generalize c++codeS vs b c.length=c4 at *
  conv=>lhs; rw[qac]
  simp[qad,qaX,qcz,w1,Hd.k,Hd.f,Hd.ks,Nd.d,jFr,ru,z1,z2,qa9,qaq,Wa]
  try exact qal (by simp[Wa])
theorem qub(h:HSt vs e0 e1 e2 σ c) : ∃ σ',HSt vs e0 (-1) e2 σ' c/\Z qae (.loop 0 F131l1 (jFr (ru u Hd.none.nd w) 1) σ)=Z qae (.loop 0 F131l1 (jFr (ru u Hd.none.nd w) 2) σ'):=by
 have w1:=qaf 2 (by omega)
 cases h with
 |nil=>
  refine⟨_,.nil,?_⟩
  conv=>lhs; rw[qac]
  simp[qad,qaX,w1,Hd.k,Nd.d,jFr,ru,Wa]
  exact qal (by simp[Wa])
 |gr _ g=>
  refine⟨_,.gr _ g,?_⟩
  conv=>lhs; rw[qac]
  simp[qad,qaX,w1,Hd.k,Nd.d,jFr,ru,Wa]
  exact qal (by simp[Wa])
theorem quc {f:Bool} {b:Ss} (h:HSt vs e0 e1 e2 σ c) {L:Nat} (hb:TrB vs (nd 7 0 ⟨#[]⟩ f b.fo) (codeS vs b) L) (h0 : ∀ e0 e1 e2:Int,4*L<2^30->Z qae (.call 147 [.ptr 0 0,nd 7 0 ⟨#[]⟩ f b.fo] (qdS vs e0 e1 e2))=some (.ret (.tup []) (if codeS vs b 0=[] then qdS vs e0 e1 e2 else qg5 vs e0 e1 e2 (codeS vs b 0))))
  (hl:c.length+4*L+10<2^30) : ∃ σ',HSt vs e0 c.length e2 σ' (c++snC (codeS vs b) (21,0) c.length)/\Z qae (.loop 0 F131l1 (jFr (ru u (Hd.some f b).nd w) 1) σ)=Z qae (.loop 0 F131l1 (jFr (ru u (Hd.some f b).nd w) 2) σ'):=by
 have w1:=qaf 2 (by omega)
 have lc:=hb.ln c.length
 have hx:c++snC (codeS vs b) (21,0) c.length=(c++codeS vs b c.length)++[((21:Int),(0:Int))]:=by simp[snC]
 refine⟨_,.gr _ (by rw[hx]; simp),?_⟩
 rw[hx]
 cases h with
 |nil=>
  rw[show (([]:Cd).length:Int)=0 from rfl] at *
  rw[Wg]
  by_cases hz:codeS vs b 0=[]
  ·have z1:=h0 e0 0 e2 (by omega)
   rw[if_pos hz] at z1
   have z2:=qkj (vs:=vs) (e0:=e0) (e1:=0) (e2:=e2) 21 0
   rw[hz,Wg]
   generalize [((21:Int),(0:Int))]=c5 at *
   conv=>lhs; rw[qac]
   simp[qad,qaX,qdP,w1,Hd.k,Hd.f,Hd.ks,Nd.d,jFr,ru,z1,z2,qa9,qaq,Wa]
   exact qal (by simp[Wa])
  ·have z1:=h0 e0 0 e2 (by omega)
   rw[if_neg hz] at z1
   have z2:=qbW (vs:=vs) (e0:=e0) (e1:=0) (e2:=e2) (codeS vs b 0) (by omega) 21 0
   generalize codeS vs b 0++[((21:Int),(0:Int))]=c5 at *
   generalize codeS vs b 0=c4 at *
   conv=>lhs; rw[qac]
   simp[qad,qaX,qdP,w1,Hd.k,Hd.f,Hd.ks,Nd.d,jFr,ru,z1,z2,qa9,qaq,Wa]
   try exact qal (by simp[Wa])
 |gr _ g=>
  have z1:=hb.one e0 c.length e2 c g (by omega)
  have z2:=qbW (vs:=vs) (e0:=e0) (e1:=c.length) (e2:=e2) (c++codeS vs b c.length) (by rw[Wb]; omega) 21 0
  generalize c++codeS vs b c.length++[((21:Int),(0:Int))]=c5 at *
  generalize c++codeS vs b c.length=c4 at *
  conv=>lhs; rw[qac]
  simp[qad,qaX,qcz,w1,Hd.k,Hd.f,Hd.ks,Nd.d,jFr,ru,z1,z2,qa9,qaq,Wa]
  try exact qal (by simp[Wa])
theorem qud(h:HSt vs e0 e1 e2 σ c) : ∃ σ',HSt vs e0 e1 (-1) σ' c/\Z qae (.loop 0 F131l1 (jFr (ru u v Hd.none.nd) 2) σ)=Z qae (.loop 0 F131l1 (jFr (ru u v Hd.none.nd) 3) σ'):=by
 have w1:=qaf 3 (by omega)
 cases h with
 |nil=>
  refine⟨_,.nil,?_⟩
  conv=>lhs; rw[qac]
  simp[qad,qaX,w1,Hd.k,Nd.d,jFr,ru,Wa]
  exact qal (by simp[Wa])
 |gr _ g=>
  refine⟨_,.gr _ g,?_⟩
  conv=>lhs; rw[qac]
  simp[qad,qaX,w1,Hd.k,Nd.d,jFr,ru,Wa]
  exact qal (by simp[Wa])
theorem que {f:Bool} {b:Ss} (h:HSt vs e0 e1 e2 σ c) {L:Nat} (hb:TrB vs (nd 7 0 ⟨#[]⟩ f b.fo) (codeS vs b) L) (h0 : ∀ e0 e1 e2:Int,4*L<2^30->Z qae (.call 147 [.ptr 0 0,nd 7 0 ⟨#[]⟩ f b.fo] (qdS vs e0 e1 e2))=some (.ret (.tup []) (if codeS vs b 0=[] then qdS vs e0 e1 e2 else qg5 vs e0 e1 e2 (codeS vs b 0))))
  (hl:c.length+4*L+10<2^30) : ∃ σ',HSt vs e0 e1 c.length σ' (c++snC (codeS vs b) (21,0) c.length)/\Z qae (.loop 0 F131l1 (jFr (ru u v (Hd.some f b).nd) 2) σ)=Z qae (.loop 0 F131l1 (jFr (ru u v (Hd.some f b).nd) 3) σ'):=by
 have w1:=qaf 3 (by omega)
 have lc:=hb.ln c.length
 have hx:c++snC (codeS vs b) (21,0) c.length=(c++codeS vs b c.length)++[((21:Int),(0:Int))]:=by simp[snC]
 refine⟨_,.gr _ (by rw[hx]; simp),?_⟩
 rw[hx]
 cases h with
 |nil=>
  rw[show (([]:Cd).length:Int)=0 from rfl] at *
  rw[Wg]
  by_cases hz:codeS vs b 0=[]
  ·have z1:=h0 e0 e1 0 (by omega)
   rw[if_pos hz] at z1
   have z2:=qkj (vs:=vs) (e0:=e0) (e1:=e1) (e2:=0) 21 0
   rw[hz,Wg]
   generalize [((21:Int),(0:Int))]=c5 at *
   conv=>lhs; rw[qac]
   simp[qad,qaX,qdP,w1,Hd.k,Hd.f,Hd.ks,Nd.d,jFr,ru,z1,z2,qa9,qaq,Wa]
   exact qal (by simp[Wa])
  ·have z1:=h0 e0 e1 0 (by omega)
   rw[if_neg hz] at z1
   have z2:=qbW (vs:=vs) (e0:=e0) (e1:=e1) (e2:=0) (codeS vs b 0) (by omega) 21 0
   generalize codeS vs b 0++[((21:Int),(0:Int))]=c5 at *
   generalize codeS vs b 0=c4 at *
   conv=>lhs; rw[qac]
   simp[qad,qaX,qdP,w1,Hd.k,Hd.f,Hd.ks,Nd.d,jFr,ru,z1,z2,qa9,qaq,Wa]
   try exact qal (by simp[Wa])
 |gr _ g=>
  have z1:=hb.one e0 e1 c.length c g (by omega)
  have z2:=qbW (vs:=vs) (e0:=e0) (e1:=e1) (e2:=c.length) (c++codeS vs b c.length) (by rw[Wb]; omega) 21 0
  generalize c++codeS vs b c.length++[((21:Int),(0:Int))]=c5 at *
  generalize c++codeS vs b c.length=c4 at *
  conv=>lhs; rw[qac]
  simp[qad,qaX,qcz,w1,Hd.k,Hd.f,Hd.ks,Nd.d,jFr,ru,z1,z2,qa9,qaq,Wa]
  try exact qal (by simp[Wa])
end
end
section
open F Gr
set_option maxHeartbeats 2000000
attribute [local simp] qa6 qbu dkey qfN
abbrev kFr(e0 e1 e2 i:Int):Fr:=[(2,.ptr 0 0),(9,.ptr 1 0),(86,.dat (.agg [.lit (.int .i64 e0),.lit (.int .i64 e1),.lit (.int .i64 e2)])),(87,.int i)]
inductive KSt(e0 e1 e2:Int):S->Cd->Prop
 |nil (h:e0<0/\e1<0/\e2<0):KSt e0 e1 e2 [zP,.cells [.dat (.lit (.slice none 0 0)),.int e0,.int e1,.int e2]] []
 |vec (c:Cd) (h:c≠[]):KSt e0 e1 e2 [zP,.cells [.own 2 c.length 2,.int e0,.int e1,.int e2],.vec (icV c)] c
 |froz (c:Cd) (h:c≠[]):KSt e0 e1 e2 [zP,.cells [.own 2 c.length 2,.int e0,.int e1,.int e2],.froz (icC c)] c
section
variable{e0 e1 e2:Int}{σ : S}{c:Cd}
theorem qy0(h:KSt e0 e1 e2 σ c):Z qae (.loop 0 F131l2 (kFr e0 e1 e2 3) σ)=some (.out (.exit 4) (kFr e0 e1 e2 3++[(88,.bool false)]) σ):=by
 rw[qac]
 cases h<;>simp[qad,qaY,Wa]
def qgA(c:Cd)(e0 e1 e2 e:Int)(sf:Bool):Prop := ∃ a:D,Z qae (.call 139 [pgD (.sl (icC c) c.length false) e0 e1 e2,.int e] [])=some (.ret (.dat a) [])/\Z qae (.call 140 [.dat a] [])=some (.ret (.bool sf) [])
theorem qwI(h:KSt e0 e1 e2 σ c)(hn:e0<0):Z qae (.loop 0 F131l2 (kFr e0 e1 e2 0) σ)=Z qae (.loop 0 F131l2 (kFr e0 e1 e2 1) σ):=by
 have w1:=qaf 1 (by omega)
 have hn' : ¬ 0<=e0:=by omega
 conv=>lhs; rw[qac]
 cases h<;>simp[qad,qaY,w1,hn',qaj,Wa]
theorem qwJ(h:KSt e0 e1 e2 σ c)(hn:0<=e0){sf:Bool}(hs:qgA c e0 e1 e2 e0 sf) : ∃ σ',KSt e0 e1 e2 σ' c/\Z qae (.loop 0 F131l2 (kFr e0 e1 e2 0) σ)=if sf then Z qae (.loop 0 F131l2 (kFr e0 e1 e2 1) σ') else some (.out .ret [(2,.ptr 0 0),(3,.int 15)] σ'):=by
 have w1:=qaf 1 (by omega)
 obtain⟨a,z1,z2⟩:=hs
 simp only[pgD] at z1
 have hl:=qfs c
 have hd:=qjt c
 have hl2:=qfc c
 cases h with
 |nil h=>omega
 |vec _ g=>
  refine⟨_,.froz _ g,?_⟩
  rw[qac]
  cases sf
  ·simp[qad,qaY,w1,hn,z1,z2,hl,hd,qaj,Wa]
  ·simp[qad,qaY,w1,hn,z1,z2,hl,hd,qaj,Wa]
 |froz _ g=>
  refine⟨_,.froz _ g,?_⟩
  rw[qac]
  cases sf
  ·simp[qad,qaY,w1,hn,z1,z2,hl,hd,qaj,Wa]
  ·simp[qad,qaY,w1,hn,z1,z2,hl,hd,qaj,Wa]
theorem qt2(h:KSt e0 e1 e2 σ c){sf:Bool}(hs:0<=e0->qgA c e0 e1 e2 e0 sf)(hs2:e0<0->sf=true) : ∃ σ',KSt e0 e1 e2 σ' c/\Z qae (.loop 0 F131l2 (kFr e0 e1 e2 0) σ)=if sf then Z qae (.loop 0 F131l2 (kFr e0 e1 e2 1) σ') else some (.out .ret [(2,.ptr 0 0),(3,.int 15)] σ'):=by
 by_cases hn:e0<0
 ·exact⟨σ,h,by rw[hs2 hn,qwI h hn]; rfl⟩
 ·exact qwJ h (by omega) (hs (by omega))
theorem qwK(h:KSt e0 e1 e2 σ c)(hn:e1<0):Z qae (.loop 0 F131l2 (kFr e0 e1 e2 1) σ)=Z qae (.loop 0 F131l2 (kFr e0 e1 e2 2) σ):=by
 have w1:=qaf 2 (by omega)
 have hn' : ¬ 0<=e1:=by omega
 conv=>lhs; rw[qac]
 cases h<;>simp[qad,qaY,w1,hn',qaj,Wa]
theorem qwL(h:KSt e0 e1 e2 σ c)(hn:0<=e1){sf:Bool}(hs:qgA c e0 e1 e2 e1 sf) : ∃ σ',KSt e0 e1 e2 σ' c/\Z qae (.loop 0 F131l2 (kFr e0 e1 e2 1) σ)=if sf then Z qae (.loop 0 F131l2 (kFr e0 e1 e2 2) σ') else some (.out .ret [(2,.ptr 0 0),(3,.int 15)] σ'):=by
 have w1:=qaf 2 (by omega)
 obtain⟨a,z1,z2⟩:=hs
 simp only[pgD] at z1
 have hl:=qfs c
 have hd:=qjt c
 have hl2:=qfc c
 cases h with
 |nil h=>omega
 |vec _ g=>
  refine⟨_,.froz _ g,?_⟩
  rw[qac]
  cases sf
  ·simp[qad,qaY,w1,hn,z1,z2,hl,hd,qaj,Wa]
  ·simp[qad,qaY,w1,hn,z1,z2,hl,hd,qaj,Wa]
 |froz _ g=>
  refine⟨_,.froz _ g,?_⟩
  rw[qac]
  cases sf
  ·simp[qad,qaY,w1,hn,z1,z2,hl,hd,qaj,Wa]
  ·simp[qad,qaY,w1,hn,z1,z2,hl,hd,qaj,Wa]
theorem qt3(h:KSt e0 e1 e2 σ c){sf:Bool}(hs:0<=e1->qgA c e0 e1 e2 e1 sf)(hs2:e1<0->sf=true) : ∃ σ',KSt e0 e1 e2 σ' c/\Z qae (.loop 0 F131l2 (kFr e0 e1 e2 1) σ)=if sf then Z qae (.loop 0 F131l2 (kFr e0 e1 e2 2) σ') else some (.out .ret [(2,.ptr 0 0),(3,.int 15)] σ'):=by
 by_cases hn:e1<0
 ·exact⟨σ,h,by rw[hs2 hn,qwK h hn]; rfl⟩
 ·exact qwL h (by omega) (hs (by omega))
theorem qwM(h:KSt e0 e1 e2 σ c)(hn:e2<0):Z qae (.loop 0 F131l2 (kFr e0 e1 e2 2) σ)=Z qae (.loop 0 F131l2 (kFr e0 e1 e2 3) σ):=by
 have w1:=qaf 3 (by omega)
 have hn' : ¬ 0<=e2:=by omega
 conv=>lhs; rw[qac]
 cases h<;>simp[qad,qaY,w1,hn',qaj,Wa]
theorem qwN(h:KSt e0 e1 e2 σ c)(hn:0<=e2){sf:Bool}(hs:qgA c e0 e1 e2 e2 sf) : ∃ σ',KSt e0 e1 e2 σ' c/\Z qae (.loop 0 F131l2 (kFr e0 e1 e2 2) σ)=if sf then Z qae (.loop 0 F131l2 (kFr e0 e1 e2 3) σ') else some (.out .ret [(2,.ptr 0 0),(3,.int 15)] σ'):=by
 have w1:=qaf 3 (by omega)
 obtain⟨a,z1,z2⟩:=hs
 simp only[pgD] at z1
 have hl:=qfs c
 have hd:=qjt c
 have hl2:=qfc c
 cases h with
 |nil h=>omega
 |vec _ g=>
  refine⟨_,.froz _ g,?_⟩
  rw[qac]
  cases sf
  ·simp[qad,qaY,w1,hn,z1,z2,hl,hd,qaj,Wa]
  ·simp[qad,qaY,w1,hn,z1,z2,hl,hd,qaj,Wa]
 |froz _ g=>
  refine⟨_,.froz _ g,?_⟩
  rw[qac]
  cases sf
  ·simp[qad,qaY,w1,hn,z1,z2,hl,hd,qaj,Wa]
  ·simp[qad,qaY,w1,hn,z1,z2,hl,hd,qaj,Wa]
theorem qt4(h:KSt e0 e1 e2 σ c){sf:Bool}(hs:0<=e2->qgA c e0 e1 e2 e2 sf)(hs2:e2<0->sf=true) : ∃ σ',KSt e0 e1 e2 σ' c/\Z qae (.loop 0 F131l2 (kFr e0 e1 e2 2) σ)=if sf then Z qae (.loop 0 F131l2 (kFr e0 e1 e2 3) σ') else some (.out .ret [(2,.ptr 0 0),(3,.int 15)] σ'):=by
 by_cases hn:e2<0
 ·exact⟨σ,h,by rw[hs2 hn,qwM h hn]; rfl⟩
 ·exact qwN h (by omega) (hs (by omega))
theorem qwO (h:KSt e0 e1 e2 σ c) {s0 s1 s2:Bool} (h0:0<=e0->qgA c e0 e1 e2 e0 s0) (g0:e0<0->s0=true) (h1:0<=e1->qgA c e0 e1 e2 e1 s1) (g1:e1<0->s1=true) (h2:0<=e2->qgA c e0 e1 e2 e2 s2) (g2:e2<0->s2=true) :
  ∃ σ',KSt e0 e1 e2 σ' c/\Z qae (.loop 0 F131l2 (kFr e0 e1 e2 0) σ)=if s0&&(s1&&s2) then some (.out (.exit 4) (kFr e0 e1 e2 3++[(88,.bool false)]) σ') else some (.out .ret [(2,.ptr 0 0),(3,.int 15)] σ'):=by
 obtain⟨σ0,k0,z0⟩:=qt2 h h0 g0
 cases s0 with
 |false=>exact⟨σ0,k0,z0⟩
 |true=>
  obtain⟨σ1,k1,z1⟩:=qt3 k0 h1 g1
  cases s1 with
  |false=>exact⟨σ1,k1,z0.trans z1⟩
  |true=>
   obtain⟨σ2,k2,z2⟩:=qt4 k1 h2 g2
   cases s2 with
   |false=>exact⟨σ2,k2,z0.trans (z1.trans z2)⟩
   |true=>exact⟨σ2,k2,z0.trans (z1.trans (z2.trans (qy0 k2)))⟩
end
section
variable{vs:List ByteArray}{a b c:Hd}
theorem qy1 (fa:a.fine) (fb:b.fine) (fc:c.fine) (ia:a.ss.inV vs) (ib:b.ss.inV vs) (ic:c.ss.inV vs) :
  ∃ σ,HSt vs (qgh a) (qf2 vs a b) (qgi vs a b c) σ (qct vs a b c) /\
   Z qae (.loop 0 F131l1 (jFr (ru a.nd b.nd c.nd) 0) [zP,qng 0 0 0 2,mpo vs])=some (.out (.exit 2) (jFr (ru a.nd b.nd c.nd) 3++[(35,.bool false)]) σ):=by
 have key : ∀ h:Hd,h.fine -> ∃ L,L<=8001/\Ln (hdC vs h) L:=fun h f=>by
  cases h with
  |none=>exact⟨0,by omega,fun _=>rfl⟩
  |some g x=>
   obtain⟨n,hn,hn2⟩:=qy7 vs x
   have:=f.size
   simp only[Hd.ss] at this
   exact⟨n+1,by omega,qbv hn⟩
 obtain⟨la,ka,na⟩:=key a fa
 obtain⟨lb,kb,nb⟩:=key b fb
 have s0 : ∃ σ,HSt vs (qgh a) 0 0 σ (hdC vs a 0)/\Z qae (.loop 0 F131l1 (jFr (ru a.nd b.nd c.nd) 0) [zP,qng 0 0 0 2,mpo vs])=Z qae (.loop 0 F131l1 (jFr (ru a.nd b.nd c.nd) 1) σ):=by
  cases a with
  |none=>exact qt9 .nil
  |some f x=>
   have:=fa.size
   simp only[Hd.ss] at this ia
   obtain⟨L,hL,h,h0⟩:=qpe x fa.fine ia (by omega) f
   obtain⟨σ,h1,h2⟩:=qua (v:=b.nd) (w:=c.nd) (e0:=0) (e1:=0) (e2:=0) .nil h h0 (by simp; omega)
   exact⟨σ,by simpa [qgh,qkc,hdC] using h1,h2⟩
 obtain⟨σ0,c0,z0⟩:=s0
 have l0:=na 0
 have s1 : ∃ σ,HSt vs (qgh a) (qf2 vs a b) 0 σ (hdC vs a 0++hdC vs b (hdC vs a 0).length)/\Z qae (.loop 0 F131l1 (jFr (ru a.nd b.nd c.nd) 1) σ0)=Z qae (.loop 0 F131l1 (jFr (ru a.nd b.nd c.nd) 2) σ):=by
  cases b with
  |none=>
   obtain⟨σ,h1,h2⟩:=qub (u:=a.nd) (w:=c.nd) c0
   exact⟨σ,by simpa [qf2,qkc,hdC] using h1,h2⟩
  |some f x=>
   have:=fb.size
   simp only[Hd.ss] at this ib
   obtain⟨L,hL,h,h0⟩:=qpe x fb.fine ib (by omega) f
   obtain⟨σ,h1,h2⟩:=quc (u:=a.nd) (w:=c.nd) c0 h h0 (by omega)
   exact⟨σ,by simpa [qf2,qkc,hdC] using h1,h2⟩
 obtain⟨σ1,c1,z1⟩:=s1
 have e1:hdC vs a 0++hdC vs b (hdC vs a 0).length=sq (hdC vs a) (hdC vs b) 0:=by simp[sq]
 rw[e1] at c1
 have l1:(sq (hdC vs a) (hdC vs b) 0).length=la+lb:=qa2 na nb 0
 have s2 : ∃ σ,HSt vs (qgh a) (qf2 vs a b) (qgi vs a b c) σ (sq (hdC vs a) (hdC vs b) 0++hdC vs c (sq (hdC vs a) (hdC vs b) 0).length)/\Z qae (.loop 0 F131l1 (jFr (ru a.nd b.nd c.nd) 2) σ1)=Z qae (.loop 0 F131l1 (jFr (ru a.nd b.nd c.nd) 3) σ):=by
  cases c with
  |none=>
   obtain⟨σ,h1,h2⟩:=qud (u:=a.nd) (v:=b.nd) c1
   exact⟨σ,by simpa [qgi,qkc,hdC] using h1,h2⟩
  |some f x=>
   have:=fc.size
   simp only[Hd.ss] at this ic
   obtain⟨L,hL,h,h0⟩:=qpe x fc.fine ic (by omega) f
   obtain⟨σ,h1,h2⟩:=que (u:=a.nd) (v:=b.nd) c1 h h0 (by omega)
   exact⟨σ,by simpa [qgi,qkc,hdC] using h1,h2⟩
 obtain⟨σ2,c2,z2⟩:=s2
 have e2:sq (hdC vs a) (hdC vs b) 0++hdC vs c (sq (hdC vs a) (hdC vs b) 0).length=qct vs a b c:=by
  unfold qct
  simp only[sq,Wo,Wb]
  rw[show ((((hdC vs a 0).length+(hdC vs b (0+(hdC vs a 0).length)).length:Nat)):Int)=0+(hdC vs a 0).length+(hdC vs b (0+(hdC vs a 0).length)).length by omega]
 rw[e2] at c2
 exact⟨σ2,c2,z0.trans (z1.trans (z2.trans (qy4 c2)))⟩
theorem qlJ{C:Int->Cd}{n:Nat}{D:Nat->Int}(g:Hg C n D)(hl:n<2^27)(e0 e1 e2:Int){e m:Int}(h0:0<=e)(h1:e<n)(hD:D e.toNat=0)(hm:DepIs (C 0) e m):qgA (C 0) e0 e1 e2 e (decide (m<=16)):=by
 have hn:=g.ln 0
 have hok:=g.okC
 have hf:=qqM hok
 have hops : ∀ i,i<(C 0).length->1<=opA (C 0) i/\opA (C 0) i<=21:=fun i hi=>(qso (qlB _ _ hok i (by omega) (by omega))).1
 obtain⟨fl,br,dp,r1,r2⟩:=qzw (e0:=e0) (e1:=e1) (e2:=e2) (qkV (C 0) false) hf hops (by omega) (e:=e.toNat) (by omega)
 rw[show ((e.toNat:Nat):Int)=e by omega] at r2
 have hcf:=g.cf (e:=e.toNat) (by omega) hD
 have hbr:br=false:=r1.brk.2 ⟨D,hcf⟩
 have hdp:dp=m:=Most.unique (r1.most D hcf) (hm.2 h0 D hcf)
 refine⟨_,r2,?_⟩
 have:=qxr fl br dp
 rw[hbr,hdp] at this
 rw[hbr,hdp]
 simpa using this
end
end
section
open F Gr
set_option maxHeartbeats 2000000
attribute [local simp] qa6 qbu dkey qfN
section
variable{a b c:Hd}
theorem qlE:(rvars a.nd b.nd c.nd).Nodup:=qgX _ _ (by simp)
theorem qo1 (fa:a.fine) (fb:b.fine) (fc:c.fine) {m0 m1 m2:Int} (d0:DepIs (qct (rvars a.nd b.nd c.nd) a b c) (qgh a) m0) (d1:DepIs (qct (rvars a.nd b.nd c.nd) a b c) (qf2 (rvars a.nd b.nd c.nd) a b) m1) (d2:DepIs (qct (rvars a.nd b.nd c.nd) a b c) (qgi (rvars a.nd b.nd c.nd) a b c) m2) :
  Z qae (.call 131 [.dat (ru a.nd b.nd c.nd)] [])=some (.ret (qu2 (qct (rvars a.nd b.nd c.nd) a b c) (qgh a) (qf2 (rvars a.nd b.nd c.nd) a b) (qgi (rvars a.nd b.nd c.nd) a b c) m0 m1 m2) []):=by
 have l4:=qgs fa.fine fb.fine fc.fine
 have sa:=qu3 a fa
 have sb:=qu3 b fb
 have sc:=qu3 c fc
 have zv:=qcy qga (qlZ (a:=a.nd) (b:=b.nd) (c:=c.nd) (by omega) (by omega) (by omega))
 obtain⟨ia,ib,ic⟩:=qjA (a:=a) (b:=b) (c:=c)
 obtain⟨n,D,g,p0,p1,p2⟩:=qo4 (vs:=rvars a.nd b.nd c.nd) (by omega) fa.fine fb.fine fc.fine ia ib ic
 obtain⟨σ,hst,hloop⟩:=qy1 (vs:=rvars a.nd b.nd c.nd) fa fb fc ia ib ic
 have hlen:=qp0 (vs:=rvars a.nd b.nd c.nd) fa fb fc
 have hn:(qct (rvars a.nd b.nd c.nd) a b c).length=n:=g.ln 0
 have hvl:=qsy a.nd b.nd c.nd (vs:=rvars a.nd b.nd c.nd) (by omega) qlE (rvars a.nd b.nd c.nd).length 0 (by omega)
 rw[List.take_zero] at hvl
 have q0:0<=qgh a->qgA (qct (rvars a.nd b.nd c.nd) a b c) (qgh a) (qf2 (rvars a.nd b.nd c.nd) a b) (qgi (rvars a.nd b.nd c.nd) a b c) (qgh a) (decide (m0<=16)):=fun h=>by
  rcases p0 with p|⟨x,y,z⟩
  ·omega
  ·exact qlJ g (by omega) _ _ _ x y z d0
 have q1:0<=qf2 (rvars a.nd b.nd c.nd) a b->qgA (qct (rvars a.nd b.nd c.nd) a b c) (qgh a) (qf2 (rvars a.nd b.nd c.nd) a b) (qgi (rvars a.nd b.nd c.nd) a b c) (qf2 (rvars a.nd b.nd c.nd) a b) (decide (m1<=16)):=fun h=>by
  rcases p1 with p|⟨x,y,z⟩
  ·omega
  ·exact qlJ g (by omega) _ _ _ x y z d1
 have q2:0<=qgi (rvars a.nd b.nd c.nd) a b c->qgA (qct (rvars a.nd b.nd c.nd) a b c) (qgh a) (qf2 (rvars a.nd b.nd c.nd) a b) (qgi (rvars a.nd b.nd c.nd) a b c) (qgi (rvars a.nd b.nd c.nd) a b c) (decide (m2<=16)):=fun h=>by
  rcases p2 with p|⟨x,y,z⟩
  ·omega
  ·exact qlJ g (by omega) _ _ _ x y z d2
 have w0:qgh a<0->decide (m0<=16)=true:=fun h=>by rw[d0.1 h]; rfl
 have w1:qf2 (rvars a.nd b.nd c.nd) a b<0->decide (m1<=16)=true:=fun h=>by rw[d1.1 h]; rfl
 have w2:qgi (rvars a.nd b.nd c.nd) a b c<0->decide (m2<=16)=true:=fun h=>by rw[d2.1 h]; rfl
 clear d0 d1 d2 g
 generalize rvars a.nd b.nd c.nd=vs at *
 generalize hC:qct vs a b c=C at *
 generalize hE0:qgh a=e0 at *
 generalize hE1:qf2 vs a b=e1 at *
 generalize hE2:qgi vs a b c=e2 at *
 have hcond:(16<m0\/16<m1\/16<m2)↔(decide (m0<=16)&&(decide (m1<=16)&&decide (m2<=16)))=false:=by
  rw[WZ,WZ,decide_eq_false_iff_not,decide_eq_false_iff_not,decide_eq_false_iff_not]
  omega
 have hv':=(qal (prog:=qae) (k:=0) (b:=F131l0) (fr:=[(1,.ptr 0 0),(2,.ptr 1 0),(4,.ptr 3 0),(17,.dat (qlW vs)),(18,.int vs.length),(19,.int 0)]) (σ := [qpJ a.nd b.nd c.nd,zP,.map [],qng 0 0 0 2]) (by simp[yFr,ySt,mapM,Wa])).trans hvl
 have hloop':=(qal (prog:=qae) (k:=0) (b:=F131l1) (fr:=[(2,.ptr 1 0),(4,.ptr 2 0),(33,.dat (ru a.nd b.nd c.nd)),(34,.int 0)]) (σ := [qpJ a.nd b.nd c.nd,zP,qng 0 0 0 3,mpo vs]) (by simp[jFr,Wa])).trans hloop
 simp only[qpJ,zP,Nd.d,qzr,qz9,qzs,qAa,qrX,yFr,jFr,ru,Wh,Wg] at hv' hloop'
 simp only[ru,Nd.d,qzr,qz9,qzs,qAa,qrX] at zv
 refine qaa (pf:=F131) rfl rfl ?_
 unfold qu2
 cases hst with
 |nil=>
  have hn0:n=0:=by rw[<- hn]; rfl
  obtain⟨σ',hk,z⟩:=qwO (KSt.nil (e0:=e0) (e1:=e1) (e2:=e2) (by omega)) q0 w0 q1 w1 q2 w2
  have h400 : ¬ 400<([]:Cd).length:=by simp
  rw[if_neg h400]
  replace z:=(qal (prog:=qae) (k:=0) (b:=F131l2) (fr:=[(2,.ptr 0 0),(9,.ptr 3 0),(86,.dat (.agg [.lit (.int .i64 e0),.lit (.int .i64 e1),.lit (.int .i64 e2)])),(87,.int 0)]) (σ := [zP,qng e0 e1 e2 2,mpo vs,.cells [.dat (.lit (.slice none 0 0)),.int e0,.int e1,.int e2]]) (by simp[Wa])).trans z
  by_cases hb:16<m0\/16<m1\/16<m2
  ·rw[hcond.1 hb] at z
   rw[if_pos hb]
   cases hk with
   |nil=>simp[F131,ru,Nd.d,zv,hv',hloop',z,pgD,ql2,qdP,qa9,qaq,Wa]
   |vec _ g=>exact absurd rfl g
   |froz _ g=>exact absurd rfl g
  ·have hb':(decide (m0<=16)&&(decide (m1<=16)&&decide (m2<=16)))=true:=by
    rw[<- Bool.not_eq_false,<- hcond]; exact hb
   rw[hb'] at z
   rw[if_neg hb]
   cases hk with
   |nil=>simp[F131,ru,Nd.d,zv,hv',hloop',z,pgD,ql2,qdP,qa9,qaq,Wa]
   |vec _ g=>exact absurd rfl g
   |froz _ g=>exact absurd rfl g
 |gr _ hne=>
  have hdat:=qjt C
  have hvl:=qfs C
  rw[qr7 hne]
  by_cases h4:400<C.length
  ·rw[if_pos h4]
   have h4':(400:Int)<C.length:=by omega
   simp[F131,ru,Nd.d,zv,hv',hloop',pgD,qcz,h4',qa9,qaq,Wa]
  rw[if_neg h4]
  have h4' : ¬ (400:Int)<C.length:=by omega
  obtain⟨σ',hk,z⟩:=qwO (KSt.vec (e0:=e0) (e1:=e1) (e2:=e2) C hne) q0 w0 q1 w1 q2 w2
  replace z:=(qal (prog:=qae) (k:=0) (b:=F131l2) (fr:=[(2,.ptr 0 0),(9,.ptr 4 0),(86,.dat (.agg [.lit (.int .i64 e0),.lit (.int .i64 e1),.lit (.int .i64 e2)])),(87,.int 0)]) (σ := [zP,cob e0 e1 e2 2 C.length 3,.vec (icV C),mpo vs,.cells [.own 2 C.length 2,.int e0,.int e1,.int e2]]) (by simp[Wa])).trans z
  by_cases hb:16<m0\/16<m1\/16<m2
  ·rw[hcond.1 hb] at z
   rw[if_pos hb]
   cases hk with
   |nil=>exact absurd rfl hne
   |vec _ g=>simp[F131,ru,Nd.d,zv,hv',hloop',z,pgD,qcz,h4',qa9,qaq,Wa]
   |froz _ g=>simp[F131,ru,Nd.d,zv,hv',hloop',z,pgD,qcz,h4',qa9,qaq,Wa]
  ·have hb':(decide (m0<=16)&&(decide (m1<=16)&&decide (m2<=16)))=true:=by
    rw[<- Bool.not_eq_false,<- hcond]; exact hb
   rw[hb'] at z
   rw[if_neg hb]
   cases hk with
   |nil=>exact absurd rfl hne
   |vec _ g=>simp[F131,ru,Nd.d,zv,hv',hloop',z,pgD,qcz,h4',hdat,hvl,qa9,qaq,Wa]
   |froz _ g=>simp[F131,ru,Nd.d,zv,hv',hloop',z,pgD,qcz,h4',hdat,hvl,qa9,qaq,Wa]
end
end
section
theorem qcP(f:Bool) : ∀ (e:E) {r r':Fo},r.eqv r'=true->((e.fl f).fo r).eqv (e.fo r')=true
 |.int n,r,r',h=>by simp[E.fl,E.fo,Fo.eqv,h]
 |.bool n,r,r',h=>by simp[E.fl,E.fo,Fo.eqv,h]
 |.var s,r,r',h=>by simp[E.fl,E.fo,Fo.eqv,h]
 |.name s,r,r',h=>by simp[E.fl,E.fo,Fo.eqv,h]
 |.field _ s e,r,r',h=>by simp[E.fl,E.fo,Fo.eqv,h,qcP f e (r := .nil) (r' := .nil) rfl]
 |.un _ n e,r,r',h=>by simp[E.fl,E.fo,Fo.eqv,h,qcP f e (r := .nil) (r' := .nil) rfl]
 |.bin _ o a b,r,r',h=>by simp[E.fl,E.fo,Fo.eqv,h,qcP f a (qcP f b (r := .nil) (r' := .nil) rfl)]
theorem qcQ(f fi fb:Bool) : ∀ (s:Ss),((s.fl f fi fb).fo).eqv s.fo=true
 |.nil=>rfl
 |.assign _ s e r=>by simp[Ss.fl,Ss.fo,Fo.eqv,qcP f e (r := .nil) (r' := .nil) rfl,qcQ f fi fb r]
 |.store _ s a b r=>by simp[Ss.fl,Ss.fo,Fo.eqv,qcP f a (qcP f b (r := .nil) (r' := .nil) rfl),qcQ f fi fb r]
 |.effect _ a b r=>by simp[Ss.fl,Ss.fo,Fo.eqv,qcP f a (qcP f b (r := .nil) (r' := .nil) rfl),qcQ f fi fb r]
 |.stop r=>by simp[Ss.fl,Ss.fo,Fo.eqv,qcQ f fi fb r]
 |.cond w _ c b r=>by cases w<;>simp[Ss.fl,Ss.fo,Fo.eqv,qcP f c (qcQ f fi fb b),qcQ f fi fb r]
 |.block _ b r=>by simp[Ss.fl,Ss.fo,Fo.eqv,qcQ f fi fb b,qcQ f fi fb r]
theorem qj8 : ∀ {a b:Fo},a.eqv b=true->a.size=b.size
 |.nil,.nil,_=>rfl
 |.cons ..,.cons ..,h=>by
  simp only[Fo.eqv,Wq] at h
  simp only[Fo.size,qj8 h.2.1,qj8 h.2.2]
 |.nil,.cons ..,h=>by cases h
 |.cons ..,.nil,h=>by cases h
end
section
open F Gr
set_option maxHeartbeats 4000000
theorem qpy{c:Cd}{e:Nat}(D:Nat->Int) : ∀ k:Nat,∃ m:Int,0<=m/\(∀ i,i<k->Gr.Reach c e i->aft c i (D i)<=m)/\(m=0 \/ ∃ i,Gr.Reach c e i/\m=aft c i (D i))
 |0=>⟨0,by omega,fun i h=>by omega,.inl rfl⟩
 |k+1=>by
  obtain⟨m,h0,h1,h2⟩:=qpy D k
  by_cases hr:Gr.Reach c e k/\m<aft c k (D k)
  ·refine⟨aft c k (D k),by omega,fun i hi h=>?_,.inr ⟨k,hr.1,rfl⟩⟩
   by_cases hik:i=k
   ·subst hik; omega
   ·have:=h1 i (by omega) h
    omega
  ·refine⟨m,h0,fun i hi h=>?_,h2⟩
   by_cases hik:i=k
   ·subst hik
    exact Int.not_lt.1 fun h'=>hr ⟨h,h'⟩
   ·exact h1 i (by omega) h
theorem qxd{c:Cd}{e:Int}(he:0<=e->e.toNat<c.length) : ∃ m,DepIs c e m:=by
 by_cases h0:e<0
 ·exact⟨0,fun _=>rfl,fun h=>by omega⟩
 ·by_cases hD : ∃ D,CF c e.toNat D
  ·obtain⟨D,hD⟩:=hD
   obtain⟨m,a,b,d⟩:=qpy (c:=c) (e:=e.toNat) D c.length
   exact⟨m,fun h=>absurd h h0,fun _ D' hD'=>Most.of_eq hD hD' ⟨a,fun i hi=>b i (hi.lt (he (by omega))) hi,d⟩⟩
  ·exact⟨0,fun h=>absurd h h0,fun _ D' hD'=>absurd ⟨D',hD'⟩ hD⟩
theorem qho(vs:List ByteArray)(f:Bool) : ∀ e:E,qat vs (e.fl f)=qat vs e
 |.int n | .bool n | .var s | .name s=>rfl
 |.field _ s e | .un _ n e=>by simp only[E.fl,qat,qho vs f e]
 |.bin _ o a b=>by simp only[E.fl,qat,qho vs f a,qho vs f b]
theorem qrQ(f:Bool)(e:E):(e.fl f).ty=e.ty:=by induction e<;>simp_all [E.fl,E.ty]
theorem qgb(f:Bool) : ∀ e:E,e.fine->(e.fl f).fine
 |.int n,h | .bool n,h | .var s,h | .name s,h=>h
 |.field _ s e,h=>by simp only[E.fl,E.fine] at h ⊢; simp_all [qgb f e,qrQ]
 |.un _ n e,h=>by simp only[E.fl,E.fine] at h ⊢; simp_all [qgb f e,qrQ]
 |.bin _ o a b,h=>by simp only[E.fl,E.fine] at h ⊢; simp_all [qgb f a,qgb f b,qrQ]
theorem qj2(vs:List ByteArray)(f fi fb:Bool)(b:Ss)(h:b.fine):codeS vs (b.fl f fi fb)=codeS vs b/\(b.fl f fi fb).fine:=by
 fun_induction Ss.fine b with
 |case1=>exact⟨rfl,trivial⟩
 |case8=>exact absurd h id
 |_=>simp_all [Ss.fl,codeS,Ss.fine,qho,qgb,qrQ]
def Hd.rf(h:Hd):Hd:=hdO (h.opt.map (·.fl true true false))
theorem qlT{h:Hd}(hf:h.fine):h.rf.fine:=by
 cases h with
 |none=>exact hf
 | some f b=>exact⟨(qj2 [] true true false b hf.fine).2,by
   have e:(b.fl true true false).fo.size=b.fo.size:=qj8 (qcQ true true false b)
   have:=hf.size
   show (b.fl true true false).fo.size<=2000
   rw[e]
   exact this⟩
theorem qpz : ∀ {a b:Fo},a.eqv b=true->a.vars=b.vars
 |.nil,.nil,_=>rfl
 |.cons ..,.cons ..,h=>by
  simp only[Fo.eqv,Wq,decide_eq_true_eq] at h
  simp only[Fo.vars,qpz h.2.1,qpz h.2.2,h.1.1,h.1.2.2]
 |.nil,.cons ..,h=>by cases h
 |.cons ..,.nil,h=>by cases h
theorem qlU(h:Hd):h.rf.nd.vars=h.nd.vars:=by
 cases h with
 |none=>rfl
 |some f b=>
  have:=qpz (qcQ true true false b)
  simp only[Hd.rf,Hd.opt,W4,hdO,Nd.vars,qzr,qzs,qrX,Hd.k,Hd.ks,this]
  rfl
theorem qpA(vs:List ByteArray){h:Hd}(hf:h.fine):hdC vs h.rf=hdC vs h:=by
 cases h with
 |none=>rfl
 |some f b=>show snC (codeS vs (b.fl true true false)) (21,0)=_; rw[(qj2 vs true true false b hf.fine).1]; rfl
theorem quJ(h:Hd)(p:Int):qkc h.rf p=qkc h p:=by cases h<;>rfl
theorem qxe{a b c:Hd}(fa:a.fine)(fb:b.fine)(fc:c.fine):rvars a.rf.nd b.rf.nd c.rf.nd=rvars a.nd b.nd c.nd /\ ∀ vs,qct vs a.rf b.rf c.rf=qct vs a b c/\qgh a.rf=qgh a/\qf2 vs a.rf b.rf=qf2 vs a b/\qgi vs a.rf b.rf c.rf=qgi vs a b c:=by
 refine⟨by rw[rvars,rvars,qlU,qlU,qlU],fun vs=>?_⟩
 simp only[qct,qgh,qf2,qgi,qpA vs fa,qpA vs fb,qpA vs fc,quJ,and_self]
end
section
open F Gr
set_option maxHeartbeats 2000000
def ovr(e:E):Nat:=if e.ty=1 then 0 else 1
theorem qoC{s:ByteArray}(h:s∈qrZ):1<=s.size:=by
 obtain⟨c,r,hc,-⟩:=qeJ (qj1 h).1.1
 have hl:=qaW s
 rw[hc,Wd] at hl
 omega
theorem qn4(vs:List ByteArray) : ∀ (e:E),e.fine -> ∃ n,Ln (qat vs e) n/\18*n+ovr e<=5*e.cost+8
 |.int n,h=>by
  obtain⟨h1,h2,c,r,h3⟩:=qf6 (n:=n.toNat) (by have:=h.2; omega)
  refine⟨1,fun _=>rfl,?_⟩
  simp[E.cost,ovr,E.ty,h3]; omega
 |.bool n,h=>⟨1,fun _=>rfl,by simp only[E.cost,ovr,E.ty]; by_cases h0:n=0<;>simp[h0]⟩
 |.var s,h=>by
  have:=qoC h
  refine⟨1,fun _=>rfl,?_⟩
  simp[E.cost,ovr,E.ty]; omega
 |.name s,h=>by
  have:4<=s.size:=by rcases (qh8 h).1 with rfl|rfl|rfl<;>decide
  refine⟨1,fun _=>rfl,?_⟩
  simp[E.cost,ovr,E.ty]; omega
 |.field _ s e,h=>by
  obtain⟨n,ln,hn⟩:=qn4 vs e h.2.1
  refine⟨_,qbv ln,?_⟩
  simp only[E.cost,ovr,E.ty,if_pos h.2.2] at hn ⊢
  simp; omega
 |.un f neg e,h=>by
  obtain⟨n,ln,hn⟩:=qn4 vs e h.1
  refine⟨_,qbv ln,?_⟩
  have:ovr (.un f neg e)<=1:=by unfold ovr; split<;>omega
  simp only[E.cost]
  omega
 |.bin f o a b,h=>by
  obtain⟨n,la,ha⟩:=qn4 vs a h.1
  obtain⟨m,lb,hb⟩:=qn4 vs b h.2.1
  have one : ∀ x,Ln (fun _=>[((1:Int),x)]) 1:=fun x _=>rfl
  have ty:ovr (.bin f o a b)=if o.res=1 then 0 else 1:=by simp only[ovr,E.ty,h.2.2.1,h.2.2.2,and_self,if_true]
  simp only[ovr,h.2.2.1,h.2.2.2] at ha hb
  rw[ty]
  have sz:o.str.size=1\/o.str.size=2:=by cases o<;>simp[Bop.str]<;>decide
  cases o
  case and=>exact⟨_,qin la lb (one 0),by simp only[E.cost,Bop.w,Bop.opd,Bop.res,show Bop.and.str.size=2 from rfl] at ha hb ⊢; simp at ha hb ⊢; omega⟩
  case or=>exact⟨_,qin la (one 1) lb,by simp only[E.cost,Bop.w,Bop.opd,Bop.res,show Bop.or.str.size=2 from rfl] at ha hb ⊢; simp at ha hb ⊢; omega⟩
  case gt=>exact⟨_,qbv (qa2 lb la),by simp only[E.cost,Bop.w,Bop.opd,Bop.res] at ha hb ⊢; simp at ha hb ⊢; omega⟩
  case ge=>exact⟨_,qbv (qa2 lb la),by simp only[E.cost,Bop.w,Bop.opd,Bop.res] at ha hb ⊢; simp at ha hb ⊢; omega⟩
  case ne=>exact⟨_,qbv (qbv (qa2 la lb)),by simp only[E.cost,Bop.w,Bop.opd,Bop.res,show Bop.ne.str.size=2 from rfl] at ha hb ⊢; simp at ha hb ⊢; omega⟩
  all_goals exact⟨_,qbv (qa2 la lb),by simp only[E.cost,Bop.w,Bop.opd,Bop.res] at ha hb ⊢; simp at ha hb ⊢; omega⟩
theorem qAz(vs:List ByteArray)(b:Ss)(hf:b.fine) : ∃ n,Ln (codeS vs b) n/\18*n<=5*b.cost:=by
 fun_induction codeS vs b with
 |case1=>exact⟨0,fun _=>rfl,by simp⟩
 |case2 _ s e r ih=>
  obtain⟨n,l,h⟩:=qn4 vs e hf.1.2.1
  obtain⟨m,l',h'⟩:=ih hf.2
  have:=qoC hf.1.1
  exact⟨_,qa2 (qbv l) l',by simp only[Ss.cost]; omega⟩
 |case3 _ s a b r ih=>
  obtain⟨n,l,h⟩:=qn4 vs a hf.1.2.1
  obtain⟨k,l2,h2⟩:=qn4 vs b hf.1.2.2.2.1
  obtain⟨m,l',h'⟩:=ih hf.2
  exact⟨_,qa2 (qbv (qa2 l l2)) l',by simp only[Ss.cost]; omega⟩
 |case4 _ a b r ih=>
  obtain⟨n,l,h⟩:=qn4 vs a hf.1.1
  obtain⟨k,l2,h2⟩:=qn4 vs b hf.1.2.2.1
  obtain⟨m,l',h'⟩:=ih hf.2
  exact⟨_,qa2 (qbv (qa2 l l2)) l',by simp only[Ss.cost]; omega⟩
 |case5 r ih=>
  obtain⟨m,l',h'⟩:=ih hf
  exact⟨_,qa2 (n:=1) (fun _=>rfl) l',by simp only[Ss.cost]; omega⟩
 |case6 _ c _ x _ y r ih1 ih2 ih3=>
  obtain⟨n,l,h⟩:=qn4 vs c hf.1.1
  obtain⟨m1,l1,h1⟩:=ih1 hf.2.1
  obtain⟨m2,l2,h2⟩:=ih2 hf.2.2.1
  obtain⟨m3,l3,h3⟩:=ih3 hf.2.2.2
  exact⟨_,qa2 (qin l l1 l2) l3,by simp only[Ss.cost]; simp; omega⟩
 |case7 _ c _ x r ih1 ih2=>
  obtain⟨n,l,h⟩:=qn4 vs c hf.1.1
  obtain⟨m1,l1,h1⟩:=ih1 hf.2.1
  obtain⟨m2,l2,h2⟩:=ih2 hf.2.2
  exact⟨_,qa2 (qrn l l1) l2,by simp only[Ss.cost]; simp; omega⟩
 |case8=>exact⟨0,fun _=>rfl,by simp⟩
theorem hlen(vs:List ByteArray){h:Hd}(hf:h.fine) : ∃ n,Ln (hdC vs h.rf) n/\18*n<=5*h.cost:=by
 cases h with
 |none=>exact⟨0,fun _=>rfl,by simp⟩
 |some f b=>
  obtain⟨n,l,h⟩:=qAz vs b hf.fine
  rw[<- (qj2 vs true true false b hf.fine).1] at l
  exact⟨_,qbv l,by simp only[Hd.cost]; omega⟩
theorem qwd : ∀ e:E,e.hh<=e.dp+1:=fun e=>by induction e<;>simp only[E.hh,E.dp]<;>omega
end
section
open F Gr
set_option maxHeartbeats 2000000
section
variable{s:Su}{c:List (Nat × Int)}{w cs cs0:List Int}{pc:Nat}{fu x:Int}
abbrev plI(s:Su):Int:=bodyI s 0+4
theorem qoZ(hs:s.ok):48<=plI s/\plI s<s.n /\ ¬ bodyI s 0<0:=by
 have hB:0<=bodyI s 0:=by have:=hs.p1; have:=hs.b1; unfold bodyI; split<;>omega
 have:=qgf hB
 unfold plI
 omega
theorem qwv (hs:s.ok) (hn:w.length=s.n) (h48:48<=w.length) (S:St w pc fu [0,x] cs) (hc:c.getD pc (0,0)=(5,4)) (hl:pc<c.length) (hb:c.length<2 ^ 30) (hf:1<=fu/\fu<=2000) :
  (qbY s c cs).ended=false/\St (qaK w (plI s) x) (pc+1) (fu-1) [] (qbY s c cs).cs:=by
 obtain⟨h1,hA,hB,P⟩:=qmd (s:=s) (rest:=[]) (args:=[0,x]) (a:=0) (b:=x) h48 S hc hl hb hf rfl (.inr (.inr rfl)) (by simp[pushN]) (.inr (by decide))
 obtain⟨p1,p2,p3⟩:=qoZ hs
 rw[h1]
 refine⟨rfl,?_⟩
 have e:qcD s cs 5 4=qaK (qcq cs 5) (plI s) x:=by
  unfold qcD
  rw[if_pos (show pushN 5=0 from rfl),hA,hB]
  show (if bodyI s 0<0 then _ else _)=_
  rw[if_neg p3]
  rfl
 show St _ (pc+1) (fu-1) _ (qcD s cs 5 4)
 rw[e]
 have hl':=P.len
 refine⟨by simp[P.len],?_,?_,?_,fun j h6 h7 h8 hj=>?_,fun k hk=>by simp at hk⟩
 ·rw[qam (by omega),P.pc]
 ·rw[qam (by omega),P.sp]; rfl
 ·rw[qam (by omega),P.fu]
 ·by_cases ej:(plI s).toNat=j
  ·rw[qax ej (by omega),qax ej (by omega)]
  ·rw[qam ej,qam ej,P.keep j h6 h7 h8]; exact S.keep j h6 h7 h8 hj
theorem qww (h48:48<=w.length) (S:St w pc fu [] cs) (hc:c.getD pc (0,0)=(21,0)) (hl:pc<c.length) (hb:c.length<2 ^ 30) (hf:1<=fu/\fu<=2000) :
  (qbY s c cs).ended=true /\ ∀ j,32<=j->getN (qbY s c cs).cs j=getN w j:=by
 obtain⟨h1,hA,hB,P⟩:=qmd (s:=s) (rest:=[]) (args:=[]) (a:=0) (b:=0) h48 S hc hl hb hf rfl (.inl ⟨rfl,rfl,rfl⟩) (by simp[pushN]) (.inl rfl)
 rw[h1]
 refine⟨rfl,fun j hj=>?_⟩
 show getN (qcD s cs 21 0) j=_
 have e:qcD s cs 21 0=qcq cs 21:=rfl
 rw[e,P.keep j (by omega) (by omega) (by omega)]
 exact S.keep j (by omega) (by omega) (by omega) (.inr hj)
end
section
variable{s:Su}{c:List (Nat × Int)}{w cs:List Int}(hs:s.ok)(hn:w.length=s.n)(hb:c.length<2 ^ 30){vs:List ByteArray}{v:Int}(hv:vs.length<=16)(hvar : ∀ k:Nat,k<16->getN w (32+k)=v)
include hs hn hb hv hvar
theorem qo0 {e:E} (he:e.fine) (hi:e.inV vs) (hh:e.hh<=14) {p:Nat} {fu:Int} (hc:CAt c p ((1,0)::(qat vs e (p+1:Nat)++[(5,4)]))) (S:St w p fu [] cs) (hf:((qat vs e (p+1:Nat)).length:Int)+2<=fu) (hf2:fu<=2000) :
  ∃ (k:Nat) (cs':List Int),Run s c k cs cs'/\k<=(qat vs e (p+1:Nat)).length+2/\St (qaK w (plI s) (ev s w v e)) (p+1+(qat vs e (p+1:Nat)).length+1) (fu-k) [] cs':=by
 have h48:48<=w.length:=by rw[hn]; unfold Su.n; omega
 obtain⟨k1,c1,R1,hk1,S1⟩:=qu6 (s:=s) h48 hb hv hvar (.int 0) ⟨by omega,by omega⟩ trivial p [] cs fu (by have:=CAt.left (A:=[(1,0)]) hc; exact this) S (by simp[E.hh]) (by simp[qat]; omega) hf2
 have e1 : ∀ q:Int,qat vs (.int 0) q=[(1,0)]:=fun _=>rfl
 rw[e1] at hk1 S1
 have hc1:=hc.tail
 obtain⟨k2,c2,R2,hk2,S2⟩:=qu6 (s:=s) h48 hb hv hvar e he hi (p+1) [0] c1 (fu-k1) hc1.left S1 (by simp; omega) (by simp at hk1; omega) (by omega)
 have hc2:=hc1.right
 obtain⟨g1,g2⟩:=hc2.head
 obtain⟨j,S3⟩:=qwv (s:=s) hs hn h48 S2 g2 g1 hb (by simp at hk1; omega)
 refine⟨k1+(k2+1),_,R1.trans (R2.trans (Run.one j)),by simp at hk1; omega,?_⟩
 rw[show fu-((k1+(k2+1):Nat):Int)=fu-k1-k2-1 by omega]
 exact S3
theorem qtS {e:E} (he:e.fine) (hi:e.inV vs) (hh:e.hh<=14) (hl:(qat vs e 1).length<=500) (hc:CAt c 0 (codeS vs (stS e) 0++[(21,0)])) (S:St w 0 1000 [] cs) :
  ∃ (k:Nat) (cs':List Int),Run s c k cs cs'/\k<=520/\(qbY s c cs').ended=true/\getN (qbY s c cs').cs (plI s).toNat=ev s w v e:=by
 have h48:48<=w.length:=by rw[hn]; unfold Su.n; omega
 have p:=qoZ hs
 have e0:codeS vs (stS e) 0=(1,0)::(qat vs e (0+1:Nat)++[(5,4)]):=by
  have f4:fieldI (bs [97])=4:=by decide
  simp[stS,codeS,sq,snC,qat,f4]
 rw[e0] at hc
 have hl':(qat vs e (0+1:Nat)).length<=500:=hl
 obtain⟨k,cs',R,hk,S'⟩:=qo0 (s:=s) hs hn hb hv hvar he hi hh hc.left S (by omega) (by omega)
 have hr:=hc.right
 rw[show 0+((1,0)::(qat vs e (0+1:Nat)++[(5,4)])).length=0+1+(qat vs e (0+1:Nat)).length+1 by simp; omega] at hr
 obtain⟨g1,g2⟩:=hr.head
 obtain⟨h1,h2⟩:=qww (s:=s) (by simp; exact h48) S' g2 g1 hb (by omega)
 refine⟨k,cs',R,by omega,h1,?_⟩
 rw[h2 _ (by omega),qax rfl (by omega)]
theorem qwx {e:E} (he:e.fine) (hi:e.inV vs) (hh:e.hh<=14) (ht:e.ty=2) (hl:(qat vs e 0).length<=500) (hc:CAt c 0 (codeS vs (qqa e) 0++[(21,0)])) (S:St w 0 1000 [] cs) :
  ∃ (k:Nat) (cs':List Int),Run s c k cs cs'/\k<=520/\(qbY s c cs').ended=true/\getN (qbY s c cs').cs (plI s).toNat=ev s w v e:=by
 have h48:48<=w.length:=by rw[hn]; unfold Su.n; omega
 have p:=qoZ hs
 obtain⟨n,hnn⟩ : ∃ n,n=(qat vs e (0:Nat)).length:=⟨_,rfl⟩
 have e0:codeS vs (qqa e) 0=qat vs e (0:Nat)++((19,((n+5:Nat):Int))::([(1,0),(1,1),(5,4)]++((18,((n+8:Nat):Int))::[(1,0),(1,0),(5,4)]))):=by
  have f4:fieldI (bs [97])=4:=by decide
  rw[hnn]
  simp[qqa,stS,codeS,sq,snC,brC,qat,f4]
  omega
 have hn5:n<=500:=by rw[hnn]; exact hl
 have hL:(codeS vs (qqa e) 0).length=n+8:=by rw[e0]; simp; exact hnn.symm
 have hend:=hc.right
 rw[hL,WJ] at hend
 rw[e0] at hc
 obtain⟨k1,c1,R1,hk1,S1⟩:=qu6 (s:=s) h48 hb hv hvar e he hi 0 [] cs 1000 hc.left.left S (by simp; omega) (by omega) (by omega)
 rw[<- hnn] at hk1 S1
 have hr1:=hc.left.right
 rw[<- hnn] at hr1
 obtain⟨g1,g2⟩:=hr1.head
 obtain⟨j1,S2⟩:=qju (s:=s) h48 S1 g2 g1 hb ⟨by omega,by omega⟩ (by simp) (.inr ⟨rfl,rfl⟩) rfl
 obtain⟨g5,g6⟩:=hend.head
 have fin : ∀ (k:Nat) (cs':List Int) (x fu:Int),Run s c k cs cs'->k<=520->St (qaK w (plI s) x) (n+8) fu [] cs'->1<=fu/\fu<=2000->x=ev s w v e ->
   ∃ (k:Nat) (cs':List Int),Run s c k cs cs'/\k<=520/\(qbY s c cs').ended=true/\getN (qbY s c cs').cs (plI s).toNat=ev s w v e:=fun k cs' x fu R hk S hf hx=>by
  obtain⟨h1,h2⟩:=qww (s:=s) (by simp; exact h48) S g6 g5 hb hf
  refine⟨k,cs',R,hk,h1,?_⟩
  rw[h2 _ (by omega),qax rfl (by omega),hx]
 have hr2:=hr1.tail
 by_cases h0:ev s w v e=0
 ·rw[if_pos h0] at S2
  have hB:CAt c (0+n+1+3+1) [(1,0),(1,0),(5,4)]:=hr2.right.tail
  have e5:0+n+1+3+1=n+5:=by omega
  rw[e5] at hB
  obtain⟨k2,c3,R3,hk3,S3⟩:=qo0 (s:=s) hs hn hb hv hvar (e := .int 0) ⟨by omega,by omega⟩ trivial (by simp[E.hh]) (p:=n+5) hB S2 (by simp[qat]; omega) (by omega)
  simp only[qat,Wd,Wj] at hk3 S3
  exact fin (k1+(1+k2)) c3 0 _ (R1.trans ((Run.one j1).trans R3)) (by omega) S3 (by omega) h0.symm
 ·have h1:ev s w v e=1:=(qjH s w v e he ht).resolve_left h0
  rw[if_neg h0] at S2
  obtain⟨k2,c3,R3,hk3,S3⟩:=qo0 (s:=s) hs hn hb hv hvar (e := .int 1) ⟨by omega,by omega⟩ trivial (by simp[E.hh]) (p:=0+n+1) hr2.left S2 (by simp[qat]; omega) (by omega)
  simp only[qat,Wd,Wj] at hk3 S3
  obtain⟨g3,g4⟩:=hr2.right.head
  obtain⟨j2,S4⟩:=qju (s:=s) (w:=qaK w (plI s) 1) (args:=[]) (a:=0) (t:=n+8) (rest:=[]) (by simp; exact h48) S3 g4 g3 hb ⟨by omega,by omega⟩ (by simp) (.inl ⟨rfl,rfl,rfl⟩) rfl
  rw[if_pos rfl] at S4
  exact fin (k1+(1+(k2+1))) _ 1 _ (R1.trans ((Run.one j1).trans (R3.trans (Run.one j2)))) (by omega) S4 (by omega) h1.symm
end
end
section
open F
attribute [local simp] qbb qbT dkey
theorem qha : ∀ {ts:List Tk} {x:ByteArray},nx ts=some x -> ∃ t r,ts=t::r/\t.bad=0/\t.s=x
 |[],x,h=>by cases h
 |t::r,x,h=>by
  by_cases hb:t.bad=0
  ·rw[nx,if_pos hb] at h
   exact⟨t,r,rfl,hb,WX h⟩
  ·rw[nx,if_neg hb] at h; cases h
theorem qhb{T:List Tk}{i:Nat}{t:Tk}{r:List Tk}(h:T.drop i=t::r):T.drop (i+1)=r:=by rw[<- List.drop_drop,h]; rfl
section
variable(s:ByteArray)(T:List Tk)
def Px(g lv:Nat)(ts:List Tk)(e:E)(r:List Tk):Prop:=
 ∀ i:Nat,T.drop i=ts -> ∃ i':Nat,T.drop i'=r/\Z tP (.call g [.ptr 0 0,.int lv] (PS s T i 0 12))=some (.ret e.node (PS s T i' 0 12))
def Lx(p lv:Nat)(e:E)(ts:List Tk)(e':E)(r:List Tk):Prop:=
 ∀ i:Nat,T.drop i=ts -> ∃ i':Nat,T.drop i'=r/\Z tP (.loop 5 F285l0 (bqF (clF p) (.sl (qbJ (qiR p)) (qiR p).length true)) (BL s T lv i 0 12 e))=Z tP (.loop 5 F285l0 (bqF (clF p) (.sl (qbJ (qiR p)) (qiR p).length true)) (BL s T lv i' 0 12 e'))
variable{s:ByteArray}{T:List Tk}{p q lv i:Nat}{ts r r':List Tk}{e e':E}{x:ByteArray}
theorem pex(hT:T.length<2 ^ 40)(hx:x≠⟨#[]⟩)(hn:nx ts=some x)(hi:T.drop i=ts):T.drop (i+1)=ts.tail/\Z tP (.call 253 [.ptr 0 0,.str x] (PS s T i 0 12))=some (.ret (.tup []) (PS s T ((i+1:Nat):Int) 0 12)):=by
 obtain⟨t,r,rfl,hb,rfl⟩:=qha hn
 exact⟨qhb hi,qi5 hi hb hT hx⟩
theorem pop(hT:T.length<2 ^ 40)(hx:x≠⟨#[]⟩)(hn:nx ts=some x)(hi:T.drop i=ts)(hlv:lv<=20):T.drop (i+1)=ts.tail/\Z tP (.call 270 [.ptr 0 0,.str x,.int lv] (PS s T i 0 12))=some (.ret (.tup []) (PS s T ((i+1:Nat):Int) 0 12)):=by
 obtain⟨h1,z⟩:=pex (s:=s) hT hx hn hi
 obtain⟨t,r,rfl,hb,rfl⟩:=qha hn
 refine⟨h1,?_⟩
 have zi:=qch (s:=s) (a:=0) (c:=12) hi hb (qaN [t.s] true) (by simp) (by simp; exact fun e=>hx e.symm)
 simp only[PS,pO,qbJ,Wu,WB,Wr,Wk,decide_true] at zi z
 have h20 : ¬ (20:Int)<lv:=by omega
 generalize ((i+1:Nat):Int)=j at *
 refine qaa (pf:=F270) rfl rfl ?_
 simp[F270,zi,z,h20,Wa]
theorem qsv(hp:qf5 p){e0:E}{r0:List Tk}(h:Px s T (fnP (p+1)) lv ts e0 r0)(hl:Lx s T p lv e0 r0 e r)(hs:Stops p r):Px s T (fnP p) lv ts e r:=fun i hi=>by
 obtain⟨i1,a1,z⟩:=h i hi
 obtain⟨i2,a2,zl⟩:=hl i1 a1
 obtain⟨y,y1,y2⟩:=hs
 obtain⟨t,q,rfl,hb,rfl⟩:=qha y1
 obtain⟨on,ol⟩:=qsW hp
 have hd:=qaN (qiR p) true
 exact⟨i2,a2,qAM hp (qAL hd.one hd.cells (qo6 hp z) (zl.trans (qrb hd ol on a2 hb (qu8 hp (y2 p (Wi p))) e)))⟩
theorem qtY(h:Px s T (fnP (p+1)) lv ts e r)(h1:1<=p)(h7:p<=7)(hs:Stops p r)(hx:nx ts=some x)(h3:p=3->x≠ustr false)(h7':p=7->x≠ustr true):Px s T (fnP p) lv ts e r:=by
 have bin:qf5 p->Px s T (fnP p) lv ts e r:=fun hp=>qsv hp h (fun i hi=>⟨i,hi,rfl⟩) hs
 obtain⟨t,q,rfl,hb,rfl⟩:=qha hx
 obtain rfl|rfl|rfl|rfl|rfl|rfl|rfl:p=1\/p=2\/p=3\/p=4\/p=5\/p=6\/p=7:=by omega
 ·exact bin (.inl rfl)
 ·exact bin (.inr (.inl rfl))
 ·intro i hi
  obtain⟨i',a1,z⟩:=h i hi
  exact⟨i',a1,qzV (neg:=false) hi hb (h3 rfl) z⟩
 ·intro i hi
  obtain⟨i',a1,z⟩:=h i hi
  obtain⟨y,y1,y2⟩:=hs
  obtain⟨t2,r2,rfl,hb2,rfl⟩:=qha y1
  exact⟨i',a1,qzi z a1 hb2 (qrM (y2 4 (by omega)))⟩
 ·exact bin (.inr (.inr (.inl rfl)))
 ·exact bin (.inr (.inr (.inr rfl)))
 ·intro i hi
  obtain⟨i',a1,z⟩:=h i hi
  exact⟨i',a1,qzV (neg:=true) hi hb (h7' rfl) z⟩
theorem qfa(h:Px s T (fnP q) lv ts e r)(hq:q<=8)(hx:nx ts=some x) : ∀ (k p:Nat),p+k=q->1<=p->Stops p r->(p<=3->3<q->x≠ustr false)->(p<=7->7<q->x≠ustr true)->Px s T (fnP p) lv ts e r
 |0,p,hp,_,_,_,_=>by rw[show p=q by omega]; exact h
 |k+1,p,hp,h1,hs,h3,h7=>qtY (qfa h hq hx k (p+1) (by omega) (by omega) (hs.mono (by omega)) (fun a b=>h3 (by omega) b) (fun a b=>h7 (by omega) b)) h1 (by omega) hs hx (fun a=>h3 (by omega) (by omega)) (fun a=>h7 (by omega) (by omega))
theorem qtZ(hp:qf5 p)(hT:T.length<2 ^ 40){o:Bop}(ho:o.prec=p)(hn:nx ts=some o.str)(h:Px s T (fnP (p+1)) lv ts.tail e' r):Lx s T p lv e ts (.bin true o e e') r:=fun i hi=>by
 obtain⟨t,q,rfl,hb,hs⟩:=qha hn
 obtain⟨i',a1,z⟩:=h (i+1) (qhb hi)
 obtain⟨on,ol⟩:=qsW hp
 exact⟨i',a1,qo7 (qaN (qiR p) true) ol hT on hi hb (qu7 hp (o:=o) (by rw[hs,<- ho]; exact qmJ o)).2 hs e e' (qo6 hp z)⟩
theorem qwD(hT:T.length<2 ^ 40){o:Bop}(ho:o.prec=4)(h:Px s T 297 lv ts e r)(hn:nx r=some o.str)(h2:Px s T 297 lv r.tail e' r'):Px s T 292 lv ts (.bin true o e e') r':=fun i hi=>by
 obtain⟨i1,a1,z⟩:=h i hi
 obtain⟨t,q,rfl,hb,hs⟩:=qha hn
 obtain⟨i2,a2,z2⟩:=h2 (i1+1) (qhb a1)
 exact⟨i2,a2,qAD hT z a1 hb (qrL (o:=o) (by rw[hs,<- ho]; exact qmJ o)).2 hs z2⟩
theorem qyZ(hT:T.length<2 ^ 40){neg:Bool}(hlv:lv+1<=20)(hn:nx ts=some (ustr neg))(h:Px s T (unF neg) (lv+1) ts.tail e r):Px s T (unF neg) lv ts (.un true neg e) r:=fun i hi=>by
 obtain⟨a1,zo⟩:=pop (s:=s) hT (by cases neg<;>decide) hn hi hlv
 obtain⟨i2,a2,z⟩:=h _ a1
 obtain⟨t,q,rfl,hb,hs⟩:=qha hn
 exact⟨i2,a2,qAB (by omega) hi hb hs zo z⟩
theorem qwE(hT:T.length<2 ^ 40)(hlv:lv+1<=20){t:Tk}(hb:t.bad=0)(hn:nx ts=some (bs [91]))(h:Px s T 279 (lv+1) ts.tail e r)(hc:nx r=some (bs [93])):Px s T 280 lv (t::ts) e r.tail:=fun i hi=>by
 obtain⟨a1,zo⟩:=pop (s:=s) (lv:=lv+1) hT (by decide) hn (qhb hi) hlv
 obtain⟨i2,a2,z⟩:=h _ a1
 obtain⟨a3,zc⟩:=pex (s:=s) hT (by decide) hc a2
 exact⟨_,a3,qyW (by omega) hT hi hb zo z zc⟩
theorem qrf(hT:T.length<2 ^ 40)(hlv:lv+1<=20)(hn:nx ts=some (bs [40]))(h:Px s T 279 (lv+1) ts.tail e r)(hc:nx r=some (bs [41])):Px s T 309 lv ts e r.tail:=fun i hi=>by
 obtain⟨a1,zo⟩:=pop (s:=s) hT (by decide) hn hi hlv
 obtain⟨i2,a2,z⟩:=h _ a1
 obtain⟨a3,zc⟩:=pex (s:=s) hT (by decide) hc a2
 obtain⟨t,q,rfl,hb,hs⟩:=qha hn
 have hk:kindT t=5:=by rw[qcC hb,hs]; decide
 exact⟨_,a3,qyV (by omega) hi hb (by rw[hk]; decide) (by rw[hk]; decide) (by rw[hk]; decide) (by rw[hs]; decide) (by rw[hs]; decide) (by rw[hs]; decide) zo z zc⟩
theorem qwF(hT:T.length<2 ^ 40)(hg:e.good)(h:e.tx false 8=[x])(hn:nx ts=some x):Px s T 309 lv ts e ts.tail:=fun i hi=>by
 obtain⟨t,q,rfl,hb,hs⟩:=qha hn
 refine⟨i+1,qhb hi,?_⟩
 have hk:=qcC hb
 rw[hs] at hk
 cases e with
 |int n=>
  simp only[E.tx,WW,and_true] at h
  obtain⟨g1,g2⟩:=hg
  have hd:=qhn (n:=n.toNat) (by omega)
  have hv:=(qf6 (n:=n.toNat) (by omega)).1
  rw[h] at hd
  obtain⟨d1,d2⟩:=qoz x hd
  have hval:(valT t:Int)=n:=by
   unfold valT
   rw[hs,if_pos hd,<- h,qbg,hv]
   omega
  rw[<- hval]
  exact qyd hT hi hb (by rw[hk,qjB,if_neg d1,d2,if_neg (by decide),if_pos hd])
 |bool n=>
  simp only[E.tx,WW,and_true] at h
  rcases hg with rfl|rfl
  ·have h:qeA=x:=by rw[<- h]; rfl
   subst h
   exact qs2 hT hi hb (by rw[hk]; decide) hs
  ·have h:qgm=x:=by rw[<- h]; rfl
   subst h
   exact qvH hT hi hb (by rw[hk]; decide) hs
 |var w=>
  simp only[E.tx,WW,and_true] at h
  obtain⟨g1,g2,g3,g4⟩:=hg
  subst h
  rw[<- hs]
  exact qye hT hi hb (by rw[hk,qjB,if_neg (qfW g2),if_pos g2,if_neg g3,if_neg g4])
 |name w=>
  simp only[E.tx,WW,and_true] at h
  subst h
  have hm:t.s∈qlt:=by rw[hs]; rcases hg with rfl|rfl|rfl<;>decide
  rw[<- hs]
  exact qvI hT hi hb (by rw[hk]; rcases hg with rfl|rfl|rfl<;>decide) hm
 |field g w e=>simp[E.tx] at h
 |un g n e=>cases n<;>simp[E.tx,qcZ,qfh] at h
 |bin g o a b=>have:=qoY false hg.1 o.left; cases o<;>simp[E.tx,qcZ,Bop.prec] at h
theorem qwG(hT:T.length<2 ^ 40)(hx:x∈fieldNames)(hn:nx ts=some x)(h:Px s T 280 lv ts e r):Px s T 309 lv ts (.field true x e) r:=fun i hi=>by
 obtain⟨i2,a2,z⟩:=h i hi
 obtain⟨t,q,rfl,hb,rfl⟩:=qha hn
 have hall : ∀ w∈fieldNames,qjB w=3:=by decide
 exact⟨i2,a2,qyf hi hb (by rw[qcC hb,hall _ hx]) z⟩
end
end
section
open F
section
variable{s:ByteArray}{T:List Tk}{p q lv i:Nat}{ts r r':List Tk}{e e':E}{x:ByteArray}{l:List ByteArray}
theorem qkL(hT:T.length<2 ^ 40)(ho:Hx (bs [40]::(l++[bs [41]])) ts r)(hl:lv+1<=20)(hb : ∀ mid,Hx l ts.tail mid->Stops 1 mid->Px s T (fnP 1) (lv+1) ts.tail e mid)(h1:1<=p)(h8:p<=8)(hs:Stops p r):Px s T (fnP p) lv ts e r:=by
 obtain⟨hn,ht⟩:=qcF ho
 obtain⟨mid,hm1,hm2⟩:=hx_app.1 ht
 obtain⟨hc,hend⟩:=qcF hm2
 have hst:Stops 1 mid:=qfx _ (qh0 _ (by intro o; cases o<;>decide)) hm2
 have base:Px s T (fnP 8) lv ts e r:=by rw[<- (show mid.tail=r from hend)]; exact qrf hT hl hn (hb mid hm1 hst) hc
 exact qfa base (by omega) hn (8-p) p (by omega) h1 hs (fun _ _=>by decide) (fun _ _=>by decide)
theorem rbZ (hT:T.length<2 ^ 40) : ∀ e:E,e.good ->
  (∀ p lv ts r,1<=p->p<=8->Hx (e.tx false p) ts r->lv+e.nest false p<=20->Stops p r->Px s T (fnP p) lv ts (e.fl true) r) /\
  (∀ q lv ts r,qf5 q->Hx (e.tx false q) ts r->lv+e.nest false q<=20->Stops (q+1) r -> ∃ e0 r0,Px s T (fnP (q+1)) lv ts e0 r0/\Lx s T q lv e0 r0 (e.fl true) r):=by
 have pr : ∀ {q},qf5 q->1<=q/\q<=6/\q≠4/\q≠3:=fun hq=>by rcases hq with rfl|rfl|rfl|rfl<;>omega
 have self : ∀ {e q lv ts r},Px s T (fnP (q+1)) lv ts e r -> ∃ e0 r0,Px s T (fnP (q+1)) lv ts e0 r0/\Lx s T q lv e0 r0 e r:=fun h=>⟨_,_,h,fun i hi=>⟨i,hi,rfl⟩⟩
 have one : ∀ (e:E) (x:ByteArray),e.good->(∀ p,e.tx false p=[x])->e.fl true=e->x≠ustr false->x≠ustr true ->
   (∀ p lv ts r,1<=p->p<=8->Hx (e.tx false p) ts r->lv+e.nest false p<=20->Stops p r->Px s T (fnP p) lv ts (e.fl true) r) /\
   (∀ q lv ts r,qf5 q->Hx (e.tx false q) ts r->lv+e.nest false q<=20->Stops (q+1) r -> ∃ e0 r0,Px s T (fnP (q+1)) lv ts e0 r0/\Lx s T q lv e0 r0 (e.fl true) r):=by
  intro e x hg he hfl h1 h2
  have A : ∀ p lv ts r,1<=p->p<=8->Hx (e.tx false p) ts r->Stops p r->Px s T (fnP p) lv ts (e.fl true) r:=fun p lv ts r p1 p8 hx hs=>by
   rw[he p] at hx
   obtain⟨hn,ht⟩:=qcF hx
   cases ht
   rw[hfl]
   exact qfa (q:=8) (qwF hT hg (he 8) hn) (by omega) hn (8-p) p (by omega) p1 hs (fun _ _=>h1) (fun _ _=>h2)
  exact⟨fun p lv ts r p1 p8 hx _ hs=>A p lv ts r p1 p8 hx hs,fun q lv ts r hq hx _ hs=>self (A (q+1) lv ts r (by omega) (by have:=pr hq; omega) (by rw[he] at hx ⊢; exact hx) hs)⟩
 intro e
 induction e with
 |int n=>
  intro hg
  have hd:=qhn (n:=n.toNat) (by have:=hg.1; have:=hg.2; omega)
  exact one _ _ hg (fun p=>rfl) rfl (by intro h; rw[h] at hd; exact absurd hd (by decide)) (by intro h; rw[h] at hd; exact absurd hd (by decide))
 |bool n=>exact fun hg=>one _ _ hg (fun p=>rfl) rfl (by split<;>decide) (by split<;>decide)
 |var w=>exact fun hg=>one _ _ hg (fun p=>rfl) rfl (by rintro rfl; exact absurd hg.2.1 (by decide)) (by rintro rfl; exact absurd hg.2.1 (by decide))
 |name w=>exact fun hg=>one _ _ hg (fun p=>rfl) rfl (by rcases hg with rfl|rfl|rfl<;>decide) (by rcases hg with rfl|rfl|rfl<;>decide)
 |field g w e ih=>
  intro hg
  obtain⟨g1,g2⟩:=hg
  have A : ∀ p lv ts r,1<=p->p<=8->Hx ((E.field g w e).tx false p) ts r->lv+(E.field g w e).nest false p<=20->Stops p r->Px s T (fnP p) lv ts ((E.field g w e).fl true) r:=fun p lv ts r h1 h8 hx hl hs=>by
   obtain⟨hn,ht⟩:=qcF hx
   obtain⟨hn2,ht2⟩:=qcF ht
   obtain⟨mid,hm1,hm2⟩:=hx_app.1 ht2
   obtain⟨hc,hend⟩:=qcF hm2
   simp only[E.nest] at hl
   have hst:Stops 1 mid:=qfx _ (qh0 _ (by intro o; cases o<;>decide)) hm2
   have hk:=(ih g2).1 1 (lv+1) _ mid (by omega) (by omega) hm1 (by omega) hst
   have hs' : ∀ x:ByteArray,x∉fieldNames->w≠x:=fun x hx he=>hx (he ▸ g1)
   obtain⟨t,q,rfl,hb,_⟩:=qha hn
   have hend:mid.tail=r:=hend
   have hi:=qwE hT (by omega) hb hn2 hk hc
   rw[hend] at hi
   exact qfa (q:=8) (qwG hT g1 hn hi) (by omega) hn (8-p) p (by omega) h1 hs (fun _ _=>hs' _ (by decide)) (fun _ _=>hs' _ (by decide))
  exact⟨A,fun q lv ts r hq hx hl hs=>self (A (q+1) lv ts r (by omega) (by have:=pr hq; omega) hx hl hs)⟩
 |un g neg e ih=>
  intro hg
  have bare : ∀ lv ts r,Hx (ustr neg::e.tx false (qfh neg)) ts r->lv+e.nest false (qfh neg)+1<=20 -> ∀ p,1<=p->p<=qfh neg->Stops p r->Px s T (fnP p) lv ts ((E.un g neg e).fl true) r:=fun lv ts r hx hl p h1 hp hs=>by
   obtain⟨hn,ht⟩:=qcF hx
   have hk:=(ih hg).1 (qfh neg) (lv+1) _ r (by cases neg<;>decide) (by cases neg<;>decide) ht (by omega) (hs.mono hp)
   have e1:fnP (qfh neg)=unF neg:=by cases neg<;>rfl
   rw[e1] at hk
   have base:=qyZ (neg:=neg) hT (by omega) hn hk
   rw[<- e1] at base
   refine qfa base (by cases neg<;>decide) hn (qfh neg-p) p (by omega) h1 hs (fun a b=>?_) (fun a b=>?_)
   all_goals cases neg<;>first|decide|exact absurd b (by decide)
  have A : ∀ p lv ts r,1<=p->p<=8->Hx ((E.un g neg e).tx false p) ts r->lv+(E.un g neg e).nest false p<=20->Stops p r->Px s T (fnP p) lv ts ((E.un g neg e).fl true) r:=fun p lv ts r h1 h8 hx hl hs=>by
   simp only[E.tx,E.nest,qcZ,YH,decide_eq_true_eq] at hx hl
   by_cases c:qfh neg<p
   ·rw[if_pos c] at hx hl
    exact qkL hT hx (by omega) (fun mid hm hst=>bare (lv+1) _ mid hm (by omega) 1 (by omega) (by cases neg<;>decide) hst) h1 h8 hs
   ·rw[if_neg c] at hx hl
    exact bare lv ts r hx (by omega) p h1 (by omega) hs
  refine⟨A,fun q lv ts r hq hx hl hs=>self (A (q+1) lv ts r (by omega) (by have:=pr hq; omega) ?_ ?_ hs)⟩
  all_goals
   have:(qfh neg<q+1)=(qfh neg<q):=by
    have:=pr hq
    have h:qfh neg=3\/qfh neg=7:=by cases neg<;>decide
    apply propext; omega
   simp only[E.tx,E.nest,this] at hx hl ⊢
   assumption
 |bin g o a b iha ihb=>
  intro hg
  have hp:=qbN o
  obtain⟨x,l,q1,q2,q3⟩:=qlK false a hg.1 o.left
  have loop : ∀ lv ts r,Hx (a.tx false o.left++o.str::b.tx false (o.prec+1)) ts r->lv+max (a.nest false o.left) (b.nest false (o.prec+1))<=20->Stops (o.prec+1) r ->
    if o.prec=4 then Px s T (fnP 4) lv ts ((E.bin g o a b).fl true) r else∃e0 r0,Px s T (fnP (o.prec+1)) lv ts e0 r0/\Lx s T o.prec lv e0 r0 ((E.bin g o a b).fl true) r:=fun lv ts r hx hl hs=>by
   obtain⟨mid,hm1,hm2⟩:=hx_app.1 hx
   obtain⟨hn,ht⟩:=qcF hm2
   have hst:Stops (o.prec+1) mid:=⟨_,hn,fun q hq=>qnH o q (by omega)⟩
   have hk:=(ihb hg.2).1 (o.prec+1) lv _ r (by omega) (by omega) ht (by omega) hs
   by_cases c:o.prec=4
   ·rw[if_pos c]
    have hleft:o.left=o.prec+1:=by omega
    have ha:=(iha hg.1).1 (o.prec+1) lv ts mid (by omega) (by omega) (hleft ▸ hm1) (by rw[<- hleft]; omega) hst
    rw[c] at hk ha
    exact qwD hT c ha hn hk
   ·rw[if_neg c]
    have hleft:o.left=o.prec:=by omega
    have h4:qf5 o.prec:=by unfold qf5; omega
    rw[hleft] at hm1 hl
    obtain⟨e0,r0,h1,h2⟩:=(iha hg.1).2 o.prec lv ts mid h4 hm1 (by omega) hst
    refine⟨e0,r0,h1,fun i hi=>?_⟩
    obtain⟨i1,a1,z1⟩:=h2 i hi
    obtain⟨i2,a2,z2⟩:=qtZ h4 hT rfl hn hk i1 a1
    exact⟨i2,a2,z1.trans z2⟩
  have bare : ∀ lv ts r,Hx (a.tx false o.left++o.str::b.tx false (o.prec+1)) ts r->lv+max (a.nest false o.left) (b.nest false (o.prec+1))<=20 -> ∀ p,1<=p->p<=o.prec->Stops p r->Px s T (fnP p) lv ts ((E.bin g o a b).fl true) r:=fun lv ts r hx hl p h1 hpo hs=>by
   have h2:=loop lv ts r hx hl (hs.mono (by omega))
   have hnx:nx ts=some x:=by
    rw[q1] at hx
    exact (qcF hx).1
   have base:Px s T (fnP o.prec) lv ts ((E.bin g o a b).fl true) r:=by
    by_cases c:o.prec=4
    ·rw[if_pos c] at h2; rw[c]; exact h2
    ·rw[if_neg c] at h2
     obtain⟨e0,r0,h3,h4⟩:=h2
     exact qsv (by unfold qf5; omega) h3 h4 (hs.mono hpo)
   exact qfa base (by omega) hnx (o.prec-p) p (by omega) h1 hs (fun c1 c2 h=>by have:=q2 h; omega) (fun c1 c2=>by omega)
  have A : ∀ p lv ts r,1<=p->p<=8->Hx ((E.bin g o a b).tx false p) ts r->lv+(E.bin g o a b).nest false p<=20->Stops p r->Px s T (fnP p) lv ts ((E.bin g o a b).fl true) r:=fun p lv ts r h1 h8 hx hl hs=>by
   simp only[E.tx,E.nest,qcZ,YH,decide_eq_true_eq] at hx hl
   by_cases c:o.prec<p
   ·rw[if_pos c] at hx hl
    exact qkL hT hx (by omega) (fun mid hm hst=>bare (lv+1) _ mid hm (by omega) 1 (by omega) (by omega) hst) h1 h8 hs
   ·rw[if_neg c] at hx hl
    exact bare lv ts r hx (by omega) p h1 (by omega) hs
  refine⟨A,fun q lv ts r hq hx hl hs=>?_⟩
  have hq':=pr hq
  by_cases c:o.prec=q
  ·subst c
   simp only[E.tx,E.nest,qcZ,YH,decide_eq_true_eq,WR,if_false] at hx hl
   have:=loop lv ts r hx (by omega) hs
   rw[if_neg hq'.2.2.1] at this
   exact this
  ·have hd:(o.prec<q+1)=(o.prec<q):=by apply propext; omega
   refine self (A (q+1) lv ts r (by omega) (by omega) ?_ ?_ hs)
   all_goals
    simp only[E.tx,E.nest,hd] at hx hl ⊢
    assumption
end
end
end Go.Pm
