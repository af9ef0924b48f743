/- Chapter 35's generator: a part more in a row. Printed by cz.py. -/
import Derived.Test.YtmigbfimahjacaaGreatDoorPmAL
import Derived.Test.YtmigbfimahjacaaGreatDoorPmHp1
set_option linter.unusedSimpArgs false
set_option linter.unusedVariables false
set_option maxHeartbeats 4000000
namespace Go.Pm
section
theorem qc0{sz:Nat}{ls:List (List D)}{x:List D}:qaM sz (ls++[x])=qch (ls.length+1) sz (ls.flatten.map .dat++x.map .dat):=by
 unfold qaM
 simp
theorem qdR{sz:Nat}{ls:List (List D)}(h : ∀ y∈ls,y.length=sz):(ls.flatten.map HV.dat).length=ls.length*sz:=by
 rw[Wf,qbr h]
section
variable{ks:List Int}{S:List D}{σ : Pm.S}{src pat lnk com cra wat:List (List D)}{w:Int}{kl l:Nat}{z v1 v2 v3 v4 v5 v6:V}
theorem qpZ (h:Open σ ks S src pat lnk com cra wat w kl l z v1 v2 v3 v4 v5 v6) (hr : ∀ y∈src,y.length=1) (hn:src.length<=100) {x:List D} (hx:x.length=1) (ho : ∀ d∈x,V.one (.dat d)=true) {f:Bool} :
  ∃ lr σ',appendO σ 1 16 v1 (.dat (.sl x 1 f))=some (.own lr (src.length+1) 1,σ') /\ σ'[l]?=some (.cells (S.map .dat++[v1,v2,v3,v4,v5,v6,.int w])) /\
   Open (σ'.set l (.cells (S.map .dat++[.own lr (src.length+1) 1,v2,v3,v4,v5,v6,.int w]))) ks S (src++[x]) pat lnk com cra wat w kl l z (.own lr (src.length+1) 1) v2 v3 v4 v5 v6:=by
 have o1:Own σ [l,kl] ((qaM 1 src,v1)::[(qaM 1 pat,v2),(qaM 4 lnk,v3),(qaM 5 com,v4),(qaM 1 cra,v5),(qaM 1 wat,v6),(zrT,z)]):=h.own
 have o2:=qcz (as:=[_]) o1 x
 obtain⟨lr,σ',a1,o3,c1,n1,f1⟩:=qbQ (bytes:=16) (x := .dat (.sl x 1 f)) (xs:=x.map .dat) (hx:=x.map .dat) o2 (qdR hr) (by simp) rfl (by simp[hx]) (by omega) (Ws.2 fun v hv=>by
  obtain⟨d,hd,rfl⟩:=Wm.1 hv
  exact ho d hd) (by unfold qaA; exact decide_eq_true (by omega)) h.cl (fun m hm=>by rw[qa1] at hm; cases hm)
 have g1:=(f1 l (by simp)).trans h.gl
 have gk:=(f1 kl (by simp)).trans h.gk
 have hl:l < σ'.length:=(Wb.1 g1).1
 have hne:l≠kl:=fun e=>by
  have:=qbS h.own
  rw[e] at this; simp at this
 have hlr:lr < σ'.length:=qat o3 0 rfl lr (by simp[V.locs])
 rw[<- qc0] at o3
 refine⟨lr,σ',a1,g1,?_,?_,qd7 hne _ gk,qaN hl _⟩
 ·refine qer c1 fun m hm=>?_
  simp only[Ob.locs,qcU,qa1] at hm
  simp only[qau,V.locs,Wk,Wp,We,Wn] at hm
  rcases hm with hm|hm|hm|hm|hm|hm
  ·omega
  ·exact qat o3 1 rfl m hm
  ·exact qat o3 2 rfl m hm
  ·exact qat o3 3 rfl m hm
  ·exact qat o3 4 rfl m hm
  ·exact qat o3 5 rfl m hm
 ·have o4:=qbi o3 (by simp:l∈[l,kl]) (.cells (S.map .dat++[.own lr (src.length+1) 1,v2,v3,v4,v5,v6,.int w]))
  exact o4
theorem qp0 (h:Open σ ks S src pat lnk com cra wat w kl l z v1 v2 v3 v4 v5 v6) (hr : ∀ y∈lnk,y.length=4) (hn:lnk.length<=100) {x:List D} (hx:x.length=4) (ho : ∀ d∈x,V.one (.dat d)=true) {f:Bool} :
  ∃ lr σ',appendO σ 4 32 v3 (.dat (.sl x 1 f))=some (.own lr (lnk.length+1) 4,σ') /\ σ'[l]?=some (.cells (S.map .dat++[v1,v2,v3,v4,v5,v6,.int w])) /\
   Open (σ'.set l (.cells (S.map .dat++[v1,v2,.own lr (lnk.length+1) 4,v4,v5,v6,.int w]))) ks S src pat (lnk++[x]) com cra wat w kl l z v1 v2 (.own lr (lnk.length+1) 4) v4 v5 v6:=by
 have o1:Own σ [l,kl] ((qaM 4 lnk,v3)::[(qaM 1 src,v1),(qaM 1 pat,v2),(qaM 5 com,v4),(qaM 1 cra,v5),(qaM 1 wat,v6),(zrT,z)]):=qaT (as:=[_,_]) h.own
 have o2:=qcz (as:=[_]) o1 x
 obtain⟨lr,σ',a1,o3,c1,n1,f1⟩:=qbQ (bytes:=32) (x := .dat (.sl x 1 f)) (xs:=x.map .dat) (hx:=x.map .dat) o2 (qdR hr) (by simp) rfl (by simp[hx]) (by omega) (Ws.2 fun v hv=>by
  obtain⟨d,hd,rfl⟩:=Wm.1 hv
  exact ho d hd) (by unfold qaA; exact decide_eq_true (by omega)) h.cl (fun m hm=>by rw[qa1] at hm; cases hm)
 have g1:=(f1 l (by simp)).trans h.gl
 have gk:=(f1 kl (by simp)).trans h.gk
 have hl:l < σ'.length:=(Wb.1 g1).1
 have hne:l≠kl:=fun e=>by
  have:=qbS h.own
  rw[e] at this; simp at this
 have hlr:lr < σ'.length:=qat o3 0 rfl lr (by simp[V.locs])
 rw[<- qc0] at o3
 refine⟨lr,σ',a1,g1,?_,?_,qd7 hne _ gk,qaN hl _⟩
 ·refine qer c1 fun m hm=>?_
  simp only[Ob.locs,qcU,qa1] at hm
  simp only[qau,V.locs,Wk,Wp,We,Wn] at hm
  rcases hm with hm|hm|hm|hm|hm|hm
  ·exact qat o3 1 rfl m hm
  ·exact qat o3 2 rfl m hm
  ·omega
  ·exact qat o3 3 rfl m hm
  ·exact qat o3 4 rfl m hm
  ·exact qat o3 5 rfl m hm
 ·have o4:=qbi o3 (by simp:l∈[l,kl]) (.cells (S.map .dat++[v1,v2,.own lr (lnk.length+1) 4,v4,v5,v6,.int w]))
  exact qbn (as:=[_,_]) o4
theorem qp1 (h:Open σ ks S src pat lnk com cra wat w kl l z v1 v2 v3 v4 v5 v6) (hr : ∀ y∈com,y.length=5) (hn:com.length<=100) {x:List D} (hx:x.length=5) (ho : ∀ d∈x,V.one (.dat d)=true) {f:Bool} :
  ∃ lr σ',appendO σ 5 40 v4 (.dat (.sl x 1 f))=some (.own lr (com.length+1) 5,σ') /\ σ'[l]?=some (.cells (S.map .dat++[v1,v2,v3,v4,v5,v6,.int w])) /\
   Open (σ'.set l (.cells (S.map .dat++[v1,v2,v3,.own lr (com.length+1) 5,v5,v6,.int w]))) ks S src pat lnk (com++[x]) cra wat w kl l z v1 v2 v3 (.own lr (com.length+1) 5) v5 v6:=by
 have o1:Own σ [l,kl] ((qaM 5 com,v4)::[(qaM 1 src,v1),(qaM 1 pat,v2),(qaM 4 lnk,v3),(qaM 1 cra,v5),(qaM 1 wat,v6),(zrT,z)]):=qaT (as:=[_,_,_]) h.own
 have o2:=qcz (as:=[_]) o1 x
 obtain⟨lr,σ',a1,o3,c1,n1,f1⟩:=qbQ (bytes:=40) (x := .dat (.sl x 1 f)) (xs:=x.map .dat) (hx:=x.map .dat) o2 (qdR hr) (by simp) rfl (by simp[hx]) (by omega) (Ws.2 fun v hv=>by
  obtain⟨d,hd,rfl⟩:=Wm.1 hv
  exact ho d hd) (by unfold qaA; exact decide_eq_true (by omega)) h.cl (fun m hm=>by rw[qa1] at hm; cases hm)
 have g1:=(f1 l (by simp)).trans h.gl
 have gk:=(f1 kl (by simp)).trans h.gk
 have hl:l < σ'.length:=(Wb.1 g1).1
 have hne:l≠kl:=fun e=>by
  have:=qbS h.own
  rw[e] at this; simp at this
 have hlr:lr < σ'.length:=qat o3 0 rfl lr (by simp[V.locs])
 rw[<- qc0] at o3
 refine⟨lr,σ',a1,g1,?_,?_,qd7 hne _ gk,qaN hl _⟩
 ·refine qer c1 fun m hm=>?_
  simp only[Ob.locs,qcU,qa1] at hm
  simp only[qau,V.locs,Wk,Wp,We,Wn] at hm
  rcases hm with hm|hm|hm|hm|hm|hm
  ·exact qat o3 1 rfl m hm
  ·exact qat o3 2 rfl m hm
  ·exact qat o3 3 rfl m hm
  ·omega
  ·exact qat o3 4 rfl m hm
  ·exact qat o3 5 rfl m hm
 ·have o4:=qbi o3 (by simp:l∈[l,kl]) (.cells (S.map .dat++[v1,v2,v3,.own lr (com.length+1) 5,v5,v6,.int w]))
  exact qbn (as:=[_,_,_]) o4
theorem qlr (h:Open σ ks S src pat lnk com cra wat w kl l z v1 v2 v3 v4 v5 v6) (hr : ∀ y∈cra,y.length=1) (hn:cra.length<=100) {x:List D} (hx:x.length=1) (ho : ∀ d∈x,V.one (.dat d)=true) {f:Bool} :
  ∃ lr σ',appendO σ 1 8 v5 (.dat (.sl x 1 f))=some (.own lr (cra.length+1) 1,σ') /\ σ'[l]?=some (.cells (S.map .dat++[v1,v2,v3,v4,v5,v6,.int w])) /\
   Open (σ'.set l (.cells (S.map .dat++[v1,v2,v3,v4,.own lr (cra.length+1) 1,v6,.int w]))) ks S src pat lnk com (cra++[x]) wat w kl l z v1 v2 v3 v4 (.own lr (cra.length+1) 1) v6:=by
 have o1:Own σ [l,kl] ((qaM 1 cra,v5)::[(qaM 1 src,v1),(qaM 1 pat,v2),(qaM 4 lnk,v3),(qaM 5 com,v4),(qaM 1 wat,v6),(zrT,z)]):=qaT (as:=[_,_,_,_]) h.own
 have o2:=qcz (as:=[_]) o1 x
 obtain⟨lr,σ',a1,o3,c1,n1,f1⟩:=qbQ (bytes:=8) (x := .dat (.sl x 1 f)) (xs:=x.map .dat) (hx:=x.map .dat) o2 (qdR hr) (by simp) rfl (by simp[hx]) (by omega) (Ws.2 fun v hv=>by
  obtain⟨d,hd,rfl⟩:=Wm.1 hv
  exact ho d hd) (by unfold qaA; exact decide_eq_true (by omega)) h.cl (fun m hm=>by rw[qa1] at hm; cases hm)
 have g1:=(f1 l (by simp)).trans h.gl
 have gk:=(f1 kl (by simp)).trans h.gk
 have hl:l < σ'.length:=(Wb.1 g1).1
 have hne:l≠kl:=fun e=>by
  have:=qbS h.own
  rw[e] at this; simp at this
 have hlr:lr < σ'.length:=qat o3 0 rfl lr (by simp[V.locs])
 rw[<- qc0] at o3
 refine⟨lr,σ',a1,g1,?_,?_,qd7 hne _ gk,qaN hl _⟩
 ·refine qer c1 fun m hm=>?_
  simp only[Ob.locs,qcU,qa1] at hm
  simp only[qau,V.locs,Wk,Wp,We,Wn] at hm
  rcases hm with hm|hm|hm|hm|hm|hm
  ·exact qat o3 1 rfl m hm
  ·exact qat o3 2 rfl m hm
  ·exact qat o3 3 rfl m hm
  ·exact qat o3 4 rfl m hm
  ·omega
  ·exact qat o3 5 rfl m hm
 ·have o4:=qbi o3 (by simp:l∈[l,kl]) (.cells (S.map .dat++[v1,v2,v3,v4,.own lr (cra.length+1) 1,v6,.int w]))
  exact qbn (as:=[_,_,_,_]) o4
theorem qp2 (h:Open σ ks S src pat lnk com cra wat w kl l z v1 v2 v3 v4 v5 v6) (hr : ∀ y∈wat,y.length=1) (hn:wat.length<=100) {x:List D} (hx:x.length=1) (ho : ∀ d∈x,V.one (.dat d)=true) {f:Bool} :
  ∃ lr σ',appendO σ 1 8 v6 (.dat (.sl x 1 f))=some (.own lr (wat.length+1) 1,σ') /\ σ'[l]?=some (.cells (S.map .dat++[v1,v2,v3,v4,v5,v6,.int w])) /\
   Open (σ'.set l (.cells (S.map .dat++[v1,v2,v3,v4,v5,.own lr (wat.length+1) 1,.int w]))) ks S src pat lnk com cra (wat++[x]) w kl l z v1 v2 v3 v4 v5 (.own lr (wat.length+1) 1):=by
 have o1:Own σ [l,kl] ((qaM 1 wat,v6)::[(qaM 1 src,v1),(qaM 1 pat,v2),(qaM 4 lnk,v3),(qaM 5 com,v4),(qaM 1 cra,v5),(zrT,z)]):=qaT (as:=[_,_,_,_,_]) h.own
 have o2:=qcz (as:=[_]) o1 x
 obtain⟨lr,σ',a1,o3,c1,n1,f1⟩:=qbQ (bytes:=8) (x := .dat (.sl x 1 f)) (xs:=x.map .dat) (hx:=x.map .dat) o2 (qdR hr) (by simp) rfl (by simp[hx]) (by omega) (Ws.2 fun v hv=>by
  obtain⟨d,hd,rfl⟩:=Wm.1 hv
  exact ho d hd) (by unfold qaA; exact decide_eq_true (by omega)) h.cl (fun m hm=>by rw[qa1] at hm; cases hm)
 have g1:=(f1 l (by simp)).trans h.gl
 have gk:=(f1 kl (by simp)).trans h.gk
 have hl:l < σ'.length:=(Wb.1 g1).1
 have hne:l≠kl:=fun e=>by
  have:=qbS h.own
  rw[e] at this; simp at this
 have hlr:lr < σ'.length:=qat o3 0 rfl lr (by simp[V.locs])
 rw[<- qc0] at o3
 refine⟨lr,σ',a1,g1,?_,?_,qd7 hne _ gk,qaN hl _⟩
 ·refine qer c1 fun m hm=>?_
  simp only[Ob.locs,qcU,qa1] at hm
  simp only[qau,V.locs,Wk,Wp,We,Wn] at hm
  rcases hm with hm|hm|hm|hm|hm|hm
  ·exact qat o3 1 rfl m hm
  ·exact qat o3 2 rfl m hm
  ·exact qat o3 3 rfl m hm
  ·exact qat o3 4 rfl m hm
  ·exact qat o3 5 rfl m hm
  ·omega
 ·have o4:=qbi o3 (by simp:l∈[l,kl]) (.cells (S.map .dat++[v1,v2,v3,v4,v5,.own lr (wat.length+1) 1,.int w]))
  exact qbn (as:=[_,_,_,_,_]) o4
end
end
section
open F
set_option maxRecDepth 100000
attribute [local simp] V.len qai
def Lnk.gen(x:Lnk):Prop:=x.ok=true/\x.d+x.j<=8/\(x.l=0\/2<=x.l)
section
variable{ks:List Int}{S:List D}{n:Nat}
theorem qpe (hk:ks.length=40) (hd : ∀ x∈ks,Dn x) (hS:S.length=16) (hS0:qad S 0 1=some [di n]) (hn:n<=3) {src pat com cra wat:List (List D)} {w:Int} {xs:List Lnk} {p:Nat} (hp:p<n) (hx:xs.length=p) {σ : Pm.S} {kl l z:Nat}
  (hσ : Cl σ) (ho:Own σ [] [(ksT ks,.own kl 40 1),(scT S (rws src pat (xs.map Lnk.c) com cra wat) w,.ptr l 0),(zrT,.ptr z 0)]) :
  ∃ x σ',x.gen/\run (Z prX) 0 F362l1 [(2,.ptr z 0),(3,.own kl 40 1),(6,.ptr l 0),(7,.int p)] σ = some (.normal,[(2,.ptr z 0),(3,.own kl 40 1),(6,.ptr l 0),(7,.int ((p+1:Nat):Int))],σ')/\Cl σ' /\
   Own σ' [] [(ksT ks,.own kl 40 1),(scT S (rws src pat ((xs++[x]).map Lnk.c) com cra wat) w,.ptr l 0),(zrT,.ptr z 0)]:=by
 obtain⟨kl',l',v1,v2,v3,v4,v5,v6,e1,e2,h⟩:=qdy hσ ho
 cases e1; cases e2
 have hm:=hd _ (qbv (xs:=ks) (i:=15+p) (by omega))
 obtain⟨x,j3,j4,x0,x1,x2,x3,x4,x5,x6,x7,x8,x9,x10⟩:=quY hm
 have hall : ∀ y∈xs.map Lnk.c,y.length=4:=fun y hy=>by
  obtain⟨a,_,rfl⟩:=Wm.1 hy; rfl
 obtain⟨lr,σ',a1,g1,h2⟩:=qp0 h hall (by simp; omega) (x:=x.c) rfl (fun d hd=>by
  simp only[Lnk.c,Wq,WD,or_false] at hd
  rcases hd with rfl|rfl|rfl|rfl<;>rfl) (f:=true)
 refine⟨x,_,⟨x0,x9,x10⟩,?_,h2.cl,?_⟩
 ·have gk:=h.gk
  have gl:=h.gl
  have ck:=qby ks (15+p) (by omega)
  have hl:(ints ks).length=40:=by simp[hk]
  have pre:=qa4 (qas S) (m:=16) (by simp[hS])
  have q0 : ∀ B,qad (S.map V.dat++B) 0 1=some [.int n]:=fun B=>by
   rw[qbw (by simp; omega)]; exact qcv V.dat hS0
  have q18:=fun B=>pre.c B 2 1
  have t18:=fun B=>pre.t B 2
  have d19:=fun B=>pre.d B 3
  simp only[show 16+2=18 from rfl,show 16+3=19 from rfl] at q18 t18 d19
  have hAl:(S.map V.dat).length=16:=by simp[hS]
  have w1:IntKind.i64.wrap ((p:Int)+1)=((p+1:Nat):Int):=by rw[qay _ (by omega)]; omega
  have w2:IntKind.i64.wrap (15+(p:Int))=((15+p:Nat):Int):=by rw[qay _ (by omega)]; omega
  have p1:(p:Int)<n:=by omega
  have p2:((15+p:Nat):Int)<40:=by omega
  have p3:(0:Int)<=((15+p:Nat):Int):=by omega
  have y1:j3<4:=x5.2
  have y2:j4<4:=x6.2
  have y3:0<=j3:=x5.1
  have y4:0<=j4:=x6.1
  simp only[Wf] at a1 h2 ⊢
  clear h h2 ho hσ hd hm
  simp only[Lnk.c,di] at *
  generalize S.map V.dat=A at *
  generalize ints ks=X at *
  generalize getN ks (15+p)=gm at *
  generalize xs.length+1=n1 at *
  generalize hj5:15+p=j5 at *
  generalize p+1=p1' at *
  generalize hxd:x.d=xd at *
  generalize hxj:x.j=xj at *
  simp -implicitDefEqProofs [qiQ,gk,gl,ck,hl,q0,q18,t18,d19,hAl,w1,w2,p1,p2,p3,x1,x2,x3,x4,x7,x8,y1,y2,y3,y4,a1,g1,Wa,-appendO]
 ·rw[List.map_append]
  exact qel h2
end
end
section
open F
set_option maxRecDepth 100000
attribute [local simp] V.len qai
theorem quX{g:Int}(h:Dn g){n:Nat}(hn:1<=n)(h3:n<=3) : ∃ x:Cmd,x.ok n=true/\(IntKind.i64.wrap (g.tdiv 4)).tmod 16=x.at_/\(IntKind.i64.wrap (g.tdiv 64)).tmod n=x.pl/\IntKind.i64.wrap ((IntKind.i64.wrap (g.tdiv 192)).tmod 3-1)=x.dx/\IntKind.i64.wrap ((IntKind.i64.wrap (g.tdiv 576)).tmod 3-1)=x.dy/\(IntKind.i64.wrap (g.tdiv 1728)).tmod 4=x.ac:=by
 obtain⟨d1,w1⟩:=qbC h (m:=4) (by omega)
 obtain⟨d2,w2⟩:=qbC h (m:=64) (by omega)
 obtain⟨d3,w3⟩:=qbC h (m:=192) (by omega)
 obtain⟨d4,w4⟩:=qbC h (m:=576) (by omega)
 obtain⟨d5,w5⟩:=qbC h (m:=1728) (by omega)
 have m1:=qbb d1.1 (m:=16) (by omega)
 have m2:=qbb d2.1 (m:=n) (by omega)
 have m3:=qbb d3.1 (m:=3) (by omega)
 have m4:=qbb d4.1 (m:=3) (by omega)
 have m5:=qbb d5.1 (m:=4) (by omega)
 rw[w1,w2,w3,w4,w5,qay (_-1) (by omega),qay (_-1) (by omega)]
 generalize (g.tdiv 4).tmod 16=b1 at *
 generalize (g.tdiv 64).tmod n=b2 at *
 generalize (g.tdiv 192).tmod 3=b3 at *
 generalize (g.tdiv 576).tmod 3=b4 at *
 generalize (g.tdiv 1728).tmod 4=b5 at *
 refine⟨⟨_,_,_,_,_⟩,?_,rfl,rfl,rfl,rfl,rfl⟩
 simp only[Cmd.ok,qfB,qg4,Wh,decide_eq_true_eq]
 omega
section
variable{ks:List Int}{S:List D}{n:Nat}
theorem qxa (hk:ks.length=40) (hd : ∀ x∈ks,Dn x) (hS:S.length=16) (hS0:qad S 0 1=some [di n]) (hn:n<=3) {src pat com cra wat:List (List D)} {w:Int} : ∀ (j p:Nat) (xs:List Lnk) (σ : Pm.S) (kl l z:Nat),p+j=n->xs.length=p->(∀ x∈xs,x.gen) ->
  Cl σ -> Own σ [] [(ksT ks,.own kl 40 1),(scT S (rws src pat (xs.map Lnk.c) com cra wat) w,.ptr l 0),(zrT,.ptr z 0)] ->
  ∃ (ys:List Lnk) (σ':Pm.S) (kl' l' z':Nat),ys.length=n/\(∀ x∈ys,x.gen)/\Z prX (.loop 0 F362l1 [(2,.ptr z 0),(3,.own kl 40 1),(6,.ptr l 0),(7,.int p)] σ)=some (.out (.exit 2) [(2,.ptr z' 0),(3,.own kl' 40 1),(6,.ptr l' 0),(7,.int n),(90,.bool false)] σ')/\Cl σ' /\
   Own σ' [] [(ksT ks,.own kl' 40 1),(scT S (rws src pat (ys.map Lnk.c) com cra wat) w,.ptr l' 0),(zrT,.ptr z' 0)]
 |j,p,xs,σ,kl,l,z,e,h1,h2,hσ,ho=>by
  obtain⟨ρ,σ0,g1,g2,g3,g4,g5⟩:=qfx (k:=0) (fr:=[(2,.ptr z 0),(3,.own kl 40 1),(6,.ptr l 0),(7,.int p)]) hσ (by omega) (fun m hm=>by
   simp only[qaR,V.locs,Wk,Wp,We,Wn] at hm
   rcases hm with rfl|rfl|rfl
   ·exact qat ho 2 rfl _ (by simp[V.locs])
   ·exact qat ho 0 rfl _ (by simp[V.locs])
   ·exact qat ho 1 rfl _ (by simp[V.locs])) ho (fun q hq m hm=>by
   right
   simp only[Wq,WD,or_false] at hq
   rcases hq with rfl|rfl|rfl<;>(simp only[V.locs,Wn] at hm; subst hm; simp[qaR,V.locs]))
  match j,e with
  |0,e=>
   obtain rfl:p=n:=by omega
   refine⟨xs,σ0,ρ kl,ρ l,ρ z,h1,h2,?_,g2,g5⟩
   obtain⟨kl',l',v1,v2,v3,v4,v5,v6,e1,e2,h⟩:=qdy g2 g5
   have gl:=h.gl
   simp only[V.ren,V.ptr.injEq,and_true] at e2
   rw[<- e2] at gl
   have q0 : ∀ B,qad (S.map V.dat++B) 0 1=some [.int p]:=fun B=>by
    rw[qbw (by simp; omega)]; exact qcv V.dat hS0
   rw[qap,g1]
   generalize S.map V.dat=A at *
   simp[qao,qiQ,qd8,gl,q0]
  |j+1,e=>
   obtain⟨x,σ1,r1,r2,r3,r4⟩:=qpe hk hd hS hS0 hn (p:=p) (by omega) h1 g2 g5
   obtain⟨ys,σ',kl',l',z',q1,q2,q3,q4,q5⟩:=qxa hk hd hS hS0 hn j (p+1) (xs++[x]) σ1 (ρ kl) (ρ l) (ρ z) (by omega) (by simp[h1]) (fun y hy=>by
    rcases We.1 hy with hy|hy
    ·exact h2 y hy
    ·simp at hy; rw[hy]; exact r1) r3 r4
   refine⟨ys,σ',kl',l',z',q1,q2,?_,q4,q5⟩
   rw[<- q3,qap,g1]
   simp only[qd8,V.ren,qao]
   rw[r2]
theorem qqM (hk:ks.length=40) (hd : ∀ x∈ks,Dn x) (hS:S.length=16) (hS0:qad S 0 1=some [di n]) (h1:1<=n) (hn:n<=3) {src pat lnk cra wat:List (List D)} {w:Int} {xs:List Cmd} {i:Nat} (hi:i<9) (hx:xs.length<=i) {σ : Pm.S} {kl l z:Nat}
  (hσ : Cl σ) (ho:Own σ [] [(ksT ks,.own kl 40 1),(scT S (rws src pat lnk (xs.map Cmd.c) cra wat) w,.ptr l 0),(zrT,.ptr z 0)]) :
  ∃ (ys:List Cmd) (σ':Pm.S),ys.length<=i+1/\((∀ x∈xs,x.ok n=true) -> ∀ x∈ys,x.ok n=true)/\run (Z prX) 0 F362l2 [(2,.ptr z 0),(3,.own kl 40 1),(6,.ptr l 0),(9,.int i)] σ = some (.normal,[(2,.ptr z 0),(3,.own kl 40 1),(6,.ptr l 0),(9,.int ((i+1:Nat):Int))],σ')/\Cl σ' /\
   Own σ' [] [(ksT ks,.own kl 40 1),(scT S (rws src pat lnk (ys.map Cmd.c) cra wat) w,.ptr l 0),(zrT,.ptr z 0)]:=by
 obtain⟨kl',l',v1,v2,v3,v4,v5,v6,e1,e2,h⟩:=qdy hσ ho
 cases e1; cases e2
 have hm:=hd _ (qbv (xs:=ks) (i:=18+i) (by omega))
 obtain⟨x,x0,x1,x2,x3,x4,x5⟩:=quX hm h1 hn
 have gk:=h.gk
 have gl:=h.gl
 have ck:=qby ks (18+i) (by omega)
 have hl:(ints ks).length=40:=by simp[hk]
 have pre:=qa4 (qas S) (m:=16) (by simp[hS])
 have q0 : ∀ B,qad (S.map V.dat++B) 0 1=some [.int n]:=fun B=>by
  rw[qbw (by simp; omega)]; exact qcv V.dat hS0
 have q19:=fun B=>pre.c B 3 1
 have t19:=fun B=>pre.t B 3
 have d20:=fun B=>pre.d B 4
 simp only[show 16+3=19 from rfl,show 16+4=20 from rfl] at q19 t19 d20
 have hAl:(S.map V.dat).length=16:=by simp[hS]
 have w1:IntKind.i64.wrap ((i:Int)+1)=((i+1:Nat):Int):=by rw[qay _ (by omega)]; omega
 have w2:IntKind.i64.wrap (18+(i:Int))=((18+i:Nat):Int):=by rw[qay _ (by omega)]; omega
 have p1:(i:Int)<9:=by omega
 have p2:((18+i:Nat):Int)<40:=by omega
 have p3:(0:Int)<=((18+i:Nat):Int):=by omega
 have n0 : ¬ (n:Int)=0:=by omega
 have n0' : ¬ n=0:=by omega
 by_cases h3:(getN ks (18+i)).tmod 4=3
 ·refine⟨xs,σ,by omega,fun h=>h,?_,hσ,ho⟩
  clear h ho hσ hd hm
  generalize ints ks=X at *
  generalize getN ks (18+i)=gm at *
  generalize hj5:18+i=j5 at *
  generalize i+1=i1 at *
  simp -implicitDefEqProofs [qgz,gk,ck,hl,w1,w2,p1,p2,p3,h3,Wa]
 ·have hall : ∀ y∈xs.map Cmd.c,y.length=5:=fun y hy=>by
   obtain⟨a,_,rfl⟩:=Wm.1 hy; rfl
  obtain⟨lr,σ',a1,g1,h2⟩:=qp1 h hall (by simp; omega) (x:=x.c) rfl (fun d hd=>by
   simp only[Cmd.c,Wq,WD,or_false] at hd
   rcases hd with rfl|rfl|rfl|rfl|rfl<;>rfl) (f:=true)
  refine⟨xs++[x],_,by simp; omega,fun h y hy=>by
   rcases We.1 hy with hy|hy
   ·exact h y hy
   ·simp at hy; rw[hy]; exact x0,?_,h2.cl,?_⟩
  ·simp only[Wf] at a1 h2 ⊢
   clear h h2 ho hσ hd hm
   simp only[Cmd.c,di] at *
   generalize S.map V.dat=A at *
   generalize ints ks=X at *
   generalize getN ks (18+i)=gm at *
   generalize xs.length+1=n1 at *
   generalize hj5:18+i=j5 at *
   generalize i+1=i1 at *
   generalize hxa:x.at_=xa at *
   generalize hxp:x.pl=xp at *
   generalize hxc:x.ac=xc at *
   simp -implicitDefEqProofs [qgz,gk,gl,ck,hl,q0,q19,t19,d20,hAl,w1,w2,p1,p2,p3,h3,n0,n0',x1,x2,x3,x4,x5,a1,g1,Wa,-appendO]
  ·rw[List.map_append]
   exact qel h2
theorem qxb (hk:ks.length=40) (hd : ∀ x∈ks,Dn x) (hS:S.length=16) (hS0:qad S 0 1=some [di n]) (h1:1<=n) (hn:n<=3) {src pat lnk cra wat:List (List D)} {w:Int} : ∀ (j i:Nat) (xs:List Cmd) (σ : Pm.S) (kl l z:Nat),i+j=9->xs.length<=i->(∀ x∈xs,x.ok n=true) ->
  Cl σ -> Own σ [] [(ksT ks,.own kl 40 1),(scT S (rws src pat lnk (xs.map Cmd.c) cra wat) w,.ptr l 0),(zrT,.ptr z 0)] ->
  ∃ (ys:List Cmd) (σ':Pm.S) (kl' l' z':Nat),ys.length<=9/\(∀ x∈ys,x.ok n=true)/\Z prX (.loop 0 F362l2 [(2,.ptr z 0),(3,.own kl 40 1),(6,.ptr l 0),(9,.int i)] σ)=some (.out (.exit 4) [(2,.ptr z' 0),(3,.own kl' 40 1),(6,.ptr l' 0),(9,.int 9),(122,.bool false)] σ')/\Cl σ' /\
   Own σ' [] [(ksT ks,.own kl' 40 1),(scT S (rws src pat lnk (ys.map Cmd.c) cra wat) w,.ptr l' 0),(zrT,.ptr z' 0)]
 |j,p,xs,σ,kl,l,z,e,h3,h2,hσ,ho=>by
  obtain⟨ρ,σ0,g1,g2,g3,g4,g5⟩:=qfx (k:=0) (fr:=[(2,.ptr z 0),(3,.own kl 40 1),(6,.ptr l 0),(9,.int p)]) hσ (by omega) (fun m hm=>by
   simp only[qaR,V.locs,Wk,Wp,We,Wn] at hm
   rcases hm with rfl|rfl|rfl
   ·exact qat ho 2 rfl _ (by simp[V.locs])
   ·exact qat ho 0 rfl _ (by simp[V.locs])
   ·exact qat ho 1 rfl _ (by simp[V.locs])) ho (fun q hq m hm=>by
   right
   simp only[Wq,WD,or_false] at hq
   rcases hq with rfl|rfl|rfl<;>(simp only[V.locs,Wn] at hm; subst hm; simp[qaR,V.locs]))
  match j,e with
  |0,e=>
   obtain rfl:p=9:=by omega
   refine⟨xs,σ0,ρ kl,ρ l,ρ z,h3,h2,?_,g2,g5⟩
   rw[qap,g1]
   simp[qao,qgz,qd8]
  |j+1,e=>
   obtain⟨xs',σ1,r0,r1,r2,r3,r4⟩:=qqM hk hd hS hS0 h1 hn (i:=p) (by omega) h3 g2 g5
   obtain⟨ys,σ',kl',l',z',q1,q2,q3,q4,q5⟩:=qxb hk hd hS hS0 h1 hn j (p+1) xs' σ1 (ρ kl) (ρ l) (ρ z) (by omega) r0 (r1 h2) r3 r4
   refine⟨ys,σ',kl',l',z',q1,q2,?_,q4,q5⟩
   rw[<- q3,qap,g1]
   simp only[qd8,V.ren,qao]
   rw[r2]
theorem qqN (hk:ks.length=40) (hd : ∀ x∈ks,Dn x) (hS:S.length=16) (hS0:qad S 0 1=some [di n]) (h1:1<=n) (hn:n<=3) {src pat lnk com cra:List (List D)} {w:Int} {xs:List Int} {i:Nat} (hi:(i:Int)<(getN ks 29).tmod 3) (hx:xs.length=i) {σ : Pm.S} {kl l z:Nat}
  (hσ : Cl σ) (ho:Own σ [] [(ksT ks,.own kl 40 1),(scT S (rws src pat lnk com cra (xs.map qbm)) w,.ptr l 0),(zrT,.ptr z 0)]) :
  ∃ (x:Int) (σ':Pm.S),qfB n x=true/\run (Z prX) 0 F362l3 [(2,.ptr z 0),(3,.own kl 40 1),(6,.ptr l 0),(11,.int i)] σ = some (.normal,[(2,.ptr z 0),(3,.own kl 40 1),(6,.ptr l 0),(11,.int ((i+1:Nat):Int))],σ')/\Cl σ' /\
   Own σ' [] [(ksT ks,.own kl 40 1),(scT S (rws src pat lnk com cra ((xs++[x]).map qbm)) w,.ptr l 0),(zrT,.ptr z 0)]:=by
 obtain⟨kl',l',v1,v2,v3,v4,v5,v6,e1,e2,h⟩:=qdy hσ ho
 cases e1; cases e2
 have hm:=hd _ (qbv (xs:=ks) (i:=29) (by omega))
 have m3:=qbb hm.1 (m:=3) (by omega)
 obtain⟨d1,w0⟩:=qbC hm (m:=3) (by omega)
 have hd1:=d1.1
 have hd2:=d1.2
 have gk:=h.gk
 have gl:=h.gl
 have ck:=qby ks 29 (by omega)
 have hl:(ints ks).length=40:=by simp[hk]
 have pre:=qa4 (qas S) (m:=16) (by simp[hS])
 have q0 : ∀ B,qad (S.map V.dat++B) 0 1=some [.int n]:=fun B=>by
  rw[qbw (by simp; omega)]; exact qcv V.dat hS0
 have q21:=fun B=>pre.c B 5 1
 have t21:=fun B=>pre.t B 5
 have d22:=fun B=>pre.d B 6
 simp only[show 16+5=21 from rfl,show 16+6=22 from rfl] at q21 t21 d22
 have hAl:(S.map V.dat).length=16:=by simp[hS]
 have w1:IntKind.i64.wrap ((i:Int)+1)=((i+1:Nat):Int):=by rw[qay _ (by omega)]; omega
 have w2:IntKind.i64.wrap ((getN ks 29).tdiv 3+(i:Int))=(getN ks 29).tdiv 3+i:=qay _ (by omega)
 have n0 : ¬ (n:Int)=0:=by omega
 have n0' : ¬ n=0:=by omega
 have mx:=qbb (n:=(getN ks 29).tdiv 3+i) (m:=n) (by omega) (by omega)
 have hall : ∀ y∈xs.map qbm,y.length=1:=fun y hy=>by
  obtain⟨a,_,rfl⟩:=Wm.1 hy; rfl
 obtain⟨lr,σ',a1,g1,h2⟩:=qp2 h hall (by simp; omega) (x:=qbm (((getN ks 29).tdiv 3+i).tmod n)) rfl (fun d hd=>by
  simp only[qbm,Wn] at hd
  rw[hd]; rfl) (f:=true)
 refine⟨((getN ks 29).tdiv 3+i).tmod n,_,by simp only[qfB,decide_eq_true_eq]; omega,?_,h2.cl,?_⟩
 ·simp only[Wf] at a1 h2 ⊢
  clear h h2 ho hσ hd hm d1 hd1 hd2 mx m3
  simp only[qbm,di] at *
  generalize S.map V.dat=A at *
  generalize ints ks=X at *
  generalize getN ks 29=gm at *
  generalize xs.length+1=n1 at *
  generalize i+1=i1 at *
  simp -implicitDefEqProofs [qiR,gk,gl,ck,hl,q0,q21,t21,d22,hAl,w0,w1,w2,hi,n0,n0',a1,g1,Wa,-appendO]
 ·rw[List.map_append]
  exact qel h2
theorem qxc (hk:ks.length=40) (hd : ∀ x∈ks,Dn x) (hS:S.length=16) (hS0:qad S 0 1=some [di n]) (h1:1<=n) (hn:n<=3) {src pat lnk com cra:List (List D)} {w:Int} : ∀ (j i:Nat) (xs:List Int) (σ : Pm.S) (kl l z:Nat),((i+j:Nat):Int)=(getN ks 29).tmod 3->xs.length=i->(∀ x∈xs,qfB n x=true) ->
  Cl σ -> Own σ [] [(ksT ks,.own kl 40 1),(scT S (rws src pat lnk com cra (xs.map qbm)) w,.ptr l 0),(zrT,.ptr z 0)] ->
  ∃ (ys:List Int) (σ':Pm.S) (kl' l' z':Nat),ys.length<=2/\(∀ x∈ys,qfB n x=true)/\Z prX (.loop 0 F362l3 [(2,.ptr z 0),(3,.own kl 40 1),(6,.ptr l 0),(11,.int i)] σ)=some (.out (.exit 6) [(2,.ptr z' 0),(3,.own kl' 40 1),(6,.ptr l' 0),(11,.int ((getN ks 29).tmod 3)),(195,.bool false)] σ')/\Cl σ' /\
   Own σ' [] [(ksT ks,.own kl' 40 1),(scT S (rws src pat lnk com cra (ys.map qbm)) w,.ptr l' 0),(zrT,.ptr z' 0)]
 |j,p,xs,σ,kl,l,z,e,h3,h2,hσ,ho=>by
  obtain⟨ρ,σ0,g1,g2,g3,g4,g5⟩:=qfx (k:=0) (fr:=[(2,.ptr z 0),(3,.own kl 40 1),(6,.ptr l 0),(11,.int p)]) hσ (by omega) (fun m hm=>by
   simp only[qaR,V.locs,Wk,Wp,We,Wn] at hm
   rcases hm with rfl|rfl|rfl
   ·exact qat ho 2 rfl _ (by simp[V.locs])
   ·exact qat ho 0 rfl _ (by simp[V.locs])
   ·exact qat ho 1 rfl _ (by simp[V.locs])) ho (fun q hq m hm=>by
   right
   simp only[Wq,WD,or_false] at hq
   rcases hq with rfl|rfl|rfl<;>(simp only[V.locs,Wn] at hm; subst hm; simp[qaR,V.locs]))
  have m3:=qbb (hd _ (qbv (xs:=ks) (i:=29) (by omega))).1 (m:=3) (by omega)
  match j,e with
  |0,e=>
   refine⟨xs,σ0,ρ kl,ρ l,ρ z,by omega,h2,?_,g2,g5⟩
   obtain⟨kl',l',v1,v2,v3,v4,v5,v6,e1,e2,h⟩:=qdy g2 g5
   have gk:=h.gk
   simp only[V.ren,V.own.injEq,and_true] at e1
   rw[<- e1] at gk
   have ck:=qby ks 29 (by omega)
   have hl:(ints ks).length=40:=by simp[hk]
   simp only[W1] at e
   rw[qap,g1]
   generalize ints ks=X at *
   generalize getN ks 29=gm at *
   generalize hg3:gm.tmod 3=g3' at *
   simp[qao,qiR,qd8,gk,ck,hl,e,hg3]
  |j+1,e=>
   obtain⟨x,σ1,r1,r2,r3,r4⟩:=qqN hk hd hS hS0 h1 hn (i:=p) (by omega) h3 g2 g5
   obtain⟨ys,σ',kl',l',z',q1,q2,q3,q4,q5⟩:=qxc hk hd hS hS0 h1 hn j (p+1) (xs++[x]) σ1 (ρ kl) (ρ l) (ρ z) (by omega) (by simp[h3]) (fun y hy=>by
    rcases We.1 hy with hy|hy
    ·exact h2 y hy
    ·simp at hy; rw[hy]; exact r1) r3 r4
   refine⟨ys,σ',kl',l',z',q1,q2,?_,q4,q5⟩
   rw[<- q3,qap,g1]
   simp only[qd8,V.ren,qao]
   rw[r2]
end
end
end Go.Pm
section
namespace Go.Pm.F
def F362_r6:PC := .seq (.seq (rn [mx 11 (kk 0)] [2,3,6,11]) (.block 6 (.loop F362l3))) (.seq (rn [la 213 23 6,st 23 2 213] [2]) (.ret))
def F362_r5:PC := .seq (.seq (rn [mv 175 3,jj 176 (.indexAddr 1 (.t 175) (kk 28)),l1 177 176,bk 178 .rem 177 4,bk 179 .eql 178 0] [2,3,6,179]) (.cond (.t 179) (.region (some []) [fa 180 20 6,l1 181 180,mv 182 3,jj 183 (.indexAddr 1 (.t 182) (kk 28)),l1 184 183,bk 185 .quo 184 4,bk 186 .rem 185 24,jj 187 (.bslice 1 [zN] [(0,1,(.t 186))]),jj 188 (.appendO 1 8 (.t 181) (.t 187)),fa 189 20 6,st 1 189 188] [2,3,6]) (.skip))) (F362_r6)
def F362_r4:PC := .seq (.seq (rn [mv 160 3,jj 161 (.indexAddr 1 (.t 160) (kk 27)),l1 162 161,bk 163 .rem 162 3,bk 164 .eql 163 0] [2,3,6,164]) (.cond (.t 164) (.region (some []) [fa 165 20 6,l1 166 165,mv 167 3,jj 168 (.indexAddr 1 (.t 167) (kk 27)),l1 169 168,bk 170 .quo 169 3,bk 171 .rem 170 20,jj 172 (.bslice 1 [zN] [(0,1,(.t 171))]),jj 173 (.appendO 1 8 (.t 166) (.t 172)),fa 174 20 6,st 1 174 173] [2,3,6]) (.skip))) (F362_r5)
def F362_r3:PC := .seq (rn [mv 81 3,jj 82 (.indexAddr 1 (.t 81) (kk 14)),l1 83 82,bk 84 .rem 83 5,fa 85 22 6,st 1 85 84] [2,3,6]) (.seq (.seq (rn [mx 7 (kk 0)] [2,3,6,7]) (.block 2 (.loop F362l1))) (.seq (.seq (rn [mx 9 (kk 0)] [2,3,6,9]) (.block 4 (.loop F362l2))) (F362_r4)))
def F362_r2:PC := .seq (.seq (rn [mv 58 3,jj 59 (.indexAddr 1 (.t 58) (kk 13)),l1 60 59,bk 61 .rem 60 3,bk 62 .eql 61 0] [2,3,6,62]) (.cond (.t 62) (.seq (.region (some []) [fa 63 16 6,⟨some 64,.load false 1 (.t 63),none,[6]⟩,mv 65 3,jj 66 (.indexAddr 1 (.t 65) (kk 13)),l1 67 66,bk 68 .quo 67 3,cl 69 371 [68],jj 70 (.bslice 1 [eN] [(0,1,(.t 69))]),jj 71 (.appendO 1 16 (.t 64) (.t 70)),fa 72 16 6,st 1 72 71] [2,3,6] [6]) (rn [mv 73 3,jj 74 (.indexAddr 1 (.t 73) (kk 13)),l1 75 74,bk 76 .quo 75 15,bk 77 .rem 76 10,jj 78 (.bin .add (kk 1) (.t 77)),jj 79 (.bsliceO 1 1 [zN] [(0,1,(.t 78))]),fa 80 17 6,st 1 80 79] [2,3,6])) (.skip))) (F362_r3)
def F362_r1:PC := .seq (rn [mv 29 3,jj 30 (.cut 1 (.t 29) (some (kk 0)) (some (kk 12))),cl 31 45 [30],fa 32 0 6,st 16 32 31] [2,3,6]) (.seq (rn [fa 33 0 6,fa 34 1 33,l1 35 34,fa 36 0 6,fa 37 1 36,l1 38 37,ls 39 38,fa 40 0 6,fa 41 0 40,l1 42 41,jj 43 (.max [(.t 42),(kk 2)]),jj 44 (.min [(.t 39),(.t 43)]),jj 45 (.cut 9 (.t 35) none (some (.t 44))),fa 46 0 6,fa 47 1 46,st 1 47 45] [2,3,6]) (.seq (rn [fa 48 0 6,fa 49 14 48,jn (.store 1 (.t 49) (kk 1))] [2,3,6]) (.seq (rn [fa 50 0 6,fa 51 15 50,jn (.store 1 (.t 51) (kk 20))] [2,3,6]) (.seq (rn [mv 52 3,jj 53 (.indexAddr 1 (.t 52) (kk 12)),l1 54 53,cl 55 371 [54],jj 56 (.bsliceO 1 1 [eN] [(0,1,(.t 55))]),fa 57 16 6,st 1 57 56] [2,3,6]) (F362_r2)))))
theorem F362_t:F362=⟨1,[.cell 2 true 23],.seq (rn [jj 2 (.alloc [zN,sN,zN,zN,zN,zN,sN,sN,zN,zN,zN,zN,zN,zN,zN,zN,sN,sN,sN,sN,sN,sN,zN])] [0,2]) (.seq (rn [jj 3 (.mov (.c (.slice none 0 0)))] [0,2,3]) (.seq (.seq (rn [mx 4 (kk 0)] [0,2,3,4]) (.block 0 (.loop F362l0))) (.seq (rn [jj 6 (.alloc [zN,sN,zN,zN,zN,zN,sN,sN,zN,zN,zN,zN,zN,zN,zN,zN,sN,sN,sN,sN,sN,sN,zN])] [2,3,6]) (F362_r1)))),true,false,false,false⟩:=rfl
end Go.Pm.F
namespace Go.Pm
open F
set_option maxHeartbeats 4000000
set_option maxRecDepth 100000
attribute [local simp] V.len qai
def z23:List V:=[.int 0,qax,.int 0,.int 0,.int 0,.int 0,qax,qax,.int 0,.int 0,.int 0,.int 0,.int 0,.int 0,.int 0,.int 0,qax,qax,qax,qax,qax,qax,.int 0]
def kV(xs:List Int):V:=if xs=[] then qax else .own 1 xs.length 1
def kS(xs:List Int):S:=if xs=[] then [] else [.vec (ints xs)]
section
variable{d:D}{ls:List Int}
theorem k_l (hr:IsRow d ls) (hI : ∀ x∈ls,I64 x) : ∀ (j i:Nat) (xs:List Int),i+j=40->xs.length=i->(∀ x∈xs,Dn x) ->
  ∃ ys:List Int,ys.length=40/\(∀ x∈ys,Dn x)/\Z prX (.loop 0 F362l0 [(0,.dat d),(2,.ptr 0 0),(3,kV xs),(4,.int i)] ([.cells z23]++kS xs))=some (.out (.exit 0) [(0,.dat d),(2,.ptr 0 0),(3,kV ys),(4,.int 40),(13,.bool false)] ([.cells z23]++kS ys))
 |0,i,xs,e,hx,hdx=>by
  obtain rfl:i=40:=by omega
  refine⟨xs,hx,hdx,?_⟩
  have hne : ¬ xs=[]:=fun h=>by rw[h] at hx; simp at hx
  have hll:=qct xs
  have hrr:=fun f=>qde f xs
  unfold kV kS z23
  rw[if_neg hne,if_neg hne,hx]
  generalize ints xs=X at *
  rw[qap]
  simp -implicitDefEqProofs [qao,qdO,hll,hrr,Wa]
 |j+1,i,xs,e,hx,hdx=>by
  have hi:(i:Int)<40:=by omega
  have w1:IntKind.i64.wrap ((i:Int)+1)=((i+1:Nat):Int):=by rw[qay _ (by omega)]; omega
  have rf:qaA (i+1) 8=true:=by unfold qaA; exact decide_eq_true (by omega)
  have rf1:qaA 1 8=true:=rfl
  have hlen:=hr.len
  obtain⟨n,hn,hnn⟩ : ∃ n,Dn n/\(((i:Int)<ls.length/\qai 1 (.dat d) i=some (.dat (.imm (intsC ls) i))/\qad (intsC ls) i 1=some [.lit (.int .i64 (getN ls i))]/\Z prX (.call 17 [.int (getN ls i),.int 1000000] [])=some (.ret (.int n) []))\/(¬ (i:Int)<ls.length/\n=0)):=by
   by_cases h:(i:Int)<ls.length
   ·have hm:=qbv (xs:=ls) (i:=i) (by omega)
    have ha:=hr.at_ i (by omega) h
    simp only[Int.toNat_natCast] at ha
    refine⟨_,?_,.inl ⟨h,ha,qjk ls i (by omega),qia (hI _ hm) (by omega)⟩⟩
    have:=qeV (hI _ hm) (m:=1000000) (by omega)
    exact⟨this.1,this.2⟩
   ·exact⟨0,⟨by omega,by omega⟩,.inr ⟨h,rfl⟩⟩
  obtain⟨ys,q1,q2,q3⟩:=k_l hr hI j (i+1) (xs++[n]) (by omega) (by simp[hx]) (fun x hx'=>by
   rcases We.1 hx' with h|h
   ·exact hdx x h
   ·simp at h; rw[h]; exact hn)
  refine⟨ys,q1,q2,?_⟩
  rw[<- q3]
  have hne2 : ¬ xs++[n]=[]:=by simp
  have hap:ints (xs++[n])=ints xs++[.int n]:=by simp[ints]
  have hl:(ints xs).length=i:=by simp[hx]
  have hll:=qct xs
  have hrr:=fun f=>qde f xs
  have hll2:qau (ints xs++[.int n])=[]:=by rw[<- hap]; exact qct _
  have hrr2 : ∀ f,qbl f (ints xs++[.int n])=ints xs++[.int n]:=fun f=>by rw[<- hap]; exact qde _ _
  have hxl:(xs++[n]).length=i+1:=by simp[hx]
  unfold kV kS z23
  rw[if_neg hne2,if_neg hne2,hxl,hap]
  by_cases h0:xs=[]
  ·subst h0
   have hi0:i=0:=by simpa using hx.symm
   rw[if_pos (rfl:([]:List Int)=[]),if_pos (rfl:([]:List Int)=[])]
   have e1:ints []=[]:=rfl
   rw[e1,Wk]
   rw[show i+1=1 by omega] at *
   rcases hnn with ⟨h1,h2,h3,h4⟩|⟨h1,rfl⟩
   ·generalize getN ls i=m at *
    generalize intsC ls=Y at *
    generalize (i:Int)=i' at *
    conv=>lhs; rw[qap]
    simp -implicitDefEqProofs [qao,qdO,hlen,hi,h1,h2,h3,h4,w1,rf1,Wa,-V.len,-qai]
    exact qaB (by simp[Wa])
   ·generalize (i:Int)=i' at *
    conv=>lhs; rw[qap]
    simp -implicitDefEqProofs [qao,qdO,hlen,hi,h1,w1,rf1,Wa,-V.len,-qai]
    exact qaB (by simp[Wa])
  ·rw[if_neg h0,if_neg h0,hx]
   rcases hnn with ⟨h1,h2,h3,h4⟩|⟨h1,rfl⟩
   ·generalize getN ls i=m at *
    generalize intsC ls=Y at *
    generalize ints xs=X at *
    generalize hi':i+1=i' at *
    conv=>lhs; rw[qap]
    simp -implicitDefEqProofs [qao,qdO,hlen,hi,h1,h2,h3,h4,hl,hll,hrr,hll2,hrr2,w1,rf,hi',Wa,-V.len,-qai]
    exact qaB (by simp[hll2,hrr2,Wa])
   ·generalize ints xs=X at *
    generalize hi':i+1=i' at *
    conv=>lhs; rw[qap]
    simp -implicitDefEqProofs [qao,qdO,hlen,hi,h1,hl,hll,hrr,hll2,hrr2,w1,rf,hi',Wa,-V.len,-qai]
    exact qaB (by simp[hll2,hrr2,Wa])
end
end Go.Pm
end
namespace Go.Pm
section
open F
set_option maxRecDepth 100000
attribute [local simp] V.len qai
theorem qqG:Z prX (.call 398 [] [])=some (.ret (.dat (.sl [srcD 0,srcD 1,srcD 2,srcD 3,srcD 4] 5 true)) []):=byK 100 (by kernel_rfl)
theorem qnH{n:Int}(h:Dn n) : ∃ a,a<5/\Z prX (.call 371 [.int n] [])=some (.ret (.dat (srcD a)) []):=by
 have a1:=qia (n:=n) (m:=5) ⟨by have:=h.1; omega,by have:=h.2; omega⟩ (by omega)
 have hk:=qeV (n:=n) (m:=5) ⟨by have:=h.1; omega,by have:=h.2; omega⟩ (by omega)
 have a2:=qqG
 generalize around n 5=k at *
 have e:k=0\/k=1\/k=2\/k=3\/k=4:=by omega
 rcases e with rfl|rfl|rfl|rfl|rfl
 ·refine⟨0,by omega,qaD (pf:=F371) rfl rfl ?_⟩
  generalize srcD 0=s0 at *
  simp[F371,a1,a2,Wa]
 ·refine⟨1,by omega,qaD (pf:=F371) rfl rfl ?_⟩
  generalize srcD 0=s0 at *
  generalize srcD 1=s1 at *
  simp[F371,a1,a2,Wa]
 ·refine⟨2,by omega,qaD (pf:=F371) rfl rfl ?_⟩
  generalize srcD 0=s0 at *
  generalize srcD 1=s1 at *
  generalize srcD 2=s2 at *
  simp[F371,a1,a2,Wa]
 ·refine⟨3,by omega,qaD (pf:=F371) rfl rfl ?_⟩
  generalize srcD 0=s0 at *
  generalize srcD 1=s1 at *
  generalize srcD 2=s2 at *
  generalize srcD 3=s3 at *
  simp[F371,a1,a2,Wa]
 ·refine⟨4,by omega,qaD (pf:=F371) rfl rfl ?_⟩
  generalize srcD 0=s0 at *
  generalize srcD 1=s1 at *
  generalize srcD 2=s2 at *
  generalize srcD 3=s3 at *
  generalize srcD 4=s4 at *
  simp[F371,a1,a2,Wa]
theorem qlQ{α : Type}{n:Nat} : ∀ {l:List (List α)} {h:Nat},(∀ y∈l,y.length=n)->l.flatten.take (h*n)=(l.take h).flatten
 |[],h,_=>by simp
 |y::l,0,_=>by simp
 |y::l,h+1,hl=>by
  have e:=hl y (W7 ..)
  rw[List.take_succ_cons,WJ,WJ,<- qlQ (n:=n) fun z hz=>hl z (WH _ hz),show (h+1)*n=y.length+h*n by rw[e,Nat.succ_mul]; omega,List.take_append,Wl (by omega),show y.length+h*n-y.length=h*n by omega]
def genF:Flg:=⟨true,false,true,true⟩
theorem qw3 {ks:List Int} (hk:ks.length=40) (hd : ∀ x∈ks,Dn x) : ∃ (u:Sup) (a:Nat),u.ok/\u.rnd=1/\u.bs.length<=3/\a<5/\(run (Z prX) 0 F362_r1 [(2,.ptr 0 0),(3,.own 1 40 1),(6,.ptr 2 0)] [.cells z23,.vec (ints ks),.cells z23] =
  run (Z prX) 0 F362_r2 [(2,.ptr 0 0),(3,.own 1 40 1),(6,.ptr 2 0)] [.cells z23,.vec (ints ks),.cells ((u.c genF).map .dat++[.own 3 1 1,qax,qax,qax,qax,qax,.int 0]),.vec [.dat (srcD a)]]):=by
 obtain⟨su,s1,s2,s3⟩:=quy hk hd
 obtain⟨n1,n3,b1,b3,bs,dr,fog,gy,push,drag,rest⟩:=s1
 obtain⟨a,a1,a2⟩:=qnH (hd _ (qbv (xs:=ks) (i:=12) (by omega)))
 obtain⟨m,hm⟩ : ∃ m:Nat,m=max su.n 2:=⟨_,rfl⟩
 obtain⟨h,hh⟩ : ∃ h:Nat,h=min su.bs.length m:=⟨_,rfl⟩
 have hmx:qpN (.int .i64 (su.n:Int)) [.int .i64 2]=some (.int .i64 (m:Int)):=by
  simp only[qpN]
  congr 2
  split<;>omega
 have hmn:qpM (.int .i64 (su.bs.length:Int)) [.int .i64 (m:Int)]=some (.int .i64 (h:Int)):=by
  simp only[qpM]
  congr 2
  split<;>omega
 have hbl:(su.bs.map (Bod.c · true)).flatten.length=su.bs.length*9:=qem _ _
 have hft:=qlQ (l:=su.bs.map (Bod.c · true)) (n:=9) (h:=h) (by simp; intro y _; rfl)
 rw[<- List.map_take] at hft
 have h1:h<=su.bs.length:=by omega
 have h2:(h:Int)<=su.bs.length:=by omega
 refine⟨⟨su.n,su.bs.take h,su.dr,su.fog,su.gy,su.push,su.drag,su.rest,1⟩,a,⟨n1,n3,by simp; omega,by simp; omega,fun x hx=>bs x (W8 hx),dr,fog,gy,push,drag,rest⟩,rfl,by simp; omega,a1,?_⟩
 have ck:=qby ks 12 (by omega)
 have hl:(ints ks).length=40:=by simp[hk]
 have hll:=qct ks
 have hrr:=fun f=>qde f ks
 obtain⟨so,sc⟩:=qpH a
 have htl:(su.bs.take h).length=h:=by simp; omega
 simp only[Sup.c,qb6,di,genF,htl,Wi,Wr,Wu,Wk,z23]
 simp only[di] at s3
 generalize (su.bs.map (Bod.c · true)).flatten=B at *
 generalize ((su.bs.take h).map (Bod.c · true)).flatten=B' at *
 generalize roomC=RC at *
 generalize doorC su.dr=DC at *
 generalize doorN su.dr=DN at *
 generalize su.bs.length=nb at *
 generalize getN ks 12=g at *
 generalize ints ks=X at *
 generalize srcD a=sd at *
 simp -implicitDefEqProofs [F362_r1,s3,a2,hmx,hmn,hbl,hft,h1,h2,ck,hl,hll,hrr,so,sc,qmx,bound,qcL,Wa]
end
section
open F
set_option maxRecDepth 100000
attribute [local simp] V.len qai
section
variable{ks:List Int}{S:List D}{σ : Pm.S}{src pat lnk com cra wat:List (List D)}{w:Int}{kl l:Nat}{z v1 v2 v3 v4 v5 v6:V}
theorem qqF (h:Open σ ks S src [] lnk com cra wat w kl l z v1 v2 v3 v4 v5 v6) (x:D) :
  Open ((σ ++ [Ob.vec [V.dat x]]).set l (Ob.cells (S.map V.dat++[v1,.own σ.length 1 1,v3,v4,v5,v6,.int w]))) ks S src [[x]] lnk com cra wat w kl l z v1 (.own σ.length 1 1) v3 v4 v5 v6:=by
 have hl:l < σ.length:=(Wb.1 h.gl).1
 have hne:l≠kl:=fun e=>by
  have:=qbS h.own
  rw[e] at this; simp at this
 have o1:=qaT (as:=[_]) h.own
 obtain⟨e2,o2⟩:=qfn (d := .lit (.slice none 0 0)) o1
 have o3:=qgF o2 (Ob.vec [V.dat x])
 have o4:=qcm (l := σ.length) (w := .own 0 1 1) (hs:=[.dat x]) (vs:=[.dat x]) (qgq o3 x) rfl rfl (qf5 _ _)
 have o5:=qbi o4 (by simp:l∈[l,kl]) (Ob.cells (S.map V.dat++[v1,.own σ.length 1 1,v3,v4,v5,v6,.int w]))
 refine⟨?_,qbn (as:=[_]) o5,qd7 hne _ (qbj h.gk _),qaN (by simp; omega) _⟩
 refine qer (qjr h.cl fun m hm=>by simp[Ob.locs,qau,V.locs] at hm) fun m hm=>?_
 simp only[Ob.locs,qcU,qa1] at hm
 simp only[qau,V.locs,Wk,Wp,We,Wn] at hm
 rw[Wt,Ye]
 rcases hm with hm|hm|hm|hm|hm|hm
 ·have:=qat o2 0 rfl m hm; omega
 ·omega
 ·have:=qat o2 1 rfl m hm; omega
 ·have:=qat o2 2 rfl m hm; omega
 ·have:=qat o2 3 rfl m hm; omega
 ·have:=qat o2 4 rfl m hm; omega
theorem quO{n:Int}(h:Dn n) : ∃ v,(1<=v/\v<=10)/\IntKind.i64.wrap (1+(IntKind.i64.wrap (n.tdiv 15)).tmod 10)=v:=by
 obtain⟨d,w⟩:=qbC h (m:=15) (by omega)
 have:=qbb d.1 (m:=10) (by omega)
 rw[w]
 exact⟨_,⟨by omega,by omega⟩,qay _ (by omega)⟩
def qy5(src:List (List D))(pat:List (List D)):Prop:=(∃ a,a<5/\src=[[srcD a]]/\pat=[]) \/ ∃ a b t,a<5/\b<5/\1<=t/\t<=10/\src=[[srcD a],[srcD b]]/\pat=[qbm t]
theorem qw0 (hk:ks.length=40) (hd : ∀ x∈ks,Dn x) (hS:S.length=16) {a:Nat} (ha:a<5) (hσ : Cl σ) {z:Nat} (ho:Own σ [] [(ksT ks,.own kl 40 1),(scT S (rws [[srcD a]] [] lnk com cra wat) w,.ptr l 0),(zrT,.ptr z 0)]) :
  ∃ src pat σ' e,qy5 src pat/\run (Z prX) 0 F362_r2 [(2,.ptr z 0),(3,.own kl 40 1),(6,.ptr l 0)] σ = run (Z prX) 0 F362_r3 ((2,.ptr z 0)::(3,.own kl 40 1)::(6,.ptr l 0)::e) σ'/\Cl σ'/\Own σ' [] [(ksT ks,.own kl 40 1),(scT S (rws src pat lnk com cra wat) w,.ptr l 0),(zrT,.ptr z 0)]:=by
 obtain⟨kl',l',v1,v2,v3,v4,v5,v6,e1,e2,h⟩:=qdy hσ ho
 cases e1; cases e2
 have gk:=h.gk
 have gl:=h.gl
 have hm:=hd _ (qbv (xs:=ks) (i:=13) (by omega))
 have ck:=qby ks 13 (by omega)
 have hl:(ints ks).length=40:=by simp[hk]
 by_cases h3:(getN ks 13).tmod 3=0
 ·obtain⟨b,b1,b2⟩:=qnH (qbC hm (m:=3) (by omega)).1
  obtain⟨t,t1,t2⟩:=quO hm
  obtain⟨so,sc⟩:=qpH b
  have w3:=(qbC hm (m:=3) (by omega)).2
  obtain⟨lr,σ',a1,g1,h2⟩:=qpZ h (by simp) (by simp) (x:=[srcD b]) rfl (fun d hd=>by simp at hd; rw[hd]; exact so) (f:=true)
  have h4:=qqF h2 (di t)
  refine⟨_,_,_,[],.inr ⟨a,b,t,ha,b1,t1.1,t1.2,rfl,rfl⟩,?_,h4.cl,qel h4⟩
  have g2:=h2.gl
  have gk2:=h2.gk
  obtain⟨σ2,hσ2⟩ : ∃ σ2,σ2 = σ'.set l (.cells (S.map .dat++[.own lr ([[srcD a]].length+1) 1,v2,v3,v4,v5,v6,.int w])):=⟨_,rfl⟩
  have e2':=hσ2.symm
  rw[<- hσ2] at g2 gk2 ⊢
  have gk3:=qbj gk2 [Ob.vec [V.dat (di t)]]
  have g3:=qbj g2 [Ob.vec [V.dat (di t)]]
  have pre:=qa4 (qas S) (m:=16) (by simp[hS])
  have q16:=fun B=>pre.c B 0 1
  have t16:=fun B=>pre.t B 0
  have d17:=fun B=>pre.d B 1
  have t17:=fun B=>pre.t B 1
  have d18:=fun B=>pre.d B 2
  simp only[show 16+0=16 from rfl,show 16+1=17 from rfl,show 16+2=18 from rfl] at q16 t16 d17 t17 d18
  have hAl:(S.map V.dat).length=16:=by simp[hS]
  simp only[Ye] at a1 g2 g3 e2' ⊢
  clear h h2 h4 ho hσ hd hm
  simp only[di] at *
  generalize S.map V.dat=A at *
  generalize ints ks=X at *
  generalize getN ks 13=g at *
  generalize srcD b=sd at *
  simp -implicitDefEqProofs [F362_r2,gk,gl,ck,hl,h3,w3,b2,so,sc,q16,t16,d17,t17,d18,hAl,a1,g1,e2',g2,gk2,gk3,g3,t2,Wa,-appendO]
 ·refine⟨_,_,σ,[(62,.bool false)],.inl ⟨a,ha,rfl,rfl⟩,?_,hσ,ho⟩
  clear h ho hσ hd hm
  generalize ints ks=X at *
  generalize getN ks 13=g at *
  simp -implicitDefEqProofs [F362_r2,gk,ck,hl,h3,Wa]
end
end
section
open F
set_option maxRecDepth 100000
attribute [local simp] V.len qai
section
variable{ks:List Int}{S:List D}{n:Nat}{σ : Pm.S}{src pat lnk com cra wat:List (List D)}{w:Int}{kl l:Nat}{v1 v2 v3 v4 v5 v6:V}
theorem qqL {z:V} (h:Open σ ks S src pat lnk com cra wat w kl l z v1 v2 v3 v4 v5 v6) (w':Int) :
  Open (σ.set l (Ob.cells (S.map V.dat++[v1,v2,v3,v4,v5,v6,.int w']))) ks S src pat lnk com cra wat w' kl l z v1 v2 v3 v4 v5 v6:=by
 have hl:l < σ.length:=(Wb.1 h.gl).1
 have hne:l≠kl:=fun e=>by
  have:=qbS h.own
  rw[e] at this; simp at this
 refine⟨qer h.cl fun m hm=>?_,qbi h.own (by simp) _,qd7 hne _ h.gk,qaN hl _⟩
 simp only[Ob.locs,qcU,qa1] at hm
 simp only[qau,V.locs,Wk,Wp,We,Wn] at hm
 rcases hm with hm|hm|hm|hm|hm|hm
 ·exact qat h.own 0 rfl m hm
 ·exact qat h.own 1 rfl m hm
 ·exact qat h.own 2 rfl m hm
 ·exact qat h.own 3 rfl m hm
 ·exact qat h.own 4 rfl m hm
 ·exact qat h.own 5 rfl m hm
theorem qw7 (hk:ks.length=40) (hd : ∀ x∈ks,Dn x) (hS:S.length=16) (hS0:qad S 0 1=some [di n]) (h1:1<=n) (hn:n<=3) {z:Nat} {e:Fr} (hσ : Cl σ) (ho:Own σ [] [(ksT ks,.own kl 40 1),(scT S (rws src pat [] [] cra wat) w,.ptr l 0),(zrT,.ptr z 0)]) :
  ∃ (w':Int) (xs:List Lnk) (ys:List Cmd) (σ':Pm.S) (kl' l' z':Nat) (e':Fr),(0<=w'/\w'<=4)/\xs.length=n/\(∀ x∈xs,x.gen)/\ys.length<=9/\(∀ x∈ys,x.ok n=true)/\run (Z prX) 0 F362_r3 ((2,.ptr z 0)::(3,.own kl 40 1)::(6,.ptr l 0)::e) σ = run (Z prX) 0 F362_r4 ((2,.ptr z' 0)::(3,.own kl' 40 1)::(6,.ptr l' 0)::e') σ'/\Cl σ' /\
   Own σ' [] [(ksT ks,.own kl' 40 1),(scT S (rws src pat (xs.map Lnk.c) (ys.map Cmd.c) cra wat) w',.ptr l' 0),(zrT,.ptr z' 0)]:=by
 obtain⟨kl',l',v1,v2,v3,v4,v5,v6,e1,e2,h⟩:=qdy hσ ho
 cases e1; cases e2
 have gk:=h.gk
 have gl:=h.gl
 have hm:=hd _ (qbv (xs:=ks) (i:=14) (by omega))
 have ck:=qby ks 14 (by omega)
 have hl:(ints ks).length=40:=by simp[hk]
 have m5:=qbb hm.1 (m:=5) (by omega)
 have h2:=qqL h ((getN ks 14).tmod 5)
 obtain⟨xs,σ2,kl2,l2,z2,x1,x2,x3,x4,x5⟩:=qxa hk hd hS hS0 hn n 0 [] _ kl l z (by omega) rfl (fun x h=>by cases h) h2.cl (qel h2)
 obtain⟨ys,σ3,kl3,l3,z3,y1,y2,y3,y4,y5⟩:=qxb hk hd hS hS0 h1 hn 9 0 [] σ2 kl2 l2 z2 (by omega) (by simp) (fun x h=>by cases h) x4 x5
 refine⟨_,xs,ys,σ3,kl3,l3,z3,[(9,.int 9),(122,.bool false)],⟨m5.1,by omega⟩,x1,x2,y1,y2,?_,y4,y5⟩
 have pre:=qa4 (qas S) (m:=16) (by simp[hS])
 have t22:=fun B=>pre.t B 6
 have d23:=fun B=>pre.d B 7
 simp only[show 16+6=22 from rfl,show 16+7=23 from rfl] at t22 d23
 have hAl:(S.map V.dat).length=16:=by simp[hS]
 simp only[WI,Int.ofNat_zero] at x3 y3
 obtain⟨σ1,hσ1⟩ : ∃ σ1,σ1 = σ.set l (Ob.cells (S.map V.dat++[v1,v2,v3,v4,v5,v6,.int ((getN ks 14).tmod 5)])):=⟨_,rfl⟩
 have e2':=hσ1.symm
 rw[<- hσ1] at x3
 clear h h2 ho hσ hd hm m5 x5 y5
 generalize S.map V.dat=A at *
 generalize ints ks=X at *
 generalize getN ks 14=g at *
 simp -implicitDefEqProofs [F362_r3,gk,gl,ck,hl,t22,d23,hAl,e2',x3,y3,Wa]
theorem qw8 (hk:ks.length=40) (hd : ∀ x∈ks,Dn x) (hS:S.length=16) {z:Nat} {e:Fr} {xs:List Int} (hx:xs=[]) (hσ : Cl σ) (ho:Own σ [] [(ksT ks,.own kl 40 1),(scT S (rws src pat lnk com (xs.map qbm) wat) w,.ptr l 0),(zrT,.ptr z 0)]) :
  ∃ (ys:List Int) (σ':Pm.S) (e':Fr),ys.length<=1/\(∀ x∈ys,0<=x)/\run (Z prX) 0 F362_r4 ((2,.ptr z 0)::(3,.own kl 40 1)::(6,.ptr l 0)::e) σ = run (Z prX) 0 F362_r5 ((2,.ptr z 0)::(3,.own kl 40 1)::(6,.ptr l 0)::e') σ'/\Cl σ' /\
   Own σ' [] [(ksT ks,.own kl 40 1),(scT S (rws src pat lnk com (ys.map qbm) wat) w,.ptr l 0),(zrT,.ptr z 0)]:=by
 subst hx
 obtain⟨kl',l',v1,v2,v3,v4,v5,v6,e1,e2,h⟩:=qdy hσ ho
 cases e1; cases e2
 have gk:=h.gk
 have gl:=h.gl
 have hm:=hd _ (qbv (xs:=ks) (i:=27) (by omega))
 have ck:=qby ks 27 (by omega)
 have hl:(ints ks).length=40:=by simp[hk]
 by_cases h3:(getN ks 27).tmod 3=0
 ·obtain⟨d3,w3⟩:=qbC hm (m:=3) (by omega)
  have m20:=qbb d3.1 (m:=20) (by omega)
  obtain⟨lr,σ',a1,g1,h2⟩:=qlr h (by simp) (by simp) (x:=qbm (((getN ks 27).tdiv 3).tmod 20)) rfl (fun d hd=>by simp[qbm] at hd; rw[hd]; rfl) (f:=true)
  refine⟨[((getN ks 27).tdiv 3).tmod 20],_,[],by simp,fun x hx=>by simp at hx; omega,?_,h2.cl,qel h2⟩
  have pre:=qa4 (qas S) (m:=16) (by simp[hS])
  have q20:=fun B=>pre.c B 4 1
  have t20:=fun B=>pre.t B 4
  have d21:=fun B=>pre.d B 5
  simp only[show 16+4=20 from rfl,show 16+5=21 from rfl] at q20 t20 d21
  have hAl:(S.map V.dat).length=16:=by simp[hS]
  simp only[Wr,W4,WF,qbm,di] at a1 ⊢
  clear h h2 ho hσ hd hm
  generalize S.map V.dat=A at *
  generalize ints ks=X at *
  generalize getN ks 27=g at *
  simp -implicitDefEqProofs [F362_r4,gk,gl,ck,hl,h3,w3,q20,t20,d21,hAl,a1,g1,Wa,-appendO]
 ·refine⟨[],σ,[(164,.bool false)],by simp,by simp,?_,hσ,ho⟩
  clear h ho hσ hd hm
  generalize ints ks=X at *
  generalize getN ks 27=g at *
  simp -implicitDefEqProofs [F362_r4,gk,ck,hl,h3,Wa]
theorem qw9 (hk:ks.length=40) (hd : ∀ x∈ks,Dn x) (hS:S.length=16) {z:Nat} {e:Fr} {xs:List Int} (hx:xs.length<=1) (hx0 : ∀ x∈xs,0<=x) (hσ : Cl σ) (ho:Own σ [] [(ksT ks,.own kl 40 1),(scT S (rws src pat lnk com (xs.map qbm) wat) w,.ptr l 0),(zrT,.ptr z 0)]) :
  ∃ (ys:List Int) (σ':Pm.S) (e':Fr),ys.length<=2/\(∀ x∈ys,0<=x)/\run (Z prX) 0 F362_r5 ((2,.ptr z 0)::(3,.own kl 40 1)::(6,.ptr l 0)::e) σ = run (Z prX) 0 F362_r6 ((2,.ptr z 0)::(3,.own kl 40 1)::(6,.ptr l 0)::e') σ'/\Cl σ' /\
   Own σ' [] [(ksT ks,.own kl 40 1),(scT S (rws src pat lnk com (ys.map qbm) wat) w,.ptr l 0),(zrT,.ptr z 0)]:=by
 obtain⟨kl',l',v1,v2,v3,v4,v5,v6,e1,e2,h⟩:=qdy hσ ho
 cases e1; cases e2
 have gk:=h.gk
 have gl:=h.gl
 have hm:=hd _ (qbv (xs:=ks) (i:=28) (by omega))
 have ck:=qby ks 28 (by omega)
 have hl:(ints ks).length=40:=by simp[hk]
 by_cases h3:(getN ks 28).tmod 4=0
 ·obtain⟨d3,w3⟩:=qbC hm (m:=4) (by omega)
  have m20:=qbb d3.1 (m:=24) (by omega)
  have hall : ∀ y∈xs.map qbm,y.length=1:=fun y hy=>by
   obtain⟨a,_,rfl⟩:=Wm.1 hy; rfl
  obtain⟨lr,σ',a1,g1,h2⟩:=qlr h hall (by simp; omega) (x:=qbm (((getN ks 28).tdiv 4).tmod 24)) rfl (fun d hd=>by simp[qbm] at hd; rw[hd]; rfl) (f:=true)
  refine⟨xs++[((getN ks 28).tdiv 4).tmod 24],_,[],by simp; omega,fun x hx=>by
   rcases We.1 hx with hx|hx
   ·exact hx0 x hx
   ·simp at hx; omega,?_,h2.cl,by rw[List.map_append]; exact qel h2⟩
  have pre:=qa4 (qas S) (m:=16) (by simp[hS])
  have q20:=fun B=>pre.c B 4 1
  have t20:=fun B=>pre.t B 4
  have d21:=fun B=>pre.d B 5
  simp only[show 16+4=20 from rfl,show 16+5=21 from rfl] at q20 t20 d21
  have hAl:(S.map V.dat).length=16:=by simp[hS]
  simp only[Wf,qbm,di] at a1 h2 ⊢
  clear h h2 ho hσ hd hm
  generalize S.map V.dat=A at *
  generalize ints ks=X at *
  generalize getN ks 28=g at *
  generalize xs.length+1=n1 at *
  simp -implicitDefEqProofs [F362_r5,gk,gl,ck,hl,h3,w3,q20,t20,d21,hAl,a1,g1,Wa,-appendO]
 ·refine⟨xs,σ,[(179,.bool false)],by omega,hx0,?_,hσ,ho⟩
  clear h ho hσ hd hm
  generalize ints ks=X at *
  generalize getN ks 28=g at *
  simp -implicitDefEqProofs [F362_r5,gk,ck,hl,h3,Wa]
end
end
section
open F
set_option maxRecDepth 100000
attribute [local simp] V.len qai
def qyK(s:Scr):HV := .agg (s.S.map .dat++(rws s.src (s.pat.map qbm) (s.lnk.map Lnk.c) (s.com.map Cmd.c) (s.cra.map qbm) (s.wat.map qbm)++[.dat (di s.wait)]))
structure Scr.Gen(s:Scr)(u:Sup):Prop where
 uok:u.ok
 rnd:u.rnd=1
 bs:u.bs.length<=3
 S:s.S=u.c genF
 n:s.n=u.n
 src:(∃ a,a<5/\s.src=[[srcD a]]/\s.pat=[]) \/ ∃ a b,∃ t:Int,a<5/\b<5/\1<=t/\t<=10/\s.src=[[srcD a],[srcD b]]/\s.pat=[t]
 lnk:s.lnk.length=u.n /\ ∀ x∈s.lnk,x.gen
 com:s.com.length<=9 /\ ∀ x∈s.com,x.ok u.n=true
 cra:s.cra.length<=2 /\ ∀ x∈s.cra,0<=x
 wat:s.wat.length<=2 /\ ∀ x∈s.wat,qfB u.n x=true
 wait:0<=s.wait/\s.wait<=4
theorem qpF{σ : S}{os:List Nat}{ps:List (HV × V)}{sz:Nat}{ls:List (List D)}{v:V}(h:Own σ os ((qaM sz ls,v)::ps))(hne:ls≠[]) : ∃ l,v = .own l ls.length sz:=by
 unfold qaM qch at h
 rw[if_neg (by cases ls with
  |nil=>exact absurd rfl hne
  |cons a b=>simp)] at h
 obtain⟨l,vs,e,_⟩:=qdC h
 exact⟨l,e⟩
theorem qb2{σ : S}{os:List Nat}{ps:List (HV × V)}{n sz:Nat}{hs:List HV}{v:V}(h:Own σ os ((qch n sz hs,v)::ps)):V.one v=true:=by
 unfold qch at h
 split at h
 ·obtain⟨e,_⟩:=qfn h; rw[e]; rfl
 ·obtain⟨l,vs,e,_⟩:=qdC h; rw[e]; rfl
theorem qmr{A:List V}{l n sz:Nat}{B:List V}:qaI (A++(.own l n sz::B))=none:=by
 induction A with
 |nil=>rfl
 |cons a A ih=>cases a<;>simp[qaI,ih]
theorem qrA{d:D}{ls:List Int}(hr:IsRow d ls)(hI : ∀ x∈ls,I64 x) : ∃ (s:Scr) (u:Sup) (vs:List V) (σ : S),s.Gen u/\Z prX (.call 362 [.dat d] [])=some (.ret (.agg vs) σ)/\Cl σ /\ Own σ [] [(qyK s,.agg vs)]:=by
 obtain⟨ks,k1,k2,k3⟩:=k_l hr hI 40 0 [] (by omega) rfl (fun x h=>by cases h)
 obtain⟨u,a,u1,u2,u3,a1,r1⟩:=qw3 k1 k2
 have hS:(u.c genF).length=16:=rfl
 have hS0:qad (u.c genF) 0 1=some [di u.n]:=rfl
 have hone : ∀ x∈u.c genF,V.one (.dat x)=true:=fun d hd=>by
  simp only[Sup.c,Wq,WD,or_false] at hd
  rcases hd with rfl|rfl|rfl|rfl|rfl|rfl|rfl|rfl|rfl|rfl|rfl|rfl|rfl|rfl|rfl|rfl<;>rfl
 have hll:=qct ks
 obtain⟨σ1,hσ1⟩ : ∃ σ1:S,σ1=[.cells z23,.vec (ints ks),.cells ((u.c genF).map .dat++[.own 3 1 1,qax,qax,qax,qax,qax,.int 0]),.vec [.dat (srcD a)]]:=⟨_,rfl⟩
 have c1:Cl σ1:=by
  have hA:=qas (u.c genF)
  have hAl : ∀ B,qau ((u.c genF).map V.dat++B)=qau B:=(qa4 hA (m:=16) rfl).l
  rw[hσ1]
  refine qgo ?_
  generalize (u.c genF).map V.dat=A at *
  generalize ints ks=X at *
  simp[closed,inL,Ob.locs,V.locs,qau,hAl,hll,z23,Wa]
 have o1:Own σ1 [] [(ksT ks,.own 1 40 1),(scT (u.c genF) (rws [[srcD a]] [] [] [] [] []) 0,.ptr 2 0),(zrT,.ptr 0 0)]:=by
  have q0:Own σ1 [3,0,2,1] []:=by
   rw[hσ1]
   exact qsB qmN (by show List.Perm [0,1,2,3] [3,0,2,1]; decide)
  have q1:=qcm (l:=3) (w := .own 0 1 1) (hs:=[.dat (srcD a)]) (vs:=[.dat (srcD a)]) (qgq q0 _) rfl rfl (by rw[hσ1]; rfl)
  have q2:=qc2 (l:=0) (w := .ptr 0 0) (hs:=([di 0,qcO,di 0,di 0,di 0,di 0,qcO,qcO,di 0,di 0,di 0,di 0,di 0,di 0,di 0,di 0,qcO,qcO,qcO,qcO,qcO,qcO,di 0].map .dat)) (vs:=([di 0,qcO,di 0,di 0,di 0,di 0,qcO,qcO,di 0,di 0,di 0,di 0,di 0,di 0,di 0,di 0,qcO,qcO,qcO,qcO,qcO,qcO,di 0].map .dat)) (qbJ q1 _) rfl (by simp) (by rw[hσ1]; rfl)
  have q3:=qcz (as:=[_]) (qbR q2) [qcO,qcO,qcO,qcO,qcO,di 0]
  have q4:=qdZ (l:=2) (w := .ptr 0 0) (os:=[1]) (ds:=u.c genF) (hs:=rws [[srcD a]] [] [] [] [] []++[.dat (di 0)]) (vs:=[.own 3 1 1,qax,qax,qax,qax,qax,.int 0]) (ps:=[(zrT,.ptr 0 0)]) q3 rfl rfl (by rw[hσ1]; rfl)
  exact qcm (l:=1) (w := .own 0 40 1) (os:=[]) (hs:=(intsC ks).map .dat) (vs:=(intsC ks).map .dat) (qbJ q4 _) rfl (by simp) (by rw[hσ1,<- qkh]; rfl)
 obtain⟨src,pat,σ2,e2,s2,r2,c2,o2⟩:=qw0 k1 k2 hS a1 c1 o1
 obtain⟨w,xs,ys,σ3,kl3,l3,z3,e3,w3,x1,x2,y1,y2,r3,c3,o3⟩:=qw7 (e:=e2) k1 k2 hS hS0 u1.n1 u1.n3 c2 o2
 obtain⟨zs4,σ4,e4,z41,z42,r4,c4,o4⟩:=qw8 (e:=e3) (xs:=[]) k1 k2 hS rfl c3 o3
 obtain⟨zs,σ5,e5,z1,z2,r5,c5,o5⟩:=qw9 (e:=e4) k1 k2 hS z41 z42 c4 o4
 have m3:=qbb (k2 _ (qbv (xs:=ks) (i:=29) (by omega))).1 (m:=3) (by omega)
 obtain⟨ws,σ6,kl,l,z,w1,w2,wl,c6,o6⟩:=qxc k1 k2 hS hS0 u1.n1 u1.n3 ((getN ks 29).tmod 3).toNat 0 [] σ5 kl3 l3 z3 (by omega) rfl (fun x h=>by cases h) c5 o5
 obtain⟨kl',l',v1,v2,v3,v4,v5,v6,f1,f2,h⟩:=qdy c6 o6
 cases f1; cases f2
 have gl:=h.gl
 obtain⟨zl,zvs,g1,g2,g3,o7⟩:=qhc (qaT (as:=[_,_,_,_,_,_]) h.own)
 simp only[V.ren,V.ptr.injEq,and_true] at g1
 subst g1
 obtain⟨g4,o8⟩:=qcV (by simpa using g3) o7
 have hz:z < σ6.length:=(Wb.1 g2).1
 obtain⟨cs,hcs⟩ : ∃ cs,cs=(u.c genF).map V.dat++[v1,v2,v3,v4,v5,v6,.int w]:=⟨_,rfl⟩
 rw[<- hcs] at gl
 have o9:=qbi o8 (by simp:z∈[z,l,kl]) (.cells cs)
 have c9:Cl (σ6.set z (.cells cs)):=qer c6 fun m hm=>c6 l _ gl m hm
 have o10:=qfD (qfD (qfD o9))
 have o11:=qbn (as:=[_,_,_,_,_,_]) (qgq o10 (di w))
 have o12:=qo2 (hs:=(u.c genF).map HV.dat++(rws src pat (xs.map Lnk.c) (ys.map Cmd.c) (zs.map qbm) (ws.map qbm)++[.dat (di w)])) (vs:=cs) (ps:=[]) (by
  rw[hcs,qgL (by simp),WA]
  exact qbJ (by simpa only [rws,Wu,Wk,List.zip_cons_cons,List.zip_nil_left] using o11) _) (by rw[hcs]; simp[rws])
 obtain⟨ρ,σ7,t1,t2,t3,t4,t5⟩:=qio (k:=0) (vs:=[.agg cs]) c9 (by omega) (fun m hm=>qat o12 0 rfl m (by simpa [qau] using hm)) o12 (fun p hp m hm=>by
  right
  simp only[Wn] at hp
  subst hp
  simpa [qau] using hm)
 obtain⟨pat',hpat,hpe⟩ : ∃ pat':List Int,((∃ a,a<5/\src=[[srcD a]]/\pat'=[]) \/ ∃ a b,∃ t:Int,a<5/\b<5/\1<=t/\t<=10/\src=[[srcD a],[srcD b]]/\pat'=[t])/\pat=pat'.map qbm:=by
  rcases s2 with ⟨a,h1,h2,h3⟩|⟨a,b,t,h1,h2,h3,h4,h5,h6⟩
  ·exact⟨[],.inl ⟨a,h1,h2,rfl⟩,h3⟩
  ·exact⟨[t],.inr ⟨a,b,t,h1,h2,h3,h4,h5,rfl⟩,h6⟩
 have hsrc:src≠[]:=by
  rcases hpat with ⟨a,h1,h2,h3⟩|⟨a,b,t,h1,h2,h3,h4,h5,h6⟩<;>simp[*]
 obtain⟨lr,e1⟩:=qpF o10 hsrc
 refine⟨⟨u.c genF,u.n,src,pat',xs,ys,zs,ws,w⟩,u,qbl ρ cs,σ7,⟨u1,u2,u3,rfl,rfl,hpat,⟨x1,x2⟩,⟨y1,y2⟩,⟨z1,z2⟩,⟨w1,w2⟩,w3⟩,?_,t2,?_⟩
 ·have hcl:cs.length=23:=by rw[hcs]; simp[hS]
  have hcc:qad cs 0 23=some cs:=by unfold qad; rw[WE,Wl (by omega)]; simp[hcl]
  have hcn:qaI cs=none:=by rw[hcs,e1]; exact qmr
  have hco : ∀ v∈cs,V.one v=true:=fun v hv=>by
   rw[hcs] at hv
   rcases We.1 hv with hv|hv
   ·obtain⟨d,hd,rfl⟩:=Wm.1 hv
    exact hone d hd
   ·simp only[Wq,WD,or_false] at hv
    rcases hv with rfl|rfl|rfl|rfl|rfl|rfl|rfl
    ·exact qb2 o10
    ·exact qb2 (qaT (as:=[_]) o10)
    ·exact qb2 (qaT (as:=[_,_]) o10)
    ·exact qb2 (qaT (as:=[_,_,_]) o10)
    ·exact qb2 (qaT (as:=[_,_,_,_]) o10)
    ·exact qb2 (qaT (as:=[_,_,_,_,_]) o10)
    ·rfl
  have hco':=eq_true hco
  have hd23 : ∀ B:List V,B.length=23->B.drop 23=[]:=fun B h=>Yu (by omega)
  have hzl:zvs.length=23:=by rw[g4]; rfl
  have hzd:=hd23 zvs hzl
  have e40:kV []=qax:=rfl
  have e41:kS []=[]:=rfl
  have hkn : ¬ ks=[]:=fun h=>by rw[h] at k1; simp at k1
  have e42:kV ks = .own 1 40 1:=by unfold kV; rw[if_neg hkn,k1]
  have e43:kS ks=[.vec (ints ks)]:=by unfold kS; rw[if_neg hkn]
  rw[e40,e41,e42,e43] at k3
  simp only[Wp,Wu,Wk,WI,Int.ofNat_zero,z23] at k3 wl
  have g9:=qaN hz (.cells cs)
  simp only[z23] at r1 hσ1
  rw[<- hσ1,r2,r3,r4,r5] at r1
  have hrr:=fun f=>qde f ks
  have hzz : ∀ b:Int,qad cs 0 23=some cs:=fun _=>hcc
  clear o1 o2 o3 o4 o5 o6 o7 o8 o9 o10 o11 o12 t5 h hσ1 hcs r2 r3 r4 r5
  generalize ints ks=X at *
  generalize hzs : σ6.set z (.cells cs) = σ8 at *
  refine qaD (pf:=F362) rfl rfl ?_
  rw[F362_t]
  simp -implicitDefEqProofs [k3,r1,F362_r6,wl,gl,g2,hcc,hcn,hco',hcl,hzl,hzd,hzs,g9,t1,hll,hrr,qdw,Wa,-finishV]
 ·rw[hpe] at t5
  exact t5
end
section
open F
set_option maxRecDepth 100000
attribute [local simp] V.len qai
def qgk(sz:Nat)(ls:List (List D))(l:Nat):V:=if ls.length=0 then qax else .gsl ls.flatten ls.length sz l
def qgl(sz:Nat)(ls:List (List D)):S:=if ls.length=0 then [] else [.tip (ls.length*sz)]
def qfi(sz:Nat)(ls:List (List D)):D:=if ls.length=0 then qcO else .sl ls.flatten ls.length false
theorem qcI{sz:Nat}{ls:List (List D)}(h : ∀ y∈ls,y.length=sz):RowD sz (qfi sz ls) ls:=by
 refine⟨h,?_⟩
 unfold qfi
 split
 ·rename_i h0; exact .inl ⟨rfl,List.length_eq_zero_iff.1 h0⟩
 ·exact .inr ⟨false,rfl⟩
theorem qw5:z23=[.int 0,qax,.int 0,.int 0,.int 0,.int 0,qax,qax,.int 0,.int 0,.int 0,.int 0,.int 0,.int 0,.int 0,.int 0,qax,qax,qax,qax,qax,qax,.int 0]:=rfl
section
variable{s:Scr}{r:Rws}{A G:List V}{x1 x2 x5 x6:D}{w:Int}
theorem qzq (hb:qad A 18 1=some [.dat r.lnk]) (hA:Dats A) (hr:RowD 4 r.lnk (s.lnk.map Lnk.c)) (hl:s.lnk.length<=100) (hG:Dats G) (h16:G.length=16) : ∀ (j i:Nat),i+j=s.lnk.length ->
  Z prX (.loop 0 F364l0 [(1,.ptr 0 0),(2,.ptr 1 0),(3,.ptr 2 0),(4,.int i)] ([.cells A,.cells z23,.cells (G++[.dat x1,.dat x2,qgk 4 ((s.lnk.take i).map Lnk.c) 3,qax,.dat x5,.dat x6,.int w])]++qgl 4 ((s.lnk.take i).map Lnk.c))) =
   some (.out (.exit 0) [(1,.ptr 0 0),(2,.ptr 1 0),(3,.ptr 2 0),(4,.int s.lnk.length),(25,.bool false)] ([.cells A,.cells z23,.cells (G++[.dat x1,.dat x2,qgk 4 (s.lnk.map Lnk.c) 3,qax,.dat x5,.dat x6,.int w])]++qgl 4 (s.lnk.map Lnk.c)))
 |0,i,e=>by
  obtain rfl:i=s.lnk.length:=by omega
  rw[Ys]
  have g:=hr.len
  have pre:=qa4 hG h16
  have pl:=pre.l
  have pr:=pre.r
  unfold qgk qgl
  rw[qw5]
  simp only[Wf] at g ⊢
  generalize (List.map Lnk.c s.lnk).flatten=X at *
  generalize s.lnk.length=n at *
  rw[qap]
  by_cases h0:n=0
  ·simp -implicitDefEqProofs [qao,qe6,h0,hA.l,hA.r,pl,pr,hb,g,Wa,-V.len]
  ·simp -implicitDefEqProofs [qao,qe6,h0,hA.l,hA.r,pl,pr,hb,g,Wa,-V.len]
 |j+1,i,e=>by
  have hi:i<s.lnk.length:=by omega
  obtain⟨x,hx⟩ : ∃ x,s.lnk[i]?=some x:=⟨s.lnk[i],Wy hi⟩
  have ih:=qzq hb hA hr hl hG h16 j (i+1) (by omega)
  rw[<- ih]
  have g:=hr.len
  have i1:=hr.at (i:=i) (by simpa using hi)
  have i2:=hr.cut (i:=i) (x:=x.c) (by simp[hx])
  have pre:=qa4 hG h16
  have pl:=pre.l
  have pr:=pre.r
  have q18:=fun B=>pre.c B 2 1
  have t18:=fun B=>pre.t B 2
  have d19:=fun B=>pre.d B 3
  simp only[show 16+2=18 from rfl,show 16+3=19 from rfl] at q18 t18 d19
  have ht:(s.lnk.take (i+1)).map Lnk.c=(s.lnk.take i).map Lnk.c++[x.c]:=by rw[List.take_add_one,hx]; simp
  have htl:((s.lnk.take i).map Lnk.c).length=i:=by simp; omega
  have hfl:((s.lnk.take i).map Lnk.c).flatten.length=i*4:=by rw[qbr (n:=4) (fun y hy=>by obtain⟨a,_,rfl⟩:=Wm.1 hy; rfl),htl]
  have p1:(i:Int)<s.lnk.length:=by omega
  have w1:IntKind.i64.wrap ((i:Int)+1)=((i+1:Nat):Int):=by rw[qay _ (by omega)]; omega
  have rf:qaA (i+1) 32=true:=by unfold qaA; exact decide_eq_true (by omega)
  have rf1:qaA 1 32=true:=rfl
  have hne : ¬ i+1=0:=by omega
  rw[ht]
  unfold qgk qgl
  rw[qw5]
  simp only[Wt,Ye,htl,List.flatten_append,WJ,List.flatten_nil,Wp,if_neg hne]
  simp only[Wf] at g
  clear ih
  simp only[Lnk.c,di] at i2 ⊢
  generalize (List.map Lnk.c (s.lnk.take i)).flatten=Xi at *
  generalize (List.map _ s.lnk).flatten=X at *
  generalize s.lnk.length=n at *
  generalize x.d=xd at *
  generalize x.j=xj at *
  generalize x.l=xl at *
  generalize x.p=xp at *
  by_cases h0:i=0
  ·have hX0:Xi=[]:=List.length_eq_zero_iff.1 (by omega)
   rw[if_pos h0,if_pos h0,hX0,Wk]
   rw[show i+1=1 by omega] at *
   generalize (i:Int)=i' at *
   conv=>lhs; rw[qap]
   simp -implicitDefEqProofs [qao,qe6,hA.l,hA.r,pl,pr,hb,g,p1,i1,i2,q18,t18,d19,h16,w1,rf1,qbs,qlj,Wa,-V.len,-qai]
   exact qaB (by simp[hA.l,hA.r,pl,pr,Wa])
  ·rw[if_neg h0,if_neg h0]
   generalize hi':i+1=i1' at *
   conv=>lhs; rw[qap]
   simp -implicitDefEqProofs [qao,qe6,hA.l,hA.r,pl,pr,hb,g,p1,i1,i2,q18,t18,d19,h16,w1,rf,hfl,hi',qbs,qlj,Wa,-V.len,-qai]
   exact qaB (by simp[hA.l,hA.r,pl,pr,Wa]; omega)
theorem qzr (hb:qad A 19 1=some [.dat r.com]) (hA:Dats A) (hr:RowD 5 r.com (s.com.map Cmd.c)) (hl:s.com.length<=100) (hG:Dats G) (h16:G.length=16) {L:List D} {nl:Nat} : ∀ (j i:Nat),i+j=s.com.length ->
  Z prX (.loop 0 F364l1 [(1,.ptr 0 0),(2,.ptr 1 0),(3,.ptr 2 0),(6,.int i)] ([.cells A,.cells z23,.cells (G++[.dat x1,.dat x2,.gsl L nl 4 3,qgk 5 ((s.com.take i).map Cmd.c) 4,.dat x5,.dat x6,.int w]),.tip (nl*4)]++qgl 5 ((s.com.take i).map Cmd.c))) =
   some (.out (.exit 2) [(1,.ptr 0 0),(2,.ptr 1 0),(3,.ptr 2 0),(6,.int s.com.length),(51,.bool false)] ([.cells A,.cells z23,.cells (G++[.dat x1,.dat x2,.gsl L nl 4 3,qgk 5 (s.com.map Cmd.c) 4,.dat x5,.dat x6,.int w]),.tip (nl*4)]++qgl 5 (s.com.map Cmd.c)))
 |0,i,e=>by
  obtain rfl:i=s.com.length:=by omega
  rw[Ys]
  have g:=hr.len
  have pre:=qa4 hG h16
  have pl:=pre.l
  have pr:=pre.r
  unfold qgk qgl
  rw[qw5]
  simp only[Wf] at g ⊢
  generalize (List.map Cmd.c s.com).flatten=X at *
  generalize s.com.length=n at *
  rw[qap]
  by_cases h0:n=0
  ·simp -implicitDefEqProofs [qao,qe7,h0,hA.l,hA.r,pl,pr,hb,g,Wa,-V.len]
  ·simp -implicitDefEqProofs [qao,qe7,h0,hA.l,hA.r,pl,pr,hb,g,Wa,-V.len]
 |j+1,i,e=>by
  have hi:i<s.com.length:=by omega
  obtain⟨x,hx⟩ : ∃ x,s.com[i]?=some x:=⟨s.com[i],Wy hi⟩
  have ih:=qzr (L:=L) (nl:=nl) hb hA hr hl hG h16 j (i+1) (by omega)
  rw[<- ih]
  have g:=hr.len
  have i1:=hr.at (i:=i) (by simpa using hi)
  have i2:=hr.cut (i:=i) (x:=x.c) (by simp[hx])
  have pre:=qa4 hG h16
  have pl:=pre.l
  have pr:=pre.r
  have q18:=fun B=>pre.c B 3 1
  have t18:=fun B=>pre.t B 3
  have d19:=fun B=>pre.d B 4
  simp only[show 16+3=19 from rfl,show 16+4=20 from rfl] at q18 t18 d19
  have ht:(s.com.take (i+1)).map Cmd.c=(s.com.take i).map Cmd.c++[x.c]:=by rw[List.take_add_one,hx]; simp
  have htl:((s.com.take i).map Cmd.c).length=i:=by simp; omega
  have hfl:((s.com.take i).map Cmd.c).flatten.length=i*5:=by rw[qbr (n:=5) (fun y hy=>by obtain⟨a,_,rfl⟩:=Wm.1 hy; rfl),htl]
  have p1:(i:Int)<s.com.length:=by omega
  have w1:IntKind.i64.wrap ((i:Int)+1)=((i+1:Nat):Int):=by rw[qay _ (by omega)]; omega
  have rf:qaA (i+1) 40=true:=by unfold qaA; exact decide_eq_true (by omega)
  have rf1:qaA 1 40=true:=rfl
  have hne : ¬ i+1=0:=by omega
  rw[ht]
  unfold qgk qgl
  rw[qw5]
  simp only[Wt,Ye,htl,List.flatten_append,WJ,List.flatten_nil,Wp,if_neg hne]
  simp only[Wf] at g
  clear ih
  simp only[Cmd.c,di] at i2 ⊢
  generalize (List.map Cmd.c (s.com.take i)).flatten=Xi at *
  generalize (List.map _ s.com).flatten=X at *
  generalize s.com.length=n at *
  generalize x.at_=xd at *
  generalize x.pl=xj at *
  generalize x.dx=xl at *
  generalize x.dy=xp at *
  generalize x.ac=xq at *
  by_cases h0:i=0
  ·have hX0:Xi=[]:=List.length_eq_zero_iff.1 (by omega)
   rw[if_pos h0,if_pos h0,hX0,Wk]
   rw[show i+1=1 by omega] at *
   generalize (i:Int)=i' at *
   conv=>lhs; rw[qap]
   simp -implicitDefEqProofs [qao,qe7,hA.l,hA.r,pl,pr,hb,g,p1,i1,i2,q18,t18,d19,h16,w1,rf1,qbs,qlj,Wa,-V.len,-qai]
   exact qaB (by simp[hA.l,hA.r,pl,pr,Wa])
  ·rw[if_neg h0,if_neg h0]
   generalize hi':i+1=i1' at *
   conv=>lhs; rw[qap]
   simp -implicitDefEqProofs [qao,qe7,hA.l,hA.r,pl,pr,hb,g,p1,i1,i2,q18,t18,d19,h16,w1,rf,hfl,hi',qbs,qlj,Wa,-V.len,-qai]
   exact qaB (by simp[hA.l,hA.r,pl,pr,Wa]; omega)
theorem qw6(h:s.Is r)(hl:1<=s.lnk.length) : ∃ r',s.Is r'/\Z prX (.call 364 [.dat (.agg (s.c r))] [])=some (.ret (.dat (.agg (s.c r'))) []):=by
 have hrd:=h.rd
 have hc4 : ∀ y∈s.lnk.map Lnk.c,y.length=4:=fun y hy=>by obtain⟨a,_,rfl⟩:=Wm.1 hy; rfl
 have hc5 : ∀ y∈s.com.map Cmd.c,y.length=5:=fun y hy=>by obtain⟨a,_,rfl⟩:=Wm.1 hy; rfl
 refine⟨{ r with lnk:=qfi 4 (s.lnk.map Lnk.c),com:=qfi 5 (s.com.map Cmd.c) },{ h with lnk:=qcI hc4,com:=qcI hc5 },?_⟩
 have hS16:qad ((s.c r).map V.dat) 0 16=some (s.S.map V.dat):=qcv V.dat (by
  rw[Scr.c,qbw (by rw[h.S16]; omega)]
  unfold qad
  rw[WE,Wl (by rw[h.S16]; omega)]
  simp[h.S16])
 have hal:=qaL s.S
 obtain⟨A,hA⟩ : ∃ A,A=(s.c r).map V.dat:=⟨_,rfl⟩
 rw[<- hA] at hrd hS16
 obtain⟨hd,hone,hlen,b0,b16,b17,b18,b19,b20,b21,b22⟩:=hrd
 have a1:=qzq (x1:=r.src) (x2:=r.pat) (x5:=r.cra) (x6:=r.wat) (w:=s.wait) (G:=s.S.map V.dat) b18 hd h.lnk h.l3 (qas _) (by simp[h.S16]) s.lnk.length 0 (by omega)
 have a2:=qzr (x1:=r.src) (x2:=r.pat) (x5:=r.cra) (x6:=r.wat) (w:=s.wait) (G:=s.S.map V.dat) (L:=(s.lnk.map Lnk.c).flatten) (nl:=s.lnk.length) b19 hd h.com h.l4 (qas _) (by simp[h.S16]) s.com.length 0 (by omega)
 have ho':=eq_true hone
 have hln : ¬ s.lnk.length=0:=by omega
 have e1:qgk 4 ([]:List (List D)) 3=qax:=rfl
 have e2:qgl 4 ([]:List (List D))=[]:=rfl
 have e3:qgk 5 ([]:List (List D)) 4=qax:=rfl
 have e4:qgl 5 ([]:List (List D))=[]:=rfl
 have e5:qgk 4 (s.lnk.map Lnk.c) 3 = .gsl (s.lnk.map Lnk.c).flatten s.lnk.length 4 3:=by unfold qgk; rw[if_neg (by simpa using hln),Wf]
 have e6:qgl 4 (s.lnk.map Lnk.c)=[.tip (s.lnk.length*4)]:=by unfold qgl; rw[if_neg (by simpa using hln),Wf]
 have e7:qfi 4 (s.lnk.map Lnk.c) = .sl (s.lnk.map Lnk.c).flatten s.lnk.length false:=by unfold qfi; rw[if_neg (by simpa using hln),Wf]
 rw[List.take_zero,Wr,e1,e2,e5,e6] at a1
 rw[List.take_zero,Wr,e3,e4] at a2
 simp only[Wp,Wu,Wk,WI,Int.ofNat_zero,qw5] at a1 a2
 have pre:=qa4 (qas s.S) (m:=16) (by simp[h.S16])
 have pl:=pre.l
 have pr:=pre.r
 have q23 : ∀ B:List V,B.length=7->qad (s.S.map V.dat++B) 0 23=some (s.S.map V.dat++B):=fun B hB=>by
  unfold qad
  rw[WE,Wl (by simp[h.S16,hB])]
  simp[h.S16,hB]
 have hSl:(s.S.map V.dat).length=16:=by simp[h.S16]
 have hSo : ∀ x∈s.S.map V.dat,V.one x=true:=fun v hv=>by
  obtain⟨d,hd,rfl⟩:=Wm.1 hv
  exact h.S1 d hd
 have o1:=h.src.one
 have o2:=h.pat.one
 have o5:=h.cra.one
 have o6:=h.wat.one
 have c1:=h.src.cells
 have c2:=h.pat.cells
 have c5:=h.cra.cells
 have c6:=h.wat.cells
 have t0 : ∀ B:List V,(s.S.map V.dat++B).drop 16=B:=fun B=>pre.d B 0
 have t17:=fun B=>pre.t B 1
 have d18:=fun B=>pre.d B 2
 have t20:=fun B=>pre.t B 4
 have d21:=fun B=>pre.d B 5
 have t21:=fun B=>pre.t B 5
 have d22:=fun B=>pre.d B 6
 have t22:=fun B=>pre.t B 6
 have d23:=fun B=>pre.d B 7
 have t16:=fun B=>pre.t B 0
 have d17:=fun B=>pre.d B 1
 simp only[show 16+0=16 from rfl,show 16+1=17 from rfl,show 16+2=18 from rfl,show 16+4=20 from rfl,show 16+5=21 from rfl,show 16+6=22 from rfl,show 16+7=23 from rfl] at t16 t17 d17 d18 t20 d21 t21 d22 t22 d23
 have hx:s.c r=s.c r:=rfl
 simp only[Scr.c,e7]
 simp only[Scr.c] at hA
 have hwr : ∀ (b:List V),True:=fun _=>trivial
 have g5:qfi 5 (s.com.map Cmd.c)=if s.com.length=0 then qcO else .sl (s.com.map Cmd.c).flatten s.com.length false:=by unfold qfi; rw[Wf]
 have g6:qgk 5 (s.com.map Cmd.c) 4=if s.com.length=0 then qax else .gsl (s.com.map Cmd.c).flatten s.com.length 5 4:=by unfold qgk; rw[Wf]
 have g7:qgl 5 (s.com.map Cmd.c)=if s.com.length=0 then [] else [.tip (s.com.length*5)]:=by unfold qgl; rw[Wf]
 rw[g6,g7] at a2
 rw[g5]
 have hA':=hA.symm
 have hap : ∀ ds:List D,qaI (s.S.map V.dat++ds.map V.dat)=some (s.S++ds):=fun ds=>by rw[<- List.map_append]; exact qaL _
 have hsl : ∀ B:List V,qdQ (s.S.map V.dat++B)=s.S.map V.dat++qdQ B:=fun B=>by
  have : ∀ ds:List D,qdQ (ds.map V.dat++B)=ds.map V.dat++qdQ B:=fun ds=>by
   induction ds with
   |nil=>rfl
   |cons d ds ih=>simp[qdQ,V.sealv,ih]
  exact this _
 have hA23:qad A 0 23=some A:=by unfold qad; rw[WE,Wl (by omega)]; simp[hlen]
 have hS1:=eq_true h.S1
 have hap2 : ∀ a b c d e f g:D,qaI (s.S.map V.dat++[.dat a,.dat b,.dat c,.dat d,.dat e,.dat f,.dat g])=some (s.S++[a,b,c,d,e,f,g]):=fun a b c d e f g=>hap [a,b,c,d,e,f,g]
 have hapn : ∀ B:List V,qaI B=none->qaI (s.S.map V.dat++B)=none:=fun B hB=>by
  have : ∀ ds:List D,qaI (ds.map V.dat++B)=none:=fun ds=>by
   induction ds with
   |nil=>exact hB
   |cons d ds ih=>simp[qaI,ih]
  exact this _
 have hapn1 : ∀ (a b e f g:D) (v:V) (X:List D) (m k p:Nat),qaI (s.S.map V.dat++[.dat a,.dat b,.gsl X m k p,v,.dat e,.dat f,.dat g])=none:=fun a b e f g v X m k p=>hapn _ rfl
 have hou : ∀ (σ : S) (B:List V),qiC false 0 σ (s.S.map V.dat++B)=(s.S.map V.dat++(qiC false 0 σ B).1,(qiC false 0 σ B).2):=fun σ B=>by
  have : ∀ ds:List D,qiC false 0 σ (ds.map V.dat++B)=(ds.map V.dat++(qiC false 0 σ B).1,(qiC false 0 σ B).2):=fun ds=>by
   induction ds with
   |nil=>rfl
   |cons d ds ih=>simp[qiC,outV,ih]
  exact this _
 generalize (s.lnk.map Lnk.c).flatten=L at *
 generalize (s.com.map Cmd.c).flatten=M at *
 generalize s.lnk.length=nl at *
 generalize s.com.length=nc at *
 clear e1 e2 e3 e4 e5 e6 e7 g5 g6 g7 hx hwr hc4 hc5
 refine qaD (pf:=F364) rfl rfl ?_
 by_cases hnc:nc=0
 ·rw[if_pos hnc,if_pos hnc] at a2
  rw[if_pos hnc]
  simp -implicitDefEqProofs [F364,hA',ho',hS16,hal,b16,b17,b20,b21,b22,qdw,q23,hSl,o1,o2,o5,o6,c1,c2,c5,c6,t0,t16,d17,t17,d18,t20,d21,t21,d22,t22,d23,a1,a2,hS1,hap2,hapn1,hou,hA23,pl,pr,hd.l,hd.r,Wa,-V.len,-qai]
 ·rw[if_neg hnc,if_neg hnc] at a2
  rw[if_neg hnc]
  simp -implicitDefEqProofs [F364,hA',ho',hS16,hal,b16,b17,b20,b21,b22,qdw,q23,hSl,o1,o2,o5,o6,c1,c2,c5,c6,t0,t16,d17,t17,d18,t20,d21,t21,d22,t22,d23,a1,a2,hS1,hap2,hapn1,hou,hA23,pl,pr,hd.l,hd.r,Wa,-V.len,-qai]
end
end
section
open F
set_option maxRecDepth 100000
attribute [local simp] V.len qai
theorem qzt(v lo hi:Int):Z prX (.call 388 [.int v,.int lo,.int hi] [])=some (.ret (.bool (decide (lo<=v/\v<=hi))) []):=by
 refine qaD (pf:=F388) rfl rfl ?_
 by_cases h1:lo<=v
 ·simp[F388,h1,Wa]
 ·simp[F388,h1,Wa]
theorem qst{v lo hi:Int}(h:lo<=v/\v<=hi):Z prX (.call 388 [.int v,.int lo,.int hi] [])=some (.ret (.bool true) []):=by
 rw[qzt,decide_eq_true h]
noncomputable def qy9(r:Option Res):Bool:=match r with
 |some (.ret (.dat (.lit (.bool true))) [])=>true
 |_=>false
theorem qiu{r:Option Res}(h:qy9 r=true):r=some (.ret (.bool true) []):=by
 unfold qy9 at h
 split at h
 ·rfl
 ·cases h
noncomputable def qxq:Bool:=(List.range 4).all fun t=>(List.range 5).all fun q=>qy9 (qkf prX (scL []) 300 (.call 386 [.dat (.agg (shC t q true))] []))
theorem qsu:qxq=true:=by kernel_rfl
theorem qu6{t q:Nat}(ht:t<4)(hq:q<5):Z prX (.call 386 [.dat (.agg (shC t q true))] [])=some (.ret (.bool true) []):=by
 have h:=qsu
 unfold qxq at h
 have h1:=Ws.1 (Ws.1 h t (by simpa using ht)) q (by simpa using hq)
 exact qin prX (sc:=scL []) (qr7 fun k hk=>by cases hk) 300 _ _ (qiu h1)
theorem qxr:Z prX (.call 387 [qnr (-12000) (-9000) 12000 9000] [])=some (.ret (.bool true) []):=byK 100 (qiu (by kernel_rfl))
theorem qxs:Z prX (.call 387 [qnr (-12000) (-9000) (-1) 9000] [])=some (.ret (.bool true) []):=byK 100 (qiu (by kernel_rfl))
theorem qxt:Z prX (.call 387 [qnr 0 0 12000 9000] [])=some (.ret (.bool true) []):=byK 100 (qiu (by kernel_rfl))
theorem qxu:Z prX (.call 387 [qnr 0 (-9000) 12000 (-1)] [])=some (.ret (.bool true) []):=byK 100 (qiu (by kernel_rfl))
theorem qu7{α : Type}{cs r:List α}{o n m:Nat}(h:qad cs o n=some r)(hm:m<=n):qad cs o m=some (r.take m):=by
 unfold qad at h ⊢
 simp only at h ⊢
 split at h
 ·rename_i hl
  have e:=Yz h
  rw[<- e,Yk,Nat.min_eq_left hm,if_pos (by simp at hl ⊢; omega)]
 ·cases h
section
variable{bs:List Bod}{cs:List V}
theorem qnS (hb : ∀ x∈bs,x.ok) (hl:bs.length<=5) (hd:Dats cs) (h1:qad cs 1 1=some [.dat (.sl (bs.map (Bod.c · true)).flatten bs.length false)]) : ∀ j k:Nat,k+j=bs.length ->
  Z prX (.loop 0 F365l0 [(1,.ptr 0 0),(3,.int k)] [.cells cs])=some (.out (.exit 0) [(1,.ptr 0 0),(3,.int bs.length),(17,.bool false)] [.cells cs])
 |0,k,e=>by
  obtain rfl:k=bs.length:=by omega
  generalize (bs.map (Bod.c · true)).flatten=X at *
  rw[qap]
  simp[qao,qiU,h1,hd.l,hd.r,Wa]
 |j+1,k,e=>by
  have ih:=qnS hb hl hd h1 j (k+1) (by omega)
  have hk:k<bs.length:=by omega
  obtain⟨x,hx⟩ : ∃ x,bs[k]?=some x:=⟨bs[k],by simp[hk]⟩
  have hxo:=hb x (Wv hx)
  have z:=qu6 hxo.t hxo.q
  have c1:=qgj (f:=true) hx
  have c2:qad (bs.map (Bod.c · true)).flatten (k*9) 2=some (shC x.t x.q true):=qu7 c1 (by omega)
  have h2:(k:Int)<bs.length:=by omega
  have w1:IntKind.i64.wrap ((k:Int)+1)=((k+1:Nat):Int):=by rw[qay _ (by omega)]; omega
  rw[<- ih]
  generalize (bs.map (Bod.c · true)).flatten=X at *
  generalize bs.length=n at *
  generalize shC x.t x.q true=P at *
  generalize k+1=k' at *
  conv=>lhs; rw[qap]
  simp -implicitDefEqProofs [qao,qiU,h1,hd.l,hd.r,Wa,h2,hk,c2,z,w1]
theorem qq4 (hb : ∀ x∈bs,x.ok) (hl:bs.length<=5) (hd:Dats cs) (h1:qad cs 1 1=some [.dat (.sl (bs.map (Bod.c · true)).flatten bs.length false)]) (b2:qad cs 2 1=some [.int (-12000)]) (b3:qad cs 3 1=some [.int (-9000)]) (b4:qad cs 4 1=some [.int 12000]) (b5:qad cs 5 1=some [.int 9000]) : ∀ j k:Nat,k+j=bs.length ->
  Z prX (.loop 0 F365l1 [(1,.ptr 0 0),(6,.int k)] [.cells cs])=some (.out (.exit 2) [(1,.ptr 0 0),(6,.int bs.length),(72,.bool false)] [.cells cs])
 |0,k,e=>by
  obtain rfl:k=bs.length:=by omega
  generalize (bs.map (Bod.c · true)).flatten=X at *
  rw[qap]
  simp[qao,qiV,h1,hd.l,hd.r,Wa]
 |j+1,k,e=>by
  have ih:=qq4 hb hl hd h1 b2 b3 b4 b5 j (k+1) (by omega)
  have hk:k<bs.length:=by omega
  obtain⟨x,hx⟩ : ∃ x,bs[k]?=some x:=⟨bs[k],by simp[hk]⟩
  have hxo:=hb x (Wv hx)
  have c1:=qgj (f:=true) hx
  have q1:=qst hxo.im
  have q2:=qst hxo.vx
  have q3:=qst hxo.vy
  have q4:=qst hxo.px
  have q5:=qst hxo.py
  have q6:=qst hxo.a
  have q7:=qst hxo.b
  have so:=qdx x.t x.q true
  have h2:(k:Int)<bs.length:=by omega
  have w1:IntKind.i64.wrap ((k:Int)+1)=((k+1:Nat):Int):=by rw[qay _ (by omega)]; omega
  rw[<- ih]
  clear ih
  obtain⟨B,hB⟩ : ∃ B,B=x.c true:=⟨_,rfl⟩
  obtain⟨M,hM⟩ : ∃ M,M=[di x.px,di x.py,di x.vx,di x.vy,di x.im]:=⟨_,rfl⟩
  have m1:qad (B.map V.dat) 2 5=some (M.map V.dat):=by rw[hB,hM]; rfl
  have m2:qaI (M.map V.dat)=some M:=qaL _
  have m3:(B.map V.dat).length=9:=by rw[hB]; rfl
  have m4:(M.map V.dat).length=5:=by rw[hM]; rfl
  have m5 : ∀ d∈B,V.one (.dat d)=true:=fun d hd=>by
   rw[hB] at hd
   simp only[Bod.c,Wq,WD,or_false] at hd
   rcases hd with rfl|rfl|rfl|rfl|rfl|rfl|rfl|rfl|rfl<;>first|rfl|exact so
  have m6 : ∀ d∈M,V.one (.dat d)=true:=fun d hd=>by
   rw[hM] at hd
   simp only[Wq,WD,or_false] at hd
   rcases hd with rfl|rfl|rfl|rfl|rfl<;>rfl
  have n0:qad (M.map V.dat) 0 1=some [.int x.px]:=by rw[hM]; rfl
  have n1:qad (M.map V.dat) 1 1=some [.int x.py]:=by rw[hM]; rfl
  have n2:qad (M.map V.dat) 2 1=some [.int x.vx]:=by rw[hM]; rfl
  have n3:qad (M.map V.dat) 3 1=some [.int x.vy]:=by rw[hM]; rfl
  have n4:qad (M.map V.dat) 4 1=some [.int x.im]:=by rw[hM]; rfl
  have n7:qad (B.map V.dat) 7 1=some [.int x.a]:=by rw[hB]; rfl
  have n8:qad (B.map V.dat) 8 1=some [.int x.b]:=by rw[hB]; rfl
  have dB:=qas B
  have dM:=qas M
  have hv : ∀ {B:List D},(∀ d∈B,V.one (.dat d)=true) -> ∀ v∈B.map V.dat,V.one v=true:=fun h v hv=>by
   obtain⟨d,hd,rfl⟩:=Wm.1 hv
   exact h d hd
  have m5':=eq_true (hv m5)
  have m6':=eq_true (hv m6)
  have l5 : ∀ Y:List V,Y.length=5->Y.take 5=Y:=fun Y h=>Wl (by omega)
  have mB:B.length=9:=by simpa using m3
  have mM:M.length=5:=by simpa using m4
  have dd : ∀ {v lo hi:Int} (σ : S),(lo<=v/\v<=hi)->qaE (Z prX) (Task.call 388) [.int v,.int lo,.int hi] σ = some (.bool true,σ):=fun {v lo hi} σ h=>qbz (C:=Z prX) (mk:=Task.call 388) (ds:=[di v,di lo,di hi]) (qst h)
  have e1:=fun σ => dd σ hxo.im
  have e2:=fun σ => dd σ hxo.vx
  have e3:=fun σ => dd σ hxo.vy
  have e4:=fun σ => dd σ hxo.px
  have e5:=fun σ => dd σ hxo.py
  have e6:=fun σ => dd σ hxo.a
  have e7:=fun σ => dd σ hxo.b
  rw[<- hB] at c1
  clear dd q1 q2 q3 q4 q5 q6 q7 so hM hB hxo
  generalize (List.map _ bs).flatten=X at *
  generalize bs.length=n at *
  generalize k+1=k' at *
  generalize x.px=px at *
  generalize x.py=py at *
  generalize x.vx=vx at *
  generalize x.vy=vy at *
  generalize x.im=im at *
  generalize x.a=xa at *
  generalize x.b=xb at *
  generalize hMV:M.map V.dat=MV at *
  generalize hBV:B.map V.dat=BV at *
  conv=>lhs; rw[qap]
  simp -implicitDefEqProofs [qao,qiV,h1,b2,b3,b4,b5,hd.l,hd.r,Wa,h2,hk,c1,m1,m2,m3,m4,m5',m6',n0,n1,n2,n3,n4,n7,n8,dB.l,dB.r,dM.l,dM.r,e1,e2,e3,e4,e5,e6,e7,mB,mM,hMV,hBV,w1,-qaE]
  exact qaB (by simp[hd.l,hd.r,dB.l,dB.r,dM.l,dM.r,Wa])
theorem qu8(hd:Dats cs)(b6:qad cs 6 1=some [.dat (.sl roomC 3 true)]):Z prX (.loop 0 F365l2 [(1,.ptr 0 0),(9,.int 0)] [.cells cs])=some (.out (.exit 4) [(1,.ptr 0 0),(9,.int 3),(138,.bool false)] [.cells cs]):=by
 have hroom:roomC=[di (-12000),di (-9000),di (-1),di 9000,di 0,di 0,di 12000,di 9000,di 0,di (-9000),di 12000,di (-1)]:=rfl
 have r1:=qxs
 have r2:=qxt
 have r3:=qxu
 have k1:IntKind.i64.wrap 1=1:=qay _ (by omega)
 have k2:IntKind.i64.wrap 2=2:=qay _ (by omega)
 have k3:IntKind.i64.wrap 3=3:=qay _ (by omega)
 rw[hroom] at b6
 simp only[qnr,di] at *
 have z3:Z prX (.loop 0 F365l2 [(1,.ptr 0 0),(9,.int 3)] [.cells cs])=some (.out (.exit 4) [(1,.ptr 0 0),(9,.int 3),(138,.bool false)] [.cells cs]):=by
  rw[qap]; simp -implicitDefEqProofs [qao,qe8,b6,hd.l,hd.r,Wa]
 have z2:Z prX (.loop 0 F365l2 [(1,.ptr 0 0),(9,.int 2)] [.cells cs])=some (.out (.exit 4) [(1,.ptr 0 0),(9,.int 3),(138,.bool false)] [.cells cs]):=by
  rw[<- z3]; conv=>lhs; rw[qap]
  simp -implicitDefEqProofs [qao,qe8,b6,hd.l,hd.r,r3,k3,Wa]
 have z1:Z prX (.loop 0 F365l2 [(1,.ptr 0 0),(9,.int 1)] [.cells cs])=some (.out (.exit 4) [(1,.ptr 0 0),(9,.int 3),(138,.bool false)] [.cells cs]):=by
  rw[<- z2]; conv=>lhs; rw[qap]
  simp -implicitDefEqProofs [qao,qe8,b6,hd.l,hd.r,r2,k2,Wa]
 rw[<- z1]; conv=>lhs; rw[qap]
 simp -implicitDefEqProofs [qao,qe8,b6,hd.l,hd.r,r1,k1,Wa]
theorem qu9(hd:Dats cs)(b6:qad cs 6 1=some [.dat (.sl roomC 3 true)]){dr:Nat}(hdr:dr<3)(b7:qad cs 7 1=some [.dat (.sl (doorC dr) (doorN dr) true)]):Z prX (.loop 0 F365l3 [(1,.ptr 0 0),(11,.int 0)] [.cells cs])=some (.out (.exit 6) [(1,.ptr 0 0),(11,.int (doorN dr)),(153,.bool false)] [.cells cs]):=by
 have k1:IntKind.i64.wrap 1=1:=qay _ (by omega)
 have k2:IntKind.i64.wrap 2=2:=qay _ (by omega)
 obtain rfl|rfl|rfl:dr=0\/dr=1\/dr=2:=by omega
 ·simp only[doorC,doorN] at *
  rw[qap]; simp -implicitDefEqProofs [qao,qcX,b6,b7,hd.l,hd.r,Wa]
 ·simp only[doorC,doorN,di] at *
  have z1:Z prX (.loop 0 F365l3 [(1,.ptr 0 0),(11,.int 1)] [.cells cs])=some (.out (.exit 6) [(1,.ptr 0 0),(11,.int 1),(153,.bool false)] [.cells cs]):=by
   rw[qap]; simp -implicitDefEqProofs [qao,qcX,b6,b7,hd.l,hd.r,Wa]
  show _=some (Res.out (.exit 6) [(1,.ptr 0 0),(11,.int 1),(153,.bool false)] [.cells cs])
  rw[<- z1]; conv=>lhs; rw[qap]
  simp -implicitDefEqProofs [qao,qcX,b6,b7,hd.l,hd.r,k1,Wa]
  exact qaB (by simp[hd.l,hd.r,Wa])
 ·simp only[doorC,doorN,di] at *
  have z2:Z prX (.loop 0 F365l3 [(1,.ptr 0 0),(11,.int 2)] [.cells cs])=some (.out (.exit 6) [(1,.ptr 0 0),(11,.int 2),(153,.bool false)] [.cells cs]):=by
   rw[qap]; simp -implicitDefEqProofs [qao,qcX,b6,b7,hd.l,hd.r,Wa]
  have z1:Z prX (.loop 0 F365l3 [(1,.ptr 0 0),(11,.int 1)] [.cells cs])=some (.out (.exit 6) [(1,.ptr 0 0),(11,.int 2),(153,.bool false)] [.cells cs]):=by
   rw[<- z2]; conv=>lhs; rw[qap]
   simp -implicitDefEqProofs [qao,qcX,b6,b7,hd.l,hd.r,k2,Wa]
   exact qaB (by simp[hd.l,hd.r,Wa])
  show _=some (Res.out (.exit 6) [(1,.ptr 0 0),(11,.int 2),(153,.bool false)] [.cells cs])
  rw[<- z1]; conv=>lhs; rw[qap]
  simp -implicitDefEqProofs [qao,qcX,b6,b7,hd.l,hd.r,k1,Wa]
  exact qaB (by simp[hd.l,hd.r,Wa])
end
theorem qsv{u:Sup}(h:u.ok):Z prX (.call 365 [.dat (.agg (u.c genF))] [])=some (.ret (.int (qsq u.rnd)) []):=by
 have hdr:=h.dr
 have hn1:=h.n1
 have hn3:=h.n3
 have hb1:=h.b1
 have hb3:=h.b3
 obtain⟨cs,hcs⟩ : ∃ cs,cs=(u.c genF).map V.dat:=⟨_,rfl⟩
 have hd:Dats cs:=by rw[hcs]; exact qas _
 have b0:qad cs 0 1=some [.int u.n]:=by rw[hcs]; rfl
 have b1:qad cs 1 1=some [.dat (.sl (u.bs.map (Bod.c · true)).flatten u.bs.length false)]:=by rw[hcs]; rfl
 have b2:qad cs 2 1=some [.int (-12000)]:=by rw[hcs]; rfl
 have b2':qad cs 2 4=some [.int (-12000),.int (-9000),.int 12000,.int 9000]:=by rw[hcs]; rfl
 have b3:qad cs 3 1=some [.int (-9000)]:=by rw[hcs]; rfl
 have b4:qad cs 4 1=some [.int 12000]:=by rw[hcs]; rfl
 have b5:qad cs 5 1=some [.int 9000]:=by rw[hcs]; rfl
 have b6:qad cs 6 1=some [.dat (.sl roomC 3 true)]:=by rw[hcs]; rfl
 have b7:qad cs 7 1=some [.dat (.sl (doorC u.dr) (doorN u.dr) true)]:=by rw[hcs]; rfl
 have b8:qad cs 8 1=some [.int u.fog]:=by rw[hcs]; rfl
 have b9:qad cs 9 1=some [.int 0]:=by rw[hcs]; rfl
 have b10:qad cs 10 1=some [.int u.gy]:=by rw[hcs]; rfl
 have b11:qad cs 11 1=some [.int u.push]:=by rw[hcs]; rfl
 have b12:qad cs 12 1=some [.int u.drag]:=by rw[hcs]; rfl
 have b13:qad cs 13 1=some [.int u.rest]:=by rw[hcs]; rfl
 have b14:qad cs 14 1=some [.int u.rnd]:=by rw[hcs]; rfl
 have b15:qad cs 15 1=some [.int 20]:=by rw[hcs]; rfl
 have l0:=qnS h.bs h.b3 hd b1 u.bs.length 0 (by omega)
 have l1:=qq4 h.bs h.b3 hd b1 b2 b3 b4 b5 u.bs.length 0 (by omega)
 have l2:=qu8 hd b6
 have l3:=qu9 hd b6 hdr b7
 have ho : ∀ v∈cs,V.one v=true:=fun v hv=>by
  rw[hcs] at hv
  simp only[Sup.c,Wi,Wr,Wq,WD,or_false] at hv
  rcases hv with rfl|rfl|rfl|rfl|rfl|rfl|rfl|rfl|rfl|rfl|rfl|rfl|rfl|rfl|rfl|rfl<;>rfl
 have ho':=eq_true ho
 have dd : ∀ {v lo hi:Int} (σ : S),(lo<=v/\v<=hi)->qaE (Z prX) (Task.call 388) [.int v,.int lo,.int hi] σ = some (.bool true,σ):=fun {v lo hi} σ h=>qbz (C:=Z prX) (mk:=Task.call 388) (ds:=[di v,di lo,di hi]) (qst h)
 have e1:=fun σ => dd σ h.fog
 have e2 : ∀ σ,qaE (Z prX) (Task.call 388) [.int 0,.int (-16384),.int 16384] σ = some (.bool true,σ):=fun σ => dd σ (by omega)
 have e3:=fun σ => dd σ h.gy
 have e4:=fun σ => dd σ h.push
 have e5:=fun σ => dd σ h.drag
 have e6:=fun σ => dd σ h.rest
 have e7 : ∀ σ,qaE (Z prX) (Task.call 388) [.int 20,.int 0,.int 1000] σ = some (.bool true,σ):=fun σ => dd σ (by omega)
 have e8 : ∀ σ,qaE (Z prX) (Task.call 388) [.int u.rnd,.int 1,.int 4] σ = some (.bool (decide (1<=u.rnd/\u.rnd<=4)),σ):=fun σ => qbz (C:=Z prX) (mk:=Task.call 388) (ds:=[di u.rnd,di 1,di 4]) (qzt _ _ _)
 have e9 : ∀ σ,qaE (Z prX) (Task.call 387) [qnr (-12000) (-9000) 12000 9000] σ = some (.bool true,σ):=fun σ => qbz (C:=Z prX) (mk:=Task.call 387) (ds:=[.agg [di (-12000),di (-9000),di 12000,di 9000]]) qxr
 have p1 : ¬ (u.n:Int)<1:=by omega
 have p2 : ¬ (8:Int)<u.n:=by omega
 have p3 : ¬ (u.bs.length:Int)<u.n:=by omega
 have p4 : ¬ (24:Int)<u.bs.length:=by omega
 have p5 : ¬ (16:Int)<doorN u.dr:=by
  obtain e|e|e:u.dr=0\/u.dr=1\/u.dr=2:=by omega
  all_goals rw[e]; decide
 simp only[WI,Int.ofNat_zero,qnr,di] at l0 l1 e9
 rw[qsq]
 clear dd ho h hn1 hn3 hb1 hb3 hdr
 generalize hG:u.c genF=G at *
 generalize (u.bs.map (Bod.c · true)).flatten=C at *
 generalize u.bs.length=N at *
 generalize doorC u.dr=R at *
 generalize doorN u.dr=M at *
 generalize u.n=n at *
 generalize u.fog=fog at *
 generalize u.gy=gy at *
 generalize u.push=pu at *
 generalize u.drag=dg at *
 generalize u.rest=rs at *
 generalize u.rnd=rd at *
 generalize roomC=Y at *
 refine qaD (pf:=F365) rfl rfl ?_
 by_cases hr:1<=rd/\rd<=4
 ·rw[if_pos hr]
  simp only[hr,decide_true,and_self] at e8
  simp -implicitDefEqProofs [F365,<- hcs,ho',b0,b1,b2,b2',b6,b7,b8,b9,b10,b11,b12,b13,b14,b15,l0,l1,l2,l3,e1,e2,e3,e4,e5,e6,e7,e8,e9,p1,p2,p3,p4,p5,hd.l,hd.r,Wa,-qaE]
 ·rw[if_neg hr]
  simp only[hr,decide_false] at e8
  simp -implicitDefEqProofs [F365,<- hcs,ho',b0,b1,b2,b2',b6,b7,b8,b9,b10,b11,b12,b13,b14,b15,l0,l1,l2,l3,e1,e2,e3,e4,e5,e6,e7,e8,e9,p1,p2,p3,p4,p5,hd.l,hd.r,Wa,-qaE]
end
section
open F
set_option maxRecDepth 100000
attribute [local simp] V.len qai
theorem qqp(n:Int):Z prX (.call 392 [.int n] [])=some (.ret (.bool (qd3 n)) []):=by
 refine qaD (pf:=F392) rfl rfl ?_
 unfold qd3
 by_cases h1:n=0
 ·subst h1; simp[F392,Wa]
 ·by_cases h2:2<=n
  ·by_cases h3:n<=1000
   ·simp[F392,h1,h2,h3,Wa]
   ·simp[F392,h1,h2,h3,Wa]
  ·simp[F392,h1,h2,Wa]
theorem qse(dx dy ac:Int):Z prX (.call 393 [.dat (.agg [di dx,di dy,di ac])] [])=some (.ret (.int (if qg4 dx dy ac then 0 else 1)) []):=by
 refine qaD (pf:=F393) rfl rfl ?_
 unfold qg4
 by_cases h1:dx < -1
 ·have : ¬ -1<=dx:=by omega
  simp[F393,di,h1,this,Wa]
 by_cases h2:1<dx
 ·have : ¬ dx<=1:=by omega
  simp[F393,di,h1,h2,this,Wa]
 by_cases h3:dy < -1
 ·have : ¬ -1<=dy:=by omega
  simp[F393,di,h1,h2,h3,this,Wa]
 by_cases h4:1<dy
 ·have : ¬ dy<=1:=by omega
  simp[F393,di,h1,h2,h3,h4,this,Wa]
 by_cases h5:ac<0
 ·have : ¬ 0<=ac:=by omega
  simp[F393,di,h1,h2,h3,h4,h5,this,Wa]
 by_cases h6:3<ac
 ·have : ¬ ac<=3:=by omega
  simp[F393,di,h1,h2,h3,h4,h5,h6,this,Wa]
 have:(-1<=dx/\dx<=1)/\(-1<=dy/\dy<=1)/\(0<=ac/\ac<=3):=by omega
 rw[decide_eq_true this,if_pos rfl]
 simp[F393,di,h1,h2,h3,h4,h5,h6,Wa]
section
variable{cs:List V}{n:Nat}{d:D}
theorem qns (hd:Dats cs) (b18:qad cs 18 1=some [.dat d]) {ls:List Lnk} (hr:RowD 4 d (ls.map Lnk.c)) (hl:ls.length<=1000) : ∀ j k:Nat,k+j=ls.length ->
  ((ls.drop k).all Lnk.ok=true/\Z prX (.loop 0 F367l0 [(1,.ptr 0 0),(3,.int n),(4,.int k)] [.cells cs]) =
    some (.out (.exit 0) [(1,.ptr 0 0),(3,.int n),(4,.int ls.length),(42,.bool false)] [.cells cs])) \/
  ((ls.drop k).all Lnk.ok=false /\ ∃ q,Dats q/\Z prX (.loop 0 F367l0 [(1,.ptr 0 0),(3,.int n),(4,.int k)] [.cells cs])=some (.out .ret [(2,.bool false)] [.cells cs,.cells q]))
 |0,k,e=>by
  have g0:=hr.len
  rw[Wf] at g0
  have ho:=eq_true hr.one
  obtain rfl:k=ls.length:=by omega
  left
  refine⟨by simp,?_⟩
  rw[qap]
  simp[qao,qb7,hd.l,hd.r,Wa,b18,g0,ho,-qai,-V.len]
 |j+1,k,e=>by
  have g0:=hr.len
  rw[Wf] at g0
  have ho:=eq_true hr.one
  have hk:k<ls.length:=by omega
  obtain⟨x,hx⟩ : ∃ x,ls[k]?=some x:=⟨ls[k],by simp[hk]⟩
  have hdr:ls.drop k=x::ls.drop (k+1):=by
   rw[W5 hk]
   congr 1
   exact (Wb.1 hx).2
  have c0:=hr.at (i:=k) (by simpa using hk)
  have c1:=hr.cut (i:=k) (x:=x.c) (by simp[hx])
  have h2:(k:Int)<ls.length:=by omega
  have w1:IntKind.i64.wrap ((k:Int)+1)=((k+1:Nat):Int):=by rw[qay _ (by omega)]; omega
  have p1:=qqp x.l
  have p2:=qqp x.p
  rw[hdr]
  by_cases hx0:x.ok=true
  ·have ih:=qns hd b18 hr hl j (k+1) (by omega)
   have hx1:=hx0
   simp only[Lnk.ok,Wh,decide_eq_true_eq] at hx1
   obtain⟨⟨⟨e1,e2⟩,e3,e4⟩,e5,e6⟩:=hx1
   rw[e5] at p1; rw[e6] at p2
   have n1 : ¬ x.d<0:=by omega
   have n2 : ¬ 20<x.d:=by omega
   have n3 : ¬ x.j<0:=by omega
   have n4 : ¬ 10<x.j:=by omega
   rw[WQ,hx0,Bool.true_and]
   refine (?_:Z prX _=Z prX _) ▸ ih
   clear ih hdr
   simp only[Lnk.c,di] at *
   generalize (List.map _ ls).flatten=X at *
   generalize ls.length=m at *
   generalize x.d=xd at *
   generalize x.j=xj at *
   generalize x.l=xl at *
   generalize x.p=xp at *
   generalize k+1=k' at *
   symm
   conv=>lhs; rw[qap]
   simp -implicitDefEqProofs [qao,qb7,hd.l,hd.r,Wa,b18,g0,ho,h2,c0,c1,w1,p1,p2,n1,n2,n3,n4,-qai,-V.len]
   exact qaB (by simp[hd.l,hd.r,Wa,b18,g0,ho,-qai,-V.len])
  ·right
   have hx2:x.ok=false:=by simpa using hx0
   refine⟨by rw[WQ,hx2]; rfl,[.int x.d,.int x.j,.int x.l,.int x.p],qas (x.c),?_⟩
   have hx1:x.d<0\/20<x.d\/x.j<0\/10<x.j\/qd3 x.l=false\/qd3 x.p=false:=by
    by_cases q5:qd3 x.l=false
    ·simp[q5]
    by_cases q6:qd3 x.p=false
    ·simp[q6]
    simp only[Bool.not_eq_false] at q5 q6
    simp only[Lnk.ok,q5,q6,Bool.and_self,Bool.and_true,decide_eq_true_eq] at hx0
    omega
   clear hdr
   simp only[Lnk.c,di] at *
   generalize (List.map _ ls).flatten=X at *
   generalize ls.length=m at *
   generalize x.d=xd at *
   generalize x.j=xj at *
   generalize x.l=xl at *
   generalize x.p=xp at *
   rw[qap]
   by_cases n1:xd<0
   ·simp -implicitDefEqProofs [qao,qb7,hd.l,hd.r,Wa,b18,g0,ho,h2,c0,c1,n1,-qai,-V.len]
   by_cases n2:20<xd
   ·simp -implicitDefEqProofs [qao,qb7,hd.l,hd.r,Wa,b18,g0,ho,h2,c0,c1,n1,n2,-qai,-V.len]
   by_cases n3:xj<0
   ·simp -implicitDefEqProofs [qao,qb7,hd.l,hd.r,Wa,b18,g0,ho,h2,c0,c1,n1,n2,n3,-qai,-V.len]
   by_cases n4:10<xj
   ·simp -implicitDefEqProofs [qao,qb7,hd.l,hd.r,Wa,b18,g0,ho,h2,c0,c1,n1,n2,n3,n4,-qai,-V.len]
   by_cases n5:qd3 xl=false
   ·rw[n5] at p1
    simp -implicitDefEqProofs [qao,qb7,hd.l,hd.r,Wa,b18,g0,ho,h2,c0,c1,n1,n2,n3,n4,p1,-qai,-V.len]
   ·have n6:qd3 xp=false:=by simp[n1,n2,n3,n4,n5] at hx1; exact hx1
    simp only[Bool.not_eq_false] at n5
    rw[n5] at p1; rw[n6] at p2
    simp -implicitDefEqProofs [qao,qb7,hd.l,hd.r,Wa,b18,g0,ho,h2,c0,c1,n1,n2,n3,n4,p1,p2,-qai,-V.len]
theorem qqq (hd:Dats cs) (b19:qad cs 19 1=some [.dat d]) {ls:List Cmd} (hr:RowD 5 d (ls.map Cmd.c)) (hl:ls.length<=1000) : ∀ j k:Nat,k+j=ls.length ->
  ((ls.drop k).all (Cmd.ok n)=true/\Z prX (.loop 0 F367l1 [(1,.ptr 0 0),(3,.int n),(6,.int k)] [.cells cs]) =
    some (.out (.exit 2) [(1,.ptr 0 0),(3,.int n),(6,.int ls.length),(84,.bool false)] [.cells cs])) \/
  ((ls.drop k).all (Cmd.ok n)=false /\ ∃ q,Dats q/\Z prX (.loop 0 F367l1 [(1,.ptr 0 0),(3,.int n),(6,.int k)] [.cells cs])=some (.out .ret [(2,.bool false)] [.cells cs,.cells q]))
 |0,k,e=>by
  have g0:=hr.len
  rw[Wf] at g0
  have ho:=eq_true hr.one
  obtain rfl:k=ls.length:=by omega
  left
  refine⟨by simp,?_⟩
  rw[qap]
  simp[qao,qcY,hd.l,hd.r,Wa,b19,g0,ho,-qai,-V.len]
 |j+1,k,e=>by
  have g0:=hr.len
  rw[Wf] at g0
  have ho:=eq_true hr.one
  have hk:k<ls.length:=by omega
  obtain⟨x,hx⟩ : ∃ x,ls[k]?=some x:=⟨ls[k],by simp[hk]⟩
  have hdr:=qen hx
  have c0:=hr.at (i:=k) (by simpa using hk)
  have c1:=hr.cut (i:=k) (x:=x.c) (by simp[hx])
  have h2:(k:Int)<ls.length:=by omega
  have w1:IntKind.i64.wrap ((k:Int)+1)=((k+1:Nat):Int):=by rw[qay _ (by omega)]; omega
  have p2:=qse x.dx x.dy x.ac
  rw[hdr]
  by_cases hx0:x.ok n=true
  ·have ih:=qqq hd b19 hr hl j (k+1) (by omega)
   have hx1:=hx0
   simp only[Cmd.ok,Wh,decide_eq_true_eq] at hx1
   obtain⟨e1,e2,e3⟩:=hx1
   rw[e3] at p2
   have u1 : ¬ x.pl<0:=by unfold qfB at e2; simp at e2; omega
   have u2 : ¬ (n:Int)<=x.pl:=by unfold qfB at e2; simp at e2; omega
   have n1 : ¬ x.at_<0:=by omega
   rw[WQ,hx0,Bool.true_and]
   refine (?_:Z prX _=Z prX _) ▸ ih
   clear ih hdr
   simp only[Cmd.c,di] at *
   generalize (List.map _ ls).flatten=X at *
   generalize ls.length=m at *
   generalize x.at_=xa at *
   generalize x.pl=xp at *
   generalize x.dx=xx at *
   generalize x.dy=xy at *
   generalize x.ac=xc at *
   generalize k+1=k' at *
   symm
   conv=>lhs; rw[qap]
   simp -implicitDefEqProofs [qao,qcY,hd.l,hd.r,Wa,b19,g0,ho,h2,c0,c1,w1,u1,u2,p2,n1,-qai,-V.len]
   exact qaB (by simp[hd.l,hd.r,Wa,b19,g0,ho,-qai,-V.len])
  ·right
   have hx2:x.ok n=false:=by simpa using hx0
   refine⟨by rw[WQ,hx2]; rfl,[.int x.at_,.int x.pl,.int x.dx,.int x.dy,.int x.ac],qas (x.c),?_⟩
   have hx1:x.at_<0\/qfB n x.pl=false\/qg4 x.dx x.dy x.ac=false:=by
    by_cases q5:qfB n x.pl=false
    ·simp[q5]
    by_cases q6:qg4 x.dx x.dy x.ac=false
    ·simp[q6]
    simp only[Bool.not_eq_false] at q5 q6
    simp only[Cmd.ok,q5,q6,Bool.and_self,Bool.and_true,decide_eq_true_eq] at hx0
    omega
   clear hdr
   simp only[Cmd.c,di] at *
   generalize (List.map _ ls).flatten=X at *
   generalize ls.length=m at *
   generalize x.at_=xa at *
   generalize x.pl=xp at *
   generalize x.dx=xx at *
   generalize x.dy=xy at *
   generalize x.ac=xc at *
   rw[qap]
   by_cases n1:xa<0
   ·simp -implicitDefEqProofs [qao,qcY,hd.l,hd.r,Wa,b19,g0,ho,h2,c0,c1,n1,-qai,-V.len]
   by_cases u1:xp<0
   ·simp -implicitDefEqProofs [qao,qcY,hd.l,hd.r,Wa,b19,g0,ho,h2,c0,c1,n1,u1,-qai,-V.len]
   by_cases u2:(n:Int)<=xp
   ·simp -implicitDefEqProofs [qao,qcY,hd.l,hd.r,Wa,b19,g0,ho,h2,c0,c1,n1,u1,u2,-qai,-V.len]
   ·have n5:qfB n xp=true:=by unfold qfB; simp; omega
    have n6:qg4 xx xy xc=false:=by simp[n1,n5] at hx1; exact hx1
    rw[n6] at p2
    simp -implicitDefEqProofs [qao,qcY,hd.l,hd.r,Wa,b19,g0,ho,h2,c0,c1,n1,u1,u2,p2,-qai,-V.len]
theorem qnt (hd:Dats cs) (b20:qad cs 20 1=some [.dat d]) {ls:List Int} (hr:RowD 1 d (ls.map qbm)) (hl:ls.length<=1000) : ∀ j k:Nat,k+j=ls.length ->
  Z prX (.loop 0 F367l2 [(1,.ptr 0 0),(3,.int n),(8,.int k)] [.cells cs]) =
   if (ls.drop k).all (fun t=>decide (0<=t))=true then some (.out (.exit 4) [(1,.ptr 0 0),(3,.int n),(8,.int ls.length),(116,.bool false)] [.cells cs]) else some (.out .ret [(2,.bool false)] [.cells cs])
 |0,k,e=>by
  have g0:=hr.len
  rw[Wf] at g0
  have ho:=eq_true hr.one
  obtain rfl:k=ls.length:=by omega
  rw[if_pos (by simp),qap]
  simp[qao,qgA,hd.l,hd.r,Wa,b20,g0,ho,-qai,-V.len]
 |j+1,k,e=>by
  have g0:=hr.len
  rw[Wf] at g0
  have ho:=eq_true hr.one
  have hk:k<ls.length:=by omega
  obtain⟨x,hx⟩ : ∃ x,ls[k]?=some x:=⟨ls[k],by simp[hk]⟩
  have hdr:=qen hx
  have c0:=hr.at (i:=k) (by simpa using hk)
  have c1:=hr.cut (i:=k) (x:=qbm x) (by simp[hx])
  rw[Nat.mul_one] at c0 c1
  have h2:(k:Int)<ls.length:=by omega
  have w1:IntKind.i64.wrap ((k:Int)+1)=((k+1:Nat):Int):=by rw[qay _ (by omega)]; omega
  rw[hdr]
  by_cases hx0:x<0
  ·have : ¬ ((x::ls.drop (k+1)).all fun t=>decide (0<=t))=true:=by simp; intro h; omega
   rw[if_neg this]
   clear hdr this
   simp only[qbm,di] at *
   generalize (List.map _ ls).flatten=X at *
   generalize ls.length=m at *
   rw[qap]
   simp -implicitDefEqProofs [qao,qgA,hd.l,hd.r,Wa,b20,g0,ho,h2,c0,c1,hx0,-qai,-V.len]
  ·have ih:=qnt hd b20 hr hl j (k+1) (by omega)
   have:((x::ls.drop (k+1)).all fun t=>decide (0<=t))=(ls.drop (k+1)).all fun t=>decide (0<=t):=by
    rw[WQ,decide_eq_true (by omega),Bool.true_and]
   rw[this,<- ih]
   clear ih hdr this
   simp only[qbm,di] at *
   generalize (List.map _ ls).flatten=X at *
   generalize ls.length=m at *
   generalize k+1=k' at *
   conv=>lhs; rw[qap]
   simp -implicitDefEqProofs [qao,qgA,hd.l,hd.r,Wa,b20,g0,ho,h2,c0,c1,w1,hx0,-qai,-V.len]
theorem qnu (hd:Dats cs) (b21:qad cs 21 1=some [.dat d]) {ls:List Int} (hr:RowD 1 d (ls.map qbm)) (hl:ls.length<=1000) : ∀ j k:Nat,k+j=ls.length ->
  Z prX (.loop 0 F367l3 [(1,.ptr 0 0),(3,.int n),(9,.int k)] [.cells cs]) =
   if (ls.drop k).all (qfB n)=true then some (.out (.exit 6) [(1,.ptr 0 0),(3,.int n),(9,.int ls.length),(129,.bool false)] [.cells cs]) else some (.out .ret [(2,.bool false)] [.cells cs])
 |0,k,e=>by
  have g0:=hr.len
  rw[Wf] at g0
  have ho:=eq_true hr.one
  obtain rfl:k=ls.length:=by omega
  rw[if_pos (by simp),qap]
  simp[qao,qe9,hd.l,hd.r,Wa,b21,g0,ho,-qai,-V.len]
 |j+1,k,e=>by
  have g0:=hr.len
  rw[Wf] at g0
  have ho:=eq_true hr.one
  have hk:k<ls.length:=by omega
  obtain⟨x,hx⟩ : ∃ x,ls[k]?=some x:=⟨ls[k],by simp[hk]⟩
  have hdr:=qen hx
  have c0:=hr.at (i:=k) (by simpa using hk)
  have c1:=hr.cut (i:=k) (x:=qbm x) (by simp[hx])
  rw[Nat.mul_one] at c0 c1
  have h2:(k:Int)<ls.length:=by omega
  have w1:IntKind.i64.wrap ((k:Int)+1)=((k+1:Nat):Int):=by rw[qay _ (by omega)]; omega
  rw[hdr]
  cases hx0:qfB n x with
  |false=>
   have : ¬ ((x::ls.drop (k+1)).all (qfB n))=true:=by rw[WQ,hx0]; simp
   rw[if_neg this]
   clear hdr this
   simp only[qbm,di] at *
   generalize (List.map _ ls).flatten=X at *
   generalize ls.length=m at *
   by_cases u1:x<0
   ·rw[qap]
    simp -implicitDefEqProofs [qao,qe9,hd.l,hd.r,Wa,b21,g0,ho,h2,c0,c1,u1,-qai,-V.len]
   ·have u2:(n:Int)<=x:=by unfold qfB at hx0; simp at hx0; omega
    rw[qap]
    simp -implicitDefEqProofs [qao,qe9,hd.l,hd.r,Wa,b21,g0,ho,h2,c0,c1,u1,u2,-qai,-V.len]
  |true=>
   have ih:=qnu hd b21 hr hl j (k+1) (by omega)
   rw[WQ,hx0,Bool.true_and,<- ih]
   have u1 : ¬ x<0:=by unfold qfB at hx0; simp at hx0; omega
   have u2 : ¬ (n:Int)<=x:=by unfold qfB at hx0; simp at hx0; omega
   clear ih hdr
   simp only[qbm,di] at *
   generalize (List.map _ ls).flatten=X at *
   generalize ls.length=m at *
   generalize k+1=k' at *
   conv=>lhs; rw[qap]
   simp -implicitDefEqProofs [qao,qe9,hd.l,hd.r,Wa,b21,g0,ho,h2,c0,c1,w1,u1,u2,-qai,-V.len]
end
theorem quG{s:Scr}{r:Rws}(h:s.Is r):Z prX (.call 367 [.dat (.agg (s.c r))] [])=some (.ret (.bool (s.fits&&s.rng)) []):=by
 have hrd:=h.rd
 obtain⟨h1,h2,h3,h4,h5,h6,l1,l2,l3,l4,l5,l6,_,_,_⟩:=h
 generalize hcs:(s.c r).map V.dat=cs at hrd
 obtain⟨hd,ho,hlen,b0,b16,b17,b18,b19,b20,b21,b22⟩:=hrd
 have ho':=eq_true ho
 have a1:=qns (n:=s.n) hd b18 h3 (by omega) s.lnk.length 0 (by omega)
 have a2:=qqq (n:=s.n) hd b19 h4 (by omega) s.com.length 0 (by omega)
 have a3:=qnt (n:=s.n) hd b20 h5 (by omega) s.cra.length 0 (by omega)
 have a4:=qnu (n:=s.n) hd b21 h6 (by omega) s.wat.length 0 (by omega)
 rw[WE] at a1 a2 a3 a4
 simp only[WI,Int.ofNat_zero] at a1 a2 a3 a4
 have g1:=h1.len
 have g2:=h2.len
 have g3:=h3.len
 rw[Wf] at g2 g3
 have w1:IntKind.i64.wrap ((s.pat.length:Int)+1)=((s.pat.length+1:Nat):Int):=by rw[qay _ (by omega)]; omega
 refine qaD (pf:=F367) rfl rfl ?_
 unfold Scr.fits Scr.rng
 generalize s.c r=C at *
 by_cases e1:s.src.length=s.pat.length+1
 case neg=>
  have e1' : ¬ (s.src.length:Int)=((s.pat.length+1:Nat):Int):=by omega
  have ed:decide (s.src.length=s.pat.length+1/\s.lnk.length=s.n)=false:=by simp[e1]
  rw[ed,Bool.false_and]
  clear ed a1 a2 a3 a4
  generalize s.pat.length+1=m at *
  simp -implicitDefEqProofs [F367,hcs,ho',b0,b16,b17,b18,b22,g1,g2,g3,w1,e1',e1,hd.l,hd.r,Wa,-qai,-V.len]
 rw[e1] at g1
 by_cases e2:s.lnk.length=s.n
 case neg=>
  have e2' : ¬ (s.lnk.length:Int)=s.n:=by omega
  have ed:decide (s.src.length=s.pat.length+1/\s.lnk.length=s.n)=false:=by simp[e2]
  rw[ed,Bool.false_and]
  clear ed a1 a2 a3 a4
  generalize s.pat.length+1=m at *
  simp -implicitDefEqProofs [F367,hcs,ho',b0,b16,b17,b18,b22,g1,g2,g3,w1,e1,e2,e2',hd.l,hd.r,Wa,-qai,-V.len]
 have ed:decide (s.src.length=s.pat.length+1/\s.lnk.length=s.n)=true:=by simp[e1,e2]
 rw[ed,Bool.true_and]
 clear ed
 rw[e2] at g3 a1
 generalize s.pat.length+1=m at *
 by_cases w2:s.wait<0
 ·have ed:decide (0<=s.wait/\s.wait<=8)=false:=decide_eq_false (by omega)
  rw[ed]
  clear ed a1 a2 a3 a4
  simp -implicitDefEqProofs [F367,hcs,ho',b0,b16,b17,b18,b22,g1,g2,g3,w1,w2,hd.l,hd.r,Wa,-qai,-V.len]
 by_cases w3:8<s.wait
 ·have ed:decide (0<=s.wait/\s.wait<=8)=false:=decide_eq_false (by omega)
  rw[ed]
  clear ed a1 a2 a3 a4
  simp -implicitDefEqProofs [F367,hcs,ho',b0,b16,b17,b18,b22,g1,g2,g3,w1,w2,w3,hd.l,hd.r,Wa,-qai,-V.len]
 have ed:decide (0<=s.wait/\s.wait<=8)=true:=decide_eq_true (by omega)
 rw[ed]
 clear ed
 generalize s.com.length=m2 at *
 generalize s.cra.length=m3 at *
 generalize s.wat.length=m4 at *
 rcases a1 with ⟨q1,a1⟩|⟨q1,z1,y1,a1⟩
 case inr=>
  rw[q1]
  clear a2 a3 a4
  simp -implicitDefEqProofs [F367,hcs,ho',b0,b16,b17,b18,b22,g1,g2,g3,w1,w2,w3,a1,y1.l,y1.r,hd.l,hd.r,Wa,-qai,-V.len]
 rw[q1,Bool.true_and]
 rcases a2 with ⟨q2,a2⟩|⟨q2,z2,y2,a2⟩
 case inr=>
  rw[q2]
  clear a3 a4
  simp -implicitDefEqProofs [F367,hcs,ho',b0,b16,b17,b18,b22,g1,g2,g3,w1,w2,w3,a1,a2,y2.l,y2.r,hd.l,hd.r,Wa,-qai,-V.len]
 rw[q2,Bool.true_and]
 cases q3:s.cra.all (fun t=>decide (0<=t)) with
 |false=>
  rw[if_neg (by rw[q3]; simp)] at a3
  clear a4
  simp -implicitDefEqProofs [F367,hcs,ho',b0,b16,b17,b18,b22,g1,g2,g3,w1,w2,w3,a1,a2,a3,hd.l,hd.r,Wa,-qai,-V.len]
 |true=>
  rw[if_pos q3] at a3
  rw[Bool.true_and]
  cases q4:s.wat.all (qfB s.n) with
  |false=>
   rw[if_neg (by rw[q4]; simp)] at a4
   simp -implicitDefEqProofs [F367,hcs,ho',b0,b16,b17,b18,b22,g1,g2,g3,w1,w2,w3,a1,a2,a3,a4,hd.l,hd.r,Wa,-qai,-V.len]
  |true=>
   rw[if_pos q4] at a4
   simp -implicitDefEqProofs [F367,hcs,ho',b0,b16,b17,b18,b22,g1,g2,g3,w1,w2,w3,a1,a2,a3,a4,hd.l,hd.r,Wa,-qai,-V.len]
end
end Go.Pm
