/- Chapter 17: Root of a book. Chapter 17: Clone of a program's code; Same of a program and itself. Chapter 17: the reference's book. Chapter 17: what the reference builds of the sources that the laws build. Chapter 17's laws over the whole table. Chapter 17's law PatchLimit. Chapter 17: the calls of Add that the laws make. Chapter 17: Add of a source that the laws build, on both sides. Chapter 17: a book after the laws' calls of Add. Chapter 17: the hashes of the laws' versions; ticks increase. Chapter 17: the contracts of the laws' books, joined. Chapter 17: the rounds of PatchModel's second loop. Chapter 17: SameInts of a row and itself. Chapter 17: PatchModel's second loop. -/
import Derived.Test.YtpakkndfjpimgaaGreatDoorPmTb17z
import Derived.KernelRfl
import Derived.Test.YtpakkndfjpimgaaGreatDoorPmF5r
import Derived.Test.YtpakkndfjpimgaaGreatDoorPmY
set_option linter.unusedSimpArgs false
set_option linter.unusedVariables false
section SZj
namespace Go.Pm
open F
set_option maxHeartbeats 4000000
def wdB (H:Vr->Int) (L:List Vr):List Int:=L.flatMap fun v=>[v.t,IntKind.i64.wrap (H v)]
theorem qfv (H:Vr->Int) : ∀ L:List Vr,(wdB H L).length=2*L.length
 | []=>rfl
 | v::L=>by
  have:=qfv H L
  simp[wdB] at this ⊢
  omega
def bwD (H:Vr->Int) (L:List Vr) (i:Nat):List V:=(intsC (wdB H (L.take i))).map .dat
theorem qgE {H:Vr->Int} {L:List Vr} {i:Nat} (h:i<=L.length):(bwD H L i).length=2*i:=by
 have:=qfv H (L.take i)
 simp[bwD,intsC]
 simp at this
 omega
theorem qid {H:Vr->Int} {L:List Vr} {i:Nat} (h:i<L.length):bwD H L i++[.int L[i].t,.int (IntKind.i64.wrap (H L[i]))]=bwD H L (i+1):=by
 unfold bwD wdB
 rw[List.take_succ_eq_append_getElem h,List.flatMap_append]
 simp[intsC]
theorem qcd (H:Vr->Int) (L:List Vr) (i:Nat):qal (bwD H L i)=[]:=by
 have h : ∀ (l:List V),(∀ v∈l,v.locs=[])->qal l=[]:=by
  intro l
  induction l with
  | nil=>intro _; rfl
  | cons v l ih=>intro h; simp[qal,h v (by simp),ih fun u hu=>h u (by simp[hu])]
 refine h _ fun v hv=>?_
 obtain⟨x,_,rfl⟩:=List.mem_map.1 hv
 rfl
theorem qc2 (H:Vr->Int) (r:Nat->Nat) (L:List Vr) (i:Nat):qbI r (bwD H L i)=bwD H L i:=by
 have h : ∀ (l:List V),(∀ v∈l,v.ren r=v)->qbI r l=l:=by
  intro l
  induction l with
  | nil=>intro _; rfl
  | cons v l ih=>intro h; simp[qbI,h v (by simp),ih fun u hu=>h u (by simp[hu])]
 refine h _ fun v hv=>?_
 obtain⟨x,_,rfl⟩:=List.mem_map.1 hv
 rfl
section
variable {prog:Nat->Option PFun}
def qfw (prog:Nat->Option PFun) (H:Vr->Int) (v:Vr):Prop:=Z prog (.call 353 [.dat (.agg [v.c,.lit (.int .i64 v.a),.lit (.int .i64 v.b),.lit (.int .i64 v.e)])] [])=some (.ret (.dat (.lit (.int .u64 (H v)))) [])
theorem qj9 {H:Vr->Int} {L:List Vr} {i:Nat} (h:i<L.length) (hl:L.length<=1000) (hh:qfw prog H L[i]) (g:Bool) :
  Z prog (.loop 1 F343l0 [(3,.own 1 (2*i) 1),(16,.dat (.sl (vrC L) L.length g)),(17,.int L.length),(18,.int i)] [.cells [.dat (.sl (vrC L) L.length g)],.vec (bwD H L i)]) =
  Z prog (.loop 1 F343l0 [(3,.own 1 (2*(i+1)) 1),(16,.dat (.sl (vrC L) L.length g)),(17,.int L.length),(18,.int (i+1:Nat))] [.cells [.dat (.sl (vrC L) L.length g)],.vec (bwD H L (i+1))]):=by
 have hc:=qfx h
 have o:=L[i].one
 have c:=L[i].cl
 unfold qfw at hh
 have hs:=qid (H:=H) h
 have hw:=qgE (H:=H) (L:=L) (i:=i) (by omega)
 have w1:IntKind.i64.wrap ((i:Int)+1)=((i+1:Nat):Int):=by rw[qar _ (by omega)]; omega
 have hlt:(i:Int)<L.length:=by omega
 have e3:2*(i+1)=2*i+2:=by omega
 have rm:qaj (2*i+2) 8:=by simp[qaj]; omega
 have l1:=qcd H L i
 have l2:=qcd H L (i+1)
 have r1:=fun r=>qc2 H r L i
 have r2:=fun r=>qc2 H r L (i+1)
 rw[e3]
 generalize ((i+1:Nat):Int)=i1 at *
 generalize H L[i]=hv at *
 obtain⟨u,hu⟩ : ∃ u,IntKind.i64.wrap hv=u:=⟨_,rfl⟩
 rw[hu] at hs
 generalize L[i]=v at *
 generalize vrC L=C at *
 generalize bwD H L i=W at *
 generalize bwD H L (i+1)=W' at *
 generalize L.length=n at *
 generalize 2*i=m at *
 conv=>lhs; rw[qad]
 simp[qag,qcI,V.len,qac,hlt,h,hc,hh,hu,o,c,hw,hs,w1,rm,l1,l2,r1,r2,List.range_succ]
 all_goals exact qaO (by simp[gcF,l1,l2,r1,r2,List.range_succ])
theorem qka {H:Vr->Int} {L:List Vr} {i:Nat} (h:i<L.length) (hl:L.length<=1000) (hh:qfw prog H L[i]) (m0:Nat) :
  Z prog (.loop 2 F343l0 [(3,.own 2 (2*i) 1),(16,.gsl (vrC L) L.length 5 1),(17,.int L.length),(18,.int i)] [.cells [.gsl (vrC L) L.length 5 1],.tip m0,.vec (bwD H L i)]) =
  Z prog (.loop 2 F343l0 [(3,.own 2 (2*(i+1)) 1),(16,.gsl (vrC L) L.length 5 1),(17,.int L.length),(18,.int (i+1:Nat))] [.cells [.gsl (vrC L) L.length 5 1],.tip m0,.vec (bwD H L (i+1))]):=by
 have hc:=qfx h
 have o:=L[i].one
 have c:=L[i].cl
 unfold qfw at hh
 have hs:=qid (H:=H) h
 have hw:=qgE (H:=H) (L:=L) (i:=i) (by omega)
 have w1:IntKind.i64.wrap ((i:Int)+1)=((i+1:Nat):Int):=by rw[qar _ (by omega)]; omega
 have hlt:(i:Int)<L.length:=by omega
 have e3:2*(i+1)=2*i+2:=by omega
 have rm:qaj (2*i+2) 8:=by simp[qaj]; omega
 have l1:=qcd H L i
 have l2:=qcd H L (i+1)
 have r1:=fun r=>qc2 H r L i
 have r2:=fun r=>qc2 H r L (i+1)
 rw[e3]
 generalize ((i+1:Nat):Int)=i1 at *
 generalize H L[i]=hv at *
 obtain⟨u,hu⟩ : ∃ u,IntKind.i64.wrap hv=u:=⟨_,rfl⟩
 rw[hu] at hs
 generalize L[i]=v at *
 generalize vrC L=C at *
 generalize bwD H L i=W at *
 generalize bwD H L (i+1)=W' at *
 generalize L.length=n at *
 generalize 2*i=m at *
 conv=>lhs; rw[qad]
 simp[qag,qcI,V.len,qac,hlt,h,hc,hh,hu,o,c,hw,hs,w1,rm,l1,l2,r1,r2,List.range_succ]
 all_goals exact qaO (by simp[gcF,l1,l2,r1,r2,List.range_succ])
theorem qie {H:Vr->Int} {L:List Vr} (hl:L.length<=1000) (hh : ∀ i (h:i<L.length),qfw prog H L[i]) (g:Bool) : ∀ (k i:Nat),i+k=L.length->Z prog (.loop 1 F343l0 [(3,.own 1 (2*i) 1),(16,.dat (.sl (vrC L) L.length g)),(17,.int L.length),(18,.int i)] [.cells [.dat (.sl (vrC L) L.length g)],.vec (bwD H L i)]) =
  some (.out (.exit 0) [(3,.own 1 (2*L.length) 1),(16,.dat (.sl (vrC L) L.length g)),(17,.int L.length),(18,.int L.length),(19,.bool false)] [.cells [.dat (.sl (vrC L) L.length g)],.vec (bwD H L L.length)])
 | 0,i,h=>by
  obtain rfl:i=L.length:=by omega
  have l1:=qcd H L L.length
  have r1:=fun r=>qc2 H r L L.length
  rw[qad]
  simp[qag,qcI,l1,r1,List.range_succ]
 | k+1,i,h=>by
  rw[qj9 (by omega) hl (hh i (by omega))]
  exact qie hl hh g k (i+1) (by omega)
theorem qif {H:Vr->Int} {L:List Vr} (hl:L.length<=1000) (hh : ∀ i (h:i<L.length),qfw prog H L[i]) (m0:Nat) : ∀ (k i:Nat),i+k=L.length->Z prog (.loop 2 F343l0 [(3,.own 2 (2*i) 1),(16,.gsl (vrC L) L.length 5 1),(17,.int L.length),(18,.int i)] [.cells [.gsl (vrC L) L.length 5 1],.tip m0,.vec (bwD H L i)]) =
  some (.out (.exit 0) [(3,.own 2 (2*L.length) 1),(16,.gsl (vrC L) L.length 5 1),(17,.int L.length),(18,.int L.length),(19,.bool false)] [.cells [.gsl (vrC L) L.length 5 1],.tip m0,.vec (bwD H L L.length)])
 | 0,i,h=>by
  obtain rfl:i=L.length:=by omega
  have l1:=qcd H L L.length
  have r1:=fun r=>qc2 H r L L.length
  rw[qad]
  simp[qag,qcI,l1,r1,List.range_succ]
 | k+1,i,h=>by
  rw[qka (by omega) hl (hh i (by omega))]
  exact qif hl hh m0 k (i+1) (by omega)
theorem qlN (hH : ∀ k pf,tH k=some pf->prog k=some pf) (h343:prog 343=some F343) {H:Vr->Int} {L:List Vr} (h0:0<L.length) (hl:L.length<=1000) (hh : ∀ i (h:i<L.length),qfw prog H L[i]) {y:Int} (hy:qc6 (qc6 17196531580303950166 4) (IntKind.u64.wrap ((2*L.length:Nat):Int))=y) :
  Z prog (.call 343 [.ptr 0 0] (qaB L))=some (.ret (.dat (.lit (.int .u64 (sumI y (wdB H L))))) (qaB L)):=by
 have hlen:=qfv H L
 have z:=qjP (hH 111 F111 rfl) (hH 109 F109 rfl) (s:=qgO) (ws:=wdB H L) (B:=y) (by omega) (qiD hH (qcP hH (qjq _)) (m:=4) rfl rfl (by rw[hlen]; exact hy))
 rw[hlen] at z
 unfold qgO at z
 have hd:=qcJ (intsC (wdB H L))
 have hl1:(intsC (wdB H L)).length=2*L.length:=by simp[intsC,hlen]
 have hone:((intsC (wdB H L)).all fun d=>V.one (.dat d))=true:=by simp[intsC]
 have hall:bwD H L L.length=(intsC (wdB H L)).map .dat:=by unfold bwD; rw[List.take_length]
 have hz:bwD H L 0=[]:=rfl
 have l1:=qcd H L L.length
 have r1:=fun r=>qc2 H r L L.length
 have w1:IntKind.i64.wrap (2*(L.length:Int))=((2*L.length:Nat):Int):=by rw[qar _ (by omega)]; omega
 have c1:((2*L.length:Nat):Int)<=1099511627776:=by omega
 have c2:(8:Int)*((2*L.length:Nat):Int)<=281474976710656:=by omega
 have c3:(0:Int)<=((2*L.length:Nat):Int):=by omega
 rw[hall] at l1 r1
 refine qaz h343 rfl ?_
 by_cases h1:L.length=1
 ·have e:qaB L=[.cells [.dat (.sl (vrC L) 1 true)]]:=if_pos h1
  have zl:=qie hl hh true L.length 0 (by omega)
  rw[hz,hall,show ((0:Nat):Int)=0 from rfl] at zl
  rw[e]
  simp only[h1,Nat.mul_one,Nat.mul_zero,show ((1:Nat):Int)=1 from rfl,show ((2:Nat):Int)=2 from rfl] at z zl hl1
  generalize sumI y (wdB H L)=s1 at *
  generalize intsC (wdB H L)=C' at *
  generalize vrC L=C at *
  simp[F343,V.len,qac,qar,z,zl,l1,r1,hd,hl1,hone,qaj,qbD,List.range_succ]
  done
 ·have zl:=qif hl hh (vrC L).length L.length 0 (by omega)
  rw[hz,hall,show ((0:Nat):Int)=0 from rfl,Nat.mul_zero] at zl
  rw[qdO (by omega)]
  clear hh
  generalize sumI y (wdB H L)=s1 at *
  generalize intsC (wdB H L)=C' at *
  generalize vrC L=C at *
  generalize ((2*L.length:Nat):Int)=mI at *
  generalize 2*L.length=m at *
  generalize L.length=n at *
  simp[F343,V.len,qac,w1,c1,c2,c3,z,zl,l1,r1,hd,hl1,hone,qaj,qbD,List.range_succ]
  done
end
end Go.Pm
end SZj
section SZk
namespace Go.Pm
open F
set_option maxHeartbeats 4000000
section
variable {prog:Nat->Option PFun}
theorem qjV (h331:prog 331=some F331) {l:List Int} {n:Nat} (hn:l.length=2*n) (hl:n<=10000):Z prog (.call 331 [.dat (qeI l)] [])=some (.ret (.dat (qeI l)) []):=by
 refine qaz h331 rfl ?_
 cases l with
 | nil=>simp[F331,qeI,V.len,List.range_succ]
 | cons x l=>
  have hq:(x::l).length / 2=n:=by omega
  have h0:0<n:=by simp at hn; omega
  have hl1:(intsC (x::l)).length=n*2:=by simp[intsC] at hn ⊢; omega
  have hn0:n≠0:=by omega
  have rm:qaj n 16:=by simp[qaj]; omega
  have hone:((intsC (x::l)).all fun d=>V.one (.dat d))=true:=by simp[intsC]
  simp only[qeI,hq]
  generalize intsC (x::l)=C at *
  simp[F331,V.len,qa2,qgs,rm,hn0,hl1,hone,List.range_succ]
  done
theorem qjx {l:List Int} {n:Nat} {a b e:Int} (hn:l.length=2*n) (hl:n<=10000) : ∀ (k i:Nat),i+k=n->Z prog (.loop 0 F346l0 [(2,.ptr 0 0),(3,.ptr 1 0),(5,.int i)] [.cells [.dat (.sl (intsC l) n false),.int a,.int b,.int e],.cells [.dat (.sl (intsC l) n false),.int a,.int b,.int e]]) =
  some (.out (.exit 0) [(2,.ptr 0 0),(3,.ptr 1 0),(5,.int n),(24,.bool false)] [.cells [.dat (.sl (intsC l) n false),.int a,.int b,.int e],.cells [.dat (.sl (intsC l) n false),.int a,.int b,.int e]])
 | 0,i,h=>by
  obtain rfl:i=n:=by omega
  rw[qad]
  simp[qag,qdz,V.len,List.range_succ]
 | k+1,i,h=>by
  rw[<- qjx hn hl k (i+1) (by omega)]
  have hc:=qhc (l:=l) (i:=i) (by omega)
  have w1:IntKind.i64.wrap ((i:Int)+1)=((i+1:Nat):Int):=by rw[qar _ (by omega)]; omega
  have hlt:(i:Int)<n:=by omega
  have hin:i<n:=by omega
  have hi:2*i+1<l.length:=by omega
  generalize ((i+1:Nat):Int)=i1 at *
  generalize l[2*i]=x at *
  generalize l[2*i+1]=y at *
  generalize intsC l=C at *
  conv=>lhs; rw[qad]
  simp[qag,qdz,V.len,qac,hlt,hin,hc,w1,List.range_succ]
  done
theorem qlh (h346:prog 346=some F346) {l:List Int} {n:Nat} {a b e:Int} (hn:l.length=2*n) (hl:n<=10000) :
  Z prog (.call 346 [.dat (.agg [qeI l,.lit (.int .i64 a),.lit (.int .i64 b),.lit (.int .i64 e)]),.dat (.agg [qeI l,.lit (.int .i64 a),.lit (.int .i64 b),.lit (.int .i64 e)])] [])=some (.ret (.bool true) []):=by
 refine qaz h346 rfl ?_
 cases l with
 | nil=>
  have z0:Z prog (.loop 0 F346l0 [(2,.ptr 0 0),(3,.ptr 1 0),(5,.int 0)] [.cells [.dat (.lit (.slice none 0 0)),.int a,.int b,.int e],.cells [.dat (.lit (.slice none 0 0)),.int a,.int b,.int e]])=some (.out (.exit 0) [(2,.ptr 0 0),(3,.ptr 1 0),(5,.int 0),(24,.bool false)] [.cells [.dat (.lit (.slice none 0 0)),.int a,.int b,.int e],.cells [.dat (.lit (.slice none 0 0)),.int a,.int b,.int e]]):=by
   rw[qad]
   simp[qdz,qag,V.len,List.range_succ]
  simp[F346,qeI,V.len,z0,List.range_succ]
  done
 | cons x l=>
  have hq:(x::l).length / 2=n:=by omega
  have zl:=qjx (prog:=prog) (a:=a) (b:=b) (e:=e) hn hl n 0 (by omega)
  rw[show ((0:Nat):Int)=0 from rfl] at zl
  simp only[qeI,hq]
  generalize intsC (x::l)=C at *
  simp[F346,V.len,zl,List.range_succ]
  done
end
end Go.Pm
end SZk
section SZl
namespace Go.Pm
open F
set_option maxHeartbeats 4000000
def prC:List Vr->List D
 | []=>[]
 | v::r=>v.c :: .lit (.int .i64 v.a) :: .lit (.int .i64 v.b) :: .lit (.int .i64 v.e)::prC r
theorem qiI : ∀ a b:List Vr,prC (a++b)=prC a++prC b
 | [],b=>rfl
 | v::a,b=>by simp[prC,qiI a b]
theorem qiJ : ∀ a:List Vr,(prC a).length=a.length*4
 | []=>rfl
 | v::a=>by simp[prC,qiJ a]; omega
theorem qhq : ∀ (L:List Vr) (i:Nat),(prC L).drop (i*4)=prC (L.drop i)
 | L,0=>by simp
 | [],i+1=>by simp[prC]
 | v::L,i+1=>by
  rw[show (i+1)*4=i*4+1+1+1+1 by omega]
  simp only[prC,List.drop_succ_cons,qhq L i]
theorem qgR {L:List Vr} {i:Nat} (h:i<L.length):qae (prC L) (i*4) 4=some [L[i].c,.lit (.int .i64 L[i].a),.lit (.int .i64 L[i].b),.lit (.int .i64 L[i].e)]:=by
 unfold qae
 rw[qhq,List.drop_eq_getElem_cons h]
 simp[prC]
theorem qiK : ∀ L:List Vr,(prC L).all (fun d=>V.one (.dat d))=true
 | []=>rfl
 | v::L=>by simp[prC,v.one,qiK L]
theorem qfN {L:List Vr} {i:Nat} (h:i<L.length):qae (intsC (tks L)) i 1=some [.lit (.int .i64 L[i].t)]:=by
 unfold qae intsC tks
 rw[<- List.map_drop,<- List.map_drop,List.drop_eq_getElem_cons h]
 rfl
def qc7 (L:List Vr):D := .agg [.sl (intsC (tks L)) L.length false,.sl (prC L) L.length false]
section
variable {prog:Nat->Option PFun}
def qme (prog:Nat->Option PFun) (s:ByteArray) (v:Vr):Prop:=Z prog (.call 352 [.str s] [])=some (.ret (.tup [.dat (.agg [v.c,.lit (.int .i64 v.a),.lit (.int .i64 v.b),.lit (.int .i64 v.e)]),.int 0]) [])
theorem qhH (h342:prog 342=some F342) {L:List Vr} (hl:L.length=9) (t:Int) (s:ByteArray):Z prog (.call 342 [.dat (qc7 L),.int t,.str s] [])=some (.ret (.tup [.dat (qc7 L),.int 2]) []):=by
 refine qaz h342 rfl ?_
 unfold qc7
 generalize intsC (tks L)=T at *
 generalize prC L=P at *
 generalize L.length=n at *
 subst hl
 simp[F342,V.len,List.range_succ]
 done
theorem qeF {L:List Vr} (h0:0<L.length):qae (intsC (tks L)) (L.length-1) 1=some [.lit (.int .i64 (lastT L))]:=by
 rw[qfN (by omega)]
 unfold lastT
 rw[List.getLast?_eq_getElem?,List.getElem?_eq_getElem (by omega)]
theorem qhI (h342:prog 342=some F342) {L:List Vr} (h0:0<L.length) (hl:L.length<=8) {t:Int} (ht:t<=lastT L) (s:ByteArray):Z prog (.call 342 [.dat (qc7 L),.int t,.str s] [])=some (.ret (.tup [.dat (qc7 L),.int 5]) []):=by
 have hc:=qeF h0
 have h8 : ¬ (8:Int)<L.length:=by omega
 have w:IntKind.i64.wrap ((L.length:Int)-1)=((L.length-1:Nat):Int):=by rw[qar _ (by omega)]; omega
 have hlt:L.length-1<L.length:=by omega
 have hlt':((L.length-1:Nat):Int)<L.length:=by omega
 have hp:(0:Int)<L.length:=by omega
 refine qaz h342 rfl ?_
 unfold qc7
 generalize intsC (tks L)=T at *
 generalize prC L=P at *
 generalize L.length-1=m at *
 generalize L.length=n at *
 generalize lastT L=tl at *
 simp[F342,V.len,qac,h8,hp,w,hlt,hlt',hc,ht,h0,List.range_succ]
 done
theorem qjt (h342:prog 342=some F342) {L:List Vr} (h0:0<L.length) (hl:L.length<=8) {t:Int} (ht:lastT L<t) {s:ByteArray} {a b c d:D} {e:Int} (he:e≠0) (hb:Z prog (.call 352 [.str s] [])=some (.ret (.tup [.dat (.agg [a,b,c,d]),.int e]) [])) (ho:([a,b,c,d].all fun d=>V.one (.dat d))=true):Z prog (.call 342 [.dat (qc7 L),.int t,.str s] [])=some (.ret (.tup [.dat (qc7 L),.int e]) []):=by
 have hc:=qeF h0
 have h8 : ¬ (8:Int)<L.length:=by omega
 have w:IntKind.i64.wrap ((L.length:Int)-1)=((L.length-1:Nat):Int):=by rw[qar _ (by omega)]; omega
 have hlt:L.length-1<L.length:=by omega
 have hlt':((L.length-1:Nat):Int)<L.length:=by omega
 have hp:(0:Int)<L.length:=by omega
 have ht' : ¬ t<=lastT L:=by omega
 simp at ho
 obtain⟨o1,o2,o3,o4⟩:=ho
 refine qaz h342 rfl ?_
 unfold qc7
 generalize intsC (tks L)=T at *
 generalize prC L=P at *
 generalize L.length-1=m at *
 generalize L.length=n at *
 generalize lastT L=tl at *
 simp[F342,V.len,qac,h8,hp,w,hlt,hlt',hc,ht',h0,hb,he,o1,o2,o3,o4,List.range_succ]
 done
theorem qkR (h342:prog 342=some F342) {L:List Vr} (h0:0<L.length) (hl:L.length<=8) {v:Vr} (ht:lastT L<v.t) {s:ByteArray} (hb:qme prog s v):Z prog (.call 342 [.dat (qc7 L),.int v.t,.str s] [])=some (.ret (.tup [.dat (qc7 (L++[v])),.int 0]) []):=by
 have hc:=qeF h0
 have h8 : ¬ (8:Int)<L.length:=by omega
 have w:IntKind.i64.wrap ((L.length:Int)-1)=((L.length-1:Nat):Int):=by rw[qar _ (by omega)]; omega
 have hlt:L.length-1<L.length:=by omega
 have hlt':((L.length-1:Nat):Int)<L.length:=by omega
 have hp:(0:Int)<L.length:=by omega
 have ht' : ¬ v.t<=lastT L:=by omega
 have hn0:L.length≠0:=by omega
 have eT:intsC (tks (L++[v]))=intsC (tks L)++[.lit (.int .i64 v.t)]:=by simp[intsC,tks]
 have eP:prC (L++[v])=prC L++[v.c,.lit (.int .i64 v.a),.lit (.int .i64 v.b),.lit (.int .i64 v.e)]:=by simp[qiI,prC]
 have lT:(intsC (tks L)).length=L.length:=by simp[intsC,tks]
 have lP:=qiJ L
 have rm1:qaj L.length 8:=by simp[qaj]; omega
 have rm2:qaj (L.length+1) 8:=by simp[qaj]; omega
 have rm3:qaj L.length 48:=by simp[qaj]; omega
 have rm4:qaj (L.length+1) 48:=by simp[qaj]; omega
 have oT:((intsC (tks L)).all fun d=>V.one (.dat d))=true:=by simp[intsC]
 have oP:=qiK L
 have o:=v.one
 have c:=v.cl
 have e':qc7 (L++[v]) = .agg [.sl (intsC (tks L)++[.lit (.int .i64 v.t)]) (L.length+1) false,.sl (prC L++[v.c,.lit (.int .i64 v.a),.lit (.int .i64 v.b),.lit (.int .i64 v.e)]) (L.length+1) false]:=by
  unfold qc7
  rw[eT,eP]
  simp
 unfold qme at hb
 refine qaz h342 rfl ?_
 rw[e']
 unfold qc7
 clear e' eT eP
 generalize intsC (tks L)=T at *
 generalize prC L=P at *
 generalize L.length-1=m at *
 generalize L.length=n at *
 generalize lastT L=tl at *
 simp[F342,V.len,qac,qa2,qgs,h8,hp,w,hlt,hlt',hc,ht',h0,hb,hn0,lT,lP,rm1,rm2,rm3,rm4,oT,oP,o,c,List.range_succ]
 done
theorem qhJ (h342:prog 342=some F342) {v:Vr} {s:ByteArray} (hb:qme prog s v):Z prog (.call 342 [.dat (.agg [.lit (.slice none 0 0),.lit (.slice none 0 0)]),.int v.t,.str s] [])=some (.ret (.tup [.dat (qc7 [v]),.int 0]) []):=by
 have o:=v.one
 have c:=v.cl
 have e':qc7 [v] = .agg [.sl [.lit (.int .i64 v.t)] 1 false,.sl [v.c,.lit (.int .i64 v.a),.lit (.int .i64 v.b),.lit (.int .i64 v.e)] 1 false]:=rfl
 unfold qme at hb
 refine qaz h342 rfl ?_
 rw[e']
 simp[F342,V.len,qac,qa2,qgs,qaj,hb,o,c,List.range_succ]
 done
theorem qmf (h340:prog 340=some F340) (h342:prog 342=some F342) {v:Vr} {s:ByteArray} (h0:v.t=0) (hb:qme prog s v):Z prog (.call 340 [.str s] [])=some (.ret (.tup [.dat (qc7 [v]),.int 0]) []):=by
 have z:=qhJ h342 hb
 rw[h0] at z
 have e':qc7 [v] = .agg [.sl [.lit (.int .i64 0)] 1 false,.sl [v.c,.lit (.int .i64 v.a),.lit (.int .i64 v.b),.lit (.int .i64 v.e)] 1 false]:=by rw[<- h0]; rfl
 rw[e'] at z ⊢
 refine qaz h340 rfl ?_
 simp[F340,z,List.range_succ]
 done
theorem qmg {L:List Vr} {tick:Int} {g:Bool} {P:List D} (hl:L.length<=1000) {r:Nat} (hr:r<=L.length) (hlo : ∀ m (h:m<L.length),m<r->L[m].t<=tick) (hhi : ∀ m (h:m<L.length),r<=m->tick<L[m].t) : ∀ (k i:Nat),i+k=L.length->Z prog (.loop 0 F345l0 [(1,.int tick),(2,.ptr 0 0),(5,.ptr 1 0),(6,.int (min i r-1:Nat)),(7,.int i)] [.cells [.dat (.sl (intsC (tks L)) L.length g),.dat (.sl P L.length g)],.cells [.dat (.lit (.slice none 0 0)),.int 0,.int 0,.int 0]]) =
  some (.out (.exit 0) [(1,.int tick),(2,.ptr 0 0),(5,.ptr 1 0),(6,.int (r-1:Nat)),(7,.int L.length),(12,.bool false)] [.cells [.dat (.sl (intsC (tks L)) L.length g),.dat (.sl P L.length g)],.cells [.dat (.lit (.slice none 0 0)),.int 0,.int 0,.int 0]])
 | 0,i,h=>by
  obtain rfl:i=L.length:=by omega
  rw[Nat.min_eq_right hr,qad]
  simp[qag,qdy,V.len,List.range_succ]
 | k+1,i,h=>by
  rw[<- qmg hl hr hlo hhi k (i+1) (by omega)]
  have hi:i<L.length:=by omega
  have hc:=qfN hi
  have w1:IntKind.i64.wrap ((i:Int)+1)=((i+1:Nat):Int):=by rw[qar _ (by omega)]; omega
  have hlt:(i:Int)<L.length:=by omega
  by_cases hir:i<r
  ·have ht:=hlo i hi hir
   rw[show min (i+1) r-1=i by omega]
   generalize min i r-1=q at *
   clear hlo hhi
   generalize ((i+1:Nat):Int)=i1 at *
   generalize L[i]=v at *
   generalize intsC (tks L)=T at *
   generalize L.length=n at *
   conv=>lhs; rw[qad]
   simp[qag,qdy,V.len,qac,hlt,hi,hc,w1,ht,List.range_succ]
   done
  ·have ht : ¬ L[i].t<=tick:=by have:=hhi i hi (by omega); omega
   rw[show min (i+1) r-1=min i r-1 by omega]
   generalize min i r-1=q at *
   clear hlo hhi
   generalize ((i+1:Nat):Int)=i1 at *
   generalize L[i]=v at *
   generalize intsC (tks L)=T at *
   generalize L.length=n at *
   conv=>lhs; rw[qad]
   simp[qag,qdy,V.len,qac,hlt,hi,hc,w1,ht,List.range_succ]
   done
theorem qmW (h345:prog 345=some F345) {L:List Vr} {tick:Int} {r k:Nat} (hl:L.length<=1000) (hr:r<=L.length) (hlo : ∀ m (h:m<L.length),m<r->L[m].t<=tick) (hhi : ∀ m (h:m<L.length),r<=m->tick<L[m].t) (hk:k=r-1) (hkl:k<L.length) :
  Z prog (.call 345 [.dat (qc7 L),.int tick] [])=some (.ret (.tup [.int k,.dat (.agg [L[k].c,.lit (.int .i64 L[k].a),.lit (.int .i64 L[k].b),.lit (.int .i64 L[k].e)])]) []):=by
 have z:=qmg (prog:=prog) (tick:=tick) (g:=false) (P:=prC L) hl hr hlo hhi L.length 0 (by omega)
 rw[<- hk,show ((min 0 r-1:Nat):Int)=0 by simp,show ((0:Nat):Int)=0 from rfl] at z
 have hc:=qgR hkl
 have o:=L[k].one
 have c:=L[k].cl
 have hlt:(k:Int)<L.length:=by omega
 refine qaz h345 rfl ?_
 unfold qc7
 clear hlo hhi
 generalize L[k]=v at *
 generalize intsC (tks L)=T at *
 generalize prC L=P at *
 generalize L.length=n at *
 simp[F345,V.len,qac,z,hc,o,c,hlt,hkl,List.range_succ]
 done
def bxD (H:Vr->Int) (L:List Vr) (i:Nat):List D:=intsC (wdB H (L.take i))
theorem qkS {H:Vr->Int} {L:List Vr} {i:Nat} (h:i<=L.length):(bxD H L i).length=2*i:=by
 have:=qgE (H:=H) h
 unfold bwD at this
 unfold bxD
 simpa using this
theorem qiL {H:Vr->Int} {L:List Vr} {i:Nat} (h:i<L.length):bxD H L i++[.lit (.int .i64 L[i].t)]++[.lit (.int .i64 (IntKind.i64.wrap (H L[i])))]=bxD H L (i+1):=by
 unfold bxD wdB
 rw[List.take_succ_eq_append_getElem h,List.flatMap_append]
 simp[intsC]
def qd0 (prog:Nat->Option PFun) (H:Vr->Int) (v:Vr):Prop:=Z prog (.call 349 [.dat (.agg [v.c,.lit (.int .i64 v.a),.lit (.int .i64 v.b),.lit (.int .i64 v.e)])] [])=some (.ret (.int (IntKind.i64.wrap (H v))) [])
theorem qkT {H:Vr->Int} {L:List Vr} {i:Nat} (h:i<L.length) (h0:0<i) (hl:L.length<=1000) (hh:qd0 prog H L[i]) :
  Z prog (.loop 0 F344l0 [(1,.ptr 0 0),(3,.gsl (bxD H L i) (2*i) 1 1),(4,.int i)] [.cells [.dat (.sl (intsC (tks L)) L.length false),.dat (.sl (prC L) L.length false)],.tip (2*i)]) =
  Z prog (.loop 0 F344l0 [(1,.ptr 0 0),(3,.gsl (bxD H L (i+1)) (2*(i+1)) 1 1),(4,.int (i+1:Nat))] [.cells [.dat (.sl (intsC (tks L)) L.length false),.dat (.sl (prC L) L.length false)],.tip (2*(i+1))]):=by
 have hc:=qfN h
 have hp:=qgR h
 have o:=L[i].one
 have c:=L[i].cl
 unfold qd0 at hh
 have hs:=qiL (H:=H) h
 have hw:=qkS (H:=H) (L:=L) (i:=i) (by omega)
 have w1:IntKind.i64.wrap ((i:Int)+1)=((i+1:Nat):Int):=by rw[qar _ (by omega)]; omega
 have hlt:(i:Int)<L.length:=by omega
 have e3:2*(i+1)=2*i+1+1:=by omega
 have rm1:qaj (2*i+1) 8:=by simp[qaj]; omega
 have rm2:qaj (2*i+1+1) 8:=by simp[qaj]; omega
 rw[e3]
 generalize ((i+1:Nat):Int)=i1 at *
 generalize H L[i]=hv at *
 obtain⟨u,hu⟩ : ∃ u,IntKind.i64.wrap hv=u:=⟨_,rfl⟩
 rw[hu] at hs hh
 generalize L[i]=v at *
 generalize intsC (tks L)=T at *
 generalize prC L=P at *
 generalize bxD H L i=W at *
 generalize bxD H L (i+1)=W' at *
 generalize L.length=n at *
 generalize 2*i=m at *
 subst hs
 conv=>lhs; rw[qad]
 simp[qag,qdx,V.len,qac,qa2,qgs,hlt,h,hc,hp,hh,o,c,hw,w1,rm1,rm2,List.range_succ]
theorem qkU {H:Vr->Int} {L:List Vr} (h:0<L.length) (hl:L.length<=1000) (hh:qd0 prog H L[0]) :
  Z prog (.loop 0 F344l0 [(1,.ptr 0 0),(3,.dat (.lit (.slice none 0 0))),(4,.int 0)] [.cells [.dat (.sl (intsC (tks L)) L.length false),.dat (.sl (prC L) L.length false)]]) =
  Z prog (.loop 0 F344l0 [(1,.ptr 0 0),(3,.gsl (bxD H L 1) 2 1 1),(4,.int 1)] [.cells [.dat (.sl (intsC (tks L)) L.length false),.dat (.sl (prC L) L.length false)],.tip 2]):=by
 have hc:=qfN h
 have hp:=qgR h
 have o:=L[0].one
 have c:=L[0].cl
 unfold qd0 at hh
 have hs:=qiL (H:=H) h
 rw[show bxD H L 0=[] from rfl] at hs
 have hlt:(0:Int)<L.length:=by omega
 generalize H L[0]=hv at *
 obtain⟨u,hu⟩ : ∃ u,IntKind.i64.wrap hv=u:=⟨_,rfl⟩
 rw[hu] at hs hh
 generalize L[0]=v at *
 generalize intsC (tks L)=T at *
 generalize prC L=P at *
 simp only[Nat.zero_add,Nat.zero_mul] at hs hp
 generalize bxD H L 1=W' at *
 generalize L.length=n at *
 subst hs
 conv=>lhs; rw[qad]
 simp[qag,qdx,V.len,qac,qa2,qgs,qaj,qar,hlt,h,hc,hp,hh,o,c,List.range_succ]
theorem qiM {H:Vr->Int} {L:List Vr} (hl:L.length<=1000) (hh : ∀ i (h:i<L.length),qd0 prog H L[i]) : ∀ (k i:Nat),i+k=L.length->0<i ->
  Z prog (.loop 0 F344l0 [(1,.ptr 0 0),(3,.gsl (bxD H L i) (2*i) 1 1),(4,.int i)] [.cells [.dat (.sl (intsC (tks L)) L.length false),.dat (.sl (prC L) L.length false)],.tip (2*i)]) =
  some (.out (.exit 0) [(1,.ptr 0 0),(3,.gsl (bxD H L L.length) (2*L.length) 1 1),(4,.int L.length),(9,.bool false)] [.cells [.dat (.sl (intsC (tks L)) L.length false),.dat (.sl (prC L) L.length false)],.tip (2*L.length)])
 | 0,i,h,h0=>by
  obtain rfl:i=L.length:=by omega
  rw[qad]
  simp[qag,qdx,V.len,List.range_succ]
 | k+1,i,h,h0=>by
  rw[qkT (by omega) h0 hl (hh i (by omega))]
  exact qiM hl hh k (i+1) (by omega) (by omega)
theorem qkV (hH : ∀ k pf,tH k=some pf->prog k=some pf) (h344:prog 344=some F344) {H:Vr->Int} {L:List Vr} (h0:0<L.length) (hl:L.length<=1000) (hh : ∀ i (h:i<L.length),qd0 prog H L[i]) {y:Int} (hy:qc6 (qc6 17196531580303950166 4) (IntKind.u64.wrap ((2*L.length:Nat):Int))=y) :
  Z prog (.call 344 [.dat (qc7 L)] [])=some (.ret (.dat (.lit (.int .u64 (sumI y (wdB H L))))) []):=by
 have hlen:=qfv H L
 have hz:qc6 0 1802465122=17196531580303950166:=by kernel_rfl
 have z:=qiE hH (s:=qgO) (ws:=wdB H L) (y:=y) (f:=false) (m:=4) rfl (by omega) (by omega) (qcP hH qhG) hz rfl (by rw[hlen]; exact hy)
 rw[hlen] at z
 unfold qgO at z
 have zl:=(qkU (prog:=prog) (H:=H) h0 hl (hh 0 h0)).trans (qiM hl hh (L.length-1) 1 (by omega) (by omega))
 rw[show bxD H L L.length=intsC (wdB H L) by unfold bxD; rw[List.take_length]] at zl
 have hl1:(intsC (wdB H L)).length=2*L.length:=by simp[intsC,hlen]
 refine qaz h344 rfl ?_
 unfold qc7
 clear hh
 generalize sumI y (wdB H L)=s1 at *
 generalize intsC (wdB H L)=C' at *
 generalize intsC (tks L)=T at *
 generalize prC L=P at *
 generalize 2*L.length=m at *
 generalize L.length=n at *
 simp[F344,V.len,qac,z,zl,hl1,List.range_succ]
 done
end
end Go.Pm
end SZl
section SZm
namespace Go.Pm
open F
theorem qkH:Z tC (.call 352 [.str (srcB 0)] [])=some (.ret (.tup [qd1 0,.int (qcR 0)]) []):=qcW (n:=3000) (by kernel_rfl)
theorem qkI:Z tC (.call 352 [.str (srcB 1)] [])=some (.ret (.tup [qd1 1,.int (qcR 1)]) []):=qcW (n:=3000) (by kernel_rfl)
theorem qkJ:Z tC (.call 352 [.str (srcB 2)] [])=some (.ret (.tup [qd1 2,.int (qcR 2)]) []):=qcW (n:=3000) (by kernel_rfl)
theorem qkK:Z tC (.call 352 [.str (srcB 3)] [])=some (.ret (.tup [qd1 3,.int (qcR 3)]) []):=qcW (n:=3000) (by kernel_rfl)
theorem qkL:Z tC (.call 352 [.str (srcB 4)] [])=some (.ret (.tup [qd1 4,.int (qcR 4)]) []):=qcW (n:=3000) (by kernel_rfl)
theorem qkM:Z tC (.call 352 [.str (srcB 5)] [])=some (.ret (.tup [qd1 5,.int (qcR 5)]) []):=qcW (n:=3000) (by kernel_rfl)
theorem qkN:Z tC (.call 352 [.str (srcB 6)] [])=some (.ret (.tup [qd1 6,.int (qcR 6)]) []):=qcW (n:=3000) (by kernel_rfl)
theorem qkO:Z tC (.call 352 [.str (srcB 7)] [])=some (.ret (.tup [qd1 7,.int (qcR 7)]) []):=qcW (n:=3000) (by kernel_rfl)
theorem qkP:Z tC (.call 352 [.str (srcB 8)] [])=some (.ret (.tup [qd1 8,.int (qcR 8)]) []):=qcW (n:=3000) (by kernel_rfl)
theorem qkQ:Z tC (.call 352 [.str (srcB 9)] [])=some (.ret (.tup [qd1 9,.int (qcR 9)]) []):=qcW (n:=3000) (by kernel_rfl)
end Go.Pm
end SZm
section SZz
namespace Go.Pm
open F
theorem qju : ∀ f pf,tB f=some pf->prog17z f=some pf:=fun f pf h=>by
 unfold tB at h
 split at h<;>first | (cases h; rfl) | cases h
theorem qjv : ∀ f pf,tH f=some pf->prog17z f=some pf:=fun f pf h=>by
 unfold tH at h
 split at h<;>first | (cases h; rfl) | cases h
theorem qbn : ∀ f pf,tC f=some pf->prog17z f=some pf:=fun f pf h=>by
 unfold tC at h
 split at h<;>first | (cases h; rfl) | cases h
theorem qhK:Z prog17z (.call 321 [] [])=some (.ret (.bool true) []):=qcW (n:=3000) (by kernel_rfl)
end Go.Pm
end SZz
section SZd
namespace Go.Pm
open F
set_option maxHeartbeats 4000000
theorem qfA {prog:Nat->Option PFun} (h17:prog 17=some F17) {n m:Int} (h1:I64 n) (hm:1<=m):Z prog (.call 17 [.int n,.int m] [])=some (.ret (.int (around n m)) []):=by
 refine qaz h17 rfl ?_
 unfold around
 have hm0 : ¬ m=0:=by omega
 by_cases h:n<0
 ·have w1:IntKind.i64.wrap (n+1)=n+1:=qar _ (by unfold I64 at h1; omega)
  have w2:IntKind.i64.wrap (-(n+1)) = -(n+1):=qar _ (by unfold I64 at h1; omega)
  simp[F17,h,hm0,w1,w2]
 ·simp[F17,h,hm0]
theorem qjG {prog:Nat->Option PFun} (h17:prog 17=some F17) (h19:prog 319=some F319) {n:Int} (h1:I64 n) : ∃ j:Nat,j<6/\(j:Int)=(around n 60).tmod 6/\Z prog (.call 319 [.int n] [])=some (.ret (.str (srcB j)) []):=by
 have z:=qfA h17 h1 (m:=60) (by omega)
 have r:=qge h1 (m:=60) (by omega)
 generalize around n 60=a at *
 have q1:=Int.tmod_nonneg 6 r.1
 have q2:=Int.tmod_lt_of_pos a (show (0:Int)<6 by omega)
 refine⟨(a.tmod 6).toNat,by omega,by omega,?_⟩
 generalize hj:a.tmod 6=j at *
 obtain rfl | rfl | rfl | rfl | rfl | rfl:j=0\/j=1\/j=2\/j=3\/j=4\/j=5:=by omega
 all_goals
  refine qaz h19 rfl ?_
  simp[F319,z,hj,qac,srcB,List.range_succ]
theorem qgG (l:List Int):V.one (.dat (qeI l))=true:=by cases l<;>rfl
theorem qjH (l:List Int):V.cells (.dat (qeI l))=[.dat (qeI l)]:=by cases l<;>rfl
def vrB (t:Int) (j:Nat):Vr:=⟨t,qeI (qlm j),(qk2 j).1,(qk2 j).2.1,(qk2 j).2.2,qgG _,qjH _⟩
theorem qlX {prog:Nat->Option PFun} (h7 : ∀ k pf,tB k=some pf->prog k=some pf) (t:Int) {j:Nat} (hj:j<6):qlf prog (srcB j) (vrB t j):=by
 have z:=qcP h7 (qg1 j (by omega))
 have e:qcR j=0:=by
  obtain rfl | rfl | rfl | rfl | rfl | rfl:j=0\/j=1\/j=2\/j=3\/j=4\/j=5:=by omega
  all_goals rfl
 rw[e] at z
 exact z
section
variable {prog:Nat->Option PFun} (h7 : ∀ k pf,tB k=some pf->prog k=some pf) (h17:prog 17=some F17) (h19:prog 319=some F319)
include h7 h17 h19
omit h7 in
end
end Go.Pm
end SZd
section SZn
namespace Go.Pm
open F
set_option maxHeartbeats 4000000
def stN (xs:List Int) (i:Nat):Int:=around (xs.getD i 0) 1000000
def stG (n:Int):Nat:=if (n.tdiv 54).tmod 7=0 then 6+((n.tdiv 378).tmod 4).toNat else ((around (n.tdiv 9) 60).tmod 6).toNat
def stT (xs:List Int):Nat->Int
 | 0=>0
 | i+1=>stT xs i+(stN xs i).tmod 9-1
def stC (xs:List Int):Nat->List D
 | 0=>[]
 | i+1=>stC xs i++[.lit (.int .i64 (stT xs (i+1))),.lit (.string (srcB (stG (stN xs i))))]
theorem qfE (xs:List Int) : ∀ i,(stC xs i).length=i*2
 | 0=>rfl
 | i+1=>by simp[stC,qfE xs i]; omega
theorem qdD {xs:List Int} (hx : ∀ x∈xs,I64 x) (i:Nat):0<=stN xs i/\stN xs i<1000000:=by
 refine qge ?_ (by omega)
 by_cases h:i<xs.length
 ·rw[List.getD_eq_getElem?_getD,List.getElem?_eq_getElem h]; exact hx _ (List.getElem_mem h)
 ·rw[List.getD_eq_getElem?_getD,List.getElem?_eq_none (by omega)]; unfold I64; simp
theorem qip {xs:List Int} (hx : ∀ x∈xs,I64 x) : ∀ i:Nat,-(i:Int)<=stT xs i/\stT xs i<=7*i
 | 0=>⟨by simp[stT],by simp[stT]⟩
 | i+1=>by
  have h:=qip hx i
  have r:=qdD hx i
  have a:=Int.tmod_nonneg 9 r.1
  have b:=Int.tmod_lt_of_pos (stN xs i) (show (0:Int)<9 by omega)
  simp only[stT]
  omega
section
variable {prog:Nat->Option PFun} (h17:prog 17=some F17) (h19:prog 319=some F319)
include h17 h19
theorem qiq {n:Int} (h1:I64 n):Z prog (.call 319 [.int n] [])=some (.ret (.str (srcB ((around n 60).tmod 6).toNat)) []):=by
 obtain⟨j,_,e,z⟩:=qjG h17 h19 h1
 rw[<- e]
 exact z
theorem qkm {xs:List Int} {i:Nat} (hx : ∀ x∈xs,I64 x) (hi:i<xs.length) (h12:i<12) (h0:0<i) :
  Z prog (.loop 0 F341l0 [(0,.dat (.sl (intsC xs) xs.length false)),(3,.gsl (stC xs i) i 2 0),(4,.int (stT xs i)),(5,.int i)] [.tip (i*2)]) =
  Z prog (.loop 0 F341l0 [(0,.dat (.sl (intsC xs) xs.length false)),(3,.gsl (stC xs (i+1)) (i+1) 2 0),(4,.int (stT xs (i+1))),(5,.int (i+1:Nat))] [.tip ((i+1)*2)]):=by
 have hc:qae (intsC xs) i 1=some [.lit (.int .i64 xs[i])]:=by
  unfold qae intsC
  rw[<- List.map_drop,List.drop_eq_getElem_cons hi,List.map_cons]
  rfl
 have hN:around xs[i] 1000000=stN xs i:=by unfold stN; rw[List.getD_eq_getElem?_getD,List.getElem?_eq_getElem hi]; rfl
 have zA:=qfA h17 (n:=xs[i]) (m:=1000000) (hx _ (List.getElem_mem hi)) (by omega)
 rw[hN] at zA
 have rN:=qdD hx i
 have rT:=qip hx i
 have lC:=qfE xs i
 have q0:=Int.tmod_nonneg 9 rN.1
 have q1:=Int.tmod_lt_of_pos (stN xs i) (show (0:Int)<9 by omega)
 have w1:IntKind.i64.wrap ((i:Int)+1)=((i+1:Nat):Int):=by rw[qar _ (by omega)]; omega
 have w2:IntKind.i64.wrap (stT xs i+(stN xs i).tmod 9)=stT xs i+(stN xs i).tmod 9:=qar _ (by omega)
 have w3:IntKind.i64.wrap (stT xs i+(stN xs i).tmod 9-1)=stT xs (i+1):=qar _ (by omega)
 have hlt:(i:Int)<xs.length:=by omega
 have h12':(i:Int)<12:=by omega
 have rm:qaj (i+1) 24:=by simp[qaj]; omega
 have dv : ∀ k:Int,0<k->0<=(stN xs i).tdiv k/\(stN xs i).tdiv k<=stN xs i:=fun k hk=>⟨Int.tdiv_nonneg rN.1 (by omega),Int.tdiv_le_self _ rN.1⟩
 have d9:=dv 9 (by omega)
 have d54:=dv 54 (by omega)
 have d378:=dv 378 (by omega)
 have v9:IntKind.i64.wrap ((stN xs i).tdiv 9)=(stN xs i).tdiv 9:=qar _ (by omega)
 have v54:IntKind.i64.wrap ((stN xs i).tdiv 54)=(stN xs i).tdiv 54:=qar _ (by omega)
 have v378:IntKind.i64.wrap ((stN xs i).tdiv 378)=(stN xs i).tdiv 378:=qar _ (by omega)
 have zS:=qiq h17 h19 (n:=(stN xs i).tdiv 9) (by unfold I64; omega)
 have e':stC xs (i+1)=stC xs i++[.lit (.int .i64 (stT xs (i+1))),.lit (.string (srcB (stG (stN xs i))))]:=rfl
 have e3:(i+1)*2=i*2+2:=by omega
 rw[e',e3]
 have q4:=Int.tmod_nonneg 4 d378.1
 have q5:=Int.tmod_lt_of_pos ((stN xs i).tdiv 378) (show (0:Int)<4 by omega)
 unfold stG
 generalize ((i+1:Nat):Int)=i1 at *
 generalize stT xs (i+1)=t1 at *
 generalize hs:srcB ((around ((stN xs i).tdiv 9) 60).tmod 6).toNat=sh at *
 generalize stN xs i=n at *
 generalize stT xs i=t0 at *
 generalize stC xs i=W at *
 clear hx hN e'
 generalize xs[i]=x at *
 generalize intsC xs=C at *
 generalize xs.length=m at *
 conv=>lhs; rw[qad]
 by_cases h7:(n.tdiv 54).tmod 7=0
 ·rw[if_pos h7]
  generalize hj:(n.tdiv 378).tmod 4=j at *
  obtain rfl | rfl | rfl | rfl:j=0\/j=1\/j=2\/j=3:=by omega
  all_goals simp[qag,qbd,V.len,qac,qa2,qgs,hlt,h12',hi,hc,zA,zS,w1,w2,w3,v9,v54,v378,h7,hj,lC,rm,srcB,List.range_succ]
 ·rw[if_neg h7]
  simp[qag,qbd,V.len,qac,qa2,qgs,hlt,h12',hi,hc,zA,zS,w1,w2,w3,v9,v54,v378,h7,lC,rm,hs,List.range_succ]
theorem qkn {xs:List Int} (hx : ∀ x∈xs,I64 x) (hi:0<xs.length) :
  Z prog (.loop 0 F341l0 [(0,.dat (.sl (intsC xs) xs.length false)),(3,.dat (.lit (.slice none 0 0))),(4,.int 0),(5,.int 0)] []) =
  Z prog (.loop 0 F341l0 [(0,.dat (.sl (intsC xs) xs.length false)),(3,.gsl (stC xs 1) 1 2 0),(4,.int (stT xs 1)),(5,.int 1)] [.tip 2]):=by
 have hc:qae (intsC xs) 0 1=some [.lit (.int .i64 xs[0])]:=by
  unfold qae intsC
  rw[<- List.map_drop,List.drop_eq_getElem_cons hi,List.map_cons]
  rfl
 have hN:around xs[0] 1000000=stN xs 0:=by unfold stN; rw[List.getD_eq_getElem?_getD,List.getElem?_eq_getElem hi]; rfl
 have zA:=qfA h17 (n:=xs[0]) (m:=1000000) (hx _ (List.getElem_mem hi)) (by omega)
 rw[hN] at zA
 have rN:=qdD hx 0
 have q0:=Int.tmod_nonneg 9 rN.1
 have q1:=Int.tmod_lt_of_pos (stN xs 0) (show (0:Int)<9 by omega)
 have w2:IntKind.i64.wrap ((stN xs 0).tmod 9)=(stN xs 0).tmod 9:=qar _ (by omega)
 have w3:IntKind.i64.wrap ((stN xs 0).tmod 9-1)=stT xs 1:=by rw[qar _ (by omega)]; simp[stT]
 have hlt:(0:Int)<xs.length:=by omega
 have dv : ∀ k:Int,0<k->0<=(stN xs 0).tdiv k/\(stN xs 0).tdiv k<=stN xs 0:=fun k hk=>⟨Int.tdiv_nonneg rN.1 (by omega),Int.tdiv_le_self _ rN.1⟩
 have d9:=dv 9 (by omega)
 have d54:=dv 54 (by omega)
 have d378:=dv 378 (by omega)
 have v9:IntKind.i64.wrap ((stN xs 0).tdiv 9)=(stN xs 0).tdiv 9:=qar _ (by omega)
 have v54:IntKind.i64.wrap ((stN xs 0).tdiv 54)=(stN xs 0).tdiv 54:=qar _ (by omega)
 have v378:IntKind.i64.wrap ((stN xs 0).tdiv 378)=(stN xs 0).tdiv 378:=qar _ (by omega)
 have zS:=qiq h17 h19 (n:=(stN xs 0).tdiv 9) (by unfold I64; omega)
 have e':stC xs 1=[.lit (.int .i64 (stT xs 1)),.lit (.string (srcB (stG (stN xs 0))))]:=rfl
 rw[e']
 have q4:=Int.tmod_nonneg 4 d378.1
 have q5:=Int.tmod_lt_of_pos ((stN xs 0).tdiv 378) (show (0:Int)<4 by omega)
 unfold stG
 generalize stT xs 1=t1 at *
 generalize hs:srcB ((around ((stN xs 0).tdiv 9) 60).tmod 6).toNat=sh at *
 generalize stN xs 0=n at *
 clear hx hN e'
 generalize xs[0]=x at *
 generalize intsC xs=C at *
 generalize xs.length=m at *
 conv=>lhs; rw[qad]
 by_cases h7:(n.tdiv 54).tmod 7=0
 ·rw[if_pos h7]
  generalize hj:(n.tdiv 378).tmod 4=j at *
  obtain rfl | rfl | rfl | rfl:j=0\/j=1\/j=2\/j=3:=by omega
  all_goals simp[qag,qbd,V.len,qac,qa2,qgs,hlt,hi,hc,zA,zS,qar,qaj,w2,w3,v9,v54,v378,h7,hj,srcB,List.range_succ]
 ·rw[if_neg h7]
  simp[qag,qbd,V.len,qac,qa2,qgs,hlt,hi,hc,zA,zS,qar,qaj,w2,w3,v9,v54,v378,h7,hs,List.range_succ]
omit h17 h19 in
theorem qko {xs:List Int} {i:Nat} (h : ¬ (i<xs.length/\i<12)):Z prog (.loop 0 F341l0 [(0,.dat (.sl (intsC xs) xs.length false)),(3,.gsl (stC xs i) i 2 0),(4,.int (stT xs i)),(5,.int i)] [.tip (i*2)]) =
  some (.out (.exit 0) [(0,.dat (.sl (intsC xs) xs.length false)),(3,.gsl (stC xs i) i 2 0),(4,.int (stT xs i)),(5,.int i),(15,.bool false)] [.tip (i*2)]):=by
 rw[qad]
 by_cases h1:(i:Int)<xs.length
 ·have h2 : ¬ (i:Int)<12:=by omega
  simp[qag,qbd,V.len,h1,h2,List.range_succ]
 ·simp[qag,qbd,V.len,h1,List.range_succ]
theorem qir {xs:List Int} (hx : ∀ x∈xs,I64 x) : ∀ (k i:Nat),i+k=min xs.length 12->0<i ->
  Z prog (.loop 0 F341l0 [(0,.dat (.sl (intsC xs) xs.length false)),(3,.gsl (stC xs i) i 2 0),(4,.int (stT xs i)),(5,.int i)] [.tip (i*2)]) =
  some (.out (.exit 0) [(0,.dat (.sl (intsC xs) xs.length false)),(3,.gsl (stC xs (min xs.length 12)) (min xs.length 12) 2 0),(4,.int (stT xs (min xs.length 12))),(5,.int (min xs.length 12:Nat)),(15,.bool false)] [.tip (min xs.length 12*2)])
 | 0,i,h,h0=>by
  rw[<- h]
  exact qko (by omega)
 | k+1,i,h,h0=>by
  rw[qkm h17 h19 hx (by omega) (by omega) h0]
  exact qir hx k (i+1) (by omega) (by omega)
def stD (xs:List Int):D:=match min xs.length 12 with
 | 0 => .lit (.slice none 0 0)
 | k+1 => .sl (stC xs (k+1)) (k+1) false
theorem qkp (h341:prog 341=some F341) {d:D} {xs:List Int} (h:RowV d xs) (hx : ∀ x∈xs,I64 x):Z prog (.call 341 [.dat d] [])=some (.ret (.dat (stD xs)) []):=by
 refine qaz h341 rfl ?_
 by_cases h0:xs.length=0
 ·have e:stD xs = .lit (.slice none 0 0):=by unfold stD; simp[h0]
  rw[e]
  rcases h with ⟨o,rfl,rfl⟩ | rfl
  ·have z0:Z prog (.loop 0 F341l0 [(0,.dat (.lit (.slice o 0 0))),(3,.dat (.lit (.slice none 0 0))),(4,.int 0),(5,.int 0)] [])=some (.out (.exit 0) [(0,.dat (.lit (.slice o 0 0))),(3,.dat (.lit (.slice none 0 0))),(4,.int 0),(5,.int 0),(15,.bool false)] []):=by
    rw[qad]
    simp[qag,qbd,V.len,List.range_succ]
   simp[F341,z0,List.range_succ]
   done
  ·obtain rfl:xs=[]:=List.length_eq_zero_iff.1 h0
   have z0:Z prog (.loop 0 F341l0 [(0,.dat (.sl [] 0 false)),(3,.dat (.lit (.slice none 0 0))),(4,.int 0),(5,.int 0)] [])=some (.out (.exit 0) [(0,.dat (.sl [] 0 false)),(3,.dat (.lit (.slice none 0 0))),(4,.int 0),(5,.int 0),(15,.bool false)] []):=by
    rw[qad]
    simp[qag,qbd,V.len,List.range_succ]
   simp[F341,intsC,z0,List.range_succ]
   done
 ·rcases h with ⟨o,rfl,rfl⟩ | rfl
  ·simp at h0
  have zl:=(qkn h17 h19 hx (by omega)).trans (qir h17 h19 hx (min xs.length 12-1) 1 (by omega) (by omega))
  obtain⟨k,hk⟩ : ∃ k,min xs.length 12=k+1:=⟨min xs.length 12-1,by omega⟩
  have e:stD xs = .sl (stC xs (k+1)) (k+1) false:=by unfold stD; rw[hk]
  have lC:=qfE xs (k+1)
  rw[hk] at zl
  rw[e]
  generalize stC xs (k+1)=W at *
  generalize stT xs (k+1)=t at *
  generalize ((k+1:Nat):Int)=kI at *
  generalize k+1=k1 at *
  generalize intsC xs=C at *
  generalize xs.length=m at *
  simp[F341,zl,lC,List.range_succ]
  done
end
end Go.Pm
end SZn
section SZo
namespace Go.Pm
open F
set_option maxHeartbeats 4000000
def qhR (L:List Vr) (t:Int) (j:Nat):List Vr:=if 8<L.length then L else if t<=lastT L then L else if qcR j=0 then L++[vrB t j] else L
def addE (L:List Vr) (t:Int) (j:Nat):Int:=if 8<L.length then 2 else if t<=lastT L then 5 else qcR j
theorem qjo {L:List Vr} {t:Int} {j:Nat} (h:0<L.length):0<(qhR L t j).length:=by
 unfold qhR
 split
 ·exact h
 ·split
  ·exact h
  ·split
   ·simp
   ·exact h
theorem qkz {L:List Vr} {t:Int} {j:Nat} (h:L.length<=9):(qhR L t j).length<=9:=by
 unfold qhR
 split
 ·exact h
 ·split
  ·exact h
  ·split
   ·simp; omega
   ·exact h
theorem qjN : ∀ j,j<10->qcR j=0->j<6
 | 0,_,_ | 1,_,_ | 2,_,_ | 3,_,_ | 4,_,_ | 5,_,_=>by omega
 | 6,_,h | 7,_,h | 8,_,h | 9,_,h=>absurd h (by decide)
 | n+10,h,_=>by omega
section
variable {prog:Nat->Option PFun} (h7 : ∀ k pf,tB k=some pf->prog k=some pf)
include h7
theorem qma {L:List Vr} (h0:0<L.length) (t:Int) {j:Nat} (hj:j<10):Z prog (.call 318 [.ptr 0 0,.int t,.str (srcB j)] (qaB L))=some (.ret (.int (addE L t j)) (qaB (qhR L t j))):=by
 unfold qhR addE
 by_cases h8:8<L.length
 ·rw[if_pos h8,if_pos h8]
  exact qhW h7 h8 t _
 ·rw[if_neg h8,if_neg h8]
  by_cases ht:t<=lastT L
  ·rw[if_pos ht,if_pos ht]
   exact qhX h7 h0 (by omega) ht _
  ·rw[if_neg ht,if_neg ht]
   by_cases he:qcR j=0
   ·rw[if_pos he,he]
    have:=qlg h7 h0 (by omega) (v:=vrB t j) (by show lastT L<t; omega) (qlX h7 t (qjN j hj he))
    exact this
   ·rw[if_neg he]
    exact qjU h7 h0 (by omega) (by omega) he ⟨_,_,_,_,rfl,qgG _,qjH _,rfl,rfl,rfl,rfl,rfl,rfl⟩ (qcP h7 (qg1 j hj))
end
section
variable {prog:Nat->Option PFun} (h342:prog 342=some F342) (hb : ∀ j,j<10->Z prog (.call 352 [.str (srcB j)] [])=some (.ret (.tup [qd1 j,.int (qcR j)]) []))
include h342 hb
theorem qkA {L:List Vr} (h0:0<L.length) (h9:L.length<=9) (t:Int) {j:Nat} (hj:j<10):Z prog (.call 342 [.dat (qc7 L),.int t,.str (srcB j)] [])=some (.ret (.tup [.dat (qc7 (qhR L t j)),.int (addE L t j)]) []):=by
 unfold qhR addE
 by_cases h8:8<L.length
 ·rw[if_pos h8,if_pos h8]
  exact qhH h342 (by omega) t _
 ·rw[if_neg h8,if_neg h8]
  by_cases ht:t<=lastT L
  ·rw[if_pos ht,if_pos ht]
   exact qhI h342 h0 (by omega) ht _
  ·rw[if_neg ht,if_neg ht]
   have z:=hb j hj
   by_cases he:qcR j=0
   ·rw[if_pos he,he]
    rw[he] at z
    exact qkR h342 h0 (by omega) (v:=vrB t j) (by show lastT L<t; omega) z
   ·rw[if_neg he]
    exact qjt h342 h0 (by omega) (by omega) he z (by simp[qgG])
end
end Go.Pm
end SZo
section SZp
namespace Go.Pm
open F
set_option maxHeartbeats 4000000
def bkL (j0:Nat) (xs:List Int):Nat->List Vr
 | 0=>[vrB 0 j0]
 | i+1=>qhR (bkL j0 xs i) (stT xs (i+1)) (stG (stN xs i))
theorem qfp (j0:Nat) (xs:List Int) : ∀ i,0<(bkL j0 xs i).length
 | 0=>by simp[bkL]
 | i+1=>qjo (qfp j0 xs i)
theorem qg4 (j0:Nat) (xs:List Int) : ∀ i,(bkL j0 xs i).length<=9
 | 0=>by simp[bkL]
 | i+1=>qkz (qg4 j0 xs i)
theorem qh4 {n:Int} (h:0<=n/\n<1000000):stG n<10:=by
 unfold stG
 have a:=Int.tmod_lt_of_pos (n.tdiv 378) (show (0:Int)<4 by omega)
 have b:=Int.tmod_lt_of_pos (around (n.tdiv 9) 60) (show (0:Int)<6 by omega)
 split<;>omega
theorem qh5 (xs:List Int) : ∀ k i,i<k->qae (stC xs k) (i*2) 1=some [.lit (.int .i64 (stT xs (i+1)))]/\qae (stC xs k) (i*2+1) 1=some [.lit (.string (srcB (stG (stN xs i))))]
 | 0,i,h=>by omega
 | k+1,i,h=>by
  have l:=qfE xs k
  by_cases hik:i<k
  ·obtain⟨h1,h2⟩:=qh5 xs k i hik
   have e : ∀ o n:Nat,o+n<=(stC xs k).length->qae (stC xs (k+1)) o n=qae (stC xs k) o n:=by
    intro o n ho
    have he:((stC xs (k+1)).drop o).take n=((stC xs k).drop o).take n:=by
     show ((stC xs k++_).drop o).take n=_
     rw[List.drop_append_of_le_length (by omega),List.take_append_of_le_length (by rw[List.length_drop]; omega)]
    unfold qae
    rw[he]
   exact⟨(e _ _ (by omega)).trans h1,(e _ _ (by omega)).trans h2⟩
  ·obtain rfl:i=k:=by omega
   have hd:(stC xs (i+1)).drop (i*2)=[.lit (.int .i64 (stT xs (i+1))),.lit (.string (srcB (stG (stN xs i))))]:=by
    show (stC xs i++_).drop (i*2)=_
    rw[<- l,List.drop_left]
   have hd1:(stC xs (i+1)).drop (i*2+1)=[.lit (.string (srcB (stG (stN xs i))))]:=by
    rw[<- List.drop_drop,hd]
    rfl
   unfold qae
   rw[hd,hd1]
   exact⟨rfl,rfl⟩
end Go.Pm
end SZp
section SZq
namespace Go.Pm
open F
set_option maxHeartbeats 4000000
def qm8:D->Int
 | .lit (.int _ n)=>n
 | _=>0
def qld:D->List Int
 | .sl C _ _=>C.map qm8
 | _=>[]
theorem qjM (l:List Int):qld (qeI l)=l:=by
 cases l with
 | nil=>rfl
 | cons x l=>simp[qeI,qld,intsC,qm8,Function.comp_def]
def hB (v:Vr):Int:=sumI (qc6 (qc6 (qc6 0 30787916450984560) 7) (IntKind.u64.wrap ((3+(qld v.c).length:Nat):Int))) ([v.a,v.b,v.e]++qld v.c)
theorem qec : ∀ j,j<6 -> ∃ n,(qlm j).length=2*n/\n<=10000
 | 0,_=>⟨0,rfl,by omega⟩
 | 1,_=>⟨3,rfl,by omega⟩
 | 2,_=>⟨4,rfl,by omega⟩
 | 3,_=>⟨11,rfl,by omega⟩
 | 4,_=>⟨12,rfl,by omega⟩
 | 5,_=>⟨4,rfl,by omega⟩
 | j+6,h=>by omega
theorem qjn {prog:Nat->Option PFun} (hH : ∀ k pf,tH k=some pf->prog k=some pf) (h353:prog 353=some F353) (t:Int) {j:Nat} (hj:j<6):qfw prog hB (vrB t j):=by
 obtain⟨n,hn,hl⟩:=qec j hj
 unfold qfw hB
 have e:qld (vrB t j).c=qlm j:=qjM _
 rw[e]
 exact qje hH h353 hn hl (by rw[hn])
theorem qix {prog:Nat->Option PFun} (hH : ∀ k pf,tH k=some pf->prog k=some pf) (h349:prog 349=some F349) (t:Int) {j:Nat} (hj:j<6):qd0 prog hB (vrB t j):=by
 obtain⟨n,hn,hl⟩:=qec j hj
 unfold qd0 hB
 have e:qld (vrB t j).c=qlm j:=qjM _
 rw[e]
 exact qkY hH h349 hn hl (by rw[hn])
def OkB (L:List Vr):Prop:=(∀ v∈L,∃ t j,j<6/\v=vrB t j)/\L.Pairwise (fun a b=>a.t<b.t)
theorem qeB : ∀ {L:List Vr},L.Pairwise (fun a b=>a.t<b.t) -> ∀ v∈L,v.t<=lastT L
 | [],_,v,h=>by simp at h
 | [a],_,v,h=>by simp at h; subst h; simp[lastT]
 | a::b::L,hp,v,h=>by
  have e:lastT (a::b::L)=lastT (b::L):=rfl
  rw[e]
  obtain⟨h1,h2⟩:=List.pairwise_cons.1 hp
  rcases List.mem_cons.1 h with rfl | h
  ·have:=h1 b (by simp)
   have:=qeB h2 b (by simp)
   omega
  ·exact qeB h2 v h
theorem ql9 {L:List Vr} (h:OkB L) (t:Int) {j:Nat} (hj:j<10):OkB (qhR L t j):=by
 unfold qhR
 split
 ·exact h
 ·split
  ·exact h
  ·rename_i ht
   split
   ·rename_i he
    refine⟨fun v hv=>?_,List.pairwise_append.2 ⟨h.2,by simp,fun a ha b hb=>?_⟩⟩
    ·rcases List.mem_append.1 hv with hv | hv
     ·exact h.1 v hv
     ·simp at hv
      exact⟨t,j,qjN j hj he,hv⟩
    ·simp at hb
     subst hb
     have:=qeB h.2 a ha
     show a.t<t
     omega
   ·exact h
theorem qky {j0:Nat} (h0:j0<6) {xs:List Int} (hx : ∀ x∈xs,I64 x) : ∀ i,OkB (bkL j0 xs i)
 | 0=>⟨fun v hv=>by simp[bkL] at hv; exact⟨0,j0,h0,hv⟩,by simp[bkL]⟩
 | i+1=>ql9 (qky h0 hx i) _ (qh4 (qdD hx i))
theorem qiy (tick:Int) : ∀ {L:List Vr},L.Pairwise (fun a b=>a.t<b.t) -> ∃ r,r<=L.length/\(∀ m (h:m<L.length),m<r->L[m].t<=tick)/\(∀ m (h:m<L.length),r<=m->tick<L[m].t)
 | [],_=>⟨0,by simp,fun m h=>by simp at h,fun m h=>by simp at h⟩
 | a::L,hp=>by
  obtain⟨h1,h2⟩:=List.pairwise_cons.1 hp
  by_cases ha:a.t<=tick
  ·obtain⟨r,k1,k2,k3⟩:=qiy tick h2
   refine⟨r+1,by simp; omega,fun m h hm=>?_,fun m h hm=>?_⟩
   ·cases m with
    | zero=>exact ha
    | succ m=>exact k2 m (by simpa using h) (by omega)
   ·cases m with
    | zero=>omega
    | succ m=>exact k3 m (by simpa using h) (by omega)
  ·refine⟨0,by omega,fun m h hm=>by omega,fun m h hm=>?_⟩
   cases m with
   | zero=>show tick<a.t; omega
   | succ m=>
    have hm':m<L.length:=by simpa using h
    have:=h1 L[m] (List.getElem_mem hm')
    show tick<L[m].t
    omega
end Go.Pm
end SZq
section SZr
namespace Go.Pm
open F
set_option maxHeartbeats 4000000
def yB (L:List Vr):Int:=qc6 (qc6 17196531580303950166 4) (IntKind.u64.wrap ((2*L.length:Nat):Int))
def rootI (L:List Vr):Int:=sumI (yB L) (wdB hB L)
section
variable {prog:Nat->Option PFun} (hH : ∀ k pf,tH k=some pf->prog k=some pf)
include hH
theorem qkh (h343:prog 343=some F343) (h353:prog 353=some F353) {L:List Vr} (h:OkB L) (h0:0<L.length) (hl:L.length<=1000):Z prog (.call 343 [.ptr 0 0] (qaB L))=some (.ret (.dat (.lit (.int .u64 (rootI L)))) (qaB L)):=
 qlN hH h343 h0 hl (fun i hi=>by obtain⟨t,j,hj,e⟩:=h.1 L[i] (List.getElem_mem hi); rw[e]; exact qjn hH h353 t hj) rfl
theorem qi8 (h344:prog 344=some F344) (h349:prog 349=some F349) {L:List Vr} (h:OkB L) (h0:0<L.length) (hl:L.length<=1000):Z prog (.call 344 [.dat (qc7 L)] [])=some (.ret (.dat (.lit (.int .u64 (rootI L)))) []):=
 qkV hH h344 h0 hl (fun i hi=>by obtain⟨t,j,hj,e⟩:=h.1 L[i] (List.getElem_mem hi); rw[e]; exact qix hH h349 t hj) rfl
end
def qlY (v:Vr):V := .dat (.agg [v.c,.lit (.int .i64 v.a),.lit (.int .i64 v.b),.lit (.int .i64 v.e)])
def ForceAt (L:List Vr) (tick:Int) (k:Nat):Prop := ∃ r,r<=L.length/\(∀ m (h:m<L.length),m<r->L[m].t<=tick)/\(∀ m (h:m<L.length),r<=m->tick<L[m].t)/\k=r-1
theorem qi9 {L:List Vr} (h:OkB L) (tick:Int) : ∃ k,ForceAt L tick k:=by
 obtain⟨r,h1,h2,h3⟩:=qiy tick h.2
 exact⟨r-1,r,h1,h2,h3,rfl⟩
theorem qja {L:List Vr} {tick:Int} {k:Nat} (h0:0<L.length) (h:ForceAt L tick k):k<L.length:=by
 obtain⟨r,h1,_,_,e⟩:=h
 omega
section
variable {prog:Nat->Option PFun}
theorem qmL (h23:prog 323=some F323) (h29:prog 329=some F329) (h30:prog 330=some F330) (h331:prog 331=some F331) {L:List Vr} (h:OkB L) (h0:0<L.length) (hl:L.length<=1000) {tick:Int} {k:Nat} (hk:ForceAt L tick k) (hkl:k<L.length) :
  Z prog (.call 323 [.ptr 0 0,.int tick] (qaB L))=some (.ret (.tup [.int k,qlY L[k]]) (qaB L)):=by
 obtain⟨r,h1,h2,h3,e⟩:=hk
 refine qnb h29 h30 h23 hl h0 h1 h2 h3 e hkl ?_
 obtain⟨t,j,hj,ev⟩:=h.1 L[k] (List.getElem_mem hkl)
 obtain⟨n,hn,hln⟩:=qec j hj
 rw[ev]
 exact qjV h331 hn hln
theorem qlZ (h345:prog 345=some F345) {L:List Vr} (hl:L.length<=1000) {tick:Int} {k:Nat} (hk:ForceAt L tick k) (hkl:k<L.length) :
  Z prog (.call 345 [.dat (qc7 L),.int tick] [])=some (.ret (.tup [.int k,qlY L[k]]) []):=by
 obtain⟨r,h1,h2,h3,e⟩:=hk
 exact qmW h345 hl h1 h2 h3 e hkl
theorem qki (h346:prog 346=some F346) {L:List Vr} (h:OkB L) {k:Nat} (hkl:k<L.length):Z prog (.call 346 [qlY L[k],qlY L[k]] [])=some (.ret (.bool true) []):=by
 obtain⟨t,j,hj,ev⟩:=h.1 L[k] (List.getElem_mem hkl)
 obtain⟨n,hn,hln⟩:=qec j hj
 rw[ev]
 exact qlh h346 hn hln
end
end Go.Pm
end SZr
section SZs
namespace Go.Pm
open F
set_option maxHeartbeats 4000000
section
variable {prog:Nat->Option PFun} (h23:prog 323=some F323) (h29:prog 329=some F329) (h30:prog 330=some F330) (h331:prog 331=some F331) (h345:prog 345=some F345) (h346:prog 346=some F346)
include h23 h29 h30 h331 h345 h346
theorem qkf {L:List Vr} (h:OkB L) (h0:0<L.length) (hl:L.length<=1000) {T:List Int} (hT:T.length=4) {i:Nat} (hi:i<4) {A B:D} (hr:qc7 L = .agg [A,B]) (hA:V.one (.dat A)=true) (hB:V.one (.dat B)=true) (cA:V.cells (.dat A)=[.dat A]) (cB:V.cells (.dat B)=[.dat B]) {v:Vr} (e1:qaB L=qaB L):
  Z prog (.loop 0 F332l1 [(7,.ptr 0 0),(9,.ptr (qaB L).length 0),(15,.dat (.sl (intsC T) 4 true)),(16,.int i)] (qaB L++[.cells [.dat A,.dat B]])) =
  Z prog (.loop 0 F332l1 [(7,.ptr 0 0),(9,.ptr (qaB L).length 0),(15,.dat (.sl (intsC T) 4 true)),(16,.int (i+1:Nat))] (qaB L++[.cells [.dat A,.dat B]])):=by
 obtain⟨k,hk⟩:=qi9 h T[i]
 have hkl:=qja h0 hk
 have za:=qmL h23 h29 h30 h331 h h0 hl hk hkl
 have zr:=qlZ h345 hl hk hkl
 have zs:=qki h346 h hkl
 rw[hr] at zr
 have o:=L[k].one
 have c:=L[k].cl
 have hc:qae (intsC T) i 1=some [.lit (.int .i64 T[i])]:=by
  unfold qae intsC
  rw[<- List.map_drop,List.drop_eq_getElem_cons (by omega),List.map_cons]
  rfl
 have w1:IntKind.i64.wrap ((i:Int)+1)=((i+1:Nat):Int):=by rw[qar _ (by omega)]; omega
 have hlt:(i:Int)<4:=by omega
 unfold qlY at za zr zs
 clear hk
 generalize L[k]=v at *
 generalize T[i]=tk at *
 generalize intsC T=C at *
 generalize ((i+1:Nat):Int)=i1 at *
 conv=>lhs; rw[qad]
 rcases qfg L with ⟨C0,e0⟩ | ⟨C0,n0,m0,e0⟩<;>rw[e0] at za ⊢
 all_goals simp[qag,qdK,V.len,qac,hlt,hi,hc,w1,za,zr,zs,o,c,hA,hB,cA,cB,List.range_succ]
 all_goals exact qaO (by simp[gcF,List.range_succ])
end
section
variable {prog:Nat->Option PFun} (hH : ∀ k pf,tH k=some pf->prog k=some pf) (h7 : ∀ k pf,tB k=some pf->prog k=some pf) (h342:prog 342=some F342) (hb : ∀ j,j<10->Z prog (.call 352 [.str (srcB j)] [])=some (.ret (.tup [qd1 j,.int (qcR j)]) [])) (h343:prog 343=some F343) (h344:prog 344=some F344) (h349:prog 349=some F349) (h353:prog 353=some F353)
 (h58 : ∀ (xs:List Int),xs.length<=1000->Z prog (.call 58 [.dat (.sl (intsC xs) xs.length false),.dat (.sl (intsC xs) xs.length false)] [])=some (.ret (.bool true) []))
include hH h7 h342 hb h343 h344 h349 h353 h58
theorem qkg {j0:Nat} (hj0:j0<6) {xs:List Int} (hx : ∀ x∈xs,I64 x) {n i:Nat} (hi:i<n) (hn:n<=12) {tick:Int} {A B A' B':D} (hr:qc7 (bkL j0 xs i) = .agg [A,B]) (hr':qc7 (bkL j0 xs (i+1)) = .agg [A',B']) (hA':A' = .sl (intsC (tks (bkL j0 xs (i+1)))) (bkL j0 xs (i+1)).length false) (oA:V.one (.dat A)=true) (oB:V.one (.dat B)=true) (oB':V.one (.dat B')=true) (cB':V.cells (.dat B')=[.dat B']) :
  Z prog (.loop 0 F332l0 [(2,.int tick),(7,.ptr 0 0),(9,.ptr (qaB (bkL j0 xs i)).length 0),(11,.dat (.sl (stC xs n) n false)),(12,.int i)] (qaB (bkL j0 xs i)++[.cells [.dat A,.dat B]])) =
  Z prog (.loop 0 F332l0 [(2,.int tick),(7,.ptr 0 0),(9,.ptr (qaB (bkL j0 xs (i+1))).length 0),(11,.dat (.sl (stC xs n) n false)),(12,.int (i+1:Nat))] (qaB (bkL j0 xs (i+1))++[.cells [.dat A',.dat B']])):=by
 obtain⟨h1,h2⟩:=qh5 xs n i hi
 have ok:=qky hj0 hx (i+1)
 have p0:=qfp j0 xs i
 have p1:=qfp j0 xs (i+1)
 have q0:=qg4 j0 xs i
 have q1:=qg4 j0 xs (i+1)
 have za:=qma h7 p0 (stT xs (i+1)) (qh4 (qdD hx i))
 have zr:=qkA h342 hb p0 q0 (stT xs (i+1)) (qh4 (qdD hx i))
 rw[show qhR (bkL j0 xs i) (stT xs (i+1)) (stG (stN xs i))=bkL j0 xs (i+1) from rfl] at za zr
 have zv:=qhA h7 p1 (by omega)
 have z58:=h58 (tks (bkL j0 xs (i+1))) (by simp[tks]; omega)
 have hlt58:(tks (bkL j0 xs (i+1))).length=(bkL j0 xs (i+1)).length:=by simp[tks]
 rw[hlt58] at z58
 have z43:=qkh hH h343 h353 ok p1 (by omega)
 have z44:=qi8 hH h344 h349 ok p1 (by omega)
 rw[hr,hr'] at zr
 rw[hr'] at z44
 have w1:IntKind.i64.wrap ((i:Int)+1)=((i+1:Nat):Int):=by rw[qar _ (by omega)]; omega
 have hlt:(i:Int)<n:=by omega
 subst hA'
 clear hr hr' ok h58 hb hH h7
 generalize addE (bkL j0 xs i) (stT xs (i+1)) (stG (stN xs i))=e at *
 generalize srcB (stG (stN xs i))=s at *
 generalize stT xs (i+1)=t at *
 generalize stC xs n=C at *
 generalize bkL j0 xs i=L at *
 generalize bkL j0 xs (i+1)=L' at *
 generalize rootI L'=ro at *
 generalize intsC (tks L')=T at *
 generalize ((i+1:Nat):Int)=i1 at *
 conv=>lhs; rw[qad]
 rcases qfg L with ⟨C0,e0⟩ | ⟨C0,n0,m0,e0⟩<;>rcases qfg L' with ⟨C',e'⟩ | ⟨C',n',m',e'⟩<;>rw[e0,e'] at za<;>rw[e'] at zv z43<;>rw[e0,e']
 all_goals simp[qag,qcO,V.len,qac,hlt,hi,h1,h2,w1,za,zr,zv,z58,z43,z44,oA,oB,oB',cB',List.range_succ]
 all_goals exact qaO (by simp[gcF,List.range_succ])
end
end Go.Pm
end SZs
section SZt
namespace Go.Pm
open F
set_option maxHeartbeats 4000000
section
variable {prog:Nat->Option PFun}
theorem ql2 {w:List Int} (hw:w.length<=1000) : ∀ (m i:Nat),i+m=w.length ->
  Z prog (.loop 0 F58l0 [(0,.dat (.sl (intsC w) w.length false)),(1,.dat (.sl (intsC w) w.length false)),(5,.int i)] [])=some (.out (.exit 0) [(0,.dat (.sl (intsC w) w.length false)),(1,.dat (.sl (intsC w) w.length false)),(5,.int w.length),(14,.bool false)] [])
 | 0,i,hi=>by
  obtain rfl:i=w.length:=by omega
  rw[qad]
  simp[qag,qgm,V.len,List.range_succ]
 | m+1,i,hi=>by
  have hi':i<w.length:=by omega
  have hlt:(i:Int)<w.length:=by omega
  have hc:qae (intsC w) i 1=some [.lit (.int .i64 w[i])]:=by
   unfold qae intsC
   rw[<- List.map_drop,List.drop_eq_getElem_cons hi',List.map_cons]
   rfl
  have w1:IntKind.i64.wrap ((i:Int)+1)=((i+1:Nat):Int):=by rw[qar _ (by omega)]; omega
  rw[<- ql2 hw m (i+1) (by omega)]
  generalize w[i]=x at *
  generalize ((i+1:Nat):Int)=i1 at *
  generalize intsC w=C at *
  generalize w.length=n at *
  conv=>lhs; rw[qad]
  simp[qag,qgm,V.len,qac,hlt,hi',hc,w1,List.range_succ]
theorem qmM (h58:prog 58=some F58) (w:List Int) (hw:w.length<=1000):Z prog (.call 58 [.dat (.sl (intsC w) w.length false),.dat (.sl (intsC w) w.length false)] [])=some (.ret (.bool true) []):=by
 have e:=ql2 (prog:=prog) hw w.length 0 (by omega)
 rw[show ((0:Nat):Int)=0 from rfl] at e
 refine qaz h58 rfl ?_
 generalize intsC w=C at *
 generalize w.length=n at *
 simp[F58,V.len,e,List.range_succ]
end
end Go.Pm
end SZt
section SZu
namespace Go.Pm
open F
set_option maxHeartbeats 4000000
section
variable {prog:Nat->Option PFun} (h23:prog 323=some F323) (h29:prog 329=some F329) (h30:prog 330=some F330) (h331:prog 331=some F331) (h345:prog 345=some F345) (h346:prog 346=some F346)
include h23 h29 h30 h331 h345 h346
theorem qhp {L:List Vr} (h:OkB L) (h0:0<L.length) (hl:L.length<=1000) {T:List Int} (hT:T.length=4) {A B:D} (hr:qc7 L = .agg [A,B]) (hA:V.one (.dat A)=true) (hB:V.one (.dat B)=true) (cA:V.cells (.dat A)=[.dat A]) (cB:V.cells (.dat B)=[.dat B]) : ∀ (k i:Nat),i+k=4 ->
  Z prog (.loop 0 F332l1 [(7,.ptr 0 0),(9,.ptr (qaB L).length 0),(15,.dat (.sl (intsC T) 4 true)),(16,.int i)] (qaB L++[.cells [.dat A,.dat B]])) =
  Z prog (.loop 0 F332l1 [(7,.ptr 0 0),(9,.ptr (qaB L).length 0),(15,.dat (.sl (intsC T) 4 true)),(16,.int (4:Nat))] (qaB L++[.cells [.dat A,.dat B]]))
 | 0,i,e=>by
  obtain rfl:i=4:=by omega
  rfl
 | k+1,i,e=>by
  rw[qkf h23 h29 h30 h331 h345 h346 h h0 hl hT (by omega) hr hA hB cA cB (v:=L[0]) rfl]
  exact qhp h h0 hl hT hr hA hB cA cB k (i+1) (by omega)
end
end Go.Pm
end SZu
