/- Chapter 17: the hash of a program. Chapter 17: Root of a book. Chapter 17's laws over the whole table. Chapter 17's law PatchLimit. Chapter 17: the calls of Add that the laws make. Chapter 17: Add of a source that the laws build, on both sides. Chapter 17: a book after the laws' calls of Add. Chapter 17: the hashes of the laws' versions; ticks increase. Chapter 17: the contracts of the laws' books, joined. Chapter 17: the hash of a row tells rows apart that differ in one word. Chapter 17: what programOf makes of the sources of PatchBinding. Chapter 17: what programOf makes of ten sources of PatchBinding. Chapter 17: what programOf makes of ten sources of PatchBinding. Chapter 17: what programOf makes of ten sources of PatchBinding. Chapter 17: the sources of PatchBinding. F334 with its end folded. -/
import Derived.Test.YtpakkndfjpimgaaGreatDoorPmF7
import Derived.Test.YtpakkndfjpimgaaGreatDoorPmY
import Derived.KernelRfl
set_option linter.unusedSimpArgs false
set_option linter.unusedVariables false
section SZh
namespace Go.Pm
open F
set_option maxHeartbeats 4000000
def hwD (a b e:Int) (l:List Int) (i:Nat):List V:=(intsC ([a,b,e]++l.take (2*i))).map .dat
theorem qjR {a b e:Int} {l:List Int} {i:Nat} (h:2*i<=l.length):(hwD a b e l i).length=3+2*i:=by simp[hwD,intsC]; omega
theorem qjS {a b e:Int} {l:List Int} {i:Nat} (h:2*i+1<l.length):hwD a b e l i++[.int l[2*i],.int l[2*i+1]]=hwD a b e l (i+1):=by
 have e1:l.take (2*(i+1))=l.take (2*i)++[l[2*i],l[2*i+1]]:=by
  rw[show 2*(i+1)=2*i+1+1 by omega,List.take_succ_eq_append_getElem h,List.take_succ_eq_append_getElem (by omega),List.append_assoc]
  rfl
 unfold hwD
 rw[e1]
 simp[intsC]
theorem qiR {l:List Int} {i:Nat} (h:2*i+1<l.length):qae (intsC l) (i*2) 2=some [.lit (.int .i64 l[2*i]),.lit (.int .i64 l[2*i+1])]:=by
 unfold qae intsC
 rw[<- List.map_drop,show i*2=2*i by omega,List.drop_eq_getElem_cons (by omega),List.drop_eq_getElem_cons h]
 rfl
theorem qd1 (a b e:Int) (l:List Int) (i:Nat):qai (hwD a b e l i)=[]:=by
 have h : ∀ (l:List V),(∀ v∈l,v.locs=[])->qai l=[]:=by
  intro l
  induction l with
  | nil=>intro _; rfl
  | cons v l ih=>intro h; simp[qai,h v (by simp),ih fun u hu=>h u (by simp[hu])]
 refine h _ fun v hv=>?_
 obtain⟨x,_,rfl⟩:=List.mem_map.1 hv
 rfl
theorem qfq (r:Nat->Nat) (a b e:Int) (l:List Int) (i:Nat):qbH r (hwD a b e l i)=hwD a b e l i:=by
 have h : ∀ (l:List V),(∀ v∈l,v.ren r=v)->qbH r l=l:=by
  intro l
  induction l with
  | nil=>intro _; rfl
  | cons v l ih=>intro h; simp[qbH,h v (by simp),ih fun u hu=>h u (by simp[hu])]
 refine h _ fun v hv=>?_
 obtain⟨x,_,rfl⟩:=List.mem_map.1 hv
 rfl
section
variable {prog:Nat->Option PFun} (hH : ∀ k pf,tH k=some pf->prog k=some pf) (h353:prog 353=some F353)
theorem qlf {l:List Int} {n:Nat} {a b e:Int} (hn:l.length=2*n) (hl:n<=10000) : ∀ (k i:Nat),i+k=n -> ∃ fr,Z prog (.loop 0 F353l0 [(3,.own 0 (3+2*i) 1),(17,.dat (.sl (intsC l) n false)),(18,.int n),(19,.int i)] [.vec (hwD a b e l i)]) =
  some (.out (.exit 0) ((3,.own 0 (3+2*n) 1)::fr) [.vec (hwD a b e l n)])
 | 0,i,h=>by
  obtain rfl:i=n:=by omega
  have l1:=qd1 a b e l i
  have r1:=fun r=>qfq r a b e l i
  exact⟨_,by rw[qao]; simp[qap,qdv,V.len,l1,r1,List.range_succ]; rfl⟩
 | k+1,i,h=>by
  have hi:2*i+1<l.length:=by omega
  obtain⟨fr,z⟩:=qlf (a:=a) (b:=b) (e:=e) hn hl k (i+1) (by omega)
  refine⟨fr,?_⟩
  rw[<- z]
  have hc:=qiR hi
  have hw:=qjS (a:=a) (b:=b) (e:=e) hi
  have w1:IntKind.i64.wrap ((i:Int)+1)=((i+1:Nat):Int):=by rw[qaB _ (by omega)]; omega
  have hlt:(i:Int)<n:=by omega
  have hin:i<n:=by omega
  have hl1:=qjR (a:=a) (b:=b) (e:=e) (l:=l) (i:=i) (by omega)
  have l1:=qd1 a b e l i
  have r1:=fun r=>qfq r a b e l i
  have l2:=qd1 a b e l (i+1)
  have r2:=fun r=>qfq r a b e l (i+1)
  have e3:3+2*(i+1)=3+2*i+2:=by omega
  have rm:qas (3+2*i+2) 8:=by simp[qas]; omega
  rw[e3]
  generalize ((i+1:Nat):Int)=i1 at *
  generalize l[2*i]=x at *
  generalize l[2*i+1]=y at *
  generalize hwD a b e l i=W at *
  generalize hwD a b e l (i+1)=W' at *
  generalize intsC l=C at *
  generalize 3+2*i=m at *
  conv=>lhs; rw[qao]
  simp[qap,qdv,V.len,qah,hlt,hin,hc,w1,hl1,hw,l1,r1,l2,r2,rm,List.range_succ]
  all_goals exact qa1 (by simp[gcF,l1,l2,r1,r2,List.range_succ])
include hH h353
theorem qgW {l:List Int} {n:Nat} {a b e:Int} (hn:l.length=2*n) (hl:n<=10000) {y:Int} (hy:qdT (qdT (qdT 0 30787916450984560) 7) (IntKind.u64.wrap ((3+2*n:Nat):Int))=y) :
  Z prog (.call 353 [.dat (.agg [qhs l,.lit (.int .i64 a),.lit (.int .i64 b),.lit (.int .i64 e)])] [])=some (.ret (.dat (.lit (.int .u64 (sumI y ([a,b,e]++l))))) []):=by
 have hlen:([a,b,e]++l).length=3+2*n:=by simp; omega
 have z:=qju (hH 111 F111 rfl) (hH 109 F109 rfl) (s:=qlG) (ws:=[a,b,e]++l) (B:=y) (by omega) (qip hH (qe8 hH (qi6 _)) (m:=7) rfl rfl (by rw[hlen]; exact hy))
 rw[hlen] at z
 have hd:=qcI (intsC ([a,b,e]++l))
 have hl1:(intsC ([a,b,e]++l)).length=3+2*n:=by simp[intsC]; omega
 have hone:((intsC ([a,b,e]++l)).all fun d=>V.one (.dat d))=true:=by simp[intsC]
 obtain⟨fr,zl⟩:=qlf (prog:=prog) (a:=a) (b:=b) (e:=e) hn hl n 0 (by omega)
 have l1:=qd1 a b e l n
 have r1:=fun r=>qfq r a b e l n
 have hall:hwD a b e l n=(intsC ([a,b,e]++l)).map .dat:=by unfold hwD; rw[List.take_of_length_le (by omega)]
 have h0:hwD a b e l 0=[.int a,.int b,.int e]:=by simp[hwD,intsC]
 have w1:IntKind.i64.wrap (2*(n:Int))=((2*n:Nat):Int):=by rw[qaB _ (by omega)]; omega
 have w2:IntKind.i64.wrap (3+((2*n:Nat):Int))=((3+2*n:Nat):Int):=by rw[qaB _ (by omega)]; omega
 have c1:((3+2*n:Nat):Int)<=1099511627776:=by omega
 have c2:(8:Int)*((3+2*n:Nat):Int)<=281474976710656:=by omega
 have c3:(0:Int)<=((3+2*n:Nat):Int):=by omega
 rw[h0,show ((0:Nat):Int)=0 from rfl] at zl
 rw[hall] at zl l1 r1
 refine qbf h353 rfl ?_
 unfold qlG at z
 cases l with
 | nil=>
  obtain rfl:n=0:=by simp at hn; omega
  simp only[qhs,intsC,List.map_nil,List.append_nil,List.map_cons,Nat.mul_zero,Nat.add_zero] at z ⊢
  generalize sumI y [a,b,e]=s1 at *
  have z0:Z prog (.loop 0 F353l0 [(3,.own 0 3 1),(17,.dat (.lit (.slice none 0 0))),(18,.int 0),(19,.int 0)] [.vec [.int a,.int b,.int e]])=some (.out (.exit 0) [(3,.own 0 3 1),(17,.dat (.lit (.slice none 0 0))),(18,.int 0),(19,.int 0),(20,.bool false)] [.vec [.int a,.int b,.int e]]):=by
   rw[qao]
   simp[qdv,qap,List.range_succ]
  have z1:Z prog (.loop 0 F353l0 [(3,.own 1 3 1),(17,.dat (.lit (.slice none 0 0))),(18,.int 0),(19,.int 0)] [.cells [.dat (.lit (.slice none 0 0)),.int a,.int b,.int e],.vec [.int a,.int b,.int e]])=_:=(qa1 (by simp[gcF,List.range_succ])).trans z0
  simp[F353,V.len,qah,bound,qaB,z,z1,qas,qbC,List.range_succ]
  done
 | cons x l=>
  have hq:(x::l).length / 2=n:=by omega
  simp only[qhs,hq] at zl ⊢
  simp only[Nat.mul_zero,Nat.add_zero] at zl
  generalize sumI y ([a,b,e]++x::l)=s1 at *
  generalize ((3+2*n:Nat):Int)=mI at *
  generalize 3+2*n=m at *
  generalize ((2*n:Nat):Int)=nI at *
  generalize intsC (x::l)=C at *
  generalize intsC ([a,b,e]++x::l)=C' at *
  have z1:Z prog (.loop 0 F353l0 [(3,.own 1 3 1),(17,.dat (.sl C n false)),(18,.int n),(19,.int 0)] [.cells [.dat (.sl C n false),.int a,.int b,.int e],.vec [.int a,.int b,.int e]])=_:=(qa1 (by simp[gcF,List.range_succ])).trans zl
  simp[F353,V.len,qah,bound,z1,w1,w2,c1,c2,c3,z,zl,l1,r1,hd,hl1,hone,qas,qbC,List.range_succ]
  done
end
end Go.Pm
end SZh
section SZj
namespace Go.Pm
open F
set_option maxHeartbeats 4000000
def wdB (H:Vr->Int) (L:List Vr):List Int:=L.flatMap fun v=>[v.t,IntKind.i64.wrap (H v)]
theorem qgm (H:Vr->Int) : ∀ L:List Vr,(wdB H L).length=2*L.length
 | []=>rfl
 | v::L=>by
  have:=qgm H L
  simp[wdB] at this ⊢
  omega
def bwD (H:Vr->Int) (L:List Vr) (i:Nat):List V:=(intsC (wdB H (L.take i))).map .dat
theorem qhU {H:Vr->Int} {L:List Vr} {i:Nat} (h:i<=L.length):(bwD H L i).length=2*i:=by
 have:=qgm H (L.take i)
 simp[bwD,intsC]
 simp at this
 omega
theorem qhV {H:Vr->Int} {L:List Vr} {i:Nat} (h:i<L.length):bwD H L i++[.int L[i].t,.int (IntKind.i64.wrap (H L[i]))]=bwD H L (i+1):=by
 unfold bwD wdB
 rw[List.take_succ_eq_append_getElem h,List.flatMap_append]
 simp[intsC]
theorem qcd (H:Vr->Int) (L:List Vr) (i:Nat):qai (bwD H L i)=[]:=by
 have h : ∀ (l:List V),(∀ v∈l,v.locs=[])->qai l=[]:=by
  intro l
  induction l with
  | nil=>intro _; rfl
  | cons v l ih=>intro h; simp[qai,h v (by simp),ih fun u hu=>h u (by simp[hu])]
 refine h _ fun v hv=>?_
 obtain⟨x,_,rfl⟩:=List.mem_map.1 hv
 rfl
theorem qcY (H:Vr->Int) (r:Nat->Nat) (L:List Vr) (i:Nat):qbH r (bwD H L i)=bwD H L i:=by
 have h : ∀ (l:List V),(∀ v∈l,v.ren r=v)->qbH r l=l:=by
  intro l
  induction l with
  | nil=>intro _; rfl
  | cons v l ih=>intro h; simp[qbH,h v (by simp),ih fun u hu=>h u (by simp[hu])]
 refine h _ fun v hv=>?_
 obtain⟨x,_,rfl⟩:=List.mem_map.1 hv
 rfl
section
variable {prog:Nat->Option PFun}
def qed (prog:Nat->Option PFun) (H:Vr->Int) (v:Vr):Prop:=Z prog (.call 353 [.dat (.agg [v.c,.lit (.int .i64 v.a),.lit (.int .i64 v.b),.lit (.int .i64 v.e)])] [])=some (.ret (.dat (.lit (.int .u64 (H v)))) [])
theorem qjK {H:Vr->Int} {L:List Vr} {i:Nat} (h:i<L.length) (hl:L.length<=1000) (hh:qed prog H L[i]) (g:Bool) :
  Z prog (.loop 1 F343l0 [(3,.own 1 (2*i) 1),(16,.dat (.sl (vrC L) L.length g)),(17,.int L.length),(18,.int i)] [.cells [.dat (.sl (vrC L) L.length g)],.vec (bwD H L i)]) =
  Z prog (.loop 1 F343l0 [(3,.own 1 (2*(i+1)) 1),(16,.dat (.sl (vrC L) L.length g)),(17,.int L.length),(18,.int (i+1:Nat))] [.cells [.dat (.sl (vrC L) L.length g)],.vec (bwD H L (i+1))]):=by
 have hc:=qfl h
 have o:=L[i].one
 have c:=L[i].cl
 unfold qed at hh
 have hs:=qhV (H:=H) h
 have hw:=qhU (H:=H) (L:=L) (i:=i) (by omega)
 have w1:IntKind.i64.wrap ((i:Int)+1)=((i+1:Nat):Int):=by rw[qaB _ (by omega)]; omega
 have hlt:(i:Int)<L.length:=by omega
 have e3:2*(i+1)=2*i+2:=by omega
 have rm:qas (2*i+2) 8:=by simp[qas]; omega
 have l1:=qcd H L i
 have l2:=qcd H L (i+1)
 have r1:=fun r=>qcY H r L i
 have r2:=fun r=>qcY H r L (i+1)
 rw[e3]
 generalize ((i+1:Nat):Int)=i1 at *
 generalize H L[i]=hv at *
 obtain⟨u,hu⟩ : ∃ u,IntKind.i64.wrap hv=u:=⟨_,rfl⟩
 rw[hu] at hs
 generalize L[i]=v at *
 generalize vrC L=C at *
 generalize bwD H L i=W at *
 generalize bwD H L (i+1)=W' at *
 generalize L.length=n at *
 generalize 2*i=m at *
 conv=>lhs; rw[qao]
 simp[qap,qcH,V.len,qah,hlt,h,hc,hh,hu,o,c,hw,hs,w1,rm,l1,l2,r1,r2,List.range_succ]
 all_goals exact qa1 (by simp[gcF,l1,l2,r1,r2,List.range_succ])
theorem qjL {H:Vr->Int} {L:List Vr} {i:Nat} (h:i<L.length) (hl:L.length<=1000) (hh:qed prog H L[i]) (m0:Nat) :
  Z prog (.loop 2 F343l0 [(3,.own 2 (2*i) 1),(16,.gsl (vrC L) L.length 5 1),(17,.int L.length),(18,.int i)] [.cells [.gsl (vrC L) L.length 5 1],.tip m0,.vec (bwD H L i)]) =
  Z prog (.loop 2 F343l0 [(3,.own 2 (2*(i+1)) 1),(16,.gsl (vrC L) L.length 5 1),(17,.int L.length),(18,.int (i+1:Nat))] [.cells [.gsl (vrC L) L.length 5 1],.tip m0,.vec (bwD H L (i+1))]):=by
 have hc:=qfl h
 have o:=L[i].one
 have c:=L[i].cl
 unfold qed at hh
 have hs:=qhV (H:=H) h
 have hw:=qhU (H:=H) (L:=L) (i:=i) (by omega)
 have w1:IntKind.i64.wrap ((i:Int)+1)=((i+1:Nat):Int):=by rw[qaB _ (by omega)]; omega
 have hlt:(i:Int)<L.length:=by omega
 have e3:2*(i+1)=2*i+2:=by omega
 have rm:qas (2*i+2) 8:=by simp[qas]; omega
 have l1:=qcd H L i
 have l2:=qcd H L (i+1)
 have r1:=fun r=>qcY H r L i
 have r2:=fun r=>qcY H r L (i+1)
 rw[e3]
 generalize ((i+1:Nat):Int)=i1 at *
 generalize H L[i]=hv at *
 obtain⟨u,hu⟩ : ∃ u,IntKind.i64.wrap hv=u:=⟨_,rfl⟩
 rw[hu] at hs
 generalize L[i]=v at *
 generalize vrC L=C at *
 generalize bwD H L i=W at *
 generalize bwD H L (i+1)=W' at *
 generalize L.length=n at *
 generalize 2*i=m at *
 conv=>lhs; rw[qao]
 simp[qap,qcH,V.len,qah,hlt,h,hc,hh,hu,o,c,hw,hs,w1,rm,l1,l2,r1,r2,List.range_succ]
 all_goals exact qa1 (by simp[gcF,l1,l2,r1,r2,List.range_succ])
theorem qhW {H:Vr->Int} {L:List Vr} (hl:L.length<=1000) (hh : ∀ i (h:i<L.length),qed prog H L[i]) (g:Bool) : ∀ (k i:Nat),i+k=L.length->Z prog (.loop 1 F343l0 [(3,.own 1 (2*i) 1),(16,.dat (.sl (vrC L) L.length g)),(17,.int L.length),(18,.int i)] [.cells [.dat (.sl (vrC L) L.length g)],.vec (bwD H L i)]) =
  some (.out (.exit 0) [(3,.own 1 (2*L.length) 1),(16,.dat (.sl (vrC L) L.length g)),(17,.int L.length),(18,.int L.length),(19,.bool false)] [.cells [.dat (.sl (vrC L) L.length g)],.vec (bwD H L L.length)])
 | 0,i,h=>by
  obtain rfl:i=L.length:=by omega
  have l1:=qcd H L L.length
  have r1:=fun r=>qcY H r L L.length
  rw[qao]
  simp[qap,qcH,l1,r1,List.range_succ]
 | k+1,i,h=>by
  rw[qjK (by omega) hl (hh i (by omega))]
  exact qhW hl hh g k (i+1) (by omega)
theorem qhX {H:Vr->Int} {L:List Vr} (hl:L.length<=1000) (hh : ∀ i (h:i<L.length),qed prog H L[i]) (m0:Nat) : ∀ (k i:Nat),i+k=L.length->Z prog (.loop 2 F343l0 [(3,.own 2 (2*i) 1),(16,.gsl (vrC L) L.length 5 1),(17,.int L.length),(18,.int i)] [.cells [.gsl (vrC L) L.length 5 1],.tip m0,.vec (bwD H L i)]) =
  some (.out (.exit 0) [(3,.own 2 (2*L.length) 1),(16,.gsl (vrC L) L.length 5 1),(17,.int L.length),(18,.int L.length),(19,.bool false)] [.cells [.gsl (vrC L) L.length 5 1],.tip m0,.vec (bwD H L L.length)])
 | 0,i,h=>by
  obtain rfl:i=L.length:=by omega
  have l1:=qcd H L L.length
  have r1:=fun r=>qcY H r L L.length
  rw[qao]
  simp[qap,qcH,l1,r1,List.range_succ]
 | k+1,i,h=>by
  rw[qjL (by omega) hl (hh i (by omega))]
  exact qhX hl hh m0 k (i+1) (by omega)
theorem qk1 (hH : ∀ k pf,tH k=some pf->prog k=some pf) (h343:prog 343=some F343) {H:Vr->Int} {L:List Vr} (h0:0<L.length) (hl:L.length<=1000) (hh : ∀ i (h:i<L.length),qed prog H L[i]) {y:Int} (hy:qdT (qdT 17196531580303950166 4) (IntKind.u64.wrap ((2*L.length:Nat):Int))=y) :
  Z prog (.call 343 [.ptr 0 0] (qaW L))=some (.ret (.dat (.lit (.int .u64 (sumI y (wdB H L))))) (qaW L)):=by
 have hlen:=qgm H L
 have z:=qju (hH 111 F111 rfl) (hH 109 F109 rfl) (s:=qi4) (ws:=wdB H L) (B:=y) (by omega) (qip hH (qe8 hH (qi5 _)) (m:=4) rfl rfl (by rw[hlen]; exact hy))
 rw[hlen] at z
 unfold qi4 at z
 have hd:=qcI (intsC (wdB H L))
 have hl1:(intsC (wdB H L)).length=2*L.length:=by simp[intsC,hlen]
 have hone:((intsC (wdB H L)).all fun d=>V.one (.dat d))=true:=by simp[intsC]
 have hall:bwD H L L.length=(intsC (wdB H L)).map .dat:=by unfold bwD; rw[List.take_length]
 have hz:bwD H L 0=[]:=rfl
 have l1:=qcd H L L.length
 have r1:=fun r=>qcY H r L L.length
 have w1:IntKind.i64.wrap (2*(L.length:Int))=((2*L.length:Nat):Int):=by rw[qaB _ (by omega)]; omega
 have c1:((2*L.length:Nat):Int)<=1099511627776:=by omega
 have c2:(8:Int)*((2*L.length:Nat):Int)<=281474976710656:=by omega
 have c3:(0:Int)<=((2*L.length:Nat):Int):=by omega
 rw[hall] at l1 r1
 refine qbf h343 rfl ?_
 by_cases h1:L.length=1
 ·have e:qaW L=[.cells [.dat (.sl (vrC L) 1 true)]]:=if_pos h1
  have zl:=qhW hl hh true L.length 0 (by omega)
  rw[hz,hall,show ((0:Nat):Int)=0 from rfl] at zl
  rw[e]
  simp only[h1,Nat.mul_one,Nat.mul_zero,show ((1:Nat):Int)=1 from rfl,show ((2:Nat):Int)=2 from rfl] at z zl hl1
  generalize sumI y (wdB H L)=s1 at *
  generalize intsC (wdB H L)=C' at *
  generalize vrC L=C at *
  simp[F343,V.len,qah,qaB,z,zl,l1,r1,hd,hl1,hone,qas,qbC,List.range_succ]
  done
 ·have zl:=qhX hl hh (vrC L).length L.length 0 (by omega)
  rw[hz,hall,show ((0:Nat):Int)=0 from rfl,Nat.mul_zero] at zl
  rw[qcM (by omega)]
  clear hh
  generalize sumI y (wdB H L)=s1 at *
  generalize intsC (wdB H L)=C' at *
  generalize vrC L=C at *
  generalize ((2*L.length:Nat):Int)=mI at *
  generalize 2*L.length=m at *
  generalize L.length=n at *
  simp[F343,V.len,qah,w1,c1,c2,c3,z,zl,l1,r1,hd,hl1,hone,qas,qbC,List.range_succ]
  done
end
end Go.Pm
end SZj
section SZz
namespace Go.Pm
open F
theorem qi8 : ∀ f pf,tB f=some pf->prog17z f=some pf:=fun f pf h=>by
 unfold tB at h
 split at h<;>first | (cases h; rfl) | cases h
theorem qi9 : ∀ f pf,tH f=some pf->prog17z f=some pf:=fun f pf h=>by
 unfold tH at h
 split at h<;>first | (cases h; rfl) | cases h
theorem qho:Z prog17z (.call 321 [] [])=some (.ret (.bool true) []):=qaR (n:=3000) (by kernel_rfl)
end Go.Pm
end SZz
section SZd
namespace Go.Pm
open F
set_option maxHeartbeats 4000000
theorem qc1 {prog:Nat->Option PFun} (h17:prog 17=some F17) {n m:Int} (h1:I64 n) (hm:1<=m):Z prog (.call 17 [.int n,.int m] [])=some (.ret (.int (around n m)) []):=by
 refine qbf h17 rfl ?_
 unfold around
 have hm0 : ¬ m=0:=by omega
 by_cases h:n<0
 ·have w1:IntKind.i64.wrap (n+1)=n+1:=qaB _ (by unfold I64 at h1; omega)
  have w2:IntKind.i64.wrap (-(n+1)) = -(n+1):=qaB _ (by unfold I64 at h1; omega)
  simp[F17,h,hm0,w1,w2]
 ·simp[F17,h,hm0]
theorem qh4 {prog:Nat->Option PFun} (h17:prog 17=some F17) (h19:prog 319=some F319) {n:Int} (h1:I64 n) : ∃ j:Nat,j<6/\(j:Int)=(around n 60).tmod 6/\Z prog (.call 319 [.int n] [])=some (.ret (.str (srcB j)) []):=by
 have z:=qc1 h17 h1 (m:=60) (by omega)
 have r:=qb0 h1 (m:=60) (by omega)
 generalize around n 60=a at *
 have q1:=Int.tmod_nonneg 6 r.1
 have q2:=Int.tmod_lt_of_pos a (show (0:Int)<6 by omega)
 refine⟨(a.tmod 6).toNat,by omega,by omega,?_⟩
 generalize hj:a.tmod 6=j at *
 obtain rfl | rfl | rfl | rfl | rfl | rfl:j=0\/j=1\/j=2\/j=3\/j=4\/j=5:=by omega
 all_goals
  refine qbf h19 rfl ?_
  simp[F319,z,hj,qah,srcB,List.range_succ]
theorem qgo (l:List Int):V.one (.dat (qhs l))=true:=by cases l<;>rfl
theorem qh5 (l:List Int):V.cells (.dat (qhs l))=[.dat (qhs l)]:=by cases l<;>rfl
def vrB (t:Int) (j:Nat):Vr:=⟨t,qhs (qls j),(qkg j).1,(qkg j).2.1,(qkg j).2.2,qgo _,qh5 _⟩
theorem qld {prog:Nat->Option PFun} (h7 : ∀ k pf,tB k=some pf->prog k=some pf) (t:Int) {j:Nat} (hj:j<6):qjb prog (srcB j) (vrB t j):=by
 have z:=qe8 h7 (qgI j (by omega))
 have e:qf8 j=0:=by
  obtain rfl | rfl | rfl | rfl | rfl | rfl:j=0\/j=1\/j=2\/j=3\/j=4\/j=5:=by omega
  all_goals rfl
 rw[e] at z
 exact z
section
variable {prog:Nat->Option PFun} (h7 : ∀ k pf,tB k=some pf->prog k=some pf) (h17:prog 17=some F17) (h19:prog 319=some F319)
include h7 h17 h19
omit h7 in
end
end Go.Pm
end SZd
section SZn
namespace Go.Pm
open F
set_option maxHeartbeats 4000000
def stN (xs:List Int) (i:Nat):Int:=around (xs.getD i 0) 1000000
def stG (n:Int):Nat:=if (n.tdiv 54).tmod 7=0 then 6+((n.tdiv 378).tmod 4).toNat else ((around (n.tdiv 9) 60).tmod 6).toNat
def stT (xs:List Int):Nat->Int
 | 0=>0
 | i+1=>stT xs i+(stN xs i).tmod 9-1
def stC (xs:List Int):Nat->List D
 | 0=>[]
 | i+1=>stC xs i++[.lit (.int .i64 (stT xs (i+1))),.lit (.string (srcB (stG (stN xs i))))]
theorem qfs (xs:List Int) : ∀ i,(stC xs i).length=i*2
 | 0=>rfl
 | i+1=>by simp[stC,qfs xs i]; omega
theorem qep {xs:List Int} (hx : ∀ x∈xs,I64 x) (i:Nat):0<=stN xs i/\stN xs i<1000000:=by
 refine qb0 ?_ (by omega)
 by_cases h:i<xs.length
 ·rw[List.getD_eq_getElem?_getD,List.getElem?_eq_getElem h]; exact hx _ (List.getElem_mem h)
 ·rw[List.getD_eq_getElem?_getD,List.getElem?_eq_none (by omega)]; unfold I64; simp
theorem qgr {xs:List Int} (hx : ∀ x∈xs,I64 x) : ∀ i:Nat,-(i:Int)<=stT xs i/\stT xs i<=7*i
 | 0=>⟨by simp[stT],by simp[stT]⟩
 | i+1=>by
  have h:=qgr hx i
  have r:=qep hx i
  have a:=Int.tmod_nonneg 9 r.1
  have b:=Int.tmod_lt_of_pos (stN xs i) (show (0:Int)<9 by omega)
  simp only[stT]
  omega
section
variable {prog:Nat->Option PFun} (h17:prog 17=some F17) (h19:prog 319=some F319)
include h17 h19
theorem qic {n:Int} (h1:I64 n):Z prog (.call 319 [.int n] [])=some (.ret (.str (srcB ((around n 60).tmod 6).toNat)) []):=by
 obtain⟨j,_,e,z⟩:=qh4 h17 h19 h1
 rw[<- e]
 exact z
theorem qjT {xs:List Int} {i:Nat} (hx : ∀ x∈xs,I64 x) (hi:i<xs.length) (h12:i<12) (h0:0<i) :
  Z prog (.loop 0 F341l0 [(0,.dat (.sl (intsC xs) xs.length false)),(3,.gsl (stC xs i) i 2 0),(4,.int (stT xs i)),(5,.int i)] [.tip (i*2)]) =
  Z prog (.loop 0 F341l0 [(0,.dat (.sl (intsC xs) xs.length false)),(3,.gsl (stC xs (i+1)) (i+1) 2 0),(4,.int (stT xs (i+1))),(5,.int (i+1:Nat))] [.tip ((i+1)*2)]):=by
 have hc:qae (intsC xs) i 1=some [.lit (.int .i64 xs[i])]:=by
  unfold qae intsC
  rw[<- List.map_drop,List.drop_eq_getElem_cons hi,List.map_cons]
  rfl
 have hN:around xs[i] 1000000=stN xs i:=by unfold stN; rw[List.getD_eq_getElem?_getD,List.getElem?_eq_getElem hi]; rfl
 have zA:=qc1 h17 (n:=xs[i]) (m:=1000000) (hx _ (List.getElem_mem hi)) (by omega)
 rw[hN] at zA
 have rN:=qep hx i
 have rT:=qgr hx i
 have lC:=qfs xs i
 have q0:=Int.tmod_nonneg 9 rN.1
 have q1:=Int.tmod_lt_of_pos (stN xs i) (show (0:Int)<9 by omega)
 have w1:IntKind.i64.wrap ((i:Int)+1)=((i+1:Nat):Int):=by rw[qaB _ (by omega)]; omega
 have w2:IntKind.i64.wrap (stT xs i+(stN xs i).tmod 9)=stT xs i+(stN xs i).tmod 9:=qaB _ (by omega)
 have w3:IntKind.i64.wrap (stT xs i+(stN xs i).tmod 9-1)=stT xs (i+1):=qaB _ (by omega)
 have hlt:(i:Int)<xs.length:=by omega
 have h12':(i:Int)<12:=by omega
 have rm:qas (i+1) 24:=by simp[qas]; omega
 have dv : ∀ k:Int,0<k->0<=(stN xs i).tdiv k/\(stN xs i).tdiv k<=stN xs i:=fun k hk=>⟨Int.tdiv_nonneg rN.1 (by omega),Int.tdiv_le_self _ rN.1⟩
 have d9:=dv 9 (by omega)
 have d54:=dv 54 (by omega)
 have d378:=dv 378 (by omega)
 have v9:IntKind.i64.wrap ((stN xs i).tdiv 9)=(stN xs i).tdiv 9:=qaB _ (by omega)
 have v54:IntKind.i64.wrap ((stN xs i).tdiv 54)=(stN xs i).tdiv 54:=qaB _ (by omega)
 have v378:IntKind.i64.wrap ((stN xs i).tdiv 378)=(stN xs i).tdiv 378:=qaB _ (by omega)
 have zS:=qic h17 h19 (n:=(stN xs i).tdiv 9) (by unfold I64; omega)
 have e':stC xs (i+1)=stC xs i++[.lit (.int .i64 (stT xs (i+1))),.lit (.string (srcB (stG (stN xs i))))]:=rfl
 have e3:(i+1)*2=i*2+2:=by omega
 rw[e',e3]
 have q4:=Int.tmod_nonneg 4 d378.1
 have q5:=Int.tmod_lt_of_pos ((stN xs i).tdiv 378) (show (0:Int)<4 by omega)
 unfold stG
 generalize ((i+1:Nat):Int)=i1 at *
 generalize stT xs (i+1)=t1 at *
 generalize hs:srcB ((around ((stN xs i).tdiv 9) 60).tmod 6).toNat=sh at *
 generalize stN xs i=n at *
 generalize stT xs i=t0 at *
 generalize stC xs i=W at *
 clear hx hN e'
 generalize xs[i]=x at *
 generalize intsC xs=C at *
 generalize xs.length=m at *
 conv=>lhs; rw[qao]
 by_cases h7:(n.tdiv 54).tmod 7=0
 ·rw[if_pos h7]
  generalize hj:(n.tdiv 378).tmod 4=j at *
  obtain rfl | rfl | rfl | rfl:j=0\/j=1\/j=2\/j=3:=by omega
  all_goals simp[qap,qbc,V.len,qah,qbS,qiD,hlt,h12',hi,hc,zA,zS,w1,w2,w3,v9,v54,v378,h7,hj,lC,rm,srcB,List.range_succ]
 ·rw[if_neg h7]
  simp[qap,qbc,V.len,qah,qbS,qiD,hlt,h12',hi,hc,zA,zS,w1,w2,w3,v9,v54,v378,h7,lC,rm,hs,List.range_succ]
theorem qjU {xs:List Int} (hx : ∀ x∈xs,I64 x) (hi:0<xs.length) :
  Z prog (.loop 0 F341l0 [(0,.dat (.sl (intsC xs) xs.length false)),(3,.dat (.lit (.slice none 0 0))),(4,.int 0),(5,.int 0)] []) =
  Z prog (.loop 0 F341l0 [(0,.dat (.sl (intsC xs) xs.length false)),(3,.gsl (stC xs 1) 1 2 0),(4,.int (stT xs 1)),(5,.int 1)] [.tip 2]):=by
 have hc:qae (intsC xs) 0 1=some [.lit (.int .i64 xs[0])]:=by
  unfold qae intsC
  rw[<- List.map_drop,List.drop_eq_getElem_cons hi,List.map_cons]
  rfl
 have hN:around xs[0] 1000000=stN xs 0:=by unfold stN; rw[List.getD_eq_getElem?_getD,List.getElem?_eq_getElem hi]; rfl
 have zA:=qc1 h17 (n:=xs[0]) (m:=1000000) (hx _ (List.getElem_mem hi)) (by omega)
 rw[hN] at zA
 have rN:=qep hx 0
 have q0:=Int.tmod_nonneg 9 rN.1
 have q1:=Int.tmod_lt_of_pos (stN xs 0) (show (0:Int)<9 by omega)
 have w2:IntKind.i64.wrap ((stN xs 0).tmod 9)=(stN xs 0).tmod 9:=qaB _ (by omega)
 have w3:IntKind.i64.wrap ((stN xs 0).tmod 9-1)=stT xs 1:=by rw[qaB _ (by omega)]; simp[stT]
 have hlt:(0:Int)<xs.length:=by omega
 have dv : ∀ k:Int,0<k->0<=(stN xs 0).tdiv k/\(stN xs 0).tdiv k<=stN xs 0:=fun k hk=>⟨Int.tdiv_nonneg rN.1 (by omega),Int.tdiv_le_self _ rN.1⟩
 have d9:=dv 9 (by omega)
 have d54:=dv 54 (by omega)
 have d378:=dv 378 (by omega)
 have v9:IntKind.i64.wrap ((stN xs 0).tdiv 9)=(stN xs 0).tdiv 9:=qaB _ (by omega)
 have v54:IntKind.i64.wrap ((stN xs 0).tdiv 54)=(stN xs 0).tdiv 54:=qaB _ (by omega)
 have v378:IntKind.i64.wrap ((stN xs 0).tdiv 378)=(stN xs 0).tdiv 378:=qaB _ (by omega)
 have zS:=qic h17 h19 (n:=(stN xs 0).tdiv 9) (by unfold I64; omega)
 have e':stC xs 1=[.lit (.int .i64 (stT xs 1)),.lit (.string (srcB (stG (stN xs 0))))]:=rfl
 rw[e']
 have q4:=Int.tmod_nonneg 4 d378.1
 have q5:=Int.tmod_lt_of_pos ((stN xs 0).tdiv 378) (show (0:Int)<4 by omega)
 unfold stG
 generalize stT xs 1=t1 at *
 generalize hs:srcB ((around ((stN xs 0).tdiv 9) 60).tmod 6).toNat=sh at *
 generalize stN xs 0=n at *
 clear hx hN e'
 generalize xs[0]=x at *
 generalize intsC xs=C at *
 generalize xs.length=m at *
 conv=>lhs; rw[qao]
 by_cases h7:(n.tdiv 54).tmod 7=0
 ·rw[if_pos h7]
  generalize hj:(n.tdiv 378).tmod 4=j at *
  obtain rfl | rfl | rfl | rfl:j=0\/j=1\/j=2\/j=3:=by omega
  all_goals simp[qap,qbc,V.len,qah,qbS,qiD,hlt,hi,hc,zA,zS,qaB,qas,w2,w3,v9,v54,v378,h7,hj,srcB,List.range_succ]
 ·rw[if_neg h7]
  simp[qap,qbc,V.len,qah,qbS,qiD,hlt,hi,hc,zA,zS,qaB,qas,w2,w3,v9,v54,v378,h7,hs,List.range_succ]
omit h17 h19 in
theorem qjV {xs:List Int} {i:Nat} (h : ¬ (i<xs.length/\i<12)):Z prog (.loop 0 F341l0 [(0,.dat (.sl (intsC xs) xs.length false)),(3,.gsl (stC xs i) i 2 0),(4,.int (stT xs i)),(5,.int i)] [.tip (i*2)]) =
  some (.out (.exit 0) [(0,.dat (.sl (intsC xs) xs.length false)),(3,.gsl (stC xs i) i 2 0),(4,.int (stT xs i)),(5,.int i),(15,.bool false)] [.tip (i*2)]):=by
 rw[qao]
 by_cases h1:(i:Int)<xs.length
 ·have h2 : ¬ (i:Int)<12:=by omega
  simp[qap,qbc,V.len,h1,h2,List.range_succ]
 ·simp[qap,qbc,V.len,h1,List.range_succ]
theorem qid {xs:List Int} (hx : ∀ x∈xs,I64 x) : ∀ (k i:Nat),i+k=min xs.length 12->0<i ->
  Z prog (.loop 0 F341l0 [(0,.dat (.sl (intsC xs) xs.length false)),(3,.gsl (stC xs i) i 2 0),(4,.int (stT xs i)),(5,.int i)] [.tip (i*2)]) =
  some (.out (.exit 0) [(0,.dat (.sl (intsC xs) xs.length false)),(3,.gsl (stC xs (min xs.length 12)) (min xs.length 12) 2 0),(4,.int (stT xs (min xs.length 12))),(5,.int (min xs.length 12:Nat)),(15,.bool false)] [.tip (min xs.length 12*2)])
 | 0,i,h,h0=>by
  rw[<- h]
  exact qjV (by omega)
 | k+1,i,h,h0=>by
  rw[qjT h17 h19 hx (by omega) (by omega) h0]
  exact qid hx k (i+1) (by omega) (by omega)
def stD (xs:List Int):D:=match min xs.length 12 with
 | 0 => .lit (.slice none 0 0)
 | k+1 => .sl (stC xs (k+1)) (k+1) false
theorem qjW (h341:prog 341=some F341) {d:D} {xs:List Int} (h:RowV d xs) (hx : ∀ x∈xs,I64 x):Z prog (.call 341 [.dat d] [])=some (.ret (.dat (stD xs)) []):=by
 refine qbf h341 rfl ?_
 by_cases h0:xs.length=0
 ·have e:stD xs = .lit (.slice none 0 0):=by unfold stD; simp[h0]
  rw[e]
  rcases h with ⟨o,rfl,rfl⟩ | rfl
  ·have z0:Z prog (.loop 0 F341l0 [(0,.dat (.lit (.slice o 0 0))),(3,.dat (.lit (.slice none 0 0))),(4,.int 0),(5,.int 0)] [])=some (.out (.exit 0) [(0,.dat (.lit (.slice o 0 0))),(3,.dat (.lit (.slice none 0 0))),(4,.int 0),(5,.int 0),(15,.bool false)] []):=by
    rw[qao]
    simp[qap,qbc,V.len,List.range_succ]
   simp[F341,z0,List.range_succ]
   done
  ·obtain rfl:xs=[]:=List.length_eq_zero_iff.1 h0
   have z0:Z prog (.loop 0 F341l0 [(0,.dat (.sl [] 0 false)),(3,.dat (.lit (.slice none 0 0))),(4,.int 0),(5,.int 0)] [])=some (.out (.exit 0) [(0,.dat (.sl [] 0 false)),(3,.dat (.lit (.slice none 0 0))),(4,.int 0),(5,.int 0),(15,.bool false)] []):=by
    rw[qao]
    simp[qap,qbc,V.len,List.range_succ]
   simp[F341,intsC,z0,List.range_succ]
   done
 ·rcases h with ⟨o,rfl,rfl⟩ | rfl
  ·simp at h0
  have zl:=(qjU h17 h19 hx (by omega)).trans (qid h17 h19 hx (min xs.length 12-1) 1 (by omega) (by omega))
  obtain⟨k,hk⟩ : ∃ k,min xs.length 12=k+1:=⟨min xs.length 12-1,by omega⟩
  have e:stD xs = .sl (stC xs (k+1)) (k+1) false:=by unfold stD; rw[hk]
  have lC:=qfs xs (k+1)
  rw[hk] at zl
  rw[e]
  generalize stC xs (k+1)=W at *
  generalize stT xs (k+1)=t at *
  generalize ((k+1:Nat):Int)=kI at *
  generalize k+1=k1 at *
  generalize intsC xs=C at *
  generalize xs.length=m at *
  simp[F341,zl,lC,List.range_succ]
  done
end
end Go.Pm
end SZn
section SZo
namespace Go.Pm
open F
set_option maxHeartbeats 4000000
def qil (L:List Vr) (t:Int) (j:Nat):List Vr:=if 8<L.length then L else if t<=lastT L then L else if qf8 j=0 then L++[vrB t j] else L
def addE (L:List Vr) (t:Int) (j:Nat):Int:=if 8<L.length then 2 else if t<=lastT L then 5 else qf8 j
theorem qi2 {L:List Vr} {t:Int} {j:Nat} (h:0<L.length):0<(qil L t j).length:=by
 unfold qil
 split
 ·exact h
 ·split
  ·exact h
  ·split
   ·simp
   ·exact h
theorem qj7 {L:List Vr} {t:Int} {j:Nat} (h:L.length<=9):(qil L t j).length<=9:=by
 unfold qil
 split
 ·exact h
 ·split
  ·exact h
  ·split
   ·simp; omega
   ·exact h
theorem qjs : ∀ j,j<10->qf8 j=0->j<6
 | 0,_,_ | 1,_,_ | 2,_,_ | 3,_,_ | 4,_,_ | 5,_,_=>by omega
 | 6,_,h | 7,_,h | 8,_,h | 9,_,h=>absurd h (by decide)
 | n+10,h,_=>by omega
section
variable {prog:Nat->Option PFun} (h7 : ∀ k pf,tB k=some pf->prog k=some pf)
include h7
theorem qlo {L:List Vr} (h0:0<L.length) (t:Int) {j:Nat} (hj:j<10):Z prog (.call 318 [.ptr 0 0,.int t,.str (srcB j)] (qaW L))=some (.ret (.int (addE L t j)) (qaW (qil L t j))):=by
 unfold qil addE
 by_cases h8:8<L.length
 ·rw[if_pos h8,if_pos h8]
  exact qhz h7 h8 t _
 ·rw[if_neg h8,if_neg h8]
  by_cases ht:t<=lastT L
  ·rw[if_pos ht,if_pos ht]
   exact qhA h7 h0 (by omega) ht _
  ·rw[if_neg ht,if_neg ht]
   by_cases he:qf8 j=0
   ·rw[if_pos he,he]
    have:=qgD h7 h0 (by omega) (v:=vrB t j) (by show lastT L<t; omega) (qld h7 t (qjs j hj he))
    exact this
   ·rw[if_neg he]
    exact qjw h7 h0 (by omega) (by omega) he ⟨_,_,_,_,rfl,qgo _,qh5 _,rfl,rfl,rfl,rfl,rfl,rfl⟩ (qe8 h7 (qgI j hj))
end
end Go.Pm
end SZo
section SZp
namespace Go.Pm
open F
set_option maxHeartbeats 4000000
def bkL (j0:Nat) (xs:List Int):Nat->List Vr
 | 0=>[vrB 0 j0]
 | i+1=>qil (bkL j0 xs i) (stT xs (i+1)) (stG (stN xs i))
theorem qgg (j0:Nat) (xs:List Int) : ∀ i,0<(bkL j0 xs i).length
 | 0=>by simp[bkL]
 | i+1=>qi2 (qgg j0 xs i)
theorem qjf (j0:Nat) (xs:List Int) : ∀ i,(bkL j0 xs i).length<=9
 | 0=>by simp[bkL]
 | i+1=>qj7 (qjf j0 xs i)
theorem qjg {n:Int} (h:0<=n/\n<1000000):stG n<10:=by
 unfold stG
 have a:=Int.tmod_lt_of_pos (n.tdiv 378) (show (0:Int)<4 by omega)
 have b:=Int.tmod_lt_of_pos (around (n.tdiv 9) 60) (show (0:Int)<6 by omega)
 split<;>omega
theorem qhI (xs:List Int) : ∀ k i,i<k->qae (stC xs k) (i*2) 1=some [.lit (.int .i64 (stT xs (i+1)))]/\qae (stC xs k) (i*2+1) 1=some [.lit (.string (srcB (stG (stN xs i))))]
 | 0,i,h=>by omega
 | k+1,i,h=>by
  have l:=qfs xs k
  by_cases hik:i<k
  ·obtain⟨h1,h2⟩:=qhI xs k i hik
   have e : ∀ o n:Nat,o+n<=(stC xs k).length->qae (stC xs (k+1)) o n=qae (stC xs k) o n:=by
    intro o n ho
    have he:((stC xs (k+1)).drop o).take n=((stC xs k).drop o).take n:=by
     show ((stC xs k++_).drop o).take n=_
     rw[List.drop_append_of_le_length (by omega),List.take_append_of_le_length (by rw[List.length_drop]; omega)]
    unfold qae
    rw[he]
   exact⟨(e _ _ (by omega)).trans h1,(e _ _ (by omega)).trans h2⟩
  ·obtain rfl:i=k:=by omega
   have hd:(stC xs (i+1)).drop (i*2)=[.lit (.int .i64 (stT xs (i+1))),.lit (.string (srcB (stG (stN xs i))))]:=by
    show (stC xs i++_).drop (i*2)=_
    rw[<- l,List.drop_left]
   have hd1:(stC xs (i+1)).drop (i*2+1)=[.lit (.string (srcB (stG (stN xs i))))]:=by
    rw[<- List.drop_drop,hd]
    rfl
   unfold qae
   rw[hd,hd1]
   exact⟨rfl,rfl⟩
section
variable {prog:Nat->Option PFun} (h7 : ∀ k pf,tB k=some pf->prog k=some pf)
include h7
theorem qjD {j0:Nat} {xs:List Int} (hx : ∀ x∈xs,I64 x) {n i:Nat} (hi:i<n) (hn:n<=12) :
  Z prog (.loop 0 F347l0 [(5,.ptr 0 0),(7,.dat (.sl (stC xs n) n false)),(8,.int i)] (qaW (bkL j0 xs i))) =
  Z prog (.loop 0 F347l0 [(5,.ptr 0 0),(7,.dat (.sl (stC xs n) n false)),(8,.int (i+1:Nat))] (qaW (bkL j0 xs (i+1)))):=by
 obtain⟨h1,h2⟩:=qhI xs n i hi
 have za:=qlo h7 (qgg j0 xs i) (stT xs (i+1)) (qjg (qep hx i))
 have w1:IntKind.i64.wrap ((i:Int)+1)=((i+1:Nat):Int):=by rw[qaB _ (by omega)]; omega
 have hlt:(i:Int)<n:=by omega
 rw[show qil (bkL j0 xs i) (stT xs (i+1)) (stG (stN xs i))=bkL j0 xs (i+1) from rfl] at za
 generalize addE (bkL j0 xs i) (stT xs (i+1)) (stG (stN xs i))=e at *
 generalize srcB (stG (stN xs i))=s at *
 generalize stT xs (i+1)=t at *
 generalize stC xs n=C at *
 generalize bkL j0 xs i=L at *
 generalize bkL j0 xs (i+1)=L' at *
 generalize ((i+1:Nat):Int)=i1 at *
 conv=>lhs; rw[qao]
 rcases qds L with ⟨C0,e0⟩ | ⟨C0,n0,m0,e0⟩<;>rcases qds L' with ⟨C',e'⟩ | ⟨C',n',m',e'⟩<;>rw[e0,e'] at za<;>rw[e0,e']
 all_goals simp[qap,qdE,V.len,qah,hlt,hi,h1,h2,w1,za,List.range_succ]
 all_goals exact qa1 (by simp[gcF,List.range_succ])
theorem qhJ {j0:Nat} {xs:List Int} (hx : ∀ x∈xs,I64 x) {n:Nat} (hn:n<=12) : ∀ (k i:Nat),i+k=n ->
  Z prog (.loop 0 F347l0 [(5,.ptr 0 0),(7,.dat (.sl (stC xs n) n false)),(8,.int i)] (qaW (bkL j0 xs i))) =
  some (.out (.exit 0) [(5,.ptr 0 0),(7,.dat (.sl (stC xs n) n false)),(8,.int n),(26,.bool false)] (qaW (bkL j0 xs n)))
 | 0,i,h=>by
  obtain rfl:i=n:=by omega
  rw[qao]
  rcases qds (bkL j0 xs i) with ⟨C,e⟩ | ⟨C,n,m,e⟩<;>rw[e]<;>simp[qap,qdE,V.len,List.range_succ]
 | k+1,i,h=>by
  rw[qjD h7 hx (by omega) hn]
  exact qhJ hx hn k (i+1) (by omega)
def bkOf (first:Int) (xs:List Int):List Vr:=bkL ((around first 60).tmod 6).toNat xs (min xs.length 12)
theorem qjE (h17:prog 17=some F17) (h19:prog 319=some F319) (h341:prog 341=some F341) (h347:prog 347=some F347) {first:Int} (hf:I64 first) {d:D} {xs:List Int} (h:RowV d xs) (hx : ∀ x∈xs,I64 x) :
  Z prog (.call 347 [.int first,.dat d] [])=some (.ret (.ptr 0 0) (qaW (bkOf first xs))):=by
 obtain⟨j,hj,hje,zs⟩:=qh4 h17 h19 hf
 have zt:=qjW h17 h19 h341 h hx
 have zn:=qlJ h7 (qld h7 0 hj) rfl
 have ej:((around first 60).tmod 6).toNat=j:=by omega
 unfold bkOf
 rw[ej]
 rw[qgC] at zn
 have o:=h.one
 have c:=h.cells
 refine qbf h347 rfl ?_
 generalize srcB j=s at *
 by_cases h0:min xs.length 12=0
 ·rw[h0]
  have e:stD xs = .lit (.slice none 0 0):=by unfold stD; rw[h0]
  rw[e] at zt
  rw[show bkL j xs 0=[vrB 0 j] from rfl,qgC]
  generalize vrC [vrB 0 j]=C at *
  have z0:Z prog (.loop 0 F347l0 [(5,.ptr 0 0),(7,.dat (.lit (.slice none 0 0))),(8,.int 0)] [.cells [.dat (.sl C 1 true)]])=some (.out (.exit 0) [(5,.ptr 0 0),(7,.dat (.lit (.slice none 0 0))),(8,.int 0),(26,.bool false)] [.cells [.dat (.sl C 1 true)]]):=by
   rw[qao]
   simp[qap,qdE,V.len,List.range_succ]
  simp[F347,zs,zn,zt,z0,List.range_succ]
  done
 ·obtain⟨k,hk⟩ : ∃ k,min xs.length 12=k+1:=⟨min xs.length 12-1,by omega⟩
  have e:stD xs = .sl (stC xs (k+1)) (k+1) false:=by unfold stD; rw[hk]
  have zl:=qhJ h7 (j0:=j) hx (n:=k+1) (by omega) (k+1) 0 (by omega)
  rw[e] at zt
  rw[hk]
  rw[show bkL j xs 0=[vrB 0 j] from rfl,qgC,show ((0:Nat):Int)=0 from rfl] at zl
  generalize vrC [vrB 0 j]=C at *
  generalize stC xs (k+1)=W at *
  generalize bkL j xs (k+1)=L' at *
  rcases qds L' with ⟨C',e'⟩ | ⟨C',n',m',e'⟩<;>rw[e'] at zl ⊢ <;> simp[F347,zs,zn,zt,zl,List.range_succ]
  done
end
end Go.Pm
end SZp
section SZq
namespace Go.Pm
open F
set_option maxHeartbeats 4000000
def qmP:D->Int
 | .lit (.int _ n)=>n
 | _=>0
def qj5:D->List Int
 | .sl C _ _=>C.map qmP
 | _=>[]
theorem qij (l:List Int):qj5 (qhs l)=l:=by
 cases l with
 | nil=>rfl
 | cons x l=>simp[qhs,qj5,intsC,qmP,Function.comp_def]
def hB (v:Vr):Int:=sumI (qdT (qdT (qdT 0 30787916450984560) 7) (IntKind.u64.wrap ((3+(qj5 v.c).length:Nat):Int))) ([v.a,v.b,v.e]++qj5 v.c)
theorem qi0 : ∀ j,j<6 -> ∃ n,(qls j).length=2*n/\n<=10000
 | 0,_=>⟨0,rfl,by omega⟩
 | 1,_=>⟨3,rfl,by omega⟩
 | 2,_=>⟨4,rfl,by omega⟩
 | 3,_=>⟨11,rfl,by omega⟩
 | 4,_=>⟨12,rfl,by omega⟩
 | 5,_=>⟨4,rfl,by omega⟩
 | j+6,h=>by omega
theorem qi1 {prog:Nat->Option PFun} (hH : ∀ k pf,tH k=some pf->prog k=some pf) (h353:prog 353=some F353) (t:Int) {j:Nat} (hj:j<6):qed prog hB (vrB t j):=by
 obtain⟨n,hn,hl⟩:=qi0 j hj
 unfold qed hB
 have e:qj5 (vrB t j).c=qls j:=qij _
 rw[e]
 exact qgW hH h353 hn hl (by rw[hn])
def OkB (L:List Vr):Prop:=(∀ v∈L,∃ t j,j<6/\v=vrB t j)/\L.Pairwise (fun a b=>a.t<b.t)
theorem qer : ∀ {L:List Vr},L.Pairwise (fun a b=>a.t<b.t) -> ∀ v∈L,v.t<=lastT L
 | [],_,v,h=>by simp at h
 | [a],_,v,h=>by simp at h; subst h; simp[lastT]
 | a::b::L,hp,v,h=>by
  have e:lastT (a::b::L)=lastT (b::L):=rfl
  rw[e]
  obtain⟨h1,h2⟩:=List.pairwise_cons.1 hp
  rcases List.mem_cons.1 h with rfl | h
  ·have:=h1 b (by simp)
   have:=qer h2 b (by simp)
   omega
  ·exact qer h2 v h
theorem qlm {L:List Vr} (h:OkB L) (t:Int) {j:Nat} (hj:j<10):OkB (qil L t j):=by
 unfold qil
 split
 ·exact h
 ·split
  ·exact h
  ·rename_i ht
   split
   ·rename_i he
    refine⟨fun v hv=>?_,List.pairwise_append.2 ⟨h.2,by simp,fun a ha b hb=>?_⟩⟩
    ·rcases List.mem_append.1 hv with hv | hv
     ·exact h.1 v hv
     ·simp at hv
      exact⟨t,j,qjs j hj he,hv⟩
    ·simp at hb
     subst hb
     have:=qer h.2 a ha
     show a.t<t
     omega
   ·exact h
theorem qln {j0:Nat} (h0:j0<6) {xs:List Int} (hx : ∀ x∈xs,I64 x) : ∀ i,OkB (bkL j0 xs i)
 | 0=>⟨fun v hv=>by simp[bkL] at hv; exact⟨0,j0,h0,hv⟩,by simp[bkL]⟩
 | i+1=>qlm (qln h0 hx i) _ (qjg (qep hx i))
end Go.Pm
end SZq
section SZr
namespace Go.Pm
open F
set_option maxHeartbeats 4000000
def yB (L:List Vr):Int:=qdT (qdT 17196531580303950166 4) (IntKind.u64.wrap ((2*L.length:Nat):Int))
def rootI (L:List Vr):Int:=sumI (yB L) (wdB hB L)
end Go.Pm
end SZr
section SBa
namespace Go.Pm
open F
set_option maxHeartbeats 4000000
def qhP (s w:BitVec 64):BitVec 64:=((s ^^^ w)*11400714819323198485#64) ^^^ (((s ^^^ w)*11400714819323198485#64) >>> 32)
theorem qiG (x:BitVec 64):IntKind.u64.wrap (x.toNat:Int)=x.toNat:=qgw _ (by have:=x.isLt; omega)
theorem qfQ (x:BitVec 64):BitVec.ofInt 64 (x.toNat:Int)=x:=by
 apply BitVec.eq_of_toNat_eq
 have:=x.isLt
 rw[BitVec.toNat_ofInt]
 omega
theorem qgO (s w:Int):qgN .u64 (· ^^^ ·) s w=((BitVec.ofInt 64 s ^^^ BitVec.ofInt 64 w).toNat:Int):=qiG (BitVec.ofInt 64 s ^^^ BitVec.ofInt 64 w)
theorem qiH (s w:Int):qim s w=(((BitVec.ofInt 64 s ^^^ BitVec.ofInt 64 w)*11400714819323198485#64).toNat:Int):=by
 unfold qim
 rw[qgO]
 generalize BitVec.ofInt 64 s ^^^ BitVec.ofInt 64 w=x
 have hw : ∀ n:Int,IntKind.u64.wrap n=n % 18446744073709551616:=fun n=>by simp[IntKind.wrap,IntKind.bits,IntKind.signed]
 rw[hw,BitVec.toNat_mul]
 rw[show (11400714819323198485#64).toNat=11400714819323198485 from rfl]
 generalize x.toNat=n
 omega
theorem qdh (s w:Int):qdT s w=((qhP (BitVec.ofInt 64 s) (BitVec.ofInt 64 w)).toNat:Int):=by
 rw[qin,qiH]
 unfold qhP
 generalize (BitVec.ofInt 64 s ^^^ BitVec.ofInt 64 w)*11400714819323198485#64=m
 rw[qgO,qfQ]
 have e:BitVec.ofInt 64 ((m.toNat:Int).tdiv 4294967296)=m >>> 32:=by
  apply BitVec.eq_of_toNat_eq
  have:=m.isLt
  rw[BitVec.toNat_ofInt,BitVec.toNat_ushiftRight,Nat.shiftRight_eq_div_pow,Int.tdiv_eq_ediv_of_nonneg (by omega)]
  omega
 rw[e]
theorem qgl {s w s' w':BitVec 64} (h:qhP s w=qhP s' w'):s ^^^ w=s' ^^^ w':=by
 have inv : ∀ m:BitVec 64,(m ^^^ (m >>> 32)) ^^^ ((m ^^^ (m >>> 32)) >>> 32)=m:=by
  intro m
  rw[BitVec.ushiftRight_xor_distrib,<- BitVec.shiftRight_add]
  have z:m >>> (32+32)=0#64:=by
   apply BitVec.eq_of_toNat_eq
   have:=m.isLt
   rw[BitVec.toNat_ushiftRight,Nat.shiftRight_eq_div_pow]
   simp
   omega
  rw[z,BitVec.xor_zero,BitVec.xor_assoc,BitVec.xor_self,BitVec.xor_zero]
 have h1:(s ^^^ w)*11400714819323198485#64=(s' ^^^ w')*11400714819323198485#64:=by
  have a:=inv ((s ^^^ w)*11400714819323198485#64)
  have b:=inv ((s' ^^^ w')*11400714819323198485#64)
  unfold qhP at h
  rw[h,b] at a
  exact a.symm
 have k:(11400714819323198485#64)*(17428512612931826493#64)=1#64:=by decide
 have a : ∀ x:BitVec 64,x*11400714819323198485#64*17428512612931826493#64=x:=fun x=>by rw[BitVec.mul_assoc,k,BitVec.mul_one]
 rw[<- a (s ^^^ w),h1,a]
theorem qkY {s w w':BitVec 64} (h:s ^^^ w=s ^^^ w'):w=w':=by
 have:s ^^^ (s ^^^ w)=s ^^^ (s ^^^ w'):=by rw[h]
 rwa [<- BitVec.xor_assoc,<- BitVec.xor_assoc,BitVec.xor_self,BitVec.zero_xor,BitVec.zero_xor] at this
theorem qkZ {s s' w:BitVec 64} (h:s ^^^ w=s' ^^^ w):s=s':=qkY (s:=w) (by rw[BitVec.xor_comm w s,BitVec.xor_comm w s',h])
def qhe (B:BitVec 64) (ws:List Int):BitVec 64:=ws.foldl (fun s w=>qhP s (BitVec.ofInt 64 w)) B
theorem qeL (w:Int):BitVec.ofInt 64 (IntKind.u64.wrap w)=BitVec.ofInt 64 w:=by
 apply BitVec.eq_of_toNat_eq
 have hw:IntKind.u64.wrap w=w % 18446744073709551616:=by simp[IntKind.wrap,IntKind.bits,IntKind.signed]
 rw[hw,BitVec.toNat_ofInt,BitVec.toNat_ofInt]
 omega
theorem qfh : ∀ (ws:List Int) (B:Int),BitVec.ofInt 64 (foldI B ws)=qhe (BitVec.ofInt 64 B) ws
 | [],B=>rfl
 | w::ws,B=>by
  have:=qfh ws (qdT B (IntKind.u64.wrap w))
  rw[qdh,qfQ,qeL] at this
  have e:foldI B (w::ws)=foldI (qdT B (IntKind.u64.wrap w)) ws:=rfl
  rw[e,qdh,qeL]
  exact this
theorem qfR : ∀ (ws:List Int) {S S':BitVec 64},qhe S ws=qhe S' ws->S=S'
 | [],_,_,h=>h
 | w::ws,S,S',h=>qkZ (qgl (qfR ws (S:=qhP S (BitVec.ofInt 64 w)) (S':=qhP S' (BitVec.ofInt 64 w)) h))
theorem qfi {B:Int} {xs ys:List Int} {x y:Int} (h:sumI B (xs++x::ys)=sumI B (xs++y::ys)):BitVec.ofInt 64 x=BitVec.ofInt 64 y:=by
 unfold sumI at h
 rw[qdh,qdh,qfh,qfh] at h
 have h1:=qkZ (qgl (BitVec.eq_of_toNat_eq (by omega:(qhP (qhe (BitVec.ofInt 64 B) (xs++x::ys)) (BitVec.ofInt 64 0)).toNat=(qhP (qhe (BitVec.ofInt 64 B) (xs++y::ys)) (BitVec.ofInt 64 0)).toNat)))
 unfold qhe at h1
 rw[List.foldl_append,List.foldl_append,List.foldl_cons,List.foldl_cons] at h1
 exact qkY (qgl (qfR ys h1))
theorem qgP {x y:Int} (hx:I64 x) (hy:I64 y) (h:BitVec.ofInt 64 x=BitVec.ofInt 64 y):x=y:=by
 have:(BitVec.ofInt 64 x).toNat=(BitVec.ofInt 64 y).toNat:=by rw[h]
 rw[BitVec.toNat_ofInt,BitVec.toNat_ofInt] at this
 unfold I64 at hx hy
 omega
theorem qhQ {x y:Int} (hx:0<=x/\x<18446744073709551616) (hy:0<=y/\y<18446744073709551616) (h:BitVec.ofInt 64 (IntKind.i64.wrap x)=BitVec.ofInt 64 (IntKind.i64.wrap y)):x=y:=by
 have e : ∀ n:Int,BitVec.ofInt 64 (IntKind.i64.wrap n)=BitVec.ofInt 64 n:=by
  intro n
  apply BitVec.eq_of_toNat_eq
  rw[BitVec.toNat_ofInt,BitVec.toNat_ofInt]
  simp[IntKind.wrap,IntKind.bits,IntKind.signed]
  omega
 rw[e,e] at h
 have:(BitVec.ofInt 64 x).toNat=(BitVec.ofInt 64 y).toNat:=by rw[h]
 rw[BitVec.toNat_ofInt,BitVec.toNat_ofInt] at this
 omega
theorem qhR (B:Int) (ws:List Int):0<=sumI B ws/\sumI B ws<18446744073709551616:=by
 unfold sumI
 rw[qdh]
 have:=(qhP (BitVec.ofInt 64 (foldI B ws)) (BitVec.ofInt 64 0)).isLt
 omega
end Go.Pm
end SBa
section SBba
namespace Go.Pm
open F
set_option maxHeartbeats 4000000
def decK (K:Nat):ByteArray:=if K<10 then ⟨#[(48+K).toUInt8]⟩ else ⟨#[(48+K / 10).toUInt8,(48+K % 10).toUInt8]⟩
def qb6 (K:Nat):ByteArray:=(⟨#[111,110,32,116,105,99,107,123,118,97,61]⟩++decK K)++⟨#[59,125]⟩
def qj8 (K:Nat):List Int:=[1,K,3,0,21,0]
def vrK (t:Int) (K:Nat):Vr:=⟨t,qhs (qj8 K),-1,0,-1,qgo _,qh5 _⟩
abbrev qc3 (K:Nat):V := .dat (.agg [qhs (qj8 K),.lit (.int .i64 (-1)),.lit (.int .i64 0),.lit (.int .i64 (-1))])
def t20:Nat->Option PFun
 | 20=>some F20
 | _=>none
end Go.Pm
end SBba
section SBb0
namespace Go.Pm
open F
set_option maxHeartbeats 4000000
theorem qmR:Z tB (.call 322 [.str (qb6 0)] [])=some (.ret (.tup [qc3 0,.int 0]) []):=qaR (n:=3000) (by kernel_rfl)
theorem qmS:Z t20 (.call 20 [.int (0:Nat)] [])=some (.ret (.str (decK 0)) []):=qaR (n:=400) (by kernel_rfl)
theorem qmT:Z tB (.call 322 [.str (qb6 1)] [])=some (.ret (.tup [qc3 1,.int 0]) []):=qaR (n:=3000) (by kernel_rfl)
theorem qmU:Z t20 (.call 20 [.int (1:Nat)] [])=some (.ret (.str (decK 1)) []):=qaR (n:=400) (by kernel_rfl)
theorem qmV:Z tB (.call 322 [.str (qb6 2)] [])=some (.ret (.tup [qc3 2,.int 0]) []):=qaR (n:=3000) (by kernel_rfl)
theorem qmW:Z t20 (.call 20 [.int (2:Nat)] [])=some (.ret (.str (decK 2)) []):=qaR (n:=400) (by kernel_rfl)
theorem qmX:Z tB (.call 322 [.str (qb6 3)] [])=some (.ret (.tup [qc3 3,.int 0]) []):=qaR (n:=3000) (by kernel_rfl)
theorem qmY:Z t20 (.call 20 [.int (3:Nat)] [])=some (.ret (.str (decK 3)) []):=qaR (n:=400) (by kernel_rfl)
theorem qmZ:Z tB (.call 322 [.str (qb6 4)] [])=some (.ret (.tup [qc3 4,.int 0]) []):=qaR (n:=3000) (by kernel_rfl)
theorem qm0:Z t20 (.call 20 [.int (4:Nat)] [])=some (.ret (.str (decK 4)) []):=qaR (n:=400) (by kernel_rfl)
theorem qm1:Z tB (.call 322 [.str (qb6 5)] [])=some (.ret (.tup [qc3 5,.int 0]) []):=qaR (n:=3000) (by kernel_rfl)
theorem qm2:Z t20 (.call 20 [.int (5:Nat)] [])=some (.ret (.str (decK 5)) []):=qaR (n:=400) (by kernel_rfl)
theorem qm3:Z tB (.call 322 [.str (qb6 6)] [])=some (.ret (.tup [qc3 6,.int 0]) []):=qaR (n:=3000) (by kernel_rfl)
theorem qm4:Z t20 (.call 20 [.int (6:Nat)] [])=some (.ret (.str (decK 6)) []):=qaR (n:=400) (by kernel_rfl)
theorem qm5:Z tB (.call 322 [.str (qb6 7)] [])=some (.ret (.tup [qc3 7,.int 0]) []):=qaR (n:=3000) (by kernel_rfl)
theorem qm6:Z t20 (.call 20 [.int (7:Nat)] [])=some (.ret (.str (decK 7)) []):=qaR (n:=400) (by kernel_rfl)
theorem qm7:Z tB (.call 322 [.str (qb6 8)] [])=some (.ret (.tup [qc3 8,.int 0]) []):=qaR (n:=3000) (by kernel_rfl)
theorem qm8:Z t20 (.call 20 [.int (8:Nat)] [])=some (.ret (.str (decK 8)) []):=qaR (n:=400) (by kernel_rfl)
theorem qm9:Z tB (.call 322 [.str (qb6 9)] [])=some (.ret (.tup [qc3 9,.int 0]) []):=qaR (n:=3000) (by kernel_rfl)
theorem qna:Z t20 (.call 20 [.int (9:Nat)] [])=some (.ret (.str (decK 9)) []):=qaR (n:=400) (by kernel_rfl)
end Go.Pm
end SBb0
section SBb1
namespace Go.Pm
open F
set_option maxHeartbeats 4000000
theorem ql2:Z tB (.call 322 [.str (qb6 10)] [])=some (.ret (.tup [qc3 10,.int 0]) []):=qaR (n:=3000) (by kernel_rfl)
theorem ql3:Z t20 (.call 20 [.int (10:Nat)] [])=some (.ret (.str (decK 10)) []):=qaR (n:=400) (by kernel_rfl)
theorem ql4:Z tB (.call 322 [.str (qb6 11)] [])=some (.ret (.tup [qc3 11,.int 0]) []):=qaR (n:=3000) (by kernel_rfl)
theorem ql5:Z t20 (.call 20 [.int (11:Nat)] [])=some (.ret (.str (decK 11)) []):=qaR (n:=400) (by kernel_rfl)
theorem ql6:Z tB (.call 322 [.str (qb6 12)] [])=some (.ret (.tup [qc3 12,.int 0]) []):=qaR (n:=3000) (by kernel_rfl)
theorem ql7:Z t20 (.call 20 [.int (12:Nat)] [])=some (.ret (.str (decK 12)) []):=qaR (n:=400) (by kernel_rfl)
theorem ql8:Z tB (.call 322 [.str (qb6 13)] [])=some (.ret (.tup [qc3 13,.int 0]) []):=qaR (n:=3000) (by kernel_rfl)
theorem ql9:Z t20 (.call 20 [.int (13:Nat)] [])=some (.ret (.str (decK 13)) []):=qaR (n:=400) (by kernel_rfl)
theorem qma:Z tB (.call 322 [.str (qb6 14)] [])=some (.ret (.tup [qc3 14,.int 0]) []):=qaR (n:=3000) (by kernel_rfl)
theorem qmb:Z t20 (.call 20 [.int (14:Nat)] [])=some (.ret (.str (decK 14)) []):=qaR (n:=400) (by kernel_rfl)
theorem qmc:Z tB (.call 322 [.str (qb6 15)] [])=some (.ret (.tup [qc3 15,.int 0]) []):=qaR (n:=3000) (by kernel_rfl)
theorem qmd:Z t20 (.call 20 [.int (15:Nat)] [])=some (.ret (.str (decK 15)) []):=qaR (n:=400) (by kernel_rfl)
theorem qme:Z tB (.call 322 [.str (qb6 16)] [])=some (.ret (.tup [qc3 16,.int 0]) []):=qaR (n:=3000) (by kernel_rfl)
theorem qmf:Z t20 (.call 20 [.int (16:Nat)] [])=some (.ret (.str (decK 16)) []):=qaR (n:=400) (by kernel_rfl)
theorem qmg:Z tB (.call 322 [.str (qb6 17)] [])=some (.ret (.tup [qc3 17,.int 0]) []):=qaR (n:=3000) (by kernel_rfl)
theorem qmh:Z t20 (.call 20 [.int (17:Nat)] [])=some (.ret (.str (decK 17)) []):=qaR (n:=400) (by kernel_rfl)
theorem qmi:Z tB (.call 322 [.str (qb6 18)] [])=some (.ret (.tup [qc3 18,.int 0]) []):=qaR (n:=3000) (by kernel_rfl)
theorem qmj:Z t20 (.call 20 [.int (18:Nat)] [])=some (.ret (.str (decK 18)) []):=qaR (n:=400) (by kernel_rfl)
theorem qmk:Z tB (.call 322 [.str (qb6 19)] [])=some (.ret (.tup [qc3 19,.int 0]) []):=qaR (n:=3000) (by kernel_rfl)
theorem qml:Z t20 (.call 20 [.int (19:Nat)] [])=some (.ret (.str (decK 19)) []):=qaR (n:=400) (by kernel_rfl)
end Go.Pm
end SBb1
section SBb2
namespace Go.Pm
open F
set_option maxHeartbeats 4000000
theorem qmm:Z tB (.call 322 [.str (qb6 20)] [])=some (.ret (.tup [qc3 20,.int 0]) []):=qaR (n:=3000) (by kernel_rfl)
theorem qmn:Z t20 (.call 20 [.int (20:Nat)] [])=some (.ret (.str (decK 20)) []):=qaR (n:=400) (by kernel_rfl)
theorem qmo:Z tB (.call 322 [.str (qb6 21)] [])=some (.ret (.tup [qc3 21,.int 0]) []):=qaR (n:=3000) (by kernel_rfl)
theorem qmp:Z t20 (.call 20 [.int (21:Nat)] [])=some (.ret (.str (decK 21)) []):=qaR (n:=400) (by kernel_rfl)
theorem qmq:Z tB (.call 322 [.str (qb6 22)] [])=some (.ret (.tup [qc3 22,.int 0]) []):=qaR (n:=3000) (by kernel_rfl)
theorem qmr:Z t20 (.call 20 [.int (22:Nat)] [])=some (.ret (.str (decK 22)) []):=qaR (n:=400) (by kernel_rfl)
theorem qms:Z tB (.call 322 [.str (qb6 23)] [])=some (.ret (.tup [qc3 23,.int 0]) []):=qaR (n:=3000) (by kernel_rfl)
theorem qmt:Z t20 (.call 20 [.int (23:Nat)] [])=some (.ret (.str (decK 23)) []):=qaR (n:=400) (by kernel_rfl)
theorem qmu:Z tB (.call 322 [.str (qb6 24)] [])=some (.ret (.tup [qc3 24,.int 0]) []):=qaR (n:=3000) (by kernel_rfl)
theorem qmv:Z t20 (.call 20 [.int (24:Nat)] [])=some (.ret (.str (decK 24)) []):=qaR (n:=400) (by kernel_rfl)
theorem qmw:Z tB (.call 322 [.str (qb6 25)] [])=some (.ret (.tup [qc3 25,.int 0]) []):=qaR (n:=3000) (by kernel_rfl)
theorem qmx:Z t20 (.call 20 [.int (25:Nat)] [])=some (.ret (.str (decK 25)) []):=qaR (n:=400) (by kernel_rfl)
theorem qmy:Z tB (.call 322 [.str (qb6 26)] [])=some (.ret (.tup [qc3 26,.int 0]) []):=qaR (n:=3000) (by kernel_rfl)
theorem qmz:Z t20 (.call 20 [.int (26:Nat)] [])=some (.ret (.str (decK 26)) []):=qaR (n:=400) (by kernel_rfl)
theorem qmA:Z tB (.call 322 [.str (qb6 27)] [])=some (.ret (.tup [qc3 27,.int 0]) []):=qaR (n:=3000) (by kernel_rfl)
theorem qmB:Z t20 (.call 20 [.int (27:Nat)] [])=some (.ret (.str (decK 27)) []):=qaR (n:=400) (by kernel_rfl)
theorem qmC:Z tB (.call 322 [.str (qb6 28)] [])=some (.ret (.tup [qc3 28,.int 0]) []):=qaR (n:=3000) (by kernel_rfl)
theorem qmD:Z t20 (.call 20 [.int (28:Nat)] [])=some (.ret (.str (decK 28)) []):=qaR (n:=400) (by kernel_rfl)
theorem qmE:Z tB (.call 322 [.str (qb6 29)] [])=some (.ret (.tup [qc3 29,.int 0]) []):=qaR (n:=3000) (by kernel_rfl)
theorem qmF:Z t20 (.call 20 [.int (29:Nat)] [])=some (.ret (.str (decK 29)) []):=qaR (n:=400) (by kernel_rfl)
end Go.Pm
end SBb2
section SBb
namespace Go.Pm
open F
set_option maxHeartbeats 4000000
theorem qik : ∀ K,K<30->Z tB (.call 322 [.str (qb6 K)] [])=some (.ret (.tup [qc3 K,.int 0]) [])
 | 0,_=>qmR
 | 1,_=>qmT
 | 2,_=>qmV
 | 3,_=>qmX
 | 4,_=>qmZ
 | 5,_=>qm1
 | 6,_=>qm3
 | 7,_=>qm5
 | 8,_=>qm7
 | 9,_=>qm9
 | 10,_=>ql2
 | 11,_=>ql4
 | 12,_=>ql6
 | 13,_=>ql8
 | 14,_=>qma
 | 15,_=>qmc
 | 16,_=>qme
 | 17,_=>qmg
 | 18,_=>qmi
 | 19,_=>qmk
 | 20,_=>qmm
 | 21,_=>qmo
 | 22,_=>qmq
 | 23,_=>qms
 | 24,_=>qmu
 | 25,_=>qmw
 | 26,_=>qmy
 | 27,_=>qmA
 | 28,_=>qmC
 | 29,_=>qmE
 | _+30,h=>by omega
theorem qjq : ∀ K,K<30->Z t20 (.call 20 [.int (K:Nat)] [])=some (.ret (.str (decK K)) [])
 | 0,_=>qmS
 | 1,_=>qmU
 | 2,_=>qmW
 | 3,_=>qmY
 | 4,_=>qm0
 | 5,_=>qm2
 | 6,_=>qm4
 | 7,_=>qm6
 | 8,_=>qm8
 | 9,_=>qna
 | 10,_=>ql3
 | 11,_=>ql5
 | 12,_=>ql7
 | 13,_=>ql9
 | 14,_=>qmb
 | 15,_=>qmd
 | 16,_=>qmf
 | 17,_=>qmh
 | 18,_=>qmj
 | 19,_=>qml
 | 20,_=>qmn
 | 21,_=>qmp
 | 22,_=>qmr
 | 23,_=>qmt
 | 24,_=>qmv
 | 25,_=>qmx
 | 26,_=>qmz
 | 27,_=>qmB
 | 28,_=>qmD
 | 29,_=>qmF
 | _+30,h=>by omega
def rdK (b:ByteArray):Nat:=if b.size=14 then (b.get! 11).toNat-48 else ((b.get! 11).toNat-48)*10+((b.get! 12).toNat-48)
theorem qjr : ∀ K,K<30->rdK (qb6 K)=K:=by decide
theorem qj6 {K M:Nat} (hK:K<30) (hM:M<30) (h:qb6 K=qb6 M):K=M:=by
 have a:=qjr K hK
 have b:=qjr M hM
 rw[h] at a
 omega
end Go.Pm
end SBb
section SBca
namespace Go.Pm
open F
set_option maxHeartbeats 4000000
def F334t:PC:=(.seq (rn [mv 79 13,cl 80 343 [79],mv 81 14,cl 82 343 [81],bn 83 .eql 80 82,mv 84 16,mv 85 17,bn 86 .eql 84 85,jj 87 (.eqb false (.t 83) (.t 86)),mv 88 87,jt 89 88 (.mov (.t 13)),jt 90 88 (.call 343 [(.t 89)]),jt 91 88 (.mov (.t 15)),jt 92 88 (.call 343 [(.t 91)]),jt 93 88 (.bin .eql (.t 90) (.t 92)),jt 94 88 (.mov (.t 18)),jt 95 88 (.mov (.t 19)),jt 96 88 (.bin .eql (.t 94) (.t 95)),jt 97 88 (.eqb false (.t 93) (.t 96)),jj 98 (.pick (.t 88) (.t 97) kF),mv 99 98,jt 100 99 (.call 321 []),jj 101 (.pick (.t 99) (.t 100) kF),mv 12 101] [12]) (.ret))
theorem F334_t:F334=⟨6,[.tmp 12],.seq (rn [mx 12 kF] [0,1,2,3,4,5]) (.seq (rn [mv 20 0,mv 21 1,cl 22 347 [20,21],mv 13 22] [0,1,2,3,4,5,13]) (.seq (rn [mv 23 0,mv 24 1,cl 25 347 [23,24],mv 14 25] [0,1,2,3,4,5,13,14]) (.seq (rn [mv 26 0,mv 27 1,cl 28 347 [26,27],mv 15 28] [2,3,4,5,13,14,15]) (.seq (.seq (rn [mv 29 13,jj 30 (.isnil true false (.t 29)),mv 31 30,jf 32 31 (.mov (.t 14)),jf 33 31 (.isnil true false (.t 32)),jj 34 (.pick (.t 31) kT (.t 33)),mv 35 34,jf 36 35 (.mov (.t 15)),jf 37 35 (.isnil true false (.t 36)),jj 38 (.pick (.t 35) kT (.t 37))] [2,3,4,5,13,14,15,38]) (.cond (.t 38) (.seq (rn [mx 12 kF] [12]) (.ret)) (.skip))) (.seq (.seq (rn [mv 39 13,cl 40 320 [39],ls 41 40,bk 42 .gtr 41 8] [2,3,4,5,13,14,15,42]) (.cond (.t 42) (.seq (rn [jj 43 (.call 321 []),mv 12 43] [12]) (.ret)) (.skip))) (.seq (rn [mv 44 2,jj 45 (.call 17 [(.t 44),(kk 50)]),jj 46 (.bin .add (kk 100) (.t 45)),mv 16 46] [3,4,5,13,14,15,16]) (.seq (rn [mv 47 3,jj 48 (.call 17 [(.t 47),(kk 50)]),jj 49 (.bin .add (kk 100) (.t 48)),mv 17 49] [4,5,13,14,15,16,17]) (.seq (rn [mv 50 4,jj 51 (.call 17 [(.t 50),(kk 30)]),cl 52 20 [51],jj 53 (.bin .add (.c (.string ⟨#[111,110,32,116,105,99,107,123,118,97,61]⟩)) (.t 52)),jj 54 (.bin .add (.t 53) (.c (.string ⟨#[59,125]⟩))),mv 18 54] [5,13,14,15,16,17,18]) (.seq (rn [mv 55 5,jj 56 (.call 17 [(.t 55),(kk 30)]),cl 57 20 [56],jj 58 (.bin .add (.c (.string ⟨#[111,110,32,116,105,99,107,123,118,97,61]⟩)) (.t 57)),jj 59 (.bin .add (.t 58) (.c (.string ⟨#[59,125]⟩))),mv 19 59] [13,14,15,16,17,18,19]) (.seq (.seq (rn [mv 60 13,mv 61 16,mv 62 18,cl 63 318 [60,61,62],bk 64 .neq 63 0,mv 65 64,jf 66 65 (.mov (.t 14)),jf 67 65 (.mov (.t 17)),jf 68 65 (.mov (.t 18)),jf 69 65 (.call 318 [(.t 66),(.t 67),(.t 68)]),jf 70 65 (.bin .neq (.t 69) (kk 0)),jj 71 (.pick (.t 65) kT (.t 70)),mv 72 71,jf 73 72 (.mov (.t 15)),jf 74 72 (.mov (.t 16)),jf 75 72 (.mov (.t 19)),jf 76 72 (.call 318 [(.t 73),(.t 74),(.t 75)]),jf 77 72 (.bin .neq (.t 76) (kk 0)),jj 78 (.pick (.t 72) kT (.t 77))] [13,14,15,16,17,18,19,78]) (.cond (.t 78) (.seq (rn [mx 12 kF] [12]) (.ret)) (.skip))) F334t)))))))))),false,false,false⟩:=rfl
end Go.Pm
end SBca
