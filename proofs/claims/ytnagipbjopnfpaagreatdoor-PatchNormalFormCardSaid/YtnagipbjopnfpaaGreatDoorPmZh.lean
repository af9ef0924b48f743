/- Chapter 17: the hash of a program. -/
import Derived.Test.YtnagipbjopnfpaaGreatDoorPmAL
import Derived.Test.YtnagipbjopnfpaaGreatDoorPmKo
import Derived.Test.YtnagipbjopnfpaaGreatDoorPmTi
import Derived.Test.YtnagipbjopnfpaaGreatDoorPmG5
import Derived.Test.YtnagipbjopnfpaaGreatDoorPmYf
import Derived.Test.YtnagipbjopnfpaaGreatDoorPmDj
import Derived.Test.YtnagipbjopnfpaaGreatDoorPmJc
import Derived.KernelRfl
set_option linter.unusedSimpArgs false
set_option linter.unusedVariables false
set_option maxHeartbeats 4000000
namespace Go.Pm
section
open F
def hwD(a b e:Int)(l:List Int)(i:Nat):List V:=(intsC ([a,b,e]++l.take (2*i))).map .dat
theorem qv6{a b e:Int}{l:List Int}{i:Nat}(h:2*i<=l.length):(hwD a b e l i).length=3+2*i:=by simp[hwD,intsC]; omega
theorem qv7{a b e:Int}{l:List Int}{i:Nat}(h:2*i+1<l.length):hwD a b e l i++[.int l[2*i],.int l[2*i+1]]=hwD a b e l (i+1):=by
 have e1:l.take (2*(i+1))=l.take (2*i)++[l[2*i],l[2*i+1]]:=by
  rw[show 2*(i+1)=2*i+1+1 by omega,WS h,WS (by omega),Wf]
  rfl
 unfold hwD
 rw[e1]
 simp[intsC]
theorem qnI{l:List Int}{i:Nat}(h:2*i+1<l.length):cutCells (intsC l) (i*2) 2=some [.lit (.int .i64 l[2*i]),.lit (.int .i64 l[2*i+1])]:=by
 unfold cutCells intsC
 rw[<- List.map_drop,show i*2=2*i by omega,Ww (by omega),Ww h]
 rfl
theorem qib(a b e:Int)(l:List Int)(i:Nat):qaG (hwD a b e l i)=[]:=by
 have h : ∀ (l:List V),(∀ v∈l,v.locs=[])->qaG l=[]:=by
  intro l
  induction l with
  |nil=>intro _; rfl
  |cons v l ih=>intro h; simp[qaG,h v (by simp),ih fun u hu=>h u (by simp[hu])]
 refine h _ fun v hv=>?_
 obtain⟨x,_,rfl⟩:=WV.1 hv
 rfl
theorem qkD(r:Nat->Nat)(a b e:Int)(l:List Int)(i:Nat):qdI r (hwD a b e l i)=hwD a b e l i:=by
 have h : ∀ (l:List V),(∀ v∈l,v.ren r=v)->qdI r l=l:=by
  intro l
  induction l with
  |nil=>intro _; rfl
  |cons v l ih=>intro h; simp[qdI,h v (by simp),ih fun u hu=>h u (by simp[hu])]
 refine h _ fun v hv=>?_
 obtain⟨x,_,rfl⟩:=WV.1 hv
 rfl
section
variable{prog:Nat->Option PFun}(hH : ∀ k pf,tH k=some pf->prog k=some pf)(h353:prog 353=some F353)
theorem qzg {l:List Int} {n:Nat} {a b e:Int} (hn:l.length=2*n) (hl:n<=10000) : ∀ (k i:Nat),i+k=n -> ∃ fr,Z prog (.loop 0 F353l0 [(3,.own 0 (3+2*i) 1),(17,.dat (.sl (intsC l) n false)),(18,.int n),(19,.int i)] [.vec (hwD a b e l i)]) =
  some (.out (.exit 0) ((3,.own 0 (3+2*n) 1)::fr) [.vec (hwD a b e l n)])
 |0,i,h=>by
  obtain rfl:i=n:=by omega
  have l1:=qib a b e l i
  have r1:=fun r=>qkD r a b e l i
  exact⟨_,by rw[qaa]; simp[qab,qg6,V.len,l1,r1,Wa]; rfl⟩
 |k+1,i,h=>by
  have hi:2*i+1<l.length:=by omega
  obtain⟨fr,z⟩:=qzg (a:=a) (b:=b) (e:=e) hn hl k (i+1) (by omega)
  refine⟨fr,?_⟩
  rw[<- z]
  have hc:=qnI hi
  have hw:=qv7 (a:=a) (b:=b) (e:=e) hi
  have w1:IntKind.i64.wrap ((i:Int)+1)=((i+1:Nat):Int):=by rw[qai _ (by omega)]; omega
  have hlt:(i:Int)<n:=by omega
  have hin:i<n:=by omega
  have hl1:=qv6 (a:=a) (b:=b) (e:=e) (l:=l) (i:=i) (by omega)
  have l1:=qib a b e l i
  have r1:=fun r=>qkD r a b e l i
  have l2:=qib a b e l (i+1)
  have r2:=fun r=>qkD r a b e l (i+1)
  have e3:3+2*(i+1)=3+2*i+2:=by omega
  have rm:qao (3+2*i+2) 8:=by simp[qao]; omega
  rw[e3]
  generalize ((i+1:Nat):Int)=i1 at *
  generalize l[2*i]=x at *
  generalize l[2*i+1]=y at *
  generalize hwD a b e l i=W at *
  generalize hwD a b e l (i+1)=W' at *
  generalize intsC l=C at *
  generalize 3+2*i=m at *
  conv=>lhs; rw[qaa]
  simp[qab,qg6,V.len,qaf,hlt,hin,hc,w1,hl1,hw,l1,r1,l2,r2,rm,Wa]
  all_goals exact qah (by simp[gcF,l1,l2,r1,r2,Wa])
include hH h353
theorem qsR {l:List Int} {n:Nat} {a b e:Int} (hn:l.length=2*n) (hl:n<=10000) {y:Int} (hy:qk2 (qk2 (qk2 0 30787916450984560) 7) (IntKind.u64.wrap ((3+2*n:Nat):Int))=y) :
  Z prog (.call 353 [.dat (.agg [qoy l,.lit (.int .i64 a),.lit (.int .i64 b),.lit (.int .i64 e)])] [])=some (.ret (.dat (.lit (.int .u64 (sumI y ([a,b,e]++l))))) []):=by
 have hlen:([a,b,e]++l).length=3+2*n:=by simp; omega
 have z:=quK (hH 111 F111 rfl) (hH 109 F109 rfl) (f:=false) (s:=qAH) (ws:=[a,b,e]++l) (B:=y) (by omega) (qrj hH (qgS hH (qtz _)) (m:=7) rfl rfl (by rw[hlen]; exact hy))
 rw[hlen] at z
 have hd:=qg7 (intsC ([a,b,e]++l))
 have hl1:(intsC ([a,b,e]++l)).length=3+2*n:=by simp[intsC]; omega
 have hone:((intsC ([a,b,e]++l)).all fun d=>V.one (.dat d))=true:=by simp[intsC]
 obtain⟨fr,zl⟩:=qzg (prog:=prog) (a:=a) (b:=b) (e:=e) hn hl n 0 (by omega)
 have l1:=qib a b e l n
 have r1:=fun r=>qkD r a b e l n
 have hall:hwD a b e l n=(intsC ([a,b,e]++l)).map .dat:=by unfold hwD; rw[Wy (by omega)]
 have h0:hwD a b e l 0=[.int a,.int b,.int e]:=by simp[hwD,intsC]
 have w1:IntKind.i64.wrap (2*(n:Int))=((2*n:Nat):Int):=by rw[qai _ (by omega)]; omega
 have w2:IntKind.i64.wrap (3+((2*n:Nat):Int))=((3+2*n:Nat):Int):=by rw[qai _ (by omega)]; omega
 have c1:((3+2*n:Nat):Int)<=1099511627776:=by omega
 have c2:(8:Int)*((3+2*n:Nat):Int)<=281474976710656:=by omega
 have c3:(0:Int)<=((3+2*n:Nat):Int):=by omega
 rw[h0,show ((0:Nat):Int)=0 from rfl] at zl
 rw[hall] at zl l1 r1
 refine qac h353 rfl ?_
 unfold qAH at z
 cases l with
 |nil=>
  obtain rfl:n=0:=by simp at hn; omega
  simp only[qoy,intsC,WB,Wl,Wv,Nat.mul_zero,Yp] at z ⊢
  generalize sumI y [a,b,e]=s1 at *
  have z0:Z prog (.loop 0 F353l0 [(3,.own 0 3 1),(17,.dat (.lit (.slice none 0 0))),(18,.int 0),(19,.int 0)] [.vec [.int a,.int b,.int e]])=some (.out (.exit 0) [(3,.own 0 3 1),(17,.dat (.lit (.slice none 0 0))),(18,.int 0),(19,.int 0),(20,.bool false)] [.vec [.int a,.int b,.int e]]):=by
   rw[qaa]
   simp[qg6,qab,Wa]
  have z1:Z prog (.loop 0 F353l0 [(3,.own 1 3 1),(17,.dat (.lit (.slice none 0 0))),(18,.int 0),(19,.int 0)] [.cells [.dat (.lit (.slice none 0 0)),.int a,.int b,.int e],.vec [.int a,.int b,.int e]])=_:=(qah (by simp[gcF,Wa])).trans z0
  simp[F353,V.len,qaf,bound,qai,z,z1,qao,qdm,Wa]
  done
 |cons x l=>
  have hq:(x::l).length / 2=n:=by omega
  simp only[qoy,hq] at zl ⊢
  simp only[Nat.mul_zero,Yp] at zl
  generalize sumI y ([a,b,e]++x::l)=s1 at *
  generalize ((3+2*n:Nat):Int)=mI at *
  generalize 3+2*n=m at *
  generalize ((2*n:Nat):Int)=nI at *
  generalize intsC (x::l)=C at *
  generalize intsC ([a,b,e]++x::l)=C' at *
  have z1:Z prog (.loop 0 F353l0 [(3,.own 1 3 1),(17,.dat (.sl C n false)),(18,.int n),(19,.int 0)] [.cells [.dat (.sl C n false),.int a,.int b,.int e],.vec [.int a,.int b,.int e]])=_:=(qah (by simp[gcF,Wa])).trans zl
  simp[F353,V.len,qaf,bound,z1,w1,w2,c1,c2,c3,z,zl,l1,r1,hd,hl1,hone,qao,qdm,Wa]
  done
end
end
end Go.Pm
section
namespace Go.Pm.F
variable(C:Task->Option Res)(q:Nat)(fr:Fr)(σ : S)
@[simp] def F346l0x:PC:=(.seq (sr [mv 20 5,fa 21 0 2,l1 22 21,ls 23 22,bn 24 .lss 20 23] [2,3,5,24] (.cond (.t 24) .skip (.exit 0))) (.seq (.block 1 (.seq (.region (some []) [fa 27 0 2,l1 28 27,mv 29 5,jj 30 (.indexAddr 2 (.t 28) (.t 29)),la 31 2 30,fa 32 0 3,l1 33 32,mv 34 5,jj 35 (.indexAddr 2 (.t 33) (.t 34)),la 36 2 35,jj 37 (.eqa true [.i,.i] (.t 31) (.t 36))] [2,3,5,37]) (cs 37 (sr [mx 4 kF] [4] .ret)))) (rn [mv 25 5,bk 26 .add 25 1,mv 5 26] [2,3,5])))
def F346l0:PC:=F346l0x
theorem qg4:run C q F346l0 fr σ = run C q F346l0x fr σ := rfl
def F346:PFun:=pf 2 [.tmp 4] (sr [bx 2 0,bx 3 1,mx 4 kF] [2,3] (.seq (sr [fa 6 1 2,la 7 3 6,fa 8 1 3,la 9 3 8,jj 10 (.eqa true [.i,.i,.i] (.t 7) (.t 9)),mv 11 10,jf 12 11 (.fieldAddr 0 (.t 2)),jf 13 11 (.load false 1 (.t 12)),jf 14 11 (.len .sl (.t 13)),jf 15 11 (.fieldAddr 0 (.t 3)),jf 16 11 (.load false 1 (.t 15)),jf 17 11 (.len .sl (.t 16)),jf 18 11 (.bin .neq (.t 14) (.t 17)),jj 19 (.pick (.t 11) kT (.t 18))] [2,3,19] (cs 19 (sr [mx 4 kF] [4] .ret))) (.seq (sr [mx 5 (kk 0)] [2,3,5] (.block 0 (.loop F346l0))) (sr [mx 4 kT] [4] .ret))))
end Go.Pm.F
end
namespace Go.Pm
section
open F
def wdB(H:Vr->Int)(L:List Vr):List Int:=L.flatMap fun v=>[v.t,IntKind.i64.wrap (H v)]
theorem qmt(H:Vr->Int) : ∀ L:List Vr,(wdB H L).length=2*L.length
 |[]=>rfl
 |v::L=>by
  have:=qmt H L
  simp[wdB] at this ⊢
  omega
def bwD(H:Vr->Int)(L:List Vr)(i:Nat):List V:=(intsC (wdB H (L.take i))).map .dat
theorem qp5{H:Vr->Int}{L:List Vr}{i:Nat}(h:i<=L.length):(bwD H L i).length=2*i:=by
 have:=qmt H (L.take i)
 simp[bwD,intsC]
 simp at this
 omega
theorem qp6{H:Vr->Int}{L:List Vr}{i:Nat}(h:i<L.length):bwD H L i++[.int L[i].t,.int (IntKind.i64.wrap (H L[i]))]=bwD H L (i+1):=by
 unfold bwD wdB
 rw[WS h,List.flatMap_append]
 simp[intsC]
theorem qeu(H:Vr->Int)(L:List Vr)(i:Nat):qaG (bwD H L i)=[]:=by
 have h : ∀ (l:List V),(∀ v∈l,v.locs=[])->qaG l=[]:=by
  intro l
  induction l with
  |nil=>intro _; rfl
  |cons v l ih=>intro h; simp[qaG,h v (by simp),ih fun u hu=>h u (by simp[hu])]
 refine h _ fun v hv=>?_
 obtain⟨x,_,rfl⟩:=WV.1 hv
 rfl
theorem qfT(H:Vr->Int)(r:Nat->Nat)(L:List Vr)(i:Nat):qdI r (bwD H L i)=bwD H L i:=by
 have h : ∀ (l:List V),(∀ v∈l,v.ren r=v)->qdI r l=l:=by
  intro l
  induction l with
  |nil=>intro _; rfl
  |cons v l ih=>intro h; simp[qdI,h v (by simp),ih fun u hu=>h u (by simp[hu])]
 refine h _ fun v hv=>?_
 obtain⟨x,_,rfl⟩:=WV.1 hv
 rfl
section
variable{prog:Nat->Option PFun}
def qmu(prog:Nat->Option PFun)(H:Vr->Int)(v:Vr):Prop:=Z prog (.call 353 [.dat (.agg [v.c,.lit (.int .i64 v.a),.lit (.int .i64 v.b),.lit (.int .i64 v.e)])] [])=some (.ret (.dat (.lit (.int .u64 (H v)))) [])
theorem qvx {H:Vr->Int} {L:List Vr} {i:Nat} (h:i<L.length) (hl:L.length<=1000) (hh:qmu prog H L[i]) (g:Bool) :
  Z prog (.loop 1 F343l0 [(3,.own 1 (2*i) 1),(16,.dat (.sl (vrC L) L.length g)),(17,.int L.length),(18,.int i)] [.cells [.dat (.sl (vrC L) L.length g)],.vec (bwD H L i)]) =
  Z prog (.loop 1 F343l0 [(3,.own 1 (2*(i+1)) 1),(16,.dat (.sl (vrC L) L.length g)),(17,.int L.length),(18,.int (i+1:Nat))] [.cells [.dat (.sl (vrC L) L.length g)],.vec (bwD H L (i+1))]):=by
 have hc:=qqa h
 have o:=L[i].one
 have c:=L[i].cl
 unfold qmu at hh
 have hs:=qp6 (H:=H) h
 have hw:=qp5 (H:=H) (L:=L) (i:=i) (by omega)
 have w1:IntKind.i64.wrap ((i:Int)+1)=((i+1:Nat):Int):=by rw[qai _ (by omega)]; omega
 have hlt:(i:Int)<L.length:=by omega
 have e3:2*(i+1)=2*i+2:=by omega
 have rm:qao (2*i+2) 8:=by simp[qao]; omega
 have l1:=qeu H L i
 have l2:=qeu H L (i+1)
 have r1:=fun r=>qfT H r L i
 have r2:=fun r=>qfT H r L (i+1)
 rw[e3]
 generalize ((i+1:Nat):Int)=i1 at *
 generalize H L[i]=hv at *
 obtain⟨u,hu⟩ : ∃ u,IntKind.i64.wrap hv=u:=⟨_,rfl⟩
 rw[hu] at hs
 generalize L[i]=v at *
 generalize vrC L=C at *
 generalize bwD H L i=W at *
 generalize bwD H L (i+1)=W' at *
 generalize L.length=n at *
 generalize 2*i=m at *
 conv=>lhs; rw[qaa]
 simp[qab,qfn,V.len,qaf,hlt,h,hc,hh,hu,o,c,hw,hs,w1,rm,l1,l2,r1,r2,Wa]
 all_goals exact qah (by simp[gcF,l1,l2,r1,r2,Wa])
theorem qvy {H:Vr->Int} {L:List Vr} {i:Nat} (h:i<L.length) (hl:L.length<=1000) (hh:qmu prog H L[i]) (m0:Nat) :
  Z prog (.loop 2 F343l0 [(3,.own 2 (2*i) 1),(16,.gsl (vrC L) L.length 5 1),(17,.int L.length),(18,.int i)] [.cells [.gsl (vrC L) L.length 5 1],.tip m0,.vec (bwD H L i)]) =
  Z prog (.loop 2 F343l0 [(3,.own 2 (2*(i+1)) 1),(16,.gsl (vrC L) L.length 5 1),(17,.int L.length),(18,.int (i+1:Nat))] [.cells [.gsl (vrC L) L.length 5 1],.tip m0,.vec (bwD H L (i+1))]):=by
 have hc:=qqa h
 have o:=L[i].one
 have c:=L[i].cl
 unfold qmu at hh
 have hs:=qp6 (H:=H) h
 have hw:=qp5 (H:=H) (L:=L) (i:=i) (by omega)
 have w1:IntKind.i64.wrap ((i:Int)+1)=((i+1:Nat):Int):=by rw[qai _ (by omega)]; omega
 have hlt:(i:Int)<L.length:=by omega
 have e3:2*(i+1)=2*i+2:=by omega
 have rm:qao (2*i+2) 8:=by simp[qao]; omega
 have l1:=qeu H L i
 have l2:=qeu H L (i+1)
 have r1:=fun r=>qfT H r L i
 have r2:=fun r=>qfT H r L (i+1)
 rw[e3]
 generalize ((i+1:Nat):Int)=i1 at *
 generalize H L[i]=hv at *
 obtain⟨u,hu⟩ : ∃ u,IntKind.i64.wrap hv=u:=⟨_,rfl⟩
 rw[hu] at hs
 generalize L[i]=v at *
 generalize vrC L=C at *
 generalize bwD H L i=W at *
 generalize bwD H L (i+1)=W' at *
 generalize L.length=n at *
 generalize 2*i=m at *
 conv=>lhs; rw[qaa]
 simp[qab,qfn,V.len,qaf,hlt,h,hc,hh,hu,o,c,hw,hs,w1,rm,l1,l2,r1,r2,Wa]
 all_goals exact qah (by simp[gcF,l1,l2,r1,r2,Wa])
theorem qp7 {H:Vr->Int} {L:List Vr} (hl:L.length<=1000) (hh : ∀ i (h:i<L.length),qmu prog H L[i]) (g:Bool) : ∀ (k i:Nat),i+k=L.length->Z prog (.loop 1 F343l0 [(3,.own 1 (2*i) 1),(16,.dat (.sl (vrC L) L.length g)),(17,.int L.length),(18,.int i)] [.cells [.dat (.sl (vrC L) L.length g)],.vec (bwD H L i)]) =
  some (.out (.exit 0) [(3,.own 1 (2*L.length) 1),(16,.dat (.sl (vrC L) L.length g)),(17,.int L.length),(18,.int L.length),(19,.bool false)] [.cells [.dat (.sl (vrC L) L.length g)],.vec (bwD H L L.length)])
 |0,i,h=>by
  obtain rfl:i=L.length:=by omega
  have l1:=qeu H L L.length
  have r1:=fun r=>qfT H r L L.length
  rw[qaa]
  simp[qab,qfn,l1,r1,Wa]
 |k+1,i,h=>by
  rw[qvx (by omega) hl (hh i (by omega))]
  exact qp7 hl hh g k (i+1) (by omega)
theorem qp8 {H:Vr->Int} {L:List Vr} (hl:L.length<=1000) (hh : ∀ i (h:i<L.length),qmu prog H L[i]) (m0:Nat) : ∀ (k i:Nat),i+k=L.length->Z prog (.loop 2 F343l0 [(3,.own 2 (2*i) 1),(16,.gsl (vrC L) L.length 5 1),(17,.int L.length),(18,.int i)] [.cells [.gsl (vrC L) L.length 5 1],.tip m0,.vec (bwD H L i)]) =
  some (.out (.exit 0) [(3,.own 2 (2*L.length) 1),(16,.gsl (vrC L) L.length 5 1),(17,.int L.length),(18,.int L.length),(19,.bool false)] [.cells [.gsl (vrC L) L.length 5 1],.tip m0,.vec (bwD H L L.length)])
 |0,i,h=>by
  obtain rfl:i=L.length:=by omega
  have l1:=qeu H L L.length
  have r1:=fun r=>qfT H r L L.length
  rw[qaa]
  simp[qab,qfn,l1,r1,Wa]
 |k+1,i,h=>by
  rw[qvy (by omega) hl (hh i (by omega))]
  exact qp8 hl hh m0 k (i+1) (by omega)
theorem qyF (hH : ∀ k pf,tH k=some pf->prog k=some pf) (h343:prog 343=some F343) {H:Vr->Int} {L:List Vr} (h0:0<L.length) (hl:L.length<=1000) (hh : ∀ i (h:i<L.length),qmu prog H L[i]) {y:Int} (hy:qk2 (qk2 17196531580303950166 4) (IntKind.u64.wrap ((2*L.length:Nat):Int))=y) :
  Z prog (.call 343 [.ptr 0 0] (qiq L))=some (.ret (.dat (.lit (.int .u64 (sumI y (wdB H L))))) (qiq L)):=by
 have hlen:=qmt H L
 have z:=quK (hH 111 F111 rfl) (hH 109 F109 rfl) (f:=false) (s:=qtx) (ws:=wdB H L) (B:=y) (by omega) (qrj hH (qgS hH (qty _)) (m:=4) rfl rfl (by rw[hlen]; exact hy))
 rw[hlen] at z
 unfold qtx at z
 have hd:=qg7 (intsC (wdB H L))
 have hl1:(intsC (wdB H L)).length=2*L.length:=by simp[intsC,hlen]
 have hone:((intsC (wdB H L)).all fun d=>V.one (.dat d))=true:=by simp[intsC]
 have hall:bwD H L L.length=(intsC (wdB H L)).map .dat:=by unfold bwD; rw[YB]
 have hz:bwD H L 0=[]:=rfl
 have l1:=qeu H L L.length
 have r1:=fun r=>qfT H r L L.length
 have w1:IntKind.i64.wrap (2*(L.length:Int))=((2*L.length:Nat):Int):=by rw[qai _ (by omega)]; omega
 have c1:((2*L.length:Nat):Int)<=1099511627776:=by omega
 have c2:(8:Int)*((2*L.length:Nat):Int)<=281474976710656:=by omega
 have c3:(0:Int)<=((2*L.length:Nat):Int):=by omega
 rw[hall] at l1 r1
 refine qac h343 rfl ?_
 by_cases h1:L.length=1
 ·have e:qiq L=[.cells [.dat (.sl (vrC L) 1 true)]]:=if_pos h1
  have zl:=qp7 hl hh true L.length 0 (by omega)
  rw[hz,hall,show ((0:Nat):Int)=0 from rfl] at zl
  rw[e]
  simp only[h1,Nat.mul_one,Nat.mul_zero,show ((1:Nat):Int)=1 from rfl,show ((2:Nat):Int)=2 from rfl] at z zl hl1
  generalize sumI y (wdB H L)=s1 at *
  generalize intsC (wdB H L)=C' at *
  generalize vrC L=C at *
  simp[F343,V.len,qaf,qai,z,zl,l1,r1,hd,hl1,hone,qao,qdm,Wa]
  done
 ·have zl:=qp8 hl hh (vrC L).length L.length 0 (by omega)
  rw[hz,hall,show ((0:Nat):Int)=0 from rfl,Nat.mul_zero] at zl
  rw[qt2 (by omega)]
  clear hh
  generalize sumI y (wdB H L)=s1 at *
  generalize intsC (wdB H L)=C' at *
  generalize vrC L=C at *
  generalize ((2*L.length:Nat):Int)=mI at *
  generalize 2*L.length=m at *
  generalize L.length=n at *
  simp[F343,V.len,qaf,w1,c1,c2,c3,z,zl,l1,r1,hd,hl1,hone,qao,qdm,Wa]
  done
end
end
section
open F
section
variable{prog:Nat->Option PFun}
theorem quT(h331:prog 331=some F331){l:List Int}{n:Nat}(hn:l.length=2*n)(hl:n<=10000):Z prog (.call 331 [.dat (qoy l)] [])=some (.ret (.dat (qoy l)) []):=by
 refine qac h331 rfl ?_
 cases l with
 |nil=>simp[F331,qoy,V.len,Wa]
 |cons x l=>
  have hq:(x::l).length / 2=n:=by omega
  have h0:0<n:=by simp at hn; omega
  have hl1:(intsC (x::l)).length=n*2:=by simp[intsC] at hn ⊢; omega
  have hn0:n≠0:=by omega
  have rm:qao n 16:=by simp[qao]; omega
  have hone:((intsC (x::l)).all fun d=>V.one (.dat d))=true:=by simp[intsC]
  simp only[qoy,hq]
  generalize intsC (x::l)=C at *
  simp[F331,V.len,qbH,qkr,rm,hn0,hl1,hone,Wa]
  done
theorem qt3 {l:List Int} {n:Nat} {a b e:Int} (hn:l.length=2*n) (hl:n<=10000) : ∀ (k i:Nat),i+k=n->Z prog (.loop 0 F346l0 [(2,.ptr 0 0),(3,.ptr 1 0),(5,.int i)] [.cells [.dat (.sl (intsC l) n false),.int a,.int b,.int e],.cells [.dat (.sl (intsC l) n false),.int a,.int b,.int e]]) =
  some (.out (.exit 0) [(2,.ptr 0 0),(3,.ptr 1 0),(5,.int n),(24,.bool false)] [.cells [.dat (.sl (intsC l) n false),.int a,.int b,.int e],.cells [.dat (.sl (intsC l) n false),.int a,.int b,.int e]])
 |0,i,h=>by
  obtain rfl:i=n:=by omega
  rw[qaa]
  simp[qab,qg4,V.len,Wa]
 |k+1,i,h=>by
  rw[<- qt3 hn hl k (i+1) (by omega)]
  have hc:=qnI (l:=l) (i:=i) (by omega)
  have w1:IntKind.i64.wrap ((i:Int)+1)=((i+1:Nat):Int):=by rw[qai _ (by omega)]; omega
  have hlt:(i:Int)<n:=by omega
  have hin:i<n:=by omega
  have hi:2*i+1<l.length:=by omega
  generalize ((i+1:Nat):Int)=i1 at *
  generalize l[2*i]=x at *
  generalize l[2*i+1]=y at *
  generalize intsC l=C at *
  conv=>lhs; rw[qaa]
  simp[qab,qg4,V.len,qaf,hlt,hin,hc,w1,Wa]
  done
theorem qx7 (h346:prog 346=some F346) {l:List Int} {n:Nat} {a b e:Int} (hn:l.length=2*n) (hl:n<=10000) :
  Z prog (.call 346 [.dat (.agg [qoy l,.lit (.int .i64 a),.lit (.int .i64 b),.lit (.int .i64 e)]),.dat (.agg [qoy l,.lit (.int .i64 a),.lit (.int .i64 b),.lit (.int .i64 e)])] [])=some (.ret (.bool true) []):=by
 refine qac h346 rfl ?_
 cases l with
 |nil=>
  have z0:Z prog (.loop 0 F346l0 [(2,.ptr 0 0),(3,.ptr 1 0),(5,.int 0)] [.cells [.dat (.lit (.slice none 0 0)),.int a,.int b,.int e],.cells [.dat (.lit (.slice none 0 0)),.int a,.int b,.int e]])=some (.out (.exit 0) [(2,.ptr 0 0),(3,.ptr 1 0),(5,.int 0),(24,.bool false)] [.cells [.dat (.lit (.slice none 0 0)),.int a,.int b,.int e],.cells [.dat (.lit (.slice none 0 0)),.int a,.int b,.int e]]):=by
   rw[qaa]
   simp[qg4,qab,V.len,Wa]
  simp[F346,qoy,V.len,z0,Wa]
  done
 |cons x l=>
  have hq:(x::l).length / 2=n:=by omega
  have zl:=qt3 (prog:=prog) (a:=a) (b:=b) (e:=e) hn hl n 0 (by omega)
  rw[show ((0:Nat):Int)=0 from rfl] at zl
  simp only[qoy,hq]
  generalize intsC (x::l)=C at *
  simp[F346,V.len,zl,Wa]
  done
end
end
section
open Gr
structure Sl(C:Int->Cd)(n:Nat)(k M:Int)(D:Nat->Int):Prop where
 ln:Ln C n
 op : ∀ p i,i<n->opA (C p) i≠18/\opA (C p) i≠19/\opA (C p) i≠21
 beg:D 0=0
 fin:D n=k
 step : ∀ p i,i<n->D (i+1)=D i+(qdX (opA (C p) i)-qfA (opA (C p) i))
 le : ∀ i,i<n->D (i+1)<=M
 at_ : ∃ i,i<n/\D (i+1)=M
end
section
open F
def qcw:List (Value × V):=[(.string ⟨#[43]⟩,.dat (.agg [.lit (.int .i64 1),.lit (.int .i64 1)])),(.string ⟨#[45]⟩,.dat (.agg [.lit (.int .i64 1),.lit (.int .i64 1)])),(.string ⟨#[42]⟩,.dat (.agg [.lit (.int .i64 1),.lit (.int .i64 1)])),(.string ⟨#[47]⟩,.dat (.agg [.lit (.int .i64 1),.lit (.int .i64 1)])),
 (.string ⟨#[60]⟩,.dat (.agg [.lit (.int .i64 1),.lit (.int .i64 2)])),(.string ⟨#[60,61]⟩,.dat (.agg [.lit (.int .i64 1),.lit (.int .i64 2)])),(.string ⟨#[62]⟩,.dat (.agg [.lit (.int .i64 1),.lit (.int .i64 2)])),(.string ⟨#[62,61]⟩,.dat (.agg [.lit (.int .i64 1),.lit (.int .i64 2)])),
 (.string ⟨#[61,61]⟩,.dat (.agg [.lit (.int .i64 1),.lit (.int .i64 2)])),(.string ⟨#[33,61]⟩,.dat (.agg [.lit (.int .i64 1),.lit (.int .i64 2)])),(.string ⟨#[38,38]⟩,.dat (.agg [.lit (.int .i64 2),.lit (.int .i64 2)])),(.string ⟨#[124,124]⟩,.dat (.agg [.lit (.int .i64 2),.lit (.int .i64 2)]))]
@[simp] theorem qAw:qhS qcw=[]:=rfl
@[simp] theorem qBo(r:Nat->Nat):qr8 r qcw=qcw:=rfl
theorem qeT:Z qaM (.call 26 [] [])=some (.ret (.agg [.mp 0]) [.map qcw]):=qmf (n:=2) (by kernel_rfl)
def qAx(o:Bop):V := .dat (.agg [.lit (.int .i64 o.opd),.lit (.int .i64 o.res)])
theorem qsg(o:Bop):qd9 .s (.string o.str) qcw=some (some (qAx o)):=by cases o<;>kernel_rfl
theorem qg5 (k n:Int) (s:ByteArray) (f:Bool) (e:E) :
  Z qaM (.call 35 [.dat (.agg [.lit (.int .i64 k),.lit (.int .i64 n),.lit (.string s),.sl [.lit (.int .i64 e.kind),.lit (.int .i64 e.num),.lit (.string e.str),e.kids] 1 f])] [])=some (.ret (.tup [e.node,qxk]) []):=by
 refine qac (pf:=F35) rfl rfl ?_
 simp[F35,V.len,qaf]
theorem qmv (k n:Int) (s:ByteArray) (f:Bool) (a b:E) :
  Z qaM (.call 35 [.dat (.agg [.lit (.int .i64 k),.lit (.int .i64 n),.lit (.string s),.sl [.lit (.int .i64 a.kind),.lit (.int .i64 a.num),.lit (.string a.str),a.kids,.lit (.int .i64 b.kind),.lit (.int .i64 b.num),.lit (.string b.str),b.kids] 2 f])] [])=some (.ret (.tup [a.node,b.node]) []):=by
 refine qac (pf:=F35) rfl rfl ?_
 simp[F35,V.len,qaf]
theorem qh8(k n:Int)(s:ByteArray):Z qaM (.call 35 [.dat (.agg [.lit (.int .i64 k),.lit (.int .i64 n),.lit (.string s),.lit (.slice none 0 0)])] [])=some (.ret (.tup [qxk,qxk]) []):=by
 refine qac (pf:=F35) rfl rfl ?_
 simp[F35,V.len]
@[simp] theorem qCv:eqS ⟨#[33]⟩ ⟨#[45]⟩=false:=by kernel_rfl
@[simp] theorem qCw:eqS ⟨#[45]⟩ ⟨#[45]⟩=true:=by kernel_rfl
@[simp] theorem qCx:ustr true=⟨#[45]⟩:=rfl
@[simp] theorem qCy:ustr false=⟨#[33]⟩:=rfl
section
variable{e a b:E}{f:Bool}{s:ByteArray}
theorem qvz (ih:Z qaM (.call 27 [.agg [.mp 0],e.node] [.map qcw])=some (.ret (.int e.ty) [.map qcw])) :
  Z qaM (.call 27 [.agg [.mp 0],(E.field f s e).node] [.map qcw])=some (.ret (.int (E.field f s e).ty) [.map qcw]):=by
 refine qac (pf:=F27) rfl rfl ?_
 by_cases h:e.ty=1
 ·simp[F27,qg5,ih,h]
 ·simp[F27,qg5,ih,h]
theorem qCT (neg:Bool) (ih:Z qaM (.call 27 [.agg [.mp 0],e.node] [.map qcw])=some (.ret (.int e.ty) [.map qcw])) :
  Z qaM (.call 27 [.agg [.mp 0],(E.un f neg e).node] [.map qcw])=some (.ret (.int (E.un f neg e).ty) [.map qcw]):=by
 refine qac (pf:=F27) rfl rfl ?_
 cases neg
 ·by_cases h:e.ty=2
  ·simp[F27,qg5,ih,h]
  ·simp[F27,qg5,ih,h]
 ·by_cases h:e.ty=1
  ·simp[F27,qg5,ih,h]
  ·simp[F27,qg5,ih,h]
set_option maxHeartbeats 1000000 in
theorem qBp (o:Bop) (iha:Z qaM (.call 27 [.agg [.mp 0],a.node] [.map qcw])=some (.ret (.int a.ty) [.map qcw])) (ihb:Z qaM (.call 27 [.agg [.mp 0],b.node] [.map qcw])=some (.ret (.int b.ty) [.map qcw])) :
  Z qaM (.call 27 [.agg [.mp 0],(E.bin f o a b).node] [.map qcw])=some (.ret (.int (E.bin f o a b).ty) [.map qcw]):=by
 have hf:=qsg o
 refine qac (pf:=F27) rfl rfl ?_
 by_cases h:a.ty=o.opd
 ·by_cases h':b.ty=o.opd
  ·simp[F27,qmv,iha,ihb,h,h',hf,qAx,qdW]
  ·simp[F27,qmv,iha,ihb,h,h',hf,qAx,qdW]
 ·simp[F27,qmv,iha,ihb,h,hf,qAx,qdW]
theorem qcL : ∀ e:E,Z qaM (.call 27 [.agg [.mp 0],e.node] [.map qcw])=some (.ret (.int e.ty) [.map qcw])
 |.int n=>by
  refine qac (pf:=F27) rfl rfl ?_
  simp[F27,qh8]
 |.bool n=>by
  refine qac (pf:=F27) rfl rfl ?_
  simp[F27,qh8]
 |.var s=>by
  refine qac (pf:=F27) rfl rfl ?_
  simp[F27,qh8]
 |.name s=>by
  refine qac (pf:=F27) rfl rfl ?_
  simp[F27,qh8]
 |.field f s e=>qvz (qcL e)
 |.un f neg e=>qCT neg (qcL e)
 |.bin f o a b=>qBp o (qcL a) (qcL b)
end
end
section
open F
@[simp] theorem qAA:eqS ⟨#[33]⟩ ⟨#[33]⟩=true:=by kernel_rfl
@[simp] theorem qAB:eqS ⟨#[45]⟩ ⟨#[33]⟩=false:=by kernel_rfl
attribute [local simp] qab qaa V.len qaf
section
variable{e a b:E}{f:Bool}{s:ByteArray}
set_option maxHeartbeats 1000000 in
end
end
section
open F
theorem qkc(k n:Int)(s:ByteArray)(f:Bool)(ks:Fo):Z qaM (.call 35 [nd k n s f ks] [])=some (.ret (.tup [ks.hd,ks.tl.hd]) []):=by
 refine qac (pf:=F35) rfl rfl ?_
 cases ks with
 |nil=>simp[F35,V.len,Fo.hk,Fo.hn,Fo.hs,Fo.hf,Fo.hks,Fo.tl]
 |cons k1 n1 s1 f1 ks1 r=>cases r with
  |nil=>simp[F35,V.len,qaf,Fo.hk,Fo.hn,Fo.hs,Fo.hf,Fo.hks,Fo.tl]
  |cons k2 n2 s2 f2 ks2 r=>
   have h:(1:Int)<(r.len:Int)+1+1:=by omega
   have h':(0:Int)<(r.len:Int)+1+1:=by omega
   have h0:0<r.len+1+1:=by omega
   have h1:1<r.len+1+1:=by omega
   simp[F35,V.len,qaf,Fo.hk,Fo.hn,Fo.hs,Fo.hf,Fo.hks,Fo.tl,h,h',h0,h1]
section
abbrev ql5(i:Nat)(N:Nat)(s:D):Fr:=[(2,.ptr 1 0),(7,.dat s),(8,.int N),(9,.int i)]
def qtL(N:Nat)(s:D)(b:Bool)(g:Ob):Option Res:=
 some (if b then .out (.exit 0) [(2,.ptr 1 0),(7,.dat s),(8,.int N),(9,.int N),(10,.bool false)] [.map qcw,.cells [.mp 0]]
  else .out .ret [(4,.bool false)] [.map qcw,.cells [.mp 0],g])
theorem qrC(N:Nat)(s:D) : ∃ g,Z qaM (.loop 1 F37l0 (ql5 N N s) [.map qcw,.cells [.mp 0]])=qtL N s true g:=by
 refine⟨.tip 0,?_⟩
 rw[qaa]
 simp[qab,qin,qtL]
theorem qfz {k n:Int} {s:ByteArray} {f:Bool} {ks:Fo} {w wr:Bool} (hw:Z qaM (.call 30 [.agg [.mp 0],nd k n s f ks] [.map qcw])=some (.ret (.bool w) [.map qcw]))
  {i N:Nat} {cs r:List D} {fl:Bool} (hc:cs.drop (i*4) = .lit (.int .i64 k) :: .lit (.int .i64 n) :: .lit (.string s)::kd f ks.len ks.cells::r) (hi:i<N) (hN:N<2^40)
  (ih:w=true -> ∃ g,Z qaM (.loop 1 F37l0 (ql5 (i+1) N (.sl cs N fl)) [.map qcw,.cells [.mp 0]])=qtL N (.sl cs N fl) wr g) :
  ∃ g,Z qaM (.loop 1 F37l0 (ql5 i N (.sl cs N fl)) [.map qcw,.cells [.mp 0]])=qtL N (.sl cs N fl) (w&&wr) g:=by
 have h4:=qx2 hc
 have w1:=qai ((i:Int)+1) (by omega)
 have hi':(i:Int)<N:=by omega
 cases w with
 |true=>
  obtain⟨g,hg⟩:=ih rfl
  refine⟨g,?_⟩
  rw[qaa]
  rw[Bool.true_and,<- hg]
  simp[qab,qin,hi,hi',qaf,h4,hw,w1]
  exact qah (by simp[ql5])
 |false=>
  refine⟨.cells [.int k,.int n,.str s,.dat (kd f ks.len ks.cells)],?_⟩
  rw[qaa]
  simp[qab,qin,hi,hi',qaf,h4,hw,w1,qtL]
theorem qf5 {N:Nat} {cs:List D} {f:Bool} {b:Bool} (h : ∃ g,Z qaM (.loop 1 F37l0 (ql5 0 N (.sl cs N f)) [.map qcw,.cells [.mp 0]])=qtL N (.sl cs N f) b g) :
  Z qaM (.call 37 [.agg [.mp 0],.dat (.sl cs N f)] [.map qcw])=some (.ret (.bool b) [.map qcw]):=by
 obtain⟨g,hg⟩:=h
 refine qac (pf:=F37) rfl rfl ?_
 simp only[ql5,qtL] at hg
 cases b<;>simp at hg<;>simp[F37,V.len,hg]
theorem qrD:Z qaM (.call 37 [.agg [.mp 0],.dat (.lit (.slice none 0 0))] [.map qcw])=some (.ret (.bool true) [.map qcw]):=by
 obtain⟨g,hg⟩:=qrC 0 (.lit (.slice none 0 0))
 refine qac (pf:=F37) rfl rfl ?_
 simp[ql5,qtL] at hg
 simp[F37,V.len,hg]
end
end
section
open F
section
variable{e a b c:E}{f:Bool}{s:ByteArray}
theorem qqB:Z qaM (.call 30 [.agg [.mp 0],nd 1 0 s f (e.fo .nil)] [.map qcw])=some (.ret (.bool (decide (e.ty=1))) [.map qcw]):=by
 have hk:=qkc 1 0 s f (e.fo .nil)
 have h1:=qcL e
 refine qac (pf:=F30) rfl rfl ?_
 simp[nd,Fo.hd] at hk
 simp[F30,hk,h1]
theorem qqC:Z qaM (.call 30 [.agg [.mp 0],nd 5 0 s f (a.fo (b.fo .nil))] [.map qcw])=some (.ret (.bool (decide (a.ty=1)&&decide (b.ty=1))) [.map qcw]):=by
 have hk:=qkc 5 0 s f (a.fo (b.fo .nil))
 have h1:=qcL a
 have h2:=qcL b
 refine qac (pf:=F30) rfl rfl ?_
 simp[nd,Fo.hd] at hk
 by_cases h:a.ty=1
 ·simp[F30,hk,h1,h2,h]
 ·simp[F30,hk,h1,h2,h]
theorem qsW:Z qaM (.call 30 [.agg [.mp 0],nd 2 0 s f (a.fo (b.fo .nil))] [.map qcw])=some (.ret (.bool (!(eqS s qi3||eqS s qj5)&&(decide (a.ty=1)&&decide (b.ty=1)))) [.map qcw]):=by
 have hk:=qkc 2 0 s f (a.fo (b.fo .nil))
 have h1:=qcL a
 have h2:=qcL b
 refine qac (pf:=F30) rfl rfl ?_
 simp[nd,Fo.hd] at hk
 unfold qi3 qj5
 cases hh:eqS s ⟨#[104,105,116]⟩ with
 |true=>simp[F30,hk,h1,h2,hh]
 |false=>cases hs:eqS s ⟨#[115,116,105,108,108]⟩ with
  |true=>simp[F30,hk,h1,h2,hh,hs]
  |false=>
   by_cases h:a.ty=1
   ·simp[F30,hk,h1,h2,h,hh,hs]
   ·simp[F30,hk,h1,h2,h,hh,hs]
theorem qwa:Z qaM (.call 30 [.agg [.mp 0],nd 6 0 s f .nil] [.map qcw])=some (.ret (.bool true) [.map qcw]):=by
 have hk:=qkc 6 0 s f .nil
 refine qac (pf:=F30) rfl rfl ?_
 simp[nd,Fo.hd] at hk
 simp[F30,hk]
theorem qwb(w:Bool){r:Fo}{z:Bool}(hr:Z qaM (.call 37 [.agg [.mp 0],.dat (.sl r.cells r.len false)] [.map qcw])=some (.ret (.bool z) [.map qcw])):Z qaM (.call 30 [.agg [.mp 0],nd (if w then 4 else 3) 0 s f (c.fo r)] [.map qcw])=some (.ret (.bool (decide (c.ty=2)&&z)) [.map qcw]):=by
 have hk:=qkc (if w then 4 else 3) 0 s f (c.fo r)
 have h1:=qcL c
 have hl:=qfa r
 have e1:(1:Int)<=(r.len:Int)+1:=by omega
 have e2:r.len*4+1+1+1+1=(r.len+1)*4:=by omega
 have e3:List.take (r.len*4) r.cells=r.cells:=Wy (by omega)
 refine qac (pf:=F30) rfl rfl ?_
 cases w<;>simp[nd,Fo.hd] at hk<;>by_cases h:c.ty=2<;>simp[F30,hk,h1,h,hr,qd8,bound,V.len,hl,e1,e2,e3]
theorem qnL{r:Fo}{z:Bool}(hr:Z qaM (.call 37 [.agg [.mp 0],.dat (kd f r.len r.cells)] [.map qcw])=some (.ret (.bool z) [.map qcw])):Z qaM (.call 30 [.agg [.mp 0],nd 7 0 s f r] [.map qcw])=some (.ret (.bool z) [.map qcw]):=by
 have hk:=qkc 7 0 s f r
 refine qac (pf:=F30) rfl rfl ?_
 simp[nd,Fo.hd] at hk
 simp[F30,hk,hr]
end
end
section
open F
theorem qgC : ∀ (ss:Ss) (i:Nat) (cs:List D) (N:Nat) (fl:Bool),cs.drop (i*4)=ss.fo.cells->N=i+ss.fo.len->i+ss.fo.size<2^40 ->
  ∃ g,Z qaM (.loop 1 F37l0 (ql5 i N (.sl cs N fl)) [.map qcw,.cells [.mp 0]])=qtL N (.sl cs N fl) ss.well g
 |.nil,i,cs,N,fl,hc,hN,hb=>by
  simp only[Ss.fo,qaO,Yp] at hN
  subst hN
  exact qrC _ _
 |.assign f s e r,i,cs,N,fl,hc,hN,hb=>by
  simp only[Ss.fo,qan,qaA,qak] at hc hN hb
  have:=qbo r.fo
  exact qfz qqB hc (by omega) (by omega) fun _=>qgC r (i+1) cs N fl (qa9 hc) (by omega) (by omega)
 |.store f s a b r,i,cs,N,fl,hc,hN,hb=>by
  simp only[Ss.fo,qan,qaA,qak] at hc hN hb
  have:=qbo r.fo
  exact qfz qsW hc (by omega) (by omega) fun _=>qgC r (i+1) cs N fl (qa9 hc) (by omega) (by omega)
 |.effect f a b r,i,cs,N,fl,hc,hN,hb=>by
  simp only[Ss.fo,qan,qaA,qak] at hc hN hb
  have:=qbo r.fo
  exact qfz qqC hc (by omega) (by omega) fun _=>qgC r (i+1) cs N fl (qa9 hc) (by omega) (by omega)
 |.stop r,i,cs,N,fl,hc,hN,hb=>by
  simp only[Ss.fo,qan,qaA,qak] at hc hN hb
  have:=qbo r.fo
  have h:=qfz (wr:=r.well) qwa hc (by omega) (by omega) fun _=>qgC r (i+1) cs N fl (qa9 hc) (by omega) (by omega)
  rw[Bool.true_and] at h
  exact h
 |.cond w f c b r,i,cs,N,fl,hc,hN,hb=>by
  simp only[Ss.fo,qan,qaA,qak,qck] at hc hN hb
  have:=qbo r.fo
  have hw:=qwb (c:=c) (f:=f) (s:=⟨#[]⟩) w (qf5 (f:=false) (qgC b 0 b.fo.cells b.fo.len false rfl (by omega) (by omega)))
  exact qfz hw hc (by omega) (by omega) fun _=>qgC r (i+1) cs N fl (qa9 hc) (by omega) (by omega)
 |.block f b r,i,cs,N,fl,hc,hN,hb=>by
  simp only[Ss.fo,qan,qaA,qak] at hc hN hb
  have:=qbo r.fo
  have hw:Z qaM (.call 30 [.agg [.mp 0],nd 7 0 ⟨#[]⟩ f b.fo] [.map qcw])=some (.ret (.bool b.well) [.map qcw]):=by
   refine qnL ?_
   have h:=qf5 (f:=f) (qgC b 0 b.fo.cells b.fo.len f rfl (by omega) (by omega))
   cases hb:b.fo.len with
   |zero=>
    have hn:b = .nil:=by cases b<;>simp[Ss.fo] at hb; rfl
    subst hn
    exact qrD
   |succ n=>rw[qij,<- hb]; exact h
  exact qfz hw hc (by omega) (by omega) fun _=>qgC r (i+1) cs N fl (qa9 hc) (by omega) (by omega)
theorem qcD(f:Bool)(b:Ss)(h:b.fo.size<2^40):Z qaM (.call 30 [.agg [.mp 0],nd 7 0 ⟨#[]⟩ f b.fo] [.map qcw])=some (.ret (.bool b.well) [.map qcw]):=by
 refine qnL ?_
 have h:=qf5 (f:=f) (qgC b 0 b.fo.cells b.fo.len f rfl (by omega) (by omega))
 cases hb:b.fo.len with
 |zero=>
  have hn:=qej hb
  subst hn
  exact qrD
 |succ n=>rw[qij,<- hb]; exact h
section
variable{e a b c:E}{f:Bool}{s:ByteArray}
attribute [local simp] qab qaa V.len qaf
end
end
section
open F
abbrev cfr(r:D)(i:Int):Fr:=[(1,.ptr 0 0),(3,.ptr 1 0),(8,.dat r),(9,.int i)]
abbrev qjC(a b c:Nd):S:=[qgP a b c,.cells [.mp 2],.map qcw]
section
variable{a b c:Nd}
theorem qyA{h:Hd}(hb:h.ks.size<2^25)(hw:h.well=true):Z qaM (.loop 0 F12l0 (cfr (ru h.nd b c) 0) (qjC h.nd b c))=Z qaM (.loop 0 F12l0 (cfr (ru h.nd b c) 1) (qjC h.nd b c)):=by
 have w1:=qai 1 (by omega)
 conv=>lhs; rw[qaa]
 cases h with
 |none=>
  simp[qab,qb9,w1,Hd.k,Hd.f,Hd.ks,Nd.d]
  exact qah (by simp[Hd.k,Hd.f,Hd.ks,Nd.d])
 |some f q=>
  have h1:=qcD f q (by simp only[Hd.ks] at hb; omega)
  simp only[Hd.well] at hw
  simp only[hw] at h1
  simp[qab,qb9,w1,Hd.k,Hd.f,Hd.ks,Nd.d,h1]
  exact qah (by simp[Hd.k,Hd.f,Hd.ks,Nd.d])
theorem qvr{h:Hd}(hb:h.ks.size<2^25)(hw:h.well=false) : ∃ g,Z qaM (.loop 0 F12l0 (cfr (ru h.nd b c) 0) (qjC h.nd b c))=some (.out .ret [(2,.int 13)] (qjC h.nd b c++[g])):=by
 cases h with
 |none=>simp[Hd.well] at hw
 |some f q=>
  have h1:=qcD f q (by simp only[Hd.ks] at hb; omega)
  simp only[Hd.well] at hw
  simp only[hw] at h1
  refine⟨.cells [.int 7,.int 0,.str ⟨#[]⟩,.dat (kd f q.fo.len q.fo.cells)],?_⟩
  rw[qaa]
  simp[qab,qb9,Hd.k,Hd.f,Hd.ks,Nd.d,h1]
theorem qyB{h:Hd}(hb:h.ks.size<2^25)(hw:h.well=true):Z qaM (.loop 0 F12l0 (cfr (ru a h.nd c) 1) (qjC a h.nd c))=Z qaM (.loop 0 F12l0 (cfr (ru a h.nd c) 2) (qjC a h.nd c)):=by
 have w1:=qai 2 (by omega)
 conv=>lhs; rw[qaa]
 cases h with
 |none=>
  simp[qab,qb9,w1,Hd.k,Hd.f,Hd.ks,Nd.d]
  exact qah (by simp[Hd.k,Hd.f,Hd.ks,Nd.d])
 |some f q=>
  have h1:=qcD f q (by simp only[Hd.ks] at hb; omega)
  simp only[Hd.well] at hw
  simp only[hw] at h1
  simp[qab,qb9,w1,Hd.k,Hd.f,Hd.ks,Nd.d,h1]
  exact qah (by simp[Hd.k,Hd.f,Hd.ks,Nd.d])
theorem qvs{h:Hd}(hb:h.ks.size<2^25)(hw:h.well=false) : ∃ g,Z qaM (.loop 0 F12l0 (cfr (ru a h.nd c) 1) (qjC a h.nd c))=some (.out .ret [(2,.int 13)] (qjC a h.nd c++[g])):=by
 cases h with
 |none=>simp[Hd.well] at hw
 |some f q=>
  have h1:=qcD f q (by simp only[Hd.ks] at hb; omega)
  simp only[Hd.well] at hw
  simp only[hw] at h1
  refine⟨.cells [.int 7,.int 0,.str ⟨#[]⟩,.dat (kd f q.fo.len q.fo.cells)],?_⟩
  rw[qaa]
  simp[qab,qb9,Hd.k,Hd.f,Hd.ks,Nd.d,h1]
theorem qyC{h:Hd}(hb:h.ks.size<2^25)(hw:h.well=true):Z qaM (.loop 0 F12l0 (cfr (ru a b h.nd) 2) (qjC a b h.nd))=Z qaM (.loop 0 F12l0 (cfr (ru a b h.nd) 3) (qjC a b h.nd)):=by
 have w1:=qai 3 (by omega)
 conv=>lhs; rw[qaa]
 cases h with
 |none=>
  simp[qab,qb9,w1,Hd.k,Hd.f,Hd.ks,Nd.d]
  exact qah (by simp[Hd.k,Hd.f,Hd.ks,Nd.d])
 |some f q=>
  have h1:=qcD f q (by simp only[Hd.ks] at hb; omega)
  simp only[Hd.well] at hw
  simp only[hw] at h1
  simp[qab,qb9,w1,Hd.k,Hd.f,Hd.ks,Nd.d,h1]
  exact qah (by simp[Hd.k,Hd.f,Hd.ks,Nd.d])
theorem qvt{h:Hd}(hb:h.ks.size<2^25)(hw:h.well=false) : ∃ g,Z qaM (.loop 0 F12l0 (cfr (ru a b h.nd) 2) (qjC a b h.nd))=some (.out .ret [(2,.int 13)] (qjC a b h.nd++[g])):=by
 cases h with
 |none=>simp[Hd.well] at hw
 |some f q=>
  have h1:=qcD f q (by simp only[Hd.ks] at hb; omega)
  simp only[Hd.well] at hw
  simp only[hw] at h1
  refine⟨.cells [.int 7,.int 0,.str ⟨#[]⟩,.dat (kd f q.fo.len q.fo.cells)],?_⟩
  rw[qaa]
  simp[qab,qb9,Hd.k,Hd.f,Hd.ks,Nd.d,h1]
theorem qyD:Z qaM (.loop 0 F12l0 (cfr (ru a b c) 3) (qjC a b c))=some (.out (.exit 0) [(1,.ptr 0 0),(3,.ptr 1 0),(8,.dat (ru a b c)),(9,.int 3),(10,.bool false)] (qjC a b c)):=by
 rw[qaa]
 simp[qab,qb9]
end
def chk(a b c:Hd):Int:=if (a.well&&(b.well&&c.well))=true then (if 16<(rvars a.nd b.nd c.nd).length then 2 else 0) else 13
section
variable{a b c:Hd}
theorem qvu (ha:a.ks.size<2^25) (hb:b.ks.size<2^25) (hc:c.ks.size<2^25):if (a.well&&(b.well&&c.well))=true then Z qaM (.loop 0 F12l0 (cfr (ru a.nd b.nd c.nd) 0) (qjC a.nd b.nd c.nd))=some (.out (.exit 0) [(1,.ptr 0 0),(3,.ptr 1 0),(8,.dat (ru a.nd b.nd c.nd)),(9,.int 3),(10,.bool false)] (qjC a.nd b.nd c.nd))
  else∃g,Z qaM (.loop 0 F12l0 (cfr (ru a.nd b.nd c.nd) 0) (qjC a.nd b.nd c.nd))=some (.out .ret [(2,.int 13)] (qjC a.nd b.nd c.nd++[g])):=by
 cases wa:a.well with
 |false=>simpa using qvr ha wa
 |true=>
  rw[qyA ha wa]
  cases wb:b.well with
  |false=>simpa using qvs hb wb
  |true=>
   rw[qyB hb wb]
   cases wc:c.well with
   |false=>simpa using qvt hc wc
   |true=>rw[qyC hc wc]; simpa using qyD
theorem qvv(ha:a.ks.size<2^25)(hb:b.ks.size<2^25)(hc:c.ks.size<2^25):Z qaM (.call 12 [.dat (ru a.nd b.nd c.nd)] [])=some (.ret (.int (chk a b c)) []):=by
 have h:=qvu ha hb hc
 have hv:=qgS qgy (qi7 (a:=a.nd) (b:=b.nd) (c:=c.nd) ha hb hc)
 have hg:Z qaM (.loop 0 F12l0 [(1,.ptr 0 0),(3,.ptr 2 0),(8,.dat (ru a.nd b.nd c.nd)),(9,.int 0)] [qgP a.nd b.nd c.nd,.map qcw,.cells [.mp 1]])=Z qaM (.loop 0 F12l0 (cfr (ru a.nd b.nd c.nd) 0) (qjC a.nd b.nd c.nd)):=qah (by simp[Nd.d,Hd.k,Hd.f,Hd.ks])
 rw[<- hg] at h
 refine qac (pf:=F12) rfl rfl ?_
 unfold chk
 simp only[cfr,qjC,qgP,ru,Nd.d,qAX,qAY,qAZ,qA0,qpp,Wg,Wc] at h hv
 cases hw:(a.well&&(b.well&&c.well)) with
 |false=>
  rw[hw] at h
  obtain⟨g,h⟩:=h
  simp[F12,ru,Nd.d,h,qeT]
 |true=>
  rw[hw,if_pos rfl] at h
  rw[if_pos rfl]
  by_cases h16:16<(rvars a.nd b.nd c.nd).length
  ·have h16':(16:Int)<(rvars a.nd b.nd c.nd).length:=by omega
   simp[F12,ru,Nd.d,h,qeT,hv,h16,h16']
  ·have h16' : ¬ (16:Int)<(rvars a.nd b.nd c.nd).length:=by omega
   simp[F12,ru,Nd.d,h,qeT,hv,h16,h16']
end
end
section
open F Gr
set_option maxHeartbeats 4000000
def qmZ(c:Cd):List Int:=c.flatMap fun x=>[x.1,x.2]
theorem qlV(c:Cd):(qmZ c).length=2*c.length:=by
 induction c with
 |nil=>rfl
 |cons x c ih=>simp only[qmZ,List.flatMap_cons,Wb,We,Wk] at ih ⊢; omega
theorem qtA(c:Cd):icC c=intsC (qmZ c):=by
 induction c with
 |nil=>rfl
 |cons x c ih=>
  have e:icC (x::c)=[.lit (.int .i64 x.1),.lit (.int .i64 x.2)]++icC c:=rfl
  rw[e,ih]
  rfl
theorem qhl(c:Cd):codeD c=qoy (qmZ c):=by
 cases c with
 |nil=>rfl
 |cons x c=>
  have hl:=qlV (x::c)
  have e:qmZ (x::c)=x.1::x.2::qmZ c:=rfl
  show D.sl (icC (x::c)) (x::c).length false=_
  rw[qtA]
  rw[e] at hl ⊢
  unfold qoy
  simp only
  rw[hl]
  congr 1
  omega
section
variable{prog:Nat->Option PFun}(hb:Sub qad prog)(h14:Sub qaM prog)(sp:Sub tP prog)(ss:Sub tS prog)(h7 : ∀ k pf,tB k=some pf->prog k=some pf)(hH : ∀ k pf,tH k=some pf->prog k=some pf)
include hb ss in
theorem qtB(h227:prog 227=some F227){v:D}{xs:List Int}(h:RowV v xs)(hx : ∀ x∈xs,I64 x) : ∃ a b c:Hd,a.gen/\b.gen/\c.gen/\a.cost+(b.cost+c.cost)<=1440/\Z prog (.call 227 [.dat v] [])=some (.ret (.str (bs (qap false (qaY (Hd.opts a b c))))) []):=by
 obtain⟨a,b,c,ha,hb',⟨hc,hco⟩,zp⟩:=qpl h hx
 refine⟨a,b,c,ha,hb',hc,hco,?_⟩
 have hl:=qn7 a b c
 have zs:=qgS ss (qsx (qlS ha hb' hc) (by omega))
 have zp':=qgS hb zp
 have k0:=h.one
 have k1:=h.cells
 refine qac h227 rfl ?_
 generalize bs (qap false (qaY (Hd.opts a b c)))=R at *
 generalize ru a.nd b.nd c.nd=r at *
 simp -implicitDefEqProofs [F227,zp',zs]
include hb h14 sp ss h7 hH
end
end
section
open F
structure HasD(prog:Nat->Option PFun):Prop extends Has prog where
 kd:Sub tKd prog
end
section
open F
structure HasZ(prog:Nat->Option PFun):Prop extends Has prog where
 ez:Sub tEz prog
 kz:Sub tKz prog
theorem qpb(f fi fb:Bool)(h:Nat->Option Ss):qaY (qx5 f fi fb h)=qaY h:=by
 have e : ∀ k,qfC k (qx5 f fi fb h k)=qfC k (h k):=fun k=>by
  unfold qx5
  cases h k with
  |none=>rfl
  |some b=>simp[qfC,qhQ]
 simp only[qaY,e]
theorem qti{f fi fb:Bool}{h:Nat->Option Ss}(hg : ∀ k,qdC (h k)) : ∀ k,qdC (qx5 f fi fb h k):=fun k b hb=>by
 unfold qx5 at hb
 cases hk:h k with
 |none=>rw[hk] at hb; cases hb
 |some x=>
  rw[hk] at hb
  cases hb
  have:=hg k x hk
  exact⟨(qdh f fi fb x none).2 this.1,by rw[qdU]; exact this.2⟩
end
section
open F Gr
set_option maxHeartbeats 4000000
theorem qmq{vs:List ByteArray}{h:Hd}{x p:Int}(e:0<=qjb h x):0<(hdC vs h p).length:=by
 cases h with
 |none=>exact absurd e (by simp only[qjb]; omega)
 |some f b=>simp[hdC,snC]
theorem qvg{a b c:Hd}(fa:a.fine)(fb:b.fine)(fc:c.fine) : ∃ (K:Cd) (e0 e1 e2 m0 m1 m2:Int),K.length<=30000/\Z qad (.call 131 [.dat (ru a.nd b.nd c.nd)] [])=some (.ret (qtU K e0 e1 e2 m0 m1 m2) []):=by
 have hp : ∀ vs,qeH vs a b c=hdC vs a 0++(hdC vs b (0+(hdC vs a 0).length)++hdC vs c (0+(hdC vs a 0).length+(hdC vs b (0+(hdC vs a 0).length)).length)):=fun vs=>rfl
 obtain⟨m0,d0⟩:=qrd (c:=qeH (rvars a.nd b.nd c.nd) a b c) (e:=qhM a) (fun h=>by
  rw[hp]
  have:=qmq (vs:=rvars a.nd b.nd c.nd) (p:=0) (show 0<=qjb a 0 from h)
  have e:qhM a=0:=by cases a with
   |none=>exact absurd h (by decide)
   |some f b=>rfl
  rw[e,Wb]
  show 0<_
  omega)
 obtain⟨m1,d1⟩:=qrd (c:=qeH (rvars a.nd b.nd c.nd) a b c) (e:=qgN (rvars a.nd b.nd c.nd) a b) (fun h=>by
  rw[hp]
  have:=qmq (vs:=rvars a.nd b.nd c.nd) (p:=0+(hdC (rvars a.nd b.nd c.nd) a 0).length) h
  have e:qgN (rvars a.nd b.nd c.nd) a b=(hdC (rvars a.nd b.nd c.nd) a 0).length:=by cases b with
   |none=>exact absurd h (by simp only[qgN,qjb]; omega)
   |some f b=>rfl
  rw[e,Wb,Wb]
  omega)
 obtain⟨m2,d2⟩:=qrd (c:=qeH (rvars a.nd b.nd c.nd) a b c) (e:=qgO (rvars a.nd b.nd c.nd) a b c) (fun h=>by
  rw[hp]
  have:=qmq (vs:=rvars a.nd b.nd c.nd) (p:=0+(hdC (rvars a.nd b.nd c.nd) a 0).length+(hdC (rvars a.nd b.nd c.nd) b (0+(hdC (rvars a.nd b.nd c.nd) a 0).length)).length) h
  have e:qgO (rvars a.nd b.nd c.nd) a b c=((hdC (rvars a.nd b.nd c.nd) a 0).length+(hdC (rvars a.nd b.nd c.nd) b (0+(hdC (rvars a.nd b.nd c.nd) a 0).length)).length:Nat):=by cases c with
   |none=>exact absurd h (by simp only[qgO,qjb]; omega)
   |some f b=>simp only[qgO,qjb,sq,Wb]
  rw[e,Wb,Wb]
  omega)
 exact⟨_,_,_,_,m0,m1,m2,ql7 fa fb fc,qqx fa fb fc d0 d1 d2⟩
section
variable{prog:Nat->Option PFun}(hb:Sub qad prog)(h14:Sub qaM prog)(sp:Sub tP prog)(ss:Sub tS prog)(sq':Sub tQ prog)(sr:Sub tR prog)(h7 : ∀ k pf,tB k=some pf->prog k=some pf)(hH : ∀ k pf,tH k=some pf->prog k=some pf)
include hb h14 sp ss sq' sr h7 hH
theorem qgV (hF:prog 339=some F339) (h227:prog 227=some F227) (h314:prog 314=some F314) (h23:prog 323=some F323) (h24:prog 324=some F324) (h25:prog 325=some F325) (h26:prog 326=some F326) (h27:prog 327=some F327) (h28:prog 328=some F328) (h22:prog 322=some F322) (h29:prog 329=some F329) (h30:prog 330=some F330) (h331:prog 331=some F331) (h343:prog 343=some F343) (h346:prog 346=some F346) (h353:prog 353=some F353)
  (hv:Z prog (.call 321 [] [])=some (.ret (.bool true) [])) {v u:D} {xs ys:List Int} (hr:RowV v xs) (hx : ∀ x∈xs,I64 x) (hu:RowV u ys) (hy : ∀ y∈ys,I64 y):Z prog (.call 339 [.dat v,.dat u] [])=some (.ret (.bool true) []):=by
 obtain⟨a,b,c,ga,gb,gc,hco,zS⟩:=qtB hb ss h227 hr hx
 have hg:=qlS ga gb gc
 have hl:=qn7 a b c
 have hw:wt (qaY (Hd.opts a b c))<=1440:=by
  have h0:=qpf 0 a
  have h1:=qpf 1 b
  have h2:=qpf 2 c
  have:qaY (Hd.opts a b c)=qfC 0 a.opt++(qfC 1 b.opt++qfC 2 c.opt):=rfl
  rw[this,qdS,qdS]
  omega
 have two : ∀ s:ByteArray,Z prog (.call 228 [.str s] [])=some (.ret (.tup [quH fun k=>qkp (if k<3 then (Hd.opts a b c k).map (·.fl true true false) else none),.int 0,.int 0]) [])->Z prog (.call 228 [.str s] [])=some (.ret (.tup [.dat (ru a.rf.nd b.rf.nd c.rf.nd),.int 0,.int 0]) []):=fun s z=>by
  simp only[qvf] at z
  exact z
 have zP:=two _ (qgS sp (qo1 hg (by omega)))
 obtain⟨l,w,SP,s1,s2,s3,s4,zsp⟩:=qsw hb sr h314 hg (by omega) hu hy
 have zPP : ¬ (2000:Int)<SP.size->Z prog (.call 228 [.str SP] [])=some (.ret (.tup [.dat (ru a.rf.nd b.rf.nd c.rf.nd),.int 0,.int 0]) []):=fun hs=>by
  obtain⟨e,hx⟩:=qjn 12 2 6 (qnr fun p hp=>⟨s2 p hp,qj1 (qmG hg).ok _ (by rw[<- s1]; exact List.mem_map_of_mem hp)⟩) s3.1 (.inr s3.2.2) s4
  rw[s1] at hx
  exact two _ (qgS sp (qnN hg (by omega) hx))
 have zR:Z prog (.call 231 [.dat (ru a.rf.nd b.rf.nd c.rf.nd)] [])=some (.ret (.str (bs (qap false (qaY (Hd.opts a b c))))) []):=by
  have hm:=qti (f:=true) (fi:=true) (fb:=false) hg
  have hgo:=qr7 hm
  have e:=qpR (qx5 true true false (Hd.opts a b c))
  rw[qpb] at e
  have z:=qgS sq' (qwT hgo (by rw[e]; omega))
  rw[e] at z
  exact z
 have fa:=qmY ga.tofine
 have fb:=qmY gb.tofine
 have fc:=qmY gc.tofine
 have sa:=qpx a.rf fa
 have sb:=qpx b.rf fb
 have sc:=qpx c.rf fc
 rw[qpp] at sa sb sc
 have zC:=qgS h14 (qvv (a:=a.rf) (b:=b.rf) (c:=c.rf) (by omega) (by omega) (by omega))
 obtain⟨K,e0,e1,e2,m0,m1,m2,hK,zK⟩:=qvg fa fb fc
 have zK:=qgS hb zK
 have hS : ¬ (2000:Int)<(bs (qap false (qaY (Hd.opts a b c)))).size:=by rw[qaw]; omega
 generalize bs (qap false (qaY (Hd.opts a b c)))=S at *
 generalize a.rf.nd=A at *
 generalize b.rf.nd=B at *
 generalize c.rf.nd=C at *
 generalize chk a.rf b.rf c.rf=q at *
 clear hg hl fa fb fc sa sb sc ga gb gc hco two s1 s2 s3 s4 hw
 have new : ∀ X:ByteArray,Z prog (.call 228 [.str X] [])=some (.ret (.tup [.dat (ru A B C),.int 0,.int 0]) []) -> ∀ {d:D} {y0 y1 y2 e:Int},V.one (.dat d)=true->V.cells (.dat d)=[.dat d]->Z prog (.call 328 [.dat (ru A B C),.int q,.fn 131 [] []] [])=some (.ret (.tup [pgD d y0 y1 y2,.int e]) [])->Z prog (.call 322 [.str X] [])=some (.ret (.tup [pgD d y0 y1 y2,.int e]) []):=fun X zX d y0 y1 y2 e o c z=>qyV h22 o c (qyS h24 (qyR h25 zX)) (qyU h26 (qyT h27 zC)) z
 have bad : ∀ e:Int,e≠0->Z prog (.call 328 [.dat (ru A B C),.int q,.fn 131 [] []] [])=some (.ret (.tup [pgD (.lit (.slice none 0 0)) 0 0 0,.int e]) [])->Z prog (.call 339 [.dat v,.dat u] [])=some (.ret (.bool true) []):=fun e he z=>
  qCh hF hv zS he (qw7 (h7 317 F317 rfl) rfl rfl he (new S zP rfl rfl z))
 by_cases hq:q=0
 ·rw[hq] at bad new
  unfold qtU at zK
  by_cases h4:400<K.length
  ·rw[if_pos h4] at zK
   exact bad 2 (by omega) (qmz h28 rfl rfl zK)
  ·rw[if_neg h4] at zK
   by_cases h16:16<m0\/16<m1\/16<m2
   ·rw[if_pos h16] at zK
    exact bad 15 (by omega) (qmz h28 rfl rfl zK)
   ·rw[if_neg h16] at zK
    have hd:=qtS K
    have zp:=qmz h28 hd.one hd.cells zK
    obtain⟨w,hw⟩ : ∃ w:Vr,w=⟨0,codeD K,e0,e1,e2,hd.one,hd.cells⟩:=⟨_,rfl⟩
    have wt:w.t=0:=by rw[hw]
    have wc:w.c=codeD K:=by rw[hw]
    have wa:w.a=e0:=by rw[hw]
    have wb:w.b=e1:=by rw[hw]
    have we:w.e=e2:=by rw[hw]
    have hlen:=qlV K
    have zN : ∀ X:ByteArray,Z prog (.call 228 [.str X] [])=some (.ret (.tup [.dat (ru A B C),.int 0,.int 0]) [])->Z prog (.call 317 [.str X] [])=_:=fun X zX=>qA4 h7 (s:=X) (v:=w) (by unfold qA3; rw[wc,wa,wb,we]; exact new X zX hd.one hd.cells zp) wt
    have zcl:Z prog (.call 331 [.dat (codeD K)] [])=some (.ret (.dat (codeD K)) []):=by rw[qhl]; exact quT h331 hlen (by omega)
    have zA:=qCS h29 h30 h23 (L:=[w]) (tick:=0) (r:=1) (k:=0) (by simp) (by simp) (by simp) (fun m (h:m<[w].length) hm=>by
     obtain rfl:m=0:=by omega
     show w.t<=0
     omega) (fun m (h:m<[w].length) hm=>by simp at h; omega) rfl (by simp) (by show Z prog (.call 331 [.dat w.c] [])=some (.ret (.dat w.c) []); rw[wc]; exact zcl)
    have zA:Z prog (.call 323 [.ptr 0 0,.int 0] (qiq [w]))=some (.ret (.tup [.int 0,pgD (codeD K) e0 e1 e2]) (qiq [w])):=by
     have e:([w]:List Vr)[0]=w:=rfl
     rw[e,wc,wa,wb,we] at zA
     exact zA
    have zs:Z prog (.call 346 [pgD (codeD K) e0 e1 e2,pgD (codeD K) e0 e1 e2] [])=some (.ret (.bool true) []):=by rw[qhl]; exact qx7 h346 hlen (by omega)
    have zh1:=qsR hH h353 (a:=e0) (b:=e1) (e:=e2) hlen (by omega) rfl
    generalize hhh:sumI (qk2 (qk2 (qk2 0 30787916450984560) 7) (IntKind.u64.wrap ((3+2*K.length:Nat):Int))) ([e0,e1,e2]++qmZ K)=hh at *
    have zr:=qyF (prog:=prog) hH h343 (H:=fun _=>hh) (L:=[w]) (by simp) (by simp) (fun i hi=>by
     have:i=0:=by simp at hi; omega
     subst this
     show Z prog (.call 353 [.dat (.agg [w.c,.lit (.int .i64 w.a),.lit (.int .i64 w.b),.lit (.int .i64 w.e)])] [])=_
     rw[wc,wa,wb,we,qhl]
     exact zh1) rfl
    rw[qt1] at zN zA zr
    refine qCi hF hv zS hd.one hd.cells zA zs zr (zN S zP) zP zsp zR ?_ hS
    by_cases hb:(2000:Int)<SP.size
    ·exact .inl hb
    ·exact .inr ⟨hb,zN SP (zPP hb)⟩
 ·exact bad q hq (qsq h28 hq)
end
end
end Go.Pm
section
namespace Go.Pm.F
variable(C:Task->Option Res)(q:Nat)(fr:Fr)(σ : S)
@[simp] def F46l0x:PC:=(sr [bn 13 .lss 12 11] [0,3,11,12,13] (.seq (.cond (.t 13) .skip (.exit 0)) (.seq (.block 1 (sr [mv 14 12,mv 4 14] [0,3,4,11,12] (.region (some []) [mv 15 3,nc 16 15,fa 17 0 16,l1 18 17,mv 19 4,mv 20 0,mv 21 4,jj 22 (.indexAddr 1 (.t 20) (.t 21)),l1 23 22,jj 24 (.indexAddr 1 (.t 18) (.t 19)),st 1 24 23] [0,3,11,12]))) (rn [bk 25 .add 12 1,mv 12 25] [0,3,11,12]))))
@[simp] def F59l0x:PC:=(sr [bn 11 .lss 10 9] [0,3,9,10,11] (.seq (.cond (.t 11) .skip (.exit 0)) (.seq (.block 1 (sr [mv 12 10,mv 4 12] [0,3,4,9,10] (rn [mv 13 3,mv 14 4,mv 15 0,mv 16 4,cl 17 51 [15,16],jj 18 (.indexAddr 1 (.t 13) (.t 14)),st 1 18 17] [0,3,9,10]))) (rn [bk 19 .add 10 1,mv 10 19] [0,3,9,10]))))
end Go.Pm.F
end
section
namespace Go.Pm.F
def prog17p:Nat->Option PFun
 |12=>some F12
 |15=>some F15
 |17=>some F17
 |20=>some F20
 |23=>some F23
 |26=>some F26
 |27=>some F27
 |30=>some F30
 |32=>some F32
 |35=>some F35
 |37=>some F37
 |38=>some F38
 |39=>some F39
 |58=>some F58
 |109=>some F109
 |110=>some F110
 |111=>some F111
 |112=>some F112
 |113=>some F113
 |123=>some F123
 |131=>some F131
 |134=>some F134
 |136=>some F136
 |137=>some F137
 |139=>some F139
 |140=>some F140
 |147=>some F147
 |148=>some F148
 |149=>some F149
 |152=>some F152
 |162=>some F162
 |164=>some F164
 |165=>some F165
 |166=>some F166
 |167=>some F167
 |168=>some F168
 |169=>some F169
 |170=>some F170
 |171=>some F171
 |176=>some F176
 |177=>some F177
 |178=>some F178
 |179=>some F179
 |180=>some F180
 |181=>some F181
 |182=>some F182
 |183=>some F183
 |184=>some F184
 |185=>some F185
 |186=>some F186
 |187=>some F187
 |188=>some F188
 |189=>some F189
 |190=>some F190
 |191=>some F191
 |192=>some F192
 |193=>some F193
 |194=>some F194
 |195=>some F195
 |196=>some F196
 |198=>some F198
 |200=>some F200
 |201=>some F201
 |204=>some F204
 |227=>some F227
 |228=>some F228
 |231=>some F231
 |234=>some F234
 |236=>some F236
 |239=>some F239
 |240=>some F240
 |241=>some F241
 |242=>some F242
 |243=>some F243
 |244=>some F244
 |245=>some F245
 |246=>some F246
 |247=>some F247
 |248=>some F248
 |249=>some F249
 |250=>some F250
 |251=>some F251
 |252=>some F252
 |253=>some F253
 |254=>some F254
 |255=>some F255
 |256=>some F256
 |257=>some F257
 |258=>some F258
 |259=>some F259
 |260=>some F260
 |261=>some F261
 |262=>some F262
 |263=>some F263
 |264=>some F264
 |265=>some F265
 |266=>some F266
 |267=>some F267
 |268=>some F268
 |269=>some F269
 |270=>some F270
 |271=>some F271
 |272=>some F272
 |273=>some F273
 |274=>some F274
 |275=>some F275
 |276=>some F276
 |277=>some F277
 |278=>some F278
 |279=>some F279
 |280=>some F280
 |281=>some F281
 |282=>some F282
 |283=>some F283
 |284=>some F284
 |285=>some F285
 |286=>some F286
 |287=>some F287
 |288=>some F288
 |289=>some F289
 |290=>some F290
 |291=>some F291
 |292=>some F292
 |293=>some F293
 |294=>some F294
 |295=>some F295
 |297=>some F297
 |298=>some F298
 |299=>some F299
 |300=>some F300
 |303=>some F303
 |304=>some F304
 |307=>some F307
 |308=>some F308
 |309=>some F309
 |314=>some F314
 |317=>some F317
 |318=>some F318
 |320=>some F320
 |321=>some F321
 |322=>some F322
 |323=>some F323
 |324=>some F324
 |325=>some F325
 |326=>some F326
 |327=>some F327
 |328=>some F328
 |329=>some F329
 |330=>some F330
 |331=>some F331
 |339=>some F339
 |343=>some F343
 |346=>some F346
 |353=>some F353
 |_=>none
end Go.Pm.F
end
namespace Go.Pm
section
open F
theorem qrr:Sub qad prog17p:=fun f pf h=>by
 unfold qad at h
 split at h<;>first | (cases h; rfl) | cases h
theorem qrs:Sub qaM prog17p:=fun f pf h=>by
 unfold qaM at h
 split at h<;>first | (cases h; rfl) | cases h
theorem qxo:Sub tP prog17p:=fun f pf h=>by
 unfold tP at h
 split at h<;>first | (cases h; rfl) | cases h
theorem qxp:Sub tS prog17p:=fun f pf h=>by
 unfold tS at h
 split at h<;>first | (cases h; rfl) | cases h
theorem qxq:Sub tQ prog17p:=fun f pf h=>by
 unfold tQ at h
 split at h<;>first | (cases h; rfl) | cases h
theorem qxr:Sub tR prog17p:=fun f pf h=>by
 unfold tR at h
 split at h<;>first | (cases h; rfl) | cases h
theorem qxs:Sub tB prog17p:=fun f pf h=>by
 unfold tB at h
 split at h<;>first | (cases h; rfl) | cases h
theorem qxt:Sub tH prog17p:=fun f pf h=>by
 unfold tH at h
 split at h<;>first | (cases h; rfl) | cases h
theorem qpq:Z prog17p (.call 321 [] [])=some (.ret (.bool true) []):=qmf (n:=3000) (by kernel_rfl)
theorem normal17_Z{v u:D}{xs ys:List Int}(hv:RowV v xs)(hx : ∀ x∈xs,I64 x)(hu:RowV u ys)(hy : ∀ y∈ys,I64 y):Z prog17p (.call 339 [.dat v,.dat u] [])=some (.ret (.bool true) []):=
 qgV qrr qrs qxo qxp qxq qxr qxs qxt rfl rfl rfl rfl rfl rfl rfl rfl rfl rfl rfl rfl rfl rfl rfl rfl qpq hv hx hu hy
end
end Go.Pm
