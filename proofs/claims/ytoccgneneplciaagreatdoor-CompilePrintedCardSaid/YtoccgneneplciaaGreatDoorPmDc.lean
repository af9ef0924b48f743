/- Chapter 15: the program's translator: choices. -/
import Derived.Test.YtoccgneneplciaaGreatDoorPmAL
import Derived.Test.YtoccgneneplciaaGreatDoorPmG2
set_option linter.unusedSimpArgs false
set_option linter.unusedVariables false
namespace Go.Pm
section
open F Gr
set_option maxHeartbeats 2000000
attribute [local simp] qa7 qbB dkey qfR
abbrev nbo(k n:Int)(s:ByteArray)(d:D):Ob := .cells [.int k,.int n,.str s,.dat d]
structure Clo2(vs:List ByteArray)(id:Nat)(bn:Ob)(C:Int->Cd)(L:Nat):Prop where
 ln:Ln C L
 one : ∀ (e0 e1 e2:Int) (c:Cd),c≠[]->c.length+4*L<2^30->Z qad (.call id [.ptr 0 0,.ptr 1 0] [.cells [.ptr 2 0],bn,cob e0 e1 e2 3 c.length 4,.vec (icV c),mpo vs]) =
  some (.ret (.tup []) [.cells [.ptr 2 0],bn,cob e0 e1 e2 3 (c++C c.length).length 4,.vec (icV (c++C c.length)),mpo vs])
structure Clo1(vs:List ByteArray)(id:Nat)(C:Int->Cd)(L:Nat):Prop where
 ln:Ln C L
 one : ∀ (e0 e1 e2:Int) (c:Cd),c≠[]->c.length+4*L<2^30->Z qad (.call id [.ptr 0 0] [.cells [.ptr 1 0],cob e0 e1 e2 2 c.length 3,.vec (icV c),mpo vs]) =
  some (.ret (.tup []) [.cells [.ptr 1 0],cob e0 e1 e2 2 (c++C c.length).length 3,.vec (icV (c++C c.length)),mpo vs])
def qvX (vs:List ByteArray) (id:Nat) (bn:Ob) (C:Int->Cd):Prop := ∀ (e0 e1 e2:Int),Z qad (.call id [.ptr 0 0,.ptr 1 0] [.cells [.ptr 2 0],bn,qnR e0 e1 e2 3,mpo vs]) =
  some (.ret (.tup []) [.cells [.ptr 2 0],bn,cob e0 e1 e2 4 (C 0).length 3,mpo vs,.vec (icV (C 0))])
def qdN(A:Int->Cd)(c:Cd):Cd:=c++(19,(c.length:Int)+1+(A (c.length+1)).length+1)::(A (c.length+1)++[(18,0)])
section
variable{vs:List ByteArray}{e0 e1 e2:Int}{id:Nat}{k n:Int}{s:ByteArray}{d:D}{A:Int->Cd}{L:Nat}
theorem qmM (h:Clo2 vs id (nbo k n s d) A L) (c:Cd) (hc:c≠[]) (hl:c.length+4*L+10<2^30) :
  Z qad (.call 200 [.ptr 0 0,.fn id [] [.ptr 1 0,.ptr 2 0]] [cob e0 e1 e2 3 c.length 4,.cells [.ptr 0 0],nbo k n s d,.vec (icV c),mpo vs]) =
   some (.ret (.fn 204 [] [.ptr 5 0,.ptr 6 0]) [cob e0 e1 e2 3 (qdN A c).length 4,.cells [.ptr 0 0],nbo k n s d,.vec (icV (qdN A c)),mpo vs,.cells [.ptr 0 0],.cells [.int ((c.length:Int)+1+(A (c.length+1)).length)]]):=by
 have ha:=h.ln (c.length+1)
 obtain⟨c1,h1⟩ : ∃ c1,c1=c++[((19:Int),(0:Int))]:=⟨_,rfl⟩
 have l1:c1.length=c.length+1:=by simp[h1]
 obtain⟨c2,h2⟩ : ∃ c2,c2=c1++A c1.length:=⟨_,rfl⟩
 have e1':((c1.length:Nat):Int)=c.length+1:=by omega
 have l2:c2.length=c.length+1+(A (c.length+1)).length:=by rw[h2,Wc,e1',l1]
 obtain⟨c3,h3⟩ : ∃ c3,c3=c2++[((18:Int),(0:Int))]:=⟨_,rfl⟩
 have l3:c3.length=c2.length+1:=by simp[h3]
 have f3:c3=c++(19,0)::(A (c.length+1)++[(18,0)]):=by rw[h3,h2,h1]; simp
 obtain⟨c4,h4⟩ : ∃ c4,c4=qdN A c:=⟨_,rfl⟩
 have f4:c4=c++(19,(c3.length:Int))::(A (c.length+1)++[(18,0)]):=by rw[h4,qdN,l3,l2]; simp
 have l4:c4.length=c3.length:=by rw[f4,f3]; simp
 have z1:=qoB (vs:=vs) (e0:=e0) (e1:=e1) (e2:=e2) c (by omega) 19
 rw[<- h1] at z1
 have z2:=h.one e0 e1 e2 c1 (by rw[h1]; simp) (by omega)
 rw[<- h2] at z2
 have z3:=qoB (vs:=vs) (e0:=e0) (e1:=e1) (e2:=e2) c2 (by omega) 18
 rw[<- h3] at z3
 have z4:=qd1 (vs:=vs) (e0:=e0) (e1:=e1) (e2:=e2) c (A (c.length+1)++[(18,0)]) 19 0 (by rw[<- f3]; omega)
 rw[<- f3,<- f4] at z4
 rw[<- h4,show ((c.length:Int)+1+(A (c.length+1)).length)=(c2.length:Int) by omega,l4]
 refine qaa (pf:=F200) rfl rfl ?_
 simp[F200,z1,z2,z3,z4,V.isNilIf,Wa]
theorem qsy (h:Clo1 vs id A L) (c:Cd) (hc:c≠[]) (hl:c.length+4*L+10<2^30) :
  Z qad (.call 200 [.ptr 0 0,.fn id [] [.ptr 1 0]] [cob e0 e1 e2 2 c.length 3,.cells [.ptr 0 0],.vec (icV c),mpo vs]) =
   some (.ret (.fn 204 [] [.ptr 4 0,.ptr 5 0]) [cob e0 e1 e2 2 (qdN A c).length 3,.cells [.ptr 0 0],.vec (icV (qdN A c)),mpo vs,.cells [.ptr 0 0],.cells [.int ((c.length:Int)+1+(A (c.length+1)).length)]]):=by
 have ha:=h.ln (c.length+1)
 obtain⟨c1,h1⟩ : ∃ c1,c1=c++[((19:Int),(0:Int))]:=⟨_,rfl⟩
 have l1:c1.length=c.length+1:=by simp[h1]
 obtain⟨c2,h2⟩ : ∃ c2,c2=c1++A c1.length:=⟨_,rfl⟩
 have e1':((c1.length:Nat):Int)=c.length+1:=by omega
 have l2:c2.length=c.length+1+(A (c.length+1)).length:=by rw[h2,Wc,e1',l1]
 obtain⟨c3,h3⟩ : ∃ c3,c3=c2++[((18:Int),(0:Int))]:=⟨_,rfl⟩
 have l3:c3.length=c2.length+1:=by simp[h3]
 have f3:c3=c++(19,0)::(A (c.length+1)++[(18,0)]):=by rw[h3,h2,h1]; simp
 obtain⟨c4,h4⟩ : ∃ c4,c4=qdN A c:=⟨_,rfl⟩
 have f4:c4=c++(19,(c3.length:Int))::(A (c.length+1)++[(18,0)]):=by rw[h4,qdN,l3,l2]; simp
 have l4:c4.length=c3.length:=by rw[f4,f3]; simp
 have z1:=qoB (vs:=vs) (e0:=e0) (e1:=e1) (e2:=e2) c (by omega) 19
 rw[<- h1] at z1
 have z2:=h.one e0 e1 e2 c1 (by rw[h1]; simp) (by omega)
 rw[<- h2] at z2
 have z3:=qoB (vs:=vs) (e0:=e0) (e1:=e1) (e2:=e2) c2 (by omega) 18
 rw[<- h3] at z3
 have z4:=qd1 (vs:=vs) (e0:=e0) (e1:=e1) (e2:=e2) c (A (c.length+1)++[(18,0)]) 19 0 (by rw[<- f3]; omega)
 rw[<- f3,<- f4] at z4
 rw[<- h4,show ((c.length:Int)+1+(A (c.length+1)).length)=(c2.length:Int) by omega,l4]
 refine qaa (pf:=F200) rfl rfl ?_
 simp[F200,z1,z2,z3,z4,V.isNilIf,Wa]
end
section
variable{vs:List ByteArray}{e0 e1 e2:Int}{i1 i2 i3:Nat}{k n:Int}{s:ByteArray}{d:D}{C A B:Int->Cd}{L La Lb:Nat}
theorem qi5(C A B:Int->Cd)(c:Cd):qdN A (c++C c.length)++B (qdN A (c++C c.length)).length=(c++C c.length++(19,((c++C c.length).length:Int)+1+(A ((c++C c.length).length+1)).length+1)::A ((c++C c.length).length+1))++(18,0)::B (qdN A (c++C c.length)).length:=by
 simp[qdN]
theorem qnT(C A B:Int->Cd)(c:Cd):(c++C c.length++(19,((c++C c.length).length:Int)+1+(A ((c++C c.length).length+1)).length+1)::A ((c++C c.length).length+1))++(18,((qdN A (c++C c.length)++B (qdN A (c++C c.length)).length).length:Int))::B (qdN A (c++C c.length)).length=c++brC C A B c.length:=by
 have e:((qdN A (c++C c.length)).length:Int)=c.length+(C c.length).length+1+(A (c.length+(C c.length).length+1)).length+1:=by
  simp only[qdN,Wc,We,Wl]
  rw[show ((c.length+(C c.length).length:Nat):Int)=(c.length:Int)+(C c.length).length by omega]
  omega
 simp only[brC,Wc]
 rw[show ((c.length+(C c.length).length:Nat):Int)=(c.length:Int)+(C c.length).length by omega]
 rw[show (((qdN A (c++C c.length)).length+(B (qdN A (c++C c.length)).length).length:Nat):Int)=((qdN A (c++C c.length)).length:Int)+(B (qdN A (c++C c.length)).length).length by omega,e]
 simp
theorem qnU (h1:Clo2 vs i1 (nbo k n s d) C L) (h2:Clo2 vs i2 (nbo k n s d) A La) (h3:Clo1 vs i3 B Lb) (c:Cd) (hc:c≠[]) (hl:c.length+4*(L+La+Lb+2)<2^30) (hL:0<L) :
  Z qad (.call 180 [.ptr 0 0,.fn i1 [] [.ptr 1 0,.ptr 2 0],.fn i2 [] [.ptr 1 0,.ptr 2 0],.fn i3 [] [.ptr 1 0]] [cob e0 e1 e2 3 c.length 4,.cells [.ptr 0 0],nbo k n s d,.vec (icV c),mpo vs])=some (.ret (.tup []) [cob e0 e1 e2 3 (c++brC C A B c.length).length 4,.cells [.ptr 0 0],nbo k n s d,.vec (icV (c++brC C A B c.length)),mpo vs]):=by
 obtain⟨c0,hc0⟩ : ∃ c0,c0=c++C c.length:=⟨_,rfl⟩
 have z1:=h1.one e0 e1 e2 c hc (by omega)
 rw[<- hc0] at z1
 have l0:c0.length=c.length+L:=by rw[hc0,Wc,h1.ln]
 have n0:c0≠[]:=by rw[hc0]; simp[hc]
 have la:=h2.ln (c0.length+1)
 have z2:=qmM (e0:=e0) (e1:=e1) (e2:=e2) h2 c0 n0 (by omega)
 have eb:=qi5 C A B c
 have eq:=qnT C A B c
 rw[<- hc0] at eb eq
 have lf:(qdN A c0).length=c0.length+1+La+1:=by simp only[qdN,Wc,We,Wl,la]; omega
 obtain⟨c1,h1'⟩ : ∃ c1,c1=qdN A c0:=⟨_,rfl⟩
 rw[<- h1'] at z2 eb eq lf
 have z3:=h3.one e0 e1 e2 c1 (by rw[h1',qdN]; simp) (by omega)
 have lb:=h3.ln c1.length
 obtain⟨c2,h2'⟩ : ∃ c2,c2=c1++B c1.length:=⟨_,rfl⟩
 have l2:c2.length=c1.length+Lb:=by rw[h2',Wc,lb]
 rw[<- h2'] at z3 eb eq
 have z4:=qd1 (vs:=vs) (e0:=e0) (e1:=e1) (e2:=e2) (c0++(19,(c0.length:Int)+1+(A (c0.length+1)).length+1)::A (c0.length+1)) (B c1.length) 18 0 (by rw[<- eb]; omega)
 rw[<- eb,eq] at z4
 have l3:(c++brC C A B c.length).length=c2.length:=by rw[<- eq,eb]; simp
 have lk:(((c0++(19,(c0.length:Int)+1+(A (c0.length+1)).length+1)::A (c0.length+1)).length:Nat):Int)=(c0.length:Int)+1+(A (c0.length+1)).length:=by simp only[Wc,We]; omega
 rw[lk] at z4
 generalize c++brC C A B c.length=c3 at *
 generalize (c0.length:Int)+1+(A (c0.length+1)).length=at_ at *
 rw[l3]
 refine qaa (pf:=F180) rfl rfl ?_
 simp[F180,z1,z2,z3,z4,V.isNilIf,Wa]
theorem qnV (h1:Clo2 vs i1 (nbo k n s d) C L) (h0:qvX vs i1 (nbo k n s d) C) (h2:Clo2 vs i2 (nbo k n s d) A La) (h3:Clo1 vs i3 B Lb) (hl:4*(L+La+Lb+2)<2^30) (hL:0<L) :
  Z qad (.call 180 [.ptr 0 0,.fn i1 [] [.ptr 1 0,.ptr 2 0],.fn i2 [] [.ptr 1 0,.ptr 2 0],.fn i3 [] [.ptr 1 0]] [qnR e0 e1 e2 3,.cells [.ptr 0 0],nbo k n s d,mpo vs])=some (.ret (.tup []) [cob e0 e1 e2 4 (brC C A B 0).length 3,.cells [.ptr 0 0],nbo k n s d,mpo vs,.vec (icV (brC C A B 0))]):=by
 obtain⟨c,hcn⟩ : ∃ c:Cd,c=[]:=⟨_,rfl⟩
 obtain⟨c0,hc0⟩ : ∃ c0,c0=c++C c.length:=⟨_,rfl⟩
 have z1:=h0 e0 e1 e2
 rw[show C 0=c0 by rw[hc0,hcn]; rfl] at z1
 have l0:c0.length=c.length+L:=by rw[hc0,Wc,h1.ln]
 have n0:c0≠[]:=fun e=>by rw[e] at l0; simp only[Wl] at l0; omega
 have l00:c.length=0:=by rw[hcn]; rfl
 rw[show brC C A B 0=c++brC C A B c.length by rw[hcn]; rfl]
 have la:=h2.ln (c0.length+1)
 have z2:=qmM (e0:=e0) (e1:=e1) (e2:=e2) h2 c0 n0 (by omega)
 have eb:=qi5 C A B c
 have eq:=qnT C A B c
 rw[<- hc0] at eb eq
 have lf:(qdN A c0).length=c0.length+1+La+1:=by simp only[qdN,Wc,We,Wl,la]; omega
 obtain⟨c1,h1'⟩ : ∃ c1,c1=qdN A c0:=⟨_,rfl⟩
 rw[<- h1'] at z2 eb eq lf
 have z3:=h3.one e0 e1 e2 c1 (by rw[h1',qdN]; simp) (by omega)
 have lb:=h3.ln c1.length
 obtain⟨c2,h2'⟩ : ∃ c2,c2=c1++B c1.length:=⟨_,rfl⟩
 have l2:c2.length=c1.length+Lb:=by rw[h2',Wc,lb]
 rw[<- h2'] at z3 eb eq
 have z4:=qd1 (vs:=vs) (e0:=e0) (e1:=e1) (e2:=e2) (c0++(19,(c0.length:Int)+1+(A (c0.length+1)).length+1)::A (c0.length+1)) (B c1.length) 18 0 (by rw[<- eb]; omega)
 rw[<- eb,eq] at z4
 have l3:(c++brC C A B c.length).length=c2.length:=by rw[<- eq,eb]; simp
 have lk:(((c0++(19,(c0.length:Int)+1+(A (c0.length+1)).length+1)::A (c0.length+1)).length:Nat):Int)=(c0.length:Int)+1+(A (c0.length+1)).length:=by simp only[Wc,We]; omega
 rw[lk] at z4
 generalize c++brC C A B c.length=c3 at *
 generalize (c0.length:Int)+1+(A (c0.length+1)).length=at_ at *
 rw[l3]
 refine qaa (pf:=F180) rfl rfl ?_
 simp[F180,z1,z2,z3,z4,V.isNilIf,Wa]
theorem qnW (h1:Clo2 vs i1 (nbo k n s d) C L) (h2:Clo1 vs i2 A La) (h3:Clo2 vs i3 (nbo k n s d) B Lb) (c:Cd) (hc:c≠[]) (hl:c.length+4*(L+La+Lb+2)<2^30) (hL:0<L) :
  Z qad (.call 180 [.ptr 0 0,.fn i1 [] [.ptr 1 0,.ptr 2 0],.fn i2 [] [.ptr 1 0],.fn i3 [] [.ptr 1 0,.ptr 2 0]] [cob e0 e1 e2 3 c.length 4,.cells [.ptr 0 0],nbo k n s d,.vec (icV c),mpo vs])=some (.ret (.tup []) [cob e0 e1 e2 3 (c++brC C A B c.length).length 4,.cells [.ptr 0 0],nbo k n s d,.vec (icV (c++brC C A B c.length)),mpo vs]):=by
 obtain⟨c0,hc0⟩ : ∃ c0,c0=c++C c.length:=⟨_,rfl⟩
 have z1:=h1.one e0 e1 e2 c hc (by omega)
 rw[<- hc0] at z1
 have l0:c0.length=c.length+L:=by rw[hc0,Wc,h1.ln]
 have n0:c0≠[]:=by rw[hc0]; simp[hc]
 have la:=h2.ln (c0.length+1)
 have z2:=qsy (e0:=e0) (e1:=e1) (e2:=e2) h2 c0 n0 (by omega)
 have eb:=qi5 C A B c
 have eq:=qnT C A B c
 rw[<- hc0] at eb eq
 have lf:(qdN A c0).length=c0.length+1+La+1:=by simp only[qdN,Wc,We,Wl,la]; omega
 obtain⟨c1,h1'⟩ : ∃ c1,c1=qdN A c0:=⟨_,rfl⟩
 rw[<- h1'] at z2 eb eq lf
 have z3:=h3.one e0 e1 e2 c1 (by rw[h1',qdN]; simp) (by omega)
 have lb:=h3.ln c1.length
 obtain⟨c2,h2'⟩ : ∃ c2,c2=c1++B c1.length:=⟨_,rfl⟩
 have l2:c2.length=c1.length+Lb:=by rw[h2',Wc,lb]
 rw[<- h2'] at z3 eb eq
 have z4:=qd1 (vs:=vs) (e0:=e0) (e1:=e1) (e2:=e2) (c0++(19,(c0.length:Int)+1+(A (c0.length+1)).length+1)::A (c0.length+1)) (B c1.length) 18 0 (by rw[<- eb]; omega)
 rw[<- eb,eq] at z4
 have l3:(c++brC C A B c.length).length=c2.length:=by rw[<- eq,eb]; simp
 have lk:(((c0++(19,(c0.length:Int)+1+(A (c0.length+1)).length+1)::A (c0.length+1)).length:Nat):Int)=(c0.length:Int)+1+(A (c0.length+1)).length:=by simp only[Wc,We]; omega
 rw[lk] at z4
 generalize c++brC C A B c.length=c3 at *
 generalize (c0.length:Int)+1+(A (c0.length+1)).length=at_ at *
 rw[l3]
 refine qaa (pf:=F180) rfl rfl ?_
 simp[F180,z1,z2,z3,z4,V.isNilIf,Wa]
theorem qnX (h1:Clo2 vs i1 (nbo k n s d) C L) (h0:qvX vs i1 (nbo k n s d) C) (h2:Clo1 vs i2 A La) (h3:Clo2 vs i3 (nbo k n s d) B Lb) (hl:4*(L+La+Lb+2)<2^30) (hL:0<L) :
  Z qad (.call 180 [.ptr 0 0,.fn i1 [] [.ptr 1 0,.ptr 2 0],.fn i2 [] [.ptr 1 0],.fn i3 [] [.ptr 1 0,.ptr 2 0]] [qnR e0 e1 e2 3,.cells [.ptr 0 0],nbo k n s d,mpo vs])=some (.ret (.tup []) [cob e0 e1 e2 4 (brC C A B 0).length 3,.cells [.ptr 0 0],nbo k n s d,mpo vs,.vec (icV (brC C A B 0))]):=by
 obtain⟨c,hcn⟩ : ∃ c:Cd,c=[]:=⟨_,rfl⟩
 obtain⟨c0,hc0⟩ : ∃ c0,c0=c++C c.length:=⟨_,rfl⟩
 have z1:=h0 e0 e1 e2
 rw[show C 0=c0 by rw[hc0,hcn]; rfl] at z1
 have l0:c0.length=c.length+L:=by rw[hc0,Wc,h1.ln]
 have n0:c0≠[]:=fun e=>by rw[e] at l0; simp only[Wl] at l0; omega
 have l00:c.length=0:=by rw[hcn]; rfl
 rw[show brC C A B 0=c++brC C A B c.length by rw[hcn]; rfl]
 have la:=h2.ln (c0.length+1)
 have z2:=qsy (e0:=e0) (e1:=e1) (e2:=e2) h2 c0 n0 (by omega)
 have eb:=qi5 C A B c
 have eq:=qnT C A B c
 rw[<- hc0] at eb eq
 have lf:(qdN A c0).length=c0.length+1+La+1:=by simp only[qdN,Wc,We,Wl,la]; omega
 obtain⟨c1,h1'⟩ : ∃ c1,c1=qdN A c0:=⟨_,rfl⟩
 rw[<- h1'] at z2 eb eq lf
 have z3:=h3.one e0 e1 e2 c1 (by rw[h1',qdN]; simp) (by omega)
 have lb:=h3.ln c1.length
 obtain⟨c2,h2'⟩ : ∃ c2,c2=c1++B c1.length:=⟨_,rfl⟩
 have l2:c2.length=c1.length+Lb:=by rw[h2',Wc,lb]
 rw[<- h2'] at z3 eb eq
 have z4:=qd1 (vs:=vs) (e0:=e0) (e1:=e1) (e2:=e2) (c0++(19,(c0.length:Int)+1+(A (c0.length+1)).length+1)::A (c0.length+1)) (B c1.length) 18 0 (by rw[<- eb]; omega)
 rw[<- eb,eq] at z4
 have l3:(c++brC C A B c.length).length=c2.length:=by rw[<- eq,eb]; simp
 have lk:(((c0++(19,(c0.length:Int)+1+(A (c0.length+1)).length+1)::A (c0.length+1)).length:Nat):Int)=(c0.length:Int)+1+(A (c0.length+1)).length:=by simp only[Wc,We]; omega
 rw[lk] at z4
 generalize c++brC C A B c.length=c3 at *
 generalize (c0.length:Int)+1+(A (c0.length+1)).length=at_ at *
 rw[l3]
 refine qaa (pf:=F180) rfl rfl ?_
 simp[F180,z1,z2,z3,z4,V.isNilIf,Wa]
theorem qnY (h1:Clo2 vs i1 (nbo k n s d) C L) (h2:Clo2 vs i2 (nbo k n s d) A La) (h3:Clo2 vs i3 (nbo k n s d) B Lb) (c:Cd) (hc:c≠[]) (hl:c.length+4*(L+La+Lb+2)<2^30) (hL:0<L) :
  Z qad (.call 180 [.ptr 0 0,.fn i1 [] [.ptr 1 0,.ptr 2 0],.fn i2 [] [.ptr 1 0,.ptr 2 0],.fn i3 [] [.ptr 1 0,.ptr 2 0]] [cob e0 e1 e2 3 c.length 4,.cells [.ptr 0 0],nbo k n s d,.vec (icV c),mpo vs])=some (.ret (.tup []) [cob e0 e1 e2 3 (c++brC C A B c.length).length 4,.cells [.ptr 0 0],nbo k n s d,.vec (icV (c++brC C A B c.length)),mpo vs]):=by
 obtain⟨c0,hc0⟩ : ∃ c0,c0=c++C c.length:=⟨_,rfl⟩
 have z1:=h1.one e0 e1 e2 c hc (by omega)
 rw[<- hc0] at z1
 have l0:c0.length=c.length+L:=by rw[hc0,Wc,h1.ln]
 have n0:c0≠[]:=by rw[hc0]; simp[hc]
 have la:=h2.ln (c0.length+1)
 have z2:=qmM (e0:=e0) (e1:=e1) (e2:=e2) h2 c0 n0 (by omega)
 have eb:=qi5 C A B c
 have eq:=qnT C A B c
 rw[<- hc0] at eb eq
 have lf:(qdN A c0).length=c0.length+1+La+1:=by simp only[qdN,Wc,We,Wl,la]; omega
 obtain⟨c1,h1'⟩ : ∃ c1,c1=qdN A c0:=⟨_,rfl⟩
 rw[<- h1'] at z2 eb eq lf
 have z3:=h3.one e0 e1 e2 c1 (by rw[h1',qdN]; simp) (by omega)
 have lb:=h3.ln c1.length
 obtain⟨c2,h2'⟩ : ∃ c2,c2=c1++B c1.length:=⟨_,rfl⟩
 have l2:c2.length=c1.length+Lb:=by rw[h2',Wc,lb]
 rw[<- h2'] at z3 eb eq
 have z4:=qd1 (vs:=vs) (e0:=e0) (e1:=e1) (e2:=e2) (c0++(19,(c0.length:Int)+1+(A (c0.length+1)).length+1)::A (c0.length+1)) (B c1.length) 18 0 (by rw[<- eb]; omega)
 rw[<- eb,eq] at z4
 have l3:(c++brC C A B c.length).length=c2.length:=by rw[<- eq,eb]; simp
 have lk:(((c0++(19,(c0.length:Int)+1+(A (c0.length+1)).length+1)::A (c0.length+1)).length:Nat):Int)=(c0.length:Int)+1+(A (c0.length+1)).length:=by simp only[Wc,We]; omega
 rw[lk] at z4
 generalize c++brC C A B c.length=c3 at *
 generalize (c0.length:Int)+1+(A (c0.length+1)).length=at_ at *
 rw[l3]
 refine qaa (pf:=F180) rfl rfl ?_
 simp[F180,z1,z2,z3,z4,V.isNilIf,Wa]
theorem qnZ (h1:Clo2 vs i1 (nbo k n s d) C L) (h0:qvX vs i1 (nbo k n s d) C) (h2:Clo2 vs i2 (nbo k n s d) A La) (h3:Clo2 vs i3 (nbo k n s d) B Lb) (hl:4*(L+La+Lb+2)<2^30) (hL:0<L) :
  Z qad (.call 180 [.ptr 0 0,.fn i1 [] [.ptr 1 0,.ptr 2 0],.fn i2 [] [.ptr 1 0,.ptr 2 0],.fn i3 [] [.ptr 1 0,.ptr 2 0]] [qnR e0 e1 e2 3,.cells [.ptr 0 0],nbo k n s d,mpo vs])=some (.ret (.tup []) [cob e0 e1 e2 4 (brC C A B 0).length 3,.cells [.ptr 0 0],nbo k n s d,mpo vs,.vec (icV (brC C A B 0))]):=by
 obtain⟨c,hcn⟩ : ∃ c:Cd,c=[]:=⟨_,rfl⟩
 obtain⟨c0,hc0⟩ : ∃ c0,c0=c++C c.length:=⟨_,rfl⟩
 have z1:=h0 e0 e1 e2
 rw[show C 0=c0 by rw[hc0,hcn]; rfl] at z1
 have l0:c0.length=c.length+L:=by rw[hc0,Wc,h1.ln]
 have n0:c0≠[]:=fun e=>by rw[e] at l0; simp only[Wl] at l0; omega
 have l00:c.length=0:=by rw[hcn]; rfl
 rw[show brC C A B 0=c++brC C A B c.length by rw[hcn]; rfl]
 have la:=h2.ln (c0.length+1)
 have z2:=qmM (e0:=e0) (e1:=e1) (e2:=e2) h2 c0 n0 (by omega)
 have eb:=qi5 C A B c
 have eq:=qnT C A B c
 rw[<- hc0] at eb eq
 have lf:(qdN A c0).length=c0.length+1+La+1:=by simp only[qdN,Wc,We,Wl,la]; omega
 obtain⟨c1,h1'⟩ : ∃ c1,c1=qdN A c0:=⟨_,rfl⟩
 rw[<- h1'] at z2 eb eq lf
 have z3:=h3.one e0 e1 e2 c1 (by rw[h1',qdN]; simp) (by omega)
 have lb:=h3.ln c1.length
 obtain⟨c2,h2'⟩ : ∃ c2,c2=c1++B c1.length:=⟨_,rfl⟩
 have l2:c2.length=c1.length+Lb:=by rw[h2',Wc,lb]
 rw[<- h2'] at z3 eb eq
 have z4:=qd1 (vs:=vs) (e0:=e0) (e1:=e1) (e2:=e2) (c0++(19,(c0.length:Int)+1+(A (c0.length+1)).length+1)::A (c0.length+1)) (B c1.length) 18 0 (by rw[<- eb]; omega)
 rw[<- eb,eq] at z4
 have l3:(c++brC C A B c.length).length=c2.length:=by rw[<- eq,eb]; simp
 have lk:(((c0++(19,(c0.length:Int)+1+(A (c0.length+1)).length+1)::A (c0.length+1)).length:Nat):Int)=(c0.length:Int)+1+(A (c0.length+1)).length:=by simp only[Wc,We]; omega
 rw[lk] at z4
 generalize c++brC C A B c.length=c3 at *
 generalize (c0.length:Int)+1+(A (c0.length+1)).length=at_ at *
 rw[l3]
 refine qaa (pf:=F180) rfl rfl ?_
 simp[F180,z1,z2,z3,z4,V.isNilIf,Wa]
end
end
section
open F Gr
set_option maxHeartbeats 2000000
attribute [local simp] qa7 qbB dkey qfR
structure TrB(vs:List ByteArray)(x:V)(C:Int->Cd)(L:Nat):Prop where
 ln:Ln C L
 one : ∀ (e0 e1 e2:Int) (c:Cd),c≠[]->c.length+4*L<2^30->Z qad (.call 147 [.ptr 0 0,x] (qcs vs e0 e1 e2 c))=some (.ret (.tup []) (qcs vs e0 e1 e2 (c++C c.length)))
structure TrOK(vs:List ByteArray)(x:V)(C:Int->Cd)(L:Nat):Prop extends TrB vs x C L where
 pos:0<L
 zero : ∀ (e0 e1 e2:Int),4*L<2^30->Z qad (.call 147 [.ptr 0 0,x] (qd3 vs e0 e1 e2))=some (.ret (.tup []) (qhx vs e0 e1 e2 (C 0)))
section
variable{vs:List ByteArray}{e0 e1 e2:Int}{C:Int->Cd}{L:Nat}{k n:Int}{s:ByteArray}{f:Bool}{N:Nat}{cs r:List D}{a b c1 d:D}{i:Nat}
theorem qsY(h1:i<N):qak 4 (.dat (kd f N cs)) (i:Int)=some (.dat (.imm cs (i*4))):=by
 have:=qzz (f:=f) (n:=N) (cs:=cs) (i:=(i:Int)) (by omega) (by omega)
 simpa using this
theorem qf3 (h:TrB vs (.dat (.agg [a,b,c1,d])) C L) (hd:cs.drop (i*4)=a::b::c1::d::r) (hi:i<N) (c:Cd) (hc:c≠[]) (hl:c.length+4*L<2^30) :
  Z qad (.call 165 [.ptr 0 0,.dat (.agg [.lit (.int .i64 k),.lit (.int .i64 n),.lit (.string s),kd f N cs]),.int i] (qcs vs e0 e1 e2 c))=some (.ret (.tup []) (qcs vs e0 e1 e2 (c++C c.length))):=by
 have h4:=qyH hd
 have hi':(i:Int)<N:=by omega
 have z:=h.one e0 e1 e2 c hc hl
 have ha:=qsY (f:=f) (cs:=cs) hi
 generalize c++C c.length=c2 at *
 refine qaa (pf:=F165) rfl rfl ?_
 simp[F165,hi',ha,h4,z,Wa]
theorem qns (h:TrOK vs (.dat (.agg [a,b,c1,d])) C L) (hd:cs.drop (i*4)=a::b::c1::d::r) (hi:i<N) (hl:4*L<2^30) :
  Z qad (.call 165 [.ptr 0 0,.dat (.agg [.lit (.int .i64 k),.lit (.int .i64 n),.lit (.string s),kd f N cs]),.int i] (qd3 vs e0 e1 e2))=some (.ret (.tup []) (qhx vs e0 e1 e2 (C 0))):=by
 have h4:=qyH hd
 have hi':(i:Int)<N:=by omega
 have z:=h.zero e0 e1 e2 hl
 have ha:=qsY (f:=f) (cs:=cs) hi
 generalize C 0=c2 at *
 refine qaa (pf:=F165) rfl rfl ?_
 simp[F165,hi',ha,h4,z,Wa]
theorem qsZ(h:TrB vs (.dat (.agg [a,b,c1,d])) C L)(hd:cs.drop (0*4)=a::b::c1::d::r)(hi:0<N):Clo2 vs 181 (nbo k n s (kd f N cs)) C L where
 ln:=h.ln
 one:=fun e0 e1 e2 c hc hl=>by
  have z:=qf3 (e0:=e0) (e1:=e1) (e2:=e2) (k:=k) (n:=n) (s:=s) (f:=f) h hd hi c hc hl
  rw[show (((0:Nat)):Int)=0 from rfl] at z
  generalize c++C c.length=c2 at *
  refine qaa (pf:=F181) rfl rfl ?_
  simp[F181,z,Wa]
theorem qva(h:TrOK vs (.dat (.agg [a,b,c1,d])) C L)(hd:cs.drop (0*4)=a::b::c1::d::r)(hi:0<N)(hl:4*L<2^30):qvX vs 181 (nbo k n s (kd f N cs)) C:=fun e0 e1 e2=>by
 have z:=qns (e0:=e0) (e1:=e1) (e2:=e2) (k:=k) (n:=n) (s:=s) (f:=f) h hd hi hl
 rw[show (((0:Nat)):Int)=0 from rfl] at z
 generalize C 0=c2 at *
 refine qaa (pf:=F181) rfl rfl ?_
 simp[F181,z,Wa]
theorem qs0(h:TrB vs (.dat (.agg [a,b,c1,d])) C L)(hd:cs.drop (1*4)=a::b::c1::d::r)(hi:1<N):Clo2 vs 182 (nbo k n s (kd f N cs)) C L where
 ln:=h.ln
 one:=fun e0 e1 e2 c hc hl=>by
  have z:=qf3 (e0:=e0) (e1:=e1) (e2:=e2) (k:=k) (n:=n) (s:=s) (f:=f) h hd hi c hc hl
  rw[show (((1:Nat)):Int)=1 from rfl] at z
  generalize c++C c.length=c2 at *
  refine qaa (pf:=F182) rfl rfl ?_
  simp[F182,z,Wa]
theorem qs1(h:TrB vs (.dat (.agg [a,b,c1,d])) C L)(hd:cs.drop (0*4)=a::b::c1::d::r)(hi:0<N):Clo2 vs 184 (nbo k n s (kd f N cs)) C L where
 ln:=h.ln
 one:=fun e0 e1 e2 c hc hl=>by
  have z:=qf3 (e0:=e0) (e1:=e1) (e2:=e2) (k:=k) (n:=n) (s:=s) (f:=f) h hd hi c hc hl
  rw[show (((0:Nat)):Int)=0 from rfl] at z
  generalize c++C c.length=c2 at *
  refine qaa (pf:=F184) rfl rfl ?_
  simp[F184,z,Wa]
theorem qvb(h:TrOK vs (.dat (.agg [a,b,c1,d])) C L)(hd:cs.drop (0*4)=a::b::c1::d::r)(hi:0<N)(hl:4*L<2^30):qvX vs 184 (nbo k n s (kd f N cs)) C:=fun e0 e1 e2=>by
 have z:=qns (e0:=e0) (e1:=e1) (e2:=e2) (k:=k) (n:=n) (s:=s) (f:=f) h hd hi hl
 rw[show (((0:Nat)):Int)=0 from rfl] at z
 generalize C 0=c2 at *
 refine qaa (pf:=F184) rfl rfl ?_
 simp[F184,z,Wa]
theorem qs2(h:TrB vs (.dat (.agg [a,b,c1,d])) C L)(hd:cs.drop (1*4)=a::b::c1::d::r)(hi:1<N):Clo2 vs 186 (nbo k n s (kd f N cs)) C L where
 ln:=h.ln
 one:=fun e0 e1 e2 c hc hl=>by
  have z:=qf3 (e0:=e0) (e1:=e1) (e2:=e2) (k:=k) (n:=n) (s:=s) (f:=f) h hd hi c hc hl
  rw[show (((1:Nat)):Int)=1 from rfl] at z
  generalize c++C c.length=c2 at *
  refine qaa (pf:=F186) rfl rfl ?_
  simp[F186,z,Wa]
theorem qs3(h:TrB vs (.dat (.agg [a,b,c1,d])) C L)(hd:cs.drop (0*4)=a::b::c1::d::r)(hi:0<N):Clo2 vs 188 (nbo k n s (kd f N cs)) C L where
 ln:=h.ln
 one:=fun e0 e1 e2 c hc hl=>by
  have z:=qf3 (e0:=e0) (e1:=e1) (e2:=e2) (k:=k) (n:=n) (s:=s) (f:=f) h hd hi c hc hl
  rw[show (((0:Nat)):Int)=0 from rfl] at z
  generalize c++C c.length=c2 at *
  refine qaa (pf:=F188) rfl rfl ?_
  simp[F188,z,Wa]
theorem qvc(h:TrOK vs (.dat (.agg [a,b,c1,d])) C L)(hd:cs.drop (0*4)=a::b::c1::d::r)(hi:0<N)(hl:4*L<2^30):qvX vs 188 (nbo k n s (kd f N cs)) C:=fun e0 e1 e2=>by
 have z:=qns (e0:=e0) (e1:=e1) (e2:=e2) (k:=k) (n:=n) (s:=s) (f:=f) h hd hi hl
 rw[show (((0:Nat)):Int)=0 from rfl] at z
 generalize C 0=c2 at *
 refine qaa (pf:=F188) rfl rfl ?_
 simp[F188,z,Wa]
theorem qs4(h:TrB vs (.dat (.agg [a,b,c1,d])) C L)(hd:cs.drop (1*4)=a::b::c1::d::r)(hi:1<N):Clo2 vs 189 (nbo k n s (kd f N cs)) C L where
 ln:=h.ln
 one:=fun e0 e1 e2 c hc hl=>by
  have z:=qf3 (e0:=e0) (e1:=e1) (e2:=e2) (k:=k) (n:=n) (s:=s) (f:=f) h hd hi c hc hl
  rw[show (((1:Nat)):Int)=1 from rfl] at z
  generalize c++C c.length=c2 at *
  refine qaa (pf:=F189) rfl rfl ?_
  simp[F189,z,Wa]
theorem qs5(h:TrB vs (.dat (.agg [a,b,c1,d])) C L)(hd:cs.drop (2*4)=a::b::c1::d::r)(hi:2<N):Clo2 vs 190 (nbo k n s (kd f N cs)) C L where
 ln:=h.ln
 one:=fun e0 e1 e2 c hc hl=>by
  have z:=qf3 (e0:=e0) (e1:=e1) (e2:=e2) (k:=k) (n:=n) (s:=s) (f:=f) h hd hi c hc hl
  rw[show (((2:Nat)):Int)=2 from rfl] at z
  generalize c++C c.length=c2 at *
  refine qaa (pf:=F190) rfl rfl ?_
  simp[F190,z,Wa]
theorem qs6:Clo1 vs 183 (fun _=>[(1,0)]) 1 where
 ln:=fun _=>rfl
 one:=fun e0 e1 e2 c hc hl=>by
  have z:=qb1 (vs:=vs) (e0:=e0) (e1:=e1) (e2:=e2) c (by omega) 1 0
  show Z qad _=some (Res.ret (.tup []) [.cells [.ptr 1 0],cob e0 e1 e2 2 (c++[((1:Int),(0:Int))]).length 3,.vec (icV (c++[((1:Int),(0:Int))])),mpo vs])
  generalize c++[((1:Int),(0:Int))]=c2 at *
  refine qaa (pf:=F183) rfl rfl ?_
  simp[F183,z,Wa]
theorem qs7:Clo1 vs 185 (fun _=>[(1,1)]) 1 where
 ln:=fun _=>rfl
 one:=fun e0 e1 e2 c hc hl=>by
  have z:=qb1 (vs:=vs) (e0:=e0) (e1:=e1) (e2:=e2) c (by omega) 1 1
  show Z qad _=some (Res.ret (.tup []) [.cells [.ptr 1 0],cob e0 e1 e2 2 (c++[((1:Int),(1:Int))]).length 3,.vec (icV (c++[((1:Int),(1:Int))])),mpo vs])
  generalize c++[((1:Int),(1:Int))]=c2 at *
  refine qaa (pf:=F185) rfl rfl ?_
  simp[F185,z,Wa]
end
end
section
open F Gr
set_option maxHeartbeats 2000000
attribute [local simp] qa7 qbB dkey qfR
section
variable{vs:List ByteArray}
theorem qxF(n:Int):TrOK vs (E.int n).node (fun _=>[(1,n)]) 1 where
 ln:=fun _=>rfl
 pos:=by omega
 one:=fun e0 e1 e2 c hc hl=>by
  have z:=qb1 (vs:=vs) (e0:=e0) (e1:=e1) (e2:=e2) c (by omega) 1 n
  generalize c++[((1:Int),n)]=c2 at *
  refine qaa (pf:=F147) rfl rfl ?_
  simp[F147,z,Wa]
 zero:=fun e0 e1 e2 hl=>by
  have z:=qkV (vs:=vs) (e0:=e0) (e1:=e1) (e2:=e2) 1 n
  generalize [((1:Int),n)]=c2 at *
  refine qaa (pf:=F147) rfl rfl ?_
  simp[F147,z,Wa]
theorem qu5(n:Int):TrOK vs (E.bool n).node (fun _=>[(1,n)]) 1 where
 ln:=fun _=>rfl
 pos:=by omega
 one:=fun e0 e1 e2 c hc hl=>by
  have z:=qb1 (vs:=vs) (e0:=e0) (e1:=e1) (e2:=e2) c (by omega) 1 n
  generalize c++[((1:Int),n)]=c2 at *
  refine qaa (pf:=F147) rfl rfl ?_
  simp[F147,z,Wa]
 zero:=fun e0 e1 e2 hl=>by
  have z:=qkV (vs:=vs) (e0:=e0) (e1:=e1) (e2:=e2) 1 n
  generalize [((1:Int),n)]=c2 at *
  refine qaa (pf:=F147) rfl rfl ?_
  simp[F147,z,Wa]
theorem qxG{s:ByteArray}(hs:s∈vs):TrOK vs (E.var s).node (fun _=>[(2,ixI vs s)]) 1 where
 ln:=fun _=>rfl
 pos:=by omega
 one:=fun e0 e1 e2 c hc hl=>by
  have z:=qb1 (vs:=vs) (e0:=e0) (e1:=e1) (e2:=e2) c (by omega) 2 (ixI vs s)
  have zf:=qh5 s vs 0 hs
  rw[show ixI vs s+((0:Nat):Int)=ixI vs s by omega] at zf
  generalize ixI vs s=v at *
  generalize c++[((2:Int),v)]=c2 at *
  refine qaa (pf:=F147) rfl rfl ?_
  simp[F147,z,zf,qeK,qbH,qaz,Wa]
 zero:=fun e0 e1 e2 hl=>by
  have z:=qkV (vs:=vs) (e0:=e0) (e1:=e1) (e2:=e2) 2 (ixI vs s)
  have zf:=qh5 s vs 0 hs
  rw[show ixI vs s+((0:Nat):Int)=ixI vs s by omega] at zf
  generalize ixI vs s=v at *
  generalize [((2:Int),v)]=c2 at *
  refine qaa (pf:=F147) rfl rfl ?_
  simp[F147,z,zf,qeK,qbH,qaz,Wa]
theorem qxH (k n:Int) (s:ByteArray) (d:D) (hd1:V.one (.dat d)=true) (hd2:V.cells (.dat d)=[.dat d]) {e0 e1 e2:Int} (c:Cd) (hc:c.length<2^30) :
  Z qad (.call 166 [.ptr 0 0,.dat (.agg [.lit (.int .i64 k),.lit (.int .i64 n),.lit (.string s),d])] (qcs vs e0 e1 e2 c))=some (.ret (.tup []) (qcs vs e0 e1 e2 (c++[(nameI s,0)]))):=by
 have z:=fun o=>qb1 (vs:=vs) (e0:=e0) (e1:=e1) (e2:=e2) c hc o 0
 refine qaa (pf:=F166) rfl rfl ?_
 unfold nameI
 by_cases h1:s=⟨#[115,101,108,102]⟩
 ·have q1:=(qbh s ⟨#[115,101,108,102]⟩).trans (decide_eq_true h1)
  rw[if_pos h1]
  have z:=z 6
  generalize c++[((6:Int),(0:Int))]=c2 at *
  simp[F166,q1,z,hd1,hd2,Wa]
 ·have q1:=(qbh s ⟨#[115,101,108,102]⟩).trans (decide_eq_false h1)
  rw[if_neg h1]
  by_cases h2:s=⟨#[111,116,104,101,114]⟩
  ·have q2:=(qbh s ⟨#[111,116,104,101,114]⟩).trans (decide_eq_true h2)
   rw[if_pos h2]
   have z:=z 7
   generalize c++[((7:Int),(0:Int))]=c2 at *
   simp[F166,q1,q2,z,hd1,hd2,Wa]
  ·have q2:=(qbh s ⟨#[111,116,104,101,114]⟩).trans (decide_eq_false h2)
   rw[if_neg h2]
   have z:=z 8
   generalize c++[((8:Int),(0:Int))]=c2 at *
   simp[F166,q1,q2,z,hd1,hd2,Wa]
theorem qxI (k n:Int) (s:ByteArray) (d:D) (hd1:V.one (.dat d)=true) (hd2:V.cells (.dat d)=[.dat d]) {e0 e1 e2:Int} :
  Z qad (.call 166 [.ptr 0 0,.dat (.agg [.lit (.int .i64 k),.lit (.int .i64 n),.lit (.string s),d])] (qd3 vs e0 e1 e2))=some (.ret (.tup []) (qhx vs e0 e1 e2 [(nameI s,0)])):=by
 have z:=fun o=>qkV (vs:=vs) (e0:=e0) (e1:=e1) (e2:=e2) o 0
 refine qaa (pf:=F166) rfl rfl ?_
 unfold nameI
 by_cases h1:s=⟨#[115,101,108,102]⟩
 ·have q1:=(qbh s ⟨#[115,101,108,102]⟩).trans (decide_eq_true h1)
  rw[if_pos h1]
  have z:=z 6
  generalize [((6:Int),(0:Int))]=c2 at *
  simp[F166,q1,z,hd1,hd2,Wa]
 ·have q1:=(qbh s ⟨#[115,101,108,102]⟩).trans (decide_eq_false h1)
  rw[if_neg h1]
  by_cases h2:s=⟨#[111,116,104,101,114]⟩
  ·have q2:=(qbh s ⟨#[111,116,104,101,114]⟩).trans (decide_eq_true h2)
   rw[if_pos h2]
   have z:=z 7
   generalize [((7:Int),(0:Int))]=c2 at *
   simp[F166,q1,q2,z,hd1,hd2,Wa]
  ·have q2:=(qbh s ⟨#[111,116,104,101,114]⟩).trans (decide_eq_false h2)
   rw[if_neg h2]
   have z:=z 8
   generalize [((8:Int),(0:Int))]=c2 at *
   simp[F166,q1,q2,z,hd1,hd2,Wa]
theorem qu6(s:ByteArray):TrOK vs (E.name s).node (fun _=>[(nameI s,0)]) 1 where
 ln:=fun _=>rfl
 pos:=by omega
 one:=fun e0 e1 e2 c hc hl=>by
  have z:=qxH (vs:=vs) (e0:=e0) (e1:=e1) (e2:=e2) 12 0 s (.lit (.slice none 0 0)) rfl rfl c (by omega)
  generalize nameI s=v at *
  generalize c++[(v,(0:Int))]=c2 at *
  refine qaa (pf:=F147) rfl rfl ?_
  simp[F147,z,Wa]
 zero:=fun e0 e1 e2 hl=>by
  have z:=qxI (vs:=vs) (e0:=e0) (e1:=e1) (e2:=e2) 12 0 s (.lit (.slice none 0 0)) rfl rfl
  generalize nameI s=v at *
  generalize [(v,(0:Int))]=c2 at *
  refine qaa (pf:=F147) rfl rfl ?_
  simp[F147,z,Wa]
theorem qu7(A:Int->Cd)(i:Int × Int)(c:Cd):(c++A c.length)++[i]=c++snC A i c.length:=by simp[snC]
theorem qiz{c x:Cd}(h:c≠[]):c++x≠[]:=by simp[h]
theorem qrX(f:Bool){s:ByteArray}(hs:s∈qdM){a:E}{A:Int->Cd}{L:Nat}(h:TrOK vs a.node A L):TrOK vs (E.field f s a).node (snC A (4,fieldI s)) (L+1) where
 ln:=qcj h.ln
 pos:=by omega
 one:=fun e0 e1 e2 c hc hl=>by
  have z1:Z qad (.call 165 [.ptr 0 0,(E.field f s a).node,.int 0] (qcs vs e0 e1 e2 c))=_:=qf3 (f:=f) (N:=1) (i:=0) (e0:=e0) (e1:=e1) (e2:=e2) h.toTrB rfl (by omega) c hc (by omega)
  have zf:=qhF hs
  have l1:(c++A c.length).length<2^30:=by rw[Wc,h.ln]; omega
  have z2:=qb1 (vs:=vs) (e0:=e0) (e1:=e1) (e2:=e2) (c++A c.length) l1 4 (fieldI s)
  rw[qu7] at z2
  simp only[E.node,qjD,qlz,qlA,qg4] at z1
  generalize c++A c.length=c1 at *
  generalize c++snC A (4,fieldI s) c.length=c2 at *
  refine qaa (pf:=F147) rfl rfl ?_
  simp[F147,z1,z2,zf,Wa]
 zero:=fun e0 e1 e2 hl=>by
  have z1:Z qad (.call 165 [.ptr 0 0,(E.field f s a).node,.int 0] (qd3 vs e0 e1 e2))=_:=qns (f:=f) (N:=1) (i:=0) (e0:=e0) (e1:=e1) (e2:=e2) h rfl (by omega) (by omega)
  have zf:=qhF hs
  have l1:(A 0).length<2^30:=by rw[h.ln]; omega
  have z2:=qb1 (vs:=vs) (e0:=e0) (e1:=e1) (e2:=e2) (A 0) l1 4 (fieldI s)
  rw[show A 0++[((4:Int),fieldI s)]=snC A (4,fieldI s) 0 from rfl] at z2
  simp only[E.node,qjD,qlz,qlA,qg4] at z1
  generalize A 0=c1 at *
  generalize snC A (4,fieldI s) 0=c2 at *
  refine qaa (pf:=F147) rfl rfl ?_
  simp[F147,z1,z2,zf,Wa]
theorem qpZ(f:Bool){a:E}{A:Int->Cd}{L:Nat}(h:TrOK vs a.node A L){e0 e1 e2:Int}(c:Cd)(hc:c≠[])(hl:c.length+4*L<2^30):Z qad (.call 167 [.ptr 0 0,(E.un f true a).node] (qcs vs e0 e1 e2 c))=some (.ret (.tup []) (qcs vs e0 e1 e2 (c++snC A (13,0) c.length))):=by
 have hp:=h.pos
 have z1:Z qad (.call 165 [.ptr 0 0,(E.un f true a).node,.int 0] (qcs vs e0 e1 e2 c))=_:=qf3 (f:=f) (N:=1) (i:=0) (e0:=e0) (e1:=e1) (e2:=e2) h.toTrB rfl (by omega) c hc (by omega)
 have l1:(c++A c.length).length<2^30:=by rw[Wc,h.ln]; omega
 have z2:=qb1 (vs:=vs) (e0:=e0) (e1:=e1) (e2:=e2) (c++A c.length) l1 13 0
 rw[qu7] at z2
 simp only[E.node,qfc,qht,qhu,qeD,ustr,Wo,if_true,if_false] at z1
 generalize c++A c.length=c1 at *
 generalize c++snC A (13,0) c.length=c2 at *
 refine qaa (pf:=F167) rfl rfl ?_
 simp[F167,z1,z2,ustr,Wa]
theorem qp0(f:Bool){a:E}{A:Int->Cd}{L:Nat}(h:TrOK vs a.node A L){e0 e1 e2:Int}(hl:4*L<2^30):Z qad (.call 167 [.ptr 0 0,(E.un f true a).node] (qd3 vs e0 e1 e2))=some (.ret (.tup []) (qhx vs e0 e1 e2 (snC A (13,0) 0))):=by
 have hp:=h.pos
 have z1:Z qad (.call 165 [.ptr 0 0,(E.un f true a).node,.int 0] (qd3 vs e0 e1 e2))=_:=qns (f:=f) (N:=1) (i:=0) (e0:=e0) (e1:=e1) (e2:=e2) h rfl (by omega) (by omega)
 have l1:(A 0).length<2^30:=by rw[h.ln]; omega
 have z2:=qb1 (vs:=vs) (e0:=e0) (e1:=e1) (e2:=e2) (A 0) l1 13 0
 rw[show A 0++[((13:Int),(0:Int))]=snC A (13,0) 0 from rfl] at z2
 simp only[E.node,qfc,qht,qhu,qeD,ustr,Wo,if_true,if_false] at z1
 generalize A 0=c1 at *
 generalize snC A (13,0) 0=c2 at *
 refine qaa (pf:=F167) rfl rfl ?_
 simp[F167,z1,z2,ustr,Wa]
theorem qoj(f:Bool){a:E}{A:Int->Cd}{L:Nat}(h:TrOK vs a.node A L):TrOK vs (E.un f true a).node (snC A (13,0)) (L+1) where
 ln:=qcj h.ln
 pos:=by omega
 one:=fun e0 e1 e2 c hc hl=>by
  have z:=qpZ f h (e0:=e0) (e1:=e1) (e2:=e2) c hc (by omega)
  simp only[E.node,qfc,qht,qhu,qeD,ustr,Wo,if_true,if_false] at z
  generalize c++snC A (13,0) c.length=c2 at *
  refine qaa (pf:=F147) rfl rfl ?_
  simp[F147,z,ustr,Wa]
 zero:=fun e0 e1 e2 hl=>by
  have z:=qp0 f h (e0:=e0) (e1:=e1) (e2:=e2) (by omega)
  simp only[E.node,qfc,qht,qhu,qeD,ustr,Wo,if_true,if_false] at z
  generalize snC A (13,0) 0=c2 at *
  refine qaa (pf:=F147) rfl rfl ?_
  simp[F147,z,ustr,Wa]
theorem qok(f:Bool){a:E}{A:Int->Cd}{L:Nat}(h:TrOK vs a.node A L){e0 e1 e2:Int}(c:Cd)(hc:c≠[])(hl:c.length+4*L<2^30):Z qad (.call 167 [.ptr 0 0,(E.un f false a).node] (qcs vs e0 e1 e2 c))=some (.ret (.tup []) (qcs vs e0 e1 e2 (c++snC A (17,0) c.length))):=by
 have hp:=h.pos
 have z1:Z qad (.call 165 [.ptr 0 0,(E.un f false a).node,.int 0] (qcs vs e0 e1 e2 c))=_:=qf3 (f:=f) (N:=1) (i:=0) (e0:=e0) (e1:=e1) (e2:=e2) h.toTrB rfl (by omega) c hc (by omega)
 have l1:(c++A c.length).length<2^30:=by rw[Wc,h.ln]; omega
 have z2:=qb1 (vs:=vs) (e0:=e0) (e1:=e1) (e2:=e2) (c++A c.length) l1 17 0
 rw[qu7] at z2
 simp only[E.node,qfc,qht,qhu,qeD,ustr,Wo,if_true,if_false] at z1
 generalize c++A c.length=c1 at *
 generalize c++snC A (17,0) c.length=c2 at *
 refine qaa (pf:=F167) rfl rfl ?_
 simp[F167,z1,z2,ustr,Wa]
theorem qol(f:Bool){a:E}{A:Int->Cd}{L:Nat}(h:TrOK vs a.node A L){e0 e1 e2:Int}(hl:4*L<2^30):Z qad (.call 167 [.ptr 0 0,(E.un f false a).node] (qd3 vs e0 e1 e2))=some (.ret (.tup []) (qhx vs e0 e1 e2 (snC A (17,0) 0))):=by
 have hp:=h.pos
 have z1:Z qad (.call 165 [.ptr 0 0,(E.un f false a).node,.int 0] (qd3 vs e0 e1 e2))=_:=qns (f:=f) (N:=1) (i:=0) (e0:=e0) (e1:=e1) (e2:=e2) h rfl (by omega) (by omega)
 have l1:(A 0).length<2^30:=by rw[h.ln]; omega
 have z2:=qb1 (vs:=vs) (e0:=e0) (e1:=e1) (e2:=e2) (A 0) l1 17 0
 rw[show A 0++[((17:Int),(0:Int))]=snC A (17,0) 0 from rfl] at z2
 simp only[E.node,qfc,qht,qhu,qeD,ustr,Wo,if_true,if_false] at z1
 generalize A 0=c1 at *
 generalize snC A (17,0) 0=c2 at *
 refine qaa (pf:=F167) rfl rfl ?_
 simp[F167,z1,z2,ustr,Wa]
theorem qmp(f:Bool){a:E}{A:Int->Cd}{L:Nat}(h:TrOK vs a.node A L):TrOK vs (E.un f false a).node (snC A (17,0)) (L+1) where
 ln:=qcj h.ln
 pos:=by omega
 one:=fun e0 e1 e2 c hc hl=>by
  have z:=qok f h (e0:=e0) (e1:=e1) (e2:=e2) c hc (by omega)
  simp only[E.node,qfc,qht,qhu,qeD,ustr,Wo,if_true,if_false] at z
  generalize c++snC A (17,0) c.length=c2 at *
  refine qaa (pf:=F147) rfl rfl ?_
  simp[F147,z,ustr,Wa]
 zero:=fun e0 e1 e2 hl=>by
  have z:=qol f h (e0:=e0) (e1:=e1) (e2:=e2) (by omega)
  simp only[E.node,qfc,qht,qhu,qeD,ustr,Wo,if_true,if_false] at z
  generalize snC A (17,0) 0=c2 at *
  refine qaa (pf:=F147) rfl rfl ?_
  simp[F147,z,ustr,Wa]
end
end
section
open F Gr
set_option maxHeartbeats 2000000
attribute [local simp] qa7 qbB dkey qfR
theorem qqi(A B:Int->Cd)(c:Cd):(c++A c.length)++B (c++A c.length).length=c++sq A B c.length:=by
 simp only[sq,Wt,Wc]
 rw[show ((c.length+(A c.length).length:Nat):Int)=c.length+(A c.length).length by omega]
section
variable{vs:List ByteArray}{a b:E}{A B:Int->Cd}{La Lb:Nat}{e0 e1 e2:Int}
theorem qvr(ha:TrOK vs a.node A La)(hb:TrOK vs b.node B Lb)(f:Bool)(c:Cd)(hc:c≠[])(hl:c.length+4*(La+Lb+3)<2^30):Z qad (.call 168 [.ptr 0 0,(E.bin f .and a b).node] (qcs vs e0 e1 e2 c))=some (.ret (.tup []) (qcs vs e0 e1 e2 (c++(brC A B (fun _=>[(1,0)])) c.length))):=by
 have s1:=qfL .and
 have s2:=qiV .and
 have hpa:=ha.pos
 have z:=qnU (vs:=vs) (e0:=e0) (e1:=e1) (e2:=e2) (qsZ (k:=14) (n:=0) (s:=(Bop.and).str) (f:=f) (N:=2) (cs:=[.lit (.int .i64 a.kind),.lit (.int .i64 a.num),.lit (.string a.str),a.kids,.lit (.int .i64 b.kind),.lit (.int .i64 b.num),.lit (.string b.str),b.kids]) ha.toTrB rfl (by omega)) (qs0 (k:=14) (n:=0) (s:=(Bop.and).str) (f:=f) (N:=2) (cs:=[.lit (.int .i64 a.kind),.lit (.int .i64 a.num),.lit (.string a.str),a.kids,.lit (.int .i64 b.kind),.lit (.int .i64 b.num),.lit (.string b.str),b.kids]) hb.toTrB rfl (by omega)) (qs6) c hc (by omega) ha.pos
 simp only[nbo,qlC] at z
 generalize c++(brC A B (fun _=>[(1,0)])) c.length=c2 at *
 refine qaa (pf:=F168) rfl rfl ?_
 simp[F168,s1,s2,qiB,qp7,z,Wa]
theorem qvs(ha:TrOK vs a.node A La)(hb:TrOK vs b.node B Lb)(f:Bool)(hl:4*(La+Lb+3)<2^30):Z qad (.call 168 [.ptr 0 0,(E.bin f .and a b).node] (qd3 vs e0 e1 e2))=some (.ret (.tup []) (qhx vs e0 e1 e2 ((brC A B (fun _=>[(1,0)])) 0))):=by
 have s1:=qfL .and
 have s2:=qiV .and
 have hpa:=ha.pos
 have z:=qnV (vs:=vs) (e0:=e0) (e1:=e1) (e2:=e2) (qsZ (k:=14) (n:=0) (s:=(Bop.and).str) (f:=f) (N:=2) (cs:=[.lit (.int .i64 a.kind),.lit (.int .i64 a.num),.lit (.string a.str),a.kids,.lit (.int .i64 b.kind),.lit (.int .i64 b.num),.lit (.string b.str),b.kids]) ha.toTrB rfl (by omega)) (qva (k:=14) (n:=0) (s:=(Bop.and).str) (f:=f) (N:=2) (cs:=[.lit (.int .i64 a.kind),.lit (.int .i64 a.num),.lit (.string a.str),a.kids,.lit (.int .i64 b.kind),.lit (.int .i64 b.num),.lit (.string b.str),b.kids]) ha rfl (by omega) (by omega)) (qs0 (k:=14) (n:=0) (s:=(Bop.and).str) (f:=f) (N:=2) (cs:=[.lit (.int .i64 a.kind),.lit (.int .i64 a.num),.lit (.string a.str),a.kids,.lit (.int .i64 b.kind),.lit (.int .i64 b.num),.lit (.string b.str),b.kids]) hb.toTrB rfl (by omega)) (qs6) (by omega) ha.pos
 simp only[nbo,qlC] at z
 generalize (brC A B (fun _=>[(1,0)])) 0=c2 at *
 refine qaa (pf:=F168) rfl rfl ?_
 simp[F168,s1,s2,qiB,qp7,z,Wa]
theorem qxR(ha:TrOK vs a.node A La)(hb:TrOK vs b.node B Lb)(f:Bool)(c:Cd)(hc:c≠[])(hl:c.length+4*(La+Lb+3)<2^30):Z qad (.call 168 [.ptr 0 0,(E.bin f .or a b).node] (qcs vs e0 e1 e2 c))=some (.ret (.tup []) (qcs vs e0 e1 e2 (c++(brC A (fun _=>[(1,1)]) B) c.length))):=by
 have s1:=qfL .or
 have s2:=qiV .or
 have hpa:=ha.pos
 have z:=qnW (vs:=vs) (e0:=e0) (e1:=e1) (e2:=e2) (qs1 (k:=14) (n:=0) (s:=(Bop.or).str) (f:=f) (N:=2) (cs:=[.lit (.int .i64 a.kind),.lit (.int .i64 a.num),.lit (.string a.str),a.kids,.lit (.int .i64 b.kind),.lit (.int .i64 b.num),.lit (.string b.str),b.kids]) ha.toTrB rfl (by omega)) (qs7) (qs2 (k:=14) (n:=0) (s:=(Bop.or).str) (f:=f) (N:=2) (cs:=[.lit (.int .i64 a.kind),.lit (.int .i64 a.num),.lit (.string a.str),a.kids,.lit (.int .i64 b.kind),.lit (.int .i64 b.num),.lit (.string b.str),b.kids]) hb.toTrB rfl (by omega)) c hc (by omega) ha.pos
 simp only[nbo,qlC] at z
 generalize c++(brC A (fun _=>[(1,1)]) B) c.length=c2 at *
 refine qaa (pf:=F168) rfl rfl ?_
 simp[F168,s1,s2,qiB,qp7,z,Wa]
theorem qxS(ha:TrOK vs a.node A La)(hb:TrOK vs b.node B Lb)(f:Bool)(hl:4*(La+Lb+3)<2^30):Z qad (.call 168 [.ptr 0 0,(E.bin f .or a b).node] (qd3 vs e0 e1 e2))=some (.ret (.tup []) (qhx vs e0 e1 e2 ((brC A (fun _=>[(1,1)]) B) 0))):=by
 have s1:=qfL .or
 have s2:=qiV .or
 have hpa:=ha.pos
 have z:=qnX (vs:=vs) (e0:=e0) (e1:=e1) (e2:=e2) (qs1 (k:=14) (n:=0) (s:=(Bop.or).str) (f:=f) (N:=2) (cs:=[.lit (.int .i64 a.kind),.lit (.int .i64 a.num),.lit (.string a.str),a.kids,.lit (.int .i64 b.kind),.lit (.int .i64 b.num),.lit (.string b.str),b.kids]) ha.toTrB rfl (by omega)) (qvb (k:=14) (n:=0) (s:=(Bop.or).str) (f:=f) (N:=2) (cs:=[.lit (.int .i64 a.kind),.lit (.int .i64 a.num),.lit (.string a.str),a.kids,.lit (.int .i64 b.kind),.lit (.int .i64 b.num),.lit (.string b.str),b.kids]) ha rfl (by omega) (by omega)) (qs7) (qs2 (k:=14) (n:=0) (s:=(Bop.or).str) (f:=f) (N:=2) (cs:=[.lit (.int .i64 a.kind),.lit (.int .i64 a.num),.lit (.string a.str),a.kids,.lit (.int .i64 b.kind),.lit (.int .i64 b.num),.lit (.string b.str),b.kids]) hb.toTrB rfl (by omega)) (by omega) ha.pos
 simp only[nbo,qlC] at z
 generalize (brC A (fun _=>[(1,1)]) B) 0=c2 at *
 refine qaa (pf:=F168) rfl rfl ?_
 simp[F168,s1,s2,qiB,qp7,z,Wa]
theorem qqj(ha:TrOK vs a.node A La)(hb:TrOK vs b.node B Lb)(f:Bool){o:Bop}(h1:qiB o=false)(h2:qp7 o=false)(h3:qrZ o=true\/qvf o=true)(c:Cd)(hc:c≠[])(hl:c.length+4*(La+Lb+1)<2^30):Z qad (.call 168 [.ptr 0 0,(E.bin f o a b).node] (qcs vs e0 e1 e2 c))=some (.ret (.tup []) (qcs vs e0 e1 e2 (c++(snC (sq B A) (opI o,0)) c.length))):=by
 have s1:=qfL o
 have s2:=qiV o
 have s3:=qor o
 have s4:=qos o
 have s5:=qot o
 have hpa:=ha.pos
 have hpb:=hb.pos
 have z1:Z qad (.call 165 [.ptr 0 0,(E.bin f o a b).node,.int 1] (qcs vs e0 e1 e2 c))=_:=qf3 (f:=f) (N:=2) (i:=1) (e0:=e0) (e1:=e1) (e2:=e2) hb.toTrB rfl (by omega) c hc (by omega)
 have l1:(c++B c.length).length=c.length+Lb:=by rw[Wc,hb.ln]
 have z2:Z qad (.call 165 [.ptr 0 0,(E.bin f o a b).node,.int 0] (qcs vs e0 e1 e2 (c++B c.length)))=_:=qf3 (f:=f) (N:=2) (i:=0) (e0:=e0) (e1:=e1) (e2:=e2) ha.toTrB rfl (by omega) (c++B c.length) (qiz hc) (by omega)
 rw[qqi] at z2
 have l2:(c++sq B A c.length).length<2^30:=by rw[Wc,qbJ hb.ln ha.ln]; omega
 have zo:=qhE o (fun e=>by rw[e] at h1; exact absurd h1 (by decide)) (fun e=>by rw[e] at h2; exact absurd h2 (by decide))
 have z3:=qb1 (vs:=vs) (e0:=e0) (e1:=e1) (e2:=e2) (c++sq B A c.length) l2 (opI o) 0
 rw[show (c++sq B A c.length)++[(opI o,(0:Int))]=c++(snC (sq B A) (opI o,0)) c.length by simp[snC]] at z3
 simp only[E.node,qdU,qfd,qfe,qdr] at z1 z2
 generalize c++(snC (sq B A) (opI o,0)) c.length=c5 at *
 generalize c++sq B A c.length=c3 at *
 generalize c++B c.length=c1 at *
 refine qaa (pf:=F168) rfl rfl ?_
 rcases h3 with h3|h3
 ·simp[F168,s1,s2,s3,h1,h2,h3,z1,z2,z3,zo,qbH,qaz,Wa]
 ·cases hg:qrZ o with
  |true=>simp[F168,s1,s2,s3,h1,h2,hg,z1,z2,z3,zo,qbH,qaz,Wa]
  |false=>simp[F168,s1,s2,s3,s4,h1,h2,h3,hg,z1,z2,z3,zo,qbH,qaz,Wa]
theorem qxT(ha:TrOK vs a.node A La)(hb:TrOK vs b.node B Lb)(f:Bool){o:Bop}(ho:o = .ne)(c:Cd)(hc:c≠[])(hl:c.length+4*(La+Lb+1)<2^30):Z qad (.call 168 [.ptr 0 0,(E.bin f o a b).node] (qcs vs e0 e1 e2 c))=some (.ret (.tup []) (qcs vs e0 e1 e2 (c++(snC (snC (sq A B) (16,0)) (17,0)) c.length))):=by
 subst ho
 have s1:=qfL .ne
 have s2:=qiV .ne
 have s3:=qor .ne
 have s4:=qos .ne
 have s5:=qot .ne
 have hpa:=ha.pos
 have hpb:=hb.pos
 have z1:Z qad (.call 165 [.ptr 0 0,(E.bin f .ne a b).node,.int 0] (qcs vs e0 e1 e2 c))=_:=qf3 (f:=f) (N:=2) (i:=0) (e0:=e0) (e1:=e1) (e2:=e2) ha.toTrB rfl (by omega) c hc (by omega)
 have l1:(c++A c.length).length=c.length+La:=by rw[Wc,ha.ln]
 have z2:Z qad (.call 165 [.ptr 0 0,(E.bin f .ne a b).node,.int 1] (qcs vs e0 e1 e2 (c++A c.length)))=_:=qf3 (f:=f) (N:=2) (i:=1) (e0:=e0) (e1:=e1) (e2:=e2) hb.toTrB rfl (by omega) (c++A c.length) (qiz hc) (by omega)
 rw[qqi] at z2
 have l2:(c++sq A B c.length).length<2^30:=by rw[Wc,qbJ ha.ln hb.ln]; omega
 have z3:=qb1 (vs:=vs) (e0:=e0) (e1:=e1) (e2:=e2) (c++sq A B c.length) l2 16 0
 rw[show (c++sq A B c.length)++[((16:Int),(0:Int))]=c++snC (sq A B) (16,0) c.length by simp[snC]] at z3
 have l3:(c++snC (sq A B) (16,0) c.length).length<2^30:=by rw[Wc,qcj (qbJ ha.ln hb.ln)]; omega
 have z4:=qb1 (vs:=vs) (e0:=e0) (e1:=e1) (e2:=e2) (c++snC (sq A B) (16,0) c.length) l3 17 0
 rw[show (c++snC (sq A B) (16,0) c.length)++[((17:Int),(0:Int))]=c++(snC (snC (sq A B) (16,0)) (17,0)) c.length by simp[snC]] at z4
 simp only[E.node,qdU,qfd,qfe,qdr] at z1 z2
 generalize c++(snC (snC (sq A B) (16,0)) (17,0)) c.length=c5 at *
 generalize c++snC (sq A B) (16,0) c.length=c4 at *
 generalize c++sq A B c.length=c3 at *
 generalize c++A c.length=c1 at *
 refine qaa (pf:=F168) rfl rfl ?_
 simp[F168,s1,s2,s3,s4,s5,qiB,qp7,qrZ,qvf,qxK,z1,z2,z3,z4,qbH,qaz,Wa]
theorem qf5(ha:TrOK vs a.node A La)(hb:TrOK vs b.node B Lb)(f:Bool){o:Bop}(h1:qiB o=false)(h2:qp7 o=false)(h3:qrZ o=false)(h4:qvf o=false)(h5:qxK o=false)(c:Cd)(hc:c≠[])(hl:c.length+4*(La+Lb+1)<2^30):Z qad (.call 168 [.ptr 0 0,(E.bin f o a b).node] (qcs vs e0 e1 e2 c))=some (.ret (.tup []) (qcs vs e0 e1 e2 (c++(snC (sq A B) (opI o,0)) c.length))):=by
 have s1:=qfL o
 have s2:=qiV o
 have s3:=qor o
 have s4:=qos o
 have s5:=qot o
 have hpa:=ha.pos
 have hpb:=hb.pos
 have z1:Z qad (.call 165 [.ptr 0 0,(E.bin f o a b).node,.int 0] (qcs vs e0 e1 e2 c))=_:=qf3 (f:=f) (N:=2) (i:=0) (e0:=e0) (e1:=e1) (e2:=e2) ha.toTrB rfl (by omega) c hc (by omega)
 have l1:(c++A c.length).length=c.length+La:=by rw[Wc,ha.ln]
 have z2:Z qad (.call 165 [.ptr 0 0,(E.bin f o a b).node,.int 1] (qcs vs e0 e1 e2 (c++A c.length)))=_:=qf3 (f:=f) (N:=2) (i:=1) (e0:=e0) (e1:=e1) (e2:=e2) hb.toTrB rfl (by omega) (c++A c.length) (qiz hc) (by omega)
 rw[qqi] at z2
 have l2:(c++sq A B c.length).length<2^30:=by rw[Wc,qbJ ha.ln hb.ln]; omega
 have zo:=qhE o (fun e=>by rw[e] at h1; exact absurd h1 (by decide)) (fun e=>by rw[e] at h2; exact absurd h2 (by decide))
 have z3:=qb1 (vs:=vs) (e0:=e0) (e1:=e1) (e2:=e2) (c++sq A B c.length) l2 (opI o) 0
 rw[show (c++sq A B c.length)++[(opI o,(0:Int))]=c++(snC (sq A B) (opI o,0)) c.length by simp[snC]] at z3
 simp only[E.node,qdU,qfd,qfe,qdr] at z1 z2
 generalize c++(snC (sq A B) (opI o,0)) c.length=c5 at *
 generalize c++sq A B c.length=c3 at *
 generalize c++A c.length=c1 at *
 refine qaa (pf:=F168) rfl rfl ?_
 simp[F168,s1,s2,s3,s4,s5,h1,h2,h3,h4,h5,z1,z2,z3,zo,qbH,qaz,Wa]
theorem qqk(ha:TrOK vs a.node A La)(hb:TrOK vs b.node B Lb)(f:Bool){o:Bop}(h1:qiB o=false)(h2:qp7 o=false)(h3:qrZ o=true\/qvf o=true)(hl:4*(La+Lb+1)<2^30):Z qad (.call 168 [.ptr 0 0,(E.bin f o a b).node] (qd3 vs e0 e1 e2))=some (.ret (.tup []) (qhx vs e0 e1 e2 ((snC (sq B A) (opI o,0)) 0))):=by
 have s1:=qfL o
 have s2:=qiV o
 have s3:=qor o
 have s4:=qos o
 have s5:=qot o
 have hpa:=ha.pos
 have hpb:=hb.pos
 have z1:Z qad (.call 165 [.ptr 0 0,(E.bin f o a b).node,.int 1] (qd3 vs e0 e1 e2))=_:=qns (f:=f) (N:=2) (i:=1) (e0:=e0) (e1:=e1) (e2:=e2) hb rfl (by omega) (by omega)
 have l1:(B 0).length=Lb:=hb.ln 0
 have n1:B 0≠[]:=fun e=>by rw[e] at l1; simp only[Wl] at l1; have:=hb.pos; omega
 have z2:Z qad (.call 165 [.ptr 0 0,(E.bin f o a b).node,.int 0] (qcs vs e0 e1 e2 (B 0)))=_:=qf3 (f:=f) (N:=2) (i:=0) (e0:=e0) (e1:=e1) (e2:=e2) ha.toTrB rfl (by omega) (B 0) n1 (by omega)
 rw[show B 0++A (B 0).length=sq B A 0 by simp[sq]] at z2
 have l2:(sq B A 0).length<2^30:=by rw[qbJ hb.ln ha.ln]; omega
 have zo:=qhE o (fun e=>by rw[e] at h1; exact absurd h1 (by decide)) (fun e=>by rw[e] at h2; exact absurd h2 (by decide))
 have z3:=qb1 (vs:=vs) (e0:=e0) (e1:=e1) (e2:=e2) (sq B A 0) l2 (opI o) 0
 rw[show (sq B A 0)++[(opI o,(0:Int))]=(snC (sq B A) (opI o,0)) 0 by simp[snC]] at z3
 simp only[E.node,qdU,qfd,qfe,qdr] at z1 z2
 generalize (snC (sq B A) (opI o,0)) 0=c5 at *
 generalize sq B A 0=c3 at *
 generalize B 0=c1 at *
 refine qaa (pf:=F168) rfl rfl ?_
 rcases h3 with h3|h3
 ·simp[F168,s1,s2,s3,h1,h2,h3,z1,z2,z3,zo,qbH,qaz,Wa]
 ·cases hg:qrZ o with
  |true=>simp[F168,s1,s2,s3,h1,h2,hg,z1,z2,z3,zo,qbH,qaz,Wa]
  |false=>simp[F168,s1,s2,s3,s4,h1,h2,h3,hg,z1,z2,z3,zo,qbH,qaz,Wa]
theorem qxU(ha:TrOK vs a.node A La)(hb:TrOK vs b.node B Lb)(f:Bool){o:Bop}(ho:o = .ne)(hl:4*(La+Lb+1)<2^30):Z qad (.call 168 [.ptr 0 0,(E.bin f o a b).node] (qd3 vs e0 e1 e2))=some (.ret (.tup []) (qhx vs e0 e1 e2 ((snC (snC (sq A B) (16,0)) (17,0)) 0))):=by
 subst ho
 have s1:=qfL .ne
 have s2:=qiV .ne
 have s3:=qor .ne
 have s4:=qos .ne
 have s5:=qot .ne
 have hpa:=ha.pos
 have hpb:=hb.pos
 have z1:Z qad (.call 165 [.ptr 0 0,(E.bin f .ne a b).node,.int 0] (qd3 vs e0 e1 e2))=_:=qns (f:=f) (N:=2) (i:=0) (e0:=e0) (e1:=e1) (e2:=e2) ha rfl (by omega) (by omega)
 have l1:(A 0).length=La:=ha.ln 0
 have n1:A 0≠[]:=fun e=>by rw[e] at l1; simp only[Wl] at l1; have:=ha.pos; omega
 have z2:Z qad (.call 165 [.ptr 0 0,(E.bin f .ne a b).node,.int 1] (qcs vs e0 e1 e2 (A 0)))=_:=qf3 (f:=f) (N:=2) (i:=1) (e0:=e0) (e1:=e1) (e2:=e2) hb.toTrB rfl (by omega) (A 0) n1 (by omega)
 rw[show A 0++B (A 0).length=sq A B 0 by simp[sq]] at z2
 have l2:(sq A B 0).length<2^30:=by rw[qbJ ha.ln hb.ln]; omega
 have z3:=qb1 (vs:=vs) (e0:=e0) (e1:=e1) (e2:=e2) (sq A B 0) l2 16 0
 rw[show (sq A B 0)++[((16:Int),(0:Int))]=snC (sq A B) (16,0) 0 by simp[snC]] at z3
 have l3:(snC (sq A B) (16,0) 0).length<2^30:=by rw[qcj (qbJ ha.ln hb.ln)]; omega
 have z4:=qb1 (vs:=vs) (e0:=e0) (e1:=e1) (e2:=e2) (snC (sq A B) (16,0) 0) l3 17 0
 rw[show (snC (sq A B) (16,0) 0)++[((17:Int),(0:Int))]=(snC (snC (sq A B) (16,0)) (17,0)) 0 by simp[snC]] at z4
 simp only[E.node,qdU,qfd,qfe,qdr] at z1 z2
 generalize (snC (snC (sq A B) (16,0)) (17,0)) 0=c5 at *
 generalize snC (sq A B) (16,0) 0=c4 at *
 generalize sq A B 0=c3 at *
 generalize A 0=c1 at *
 refine qaa (pf:=F168) rfl rfl ?_
 simp[F168,s1,s2,s3,s4,s5,qiB,qp7,qrZ,qvf,qxK,z1,z2,z3,z4,qbH,qaz,Wa]
theorem qf6(ha:TrOK vs a.node A La)(hb:TrOK vs b.node B Lb)(f:Bool){o:Bop}(h1:qiB o=false)(h2:qp7 o=false)(h3:qrZ o=false)(h4:qvf o=false)(h5:qxK o=false)(hl:4*(La+Lb+1)<2^30):Z qad (.call 168 [.ptr 0 0,(E.bin f o a b).node] (qd3 vs e0 e1 e2))=some (.ret (.tup []) (qhx vs e0 e1 e2 ((snC (sq A B) (opI o,0)) 0))):=by
 have s1:=qfL o
 have s2:=qiV o
 have s3:=qor o
 have s4:=qos o
 have s5:=qot o
 have hpa:=ha.pos
 have hpb:=hb.pos
 have z1:Z qad (.call 165 [.ptr 0 0,(E.bin f o a b).node,.int 0] (qd3 vs e0 e1 e2))=_:=qns (f:=f) (N:=2) (i:=0) (e0:=e0) (e1:=e1) (e2:=e2) ha rfl (by omega) (by omega)
 have l1:(A 0).length=La:=ha.ln 0
 have n1:A 0≠[]:=fun e=>by rw[e] at l1; simp only[Wl] at l1; have:=ha.pos; omega
 have z2:Z qad (.call 165 [.ptr 0 0,(E.bin f o a b).node,.int 1] (qcs vs e0 e1 e2 (A 0)))=_:=qf3 (f:=f) (N:=2) (i:=1) (e0:=e0) (e1:=e1) (e2:=e2) hb.toTrB rfl (by omega) (A 0) n1 (by omega)
 rw[show A 0++B (A 0).length=sq A B 0 by simp[sq]] at z2
 have l2:(sq A B 0).length<2^30:=by rw[qbJ ha.ln hb.ln]; omega
 have zo:=qhE o (fun e=>by rw[e] at h1; exact absurd h1 (by decide)) (fun e=>by rw[e] at h2; exact absurd h2 (by decide))
 have z3:=qb1 (vs:=vs) (e0:=e0) (e1:=e1) (e2:=e2) (sq A B 0) l2 (opI o) 0
 rw[show (sq A B 0)++[(opI o,(0:Int))]=(snC (sq A B) (opI o,0)) 0 by simp[snC]] at z3
 simp only[E.node,qdU,qfd,qfe,qdr] at z1 z2
 generalize (snC (sq A B) (opI o,0)) 0=c5 at *
 generalize sq A B 0=c3 at *
 generalize A 0=c1 at *
 refine qaa (pf:=F168) rfl rfl ?_
 simp[F168,s1,s2,s3,s4,s5,h1,h2,h3,h4,h5,z1,z2,z3,zo,qbH,qaz,Wa]
end
end
section
open F Gr
set_option maxHeartbeats 2000000
attribute [local simp] qa7 qbB dkey qfR
section
variable{vs:List ByteArray}{a b:E}{A B:Int->Cd}{La Lb:Nat}
theorem qbU (f:Bool) (o:Bop) {K:Nat} (hk:Ln (binC o A B) K) (h0:0<K) (h1 : ∀ (e0 e1 e2:Int) (c:Cd),c≠[]->c.length+4*K<2^30->Z qad (.call 168 [.ptr 0 0,(E.bin f o a b).node] (qcs vs e0 e1 e2 c))=some (.ret (.tup []) (qcs vs e0 e1 e2 (c++(binC o A B) c.length))))
  (h2 : ∀ (e0 e1 e2:Int),4*K<2^30->Z qad (.call 168 [.ptr 0 0,(E.bin f o a b).node] (qd3 vs e0 e1 e2))=some (.ret (.tup []) (qhx vs e0 e1 e2 ((binC o A B) 0)))):TrOK vs (E.bin f o a b).node (binC o A B) K where
 ln:=hk
 pos:=h0
 one:=fun e0 e1 e2 c hc hl=>by
  have z:=h1 e0 e1 e2 c hc hl
  simp only[E.node,qdU,qfd,qfe,qdr] at z
  generalize c++binC o A B c.length=c2 at *
  refine qaa (pf:=F147) rfl rfl ?_
  simp[F147,z,Wa]
 zero:=fun e0 e1 e2 hl=>by
  have z:=h2 e0 e1 e2 hl
  simp only[E.node,qdU,qfd,qfe,qdr] at z
  generalize binC o A B 0=c2 at *
  refine qaa (pf:=F147) rfl rfl ?_
  simp[F147,z,Wa]
theorem qwt(ha:TrOK vs a.node A La)(hb:TrOK vs b.node B Lb)(f:Bool)(o:Bop) : ∃ K,TrOK vs (E.bin f o a b).node (binC o A B) K:=by
 have h1:Ln (fun _=>[((1:Int),(0:Int))]) 1:=fun _=>rfl
 have h1':Ln (fun _=>[((1:Int),(1:Int))]) 1:=fun _=>rfl
 have pa:=ha.pos
 have pb:=hb.pos
 cases o
 case and=>exact⟨_,qbU f .and (qmk ha.ln hb.ln h1) (by omega) (fun e0 e1 e2 c hc hl=>qvr ha hb f c hc (by omega)) (fun e0 e1 e2 hl=>qvs ha hb f (by omega))⟩
 case or=>exact⟨_,qbU f .or (qmk ha.ln h1' hb.ln) (by omega) (fun e0 e1 e2 c hc hl=>qxR ha hb f c hc (by omega)) (fun e0 e1 e2 hl=>qxS ha hb f (by omega))⟩
 case gt=>exact⟨_,qbU f .gt (qcj (qbJ hb.ln ha.ln)) (by omega) (fun e0 e1 e2 c hc hl=>qqj ha hb f (o := .gt) rfl rfl (.inl rfl) c hc (by omega)) (fun e0 e1 e2 hl=>qqk ha hb f (o := .gt) rfl rfl (.inl rfl) (by omega))⟩
 case ge=>exact⟨_,qbU f .ge (qcj (qbJ hb.ln ha.ln)) (by omega) (fun e0 e1 e2 c hc hl=>qqj ha hb f (o := .ge) rfl rfl (.inr rfl) c hc (by omega)) (fun e0 e1 e2 hl=>qqk ha hb f (o := .ge) rfl rfl (.inr rfl) (by omega))⟩
 case ne=>exact⟨_,qbU f .ne (qcj (qcj (qbJ ha.ln hb.ln))) (by omega) (fun e0 e1 e2 c hc hl=>qxT ha hb f rfl c hc (by omega)) (fun e0 e1 e2 hl=>qxU ha hb f rfl (by omega))⟩
 case add=>exact⟨_,qbU f .add (qcj (qbJ ha.ln hb.ln)) (by omega) (fun e0 e1 e2 c hc hl=>qf5 ha hb f (o := .add) rfl rfl rfl rfl rfl c hc (by omega)) (fun e0 e1 e2 hl=>qf6 ha hb f (o := .add) rfl rfl rfl rfl rfl (by omega))⟩
 case sub=>exact⟨_,qbU f .sub (qcj (qbJ ha.ln hb.ln)) (by omega) (fun e0 e1 e2 c hc hl=>qf5 ha hb f (o := .sub) rfl rfl rfl rfl rfl c hc (by omega)) (fun e0 e1 e2 hl=>qf6 ha hb f (o := .sub) rfl rfl rfl rfl rfl (by omega))⟩
 case mul=>exact⟨_,qbU f .mul (qcj (qbJ ha.ln hb.ln)) (by omega) (fun e0 e1 e2 c hc hl=>qf5 ha hb f (o := .mul) rfl rfl rfl rfl rfl c hc (by omega)) (fun e0 e1 e2 hl=>qf6 ha hb f (o := .mul) rfl rfl rfl rfl rfl (by omega))⟩
 case div=>exact⟨_,qbU f .div (qcj (qbJ ha.ln hb.ln)) (by omega) (fun e0 e1 e2 c hc hl=>qf5 ha hb f (o := .div) rfl rfl rfl rfl rfl c hc (by omega)) (fun e0 e1 e2 hl=>qf6 ha hb f (o := .div) rfl rfl rfl rfl rfl (by omega))⟩
 case lt=>exact⟨_,qbU f .lt (qcj (qbJ ha.ln hb.ln)) (by omega) (fun e0 e1 e2 c hc hl=>qf5 ha hb f (o := .lt) rfl rfl rfl rfl rfl c hc (by omega)) (fun e0 e1 e2 hl=>qf6 ha hb f (o := .lt) rfl rfl rfl rfl rfl (by omega))⟩
 case le=>exact⟨_,qbU f .le (qcj (qbJ ha.ln hb.ln)) (by omega) (fun e0 e1 e2 c hc hl=>qf5 ha hb f (o := .le) rfl rfl rfl rfl rfl c hc (by omega)) (fun e0 e1 e2 hl=>qf6 ha hb f (o := .le) rfl rfl rfl rfl rfl (by omega))⟩
 case eq=>exact⟨_,qbU f .eq (qcj (qbJ ha.ln hb.ln)) (by omega) (fun e0 e1 e2 c hc hl=>qf5 ha hb f (o := .eq) rfl rfl rfl rfl rfl c hc (by omega)) (fun e0 e1 e2 hl=>qf6 ha hb f (o := .eq) rfl rfl rfl rfl rfl (by omega))⟩
theorem qoJ : ∀ e:E,e.fine->e.inV vs -> ∃ L,TrOK vs e.node (qc9 vs e) L
 |.int n,_,_=>⟨_,qxF n⟩
 |.bool n,_,_=>⟨_,qu5 n⟩
 |.var s,_,g=>⟨_,qxG g⟩
 |.name s,_,_=>⟨_,qu6 s⟩
 |.field f s e,h,g=>let ⟨_,k⟩:=qoJ e h.2.1 g; ⟨_,qrX f h.1 k⟩
 |.un f true e,h,g=>let ⟨_,k⟩:=qoJ e h.1 g; ⟨_,qoj f k⟩
 |.un f false e,h,g=>let ⟨_,k⟩:=qoJ e h.1 g; ⟨_,qmp f k⟩
 |.bin f o a b,h,g=>let ⟨_,k⟩:=qoJ a h.1 g.1; let ⟨_,k'⟩:=qoJ b h.2.1 g.2; qwt k k' f o
end
end
section
open F Gr
set_option maxHeartbeats 2000000
attribute [local simp] qa7 qbB dkey qfR
section
variable{vs:List ByteArray}{a b:E}{A B:Int->Cd}{La Lb:Nat}{e0 e1 e2:Int}
theorem qp8(f:Bool){s:ByteArray}(hs:s∈vs)(ha:TrOK vs a.node A La):TrOK vs (nd 1 0 s f (a.fo .nil)) (snC A (3,ixI vs s)) (La+1) where
 ln:=qcj ha.ln
 pos:=by omega
 one:=fun e0 e1 e2 c hc hl=>by
  have hpa:=ha.pos
  have zf:=qh5 s vs 0 hs
  rw[show ixI vs s+((0:Nat):Int)=ixI vs s by omega] at zf
  have z1:Z qad (.call 165 [.ptr 0 0,.dat (.agg [.lit (.int .i64 1),.lit (.int .i64 0),.lit (.string s),.sl [.lit (.int .i64 a.kind),.lit (.int .i64 a.num),.lit (.string a.str),a.kids] 1 f]),.int 0] (qcs vs e0 e1 e2 c))=_:=qf3 (f:=f) (N:=1) (i:=0) (e0:=e0) (e1:=e1) (e2:=e2) ha.toTrB rfl (by omega) c hc (by omega)
  have l1:(c++A c.length).length<2^30:=by rw[Wc,ha.ln]; omega
  have z3:=qb1 (vs:=vs) (e0:=e0) (e1:=e1) (e2:=e2) (c++A c.length) (by omega) 3 (ixI vs s)
  rw[show (c++A c.length)++[((3:Int),(ixI vs s:Int))]=c++(snC A (3,ixI vs s)) c.length by simp[snC]] at z3
  generalize c++(snC A (3,ixI vs s)) c.length=c5 at *
  generalize c++A c.length=c1 at *
  have zs:Z qad (.call 169 [.ptr 0 0,.dat (.agg [.lit (.int .i64 1),.lit (.int .i64 0),.lit (.string s),.sl [.lit (.int .i64 a.kind),.lit (.int .i64 a.num),.lit (.string a.str),a.kids] 1 f])] (qcs vs e0 e1 e2 c))=some (.ret (.tup []) (qcs vs e0 e1 e2 c5)):=by
   refine qaa (pf:=F169) rfl rfl ?_
   simp[F169,z1,z3,zf,qeK,qbH,qaz,Wa]
  refine qaa (pf:=F147) rfl rfl ?_
  simp[F147,zs,Wa]
 zero:=fun e0 e1 e2 hl=>by
  have hpa:=ha.pos
  have zf:=qh5 s vs 0 hs
  rw[show ixI vs s+((0:Nat):Int)=ixI vs s by omega] at zf
  have z1:Z qad (.call 165 [.ptr 0 0,.dat (.agg [.lit (.int .i64 1),.lit (.int .i64 0),.lit (.string s),.sl [.lit (.int .i64 a.kind),.lit (.int .i64 a.num),.lit (.string a.str),a.kids] 1 f]),.int 0] (qd3 vs e0 e1 e2))=_:=qns (f:=f) (N:=1) (i:=0) (e0:=e0) (e1:=e1) (e2:=e2) ha rfl (by omega) (by omega)
  have l1:(A 0).length<2^30:=by rw[ha.ln]; omega
  have z3:=qb1 (vs:=vs) (e0:=e0) (e1:=e1) (e2:=e2) (A 0) (by omega) 3 (ixI vs s)
  rw[show (A 0)++[((3:Int),(ixI vs s:Int))]=(snC A (3,ixI vs s)) 0 by simp[snC]] at z3
  generalize (snC A (3,ixI vs s)) 0=c5 at *
  generalize A 0=c1 at *
  have zs:Z qad (.call 169 [.ptr 0 0,.dat (.agg [.lit (.int .i64 1),.lit (.int .i64 0),.lit (.string s),.sl [.lit (.int .i64 a.kind),.lit (.int .i64 a.num),.lit (.string a.str),a.kids] 1 f])] (qd3 vs e0 e1 e2))=some (.ret (.tup []) (qhx vs e0 e1 e2 c5)):=by
   refine qaa (pf:=F169) rfl rfl ?_
   simp[F169,z1,z3,zf,qeK,qbH,qaz,Wa]
  refine qaa (pf:=F147) rfl rfl ?_
  simp[F147,zs,Wa]
theorem qr1(f:Bool){s:ByteArray}(hs:s∈qdM)(ha:TrOK vs a.node A La)(hb:TrOK vs b.node B Lb):TrOK vs (nd 2 0 s f (a.fo (b.fo .nil))) (snC (sq A B) (5,fieldI s)) (La+Lb+1) where
 ln:=qcj (qbJ ha.ln hb.ln)
 pos:=by omega
 one:=fun e0 e1 e2 c hc hl=>by
  have hpa:=ha.pos
  have hpb:=hb.pos
  have zf:=qhF hs
  have z1:Z qad (.call 165 [.ptr 0 0,.dat (.agg [.lit (.int .i64 2),.lit (.int .i64 0),.lit (.string s),.sl [.lit (.int .i64 a.kind),.lit (.int .i64 a.num),.lit (.string a.str),a.kids,.lit (.int .i64 b.kind),.lit (.int .i64 b.num),.lit (.string b.str),b.kids] 2 f]),.int 0] (qcs vs e0 e1 e2 c))=_:=qf3 (f:=f) (N:=2) (i:=0) (e0:=e0) (e1:=e1) (e2:=e2) ha.toTrB rfl (by omega) c hc (by omega)
  have l1:(c++A c.length).length<2^30:=by rw[Wc,ha.ln]; omega
  have l1':(c++A c.length).length=c.length+La:=by rw[Wc,ha.ln]
  have z2:Z qad (.call 165 [.ptr 0 0,.dat (.agg [.lit (.int .i64 2),.lit (.int .i64 0),.lit (.string s),.sl [.lit (.int .i64 a.kind),.lit (.int .i64 a.num),.lit (.string a.str),a.kids,.lit (.int .i64 b.kind),.lit (.int .i64 b.num),.lit (.string b.str),b.kids] 2 f]),.int 1] (qcs vs e0 e1 e2 (c++A c.length)))=_:=qf3 (f:=f) (N:=2) (i:=1) (e0:=e0) (e1:=e1) (e2:=e2) hb.toTrB rfl (by omega) (c++A c.length) (qiz hc) (by omega)
  rw[qqi] at z2
  have l2:(c++sq A B c.length).length<2^30:=by rw[Wc,qbJ ha.ln hb.ln]; omega
  have z3:=qb1 (vs:=vs) (e0:=e0) (e1:=e1) (e2:=e2) (c++sq A B c.length) l2 5 (fieldI s)
  rw[show (c++sq A B c.length)++[((5:Int),(fieldI s:Int))]=c++(snC (sq A B) (5,fieldI s)) c.length by simp[snC]] at z3
  generalize c++(snC (sq A B) (5,fieldI s)) c.length=c5 at *
  generalize c++sq A B c.length=c3 at *
  generalize c++A c.length=c1 at *
  have zs:Z qad (.call 169 [.ptr 0 0,.dat (.agg [.lit (.int .i64 2),.lit (.int .i64 0),.lit (.string s),.sl [.lit (.int .i64 a.kind),.lit (.int .i64 a.num),.lit (.string a.str),a.kids,.lit (.int .i64 b.kind),.lit (.int .i64 b.num),.lit (.string b.str),b.kids] 2 f])] (qcs vs e0 e1 e2 c))=some (.ret (.tup []) (qcs vs e0 e1 e2 c5)):=by
   refine qaa (pf:=F169) rfl rfl ?_
   simp[F169,z1,z2,z3,zf,qeK,qbH,qaz,Wa]
  refine qaa (pf:=F147) rfl rfl ?_
  simp[F147,zs,Wa]
 zero:=fun e0 e1 e2 hl=>by
  have hpa:=ha.pos
  have hpb:=hb.pos
  have zf:=qhF hs
  have z1:Z qad (.call 165 [.ptr 0 0,.dat (.agg [.lit (.int .i64 2),.lit (.int .i64 0),.lit (.string s),.sl [.lit (.int .i64 a.kind),.lit (.int .i64 a.num),.lit (.string a.str),a.kids,.lit (.int .i64 b.kind),.lit (.int .i64 b.num),.lit (.string b.str),b.kids] 2 f]),.int 0] (qd3 vs e0 e1 e2))=_:=qns (f:=f) (N:=2) (i:=0) (e0:=e0) (e1:=e1) (e2:=e2) ha rfl (by omega) (by omega)
  have l1:(A 0).length<2^30:=by rw[ha.ln]; omega
  have n1:A 0≠[]:=fun e=>by have:=ha.ln 0; rw[e] at this; simp only[Wl] at this; omega
  have l1':=ha.ln 0
  have z2:Z qad (.call 165 [.ptr 0 0,.dat (.agg [.lit (.int .i64 2),.lit (.int .i64 0),.lit (.string s),.sl [.lit (.int .i64 a.kind),.lit (.int .i64 a.num),.lit (.string a.str),a.kids,.lit (.int .i64 b.kind),.lit (.int .i64 b.num),.lit (.string b.str),b.kids] 2 f]),.int 1] (qcs vs e0 e1 e2 (A 0)))=_:=qf3 (f:=f) (N:=2) (i:=1) (e0:=e0) (e1:=e1) (e2:=e2) hb.toTrB rfl (by omega) (A 0) n1 (by omega)
  rw[show A 0++B (A 0).length=sq A B 0 by simp[sq]] at z2
  have l2:(sq A B 0).length<2^30:=by rw[qbJ ha.ln hb.ln]; omega
  have z3:=qb1 (vs:=vs) (e0:=e0) (e1:=e1) (e2:=e2) (sq A B 0) l2 5 (fieldI s)
  rw[show (sq A B 0)++[((5:Int),(fieldI s:Int))]=(snC (sq A B) (5,fieldI s)) 0 by simp[snC]] at z3
  generalize (snC (sq A B) (5,fieldI s)) 0=c5 at *
  generalize sq A B 0=c3 at *
  generalize A 0=c1 at *
  have zs:Z qad (.call 169 [.ptr 0 0,.dat (.agg [.lit (.int .i64 2),.lit (.int .i64 0),.lit (.string s),.sl [.lit (.int .i64 a.kind),.lit (.int .i64 a.num),.lit (.string a.str),a.kids,.lit (.int .i64 b.kind),.lit (.int .i64 b.num),.lit (.string b.str),b.kids] 2 f])] (qd3 vs e0 e1 e2))=some (.ret (.tup []) (qhx vs e0 e1 e2 c5)):=by
   refine qaa (pf:=F169) rfl rfl ?_
   simp[F169,z1,z2,z3,zf,qeK,qbH,qaz,Wa]
  refine qaa (pf:=F147) rfl rfl ?_
  simp[F147,zs,Wa]
theorem qp9(f:Bool)(ha:TrOK vs a.node A La)(hb:TrOK vs b.node B Lb):TrOK vs (nd 5 0 ⟨#[]⟩ f (a.fo (b.fo .nil))) (snC (sq A B) (20,0)) (La+Lb+1) where
 ln:=qcj (qbJ ha.ln hb.ln)
 pos:=by omega
 one:=fun e0 e1 e2 c hc hl=>by
  have hpa:=ha.pos
  have hpb:=hb.pos
  have z1:Z qad (.call 165 [.ptr 0 0,.dat (.agg [.lit (.int .i64 5),.lit (.int .i64 0),.lit (.string ⟨#[]⟩),.sl [.lit (.int .i64 a.kind),.lit (.int .i64 a.num),.lit (.string a.str),a.kids,.lit (.int .i64 b.kind),.lit (.int .i64 b.num),.lit (.string b.str),b.kids] 2 f]),.int 0] (qcs vs e0 e1 e2 c))=_:=qf3 (f:=f) (N:=2) (i:=0) (e0:=e0) (e1:=e1) (e2:=e2) ha.toTrB rfl (by omega) c hc (by omega)
  have l1:(c++A c.length).length<2^30:=by rw[Wc,ha.ln]; omega
  have l1':(c++A c.length).length=c.length+La:=by rw[Wc,ha.ln]
  have z2:Z qad (.call 165 [.ptr 0 0,.dat (.agg [.lit (.int .i64 5),.lit (.int .i64 0),.lit (.string ⟨#[]⟩),.sl [.lit (.int .i64 a.kind),.lit (.int .i64 a.num),.lit (.string a.str),a.kids,.lit (.int .i64 b.kind),.lit (.int .i64 b.num),.lit (.string b.str),b.kids] 2 f]),.int 1] (qcs vs e0 e1 e2 (c++A c.length)))=_:=qf3 (f:=f) (N:=2) (i:=1) (e0:=e0) (e1:=e1) (e2:=e2) hb.toTrB rfl (by omega) (c++A c.length) (qiz hc) (by omega)
  rw[qqi] at z2
  have l2:(c++sq A B c.length).length<2^30:=by rw[Wc,qbJ ha.ln hb.ln]; omega
  have z3:=qb1 (vs:=vs) (e0:=e0) (e1:=e1) (e2:=e2) (c++sq A B c.length) l2 20 (0)
  rw[show (c++sq A B c.length)++[((20:Int),(0:Int))]=c++(snC (sq A B) (20,0)) c.length by simp[snC]] at z3
  generalize c++(snC (sq A B) (20,0)) c.length=c5 at *
  generalize c++sq A B c.length=c3 at *
  generalize c++A c.length=c1 at *
  have zs:Z qad (.call 169 [.ptr 0 0,.dat (.agg [.lit (.int .i64 5),.lit (.int .i64 0),.lit (.string ⟨#[]⟩),.sl [.lit (.int .i64 a.kind),.lit (.int .i64 a.num),.lit (.string a.str),a.kids,.lit (.int .i64 b.kind),.lit (.int .i64 b.num),.lit (.string b.str),b.kids] 2 f])] (qcs vs e0 e1 e2 c))=some (.ret (.tup []) (qcs vs e0 e1 e2 c5)):=by
   refine qaa (pf:=F169) rfl rfl ?_
   simp[F169,z1,z2,z3,qeK,qbH,qaz,Wa]
  refine qaa (pf:=F147) rfl rfl ?_
  simp[F147,zs,Wa]
 zero:=fun e0 e1 e2 hl=>by
  have hpa:=ha.pos
  have hpb:=hb.pos
  have z1:Z qad (.call 165 [.ptr 0 0,.dat (.agg [.lit (.int .i64 5),.lit (.int .i64 0),.lit (.string ⟨#[]⟩),.sl [.lit (.int .i64 a.kind),.lit (.int .i64 a.num),.lit (.string a.str),a.kids,.lit (.int .i64 b.kind),.lit (.int .i64 b.num),.lit (.string b.str),b.kids] 2 f]),.int 0] (qd3 vs e0 e1 e2))=_:=qns (f:=f) (N:=2) (i:=0) (e0:=e0) (e1:=e1) (e2:=e2) ha rfl (by omega) (by omega)
  have l1:(A 0).length<2^30:=by rw[ha.ln]; omega
  have n1:A 0≠[]:=fun e=>by have:=ha.ln 0; rw[e] at this; simp only[Wl] at this; omega
  have l1':=ha.ln 0
  have z2:Z qad (.call 165 [.ptr 0 0,.dat (.agg [.lit (.int .i64 5),.lit (.int .i64 0),.lit (.string ⟨#[]⟩),.sl [.lit (.int .i64 a.kind),.lit (.int .i64 a.num),.lit (.string a.str),a.kids,.lit (.int .i64 b.kind),.lit (.int .i64 b.num),.lit (.string b.str),b.kids] 2 f]),.int 1] (qcs vs e0 e1 e2 (A 0)))=_:=qf3 (f:=f) (N:=2) (i:=1) (e0:=e0) (e1:=e1) (e2:=e2) hb.toTrB rfl (by omega) (A 0) n1 (by omega)
  rw[show A 0++B (A 0).length=sq A B 0 by simp[sq]] at z2
  have l2:(sq A B 0).length<2^30:=by rw[qbJ ha.ln hb.ln]; omega
  have z3:=qb1 (vs:=vs) (e0:=e0) (e1:=e1) (e2:=e2) (sq A B 0) l2 20 (0)
  rw[show (sq A B 0)++[((20:Int),(0:Int))]=(snC (sq A B) (20,0)) 0 by simp[snC]] at z3
  generalize (snC (sq A B) (20,0)) 0=c5 at *
  generalize sq A B 0=c3 at *
  generalize A 0=c1 at *
  have zs:Z qad (.call 169 [.ptr 0 0,.dat (.agg [.lit (.int .i64 5),.lit (.int .i64 0),.lit (.string ⟨#[]⟩),.sl [.lit (.int .i64 a.kind),.lit (.int .i64 a.num),.lit (.string a.str),a.kids,.lit (.int .i64 b.kind),.lit (.int .i64 b.num),.lit (.string b.str),b.kids] 2 f])] (qd3 vs e0 e1 e2))=some (.ret (.tup []) (qhx vs e0 e1 e2 c5)):=by
   refine qaa (pf:=F169) rfl rfl ?_
   simp[F169,z1,z2,z3,qeK,qbH,qaz,Wa]
  refine qaa (pf:=F147) rfl rfl ?_
  simp[F147,zs,Wa]
theorem qvi(f:Bool):TrOK vs (nd 6 0 ⟨#[]⟩ f .nil) (fun _=>[(21,0)]) 1 where
 ln:=fun _=>rfl
 pos:=by omega
 one:=fun e0 e1 e2 c hc hl=>by
  have z:=qb1 (vs:=vs) (e0:=e0) (e1:=e1) (e2:=e2) c (by omega) 21 0
  generalize c++[((21:Int),(0:Int))]=c2 at *
  have zs:Z qad (.call 169 [.ptr 0 0,.dat (.agg [.lit (.int .i64 6),.lit (.int .i64 0),.lit (.string ⟨#[]⟩),.lit (.slice none 0 0)])] (qcs vs e0 e1 e2 c))=some (.ret (.tup []) (qcs vs e0 e1 e2 c2)):=by
   refine qaa (pf:=F169) rfl rfl ?_
   simp[F169,z,Wa]
  refine qaa (pf:=F147) rfl rfl ?_
  simp[F147,zs,Wa]
 zero:=fun e0 e1 e2 hl=>by
  have z:=qkV (vs:=vs) (e0:=e0) (e1:=e1) (e2:=e2) 21 0
  generalize [((21:Int),(0:Int))]=c2 at *
  have zs:Z qad (.call 169 [.ptr 0 0,.dat (.agg [.lit (.int .i64 6),.lit (.int .i64 0),.lit (.string ⟨#[]⟩),.lit (.slice none 0 0)])] (qd3 vs e0 e1 e2))=some (.ret (.tup []) (qhx vs e0 e1 e2 c2)):=by
   refine qaa (pf:=F169) rfl rfl ?_
   simp[F169,z,Wa]
  refine qaa (pf:=F147) rfl rfl ?_
  simp[F147,zs,Wa]
theorem qzR (f f1 f2:Bool) {x y:Fo} {X Y:Int->Cd} {Lx Ly:Nat} (ha:TrOK vs a.node A La) (hx:TrB vs (nd 7 0 ⟨#[]⟩ f1 x) X Lx) (hy:TrB vs (nd 7 0 ⟨#[]⟩ f2 y) Y Ly) :
  TrOK vs (nd 3 0 ⟨#[]⟩ f (a.fo (.cons 7 0 ⟨#[]⟩ f1 x (.cons 7 0 ⟨#[]⟩ f2 y .nil)))) (brC A X Y) (La+Lx+Ly+2) where
 ln:=qmk ha.ln hx.ln hy.ln
 pos:=by omega
 one:=fun e0 e1 e2 c hc hl=>by
  have hpa:=ha.pos
  have z:=qnY (vs:=vs) (e0:=e0) (e1:=e1) (e2:=e2) (qs3 (k:=3) (n:=0) (s:=⟨#[]⟩) (f:=f) (N:=3) (cs:=[.lit (.int .i64 a.kind),.lit (.int .i64 a.num),.lit (.string a.str),a.kids,.lit (.int .i64 7),.lit (.int .i64 0),.lit (.string ⟨#[]⟩),kd f1 x.len x.cells,.lit (.int .i64 7),.lit (.int .i64 0),.lit (.string ⟨#[]⟩),kd f2 y.len y.cells]) ha.toTrB rfl (by omega)) (qs4 (k:=3) (n:=0) (s:=⟨#[]⟩) (f:=f) (N:=3) (cs:=[.lit (.int .i64 a.kind),.lit (.int .i64 a.num),.lit (.string a.str),a.kids,.lit (.int .i64 7),.lit (.int .i64 0),.lit (.string ⟨#[]⟩),kd f1 x.len x.cells,.lit (.int .i64 7),.lit (.int .i64 0),.lit (.string ⟨#[]⟩),kd f2 y.len y.cells]) hx rfl (by omega)) (qs5 (k:=3) (n:=0) (s:=⟨#[]⟩) (f:=f) (N:=3) (cs:=[.lit (.int .i64 a.kind),.lit (.int .i64 a.num),.lit (.string a.str),a.kids,.lit (.int .i64 7),.lit (.int .i64 0),.lit (.string ⟨#[]⟩),kd f1 x.len x.cells,.lit (.int .i64 7),.lit (.int .i64 0),.lit (.string ⟨#[]⟩),kd f2 y.len y.cells]) hy rfl (by omega)) c hc (by omega) ha.pos
  simp only[nbo,qlC] at z
  generalize c++brC A X Y c.length=c5 at *
  have zs:Z qad (.call 169 [.ptr 0 0,.dat (.agg [.lit (.int .i64 3),.lit (.int .i64 0),.lit (.string ⟨#[]⟩),.sl [.lit (.int .i64 a.kind),.lit (.int .i64 a.num),.lit (.string a.str),a.kids,.lit (.int .i64 7),.lit (.int .i64 0),.lit (.string ⟨#[]⟩),kd f1 x.len x.cells,.lit (.int .i64 7),.lit (.int .i64 0),.lit (.string ⟨#[]⟩),kd f2 y.len y.cells] 3 f])] (qcs vs e0 e1 e2 c))=some (.ret (.tup []) (qcs vs e0 e1 e2 c5)):=by
   refine qaa (pf:=F169) rfl rfl ?_
   simp[F169,z,Wa]
  refine qaa (pf:=F147) rfl rfl ?_
  simp[F147,zs,Wa]
 zero:=fun e0 e1 e2 hl=>by
  have hpa:=ha.pos
  have z:=qnZ (vs:=vs) (e0:=e0) (e1:=e1) (e2:=e2) (qs3 (k:=3) (n:=0) (s:=⟨#[]⟩) (f:=f) (N:=3) (cs:=[.lit (.int .i64 a.kind),.lit (.int .i64 a.num),.lit (.string a.str),a.kids,.lit (.int .i64 7),.lit (.int .i64 0),.lit (.string ⟨#[]⟩),kd f1 x.len x.cells,.lit (.int .i64 7),.lit (.int .i64 0),.lit (.string ⟨#[]⟩),kd f2 y.len y.cells]) ha.toTrB rfl (by omega)) (qvc (k:=3) (n:=0) (s:=⟨#[]⟩) (f:=f) (N:=3) (cs:=[.lit (.int .i64 a.kind),.lit (.int .i64 a.num),.lit (.string a.str),a.kids,.lit (.int .i64 7),.lit (.int .i64 0),.lit (.string ⟨#[]⟩),kd f1 x.len x.cells,.lit (.int .i64 7),.lit (.int .i64 0),.lit (.string ⟨#[]⟩),kd f2 y.len y.cells]) ha rfl (by omega) (by omega)) (qs4 (k:=3) (n:=0) (s:=⟨#[]⟩) (f:=f) (N:=3) (cs:=[.lit (.int .i64 a.kind),.lit (.int .i64 a.num),.lit (.string a.str),a.kids,.lit (.int .i64 7),.lit (.int .i64 0),.lit (.string ⟨#[]⟩),kd f1 x.len x.cells,.lit (.int .i64 7),.lit (.int .i64 0),.lit (.string ⟨#[]⟩),kd f2 y.len y.cells]) hx rfl (by omega)) (qs5 (k:=3) (n:=0) (s:=⟨#[]⟩) (f:=f) (N:=3) (cs:=[.lit (.int .i64 a.kind),.lit (.int .i64 a.num),.lit (.string a.str),a.kids,.lit (.int .i64 7),.lit (.int .i64 0),.lit (.string ⟨#[]⟩),kd f1 x.len x.cells,.lit (.int .i64 7),.lit (.int .i64 0),.lit (.string ⟨#[]⟩),kd f2 y.len y.cells]) hy rfl (by omega)) (by omega) ha.pos
  simp only[nbo,qlC] at z
  generalize brC A X Y 0=c5 at *
  have zs:Z qad (.call 169 [.ptr 0 0,.dat (.agg [.lit (.int .i64 3),.lit (.int .i64 0),.lit (.string ⟨#[]⟩),.sl [.lit (.int .i64 a.kind),.lit (.int .i64 a.num),.lit (.string a.str),a.kids,.lit (.int .i64 7),.lit (.int .i64 0),.lit (.string ⟨#[]⟩),kd f1 x.len x.cells,.lit (.int .i64 7),.lit (.int .i64 0),.lit (.string ⟨#[]⟩),kd f2 y.len y.cells] 3 f])] (qd3 vs e0 e1 e2))=some (.ret (.tup []) (qhx vs e0 e1 e2 c5)):=by
   refine qaa (pf:=F169) rfl rfl ?_
   simp[F169,z,Wa]
  refine qaa (pf:=F147) rfl rfl ?_
  simp[F147,zs,Wa]
theorem qxL(A X:Int->Cd)(c:Cd):(c++A c.length)++(19,((((c++A c.length)++[((19:Int),(0:Int))])++X ((c++A c.length)++[((19:Int),(0:Int))]).length++[((18:Int),(c.length:Int))]).length:Int))::(X ((c++A c.length)++[((19:Int),(0:Int))]).length++[((18:Int),(c.length:Int))])=c++whC A X c.length:=by
 have e:((((c++A c.length)++[((19:Int),(0:Int))]).length:Nat):Int)=c.length+(A c.length).length+1:=by simp only[Wc,We,Wl]; omega
 simp only[whC,Wt]
 simp only[Wt] at e
 rw[e]
 have e2:(((c++(A c.length++([((19:Int),(0:Int))]++(X (c.length+(A c.length).length+1)++[((18:Int),(c.length:Int))])))).length:Nat):Int)=c.length+(A c.length).length+1+(X (c.length+(A c.length).length+1)).length+1:=by simp only[Wc,We,Wl]; omega
 rw[e2]
theorem qr2 (f f1:Bool) {x:Fo} {X:Int->Cd} {Lx:Nat} (ha:TrOK vs a.node A La) (hx:TrB vs (nd 7 0 ⟨#[]⟩ f1 x) X Lx) :
  TrOK vs (nd 4 0 ⟨#[]⟩ f (a.fo (.cons 7 0 ⟨#[]⟩ f1 x .nil))) (whC A X) (La+Lx+2) where
 ln:=quI ha.ln hx.ln
 pos:=by omega
 one:=fun e0 e1 e2 c hc hl=>by
  have hpa:=ha.pos
  obtain⟨c1,h1⟩ : ∃ c1,c1=c++A c.length:=⟨_,rfl⟩
  have l1:c1.length=c.length+La:=by rw[h1,Wc,ha.ln]
  have n1:c1≠[]:=fun e=>by rw[e] at l1; simp only[Wl] at l1; omega
  have z1:Z qad (.call 165 [.ptr 0 0,.dat (.agg [.lit (.int .i64 4),.lit (.int .i64 0),.lit (.string ⟨#[]⟩),.sl [.lit (.int .i64 a.kind),.lit (.int .i64 a.num),.lit (.string a.str),a.kids,.lit (.int .i64 7),.lit (.int .i64 0),.lit (.string ⟨#[]⟩),kd f1 x.len x.cells] 2 f]),.int 0] (qcs vs e0 e1 e2 c))=_:=qf3 (f:=f) (N:=2) (i:=0) (e0:=e0) (e1:=e1) (e2:=e2) ha.toTrB rfl (by omega) c hc (by omega)
  rw[<- h1] at z1
  have z2:=qoB (vs:=vs) (e0:=e0) (e1:=e1) (e2:=e2) c1 (by omega) 19
  obtain⟨c2,h2⟩ : ∃ c2,c2=c1++[((19:Int),(0:Int))]:=⟨_,rfl⟩
  have l2:c2.length=c1.length+1:=by rw[h2]; simp
  rw[<- h2] at z2
  have z3:Z qad (.call 165 [.ptr 0 0,.dat (.agg [.lit (.int .i64 4),.lit (.int .i64 0),.lit (.string ⟨#[]⟩),.sl [.lit (.int .i64 a.kind),.lit (.int .i64 a.num),.lit (.string a.str),a.kids,.lit (.int .i64 7),.lit (.int .i64 0),.lit (.string ⟨#[]⟩),kd f1 x.len x.cells] 2 f]),.int 1] (qcs vs e0 e1 e2 c2))=_:=qf3 (f:=f) (N:=2) (i:=1) (e0:=e0) (e1:=e1) (e2:=e2) hx rfl (by omega) c2 (by rw[h2]; simp) (by omega)
  obtain⟨c3,h3⟩ : ∃ c3,c3=c2++X c2.length:=⟨_,rfl⟩
  have l3:c3.length=c2.length+Lx:=by rw[h3,Wc,hx.ln]
  rw[<- h3] at z3
  have z4:=qb1 (vs:=vs) (e0:=e0) (e1:=e1) (e2:=e2) c3 (by omega) 18 c.length
  obtain⟨c4,h4⟩ : ∃ c4,c4=c3++[((18:Int),(c.length:Int))]:=⟨_,rfl⟩
  have l4:c4.length=c3.length+1:=by rw[h4]; simp
  rw[<- h4] at z4
  have f4:c4=c1++(19,0)::(X c2.length++[((18:Int),(c.length:Int))]):=by rw[h4,h3,h2]; simp
  have z5:=qd1 (vs:=vs) (e0:=e0) (e1:=e1) (e2:=e2) c1 (X c2.length++[((18:Int),(c.length:Int))]) 19 0 (by rw[<- f4]; omega)
  rw[<- f4] at z5
  have f5:c1++(19,(c4.length:Int))::(X c2.length++[((18:Int),(c.length:Int))])=c++whC A X c.length:=by
   have:=qxL A X c
   rw[<- h1,<- h2,<- h3,<- h4] at this
   exact this
  have l5:c4.length=(c++whC A X c.length).length:=by rw[<- f5,f4]; simp
  rw[f5] at z5
  generalize c++whC A X c.length=c5 at *
  rw[l5] at z5
  have zl:Z qad (.call 191 [.ptr 0 0,.dat (.agg [.lit (.int .i64 4),.lit (.int .i64 0),.lit (.string ⟨#[]⟩),.sl [.lit (.int .i64 a.kind),.lit (.int .i64 a.num),.lit (.string a.str),a.kids,.lit (.int .i64 7),.lit (.int .i64 0),.lit (.string ⟨#[]⟩),kd f1 x.len x.cells] 2 f])] (qcs vs e0 e1 e2 c))=some (.ret (.tup []) (qcs vs e0 e1 e2 c5)):=by
   refine qaa (pf:=F191) rfl rfl ?_
   simp[F191,qcM,z1,z2,z3,z4,z5,l5,V.isNilIf,Wa]
  have zs:Z qad (.call 169 [.ptr 0 0,.dat (.agg [.lit (.int .i64 4),.lit (.int .i64 0),.lit (.string ⟨#[]⟩),.sl [.lit (.int .i64 a.kind),.lit (.int .i64 a.num),.lit (.string a.str),a.kids,.lit (.int .i64 7),.lit (.int .i64 0),.lit (.string ⟨#[]⟩),kd f1 x.len x.cells] 2 f])] (qcs vs e0 e1 e2 c))=some (.ret (.tup []) (qcs vs e0 e1 e2 c5)):=by
   refine qaa (pf:=F169) rfl rfl ?_
   simp[F169,zl,Wa]
  refine qaa (pf:=F147) rfl rfl ?_
  simp[F147,zs,Wa]
 zero:=fun e0 e1 e2 hl=>by
  obtain⟨c,hcn⟩ : ∃ c:Cd,c=[]:=⟨_,rfl⟩
  have lc:c.length=0:=by rw[hcn]; rfl
  have hpa:=ha.pos
  obtain⟨c1,h1⟩ : ∃ c1,c1=c++A c.length:=⟨_,rfl⟩
  have l1:c1.length=c.length+La:=by rw[h1,Wc,ha.ln]
  have n1:c1≠[]:=fun e=>by rw[e] at l1; simp only[Wl] at l1; omega
  have z1:Z qad (.call 165 [.ptr 0 0,.dat (.agg [.lit (.int .i64 4),.lit (.int .i64 0),.lit (.string ⟨#[]⟩),.sl [.lit (.int .i64 a.kind),.lit (.int .i64 a.num),.lit (.string a.str),a.kids,.lit (.int .i64 7),.lit (.int .i64 0),.lit (.string ⟨#[]⟩),kd f1 x.len x.cells] 2 f]),.int 0] (qd3 vs e0 e1 e2))=_:=qns (f:=f) (N:=2) (i:=0) (e0:=e0) (e1:=e1) (e2:=e2) ha rfl (by omega) (by omega)
  rw[show A 0=c1 by rw[h1,hcn]; rfl] at z1
  have z2:=qoB (vs:=vs) (e0:=e0) (e1:=e1) (e2:=e2) c1 (by omega) 19
  obtain⟨c2,h2⟩ : ∃ c2,c2=c1++[((19:Int),(0:Int))]:=⟨_,rfl⟩
  have l2:c2.length=c1.length+1:=by rw[h2]; simp
  rw[<- h2] at z2
  have z3:Z qad (.call 165 [.ptr 0 0,.dat (.agg [.lit (.int .i64 4),.lit (.int .i64 0),.lit (.string ⟨#[]⟩),.sl [.lit (.int .i64 a.kind),.lit (.int .i64 a.num),.lit (.string a.str),a.kids,.lit (.int .i64 7),.lit (.int .i64 0),.lit (.string ⟨#[]⟩),kd f1 x.len x.cells] 2 f]),.int 1] (qcs vs e0 e1 e2 c2))=_:=qf3 (f:=f) (N:=2) (i:=1) (e0:=e0) (e1:=e1) (e2:=e2) hx rfl (by omega) c2 (by rw[h2]; simp) (by omega)
  obtain⟨c3,h3⟩ : ∃ c3,c3=c2++X c2.length:=⟨_,rfl⟩
  have l3:c3.length=c2.length+Lx:=by rw[h3,Wc,hx.ln]
  rw[<- h3] at z3
  have z4:=qb1 (vs:=vs) (e0:=e0) (e1:=e1) (e2:=e2) c3 (by omega) 18 c.length
  obtain⟨c4,h4⟩ : ∃ c4,c4=c3++[((18:Int),(c.length:Int))]:=⟨_,rfl⟩
  have l4:c4.length=c3.length+1:=by rw[h4]; simp
  rw[<- h4] at z4
  have f4:c4=c1++(19,0)::(X c2.length++[((18:Int),(c.length:Int))]):=by rw[h4,h3,h2]; simp
  have z5:=qd1 (vs:=vs) (e0:=e0) (e1:=e1) (e2:=e2) c1 (X c2.length++[((18:Int),(c.length:Int))]) 19 0 (by rw[<- f4]; omega)
  rw[<- f4] at z5
  have f5:c1++(19,(c4.length:Int))::(X c2.length++[((18:Int),(c.length:Int))])=c++whC A X c.length:=by
   have:=qxL A X c
   rw[<- h1,<- h2,<- h3,<- h4] at this
   exact this
  have l5:c4.length=(c++whC A X c.length).length:=by rw[<- f5,f4]; simp
  rw[f5] at z5
  rw[show whC A X 0=c++whC A X c.length by rw[hcn]; rfl]
  rw[lc,show ((0:Nat):Int)=0 from rfl] at z4
  generalize c++whC A X c.length=c5 at *
  rw[l5] at z5
  have zl:Z qad (.call 191 [.ptr 0 0,.dat (.agg [.lit (.int .i64 4),.lit (.int .i64 0),.lit (.string ⟨#[]⟩),.sl [.lit (.int .i64 a.kind),.lit (.int .i64 a.num),.lit (.string a.str),a.kids,.lit (.int .i64 7),.lit (.int .i64 0),.lit (.string ⟨#[]⟩),kd f1 x.len x.cells] 2 f])] (qd3 vs e0 e1 e2))=some (.ret (.tup []) (qhx vs e0 e1 e2 c5)):=by
   refine qaa (pf:=F191) rfl rfl ?_
   simp[F191,qcM,z1,z2,z3,z4,z5,qdi,l5,V.isNilIf,Wa]
  have zs:Z qad (.call 169 [.ptr 0 0,.dat (.agg [.lit (.int .i64 4),.lit (.int .i64 0),.lit (.string ⟨#[]⟩),.sl [.lit (.int .i64 a.kind),.lit (.int .i64 a.num),.lit (.string a.str),a.kids,.lit (.int .i64 7),.lit (.int .i64 0),.lit (.string ⟨#[]⟩),kd f1 x.len x.cells] 2 f])] (qd3 vs e0 e1 e2))=some (.ret (.tup []) (qhx vs e0 e1 e2 c5)):=by
   refine qaa (pf:=F169) rfl rfl ?_
   simp[F169,zl,Wa]
  refine qaa (pf:=F147) rfl rfl ?_
  simp[F147,zs,Wa]
end
end
section
open F Gr
set_option maxHeartbeats 2000000
attribute [local simp] qa7 qbB dkey qfR
inductive RowT(vs:List ByteArray):List D->List (Int->Cd)->Nat->Prop
 |nil:RowT vs [] [] 0
 |cons {a b c d:D} {C:Int->Cd} {L:Nat} {r:List D} {Cs:List (Int->Cd)} {M:Nat} (h:TrOK vs (.dat (.agg [a,b,c,d])) C L) (hr:RowT vs r Cs M):RowT vs (a::b::c::d::r) (C::Cs) (L+M)
theorem qvM{vs:List ByteArray}{r:List D}{Cs:List (Int->Cd)}{M:Nat}(h:RowT vs r Cs M):Ln (seqC Cs) M:=by
 induction h with
 |nil=>exact fun _=>rfl
 |cons h _ ih=>exact fun p=>by simp[seqC,h.ln p,ih _]
section
variable{vs:List ByteArray}{e0 e1 e2:Int}{f:Bool}{N:Nat}{cs:List D}
abbrev bl1(vs:List ByteArray)(e0 e1 e2:Int)(f:Bool)(N:Nat)(cs:List D)(c:Cd):S:=[cob e0 e1 e2 1 c.length 2,.vec (icV c),mpo vs,.cells [.ptr 0 0],.cells [.int 7,.int 0,.str ⟨#[]⟩,.dat (kd f N cs)]]
abbrev bl0(vs:List ByteArray)(e0 e1 e2:Int)(f:Bool)(N:Nat)(cs:List D):S:=[qnR e0 e1 e2 1,mpo vs,.cells [.ptr 0 0],.cells [.int 7,.int 0,.str ⟨#[]⟩,.dat (kd f N cs)]]
abbrev bl2(vs:List ByteArray)(e0 e1 e2:Int)(f:Bool)(N:Nat)(cs:List D)(c:Cd):S:=[cob e0 e1 e2 4 c.length 1,mpo vs,.cells [.ptr 0 0],.cells [.int 7,.int 0,.str ⟨#[]⟩,.dat (kd f N cs)],.vec (icV c)]
abbrev blF(p q N:Nat)(i:Nat):Fr:=[(2,.ptr p 0),(3,.ptr q 0),(64,.int N),(65,.int i)]
theorem qvN(c:Cd):Z qad (.loop 3 F169l0 (blF 3 4 N N) (bl1 vs e0 e1 e2 f N cs c))=some (.out (.exit 1) (blF 3 4 N N++[(66,.bool false)]) (bl1 vs e0 e1 e2 f N cs c)):=by
 rw[qab]
 simp[qac,qdt,Wa]
theorem qvO:Z qad (.loop 2 F169l0 (blF 2 3 N N) (bl0 vs e0 e1 e2 f N cs))=some (.out (.exit 1) (blF 2 3 N N++[(66,.bool false)]) (bl0 vs e0 e1 e2 f N cs)):=by
 rw[qab]
 simp[qac,qdt,Wa]
theorem qvP(c:Cd):Z qad (.loop 2 F169l0 (blF 2 3 N N) (bl2 vs e0 e1 e2 f N cs c))=some (.out (.exit 1) (blF 2 3 N N++[(66,.bool false)]) (bl2 vs e0 e1 e2 f N cs c)):=by
 rw[qab]
 simp[qac,qdt,Wa]
variable{i:Nat}{a b c1 d:D}{r:List D}{C:Int->Cd}{L:Nat}
theorem qsp (hi:i<N) (hN:N<2^40) (hd:cs.drop (i*4)=a::b::c1::d::r) (h:TrOK vs (.dat (.agg [a,b,c1,d])) C L) (c:Cd) (hc:c≠[]) (hl:c.length+4*L<2^30) :
  Z qad (.loop 3 F169l0 (blF 3 4 N i) (bl1 vs e0 e1 e2 f N cs c))=Z qad (.loop 3 F169l0 (blF 3 4 N (i+1)) (bl1 vs e0 e1 e2 f N cs (c++C c.length))):=by
 have w1:=qah ((i:Int)+1) (by omega)
 have hi':(i:Int)<N:=by omega
 have z:=qf3 (e0:=e0) (e1:=e1) (e2:=e2) (k:=7) (n:=0) (s:=⟨#[]⟩) (f:=f) h.toTrB hd hi c hc hl
 generalize c++C c.length=c2 at *
 conv=>lhs; rw[qab]
 simp[qac,qdt,hi',z,w1,bl0,bl1,bl2,blF,Wa]
theorem qsq (hi:i<N) (hN:N<2^40) (hd:cs.drop (i*4)=a::b::c1::d::r) (h:TrOK vs (.dat (.agg [a,b,c1,d])) C L) (hl:4*L<2^30) :
  Z qad (.loop 2 F169l0 (blF 2 3 N i) (bl0 vs e0 e1 e2 f N cs))=Z qad (.loop 2 F169l0 (blF 2 3 N (i+1)) (bl2 vs e0 e1 e2 f N cs (C 0))):=by
 have w1:=qah ((i:Int)+1) (by omega)
 have hi':(i:Int)<N:=by omega
 have z:=qns (e0:=e0) (e1:=e1) (e2:=e2) (k:=7) (n:=0) (s:=⟨#[]⟩) (f:=f) h hd hi hl
 generalize C 0=c2 at *
 conv=>lhs; rw[qab]
 simp[qac,qdt,hi',z,w1,bl0,bl1,bl2,blF,Wa]
theorem qsr (hi:i<N) (hN:N<2^40) (hd:cs.drop (i*4)=a::b::c1::d::r) (h:TrOK vs (.dat (.agg [a,b,c1,d])) C L) (c:Cd) (hc:c≠[]) (hl:c.length+4*L<2^30) :
  Z qad (.loop 2 F169l0 (blF 2 3 N i) (bl2 vs e0 e1 e2 f N cs c))=Z qad (.loop 2 F169l0 (blF 2 3 N (i+1)) (bl2 vs e0 e1 e2 f N cs (c++C c.length))):=by
 have w1:=qah ((i:Int)+1) (by omega)
 have hi':(i:Int)<N:=by omega
 have z:=qf3 (e0:=e0) (e1:=e1) (e2:=e2) (k:=7) (n:=0) (s:=⟨#[]⟩) (f:=f) h.toTrB hd hi c hc hl
 generalize c++C c.length=c2 at *
 conv=>lhs; rw[qab]
 simp[qac,qdt,hi',z,w1,bl0,bl1,bl2,blF,Wa]
theorem qlL(C:Int->Cd)(Cs:List (Int->Cd))(c:Cd):(c++C c.length)++seqC Cs (c++C c.length).length=c++seqC (C::Cs) c.length:=by
 simp only[seqC,Wt,Wc]
 rw[show ((c.length+(C c.length).length:Nat):Int)=c.length+(C c.length).length by omega]
theorem qnJ (hN:N<2^40) : ∀ {r:List D} {Cs:List (Int->Cd)} {M:Nat},RowT vs r Cs M -> ∀ (i:Nat),cs.drop (i*4)=r->i+Cs.length=N -> ∀ (c:Cd),c≠[]->c.length+4*M<2^30 ->
  Z qad (.loop 3 F169l0 (blF 3 4 N i) (bl1 vs e0 e1 e2 f N cs c))=some (.out (.exit 1) (blF 3 4 N N++[(66,.bool false)]) (bl1 vs e0 e1 e2 f N cs (c++seqC Cs c.length)))
 |_,_,_,.nil,i,hd,hn,c,hc,hl=>by
  simp only[Wl,Yx] at hn
  subst hn
  rw[show c++seqC [] c.length=c by simp[seqC]]
  exact qvN c
 |_,_,_,.cons (C:=C) (L:=L) (Cs:=Cs) (M:=M) h1 hr,i,hd,hn,c,hc,hl=>by
  simp only[We] at hn
  have hlen:(c++C c.length).length=c.length+L:=by rw[Wc,h1.ln]
  rw[qsp (by omega) hN hd h1 c hc (by omega),qnJ hN hr (i+1) (qcr hd) (by omega) _ (qiz hc) (by omega),qlL]
theorem qnK (hN:N<2^40) : ∀ {r:List D} {Cs:List (Int->Cd)} {M:Nat},RowT vs r Cs M -> ∀ (i:Nat),cs.drop (i*4)=r->i+Cs.length=N -> ∀ (c:Cd),c≠[]->c.length+4*M<2^30 ->
  Z qad (.loop 2 F169l0 (blF 2 3 N i) (bl2 vs e0 e1 e2 f N cs c))=some (.out (.exit 1) (blF 2 3 N N++[(66,.bool false)]) (bl2 vs e0 e1 e2 f N cs (c++seqC Cs c.length)))
 |_,_,_,.nil,i,hd,hn,c,hc,hl=>by
  simp only[Wl,Yx] at hn
  subst hn
  rw[show c++seqC [] c.length=c by simp[seqC]]
  exact qvP c
 |_,_,_,.cons (C:=C) (L:=L) (Cs:=Cs) (M:=M) h1 hr,i,hd,hn,c,hc,hl=>by
  simp only[We] at hn
  have hlen:(c++C c.length).length=c.length+L:=by rw[Wc,h1.ln]
  rw[qsr (by omega) hN hd h1 c hc (by omega),qnK hN hr (i+1) (qcr hd) (by omega) _ (qiz hc) (by omega),qlL]
end
section
variable{vs:List ByteArray}{cs:List D}{Cs:List (Int->Cd)}{M N:Nat}
theorem qss(h:RowT vs cs Cs M)(hN:Cs.length=N)(hN2:N<2^40)(f:Bool):TrB vs (.dat (.agg [.lit (.int .i64 7),.lit (.int .i64 0),.lit (.string ⟨#[]⟩),kd f N cs])) (seqC Cs) M where
 ln:=qvM h
 one:=fun e0 e1 e2 c hc hl=>by
  have z:=qnJ (e0:=e0) (e1:=e1) (e2:=e2) (f:=f) hN2 h 0 rfl (by omega) c hc hl
  rw[show blF 3 4 N 0=[(2,.ptr 3 0),(3,.ptr 4 0),(64,.int N),(65,.int 0)] from rfl] at z
  generalize c++seqC Cs c.length=c2 at *
  have zs:Z qad (.call 169 [.ptr 0 0,.dat (.agg [.lit (.int .i64 7),.lit (.int .i64 0),.lit (.string ⟨#[]⟩),kd f N cs])] (qcs vs e0 e1 e2 c))=some (.ret (.tup []) (qcs vs e0 e1 e2 c2)):=by
   refine qaa (pf:=F169) rfl rfl ?_
   simp[F169,z,Wa]
  refine qaa (pf:=F147) rfl rfl ?_
  simp[F147,zs,Wa]
theorem qz6 (h:RowT vs cs Cs M) (hN:Cs.length=N) (hN2:N<2^40) (f:Bool) (e0 e1 e2:Int) (hl:4*M<2^30):Z qad (.call 147 [.ptr 0 0,.dat (.agg [.lit (.int .i64 7),.lit (.int .i64 0),.lit (.string ⟨#[]⟩),kd f N cs])] (qd3 vs e0 e1 e2)) =
  some (.ret (.tup []) (if seqC Cs 0=[] then qd3 vs e0 e1 e2 else qhx vs e0 e1 e2 (seqC Cs 0))):=by
 cases h with
 |nil=>
  simp only[Wl] at hN
  subst hN
  rw[if_pos (show seqC ([]:List (Int->Cd)) 0=[] from rfl)]
  have z:=qvO (vs:=vs) (e0:=e0) (e1:=e1) (e2:=e2) (f:=f) (N:=0) (cs:=[])
  rw[show blF 2 3 0 0=[(2,.ptr 2 0),(3,.ptr 3 0),(64,.int 0),(65,.int 0)] from rfl] at z
  have zs:Z qad (.call 169 [.ptr 0 0,.dat (.agg [.lit (.int .i64 7),.lit (.int .i64 0),.lit (.string ⟨#[]⟩),kd f 0 []])] (qd3 vs e0 e1 e2))=some (.ret (.tup []) (qd3 vs e0 e1 e2)):=by
   simp only[bl0,qyG] at z
   refine qaa (pf:=F169) rfl rfl ?_
   simp[F169,z,qdi,Wa]
  refine qaa (pf:=F147) rfl rfl ?_
  simp only[qyG] at zs
  simp[F147,zs,Wa]
 | @cons a b c d C L r Cs M h1 hr=>
  simp only[We] at hN
  have hn1:C 0≠[]:=fun e=>by have:=h1.ln 0; have:=h1.pos; rw[e] at *; simp_all
  have hlen:(C 0).length=L:=h1.ln 0
  have z1:=qsq (N:=N) (e0:=e0) (e1:=e1) (e2:=e2) (f:=f) (i:=0) (r:=r) (cs:=a::b::c::d::r) (by omega) hN2 rfl h1 (by omega)
  have z2:=qnK (N:=N) (e0:=e0) (e1:=e1) (e2:=e2) (f:=f) (cs:=a::b::c::d::r) hN2 hr 1 rfl (by omega) (C 0) hn1 (by omega)
  have z:=z1.trans z2
  have e:C 0++seqC Cs (C 0).length=seqC (C::Cs) 0:=by simp[seqC]
  have hne:seqC (C::Cs) 0≠[]:=by rw[<- e]; simp[hn1]
  rw[e] at z
  rw[if_neg hne]
  rw[show blF 2 3 N 0=[(2,.ptr 2 0),(3,.ptr 3 0),(64,.int N),(65,.int 0)] from rfl] at z
  generalize seqC (C::Cs) 0=c2 at *
  have zs:Z qad (.call 169 [.ptr 0 0,.dat (.agg [.lit (.int .i64 7),.lit (.int .i64 0),.lit (.string ⟨#[]⟩),kd f N (a::b::c::d::r)])] (qd3 vs e0 e1 e2))=some (.ret (.tup []) (qhx vs e0 e1 e2 c2)):=by
   refine qaa (pf:=F169) rfl rfl ?_
   simp[F169,z,Wa]
  refine qaa (pf:=F147) rfl rfl ?_
  simp[F147,zs,Wa]
theorem qz7(b:Ss)(hf:b.fine)(hi:b.inV vs)(hb:b.fo.size<2^30) : ∃ M,RowT vs b.fo.cells (qep vs b) M/\(qep vs b).length=b.fo.len:=by
 fun_induction Ss.fine b with
 |case1=>exact⟨0,.nil,rfl⟩
 |case2 _ s e r ih=>
  simp only[Ss.fo,qap] at hb
  obtain⟨M,h,hl⟩:=ih hf.2 hi.2 (by omega)
  obtain⟨L,k⟩:=qoJ e hf.1.2.1 hi.1.2
  exact⟨_,.cons (qp8 _ hi.1.1 k) h,by simp[qep,Ss.fo,hl]⟩
 |case3 _ s a b r ih=>
  simp only[Ss.fo,qap] at hb
  obtain⟨M,h,hl⟩:=ih hf.2 hi.2 (by omega)
  obtain⟨L,k⟩:=qoJ a hf.1.2.1 hi.1.1
  obtain⟨L',k'⟩:=qoJ b hf.1.2.2.2.1 hi.1.2
  exact⟨_,.cons (qr1 _ (YA _ hf.1.1) k k') h,by simp[qep,Ss.fo,hl]⟩
 |case4 _ a b r ih=>
  simp only[Ss.fo,qap] at hb
  obtain⟨M,h,hl⟩:=ih hf.2 hi.2 (by omega)
  obtain⟨L,k⟩:=qoJ a hf.1.1 hi.1.1
  obtain⟨L',k'⟩:=qoJ b hf.1.2.2.1 hi.1.2
  exact⟨_,.cons (qp9 _ k k') h,by simp[qep,Ss.fo,hl]⟩
 |case5 r ih=>
  simp only[Ss.fo,qap] at hb
  obtain⟨M,h,hl⟩:=ih hf hi (by omega)
  exact⟨_,.cons (qvi false) h,by simp[qep,Ss.fo,hl]⟩
 |case6 _ c _ x _ y r ih1 ih2 ih3=>
  simp only[Ss.fo,qap,qcF] at hb
  obtain⟨Mx,hx,hlx⟩:=ih1 hf.2.1 hi.2.1.1 (by omega)
  obtain⟨My,hy,hly⟩:=ih2 hf.2.2.1 hi.2.1.2.1 (by omega)
  obtain⟨M,h,hl⟩:=ih3 hf.2.2.2 hi.2.2 (by omega)
  obtain⟨L,k⟩:=qoJ c hf.1.1 hi.1
  have sx:=qdL x.fo
  have sy:=qdL y.fo
  have bx:=qss hx hlx (by omega)
  have by_:=qss hy hly (by omega)
  rw[show seqC (qep vs x)=codeS vs x from funext (qhV x)] at bx
  rw[show seqC (qep vs y)=codeS vs y from funext (qhV y)] at by_
  exact⟨_,.cons (qzR _ _ _ k (bx _) (by_ _)) h,by simp[qep,Ss.fo,hl]⟩
 |case7 _ c _ x r ih1 ih2=>
  simp only[Ss.fo,qap,qcF] at hb
  obtain⟨Mx,hx,hlx⟩:=ih1 hf.2.1 hi.2.1.1 (by omega)
  obtain⟨M,h,hl⟩:=ih2 hf.2.2 hi.2.2 (by omega)
  obtain⟨L,k⟩:=qoJ c hf.1.1 hi.1
  have sx:=qdL x.fo
  have bx:=qss hx hlx (by omega)
  rw[show seqC (qep vs x)=codeS vs x from funext (qhV x)] at bx
  exact⟨_,.cons (qr2 _ _ k (bx _)) h,by simp[qep,Ss.fo,hl]⟩
 |case8=>exact hf.elim
end
end
section
open F Gr
set_option maxHeartbeats 1000000
def DepIs(c:Cd)(e m:Int):Prop:=(e<0->m=0)/\(0<=e -> ∀ D,CF c e.toNat D->Most c e.toNat D m)
theorem DepIs.unique{c:Cd}{e m m':Int}{D:Nat->Int}(hD:0<=e->CF c e.toNat D)(h:DepIs c e m)(h':DepIs c e m'):m=m':=by
 by_cases h0:e<0
 ·rw[h.1 h0,h'.1 h0]
 ·have:=hD (by omega)
  exact Most.unique (h.2 (by omega) D this) (h'.2 (by omega) D this)
inductive PSt(e0 e1 e2:Int):S->D->Cd->Prop
 |nil:PSt e0 e1 e2 [zP,.cells [.dat (.lit (.slice none 0 0)),.int e0,.int e1,.int e2]] (.lit (.slice none 0 0)) []
 |gr (c:Cd) (h:c≠[]):PSt e0 e1 e2 [zP,.cells [.gsl (icC c) c.length 2 2,.int e0,.int e1,.int e2],.tip (icC c).length] (.sl (icC c) c.length false) c
theorem PSt.code{e0 e1 e2:Int}{σ : S}{d:D}{c:Cd}(h:PSt e0 e1 e2 σ d c):IsCode d c:=by
 cases h with
 |nil=>exact qjt
 |gr=>exact qiw _ false
end
section
open F Gr
set_option maxHeartbeats 1000000
def codeD:Cd->D
 |[] => .lit (.slice none 0 0)
 |x::c => .sl (icC (x::c)) (x::c).length false
theorem qeF(c:Cd):IsCode (codeD c) c:=by
 cases c with
 |nil=>exact qjt
 |cons x c=>exact qiw _ false
theorem qnI{c:Cd}(h:c≠[]):codeD c = .sl (icC c) c.length false:=by
 cases c with
 |nil=>exact absurd rfl h
 |cons x c=>rfl
def qoE(c:Cd)(e0 e1 e2 m0 m1 m2:Int):V:=
 if 400<c.length then .tup [pgD (.lit (.slice none 0 0)) 0 0 0,.int 2]
 else if 16<m0\/16<m1\/16<m2 then .tup [pgD (.lit (.slice none 0 0)) 0 0 0,.int 15]
 else .tup [pgD (codeD c) e0 e1 e2,.int 0]
section
variable{a b c:Hd}
theorem qlK{vs:List ByteArray}(fa:a.fine)(fb:b.fine)(fc:c.fine):(qdZ vs a b c).length<=30000:=by
 have key : ∀ h:Hd,h.fine -> ∃ L,L<=8001/\Ln (hdC vs h) L:=fun h f=>by
  cases h with
  |none=>exact⟨0,by omega,fun _=>rfl⟩
  |some g x=>
   obtain⟨n,hn,hn2⟩:=qzI vs x
   have:=f.size
   simp only[Hd.ss] at this
   exact⟨n+1,by omega,qcj hn⟩
 obtain⟨la,ka,na⟩:=key a fa
 obtain⟨lb,kb,nb⟩:=key b fb
 obtain⟨lc,kc,nc⟩:=key c fc
 have:=qbJ na (qbJ nb nc) 0
 unfold qdZ
 omega
theorem qvH(h:Hd)(f:h.fine):h.nd.ks.size<=2000:=by
 have:=f.size
 rw[qqq,qr5]; exact this
end
end
section
open F Gr
set_option maxHeartbeats 2000000
attribute [local simp] qa7 qbB dkey qfR
theorem qpK {vs:List ByteArray} (b:Ss) (hf:b.fine) (hi:b.inV vs) (hb:b.fo.size<2^30) (f:Bool) : ∃ L,L<=4*b.fo.size/\TrB vs (nd 7 0 ⟨#[]⟩ f b.fo) (codeS vs b) L /\
  ∀ e0 e1 e2:Int,4*L<2^30->Z qad (.call 147 [.ptr 0 0,nd 7 0 ⟨#[]⟩ f b.fo] (qd3 vs e0 e1 e2))=some (.ret (.tup []) (if codeS vs b 0=[] then qd3 vs e0 e1 e2 else qhx vs e0 e1 e2 (codeS vs b 0))):=by
 obtain⟨M,h,hl⟩:=qz7 b hf hi hb
 have sb:=qdL b.fo
 have k:=qss h hl (by omega) f
 have k0:=fun e0 e1 e2=>qz6 h hl (by omega) f e0 e1 e2
 rw[show seqC (qep vs b)=codeS vs b from funext (qhV b)] at k k0
 obtain⟨n,hn,hn2⟩:=qzI vs b
 have e:M=n:=by rw[<- k.ln 0,hn 0]
 exact⟨M,by omega,k,k0⟩
abbrev yFr(vs:List ByteArray)(i:Nat):Fr:=[(1,.ptr 0 0),(2,.ptr 1 0),(4,.ptr 2 0),(17,.dat (qnz vs)),(18,.int vs.length),(19,.int i)]
abbrev ySt(R:Ob)(l:List ByteArray):S:=[R,zP,qnR 0 0 0 3,.map (mapM 0 l)]
theorem qzC(x y z:Nd)(vs l:List ByteArray):Z qad (.loop 0 F131l0 (yFr vs vs.length) (ySt (qkG x y z) l))=some (.out (.exit 0) (yFr vs vs.length++[(20,.bool false)]) (ySt (qkG x y z) l)):=by
 rw[qab]
 simp[qac,qi6,Wa]
theorem qxn(x y z:Nd){vs:List ByteArray}(hv:vs.length<2^40)(hn:vs.Nodup)(i:Nat)(hi:i<vs.length):Z qad (.loop 0 F131l0 (yFr vs i) (ySt (qkG x y z) (vs.take i)))=Z qad (.loop 0 F131l0 (yFr vs (i+1)) (ySt (qkG x y z) (vs.take (i+1)))):=by
 have hc:=qgH vs i hi
 have ha:=qvL vs i hi
 have w1:=qah ((i:Int)+1) (by omega)
 have hi':(i:Int)<vs.length:=by omega
 have hnm:vs[i]∉vs.take i:=by
  have h2:=hn
  rw[<- List.take_append_drop i vs,WK hi] at h2
  rw[List.nodup_append] at h2
  exact fun hm=>h2.2.2 _ hm _ (WT ..) rfl
 have hs:=qkl vs[i] (vs.take i) 0 hnm
 rw[show ((0+(vs.take i).length:Nat))=i by simp; omega,show vs.take i++[vs[i]]=vs.take (i+1) by rw[Yp hi]] at hs
 conv=>lhs; rw[qab]
 simp[qac,qi6,hi',hc,ha,hs,w1,qeK,yFr,ySt,qkG,zP,Nd.d,Wa]
theorem qsS(x y z:Nd){vs:List ByteArray}(hv:vs.length<2^40)(hn:vs.Nodup) : ∀ (n i:Nat),i+n=vs.length->Z qad (.loop 0 F131l0 (yFr vs i) (ySt (qkG x y z) (vs.take i)))=some (.out (.exit 0) (yFr vs vs.length++[(20,.bool false)]) (ySt (qkG x y z) vs))
 |0,i,h=>by
  obtain rfl:i=vs.length:=by omega
  rw[List.take_length]
  exact qzC x y z vs vs
 |n+1,i,h=>by
  rw[qxn x y z hv hn i (by omega)]
  exact qsS x y z hv hn n (i+1) (by omega)
abbrev jFr(R:D)(i:Int):Fr:=[(2,.ptr 0 0),(4,.ptr 1 0),(33,.dat R),(34,.int i)]
inductive HSt(vs:List ByteArray)(e0 e1 e2:Int):S->Cd->Prop
 |nil:HSt vs e0 e1 e2 [zP,qnR e0 e1 e2 2,mpo vs] []
 |gr (c:Cd) (h:c≠[]):HSt vs e0 e1 e2 [zP,cob e0 e1 e2 2 c.length 3,.vec (icV c),mpo vs] c
section
variable{vs:List ByteArray}{e0 e1 e2:Int}{σ : S}{c:Cd}{u v w:Nd}
theorem qzD{R:D}(h:HSt vs e0 e1 e2 σ c):Z qad (.loop 0 F131l1 (jFr R 3) σ)=some (.out (.exit 2) (jFr R 3++[(35,.bool false)]) σ):=by
 rw[qab]
 cases h<;>simp[qac,qaZ,Wa]
theorem qux(h:HSt vs e0 e1 e2 σ c) : ∃ σ',HSt vs (-1) e1 e2 σ' c/\Z qad (.loop 0 F131l1 (jFr (ru Hd.none.nd v w) 0) σ)=Z qad (.loop 0 F131l1 (jFr (ru Hd.none.nd v w) 1) σ'):=by
 have w1:=qah 1 (by omega)
 cases h with
 |nil=>
  refine⟨_,.nil,?_⟩
  conv=>lhs; rw[qab]
  simp[qac,qaZ,w1,Hd.k,Nd.d,jFr,ru,Wa]
  exact qai (by simp[Wa])
 |gr _ g=>
  refine⟨_,.gr _ g,?_⟩
  conv=>lhs; rw[qab]
  simp[qac,qaZ,w1,Hd.k,Nd.d,jFr,ru,Wa]
  exact qai (by simp[Wa])
theorem quy {f:Bool} {b:Ss} (h:HSt vs e0 e1 e2 σ c) {L:Nat} (hb:TrB vs (nd 7 0 ⟨#[]⟩ f b.fo) (codeS vs b) L) (h0 : ∀ e0 e1 e2:Int,4*L<2^30->Z qad (.call 147 [.ptr 0 0,nd 7 0 ⟨#[]⟩ f b.fo] (qd3 vs e0 e1 e2))=some (.ret (.tup []) (if codeS vs b 0=[] then qd3 vs e0 e1 e2 else qhx vs e0 e1 e2 (codeS vs b 0))))
  (hl:c.length+4*L+10<2^30) : ∃ σ',HSt vs c.length e1 e2 σ' (c++snC (codeS vs b) (21,0) c.length)/\Z qad (.loop 0 F131l1 (jFr (ru (Hd.some f b).nd v w) 0) σ)=Z qad (.loop 0 F131l1 (jFr (ru (Hd.some f b).nd v w) 1) σ'):=by
 have w1:=qah 1 (by omega)
 have lc:=hb.ln c.length
 have hx:c++snC (codeS vs b) (21,0) c.length=(c++codeS vs b c.length)++[((21:Int),(0:Int))]:=by simp[snC]
 refine⟨_,.gr _ (by rw[hx]; simp),?_⟩
 rw[hx]
 cases h with
 |nil=>
  rw[show (([]:Cd).length:Int)=0 from rfl] at *
  rw[Wf]
  by_cases hz:codeS vs b 0=[]
  ·have z1:=h0 0 e1 e2 (by omega)
   rw[if_pos hz] at z1
   have z2:=qkV (vs:=vs) (e0:=0) (e1:=e1) (e2:=e2) 21 0
   rw[hz,Wf]
   generalize [((21:Int),(0:Int))]=c5 at *
   conv=>lhs; rw[qab]
   simp[qac,qaZ,qdi,w1,Hd.k,Hd.f,Hd.ks,Nd.d,jFr,ru,z1,z2,qbH,qaz,Wa]
   exact qai (by simp[Wa])
  ·have z1:=h0 0 e1 e2 (by omega)
   rw[if_neg hz] at z1
   have z2:=qb1 (vs:=vs) (e0:=0) (e1:=e1) (e2:=e2) (codeS vs b 0) (by omega) 21 0
   generalize codeS vs b 0++[((21:Int),(0:Int))]=c5 at *
   generalize codeS vs b 0=c4 at *
   conv=>lhs; rw[qab]
   simp[qac,qaZ,qdi,w1,Hd.k,Hd.f,Hd.ks,Nd.d,jFr,ru,z1,z2,qbH,qaz,Wa]
   try exact qai (by simp[Wa])
 |gr _ g=>
  have z1:=hb.one c.length e1 e2 c g (by omega)
  have z2:=qb1 (vs:=vs) (e0:=c.length) (e1:=e1) (e2:=e2) (c++codeS vs b c.length) (by rw[Wc]; omega) 21 0
  generalize c++codeS vs b c.length++[((21:Int),(0:Int))]=c5 at *
  generalize c++codeS vs b c.length=c4 at *
  conv=>lhs; rw[qab]
  simp[qac,qaZ,qcM,w1,Hd.k,Hd.f,Hd.ks,Nd.d,jFr,ru,z1,z2,qbH,qaz,Wa]
  try exact qai (by simp[Wa])
theorem quz(h:HSt vs e0 e1 e2 σ c) : ∃ σ',HSt vs e0 (-1) e2 σ' c/\Z qad (.loop 0 F131l1 (jFr (ru u Hd.none.nd w) 1) σ)=Z qad (.loop 0 F131l1 (jFr (ru u Hd.none.nd w) 2) σ'):=by
 have w1:=qah 2 (by omega)
 cases h with
 |nil=>
  refine⟨_,.nil,?_⟩
  conv=>lhs; rw[qab]
  simp[qac,qaZ,w1,Hd.k,Nd.d,jFr,ru,Wa]
  exact qai (by simp[Wa])
 |gr _ g=>
  refine⟨_,.gr _ g,?_⟩
  conv=>lhs; rw[qab]
  simp[qac,qaZ,w1,Hd.k,Nd.d,jFr,ru,Wa]
  exact qai (by simp[Wa])
theorem quA {f:Bool} {b:Ss} (h:HSt vs e0 e1 e2 σ c) {L:Nat} (hb:TrB vs (nd 7 0 ⟨#[]⟩ f b.fo) (codeS vs b) L) (h0 : ∀ e0 e1 e2:Int,4*L<2^30->Z qad (.call 147 [.ptr 0 0,nd 7 0 ⟨#[]⟩ f b.fo] (qd3 vs e0 e1 e2))=some (.ret (.tup []) (if codeS vs b 0=[] then qd3 vs e0 e1 e2 else qhx vs e0 e1 e2 (codeS vs b 0))))
  (hl:c.length+4*L+10<2^30) : ∃ σ',HSt vs e0 c.length e2 σ' (c++snC (codeS vs b) (21,0) c.length)/\Z qad (.loop 0 F131l1 (jFr (ru u (Hd.some f b).nd w) 1) σ)=Z qad (.loop 0 F131l1 (jFr (ru u (Hd.some f b).nd w) 2) σ'):=by
 have w1:=qah 2 (by omega)
 have lc:=hb.ln c.length
 have hx:c++snC (codeS vs b) (21,0) c.length=(c++codeS vs b c.length)++[((21:Int),(0:Int))]:=by simp[snC]
 refine⟨_,.gr _ (by rw[hx]; simp),?_⟩
 rw[hx]
 cases h with
 |nil=>
  rw[show (([]:Cd).length:Int)=0 from rfl] at *
  rw[Wf]
  by_cases hz:codeS vs b 0=[]
  ·have z1:=h0 e0 0 e2 (by omega)
   rw[if_pos hz] at z1
   have z2:=qkV (vs:=vs) (e0:=e0) (e1:=0) (e2:=e2) 21 0
   rw[hz,Wf]
   generalize [((21:Int),(0:Int))]=c5 at *
   conv=>lhs; rw[qab]
   simp[qac,qaZ,qdi,w1,Hd.k,Hd.f,Hd.ks,Nd.d,jFr,ru,z1,z2,qbH,qaz,Wa]
   exact qai (by simp[Wa])
  ·have z1:=h0 e0 0 e2 (by omega)
   rw[if_neg hz] at z1
   have z2:=qb1 (vs:=vs) (e0:=e0) (e1:=0) (e2:=e2) (codeS vs b 0) (by omega) 21 0
   generalize codeS vs b 0++[((21:Int),(0:Int))]=c5 at *
   generalize codeS vs b 0=c4 at *
   conv=>lhs; rw[qab]
   simp[qac,qaZ,qdi,w1,Hd.k,Hd.f,Hd.ks,Nd.d,jFr,ru,z1,z2,qbH,qaz,Wa]
   try exact qai (by simp[Wa])
 |gr _ g=>
  have z1:=hb.one e0 c.length e2 c g (by omega)
  have z2:=qb1 (vs:=vs) (e0:=e0) (e1:=c.length) (e2:=e2) (c++codeS vs b c.length) (by rw[Wc]; omega) 21 0
  generalize c++codeS vs b c.length++[((21:Int),(0:Int))]=c5 at *
  generalize c++codeS vs b c.length=c4 at *
  conv=>lhs; rw[qab]
  simp[qac,qaZ,qcM,w1,Hd.k,Hd.f,Hd.ks,Nd.d,jFr,ru,z1,z2,qbH,qaz,Wa]
  try exact qai (by simp[Wa])
theorem quB(h:HSt vs e0 e1 e2 σ c) : ∃ σ',HSt vs e0 e1 (-1) σ' c/\Z qad (.loop 0 F131l1 (jFr (ru u v Hd.none.nd) 2) σ)=Z qad (.loop 0 F131l1 (jFr (ru u v Hd.none.nd) 3) σ'):=by
 have w1:=qah 3 (by omega)
 cases h with
 |nil=>
  refine⟨_,.nil,?_⟩
  conv=>lhs; rw[qab]
  simp[qac,qaZ,w1,Hd.k,Nd.d,jFr,ru,Wa]
  exact qai (by simp[Wa])
 |gr _ g=>
  refine⟨_,.gr _ g,?_⟩
  conv=>lhs; rw[qab]
  simp[qac,qaZ,w1,Hd.k,Nd.d,jFr,ru,Wa]
  exact qai (by simp[Wa])
theorem quC {f:Bool} {b:Ss} (h:HSt vs e0 e1 e2 σ c) {L:Nat} (hb:TrB vs (nd 7 0 ⟨#[]⟩ f b.fo) (codeS vs b) L) (h0 : ∀ e0 e1 e2:Int,4*L<2^30->Z qad (.call 147 [.ptr 0 0,nd 7 0 ⟨#[]⟩ f b.fo] (qd3 vs e0 e1 e2))=some (.ret (.tup []) (if codeS vs b 0=[] then qd3 vs e0 e1 e2 else qhx vs e0 e1 e2 (codeS vs b 0))))
  (hl:c.length+4*L+10<2^30) : ∃ σ',HSt vs e0 e1 c.length σ' (c++snC (codeS vs b) (21,0) c.length)/\Z qad (.loop 0 F131l1 (jFr (ru u v (Hd.some f b).nd) 2) σ)=Z qad (.loop 0 F131l1 (jFr (ru u v (Hd.some f b).nd) 3) σ'):=by
 have w1:=qah 3 (by omega)
 have lc:=hb.ln c.length
 have hx:c++snC (codeS vs b) (21,0) c.length=(c++codeS vs b c.length)++[((21:Int),(0:Int))]:=by simp[snC]
 refine⟨_,.gr _ (by rw[hx]; simp),?_⟩
 rw[hx]
 cases h with
 |nil=>
  rw[show (([]:Cd).length:Int)=0 from rfl] at *
  rw[Wf]
  by_cases hz:codeS vs b 0=[]
  ·have z1:=h0 e0 e1 0 (by omega)
   rw[if_pos hz] at z1
   have z2:=qkV (vs:=vs) (e0:=e0) (e1:=e1) (e2:=0) 21 0
   rw[hz,Wf]
   generalize [((21:Int),(0:Int))]=c5 at *
   conv=>lhs; rw[qab]
   simp[qac,qaZ,qdi,w1,Hd.k,Hd.f,Hd.ks,Nd.d,jFr,ru,z1,z2,qbH,qaz,Wa]
   exact qai (by simp[Wa])
  ·have z1:=h0 e0 e1 0 (by omega)
   rw[if_neg hz] at z1
   have z2:=qb1 (vs:=vs) (e0:=e0) (e1:=e1) (e2:=0) (codeS vs b 0) (by omega) 21 0
   generalize codeS vs b 0++[((21:Int),(0:Int))]=c5 at *
   generalize codeS vs b 0=c4 at *
   conv=>lhs; rw[qab]
   simp[qac,qaZ,qdi,w1,Hd.k,Hd.f,Hd.ks,Nd.d,jFr,ru,z1,z2,qbH,qaz,Wa]
   try exact qai (by simp[Wa])
 |gr _ g=>
  have z1:=hb.one e0 e1 c.length c g (by omega)
  have z2:=qb1 (vs:=vs) (e0:=e0) (e1:=e1) (e2:=c.length) (c++codeS vs b c.length) (by rw[Wc]; omega) 21 0
  generalize c++codeS vs b c.length++[((21:Int),(0:Int))]=c5 at *
  generalize c++codeS vs b c.length=c4 at *
  conv=>lhs; rw[qab]
  simp[qac,qaZ,qcM,w1,Hd.k,Hd.f,Hd.ks,Nd.d,jFr,ru,z1,z2,qbH,qaz,Wa]
  try exact qai (by simp[Wa])
end
end
section
open F Gr
set_option maxHeartbeats 2000000
attribute [local simp] qa7 qbB dkey qfR
abbrev kFr(e0 e1 e2 i:Int):Fr:=[(2,.ptr 0 0),(9,.ptr 1 0),(86,.dat (.agg [.lit (.int .i64 e0),.lit (.int .i64 e1),.lit (.int .i64 e2)])),(87,.int i)]
inductive KSt(e0 e1 e2:Int):S->Cd->Prop
 |nil (h:e0<0/\e1<0/\e2<0):KSt e0 e1 e2 [zP,.cells [.dat (.lit (.slice none 0 0)),.int e0,.int e1,.int e2]] []
 |vec (c:Cd) (h:c≠[]):KSt e0 e1 e2 [zP,.cells [.own 2 c.length 2,.int e0,.int e1,.int e2],.vec (icV c)] c
 |froz (c:Cd) (h:c≠[]):KSt e0 e1 e2 [zP,.cells [.own 2 c.length 2,.int e0,.int e1,.int e2],.froz (icC c)] c
section
variable{e0 e1 e2:Int}{σ : S}{c:Cd}
theorem qzx(h:KSt e0 e1 e2 σ c):Z qad (.loop 0 F131l2 (kFr e0 e1 e2 3) σ)=some (.out (.exit 4) (kFr e0 e1 e2 3++[(88,.bool false)]) σ):=by
 rw[qab]
 cases h<;>simp[qac,qa0,Wa]
def qgX(c:Cd)(e0 e1 e2 e:Int)(sf:Bool):Prop := ∃ a:D,Z qad (.call 139 [pgD (.sl (icC c) c.length false) e0 e1 e2,.int e] [])=some (.ret (.dat a) [])/\Z qad (.call 140 [.dat a] [])=some (.ret (.bool sf) [])
theorem qxd(h:KSt e0 e1 e2 σ c)(hn:e0<0):Z qad (.loop 0 F131l2 (kFr e0 e1 e2 0) σ)=Z qad (.loop 0 F131l2 (kFr e0 e1 e2 1) σ):=by
 have w1:=qah 1 (by omega)
 have hn' : ¬ 0<=e0:=by omega
 conv=>lhs; rw[qab]
 cases h<;>simp[qac,qa0,w1,hn',cutCells,Wa]
theorem qxe(h:KSt e0 e1 e2 σ c)(hn:0<=e0){sf:Bool}(hs:qgX c e0 e1 e2 e0 sf) : ∃ σ',KSt e0 e1 e2 σ' c/\Z qad (.loop 0 F131l2 (kFr e0 e1 e2 0) σ)=if sf then Z qad (.loop 0 F131l2 (kFr e0 e1 e2 1) σ') else some (.out .ret [(2,.ptr 0 0),(3,.int 15)] σ'):=by
 have w1:=qah 1 (by omega)
 obtain⟨a,z1,z2⟩:=hs
 simp only[pgD] at z1
 have hl:=qfN c
 have hd:=qj1 c
 have hl2:=qfv c
 cases h with
 |nil h=>omega
 |vec _ g=>
  refine⟨_,.froz _ g,?_⟩
  rw[qab]
  cases sf
  ·simp[qac,qa0,w1,hn,z1,z2,hl,hd,cutCells,Wa]
  ·simp[qac,qa0,w1,hn,z1,z2,hl,hd,cutCells,Wa]
 |froz _ g=>
  refine⟨_,.froz _ g,?_⟩
  rw[qab]
  cases sf
  ·simp[qac,qa0,w1,hn,z1,z2,hl,hd,cutCells,Wa]
  ·simp[qac,qa0,w1,hn,z1,z2,hl,hd,cutCells,Wa]
theorem qup(h:KSt e0 e1 e2 σ c){sf:Bool}(hs:0<=e0->qgX c e0 e1 e2 e0 sf)(hs2:e0<0->sf=true) : ∃ σ',KSt e0 e1 e2 σ' c/\Z qad (.loop 0 F131l2 (kFr e0 e1 e2 0) σ)=if sf then Z qad (.loop 0 F131l2 (kFr e0 e1 e2 1) σ') else some (.out .ret [(2,.ptr 0 0),(3,.int 15)] σ'):=by
 by_cases hn:e0<0
 ·exact⟨σ,h,by rw[hs2 hn,qxd h hn]; rfl⟩
 ·exact qxe h (by omega) (hs (by omega))
theorem qxf(h:KSt e0 e1 e2 σ c)(hn:e1<0):Z qad (.loop 0 F131l2 (kFr e0 e1 e2 1) σ)=Z qad (.loop 0 F131l2 (kFr e0 e1 e2 2) σ):=by
 have w1:=qah 2 (by omega)
 have hn' : ¬ 0<=e1:=by omega
 conv=>lhs; rw[qab]
 cases h<;>simp[qac,qa0,w1,hn',cutCells,Wa]
theorem qxg(h:KSt e0 e1 e2 σ c)(hn:0<=e1){sf:Bool}(hs:qgX c e0 e1 e2 e1 sf) : ∃ σ',KSt e0 e1 e2 σ' c/\Z qad (.loop 0 F131l2 (kFr e0 e1 e2 1) σ)=if sf then Z qad (.loop 0 F131l2 (kFr e0 e1 e2 2) σ') else some (.out .ret [(2,.ptr 0 0),(3,.int 15)] σ'):=by
 have w1:=qah 2 (by omega)
 obtain⟨a,z1,z2⟩:=hs
 simp only[pgD] at z1
 have hl:=qfN c
 have hd:=qj1 c
 have hl2:=qfv c
 cases h with
 |nil h=>omega
 |vec _ g=>
  refine⟨_,.froz _ g,?_⟩
  rw[qab]
  cases sf
  ·simp[qac,qa0,w1,hn,z1,z2,hl,hd,cutCells,Wa]
  ·simp[qac,qa0,w1,hn,z1,z2,hl,hd,cutCells,Wa]
 |froz _ g=>
  refine⟨_,.froz _ g,?_⟩
  rw[qab]
  cases sf
  ·simp[qac,qa0,w1,hn,z1,z2,hl,hd,cutCells,Wa]
  ·simp[qac,qa0,w1,hn,z1,z2,hl,hd,cutCells,Wa]
theorem quq(h:KSt e0 e1 e2 σ c){sf:Bool}(hs:0<=e1->qgX c e0 e1 e2 e1 sf)(hs2:e1<0->sf=true) : ∃ σ',KSt e0 e1 e2 σ' c/\Z qad (.loop 0 F131l2 (kFr e0 e1 e2 1) σ)=if sf then Z qad (.loop 0 F131l2 (kFr e0 e1 e2 2) σ') else some (.out .ret [(2,.ptr 0 0),(3,.int 15)] σ'):=by
 by_cases hn:e1<0
 ·exact⟨σ,h,by rw[hs2 hn,qxf h hn]; rfl⟩
 ·exact qxg h (by omega) (hs (by omega))
theorem qxh(h:KSt e0 e1 e2 σ c)(hn:e2<0):Z qad (.loop 0 F131l2 (kFr e0 e1 e2 2) σ)=Z qad (.loop 0 F131l2 (kFr e0 e1 e2 3) σ):=by
 have w1:=qah 3 (by omega)
 have hn' : ¬ 0<=e2:=by omega
 conv=>lhs; rw[qab]
 cases h<;>simp[qac,qa0,w1,hn',cutCells,Wa]
theorem qxi(h:KSt e0 e1 e2 σ c)(hn:0<=e2){sf:Bool}(hs:qgX c e0 e1 e2 e2 sf) : ∃ σ',KSt e0 e1 e2 σ' c/\Z qad (.loop 0 F131l2 (kFr e0 e1 e2 2) σ)=if sf then Z qad (.loop 0 F131l2 (kFr e0 e1 e2 3) σ') else some (.out .ret [(2,.ptr 0 0),(3,.int 15)] σ'):=by
 have w1:=qah 3 (by omega)
 obtain⟨a,z1,z2⟩:=hs
 simp only[pgD] at z1
 have hl:=qfN c
 have hd:=qj1 c
 have hl2:=qfv c
 cases h with
 |nil h=>omega
 |vec _ g=>
  refine⟨_,.froz _ g,?_⟩
  rw[qab]
  cases sf
  ·simp[qac,qa0,w1,hn,z1,z2,hl,hd,cutCells,Wa]
  ·simp[qac,qa0,w1,hn,z1,z2,hl,hd,cutCells,Wa]
 |froz _ g=>
  refine⟨_,.froz _ g,?_⟩
  rw[qab]
  cases sf
  ·simp[qac,qa0,w1,hn,z1,z2,hl,hd,cutCells,Wa]
  ·simp[qac,qa0,w1,hn,z1,z2,hl,hd,cutCells,Wa]
theorem qur(h:KSt e0 e1 e2 σ c){sf:Bool}(hs:0<=e2->qgX c e0 e1 e2 e2 sf)(hs2:e2<0->sf=true) : ∃ σ',KSt e0 e1 e2 σ' c/\Z qad (.loop 0 F131l2 (kFr e0 e1 e2 2) σ)=if sf then Z qad (.loop 0 F131l2 (kFr e0 e1 e2 3) σ') else some (.out .ret [(2,.ptr 0 0),(3,.int 15)] σ'):=by
 by_cases hn:e2<0
 ·exact⟨σ,h,by rw[hs2 hn,qxh h hn]; rfl⟩
 ·exact qxi h (by omega) (hs (by omega))
theorem qxj (h:KSt e0 e1 e2 σ c) {s0 s1 s2:Bool} (h0:0<=e0->qgX c e0 e1 e2 e0 s0) (g0:e0<0->s0=true) (h1:0<=e1->qgX c e0 e1 e2 e1 s1) (g1:e1<0->s1=true) (h2:0<=e2->qgX c e0 e1 e2 e2 s2) (g2:e2<0->s2=true) :
  ∃ σ',KSt e0 e1 e2 σ' c/\Z qad (.loop 0 F131l2 (kFr e0 e1 e2 0) σ)=if s0&&(s1&&s2) then some (.out (.exit 4) (kFr e0 e1 e2 3++[(88,.bool false)]) σ') else some (.out .ret [(2,.ptr 0 0),(3,.int 15)] σ'):=by
 obtain⟨σ0,k0,z0⟩:=qup h h0 g0
 cases s0 with
 |false=>exact⟨σ0,k0,z0⟩
 |true=>
  obtain⟨σ1,k1,z1⟩:=quq k0 h1 g1
  cases s1 with
  |false=>exact⟨σ1,k1,z0.trans z1⟩
  |true=>
   obtain⟨σ2,k2,z2⟩:=qur k1 h2 g2
   cases s2 with
   |false=>exact⟨σ2,k2,z0.trans (z1.trans z2)⟩
   |true=>exact⟨σ2,k2,z0.trans (z1.trans (z2.trans (qzx k2)))⟩
end
section
variable{vs:List ByteArray}{a b c:Hd}
theorem qzy (fa:a.fine) (fb:b.fine) (fc:c.fine) (ia:a.ss.inV vs) (ib:b.ss.inV vs) (ic:c.ss.inV vs) :
  ∃ σ,HSt vs (qhM a) (qhA vs a b) (qhN vs a b c) σ (qdZ vs a b c) /\
   Z qad (.loop 0 F131l1 (jFr (ru a.nd b.nd c.nd) 0) [zP,qnR 0 0 0 2,mpo vs])=some (.out (.exit 2) (jFr (ru a.nd b.nd c.nd) 3++[(35,.bool false)]) σ):=by
 have key : ∀ h:Hd,h.fine -> ∃ L,L<=8001/\Ln (hdC vs h) L:=fun h f=>by
  cases h with
  |none=>exact⟨0,by omega,fun _=>rfl⟩
  |some g x=>
   obtain⟨n,hn,hn2⟩:=qzI vs x
   have:=f.size
   simp only[Hd.ss] at this
   exact⟨n+1,by omega,qcj hn⟩
 obtain⟨la,ka,na⟩:=key a fa
 obtain⟨lb,kb,nb⟩:=key b fb
 have s0 : ∃ σ,HSt vs (qhM a) 0 0 σ (hdC vs a 0)/\Z qad (.loop 0 F131l1 (jFr (ru a.nd b.nd c.nd) 0) [zP,qnR 0 0 0 2,mpo vs])=Z qad (.loop 0 F131l1 (jFr (ru a.nd b.nd c.nd) 1) σ):=by
  cases a with
  |none=>exact qux .nil
  |some f x=>
   have:=fa.size
   simp only[Hd.ss] at this ia
   obtain⟨L,hL,h,h0⟩:=qpK x fa.fine ia (by omega) f
   obtain⟨σ,h1,h2⟩:=quy (v:=b.nd) (w:=c.nd) (e0:=0) (e1:=0) (e2:=0) .nil h h0 (by simp; omega)
   exact⟨σ,by simpa [qhM,qkD,hdC] using h1,h2⟩
 obtain⟨σ0,c0,z0⟩:=s0
 have l0:=na 0
 have s1 : ∃ σ,HSt vs (qhM a) (qhA vs a b) 0 σ (hdC vs a 0++hdC vs b (hdC vs a 0).length)/\Z qad (.loop 0 F131l1 (jFr (ru a.nd b.nd c.nd) 1) σ0)=Z qad (.loop 0 F131l1 (jFr (ru a.nd b.nd c.nd) 2) σ):=by
  cases b with
  |none=>
   obtain⟨σ,h1,h2⟩:=quz (u:=a.nd) (w:=c.nd) c0
   exact⟨σ,by simpa [qhA,qkD,hdC] using h1,h2⟩
  |some f x=>
   have:=fb.size
   simp only[Hd.ss] at this ib
   obtain⟨L,hL,h,h0⟩:=qpK x fb.fine ib (by omega) f
   obtain⟨σ,h1,h2⟩:=quA (u:=a.nd) (w:=c.nd) c0 h h0 (by omega)
   exact⟨σ,by simpa [qhA,qkD,hdC] using h1,h2⟩
 obtain⟨σ1,c1,z1⟩:=s1
 have e1:hdC vs a 0++hdC vs b (hdC vs a 0).length=sq (hdC vs a) (hdC vs b) 0:=by simp[sq]
 rw[e1] at c1
 have l1:(sq (hdC vs a) (hdC vs b) 0).length=la+lb:=qbJ na nb 0
 have s2 : ∃ σ,HSt vs (qhM a) (qhA vs a b) (qhN vs a b c) σ (sq (hdC vs a) (hdC vs b) 0++hdC vs c (sq (hdC vs a) (hdC vs b) 0).length)/\Z qad (.loop 0 F131l1 (jFr (ru a.nd b.nd c.nd) 2) σ1)=Z qad (.loop 0 F131l1 (jFr (ru a.nd b.nd c.nd) 3) σ):=by
  cases c with
  |none=>
   obtain⟨σ,h1,h2⟩:=quB (u:=a.nd) (v:=b.nd) c1
   exact⟨σ,by simpa [qhN,qkD,hdC] using h1,h2⟩
  |some f x=>
   have:=fc.size
   simp only[Hd.ss] at this ic
   obtain⟨L,hL,h,h0⟩:=qpK x fc.fine ic (by omega) f
   obtain⟨σ,h1,h2⟩:=quC (u:=a.nd) (v:=b.nd) c1 h h0 (by omega)
   exact⟨σ,by simpa [qhN,qkD,hdC] using h1,h2⟩
 obtain⟨σ2,c2,z2⟩:=s2
 have e2:sq (hdC vs a) (hdC vs b) 0++hdC vs c (sq (hdC vs a) (hdC vs b) 0).length=qdZ vs a b c:=by
  unfold qdZ
  simp only[sq,Wt,Wc]
  rw[show ((((hdC vs a 0).length+(hdC vs b (0+(hdC vs a 0).length)).length:Nat)):Int)=0+(hdC vs a 0).length+(hdC vs b (0+(hdC vs a 0).length)).length by omega]
 rw[e2] at c2
 exact⟨σ2,c2,z0.trans (z1.trans (z2.trans (qzD c2)))⟩
theorem qmh{C:Int->Cd}{n:Nat}{D:Nat->Int}(g:Hg C n D)(hl:n<2^27)(e0 e1 e2:Int){e m:Int}(h0:0<=e)(h1:e<n)(hD:D e.toNat=0)(hm:DepIs (C 0) e m):qgX (C 0) e0 e1 e2 e (decide (m<=16)):=by
 have hn:=g.ln 0
 have hok:=g.okC
 have hf:=qrm hok
 have hops : ∀ i,i<(C 0).length->1<=opA (C 0) i/\opA (C 0) i<=21:=fun i hi=>(qsG (ql8 _ _ hok i (by omega) (by omega))).1
 obtain⟨fl,br,dp,r1,r2⟩:=qz4 (e0:=e0) (e1:=e1) (e2:=e2) (qiw (C 0) false) hf hops (by omega) (e:=e.toNat) (by omega)
 rw[show ((e.toNat:Nat):Int)=e by omega] at r2
 have hcf:=g.cf (e:=e.toNat) (by omega) hD
 have hbr:br=false:=r1.brk.2 ⟨D,hcf⟩
 have hdp:dp=m:=Most.unique (r1.most D hcf) (hm.2 h0 D hcf)
 refine⟨_,r2,?_⟩
 have:=qx5 fl br dp
 rw[hbr,hdp] at this
 rw[hbr,hdp]
 simpa using this
end
end
section
open F Gr
set_option maxHeartbeats 2000000
attribute [local simp] qa7 qbB dkey qfR
section
variable{a b c:Hd}
theorem qmd:(rvars a.nd b.nd c.nd).Nodup:=qhn _ _ (by simp)
theorem qln (fa:a.fine) (fb:b.fine) (fc:c.fine) {m0 m1 m2:Int} (d0:DepIs (qdZ (rvars a.nd b.nd c.nd) a b c) (qhM a) m0) (d1:DepIs (qdZ (rvars a.nd b.nd c.nd) a b c) (qhA (rvars a.nd b.nd c.nd) a b) m1) (d2:DepIs (qdZ (rvars a.nd b.nd c.nd) a b c) (qhN (rvars a.nd b.nd c.nd) a b c) m2) :
  Z qad (.call 131 [.dat (ru a.nd b.nd c.nd)] [])=some (.ret (qoE (qdZ (rvars a.nd b.nd c.nd) a b c) (qhM a) (qhA (rvars a.nd b.nd c.nd) a b) (qhN (rvars a.nd b.nd c.nd) a b c) m0 m1 m2) []):=by
 have l4:=qjh fa.fine fb.fine fc.fine
 have sa:=qvH a fa
 have sb:=qvH b fb
 have sc:=qvH c fc
 have zv:=qlU qgD (qmw (a:=a.nd) (b:=b.nd) (c:=c.nd) (by omega) (by omega) (by omega))
 obtain⟨ia,ib,ic⟩:=qmV (a:=a) (b:=b) (c:=c)
 obtain⟨n,D,g,p0,p1,p2⟩:=qlo (vs:=rvars a.nd b.nd c.nd) (by omega) fa.fine fb.fine fc.fine ia ib ic
 obtain⟨σ,hst,hloop⟩:=qzy (vs:=rvars a.nd b.nd c.nd) fa fb fc ia ib ic
 have hlen:=qlK (vs:=rvars a.nd b.nd c.nd) fa fb fc
 have hn:(qdZ (rvars a.nd b.nd c.nd) a b c).length=n:=g.ln 0
 have hvl:=qsS a.nd b.nd c.nd (vs:=rvars a.nd b.nd c.nd) (by omega) qmd (rvars a.nd b.nd c.nd).length 0 (by omega)
 rw[List.take_zero] at hvl
 have q0:0<=qhM a->qgX (qdZ (rvars a.nd b.nd c.nd) a b c) (qhM a) (qhA (rvars a.nd b.nd c.nd) a b) (qhN (rvars a.nd b.nd c.nd) a b c) (qhM a) (decide (m0<=16)):=fun h=>by
  rcases p0 with p|⟨x,y,z⟩
  ·omega
  ·exact qmh g (by omega) _ _ _ x y z d0
 have q1:0<=qhA (rvars a.nd b.nd c.nd) a b->qgX (qdZ (rvars a.nd b.nd c.nd) a b c) (qhM a) (qhA (rvars a.nd b.nd c.nd) a b) (qhN (rvars a.nd b.nd c.nd) a b c) (qhA (rvars a.nd b.nd c.nd) a b) (decide (m1<=16)):=fun h=>by
  rcases p1 with p|⟨x,y,z⟩
  ·omega
  ·exact qmh g (by omega) _ _ _ x y z d1
 have q2:0<=qhN (rvars a.nd b.nd c.nd) a b c->qgX (qdZ (rvars a.nd b.nd c.nd) a b c) (qhM a) (qhA (rvars a.nd b.nd c.nd) a b) (qhN (rvars a.nd b.nd c.nd) a b c) (qhN (rvars a.nd b.nd c.nd) a b c) (decide (m2<=16)):=fun h=>by
  rcases p2 with p|⟨x,y,z⟩
  ·omega
  ·exact qmh g (by omega) _ _ _ x y z d2
 have w0:qhM a<0->decide (m0<=16)=true:=fun h=>by rw[d0.1 h]; rfl
 have w1:qhA (rvars a.nd b.nd c.nd) a b<0->decide (m1<=16)=true:=fun h=>by rw[d1.1 h]; rfl
 have w2:qhN (rvars a.nd b.nd c.nd) a b c<0->decide (m2<=16)=true:=fun h=>by rw[d2.1 h]; rfl
 clear d0 d1 d2 g
 generalize rvars a.nd b.nd c.nd=vs at *
 generalize hC:qdZ vs a b c=C at *
 generalize hE0:qhM a=e0 at *
 generalize hE1:qhA vs a b=e1 at *
 generalize hE2:qhN vs a b c=e2 at *
 have hcond:(16<m0\/16<m1\/16<m2)↔(decide (m0<=16)&&(decide (m1<=16)&&decide (m2<=16)))=false:=by
  rw[W0,W0,decide_eq_false_iff_not,decide_eq_false_iff_not,decide_eq_false_iff_not]
  omega
 have hv':=(qai (prog:=qad) (k:=0) (b:=F131l0) (fr:=[(1,.ptr 0 0),(2,.ptr 1 0),(4,.ptr 3 0),(17,.dat (qnz vs)),(18,.int vs.length),(19,.int 0)]) (σ := [qkG a.nd b.nd c.nd,zP,.map [],qnR 0 0 0 2]) (by simp[yFr,ySt,mapM,Wa])).trans hvl
 have hloop':=(qai (prog:=qad) (k:=0) (b:=F131l1) (fr:=[(2,.ptr 1 0),(4,.ptr 2 0),(33,.dat (ru a.nd b.nd c.nd)),(34,.int 0)]) (σ := [qkG a.nd b.nd c.nd,zP,qnR 0 0 0 3,mpo vs]) (by simp[jFr,Wa])).trans hloop
 simp only[qkG,zP,Nd.d,qyL,qz2,qyM,qz3,qqq,yFr,jFr,ru,Wh,Wf] at hv' hloop'
 simp only[ru,Nd.d,qyL,qz2,qyM,qz3,qqq] at zv
 refine qaa (pf:=F131) rfl rfl ?_
 unfold qoE
 cases hst with
 |nil=>
  have hn0:n=0:=by rw[<- hn]; rfl
  obtain⟨σ',hk,z⟩:=qxj (KSt.nil (e0:=e0) (e1:=e1) (e2:=e2) (by omega)) q0 w0 q1 w1 q2 w2
  have h400 : ¬ 400<([]:Cd).length:=by simp
  rw[if_neg h400]
  replace z:=(qai (prog:=qad) (k:=0) (b:=F131l2) (fr:=[(2,.ptr 0 0),(9,.ptr 3 0),(86,.dat (.agg [.lit (.int .i64 e0),.lit (.int .i64 e1),.lit (.int .i64 e2)])),(87,.int 0)]) (σ := [zP,qnR e0 e1 e2 2,mpo vs,.cells [.dat (.lit (.slice none 0 0)),.int e0,.int e1,.int e2]]) (by simp[Wa])).trans z
  by_cases hb:16<m0\/16<m1\/16<m2
  ·rw[hcond.1 hb] at z
   rw[if_pos hb]
   cases hk with
   |nil=>simp[F131,ru,Nd.d,zv,hv',hloop',z,pgD,codeD,qdi,qbH,qaz,Wa]
   |vec _ g=>exact absurd rfl g
   |froz _ g=>exact absurd rfl g
  ·have hb':(decide (m0<=16)&&(decide (m1<=16)&&decide (m2<=16)))=true:=by
    rw[<- Bool.not_eq_false,<- hcond]; exact hb
   rw[hb'] at z
   rw[if_neg hb]
   cases hk with
   |nil=>simp[F131,ru,Nd.d,zv,hv',hloop',z,pgD,codeD,qdi,qbH,qaz,Wa]
   |vec _ g=>exact absurd rfl g
   |froz _ g=>exact absurd rfl g
 |gr _ hne=>
  have hdat:=qj1 C
  have hvl:=qfN C
  rw[qnI hne]
  by_cases h4:400<C.length
  ·rw[if_pos h4]
   have h4':(400:Int)<C.length:=by omega
   simp[F131,ru,Nd.d,zv,hv',hloop',pgD,qcM,h4',qbH,qaz,Wa]
  rw[if_neg h4]
  have h4' : ¬ (400:Int)<C.length:=by omega
  obtain⟨σ',hk,z⟩:=qxj (KSt.vec (e0:=e0) (e1:=e1) (e2:=e2) C hne) q0 w0 q1 w1 q2 w2
  replace z:=(qai (prog:=qad) (k:=0) (b:=F131l2) (fr:=[(2,.ptr 0 0),(9,.ptr 4 0),(86,.dat (.agg [.lit (.int .i64 e0),.lit (.int .i64 e1),.lit (.int .i64 e2)])),(87,.int 0)]) (σ := [zP,cob e0 e1 e2 2 C.length 3,.vec (icV C),mpo vs,.cells [.own 2 C.length 2,.int e0,.int e1,.int e2]]) (by simp[Wa])).trans z
  by_cases hb:16<m0\/16<m1\/16<m2
  ·rw[hcond.1 hb] at z
   rw[if_pos hb]
   cases hk with
   |nil=>exact absurd rfl hne
   |vec _ g=>simp[F131,ru,Nd.d,zv,hv',hloop',z,pgD,qcM,h4',qbH,qaz,Wa]
   |froz _ g=>simp[F131,ru,Nd.d,zv,hv',hloop',z,pgD,qcM,h4',qbH,qaz,Wa]
  ·have hb':(decide (m0<=16)&&(decide (m1<=16)&&decide (m2<=16)))=true:=by
    rw[<- Bool.not_eq_false,<- hcond]; exact hb
   rw[hb'] at z
   rw[if_neg hb]
   cases hk with
   |nil=>exact absurd rfl hne
   |vec _ g=>simp[F131,ru,Nd.d,zv,hv',hloop',z,pgD,qcM,h4',hdat,hvl,qbH,qaz,Wa]
   |froz _ g=>simp[F131,ru,Nd.d,zv,hv',hloop',z,pgD,qcM,h4',hdat,hvl,qbH,qaz,Wa]
end
end
end Go.Pm
