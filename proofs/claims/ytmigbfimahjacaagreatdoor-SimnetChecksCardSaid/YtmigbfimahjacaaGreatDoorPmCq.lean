/- Chapter 35: the rule book of a generated script. -/
import Derived.Test.YtmigbfimahjacaaGreatDoorPmAL
import Derived.Test.YtmigbfimahjacaaGreatDoorPmCo
import Derived.Test.YtmigbfimahjacaaGreatDoorPmXe10
set_option linter.unusedSimpArgs false
set_option linter.unusedVariables false
set_option maxHeartbeats 4000000
namespace Go.Pm
section
open F
set_option maxRecDepth 100000
attribute [local simp] V.len qai
theorem wr0:IntKind.i64.wrap 0=0:=qay _ (by omega)
theorem wr1:IntKind.i64.wrap 1=1:=qay _ (by omega)
def dOf:V->D
 |.dat d=>d
 |_ => .lit (.slice none 0 0)
def srcD(k:Nat):D:=dOf (match k with|0=>qza|1=>qs9|2=>qha|3=>qgO|_=>qhb)
def qyd(k:Nat):List D:=match k with
 |0=>[.lit (.slice none 0 0),di (-1),di (-1),di (-1)]
 |1=>[.sl (ds [2,0,1,1,9,0,3,0,1,3,2,0,15,0,19,14,1,1,2,0,20,0,1,0,3,0,18,14,21,0]) 15 false,di (-1),di 0,di (-1)]
 |2=>[.sl (ds [6,0,6,0,4,2,1,100,7,0,11,0,9,0,5,2,1,2,6,0,20,0,21,0,6,0,6,0,4,4,1,1,9,0,5,4,1,3,7,0,20,0,21,0]) 22 false,di 0,di (-1),di 12]
 |3=>[.sl (ds [7,0,4,6,6,0,1,1,9,0,16,0,19,13,6,0,4,4,7,0,4,4,14,0,18,14,1,0,19,24,6,0,6,0,4,2,13,0,5,2,6,0,8,0,5,5,18,25,21,0,1,4,6,0,4,4,20,0,21,0]) 30 false,di (-1),di (-1),di 0]
 |_=>[.sl (ds [1,0,3,0,21,0,1,0,3,1,2,1,1,4,14,0,19,21,2,1,2,1,4,5,2,1,4,7,9,0,5,5,2,1,1,1,9,0,3,1,18,5,2,0,1,0,4,0,1,100,12,0,9,0,3,0,1,5,2,0,20,0,21,0]) 32 false,di 0,di 3,di (-1)]
theorem qsM{k:Nat}(h:k<5):Z prX (.call 322 [.dat (srcD k)] [])=some (.ret (.tup [.dat (.agg (qyd k)),.int 0]) []):=by
 obtain rfl|rfl|rfl|rfl|rfl:k=0\/k=1\/k=2\/k=3\/k=4:=by omega
 ·exact qwe
 ·exact quj
 ·exact quq
 ·exact qu0
 ·exact quS
def qms(v:Int × Nat):List D:=di v.1::qyd v.2
def qrB(vs:List (Int × Nat))(f:Bool):List D:=[.sl (vs.map qms).flatten vs.length f]
theorem qdN(k:Nat) : ∃ c e0 e1 e2,qyd k=[c,di e0,di e1,di e2]/\V.one (.dat c)=true/\V.cells (.dat c)=[.dat c]:=by
 unfold qyd
 split<;>exact⟨_,_,_,_,rfl,rfl,rfl⟩
theorem qpH(k:Nat):V.one (.dat (srcD k))=true/\V.cells (.dat (srcD k))=[.dat (srcD k)]:=by
 unfold srcD
 split<;>exact⟨rfl,rfl⟩
theorem qsN{a:Nat}(ha:a<5):Z prX (.call 317 [.dat (srcD a)] [])=some (.ret (.tup [.ptr 0 0,.int 0]) [.cells [.dat (.sl (qms (0,a)) 1 true)]]):=by
 have h:=qsM ha
 obtain⟨c,e0,e1,e2,e,o1,o2⟩:=qdN a
 simp only[qms,e] at *
 generalize srcD a=S at *
 refine qaD (pf:=F317) rfl rfl ?_
 simp -implicitDefEqProofs [F317,di,h,o1,o2,Wa]
theorem qv6{a b:Nat}(hb:b<5){t:Int}(ht:1<=t):Z prX (.call 318 [.ptr 0 0,.int t,.dat (srcD b)] [.cells [.dat (.sl (qms (0,a)) 1 true)]])=some (.ret (.int 0) [.cells [.gsl (qms (0,a)++qms (t,b)) 2 5 1],.tip 10]):=by
 have h:=qsM hb
 obtain⟨c,e0,e1,e2,e,o1,o2⟩:=qdN a
 obtain⟨c',e0',e1',e2',e',o1',o2'⟩:=qdN b
 have t1 : ¬ t<=0:=by omega
 simp only[qms,e,e'] at *
 generalize srcD b=S at *
 refine qaD (pf:=F318) rfl rfl ?_
 simp -implicitDefEqProofs [F318,wr0,wr1,di,h,o1,o2,o1',o2',t1,Wa,qbs,qlj,qaA]
theorem qrC{s:Scr}{r:Rws}(h:s.Is r){a:Nat}(ha:a<5)(h1:s.src=[[srcD a]])(h2:s.pat=[]):Z prX (.call 376 [.dat (.agg (s.c r))] [])=some (.ret (.tup [.dat (.imm (qrB [(0,a)] true) 0),.int 0]) []):=by
 have hrd:=h.rd
 have i1:=h.src.at (i:=0) (by simp[h1])
 have i2:=h.src.cut (i:=0) (x:=[srcD a]) (by simp[h1])
 have i3:=h.pat.len
 have b:=qsN ha
 obtain⟨c,e0,e1,e2,e,o1,o2⟩:=qdN a
 simp only[h1,h2,Wr,W4,Nat.mul_one,Nat.zero_mul,WI,Int.ofNat_zero] at i1 i2 i3
 generalize hcs:(s.c r).map V.dat=cs at hrd
 obtain⟨hd,ho,hlen,b0,b16,b17,b18,b19,b20,b21,b22⟩:=hrd
 have ho':=eq_true ho
 have l : ∀ d,Z prX (.loop 0 F376l0 [(1,.ptr 0 0),(4,.ptr 1 0),(21,.dat d),(22,.int 0),(23,.int 0)] [.cells cs,.cells [.dat (.sl (qms (0,a)) 1 true)]])=some (.out (.exit 0) [(1,.ptr 0 0),(4,.ptr 1 0),(21,.dat d),(22,.int 0),(23,.int 0),(24,.bool false)] [.cells cs,.cells [.dat (.sl (qms (0,a)) 1 true)]]):=fun d=>by
  rw[qap]
  simp[qao,qgD,hd.l,hd.r,Wa]
 generalize s.c r=C at *
 simp only[qrB,Wi,Wr,WJ,List.flatten_nil,Wp,WK,W4,qms,e] at *
 generalize srcD a=S at *
 generalize List.flatten [[S]]=X at *
 refine qaD (pf:=F376) rfl rfl ?_
 simp -implicitDefEqProofs [F376,wr0,wr1,hcs,ho',b16,b17,i1,i2,i3,b,l,o1,o2,di,hd.l,hd.r,Wa,-qai,-V.len]
theorem qrD{s:Scr}{r:Rws}(h:s.Is r){a b:Nat}(ha:a<5)(hb:b<5){t:Int}(ht:1<=t)(h1:s.src=[[srcD a],[srcD b]])(h2:s.pat=[t]):Z prX (.call 376 [.dat (.agg (s.c r))] [])=some (.ret (.tup [.dat (.imm (qrB [(0,a),(t,b)] false) 0),.int 0]) []):=by
 have hrd:=h.rd
 have i1:=h.src.at (i:=0) (by simp[h1])
 have i2:=h.src.cut (i:=0) (x:=[srcD a]) (by simp[h1])
 have j1:=h.src.at (i:=1) (by simp[h1])
 have j2:=h.src.cut (i:=1) (x:=[srcD b]) (by simp[h1])
 have i3:=h.pat.len
 have k1:=h.pat.at (i:=0) (by simp[h2])
 have k2:=h.pat.cut (i:=0) (x:=qbm t) (by simp[h2])
 have m1:=qsN ha
 have m2:=qv6 (a:=a) hb ht
 obtain⟨c,e0,e1,e2,e,o1,o2⟩:=qdN a
 obtain⟨c',e0',e1',e2',e',o1',o2'⟩:=qdN b
 simp only[h1,h2,Wr,Wi,WK,W4,Nat.mul_one,Nat.zero_mul,WI,Int.ofNat_zero,Int.natCast_one,WF,qbm] at i1 i2 i3 j1 j2 k1 k2
 generalize hcs:(s.c r).map V.dat=cs at hrd
 obtain⟨hd,ho,hlen,b0,b16,b17,b18,b19,b20,b21,b22⟩:=hrd
 have ho':=eq_true ho
 generalize s.c r=C at *
 have l2 : ∀ d X,Z prX (.loop 0 F376l0 [(1,.ptr 0 0),(4,.ptr 1 0),(21,.dat d),(22,.int 1),(23,.int 1)] [.cells cs,.cells [.gsl X 2 5 2],.tip 10])=some (.out (.exit 0) [(1,.ptr 0 0),(4,.ptr 1 0),(21,.dat d),(22,.int 1),(23,.int 1),(24,.bool false)] [.cells cs,.cells [.gsl X 2 5 2],.tip 10]):=fun d X=>by
  rw[qap]
  simp[qao,qgD,hd.l,hd.r,Wa]
 have l1:Z prX (.loop 0 F376l0 [(1,.ptr 0 0),(4,.ptr 1 0),(21,.dat r.pat),(22,.int 1),(23,.int 0)] [.cells cs,.cells [.dat (.sl (qms (0,a)) 1 true)]])=some (.out (.exit 0) [(1,.ptr 0 0),(4,.ptr 1 0),(21,.dat r.pat),(22,.int 1),(23,.int 1),(24,.bool false)] [.cells cs,.cells [.gsl (qms (0,a)++qms (t,b)) 2 5 2],.tip 10]):=by
  rw[<- l2 r.pat]
  simp only[qms,e,e'] at *
  generalize srcD a=S at *
  generalize srcD b=T at *
  generalize List.flatten [[S],[T]]=X at *
  generalize List.flatten [[di t]]=Y at *
  conv=>lhs; rw[qap]
  simp -implicitDefEqProofs [qao,qgD,wr0,wr1,hd.l,hd.r,Wa,k1,k2,j1,j2,m2,b16,di,-qai]
 simp only[qrB,Wi,Wr,WJ,List.flatten_nil,Wp,WK,W4,qms,e,e',Wu,Wk] at *
 generalize srcD a=S at *
 generalize srcD b=T at *
 refine qaD (pf:=F376) rfl rfl ?_
 simp -implicitDefEqProofs [F376,wr0,wr1,hcs,ho',b16,b17,i1,i2,i3,m1,l1,o1,o2,o1',o2',di,hd.l,hd.r,Wa,-qai,-V.len]
end
section
open F
set_option maxRecDepth 100000
attribute [local simp] V.len qai
def qoT(p:Nat)(x:Cmd):Bool:=decide (x.pl=p)
def qsP(acc:List Cmd):V:=if acc=[] then qax else .own 0 acc.length 5
def qsQ(acc:List Cmd):S:=if acc=[] then [] else [.vec (cmV acc)]
theorem qrS(acc:List Cmd)(x:Cmd):cmV acc++[.int x.at_,.int x.pl,.int x.dx,.int x.dy,.int x.ac]=cmV (acc++[x]):=by
 simp[cmV,cmC,Cmd.c,di]
theorem qua {ls:List Cmd} {d:D} {p:Nat} (hr:RowD 5 d (ls.map Cmd.c)) (hl:ls.length<=100) : ∀ (j k:Nat) (acc:List Cmd),k+j=ls.length->acc.length<=k ->
  Z prX (.loop 0 F382l0 [(1,.int p),(5,qsP acc),(9,.dat d),(10,.int ls.length),(11,.int k)] (qsQ acc)) =
   some (.out (.exit 0) [(1,.int p),(5,qsP (acc++(ls.drop k).filter (qoT p))),(9,.dat d),(10,.int ls.length),(11,.int ls.length),(12,.bool false)] (qsQ (acc++(ls.drop k).filter (qoT p))))
 |0,k,acc,e,ha=>by
  obtain rfl:k=ls.length:=by omega
  rw[List.drop_length,List.filter_nil,Wp]
  unfold qsP qsQ
  have hd:Dats (cmV acc):=qas _
  generalize cmV acc=X at *
  rw[qap]
  by_cases h0:acc=[]
  ·simp -implicitDefEqProofs [qao,qcZ,h0,Wa]
  ·simp -implicitDefEqProofs [qao,qcZ,h0,hd.l,hd.r,Wa]
 |j+1,k,acc,e,ha=>by
  have hk:k<ls.length:=by omega
  obtain⟨x,hx⟩ : ∃ x,ls[k]?=some x:=⟨ls[k],by simp[hk]⟩
  have hdr:=qen hx
  have c0:=hr.at (i:=k) (by simpa using hk)
  have c1:=hr.cut (i:=k) (x:=x.c) (by simp[hx])
  have h2:(k:Int)<ls.length:=by omega
  have w1:IntKind.i64.wrap ((k:Int)+1)=((k+1:Nat):Int):=by rw[qay _ (by omega)]; omega
  have hd:Dats (cmV acc):=qas _
  have hn:=qit acc
  rw[hdr,Yy]
  by_cases hp:x.pl=p
  ·have ih:=qua (p:=p) hr hl j (k+1) (acc++[x]) (by omega) (by simp; omega)
   have hp':qoT p x=true:=by simp[qoT,hp]
   rw[if_pos hp',show acc++x::(ls.drop (k+1)).filter (qoT p)=acc++[x]++(ls.drop (k+1)).filter (qoT p) by simp,<- ih]
   have hs:=qrS acc x
   have hd2:Dats (cmV (acc++[x])):=qas _
   have hne : ¬ acc++[x]=[]:=by simp
   have hne2:(acc++[x]).length=acc.length+1:=by simp
   have hnil:cmV ([]++[x])=[.int x.at_,.int x.pl,.int x.dx,.int x.dy,.int x.ac]:=rfl
   have rf:qaA (acc.length+1) 40=true:=by unfold qaA; exact decide_eq_true (by omega)
   have rf1:qaA 1 40=true:=rfl
   clear hdr ih
   unfold qsP qsQ
   rw[if_neg hne,if_neg hne]
   simp only[Cmd.c,di] at *
   by_cases h0:acc=[]
   ·subst h0
    simp only[hne2,W4,WF]
    rw[hnil]
    generalize (List.map _ ls).flatten=X at *
    generalize ls.length=m at *
    generalize x.at_=xa at *
    generalize x.dx=xx at *
    generalize x.dy=xy at *
    generalize x.ac=xc at *
    generalize k+1=k' at *
    conv=>lhs; rw[qap]
    simp -implicitDefEqProofs [qao,qcZ,Wa,h2,c0,c1,w1,hp,rf1,-qai]
    exact qaB (by simp[Wa])
   ·rw[if_neg h0,if_neg h0,hne2]
    generalize (List.map _ ls).flatten=X at *
    generalize ls.length=m at *
    generalize acc.length=al at *
    generalize cmV (acc++[x])=Y at *
    generalize cmV acc=W at *
    generalize x.at_=xa at *
    generalize x.dx=xx at *
    generalize x.dy=xy at *
    generalize x.ac=xc at *
    generalize k+1=k' at *
    rw[hp] at hs
    conv=>lhs; rw[qap]
    simp -implicitDefEqProofs [qao,qcZ,hd.l,hd.r,Wa,h2,c0,c1,w1,hp,rf,hn,hs,-qai]
    exact qaB (by simp[hd2.l,hd2.r,Wa])
  ·have ih:=qua (p:=p) hr hl j (k+1) acc (by omega) (by omega)
   have hp' : ¬ qoT p x=true:=by simp[qoT,hp]
   rw[if_neg hp',<- ih]
   clear hdr ih
   unfold qsP qsQ
   simp only[Cmd.c,di] at *
   generalize (List.map _ ls).flatten=X at *
   generalize ls.length=m at *
   generalize cmV acc=W at *
   generalize x.at_=xa at *
   generalize x.pl=xp at *
   generalize x.dx=xx at *
   generalize x.dy=xy at *
   generalize x.ac=xc at *
   generalize k+1=k' at *
   conv=>lhs; rw[qap]
   by_cases h0:acc=[]
   ·simp -implicitDefEqProofs [qao,qcZ,Wa,h2,c0,c1,w1,hp,h0,-qai]
    exact qaB (by simp[Wa])
   ·simp -implicitDefEqProofs [qao,qcZ,hd.l,hd.r,Wa,h2,c0,c1,w1,hp,h0,-qai]
    exact qaB (by simp[hd.l,hd.r,Wa])
theorem qyN{s:Scr}{r:Rws}(h:s.Is r)(hc:s.com.length<=19)(p:Nat) : ∃ (d':D) (ls':List Cmd),RowD 5 d' (ls'.map Cmd.c)/\ls'.Perm (s.com.filter (qoT p))/\Z prX (.call 382 [.dat (.agg (s.c r)),.int p] [])=some (.ret (.dat d') []):=by
 have hrd:=h.rd
 have l:=qua (p:=p) h.com h.l4 s.com.length 0 [] (by omega) (Wg 0)
 have g2:=h.com.len
 rw[Wf] at g2
 simp only[Wk,WE,WI,Int.ofNat_zero] at l
 have e0:qsP []=qax:=rfl
 have e1:qsQ []=[]:=rfl
 rw[e0,e1] at l
 have hfl:(s.com.filter (qoT p)).length<=19:=Yc (List.length_filter_le ..) hc
 generalize hcs:(s.c r).map V.dat=cs at hrd
 obtain⟨hd,ho,hlen,b0,b16,b17,b18,b19,b20,b21,b22⟩:=hrd
 have ho':=eq_true ho
 generalize s.com.filter (qoT p)=fl at *
 generalize s.c r=C at *
 generalize s.com.length=m at *
 replace l:=(qaB (by simp[hd.l,hd.r,Wa]):Z prX (.loop 0 F382l0 [(1,.int p),(5,qax),(9,.dat r.com),(10,.int m),(11,.int 0)] [.cells cs])=Z prX (.loop 0 F382l0 [(1,.int p),(5,qax),(9,.dat r.com),(10,.int m),(11,.int 0)] [])).trans l
 by_cases h0:fl=[]
 ·subst h0
  rw[e0,e1] at l
  refine⟨qcO,[],⟨by simp,.inl ⟨rfl,rfl⟩⟩,.refl _,qaD (pf:=F382) rfl rfl ?_⟩
  simp -implicitDefEqProofs [F382,hcs,ho',b19,g2,l,qu5,hd.l,hd.r,Wa,-qai,-V.len]
 ·have h1:1<=fl.length:=by cases fl with
   |nil=>exact absurd rfl h0
   |cons a b=>simp
  obtain⟨ls',q1,q2⟩:=qxp fl h1 hfl
  have e2:qsP fl = .own 0 fl.length 5:=by unfold qsP; rw[if_neg h0]
  have e3:qsQ fl=[.vec (cmV fl)]:=by unfold qsQ; rw[if_neg h0]
  rw[e2,e3] at l
  have hd1:Dats (cmV fl):=qas _
  have hd2:Dats (cmV ls'):=qas _
  have hn:=qit ls'
  have hq:=q1.length_eq
  have hal:qaI (cmV ls')=some (cmC ls'):=qaL _
  refine⟨.sl (cmC ls') ls'.length false,ls',⟨qkl ls',.inr ⟨false,by rw[Wf]; rfl⟩⟩,q1,qaD (pf:=F382) rfl rfl ?_⟩
  rw[hq] at hn ⊢
  generalize fl.length=n at *
  generalize cmV fl=X at *
  generalize cmV ls'=Y at *
  generalize cmC ls'=W at *
  simp -implicitDefEqProofs [F382,hcs,ho',b19,g2,l,q2,hn,hal,hd.l,hd.r,hd1.l,hd1.r,hd2.l,hd2.r,Wa,-qai,-V.len]
end
section
open F
set_option maxRecDepth 100000
attribute [local simp] V.len qai
structure Pre(A:List V)(m:Nat):Prop where
 c : ∀ (B:List V) (k n:Nat),qad (A++B) (m+k) n=qad B k n
 t : ∀ (B:List V) (k:Nat),(A++B).take (m+k)=A++B.take k
 d : ∀ (B:List V) (k:Nat),(A++B).drop (m+k)=B.drop k
 l : ∀ B:List V,qau (A++B)=qau B
 r : ∀ (f:Nat->Nat) (B:List V),qbl f (A++B)=A++qbl f B
 n:A.length=m
theorem qqo(a b:List V):qau (a++b)=qau a++qau b:=by
 induction a with
 |nil=>rfl
 |cons x a ih=>simp[qau,ih]
theorem qsd(f:Nat->Nat)(a b:List V):qbl f (a++b)=qbl f a++qbl f b:=by
 induction a with
 |nil=>rfl
 |cons x a ih=>simp[qbl,ih]
theorem qa4{A:List V}{m:Nat}(hd:Dats A)(hn:A.length=m):Pre A m where
 c B k n:=by unfold qad; rw[<- hn,<- List.drop_drop,List.drop_left]
 t B k:=by rw[<- hn,List.take_append,Wl (by omega),show A.length+k-A.length=k by omega]
 d B k:=by rw[<- hn,<- List.drop_drop,List.drop_left]
 l B:=by rw[qqo,hd.l]; rfl
 r f B:=by rw[qsd,hd.r]
 n:=hn
def qyj(A:List V)(K:List D)(now:Int)(q g l a:V)(ps ws ls:V)(mp:V):List V:=A++[.dat (.imm K 0),.int now,q,g,l,a,ps,ws,ls,mp]
abbrev qjj:V := .dat (.lit (.pointer none))
theorem quF {s:Scr} {r:Rws} {u:Sup} {f:Flg} (h:s.Is r) (ho:s.over u f) (hr:1<=u.rnd/\u.rnd<=4) (hw:0<=s.wait/\s.wait<=8) {K:List D} :
  Z prX (.call 378 [.ptr 0 0,.ptr 1 0] [.cells (qyj ((s.c r).map .dat) K 0 qjj qjj qjj qax qax qax qax (.mp 2)),.cells [qax,qax],.map []])=some (.ret (.int 0)
   [.cells (qyj ((s.c r).map .dat) K 0 (.ptr 3 0) (.ptr 4 0) (.ptr 1 0) (.msl 5 0 u.n u.n 1) qax qax qax (.mp 2)),.cells [qax,qax],.map [],
    .cells [.int u.n,.int s.wait,.mp 6,qax],
    .cells ((u.c (Flg.cl u)).map .dat++[.dat (.imm K 0),.ptr 7 0]),
    .cells (List.replicate u.n (.int 0)),.map [],
    .cells [.msl 8 0 (initZ u).length (initZ u).length 1,qax,.int 0],.cells ((initZ u).map V.int)]):=by
 obtain⟨hu,hS,hn⟩:=ho
 have hrd:=h.rd
 have hone:=h.S1
 have hS16:qad ((s.c r).map V.dat) 0 16=some ((u.c f).map V.dat):=qcv V.dat (by rw[Scr.c,qbw (by rw[h.S16]; omega),hS]; rfl)
 have a1:=qt5 (n:=u.n) (w:=s.wait) hu.n1 hu.n3 hw.1 hw.2
 have a2:=qsR (f:=f) hu hr (K:=K)
 have a3:=qpY
 have hi:Dats ((initZ u).map V.int):=IntL.dats ⟨_,rfl⟩
 have hal:=qaL (u.c f)
 have hu1:=hu.n1
 have hu3:=hu.n3
 have hz:qbU u.n [D.lit (.int .i64 0)]=List.replicate u.n (.lit (.int .i64 0)):=by
  have:=hu.n3
  obtain e|e|e:u.n=1\/u.n=2\/u.n=3:=by omega
  all_goals rw[e]; rfl
 have hlc:(u.c f).length=16:=rfl
 unfold qyj
 generalize hcs:(s.c r).map V.dat=A at *
 obtain⟨hd,ho,hlen,b0,b16,b17,b18,b19,b20,b21,b22⟩:=hrd
 rw[hn] at b0
 have hp:=qa4 hd hlen
 have q0 : ∀ B:List V,qad (A++B) 0 1=some [.int u.n]:=fun B=>by rw[qbw (by omega)]; exact b0
 have q22 : ∀ B:List V,qad (A++B) 22 1=some [.int s.wait]:=fun B=>by rw[qbw (by omega)]; exact b22
 have q16 : ∀ B:List V,qad (A++B) 0 16=some ((u.c f).map .dat):=fun B=>by rw[qbw (by omega)]; exact hS16
 have q23:=fun B=>hp.c B 0 1
 have q27:=fun B=>hp.c B 4 1
 have t25:=fun B=>hp.t B 2
 have d29:=fun B=>hp.d B 6
 simp only[W1,show 23+4=27 from rfl,show 23+2=25 from rfl,show 23+6=29 from rfl] at q23 q27 t25 d29
 have hl:=hp.l
 have hrr:=hp.r
 have g : ∀ n:Nat,(List.replicate n (D.lit (.int .i64 0))).map V.dat=List.replicate n (V.int 0):=fun n=>by simp
 have lr : ∀ n:Nat,qau (List.replicate n (V.int 0))=[]:=fun n=>by
  rw[<- g]; exact (qas _).l
 have rr : ∀ (f:Nat->Nat) (n:Nat),qbl f (List.replicate n (V.int 0))=List.replicate n (V.int 0):=fun f n=>by
  rw[<- g]; exact (qas _).r f
 have n0 : ¬ (u.n:Int)<0:=by omega
 have n1:(u.n:Int)<=1099511627776:=by omega
 have n2:8*(u.n:Int)<=281474976710656:=by omega
 have hG:Dats ((u.c (Flg.cl u)).map V.dat):=qas _
 have hGl:=(qa4 hG (m:=16) rfl).l
 have hGr:=(qa4 hG (m:=16) rfl).r
 have l0:Z prX (.loop 3 F378l0 [(0,.ptr 0 0),(1,.ptr 1 0),(5,.int u.n),(6,.ptr 3 0),(7,.ptr 5 0),(46,.dat (.sl [] 0 false)),(47,.int 0),(48,.int 0)] [.cells (A++[.dat (.imm K 0),.int 0,qjj,qjj,qjj,qax,qax,qax,qax,.mp 2]),.cells [qax,qax],.map [],.cells [.int u.n,.int s.wait,.mp 4,qax],.map [],.cells ((u.c (Flg.cl u)).map .dat++[.dat (.imm K 0),.ptr 6 0]),.cells [.msl 7 0 (initZ u).length (initZ u).length 1,qax,.int 0],.cells ((initZ u).map V.int)]) =
   some (.out (.exit 0) [(0,.ptr 0 0),(1,.ptr 1 0),(5,.int u.n),(6,.ptr 3 0),(7,.ptr 4 0),(46,.dat (.sl [] 0 false)),(47,.int 0),(48,.int 0),(49,.bool false)] [.cells (A++[.dat (.imm K 0),.int 0,qjj,qjj,qjj,qax,qax,qax,qax,.mp 2]),.cells [qax,qax],.map [],.cells [.int u.n,.int s.wait,.mp 5,qax],.cells ((u.c (Flg.cl u)).map .dat++[.dat (.imm K 0),.ptr 6 0]),.map [],.cells [.msl 7 0 (initZ u).length (initZ u).length 1,qax,.int 0],.cells ((initZ u).map V.int)]):=by
  generalize (u.c (Flg.cl u)).map V.dat=G at *
  generalize initZ u=I at *
  generalize I.map V.int=J at *
  generalize I.length=N at *
  generalize u.n=n at *
  rw[qap]
  simp -implicitDefEqProofs [qao,qoo,hl,hrr,hGl,hGr,hi.l,hi.r,Wa]
 simp only[qlt,Wu,Wk,WF] at a2
 generalize hG':(u.c (Flg.cl u)).map V.dat=G at *
 generalize hU:u.c f=U at *
 have hal2:qaI (U.map V.dat)=some U:=hal
 generalize initZ u=I at *
 generalize I.map V.int=J at *
 generalize I.length=N at *
 generalize u.n=n at *
 generalize U.map V.dat=UV at *
 refine qaD (pf:=F378) rfl rfl ?_
 simp -implicitDefEqProofs [F378,q0,q22,q16,q23,q27,t25,d29,hl,hrr,hp.n,hGl,hGr,hi.l,hi.r,a1,a2,a3,l0,hal2,n0,n1,n2,hz,lr,rr,Wa]
theorem qwS(x:Lnk):Z prX (.call 383 [.dat (.agg x.c)] [])=some (.ret (.ptr 0 0) [.cells [.int 0,.int 0,.fn 430 [] [.ptr 1 0]],.cells (x.c.map .dat)]):=by
 refine qaD (pf:=F383) rfl rfl ?_
 simp -implicitDefEqProofs [F383,Lnk.c,di,Wa]
end
end Go.Pm
