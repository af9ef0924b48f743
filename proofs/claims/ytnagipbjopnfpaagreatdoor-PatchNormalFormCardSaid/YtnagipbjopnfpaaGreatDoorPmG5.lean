/- Chapter 13's generator: whole programs. -/
import Derived.Test.YtnagipbjopnfpaaGreatDoorPmAL
import Derived.Test.YtnagipbjopnfpaaGreatDoorPmYf
import Derived.Test.YtnagipbjopnfpaaGreatDoorPmTi
set_option linter.unusedSimpArgs false
set_option linter.unusedVariables false
namespace Go.Pm
section
open F
theorem qw9(o:Option Addr)(m:Int)(hm:0<=m):Z qad (.call 23 [.dat (.lit (.slice o 0 0)),.int m] [])=some (.ret (.dat (qeq [])) []):=by
 refine qac (pf:=F23) rfl rfl ?_
 have h : ¬ m<0:=by omega
 simp[F23,V.len,qoM,qhT,h,qd8,bound,qbH,qkr,qeq]
theorem qpk(xs:List Int)(k:Nat):(intsC xs).take k=intsC (xs.take k):=by simp[intsC,List.map_take]
theorem qxa(xs:List Int)(k:Nat)(hk:k<=1000):Z qad (.call 23 [.dat (.sl (intsC xs) xs.length false),.int k] [])=some (.ret (.dat (qeq (xs.take k))) []):=by
 refine qac (pf:=F23) rfl rfl ?_
 have hl:(intsC xs).length=xs.length:=by simp[intsC]
 have key : ∃ m:Nat,(if k<xs.length then (k:Int) else (xs.length:Int))=(m:Int)/\m<=xs.length/\m<=1000/\xs.take k=xs.take m/\(xs.take m).length=m:=by
  by_cases h:k<xs.length
  ·exact⟨k,by simp[h],by omega,hk,rfl,by simp; omega⟩
  ·exact⟨xs.length,by simp[h],Wj _,by omega,by rw[Wy (by omega),Wy (Wj _)],by simp⟩
 obtain⟨m,e1,e2,e3,e4,e5⟩:=key
 rw[e4]
 cases hm:xs.take m with
 |nil=>
  rw[hm] at e5
  simp at e5
  subst e5
  simp[F23,V.len,qoM,qhT,e1,qd8,bound,qbH,qkr,qeq,hl]
 |cons y ys=>
  have hm':=e5
  rw[hm] at hm'
  simp only[We] at hm'
  have hne:m≠0:=by omega
  have hr:qao m 8=true:=by simp[qao]; omega
  have ht:(intsC xs).take m=intsC (y::ys):=by rw[qpk,hm]
  have hlen:(intsC (y::ys)).length=m:=by simp[intsC]; omega
  simp[F23,V.len,qoM,qhT,e1,qd8,bound,qbH,qkr,qeq,hl,e2,ht,hlen,hne,hr,hm']
theorem qzX{v:D}{xs:List Int}(h:RowV v xs)(k:Nat)(hk:k<=1000):Z qad (.call 23 [.dat v,.int k] [])=some (.ret (.dat (qeq (xs.take k))) []):=by
 rcases h with ⟨o,rfl,rfl⟩|rfl
 ·simpa using qw9 o k (by omega)
 ·exact qxa xs k hk
def Hd.ss:Hd->Ss
 |.none => .nil
 |.some _ b=>b
structure Hd.fine(h:Hd):Prop where
 fine:h.ss.fine
 size:h.ss.fo.size<=2000
def Hd.cost:Hd->Nat
 |.none=>0
 |.some _ b=>12+b.cost
structure Hd.gen(h:Hd):Prop extends h.fine where
 f:h.f=false
 dp:h.ss.dp<=2
 edp:h.ss.edp<=3
 gsize:h.ss.fo.size<=1260
theorem qtq(h:Hd):h.ks=h.ss.fo:=by cases h<;>rfl
theorem qkT:Hd.none.gen:=⟨⟨trivial,WK _⟩,rfl,WK _,WK _,WK _⟩
abbrev z12:Ob := .cells [.int 0,.int 0,.str ⟨#[]⟩,.dat (.lit (.slice none 0 0)),.int 0,.int 0,.str ⟨#[]⟩,.dat (.lit (.slice none 0 0)),.int 0,.int 0,.str ⟨#[]⟩,.dat (.lit (.slice none 0 0))]
abbrev tst(xs:List Int)(i:Int)(a b c:Nd):S:=[z12,.cells [.dat (qeq xs),.int i],qgP a b c]
abbrev tfr(h:Int):Fr:=[(2,.ptr 0 0),(3,.ptr 1 0),(4,.ptr 2 0),(5,.int h)]
section
variable{xs:List Int}{i:Int}{a b c:Nd}
theorem qB8:Z qad (.loop 0 F123l0 (tfr 3) (tst xs i a b c))=some (.out (.exit 0) (tfr 3++[(11,.bool false)]) (tst xs i a b c)):=by
 rw[qaa]
 simp[qab,qcz,Wa]
theorem qxb(hx : ∀ x∈xs,I64 x)(hl:xs.length<=100)(hi:0<=i/\i<=100) : ∃ (g:Hd) (i':Int),g.gen/\(0<=i'/\i'<=100)/\Co 0 g.cost xs i i'/\Z qad (.loop 0 F123l0 (tfr 0) (tst xs i Hd.none.nd b c))=Z qad (.loop 0 F123l0 (tfr 1) (tst xs i' g.nd b c)):=by
 have n1:=qbi (i:=i) (m:=4) hx (qbt hl) hi (by omega)
 have r1:=qax hi (qbt hl)
 have w1:=qai 1 (by omega)
 by_cases h2:0<qaB xs i 4
 ·obtain⟨q,i',k1,k2,k3⟩:=(qAG hx hl 2 (by omega)).2 _ r1 3 (by omega) (by omega)
  have hs:ssz 2=420:=rfl
  rw[show ((2:Nat):Int).toNat=2 from rfl,show (3:Int).toNat=3 from rfl,hs] at k1
  have hco:Co 0 (Hd.cost (.some false q)) xs i i':=by
   obtain⟨u1,u2,u3⟩:=k1.2.2.2.2
   show _/\_/\((12+q.cost:Nat):Int)<=_
   rcases qas xs i with ⟨e1,l1⟩|⟨e1,l1⟩
   ·omega
   ·exact absurd (l1 4) (by omega)
  refine⟨.some false q,i',⟨⟨k1.1,by show q.fo.size<=2000; have:=k1.2.2.2.1; omega⟩,rfl,k1.2.1,k1.2.2.1,k1.2.2.2.1⟩,k2,hco,?_⟩
  simp at k3
  conv=>lhs; rw[qaa]
  simp[qab,qcz,n1,h2,k3,w1,Nd.d,Hd.k,Hd.f,Hd.ks,tfr,tst,qgP,Wa]
 ·have hco:Co 0 (Hd.cost .none) xs i (qaC xs i):=by
   show _/\_/\((0:Nat):Int)<=_
   rcases qas xs i with ⟨e1,l1⟩|⟨e1,l1⟩<;>omega
  refine⟨.none,_,qkT,r1,hco,?_⟩
  conv=>lhs; rw[qaa]
  simp[qab,qcz,n1,h2,w1,Nd.d,Hd.k,Hd.f,Hd.ks,tfr,tst,qgP,Wa]
theorem qxc(hx : ∀ x∈xs,I64 x)(hl:xs.length<=100)(hi:0<=i/\i<=100) : ∃ (g:Hd) (i':Int),g.gen/\(0<=i'/\i'<=100)/\Co 0 g.cost xs i i'/\Z qad (.loop 0 F123l0 (tfr 1) (tst xs i a Hd.none.nd c))=Z qad (.loop 0 F123l0 (tfr 2) (tst xs i' a g.nd c)):=by
 have n1:=qbi (i:=i) (m:=4) hx (qbt hl) hi (by omega)
 have r1:=qax hi (qbt hl)
 have w1:=qai 2 (by omega)
 by_cases h2:0<qaB xs i 4
 ·obtain⟨q,i',k1,k2,k3⟩:=(qAG hx hl 2 (by omega)).2 _ r1 3 (by omega) (by omega)
  have hs:ssz 2=420:=rfl
  rw[show ((2:Nat):Int).toNat=2 from rfl,show (3:Int).toNat=3 from rfl,hs] at k1
  have hco:Co 0 (Hd.cost (.some false q)) xs i i':=by
   obtain⟨u1,u2,u3⟩:=k1.2.2.2.2
   show _/\_/\((12+q.cost:Nat):Int)<=_
   rcases qas xs i with ⟨e1,l1⟩|⟨e1,l1⟩
   ·omega
   ·exact absurd (l1 4) (by omega)
  refine⟨.some false q,i',⟨⟨k1.1,by show q.fo.size<=2000; have:=k1.2.2.2.1; omega⟩,rfl,k1.2.1,k1.2.2.1,k1.2.2.2.1⟩,k2,hco,?_⟩
  simp at k3
  conv=>lhs; rw[qaa]
  simp[qab,qcz,n1,h2,k3,w1,Nd.d,Hd.k,Hd.f,Hd.ks,tfr,tst,qgP,Wa]
 ·have hco:Co 0 (Hd.cost .none) xs i (qaC xs i):=by
   show _/\_/\((0:Nat):Int)<=_
   rcases qas xs i with ⟨e1,l1⟩|⟨e1,l1⟩<;>omega
  refine⟨.none,_,qkT,r1,hco,?_⟩
  conv=>lhs; rw[qaa]
  simp[qab,qcz,n1,h2,w1,Nd.d,Hd.k,Hd.f,Hd.ks,tfr,tst,qgP,Wa]
theorem qxd(hx : ∀ x∈xs,I64 x)(hl:xs.length<=100)(hi:0<=i/\i<=100) : ∃ (g:Hd) (i':Int),g.gen/\(0<=i'/\i'<=100)/\Co 0 g.cost xs i i'/\Z qad (.loop 0 F123l0 (tfr 2) (tst xs i a b Hd.none.nd))=Z qad (.loop 0 F123l0 (tfr 3) (tst xs i' a b g.nd)):=by
 have n1:=qbi (i:=i) (m:=4) hx (qbt hl) hi (by omega)
 have r1:=qax hi (qbt hl)
 have w1:=qai 3 (by omega)
 by_cases h2:0<qaB xs i 4
 ·obtain⟨q,i',k1,k2,k3⟩:=(qAG hx hl 2 (by omega)).2 _ r1 3 (by omega) (by omega)
  have hs:ssz 2=420:=rfl
  rw[show ((2:Nat):Int).toNat=2 from rfl,show (3:Int).toNat=3 from rfl,hs] at k1
  have hco:Co 0 (Hd.cost (.some false q)) xs i i':=by
   obtain⟨u1,u2,u3⟩:=k1.2.2.2.2
   show _/\_/\((12+q.cost:Nat):Int)<=_
   rcases qas xs i with ⟨e1,l1⟩|⟨e1,l1⟩
   ·omega
   ·exact absurd (l1 4) (by omega)
  refine⟨.some false q,i',⟨⟨k1.1,by show q.fo.size<=2000; have:=k1.2.2.2.1; omega⟩,rfl,k1.2.1,k1.2.2.1,k1.2.2.2.1⟩,k2,hco,?_⟩
  simp at k3
  conv=>lhs; rw[qaa]
  simp[qab,qcz,n1,h2,k3,w1,Nd.d,Hd.k,Hd.f,Hd.ks,tfr,tst,qgP,Wa]
 ·have hco:Co 0 (Hd.cost .none) xs i (qaC xs i):=by
   show _/\_/\((0:Nat):Int)<=_
   rcases qas xs i with ⟨e1,l1⟩|⟨e1,l1⟩<;>omega
  refine⟨.none,_,qkT,r1,hco,?_⟩
  conv=>lhs; rw[qaa]
  simp[qab,qcz,n1,h2,w1,Nd.d,Hd.k,Hd.f,Hd.ks,tfr,tst,qgP,Wa]
end
theorem qpl{v:D}{xs:List Int}(h:RowV v xs)(hx : ∀ x∈xs,I64 x) : ∃ a b c:Hd,a.gen/\b.gen/\(c.gen/\a.cost+(b.cost+c.cost)<=1440)/\Z qad (.call 123 [.dat v] [])=some (.ret (.dat (ru a.nd b.nd c.nd)) []):=by
 have hx' : ∀ x∈xs.take 60,I64 x:=fun x hm=>hx x (Yq hm)
 have hl':(xs.take 60).length<=100:=by simp; omega
 have n0:=qzX h 60 (by omega)
 obtain⟨a,i1,a1,a2,a3,a4⟩:=qxb (i:=0) (b:=Hd.none.nd) (c:=Hd.none.nd) hx' hl' (by omega)
 obtain⟨b,i2,b1,b2,b3,b4⟩:=qxc (i:=i1) (a:=a.nd) (c:=Hd.none.nd) hx' hl' a2
 obtain⟨c,i3,c1,c2,c3,c4⟩:=qxd (i:=i2) (a:=a.nd) (b:=b.nd) hx' hl' b2
 have hl:=a4.trans (b4.trans (c4.trans qB8))
 have hcost:a.cost+(b.cost+c.cost)<=1440:=by
  obtain⟨p1,p2,p3⟩:=a3
  obtain⟨q1,q2,q3⟩:=b3
  obtain⟨r1,r2,r3⟩:=c3
  have:(xs.take 60).length<=60:=by simp; omega
  omega
 refine⟨a,b,c,a1,b1,⟨c1,hcost⟩,?_⟩
 refine qac (pf:=F123) rfl rfl ?_
 simp only[tfr,tst,qgP,Nd.d,qAX,qAY,qAZ,qA0,qpp,Wg,Wc,show Hd.k .none=0 from rfl,show Hd.f .none=false from rfl,show Hd.ks .none = .nil from rfl,z12,qaO,qaI,qz9] at hl
 simp at n0 hl
 simp[F123,n0,hl,ru,Nd.d,Wa]
end
section
open F Gr
set_option maxHeartbeats 1000000
section
variable{vs:List ByteArray}
def hdC(vs:List ByteArray):Hd->Int->Cd
 |.none=>fun _=>[]
 |.some _ b=>snC (codeS vs b) (21,0)
def qjb:Hd->Int->Int
 |.none,_ => -1
 |.some _ _,p=>p
abbrev zP:Ob := .cells [.dat (.lit (.slice none 0 0)),.int 0,.int 0,.int 0]
inductive CSt(R:Ob)(e0 e1 e2:Int):S->Cd->Prop
 |nil:CSt R e0 e1 e2 [R,zP,.cells [.dat (.lit (.slice none 0 0)),.int e0,.int e1,.int e2]] []
 |gr (c:Cd) (h:c≠[]):CSt R e0 e1 e2 [R,zP,.cells [.gsl (icC c) c.length 2 3,.int e0,.int e1,.int e2],.tip (icC c).length] c
end
end
section
open Gr
def qeH(vs:List ByteArray)(a b c:Hd):Cd:=sq (hdC vs a) (sq (hdC vs b) (hdC vs c)) 0
def qhM(a:Hd):Int:=qjb a 0
def qgN(vs:List ByteArray)(a b:Hd):Int:=qjb b (hdC vs a 0).length
def qgO(vs:List ByteArray)(a b c:Hd):Int:=qjb c (sq (hdC vs a) (hdC vs b) 0).length
structure Hg(C:Int->Cd)(n:Nat)(D:Nat->Int):Prop where
 ln:Ln C n
 ok : ∀ p i,i<n->vOp (opA (C p) i) (nA (C p) i) p (p+n-1)
 pop : ∀ p i,i<n->qfA (opA (C p) i)<=D i
 flow : ∀ p i,i<n -> ∀ j∈qo7 (opA (C p) i) (nA (C p) i) (p+i),p<=j/\j<=p+n-1/\D (j-p).toNat=D i+(qdX (opA (C p) i)-qfA (opA (C p) i))
 stp : ∀ p i,i<n->opA (C p) i=21->D i=0
theorem qzh{A B:Int->Cd}{n m:Nat}{DA DB:Nat->Int}(a:Hg A n DA)(b:Hg B m DB):Hg (sq A B) (n+m) (fun i=>if i<n then DA i else DB (i-n)):=by
 have opl : ∀ p i,i<n->opA (sq A B p) i=opA (A p) i/\nA (sq A B p) i=nA (A p) i:=fun p i h=>qdQ (by rw[a.ln p]; exact h)
 have opr : ∀ p i,n<=i->opA (sq A B p) i=opA (B (p+n)) (i-n)/\nA (sq A B p) i=nA (B (p+n)) (i-n):=fun p i h=>by
  have:=qb3 (a:=A p) (b:=B (p+(A p).length)) (i:=i) (by rw[a.ln p]; omega)
  rw[a.ln p] at this
  exact⟨by rw[sq,a.ln p]; exact this.1,by rw[sq,a.ln p]; exact this.2⟩
 refine⟨qbG a.ln b.ln,?_,?_,?_,?_⟩
 ·intro p i hi
  by_cases h:i<n
  ·rw[(opl p i h).1,(opl p i h).2]; exact qcs (a.ok p i h) (by omega) (by omega)
  ·rw[(opr p i (by omega)).1,(opr p i (by omega)).2]; exact qcs (b.ok (p+n) (i-n) (by omega)) (by omega) (by omega)
 ·intro p i hi
  show _<=if i<n then DA i else DB (i-n)
  by_cases h:i<n
  ·rw[(opl p i h).1,if_pos h]; exact a.pop p i h
  ·rw[(opr p i (by omega)).1,if_neg h]; exact b.pop _ (i-n) (by omega)
 ·intro p i hi j hj
  show _/\_/\(if (j-p).toNat<n then DA (j-p).toNat else DB ((j-p).toNat-n))=(if i<n then DA i else DB (i-n))+_
  by_cases h:i<n
  ·rw[(opl p i h).1,(opl p i h).2] at hj
   rw[(opl p i h).1,if_pos h]
   obtain⟨q1,q2,q3⟩:=a.flow p i h j hj
   rw[if_pos (by omega)]
   exact⟨q1,by omega,q3⟩
  ·rw[(opr p i (by omega)).1,(opr p i (by omega)).2,show p+(i:Int)=(p+n)+((i-n:Nat):Int) by omega] at hj
   rw[(opr p i (by omega)).1,if_neg h]
   obtain⟨q1,q2,q3⟩:=b.flow (p+n) (i-n) (by omega) j hj
   rw[if_neg (by omega),show (j-p).toNat-n=(j-(p+n)).toNat by omega]
   exact⟨by omega,by omega,q3⟩
 ·intro p i hi h
  show (if i<n then DA i else DB (i-n))=0
  by_cases h':i<n
  ·rw[(opl p i h').1] at h; rw[if_pos h']; exact a.stp p i h' h
  ·rw[(opr p i (by omega)).1] at h; rw[if_neg h']; exact b.stp _ (i-n) (by omega) h
theorem qv9{vs:List ByteArray}(hv:vs.length<=16)(h:Hd)(hf:h.ss.fine)(hi:h.ss.inV vs) : ∃ n D,Hg (hdC vs h) n D/\(h ≠ .none->0<n/\D 0=0)/\(h = .none->n=0) /\ ∀ i,i<n->D i<=max 0 h.ss.hh:=by
 cases h with
 |none=>exact⟨0,fun _=>0,⟨fun _=>rfl,fun _ _ h=>by omega,fun _ _ h=>by omega,fun _ _ h=>by omega,fun _ _ h=>by omega⟩,fun h=>absurd rfl h,fun _=>rfl,fun i h=>by omega⟩
 |some f b=>
  obtain⟨n,s,D,g⟩:=qCY hv (q:=max 0 b.hh) (by omega) b hf hi (by omega)
  have opl : ∀ p i,i<n->opA (hdC vs (.some f b) p) i=opA (codeS vs b p) i/\nA (hdC vs (.some f b) p) i=nA (codeS vs b p) i:=fun p i h=>qdQ (by rw[g.ln p]; exact h)
  have opr : ∀ p,opA (hdC vs (.some f b) p) n=21/\nA (hdC vs (.some f b) p) n=0:=fun p=>by
   have:=qb3 (a:=codeS vs b p) (b:=[(21,0)]) (i:=n) (by rw[g.ln p]; omega)
   rw[g.ln p,Nat.sub_self] at this
   exact this
  refine⟨n+1,D 0,⟨qb8 g.ln,?_,?_,?_,?_⟩,fun _=>⟨by omega,g.beg 0⟩,fun h=>(by cases h),fun i hi=>by have:=g.hi 0 i (by omega); show _<=max 0 b.hh; omega⟩
  ·intro p i hi
   by_cases h:i<n
   ·rw[(opl p i h).1,(opl p i h).2]; exact qcs (g.ok p i h) (by omega) (by omega)
   ·obtain rfl:i=n:=by omega
    rw[(opr p).1,(opr p).2]; exact⟨by omega,by rw[if_neg (by omega),if_neg (by omega),if_neg (by omega),if_neg (by omega),if_neg (by omega)]⟩
  ·intro p i hi
   by_cases h:i<n
   ·rw[(opl p i h).1]; have:=g.pop p 0 i h; omega
   ·obtain rfl:i=n:=by omega
    rw[(opr p).1,g.fin]; decide
  ·intro p i hi j hj
   by_cases h:i<n
   ·rw[(opl p i h).1,(opl p i h).2] at hj
    rw[(opl p i h).1]
    obtain⟨q1,q2,q3⟩:=g.flow p 0 i h j hj
    exact⟨q1,by omega,q3⟩
   ·obtain rfl:i=n:=by omega
    rw[(opr p).1,(opr p).2] at hj
    cases hj
  ·intro p i hi h
   by_cases h':i<n
   ·rw[(opl p i h').1] at h; exact (g.stp p 0 i h' h).2
   ·obtain rfl:i=n:=by omega
    exact g.fin 0
theorem qsT {vs:List ByteArray} (hv:vs.length<=16) {a b c:Hd} (fa:a.ss.fine) (fb:b.ss.fine) (fc:c.ss.fine) (ia:a.ss.inV vs) (ib:b.ss.inV vs) (ic:c.ss.inV vs) :
  ∃ n D,Hg (sq (hdC vs a) (sq (hdC vs b) (hdC vs c))) n D/\(qhM a = -1\/(0<=qhM a/\qhM a<n/\D (qhM a).toNat=0))/\(qgN vs a b = -1\/(0<=qgN vs a b/\qgN vs a b<n/\D (qgN vs a b).toNat=0))/\(qgO vs a b c = -1\/(0<=qgO vs a b c/\qgO vs a b c<n/\D (qgO vs a b c).toNat=0)) /\ ∀ i,i<n->D i<=max 0 (max a.ss.hh (max b.ss.hh c.ss.hh)):=by
 obtain⟨na,Da,ga,pa,za,wa⟩:=qv9 hv a fa ia
 obtain⟨nb,Db,gb,pb,zb,wb⟩:=qv9 hv b fb ib
 obtain⟨nc,Dc,gc,pc,zc,wc⟩:=qv9 hv c fc ic
 refine⟨_,_,qzh ga (qzh gb gc),?_,?_,?_,fun i hi=>?_⟩
 ·cases a with
  |none=>exact .inl rfl
  |some f x=>
   obtain⟨h1,h2⟩:=pa (by simp)
   refine .inr ⟨by simp[qhM,qjb],by simp only[qhM,qjb]; omega,?_⟩
   show (if 0<na then Da 0 else _)=0
   rw[if_pos h1,h2]
 ·have e:(hdC vs a 0).length=na:=ga.ln 0
  cases b with
  |none=>exact .inl rfl
  |some f x=>
   obtain⟨h1,h2⟩:=pb (by simp)
   refine .inr ⟨by simp only[qgN,qjb]; omega,by simp only[qgN,qjb,e]; omega,?_⟩
   show (if ((hdC vs a 0).length:Int).toNat<na then _ else if ((hdC vs a 0).length:Int).toNat-na<nb then _ else _)=0
   rw[e,if_neg (by omega),if_pos (by omega)]
   simp only[qgN,qjb,e]
   rw[show ((na:Nat):Int).toNat-na=0 by omega,h2]
 ·have e:(sq (hdC vs a) (hdC vs b) 0).length=na+nb:=qbG ga.ln gb.ln 0
  cases c with
  |none=>exact .inl rfl
  |some f x=>
   obtain⟨h1,h2⟩:=pc (by simp)
   refine .inr ⟨by simp only[qgO,qjb]; omega,by simp only[qgO,qjb,e]; omega,?_⟩
   show (if ((sq (hdC vs a) (hdC vs b) 0).length:Int).toNat<na then _ else if ((sq (hdC vs a) (hdC vs b) 0).length:Int).toNat-na<nb then _ else _)=0
   rw[e,if_neg (by omega),if_neg (by omega)]
   simp only[qgO,qjb,e]
   rw[show ((na+nb:Nat):Int).toNat-na-nb=0 by omega,h2]
 ·show (if i<na then Da i else if i-na<nb then Db (i-na) else Dc (i-na-nb))<=_
  split
  ·have:=wa i (by omega); omega
  ·split
   ·have:=wb (i-na) (by omega); omega
   ·have:=wc (i-na-nb) (by omega); omega
theorem qqA {vs:List ByteArray} (hv:vs.length<=16) {a b c:Hd} (fa:a.ss.fine) (fb:b.ss.fine) (fc:c.ss.fine) (ia:a.ss.inV vs) (ib:b.ss.inV vs) (ic:c.ss.inV vs) :
  ∃ n D,Hg (sq (hdC vs a) (sq (hdC vs b) (hdC vs c))) n D/\(qhM a = -1\/(0<=qhM a/\qhM a<n/\D (qhM a).toNat=0))/\(qgN vs a b = -1\/(0<=qgN vs a b/\qgN vs a b<n/\D (qgN vs a b).toNat=0))/\(qgO vs a b c = -1\/(0<=qgO vs a b c/\qgO vs a b c<n/\D (qgO vs a b c).toNat=0)):=by
 obtain⟨n,D,g,p0,p1,p2,_⟩:=qsT hv fa fb fc ia ib ic
 exact⟨n,D,g,p0,p1,p2⟩
section
variable{C:Int->Cd}{n:Nat}{D:Nat->Int}
theorem qsU{op x:Int}{n:Nat}(h:vOp op x 0 (0+n-1)):(qhc op&&qAC op x n)=true:=by
 obtain⟨h0,h⟩:=h
 have hk:qhc op=true:=by unfold qhc; simp; omega
 unfold qAC
 rw[hk,Bool.true_and]
 split at h
 ·rw[if_pos (by assumption)]; simp; omega
 rw[if_neg (by assumption)]
 split at h
 ·rw[if_pos (by assumption)]; simp; omega
 rw[if_neg (by assumption)]
 split at h
 ·rw[if_pos (by assumption)]; simp; omega
 rw[if_neg (by assumption)]
 split at h
 ·rw[if_pos (by assumption)]; simp; omega
 rw[if_neg (by assumption)]
 split at h
 ·rw[if_pos (by assumption)]; simp; omega
 rw[if_neg (by assumption)]; simp; exact h
theorem qui{c:Cd} : ∀ (m i:Nat),(∀ k,i<=k->k<i+m->okI c k=true)->okC c m i=true
 |0,_,_=>rfl
 |m+1,i,h=>by
  simp only[okC,Wq]
  exact⟨h i (by omega) (by omega),qui m (i+1) fun k h1 h2=>h k (by omega) (by omega)⟩
theorem Hg.okC(g:Hg C n D):okC (C 0) (C 0).length 0=true:=
 qui _ _ fun k _ h=>by
  have hl:=g.ln 0
  have:=qsU (g.ok 0 k (by omega))
  unfold okI
  rw[hl]; exact this
theorem Hg.cf(g:Hg C n D){e:Nat}(he:e<n)(h0:D e=0):CF (C 0) e D where
 zero:=h0
 pops:=fun i hi=>g.pop 0 i (by have:=Reach.lt (by rw[g.ln 0]; exact he) hi; rw[g.ln 0] at this; exact this)
 step:=fun i hi j hj hl=>by
  have hin:i<n:=by have:=Reach.lt (by rw[g.ln 0]; exact he) hi; rw[g.ln 0] at this; exact this
  rw[qwU] at hj
  have:=(g.flow 0 i hin j (by rw[show (0:Int)+i=i by omega]; exact hj)).2.2
  rw[show ((j:Int)-0).toNat=j by omega] at this
  exact this
theorem Hg.stop(g:Hg C n D){i:Nat}(hi:i<n)(h:opA (C 0) i=21):D i=0:=g.stp 0 i hi h
end
end
section
open Gr
theorem qsk(l:List ByteArray)(s x:ByteArray):x∈qrm l s↔x∈l\/x=s:=by
 unfold qrm
 split
 ·rename_i h
  constructor
  ·exact .inl
  ·rintro (h'|rfl); exact h'; exact h
 ·simp
theorem qjF(xs:List ByteArray) : ∀ (l:List ByteArray) (x:ByteArray),x∈addAll l xs↔x∈l\/x∈xs:=by
 induction xs with
 |nil=>intro l x; simp[addAll]
 |cons s xs ih=>
  intro l x
  have:=ih (qrm l s) x
  simp only[addAll,Ya] at this ⊢
  rw[this,qsk]
  simp only[Wo,or_assoc]
theorem qhI(xs:List ByteArray) : ∀ l:List ByteArray,l.Nodup->(addAll l xs).Nodup:=by
 induction xs with
 |nil=>intro l h; simpa [addAll] using h
 |cons s xs ih=>
  intro l h
  simp only[addAll,Ya]
  refine ih _ ?_
  unfold qrm
  split
  ·exact h
  ·rename_i hs
   rw[List.nodup_append]
   exact⟨h,by simp,fun a ha b hb=>by simp only[Wm] at hb; subst hb; rintro rfl; exact hs ha⟩
theorem qlu{α : Type}[BEq α][LawfulBEq α] : ∀ (l m:List α),l.Nodup->(∀ x∈l,x∈m)->l.length<=m.length
 |[],m,_,_=>WK _
 |x::l,m,h,hs=>by
  rw[Yw] at h
  have hx:=hs x (by simp)
  have:=qlu l (m.erase x) h.2 fun y hy=>(List.mem_erase_of_ne (fun e=>h.1 (by rw[<- e]; exact hy))).2 (hs y (by simp[hy]))
  rw[List.length_erase_of_mem hx] at this
  have:=List.length_pos_of_mem hx
  simp only[We]
  omega
theorem qfI{vs:List ByteArray} : ∀ (e:E) (r:Fo),(∀ s∈(e.fo r).vars,s∈vs)->e.inV vs /\ ∀ s∈r.vars,s∈vs
 |.int _,r,h=>⟨trivial,fun s hs=>h s (by simp[E.fo,Fo.vars,hs])⟩
 |.bool _,r,h=>⟨trivial,fun s hs=>h s (by simp[E.fo,Fo.vars,hs])⟩
 |.var v,r,h=>⟨h v (by simp[E.fo,Fo.vars]),fun s hs=>h s (by simp[E.fo,Fo.vars,hs])⟩
 |.name _,r,h=>⟨trivial,fun s hs=>h s (by simp[E.fo,Fo.vars,hs])⟩
 |.field _ _ e,r,h=>by
  have:=qfI e .nil fun s hs=>h s (by simp[E.fo,Fo.vars,hs])
  exact⟨this.1,fun s hs=>h s (by simp[E.fo,Fo.vars,hs])⟩
 |.un _ _ e,r,h=>by
  have:=qfI e .nil fun s hs=>h s (by simp[E.fo,Fo.vars,hs])
  exact⟨this.1,fun s hs=>h s (by simp[E.fo,Fo.vars,hs])⟩
 |.bin _ o a b,r,h=>by
  have h1:=qfI a (b.fo .nil) fun s hs=>h s (by simp[E.fo,Fo.vars,hs])
  have h2:=qfI b .nil h1.2
  exact⟨⟨h1.1,h2.1⟩,fun s hs=>h s (by simp[E.fo,Fo.vars,hs])⟩
theorem qeV{vs:List ByteArray} : ∀ b:Ss,(∀ s∈b.fo.vars,s∈vs)->b.inV vs
 |.nil,_=>trivial
 |.assign _ v e r,h=>⟨⟨h v (by simp[Ss.fo,Fo.vars]),(qfI e .nil fun s hs=>h s (by simp[Ss.fo,Fo.vars,hs])).1⟩,qeV r fun s hs=>h s (by simp[Ss.fo,Fo.vars,hs])⟩
 |.store _ _ a b r,h=>by
  have h1:=qfI a (b.fo .nil) fun s hs=>h s (by simp[Ss.fo,Fo.vars,hs])
  exact⟨⟨h1.1,(qfI b .nil h1.2).1⟩,qeV r fun s hs=>h s (by simp[Ss.fo,Fo.vars,hs])⟩
 |.effect _ a b r,h=>by
  have h1:=qfI a (b.fo .nil) fun s hs=>h s (by simp[Ss.fo,Fo.vars,hs])
  exact⟨⟨h1.1,(qfI b .nil h1.2).1⟩,qeV r fun s hs=>h s (by simp[Ss.fo,Fo.vars,hs])⟩
 |.stop r,h=>qeV r fun s hs=>h s (by simp[Ss.fo,Fo.vars,hs])
 |.cond w _ c b r,h=>by
  have h1:=qfI c b.fo fun s hs=>h s (by simp only[Ss.fo,Fo.vars]; simp[hs])
  exact⟨h1.1,qeV b h1.2,qeV r fun s hs=>h s (by simp only[Ss.fo,Fo.vars]; simp[hs])⟩
 |.block _ b r,h=>⟨qeV b fun s hs=>h s (by simp[Ss.fo,Fo.vars,hs]),qeV r fun s hs=>h s (by simp[Ss.fo,Fo.vars,hs])⟩
theorem qdy : ∀ (e:E) (r:Fo),e.fine->(∀ s∈r.vars,s∈qtE) -> ∀ s∈(e.fo r).vars,s∈qtE
 |.int _,r,_,h,s,hs=>h s (by simpa [E.fo,Fo.vars] using hs)
 |.bool _,r,_,h,s,hs=>h s (by simpa [E.fo,Fo.vars] using hs)
 |.var v,r,g,h,s,hs=>by
  simp only[E.fo,Fo.vars,or_true,if_true,Wc,Wg,Wo] at hs
  rcases hs with rfl|hs
  ·exact g
  ·exact h s hs
 |.name _,r,_,h,s,hs=>h s (by simpa [E.fo,Fo.vars] using hs)
 |.field _ _ e,r,g,h,s,hs=>by
  simp only[E.fo,Fo.vars,Int.reduceEq,or_self,if_false,Wc,Wp] at hs
  rcases hs with hs|hs
  ·exact qdy e .nil g.2.1 (by simp[Fo.vars]) s hs
  ·exact h s hs
 |.un _ _ e,r,g,h,s,hs=>by
  simp only[E.fo,Fo.vars,Int.reduceEq,or_self,if_false,Wc,Wp] at hs
  rcases hs with hs|hs
  ·exact qdy e .nil g.1 (by simp[Fo.vars]) s hs
  ·exact h s hs
 |.bin _ o a b,r,g,h,s,hs=>by
  simp only[E.fo,Fo.vars,Int.reduceEq,or_self,if_false,Wc,Wp] at hs
  rcases hs with hs|hs
  ·exact qdy a _ g.1 (qdy b .nil g.2.1 (by simp[Fo.vars])) s hs
  ·exact h s hs
theorem qmx(b:Ss)(hf:b.fine) : ∀ s∈b.fo.vars,s∈qtE:=by
 fun_induction Ss.fine b with
 |case1=>simp[Ss.fo,Fo.vars]
 |case2 _ v e r ih=>
  intro s hs
  simp only[Ss.fo,Fo.vars,true_or,if_true,Wg,Wc,Wo,Wp] at hs
  rcases hs with rfl|hs|hs
  ·exact hf.1.1
  ·exact qdy e .nil hf.1.2.1 (by simp[Fo.vars]) s hs
  ·exact ih hf.2 s hs
 |case3 _ v a b r ih=>
  intro s hs
  simp only[Ss.fo,Fo.vars,Int.reduceEq,or_self,if_false,Wc,Wp] at hs
  rcases hs with hs|hs
  ·exact qdy a _ hf.1.2.1 (qdy b .nil hf.1.2.2.2.1 (by simp[Fo.vars])) s hs
  ·exact ih hf.2 s hs
 |case4 _ a b r ih=>
  intro s hs
  simp only[Ss.fo,Fo.vars,Int.reduceEq,or_self,if_false,Wc,Wp] at hs
  rcases hs with hs|hs
  ·exact qdy a _ hf.1.1 (qdy b .nil hf.1.2.2.1 (by simp[Fo.vars])) s hs
  ·exact ih hf.2 s hs
 |case5 r ih=>
  intro s hs
  simp only[Ss.fo,Fo.vars,Int.reduceEq,or_self,if_false,Wc] at hs
  exact ih hf s hs
 |case6 _ c _ x _ y r ih1 ih2 ih3=>
  intro s hs
  simp only[Ss.fo,Fo.vars,Int.reduceEq,Wn,or_self,if_false,Wc,Wp] at hs
  rcases hs with hs|hs
  ·refine qdy c _ hf.1.1 ?_ s hs
   intro s hs
   simp only[Fo.vars,Int.reduceEq,or_self,if_false,Wc,Wl,Wp] at hs
   rcases hs with hs|hs
   ·exact ih1 hf.2.1 s hs
   ·exact ih2 hf.2.2.1 s hs
  ·exact ih3 hf.2.2.2 s hs
 |case7 _ c _ x r ih1 ih2=>
  intro s hs
  simp only[Ss.fo,Fo.vars,Int.reduceEq,or_self,if_true,if_false,Wc,Wp] at hs
  rcases hs with hs|hs
  ·refine qdy c _ hf.1.1 ?_ s hs
   intro s hs
   simp only[Fo.vars,Int.reduceEq,or_self,if_false,Wc,Wl] at hs
   exact ih1 hf.2.1 s hs
  ·exact ih2 hf.2.2 s hs
 |case8=>exact hf.elim
theorem qg8(h:Hd):h.nd.vars=h.ss.fo.vars:=by
 cases h<;>simp[Nd.vars,Hd.nd,Hd.k,Hd.ks,Hd.ss,Ss.fo,Fo.vars]
section
variable{a b c:Hd}
theorem qsl:a.ss.inV (rvars a.nd b.nd c.nd)/\b.ss.inV (rvars a.nd b.nd c.nd)/\c.ss.inV (rvars a.nd b.nd c.nd):=by
 have key : ∀ s,s∈rvars a.nd b.nd c.nd↔s∈a.ss.fo.vars\/s∈b.ss.fo.vars\/s∈c.ss.fo.vars:=fun s=>by
  unfold rvars
  rw[qjF,qg8,qg8,qg8]
  simp
 exact⟨qeV _ fun s hs=>(key s).2 (.inl hs),qeV _ fun s hs=>(key s).2 (.inr (.inl hs)),qeV _ fun s hs=>(key s).2 (.inr (.inr hs))⟩
theorem qoQ(fa:a.ss.fine)(fb:b.ss.fine)(fc:c.ss.fine):(rvars a.nd b.nd c.nd).length<=5:=by
 refine qlu _ qtE (qhI _ _ (by simp)) fun s hs=>?_
 unfold rvars at hs
 rw[qjF,qg8,qg8,qg8] at hs
 simp only[Wx,false_or,Wp] at hs
 rcases hs with hs|hs|hs
 ·exact qmx _ fa s hs
 ·exact qmx _ fb s hs
 ·exact qmx _ fc s hs
end
end
section
open F Gr
set_option maxHeartbeats 1000000
def icV(c:Cd):List V:=(icC c).map V.dat
theorem qfO(c:Cd):(icV c).length=c.length*2:=by simp[icV]
theorem qov(a b:Cd):icV (a++b)=icV a++icV b:=by simp[icV,qjR]
theorem quW(o n:Int):icV [(o,n)]=[V.int o,V.int n]:=rfl
theorem qcy(σ : S)(l N:Nat):V.len σ .sl (.own l N 2)=some N:=rfl
theorem qyb(c:Cd)(o n:Int):icV c++[V.int o,V.int n]=icV (c++[(o,n)]):=by rw[qov]; rfl
@[simp] theorem qAi(c:Cd):qaG (icV c)=[]:=by
 unfold icV
 induction icC c with
 |nil=>rfl
 |cons x B ih=>simpa using ih
@[simp] theorem qA6(r:Nat->Nat)(c:Cd):qdI r (icV c)=icV c:=by
 unfold icV
 induction icC c with
 |nil=>rfl
 |cons x B ih=>simpa using ih
theorem qko(c:Cd):qbx (icV c)=some (icC c):=by
 unfold icV
 induction icC c with
 |nil=>rfl
 |cons x B ih=>simp[qbx,ih]
abbrev cob(e0 e1 e2:Int)(l n m:Nat):Ob := .cells [.own l n 2,.mp m,.int e0,.int e1,.int e2]
abbrev qow(e0 e1 e2:Int)(m:Nat):Ob := .cells [.dat (.lit (.slice none 0 0)),.mp m,.int e0,.int e1,.int e2]
abbrev mpo(vs:List ByteArray):Ob := .map (mapM 0 vs)
abbrev qcg(vs:List ByteArray)(e0 e1 e2:Int)(c:Cd):S:=[cob e0 e1 e2 1 c.length 2,.vec (icV c),mpo vs]
abbrev qd3(vs:List ByteArray)(e0 e1 e2:Int):S:=[qow e0 e1 e2 1,mpo vs]
abbrev qhR(vs:List ByteArray)(e0 e1 e2:Int)(c:Cd):S:=[cob e0 e1 e2 2 c.length 1,mpo vs,.vec (icV c)]
attribute [local simp] qa8 qbA dkey
section
variable{vs:List ByteArray}{e0 e1 e2:Int}
theorem qbW(c:Cd)(hc:c.length<2^30)(o n:Int):Z qad (.call 148 [.ptr 0 0,.int o,.int n] (qcg vs e0 e1 e2 c))=some (.ret (.int c.length) (qcg vs e0 e1 e2 (c++[(o,n)]))):=by
 have r1:=qun (n:=c.length+1) (by omega)
 have hl:=qfO c
 have w1:=qai (c.length:Int) (by omega)
 have e:(c.length:Int)+1-1=c.length:=by omega
 refine qac (pf:=F148) rfl rfl ?_
 simp[F148,r1,hl,w1,qcy,qyb,qfO,Wa]
theorem qla(o n:Int):Z qad (.call 148 [.ptr 0 0,.int o,.int n] (qd3 vs e0 e1 e2))=some (.ret (.int 0) (qhR vs e0 e1 e2 [(o,n)])):=by
 have r1:=qun (n:=1) (by omega)
 have w1:IntKind.i64.wrap 0=0:=rfl
 refine qac (pf:=F148) rfl rfl ?_
 simp[F148,r1,w1,qcy,quW,Wa]
end
theorem qh3(o:Bop)(h1:o ≠ .and)(h2:o ≠ .or):Z qad (.call 187 [.str o.str] [])=some (.ret (.int (opI o)) []):=by
 cases o<;>first|exact absurd rfl h1|exact absurd rfl h2|exact qmf (n:=2) (by kernel_rfl)
theorem qh4{s:ByteArray}(h:s∈qdG):Z qad (.call 134 [.str s] [])=some (.ret (.int (fieldI s)) []):=by
 simp only[qdG,qf4,Wg,Wc,Wo,Wx,or_false] at h
 rcases h with rfl|rfl|rfl|rfl|rfl|rfl|rfl|rfl<;>exact qmf (n:=2) (by kernel_rfl)
theorem qiw(s:ByteArray) : ∀ (l:List ByteArray) (i:Nat),s∈l->qd9 .s (.string s) (mapM i l)=some (some (.int (ixI l s+i)))
 |[],i,h=>by cases h
 |x::l,i,h=>by
  by_cases hx:x=s
  ·subst hx
   simp[mapM,qd9,qb6,ixI]
  ·have hm:=(Wo.1 h).resolve_left fun e=>hx e.symm
   have ih:=qiw s l (i+1) hm
   have hb:(s==x)=false:=by rw[qed]; exact decide_eq_false fun e=>hx e.symm
   have h0:=qmD hm
   simp only[mapM,qd9,qb6,hb,ih,ixI,if_neg hx,if_neg (show ¬ ixI l s<0 by omega)]
   congr 3
   omega
end
section
open F Gr
set_option maxHeartbeats 1000000
attribute [local simp] qa8 qbA dkey qga
theorem qtF(c1 c2:Cd)(o n v:Int):List.take (c1.length*2+1) (icV (c1++(o,n)::c2))++V.dat (.lit (.int .i64 v))::List.drop (c1.length*2+1+1) (icV (c1++(o,n)::c2))=icV (c1++(o,v)::c2):=by
 unfold icV
 have e : ∀ z:Int,icC (c1++(o,z)::c2)=(icC c1++[.lit (.int .i64 o)])++(.lit (.int .i64 z)::icC c2):=fun z=>by rw[qjR,Wf]; rfl
 have l:(icC c1++[D.lit (.int .i64 o)]).length=c1.length*2+1:=by simp[qfu c1]
 rw[e n,e v,<- List.map_take,<- List.map_drop,<- l,List.take_left,show (icC c1++[D.lit (.int .i64 o)]).length+1=(icC c1++[D.lit (.int .i64 o)]).length+1 from rfl,List.drop_append,Yu (by omega),show (icC c1++[D.lit (.int .i64 o)]).length+1-(icC c1++[D.lit (.int .i64 o)]).length=1 by omega]
 simp
section
variable{vs:List ByteArray}{e0 e1 e2:Int}
theorem qpu (c:Cd) (hc:c.length<2^30) (o:Int):Z qad (.call 201 [.ptr 0 0,.int o] (qcg vs e0 e1 e2 c)) =
  some (.ret (.fn 204 [] [.ptr 3 0,.ptr 4 0]) (qcg vs e0 e1 e2 (c++[(o,0)])++[.cells [.ptr 0 0],.cells [.int c.length]])):=by
 have z:=qbW (vs:=vs) (e0:=e0) (e1:=e1) (e2:=e2) c hc o 0
 refine qac (pf:=F201) rfl rfl ?_
 simp[F201,z,Wa]
theorem qd1 (c1 c2:Cd) (o x:Int) (hc:(c1++(o,x)::c2).length<2^30) :
  Z qad (.dcall 204 [.dat (.lit .nilIface),.ptr 0 0,.ptr 1 0] [.cells [.ptr 2 0],.cells [.int c1.length],cob e0 e1 e2 3 (c1++(o,x)::c2).length 4,.vec (icV (c1++(o,x)::c2)),mpo vs]) =
  some (.ret (.dat (.lit undef)) [.cells [.ptr 2 0],.cells [.int c1.length],cob e0 e1 e2 3 (c1++(o,x)::c2).length 4,.vec (icV (c1++(o,((c1++(o,x)::c2).length:Int))::c2)),mpo vs]):=by
 have hs:=qtF c1 c2 o x (c1++(o,x)::c2).length
 have hl:=qfO (c1++(o,x)::c2)
 have hk:c1.length<(c1++(o,x)::c2).length:=by simp
 generalize (c1++(o,x)::c2)=c at *
 have hk':(c1.length:Int)<c.length:=by omega
 have hle:c1.length*2+1+1<=c.length*2:=by omega
 refine qmh (pf:=F204) rfl ?_
 simp[qaU,F204,PC.flat,V.isNilIf,qcy,hl,hk,hk',hle,hs,qaf,qcd,qaP,Wa]
end
end
section
open F Gr
set_option maxHeartbeats 2000000
attribute [local simp] qa8 qbA dkey qga
abbrev nbo(k n:Int)(s:ByteArray)(d:D):Ob := .cells [.int k,.int n,.str s,.dat d]
structure Clo2(vs:List ByteArray)(id:Nat)(bn:Ob)(C:Int->Cd)(L:Nat):Prop where
 ln:Ln C L
 one : ∀ (e0 e1 e2:Int) (c:Cd),c≠[]->c.length+4*L<2^30->Z qad (.call id [.ptr 0 0,.ptr 1 0] [.cells [.ptr 2 0],bn,cob e0 e1 e2 3 c.length 4,.vec (icV c),mpo vs]) =
  some (.ret (.tup []) [.cells [.ptr 2 0],bn,cob e0 e1 e2 3 (c++C c.length).length 4,.vec (icV (c++C c.length)),mpo vs])
structure Clo1(vs:List ByteArray)(id:Nat)(C:Int->Cd)(L:Nat):Prop where
 ln:Ln C L
 one : ∀ (e0 e1 e2:Int) (c:Cd),c≠[]->c.length+4*L<2^30->Z qad (.call id [.ptr 0 0] [.cells [.ptr 1 0],cob e0 e1 e2 2 c.length 3,.vec (icV c),mpo vs]) =
  some (.ret (.tup []) [.cells [.ptr 1 0],cob e0 e1 e2 2 (c++C c.length).length 3,.vec (icV (c++C c.length)),mpo vs])
def qxS (vs:List ByteArray) (id:Nat) (bn:Ob) (C:Int->Cd):Prop := ∀ (e0 e1 e2:Int),Z qad (.call id [.ptr 0 0,.ptr 1 0] [.cells [.ptr 2 0],bn,qow e0 e1 e2 3,mpo vs]) =
  some (.ret (.tup []) [.cells [.ptr 2 0],bn,cob e0 e1 e2 4 (C 0).length 3,mpo vs,.vec (icV (C 0))])
def qdJ(A:Int->Cd)(c:Cd):Cd:=c++(19,(c.length:Int)+1+(A (c.length+1)).length+1)::(A (c.length+1)++[(18,0)])
section
variable{vs:List ByteArray}{e0 e1 e2:Int}{id:Nat}{k n:Int}{s:ByteArray}{d:D}{A:Int->Cd}{L:Nat}
theorem qnm (h:Clo2 vs id (nbo k n s d) A L) (c:Cd) (hc:c≠[]) (hl:c.length+4*L+10<2^30) :
  Z qad (.call 200 [.ptr 0 0,.fn id [] [.ptr 1 0,.ptr 2 0]] [cob e0 e1 e2 3 c.length 4,.cells [.ptr 0 0],nbo k n s d,.vec (icV c),mpo vs]) =
   some (.ret (.fn 204 [] [.ptr 5 0,.ptr 6 0]) [cob e0 e1 e2 3 (qdJ A c).length 4,.cells [.ptr 0 0],nbo k n s d,.vec (icV (qdJ A c)),mpo vs,.cells [.ptr 0 0],.cells [.int ((c.length:Int)+1+(A (c.length+1)).length)]]):=by
 have ha:=h.ln (c.length+1)
 obtain⟨c1,h1⟩ : ∃ c1,c1=c++[((19:Int),(0:Int))]:=⟨_,rfl⟩
 have l1:c1.length=c.length+1:=by simp[h1]
 obtain⟨c2,h2⟩ : ∃ c2,c2=c1++A c1.length:=⟨_,rfl⟩
 have e1':((c1.length:Nat):Int)=c.length+1:=by omega
 have l2:c2.length=c.length+1+(A (c.length+1)).length:=by rw[h2,Wb,e1',l1]
 obtain⟨c3,h3⟩ : ∃ c3,c3=c2++[((18:Int),(0:Int))]:=⟨_,rfl⟩
 have l3:c3.length=c2.length+1:=by simp[h3]
 have f3:c3=c++(19,0)::(A (c.length+1)++[(18,0)]):=by rw[h3,h2,h1]; simp
 obtain⟨c4,h4⟩ : ∃ c4,c4=qdJ A c:=⟨_,rfl⟩
 have f4:c4=c++(19,(c3.length:Int))::(A (c.length+1)++[(18,0)]):=by rw[h4,qdJ,l3,l2]; simp
 have l4:c4.length=c3.length:=by rw[f4,f3]; simp
 have z1:=qpu (vs:=vs) (e0:=e0) (e1:=e1) (e2:=e2) c (by omega) 19
 rw[<- h1] at z1
 have z2:=h.one e0 e1 e2 c1 (by rw[h1]; simp) (by omega)
 rw[<- h2] at z2
 have z3:=qpu (vs:=vs) (e0:=e0) (e1:=e1) (e2:=e2) c2 (by omega) 18
 rw[<- h3] at z3
 have z4:=qd1 (vs:=vs) (e0:=e0) (e1:=e1) (e2:=e2) c (A (c.length+1)++[(18,0)]) 19 0 (by rw[<- f3]; omega)
 rw[<- f3,<- f4] at z4
 rw[<- h4,show ((c.length:Int)+1+(A (c.length+1)).length)=(c2.length:Int) by omega,l4]
 refine qac (pf:=F200) rfl rfl ?_
 simp[F200,z1,z2,z3,z4,V.isNilIf,Wa]
theorem qt8 (h:Clo1 vs id A L) (c:Cd) (hc:c≠[]) (hl:c.length+4*L+10<2^30) :
  Z qad (.call 200 [.ptr 0 0,.fn id [] [.ptr 1 0]] [cob e0 e1 e2 2 c.length 3,.cells [.ptr 0 0],.vec (icV c),mpo vs]) =
   some (.ret (.fn 204 [] [.ptr 4 0,.ptr 5 0]) [cob e0 e1 e2 2 (qdJ A c).length 3,.cells [.ptr 0 0],.vec (icV (qdJ A c)),mpo vs,.cells [.ptr 0 0],.cells [.int ((c.length:Int)+1+(A (c.length+1)).length)]]):=by
 have ha:=h.ln (c.length+1)
 obtain⟨c1,h1⟩ : ∃ c1,c1=c++[((19:Int),(0:Int))]:=⟨_,rfl⟩
 have l1:c1.length=c.length+1:=by simp[h1]
 obtain⟨c2,h2⟩ : ∃ c2,c2=c1++A c1.length:=⟨_,rfl⟩
 have e1':((c1.length:Nat):Int)=c.length+1:=by omega
 have l2:c2.length=c.length+1+(A (c.length+1)).length:=by rw[h2,Wb,e1',l1]
 obtain⟨c3,h3⟩ : ∃ c3,c3=c2++[((18:Int),(0:Int))]:=⟨_,rfl⟩
 have l3:c3.length=c2.length+1:=by simp[h3]
 have f3:c3=c++(19,0)::(A (c.length+1)++[(18,0)]):=by rw[h3,h2,h1]; simp
 obtain⟨c4,h4⟩ : ∃ c4,c4=qdJ A c:=⟨_,rfl⟩
 have f4:c4=c++(19,(c3.length:Int))::(A (c.length+1)++[(18,0)]):=by rw[h4,qdJ,l3,l2]; simp
 have l4:c4.length=c3.length:=by rw[f4,f3]; simp
 have z1:=qpu (vs:=vs) (e0:=e0) (e1:=e1) (e2:=e2) c (by omega) 19
 rw[<- h1] at z1
 have z2:=h.one e0 e1 e2 c1 (by rw[h1]; simp) (by omega)
 rw[<- h2] at z2
 have z3:=qpu (vs:=vs) (e0:=e0) (e1:=e1) (e2:=e2) c2 (by omega) 18
 rw[<- h3] at z3
 have z4:=qd1 (vs:=vs) (e0:=e0) (e1:=e1) (e2:=e2) c (A (c.length+1)++[(18,0)]) 19 0 (by rw[<- f3]; omega)
 rw[<- f3,<- f4] at z4
 rw[<- h4,show ((c.length:Int)+1+(A (c.length+1)).length)=(c2.length:Int) by omega,l4]
 refine qac (pf:=F200) rfl rfl ?_
 simp[F200,z1,z2,z3,z4,V.isNilIf,Wa]
end
section
variable{vs:List ByteArray}{e0 e1 e2:Int}{i1 i2 i3:Nat}{k n:Int}{s:ByteArray}{d:D}{C A B:Int->Cd}{L La Lb:Nat}
theorem qjs(C A B:Int->Cd)(c:Cd):qdJ A (c++C c.length)++B (qdJ A (c++C c.length)).length=(c++C c.length++(19,((c++C c.length).length:Int)+1+(A ((c++C c.length).length+1)).length+1)::A ((c++C c.length).length+1))++(18,0)::B (qdJ A (c++C c.length)).length:=by
 simp[qdJ]
theorem qoB(C A B:Int->Cd)(c:Cd):(c++C c.length++(19,((c++C c.length).length:Int)+1+(A ((c++C c.length).length+1)).length+1)::A ((c++C c.length).length+1))++(18,((qdJ A (c++C c.length)++B (qdJ A (c++C c.length)).length).length:Int))::B (qdJ A (c++C c.length)).length=c++brC C A B c.length:=by
 have e:((qdJ A (c++C c.length)).length:Int)=c.length+(C c.length).length+1+(A (c.length+(C c.length).length+1)).length+1:=by
  simp only[qdJ,Wb,We,Wk]
  rw[show ((c.length+(C c.length).length:Nat):Int)=(c.length:Int)+(C c.length).length by omega]
  omega
 simp only[brC,Wb]
 rw[show ((c.length+(C c.length).length:Nat):Int)=(c.length:Int)+(C c.length).length by omega]
 rw[show (((qdJ A (c++C c.length)).length+(B (qdJ A (c++C c.length)).length).length:Nat):Int)=((qdJ A (c++C c.length)).length:Int)+(B (qdJ A (c++C c.length)).length).length by omega,e]
 simp
theorem qoC (h1:Clo2 vs i1 (nbo k n s d) C L) (h2:Clo2 vs i2 (nbo k n s d) A La) (h3:Clo1 vs i3 B Lb) (c:Cd) (hc:c≠[]) (hl:c.length+4*(L+La+Lb+2)<2^30) (hL:0<L) :
  Z qad (.call 180 [.ptr 0 0,.fn i1 [] [.ptr 1 0,.ptr 2 0],.fn i2 [] [.ptr 1 0,.ptr 2 0],.fn i3 [] [.ptr 1 0]] [cob e0 e1 e2 3 c.length 4,.cells [.ptr 0 0],nbo k n s d,.vec (icV c),mpo vs])=some (.ret (.tup []) [cob e0 e1 e2 3 (c++brC C A B c.length).length 4,.cells [.ptr 0 0],nbo k n s d,.vec (icV (c++brC C A B c.length)),mpo vs]):=by
 obtain⟨c0,hc0⟩ : ∃ c0,c0=c++C c.length:=⟨_,rfl⟩
 have z1:=h1.one e0 e1 e2 c hc (by omega)
 rw[<- hc0] at z1
 have l0:c0.length=c.length+L:=by rw[hc0,Wb,h1.ln]
 have n0:c0≠[]:=by rw[hc0]; simp[hc]
 have la:=h2.ln (c0.length+1)
 have z2:=qnm (e0:=e0) (e1:=e1) (e2:=e2) h2 c0 n0 (by omega)
 have eb:=qjs C A B c
 have eq:=qoB C A B c
 rw[<- hc0] at eb eq
 have lf:(qdJ A c0).length=c0.length+1+La+1:=by simp only[qdJ,Wb,We,Wk,la]; omega
 obtain⟨c1,h1'⟩ : ∃ c1,c1=qdJ A c0:=⟨_,rfl⟩
 rw[<- h1'] at z2 eb eq lf
 have z3:=h3.one e0 e1 e2 c1 (by rw[h1',qdJ]; simp) (by omega)
 have lb:=h3.ln c1.length
 obtain⟨c2,h2'⟩ : ∃ c2,c2=c1++B c1.length:=⟨_,rfl⟩
 have l2:c2.length=c1.length+Lb:=by rw[h2',Wb,lb]
 rw[<- h2'] at z3 eb eq
 have z4:=qd1 (vs:=vs) (e0:=e0) (e1:=e1) (e2:=e2) (c0++(19,(c0.length:Int)+1+(A (c0.length+1)).length+1)::A (c0.length+1)) (B c1.length) 18 0 (by rw[<- eb]; omega)
 rw[<- eb,eq] at z4
 have l3:(c++brC C A B c.length).length=c2.length:=by rw[<- eq,eb]; simp
 have lk:(((c0++(19,(c0.length:Int)+1+(A (c0.length+1)).length+1)::A (c0.length+1)).length:Nat):Int)=(c0.length:Int)+1+(A (c0.length+1)).length:=by simp only[Wb,We]; omega
 rw[lk] at z4
 generalize c++brC C A B c.length=c3 at *
 generalize (c0.length:Int)+1+(A (c0.length+1)).length=at_ at *
 rw[l3]
 refine qac (pf:=F180) rfl rfl ?_
 simp[F180,z1,z2,z3,z4,V.isNilIf,Wa]
theorem qoD (h1:Clo2 vs i1 (nbo k n s d) C L) (h0:qxS vs i1 (nbo k n s d) C) (h2:Clo2 vs i2 (nbo k n s d) A La) (h3:Clo1 vs i3 B Lb) (hl:4*(L+La+Lb+2)<2^30) (hL:0<L) :
  Z qad (.call 180 [.ptr 0 0,.fn i1 [] [.ptr 1 0,.ptr 2 0],.fn i2 [] [.ptr 1 0,.ptr 2 0],.fn i3 [] [.ptr 1 0]] [qow e0 e1 e2 3,.cells [.ptr 0 0],nbo k n s d,mpo vs])=some (.ret (.tup []) [cob e0 e1 e2 4 (brC C A B 0).length 3,.cells [.ptr 0 0],nbo k n s d,mpo vs,.vec (icV (brC C A B 0))]):=by
 obtain⟨c,hcn⟩ : ∃ c:Cd,c=[]:=⟨_,rfl⟩
 obtain⟨c0,hc0⟩ : ∃ c0,c0=c++C c.length:=⟨_,rfl⟩
 have z1:=h0 e0 e1 e2
 rw[show C 0=c0 by rw[hc0,hcn]; rfl] at z1
 have l0:c0.length=c.length+L:=by rw[hc0,Wb,h1.ln]
 have n0:c0≠[]:=fun e=>by rw[e] at l0; simp only[Wk] at l0; omega
 have l00:c.length=0:=by rw[hcn]; rfl
 rw[show brC C A B 0=c++brC C A B c.length by rw[hcn]; rfl]
 have la:=h2.ln (c0.length+1)
 have z2:=qnm (e0:=e0) (e1:=e1) (e2:=e2) h2 c0 n0 (by omega)
 have eb:=qjs C A B c
 have eq:=qoB C A B c
 rw[<- hc0] at eb eq
 have lf:(qdJ A c0).length=c0.length+1+La+1:=by simp only[qdJ,Wb,We,Wk,la]; omega
 obtain⟨c1,h1'⟩ : ∃ c1,c1=qdJ A c0:=⟨_,rfl⟩
 rw[<- h1'] at z2 eb eq lf
 have z3:=h3.one e0 e1 e2 c1 (by rw[h1',qdJ]; simp) (by omega)
 have lb:=h3.ln c1.length
 obtain⟨c2,h2'⟩ : ∃ c2,c2=c1++B c1.length:=⟨_,rfl⟩
 have l2:c2.length=c1.length+Lb:=by rw[h2',Wb,lb]
 rw[<- h2'] at z3 eb eq
 have z4:=qd1 (vs:=vs) (e0:=e0) (e1:=e1) (e2:=e2) (c0++(19,(c0.length:Int)+1+(A (c0.length+1)).length+1)::A (c0.length+1)) (B c1.length) 18 0 (by rw[<- eb]; omega)
 rw[<- eb,eq] at z4
 have l3:(c++brC C A B c.length).length=c2.length:=by rw[<- eq,eb]; simp
 have lk:(((c0++(19,(c0.length:Int)+1+(A (c0.length+1)).length+1)::A (c0.length+1)).length:Nat):Int)=(c0.length:Int)+1+(A (c0.length+1)).length:=by simp only[Wb,We]; omega
 rw[lk] at z4
 generalize c++brC C A B c.length=c3 at *
 generalize (c0.length:Int)+1+(A (c0.length+1)).length=at_ at *
 rw[l3]
 refine qac (pf:=F180) rfl rfl ?_
 simp[F180,z1,z2,z3,z4,V.isNilIf,Wa]
theorem qoE (h1:Clo2 vs i1 (nbo k n s d) C L) (h2:Clo1 vs i2 A La) (h3:Clo2 vs i3 (nbo k n s d) B Lb) (c:Cd) (hc:c≠[]) (hl:c.length+4*(L+La+Lb+2)<2^30) (hL:0<L) :
  Z qad (.call 180 [.ptr 0 0,.fn i1 [] [.ptr 1 0,.ptr 2 0],.fn i2 [] [.ptr 1 0],.fn i3 [] [.ptr 1 0,.ptr 2 0]] [cob e0 e1 e2 3 c.length 4,.cells [.ptr 0 0],nbo k n s d,.vec (icV c),mpo vs])=some (.ret (.tup []) [cob e0 e1 e2 3 (c++brC C A B c.length).length 4,.cells [.ptr 0 0],nbo k n s d,.vec (icV (c++brC C A B c.length)),mpo vs]):=by
 obtain⟨c0,hc0⟩ : ∃ c0,c0=c++C c.length:=⟨_,rfl⟩
 have z1:=h1.one e0 e1 e2 c hc (by omega)
 rw[<- hc0] at z1
 have l0:c0.length=c.length+L:=by rw[hc0,Wb,h1.ln]
 have n0:c0≠[]:=by rw[hc0]; simp[hc]
 have la:=h2.ln (c0.length+1)
 have z2:=qt8 (e0:=e0) (e1:=e1) (e2:=e2) h2 c0 n0 (by omega)
 have eb:=qjs C A B c
 have eq:=qoB C A B c
 rw[<- hc0] at eb eq
 have lf:(qdJ A c0).length=c0.length+1+La+1:=by simp only[qdJ,Wb,We,Wk,la]; omega
 obtain⟨c1,h1'⟩ : ∃ c1,c1=qdJ A c0:=⟨_,rfl⟩
 rw[<- h1'] at z2 eb eq lf
 have z3:=h3.one e0 e1 e2 c1 (by rw[h1',qdJ]; simp) (by omega)
 have lb:=h3.ln c1.length
 obtain⟨c2,h2'⟩ : ∃ c2,c2=c1++B c1.length:=⟨_,rfl⟩
 have l2:c2.length=c1.length+Lb:=by rw[h2',Wb,lb]
 rw[<- h2'] at z3 eb eq
 have z4:=qd1 (vs:=vs) (e0:=e0) (e1:=e1) (e2:=e2) (c0++(19,(c0.length:Int)+1+(A (c0.length+1)).length+1)::A (c0.length+1)) (B c1.length) 18 0 (by rw[<- eb]; omega)
 rw[<- eb,eq] at z4
 have l3:(c++brC C A B c.length).length=c2.length:=by rw[<- eq,eb]; simp
 have lk:(((c0++(19,(c0.length:Int)+1+(A (c0.length+1)).length+1)::A (c0.length+1)).length:Nat):Int)=(c0.length:Int)+1+(A (c0.length+1)).length:=by simp only[Wb,We]; omega
 rw[lk] at z4
 generalize c++brC C A B c.length=c3 at *
 generalize (c0.length:Int)+1+(A (c0.length+1)).length=at_ at *
 rw[l3]
 refine qac (pf:=F180) rfl rfl ?_
 simp[F180,z1,z2,z3,z4,V.isNilIf,Wa]
theorem qoF (h1:Clo2 vs i1 (nbo k n s d) C L) (h0:qxS vs i1 (nbo k n s d) C) (h2:Clo1 vs i2 A La) (h3:Clo2 vs i3 (nbo k n s d) B Lb) (hl:4*(L+La+Lb+2)<2^30) (hL:0<L) :
  Z qad (.call 180 [.ptr 0 0,.fn i1 [] [.ptr 1 0,.ptr 2 0],.fn i2 [] [.ptr 1 0],.fn i3 [] [.ptr 1 0,.ptr 2 0]] [qow e0 e1 e2 3,.cells [.ptr 0 0],nbo k n s d,mpo vs])=some (.ret (.tup []) [cob e0 e1 e2 4 (brC C A B 0).length 3,.cells [.ptr 0 0],nbo k n s d,mpo vs,.vec (icV (brC C A B 0))]):=by
 obtain⟨c,hcn⟩ : ∃ c:Cd,c=[]:=⟨_,rfl⟩
 obtain⟨c0,hc0⟩ : ∃ c0,c0=c++C c.length:=⟨_,rfl⟩
 have z1:=h0 e0 e1 e2
 rw[show C 0=c0 by rw[hc0,hcn]; rfl] at z1
 have l0:c0.length=c.length+L:=by rw[hc0,Wb,h1.ln]
 have n0:c0≠[]:=fun e=>by rw[e] at l0; simp only[Wk] at l0; omega
 have l00:c.length=0:=by rw[hcn]; rfl
 rw[show brC C A B 0=c++brC C A B c.length by rw[hcn]; rfl]
 have la:=h2.ln (c0.length+1)
 have z2:=qt8 (e0:=e0) (e1:=e1) (e2:=e2) h2 c0 n0 (by omega)
 have eb:=qjs C A B c
 have eq:=qoB C A B c
 rw[<- hc0] at eb eq
 have lf:(qdJ A c0).length=c0.length+1+La+1:=by simp only[qdJ,Wb,We,Wk,la]; omega
 obtain⟨c1,h1'⟩ : ∃ c1,c1=qdJ A c0:=⟨_,rfl⟩
 rw[<- h1'] at z2 eb eq lf
 have z3:=h3.one e0 e1 e2 c1 (by rw[h1',qdJ]; simp) (by omega)
 have lb:=h3.ln c1.length
 obtain⟨c2,h2'⟩ : ∃ c2,c2=c1++B c1.length:=⟨_,rfl⟩
 have l2:c2.length=c1.length+Lb:=by rw[h2',Wb,lb]
 rw[<- h2'] at z3 eb eq
 have z4:=qd1 (vs:=vs) (e0:=e0) (e1:=e1) (e2:=e2) (c0++(19,(c0.length:Int)+1+(A (c0.length+1)).length+1)::A (c0.length+1)) (B c1.length) 18 0 (by rw[<- eb]; omega)
 rw[<- eb,eq] at z4
 have l3:(c++brC C A B c.length).length=c2.length:=by rw[<- eq,eb]; simp
 have lk:(((c0++(19,(c0.length:Int)+1+(A (c0.length+1)).length+1)::A (c0.length+1)).length:Nat):Int)=(c0.length:Int)+1+(A (c0.length+1)).length:=by simp only[Wb,We]; omega
 rw[lk] at z4
 generalize c++brC C A B c.length=c3 at *
 generalize (c0.length:Int)+1+(A (c0.length+1)).length=at_ at *
 rw[l3]
 refine qac (pf:=F180) rfl rfl ?_
 simp[F180,z1,z2,z3,z4,V.isNilIf,Wa]
theorem qoG (h1:Clo2 vs i1 (nbo k n s d) C L) (h2:Clo2 vs i2 (nbo k n s d) A La) (h3:Clo2 vs i3 (nbo k n s d) B Lb) (c:Cd) (hc:c≠[]) (hl:c.length+4*(L+La+Lb+2)<2^30) (hL:0<L) :
  Z qad (.call 180 [.ptr 0 0,.fn i1 [] [.ptr 1 0,.ptr 2 0],.fn i2 [] [.ptr 1 0,.ptr 2 0],.fn i3 [] [.ptr 1 0,.ptr 2 0]] [cob e0 e1 e2 3 c.length 4,.cells [.ptr 0 0],nbo k n s d,.vec (icV c),mpo vs])=some (.ret (.tup []) [cob e0 e1 e2 3 (c++brC C A B c.length).length 4,.cells [.ptr 0 0],nbo k n s d,.vec (icV (c++brC C A B c.length)),mpo vs]):=by
 obtain⟨c0,hc0⟩ : ∃ c0,c0=c++C c.length:=⟨_,rfl⟩
 have z1:=h1.one e0 e1 e2 c hc (by omega)
 rw[<- hc0] at z1
 have l0:c0.length=c.length+L:=by rw[hc0,Wb,h1.ln]
 have n0:c0≠[]:=by rw[hc0]; simp[hc]
 have la:=h2.ln (c0.length+1)
 have z2:=qnm (e0:=e0) (e1:=e1) (e2:=e2) h2 c0 n0 (by omega)
 have eb:=qjs C A B c
 have eq:=qoB C A B c
 rw[<- hc0] at eb eq
 have lf:(qdJ A c0).length=c0.length+1+La+1:=by simp only[qdJ,Wb,We,Wk,la]; omega
 obtain⟨c1,h1'⟩ : ∃ c1,c1=qdJ A c0:=⟨_,rfl⟩
 rw[<- h1'] at z2 eb eq lf
 have z3:=h3.one e0 e1 e2 c1 (by rw[h1',qdJ]; simp) (by omega)
 have lb:=h3.ln c1.length
 obtain⟨c2,h2'⟩ : ∃ c2,c2=c1++B c1.length:=⟨_,rfl⟩
 have l2:c2.length=c1.length+Lb:=by rw[h2',Wb,lb]
 rw[<- h2'] at z3 eb eq
 have z4:=qd1 (vs:=vs) (e0:=e0) (e1:=e1) (e2:=e2) (c0++(19,(c0.length:Int)+1+(A (c0.length+1)).length+1)::A (c0.length+1)) (B c1.length) 18 0 (by rw[<- eb]; omega)
 rw[<- eb,eq] at z4
 have l3:(c++brC C A B c.length).length=c2.length:=by rw[<- eq,eb]; simp
 have lk:(((c0++(19,(c0.length:Int)+1+(A (c0.length+1)).length+1)::A (c0.length+1)).length:Nat):Int)=(c0.length:Int)+1+(A (c0.length+1)).length:=by simp only[Wb,We]; omega
 rw[lk] at z4
 generalize c++brC C A B c.length=c3 at *
 generalize (c0.length:Int)+1+(A (c0.length+1)).length=at_ at *
 rw[l3]
 refine qac (pf:=F180) rfl rfl ?_
 simp[F180,z1,z2,z3,z4,V.isNilIf,Wa]
theorem qoH (h1:Clo2 vs i1 (nbo k n s d) C L) (h0:qxS vs i1 (nbo k n s d) C) (h2:Clo2 vs i2 (nbo k n s d) A La) (h3:Clo2 vs i3 (nbo k n s d) B Lb) (hl:4*(L+La+Lb+2)<2^30) (hL:0<L) :
  Z qad (.call 180 [.ptr 0 0,.fn i1 [] [.ptr 1 0,.ptr 2 0],.fn i2 [] [.ptr 1 0,.ptr 2 0],.fn i3 [] [.ptr 1 0,.ptr 2 0]] [qow e0 e1 e2 3,.cells [.ptr 0 0],nbo k n s d,mpo vs])=some (.ret (.tup []) [cob e0 e1 e2 4 (brC C A B 0).length 3,.cells [.ptr 0 0],nbo k n s d,mpo vs,.vec (icV (brC C A B 0))]):=by
 obtain⟨c,hcn⟩ : ∃ c:Cd,c=[]:=⟨_,rfl⟩
 obtain⟨c0,hc0⟩ : ∃ c0,c0=c++C c.length:=⟨_,rfl⟩
 have z1:=h0 e0 e1 e2
 rw[show C 0=c0 by rw[hc0,hcn]; rfl] at z1
 have l0:c0.length=c.length+L:=by rw[hc0,Wb,h1.ln]
 have n0:c0≠[]:=fun e=>by rw[e] at l0; simp only[Wk] at l0; omega
 have l00:c.length=0:=by rw[hcn]; rfl
 rw[show brC C A B 0=c++brC C A B c.length by rw[hcn]; rfl]
 have la:=h2.ln (c0.length+1)
 have z2:=qnm (e0:=e0) (e1:=e1) (e2:=e2) h2 c0 n0 (by omega)
 have eb:=qjs C A B c
 have eq:=qoB C A B c
 rw[<- hc0] at eb eq
 have lf:(qdJ A c0).length=c0.length+1+La+1:=by simp only[qdJ,Wb,We,Wk,la]; omega
 obtain⟨c1,h1'⟩ : ∃ c1,c1=qdJ A c0:=⟨_,rfl⟩
 rw[<- h1'] at z2 eb eq lf
 have z3:=h3.one e0 e1 e2 c1 (by rw[h1',qdJ]; simp) (by omega)
 have lb:=h3.ln c1.length
 obtain⟨c2,h2'⟩ : ∃ c2,c2=c1++B c1.length:=⟨_,rfl⟩
 have l2:c2.length=c1.length+Lb:=by rw[h2',Wb,lb]
 rw[<- h2'] at z3 eb eq
 have z4:=qd1 (vs:=vs) (e0:=e0) (e1:=e1) (e2:=e2) (c0++(19,(c0.length:Int)+1+(A (c0.length+1)).length+1)::A (c0.length+1)) (B c1.length) 18 0 (by rw[<- eb]; omega)
 rw[<- eb,eq] at z4
 have l3:(c++brC C A B c.length).length=c2.length:=by rw[<- eq,eb]; simp
 have lk:(((c0++(19,(c0.length:Int)+1+(A (c0.length+1)).length+1)::A (c0.length+1)).length:Nat):Int)=(c0.length:Int)+1+(A (c0.length+1)).length:=by simp only[Wb,We]; omega
 rw[lk] at z4
 generalize c++brC C A B c.length=c3 at *
 generalize (c0.length:Int)+1+(A (c0.length+1)).length=at_ at *
 rw[l3]
 refine qac (pf:=F180) rfl rfl ?_
 simp[F180,z1,z2,z3,z4,V.isNilIf,Wa]
end
end
section
open F Gr
set_option maxHeartbeats 2000000
attribute [local simp] qa8 qbA dkey qga
structure TrB(vs:List ByteArray)(x:V)(C:Int->Cd)(L:Nat):Prop where
 ln:Ln C L
 one : ∀ (e0 e1 e2:Int) (c:Cd),c≠[]->c.length+4*L<2^30->Z qad (.call 147 [.ptr 0 0,x] (qcg vs e0 e1 e2 c))=some (.ret (.tup []) (qcg vs e0 e1 e2 (c++C c.length)))
structure TrOK(vs:List ByteArray)(x:V)(C:Int->Cd)(L:Nat):Prop extends TrB vs x C L where
 pos:0<L
 zero : ∀ (e0 e1 e2:Int),4*L<2^30->Z qad (.call 147 [.ptr 0 0,x] (qd3 vs e0 e1 e2))=some (.ret (.tup []) (qhR vs e0 e1 e2 (C 0)))
section
variable{vs:List ByteArray}{e0 e1 e2:Int}{C:Int->Cd}{L:Nat}{k n:Int}{s:ByteArray}{f:Bool}{N:Nat}{cs r:List D}{a b c1 d:D}{i:Nat}
theorem qux(h1:i<N):qaf 4 (.dat (kd f N cs)) (i:Int)=some (.dat (.imm cs (i*4))):=by
 have:=qBQ (f:=f) (n:=N) (cs:=cs) (i:=(i:Int)) (by omega) (by omega)
 simpa using this
theorem qf1 (h:TrB vs (.dat (.agg [a,b,c1,d])) C L) (hd:cs.drop (i*4)=a::b::c1::d::r) (hi:i<N) (c:Cd) (hc:c≠[]) (hl:c.length+4*L<2^30) :
  Z qad (.call 165 [.ptr 0 0,.dat (.agg [.lit (.int .i64 k),.lit (.int .i64 n),.lit (.string s),kd f N cs]),.int i] (qcg vs e0 e1 e2 c))=some (.ret (.tup []) (qcg vs e0 e1 e2 (c++C c.length))):=by
 have h4:=qx2 hd
 have hi':(i:Int)<N:=by omega
 have z:=h.one e0 e1 e2 c hc hl
 have ha:=qux (f:=f) (cs:=cs) hi
 generalize c++C c.length=c2 at *
 refine qac (pf:=F165) rfl rfl ?_
 simp[F165,hi',ha,h4,z,Wa]
theorem qn4 (h:TrOK vs (.dat (.agg [a,b,c1,d])) C L) (hd:cs.drop (i*4)=a::b::c1::d::r) (hi:i<N) (hl:4*L<2^30) :
  Z qad (.call 165 [.ptr 0 0,.dat (.agg [.lit (.int .i64 k),.lit (.int .i64 n),.lit (.string s),kd f N cs]),.int i] (qd3 vs e0 e1 e2))=some (.ret (.tup []) (qhR vs e0 e1 e2 (C 0))):=by
 have h4:=qx2 hd
 have hi':(i:Int)<N:=by omega
 have z:=h.zero e0 e1 e2 hl
 have ha:=qux (f:=f) (cs:=cs) hi
 generalize C 0=c2 at *
 refine qac (pf:=F165) rfl rfl ?_
 simp[F165,hi',ha,h4,z,Wa]
theorem quy(h:TrB vs (.dat (.agg [a,b,c1,d])) C L)(hd:cs.drop (0*4)=a::b::c1::d::r)(hi:0<N):Clo2 vs 181 (nbo k n s (kd f N cs)) C L where
 ln:=h.ln
 one:=fun e0 e1 e2 c hc hl=>by
  have z:=qf1 (e0:=e0) (e1:=e1) (e2:=e2) (k:=k) (n:=n) (s:=s) (f:=f) h hd hi c hc hl
  rw[show (((0:Nat)):Int)=0 from rfl] at z
  generalize c++C c.length=c2 at *
  refine qac (pf:=F181) rfl rfl ?_
  simp[F181,z,Wa]
theorem qw1(h:TrOK vs (.dat (.agg [a,b,c1,d])) C L)(hd:cs.drop (0*4)=a::b::c1::d::r)(hi:0<N)(hl:4*L<2^30):qxS vs 181 (nbo k n s (kd f N cs)) C:=fun e0 e1 e2=>by
 have z:=qn4 (e0:=e0) (e1:=e1) (e2:=e2) (k:=k) (n:=n) (s:=s) (f:=f) h hd hi hl
 rw[show (((0:Nat)):Int)=0 from rfl] at z
 generalize C 0=c2 at *
 refine qac (pf:=F181) rfl rfl ?_
 simp[F181,z,Wa]
theorem quz(h:TrB vs (.dat (.agg [a,b,c1,d])) C L)(hd:cs.drop (1*4)=a::b::c1::d::r)(hi:1<N):Clo2 vs 182 (nbo k n s (kd f N cs)) C L where
 ln:=h.ln
 one:=fun e0 e1 e2 c hc hl=>by
  have z:=qf1 (e0:=e0) (e1:=e1) (e2:=e2) (k:=k) (n:=n) (s:=s) (f:=f) h hd hi c hc hl
  rw[show (((1:Nat)):Int)=1 from rfl] at z
  generalize c++C c.length=c2 at *
  refine qac (pf:=F182) rfl rfl ?_
  simp[F182,z,Wa]
theorem quA(h:TrB vs (.dat (.agg [a,b,c1,d])) C L)(hd:cs.drop (0*4)=a::b::c1::d::r)(hi:0<N):Clo2 vs 184 (nbo k n s (kd f N cs)) C L where
 ln:=h.ln
 one:=fun e0 e1 e2 c hc hl=>by
  have z:=qf1 (e0:=e0) (e1:=e1) (e2:=e2) (k:=k) (n:=n) (s:=s) (f:=f) h hd hi c hc hl
  rw[show (((0:Nat)):Int)=0 from rfl] at z
  generalize c++C c.length=c2 at *
  refine qac (pf:=F184) rfl rfl ?_
  simp[F184,z,Wa]
theorem qw2(h:TrOK vs (.dat (.agg [a,b,c1,d])) C L)(hd:cs.drop (0*4)=a::b::c1::d::r)(hi:0<N)(hl:4*L<2^30):qxS vs 184 (nbo k n s (kd f N cs)) C:=fun e0 e1 e2=>by
 have z:=qn4 (e0:=e0) (e1:=e1) (e2:=e2) (k:=k) (n:=n) (s:=s) (f:=f) h hd hi hl
 rw[show (((0:Nat)):Int)=0 from rfl] at z
 generalize C 0=c2 at *
 refine qac (pf:=F184) rfl rfl ?_
 simp[F184,z,Wa]
theorem quB(h:TrB vs (.dat (.agg [a,b,c1,d])) C L)(hd:cs.drop (1*4)=a::b::c1::d::r)(hi:1<N):Clo2 vs 186 (nbo k n s (kd f N cs)) C L where
 ln:=h.ln
 one:=fun e0 e1 e2 c hc hl=>by
  have z:=qf1 (e0:=e0) (e1:=e1) (e2:=e2) (k:=k) (n:=n) (s:=s) (f:=f) h hd hi c hc hl
  rw[show (((1:Nat)):Int)=1 from rfl] at z
  generalize c++C c.length=c2 at *
  refine qac (pf:=F186) rfl rfl ?_
  simp[F186,z,Wa]
theorem quC(h:TrB vs (.dat (.agg [a,b,c1,d])) C L)(hd:cs.drop (0*4)=a::b::c1::d::r)(hi:0<N):Clo2 vs 188 (nbo k n s (kd f N cs)) C L where
 ln:=h.ln
 one:=fun e0 e1 e2 c hc hl=>by
  have z:=qf1 (e0:=e0) (e1:=e1) (e2:=e2) (k:=k) (n:=n) (s:=s) (f:=f) h hd hi c hc hl
  rw[show (((0:Nat)):Int)=0 from rfl] at z
  generalize c++C c.length=c2 at *
  refine qac (pf:=F188) rfl rfl ?_
  simp[F188,z,Wa]
theorem qw3(h:TrOK vs (.dat (.agg [a,b,c1,d])) C L)(hd:cs.drop (0*4)=a::b::c1::d::r)(hi:0<N)(hl:4*L<2^30):qxS vs 188 (nbo k n s (kd f N cs)) C:=fun e0 e1 e2=>by
 have z:=qn4 (e0:=e0) (e1:=e1) (e2:=e2) (k:=k) (n:=n) (s:=s) (f:=f) h hd hi hl
 rw[show (((0:Nat)):Int)=0 from rfl] at z
 generalize C 0=c2 at *
 refine qac (pf:=F188) rfl rfl ?_
 simp[F188,z,Wa]
theorem quD(h:TrB vs (.dat (.agg [a,b,c1,d])) C L)(hd:cs.drop (1*4)=a::b::c1::d::r)(hi:1<N):Clo2 vs 189 (nbo k n s (kd f N cs)) C L where
 ln:=h.ln
 one:=fun e0 e1 e2 c hc hl=>by
  have z:=qf1 (e0:=e0) (e1:=e1) (e2:=e2) (k:=k) (n:=n) (s:=s) (f:=f) h hd hi c hc hl
  rw[show (((1:Nat)):Int)=1 from rfl] at z
  generalize c++C c.length=c2 at *
  refine qac (pf:=F189) rfl rfl ?_
  simp[F189,z,Wa]
theorem quE(h:TrB vs (.dat (.agg [a,b,c1,d])) C L)(hd:cs.drop (2*4)=a::b::c1::d::r)(hi:2<N):Clo2 vs 190 (nbo k n s (kd f N cs)) C L where
 ln:=h.ln
 one:=fun e0 e1 e2 c hc hl=>by
  have z:=qf1 (e0:=e0) (e1:=e1) (e2:=e2) (k:=k) (n:=n) (s:=s) (f:=f) h hd hi c hc hl
  rw[show (((2:Nat)):Int)=2 from rfl] at z
  generalize c++C c.length=c2 at *
  refine qac (pf:=F190) rfl rfl ?_
  simp[F190,z,Wa]
theorem quF:Clo1 vs 183 (fun _=>[(1,0)]) 1 where
 ln:=fun _=>rfl
 one:=fun e0 e1 e2 c hc hl=>by
  have z:=qbW (vs:=vs) (e0:=e0) (e1:=e1) (e2:=e2) c (by omega) 1 0
  show Z qad _=some (Res.ret (.tup []) [.cells [.ptr 1 0],cob e0 e1 e2 2 (c++[((1:Int),(0:Int))]).length 3,.vec (icV (c++[((1:Int),(0:Int))])),mpo vs])
  generalize c++[((1:Int),(0:Int))]=c2 at *
  refine qac (pf:=F183) rfl rfl ?_
  simp[F183,z,Wa]
theorem quG:Clo1 vs 185 (fun _=>[(1,1)]) 1 where
 ln:=fun _=>rfl
 one:=fun e0 e1 e2 c hc hl=>by
  have z:=qbW (vs:=vs) (e0:=e0) (e1:=e1) (e2:=e2) c (by omega) 1 1
  show Z qad _=some (Res.ret (.tup []) [.cells [.ptr 1 0],cob e0 e1 e2 2 (c++[((1:Int),(1:Int))]).length 3,.vec (icV (c++[((1:Int),(1:Int))])),mpo vs])
  generalize c++[((1:Int),(1:Int))]=c2 at *
  refine qac (pf:=F185) rfl rfl ?_
  simp[F185,z,Wa]
end
end
section
open F Gr
set_option maxHeartbeats 2000000
attribute [local simp] qa8 qbA dkey qga
section
variable{vs:List ByteArray}
theorem qzQ(n:Int):TrOK vs (E.int n).node (fun _=>[(1,n)]) 1 where
 ln:=fun _=>rfl
 pos:=by omega
 one:=fun e0 e1 e2 c hc hl=>by
  have z:=qbW (vs:=vs) (e0:=e0) (e1:=e1) (e2:=e2) c (by omega) 1 n
  generalize c++[((1:Int),n)]=c2 at *
  refine qac (pf:=F147) rfl rfl ?_
  simp[F147,z,Wa]
 zero:=fun e0 e1 e2 hl=>by
  have z:=qla (vs:=vs) (e0:=e0) (e1:=e1) (e2:=e2) 1 n
  generalize [((1:Int),n)]=c2 at *
  refine qac (pf:=F147) rfl rfl ?_
  simp[F147,z,Wa]
theorem qwW(n:Int):TrOK vs (E.bool n).node (fun _=>[(1,n)]) 1 where
 ln:=fun _=>rfl
 pos:=by omega
 one:=fun e0 e1 e2 c hc hl=>by
  have z:=qbW (vs:=vs) (e0:=e0) (e1:=e1) (e2:=e2) c (by omega) 1 n
  generalize c++[((1:Int),n)]=c2 at *
  refine qac (pf:=F147) rfl rfl ?_
  simp[F147,z,Wa]
 zero:=fun e0 e1 e2 hl=>by
  have z:=qla (vs:=vs) (e0:=e0) (e1:=e1) (e2:=e2) 1 n
  generalize [((1:Int),n)]=c2 at *
  refine qac (pf:=F147) rfl rfl ?_
  simp[F147,z,Wa]
theorem qzR{s:ByteArray}(hs:s∈vs):TrOK vs (E.var s).node (fun _=>[(2,ixI vs s)]) 1 where
 ln:=fun _=>rfl
 pos:=by omega
 one:=fun e0 e1 e2 c hc hl=>by
  have z:=qbW (vs:=vs) (e0:=e0) (e1:=e1) (e2:=e2) c (by omega) 2 (ixI vs s)
  have zf:=qiw s vs 0 hs
  rw[show ixI vs s+((0:Nat):Int)=ixI vs s by omega] at zf
  generalize ixI vs s=v at *
  generalize c++[((2:Int),v)]=c2 at *
  refine qac (pf:=F147) rfl rfl ?_
  simp[F147,z,zf,qdW,qcd,qaP,Wa]
 zero:=fun e0 e1 e2 hl=>by
  have z:=qla (vs:=vs) (e0:=e0) (e1:=e1) (e2:=e2) 2 (ixI vs s)
  have zf:=qiw s vs 0 hs
  rw[show ixI vs s+((0:Nat):Int)=ixI vs s by omega] at zf
  generalize ixI vs s=v at *
  generalize [((2:Int),v)]=c2 at *
  refine qac (pf:=F147) rfl rfl ?_
  simp[F147,z,zf,qdW,qcd,qaP,Wa]
theorem qzS (k n:Int) (s:ByteArray) (d:D) (hd1:V.one (.dat d)=true) (hd2:V.cells (.dat d)=[.dat d]) {e0 e1 e2:Int} (c:Cd) (hc:c.length<2^30) :
  Z qad (.call 166 [.ptr 0 0,.dat (.agg [.lit (.int .i64 k),.lit (.int .i64 n),.lit (.string s),d])] (qcg vs e0 e1 e2 c))=some (.ret (.tup []) (qcg vs e0 e1 e2 (c++[(nameI s,0)]))):=by
 have z:=fun o=>qbW (vs:=vs) (e0:=e0) (e1:=e1) (e2:=e2) c hc o 0
 refine qac (pf:=F166) rfl rfl ?_
 unfold nameI
 by_cases h1:s=⟨#[115,101,108,102]⟩
 ·have q1:=(qaT s ⟨#[115,101,108,102]⟩).trans (decide_eq_true h1)
  rw[if_pos h1]
  have z:=z 6
  generalize c++[((6:Int),(0:Int))]=c2 at *
  simp[F166,q1,z,hd1,hd2,Wa]
 ·have q1:=(qaT s ⟨#[115,101,108,102]⟩).trans (decide_eq_false h1)
  rw[if_neg h1]
  by_cases h2:s=⟨#[111,116,104,101,114]⟩
  ·have q2:=(qaT s ⟨#[111,116,104,101,114]⟩).trans (decide_eq_true h2)
   rw[if_pos h2]
   have z:=z 7
   generalize c++[((7:Int),(0:Int))]=c2 at *
   simp[F166,q1,q2,z,hd1,hd2,Wa]
  ·have q2:=(qaT s ⟨#[111,116,104,101,114]⟩).trans (decide_eq_false h2)
   rw[if_neg h2]
   have z:=z 8
   generalize c++[((8:Int),(0:Int))]=c2 at *
   simp[F166,q1,q2,z,hd1,hd2,Wa]
theorem qzT (k n:Int) (s:ByteArray) (d:D) (hd1:V.one (.dat d)=true) (hd2:V.cells (.dat d)=[.dat d]) {e0 e1 e2:Int} :
  Z qad (.call 166 [.ptr 0 0,.dat (.agg [.lit (.int .i64 k),.lit (.int .i64 n),.lit (.string s),d])] (qd3 vs e0 e1 e2))=some (.ret (.tup []) (qhR vs e0 e1 e2 [(nameI s,0)])):=by
 have z:=fun o=>qla (vs:=vs) (e0:=e0) (e1:=e1) (e2:=e2) o 0
 refine qac (pf:=F166) rfl rfl ?_
 unfold nameI
 by_cases h1:s=⟨#[115,101,108,102]⟩
 ·have q1:=(qaT s ⟨#[115,101,108,102]⟩).trans (decide_eq_true h1)
  rw[if_pos h1]
  have z:=z 6
  generalize [((6:Int),(0:Int))]=c2 at *
  simp[F166,q1,z,hd1,hd2,Wa]
 ·have q1:=(qaT s ⟨#[115,101,108,102]⟩).trans (decide_eq_false h1)
  rw[if_neg h1]
  by_cases h2:s=⟨#[111,116,104,101,114]⟩
  ·have q2:=(qaT s ⟨#[111,116,104,101,114]⟩).trans (decide_eq_true h2)
   rw[if_pos h2]
   have z:=z 7
   generalize [((7:Int),(0:Int))]=c2 at *
   simp[F166,q1,q2,z,hd1,hd2,Wa]
  ·have q2:=(qaT s ⟨#[111,116,104,101,114]⟩).trans (decide_eq_false h2)
   rw[if_neg h2]
   have z:=z 8
   generalize [((8:Int),(0:Int))]=c2 at *
   simp[F166,q1,q2,z,hd1,hd2,Wa]
theorem qwX(s:ByteArray):TrOK vs (E.name s).node (fun _=>[(nameI s,0)]) 1 where
 ln:=fun _=>rfl
 pos:=by omega
 one:=fun e0 e1 e2 c hc hl=>by
  have z:=qzS (vs:=vs) (e0:=e0) (e1:=e1) (e2:=e2) 12 0 s (.lit (.slice none 0 0)) rfl rfl c (by omega)
  generalize nameI s=v at *
  generalize c++[(v,(0:Int))]=c2 at *
  refine qac (pf:=F147) rfl rfl ?_
  simp[F147,z,Wa]
 zero:=fun e0 e1 e2 hl=>by
  have z:=qzT (vs:=vs) (e0:=e0) (e1:=e1) (e2:=e2) 12 0 s (.lit (.slice none 0 0)) rfl rfl
  generalize nameI s=v at *
  generalize [(v,(0:Int))]=c2 at *
  refine qac (pf:=F147) rfl rfl ?_
  simp[F147,z,Wa]
theorem qwY(A:Int->Cd)(i:Int × Int)(c:Cd):(c++A c.length)++[i]=c++snC A i c.length:=by simp[snC]
theorem qiW{c x:Cd}(h:c≠[]):c++x≠[]:=by simp[h]
theorem qth(f:Bool){s:ByteArray}(hs:s∈qdG){a:E}{A:Int->Cd}{L:Nat}(h:TrOK vs a.node A L):TrOK vs (E.field f s a).node (snC A (4,fieldI s)) (L+1) where
 ln:=qb8 h.ln
 pos:=by omega
 one:=fun e0 e1 e2 c hc hl=>by
  have z1:Z qad (.call 165 [.ptr 0 0,(E.field f s a).node,.int 0] (qcg vs e0 e1 e2 c))=_:=qf1 (f:=f) (N:=1) (i:=0) (e0:=e0) (e1:=e1) (e2:=e2) h.toTrB rfl (by omega) c hc (by omega)
  have zf:=qh4 hs
  have l1:(c++A c.length).length<2^30:=by rw[Wb,h.ln]; omega
  have z2:=qbW (vs:=vs) (e0:=e0) (e1:=e1) (e2:=e2) (c++A c.length) l1 4 (fieldI s)
  rw[qwY] at z2
  simp only[E.node,qj4,qlW,qlX,qhm] at z1
  generalize c++A c.length=c1 at *
  generalize c++snC A (4,fieldI s) c.length=c2 at *
  refine qac (pf:=F147) rfl rfl ?_
  simp[F147,z1,z2,zf,Wa]
 zero:=fun e0 e1 e2 hl=>by
  have z1:Z qad (.call 165 [.ptr 0 0,(E.field f s a).node,.int 0] (qd3 vs e0 e1 e2))=_:=qn4 (f:=f) (N:=1) (i:=0) (e0:=e0) (e1:=e1) (e2:=e2) h rfl (by omega) (by omega)
  have zf:=qh4 hs
  have l1:(A 0).length<2^30:=by rw[h.ln]; omega
  have z2:=qbW (vs:=vs) (e0:=e0) (e1:=e1) (e2:=e2) (A 0) l1 4 (fieldI s)
  rw[show A 0++[((4:Int),fieldI s)]=snC A (4,fieldI s) 0 from rfl] at z2
  simp only[E.node,qj4,qlW,qlX,qhm] at z1
  generalize A 0=c1 at *
  generalize snC A (4,fieldI s) 0=c2 at *
  refine qac (pf:=F147) rfl rfl ?_
  simp[F147,z1,z2,zf,Wa]
theorem qqY(f:Bool){a:E}{A:Int->Cd}{L:Nat}(h:TrOK vs a.node A L){e0 e1 e2:Int}(c:Cd)(hc:c≠[])(hl:c.length+4*L<2^30):Z qad (.call 167 [.ptr 0 0,(E.un f true a).node] (qcg vs e0 e1 e2 c))=some (.ret (.tup []) (qcg vs e0 e1 e2 (c++snC A (13,0) c.length))):=by
 have hp:=h.pos
 have z1:Z qad (.call 165 [.ptr 0 0,(E.un f true a).node,.int 0] (qcg vs e0 e1 e2 c))=_:=qf1 (f:=f) (N:=1) (i:=0) (e0:=e0) (e1:=e1) (e2:=e2) h.toTrB rfl (by omega) c hc (by omega)
 have l1:(c++A c.length).length<2^30:=by rw[Wb,h.ln]; omega
 have z2:=qbW (vs:=vs) (e0:=e0) (e1:=e1) (e2:=e2) (c++A c.length) l1 13 0
 rw[qwY] at z2
 simp only[E.node,qe7,qhN,qhO,qez,ustr,Wn,if_true,if_false] at z1
 generalize c++A c.length=c1 at *
 generalize c++snC A (13,0) c.length=c2 at *
 refine qac (pf:=F167) rfl rfl ?_
 simp[F167,z1,z2,ustr,Wa]
theorem qqZ(f:Bool){a:E}{A:Int->Cd}{L:Nat}(h:TrOK vs a.node A L){e0 e1 e2:Int}(hl:4*L<2^30):Z qad (.call 167 [.ptr 0 0,(E.un f true a).node] (qd3 vs e0 e1 e2))=some (.ret (.tup []) (qhR vs e0 e1 e2 (snC A (13,0) 0))):=by
 have hp:=h.pos
 have z1:Z qad (.call 165 [.ptr 0 0,(E.un f true a).node,.int 0] (qd3 vs e0 e1 e2))=_:=qn4 (f:=f) (N:=1) (i:=0) (e0:=e0) (e1:=e1) (e2:=e2) h rfl (by omega) (by omega)
 have l1:(A 0).length<2^30:=by rw[h.ln]; omega
 have z2:=qbW (vs:=vs) (e0:=e0) (e1:=e1) (e2:=e2) (A 0) l1 13 0
 rw[show A 0++[((13:Int),(0:Int))]=snC A (13,0) 0 from rfl] at z2
 simp only[E.node,qe7,qhN,qhO,qez,ustr,Wn,if_true,if_false] at z1
 generalize A 0=c1 at *
 generalize snC A (13,0) 0=c2 at *
 refine qac (pf:=F167) rfl rfl ?_
 simp[F167,z1,z2,ustr,Wa]
theorem qo8(f:Bool){a:E}{A:Int->Cd}{L:Nat}(h:TrOK vs a.node A L):TrOK vs (E.un f true a).node (snC A (13,0)) (L+1) where
 ln:=qb8 h.ln
 pos:=by omega
 one:=fun e0 e1 e2 c hc hl=>by
  have z:=qqY f h (e0:=e0) (e1:=e1) (e2:=e2) c hc (by omega)
  simp only[E.node,qe7,qhN,qhO,qez,ustr,Wn,if_true,if_false] at z
  generalize c++snC A (13,0) c.length=c2 at *
  refine qac (pf:=F147) rfl rfl ?_
  simp[F147,z,ustr,Wa]
 zero:=fun e0 e1 e2 hl=>by
  have z:=qqZ f h (e0:=e0) (e1:=e1) (e2:=e2) (by omega)
  simp only[E.node,qe7,qhN,qhO,qez,ustr,Wn,if_true,if_false] at z
  generalize snC A (13,0) 0=c2 at *
  refine qac (pf:=F147) rfl rfl ?_
  simp[F147,z,ustr,Wa]
theorem qo9(f:Bool){a:E}{A:Int->Cd}{L:Nat}(h:TrOK vs a.node A L){e0 e1 e2:Int}(c:Cd)(hc:c≠[])(hl:c.length+4*L<2^30):Z qad (.call 167 [.ptr 0 0,(E.un f false a).node] (qcg vs e0 e1 e2 c))=some (.ret (.tup []) (qcg vs e0 e1 e2 (c++snC A (17,0) c.length))):=by
 have hp:=h.pos
 have z1:Z qad (.call 165 [.ptr 0 0,(E.un f false a).node,.int 0] (qcg vs e0 e1 e2 c))=_:=qf1 (f:=f) (N:=1) (i:=0) (e0:=e0) (e1:=e1) (e2:=e2) h.toTrB rfl (by omega) c hc (by omega)
 have l1:(c++A c.length).length<2^30:=by rw[Wb,h.ln]; omega
 have z2:=qbW (vs:=vs) (e0:=e0) (e1:=e1) (e2:=e2) (c++A c.length) l1 17 0
 rw[qwY] at z2
 simp only[E.node,qe7,qhN,qhO,qez,ustr,Wn,if_true,if_false] at z1
 generalize c++A c.length=c1 at *
 generalize c++snC A (17,0) c.length=c2 at *
 refine qac (pf:=F167) rfl rfl ?_
 simp[F167,z1,z2,ustr,Wa]
theorem qpa(f:Bool){a:E}{A:Int->Cd}{L:Nat}(h:TrOK vs a.node A L){e0 e1 e2:Int}(hl:4*L<2^30):Z qad (.call 167 [.ptr 0 0,(E.un f false a).node] (qd3 vs e0 e1 e2))=some (.ret (.tup []) (qhR vs e0 e1 e2 (snC A (17,0) 0))):=by
 have hp:=h.pos
 have z1:Z qad (.call 165 [.ptr 0 0,(E.un f false a).node,.int 0] (qd3 vs e0 e1 e2))=_:=qn4 (f:=f) (N:=1) (i:=0) (e0:=e0) (e1:=e1) (e2:=e2) h rfl (by omega) (by omega)
 have l1:(A 0).length<2^30:=by rw[h.ln]; omega
 have z2:=qbW (vs:=vs) (e0:=e0) (e1:=e1) (e2:=e2) (A 0) l1 17 0
 rw[show A 0++[((17:Int),(0:Int))]=snC A (17,0) 0 from rfl] at z2
 simp only[E.node,qe7,qhN,qhO,qez,ustr,Wn,if_true,if_false] at z1
 generalize A 0=c1 at *
 generalize snC A (17,0) 0=c2 at *
 refine qac (pf:=F167) rfl rfl ?_
 simp[F167,z1,z2,ustr,Wa]
theorem qmT(f:Bool){a:E}{A:Int->Cd}{L:Nat}(h:TrOK vs a.node A L):TrOK vs (E.un f false a).node (snC A (17,0)) (L+1) where
 ln:=qb8 h.ln
 pos:=by omega
 one:=fun e0 e1 e2 c hc hl=>by
  have z:=qo9 f h (e0:=e0) (e1:=e1) (e2:=e2) c hc (by omega)
  simp only[E.node,qe7,qhN,qhO,qez,ustr,Wn,if_true,if_false] at z
  generalize c++snC A (17,0) c.length=c2 at *
  refine qac (pf:=F147) rfl rfl ?_
  simp[F147,z,ustr,Wa]
 zero:=fun e0 e1 e2 hl=>by
  have z:=qpa f h (e0:=e0) (e1:=e1) (e2:=e2) (by omega)
  simp only[E.node,qe7,qhN,qhO,qez,ustr,Wn,if_true,if_false] at z
  generalize snC A (17,0) 0=c2 at *
  refine qac (pf:=F147) rfl rfl ?_
  simp[F147,z,ustr,Wa]
end
end
section
open F Gr
set_option maxHeartbeats 2000000
attribute [local simp] qa8 qbA dkey qga
theorem qre(A B:Int->Cd)(c:Cd):(c++A c.length)++B (c++A c.length).length=c++sq A B c.length:=by
 simp only[sq,Wf,Wb]
 rw[show ((c.length+(A c.length).length:Nat):Int)=c.length+(A c.length).length by omega]
section
variable{vs:List ByteArray}{a b:E}{A B:Int->Cd}{La Lb:Nat}{e0 e1 e2:Int}
theorem qxf(ha:TrOK vs a.node A La)(hb:TrOK vs b.node B Lb)(f:Bool)(c:Cd)(hc:c≠[])(hl:c.length+4*(La+Lb+3)<2^30):Z qad (.call 168 [.ptr 0 0,(E.bin f .and a b).node] (qcg vs e0 e1 e2 c))=some (.ret (.tup []) (qcg vs e0 e1 e2 (c++(brC A B (fun _=>[(1,0)])) c.length))):=by
 have s1:=qfL .and
 have s2:=qji .and
 have hpa:=ha.pos
 have z:=qoC (vs:=vs) (e0:=e0) (e1:=e1) (e2:=e2) (quy (k:=14) (n:=0) (s:=(Bop.and).str) (f:=f) (N:=2) (cs:=[.lit (.int .i64 a.kind),.lit (.int .i64 a.num),.lit (.string a.str),a.kids,.lit (.int .i64 b.kind),.lit (.int .i64 b.num),.lit (.string b.str),b.kids]) ha.toTrB rfl (by omega)) (quz (k:=14) (n:=0) (s:=(Bop.and).str) (f:=f) (N:=2) (cs:=[.lit (.int .i64 a.kind),.lit (.int .i64 a.num),.lit (.string a.str),a.kids,.lit (.int .i64 b.kind),.lit (.int .i64 b.num),.lit (.string b.str),b.kids]) hb.toTrB rfl (by omega)) (quF) c hc (by omega) ha.pos
 simp only[nbo,qij] at z
 generalize c++(brC A B (fun _=>[(1,0)])) c.length=c2 at *
 refine qac (pf:=F168) rfl rfl ?_
 simp[F168,s1,s2,qiZ,qq7,z,Wa]
theorem qxg(ha:TrOK vs a.node A La)(hb:TrOK vs b.node B Lb)(f:Bool)(hl:4*(La+Lb+3)<2^30):Z qad (.call 168 [.ptr 0 0,(E.bin f .and a b).node] (qd3 vs e0 e1 e2))=some (.ret (.tup []) (qhR vs e0 e1 e2 ((brC A B (fun _=>[(1,0)])) 0))):=by
 have s1:=qfL .and
 have s2:=qji .and
 have hpa:=ha.pos
 have z:=qoD (vs:=vs) (e0:=e0) (e1:=e1) (e2:=e2) (quy (k:=14) (n:=0) (s:=(Bop.and).str) (f:=f) (N:=2) (cs:=[.lit (.int .i64 a.kind),.lit (.int .i64 a.num),.lit (.string a.str),a.kids,.lit (.int .i64 b.kind),.lit (.int .i64 b.num),.lit (.string b.str),b.kids]) ha.toTrB rfl (by omega)) (qw1 (k:=14) (n:=0) (s:=(Bop.and).str) (f:=f) (N:=2) (cs:=[.lit (.int .i64 a.kind),.lit (.int .i64 a.num),.lit (.string a.str),a.kids,.lit (.int .i64 b.kind),.lit (.int .i64 b.num),.lit (.string b.str),b.kids]) ha rfl (by omega) (by omega)) (quz (k:=14) (n:=0) (s:=(Bop.and).str) (f:=f) (N:=2) (cs:=[.lit (.int .i64 a.kind),.lit (.int .i64 a.num),.lit (.string a.str),a.kids,.lit (.int .i64 b.kind),.lit (.int .i64 b.num),.lit (.string b.str),b.kids]) hb.toTrB rfl (by omega)) (quF) (by omega) ha.pos
 simp only[nbo,qij] at z
 generalize (brC A B (fun _=>[(1,0)])) 0=c2 at *
 refine qac (pf:=F168) rfl rfl ?_
 simp[F168,s1,s2,qiZ,qq7,z,Wa]
theorem qzY(ha:TrOK vs a.node A La)(hb:TrOK vs b.node B Lb)(f:Bool)(c:Cd)(hc:c≠[])(hl:c.length+4*(La+Lb+3)<2^30):Z qad (.call 168 [.ptr 0 0,(E.bin f .or a b).node] (qcg vs e0 e1 e2 c))=some (.ret (.tup []) (qcg vs e0 e1 e2 (c++(brC A (fun _=>[(1,1)]) B) c.length))):=by
 have s1:=qfL .or
 have s2:=qji .or
 have hpa:=ha.pos
 have z:=qoE (vs:=vs) (e0:=e0) (e1:=e1) (e2:=e2) (quA (k:=14) (n:=0) (s:=(Bop.or).str) (f:=f) (N:=2) (cs:=[.lit (.int .i64 a.kind),.lit (.int .i64 a.num),.lit (.string a.str),a.kids,.lit (.int .i64 b.kind),.lit (.int .i64 b.num),.lit (.string b.str),b.kids]) ha.toTrB rfl (by omega)) (quG) (quB (k:=14) (n:=0) (s:=(Bop.or).str) (f:=f) (N:=2) (cs:=[.lit (.int .i64 a.kind),.lit (.int .i64 a.num),.lit (.string a.str),a.kids,.lit (.int .i64 b.kind),.lit (.int .i64 b.num),.lit (.string b.str),b.kids]) hb.toTrB rfl (by omega)) c hc (by omega) ha.pos
 simp only[nbo,qij] at z
 generalize c++(brC A (fun _=>[(1,1)]) B) c.length=c2 at *
 refine qac (pf:=F168) rfl rfl ?_
 simp[F168,s1,s2,qiZ,qq7,z,Wa]
theorem qzZ(ha:TrOK vs a.node A La)(hb:TrOK vs b.node B Lb)(f:Bool)(hl:4*(La+Lb+3)<2^30):Z qad (.call 168 [.ptr 0 0,(E.bin f .or a b).node] (qd3 vs e0 e1 e2))=some (.ret (.tup []) (qhR vs e0 e1 e2 ((brC A (fun _=>[(1,1)]) B) 0))):=by
 have s1:=qfL .or
 have s2:=qji .or
 have hpa:=ha.pos
 have z:=qoF (vs:=vs) (e0:=e0) (e1:=e1) (e2:=e2) (quA (k:=14) (n:=0) (s:=(Bop.or).str) (f:=f) (N:=2) (cs:=[.lit (.int .i64 a.kind),.lit (.int .i64 a.num),.lit (.string a.str),a.kids,.lit (.int .i64 b.kind),.lit (.int .i64 b.num),.lit (.string b.str),b.kids]) ha.toTrB rfl (by omega)) (qw2 (k:=14) (n:=0) (s:=(Bop.or).str) (f:=f) (N:=2) (cs:=[.lit (.int .i64 a.kind),.lit (.int .i64 a.num),.lit (.string a.str),a.kids,.lit (.int .i64 b.kind),.lit (.int .i64 b.num),.lit (.string b.str),b.kids]) ha rfl (by omega) (by omega)) (quG) (quB (k:=14) (n:=0) (s:=(Bop.or).str) (f:=f) (N:=2) (cs:=[.lit (.int .i64 a.kind),.lit (.int .i64 a.num),.lit (.string a.str),a.kids,.lit (.int .i64 b.kind),.lit (.int .i64 b.num),.lit (.string b.str),b.kids]) hb.toTrB rfl (by omega)) (by omega) ha.pos
 simp only[nbo,qij] at z
 generalize (brC A (fun _=>[(1,1)]) B) 0=c2 at *
 refine qac (pf:=F168) rfl rfl ?_
 simp[F168,s1,s2,qiZ,qq7,z,Wa]
theorem qrf(ha:TrOK vs a.node A La)(hb:TrOK vs b.node B Lb)(f:Bool){o:Bop}(h1:qiZ o=false)(h2:qq7 o=false)(h3:qtk o=true\/qw6 o=true)(c:Cd)(hc:c≠[])(hl:c.length+4*(La+Lb+1)<2^30):Z qad (.call 168 [.ptr 0 0,(E.bin f o a b).node] (qcg vs e0 e1 e2 c))=some (.ret (.tup []) (qcg vs e0 e1 e2 (c++(snC (sq B A) (opI o,0)) c.length))):=by
 have s1:=qfL o
 have s2:=qji o
 have s3:=qph o
 have s4:=qpi o
 have s5:=qpj o
 have hpa:=ha.pos
 have hpb:=hb.pos
 have z1:Z qad (.call 165 [.ptr 0 0,(E.bin f o a b).node,.int 1] (qcg vs e0 e1 e2 c))=_:=qf1 (f:=f) (N:=2) (i:=1) (e0:=e0) (e1:=e1) (e2:=e2) hb.toTrB rfl (by omega) c hc (by omega)
 have l1:(c++B c.length).length=c.length+Lb:=by rw[Wb,hb.ln]
 have z2:Z qad (.call 165 [.ptr 0 0,(E.bin f o a b).node,.int 0] (qcg vs e0 e1 e2 (c++B c.length)))=_:=qf1 (f:=f) (N:=2) (i:=0) (e0:=e0) (e1:=e1) (e2:=e2) ha.toTrB rfl (by omega) (c++B c.length) (qiW hc) (by omega)
 rw[qre] at z2
 have l2:(c++sq B A c.length).length<2^30:=by rw[Wb,qbG hb.ln ha.ln]; omega
 have zo:=qh3 o (fun e=>by rw[e] at h1; exact absurd h1 (by decide)) (fun e=>by rw[e] at h2; exact absurd h2 (by decide))
 have z3:=qbW (vs:=vs) (e0:=e0) (e1:=e1) (e2:=e2) (c++sq B A c.length) l2 (opI o) 0
 rw[show (c++sq B A c.length)++[(opI o,(0:Int))]=c++(snC (sq B A) (opI o,0)) c.length by simp[snC]] at z3
 simp only[E.node,qdT,qe8,qe9,qdf] at z1 z2
 generalize c++(snC (sq B A) (opI o,0)) c.length=c5 at *
 generalize c++sq B A c.length=c3 at *
 generalize c++B c.length=c1 at *
 refine qac (pf:=F168) rfl rfl ?_
 rcases h3 with h3|h3
 ·simp[F168,s1,s2,s3,h1,h2,h3,z1,z2,z3,zo,qcd,qaP,Wa]
 ·cases hg:qtk o with
  |true=>simp[F168,s1,s2,s3,h1,h2,hg,z1,z2,z3,zo,qcd,qaP,Wa]
  |false=>simp[F168,s1,s2,s3,s4,h1,h2,h3,hg,z1,z2,z3,zo,qcd,qaP,Wa]
theorem qz0(ha:TrOK vs a.node A La)(hb:TrOK vs b.node B Lb)(f:Bool){o:Bop}(ho:o = .ne)(c:Cd)(hc:c≠[])(hl:c.length+4*(La+Lb+1)<2^30):Z qad (.call 168 [.ptr 0 0,(E.bin f o a b).node] (qcg vs e0 e1 e2 c))=some (.ret (.tup []) (qcg vs e0 e1 e2 (c++(snC (snC (sq A B) (16,0)) (17,0)) c.length))):=by
 subst ho
 have s1:=qfL .ne
 have s2:=qji .ne
 have s3:=qph .ne
 have s4:=qpi .ne
 have s5:=qpj .ne
 have hpa:=ha.pos
 have hpb:=hb.pos
 have z1:Z qad (.call 165 [.ptr 0 0,(E.bin f .ne a b).node,.int 0] (qcg vs e0 e1 e2 c))=_:=qf1 (f:=f) (N:=2) (i:=0) (e0:=e0) (e1:=e1) (e2:=e2) ha.toTrB rfl (by omega) c hc (by omega)
 have l1:(c++A c.length).length=c.length+La:=by rw[Wb,ha.ln]
 have z2:Z qad (.call 165 [.ptr 0 0,(E.bin f .ne a b).node,.int 1] (qcg vs e0 e1 e2 (c++A c.length)))=_:=qf1 (f:=f) (N:=2) (i:=1) (e0:=e0) (e1:=e1) (e2:=e2) hb.toTrB rfl (by omega) (c++A c.length) (qiW hc) (by omega)
 rw[qre] at z2
 have l2:(c++sq A B c.length).length<2^30:=by rw[Wb,qbG ha.ln hb.ln]; omega
 have z3:=qbW (vs:=vs) (e0:=e0) (e1:=e1) (e2:=e2) (c++sq A B c.length) l2 16 0
 rw[show (c++sq A B c.length)++[((16:Int),(0:Int))]=c++snC (sq A B) (16,0) c.length by simp[snC]] at z3
 have l3:(c++snC (sq A B) (16,0) c.length).length<2^30:=by rw[Wb,qb8 (qbG ha.ln hb.ln)]; omega
 have z4:=qbW (vs:=vs) (e0:=e0) (e1:=e1) (e2:=e2) (c++snC (sq A B) (16,0) c.length) l3 17 0
 rw[show (c++snC (sq A B) (16,0) c.length)++[((17:Int),(0:Int))]=c++(snC (snC (sq A B) (16,0)) (17,0)) c.length by simp[snC]] at z4
 simp only[E.node,qdT,qe8,qe9,qdf] at z1 z2
 generalize c++(snC (snC (sq A B) (16,0)) (17,0)) c.length=c5 at *
 generalize c++snC (sq A B) (16,0) c.length=c4 at *
 generalize c++sq A B c.length=c3 at *
 generalize c++A c.length=c1 at *
 refine qac (pf:=F168) rfl rfl ?_
 simp[F168,s1,s2,s3,s4,s5,qiZ,qq7,qtk,qw6,qzV,z1,z2,z3,z4,qcd,qaP,Wa]
theorem qf2(ha:TrOK vs a.node A La)(hb:TrOK vs b.node B Lb)(f:Bool){o:Bop}(h1:qiZ o=false)(h2:qq7 o=false)(h3:qtk o=false)(h4:qw6 o=false)(h5:qzV o=false)(c:Cd)(hc:c≠[])(hl:c.length+4*(La+Lb+1)<2^30):Z qad (.call 168 [.ptr 0 0,(E.bin f o a b).node] (qcg vs e0 e1 e2 c))=some (.ret (.tup []) (qcg vs e0 e1 e2 (c++(snC (sq A B) (opI o,0)) c.length))):=by
 have s1:=qfL o
 have s2:=qji o
 have s3:=qph o
 have s4:=qpi o
 have s5:=qpj o
 have hpa:=ha.pos
 have hpb:=hb.pos
 have z1:Z qad (.call 165 [.ptr 0 0,(E.bin f o a b).node,.int 0] (qcg vs e0 e1 e2 c))=_:=qf1 (f:=f) (N:=2) (i:=0) (e0:=e0) (e1:=e1) (e2:=e2) ha.toTrB rfl (by omega) c hc (by omega)
 have l1:(c++A c.length).length=c.length+La:=by rw[Wb,ha.ln]
 have z2:Z qad (.call 165 [.ptr 0 0,(E.bin f o a b).node,.int 1] (qcg vs e0 e1 e2 (c++A c.length)))=_:=qf1 (f:=f) (N:=2) (i:=1) (e0:=e0) (e1:=e1) (e2:=e2) hb.toTrB rfl (by omega) (c++A c.length) (qiW hc) (by omega)
 rw[qre] at z2
 have l2:(c++sq A B c.length).length<2^30:=by rw[Wb,qbG ha.ln hb.ln]; omega
 have zo:=qh3 o (fun e=>by rw[e] at h1; exact absurd h1 (by decide)) (fun e=>by rw[e] at h2; exact absurd h2 (by decide))
 have z3:=qbW (vs:=vs) (e0:=e0) (e1:=e1) (e2:=e2) (c++sq A B c.length) l2 (opI o) 0
 rw[show (c++sq A B c.length)++[(opI o,(0:Int))]=c++(snC (sq A B) (opI o,0)) c.length by simp[snC]] at z3
 simp only[E.node,qdT,qe8,qe9,qdf] at z1 z2
 generalize c++(snC (sq A B) (opI o,0)) c.length=c5 at *
 generalize c++sq A B c.length=c3 at *
 generalize c++A c.length=c1 at *
 refine qac (pf:=F168) rfl rfl ?_
 simp[F168,s1,s2,s3,s4,s5,h1,h2,h3,h4,h5,z1,z2,z3,zo,qcd,qaP,Wa]
theorem qrg(ha:TrOK vs a.node A La)(hb:TrOK vs b.node B Lb)(f:Bool){o:Bop}(h1:qiZ o=false)(h2:qq7 o=false)(h3:qtk o=true\/qw6 o=true)(hl:4*(La+Lb+1)<2^30):Z qad (.call 168 [.ptr 0 0,(E.bin f o a b).node] (qd3 vs e0 e1 e2))=some (.ret (.tup []) (qhR vs e0 e1 e2 ((snC (sq B A) (opI o,0)) 0))):=by
 have s1:=qfL o
 have s2:=qji o
 have s3:=qph o
 have s4:=qpi o
 have s5:=qpj o
 have hpa:=ha.pos
 have hpb:=hb.pos
 have z1:Z qad (.call 165 [.ptr 0 0,(E.bin f o a b).node,.int 1] (qd3 vs e0 e1 e2))=_:=qn4 (f:=f) (N:=2) (i:=1) (e0:=e0) (e1:=e1) (e2:=e2) hb rfl (by omega) (by omega)
 have l1:(B 0).length=Lb:=hb.ln 0
 have n1:B 0≠[]:=fun e=>by rw[e] at l1; simp only[Wk] at l1; have:=hb.pos; omega
 have z2:Z qad (.call 165 [.ptr 0 0,(E.bin f o a b).node,.int 0] (qcg vs e0 e1 e2 (B 0)))=_:=qf1 (f:=f) (N:=2) (i:=0) (e0:=e0) (e1:=e1) (e2:=e2) ha.toTrB rfl (by omega) (B 0) n1 (by omega)
 rw[show B 0++A (B 0).length=sq B A 0 by simp[sq]] at z2
 have l2:(sq B A 0).length<2^30:=by rw[qbG hb.ln ha.ln]; omega
 have zo:=qh3 o (fun e=>by rw[e] at h1; exact absurd h1 (by decide)) (fun e=>by rw[e] at h2; exact absurd h2 (by decide))
 have z3:=qbW (vs:=vs) (e0:=e0) (e1:=e1) (e2:=e2) (sq B A 0) l2 (opI o) 0
 rw[show (sq B A 0)++[(opI o,(0:Int))]=(snC (sq B A) (opI o,0)) 0 by simp[snC]] at z3
 simp only[E.node,qdT,qe8,qe9,qdf] at z1 z2
 generalize (snC (sq B A) (opI o,0)) 0=c5 at *
 generalize sq B A 0=c3 at *
 generalize B 0=c1 at *
 refine qac (pf:=F168) rfl rfl ?_
 rcases h3 with h3|h3
 ·simp[F168,s1,s2,s3,h1,h2,h3,z1,z2,z3,zo,qcd,qaP,Wa]
 ·cases hg:qtk o with
  |true=>simp[F168,s1,s2,s3,h1,h2,hg,z1,z2,z3,zo,qcd,qaP,Wa]
  |false=>simp[F168,s1,s2,s3,s4,h1,h2,h3,hg,z1,z2,z3,zo,qcd,qaP,Wa]
theorem qz1(ha:TrOK vs a.node A La)(hb:TrOK vs b.node B Lb)(f:Bool){o:Bop}(ho:o = .ne)(hl:4*(La+Lb+1)<2^30):Z qad (.call 168 [.ptr 0 0,(E.bin f o a b).node] (qd3 vs e0 e1 e2))=some (.ret (.tup []) (qhR vs e0 e1 e2 ((snC (snC (sq A B) (16,0)) (17,0)) 0))):=by
 subst ho
 have s1:=qfL .ne
 have s2:=qji .ne
 have s3:=qph .ne
 have s4:=qpi .ne
 have s5:=qpj .ne
 have hpa:=ha.pos
 have hpb:=hb.pos
 have z1:Z qad (.call 165 [.ptr 0 0,(E.bin f .ne a b).node,.int 0] (qd3 vs e0 e1 e2))=_:=qn4 (f:=f) (N:=2) (i:=0) (e0:=e0) (e1:=e1) (e2:=e2) ha rfl (by omega) (by omega)
 have l1:(A 0).length=La:=ha.ln 0
 have n1:A 0≠[]:=fun e=>by rw[e] at l1; simp only[Wk] at l1; have:=ha.pos; omega
 have z2:Z qad (.call 165 [.ptr 0 0,(E.bin f .ne a b).node,.int 1] (qcg vs e0 e1 e2 (A 0)))=_:=qf1 (f:=f) (N:=2) (i:=1) (e0:=e0) (e1:=e1) (e2:=e2) hb.toTrB rfl (by omega) (A 0) n1 (by omega)
 rw[show A 0++B (A 0).length=sq A B 0 by simp[sq]] at z2
 have l2:(sq A B 0).length<2^30:=by rw[qbG ha.ln hb.ln]; omega
 have z3:=qbW (vs:=vs) (e0:=e0) (e1:=e1) (e2:=e2) (sq A B 0) l2 16 0
 rw[show (sq A B 0)++[((16:Int),(0:Int))]=snC (sq A B) (16,0) 0 by simp[snC]] at z3
 have l3:(snC (sq A B) (16,0) 0).length<2^30:=by rw[qb8 (qbG ha.ln hb.ln)]; omega
 have z4:=qbW (vs:=vs) (e0:=e0) (e1:=e1) (e2:=e2) (snC (sq A B) (16,0) 0) l3 17 0
 rw[show (snC (sq A B) (16,0) 0)++[((17:Int),(0:Int))]=(snC (snC (sq A B) (16,0)) (17,0)) 0 by simp[snC]] at z4
 simp only[E.node,qdT,qe8,qe9,qdf] at z1 z2
 generalize (snC (snC (sq A B) (16,0)) (17,0)) 0=c5 at *
 generalize snC (sq A B) (16,0) 0=c4 at *
 generalize sq A B 0=c3 at *
 generalize A 0=c1 at *
 refine qac (pf:=F168) rfl rfl ?_
 simp[F168,s1,s2,s3,s4,s5,qiZ,qq7,qtk,qw6,qzV,z1,z2,z3,z4,qcd,qaP,Wa]
theorem qf3(ha:TrOK vs a.node A La)(hb:TrOK vs b.node B Lb)(f:Bool){o:Bop}(h1:qiZ o=false)(h2:qq7 o=false)(h3:qtk o=false)(h4:qw6 o=false)(h5:qzV o=false)(hl:4*(La+Lb+1)<2^30):Z qad (.call 168 [.ptr 0 0,(E.bin f o a b).node] (qd3 vs e0 e1 e2))=some (.ret (.tup []) (qhR vs e0 e1 e2 ((snC (sq A B) (opI o,0)) 0))):=by
 have s1:=qfL o
 have s2:=qji o
 have s3:=qph o
 have s4:=qpi o
 have s5:=qpj o
 have hpa:=ha.pos
 have hpb:=hb.pos
 have z1:Z qad (.call 165 [.ptr 0 0,(E.bin f o a b).node,.int 0] (qd3 vs e0 e1 e2))=_:=qn4 (f:=f) (N:=2) (i:=0) (e0:=e0) (e1:=e1) (e2:=e2) ha rfl (by omega) (by omega)
 have l1:(A 0).length=La:=ha.ln 0
 have n1:A 0≠[]:=fun e=>by rw[e] at l1; simp only[Wk] at l1; have:=ha.pos; omega
 have z2:Z qad (.call 165 [.ptr 0 0,(E.bin f o a b).node,.int 1] (qcg vs e0 e1 e2 (A 0)))=_:=qf1 (f:=f) (N:=2) (i:=1) (e0:=e0) (e1:=e1) (e2:=e2) hb.toTrB rfl (by omega) (A 0) n1 (by omega)
 rw[show A 0++B (A 0).length=sq A B 0 by simp[sq]] at z2
 have l2:(sq A B 0).length<2^30:=by rw[qbG ha.ln hb.ln]; omega
 have zo:=qh3 o (fun e=>by rw[e] at h1; exact absurd h1 (by decide)) (fun e=>by rw[e] at h2; exact absurd h2 (by decide))
 have z3:=qbW (vs:=vs) (e0:=e0) (e1:=e1) (e2:=e2) (sq A B 0) l2 (opI o) 0
 rw[show (sq A B 0)++[(opI o,(0:Int))]=(snC (sq A B) (opI o,0)) 0 by simp[snC]] at z3
 simp only[E.node,qdT,qe8,qe9,qdf] at z1 z2
 generalize (snC (sq A B) (opI o,0)) 0=c5 at *
 generalize sq A B 0=c3 at *
 generalize A 0=c1 at *
 refine qac (pf:=F168) rfl rfl ?_
 simp[F168,s1,s2,s3,s4,s5,h1,h2,h3,h4,h5,z1,z2,z3,zo,qcd,qaP,Wa]
end
end
section
open F Gr
set_option maxHeartbeats 2000000
attribute [local simp] qa8 qbA dkey qga
section
variable{vs:List ByteArray}{a b:E}{A B:Int->Cd}{La Lb:Nat}
theorem qbQ (f:Bool) (o:Bop) {K:Nat} (hk:Ln (binC o A B) K) (h0:0<K) (h1 : ∀ (e0 e1 e2:Int) (c:Cd),c≠[]->c.length+4*K<2^30->Z qad (.call 168 [.ptr 0 0,(E.bin f o a b).node] (qcg vs e0 e1 e2 c))=some (.ret (.tup []) (qcg vs e0 e1 e2 (c++(binC o A B) c.length))))
  (h2 : ∀ (e0 e1 e2:Int),4*K<2^30->Z qad (.call 168 [.ptr 0 0,(E.bin f o a b).node] (qd3 vs e0 e1 e2))=some (.ret (.tup []) (qhR vs e0 e1 e2 ((binC o A B) 0)))):TrOK vs (E.bin f o a b).node (binC o A B) K where
 ln:=hk
 pos:=h0
 one:=fun e0 e1 e2 c hc hl=>by
  have z:=h1 e0 e1 e2 c hc hl
  simp only[E.node,qdT,qe8,qe9,qdf] at z
  generalize c++binC o A B c.length=c2 at *
  refine qac (pf:=F147) rfl rfl ?_
  simp[F147,z,Wa]
 zero:=fun e0 e1 e2 hl=>by
  have z:=h2 e0 e1 e2 hl
  simp only[E.node,qdT,qe8,qe9,qdf] at z
  generalize binC o A B 0=c2 at *
  refine qac (pf:=F147) rfl rfl ?_
  simp[F147,z,Wa]
theorem qyu(ha:TrOK vs a.node A La)(hb:TrOK vs b.node B Lb)(f:Bool)(o:Bop) : ∃ K,TrOK vs (E.bin f o a b).node (binC o A B) K:=by
 have h1:Ln (fun _=>[((1:Int),(0:Int))]) 1:=fun _=>rfl
 have h1':Ln (fun _=>[((1:Int),(1:Int))]) 1:=fun _=>rfl
 have pa:=ha.pos
 have pb:=hb.pos
 cases o
 case and=>exact⟨_,qbQ f .and (qmO ha.ln hb.ln h1) (by omega) (fun e0 e1 e2 c hc hl=>qxf ha hb f c hc (by omega)) (fun e0 e1 e2 hl=>qxg ha hb f (by omega))⟩
 case or=>exact⟨_,qbQ f .or (qmO ha.ln h1' hb.ln) (by omega) (fun e0 e1 e2 c hc hl=>qzY ha hb f c hc (by omega)) (fun e0 e1 e2 hl=>qzZ ha hb f (by omega))⟩
 case gt=>exact⟨_,qbQ f .gt (qb8 (qbG hb.ln ha.ln)) (by omega) (fun e0 e1 e2 c hc hl=>qrf ha hb f (o := .gt) rfl rfl (.inl rfl) c hc (by omega)) (fun e0 e1 e2 hl=>qrg ha hb f (o := .gt) rfl rfl (.inl rfl) (by omega))⟩
 case ge=>exact⟨_,qbQ f .ge (qb8 (qbG hb.ln ha.ln)) (by omega) (fun e0 e1 e2 c hc hl=>qrf ha hb f (o := .ge) rfl rfl (.inr rfl) c hc (by omega)) (fun e0 e1 e2 hl=>qrg ha hb f (o := .ge) rfl rfl (.inr rfl) (by omega))⟩
 case ne=>exact⟨_,qbQ f .ne (qb8 (qb8 (qbG ha.ln hb.ln))) (by omega) (fun e0 e1 e2 c hc hl=>qz0 ha hb f rfl c hc (by omega)) (fun e0 e1 e2 hl=>qz1 ha hb f rfl (by omega))⟩
 case add=>exact⟨_,qbQ f .add (qb8 (qbG ha.ln hb.ln)) (by omega) (fun e0 e1 e2 c hc hl=>qf2 ha hb f (o := .add) rfl rfl rfl rfl rfl c hc (by omega)) (fun e0 e1 e2 hl=>qf3 ha hb f (o := .add) rfl rfl rfl rfl rfl (by omega))⟩
 case sub=>exact⟨_,qbQ f .sub (qb8 (qbG ha.ln hb.ln)) (by omega) (fun e0 e1 e2 c hc hl=>qf2 ha hb f (o := .sub) rfl rfl rfl rfl rfl c hc (by omega)) (fun e0 e1 e2 hl=>qf3 ha hb f (o := .sub) rfl rfl rfl rfl rfl (by omega))⟩
 case mul=>exact⟨_,qbQ f .mul (qb8 (qbG ha.ln hb.ln)) (by omega) (fun e0 e1 e2 c hc hl=>qf2 ha hb f (o := .mul) rfl rfl rfl rfl rfl c hc (by omega)) (fun e0 e1 e2 hl=>qf3 ha hb f (o := .mul) rfl rfl rfl rfl rfl (by omega))⟩
 case div=>exact⟨_,qbQ f .div (qb8 (qbG ha.ln hb.ln)) (by omega) (fun e0 e1 e2 c hc hl=>qf2 ha hb f (o := .div) rfl rfl rfl rfl rfl c hc (by omega)) (fun e0 e1 e2 hl=>qf3 ha hb f (o := .div) rfl rfl rfl rfl rfl (by omega))⟩
 case lt=>exact⟨_,qbQ f .lt (qb8 (qbG ha.ln hb.ln)) (by omega) (fun e0 e1 e2 c hc hl=>qf2 ha hb f (o := .lt) rfl rfl rfl rfl rfl c hc (by omega)) (fun e0 e1 e2 hl=>qf3 ha hb f (o := .lt) rfl rfl rfl rfl rfl (by omega))⟩
 case le=>exact⟨_,qbQ f .le (qb8 (qbG ha.ln hb.ln)) (by omega) (fun e0 e1 e2 c hc hl=>qf2 ha hb f (o := .le) rfl rfl rfl rfl rfl c hc (by omega)) (fun e0 e1 e2 hl=>qf3 ha hb f (o := .le) rfl rfl rfl rfl rfl (by omega))⟩
 case eq=>exact⟨_,qbQ f .eq (qb8 (qbG ha.ln hb.ln)) (by omega) (fun e0 e1 e2 c hc hl=>qf2 ha hb f (o := .eq) rfl rfl rfl rfl rfl c hc (by omega)) (fun e0 e1 e2 hl=>qf3 ha hb f (o := .eq) rfl rfl rfl rfl rfl (by omega))⟩
theorem qpB : ∀ e:E,e.fine->e.inV vs -> ∃ L,TrOK vs e.node (qcY vs e) L
 |.int n,_,_=>⟨_,qzQ n⟩
 |.bool n,_,_=>⟨_,qwW n⟩
 |.var s,_,g=>⟨_,qzR g⟩
 |.name s,_,_=>⟨_,qwX s⟩
 |.field f s e,h,g=>let ⟨_,k⟩:=qpB e h.2.1 g; ⟨_,qth f h.1 k⟩
 |.un f true e,h,g=>let ⟨_,k⟩:=qpB e h.1 g; ⟨_,qo8 f k⟩
 |.un f false e,h,g=>let ⟨_,k⟩:=qpB e h.1 g; ⟨_,qmT f k⟩
 |.bin f o a b,h,g=>let ⟨_,k⟩:=qpB a h.1 g.1; let ⟨_,k'⟩:=qpB b h.2.1 g.2; qyu k k' f o
end
end
section
open F Gr
set_option maxHeartbeats 2000000
attribute [local simp] qa8 qbA dkey qga
section
variable{vs:List ByteArray}{a b:E}{A B:Int->Cd}{La Lb:Nat}{e0 e1 e2:Int}
theorem qq8(f:Bool){s:ByteArray}(hs:s∈vs)(ha:TrOK vs a.node A La):TrOK vs (nd 1 0 s f (a.fo .nil)) (snC A (3,ixI vs s)) (La+1) where
 ln:=qb8 ha.ln
 pos:=by omega
 one:=fun e0 e1 e2 c hc hl=>by
  have hpa:=ha.pos
  have zf:=qiw s vs 0 hs
  rw[show ixI vs s+((0:Nat):Int)=ixI vs s by omega] at zf
  have z1:Z qad (.call 165 [.ptr 0 0,.dat (.agg [.lit (.int .i64 1),.lit (.int .i64 0),.lit (.string s),.sl [.lit (.int .i64 a.kind),.lit (.int .i64 a.num),.lit (.string a.str),a.kids] 1 f]),.int 0] (qcg vs e0 e1 e2 c))=_:=qf1 (f:=f) (N:=1) (i:=0) (e0:=e0) (e1:=e1) (e2:=e2) ha.toTrB rfl (by omega) c hc (by omega)
  have l1:(c++A c.length).length<2^30:=by rw[Wb,ha.ln]; omega
  have z3:=qbW (vs:=vs) (e0:=e0) (e1:=e1) (e2:=e2) (c++A c.length) (by omega) 3 (ixI vs s)
  rw[show (c++A c.length)++[((3:Int),(ixI vs s:Int))]=c++(snC A (3,ixI vs s)) c.length by simp[snC]] at z3
  generalize c++(snC A (3,ixI vs s)) c.length=c5 at *
  generalize c++A c.length=c1 at *
  have zs:Z qad (.call 169 [.ptr 0 0,.dat (.agg [.lit (.int .i64 1),.lit (.int .i64 0),.lit (.string s),.sl [.lit (.int .i64 a.kind),.lit (.int .i64 a.num),.lit (.string a.str),a.kids] 1 f])] (qcg vs e0 e1 e2 c))=some (.ret (.tup []) (qcg vs e0 e1 e2 c5)):=by
   refine qac (pf:=F169) rfl rfl ?_
   simp[F169,z1,z3,zf,qdW,qcd,qaP,Wa]
  refine qac (pf:=F147) rfl rfl ?_
  simp[F147,zs,Wa]
 zero:=fun e0 e1 e2 hl=>by
  have hpa:=ha.pos
  have zf:=qiw s vs 0 hs
  rw[show ixI vs s+((0:Nat):Int)=ixI vs s by omega] at zf
  have z1:Z qad (.call 165 [.ptr 0 0,.dat (.agg [.lit (.int .i64 1),.lit (.int .i64 0),.lit (.string s),.sl [.lit (.int .i64 a.kind),.lit (.int .i64 a.num),.lit (.string a.str),a.kids] 1 f]),.int 0] (qd3 vs e0 e1 e2))=_:=qn4 (f:=f) (N:=1) (i:=0) (e0:=e0) (e1:=e1) (e2:=e2) ha rfl (by omega) (by omega)
  have l1:(A 0).length<2^30:=by rw[ha.ln]; omega
  have z3:=qbW (vs:=vs) (e0:=e0) (e1:=e1) (e2:=e2) (A 0) (by omega) 3 (ixI vs s)
  rw[show (A 0)++[((3:Int),(ixI vs s:Int))]=(snC A (3,ixI vs s)) 0 by simp[snC]] at z3
  generalize (snC A (3,ixI vs s)) 0=c5 at *
  generalize A 0=c1 at *
  have zs:Z qad (.call 169 [.ptr 0 0,.dat (.agg [.lit (.int .i64 1),.lit (.int .i64 0),.lit (.string s),.sl [.lit (.int .i64 a.kind),.lit (.int .i64 a.num),.lit (.string a.str),a.kids] 1 f])] (qd3 vs e0 e1 e2))=some (.ret (.tup []) (qhR vs e0 e1 e2 c5)):=by
   refine qac (pf:=F169) rfl rfl ?_
   simp[F169,z1,z3,zf,qdW,qcd,qaP,Wa]
  refine qac (pf:=F147) rfl rfl ?_
  simp[F147,zs,Wa]
theorem qtl(f:Bool){s:ByteArray}(hs:s∈qdG)(ha:TrOK vs a.node A La)(hb:TrOK vs b.node B Lb):TrOK vs (nd 2 0 s f (a.fo (b.fo .nil))) (snC (sq A B) (5,fieldI s)) (La+Lb+1) where
 ln:=qb8 (qbG ha.ln hb.ln)
 pos:=by omega
 one:=fun e0 e1 e2 c hc hl=>by
  have hpa:=ha.pos
  have hpb:=hb.pos
  have zf:=qh4 hs
  have z1:Z qad (.call 165 [.ptr 0 0,.dat (.agg [.lit (.int .i64 2),.lit (.int .i64 0),.lit (.string s),.sl [.lit (.int .i64 a.kind),.lit (.int .i64 a.num),.lit (.string a.str),a.kids,.lit (.int .i64 b.kind),.lit (.int .i64 b.num),.lit (.string b.str),b.kids] 2 f]),.int 0] (qcg vs e0 e1 e2 c))=_:=qf1 (f:=f) (N:=2) (i:=0) (e0:=e0) (e1:=e1) (e2:=e2) ha.toTrB rfl (by omega) c hc (by omega)
  have l1:(c++A c.length).length<2^30:=by rw[Wb,ha.ln]; omega
  have l1':(c++A c.length).length=c.length+La:=by rw[Wb,ha.ln]
  have z2:Z qad (.call 165 [.ptr 0 0,.dat (.agg [.lit (.int .i64 2),.lit (.int .i64 0),.lit (.string s),.sl [.lit (.int .i64 a.kind),.lit (.int .i64 a.num),.lit (.string a.str),a.kids,.lit (.int .i64 b.kind),.lit (.int .i64 b.num),.lit (.string b.str),b.kids] 2 f]),.int 1] (qcg vs e0 e1 e2 (c++A c.length)))=_:=qf1 (f:=f) (N:=2) (i:=1) (e0:=e0) (e1:=e1) (e2:=e2) hb.toTrB rfl (by omega) (c++A c.length) (qiW hc) (by omega)
  rw[qre] at z2
  have l2:(c++sq A B c.length).length<2^30:=by rw[Wb,qbG ha.ln hb.ln]; omega
  have z3:=qbW (vs:=vs) (e0:=e0) (e1:=e1) (e2:=e2) (c++sq A B c.length) l2 5 (fieldI s)
  rw[show (c++sq A B c.length)++[((5:Int),(fieldI s:Int))]=c++(snC (sq A B) (5,fieldI s)) c.length by simp[snC]] at z3
  generalize c++(snC (sq A B) (5,fieldI s)) c.length=c5 at *
  generalize c++sq A B c.length=c3 at *
  generalize c++A c.length=c1 at *
  have zs:Z qad (.call 169 [.ptr 0 0,.dat (.agg [.lit (.int .i64 2),.lit (.int .i64 0),.lit (.string s),.sl [.lit (.int .i64 a.kind),.lit (.int .i64 a.num),.lit (.string a.str),a.kids,.lit (.int .i64 b.kind),.lit (.int .i64 b.num),.lit (.string b.str),b.kids] 2 f])] (qcg vs e0 e1 e2 c))=some (.ret (.tup []) (qcg vs e0 e1 e2 c5)):=by
   refine qac (pf:=F169) rfl rfl ?_
   simp[F169,z1,z2,z3,zf,qdW,qcd,qaP,Wa]
  refine qac (pf:=F147) rfl rfl ?_
  simp[F147,zs,Wa]
 zero:=fun e0 e1 e2 hl=>by
  have hpa:=ha.pos
  have hpb:=hb.pos
  have zf:=qh4 hs
  have z1:Z qad (.call 165 [.ptr 0 0,.dat (.agg [.lit (.int .i64 2),.lit (.int .i64 0),.lit (.string s),.sl [.lit (.int .i64 a.kind),.lit (.int .i64 a.num),.lit (.string a.str),a.kids,.lit (.int .i64 b.kind),.lit (.int .i64 b.num),.lit (.string b.str),b.kids] 2 f]),.int 0] (qd3 vs e0 e1 e2))=_:=qn4 (f:=f) (N:=2) (i:=0) (e0:=e0) (e1:=e1) (e2:=e2) ha rfl (by omega) (by omega)
  have l1:(A 0).length<2^30:=by rw[ha.ln]; omega
  have n1:A 0≠[]:=fun e=>by have:=ha.ln 0; rw[e] at this; simp only[Wk] at this; omega
  have l1':=ha.ln 0
  have z2:Z qad (.call 165 [.ptr 0 0,.dat (.agg [.lit (.int .i64 2),.lit (.int .i64 0),.lit (.string s),.sl [.lit (.int .i64 a.kind),.lit (.int .i64 a.num),.lit (.string a.str),a.kids,.lit (.int .i64 b.kind),.lit (.int .i64 b.num),.lit (.string b.str),b.kids] 2 f]),.int 1] (qcg vs e0 e1 e2 (A 0)))=_:=qf1 (f:=f) (N:=2) (i:=1) (e0:=e0) (e1:=e1) (e2:=e2) hb.toTrB rfl (by omega) (A 0) n1 (by omega)
  rw[show A 0++B (A 0).length=sq A B 0 by simp[sq]] at z2
  have l2:(sq A B 0).length<2^30:=by rw[qbG ha.ln hb.ln]; omega
  have z3:=qbW (vs:=vs) (e0:=e0) (e1:=e1) (e2:=e2) (sq A B 0) l2 5 (fieldI s)
  rw[show (sq A B 0)++[((5:Int),(fieldI s:Int))]=(snC (sq A B) (5,fieldI s)) 0 by simp[snC]] at z3
  generalize (snC (sq A B) (5,fieldI s)) 0=c5 at *
  generalize sq A B 0=c3 at *
  generalize A 0=c1 at *
  have zs:Z qad (.call 169 [.ptr 0 0,.dat (.agg [.lit (.int .i64 2),.lit (.int .i64 0),.lit (.string s),.sl [.lit (.int .i64 a.kind),.lit (.int .i64 a.num),.lit (.string a.str),a.kids,.lit (.int .i64 b.kind),.lit (.int .i64 b.num),.lit (.string b.str),b.kids] 2 f])] (qd3 vs e0 e1 e2))=some (.ret (.tup []) (qhR vs e0 e1 e2 c5)):=by
   refine qac (pf:=F169) rfl rfl ?_
   simp[F169,z1,z2,z3,zf,qdW,qcd,qaP,Wa]
  refine qac (pf:=F147) rfl rfl ?_
  simp[F147,zs,Wa]
theorem qq9(f:Bool)(ha:TrOK vs a.node A La)(hb:TrOK vs b.node B Lb):TrOK vs (nd 5 0 ⟨#[]⟩ f (a.fo (b.fo .nil))) (snC (sq A B) (20,0)) (La+Lb+1) where
 ln:=qb8 (qbG ha.ln hb.ln)
 pos:=by omega
 one:=fun e0 e1 e2 c hc hl=>by
  have hpa:=ha.pos
  have hpb:=hb.pos
  have z1:Z qad (.call 165 [.ptr 0 0,.dat (.agg [.lit (.int .i64 5),.lit (.int .i64 0),.lit (.string ⟨#[]⟩),.sl [.lit (.int .i64 a.kind),.lit (.int .i64 a.num),.lit (.string a.str),a.kids,.lit (.int .i64 b.kind),.lit (.int .i64 b.num),.lit (.string b.str),b.kids] 2 f]),.int 0] (qcg vs e0 e1 e2 c))=_:=qf1 (f:=f) (N:=2) (i:=0) (e0:=e0) (e1:=e1) (e2:=e2) ha.toTrB rfl (by omega) c hc (by omega)
  have l1:(c++A c.length).length<2^30:=by rw[Wb,ha.ln]; omega
  have l1':(c++A c.length).length=c.length+La:=by rw[Wb,ha.ln]
  have z2:Z qad (.call 165 [.ptr 0 0,.dat (.agg [.lit (.int .i64 5),.lit (.int .i64 0),.lit (.string ⟨#[]⟩),.sl [.lit (.int .i64 a.kind),.lit (.int .i64 a.num),.lit (.string a.str),a.kids,.lit (.int .i64 b.kind),.lit (.int .i64 b.num),.lit (.string b.str),b.kids] 2 f]),.int 1] (qcg vs e0 e1 e2 (c++A c.length)))=_:=qf1 (f:=f) (N:=2) (i:=1) (e0:=e0) (e1:=e1) (e2:=e2) hb.toTrB rfl (by omega) (c++A c.length) (qiW hc) (by omega)
  rw[qre] at z2
  have l2:(c++sq A B c.length).length<2^30:=by rw[Wb,qbG ha.ln hb.ln]; omega
  have z3:=qbW (vs:=vs) (e0:=e0) (e1:=e1) (e2:=e2) (c++sq A B c.length) l2 20 (0)
  rw[show (c++sq A B c.length)++[((20:Int),(0:Int))]=c++(snC (sq A B) (20,0)) c.length by simp[snC]] at z3
  generalize c++(snC (sq A B) (20,0)) c.length=c5 at *
  generalize c++sq A B c.length=c3 at *
  generalize c++A c.length=c1 at *
  have zs:Z qad (.call 169 [.ptr 0 0,.dat (.agg [.lit (.int .i64 5),.lit (.int .i64 0),.lit (.string ⟨#[]⟩),.sl [.lit (.int .i64 a.kind),.lit (.int .i64 a.num),.lit (.string a.str),a.kids,.lit (.int .i64 b.kind),.lit (.int .i64 b.num),.lit (.string b.str),b.kids] 2 f])] (qcg vs e0 e1 e2 c))=some (.ret (.tup []) (qcg vs e0 e1 e2 c5)):=by
   refine qac (pf:=F169) rfl rfl ?_
   simp[F169,z1,z2,z3,qdW,qcd,qaP,Wa]
  refine qac (pf:=F147) rfl rfl ?_
  simp[F147,zs,Wa]
 zero:=fun e0 e1 e2 hl=>by
  have hpa:=ha.pos
  have hpb:=hb.pos
  have z1:Z qad (.call 165 [.ptr 0 0,.dat (.agg [.lit (.int .i64 5),.lit (.int .i64 0),.lit (.string ⟨#[]⟩),.sl [.lit (.int .i64 a.kind),.lit (.int .i64 a.num),.lit (.string a.str),a.kids,.lit (.int .i64 b.kind),.lit (.int .i64 b.num),.lit (.string b.str),b.kids] 2 f]),.int 0] (qd3 vs e0 e1 e2))=_:=qn4 (f:=f) (N:=2) (i:=0) (e0:=e0) (e1:=e1) (e2:=e2) ha rfl (by omega) (by omega)
  have l1:(A 0).length<2^30:=by rw[ha.ln]; omega
  have n1:A 0≠[]:=fun e=>by have:=ha.ln 0; rw[e] at this; simp only[Wk] at this; omega
  have l1':=ha.ln 0
  have z2:Z qad (.call 165 [.ptr 0 0,.dat (.agg [.lit (.int .i64 5),.lit (.int .i64 0),.lit (.string ⟨#[]⟩),.sl [.lit (.int .i64 a.kind),.lit (.int .i64 a.num),.lit (.string a.str),a.kids,.lit (.int .i64 b.kind),.lit (.int .i64 b.num),.lit (.string b.str),b.kids] 2 f]),.int 1] (qcg vs e0 e1 e2 (A 0)))=_:=qf1 (f:=f) (N:=2) (i:=1) (e0:=e0) (e1:=e1) (e2:=e2) hb.toTrB rfl (by omega) (A 0) n1 (by omega)
  rw[show A 0++B (A 0).length=sq A B 0 by simp[sq]] at z2
  have l2:(sq A B 0).length<2^30:=by rw[qbG ha.ln hb.ln]; omega
  have z3:=qbW (vs:=vs) (e0:=e0) (e1:=e1) (e2:=e2) (sq A B 0) l2 20 (0)
  rw[show (sq A B 0)++[((20:Int),(0:Int))]=(snC (sq A B) (20,0)) 0 by simp[snC]] at z3
  generalize (snC (sq A B) (20,0)) 0=c5 at *
  generalize sq A B 0=c3 at *
  generalize A 0=c1 at *
  have zs:Z qad (.call 169 [.ptr 0 0,.dat (.agg [.lit (.int .i64 5),.lit (.int .i64 0),.lit (.string ⟨#[]⟩),.sl [.lit (.int .i64 a.kind),.lit (.int .i64 a.num),.lit (.string a.str),a.kids,.lit (.int .i64 b.kind),.lit (.int .i64 b.num),.lit (.string b.str),b.kids] 2 f])] (qd3 vs e0 e1 e2))=some (.ret (.tup []) (qhR vs e0 e1 e2 c5)):=by
   refine qac (pf:=F169) rfl rfl ?_
   simp[F169,z1,z2,z3,qdW,qcd,qaP,Wa]
  refine qac (pf:=F147) rfl rfl ?_
  simp[F147,zs,Wa]
theorem qw8(f:Bool):TrOK vs (nd 6 0 ⟨#[]⟩ f .nil) (fun _=>[(21,0)]) 1 where
 ln:=fun _=>rfl
 pos:=by omega
 one:=fun e0 e1 e2 c hc hl=>by
  have z:=qbW (vs:=vs) (e0:=e0) (e1:=e1) (e2:=e2) c (by omega) 21 0
  generalize c++[((21:Int),(0:Int))]=c2 at *
  have zs:Z qad (.call 169 [.ptr 0 0,.dat (.agg [.lit (.int .i64 6),.lit (.int .i64 0),.lit (.string ⟨#[]⟩),.lit (.slice none 0 0)])] (qcg vs e0 e1 e2 c))=some (.ret (.tup []) (qcg vs e0 e1 e2 c2)):=by
   refine qac (pf:=F169) rfl rfl ?_
   simp[F169,z,Wa]
  refine qac (pf:=F147) rfl rfl ?_
  simp[F147,zs,Wa]
 zero:=fun e0 e1 e2 hl=>by
  have z:=qla (vs:=vs) (e0:=e0) (e1:=e1) (e2:=e2) 21 0
  generalize [((21:Int),(0:Int))]=c2 at *
  have zs:Z qad (.call 169 [.ptr 0 0,.dat (.agg [.lit (.int .i64 6),.lit (.int .i64 0),.lit (.string ⟨#[]⟩),.lit (.slice none 0 0)])] (qd3 vs e0 e1 e2))=some (.ret (.tup []) (qhR vs e0 e1 e2 c2)):=by
   refine qac (pf:=F169) rfl rfl ?_
   simp[F169,z,Wa]
  refine qac (pf:=F147) rfl rfl ?_
  simp[F147,zs,Wa]
theorem qB6 (f f1 f2:Bool) {x y:Fo} {X Y:Int->Cd} {Lx Ly:Nat} (ha:TrOK vs a.node A La) (hx:TrB vs (nd 7 0 ⟨#[]⟩ f1 x) X Lx) (hy:TrB vs (nd 7 0 ⟨#[]⟩ f2 y) Y Ly) :
  TrOK vs (nd 3 0 ⟨#[]⟩ f (a.fo (.cons 7 0 ⟨#[]⟩ f1 x (.cons 7 0 ⟨#[]⟩ f2 y .nil)))) (brC A X Y) (La+Lx+Ly+2) where
 ln:=qmO ha.ln hx.ln hy.ln
 pos:=by omega
 one:=fun e0 e1 e2 c hc hl=>by
  have hpa:=ha.pos
  have z:=qoG (vs:=vs) (e0:=e0) (e1:=e1) (e2:=e2) (quC (k:=3) (n:=0) (s:=⟨#[]⟩) (f:=f) (N:=3) (cs:=[.lit (.int .i64 a.kind),.lit (.int .i64 a.num),.lit (.string a.str),a.kids,.lit (.int .i64 7),.lit (.int .i64 0),.lit (.string ⟨#[]⟩),kd f1 x.len x.cells,.lit (.int .i64 7),.lit (.int .i64 0),.lit (.string ⟨#[]⟩),kd f2 y.len y.cells]) ha.toTrB rfl (by omega)) (quD (k:=3) (n:=0) (s:=⟨#[]⟩) (f:=f) (N:=3) (cs:=[.lit (.int .i64 a.kind),.lit (.int .i64 a.num),.lit (.string a.str),a.kids,.lit (.int .i64 7),.lit (.int .i64 0),.lit (.string ⟨#[]⟩),kd f1 x.len x.cells,.lit (.int .i64 7),.lit (.int .i64 0),.lit (.string ⟨#[]⟩),kd f2 y.len y.cells]) hx rfl (by omega)) (quE (k:=3) (n:=0) (s:=⟨#[]⟩) (f:=f) (N:=3) (cs:=[.lit (.int .i64 a.kind),.lit (.int .i64 a.num),.lit (.string a.str),a.kids,.lit (.int .i64 7),.lit (.int .i64 0),.lit (.string ⟨#[]⟩),kd f1 x.len x.cells,.lit (.int .i64 7),.lit (.int .i64 0),.lit (.string ⟨#[]⟩),kd f2 y.len y.cells]) hy rfl (by omega)) c hc (by omega) ha.pos
  simp only[nbo,qij] at z
  generalize c++brC A X Y c.length=c5 at *
  have zs:Z qad (.call 169 [.ptr 0 0,.dat (.agg [.lit (.int .i64 3),.lit (.int .i64 0),.lit (.string ⟨#[]⟩),.sl [.lit (.int .i64 a.kind),.lit (.int .i64 a.num),.lit (.string a.str),a.kids,.lit (.int .i64 7),.lit (.int .i64 0),.lit (.string ⟨#[]⟩),kd f1 x.len x.cells,.lit (.int .i64 7),.lit (.int .i64 0),.lit (.string ⟨#[]⟩),kd f2 y.len y.cells] 3 f])] (qcg vs e0 e1 e2 c))=some (.ret (.tup []) (qcg vs e0 e1 e2 c5)):=by
   refine qac (pf:=F169) rfl rfl ?_
   simp[F169,z,Wa]
  refine qac (pf:=F147) rfl rfl ?_
  simp[F147,zs,Wa]
 zero:=fun e0 e1 e2 hl=>by
  have hpa:=ha.pos
  have z:=qoH (vs:=vs) (e0:=e0) (e1:=e1) (e2:=e2) (quC (k:=3) (n:=0) (s:=⟨#[]⟩) (f:=f) (N:=3) (cs:=[.lit (.int .i64 a.kind),.lit (.int .i64 a.num),.lit (.string a.str),a.kids,.lit (.int .i64 7),.lit (.int .i64 0),.lit (.string ⟨#[]⟩),kd f1 x.len x.cells,.lit (.int .i64 7),.lit (.int .i64 0),.lit (.string ⟨#[]⟩),kd f2 y.len y.cells]) ha.toTrB rfl (by omega)) (qw3 (k:=3) (n:=0) (s:=⟨#[]⟩) (f:=f) (N:=3) (cs:=[.lit (.int .i64 a.kind),.lit (.int .i64 a.num),.lit (.string a.str),a.kids,.lit (.int .i64 7),.lit (.int .i64 0),.lit (.string ⟨#[]⟩),kd f1 x.len x.cells,.lit (.int .i64 7),.lit (.int .i64 0),.lit (.string ⟨#[]⟩),kd f2 y.len y.cells]) ha rfl (by omega) (by omega)) (quD (k:=3) (n:=0) (s:=⟨#[]⟩) (f:=f) (N:=3) (cs:=[.lit (.int .i64 a.kind),.lit (.int .i64 a.num),.lit (.string a.str),a.kids,.lit (.int .i64 7),.lit (.int .i64 0),.lit (.string ⟨#[]⟩),kd f1 x.len x.cells,.lit (.int .i64 7),.lit (.int .i64 0),.lit (.string ⟨#[]⟩),kd f2 y.len y.cells]) hx rfl (by omega)) (quE (k:=3) (n:=0) (s:=⟨#[]⟩) (f:=f) (N:=3) (cs:=[.lit (.int .i64 a.kind),.lit (.int .i64 a.num),.lit (.string a.str),a.kids,.lit (.int .i64 7),.lit (.int .i64 0),.lit (.string ⟨#[]⟩),kd f1 x.len x.cells,.lit (.int .i64 7),.lit (.int .i64 0),.lit (.string ⟨#[]⟩),kd f2 y.len y.cells]) hy rfl (by omega)) (by omega) ha.pos
  simp only[nbo,qij] at z
  generalize brC A X Y 0=c5 at *
  have zs:Z qad (.call 169 [.ptr 0 0,.dat (.agg [.lit (.int .i64 3),.lit (.int .i64 0),.lit (.string ⟨#[]⟩),.sl [.lit (.int .i64 a.kind),.lit (.int .i64 a.num),.lit (.string a.str),a.kids,.lit (.int .i64 7),.lit (.int .i64 0),.lit (.string ⟨#[]⟩),kd f1 x.len x.cells,.lit (.int .i64 7),.lit (.int .i64 0),.lit (.string ⟨#[]⟩),kd f2 y.len y.cells] 3 f])] (qd3 vs e0 e1 e2))=some (.ret (.tup []) (qhR vs e0 e1 e2 c5)):=by
   refine qac (pf:=F169) rfl rfl ?_
   simp[F169,z,Wa]
  refine qac (pf:=F147) rfl rfl ?_
  simp[F147,zs,Wa]
theorem qzW(A X:Int->Cd)(c:Cd):(c++A c.length)++(19,((((c++A c.length)++[((19:Int),(0:Int))])++X ((c++A c.length)++[((19:Int),(0:Int))]).length++[((18:Int),(c.length:Int))]).length:Int))::(X ((c++A c.length)++[((19:Int),(0:Int))]).length++[((18:Int),(c.length:Int))])=c++whC A X c.length:=by
 have e:((((c++A c.length)++[((19:Int),(0:Int))]).length:Nat):Int)=c.length+(A c.length).length+1:=by simp only[Wb,We,Wk]; omega
 simp only[whC,Wf]
 simp only[Wf] at e
 rw[e]
 have e2:(((c++(A c.length++([((19:Int),(0:Int))]++(X (c.length+(A c.length).length+1)++[((18:Int),(c.length:Int))])))).length:Nat):Int)=c.length+(A c.length).length+1+(X (c.length+(A c.length).length+1)).length+1:=by simp only[Wb,We,Wk]; omega
 rw[e2]
theorem qtm (f f1:Bool) {x:Fo} {X:Int->Cd} {Lx:Nat} (ha:TrOK vs a.node A La) (hx:TrB vs (nd 7 0 ⟨#[]⟩ f1 x) X Lx) :
  TrOK vs (nd 4 0 ⟨#[]⟩ f (a.fo (.cons 7 0 ⟨#[]⟩ f1 x .nil))) (whC A X) (La+Lx+2) where
 ln:=qwz ha.ln hx.ln
 pos:=by omega
 one:=fun e0 e1 e2 c hc hl=>by
  have hpa:=ha.pos
  obtain⟨c1,h1⟩ : ∃ c1,c1=c++A c.length:=⟨_,rfl⟩
  have l1:c1.length=c.length+La:=by rw[h1,Wb,ha.ln]
  have n1:c1≠[]:=fun e=>by rw[e] at l1; simp only[Wk] at l1; omega
  have z1:Z qad (.call 165 [.ptr 0 0,.dat (.agg [.lit (.int .i64 4),.lit (.int .i64 0),.lit (.string ⟨#[]⟩),.sl [.lit (.int .i64 a.kind),.lit (.int .i64 a.num),.lit (.string a.str),a.kids,.lit (.int .i64 7),.lit (.int .i64 0),.lit (.string ⟨#[]⟩),kd f1 x.len x.cells] 2 f]),.int 0] (qcg vs e0 e1 e2 c))=_:=qf1 (f:=f) (N:=2) (i:=0) (e0:=e0) (e1:=e1) (e2:=e2) ha.toTrB rfl (by omega) c hc (by omega)
  rw[<- h1] at z1
  have z2:=qpu (vs:=vs) (e0:=e0) (e1:=e1) (e2:=e2) c1 (by omega) 19
  obtain⟨c2,h2⟩ : ∃ c2,c2=c1++[((19:Int),(0:Int))]:=⟨_,rfl⟩
  have l2:c2.length=c1.length+1:=by rw[h2]; simp
  rw[<- h2] at z2
  have z3:Z qad (.call 165 [.ptr 0 0,.dat (.agg [.lit (.int .i64 4),.lit (.int .i64 0),.lit (.string ⟨#[]⟩),.sl [.lit (.int .i64 a.kind),.lit (.int .i64 a.num),.lit (.string a.str),a.kids,.lit (.int .i64 7),.lit (.int .i64 0),.lit (.string ⟨#[]⟩),kd f1 x.len x.cells] 2 f]),.int 1] (qcg vs e0 e1 e2 c2))=_:=qf1 (f:=f) (N:=2) (i:=1) (e0:=e0) (e1:=e1) (e2:=e2) hx rfl (by omega) c2 (by rw[h2]; simp) (by omega)
  obtain⟨c3,h3⟩ : ∃ c3,c3=c2++X c2.length:=⟨_,rfl⟩
  have l3:c3.length=c2.length+Lx:=by rw[h3,Wb,hx.ln]
  rw[<- h3] at z3
  have z4:=qbW (vs:=vs) (e0:=e0) (e1:=e1) (e2:=e2) c3 (by omega) 18 c.length
  obtain⟨c4,h4⟩ : ∃ c4,c4=c3++[((18:Int),(c.length:Int))]:=⟨_,rfl⟩
  have l4:c4.length=c3.length+1:=by rw[h4]; simp
  rw[<- h4] at z4
  have f4:c4=c1++(19,0)::(X c2.length++[((18:Int),(c.length:Int))]):=by rw[h4,h3,h2]; simp
  have z5:=qd1 (vs:=vs) (e0:=e0) (e1:=e1) (e2:=e2) c1 (X c2.length++[((18:Int),(c.length:Int))]) 19 0 (by rw[<- f4]; omega)
  rw[<- f4] at z5
  have f5:c1++(19,(c4.length:Int))::(X c2.length++[((18:Int),(c.length:Int))])=c++whC A X c.length:=by
   have:=qzW A X c
   rw[<- h1,<- h2,<- h3,<- h4] at this
   exact this
  have l5:c4.length=(c++whC A X c.length).length:=by rw[<- f5,f4]; simp
  rw[f5] at z5
  generalize c++whC A X c.length=c5 at *
  rw[l5] at z5
  have zl:Z qad (.call 191 [.ptr 0 0,.dat (.agg [.lit (.int .i64 4),.lit (.int .i64 0),.lit (.string ⟨#[]⟩),.sl [.lit (.int .i64 a.kind),.lit (.int .i64 a.num),.lit (.string a.str),a.kids,.lit (.int .i64 7),.lit (.int .i64 0),.lit (.string ⟨#[]⟩),kd f1 x.len x.cells] 2 f])] (qcg vs e0 e1 e2 c))=some (.ret (.tup []) (qcg vs e0 e1 e2 c5)):=by
   refine qac (pf:=F191) rfl rfl ?_
   simp[F191,qcy,z1,z2,z3,z4,z5,l5,V.isNilIf,Wa]
  have zs:Z qad (.call 169 [.ptr 0 0,.dat (.agg [.lit (.int .i64 4),.lit (.int .i64 0),.lit (.string ⟨#[]⟩),.sl [.lit (.int .i64 a.kind),.lit (.int .i64 a.num),.lit (.string a.str),a.kids,.lit (.int .i64 7),.lit (.int .i64 0),.lit (.string ⟨#[]⟩),kd f1 x.len x.cells] 2 f])] (qcg vs e0 e1 e2 c))=some (.ret (.tup []) (qcg vs e0 e1 e2 c5)):=by
   refine qac (pf:=F169) rfl rfl ?_
   simp[F169,zl,Wa]
  refine qac (pf:=F147) rfl rfl ?_
  simp[F147,zs,Wa]
 zero:=fun e0 e1 e2 hl=>by
  obtain⟨c,hcn⟩ : ∃ c:Cd,c=[]:=⟨_,rfl⟩
  have lc:c.length=0:=by rw[hcn]; rfl
  have hpa:=ha.pos
  obtain⟨c1,h1⟩ : ∃ c1,c1=c++A c.length:=⟨_,rfl⟩
  have l1:c1.length=c.length+La:=by rw[h1,Wb,ha.ln]
  have n1:c1≠[]:=fun e=>by rw[e] at l1; simp only[Wk] at l1; omega
  have z1:Z qad (.call 165 [.ptr 0 0,.dat (.agg [.lit (.int .i64 4),.lit (.int .i64 0),.lit (.string ⟨#[]⟩),.sl [.lit (.int .i64 a.kind),.lit (.int .i64 a.num),.lit (.string a.str),a.kids,.lit (.int .i64 7),.lit (.int .i64 0),.lit (.string ⟨#[]⟩),kd f1 x.len x.cells] 2 f]),.int 0] (qd3 vs e0 e1 e2))=_:=qn4 (f:=f) (N:=2) (i:=0) (e0:=e0) (e1:=e1) (e2:=e2) ha rfl (by omega) (by omega)
  rw[show A 0=c1 by rw[h1,hcn]; rfl] at z1
  have z2:=qpu (vs:=vs) (e0:=e0) (e1:=e1) (e2:=e2) c1 (by omega) 19
  obtain⟨c2,h2⟩ : ∃ c2,c2=c1++[((19:Int),(0:Int))]:=⟨_,rfl⟩
  have l2:c2.length=c1.length+1:=by rw[h2]; simp
  rw[<- h2] at z2
  have z3:Z qad (.call 165 [.ptr 0 0,.dat (.agg [.lit (.int .i64 4),.lit (.int .i64 0),.lit (.string ⟨#[]⟩),.sl [.lit (.int .i64 a.kind),.lit (.int .i64 a.num),.lit (.string a.str),a.kids,.lit (.int .i64 7),.lit (.int .i64 0),.lit (.string ⟨#[]⟩),kd f1 x.len x.cells] 2 f]),.int 1] (qcg vs e0 e1 e2 c2))=_:=qf1 (f:=f) (N:=2) (i:=1) (e0:=e0) (e1:=e1) (e2:=e2) hx rfl (by omega) c2 (by rw[h2]; simp) (by omega)
  obtain⟨c3,h3⟩ : ∃ c3,c3=c2++X c2.length:=⟨_,rfl⟩
  have l3:c3.length=c2.length+Lx:=by rw[h3,Wb,hx.ln]
  rw[<- h3] at z3
  have z4:=qbW (vs:=vs) (e0:=e0) (e1:=e1) (e2:=e2) c3 (by omega) 18 c.length
  obtain⟨c4,h4⟩ : ∃ c4,c4=c3++[((18:Int),(c.length:Int))]:=⟨_,rfl⟩
  have l4:c4.length=c3.length+1:=by rw[h4]; simp
  rw[<- h4] at z4
  have f4:c4=c1++(19,0)::(X c2.length++[((18:Int),(c.length:Int))]):=by rw[h4,h3,h2]; simp
  have z5:=qd1 (vs:=vs) (e0:=e0) (e1:=e1) (e2:=e2) c1 (X c2.length++[((18:Int),(c.length:Int))]) 19 0 (by rw[<- f4]; omega)
  rw[<- f4] at z5
  have f5:c1++(19,(c4.length:Int))::(X c2.length++[((18:Int),(c.length:Int))])=c++whC A X c.length:=by
   have:=qzW A X c
   rw[<- h1,<- h2,<- h3,<- h4] at this
   exact this
  have l5:c4.length=(c++whC A X c.length).length:=by rw[<- f5,f4]; simp
  rw[f5] at z5
  rw[show whC A X 0=c++whC A X c.length by rw[hcn]; rfl]
  rw[lc,show ((0:Nat):Int)=0 from rfl] at z4
  generalize c++whC A X c.length=c5 at *
  rw[l5] at z5
  have zl:Z qad (.call 191 [.ptr 0 0,.dat (.agg [.lit (.int .i64 4),.lit (.int .i64 0),.lit (.string ⟨#[]⟩),.sl [.lit (.int .i64 a.kind),.lit (.int .i64 a.num),.lit (.string a.str),a.kids,.lit (.int .i64 7),.lit (.int .i64 0),.lit (.string ⟨#[]⟩),kd f1 x.len x.cells] 2 f])] (qd3 vs e0 e1 e2))=some (.ret (.tup []) (qhR vs e0 e1 e2 c5)):=by
   refine qac (pf:=F191) rfl rfl ?_
   simp[F191,qcy,z1,z2,z3,z4,z5,qcF,l5,V.isNilIf,Wa]
  have zs:Z qad (.call 169 [.ptr 0 0,.dat (.agg [.lit (.int .i64 4),.lit (.int .i64 0),.lit (.string ⟨#[]⟩),.sl [.lit (.int .i64 a.kind),.lit (.int .i64 a.num),.lit (.string a.str),a.kids,.lit (.int .i64 7),.lit (.int .i64 0),.lit (.string ⟨#[]⟩),kd f1 x.len x.cells] 2 f])] (qd3 vs e0 e1 e2))=some (.ret (.tup []) (qhR vs e0 e1 e2 c5)):=by
   refine qac (pf:=F169) rfl rfl ?_
   simp[F169,zl,Wa]
  refine qac (pf:=F147) rfl rfl ?_
  simp[F147,zs,Wa]
end
end
section
open F Gr
set_option maxHeartbeats 2000000
attribute [local simp] qa8 qbA dkey qga
inductive RowT(vs:List ByteArray):List D->List (Int->Cd)->Nat->Prop
 |nil:RowT vs [] [] 0
 |cons {a b c d:D} {C:Int->Cd} {L:Nat} {r:List D} {Cs:List (Int->Cd)} {M:Nat} (h:TrOK vs (.dat (.agg [a,b,c,d])) C L) (hr:RowT vs r Cs M):RowT vs (a::b::c::d::r) (C::Cs) (L+M)
theorem qxH{vs:List ByteArray}{r:List D}{Cs:List (Int->Cd)}{M:Nat}(h:RowT vs r Cs M):Ln (seqC Cs) M:=by
 induction h with
 |nil=>exact fun _=>rfl
 |cons h _ ih=>exact fun p=>by simp[seqC,h.ln p,ih _]
section
variable{vs:List ByteArray}{e0 e1 e2:Int}{f:Bool}{N:Nat}{cs:List D}
abbrev bl1(vs:List ByteArray)(e0 e1 e2:Int)(f:Bool)(N:Nat)(cs:List D)(c:Cd):S:=[cob e0 e1 e2 1 c.length 2,.vec (icV c),mpo vs,.cells [.ptr 0 0],.cells [.int 7,.int 0,.str ⟨#[]⟩,.dat (kd f N cs)]]
abbrev bl0(vs:List ByteArray)(e0 e1 e2:Int)(f:Bool)(N:Nat)(cs:List D):S:=[qow e0 e1 e2 1,mpo vs,.cells [.ptr 0 0],.cells [.int 7,.int 0,.str ⟨#[]⟩,.dat (kd f N cs)]]
abbrev bl2(vs:List ByteArray)(e0 e1 e2:Int)(f:Bool)(N:Nat)(cs:List D)(c:Cd):S:=[cob e0 e1 e2 4 c.length 1,mpo vs,.cells [.ptr 0 0],.cells [.int 7,.int 0,.str ⟨#[]⟩,.dat (kd f N cs)],.vec (icV c)]
abbrev blF(p q N:Nat)(i:Nat):Fr:=[(2,.ptr p 0),(3,.ptr q 0),(64,.int N),(65,.int i)]
theorem qxI(c:Cd):Z qad (.loop 3 F169l0 (blF 3 4 N N) (bl1 vs e0 e1 e2 f N cs c))=some (.out (.exit 1) (blF 3 4 N N++[(66,.bool false)]) (bl1 vs e0 e1 e2 f N cs c)):=by
 rw[qaa]
 simp[qab,qdk,Wa]
theorem qxJ:Z qad (.loop 2 F169l0 (blF 2 3 N N) (bl0 vs e0 e1 e2 f N cs))=some (.out (.exit 1) (blF 2 3 N N++[(66,.bool false)]) (bl0 vs e0 e1 e2 f N cs)):=by
 rw[qaa]
 simp[qab,qdk,Wa]
theorem qxK(c:Cd):Z qad (.loop 2 F169l0 (blF 2 3 N N) (bl2 vs e0 e1 e2 f N cs c))=some (.out (.exit 1) (blF 2 3 N N++[(66,.bool false)]) (bl2 vs e0 e1 e2 f N cs c)):=by
 rw[qaa]
 simp[qab,qdk,Wa]
variable{i:Nat}{a b c1 d:D}{r:List D}{C:Int->Cd}{L:Nat}
theorem qtW (hi:i<N) (hN:N<2^40) (hd:cs.drop (i*4)=a::b::c1::d::r) (h:TrOK vs (.dat (.agg [a,b,c1,d])) C L) (c:Cd) (hc:c≠[]) (hl:c.length+4*L<2^30) :
  Z qad (.loop 3 F169l0 (blF 3 4 N i) (bl1 vs e0 e1 e2 f N cs c))=Z qad (.loop 3 F169l0 (blF 3 4 N (i+1)) (bl1 vs e0 e1 e2 f N cs (c++C c.length))):=by
 have w1:=qai ((i:Int)+1) (by omega)
 have hi':(i:Int)<N:=by omega
 have z:=qf1 (e0:=e0) (e1:=e1) (e2:=e2) (k:=7) (n:=0) (s:=⟨#[]⟩) (f:=f) h.toTrB hd hi c hc hl
 generalize c++C c.length=c2 at *
 conv=>lhs; rw[qaa]
 simp[qab,qdk,hi',z,w1,bl0,bl1,bl2,blF,Wa]
theorem qtX (hi:i<N) (hN:N<2^40) (hd:cs.drop (i*4)=a::b::c1::d::r) (h:TrOK vs (.dat (.agg [a,b,c1,d])) C L) (hl:4*L<2^30) :
  Z qad (.loop 2 F169l0 (blF 2 3 N i) (bl0 vs e0 e1 e2 f N cs))=Z qad (.loop 2 F169l0 (blF 2 3 N (i+1)) (bl2 vs e0 e1 e2 f N cs (C 0))):=by
 have w1:=qai ((i:Int)+1) (by omega)
 have hi':(i:Int)<N:=by omega
 have z:=qn4 (e0:=e0) (e1:=e1) (e2:=e2) (k:=7) (n:=0) (s:=⟨#[]⟩) (f:=f) h hd hi hl
 generalize C 0=c2 at *
 conv=>lhs; rw[qaa]
 simp[qab,qdk,hi',z,w1,bl0,bl1,bl2,blF,Wa]
theorem qtY (hi:i<N) (hN:N<2^40) (hd:cs.drop (i*4)=a::b::c1::d::r) (h:TrOK vs (.dat (.agg [a,b,c1,d])) C L) (c:Cd) (hc:c≠[]) (hl:c.length+4*L<2^30) :
  Z qad (.loop 2 F169l0 (blF 2 3 N i) (bl2 vs e0 e1 e2 f N cs c))=Z qad (.loop 2 F169l0 (blF 2 3 N (i+1)) (bl2 vs e0 e1 e2 f N cs (c++C c.length))):=by
 have w1:=qai ((i:Int)+1) (by omega)
 have hi':(i:Int)<N:=by omega
 have z:=qf1 (e0:=e0) (e1:=e1) (e2:=e2) (k:=7) (n:=0) (s:=⟨#[]⟩) (f:=f) h.toTrB hd hi c hc hl
 generalize c++C c.length=c2 at *
 conv=>lhs; rw[qaa]
 simp[qab,qdk,hi',z,w1,bl0,bl1,bl2,blF,Wa]
theorem ql8(C:Int->Cd)(Cs:List (Int->Cd))(c:Cd):(c++C c.length)++seqC Cs (c++C c.length).length=c++seqC (C::Cs) c.length:=by
 simp only[seqC,Wf,Wb]
 rw[show ((c.length+(C c.length).length:Nat):Int)=c.length+(C c.length).length by omega]
theorem qom (hN:N<2^40) : ∀ {r:List D} {Cs:List (Int->Cd)} {M:Nat},RowT vs r Cs M -> ∀ (i:Nat),cs.drop (i*4)=r->i+Cs.length=N -> ∀ (c:Cd),c≠[]->c.length+4*M<2^30 ->
  Z qad (.loop 3 F169l0 (blF 3 4 N i) (bl1 vs e0 e1 e2 f N cs c))=some (.out (.exit 1) (blF 3 4 N N++[(66,.bool false)]) (bl1 vs e0 e1 e2 f N cs (c++seqC Cs c.length)))
 |_,_,_,.nil,i,hd,hn,c,hc,hl=>by
  simp only[Wk,Yp] at hn
  subst hn
  rw[show c++seqC [] c.length=c by simp[seqC]]
  exact qxI c
 |_,_,_,.cons (C:=C) (L:=L) (Cs:=Cs) (M:=M) h1 hr,i,hd,hn,c,hc,hl=>by
  simp only[We] at hn
  have hlen:(c++C c.length).length=c.length+L:=by rw[Wb,h1.ln]
  rw[qtW (by omega) hN hd h1 c hc (by omega),qom hN hr (i+1) (qa9 hd) (by omega) _ (qiW hc) (by omega),ql8]
theorem qon (hN:N<2^40) : ∀ {r:List D} {Cs:List (Int->Cd)} {M:Nat},RowT vs r Cs M -> ∀ (i:Nat),cs.drop (i*4)=r->i+Cs.length=N -> ∀ (c:Cd),c≠[]->c.length+4*M<2^30 ->
  Z qad (.loop 2 F169l0 (blF 2 3 N i) (bl2 vs e0 e1 e2 f N cs c))=some (.out (.exit 1) (blF 2 3 N N++[(66,.bool false)]) (bl2 vs e0 e1 e2 f N cs (c++seqC Cs c.length)))
 |_,_,_,.nil,i,hd,hn,c,hc,hl=>by
  simp only[Wk,Yp] at hn
  subst hn
  rw[show c++seqC [] c.length=c by simp[seqC]]
  exact qxK c
 |_,_,_,.cons (C:=C) (L:=L) (Cs:=Cs) (M:=M) h1 hr,i,hd,hn,c,hc,hl=>by
  simp only[We] at hn
  have hlen:(c++C c.length).length=c.length+L:=by rw[Wb,h1.ln]
  rw[qtY (by omega) hN hd h1 c hc (by omega),qon hN hr (i+1) (qa9 hd) (by omega) _ (qiW hc) (by omega),ql8]
end
section
variable{vs:List ByteArray}{cs:List D}{Cs:List (Int->Cd)}{M N:Nat}
theorem qtZ(h:RowT vs cs Cs M)(hN:Cs.length=N)(hN2:N<2^40)(f:Bool):TrB vs (.dat (.agg [.lit (.int .i64 7),.lit (.int .i64 0),.lit (.string ⟨#[]⟩),kd f N cs])) (seqC Cs) M where
 ln:=qxH h
 one:=fun e0 e1 e2 c hc hl=>by
  have z:=qom (e0:=e0) (e1:=e1) (e2:=e2) (f:=f) hN2 h 0 rfl (by omega) c hc hl
  rw[show blF 3 4 N 0=[(2,.ptr 3 0),(3,.ptr 4 0),(64,.int N),(65,.int 0)] from rfl] at z
  generalize c++seqC Cs c.length=c2 at *
  have zs:Z qad (.call 169 [.ptr 0 0,.dat (.agg [.lit (.int .i64 7),.lit (.int .i64 0),.lit (.string ⟨#[]⟩),kd f N cs])] (qcg vs e0 e1 e2 c))=some (.ret (.tup []) (qcg vs e0 e1 e2 c2)):=by
   refine qac (pf:=F169) rfl rfl ?_
   simp[F169,z,Wa]
  refine qac (pf:=F147) rfl rfl ?_
  simp[F147,zs,Wa]
theorem qCk (h:RowT vs cs Cs M) (hN:Cs.length=N) (hN2:N<2^40) (f:Bool) (e0 e1 e2:Int) (hl:4*M<2^30):Z qad (.call 147 [.ptr 0 0,.dat (.agg [.lit (.int .i64 7),.lit (.int .i64 0),.lit (.string ⟨#[]⟩),kd f N cs])] (qd3 vs e0 e1 e2)) =
  some (.ret (.tup []) (if seqC Cs 0=[] then qd3 vs e0 e1 e2 else qhR vs e0 e1 e2 (seqC Cs 0))):=by
 cases h with
 |nil=>
  simp only[Wk] at hN
  subst hN
  rw[if_pos (show seqC ([]:List (Int->Cd)) 0=[] from rfl)]
  have z:=qxJ (vs:=vs) (e0:=e0) (e1:=e1) (e2:=e2) (f:=f) (N:=0) (cs:=[])
  rw[show blF 2 3 0 0=[(2,.ptr 2 0),(3,.ptr 3 0),(64,.int 0),(65,.int 0)] from rfl] at z
  have zs:Z qad (.call 169 [.ptr 0 0,.dat (.agg [.lit (.int .i64 7),.lit (.int .i64 0),.lit (.string ⟨#[]⟩),kd f 0 []])] (qd3 vs e0 e1 e2))=some (.ret (.tup []) (qd3 vs e0 e1 e2)):=by
   simp only[bl0,qz9] at z
   refine qac (pf:=F169) rfl rfl ?_
   simp[F169,z,qcF,Wa]
  refine qac (pf:=F147) rfl rfl ?_
  simp only[qz9] at zs
  simp[F147,zs,Wa]
 | @cons a b c d C L r Cs M h1 hr=>
  simp only[We] at hN
  have hn1:C 0≠[]:=fun e=>by have:=h1.ln 0; have:=h1.pos; rw[e] at *; simp_all
  have hlen:(C 0).length=L:=h1.ln 0
  have z1:=qtX (N:=N) (e0:=e0) (e1:=e1) (e2:=e2) (f:=f) (i:=0) (r:=r) (cs:=a::b::c::d::r) (by omega) hN2 rfl h1 (by omega)
  have z2:=qon (N:=N) (e0:=e0) (e1:=e1) (e2:=e2) (f:=f) (cs:=a::b::c::d::r) hN2 hr 1 rfl (by omega) (C 0) hn1 (by omega)
  have z:=z1.trans z2
  have e:C 0++seqC Cs (C 0).length=seqC (C::Cs) 0:=by simp[seqC]
  have hne:seqC (C::Cs) 0≠[]:=by rw[<- e]; simp[hn1]
  rw[e] at z
  rw[if_neg hne]
  rw[show blF 2 3 N 0=[(2,.ptr 2 0),(3,.ptr 3 0),(64,.int N),(65,.int 0)] from rfl] at z
  generalize seqC (C::Cs) 0=c2 at *
  have zs:Z qad (.call 169 [.ptr 0 0,.dat (.agg [.lit (.int .i64 7),.lit (.int .i64 0),.lit (.string ⟨#[]⟩),kd f N (a::b::c::d::r)])] (qd3 vs e0 e1 e2))=some (.ret (.tup []) (qhR vs e0 e1 e2 c2)):=by
   refine qac (pf:=F169) rfl rfl ?_
   simp[F169,z,Wa]
  refine qac (pf:=F147) rfl rfl ?_
  simp[F147,zs,Wa]
theorem qCl(b:Ss)(hf:b.fine)(hi:b.inV vs)(hb:b.fo.size<2^30) : ∃ M,RowT vs b.fo.cells (qel vs b) M/\(qel vs b).length=b.fo.len:=by
 fun_induction Ss.fine b with
 |case1=>exact⟨0,.nil,rfl⟩
 |case2 _ s e r ih=>
  simp only[Ss.fo,qak] at hb
  obtain⟨M,h,hl⟩:=ih hf.2 hi.2 (by omega)
  obtain⟨L,k⟩:=qpB e hf.1.2.1 hi.1.2
  exact⟨_,.cons (qq8 _ hi.1.1 k) h,by simp[qel,Ss.fo,hl]⟩
 |case3 _ s a b r ih=>
  simp only[Ss.fo,qak] at hb
  obtain⟨M,h,hl⟩:=ih hf.2 hi.2 (by omega)
  obtain⟨L,k⟩:=qpB a hf.1.2.1 hi.1.1
  obtain⟨L',k'⟩:=qpB b hf.1.2.2.2.1 hi.1.2
  exact⟨_,.cons (qtl _ (Yr _ hf.1.1) k k') h,by simp[qel,Ss.fo,hl]⟩
 |case4 _ a b r ih=>
  simp only[Ss.fo,qak] at hb
  obtain⟨M,h,hl⟩:=ih hf.2 hi.2 (by omega)
  obtain⟨L,k⟩:=qpB a hf.1.1 hi.1.1
  obtain⟨L',k'⟩:=qpB b hf.1.2.2.1 hi.1.2
  exact⟨_,.cons (qq9 _ k k') h,by simp[qel,Ss.fo,hl]⟩
 |case5 r ih=>
  simp only[Ss.fo,qak] at hb
  obtain⟨M,h,hl⟩:=ih hf hi (by omega)
  exact⟨_,.cons (qw8 false) h,by simp[qel,Ss.fo,hl]⟩
 |case6 _ c _ x _ y r ih1 ih2 ih3=>
  simp only[Ss.fo,qak,qck] at hb
  obtain⟨Mx,hx,hlx⟩:=ih1 hf.2.1 hi.2.1.1 (by omega)
  obtain⟨My,hy,hly⟩:=ih2 hf.2.2.1 hi.2.1.2.1 (by omega)
  obtain⟨M,h,hl⟩:=ih3 hf.2.2.2 hi.2.2 (by omega)
  obtain⟨L,k⟩:=qpB c hf.1.1 hi.1
  have sx:=qbo x.fo
  have sy:=qbo y.fo
  have bx:=qtZ hx hlx (by omega)
  have by_:=qtZ hy hly (by omega)
  rw[show seqC (qel vs x)=codeS vs x from funext (qim x)] at bx
  rw[show seqC (qel vs y)=codeS vs y from funext (qim y)] at by_
  exact⟨_,.cons (qB6 _ _ _ k (bx _) (by_ _)) h,by simp[qel,Ss.fo,hl]⟩
 |case7 _ c _ x r ih1 ih2=>
  simp only[Ss.fo,qak,qck] at hb
  obtain⟨Mx,hx,hlx⟩:=ih1 hf.2.1 hi.2.1.1 (by omega)
  obtain⟨M,h,hl⟩:=ih2 hf.2.2 hi.2.2 (by omega)
  obtain⟨L,k⟩:=qpB c hf.1.1 hi.1
  have sx:=qbo x.fo
  have bx:=qtZ hx hlx (by omega)
  rw[show seqC (qel vs x)=codeS vs x from funext (qim x)] at bx
  exact⟨_,.cons (qtm _ _ k (bx _)) h,by simp[qel,Ss.fo,hl]⟩
 |case8=>exact hf.elim
end
end
section
open F Gr
set_option maxHeartbeats 1000000
def DepIs(c:Cd)(e m:Int):Prop:=(e<0->m=0)/\(0<=e -> ∀ D,CF c e.toNat D->Most c e.toNat D m)
theorem DepIs.unique{c:Cd}{e m m':Int}{D:Nat->Int}(hD:0<=e->CF c e.toNat D)(h:DepIs c e m)(h':DepIs c e m'):m=m':=by
 by_cases h0:e<0
 ·rw[h.1 h0,h'.1 h0]
 ·have:=hD (by omega)
  exact Most.unique (h.2 (by omega) D this) (h'.2 (by omega) D this)
inductive PSt(e0 e1 e2:Int):S->D->Cd->Prop
 |nil:PSt e0 e1 e2 [zP,.cells [.dat (.lit (.slice none 0 0)),.int e0,.int e1,.int e2]] (.lit (.slice none 0 0)) []
 |gr (c:Cd) (h:c≠[]):PSt e0 e1 e2 [zP,.cells [.gsl (icC c) c.length 2 2,.int e0,.int e1,.int e2],.tip (icC c).length] (.sl (icC c) c.length false) c
theorem PSt.code{e0 e1 e2:Int}{σ : S}{d:D}{c:Cd}(h:PSt e0 e1 e2 σ d c):IsCode d c:=by
 cases h with
 |nil=>exact qjS
 |gr=>exact qiT _ false
end
section
open F Gr
set_option maxHeartbeats 1000000
def codeD:Cd->D
 |[] => .lit (.slice none 0 0)
 |x::c => .sl (icC (x::c)) (x::c).length false
theorem qtS(c:Cd):IsCode (codeD c) c:=by
 cases c with
 |nil=>exact qjS
 |cons x c=>exact qiT _ false
theorem qtT{c:Cd}(h:c≠[]):codeD c = .sl (icC c) c.length false:=by
 cases c with
 |nil=>exact absurd rfl h
 |cons x c=>rfl
def qtU(c:Cd)(e0 e1 e2 m0 m1 m2:Int):V:=
 if 400<c.length then .tup [pgD (.lit (.slice none 0 0)) 0 0 0,.int 2]
 else if 16<m0\/16<m1\/16<m2 then .tup [pgD (.lit (.slice none 0 0)) 0 0 0,.int 15]
 else .tup [pgD (codeD c) e0 e1 e2,.int 0]
section
variable{a b c:Hd}
theorem ql7{vs:List ByteArray}(fa:a.fine)(fb:b.fine)(fc:c.fine):(qeH vs a b c).length<=30000:=by
 have key : ∀ h:Hd,h.fine -> ∃ L,L<=8001/\Ln (hdC vs h) L:=fun h f=>by
  cases h with
  |none=>exact⟨0,by omega,fun _=>rfl⟩
  |some g x=>
   obtain⟨n,hn,hn2⟩:=qBX vs x
   have:=f.size
   simp only[Hd.ss] at this
   exact⟨n+1,by omega,qb8 hn⟩
 obtain⟨la,ka,na⟩:=key a fa
 obtain⟨lb,kb,nb⟩:=key b fb
 obtain⟨lc,kc,nc⟩:=key c fc
 have:=qbG na (qbG nb nc) 0
 unfold qeH
 omega
theorem qpx(h:Hd)(f:h.fine):h.nd.ks.size<=2000:=by
 have:=f.size
 rw[qpp,qtq]; exact this
end
end
end Go.Pm
