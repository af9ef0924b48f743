/- Chapter 13's generator: whole programs. Parse with other marks; its errors have a code; generated trees are good and not long. No program in sight. The abstract machine's program, printed by a program of our own: group 3q. The abstract machine's program, printed by a program of our own: group Law13. The abstract machine's programs: tables of functions. Equal, of the program and of the reference: equal but for marks. The abstract machine's programs: tables of functions. The abstract machine's programs: tables of functions. Chapter 13's reference printer: strings joined. Decimal, of reference 01. -/
import Derived.Test.YtjdbkncfebebnaaDoorPmF3g
import Derived.Test.YtjdbkncfebebnaaDoorPmUd
import Derived.Test.YtjdbkncfebebnaaDoorPmYh
import Derived.Test.YtjdbkncfebebnaaDoorPmF3
import Derived.Test.YtjdbkncfebebnaaDoorPmFx
set_option linter.unusedSimpArgs false
set_option linter.unusedVariables false
section SG5
namespace Go.Pm
open F
theorem qrQ (o:Option Addr) (m:Int) (hm:0<=m):Z qbo (.call 23 [.dat (.lit (.slice o 0 0)),.int m] [])=some (.ret (.dat (qd1 [])) []):=by
 refine Z_call (pf:=F23) rfl rfl ?_
 have h : ¬ m<0:=by omega
 simp[F23,V.len,qoL,qlF,h,qha,bound,qcE,qmY,qd1]
theorem qmK (xs:List Int) (k:Nat):(qcw xs).take k=qcw (xs.take k):=by simp[qcw,List.map_take]
theorem qrR (xs:List Int) (k:Nat) (hk:k<=1000):Z qbo (.call 23 [.dat (.sl (qcw xs) xs.length false),.int k] [])=some (.ret (.dat (qd1 (xs.take k))) []):=by
 refine Z_call (pf:=F23) rfl rfl ?_
 have hl:(qcw xs).length=xs.length:=by simp[qcw]
 have key : ∃ m:Nat,(if k<xs.length then (k:Int) else (xs.length:Int))=(m:Int)/\m<=xs.length/\m<=1000/\xs.take k=xs.take m/\(xs.take m).length=m:=by
  by_cases h:k<xs.length
  ·exact⟨k,by simp[h],by omega,hk,rfl,by simp; omega⟩
  ·exact⟨xs.length,by simp[h],Nat.le_refl _,by omega,by rw[List.take_of_length_le (by omega),List.take_of_length_le (Nat.le_refl _)],by simp⟩
 obtain⟨m,e1,e2,e3,e4,e5⟩:=key
 rw[e4]
 cases hm:xs.take m with
 | nil=>
  rw[hm] at e5
  simp at e5
  subst e5
  simp[F23,V.len,qoL,qlF,e1,qha,bound,qcE,qmY,qd1,hl]
 | cons y ys=>
  have hm':=e5
  rw[hm] at hm'
  simp only[List.length_cons] at hm'
  have hne:m≠0:=by omega
  have hr:qa6 m 8=true:=by simp[qa6]; omega
  have ht:(qcw xs).take m=qcw (y::ys):=by rw[qmK,hm]
  have hlen:(qcw (y::ys)).length=m:=by simp[qcw]; omega
  simp[F23,V.len,qoL,qlF,e1,qha,bound,qcE,qmY,qd1,hl,e2,ht,hlen,hne,hr,hm']
theorem qtH {v:D} {xs:List Int} (h:RowV v xs) (k:Nat) (hk:k<=1000):Z qbo (.call 23 [.dat v,.int k] [])=some (.ret (.dat (qd1 (xs.take k))) []):=by
 rcases h with ⟨o,rfl,rfl⟩ | rfl
 ·simpa using qrQ o k (by omega)
 ·exact qrR xs k hk
def Hd.ss:Hd->Ss
 | .none => .nil
 | .some _ b=>b
structure Hd.fine (h:Hd):Prop where
 fine:h.ss.fine
 size:h.ss.fo.size<=2000
def Hd.cost:Hd->Nat
 | .none=>0
 | .some _ b=>12+b.cost
structure Hd.gen (h:Hd):Prop extends h.fine where
 f:h.f=false
 dp:h.ss.dp<=2
 edp:h.ss.edp<=3
 gsize:h.ss.fo.size<=1260
theorem qjz:Hd.none.gen:=⟨⟨trivial,Nat.zero_le _⟩,rfl,Nat.zero_le _,Nat.zero_le _,Nat.zero_le _⟩
abbrev z12:Ob := .cells [.int 0,.int 0,.str ⟨#[]⟩,.dat (.lit (.slice none 0 0)),.int 0,.int 0,.str ⟨#[]⟩,.dat (.lit (.slice none 0 0)),.int 0,.int 0,.str ⟨#[]⟩,.dat (.lit (.slice none 0 0))]
abbrev tst (xs:List Int) (i:Int) (a b c:Nd):S:=[z12,.cells [.dat (qd1 xs),.int i],qfk a b c]
abbrev tfr (h:Int):Fr:=[(2,.ptr 0 0),(3,.ptr 1 0),(4,.ptr 2 0),(5,.int h)]
section
variable {xs:List Int} {i:Int} {a b c:Nd}
theorem qvm:Z qbo (.loop 0 F123l0 (tfr 3) (tst xs i a b c))=some (.out (.exit 0) (tfr 3++[(11,.bool false)]) (tst xs i a b c)):=by
 rw[qac]
 simp[qae,qcB,List.range_succ]
theorem qrS (hx : ∀ x∈xs,I64 x) (hl:xs.length<=100) (hi:0<=i/\i<=100) : ∃ (g:Hd) (i':Int),g.gen/\(0<=i'/\i'<=100)/\Co 0 g.cost xs i i'/\Z qbo (.loop 0 F123l0 (tfr 0) (tst xs i Hd.none.nd b c))=Z qbo (.loop 0 F123l0 (tfr 1) (tst xs i' g.nd b c)):=by
 have n1:=qbj (i:=i) (m:=4) hx (qbt hl) hi (by omega)
 have r1:=qau hi (qbt hl)
 have w1:=qal 1 (by omega)
 by_cases h2:0<qay xs i 4
 ·obtain⟨q,i',k1,k2,k3⟩:=(qui hx hl 2 (by omega)).2 _ r1 3 (by omega) (by omega)
  have hs:ssz 2=420:=rfl
  rw[show ((2:Nat):Int).toNat=2 from rfl,show (3:Int).toNat=3 from rfl,hs] at k1
  have hco:Co 0 (Hd.cost (.some false q)) xs i i':=by
   obtain⟨u1,u2,u3⟩:=k1.2.2.2.2
   show _/\_/\((12+q.cost:Nat):Int)<=_
   rcases qas xs i with ⟨e1,l1⟩ | ⟨e1,l1⟩
   ·omega
   ·exact absurd (l1 4) (by omega)
  refine⟨.some false q,i',⟨⟨k1.1,by show q.fo.size<=2000; have:=k1.2.2.2.1; omega⟩,rfl,k1.2.1,k1.2.2.1,k1.2.2.2.1⟩,k2,hco,?_⟩
  simp at k3
  conv=>lhs; rw[qac]
  simp[qae,qcB,n1,h2,k3,w1,Nd.d,Hd.k,Hd.f,Hd.ks,tfr,tst,qfk,List.range_succ]
 ·have hco:Co 0 (Hd.cost .none) xs i (qaA xs i):=by
   show _/\_/\((0:Nat):Int)<=_
   rcases qas xs i with ⟨e1,l1⟩ | ⟨e1,l1⟩<;>omega
  refine⟨.none,_,qjz,r1,hco,?_⟩
  conv=>lhs; rw[qac]
  simp[qae,qcB,n1,h2,w1,Nd.d,Hd.k,Hd.f,Hd.ks,tfr,tst,qfk,List.range_succ]
theorem qrT (hx : ∀ x∈xs,I64 x) (hl:xs.length<=100) (hi:0<=i/\i<=100) : ∃ (g:Hd) (i':Int),g.gen/\(0<=i'/\i'<=100)/\Co 0 g.cost xs i i'/\Z qbo (.loop 0 F123l0 (tfr 1) (tst xs i a Hd.none.nd c))=Z qbo (.loop 0 F123l0 (tfr 2) (tst xs i' a g.nd c)):=by
 have n1:=qbj (i:=i) (m:=4) hx (qbt hl) hi (by omega)
 have r1:=qau hi (qbt hl)
 have w1:=qal 2 (by omega)
 by_cases h2:0<qay xs i 4
 ·obtain⟨q,i',k1,k2,k3⟩:=(qui hx hl 2 (by omega)).2 _ r1 3 (by omega) (by omega)
  have hs:ssz 2=420:=rfl
  rw[show ((2:Nat):Int).toNat=2 from rfl,show (3:Int).toNat=3 from rfl,hs] at k1
  have hco:Co 0 (Hd.cost (.some false q)) xs i i':=by
   obtain⟨u1,u2,u3⟩:=k1.2.2.2.2
   show _/\_/\((12+q.cost:Nat):Int)<=_
   rcases qas xs i with ⟨e1,l1⟩ | ⟨e1,l1⟩
   ·omega
   ·exact absurd (l1 4) (by omega)
  refine⟨.some false q,i',⟨⟨k1.1,by show q.fo.size<=2000; have:=k1.2.2.2.1; omega⟩,rfl,k1.2.1,k1.2.2.1,k1.2.2.2.1⟩,k2,hco,?_⟩
  simp at k3
  conv=>lhs; rw[qac]
  simp[qae,qcB,n1,h2,k3,w1,Nd.d,Hd.k,Hd.f,Hd.ks,tfr,tst,qfk,List.range_succ]
 ·have hco:Co 0 (Hd.cost .none) xs i (qaA xs i):=by
   show _/\_/\((0:Nat):Int)<=_
   rcases qas xs i with ⟨e1,l1⟩ | ⟨e1,l1⟩<;>omega
  refine⟨.none,_,qjz,r1,hco,?_⟩
  conv=>lhs; rw[qac]
  simp[qae,qcB,n1,h2,w1,Nd.d,Hd.k,Hd.f,Hd.ks,tfr,tst,qfk,List.range_succ]
theorem qrU (hx : ∀ x∈xs,I64 x) (hl:xs.length<=100) (hi:0<=i/\i<=100) : ∃ (g:Hd) (i':Int),g.gen/\(0<=i'/\i'<=100)/\Co 0 g.cost xs i i'/\Z qbo (.loop 0 F123l0 (tfr 2) (tst xs i a b Hd.none.nd))=Z qbo (.loop 0 F123l0 (tfr 3) (tst xs i' a b g.nd)):=by
 have n1:=qbj (i:=i) (m:=4) hx (qbt hl) hi (by omega)
 have r1:=qau hi (qbt hl)
 have w1:=qal 3 (by omega)
 by_cases h2:0<qay xs i 4
 ·obtain⟨q,i',k1,k2,k3⟩:=(qui hx hl 2 (by omega)).2 _ r1 3 (by omega) (by omega)
  have hs:ssz 2=420:=rfl
  rw[show ((2:Nat):Int).toNat=2 from rfl,show (3:Int).toNat=3 from rfl,hs] at k1
  have hco:Co 0 (Hd.cost (.some false q)) xs i i':=by
   obtain⟨u1,u2,u3⟩:=k1.2.2.2.2
   show _/\_/\((12+q.cost:Nat):Int)<=_
   rcases qas xs i with ⟨e1,l1⟩ | ⟨e1,l1⟩
   ·omega
   ·exact absurd (l1 4) (by omega)
  refine⟨.some false q,i',⟨⟨k1.1,by show q.fo.size<=2000; have:=k1.2.2.2.1; omega⟩,rfl,k1.2.1,k1.2.2.1,k1.2.2.2.1⟩,k2,hco,?_⟩
  simp at k3
  conv=>lhs; rw[qac]
  simp[qae,qcB,n1,h2,k3,w1,Nd.d,Hd.k,Hd.f,Hd.ks,tfr,tst,qfk,List.range_succ]
 ·have hco:Co 0 (Hd.cost .none) xs i (qaA xs i):=by
   show _/\_/\((0:Nat):Int)<=_
   rcases qas xs i with ⟨e1,l1⟩ | ⟨e1,l1⟩<;>omega
  refine⟨.none,_,qjz,r1,hco,?_⟩
  conv=>lhs; rw[qac]
  simp[qae,qcB,n1,h2,w1,Nd.d,Hd.k,Hd.f,Hd.ks,tfr,tst,qfk,List.range_succ]
end
theorem qmL {v:D} {xs:List Int} (h:RowV v xs) (hx : ∀ x∈xs,I64 x) : ∃ a b c:Hd,a.gen/\b.gen/\(c.gen/\a.cost+(b.cost+c.cost)<=1440)/\Z qbo (.call 123 [.dat v] [])=some (.ret (.dat (ru a.nd b.nd c.nd)) []):=by
 have hx' : ∀ x∈xs.take 60,I64 x:=fun x hm=>hx x (List.mem_of_mem_take hm)
 have hl':(xs.take 60).length<=100:=by simp; omega
 have n0:=qtH h 60 (by omega)
 obtain⟨a,i1,a1,a2,a3,a4⟩:=qrS (i:=0) (b:=Hd.none.nd) (c:=Hd.none.nd) hx' hl' (by omega)
 obtain⟨b,i2,b1,b2,b3,b4⟩:=qrT (i:=i1) (a:=a.nd) (c:=Hd.none.nd) hx' hl' a2
 obtain⟨c,i3,c1,c2,c3,c4⟩:=qrU (i:=i2) (a:=a.nd) (b:=b.nd) hx' hl' b2
 have hl:=a4.trans (b4.trans (c4.trans qvm))
 have hcost:a.cost+(b.cost+c.cost)<=1440:=by
  obtain⟨p1,p2,p3⟩:=a3
  obtain⟨q1,q2,q3⟩:=b3
  obtain⟨r1,r2,r3⟩:=c3
  have:(xs.take 60).length<=60:=by simp; omega
  omega
 refine⟨a,b,c,a1,b1,⟨c1,hcost⟩,?_⟩
 refine Z_call (pf:=F123) rfl rfl ?_
 simp only[tfr,tst,qfk,Nd.d,qwi,qwj,qwk,qwl,qvy,List.cons_append,List.nil_append,show Hd.k .none=0 from rfl,show Hd.f .none=false from rfl,show Hd.ks .none = .nil from rfl,z12,qbv,qaY,qtQ] at hl
 simp at n0 hl
 simp[F123,n0,hl,ru,Nd.d,List.range_succ]
end Go.Pm
end SG5
section SUg
namespace Go.Pm
theorem qku {f fi fb:Bool} {s:ByteArray} {a c:Nat} (h:qc7 f fi fb s = .er a c):c≠0:=by
 by_cases hbig:2000<s.size
 ·rw[qc7,if_pos hbig] at h; cases h; omega
 ·have hn:=qm6 f fi fb (10*(qhR s).length+10) (fun _=>none) (qhR s)
  rw[qed hbig,h] at hn
  exact hn
def wt:List ByteArray->Nat
 | []=>0
 | t::l=>t.size+1+wt l
theorem qeC (a b:List ByteArray):wt (a++b)=wt a+wt b:=by
 induction a with
 | nil=>simp[wt]
 | cons t a ih=>simp only[List.cons_append,wt,ih]; omega
theorem qol : ∀ (l:List ByteArray) (p:Bool),(qah p l).length<=wt l
 | [],p=>by simp[qah,wt]
 | t::l,p=>by
  have h1:=qol l (qbb p t)
  have h2:=qaG t
  have h3:(gap p t).length<=1:=by unfold gap; split<;>simp
  simp only[qah,List.length_append,wt]
  omega
theorem ql6 (b:Bool) (l:List ByteArray):wt (qb7 b l)<=wt l+4:=by
 cases b with
 | false=>simp[qb7]
 | true=>
  have:wt (qb7 true l)=2+(wt l+2):=by
   show wt (bs [40]::(l++[bs [41]]))=_
   rw[wt,qeC]
   rfl
  omega
theorem qh3 (full:Bool) : ∀ (e:E) p,wt (e.tx full p)<=e.cost
 | .int n,p=>by simp[E.tx,wt,E.cost,qao]
 | .bool n,p=>by
  simp only[E.tx,wt,E.cost]
  split<;>simp[qgA,qkp,qao]
 | .var s,p=>by simp[E.tx,wt,E.cost]
 | .name s,p=>by simp[E.tx,wt,E.cost]
 | .field _ s e,p=>by
  have:=qh3 full e 1
  simp only[E.tx,wt,qeC,E.cost,qao,List.length_cons,List.length_nil]
  omega
 | .un _ neg e,p=>by
  have h1:=qh3 full e (qdI neg)
  have h2:=ql6 (full||decide (qdI neg<p)) (ustr neg::e.tx full (qdI neg))
  have h3:(ustr neg).size=1:=by cases neg<;>rfl
  simp only[E.tx,E.cost]
  rw[wt,h3] at h2
  omega
 | .bin _ o a b,p=>by
  have h1:=qh3 full a o.left
  have h2:=qh3 full b (o.prec+1)
  have h3:=ql6 (full||decide (o.prec<p)) (a.tx full o.left++o.str::b.tx full (o.prec+1))
  simp only[E.tx,E.cost]
  rw[qeC,wt] at h3
  omega
theorem qjx : ∀ s:Ss,wt s.tx<=s.cost
 | .nil=>Nat.le_refl _
 | .assign _ s e r=>by
  have h1:=qh3 false e 1
  have h2:=qjx r
  simp only[Ss.tx,wt,qeC,Ss.cost,qao,List.length_cons,List.length_nil]
  omega
 | .store _ s a b r=>by
  have h1:=qh3 false a 1
  have h3:=qh3 false b 1
  have h2:=qjx r
  simp only[Ss.tx,wt,qeC,Ss.cost,qao,List.length_cons,List.length_nil]
  omega
 | .effect _ a b r=>by
  have h1:=qh3 false a 1
  have h3:=qh3 false b 1
  have h2:=qjx r
  simp only[Ss.tx,wt,qeC,Ss.cost,qk6,qao,List.length_cons,List.length_nil]
  omega
 | .stop r=>by
  have h2:=qjx r
  simp only[Ss.tx,wt,qeC,Ss.cost,qrv,qao,List.length_cons,List.length_nil]
  omega
 | .cond w _ c b r=>by
  have h1:=qh3 false c 1
  have h3:=qjx b
  have h2:=qjx r
  cases w<;>simp only[Ss.tx,wt,qeC,Ss.cost,qn6,ifS,qao,List.length_cons,List.length_nil,if_true,Bool.false_eq_true,if_false]<;>omega
 | .block _ b r=>by
  have h3:=qjx b
  have h2:=qjx r
  simp only[Ss.tx,wt,qeC,Ss.cost,qao,List.length_cons,List.length_nil]
  split
  ·simp only[wt,qjp,qao,List.length_cons,List.length_nil]; omega
  ·simp only[wt]; omega
theorem ql7 {s:ByteArray} (h:s∈qtR):qpy s/\s.size<=3:=by
 simp only[qtR,qmR,List.cons_append,List.nil_append,List.mem_cons,List.not_mem_nil,or_false] at h
 have key : ∀ (c:UInt8) (r:List UInt8),qaO c=true->(∀ b∈r,qar b=true)->(c::r).length<=8->Tg (byl (bs (c::r))):=fun c r h1 h2 h3=>qrm h1 h2 h3
 rcases h with rfl | rfl | rfl | rfl | rfl
 ·exact⟨⟨key 105 [] (by decide) (by decide) (by decide),by decide,by decide,by decide⟩,by decide⟩
 ·exact⟨⟨key 110 [] (by decide) (by decide) (by decide),by decide,by decide,by decide⟩,by decide⟩
 ·exact⟨⟨key 115 [117,109] (by decide) (by decide) (by decide),by decide,by decide,by decide⟩,by decide⟩
 ·exact⟨⟨key 118 [51] (by decide) (by decide) (by decide),by decide,by decide,by decide⟩,by decide⟩
 ·exact⟨⟨key 118 [] (by decide) (by decide) (by decide),by decide,by decide,by decide⟩,by decide⟩
theorem qom {s:ByteArray} (h:s∈qky):(s=qtp\/s=qqn\/s=qpC)/\s.size<=5:=by
 simp only[qky,List.mem_cons,List.not_mem_nil,or_false] at h
 rcases h with rfl | rfl | rfl
 ·exact⟨.inl rfl,by decide⟩
 ·exact⟨.inr (.inl rfl),by decide⟩
 ·exact⟨.inr (.inr rfl),by decide⟩
theorem qiC {s:ByteArray} (h:s∈qfU):s∈fieldNames/\s.size<=5:=by
 simp only[qfU,qhH,List.cons_append,List.nil_append,List.mem_cons,List.not_mem_nil,or_false] at h
 rcases h with rfl | rfl | rfl | rfl | rfl | rfl | rfl | rfl<;>exact⟨by decide,by decide⟩
theorem qbG : ∀ e:E,e.fine->e.good
 | .int n,h=>h
 | .bool n,h=>h
 | .var s,h=>(ql7 h).1
 | .name s,h=>(qom h).1
 | .field _ s e,h=>⟨(qiC h.1).1,qbG e h.2.1⟩
 | .un _ neg e,h=>qbG e h.1
 | .bin _ o a b,h=>⟨qbG a h.1,qbG b h.2.1⟩
theorem qcO (full:Bool) : ∀ (e:E) p,e.nest full p<=2*e.dp
 | .int n,p | .bool n,p | .var s,p | .name s,p=>by simp[E.nest]
 | .field _ s e,p=>by have:=qcO full e 1; simp only[E.nest,E.dp]; omega
 | .un _ neg e,p=>by have:=qcO full e (qdI neg); simp only[E.nest,E.dp]; split<;>omega
 | .bin _ o a b,p=>by have h1:=qcO full a o.left; have h2:=qcO full b (o.prec+1); simp only[E.nest,E.dp]; split<;>omega
theorem qmH {s:ByteArray} (h:s∈qhH):s∈qfU:=List.mem_append_left _ h
theorem qmI (s:Ss):s.fine->s.good none:=by
 fun_induction Ss.fine s with
 | case1=>intro _; exact .inl rfl
 | case2 _ s e r ih=>intro h; exact⟨rfl,(ql7 h.1.1).1,qbG e h.1.2.1,ih h.2⟩
 | case3 _ s a b r ih=>intro h; exact⟨rfl,(qiC (qmH h.1.1)).1,qbG a h.1.2.1,qbG b h.1.2.2.2.1,ih h.2⟩
 | case4 _ a b r ih=>intro h; exact⟨rfl,qbG a h.1.1,qbG b h.1.2.2.1,ih h.2⟩
 | case5 r ih=>intro h; exact⟨rfl,ih h⟩
 | case6 _ c _ x _ y r ih1 ih2 ih3=>intro h; exact⟨rfl,qbG c h.1.1,⟨1,rfl,ih1 h.2.1,⟨0,rfl,ih2 h.2.2.1,.inr rfl⟩⟩,ih3 h.2.2.2⟩
 | case7 _ c _ x r ih1 ih2=>intro h; exact⟨rfl,qbG c h.1.1,⟨0,rfl,ih1 h.2.1,.inr rfl⟩,ih2 h.2.2⟩
 | case8=>intro h; exact h.elim
theorem qdf : ∀ s:Ss,s.nest<=2*s.edp+1+s.dp
 | .nil=>by simp[Ss.nest]
 | .assign _ s e r=>by have h1:=qcO false e 1; have h2:=qdf r; simp only[Ss.nest,Ss.edp,Ss.dp]; omega
 | .store _ s a b r=>by have h1:=qcO false a 1; have h3:=qcO false b 1; have h2:=qdf r; simp only[Ss.nest,Ss.edp,Ss.dp]; omega
 | .effect _ a b r=>by have h1:=qcO false a 1; have h3:=qcO false b 1; have h2:=qdf r; simp only[Ss.nest,Ss.edp,Ss.dp]; omega
 | .stop r=>by have h2:=qdf r; simp only[Ss.nest,Ss.edp,Ss.dp]; omega
 | .cond _ _ c b r=>by have h1:=qcO false c 1; have h3:=qdf b; have h2:=qdf r; simp only[Ss.nest,Ss.edp,Ss.dp]; omega
 | .block _ b r=>by have h3:=qdf b; have h2:=qdf r; simp only[Ss.nest,Ss.edp,Ss.dp]; omega
theorem qeV {h:Hd} (hg:h.gen):qct h.opt:=by
 cases h with
 | none=>intro b hb; cases hb
 | some f b=>
  intro x hx
  cases hx
  have h1:=hg.dp
  have h2:=hg.edp
  have h3:=qdf b
  simp only[Hd.ss] at h1 h2
  exact⟨qmI b hg.fine,by omega⟩
theorem qon {a b c:Hd} (ha:a.gen) (hb:b.gen) (hc:c.gen) : ∀ k,qct (Hd.opts a b c k)
 | 0=>qeV ha
 | 1=>qeV hb
 | _+2=>qeV hc
theorem qrM (k:Nat) (h:Hd):wt (qb6 k h.opt)<=h.cost:=by
 cases h with
 | none=>simp[Hd.opt,qb6,wt]
 | some f b=>
  have:=qjx b
  have hk:(qca k).size<=4:=by unfold qca; split<;>decide
  simp only[Hd.opt,qb6,wt,qeC,Hd.cost,onS,qao,List.length_cons,List.length_nil]
  omega
theorem qpP (a b c:Hd):(qah false (qbZ (Hd.opts a b c))).length<=a.cost+(b.cost+c.cost):=by
 refine Nat.le_trans (qol (qbZ (Hd.opts a b c)) false) ?_
 simp only[qbZ,qeC]
 exact Nat.add_le_add (qrM 0 a) (Nat.add_le_add (qrM 1 b) (qrM 2 c))
end Go.Pm
end SUg
section SF3q
namespace Go.Pm.F
variable (C:Task->Option Res) (q:Nat) (fr:Fr) (σ : S)
def F234:PFun:=⟨1,[.tmp 2],.seq (rn [bx 1 0,jj 2 (.mov (.c (.string ⟨#[]⟩)))] [1]) (.seq (rn [la 3 4 1,jj 4 (.call 246 [(.t 3),(kk 1),kF]),mv 2 4] [2]) (.ret)),false,false,false⟩
@[simp] def F236l0x:PC:=(.seq (.seq (rn [mv 5 4,bk 6 .lss 5 3] [1,3,4,6]) (.cond (.t 6) (.skip) (.exit 0))) (.seq (.block 1 (.seq (rn [mv 9 4,fa 10 0 1,jj 11 (.indexAddrA 3 4 (.t 10) (.t 9)),fa 12 0 11,l1 13 12,bk 14 .neq 13 0] [1,3,4,14]) (.cond (.t 14) (.region (some []) [mv 15 3,jj 16 (.call 152 []),mv 17 4,jj 18 (.indexAddr 1 (.t 16) (.t 17)),⟨some 19,.load false 1 (.t 18),none,[9]⟩,mv 20 4,fa 21 0 1,jj 22 (.indexAddrA 3 4 (.t 21) (.t 20)),⟨some 23,.load true 4 (.t 22),none,[1]⟩,cl 24 248 [23],jj 25 (.bslice 4 [eN,eN,eN,eN] [(0,1,(.t 15)),(1,1,(.c (.string ⟨#[111,110]⟩))),(2,1,(.t 19)),(3,1,(.t 24))]),cl 26 247 [25],mv 3 26] [1,3,4] [9,11]) (.skip)))) (rn [mv 7 4,bk 8 .add 7 1,mv 4 8] [1,3,4])))
def F236l0:PC:=F236l0x
theorem qge:run C q F236l0 fr σ = run C q F236l0x fr σ := rfl
def F236:PFun:=⟨1,[.tmp 2],.seq (rn [bx 1 0,jj 2 (.mov (.c (.string ⟨#[]⟩)))] [1]) (.seq (rn [jj 3 (.mov (.c (.string ⟨#[]⟩)))] [1,3]) (.seq (.seq (rn [mx 4 (kk 0)] [1,3,4]) (.block 0 (.loop F236l0))) (.seq (rn [mv 27 3,mv 2 27] [2]) (.ret)))),false,false,false⟩
def F246:PFun:=⟨3,[.tmp 6],.seq (rn [bx 3 0,jj 6 (.mov (.c (.string ⟨#[]⟩)))] [1,2,3]) (.seq (rn [la 10 4 3,cl 11 261 [10],mv 7 11] [1,2,3,7]) (.seq (rn [fa 12 2 3,l1 13 12,mv 8 13] [1,2,3,7,8]) (.seq (.seq (rn [fa 14 0 3,l1 15 14,bk 16 .eql 15 8] [1,2,3,7,8,16]) (.cond (.t 16) (rn [fa 17 1 3,l1 18 17,cl 19 20 [18],mv 8 19] [1,2,3,7,8]) (.skip))) (.seq (.seq (rn [fa 20 0 3,l1 21 20,bk 22 .eql 21 9] [1,2,3,7,8,22]) (.cond (.t 22) (.seq (rn [jj 8 (.mov (.c (.string ⟨#[102,97,108,115,101]⟩)))] [1,2,3,7,8]) (.seq (rn [fa 23 1 3,l1 24 23,bk 25 .eql 24 1] [1,2,3,7,8,25]) (.cond (.t 25) (rn [jj 8 (.mov (.c (.string ⟨#[116,114,117,101]⟩)))] [1,2,3,7,8]) (.skip)))) (.skip))) (.seq (.seq (rn [fa 26 0 3,l1 27 26,bk 28 .eql 27 11] [1,2,3,7,8,28]) (.cond (.t 28) (.region (some []) [fa 29 2 3,⟨some 30,.load false 1 (.t 29),none,[7]⟩,fa 31 3 3,l1 32 31,jj 33 (.indexAddr 4 (.t 32) (kk 0)),la 34 4 33,mv 35 2,jj 36 (.call 246 [(.t 34),(kk 1),(.t 35)]),jj 37 (.bslice 4 [eN,eN,eN,eN] [(0,1,(.t 30)),(1,1,(.c (.string ⟨#[91]⟩))),(2,1,(.t 36)),(3,1,(.c (.string ⟨#[93]⟩)))]),cl 38 247 [37],mv 8 38] [1,2,3,7,8] [7,9]) (.skip))) (.seq (.seq (rn [fa 39 0 3,l1 40 39,bk 41 .eql 40 13] [1,2,3,7,8,41]) (.cond (.t 41) (.region (some []) [fa 42 2 3,⟨some 43,.load false 1 (.t 42),none,[8]⟩,fa 44 3 3,l1 45 44,jj 46 (.indexAddr 4 (.t 45) (kk 0)),la 47 4 46,mv 48 7,mv 49 2,cl 50 246 [47,48,49],jj 51 (.bslice 2 [eN,eN] [(0,1,(.t 43)),(1,1,(.t 50))]),cl 52 247 [51],mv 8 52] [1,2,3,7,8] [8,10]) (.skip))) (.seq (.seq (rn [fa 53 0 3,l1 54 53,bk 55 .eql 54 14] [1,2,3,7,8,55]) (.cond (.t 55) (.seq (rn [mv 56 7,mv 9 56] [1,2,3,7,9]) (.seq (.seq (rn [mv 57 7,bk 58 .eql 57 4] [1,2,3,7,9,58]) (.cond (.t 58) (rn [mx 9 (kk 5)] [1,2,3,7,9]) (.skip))) (.region (some []) [fa 59 3 3,l1 60 59,jj 61 (.indexAddr 4 (.t 60) (kk 0)),la 62 4 61,mv 63 9,mv 64 2,cl 65 246 [62,63,64],fa 66 2 3,⟨some 67,.load false 1 (.t 66),none,[6,16]⟩,fa 68 3 3,⟨some 69,.load false 1 (.t 68),none,[6]⟩,jj 70 (.indexAddr 4 (.t 69) (kk 1)),⟨some 71,.load true 4 (.t 70),none,[6]⟩,mv 72 7,bk 73 .add 72 1,mv 74 2,cl 75 246 [71,73,74],jj 76 (.bslice 3 [eN,eN,eN] [(0,1,(.t 65)),(1,1,(.t 67)),(2,1,(.t 75))]),cl 77 247 [76],mv 8 77] [1,2,7,8] [16,18]))) (.skip))) (.seq (.seq (rn [mv 78 7,mv 79 1,bn 80 .lss 78 79,mv 81 80,jf 82 81 (.mov (.t 2)),jf 83 81 (.mov (.t 82)),jt 84 83 (.mov (.t 7)),jt 85 83 (.bin .lss (.t 84) (kk 8)),jf 86 81 (.pick (.t 83) (.t 85) kF),jj 87 (.pick (.t 81) kT (.t 86))] [8,87]) (.cond (.t 87) (.seq (rn [mv 88 8,jj 89 (.bin .add (.c (.string ⟨#[40]⟩)) (.t 88)),jj 90 (.bin .add (.t 89) (.c (.string ⟨#[41]⟩))),mv 6 90] [6]) (.ret)) (.skip))) (.seq (rn [mv 91 8,mv 6 91] [6]) (.ret)))))))))),false,false,false⟩
@[simp] def F247l0x:PC:=(.seq (.seq (rn [mv 5 4,mv 6 0,ls 7 6,bn 8 .lss 5 7] [0,3,4,8]) (.cond (.t 8) (.skip) (.exit 0))) (.seq (.block 1 (rn [mv 11 3,mv 12 0,mv 13 4,jj 14 (.indexAddr 1 (.t 12) (.t 13)),l1 15 14,cl 16 262 [11,15],mv 3 16] [0,3,4])) (rn [mv 9 4,bk 10 .add 9 1,mv 4 10] [0,3,4])))
def F247l0:PC:=F247l0x
theorem qiI:run C q F247l0 fr σ = run C q F247l0x fr σ := rfl
def F247:PFun:=⟨1,[.tmp 2],.seq (rn [jj 2 (.mov (.c (.string ⟨#[]⟩)))] [0]) (.seq (rn [jj 3 (.mov (.c (.string ⟨#[]⟩)))] [0,3]) (.seq (.seq (rn [mx 4 (kk 0)] [0,3,4]) (.block 0 (.loop F247l0))) (.seq (rn [mv 17 3,mv 2 17] [2]) (.ret)))),false,false,false⟩
@[simp] def F248l0x:PC:=(.seq (.seq (rn [mv 5 4,fa 6 3 1,l1 7 6,ls 8 7,bn 9 .lss 5 8] [1,3,4,9]) (.cond (.t 9) (.skip) (.exit 0))) (.seq (.block 1 (rn [mv 12 3,fa 13 3 1,l1 14 13,mv 15 4,jj 16 (.indexAddr 4 (.t 14) (.t 15)),la 17 4 16,cl 18 263 [17],cl 19 262 [12,18],mv 3 19] [1,3,4])) (rn [mv 10 4,bk 11 .add 10 1,mv 4 11] [1,3,4])))
def F248l0:PC:=F248l0x
theorem qgf:run C q F248l0 fr σ = run C q F248l0x fr σ := rfl
def F248:PFun:=⟨1,[.tmp 2],.seq (rn [bx 1 0,jj 2 (.mov (.c (.string ⟨#[]⟩)))] [1]) (.seq (rn [jj 3 (.mov (.c (.string ⟨#[123]⟩)))] [1,3]) (.seq (.seq (rn [mx 4 (kk 0)] [1,3,4]) (.block 0 (.loop F248l0))) (.seq (rn [mv 20 3,jj 21 (.bin .add (.t 20) (.c (.string ⟨#[125]⟩))),mv 2 21] [2]) (.ret)))),false,false,false⟩
def F261:PFun:=⟨1,[.tmp 2],.seq (rn [bx 1 0,mx 2 (kk 0)] [1]) (.seq (.seq (rn [fa 3 0 1,l1 4 3,bk 5 .eql 4 13] [1,5]) (.cond (.t 5) (.seq (.seq (rn [fa 6 2 1,l1 7 6,jj 8 (.bin .eql (.t 7) (.c (.string ⟨#[33]⟩)))] [8]) (.cond (.t 8) (.seq (rn [mx 2 (kk 3)] [2]) (.ret)) (.skip))) (.seq (rn [mx 2 (kk 7)] [2]) (.ret))) (.skip))) (.seq (.seq (rn [fa 9 0 1,l1 10 9,bk 11 .neq 10 14] [1,11]) (.cond (.t 11) (.seq (rn [mx 2 (kk 8)] [2]) (.ret)) (.skip))) (.seq (.seq (rn [fa 12 2 1,l1 13 12,jj 14 (.bin .eql (.t 13) (.c (.string ⟨#[124,124]⟩)))] [1,14]) (.cond (.t 14) (.seq (rn [mx 2 (kk 1)] [2]) (.ret)) (.skip))) (.seq (.seq (rn [fa 15 2 1,l1 16 15,jj 17 (.bin .eql (.t 16) (.c (.string ⟨#[38,38]⟩)))] [1,17]) (.cond (.t 17) (.seq (rn [mx 2 (kk 2)] [2]) (.ret)) (.skip))) (.seq (.seq (rn [fa 18 2 1,l1 19 18,jj 20 (.bin .eql (.t 19) (.c (.string ⟨#[43]⟩))),mv 21 20,jf 22 21 (.fieldAddr 2 (.t 1)),jf 23 21 (.load false 1 (.t 22)),jf 24 21 (.bin .eql (.t 23) (.c (.string ⟨#[45]⟩))),jj 25 (.pick (.t 21) kT (.t 24))] [1,25]) (.cond (.t 25) (.seq (rn [mx 2 (kk 5)] [2]) (.ret)) (.skip))) (.seq (.seq (rn [fa 26 2 1,l1 27 26,jj 28 (.bin .eql (.t 27) (.c (.string ⟨#[42]⟩))),mv 29 28,jf 30 29 (.fieldAddr 2 (.t 1)),jf 31 29 (.load false 1 (.t 30)),jf 32 29 (.bin .eql (.t 31) (.c (.string ⟨#[47]⟩))),jj 33 (.pick (.t 29) kT (.t 32))] [33]) (.cond (.t 33) (.seq (rn [mx 2 (kk 6)] [2]) (.ret)) (.skip))) (.seq (rn [mx 2 (kk 4)] [2]) (.ret)))))))),false,false,false⟩
def F262:PFun:=⟨2,[.tmp 4],.seq (rn [jj 4 (.mov (.c (.string ⟨#[]⟩)))] [0,1]) (.seq (.seq (rn [mv 7 0,jj 8 (.bin .neq (.t 7) (.c (.string ⟨#[]⟩))),mv 9 8,jt 10 9 (.mov (.t 1)),jt 11 9 (.bin .neq (.t 10) (.c (.string ⟨#[]⟩))),jj 12 (.pick (.t 9) (.t 11) kF)] [0,1,12]) (.cond (.t 12) (.seq (rn [mv 13 0,mv 14 0,lz 15 14,bk 16 .sub 15 1,jj 17 (.indexS (.t 13) (.t 16)),mv 5 17] [0,1,5]) (.seq (rn [mv 18 1,jj 19 (.indexS (.t 18) (kk 0)),mv 6 19] [0,1,5,6]) (.seq (rn [mv 20 5,cl 21 192 [20],mv 22 21,jf 23 22 (.mov (.t 5)),jf 24 22 (.call 193 [(.t 23)]),jj 25 (.pick (.t 22) kT (.t 24)),mv 26 25,jt 27 26 (.mov (.t 6)),jt 28 26 (.call 192 [(.t 27)]),jt 29 26 (.mov (.t 28)),jf 30 29 (.mov (.t 6)),jf 31 29 (.call 193 [(.t 30)]),jt 32 26 (.pick (.t 29) kT (.t 31)),jj 33 (.pick (.t 26) (.t 32) kF)] [0,1,33]) (.cond (.t 33) (.seq (rn [mv 34 0,jj 35 (.bin .add (.t 34) (.c (.string ⟨#[32]⟩))),mv 36 1,bn 37 .add 35 36,mv 4 37] [4]) (.ret)) (.skip))))) (.skip))) (.seq (rn [mv 38 0,mv 39 1,bn 40 .add 38 39,mv 4 40] [4]) (.ret))),false,false,false⟩
def F263:PFun:=⟨1,[.tmp 2],.seq (rn [bx 1 0,jj 2 (.mov (.c (.string ⟨#[]⟩)))] [1]) (.seq (.seq (rn [fa 4 0 1,l1 5 4] [1,5]) (.block 0 (.seq (rn [bk 7 .eql 5 1,mv 6 7] [1,5,6]) (.cond (.t 6) (.seq (.region (some []) [fa 8 2 1,⟨some 9,.load false 1 (.t 8),none,[6]⟩,fa 10 3 1,l1 11 10,jj 12 (.indexAddr 4 (.t 11) (kk 0)),la 13 4 12,cl 14 234 [13],jj 15 (.bslice 4 [eN,eN,eN,eN] [(0,1,(.t 9)),(1,1,(.c (.string ⟨#[61]⟩))),(2,1,(.t 14)),(3,1,(.c (.string ⟨#[59]⟩)))]),cl 16 247 [15],mv 2 16] [2] [6,8]) (.ret)) (.seq (rn [bk 18 .eql 5 2,mv 17 18] [1,5,17]) (.cond (.t 17) (.seq (.region (some []) [fa 19 2 1,⟨some 20,.load false 1 (.t 19),none,[6,11]⟩,fa 21 3 1,l1 22 21,jj 23 (.indexAddr 4 (.t 22) (kk 0)),la 24 4 23,cl 25 234 [24],fa 26 3 1,⟨some 27,.load false 1 (.t 26),none,[6]⟩,jj 28 (.indexAddr 4 (.t 27) (kk 1)),⟨some 29,.load true 4 (.t 28),none,[6]⟩,cl 30 234 [29],jj 31 (.bslice 7 [eN,eN,eN,eN,eN,eN,eN] [(0,1,(.t 20)),(1,1,(.c (.string ⟨#[91]⟩))),(2,1,(.t 25)),(3,1,(.c (.string ⟨#[93]⟩))),(4,1,(.c (.string ⟨#[61]⟩))),(5,1,(.t 30)),(6,1,(.c (.string ⟨#[59]⟩)))]),cl 32 247 [31],mv 2 32] [2] [11,13]) (.ret)) (.seq (rn [bk 34 .eql 5 5,mv 33 34] [1,5,33]) (.cond (.t 33) (.seq (.region (some []) [fa 35 3 1,l1 36 35,jj 37 (.indexAddr 4 (.t 36) (kk 0)),la 38 4 37,cl 39 234 [38],fa 40 3 1,⟨some 41,.load false 1 (.t 40),none,[4]⟩,jj 42 (.indexAddr 4 (.t 41) (kk 1)),⟨some 43,.load true 4 (.t 42),none,[4]⟩,cl 44 234 [43],jj 45 (.bslice 5 [eN,eN,eN,eN,eN] [(0,1,(.c (.string ⟨#[101,102,102,101,99,116]⟩))),(1,1,(.t 39)),(2,1,(.c (.string ⟨#[44]⟩))),(3,1,(.t 44)),(4,1,(.c (.string ⟨#[59]⟩)))]),cl 46 247 [45],mv 2 46] [2] [9,11]) (.ret)) (.seq (rn [bk 48 .eql 5 6,mv 47 48] [1,5,47]) (.cond (.t 47) (.seq (rn [jj 2 (.mov (.c (.string ⟨#[115,116,111,112,59]⟩)))] [2]) (.ret)) (.seq (rn [bk 50 .eql 5 4,mv 49 50] [1,49]) (.cond (.t 49) (.seq (.region (some []) [fa 51 3 1,l1 52 51,jj 53 (.indexAddr 4 (.t 52) (kk 0)),la 54 4 53,cl 55 234 [54],fa 56 3 1,⟨some 57,.load false 1 (.t 56),none,[4]⟩,jj 58 (.indexAddr 4 (.t 57) (kk 1)),⟨some 59,.load true 4 (.t 58),none,[4]⟩,cl 60 248 [59],jj 61 (.bslice 3 [eN,eN,eN] [(0,1,(.c (.string ⟨#[119,104,105,108,101]⟩))),(1,1,(.t 55)),(2,1,(.t 60))]),cl 62 247 [61],mv 2 62] [2] [9,11]) (.ret)) (.skip))))))))))))) (.seq (.region (some []) [fa 63 3 1,l1 64 63,jj 65 (.indexAddr 4 (.t 64) (kk 0)),la 66 4 65,cl 67 234 [66],fa 68 3 1,⟨some 69,.load false 1 (.t 68),none,[4]⟩,jj 70 (.indexAddr 4 (.t 69) (kk 1)),⟨some 71,.load true 4 (.t 70),none,[4]⟩,cl 72 248 [71],jj 73 (.bslice 3 [eN,eN,eN] [(0,1,(.c (.string ⟨#[105,102]⟩))),(1,1,(.t 67)),(2,1,(.t 72))]),cl 74 247 [73],mv 3 74] [1,3] [9,11]) (.seq (.seq (rn [fa 75 3 1,l1 76 75,jj 77 (.indexAddr 4 (.t 76) (kk 2)),fa 78 3 77,l1 79 78,ls 80 79,bk 81 .gtr 80 0] [1,3,81]) (.cond (.t 81) (rn [mv 82 3,fa 83 3 1,l1 84 83,jj 85 (.indexAddr 4 (.t 84) (kk 2)),la 86 4 85,cl 87 248 [86],jj 88 (.bslice 3 [eN,eN,eN] [(0,1,(.t 82)),(1,1,(.c (.string ⟨#[101,108,115,101]⟩))),(2,1,(.t 87))]),cl 89 247 [88],mv 3 89] [3]) (.skip))) (.seq (rn [mv 90 3,mv 2 90] [2]) (.ret))))),false,false,false⟩
end Go.Pm.F
end SF3q
section SFLaw13
namespace Go.Pm.F
variable (C:Task->Option Res) (q:Nat) (fr:Fr) (σ : S)
@[simp] def F222l0x:PC:=(.seq (.seq (rn [mv 17 5,bk 18 .geq 17 0] [3,4,5,18]) (.cond (.t 18) (.skip) (.exit 0))) (.seq (.block 1 (.seq (rn [jj 6 (.alloc [zN,zN,eN,sN,zN,zN,eN,sN,zN,zN,eN,sN])] [3,4,5,6]) (.seq (rn [mv 21 5,mv 22 5,fa 23 0 3,jj 24 (.indexAddrA 3 4 (.t 23) (.t 22)),la 25 4 24,fa 26 0 6,jj 27 (.indexAddrA 3 4 (.t 26) (.t 21)),st 4 27 25] [3,4,5,6]) (rn [mv 28 4,la 29 12 6,cl 30 236 [29],bn 31 .add 28 30,mv 4 31] [3,4,5])))) (rn [mv 19 5,bk 20 .sub 19 1,mv 5 20] [3,4,5])))
def F222l0:PC:=F222l0x
theorem qio:run C q F222l0 fr σ = run C q F222l0x fr σ := rfl
@[simp] def F222l1x:PC:=(.seq (.seq (rn [mv 46 10,bk 47 .lss 46 3] [3,4,10,47]) (.cond (.t 47) (.skip) (.exit 2))) (.seq (.block 3 (.seq (rn [jj 50 (.bslice 3 [eN,eN,eN] [(0,1,(.c (.string ⟨#[97,99,116]⟩))),(1,1,(.c (.string ⟨#[116,105,99,107]⟩))),(2,1,(.c (.string ⟨#[104,105,116]⟩)))]),mv 51 10,jj 52 (.indexAddr 1 (.t 50) (.t 51)),l1 53 52,mv 11 53] [3,4,10,11]) (.seq (rn [mv 55 4,jj 56 (.bin .add (.t 55) (.c (.string ⟨#[111,110,32]⟩))),mv 57 11,bn 58 .add 56 57,jj 59 (.bin .add (.t 58) (.c (.string ⟨#[123,115,116,111,112,59,125]⟩))),cl 60 228 [59],mv 54 60,ex 61 54 0,ex 62 54 1,ex 63 54 2,jj 12 (.alloc [zN,zN,eN,sN,zN,zN,eN,sN,zN,zN,eN,sN]),st 12 12 61,mv 13 62,mv 14 63] [3,4,10,13,14]) (.seq (rn [mv 64 10,fa 65 0 3,jj 66 (.indexAddrA 3 4 (.t 65) (.t 64)),fa 67 0 66,l1 68 67,bk 69 .eql 68 0,mv 70 69,jt 71 70 (.mov (.t 14)),jt 72 70 (.bin .neq (.t 71) (kk 0)),jj 73 (.pick (.t 70) (.t 72) kF),mv 74 73,jf 75 74 (.mov (.t 10)),jf 76 74 (.fieldAddr 0 (.t 3)),jf 77 74 (.indexAddrA 3 4 (.t 76) (.t 75)),jf 78 74 (.fieldAddr 0 (.t 77)),jf 79 74 (.load false 1 (.t 78)),jf 80 74 (.bin .neq (.t 79) (kk 0)),jf 81 74 (.mov (.t 80)),jt 82 81 (.mov (.t 14)),jt 83 81 (.bin .neq (.t 82) (kk 4)),jt 84 81 (.mov (.t 83)),jf 85 84 (.mov (.t 13)),jf 86 84 (.mov (.t 4)),jf 87 84 (.len .str (.t 86)),jf 88 84 (.bin .add (.t 87) (kk 3)),jf 89 84 (.bin .neq (.t 85) (.t 88)),jt 90 81 (.pick (.t 84) kT (.t 89)),jf 91 74 (.pick (.t 81) (.t 90) kF),jj 92 (.pick (.t 74) kT (.t 91))] [3,4,10,92]) (.cond (.t 92) (.seq (rn [mx 2 kF] [2]) (.ret)) (.skip)))))) (rn [mv 48 10,bk 49 .add 48 1,mv 10 49] [3,4,10])))
def F222l1:PC:=F222l1x
theorem qf5:run C q F222l1 fr σ = run C q F222l1x fr σ := rfl
def F222:PFun:=⟨1,[.tmp 2],.seq (rn [mx 2 kF] [0]) (.seq (rn [mv 15 0,cl 16 123 [15],jj 3 (.alloc [zN,zN,eN,sN,zN,zN,eN,sN,zN,zN,eN,sN]),st 12 3 16] [3]) (.seq (rn [jj 4 (.mov (.c (.string ⟨#[]⟩)))] [3,4]) (.seq (.seq (rn [mx 5 (kk 2)] [3,4,5]) (.block 0 (.loop F222l0))) (.seq (rn [mv 33 4,cl 34 228 [33],mv 32 34,ex 35 32 0,ex 36 32 1,ex 37 32 2,jj 7 (.alloc [zN,zN,eN,sN,zN,zN,eN,sN,zN,zN,eN,sN]),st 12 7 35,mv 8 36,mv 9 37] [3,4,7,9]) (.seq (.seq (rn [mv 38 9,bk 39 .neq 38 0,mv 40 39,jf 41 40 (.load true 12 (.t 7)),jf 42 40 (.load true 12 (.t 3)),jf 43 40 (.call 232 [(.t 41),(.t 42)]),jf 44 40 (.un .not (.t 43)),jj 45 (.pick (.t 40) kT (.t 44))] [3,4,45]) (.cond (.t 45) (.seq (rn [mx 2 kF] [2]) (.ret)) (.skip))) (.seq (.seq (rn [mx 10 (kk 0)] [3,4,10]) (.block 2 (.loop F222l1))) (.seq (rn [jj 93 (.call 229 []),mv 2 93] [2]) (.ret)))))))),false,false,false⟩
def F229:PFun:=⟨0,[.tmp 0],.seq (rn [mx 0 kF] []) (.seq (rn [jj 8 (.call 228 [(.c (.string ⟨#[111,110,32,116,105,99,107,123,120,91,48,93,61,49,43,50,42,118,59,125]⟩))]),mv 7 8,ex 9 7 0,ex 10 7 1,ex 11 7 2,jj 1 (.alloc [zN,zN,eN,sN,zN,zN,eN,sN,zN,zN,eN,sN]),st 12 1 9,mv 2 10,mv 3 11] [1,2,3]) (.seq (rn [jj 13 (.call 228 [(.c (.string ⟨#[111,110,32,97,99,116,32,123,32,115,116,111,112,32,125]⟩))]),mv 12 13,ex 14 12 0,ex 15 12 1,ex 16 12 2,jj 4 (.alloc [zN,zN,eN,sN,zN,zN,eN,sN,zN,zN,eN,sN]),st 12 4 14,mv 5 15,mv 6 16] [1,2,3,5,6]) (.seq (.seq (rn [fa 17 0 1,jj 18 (.indexAddrA 3 4 (.t 17) (kk 1)),fa 19 3 18,l1 20 19,ls 21 20,bk 22 .neq 21 1] [1,2,3,5,6,22]) (.cond (.t 22) (.seq (rn [mx 0 kF] [0]) (.ret)) (.skip))) (.seq (rn [mv 23 2,bk 24 .eql 23 0,mv 25 24,jt 26 25 (.mov (.t 3)),jt 27 25 (.bin .eql (.t 26) (kk 0)),jj 28 (.pick (.t 25) (.t 27) kF),mv 29 28,jt 30 29 (.fieldAddr 0 (.t 1)),jt 31 29 (.indexAddrA 3 4 (.t 30) (kk 1)),jt 32 29 (.fieldAddr 3 (.t 31)),jt 33 29 (.load false 1 (.t 32)),jt 34 29 (.indexAddr 4 (.t 33) (kk 0)),jt 35 29 (.fieldAddr 0 (.t 34)),jt 36 29 (.load false 1 (.t 35)),jt 37 29 (.bin .eql (.t 36) (kk 2)),jj 38 (.pick (.t 29) (.t 37) kF),mv 39 38,jt 40 39 (.load true 12 (.t 1)),jt 41 39 (.call 231 [(.t 40)]),jt 42 39 (.bin .eql (.t 41) (.c (.string ⟨#[111,110,32,116,105,99,107,123,120,91,48,93,61,49,43,50,42,118,59,125]⟩))),jj 43 (.pick (.t 39) (.t 42) kF),mv 44 43,jt 45 44 (.mov (.t 5)),jt 46 44 (.bin .eql (.t 45) (kk 14)),jj 47 (.pick (.t 44) (.t 46) kF),mv 48 47,jt 49 48 (.mov (.t 6)),jt 50 48 (.bin .eql (.t 49) (kk 12)),jj 51 (.pick (.t 48) (.t 50) kF),mv 0 51] [0]) (.ret))))),false,false,false⟩
def F232:PFun:=⟨2,[.tmp 4],.seq (rn [bx 2 0,bx 3 1,mx 4 kF] [2,3]) (.seq (rn [fa 5 0 2,jj 6 (.indexAddrA 3 4 (.t 5) (kk 0)),la 7 4 6,fa 8 0 3,jj 9 (.indexAddrA 3 4 (.t 8) (kk 0)),la 10 4 9,cl 11 235 [7,10],mv 12 11,jt 13 12 (.fieldAddr 0 (.t 2)),jt 14 12 (.indexAddrA 3 4 (.t 13) (kk 1)),jt 15 12 (.load true 4 (.t 14)),jt 16 12 (.fieldAddr 0 (.t 3)),jt 17 12 (.indexAddrA 3 4 (.t 16) (kk 1)),jt 18 12 (.load true 4 (.t 17)),jt 19 12 (.call 235 [(.t 15),(.t 18)]),jj 20 (.pick (.t 12) (.t 19) kF),mv 21 20,jt 22 21 (.fieldAddr 0 (.t 2)),jt 23 21 (.indexAddrA 3 4 (.t 22) (kk 2)),jt 24 21 (.load true 4 (.t 23)),jt 25 21 (.fieldAddr 0 (.t 3)),jt 26 21 (.indexAddrA 3 4 (.t 25) (kk 2)),jt 27 21 (.load true 4 (.t 26)),jt 28 21 (.call 235 [(.t 24),(.t 27)]),jj 29 (.pick (.t 21) (.t 28) kF),mv 4 29] [4]) (.ret)),false,false,false⟩
end Go.Pm.F
end SFLaw13
section STE
namespace Go.Pm.F
def tE:Nat->Option PFun
 | 232=>some F232
 | 235=>some F235
 | _=>none
end Go.Pm.F
end STE
section SUb
namespace Go.Pm
open F
set_option maxHeartbeats 4000000
abbrev qsU (k n:Int) (s:ByteArray) (d:D) (k' n':Int) (s':ByteArray) (d':D):S:=[.cells [.int k,.int n,.str s,.dat d],.cells [.int k',.int n',.str s',.dat d']]
def ndEq (k n:Int) (s:ByteArray) (a:Fo) (k' n':Int) (s':ByteArray) (b:Fo):Bool:=(decide (k=k')&&(decide (n=n')&&decide (s=s')))&&a.eqv b
def qvH (a b:Fo):Prop := ∀ (k n:Int) (s:ByteArray) (f:Bool) (k' n':Int) (s':ByteArray) (f':Bool),Z tE (.call 235 [nd k n s f a,nd k' n' s' f' b] [])=some (.ret (.bool (ndEq k n s a k' n' s' b)) [])
def qvI (a:Fo):Prop := ∀ (b:Fo) (ca cb:List D) (m i:Nat) (k n:Int) (s:ByteArray) (f:Bool) (k' n':Int) (s':ByteArray) (f':Bool),ca.drop (i*4)=a.cells->cb.drop (i*4)=b.cells->a.len=b.len->i+a.len=m->m<2 ^ 30 ->
 Z tE (.loop 0 F235l0 [(2,.ptr 0 0),(3,.ptr 1 0),(36,.int m),(37,.int i)] (qsU k n s (.sl ca m f) k' n' s' (.sl cb m f')))=some (if a.eqv b then .out (.exit 0) [(2,.ptr 0 0),(3,.ptr 1 0),(36,.int m),(37,.int m),(38,.bool false)] (qsU k n s (.sl ca m f) k' n' s' (.sl cb m f')) else .out .ret [(4,.bool false)] (qsU k n s (.sl ca m f) k' n' s' (.sl cb m f')))
theorem qqd {a:Fo} (hq:qvI a) (ha:a.len<2 ^ 30) (b:Fo):qvH a b:=by
 intro k n s f k' n' s' f'
 refine Z_call (pf:=F235) rfl rfl ?_
 unfold ndEq
 by_cases h1:k=k'
 ·by_cases h2:n=n'
  ·by_cases h3:s=s'
   ·subst h1 h2 h3
    by_cases h4:a.len=b.len
    ·cases hl:a.len with
     | zero=>
      have hb:b.len=0:=by omega
      have e:a.eqv b=true:=by
       cases a with
       | nil=>cases b with | nil=>rfl | cons=>simp at hb
       | cons=>simp at hl
      have z0:Z tE (.loop 0 F235l0 [(2,.ptr 0 0),(3,.ptr 1 0),(36,.int 0),(37,.int 0)] (qsU k n s (.lit (.slice none 0 0)) k n s (.lit (.slice none 0 0))))=some (.out (.exit 0) [(2,.ptr 0 0),(3,.ptr 1 0),(36,.int 0),(37,.int 0),(38,.bool false)] (qsU k n s (.lit (.slice none 0 0)) k n s (.lit (.slice none 0 0)))):=by
       rw[qac]
       simp -implicitDefEqProofs [qae,qeK,qk8,List.range_succ]
      have hh:nd k n s f a = .dat (.agg [.lit (.int .i64 k),.lit (.int .i64 n),.lit (.string s),.lit (.slice none 0 0)]):=by rw[nd,hl,qtQ]
      have hh':nd k n s f' b = .dat (.agg [.lit (.int .i64 k),.lit (.int .i64 n),.lit (.string s),.lit (.slice none 0 0)]):=by rw[nd,hb,qtQ]
      rw[hh,hh']
      simp -implicitDefEqProofs [F235,z0,e,qa7,qk8,List.range_succ]
     | succ q=>
      have z:=hq b a.cells b.cells a.len 0 k n s f k n s f' (by simp) (by simp) h4 (by omega) ha
      have hb:b.len=a.len:=h4.symm
      have ka : ∀ g cs,kd g (q+1) cs = .sl cs (q+1) g:=fun g cs=>rfl
      have hh : ∀ g (c:Fo),c.len=q+1->nd k n s g c = .dat (.agg [.lit (.int .i64 k),.lit (.int .i64 n),.lit (.string s),.sl c.cells (q+1) g]):=fun g c hc=>by rw[nd,hc,ka]
      rw[hh f a hl,hh f' b (hb.trans hl)]
      rw[hl] at z
      clear hh ka hq hb hl h4 ha
      generalize q+1=m at *
      simp only[Int.cast_ofNat_Int] at z
      by_cases he:a.eqv b=true
      ·rw[if_pos he] at z
       simp -implicitDefEqProofs [F235,z,he,qa7,qkq,List.range_succ]
      ·rw[if_neg he] at z
       simp -implicitDefEqProofs [F235,z,he,qa7,qkq,List.range_succ]
    ·have he:a.eqv b=false:=by
      cases h:a.eqv b with
      | false=>rfl
      | true=>exact absurd (qoG h) h4
     have h4' : ¬ (a.len:Int)=b.len:=by omega
     simp -implicitDefEqProofs [F235,h4,h4',he,qa7,List.range_succ]
   ·simp -implicitDefEqProofs [F235,h1,h2,h3,qa7,List.range_succ]
  ·simp -implicitDefEqProofs [F235,h1,h2,qa7,List.range_succ]
 ·simp -implicitDefEqProofs [F235,h1,qa7,List.range_succ]
theorem qkW : ∀ a:Fo,a.size<2 ^ 30->qvI a
 | .nil,_=>by
  intro b ca cb m i k n s f k' n' s' f' hA hB hl hm hm2
  cases b with
  | cons=>simp at hl
  | nil=>
   have:i=m:=by simpa using hm
   subst this
   rw[show Fo.nil.eqv .nil=true from rfl,if_pos rfl,qac]
   simp -implicitDefEqProofs [qae,qeK,qkq,List.range_succ]
 | .cons ka na sa fa ksa ra,hsz=>by
  intro b ca cb m i k n s f k' n' s' f' hA hB hl hm hm2
  cases b with
  | nil=>simp at hl
  | cons kb nb sb fb ksb rb=>
   simp only[qbi] at hsz
   have hks:=qqd (qkW ksa (by omega)) (by have:=qhD ksa; omega) ksb ka na sa fa kb nb sb fb
   simp only[qaV,qbp] at hA hB hl hm
   have c1:=qvw hA
   have c2:=qvw hB
   have hlt:(i:Int)<m:=by omega
   have hlt':i<m:=by omega
   have w1:IntKind.i64.wrap ((i:Int)+1)=((i+1:Nat):Int):=by rw[qal _ (by omega)]; omega
   have ih:=qkW ra (by omega) rb ca cb m (i+1) k n s f k' n' s' f' (qhF hA) (qhF hB) (by omega) (by omega) hm2
   rw[show (Fo.cons ka na sa fa ksa ra).eqv (.cons kb nb sb fb ksb rb)=(ndEq ka na sa ksa kb nb sb ksb&&ra.eqv rb) by simp[Fo.eqv,ndEq,Bool.and_assoc]]
   simp only[nd] at hks
   generalize ndEq ka na sa ksa kb nb sb ksb=B at *
   generalize ((i+1:Nat):Int)=i1 at *
   cases B with
   | true=>
    rw[Bool.true_and,<- ih]
    conv=>lhs; rw[qac]
    simp -implicitDefEqProofs [qae,qeK,qaq,qkq,c1,c2,hlt,hlt',hks,w1,List.range_succ]
   | false=>
    rw[Bool.false_and,if_neg (by simp)]
    rw[qac]
    simp -implicitDefEqProofs [qae,qeK,qaq,qkq,c1,c2,hlt,hlt',hks,List.range_succ]
theorem qja {a b:Fo} (ha:a.size<2 ^ 30):qvH a b:=qqd (qkW a ha) (by have:=qhD a; omega) b
theorem qo2 {a b c a' b' c':Nd} (ha:a.ks.size<2 ^ 30) (hb:b.ks.size<2 ^ 30) (hc:c.ks.size<2 ^ 30):Z tE (.call 232 [.dat (ru a b c),.dat (ru a' b' c')] []) =
  some (.ret (.bool (ndEq a.k a.n a.s a.ks a'.k a'.n a'.s a'.ks&&(ndEq b.k b.n b.s b.ks b'.k b'.n b'.s b'.ks&&ndEq c.k c.n c.s c.ks c'.k c'.n c'.s c'.ks))) []):=by
 have z1:=qja ha (b:=a'.ks) a.k a.n a.s a.f a'.k a'.n a'.s a'.f
 have z2:=qja hb (b:=b'.ks) b.k b.n b.s b.f b'.k b'.n b'.s b'.f
 have z3:=qja hc (b:=c'.ks) c.k c.n c.s c.f c'.k c'.n c'.s c'.f
 refine Z_call (pf:=F232) rfl rfl ?_
 simp only[nd] at z1 z2 z3
 generalize ndEq a.k a.n a.s a.ks a'.k a'.n a'.s a'.ks=B1 at *
 generalize ndEq b.k b.n b.s b.ks b'.k b'.n b'.s b'.ks=B2 at *
 generalize ndEq c.k c.n c.s c.ks c'.k c'.n c'.s c'.ks=B3 at *
 cases B1<;>cases B2<;>cases B3<;>simp -implicitDefEqProofs [F232,ru,Nd.d,z1,z2,z3,List.range_succ]
end Go.Pm
end SUb
section STK
namespace Go.Pm.F
def tK:Nat->Option PFun
 | 229=>some F229
 | _=>none
def tKd:Nat->Option PFun
 | 222=>some F222
 | _=>none
end Go.Pm.F
end STK
section STS
namespace Go.Pm.F
def tS:Nat->Option PFun
 | 20=>some F20
 | 152=>some F152
 | 192=>some F192
 | 193=>some F193
 | 234=>some F234
 | 236=>some F236
 | 246=>some F246
 | 247=>some F247
 | 248=>some F248
 | 261=>some F261
 | 262=>some F262
 | 263=>some F263
 | _=>none
end Go.Pm.F
end STS
section SSa
namespace Go.Pm
open F
set_option maxHeartbeats 4000000
theorem qkI (c:UInt8):Z tS (.call 192 [.dat (.lit (.int .u8 c.toNat))] [])=some (.ret (.bool (qaO c)) []):=by
 refine Z_call (pf:=F192) rfl rfl ?_
 by_cases h1:(97:Int)<=c.toNat
 ·have h1':97<=c.toNat:=by omega
  by_cases h2:(c.toNat:Int)<=122
  ·have h2':c.toNat<=122:=by omega
   simp[F192,qaO,h1,h1',h2,h2']
  ·have h2' : ¬ c.toNat<=122:=by omega
   simp[F192,qaO,h1,h1',h2,h2']
 ·have h1' : ¬ 97<=c.toNat:=by omega
  simp[F192,qaO,h1,h1']
theorem qme (c:UInt8):Z tS (.call 193 [.dat (.lit (.int .u8 c.toNat))] [])=some (.ret (.bool (qaj c)) []):=by
 refine Z_call (pf:=F193) rfl rfl ?_
 by_cases h1:(48:Int)<=c.toNat
 ·have h1':48<=c.toNat:=by omega
  by_cases h2:(c.toNat:Int)<=57
  ·have h2':c.toNat<=57:=by omega
   simp[F193,qaj,h1,h1',h2,h2']
  ·have h2' : ¬ c.toNat<=57:=by omega
   simp[F193,qaj,h1,h1',h2,h2']
 ·have h1' : ¬ 48<=c.toNat:=by omega
  simp[F193,qaj,h1,h1']
theorem qqy (a b:List UInt8):bs a++bs b=bs (a++b):=by
 apply qjD
 simp[byl,bs,ByteArray.data_append]
theorem qco (a b:ByteArray):a++b=bs (byl a++byl b):=by
 rw[<- qqy,qcA,qcA]
theorem qiO:qai qar ⟨#[]⟩=false:=by rw[qaH]; rfl
theorem qqz (a b:ByteArray) (h:a.size+b.size<2 ^ 40):Z tS (.call 262 [.str a,.str b] [])=some (.ret (.str (bs (pw (byl a) [b]))) []):=by
 have hab : ¬ (9223372036854775807:Int)<(a.size:Int)+(b.size:Int):=by omega
 have plain:gap (wl (byl a)) b=[]->bs (pw (byl a) [b])=a++b:=fun hg=>by
  rw[qc3,qew,hg,List.nil_append,qco]
 refine Z_call (pf:=F262) rfl rfl ?_
 by_cases ha:a=⟨#[]⟩
 ·rw[plain (by rw[ha]; rfl)]
  have e:eqS a ⟨#[]⟩=true:=by rw[qa7]; simp[ha]
  simp[F262,e,hab]
 ·have ea:eqS a ⟨#[]⟩=false:=by rw[qa7]; simp[ha]
  by_cases hb:b=⟨#[]⟩
  ·rw[plain (by rw[hb,gap,qiO]; simp)]
   have e:eqS b ⟨#[]⟩=true:=by rw[qa7]; simp[hb]
   simp[F262,ea,e,hab]
  ·have eb:eqS b ⟨#[]⟩=false:=by rw[qa7]; simp[hb]
   have nz : ∀ {t:ByteArray},t≠⟨#[]⟩->t.size≠0:=fun {t} h h0=>h (by
    apply qjD
    have:(byl t).length=0:=by rw[qaG,h0]
    rw[List.eq_nil_of_length_eq_zero this])
   have ha0:=nz ha
   obtain⟨y,hy,hs⟩:=qpx (nz hb)
   have hx:=qru ha0
   have hwl:wl (byl a)=qar (lastC (byl a)):=rfl
   generalize lastC (byl a)=x at *
   have l1:=qkI x
   have l2:=qme x
   have l3:=qkI y
   have l4:=qme y
   have w2:=qal ((a.size:Int)-1) (by omega)
   have w3:((a.size:Int)-1).toNat=a.size-1:=by omega
   have w4:(0:Int)<=(a.size:Int)-1:=by omega
   have w5:(1:Int)<=a.size:=by omega
   by_cases hg:(qar x&&qar y)=true
   ·have hgap:gap (wl (byl a)) b=[32]:=by rw[gap,hwl,hs,if_pos hg]
    have e:bs (pw (byl a) [b])=a++⟨#[32]⟩++b:=by
     rw[qc3,qew,hgap,qco,qco a,qaP]
     simp[byl]
    rw[e]
    have hab2 : ¬ (9223372036854775807:Int)<(a.size:Int)+1:=by omega
    have hab3 : ¬ (9223372036854775807:Int)<(a.size:Int)+1+(b.size:Int):=by omega
    have hsz:(a++⟨#[32]⟩:ByteArray).size=a.size+1:=by rw[ByteArray.size_append]; rfl
    have hsp:(⟨#[32]⟩:ByteArray).size=1:=rfl
    have hsp2:((⟨#[32]⟩:ByteArray).size:Int)=1:=rfl
    unfold qar at hg
    cases h1:qaO x<;>cases h2:qaj x<;>cases h3:qaO y<;>cases h4:qaj y<;>rw[h1,h2,h3,h4] at hg<;>simp at hg<;>rw[h1] at l1<;>rw[h2] at l2<;>rw[h3] at l3<;>rw[h4] at l4 <;>
     simp[F262,ea,eb,hx,hy,l1,l2,l3,l4,w2,w3,w4,w5,hab2,hab3,hsz,hsp,hsp2,V.len]
   ·have hgap:gap (wl (byl a)) b=[]:=by rw[gap,hwl,hs,if_neg hg]
    rw[plain hgap]
    unfold qar at hg
    cases h1:qaO x<;>cases h2:qaj x<;>cases h3:qaO y<;>cases h4:qaj y<;>rw[h1,h2,h3,h4] at hg<;>simp at hg<;>rw[h1] at l1<;>rw[h2] at l2<;>rw[h3] at l3<;>rw[h4] at l4 <;>
     simp[F262,ea,eb,hx,hy,l1,l2,l3,l4,w2,w3,w4,w5,hab,V.len]
theorem qmf (fl:Bool) (ts:List ByteArray) (hn:ts.length<2 ^ 30) : ∀ (m i:Nat) (w:List UInt8),i+m=ts.length->(pw w (ts.drop i)).length<2 ^ 40 ->
  Z tS (.loop 0 F247l0 [(0,.dat (.sl (qaW ts) ts.length fl)),(3,.str (bs w)),(4,.int i)] [])=some (.out (.exit 0) [(0,.dat (.sl (qaW ts) ts.length fl)),(3,.str (bs (pw w (ts.drop i)))),(4,.int ts.length),(8,.bool false)] [])
 | 0,i,w,hi,hsz=>by
  have hi':i=ts.length:=by omega
  subst hi'
  rw[List.drop_length,qew]
  rw[qac]
  simp[qae,qiI,V.len]
 | m+1,i,w,hi,hsz=>by
  have hlt:i<ts.length:=by omega
  have hd:ts.drop i=ts[i]::ts.drop (i+1):=List.drop_eq_getElem_cons hlt
  rw[hd,qc3] at hsz ⊢
  have hc:=qjC ts i hlt
  generalize ts[i]=t at *
  have hw0:(w++(gap (wl w) t++byl t)).length<2 ^ 40:=Nat.lt_of_le_of_lt (qqm _ _) hsz
  have ih:=qmf fl ts hn m (i+1) (w++(gap (wl w) t++byl t)) (by omega) hsz
  rw[<- ih]
  have z:=qqz (bs w) t (by rw[List.length_append,List.length_append,qaG] at hw0; rw[qao]; omega)
  rw[qaP,qc3,qew] at z
  have w1:=qal ((i:Int)+1) (by omega)
  have hlt':(i:Int)<ts.length:=by omega
  conv=>lhs; rw[qac]
  generalize bs (w++(gap (wl w) t++byl t))=R at *
  generalize bs w=R0 at *
  simp[qae,qiI,z,hc,w1,hlt',hlt,qaq,V.len]
theorem qvB (fl:Bool) {ts:List ByteArray} {R:ByteArray} (hR:R=bs (pw [] ts)) (hn:ts.length<2 ^ 30) (hsz:R.size<2 ^ 40):Z tS (.call 247 [.dat (.sl (qaW ts) ts.length fl)] [])=some (.ret (.str R) []):=by
 subst hR
 have z:=qmf fl ts hn ts.length 0 [] (by omega) (by rw[List.drop_zero]; exact hsz)
 rw[List.drop_zero] at z
 simp only[Int.cast_ofNat_Int] at z
 rw[show bs []=⟨#[]⟩ from rfl] at z
 refine Z_call (pf:=F247) rfl rfl ?_
 generalize bs (pw [] ts)=R at *
 simp[F247,z]
theorem qqA (w:List UInt8) {ts:List ByteArray} (h : ∀ t∈ts,t.size≠0):pw w [bs (qah false ts)]=pw w ts:=by
 cases ts with
 | nil=>
  rw[qc3,qew,qew,qah]
  have:=qiO
  simp[gap,bs,byl,this]
 | cons t ts=>
  have ht:=h t (List.mem_cons_self ..)
  cases hb:byl t with
  | nil=>exact absurd (by rw[<- qaG,hb]; rfl) ht
  | cons c r=>
   have hs:qai qar (bs (qah false (t::ts)))=qai qar t:=by
    rw[qaH,qaH,qaP,qah,hb]
    rfl
   have hg:gap (wl w) (bs (qah false (t::ts)))=gap (wl w) t:=by rw[gap,gap,hs]
   have he:qbb (wl w) t=qbb false t:=by
    unfold qbb
    cases hl:(byl t).getLast? with
    | none=>rw[List.getLast?_eq_none_iff] at hl; rw[hl] at hb; cases hb
    | some c=>rfl
   rw[qc3,qew,hg,qaP]
   show w++(gap (wl w) t++qah false (t::ts))=w++qah (wl w) (t::ts)
   rw[qah,qah,he]
   rfl
theorem qll (w:List UInt8) {ts:List ByteArray} (h : ∀ t∈ts,t.size≠0) (r:List ByteArray):pw w (bs (qah false ts)::r)=pw w (ts++r):=by
 rw[show bs (qah false ts)::r=[bs (qah false ts)]++r from rfl,qiv,qqA w h,<- qiv]
end Go.Pm
end SSa
section SJr
namespace Go.Pm
open F
set_option maxHeartbeats 2000000
def digS:ByteArray:=⟨#[48,49,50,51,52,53,54,55,56,57]⟩
theorem qrj : ∀ d,d<10->digS.extract d (d+1)=bs [(48+d).toUInt8]:=by decide
theorem qlM (n:Int) : ∀ (k m:Nat) (out:ByteArray),m<10 ^ k->k<=18->out.size+k<=100 ->
  Z tS (.loop 0 F20l0 [(0,.int n),(3,.str digS),(4,.str out),(5,.int m)] [])=some (.out (.exit 0) [(0,.int n),(3,.str digS),(4,.str (bs (if m=0 then [] else qjq k m)++out)),(5,.int 0),(11,.bool false)] [])
 | k,0,out,_,_,_=>by
  rw[qac]
  have e:bs []++out=out:=by rw[show bs []=ByteArray.empty from rfl,ByteArray.empty_append]
  simp[qae,qkz,digS,e]
 | 0,m+1,out,h,_,_=>by simp at h
 | k+1,m+1,out,h,hk,ho=>by
  have hp:(10:Nat) ^ (k+1)<=10 ^ 18:=Nat.pow_le_pow_right (by omega) hk
  have hd:((m+1:Nat):Int).tmod 10=(((m+1) % 10:Nat):Int):=rfl
  have hq:((m+1:Nat):Int).tdiv 10=(((m+1) / 10:Nat):Int):=rfl
  have hlt:(m+1) % 10<10:=Nat.mod_lt _ (by omega)
  have hx:=qrj _ hlt
  have w1:=qal (((m+1) % 10:Nat)+1:Int) (by omega)
  have w2:IntKind.i64.wrap (((m+1) / 10:Nat):Int)=((m+1) / 10:Nat):=qal _ (by omega)
  have hne : ¬ ((m+1:Nat):Int)=0:=by omega
  have hneg : ¬ (((m+1) % 10:Nat):Int)<0:=by omega
  have ih:=qlM n k ((m+1) / 10) (bs [(48+(m+1) % 10).toUInt8]++out) (by rw[Nat.pow_succ] at h; omega) (by omega) (by rw[ByteArray.size_append,qao]; simp; omega)
  have hres:bs (if (m+1) / 10=0 then [] else qjq k ((m+1) / 10))++(bs [(48+(m+1) % 10).toUInt8]++out)=bs (qjq (k+1) (m+1))++out:=by
   rw[<- ByteArray.append_assoc]
   congr 1
   simp only[qjq]
   by_cases h10:m+1<10
   ·rw[if_pos h10,if_pos (by omega),Nat.mod_eq_of_lt h10]
    rfl
   ·rw[if_neg h10,if_neg (by omega)]
    rfl
  rw[hres] at ih
  rw[if_neg (by omega),<- ih]
  generalize hd2:(m+1) % 10=d at *
  generalize hq2:(m+1) / 10=q at *
  generalize hm:m+1=M at *
  have hM : ¬ M=0:=by omega
  have b1:(d:Int)<=digS.size:=by rw[show digS.size=10 from rfl]; omega
  have b2:(d:Int)+1<=digS.size:=by rw[show digS.size=10 from rfl]; omega
  have b3:(0:Int)<=(d:Int)+1:=by omega
  have b4:((d:Int)+1).toNat=d+1:=by omega
  have b5:(d:Int)<=(d:Int)+1:=by omega
  have hsz : ¬ (9223372036854775807:Int)<((bs [(48+d).toUInt8]).size:Int)+out.size:=by rw[qao]; simp; omega
  generalize digS=ds at *
  generalize bs [(48+d).toUInt8]=ch at *
  conv=>lhs; rw[qac]
  simp[qae,qkz,qck,bound,hd,hq,hne,hneg,w1,w2,b1,b2,b3,b4,b5,hx,hsz,hM]
theorem qnU {n:Nat} (h:n<10 ^ 18):Z tS (.call 20 [.int n] [])=some (.ret (.str (bs (qiw n))) []):=by
 refine Z_call (pf:=F20) rfl rfl ?_
 by_cases h0:n=0
 ·subst h0
  simp[F20,qiw,qjq,bs]
 ·have hne : ¬ (n:Int)=0:=by omega
  have hneg : ¬ (n:Int)<0:=by omega
  have z:=qlM n 18 n ⟨#[]⟩ h (by omega) (by decide)
  rw[if_neg h0] at z
  have e : ∀ (k j n:Nat),n<10 ^ k->1<=k->qjq (k+j) n=qjq k n:=fun k=>by
   induction k with
   | zero=>intro j n _ h; omega
   | succ k ih=>
    intro j n hn _
    rw[show k+1+j=(k+j)+1 by omega]
    simp only[qjq]
    split
    ·rfl
    ·rename_i h10
     have hk:1<=k:=by
      rcases k with _ | k
      ·simp at hn; omega
      ·omega
     rw[ih j (n / 10) (by rw[Nat.pow_succ] at hn; omega) hk]
  have e2:bs (qjq 18 n)++⟨#[]⟩=bs (qiw n):=by
   rw[show qiw n=qjq (18+2) n from rfl,e 18 2 n h (by omega)]
   exact ByteArray.append_empty
  rw[e2] at z
  simp only[digS] at z
  simp[F20,h0,hne,hneg,z]
end Go.Pm
end SJr
