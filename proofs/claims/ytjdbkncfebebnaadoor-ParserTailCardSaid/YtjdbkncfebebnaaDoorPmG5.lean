/- Chapter 13's generator: whole programs. Parse with other marks; its errors have a code; generated trees are good and not long. No program in sight. The abstract machine's program, printed by a program of our own: group 3q. The abstract machine's program, printed by a program of our own: group Law13. The abstract machine's programs: tables of functions. The abstract machine's program, printed by a program of our own: group 01n. The abstract machine's programs: tables of functions. The abstract machine's programs: tables of functions. Chapter 13's reference printer: strings joined. Decimal, of reference 01. -/
import Derived.Test.YtjdbkncfebebnaaDoorPmF3g
import Derived.Test.YtjdbkncfebebnaaDoorPmFx
import Derived.Test.YtjdbkncfebebnaaDoorPmYj
import Derived.Test.YtjdbkncfebebnaaDoorPmEt
set_option linter.unusedSimpArgs false
set_option linter.unusedVariables false
section SG5
namespace Go.Pm
open F
theorem qqL (o:Option Addr) (m:Int) (hm:0<=m):Z qbf (.call 23 [.dat (.lit (.slice o 0 0)),.int m] [])=some (.ret (.dat (qea [])) []):=by
 refine qaa (pf:=F23) rfl rfl ?_
 have h : ¬ m<0:=by omega
 simp[F23,V.len,qnz,qkM,h,qgL,bound,qcv,ql0,qea]
theorem qlP (xs:List Int) (k:Nat):(qco xs).take k=qco (xs.take k):=by simp[qco,List.map_take]
theorem qqM (xs:List Int) (k:Nat) (hk:k<=1000):Z qbf (.call 23 [.dat (.sl (qco xs) xs.length false),.int k] [])=some (.ret (.dat (qea (xs.take k))) []):=by
 refine qaa (pf:=F23) rfl rfl ?_
 have hl:(qco xs).length=xs.length:=by simp[qco]
 have key : ∃ m:Nat,(if k<xs.length then (k:Int) else (xs.length:Int))=(m:Int)/\m<=xs.length/\m<=1000/\xs.take k=xs.take m/\(xs.take m).length=m:=by
  by_cases h:k<xs.length
  ·exact⟨k,by simp[h],by omega,hk,rfl,by simp; omega⟩
  ·exact⟨xs.length,by simp[h],Nat.le_refl _,by omega,by rw[List.take_of_length_le (by omega),List.take_of_length_le (Nat.le_refl _)],by simp⟩
 obtain⟨m,e1,e2,e3,e4,e5⟩:=key
 rw[e4]
 cases hm:xs.take m with
 | nil=>
  rw[hm] at e5
  simp at e5
  subst e5
  simp[F23,V.len,qnz,qkM,e1,qgL,bound,qcv,ql0,qea,hl]
 | cons y ys=>
  have hm':=e5
  rw[hm] at hm'
  simp only[List.length_cons] at hm'
  have hne:m≠0:=by omega
  have hr:qa6 m 8=true:=by simp[qa6]; omega
  have ht:(qco xs).take m=qco (y::ys):=by rw[qlP,hm]
  have hlen:(qco (y::ys)).length=m:=by simp[qco]; omega
  simp[F23,V.len,qnz,qkM,e1,qgL,bound,qcv,ql0,qea,hl,e2,ht,hlen,hne,hr,hm']
theorem qsu {v:D} {xs:List Int} (h:RowV v xs) (k:Nat) (hk:k<=1000):Z qbf (.call 23 [.dat v,.int k] [])=some (.ret (.dat (qea (xs.take k))) []):=by
 rcases h with ⟨o,rfl,rfl⟩ | rfl
 ·simpa using qqL o k (by omega)
 ·exact qqM xs k hk
def Hd.ss:Hd->Ss
 | .none => .nil
 | .some _ b=>b
structure Hd.fine (h:Hd):Prop where
 fine:h.ss.fine
 size:h.ss.fo.size<=2000
def Hd.cost:Hd->Nat
 | .none=>0
 | .some _ b=>12+b.cost
structure Hd.gen (h:Hd):Prop extends h.fine where
 f:h.f=false
 dp:h.ss.dp<=2
 edp:h.ss.edp<=3
 gsize:h.ss.fo.size<=1260
theorem qiP:Hd.none.gen:=⟨⟨trivial,Nat.zero_le _⟩,rfl,Nat.zero_le _,Nat.zero_le _,Nat.zero_le _⟩
abbrev z12:Ob := .cells [.int 0,.int 0,.str ⟨#[]⟩,.dat (.lit (.slice none 0 0)),.int 0,.int 0,.str ⟨#[]⟩,.dat (.lit (.slice none 0 0)),.int 0,.int 0,.str ⟨#[]⟩,.dat (.lit (.slice none 0 0))]
abbrev tst (xs:List Int) (i:Int) (a b c:Nd):S:=[z12,.cells [.dat (qea xs),.int i],qpo a b c]
abbrev tfr (h:Int):Fr:=[(2,.ptr 0 0),(3,.ptr 1 0),(4,.ptr 2 0),(5,.int h)]
section
variable {xs:List Int} {i:Int} {a b c:Nd}
theorem qtU:Z qbf (.loop 0 F123l0 (tfr 3) (tst xs i a b c))=some (.out (.exit 0) (tfr 3++[(11,.bool false)]) (tst xs i a b c)):=by
 rw[qae]
 simp[qag,qcs,List.range_succ]
theorem qqN (hx : ∀ x∈xs,I64 x) (hl:xs.length<=100) (hi:0<=i/\i<=100) : ∃ (g:Hd) (i':Int),g.gen/\(0<=i'/\i'<=100)/\Co 0 g.cost xs i i'/\Z qbf (.loop 0 F123l0 (tfr 0) (tst xs i Hd.none.nd b c))=Z qbf (.loop 0 F123l0 (tfr 1) (tst xs i' g.nd b c)):=by
 have n1:=qbh (i:=i) (m:=4) hx hi (by omega)
 have r1:=qat hi hl
 have w1:=qal 1 (by omega)
 by_cases h2:0<qay xs i 4
 ·obtain⟨q,i',k1,k2,k3⟩:=(qsY hx hl 2 (by omega)).2 _ r1 3 (by omega) (by omega)
  have hs:ssz 2=420:=rfl
  rw[show ((2:Nat):Int).toNat=2 from rfl,show (3:Int).toNat=3 from rfl,hs] at k1
  have hco:Co 0 (Hd.cost (.some false q)) xs i i':=by
   obtain⟨u1,u2,u3⟩:=k1.2.2.2.2
   show _/\_/\((12+q.cost:Nat):Int)<=_
   rcases qap xs i with ⟨e1,l1⟩ | ⟨e1,l1⟩
   ·omega
   ·exact absurd (l1 4) (by omega)
  refine⟨.some false q,i',⟨⟨k1.1,by show q.fo.size<=2000; have:=k1.2.2.2.1; omega⟩,rfl,k1.2.1,k1.2.2.1,k1.2.2.2.1⟩,k2,hco,?_⟩
  simp at k3
  conv=>lhs; rw[qae]
  simp[qag,qcs,n1,h2,k3,w1,Nd.d,Hd.k,Hd.f,Hd.ks,tfr,tst,qpo,List.range_succ]
 ·have hco:Co 0 (Hd.cost .none) xs i (qaz xs i):=by
   show _/\_/\((0:Nat):Int)<=_
   rcases qap xs i with ⟨e1,l1⟩ | ⟨e1,l1⟩<;>omega
  refine⟨.none,_,qiP,r1,hco,?_⟩
  conv=>lhs; rw[qae]
  simp[qag,qcs,n1,h2,w1,Nd.d,Hd.k,Hd.f,Hd.ks,tfr,tst,qpo,List.range_succ]
theorem qqO (hx : ∀ x∈xs,I64 x) (hl:xs.length<=100) (hi:0<=i/\i<=100) : ∃ (g:Hd) (i':Int),g.gen/\(0<=i'/\i'<=100)/\Co 0 g.cost xs i i'/\Z qbf (.loop 0 F123l0 (tfr 1) (tst xs i a Hd.none.nd c))=Z qbf (.loop 0 F123l0 (tfr 2) (tst xs i' a g.nd c)):=by
 have n1:=qbh (i:=i) (m:=4) hx hi (by omega)
 have r1:=qat hi hl
 have w1:=qal 2 (by omega)
 by_cases h2:0<qay xs i 4
 ·obtain⟨q,i',k1,k2,k3⟩:=(qsY hx hl 2 (by omega)).2 _ r1 3 (by omega) (by omega)
  have hs:ssz 2=420:=rfl
  rw[show ((2:Nat):Int).toNat=2 from rfl,show (3:Int).toNat=3 from rfl,hs] at k1
  have hco:Co 0 (Hd.cost (.some false q)) xs i i':=by
   obtain⟨u1,u2,u3⟩:=k1.2.2.2.2
   show _/\_/\((12+q.cost:Nat):Int)<=_
   rcases qap xs i with ⟨e1,l1⟩ | ⟨e1,l1⟩
   ·omega
   ·exact absurd (l1 4) (by omega)
  refine⟨.some false q,i',⟨⟨k1.1,by show q.fo.size<=2000; have:=k1.2.2.2.1; omega⟩,rfl,k1.2.1,k1.2.2.1,k1.2.2.2.1⟩,k2,hco,?_⟩
  simp at k3
  conv=>lhs; rw[qae]
  simp[qag,qcs,n1,h2,k3,w1,Nd.d,Hd.k,Hd.f,Hd.ks,tfr,tst,qpo,List.range_succ]
 ·have hco:Co 0 (Hd.cost .none) xs i (qaz xs i):=by
   show _/\_/\((0:Nat):Int)<=_
   rcases qap xs i with ⟨e1,l1⟩ | ⟨e1,l1⟩<;>omega
  refine⟨.none,_,qiP,r1,hco,?_⟩
  conv=>lhs; rw[qae]
  simp[qag,qcs,n1,h2,w1,Nd.d,Hd.k,Hd.f,Hd.ks,tfr,tst,qpo,List.range_succ]
theorem qqP (hx : ∀ x∈xs,I64 x) (hl:xs.length<=100) (hi:0<=i/\i<=100) : ∃ (g:Hd) (i':Int),g.gen/\(0<=i'/\i'<=100)/\Co 0 g.cost xs i i'/\Z qbf (.loop 0 F123l0 (tfr 2) (tst xs i a b Hd.none.nd))=Z qbf (.loop 0 F123l0 (tfr 3) (tst xs i' a b g.nd)):=by
 have n1:=qbh (i:=i) (m:=4) hx hi (by omega)
 have r1:=qat hi hl
 have w1:=qal 3 (by omega)
 by_cases h2:0<qay xs i 4
 ·obtain⟨q,i',k1,k2,k3⟩:=(qsY hx hl 2 (by omega)).2 _ r1 3 (by omega) (by omega)
  have hs:ssz 2=420:=rfl
  rw[show ((2:Nat):Int).toNat=2 from rfl,show (3:Int).toNat=3 from rfl,hs] at k1
  have hco:Co 0 (Hd.cost (.some false q)) xs i i':=by
   obtain⟨u1,u2,u3⟩:=k1.2.2.2.2
   show _/\_/\((12+q.cost:Nat):Int)<=_
   rcases qap xs i with ⟨e1,l1⟩ | ⟨e1,l1⟩
   ·omega
   ·exact absurd (l1 4) (by omega)
  refine⟨.some false q,i',⟨⟨k1.1,by show q.fo.size<=2000; have:=k1.2.2.2.1; omega⟩,rfl,k1.2.1,k1.2.2.1,k1.2.2.2.1⟩,k2,hco,?_⟩
  simp at k3
  conv=>lhs; rw[qae]
  simp[qag,qcs,n1,h2,k3,w1,Nd.d,Hd.k,Hd.f,Hd.ks,tfr,tst,qpo,List.range_succ]
 ·have hco:Co 0 (Hd.cost .none) xs i (qaz xs i):=by
   show _/\_/\((0:Nat):Int)<=_
   rcases qap xs i with ⟨e1,l1⟩ | ⟨e1,l1⟩<;>omega
  refine⟨.none,_,qiP,r1,hco,?_⟩
  conv=>lhs; rw[qae]
  simp[qag,qcs,n1,h2,w1,Nd.d,Hd.k,Hd.f,Hd.ks,tfr,tst,qpo,List.range_succ]
end
theorem qlQ {v:D} {xs:List Int} (h:RowV v xs) (hx : ∀ x∈xs,I64 x) : ∃ a b c:Hd,a.gen/\b.gen/\(c.gen/\a.cost+(b.cost+c.cost)<=1440)/\Z qbf (.call 123 [.dat v] [])=some (.ret (.dat (ru a.nd b.nd c.nd)) []):=by
 have hx' : ∀ x∈xs.take 60,I64 x:=fun x hm=>hx x (List.mem_of_mem_take hm)
 have hl':(xs.take 60).length<=100:=by simp; omega
 have n0:=qsu h 60 (by omega)
 obtain⟨a,i1,a1,a2,a3,a4⟩:=qqN (i:=0) (b:=Hd.none.nd) (c:=Hd.none.nd) hx' hl' (by omega)
 obtain⟨b,i2,b1,b2,b3,b4⟩:=qqO (i:=i1) (a:=a.nd) (c:=Hd.none.nd) hx' hl' a2
 obtain⟨c,i3,c1,c2,c3,c4⟩:=qqP (i:=i2) (a:=a.nd) (b:=b.nd) hx' hl' b2
 have hl:=a4.trans (b4.trans (c4.trans qtU))
 have hcost:a.cost+(b.cost+c.cost)<=1440:=by
  obtain⟨p1,p2,p3⟩:=a3
  obtain⟨q1,q2,q3⟩:=b3
  obtain⟨r1,r2,r3⟩:=c3
  have:(xs.take 60).length<=60:=by simp; omega
  omega
 refine⟨a,b,c,a1,b1,⟨c1,hcost⟩,?_⟩
 refine qaa (pf:=F123) rfl rfl ?_
 simp only[tfr,tst,qpo,Nd.d,quN,quO,quP,quQ,qt5,List.cons_append,List.nil_append,show Hd.k .none=0 from rfl,show Hd.f .none=false from rfl,show Hd.ks .none = .nil from rfl,z12,qbk,qaT,qtb] at hl
 simp at n0 hl
 simp[F123,n0,hl,ru,Nd.d,List.range_succ]
theorem qna {v:D} {xs:List Int} (h:RowV v xs) (hx : ∀ x∈xs,I64 x) : ∃ a b c:Hd,a.gen/\b.gen/\c.gen/\Z qbf (.call 123 [.dat v] [])=some (.ret (.dat (ru a.nd b.nd c.nd)) []):=by
 obtain⟨a,b,c,h1,h2,⟨h3,_⟩,h4⟩:=qlQ h hx
 exact⟨a,b,c,h1,h2,h3,h4⟩
end Go.Pm
end SG5
section SUg
namespace Go.Pm
theorem qjJ {f fi fb:Bool} {s:ByteArray} {a c:Nat} (h:qdj f fi fb s = .er a c):c≠0:=by
 by_cases hbig:2000<s.size
 ·rw[qdj,if_pos hbig] at h; cases h; omega
 ·have hn:=ql7 f fi fb (10*(qhZ s).length+10) (fun _=>none) (qhZ s)
  rw[qd0 hbig,h] at hn
  exact hn
def wt:List ByteArray->Nat
 | []=>0
 | t::l=>t.size+1+wt l
theorem qep (a b:List ByteArray):wt (a++b)=wt a+wt b:=by
 induction a with
 | nil=>simp[wt]
 | cons t a ih=>simp only[List.cons_append,wt,ih]; omega
theorem qm8 : ∀ (l:List ByteArray) (p:Bool),(qaj p l).length<=wt l
 | [],p=>by simp[qaj,wt]
 | t::l,p=>by
  have h1:=qm8 l (qei p t)
  have h2:=qaP t
  have h3:(gap p t).length<=1:=by unfold gap; split<;>simp
  simp only[qaj,List.length_append,wt]
  omega
theorem qle (b:Bool) (l:List ByteArray):wt (qcn b l)<=wt l+4:=by
 cases b with
 | false=>simp[qcn]
 | true=>
  have:wt (qcn true l)=2+(wt l+2):=by
   show wt (bs [40]::(l++[bs [41]]))=_
   rw[wt,qep]
   rfl
  omega
theorem qht (full:Bool) : ∀ (e:E) p,wt (e.tx full p)<=e.cost
 | .int n,p=>by simp[E.tx,wt,E.cost,qam]
 | .bool n,p=>by
  simp only[E.tx,wt,E.cost]
  split<;>simp[qb6,qdl,qam]
 | .var s,p=>by simp[E.tx,wt,E.cost]
 | .name s,p=>by simp[E.tx,wt,E.cost]
 | .field _ s e,p=>by
  have:=qht full e 1
  simp only[E.tx,wt,qep,E.cost,qam,List.length_cons,List.length_nil]
  omega
 | .un _ neg e,p=>by
  have h1:=qht full e (qe5 neg)
  have h2:=qle (full||decide (qe5 neg<p)) (ustr neg::e.tx full (qe5 neg))
  have h3:(ustr neg).size=1:=by cases neg<;>rfl
  simp only[E.tx,E.cost]
  rw[wt,h3] at h2
  omega
 | .bin _ o a b,p=>by
  have h1:=qht full a o.left
  have h2:=qht full b (o.prec+1)
  have h3:=qle (full||decide (o.prec<p)) (a.tx full o.left++o.str::b.tx full (o.prec+1))
  simp only[E.tx,E.cost]
  rw[qep,wt] at h3
  omega
theorem qiN : ∀ s:Ss,wt s.tx<=s.cost
 | .nil=>Nat.le_refl _
 | .assign _ s e r=>by
  have h1:=qht false e 1
  have h2:=qiN r
  simp only[Ss.tx,wt,qep,Ss.cost,qam,List.length_cons,List.length_nil]
  omega
 | .store _ s a b r=>by
  have h1:=qht false a 1
  have h3:=qht false b 1
  have h2:=qiN r
  simp only[Ss.tx,wt,qep,Ss.cost,qam,List.length_cons,List.length_nil]
  omega
 | .effect _ a b r=>by
  have h1:=qht false a 1
  have h3:=qht false b 1
  have h2:=qiN r
  simp only[Ss.tx,wt,qep,Ss.cost,qki,qam,List.length_cons,List.length_nil]
  omega
 | .stop r=>by
  have h2:=qiN r
  simp only[Ss.tx,wt,qep,Ss.cost,qqp,qam,List.length_cons,List.length_nil]
  omega
 | .cond w _ c b r=>by
  have h1:=qht false c 1
  have h3:=qiN b
  have h2:=qiN r
  cases w<;>simp only[Ss.tx,wt,qep,Ss.cost,qmU,ifS,qam,List.length_cons,List.length_nil,if_true,Bool.false_eq_true,if_false]<;>omega
 | .block _ b r=>by
  have h3:=qiN b
  have h2:=qiN r
  simp only[Ss.tx,wt,qep,Ss.cost,qam,List.length_cons,List.length_nil]
  split
  ·simp only[wt,qov,qam,List.length_cons,List.length_nil]; omega
  ·simp only[wt]; omega
theorem qgt {s:ByteArray} (h:s∈qsB):qqq s/\s.size<=3:=by
 simp only[qsB,qlU,List.cons_append,List.nil_append,List.mem_cons,List.not_mem_nil,or_false] at h
 have key : ∀ (c:UInt8) (r:List UInt8),qbi c=true->(∀ b∈r,qaR b=true)->(c::r).length<=8->Tg (byl (bs (c::r))):=fun c r h1 h2 h3=>qqe h1 h2 h3
 rcases h with rfl | rfl | rfl | rfl | rfl
 ·exact⟨⟨key 105 [] (by decide) (by decide) (by decide),by decide,by decide,by decide⟩,by decide⟩
 ·exact⟨⟨key 110 [] (by decide) (by decide) (by decide),by decide,by decide,by decide⟩,by decide⟩
 ·exact⟨⟨key 115 [117,109] (by decide) (by decide) (by decide),by decide,by decide,by decide⟩,by decide⟩
 ·exact⟨⟨key 118 [51] (by decide) (by decide) (by decide),by decide,by decide,by decide⟩,by decide⟩
 ·exact⟨⟨key 118 [] (by decide) (by decide) (by decide),by decide,by decide,by decide⟩,by decide⟩
theorem qjK {s:ByteArray} (h:s∈qjO):(s=qsc\/s=qpg\/s=qhs)/\s.size<=5:=by
 simp only[qjO,List.mem_cons,List.not_mem_nil,or_false] at h
 rcases h with rfl | rfl | rfl
 ·exact⟨.inl rfl,by decide⟩
 ·exact⟨.inr (.inl rfl),by decide⟩
 ·exact⟨.inr (.inr rfl),by decide⟩
theorem qeH {s:ByteArray} (h:s∈qfA):s∈fieldNames/\s.size<=5:=by
 simp only[qfA,qgh,List.cons_append,List.nil_append,List.mem_cons,List.not_mem_nil,or_false] at h
 rcases h with rfl | rfl | rfl | rfl | rfl | rfl | rfl | rfl<;>exact⟨by decide,by decide⟩
theorem qoJ {n:Nat} (h:n<=2147483647):(qjX n).length<=10:=qkQ 20 n 9 (by omega)
theorem qbF : ∀ e:E,e.fine->e.good
 | .int n,h=>h
 | .bool n,h=>h
 | .var s,h=>(qgt h).1
 | .name s,h=>(qjK h).1
 | .field _ s e,h=>⟨(qeH h.1).1,qbF e h.2.1⟩
 | .un _ neg e,h=>qbF e h.1
 | .bin _ o a b,h=>⟨qbF a h.1,qbF b h.2.1⟩
theorem qcE (full:Bool) : ∀ (e:E) p,e.nest full p<=2*e.dp
 | .int n,p | .bool n,p | .var s,p | .name s,p=>by simp[E.nest]
 | .field _ s e,p=>by have:=qcE full e 1; simp only[E.nest,E.dp]; omega
 | .un _ neg e,p=>by have:=qcE full e (qe5 neg); simp only[E.nest,E.dp]; split<;>omega
 | .bin _ o a b,p=>by have h1:=qcE full a o.left; have h2:=qcE full b (o.prec+1); simp only[E.nest,E.dp]; split<;>omega
theorem qbG : ∀ e:E,e.fine->e.cost<=12*e.size
 | .int n,h=>by have:=qoJ (n:=n.toNat) (by have:=h.2; omega); simp only[E.cost,qoS]; omega
 | .bool n,h=>by simp only[E.cost,qni]; split<;>omega
 | .var s,h=>by have:=(qgt h).2; simp only[E.cost,qoT]; omega
 | .name s,h=>by have:=(qjK h).2; simp only[E.cost,qnj]; omega
 | .field _ s e,h=>by have h1:=(qeH h.1).2; have h2:=qbG e h.2.1; simp only[E.cost,qh3]; omega
 | .un _ neg e,h=>by have h2:=qbG e h.1; simp only[E.cost,qko]; omega
 | .bin _ o a b,h=>by
  have h1:=qbG a h.1
  have h2:=qbG b h.2.1
  have h3:o.str.size<=2:=by cases o<;>decide
  simp only[E.cost,qgu]
  omega
theorem qhY {s:ByteArray} (h:s∈qgh):s∈qfA:=List.mem_append_left _ h
theorem qlM (s:Ss):s.fine->s.good none:=by
 fun_induction Ss.fine s with
 | case1=>intro _; exact .inl rfl
 | case2 _ s e r ih=>intro h; exact⟨rfl,(qgt h.1.1).1,qbF e h.1.2.1,ih h.2⟩
 | case3 _ s a b r ih=>intro h; exact⟨rfl,(qeH (qhY h.1.1)).1,qbF a h.1.2.1,qbF b h.1.2.2.2.1,ih h.2⟩
 | case4 _ a b r ih=>intro h; exact⟨rfl,qbF a h.1.1,qbF b h.1.2.2.1,ih h.2⟩
 | case5 r ih=>intro h; exact⟨rfl,ih h⟩
 | case6 _ c _ x _ y r ih1 ih2 ih3=>intro h; exact⟨rfl,qbF c h.1.1,⟨1,rfl,ih1 h.2.1,⟨0,rfl,ih2 h.2.2.1,.inr rfl⟩⟩,ih3 h.2.2.2⟩
 | case7 _ c _ x r ih1 ih2=>intro h; exact⟨rfl,qbF c h.1.1,⟨0,rfl,ih1 h.2.1,.inr rfl⟩,ih2 h.2.2⟩
 | case8=>intro h; exact h.elim
theorem qc2 : ∀ s:Ss,s.nest<=2*s.edp+1+s.dp
 | .nil=>by simp[Ss.nest]
 | .assign _ s e r=>by have h1:=qcE false e 1; have h2:=qc2 r; simp only[Ss.nest,Ss.edp,Ss.dp]; omega
 | .store _ s a b r=>by have h1:=qcE false a 1; have h3:=qcE false b 1; have h2:=qc2 r; simp only[Ss.nest,Ss.edp,Ss.dp]; omega
 | .effect _ a b r=>by have h1:=qcE false a 1; have h3:=qcE false b 1; have h2:=qc2 r; simp only[Ss.nest,Ss.edp,Ss.dp]; omega
 | .stop r=>by have h2:=qc2 r; simp only[Ss.nest,Ss.edp,Ss.dp]; omega
 | .cond _ _ c b r=>by have h1:=qcE false c 1; have h3:=qc2 b; have h2:=qc2 r; simp only[Ss.nest,Ss.edp,Ss.dp]; omega
 | .block _ b r=>by have h3:=qc2 b; have h2:=qc2 r; simp only[Ss.nest,Ss.edp,Ss.dp]; omega
theorem qlN (s:Ss):s.fine->s.cost<=20*s.fo.size:=by
 have hsz : ∀ {s:ByteArray},s∈qgh->s.size<=5:=fun h=>(qeH (qhY h)).2
 fun_induction Ss.fine s with
 | case1=>intro _; simp[Ss.cost]
 | case2 _ s e r ih=>
  intro h
  have h1:=ih h.2; have h2:=qbG e h.1.2.1; have h3:=(qgt h.1.1).2
  simp only[Ss.cost,Ss.fo,qaN,qcU,qaS]; omega
 | case3 _ s a b r ih=>
  intro h
  have h1:=ih h.2; have h2:=qbG a h.1.2.1; have h4:=qbG b h.1.2.2.2.1; have h3:=hsz h.1.1
  simp only[Ss.cost,Ss.fo,qaN,qcU,qaS]; omega
 | case4 _ a b r ih=>
  intro h
  have h1:=ih h.2; have h2:=qbG a h.1.1; have h4:=qbG b h.1.2.2.1
  simp only[Ss.cost,Ss.fo,qaN,qcU,qaS]; omega
 | case5 r ih=>
  intro h
  have h1:=ih h
  simp only[Ss.cost,Ss.fo,qaN,qaS]; omega
 | case6 _ c _ x _ y r ih1 ih2 ih3=>
  intro h
  have h1:=ih1 h.2.1; have h2:=ih2 h.2.2.1; have h3:=ih3 h.2.2.2; have h4:=qbG c h.1.1
  have h5 : ∀ q:Bool,(if q=true then 5 else 0)<=5:=fun q=>by cases q<;>simp
  have h6:=h5 (qfJ (.block ‹Bool› y .nil))
  have h7:qfJ .nil=false:=rfl
  simp only[Ss.cost,Ss.fo,qaN,qcU,qaS,Bool.false_eq_true,if_false,h7]
  have h8 : ∀ q,qfJ (.block q y .nil)=qfJ (.block false y .nil):=fun q=>by cases y<;>rfl
  simp only[h8] at h6 ⊢
  omega
 | case7 _ c _ x r ih1 ih2=>
  intro h
  have h1:=ih1 h.2.1; have h2:=ih2 h.2.2; have h4:=qbG c h.1.1
  simp only[Ss.cost,Ss.fo,qaN,qcU,qaS,if_true,qfJ,Bool.false_eq_true,if_false]
  omega
 | case8=>intro h; exact h.elim
theorem qiO {h:Hd} (hg:h.gen):qmO h.opt:=by
 cases h with
 | none=>intro b hb; cases hb
 | some f b=>
  intro x hx
  cases hx
  have h1:=hg.dp
  have h2:=hg.edp
  have h3:=qc2 b
  simp only[Hd.ss] at h1 h2
  exact⟨qlM b hg.fine,by omega⟩
theorem qm9 {a b c:Hd} (ha:a.gen) (hb:b.gen) (hc:c.gen) : ∀ k,qmO (Hd.opts a b c k)
 | 0=>qiO ha
 | 1=>qiO hb
 | _+2=>qiO hc
theorem qqH (k:Nat) (h:Hd):wt (qlF k h.opt)<=h.cost:=by
 cases h with
 | none=>simp[Hd.opt,qlF,wt]
 | some f b=>
  have:=qiN b
  have hk:(qeQ k).size<=4:=by unfold qeQ; split<;>decide
  simp only[Hd.opt,qlF,wt,qep,Hd.cost,onS,qam,List.length_cons,List.length_nil]
  omega
theorem qlf (a b c:Hd):(qaj false (qdg (Hd.opts a b c))).length<=a.cost+(b.cost+c.cost):=by
 refine Nat.le_trans (qm8 (qdg (Hd.opts a b c)) false) ?_
 simp only[qdg,qep]
 exact Nat.add_le_add (qqH 0 a) (Nat.add_le_add (qqH 1 b) (qqH 2 c))
theorem qeI {h:Hd} (hg:h.gen):h.cost<=25300:=by
 cases h with
 | none=>simp[Hd.cost]
 | some f b=>
  have h1:=hg.gsize
  have h2:=qlN b hg.fine
  simp only[Hd.ss] at h1
  simp only[Hd.cost]
  omega
end Go.Pm
end SUg
section SF3q
namespace Go.Pm.F
variable (C:Task->Option Res) (q:Nat) (fr:Fr) (σ : S)
def F226:PFun:=⟨4,[.tmp 8],.seq (rn [jj 8 (.mov (.c (.string ⟨#[]⟩)))] [0,1,2,3]) (.seq (rn [mv 10 1,mv 11 0,lz 12 11,bk 13 .add 12 1,cl 14 17 [10,13],mv 9 14] [0,2,3,9]) (.seq (.seq (rn [mv 15 9,mv 16 0,lz 17 16,bn 18 .eql 15 17] [0,2,3,9,18]) (.cond (.t 18) (.seq (rn [mv 19 0,mv 20 3,jj 21 (.bslice 1 [(.lit (.int .u8 0))] [(0,1,(.t 20))]),jj 22 (.bstr (.t 21)),bn 23 .add 19 22,mv 8 23] [8]) (.ret)) (.skip))) (.seq (.seq (rn [mv 24 2,jj 25 (.call 17 [(.t 24),(kk 4)])] [0,3,9,25]) (.block 0 (.seq (rn [bk 27 .eql 25 0,mv 26 27] [0,3,9,25,26]) (.cond (.t 26) (.seq (.region (some []) [mv 28 0,mv 29 9,jj 30 (.sliceS (.t 28) none (some (.t 29))),mv 31 3,jj 32 (.bslice 1 [(.lit (.int .u8 0))] [(0,1,(.t 31))]),jj 33 (.bstr (.t 32)),bn 34 .add 30 33,mv 35 0,mv 36 9,bk 37 .add 36 1,jj 38 (.sliceS (.t 35) (some (.t 37)) none),bn 39 .add 34 38,mv 8 39] [8]) (.ret)) (.seq (rn [bk 41 .eql 25 1,mv 40 41] [0,3,9,25,40]) (.cond (.t 40) (.seq (.region (some []) [mv 42 0,mv 43 9,jj 44 (.sliceS (.t 42) none (some (.t 43))),mv 45 0,mv 46 9,bk 47 .add 46 1,jj 48 (.sliceS (.t 45) (some (.t 47)) none),bn 49 .add 44 48,mv 8 49] [8]) (.ret)) (.seq (rn [bk 51 .eql 25 2,mv 50 51] [0,3,9,50]) (.cond (.t 50) (.seq (rn [mv 52 0,mv 53 9,jj 54 (.sliceS (.t 52) none (some (.t 53))),mv 8 54] [8]) (.ret)) (.skip))))))))) (.seq (.region (some []) [mv 55 0,mv 56 9,jj 57 (.sliceS (.t 55) none (some (.t 56))),mv 58 3,jj 59 (.bslice 1 [(.lit (.int .u8 0))] [(0,1,(.t 58))]),jj 60 (.bstr (.t 59)),bn 61 .add 57 60,mv 62 0,mv 63 9,jj 64 (.sliceS (.t 62) (some (.t 63)) none),bn 65 .add 61 64,mv 8 65] [8]) (.ret))))),false,false,false⟩
def F227:PFun:=⟨1,[.tmp 2],.seq (rn [jj 2 (.mov (.c (.string ⟨#[]⟩)))] [0]) (.seq (rn [mv 3 0,cl 4 123 [3],cl 5 236 [4],mv 2 5] [2]) (.ret)),false,false,false⟩
def F234:PFun:=⟨1,[.tmp 2],.seq (rn [bx 1 0,jj 2 (.mov (.c (.string ⟨#[]⟩)))] [1]) (.seq (rn [la 3 4 1,jj 4 (.call 246 [(.t 3),(kk 1),kF]),mv 2 4] [2]) (.ret)),false,false,false⟩
@[simp] def F236l0x:PC:=(.seq (.seq (rn [mv 5 4,bk 6 .lss 5 3] [1,3,4,6]) (.cond (.t 6) (.skip) (.exit 0))) (.seq (.block 1 (.seq (rn [mv 9 4,fa 10 0 1,jj 11 (.indexAddrA 3 4 (.t 10) (.t 9)),fa 12 0 11,l1 13 12,bk 14 .neq 13 0] [1,3,4,14]) (.cond (.t 14) (.region (some []) [mv 15 3,jj 16 (.call 152 []),mv 17 4,jj 18 (.indexAddr 1 (.t 16) (.t 17)),⟨some 19,.load false 1 (.t 18),none,[9]⟩,mv 20 4,fa 21 0 1,jj 22 (.indexAddrA 3 4 (.t 21) (.t 20)),⟨some 23,.load true 4 (.t 22),none,[1]⟩,cl 24 248 [23],jj 25 (.bslice 4 [eN,eN,eN,eN] [(0,1,(.t 15)),(1,1,(.c (.string ⟨#[111,110]⟩))),(2,1,(.t 19)),(3,1,(.t 24))]),cl 26 247 [25],mv 3 26] [1,3,4] [9,11]) (.skip)))) (rn [mv 7 4,bk 8 .add 7 1,mv 4 8] [1,3,4])))
def F236l0:PC:=F236l0x
theorem qcj:run C q F236l0 fr σ = run C q F236l0x fr σ := rfl
def F236:PFun:=⟨1,[.tmp 2],.seq (rn [bx 1 0,jj 2 (.mov (.c (.string ⟨#[]⟩)))] [1]) (.seq (rn [jj 3 (.mov (.c (.string ⟨#[]⟩)))] [1,3]) (.seq (.seq (rn [mx 4 (kk 0)] [1,3,4]) (.block 0 (.loop F236l0))) (.seq (rn [mv 27 3,mv 2 27] [2]) (.ret)))),false,false,false⟩
def F246:PFun:=⟨3,[.tmp 6],.seq (rn [bx 3 0,jj 6 (.mov (.c (.string ⟨#[]⟩)))] [1,2,3]) (.seq (rn [la 10 4 3,cl 11 261 [10],mv 7 11] [1,2,3,7]) (.seq (rn [fa 12 2 3,l1 13 12,mv 8 13] [1,2,3,7,8]) (.seq (.seq (rn [fa 14 0 3,l1 15 14,bk 16 .eql 15 8] [1,2,3,7,8,16]) (.cond (.t 16) (rn [fa 17 1 3,l1 18 17,cl 19 20 [18],mv 8 19] [1,2,3,7,8]) (.skip))) (.seq (.seq (rn [fa 20 0 3,l1 21 20,bk 22 .eql 21 9] [1,2,3,7,8,22]) (.cond (.t 22) (.seq (rn [jj 8 (.mov (.c (.string ⟨#[102,97,108,115,101]⟩)))] [1,2,3,7,8]) (.seq (rn [fa 23 1 3,l1 24 23,bk 25 .eql 24 1] [1,2,3,7,8,25]) (.cond (.t 25) (rn [jj 8 (.mov (.c (.string ⟨#[116,114,117,101]⟩)))] [1,2,3,7,8]) (.skip)))) (.skip))) (.seq (.seq (rn [fa 26 0 3,l1 27 26,bk 28 .eql 27 11] [1,2,3,7,8,28]) (.cond (.t 28) (.region (some []) [fa 29 2 3,⟨some 30,.load false 1 (.t 29),none,[7]⟩,fa 31 3 3,l1 32 31,jj 33 (.indexAddr 4 (.t 32) (kk 0)),la 34 4 33,mv 35 2,jj 36 (.call 246 [(.t 34),(kk 1),(.t 35)]),jj 37 (.bslice 4 [eN,eN,eN,eN] [(0,1,(.t 30)),(1,1,(.c (.string ⟨#[91]⟩))),(2,1,(.t 36)),(3,1,(.c (.string ⟨#[93]⟩)))]),cl 38 247 [37],mv 8 38] [1,2,3,7,8] [7,9]) (.skip))) (.seq (.seq (rn [fa 39 0 3,l1 40 39,bk 41 .eql 40 13] [1,2,3,7,8,41]) (.cond (.t 41) (.region (some []) [fa 42 2 3,⟨some 43,.load false 1 (.t 42),none,[8]⟩,fa 44 3 3,l1 45 44,jj 46 (.indexAddr 4 (.t 45) (kk 0)),la 47 4 46,mv 48 7,mv 49 2,cl 50 246 [47,48,49],jj 51 (.bslice 2 [eN,eN] [(0,1,(.t 43)),(1,1,(.t 50))]),cl 52 247 [51],mv 8 52] [1,2,3,7,8] [8,10]) (.skip))) (.seq (.seq (rn [fa 53 0 3,l1 54 53,bk 55 .eql 54 14] [1,2,3,7,8,55]) (.cond (.t 55) (.seq (rn [mv 56 7,mv 9 56] [1,2,3,7,9]) (.seq (.seq (rn [mv 57 7,bk 58 .eql 57 4] [1,2,3,7,9,58]) (.cond (.t 58) (rn [mx 9 (kk 5)] [1,2,3,7,9]) (.skip))) (.region (some []) [fa 59 3 3,l1 60 59,jj 61 (.indexAddr 4 (.t 60) (kk 0)),la 62 4 61,mv 63 9,mv 64 2,cl 65 246 [62,63,64],fa 66 2 3,⟨some 67,.load false 1 (.t 66),none,[6,16]⟩,fa 68 3 3,⟨some 69,.load false 1 (.t 68),none,[6]⟩,jj 70 (.indexAddr 4 (.t 69) (kk 1)),⟨some 71,.load true 4 (.t 70),none,[6]⟩,mv 72 7,bk 73 .add 72 1,mv 74 2,cl 75 246 [71,73,74],jj 76 (.bslice 3 [eN,eN,eN] [(0,1,(.t 65)),(1,1,(.t 67)),(2,1,(.t 75))]),cl 77 247 [76],mv 8 77] [1,2,7,8] [16,18]))) (.skip))) (.seq (.seq (rn [mv 78 7,mv 79 1,bn 80 .lss 78 79,mv 81 80,jf 82 81 (.mov (.t 2)),jf 83 81 (.mov (.t 82)),jt 84 83 (.mov (.t 7)),jt 85 83 (.bin .lss (.t 84) (kk 8)),jf 86 81 (.pick (.t 83) (.t 85) kF),jj 87 (.pick (.t 81) kT (.t 86))] [8,87]) (.cond (.t 87) (.seq (rn [mv 88 8,jj 89 (.bin .add (.c (.string ⟨#[40]⟩)) (.t 88)),jj 90 (.bin .add (.t 89) (.c (.string ⟨#[41]⟩))),mv 6 90] [6]) (.ret)) (.skip))) (.seq (rn [mv 91 8,mv 6 91] [6]) (.ret)))))))))),false,false,false⟩
@[simp] def F247l0x:PC:=(.seq (.seq (rn [mv 5 4,mv 6 0,ls 7 6,bn 8 .lss 5 7] [0,3,4,8]) (.cond (.t 8) (.skip) (.exit 0))) (.seq (.block 1 (rn [mv 11 3,mv 12 0,mv 13 4,jj 14 (.indexAddr 1 (.t 12) (.t 13)),l1 15 14,cl 16 262 [11,15],mv 3 16] [0,3,4])) (rn [mv 9 4,bk 10 .add 9 1,mv 4 10] [0,3,4])))
def F247l0:PC:=F247l0x
theorem qh5:run C q F247l0 fr σ = run C q F247l0x fr σ := rfl
def F247:PFun:=⟨1,[.tmp 2],.seq (rn [jj 2 (.mov (.c (.string ⟨#[]⟩)))] [0]) (.seq (rn [jj 3 (.mov (.c (.string ⟨#[]⟩)))] [0,3]) (.seq (.seq (rn [mx 4 (kk 0)] [0,3,4]) (.block 0 (.loop F247l0))) (.seq (rn [mv 17 3,mv 2 17] [2]) (.ret)))),false,false,false⟩
@[simp] def F248l0x:PC:=(.seq (.seq (rn [mv 5 4,fa 6 3 1,l1 7 6,ls 8 7,bn 9 .lss 5 8] [1,3,4,9]) (.cond (.t 9) (.skip) (.exit 0))) (.seq (.block 1 (rn [mv 12 3,fa 13 3 1,l1 14 13,mv 15 4,jj 16 (.indexAddr 4 (.t 14) (.t 15)),la 17 4 16,cl 18 263 [17],cl 19 262 [12,18],mv 3 19] [1,3,4])) (rn [mv 10 4,bk 11 .add 10 1,mv 4 11] [1,3,4])))
def F248l0:PC:=F248l0x
theorem qfR:run C q F248l0 fr σ = run C q F248l0x fr σ := rfl
def F248:PFun:=⟨1,[.tmp 2],.seq (rn [bx 1 0,jj 2 (.mov (.c (.string ⟨#[]⟩)))] [1]) (.seq (rn [jj 3 (.mov (.c (.string ⟨#[123]⟩)))] [1,3]) (.seq (.seq (rn [mx 4 (kk 0)] [1,3,4]) (.block 0 (.loop F248l0))) (.seq (rn [mv 20 3,jj 21 (.bin .add (.t 20) (.c (.string ⟨#[125]⟩))),mv 2 21] [2]) (.ret)))),false,false,false⟩
def F261:PFun:=⟨1,[.tmp 2],.seq (rn [bx 1 0,mx 2 (kk 0)] [1]) (.seq (.seq (rn [fa 3 0 1,l1 4 3,bk 5 .eql 4 13] [1,5]) (.cond (.t 5) (.seq (.seq (rn [fa 6 2 1,l1 7 6,jj 8 (.bin .eql (.t 7) (.c (.string ⟨#[33]⟩)))] [8]) (.cond (.t 8) (.seq (rn [mx 2 (kk 3)] [2]) (.ret)) (.skip))) (.seq (rn [mx 2 (kk 7)] [2]) (.ret))) (.skip))) (.seq (.seq (rn [fa 9 0 1,l1 10 9,bk 11 .neq 10 14] [1,11]) (.cond (.t 11) (.seq (rn [mx 2 (kk 8)] [2]) (.ret)) (.skip))) (.seq (.seq (rn [fa 12 2 1,l1 13 12,jj 14 (.bin .eql (.t 13) (.c (.string ⟨#[124,124]⟩)))] [1,14]) (.cond (.t 14) (.seq (rn [mx 2 (kk 1)] [2]) (.ret)) (.skip))) (.seq (.seq (rn [fa 15 2 1,l1 16 15,jj 17 (.bin .eql (.t 16) (.c (.string ⟨#[38,38]⟩)))] [1,17]) (.cond (.t 17) (.seq (rn [mx 2 (kk 2)] [2]) (.ret)) (.skip))) (.seq (.seq (rn [fa 18 2 1,l1 19 18,jj 20 (.bin .eql (.t 19) (.c (.string ⟨#[43]⟩))),mv 21 20,jf 22 21 (.fieldAddr 2 (.t 1)),jf 23 21 (.load false 1 (.t 22)),jf 24 21 (.bin .eql (.t 23) (.c (.string ⟨#[45]⟩))),jj 25 (.pick (.t 21) kT (.t 24))] [1,25]) (.cond (.t 25) (.seq (rn [mx 2 (kk 5)] [2]) (.ret)) (.skip))) (.seq (.seq (rn [fa 26 2 1,l1 27 26,jj 28 (.bin .eql (.t 27) (.c (.string ⟨#[42]⟩))),mv 29 28,jf 30 29 (.fieldAddr 2 (.t 1)),jf 31 29 (.load false 1 (.t 30)),jf 32 29 (.bin .eql (.t 31) (.c (.string ⟨#[47]⟩))),jj 33 (.pick (.t 29) kT (.t 32))] [33]) (.cond (.t 33) (.seq (rn [mx 2 (kk 6)] [2]) (.ret)) (.skip))) (.seq (rn [mx 2 (kk 4)] [2]) (.ret)))))))),false,false,false⟩
def F262:PFun:=⟨2,[.tmp 4],.seq (rn [jj 4 (.mov (.c (.string ⟨#[]⟩)))] [0,1]) (.seq (.seq (rn [mv 7 0,jj 8 (.bin .neq (.t 7) (.c (.string ⟨#[]⟩))),mv 9 8,jt 10 9 (.mov (.t 1)),jt 11 9 (.bin .neq (.t 10) (.c (.string ⟨#[]⟩))),jj 12 (.pick (.t 9) (.t 11) kF)] [0,1,12]) (.cond (.t 12) (.seq (rn [mv 13 0,mv 14 0,lz 15 14,bk 16 .sub 15 1,jj 17 (.indexS (.t 13) (.t 16)),mv 5 17] [0,1,5]) (.seq (rn [mv 18 1,jj 19 (.indexS (.t 18) (kk 0)),mv 6 19] [0,1,5,6]) (.seq (rn [mv 20 5,cl 21 192 [20],mv 22 21,jf 23 22 (.mov (.t 5)),jf 24 22 (.call 193 [(.t 23)]),jj 25 (.pick (.t 22) kT (.t 24)),mv 26 25,jt 27 26 (.mov (.t 6)),jt 28 26 (.call 192 [(.t 27)]),jt 29 26 (.mov (.t 28)),jf 30 29 (.mov (.t 6)),jf 31 29 (.call 193 [(.t 30)]),jt 32 26 (.pick (.t 29) kT (.t 31)),jj 33 (.pick (.t 26) (.t 32) kF)] [0,1,33]) (.cond (.t 33) (.seq (rn [mv 34 0,jj 35 (.bin .add (.t 34) (.c (.string ⟨#[32]⟩))),mv 36 1,bn 37 .add 35 36,mv 4 37] [4]) (.ret)) (.skip))))) (.skip))) (.seq (rn [mv 38 0,mv 39 1,bn 40 .add 38 39,mv 4 40] [4]) (.ret))),false,false,false⟩
def F263:PFun:=⟨1,[.tmp 2],.seq (rn [bx 1 0,jj 2 (.mov (.c (.string ⟨#[]⟩)))] [1]) (.seq (.seq (rn [fa 4 0 1,l1 5 4] [1,5]) (.block 0 (.seq (rn [bk 7 .eql 5 1,mv 6 7] [1,5,6]) (.cond (.t 6) (.seq (.region (some []) [fa 8 2 1,⟨some 9,.load false 1 (.t 8),none,[6]⟩,fa 10 3 1,l1 11 10,jj 12 (.indexAddr 4 (.t 11) (kk 0)),la 13 4 12,cl 14 234 [13],jj 15 (.bslice 4 [eN,eN,eN,eN] [(0,1,(.t 9)),(1,1,(.c (.string ⟨#[61]⟩))),(2,1,(.t 14)),(3,1,(.c (.string ⟨#[59]⟩)))]),cl 16 247 [15],mv 2 16] [2] [6,8]) (.ret)) (.seq (rn [bk 18 .eql 5 2,mv 17 18] [1,5,17]) (.cond (.t 17) (.seq (.region (some []) [fa 19 2 1,⟨some 20,.load false 1 (.t 19),none,[6,11]⟩,fa 21 3 1,l1 22 21,jj 23 (.indexAddr 4 (.t 22) (kk 0)),la 24 4 23,cl 25 234 [24],fa 26 3 1,⟨some 27,.load false 1 (.t 26),none,[6]⟩,jj 28 (.indexAddr 4 (.t 27) (kk 1)),⟨some 29,.load true 4 (.t 28),none,[6]⟩,cl 30 234 [29],jj 31 (.bslice 7 [eN,eN,eN,eN,eN,eN,eN] [(0,1,(.t 20)),(1,1,(.c (.string ⟨#[91]⟩))),(2,1,(.t 25)),(3,1,(.c (.string ⟨#[93]⟩))),(4,1,(.c (.string ⟨#[61]⟩))),(5,1,(.t 30)),(6,1,(.c (.string ⟨#[59]⟩)))]),cl 32 247 [31],mv 2 32] [2] [11,13]) (.ret)) (.seq (rn [bk 34 .eql 5 5,mv 33 34] [1,5,33]) (.cond (.t 33) (.seq (.region (some []) [fa 35 3 1,l1 36 35,jj 37 (.indexAddr 4 (.t 36) (kk 0)),la 38 4 37,cl 39 234 [38],fa 40 3 1,⟨some 41,.load false 1 (.t 40),none,[4]⟩,jj 42 (.indexAddr 4 (.t 41) (kk 1)),⟨some 43,.load true 4 (.t 42),none,[4]⟩,cl 44 234 [43],jj 45 (.bslice 5 [eN,eN,eN,eN,eN] [(0,1,(.c (.string ⟨#[101,102,102,101,99,116]⟩))),(1,1,(.t 39)),(2,1,(.c (.string ⟨#[44]⟩))),(3,1,(.t 44)),(4,1,(.c (.string ⟨#[59]⟩)))]),cl 46 247 [45],mv 2 46] [2] [9,11]) (.ret)) (.seq (rn [bk 48 .eql 5 6,mv 47 48] [1,5,47]) (.cond (.t 47) (.seq (rn [jj 2 (.mov (.c (.string ⟨#[115,116,111,112,59]⟩)))] [2]) (.ret)) (.seq (rn [bk 50 .eql 5 4,mv 49 50] [1,49]) (.cond (.t 49) (.seq (.region (some []) [fa 51 3 1,l1 52 51,jj 53 (.indexAddr 4 (.t 52) (kk 0)),la 54 4 53,cl 55 234 [54],fa 56 3 1,⟨some 57,.load false 1 (.t 56),none,[4]⟩,jj 58 (.indexAddr 4 (.t 57) (kk 1)),⟨some 59,.load true 4 (.t 58),none,[4]⟩,cl 60 248 [59],jj 61 (.bslice 3 [eN,eN,eN] [(0,1,(.c (.string ⟨#[119,104,105,108,101]⟩))),(1,1,(.t 55)),(2,1,(.t 60))]),cl 62 247 [61],mv 2 62] [2] [9,11]) (.ret)) (.skip))))))))))))) (.seq (.region (some []) [fa 63 3 1,l1 64 63,jj 65 (.indexAddr 4 (.t 64) (kk 0)),la 66 4 65,cl 67 234 [66],fa 68 3 1,⟨some 69,.load false 1 (.t 68),none,[4]⟩,jj 70 (.indexAddr 4 (.t 69) (kk 1)),⟨some 71,.load true 4 (.t 70),none,[4]⟩,cl 72 248 [71],jj 73 (.bslice 3 [eN,eN,eN] [(0,1,(.c (.string ⟨#[105,102]⟩))),(1,1,(.t 67)),(2,1,(.t 72))]),cl 74 247 [73],mv 3 74] [1,3] [9,11]) (.seq (.seq (rn [fa 75 3 1,l1 76 75,jj 77 (.indexAddr 4 (.t 76) (kk 2)),fa 78 3 77,l1 79 78,ls 80 79,bk 81 .gtr 80 0] [1,3,81]) (.cond (.t 81) (rn [mv 82 3,fa 83 3 1,l1 84 83,jj 85 (.indexAddr 4 (.t 84) (kk 2)),la 86 4 85,cl 87 248 [86],jj 88 (.bslice 3 [eN,eN,eN] [(0,1,(.t 82)),(1,1,(.c (.string ⟨#[101,108,115,101]⟩))),(2,1,(.t 87))]),cl 89 247 [88],mv 3 89] [3]) (.skip))) (.seq (rn [mv 90 3,mv 2 90] [2]) (.ret))))),false,false,false⟩
end Go.Pm.F
end SF3q
section SFLaw13
namespace Go.Pm.F
variable (C:Task->Option Res) (q:Nat) (fr:Fr) (σ : S)
@[simp] def F218l0x:PC:=(.seq (.seq (rn [mv 32 14,bk 33 .lss 32 2] [5,13,14,33]) (.cond (.t 33) (.skip) (.exit 0))) (.seq (.block 1 (.seq (rn [mv 36 13,mv 37 14,jj 38 (.indexAddr 1 (.t 36) (.t 37)),l1 39 38,mv 15 39] [5,13,14,15]) (.seq (rn [mv 41 15,cl 42 228 [41],mv 40 42,ex 43 40 0,ex 44 40 1,ex 45 40 2,jj 16 (.alloc [zN,zN,eN,sN,zN,zN,eN,sN,zN,zN,eN,sN]),st 12 16 43,mv 17 44,mv 18 45] [5,13,14,15,17,18]) (.seq (rn [mv 46 15,jj 47 (.bin .add (.t 46) (.c (.string ⟨#[10]⟩))),mv 48 5,jj 49 (.call 225 [(.t 48),(kk 40)]),bn 50 .add 47 49,mv 19 50] [5,13,14,15,17,18,19]) (.seq (.seq (rn [mv 51 18,bk 52 .eql 51 0,mv 53 52,jf 54 53 (.mov (.t 17)),jf 55 53 (.mov (.t 15)),jf 56 53 (.len .str (.t 55)),jf 57 53 (.bin .geq (.t 54) (.t 56)),jj 58 (.pick (.t 53) kT (.t 57)),mv 59 58,jf 60 59 (.mov (.t 19)),jf 61 59 (.len .str (.t 60)),jf 62 59 (.bin .gtr (.t 61) (kk 2000)),jj 63 (.pick (.t 59) kT (.t 62))] [5,13,14,17,18,19,63]) (.cond (.t 63) (.exit 1) (.skip))) (.seq (rn [mv 65 19,cl 66 228 [65],mv 64 66,ex 67 64 0,ex 68 64 1,ex 69 64 2,jj 20 (.alloc [zN,zN,eN,sN,zN,zN,eN,sN,zN,zN,eN,sN]),st 12 20 67,mv 21 68,mv 22 69] [5,13,14,17,18,20,21,22]) (.seq (rn [mv 70 21,mv 71 17,bn 72 .neq 70 71,mv 73 72,jf 74 73 (.mov (.t 22)),jf 75 73 (.mov (.t 18)),jf 76 73 (.bin .neq (.t 74) (.t 75)),jj 77 (.pick (.t 73) kT (.t 76)),mv 78 77,jf 79 78 (.fieldAddr 0 (.t 20)),jf 80 78 (.indexAddrA 3 4 (.t 79) (kk 0)),jf 81 78 (.fieldAddr 0 (.t 80)),jf 82 78 (.load false 1 (.t 81)),jf 83 78 (.bin .neq (.t 82) (kk 0)),jj 84 (.pick (.t 78) kT (.t 83)),mv 85 84,jf 86 85 (.fieldAddr 0 (.t 20)),jf 87 85 (.indexAddrA 3 4 (.t 86) (kk 1)),jf 88 85 (.fieldAddr 0 (.t 87)),jf 89 85 (.load false 1 (.t 88)),jf 90 85 (.bin .neq (.t 89) (kk 0)),jj 91 (.pick (.t 85) kT (.t 90)),mv 92 91,jf 93 92 (.fieldAddr 0 (.t 20)),jf 94 92 (.indexAddrA 3 4 (.t 93) (kk 2)),jf 95 92 (.fieldAddr 0 (.t 94)),jf 96 92 (.load false 1 (.t 95)),jf 97 92 (.bin .neq (.t 96) (kk 0)),jj 98 (.pick (.t 92) kT (.t 97))] [5,13,14,98]) (.cond (.t 98) (.seq (rn [mx 12 kF] [12]) (.ret)) (.skip))))))))) (rn [mv 34 14,bk 35 .add 34 1,mv 14 35] [5,13,14])))
def F218l0:PC:=F218l0x
theorem qdG:run C q F218l0 fr σ = run C q F218l0x fr σ := rfl
def F218:PFun:=⟨6,[.tmp 12],.seq (rn [mx 12 kF] [0,1,2,3,4,5]) (.seq (rn [mv 23 0,jj 24 (.call 225 [(.t 23),(kk 300)]),mv 25 1,cl 26 227 [25],mv 27 2,mv 28 3,mv 29 4,cl 30 226 [26,27,28,29],jj 31 (.bslice 2 [eN,eN] [(0,1,(.t 24)),(1,1,(.t 30))]),mv 13 31] [5,13]) (.seq (.seq (rn [mx 14 (kk 0)] [5,13,14]) (.block 0 (.loop F218l0))) (.seq (rn [jj 99 (.call 229 []),mv 12 99] [12]) (.ret)))),false,false,false⟩
def F229:PFun:=⟨0,[.tmp 0],.seq (rn [mx 0 kF] []) (.seq (rn [jj 8 (.call 228 [(.c (.string ⟨#[111,110,32,116,105,99,107,123,120,91,48,93,61,49,43,50,42,118,59,125]⟩))]),mv 7 8,ex 9 7 0,ex 10 7 1,ex 11 7 2,jj 1 (.alloc [zN,zN,eN,sN,zN,zN,eN,sN,zN,zN,eN,sN]),st 12 1 9,mv 2 10,mv 3 11] [1,2,3]) (.seq (rn [jj 13 (.call 228 [(.c (.string ⟨#[111,110,32,97,99,116,32,123,32,115,116,111,112,32,125]⟩))]),mv 12 13,ex 14 12 0,ex 15 12 1,ex 16 12 2,jj 4 (.alloc [zN,zN,eN,sN,zN,zN,eN,sN,zN,zN,eN,sN]),st 12 4 14,mv 5 15,mv 6 16] [1,2,3,5,6]) (.seq (.seq (rn [fa 17 0 1,jj 18 (.indexAddrA 3 4 (.t 17) (kk 1)),fa 19 3 18,l1 20 19,ls 21 20,bk 22 .neq 21 1] [1,2,3,5,6,22]) (.cond (.t 22) (.seq (rn [mx 0 kF] [0]) (.ret)) (.skip))) (.seq (rn [mv 23 2,bk 24 .eql 23 0,mv 25 24,jt 26 25 (.mov (.t 3)),jt 27 25 (.bin .eql (.t 26) (kk 0)),jj 28 (.pick (.t 25) (.t 27) kF),mv 29 28,jt 30 29 (.fieldAddr 0 (.t 1)),jt 31 29 (.indexAddrA 3 4 (.t 30) (kk 1)),jt 32 29 (.fieldAddr 3 (.t 31)),jt 33 29 (.load false 1 (.t 32)),jt 34 29 (.indexAddr 4 (.t 33) (kk 0)),jt 35 29 (.fieldAddr 0 (.t 34)),jt 36 29 (.load false 1 (.t 35)),jt 37 29 (.bin .eql (.t 36) (kk 2)),jj 38 (.pick (.t 29) (.t 37) kF),mv 39 38,jt 40 39 (.load true 12 (.t 1)),jt 41 39 (.call 231 [(.t 40)]),jt 42 39 (.bin .eql (.t 41) (.c (.string ⟨#[111,110,32,116,105,99,107,123,120,91,48,93,61,49,43,50,42,118,59,125]⟩))),jj 43 (.pick (.t 39) (.t 42) kF),mv 44 43,jt 45 44 (.mov (.t 5)),jt 46 44 (.bin .eql (.t 45) (kk 14)),jj 47 (.pick (.t 44) (.t 46) kF),mv 48 47,jt 49 48 (.mov (.t 6)),jt 50 48 (.bin .eql (.t 49) (kk 12)),jj 51 (.pick (.t 48) (.t 50) kF),mv 0 51] [0]) (.ret))))),false,false,false⟩
end Go.Pm.F
end SFLaw13
section STE
namespace Go.Pm.F
def tE:Nat->Option PFun
 | _=>none
end Go.Pm.F
end STE
section SF01n
namespace Go.Pm.F
variable (C:Task->Option Res) (q:Nat) (fr:Fr) (σ : S)
def F225:PFun:=⟨2,[.tmp 4],.seq (rn [jj 4 (.mov (.c (.string ⟨#[]⟩)))] [0,1]) (.seq (.seq (rn [mv 5 0,lz 6 5,mv 7 1,bn 8 .gtr 6 7] [0,1,8]) (.cond (.t 8) (.seq (rn [mv 9 0,mv 10 1,jj 11 (.sliceS (.t 9) none (some (.t 10))),mv 4 11] [4]) (.ret)) (.skip))) (.seq (rn [mv 12 0,mv 4 12] [4]) (.ret))),false,false,false⟩
end Go.Pm.F
end SF01n
section STK
namespace Go.Pm.F
def tK:Nat->Option PFun
 | 225=>some F225
 | 226=>some F226
 | 227=>some F227
 | 229=>some F229
 | _=>none
def tKd:Nat->Option PFun
 | 218=>some F218
 | _=>none
end Go.Pm.F
end STK
section STS
namespace Go.Pm.F
def tS:Nat->Option PFun
 | 20=>some F20
 | 152=>some F152
 | 192=>some F192
 | 193=>some F193
 | 234=>some F234
 | 236=>some F236
 | 246=>some F246
 | 247=>some F247
 | 248=>some F248
 | 261=>some F261
 | 262=>some F262
 | 263=>some F263
 | _=>none
end Go.Pm.F
end STS
section SSa
namespace Go.Pm
open F
set_option maxHeartbeats 4000000
theorem qjV (c:UInt8):Z tS (.call 192 [.dat (.lit (.int .u8 c.toNat))] [])=some (.ret (.bool (qbi c)) []):=by
 refine qaa (pf:=F192) rfl rfl ?_
 by_cases h1:(97:Int)<=c.toNat
 ·have h1':97<=c.toNat:=by omega
  by_cases h2:(c.toNat:Int)<=122
  ·have h2':c.toNat<=122:=by omega
   simp[F192,qbi,h1,h1',h2,h2']
  ·have h2' : ¬ c.toNat<=122:=by omega
   simp[F192,qbi,h1,h1',h2,h2']
 ·have h1' : ¬ 97<=c.toNat:=by omega
  simp[F192,qbi,h1,h1']
theorem qlo (c:UInt8):Z tS (.call 193 [.dat (.lit (.int .u8 c.toNat))] [])=some (.ret (.bool (qaA c)) []):=by
 refine qaa (pf:=F193) rfl rfl ?_
 by_cases h1:(48:Int)<=c.toNat
 ·have h1':48<=c.toNat:=by omega
  by_cases h2:(c.toNat:Int)<=57
  ·have h2':c.toNat<=57:=by omega
   simp[F193,qaA,h1,h1',h2,h2']
  ·have h2' : ¬ c.toNat<=57:=by omega
   simp[F193,qaA,h1,h1',h2,h2']
 ·have h1' : ¬ 48<=c.toNat:=by omega
  simp[F193,qaA,h1,h1']
theorem qpq (a b:List UInt8):bs a++bs b=bs (a++b):=by
 apply qkp
 simp[byl,bs,ByteArray.data_append]
theorem qb0 (a b:ByteArray):a++b=bs (byl a++byl b):=by
 rw[<- qpq,qdO,qdO]
theorem qib:qaH qaR ⟨#[]⟩=false:=by rw[qbu]; rfl
theorem qpr (a b:ByteArray) (h:a.size+b.size<2 ^ 40):Z tS (.call 262 [.str a,.str b] [])=some (.ret (.str (bs (pw (byl a) [b]))) []):=by
 have hab : ¬ (9223372036854775807:Int)<(a.size:Int)+(b.size:Int):=by omega
 have plain:gap (wl (byl a)) b=[]->bs (pw (byl a) [b])=a++b:=fun hg=>by
  rw[qcT,qej,hg,List.nil_append,qb0]
 refine qaa (pf:=F262) rfl rfl ?_
 by_cases ha:a=⟨#[]⟩
 ·rw[plain (by rw[ha]; rfl)]
  have e:eqS a ⟨#[]⟩=true:=by rw[qbO]; simp[ha]
  simp[F262,e,hab]
 ·have ea:eqS a ⟨#[]⟩=false:=by rw[qbO]; simp[ha]
  by_cases hb:b=⟨#[]⟩
  ·rw[plain (by rw[hb,gap,qib]; simp)]
   have e:eqS b ⟨#[]⟩=true:=by rw[qbO]; simp[hb]
   simp[F262,ea,e,hab]
  ·have eb:eqS b ⟨#[]⟩=false:=by rw[qbO]; simp[hb]
   have nz : ∀ {t:ByteArray},t≠⟨#[]⟩->t.size≠0:=fun {t} h h0=>h (by
    apply qkp
    have:(byl t).length=0:=by rw[qaP,h0]
    rw[List.eq_nil_of_length_eq_zero this])
   have ha0:=nz ha
   obtain⟨y,hy,hs⟩:=qou (nz hb)
   have hx:=qqo ha0
   have hwl:wl (byl a)=qaR (lastC (byl a)):=rfl
   generalize lastC (byl a)=x at *
   have l1:=qjV x
   have l2:=qlo x
   have l3:=qjV y
   have l4:=qlo y
   have w2:=qal ((a.size:Int)-1) (by omega)
   have w3:((a.size:Int)-1).toNat=a.size-1:=by omega
   have w4:(0:Int)<=(a.size:Int)-1:=by omega
   have w5:(1:Int)<=a.size:=by omega
   by_cases hg:(qaR x&&qaR y)=true
   ·have hgap:gap (wl (byl a)) b=[32]:=by rw[gap,hwl,hs,if_pos hg]
    have e:bs (pw (byl a) [b])=a++⟨#[32]⟩++b:=by
     rw[qcT,qej,hgap,qb0,qb0 a,qbg]
     simp[byl]
    rw[e]
    have hab2 : ¬ (9223372036854775807:Int)<(a.size:Int)+1:=by omega
    have hab3 : ¬ (9223372036854775807:Int)<(a.size:Int)+1+(b.size:Int):=by omega
    have hsz:(a++⟨#[32]⟩:ByteArray).size=a.size+1:=by rw[ByteArray.size_append]; rfl
    have hsp:(⟨#[32]⟩:ByteArray).size=1:=rfl
    have hsp2:((⟨#[32]⟩:ByteArray).size:Int)=1:=rfl
    unfold qaR at hg
    cases h1:qbi x<;>cases h2:qaA x<;>cases h3:qbi y<;>cases h4:qaA y<;>rw[h1,h2,h3,h4] at hg<;>simp at hg<;>rw[h1] at l1<;>rw[h2] at l2<;>rw[h3] at l3<;>rw[h4] at l4 <;>
     simp[F262,ea,eb,hx,hy,l1,l2,l3,l4,w2,w3,w4,w5,hab2,hab3,hsz,hsp,hsp2,V.len]
   ·have hgap:gap (wl (byl a)) b=[]:=by rw[gap,hwl,hs,if_neg hg]
    rw[plain hgap]
    unfold qaR at hg
    cases h1:qbi x<;>cases h2:qaA x<;>cases h3:qbi y<;>cases h4:qaA y<;>rw[h1,h2,h3,h4] at hg<;>simp at hg<;>rw[h1] at l1<;>rw[h2] at l2<;>rw[h3] at l3<;>rw[h4] at l4 <;>
     simp[F262,ea,eb,hx,hy,l1,l2,l3,l4,w2,w3,w4,w5,hab,V.len]
theorem qlp (fl:Bool) (ts:List ByteArray) (hn:ts.length<2 ^ 30) : ∀ (m i:Nat) (w:List UInt8),i+m=ts.length->(pw w (ts.drop i)).length<2 ^ 40 ->
  Z tS (.loop 0 F247l0 [(0,.dat (.sl (qaZ ts) ts.length fl)),(3,.str (bs w)),(4,.int i)] [])=some (.out (.exit 0) [(0,.dat (.sl (qaZ ts) ts.length fl)),(3,.str (bs (pw w (ts.drop i)))),(4,.int ts.length),(8,.bool false)] [])
 | 0,i,w,hi,hsz=>by
  have hi':i=ts.length:=by omega
  subst hi'
  rw[List.drop_length,qej]
  rw[qae]
  simp[qag,qh5,V.len]
 | m+1,i,w,hi,hsz=>by
  have hlt:i<ts.length:=by omega
  have hd:ts.drop i=ts[i]::ts.drop (i+1):=List.drop_eq_getElem_cons hlt
  rw[hd,qcT] at hsz ⊢
  have hc:=qiT ts i hlt
  generalize ts[i]=t at *
  have hw0:(w++(gap (wl w) t++byl t)).length<2 ^ 40:=Nat.lt_of_le_of_lt (qpf _ _) hsz
  have ih:=qlp fl ts hn m (i+1) (w++(gap (wl w) t++byl t)) (by omega) hsz
  rw[<- ih]
  have z:=qpr (bs w) t (by rw[List.length_append,List.length_append,qaP] at hw0; rw[qam]; omega)
  rw[qbg,qcT,qej] at z
  have w1:=qal ((i:Int)+1) (by omega)
  have hlt':(i:Int)<ts.length:=by omega
  conv=>lhs; rw[qae]
  generalize bs (w++(gap (wl w) t++byl t))=R at *
  generalize bs w=R0 at *
  simp[qag,qh5,z,hc,w1,hlt',hlt,qah,V.len]
theorem qt7 (fl:Bool) {ts:List ByteArray} {R:ByteArray} (hR:R=bs (pw [] ts)) (hn:ts.length<2 ^ 30) (hsz:R.size<2 ^ 40):Z tS (.call 247 [.dat (.sl (qaZ ts) ts.length fl)] [])=some (.ret (.str R) []):=by
 subst hR
 have z:=qlp fl ts hn ts.length 0 [] (by omega) (by rw[List.drop_zero]; exact hsz)
 rw[List.drop_zero] at z
 simp only[Int.cast_ofNat_Int] at z
 rw[show bs []=⟨#[]⟩ from rfl] at z
 refine qaa (pf:=F247) rfl rfl ?_
 generalize bs (pw [] ts)=R at *
 simp[F247,z]
theorem qps (w:List UInt8) {ts:List ByteArray} (h : ∀ t∈ts,t.size≠0):pw w [bs (qaj false ts)]=pw w ts:=by
 cases ts with
 | nil=>
  rw[qcT,qej,qej,qaj]
  have:=qib
  simp[gap,bs,byl,this]
 | cons t ts=>
  have ht:=h t (List.mem_cons_self ..)
  cases hb:byl t with
  | nil=>exact absurd (by rw[<- qaP,hb]; rfl) ht
  | cons c r=>
   have hs:qaH qaR (bs (qaj false (t::ts)))=qaH qaR t:=by
    rw[qbu,qbu,qbg,qaj,hb]
    rfl
   have hg:gap (wl w) (bs (qaj false (t::ts)))=gap (wl w) t:=by rw[gap,gap,hs]
   have he:qei (wl w) t=qei false t:=by
    unfold qei
    cases hl:(byl t).getLast? with
    | none=>rw[List.getLast?_eq_none_iff] at hl; rw[hl] at hb; cases hb
    | some c=>rfl
   rw[qcT,qej,hg,qbg]
   show w++(gap (wl w) t++qaj false (t::ts))=w++qaj (wl w) (t::ts)
   rw[qaj,qaj,he]
   rfl
theorem qkv (w:List UInt8) {ts:List ByteArray} (h : ∀ t∈ts,t.size≠0) (r:List ByteArray):pw w (bs (qaj false ts)::r)=pw w (ts++r):=by
 rw[show bs (qaj false ts)::r=[bs (qaj false ts)]++r from rfl,qhR,qps w h,<- qhR]
end Go.Pm
end SSa
section SJr
namespace Go.Pm
open F
set_option maxHeartbeats 2000000
def digS:ByteArray:=⟨#[48,49,50,51,52,53,54,55,56,57]⟩
theorem qqb : ∀ d,d<10->digS.extract d (d+1)=bs [(48+d).toUInt8]:=by decide
theorem qkT (n:Int) : ∀ (k m:Nat) (out:ByteArray),m<10 ^ k->k<=18->out.size+k<=100 ->
  Z tS (.loop 0 F20l0 [(0,.int n),(3,.str digS),(4,.str out),(5,.int m)] [])=some (.out (.exit 0) [(0,.int n),(3,.str digS),(4,.str (bs (if m=0 then [] else qiH k m)++out)),(5,.int 0),(11,.bool false)] [])
 | k,0,out,_,_,_=>by
  rw[qae]
  have e:bs []++out=out:=by rw[show bs []=ByteArray.empty from rfl,ByteArray.empty_append]
  simp[qag,qjP,digS,e]
 | 0,m+1,out,h,_,_=>by simp at h
 | k+1,m+1,out,h,hk,ho=>by
  have hp:(10:Nat) ^ (k+1)<=10 ^ 18:=Nat.pow_le_pow_right (by omega) hk
  have hd:((m+1:Nat):Int).tmod 10=(((m+1) % 10:Nat):Int):=rfl
  have hq:((m+1:Nat):Int).tdiv 10=(((m+1) / 10:Nat):Int):=rfl
  have hlt:(m+1) % 10<10:=Nat.mod_lt _ (by omega)
  have hx:=qqb _ hlt
  have w1:=qal (((m+1) % 10:Nat)+1:Int) (by omega)
  have w2:IntKind.i64.wrap (((m+1) / 10:Nat):Int)=((m+1) / 10:Nat):=qal _ (by omega)
  have hne : ¬ ((m+1:Nat):Int)=0:=by omega
  have hneg : ¬ (((m+1) % 10:Nat):Int)<0:=by omega
  have ih:=qkT n k ((m+1) / 10) (bs [(48+(m+1) % 10).toUInt8]++out) (by rw[Nat.pow_succ] at h; omega) (by omega) (by rw[ByteArray.size_append,qam]; simp; omega)
  have hres:bs (if (m+1) / 10=0 then [] else qiH k ((m+1) / 10))++(bs [(48+(m+1) % 10).toUInt8]++out)=bs (qiH (k+1) (m+1))++out:=by
   rw[<- ByteArray.append_assoc]
   congr 1
   simp only[qiH]
   by_cases h10:m+1<10
   ·rw[if_pos h10,if_pos (by omega),Nat.mod_eq_of_lt h10]
    rfl
   ·rw[if_neg h10,if_neg (by omega)]
    rfl
  rw[hres] at ih
  rw[if_neg (by omega),<- ih]
  generalize hd2:(m+1) % 10=d at *
  generalize hq2:(m+1) / 10=q at *
  generalize hm:m+1=M at *
  have hM : ¬ M=0:=by omega
  have b1:(d:Int)<=digS.size:=by rw[show digS.size=10 from rfl]; omega
  have b2:(d:Int)+1<=digS.size:=by rw[show digS.size=10 from rfl]; omega
  have b3:(0:Int)<=(d:Int)+1:=by omega
  have b4:((d:Int)+1).toNat=d+1:=by omega
  have b5:(d:Int)<=(d:Int)+1:=by omega
  have hsz : ¬ (9223372036854775807:Int)<((bs [(48+d).toUInt8]).size:Int)+out.size:=by rw[qam]; simp; omega
  generalize digS=ds at *
  generalize bs [(48+d).toUInt8]=ch at *
  conv=>lhs; rw[qae]
  simp[qag,qjP,qbD,bound,hd,hq,hne,hneg,w1,w2,b1,b2,b3,b4,b5,hx,hsz,hM]
theorem qmJ {n:Nat} (h:n<10 ^ 18):Z tS (.call 20 [.int n] [])=some (.ret (.str (bs (qjX n))) []):=by
 refine qaa (pf:=F20) rfl rfl ?_
 by_cases h0:n=0
 ·subst h0
  simp[F20,qjX,qiH,bs]
 ·have hne : ¬ (n:Int)=0:=by omega
  have hneg : ¬ (n:Int)<0:=by omega
  have z:=qkT n 18 n ⟨#[]⟩ h (by omega) (by decide)
  rw[if_neg h0] at z
  have e : ∀ (k j n:Nat),n<10 ^ k->1<=k->qiH (k+j) n=qiH k n:=fun k=>by
   induction k with
   | zero=>intro j n _ h; omega
   | succ k ih=>
    intro j n hn _
    rw[show k+1+j=(k+j)+1 by omega]
    simp only[qiH]
    split
    ·rfl
    ·rename_i h10
     have hk:1<=k:=by
      rcases k with _ | k
      ·simp at hn; omega
      ·omega
     rw[ih j (n / 10) (by rw[Nat.pow_succ] at hn; omega) hk]
  have e2:bs (qiH 18 n)++⟨#[]⟩=bs (qjX n):=by
   rw[show qjX n=qiH (18+2) n from rfl,e 18 2 n h (by omega)]
   exact ByteArray.append_empty
  rw[e2] at z
  simp only[digS] at z
  simp[F20,h0,hne,hneg,z]
end Go.Pm
end SJr
