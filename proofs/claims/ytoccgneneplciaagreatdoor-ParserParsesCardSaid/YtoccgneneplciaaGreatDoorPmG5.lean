/- Chapter 13's generator: whole programs. -/
import Derived.Test.YtoccgneneplciaaGreatDoorPmAL
import Derived.Test.YtoccgneneplciaaGreatDoorPmUc
import Derived.Test.YtoccgneneplciaaGreatDoorPmEt
import Derived.Test.YtoccgneneplciaaGreatDoorPmF3
import Derived.Laws.BitsAllLaws
import Derived.Laws.Bits64
set_option linter.unusedSimpArgs false
set_option linter.unusedVariables false
set_option maxHeartbeats 4000000
namespace Go.Pm
section
open F
theorem qvJ(o:Option Addr)(m:Int)(hm:0<=m):Z qby (.call 23 [.dat (.lit (.slice o 0 0)),.int m] [])=some (.ret (.dat (qeB [])) []):=by
 refine Z_call (pf:=F23) rfl rfl ?_
 have h : ¬ m<0:=by omega
 simp[F23,V.len,qo1,ql7,h,qeT,bound,qbD,qjv,qeB]
theorem qpl(xs:List Int)(k:Nat):(qcP xs).take k=qcP (xs.take k):=by simp[qcP,List.map_take]
theorem qvK(xs:List Int)(k:Nat)(hk:k<=1000):Z qby (.call 23 [.dat (.sl (qcP xs) xs.length false),.int k] [])=some (.ret (.dat (qeB (xs.take k))) []):=by
 refine Z_call (pf:=F23) rfl rfl ?_
 have hl:(qcP xs).length=xs.length:=by simp[qcP]
 have key : ∃ m:Nat,(if k<xs.length then (k:Int) else (xs.length:Int))=(m:Int)/\m<=xs.length/\m<=1000/\xs.take k=xs.take m/\(xs.take m).length=m:=by
  by_cases h:k<xs.length
  ·exact⟨k,by simp[h],by omega,hk,rfl,by simp; omega⟩
  ·exact⟨xs.length,by simp[h],Wl _,by omega,by rw[WE (by omega),WE (Wl _)],by simp⟩
 obtain⟨m,e1,e2,e3,e4,e5⟩:=key
 rw[e4]
 cases hm:xs.take m with
 |nil=>
  rw[hm] at e5
  simp at e5
  subst e5
  simp[F23,V.len,qo1,ql7,e1,qeT,bound,qbD,qjv,qeB,hl]
 |cons y ys=>
  have hm':=e5
  rw[hm] at hm'
  simp only[Wj] at hm'
  have hne:m≠0:=by omega
  have hr:qaI m 8=true:=by simp[qaI]; omega
  have ht:(qcP xs).take m=qcP (y::ys):=by rw[qpl,hm]
  have hlen:(qcP (y::ys)).length=m:=by simp[qcP]; omega
  simp[F23,V.len,qo1,ql7,e1,qeT,bound,qbD,qjv,qeB,hl,e2,ht,hlen,hne,hr,hm']
theorem qxW{v:D}{xs:List Int}(h:RowV v xs)(k:Nat)(hk:k<=1000):Z qby (.call 23 [.dat v,.int k] [])=some (.ret (.dat (qeB (xs.take k))) []):=by
 rcases h with ⟨o,rfl,rfl⟩|rfl
 ·simpa using qvJ o k (by omega)
 ·exact qvK xs k hk
def Hd.ss:Hd->Ss
 |.none => .nil
 |.some _ b=>b
structure Hd.fine(h:Hd):Prop where
 fine:h.ss.fine
 size:h.ss.fo.size<=2000
def Hd.cost:Hd->Nat
 |.none=>0
 |.some _ b=>12+b.cost
structure Hd.gen(h:Hd):Prop extends h.fine where
 f:h.f=false
 dp:h.ss.dp<=2
 edp:h.ss.edp<=3
 gsize:h.ss.fo.size<=1260
theorem qlq:Hd.none.gen:=⟨⟨trivial,WP _⟩,rfl,WP _,WP _,WP _⟩
abbrev z12:Ob := .cells [.int 0,.int 0,.str ⟨#[]⟩,.dat (.lit (.slice none 0 0)),.int 0,.int 0,.str ⟨#[]⟩,.dat (.lit (.slice none 0 0)),.int 0,.int 0,.str ⟨#[]⟩,.dat (.lit (.slice none 0 0))]
abbrev tst(xs:List Int)(i:Int)(a b c:Nd):S:=[z12,.cells [.dat (qeB xs),.int i],qnv a b c]
abbrev tfr(h:Int):Fr:=[(2,.ptr 0 0),(3,.ptr 1 0),(4,.ptr 2 0),(5,.int h)]
section
variable{xs:List Int}{i:Int}{a b c:Nd}
theorem qzL:Z qby (.loop 0 F123l0 (tfr 3) (tst xs i a b c))=some (.out (.exit 0) (tfr 3++[(11,.bool false)]) (tst xs i a b c)):=by
 rw[qab]
 simp[qaa,qcX,Wa]
theorem qvL(hx : ∀ x∈xs,I64 x)(hl:xs.length<=100)(hi:0<=i/\i<=100) : ∃ (g:Hd) (i':Int),g.gen/\(0<=i'/\i'<=100)/\Co 0 g.cost xs i i'/\Z qby (.loop 0 F123l0 (tfr 0) (tst xs i Hd.none.nd b c))=Z qby (.loop 0 F123l0 (tfr 1) (tst xs i' g.nd b c)):=by
 have n1:=qbs (i:=i) (m:=4) hx (qbC hl) hi (by omega)
 have r1:=qaz hi (qbC hl)
 have w1:=qae 1 (by omega)
 by_cases h2:0<qaE xs i 4
 ·obtain⟨q,i',k1,k2,k3⟩:=(qyz hx hl 2 (by omega)).2 _ r1 3 (by omega) (by omega)
  have hs:ssz 2=420:=rfl
  rw[show ((2:Nat):Int).toNat=2 from rfl,show (3:Int).toNat=3 from rfl,hs] at k1
  have hco:Co 0 (Hd.cost (.some false q)) xs i i':=by
   obtain⟨u1,u2,u3⟩:=k1.2.2.2.2
   show _/\_/\((12+q.cost:Nat):Int)<=_
   rcases qaw xs i with ⟨e1,l1⟩|⟨e1,l1⟩
   ·omega
   ·exact absurd (l1 4) (by omega)
  refine⟨.some false q,i',⟨⟨k1.1,by show q.fo.size<=2000; have:=k1.2.2.2.1; omega⟩,rfl,k1.2.1,k1.2.2.1,k1.2.2.2.1⟩,k2,hco,?_⟩
  simp at k3
  conv=>lhs; rw[qab]
  simp[qaa,qcX,n1,h2,k3,w1,Nd.d,Hd.k,Hd.f,Hd.ks,tfr,tst,qnv,Wa]
 ·have hco:Co 0 (Hd.cost .none) xs i (qaH xs i):=by
   show _/\_/\((0:Nat):Int)<=_
   rcases qaw xs i with ⟨e1,l1⟩|⟨e1,l1⟩<;>omega
  refine⟨.none,_,qlq,r1,hco,?_⟩
  conv=>lhs; rw[qab]
  simp[qaa,qcX,n1,h2,w1,Nd.d,Hd.k,Hd.f,Hd.ks,tfr,tst,qnv,Wa]
theorem qvM(hx : ∀ x∈xs,I64 x)(hl:xs.length<=100)(hi:0<=i/\i<=100) : ∃ (g:Hd) (i':Int),g.gen/\(0<=i'/\i'<=100)/\Co 0 g.cost xs i i'/\Z qby (.loop 0 F123l0 (tfr 1) (tst xs i a Hd.none.nd c))=Z qby (.loop 0 F123l0 (tfr 2) (tst xs i' a g.nd c)):=by
 have n1:=qbs (i:=i) (m:=4) hx (qbC hl) hi (by omega)
 have r1:=qaz hi (qbC hl)
 have w1:=qae 2 (by omega)
 by_cases h2:0<qaE xs i 4
 ·obtain⟨q,i',k1,k2,k3⟩:=(qyz hx hl 2 (by omega)).2 _ r1 3 (by omega) (by omega)
  have hs:ssz 2=420:=rfl
  rw[show ((2:Nat):Int).toNat=2 from rfl,show (3:Int).toNat=3 from rfl,hs] at k1
  have hco:Co 0 (Hd.cost (.some false q)) xs i i':=by
   obtain⟨u1,u2,u3⟩:=k1.2.2.2.2
   show _/\_/\((12+q.cost:Nat):Int)<=_
   rcases qaw xs i with ⟨e1,l1⟩|⟨e1,l1⟩
   ·omega
   ·exact absurd (l1 4) (by omega)
  refine⟨.some false q,i',⟨⟨k1.1,by show q.fo.size<=2000; have:=k1.2.2.2.1; omega⟩,rfl,k1.2.1,k1.2.2.1,k1.2.2.2.1⟩,k2,hco,?_⟩
  simp at k3
  conv=>lhs; rw[qab]
  simp[qaa,qcX,n1,h2,k3,w1,Nd.d,Hd.k,Hd.f,Hd.ks,tfr,tst,qnv,Wa]
 ·have hco:Co 0 (Hd.cost .none) xs i (qaH xs i):=by
   show _/\_/\((0:Nat):Int)<=_
   rcases qaw xs i with ⟨e1,l1⟩|⟨e1,l1⟩<;>omega
  refine⟨.none,_,qlq,r1,hco,?_⟩
  conv=>lhs; rw[qab]
  simp[qaa,qcX,n1,h2,w1,Nd.d,Hd.k,Hd.f,Hd.ks,tfr,tst,qnv,Wa]
theorem qvN(hx : ∀ x∈xs,I64 x)(hl:xs.length<=100)(hi:0<=i/\i<=100) : ∃ (g:Hd) (i':Int),g.gen/\(0<=i'/\i'<=100)/\Co 0 g.cost xs i i'/\Z qby (.loop 0 F123l0 (tfr 2) (tst xs i a b Hd.none.nd))=Z qby (.loop 0 F123l0 (tfr 3) (tst xs i' a b g.nd)):=by
 have n1:=qbs (i:=i) (m:=4) hx (qbC hl) hi (by omega)
 have r1:=qaz hi (qbC hl)
 have w1:=qae 3 (by omega)
 by_cases h2:0<qaE xs i 4
 ·obtain⟨q,i',k1,k2,k3⟩:=(qyz hx hl 2 (by omega)).2 _ r1 3 (by omega) (by omega)
  have hs:ssz 2=420:=rfl
  rw[show ((2:Nat):Int).toNat=2 from rfl,show (3:Int).toNat=3 from rfl,hs] at k1
  have hco:Co 0 (Hd.cost (.some false q)) xs i i':=by
   obtain⟨u1,u2,u3⟩:=k1.2.2.2.2
   show _/\_/\((12+q.cost:Nat):Int)<=_
   rcases qaw xs i with ⟨e1,l1⟩|⟨e1,l1⟩
   ·omega
   ·exact absurd (l1 4) (by omega)
  refine⟨.some false q,i',⟨⟨k1.1,by show q.fo.size<=2000; have:=k1.2.2.2.1; omega⟩,rfl,k1.2.1,k1.2.2.1,k1.2.2.2.1⟩,k2,hco,?_⟩
  simp at k3
  conv=>lhs; rw[qab]
  simp[qaa,qcX,n1,h2,k3,w1,Nd.d,Hd.k,Hd.f,Hd.ks,tfr,tst,qnv,Wa]
 ·have hco:Co 0 (Hd.cost .none) xs i (qaH xs i):=by
   show _/\_/\((0:Nat):Int)<=_
   rcases qaw xs i with ⟨e1,l1⟩|⟨e1,l1⟩<;>omega
  refine⟨.none,_,qlq,r1,hco,?_⟩
  conv=>lhs; rw[qab]
  simp[qaa,qcX,n1,h2,w1,Nd.d,Hd.k,Hd.f,Hd.ks,tfr,tst,qnv,Wa]
end
theorem qpm{v:D}{xs:List Int}(h:RowV v xs)(hx : ∀ x∈xs,I64 x) : ∃ a b c:Hd,a.gen/\b.gen/\(c.gen/\a.cost+(b.cost+c.cost)<=1440)/\Z qby (.call 123 [.dat v] [])=some (.ret (.dat (ru a.nd b.nd c.nd)) []):=by
 have hx' : ∀ x∈xs.take 60,I64 x:=fun x hm=>hx x (Yp hm)
 have hl':(xs.take 60).length<=100:=by simp; omega
 have n0:=qxW h 60 (by omega)
 obtain⟨a,i1,a1,a2,a3,a4⟩:=qvL (i:=0) (b:=Hd.none.nd) (c:=Hd.none.nd) hx' hl' (by omega)
 obtain⟨b,i2,b1,b2,b3,b4⟩:=qvM (i:=i1) (a:=a.nd) (c:=Hd.none.nd) hx' hl' a2
 obtain⟨c,i3,c1,c2,c3,c4⟩:=qvN (i:=i2) (a:=a.nd) (b:=b.nd) hx' hl' b2
 have hl:=a4.trans (b4.trans (c4.trans qzL))
 have hcost:a.cost+(b.cost+c.cost)<=1440:=by
  obtain⟨p1,p2,p3⟩:=a3
  obtain⟨q1,q2,q3⟩:=b3
  obtain⟨r1,r2,r3⟩:=c3
  have:(xs.take 60).length<=60:=by simp; omega
  omega
 refine⟨a,b,c,a1,b1,⟨c1,hcost⟩,?_⟩
 refine Z_call (pf:=F123) rfl rfl ?_
 simp only[tfr,tst,qnv,Nd.d,qAG,qAH,qAI,qAJ,qzW,Wf,Wc,show Hd.k .none=0 from rfl,show Hd.f .none=false from rfl,show Hd.ks .none = .nil from rfl,z12,qaZ,qaF,qvR] at hl
 simp at n0 hl
 simp[F123,n0,hl,ru,Nd.d,Wa]
end
section
theorem qjd(f fi fb g gi gb:Bool)(s:ByteArray):qbK f fi fb s=(qbK g gi gb s).map (qis f fi fb):=by
 by_cases hbig:2000<s.size
 ·rw[qbK,if_pos hbig,qbK,if_pos hbig]; rfl
 ·have h1:=qcD (f:=f) (fi:=fi) (fb:=fb) hbig
  have h2:=qcD (f:=g) (fi:=gi) (fb:=gb) hbig
  have h3:=qrK 12 2 f g fi fb gi gb 4 (10*(qh7 s).length+10) (fun _=>none) (qh7 s)
  rw[show qis f fi fb (fun _=>none)=fun _=>none from rfl,h1,h2] at h3
  simpa using h3
theorem qmz{f fi fb:Bool}{s:ByteArray}{a c:Nat}(h:qbK f fi fb s = .er a c):c≠0:=by
 by_cases hbig:2000<s.size
 ·rw[qbK,if_pos hbig] at h; cases h; omega
 ·have hn:=qpF f fi fb (10*(qh7 s).length+10) (fun _=>none) (qh7 s)
  rw[qcD hbig,h] at hn
  exact hn
def wt:List ByteArray->Nat
 |[]=>0
 |t::l=>t.size+1+wt l
theorem qfj(a b:List ByteArray):wt (a++b)=wt a+wt b:=by
 induction a with
 |nil=>simp[wt]
 |cons t a ih=>simp only[Wf,wt,ih]; omega
theorem qq1 : ∀ (l:List ByteArray) (p:Bool),(qao p l).length<=wt l
 |[],p=>by simp[qao,wt]
 |t::l,p=>by
  have h1:=qq1 l (qbx p t)
  have h2:=qat t
  have h3:(gap p t).length<=1:=by unfold gap; split<;>simp
  simp only[qao,Wr,wt]
  omega
theorem qoy(b:Bool)(l:List ByteArray):wt (qbB b l)<=wt l+4:=by
 cases b with
 |false=>simp[qbB]
 |true=>
  have:wt (qbB true l)=2+(wt l+2):=by
   show wt (bs [40]::(l++[bs [41]]))=_
   rw[wt,qfj]
   rfl
  omega
theorem qjG(full:Bool) : ∀ (e:E) p,wt (e.tx full p)<=e.cost
 |.int n,p=>by simp[E.tx,wt,E.cost,qav]
 |.bool n,p=>by
  simp only[E.tx,wt,E.cost]
  split<;>simp[qdX,qgP,qav]
 |.var s,p=>by simp[E.tx,wt,E.cost]
 |.name s,p=>by simp[E.tx,wt,E.cost]
 |.field _ s e,p=>by
  have:=qjG full e 1
  simp only[E.tx,wt,qfj,E.cost,qav,Wj,Wu]
  omega
 |.un _ neg e,p=>by
  have h1:=qjG full e (qdc neg)
  have h2:=qoy (full||decide (qdc neg<p)) (ustr neg::e.tx full (qdc neg))
  have h3:(ustr neg).size=1:=by cases neg<;>rfl
  simp only[E.tx,E.cost]
  rw[wt,h3] at h2
  omega
 |.bin _ o a b,p=>by
  have h1:=qjG full a o.left
  have h2:=qjG full b (o.prec+1)
  have h3:=qoy (full||decide (o.prec<p)) (a.tx full o.left++o.str::b.tx full (o.prec+1))
  simp only[E.tx,E.cost]
  rw[qfj,wt] at h3
  omega
theorem qlk : ∀ s:Ss,wt s.tx<=s.cost
 |.nil=>Wl _
 |.assign _ s e r=>by
  have h1:=qjG false e 1
  have h2:=qlk r
  simp only[Ss.tx,wt,qfj,Ss.cost,qav,Wj,Wu]
  omega
 |.store _ s a b r=>by
  have h1:=qjG false a 1
  have h3:=qjG false b 1
  have h2:=qlk r
  simp only[Ss.tx,wt,qfj,Ss.cost,qav,Wj,Wu]
  omega
 |.effect _ a b r=>by
  have h1:=qjG false a 1
  have h3:=qjG false b 1
  have h2:=qlk r
  simp only[Ss.tx,wt,qfj,Ss.cost,qnl,qav,Wj,Wu]
  omega
 |.stop r=>by
  have h2:=qlk r
  simp only[Ss.tx,wt,qfj,Ss.cost,qvd,qav,Wj,Wu]
  omega
 |.cond w _ c b r=>by
  have h1:=qjG false c 1
  have h3:=qlk b
  have h2:=qlk r
  cases w<;>simp only[Ss.tx,wt,qfj,Ss.cost,qqK,ifS,qav,Wj,Wu,if_true,Wm,if_false]<;>omega
 |.block _ b r=>by
  have h3:=qlk b
  have h2:=qlk r
  simp only[Ss.tx,wt,qfj,Ss.cost,qav,Wj,Wu]
  split
  ·simp only[wt,qlc,qav,Wj,Wu]; omega
  ·simp only[wt]; omega
theorem qio{s:ByteArray}(h:s∈qx3):qsN s/\s.size<=3:=by
 simp only[qx3,qps,Wf,Wc,Ws,WA,or_false] at h
 have key : ∀ (c:UInt8) (r:List UInt8),qaG c=true->(∀ b∈r,qaq b=true)->(c::r).length<=8->Tg (byl (bs (c::r))):=fun c r h1 h2 h3=>qqz h1 h2 h3
 rcases h with rfl|rfl|rfl|rfl|rfl
 ·exact⟨⟨key 105 [] (by decide) (by decide) (by decide),by decide,by decide,by decide⟩,by decide⟩
 ·exact⟨⟨key 110 [] (by decide) (by decide) (by decide),by decide,by decide,by decide⟩,by decide⟩
 ·exact⟨⟨key 115 [117,109] (by decide) (by decide) (by decide),by decide,by decide,by decide⟩,by decide⟩
 ·exact⟨⟨key 118 [51] (by decide) (by decide) (by decide),by decide,by decide,by decide⟩,by decide⟩
 ·exact⟨⟨key 118 [] (by decide) (by decide) (by decide),by decide,by decide,by decide⟩,by decide⟩
theorem qmA{s:ByteArray}(h:s∈qmF):(s=qxA\/s=qtQ\/s=qi4)/\s.size<=5:=by
 simp only[qmF,Ws,WA,or_false] at h
 rcases h with rfl|rfl|rfl
 ·exact⟨.inl rfl,by decide⟩
 ·exact⟨.inr (.inl rfl),by decide⟩
 ·exact⟨.inr (.inr rfl),by decide⟩
theorem qfI{s:ByteArray}(h:s∈qgZ):s∈fieldNames/\s.size<=5:=by
 simp only[qgZ,qh8,Wf,Wc,Ws,WA,or_false] at h
 rcases h with rfl|rfl|rfl|rfl|rfl|rfl|rfl|rfl<;>exact⟨by decide,by decide⟩
theorem qs6{n:Nat}(h:n<=2147483647):(decB n).length<=10:=qk0 20 n 9 (by omega)
theorem qbV : ∀ e:E,e.fine->e.good
 |.int n,h=>h
 |.bool n,h=>h
 |.var s,h=>(qio h).1
 |.name s,h=>(qmA h).1
 |.field _ s e,h=>⟨(qfI h.1).1,qbV e h.2.1⟩
 |.un _ neg e,h=>qbV e h.1
 |.bin _ o a b,h=>⟨qbV a h.1,qbV b h.2.1⟩
theorem qdd(full:Bool) : ∀ (e:E) p,e.nest full p<=2*e.dp
 |.int n,p | .bool n,p | .var s,p | .name s,p=>by simp[E.nest]
 |.field _ s e,p=>by have:=qdd full e 1; simp only[E.nest,E.dp]; omega
 |.un _ neg e,p=>by have:=qdd full e (qdc neg); simp only[E.nest,E.dp]; split<;>omega
 |.bin _ o a b,p=>by have h1:=qdd full a o.left; have h2:=qdd full b (o.prec+1); simp only[E.nest,E.dp]; split<;>omega
theorem qbW : ∀ e:E,e.fine->e.cost<=12*e.size
 |.int n,h=>by have:=qs6 (n:=n.toNat) (by have:=h.2; omega); simp only[E.cost,qti]; omega
 |.bool n,h=>by simp only[E.cost,qri]; split<;>omega
 |.var s,h=>by have:=(qio h).2; simp only[E.cost,qtj]; omega
 |.name s,h=>by have:=(qmA h).2; simp only[E.cost,qrj]; omega
 |.field _ s e,h=>by have h1:=(qfI h.1).2; have h2:=qbW e h.2.1; simp only[E.cost,qkn]; omega
 |.un _ neg e,h=>by have h2:=qbW e h.1; simp only[E.cost,qlu]; omega
 |.bin _ o a b,h=>by
  have h1:=qbW a h.1
  have h2:=qbW b h.2.1
  have h3:o.str.size<=2:=by cases o<;>decide
  simp only[E.cost,qgX]
  omega
theorem qki{s:ByteArray}(h:s∈qh8):s∈qgZ:=YI _ h
theorem qph(s:Ss):s.fine->s.good none:=by
 fun_induction Ss.fine s with
 |case1=>intro _; exact .inl rfl
 |case2 _ s e r ih=>intro h; exact⟨rfl,(qio h.1.1).1,qbV e h.1.2.1,ih h.2⟩
 |case3 _ s a b r ih=>intro h; exact⟨rfl,(qfI (qki h.1.1)).1,qbV a h.1.2.1,qbV b h.1.2.2.2.1,ih h.2⟩
 |case4 _ a b r ih=>intro h; exact⟨rfl,qbV a h.1.1,qbV b h.1.2.2.1,ih h.2⟩
 |case5 r ih=>intro h; exact⟨rfl,ih h⟩
 |case6 _ c _ x _ y r ih1 ih2 ih3=>intro h; exact⟨rfl,qbV c h.1.1,⟨1,rfl,ih1 h.2.1,⟨0,rfl,ih2 h.2.2.1,.inr rfl⟩⟩,ih3 h.2.2.2⟩
 |case7 _ c _ x r ih1 ih2=>intro h; exact⟨rfl,qbV c h.1.1,⟨0,rfl,ih1 h.2.1,.inr rfl⟩,ih2 h.2.2⟩
 |case8=>intro h; exact h.elim
theorem qdC : ∀ s:Ss,s.nest<=2*s.edp+1+s.dp
 |.nil=>by simp[Ss.nest]
 |.assign _ s e r=>by have h1:=qdd false e 1; have h2:=qdC r; simp only[Ss.nest,Ss.edp,Ss.dp]; omega
 |.store _ s a b r=>by have h1:=qdd false a 1; have h3:=qdd false b 1; have h2:=qdC r; simp only[Ss.nest,Ss.edp,Ss.dp]; omega
 |.effect _ a b r=>by have h1:=qdd false a 1; have h3:=qdd false b 1; have h2:=qdC r; simp only[Ss.nest,Ss.edp,Ss.dp]; omega
 |.stop r=>by have h2:=qdC r; simp only[Ss.nest,Ss.edp,Ss.dp]; omega
 |.cond _ _ c b r=>by have h1:=qdd false c 1; have h3:=qdC b; have h2:=qdC r; simp only[Ss.nest,Ss.edp,Ss.dp]; omega
 |.block _ b r=>by have h3:=qdC b; have h2:=qdC r; simp only[Ss.nest,Ss.edp,Ss.dp]; omega
theorem qpi(s:Ss):s.fine->s.cost<=20*s.fo.size:=by
 have hsz : ∀ {s:ByteArray},s∈qh8->s.size<=5:=fun h=>(qfI (qki h)).2
 fun_induction Ss.fine s with
 |case1=>intro _; simp[Ss.cost]
 |case2 _ s e r ih=>
  intro h
  have h1:=ih h.2; have h2:=qbW e h.1.2.1; have h3:=(qio h.1.1).2
  simp only[Ss.cost,Ss.fo,qaT,qct,qa5]; omega
 |case3 _ s a b r ih=>
  intro h
  have h1:=ih h.2; have h2:=qbW a h.1.2.1; have h4:=qbW b h.1.2.2.2.1; have h3:=hsz h.1.1
  simp only[Ss.cost,Ss.fo,qaT,qct,qa5]; omega
 |case4 _ a b r ih=>
  intro h
  have h1:=ih h.2; have h2:=qbW a h.1.1; have h4:=qbW b h.1.2.2.1
  simp only[Ss.cost,Ss.fo,qaT,qct,qa5]; omega
 |case5 r ih=>
  intro h
  have h1:=ih h
  simp only[Ss.cost,Ss.fo,qaT,qa5]; omega
 |case6 _ c _ x _ y r ih1 ih2 ih3=>
  intro h
  have h1:=ih1 h.2.1; have h2:=ih2 h.2.2.1; have h3:=ih3 h.2.2.2; have h4:=qbW c h.1.1
  have h5 : ∀ q:Bool,(if q=true then 5 else 0)<=5:=fun q=>by cases q<;>simp
  have h6:=h5 (qcx (.block ‹Bool› y .nil))
  have h7:qcx .nil=false:=rfl
  simp only[Ss.cost,Ss.fo,qaT,qct,qa5,Wm,if_false,h7]
  have h8 : ∀ q,qcx (.block q y .nil)=qcx (.block false y .nil):=fun q=>by cases y<;>rfl
  simp only[h8] at h6 ⊢
  omega
 |case7 _ c _ x r ih1 ih2=>
  intro h
  have h1:=ih1 h.2.1; have h2:=ih2 h.2.2; have h4:=qbW c h.1.1
  simp only[Ss.cost,Ss.fo,qaT,qct,qa5,if_true,qcx,Wm,if_false]
  omega
 |case8=>intro h; exact h.elim
theorem qll{h:Hd}(hg:h.gen):qcI h.opt:=by
 cases h with
 |none=>intro b hb; cases hb
 |some f b=>
  intro x hx
  cases hx
  have h1:=hg.dp
  have h2:=hg.edp
  have h3:=qdC b
  simp only[Hd.ss] at h1 h2
  exact⟨qph b hg.fine,by omega⟩
theorem qq2{a b c:Hd}(ha:a.gen)(hb:b.gen)(hc:c.gen) : ∀ k,qcI (Hd.opts a b c k)
 |0=>qll ha
 |1=>qll hb
 |_+2=>qll hc
theorem qvE(k:Nat)(h:Hd):wt (qdV k h.opt)<=h.cost:=by
 cases h with
 |none=>simp[Hd.opt,qdV,wt]
 |some f b=>
  have:=qlk b
  have hk:(qcb k).size<=4:=by unfold qcb; split<;>decide
  simp only[Hd.opt,qdV,wt,qfj,Hd.cost,onS,qav,Wj,Wu]
  omega
theorem qoz(a b c:Hd):(qao false (qa0 (Hd.opts a b c))).length<=a.cost+(b.cost+c.cost):=by
 refine Yf (qq1 (qa0 (Hd.opts a b c)) false) ?_
 simp only[qa0,qfj]
 exact Nat.add_le_add (qvE 0 a) (Nat.add_le_add (qvE 1 b) (qvE 2 c))
theorem qlm{h:Hd}(hg:h.gen):h.cost<=25300:=by
 cases h with
 |none=>simp[Hd.cost]
 |some f b=>
  have h1:=hg.gsize
  have h2:=qpi b hg.fine
  simp only[Hd.ss] at h1
  simp only[Hd.cost]
  omega
end
end Go.Pm
section
namespace Go.Pm.F
variable(C:Task->Option Res)(q:Nat)(fr:Fr)(σ : S)
def F226:PFun:=⟨4,[.tmp 8],.seq (rn [jj 8 (.mov (.c (.string ⟨#[]⟩)))] [0,1,2,3]) (.seq (rn [mv 10 1,mv 11 0,lz 12 11,bk 13 .add 12 1,cl 14 17 [10,13],mv 9 14] [0,2,3,9]) (.seq (.seq (rn [mv 15 9,mv 16 0,lz 17 16,bn 18 .eql 15 17] [0,2,3,9,18]) (.cond (.t 18) (.seq (rn [mv 19 0,mv 20 3,jj 21 (.bslice 1 [(.lit (.int .u8 0))] [(0,1,(.t 20))]),jj 22 (.bstr (.t 21)),bn 23 .add 19 22,mv 8 23] [8]) (.ret)) (.skip))) (.seq (.seq (rn [mv 24 2,jj 25 (.call 17 [(.t 24),(kk 4)])] [0,3,9,25]) (.block 0 (.seq (rn [bk 27 .eql 25 0,mv 26 27] [0,3,9,25,26]) (.cond (.t 26) (.seq (.region (some []) [mv 28 0,mv 29 9,jj 30 (.sliceS (.t 28) none (some (.t 29))),mv 31 3,jj 32 (.bslice 1 [(.lit (.int .u8 0))] [(0,1,(.t 31))]),jj 33 (.bstr (.t 32)),bn 34 .add 30 33,mv 35 0,mv 36 9,bk 37 .add 36 1,jj 38 (.sliceS (.t 35) (some (.t 37)) none),bn 39 .add 34 38,mv 8 39] [8]) (.ret)) (.seq (rn [bk 41 .eql 25 1,mv 40 41] [0,3,9,25,40]) (.cond (.t 40) (.seq (.region (some []) [mv 42 0,mv 43 9,jj 44 (.sliceS (.t 42) none (some (.t 43))),mv 45 0,mv 46 9,bk 47 .add 46 1,jj 48 (.sliceS (.t 45) (some (.t 47)) none),bn 49 .add 44 48,mv 8 49] [8]) (.ret)) (.seq (rn [bk 51 .eql 25 2,mv 50 51] [0,3,9,50]) (.cond (.t 50) (.seq (rn [mv 52 0,mv 53 9,jj 54 (.sliceS (.t 52) none (some (.t 53))),mv 8 54] [8]) (.ret)) (.skip))))))))) (.seq (.region (some []) [mv 55 0,mv 56 9,jj 57 (.sliceS (.t 55) none (some (.t 56))),mv 58 3,jj 59 (.bslice 1 [(.lit (.int .u8 0))] [(0,1,(.t 58))]),jj 60 (.bstr (.t 59)),bn 61 .add 57 60,mv 62 0,mv 63 9,jj 64 (.sliceS (.t 62) (some (.t 63)) none),bn 65 .add 61 64,mv 8 65] [8]) (.ret))))),false,false,false⟩
def F227:PFun:=⟨1,[.tmp 2],.seq (rn [jj 2 (.mov (.c (.string ⟨#[]⟩)))] [0]) (.seq (rn [mv 3 0,cl 4 123 [3],cl 5 236 [4],mv 2 5] [2]) (.ret)),false,false,false⟩
def F234:PFun:=⟨1,[.tmp 2],.seq (rn [bx 1 0,jj 2 (.mov (.c (.string ⟨#[]⟩)))] [1]) (.seq (rn [la 3 4 1,jj 4 (.call 246 [(.t 3),(kk 1),kF]),mv 2 4] [2]) (.ret)),false,false,false⟩
@[simp] def F236l0x:PC:=(.seq (.seq (rn [mv 5 4,bk 6 .lss 5 3] [1,3,4,6]) (.cond (.t 6) (.skip) (.exit 0))) (.seq (.block 1 (.seq (rn [mv 9 4,fa 10 0 1,jj 11 (.indexAddrA 3 4 (.t 10) (.t 9)),fa 12 0 11,l1 13 12,bk 14 .neq 13 0] [1,3,4,14]) (.cond (.t 14) (.region (some []) [mv 15 3,jj 16 (.call 152 []),mv 17 4,jj 18 (.indexAddr 1 (.t 16) (.t 17)),⟨some 19,.load false 1 (.t 18),none,[9]⟩,mv 20 4,fa 21 0 1,jj 22 (.indexAddrA 3 4 (.t 21) (.t 20)),⟨some 23,.load true 4 (.t 22),none,[1]⟩,cl 24 248 [23],jj 25 (.bslice 4 [eN,eN,eN,eN] [(0,1,(.t 15)),(1,1,(.c (.string ⟨#[111,110]⟩))),(2,1,(.t 19)),(3,1,(.t 24))]),cl 26 247 [25],mv 3 26] [1,3,4] [9,11]) (.skip)))) (rn [mv 7 4,bk 8 .add 7 1,mv 4 8] [1,3,4])))
def F236l0:PC:=F236l0x
theorem qhx:run C q F236l0 fr σ = run C q F236l0x fr σ := rfl
def F236:PFun:=⟨1,[.tmp 2],.seq (rn [bx 1 0,jj 2 (.mov (.c (.string ⟨#[]⟩)))] [1]) (.seq (rn [jj 3 (.mov (.c (.string ⟨#[]⟩)))] [1,3]) (.seq (.seq (rn [mx 4 (kk 0)] [1,3,4]) (.block 0 (.loop F236l0))) (.seq (rn [mv 27 3,mv 2 27] [2]) (.ret)))),false,false,false⟩
@[simp] def F238l0x:PC:=(.seq (.seq (rn [mv 34 5,fa 35 3 2,l1 36 35,ls 37 36,bn 38 .lss 34 37] [2,3,5,38]) (.cond (.t 38) (.skip) (.exit 0))) (.seq (.block 1 (.seq (.region (some []) [fa 41 3 2,l1 42 41,mv 43 5,jj 44 (.indexAddr 4 (.t 42) (.t 43)),la 45 4 44,fa 46 3 3,l1 47 46,mv 48 5,jj 49 (.indexAddr 4 (.t 47) (.t 48)),la 50 4 49,cl 51 238 [45,50],jj 52 (.un .not (.t 51))] [2,3,5,52] [10]) (.cond (.t 52) (.seq (rn [mx 4 kF] [4]) (.ret)) (.skip)))) (rn [mv 39 5,bk 40 .add 39 1,mv 5 40] [2,3,5])))
def F238l0:PC:=F238l0x
theorem qfP:run C q F238l0 fr σ = run C q F238l0x fr σ := rfl
def F238:PFun:=⟨2,[.tmp 4],.seq (rn [bx 2 0,bx 3 1,mx 4 kF] [2,3]) (.seq (.seq (rn [fa 6 0 2,l1 7 6,fa 8 0 3,l1 9 8,bn 10 .neq 7 9,mv 11 10,jf 12 11 (.fieldAddr 1 (.t 2)),jf 13 11 (.load false 1 (.t 12)),jf 14 11 (.fieldAddr 1 (.t 3)),jf 15 11 (.load false 1 (.t 14)),jf 16 11 (.bin .neq (.t 13) (.t 15)),jj 17 (.pick (.t 11) kT (.t 16)),mv 18 17,jf 19 18 (.fieldAddr 2 (.t 2)),jf 20 18 (.load false 1 (.t 19)),jf 21 18 (.fieldAddr 2 (.t 3)),jf 22 18 (.load false 1 (.t 21)),jf 23 18 (.bin .neq (.t 20) (.t 22)),jj 24 (.pick (.t 18) kT (.t 23)),mv 25 24,jf 26 25 (.fieldAddr 3 (.t 2)),jf 27 25 (.load false 1 (.t 26)),jf 28 25 (.len .sl (.t 27)),jf 29 25 (.fieldAddr 3 (.t 3)),jf 30 25 (.load false 1 (.t 29)),jf 31 25 (.len .sl (.t 30)),jf 32 25 (.bin .neq (.t 28) (.t 31)),jj 33 (.pick (.t 25) kT (.t 32))] [2,3,33]) (.cond (.t 33) (.seq (rn [mx 4 kF] [4]) (.ret)) (.skip))) (.seq (.seq (rn [mx 5 (kk 0)] [2,3,5]) (.block 0 (.loop F238l0))) (.seq (rn [mx 4 kT] [4]) (.ret)))),false,false,false⟩
def F246:PFun:=⟨3,[.tmp 6],.seq (rn [bx 3 0,jj 6 (.mov (.c (.string ⟨#[]⟩)))] [1,2,3]) (.seq (rn [la 10 4 3,cl 11 261 [10],mv 7 11] [1,2,3,7]) (.seq (rn [fa 12 2 3,l1 13 12,mv 8 13] [1,2,3,7,8]) (.seq (.seq (rn [fa 14 0 3,l1 15 14,bk 16 .eql 15 8] [1,2,3,7,8,16]) (.cond (.t 16) (rn [fa 17 1 3,l1 18 17,cl 19 20 [18],mv 8 19] [1,2,3,7,8]) (.skip))) (.seq (.seq (rn [fa 20 0 3,l1 21 20,bk 22 .eql 21 9] [1,2,3,7,8,22]) (.cond (.t 22) (.seq (rn [jj 8 (.mov (.c (.string ⟨#[102,97,108,115,101]⟩)))] [1,2,3,7,8]) (.seq (rn [fa 23 1 3,l1 24 23,bk 25 .eql 24 1] [1,2,3,7,8,25]) (.cond (.t 25) (rn [jj 8 (.mov (.c (.string ⟨#[116,114,117,101]⟩)))] [1,2,3,7,8]) (.skip)))) (.skip))) (.seq (.seq (rn [fa 26 0 3,l1 27 26,bk 28 .eql 27 11] [1,2,3,7,8,28]) (.cond (.t 28) (.region (some []) [fa 29 2 3,⟨some 30,.load false 1 (.t 29),none,[7]⟩,fa 31 3 3,l1 32 31,jj 33 (.indexAddr 4 (.t 32) (kk 0)),la 34 4 33,mv 35 2,jj 36 (.call 246 [(.t 34),(kk 1),(.t 35)]),jj 37 (.bslice 4 [eN,eN,eN,eN] [(0,1,(.t 30)),(1,1,(.c (.string ⟨#[91]⟩))),(2,1,(.t 36)),(3,1,(.c (.string ⟨#[93]⟩)))]),cl 38 247 [37],mv 8 38] [1,2,3,7,8] [7,9]) (.skip))) (.seq (.seq (rn [fa 39 0 3,l1 40 39,bk 41 .eql 40 13] [1,2,3,7,8,41]) (.cond (.t 41) (.region (some []) [fa 42 2 3,⟨some 43,.load false 1 (.t 42),none,[8]⟩,fa 44 3 3,l1 45 44,jj 46 (.indexAddr 4 (.t 45) (kk 0)),la 47 4 46,mv 48 7,mv 49 2,cl 50 246 [47,48,49],jj 51 (.bslice 2 [eN,eN] [(0,1,(.t 43)),(1,1,(.t 50))]),cl 52 247 [51],mv 8 52] [1,2,3,7,8] [8,10]) (.skip))) (.seq (.seq (rn [fa 53 0 3,l1 54 53,bk 55 .eql 54 14] [1,2,3,7,8,55]) (.cond (.t 55) (.seq (rn [mv 56 7,mv 9 56] [1,2,3,7,9]) (.seq (.seq (rn [mv 57 7,bk 58 .eql 57 4] [1,2,3,7,9,58]) (.cond (.t 58) (rn [mx 9 (kk 5)] [1,2,3,7,9]) (.skip))) (.region (some []) [fa 59 3 3,l1 60 59,jj 61 (.indexAddr 4 (.t 60) (kk 0)),la 62 4 61,mv 63 9,mv 64 2,cl 65 246 [62,63,64],fa 66 2 3,⟨some 67,.load false 1 (.t 66),none,[6,16]⟩,fa 68 3 3,⟨some 69,.load false 1 (.t 68),none,[6]⟩,jj 70 (.indexAddr 4 (.t 69) (kk 1)),⟨some 71,.load true 4 (.t 70),none,[6]⟩,mv 72 7,bk 73 .add 72 1,mv 74 2,cl 75 246 [71,73,74],jj 76 (.bslice 3 [eN,eN,eN] [(0,1,(.t 65)),(1,1,(.t 67)),(2,1,(.t 75))]),cl 77 247 [76],mv 8 77] [1,2,7,8] [16,18]))) (.skip))) (.seq (.seq (rn [mv 78 7,mv 79 1,bn 80 .lss 78 79,mv 81 80,jf 82 81 (.mov (.t 2)),jf 83 81 (.mov (.t 82)),jt 84 83 (.mov (.t 7)),jt 85 83 (.bin .lss (.t 84) (kk 8)),jf 86 81 (.pick (.t 83) (.t 85) kF),jj 87 (.pick (.t 81) kT (.t 86))] [8,87]) (.cond (.t 87) (.seq (rn [mv 88 8,jj 89 (.bin .add (.c (.string ⟨#[40]⟩)) (.t 88)),jj 90 (.bin .add (.t 89) (.c (.string ⟨#[41]⟩))),mv 6 90] [6]) (.ret)) (.skip))) (.seq (rn [mv 91 8,mv 6 91] [6]) (.ret)))))))))),false,false,false⟩
@[simp] def F247l0x:PC:=(.seq (.seq (rn [mv 5 4,mv 6 0,ls 7 6,bn 8 .lss 5 7] [0,3,4,8]) (.cond (.t 8) (.skip) (.exit 0))) (.seq (.block 1 (rn [mv 11 3,mv 12 0,mv 13 4,jj 14 (.indexAddr 1 (.t 12) (.t 13)),l1 15 14,cl 16 262 [11,15],mv 3 16] [0,3,4])) (rn [mv 9 4,bk 10 .add 9 1,mv 4 10] [0,3,4])))
def F247l0:PC:=F247l0x
theorem qkq:run C q F247l0 fr σ = run C q F247l0x fr σ := rfl
def F247:PFun:=⟨1,[.tmp 2],.seq (rn [jj 2 (.mov (.c (.string ⟨#[]⟩)))] [0]) (.seq (rn [jj 3 (.mov (.c (.string ⟨#[]⟩)))] [0,3]) (.seq (.seq (rn [mx 4 (kk 0)] [0,3,4]) (.block 0 (.loop F247l0))) (.seq (rn [mv 17 3,mv 2 17] [2]) (.ret)))),false,false,false⟩
@[simp] def F248l0x:PC:=(.seq (.seq (rn [mv 5 4,fa 6 3 1,l1 7 6,ls 8 7,bn 9 .lss 5 8] [1,3,4,9]) (.cond (.t 9) (.skip) (.exit 0))) (.seq (.block 1 (rn [mv 12 3,fa 13 3 1,l1 14 13,mv 15 4,jj 16 (.indexAddr 4 (.t 14) (.t 15)),la 17 4 16,cl 18 263 [17],cl 19 262 [12,18],mv 3 19] [1,3,4])) (rn [mv 10 4,bk 11 .add 10 1,mv 4 11] [1,3,4])))
def F248l0:PC:=F248l0x
theorem qhy:run C q F248l0 fr σ = run C q F248l0x fr σ := rfl
def F248:PFun:=⟨1,[.tmp 2],.seq (rn [bx 1 0,jj 2 (.mov (.c (.string ⟨#[]⟩)))] [1]) (.seq (rn [jj 3 (.mov (.c (.string ⟨#[123]⟩)))] [1,3]) (.seq (.seq (rn [mx 4 (kk 0)] [1,3,4]) (.block 0 (.loop F248l0))) (.seq (rn [mv 20 3,jj 21 (.bin .add (.t 20) (.c (.string ⟨#[125]⟩))),mv 2 21] [2]) (.ret)))),false,false,false⟩
def F261:PFun:=⟨1,[.tmp 2],.seq (rn [bx 1 0,mx 2 (kk 0)] [1]) (.seq (.seq (rn [fa 3 0 1,l1 4 3,bk 5 .eql 4 13] [1,5]) (.cond (.t 5) (.seq (.seq (rn [fa 6 2 1,l1 7 6,jj 8 (.bin .eql (.t 7) (.c (.string ⟨#[33]⟩)))] [8]) (.cond (.t 8) (.seq (rn [mx 2 (kk 3)] [2]) (.ret)) (.skip))) (.seq (rn [mx 2 (kk 7)] [2]) (.ret))) (.skip))) (.seq (.seq (rn [fa 9 0 1,l1 10 9,bk 11 .neq 10 14] [1,11]) (.cond (.t 11) (.seq (rn [mx 2 (kk 8)] [2]) (.ret)) (.skip))) (.seq (.seq (rn [fa 12 2 1,l1 13 12,jj 14 (.bin .eql (.t 13) (.c (.string ⟨#[124,124]⟩)))] [1,14]) (.cond (.t 14) (.seq (rn [mx 2 (kk 1)] [2]) (.ret)) (.skip))) (.seq (.seq (rn [fa 15 2 1,l1 16 15,jj 17 (.bin .eql (.t 16) (.c (.string ⟨#[38,38]⟩)))] [1,17]) (.cond (.t 17) (.seq (rn [mx 2 (kk 2)] [2]) (.ret)) (.skip))) (.seq (.seq (rn [fa 18 2 1,l1 19 18,jj 20 (.bin .eql (.t 19) (.c (.string ⟨#[43]⟩))),mv 21 20,jf 22 21 (.fieldAddr 2 (.t 1)),jf 23 21 (.load false 1 (.t 22)),jf 24 21 (.bin .eql (.t 23) (.c (.string ⟨#[45]⟩))),jj 25 (.pick (.t 21) kT (.t 24))] [1,25]) (.cond (.t 25) (.seq (rn [mx 2 (kk 5)] [2]) (.ret)) (.skip))) (.seq (.seq (rn [fa 26 2 1,l1 27 26,jj 28 (.bin .eql (.t 27) (.c (.string ⟨#[42]⟩))),mv 29 28,jf 30 29 (.fieldAddr 2 (.t 1)),jf 31 29 (.load false 1 (.t 30)),jf 32 29 (.bin .eql (.t 31) (.c (.string ⟨#[47]⟩))),jj 33 (.pick (.t 29) kT (.t 32))] [33]) (.cond (.t 33) (.seq (rn [mx 2 (kk 6)] [2]) (.ret)) (.skip))) (.seq (rn [mx 2 (kk 4)] [2]) (.ret)))))))),false,false,false⟩
def F262:PFun:=⟨2,[.tmp 4],.seq (rn [jj 4 (.mov (.c (.string ⟨#[]⟩)))] [0,1]) (.seq (.seq (rn [mv 7 0,jj 8 (.bin .neq (.t 7) (.c (.string ⟨#[]⟩))),mv 9 8,jt 10 9 (.mov (.t 1)),jt 11 9 (.bin .neq (.t 10) (.c (.string ⟨#[]⟩))),jj 12 (.pick (.t 9) (.t 11) kF)] [0,1,12]) (.cond (.t 12) (.seq (rn [mv 13 0,mv 14 0,lz 15 14,bk 16 .sub 15 1,jj 17 (.indexS (.t 13) (.t 16)),mv 5 17] [0,1,5]) (.seq (rn [mv 18 1,jj 19 (.indexS (.t 18) (kk 0)),mv 6 19] [0,1,5,6]) (.seq (rn [mv 20 5,cl 21 192 [20],mv 22 21,jf 23 22 (.mov (.t 5)),jf 24 22 (.call 193 [(.t 23)]),jj 25 (.pick (.t 22) kT (.t 24)),mv 26 25,jt 27 26 (.mov (.t 6)),jt 28 26 (.call 192 [(.t 27)]),jt 29 26 (.mov (.t 28)),jf 30 29 (.mov (.t 6)),jf 31 29 (.call 193 [(.t 30)]),jt 32 26 (.pick (.t 29) kT (.t 31)),jj 33 (.pick (.t 26) (.t 32) kF)] [0,1,33]) (.cond (.t 33) (.seq (rn [mv 34 0,jj 35 (.bin .add (.t 34) (.c (.string ⟨#[32]⟩))),mv 36 1,bn 37 .add 35 36,mv 4 37] [4]) (.ret)) (.skip))))) (.skip))) (.seq (rn [mv 38 0,mv 39 1,bn 40 .add 38 39,mv 4 40] [4]) (.ret))),false,false,false⟩
def F263:PFun:=⟨1,[.tmp 2],.seq (rn [bx 1 0,jj 2 (.mov (.c (.string ⟨#[]⟩)))] [1]) (.seq (.seq (rn [fa 4 0 1,l1 5 4] [1,5]) (.block 0 (.seq (rn [bk 7 .eql 5 1,mv 6 7] [1,5,6]) (.cond (.t 6) (.seq (.region (some []) [fa 8 2 1,⟨some 9,.load false 1 (.t 8),none,[6]⟩,fa 10 3 1,l1 11 10,jj 12 (.indexAddr 4 (.t 11) (kk 0)),la 13 4 12,cl 14 234 [13],jj 15 (.bslice 4 [eN,eN,eN,eN] [(0,1,(.t 9)),(1,1,(.c (.string ⟨#[61]⟩))),(2,1,(.t 14)),(3,1,(.c (.string ⟨#[59]⟩)))]),cl 16 247 [15],mv 2 16] [2] [6,8]) (.ret)) (.seq (rn [bk 18 .eql 5 2,mv 17 18] [1,5,17]) (.cond (.t 17) (.seq (.region (some []) [fa 19 2 1,⟨some 20,.load false 1 (.t 19),none,[6,11]⟩,fa 21 3 1,l1 22 21,jj 23 (.indexAddr 4 (.t 22) (kk 0)),la 24 4 23,cl 25 234 [24],fa 26 3 1,⟨some 27,.load false 1 (.t 26),none,[6]⟩,jj 28 (.indexAddr 4 (.t 27) (kk 1)),⟨some 29,.load true 4 (.t 28),none,[6]⟩,cl 30 234 [29],jj 31 (.bslice 7 [eN,eN,eN,eN,eN,eN,eN] [(0,1,(.t 20)),(1,1,(.c (.string ⟨#[91]⟩))),(2,1,(.t 25)),(3,1,(.c (.string ⟨#[93]⟩))),(4,1,(.c (.string ⟨#[61]⟩))),(5,1,(.t 30)),(6,1,(.c (.string ⟨#[59]⟩)))]),cl 32 247 [31],mv 2 32] [2] [11,13]) (.ret)) (.seq (rn [bk 34 .eql 5 5,mv 33 34] [1,5,33]) (.cond (.t 33) (.seq (.region (some []) [fa 35 3 1,l1 36 35,jj 37 (.indexAddr 4 (.t 36) (kk 0)),la 38 4 37,cl 39 234 [38],fa 40 3 1,⟨some 41,.load false 1 (.t 40),none,[4]⟩,jj 42 (.indexAddr 4 (.t 41) (kk 1)),⟨some 43,.load true 4 (.t 42),none,[4]⟩,cl 44 234 [43],jj 45 (.bslice 5 [eN,eN,eN,eN,eN] [(0,1,(.c (.string ⟨#[101,102,102,101,99,116]⟩))),(1,1,(.t 39)),(2,1,(.c (.string ⟨#[44]⟩))),(3,1,(.t 44)),(4,1,(.c (.string ⟨#[59]⟩)))]),cl 46 247 [45],mv 2 46] [2] [9,11]) (.ret)) (.seq (rn [bk 48 .eql 5 6,mv 47 48] [1,5,47]) (.cond (.t 47) (.seq (rn [jj 2 (.mov (.c (.string ⟨#[115,116,111,112,59]⟩)))] [2]) (.ret)) (.seq (rn [bk 50 .eql 5 4,mv 49 50] [1,49]) (.cond (.t 49) (.seq (.region (some []) [fa 51 3 1,l1 52 51,jj 53 (.indexAddr 4 (.t 52) (kk 0)),la 54 4 53,cl 55 234 [54],fa 56 3 1,⟨some 57,.load false 1 (.t 56),none,[4]⟩,jj 58 (.indexAddr 4 (.t 57) (kk 1)),⟨some 59,.load true 4 (.t 58),none,[4]⟩,cl 60 248 [59],jj 61 (.bslice 3 [eN,eN,eN] [(0,1,(.c (.string ⟨#[119,104,105,108,101]⟩))),(1,1,(.t 55)),(2,1,(.t 60))]),cl 62 247 [61],mv 2 62] [2] [9,11]) (.ret)) (.skip))))))))))))) (.seq (.region (some []) [fa 63 3 1,l1 64 63,jj 65 (.indexAddr 4 (.t 64) (kk 0)),la 66 4 65,cl 67 234 [66],fa 68 3 1,⟨some 69,.load false 1 (.t 68),none,[4]⟩,jj 70 (.indexAddr 4 (.t 69) (kk 1)),⟨some 71,.load true 4 (.t 70),none,[4]⟩,cl 72 248 [71],jj 73 (.bslice 3 [eN,eN,eN] [(0,1,(.c (.string ⟨#[105,102]⟩))),(1,1,(.t 67)),(2,1,(.t 72))]),cl 74 247 [73],mv 3 74] [1,3] [9,11]) (.seq (.seq (rn [fa 75 3 1,l1 76 75,jj 77 (.indexAddr 4 (.t 76) (kk 2)),fa 78 3 77,l1 79 78,ls 80 79,bk 81 .gtr 80 0] [1,3,81]) (.cond (.t 81) (rn [mv 82 3,fa 83 3 1,l1 84 83,jj 85 (.indexAddr 4 (.t 84) (kk 2)),la 86 4 85,cl 87 248 [86],jj 88 (.bslice 3 [eN,eN,eN] [(0,1,(.t 82)),(1,1,(.c (.string ⟨#[101,108,115,101]⟩))),(2,1,(.t 87))]),cl 89 247 [88],mv 3 89] [3]) (.skip))) (.seq (rn [mv 90 3,mv 2 90] [2]) (.ret))))),false,false,false⟩
def F315:PFun:=⟨2,[.tmp 4],.seq (rn [bx 2 0,bx 3 1,mx 4 kF] [2,3]) (.seq (rn [fa 5 0 2,jj 6 (.indexAddrA 3 4 (.t 5) (kk 0)),la 7 4 6,fa 8 0 3,jj 9 (.indexAddrA 3 4 (.t 8) (kk 0)),la 10 4 9,cl 11 238 [7,10],mv 12 11,jt 13 12 (.fieldAddr 0 (.t 2)),jt 14 12 (.indexAddrA 3 4 (.t 13) (kk 1)),jt 15 12 (.load true 4 (.t 14)),jt 16 12 (.fieldAddr 0 (.t 3)),jt 17 12 (.indexAddrA 3 4 (.t 16) (kk 1)),jt 18 12 (.load true 4 (.t 17)),jt 19 12 (.call 238 [(.t 15),(.t 18)]),jj 20 (.pick (.t 12) (.t 19) kF),mv 21 20,jt 22 21 (.fieldAddr 0 (.t 2)),jt 23 21 (.indexAddrA 3 4 (.t 22) (kk 2)),jt 24 21 (.load true 4 (.t 23)),jt 25 21 (.fieldAddr 0 (.t 3)),jt 26 21 (.indexAddrA 3 4 (.t 25) (kk 2)),jt 27 21 (.load true 4 (.t 26)),jt 28 21 (.call 238 [(.t 24),(.t 27)]),jj 29 (.pick (.t 21) (.t 28) kF),mv 4 29] [4]) (.ret)),false,false,false⟩
end Go.Pm.F
end
section
namespace Go.Pm.F
variable(C:Task->Option Res)(q:Nat)(fr:Fr)(σ : S)
def F229:PFun:=⟨0,[.tmp 0],.seq (rn [mx 0 kF] []) (.seq (rn [jj 8 (.call 228 [(.c (.string ⟨#[111,110,32,116,105,99,107,123,120,91,48,93,61,49,43,50,42,118,59,125]⟩))]),mv 7 8,ex 9 7 0,ex 10 7 1,ex 11 7 2,jj 1 (.alloc [zN,zN,eN,sN,zN,zN,eN,sN,zN,zN,eN,sN]),st 12 1 9,mv 2 10,mv 3 11] [1,2,3]) (.seq (rn [jj 13 (.call 228 [(.c (.string ⟨#[111,110,32,97,99,116,32,123,32,115,116,111,112,32,125]⟩))]),mv 12 13,ex 14 12 0,ex 15 12 1,ex 16 12 2,jj 4 (.alloc [zN,zN,eN,sN,zN,zN,eN,sN,zN,zN,eN,sN]),st 12 4 14,mv 5 15,mv 6 16] [1,2,3,5,6]) (.seq (.seq (rn [fa 17 0 1,jj 18 (.indexAddrA 3 4 (.t 17) (kk 1)),fa 19 3 18,l1 20 19,ls 21 20,bk 22 .neq 21 1] [1,2,3,5,6,22]) (.cond (.t 22) (.seq (rn [mx 0 kF] [0]) (.ret)) (.skip))) (.seq (rn [mv 23 2,bk 24 .eql 23 0,mv 25 24,jt 26 25 (.mov (.t 3)),jt 27 25 (.bin .eql (.t 26) (kk 0)),jj 28 (.pick (.t 25) (.t 27) kF),mv 29 28,jt 30 29 (.fieldAddr 0 (.t 1)),jt 31 29 (.indexAddrA 3 4 (.t 30) (kk 1)),jt 32 29 (.fieldAddr 3 (.t 31)),jt 33 29 (.load false 1 (.t 32)),jt 34 29 (.indexAddr 4 (.t 33) (kk 0)),jt 35 29 (.fieldAddr 0 (.t 34)),jt 36 29 (.load false 1 (.t 35)),jt 37 29 (.bin .eql (.t 36) (kk 2)),jj 38 (.pick (.t 29) (.t 37) kF),mv 39 38,jt 40 39 (.load true 12 (.t 1)),jt 41 39 (.call 231 [(.t 40)]),jt 42 39 (.bin .eql (.t 41) (.c (.string ⟨#[111,110,32,116,105,99,107,123,120,91,48,93,61,49,43,50,42,118,59,125]⟩))),jj 43 (.pick (.t 39) (.t 42) kF),mv 44 43,jt 45 44 (.mov (.t 5)),jt 46 44 (.bin .eql (.t 45) (kk 14)),jj 47 (.pick (.t 44) (.t 46) kF),mv 48 47,jt 49 48 (.mov (.t 6)),jt 50 48 (.bin .eql (.t 49) (kk 12)),jj 51 (.pick (.t 48) (.t 50) kF),mv 0 51] [0]) (.ret))))),false,false,false⟩
def F310:PFun:=⟨5,[.tmp 10],.seq (rn [mx 10 kF] [0,1,2,3,4]) (.seq (rn [mv 13 1,cl 14 227 [13],mv 11 14] [0,2,3,4,11]) (.seq (rn [mv 15 11,mv 16 2,mv 17 3,mv 18 4,cl 19 226 [15,16,17,18],mv 12 19] [0,2,3,4,11,12]) (.seq (rn [mv 20 0,jj 21 (.call 225 [(.t 20),(kk 300)]),cl 22 313 [21],mv 23 22,jt 24 23 (.mov (.t 11)),jt 25 23 (.call 313 [(.t 24)]),jj 26 (.pick (.t 23) (.t 25) kF),mv 27 26,jt 28 27 (.mov (.t 12)),jt 29 27 (.call 313 [(.t 28)]),jj 30 (.pick (.t 27) (.t 29) kF),mv 31 30,jt 32 31 (.mov (.t 12)),jt 33 31 (.mov (.t 2)),jt 34 31 (.bin .quo (.t 33) (kk 7)),jt 35 31 (.mov (.t 3)),jt 36 31 (.bin .quo (.t 35) (kk 4)),jt 37 31 (.mov (.t 4)),jt 38 31 (.call 226 [(.t 32),(.t 34),(.t 36),(.t 37)]),jt 39 31 (.call 313 [(.t 38)]),jj 40 (.pick (.t 31) (.t 39) kF),mv 41 40,jt 42 41 (.call 229 []),jj 43 (.pick (.t 41) (.t 42) kF),mv 10 43] [10]) (.ret)))),false,false,false⟩
def F313:PFun:=⟨1,[.tmp 2],.seq (rn [mx 2 kF] [0]) (.seq (rn [mv 10 0,cl 11 228 [10],mv 9 11,ex 12 9 0,ex 13 9 1,ex 14 9 2,jj 3 (.alloc [zN,zN,eN,sN,zN,zN,eN,sN,zN,zN,eN,sN]),st 12 3 12,mv 4 13,mv 5 14] [0,3,4,5]) (.seq (rn [mv 16 0,cl 17 132 [16],mv 15 17,ex 18 15 0,ex 19 15 1,ex 20 15 2,jj 6 (.alloc [zN,zN,eN,sN,zN,zN,eN,sN,zN,zN,eN,sN]),st 12 6 18,mv 7 19,mv 8 20] [3,4,5,6,7,8]) (.seq (.seq (rn [mv 21 4,mv 22 7,bn 23 .neq 21 22,mv 24 23,jf 25 24 (.mov (.t 5)),jf 26 24 (.mov (.t 8)),jf 27 24 (.bin .neq (.t 25) (.t 26)),jj 28 (.pick (.t 24) kT (.t 27)),mv 29 28,jf 30 29 (.load true 12 (.t 3)),jf 31 29 (.load true 12 (.t 6)),jf 32 29 (.call 315 [(.t 30),(.t 31)]),jf 33 29 (.un .not (.t 32)),jj 34 (.pick (.t 29) kT (.t 33))] [3,5,6,34]) (.cond (.t 34) (.seq (rn [mx 2 kF] [2]) (.ret)) (.skip))) (.seq (.region (some []) [mv 35 5,bk 36 .neq 35 0,mv 37 36,jf 38 37 (.load true 12 (.t 3)),jf 39 37 (.call 231 [(.t 38)]),⟨some 40,.load true 12 (.t 6),some (37,false),[4]⟩,jf 41 37 (.call 236 [(.t 40)]),jf 42 37 (.bin .eql (.t 39) (.t 41)),jj 43 (.pick (.t 37) kT (.t 42)),mv 2 43] [2] [6]) (.ret))))),false,false,false⟩
end Go.Pm.F
end
section
namespace Go.Pm.F
def tE:Nat->Option PFun
 |238=>some F238
 |_=>none
def tEz:Nat->Option PFun
 |238=>some F238
 |315=>some F315
 |_=>none
theorem qfF : ∀ f pf,tE f=some pf->tEz f=some pf:=fun f pf h=>by
 unfold tE at h
 split at h<;>first | (cases h; rfl) | cases h
end Go.Pm.F
end
namespace Go.Pm
section
open F
abbrev qwU(k n:Int)(s:ByteArray)(d:D)(k' n':Int)(s':ByteArray)(d':D):S:=[.cells [.int k,.int n,.str s,.dat d],.cells [.int k',.int n',.str s',.dat d']]
def ndEq(k n:Int)(s:ByteArray)(a:Fo)(k' n':Int)(s':ByteArray)(b:Fo):Bool:=(decide (k=k')&&(decide (n=n')&&decide (s=s')))&&a.eqv b
def qz5(a b:Fo):Prop := ∀ (k n:Int) (s:ByteArray) (f:Bool) (k' n':Int) (s':ByteArray) (f':Bool),Z tE (.call 238 [nd k n s f a,nd k' n' s' f' b] [])=some (.ret (.bool (ndEq k n s a k' n' s' b)) [])
def qz6(a:Fo):Prop := ∀ (b:Fo) (ca cb:List D) (m i:Nat) (k n:Int) (s:ByteArray) (f:Bool) (k' n':Int) (s':ByteArray) (f':Bool),ca.drop (i*4)=a.cells->cb.drop (i*4)=b.cells->a.len=b.len->i+a.len=m->m<2 ^ 30 ->
 Z tE (.loop 0 F238l0 [(2,.ptr 0 0),(3,.ptr 1 0),(5,.int i)] (qwU k n s (.sl ca m f) k' n' s' (.sl cb m f')))=some (if a.eqv b then .out (.exit 0) [(2,.ptr 0 0),(3,.ptr 1 0),(5,.int m),(38,.bool false)] (qwU k n s (.sl ca m f) k' n' s' (.sl cb m f')) else .out .ret [(4,.bool false)] (qwU k n s (.sl ca m f) k' n' s' (.sl cb m f')))
theorem qtF{a:Fo}(hq:qz6 a)(ha:a.len<2 ^ 30)(b:Fo):qz5 a b:=by
 intro k n s f k' n' s' f'
 refine Z_call (pf:=F238) rfl rfl ?_
 unfold ndEq
 by_cases h1:k=k'
 ·by_cases h2:n=n'
  ·by_cases h3:s=s'
   ·subst h1 h2 h3
    by_cases h4:a.len=b.len
    ·cases hl:a.len with
     |zero=>
      have hb:b.len=0:=by omega
      have e:a.eqv b=true:=by
       cases a with
       |nil=>cases b with|nil=>rfl|cons=>simp at hb
       |cons=>simp at hl
      have z0:Z tE (.loop 0 F238l0 [(2,.ptr 0 0),(3,.ptr 1 0),(5,.int 0)] (qwU k n s (.lit (.slice none 0 0)) k n s (.lit (.slice none 0 0))))=some (.out (.exit 0) [(2,.ptr 0 0),(3,.ptr 1 0),(5,.int 0),(38,.bool false)] (qwU k n s (.lit (.slice none 0 0)) k n s (.lit (.slice none 0 0)))):=by
       rw[qab]
       simp -implicitDefEqProofs [qaa,qfP,qi9,Wa]
      have hh:nd k n s f a = .dat (.agg [.lit (.int .i64 k),.lit (.int .i64 n),.lit (.string s),.lit (.slice none 0 0)]):=by rw[nd,hl,qvR]
      have hh':nd k n s f' b = .dat (.agg [.lit (.int .i64 k),.lit (.int .i64 n),.lit (.string s),.lit (.slice none 0 0)]):=by rw[nd,hb,qvR]
      rw[hh,hh']
      simp -implicitDefEqProofs [F238,z0,e,qah,qi9,Wa]
     |succ q=>
      have z:=hq b a.cells b.cells a.len 0 k n s f k n s f' (by simp) (by simp) h4 (by omega) ha
      have hb:b.len=a.len:=h4.symm
      have ka : ∀ g cs,kd g (q+1) cs = .sl cs (q+1) g:=fun g cs=>rfl
      have hh : ∀ g (c:Fo),c.len=q+1->nd k n s g c = .dat (.agg [.lit (.int .i64 k),.lit (.int .i64 n),.lit (.string s),.sl c.cells (q+1) g]):=fun g c hc=>by rw[nd,hc,ka]
      rw[hh f a hl,hh f' b (hb.trans hl)]
      rw[hl] at z
      clear hh ka hq hb hl h4 ha
      generalize q+1=m at *
      simp only[Wd] at z
      by_cases he:a.eqv b=true
      ·rw[if_pos he] at z
       simp -implicitDefEqProofs [F238,z,he,qah,qja,Wa]
      ·rw[if_neg he] at z
       simp -implicitDefEqProofs [F238,z,he,qah,qja,Wa]
    ·have he:a.eqv b=false:=by
      cases h:a.eqv b with
      |false=>rfl
      |true=>exact absurd (qrI h) h4
     have h4' : ¬ (a.len:Int)=b.len:=by omega
     simp -implicitDefEqProofs [F238,h4,h4',he,qah,Wa]
   ·simp -implicitDefEqProofs [F238,h1,h2,h3,qah,Wa]
  ·simp -implicitDefEqProofs [F238,h1,h2,qah,Wa]
 ·simp -implicitDefEqProofs [F238,h1,qah,Wa]
theorem qm8 : ∀ a:Fo,a.size<2 ^ 30->qz6 a
 |.nil,_=>by
  intro b ca cb m i k n s f k' n' s' f' hA hB hl hm hm2
  cases b with
  |cons=>simp at hl
  |nil=>
   have:i=m:=by simpa using hm
   subst this
   rw[show Fo.nil.eqv .nil=true from rfl,if_pos rfl,qab]
   simp -implicitDefEqProofs [qaa,qfP,qja,Wa]
 |.cons ka na sa fa ksa ra,hsz=>by
  intro b ca cb m i k n s f k' n' s' f' hA hB hl hm hm2
  cases b with
  |nil=>simp at hl
  |cons kb nb sb fb ksb rb=>
   simp only[qaT] at hsz
   have hks:=qtF (qm8 ksa (by omega)) (by have:=qjj ksa; omega) ksb ka na sa fa kb nb sb fb
   simp only[qaB,qaV] at hA hB hl hm
   have c1:=qyL hA
   have c2:=qyL hB
   have hlt:(i:Int)<m:=by omega
   have hlt':i<m:=by omega
   have w1:IntKind.i64.wrap ((i:Int)+1)=((i+1:Nat):Int):=by rw[qae _ (by omega)]; omega
   have ih:=qm8 ra (by omega) rb ca cb m (i+1) k n s f k' n' s' f' (qcz hA) (qcz hB) (by omega) (by omega) hm2
   rw[show (Fo.cons ka na sa fa ksa ra).eqv (.cons kb nb sb fb ksb rb)=(ndEq ka na sa ksa kb nb sb ksb&&ra.eqv rb) by simp[Fo.eqv,ndEq,Bool.and_assoc]]
   simp only[nd] at hks
   generalize ndEq ka na sa ksa kb nb sb ksb=B at *
   generalize ((i+1:Nat):Int)=i1 at *
   cases B with
   |true=>
    rw[Bool.true_and,<- ih]
    conv=>lhs; rw[qab]
    simp -implicitDefEqProofs [qaa,qfP,qag,qja,c1,c2,hlt,hlt',hks,w1,Wa]
   |false=>
    rw[Bool.false_and,if_neg (by simp)]
    rw[qab]
    simp -implicitDefEqProofs [qaa,qfP,qag,qja,c1,c2,hlt,hlt',hks,Wa]
theorem qkV{a b:Fo}(ha:a.size<2 ^ 30):qz5 a b:=qtF (qm8 a ha) (by have:=qjj a; omega) b
theorem qn2 {a b c a' b' c':Nd} (ha:a.ks.size<2 ^ 30) (hb:b.ks.size<2 ^ 30) (hc:c.ks.size<2 ^ 30):Z tEz (.call 315 [.dat (ru a b c),.dat (ru a' b' c')] []) =
  some (.ret (.bool (ndEq a.k a.n a.s a.ks a'.k a'.n a'.s a'.ks&&(ndEq b.k b.n b.s b.ks b'.k b'.n b'.s b'.ks&&ndEq c.k c.n c.s c.ks c'.k c'.n c'.s c'.ks))) []):=by
 have z1:=qgq qfF (qkV ha (b:=a'.ks) a.k a.n a.s a.f a'.k a'.n a'.s a'.f)
 have z2:=qgq qfF (qkV hb (b:=b'.ks) b.k b.n b.s b.f b'.k b'.n b'.s b'.f)
 have z3:=qgq qfF (qkV hc (b:=c'.ks) c.k c.n c.s c.f c'.k c'.n c'.s c'.f)
 refine Z_call (pf:=F315) rfl rfl ?_
 simp only[nd] at z1 z2 z3
 generalize ndEq a.k a.n a.s a.ks a'.k a'.n a'.s a'.ks=B1 at *
 generalize ndEq b.k b.n b.s b.ks b'.k b'.n b'.s b'.ks=B2 at *
 generalize ndEq c.k c.n c.s c.ks c'.k c'.n c'.s c'.ks=B3 at *
 cases B1<;>cases B2<;>cases B3<;>simp -implicitDefEqProofs [F315,ru,Nd.d,z1,z2,z3,Wa]
end
end Go.Pm
section
namespace Go.Pm.F
variable(C:Task->Option Res)(q:Nat)(fr:Fr)(σ : S)
def F225:PFun:=⟨2,[.tmp 4],.seq (rn [jj 4 (.mov (.c (.string ⟨#[]⟩)))] [0,1]) (.seq (.seq (rn [mv 5 0,lz 6 5,mv 7 1,bn 8 .gtr 6 7] [0,1,8]) (.cond (.t 8) (.seq (rn [mv 9 0,mv 10 1,jj 11 (.sliceS (.t 9) none (some (.t 10))),mv 4 11] [4]) (.ret)) (.skip))) (.seq (rn [mv 12 0,mv 4 12] [4]) (.ret))),false,false,false⟩
end Go.Pm.F
end
section
namespace Go.Pm.F
def tK:Nat->Option PFun
 |225=>some F225
 |226=>some F226
 |227=>some F227
 |229=>some F229
 |_=>none
def tKd:Nat->Option PFun
 |_=>none
def tKz:Nat->Option PFun
 |310=>some F310
 |313=>some F313
 |_=>none
end Go.Pm.F
end
namespace Go.Pm
section
open F
def tab2:ByteArray:=⟨#[48,48,48,49,48,50,48,51,48,52,48,53,48,54,48,55,48,56,48,57,49,48,49,49,49,50,49,51,49,52,49,53,49,54,49,55,49,56,49,57,50,48,50,49,50,50,50,51,50,52,50,53,50,54,50,55,50,56,50,57,51,48,51,49,51,50,51,51,51,52,51,53,51,54,51,55,51,56,51,57,52,48,52,49,52,50,52,51,52,52,52,53,52,54,52,55,52,56,52,57,53,48,53,49,53,50,53,51,53,52,53,53,53,54,53,55,53,56,53,57,54,48,54,49,54,50,54,51,54,52,54,53,54,54,54,55,54,56,54,57,55,48,55,49,55,50,55,51,55,52,55,53,55,54,55,55,55,56,55,57,56,48,56,49,56,50,56,51,56,52,56,53,56,54,56,55,56,56,56,57,57,48,57,49,57,50,57,51,57,52,57,53,57,54,57,55,57,56,57,57]⟩
def tab8:ByteArray:=⟨#[0,1,2,2,3,3,3,3,4,4,4,4,4,4,4,4,5,5,5,5,5,5,5,5,5,5,5,5,5,5,5,5,6,6,6,6,6,6,6,6,6,6,6,6,6,6,6,6,6,6,6,6,6,6,6,6,6,6,6,6,6,6,6,6,7,7,7,7,7,7,7,7,7,7,7,7,7,7,7,7,7,7,7,7,7,7,7,7,7,7,7,7,7,7,7,7,7,7,7,7,7,7,7,7,7,7,7,7,7,7,7,7,7,7,7,7,7,7,7,7,7,7,7,7,7,7,7,7,8,8,8,8,8,8,8,8,8,8,8,8,8,8,8,8,8,8,8,8,8,8,8,8,8,8,8,8,8,8,8,8,8,8,8,8,8,8,8,8,8,8,8,8,8,8,8,8,8,8,8,8,8,8,8,8,8,8,8,8,8,8,8,8,8,8,8,8,8,8,8,8,8,8,8,8,8,8,8,8,8,8,8,8,8,8,8,8,8,8,8,8,8,8,8,8,8,8,8,8,8,8,8,8,8,8,8,8,8,8,8,8,8,8,8,8,8,8,8,8,8,8,8,8,8,8,8,8]⟩
section
variable(tab:ByteArray)
def F295l0Kx:PC:=(.seq (.seq (rn [mv 19 4,bk 20 .geq 19 8] [0,1,4,20]) (.cond (.t 20) (.skip) (.exit 0))) (.block 1 (.seq (rn [mv 21 1,jj 22 (.bin .rem (.t 21) (.c (.int .u64 100000000))),jj 23 (.conv (.int .u32) (.t 22)),mv 5 23] [0,1,4,5]) (.seq (rn [mv 24 1,jj 25 (.bin .quo (.t 24) (.c (.int .u64 100000000))),mv 1 25] [0,1,4,5]) (.seq (rn [mv 26 5,jj 27 (.bin .quo (.t 26) (.c (.int .u32 10000))),mv 28 5,jj 29 (.bin .rem (.t 28) (.c (.int .u32 10000))),mv 6 27,mv 7 29] [0,1,4,6,7]) (.seq (rn [mv 30 7,jj 31 (.bin .quo (.t 30) (.c (.int .u32 100))),jj 32 (.bin .mul (.t 31) (.c (.int .u32 2))),mv 33 7,jj 34 (.bin .rem (.t 33) (.c (.int .u32 100))),jj 35 (.bin .mul (.t 34) (.c (.int .u32 2))),mv 8 32,mv 9 35] [0,1,4,6,8,9]) (.seq (rn [mv 36 6,jj 37 (.bin .quo (.t 36) (.c (.int .u32 100))),jj 38 (.bin .mul (.t 37) (.c (.int .u32 2))),mv 39 6,jj 40 (.bin .rem (.t 39) (.c (.int .u32 100))),jj 41 (.bin .mul (.t 40) (.c (.int .u32 2))),mv 10 38,mv 11 41] [0,1,4,8,9,10,11]) (.seq (.region (some []) [mv 42 0,mv 43 4,bk 44 .sub 43 1,mv 45 0,mv 46 4,bk 47 .sub 46 2,mv 48 9,jj 49 (.bin .add (.t 48) (.c (.int .u32 1))),jj 50 (.indexS (.c (.string tab)) (.t 49)),mv 51 9,jj 52 (.indexS (.c (.string tab)) (.t 51)),jj 53 (.indexAddr 1 (.t 42) (.t 44)),st 1 53 50,jj 54 (.indexAddr 1 (.t 45) (.t 47)),st 1 54 52] [0,1,4,8,10,11]) (.seq (.region (some []) [mv 55 0,mv 56 4,bk 57 .sub 56 3,mv 58 0,mv 59 4,bk 60 .sub 59 4,mv 61 8,jj 62 (.bin .add (.t 61) (.c (.int .u32 1))),jj 63 (.indexS (.c (.string tab)) (.t 62)),mv 64 8,jj 65 (.indexS (.c (.string tab)) (.t 64)),jj 66 (.indexAddr 1 (.t 55) (.t 57)),st 1 66 63,jj 67 (.indexAddr 1 (.t 58) (.t 60)),st 1 67 65] [0,1,4,10,11]) (.seq (.region (some []) [mv 68 0,mv 69 4,bk 70 .sub 69 5,mv 71 0,mv 72 4,bk 73 .sub 72 6,mv 74 11,jj 75 (.bin .add (.t 74) (.c (.int .u32 1))),jj 76 (.indexS (.c (.string tab)) (.t 75)),mv 77 11,jj 78 (.indexS (.c (.string tab)) (.t 77)),jj 79 (.indexAddr 1 (.t 68) (.t 70)),st 1 79 76,jj 80 (.indexAddr 1 (.t 71) (.t 73)),st 1 80 78] [0,1,4,10]) (.seq (.region (some []) [mv 81 0,mv 82 4,bk 83 .sub 82 7,mv 84 0,mv 85 4,bk 86 .sub 85 8,mv 87 10,jj 88 (.bin .add (.t 87) (.c (.int .u32 1))),jj 89 (.indexS (.c (.string tab)) (.t 88)),mv 90 10,jj 91 (.indexS (.c (.string tab)) (.t 90)),jj 92 (.indexAddr 1 (.t 81) (.t 83)),st 1 92 89,jj 93 (.indexAddr 1 (.t 84) (.t 86)),st 1 93 91] [0,1,4]) (rn [mv 94 4,bk 95 .sub 94 8,mv 4 95] [0,1,4]))))))))))))
def F295l0K:PC:=F295l0Kx tab
theorem qci(C:Task->Option Res)(q:Nat)(fr:Fr)(σ : S):run C q (F295l0K tab) fr σ = run C q (F295l0Kx tab) fr σ := rfl
def F295K:PFun:=⟨2,[],.seq (rn [mv 17 0,ls 18 17,mv 4 18] [0,1,4]) (.seq (.block 0 (.loop (F295l0K tab))) (.seq (rn [mv 96 1,jj 97 (.conv (.int .u32) (.t 96)),mv 12 97] [0,4,12]) (.seq (.seq (rn [mv 98 4,bk 99 .geq 98 4] [0,4,12,99]) (.cond (.t 99) (.seq (rn [mv 100 12,jj 101 (.bin .rem (.t 100) (.c (.int .u32 10000))),mv 13 101] [0,4,12,13]) (.seq (rn [mv 102 12,jj 103 (.bin .quo (.t 102) (.c (.int .u32 10000))),mv 12 103] [0,4,12,13]) (.seq (rn [mv 104 13,jj 105 (.bin .quo (.t 104) (.c (.int .u32 100))),jj 106 (.bin .mul (.t 105) (.c (.int .u32 2))),mv 107 13,jj 108 (.bin .rem (.t 107) (.c (.int .u32 100))),jj 109 (.bin .mul (.t 108) (.c (.int .u32 2))),mv 14 106,mv 15 109] [0,4,12,14,15]) (.seq (.region (some []) [mv 110 0,mv 111 4,bk 112 .sub 111 1,mv 113 0,mv 114 4,bk 115 .sub 114 2,mv 116 15,jj 117 (.bin .add (.t 116) (.c (.int .u32 1))),jj 118 (.indexS (.c (.string tab)) (.t 117)),mv 119 15,jj 120 (.indexS (.c (.string tab)) (.t 119)),jj 121 (.indexAddr 1 (.t 110) (.t 112)),st 1 121 118,jj 122 (.indexAddr 1 (.t 113) (.t 115)),st 1 122 120] [0,4,12,14]) (.seq (.region (some []) [mv 123 0,mv 124 4,bk 125 .sub 124 3,mv 126 0,mv 127 4,bk 128 .sub 127 4,mv 129 14,jj 130 (.bin .add (.t 129) (.c (.int .u32 1))),jj 131 (.indexS (.c (.string tab)) (.t 130)),mv 132 14,jj 133 (.indexS (.c (.string tab)) (.t 132)),jj 134 (.indexAddr 1 (.t 123) (.t 125)),st 1 134 131,jj 135 (.indexAddr 1 (.t 126) (.t 128)),st 1 135 133] [0,4,12]) (rn [mv 136 4,bk 137 .sub 136 4,mv 4 137] [0,4,12])))))) (.skip))) (.seq (.seq (rn [mv 138 4,bk 139 .geq 138 2] [0,4,12,139]) (.cond (.t 139) (.seq (rn [mv 140 12,jj 141 (.bin .rem (.t 140) (.c (.int .u32 100))),jj 142 (.bin .mul (.t 141) (.c (.int .u32 2))),mv 16 142] [0,4,12,16]) (.seq (rn [mv 143 12,jj 144 (.bin .quo (.t 143) (.c (.int .u32 100))),mv 12 144] [0,4,12,16]) (.seq (.region (some []) [mv 145 0,mv 146 4,bk 147 .sub 146 1,mv 148 0,mv 149 4,bk 150 .sub 149 2,mv 151 16,jj 152 (.bin .add (.t 151) (.c (.int .u32 1))),jj 153 (.indexS (.c (.string tab)) (.t 152)),mv 154 16,jj 155 (.indexS (.c (.string tab)) (.t 154)),jj 156 (.indexAddr 1 (.t 145) (.t 147)),st 1 156 153,jj 157 (.indexAddr 1 (.t 148) (.t 150)),st 1 157 155] [0,4,12]) (rn [mv 158 4,bk 159 .sub 158 2,mv 4 159] [0,4,12])))) (.skip))) (.seq (rn [mv 160 4,bk 161 .gtr 160 0] [0,12,161]) (.cond (.t 161) (rn [mv 162 0,mv 163 12,jj 164 (.bin .add (.c (.int .u32 48)) (.t 163)),jj 165 (.conv (.int .u8) (.t 164)),jj 166 (.indexAddr 1 (.t 162) (kk 0)),st 1 166 165] []) (.skip))))))),false,false,false⟩
def F299K:PFun:=⟨1,[.tmp 2],.seq (rn [mx 2 (kk 0)] [0,2]) (.seq (.seq (rn [mv 3 0,jj 4 (.bin .geq (.t 3) (.c (.int .u64 4294967296)))] [0,2,4]) (.cond (.t 4) (.seq (rn [mv 5 0,jj 6 (.bin .shr (.t 5) (.c (.int .u64 32))),mv 0 6] [0]) (rn [mx 2 (kk 32)] [0,2])) (.skip))) (.seq (.seq (rn [mv 7 0,jj 8 (.bin .geq (.t 7) (.c (.int .u64 65536)))] [0,2,8]) (.cond (.t 8) (.seq (rn [mv 9 0,jj 10 (.bin .shr (.t 9) (.c (.int .u64 16))),mv 0 10] [0,2]) (rn [mv 11 2,bk 12 .add 11 16,mv 2 12] [0,2])) (.skip))) (.seq (.seq (rn [mv 13 0,jj 14 (.bin .geq (.t 13) (.c (.int .u64 256)))] [0,2,14]) (.cond (.t 14) (.seq (rn [mv 15 0,jj 16 (.bin .shr (.t 15) (.c (.int .u64 8))),mv 0 16] [0,2]) (rn [mv 17 2,bk 18 .add 17 8,mv 2 18] [0,2])) (.skip))) (.seq (rn [mv 19 2,mv 20 0,jj 21 (.conv (.int .u8) (.t 20)),jj 22 (.indexS (.c (.string tab)) (.t 21)),jj 23 (.conv (.int .i64) (.t 22)),bn 24 .add 19 23,mv 2 24] [2]) (.ret))))),false,false,false⟩
end
def dg(d:Nat):UInt8:=(48+d).toUInt8
theorem qsg{d:Nat}(h:d<10):(dg d).toNat=48+d:=qzw d h
theorem qw4 : ∀ k,k<100->tab2[2*k]?=some (dg (k / 10)):=by decide +kernel
theorem qw5 : ∀ k,k<100->tab2[2*k+1]?=some (dg (k % 10)):=by decide +kernel
theorem quI : ∀ x,x<256 -> ∃ l,tab8[x]?=some l/\l.toNat<=8/\(x=0->l.toNat=0)/\(0<x->2 ^ (l.toNat-1)<=x/\x<2 ^ l.toNat/\0<l.toNat):=by
 have h : ∀ x,x<256->(match tab8[x]? with
  |some l=>decide (l.toNat<=8)&&(decide (x=0->l.toNat=0)&&decide (0<x->2 ^ (l.toNat-1)<=x/\x<2 ^ l.toNat/\0<l.toNat))
  |none=>false)=true:=by decide +kernel
 intro x hx
 have:=h x hx
 cases hl:tab8[x]? with
 |none=>rw[hl] at this; cases this
 |some l=>
  rw[hl] at this
  simp only[Wt,decide_eq_true_eq] at this
  exact⟨l,rfl,this.1,this.2.1,this.2.2⟩
def qnc:Nat->Nat->List UInt8
 |0,_=>[]
 |d+1,u=>qnc d (u / 10)++[dg (u % 10)]
theorem qmf : ∀ (k d u:Nat),u<10 ^ (d+1)->(d=0\/10 ^ d<=u)->d<k->qjs k u=qnc (d+1) u
 |0,d,u,_,_,h=>by omega
 |k+1,0,u,h,_,_=>by
  have:u<10:=by simpa using h
  simp[qjs,qnc,this,dg,Nat.mod_eq_of_lt this]
 |k+1,d+1,u,h,h2,h3=>by
  have e : ¬ u<10:=by
   have:10 ^ 1<=10 ^ (d+1):=YK (by omega) (by omega)
   rcases h2 with h2|h2<;>omega
  have ih:=qmf k d (u / 10) (by rw[YM] at h; omega) (by
   rcases d with _|d
   ·exact .inl rfl
   ·right
    rcases h2 with h2|h2
    ·cases h2
    ·rw[YM] at h2; omega) (by omega)
  rw[qjs,if_neg e,ih,qnc]
  rfl
theorem qcK{d u:Nat}(h:u<10 ^ (d+1))(h2:10 ^ d<=u)(hd:d<20):decB u=qnc (d+1) u:=qmf 20 d u h (.inr h2) hd
abbrev U64(n:Nat):V := .dat (.lit (.int .u64 n))
theorem qz8{n:Nat}(h:n<18446744073709551616):IntKind.u64.wrap (n:Int)=n:=by rw[IntKind.wrap_u64]; omega
theorem qrP{n:Nat}(h:n<4294967296):IntKind.u32.wrap (n:Int)=n:=by rw[IntKind.wrap_u32']; omega
theorem w8u{n:Nat}(h:n<256):IntKind.u8.wrap (n:Int)=n:=by rw[IntKind.wrap_u8']; omega
theorem quJ(a b:Nat):Int.fdiv (a:Int) (b:Int)=((a / b:Nat):Int):=by
 rw[Int.fdiv_eq_ediv_of_nonneg _ (by omega)]; rfl
theorem qza{u:Nat}(h0:0<u)(h1:u<2147483648) : ∃ L:Nat,L<=31/\0<L/\2 ^ (L-1)<=u/\u<2 ^ L/\Z tQ (.call 299 [U64 u] [])=some (.ret (.int L) []):=by
 have key : ∀ x a:Nat,x<256->0<x->a<=24->a*1=a -> ∃ l:UInt8,tab8[x]?=some l/\a+l.toNat<=a+8/\0<a+l.toNat/\2 ^ (a+l.toNat-1)<=x*2 ^ a/\(x+1)*2 ^ a<=2 ^ (a+l.toNat)/\l.toNat<=8:=by
  intro x a hx hp _ _
  obtain⟨l,e1,e2,_,e4⟩:=quI x hx
  obtain⟨e5,e6,e7⟩:=e4 hp
  refine⟨l,e1,by omega,by omega,?_,?_,e2⟩
  ·rw[show a+l.toNat-1=(l.toNat-1)+a by omega,Nat.pow_add]
   exact WY _ e5
  ·rw[YV a,Nat.pow_add]
   exact WY _ e6
 have hx:tQ 299=some (F299K tab8):=rfl
 have c1 : ¬ (4294967296:Int)<=u:=by omega
 have n16 : ∀ x:Nat,qtB .u64 (x:Int) 16=((x / 65536:Nat):Int):=fun x=>quJ x 65536
 have n8 : ∀ x:Nat,qtB .u64 (x:Int) 8=((x / 256:Nat):Int):=fun x=>quJ x 256
 by_cases a1:65536<=u
 ·by_cases a2:256<=u / 65536
  ·obtain⟨l,e1,e2,e3,e4,e5,e6⟩:=key (u / 65536 / 256) 24 (by omega) (by omega) (by omega) rfl
   have hL:l.toNat<=7:=by
    rcases Yd l.toNat 8 with h|h
    ·omega
    ·have:l.toNat=8:=by omega
     rw[this] at e4
     omega
   refine⟨24+l.toNat,by omega,e3,by omega,by omega,?_⟩
   refine Z_call hx rfl ?_
   have w1:=w8u (show u / 65536 / 256<256 by omega)
   have w2:IntKind.i64.wrap (24+(l.toNat:Int))=((24+l.toNat:Nat):Int):=by rw[qae _ (by omega)]; omega
   have w3:=qae (l.toNat:Int) (by omega)
   have w4:IntKind.i64.wrap 24=24:=rfl
   have w5:IntKind.i64.wrap 16=16:=rfl
   have b1:(65536:Int)<=u:=by omega
   have b2:(256:Int)<=((u / 65536:Nat):Int):=by omega
   generalize tab8=tb at *
   generalize hq1:u / 65536=q1 at *
   generalize hq2:q1 / 256=q2 at *
   generalize 24+l.toNat=L at *
   simp[F299K,c1,b1,b2,n16,n8,hq1,hq2,w1,w2,w3,w4,w5,e1]
  ·obtain⟨l,e1,e2,e3,e4,e5,e6⟩:=key (u / 65536) 16 (by omega) (by omega) (by omega) rfl
   refine⟨16+l.toNat,by omega,e3,by omega,by omega,?_⟩
   refine Z_call hx rfl ?_
   have w1:=w8u (show u / 65536<256 by omega)
   have w2:IntKind.i64.wrap (16+(l.toNat:Int))=((16+l.toNat:Nat):Int):=by rw[qae _ (by omega)]; omega
   have w3:=qae (l.toNat:Int) (by omega)
   have w4:IntKind.i64.wrap 16=16:=rfl
   have b1:(65536:Int)<=u:=by omega
   have b2 : ¬ (256:Int)<=((u / 65536:Nat):Int):=by omega
   generalize tab8=tb at *
   generalize hq1:u / 65536=q1 at *
   generalize 16+l.toNat=L at *
   simp[F299K,c1,b1,b2,n16,n8,hq1,w1,w2,w3,w4,e1]
 ·by_cases a2:256<=u
  ·obtain⟨l,e1,e2,e3,e4,e5,e6⟩:=key (u / 256) 8 (by omega) (by omega) (by omega) rfl
   refine⟨8+l.toNat,by omega,e3,by omega,by omega,?_⟩
   refine Z_call hx rfl ?_
   have w1:=w8u (show u / 256<256 by omega)
   have w2:IntKind.i64.wrap (8+(l.toNat:Int))=((8+l.toNat:Nat):Int):=by rw[qae _ (by omega)]; omega
   have w3:=qae (l.toNat:Int) (by omega)
   have w4:IntKind.i64.wrap 8=8:=rfl
   have b1 : ¬ (65536:Int)<=u:=by omega
   have b2:(256:Int)<=u:=by omega
   generalize tab8=tb at *
   generalize hq1:u / 256=q1 at *
   generalize 8+l.toNat=L at *
   simp[F299K,c1,b1,b2,n16,n8,hq1,w1,w2,w3,w4,e1]
  ·obtain⟨l,e1,e2,e3,e4,e5,e6⟩:=key u 0 (by omega) (by omega) (by omega) rfl
   refine⟨0+l.toNat,by omega,e3,by omega,by omega,?_⟩
   refine Z_call hx rfl ?_
   have w1:=w8u (show u<256 by omega)
   have w2:IntKind.i64.wrap (0+(l.toNat:Int))=((0+l.toNat:Nat):Int):=by rw[qae _ (by omega)]; omega
   have w3:=qae (l.toNat:Int) (by omega)
   have b1 : ¬ (65536:Int)<=u:=by omega
   have b2 : ¬ (256:Int)<=u:=by omega
   generalize tab8=tb at *
   simp[F299K,c1,b1,b2,n16,n8,w1,w3,e1]
theorem qzb{L:Nat}(h:L<=31):Z tQ (.call 298 [.int L] [])=some (.ret (.int (L*78913 / 262144:Nat)) []):=by
 refine Z_call (pf:=F298) rfl rfl ?_
 have w1:=qae ((L:Int)*78913) (by omega)
 have n18:qtB .i64 ((L:Int)*78913) 18=((L*78913 / 262144:Nat):Int):=by
  have:=quJ (L*78913) 262144
  rw[<- this]
  simp[qtB]
  rfl
 generalize L*78913 / 262144=q at *
 simp[F298,w1,n18]
theorem qzc(b:Bool):Z tQ (.call 300 [.bool b] [])=some (.ret (.int (if b then 1 else 0)) []):=by
 refine Z_call (pf:=F300) rfl rfl ?_
 cases b<;>simp[F300]
theorem quK : ∀ i,i<20->cutCells G_internal_strconv_uint64pow10 i 1=some [.lit (.int .u64 (10 ^ i:Nat))]:=by
 intro i hi
 unfold cutCells G_internal_strconv_uint64pow10
 rw[WO (by simpa using hi)]
 simp
theorem quL{u L:Nat}(h7:7<=L)(h31:L<=31)(hl:2 ^ (L-1)<=u)(hu:u<2 ^ L)(h100:100<=u)(h2:u<2147483648) : ∃ d,3<=d/\d<=10/\10 ^ (d-1)<=u/\u<10 ^ d/\d=L*78913 / 262144+(if 10 ^ (L*78913 / 262144)<=u then 1 else 0):=by
 have hL:L=7\/L=8\/L=9\/L=10\/L=11\/L=12\/L=13\/L=14\/L=15\/L=16\/L=17\/L=18\/L=19\/L=20\/L=21\/L=22\/L=23\/L=24\/L=25\/L=26\/L=27\/L=28\/L=29\/L=30\/L=31:=by omega
 rcases hL with rfl|rfl|rfl|rfl|rfl|rfl|rfl|rfl|rfl|rfl|rfl|rfl|rfl|rfl|rfl|rfl|rfl|rfl|rfl|rfl|rfl|rfl|rfl|rfl|rfl
 all_goals
  refine⟨_,?_,?_,?_,?_,rfl⟩<;>simp only[Nat.reduceMul,Nat.reduceDiv,Nat.reducePow,Nat.reduceSub] at hl hu ⊢ <;> split<;>simp<;>omega
theorem qsh{u:Nat}(h100:100<=u)(h2:u<2147483648) : ∃ d:Nat,3<=d/\d<=10/\10 ^ (d-1)<=u/\u<10 ^ d/\Z tQ (.call 294 [U64 u] [])=some (.ret (.int d) []):=by
 obtain⟨L,l1,l2,l3,l4,z⟩:=qza (by omega) h2
 have h7:7<=L:=by
  rcases Yd L 7 with h|h
  ·have:2 ^ L<=2 ^ 6:=YK (by omega) (by omega)
   omega
  ·exact h
 obtain⟨d,d1,d2,d3,d4,d5⟩:=quL h7 l1 l3 l4 h100 h2
 refine⟨d,d1,d2,d3,d4,?_⟩
 have zl:=qzb l1
 have hi:L*78913 / 262144<=9:=by omega
 generalize L*78913 / 262144=i at *
 have hp:=quK i (by omega)
 have zb:=qzc (decide (10 ^ i<=u))
 have hc:((10 ^ i:Nat):Int)<=(u:Int)↔10 ^ i<=u:=by omega
 have hres:IntKind.i64.wrap ((i:Int)+(if decide (10 ^ i<=u)=true then 1 else 0))=(d:Int):=by
  rw[qae _ (by split<;>omega),d5]
  by_cases h:10 ^ i<=u<;>simp[h]
 refine Z_call (pf:=F294) rfl rfl ?_
 have i20:(i:Int)<20:=by omega
 generalize 10 ^ i=P at *
 generalize (if decide (P<=u)=true then (1:Int) else 0)=e at *
 simp[F294,z,zl,zb,hp,hc,hres,i20]
end
section
open F
theorem qgJ:IntKind.i64.wrap 0=0/\IntKind.i64.wrap 1=1/\IntKind.i64.wrap 2=2/\IntKind.i64.wrap 3=3/\IntKind.i64.wrap 4=4/\IntKind.i64.wrap 5=5/\IntKind.i64.wrap 6=6/\IntKind.i64.wrap 7=7/\IntKind.i64.wrap 8=8/\IntKind.i64.wrap 9=9/\IntKind.i64.wrap 10=10/\IntKind.i64.wrap 11=11:=by decide
abbrev u8z:V := .dat (.lit (.int .u8 0))
theorem dgc{x y:Nat}(h:x=y):dg x=dg y:=by rw[h]
theorem wdg{n:Nat}(h:n<10):IntKind.u8.wrap (IntKind.u32.wrap (48+(n:Int)))=((dg n).toNat:Int):=by rw[qsg h,IntKind.wrap_u32',IntKind.wrap_u8']; omega
theorem dm(x k:Nat){K:Int}(hK:K=k)(hx:x<2147483648)(hk:1<k) : ∃ a b:Nat,a=x / k/\b=x % k/\((x:Int).tdiv K=a/\(x:Int) / K=a/\IntKind.u32.wrap (a:Int)=a/\IntKind.u64.wrap (a:Int)=a/\(x:Int).tmod K=b/\(x:Int) % K=b/\IntKind.u32.wrap (b:Int)=b):=by
 subst hK
 have h1:x / k<=x:=Nat.div_le_self x k
 have h2:x % k<=x:=Nat.mod_le x k
 exact⟨_,_,rfl,rfl,rfl,rfl,qrP (by omega),qz8 (by omega),rfl,rfl,qrP (by omega)⟩
theorem pr{x:Nat}(h:x<100) : ∃ p q:Nat,IntKind.u32.wrap ((x:Int)*2)=(p:Int)/\IntKind.u32.wrap ((p:Int)+1)=(q:Int)/\tab2[p]?=some (dg (x / 10))/\tab2[q]?=some (dg (x % 10)):=
 ⟨2*x,2*x+1,by rw[IntKind.wrap_u32']; omega,by rw[IntKind.wrap_u32']; omega,qw4 x h,qw5 x h⟩
theorem qn9 : ∀ (n u:Nat),(qnc n u).length=n
 |0,_=>rfl
 |n+1,u=>by rw[qnc,Wr,qn9 n]; rfl
def buf(l:List UInt8):List V:=vb (0::(l++List.replicate (23-l.length) 0))
def FB(n u:Nat):Prop:=Z tQ (.call 295 [.msl 0 1 n 23 1,U64 u] [.cells (List.replicate 24 u8z)])=some (.ret (.tup []) [.cells (buf (decB u))])
theorem qzi{u:Nat}(h1:10 ^ 2<=u)(h2:u<10 ^ 3)(h3:u<2147483648):FB 3 u:=by
 have g1:=h1
 have g2:=h2
 simp only[Nat.reducePow] at g1 g2
 have n0:=qrP (n:=u) (by omega)
 obtain⟨G,t,eG,et,m1⟩:=dm u 100 (K:=100) rfl (by omega) (by omega)
 obtain⟨p2,q2,m2⟩:=pr (x:=t) (by omega)
 have n7:=wdg (n:=G) (by omega)
 have hd:decB u=[dg (G),dg (t / 10),dg (t % 10)]:=by
  rw[qcK (d:=2) h2 h1 (by omega)]
  simp only[qnc,Wc,Wf,Ww,and_true,W6,Nat.reduceMul]
  exact⟨dgc (by omega),dgc (by omega),dgc (by omega)⟩
 rw[FB,hd]
 clear hd
 obtain⟨v0,v1,v2,v3,v4,v5,v6,v7,v8,v9,v10,v11⟩:=qgJ
 refine Z_call (pf:=F295K tab2) rfl rfl ?_
 generalize tab2=tab at *
 simp[F295K,buf,vb,List.replicate,qab,qaa,qci,F295l0Kx,V.len,qag,Wa,v0,v1,v2,v3,v4,v5,v6,v7,v8,v9,v10,v11,n0,m1,m2,n7]
theorem qzj{u:Nat}(h1:10 ^ 3<=u)(h2:u<10 ^ 4)(h3:u<2147483648):FB 4 u:=by
 have g1:=h1
 have g2:=h2
 simp only[Nat.reducePow] at g1 g2
 have n0:=qrP (n:=u) (by omega)
 obtain⟨C,E,eC,eE,m1⟩:=dm u 10000 (K:=10000) rfl (by omega) (by omega)
 obtain⟨r,s,er,es,m2⟩:=dm E 100 (K:=100) rfl (by omega) (by omega)
 obtain⟨p3,q3,m3⟩:=pr (x:=s) (by omega)
 obtain⟨p4,q4,m4⟩:=pr (x:=r) (by omega)
 have hd:decB u=[dg (r / 10),dg (r % 10),dg (s / 10),dg (s % 10)]:=by
  rw[qcK (d:=3) h2 h1 (by omega)]
  simp only[qnc,Wc,Wf,Ww,and_true,W6,Nat.reduceMul]
  exact⟨dgc (by omega),dgc (by omega),dgc (by omega),dgc (by omega)⟩
 rw[FB,hd]
 clear hd
 obtain⟨v0,v1,v2,v3,v4,v5,v6,v7,v8,v9,v10,v11⟩:=qgJ
 refine Z_call (pf:=F295K tab2) rfl rfl ?_
 generalize tab2=tab at *
 simp[F295K,buf,vb,List.replicate,qab,qaa,qci,F295l0Kx,V.len,qag,Wa,v0,v1,v2,v3,v4,v5,v6,v7,v8,v9,v10,v11,n0,m1,m2,m3,m4]
theorem qzk{u:Nat}(h1:10 ^ 4<=u)(h2:u<10 ^ 5)(h3:u<2147483648):FB 5 u:=by
 have g1:=h1
 have g2:=h2
 simp only[Nat.reducePow] at g1 g2
 have n0:=qrP (n:=u) (by omega)
 obtain⟨C,E,eC,eE,m1⟩:=dm u 10000 (K:=10000) rfl (by omega) (by omega)
 obtain⟨r,s,er,es,m2⟩:=dm E 100 (K:=100) rfl (by omega) (by omega)
 obtain⟨p3,q3,m3⟩:=pr (x:=s) (by omega)
 obtain⟨p4,q4,m4⟩:=pr (x:=r) (by omega)
 have n7:=wdg (n:=C) (by omega)
 have hd:decB u=[dg (C),dg (r / 10),dg (r % 10),dg (s / 10),dg (s % 10)]:=by
  rw[qcK (d:=4) h2 h1 (by omega)]
  simp only[qnc,Wc,Wf,Ww,and_true,W6,Nat.reduceMul]
  exact⟨dgc (by omega),dgc (by omega),dgc (by omega),dgc (by omega),dgc (by omega)⟩
 rw[FB,hd]
 clear hd
 obtain⟨v0,v1,v2,v3,v4,v5,v6,v7,v8,v9,v10,v11⟩:=qgJ
 refine Z_call (pf:=F295K tab2) rfl rfl ?_
 generalize tab2=tab at *
 simp[F295K,buf,vb,List.replicate,qab,qaa,qci,F295l0Kx,V.len,qag,Wa,v0,v1,v2,v3,v4,v5,v6,v7,v8,v9,v10,v11,n0,m1,m2,m3,m4,n7]
theorem qzl{u:Nat}(h1:10 ^ 5<=u)(h2:u<10 ^ 6)(h3:u<2147483648):FB 6 u:=by
 have g1:=h1
 have g2:=h2
 simp only[Nat.reducePow] at g1 g2
 have n0:=qrP (n:=u) (by omega)
 obtain⟨C,E,eC,eE,m1⟩:=dm u 10000 (K:=10000) rfl (by omega) (by omega)
 obtain⟨r,s,er,es,m2⟩:=dm E 100 (K:=100) rfl (by omega) (by omega)
 obtain⟨p3,q3,m3⟩:=pr (x:=s) (by omega)
 obtain⟨p4,q4,m4⟩:=pr (x:=r) (by omega)
 obtain⟨G,t,eG,et,m5⟩:=dm C 100 (K:=100) rfl (by omega) (by omega)
 obtain⟨p6,q6,m6⟩:=pr (x:=t) (by omega)
 have hd:decB u=[dg (t / 10),dg (t % 10),dg (r / 10),dg (r % 10),dg (s / 10),dg (s % 10)]:=by
  rw[qcK (d:=5) h2 h1 (by omega)]
  simp only[qnc,Wc,Wf,Ww,and_true,W6,Nat.reduceMul]
  exact⟨dgc (by omega),dgc (by omega),dgc (by omega),dgc (by omega),dgc (by omega),dgc (by omega)⟩
 rw[FB,hd]
 clear hd
 obtain⟨v0,v1,v2,v3,v4,v5,v6,v7,v8,v9,v10,v11⟩:=qgJ
 refine Z_call (pf:=F295K tab2) rfl rfl ?_
 generalize tab2=tab at *
 simp[F295K,buf,vb,List.replicate,qab,qaa,qci,F295l0Kx,V.len,qag,Wa,v0,v1,v2,v3,v4,v5,v6,v7,v8,v9,v10,v11,n0,m1,m2,m3,m4,m5,m6]
theorem qzm{u:Nat}(h1:10 ^ 6<=u)(h2:u<10 ^ 7)(h3:u<2147483648):FB 7 u:=by
 have g1:=h1
 have g2:=h2
 simp only[Nat.reducePow] at g1 g2
 have n0:=qrP (n:=u) (by omega)
 obtain⟨C,E,eC,eE,m1⟩:=dm u 10000 (K:=10000) rfl (by omega) (by omega)
 obtain⟨r,s,er,es,m2⟩:=dm E 100 (K:=100) rfl (by omega) (by omega)
 obtain⟨p3,q3,m3⟩:=pr (x:=s) (by omega)
 obtain⟨p4,q4,m4⟩:=pr (x:=r) (by omega)
 obtain⟨G,t,eG,et,m5⟩:=dm C 100 (K:=100) rfl (by omega) (by omega)
 obtain⟨p6,q6,m6⟩:=pr (x:=t) (by omega)
 have n7:=wdg (n:=G) (by omega)
 have hd:decB u=[dg (G),dg (t / 10),dg (t % 10),dg (r / 10),dg (r % 10),dg (s / 10),dg (s % 10)]:=by
  rw[qcK (d:=6) h2 h1 (by omega)]
  simp only[qnc,Wc,Wf,Ww,and_true,W6,Nat.reduceMul]
  exact⟨dgc (by omega),dgc (by omega),dgc (by omega),dgc (by omega),dgc (by omega),dgc (by omega),dgc (by omega)⟩
 rw[FB,hd]
 clear hd
 obtain⟨v0,v1,v2,v3,v4,v5,v6,v7,v8,v9,v10,v11⟩:=qgJ
 refine Z_call (pf:=F295K tab2) rfl rfl ?_
 generalize tab2=tab at *
 simp[F295K,buf,vb,List.replicate,qab,qaa,qci,F295l0Kx,V.len,qag,Wa,v0,v1,v2,v3,v4,v5,v6,v7,v8,v9,v10,v11,n0,m1,m2,m3,m4,m5,m6,n7]
theorem qzn{u:Nat}(h1:10 ^ 7<=u)(h2:u<10 ^ 8)(h3:u<2147483648):FB 8 u:=by
 have g1:=h1
 have g2:=h2
 simp only[Nat.reducePow] at g1 g2
 have n0:=qrP (n:=u) (by omega)
 obtain⟨B,A,eB,eA,m1⟩:=dm u 100000000 (K:=100000000) rfl (by omega) (by omega)
 obtain⟨H,L,eH,eL,m2⟩:=dm A 10000 (K:=10000) rfl (by omega) (by omega)
 obtain⟨x,y,ex,ey,m3⟩:=dm L 100 (K:=100) rfl (by omega) (by omega)
 obtain⟨z,w,ez,ew,m4⟩:=dm H 100 (K:=100) rfl (by omega) (by omega)
 obtain⟨p5,q5,m5⟩:=pr (x:=y) (by omega)
 obtain⟨p6,q6,m6⟩:=pr (x:=x) (by omega)
 obtain⟨p7,q7,m7⟩:=pr (x:=w) (by omega)
 obtain⟨p8,q8,m8⟩:=pr (x:=z) (by omega)
 have hd:decB u=[dg (z / 10),dg (z % 10),dg (w / 10),dg (w % 10),dg (x / 10),dg (x % 10),dg (y / 10),dg (y % 10)]:=by
  rw[qcK (d:=7) h2 h1 (by omega)]
  simp only[qnc,Wc,Wf,Ww,and_true,W6,Nat.reduceMul]
  exact⟨dgc (by omega),dgc (by omega),dgc (by omega),dgc (by omega),dgc (by omega),dgc (by omega),dgc (by omega),dgc (by omega)⟩
 rw[FB,hd]
 clear hd
 obtain⟨v0,v1,v2,v3,v4,v5,v6,v7,v8,v9,v10,v11⟩:=qgJ
 refine Z_call (pf:=F295K tab2) rfl rfl ?_
 generalize tab2=tab at *
 simp[F295K,buf,vb,List.replicate,qab,qaa,qci,F295l0Kx,V.len,qag,Wa,v0,v1,v2,v3,v4,v5,v6,v7,v8,v9,v10,v11,n0,m1,m2,m3,m4,m5,m6,m7,m8]
theorem qzo{u:Nat}(h1:10 ^ 8<=u)(h2:u<10 ^ 9)(h3:u<2147483648):FB 9 u:=by
 have g1:=h1
 have g2:=h2
 simp only[Nat.reducePow] at g1 g2
 have n0:=qrP (n:=u) (by omega)
 obtain⟨B,A,eB,eA,m1⟩:=dm u 100000000 (K:=100000000) rfl (by omega) (by omega)
 obtain⟨H,L,eH,eL,m2⟩:=dm A 10000 (K:=10000) rfl (by omega) (by omega)
 obtain⟨x,y,ex,ey,m3⟩:=dm L 100 (K:=100) rfl (by omega) (by omega)
 obtain⟨z,w,ez,ew,m4⟩:=dm H 100 (K:=100) rfl (by omega) (by omega)
 obtain⟨p5,q5,m5⟩:=pr (x:=y) (by omega)
 obtain⟨p6,q6,m6⟩:=pr (x:=x) (by omega)
 obtain⟨p7,q7,m7⟩:=pr (x:=w) (by omega)
 obtain⟨p8,q8,m8⟩:=pr (x:=z) (by omega)
 have n7:=wdg (n:=B) (by omega)
 have hd:decB u=[dg (B),dg (z / 10),dg (z % 10),dg (w / 10),dg (w % 10),dg (x / 10),dg (x % 10),dg (y / 10),dg (y % 10)]:=by
  rw[qcK (d:=8) h2 h1 (by omega)]
  simp only[qnc,Wc,Wf,Ww,and_true,W6,Nat.reduceMul]
  exact⟨dgc (by omega),dgc (by omega),dgc (by omega),dgc (by omega),dgc (by omega),dgc (by omega),dgc (by omega),dgc (by omega),dgc (by omega)⟩
 rw[FB,hd]
 clear hd
 obtain⟨v0,v1,v2,v3,v4,v5,v6,v7,v8,v9,v10,v11⟩:=qgJ
 refine Z_call (pf:=F295K tab2) rfl rfl ?_
 generalize tab2=tab at *
 simp[F295K,buf,vb,List.replicate,qab,qaa,qci,F295l0Kx,V.len,qag,Wa,v0,v1,v2,v3,v4,v5,v6,v7,v8,v9,v10,v11,n0,m1,m2,m3,m4,m5,m6,m7,m8,n7]
theorem qxm{u:Nat}(h1:10 ^ 9<=u)(h2:u<10 ^ 10)(h3:u<2147483648):FB 10 u:=by
 have g1:=h1
 have g2:=h2
 simp only[Nat.reducePow] at g1 g2
 have n0:=qrP (n:=u) (by omega)
 obtain⟨B,A,eB,eA,m1⟩:=dm u 100000000 (K:=100000000) rfl (by omega) (by omega)
 obtain⟨H,L,eH,eL,m2⟩:=dm A 10000 (K:=10000) rfl (by omega) (by omega)
 obtain⟨x,y,ex,ey,m3⟩:=dm L 100 (K:=100) rfl (by omega) (by omega)
 obtain⟨z,w,ez,ew,m4⟩:=dm H 100 (K:=100) rfl (by omega) (by omega)
 obtain⟨p5,q5,m5⟩:=pr (x:=y) (by omega)
 obtain⟨p6,q6,m6⟩:=pr (x:=x) (by omega)
 obtain⟨p7,q7,m7⟩:=pr (x:=w) (by omega)
 obtain⟨p8,q8,m8⟩:=pr (x:=z) (by omega)
 obtain⟨G,t,eG,et,m9⟩:=dm B 100 (K:=100) rfl (by omega) (by omega)
 obtain⟨p10,q10,m10⟩:=pr (x:=t) (by omega)
 have hd:decB u=[dg (t / 10),dg (t % 10),dg (z / 10),dg (z % 10),dg (w / 10),dg (w % 10),dg (x / 10),dg (x % 10),dg (y / 10),dg (y % 10)]:=by
  rw[qcK (d:=9) h2 h1 (by omega)]
  simp only[qnc,Wc,Wf,Ww,and_true,W6,Nat.reduceMul]
  exact⟨dgc (by omega),dgc (by omega),dgc (by omega),dgc (by omega),dgc (by omega),dgc (by omega),dgc (by omega),dgc (by omega),dgc (by omega),dgc (by omega)⟩
 rw[FB,hd]
 clear hd
 obtain⟨v0,v1,v2,v3,v4,v5,v6,v7,v8,v9,v10,v11⟩:=qgJ
 refine Z_call (pf:=F295K tab2) rfl rfl ?_
 generalize tab2=tab at *
 simp[F295K,buf,vb,List.replicate,qab,qaa,qci,F295l0Kx,V.len,qag,Wa,v0,v1,v2,v3,v4,v5,v6,v7,v8,v9,v10,v11,n0,m1,m2,m3,m4,m5,m6,m7,m8,m9,m10]
theorem qAt{u n:Nat}(hn:3<=n)(hn10:n<=10)(h1:10 ^ (n-1)<=u)(h2:u<10 ^ n)(h3:u<2147483648)(zf:FB n u)(z:Z tQ (.call 294 [U64 u] [])=some (.ret (.int n) [])):Z tQ (.call 291 [.int u,.int 10] [])=some (.ret (.str (bs (decB u))) []):=by
 have ht:=qj9 (decB u)
 have h100:100<=u:=Yf (show 10 ^ 2<=10 ^ (n-1) from YK (show 0<10 by omega) (show 2<=n-1 by omega)) h1
 have hl:(decB u).length=n:=by
  have:=qcK (d:=n-1) (u:=u) (by rw[show n-1+1=n by omega]; exact h2) h1 (by omega)
  rw[this,qn9]
  omega
 have c1 : ¬ (u:Int)<100:=by omega
 have c2 : ¬ (u:Int)<0:=by omega
 have c3:(0:Int)<=u:=by omega
 have c4:=qz8 (show u<18446744073709551616 by omega)
 obtain⟨v0,v1,v2,v3,v4,v5,v6,v7,v8,v9,v10,v11⟩:=qgJ
 obtain⟨W,hW⟩ : ∃ W,W=0::(decB u++List.replicate (23-(decB u).length) (0:UInt8)):=⟨_,rfl⟩
 rw[FB,buf,<- hW] at zf
 have hw:qch (((vb W).drop 1).take n)=some (decB u):=by
  rw[hW,vb,Wo,List.drop_one,WR,List.map_append,Ys (by rw[Yb]; exact hl)]
  exact ht
 rw[List.drop_one] at hw
 have hmin:min n 23=n:=by omega
 have hWl:(vb W).length=24:=by rw[vb,Yb,hW,Wj,Wr,List.length_replicate,hl]; omega
 obtain⟨m,hm⟩ : ∃ m,m=n+1:=⟨_,rfl⟩
 have w1:IntKind.i64.wrap (1+(n:Int))=(m:Int):=by rw[qae _ (by omega)]; omega
 have b1:(m:Int)<=24:=by omega
 have b2:1<=m:=by omega
 have b3:(1:Int)<=m:=by omega
 have b4:m-1=n:=by omega
 have b5:1+n<=24:=by omega
 have b6:m<=24:=by omega
 clear ht hl h1 h2 hW hm
 generalize decB u=q at *
 simp only[List.replicate] at zf
 refine Z_call (pf:=F291) rfl rfl ?_
 simp[F291,qgc,qi3,z,zf,hw,hWl,hmin,bs,c1,c2,c3,c4,w1,b1,b2,b3,b4,b5,b6,bound,List.replicate,Wa,v0,v1,v2,v3,v4,v5,v6,v7,v8,v9,v10,v11]
def tabA:ByteArray:=⟨#[48,49,50,51,52,53,54,55,56,57,97,98,99,100,101,102,103,104,105,106,107,108,109,110,111,112,113,114,115,116,117,118,119,120,121,122]⟩
theorem quW{u:Nat}(h:u<100):Z tQ (.call 293 [.int u] [])=some (.ret (.str (bs (decB u))) []):=by
 have hA : ∀ u,u<10->tabA.extract u (u+1)=bs (decB u):=by decide +kernel
 have hB : ∀ u,u<100 -> ¬ u<10->tab2.extract (u*2) (u*2+2)=bs (decB u):=by decide +kernel
 refine Z_call (pf:=F293) rfl rfl ?_
 have sA:tabA.size=36:=rfl
 have sB:tab2.size=200:=rfl
 by_cases h10:u<10
 ·have c1:(u:Int)<10:=by omega
  have e:=hA u h10
  have w1:IntKind.i64.wrap ((u:Int)+1)=((u+1:Nat):Int):=by rw[qae _ (by omega)]; omega
  obtain⟨u1,hu1⟩ : ∃ p:Nat,p=u+1:=⟨_,rfl⟩
  rw[<- hu1] at w1 e
  have b1:(u1:Int)<=tabA.size:=by rw[sA]; omega
  have b2:(u:Int)<=u1:=by omega
  simp only[tabA] at e b1
  generalize bs (decB u)=r at *
  simp[F293,c1,w1,qa1,bound,b1,b2,e]
 ·have c1 : ¬ (u:Int)<10:=by omega
  have e:=hB u h h10
  have w1:IntKind.i64.wrap ((u:Int)*2)=((u*2:Nat):Int):=by rw[qae _ (by omega)]; omega
  obtain⟨u2,hu2⟩ : ∃ p:Nat,p=u*2:=⟨_,rfl⟩
  rw[<- hu2] at w1 e
  have w2:IntKind.i64.wrap ((u2:Int)+2)=((u2+2:Nat):Int):=by rw[qae _ (by omega)]; omega
  obtain⟨u3,hu3⟩ : ∃ p:Nat,p=u2+2:=⟨_,rfl⟩
  rw[<- hu3] at w2 e
  have b1:(u3:Int)<=tab2.size:=by rw[sB]; omega
  have b2:(u2:Int)<=u3:=by omega
  simp only[tab2] at e b1
  generalize bs (decB u)=r at *
  simp[F293,c1,w1,w2,qa1,bound,b1,b2,e]
theorem qsz{u:Nat}(h:u<2147483648):Z tQ (.call 291 [.int u,.int 10] [])=some (.ret (.str (bs (decB u))) []):=by
 by_cases h1:u<100
 ·have z:=quW h1
  have c1:(u:Int)<100:=by omega
  generalize bs (decB u)=r at *
  refine Z_call (pf:=F291) rfl rfl ?_
  simp[F291,z,c1]
 ·obtain⟨d,d1,d2,d3,d4,z⟩:=qsh (by omega) h
  have hd:d=3\/d=4\/d=5\/d=6\/d=7\/d=8\/d=9\/d=10:=by omega
  refine qAt d1 d2 d3 d4 h ?_ z
  rcases hd with rfl|rfl|rfl|rfl|rfl|rfl|rfl|rfl
  ·exact qzi d3 d4 h
  ·exact qzj d3 d4 h
  ·exact qzk d3 d4 h
  ·exact qzl d3 d4 h
  ·exact qzm d3 d4 h
  ·exact qzn d3 d4 h
  ·exact qzo d3 d4 h
  ·exact qxm d3 d4 h
theorem qxn{n:Int}(h0:0<=n)(h:n<=2147483647):Z tQ (.call 283 [.int n] [])=some (.ret (.str (bs (decB n.toNat))) []):=by
 have z:=qsz (u:=n.toNat) (by omega)
 rw[show ((n.toNat:Nat):Int)=n by omega] at z
 have z2:Z tQ (.call 288 [.int n] [])=some (.ret (.str (bs (decB n.toNat))) []):=by
  refine Z_call (pf:=F288) rfl rfl ?_
  simp[F288,z]
 refine Z_call (pf:=F283) rfl rfl ?_
 simp[F283,z2]
end
section
open F
theorem qdu(e:E):Z tQ (.call 282 [e.node] [])=some (.ret (.int e.lev) []):=by
 refine Z_call (pf:=F282) rfl rfl ?_
 cases e with
 |un f neg e=>cases neg<;>simp[F282,E.lev,qdc,ustr,qah]
 |bin f o a b=>cases o<;>simp[F282,E.lev,Bop.prec,Bop.str,qah]
 |_=>simp[F282,E.lev]
theorem qvh {k n:Int} {s:ByteArray} {cs:List D} {m i:Nat} {f:Bool} {ds:List D} (hi:i<m) (hm:m<2 ^ 30) (hc:cutCells cs (i*4) 4=some ds) (ho:ds.length=4) (h1 : ∀ d∈ds,V.one (.dat d)=true) :
  Z tQ (.call 274 [.dat (.agg [.lit (.int .i64 k),.lit (.int .i64 n),.lit (.string s),.sl cs m f]),.int i] [])=some (.ret (.dat (.agg ds)) []):=by
 obtain⟨a,b,c,d,rfl⟩ : ∃ a b c d,ds=[a,b,c,d]:=by
  match ds,ho with
  |[a,b,c,d],_=>exact⟨a,b,c,d,rfl⟩
 have ha:=h1 a (by simp)
 have hb:=h1 b (by simp)
 have hcc:=h1 c (by simp)
 have hd:=h1 d (by simp)
 have hlt:(i:Int)<m:=by omega
 refine Z_call (pf:=F274) rfl rfl ?_
 simp[F274,hc,ha,hb,hcc,hd,hlt,hi,qag,V.len,Wa]
theorem qeq {k n:Int} {s:ByteArray} {a b:Int} {t:ByteArray} {u:D} {r:List D} {m:Nat} {f:Bool} (hm:0<m) (hm2:m<2 ^ 30) (hu:V.one (.dat u)=true) :
  Z tQ (.call 274 [.dat (.agg [.lit (.int .i64 k),.lit (.int .i64 n),.lit (.string s),.sl (.lit (.int .i64 a) :: .lit (.int .i64 b) :: .lit (.string t)::u::r) m f]),.int 0] [])=some (.ret (.dat (.agg [.lit (.int .i64 a),.lit (.int .i64 b),.lit (.string t),u])) []):=
 qvh (i:=0) hm hm2 (by simp) rfl (by simp[hu,Value.oneCell'])
theorem qgQ {k n:Int} {s:ByteArray} {a b:Int} {t:ByteArray} {u x0 x1 x2 x3:D} {r:List D} {m:Nat} {f:Bool} (hm:1<m) (hm2:m<2 ^ 30) (hu:V.one (.dat u)=true) :
  Z tQ (.call 274 [.dat (.agg [.lit (.int .i64 k),.lit (.int .i64 n),.lit (.string s),.sl (x0::x1::x2::x3 :: .lit (.int .i64 a) :: .lit (.int .i64 b) :: .lit (.string t)::u::r) m f]),.int 1] [])=some (.ret (.dat (.agg [.lit (.int .i64 a),.lit (.int .i64 b),.lit (.string t),u])) []):=
 qvh (i:=1) hm hm2 (by simp) rfl (by simp[hu,Value.oneCell'])
theorem qtR {k n:Int} {s:ByteArray} {a b:Int} {t:ByteArray} {u x0 x1 x2 x3 y0 y1 y2 y3:D} {r:List D} {m:Nat} {f:Bool} (hm:2<m) (hm2:m<2 ^ 30) (hu:V.one (.dat u)=true) :
  Z tQ (.call 274 [.dat (.agg [.lit (.int .i64 k),.lit (.int .i64 n),.lit (.string s),.sl (x0::x1::x2::x3::y0::y1::y2::y3 :: .lit (.int .i64 a) :: .lit (.int .i64 b) :: .lit (.string t)::u::r) m f]),.int 2] [])=some (.ret (.dat (.agg [.lit (.int .i64 a),.lit (.int .i64 b),.lit (.string t),u])) []):=
 qvh (i:=2) hm hm2 (by simp) rfl (by simp[hu,Value.oneCell'])
theorem qb0{t:ByteArray}{w w':List UInt8}(hw:w'=pw w [t])(ht:t.size≠0)(h:w'.length<2 ^ 40):Z tQ (.call 243 [.ptr 0 0,.dat (.sl [.lit (.string t)] 1 true)] (PW w))=some (.ret (.tup []) (PW w')):=by
 subst hw
 exact qxw true (ts:=[t]) (fun x hx=>by rw[Wk.1 hx]; exact ht) (by simp) h
theorem qf0{t u:ByteArray}{w w':List UInt8}(hw:w'=pw w [t,u])(ht:t.size≠0)(hu:u.size≠0)(h:w'.length<2 ^ 40):Z tQ (.call 243 [.ptr 0 0,.dat (.sl [.lit (.string t),.lit (.string u)] 2 true)] (PW w))=some (.ret (.tup []) (PW w')):=by
 subst hw
 exact qxw true (ts:=[t,u]) (fun x hx=>by
  rcases Ws.1 hx with e|hx
  ·rw[e]; exact ht
  ·rw[Wk.1 hx]; exact hu) (by simp) h
theorem qnn{t:ByteArray}{w w':List UInt8}(hw:w'=pw w [t])(ht:t.size≠0)(h:w'.length<2 ^ 40):Z tQ (.dcall 243 [.dat (.lit .nilIface),.ptr 0 0,.dat (.sl [.lit (.string t)] 1 true)] (PW w))=some (.ret (.dat (.lit undef)) (PW w')):=by
 subst hw
 exact qxx true (ts:=[t]) (fun x hx=>by rw[Wk.1 hx]; exact ht) (by simp) h
end
section
open F
attribute [local simp] qgc qi3 dkey
theorem qar{w w':List UInt8}{ts:List ByteArray}{k:Nat}(hw:w'=pw w ts)(h:w'.length<k):w.length<k:=Wx (by rw[hw]; exact qkb w ts) h
def qfU(e:E)(p:Nat)(i:Int):Prop := ∀ w w',w'=pw w (e.tx false p)->w'.length<2 ^ 40->Z tQ (.call 273 [.ptr 0 0,e.node,.int i] (PW w))=some (.ret (.tup []) (PW w'))
theorem qie(o:Bop):o.str.size≠0:=by cases o<;>decide
theorem qmg(b:Bool):(ustr b).size≠0:=by cases b<;>decide
theorem qqk{n:Int}(h0:0<=n)(h1:n<=2147483647):(bs (decB n.toNat)).size≠0:=by
 obtain⟨_,_,c,r,h⟩:=qfc (n:=n.toNat) (by omega)
 rw[qav,h]
 simp
theorem qw6{n:Int}(h0:0<=n)(h1:n<=2147483647){p:Nat}{i:Int}(hi:i=p)(hp:p<=8):qfU (E.int n) p i:=by
 intro w w' hw hsz
 have zl:Z tQ (.call 282 [.dat (.agg [.lit (.int .i64 8),.lit (.int .i64 n),.lit (.string ⟨#[]⟩),.lit (.slice none 0 0)])] [])=some (.ret (.int 8) []):=qdu (.int n)
 have hc : ¬ (8:Int)<i:=by omega
 have htx:(E.int n).tx false p=[bs (decB n.toNat)]:=by
  have hq : ¬ 8<p:=by omega
  simp[E.tx,qbB,qdc,ustr,bs,qdX,qgP,Bop.left,hq]
 have e1:w'=pw w [bs (decB n.toNat)]:=by rw[hw,htx]
 have s1:=hsz
 have z1:=qb0 e1 (qqk h0 h1) s1
 have f0:=qxn h0 h1
 simp only[PW,PW'] at z1 ⊢
 clear e1 s1 hw htx hsz
 refine Z_call (pf:=F273) rfl rfl ?_
 simp[F273,zl,hc,f0,z1,Wa]
theorem qsi{p:Nat}{i:Int}(hi:i=p)(hp:p<=8):qfU (E.bool 0) p i:=by
 intro w w' hw hsz
 have zl:Z tQ (.call 282 [.dat (.agg [.lit (.int .i64 9),.lit (.int .i64 0),.lit (.string ⟨#[]⟩),.lit (.slice none 0 0)])] [])=some (.ret (.int 8) []):=qdu (.bool 0)
 have hc : ¬ (8:Int)<i:=by omega
 have htx:(E.bool 0).tx false p=[⟨#[102,97,108,115,101]⟩]:=by
  have hq : ¬ 8<p:=by omega
  simp[E.tx,qbB,qdc,ustr,bs,qdX,qgP,Bop.left,hq]
 have e1:w'=pw w [⟨#[102,97,108,115,101]⟩]:=by rw[hw,htx]
 have s1:=hsz
 have z1:=qb0 e1 (by decide) s1
 simp only[PW,PW'] at z1 ⊢
 clear e1 s1 hw htx hsz
 refine Z_call (pf:=F273) rfl rfl ?_
 simp[F273,zl,hc,z1,Wa]
theorem qsj{p:Nat}{i:Int}(hi:i=p)(hp:p<=8):qfU (E.bool 1) p i:=by
 intro w w' hw hsz
 have zl:Z tQ (.call 282 [.dat (.agg [.lit (.int .i64 9),.lit (.int .i64 1),.lit (.string ⟨#[]⟩),.lit (.slice none 0 0)])] [])=some (.ret (.int 8) []):=qdu (.bool 1)
 have hc : ¬ (8:Int)<i:=by omega
 have htx:(E.bool 1).tx false p=[⟨#[116,114,117,101]⟩]:=by
  have hq : ¬ 8<p:=by omega
  simp[E.tx,qbB,qdc,ustr,bs,qdX,qgP,Bop.left,hq]
 have e1:w'=pw w [⟨#[116,114,117,101]⟩]:=by rw[hw,htx]
 have s1:=hsz
 have z1:=qb0 e1 (by decide) s1
 simp only[PW,PW'] at z1 ⊢
 clear e1 s1 hw htx hsz
 refine Z_call (pf:=F273) rfl rfl ?_
 simp[F273,zl,hc,z1,Wa]
theorem qw7{s:ByteArray}(hs:s.size≠0){p:Nat}{i:Int}(hi:i=p)(hp:p<=8):qfU (E.var s) p i:=by
 intro w w' hw hsz
 have zl:Z tQ (.call 282 [.dat (.agg [.lit (.int .i64 10),.lit (.int .i64 0),.lit (.string s),.lit (.slice none 0 0)])] [])=some (.ret (.int 8) []):=qdu (.var s)
 have hc : ¬ (8:Int)<i:=by omega
 have htx:(E.var s).tx false p=[s]:=by
  have hq : ¬ 8<p:=by omega
  simp[E.tx,qbB,qdc,ustr,bs,qdX,qgP,Bop.left,hq]
 have e1:w'=pw w [s]:=by rw[hw,htx]
 have s1:=hsz
 have z1:=qb0 e1 (hs) s1
 simp only[PW,PW'] at z1 ⊢
 clear e1 s1 hw htx hsz
 refine Z_call (pf:=F273) rfl rfl ?_
 simp[F273,zl,hc,z1,Wa]
theorem quM{s:ByteArray}(hs:s.size≠0){p:Nat}{i:Int}(hi:i=p)(hp:p<=8):qfU (E.name s) p i:=by
 intro w w' hw hsz
 have zl:Z tQ (.call 282 [.dat (.agg [.lit (.int .i64 12),.lit (.int .i64 0),.lit (.string s),.lit (.slice none 0 0)])] [])=some (.ret (.int 8) []):=qdu (.name s)
 have hc : ¬ (8:Int)<i:=by omega
 have htx:(E.name s).tx false p=[s]:=by
  have hq : ¬ 8<p:=by omega
  simp[E.tx,qbB,qdc,ustr,bs,qdX,qgP,Bop.left,hq]
 have e1:w'=pw w [s]:=by rw[hw,htx]
 have s1:=hsz
 have z1:=qb0 e1 (hs) s1
 simp only[PW,PW'] at z1 ⊢
 clear e1 s1 hw htx hsz
 refine Z_call (pf:=F273) rfl rfl ?_
 simp[F273,zl,hc,z1,Wa]
theorem qsk{f:Bool}{s:ByteArray}{e:E}(hs:s.size≠0)(he:qfU e 1 1){p:Nat}{i:Int}(hi:i=p)(hp:p<=8):qfU (E.field f s e) p i:=by
 intro w w' hw hsz
 have zl:Z tQ (.call 282 [.dat (.agg [.lit (.int .i64 11),.lit (.int .i64 0),.lit (.string s),.sl [.lit (.int .i64 e.kind),.lit (.int .i64 e.num),.lit (.string e.str),e.kids] 1 f])] [])=some (.ret (.int 8) []):=qdu (.field f s e)
 have hc : ¬ (8:Int)<i:=by omega
 have htx:(E.field f s e).tx false p=[s,⟨#[91]⟩]++((e.tx false 1)++([⟨#[93]⟩])):=by
  have hq : ¬ 8<p:=by omega
  simp[E.tx,qbB,qdc,ustr,bs,qdX,qgP,Bop.left,hq]
 obtain⟨w1,e1⟩ : ∃ x,x=pw w [s,⟨#[91]⟩]:=⟨_,rfl⟩
 obtain⟨w2,e2⟩ : ∃ x,x=pw w1 (e.tx false 1):=⟨_,rfl⟩
 have e3:w'=pw w2 [⟨#[93]⟩]:=by rw[hw,htx,qay,<- e1,qay,<- e2]
 have s3:=hsz
 have s2:=qar e3 s3
 have s1:=qar e2 s2
 have z1:=qf0 e1 (hs) (by decide) s1
 have z2:=he w1 w2 e2 s2
 have z3:=qb0 e3 (by decide) s3
 have f0:=qeq (k:=11) (n:=0) (s:=s) (a:=e.kind) (b:=e.num) (t:=e.str) (u:=e.kids) (r:=[]) (m:=1) (f:=f) (by omega) (by omega) (qbq e)
 simp only[PW,PW'] at z1 z2 z3 ⊢
 clear e1 e2 e3 s1 s2 s3 hw htx hsz
 refine Z_call (pf:=F273) rfl rfl ?_
 simp[F273,zl,hc,f0,z1,z2,z3,Wa]
theorem qzd{f neg:Bool}{e:E}{L:Nat}(hL:L=qdc neg)(he:qfU e L L){p:Nat}{i:Int}(hi:i=p)(hp:p<=L):qfU (E.un f neg e) p i:=by
 intro w w' hw hsz
 have zl:Z tQ (.call 282 [.dat (.agg [.lit (.int .i64 13),.lit (.int .i64 0),.lit (.string (ustr neg)),.sl [.lit (.int .i64 e.kind),.lit (.int .i64 e.num),.lit (.string e.str),e.kids] 1 f])] [])=some (.ret (.int L) []):=by
  have:=qdu (.un f neg e)
  rw[show E.lev (.un f neg e)=L from hL.symm] at this
  exact this
 have hc : ¬ (L:Int)<i:=by omega
 have htx:(E.un f neg e).tx false p=[ustr neg]++((e.tx false L)):=by
  have hq : ¬ L<p:=by omega
  simp[E.tx,qbB,bs,hL.symm,hq]
 obtain⟨w1,e1⟩ : ∃ x,x=pw w [ustr neg]:=⟨_,rfl⟩
 have e2:w'=pw w1 (e.tx false L):=by rw[hw,htx,qay,<- e1]
 have s2:=hsz
 have s1:=qar e2 s2
 have z1:=qb0 e1 (qmg neg) s1
 have z2:=he w1 w' e2 s2
 have f0:=qeq (k:=13) (n:=0) (s:=ustr neg) (a:=e.kind) (b:=e.num) (t:=e.str) (u:=e.kids) (r:=[]) (m:=1) (f:=f) (by omega) (by omega) (qbq e)
 simp only[PW,PW'] at z1 z2 ⊢
 clear e1 e2 s1 s2 hw htx hsz
 refine Z_call (pf:=F273) rfl rfl ?_
 simp[F273,zl,hc,f0,z1,z2,Wa]
theorem qw8{f neg:Bool}{e:E}{L:Nat}(hL:L=qdc neg)(he:qfU e L L){p:Nat}{i:Int}(hi:i=p)(hp:L<p):qfU (E.un f neg e) p i:=by
 intro w w' hw hsz
 have zl:Z tQ (.call 282 [.dat (.agg [.lit (.int .i64 13),.lit (.int .i64 0),.lit (.string (ustr neg)),.sl [.lit (.int .i64 e.kind),.lit (.int .i64 e.num),.lit (.string e.str),e.kids] 1 f])] [])=some (.ret (.int L) []):=by
  have:=qdu (.un f neg e)
  rw[show E.lev (.un f neg e)=L from hL.symm] at this
  exact this
 have hc:(L:Int)<i:=by omega
 have htx:(E.un f neg e).tx false p=[⟨#[40]⟩]++([ustr neg]++((e.tx false L)++([⟨#[41]⟩]))):=by
  have hq:L<p:=hp
  simp[E.tx,qbB,bs,hL.symm,hq]
 obtain⟨w1,e1⟩ : ∃ x,x=pw w [⟨#[40]⟩]:=⟨_,rfl⟩
 obtain⟨w2,e2⟩ : ∃ x,x=pw w1 [ustr neg]:=⟨_,rfl⟩
 obtain⟨w3,e3⟩ : ∃ x,x=pw w2 (e.tx false L):=⟨_,rfl⟩
 have e4:w'=pw w3 [⟨#[41]⟩]:=by rw[hw,htx,qay,<- e1,qay,<- e2,qay,<- e3]
 have s4:=hsz
 have s3:=qar e4 s4
 have s2:=qar e3 s3
 have s1:=qar e2 s2
 have z1:=qb0 e1 (by decide) s1
 have z2:=qb0 e2 (qmg neg) s2
 have z3:=he w2 w3 e3 s3
 have z4:=qnn e4 (by decide) s4
 have f0:=qeq (k:=13) (n:=0) (s:=ustr neg) (a:=e.kind) (b:=e.num) (t:=e.str) (u:=e.kids) (r:=[]) (m:=1) (f:=f) (by omega) (by omega) (qbq e)
 simp only[PW,PW'] at z1 z2 z3 z4 ⊢
 clear e1 e2 e3 e4 s1 s2 s3 s4 hw htx hsz
 refine Z_call (pf:=F273) rfl rfl ?_
 simp[F273,zl,hc,f0,z1,z2,z3,z4,Wa]
theorem qw9{f:Bool}{o:Bop}{a b:E}{L:Nat}(hl:o.prec=L)(h4:L≠4)(ha:qfU a L L)(hb:qfU b (L+1) ((L:Int)+1)){p:Nat}{i:Int}(hi:i=p)(hp:p<=L):qfU (E.bin f o a b) p i:=by
 intro w w' hw hsz
 have zl:Z tQ (.call 282 [.dat (.agg [.lit (.int .i64 14),.lit (.int .i64 0),.lit (.string o.str),.sl [.lit (.int .i64 a.kind),.lit (.int .i64 a.num),.lit (.string a.str),a.kids,.lit (.int .i64 b.kind),.lit (.int .i64 b.num),.lit (.string b.str),b.kids] 2 f])] [])=some (.ret (.int L) []):=by
  have:=qdu (.bin f o a b)
  rw[show E.lev (.bin f o a b)=L from hl] at this
  exact this
 have hc : ¬ (L:Int)<i:=by omega
 have hlf:o.left=L:=by have:=qa8 o; omega
 have h4' : ¬ (L:Int)=4:=by omega
 have wL:=qae ((L:Int)+1) (by have:=qa8 o; omega)
 have htx:(E.bin f o a b).tx false p=(a.tx false L)++([o.str]++((b.tx false (L+1)))):=by
  have hq : ¬ L<p:=by omega
  simp[E.tx,qbB,bs,hl,hlf,hq]
 obtain⟨w1,e1⟩ : ∃ x,x=pw w (a.tx false L):=⟨_,rfl⟩
 obtain⟨w2,e2⟩ : ∃ x,x=pw w1 [o.str]:=⟨_,rfl⟩
 have e3:w'=pw w2 (b.tx false (L+1)):=by rw[hw,htx,qay,<- e1,qay,<- e2]
 have s3:=hsz
 have s2:=qar e3 s3
 have s1:=qar e2 s2
 have z1:=ha w w1 e1 s1
 have z2:=qb0 e2 (qie o) s2
 have z3:=hb w2 w' e3 s3
 have f0:=qeq (k:=14) (n:=0) (s:=o.str) (a:=a.kind) (b:=a.num) (t:=a.str) (u:=a.kids) (r:=[.lit (.int .i64 b.kind),.lit (.int .i64 b.num),.lit (.string b.str),b.kids]) (m:=2) (f:=f) (by omega) (by omega) (qbq a)
 have f1:=qgQ (k:=14) (n:=0) (s:=o.str) (x0 := .lit (.int .i64 a.kind)) (x1 := .lit (.int .i64 a.num)) (x2 := .lit (.string a.str)) (x3:=a.kids) (a:=b.kind) (b:=b.num) (t:=b.str) (u:=b.kids) (r:=[]) (m:=2) (f:=f) (by omega) (by omega) (qbq b)
 simp only[PW,PW'] at z1 z2 z3 ⊢
 clear e1 e2 e3 s1 s2 s3 hw htx hsz
 refine Z_call (pf:=F273) rfl rfl ?_
 simp[F273,zl,hc,f0,f1,z1,z2,z3,Wa,h4',wL]
theorem quN{f:Bool}{o:Bop}{a b:E}{L:Nat}(hl:o.prec=L)(h4:L≠4)(ha:qfU a L L)(hb:qfU b (L+1) ((L:Int)+1)){p:Nat}{i:Int}(hi:i=p)(hp:L<p):qfU (E.bin f o a b) p i:=by
 intro w w' hw hsz
 have zl:Z tQ (.call 282 [.dat (.agg [.lit (.int .i64 14),.lit (.int .i64 0),.lit (.string o.str),.sl [.lit (.int .i64 a.kind),.lit (.int .i64 a.num),.lit (.string a.str),a.kids,.lit (.int .i64 b.kind),.lit (.int .i64 b.num),.lit (.string b.str),b.kids] 2 f])] [])=some (.ret (.int L) []):=by
  have:=qdu (.bin f o a b)
  rw[show E.lev (.bin f o a b)=L from hl] at this
  exact this
 have hc:(L:Int)<i:=by omega
 have hlf:o.left=L:=by have:=qa8 o; omega
 have h4' : ¬ (L:Int)=4:=by omega
 have wL:=qae ((L:Int)+1) (by have:=qa8 o; omega)
 have htx:(E.bin f o a b).tx false p=[⟨#[40]⟩]++((a.tx false L)++([o.str]++((b.tx false (L+1))++([⟨#[41]⟩])))):=by
  have hq:L<p:=hp
  simp[E.tx,qbB,bs,hl,hlf,hq]
 obtain⟨w1,e1⟩ : ∃ x,x=pw w [⟨#[40]⟩]:=⟨_,rfl⟩
 obtain⟨w2,e2⟩ : ∃ x,x=pw w1 (a.tx false L):=⟨_,rfl⟩
 obtain⟨w3,e3⟩ : ∃ x,x=pw w2 [o.str]:=⟨_,rfl⟩
 obtain⟨w4,e4⟩ : ∃ x,x=pw w3 (b.tx false (L+1)):=⟨_,rfl⟩
 have e5:w'=pw w4 [⟨#[41]⟩]:=by rw[hw,htx,qay,<- e1,qay,<- e2,qay,<- e3,qay,<- e4]
 have s5:=hsz
 have s4:=qar e5 s5
 have s3:=qar e4 s4
 have s2:=qar e3 s3
 have s1:=qar e2 s2
 have z1:=qb0 e1 (by decide) s1
 have z2:=ha w1 w2 e2 s2
 have z3:=qb0 e3 (qie o) s3
 have z4:=hb w3 w4 e4 s4
 have z5:=qnn e5 (by decide) s5
 have f0:=qeq (k:=14) (n:=0) (s:=o.str) (a:=a.kind) (b:=a.num) (t:=a.str) (u:=a.kids) (r:=[.lit (.int .i64 b.kind),.lit (.int .i64 b.num),.lit (.string b.str),b.kids]) (m:=2) (f:=f) (by omega) (by omega) (qbq a)
 have f1:=qgQ (k:=14) (n:=0) (s:=o.str) (x0 := .lit (.int .i64 a.kind)) (x1 := .lit (.int .i64 a.num)) (x2 := .lit (.string a.str)) (x3:=a.kids) (a:=b.kind) (b:=b.num) (t:=b.str) (u:=b.kids) (r:=[]) (m:=2) (f:=f) (by omega) (by omega) (qbq b)
 simp only[PW,PW'] at z1 z2 z3 z4 z5 ⊢
 clear e1 e2 e3 e4 e5 s1 s2 s3 s4 s5 hw htx hsz
 refine Z_call (pf:=F273) rfl rfl ?_
 simp[F273,zl,hc,f0,f1,z1,z2,z3,z4,z5,Wa,h4',wL]
theorem quO{f:Bool}{o:Bop}{a b:E}(hl:o.prec=4)(ha:qfU a 5 5)(hb:qfU b 5 5){p:Nat}{i:Int}(hi:i=p)(hp:p<=4):qfU (E.bin f o a b) p i:=by
 intro w w' hw hsz
 have zl:Z tQ (.call 282 [.dat (.agg [.lit (.int .i64 14),.lit (.int .i64 0),.lit (.string o.str),.sl [.lit (.int .i64 a.kind),.lit (.int .i64 a.num),.lit (.string a.str),a.kids,.lit (.int .i64 b.kind),.lit (.int .i64 b.num),.lit (.string b.str),b.kids] 2 f])] [])=some (.ret (.int 4) []):=by
  have:=qdu (.bin f o a b)
  rw[show E.lev (.bin f o a b)=4 from hl] at this
  exact this
 have hc : ¬ (4:Int)<i:=by omega
 have hlf:o.left=5:=by have:=qa8 o; omega
 have htx:(E.bin f o a b).tx false p=(a.tx false 5)++([o.str]++((b.tx false 5))):=by
  have hq : ¬ 4<p:=by omega
  simp[E.tx,qbB,bs,hl,hlf,hq]
 obtain⟨w1,e1⟩ : ∃ x,x=pw w (a.tx false 5):=⟨_,rfl⟩
 obtain⟨w2,e2⟩ : ∃ x,x=pw w1 [o.str]:=⟨_,rfl⟩
 have e3:w'=pw w2 (b.tx false 5):=by rw[hw,htx,qay,<- e1,qay,<- e2]
 have s3:=hsz
 have s2:=qar e3 s3
 have s1:=qar e2 s2
 have z1:=ha w w1 e1 s1
 have z2:=qb0 e2 (qie o) s2
 have z3:=hb w2 w' e3 s3
 have f0:=qeq (k:=14) (n:=0) (s:=o.str) (a:=a.kind) (b:=a.num) (t:=a.str) (u:=a.kids) (r:=[.lit (.int .i64 b.kind),.lit (.int .i64 b.num),.lit (.string b.str),b.kids]) (m:=2) (f:=f) (by omega) (by omega) (qbq a)
 have f1:=qgQ (k:=14) (n:=0) (s:=o.str) (x0 := .lit (.int .i64 a.kind)) (x1 := .lit (.int .i64 a.num)) (x2 := .lit (.string a.str)) (x3:=a.kids) (a:=b.kind) (b:=b.num) (t:=b.str) (u:=b.kids) (r:=[]) (m:=2) (f:=f) (by omega) (by omega) (qbq b)
 simp only[PW,PW'] at z1 z2 z3 ⊢
 clear e1 e2 e3 s1 s2 s3 hw htx hsz
 refine Z_call (pf:=F273) rfl rfl ?_
 simp[F273,zl,hc,f0,f1,z1,z2,z3,Wa,qae 5 (by omega)]
theorem qsl{f:Bool}{o:Bop}{a b:E}(hl:o.prec=4)(ha:qfU a 5 5)(hb:qfU b 5 5){p:Nat}{i:Int}(hi:i=p)(hp:4<p):qfU (E.bin f o a b) p i:=by
 intro w w' hw hsz
 have zl:Z tQ (.call 282 [.dat (.agg [.lit (.int .i64 14),.lit (.int .i64 0),.lit (.string o.str),.sl [.lit (.int .i64 a.kind),.lit (.int .i64 a.num),.lit (.string a.str),a.kids,.lit (.int .i64 b.kind),.lit (.int .i64 b.num),.lit (.string b.str),b.kids] 2 f])] [])=some (.ret (.int 4) []):=by
  have:=qdu (.bin f o a b)
  rw[show E.lev (.bin f o a b)=4 from hl] at this
  exact this
 have hc:(4:Int)<i:=by omega
 have hlf:o.left=5:=by have:=qa8 o; omega
 have htx:(E.bin f o a b).tx false p=[⟨#[40]⟩]++((a.tx false 5)++([o.str]++((b.tx false 5)++([⟨#[41]⟩])))):=by
  have hq:4<p:=hp
  simp[E.tx,qbB,bs,hl,hlf,hq]
 obtain⟨w1,e1⟩ : ∃ x,x=pw w [⟨#[40]⟩]:=⟨_,rfl⟩
 obtain⟨w2,e2⟩ : ∃ x,x=pw w1 (a.tx false 5):=⟨_,rfl⟩
 obtain⟨w3,e3⟩ : ∃ x,x=pw w2 [o.str]:=⟨_,rfl⟩
 obtain⟨w4,e4⟩ : ∃ x,x=pw w3 (b.tx false 5):=⟨_,rfl⟩
 have e5:w'=pw w4 [⟨#[41]⟩]:=by rw[hw,htx,qay,<- e1,qay,<- e2,qay,<- e3,qay,<- e4]
 have s5:=hsz
 have s4:=qar e5 s5
 have s3:=qar e4 s4
 have s2:=qar e3 s3
 have s1:=qar e2 s2
 have z1:=qb0 e1 (by decide) s1
 have z2:=ha w1 w2 e2 s2
 have z3:=qb0 e3 (qie o) s3
 have z4:=hb w3 w4 e4 s4
 have z5:=qnn e5 (by decide) s5
 have f0:=qeq (k:=14) (n:=0) (s:=o.str) (a:=a.kind) (b:=a.num) (t:=a.str) (u:=a.kids) (r:=[.lit (.int .i64 b.kind),.lit (.int .i64 b.num),.lit (.string b.str),b.kids]) (m:=2) (f:=f) (by omega) (by omega) (qbq a)
 have f1:=qgQ (k:=14) (n:=0) (s:=o.str) (x0 := .lit (.int .i64 a.kind)) (x1 := .lit (.int .i64 a.num)) (x2 := .lit (.string a.str)) (x3:=a.kids) (a:=b.kind) (b:=b.num) (t:=b.str) (u:=b.kids) (r:=[]) (m:=2) (f:=f) (by omega) (by omega) (qbq b)
 simp only[PW,PW'] at z1 z2 z3 z4 z5 ⊢
 clear e1 e2 e3 e4 e5 s1 s2 s3 s4 s5 hw htx hsz
 refine Z_call (pf:=F273) rfl rfl ?_
 simp[F273,zl,hc,f0,f1,z1,z2,z3,z4,z5,Wa,qae 5 (by omega)]
theorem qj2{s:ByteArray}(h:s∈fieldNames):s.size≠0:=by
 simp only[fieldNames,Ws,WA,or_false] at h
 rcases h with h|h|h|h|h|h|h|h<;>rw[h]<;>decide
theorem qmh : ∀ e:E,e.good -> ∀ p i,i=((p:Nat):Int)->p<=8->qfU e p i
 |.int n,h,p,i,hi,hp=>qw6 h.1 h.2 hi hp
 |.bool n,h,p,i,hi,hp=>by
  rcases h with rfl|rfl
  ·exact qsi hi hp
  ·exact qsj hi hp
 |.var s,h,p,i,hi,hp=>qw7 (qeN h.1) hi hp
 |.name s,h,p,i,hi,hp=>quM (by rcases h with rfl|rfl|rfl<;>decide) hi hp
 |.field f s e,h,p,i,hi,hp=>qsk (qj2 h.1) (qmh e h.2 1 1 rfl (by omega)) hi hp
 |.un f neg e,h,p,i,hi,hp=>by
  have A:=qmh e h (qdc neg) (qdc neg) rfl (by cases neg<;>decide)
  by_cases hq:qdc neg<p
  ·exact qw8 rfl A hi hq
  ·exact qzd rfl A hi (by omega)
 |.bin f o a b,h,p,i,hi,hp=>by
  have hr:=qa8 o
  have A:=qmh a h.1 o.left o.left rfl (by omega)
  have B:=qmh b h.2 (o.prec+1) ((o.prec:Int)+1) (by omega) (by omega)
  by_cases h4:o.prec=4
  ·rw[show o.left=5 by omega] at A
   rw[h4] at B
   by_cases hq:4<p
   ·exact qsl h4 A B hi hq
   ·exact quO h4 A B hi (by omega)
  ·rw[show o.left=o.prec by omega] at A
   by_cases hq:o.prec<p
   ·exact quN rfl h4 A B hi hq
   ·exact qw9 rfl h4 A B hi (by omega)
end
section
open F
attribute [local simp] qgc qi3
def qlB(b:Ss):Prop := ∀ (k n:Int) (s:ByteArray) (f:Bool) w w',w'=pw w (⟨#[123]⟩::(b.tx++[⟨#[125]⟩]))->w'.length<2 ^ 40->Z tQ (.call 244 [.ptr 0 0,.dat (.agg [.lit (.int .i64 k),.lit (.int .i64 n),.lit (.string s),kd f b.fo.len b.fo.cells])] (PW w))=some (.ret (.tup []) (PW w'))
theorem qrB {f fb fc:Bool} {s:ByteArray} {e:E} (hs:s.size≠0) (he:qfU e 1 1) {w w':List UInt8} (hw:w'=pw w ([s,⟨#[61]⟩]++((e.tx false 1)++([⟨#[59]⟩])))) (hsz:w'.length<2 ^ 40) :
  Z tQ (.call 260 [.ptr 0 0,.dat (.agg [.lit (.int .i64 1),.lit (.int .i64 0),.lit (.string s),.sl [.lit (.int .i64 e.kind),.lit (.int .i64 e.num),.lit (.string e.str),e.kids] 1 f])] (PW w))=some (.ret (.tup []) (PW w')):=by
 obtain⟨w1,e1⟩ : ∃ v,v=pw w [s,⟨#[61]⟩]:=⟨_,rfl⟩
 obtain⟨w2,e2⟩ : ∃ v,v=pw w1 (e.tx false 1):=⟨_,rfl⟩
 have e3:w'=pw w2 [⟨#[59]⟩]:=by rw[hw,qay,<- e1,qay,<- e2]
 have s3:=hsz
 have s2:=qar e3 s3
 have s1:=qar e2 s2
 have z1:=qf0 e1 (hs) (by decide) s1
 have z2:=he w1 w2 e2 s2
 have z3:=qb0 e3 (by decide) s3
 have f0:=qeq (k:=1) (n:=0) (s:=s)  (a:=e.kind) (b:=e.num) (t:=e.str) (u:=e.kids) (r:=[]) (m:=1) (f:=f) (by omega) (by omega) (qbq e)
 simp only[PW,PW'] at z1 z2 z3 ⊢
 clear e1 e2 e3 s1 s2 s3 hw hsz
 refine Z_call (pf:=F260) rfl rfl ?_
 simp[F260,f0,z1,z2,z3,Wa]
theorem qtn {f fb fc:Bool} {s:ByteArray} {x y:E} (hs:s.size≠0) (hx:qfU x 1 1) (hy:qfU y 1 1) {w w':List UInt8} (hw:w'=pw w ([s,⟨#[91]⟩]++((x.tx false 1)++([⟨#[93]⟩,⟨#[61]⟩]++((y.tx false 1)++([⟨#[59]⟩])))))) (hsz:w'.length<2 ^ 40) :
  Z tQ (.call 260 [.ptr 0 0,.dat (.agg [.lit (.int .i64 2),.lit (.int .i64 0),.lit (.string s),.sl [.lit (.int .i64 x.kind),.lit (.int .i64 x.num),.lit (.string x.str),x.kids,.lit (.int .i64 y.kind),.lit (.int .i64 y.num),.lit (.string y.str),y.kids] 2 f])] (PW w))=some (.ret (.tup []) (PW w')):=by
 obtain⟨w1,e1⟩ : ∃ v,v=pw w [s,⟨#[91]⟩]:=⟨_,rfl⟩
 obtain⟨w2,e2⟩ : ∃ v,v=pw w1 (x.tx false 1):=⟨_,rfl⟩
 obtain⟨w3,e3⟩ : ∃ v,v=pw w2 [⟨#[93]⟩,⟨#[61]⟩]:=⟨_,rfl⟩
 obtain⟨w4,e4⟩ : ∃ v,v=pw w3 (y.tx false 1):=⟨_,rfl⟩
 have e5:w'=pw w4 [⟨#[59]⟩]:=by rw[hw,qay,<- e1,qay,<- e2,qay,<- e3,qay,<- e4]
 have s5:=hsz
 have s4:=qar e5 s5
 have s3:=qar e4 s4
 have s2:=qar e3 s3
 have s1:=qar e2 s2
 have z1:=qf0 e1 (hs) (by decide) s1
 have z2:=hx w1 w2 e2 s2
 have z3:=qf0 e3 (by decide) (by decide) s3
 have z4:=hy w3 w4 e4 s4
 have z5:=qb0 e5 (by decide) s5
 have f0:=qeq (k:=2) (n:=0) (s:=s)  (a:=x.kind) (b:=x.num) (t:=x.str) (u:=x.kids) (r:=[.lit (.int .i64 y.kind),.lit (.int .i64 y.num),.lit (.string y.str),y.kids]) (m:=2) (f:=f) (by omega) (by omega) (qbq x)
 have f1:=qgQ (k:=2) (n:=0) (s:=s) (x0 := .lit (.int .i64 x.kind)) (x1 := .lit (.int .i64 x.num)) (x2 := .lit (.string x.str)) (x3:=x.kids) (a:=y.kind) (b:=y.num) (t:=y.str) (u:=y.kids) (r:=[]) (m:=2) (f:=f) (by omega) (by omega) (qbq y)
 simp only[PW,PW'] at z1 z2 z3 z4 z5 ⊢
 clear e1 e2 e3 e4 e5 s1 s2 s3 s4 s5 hw hsz
 refine Z_call (pf:=F260) rfl rfl ?_
 simp[F260,f0,f1,z1,z2,z3,z4,z5,Wa]
theorem qrC {f fb fc:Bool} {x y:E} (hx:qfU x 1 1) (hy:qfU y 1 1) {w w':List UInt8} (hw:w'=pw w ([⟨#[101,102,102,101,99,116]⟩]++((x.tx false 1)++([⟨#[44]⟩]++((y.tx false 1)++([⟨#[59]⟩])))))) (hsz:w'.length<2 ^ 40) :
  Z tQ (.call 260 [.ptr 0 0,.dat (.agg [.lit (.int .i64 5),.lit (.int .i64 0),.lit (.string ⟨#[]⟩),.sl [.lit (.int .i64 x.kind),.lit (.int .i64 x.num),.lit (.string x.str),x.kids,.lit (.int .i64 y.kind),.lit (.int .i64 y.num),.lit (.string y.str),y.kids] 2 f])] (PW w))=some (.ret (.tup []) (PW w')):=by
 obtain⟨w1,e1⟩ : ∃ v,v=pw w [⟨#[101,102,102,101,99,116]⟩]:=⟨_,rfl⟩
 obtain⟨w2,e2⟩ : ∃ v,v=pw w1 (x.tx false 1):=⟨_,rfl⟩
 obtain⟨w3,e3⟩ : ∃ v,v=pw w2 [⟨#[44]⟩]:=⟨_,rfl⟩
 obtain⟨w4,e4⟩ : ∃ v,v=pw w3 (y.tx false 1):=⟨_,rfl⟩
 have e5:w'=pw w4 [⟨#[59]⟩]:=by rw[hw,qay,<- e1,qay,<- e2,qay,<- e3,qay,<- e4]
 have s5:=hsz
 have s4:=qar e5 s5
 have s3:=qar e4 s4
 have s2:=qar e3 s3
 have s1:=qar e2 s2
 have z1:=qb0 e1 (by decide) s1
 have z2:=hx w1 w2 e2 s2
 have z3:=qb0 e3 (by decide) s3
 have z4:=hy w3 w4 e4 s4
 have z5:=qb0 e5 (by decide) s5
 have f0:=qeq (k:=5) (n:=0) (s:=⟨#[]⟩)  (a:=x.kind) (b:=x.num) (t:=x.str) (u:=x.kids) (r:=[.lit (.int .i64 y.kind),.lit (.int .i64 y.num),.lit (.string y.str),y.kids]) (m:=2) (f:=f) (by omega) (by omega) (qbq x)
 have f1:=qgQ (k:=5) (n:=0) (s:=⟨#[]⟩) (x0 := .lit (.int .i64 x.kind)) (x1 := .lit (.int .i64 x.num)) (x2 := .lit (.string x.str)) (x3:=x.kids) (a:=y.kind) (b:=y.num) (t:=y.str) (u:=y.kids) (r:=[]) (m:=2) (f:=f) (by omega) (by omega) (qbq y)
 simp only[PW,PW'] at z1 z2 z3 z4 z5 ⊢
 clear e1 e2 e3 e4 e5 s1 s2 s3 s4 s5 hw hsz
 refine Z_call (pf:=F260) rfl rfl ?_
 simp[F260,f0,f1,z1,z2,z3,z4,z5,Wa]
theorem qto {f fb fc:Bool} {c:E} {p:Ss} (hc:qfU c 1 1) (hb:qlB p) {w w':List UInt8} (hw:w'=pw w ([⟨#[119,104,105,108,101]⟩]++((c.tx false 1)++((⟨#[123]⟩::(p.tx++[⟨#[125]⟩])))))) (hsz:w'.length<2 ^ 40) :
  Z tQ (.call 260 [.ptr 0 0,.dat (.agg [.lit (.int .i64 4),.lit (.int .i64 0),.lit (.string ⟨#[]⟩),.sl [.lit (.int .i64 c.kind),.lit (.int .i64 c.num),.lit (.string c.str),c.kids,.lit (.int .i64 7),.lit (.int .i64 0),.lit (.string ⟨#[]⟩),kd fb p.fo.len p.fo.cells] 2 f])] (PW w))=some (.ret (.tup []) (PW w')):=by
 obtain⟨w1,e1⟩ : ∃ v,v=pw w [⟨#[119,104,105,108,101]⟩]:=⟨_,rfl⟩
 obtain⟨w2,e2⟩ : ∃ v,v=pw w1 (c.tx false 1):=⟨_,rfl⟩
 have e3:w'=pw w2 (⟨#[123]⟩::(p.tx++[⟨#[125]⟩])):=by rw[hw,qay,<- e1,qay,<- e2]
 have s3:=hsz
 have s2:=qar e3 s3
 have s1:=qar e2 s2
 have z1:=qb0 e1 (by decide) s1
 have z2:=hc w1 w2 e2 s2
 have z3:=hb 7 0 ⟨#[]⟩ fb w2 w' e3 s3
 have f0:=qeq (k:=4) (n:=0) (s:=⟨#[]⟩)  (a:=c.kind) (b:=c.num) (t:=c.str) (u:=c.kids) (r:=[.lit (.int .i64 7),.lit (.int .i64 0),.lit (.string ⟨#[]⟩),kd fb p.fo.len p.fo.cells]) (m:=2) (f:=f) (by omega) (by omega) (qbq c)
 have f1:=qgQ (k:=4) (n:=0) (s:=⟨#[]⟩) (x0 := .lit (.int .i64 c.kind)) (x1 := .lit (.int .i64 c.num)) (x2 := .lit (.string c.str)) (x3:=c.kids) (a:=7) (b:=0) (t:=⟨#[]⟩) (u:=kd fb p.fo.len p.fo.cells) (r:=[]) (m:=2) (f:=f) (by omega) (by omega) (qko _ _ _)
 simp only[PW,PW'] at z1 z2 z3 ⊢
 clear e1 e2 e3 s1 s2 s3 hw hsz
 refine Z_call (pf:=F260) rfl rfl ?_
 simp[F260,f0,f1,z1,z2,z3,Wa]
theorem qya {f fb fc:Bool} {c:E} {p q:Ss} (hc:qfU c 1 1) (hb:qlB p) (hq:q.fo.len=0) {w w':List UInt8} (hw:w'=pw w ([⟨#[105,102]⟩]++((c.tx false 1)++((⟨#[123]⟩::(p.tx++[⟨#[125]⟩])))))) (hsz:w'.length<2 ^ 40) :
  Z tQ (.call 260 [.ptr 0 0,.dat (.agg [.lit (.int .i64 3),.lit (.int .i64 0),.lit (.string ⟨#[]⟩),.sl [.lit (.int .i64 c.kind),.lit (.int .i64 c.num),.lit (.string c.str),c.kids,.lit (.int .i64 7),.lit (.int .i64 0),.lit (.string ⟨#[]⟩),kd fb p.fo.len p.fo.cells,.lit (.int .i64 7),.lit (.int .i64 0),.lit (.string ⟨#[]⟩),kd fc q.fo.len q.fo.cells] 3 f])] (PW w))=some (.ret (.tup []) (PW w')):=by
 obtain⟨w1,e1⟩ : ∃ v,v=pw w [⟨#[105,102]⟩]:=⟨_,rfl⟩
 obtain⟨w2,e2⟩ : ∃ v,v=pw w1 (c.tx false 1):=⟨_,rfl⟩
 have e3:w'=pw w2 (⟨#[123]⟩::(p.tx++[⟨#[125]⟩])):=by rw[hw,qay,<- e1,qay,<- e2]
 have s3:=hsz
 have s2:=qar e3 s3
 have s1:=qar e2 s2
 have z1:=qb0 e1 (by decide) s1
 have z2:=hc w1 w2 e2 s2
 have z3:=hb 7 0 ⟨#[]⟩ fb w2 w' e3 s3
 have f0:=qeq (k:=3) (n:=0) (s:=⟨#[]⟩)  (a:=c.kind) (b:=c.num) (t:=c.str) (u:=c.kids) (r:=[.lit (.int .i64 7),.lit (.int .i64 0),.lit (.string ⟨#[]⟩),kd fb p.fo.len p.fo.cells,.lit (.int .i64 7),.lit (.int .i64 0),.lit (.string ⟨#[]⟩),kd fc q.fo.len q.fo.cells]) (m:=3) (f:=f) (by omega) (by omega) (qbq c)
 have f1:=qgQ (k:=3) (n:=0) (s:=⟨#[]⟩) (x0 := .lit (.int .i64 c.kind)) (x1 := .lit (.int .i64 c.num)) (x2 := .lit (.string c.str)) (x3:=c.kids) (a:=7) (b:=0) (t:=⟨#[]⟩) (u:=kd fb p.fo.len p.fo.cells) (r:=[.lit (.int .i64 7),.lit (.int .i64 0),.lit (.string ⟨#[]⟩),kd fc q.fo.len q.fo.cells]) (m:=3) (f:=f) (by omega) (by omega) (qko _ _ _)
 have f2:=qtR (k:=3) (n:=0) (s:=⟨#[]⟩) (x0 := .lit (.int .i64 c.kind)) (x1 := .lit (.int .i64 c.num)) (x2 := .lit (.string c.str)) (x3:=c.kids) (y0 := .lit (.int .i64 7)) (y1 := .lit (.int .i64 0)) (y2 := .lit (.string ⟨#[]⟩)) (y3:=kd fb p.fo.len p.fo.cells) (a:=7) (b:=0) (t:=⟨#[]⟩) (u:=kd fc q.fo.len q.fo.cells) (r:=[]) (m:=3) (f:=f) (by omega) (by omega) (qko _ _ _)
 have hq1 : ∀ cs,kd fc q.fo.len cs = .lit (.slice none 0 0):=fun cs=>by rw[hq]; rfl
 simp only[hq1] at f0 f1 f2 ⊢
 simp only[PW,PW'] at z1 z2 z3 ⊢
 clear e1 e2 e3 s1 s2 s3 hw hsz
 refine Z_call (pf:=F260) rfl rfl ?_
 simp[F260,f0,f1,f2,z1,z2,z3,Wa,qi9]
theorem qyb {f fb fc:Bool} {c:E} {p q:Ss} (hc:qfU c 1 1) (hb:qlB p) (hq:0<q.fo.len) (hd:qlB q) {w w':List UInt8} (hw:w'=pw w ([⟨#[105,102]⟩]++((c.tx false 1)++((⟨#[123]⟩::(p.tx++[⟨#[125]⟩]))++([⟨#[101,108,115,101]⟩]++((⟨#[123]⟩::(q.tx++[⟨#[125]⟩])))))))) (hsz:w'.length<2 ^ 40) :
  Z tQ (.call 260 [.ptr 0 0,.dat (.agg [.lit (.int .i64 3),.lit (.int .i64 0),.lit (.string ⟨#[]⟩),.sl [.lit (.int .i64 c.kind),.lit (.int .i64 c.num),.lit (.string c.str),c.kids,.lit (.int .i64 7),.lit (.int .i64 0),.lit (.string ⟨#[]⟩),kd fb p.fo.len p.fo.cells,.lit (.int .i64 7),.lit (.int .i64 0),.lit (.string ⟨#[]⟩),kd fc q.fo.len q.fo.cells] 3 f])] (PW w))=some (.ret (.tup []) (PW w')):=by
 obtain⟨w1,e1⟩ : ∃ v,v=pw w [⟨#[105,102]⟩]:=⟨_,rfl⟩
 obtain⟨w2,e2⟩ : ∃ v,v=pw w1 (c.tx false 1):=⟨_,rfl⟩
 obtain⟨w3,e3⟩ : ∃ v,v=pw w2 (⟨#[123]⟩::(p.tx++[⟨#[125]⟩])):=⟨_,rfl⟩
 obtain⟨w4,e4⟩ : ∃ v,v=pw w3 [⟨#[101,108,115,101]⟩]:=⟨_,rfl⟩
 have e5:w'=pw w4 (⟨#[123]⟩::(q.tx++[⟨#[125]⟩])):=by rw[hw,qay,<- e1,qay,<- e2,qay,<- e3,qay,<- e4]
 have s5:=hsz
 have s4:=qar e5 s5
 have s3:=qar e4 s4
 have s2:=qar e3 s3
 have s1:=qar e2 s2
 have z1:=qb0 e1 (by decide) s1
 have z2:=hc w1 w2 e2 s2
 have z3:=hb 7 0 ⟨#[]⟩ fb w2 w3 e3 s3
 have z4:=qb0 e4 (by decide) s4
 have z5:=hd 7 0 ⟨#[]⟩ fc w4 w' e5 s5
 have f0:=qeq (k:=3) (n:=0) (s:=⟨#[]⟩)  (a:=c.kind) (b:=c.num) (t:=c.str) (u:=c.kids) (r:=[.lit (.int .i64 7),.lit (.int .i64 0),.lit (.string ⟨#[]⟩),kd fb p.fo.len p.fo.cells,.lit (.int .i64 7),.lit (.int .i64 0),.lit (.string ⟨#[]⟩),kd fc q.fo.len q.fo.cells]) (m:=3) (f:=f) (by omega) (by omega) (qbq c)
 have f1:=qgQ (k:=3) (n:=0) (s:=⟨#[]⟩) (x0 := .lit (.int .i64 c.kind)) (x1 := .lit (.int .i64 c.num)) (x2 := .lit (.string c.str)) (x3:=c.kids) (a:=7) (b:=0) (t:=⟨#[]⟩) (u:=kd fb p.fo.len p.fo.cells) (r:=[.lit (.int .i64 7),.lit (.int .i64 0),.lit (.string ⟨#[]⟩),kd fc q.fo.len q.fo.cells]) (m:=3) (f:=f) (by omega) (by omega) (qko _ _ _)
 have f2:=qtR (k:=3) (n:=0) (s:=⟨#[]⟩) (x0 := .lit (.int .i64 c.kind)) (x1 := .lit (.int .i64 c.num)) (x2 := .lit (.string c.str)) (x3:=c.kids) (y0 := .lit (.int .i64 7)) (y1 := .lit (.int .i64 0)) (y2 := .lit (.string ⟨#[]⟩)) (y3:=kd fb p.fo.len p.fo.cells) (a:=7) (b:=0) (t:=⟨#[]⟩) (u:=kd fc q.fo.len q.fo.cells) (r:=[]) (m:=3) (f:=f) (by omega) (by omega) (qko _ _ _)
 have hq1:(0:Int)<q.fo.len:=by omega
 simp only[PW,PW'] at z1 z2 z3 z4 z5 ⊢
 clear e1 e2 e3 e4 e5 s1 s2 s3 s4 s5 hw hsz
 refine Z_call (pf:=F260) rfl rfl ?_
 simp[F260,f0,f1,f2,z1,z2,z3,z4,z5,Wa,hq1,hq]
theorem qv2 {f fb:Bool} {d:D} (hd:V.one (.dat d)=true) (hcl:V.cells (.dat d)=[.dat d]) {w w':List UInt8} (hw:w'=pw w [⟨#[115,116,111,112]⟩,⟨#[59]⟩]) (hsz:w'.length<2 ^ 40) :
  Z tQ (.call 260 [.ptr 0 0,.dat (.agg [.lit (.int .i64 6),.lit (.int .i64 0),.lit (.string ⟨#[]⟩),d])] (PW w))=some (.ret (.tup []) (PW w')):=by
 have z1:=qf0 hw (by decide) (by decide) hsz
 simp only[PW,PW'] at z1 ⊢
 refine Z_call (pf:=F260) rfl rfl ?_
 simp[F260,z1,hd,hcl,Wa]
end
section
open F
attribute [local simp] qgc qi3
def qwN(s:Ss):Prop := ∀ (cs:List D) (m i:Nat) (f:Bool) w w',cs.drop (i*4)=s.fo.cells->i+s.fo.len=m->m<2 ^ 40->w'=pw w s.tx->w'.length<2 ^ 40 ->
 Z tQ (.loop 2 F244l0 [(0,.ptr 0 0),(10,.dat (.sl cs m f)),(11,.int m),(12,.int i)] (PW w))=some (.out (.exit 0) [(0,.ptr 0 0),(10,.dat (.sl cs m f)),(11,.int m),(12,.int m),(13,.bool false)] (PW w'))
def qwO:Ss->Prop
 |.block _ b r=>qlB b/\qwO r
 |_=>True
theorem qf6 {cs:List D} {m i:Nat} {f:Bool} {w w1:List UInt8} {k n:Int} {s:ByteArray} {d:D} {rest:List D} (hd:cs.drop (i*4) = .lit (.int .i64 k) :: .lit (.int .i64 n) :: .lit (.string s)::d::rest)
  (h1:V.one (.dat d)=true) (hcl:V.cells (.dat d)=[.dat d]) (hi:i<m) (hm:m<2 ^ 40)
  (zs:Z tQ (.call 260 [.ptr 0 0,.dat (.agg [.lit (.int .i64 k),.lit (.int .i64 n),.lit (.string s),d])] (PW w))=some (.ret (.tup []) (PW w1)))
  {r:Res} (zr:Z tQ (.loop 2 F244l0 [(0,.ptr 0 0),(10,.dat (.sl cs m f)),(11,.int m),(12,.int ((i+1:Nat):Int))] (PW w1))=some r) :
  Z tQ (.loop 2 F244l0 [(0,.ptr 0 0),(10,.dat (.sl cs m f)),(11,.int m),(12,.int i)] (PW w))=some r:=by
 have hc:=qyL hd
 have hlt:(i:Int)<m:=by omega
 have w1':IntKind.i64.wrap ((i:Int)+1)=((i+1:Nat):Int):=by rw[qae _ (by omega)]; omega
 rw[<- zr]
 simp only[PW,PW'] at zs ⊢
 conv=>lhs; rw[qab]
 generalize ((i+1:Nat):Int)=i1 at *
 simp[qaa,qg6,qag,hc,h1,hcl,hlt,hi,zs,w1',Wa]
 all_goals exact qbP (by simp[gcF,h1,hcl,Wa])
theorem qnQ{b:Ss}(hg:b.good none)(hl:qwN b):qlB b:=by
 intro k n s f w w' hw hsz
 obtain⟨w1,e1⟩ : ∃ v,v=pw w [⟨#[123]⟩]:=⟨_,rfl⟩
 obtain⟨w2,e2⟩ : ∃ v,v=pw w1 b.tx:=⟨_,rfl⟩
 have e3:w'=pw w2 [⟨#[125]⟩]:=by rw[hw,e2,e1,<- qay,<- qay]; rfl
 have s3:=hsz
 have s2:=qar e3 s3
 have s1:=qar e2 s2
 have htg:=qkl (qh3 b none hg).ok
 have hb:b.fo.len<2 ^ 40:=by
  have h1:=qeO b hg
  have h2:=qfL b.tx (wl w1) (fun t ht=>qeN (htg t ht))
  have h3:=congrArg List.length e2
  simp only[pw,Wr] at h3
  omega
 have z1:=qb0 e1 (by decide) s1
 have z3:=qb0 e3 (by decide) s3
 refine Z_call (pf:=F244) rfl rfl ?_
 cases hbl:b.fo.len with
 |zero=>
  have hn:=qfO hbl
  subst hn
  have:w2=w1:=by rw[e2]; exact qdW w1
  subst this
  simp only[PW,PW'] at z1 z3 ⊢
  simp[F244,z1,z3,qi9,qab,qaa,qg6,Wa]
 |succ q=>
  have z2:=hl b.fo.cells (q+1) 0 f w1 w2 (by simp) (by omega) (by omega) e2 s2
  have hk:kd f (q+1) b.fo.cells = .sl b.fo.cells (q+1) f:=rfl
  rw[hk]
  generalize q+1=M at *
  have z2':Z tQ (.loop 2 F244l0 [(0,.ptr 0 0),(10,.dat (.sl b.fo.cells M f)),(11,.int M),(12,.int 0)] (PW w1++[.cells [.int k,.int n,.str s,.dat (.sl b.fo.cells M f)]]))=_:=(qbP (by simp[gcF,Wa])).trans z2
  simp only[PW,PW',Wf,Wc] at z1 z2' z3 ⊢
  simp[F244,z1,z2',z3,qja,Wa]
theorem qr0{cs:List D}{m:Nat}{f:Bool}{w:List UInt8}:Z tQ (.loop 2 F244l0 [(0,.ptr 0 0),(10,.dat (.sl cs m f)),(11,.int m),(12,.int m)] (PW w))=some (.out (.exit 0) [(0,.ptr 0 0),(10,.dat (.sl cs m f)),(11,.int m),(12,.int m),(13,.bool false)] (PW w)):=by
 rw[qab]
 simp[qaa,qg6,Wa]
theorem pe1{e:E}(h:e.good):qfU e 1 1:=qmh e h 1 1 rfl (by omega)
theorem qwP : ∀ s:Ss,(s.good none->qwN s)/\((∃ k,s.good (some k))->qwO s):=by
 intro s
 induction s with
 |nil=>
  refine⟨fun _ cs m i f w w' hd hm hm2 hw hs=>?_,fun _=>trivial⟩
  rw[Ss.tx,qdW] at hw
  subst hw
  have:i=m:=by simpa [Ss.fo] using hm
  subst this
  exact qr0
 |assign g s e r ih=>
  refine⟨fun h cs m i f w w' hd hm hm2 hw hs=>?_,fun _=>trivial⟩
  obtain⟨_,hn,he,hr⟩:=h
  simp only[Ss.fo,qaB,qf4,qaV,qaZ,qoF,qde,qaF] at hd hm
  obtain⟨w1,e1⟩ : ∃ v,v=pw w ([s,⟨#[61]⟩]++(e.tx false 1++[⟨#[59]⟩])):=⟨_,rfl⟩
  have e2:w'=pw w1 r.tx:=by
   rw[hw,e1,<- qay]
   simp only[Ss.tx,Wf,Wc,Wg]
   rfl
  exact qf6 hd rfl rfl (by omega) hm2 (qrB (fb:=false) (fc:=false) (qeN hn.1) (pe1 he) e1 (qar e2 hs)) (ih.1 hr cs m (i+1) f w1 w' (qcz hd) (by omega) hm2 e2 hs)
 |store g s a b r ih=>
  refine⟨fun h cs m i f w w' hd hm hm2 hw hs=>?_,fun _=>trivial⟩
  obtain⟨_,hn,ha,hb,hr⟩:=h
  simp only[Ss.fo,qaB,qf4,qaV,qaZ,qoF,qde,qaF] at hd hm
  obtain⟨w1,e1⟩ : ∃ v,v=pw w ([s,⟨#[91]⟩]++(a.tx false 1++([⟨#[93]⟩,⟨#[61]⟩]++(b.tx false 1++[⟨#[59]⟩])))):=⟨_,rfl⟩
  have e2:w'=pw w1 r.tx:=by
   rw[hw,e1,<- qay]
   simp only[Ss.tx,Wf,Wc,Wg]
   rfl
  exact qf6 hd rfl rfl (by omega) hm2 (qtn (fb:=false) (fc:=false) (qj2 hn) (pe1 ha) (pe1 hb) e1 (qar e2 hs)) (ih.1 hr cs m (i+1) f w1 w' (qcz hd) (by omega) hm2 e2 hs)
 |effect g a b r ih=>
  refine⟨fun h cs m i f w w' hd hm hm2 hw hs=>?_,fun _=>trivial⟩
  obtain⟨_,ha,hb,hr⟩:=h
  simp only[Ss.fo,qaB,qf4,qaV,qaZ,qoF,qde,qaF] at hd hm
  obtain⟨w1,e1⟩ : ∃ v,v=pw w ([⟨#[101,102,102,101,99,116]⟩]++(a.tx false 1++([⟨#[44]⟩]++(b.tx false 1++[⟨#[59]⟩])))):=⟨_,rfl⟩
  have e2:w'=pw w1 r.tx:=by
   rw[hw,e1,<- qay]
   simp only[Ss.tx,Wf,Wc,Wg]
   rfl
  exact qf6 hd rfl rfl (by omega) hm2 (qrC (fb:=false) (fc:=false) (pe1 ha) (pe1 hb) e1 (qar e2 hs)) (ih.1 hr cs m (i+1) f w1 w' (qcz hd) (by omega) hm2 e2 hs)
 |stop r ih=>
  refine⟨fun h cs m i f w w' hd hm hm2 hw hs=>?_,fun _=>trivial⟩
  obtain⟨_,hr⟩:=h
  simp only[Ss.fo,qaB,qaV,qaZ,qaF,qvR] at hd hm
  obtain⟨w1,e1⟩ : ∃ v,v=pw w [⟨#[115,116,111,112]⟩,⟨#[59]⟩]:=⟨_,rfl⟩
  have e2:w'=pw w1 r.tx:=by
   rw[hw,e1,<- qay]
   rfl
  exact qf6 hd rfl rfl (by omega) hm2 (qv2 (f:=false) (fb:=false) rfl rfl e1 (qar e2 hs)) (ih.1 hr cs m (i+1) f w1 w' (qcz hd) (by omega) hm2 e2 hs)
 |cond w0 g c b r ihb ih=>
  refine⟨fun h cs m i f w w' hd hm hm2 hw hs=>?_,fun _=>trivial⟩
  obtain⟨_,hc,hb,hr⟩:=h
  cases w0 with
  |true=>
   obtain⟨fb,b1,rfl,hb1⟩:=qlr hb
   have hrow:=ihb.2 ⟨1,hb⟩
   simp only[Ss.fo,qaB,qf4,qaV,qaZ,qoF,qde,qaF,if_true] at hd hm
   obtain⟨w1,e1⟩ : ∃ v,v=pw w ([⟨#[119,104,105,108,101]⟩]++(c.tx false 1++(⟨#[123]⟩::(b1.tx++[⟨#[125]⟩])))):=⟨_,rfl⟩
   have e2:w'=pw w1 r.tx:=by
    rw[hw,e1,<- qay]
    simp only[Ss.tx,Wf,Wc,Wg,qcx,if_true,Wm,if_false]
    rfl
   exact qf6 hd rfl rfl (by omega) hm2 (qto (fc:=false) (pe1 hc) hrow.1 e1 (qar e2 hs)) (ih.1 hr cs m (i+1) f w1 w' (qcz hd) (by omega) hm2 e2 hs)
  |false=>
   obtain⟨fb,b1,fc,b2,rfl,hb1,hb2⟩:=qra hb
   have hrow:=ihb.2 ⟨2,hb⟩
   simp only[Ss.fo,qaB,qf4,qaV,qaZ,qoF,qde,qaF,Wm,if_false] at hd hm
   cases hl:b2.fo.len with
   |zero=>
    have hn:=qfO hl
    obtain⟨w1,e1⟩ : ∃ v,v=pw w ([⟨#[105,102]⟩]++(c.tx false 1++(⟨#[123]⟩::(b1.tx++[⟨#[125]⟩])))):=⟨_,rfl⟩
    have e2:w'=pw w1 r.tx:=by
     rw[hw,e1,<- qay,hn]
     simp only[Ss.tx,Wf,Wc,Wg,qcx,if_true,Wm,if_false]
     rfl
    exact qf6 hd rfl rfl (by omega) hm2 (qya (pe1 hc) hrow.1 hl e1 (qar e2 hs)) (ih.1 hr cs m (i+1) f w1 w' (qcz hd) (by omega) hm2 e2 hs)
   |succ q=>
    have he:qcx (.block fc b2 .nil)=true:=by cases b2<;>first|rfl|simp[Ss.fo] at hl
    obtain⟨w1,e1⟩ : ∃ v,v=pw w ([⟨#[105,102]⟩]++(c.tx false 1++((⟨#[123]⟩::(b1.tx++[⟨#[125]⟩]))++([⟨#[101,108,115,101]⟩]++(⟨#[123]⟩::(b2.tx++[⟨#[125]⟩])))))):=⟨_,rfl⟩
    have e2:w'=pw w1 r.tx:=by
     rw[hw,e1,<- qay]
     simp only[Ss.tx,he,Wf,Wc,Wg,if_true,Wm,if_false]
     rfl
    exact qf6 hd rfl rfl (by omega) hm2 (qyb (pe1 hc) hrow.1 (by omega) hrow.2.1 e1 (qar e2 hs)) (ih.1 hr cs m (i+1) f w1 w' (qcz hd) (by omega) hm2 e2 hs)
 |block g b r ihb ih=>
  refine⟨fun h=>?_,fun ⟨k,h⟩=>?_⟩
  ·obtain⟨n,hn,_⟩:=h; cases hn
  ·obtain⟨n,hn,hb,hr⟩:=h
   exact⟨qnQ hb (ihb.1 hb),ih.2 ⟨n,hr⟩⟩
end
end Go.Pm
