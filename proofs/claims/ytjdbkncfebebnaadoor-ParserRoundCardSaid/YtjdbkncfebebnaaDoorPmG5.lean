/- Chapter 13's generator: whole programs. Parse with other marks; its errors have a code; generated trees are good and not long. No program in sight. The abstract machine's program, printed by a program of our own: group 3q. The abstract machine's program, printed by a program of our own: group Law13. The abstract machine's programs: tables of functions. Equal, of the program and of the reference: equal but for marks. The abstract machine's program, printed by a program of our own: group 01n. The abstract machine's programs: tables of functions. strconv: how many digits; the tables of two digits and of lengths, as parameters. -/
import Derived.Test.YtjdbkncfebebnaaDoorPmUk
import Derived.Test.YtjdbkncfebebnaaDoorPmUc
import Derived.Test.YtjdbkncfebebnaaDoorPmYh
import Derived.Test.YtjdbkncfebebnaaDoorPmF3
import Derived.Test.YtjdbkncfebebnaaDoorPmFx
import Derived.Laws.BitsAllLaws
import Derived.Laws.Bits64
set_option linter.unusedSimpArgs false
set_option linter.unusedVariables false
section SG5
namespace Go.Pm
open F
theorem qtB (o:Option Addr) (m:Int) (hm:0<=m):Z qbx (.call 23 [.dat (.lit (.slice o 0 0)),.int m] [])=some (.ret (.dat (qeP [])) []):=by
 refine Z_call (pf:=F23) rfl rfl ?_
 have h : ¬ m<0:=by omega
 simp[F23,V.len,qpA,qmt,h,qhL,bound,qc0,qnG,qeP]
theorem qnt (xs:List Int) (k:Nat):(qcP xs).take k=qcP (xs.take k):=by simp[qcP,List.map_take]
theorem qtC (xs:List Int) (k:Nat) (hk:k<=1000):Z qbx (.call 23 [.dat (.sl (qcP xs) xs.length false),.int k] [])=some (.ret (.dat (qeP (xs.take k))) []):=by
 refine Z_call (pf:=F23) rfl rfl ?_
 have hl:(qcP xs).length=xs.length:=by simp[qcP]
 have key : ∃ m:Nat,(if k<xs.length then (k:Int) else (xs.length:Int))=(m:Int)/\m<=xs.length/\m<=1000/\xs.take k=xs.take m/\(xs.take m).length=m:=by
  by_cases h:k<xs.length
  ·exact⟨k,by simp[h],by omega,hk,rfl,by simp; omega⟩
  ·exact⟨xs.length,by simp[h],Nat.le_refl _,by omega,by rw[List.take_of_length_le (by omega),List.take_of_length_le (Nat.le_refl _)],by simp⟩
 obtain⟨m,e1,e2,e3,e4,e5⟩:=key
 rw[e4]
 cases hm:xs.take m with
 | nil=>
  rw[hm] at e5
  simp at e5
  subst e5
  simp[F23,V.len,qpA,qmt,e1,qhL,bound,qc0,qnG,qeP,hl]
 | cons y ys=>
  have hm':=e5
  rw[hm] at hm'
  simp only[List.length_cons] at hm'
  have hne:m≠0:=by omega
  have hr:qaY m 8=true:=by simp[qaY]; omega
  have ht:(qcP xs).take m=qcP (y::ys):=by rw[qnt,hm]
  have hlen:(qcP (y::ys)).length=m:=by simp[qcP]; omega
  simp[F23,V.len,qpA,qmt,e1,qhL,bound,qc0,qnG,qeP,hl,e2,ht,hlen,hne,hr,hm']
theorem qvG {v:D} {xs:List Int} (h:RowV v xs) (k:Nat) (hk:k<=1000):Z qbx (.call 23 [.dat v,.int k] [])=some (.ret (.dat (qeP (xs.take k))) []):=by
 rcases h with ⟨o,rfl,rfl⟩ | rfl
 ·simpa using qtB o k (by omega)
 ·exact qtC xs k hk
def Hd.ss:Hd->Ss
 | .none => .nil
 | .some _ b=>b
structure Hd.fine (h:Hd):Prop where
 fine:h.ss.fine
 size:h.ss.fo.size<=2000
structure Hd.gen (h:Hd):Prop extends h.fine where
 f:h.f=false
 dp:h.ss.dp<=2
 edp:h.ss.edp<=3
 gsize:h.ss.fo.size<=1260
theorem qkd:Hd.none.gen:=⟨⟨trivial,Nat.zero_le _⟩,rfl,Nat.zero_le _,Nat.zero_le _,Nat.zero_le _⟩
abbrev z12:Ob := .cells [.int 0,.int 0,.str ⟨#[]⟩,.dat (.lit (.slice none 0 0)),.int 0,.int 0,.str ⟨#[]⟩,.dat (.lit (.slice none 0 0)),.int 0,.int 0,.str ⟨#[]⟩,.dat (.lit (.slice none 0 0))]
abbrev tst (xs:List Int) (i:Int) (a b c:Nd):S:=[z12,.cells [.dat (qeP xs),.int i],qrR a b c]
abbrev tfr (h:Int):Fr:=[(2,.ptr 0 0),(3,.ptr 1 0),(4,.ptr 2 0),(5,.int h)]
section
variable {xs:List Int} {i:Int} {a b c:Nd}
theorem qxo:Z qbx (.loop 0 F123l0 (tfr 3) (tst xs i a b c))=some (.out (.exit 0) (tfr 3++[(11,.bool false)]) (tst xs i a b c)):=by
 rw[qab]
 simp[qad,qcX,List.range_succ]
theorem qtD (hx : ∀ x∈xs,I64 x) (hl:xs.length<=100) (hi:0<=i/\i<=100) : ∃ (g:Hd) (i':Int),g.gen/\(0<=i'/\i'<=100)/\Z qbx (.loop 0 F123l0 (tfr 0) (tst xs i Hd.none.nd b c))=Z qbx (.loop 0 F123l0 (tfr 1) (tst xs i' g.nd b c)):=by
 have n1:=qbr (i:=i) (m:=4) hx hi (by omega)
 have r1:=qax hi hl
 have w1:=qai 1 (by omega)
 by_cases h2:0<qaI xs i 4
 ·obtain⟨q,i',k1,k2,k3⟩:=(qwc hx hl 2 (by omega)).2 _ r1 3 (by omega) (by omega)
  have hs:ssz 2=420:=rfl
  rw[show ((2:Nat):Int).toNat=2 from rfl,show (3:Int).toNat=3 from rfl,hs] at k1
  refine⟨.some false q,i',⟨⟨k1.1,by show q.fo.size<=2000; omega⟩,rfl,k1.2.1,k1.2.2.1,k1.2.2.2⟩,k2,?_⟩
  simp at k3
  conv=>lhs; rw[qab]
  simp[qad,qcX,n1,h2,k3,w1,Nd.d,Hd.k,Hd.f,Hd.ks,tfr,tst,qrR,List.range_succ]
 ·refine⟨.none,_,qkd,r1,?_⟩
  conv=>lhs; rw[qab]
  simp[qad,qcX,n1,h2,w1,Nd.d,Hd.k,Hd.f,Hd.ks,tfr,tst,qrR,List.range_succ]
theorem qtE (hx : ∀ x∈xs,I64 x) (hl:xs.length<=100) (hi:0<=i/\i<=100) : ∃ (g:Hd) (i':Int),g.gen/\(0<=i'/\i'<=100)/\Z qbx (.loop 0 F123l0 (tfr 1) (tst xs i a Hd.none.nd c))=Z qbx (.loop 0 F123l0 (tfr 2) (tst xs i' a g.nd c)):=by
 have n1:=qbr (i:=i) (m:=4) hx hi (by omega)
 have r1:=qax hi hl
 have w1:=qai 2 (by omega)
 by_cases h2:0<qaI xs i 4
 ·obtain⟨q,i',k1,k2,k3⟩:=(qwc hx hl 2 (by omega)).2 _ r1 3 (by omega) (by omega)
  have hs:ssz 2=420:=rfl
  rw[show ((2:Nat):Int).toNat=2 from rfl,show (3:Int).toNat=3 from rfl,hs] at k1
  refine⟨.some false q,i',⟨⟨k1.1,by show q.fo.size<=2000; omega⟩,rfl,k1.2.1,k1.2.2.1,k1.2.2.2⟩,k2,?_⟩
  simp at k3
  conv=>lhs; rw[qab]
  simp[qad,qcX,n1,h2,k3,w1,Nd.d,Hd.k,Hd.f,Hd.ks,tfr,tst,qrR,List.range_succ]
 ·refine⟨.none,_,qkd,r1,?_⟩
  conv=>lhs; rw[qab]
  simp[qad,qcX,n1,h2,w1,Nd.d,Hd.k,Hd.f,Hd.ks,tfr,tst,qrR,List.range_succ]
theorem qtF (hx : ∀ x∈xs,I64 x) (hl:xs.length<=100) (hi:0<=i/\i<=100) : ∃ (g:Hd) (i':Int),g.gen/\(0<=i'/\i'<=100)/\Z qbx (.loop 0 F123l0 (tfr 2) (tst xs i a b Hd.none.nd))=Z qbx (.loop 0 F123l0 (tfr 3) (tst xs i' a b g.nd)):=by
 have n1:=qbr (i:=i) (m:=4) hx hi (by omega)
 have r1:=qax hi hl
 have w1:=qai 3 (by omega)
 by_cases h2:0<qaI xs i 4
 ·obtain⟨q,i',k1,k2,k3⟩:=(qwc hx hl 2 (by omega)).2 _ r1 3 (by omega) (by omega)
  have hs:ssz 2=420:=rfl
  rw[show ((2:Nat):Int).toNat=2 from rfl,show (3:Int).toNat=3 from rfl,hs] at k1
  refine⟨.some false q,i',⟨⟨k1.1,by show q.fo.size<=2000; omega⟩,rfl,k1.2.1,k1.2.2.1,k1.2.2.2⟩,k2,?_⟩
  simp at k3
  conv=>lhs; rw[qab]
  simp[qad,qcX,n1,h2,k3,w1,Nd.d,Hd.k,Hd.f,Hd.ks,tfr,tst,qrR,List.range_succ]
 ·refine⟨.none,_,qkd,r1,?_⟩
  conv=>lhs; rw[qab]
  simp[qad,qcX,n1,h2,w1,Nd.d,Hd.k,Hd.f,Hd.ks,tfr,tst,qrR,List.range_succ]
end
theorem qo2 {v:D} {xs:List Int} (h:RowV v xs) (hx : ∀ x∈xs,I64 x) : ∃ a b c:Hd,a.gen/\b.gen/\c.gen/\Z qbx (.call 123 [.dat v] [])=some (.ret (.dat (ru a.nd b.nd c.nd)) []):=by
 have hx' : ∀ x∈xs.take 60,I64 x:=fun x hm=>hx x (List.mem_of_mem_take hm)
 have hl':(xs.take 60).length<=100:=by simp; omega
 have n0:=qvG h 60 (by omega)
 obtain⟨a,i1,a1,a2,a4⟩:=qtD (i:=0) (b:=Hd.none.nd) (c:=Hd.none.nd) hx' hl' (by omega)
 obtain⟨b,i2,b1,b2,b4⟩:=qtE (i:=i1) (a:=a.nd) (c:=Hd.none.nd) hx' hl' a2
 obtain⟨c,i3,c1,c2,c4⟩:=qtF (i:=i2) (a:=a.nd) (b:=b.nd) hx' hl' b2
 have hl:=a4.trans (b4.trans (c4.trans qxo))
 refine⟨a,b,c,a1,b1,c1,?_⟩
 refine Z_call (pf:=F123) rfl rfl ?_
 simp only[tfr,tst,qrR,Nd.d,qyf,qyg,qyh,qyi,qxz,List.cons_append,List.nil_append,show Hd.k .none=0 from rfl,show Hd.f .none=false from rfl,show Hd.ks .none = .nil from rfl,z12,qaW,qaB,qtJ] at hl
 simp at n0 hl
 simp[F123,n0,hl,ru,Nd.d,List.range_succ]
end Go.Pm
end SG5
section SUg
namespace Go.Pm
theorem qoY (f fi fb g gi gb:Bool) (s:ByteArray):qbU f fi fb s=(qbU g gi gb s).map (qtU f fi fb):=by
 by_cases hbig:2000<s.size
 ·rw[qbU,if_pos hbig,qbU,if_pos hbig]; rfl
 ·have h1:=qc5 (f:=f) (fi:=fi) (fb:=fb) hbig
  have h2:=qc5 (f:=g) (fi:=gi) (fb:=gb) hbig
  have h3:=qpw 12 2 f g fi fb gi gb 4 (10*(qic s).length+10) (fun _=>none) (qic s)
  rw[show qtU f fi fb (fun _=>none)=fun _=>none from rfl,h1,h2] at h3
  simpa using h3
theorem qlh {f fi fb:Bool} {s:ByteArray} {a c:Nat} (h:qbU f fi fb s = .er a c):c≠0:=by
 by_cases hbig:2000<s.size
 ·rw[qbU,if_pos hbig] at h; cases h; omega
 ·have hn:=qnN f fi fb (10*(qic s).length+10) (fun _=>none) (qic s)
  rw[qc5 hbig,h] at hn
  exact hn
def wt:List ByteArray->Nat
 | []=>0
 | t::l=>t.size+1+wt l
theorem qe5 (a b:List ByteArray):wt (a++b)=wt a+wt b:=by
 induction a with
 | nil=>simp[wt]
 | cons t a ih=>simp only[List.cons_append,wt,ih]; omega
theorem qoZ : ∀ (l:List ByteArray) (p:Bool),(qah p l).length<=wt l
 | [],p=>by simp[qah,wt]
 | t::l,p=>by
  have h1:=qoZ l (qbw p t)
  have h2:=qav t
  have h3:(gap p t).length<=1:=by unfold gap; split<;>simp
  simp only[qah,List.length_append,wt]
  omega
def E.cost:E->Nat
 | .int n=>(decB n.toNat).length+1
 | .bool n=>if n=0 then 6 else 5
 | .var s=>s.size+1
 | .name s=>s.size+1
 | .field _ s e=>s.size+5+e.cost
 | .un _ _ e=>6+e.cost
 | .bin _ o a b=>o.str.size+5+(a.cost+b.cost)
theorem qmS (b:Bool) (l:List ByteArray):wt (qa1 b l)<=wt l+4:=by
 cases b with
 | false=>simp[qa1]
 | true=>
  have:wt (qa1 true l)=2+(wt l+2):=by
   show wt (bs [40]::(l++[bs [41]]))=_
   rw[wt,qe5]
   rfl
  omega
theorem qiE (full:Bool) : ∀ (e:E) p,wt (e.tx full p)<=e.cost
 | .int n,p=>by simp[E.tx,wt,E.cost,qal]
 | .bool n,p=>by
  simp only[E.tx,wt,E.cost]
  split<;>simp[qaX,qbM,qal]
 | .var s,p=>by simp[E.tx,wt,E.cost]
 | .name s,p=>by simp[E.tx,wt,E.cost]
 | .field _ s e,p=>by
  have:=qiE full e 1
  simp only[E.tx,wt,qe5,E.cost,qal,List.length_cons,List.length_nil]
  omega
 | .un _ neg e,p=>by
  have h1:=qiE full e (qb9 neg)
  have h2:=qmS (full||decide (qb9 neg<p)) (ustr neg::e.tx full (qb9 neg))
  have h3:(ustr neg).size=1:=by cases neg<;>rfl
  simp only[E.tx,E.cost]
  rw[wt,h3] at h2
  omega
 | .bin _ o a b,p=>by
  have h1:=qiE full a o.left
  have h2:=qiE full b (o.prec+1)
  have h3:=qmS (full||decide (o.prec<p)) (a.tx full o.left++o.str::b.tx full (o.prec+1))
  simp only[E.tx,E.cost]
  rw[qe5,wt] at h3
  omega
def Ss.cost:Ss->Nat
 | .nil=>0
 | .assign _ s e r=>s.size+5+e.cost+r.cost
 | .store _ s a b r=>s.size+9+(a.cost+b.cost)+r.cost
 | .effect _ a b r=>11+(a.cost+b.cost)+r.cost
 | .stop r=>7+r.cost
 | .cond w _ c b r=>(if w then 6 else 3)+c.cost+b.cost+r.cost
 | .block _ b r=>4+b.cost+((if qcR r then 5 else 0)+r.cost)
theorem qka : ∀ s:Ss,wt s.tx<=s.cost
 | .nil=>Nat.le_refl _
 | .assign _ s e r=>by
  have h1:=qiE false e 1
  have h2:=qka r
  simp only[Ss.tx,wt,qe5,Ss.cost,qal,List.length_cons,List.length_nil]
  omega
 | .store _ s a b r=>by
  have h1:=qiE false a 1
  have h3:=qiE false b 1
  have h2:=qka r
  simp only[Ss.tx,wt,qe5,Ss.cost,qal,List.length_cons,List.length_nil]
  omega
 | .effect _ a b r=>by
  have h1:=qiE false a 1
  have h3:=qiE false b 1
  have h2:=qka r
  simp only[Ss.tx,wt,qe5,Ss.cost,qlU,qal,List.length_cons,List.length_nil]
  omega
 | .stop r=>by
  have h2:=qka r
  simp only[Ss.tx,wt,qe5,Ss.cost,qs7,qal,List.length_cons,List.length_nil]
  omega
 | .cond w _ c b r=>by
  have h1:=qiE false c 1
  have h3:=qka b
  have h2:=qka r
  cases w<;>simp only[Ss.tx,wt,qe5,Ss.cost,qoI,ifS,qal,List.length_cons,List.length_nil,if_true,Bool.false_eq_true,if_false]<;>omega
 | .block _ b r=>by
  have h3:=qka b
  have h2:=qka r
  simp only[Ss.tx,wt,qe5,Ss.cost,qal,List.length_cons,List.length_nil]
  split
  ·simp only[wt,qj3,qal,List.length_cons,List.length_nil]; omega
  ·simp only[wt]; omega
theorem qhv {s:ByteArray} (h:s∈qvN):qqP s/\s.size<=3:=by
 simp only[qvN,qph,List.cons_append,List.nil_append,List.mem_cons,List.not_mem_nil,or_false] at h
 have key : ∀ (c:UInt8) (r:List UInt8),qaU c=true->(∀ b∈r,qau b=true)->(c::r).length<=8->Tg (byl (bs (c::r))):=fun c r h1 h2 h3=>qoB h1 h2 h3
 rcases h with rfl | rfl | rfl | rfl | rfl
 ·exact⟨⟨key 105 [] (by decide) (by decide) (by decide),by decide,by decide,by decide⟩,by decide⟩
 ·exact⟨⟨key 110 [] (by decide) (by decide) (by decide),by decide,by decide,by decide⟩,by decide⟩
 ·exact⟨⟨key 115 [117,109] (by decide) (by decide) (by decide),by decide,by decide,by decide⟩,by decide⟩
 ·exact⟨⟨key 118 [51] (by decide) (by decide) (by decide),by decide,by decide,by decide⟩,by decide⟩
 ·exact⟨⟨key 118 [] (by decide) (by decide) (by decide),by decide,by decide,by decide⟩,by decide⟩
theorem qli {s:ByteArray} (h:s∈ql2):(s=qvo\/s=qrH\/s=qeZ)/\s.size<=5:=by
 simp only[ql2,List.mem_cons,List.not_mem_nil,or_false] at h
 rcases h with rfl | rfl | rfl
 ·exact⟨.inl rfl,by decide⟩
 ·exact⟨.inr (.inl rfl),by decide⟩
 ·exact⟨.inr (.inr rfl),by decide⟩
theorem qfq {s:ByteArray} (h:s∈qhe):s∈fieldNames/\s.size<=5:=by
 simp only[qhe,qii,List.cons_append,List.nil_append,List.mem_cons,List.not_mem_nil,or_false] at h
 rcases h with rfl | rfl | rfl | rfl | rfl | rfl | rfl | rfl<;>exact⟨by decide,by decide⟩
theorem qq5 {n:Nat} (h:n<=2147483647):(decB n).length<=10:=qjT 20 n 9 (by omega)
theorem qbQ : ∀ e:E,e.fine->e.good
 | .int n,h=>h
 | .bool n,h=>h
 | .var s,h=>(qhv h).1
 | .name s,h=>(qli h).1
 | .field _ s e,h=>⟨(qfq h.1).1,qbQ e h.2.1⟩
 | .un _ neg e,h=>qbQ e h.1
 | .bin _ o a b,h=>⟨qbQ a h.1,qbQ b h.2.1⟩
theorem qdd (full:Bool) : ∀ (e:E) p,e.nest full p<=2*e.dp
 | .int n,p | .bool n,p | .var s,p | .name s,p=>by simp[E.nest]
 | .field _ s e,p=>by have:=qdd full e 1; simp only[E.nest,E.dp]; omega
 | .un _ neg e,p=>by have:=qdd full e (qb9 neg); simp only[E.nest,E.dp]; split<;>omega
 | .bin _ o a b,p=>by have h1:=qdd full a o.left; have h2:=qdd full b (o.prec+1); simp only[E.nest,E.dp]; split<;>omega
theorem qbR : ∀ e:E,e.fine->e.cost<=12*e.size
 | .int n,h=>by have:=qq5 (n:=n.toNat) (by have:=h.2; omega); simp only[E.cost,qre]; omega
 | .bool n,h=>by simp only[E.cost,qpb]; split<;>omega
 | .var s,h=>by have:=(qhv h).2; simp only[E.cost,qrf]; omega
 | .name s,h=>by have:=(qli h).2; simp only[E.cost,qpc]; omega
 | .field _ s e,h=>by have h1:=(qfq h.1).2; have h2:=qbR e h.2.1; simp only[E.cost,qjk]; omega
 | .un _ neg e,h=>by have h2:=qbR e h.1; simp only[E.cost,qkh]; omega
 | .bin _ o a b,h=>by
  have h1:=qbR a h.1
  have h2:=qbR b h.2.1
  have h3:o.str.size<=2:=by cases o<;>decide
  simp only[E.cost,qgs]
  omega
theorem qjg {s:ByteArray} (h:s∈qii):s∈qhe:=List.mem_append_left _ h
theorem qnq (s:Ss):s.fine->s.good none:=by
 fun_induction Ss.fine s with
 | case1=>intro _; exact .inl rfl
 | case2 _ s e r ih=>intro h; exact⟨rfl,(qhv h.1.1).1,qbQ e h.1.2.1,ih h.2⟩
 | case3 _ s a b r ih=>intro h; exact⟨rfl,(qfq (qjg h.1.1)).1,qbQ a h.1.2.1,qbQ b h.1.2.2.2.1,ih h.2⟩
 | case4 _ a b r ih=>intro h; exact⟨rfl,qbQ a h.1.1,qbQ b h.1.2.2.1,ih h.2⟩
 | case5 r ih=>intro h; exact⟨rfl,ih h⟩
 | case6 _ c _ x _ y r ih1 ih2 ih3=>intro h; exact⟨rfl,qbQ c h.1.1,⟨1,rfl,ih1 h.2.1,⟨0,rfl,ih2 h.2.2.1,.inr rfl⟩⟩,ih3 h.2.2.2⟩
 | case7 _ c _ x r ih1 ih2=>intro h; exact⟨rfl,qbQ c h.1.1,⟨0,rfl,ih1 h.2.1,.inr rfl⟩,ih2 h.2.2⟩
 | case8=>intro h; exact h.elim
theorem qdD : ∀ s:Ss,s.nest<=2*s.edp+1+s.dp
 | .nil=>by simp[Ss.nest]
 | .assign _ s e r=>by have h1:=qdd false e 1; have h2:=qdD r; simp only[Ss.nest,Ss.edp,Ss.dp]; omega
 | .store _ s a b r=>by have h1:=qdd false a 1; have h3:=qdd false b 1; have h2:=qdD r; simp only[Ss.nest,Ss.edp,Ss.dp]; omega
 | .effect _ a b r=>by have h1:=qdd false a 1; have h3:=qdd false b 1; have h2:=qdD r; simp only[Ss.nest,Ss.edp,Ss.dp]; omega
 | .stop r=>by have h2:=qdD r; simp only[Ss.nest,Ss.edp,Ss.dp]; omega
 | .cond _ _ c b r=>by have h1:=qdd false c 1; have h3:=qdD b; have h2:=qdD r; simp only[Ss.nest,Ss.edp,Ss.dp]; omega
 | .block _ b r=>by have h3:=qdD b; have h2:=qdD r; simp only[Ss.nest,Ss.edp,Ss.dp]; omega
theorem qnr (s:Ss):s.fine->s.cost<=20*s.fo.size:=by
 have hsz : ∀ {s:ByteArray},s∈qii->s.size<=5:=fun h=>(qfq (qjg h)).2
 fun_induction Ss.fine s with
 | case1=>intro _; simp[Ss.cost]
 | case2 _ s e r ih=>
  intro h
  have h1:=ih h.2; have h2:=qbR e h.1.2.1; have h3:=(qhv h.1.1).2
  simp only[Ss.cost,Ss.fo,qaM,qcs,qaZ]; omega
 | case3 _ s a b r ih=>
  intro h
  have h1:=ih h.2; have h2:=qbR a h.1.2.1; have h4:=qbR b h.1.2.2.2.1; have h3:=hsz h.1.1
  simp only[Ss.cost,Ss.fo,qaM,qcs,qaZ]; omega
 | case4 _ a b r ih=>
  intro h
  have h1:=ih h.2; have h2:=qbR a h.1.1; have h4:=qbR b h.1.2.2.1
  simp only[Ss.cost,Ss.fo,qaM,qcs,qaZ]; omega
 | case5 r ih=>
  intro h
  have h1:=ih h
  simp only[Ss.cost,Ss.fo,qaM,qaZ]; omega
 | case6 _ c _ x _ y r ih1 ih2 ih3=>
  intro h
  have h1:=ih1 h.2.1; have h2:=ih2 h.2.2.1; have h3:=ih3 h.2.2.2; have h4:=qbR c h.1.1
  have h5 : ∀ q:Bool,(if q=true then 5 else 0)<=5:=fun q=>by cases q<;>simp
  have h6:=h5 (qcR (.block ‹Bool› y .nil))
  have h7:qcR .nil=false:=rfl
  simp only[Ss.cost,Ss.fo,qaM,qcs,qaZ,Bool.false_eq_true,if_false,h7]
  have h8 : ∀ q,qcR (.block q y .nil)=qcR (.block false y .nil):=fun q=>by cases y<;>rfl
  simp only[h8] at h6 ⊢
  omega
 | case7 _ c _ x r ih1 ih2=>
  intro h
  have h1:=ih1 h.2.1; have h2:=ih2 h.2.2; have h4:=qbR c h.1.1
  simp only[Ss.cost,Ss.fo,qaM,qcs,qaZ,if_true,qcR,Bool.false_eq_true,if_false]
  omega
 | case8=>intro h; exact h.elim
theorem qkb {h:Hd} (hg:h.gen):qcV h.opt:=by
 cases h with
 | none=>intro b hb; cases hb
 | some f b=>
  intro x hx
  cases hx
  have h1:=hg.dp
  have h2:=hg.edp
  have h3:=qdD b
  simp only[Hd.ss] at h1 h2
  exact⟨qnq b hg.fine,by omega⟩
theorem qo0 {a b c:Hd} (ha:a.gen) (hb:b.gen) (hc:c.gen) : ∀ k,qcV (Hd.opts a b c k)
 | 0=>qkb ha
 | 1=>qkb hb
 | _+2=>qkb hc
def Hd.cost:Hd->Nat
 | .none=>0
 | .some _ b=>12+b.cost
theorem qtx (k:Nat) (h:Hd):wt (qeH k h.opt)<=h.cost:=by
 cases h with
 | none=>simp[Hd.opt,qeH,wt]
 | some f b=>
  have:=qka b
  have hk:(qbS k).size<=4:=by unfold qbS; split<;>decide
  simp only[Hd.opt,qeH,wt,qe5,Hd.cost,onS,qal,List.length_cons,List.length_nil]
  omega
theorem qmT (a b c:Hd):(qah false (qaJ (Hd.opts a b c))).length<=a.cost+(b.cost+c.cost):=by
 refine Nat.le_trans (qoZ (qaJ (Hd.opts a b c)) false) ?_
 simp only[qaJ,qe5]
 exact Nat.add_le_add (qtx 0 a) (Nat.add_le_add (qtx 1 b) (qtx 2 c))
theorem qfr {h:Hd} (hg:h.gen):h.cost<=25300:=by
 cases h with
 | none=>simp[Hd.cost]
 | some f b=>
  have h1:=hg.gsize
  have h2:=qnr b hg.fine
  simp only[Hd.ss] at h1
  simp only[Hd.cost]
  omega
end Go.Pm
end SUg
section SF3q
namespace Go.Pm.F
variable (C:Task->Option Res) (q:Nat) (fr:Fr) (σ : S)
def F226:PFun:=⟨4,[.tmp 8],.seq (rn [jj 8 (.mov (.c (.string ⟨#[]⟩)))] [0,1,2,3]) (.seq (rn [mv 10 1,mv 11 0,lz 12 11,bk 13 .add 12 1,cl 14 17 [10,13],mv 9 14] [0,2,3,9]) (.seq (.seq (rn [mv 15 9,mv 16 0,lz 17 16,bn 18 .eql 15 17] [0,2,3,9,18]) (.cond (.t 18) (.seq (rn [mv 19 0,mv 20 3,jj 21 (.bslice 1 [(.lit (.int .u8 0))] [(0,1,(.t 20))]),jj 22 (.bstr (.t 21)),bn 23 .add 19 22,mv 8 23] [8]) (.ret)) (.skip))) (.seq (.seq (rn [mv 24 2,jj 25 (.call 17 [(.t 24),(kk 4)])] [0,3,9,25]) (.block 0 (.seq (rn [bk 27 .eql 25 0,mv 26 27] [0,3,9,25,26]) (.cond (.t 26) (.seq (.region (some []) [mv 28 0,mv 29 9,jj 30 (.sliceS (.t 28) none (some (.t 29))),mv 31 3,jj 32 (.bslice 1 [(.lit (.int .u8 0))] [(0,1,(.t 31))]),jj 33 (.bstr (.t 32)),bn 34 .add 30 33,mv 35 0,mv 36 9,bk 37 .add 36 1,jj 38 (.sliceS (.t 35) (some (.t 37)) none),bn 39 .add 34 38,mv 8 39] [8]) (.ret)) (.seq (rn [bk 41 .eql 25 1,mv 40 41] [0,3,9,25,40]) (.cond (.t 40) (.seq (.region (some []) [mv 42 0,mv 43 9,jj 44 (.sliceS (.t 42) none (some (.t 43))),mv 45 0,mv 46 9,bk 47 .add 46 1,jj 48 (.sliceS (.t 45) (some (.t 47)) none),bn 49 .add 44 48,mv 8 49] [8]) (.ret)) (.seq (rn [bk 51 .eql 25 2,mv 50 51] [0,3,9,50]) (.cond (.t 50) (.seq (rn [mv 52 0,mv 53 9,jj 54 (.sliceS (.t 52) none (some (.t 53))),mv 8 54] [8]) (.ret)) (.skip))))))))) (.seq (.region (some []) [mv 55 0,mv 56 9,jj 57 (.sliceS (.t 55) none (some (.t 56))),mv 58 3,jj 59 (.bslice 1 [(.lit (.int .u8 0))] [(0,1,(.t 58))]),jj 60 (.bstr (.t 59)),bn 61 .add 57 60,mv 62 0,mv 63 9,jj 64 (.sliceS (.t 62) (some (.t 63)) none),bn 65 .add 61 64,mv 8 65] [8]) (.ret))))),false,false,false⟩
def F227:PFun:=⟨1,[.tmp 2],.seq (rn [jj 2 (.mov (.c (.string ⟨#[]⟩)))] [0]) (.seq (rn [mv 3 0,cl 4 123 [3],cl 5 236 [4],mv 2 5] [2]) (.ret)),false,false,false⟩
def F234:PFun:=⟨1,[.tmp 2],.seq (rn [bx 1 0,jj 2 (.mov (.c (.string ⟨#[]⟩)))] [1]) (.seq (rn [la 3 4 1,jj 4 (.call 246 [(.t 3),(kk 1),kF]),mv 2 4] [2]) (.ret)),false,false,false⟩
@[simp] def F236l0x:PC:=(.seq (.seq (rn [mv 5 4,bk 6 .lss 5 3] [1,3,4,6]) (.cond (.t 6) (.skip) (.exit 0))) (.seq (.block 1 (.seq (rn [mv 9 4,fa 10 0 1,jj 11 (.indexAddrA 3 4 (.t 10) (.t 9)),fa 12 0 11,l1 13 12,bk 14 .neq 13 0] [1,3,4,14]) (.cond (.t 14) (.region (some []) [mv 15 3,jj 16 (.call 152 []),mv 17 4,jj 18 (.indexAddr 1 (.t 16) (.t 17)),⟨some 19,.load false 1 (.t 18),none,[9]⟩,mv 20 4,fa 21 0 1,jj 22 (.indexAddrA 3 4 (.t 21) (.t 20)),⟨some 23,.load true 4 (.t 22),none,[1]⟩,cl 24 248 [23],jj 25 (.bslice 4 [eN,eN,eN,eN] [(0,1,(.t 15)),(1,1,(.c (.string ⟨#[111,110]⟩))),(2,1,(.t 19)),(3,1,(.t 24))]),cl 26 247 [25],mv 3 26] [1,3,4] [9,11]) (.skip)))) (rn [mv 7 4,bk 8 .add 7 1,mv 4 8] [1,3,4])))
def F236l0:PC:=F236l0x
theorem qcJ:run C q F236l0 fr σ = run C q F236l0x fr σ := rfl
def F236:PFun:=⟨1,[.tmp 2],.seq (rn [bx 1 0,jj 2 (.mov (.c (.string ⟨#[]⟩)))] [1]) (.seq (rn [jj 3 (.mov (.c (.string ⟨#[]⟩)))] [1,3]) (.seq (.seq (rn [mx 4 (kk 0)] [1,3,4]) (.block 0 (.loop F236l0))) (.seq (rn [mv 27 3,mv 2 27] [2]) (.ret)))),false,false,false⟩
def F246:PFun:=⟨3,[.tmp 6],.seq (rn [bx 3 0,jj 6 (.mov (.c (.string ⟨#[]⟩)))] [1,2,3]) (.seq (rn [la 10 4 3,cl 11 261 [10],mv 7 11] [1,2,3,7]) (.seq (rn [fa 12 2 3,l1 13 12,mv 8 13] [1,2,3,7,8]) (.seq (.seq (rn [fa 14 0 3,l1 15 14,bk 16 .eql 15 8] [1,2,3,7,8,16]) (.cond (.t 16) (rn [fa 17 1 3,l1 18 17,cl 19 20 [18],mv 8 19] [1,2,3,7,8]) (.skip))) (.seq (.seq (rn [fa 20 0 3,l1 21 20,bk 22 .eql 21 9] [1,2,3,7,8,22]) (.cond (.t 22) (.seq (rn [jj 8 (.mov (.c (.string ⟨#[102,97,108,115,101]⟩)))] [1,2,3,7,8]) (.seq (rn [fa 23 1 3,l1 24 23,bk 25 .eql 24 1] [1,2,3,7,8,25]) (.cond (.t 25) (rn [jj 8 (.mov (.c (.string ⟨#[116,114,117,101]⟩)))] [1,2,3,7,8]) (.skip)))) (.skip))) (.seq (.seq (rn [fa 26 0 3,l1 27 26,bk 28 .eql 27 11] [1,2,3,7,8,28]) (.cond (.t 28) (.region (some []) [fa 29 2 3,⟨some 30,.load false 1 (.t 29),none,[7]⟩,fa 31 3 3,l1 32 31,jj 33 (.indexAddr 4 (.t 32) (kk 0)),la 34 4 33,mv 35 2,jj 36 (.call 246 [(.t 34),(kk 1),(.t 35)]),jj 37 (.bslice 4 [eN,eN,eN,eN] [(0,1,(.t 30)),(1,1,(.c (.string ⟨#[91]⟩))),(2,1,(.t 36)),(3,1,(.c (.string ⟨#[93]⟩)))]),cl 38 247 [37],mv 8 38] [1,2,3,7,8] [7,9]) (.skip))) (.seq (.seq (rn [fa 39 0 3,l1 40 39,bk 41 .eql 40 13] [1,2,3,7,8,41]) (.cond (.t 41) (.region (some []) [fa 42 2 3,⟨some 43,.load false 1 (.t 42),none,[8]⟩,fa 44 3 3,l1 45 44,jj 46 (.indexAddr 4 (.t 45) (kk 0)),la 47 4 46,mv 48 7,mv 49 2,cl 50 246 [47,48,49],jj 51 (.bslice 2 [eN,eN] [(0,1,(.t 43)),(1,1,(.t 50))]),cl 52 247 [51],mv 8 52] [1,2,3,7,8] [8,10]) (.skip))) (.seq (.seq (rn [fa 53 0 3,l1 54 53,bk 55 .eql 54 14] [1,2,3,7,8,55]) (.cond (.t 55) (.seq (rn [mv 56 7,mv 9 56] [1,2,3,7,9]) (.seq (.seq (rn [mv 57 7,bk 58 .eql 57 4] [1,2,3,7,9,58]) (.cond (.t 58) (rn [mx 9 (kk 5)] [1,2,3,7,9]) (.skip))) (.region (some []) [fa 59 3 3,l1 60 59,jj 61 (.indexAddr 4 (.t 60) (kk 0)),la 62 4 61,mv 63 9,mv 64 2,cl 65 246 [62,63,64],fa 66 2 3,⟨some 67,.load false 1 (.t 66),none,[6,16]⟩,fa 68 3 3,⟨some 69,.load false 1 (.t 68),none,[6]⟩,jj 70 (.indexAddr 4 (.t 69) (kk 1)),⟨some 71,.load true 4 (.t 70),none,[6]⟩,mv 72 7,bk 73 .add 72 1,mv 74 2,cl 75 246 [71,73,74],jj 76 (.bslice 3 [eN,eN,eN] [(0,1,(.t 65)),(1,1,(.t 67)),(2,1,(.t 75))]),cl 77 247 [76],mv 8 77] [1,2,7,8] [16,18]))) (.skip))) (.seq (.seq (rn [mv 78 7,mv 79 1,bn 80 .lss 78 79,mv 81 80,jf 82 81 (.mov (.t 2)),jf 83 81 (.mov (.t 82)),jt 84 83 (.mov (.t 7)),jt 85 83 (.bin .lss (.t 84) (kk 8)),jf 86 81 (.pick (.t 83) (.t 85) kF),jj 87 (.pick (.t 81) kT (.t 86))] [8,87]) (.cond (.t 87) (.seq (rn [mv 88 8,jj 89 (.bin .add (.c (.string ⟨#[40]⟩)) (.t 88)),jj 90 (.bin .add (.t 89) (.c (.string ⟨#[41]⟩))),mv 6 90] [6]) (.ret)) (.skip))) (.seq (rn [mv 91 8,mv 6 91] [6]) (.ret)))))))))),false,false,false⟩
@[simp] def F247l0x:PC:=(.seq (.seq (rn [mv 5 4,mv 6 0,ls 7 6,bn 8 .lss 5 7] [0,3,4,8]) (.cond (.t 8) (.skip) (.exit 0))) (.seq (.block 1 (rn [mv 11 3,mv 12 0,mv 13 4,jj 14 (.indexAddr 1 (.t 12) (.t 13)),l1 15 14,cl 16 262 [11,15],mv 3 16] [0,3,4])) (rn [mv 9 4,bk 10 .add 9 1,mv 4 10] [0,3,4])))
def F247l0:PC:=F247l0x
theorem qjm:run C q F247l0 fr σ = run C q F247l0x fr σ := rfl
def F247:PFun:=⟨1,[.tmp 2],.seq (rn [jj 2 (.mov (.c (.string ⟨#[]⟩)))] [0]) (.seq (rn [jj 3 (.mov (.c (.string ⟨#[]⟩)))] [0,3]) (.seq (.seq (rn [mx 4 (kk 0)] [0,3,4]) (.block 0 (.loop F247l0))) (.seq (rn [mv 17 3,mv 2 17] [2]) (.ret)))),false,false,false⟩
@[simp] def F248l0x:PC:=(.seq (.seq (rn [mv 5 4,fa 6 3 1,l1 7 6,ls 8 7,bn 9 .lss 5 8] [1,3,4,9]) (.cond (.t 9) (.skip) (.exit 0))) (.seq (.block 1 (rn [mv 12 3,fa 13 3 1,l1 14 13,mv 15 4,jj 16 (.indexAddr 4 (.t 14) (.t 15)),la 17 4 16,cl 18 263 [17],cl 19 262 [12,18],mv 3 19] [1,3,4])) (rn [mv 10 4,bk 11 .add 10 1,mv 4 11] [1,3,4])))
def F248l0:PC:=F248l0x
theorem qgQ:run C q F248l0 fr σ = run C q F248l0x fr σ := rfl
def F248:PFun:=⟨1,[.tmp 2],.seq (rn [bx 1 0,jj 2 (.mov (.c (.string ⟨#[]⟩)))] [1]) (.seq (rn [jj 3 (.mov (.c (.string ⟨#[123]⟩)))] [1,3]) (.seq (.seq (rn [mx 4 (kk 0)] [1,3,4]) (.block 0 (.loop F248l0))) (.seq (rn [mv 20 3,jj 21 (.bin .add (.t 20) (.c (.string ⟨#[125]⟩))),mv 2 21] [2]) (.ret)))),false,false,false⟩
def F261:PFun:=⟨1,[.tmp 2],.seq (rn [bx 1 0,mx 2 (kk 0)] [1]) (.seq (.seq (rn [fa 3 0 1,l1 4 3,bk 5 .eql 4 13] [1,5]) (.cond (.t 5) (.seq (.seq (rn [fa 6 2 1,l1 7 6,jj 8 (.bin .eql (.t 7) (.c (.string ⟨#[33]⟩)))] [8]) (.cond (.t 8) (.seq (rn [mx 2 (kk 3)] [2]) (.ret)) (.skip))) (.seq (rn [mx 2 (kk 7)] [2]) (.ret))) (.skip))) (.seq (.seq (rn [fa 9 0 1,l1 10 9,bk 11 .neq 10 14] [1,11]) (.cond (.t 11) (.seq (rn [mx 2 (kk 8)] [2]) (.ret)) (.skip))) (.seq (.seq (rn [fa 12 2 1,l1 13 12,jj 14 (.bin .eql (.t 13) (.c (.string ⟨#[124,124]⟩)))] [1,14]) (.cond (.t 14) (.seq (rn [mx 2 (kk 1)] [2]) (.ret)) (.skip))) (.seq (.seq (rn [fa 15 2 1,l1 16 15,jj 17 (.bin .eql (.t 16) (.c (.string ⟨#[38,38]⟩)))] [1,17]) (.cond (.t 17) (.seq (rn [mx 2 (kk 2)] [2]) (.ret)) (.skip))) (.seq (.seq (rn [fa 18 2 1,l1 19 18,jj 20 (.bin .eql (.t 19) (.c (.string ⟨#[43]⟩))),mv 21 20,jf 22 21 (.fieldAddr 2 (.t 1)),jf 23 21 (.load false 1 (.t 22)),jf 24 21 (.bin .eql (.t 23) (.c (.string ⟨#[45]⟩))),jj 25 (.pick (.t 21) kT (.t 24))] [1,25]) (.cond (.t 25) (.seq (rn [mx 2 (kk 5)] [2]) (.ret)) (.skip))) (.seq (.seq (rn [fa 26 2 1,l1 27 26,jj 28 (.bin .eql (.t 27) (.c (.string ⟨#[42]⟩))),mv 29 28,jf 30 29 (.fieldAddr 2 (.t 1)),jf 31 29 (.load false 1 (.t 30)),jf 32 29 (.bin .eql (.t 31) (.c (.string ⟨#[47]⟩))),jj 33 (.pick (.t 29) kT (.t 32))] [33]) (.cond (.t 33) (.seq (rn [mx 2 (kk 6)] [2]) (.ret)) (.skip))) (.seq (rn [mx 2 (kk 4)] [2]) (.ret)))))))),false,false,false⟩
def F262:PFun:=⟨2,[.tmp 4],.seq (rn [jj 4 (.mov (.c (.string ⟨#[]⟩)))] [0,1]) (.seq (.seq (rn [mv 7 0,jj 8 (.bin .neq (.t 7) (.c (.string ⟨#[]⟩))),mv 9 8,jt 10 9 (.mov (.t 1)),jt 11 9 (.bin .neq (.t 10) (.c (.string ⟨#[]⟩))),jj 12 (.pick (.t 9) (.t 11) kF)] [0,1,12]) (.cond (.t 12) (.seq (rn [mv 13 0,mv 14 0,lz 15 14,bk 16 .sub 15 1,jj 17 (.indexS (.t 13) (.t 16)),mv 5 17] [0,1,5]) (.seq (rn [mv 18 1,jj 19 (.indexS (.t 18) (kk 0)),mv 6 19] [0,1,5,6]) (.seq (rn [mv 20 5,cl 21 192 [20],mv 22 21,jf 23 22 (.mov (.t 5)),jf 24 22 (.call 193 [(.t 23)]),jj 25 (.pick (.t 22) kT (.t 24)),mv 26 25,jt 27 26 (.mov (.t 6)),jt 28 26 (.call 192 [(.t 27)]),jt 29 26 (.mov (.t 28)),jf 30 29 (.mov (.t 6)),jf 31 29 (.call 193 [(.t 30)]),jt 32 26 (.pick (.t 29) kT (.t 31)),jj 33 (.pick (.t 26) (.t 32) kF)] [0,1,33]) (.cond (.t 33) (.seq (rn [mv 34 0,jj 35 (.bin .add (.t 34) (.c (.string ⟨#[32]⟩))),mv 36 1,bn 37 .add 35 36,mv 4 37] [4]) (.ret)) (.skip))))) (.skip))) (.seq (rn [mv 38 0,mv 39 1,bn 40 .add 38 39,mv 4 40] [4]) (.ret))),false,false,false⟩
def F263:PFun:=⟨1,[.tmp 2],.seq (rn [bx 1 0,jj 2 (.mov (.c (.string ⟨#[]⟩)))] [1]) (.seq (.seq (rn [fa 4 0 1,l1 5 4] [1,5]) (.block 0 (.seq (rn [bk 7 .eql 5 1,mv 6 7] [1,5,6]) (.cond (.t 6) (.seq (.region (some []) [fa 8 2 1,⟨some 9,.load false 1 (.t 8),none,[6]⟩,fa 10 3 1,l1 11 10,jj 12 (.indexAddr 4 (.t 11) (kk 0)),la 13 4 12,cl 14 234 [13],jj 15 (.bslice 4 [eN,eN,eN,eN] [(0,1,(.t 9)),(1,1,(.c (.string ⟨#[61]⟩))),(2,1,(.t 14)),(3,1,(.c (.string ⟨#[59]⟩)))]),cl 16 247 [15],mv 2 16] [2] [6,8]) (.ret)) (.seq (rn [bk 18 .eql 5 2,mv 17 18] [1,5,17]) (.cond (.t 17) (.seq (.region (some []) [fa 19 2 1,⟨some 20,.load false 1 (.t 19),none,[6,11]⟩,fa 21 3 1,l1 22 21,jj 23 (.indexAddr 4 (.t 22) (kk 0)),la 24 4 23,cl 25 234 [24],fa 26 3 1,⟨some 27,.load false 1 (.t 26),none,[6]⟩,jj 28 (.indexAddr 4 (.t 27) (kk 1)),⟨some 29,.load true 4 (.t 28),none,[6]⟩,cl 30 234 [29],jj 31 (.bslice 7 [eN,eN,eN,eN,eN,eN,eN] [(0,1,(.t 20)),(1,1,(.c (.string ⟨#[91]⟩))),(2,1,(.t 25)),(3,1,(.c (.string ⟨#[93]⟩))),(4,1,(.c (.string ⟨#[61]⟩))),(5,1,(.t 30)),(6,1,(.c (.string ⟨#[59]⟩)))]),cl 32 247 [31],mv 2 32] [2] [11,13]) (.ret)) (.seq (rn [bk 34 .eql 5 5,mv 33 34] [1,5,33]) (.cond (.t 33) (.seq (.region (some []) [fa 35 3 1,l1 36 35,jj 37 (.indexAddr 4 (.t 36) (kk 0)),la 38 4 37,cl 39 234 [38],fa 40 3 1,⟨some 41,.load false 1 (.t 40),none,[4]⟩,jj 42 (.indexAddr 4 (.t 41) (kk 1)),⟨some 43,.load true 4 (.t 42),none,[4]⟩,cl 44 234 [43],jj 45 (.bslice 5 [eN,eN,eN,eN,eN] [(0,1,(.c (.string ⟨#[101,102,102,101,99,116]⟩))),(1,1,(.t 39)),(2,1,(.c (.string ⟨#[44]⟩))),(3,1,(.t 44)),(4,1,(.c (.string ⟨#[59]⟩)))]),cl 46 247 [45],mv 2 46] [2] [9,11]) (.ret)) (.seq (rn [bk 48 .eql 5 6,mv 47 48] [1,5,47]) (.cond (.t 47) (.seq (rn [jj 2 (.mov (.c (.string ⟨#[115,116,111,112,59]⟩)))] [2]) (.ret)) (.seq (rn [bk 50 .eql 5 4,mv 49 50] [1,49]) (.cond (.t 49) (.seq (.region (some []) [fa 51 3 1,l1 52 51,jj 53 (.indexAddr 4 (.t 52) (kk 0)),la 54 4 53,cl 55 234 [54],fa 56 3 1,⟨some 57,.load false 1 (.t 56),none,[4]⟩,jj 58 (.indexAddr 4 (.t 57) (kk 1)),⟨some 59,.load true 4 (.t 58),none,[4]⟩,cl 60 248 [59],jj 61 (.bslice 3 [eN,eN,eN] [(0,1,(.c (.string ⟨#[119,104,105,108,101]⟩))),(1,1,(.t 55)),(2,1,(.t 60))]),cl 62 247 [61],mv 2 62] [2] [9,11]) (.ret)) (.skip))))))))))))) (.seq (.region (some []) [fa 63 3 1,l1 64 63,jj 65 (.indexAddr 4 (.t 64) (kk 0)),la 66 4 65,cl 67 234 [66],fa 68 3 1,⟨some 69,.load false 1 (.t 68),none,[4]⟩,jj 70 (.indexAddr 4 (.t 69) (kk 1)),⟨some 71,.load true 4 (.t 70),none,[4]⟩,cl 72 248 [71],jj 73 (.bslice 3 [eN,eN,eN] [(0,1,(.c (.string ⟨#[105,102]⟩))),(1,1,(.t 67)),(2,1,(.t 72))]),cl 74 247 [73],mv 3 74] [1,3] [9,11]) (.seq (.seq (rn [fa 75 3 1,l1 76 75,jj 77 (.indexAddr 4 (.t 76) (kk 2)),fa 78 3 77,l1 79 78,ls 80 79,bk 81 .gtr 80 0] [1,3,81]) (.cond (.t 81) (rn [mv 82 3,fa 83 3 1,l1 84 83,jj 85 (.indexAddr 4 (.t 84) (kk 2)),la 86 4 85,cl 87 248 [86],jj 88 (.bslice 3 [eN,eN,eN] [(0,1,(.t 82)),(1,1,(.c (.string ⟨#[101,108,115,101]⟩))),(2,1,(.t 87))]),cl 89 247 [88],mv 3 89] [3]) (.skip))) (.seq (rn [mv 90 3,mv 2 90] [2]) (.ret))))),false,false,false⟩
end Go.Pm.F
end SF3q
section SFLaw13
namespace Go.Pm.F
variable (C:Task->Option Res) (q:Nat) (fr:Fr) (σ : S)
@[simp] def F220l0x:PC:=(.seq (.seq (rn [mv 31 12,bk 32 .lss 31 3] [11,12,32]) (.cond (.t 32) (.skip) (.exit 0))) (.seq (.block 1 (.seq (rn [mv 36 11,mv 37 12,jj 38 (.indexAddr 1 (.t 36) (.t 37)),l1 39 38,cl 40 228 [39],mv 35 40,ex 41 35 0,ex 42 35 1,ex 43 35 2,jj 13 (.alloc [zN,zN,eN,sN,zN,zN,eN,sN,zN,zN,eN,sN]),st 12 13 41,mv 14 42,mv 15 43] [11,12,13,15]) (.seq (.seq (rn [mv 44 15,bk 45 .neq 44 0] [11,12,13,45]) (.cond (.t 45) (.exit 1) (.skip))) (.seq (rn [la 46 12 13,cl 47 231 [46],mv 16 47] [11,12,13,16]) (.seq (rn [mv 49 16,cl 50 228 [49],mv 48 50,ex 51 48 0,ex 52 48 1,ex 53 48 2,jj 17 (.alloc [zN,zN,eN,sN,zN,zN,eN,sN,zN,zN,eN,sN]),st 12 17 51,mv 18 52,mv 19 53] [11,12,13,16,17,18,19]) (.seq (rn [mv 54 19,bk 55 .neq 54 0,mv 56 55,jf 57 56 (.mov (.t 18)),jf 58 56 (.bin .neq (.t 57) (kk 0)),jj 59 (.pick (.t 56) kT (.t 58)),mv 60 59,jf 61 60 (.load true 12 (.t 13)),jf 62 60 (.load true 12 (.t 17)),jf 63 60 (.call 232 [(.t 61),(.t 62)]),jf 64 60 (.un .not (.t 63)),jj 65 (.pick (.t 60) kT (.t 64)),mv 66 65,jf 67 66 (.mov (.t 16)),jf 68 66 (.len .str (.t 67)),jf 69 66 (.mov (.t 11)),jf 70 66 (.mov (.t 12)),jf 71 66 (.indexAddr 1 (.t 69) (.t 70)),jf 72 66 (.load false 1 (.t 71)),jf 73 66 (.len .str (.t 72)),jf 74 66 (.bin .gtr (.t 68) (.t 73)),jj 75 (.pick (.t 66) kT (.t 74)),mv 76 75,jf 77 76 (.load true 12 (.t 17)),jf 78 76 (.call 231 [(.t 77)]),jf 79 76 (.mov (.t 16)),jf 80 76 (.bin .neq (.t 78) (.t 79)),jj 81 (.pick (.t 76) kT (.t 80))] [11,12,81]) (.cond (.t 81) (.seq (rn [mx 10 kF] [10]) (.ret)) (.skip)))))))) (rn [mv 33 12,bk 34 .add 33 1,mv 12 34] [11,12])))
def F220l0:PC:=F220l0x
theorem qgG:run C q F220l0 fr σ = run C q F220l0x fr σ := rfl
def F220:PFun:=⟨5,[.tmp 10],.seq (rn [mx 10 kF] [0,1,2,3,4]) (.seq (rn [mv 20 0,jj 21 (.call 225 [(.t 20),(kk 300)]),mv 22 1,cl 23 227 [22],mv 24 1,cl 25 227 [24],mv 26 2,mv 27 3,mv 28 4,cl 29 226 [25,26,27,28],jj 30 (.bslice 3 [eN,eN,eN] [(0,1,(.t 21)),(1,1,(.t 23)),(2,1,(.t 29))]),mv 11 30] [11]) (.seq (.seq (rn [mx 12 (kk 0)] [11,12]) (.block 0 (.loop F220l0))) (.seq (rn [jj 82 (.call 229 []),mv 10 82] [10]) (.ret)))),false,false,false⟩
def F229:PFun:=⟨0,[.tmp 0],.seq (rn [mx 0 kF] []) (.seq (rn [jj 8 (.call 228 [(.c (.string ⟨#[111,110,32,116,105,99,107,123,120,91,48,93,61,49,43,50,42,118,59,125]⟩))]),mv 7 8,ex 9 7 0,ex 10 7 1,ex 11 7 2,jj 1 (.alloc [zN,zN,eN,sN,zN,zN,eN,sN,zN,zN,eN,sN]),st 12 1 9,mv 2 10,mv 3 11] [1,2,3]) (.seq (rn [jj 13 (.call 228 [(.c (.string ⟨#[111,110,32,97,99,116,32,123,32,115,116,111,112,32,125]⟩))]),mv 12 13,ex 14 12 0,ex 15 12 1,ex 16 12 2,jj 4 (.alloc [zN,zN,eN,sN,zN,zN,eN,sN,zN,zN,eN,sN]),st 12 4 14,mv 5 15,mv 6 16] [1,2,3,5,6]) (.seq (.seq (rn [fa 17 0 1,jj 18 (.indexAddrA 3 4 (.t 17) (kk 1)),fa 19 3 18,l1 20 19,ls 21 20,bk 22 .neq 21 1] [1,2,3,5,6,22]) (.cond (.t 22) (.seq (rn [mx 0 kF] [0]) (.ret)) (.skip))) (.seq (rn [mv 23 2,bk 24 .eql 23 0,mv 25 24,jt 26 25 (.mov (.t 3)),jt 27 25 (.bin .eql (.t 26) (kk 0)),jj 28 (.pick (.t 25) (.t 27) kF),mv 29 28,jt 30 29 (.fieldAddr 0 (.t 1)),jt 31 29 (.indexAddrA 3 4 (.t 30) (kk 1)),jt 32 29 (.fieldAddr 3 (.t 31)),jt 33 29 (.load false 1 (.t 32)),jt 34 29 (.indexAddr 4 (.t 33) (kk 0)),jt 35 29 (.fieldAddr 0 (.t 34)),jt 36 29 (.load false 1 (.t 35)),jt 37 29 (.bin .eql (.t 36) (kk 2)),jj 38 (.pick (.t 29) (.t 37) kF),mv 39 38,jt 40 39 (.load true 12 (.t 1)),jt 41 39 (.call 231 [(.t 40)]),jt 42 39 (.bin .eql (.t 41) (.c (.string ⟨#[111,110,32,116,105,99,107,123,120,91,48,93,61,49,43,50,42,118,59,125]⟩))),jj 43 (.pick (.t 39) (.t 42) kF),mv 44 43,jt 45 44 (.mov (.t 5)),jt 46 44 (.bin .eql (.t 45) (kk 14)),jj 47 (.pick (.t 44) (.t 46) kF),mv 48 47,jt 49 48 (.mov (.t 6)),jt 50 48 (.bin .eql (.t 49) (kk 12)),jj 51 (.pick (.t 48) (.t 50) kF),mv 0 51] [0]) (.ret))))),false,false,false⟩
def F232:PFun:=⟨2,[.tmp 4],.seq (rn [bx 2 0,bx 3 1,mx 4 kF] [2,3]) (.seq (rn [fa 5 0 2,jj 6 (.indexAddrA 3 4 (.t 5) (kk 0)),la 7 4 6,fa 8 0 3,jj 9 (.indexAddrA 3 4 (.t 8) (kk 0)),la 10 4 9,cl 11 235 [7,10],mv 12 11,jt 13 12 (.fieldAddr 0 (.t 2)),jt 14 12 (.indexAddrA 3 4 (.t 13) (kk 1)),jt 15 12 (.load true 4 (.t 14)),jt 16 12 (.fieldAddr 0 (.t 3)),jt 17 12 (.indexAddrA 3 4 (.t 16) (kk 1)),jt 18 12 (.load true 4 (.t 17)),jt 19 12 (.call 235 [(.t 15),(.t 18)]),jj 20 (.pick (.t 12) (.t 19) kF),mv 21 20,jt 22 21 (.fieldAddr 0 (.t 2)),jt 23 21 (.indexAddrA 3 4 (.t 22) (kk 2)),jt 24 21 (.load true 4 (.t 23)),jt 25 21 (.fieldAddr 0 (.t 3)),jt 26 21 (.indexAddrA 3 4 (.t 25) (kk 2)),jt 27 21 (.load true 4 (.t 26)),jt 28 21 (.call 235 [(.t 24),(.t 27)]),jj 29 (.pick (.t 21) (.t 28) kF),mv 4 29] [4]) (.ret)),false,false,false⟩
end Go.Pm.F
end SFLaw13
section STE
namespace Go.Pm.F
def tE:Nat->Option PFun
 | 232=>some F232
 | 235=>some F235
 | _=>none
end Go.Pm.F
end STE
section SUb
namespace Go.Pm
open F
set_option maxHeartbeats 4000000
abbrev quK (k n:Int) (s:ByteArray) (d:D) (k' n':Int) (s':ByteArray) (d':D):S:=[.cells [.int k,.int n,.str s,.dat d],.cells [.int k',.int n',.str s',.dat d']]
def ndEq (k n:Int) (s:ByteArray) (a:Fo) (k' n':Int) (s':ByteArray) (b:Fo):Bool:=(decide (k=k')&&(decide (n=n')&&decide (s=s')))&&a.eqv b
def qxH (a b:Fo):Prop := ∀ (k n:Int) (s:ByteArray) (f:Bool) (k' n':Int) (s':ByteArray) (f':Bool),Z tE (.call 235 [nd k n s f a,nd k' n' s' f' b] [])=some (.ret (.bool (ndEq k n s a k' n' s' b)) [])
def qxI (a:Fo):Prop := ∀ (b:Fo) (ca cb:List D) (m i:Nat) (k n:Int) (s:ByteArray) (f:Bool) (k' n':Int) (s':ByteArray) (f':Bool),ca.drop (i*4)=a.cells->cb.drop (i*4)=b.cells->a.len=b.len->i+a.len=m->m<2 ^ 30 ->
 Z tE (.loop 0 F235l0 [(2,.ptr 0 0),(3,.ptr 1 0),(36,.int m),(37,.int i)] (quK k n s (.sl ca m f) k' n' s' (.sl cb m f')))=some (if a.eqv b then .out (.exit 0) [(2,.ptr 0 0),(3,.ptr 1 0),(36,.int m),(37,.int m),(38,.bool false)] (quK k n s (.sl ca m f) k' n' s' (.sl cb m f')) else .out .ret [(4,.bool false)] (quK k n s (.sl ca m f) k' n' s' (.sl cb m f')))
theorem qry {a:Fo} (hq:qxI a) (ha:a.len<2 ^ 30) (b:Fo):qxH a b:=by
 intro k n s f k' n' s' f'
 refine Z_call (pf:=F235) rfl rfl ?_
 unfold ndEq
 by_cases h1:k=k'
 ·by_cases h2:n=n'
  ·by_cases h3:s=s'
   ·subst h1 h2 h3
    by_cases h4:a.len=b.len
    ·cases hl:a.len with
     | zero=>
      have hb:b.len=0:=by omega
      have e:a.eqv b=true:=by
       cases a with
       | nil=>cases b with | nil=>rfl | cons=>simp at hb
       | cons=>simp at hl
      have z0:Z tE (.loop 0 F235l0 [(2,.ptr 0 0),(3,.ptr 1 0),(36,.int 0),(37,.int 0)] (quK k n s (.lit (.slice none 0 0)) k n s (.lit (.slice none 0 0))))=some (.out (.exit 0) [(2,.ptr 0 0),(3,.ptr 1 0),(36,.int 0),(37,.int 0),(38,.bool false)] (quK k n s (.lit (.slice none 0 0)) k n s (.lit (.slice none 0 0)))):=by
       rw[qab]
       simp -implicitDefEqProofs [qad,qfe,qia,List.range_succ]
      have hh:nd k n s f a = .dat (.agg [.lit (.int .i64 k),.lit (.int .i64 n),.lit (.string s),.lit (.slice none 0 0)]):=by rw[nd,hl,qtJ]
      have hh':nd k n s f' b = .dat (.agg [.lit (.int .i64 k),.lit (.int .i64 n),.lit (.string s),.lit (.slice none 0 0)]):=by rw[nd,hb,qtJ]
      rw[hh,hh']
      simp -implicitDefEqProofs [F235,z0,e,qa0,qia,List.range_succ]
     | succ q=>
      have z:=hq b a.cells b.cells a.len 0 k n s f k n s f' (by simp) (by simp) h4 (by omega) ha
      have hb:b.len=a.len:=h4.symm
      have ka : ∀ g cs,kd g (q+1) cs = .sl cs (q+1) g:=fun g cs=>rfl
      have hh : ∀ g (c:Fo),c.len=q+1->nd k n s g c = .dat (.agg [.lit (.int .i64 k),.lit (.int .i64 n),.lit (.string s),.sl c.cells (q+1) g]):=fun g c hc=>by rw[nd,hc,ka]
      rw[hh f a hl,hh f' b (hb.trans hl)]
      rw[hl] at z
      clear hh ka hq hb hl h4 ha
      generalize q+1=m at *
      simp only[Int.cast_ofNat_Int] at z
      by_cases he:a.eqv b=true
      ·rw[if_pos he] at z
       simp -implicitDefEqProofs [F235,z,he,qa0,qgn,List.range_succ]
      ·rw[if_neg he] at z
       simp -implicitDefEqProofs [F235,z,he,qa0,qgn,List.range_succ]
    ·have he:a.eqv b=false:=by
      cases h:a.eqv b with
      | false=>rfl
      | true=>exact absurd (qpu h) h4
     have h4' : ¬ (a.len:Int)=b.len:=by omega
     simp -implicitDefEqProofs [F235,h4,h4',he,qa0,List.range_succ]
   ·simp -implicitDefEqProofs [F235,h1,h2,h3,qa0,List.range_succ]
  ·simp -implicitDefEqProofs [F235,h1,h2,qa0,List.range_succ]
 ·simp -implicitDefEqProofs [F235,h1,qa0,List.range_succ]
theorem qlM : ∀ a:Fo,a.size<2 ^ 30->qxI a
 | .nil,_=>by
  intro b ca cb m i k n s f k' n' s' f' hA hB hl hm hm2
  cases b with
  | cons=>simp at hl
  | nil=>
   have:i=m:=by simpa using hm
   subst this
   rw[show Fo.nil.eqv .nil=true from rfl,if_pos rfl,qab]
   simp -implicitDefEqProofs [qad,qfe,qgn,List.range_succ]
 | .cons ka na sa fa ksa ra,hsz=>by
  intro b ca cb m i k n s f k' n' s' f' hA hB hl hm hm2
  cases b with
  | nil=>simp at hl
  | cons kb nb sb fb ksb rb=>
   simp only[qaM] at hsz
   have hks:=qry (qlM ksa (by omega)) (by have:=qif ksa; omega) ksb ka na sa fa kb nb sb fb
   simp only[qaz,qaO] at hA hB hl hm
   have c1:=qwn hA
   have c2:=qwn hB
   have hlt:(i:Int)<m:=by omega
   have hlt':i<m:=by omega
   have w1:IntKind.i64.wrap ((i:Int)+1)=((i+1:Nat):Int):=by rw[qai _ (by omega)]; omega
   have ih:=qlM ra (by omega) rb ca cb m (i+1) k n s f k' n' s' f' (qcA hA) (qcA hB) (by omega) (by omega) hm2
   rw[show (Fo.cons ka na sa fa ksa ra).eqv (.cons kb nb sb fb ksb rb)=(ndEq ka na sa ksa kb nb sb ksb&&ra.eqv rb) by simp[Fo.eqv,ndEq,Bool.and_assoc]]
   simp only[nd] at hks
   generalize ndEq ka na sa ksa kb nb sb ksb=B at *
   generalize ((i+1:Nat):Int)=i1 at *
   cases B with
   | true=>
    rw[Bool.true_and,<- ih]
    conv=>lhs; rw[qab]
    simp -implicitDefEqProofs [qad,qfe,qaf,qgn,c1,c2,hlt,hlt',hks,w1,List.range_succ]
   | false=>
    rw[Bool.false_and,if_neg (by simp)]
    rw[qab]
    simp -implicitDefEqProofs [qad,qfe,qaf,qgn,c1,c2,hlt,hlt',hks,List.range_succ]
theorem qjO {a b:Fo} (ha:a.size<2 ^ 30):qxH a b:=qry (qlM a ha) (by have:=qif a; omega) b
theorem qpW {a b c a' b' c':Nd} (ha:a.ks.size<2 ^ 30) (hb:b.ks.size<2 ^ 30) (hc:c.ks.size<2 ^ 30):Z tE (.call 232 [.dat (ru a b c),.dat (ru a' b' c')] []) =
  some (.ret (.bool (ndEq a.k a.n a.s a.ks a'.k a'.n a'.s a'.ks&&(ndEq b.k b.n b.s b.ks b'.k b'.n b'.s b'.ks&&ndEq c.k c.n c.s c.ks c'.k c'.n c'.s c'.ks))) []):=by
 have z1:=qjO ha (b:=a'.ks) a.k a.n a.s a.f a'.k a'.n a'.s a'.f
 have z2:=qjO hb (b:=b'.ks) b.k b.n b.s b.f b'.k b'.n b'.s b'.f
 have z3:=qjO hc (b:=c'.ks) c.k c.n c.s c.f c'.k c'.n c'.s c'.f
 refine Z_call (pf:=F232) rfl rfl ?_
 simp only[nd] at z1 z2 z3
 generalize ndEq a.k a.n a.s a.ks a'.k a'.n a'.s a'.ks=B1 at *
 generalize ndEq b.k b.n b.s b.ks b'.k b'.n b'.s b'.ks=B2 at *
 generalize ndEq c.k c.n c.s c.ks c'.k c'.n c'.s c'.ks=B3 at *
 cases B1<;>cases B2<;>cases B3<;>simp -implicitDefEqProofs [F232,ru,Nd.d,z1,z2,z3,List.range_succ]
end Go.Pm
end SUb
section SF01n
namespace Go.Pm.F
variable (C:Task->Option Res) (q:Nat) (fr:Fr) (σ : S)
def F225:PFun:=⟨2,[.tmp 4],.seq (rn [jj 4 (.mov (.c (.string ⟨#[]⟩)))] [0,1]) (.seq (.seq (rn [mv 5 0,lz 6 5,mv 7 1,bn 8 .gtr 6 7] [0,1,8]) (.cond (.t 8) (.seq (rn [mv 9 0,mv 10 1,jj 11 (.sliceS (.t 9) none (some (.t 10))),mv 4 11] [4]) (.ret)) (.skip))) (.seq (rn [mv 12 0,mv 4 12] [4]) (.ret))),false,false,false⟩
end Go.Pm.F
end SF01n
section STK
namespace Go.Pm.F
def tK:Nat->Option PFun
 | 220=>some F220
 | 225=>some F225
 | 226=>some F226
 | 227=>some F227
 | 229=>some F229
 | _=>none
end Go.Pm.F
end STK
section SOd
namespace Go.Pm
open F
set_option maxHeartbeats 4000000
def tab2:ByteArray:=⟨#[48,48,48,49,48,50,48,51,48,52,48,53,48,54,48,55,48,56,48,57,49,48,49,49,49,50,49,51,49,52,49,53,49,54,49,55,49,56,49,57,50,48,50,49,50,50,50,51,50,52,50,53,50,54,50,55,50,56,50,57,51,48,51,49,51,50,51,51,51,52,51,53,51,54,51,55,51,56,51,57,52,48,52,49,52,50,52,51,52,52,52,53,52,54,52,55,52,56,52,57,53,48,53,49,53,50,53,51,53,52,53,53,53,54,53,55,53,56,53,57,54,48,54,49,54,50,54,51,54,52,54,53,54,54,54,55,54,56,54,57,55,48,55,49,55,50,55,51,55,52,55,53,55,54,55,55,55,56,55,57,56,48,56,49,56,50,56,51,56,52,56,53,56,54,56,55,56,56,56,57,57,48,57,49,57,50,57,51,57,52,57,53,57,54,57,55,57,56,57,57]⟩
def tab8:ByteArray:=⟨#[0,1,2,2,3,3,3,3,4,4,4,4,4,4,4,4,5,5,5,5,5,5,5,5,5,5,5,5,5,5,5,5,6,6,6,6,6,6,6,6,6,6,6,6,6,6,6,6,6,6,6,6,6,6,6,6,6,6,6,6,6,6,6,6,7,7,7,7,7,7,7,7,7,7,7,7,7,7,7,7,7,7,7,7,7,7,7,7,7,7,7,7,7,7,7,7,7,7,7,7,7,7,7,7,7,7,7,7,7,7,7,7,7,7,7,7,7,7,7,7,7,7,7,7,7,7,7,7,8,8,8,8,8,8,8,8,8,8,8,8,8,8,8,8,8,8,8,8,8,8,8,8,8,8,8,8,8,8,8,8,8,8,8,8,8,8,8,8,8,8,8,8,8,8,8,8,8,8,8,8,8,8,8,8,8,8,8,8,8,8,8,8,8,8,8,8,8,8,8,8,8,8,8,8,8,8,8,8,8,8,8,8,8,8,8,8,8,8,8,8,8,8,8,8,8,8,8,8,8,8,8,8,8,8,8,8,8,8,8,8,8,8,8,8,8,8,8,8,8,8,8,8,8,8,8,8]⟩
section
variable (tab:ByteArray)
def F295l0Kx:PC:=(.seq (.seq (rn [mv 19 4,bk 20 .geq 19 8] [0,1,4,20]) (.cond (.t 20) (.skip) (.exit 0))) (.block 1 (.seq (rn [mv 21 1,jj 22 (.bin .rem (.t 21) (.c (.int .u64 100000000))),jj 23 (.conv (.int .u32) (.t 22)),mv 5 23] [0,1,4,5]) (.seq (rn [mv 24 1,jj 25 (.bin .quo (.t 24) (.c (.int .u64 100000000))),mv 1 25] [0,1,4,5]) (.seq (rn [mv 26 5,jj 27 (.bin .quo (.t 26) (.c (.int .u32 10000))),mv 28 5,jj 29 (.bin .rem (.t 28) (.c (.int .u32 10000))),mv 6 27,mv 7 29] [0,1,4,6,7]) (.seq (rn [mv 30 7,jj 31 (.bin .quo (.t 30) (.c (.int .u32 100))),jj 32 (.bin .mul (.t 31) (.c (.int .u32 2))),mv 33 7,jj 34 (.bin .rem (.t 33) (.c (.int .u32 100))),jj 35 (.bin .mul (.t 34) (.c (.int .u32 2))),mv 8 32,mv 9 35] [0,1,4,6,8,9]) (.seq (rn [mv 36 6,jj 37 (.bin .quo (.t 36) (.c (.int .u32 100))),jj 38 (.bin .mul (.t 37) (.c (.int .u32 2))),mv 39 6,jj 40 (.bin .rem (.t 39) (.c (.int .u32 100))),jj 41 (.bin .mul (.t 40) (.c (.int .u32 2))),mv 10 38,mv 11 41] [0,1,4,8,9,10,11]) (.seq (.region (some []) [mv 42 0,mv 43 4,bk 44 .sub 43 1,mv 45 0,mv 46 4,bk 47 .sub 46 2,mv 48 9,jj 49 (.bin .add (.t 48) (.c (.int .u32 1))),jj 50 (.indexS (.c (.string tab)) (.t 49)),mv 51 9,jj 52 (.indexS (.c (.string tab)) (.t 51)),jj 53 (.indexAddr 1 (.t 42) (.t 44)),st 1 53 50,jj 54 (.indexAddr 1 (.t 45) (.t 47)),st 1 54 52] [0,1,4,8,10,11]) (.seq (.region (some []) [mv 55 0,mv 56 4,bk 57 .sub 56 3,mv 58 0,mv 59 4,bk 60 .sub 59 4,mv 61 8,jj 62 (.bin .add (.t 61) (.c (.int .u32 1))),jj 63 (.indexS (.c (.string tab)) (.t 62)),mv 64 8,jj 65 (.indexS (.c (.string tab)) (.t 64)),jj 66 (.indexAddr 1 (.t 55) (.t 57)),st 1 66 63,jj 67 (.indexAddr 1 (.t 58) (.t 60)),st 1 67 65] [0,1,4,10,11]) (.seq (.region (some []) [mv 68 0,mv 69 4,bk 70 .sub 69 5,mv 71 0,mv 72 4,bk 73 .sub 72 6,mv 74 11,jj 75 (.bin .add (.t 74) (.c (.int .u32 1))),jj 76 (.indexS (.c (.string tab)) (.t 75)),mv 77 11,jj 78 (.indexS (.c (.string tab)) (.t 77)),jj 79 (.indexAddr 1 (.t 68) (.t 70)),st 1 79 76,jj 80 (.indexAddr 1 (.t 71) (.t 73)),st 1 80 78] [0,1,4,10]) (.seq (.region (some []) [mv 81 0,mv 82 4,bk 83 .sub 82 7,mv 84 0,mv 85 4,bk 86 .sub 85 8,mv 87 10,jj 88 (.bin .add (.t 87) (.c (.int .u32 1))),jj 89 (.indexS (.c (.string tab)) (.t 88)),mv 90 10,jj 91 (.indexS (.c (.string tab)) (.t 90)),jj 92 (.indexAddr 1 (.t 81) (.t 83)),st 1 92 89,jj 93 (.indexAddr 1 (.t 84) (.t 86)),st 1 93 91] [0,1,4]) (rn [mv 94 4,bk 95 .sub 94 8,mv 4 95] [0,1,4]))))))))))))
def F295l0K:PC:=F295l0Kx tab
theorem qcc (C:Task->Option Res) (q:Nat) (fr:Fr) (σ : S):run C q (F295l0K tab) fr σ = run C q (F295l0Kx tab) fr σ := rfl
def F295K:PFun:=⟨2,[],.seq (rn [mv 17 0,ls 18 17,mv 4 18] [0,1,4]) (.seq (.block 0 (.loop (F295l0K tab))) (.seq (rn [mv 96 1,jj 97 (.conv (.int .u32) (.t 96)),mv 12 97] [0,4,12]) (.seq (.seq (rn [mv 98 4,bk 99 .geq 98 4] [0,4,12,99]) (.cond (.t 99) (.seq (rn [mv 100 12,jj 101 (.bin .rem (.t 100) (.c (.int .u32 10000))),mv 13 101] [0,4,12,13]) (.seq (rn [mv 102 12,jj 103 (.bin .quo (.t 102) (.c (.int .u32 10000))),mv 12 103] [0,4,12,13]) (.seq (rn [mv 104 13,jj 105 (.bin .quo (.t 104) (.c (.int .u32 100))),jj 106 (.bin .mul (.t 105) (.c (.int .u32 2))),mv 107 13,jj 108 (.bin .rem (.t 107) (.c (.int .u32 100))),jj 109 (.bin .mul (.t 108) (.c (.int .u32 2))),mv 14 106,mv 15 109] [0,4,12,14,15]) (.seq (.region (some []) [mv 110 0,mv 111 4,bk 112 .sub 111 1,mv 113 0,mv 114 4,bk 115 .sub 114 2,mv 116 15,jj 117 (.bin .add (.t 116) (.c (.int .u32 1))),jj 118 (.indexS (.c (.string tab)) (.t 117)),mv 119 15,jj 120 (.indexS (.c (.string tab)) (.t 119)),jj 121 (.indexAddr 1 (.t 110) (.t 112)),st 1 121 118,jj 122 (.indexAddr 1 (.t 113) (.t 115)),st 1 122 120] [0,4,12,14]) (.seq (.region (some []) [mv 123 0,mv 124 4,bk 125 .sub 124 3,mv 126 0,mv 127 4,bk 128 .sub 127 4,mv 129 14,jj 130 (.bin .add (.t 129) (.c (.int .u32 1))),jj 131 (.indexS (.c (.string tab)) (.t 130)),mv 132 14,jj 133 (.indexS (.c (.string tab)) (.t 132)),jj 134 (.indexAddr 1 (.t 123) (.t 125)),st 1 134 131,jj 135 (.indexAddr 1 (.t 126) (.t 128)),st 1 135 133] [0,4,12]) (rn [mv 136 4,bk 137 .sub 136 4,mv 4 137] [0,4,12])))))) (.skip))) (.seq (.seq (rn [mv 138 4,bk 139 .geq 138 2] [0,4,12,139]) (.cond (.t 139) (.seq (rn [mv 140 12,jj 141 (.bin .rem (.t 140) (.c (.int .u32 100))),jj 142 (.bin .mul (.t 141) (.c (.int .u32 2))),mv 16 142] [0,4,12,16]) (.seq (rn [mv 143 12,jj 144 (.bin .quo (.t 143) (.c (.int .u32 100))),mv 12 144] [0,4,12,16]) (.seq (.region (some []) [mv 145 0,mv 146 4,bk 147 .sub 146 1,mv 148 0,mv 149 4,bk 150 .sub 149 2,mv 151 16,jj 152 (.bin .add (.t 151) (.c (.int .u32 1))),jj 153 (.indexS (.c (.string tab)) (.t 152)),mv 154 16,jj 155 (.indexS (.c (.string tab)) (.t 154)),jj 156 (.indexAddr 1 (.t 145) (.t 147)),st 1 156 153,jj 157 (.indexAddr 1 (.t 148) (.t 150)),st 1 157 155] [0,4,12]) (rn [mv 158 4,bk 159 .sub 158 2,mv 4 159] [0,4,12])))) (.skip))) (.seq (rn [mv 160 4,bk 161 .gtr 160 0] [0,12,161]) (.cond (.t 161) (rn [mv 162 0,mv 163 12,jj 164 (.bin .add (.c (.int .u32 48)) (.t 163)),jj 165 (.conv (.int .u8) (.t 164)),jj 166 (.indexAddr 1 (.t 162) (kk 0)),st 1 166 165] []) (.skip))))))),false,false,false⟩
def F299K:PFun:=⟨1,[.tmp 2],.seq (rn [mx 2 (kk 0)] [0,2]) (.seq (.seq (rn [mv 3 0,jj 4 (.bin .geq (.t 3) (.c (.int .u64 4294967296)))] [0,2,4]) (.cond (.t 4) (.seq (rn [mv 5 0,jj 6 (.bin .shr (.t 5) (.c (.int .u64 32))),mv 0 6] [0]) (rn [mx 2 (kk 32)] [0,2])) (.skip))) (.seq (.seq (rn [mv 7 0,jj 8 (.bin .geq (.t 7) (.c (.int .u64 65536)))] [0,2,8]) (.cond (.t 8) (.seq (rn [mv 9 0,jj 10 (.bin .shr (.t 9) (.c (.int .u64 16))),mv 0 10] [0,2]) (rn [mv 11 2,bk 12 .add 11 16,mv 2 12] [0,2])) (.skip))) (.seq (.seq (rn [mv 13 0,jj 14 (.bin .geq (.t 13) (.c (.int .u64 256)))] [0,2,14]) (.cond (.t 14) (.seq (rn [mv 15 0,jj 16 (.bin .shr (.t 15) (.c (.int .u64 8))),mv 0 16] [0,2]) (rn [mv 17 2,bk 18 .add 17 8,mv 2 18] [0,2])) (.skip))) (.seq (rn [mv 19 2,mv 20 0,jj 21 (.conv (.int .u8) (.t 20)),jj 22 (.indexS (.c (.string tab)) (.t 21)),jj 23 (.conv (.int .i64) (.t 22)),bn 24 .add 19 23,mv 2 24] [2]) (.ret))))),false,false,false⟩
end
def dg (d:Nat):UInt8:=(48+d).toUInt8
theorem qhn {d:Nat} (h:d<10):(dg d).toNat=48+d:=qxc d h
theorem qb3 : ∀ k,k<100->tab2[2*k]?=some (dg (k / 10)):=by decide +kernel
theorem qb4 : ∀ k,k<100->tab2[2*k+1]?=some (dg (k % 10)):=by decide +kernel
theorem qsu : ∀ x,x<256 -> ∃ l,tab8[x]?=some l/\l.toNat<=8/\(x=0->l.toNat=0)/\(0<x->2 ^ (l.toNat-1)<=x/\x<2 ^ l.toNat/\0<l.toNat):=by
 have h : ∀ x,x<256->(match tab8[x]? with
  | some l=>decide (l.toNat<=8)&&(decide (x=0->l.toNat=0)&&decide (0<x->2 ^ (l.toNat-1)<=x/\x<2 ^ l.toNat/\0<l.toNat))
  | none=>false)=true:=by decide +kernel
 intro x hx
 have:=h x hx
 cases hl:tab8[x]? with
 | none=>rw[hl] at this; cases this
 | some l=>
  rw[hl] at this
  simp only[Bool.and_eq_true,decide_eq_true_eq] at this
  exact⟨l,rfl,this.1,this.2.1,this.2.2⟩
def qnf:Nat->Nat->List UInt8
 | 0,_=>[]
 | d+1,u=>qnf d (u / 10)++[dg (u % 10)]
theorem qk0 : ∀ (k d u:Nat),u<10 ^ (d+1)->(d=0\/10 ^ d<=u)->d<k->qit k u=qnf (d+1) u
 | 0,d,u,_,_,h=>by omega
 | k+1,0,u,h,_,_=>by
  have:u<10:=by simpa using h
  simp[qit,qnf,this,dg,Nat.mod_eq_of_lt this]
 | k+1,d+1,u,h,h2,h3=>by
  have e : ¬ u<10:=by
   have:10 ^ 1<=10 ^ (d+1):=Nat.pow_le_pow_right (by omega) (by omega)
   rcases h2 with h2 | h2<;>omega
  have ih:=qk0 k d (u / 10) (by rw[Nat.pow_succ] at h; omega) (by
   rcases d with _ | d
   ·exact .inl rfl
   ·right
    rcases h2 with h2 | h2
    ·cases h2
    ·rw[Nat.pow_succ] at h2; omega) (by omega)
  rw[qit,if_neg e,ih,qnf]
  rfl
theorem qdk {d u:Nat} (h:u<10 ^ (d+1)) (h2:10 ^ d<=u) (hd:d<20):decB u=qnf (d+1) u:=qk0 20 d u h (.inr h2) hd
abbrev U64 (n:Nat):V := .dat (.lit (.int .u64 n))
theorem qon {n:Nat} (h:n<18446744073709551616):IntKind.u64.wrap (n:Int)=n:=by rw[IntKind.wrap_u64]; omega
theorem qfB {n:Nat} (h:n<4294967296):IntKind.u32.wrap (n:Int)=n:=by rw[IntKind.wrap_u32']; omega
theorem w8u {n:Nat} (h:n<256):IntKind.u8.wrap (n:Int)=n:=by rw[IntKind.wrap_u8']; omega
theorem qsv (a b:Nat):Int.fdiv (a:Int) (b:Int)=((a / b:Nat):Int):=by
 rw[Int.fdiv_eq_ediv_of_nonneg _ (by omega)]; rfl
theorem qwL {u:Nat} (h0:0<u) (h1:u<2147483648) : ∃ L:Nat,L<=31/\0<L/\2 ^ (L-1)<=u/\u<2 ^ L/\Z tQ (.call 299 [U64 u] [])=some (.ret (.int L) []):=by
 have key : ∀ x a:Nat,x<256->0<x->a<=24->a*1=a -> ∃ l:UInt8,tab8[x]?=some l/\a+l.toNat<=a+8/\0<a+l.toNat/\2 ^ (a+l.toNat-1)<=x*2 ^ a/\(x+1)*2 ^ a<=2 ^ (a+l.toNat)/\l.toNat<=8:=by
  intro x a hx hp _ _
  obtain⟨l,e1,e2,_,e4⟩:=qsu x hx
  obtain⟨e5,e6,e7⟩:=e4 hp
  refine⟨l,e1,by omega,by omega,?_,?_,e2⟩
  ·rw[show a+l.toNat-1=(l.toNat-1)+a by omega,Nat.pow_add]
   exact Nat.mul_le_mul_right _ e5
  ·rw[Nat.add_comm a,Nat.pow_add]
   exact Nat.mul_le_mul_right _ e6
 have hx:tQ 299=some (F299K tab8):=rfl
 have c1 : ¬ (4294967296:Int)<=u:=by omega
 have n16 : ∀ x:Nat,qru .u64 (x:Int) 16=((x / 65536:Nat):Int):=fun x=>qsv x 65536
 have n8 : ∀ x:Nat,qru .u64 (x:Int) 8=((x / 256:Nat):Int):=fun x=>qsv x 256
 by_cases a1:65536<=u
 ·by_cases a2:256<=u / 65536
  ·obtain⟨l,e1,e2,e3,e4,e5,e6⟩:=key (u / 65536 / 256) 24 (by omega) (by omega) (by omega) rfl
   have hL:l.toNat<=7:=by
    rcases Nat.lt_or_ge l.toNat 8 with h | h
    ·omega
    ·have:l.toNat=8:=by omega
     rw[this] at e4
     omega
   refine⟨24+l.toNat,by omega,e3,by omega,by omega,?_⟩
   refine Z_call hx rfl ?_
   have w1:=w8u (show u / 65536 / 256<256 by omega)
   have w2:IntKind.i64.wrap (24+(l.toNat:Int))=((24+l.toNat:Nat):Int):=by rw[qai _ (by omega)]; omega
   have w3:=qai (l.toNat:Int) (by omega)
   have w4:IntKind.i64.wrap 24=24:=rfl
   have w5:IntKind.i64.wrap 16=16:=rfl
   have b1:(65536:Int)<=u:=by omega
   have b2:(256:Int)<=((u / 65536:Nat):Int):=by omega
   generalize tab8=tb at *
   generalize hq1:u / 65536=q1 at *
   generalize hq2:q1 / 256=q2 at *
   generalize 24+l.toNat=L at *
   simp[F299K,c1,b1,b2,n16,n8,hq1,hq2,w1,w2,w3,w4,w5,e1]
  ·obtain⟨l,e1,e2,e3,e4,e5,e6⟩:=key (u / 65536) 16 (by omega) (by omega) (by omega) rfl
   refine⟨16+l.toNat,by omega,e3,by omega,by omega,?_⟩
   refine Z_call hx rfl ?_
   have w1:=w8u (show u / 65536<256 by omega)
   have w2:IntKind.i64.wrap (16+(l.toNat:Int))=((16+l.toNat:Nat):Int):=by rw[qai _ (by omega)]; omega
   have w3:=qai (l.toNat:Int) (by omega)
   have w4:IntKind.i64.wrap 16=16:=rfl
   have b1:(65536:Int)<=u:=by omega
   have b2 : ¬ (256:Int)<=((u / 65536:Nat):Int):=by omega
   generalize tab8=tb at *
   generalize hq1:u / 65536=q1 at *
   generalize 16+l.toNat=L at *
   simp[F299K,c1,b1,b2,n16,n8,hq1,w1,w2,w3,w4,e1]
 ·by_cases a2:256<=u
  ·obtain⟨l,e1,e2,e3,e4,e5,e6⟩:=key (u / 256) 8 (by omega) (by omega) (by omega) rfl
   refine⟨8+l.toNat,by omega,e3,by omega,by omega,?_⟩
   refine Z_call hx rfl ?_
   have w1:=w8u (show u / 256<256 by omega)
   have w2:IntKind.i64.wrap (8+(l.toNat:Int))=((8+l.toNat:Nat):Int):=by rw[qai _ (by omega)]; omega
   have w3:=qai (l.toNat:Int) (by omega)
   have w4:IntKind.i64.wrap 8=8:=rfl
   have b1 : ¬ (65536:Int)<=u:=by omega
   have b2:(256:Int)<=u:=by omega
   generalize tab8=tb at *
   generalize hq1:u / 256=q1 at *
   generalize 8+l.toNat=L at *
   simp[F299K,c1,b1,b2,n16,n8,hq1,w1,w2,w3,w4,e1]
  ·obtain⟨l,e1,e2,e3,e4,e5,e6⟩:=key u 0 (by omega) (by omega) (by omega) rfl
   refine⟨0+l.toNat,by omega,e3,by omega,by omega,?_⟩
   refine Z_call hx rfl ?_
   have w1:=w8u (show u<256 by omega)
   have w2:IntKind.i64.wrap (0+(l.toNat:Int))=((0+l.toNat:Nat):Int):=by rw[qai _ (by omega)]; omega
   have w3:=qai (l.toNat:Int) (by omega)
   have b1 : ¬ (65536:Int)<=u:=by omega
   have b2 : ¬ (256:Int)<=u:=by omega
   generalize tab8=tb at *
   simp[F299K,c1,b1,b2,n16,n8,w1,w3,e1]
theorem qwM {L:Nat} (h:L<=31):Z tQ (.call 298 [.int L] [])=some (.ret (.int (L*78913 / 262144:Nat)) []):=by
 refine Z_call (pf:=F298) rfl rfl ?_
 have w1:=qai ((L:Int)*78913) (by omega)
 have n18:qru .i64 ((L:Int)*78913) 18=((L*78913 / 262144:Nat):Int):=by
  have:=qsv (L*78913) 262144
  rw[<- this]
  simp[qru]
  rfl
 generalize L*78913 / 262144=q at *
 simp[F298,w1,n18]
theorem qwN (b:Bool):Z tQ (.call 300 [.bool b] [])=some (.ret (.int (if b then 1 else 0)) []):=by
 refine Z_call (pf:=F300) rfl rfl ?_
 cases b<;>simp[F300]
theorem qsw : ∀ i,i<20->cutCells G_internal_strconv_uint64pow10 i 1=some [.lit (.int .u64 (10 ^ i:Nat))]:=by
 intro i hi
 unfold cutCells G_internal_strconv_uint64pow10
 rw[List.drop_eq_getElem_cons (by simpa using hi)]
 simp
theorem qsx {u L:Nat} (h7:7<=L) (h31:L<=31) (hl:2 ^ (L-1)<=u) (hu:u<2 ^ L) (h100:100<=u) (h2:u<2147483648) : ∃ d,3<=d/\d<=10/\10 ^ (d-1)<=u/\u<10 ^ d/\d=L*78913 / 262144+(if 10 ^ (L*78913 / 262144)<=u then 1 else 0):=by
 have hL:L=7\/L=8\/L=9\/L=10\/L=11\/L=12\/L=13\/L=14\/L=15\/L=16\/L=17\/L=18\/L=19\/L=20\/L=21\/L=22\/L=23\/L=24\/L=25\/L=26\/L=27\/L=28\/L=29\/L=30\/L=31:=by omega
 rcases hL with rfl | rfl | rfl | rfl | rfl | rfl | rfl | rfl | rfl | rfl | rfl | rfl | rfl | rfl | rfl | rfl | rfl | rfl | rfl | rfl | rfl | rfl | rfl | rfl | rfl
 all_goals
  refine⟨_,?_,?_,?_,?_,rfl⟩<;>simp only[Nat.reduceMul,Nat.reduceDiv,Nat.reducePow,Nat.reduceSub] at hl hu ⊢ <;> split<;>simp<;>omega
theorem qp5 {u:Nat} (h100:100<=u) (h2:u<2147483648) : ∃ d:Nat,3<=d/\d<=10/\10 ^ (d-1)<=u/\u<10 ^ d/\Z tQ (.call 294 [U64 u] [])=some (.ret (.int d) []):=by
 obtain⟨L,l1,l2,l3,l4,z⟩:=qwL (by omega) h2
 have h7:7<=L:=by
  rcases Nat.lt_or_ge L 7 with h | h
  ·have:2 ^ L<=2 ^ 6:=Nat.pow_le_pow_right (by omega) (by omega)
   omega
  ·exact h
 obtain⟨d,d1,d2,d3,d4,d5⟩:=qsx h7 l1 l3 l4 h100 h2
 refine⟨d,d1,d2,d3,d4,?_⟩
 have zl:=qwM l1
 have hi:L*78913 / 262144<=9:=by omega
 generalize L*78913 / 262144=i at *
 have hp:=qsw i (by omega)
 have zb:=qwN (decide (10 ^ i<=u))
 have hc:((10 ^ i:Nat):Int)<=(u:Int)↔10 ^ i<=u:=by omega
 have hres:IntKind.i64.wrap ((i:Int)+(if decide (10 ^ i<=u)=true then 1 else 0))=(d:Int):=by
  rw[qai _ (by split<;>omega),d5]
  by_cases h:10 ^ i<=u<;>simp[h]
 refine Z_call (pf:=F294) rfl rfl ?_
 have i20:(i:Int)<20:=by omega
 generalize 10 ^ i=P at *
 generalize (if decide (P<=u)=true then (1:Int) else 0)=e at *
 simp[F294,z,zl,zb,hp,hc,hres,i20]
end Go.Pm
end SOd
