/- Chapter 13's generator: choices, expressions. -/
import Derived.Test.YtebnoobfoajkbaaGreatDoorPmAL
import Derived.Test.YtebnoobfoajkbaaGreatDoorPmHv
import Derived.Test.YtebnoobfoajkbaaGreatDoorPmR
import Derived.KernelRfl
set_option linter.unusedSimpArgs false
set_option linter.unusedVariables false
namespace Go.Pm
section
open F
theorem qta{n m:Int}(h1:I64 n)(hm:1<=m):Z qaf (.call 17 [.int n,.int m] [])=some (.ret (.int (around n m)) []):=by
 refine qab (pf:=F17) rfl rfl ?_
 unfold around
 have hm0 : ¬ m=0:=by omega
 by_cases h:n<0
 ·have w1:IntKind.i64.wrap (n+1)=n+1:=qag _ (by unfold I64 at h1; omega)
  have w2:IntKind.i64.wrap (-(n+1)) = -(n+1):=qag _ (by unfold I64 at h1; omega)
  simp[F17,h,hm0,w1,w2]
 ·simp[F17,h,hm0]
abbrev qwr(v:D)(i:Int):S:=[.cells [.dat v,.int i]]
abbrev gst(xs:List Int)(i:Int):S:=qwr (qeq xs) i
def qaC(xs:List Int)(i m:Int):Int:=if (xs.length:Int)<=i then 0 else (around (xs.getD i.toNat 0) 1000000).tmod m
def qaE(xs:List Int)(i:Int):Int:=if (xs.length:Int)<=i then i else i+1
structure Bnd(v:D)(xs:List Int)(B:Int):Prop where
 row:RowV v xs
 len:(xs.length:Int)<=B
 big:B<=9223372036854775807
theorem qoF(xs:List Int):RowV (qeq xs) xs:=by
 cases xs
 ·exact .inl ⟨_,rfl,rfl⟩
 ·exact .inr rfl
theorem qbD{xs:List Int}(h:xs.length<=100):Bnd (qeq xs) xs 100:=⟨qoF xs,by omega,by omega⟩
theorem qax{v:D}{xs:List Int}{i B:Int}(h:0<=i/\i<=B)(hl:Bnd v xs B):0<=qaE xs i/\qaE xs i<=B:=by
 have:=hl.len
 unfold qaE; split<;>omega
theorem qaw(xs:List Int)(i:Int):(qaE xs i=i+1/\i<xs.length)\/(qaE xs i=i /\ ∀ m,qaC xs i m=0):=by
 unfold qaE qaC
 split
 ·exact .inr ⟨rfl,fun m=>rfl⟩
 ·exact .inl ⟨rfl,by omega⟩
theorem qbl{xs:List Int}{i m:Int}(hx : ∀ x∈xs,I64 x)(hm:1<=m):0<=qaC xs i m/\qaC xs i m<m:=by
 unfold qaC
 split
 ·omega
 ·have h0:I64 (xs.getD i.toNat 0):=by
   rw[Wn]
   cases h:xs[i.toNat]? with
   |none=>simp[I64]
   |some y=>exact hx _ (WK h)
  have:=around_lt (m:=1000000) h0 (by omega)
  exact qaS this.1 hm
theorem qbr {v:D} {xs:List Int} {i m B:Int} (hx : ∀ x∈xs,I64 x) (hl:Bnd v xs B) (hi:0<=i/\i<=B) (hm:1<=m) :
  Z qaf (.call 136 [.ptr 0 0,.int m] (qwr v i))=some (.ret (.int (qaC xs i m)) (qwr v (qaE xs i))):=by
 refine qab (pf:=F136) rfl rfl ?_
 have hm0:m≠0:=by omega
 have hb:=hl.len
 have hb2:=hl.big
 rcases hl.row with ⟨o,rfl,rfl⟩|rfl
 ·have h:(0:Int)<=i:=hi.1
  simp[F136,h,qaC,qaE,V.len]
 by_cases h:(xs.length:Int)<=i
 ·simp[F136,h,qaC,qaE,V.len]
 ·have a1:=qcS (qal xs) xs.length false i hi.1 (by omega)
  have hlt:i.toNat<xs.length:=by omega
  have a2:=qh5 xs i.toNat hlt
  have a3:=qta (n:=xs[i.toNat]) (m:=1000000) (hx _ (WR hlt)) (by omega)
  have w1:=qag (i+1) (by omega)
  simp[F136,w1,h,qaC,qaE,V.len,a1,a2,a3,hm0,hlt]
section
variable(k:Int)(s:ByteArray)(a b a' b':Int)(t t':ByteArray)(d d':D)
theorem qqK (h1:V.one (.dat d)=true) (h2:V.cells (.dat d)=[.dat d]) :
  Z qaf (.call 176 [.int k,.str s,.dat (.agg [.lit (.int .i64 a),.lit (.int .i64 b),.lit (.string t),d])] []) =
   some (.ret (.dat (.agg [.lit (.int .i64 k),.lit (.int .i64 0),.lit (.string s),.sl [.lit (.int .i64 a),.lit (.int .i64 b),.lit (.string t),d] 1 true])) []):=by
 refine qab (pf:=F176) rfl rfl ?_
 simp[F176,h1,h2]
theorem qoG (h1:V.one (.dat d)=true) (h2:V.cells (.dat d)=[.dat d]) (h3:V.one (.dat d')=true) (h4:V.cells (.dat d')=[.dat d']) :
  Z qaf (.call 178 [.int k,.str s,.dat (.agg [.lit (.int .i64 a),.lit (.int .i64 b),.lit (.string t),d]),.dat (.agg [.lit (.int .i64 a'),.lit (.int .i64 b'),.lit (.string t'),d'])] []) =
   some (.ret (.dat (.agg [.lit (.int .i64 k),.lit (.int .i64 0),.lit (.string s),.sl [.lit (.int .i64 a),.lit (.int .i64 b),.lit (.string t),d,.lit (.int .i64 a'),.lit (.int .i64 b'),.lit (.string t'),d'] 2 true])) []):=by
 refine qab (pf:=F178) rfl rfl ?_
 simp[F178,h1,h2,h3,h4,Wa]
end
def qoH:List ByteArray:=[⟨#[105]⟩,⟨#[110]⟩,⟨#[115,117,109]⟩,⟨#[118,51]⟩]
def qq9:List ByteArray:=qoH++[⟨#[118]⟩]
def qlE:List ByteArray:=[⟨#[115,101,108,102]⟩,⟨#[111,116,104,101,114]⟩,⟨#[116,105,99,107]⟩]
def qfZ:List ByteArray:=[⟨#[120]⟩,⟨#[121]⟩,⟨#[118,120]⟩,⟨#[118,121]⟩,⟨#[97]⟩,⟨#[98]⟩]
def qdT:List ByteArray:=qfZ++[⟨#[104,105,116]⟩,⟨#[115,116,105,108,108]⟩]
def E.fine:E->Prop
 |.int n=>0<=n/\n<=2147483647
 |.bool n=>n=0\/n=1
 |.var s=>s∈qq9
 |.name s=>s∈qlE
 |.field _ s e=>s∈qdT/\e.fine/\e.ty=1
 |.un _ neg e=>e.fine/\e.ty=if neg then 1 else 2
 |.bin _ o a b=>a.fine/\b.fine/\a.ty=o.opd/\b.ty=o.opd
def E.dp:E->Nat
 |.field _ _ e=>e.dp+1
 |.un _ _ e=>e.dp+1
 |.bin _ _ a b=>max a.dp b.dp+1
 |_=>0
def mxs:Nat->Nat
 |0=>1
 |n+1=>2*mxs n+1
theorem qiF(n:Nat):1<=mxs n:=by cases n<;>simp[mxs]
def GIb(B:Int)(v:D)(xs:List Int)(d i:Int):Prop := ∃ (e:E) (i':Int),(e.fine/\e.ty=1/\e.dp<=d.toNat/\e.size<=mxs d.toNat/\Co 2 e.cost xs i i')/\(0<=i'/\i'<=B) /\
 Z qaf (.call 177 [.ptr 0 0,.int d] (qwr v i))=some (.ret e.node (qwr v i'))
def GBb(B:Int)(v:D)(xs:List Int)(d i:Int):Prop := ∃ (e:E) (i':Int),(e.fine/\e.ty=2/\e.dp<=d.toNat+1/\e.size<=mxs (d.toNat+1)/\Co 6 e.cost xs i i')/\(0<=i'/\i'<=B) /\
 Z qaf (.call 179 [.ptr 0 0,.int d] (qwr v i))=some (.ret e.node (qwr v i'))
abbrev GI(xs:List Int):=GIb 100 (qeq xs) xs
abbrev GB(xs:List Int):=GBb 100 (qeq xs) xs
theorem qiG{l:List ByteArray}{p:Int}(h:0<=p/\p<l.length) : ∃ s∈l,qah (qb3 l) p.toNat 1=some [.lit (.string s)]:=
 ⟨_,WR (by omega:p.toNat<l.length),qhT l p.toNat (by omega)⟩
def nums:List Int:=[0,1,2,3,7,100,1024,2147483647]
def qw5:List Bop:=[.add,.sub,.mul,.div]
theorem qws{p:Int}(h:0<=p/\p<4) : ∃ o∈qw5,qah (qb3 [⟨#[43]⟩,⟨#[45]⟩,⟨#[42]⟩,⟨#[47]⟩]) p.toNat 1=some [.lit (.string (Bop.str o))]:=by
 obtain rfl|rfl|rfl|rfl:p=0\/p=1\/p=2\/p=3:=by omega
 ·exact⟨.add,by simp[qw5],rfl⟩
 ·exact⟨.sub,by simp[qw5],rfl⟩
 ·exact⟨.mul,by simp[qw5],rfl⟩
 ·exact⟨.div,by simp[qw5],rfl⟩
section
variable{v:D}{xs:List Int}{i d B:Int}(hx : ∀ x∈xs,I64 x)(hl:Bnd v xs B)(hi:0<=i/\i<=B)
include hx hl hi
def qjH(xs:List Int)(d i:Int):Int:=if d<=0 then (qaC xs i 12).tmod 6 else qaC xs i 12
theorem qqL(h:qjH xs d i=0\/qjH xs d i=1):GIb B v xs d i:=by
 have n1:=qbr (i:=i) (m:=12) hx hl hi (by omega)
 have r1:=qax hi hl
 have n2:=qbr (i:=qaE xs i) (m:=8) hx hl r1 (by omega)
 have r2:=qax r1 hl
 have p:=qbl (i:=qaE xs i) (m:=8) hx (by omega)
 have hat:=qcS (qal nums) 8 true (qaC xs (qaE xs i) 8) p.1 (by omega)
 have hc:=qh5 nums (qaC xs (qaE xs i) 8).toNat (by simp[nums]; omega)
 have hm : ∀ n∈nums,0<=n/\n<=2147483647:=by decide
 have hn:=hm _ (WR (l:=nums) (n:=(qaC xs (qaE xs i) 8).toNat) (by simp[nums]; omega))
 have hlen:(qaC xs (qaE xs i) 8).toNat<nums.length:=by simp[nums]; omega
 have hco:Co 2 (E.cost (.int (nums[(qaC xs (qaE xs i) 8).toNat]'hlen))) xs i (qaE xs (qaE xs i)):=by
  have hcs : ∀ n∈nums,E.cost (.int n)<=11:=by decide +kernel
  have h11:=hcs _ (WR hlen)
  have h0 : ∀ (k:Nat) (hk:k<nums.length),k=0->E.cost (.int (nums[k]'hk))=2:=fun k hk e=>by subst e; exact (by decide +kernel:E.cost (.int 0)=2)
  have hz:=h0 _ hlen
  unfold Co
  rcases qaw xs i with ⟨e1,l1⟩|⟨e1,l1⟩
  ·rcases qaw xs (qaE xs i) with ⟨e2,l2⟩|⟨e2,l2⟩<;>omega
  ·have e3:qaC xs (qaE xs i) 8=0:=by rw[e1]; exact l1 8
   have e4:=hz (by rw[e3]; rfl)
   rcases qaw xs (qaE xs i) with ⟨e2,l2⟩|⟨e2,l2⟩<;>omega
 generalize nums[(qaC xs (qaE xs i) 8).toNat]'_=vv at hc hn hco
 simp only[nums,qal,List.map] at hat hc
 refine⟨.int vv,_,⟨hn,rfl,WI _,qiF _,hco⟩,r2,?_⟩
 refine qab (pf:=F177) rfl rfl ?_
 unfold qjH at h
 by_cases hd:d<=0
 ·rw[if_pos hd] at h
  rcases h with h|h<;>simp[F177,n1,n2,hd,h,hat,hc]
 ·rw[if_neg hd] at h
  rcases h with h|h<;>simp[F177,n1,n2,hd,h,hat,hc]
theorem qqM(h:qjH xs d i=2\/qjH xs d i=3):GIb B v xs d i:=by
 have n1:=qbr (i:=i) (m:=12) hx hl hi (by omega)
 have r1:=qax hi hl
 have n2:=qbr (i:=qaE xs i) (m:=4) hx hl r1 (by omega)
 have r2:=qax r1 hl
 have p:=qbl (i:=qaE xs i) (m:=4) hx (by omega)
 have hat:=qcS (qb3 qoH) 4 true (qaC xs (qaE xs i) 4) p.1 (by omega)
 obtain⟨s,hs,hc⟩:=qiG (l:=qoH) (p:=qaC xs (qaE xs i) 4) (by simpa [qoH] using p)
 simp only[qoH,qb3,List.map] at hat hc
 have hsel:qaC xs i 12≠0:=fun h0=>by
  unfold qjH at h
  rw[h0] at h
  split at h<;>simp at h
 have hco:Co 2 (E.cost (.var s)) xs i (qaE xs (qaE xs i)):=by
  have hcs : ∀ s∈qoH,s.size<=5:=by decide
  have h5:=hcs s hs
  show _/\_/\((s.size+1:Nat):Int)<=_
  rcases qaw xs i with ⟨e1,l1⟩|⟨e1,l1⟩
  ·rcases qaw xs (qaE xs i) with ⟨e2,l2⟩|⟨e2,l2⟩<;>omega
  ·exact absurd (l1 12) hsel
 refine⟨.var s,_,⟨Yp _ hs,rfl,WI _,qiF _,hco⟩,r2,?_⟩
 refine qab (pf:=F177) rfl rfl ?_
 unfold qjH at h
 by_cases hd:d<=0
 ·rw[if_pos hd] at h
  rcases h with h|h<;>simp[F177,n1,n2,hd,h,hat,hc]
 ·rw[if_neg hd] at h
  rcases h with h|h<;>simp[F177,n1,n2,hd,h,hat,hc]
theorem qnC(h:qjH xs d i=4\/qjH xs d i=5):GIb B v xs d i:=by
 have n1:=qbr (i:=i) (m:=12) hx hl hi (by omega)
 have r1:=qax hi hl
 have n2:=qbr (i:=qaE xs i) (m:=3) hx hl r1 (by omega)
 have r2:=qax r1 hl
 have p:=qbl (i:=qaE xs i) (m:=3) hx (by omega)
 have hat:=qcS (qb3 qlE) 3 true (qaC xs (qaE xs i) 3) p.1 (by omega)
 obtain⟨s,hs,hc⟩:=qiG (l:=qlE) (p:=qaC xs (qaE xs i) 3) (by simpa [qlE] using p)
 simp only[qlE,qb3,List.map] at hat hc
 have hsel:qaC xs i 12≠0:=fun h0=>by
  unfold qjH at h
  rw[h0] at h
  split at h<;>simp at h
 have hco:Co 2 (E.cost (.name s)) xs i (qaE xs (qaE xs i)):=by
  have hcs : ∀ s∈qlE,s.size<=5:=by decide
  have h5:=hcs s hs
  show _/\_/\((s.size+1:Nat):Int)<=_
  rcases qaw xs i with ⟨e1,l1⟩|⟨e1,l1⟩
  ·rcases qaw xs (qaE xs i) with ⟨e2,l2⟩|⟨e2,l2⟩<;>omega
  ·exact absurd (l1 12) hsel
 refine⟨.name s,_,⟨hs,rfl,WI _,qiF _,hco⟩,r2,?_⟩
 refine qab (pf:=F177) rfl rfl ?_
 unfold qjH at h
 by_cases hd:d<=0
 ·rw[if_pos hd] at h
  rcases h with h|h<;>simp[F177,n1,n2,hd,h,hat,hc]
 ·rw[if_neg hd] at h
  rcases h with h|h<;>simp[F177,n1,n2,hd,h,hat,hc]
theorem qqN(hd : ¬ d<=0)(hd2:d<=1000)(ih : ∀ j,0<=j/\j<=B->GIb B v xs (d-1) j)(h:qaC xs i 12=6\/qaC xs i 12=7):GIb B v xs d i:=by
 have n1:=qbr (i:=i) (m:=12) hx hl hi (by omega)
 have r1:=qax hi hl
 have n2:=qbr (i:=qaE xs i) (m:=8) hx hl r1 (by omega)
 have r2:=qax r1 hl
 have p:=qbl (i:=qaE xs i) (m:=8) hx (by omega)
 have hat:=qcS (qb3 qdT) 8 true (qaC xs (qaE xs i) 8) p.1 (by omega)
 obtain⟨s,hs,hc⟩:=qiG (l:=qdT) (p:=qaC xs (qaE xs i) 8) (by simpa [qdT,qfZ] using p)
 simp only[qdT,qfZ,qb3,List.map,Wi,Wc] at hat hc
 obtain⟨e,i',h1,h2,h3⟩:=ih _ r2
 have o:=qqK 11 s e.kind e.num e.str e.kids (by simp) (by simp)
 have w1:=qag (d-1) (by omega)
 have ed:d.toNat=(d-1).toNat+1:=by omega
 have hco:Co 2 (E.cost (.field true s e)) xs i i':=by
  have hcs : ∀ s∈qdT,s.size<=5:=by decide
  have h5:=hcs s hs
  obtain⟨q1,q2,q3⟩:=h1.2.2.2.2
  show _/\_/\((s.size+5+e.cost:Nat):Int)<=_
  rcases qaw xs i with ⟨e1,l1⟩|⟨e1,l1⟩
  ·rcases qaw xs (qaE xs i) with ⟨e2,l2⟩|⟨e2,l2⟩<;>omega
  ·exact absurd (l1 12) (by omega)
 refine⟨.field true s e,i',⟨⟨hs,h1.1,h1.2.1⟩,by simp[h1.2.1],by rw[ed]; simp only[E.dp]; omega,by rw[ed]; simp only[mxs,qoD]; omega,hco⟩,h2,?_⟩
 refine qab (pf:=F177) rfl rfl ?_
 rcases h with h|h<;>simp[F177,n1,n2,hd,h,hat,hc,h3,o,w1]
theorem qwt(hd : ¬ d<=0)(hd2:d<=1000)(ih : ∀ j,0<=j/\j<=B->GIb B v xs (d-1) j)(h:qaC xs i 12=8):GIb B v xs d i:=by
 have n1:=qbr (i:=i) (m:=12) hx hl hi (by omega)
 have r1:=qax hi hl
 obtain⟨e,i',h1,h2,h3⟩:=ih _ r1
 have o:=qqK 13 ⟨#[45]⟩ e.kind e.num e.str e.kids (by simp) (by simp)
 have w1:=qag (d-1) (by omega)
 have ed:d.toNat=(d-1).toNat+1:=by omega
 have hco:Co 2 (E.cost (.un true true e)) xs i i':=by
  obtain⟨q1,q2,q3⟩:=h1.2.2.2.2
  show _/\_/\((6+e.cost:Nat):Int)<=_
  rcases qaw xs i with ⟨e1,l1⟩|⟨e1,l1⟩
  ·omega
  ·exact absurd (l1 12) (by omega)
 refine⟨.un true true e,i',⟨⟨h1.1,h1.2.1⟩,by simp[h1.2.1],by rw[ed]; simp only[E.dp]; omega,by rw[ed]; simp only[mxs,qqD]; omega,hco⟩,h2,?_⟩
 refine qab (pf:=F177) rfl rfl ?_
 simp[F177,n1,hd,h,h3,o,w1,ustr]
theorem qwu(hd : ¬ d<=0)(hd2:d<=1000)(ih : ∀ j,0<=j/\j<=B->GIb B v xs (d-1) j)(h:9<=qaC xs i 12):GIb B v xs d i:=by
 have n1:=qbr (i:=i) (m:=12) hx hl hi (by omega)
 have r1:=qax hi hl
 have n2:=qbr (i:=qaE xs i) (m:=4) hx hl r1 (by omega)
 have r2:=qax r1 hl
 have p:=qbl (i:=qaE xs i) (m:=4) hx (by omega)
 have hat:=qcS (qb3 [⟨#[43]⟩,⟨#[45]⟩,⟨#[42]⟩,⟨#[47]⟩]) 4 true (qaC xs (qaE xs i) 4) p.1 (by omega)
 obtain⟨o,ho,hc⟩:=qws p
 simp only[qb3,List.map] at hat hc
 obtain⟨a,i1,h1,h2,h3⟩:=ih _ r2
 obtain⟨b,i2,h4,h5,h6⟩:=ih _ h2
 have ot:=qoG 14 o.str a.kind a.num b.kind b.num a.str b.str a.kids b.kids (by simp) (by simp) (by simp) (by simp)
 have w1:=qag (d-1) (by omega)
 have ed:d.toNat=(d-1).toNat+1:=by omega
 have ho1:o.opd=1/\o.res=1:=by
  simp only[qw5,Wr,Wt,or_false] at ho
  rcases ho with rfl|rfl|rfl|rfl<;>exact⟨rfl,rfl⟩
 have hco:Co 2 (E.cost (.bin true o a b)) xs i i2:=by
  have ho2:o.str.size<=2:=by cases o<;>decide
  obtain⟨q1,q2,q3⟩:=h1.2.2.2.2
  obtain⟨q4,q5,q6⟩:=h4.2.2.2.2
  have how:o.w<=11:=by cases o<;>decide
  show _/\_/\((o.str.size+o.w+(a.cost+b.cost):Nat):Int)<=_
  rcases qaw xs i with ⟨e1,l1⟩|⟨e1,l1⟩
  ·rcases qaw xs (qaE xs i) with ⟨e2,l2⟩|⟨e2,l2⟩<;>omega
  ·exact absurd (l1 12) (by omega)
 refine⟨.bin true o a b,i2,⟨⟨h1.1,h4.1,by rw[ho1.1]; exact h1.2.1,by rw[ho1.1]; exact h4.2.1⟩,by simp[h1.2.1,h4.2.1,ho1.1,ho1.2],by rw[ed]; simp only[E.dp]; omega,by rw[ed]; simp only[mxs,qky]; omega,hco⟩,h5,?_⟩
 refine qab (pf:=F177) rfl rfl ?_
 have k0 : ¬ qaC xs i 12=0:=by omega
 have k1 : ¬ qaC xs i 12=1:=by omega
 have k2 : ¬ qaC xs i 12=2:=by omega
 have k3 : ¬ qaC xs i 12=3:=by omega
 have k4 : ¬ qaC xs i 12=4:=by omega
 have k5 : ¬ qaC xs i 12=5:=by omega
 have k6 : ¬ qaC xs i 12=6:=by omega
 have k7 : ¬ qaC xs i 12=7:=by omega
 have k8 : ¬ qaC xs i 12=8:=by omega
 simp[F177,n1,n2,hd,k0,k1,k2,k3,k4,k5,k6,k7,k8,hat,hc,h3,h6,ot,w1]
end
end
section
open F
theorem qpy{v:D}{xs:List Int}{B:Int}(hx : ∀ x∈xs,I64 x)(hl:Bnd v xs B) : ∀ (n:Nat) (d i:Int),d<=n->n<=1000->(0<=i/\i<=B)->GIb B v xs d i
 |n,d,i,hd,hn,hi=>by
  have p:=qbl (i:=i) (m:=12) hx (by omega)
  by_cases h0:d<=0
  ·have q:=qaS p.1 (m:=6) (by omega)
   have e:qjH xs d i=(qaC xs i 12).tmod 6:=if_pos h0
   by_cases h1:qjH xs d i<2
   ·exact qqL hx hl hi (by omega)
   by_cases h2:qjH xs d i<4
   ·exact qqM hx hl hi (by omega)
   ·exact qnC hx hl hi (by omega)
  ·have e:qjH xs d i=qaC xs i 12:=if_neg h0
   by_cases h1:qjH xs d i<2
   ·exact qqL hx hl hi (by omega)
   by_cases h2:qjH xs d i<4
   ·exact qqM hx hl hi (by omega)
   by_cases h3:qjH xs d i<6
   ·exact qnC hx hl hi (by omega)
   cases n with
   |zero=>omega
   |succ n=>
    have ih : ∀ j,0<=j/\j<=B->GIb B v xs (d-1) j:=fun j hj=>qpy hx hl n (d-1) j (by omega) (by omega) hj
    by_cases h4:qjH xs d i<8
    ·exact qqN hx hl hi h0 (by omega) ih (by omega)
    by_cases h5:qjH xs d i=8
    ·exact qwt hx hl hi h0 (by omega) ih (by omega)
    ·exact qwu hx hl hi h0 (by omega) ih (by omega)
def qtD:List Bop:=[.lt,.le,.gt,.ge,.eq,.ne]
theorem qu2{p:Int}(h:0<=p/\p<6) : ∃ o∈qtD,qah (qb3 [⟨#[60]⟩,⟨#[60,61]⟩,⟨#[62]⟩,⟨#[62,61]⟩,⟨#[61,61]⟩,⟨#[33,61]⟩]) p.toNat 1=some [.lit (.string (Bop.str o))]:=by
 obtain rfl|rfl|rfl|rfl|rfl|rfl:p=0\/p=1\/p=2\/p=3\/p=4\/p=5:=by omega
 ·exact⟨.lt,by simp[qtD],rfl⟩
 ·exact⟨.le,by simp[qtD],rfl⟩
 ·exact⟨.gt,by simp[qtD],rfl⟩
 ·exact⟨.ge,by simp[qtD],rfl⟩
 ·exact⟨.eq,by simp[qtD],rfl⟩
 ·exact⟨.ne,by simp[qtD],rfl⟩
def qzl:List Bop:=[.and,.or]
theorem qu3{p:Int}(h:0<=p/\p<2) : ∃ o∈qzl,qah (qb3 [⟨#[38,38]⟩,⟨#[124,124]⟩]) p.toNat 1=some [.lit (.string (Bop.str o))]:=by
 obtain rfl|rfl:p=0\/p=1:=by omega
 ·exact⟨.and,by simp[qzl],rfl⟩
 ·exact⟨.or,by simp[qzl],rfl⟩
def qpz(xs:List Int)(d i:Int):Int:=if d<=0 then (qaC xs i 8).tmod 4 else qaC xs i 8
section
variable{v:D}{xs:List Int}{i d B:Int}(hx : ∀ x∈xs,I64 x)(hl:Bnd v xs B)(hi:0<=i/\i<=B)
include hx hl hi
theorem qmY(h:qpz xs d i=0):GBb B v xs d i:=by
 have n1:=qbr (i:=i) (m:=8) hx hl hi (by omega)
 have r1:=qax hi hl
 have n2:=qbr (i:=qaE xs i) (m:=2) hx hl r1 (by omega)
 have r2:=qax r1 hl
 have p:=qbl (i:=qaE xs i) (m:=2) hx (by omega)
 have hco:Co 6 (E.cost (.bool (qaC xs (qaE xs i) 2))) xs i (qaE xs (qaE xs i)):=by
  have hb:E.cost (.bool (qaC xs (qaE xs i) 2))<=6:=by simp only[E.cost]; split<;>omega
  unfold Co
  rcases qaw xs i with ⟨e1,l1⟩|⟨e1,l1⟩<;>rcases qaw xs (qaE xs i) with ⟨e2,l2⟩|⟨e2,l2⟩<;>omega
 refine⟨.bool (qaC xs (qaE xs i) 2),_,⟨by show _\/_; omega,rfl,WI _,qiF _,hco⟩,r2,?_⟩
 refine qab (pf:=F179) rfl rfl ?_
 unfold qpz at h
 by_cases hd:d<=0
 ·rw[if_pos hd] at h
  simp[F179,n1,n2,hd,h]
 ·rw[if_neg hd] at h
  simp[F179,n1,n2,hd,h]
theorem qmZ(hd2:d<=1000)(hd3 : -1000<=d)(ih : ∀ j,0<=j/\j<=B->GIb B v xs (d-1) j)(h:1<=qpz xs d i/\qpz xs d i<=4):GBb B v xs d i:=by
 have n1:=qbr (i:=i) (m:=8) hx hl hi (by omega)
 have r1:=qax hi hl
 have n2:=qbr (i:=qaE xs i) (m:=6) hx hl r1 (by omega)
 have r2:=qax r1 hl
 have p:=qbl (i:=qaE xs i) (m:=6) hx (by omega)
 have hat:=qcS (qb3 [⟨#[60]⟩,⟨#[60,61]⟩,⟨#[62]⟩,⟨#[62,61]⟩,⟨#[61,61]⟩,⟨#[33,61]⟩]) 6 true (qaC xs (qaE xs i) 6) p.1 (by omega)
 obtain⟨o,ho,hc⟩:=qu2 p
 simp only[qb3,List.map] at hat hc
 obtain⟨a,i1,h1,h2,h3⟩:=ih _ r2
 obtain⟨b,i2,h4,h5,h6⟩:=ih _ h2
 have ot:=qoG 14 o.str a.kind a.num b.kind b.num a.str b.str a.kids b.kids (by simp) (by simp) (by simp) (by simp)
 have w1:=qag (d-1) (by omega)
 have ed:(d-1).toNat<=d.toNat:=by omega
 have hm:mxs (d-1).toNat<=mxs d.toNat:=by
  by_cases h0:d<=0
  ·rw[show (d-1).toNat=0 by omega]; exact qiF _
  ·rw[show d.toNat=(d-1).toNat+1 by omega]; simp only[mxs]; omega
 have ho1:o.opd=1/\o.res=2:=by
  simp only[qtD,Wr,Wt,or_false] at ho
  rcases ho with rfl|rfl|rfl|rfl|rfl|rfl<;>exact⟨rfl,rfl⟩
 have hco:Co 6 (E.cost (.bin true o a b)) xs i i2:=by
  have ho2:o.str.size<=2:=by cases o<;>decide
  obtain⟨q1,q2,q3⟩:=h1.2.2.2.2
  obtain⟨q4,q5,q6⟩:=h4.2.2.2.2
  have how:o.w<=11:=by cases o<;>decide
  show _/\_/\((o.str.size+o.w+(a.cost+b.cost):Nat):Int)<=_
  rcases qaw xs i with ⟨e1,l1⟩|⟨e1,l1⟩
  ·rcases qaw xs (qaE xs i) with ⟨e2,l2⟩|⟨e2,l2⟩<;>omega
  ·exact absurd (l1 8) (fun h0=>by
    unfold qpz at h
    rw[h0] at h
    split at h<;>simp at h)
 refine⟨.bin true o a b,i2,⟨⟨h1.1,h4.1,by rw[ho1.1]; exact h1.2.1,by rw[ho1.1]; exact h4.2.1⟩,by simp[h1.2.1,h4.2.1,ho1.1,ho1.2],by simp only[E.dp]; omega,by simp only[mxs,qky]; omega,hco⟩,h5,?_⟩
 refine qab (pf:=F179) rfl rfl ?_
 unfold qpz at h
 by_cases hd:d<=0
 ·rw[if_pos hd] at h
  obtain h'|h'|h'|h':(qaC xs i 8).tmod 4=1\/(qaC xs i 8).tmod 4=2\/(qaC xs i 8).tmod 4=3\/(qaC xs i 8).tmod 4=4:=by omega
  all_goals simp[F179,n1,n2,hd,h',hat,hc,h3,h6,ot,w1]
 ·rw[if_neg hd] at h
  obtain h'|h'|h'|h':qaC xs i 8=1\/qaC xs i 8=2\/qaC xs i 8=3\/qaC xs i 8=4:=by omega
  all_goals simp[F179,n1,n2,hd,h',hat,hc,h3,h6,ot,w1]
theorem qr3(hd : ¬ d<=0)(hd2:d<=1000)(ih : ∀ j,0<=j/\j<=B->GBb B v xs (d-1) j)(h:qaC xs i 8=5):GBb B v xs d i:=by
 have n1:=qbr (i:=i) (m:=8) hx hl hi (by omega)
 have r1:=qax hi hl
 obtain⟨e,i',h1,h2,h3⟩:=ih _ r1
 have o:=qqK 13 ⟨#[33]⟩ e.kind e.num e.str e.kids (by simp) (by simp)
 have w1:=qag (d-1) (by omega)
 have ed:d.toNat=(d-1).toNat+1:=by omega
 have hco:Co 6 (E.cost (.un true false e)) xs i i':=by
  obtain⟨q1,q2,q3⟩:=h1.2.2.2.2
  show _/\_/\((6+e.cost:Nat):Int)<=_
  rcases qaw xs i with ⟨e1,l1⟩|⟨e1,l1⟩
  ·omega
  ·exact absurd (l1 8) (by omega)
 refine⟨.un true false e,i',⟨⟨h1.1,h1.2.1⟩,by simp[h1.2.1],by rw[ed]; simp only[E.dp]; omega,by rw[ed]; have:=h1.2.2.2.1; simp only[mxs,qqD] at *; omega,hco⟩,h2,?_⟩
 refine qab (pf:=F179) rfl rfl ?_
 simp[F179,n1,hd,h,h3,o,w1,ustr]
theorem qr4(hd : ¬ d<=0)(hd2:d<=1000)(ih : ∀ j,0<=j/\j<=B->GBb B v xs (d-1) j)(h:qaC xs i 8=6\/qaC xs i 8=7):GBb B v xs d i:=by
 have n1:=qbr (i:=i) (m:=8) hx hl hi (by omega)
 have r1:=qax hi hl
 have n2:=qbr (i:=qaE xs i) (m:=2) hx hl r1 (by omega)
 have r2:=qax r1 hl
 have p:=qbl (i:=qaE xs i) (m:=2) hx (by omega)
 have hat:=qcS (qb3 [⟨#[38,38]⟩,⟨#[124,124]⟩]) 2 true (qaC xs (qaE xs i) 2) p.1 (by omega)
 obtain⟨o,ho,hc⟩:=qu3 p
 simp only[qb3,List.map] at hat hc
 obtain⟨a,i1,h1,h2,h3⟩:=ih _ r2
 obtain⟨b,i2,h4,h5,h6⟩:=ih _ h2
 have ot:=qoG 14 o.str a.kind a.num b.kind b.num a.str b.str a.kids b.kids (by simp) (by simp) (by simp) (by simp)
 have w1:=qag (d-1) (by omega)
 have ed:d.toNat=(d-1).toNat+1:=by omega
 have ho1:o.opd=2/\o.res=2:=by
  simp only[qzl,Wr,Wt,or_false] at ho
  rcases ho with rfl|rfl<;>exact⟨rfl,rfl⟩
 have hco:Co 6 (E.cost (.bin true o a b)) xs i i2:=by
  have ho2:o.str.size<=2:=by cases o<;>decide
  obtain⟨q1,q2,q3⟩:=h1.2.2.2.2
  obtain⟨q4,q5,q6⟩:=h4.2.2.2.2
  have how:o.w<=11:=by cases o<;>decide
  show _/\_/\((o.str.size+o.w+(a.cost+b.cost):Nat):Int)<=_
  rcases qaw xs i with ⟨e1,l1⟩|⟨e1,l1⟩
  ·rcases qaw xs (qaE xs i) with ⟨e2,l2⟩|⟨e2,l2⟩<;>omega
  ·exact absurd (l1 8) (by omega)
 refine⟨.bin true o a b,i2,⟨⟨h1.1,h4.1,by rw[ho1.1]; exact h1.2.1,by rw[ho1.1]; exact h4.2.1⟩,by simp[h1.2.1,h4.2.1,ho1.1,ho1.2],by rw[ed]; simp only[E.dp]; omega,by rw[ed]; have:=h1.2.2.2.1; have:=h4.2.2.2.1; simp only[mxs,qky] at *; omega,hco⟩,h5,?_⟩
 refine qab (pf:=F179) rfl rfl ?_
 rcases h with h|h<;>simp[F179,n1,n2,hd,h,hat,hc,h3,h6,ot,w1]
end
theorem qpA{v:D}{xs:List Int}{B:Int}(hx : ∀ x∈xs,I64 x)(hl:Bnd v xs B) : ∀ (n:Nat) (d i:Int),d<=n -> -100<=d->n<=1000->(0<=i/\i<=B)->GBb B v xs d i
 |n,d,i,hd,hd',hn,hi=>by
  have p:=qbl (i:=i) (m:=8) hx (by omega)
  have ihI : ∀ j,0<=j/\j<=B->GIb B v xs (d-1) j:=fun j hj=>qpy hx hl n (d-1) j (by omega) (by omega) hj
  by_cases h0:d<=0
  ·have q:=qaS p.1 (m:=4) (by omega)
   have e:qpz xs d i=(qaC xs i 8).tmod 4:=if_pos h0
   by_cases h1:qpz xs d i=0
   ·exact qmY hx hl hi h1
   ·exact qmZ hx hl hi (by omega) (by omega) ihI (by omega)
  ·have e:qpz xs d i=qaC xs i 8:=if_neg h0
   by_cases h1:qpz xs d i=0
   ·exact qmY hx hl hi h1
   by_cases h2:qpz xs d i<=4
   ·exact qmZ hx hl hi (by omega) (by omega) ihI (by omega)
   cases n with
   |zero=>omega
   |succ n=>
    have ih : ∀ j,0<=j/\j<=B->GBb B v xs (d-1) j:=fun j hj=>qpA hx hl n (d-1) j (by omega) (by omega) (by omega) hj
    by_cases h4:qaC xs i 8=5
    ·exact qr3 hx hl hi h0 (by omega) ih h4
    ·exact qr4 hx hl hi h0 (by omega) ih (by omega)
theorem qn8{xs:List Int}(hx : ∀ x∈xs,I64 x)(hl:xs.length<=100)(n:Nat)(d i:Int)(hd:d<=n)(hn:n<=1000)(hi:0<=i/\i<=100):GI xs d i:=qpy hx (qbD hl) n d i hd hn hi
theorem qtE{xs:List Int}(hx : ∀ x∈xs,I64 x)(hl:xs.length<=100)(n:Nat)(d i:Int)(hd:d<=n)(hd' : -100<=d)(hn:n<=1000)(hi:0<=i/\i<=100):GB xs d i:=qpA hx (qbD hl) n d i hd hd' hn hi
end
section
open F
def Ss.fine:Ss->Prop
 |.nil=>True
 |.assign _ s e r=>(s∈qq9/\e.fine/\e.ty=1)/\r.fine
 |.store _ s a b r=>(s∈qfZ/\a.fine/\a.ty=1/\b.fine/\b.ty=1)/\r.fine
 |.effect _ a b r=>(a.fine/\a.ty=1/\b.fine/\b.ty=1)/\r.fine
 |.stop r=>r.fine
 |.cond false _ c (.block _ x (.block _ y .nil)) r=>(c.fine/\c.ty=2)/\x.fine/\y.fine/\r.fine
 |.cond true _ c (.block _ x .nil) r=>(c.fine/\c.ty=2)/\x.fine/\r.fine
 |_=>False
def Ss.dp:Ss->Nat
 |.nil=>0
 |.assign _ _ _ r=>r.dp
 |.store _ _ _ _ r=>r.dp
 |.effect _ _ _ r=>r.dp
 |.stop r=>r.dp
 |.cond _ _ _ b r=>max (b.dp+1) r.dp
 |.block _ b r=>max b.dp r.dp
def Ss.edp:Ss->Nat
 |.nil=>0
 |.assign _ _ e r=>max e.dp r.edp
 |.store _ _ a b r=>max (max a.dp b.dp) r.edp
 |.effect _ a b r=>max (max a.dp b.dp) r.edp
 |.stop r=>r.edp
 |.cond _ _ c b r=>max (max c.dp b.edp) r.edp
 |.block _ b r=>max b.edp r.edp
def ssz:Nat->Nat
 |0=>20
 |n+1=>20+4*ssz n
theorem qj1(n:Nat):20<=ssz n:=by cases n<;>simp[ssz]
def GS(xs:List Int)(d i:Int):Prop := ∃ (st:Ss) (k n:Int) (s:ByteArray) (f:Bool) (ks:Fo) (i':Int),st.fo = .cons k n s f ks .nil /\
 (st.fine/\st.dp<=d.toNat/\st.edp<=3/\st.fo.size<=ssz d.toNat/\Co 8 st.cost xs i i')/\(0<=i'/\i'<=100)/\Z qaf (.call 162 [.ptr 0 0,.int d] (gst xs i))=some (.ret (nd k n s f ks) (gst xs i'))
def GK(xs:List Int)(d m i:Int):Prop := ∃ (b:Ss) (i':Int),(b.fine/\b.dp<=d.toNat/\b.edp<=3/\b.fo.size<=m.toNat*ssz d.toNat/\Co 0 b.cost xs i i')/\(0<=i'/\i'<=100) /\
 Z qaf (.call 137 [.ptr 0 0,.int d,.int m] (gst xs i))=some (.ret (nd 7 0 ⟨#[]⟩ false b.fo) (gst xs i'))
def qhv(xs:List Int)(d i:Int):Int:=if d<=0 then (qaC xs i 10).tmod 7 else qaC xs i 10
section
variable{xs:List Int}{i d:Int}(hx : ∀ x∈xs,I64 x)(hl:xs.length<=100)(hi:0<=i/\i<=100)
include hx hl hi
theorem qk0(h:qhv xs d i=0\/qhv xs d i=1):GS xs d i:=by
 have n1:=qbr (i:=i) (m:=10) hx (qbD hl) hi (by omega)
 have r1:=qax hi (qbD hl)
 have n2:=qbr (i:=qaE xs i) (m:=4) hx (qbD hl) r1 (by omega)
 have r2:=qax r1 (qbD hl)
 have p:=qbl (i:=qaE xs i) (m:=4) hx (by omega)
 have hat:=qcS (qb3 qoH) 4 true (qaC xs (qaE xs i) 4) p.1 (by omega)
 obtain⟨s,hs,hc⟩:=qiG (l:=qoH) (p:=qaC xs (qaE xs i) 4) (by simpa [qoH] using p)
 simp only[qoH,qb3,List.map] at hat hc
 obtain⟨e,i',h1,h2,h3⟩:=qn8 hx hl 2 2 _ (by omega) (by omega) r2
 rw[show (2:Int).toNat=2 from rfl] at h1
 have o:=qqK 1 s e.kind e.num e.str e.kids (by simp) (by simp)
 have hz:mxs 2=7:=rfl
 have hp:=qj1 d.toNat
 have hco:Co 8 (Ss.cost (.assign true s e .nil)) xs i i':=by
  obtain⟨q1,q2,q3⟩:=h1.2.2.2.2
  have hcs : ∀ s∈qoH,s.size<=3:=by decide
  have h5:=hcs s hs
  show _/\_/\((s.size+5+e.cost+0:Nat):Int)<=_
  rcases qaw xs i with ⟨e1,l1⟩|⟨e1,l1⟩
  ·rcases qaw xs (qaE xs i) with ⟨e2,l2⟩|⟨e2,l2⟩<;>omega
  ·have e3:qaC xs (qaE xs i) 4=0:=by rw[e1]; exact l1 4
   have hs1:s.size=1:=by
    rw[e3] at hc
    simp at hc
    rw[<- hc]
    rfl
   rcases qaw xs (qaE xs i) with ⟨e2,l2⟩|⟨e2,l2⟩<;>omega
 refine⟨.assign true s e .nil,1,0,s,true,e.fo .nil,i',rfl,⟨⟨⟨Yp _ hs,h1.1,h1.2.1⟩,trivial⟩,WI _,by simp only[Ss.edp]; omega,by simp only[Ss.fo,qau,qcE,qaV]; omega,hco⟩,h2,?_⟩
 refine qab (pf:=F162) rfl rfl ?_
 unfold qhv at h
 by_cases hd:d<=0
 ·rw[if_pos hd] at h
  rcases h with h|h<;>simp[F162,n1,n2,hd,h,hat,hc,h3,o]
 ·rw[if_neg hd] at h
  rcases h with h|h<;>simp[F162,n1,n2,hd,h,hat,hc,h3,o]
theorem qmS(h:qhv xs d i=2\/qhv xs d i=3\/qhv xs d i=4):GS xs d i:=by
 have n1:=qbr (i:=i) (m:=10) hx (qbD hl) hi (by omega)
 have r1:=qax hi (qbD hl)
 have n2:=qbr (i:=qaE xs i) (m:=6) hx (qbD hl) r1 (by omega)
 have r2:=qax r1 (qbD hl)
 have p:=qbl (i:=qaE xs i) (m:=6) hx (by omega)
 have hat:=qcS (qb3 qfZ) 6 true (qaC xs (qaE xs i) 6) p.1 (by omega)
 obtain⟨s,hs,hc⟩:=qiG (l:=qfZ) (p:=qaC xs (qaE xs i) 6) (by simpa [qfZ] using p)
 simp only[qfZ,qb3,List.map] at hat hc
 obtain⟨a,i1,h1,h2,h3⟩:=qn8 hx hl 1 1 _ (by omega) (by omega) r2
 obtain⟨b,i2,h4,h5,h6⟩:=qn8 hx hl 2 2 _ (by omega) (by omega) h2
 rw[show (2:Int).toNat=2 from rfl] at h4
 rw[show (1:Int).toNat=1 from rfl] at h1
 have o:=qoG 2 s a.kind a.num b.kind b.num a.str b.str a.kids b.kids (by simp) (by simp) (by simp) (by simp)
 have hz:mxs 2=7:=rfl
 have hz1:mxs 1=3:=rfl
 have hp:=qj1 d.toNat
 have hco:Co 8 (Ss.cost (.store true s a b .nil)) xs i i2:=by
  have hcs : ∀ s∈qfZ,s.size<=2:=by decide
  have h55:=hcs s hs
  obtain⟨q1,q2,q3⟩:=h1.2.2.2.2
  obtain⟨u1,u2,u3⟩:=h4.2.2.2.2
  show _/\_/\((s.size+9+(a.cost+b.cost)+0:Nat):Int)<=_
  rcases qaw xs i with ⟨e1,l1⟩|⟨e1,l1⟩
  ·rcases qaw xs (qaE xs i) with ⟨e2,l2⟩|⟨e2,l2⟩<;>omega
  ·exact absurd (l1 10) (fun h0=>by
    unfold qhv at h
    rw[h0] at h
    split at h<;>simp at h)
 refine⟨.store true s a b .nil,2,0,s,true,a.fo (b.fo .nil),i2,rfl,⟨⟨⟨hs,h1.1,h1.2.1,h4.1,h4.2.1⟩,trivial⟩,WI _,by simp only[Ss.edp]; omega,by simp only[Ss.fo,qau,qcE,qaV]; omega,hco⟩,h5,?_⟩
 refine qab (pf:=F162) rfl rfl ?_
 unfold qhv at h
 by_cases hd:d<=0
 ·rw[if_pos hd] at h
  rcases h with h|h|h<;>simp[F162,n1,n2,hd,h,hat,hc,h3,h6,o]
 ·rw[if_neg hd] at h
  rcases h with h|h|h<;>simp[F162,n1,n2,hd,h,hat,hc,h3,h6,o]
theorem qk1(h:qhv xs d i=5):GS xs d i:=by
 have n1:=qbr (i:=i) (m:=10) hx (qbD hl) hi (by omega)
 have r1:=qax hi (qbD hl)
 obtain⟨a,i1,h1,h2,h3⟩:=qn8 hx hl 1 0 _ (by omega) (by omega) r1
 obtain⟨b,i2,h4,h5,h6⟩:=qn8 hx hl 1 1 _ (by omega) (by omega) h2
 rw[show (0:Int).toNat=0 from rfl] at h1
 rw[show (1:Int).toNat=1 from rfl] at h4
 have o:=qoG 5 ⟨#[]⟩ a.kind a.num b.kind b.num a.str b.str a.kids b.kids (by simp) (by simp) (by simp) (by simp)
 have hz:mxs 0=1:=rfl
 have hz1:mxs 1=3:=rfl
 have hp:=qj1 d.toNat
 have hco:Co 8 (Ss.cost (.effect true a b .nil)) xs i i2:=by
  obtain⟨q1,q2,q3⟩:=h1.2.2.2.2
  obtain⟨u1,u2,u3⟩:=h4.2.2.2.2
  show _/\_/\((11+(a.cost+b.cost)+0:Nat):Int)<=_
  rcases qaw xs i with ⟨e1,l1⟩|⟨e1,l1⟩
  ·omega
  ·exact absurd (l1 10) (fun h0=>by
    unfold qhv at h
    rw[h0] at h
    split at h<;>simp at h)
 refine⟨.effect true a b .nil,5,0,_,true,a.fo (b.fo .nil),i2,rfl,⟨⟨⟨h1.1,h1.2.1,h4.1,h4.2.1⟩,trivial⟩,WI _,by simp only[Ss.edp]; omega,by simp only[Ss.fo,qau,qcE,qaV]; omega,hco⟩,h5,?_⟩
 refine qab (pf:=F162) rfl rfl ?_
 unfold qhv at h
 by_cases hd:d<=0
 ·rw[if_pos hd] at h
  simp[F162,n1,hd,h,h3,h6,o]
 ·rw[if_neg hd] at h
  simp[F162,n1,hd,h,h3,h6,o]
theorem qtA(h:qhv xs d i=6):GS xs d i:=by
 have n1:=qbr (i:=i) (m:=10) hx (qbD hl) hi (by omega)
 have r1:=qax hi (qbD hl)
 have n2:=qbr (i:=qaE xs i) (m:=3) hx (qbD hl) r1 (by omega)
 have r2:=qax r1 (qbD hl)
 have p:=qbl (i:=qaE xs i) (m:=3) hx (by omega)
 have hp:=qj1 d.toNat
 by_cases h0:0<qaC xs (qaE xs i) 3
 ·obtain⟨e,i',h1,h2,h3⟩:=qn8 hx hl 1 1 _ (by omega) (by omega) r2
  rw[show (1:Int).toNat=1 from rfl] at h1
  have o:=qqK 1 ⟨#[110]⟩ e.kind e.num e.str e.kids (by simp) (by simp)
  have hz:mxs 1=3:=rfl
  have hco:Co 8 (Ss.cost (.assign true ⟨#[110]⟩ e .nil)) xs i i':=by
   obtain⟨q1,q2,q3⟩:=h1.2.2.2.2
   show _/\_/\((1+5+e.cost+0:Nat):Int)<=_
   rcases qaw xs i with ⟨e1,l1⟩|⟨e1,l1⟩
   ·rcases qaw xs (qaE xs i) with ⟨e2,l2⟩|⟨e2,l2⟩<;>omega
   ·exact absurd (l1 10) (fun h0=>by
     unfold qhv at h
     rw[h0] at h
     split at h<;>simp at h)
  refine⟨.assign true ⟨#[110]⟩ e .nil,1,0,_,true,e.fo .nil,i',rfl,⟨⟨⟨by simp[qq9,qoH],h1.1,h1.2.1⟩,trivial⟩,WI _,by simp only[Ss.edp]; omega,by simp only[Ss.fo,qau,qcE,qaV]; omega,hco⟩,h2,?_⟩
  refine qab (pf:=F162) rfl rfl ?_
  unfold qhv at h
  by_cases hd:d<=0
  ·rw[if_pos hd] at h
   simp[F162,n1,n2,hd,h,h0,h3,o]
  ·rw[if_neg hd] at h
   simp[F162,n1,n2,hd,h,h0,h3,o]
 ·have hco:Co 8 (Ss.cost (.stop .nil)) xs i (qaE xs (qaE xs i)):=by
   show _/\_/\((7+0:Nat):Int)<=_
   rcases qaw xs i with ⟨e1,l1⟩|⟨e1,l1⟩<;>rcases qaw xs (qaE xs i) with ⟨e2,l2⟩|⟨e2,l2⟩<;>omega
  refine⟨.stop .nil,6,0,_,false,.nil,_,rfl,⟨trivial,WI _,WI _,by simp only[Ss.fo,qau,qaV]; omega,hco⟩,r2,?_⟩
  refine qab (pf:=F162) rfl rfl ?_
  unfold qhv at h
  by_cases hd:d<=0
  ·rw[if_pos hd] at h
   simp[F162,n1,n2,hd,h,h0]
  ·rw[if_neg hd] at h
   simp[F162,n1,n2,hd,h,h0]
theorem qrt(hd : ¬ d<=0)(hd2:d<=1000)(ih : ∀ j,0<=j/\j<=100->GK xs (d-1) 2 j)(h:qaC xs i 10=7):GS xs d i:=by
 have n1:=qbr (i:=i) (m:=10) hx (qbD hl) hi (by omega)
 have r1:=qax hi (qbD hl)
 obtain⟨c,i1,h1,h2,h3⟩:=qtE hx hl 1 1 _ (by omega) (by omega) (by omega) r1
 obtain⟨b,i2,h4,h5,h6⟩:=ih _ h2
 rw[show (1:Int).toNat=1 from rfl] at h1
 have ed:d.toNat=(d-1).toNat+1:=by omega
 rw[show (2:Int).toNat=2 from rfl] at h4
 have hz:mxs (1+1)=7:=rfl
 have o:=qoG 4 ⟨#[]⟩ c.kind c.num 7 0 c.str ⟨#[]⟩ c.kids (kd false b.fo.len b.fo.cells) (by simp) (by simp) (by simp) (by simp)
 have w1:=qag (d-1) (by omega)
 have hco:Co 8 (Ss.cost (.cond true true c (.block false b .nil) .nil)) xs i i2:=by
  obtain⟨q1,q2,q3⟩:=h1.2.2.2.2
  obtain⟨u1,u2,u3⟩:=h4.2.2.2.2
  show _/\_/\((6+c.cost+(4+b.cost+(0+0))+0:Nat):Int)<=_
  rcases qaw xs i with ⟨e1,l1⟩|⟨e1,l1⟩
  ·omega
  ·exact absurd (l1 10) (by omega)
 refine⟨.cond true true c (.block false b .nil) .nil,4,0,_,true,c.fo (.cons 7 0 ⟨#[]⟩ false b.fo .nil),i2,rfl,⟨⟨⟨h1.1,h1.2.1⟩,h4.1,trivial⟩,by simp only[Ss.dp]; omega,by simp only[Ss.edp]; omega,by rw[ed]; simp only[Ss.fo,qau,qcE,qaV,ssz]; omega,hco⟩,h5,?_⟩
 refine qab (pf:=F162) rfl rfl ?_
 simp[F162,n1,hd,h,h3,h6,o,w1]
theorem qz8(hd : ¬ d<=0)(hd2:d<=1000)(ih : ∀ j,0<=j/\j<=100->GK xs (d-1) 2 j)(h:8<=qaC xs i 10):GS xs d i:=by
 have n1:=qbr (i:=i) (m:=10) hx (qbD hl) hi (by omega)
 have r1:=qax hi (qbD hl)
 obtain⟨c,i1,h1,h2,h3⟩:=qtE hx hl 2 2 _ (by omega) (by omega) (by omega) r1
 obtain⟨a,i2,h4,h5,h6⟩:=ih _ h2
 have n2:=qbr (i:=i2) (m:=2) hx (qbD hl) h5 (by omega)
 have r2:=qax h5 (qbD hl)
 obtain⟨b,i3,h7,h8,h9⟩:=ih _ r2
 rw[show (2:Int).toNat=2 from rfl] at h1 h4 h7
 have ed:d.toNat=(d-1).toNat+1:=by omega
 have hz:mxs (2+1)=15:=rfl
 have w1:=qag (d-1) (by omega)
 have k0 : ¬ qaC xs i 10=0:=by omega
 have k1 : ¬ qaC xs i 10=1:=by omega
 have k2 : ¬ qaC xs i 10=2:=by omega
 have k3 : ¬ qaC xs i 10=3:=by omega
 have k4 : ¬ qaC xs i 10=4:=by omega
 have k5 : ¬ qaC xs i 10=5:=by omega
 have k6 : ¬ qaC xs i 10=6:=by omega
 have k7 : ¬ qaC xs i 10=7:=by omega
 by_cases h0:qaC xs i2 2=1
 ·have hco:Co 8 (Ss.cost (.cond false true c (.block false a (.block false b .nil)) .nil)) xs i i3:=by
   have hl:(if qiu (.block false b .nil)=true then 5 else 0)<=5:=by split<;>omega
   obtain⟨q1,q2,q3⟩:=h1.2.2.2.2
   obtain⟨u1,u2,u3⟩:=h4.2.2.2.2
   obtain⟨v1,v2,v3⟩:=h7.2.2.2.2
   show _/\_/\((3+c.cost+(4+a.cost+((if qiu (.block false b .nil)=true then 5 else 0)+(4+b.cost+(0+0))))+0:Nat):Int)<=_
   rcases qaw xs i with ⟨e1,l1⟩|⟨e1,l1⟩
   ·rcases qaw xs i2 with ⟨e2,l2⟩|⟨e2,l2⟩<;>omega
   ·exact absurd (l1 10) (by omega)
  refine⟨.cond false true c (.block false a (.block false b .nil)) .nil,3,0,_,true,c.fo (.cons 7 0 ⟨#[]⟩ false a.fo (.cons 7 0 ⟨#[]⟩ false b.fo .nil)),i3,rfl,⟨⟨⟨h1.1,h1.2.1⟩,h4.1,h7.1,trivial⟩,by simp only[Ss.dp]; omega,by simp only[Ss.edp]; omega,by rw[ed]; simp only[Ss.fo,qau,qcE,qaV,ssz]; omega,hco⟩,h8,?_⟩
  refine qab (pf:=F162) rfl rfl ?_
  simp[F162,n1,n2,hd,h0,k0,k1,k2,k3,k4,k5,k6,k7,h3,h6,h9,w1,Wa]
 ·have hco:Co 8 (Ss.cost (.cond false true c (.block false a (.block false .nil .nil)) .nil)) xs i (qaE xs i2):=by
   obtain⟨q1,q2,q3⟩:=h1.2.2.2.2
   obtain⟨u1,u2,u3⟩:=h4.2.2.2.2
   show _/\_/\((3+c.cost+(4+a.cost+(0+(4+0+(0+0))))+0:Nat):Int)<=_
   rcases qaw xs i with ⟨e1,l1⟩|⟨e1,l1⟩
   ·rcases qaw xs i2 with ⟨e2,l2⟩|⟨e2,l2⟩<;>omega
   ·exact absurd (l1 10) (by omega)
  refine⟨.cond false true c (.block false a (.block false .nil .nil)) .nil,3,0,_,true,c.fo (.cons 7 0 ⟨#[]⟩ false a.fo (.cons 7 0 ⟨#[]⟩ false .nil .nil)),_,rfl,⟨⟨⟨h1.1,h1.2.1⟩,h4.1,trivial,trivial⟩,by simp only[Ss.dp]; omega,by simp only[Ss.edp]; omega,by rw[ed]; simp only[Ss.fo,qau,qcE,qaV,ssz]; omega,hco⟩,r2,?_⟩
  refine qab (pf:=F162) rfl rfl ?_
  simp[F162,n1,n2,hd,h0,k0,k1,k2,k3,k4,k5,k6,k7,h3,h6,w1,Wa]
end
end
section
open Gr
def vOp(op n lo hi:Int):Prop:=(1<=op/\op<=21) /\
 if op=1 then -2147483647<=n/\n<=2147483647
 else if op=2\/op=3 then 0<=n/\n<=15
 else if op=4 then 0<=n/\n<=7
 else if op=5 then 0<=n/\n<=5
 else if op=18\/op=19 then lo<=n/\n<=hi
 else n=0
theorem qcD{op n lo hi lo' hi':Int}(h:vOp op n lo hi)(h1:lo'<=lo)(h2:hi<=hi'):vOp op n lo' hi':=by
 obtain⟨h0,h⟩:=h
 refine⟨h0,?_⟩
 split at h
 ·rw[if_pos (by assumption)]; exact h
 rw[if_neg (by assumption)]
 split at h
 ·rw[if_pos (by assumption)]; exact h
 rw[if_neg (by assumption)]
 split at h
 ·rw[if_pos (by assumption)]; exact h
 rw[if_neg (by assumption)]
 split at h
 ·rw[if_pos (by assumption)]; exact h
 rw[if_neg (by assumption)]
 split at h
 ·rw[if_pos (by assumption)]; omega
 rw[if_neg (by assumption)]; exact h
def qoo(op n q:Int):List Int:=if op=21 then [] else if op=18 then [n] else if op=19 then [q+1,n] else [q+1]
theorem qvW(c:Cd)(i:Nat):qgC c i=qoo (opA c i) (nA c i) i:=rfl
structure Sg(C:Int->Cd)(n:Nat)(k:Int)(st:Bool)(h:Int)(D:Int->Nat->Int):Prop where
 ln:Ln C n
 beg : ∀ d,D d 0=d
 fin : ∀ d,D d n=d+k
 ok : ∀ p i,i<n->vOp (opA (C p) i) (nA (C p) i) p (p+n)
 pop : ∀ p d i,i<n->qeU (opA (C p) i)<=D d i-d
 flow : ∀ p d i,i<n -> ∀ j∈qoo (opA (C p) i) (nA (C p) i) (p+i),p<=j/\j<=p+n/\D d (j-p).toNat=D d i+(qdF (opA (C p) i)-qeU (opA (C p) i))
 stp : ∀ p d i,i<n->opA (C p) i=21->st=true/\D d i=d
 hi : ∀ d i,i<=n->D d i<=d+h
def SgE(C:Int->Cd)(n:Nat)(k:Int)(st:Bool)(h:Int):Prop := ∃ D,Sg C n k st h D
theorem SgE.mono{C:Int->Cd}{n:Nat}{k h h':Int}{st:Bool}(g:SgE C n k st h)(e:h<=h'):SgE C n k st h':=by
 obtain⟨D,g⟩:=g
 exact⟨D,{ g with hi:=fun d i hi=>by have:=g.hi d i hi; omega }⟩
theorem qd0{a b:Cd}{i:Nat}(h:i<a.length):opA (a++b) i=opA a i/\nA (a++b) i=nA a i:=by
 simp[opA,nA,Wn,List.getElem?_append,h]
theorem qcm{a b:Cd}{i:Nat}(h : ¬ i<a.length):opA (a++b) i=opA b (i-a.length)/\nA (a++b) i=nA b (i-a.length):=by
 simp[opA,nA,Wn,List.getElem?_append,h]
theorem qju{op n:Int}(ho:op≠18/\op≠19/\op≠21)(hv:vOp op n 0 0)(hp:qeU op=0)(hk:1=qdF op):SgE (fun _=>[(op,n)]) 1 1 false 1:=by
 have hv' : ∀ p,vOp op n p (p+(1:Nat)):=fun p=>by
  obtain⟨h0,h⟩:=hv
  refine⟨h0,?_⟩
  have hj : ¬ (op=18\/op=19):=by omega
  rw[if_neg hj] at h ⊢
  exact h
 refine⟨fun d i=>if i=0 then d else d+1,⟨fun _=>rfl,fun d=>rfl,fun d=>rfl,?_,?_,?_,?_,fun d i _=>?_⟩⟩
 ·intro p i hi
  obtain rfl:i=0:=by omega
  exact hv' p
 ·intro p d i hi
  obtain rfl:i=0:=by omega
  show qeU op<=_
  simp[hp]
 ·intro p d i hi j hj
  obtain rfl:i=0:=by omega
  have e:qoo (opA [(op,n)] 0) (nA [(op,n)] 0) (p+(0:Nat))=[p+1]:=by
   show qoo op n _=_
   simp[qoo,ho]
  rw[e] at hj
  simp only[Wl] at hj
  subst hj
  refine⟨by omega,by omega,?_⟩
  have:(p+1-p).toNat=1:=by omega
  rw[this]
  show d+1=d+(qdF op-qeU op)
  omega
 ·intro p d i hi h
  obtain rfl:i=0:=by omega
  exact absurd h ho.2.2
 ·show (if i=0 then d else d+1)<=d+1
  split<;>omega
theorem qvX{h:Int}(h0:0<=h):SgE (fun _=>[(21,0)]) 1 0 true h:=by
 refine⟨fun d i=>d,⟨fun _=>rfl,fun d=>rfl,fun d=>by omega,?_,?_,?_,?_,fun d i _=>by omega⟩⟩
 ·intro p i hi
  obtain rfl:i=0:=by omega
  exact⟨⟨by show (1:Int)<=21; omega,by show (21:Int)<=21; omega⟩,rfl⟩
 ·intro p d i hi
  obtain rfl:i=0:=by omega
  show (0:Int)<=_
  omega
 ·intro p d i hi j hj
  obtain rfl:i=0:=by omega
  have e:qoo (opA [((21:Int),(0:Int))] 0) (nA [((21:Int),(0:Int))] 0) (p+(0:Nat))=[]:=rfl
  rw[e] at hj; cases hj
 ·intro p d i hi h; exact⟨rfl,rfl⟩
theorem qtT{h:Int}(h0:0<=h):SgE (fun _=>[]) 0 0 false h:=
 ⟨fun d i=>d,⟨fun _=>rfl,fun d=>rfl,fun d=>by omega,fun p i h=>by omega,fun p d i h=>by omega,fun p d i h=>by omega,fun p d i h=>by omega,fun d i _=>by omega⟩⟩
theorem qkm{A B:Int->Cd}{n m:Nat}{k l:Int}{s t:Bool}{h1 h2 h:Int}(ha:SgE A n k s h1)(hb:SgE B m l t h2)(hk:0<=k)(ht:t=true->k=0)(e1:h1<=h)(e2:k+h2<=h):SgE (sq A B) (n+m) (k+l) (s||t) h:=by
 obtain⟨DA,a⟩:=ha
 obtain⟨DB,b⟩:=hb
 have dat : ∀ d i,n<=i->(if i<n then DA d i else DB (d+k) (i-n))=DB (d+k) (i-n):=fun d i h=>if_neg (by omega)
 have dle : ∀ d i,i<=n->(if i<n then DA d i else DB (d+k) (i-n))=DA d i:=fun d i h=>by
  by_cases h':i<n
  ·rw[if_pos h']
  ·obtain rfl:i=n:=by omega
   rw[if_neg h',Nat.sub_self,b.beg,a.fin]
 have opl : ∀ p i,i<n->opA (sq A B p) i=opA (A p) i/\nA (sq A B p) i=nA (A p) i:=fun p i h=>qd0 (by rw[a.ln p]; exact h)
 have opr : ∀ p i,n<=i->opA (sq A B p) i=opA (B (p+n)) (i-n)/\nA (sq A B p) i=nA (B (p+n)) (i-n):=fun p i h=>by
  have:=qcm (a:=A p) (b:=B (p+(A p).length)) (i:=i) (by rw[a.ln p]; omega)
  rw[a.ln p] at this
  exact⟨by rw[sq,a.ln p]; exact this.1,by rw[sq,a.ln p]; exact this.2⟩
 refine⟨fun d i=>if i<n then DA d i else DB (d+k) (i-n),⟨qa9 a.ln b.ln,fun d=>?_,fun d=>?_,?_,?_,?_,?_,fun d i hi=>?_⟩⟩
 ·rw[dle d 0 (by omega),a.beg]
 ·rw[dat d _ (by omega),show n+m-n=m by omega,b.fin]; omega
 ·intro p i hi
  by_cases h:i<n
  ·rw[(opl p i h).1,(opl p i h).2]
   exact qcD (a.ok p i h) (by omega) (by omega)
  ·rw[(opr p i (by omega)).1,(opr p i (by omega)).2]
   exact qcD (b.ok (p+n) (i-n) (by omega)) (by omega) (by omega)
 ·intro p d i hi
  by_cases h:i<n
  ·rw[(opl p i h).1]
   show _<=(if i<n then DA d i else DB (d+k) (i-n))-d
   rw[dle d i (by omega)]; exact a.pop p d i h
  ·rw[(opr p i (by omega)).1]
   show _<=(if i<n then DA d i else DB (d+k) (i-n))-d
   rw[dat d i (by omega)]
   have:=b.pop (p+n) (d+k) (i-n) (by omega)
   omega
 ·intro p d i hi j hj
  show _/\_/\(if (j-p).toNat<n then DA d (j-p).toNat else DB (d+k) ((j-p).toNat-n))=(if i<n then DA d i else DB (d+k) (i-n))+_
  by_cases h:i<n
  ·rw[(opl p i h).1,(opl p i h).2] at hj
   rw[(opl p i h).1]
   obtain⟨q1,q2,q3⟩:=a.flow p d i h j hj
   rw[dle d i (by omega),dle d _ (by omega)]
   exact⟨q1,by omega,q3⟩
  ·rw[(opr p i (by omega)).1,(opr p i (by omega)).2,show p+(i:Int)=(p+n)+((i-n:Nat):Int) by omega] at hj
   rw[(opr p i (by omega)).1]
   obtain⟨q1,q2,q3⟩:=b.flow (p+n) (d+k) (i-n) (by omega) j hj
   rw[dat d i (by omega),dat d _ (by omega),show (j-p).toNat-n=(j-(p+n)).toNat by omega]
   exact⟨by omega,by omega,q3⟩
 ·intro p d i hi h
  show _/\(if i<n then DA d i else DB (d+k) (i-n))=d
  by_cases h':i<n
  ·rw[(opl p i h').1] at h
   obtain⟨q1,q2⟩:=a.stp p d i h' h
   rw[dle d i (by omega)]; exact⟨by rw[q1]; rfl,q2⟩
  ·rw[(opr p i (by omega)).1] at h
   obtain⟨q1,q2⟩:=b.stp (p+n) (d+k) (i-n) (by omega) h
   rw[dat d i (by omega),q2,ht q1]
   exact⟨by rw[q1]; simp,by omega⟩
 ·show (if i<n then DA d i else DB (d+k) (i-n))<=d+h
  by_cases h':i<n
  ·rw[if_pos h']; have:=a.hi d i (by omega); omega
  ·rw[if_neg h']; have:=b.hi (d+k) (i-n) (by omega); omega
theorem qmn{A:Int->Cd}{n:Nat}{k l op x h0 h:Int}{s:Bool}(ha:SgE A n k s h0)(hs:s=false)(hk:0<=k)(ho:op≠18/\op≠19/\op≠21)(hv:vOp op x 0 0)(hp:qeU op<=k)(hl:l=k+qdF op-qeU op)(e1:h0<=h)(e2:l<=h):SgE (snC A (op,x)) (n+1) l false h:=by
 obtain⟨D,a⟩:=ha
 have hv' : ∀ p q,vOp op x p q:=fun p q=>by
  obtain⟨h0,h⟩:=hv
  refine⟨h0,?_⟩
  have hj : ¬ (op=18\/op=19):=by omega
  rw[if_neg hj] at h ⊢
  exact h
 have opl : ∀ p i,i<n->opA (snC A (op,x) p) i=opA (A p) i/\nA (snC A (op,x) p) i=nA (A p) i:=fun p i h=>qd0 (by rw[a.ln p]; exact h)
 have opr : ∀ p,opA (snC A (op,x) p) n=op/\nA (snC A (op,x) p) n=x:=fun p=>by
  have:=qcm (a:=A p) (b:=[(op,x)]) (i:=n) (by rw[a.ln p]; omega)
  rw[a.ln p,Nat.sub_self] at this
  exact this
 have dle : ∀ d i,i<=n->(if i<=n then D d i else d+l)=D d i:=fun d i h=>if_pos h
 refine⟨fun d i=>if i<=n then D d i else d+l,⟨qbL a.ln,fun d=>?_,fun d=>if_neg (by omega),?_,?_,?_,?_,fun d i hi=>?_⟩⟩
 ·rw[dle d 0 (by omega),a.beg]
 ·intro p i hi
  by_cases h:i<n
  ·rw[(opl p i h).1,(opl p i h).2]
   exact qcD (a.ok p i h) (by omega) (by omega)
  ·obtain rfl:i=n:=by omega
   rw[(opr p).1,(opr p).2]; exact hv' _ _
 ·intro p d i hi
  show _<=(if i<=n then D d i else d+l)-d
  rw[dle d i (by omega)]
  by_cases h:i<n
  ·rw[(opl p i h).1]; exact a.pop p d i h
  ·obtain rfl:i=n:=by omega
   rw[(opr p).1,a.fin]; omega
 ·intro p d i hi j hj
  show _/\_/\(if (j-p).toNat<=n then D d (j-p).toNat else d+l)=(if i<=n then D d i else d+l)+_
  rw[dle d i (by omega)]
  by_cases h:i<n
  ·rw[(opl p i h).1,(opl p i h).2] at hj
   rw[(opl p i h).1]
   obtain⟨q1,q2,q3⟩:=a.flow p d i h j hj
   rw[dle d _ (by omega)]
   exact⟨q1,by omega,q3⟩
  ·obtain rfl:i=n:=by omega
   rw[(opr p).1,(opr p).2] at hj
   rw[(opr p).1]
   have e:qoo op x (p+i)=[p+i+1]:=by simp[qoo,ho]
   rw[e] at hj
   simp only[Wl] at hj
   subst hj
   rw[if_neg (by omega),a.fin]
   exact⟨by omega,by omega,by omega⟩
 ·intro p d i hi h
  by_cases h':i<n
  ·rw[(opl p i h').1] at h
   have:=(a.stp p d i h' h).1
   rw[hs] at this; cases this
  ·obtain rfl:i=n:=by omega
   rw[(opr p).1] at h
   exact absurd h ho.2.2
 ·show (if i<=n then D d i else d+l)<=d+h
  by_cases h':i<=n
  ·rw[if_pos h']; have:=a.hi d i h'; omega
  ·rw[if_neg h']; omega
end
section
open Gr
theorem pop19:qeU 19=1/\qdF 19=0/\qeU 18=0/\qdF 18=0:=by decide
theorem qvc{C A B:Int->Cd}{n m q:Nat}{k h:Int}{s t:Bool}(hC:SgE C n 1 false h)(hA:SgE A m k s h)(hB:SgE B q k t h)(hk:0<=k):SgE (brC C A B) (n+m+q+2) k (s||t) h:=by
 obtain⟨DC,c⟩:=hC
 obtain⟨DA,a⟩:=hA
 obtain⟨DB,b⟩:=hB
 have eq : ∀ p,brC C A B p=C p++((19,p+n+1+m+1)::(A (p+n+1)++((18,p+n+1+m+1+q)::B (p+n+1+m+1)))):=fun p=>by
  simp only[brC,c.ln p,a.ln _,b.ln _]
 have o1 : ∀ p i,i<n->opA (brC C A B p) i=opA (C p) i/\nA (brC C A B p) i=nA (C p) i:=fun p i h=>by
  rw[eq]; exact qd0 (by rw[c.ln p]; exact h)
 have o2 : ∀ p,opA (brC C A B p) n=19/\nA (brC C A B p) n=p+n+1+m+1:=fun p=>by
  rw[eq]
  have:=qcm (a:=C p) (b:=(19,p+n+1+m+1)::(A (p+n+1)++((18,p+n+1+m+1+q)::B (p+n+1+m+1)))) (i:=n) (by rw[c.ln p]; omega)
  rw[c.ln p,Nat.sub_self] at this
  exact this
 have o3 : ∀ p i,i<m->opA (brC C A B p) (n+1+i)=opA (A (p+n+1)) i/\nA (brC C A B p) (n+1+i)=nA (A (p+n+1)) i:=fun p i h=>by
  rw[eq]
  have:=qcm (a:=C p++[(19,p+n+1+m+1)]) (b:=A (p+n+1)++((18,p+n+1+m+1+q)::B (p+n+1+m+1))) (i:=n+1+i) (by simp[c.ln p]<;>omega)
  simp only[Wf,Wi,Wc,Wb,c.ln p,We,Wk] at this
  rw[show n+1+i-(n+(0+1))=i by omega] at this
  have l:=qd0 (a:=A (p+n+1)) (b:=(18,p+n+1+m+1+q)::B (p+n+1+m+1)) (i:=i) (by rw[a.ln _]; exact h)
  exact⟨this.1.trans l.1,this.2.trans l.2⟩
 have o4 : ∀ p,opA (brC C A B p) (n+1+m)=18/\nA (brC C A B p) (n+1+m)=p+n+1+m+1+q:=fun p=>by
  rw[eq]
  have:=qcm (a:=C p++((19,p+n+1+m+1)::A (p+n+1))) (b:=(18,p+n+1+m+1+q)::B (p+n+1+m+1)) (i:=n+1+m) (by simp[c.ln p,a.ln _]<;>omega)
  simp only[Wf,Wi,Wb,c.ln p,a.ln _,We] at this
  rw[show n+1+m-(n+(m+1))=0 by omega] at this
  exact this
 have o5 : ∀ p i,i<q->opA (brC C A B p) (n+1+m+1+i)=opA (B (p+n+1+m+1)) i/\nA (brC C A B p) (n+1+m+1+i)=nA (B (p+n+1+m+1)) i:=fun p i h=>by
  rw[eq]
  have:=qcm (a:=C p++((19,p+n+1+m+1)::(A (p+n+1)++[(18,p+n+1+m+1+q)]))) (b:=B (p+n+1+m+1)) (i:=n+1+m+1+i) (by simp[c.ln p,a.ln _]<;>omega)
  simp only[Wf,Wi,Wc,Wb,c.ln p,a.ln _,We,Wk] at this
  rw[show n+1+m+1+i-(n+(m+(0+1)+1))=i by omega] at this
  exact this
 let D:Int->Nat->Int:=fun d i=>if i<=n then DC d i else if i<=n+1+m then DA d (i-n-1) else DB d (i-n-m-2)
 have d1 : ∀ d i,i<=n->D d i=DC d i:=fun d i h=>if_pos h
 have d3 : ∀ d i,i<=m->D d (n+1+i)=DA d i:=fun d i h=>by
  show (if _ then _ else if _ then _ else _)=_
  rw[if_neg (by omega),if_pos (by omega)]; congr 1; omega
 have d5 : ∀ d i,D d (n+1+m+1+i)=DB d i:=fun d i=>by
  show (if _ then _ else if _ then _ else _)=_
  rw[if_neg (by omega),if_neg (by omega)]; congr 1; omega
 have pos : ∀ i,i<n+m+q+2->i<n\/i=n\/(∃ j,j<m/\i=n+1+j)\/i=n+1+m \/ ∃ j,j<q/\i=n+1+m+1+j:=fun i hi=>by
  by_cases h1:i<n
  ·exact .inl h1
  by_cases h2:i=n
  ·exact .inr (.inl h2)
  by_cases h3:i<n+1+m
  ·exact .inr (.inr (.inl ⟨i-n-1,by omega,by omega⟩))
  by_cases h4:i=n+1+m
  ·exact .inr (.inr (.inr (.inl h4)))
  ·exact .inr (.inr (.inr (.inr ⟨i-n-m-2,by omega,by omega⟩)))
 refine⟨D,⟨qiT c.ln a.ln b.ln,fun d=>?_,fun d=>?_,?_,?_,?_,?_,fun d i hi=>?_⟩⟩
 ·rw[d1 d 0 (by omega),c.beg]
 ·rw[show n+m+q+2=n+1+m+1+q by omega,d5,b.fin]
 ·intro p i hi
  rcases pos i hi with h|rfl|⟨j,hj,rfl⟩|rfl|⟨j,hj,rfl⟩
  ·rw[(o1 p i h).1,(o1 p i h).2]; exact qcD (c.ok p i h) (by omega) (by omega)
  ·rw[(o2 p).1,(o2 p).2]; exact⟨by omega,by rw[if_neg (by omega),if_neg (by omega),if_neg (by omega),if_neg (by omega),if_pos (by omega)]; omega⟩
  ·rw[(o3 p j hj).1,(o3 p j hj).2]; exact qcD (a.ok _ j hj) (by omega) (by omega)
  ·rw[(o4 p).1,(o4 p).2]; exact⟨by omega,by rw[if_neg (by omega),if_neg (by omega),if_neg (by omega),if_neg (by omega),if_pos (by omega)]; omega⟩
  ·rw[(o5 p j hj).1,(o5 p j hj).2]; exact qcD (b.ok _ j hj) (by omega) (by omega)
 ·intro p d i hi
  rcases pos i hi with h|rfl|⟨j,hj,rfl⟩|rfl|⟨j,hj,rfl⟩
  ·rw[(o1 p i h).1,d1 d i (by omega)]; exact c.pop p d i h
  ·rw[(o2 p).1,d1 d i (by omega),c.fin,pop19.1]; omega
  ·rw[(o3 p j hj).1,d3 d j (by omega)]; exact a.pop _ d j hj
  ·rw[(o4 p).1,d3 d m (by omega),a.fin,pop19.2.2.1]; omega
  ·rw[(o5 p j hj).1,d5]; exact b.pop _ d j hj
 ·intro p d i hi j hj
  rcases pos i hi with h|rfl|⟨r,hr,rfl⟩|rfl|⟨r,hr,rfl⟩
  ·rw[(o1 p i h).1,(o1 p i h).2] at hj
   rw[(o1 p i h).1,d1 d i (by omega)]
   obtain⟨q1,q2,q3⟩:=c.flow p d i h j hj
   rw[d1 d _ (by omega)]
   exact⟨q1,by omega,q3⟩
  ·rw[(o2 p).1,(o2 p).2] at hj
   have e:qoo 19 (p+i+1+m+1) (p+i)=[p+i+1,p+i+1+m+1]:=rfl
   rw[e] at hj
   rw[(o2 p).1,d1 d i (by omega),c.fin,pop19.1,pop19.2.1]
   simp only[Wr,Wt,or_false] at hj
   rcases hj with rfl|rfl
   ·rw[show (p+i+1-p).toNat=i+1+0 by omega,d3 d 0 (by omega),a.beg]
    exact⟨by omega,by omega,by omega⟩
   ·rw[show (p+i+1+m+1-p).toNat=i+1+m+1+0 by omega,d5,b.beg]
    exact⟨by omega,by omega,by omega⟩
  ·rw[(o3 p r hr).1,(o3 p r hr).2,show p+((n+1+r:Nat):Int)=(p+n+1)+r by omega] at hj
   rw[(o3 p r hr).1,d3 d r (by omega)]
   obtain⟨q1,q2,q3⟩:=a.flow (p+n+1) d r hr j hj
   rw[show (j-p).toNat=n+1+(j-(p+n+1)).toNat by omega,d3 d _ (by omega)]
   exact⟨by omega,by omega,q3⟩
  ·rw[(o4 p).1,(o4 p).2] at hj
   have e : ∀ x y,qoo 18 x y=[x]:=fun _ _=>rfl
   rw[e] at hj
   rw[(o4 p).1,d3 d m (by omega),a.fin,pop19.2.2.1,pop19.2.2.2]
   simp only[Wl] at hj
   subst hj
   rw[show (p+n+1+m+1+q-p).toNat=n+1+m+1+q by omega,d5,b.fin]
   exact⟨by omega,by omega,by omega⟩
  ·rw[(o5 p r hr).1,(o5 p r hr).2,show p+((n+1+m+1+r:Nat):Int)=(p+n+1+m+1)+r by omega] at hj
   rw[(o5 p r hr).1,d5]
   obtain⟨q1,q2,q3⟩:=b.flow (p+n+1+m+1) d r hr j hj
   rw[show (j-p).toNat=n+1+m+1+(j-(p+n+1+m+1)).toNat by omega,d5]
   exact⟨by omega,by omega,q3⟩
 ·intro p d i hi h
  rcases pos i hi with h'|rfl|⟨j,hj,rfl⟩|rfl|⟨j,hj,rfl⟩
  ·rw[(o1 p i h').1] at h
   have:=(c.stp p d i h' h).1
   cases this
  ·rw[(o2 p).1] at h; omega
  ·rw[(o3 p j hj).1] at h
   obtain⟨q1,q2⟩:=a.stp _ d j hj h
   rw[d3 d j (by omega)]
   exact⟨by rw[q1]; rfl,q2⟩
  ·rw[(o4 p).1] at h; omega
  ·rw[(o5 p j hj).1] at h
   obtain⟨q1,q2⟩:=b.stp _ d j hj h
   rw[d5]
   exact⟨by rw[q1]; simp,q2⟩
 ·show (if i<=n then DC d i else if i<=n+1+m then DA d (i-n-1) else DB d (i-n-m-2))<=d+h
  split
  ·exact c.hi d i (by omega)
  ·split
   ·exact a.hi d _ (by omega)
   ·exact b.hi d _ (by omega)
theorem qAw{C A:Int->Cd}{n m:Nat}{h:Int}{s:Bool}(hC:SgE C n 1 false h)(hA:SgE A m 0 s h):SgE (whC C A) (n+m+2) 0 s h:=by
 obtain⟨DC,c⟩:=hC
 obtain⟨DA,a⟩:=hA
 have eq : ∀ p,whC C A p=C p++((19,p+n+1+m+1)::(A (p+n+1)++[(18,p)])):=fun p=>by
  simp only[whC,c.ln p,a.ln _]
 have o1 : ∀ p i,i<n->opA (whC C A p) i=opA (C p) i/\nA (whC C A p) i=nA (C p) i:=fun p i h=>by
  rw[eq]; exact qd0 (by rw[c.ln p]; exact h)
 have o2 : ∀ p,opA (whC C A p) n=19/\nA (whC C A p) n=p+n+1+m+1:=fun p=>by
  rw[eq]
  have:=qcm (a:=C p) (b:=(19,p+n+1+m+1)::(A (p+n+1)++[(18,p)])) (i:=n) (by rw[c.ln p]; omega)
  rw[c.ln p,Nat.sub_self] at this
  exact this
 have o3 : ∀ p i,i<m->opA (whC C A p) (n+1+i)=opA (A (p+n+1)) i/\nA (whC C A p) (n+1+i)=nA (A (p+n+1)) i:=fun p i h=>by
  rw[eq]
  have:=qcm (a:=C p++[(19,p+n+1+m+1)]) (b:=A (p+n+1)++[(18,p)]) (i:=n+1+i) (by simp[c.ln p]<;>omega)
  simp only[Wf,Wi,Wc,Wb,c.ln p,We,Wk] at this
  rw[show n+1+i-(n+(0+1))=i by omega] at this
  have l:=qd0 (a:=A (p+n+1)) (b:=[(18,p)]) (i:=i) (by rw[a.ln _]; exact h)
  exact⟨this.1.trans l.1,this.2.trans l.2⟩
 have o4 : ∀ p,opA (whC C A p) (n+1+m)=18/\nA (whC C A p) (n+1+m)=p:=fun p=>by
  rw[eq]
  have:=qcm (a:=C p++((19,p+n+1+m+1)::A (p+n+1))) (b:=[(18,p)]) (i:=n+1+m) (by simp[c.ln p,a.ln _]<;>omega)
  simp only[Wf,Wi,Wb,c.ln p,a.ln _,We] at this
  rw[show n+1+m-(n+(m+1))=0 by omega] at this
  exact this
 let D:Int->Nat->Int:=fun d i=>if i<=n then DC d i else if i<=n+1+m then DA d (i-n-1) else d
 have d1 : ∀ d i,i<=n->D d i=DC d i:=fun d i h=>if_pos h
 have d3 : ∀ d i,i<=m->D d (n+1+i)=DA d i:=fun d i h=>by
  show (if _ then _ else if _ then _ else _)=_
  rw[if_neg (by omega),if_pos (by omega)]; congr 1; omega
 have d5 : ∀ d,D d (n+1+m+1)=d:=fun d=>by
  show (if _ then _ else if _ then _ else _)=_
  rw[if_neg (by omega),if_neg (by omega)]
 have pos : ∀ i,i<n+m+2->i<n\/i=n\/(∃ j,j<m/\i=n+1+j)\/i=n+1+m:=fun i hi=>by
  by_cases h1:i<n
  ·exact .inl h1
  by_cases h2:i=n
  ·exact .inr (.inl h2)
  by_cases h3:i<n+1+m
  ·exact .inr (.inr (.inl ⟨i-n-1,by omega,by omega⟩))
  ·exact .inr (.inr (.inr (by omega)))
 refine⟨D,⟨qsu c.ln a.ln,fun d=>?_,fun d=>?_,?_,?_,?_,?_,fun d i hi=>?_⟩⟩
 ·rw[d1 d 0 (by omega),c.beg]
 ·rw[show n+m+2=n+1+m+1 by omega,d5]; omega
 ·intro p i hi
  rcases pos i hi with h|rfl|⟨j,hj,rfl⟩|rfl
  ·rw[(o1 p i h).1,(o1 p i h).2]; exact qcD (c.ok p i h) (by omega) (by omega)
  ·rw[(o2 p).1,(o2 p).2]; exact⟨by omega,by rw[if_neg (by omega),if_neg (by omega),if_neg (by omega),if_neg (by omega),if_pos (by omega)]; omega⟩
  ·rw[(o3 p j hj).1,(o3 p j hj).2]; exact qcD (a.ok _ j hj) (by omega) (by omega)
  ·rw[(o4 p).1,(o4 p).2]; exact⟨by omega,by rw[if_neg (by omega),if_neg (by omega),if_neg (by omega),if_neg (by omega),if_pos (by omega)]; omega⟩
 ·intro p d i hi
  rcases pos i hi with h|rfl|⟨j,hj,rfl⟩|rfl
  ·rw[(o1 p i h).1,d1 d i (by omega)]; exact c.pop p d i h
  ·rw[(o2 p).1,d1 d i (by omega),c.fin,pop19.1]; omega
  ·rw[(o3 p j hj).1,d3 d j (by omega)]; exact a.pop _ d j hj
  ·rw[(o4 p).1,d3 d m (by omega),a.fin,pop19.2.2.1]; omega
 ·intro p d i hi j hj
  rcases pos i hi with h|rfl|⟨r,hr,rfl⟩|rfl
  ·rw[(o1 p i h).1,(o1 p i h).2] at hj
   rw[(o1 p i h).1,d1 d i (by omega)]
   obtain⟨q1,q2,q3⟩:=c.flow p d i h j hj
   rw[d1 d _ (by omega)]
   exact⟨q1,by omega,q3⟩
  ·rw[(o2 p).1,(o2 p).2] at hj
   have e:qoo 19 (p+i+1+m+1) (p+i)=[p+i+1,p+i+1+m+1]:=rfl
   rw[e] at hj
   rw[(o2 p).1,d1 d i (by omega),c.fin,pop19.1,pop19.2.1]
   simp only[Wr,Wt,or_false] at hj
   rcases hj with rfl|rfl
   ·rw[show (p+i+1-p).toNat=i+1+0 by omega,d3 d 0 (by omega),a.beg]
    exact⟨by omega,by omega,by omega⟩
   ·rw[show (p+i+1+m+1-p).toNat=i+1+m+1 by omega,d5]
    exact⟨by omega,by omega,by omega⟩
  ·rw[(o3 p r hr).1,(o3 p r hr).2,show p+((n+1+r:Nat):Int)=(p+n+1)+r by omega] at hj
   rw[(o3 p r hr).1,d3 d r (by omega)]
   obtain⟨q1,q2,q3⟩:=a.flow (p+n+1) d r hr j hj
   rw[show (j-p).toNat=n+1+(j-(p+n+1)).toNat by omega,d3 d _ (by omega)]
   exact⟨by omega,by omega,q3⟩
  ·rw[(o4 p).1,(o4 p).2] at hj
   have e : ∀ x y,qoo 18 x y=[x]:=fun _ _=>rfl
   rw[e] at hj
   rw[(o4 p).1,d3 d m (by omega),a.fin,pop19.2.2.1,pop19.2.2.2]
   simp only[Wl] at hj
   subst hj
   rw[show (j-j).toNat=0 by omega,d1 d 0 (by omega),c.beg]
   exact⟨by omega,by omega,by omega⟩
 ·intro p d i hi h
  rcases pos i hi with h'|rfl|⟨j,hj,rfl⟩|rfl
  ·rw[(o1 p i h').1] at h
   have:=(c.stp p d i h' h).1
   cases this
  ·rw[(o2 p).1] at h; omega
  ·rw[(o3 p j hj).1] at h
   obtain⟨q1,q2⟩:=a.stp _ d j hj h
   rw[d3 d j (by omega)]
   exact⟨q1,q2⟩
  ·rw[(o4 p).1] at h; omega
 ·have h0:=c.hi d 0 (by omega)
  rw[c.beg] at h0
  show (if i<=n then DC d i else if i<=n+1+m then DA d (i-n-1) else d)<=d+h
  split
  ·exact c.hi d i (by omega)
  ·split
   ·exact a.hi d _ (by omega)
   ·exact h0
def E.inV(vs:List ByteArray):E->Prop
 |.var s=>s∈vs
 |.field _ _ e=>e.inV vs
 |.un _ _ e=>e.inV vs
 |.bin _ _ a b=>a.inV vs/\b.inV vs
 |_=>True
def Ss.inV(vs:List ByteArray):Ss->Prop
 |.nil=>True
 |.assign _ s e r=>(s∈vs/\e.inV vs)/\r.inV vs
 |.store _ _ a b r=>(a.inV vs/\b.inV vs)/\r.inV vs
 |.effect _ a b r=>(a.inV vs/\b.inV vs)/\r.inV vs
 |.stop r=>r.inV vs
 |.cond _ _ c b r=>c.inV vs/\b.inV vs/\r.inV vs
 |.block _ b r=>b.inV vs/\r.inV vs
theorem ql8{vs:List ByteArray}{s:ByteArray}(h:s∈vs):0<=ixI vs s/\ixI vs s<vs.length:=by
 induction vs with
 |nil=>cases h
 |cons x l ih=>
  simp only[ixI,We]
  split
  ·omega
  ·rename_i hx
   have:=ih ((Wr.1 h).resolve_left fun e=>hx e.symm)
   rw[if_neg (by omega)]
   omega
theorem qla{s:ByteArray}(h:s∈qfZ):0<=fieldI s/\fieldI s<=5:=by
 simp only[qfZ,Wr,Wt,or_false] at h
 rcases h with rfl|rfl|rfl|rfl|rfl|rfl<;>decide
theorem qlb{s:ByteArray}(h:s∈qdT):0<=fieldI s/\fieldI s<=7:=by
 simp only[qdT,qfZ,Wi,Wc,Wr,Wt,or_false] at h
 rcases h with rfl|rfl|rfl|rfl|rfl|rfl|rfl|rfl<;>decide
theorem qpG(s:ByteArray):nameI s=6\/nameI s=7\/nameI s=8:=by unfold nameI; split<;>(try split)<;>simp
def E.hh:E->Int
 |.field _ _ e=>e.hh
 |.un _ _ e=>e.hh
 |.bin _ _ a b=>max a.hh b.hh+1
 |_=>1
theorem E.hh_pos(e:E):1<=e.hh:=by induction e<;>simp only[E.hh]<;>omega
def Ss.hh:Ss->Int
 |.nil=>0
 |.assign _ _ e r=>max e.hh r.hh
 |.store _ _ a b r=>max (max a.hh (b.hh+1)) r.hh
 |.effect _ a b r=>max (max a.hh (b.hh+1)) r.hh
 |.stop r=>r.hh
 |.cond _ _ c b r=>max (max c.hh b.hh) r.hh
 |.block _ b r=>max b.hh r.hh
section
variable{vs:List ByteArray}(hv:vs.length<=16)
theorem qoa{op:Int}(h:6<=op/\op<=21/\op≠18/\op≠19)(lo hi:Int):vOp op 0 lo hi:=
 ⟨by omega,by rw[if_neg (by omega),if_neg (by omega),if_neg (by omega),if_neg (by omega),if_neg (by omega)]⟩
theorem qr8{A B:Int->Cd}{n m:Nat}{op h:Int}(hA:SgE A n 1 false h)(hB:SgE B m 1 false h)(ho:6<=op/\op<=21/\op≠18/\op≠19/\op≠21)(h2:qeU op=2)(h1:qdF op=1)(h0:0<=h):SgE (snC (sq A B) (op,0)) (n+m+1) 1 false (h+1):=
 qmn (qkm (h:=h+1) hA hB (by omega) (fun h=>by cases h) (by omega) (by omega)) rfl (by omega) ⟨by omega,by omega,by omega⟩ (qoa ⟨by omega,by omega,by omega,by omega⟩ 0 0) (by omega) (by omega) (by omega) (by omega)
theorem qxZ{o:Bop}{A B:Int->Cd}{n m:Nat}{h:Int}(h0:0<=h)(hA:SgE A n 1 false h)(hB:SgE B m 1 false h) : ∃ k,SgE (binC o A B) k 1 false (h+1):=by
 cases o
 case and=>exact⟨_,qvc (hA.mono (by omega)) (hB.mono (by omega)) ((qju (by omega) ⟨by omega,by decide⟩ (by decide) (by decide)).mono (by omega)) (by omega)⟩
 case or=>exact⟨_,qvc (hA.mono (by omega)) ((qju (by omega) ⟨by omega,by decide⟩ (by decide) (by decide)).mono (by omega)) (hB.mono (by omega)) (by omega)⟩
 case gt=>exact⟨_,qr8 hB hA (by omega) (by decide) (by decide) h0⟩
 case ge=>exact⟨_,qr8 hB hA (by omega) (by decide) (by decide) h0⟩
 case ne=>exact⟨_,qmn (qr8 hA hB (op:=16) (by omega) (by decide) (by decide) h0) rfl (by omega) (by omega) (qoa (by omega) 0 0) (by decide) (by decide) (by omega) (by omega)⟩
 all_goals exact⟨_,qr8 hA hB (by decide) (by decide) (by decide) h0⟩
theorem qx0{A:Int->Cd}{n:Nat}{op x h:Int}(hA:SgE A n 2 false h)(hv:vOp op x 0 0)(ho:op≠18/\op≠19/\op≠21)(h2:qeU op=2)(h1:qdF op=0)(h0:0<=h):SgE (snC A (op,x)) (n+1) 0 false h:=
 qmn hA rfl (by omega) ho hv (by omega) (by omega) (by omega) h0
include hv
theorem qoV : ∀ e:E,e.fine->e.inV vs -> ∃ n,SgE (qcR vs e) n 1 false e.hh
 |.int n,h,_=>⟨1,qju (by omega) ⟨by omega,by rw[if_pos rfl]; have:=h; simp only[E.fine] at this; omega⟩ (by decide) (by decide)⟩
 |.bool n,h,_=>⟨1,qju (by omega) ⟨by omega,by rw[if_pos rfl]; have:=h; simp only[E.fine] at this; omega⟩ (by decide) (by decide)⟩
 |.var s,_,h=>⟨1,qju (by omega) ⟨by omega,by rw[if_neg (by omega),if_pos (by omega)]; have:=ql8 h; omega⟩ (by decide) (by decide)⟩
 |.name s,_,_=>by
  rcases qpG s with e|e|e<;>exact⟨1,by rw[qcR,e]; exact qju (by omega) (qoa (by omega) 0 0) (by decide) (by decide)⟩
 |.field _ s e,h,g=>let ⟨_,k⟩:=qoV e h.2.1 g; ⟨_,qmn k rfl (by omega) (by omega) ⟨by omega,by rw[if_neg (by omega),if_neg (by omega),if_pos rfl]; exact qlb h.1⟩ (by decide) (by decide) (Int.le_refl _) e.hh_pos⟩
 |.un _ true e,h,g=>let ⟨_,k⟩:=qoV e h.1 g; ⟨_,qmn k rfl (by omega) (by decide) (qoa (by decide) 0 0) (by decide) (by decide) (Int.le_refl _) e.hh_pos⟩
 |.un _ false e,h,g=>let ⟨_,k⟩:=qoV e h.1 g; ⟨_,qmn k rfl (by omega) (by decide) (qoa (by decide) 0 0) (by decide) (by decide) (Int.le_refl _) e.hh_pos⟩
 |.bin _ o a b,h,g=>let ⟨_,k⟩:=qoV a h.1 g.1; let ⟨_,k'⟩:=qoV b h.2.1 g.2; qxZ (by have:=a.hh_pos; omega) (k.mono (Int.le_max_left ..)) (k'.mono (Int.le_max_right ..))
theorem qCn{q:Int}(q0:0<=q)(b:Ss)(hf:b.fine)(hi:b.inV vs)(he:b.hh<=q) : ∃ n s,SgE (codeS vs b) n 0 s q:=by
 fun_induction codeS vs b with
 |case1=>exact⟨_,_,qtT q0⟩
 |case2 _ s e r ih=>
  simp only[Ss.hh] at he
  obtain⟨n,h⟩:=qoV hv e hf.1.2.1 hi.1.2
  obtain⟨m,t,g⟩:=ih hf.2 hi.2 (by omega)
  exact⟨_,_,qkm (k:=0) (qmn h rfl (by omega) (by omega) ⟨by omega,by rw[if_neg (by omega),if_pos (by omega)]; have:=ql8 hi.1.1; omega⟩ (by decide) (by decide) (show _<=q by omega) q0) g (by omega) (fun _=>rfl) (Int.le_refl _) (by omega)⟩
 |case3 _ s a b r ih=>
  simp only[Ss.hh] at he
  obtain⟨n,h⟩:=qoV hv a hf.1.2.1 hi.1.1
  obtain⟨n',h'⟩:=qoV hv b hf.1.2.2.2.1 hi.1.2
  obtain⟨m,t,g⟩:=ih hf.2 hi.2 (by omega)
  exact⟨_,_,qkm (k:=0) (qx0 (qkm (h:=q) h h' (by omega) (fun h=>by cases h) (by omega) (by omega)) ⟨by omega,by rw[if_neg (by omega),if_neg (by omega),if_neg (by omega),if_pos rfl]; exact qla hf.1.1⟩ (by omega) (by decide) (by decide) q0) g (by omega) (fun _=>rfl) (Int.le_refl _) (by omega)⟩
 |case4 _ a b r ih=>
  simp only[Ss.hh] at he
  obtain⟨n,h⟩:=qoV hv a hf.1.1 hi.1.1
  obtain⟨n',h'⟩:=qoV hv b hf.1.2.2.1 hi.1.2
  obtain⟨m,t,g⟩:=ih hf.2 hi.2 (by omega)
  exact⟨_,_,qkm (k:=0) (qx0 (qkm (h:=q) h h' (by omega) (fun h=>by cases h) (by omega) (by omega)) (qoa (by omega) 0 0) (by omega) (by decide) (by decide) q0) g (by omega) (fun _=>rfl) (Int.le_refl _) (by omega)⟩
 |case5 r ih=>
  simp only[Ss.hh] at he
  obtain⟨m,t,g⟩:=ih hf hi he
  exact⟨_,_,qkm (qvX q0) g (by omega) (fun _=>rfl) (Int.le_refl _) (by omega)⟩
 |case6 _ c _ x _ y r ih1 ih2 ih3=>
  simp only[Ss.hh] at he
  obtain⟨n,h⟩:=qoV hv c hf.1.1 hi.1
  obtain⟨m1,t1,g1⟩:=ih1 hf.2.1 hi.2.1.1 (by omega)
  obtain⟨m2,t2,g2⟩:=ih2 hf.2.2.1 hi.2.1.2.1 (by omega)
  obtain⟨m3,t3,g3⟩:=ih3 hf.2.2.2 hi.2.2 (by omega)
  exact⟨_,_,qkm (qvc (h.mono (by omega)) g1 g2 (by omega)) g3 (by omega) (fun _=>rfl) (Int.le_refl _) (by omega)⟩
 |case7 _ c _ x r ih1 ih2=>
  simp only[Ss.hh] at he
  obtain⟨n,h⟩:=qoV hv c hf.1.1 hi.1
  obtain⟨m1,t1,g1⟩:=ih1 hf.2.1 hi.2.1.1 (by omega)
  obtain⟨m2,t2,g2⟩:=ih2 hf.2.2 hi.2.2 (by omega)
  exact⟨_,_,qkm (qAw (h.mono (by omega)) g1) g2 (by omega) (fun _=>rfl) (Int.le_refl _) (by omega)⟩
 |case8=>exact⟨_,_,qtT q0⟩
end
end
end Go.Pm
section
namespace Go.Pm.Gr
theorem qm1 {c:Cd} {e i:Nat} : ∀ (l pre:List Int) (a:An) (d:Int),Inv c e (some i) pre a->d=aft c i (gD a.ds i-1)->(∀ j∈l,j∈qgC c i/\0<=j/\j<=c.length) ->
  Inv c e (some i) (pre++l) (l.foldl (one c.length d) a)/\gD (l.foldl (one c.length d) a).ds i=gD a.ds i
 |[],pre,a,d,h,_,_=>by simpa using h
 |j::l,pre,a,d,h,hd,hl=>by
  obtain⟨h1,h2⟩:=quN h (hl j (by simp)).1 (hl j (by simp)).2
  rw[<- hd] at h1 h2
  have:=qm1 l (pre++[j]) (one c.length d a j) d h1 (by rw[h2]; exact hd) (fun x hx=>hl x (by simp[hx]))
  rw[h2] at this
  simpa using this
theorem qu9{c:Cd}{e i:Nat}{r:List Nat}{a:An}(hf:qwX c)(h:Inv c e none [] a)(ho:a.op=r++[i]):Inv c e none [] (stp c a i r):=by
 have hnd:=h.nodup
 rw[ho,List.nodup_append] at hnd
 have hir:i∉r:=fun hh=>hnd.2.2 i hh i (by simp) rfl
 have hio:i∈a.op:=by rw[ho]; simp
 obtain⟨hil,hi0⟩:=h.opn i hio
 obtain⟨hp1,hp2⟩:=h.pos i hil hi0
 have back : ∀ k,k∉r->k=i\/k∉a.op:=fun k hk=>by
  by_cases hki:k=i
  ·exact .inl hki
  ·right; rw[ho]; simp[hk,hki]
 have h0:Inv c e (some i) [] { a with breaks:=a.breaks||decide (gD a.ds i-1<qeU (opA c i)),depth:=max a.depth (aft c i (gD a.ds i-1)),op:=r }:=by
  refine⟨h.len,hnd.1,fun k hk=>h.opn k (by rw[ho]; simp[hk]),h.pos,h.ent,fun k hk=>?_,fun k k1 k2 k3 x hx=>?_,h.fal,fun hb k k1 k2 k3=>?_,fun D hD=>?_,⟨?_,fun k k1 k2 k3=>?_⟩,?_⟩
  ·have:i=k:=WY hk
   subst this
   exact⟨hil,hi0,hir⟩
  ·simp only at k2 k3 ⊢
   by_cases hk:some i=some k
   ·rw[if_pos hk] at hx; simp at hx
   ·rw[if_neg hk] at hx
    rcases back k k3 with hki|hko
    ·exact absurd (by rw[hki]) hk
    ·have:=h.done k k1 k2 hko
     simp only[reduceCtorEq,if_false] at this
     exact this x hx
  ·simp only[W8,decide_eq_false_iff_not] at hb
   simp only at k2 k3 ⊢
   by_cases hk:some i=some k
   ·have:i=k:=WY hk
    subst this
    exact⟨by omega,fun x hx=>by rw[if_pos hk] at hx; simp at hx⟩
   ·rw[if_neg hk]
    rcases back k k3 with hki|hko
    ·exact absurd (by rw[hki]) hk
    ·have:=h.brk hb.1 k k1 k2 hko
     simp only[reduceCtorEq,if_false] at this
     exact this
  ·obtain⟨c1,c2⟩:=h.cf D hD
   refine⟨?_,c2⟩
   have:=hD.pops i hp2
   have:=c2 i hil hi0
   simp only[c1,YK,decide_eq_false_iff_not]
   omega
  ·have:=h.dle.1
   simp only
   omega
  ·simp only at k2 k3 ⊢
   rcases back k k3 with hki|hko
   ·rw[hki]; omega
   ·have:=h.dle.2 k k1 k2 hko; omega
  ·simp only
   by_cases hm:aft c i (gD a.ds i-1)<=a.depth
   ·rcases h.dat with hd|⟨k,k1,k2,k3,k4⟩
    ·exact .inl (by omega)
    ·exact .inr ⟨k,k1,k2,fun hh=>k3 (by rw[ho]; simp[hh]),by omega⟩
   ·exact .inr ⟨i,hil,hi0,hir,by omega⟩
 have h1:=(qm1 (qgC c i) [] _ (aft c i (gD a.ds i-1)) h0 rfl (fun j hj=>⟨hj,hf i hil j hj⟩)).1
 rw[Wc] at h1
 unfold stp
 refine⟨h1.len,h1.nodup,h1.opn,h1.pos,h1.ent,fun k hk=>(by cases hk),fun k k1 k2 k3 x hx=>?_,h1.fal,fun hb k k1 k2 k3=>?_,h1.cf,h1.dle,h1.dat⟩
 ·have:=h1.done k k1 k2 k3
  simp only[reduceCtorEq,if_false] at hx
  by_cases hk:some i=some k
  ·rw[if_pos hk] at this
   exact this x (by rw[WY hk]; exact hx)
  ·rw[if_neg hk] at this
   exact this x hx
 ·have:=h1.brk hb k k1 k2 k3
  simp only[reduceCtorEq,if_false]
  by_cases hk:some i=some k
  ·have hik:i=k:=WY hk
   subst hik
   rw[if_pos rfl] at this
   exact this
  ·rw[if_neg hk] at this
   exact this
def an0(c:Cd)(e:Nat):An:=⟨false,false,0,(List.replicate c.length 0).set e 1,[e]⟩
theorem qpE(n i:Nat):gD (List.replicate n 0) i=0:=by
 simp only[gD,Wn,List.getElem?_replicate]
 split<;>rfl
theorem qva{c:Cd}{e:Nat}(he:e<c.length):Inv c e none [] (an0 c e):=by
 have hse:gD ((List.replicate c.length 0).set e 1) e=1:=qgf (by simpa using he)
 have hne : ∀ i,gD ((List.replicate c.length 0).set e 1) i≠0->i=e:=fun i hi=>by
  by_cases h:e=i
  ·exact h.symm
  ·rw[qgg h,qpE] at hi; exact absurd rfl hi
 unfold an0
 refine⟨by simp,by simp,fun i hi=>?_,fun i _ hi=>?_,hse,fun i hi=>(by cases hi),fun i _ h2 h3=>?_,fun h=>(by simp at h),fun _ i _ h2 h3=>?_,fun D hD=>⟨rfl,fun i _ h2=>?_⟩,⟨by simp,fun i _ h2 h3=>?_⟩,.inl rfl⟩
 ·simp only[Wl] at hi
  rw[hi]; exact⟨he,by rw[hse]; omega⟩
 ·rw[hne i hi,hse]; exact⟨by omega,Reach.here⟩
 ·exact absurd (by simp[hne i h2]) h3
 ·exact absurd (by simp[hne i h2]) h3
 ·rw[hne i h2,hse,hD.zero]; rfl
 ·exact absurd (by simp[hne i h2]) h3
theorem qvb {c:Cd} {e:Nat} {a:An} (he:e<c.length) (h:Inv c e none [] a) (ho:a.op=[]) :
  (a.falls=true↔quM c e)/\(a.breaks=false ↔ ∃ D,CF c e D) /\ ∀ D,CF c e D->Most c e D a.depth:=by
 have hno : ∀ i,i∉a.op:=fun i=>by rw[ho]; simp
 have hall : ∀ i,Reach c e i->gD a.ds i≠0:=fun i hi=>by
  induction hi with
  |here=>rw[h.ent]; omega
  |go hi hl hj hjl ih=>
   have:=h.done _ hl ih (hno _)
   simp only[reduceCtorEq,if_false] at this
   have:=(this _ hj).2 (by omega)
   simpa using this
 refine⟨⟨h.fal,fun ⟨i,hi,hj⟩=>?_⟩,⟨fun hb=>⟨fun i=>gD a.ds i-1,?_,fun i hi=>?_,fun i hi j hj hjl=>?_⟩,fun ⟨D,hD⟩=>(h.cf D hD).1⟩,fun D hD=>⟨h.dle.1,fun i hi=>?_,?_⟩⟩
 ·have:=h.done i (hi.lt he) (hall i hi) (hno i)
  simp only[reduceCtorEq,if_false] at this
  exact (this _ hj).1 rfl
 ·rw[h.ent]; rfl
 ·exact (h.brk hb i (hi.lt he) (hall i hi) (hno i)).1
 ·have:=(h.brk hb i (hi.lt he) (hall i hi) (hno i)).2
  simp only[reduceCtorEq,if_false] at this
  have:=this _ hj (by omega)
  simp only[Int.toNat_natCast] at this
  omega
 ·have h2:=(h.cf D hD).2 i (hi.lt he) (hall i hi)
  have:=h.dle.2 i (hi.lt he) (hall i hi) (hno i)
  rw[h2,show D i+1-1=D i by omega] at this
  exact this
 ·rcases h.dat with h0|⟨i,h1,h2,_,h4⟩
  ·exact .inl h0
  ·refine .inr ⟨i,(h.pos i h1 h2).2,?_⟩
   rw[h4,(h.cf D hD).2 i h1 h2,show D i+1-1=D i by omega]
def mu(a:An):Nat:=2*a.ds.count 0+a.op.length
theorem count_set{l:List Int}{i:Nat}{v:Int}(hi:i<l.length)(h0:gD l i=0)(hv:v≠0):(l.set i v).count 0+1=l.count 0:=by
 have hx:l[i]=0:=by simpa [gD,Wn,hi] using h0
 rw[List.count_set hi]
 have hp:0<l.count 0:=List.count_pos_iff.2 (by rw[<- hx]; exact WR hi)
 simp[hx,hv]
 omega
theorem qxX{n:Nat}{d:Int}{a:An}{j:Int}(hl:a.ds.length=n)(hj:0<=j/\j<=n):mu (one n d a j)<=mu a/\(one n d a j).ds.length=n:=by
 unfold one
 by_cases hn:j=n
 ·rw[if_pos hn]; exact⟨Wj _,hl⟩
 ·rw[if_neg hn]
  by_cases h0:gD a.ds j.toNat=0
  ·rw[if_pos h0]
   refine⟨?_,by simp[hl]⟩
   have:=count_set (v:=max d 0+1) (by omega) h0 (by omega)
   unfold mu
   simp only[Wb,Ws]
   omega
  ·rw[if_neg h0]
   split<;>exact⟨Wj _,hl⟩
theorem qpF{n:Nat}{d:Int} : ∀ (l:List Int) (a:An),a.ds.length=n->(∀ j∈l,0<=j/\j<=n)->mu (l.foldl (one n d) a)<=mu a
 |[],a,_,_=>Wj _
 |j::l,a,hl,hj=>by
  obtain⟨h1,h2⟩:=qxX (d:=d) hl (hj j (by simp))
  exact Yd (qpF l _ h2 (fun x hx=>hj x (by simp[hx]))) h1
theorem qxY{c:Cd}{i:Nat}{r:List Nat}{a:An}(hf:qwX c)(hl:a.ds.length=c.length)(hi:i<c.length)(ho:a.op=r++[i]):mu (stp c a i r)<mu a:=by
 unfold stp
 refine Wu (qpF _ _ (by simpa using hl) (hf i hi)) ?_
 simp only[mu,ho,Wb,Ws]
 omega
end Go.Pm.Gr
end
section
namespace Go.Pm.Gr
structure Rs where
 out:List Int
 ok:Bool
 ch:Bool
structure RI(c:Cd)(e:Nat)(s:Rs):Prop where
 len:s.out.length=c.length
 ent:gD s.out e=0
 rch : ∀ i,i<c.length->0<=gD s.out i->Reach c e i
 cf : ∀ D,CF c e D->s.ok=true /\ ∀ i,i<c.length->0<=gD s.out i->gD s.out i=D i
end Go.Pm.Gr
end
section
namespace Go.Pm.Gr
structure AnaRes(c:Cd)(e:Nat)(fl br:Bool)(dp:Int):Prop where
 fal:fl=true↔quM c e
 brk:br=false ↔ ∃ D,CF c e D
 most : ∀ D,CF c e D->Most c e D dp
structure RefRes(c:Cd)(e:Nat)(out:List Int)(ok:Bool):Prop where
 len:out.length=c.length
 rch : ∀ i,i<c.length->(0<=gD out i↔Reach c e i)
 ok_:ok=true ↔ ∃ D,CF c e D
 val : ∀ D,CF c e D -> ∀ i,Reach c e i->gD out i=D i
end Go.Pm.Gr
end
namespace Go.Pm
section
open F Gr
def icC(c:Cd):List D:=c.flatMap fun x=>[.lit (.int .i64 x.1),.lit (.int .i64 x.2)]
@[simp] theorem qfu(c:Cd):(icC c).length=c.length*2:=by
 induction c with
 |nil=>rfl
 |cons x c ih=>simp only[icC,List.flatMap_cons,Wb,We,Wk] at ih ⊢; omega
theorem qjr(a b:Cd):icC (a++b)=icC a++icC b:=by simp[icC]
theorem qnh(c:Cd)(i:Nat):(icC c).drop (i*2)=icC (c.drop i):=by
 induction i generalizing c with
 |zero=>simp
 |succ i ih=>
  cases c with
  |nil=>simp[icC]
  |cons x c=>
   rw[show (i+1)*2=i*2+2 by omega]
   simp only[icC,List.flatMap_cons,Wi,Wc,YE] at ih ⊢
   exact ih c
theorem qsp(c:Cd)(i:Nat)(h:i<c.length):qah (icC c) (i*2) 2=some [.lit (.int .i64 (opA c i)),.lit (.int .i64 (nA c i))]:=by
 unfold qah
 rw[qnh,WF h]
 have e:icC (c[i]::c.drop (i+1)) = .lit (.int .i64 c[i].1) :: .lit (.int .i64 c[i].2)::icC (c.drop (i+1)):=rfl
 have e1:opA c i=c[i].1:=by simp[opA,Wn,h]
 have e2:nA c i=c[i].2:=by simp[nA,Wn,h]
 rw[e,e1,e2]
 rfl
theorem qsq(c:Cd)(i:Nat)(h:i<c.length):qah (icC c) (i*2) 1=some [.lit (.int .i64 (opA c i))]:=by
 unfold qah
 rw[qnh,WF h]
 have e:icC (c[i]::c.drop (i+1)) = .lit (.int .i64 c[i].1) :: .lit (.int .i64 c[i].2)::icC (c.drop (i+1)):=rfl
 have e1:opA c i=c[i].1:=by simp[opA,Wn,h]
 rw[e,e1]
 rfl
structure IsCode(d:D)(c:Cd):Prop where
 len : ∀ σ,V.len σ .sl (.dat d)=some c.length
 at_ : ∀ i:Int,0<=i->i<c.length->qae 2 (.dat d) i=some (.dat (.imm (icC c) (i.toNat*2)))
 one:V.one (.dat d)=true
 cells:V.cells (.dat d)=[.dat d]
theorem qlm(c:Cd)(f:Bool):IsCode (.sl (icC c) c.length f) c where
 len:=fun _=>rfl
 at_:=fun i h0 h1=>by simp[qae,h0,h1]
 one:=rfl
 cells:=rfl
theorem qol:IsCode (.lit (.slice none 0 0)) [] where
 len:=fun _=>rfl
 at_:=fun i h0 h1=>by simp at h1; omega
 one:=rfl
 cells:=rfl
def pgD(d:D)(e0 e1 e2:Int):V := .dat (.agg [d,.lit (.int .i64 e0),.lit (.int .i64 e1),.lit (.int .i64 e2)])
def qvz(c:Cd)(i:Nat):D:=if opA c i=21 then .lit (.slice none 0 0) else .sl (qal (qgC c i)) (qgC c i).length true
theorem qsr(c:Cd)(i:Nat):IsRow (qvz c i) (qgC c i):=by
 unfold qvz
 by_cases h:opA c i=21
 ·rw[if_pos h]
  have:qgC c i=[]:=by unfold qgC; rw[if_pos h]
  rw[this]
  exact qln none
 ·rw[if_neg h]; exact qnj _ true
section
variable{d:D}{c:Cd}{e0 e1 e2:Int}{i:Nat}
theorem qyk(hd:IsCode d c)(hi:i<c.length)(hi2:i<2^40):Z qaf (.call 164 [pgD d e0 e1 e2,.int i] [])=some (.ret (.dat (qvz c i)) []):=by
 have h1:=hd.at_ i (by omega) (by omega)
 rw[show ((i:Int)).toNat=i by omega] at h1
 have h2:=qsp c i hi
 have w1:=qag ((i:Int)+1) (by omega)
 have ho:=hd.one
 have hc:=hd.cells
 refine qab (pf:=F164) rfl rfl ?_
 unfold qvz qgC
 generalize opA c i=op at *
 generalize nA c i=n at *
 by_cases k1:op=21
 ·simp[F164,pgD,Wa,h1,h2,k1,ho,hc]
 ·by_cases k2:op=18
  ·simp[F164,pgD,Wa,h1,h2,k1,k2,ho,hc,qal]
  ·by_cases k3:op=19
   ·simp[F164,pgD,Wa,h1,h2,k1,k2,k3,w1,ho,hc,qal]
   ·simp[F164,pgD,Wa,h1,h2,k1,k2,k3,w1,ho,hc,qal]
end
def aS(d:D)(e0 e1 e2:Int)(a:An):S:=
 [.cells [.dat d,.int e0,.int e1,.int e2],.cells [.bool false,.bool false,.int 0],.cells [.bool a.falls,.bool a.breaks,.int a.depth],.cells (qba a.ds),.vec (qba (a.op.map fun (i:Nat)=>(i:Int)))]
def bFr(n m:Nat)(dp:Int)(r:D)(len k:Nat):Fr:=[(2,.ptr 0 0),(4,.ptr 1 0),(5,.ptr 2 0),(6,.msl 3 0 n n 1),(7,.own 4 m 1),(10,.int dp),(68,.dat r),(69,.int len),(70,.int k)]
def aFr(n m:Nat):Fr:=[(2,.ptr 0 0),(4,.ptr 1 0),(5,.ptr 2 0),(6,.msl 3 0 n n 1),(7,.own 4 m 1)]
section
variable{d:D}{c:Cd}{e0 e1 e2:Int}{a:An}{r:D}{l:List Int}{k:Nat}{dp:Int}
theorem qvA (hd:IsCode d c) (hr:IsRow r l) (hk:k<l.length) (hk2:k<100) (hl:a.ds.length=c.length) (hcl:c.length<2^30) (hol:a.op.length<2^30) (hj:0<=l[k]/\l[k]<=c.length) (hdp : -10<=dp/\dp<2^40):
  Z qaf (.loop 0 F139l1 (bFr c.length a.op.length dp r l.length k) (aS d e0 e1 e2 a))=Z qaf (.loop 0 F139l1 (bFr c.length (Gr.one c.length dp a l[k]).op.length dp r l.length (k+1)) (aS d e0 e1 e2 (Gr.one c.length dp a l[k]))):=by
 have h1:=hr.at_ k (by omega) (by omega)
 rw[show ((k:Int)).toNat=k by omega] at h1
 have h2:=qaJ l k hk
 have h2':getN l k=l[k]:=by simp[getN,Wn,hk]
 rw[h2'] at h2
 have hk':(k:Int)<l.length:=by omega
 have w1:=qag ((k:Int)+1) (by omega)
 have w2:=qag (dp+1) (by omega)
 have hlen:=hd.len
 have ho:=hd.one
 have hc:=hd.cells
 unfold Gr.one
 generalize l[k]=j at *
 obtain⟨fl,br,depth,ds,op⟩:=a
 simp only at hl hol ⊢
 have S1 : ∀ (x:D),x=x:=fun _=>rfl
 by_cases hn:j=c.length
 ·subst hn
  rw[qac]
  simp[qad,qds,bFr,aS,Wa,hlen,h1,h2,hk',w1,ho,hc]
 ·rw[if_neg hn]
  have hm:qae 1 (.msl 3 0 c.length c.length 1) j=some (.ptr 3 j.toNat):=by
   have a1:0<=j:=hj.1
   have a2:j<c.length:=by omega
   simp[qae,a1,a2]
  have hu:=qkj (cs:=ds) j (gD ds j.toNat) hj.1 (by omega) rfl
  have hjn:(j.toNat:Int)=j:=by omega
  have hse : ∀ v,(qba ds).take j.toNat++(V.int v::(qba ds).drop (j.toNat+1))=qba (ds.set j.toNat v):=fun v=>qaO ds j.toNat v (by omega)
  have hjl:j.toNat+1<=ds.length:=by omega
  by_cases h0:gD ds j.toNat=0
  ·rw[if_pos h0]
   have hr8:qay (op.length+1) 8=true:=by simp[qay]; omega
   have hap:qba (op.map fun (i:Nat)=>(i:Int))++[V.int j]=qba ((op++[j.toNat]).map fun (i:Nat)=>(i:Int)):=by simp[qba,hjn]
   have wone:IntKind.i64.wrap 1=1:=rfl
   have hmj:max j 0=j:=by omega
   have hap2 : ∀ X,qba X++[V.int j]=qba (X++[j]):=fun X=>by simp[qba]
   by_cases hneg:dp<0
   ·have hmx:max dp 0+1=1:=by omega
    rw[hmx,qac]
    simp[qad,qds,bFr,aS,Wa,hlen,h1,h2,hk',w1,ho,hc,hn,hm,hu,h0,hse,hjl,hr8,qje,qoS,wone,hmj,hap2,hneg]
    refine qam ?_
    simp[Wa,ho,hc]
   ·have hmx:max dp 0=dp:=by omega
    rw[hmx,qac]
    simp[qad,qds,bFr,aS,Wa,hlen,h1,h2,hk',w1,ho,hc,hn,hm,hu,h0,hse,hjl,hr8,qje,qoS,wone,hmj,hap2,hneg,w2]
    refine qam ?_
    simp[Wa,ho,hc]
  ·rw[if_neg h0]
   by_cases h3:gD ds j.toNat=dp+1
   ·have h0' : ¬ dp+1=0:=by omega
    rw[if_neg (by omega),qac]
    simp[qad,qds,bFr,aS,Wa,hlen,h1,h2,hk',w1,w2,ho,hc,hn,hm,hu,h0,h3,h0']
   ·rw[if_pos h3,qac]
    simp[qad,qds,bFr,aS,Wa,hlen,h1,h2,hk',w1,w2,ho,hc,hn,hm,hu,h0,h3]
end
end
section
open F Gr
section
variable{d:D}{c:Cd}{e0 e1 e2:Int}{r:D}{l:List Int}{dp:Int}
theorem qxi(hd:IsCode d c)(a:An):Z qaf (.loop 0 F139l1 (bFr c.length a.op.length dp r l.length l.length) (aS d e0 e1 e2 a))=some (.out (.exit 2) (bFr c.length a.op.length dp r l.length l.length++[(71,.bool false)]) (aS d e0 e1 e2 a)):=by
 have ho:=hd.one
 have hc:=hd.cells
 obtain⟨fl,br,depth,ds,op⟩:=a
 rw[qac]
 simp[qad,qds,bFr,aS,Wa,ho,hc]
theorem qut{n:Nat}{d:Int}{a:An}{j:Int}(hl:a.ds.length=n):(Gr.one n d a j).ds.length=n/\(Gr.one n d a j).op.length<=a.op.length+1:=by
 unfold Gr.one
 split
 ·exact⟨hl,Nat.le_succ _⟩
 ·split
  ·exact⟨by simp[hl],by simp⟩
  ·split<;>exact⟨hl,Nat.le_succ _⟩
theorem quu (hd:IsCode d c) (hr:IsRow r l) (hl2:l.length<50) (hcl:c.length<2^29) (hj : ∀ x∈l,0<=x/\x<=c.length) (hdp : -10<=dp/\dp<2^40) (m:Nat) : ∀ (k:Nat) (a:An),k+m=l.length->a.ds.length=c.length->a.op.length+m<2^30 ->
  Z qaf (.loop 0 F139l1 (bFr c.length a.op.length dp r l.length k) (aS d e0 e1 e2 a))=some (.out (.exit 2) (bFr c.length ((l.drop k).foldl (Gr.one c.length dp) a).op.length dp r l.length l.length++[(71,.bool false)]) (aS d e0 e1 e2 ((l.drop k).foldl (Gr.one c.length dp) a))):=by
 induction m with
 |zero=>
  intro k a hk ha ho
  have:k=l.length:=by omega
  subst this
  rw[List.drop_length]
  exact qxi hd a
 |succ m ih=>
  intro k a hk ha ho
  have hkl:k<l.length:=by omega
  rw[WF hkl,W6]
  obtain⟨q1,q2⟩:=qut (n:=c.length) (d:=dp) (j:=l[k]) ha
  rw[qvA hd hr hkl (by omega) ha (by omega) (by omega) (hj _ (WR hkl)) hdp]
  exact ih (k+1) _ (by omega) q1 (by omega)
end
def F139a:PC:=match F139l0 with | .seq a _=>a|_ => .skip
def F139b:PC:=match F139l0 with | .seq _ b=>b|_ => .skip
theorem F139a_eq:F139a = .seq (.region none [⟨some 22,.mov (.t 7),none,[]⟩,⟨some 23,.len .sl (.t 22),none,[]⟩,⟨some 24,.bin .gtr (.t 23) (.c (.int .i64 0)),none,[]⟩] [2,4,5,6,7,24]) (.cond (.t 24) (.skip) (.exit 0)):=rfl
theorem qrh (d:D) (e0 e1 e2:Int) (a:An) (n m:Nat) (dp:Int) (r:D) (len k:Nat) (b:Bool) :
  Z qaf (.loop 0 F139l0 (bFr n m dp r len k++[(71,.bool b)]) (aS d e0 e1 e2 a))=Z qaf (.loop 0 F139l0 (aFr n m) (aS d e0 e1 e2 a)):=by
 have e:F139l0 = .seq F139a F139b:=rfl
 rw[qac,qac,e]
 simp[qad,F139a_eq,aFr,bFr,aS,Wa,qcb]
theorem qzS : ∀ op:Nat,1<=op->op<=21->qah G_arenanet_compile_effects (op*2) 2=some [.lit (.int .i64 (qeU op)),.lit (.int .i64 (qdF op))]:=by
 intro op h1 h2
 have : ∀ k:_root_.Fin 22,1<=k.val->qah effRows15.flatten (k.val*2) 2=some [qeU k.val,qdF k.val]:=by decide
 have h:=this ⟨op,by omega⟩ h1
 unfold G_arenanet_compile_effects
 unfold qah at h ⊢
 simp only at h ⊢
 rw[<- List.map_drop,<- List.map_take]
 split at h
 ·rename_i hh
  simp only[Wg] at h
  rw[if_pos (by rw[Ye]; exact hh),h]
  rfl
 ·cases h
section
variable{d:D}{c:Cd}{e0 e1 e2:Int}
set_option maxHeartbeats 4000000 in
theorem quv (hd:IsCode d c) (hf:qwX c) (hops : ∀ i,i<c.length->1<=opA c i/\opA c i<=21) (hcl:c.length<2^29) {a:An} {i:Nat} {r:List Nat} (ho:a.op=r++[i]) (hi:i<c.length) (hl:a.ds.length=c.length) (hol:a.op.length<2^29) (hb:1<=gD a.ds i/\gD a.ds i<2^39) :
  Z qaf (.loop 0 F139l0 (aFr c.length a.op.length) (aS d e0 e1 e2 a))=Z qaf (.loop 0 F139l0 (aFr c.length (stp c a i r).op.length) (aS d e0 e1 e2 (stp c a i r))):=by
 have hlen:=hd.len
 have h1:=hd.one
 have h2:=hd.cells
 obtain⟨op,hop⟩ : ∃ op:Nat,(op:Int)=opA c i:=⟨(opA c i).toNat,by have:=hops i hi; omega⟩
 have hopr:1<=op/\op<=21:=by have:=hops i hi; omega
 have heff:=qzS op hopr.1 hopr.2
 have hat:=hd.at_ i (by omega) (by omega)
 rw[show ((i:Int)).toNat=i by omega] at hat
 have hcut:=qsq c i hi
 rw[<- hop] at hcut
 have hsu:=qyk (e0:=e0) (e1:=e1) (e2:=e2) hd hi (by omega)
 have hp:=qmU (opA c i)
 have hq:=qge (opA c i)
 have hslen:(qgC c i).length<50:=by unfold qgC; split<;>(try split)<;>(try split)<;>simp
 have hdp : -10<=aft c i (gD a.ds i-1)/\aft c i (gD a.ds i-1)<2^40:=by unfold aft; omega
 have hrow:=qsr c i
 have hra:(aft c i (gD a.ds i-1))=gD a.ds i-1+(qdF (opA c i)-qeU (opA c i)):=rfl
 have hloop:=quu (e0:=e0) (e1:=e1) (e2:=e2) hd hrow hslen hcl (fun x hx=>hf i hi x hx) hdp (qgC c i).length 0 { a with breaks:=a.breaks||decide (gD a.ds i-1<qeU (opA c i)),depth:=max a.depth (aft c i (gD a.ds i-1)),op:=r } (by omega) hl (by rw[ho] at hol; simp at hol ⊢; omega)
 rw[W5] at hloop
 have hst:stp c a i r=(qgC c i).foldl (Gr.one c.length (aft c i (gD a.ds i-1))) { a with breaks:=a.breaks||decide (gD a.ds i-1<qeU (opA c i)),depth:=max a.depth (aft c i (gD a.ds i-1)),op:=r }:=rfl
 rw[<- hst] at hloop
 have hr2:=hrow.len
 obtain⟨R,hR⟩ : ∃ R,R=stp c a i r:=⟨_,rfl⟩
 rw[<- hR] at hloop ⊢
 clear hst
 obtain⟨dp,hdpe⟩ : ∃ dp,dp=aft c i (gD a.ds i-1):=⟨_,rfl⟩
 rw[<- hdpe] at hloop hra
 obtain⟨fl,br,depth,ds,aop⟩:=a
 simp only at ho hl hol hb hloop hdpe hra hdp
 subst ho
 have hm:qae 1 (.msl 3 0 c.length c.length 1) i=some (.ptr 3 i):=by
  have a2:(i:Int)<c.length:=by omega
  simp[qae,a2]
 have hu:=qbS (cs:=ds) i (gD ds i) (by omega) rfl
 have hown:qae 1 (.own 4 (r.length+1) 1) (r.length:Int)=some (.eptr 4 (r.length+1) r.length):=qdj 4 (r.length+1) r.length (by omega)
 have hou:qah (qba (r.map (fun (i:Nat)=>(i:Int))++[(i:Int)])) r.length 1=some [V.int i]:=qbS r.length _ (by simp) (by simp[getN,Wn])
 have w1:IntKind.i64.wrap (r.length:Int)=r.length:=qag _ (by simp at hol; omega)
 have w2:IntKind.i64.wrap (gD ds i-1)=gD ds i-1:=qag _ (by omega)
 have w3:IntKind.i64.wrap (qdF op-qeU op)=qdF op-qeU op:=by rw[hop]; exact qag _ (by omega)
 have w4:IntKind.i64.wrap (gD ds i-1+(qdF op-qeU op))=dp:=by rw[hop,<- hra]; exact qag _ (by omega)
 rw[<- hop] at hloop
 have bn1:bound (some (V.int r.length)) (r.length+1) (r.length+1)=some r.length:=by simp[bound]; omega
 have bn2 : ∀ h,bound none 0 h=some 0:=fun h=>by simp[bound]
 have tk:(qba (r.map (fun (i:Nat)=>(i:Int))++[(i:Int)])).take r.length=qba (r.map fun (i:Nat)=>(i:Int)):=by
  rw[qp8]; congr 1; rw[List.take_append_of_le_length (by simp),Wx (by simp)]
 have gpos:0<(r.length:Int)+1:=by omega
 have hir:(i:Int)<c.length:=by omega
 have hop22:(op:Int)<22:=by omega
 have hol':r.length+1<2^29:=by simpa using hol
 simp only[pgD] at hsu
 have key : ∀ (BR:Bool) (DM:Int),BR=(br||decide (gD ds i-1<qeU op))->DM=max depth dp ->
   Z qaf (.loop 0 F139l1 [(2,.ptr 0 0),(4,.ptr 1 0),(5,.ptr 2 0),(6,.msl 3 0 c.length c.length 1),(7,.own 5 r.length 1),(10,.int dp),(68,.dat (qvz c i)),(69,.int (qgC c i).length),(70,.int 0)]
    [.cells [.dat d,.int e0,.int e1,.int e2],.cells [.bool false,.bool false,.int 0],.cells [.bool fl,.bool BR,.int DM],.cells (qba ds),.dead,.vec (qba (r.map fun (i:Nat)=>(i:Int))),.cells [.int (qeU op),.int (qdF op)]]) =
   some (.out (.exit 2) (bFr c.length R.op.length dp (qvz c i) (qgC c i).length (qgC c i).length++[(71,.bool false)]) (aS d e0 e1 e2 R)):=fun BR DM e1' e2'=>by
  rw[<- hloop]
  refine qam ?_
  rw[<- e1',<- e2']
  simp[bFr,aS,Wa,h1,h2]
 have fin:=qrh d e0 e1 e2 R c.length R.op.length dp (qvz c i) (qgC c i).length (qgC c i).length false
 by_cases hbr:gD ds i-1<qeU op
 ·by_cases hmx:depth<dp
  ·have hl3:=key true dp (by simp[hbr]) (by omega)
   rw[qac,<- fin]
   simp only[bFr] at hl3 ⊢
   simp[qad,qfl,aFr,aS,pgD,Wa,hlen,h1,h2,hat,hcut,heff,hsu,hm,hu,hown,hou,w1,w2,w3,w4,hbr,hmx,qje,qoS,gpos,hop22,hr2,qcb,bn1,bn2,tk,hl3]
  ·have hl3:=key true depth (by simp[hbr]) (by omega)
   rw[qac,<- fin]
   simp only[bFr] at hl3 ⊢
   simp[qad,qfl,aFr,aS,pgD,Wa,hlen,h1,h2,hat,hcut,heff,hsu,hm,hu,hown,hou,w1,w2,w3,w4,hbr,hmx,qje,qoS,gpos,hop22,hr2,qcb,bn1,bn2,tk,hl3]
 ·by_cases hmx:depth<dp
  ·have hl3:=key br dp (by simp[hbr]) (by omega)
   rw[qac,<- fin]
   simp only[bFr] at hl3 ⊢
   simp[qad,qfl,aFr,aS,pgD,Wa,hlen,h1,h2,hat,hcut,heff,hsu,hm,hu,hown,hou,w1,w2,w3,w4,hbr,hmx,qje,qoS,gpos,hop22,hr2,qcb,bn1,bn2,tk,hl3]
  ·have hl3:=key br depth (by simp[hbr]) (by omega)
   rw[qac,<- fin]
   simp only[bFr] at hl3 ⊢
   simp[qad,qfl,aFr,aS,pgD,Wa,hlen,h1,h2,hat,hcut,heff,hsu,hm,hu,hown,hou,w1,w2,w3,w4,hbr,hmx,qje,qoS,gpos,hop22,hr2,qcb,bn1,bn2,tk,hl3]
end
end
section
open F Gr
theorem qwx{n:Nat}{dd b:Int}{a:An}{j:Int}(hd:dd<=b)(hb:0<=b)(h : ∀ i,gD a.ds i<=b+1) : ∀ i,gD (Gr.one n dd a j).ds i<=b+1:=by
 intro i
 unfold Gr.one
 split
 ·exact h i
 ·split
  ·by_cases hij:j.toNat=i
   ·subst hij
    by_cases hl:j.toNat<a.ds.length
    ·simp only; rw[qgf hl]; omega
    ·simp only
     rw[List.set_eq_of_length_le (by omega)]; exact h _
   ·simp only; rw[qgg hij]; exact h i
  ·split<;>exact h i
theorem qnG{n:Nat}{dd b:Int}(hd:dd<=b)(hb:0<=b) : ∀ (l:List Int) (a:An),(∀ i,gD a.ds i<=b+1) -> ∀ i,gD (l.foldl (Gr.one n dd) a).ds i<=b+1
 |[],a,h=>h
 |j::l,a,h=>qnG hd hb l _ (qwx hd hb h)
theorem qwy{c:Cd}{a:An}{i:Nat}{r:List Nat}{b:Int}(hb:0<=b)(h : ∀ i,gD a.ds i<=b) : ∀ k,gD (stp c a i r).ds k<=b+1:=by
 have hp:=qmU (opA c i)
 have hq:=qge (opA c i)
 unfold stp
 refine qnG (b:=b) ?_ hb _ _ (fun k=>?_)
 ·have:=h i
  unfold aft
  omega
 ·have:=h k
  simp only
  omega
section
variable{d:D}{c:Cd}{e0 e1 e2:Int}
theorem quc(hd:IsCode d c){a:An}(ho:a.op=[]):Z qaf (.loop 0 F139l0 (aFr c.length a.op.length) (aS d e0 e1 e2 a))=some (.out (.exit 0) (aFr c.length 0++[(24,.bool false)]) (aS d e0 e1 e2 a)):=by
 obtain⟨fl,br,depth,ds,op⟩:=a
 simp only at ho
 subst ho
 have e:F139l0 = .seq F139a F139b:=rfl
 rw[qac,e]
 simp[qad,F139a_eq,aFr,aS,Wa,qcb,hd.one,hd.cells]
theorem qwz (hd:IsCode d c) (hf:qwX c) (hops : ∀ i,i<c.length->1<=opA c i/\opA c i<=21) (hcl:c.length<2^27) {e:Nat} (he:e<c.length) (m:Nat) : ∀ (a:An) (b:Int),mu a<=m->Inv c e none [] a->0<=b->b+m<2^38->m<2^29->(∀ i,gD a.ds i<=b) ->
  ∃ a',Inv c e none [] a'/\a'.op=[]/\Z qaf (.loop 0 F139l0 (aFr c.length a.op.length) (aS d e0 e1 e2 a))=some (.out (.exit 0) (aFr c.length 0++[(24,.bool false)]) (aS d e0 e1 e2 a')):=by
 induction m with
 |zero=>
  intro a b hm hi hb hbm hm2 hall
  have ho:a.op=[]:=List.length_eq_zero_iff.1 (by unfold mu at hm; omega)
  exact⟨a,hi,ho,quc hd ho⟩
 |succ m ih=>
  intro a b hm hi hb hbm hm2 hall
  by_cases ho:a.op=[]
  ·exact⟨a,hi,ho,quc hd ho⟩
  ·obtain⟨r,i,hr⟩ : ∃ r i,a.op=r++[i]:=⟨a.op.dropLast,a.op.getLast ho,(List.dropLast_concat_getLast ho).symm⟩
   have hio:=hi.opn i (by rw[hr]; simp)
   have hpos:=hi.pos i hio.1 hio.2
   have hmu:=qxY hf hi.len hio.1 hr
   obtain⟨a',q1,q2,q3⟩:=ih (stp c a i r) (b+1) (by omega) (qu9 hf hi hr) (by omega) (by omega) (by omega) (qwy hb hall)
   refine⟨a',q1,q2,?_⟩
   rw[quv hd hf hops (by omega) hr hio.1 hi.len (by unfold mu at hm; omega) ⟨hpos.1,by have:=hall i; omega⟩]
   exact q3
theorem qBi (hd:IsCode d c) (hf:qwX c) (hops : ∀ i,i<c.length->1<=opA c i/\opA c i<=21) (hcl:c.length<2^27) {e:Nat} (he:e<c.length) :
  ∃ fl br dp,AnaRes c e fl br dp/\Z qaf (.call 139 [pgD d e0 e1 e2,.int e] [])=some (.ret (.dat (.agg [.lit (.bool fl),.lit (.bool br),.lit (.int .i64 dp)])) []):=by
 have hmu:mu (an0 c e)<=2*c.length+1:=by
  have:((List.replicate c.length (0:Int)).set e 1).count 0<=((List.replicate c.length (0:Int)).set e 1).length:=List.count_le_length
  simp only[mu,an0,Ws]
  simp only[List.length_set,List.length_replicate] at this
  omega
 have hall : ∀ i,gD (an0 c e).ds i<=1:=fun i=>by
  unfold an0
  simp only
  by_cases h:e=i
  ·subst h; rw[qgf (by simpa using he)]; exact Int.le_refl _
  ·rw[qgg h,qpE]; omega
 obtain⟨a,h1,h2,h3⟩:=qwz (e0:=e0) (e1:=e1) (e2:=e2) hd hf hops hcl he (2*c.length+1) (an0 c e) 1 hmu (qva he) (by omega) (by omega) (by omega) hall
 obtain⟨f1,f2,f3⟩:=qvb he h1 h2
 refine⟨a.falls,a.breaks,a.depth,⟨f1,f2,f3⟩,?_⟩
 have hlen:=hd.len
 have ho:=hd.one
 have hc:=hd.cells
 have k1:(c.length:Int)<=1099511627776/\8*(c.length:Int)<=281474976710656:=by omega
 have k2:8*c.length<=281474976710656:=by omega
 have hm:qae 1 (.msl 3 0 c.length c.length 1) e=some (.ptr 3 e):=by
  have a2:(e:Int)<c.length:=by omega
  simp[qae,a2]
 have hse:(qba (List.replicate c.length 0)).take e++(V.int 1::(qba (List.replicate c.length 0)).drop (e+1))=qba ((List.replicate c.length 0).set e 1):=qaO _ e 1 (by simpa using he)
 have hel:e+1<=c.length:=he
 have hone:qba (([e]:List Nat).map fun (i:Nat)=>(i:Int))=[V.int e]:=rfl
 refine qab (pf:=F139) rfl rfl ?_
 simp only[aFr,aS,an0,Ws,hone] at h3
 simp[F139,pgD,qe4,k1,k2,hlen,ho,hc,hm,hse,hel,h3,Wa]
end
theorem qy1(fl br:Bool)(dp:Int):Z qaf (.call 140 [.dat (.agg [.lit (.bool fl),.lit (.bool br),.lit (.int .i64 dp)])] [])=some (.ret (.bool (!br&&decide (dp<=16))) []):=by
 refine qab (pf:=F140) rfl rfl ?_
 cases br
 ·simp[F140,Wa]
 ·simp[F140,Wa]
end
section
open F Gr
def qgQ(op:Int):Bool:=decide (1<=op)&&decide (op<=21)
def qzo(op n len:Int):Bool:=
 if op=1 then decide (-2147483647<=n)&&decide (n<=2147483647)
 else if op=2\/op=3 then decide (0<=n)&&decide (n<=15)
 else if op=4 then decide (0<=n)&&decide (n<=7)
 else if op=5 then decide (0<=n)&&decide (n<=5)
 else if op=18\/op=19 then decide (0<=n)&&decide (n<=len-1)
 else qgQ op&&decide (n=0)
end
section
open F Gr
open Classical in
open Classical in
def okI(c:Cd)(i:Nat):Bool:=qgQ (opA c i)&&qzo (opA c i) (nA c i) c.length
def okC(c:Cd):Nat->Nat->Bool
 |0,_=>true
 |m+1,i=>okI c i&&okC c m (i+1)
theorem ql7{c:Cd} : ∀ (m i:Nat),okC c m i=true -> ∀ k,i<=k->k<i+m->okI c k=true
 |0,i,_,k,h1,h2=>by omega
 |m+1,i,h,k,h1,h2=>by
  simp only[okC,Wq] at h
  by_cases hk:k=i
  ·rw[hk]; exact h.1
  ·exact ql7 m (i+1) h.2 k (by omega) (by omega)
theorem qtC{c:Cd}{i:Nat}(h:okI c i=true):(1<=opA c i/\opA c i<=21)/\(opA c i=18\/opA c i=19->0<=nA c i/\nA c i<c.length):=by
 simp only[okI,Wq,qgQ,decide_eq_true_eq] at h
 refine⟨h.1,fun hj=>?_⟩
 have h2:=h.2
 unfold qzo at h2
 rw[if_neg (by omega),if_neg (by omega),if_neg (by omega),if_neg (by omega),if_pos hj] at h2
 simp only[Wq,decide_eq_true_eq] at h2
 omega
theorem qrW{c:Cd}(h:okC c c.length 0=true):qwX c:=by
 intro i hi j hj
 have:=(qtC (ql7 _ _ h i (by omega) (by omega))).2
 unfold qgC at hj
 split at hj
 ·simp at hj
 ·split at hj
  ·simp only[Wl] at hj
   have:=this (.inl (by assumption))
   omega
  ·split at hj
   ·simp only[Wr,Wt,or_false] at hj
    have:=this (.inr (by assumption))
    omega
   ·simp only[Wl] at hj; omega
end
section
open F Gr
theorem qwJ(l:List ByteArray)(i:Nat)(h:i<l.length):qae 1 (.dat (qmt l)) (i:Int)=some (.dat (.imm (qb3 l) i)):=by
 cases l with
 |nil=>simp at h
 |cons s l=>simp only[We] at h; simp[qmt,qae]; omega
end
section
open F Gr
inductive CodeV:V->S->Cd->Prop
 |lit (c:Cd) (h:c≠[]):CodeV (.dat (.sl (icC c) c.length true)) [] c
 |gr (c:Cd) (h:c≠[]):CodeV (.gsl (icC c) c.length 2 0) [.tip (icC c).length] c
def NodeOK(vs:List ByteArray)(x:V)(C:Int->Cd)(L:Nat):Prop:=Ln C L/\0<L /\
 ∀ p:Int,0<=p->p+4*L<2^40 -> ∃ v σ,CodeV v σ (C p)/\Z qaf (.call 135 [x,.dat (qmt vs),.int p] [])=some (.ret v σ)
inductive RowOK(vs:List ByteArray):List D->List (Int->Cd)->Nat->Prop
 |nil:RowOK vs [] [] 0
 |cons {a b c d:D} {C:Int->Cd} {L:Nat} {r:List D} {Cs:List (Int->Cd)} {M:Nat} (h:NodeOK vs (.dat (.agg [a,b,c,d])) C L) (hr:RowOK vs r Cs M):RowOK vs (a::b::c::d::r) (C::Cs) (L+M)
def seqC:List (Int->Cd)->Int->Cd
 |[],_=>[]
 |C::r,p=>C p++seqC r (p+(C p).length)
inductive OutV:V->S->Cd->Prop
 |nil:OutV (.dat (.lit (.slice none 0 0))) [] []
 |gr (c:Cd) (h:c≠[]):OutV (.gsl (icC c) c.length 2 0) [.tip (icC c).length] c
theorem qAL{f:Bool}{n:Nat}{cs:List D}{i:Int}(h0:0<=i)(h1:i<n):qae 4 (.dat (kd f n cs)) i=some (.dat (.imm cs (i.toNat*4))):=by
 cases n with
 |zero=>simp at h1; omega
 |succ n=>simp only[qlC]; simp[qae,h0]; omega
theorem qtL{n:Nat}(h:n<2^40):qay n 16=true:=by simp only[qay,decide_eq_true_eq]; omega
set_option maxHeartbeats 1000000
end
section
open F Gr
set_option maxHeartbeats 1000000
section
variable{vs:List ByteArray}{f:Bool}{N:Nat}{cs:List D}{p:Int}
inductive AnyV:V->S->Cd->Prop
 |lit (c:Cd) (h:c≠[]):AnyV (.dat (.sl (icC c) c.length true)) [] c
 |gr (c:Cd) (h:c≠[]):AnyV (.gsl (icC c) c.length 2 0) [.tip (icC c).length] c
 |nil:AnyV (.dat (.lit (.slice none 0 0))) [] []
theorem CodeV.any{v:V}{σ : S}{c:Cd}(h:CodeV v σ c):AnyV v σ c:=by cases h; exact .lit _ ‹_›; exact .gr _ ‹_›
theorem OutV.any{v:V}{σ : S}{c:Cd}(h:OutV v σ c):AnyV v σ c:=by cases h; exact .nil; exact .gr _ ‹_›
def qAY(vs:List ByteArray)(x:V)(C:Int->Cd)(L:Nat):Prop:=Ln C L /\
 ∀ p:Int,0<=p->p+4*L<2^40 -> ∃ v σ,AnyV v σ (C p)/\Z qaf (.call 135 [x,.dat (qmt vs),.int p] [])=some (.ret v σ)
theorem NodeOK.blk{x:V}{C:Int->Cd}{L:Nat}(h:NodeOK vs x C L):qAY vs x C L:=
 ⟨h.1,fun p h0 h1=>let ⟨v,σ,a,b⟩:=h.2.2 p h0 h1; ⟨v,σ,a.any,b⟩⟩
end
end
section
open F Gr
set_option maxHeartbeats 1000000
def qiA:Bop->Bool | .and=>true|_=>false
def qqr:Bop->Bool | .or=>true|_=>false
def qsU:Bop->Bool | .gt=>true|_=>false
def qv9:Bop->Bool | .ge=>true|_=>false
def qyI:Bop->Bool | .ne=>true|_=>false
theorem qfL(o:Bop):eqS o.str ⟨#[38,38]⟩=qiA o:=by cases o<;>kernel_rfl
theorem qiW(o:Bop):eqS o.str ⟨#[124,124]⟩=qqr o:=by cases o<;>kernel_rfl
theorem qox(o:Bop):eqS o.str ⟨#[62]⟩=qsU o:=by cases o<;>kernel_rfl
theorem qoy(o:Bop):eqS o.str ⟨#[62,61]⟩=qv9 o:=by cases o<;>kernel_rfl
theorem qoz(o:Bop):eqS o.str ⟨#[33,61]⟩=qyI o:=by cases o<;>kernel_rfl
end
section
open F Gr
set_option maxHeartbeats 1000000
@[simp] theorem qAP:eqS ⟨#[33]⟩ ⟨#[45]⟩=false:=by kernel_rfl
@[simp] theorem qAQ:eqS ⟨#[45]⟩ ⟨#[45]⟩=true:=by kernel_rfl
end
section
open F Gr
set_option maxHeartbeats 1000000
section
variable{vs:List ByteArray}
def qem(vs:List ByteArray):Ss->List (Int->Cd)
 |.nil=>[]
 |.assign _ s e r=>snC (qcR vs e) (3,ixI vs s)::qem vs r
 |.store _ s a b r=>snC (sq (qcR vs a) (qcR vs b)) (5,fieldI s)::qem vs r
 |.effect _ a b r=>snC (sq (qcR vs a) (qcR vs b)) (20,0)::qem vs r
 |.stop r=>(fun _=>[(21,0)])::qem vs r
 |.cond false _ c (.block _ x (.block _ y .nil)) r=>brC (qcR vs c) (codeS vs x) (codeS vs y)::qem vs r
 |.cond true _ c (.block _ x .nil) r=>whC (qcR vs c) (codeS vs x)::qem vs r
 |_=>[]
theorem qhW(b:Ss)(p:Int):seqC (qem vs b) p=codeS vs b p:=by
 fun_induction qem vs b generalizing p with
 |case1=>rfl
 |case2 _ _ _ _ ih=>simp only[seqC,codeS,sq,ih]
 |case3 _ _ _ _ _ ih=>simp only[seqC,codeS,sq,ih]
 |case4 _ _ _ _ ih=>simp only[seqC,codeS,sq,ih]
 |case5 _ ih=>simp only[seqC,codeS,sq,ih]
 |case6 _ _ _ _ _ _ _ ih=>simp only[seqC,codeS,sq,ih]
 |case7 _ _ _ _ _ ih=>simp only[seqC,codeS,sq,ih]
 |case8 b h1 h2 h3 h4 h5 h6 h7=>
  unfold codeS
  split<;>first|rfl | (exfalso; first|exact h1 rfl|exact h2 _ _ _ _ rfl|exact h3 _ _ _ _ _ rfl|exact h4 _ _ _ _ rfl|exact h5 _ rfl|exact h6 _ _ _ _ _ _ _ rfl|exact h7 _ _ _ _ _ rfl)
end
end
section
open F
theorem qnk{a b:Ss}(ha:a.fine)(hb:b.fine):(a.app b).fine:=by
 fun_induction Ss.fine a with
 |case1=>exact hb
 |case2 _ _ _ _ ih=>exact⟨ha.1,ih ha.2⟩
 |case3 _ _ _ _ _ ih=>exact⟨ha.1,ih ha.2⟩
 |case4 _ _ _ _ ih=>exact⟨ha.1,ih ha.2⟩
 |case5 _ ih=>exact ih ha
 |case6 _ _ _ _ _ _ _ _ _ ih=>exact⟨ha.1,ha.2.1,ha.2.2.1,ih ha.2.2.2⟩
 |case7 _ _ _ _ _ _ ih=>exact⟨ha.1,ha.2.1,ih ha.2.2⟩
 |case8=>exact ha.elim
theorem qnl{a:Ss}(b:Ss)(ha:a.fine):(a.app b).cost=a.cost+b.cost:=by
 fun_induction Ss.fine a with
 |case1=>simp[Ss.app,Ss.cost]
 |case2 _ _ _ _ ih=>simp only[Ss.app,Ss.cost,ih ha.2]; omega
 |case3 _ _ _ _ _ ih=>simp only[Ss.app,Ss.cost,ih ha.2]; omega
 |case4 _ _ _ _ ih=>simp only[Ss.app,Ss.cost,ih ha.2]; omega
 |case5 _ ih=>simp only[Ss.app,Ss.cost,ih ha]; omega
 |case6 _ _ _ _ _ _ _ _ _ ih=>simp only[Ss.app,Ss.cost,ih ha.2.2.2]; omega
 |case7 _ _ _ _ _ _ ih=>simp only[Ss.app,Ss.cost,ih ha.2.2]; omega
 |case8=>exact ha.elim
theorem qtQ(a b:Ss):(a.app b).dp=max a.dp b.dp:=by
 induction a<;>simp_all [Ss.app,Ss.dp,Nat.max_assoc]
theorem qqc(a b:Ss):(a.app b).edp=max a.edp b.edp:=by
 induction a<;>simp_all [Ss.app,Ss.edp,Nat.max_assoc]
section
variable{xs:List Int}{i d c:Int}
abbrev z4O:Ob := .cells [.int 0,.int 0,.str ⟨#[]⟩,.dat (.lit (.slice none 0 0))]
abbrev B0(xs:List Int)(i:Int):S:=[.cells [.dat (qeq xs),.int i],z4O,.cells [.int 7,.int 0,.str ⟨#[]⟩,.dat (.lit (.slice none 0 0))]]
abbrev B1(xs:List Int)(i:Int)(pre:Fo):S:=[.cells [.dat (qeq xs),.int i],z4O,.cells [.int 7,.int 0,.str ⟨#[]⟩,.gsl pre.cells pre.len 4 3],.tip pre.cells.length]
abbrev bfr(d c:Int):Fr:=[(0,.ptr 0 0),(1,.int d),(6,.ptr 1 0),(7,.ptr 2 0),(8,.int c)]
theorem qyq:Z qaf (.loop 1 F137l0 (bfr d 0) (B0 xs i))=some (.out (.exit 0) (bfr d 0++[(15,.bool false)]) (B0 xs i)):=by
 rw[qac]
 simp[qad,qfk,Wa]
theorem qyr{pre:Fo}:Z qaf (.loop 1 F137l0 (bfr d 0) (B1 xs i pre))=some (.out (.exit 0) (bfr d 0++[(15,.bool false)]) (B1 xs i pre)):=by
 rw[qac]
 simp[qad,qfk,Wa]
theorem qvP {i':Int} {k n:Int} {s:ByteArray} {f:Bool} {ks:Fo} (hc:0<c) (hc':c<100) (h:Z qaf (.call 162 [.ptr 0 0,.int d] (gst xs i))=some (.ret (nd k n s f ks) (gst xs i'))) :
  Z qaf (.loop 1 F137l0 (bfr d c) (B0 xs i))=Z qaf (.loop 1 F137l0 (bfr d (c-1)) (B1 xs i' (.cons k n s f ks .nil))):=by
 have w1:=qag (c-1) (by omega)
 conv=>lhs; rw[qac]
 simp[qad,qfk,hc,h,w1,qbw,qiL,qay,bfr,B1,z4O,Wa]
theorem qvQ {i':Int} {k n:Int} {s:ByteArray} {f:Bool} {ks pre:Fo} (hp:pre.len<1000) (hc:0<c) (hc':c<100) (h:Z qaf (.call 162 [.ptr 0 0,.int d] (gst xs i))=some (.ret (nd k n s f ks) (gst xs i'))) :
  Z qaf (.loop 1 F137l0 (bfr d c) (B1 xs i pre))=Z qaf (.loop 1 F137l0 (bfr d (c-1)) (B1 xs i' (pre.app (.cons k n s f ks .nil)))):=by
 have w1:=qag (c-1) (by omega)
 have r1:qay (pre.len+1) 56=true:=by simp[qay]; omega
 have hl:=qhs pre
 have hl2:=qhr pre (.cons k n s f ks .nil)
 have hl3:=qdy pre (.cons k n s f ks .nil)
 simp only[qa5,qbf,qby,qbH] at hl2 hl3
 conv=>lhs; rw[qac]
 simp[qad,qfk,hc,h,w1,qbw,qiL,r1,hl,hl2,hl3,bfr,B1,z4O,Wa]
theorem qqd (hS : ∀ j,0<=j/\j<=100->GS xs d j) : ∀ (m:Nat) (j:Int) (pre:Fo),m<=3->(0<=j/\j<=100)->pre.len+m<1000->0<pre.len ->
  ∃ (b:Ss) (i':Int),(b.fine/\b.dp<=d.toNat/\b.edp<=3/\b.fo.size<=m*ssz d.toNat/\Co (8*m) b.cost xs j i')/\(0<=i'/\i'<=100)/\Z qaf (.loop 1 F137l0 (bfr d m) (B1 xs j pre))=some (.out (.exit 0) (bfr d 0++[(15,.bool false)]) (B1 xs i' (pre.app b.fo)))
 |0,j,pre,_,h1,hp,hp0=>⟨.nil,j,⟨trivial,WI _,WI _,by simp[Ss.fo],by show _/\_/\((0:Nat):Int)<=_; omega⟩,h1,by rw[show pre.app Ss.nil.fo=pre from qwp pre]; exact qyr⟩
 |m+1,j,pre,hm,h1,hp,hp0=>by
  obtain⟨st,k,n,s,f,ks,i1,g1,g2,g3,g4⟩:=hS j h1
  obtain⟨b,i2,k1,k2,k3⟩:=qqd hS m i1 (pre.app (.cons k n s f ks .nil)) (by omega) g3 (by rw[qdy]; simp; omega) (by rw[qdy]; simp)
  have hstep:=qvQ (d:=d) (c:=(m+1:Nat)) (by omega:pre.len<1000) (by omega) (by omega) g4
  rw[show ((m+1:Nat):Int)-1=m by omega] at hstep
  have hco:Co (8*((m+1:Nat):Int)) (st.app b).cost xs j i2:=by
   obtain⟨q1,q2,q3⟩:=g2.2.2.2.2
   obtain⟨u1,u2,u3⟩:=k1.2.2.2.2
   unfold Co
   rw[qnl b g2.1]
   omega
  refine⟨st.app b,i2,⟨qnk g2.1 k1.1,by rw[qtQ]; omega,by rw[qqc]; omega,by rw[qiD,qiB,Nat.succ_mul]; omega,hco⟩,k2,?_⟩
  rw[hstep,k3,qiD,<- qqG,g1]
theorem qqe(hx : ∀ x∈xs,I64 x)(hl:xs.length<=100)(hi:0<=i/\i<=100){m:Int}(hm:0<=m)(hm4:m<=3)(hS : ∀ j,0<=j/\j<=100->GS xs d j):GK xs d m i:=by
 have n1:=qbr (i:=i) (m:=m+1) hx (qbD hl) hi (by omega)
 have l1:=qbl (i:=i) (m:=m+1) hx (by omega)
 have r1:=qax hi (qbD hl)
 have w1:=qag (m+1) (by omega)
 by_cases h0:qaC xs i (m+1)=0
 ·refine⟨.nil,_,⟨trivial,WI _,WI _,by simp[Ss.fo],by show _/\_/\((0:Nat):Int)<=_; rcases qaw xs i with ⟨e1,l1⟩|⟨e1,l1⟩<;>omega⟩,r1,?_⟩
  have h:=qyq (xs:=xs) (i:=qaE xs i) (d:=d)
  refine qab (pf:=F137) rfl rfl ?_
  simp only[bfr,Wi,Wc] at h
  simp[F137,n1,w1,h0,h,Ss.fo,Wa]
 ·obtain⟨q,hq⟩ : ∃ q:Nat,qaC xs i (m+1)=((q+1:Nat):Int):=⟨(qaC xs i (m+1)-1).toNat,by omega⟩
  obtain⟨st,k,n,s,f,ks,i1,g1,g2,g3,g4⟩:=hS _ r1
  obtain⟨b,i2,k1,k2,k3⟩:=qqd hS q i1 (.cons k n s f ks .nil) (by omega) g3 (by simp; omega) (by simp)
  have hstep:=qvP (d:=d) (c:=(q+1:Nat)) (by omega) (by omega) g4
  rw[show ((q+1:Nat):Int)-1=q by omega,k3,<- g1,<- qiD,<- hq] at hstep
  have hmul:(q+1)*ssz d.toNat<=m.toNat*ssz d.toNat:=Ya _ (by omega)
  rw[Nat.succ_mul] at hmul
  have hco:Co 0 (st.app b).cost xs i i2:=by
   obtain⟨q1,q2,q3⟩:=g2.2.2.2.2
   obtain⟨u1,u2,u3⟩:=k1.2.2.2.2
   unfold Co
   rw[qnl b g2.1]
   rcases qaw xs i with ⟨e1,l1⟩|⟨e1,l1⟩
   ·omega
   ·exact absurd (l1 (m+1)) h0
  refine⟨st.app b,i2,⟨qnk g2.1 k1.1,by rw[qtQ]; omega,by rw[qqc]; omega,by rw[qiD,qiB]; omega,hco⟩,k2,?_⟩
  have hpos:(st.app b).fo.len≠0:=by rw[qiD,qdy,g1]; simp
  obtain⟨z,hz⟩ : ∃ z,(st.app b).fo.len=z+1:=⟨(st.app b).fo.len-1,by omega⟩
  have hg:=qhs (st.app b).fo
  refine qab (pf:=F137) rfl rfl ?_
  simp only[bfr,Wi,Wc] at hstep
  generalize (st.app b).fo=fo at *
  simp[F137,n1,w1,hstep,hz,Wa]
theorem qzs(hx : ∀ x∈xs,I64 x)(hl:xs.length<=100) : ∀ (n:Nat),n<=50->(∀ j,0<=j/\j<=100->GS xs n j)/\(∀ j,0<=j/\j<=100 -> ∀ m,0<=m->m<=3->GK xs n m j)
 |0,_=>by
  have hs : ∀ j,0<=j/\j<=100->GS xs (0:Nat) j:=fun i hi=>by
   have p:=qbl (i:=i) (m:=10) hx (by omega)
   have q:=qaS p.1 (m:=7) (by omega)
   have e:qhv xs (0:Nat) i=(qaC xs i 10).tmod 7:=if_pos (by simp)
   by_cases h1:qhv xs (0:Nat) i<2
   ·exact qk0 hx hl hi (by omega)
   by_cases h2:qhv xs (0:Nat) i<5
   ·exact qmS hx hl hi (by omega)
   by_cases h3:qhv xs (0:Nat) i=5
   ·exact qk1 hx hl hi h3
   ·exact qtA hx hl hi (by omega)
  exact⟨hs,fun j hj m h0 h3=>qqe hx hl hj h0 h3 hs⟩
 |n+1,hn=>by
  have ih:=(qzs hx hl n (by omega)).2
  have hd : ¬ ((n+1:Nat):Int)<=0:=by omega
  have hs : ∀ j,0<=j/\j<=100->GS xs (n+1:Nat) j:=fun i hi=>by
   have p:=qbl (i:=i) (m:=10) hx (by omega)
   have e:qhv xs (n+1:Nat) i=qaC xs i 10:=if_neg hd
   have ih' : ∀ j,0<=j/\j<=100->GK xs (((n+1:Nat):Int)-1) 2 j:=fun j hj=>by
    rw[show ((n+1:Nat):Int)-1=n by omega]; exact ih j hj 2 (by omega) (by omega)
   by_cases h1:qhv xs (n+1:Nat) i<2
   ·exact qk0 hx hl hi (by omega)
   by_cases h2:qhv xs (n+1:Nat) i<5
   ·exact qmS hx hl hi (by omega)
   by_cases h3:qhv xs (n+1:Nat) i=5
   ·exact qk1 hx hl hi h3
   by_cases h4:qhv xs (n+1:Nat) i=6
   ·exact qtA hx hl hi h4
   by_cases h5:qhv xs (n+1:Nat) i=7
   ·exact qrt hx hl hi hd (by omega) ih' (by omega)
   ·exact qz8 hx hl hi hd (by omega) ih' (by omega)
  exact⟨hs,fun j hj m h0 h3=>qqe hx hl hj h0 h3 hs⟩
end
end
section
open F
theorem qwd(o:Option Addr)(m:Int)(hm:0<=m):Z qaf (.call 23 [.dat (.lit (.slice o 0 0)),.int m] [])=some (.ret (.dat (qeq [])) []):=by
 refine qab (pf:=F23) rfl rfl ?_
 have h : ¬ m<0:=by omega
 simp[F23,V.len,qq6,qje,h,qeB,bound,qbw,qiL,qeq]
theorem qoB(xs:List Int)(k:Nat):(qal xs).take k=qal (xs.take k):=by simp[qal,List.map_take]
theorem qwe(xs:List Int)(k:Nat)(hk:k<=1000):Z qaf (.call 23 [.dat (.sl (qal xs) xs.length false),.int k] [])=some (.ret (.dat (qeq (xs.take k))) []):=by
 refine qab (pf:=F23) rfl rfl ?_
 have hl:(qal xs).length=xs.length:=by simp[qal]
 have key : ∃ m:Nat,(if k<xs.length then (k:Int) else (xs.length:Int))=(m:Int)/\m<=xs.length/\m<=1000/\xs.take k=xs.take m/\(xs.take m).length=m:=by
  by_cases h:k<xs.length
  ·exact⟨k,by simp[h],by omega,hk,rfl,by simp; omega⟩
  ·exact⟨xs.length,by simp[h],Wj _,by omega,by rw[Wx (by omega),Wx (Wj _)],by simp⟩
 obtain⟨m,e1,e2,e3,e4,e5⟩:=key
 rw[e4]
 cases hm:xs.take m with
 |nil=>
  rw[hm] at e5
  simp at e5
  subst e5
  simp[F23,V.len,qq6,qje,e1,qeB,bound,qbw,qiL,qeq,hl]
 |cons y ys=>
  have hm':=e5
  rw[hm] at hm'
  simp only[We] at hm'
  have hne:m≠0:=by omega
  have hr:qay m 8=true:=by simp[qay]; omega
  have ht:(qal xs).take m=qal (y::ys):=by rw[qoB,hm]
  have hlen:(qal (y::ys)).length=m:=by simp[qal]; omega
  simp[F23,V.len,qq6,qje,e1,qeB,bound,qbw,qiL,qeq,hl,e2,ht,hlen,hne,hr,hm']
theorem qyM{v:D}{xs:List Int}(h:RowV v xs)(k:Nat)(hk:k<=1000):Z qaf (.call 23 [.dat v,.int k] [])=some (.ret (.dat (qeq (xs.take k))) []):=by
 rcases h with ⟨o,rfl,rfl⟩|rfl
 ·simpa using qwd o k (by omega)
 ·exact qwe xs k hk
def Hd.ss:Hd->Ss
 |.none => .nil
 |.some _ b=>b
structure Hd.fine(h:Hd):Prop where
 fine:h.ss.fine
 size:h.ss.fo.size<=2000
def Hd.cost:Hd->Nat
 |.none=>0
 |.some _ b=>12+b.cost
structure Hd.gen(h:Hd):Prop extends h.fine where
 f:h.f=false
 dp:h.ss.dp<=2
 edp:h.ss.edp<=3
 gsize:h.ss.fo.size<=1260
theorem qs1(h:Hd):h.ks=h.ss.fo:=by cases h<;>rfl
theorem qku:Hd.none.gen:=⟨⟨trivial,WI _⟩,rfl,WI _,WI _,WI _⟩
abbrev z12:Ob := .cells [.int 0,.int 0,.str ⟨#[]⟩,.dat (.lit (.slice none 0 0)),.int 0,.int 0,.str ⟨#[]⟩,.dat (.lit (.slice none 0 0)),.int 0,.int 0,.str ⟨#[]⟩,.dat (.lit (.slice none 0 0))]
abbrev tst(xs:List Int)(i:Int)(a b c:Nd):S:=[z12,.cells [.dat (qeq xs),.int i],qhD a b c]
abbrev tfr(h:Int):Fr:=[(2,.ptr 0 0),(3,.ptr 1 0),(4,.ptr 2 0),(5,.int h)]
section
variable{xs:List Int}{i:Int}{a b c:Nd}
theorem qA2:Z qaf (.loop 0 F123l0 (tfr 3) (tst xs i a b c))=some (.out (.exit 0) (tfr 3++[(11,.bool false)]) (tst xs i a b c)):=by
 rw[qac]
 simp[qad,qcL,Wa]
theorem qwf(hx : ∀ x∈xs,I64 x)(hl:xs.length<=100)(hi:0<=i/\i<=100) : ∃ (g:Hd) (i':Int),g.gen/\(0<=i'/\i'<=100)/\Co 0 g.cost xs i i'/\Z qaf (.loop 0 F123l0 (tfr 0) (tst xs i Hd.none.nd b c))=Z qaf (.loop 0 F123l0 (tfr 1) (tst xs i' g.nd b c)):=by
 have n1:=qbr (i:=i) (m:=4) hx (qbD hl) hi (by omega)
 have r1:=qax hi (qbD hl)
 have w1:=qag 1 (by omega)
 by_cases h2:0<qaC xs i 4
 ·obtain⟨q,i',k1,k2,k3⟩:=(qzs hx hl 2 (by omega)).2 _ r1 3 (by omega) (by omega)
  have hs:ssz 2=420:=rfl
  rw[show ((2:Nat):Int).toNat=2 from rfl,show (3:Int).toNat=3 from rfl,hs] at k1
  have hco:Co 0 (Hd.cost (.some false q)) xs i i':=by
   obtain⟨u1,u2,u3⟩:=k1.2.2.2.2
   show _/\_/\((12+q.cost:Nat):Int)<=_
   rcases qaw xs i with ⟨e1,l1⟩|⟨e1,l1⟩
   ·omega
   ·exact absurd (l1 4) (by omega)
  refine⟨.some false q,i',⟨⟨k1.1,by show q.fo.size<=2000; have:=k1.2.2.2.1; omega⟩,rfl,k1.2.1,k1.2.2.1,k1.2.2.2.1⟩,k2,hco,?_⟩
  simp at k3
  conv=>lhs; rw[qac]
  simp[qad,qcL,n1,h2,k3,w1,Nd.d,Hd.k,Hd.f,Hd.ks,tfr,tst,qhD,Wa]
 ·have hco:Co 0 (Hd.cost .none) xs i (qaE xs i):=by
   show _/\_/\((0:Nat):Int)<=_
   rcases qaw xs i with ⟨e1,l1⟩|⟨e1,l1⟩<;>omega
  refine⟨.none,_,qku,r1,hco,?_⟩
  conv=>lhs; rw[qac]
  simp[qad,qcL,n1,h2,w1,Nd.d,Hd.k,Hd.f,Hd.ks,tfr,tst,qhD,Wa]
theorem qwg(hx : ∀ x∈xs,I64 x)(hl:xs.length<=100)(hi:0<=i/\i<=100) : ∃ (g:Hd) (i':Int),g.gen/\(0<=i'/\i'<=100)/\Co 0 g.cost xs i i'/\Z qaf (.loop 0 F123l0 (tfr 1) (tst xs i a Hd.none.nd c))=Z qaf (.loop 0 F123l0 (tfr 2) (tst xs i' a g.nd c)):=by
 have n1:=qbr (i:=i) (m:=4) hx (qbD hl) hi (by omega)
 have r1:=qax hi (qbD hl)
 have w1:=qag 2 (by omega)
 by_cases h2:0<qaC xs i 4
 ·obtain⟨q,i',k1,k2,k3⟩:=(qzs hx hl 2 (by omega)).2 _ r1 3 (by omega) (by omega)
  have hs:ssz 2=420:=rfl
  rw[show ((2:Nat):Int).toNat=2 from rfl,show (3:Int).toNat=3 from rfl,hs] at k1
  have hco:Co 0 (Hd.cost (.some false q)) xs i i':=by
   obtain⟨u1,u2,u3⟩:=k1.2.2.2.2
   show _/\_/\((12+q.cost:Nat):Int)<=_
   rcases qaw xs i with ⟨e1,l1⟩|⟨e1,l1⟩
   ·omega
   ·exact absurd (l1 4) (by omega)
  refine⟨.some false q,i',⟨⟨k1.1,by show q.fo.size<=2000; have:=k1.2.2.2.1; omega⟩,rfl,k1.2.1,k1.2.2.1,k1.2.2.2.1⟩,k2,hco,?_⟩
  simp at k3
  conv=>lhs; rw[qac]
  simp[qad,qcL,n1,h2,k3,w1,Nd.d,Hd.k,Hd.f,Hd.ks,tfr,tst,qhD,Wa]
 ·have hco:Co 0 (Hd.cost .none) xs i (qaE xs i):=by
   show _/\_/\((0:Nat):Int)<=_
   rcases qaw xs i with ⟨e1,l1⟩|⟨e1,l1⟩<;>omega
  refine⟨.none,_,qku,r1,hco,?_⟩
  conv=>lhs; rw[qac]
  simp[qad,qcL,n1,h2,w1,Nd.d,Hd.k,Hd.f,Hd.ks,tfr,tst,qhD,Wa]
theorem qwh(hx : ∀ x∈xs,I64 x)(hl:xs.length<=100)(hi:0<=i/\i<=100) : ∃ (g:Hd) (i':Int),g.gen/\(0<=i'/\i'<=100)/\Co 0 g.cost xs i i'/\Z qaf (.loop 0 F123l0 (tfr 2) (tst xs i a b Hd.none.nd))=Z qaf (.loop 0 F123l0 (tfr 3) (tst xs i' a b g.nd)):=by
 have n1:=qbr (i:=i) (m:=4) hx (qbD hl) hi (by omega)
 have r1:=qax hi (qbD hl)
 have w1:=qag 3 (by omega)
 by_cases h2:0<qaC xs i 4
 ·obtain⟨q,i',k1,k2,k3⟩:=(qzs hx hl 2 (by omega)).2 _ r1 3 (by omega) (by omega)
  have hs:ssz 2=420:=rfl
  rw[show ((2:Nat):Int).toNat=2 from rfl,show (3:Int).toNat=3 from rfl,hs] at k1
  have hco:Co 0 (Hd.cost (.some false q)) xs i i':=by
   obtain⟨u1,u2,u3⟩:=k1.2.2.2.2
   show _/\_/\((12+q.cost:Nat):Int)<=_
   rcases qaw xs i with ⟨e1,l1⟩|⟨e1,l1⟩
   ·omega
   ·exact absurd (l1 4) (by omega)
  refine⟨.some false q,i',⟨⟨k1.1,by show q.fo.size<=2000; have:=k1.2.2.2.1; omega⟩,rfl,k1.2.1,k1.2.2.1,k1.2.2.2.1⟩,k2,hco,?_⟩
  simp at k3
  conv=>lhs; rw[qac]
  simp[qad,qcL,n1,h2,k3,w1,Nd.d,Hd.k,Hd.f,Hd.ks,tfr,tst,qhD,Wa]
 ·have hco:Co 0 (Hd.cost .none) xs i (qaE xs i):=by
   show _/\_/\((0:Nat):Int)<=_
   rcases qaw xs i with ⟨e1,l1⟩|⟨e1,l1⟩<;>omega
  refine⟨.none,_,qku,r1,hco,?_⟩
  conv=>lhs; rw[qac]
  simp[qad,qcL,n1,h2,w1,Nd.d,Hd.k,Hd.f,Hd.ks,tfr,tst,qhD,Wa]
end
theorem qoC{v:D}{xs:List Int}(h:RowV v xs)(hx : ∀ x∈xs,I64 x) : ∃ a b c:Hd,a.gen/\b.gen/\(c.gen/\a.cost+(b.cost+c.cost)<=1440)/\Z qaf (.call 123 [.dat v] [])=some (.ret (.dat (ru a.nd b.nd c.nd)) []):=by
 have hx' : ∀ x∈xs.take 60,I64 x:=fun x hm=>hx x (Yh hm)
 have hl':(xs.take 60).length<=100:=by simp; omega
 have n0:=qyM h 60 (by omega)
 obtain⟨a,i1,a1,a2,a3,a4⟩:=qwf (i:=0) (b:=Hd.none.nd) (c:=Hd.none.nd) hx' hl' (by omega)
 obtain⟨b,i2,b1,b2,b3,b4⟩:=qwg (i:=i1) (a:=a.nd) (c:=Hd.none.nd) hx' hl' a2
 obtain⟨c,i3,c1,c2,c3,c4⟩:=qwh (i:=i2) (a:=a.nd) (b:=b.nd) hx' hl' b2
 have hl:=a4.trans (b4.trans (c4.trans qA2))
 have hcost:a.cost+(b.cost+c.cost)<=1440:=by
  obtain⟨p1,p2,p3⟩:=a3
  obtain⟨q1,q2,q3⟩:=b3
  obtain⟨r1,r2,r3⟩:=c3
  have:(xs.take 60).length<=60:=by simp; omega
  omega
 refine⟨a,b,c,a1,b1,⟨c1,hcost⟩,?_⟩
 refine qab (pf:=F123) rfl rfl ?_
 simp only[tfr,tst,qhD,Nd.d,qBb,qBc,qBd,qBe,qs8,Wi,Wc,show Hd.k .none=0 from rfl,show Hd.f .none=false from rfl,show Hd.ks .none = .nil from rfl,z12,qbH,qbf,qzG] at hl
 simp at n0 hl
 simp[F123,n0,hl,ru,Nd.d,Wa]
end
section
open F Gr
set_option maxHeartbeats 1000000
section
variable{vs:List ByteArray}
def hdC(vs:List ByteArray):Hd->Int->Cd
 |.none=>fun _=>[]
 |.some _ b=>snC (codeS vs b) (21,0)
def qlO:Hd->Int->Int
 |.none,_ => -1
 |.some _ _,p=>p
abbrev zP:Ob := .cells [.dat (.lit (.slice none 0 0)),.int 0,.int 0,.int 0]
inductive CSt(R:Ob)(e0 e1 e2:Int):S->Cd->Prop
 |nil:CSt R e0 e1 e2 [R,zP,.cells [.dat (.lit (.slice none 0 0)),.int e0,.int e1,.int e2]] []
 |gr (c:Cd) (h:c≠[]):CSt R e0 e1 e2 [R,zP,.cells [.gsl (icC c) c.length 2 3,.int e0,.int e1,.int e2],.tip (icC c).length] c
end
end
section
open Gr
def qd5(vs:List ByteArray)(a b c:Hd):Cd:=sq (hdC vs a) (sq (hdC vs b) (hdC vs c)) 0
def qhO(a:Hd):Int:=qlO a 0
def qhy(vs:List ByteArray)(a b:Hd):Int:=qlO b (hdC vs a 0).length
def qhP(vs:List ByteArray)(a b c:Hd):Int:=qlO c (sq (hdC vs a) (hdC vs b) 0).length
structure Hg(C:Int->Cd)(n:Nat)(D:Nat->Int):Prop where
 ln:Ln C n
 ok : ∀ p i,i<n->vOp (opA (C p) i) (nA (C p) i) p (p+n-1)
 pop : ∀ p i,i<n->qeU (opA (C p) i)<=D i
 flow : ∀ p i,i<n -> ∀ j∈qoo (opA (C p) i) (nA (C p) i) (p+i),p<=j/\j<=p+n-1/\D (j-p).toNat=D i+(qdF (opA (C p) i)-qeU (opA (C p) i))
 stp : ∀ p i,i<n->opA (C p) i=21->D i=0
theorem qx5{A B:Int->Cd}{n m:Nat}{DA DB:Nat->Int}(a:Hg A n DA)(b:Hg B m DB):Hg (sq A B) (n+m) (fun i=>if i<n then DA i else DB (i-n)):=by
 have opl : ∀ p i,i<n->opA (sq A B p) i=opA (A p) i/\nA (sq A B p) i=nA (A p) i:=fun p i h=>qd0 (by rw[a.ln p]; exact h)
 have opr : ∀ p i,n<=i->opA (sq A B p) i=opA (B (p+n)) (i-n)/\nA (sq A B p) i=nA (B (p+n)) (i-n):=fun p i h=>by
  have:=qcm (a:=A p) (b:=B (p+(A p).length)) (i:=i) (by rw[a.ln p]; omega)
  rw[a.ln p] at this
  exact⟨by rw[sq,a.ln p]; exact this.1,by rw[sq,a.ln p]; exact this.2⟩
 refine⟨qa9 a.ln b.ln,?_,?_,?_,?_⟩
 ·intro p i hi
  by_cases h:i<n
  ·rw[(opl p i h).1,(opl p i h).2]; exact qcD (a.ok p i h) (by omega) (by omega)
  ·rw[(opr p i (by omega)).1,(opr p i (by omega)).2]; exact qcD (b.ok (p+n) (i-n) (by omega)) (by omega) (by omega)
 ·intro p i hi
  show _<=if i<n then DA i else DB (i-n)
  by_cases h:i<n
  ·rw[(opl p i h).1,if_pos h]; exact a.pop p i h
  ·rw[(opr p i (by omega)).1,if_neg h]; exact b.pop _ (i-n) (by omega)
 ·intro p i hi j hj
  show _/\_/\(if (j-p).toNat<n then DA (j-p).toNat else DB ((j-p).toNat-n))=(if i<n then DA i else DB (i-n))+_
  by_cases h:i<n
  ·rw[(opl p i h).1,(opl p i h).2] at hj
   rw[(opl p i h).1,if_pos h]
   obtain⟨q1,q2,q3⟩:=a.flow p i h j hj
   rw[if_pos (by omega)]
   exact⟨q1,by omega,q3⟩
  ·rw[(opr p i (by omega)).1,(opr p i (by omega)).2,show p+(i:Int)=(p+n)+((i-n:Nat):Int) by omega] at hj
   rw[(opr p i (by omega)).1,if_neg h]
   obtain⟨q1,q2,q3⟩:=b.flow (p+n) (i-n) (by omega) j hj
   rw[if_neg (by omega),show (j-p).toNat-n=(j-(p+n)).toNat by omega]
   exact⟨by omega,by omega,q3⟩
 ·intro p i hi h
  show (if i<n then DA i else DB (i-n))=0
  by_cases h':i<n
  ·rw[(opl p i h').1] at h; rw[if_pos h']; exact a.stp p i h' h
  ·rw[(opr p i (by omega)).1] at h; rw[if_neg h']; exact b.stp _ (i-n) (by omega) h
theorem qvl{vs:List ByteArray}(hv:vs.length<=16)(h:Hd)(hf:h.ss.fine)(hi:h.ss.inV vs) : ∃ n D,Hg (hdC vs h) n D/\(h ≠ .none->0<n/\D 0=0)/\(h = .none->n=0) /\ ∀ i,i<n->D i<=max 0 h.ss.hh:=by
 cases h with
 |none=>exact⟨0,fun _=>0,⟨fun _=>rfl,fun _ _ h=>by omega,fun _ _ h=>by omega,fun _ _ h=>by omega,fun _ _ h=>by omega⟩,fun h=>absurd rfl h,fun _=>rfl,fun i h=>by omega⟩
 |some f b=>
  obtain⟨n,s,D,g⟩:=qCn hv (q:=max 0 b.hh) (by omega) b hf hi (by omega)
  have opl : ∀ p i,i<n->opA (hdC vs (.some f b) p) i=opA (codeS vs b p) i/\nA (hdC vs (.some f b) p) i=nA (codeS vs b p) i:=fun p i h=>qd0 (by rw[g.ln p]; exact h)
  have opr : ∀ p,opA (hdC vs (.some f b) p) n=21/\nA (hdC vs (.some f b) p) n=0:=fun p=>by
   have:=qcm (a:=codeS vs b p) (b:=[(21,0)]) (i:=n) (by rw[g.ln p]; omega)
   rw[g.ln p,Nat.sub_self] at this
   exact this
  refine⟨n+1,D 0,⟨qbL g.ln,?_,?_,?_,?_⟩,fun _=>⟨by omega,g.beg 0⟩,fun h=>(by cases h),fun i hi=>by have:=g.hi 0 i (by omega); show _<=max 0 b.hh; omega⟩
  ·intro p i hi
   by_cases h:i<n
   ·rw[(opl p i h).1,(opl p i h).2]; exact qcD (g.ok p i h) (by omega) (by omega)
   ·obtain rfl:i=n:=by omega
    rw[(opr p).1,(opr p).2]; exact⟨by omega,by rw[if_neg (by omega),if_neg (by omega),if_neg (by omega),if_neg (by omega),if_neg (by omega)]⟩
  ·intro p i hi
   by_cases h:i<n
   ·rw[(opl p i h).1]; have:=g.pop p 0 i h; omega
   ·obtain rfl:i=n:=by omega
    rw[(opr p).1,g.fin]; decide
  ·intro p i hi j hj
   by_cases h:i<n
   ·rw[(opl p i h).1,(opl p i h).2] at hj
    rw[(opl p i h).1]
    obtain⟨q1,q2,q3⟩:=g.flow p 0 i h j hj
    exact⟨q1,by omega,q3⟩
   ·obtain rfl:i=n:=by omega
    rw[(opr p).1,(opr p).2] at hj
    cases hj
  ·intro p i hi h
   by_cases h':i<n
   ·rw[(opl p i h').1] at h; exact (g.stp p 0 i h' h).2
   ·obtain rfl:i=n:=by omega
    exact g.fin 0
theorem qne {vs:List ByteArray} (hv:vs.length<=16) {a b c:Hd} (fa:a.ss.fine) (fb:b.ss.fine) (fc:c.ss.fine) (ia:a.ss.inV vs) (ib:b.ss.inV vs) (ic:c.ss.inV vs) :
  ∃ n D,Hg (sq (hdC vs a) (sq (hdC vs b) (hdC vs c))) n D/\(qhO a = -1\/(0<=qhO a/\qhO a<n/\D (qhO a).toNat=0))/\(qhy vs a b = -1\/(0<=qhy vs a b/\qhy vs a b<n/\D (qhy vs a b).toNat=0))/\(qhP vs a b c = -1\/(0<=qhP vs a b c/\qhP vs a b c<n/\D (qhP vs a b c).toNat=0)) /\ ∀ i,i<n->D i<=max 0 (max a.ss.hh (max b.ss.hh c.ss.hh)):=by
 obtain⟨na,Da,ga,pa,za,wa⟩:=qvl hv a fa ia
 obtain⟨nb,Db,gb,pb,zb,wb⟩:=qvl hv b fb ib
 obtain⟨nc,Dc,gc,pc,zc,wc⟩:=qvl hv c fc ic
 refine⟨_,_,qx5 ga (qx5 gb gc),?_,?_,?_,fun i hi=>?_⟩
 ·cases a with
  |none=>exact .inl rfl
  |some f x=>
   obtain⟨h1,h2⟩:=pa (by simp)
   refine .inr ⟨by simp[qhO,qlO],by simp only[qhO,qlO]; omega,?_⟩
   show (if 0<na then Da 0 else _)=0
   rw[if_pos h1,h2]
 ·have e:(hdC vs a 0).length=na:=ga.ln 0
  cases b with
  |none=>exact .inl rfl
  |some f x=>
   obtain⟨h1,h2⟩:=pb (by simp)
   refine .inr ⟨by simp only[qhy,qlO]; omega,by simp only[qhy,qlO,e]; omega,?_⟩
   show (if ((hdC vs a 0).length:Int).toNat<na then _ else if ((hdC vs a 0).length:Int).toNat-na<nb then _ else _)=0
   rw[e,if_neg (by omega),if_pos (by omega)]
   simp only[qhy,qlO,e]
   rw[show ((na:Nat):Int).toNat-na=0 by omega,h2]
 ·have e:(sq (hdC vs a) (hdC vs b) 0).length=na+nb:=qa9 ga.ln gb.ln 0
  cases c with
  |none=>exact .inl rfl
  |some f x=>
   obtain⟨h1,h2⟩:=pc (by simp)
   refine .inr ⟨by simp only[qhP,qlO]; omega,by simp only[qhP,qlO,e]; omega,?_⟩
   show (if ((sq (hdC vs a) (hdC vs b) 0).length:Int).toNat<na then _ else if ((sq (hdC vs a) (hdC vs b) 0).length:Int).toNat-na<nb then _ else _)=0
   rw[e,if_neg (by omega),if_neg (by omega)]
   simp only[qhP,qlO,e]
   rw[show ((na+nb:Nat):Int).toNat-na-nb=0 by omega,h2]
 ·show (if i<na then Da i else if i-na<nb then Db (i-na) else Dc (i-na-nb))<=_
  split
  ·have:=wa i (by omega); omega
  ·split
   ·have:=wb (i-na) (by omega); omega
   ·have:=wc (i-na-nb) (by omega); omega
theorem qpT {vs:List ByteArray} (hv:vs.length<=16) {a b c:Hd} (fa:a.ss.fine) (fb:b.ss.fine) (fc:c.ss.fine) (ia:a.ss.inV vs) (ib:b.ss.inV vs) (ic:c.ss.inV vs) :
  ∃ n D,Hg (sq (hdC vs a) (sq (hdC vs b) (hdC vs c))) n D/\(qhO a = -1\/(0<=qhO a/\qhO a<n/\D (qhO a).toNat=0))/\(qhy vs a b = -1\/(0<=qhy vs a b/\qhy vs a b<n/\D (qhy vs a b).toNat=0))/\(qhP vs a b c = -1\/(0<=qhP vs a b c/\qhP vs a b c<n/\D (qhP vs a b c).toNat=0)):=by
 obtain⟨n,D,g,p0,p1,p2,_⟩:=qne hv fa fb fc ia ib ic
 exact⟨n,D,g,p0,p1,p2⟩
section
variable{C:Int->Cd}{n:Nat}{D:Nat->Int}
theorem qsf{op x:Int}{n:Nat}(h:vOp op x 0 (0+n-1)):(qgQ op&&qzo op x n)=true:=by
 obtain⟨h0,h⟩:=h
 have hk:qgQ op=true:=by unfold qgQ; simp; omega
 unfold qzo
 rw[hk,Bool.true_and]
 split at h
 ·rw[if_pos (by assumption)]; simp; omega
 rw[if_neg (by assumption)]
 split at h
 ·rw[if_pos (by assumption)]; simp; omega
 rw[if_neg (by assumption)]
 split at h
 ·rw[if_pos (by assumption)]; simp; omega
 rw[if_neg (by assumption)]
 split at h
 ·rw[if_pos (by assumption)]; simp; omega
 rw[if_neg (by assumption)]
 split at h
 ·rw[if_pos (by assumption)]; simp; omega
 rw[if_neg (by assumption)]; simp; exact h
theorem qtH{c:Cd} : ∀ (m i:Nat),(∀ k,i<=k->k<i+m->okI c k=true)->okC c m i=true
 |0,_,_=>rfl
 |m+1,i,h=>by
  simp only[okC,Wq]
  exact⟨h i (by omega) (by omega),qtH m (i+1) fun k h1 h2=>h k (by omega) (by omega)⟩
theorem Hg.okC(g:Hg C n D):okC (C 0) (C 0).length 0=true:=
 qtH _ _ fun k _ h=>by
  have hl:=g.ln 0
  have:=qsf (g.ok 0 k (by omega))
  unfold okI
  rw[hl]; exact this
theorem Hg.cf(g:Hg C n D){e:Nat}(he:e<n)(h0:D e=0):CF (C 0) e D where
 zero:=h0
 pops:=fun i hi=>g.pop 0 i (by have:=Reach.lt (by rw[g.ln 0]; exact he) hi; rw[g.ln 0] at this; exact this)
 step:=fun i hi j hj hl=>by
  have hin:i<n:=by have:=Reach.lt (by rw[g.ln 0]; exact he) hi; rw[g.ln 0] at this; exact this
  rw[qvW] at hj
  have:=(g.flow 0 i hin j (by rw[show (0:Int)+i=i by omega]; exact hj)).2.2
  rw[show ((j:Int)-0).toNat=j by omega] at this
  exact this
theorem Hg.stop(g:Hg C n D){i:Nat}(hi:i<n)(h:opA (C 0) i=21):D i=0:=g.stp 0 i hi h
end
end
end Go.Pm
