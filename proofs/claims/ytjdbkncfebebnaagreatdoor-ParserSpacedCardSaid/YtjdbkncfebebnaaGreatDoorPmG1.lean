/- Chapter 13's generator: choices, expressions. Chapter 13's generator: all expressions. Chapter 13's generator: statements. Chapter 13's generator: blocks and whole programs. Chapter 13's generator: whole programs. Parse with other marks; its errors have a code; generated trees are good and not long. No program in sight. -/
import Derived.Test.YtjdbkncfebebnaaGreatDoorPmUe
import Derived.Test.YtjdbkncfebebnaaGreatDoorPmY
import Derived.Test.YtjdbkncfebebnaaGreatDoorPmYh
set_option linter.unusedSimpArgs false
set_option linter.unusedVariables false
section SG1
namespace Go.Pm
open F
theorem qnl {n m:Int} (h1:I64 n) (hm:1<=m):Z qbv (.call 17 [.int n,.int m] [])=some (.ret (.int (qib n m)) []):=by
 refine Z_call (pf:=F17) rfl rfl ?_
 unfold qib
 have hm0 : ¬ m=0:=by omega
 by_cases h:n<0
 ·have w1:IntKind.i64.wrap (n+1)=n+1:=qaf _ (by unfold I64 at h1; omega)
  have w2:IntKind.i64.wrap (-(n+1)) = -(n+1):=qaf _ (by unfold I64 at h1; omega)
  simp[F17,h,hm0,w1,w2]
 ·simp[F17,h,hm0]
abbrev qtY (v:D) (i:Int):S:=[.cells [.dat v,.int i]]
abbrev gst (xs:List Int) (i:Int):S:=qtY (qej xs) i
def qaB (xs:List Int) (i m:Int):Int:=if (xs.length:Int)<=i then 0 else (qib (xs.getD i.toNat 0) 1000000).tmod m
def qaE (xs:List Int) (i:Int):Int:=if (xs.length:Int)<=i then i else i+1
structure Bnd (v:D) (xs:List Int) (B:Int):Prop where
 row:RowV v xs
 len:(xs.length:Int)<=B
 big:B<=9223372036854775807
theorem qn6 (xs:List Int):RowV (qej xs) xs:=by
 cases xs
 ·exact .inl ⟨_,rfl,rfl⟩
 ·exact .inr rfl
theorem qbA {xs:List Int} (h:xs.length<=100):Bnd (qej xs) xs 100:=⟨qn6 xs,by omega,by omega⟩
theorem qay {v:D} {xs:List Int} {i B:Int} (h:0<=i/\i<=B) (hl:Bnd v xs B):0<=qaE xs i/\qaE xs i<=B:=by
 have:=hl.len
 unfold qaE; split<;>omega
theorem qav (xs:List Int) (i:Int):(qaE xs i=i+1/\i<xs.length)\/(qaE xs i=i /\ ∀ m,qaB xs i m=0):=by
 unfold qaE qaB
 split
 ·exact .inr ⟨rfl,fun m=>rfl⟩
 ·exact .inl ⟨rfl,by omega⟩
theorem qbi {xs:List Int} {i m:Int} (hx : ∀ x∈xs,I64 x) (hm:1<=m):0<=qaB xs i m/\qaB xs i m<m:=by
 unfold qaB
 split
 ·omega
 ·have h0:I64 (xs.getD i.toNat 0):=by
   rw[List.getD_eq_getElem?_getD]
   cases h:xs[i.toNat]? with
   | none=>simp[I64]
   | some y=>exact hx _ (List.mem_of_getElem? h)
  have:=qlk (m:=1000000) h0 (by omega)
  exact qht this.1 hm
theorem qbq {v:D} {xs:List Int} {i m B:Int} (hx : ∀ x∈xs,I64 x) (hl:Bnd v xs B) (hi:0<=i/\i<=B) (hm:1<=m) :
  Z qbv (.call 136 [.ptr 0 0,.int m] (qtY v i))=some (.ret (.int (qaB xs i m)) (qtY v (qaE xs i))):=by
 refine Z_call (pf:=F136) rfl rfl ?_
 have hm0:m≠0:=by omega
 have hb:=hl.len
 have hb2:=hl.big
 rcases hl.row with ⟨o,rfl,rfl⟩ | rfl
 ·have h:(0:Int)<=i:=hi.1
  simp[F136,h,qaB,qaE,V.len]
 by_cases h:(xs.length:Int)<=i
 ·simp[F136,h,qaB,qaE,V.len]
 ·have a1:=qdi (qcu xs) xs.length false i hi.1 (by omega)
  have hlt:i.toNat<xs.length:=by omega
  have a2:=qhF xs i.toNat hlt
  have a3:=qnl (n:=xs[i.toNat]) (m:=1000000) (hx _ (List.getElem_mem hlt)) (by omega)
  have w1:=qaf (i+1) (by omega)
  simp[F136,w1,h,qaB,qaE,V.len,a1,a2,a3,hm0,hlt]
section
variable (k:Int) (s:ByteArray) (a b a' b':Int) (t t':ByteArray) (d d':D)
theorem qpQ (h1:V.one (.dat d)=true) (h2:V.cells (.dat d)=[.dat d]) :
  Z qbv (.call 176 [.int k,.str s,.dat (.agg [.lit (.int .i64 a),.lit (.int .i64 b),.lit (.string t),d])] []) =
   some (.ret (.dat (.agg [.lit (.int .i64 k),.lit (.int .i64 0),.lit (.string s),.sl [.lit (.int .i64 a),.lit (.int .i64 b),.lit (.string t),d] 1 true])) []):=by
 refine Z_call (pf:=F176) rfl rfl ?_
 simp[F176,h1,h2]
theorem qn7 (h1:V.one (.dat d)=true) (h2:V.cells (.dat d)=[.dat d]) (h3:V.one (.dat d')=true) (h4:V.cells (.dat d')=[.dat d']) :
  Z qbv (.call 178 [.int k,.str s,.dat (.agg [.lit (.int .i64 a),.lit (.int .i64 b),.lit (.string t),d]),.dat (.agg [.lit (.int .i64 a'),.lit (.int .i64 b'),.lit (.string t'),d'])] []) =
   some (.ret (.dat (.agg [.lit (.int .i64 k),.lit (.int .i64 0),.lit (.string s),.sl [.lit (.int .i64 a),.lit (.int .i64 b),.lit (.string t),d,.lit (.int .i64 a'),.lit (.int .i64 b'),.lit (.string t'),d'] 2 true])) []):=by
 refine Z_call (pf:=F178) rfl rfl ?_
 simp[F178,h1,h2,h3,h4,List.range_succ]
end
def qn8:List ByteArray:=[⟨#[105]⟩,⟨#[110]⟩,⟨#[115,117,109]⟩,⟨#[118,51]⟩]
def qv3:List ByteArray:=qn8++[⟨#[118]⟩]
def qlt:List ByteArray:=[⟨#[115,101,108,102]⟩,⟨#[111,116,104,101,114]⟩,⟨#[116,105,99,107]⟩]
def qin:List ByteArray:=[⟨#[120]⟩,⟨#[121]⟩,⟨#[118,120]⟩,⟨#[118,121]⟩,⟨#[97]⟩,⟨#[98]⟩]
def qgj:List ByteArray:=qin++[⟨#[104,105,116]⟩,⟨#[115,116,105,108,108]⟩]
def E.fine:E->Prop
 | .int n=>0<=n/\n<=2147483647
 | .bool n=>n=0\/n=1
 | .var s=>s∈qv3
 | .name s=>s∈qlt
 | .field _ s e=>s∈qgj/\e.fine/\e.ty=1
 | .un _ neg e=>e.fine/\e.ty=if neg then 1 else 2
 | .bin _ o a b=>a.fine/\b.fine/\a.ty=o.opd/\b.ty=o.opd
def E.dp:E->Nat
 | .field _ _ e=>e.dp+1
 | .un _ _ e=>e.dp+1
 | .bin _ _ a b=>max a.dp b.dp+1
 | _=>0
def mxs:Nat->Nat
 | 0=>1
 | n+1=>2*mxs n+1
theorem qio (n:Nat):1<=mxs n:=by cases n<;>simp[mxs]
def GIb (B:Int) (v:D) (xs:List Int) (d i:Int):Prop := ∃ (e:E) (i':Int),(e.fine/\e.ty=1/\e.dp<=d.toNat/\e.size<=mxs d.toNat/\Co 2 e.cost xs i i')/\(0<=i'/\i'<=B) /\
 Z qbv (.call 177 [.ptr 0 0,.int d] (qtY v i))=some (.ret e.node (qtY v i'))
def GBb (B:Int) (v:D) (xs:List Int) (d i:Int):Prop := ∃ (e:E) (i':Int),(e.fine/\e.ty=2/\e.dp<=d.toNat+1/\e.size<=mxs (d.toNat+1)/\Co 6 e.cost xs i i')/\(0<=i'/\i'<=B) /\
 Z qbv (.call 179 [.ptr 0 0,.int d] (qtY v i))=some (.ret e.node (qtY v i'))
abbrev GI (xs:List Int):=GIb 100 (qej xs) xs
abbrev GB (xs:List Int):=GBb 100 (qej xs) xs
theorem qgN {l:List ByteArray} {p:Int} (h:0<=p/\p<l.length) : ∃ s∈l,cutCells (strC l) p.toNat 1=some [.lit (.string s)]:=
 ⟨_,List.getElem_mem (by omega:p.toNat<l.length),qfk l p.toNat (by omega)⟩
def nums:List Int:=[0,1,2,3,7,100,1024,2147483647]
def qut:List Bop:=[.add,.sub,.mul,.div]
theorem qtZ {p:Int} (h:0<=p/\p<4) : ∃ o∈qut,cutCells (strC [⟨#[43]⟩,⟨#[45]⟩,⟨#[42]⟩,⟨#[47]⟩]) p.toNat 1=some [.lit (.string (Bop.str o))]:=by
 obtain rfl | rfl | rfl | rfl:p=0\/p=1\/p=2\/p=3:=by omega
 ·exact⟨.add,by simp[qut],rfl⟩
 ·exact⟨.sub,by simp[qut],rfl⟩
 ·exact⟨.mul,by simp[qut],rfl⟩
 ·exact⟨.div,by simp[qut],rfl⟩
section
variable {v:D} {xs:List Int} {i d B:Int} (hx : ∀ x∈xs,I64 x) (hl:Bnd v xs B) (hi:0<=i/\i<=B)
include hx hl hi
def qjs (xs:List Int) (d i:Int):Int:=if d<=0 then (qaB xs i 12).tmod 6 else qaB xs i 12
theorem qpR (h:qjs xs d i=0\/qjs xs d i=1):GIb B v xs d i:=by
 have n1:=qbq (i:=i) (m:=12) hx hl hi (by omega)
 have r1:=qay hi hl
 have n2:=qbq (i:=qaE xs i) (m:=8) hx hl r1 (by omega)
 have r2:=qay r1 hl
 have p:=qbi (i:=qaE xs i) (m:=8) hx (by omega)
 have hat:=qdi (qcu nums) 8 true (qaB xs (qaE xs i) 8) p.1 (by omega)
 have hc:=qhF nums (qaB xs (qaE xs i) 8).toNat (by simp[nums]; omega)
 have hm : ∀ n∈nums,0<=n/\n<=2147483647:=by decide
 have hn:=hm _ (List.getElem_mem (l:=nums) (n:=(qaB xs (qaE xs i) 8).toNat) (by simp[nums]; omega))
 have hlen:(qaB xs (qaE xs i) 8).toNat<nums.length:=by simp[nums]; omega
 have hco:Co 2 (E.cost (.int (nums[(qaB xs (qaE xs i) 8).toNat]'hlen))) xs i (qaE xs (qaE xs i)):=by
  have hcs : ∀ n∈nums,E.cost (.int n)<=11:=by decide +kernel
  have h11:=hcs _ (List.getElem_mem hlen)
  have h0 : ∀ (k:Nat) (hk:k<nums.length),k=0->E.cost (.int (nums[k]'hk))=2:=fun k hk e=>by subst e; exact (by decide +kernel:E.cost (.int 0)=2)
  have hz:=h0 _ hlen
  unfold Co
  rcases qav xs i with ⟨e1,l1⟩ | ⟨e1,l1⟩
  ·rcases qav xs (qaE xs i) with ⟨e2,l2⟩ | ⟨e2,l2⟩<;>omega
  ·have e3:qaB xs (qaE xs i) 8=0:=by rw[e1]; exact l1 8
   have e4:=hz (by rw[e3]; rfl)
   rcases qav xs (qaE xs i) with ⟨e2,l2⟩ | ⟨e2,l2⟩<;>omega
 generalize nums[(qaB xs (qaE xs i) 8).toNat]'_=vv at hc hn hco
 simp only[nums,qcu,List.map] at hat hc
 refine⟨.int vv,_,⟨hn,rfl,Nat.zero_le _,qio _,hco⟩,r2,?_⟩
 refine Z_call (pf:=F177) rfl rfl ?_
 unfold qjs at h
 by_cases hd:d<=0
 ·rw[if_pos hd] at h
  rcases h with h | h<;>simp[F177,n1,n2,hd,h,hat,hc]
 ·rw[if_neg hd] at h
  rcases h with h | h<;>simp[F177,n1,n2,hd,h,hat,hc]
theorem qpS (h:qjs xs d i=2\/qjs xs d i=3):GIb B v xs d i:=by
 have n1:=qbq (i:=i) (m:=12) hx hl hi (by omega)
 have r1:=qay hi hl
 have n2:=qbq (i:=qaE xs i) (m:=4) hx hl r1 (by omega)
 have r2:=qay r1 hl
 have p:=qbi (i:=qaE xs i) (m:=4) hx (by omega)
 have hat:=qdi (strC qn8) 4 true (qaB xs (qaE xs i) 4) p.1 (by omega)
 obtain⟨s,hs,hc⟩:=qgN (l:=qn8) (p:=qaB xs (qaE xs i) 4) (by simpa [qn8] using p)
 simp only[qn8,strC,List.map] at hat hc
 have hsel:qaB xs i 12≠0:=fun h0=>by
  unfold qjs at h
  rw[h0] at h
  split at h<;>simp at h
 have hco:Co 2 (E.cost (.var s)) xs i (qaE xs (qaE xs i)):=by
  have hcs : ∀ s∈qn8,s.size<=5:=by decide
  have h5:=hcs s hs
  show _/\_/\((s.size+1:Nat):Int)<=_
  rcases qav xs i with ⟨e1,l1⟩ | ⟨e1,l1⟩
  ·rcases qav xs (qaE xs i) with ⟨e2,l2⟩ | ⟨e2,l2⟩<;>omega
  ·exact absurd (l1 12) hsel
 refine⟨.var s,_,⟨List.mem_append_left _ hs,rfl,Nat.zero_le _,qio _,hco⟩,r2,?_⟩
 refine Z_call (pf:=F177) rfl rfl ?_
 unfold qjs at h
 by_cases hd:d<=0
 ·rw[if_pos hd] at h
  rcases h with h | h<;>simp[F177,n1,n2,hd,h,hat,hc]
 ·rw[if_neg hd] at h
  rcases h with h | h<;>simp[F177,n1,n2,hd,h,hat,hc]
theorem qnm (h:qjs xs d i=4\/qjs xs d i=5):GIb B v xs d i:=by
 have n1:=qbq (i:=i) (m:=12) hx hl hi (by omega)
 have r1:=qay hi hl
 have n2:=qbq (i:=qaE xs i) (m:=3) hx hl r1 (by omega)
 have r2:=qay r1 hl
 have p:=qbi (i:=qaE xs i) (m:=3) hx (by omega)
 have hat:=qdi (strC qlt) 3 true (qaB xs (qaE xs i) 3) p.1 (by omega)
 obtain⟨s,hs,hc⟩:=qgN (l:=qlt) (p:=qaB xs (qaE xs i) 3) (by simpa [qlt] using p)
 simp only[qlt,strC,List.map] at hat hc
 have hsel:qaB xs i 12≠0:=fun h0=>by
  unfold qjs at h
  rw[h0] at h
  split at h<;>simp at h
 have hco:Co 2 (E.cost (.name s)) xs i (qaE xs (qaE xs i)):=by
  have hcs : ∀ s∈qlt,s.size<=5:=by decide
  have h5:=hcs s hs
  show _/\_/\((s.size+1:Nat):Int)<=_
  rcases qav xs i with ⟨e1,l1⟩ | ⟨e1,l1⟩
  ·rcases qav xs (qaE xs i) with ⟨e2,l2⟩ | ⟨e2,l2⟩<;>omega
  ·exact absurd (l1 12) hsel
 refine⟨.name s,_,⟨hs,rfl,Nat.zero_le _,qio _,hco⟩,r2,?_⟩
 refine Z_call (pf:=F177) rfl rfl ?_
 unfold qjs at h
 by_cases hd:d<=0
 ·rw[if_pos hd] at h
  rcases h with h | h<;>simp[F177,n1,n2,hd,h,hat,hc]
 ·rw[if_neg hd] at h
  rcases h with h | h<;>simp[F177,n1,n2,hd,h,hat,hc]
theorem qpT (hd : ¬ d<=0) (hd2:d<=1000) (ih : ∀ j,0<=j/\j<=B->GIb B v xs (d-1) j) (h:qaB xs i 12=6\/qaB xs i 12=7):GIb B v xs d i:=by
 have n1:=qbq (i:=i) (m:=12) hx hl hi (by omega)
 have r1:=qay hi hl
 have n2:=qbq (i:=qaE xs i) (m:=8) hx hl r1 (by omega)
 have r2:=qay r1 hl
 have p:=qbi (i:=qaE xs i) (m:=8) hx (by omega)
 have hat:=qdi (strC qgj) 8 true (qaB xs (qaE xs i) 8) p.1 (by omega)
 obtain⟨s,hs,hc⟩:=qgN (l:=qgj) (p:=qaB xs (qaE xs i) 8) (by simpa [qgj,qin] using p)
 simp only[qgj,qin,strC,List.map,List.cons_append,List.nil_append] at hat hc
 obtain⟨e,i',h1,h2,h3⟩:=ih _ r2
 have o:=qpQ 11 s e.kind e.num e.str e.kids (by simp) (by simp)
 have w1:=qaf (d-1) (by omega)
 have ed:d.toNat=(d-1).toNat+1:=by omega
 have hco:Co 2 (E.cost (.field true s e)) xs i i':=by
  have hcs : ∀ s∈qgj,s.size<=5:=by decide
  have h5:=hcs s hs
  obtain⟨q1,q2,q3⟩:=h1.2.2.2.2
  show _/\_/\((s.size+5+e.cost:Nat):Int)<=_
  rcases qav xs i with ⟨e1,l1⟩ | ⟨e1,l1⟩
  ·rcases qav xs (qaE xs i) with ⟨e2,l2⟩ | ⟨e2,l2⟩<;>omega
  ·exact absurd (l1 12) (by omega)
 refine⟨.field true s e,i',⟨⟨hs,h1.1,h1.2.1⟩,by simp[h1.2.1],by rw[ed]; simp only[E.dp]; omega,by rw[ed]; simp only[mxs,qn3]; omega,hco⟩,h2,?_⟩
 refine Z_call (pf:=F177) rfl rfl ?_
 rcases h with h | h<;>simp[F177,n1,n2,hd,h,hat,hc,h3,o,w1]
theorem qt0 (hd : ¬ d<=0) (hd2:d<=1000) (ih : ∀ j,0<=j/\j<=B->GIb B v xs (d-1) j) (h:qaB xs i 12=8):GIb B v xs d i:=by
 have n1:=qbq (i:=i) (m:=12) hx hl hi (by omega)
 have r1:=qay hi hl
 obtain⟨e,i',h1,h2,h3⟩:=ih _ r1
 have o:=qpQ 13 ⟨#[45]⟩ e.kind e.num e.str e.kids (by simp) (by simp)
 have w1:=qaf (d-1) (by omega)
 have ed:d.toNat=(d-1).toNat+1:=by omega
 have hco:Co 2 (E.cost (.un true true e)) xs i i':=by
  obtain⟨q1,q2,q3⟩:=h1.2.2.2.2
  show _/\_/\((6+e.cost:Nat):Int)<=_
  rcases qav xs i with ⟨e1,l1⟩ | ⟨e1,l1⟩
  ·omega
  ·exact absurd (l1 12) (by omega)
 refine⟨.un true true e,i',⟨⟨h1.1,h1.2.1⟩,by simp[h1.2.1],by rw[ed]; simp only[E.dp]; omega,by rw[ed]; simp only[mxs,qmh]; omega,hco⟩,h2,?_⟩
 refine Z_call (pf:=F177) rfl rfl ?_
 simp[F177,n1,hd,h,h3,o,w1,ustr]
theorem qt1 (hd : ¬ d<=0) (hd2:d<=1000) (ih : ∀ j,0<=j/\j<=B->GIb B v xs (d-1) j) (h:9<=qaB xs i 12):GIb B v xs d i:=by
 have n1:=qbq (i:=i) (m:=12) hx hl hi (by omega)
 have r1:=qay hi hl
 have n2:=qbq (i:=qaE xs i) (m:=4) hx hl r1 (by omega)
 have r2:=qay r1 hl
 have p:=qbi (i:=qaE xs i) (m:=4) hx (by omega)
 have hat:=qdi (strC [⟨#[43]⟩,⟨#[45]⟩,⟨#[42]⟩,⟨#[47]⟩]) 4 true (qaB xs (qaE xs i) 4) p.1 (by omega)
 obtain⟨o,ho,hc⟩:=qtZ p
 simp only[strC,List.map] at hat hc
 obtain⟨a,i1,h1,h2,h3⟩:=ih _ r2
 obtain⟨b,i2,h4,h5,h6⟩:=ih _ h2
 have ot:=qn7 14 o.str a.kind a.num b.kind b.num a.str b.str a.kids b.kids (by simp) (by simp) (by simp) (by simp)
 have w1:=qaf (d-1) (by omega)
 have ed:d.toNat=(d-1).toNat+1:=by omega
 have ho1:o.opd=1/\o.res=1:=by
  simp only[qut,List.mem_cons,List.not_mem_nil,or_false] at ho
  rcases ho with rfl | rfl | rfl | rfl<;>exact⟨rfl,rfl⟩
 have hco:Co 2 (E.cost (.bin true o a b)) xs i i2:=by
  have ho2:o.str.size<=2:=by cases o<;>decide
  obtain⟨q1,q2,q3⟩:=h1.2.2.2.2
  obtain⟨q4,q5,q6⟩:=h4.2.2.2.2
  show _/\_/\((o.str.size+5+(a.cost+b.cost):Nat):Int)<=_
  rcases qav xs i with ⟨e1,l1⟩ | ⟨e1,l1⟩
  ·rcases qav xs (qaE xs i) with ⟨e2,l2⟩ | ⟨e2,l2⟩<;>omega
  ·exact absurd (l1 12) (by omega)
 refine⟨.bin true o a b,i2,⟨⟨h1.1,h4.1,by rw[ho1.1]; exact h1.2.1,by rw[ho1.1]; exact h4.2.1⟩,by simp[h1.2.1,h4.2.1,ho1.1,ho1.2],by rw[ed]; simp only[E.dp]; omega,by rw[ed]; simp only[mxs,qhu]; omega,hco⟩,h5,?_⟩
 refine Z_call (pf:=F177) rfl rfl ?_
 have k0 : ¬ qaB xs i 12=0:=by omega
 have k1 : ¬ qaB xs i 12=1:=by omega
 have k2 : ¬ qaB xs i 12=2:=by omega
 have k3 : ¬ qaB xs i 12=3:=by omega
 have k4 : ¬ qaB xs i 12=4:=by omega
 have k5 : ¬ qaB xs i 12=5:=by omega
 have k6 : ¬ qaB xs i 12=6:=by omega
 have k7 : ¬ qaB xs i 12=7:=by omega
 have k8 : ¬ qaB xs i 12=8:=by omega
 simp[F177,n1,n2,hd,k0,k1,k2,k3,k4,k5,k6,k7,k8,hat,hc,h3,h6,ot,w1]
end
end Go.Pm
end SG1
section SG2
namespace Go.Pm
open F
theorem qo1 {v:D} {xs:List Int} {B:Int} (hx : ∀ x∈xs,I64 x) (hl:Bnd v xs B) : ∀ (n:Nat) (d i:Int),d<=n->n<=1000->(0<=i/\i<=B)->GIb B v xs d i
 | n,d,i,hd,hn,hi=>by
  have p:=qbi (i:=i) (m:=12) hx (by omega)
  by_cases h0:d<=0
  ·have q:=qht p.1 (m:=6) (by omega)
   have e:qjs xs d i=(qaB xs i 12).tmod 6:=if_pos h0
   by_cases h1:qjs xs d i<2
   ·exact qpR hx hl hi (by omega)
   by_cases h2:qjs xs d i<4
   ·exact qpS hx hl hi (by omega)
   ·exact qnm hx hl hi (by omega)
  ·have e:qjs xs d i=qaB xs i 12:=if_neg h0
   by_cases h1:qjs xs d i<2
   ·exact qpR hx hl hi (by omega)
   by_cases h2:qjs xs d i<4
   ·exact qpS hx hl hi (by omega)
   by_cases h3:qjs xs d i<6
   ·exact qnm hx hl hi (by omega)
   cases n with
   | zero=>omega
   | succ n=>
    have ih : ∀ j,0<=j/\j<=B->GIb B v xs (d-1) j:=fun j hj=>qo1 hx hl n (d-1) j (by omega) (by omega) hj
    by_cases h4:qjs xs d i<8
    ·exact qpT hx hl hi h0 (by omega) ih (by omega)
    by_cases h5:qjs xs d i=8
    ·exact qt0 hx hl hi h0 (by omega) ih (by omega)
    ·exact qt1 hx hl hi h0 (by omega) ih (by omega)
def qrV:List Bop:=[.lt,.le,.gt,.ge,.eq,.ne]
theorem qs2 {p:Int} (h:0<=p/\p<6) : ∃ o∈qrV,cutCells (strC [⟨#[60]⟩,⟨#[60,61]⟩,⟨#[62]⟩,⟨#[62,61]⟩,⟨#[61,61]⟩,⟨#[33,61]⟩]) p.toNat 1=some [.lit (.string (Bop.str o))]:=by
 obtain rfl | rfl | rfl | rfl | rfl | rfl:p=0\/p=1\/p=2\/p=3\/p=4\/p=5:=by omega
 ·exact⟨.lt,by simp[qrV],rfl⟩
 ·exact⟨.le,by simp[qrV],rfl⟩
 ·exact⟨.gt,by simp[qrV],rfl⟩
 ·exact⟨.ge,by simp[qrV],rfl⟩
 ·exact⟨.eq,by simp[qrV],rfl⟩
 ·exact⟨.ne,by simp[qrV],rfl⟩
def qwr:List Bop:=[.and,.or]
theorem qs3 {p:Int} (h:0<=p/\p<2) : ∃ o∈qwr,cutCells (strC [⟨#[38,38]⟩,⟨#[124,124]⟩]) p.toNat 1=some [.lit (.string (Bop.str o))]:=by
 obtain rfl | rfl:p=0\/p=1:=by omega
 ·exact⟨.and,by simp[qwr],rfl⟩
 ·exact⟨.or,by simp[qwr],rfl⟩
def qo2 (xs:List Int) (d i:Int):Int:=if d<=0 then (qaB xs i 8).tmod 4 else qaB xs i 8
section
variable {v:D} {xs:List Int} {i d B:Int} (hx : ∀ x∈xs,I64 x) (hl:Bnd v xs B) (hi:0<=i/\i<=B)
include hx hl hi
theorem qmQ (h:qo2 xs d i=0):GBb B v xs d i:=by
 have n1:=qbq (i:=i) (m:=8) hx hl hi (by omega)
 have r1:=qay hi hl
 have n2:=qbq (i:=qaE xs i) (m:=2) hx hl r1 (by omega)
 have r2:=qay r1 hl
 have p:=qbi (i:=qaE xs i) (m:=2) hx (by omega)
 have hco:Co 6 (E.cost (.bool (qaB xs (qaE xs i) 2))) xs i (qaE xs (qaE xs i)):=by
  have hb:E.cost (.bool (qaB xs (qaE xs i) 2))<=6:=by simp only[E.cost]; split<;>omega
  unfold Co
  rcases qav xs i with ⟨e1,l1⟩ | ⟨e1,l1⟩<;>rcases qav xs (qaE xs i) with ⟨e2,l2⟩ | ⟨e2,l2⟩<;>omega
 refine⟨.bool (qaB xs (qaE xs i) 2),_,⟨by show _\/_; omega,rfl,Nat.zero_le _,qio _,hco⟩,r2,?_⟩
 refine Z_call (pf:=F179) rfl rfl ?_
 unfold qo2 at h
 by_cases hd:d<=0
 ·rw[if_pos hd] at h
  simp[F179,n1,n2,hd,h]
 ·rw[if_neg hd] at h
  simp[F179,n1,n2,hd,h]
theorem qmR (hd2:d<=1000) (hd3 : -1000<=d) (ih : ∀ j,0<=j/\j<=B->GIb B v xs (d-1) j) (h:1<=qo2 xs d i/\qo2 xs d i<=4):GBb B v xs d i:=by
 have n1:=qbq (i:=i) (m:=8) hx hl hi (by omega)
 have r1:=qay hi hl
 have n2:=qbq (i:=qaE xs i) (m:=6) hx hl r1 (by omega)
 have r2:=qay r1 hl
 have p:=qbi (i:=qaE xs i) (m:=6) hx (by omega)
 have hat:=qdi (strC [⟨#[60]⟩,⟨#[60,61]⟩,⟨#[62]⟩,⟨#[62,61]⟩,⟨#[61,61]⟩,⟨#[33,61]⟩]) 6 true (qaB xs (qaE xs i) 6) p.1 (by omega)
 obtain⟨o,ho,hc⟩:=qs2 p
 simp only[strC,List.map] at hat hc
 obtain⟨a,i1,h1,h2,h3⟩:=ih _ r2
 obtain⟨b,i2,h4,h5,h6⟩:=ih _ h2
 have ot:=qn7 14 o.str a.kind a.num b.kind b.num a.str b.str a.kids b.kids (by simp) (by simp) (by simp) (by simp)
 have w1:=qaf (d-1) (by omega)
 have ed:(d-1).toNat<=d.toNat:=by omega
 have hm:mxs (d-1).toNat<=mxs d.toNat:=by
  by_cases h0:d<=0
  ·rw[show (d-1).toNat=0 by omega]; exact qio _
  ·rw[show d.toNat=(d-1).toNat+1 by omega]; simp only[mxs]; omega
 have ho1:o.opd=1/\o.res=2:=by
  simp only[qrV,List.mem_cons,List.not_mem_nil,or_false] at ho
  rcases ho with rfl | rfl | rfl | rfl | rfl | rfl<;>exact⟨rfl,rfl⟩
 have hco:Co 6 (E.cost (.bin true o a b)) xs i i2:=by
  have ho2:o.str.size<=2:=by cases o<;>decide
  obtain⟨q1,q2,q3⟩:=h1.2.2.2.2
  obtain⟨q4,q5,q6⟩:=h4.2.2.2.2
  show _/\_/\((o.str.size+5+(a.cost+b.cost):Nat):Int)<=_
  rcases qav xs i with ⟨e1,l1⟩ | ⟨e1,l1⟩
  ·rcases qav xs (qaE xs i) with ⟨e2,l2⟩ | ⟨e2,l2⟩<;>omega
  ·exact absurd (l1 8) (fun h0=>by
    unfold qo2 at h
    rw[h0] at h
    split at h<;>simp at h)
 refine⟨.bin true o a b,i2,⟨⟨h1.1,h4.1,by rw[ho1.1]; exact h1.2.1,by rw[ho1.1]; exact h4.2.1⟩,by simp[h1.2.1,h4.2.1,ho1.1,ho1.2],by simp only[E.dp]; omega,by simp only[mxs,qhu]; omega,hco⟩,h5,?_⟩
 refine Z_call (pf:=F179) rfl rfl ?_
 unfold qo2 at h
 by_cases hd:d<=0
 ·rw[if_pos hd] at h
  obtain h' | h' | h' | h':(qaB xs i 8).tmod 4=1\/(qaB xs i 8).tmod 4=2\/(qaB xs i 8).tmod 4=3\/(qaB xs i 8).tmod 4=4:=by omega
  all_goals simp[F179,n1,n2,hd,h',hat,hc,h3,h6,ot,w1]
 ·rw[if_neg hd] at h
  obtain h' | h' | h' | h':qaB xs i 8=1\/qaB xs i 8=2\/qaB xs i 8=3\/qaB xs i 8=4:=by omega
  all_goals simp[F179,n1,n2,hd,h',hat,hc,h3,h6,ot,w1]
theorem qqS (hd : ¬ d<=0) (hd2:d<=1000) (ih : ∀ j,0<=j/\j<=B->GBb B v xs (d-1) j) (h:qaB xs i 8=5):GBb B v xs d i:=by
 have n1:=qbq (i:=i) (m:=8) hx hl hi (by omega)
 have r1:=qay hi hl
 obtain⟨e,i',h1,h2,h3⟩:=ih _ r1
 have o:=qpQ 13 ⟨#[33]⟩ e.kind e.num e.str e.kids (by simp) (by simp)
 have w1:=qaf (d-1) (by omega)
 have ed:d.toNat=(d-1).toNat+1:=by omega
 have hco:Co 6 (E.cost (.un true false e)) xs i i':=by
  obtain⟨q1,q2,q3⟩:=h1.2.2.2.2
  show _/\_/\((6+e.cost:Nat):Int)<=_
  rcases qav xs i with ⟨e1,l1⟩ | ⟨e1,l1⟩
  ·omega
  ·exact absurd (l1 8) (by omega)
 refine⟨.un true false e,i',⟨⟨h1.1,h1.2.1⟩,by simp[h1.2.1],by rw[ed]; simp only[E.dp]; omega,by rw[ed]; have:=h1.2.2.2.1; simp only[mxs,qmh] at *; omega,hco⟩,h2,?_⟩
 refine Z_call (pf:=F179) rfl rfl ?_
 simp[F179,n1,hd,h,h3,o,w1,ustr]
theorem qqT (hd : ¬ d<=0) (hd2:d<=1000) (ih : ∀ j,0<=j/\j<=B->GBb B v xs (d-1) j) (h:qaB xs i 8=6\/qaB xs i 8=7):GBb B v xs d i:=by
 have n1:=qbq (i:=i) (m:=8) hx hl hi (by omega)
 have r1:=qay hi hl
 have n2:=qbq (i:=qaE xs i) (m:=2) hx hl r1 (by omega)
 have r2:=qay r1 hl
 have p:=qbi (i:=qaE xs i) (m:=2) hx (by omega)
 have hat:=qdi (strC [⟨#[38,38]⟩,⟨#[124,124]⟩]) 2 true (qaB xs (qaE xs i) 2) p.1 (by omega)
 obtain⟨o,ho,hc⟩:=qs3 p
 simp only[strC,List.map] at hat hc
 obtain⟨a,i1,h1,h2,h3⟩:=ih _ r2
 obtain⟨b,i2,h4,h5,h6⟩:=ih _ h2
 have ot:=qn7 14 o.str a.kind a.num b.kind b.num a.str b.str a.kids b.kids (by simp) (by simp) (by simp) (by simp)
 have w1:=qaf (d-1) (by omega)
 have ed:d.toNat=(d-1).toNat+1:=by omega
 have ho1:o.opd=2/\o.res=2:=by
  simp only[qwr,List.mem_cons,List.not_mem_nil,or_false] at ho
  rcases ho with rfl | rfl<;>exact⟨rfl,rfl⟩
 have hco:Co 6 (E.cost (.bin true o a b)) xs i i2:=by
  have ho2:o.str.size<=2:=by cases o<;>decide
  obtain⟨q1,q2,q3⟩:=h1.2.2.2.2
  obtain⟨q4,q5,q6⟩:=h4.2.2.2.2
  show _/\_/\((o.str.size+5+(a.cost+b.cost):Nat):Int)<=_
  rcases qav xs i with ⟨e1,l1⟩ | ⟨e1,l1⟩
  ·rcases qav xs (qaE xs i) with ⟨e2,l2⟩ | ⟨e2,l2⟩<;>omega
  ·exact absurd (l1 8) (by omega)
 refine⟨.bin true o a b,i2,⟨⟨h1.1,h4.1,by rw[ho1.1]; exact h1.2.1,by rw[ho1.1]; exact h4.2.1⟩,by simp[h1.2.1,h4.2.1,ho1.1,ho1.2],by rw[ed]; simp only[E.dp]; omega,by rw[ed]; have:=h1.2.2.2.1; have:=h4.2.2.2.1; simp only[mxs,qhu] at *; omega,hco⟩,h5,?_⟩
 refine Z_call (pf:=F179) rfl rfl ?_
 rcases h with h | h<;>simp[F179,n1,n2,hd,h,hat,hc,h3,h6,ot,w1]
end
theorem qo3 {v:D} {xs:List Int} {B:Int} (hx : ∀ x∈xs,I64 x) (hl:Bnd v xs B) : ∀ (n:Nat) (d i:Int),d<=n -> -100<=d->n<=1000->(0<=i/\i<=B)->GBb B v xs d i
 | n,d,i,hd,hd',hn,hi=>by
  have p:=qbi (i:=i) (m:=8) hx (by omega)
  have ihI : ∀ j,0<=j/\j<=B->GIb B v xs (d-1) j:=fun j hj=>qo1 hx hl n (d-1) j (by omega) (by omega) hj
  by_cases h0:d<=0
  ·have q:=qht p.1 (m:=4) (by omega)
   have e:qo2 xs d i=(qaB xs i 8).tmod 4:=if_pos h0
   by_cases h1:qo2 xs d i=0
   ·exact qmQ hx hl hi h1
   ·exact qmR hx hl hi (by omega) (by omega) ihI (by omega)
  ·have e:qo2 xs d i=qaB xs i 8:=if_neg h0
   by_cases h1:qo2 xs d i=0
   ·exact qmQ hx hl hi h1
   by_cases h2:qo2 xs d i<=4
   ·exact qmR hx hl hi (by omega) (by omega) ihI (by omega)
   cases n with
   | zero=>omega
   | succ n=>
    have ih : ∀ j,0<=j/\j<=B->GBb B v xs (d-1) j:=fun j hj=>qo3 hx hl n (d-1) j (by omega) (by omega) (by omega) hj
    by_cases h4:qaB xs i 8=5
    ·exact qqS hx hl hi h0 (by omega) ih h4
    ·exact qqT hx hl hi h0 (by omega) ih (by omega)
theorem qnJ {xs:List Int} (hx : ∀ x∈xs,I64 x) (hl:xs.length<=100) (n:Nat) (d i:Int) (hd:d<=n) (hn:n<=1000) (hi:0<=i/\i<=100):GI xs d i:=qo1 hx (qbA hl) n d i hd hn hi
theorem qrW {xs:List Int} (hx : ∀ x∈xs,I64 x) (hl:xs.length<=100) (n:Nat) (d i:Int) (hd:d<=n) (hd' : -100<=d) (hn:n<=1000) (hi:0<=i/\i<=100):GB xs d i:=qo3 hx (qbA hl) n d i hd hd' hn hi
end Go.Pm
end SG2
section SG3
namespace Go.Pm
open F
def Ss.fine:Ss->Prop
 | .nil=>True
 | .assign _ s e r=>(s∈qv3/\e.fine/\e.ty=1)/\r.fine
 | .store _ s a b r=>(s∈qin/\a.fine/\a.ty=1/\b.fine/\b.ty=1)/\r.fine
 | .effect _ a b r=>(a.fine/\a.ty=1/\b.fine/\b.ty=1)/\r.fine
 | .stop r=>r.fine
 | .cond false _ c (.block _ x (.block _ y .nil)) r=>(c.fine/\c.ty=2)/\x.fine/\y.fine/\r.fine
 | .cond true _ c (.block _ x .nil) r=>(c.fine/\c.ty=2)/\x.fine/\r.fine
 | _=>False
def Ss.dp:Ss->Nat
 | .nil=>0
 | .assign _ _ _ r=>r.dp
 | .store _ _ _ _ r=>r.dp
 | .effect _ _ _ r=>r.dp
 | .stop r=>r.dp
 | .cond _ _ _ b r=>max (b.dp+1) r.dp
 | .block _ b r=>max b.dp r.dp
def Ss.edp:Ss->Nat
 | .nil=>0
 | .assign _ _ e r=>max e.dp r.edp
 | .store _ _ a b r=>max (max a.dp b.dp) r.edp
 | .effect _ a b r=>max (max a.dp b.dp) r.edp
 | .stop r=>r.edp
 | .cond _ _ c b r=>max (max c.dp b.edp) r.edp
 | .block _ b r=>max b.edp r.edp
def ssz:Nat->Nat
 | 0=>20
 | n+1=>20+4*ssz n
theorem qjT (n:Nat):20<=ssz n:=by cases n<;>simp[ssz]
def GS (xs:List Int) (d i:Int):Prop := ∃ (st:Ss) (k n:Int) (s:ByteArray) (f:Bool) (ks:Fo) (i':Int),st.fo = .cons k n s f ks .nil /\
 (st.fine/\st.dp<=d.toNat/\st.edp<=3/\st.fo.size<=ssz d.toNat/\Co 8 st.cost xs i i')/\(0<=i'/\i'<=100)/\Z qbv (.call 162 [.ptr 0 0,.int d] (gst xs i))=some (.ret (nd k n s f ks) (gst xs i'))
def GK (xs:List Int) (d m i:Int):Prop := ∃ (b:Ss) (i':Int),(b.fine/\b.dp<=d.toNat/\b.edp<=3/\b.fo.size<=m.toNat*ssz d.toNat/\Co 0 b.cost xs i i')/\(0<=i'/\i'<=100) /\
 Z qbv (.call 137 [.ptr 0 0,.int d,.int m] (gst xs i))=some (.ret (nd 7 0 ⟨#[]⟩ false b.fo) (gst xs i'))
def qhc (xs:List Int) (d i:Int):Int:=if d<=0 then (qaB xs i 10).tmod 7 else qaB xs i 10
section
variable {xs:List Int} {i d:Int} (hx : ∀ x∈xs,I64 x) (hl:xs.length<=100) (hi:0<=i/\i<=100)
include hx hl hi
theorem qkY (h:qhc xs d i=0\/qhc xs d i=1):GS xs d i:=by
 have n1:=qbq (i:=i) (m:=10) hx (qbA hl) hi (by omega)
 have r1:=qay hi (qbA hl)
 have n2:=qbq (i:=qaE xs i) (m:=4) hx (qbA hl) r1 (by omega)
 have r2:=qay r1 (qbA hl)
 have p:=qbi (i:=qaE xs i) (m:=4) hx (by omega)
 have hat:=qdi (strC qn8) 4 true (qaB xs (qaE xs i) 4) p.1 (by omega)
 obtain⟨s,hs,hc⟩:=qgN (l:=qn8) (p:=qaB xs (qaE xs i) 4) (by simpa [qn8] using p)
 simp only[qn8,strC,List.map] at hat hc
 obtain⟨e,i',h1,h2,h3⟩:=qnJ hx hl 2 2 _ (by omega) (by omega) r2
 rw[show (2:Int).toNat=2 from rfl] at h1
 have o:=qpQ 1 s e.kind e.num e.str e.kids (by simp) (by simp)
 have hz:mxs 2=7:=rfl
 have hp:=qjT d.toNat
 have hco:Co 8 (Ss.cost (.assign true s e .nil)) xs i i':=by
  obtain⟨q1,q2,q3⟩:=h1.2.2.2.2
  have hcs : ∀ s∈qn8,s.size<=3:=by decide
  have h5:=hcs s hs
  show _/\_/\((s.size+5+e.cost+0:Nat):Int)<=_
  rcases qav xs i with ⟨e1,l1⟩ | ⟨e1,l1⟩
  ·rcases qav xs (qaE xs i) with ⟨e2,l2⟩ | ⟨e2,l2⟩<;>omega
  ·have e3:qaB xs (qaE xs i) 4=0:=by rw[e1]; exact l1 4
   have hs1:s.size=1:=by
    rw[e3] at hc
    simp at hc
    rw[<- hc]
    rfl
   rcases qav xs (qaE xs i) with ⟨e2,l2⟩ | ⟨e2,l2⟩<;>omega
 refine⟨.assign true s e .nil,1,0,s,true,e.fo .nil,i',rfl,⟨⟨⟨List.mem_append_left _ hs,h1.1,h1.2.1⟩,trivial⟩,Nat.zero_le _,by simp only[Ss.edp]; omega,by simp only[Ss.fo,qbp,qdL,qbT]; omega,hco⟩,h2,?_⟩
 refine Z_call (pf:=F162) rfl rfl ?_
 unfold qhc at h
 by_cases hd:d<=0
 ·rw[if_pos hd] at h
  rcases h with h | h<;>simp[F162,n1,n2,hd,h,hat,hc,h3,o]
 ·rw[if_neg hd] at h
  rcases h with h | h<;>simp[F162,n1,n2,hd,h,hat,hc,h3,o]
theorem qmM (h:qhc xs d i=2\/qhc xs d i=3\/qhc xs d i=4):GS xs d i:=by
 have n1:=qbq (i:=i) (m:=10) hx (qbA hl) hi (by omega)
 have r1:=qay hi (qbA hl)
 have n2:=qbq (i:=qaE xs i) (m:=6) hx (qbA hl) r1 (by omega)
 have r2:=qay r1 (qbA hl)
 have p:=qbi (i:=qaE xs i) (m:=6) hx (by omega)
 have hat:=qdi (strC qin) 6 true (qaB xs (qaE xs i) 6) p.1 (by omega)
 obtain⟨s,hs,hc⟩:=qgN (l:=qin) (p:=qaB xs (qaE xs i) 6) (by simpa [qin] using p)
 simp only[qin,strC,List.map] at hat hc
 obtain⟨a,i1,h1,h2,h3⟩:=qnJ hx hl 1 1 _ (by omega) (by omega) r2
 obtain⟨b,i2,h4,h5,h6⟩:=qnJ hx hl 2 2 _ (by omega) (by omega) h2
 rw[show (2:Int).toNat=2 from rfl] at h4
 rw[show (1:Int).toNat=1 from rfl] at h1
 have o:=qn7 2 s a.kind a.num b.kind b.num a.str b.str a.kids b.kids (by simp) (by simp) (by simp) (by simp)
 have hz:mxs 2=7:=rfl
 have hz1:mxs 1=3:=rfl
 have hp:=qjT d.toNat
 have hco:Co 8 (Ss.cost (.store true s a b .nil)) xs i i2:=by
  have hcs : ∀ s∈qin,s.size<=2:=by decide
  have h55:=hcs s hs
  obtain⟨q1,q2,q3⟩:=h1.2.2.2.2
  obtain⟨u1,u2,u3⟩:=h4.2.2.2.2
  show _/\_/\((s.size+9+(a.cost+b.cost)+0:Nat):Int)<=_
  rcases qav xs i with ⟨e1,l1⟩ | ⟨e1,l1⟩
  ·rcases qav xs (qaE xs i) with ⟨e2,l2⟩ | ⟨e2,l2⟩<;>omega
  ·exact absurd (l1 10) (fun h0=>by
    unfold qhc at h
    rw[h0] at h
    split at h<;>simp at h)
 refine⟨.store true s a b .nil,2,0,s,true,a.fo (b.fo .nil),i2,rfl,⟨⟨⟨hs,h1.1,h1.2.1,h4.1,h4.2.1⟩,trivial⟩,Nat.zero_le _,by simp only[Ss.edp]; omega,by simp only[Ss.fo,qbp,qdL,qbT]; omega,hco⟩,h5,?_⟩
 refine Z_call (pf:=F162) rfl rfl ?_
 unfold qhc at h
 by_cases hd:d<=0
 ·rw[if_pos hd] at h
  rcases h with h | h | h<;>simp[F162,n1,n2,hd,h,hat,hc,h3,h6,o]
 ·rw[if_neg hd] at h
  rcases h with h | h | h<;>simp[F162,n1,n2,hd,h,hat,hc,h3,h6,o]
theorem qkZ (h:qhc xs d i=5):GS xs d i:=by
 have n1:=qbq (i:=i) (m:=10) hx (qbA hl) hi (by omega)
 have r1:=qay hi (qbA hl)
 obtain⟨a,i1,h1,h2,h3⟩:=qnJ hx hl 1 0 _ (by omega) (by omega) r1
 obtain⟨b,i2,h4,h5,h6⟩:=qnJ hx hl 1 1 _ (by omega) (by omega) h2
 rw[show (0:Int).toNat=0 from rfl] at h1
 rw[show (1:Int).toNat=1 from rfl] at h4
 have o:=qn7 5 ⟨#[]⟩ a.kind a.num b.kind b.num a.str b.str a.kids b.kids (by simp) (by simp) (by simp) (by simp)
 have hz:mxs 0=1:=rfl
 have hz1:mxs 1=3:=rfl
 have hp:=qjT d.toNat
 have hco:Co 8 (Ss.cost (.effect true a b .nil)) xs i i2:=by
  obtain⟨q1,q2,q3⟩:=h1.2.2.2.2
  obtain⟨u1,u2,u3⟩:=h4.2.2.2.2
  show _/\_/\((11+(a.cost+b.cost)+0:Nat):Int)<=_
  rcases qav xs i with ⟨e1,l1⟩ | ⟨e1,l1⟩
  ·omega
  ·exact absurd (l1 10) (fun h0=>by
    unfold qhc at h
    rw[h0] at h
    split at h<;>simp at h)
 refine⟨.effect true a b .nil,5,0,_,true,a.fo (b.fo .nil),i2,rfl,⟨⟨⟨h1.1,h1.2.1,h4.1,h4.2.1⟩,trivial⟩,Nat.zero_le _,by simp only[Ss.edp]; omega,by simp only[Ss.fo,qbp,qdL,qbT]; omega,hco⟩,h5,?_⟩
 refine Z_call (pf:=F162) rfl rfl ?_
 unfold qhc at h
 by_cases hd:d<=0
 ·rw[if_pos hd] at h
  simp[F162,n1,hd,h,h3,h6,o]
 ·rw[if_neg hd] at h
  simp[F162,n1,hd,h,h3,h6,o]
theorem qrR (h:qhc xs d i=6):GS xs d i:=by
 have n1:=qbq (i:=i) (m:=10) hx (qbA hl) hi (by omega)
 have r1:=qay hi (qbA hl)
 have n2:=qbq (i:=qaE xs i) (m:=3) hx (qbA hl) r1 (by omega)
 have r2:=qay r1 (qbA hl)
 have p:=qbi (i:=qaE xs i) (m:=3) hx (by omega)
 have hp:=qjT d.toNat
 by_cases h0:0<qaB xs (qaE xs i) 3
 ·obtain⟨e,i',h1,h2,h3⟩:=qnJ hx hl 1 1 _ (by omega) (by omega) r2
  rw[show (1:Int).toNat=1 from rfl] at h1
  have o:=qpQ 1 ⟨#[110]⟩ e.kind e.num e.str e.kids (by simp) (by simp)
  have hz:mxs 1=3:=rfl
  have hco:Co 8 (Ss.cost (.assign true ⟨#[110]⟩ e .nil)) xs i i':=by
   obtain⟨q1,q2,q3⟩:=h1.2.2.2.2
   show _/\_/\((1+5+e.cost+0:Nat):Int)<=_
   rcases qav xs i with ⟨e1,l1⟩ | ⟨e1,l1⟩
   ·rcases qav xs (qaE xs i) with ⟨e2,l2⟩ | ⟨e2,l2⟩<;>omega
   ·exact absurd (l1 10) (fun h0=>by
     unfold qhc at h
     rw[h0] at h
     split at h<;>simp at h)
  refine⟨.assign true ⟨#[110]⟩ e .nil,1,0,_,true,e.fo .nil,i',rfl,⟨⟨⟨by simp[qv3,qn8],h1.1,h1.2.1⟩,trivial⟩,Nat.zero_le _,by simp only[Ss.edp]; omega,by simp only[Ss.fo,qbp,qdL,qbT]; omega,hco⟩,h2,?_⟩
  refine Z_call (pf:=F162) rfl rfl ?_
  unfold qhc at h
  by_cases hd:d<=0
  ·rw[if_pos hd] at h
   simp[F162,n1,n2,hd,h,h0,h3,o]
  ·rw[if_neg hd] at h
   simp[F162,n1,n2,hd,h,h0,h3,o]
 ·have hco:Co 8 (Ss.cost (.stop .nil)) xs i (qaE xs (qaE xs i)):=by
   show _/\_/\((7+0:Nat):Int)<=_
   rcases qav xs i with ⟨e1,l1⟩ | ⟨e1,l1⟩<;>rcases qav xs (qaE xs i) with ⟨e2,l2⟩ | ⟨e2,l2⟩<;>omega
  refine⟨.stop .nil,6,0,_,false,.nil,_,rfl,⟨trivial,Nat.zero_le _,Nat.zero_le _,by simp only[Ss.fo,qbp,qbT]; omega,hco⟩,r2,?_⟩
  refine Z_call (pf:=F162) rfl rfl ?_
  unfold qhc at h
  by_cases hd:d<=0
  ·rw[if_pos hd] at h
   simp[F162,n1,n2,hd,h,h0]
  ·rw[if_neg hd] at h
   simp[F162,n1,n2,hd,h,h0]
theorem qqs (hd : ¬ d<=0) (hd2:d<=1000) (ih : ∀ j,0<=j/\j<=100->GK xs (d-1) 2 j) (h:qaB xs i 10=7):GS xs d i:=by
 have n1:=qbq (i:=i) (m:=10) hx (qbA hl) hi (by omega)
 have r1:=qay hi (qbA hl)
 obtain⟨c,i1,h1,h2,h3⟩:=qrW hx hl 1 1 _ (by omega) (by omega) (by omega) r1
 obtain⟨b,i2,h4,h5,h6⟩:=ih _ h2
 rw[show (1:Int).toNat=1 from rfl] at h1
 have ed:d.toNat=(d-1).toNat+1:=by omega
 rw[show (2:Int).toNat=2 from rfl] at h4
 have hz:mxs (1+1)=7:=rfl
 have o:=qn7 4 ⟨#[]⟩ c.kind c.num 7 0 c.str ⟨#[]⟩ c.kids (kd false b.fo.len b.fo.cells) (by simp) (by simp) (by simp) (by simp)
 have w1:=qaf (d-1) (by omega)
 have hco:Co 8 (Ss.cost (.cond true true c (.block false b .nil) .nil)) xs i i2:=by
  obtain⟨q1,q2,q3⟩:=h1.2.2.2.2
  obtain⟨u1,u2,u3⟩:=h4.2.2.2.2
  show _/\_/\((6+c.cost+(4+b.cost+(0+0))+0:Nat):Int)<=_
  rcases qav xs i with ⟨e1,l1⟩ | ⟨e1,l1⟩
  ·omega
  ·exact absurd (l1 10) (by omega)
 refine⟨.cond true true c (.block false b .nil) .nil,4,0,_,true,c.fo (.cons 7 0 ⟨#[]⟩ false b.fo .nil),i2,rfl,⟨⟨⟨h1.1,h1.2.1⟩,h4.1,trivial⟩,by simp only[Ss.dp]; omega,by simp only[Ss.edp]; omega,by rw[ed]; simp only[Ss.fo,qbp,qdL,qbT,ssz]; omega,hco⟩,h5,?_⟩
 refine Z_call (pf:=F162) rfl rfl ?_
 simp[F162,n1,hd,h,h3,h6,o,w1]
theorem qw6 (hd : ¬ d<=0) (hd2:d<=1000) (ih : ∀ j,0<=j/\j<=100->GK xs (d-1) 2 j) (h:8<=qaB xs i 10):GS xs d i:=by
 have n1:=qbq (i:=i) (m:=10) hx (qbA hl) hi (by omega)
 have r1:=qay hi (qbA hl)
 obtain⟨c,i1,h1,h2,h3⟩:=qrW hx hl 2 2 _ (by omega) (by omega) (by omega) r1
 obtain⟨a,i2,h4,h5,h6⟩:=ih _ h2
 have n2:=qbq (i:=i2) (m:=2) hx (qbA hl) h5 (by omega)
 have r2:=qay h5 (qbA hl)
 obtain⟨b,i3,h7,h8,h9⟩:=ih _ r2
 rw[show (2:Int).toNat=2 from rfl] at h1 h4 h7
 have ed:d.toNat=(d-1).toNat+1:=by omega
 have hz:mxs (2+1)=15:=rfl
 have w1:=qaf (d-1) (by omega)
 have k0 : ¬ qaB xs i 10=0:=by omega
 have k1 : ¬ qaB xs i 10=1:=by omega
 have k2 : ¬ qaB xs i 10=2:=by omega
 have k3 : ¬ qaB xs i 10=3:=by omega
 have k4 : ¬ qaB xs i 10=4:=by omega
 have k5 : ¬ qaB xs i 10=5:=by omega
 have k6 : ¬ qaB xs i 10=6:=by omega
 have k7 : ¬ qaB xs i 10=7:=by omega
 by_cases h0:qaB xs i2 2=1
 ·have hco:Co 8 (Ss.cost (.cond false true c (.block false a (.block false b .nil)) .nil)) xs i i3:=by
   have hl:(if qcR (.block false b .nil)=true then 5 else 0)<=5:=by split<;>omega
   obtain⟨q1,q2,q3⟩:=h1.2.2.2.2
   obtain⟨u1,u2,u3⟩:=h4.2.2.2.2
   obtain⟨v1,v2,v3⟩:=h7.2.2.2.2
   show _/\_/\((3+c.cost+(4+a.cost+((if qcR (.block false b .nil)=true then 5 else 0)+(4+b.cost+(0+0))))+0:Nat):Int)<=_
   rcases qav xs i with ⟨e1,l1⟩ | ⟨e1,l1⟩
   ·rcases qav xs i2 with ⟨e2,l2⟩ | ⟨e2,l2⟩<;>omega
   ·exact absurd (l1 10) (by omega)
  refine⟨.cond false true c (.block false a (.block false b .nil)) .nil,3,0,_,true,c.fo (.cons 7 0 ⟨#[]⟩ false a.fo (.cons 7 0 ⟨#[]⟩ false b.fo .nil)),i3,rfl,⟨⟨⟨h1.1,h1.2.1⟩,h4.1,h7.1,trivial⟩,by simp only[Ss.dp]; omega,by simp only[Ss.edp]; omega,by rw[ed]; simp only[Ss.fo,qbp,qdL,qbT,ssz]; omega,hco⟩,h8,?_⟩
  refine Z_call (pf:=F162) rfl rfl ?_
  simp[F162,n1,n2,hd,h0,k0,k1,k2,k3,k4,k5,k6,k7,h3,h6,h9,w1,List.range_succ]
 ·have hco:Co 8 (Ss.cost (.cond false true c (.block false a (.block false .nil .nil)) .nil)) xs i (qaE xs i2):=by
   obtain⟨q1,q2,q3⟩:=h1.2.2.2.2
   obtain⟨u1,u2,u3⟩:=h4.2.2.2.2
   show _/\_/\((3+c.cost+(4+a.cost+(0+(4+0+(0+0))))+0:Nat):Int)<=_
   rcases qav xs i with ⟨e1,l1⟩ | ⟨e1,l1⟩
   ·rcases qav xs i2 with ⟨e2,l2⟩ | ⟨e2,l2⟩<;>omega
   ·exact absurd (l1 10) (by omega)
  refine⟨.cond false true c (.block false a (.block false .nil .nil)) .nil,3,0,_,true,c.fo (.cons 7 0 ⟨#[]⟩ false a.fo (.cons 7 0 ⟨#[]⟩ false .nil .nil)),_,rfl,⟨⟨⟨h1.1,h1.2.1⟩,h4.1,trivial,trivial⟩,by simp only[Ss.dp]; omega,by simp only[Ss.edp]; omega,by rw[ed]; simp only[Ss.fo,qbp,qdL,qbT,ssz]; omega,hco⟩,r2,?_⟩
  refine Z_call (pf:=F162) rfl rfl ?_
  simp[F162,n1,n2,hd,h0,k0,k1,k2,k3,k4,k5,k6,k7,h3,h6,w1,List.range_succ]
end
end Go.Pm
end SG3
section SG4
namespace Go.Pm
open F
theorem qm5 {a b:Ss} (ha:a.fine) (hb:b.fine):(a.app b).fine:=by
 fun_induction Ss.fine a with
 | case1=>exact hb
 | case2 _ _ _ _ ih=>exact⟨ha.1,ih ha.2⟩
 | case3 _ _ _ _ _ ih=>exact⟨ha.1,ih ha.2⟩
 | case4 _ _ _ _ ih=>exact⟨ha.1,ih ha.2⟩
 | case5 _ ih=>exact ih ha
 | case6 _ _ _ _ _ _ _ _ _ ih=>exact⟨ha.1,ha.2.1,ha.2.2.1,ih ha.2.2.2⟩
 | case7 _ _ _ _ _ _ ih=>exact⟨ha.1,ha.2.1,ih ha.2.2⟩
 | case8=>exact ha.elim
theorem qm6 {a:Ss} (b:Ss) (ha:a.fine):(a.app b).cost=a.cost+b.cost:=by
 fun_induction Ss.fine a with
 | case1=>simp[Ss.app,Ss.cost]
 | case2 _ _ _ _ ih=>simp only[Ss.app,Ss.cost,ih ha.2]; omega
 | case3 _ _ _ _ _ ih=>simp only[Ss.app,Ss.cost,ih ha.2]; omega
 | case4 _ _ _ _ ih=>simp only[Ss.app,Ss.cost,ih ha.2]; omega
 | case5 _ ih=>simp only[Ss.app,Ss.cost,ih ha]; omega
 | case6 _ _ _ _ _ _ _ _ _ ih=>simp only[Ss.app,Ss.cost,ih ha.2.2.2]; omega
 | case7 _ _ _ _ _ _ ih=>simp only[Ss.app,Ss.cost,ih ha.2.2]; omega
 | case8=>exact ha.elim
theorem qr6 (a b:Ss):(a.app b).dp=max a.dp b.dp:=by
 induction a<;>simp_all [Ss.app,Ss.dp,Nat.max_assoc]
theorem qpt (a b:Ss):(a.app b).edp=max a.edp b.edp:=by
 induction a<;>simp_all [Ss.app,Ss.edp,Nat.max_assoc]
section
variable {xs:List Int} {i d c:Int}
abbrev z4O:Ob := .cells [.int 0,.int 0,.str ⟨#[]⟩,.dat (.lit (.slice none 0 0))]
abbrev B0 (xs:List Int) (i:Int):S:=[.cells [.dat (qej xs),.int i],z4O,.cells [.int 7,.int 0,.str ⟨#[]⟩,.dat (.lit (.slice none 0 0))]]
abbrev B1 (xs:List Int) (i:Int) (pre:Fo):S:=[.cells [.dat (qej xs),.int i],z4O,.cells [.int 7,.int 0,.str ⟨#[]⟩,.gsl pre.cells pre.len 4 3],.tip pre.cells.length]
abbrev bfr (d c:Int):Fr:=[(0,.ptr 0 0),(1,.int d),(6,.ptr 1 0),(7,.ptr 2 0),(8,.int c)]
theorem qvF:Z qbv (.loop 1 F137l0 (bfr d 0) (B0 xs i))=some (.out (.exit 0) (bfr d 0++[(15,.bool false)]) (B0 xs i)):=by
 rw[qaa]
 simp[qac,qe3,List.range_succ]
theorem qvG {pre:Fo}:Z qbv (.loop 1 F137l0 (bfr d 0) (B1 xs i pre))=some (.out (.exit 0) (bfr d 0++[(15,.bool false)]) (B1 xs i pre)):=by
 rw[qaa]
 simp[qac,qe3,List.range_succ]
theorem qtu {i':Int} {k n:Int} {s:ByteArray} {f:Bool} {ks:Fo} (hc:0<c) (hc':c<100) (h:Z qbv (.call 162 [.ptr 0 0,.int d] (gst xs i))=some (.ret (nd k n s f ks) (gst xs i'))) :
  Z qbv (.loop 1 F137l0 (bfr d c) (B0 xs i))=Z qbv (.loop 1 F137l0 (bfr d (c-1)) (B1 xs i' (.cons k n s f ks .nil))):=by
 have w1:=qaf (c-1) (by omega)
 conv=>lhs; rw[qaa]
 simp[qac,qe3,hc,h,w1,qb6,qlH,qaP,bfr,B1,z4O,List.range_succ]
theorem qtv {i':Int} {k n:Int} {s:ByteArray} {f:Bool} {ks pre:Fo} (hp:pre.len<1000) (hc:0<c) (hc':c<100) (h:Z qbv (.call 162 [.ptr 0 0,.int d] (gst xs i))=some (.ret (nd k n s f ks) (gst xs i'))) :
  Z qbv (.loop 1 F137l0 (bfr d c) (B1 xs i pre))=Z qbv (.loop 1 F137l0 (bfr d (c-1)) (B1 xs i' (pre.app (.cons k n s f ks .nil)))):=by
 have w1:=qaf (c-1) (by omega)
 have r1:qaP (pre.len+1) 56=true:=by simp[qaP]; omega
 have hl:=qg9 pre
 have hl2:=qg8 pre (.cons k n s f ks .nil)
 have hl3:=qdw pre (.cons k n s f ks .nil)
 simp only[qaC,qaJ,qaV,qa0] at hl2 hl3
 conv=>lhs; rw[qaa]
 simp[qac,qe3,hc,h,w1,qb6,qlH,r1,hl,hl2,hl3,bfr,B1,z4O,List.range_succ]
theorem qpu (hS : ∀ j,0<=j/\j<=100->GS xs d j) : ∀ (m:Nat) (j:Int) (pre:Fo),m<=3->(0<=j/\j<=100)->pre.len+m<1000->0<pre.len ->
  ∃ (b:Ss) (i':Int),(b.fine/\b.dp<=d.toNat/\b.edp<=3/\b.fo.size<=m*ssz d.toNat/\Co (8*m) b.cost xs j i')/\(0<=i'/\i'<=100)/\Z qbv (.loop 1 F137l0 (bfr d m) (B1 xs j pre))=some (.out (.exit 0) (bfr d 0++[(15,.bool false)]) (B1 xs i' (pre.app b.fo)))
 | 0,j,pre,_,h1,hp,hp0=>⟨.nil,j,⟨trivial,Nat.zero_le _,Nat.zero_le _,by simp[Ss.fo],by show _/\_/\((0:Nat):Int)<=_; omega⟩,h1,by rw[show pre.app Ss.nil.fo=pre from qtX pre]; exact qvG⟩
 | m+1,j,pre,hm,h1,hp,hp0=>by
  obtain⟨st,k,n,s,f,ks,i1,g1,g2,g3,g4⟩:=hS j h1
  obtain⟨b,i2,k1,k2,k3⟩:=qpu hS m i1 (pre.app (.cons k n s f ks .nil)) (by omega) g3 (by rw[qdw]; simp; omega) (by rw[qdw]; simp)
  have hstep:=qtv (d:=d) (c:=(m+1:Nat)) (by omega:pre.len<1000) (by omega) (by omega) g4
  rw[show ((m+1:Nat):Int)-1=m by omega] at hstep
  have hco:Co (8*((m+1:Nat):Int)) (st.app b).cost xs j i2:=by
   obtain⟨q1,q2,q3⟩:=g2.2.2.2.2
   obtain⟨u1,u2,u3⟩:=k1.2.2.2.2
   unfold Co
   rw[qm6 b g2.1]
   omega
  refine⟨st.app b,i2,⟨qm5 g2.1 k1.1,by rw[qr6]; omega,by rw[qpt]; omega,by rw[qil,qih,Nat.succ_mul]; omega,hco⟩,k2,?_⟩
  rw[hstep,k3,qil,<- qpN,g1]
theorem qpv (hx : ∀ x∈xs,I64 x) (hl:xs.length<=100) (hi:0<=i/\i<=100) {m:Int} (hm:0<=m) (hm4:m<=3) (hS : ∀ j,0<=j/\j<=100->GS xs d j):GK xs d m i:=by
 have n1:=qbq (i:=i) (m:=m+1) hx (qbA hl) hi (by omega)
 have l1:=qbi (i:=i) (m:=m+1) hx (by omega)
 have r1:=qay hi (qbA hl)
 have w1:=qaf (m+1) (by omega)
 by_cases h0:qaB xs i (m+1)=0
 ·refine⟨.nil,_,⟨trivial,Nat.zero_le _,Nat.zero_le _,by simp[Ss.fo],by show _/\_/\((0:Nat):Int)<=_; rcases qav xs i with ⟨e1,l1⟩ | ⟨e1,l1⟩<;>omega⟩,r1,?_⟩
  have h:=qvF (xs:=xs) (i:=qaE xs i) (d:=d)
  refine Z_call (pf:=F137) rfl rfl ?_
  simp only[bfr,List.cons_append,List.nil_append] at h
  simp[F137,n1,w1,h0,h,Ss.fo,List.range_succ]
 ·obtain⟨q,hq⟩ : ∃ q:Nat,qaB xs i (m+1)=((q+1:Nat):Int):=⟨(qaB xs i (m+1)-1).toNat,by omega⟩
  obtain⟨st,k,n,s,f,ks,i1,g1,g2,g3,g4⟩:=hS _ r1
  obtain⟨b,i2,k1,k2,k3⟩:=qpu hS q i1 (.cons k n s f ks .nil) (by omega) g3 (by simp; omega) (by simp)
  have hstep:=qtu (d:=d) (c:=(q+1:Nat)) (by omega) (by omega) g4
  rw[show ((q+1:Nat):Int)-1=q by omega,k3,<- g1,<- qil,<- hq] at hstep
  have hmul:(q+1)*ssz d.toNat<=m.toNat*ssz d.toNat:=Nat.mul_le_mul_right _ (by omega)
  rw[Nat.succ_mul] at hmul
  have hco:Co 0 (st.app b).cost xs i i2:=by
   obtain⟨q1,q2,q3⟩:=g2.2.2.2.2
   obtain⟨u1,u2,u3⟩:=k1.2.2.2.2
   unfold Co
   rw[qm6 b g2.1]
   rcases qav xs i with ⟨e1,l1⟩ | ⟨e1,l1⟩
   ·omega
   ·exact absurd (l1 (m+1)) h0
  refine⟨st.app b,i2,⟨qm5 g2.1 k1.1,by rw[qr6]; omega,by rw[qpt]; omega,by rw[qil,qih]; omega,hco⟩,k2,?_⟩
  have hpos:(st.app b).fo.len≠0:=by rw[qil,qdw,g1]; simp
  obtain⟨z,hz⟩ : ∃ z,(st.app b).fo.len=z+1:=⟨(st.app b).fo.len-1,by omega⟩
  have hg:=qg9 (st.app b).fo
  refine Z_call (pf:=F137) rfl rfl ?_
  simp only[bfr,List.cons_append,List.nil_append] at hstep
  generalize (st.app b).fo=fo at *
  simp[F137,n1,w1,hstep,hz,List.range_succ]
theorem qwv (hx : ∀ x∈xs,I64 x) (hl:xs.length<=100) : ∀ (n:Nat),n<=50->(∀ j,0<=j/\j<=100->GS xs n j)/\(∀ j,0<=j/\j<=100 -> ∀ m,0<=m->m<=3->GK xs n m j)
 | 0,_=>by
  have hs : ∀ j,0<=j/\j<=100->GS xs (0:Nat) j:=fun i hi=>by
   have p:=qbi (i:=i) (m:=10) hx (by omega)
   have q:=qht p.1 (m:=7) (by omega)
   have e:qhc xs (0:Nat) i=(qaB xs i 10).tmod 7:=if_pos (by simp)
   by_cases h1:qhc xs (0:Nat) i<2
   ·exact qkY hx hl hi (by omega)
   by_cases h2:qhc xs (0:Nat) i<5
   ·exact qmM hx hl hi (by omega)
   by_cases h3:qhc xs (0:Nat) i=5
   ·exact qkZ hx hl hi h3
   ·exact qrR hx hl hi (by omega)
  exact⟨hs,fun j hj m h0 h3=>qpv hx hl hj h0 h3 hs⟩
 | n+1,hn=>by
  have ih:=(qwv hx hl n (by omega)).2
  have hd : ¬ ((n+1:Nat):Int)<=0:=by omega
  have hs : ∀ j,0<=j/\j<=100->GS xs (n+1:Nat) j:=fun i hi=>by
   have p:=qbi (i:=i) (m:=10) hx (by omega)
   have e:qhc xs (n+1:Nat) i=qaB xs i 10:=if_neg hd
   have ih' : ∀ j,0<=j/\j<=100->GK xs (((n+1:Nat):Int)-1) 2 j:=fun j hj=>by
    rw[show ((n+1:Nat):Int)-1=n by omega]; exact ih j hj 2 (by omega) (by omega)
   by_cases h1:qhc xs (n+1:Nat) i<2
   ·exact qkY hx hl hi (by omega)
   by_cases h2:qhc xs (n+1:Nat) i<5
   ·exact qmM hx hl hi (by omega)
   by_cases h3:qhc xs (n+1:Nat) i=5
   ·exact qkZ hx hl hi h3
   by_cases h4:qhc xs (n+1:Nat) i=6
   ·exact qrR hx hl hi h4
   by_cases h5:qhc xs (n+1:Nat) i=7
   ·exact qqs hx hl hi hd (by omega) ih' (by omega)
   ·exact qw6 hx hl hi hd (by omega) ih' (by omega)
  exact⟨hs,fun j hj m h0 h3=>qpv hx hl hj h0 h3 hs⟩
end
end Go.Pm
end SG4
section SG5
namespace Go.Pm
open F
theorem qtP (o:Option Addr) (m:Int) (hm:0<=m):Z qbv (.call 23 [.dat (.lit (.slice o 0 0)),.int m] [])=some (.ret (.dat (qej [])) []):=by
 refine Z_call (pf:=F23) rfl rfl ?_
 have h : ¬ m<0:=by omega
 simp[F23,V.len,qnD,qkU,h,qhL,bound,qb6,qlH,qej]
theorem qn0 (xs:List Int) (k:Nat):(qcu xs).take k=qcu (xs.take k):=by simp[qcu,List.map_take]
theorem qtQ (xs:List Int) (k:Nat) (hk:k<=1000):Z qbv (.call 23 [.dat (.sl (qcu xs) xs.length false),.int k] [])=some (.ret (.dat (qej (xs.take k))) []):=by
 refine Z_call (pf:=F23) rfl rfl ?_
 have hl:(qcu xs).length=xs.length:=by simp[qcu]
 have key : ∃ m:Nat,(if k<xs.length then (k:Int) else (xs.length:Int))=(m:Int)/\m<=xs.length/\m<=1000/\xs.take k=xs.take m/\(xs.take m).length=m:=by
  by_cases h:k<xs.length
  ·exact⟨k,by simp[h],by omega,hk,rfl,by simp; omega⟩
  ·exact⟨xs.length,by simp[h],Nat.le_refl _,by omega,by rw[List.take_of_length_le (by omega),List.take_of_length_le (Nat.le_refl _)],by simp⟩
 obtain⟨m,e1,e2,e3,e4,e5⟩:=key
 rw[e4]
 cases hm:xs.take m with
 | nil=>
  rw[hm] at e5
  simp at e5
  subst e5
  simp[F23,V.len,qnD,qkU,e1,qhL,bound,qb6,qlH,qej,hl]
 | cons y ys=>
  have hm':=e5
  rw[hm] at hm'
  simp only[List.length_cons] at hm'
  have hne:m≠0:=by omega
  have hr:qaP m 8=true:=by simp[qaP]; omega
  have ht:(qcu xs).take m=qcu (y::ys):=by rw[qn0,hm]
  have hlen:(qcu (y::ys)).length=m:=by simp[qcu]; omega
  simp[F23,V.len,qnD,qkU,e1,qhL,bound,qb6,qlH,qej,hl,e2,ht,hlen,hne,hr,hm']
theorem qvT {v:D} {xs:List Int} (h:RowV v xs) (k:Nat) (hk:k<=1000):Z qbv (.call 23 [.dat v,.int k] [])=some (.ret (.dat (qej (xs.take k))) []):=by
 rcases h with ⟨o,rfl,rfl⟩ | rfl
 ·simpa using qtP o k (by omega)
 ·exact qtQ xs k hk
def Hd.ss:Hd->Ss
 | .none => .nil
 | .some _ b=>b
structure Hd.fine (h:Hd):Prop where
 fine:h.ss.fine
 size:h.ss.fo.size<=2000
def Hd.cost:Hd->Nat
 | .none=>0
 | .some _ b=>12+b.cost
structure Hd.gen (h:Hd):Prop extends h.fine where
 f:h.f=false
 dp:h.ss.dp<=2
 edp:h.ss.edp<=3
 gsize:h.ss.fo.size<=1260
theorem qkk:Hd.none.gen:=⟨⟨trivial,Nat.zero_le _⟩,rfl,Nat.zero_le _,Nat.zero_le _,Nat.zero_le _⟩
abbrev z12:Ob := .cells [.int 0,.int 0,.str ⟨#[]⟩,.dat (.lit (.slice none 0 0)),.int 0,.int 0,.str ⟨#[]⟩,.dat (.lit (.slice none 0 0)),.int 0,.int 0,.str ⟨#[]⟩,.dat (.lit (.slice none 0 0))]
abbrev tst (xs:List Int) (i:Int) (a b c:Nd):S:=[z12,.cells [.dat (qej xs),.int i],qmi a b c]
abbrev tfr (h:Int):Fr:=[(2,.ptr 0 0),(3,.ptr 1 0),(4,.ptr 2 0),(5,.int h)]
section
variable {xs:List Int} {i:Int} {a b c:Nd}
theorem qxP:Z qbv (.loop 0 F123l0 (tfr 3) (tst xs i a b c))=some (.out (.exit 0) (tfr 3++[(11,.bool false)]) (tst xs i a b c)):=by
 rw[qaa]
 simp[qac,qcM,List.range_succ]
theorem qtR (hx : ∀ x∈xs,I64 x) (hl:xs.length<=100) (hi:0<=i/\i<=100) : ∃ (g:Hd) (i':Int),g.gen/\(0<=i'/\i'<=100)/\Co 0 g.cost xs i i'/\Z qbv (.loop 0 F123l0 (tfr 0) (tst xs i Hd.none.nd b c))=Z qbv (.loop 0 F123l0 (tfr 1) (tst xs i' g.nd b c)):=by
 have n1:=qbq (i:=i) (m:=4) hx (qbA hl) hi (by omega)
 have r1:=qay hi (qbA hl)
 have w1:=qaf 1 (by omega)
 by_cases h2:0<qaB xs i 4
 ·obtain⟨q,i',k1,k2,k3⟩:=(qwv hx hl 2 (by omega)).2 _ r1 3 (by omega) (by omega)
  have hs:ssz 2=420:=rfl
  rw[show ((2:Nat):Int).toNat=2 from rfl,show (3:Int).toNat=3 from rfl,hs] at k1
  have hco:Co 0 (Hd.cost (.some false q)) xs i i':=by
   obtain⟨u1,u2,u3⟩:=k1.2.2.2.2
   show _/\_/\((12+q.cost:Nat):Int)<=_
   rcases qav xs i with ⟨e1,l1⟩ | ⟨e1,l1⟩
   ·omega
   ·exact absurd (l1 4) (by omega)
  refine⟨.some false q,i',⟨⟨k1.1,by show q.fo.size<=2000; have:=k1.2.2.2.1; omega⟩,rfl,k1.2.1,k1.2.2.1,k1.2.2.2.1⟩,k2,hco,?_⟩
  simp at k3
  conv=>lhs; rw[qaa]
  simp[qac,qcM,n1,h2,k3,w1,Nd.d,Hd.k,Hd.f,Hd.ks,tfr,tst,qmi,List.range_succ]
 ·have hco:Co 0 (Hd.cost .none) xs i (qaE xs i):=by
   show _/\_/\((0:Nat):Int)<=_
   rcases qav xs i with ⟨e1,l1⟩ | ⟨e1,l1⟩<;>omega
  refine⟨.none,_,qkk,r1,hco,?_⟩
  conv=>lhs; rw[qaa]
  simp[qac,qcM,n1,h2,w1,Nd.d,Hd.k,Hd.f,Hd.ks,tfr,tst,qmi,List.range_succ]
theorem qtS (hx : ∀ x∈xs,I64 x) (hl:xs.length<=100) (hi:0<=i/\i<=100) : ∃ (g:Hd) (i':Int),g.gen/\(0<=i'/\i'<=100)/\Co 0 g.cost xs i i'/\Z qbv (.loop 0 F123l0 (tfr 1) (tst xs i a Hd.none.nd c))=Z qbv (.loop 0 F123l0 (tfr 2) (tst xs i' a g.nd c)):=by
 have n1:=qbq (i:=i) (m:=4) hx (qbA hl) hi (by omega)
 have r1:=qay hi (qbA hl)
 have w1:=qaf 2 (by omega)
 by_cases h2:0<qaB xs i 4
 ·obtain⟨q,i',k1,k2,k3⟩:=(qwv hx hl 2 (by omega)).2 _ r1 3 (by omega) (by omega)
  have hs:ssz 2=420:=rfl
  rw[show ((2:Nat):Int).toNat=2 from rfl,show (3:Int).toNat=3 from rfl,hs] at k1
  have hco:Co 0 (Hd.cost (.some false q)) xs i i':=by
   obtain⟨u1,u2,u3⟩:=k1.2.2.2.2
   show _/\_/\((12+q.cost:Nat):Int)<=_
   rcases qav xs i with ⟨e1,l1⟩ | ⟨e1,l1⟩
   ·omega
   ·exact absurd (l1 4) (by omega)
  refine⟨.some false q,i',⟨⟨k1.1,by show q.fo.size<=2000; have:=k1.2.2.2.1; omega⟩,rfl,k1.2.1,k1.2.2.1,k1.2.2.2.1⟩,k2,hco,?_⟩
  simp at k3
  conv=>lhs; rw[qaa]
  simp[qac,qcM,n1,h2,k3,w1,Nd.d,Hd.k,Hd.f,Hd.ks,tfr,tst,qmi,List.range_succ]
 ·have hco:Co 0 (Hd.cost .none) xs i (qaE xs i):=by
   show _/\_/\((0:Nat):Int)<=_
   rcases qav xs i with ⟨e1,l1⟩ | ⟨e1,l1⟩<;>omega
  refine⟨.none,_,qkk,r1,hco,?_⟩
  conv=>lhs; rw[qaa]
  simp[qac,qcM,n1,h2,w1,Nd.d,Hd.k,Hd.f,Hd.ks,tfr,tst,qmi,List.range_succ]
theorem qtT (hx : ∀ x∈xs,I64 x) (hl:xs.length<=100) (hi:0<=i/\i<=100) : ∃ (g:Hd) (i':Int),g.gen/\(0<=i'/\i'<=100)/\Co 0 g.cost xs i i'/\Z qbv (.loop 0 F123l0 (tfr 2) (tst xs i a b Hd.none.nd))=Z qbv (.loop 0 F123l0 (tfr 3) (tst xs i' a b g.nd)):=by
 have n1:=qbq (i:=i) (m:=4) hx (qbA hl) hi (by omega)
 have r1:=qay hi (qbA hl)
 have w1:=qaf 3 (by omega)
 by_cases h2:0<qaB xs i 4
 ·obtain⟨q,i',k1,k2,k3⟩:=(qwv hx hl 2 (by omega)).2 _ r1 3 (by omega) (by omega)
  have hs:ssz 2=420:=rfl
  rw[show ((2:Nat):Int).toNat=2 from rfl,show (3:Int).toNat=3 from rfl,hs] at k1
  have hco:Co 0 (Hd.cost (.some false q)) xs i i':=by
   obtain⟨u1,u2,u3⟩:=k1.2.2.2.2
   show _/\_/\((12+q.cost:Nat):Int)<=_
   rcases qav xs i with ⟨e1,l1⟩ | ⟨e1,l1⟩
   ·omega
   ·exact absurd (l1 4) (by omega)
  refine⟨.some false q,i',⟨⟨k1.1,by show q.fo.size<=2000; have:=k1.2.2.2.1; omega⟩,rfl,k1.2.1,k1.2.2.1,k1.2.2.2.1⟩,k2,hco,?_⟩
  simp at k3
  conv=>lhs; rw[qaa]
  simp[qac,qcM,n1,h2,k3,w1,Nd.d,Hd.k,Hd.f,Hd.ks,tfr,tst,qmi,List.range_succ]
 ·have hco:Co 0 (Hd.cost .none) xs i (qaE xs i):=by
   show _/\_/\((0:Nat):Int)<=_
   rcases qav xs i with ⟨e1,l1⟩ | ⟨e1,l1⟩<;>omega
  refine⟨.none,_,qkk,r1,hco,?_⟩
  conv=>lhs; rw[qaa]
  simp[qac,qcM,n1,h2,w1,Nd.d,Hd.k,Hd.f,Hd.ks,tfr,tst,qmi,List.range_succ]
end
theorem qn1 {v:D} {xs:List Int} (h:RowV v xs) (hx : ∀ x∈xs,I64 x) : ∃ a b c:Hd,a.gen/\b.gen/\(c.gen/\a.cost+(b.cost+c.cost)<=1440)/\Z qbv (.call 123 [.dat v] [])=some (.ret (.dat (ru a.nd b.nd c.nd)) []):=by
 have hx' : ∀ x∈xs.take 60,I64 x:=fun x hm=>hx x (List.mem_of_mem_take hm)
 have hl':(xs.take 60).length<=100:=by simp; omega
 have n0:=qvT h 60 (by omega)
 obtain⟨a,i1,a1,a2,a3,a4⟩:=qtR (i:=0) (b:=Hd.none.nd) (c:=Hd.none.nd) hx' hl' (by omega)
 obtain⟨b,i2,b1,b2,b3,b4⟩:=qtS (i:=i1) (a:=a.nd) (c:=Hd.none.nd) hx' hl' a2
 obtain⟨c,i3,c1,c2,c3,c4⟩:=qtT (i:=i2) (a:=a.nd) (b:=b.nd) hx' hl' b2
 have hl:=a4.trans (b4.trans (c4.trans qxP))
 have hcost:a.cost+(b.cost+c.cost)<=1440:=by
  obtain⟨p1,p2,p3⟩:=a3
  obtain⟨q1,q2,q3⟩:=b3
  obtain⟨r1,r2,r3⟩:=c3
  have:(xs.take 60).length<=60:=by simp; omega
  omega
 refine⟨a,b,c,a1,b1,⟨c1,hcost⟩,?_⟩
 refine Z_call (pf:=F123) rfl rfl ?_
 simp only[tfr,tst,qmi,Nd.d,qyI,qyJ,qyK,qyL,qx0,List.cons_append,List.nil_append,show Hd.k .none=0 from rfl,show Hd.f .none=false from rfl,show Hd.ks .none = .nil from rfl,z12,qa0,qaJ,qv2] at hl
 simp at n0 hl
 simp[F123,n0,hl,ru,Nd.d,List.range_succ]
end Go.Pm
end SG5
section SUg
namespace Go.Pm
theorem qpB (f fi fb g gi gb:Bool) (s:ByteArray):qcz f fi fb s=(qcz g gi gb s).map (qqc f fi fb):=by
 by_cases hbig:2000<s.size
 ·rw[qcz,if_pos hbig,qcz,if_pos hbig]; rfl
 ·have h1:=qdK (f:=f) (fi:=fi) (fb:=fb) hbig
  have h2:=qdK (f:=g) (fi:=gi) (fb:=gb) hbig
  have h3:=qp7 12 2 f g fi fb gi gb 4 (10*(qhh s).length+10) (fun _=>none) (qhh s)
  rw[show qqc f fi fb (fun _=>none)=fun _=>none from rfl,h1,h2] at h3
  simpa using h3
def wt:List ByteArray->Nat
 | []=>0
 | t::l=>t.size+1+wt l
theorem qdU (a b:List ByteArray):wt (a++b)=wt a+wt b:=by
 induction a with
 | nil=>simp[wt]
 | cons t a ih=>simp only[List.cons_append,wt,ih]; omega
theorem qkf : ∀ (l:List ByteArray) (p:Bool),(qam p l).length<=wt l
 | [],p=>by simp[qam,wt]
 | t::l,p=>by
  have h1:=qkf l (qbu p t)
  have h2:=qar t
  have h3:(gap p t).length<=1:=by unfold gap; split<;>simp
  simp only[qam,List.length_append,wt]
  omega
theorem qne (b:Bool) (l:List ByteArray):wt (qbz b l)<=wt l+4:=by
 cases b with
 | false=>simp[qbz]
 | true=>
  have:wt (qbz true l)=2+(wt l+2):=by
   show wt (bs [40]::(l++[bs [41]]))=_
   rw[wt,qdU]
   rfl
  omega
theorem qiJ (full:Bool) : ∀ (e:E) p,wt (e.tx full p)<=e.cost
 | .int n,p=>by simp[E.tx,wt,E.cost,qas]
 | .bool n,p=>by
  simp only[E.tx,wt,E.cost]
  split<;>simp[qdS,qge,qas]
 | .var s,p=>by simp[E.tx,wt,E.cost]
 | .name s,p=>by simp[E.tx,wt,E.cost]
 | .field _ s e,p=>by
  have:=qiJ full e 1
  simp only[E.tx,wt,qdU,E.cost,qas,List.length_cons,List.length_nil]
  omega
 | .un _ neg e,p=>by
  have h1:=qiJ full e (qcZ neg)
  have h2:=qne (full||decide (qcZ neg<p)) (ustr neg::e.tx full (qcZ neg))
  have h3:(ustr neg).size=1:=by cases neg<;>rfl
  simp only[E.tx,E.cost]
  rw[wt,h3] at h2
  omega
 | .bin _ o a b,p=>by
  have h1:=qiJ full a o.left
  have h2:=qiJ full b (o.prec+1)
  have h3:=qne (full||decide (o.prec<p)) (a.tx full o.left++o.str::b.tx full (o.prec+1))
  simp only[E.tx,E.cost]
  rw[qdU,wt] at h3
  omega
theorem qkg : ∀ s:Ss,wt s.tx<=s.cost
 | .nil=>Nat.le_refl _
 | .assign _ s e r=>by
  have h1:=qiJ false e 1
  have h2:=qkg r
  simp only[Ss.tx,wt,qdU,Ss.cost,qas,List.length_cons,List.length_nil]
  omega
 | .store _ s a b r=>by
  have h1:=qiJ false a 1
  have h3:=qiJ false b 1
  have h2:=qkg r
  simp only[Ss.tx,wt,qdU,Ss.cost,qas,List.length_cons,List.length_nil]
  omega
 | .effect _ a b r=>by
  have h1:=qiJ false a 1
  have h3:=qiJ false b 1
  have h2:=qkg r
  simp only[Ss.tx,wt,qdU,Ss.cost,ql8,qas,List.length_cons,List.length_nil]
  omega
 | .stop r=>by
  have h2:=qkg r
  simp only[Ss.tx,wt,qdU,Ss.cost,qtk,qas,List.length_cons,List.length_nil]
  omega
 | .cond w _ c b r=>by
  have h1:=qiJ false c 1
  have h3:=qkg b
  have h2:=qkg r
  cases w<;>simp only[Ss.tx,wt,qdU,Ss.cost,qpm,ifS,qas,List.length_cons,List.length_nil,if_true,Bool.false_eq_true,if_false]<;>omega
 | .block _ b r=>by
  have h3:=qkg b
  have h2:=qkg r
  simp only[Ss.tx,wt,qdU,Ss.cost,qas,List.length_cons,List.length_nil]
  split
  ·simp only[wt,qj8,qas,List.length_cons,List.length_nil]; omega
  ·simp only[wt]; omega
theorem qnf {s:ByteArray} (h:s∈qv3):qq8 s/\s.size<=3:=by
 simp only[qv3,qn8,List.cons_append,List.nil_append,List.mem_cons,List.not_mem_nil,or_false] at h
 have key : ∀ (c:UInt8) (r:List UInt8),qaM c=true->(∀ b∈r,qao b=true)->(c::r).length<=8->Tg (byl (bs (c::r))):=fun c r h1 h2 h3=>qs9 h1 h2 h3
 rcases h with rfl | rfl | rfl | rfl | rfl
 ·exact⟨⟨key 105 [] (by decide) (by decide) (by decide),by decide,by decide,by decide⟩,by decide⟩
 ·exact⟨⟨key 110 [] (by decide) (by decide) (by decide),by decide,by decide,by decide⟩,by decide⟩
 ·exact⟨⟨key 115 [117,109] (by decide) (by decide) (by decide),by decide,by decide,by decide⟩,by decide⟩
 ·exact⟨⟨key 118 [51] (by decide) (by decide) (by decide),by decide,by decide,by decide⟩,by decide⟩
 ·exact⟨⟨key 118 [] (by decide) (by decide) (by decide),by decide,by decide,by decide⟩,by decide⟩
theorem qpC {s:ByteArray} (h:s∈qlt):(s=qvA\/s=qr2\/s=qh8)/\s.size<=5:=by
 simp only[qlt,List.mem_cons,List.not_mem_nil,or_false] at h
 rcases h with rfl | rfl | rfl
 ·exact⟨.inl rfl,by decide⟩
 ·exact⟨.inr (.inl rfl),by decide⟩
 ·exact⟨.inr (.inr rfl),by decide⟩
theorem qjl {s:ByteArray} (h:s∈qgj):s∈fieldNames/\s.size<=5:=by
 simp only[qgj,qin,List.cons_append,List.nil_append,List.mem_cons,List.not_mem_nil,or_false] at h
 rcases h with rfl | rfl | rfl | rfl | rfl | rfl | rfl | rfl<;>exact⟨by decide,by decide⟩
theorem qbL : ∀ e:E,e.fine->e.good
 | .int n,h=>h
 | .bool n,h=>h
 | .var s,h=>(qnf h).1
 | .name s,h=>(qpC h).1
 | .field _ s e,h=>⟨(qjl h.1).1,qbL e h.2.1⟩
 | .un _ neg e,h=>qbL e h.1
 | .bin _ o a b,h=>⟨qbL a h.1,qbL b h.2.1⟩
theorem qc0 (full:Bool) : ∀ (e:E) p,e.nest full p<=2*e.dp
 | .int n,p | .bool n,p | .var s,p | .name s,p=>by simp[E.nest]
 | .field _ s e,p=>by have:=qc0 full e 1; simp only[E.nest,E.dp]; omega
 | .un _ neg e,p=>by have:=qc0 full e (qcZ neg); simp only[E.nest,E.dp]; split<;>omega
 | .bin _ o a b,p=>by have h1:=qc0 full a o.left; have h2:=qc0 full b (o.prec+1); simp only[E.nest,E.dp]; split<;>omega
theorem qnW {s:ByteArray} (h:s∈qin):s∈qgj:=List.mem_append_left _ h
theorem qnX (s:Ss):s.fine->s.good none:=by
 fun_induction Ss.fine s with
 | case1=>intro _; exact .inl rfl
 | case2 _ s e r ih=>intro h; exact⟨rfl,(qnf h.1.1).1,qbL e h.1.2.1,ih h.2⟩
 | case3 _ s a b r ih=>intro h; exact⟨rfl,(qjl (qnW h.1.1)).1,qbL a h.1.2.1,qbL b h.1.2.2.2.1,ih h.2⟩
 | case4 _ a b r ih=>intro h; exact⟨rfl,qbL a h.1.1,qbL b h.1.2.2.1,ih h.2⟩
 | case5 r ih=>intro h; exact⟨rfl,ih h⟩
 | case6 _ c _ x _ y r ih1 ih2 ih3=>intro h; exact⟨rfl,qbL c h.1.1,⟨1,rfl,ih1 h.2.1,⟨0,rfl,ih2 h.2.2.1,.inr rfl⟩⟩,ih3 h.2.2.2⟩
 | case7 _ c _ x r ih1 ih2=>intro h; exact⟨rfl,qbL c h.1.1,⟨0,rfl,ih1 h.2.1,.inr rfl⟩,ih2 h.2.2⟩
 | case8=>intro h; exact h.elim
theorem qdt : ∀ s:Ss,s.nest<=2*s.edp+1+s.dp
 | .nil=>by simp[Ss.nest]
 | .assign _ s e r=>by have h1:=qc0 false e 1; have h2:=qdt r; simp only[Ss.nest,Ss.edp,Ss.dp]; omega
 | .store _ s a b r=>by have h1:=qc0 false a 1; have h3:=qc0 false b 1; have h2:=qdt r; simp only[Ss.nest,Ss.edp,Ss.dp]; omega
 | .effect _ a b r=>by have h1:=qc0 false a 1; have h3:=qc0 false b 1; have h2:=qdt r; simp only[Ss.nest,Ss.edp,Ss.dp]; omega
 | .stop r=>by have h2:=qdt r; simp only[Ss.nest,Ss.edp,Ss.dp]; omega
 | .cond _ _ c b r=>by have h1:=qc0 false c 1; have h3:=qdt b; have h2:=qdt r; simp only[Ss.nest,Ss.edp,Ss.dp]; omega
 | .block _ b r=>by have h3:=qdt b; have h2:=qdt r; simp only[Ss.nest,Ss.edp,Ss.dp]; omega
theorem qkh {h:Hd} (hg:h.gen):qcD h.opt:=by
 cases h with
 | none=>intro b hb; cases hb
 | some f b=>
  intro x hx
  cases hx
  have h1:=hg.dp
  have h2:=hg.edp
  have h3:=qdt b
  simp only[Hd.ss] at h1 h2
  exact⟨qnX b hg.fine,by omega⟩
theorem qlo {a b c:Hd} (ha:a.gen) (hb:b.gen) (hc:c.gen) : ∀ k,qcD (Hd.opts a b c k)
 | 0=>qkh ha
 | 1=>qkh hb
 | _+2=>qkh hc
theorem qnY (k:Nat) (h:Hd):wt (qdH k h.opt)<=h.cost:=by
 cases h with
 | none=>simp[Hd.opt,qdH,wt]
 | some f b=>
  have:=qkg b
  have hk:(qb0 k).size<=4:=by unfold qb0; split<;>decide
  simp only[Hd.opt,qdH,wt,qdU,Hd.cost,onS,qas,List.length_cons,List.length_nil]
  omega
theorem qro (a b c:Hd):(qam false (qaG (Hd.opts a b c))).length<=a.cost+(b.cost+c.cost):=by
 refine Nat.le_trans (qkf (qaG (Hd.opts a b c)) false) ?_
 simp only[qaG,qdU]
 exact Nat.add_le_add (qnY 0 a) (Nat.add_le_add (qnY 1 b) (qnY 2 c))
end Go.Pm
end SUg
