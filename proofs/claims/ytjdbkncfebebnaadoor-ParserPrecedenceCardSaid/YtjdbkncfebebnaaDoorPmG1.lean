/- Chapter 13's generator: choices, expressions. Chapter 13's generator: all expressions. Chapter 13's generator: statements. Chapter 13's generator: blocks and whole programs. Chapter 13's generator: whole programs. Parse with other marks; its errors have a code; generated trees are good and not long. No program in sight. The abstract machine's program, printed by a program of our own: group 3q. The abstract machine's program, printed by a program of our own: group Law13. The abstract machine's programs: tables of functions. Equal, of the program and of the reference: equal but for marks. The abstract machine's programs: tables of functions. The abstract machine's programs: tables of functions. Chapter 13's reference printer: strings joined. Decimal, of reference 01. -/
import Derived.Test.YtjdbkncfebebnaaDoorPmFx
import Derived.Test.YtjdbkncfebebnaaDoorPmY
import Derived.Test.YtjdbkncfebebnaaDoorPmYh
import Derived.Test.YtjdbkncfebebnaaDoorPmF3
set_option linter.unusedSimpArgs false
set_option linter.unusedVariables false
section SG1
namespace Go.Pm
open F
theorem qnQ {n m:Int} (h1:I64 n) (hm:1<=m):Z qe5 (.call 17 [.int n,.int m] [])=some (.ret (.int (around n m)) []):=by
 refine Z_call (pf:=F17) rfl rfl ?_
 unfold around
 have hm0 : ¬ m=0:=by omega
 by_cases h:n<0
 ·have w1:IntKind.i64.wrap (n+1)=n+1:=qaj _ (by unfold I64 at h1; omega)
  have w2:IntKind.i64.wrap (-(n+1)) = -(n+1):=qaj _ (by unfold I64 at h1; omega)
  simp[F17,h,hm0,w1,w2]
 ·simp[F17,h,hm0]
abbrev qpt (v:D) (i:Int):S:=[.cells [.dat v,.int i]]
def qaJ (xs:List Int) (i m:Int):Int:=if (xs.length:Int)<=i then 0 else (around (xs.getD i.toNat 0) 1000000).tmod m
def qaK (xs:List Int) (i:Int):Int:=if (xs.length:Int)<=i then i else i+1
structure Bnd (v:D) (xs:List Int) (B:Int):Prop where
 row:RowV v xs
 len:(xs.length:Int)<=B
 big:B<=9223372036854775807
theorem qaR {v:D} {xs:List Int} {i B:Int} (h:0<=i/\i<=B) (hl:Bnd v xs B):0<=qaK xs i/\qaK xs i<=B:=by
 have:=hl.len
 unfold qaK; split<;>omega
theorem qa7 (xs:List Int) (i:Int):(qaK xs i=i+1/\i<xs.length)\/(qaK xs i=i /\ ∀ m,qaJ xs i m=0):=by
 unfold qaK qaJ
 split
 ·exact .inr ⟨rfl,fun m=>rfl⟩
 ·exact .inl ⟨rfl,by omega⟩
theorem qbT {xs:List Int} {i m:Int} (hx : ∀ x∈xs,I64 x) (hm:1<=m):0<=qaJ xs i m/\qaJ xs i m<m:=by
 unfold qaJ
 split
 ·omega
 ·have h0:I64 (xs.getD i.toNat 0):=by
   rw[List.getD_eq_getElem?_getD]
   cases h:xs[i.toNat]? with
   | none=>simp[I64]
   | some y=>exact hx _ (List.mem_of_getElem? h)
  have:=qmc (m:=1000000) h0 (by omega)
  exact qhY this.1 hm
theorem qb7 {v:D} {xs:List Int} {i m B:Int} (hx : ∀ x∈xs,I64 x) (hl:Bnd v xs B) (hi:0<=i/\i<=B) (hm:1<=m) :
  Z qe5 (.call 136 [.ptr 0 0,.int m] (qpt v i))=some (.ret (.int (qaJ xs i m)) (qpt v (qaK xs i))):=by
 refine Z_call (pf:=F136) rfl rfl ?_
 have hm0:m≠0:=by omega
 have hb:=hl.len
 have hb2:=hl.big
 rcases hl.row with ⟨o,rfl,rfl⟩ | rfl
 ·have h:(0:Int)<=i:=hi.1
  simp[F136,h,qaJ,qaK,V.len]
 by_cases h:(xs.length:Int)<=i
 ·simp[F136,h,qaJ,qaK,V.len]
 ·have a1:=qdS (qdy xs) xs.length false i hi.1 (by omega)
  have hlt:i.toNat<xs.length:=by omega
  have a2:=qiu xs i.toNat hlt
  have a3:=qnQ (n:=xs[i.toNat]) (m:=1000000) (hx _ (List.getElem_mem hlt)) (by omega)
  have w1:=qaj (i+1) (by omega)
  simp[F136,w1,h,qaJ,qaK,V.len,a1,a2,a3,hm0,hlt]
section
variable (k:Int) (s:ByteArray) (a b a' b':Int) (t t':ByteArray) (d d':D)
theorem qpu (h1:V.one (.dat d)=true) (h2:V.cells (.dat d)=[.dat d]) :
  Z qe5 (.call 176 [.int k,.str s,.dat (.agg [.lit (.int .i64 a),.lit (.int .i64 b),.lit (.string t),d])] []) =
   some (.ret (.dat (.agg [.lit (.int .i64 k),.lit (.int .i64 0),.lit (.string s),.sl [.lit (.int .i64 a),.lit (.int .i64 b),.lit (.string t),d] 1 true])) []):=by
 refine Z_call (pf:=F176) rfl rfl ?_
 simp[F176,h1,h2]
theorem qpv (h1:V.one (.dat d)=true) (h2:V.cells (.dat d)=[.dat d]) (h3:V.one (.dat d')=true) (h4:V.cells (.dat d')=[.dat d']) :
  Z qe5 (.call 178 [.int k,.str s,.dat (.agg [.lit (.int .i64 a),.lit (.int .i64 b),.lit (.string t),d]),.dat (.agg [.lit (.int .i64 a'),.lit (.int .i64 b'),.lit (.string t'),d'])] []) =
   some (.ret (.dat (.agg [.lit (.int .i64 k),.lit (.int .i64 0),.lit (.string s),.sl [.lit (.int .i64 a),.lit (.int .i64 b),.lit (.string t),d,.lit (.int .i64 a'),.lit (.int .i64 b'),.lit (.string t'),d'] 2 true])) []):=by
 refine Z_call (pf:=F178) rfl rfl ?_
 simp[F178,h1,h2,h3,h4,List.range_succ]
end
def qpw:List ByteArray:=[⟨#[105]⟩,⟨#[110]⟩,⟨#[115,117,109]⟩,⟨#[118,51]⟩]
def qrS:List ByteArray:=qpw++[⟨#[118]⟩]
def qi2:List ByteArray:=[⟨#[115,101,108,102]⟩,⟨#[111,116,104,101,114]⟩,⟨#[116,105,99,107]⟩]
def qmu:List ByteArray:=[⟨#[120]⟩,⟨#[121]⟩,⟨#[118,120]⟩,⟨#[118,121]⟩,⟨#[97]⟩,⟨#[98]⟩]
def qfH:List ByteArray:=qmu++[⟨#[104,105,116]⟩,⟨#[115,116,105,108,108]⟩]
def E.fine:E->Prop
 | .int n=>0<=n/\n<=2147483647
 | .bool n=>n=0\/n=1
 | .var s=>s∈qrS
 | .name s=>s∈qi2
 | .field _ s e=>s∈qfH/\e.fine/\e.ty=1
 | .un _ neg e=>e.fine/\e.ty=if neg then 1 else 2
 | .bin _ o a b=>a.fine/\b.fine/\a.ty=o.opd/\b.ty=o.opd
def E.dp:E->Nat
 | .field _ _ e=>e.dp+1
 | .un _ _ e=>e.dp+1
 | .bin _ _ a b=>max a.dp b.dp+1
 | _=>0
def mxs:Nat->Nat
 | 0=>1
 | n+1=>2*mxs n+1
theorem qgx (n:Nat):1<=mxs n:=by cases n<;>simp[mxs]
def GIb (B:Int) (v:D) (xs:List Int) (d i:Int):Prop := ∃ (e:E) (i':Int),(e.fine/\e.ty=1/\e.dp<=d.toNat/\e.size<=mxs d.toNat/\Co 2 e.cost xs i i')/\(0<=i'/\i'<=B) /\
 Z qe5 (.call 177 [.ptr 0 0,.int d] (qpt v i))=some (.ret e.node (qpt v i'))
def GBb (B:Int) (v:D) (xs:List Int) (d i:Int):Prop := ∃ (e:E) (i':Int),(e.fine/\e.ty=2/\e.dp<=d.toNat+1/\e.size<=mxs (d.toNat+1)/\Co 6 e.cost xs i i')/\(0<=i'/\i'<=B) /\
 Z qe5 (.call 179 [.ptr 0 0,.int d] (qpt v i))=some (.ret e.node (qpt v i'))
theorem qjI {l:List ByteArray} {p:Int} (h:0<=p/\p<l.length) : ∃ s∈l,qaq (qaS l) p.toNat 1=some [.lit (.string s)]:=
 ⟨_,List.getElem_mem (by omega:p.toNat<l.length),qh4 l p.toNat (by omega)⟩
def nums:List Int:=[0,1,2,3,7,100,1024,2147483647]
def qpW:List Bop:=[.add,.sub,.mul,.div]
theorem qpx {p:Int} (h:0<=p/\p<4) : ∃ o∈qpW,qaq (qaS [⟨#[43]⟩,⟨#[45]⟩,⟨#[42]⟩,⟨#[47]⟩]) p.toNat 1=some [.lit (.string (Bop.str o))]:=by
 obtain rfl | rfl | rfl | rfl:p=0\/p=1\/p=2\/p=3:=by omega
 ·exact⟨.add,by simp[qpW],rfl⟩
 ·exact⟨.sub,by simp[qpW],rfl⟩
 ·exact⟨.mul,by simp[qpW],rfl⟩
 ·exact⟨.div,by simp[qpW],rfl⟩
section
variable {v:D} {xs:List Int} {i d B:Int} (hx : ∀ x∈xs,I64 x) (hl:Bnd v xs B) (hi:0<=i/\i<=B)
include hx hl hi
def qhn (xs:List Int) (d i:Int):Int:=if d<=0 then (qaJ xs i 12).tmod 6 else qaJ xs i 12
theorem qmv (h:qhn xs d i=0\/qhn xs d i=1):GIb B v xs d i:=by
 have n1:=qb7 (i:=i) (m:=12) hx hl hi (by omega)
 have r1:=qaR hi hl
 have n2:=qb7 (i:=qaK xs i) (m:=8) hx hl r1 (by omega)
 have r2:=qaR r1 hl
 have p:=qbT (i:=qaK xs i) (m:=8) hx (by omega)
 have hat:=qdS (qdy nums) 8 true (qaJ xs (qaK xs i) 8) p.1 (by omega)
 have hc:=qiu nums (qaJ xs (qaK xs i) 8).toNat (by simp[nums]; omega)
 have hm : ∀ n∈nums,0<=n/\n<=2147483647:=by decide
 have hn:=hm _ (List.getElem_mem (l:=nums) (n:=(qaJ xs (qaK xs i) 8).toNat) (by simp[nums]; omega))
 have hlen:(qaJ xs (qaK xs i) 8).toNat<nums.length:=by simp[nums]; omega
 have hco:Co 2 (E.cost (.int (nums[(qaJ xs (qaK xs i) 8).toNat]'hlen))) xs i (qaK xs (qaK xs i)):=by
  have hcs : ∀ n∈nums,E.cost (.int n)<=11:=by decide +kernel
  have h11:=hcs _ (List.getElem_mem hlen)
  have h0 : ∀ (k:Nat) (hk:k<nums.length),k=0->E.cost (.int (nums[k]'hk))=2:=fun k hk e=>by subst e; exact (by decide +kernel:E.cost (.int 0)=2)
  have hz:=h0 _ hlen
  unfold Co
  rcases qa7 xs i with ⟨e1,l1⟩ | ⟨e1,l1⟩
  ·rcases qa7 xs (qaK xs i) with ⟨e2,l2⟩ | ⟨e2,l2⟩<;>omega
  ·have e3:qaJ xs (qaK xs i) 8=0:=by rw[e1]; exact l1 8
   have e4:=hz (by rw[e3]; rfl)
   rcases qa7 xs (qaK xs i) with ⟨e2,l2⟩ | ⟨e2,l2⟩<;>omega
 generalize nums[(qaJ xs (qaK xs i) 8).toNat]'_=vv at hc hn hco
 simp only[nums,qdy,List.map] at hat hc
 refine⟨.int vv,_,⟨hn,rfl,Nat.zero_le _,qgx _,hco⟩,r2,?_⟩
 refine Z_call (pf:=F177) rfl rfl ?_
 unfold qhn at h
 by_cases hd:d<=0
 ·rw[if_pos hd] at h
  rcases h with h | h<;>simp[F177,n1,n2,hd,h,hat,hc]
 ·rw[if_neg hd] at h
  rcases h with h | h<;>simp[F177,n1,n2,hd,h,hat,hc]
theorem qmw (h:qhn xs d i=2\/qhn xs d i=3):GIb B v xs d i:=by
 have n1:=qb7 (i:=i) (m:=12) hx hl hi (by omega)
 have r1:=qaR hi hl
 have n2:=qb7 (i:=qaK xs i) (m:=4) hx hl r1 (by omega)
 have r2:=qaR r1 hl
 have p:=qbT (i:=qaK xs i) (m:=4) hx (by omega)
 have hat:=qdS (qaS qpw) 4 true (qaJ xs (qaK xs i) 4) p.1 (by omega)
 obtain⟨s,hs,hc⟩:=qjI (l:=qpw) (p:=qaJ xs (qaK xs i) 4) (by simpa [qpw] using p)
 simp only[qpw,qaS,List.map] at hat hc
 have hsel:qaJ xs i 12≠0:=fun h0=>by
  unfold qhn at h
  rw[h0] at h
  split at h<;>simp at h
 have hco:Co 2 (E.cost (.var s)) xs i (qaK xs (qaK xs i)):=by
  have hcs : ∀ s∈qpw,s.size<=5:=by decide
  have h5:=hcs s hs
  show _/\_/\((s.size+1:Nat):Int)<=_
  rcases qa7 xs i with ⟨e1,l1⟩ | ⟨e1,l1⟩
  ·rcases qa7 xs (qaK xs i) with ⟨e2,l2⟩ | ⟨e2,l2⟩<;>omega
  ·exact absurd (l1 12) hsel
 refine⟨.var s,_,⟨List.mem_append_left _ hs,rfl,Nat.zero_le _,qgx _,hco⟩,r2,?_⟩
 refine Z_call (pf:=F177) rfl rfl ?_
 unfold qhn at h
 by_cases hd:d<=0
 ·rw[if_pos hd] at h
  rcases h with h | h<;>simp[F177,n1,n2,hd,h,hat,hc]
 ·rw[if_neg hd] at h
  rcases h with h | h<;>simp[F177,n1,n2,hd,h,hat,hc]
theorem qkB (h:qhn xs d i=4\/qhn xs d i=5):GIb B v xs d i:=by
 have n1:=qb7 (i:=i) (m:=12) hx hl hi (by omega)
 have r1:=qaR hi hl
 have n2:=qb7 (i:=qaK xs i) (m:=3) hx hl r1 (by omega)
 have r2:=qaR r1 hl
 have p:=qbT (i:=qaK xs i) (m:=3) hx (by omega)
 have hat:=qdS (qaS qi2) 3 true (qaJ xs (qaK xs i) 3) p.1 (by omega)
 obtain⟨s,hs,hc⟩:=qjI (l:=qi2) (p:=qaJ xs (qaK xs i) 3) (by simpa [qi2] using p)
 simp only[qi2,qaS,List.map] at hat hc
 have hsel:qaJ xs i 12≠0:=fun h0=>by
  unfold qhn at h
  rw[h0] at h
  split at h<;>simp at h
 have hco:Co 2 (E.cost (.name s)) xs i (qaK xs (qaK xs i)):=by
  have hcs : ∀ s∈qi2,s.size<=5:=by decide
  have h5:=hcs s hs
  show _/\_/\((s.size+1:Nat):Int)<=_
  rcases qa7 xs i with ⟨e1,l1⟩ | ⟨e1,l1⟩
  ·rcases qa7 xs (qaK xs i) with ⟨e2,l2⟩ | ⟨e2,l2⟩<;>omega
  ·exact absurd (l1 12) hsel
 refine⟨.name s,_,⟨hs,rfl,Nat.zero_le _,qgx _,hco⟩,r2,?_⟩
 refine Z_call (pf:=F177) rfl rfl ?_
 unfold qhn at h
 by_cases hd:d<=0
 ·rw[if_pos hd] at h
  rcases h with h | h<;>simp[F177,n1,n2,hd,h,hat,hc]
 ·rw[if_neg hd] at h
  rcases h with h | h<;>simp[F177,n1,n2,hd,h,hat,hc]
theorem qmx (hd : ¬ d<=0) (hd2:d<=1000) (ih : ∀ j,0<=j/\j<=B->GIb B v xs (d-1) j) (h:qaJ xs i 12=6\/qaJ xs i 12=7):GIb B v xs d i:=by
 have n1:=qb7 (i:=i) (m:=12) hx hl hi (by omega)
 have r1:=qaR hi hl
 have n2:=qb7 (i:=qaK xs i) (m:=8) hx hl r1 (by omega)
 have r2:=qaR r1 hl
 have p:=qbT (i:=qaK xs i) (m:=8) hx (by omega)
 have hat:=qdS (qaS qfH) 8 true (qaJ xs (qaK xs i) 8) p.1 (by omega)
 obtain⟨s,hs,hc⟩:=qjI (l:=qfH) (p:=qaJ xs (qaK xs i) 8) (by simpa [qfH,qmu] using p)
 simp only[qfH,qmu,qaS,List.map,List.cons_append,List.nil_append] at hat hc
 obtain⟨e,i',h1,h2,h3⟩:=ih _ r2
 have o:=qpu 11 s e.kind e.num e.str e.kids (by simp) (by simp)
 have w1:=qaj (d-1) (by omega)
 have ed:d.toNat=(d-1).toNat+1:=by omega
 have hco:Co 2 (E.cost (.field true s e)) xs i i':=by
  have hcs : ∀ s∈qfH,s.size<=5:=by decide
  have h5:=hcs s hs
  obtain⟨q1,q2,q3⟩:=h1.2.2.2.2
  show _/\_/\((s.size+5+e.cost:Nat):Int)<=_
  rcases qa7 xs i with ⟨e1,l1⟩ | ⟨e1,l1⟩
  ·rcases qa7 xs (qaK xs i) with ⟨e2,l2⟩ | ⟨e2,l2⟩<;>omega
  ·exact absurd (l1 12) (by omega)
 refine⟨.field true s e,i',⟨⟨hs,h1.1,h1.2.1⟩,by simp[h1.2.1],by rw[ed]; simp only[E.dp]; omega,by rw[ed]; simp only[mxs,qhk]; omega,hco⟩,h2,?_⟩
 refine Z_call (pf:=F177) rfl rfl ?_
 rcases h with h | h<;>simp[F177,n1,n2,hd,h,hat,hc,h3,o,w1]
theorem qpy (hd : ¬ d<=0) (hd2:d<=1000) (ih : ∀ j,0<=j/\j<=B->GIb B v xs (d-1) j) (h:qaJ xs i 12=8):GIb B v xs d i:=by
 have n1:=qb7 (i:=i) (m:=12) hx hl hi (by omega)
 have r1:=qaR hi hl
 obtain⟨e,i',h1,h2,h3⟩:=ih _ r1
 have o:=qpu 13 ⟨#[45]⟩ e.kind e.num e.str e.kids (by simp) (by simp)
 have w1:=qaj (d-1) (by omega)
 have ed:d.toNat=(d-1).toNat+1:=by omega
 have hco:Co 2 (E.cost (.un true true e)) xs i i':=by
  obtain⟨q1,q2,q3⟩:=h1.2.2.2.2
  show _/\_/\((6+e.cost:Nat):Int)<=_
  rcases qa7 xs i with ⟨e1,l1⟩ | ⟨e1,l1⟩
  ·omega
  ·exact absurd (l1 12) (by omega)
 refine⟨.un true true e,i',⟨⟨h1.1,h1.2.1⟩,by simp[h1.2.1],by rw[ed]; simp only[E.dp]; omega,by rw[ed]; simp only[mxs,qjD]; omega,hco⟩,h2,?_⟩
 refine Z_call (pf:=F177) rfl rfl ?_
 simp[F177,n1,hd,h,h3,o,w1,ustr]
theorem qpz (hd : ¬ d<=0) (hd2:d<=1000) (ih : ∀ j,0<=j/\j<=B->GIb B v xs (d-1) j) (h:9<=qaJ xs i 12):GIb B v xs d i:=by
 have n1:=qb7 (i:=i) (m:=12) hx hl hi (by omega)
 have r1:=qaR hi hl
 have n2:=qb7 (i:=qaK xs i) (m:=4) hx hl r1 (by omega)
 have r2:=qaR r1 hl
 have p:=qbT (i:=qaK xs i) (m:=4) hx (by omega)
 have hat:=qdS (qaS [⟨#[43]⟩,⟨#[45]⟩,⟨#[42]⟩,⟨#[47]⟩]) 4 true (qaJ xs (qaK xs i) 4) p.1 (by omega)
 obtain⟨o,ho,hc⟩:=qpx p
 simp only[qaS,List.map] at hat hc
 obtain⟨a,i1,h1,h2,h3⟩:=ih _ r2
 obtain⟨b,i2,h4,h5,h6⟩:=ih _ h2
 have ot:=qpv 14 o.str a.kind a.num b.kind b.num a.str b.str a.kids b.kids (by simp) (by simp) (by simp) (by simp)
 have w1:=qaj (d-1) (by omega)
 have ed:d.toNat=(d-1).toNat+1:=by omega
 have ho1:o.opd=1/\o.res=1:=by
  simp only[qpW,List.mem_cons,List.not_mem_nil,or_false] at ho
  rcases ho with rfl | rfl | rfl | rfl<;>exact⟨rfl,rfl⟩
 have hco:Co 2 (E.cost (.bin true o a b)) xs i i2:=by
  have ho2:o.str.size<=2:=by cases o<;>decide
  obtain⟨q1,q2,q3⟩:=h1.2.2.2.2
  obtain⟨q4,q5,q6⟩:=h4.2.2.2.2
  show _/\_/\((o.str.size+5+(a.cost+b.cost):Nat):Int)<=_
  rcases qa7 xs i with ⟨e1,l1⟩ | ⟨e1,l1⟩
  ·rcases qa7 xs (qaK xs i) with ⟨e2,l2⟩ | ⟨e2,l2⟩<;>omega
  ·exact absurd (l1 12) (by omega)
 refine⟨.bin true o a b,i2,⟨⟨h1.1,h4.1,by rw[ho1.1]; exact h1.2.1,by rw[ho1.1]; exact h4.2.1⟩,by simp[h1.2.1,h4.2.1,ho1.1,ho1.2],by rw[ed]; simp only[E.dp]; omega,by rw[ed]; simp only[mxs,qfR]; omega,hco⟩,h5,?_⟩
 refine Z_call (pf:=F177) rfl rfl ?_
 have k0 : ¬ qaJ xs i 12=0:=by omega
 have k1 : ¬ qaJ xs i 12=1:=by omega
 have k2 : ¬ qaJ xs i 12=2:=by omega
 have k3 : ¬ qaJ xs i 12=3:=by omega
 have k4 : ¬ qaJ xs i 12=4:=by omega
 have k5 : ¬ qaJ xs i 12=5:=by omega
 have k6 : ¬ qaJ xs i 12=6:=by omega
 have k7 : ¬ qaJ xs i 12=7:=by omega
 have k8 : ¬ qaJ xs i 12=8:=by omega
 simp[F177,n1,n2,hd,k0,k1,k2,k3,k4,k5,k6,k7,k8,hat,hc,h3,h6,ot,w1]
end
end Go.Pm
end SG1
section SG2
namespace Go.Pm
open F
theorem qlO {v:D} {xs:List Int} {B:Int} (hx : ∀ x∈xs,I64 x) (hl:Bnd v xs B) : ∀ (n:Nat) (d i:Int),d<=n->n<=1000->(0<=i/\i<=B)->GIb B v xs d i
 | n,d,i,hd,hn,hi=>by
  have p:=qbT (i:=i) (m:=12) hx (by omega)
  by_cases h0:d<=0
  ·have q:=qhY p.1 (m:=6) (by omega)
   have e:qhn xs d i=(qaJ xs i 12).tmod 6:=if_pos h0
   by_cases h1:qhn xs d i<2
   ·exact qmv hx hl hi (by omega)
   by_cases h2:qhn xs d i<4
   ·exact qmw hx hl hi (by omega)
   ·exact qkB hx hl hi (by omega)
  ·have e:qhn xs d i=qaJ xs i 12:=if_neg h0
   by_cases h1:qhn xs d i<2
   ·exact qmv hx hl hi (by omega)
   by_cases h2:qhn xs d i<4
   ·exact qmw hx hl hi (by omega)
   by_cases h3:qhn xs d i<6
   ·exact qkB hx hl hi (by omega)
   cases n with
   | zero=>omega
   | succ n=>
    have ih : ∀ j,0<=j/\j<=B->GIb B v xs (d-1) j:=fun j hj=>qlO hx hl n (d-1) j (by omega) (by omega) hj
    by_cases h4:qhn xs d i<8
    ·exact qmx hx hl hi h0 (by omega) ih (by omega)
    by_cases h5:qhn xs d i=8
    ·exact qpy hx hl hi h0 (by omega) ih (by omega)
    ·exact qpz hx hl hi h0 (by omega) ih (by omega)
def qn6:List Bop:=[.lt,.le,.gt,.ge,.eq,.ne]
theorem qoT {p:Int} (h:0<=p/\p<6) : ∃ o∈qn6,qaq (qaS [⟨#[60]⟩,⟨#[60,61]⟩,⟨#[62]⟩,⟨#[62,61]⟩,⟨#[61,61]⟩,⟨#[33,61]⟩]) p.toNat 1=some [.lit (.string (Bop.str o))]:=by
 obtain rfl | rfl | rfl | rfl | rfl | rfl:p=0\/p=1\/p=2\/p=3\/p=4\/p=5:=by omega
 ·exact⟨.lt,by simp[qn6],rfl⟩
 ·exact⟨.le,by simp[qn6],rfl⟩
 ·exact⟨.gt,by simp[qn6],rfl⟩
 ·exact⟨.ge,by simp[qn6],rfl⟩
 ·exact⟨.eq,by simp[qn6],rfl⟩
 ·exact⟨.ne,by simp[qn6],rfl⟩
def qrz:List Bop:=[.and,.or]
theorem qoU {p:Int} (h:0<=p/\p<2) : ∃ o∈qrz,qaq (qaS [⟨#[38,38]⟩,⟨#[124,124]⟩]) p.toNat 1=some [.lit (.string (Bop.str o))]:=by
 obtain rfl | rfl:p=0\/p=1:=by omega
 ·exact⟨.and,by simp[qrz],rfl⟩
 ·exact⟨.or,by simp[qrz],rfl⟩
def qlP (xs:List Int) (d i:Int):Int:=if d<=0 then (qaJ xs i 8).tmod 4 else qaJ xs i 8
section
variable {v:D} {xs:List Int} {i d B:Int} (hx : ∀ x∈xs,I64 x) (hl:Bnd v xs B) (hi:0<=i/\i<=B)
include hx hl hi
theorem qj9 (h:qlP xs d i=0):GBb B v xs d i:=by
 have n1:=qb7 (i:=i) (m:=8) hx hl hi (by omega)
 have r1:=qaR hi hl
 have n2:=qb7 (i:=qaK xs i) (m:=2) hx hl r1 (by omega)
 have r2:=qaR r1 hl
 have p:=qbT (i:=qaK xs i) (m:=2) hx (by omega)
 have hco:Co 6 (E.cost (.bool (qaJ xs (qaK xs i) 2))) xs i (qaK xs (qaK xs i)):=by
  have hb:E.cost (.bool (qaJ xs (qaK xs i) 2))<=6:=by simp only[E.cost]; split<;>omega
  unfold Co
  rcases qa7 xs i with ⟨e1,l1⟩ | ⟨e1,l1⟩<;>rcases qa7 xs (qaK xs i) with ⟨e2,l2⟩ | ⟨e2,l2⟩<;>omega
 refine⟨.bool (qaJ xs (qaK xs i) 2),_,⟨by show _\/_; omega,rfl,Nat.zero_le _,qgx _,hco⟩,r2,?_⟩
 refine Z_call (pf:=F179) rfl rfl ?_
 unfold qlP at h
 by_cases hd:d<=0
 ·rw[if_pos hd] at h
  simp[F179,n1,n2,hd,h]
 ·rw[if_neg hd] at h
  simp[F179,n1,n2,hd,h]
theorem qka (hd2:d<=1000) (hd3 : -1000<=d) (ih : ∀ j,0<=j/\j<=B->GIb B v xs (d-1) j) (h:1<=qlP xs d i/\qlP xs d i<=4):GBb B v xs d i:=by
 have n1:=qb7 (i:=i) (m:=8) hx hl hi (by omega)
 have r1:=qaR hi hl
 have n2:=qb7 (i:=qaK xs i) (m:=6) hx hl r1 (by omega)
 have r2:=qaR r1 hl
 have p:=qbT (i:=qaK xs i) (m:=6) hx (by omega)
 have hat:=qdS (qaS [⟨#[60]⟩,⟨#[60,61]⟩,⟨#[62]⟩,⟨#[62,61]⟩,⟨#[61,61]⟩,⟨#[33,61]⟩]) 6 true (qaJ xs (qaK xs i) 6) p.1 (by omega)
 obtain⟨o,ho,hc⟩:=qoT p
 simp only[qaS,List.map] at hat hc
 obtain⟨a,i1,h1,h2,h3⟩:=ih _ r2
 obtain⟨b,i2,h4,h5,h6⟩:=ih _ h2
 have ot:=qpv 14 o.str a.kind a.num b.kind b.num a.str b.str a.kids b.kids (by simp) (by simp) (by simp) (by simp)
 have w1:=qaj (d-1) (by omega)
 have ed:(d-1).toNat<=d.toNat:=by omega
 have hm:mxs (d-1).toNat<=mxs d.toNat:=by
  by_cases h0:d<=0
  ·rw[show (d-1).toNat=0 by omega]; exact qgx _
  ·rw[show d.toNat=(d-1).toNat+1 by omega]; simp only[mxs]; omega
 have ho1:o.opd=1/\o.res=2:=by
  simp only[qn6,List.mem_cons,List.not_mem_nil,or_false] at ho
  rcases ho with rfl | rfl | rfl | rfl | rfl | rfl<;>exact⟨rfl,rfl⟩
 have hco:Co 6 (E.cost (.bin true o a b)) xs i i2:=by
  have ho2:o.str.size<=2:=by cases o<;>decide
  obtain⟨q1,q2,q3⟩:=h1.2.2.2.2
  obtain⟨q4,q5,q6⟩:=h4.2.2.2.2
  show _/\_/\((o.str.size+5+(a.cost+b.cost):Nat):Int)<=_
  rcases qa7 xs i with ⟨e1,l1⟩ | ⟨e1,l1⟩
  ·rcases qa7 xs (qaK xs i) with ⟨e2,l2⟩ | ⟨e2,l2⟩<;>omega
  ·exact absurd (l1 8) (fun h0=>by
    unfold qlP at h
    rw[h0] at h
    split at h<;>simp at h)
 refine⟨.bin true o a b,i2,⟨⟨h1.1,h4.1,by rw[ho1.1]; exact h1.2.1,by rw[ho1.1]; exact h4.2.1⟩,by simp[h1.2.1,h4.2.1,ho1.1,ho1.2],by simp only[E.dp]; omega,by simp only[mxs,qfR]; omega,hco⟩,h5,?_⟩
 refine Z_call (pf:=F179) rfl rfl ?_
 unfold qlP at h
 by_cases hd:d<=0
 ·rw[if_pos hd] at h
  obtain h' | h' | h' | h':(qaJ xs i 8).tmod 4=1\/(qaJ xs i 8).tmod 4=2\/(qaJ xs i 8).tmod 4=3\/(qaJ xs i 8).tmod 4=4:=by omega
  all_goals simp[F179,n1,n2,hd,h',hat,hc,h3,h6,ot,w1]
 ·rw[if_neg hd] at h
  obtain h' | h' | h' | h':qaJ xs i 8=1\/qaJ xs i 8=2\/qaJ xs i 8=3\/qaJ xs i 8=4:=by omega
  all_goals simp[F179,n1,n2,hd,h',hat,hc,h3,h6,ot,w1]
theorem qnc (hd : ¬ d<=0) (hd2:d<=1000) (ih : ∀ j,0<=j/\j<=B->GBb B v xs (d-1) j) (h:qaJ xs i 8=5):GBb B v xs d i:=by
 have n1:=qb7 (i:=i) (m:=8) hx hl hi (by omega)
 have r1:=qaR hi hl
 obtain⟨e,i',h1,h2,h3⟩:=ih _ r1
 have o:=qpu 13 ⟨#[33]⟩ e.kind e.num e.str e.kids (by simp) (by simp)
 have w1:=qaj (d-1) (by omega)
 have ed:d.toNat=(d-1).toNat+1:=by omega
 have hco:Co 6 (E.cost (.un true false e)) xs i i':=by
  obtain⟨q1,q2,q3⟩:=h1.2.2.2.2
  show _/\_/\((6+e.cost:Nat):Int)<=_
  rcases qa7 xs i with ⟨e1,l1⟩ | ⟨e1,l1⟩
  ·omega
  ·exact absurd (l1 8) (by omega)
 refine⟨.un true false e,i',⟨⟨h1.1,h1.2.1⟩,by simp[h1.2.1],by rw[ed]; simp only[E.dp]; omega,by rw[ed]; have:=h1.2.2.2.1; simp only[mxs,qjD] at *; omega,hco⟩,h2,?_⟩
 refine Z_call (pf:=F179) rfl rfl ?_
 simp[F179,n1,hd,h,h3,o,w1,ustr]
theorem qnd (hd : ¬ d<=0) (hd2:d<=1000) (ih : ∀ j,0<=j/\j<=B->GBb B v xs (d-1) j) (h:qaJ xs i 8=6\/qaJ xs i 8=7):GBb B v xs d i:=by
 have n1:=qb7 (i:=i) (m:=8) hx hl hi (by omega)
 have r1:=qaR hi hl
 have n2:=qb7 (i:=qaK xs i) (m:=2) hx hl r1 (by omega)
 have r2:=qaR r1 hl
 have p:=qbT (i:=qaK xs i) (m:=2) hx (by omega)
 have hat:=qdS (qaS [⟨#[38,38]⟩,⟨#[124,124]⟩]) 2 true (qaJ xs (qaK xs i) 2) p.1 (by omega)
 obtain⟨o,ho,hc⟩:=qoU p
 simp only[qaS,List.map] at hat hc
 obtain⟨a,i1,h1,h2,h3⟩:=ih _ r2
 obtain⟨b,i2,h4,h5,h6⟩:=ih _ h2
 have ot:=qpv 14 o.str a.kind a.num b.kind b.num a.str b.str a.kids b.kids (by simp) (by simp) (by simp) (by simp)
 have w1:=qaj (d-1) (by omega)
 have ed:d.toNat=(d-1).toNat+1:=by omega
 have ho1:o.opd=2/\o.res=2:=by
  simp only[qrz,List.mem_cons,List.not_mem_nil,or_false] at ho
  rcases ho with rfl | rfl<;>exact⟨rfl,rfl⟩
 have hco:Co 6 (E.cost (.bin true o a b)) xs i i2:=by
  have ho2:o.str.size<=2:=by cases o<;>decide
  obtain⟨q1,q2,q3⟩:=h1.2.2.2.2
  obtain⟨q4,q5,q6⟩:=h4.2.2.2.2
  show _/\_/\((o.str.size+5+(a.cost+b.cost):Nat):Int)<=_
  rcases qa7 xs i with ⟨e1,l1⟩ | ⟨e1,l1⟩
  ·rcases qa7 xs (qaK xs i) with ⟨e2,l2⟩ | ⟨e2,l2⟩<;>omega
  ·exact absurd (l1 8) (by omega)
 refine⟨.bin true o a b,i2,⟨⟨h1.1,h4.1,by rw[ho1.1]; exact h1.2.1,by rw[ho1.1]; exact h4.2.1⟩,by simp[h1.2.1,h4.2.1,ho1.1,ho1.2],by rw[ed]; simp only[E.dp]; omega,by rw[ed]; have:=h1.2.2.2.1; have:=h4.2.2.2.1; simp only[mxs,qfR] at *; omega,hco⟩,h5,?_⟩
 refine Z_call (pf:=F179) rfl rfl ?_
 rcases h with h | h<;>simp[F179,n1,n2,hd,h,hat,hc,h3,h6,ot,w1]
end
theorem qlQ {v:D} {xs:List Int} {B:Int} (hx : ∀ x∈xs,I64 x) (hl:Bnd v xs B) : ∀ (n:Nat) (d i:Int),d<=n -> -100<=d->n<=1000->(0<=i/\i<=B)->GBb B v xs d i
 | n,d,i,hd,hd',hn,hi=>by
  have p:=qbT (i:=i) (m:=8) hx (by omega)
  have ihI : ∀ j,0<=j/\j<=B->GIb B v xs (d-1) j:=fun j hj=>qlO hx hl n (d-1) j (by omega) (by omega) hj
  by_cases h0:d<=0
  ·have q:=qhY p.1 (m:=4) (by omega)
   have e:qlP xs d i=(qaJ xs i 8).tmod 4:=if_pos h0
   by_cases h1:qlP xs d i=0
   ·exact qj9 hx hl hi h1
   ·exact qka hx hl hi (by omega) (by omega) ihI (by omega)
  ·have e:qlP xs d i=qaJ xs i 8:=if_neg h0
   by_cases h1:qlP xs d i=0
   ·exact qj9 hx hl hi h1
   by_cases h2:qlP xs d i<=4
   ·exact qka hx hl hi (by omega) (by omega) ihI (by omega)
   cases n with
   | zero=>omega
   | succ n=>
    have ih : ∀ j,0<=j/\j<=B->GBb B v xs (d-1) j:=fun j hj=>qlQ hx hl n (d-1) j (by omega) (by omega) (by omega) hj
    by_cases h4:qaJ xs i 8=5
    ·exact qnc hx hl hi h0 (by omega) ih h4
    ·exact qnd hx hl hi h0 (by omega) ih (by omega)
end Go.Pm
end SG2
section SG3
namespace Go.Pm
open F
def Ss.fine:Ss->Prop
 | .nil=>True
 | .assign _ s e r=>(s∈qrS/\e.fine/\e.ty=1)/\r.fine
 | .store _ s a b r=>(s∈qmu/\a.fine/\a.ty=1/\b.fine/\b.ty=1)/\r.fine
 | .effect _ a b r=>(a.fine/\a.ty=1/\b.fine/\b.ty=1)/\r.fine
 | .stop r=>r.fine
 | .cond false _ c (.block _ x (.block _ y .nil)) r=>(c.fine/\c.ty=2)/\x.fine/\y.fine/\r.fine
 | .cond true _ c (.block _ x .nil) r=>(c.fine/\c.ty=2)/\x.fine/\r.fine
 | _=>False
def Ss.dp:Ss->Nat
 | .nil=>0
 | .assign _ _ _ r=>r.dp
 | .store _ _ _ _ r=>r.dp
 | .effect _ _ _ r=>r.dp
 | .stop r=>r.dp
 | .cond _ _ _ b r=>max (b.dp+1) r.dp
 | .block _ b r=>max b.dp r.dp
def Ss.edp:Ss->Nat
 | .nil=>0
 | .assign _ _ e r=>max e.dp r.edp
 | .store _ _ a b r=>max (max a.dp b.dp) r.edp
 | .effect _ a b r=>max (max a.dp b.dp) r.edp
 | .stop r=>r.edp
 | .cond _ _ c b r=>max (max c.dp b.edp) r.edp
 | .block _ b r=>max b.edp r.edp
end Go.Pm
end SG3
section SG4
namespace Go.Pm
open F
section
variable {xs:List Int} {i d c:Int}
abbrev z4O:Ob := .cells [.int 0,.int 0,.str ⟨#[]⟩,.dat (.lit (.slice none 0 0))]
abbrev B1 (xs:List Int) (i:Int) (pre:Fo):S:=[.cells [.dat (qkO xs),.int i],z4O,.cells [.int 7,.int 0,.str ⟨#[]⟩,.gsl pre.cells pre.len 4 3],.tip pre.cells.length]
end
end Go.Pm
end SG4
section SG5
namespace Go.Pm
open F
def Hd.ss:Hd->Ss
 | .none => .nil
 | .some _ b=>b
structure Hd.fine (h:Hd):Prop where
 fine:h.ss.fine
 size:h.ss.fo.size<=2000
def Hd.cost:Hd->Nat
 | .none=>0
 | .some _ b=>12+b.cost
structure Hd.gen (h:Hd):Prop extends h.fine where
 f:h.f=false
 dp:h.ss.dp<=2
 edp:h.ss.edp<=3
 gsize:h.ss.fo.size<=1260
end Go.Pm
end SG5
section SUg
namespace Go.Pm
def wt:List ByteArray->Nat
 | []=>0
 | t::l=>t.size+1+wt l
theorem qmj (a b:List ByteArray):wt (a++b)=wt a+wt b:=by
 induction a with
 | nil=>simp[wt]
 | cons t a ih=>simp only[List.cons_append,wt,ih]; omega
theorem qmk : ∀ (l:List ByteArray) (p:Bool),(qay p l).length<=wt l
 | [],p=>by simp[qay,wt]
 | t::l,p=>by
  have h1:=qmk l (qbQ p t)
  have h2:=qaI t
  have h3:(gap p t).length<=1:=by unfold gap; split<;>simp
  simp only[qay,List.length_append,wt]
  omega
theorem qkv (b:Bool) (l:List ByteArray):wt (qcc b l)<=wt l+4:=by
 cases b with
 | false=>simp[qcc]
 | true=>
  have:wt (qcc true l)=2+(wt l+2):=by
   show wt (bs [40]::(l++[bs [41]]))=_
   rw[wt,qmj]
   rfl
  omega
theorem qml (full:Bool) : ∀ (e:E) p,wt (e.tx full p)<=e.cost
 | .int n,p=>by simp[E.tx,wt,E.cost,qaG]
 | .bool n,p=>by
  simp only[E.tx,wt,E.cost]
  split<;>simp[qfE,qiQ,qaG]
 | .var s,p=>by simp[E.tx,wt,E.cost]
 | .name s,p=>by simp[E.tx,wt,E.cost]
 | .field _ s e,p=>by
  have:=qml full e 1
  simp only[E.tx,wt,qmj,E.cost,qaG,List.length_cons,List.length_nil]
  omega
 | .un _ neg e,p=>by
  have h1:=qml full e (qdt neg)
  have h2:=qkv (full||decide (qdt neg<p)) (ustr neg::e.tx full (qdt neg))
  have h3:(ustr neg).size=1:=by cases neg<;>rfl
  simp only[E.tx,E.cost]
  rw[wt,h3] at h2
  omega
 | .bin _ o a b,p=>by
  have h1:=qml full a o.left
  have h2:=qml full b (o.prec+1)
  have h3:=qkv (full||decide (o.prec<p)) (a.tx full o.left++o.str::b.tx full (o.prec+1))
  simp only[E.tx,E.cost]
  rw[qmj,wt] at h3
  omega
theorem qkw {s:ByteArray} (h:s∈qrS):qo8 s/\s.size<=3:=by
 simp only[qrS,qpw,List.cons_append,List.nil_append,List.mem_cons,List.not_mem_nil,or_false] at h
 have key : ∀ (c:UInt8) (r:List UInt8),qaL c=true->(∀ b∈r,qau b=true)->(c::r).length<=8->Tg (byl (bs (c::r))):=fun c r h1 h2 h3=>ql0 h1 h2 h3
 rcases h with rfl | rfl | rfl | rfl | rfl
 ·exact⟨⟨key 105 [] (by decide) (by decide) (by decide),by decide,by decide,by decide⟩,by decide⟩
 ·exact⟨⟨key 110 [] (by decide) (by decide) (by decide),by decide,by decide,by decide⟩,by decide⟩
 ·exact⟨⟨key 115 [117,109] (by decide) (by decide) (by decide),by decide,by decide,by decide⟩,by decide⟩
 ·exact⟨⟨key 118 [51] (by decide) (by decide) (by decide),by decide,by decide,by decide⟩,by decide⟩
 ·exact⟨⟨key 118 [] (by decide) (by decide) (by decide),by decide,by decide,by decide⟩,by decide⟩
theorem qiW {s:ByteArray} (h:s∈qi2):(s=qqR\/s=qoa\/s=qqS)/\s.size<=5:=by
 simp only[qi2,List.mem_cons,List.not_mem_nil,or_false] at h
 rcases h with rfl | rfl | rfl
 ·exact⟨.inl rfl,by decide⟩
 ·exact⟨.inr (.inl rfl),by decide⟩
 ·exact⟨.inr (.inr rfl),by decide⟩
theorem qhh {s:ByteArray} (h:s∈qfH):s∈fieldNames/\s.size<=5:=by
 simp only[qfH,qmu,List.cons_append,List.nil_append,List.mem_cons,List.not_mem_nil,or_false] at h
 rcases h with rfl | rfl | rfl | rfl | rfl | rfl | rfl | rfl<;>exact⟨by decide,by decide⟩
theorem qnD {n:Nat} (h:n<=2147483647):(qhb n).length<=10:=qj5 20 n 9 (by omega)
theorem qdg : ∀ e:E,e.fine->e.good
 | .int n,h=>h
 | .bool n,h=>h
 | .var s,h=>(qkw h).1
 | .name s,h=>(qiW h).1
 | .field _ s e,h=>⟨(qhh h.1).1,qdg e h.2.1⟩
 | .un _ neg e,h=>qdg e h.1
 | .bin _ o a b,h=>⟨qdg a h.1,qdg b h.2.1⟩
theorem qe4 (full:Bool) : ∀ (e:E) p,e.nest full p<=2*e.dp
 | .int n,p | .bool n,p | .var s,p | .name s,p=>by simp[E.nest]
 | .field _ s e,p=>by have:=qe4 full e 1; simp only[E.nest,E.dp]; omega
 | .un _ neg e,p=>by have:=qe4 full e (qdt neg); simp only[E.nest,E.dp]; split<;>omega
 | .bin _ o a b,p=>by have h1:=qe4 full a o.left; have h2:=qe4 full b (o.prec+1); simp only[E.nest,E.dp]; split<;>omega
theorem qdh : ∀ e:E,e.fine->e.cost<=12*e.size
 | .int n,h=>by have:=qnD (n:=n.toNat) (by have:=h.2; omega); simp only[E.cost,qnN]; omega
 | .bool n,h=>by simp only[E.cost,qmr]; split<;>omega
 | .var s,h=>by have:=(qkw h).2; simp only[E.cost,qnO]; omega
 | .name s,h=>by have:=(qiW h).2; simp only[E.cost,qms]; omega
 | .field _ s e,h=>by have h1:=(qhh h.1).2; have h2:=qdh e h.2.1; simp only[E.cost,qhk]; omega
 | .un _ neg e,h=>by have h2:=qdh e h.1; simp only[E.cost,qjD]; omega
 | .bin _ o a b,h=>by
  have h1:=qdh a h.1
  have h2:=qdh b h.2.1
  have h3:o.str.size<=2:=by cases o<;>decide
  simp only[E.cost,qfR]
  omega
end Go.Pm
end SUg
section SF3q
namespace Go.Pm.F
variable (C:Task->Option Res) (q:Nat) (fr:Fr) (σ : S)
def F233:PFun:=⟨1,[.tmp 2],.seq (rn [bx 1 0,jj 2 (.mov (.c (.string ⟨#[]⟩)))] [1]) (.seq (rn [la 3 4 1,jj 4 (.call 246 [(.t 3),(kk 1),kT]),mv 2 4] [2]) (.ret)),false,false,false⟩
def F234:PFun:=⟨1,[.tmp 2],.seq (rn [bx 1 0,jj 2 (.mov (.c (.string ⟨#[]⟩)))] [1]) (.seq (rn [la 3 4 1,jj 4 (.call 246 [(.t 3),(kk 1),kF]),mv 2 4] [2]) (.ret)),false,false,false⟩
def F246:PFun:=⟨3,[.tmp 6],.seq (rn [bx 3 0,jj 6 (.mov (.c (.string ⟨#[]⟩)))] [1,2,3]) (.seq (rn [la 10 4 3,cl 11 261 [10],mv 7 11] [1,2,3,7]) (.seq (rn [fa 12 2 3,l1 13 12,mv 8 13] [1,2,3,7,8]) (.seq (.seq (rn [fa 14 0 3,l1 15 14,bk 16 .eql 15 8] [1,2,3,7,8,16]) (.cond (.t 16) (rn [fa 17 1 3,l1 18 17,cl 19 20 [18],mv 8 19] [1,2,3,7,8]) (.skip))) (.seq (.seq (rn [fa 20 0 3,l1 21 20,bk 22 .eql 21 9] [1,2,3,7,8,22]) (.cond (.t 22) (.seq (rn [jj 8 (.mov (.c (.string ⟨#[102,97,108,115,101]⟩)))] [1,2,3,7,8]) (.seq (rn [fa 23 1 3,l1 24 23,bk 25 .eql 24 1] [1,2,3,7,8,25]) (.cond (.t 25) (rn [jj 8 (.mov (.c (.string ⟨#[116,114,117,101]⟩)))] [1,2,3,7,8]) (.skip)))) (.skip))) (.seq (.seq (rn [fa 26 0 3,l1 27 26,bk 28 .eql 27 11] [1,2,3,7,8,28]) (.cond (.t 28) (.region (some []) [fa 29 2 3,⟨some 30,.load false 1 (.t 29),none,[7]⟩,fa 31 3 3,l1 32 31,jj 33 (.indexAddr 4 (.t 32) (kk 0)),la 34 4 33,mv 35 2,jj 36 (.call 246 [(.t 34),(kk 1),(.t 35)]),jj 37 (.bslice 4 [eN,eN,eN,eN] [(0,1,(.t 30)),(1,1,(.c (.string ⟨#[91]⟩))),(2,1,(.t 36)),(3,1,(.c (.string ⟨#[93]⟩)))]),cl 38 247 [37],mv 8 38] [1,2,3,7,8] [7,9]) (.skip))) (.seq (.seq (rn [fa 39 0 3,l1 40 39,bk 41 .eql 40 13] [1,2,3,7,8,41]) (.cond (.t 41) (.region (some []) [fa 42 2 3,⟨some 43,.load false 1 (.t 42),none,[8]⟩,fa 44 3 3,l1 45 44,jj 46 (.indexAddr 4 (.t 45) (kk 0)),la 47 4 46,mv 48 7,mv 49 2,cl 50 246 [47,48,49],jj 51 (.bslice 2 [eN,eN] [(0,1,(.t 43)),(1,1,(.t 50))]),cl 52 247 [51],mv 8 52] [1,2,3,7,8] [8,10]) (.skip))) (.seq (.seq (rn [fa 53 0 3,l1 54 53,bk 55 .eql 54 14] [1,2,3,7,8,55]) (.cond (.t 55) (.seq (rn [mv 56 7,mv 9 56] [1,2,3,7,9]) (.seq (.seq (rn [mv 57 7,bk 58 .eql 57 4] [1,2,3,7,9,58]) (.cond (.t 58) (rn [mx 9 (kk 5)] [1,2,3,7,9]) (.skip))) (.region (some []) [fa 59 3 3,l1 60 59,jj 61 (.indexAddr 4 (.t 60) (kk 0)),la 62 4 61,mv 63 9,mv 64 2,cl 65 246 [62,63,64],fa 66 2 3,⟨some 67,.load false 1 (.t 66),none,[6,16]⟩,fa 68 3 3,⟨some 69,.load false 1 (.t 68),none,[6]⟩,jj 70 (.indexAddr 4 (.t 69) (kk 1)),⟨some 71,.load true 4 (.t 70),none,[6]⟩,mv 72 7,bk 73 .add 72 1,mv 74 2,cl 75 246 [71,73,74],jj 76 (.bslice 3 [eN,eN,eN] [(0,1,(.t 65)),(1,1,(.t 67)),(2,1,(.t 75))]),cl 77 247 [76],mv 8 77] [1,2,7,8] [16,18]))) (.skip))) (.seq (.seq (rn [mv 78 7,mv 79 1,bn 80 .lss 78 79,mv 81 80,jf 82 81 (.mov (.t 2)),jf 83 81 (.mov (.t 82)),jt 84 83 (.mov (.t 7)),jt 85 83 (.bin .lss (.t 84) (kk 8)),jf 86 81 (.pick (.t 83) (.t 85) kF),jj 87 (.pick (.t 81) kT (.t 86))] [8,87]) (.cond (.t 87) (.seq (rn [mv 88 8,jj 89 (.bin .add (.c (.string ⟨#[40]⟩)) (.t 88)),jj 90 (.bin .add (.t 89) (.c (.string ⟨#[41]⟩))),mv 6 90] [6]) (.ret)) (.skip))) (.seq (rn [mv 91 8,mv 6 91] [6]) (.ret)))))))))),false,false,false⟩
@[simp] def F247l0x:PC:=(.seq (.seq (rn [mv 5 4,mv 6 0,ls 7 6,bn 8 .lss 5 7] [0,3,4,8]) (.cond (.t 8) (.skip) (.exit 0))) (.seq (.block 1 (rn [mv 11 3,mv 12 0,mv 13 4,jj 14 (.indexAddr 1 (.t 12) (.t 13)),l1 15 14,cl 16 262 [11,15],mv 3 16] [0,3,4])) (rn [mv 9 4,bk 10 .add 9 1,mv 4 10] [0,3,4])))
def F247l0:PC:=F247l0x
theorem qhm:run C q F247l0 fr σ = run C q F247l0x fr σ := rfl
def F247:PFun:=⟨1,[.tmp 2],.seq (rn [jj 2 (.mov (.c (.string ⟨#[]⟩)))] [0]) (.seq (rn [jj 3 (.mov (.c (.string ⟨#[]⟩)))] [0,3]) (.seq (.seq (rn [mx 4 (kk 0)] [0,3,4]) (.block 0 (.loop F247l0))) (.seq (rn [mv 17 3,mv 2 17] [2]) (.ret)))),false,false,false⟩
def F261:PFun:=⟨1,[.tmp 2],.seq (rn [bx 1 0,mx 2 (kk 0)] [1]) (.seq (.seq (rn [fa 3 0 1,l1 4 3,bk 5 .eql 4 13] [1,5]) (.cond (.t 5) (.seq (.seq (rn [fa 6 2 1,l1 7 6,jj 8 (.bin .eql (.t 7) (.c (.string ⟨#[33]⟩)))] [8]) (.cond (.t 8) (.seq (rn [mx 2 (kk 3)] [2]) (.ret)) (.skip))) (.seq (rn [mx 2 (kk 7)] [2]) (.ret))) (.skip))) (.seq (.seq (rn [fa 9 0 1,l1 10 9,bk 11 .neq 10 14] [1,11]) (.cond (.t 11) (.seq (rn [mx 2 (kk 8)] [2]) (.ret)) (.skip))) (.seq (.seq (rn [fa 12 2 1,l1 13 12,jj 14 (.bin .eql (.t 13) (.c (.string ⟨#[124,124]⟩)))] [1,14]) (.cond (.t 14) (.seq (rn [mx 2 (kk 1)] [2]) (.ret)) (.skip))) (.seq (.seq (rn [fa 15 2 1,l1 16 15,jj 17 (.bin .eql (.t 16) (.c (.string ⟨#[38,38]⟩)))] [1,17]) (.cond (.t 17) (.seq (rn [mx 2 (kk 2)] [2]) (.ret)) (.skip))) (.seq (.seq (rn [fa 18 2 1,l1 19 18,jj 20 (.bin .eql (.t 19) (.c (.string ⟨#[43]⟩))),mv 21 20,jf 22 21 (.fieldAddr 2 (.t 1)),jf 23 21 (.load false 1 (.t 22)),jf 24 21 (.bin .eql (.t 23) (.c (.string ⟨#[45]⟩))),jj 25 (.pick (.t 21) kT (.t 24))] [1,25]) (.cond (.t 25) (.seq (rn [mx 2 (kk 5)] [2]) (.ret)) (.skip))) (.seq (.seq (rn [fa 26 2 1,l1 27 26,jj 28 (.bin .eql (.t 27) (.c (.string ⟨#[42]⟩))),mv 29 28,jf 30 29 (.fieldAddr 2 (.t 1)),jf 31 29 (.load false 1 (.t 30)),jf 32 29 (.bin .eql (.t 31) (.c (.string ⟨#[47]⟩))),jj 33 (.pick (.t 29) kT (.t 32))] [33]) (.cond (.t 33) (.seq (rn [mx 2 (kk 6)] [2]) (.ret)) (.skip))) (.seq (rn [mx 2 (kk 4)] [2]) (.ret)))))))),false,false,false⟩
def F262:PFun:=⟨2,[.tmp 4],.seq (rn [jj 4 (.mov (.c (.string ⟨#[]⟩)))] [0,1]) (.seq (.seq (rn [mv 7 0,jj 8 (.bin .neq (.t 7) (.c (.string ⟨#[]⟩))),mv 9 8,jt 10 9 (.mov (.t 1)),jt 11 9 (.bin .neq (.t 10) (.c (.string ⟨#[]⟩))),jj 12 (.pick (.t 9) (.t 11) kF)] [0,1,12]) (.cond (.t 12) (.seq (rn [mv 13 0,mv 14 0,lz 15 14,bk 16 .sub 15 1,jj 17 (.indexS (.t 13) (.t 16)),mv 5 17] [0,1,5]) (.seq (rn [mv 18 1,jj 19 (.indexS (.t 18) (kk 0)),mv 6 19] [0,1,5,6]) (.seq (rn [mv 20 5,cl 21 192 [20],mv 22 21,jf 23 22 (.mov (.t 5)),jf 24 22 (.call 193 [(.t 23)]),jj 25 (.pick (.t 22) kT (.t 24)),mv 26 25,jt 27 26 (.mov (.t 6)),jt 28 26 (.call 192 [(.t 27)]),jt 29 26 (.mov (.t 28)),jf 30 29 (.mov (.t 6)),jf 31 29 (.call 193 [(.t 30)]),jt 32 26 (.pick (.t 29) kT (.t 31)),jj 33 (.pick (.t 26) (.t 32) kF)] [0,1,33]) (.cond (.t 33) (.seq (rn [mv 34 0,jj 35 (.bin .add (.t 34) (.c (.string ⟨#[32]⟩))),mv 36 1,bn 37 .add 35 36,mv 4 37] [4]) (.ret)) (.skip))))) (.skip))) (.seq (rn [mv 38 0,mv 39 1,bn 40 .add 38 39,mv 4 40] [4]) (.ret))),false,false,false⟩
end Go.Pm.F
end SF3q
section SFLaw13
namespace Go.Pm.F
variable (C:Task->Option Res) (q:Nat) (fr:Fr) (σ : S)
def F221:PFun:=⟨2,[.tmp 4],.seq (rn [mx 4 kF] [0,1]) (.seq (rn [mv 13 0,jj 14 (.build [sN,zN] [(0,1,(.t 13))]),bx 15 14,mv 5 15] [1,5]) (.seq (rn [mv 16 5,jj 17 (.call 177 [(.t 16),(kk 4)]),jj 6 (.alloc [zN,zN,eN,sN]),st 4 6 17] [1,5,6]) (.seq (.seq (rn [mv 18 1] [5,6,18]) (.cond (.t 18) (rn [mv 19 5,jj 20 (.call 179 [(.t 19),(kk 4)]),st 4 6 20] [6]) (.skip))) (.seq (rn [la 22 4 6,cl 23 233 [22],jj 24 (.bin .add (.c (.string ⟨#[111,110,32,104,105,116,123,118,61]⟩)) (.t 23)),jj 25 (.bin .add (.t 24) (.c (.string ⟨#[59,125]⟩))),cl 26 228 [25],mv 21 26,ex 27 21 0,ex 28 21 1,ex 29 21 2,jj 7 (.alloc [zN,zN,eN,sN,zN,zN,eN,sN,zN,zN,eN,sN]),st 12 7 27,mv 8 28,mv 9 29] [6,7,9]) (.seq (rn [la 31 4 6,cl 32 234 [31],jj 33 (.bin .add (.c (.string ⟨#[111,110,32,104,105,116,123,118,61]⟩)) (.t 32)),jj 34 (.bin .add (.t 33) (.c (.string ⟨#[59,125]⟩))),cl 35 228 [34],mv 30 35,ex 36 30 0,ex 37 30 1,ex 38 30 2,jj 10 (.alloc [zN,zN,eN,sN,zN,zN,eN,sN,zN,zN,eN,sN]),st 12 10 36,mv 11 37,mv 12 38] [6,7,9,10,12]) (.seq (.seq (rn [mv 39 9,bk 40 .neq 39 0,mv 41 40,jf 42 41 (.mov (.t 12)),jf 43 41 (.bin .neq (.t 42) (kk 0)),jj 44 (.pick (.t 41) kT (.t 43)),mv 45 44,jf 46 45 (.fieldAddr 0 (.t 7)),jf 47 45 (.indexAddrA 3 4 (.t 46) (kk 2)),jf 48 45 (.fieldAddr 3 (.t 47)),jf 49 45 (.load false 1 (.t 48)),jf 50 45 (.len .sl (.t 49)),jf 51 45 (.bin .neq (.t 50) (kk 1)),jj 52 (.pick (.t 45) kT (.t 51))] [6,7,10,52]) (.cond (.t 52) (.seq (rn [mx 4 kF] [4]) (.ret)) (.skip))) (.seq (.region (some []) [la 53 12 7,la 54 12 10,cl 55 232 [53,54],mv 56 55,jt 57 56 (.fieldAddr 0 (.t 7)),jt 58 56 (.indexAddrA 3 4 (.t 57) (kk 2)),jt 59 56 (.fieldAddr 3 (.t 58)),jt 60 56 (.load false 1 (.t 59)),jt 61 56 (.indexAddr 4 (.t 60) (kk 0)),jt 62 56 (.fieldAddr 3 (.t 61)),jt 63 56 (.load false 1 (.t 62)),jt 64 56 (.len .sl (.t 63)),jt 65 56 (.bin .eql (.t 64) (kk 1)),jj 66 (.pick (.t 56) (.t 65) kF),mv 67 66,jt 68 67 (.fieldAddr 0 (.t 7)),jt 69 67 (.indexAddrA 3 4 (.t 68) (kk 2)),jt 70 67 (.fieldAddr 3 (.t 69)),jt 71 67 (.load false 1 (.t 70)),jt 72 67 (.indexAddr 4 (.t 71) (kk 0)),jt 73 67 (.fieldAddr 3 (.t 72)),jt 74 67 (.load false 1 (.t 73)),jt 75 67 (.indexAddr 4 (.t 74) (kk 0)),jt 76 67 (.load true 4 (.t 75)),jt 77 67 (.load true 4 (.t 6)),jt 78 67 (.call 235 [(.t 76),(.t 77)]),jj 79 (.pick (.t 67) (.t 78) kF),mv 80 79,jt 81 80 (.call 229 []),jj 82 (.pick (.t 80) (.t 81) kF),mv 4 82] [4] [2,25,28]) (.ret)))))))),false,false,false⟩
def F229:PFun:=⟨0,[.tmp 0],.seq (rn [mx 0 kF] []) (.seq (rn [jj 8 (.call 228 [(.c (.string ⟨#[111,110,32,116,105,99,107,123,120,91,48,93,61,49,43,50,42,118,59,125]⟩))]),mv 7 8,ex 9 7 0,ex 10 7 1,ex 11 7 2,jj 1 (.alloc [zN,zN,eN,sN,zN,zN,eN,sN,zN,zN,eN,sN]),st 12 1 9,mv 2 10,mv 3 11] [1,2,3]) (.seq (rn [jj 13 (.call 228 [(.c (.string ⟨#[111,110,32,97,99,116,32,123,32,115,116,111,112,32,125]⟩))]),mv 12 13,ex 14 12 0,ex 15 12 1,ex 16 12 2,jj 4 (.alloc [zN,zN,eN,sN,zN,zN,eN,sN,zN,zN,eN,sN]),st 12 4 14,mv 5 15,mv 6 16] [1,2,3,5,6]) (.seq (.seq (rn [fa 17 0 1,jj 18 (.indexAddrA 3 4 (.t 17) (kk 1)),fa 19 3 18,l1 20 19,ls 21 20,bk 22 .neq 21 1] [1,2,3,5,6,22]) (.cond (.t 22) (.seq (rn [mx 0 kF] [0]) (.ret)) (.skip))) (.seq (rn [mv 23 2,bk 24 .eql 23 0,mv 25 24,jt 26 25 (.mov (.t 3)),jt 27 25 (.bin .eql (.t 26) (kk 0)),jj 28 (.pick (.t 25) (.t 27) kF),mv 29 28,jt 30 29 (.fieldAddr 0 (.t 1)),jt 31 29 (.indexAddrA 3 4 (.t 30) (kk 1)),jt 32 29 (.fieldAddr 3 (.t 31)),jt 33 29 (.load false 1 (.t 32)),jt 34 29 (.indexAddr 4 (.t 33) (kk 0)),jt 35 29 (.fieldAddr 0 (.t 34)),jt 36 29 (.load false 1 (.t 35)),jt 37 29 (.bin .eql (.t 36) (kk 2)),jj 38 (.pick (.t 29) (.t 37) kF),mv 39 38,jt 40 39 (.load true 12 (.t 1)),jt 41 39 (.call 231 [(.t 40)]),jt 42 39 (.bin .eql (.t 41) (.c (.string ⟨#[111,110,32,116,105,99,107,123,120,91,48,93,61,49,43,50,42,118,59,125]⟩))),jj 43 (.pick (.t 39) (.t 42) kF),mv 44 43,jt 45 44 (.mov (.t 5)),jt 46 44 (.bin .eql (.t 45) (kk 14)),jj 47 (.pick (.t 44) (.t 46) kF),mv 48 47,jt 49 48 (.mov (.t 6)),jt 50 48 (.bin .eql (.t 49) (kk 12)),jj 51 (.pick (.t 48) (.t 50) kF),mv 0 51] [0]) (.ret))))),false,false,false⟩
def F232:PFun:=⟨2,[.tmp 4],.seq (rn [bx 2 0,bx 3 1,mx 4 kF] [2,3]) (.seq (rn [fa 5 0 2,jj 6 (.indexAddrA 3 4 (.t 5) (kk 0)),la 7 4 6,fa 8 0 3,jj 9 (.indexAddrA 3 4 (.t 8) (kk 0)),la 10 4 9,cl 11 235 [7,10],mv 12 11,jt 13 12 (.fieldAddr 0 (.t 2)),jt 14 12 (.indexAddrA 3 4 (.t 13) (kk 1)),jt 15 12 (.load true 4 (.t 14)),jt 16 12 (.fieldAddr 0 (.t 3)),jt 17 12 (.indexAddrA 3 4 (.t 16) (kk 1)),jt 18 12 (.load true 4 (.t 17)),jt 19 12 (.call 235 [(.t 15),(.t 18)]),jj 20 (.pick (.t 12) (.t 19) kF),mv 21 20,jt 22 21 (.fieldAddr 0 (.t 2)),jt 23 21 (.indexAddrA 3 4 (.t 22) (kk 2)),jt 24 21 (.load true 4 (.t 23)),jt 25 21 (.fieldAddr 0 (.t 3)),jt 26 21 (.indexAddrA 3 4 (.t 25) (kk 2)),jt 27 21 (.load true 4 (.t 26)),jt 28 21 (.call 235 [(.t 24),(.t 27)]),jj 29 (.pick (.t 21) (.t 28) kF),mv 4 29] [4]) (.ret)),false,false,false⟩
end Go.Pm.F
end SFLaw13
section STE
namespace Go.Pm.F
def tE:Nat->Option PFun
 | 232=>some F232
 | 235=>some F235
 | _=>none
end Go.Pm.F
end STE
section SUb
namespace Go.Pm
open F
set_option maxHeartbeats 4000000
abbrev qqk (k n:Int) (s:ByteArray) (d:D) (k' n':Int) (s':ByteArray) (d':D):S:=[.cells [.int k,.int n,.str s,.dat d],.cells [.int k',.int n',.str s',.dat d']]
def ndEq (k n:Int) (s:ByteArray) (a:Fo) (k' n':Int) (s':ByteArray) (b:Fo):Bool:=(decide (k=k')&&(decide (n=n')&&decide (s=s')))&&a.eqv b
def qsU (a b:Fo):Prop := ∀ (k n:Int) (s:ByteArray) (f:Bool) (k' n':Int) (s':ByteArray) (f':Bool),Z tE (.call 235 [nd k n s f a,nd k' n' s' f' b] [])=some (.ret (.bool (ndEq k n s a k' n' s' b)) [])
def qsV (a:Fo):Prop := ∀ (b:Fo) (ca cb:List D) (m i:Nat) (k n:Int) (s:ByteArray) (f:Bool) (k' n':Int) (s':ByteArray) (f':Bool),ca.drop (i*4)=a.cells->cb.drop (i*4)=b.cells->a.len=b.len->i+a.len=m->m<2 ^ 30 ->
 Z tE (.loop 0 F235l0 [(2,.ptr 0 0),(3,.ptr 1 0),(36,.int m),(37,.int i)] (qqk k n s (.sl ca m f) k' n' s' (.sl cb m f')))=some (if a.eqv b then .out (.exit 0) [(2,.ptr 0 0),(3,.ptr 1 0),(36,.int m),(37,.int m),(38,.bool false)] (qqk k n s (.sl ca m f) k' n' s' (.sl cb m f')) else .out .ret [(4,.bool false)] (qqk k n s (.sl ca m f) k' n' s' (.sl cb m f')))
theorem qn2 {a:Fo} (hq:qsV a) (ha:a.len<2 ^ 30) (b:Fo):qsU a b:=by
 intro k n s f k' n' s' f'
 refine Z_call (pf:=F235) rfl rfl ?_
 unfold ndEq
 by_cases h1:k=k'
 ·by_cases h2:n=n'
  ·by_cases h3:s=s'
   ·subst h1 h2 h3
    by_cases h4:a.len=b.len
    ·cases hl:a.len with
     | zero=>
      have hb:b.len=0:=by omega
      have e:a.eqv b=true:=by
       cases a with
       | nil=>cases b with | nil=>rfl | cons=>simp at hb
       | cons=>simp at hl
      have z0:Z tE (.loop 0 F235l0 [(2,.ptr 0 0),(3,.ptr 1 0),(36,.int 0),(37,.int 0)] (qqk k n s (.lit (.slice none 0 0)) k n s (.lit (.slice none 0 0))))=some (.out (.exit 0) [(2,.ptr 0 0),(3,.ptr 1 0),(36,.int 0),(37,.int 0),(38,.bool false)] (qqk k n s (.lit (.slice none 0 0)) k n s (.lit (.slice none 0 0)))):=by
       rw[qaf]
       simp -implicitDefEqProofs [qai,qd4,qme,List.range_succ]
      have hh:nd k n s f a = .dat (.agg [.lit (.int .i64 k),.lit (.int .i64 n),.lit (.string s),.lit (.slice none 0 0)]):=by rw[nd,hl,qrN]
      have hh':nd k n s f' b = .dat (.agg [.lit (.int .i64 k),.lit (.int .i64 n),.lit (.string s),.lit (.slice none 0 0)]):=by rw[nd,hb,qrN]
      rw[hh,hh']
      simp -implicitDefEqProofs [F235,z0,e,qa1,qme,List.range_succ]
     | succ q=>
      have z:=hq b a.cells b.cells a.len 0 k n s f k n s f' (by simp) (by simp) h4 (by omega) ha
      have hb:b.len=a.len:=h4.symm
      have ka : ∀ g cs,kd g (q+1) cs = .sl cs (q+1) g:=fun g cs=>rfl
      have hh : ∀ g (c:Fo),c.len=q+1->nd k n s g c = .dat (.agg [.lit (.int .i64 k),.lit (.int .i64 n),.lit (.string s),.sl c.cells (q+1) g]):=fun g c hc=>by rw[nd,hc,ka]
      rw[hh f a hl,hh f' b (hb.trans hl)]
      rw[hl] at z
      clear hh ka hq hb hl h4 ha
      generalize q+1=m at *
      simp only[Int.cast_ofNat_Int] at z
      by_cases he:a.eqv b=true
      ·rw[if_pos he] at z
       simp -implicitDefEqProofs [F235,z,he,qa1,qiS,List.range_succ]
      ·rw[if_neg he] at z
       simp -implicitDefEqProofs [F235,z,he,qa1,qiS,List.range_succ]
    ·have he:a.eqv b=false:=by
      cases h:a.eqv b with
      | false=>rfl
      | true=>exact absurd (qmC h) h4
     have h4' : ¬ (a.len:Int)=b.len:=by omega
     simp -implicitDefEqProofs [F235,h4,h4',he,qa1,List.range_succ]
   ·simp -implicitDefEqProofs [F235,h1,h2,h3,qa1,List.range_succ]
  ·simp -implicitDefEqProofs [F235,h1,h2,qa1,List.range_succ]
 ·simp -implicitDefEqProofs [F235,h1,qa1,List.range_succ]
theorem qjp : ∀ a:Fo,a.size<2 ^ 30->qsV a
 | .nil,_=>by
  intro b ca cb m i k n s f k' n' s' f' hA hB hl hm hm2
  cases b with
  | cons=>simp at hl
  | nil=>
   have:i=m:=by simpa using hm
   subst this
   rw[show Fo.nil.eqv .nil=true from rfl,if_pos rfl,qaf]
   simp -implicitDefEqProofs [qai,qd4,qiS,List.range_succ]
 | .cons ka na sa fa ksa ra,hsz=>by
  intro b ca cb m i k n s f k' n' s' f' hA hB hl hm hm2
  cases b with
  | nil=>simp at hl
  | cons kb nb sb fb ksb rb=>
   simp only[qfG] at hsz
   have hks:=qn2 (qjp ksa (by omega)) (by have:=qgw ksa; omega) ksb ka na sa fa kb nb sb fb
   simp only[qbI,qce] at hA hB hl hm
   have c1:=qs9 hA
   have c2:=qs9 hB
   have hlt:(i:Int)<m:=by omega
   have hlt':i<m:=by omega
   have w1:IntKind.i64.wrap ((i:Int)+1)=((i+1:Nat):Int):=by rw[qaj _ (by omega)]; omega
   have ih:=qjp ra (by omega) rb ca cb m (i+1) k n s f k' n' s' f' (qi0 hA) (qi0 hB) (by omega) (by omega) hm2
   rw[show (Fo.cons ka na sa fa ksa ra).eqv (.cons kb nb sb fb ksb rb)=(ndEq ka na sa ksa kb nb sb ksb&&ra.eqv rb) by simp[Fo.eqv,ndEq,Bool.and_assoc]]
   simp only[nd] at hks
   generalize ndEq ka na sa ksa kb nb sb ksb=B at *
   generalize ((i+1:Nat):Int)=i1 at *
   cases B with
   | true=>
    rw[Bool.true_and,<- ih]
    conv=>lhs; rw[qaf]
    simp -implicitDefEqProofs [qai,qd4,qao,qiS,c1,c2,hlt,hlt',hks,w1,List.range_succ]
   | false=>
    rw[Bool.false_and,if_neg (by simp)]
    rw[qaf]
    simp -implicitDefEqProofs [qai,qd4,qao,qiS,c1,c2,hlt,hlt',hks,List.range_succ]
theorem qfN {a b:Fo} (ha:a.size<2 ^ 30):qsU a b:=qn2 (qjp a ha) (by have:=qgw a; omega) b
theorem qmW {a b c a' b' c':Nd} (ha:a.ks.size<2 ^ 30) (hb:b.ks.size<2 ^ 30) (hc:c.ks.size<2 ^ 30):Z tE (.call 232 [.dat (ru a b c),.dat (ru a' b' c')] []) =
  some (.ret (.bool (ndEq a.k a.n a.s a.ks a'.k a'.n a'.s a'.ks&&(ndEq b.k b.n b.s b.ks b'.k b'.n b'.s b'.ks&&ndEq c.k c.n c.s c.ks c'.k c'.n c'.s c'.ks))) []):=by
 have z1:=qfN ha (b:=a'.ks) a.k a.n a.s a.f a'.k a'.n a'.s a'.f
 have z2:=qfN hb (b:=b'.ks) b.k b.n b.s b.f b'.k b'.n b'.s b'.f
 have z3:=qfN hc (b:=c'.ks) c.k c.n c.s c.f c'.k c'.n c'.s c'.f
 refine Z_call (pf:=F232) rfl rfl ?_
 simp only[nd] at z1 z2 z3
 generalize ndEq a.k a.n a.s a.ks a'.k a'.n a'.s a'.ks=B1 at *
 generalize ndEq b.k b.n b.s b.ks b'.k b'.n b'.s b'.ks=B2 at *
 generalize ndEq c.k c.n c.s c.ks c'.k c'.n c'.s c'.ks=B3 at *
 cases B1<;>cases B2<;>cases B3<;>simp -implicitDefEqProofs [F232,ru,Nd.d,z1,z2,z3,List.range_succ]
end Go.Pm
end SUb
section STK
namespace Go.Pm.F
def tK:Nat->Option PFun
 | 229=>some F229
 | _=>none
def tKd:Nat->Option PFun
 | 221=>some F221
 | _=>none
end Go.Pm.F
end STK
section STS
namespace Go.Pm.F
def tS:Nat->Option PFun
 | 20=>some F20
 | 192=>some F192
 | 193=>some F193
 | 234=>some F234
 | 246=>some F246
 | 247=>some F247
 | 261=>some F261
 | 262=>some F262
 | _=>none
def tSf:Nat->Option PFun
 | 20=>some F20
 | 192=>some F192
 | 193=>some F193
 | 233=>some F233
 | 234=>some F234
 | 246=>some F246
 | 247=>some F247
 | 261=>some F261
 | 262=>some F262
 | _=>none
theorem qld : ∀ f pf,tS f=some pf->tSf f=some pf:=fun f pf h=>by
 unfold tS at h
 split at h<;>first | (cases h; rfl) | cases h
end Go.Pm.F
end STS
section SSa
namespace Go.Pm
open F
set_option maxHeartbeats 4000000
theorem qi9 (c:UInt8):Z tS (.call 192 [.dat (.lit (.int .u8 c.toNat))] [])=some (.ret (.bool (qaL c)) []):=by
 refine Z_call (pf:=F192) rfl rfl ?_
 by_cases h1:(97:Int)<=c.toNat
 ·have h1':97<=c.toNat:=by omega
  by_cases h2:(c.toNat:Int)<=122
  ·have h2':c.toNat<=122:=by omega
   simp[F192,qaL,h1,h1',h2,h2']
  ·have h2' : ¬ c.toNat<=122:=by omega
   simp[F192,qaL,h1,h1',h2,h2']
 ·have h1' : ¬ 97<=c.toNat:=by omega
  simp[F192,qaL,h1,h1']
theorem qkG (c:UInt8):Z tS (.call 193 [.dat (.lit (.int .u8 c.toNat))] [])=some (.ret (.bool (qam c)) []):=by
 refine Z_call (pf:=F193) rfl rfl ?_
 by_cases h1:(48:Int)<=c.toNat
 ·have h1':48<=c.toNat:=by omega
  by_cases h2:(c.toNat:Int)<=57
  ·have h2':c.toNat<=57:=by omega
   simp[F193,qam,h1,h1',h2,h2']
  ·have h2' : ¬ c.toNat<=57:=by omega
   simp[F193,qam,h1,h1',h2,h2']
 ·have h1' : ¬ 48<=c.toNat:=by omega
  simp[F193,qam,h1,h1']
theorem qrj (a b:List UInt8):bs a++bs b=bs (a++b):=by
 apply qjH
 simp[byl,bs,ByteArray.data_append]
theorem qbF (a b:ByteArray):a++b=bs (byl a++byl b):=by
 rw[<- qrj,qcr,qcr]
theorem qhs:qar qau ⟨#[]⟩=false:=by rw[qaZ]; rfl
theorem qrk (a b:ByteArray) (h:a.size+b.size<2 ^ 40):Z tS (.call 262 [.str a,.str b] [])=some (.ret (.str (bs (pw (byl a) [b]))) []):=by
 have hab : ¬ (9223372036854775807:Int)<(a.size:Int)+(b.size:Int):=by omega
 have plain:gap (wl (byl a)) b=[]->bs (pw (byl a) [b])=a++b:=fun hg=>by
  rw[qcX,qfD,hg,List.nil_append,qbF]
 refine Z_call (pf:=F262) rfl rfl ?_
 by_cases ha:a=⟨#[]⟩
 ·rw[plain (by rw[ha]; rfl)]
  have e:eqS a ⟨#[]⟩=true:=by rw[qa1]; simp[ha]
  simp[F262,e,hab]
 ·have ea:eqS a ⟨#[]⟩=false:=by rw[qa1]; simp[ha]
  by_cases hb:b=⟨#[]⟩
  ·rw[plain (by rw[hb,gap,qhs]; simp)]
   have e:eqS b ⟨#[]⟩=true:=by rw[qa1]; simp[hb]
   simp[F262,ea,e,hab]
  ·have eb:eqS b ⟨#[]⟩=false:=by rw[qa1]; simp[hb]
   have nz : ∀ {t:ByteArray},t≠⟨#[]⟩->t.size≠0:=fun {t} h h0=>h (by
    apply qjH
    have:(byl t).length=0:=by rw[qaI,h0]
    rw[List.eq_nil_of_length_eq_zero this])
   have ha0:=nz ha
   obtain⟨y,hy,hs⟩:=qnq (nz hb)
   have hx:=qo6 ha0
   have hwl:wl (byl a)=qau (lastC (byl a)):=rfl
   generalize lastC (byl a)=x at *
   have l1:=qi9 x
   have l2:=qkG x
   have l3:=qi9 y
   have l4:=qkG y
   have w2:=qaj ((a.size:Int)-1) (by omega)
   have w3:((a.size:Int)-1).toNat=a.size-1:=by omega
   have w4:(0:Int)<=(a.size:Int)-1:=by omega
   have w5:(1:Int)<=a.size:=by omega
   by_cases hg:(qau x&&qau y)=true
   ·have hgap:gap (wl (byl a)) b=[32]:=by rw[gap,hwl,hs,if_pos hg]
    have e:bs (pw (byl a) [b])=a++⟨#[32]⟩++b:=by
     rw[qcX,qfD,hgap,qbF,qbF a,qaU]
     simp[byl]
    rw[e]
    have hab2 : ¬ (9223372036854775807:Int)<(a.size:Int)+1:=by omega
    have hab3 : ¬ (9223372036854775807:Int)<(a.size:Int)+1+(b.size:Int):=by omega
    have hsz:(a++⟨#[32]⟩:ByteArray).size=a.size+1:=by rw[ByteArray.size_append]; rfl
    have hsp:(⟨#[32]⟩:ByteArray).size=1:=rfl
    have hsp2:((⟨#[32]⟩:ByteArray).size:Int)=1:=rfl
    unfold qau at hg
    cases h1:qaL x<;>cases h2:qam x<;>cases h3:qaL y<;>cases h4:qam y<;>rw[h1,h2,h3,h4] at hg<;>simp at hg<;>rw[h1] at l1<;>rw[h2] at l2<;>rw[h3] at l3<;>rw[h4] at l4 <;>
     simp[F262,ea,eb,hx,hy,l1,l2,l3,l4,w2,w3,w4,w5,hab2,hab3,hsz,hsp,hsp2,V.len]
   ·have hgap:gap (wl (byl a)) b=[]:=by rw[gap,hwl,hs,if_neg hg]
    rw[plain hgap]
    unfold qau at hg
    cases h1:qaL x<;>cases h2:qam x<;>cases h3:qaL y<;>cases h4:qam y<;>rw[h1,h2,h3,h4] at hg<;>simp at hg<;>rw[h1] at l1<;>rw[h2] at l2<;>rw[h3] at l3<;>rw[h4] at l4 <;>
     simp[F262,ea,eb,hx,hy,l1,l2,l3,l4,w2,w3,w4,w5,hab,V.len]
theorem qkH (fl:Bool) (ts:List ByteArray) (hn:ts.length<2 ^ 30) : ∀ (m i:Nat) (w:List UInt8),i+m=ts.length->(pw w (ts.drop i)).length<2 ^ 40 ->
  Z tS (.loop 0 F247l0 [(0,.dat (.sl (qaS ts) ts.length fl)),(3,.str (bs w)),(4,.int i)] [])=some (.out (.exit 0) [(0,.dat (.sl (qaS ts) ts.length fl)),(3,.str (bs (pw w (ts.drop i)))),(4,.int ts.length),(8,.bool false)] [])
 | 0,i,w,hi,hsz=>by
  have hi':i=ts.length:=by omega
  subst hi'
  rw[List.drop_length,qfD]
  rw[qaf]
  simp[qai,qhm,V.len]
 | m+1,i,w,hi,hsz=>by
  have hlt:i<ts.length:=by omega
  have hd:ts.drop i=ts[i]::ts.drop (i+1):=List.drop_eq_getElem_cons hlt
  rw[hd,qcX] at hsz ⊢
  have hc:=qh4 ts i hlt
  generalize ts[i]=t at *
  have hw0:(w++(gap (wl w) t++byl t)).length<2 ^ 40:=Nat.lt_of_le_of_lt (qqN _ _) hsz
  have ih:=qkH fl ts hn m (i+1) (w++(gap (wl w) t++byl t)) (by omega) hsz
  rw[<- ih]
  have z:=qrk (bs w) t (by rw[List.length_append,List.length_append,qaI] at hw0; rw[qaG]; omega)
  rw[qaU,qcX,qfD] at z
  have w1:=qaj ((i:Int)+1) (by omega)
  have hlt':(i:Int)<ts.length:=by omega
  conv=>lhs; rw[qaf]
  generalize bs (w++(gap (wl w) t++byl t))=R at *
  generalize bs w=R0 at *
  simp[qai,qhm,z,hc,w1,hlt',hlt,qao,V.len]
theorem qsO (fl:Bool) {ts:List ByteArray} {R:ByteArray} (hR:R=bs (pw [] ts)) (hn:ts.length<2 ^ 30) (hsz:R.size<2 ^ 40):Z tS (.call 247 [.dat (.sl (qaS ts) ts.length fl)] [])=some (.ret (.str R) []):=by
 subst hR
 have z:=qkH fl ts hn ts.length 0 [] (by omega) (by rw[List.drop_zero]; exact hsz)
 rw[List.drop_zero] at z
 simp only[Int.cast_ofNat_Int] at z
 rw[show bs []=⟨#[]⟩ from rfl] at z
 refine Z_call (pf:=F247) rfl rfl ?_
 generalize bs (pw [] ts)=R at *
 simp[F247,z]
theorem qrl (w:List UInt8) {ts:List ByteArray} (h : ∀ t∈ts,t.size≠0):pw w [bs (qay false ts)]=pw w ts:=by
 cases ts with
 | nil=>
  rw[qcX,qfD,qfD,qay]
  have:=qhs
  simp[gap,bs,byl,this]
 | cons t ts=>
  have ht:=h t (List.mem_cons_self ..)
  cases hb:byl t with
  | nil=>exact absurd (by rw[<- qaI,hb]; rfl) ht
  | cons c r=>
   have hs:qar qau (bs (qay false (t::ts)))=qar qau t:=by
    rw[qaZ,qaZ,qaU,qay,hb]
    rfl
   have hg:gap (wl w) (bs (qay false (t::ts)))=gap (wl w) t:=by rw[gap,gap,hs]
   have he:qbQ (wl w) t=qbQ false t:=by
    unfold qbQ
    cases hl:(byl t).getLast? with
    | none=>rw[List.getLast?_eq_none_iff] at hl; rw[hl] at hb; cases hb
    | some c=>rfl
   rw[qcX,qfD,hg,qaU]
   show w++(gap (wl w) t++qay false (t::ts))=w++qay (wl w) (t::ts)
   rw[qay,qay,he]
   rfl
theorem qjO (w:List UInt8) {ts:List ByteArray} (h : ∀ t∈ts,t.size≠0) (r:List ByteArray):pw w (bs (qay false ts)::r)=pw w (ts++r):=by
 rw[show bs (qay false ts)::r=[bs (qay false ts)]++r from rfl,qkl,qrl w h,<- qkl]
end Go.Pm
end SSa
section SJr
namespace Go.Pm
open F
set_option maxHeartbeats 2000000
def digS:ByteArray:=⟨#[48,49,50,51,52,53,54,55,56,57]⟩
theorem qoW : ∀ d,d<10->digS.extract d (d+1)=bs [(48+d).toUInt8]:=by decide
theorem qkb (n:Int) : ∀ (k m:Nat) (out:ByteArray),m<10 ^ k->k<=18->out.size+k<=100 ->
  Z tS (.loop 0 F20l0 [(0,.int n),(3,.str digS),(4,.str out),(5,.int m)] [])=some (.out (.exit 0) [(0,.int n),(3,.str digS),(4,.str (bs (if m=0 then [] else qhW k m)++out)),(5,.int 0),(11,.bool false)] [])
 | k,0,out,_,_,_=>by
  rw[qaf]
  have e:bs []++out=out:=by rw[show bs []=ByteArray.empty from rfl,ByteArray.empty_append]
  simp[qai,qi3,digS,e]
 | 0,m+1,out,h,_,_=>by simp at h
 | k+1,m+1,out,h,hk,ho=>by
  have hp:(10:Nat) ^ (k+1)<=10 ^ 18:=Nat.pow_le_pow_right (by omega) hk
  have hd:((m+1:Nat):Int).tmod 10=(((m+1) % 10:Nat):Int):=rfl
  have hq:((m+1:Nat):Int).tdiv 10=(((m+1) / 10:Nat):Int):=rfl
  have hlt:(m+1) % 10<10:=Nat.mod_lt _ (by omega)
  have hx:=qoW _ hlt
  have w1:=qaj (((m+1) % 10:Nat)+1:Int) (by omega)
  have w2:IntKind.i64.wrap (((m+1) / 10:Nat):Int)=((m+1) / 10:Nat):=qaj _ (by omega)
  have hne : ¬ ((m+1:Nat):Int)=0:=by omega
  have hneg : ¬ (((m+1) % 10:Nat):Int)<0:=by omega
  have ih:=qkb n k ((m+1) / 10) (bs [(48+(m+1) % 10).toUInt8]++out) (by rw[Nat.pow_succ] at h; omega) (by omega) (by rw[ByteArray.size_append,qaG]; simp; omega)
  have hres:bs (if (m+1) / 10=0 then [] else qhW k ((m+1) / 10))++(bs [(48+(m+1) % 10).toUInt8]++out)=bs (qhW (k+1) (m+1))++out:=by
   rw[<- ByteArray.append_assoc]
   congr 1
   simp only[qhW]
   by_cases h10:m+1<10
   ·rw[if_pos h10,if_pos (by omega),Nat.mod_eq_of_lt h10]
    rfl
   ·rw[if_neg h10,if_neg (by omega)]
    rfl
  rw[hres] at ih
  rw[if_neg (by omega),<- ih]
  generalize hd2:(m+1) % 10=d at *
  generalize hq2:(m+1) / 10=q at *
  generalize hm:m+1=M at *
  have hM : ¬ M=0:=by omega
  have b1:(d:Int)<=digS.size:=by rw[show digS.size=10 from rfl]; omega
  have b2:(d:Int)+1<=digS.size:=by rw[show digS.size=10 from rfl]; omega
  have b3:(0:Int)<=(d:Int)+1:=by omega
  have b4:((d:Int)+1).toNat=d+1:=by omega
  have b5:(d:Int)<=(d:Int)+1:=by omega
  have hsz : ¬ (9223372036854775807:Int)<((bs [(48+d).toUInt8]).size:Int)+out.size:=by rw[qaG]; simp; omega
  generalize digS=ds at *
  generalize bs [(48+d).toUInt8]=ch at *
  conv=>lhs; rw[qaf]
  simp[qai,qi3,qbX,bound,hd,hq,hne,hneg,w1,w2,b1,b2,b3,b4,b5,hx,hsz,hM]
theorem qlX {n:Nat} (h:n<10 ^ 18):Z tS (.call 20 [.int n] [])=some (.ret (.str (bs (qhb n))) []):=by
 refine Z_call (pf:=F20) rfl rfl ?_
 by_cases h0:n=0
 ·subst h0
  simp[F20,qhb,qhW,bs]
 ·have hne : ¬ (n:Int)=0:=by omega
  have hneg : ¬ (n:Int)<0:=by omega
  have z:=qkb n 18 n ⟨#[]⟩ h (by omega) (by decide)
  rw[if_neg h0] at z
  have e : ∀ (k j n:Nat),n<10 ^ k->1<=k->qhW (k+j) n=qhW k n:=fun k=>by
   induction k with
   | zero=>intro j n _ h; omega
   | succ k ih=>
    intro j n hn _
    rw[show k+1+j=(k+j)+1 by omega]
    simp only[qhW]
    split
    ·rfl
    ·rename_i h10
     have hk:1<=k:=by
      rcases k with _ | k
      ·simp at hn; omega
      ·omega
     rw[ih j (n / 10) (by rw[Nat.pow_succ] at hn; omega) hk]
  have e2:bs (qhW 18 n)++⟨#[]⟩=bs (qhb n):=by
   rw[show qhb n=qhW (18+2) n from rfl,e 18 2 n h (by omega)]
   exact ByteArray.append_empty
  rw[e2] at z
  simp only[digS] at z
  simp[F20,h0,hne,hneg,z]
end Go.Pm
end SJr
