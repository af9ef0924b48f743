/- Chapter 13's printer: expressions. Chapter 13's printer: statements, each kind. Chapter 13's printer: every row of statements. Chapter 13's printer: Print, whole. The abstract machine's programs: tables of functions. Chapter 13's reference printer: strings joined. -/
import Derived.Test.YtjdbkncfebebnaaGreatDoorPmOe
import Derived.Test.YtjdbkncfebebnaaGreatDoorPmYh
import Derived.Test.YtjdbkncfebebnaaGreatDoorPmUe
import Derived.Test.YtjdbkncfebebnaaGreatDoorPmF3q
import Derived.Test.YtjdbkncfebebnaaGreatDoorPmFx
set_option linter.unusedSimpArgs false
set_option linter.unusedVariables false
section SOg
namespace Go.Pm
open F
set_option maxHeartbeats 8000000
attribute [local simp] qgC qjd dkey
theorem qap {w w':List UInt8} {ts:List ByteArray} {k:Nat} (hw:w'=pw w ts) (h:w'.length<k):w.length<k:=Nat.lt_of_le_of_lt (by rw[hw]; exact qjf w ts) h
def qfp (e:E) (p:Nat) (i:Int):Prop := ∀ w w',w'=pw w (e.tx false p)->w'.length<2 ^ 40->Z tQ (.call 273 [.ptr 0 0,e.node,.int i] (PW w))=some (.ret (.tup []) (PW w'))
theorem qhm (o:Bop):o.str.size≠0:=by cases o<;>decide
theorem qk6 (b:Bool):(ustr b).size≠0:=by cases b<;>decide
theorem qo0 {n:Int} (h0:0<=n) (h1:n<=2147483647):(bs (decB n.toNat)).size≠0:=by
 obtain⟨_,_,c,r,h⟩:=qeP (n:=n.toNat) (by omega)
 rw[qas,h]
 simp
theorem qu6 {n:Int} (h0:0<=n) (h1:n<=2147483647) {p:Nat} {i:Int} (hi:i=p) (hp:p<=8):qfp (E.int n) p i:=by
 intro w w' hw hsz
 have zl:Z tQ (.call 282 [.dat (.agg [.lit (.int .i64 8),.lit (.int .i64 n),.lit (.string ⟨#[]⟩),.lit (.slice none 0 0)])] [])=some (.ret (.int 8) []):=qdh (.int n)
 have hc : ¬ (8:Int)<i:=by omega
 have htx:(E.int n).tx false p=[bs (decB n.toNat)]:=by
  have hq : ¬ 8<p:=by omega
  simp[E.tx,qbz,qcZ,ustr,bs,qdS,qge,Bop.left,hq]
 have e1:w'=pw w [bs (decB n.toNat)]:=by rw[hw,htx]
 have s1:=hsz
 have z1:=qbN e1 (qo0 h0 h1) s1
 have f0:=qvo h0 h1
 simp only[PW,PW'] at z1 ⊢
 clear e1 s1 hw htx hsz
 refine Z_call (pf:=F273) rfl rfl ?_
 simp[F273,zl,hc,f0,z1,List.range_succ]
theorem qqD  {p:Nat} {i:Int} (hi:i=p) (hp:p<=8):qfp (E.bool 0) p i:=by
 intro w w' hw hsz
 have zl:Z tQ (.call 282 [.dat (.agg [.lit (.int .i64 9),.lit (.int .i64 0),.lit (.string ⟨#[]⟩),.lit (.slice none 0 0)])] [])=some (.ret (.int 8) []):=qdh (.bool 0)
 have hc : ¬ (8:Int)<i:=by omega
 have htx:(E.bool 0).tx false p=[⟨#[102,97,108,115,101]⟩]:=by
  have hq : ¬ 8<p:=by omega
  simp[E.tx,qbz,qcZ,ustr,bs,qdS,qge,Bop.left,hq]
 have e1:w'=pw w [⟨#[102,97,108,115,101]⟩]:=by rw[hw,htx]
 have s1:=hsz
 have z1:=qbN e1 (by decide) s1
 simp only[PW,PW'] at z1 ⊢
 clear e1 s1 hw htx hsz
 refine Z_call (pf:=F273) rfl rfl ?_
 simp[F273,zl,hc,z1,List.range_succ]
theorem qqE  {p:Nat} {i:Int} (hi:i=p) (hp:p<=8):qfp (E.bool 1) p i:=by
 intro w w' hw hsz
 have zl:Z tQ (.call 282 [.dat (.agg [.lit (.int .i64 9),.lit (.int .i64 1),.lit (.string ⟨#[]⟩),.lit (.slice none 0 0)])] [])=some (.ret (.int 8) []):=qdh (.bool 1)
 have hc : ¬ (8:Int)<i:=by omega
 have htx:(E.bool 1).tx false p=[⟨#[116,114,117,101]⟩]:=by
  have hq : ¬ 8<p:=by omega
  simp[E.tx,qbz,qcZ,ustr,bs,qdS,qge,Bop.left,hq]
 have e1:w'=pw w [⟨#[116,114,117,101]⟩]:=by rw[hw,htx]
 have s1:=hsz
 have z1:=qbN e1 (by decide) s1
 simp only[PW,PW'] at z1 ⊢
 clear e1 s1 hw htx hsz
 refine Z_call (pf:=F273) rfl rfl ?_
 simp[F273,zl,hc,z1,List.range_succ]
theorem qu7 {s:ByteArray} (hs:s.size≠0) {p:Nat} {i:Int} (hi:i=p) (hp:p<=8):qfp (E.var s) p i:=by
 intro w w' hw hsz
 have zl:Z tQ (.call 282 [.dat (.agg [.lit (.int .i64 10),.lit (.int .i64 0),.lit (.string s),.lit (.slice none 0 0)])] [])=some (.ret (.int 8) []):=qdh (.var s)
 have hc : ¬ (8:Int)<i:=by omega
 have htx:(E.var s).tx false p=[s]:=by
  have hq : ¬ 8<p:=by omega
  simp[E.tx,qbz,qcZ,ustr,bs,qdS,qge,Bop.left,hq]
 have e1:w'=pw w [s]:=by rw[hw,htx]
 have s1:=hsz
 have z1:=qbN e1 (hs) s1
 simp only[PW,PW'] at z1 ⊢
 clear e1 s1 hw htx hsz
 refine Z_call (pf:=F273) rfl rfl ?_
 simp[F273,zl,hc,z1,List.range_succ]
theorem qsU {s:ByteArray} (hs:s.size≠0) {p:Nat} {i:Int} (hi:i=p) (hp:p<=8):qfp (E.name s) p i:=by
 intro w w' hw hsz
 have zl:Z tQ (.call 282 [.dat (.agg [.lit (.int .i64 12),.lit (.int .i64 0),.lit (.string s),.lit (.slice none 0 0)])] [])=some (.ret (.int 8) []):=qdh (.name s)
 have hc : ¬ (8:Int)<i:=by omega
 have htx:(E.name s).tx false p=[s]:=by
  have hq : ¬ 8<p:=by omega
  simp[E.tx,qbz,qcZ,ustr,bs,qdS,qge,Bop.left,hq]
 have e1:w'=pw w [s]:=by rw[hw,htx]
 have s1:=hsz
 have z1:=qbN e1 (hs) s1
 simp only[PW,PW'] at z1 ⊢
 clear e1 s1 hw htx hsz
 refine Z_call (pf:=F273) rfl rfl ?_
 simp[F273,zl,hc,z1,List.range_succ]
theorem qqF {f:Bool} {s:ByteArray} {e:E} (hs:s.size≠0) (he:qfp e 1 1) {p:Nat} {i:Int} (hi:i=p) (hp:p<=8):qfp (E.field f s e) p i:=by
 intro w w' hw hsz
 have zl:Z tQ (.call 282 [.dat (.agg [.lit (.int .i64 11),.lit (.int .i64 0),.lit (.string s),.sl [.lit (.int .i64 e.kind),.lit (.int .i64 e.num),.lit (.string e.str),e.kids] 1 f])] [])=some (.ret (.int 8) []):=qdh (.field f s e)
 have hc : ¬ (8:Int)<i:=by omega
 have htx:(E.field f s e).tx false p=[s,⟨#[91]⟩]++((e.tx false 1)++([⟨#[93]⟩])):=by
  have hq : ¬ 8<p:=by omega
  simp[E.tx,qbz,qcZ,ustr,bs,qdS,qge,Bop.left,hq]
 obtain⟨w1,e1⟩ : ∃ x,x=pw w [s,⟨#[91]⟩]:=⟨_,rfl⟩
 obtain⟨w2,e2⟩ : ∃ x,x=pw w1 (e.tx false 1):=⟨_,rfl⟩
 have e3:w'=pw w2 [⟨#[93]⟩]:=by rw[hw,htx,qaw,<- e1,qaw,<- e2]
 have s3:=hsz
 have s2:=qap e3 s3
 have s1:=qap e2 s2
 have z1:=qfv e1 (hs) (by decide) s1
 have z2:=he w1 w2 e2 s2
 have z3:=qbN e3 (by decide) s3
 have f0:=qeb (k:=11) (n:=0) (s:=s) (a:=e.kind) (b:=e.num) (t:=e.str) (u:=e.kids) (r:=[]) (m:=1) (f:=f) (by omega) (by omega) (qbn e)
 simp only[PW,PW'] at z1 z2 z3 ⊢
 clear e1 e2 e3 s1 s2 s3 hw htx hsz
 refine Z_call (pf:=F273) rfl rfl ?_
 simp[F273,zl,hc,f0,z1,z2,z3,List.range_succ]
theorem qxc {f neg:Bool} {e:E} {L:Nat} (hL:L=qcZ neg) (he:qfp e L L) {p:Nat} {i:Int} (hi:i=p) (hp:p<=L):qfp (E.un f neg e) p i:=by
 intro w w' hw hsz
 have zl:Z tQ (.call 282 [.dat (.agg [.lit (.int .i64 13),.lit (.int .i64 0),.lit (.string (ustr neg)),.sl [.lit (.int .i64 e.kind),.lit (.int .i64 e.num),.lit (.string e.str),e.kids] 1 f])] [])=some (.ret (.int L) []):=by
  have:=qdh (.un f neg e)
  rw[show E.lev (.un f neg e)=L from hL.symm] at this
  exact this
 have hc : ¬ (L:Int)<i:=by omega
 have htx:(E.un f neg e).tx false p=[ustr neg]++((e.tx false L)):=by
  have hq : ¬ L<p:=by omega
  simp[E.tx,qbz,bs,hL.symm,hq]
 obtain⟨w1,e1⟩ : ∃ x,x=pw w [ustr neg]:=⟨_,rfl⟩
 have e2:w'=pw w1 (e.tx false L):=by rw[hw,htx,qaw,<- e1]
 have s2:=hsz
 have s1:=qap e2 s2
 have z1:=qbN e1 (qk6 neg) s1
 have z2:=he w1 w' e2 s2
 have f0:=qeb (k:=13) (n:=0) (s:=ustr neg) (a:=e.kind) (b:=e.num) (t:=e.str) (u:=e.kids) (r:=[]) (m:=1) (f:=f) (by omega) (by omega) (qbn e)
 simp only[PW,PW'] at z1 z2 ⊢
 clear e1 e2 s1 s2 hw htx hsz
 refine Z_call (pf:=F273) rfl rfl ?_
 simp[F273,zl,hc,f0,z1,z2,List.range_succ]
theorem qu8 {f neg:Bool} {e:E} {L:Nat} (hL:L=qcZ neg) (he:qfp e L L) {p:Nat} {i:Int} (hi:i=p) (hp:L<p):qfp (E.un f neg e) p i:=by
 intro w w' hw hsz
 have zl:Z tQ (.call 282 [.dat (.agg [.lit (.int .i64 13),.lit (.int .i64 0),.lit (.string (ustr neg)),.sl [.lit (.int .i64 e.kind),.lit (.int .i64 e.num),.lit (.string e.str),e.kids] 1 f])] [])=some (.ret (.int L) []):=by
  have:=qdh (.un f neg e)
  rw[show E.lev (.un f neg e)=L from hL.symm] at this
  exact this
 have hc:(L:Int)<i:=by omega
 have htx:(E.un f neg e).tx false p=[⟨#[40]⟩]++([ustr neg]++((e.tx false L)++([⟨#[41]⟩]))):=by
  have hq:L<p:=hp
  simp[E.tx,qbz,bs,hL.symm,hq]
 obtain⟨w1,e1⟩ : ∃ x,x=pw w [⟨#[40]⟩]:=⟨_,rfl⟩
 obtain⟨w2,e2⟩ : ∃ x,x=pw w1 [ustr neg]:=⟨_,rfl⟩
 obtain⟨w3,e3⟩ : ∃ x,x=pw w2 (e.tx false L):=⟨_,rfl⟩
 have e4:w'=pw w3 [⟨#[41]⟩]:=by rw[hw,htx,qaw,<- e1,qaw,<- e2,qaw,<- e3]
 have s4:=hsz
 have s3:=qap e4 s4
 have s2:=qap e3 s3
 have s1:=qap e2 s2
 have z1:=qbN e1 (by decide) s1
 have z2:=qbN e2 (qk6 neg) s2
 have z3:=he w2 w3 e3 s3
 have z4:=qma e4 (by decide) s4
 have f0:=qeb (k:=13) (n:=0) (s:=ustr neg) (a:=e.kind) (b:=e.num) (t:=e.str) (u:=e.kids) (r:=[]) (m:=1) (f:=f) (by omega) (by omega) (qbn e)
 simp only[PW,PW'] at z1 z2 z3 z4 ⊢
 clear e1 e2 e3 e4 s1 s2 s3 s4 hw htx hsz
 refine Z_call (pf:=F273) rfl rfl ?_
 simp[F273,zl,hc,f0,z1,z2,z3,z4,List.range_succ]
theorem qu9 {f:Bool} {o:Bop} {a b:E} {L:Nat} (hl:o.prec=L) (h4:L≠4) (ha:qfp a L L) (hb:qfp b (L+1) ((L:Int)+1)) {p:Nat} {i:Int} (hi:i=p) (hp:p<=L):qfp (E.bin f o a b) p i:=by
 intro w w' hw hsz
 have zl:Z tQ (.call 282 [.dat (.agg [.lit (.int .i64 14),.lit (.int .i64 0),.lit (.string o.str),.sl [.lit (.int .i64 a.kind),.lit (.int .i64 a.num),.lit (.string a.str),a.kids,.lit (.int .i64 b.kind),.lit (.int .i64 b.num),.lit (.string b.str),b.kids] 2 f])] [])=some (.ret (.int L) []):=by
  have:=qdh (.bin f o a b)
  rw[show E.lev (.bin f o a b)=L from hl] at this
  exact this
 have hc : ¬ (L:Int)<i:=by omega
 have hlf:o.left=L:=by have:=qaZ o; omega
 have h4' : ¬ (L:Int)=4:=by omega
 have wL:=qaf ((L:Int)+1) (by have:=qaZ o; omega)
 have htx:(E.bin f o a b).tx false p=(a.tx false L)++([o.str]++((b.tx false (L+1)))):=by
  have hq : ¬ L<p:=by omega
  simp[E.tx,qbz,bs,hl,hlf,hq]
 obtain⟨w1,e1⟩ : ∃ x,x=pw w (a.tx false L):=⟨_,rfl⟩
 obtain⟨w2,e2⟩ : ∃ x,x=pw w1 [o.str]:=⟨_,rfl⟩
 have e3:w'=pw w2 (b.tx false (L+1)):=by rw[hw,htx,qaw,<- e1,qaw,<- e2]
 have s3:=hsz
 have s2:=qap e3 s3
 have s1:=qap e2 s2
 have z1:=ha w w1 e1 s1
 have z2:=qbN e2 (qhm o) s2
 have z3:=hb w2 w' e3 s3
 have f0:=qeb (k:=14) (n:=0) (s:=o.str) (a:=a.kind) (b:=a.num) (t:=a.str) (u:=a.kids) (r:=[.lit (.int .i64 b.kind),.lit (.int .i64 b.num),.lit (.string b.str),b.kids]) (m:=2) (f:=f) (by omega) (by omega) (qbn a)
 have f1:=qgf (k:=14) (n:=0) (s:=o.str) (x0 := .lit (.int .i64 a.kind)) (x1 := .lit (.int .i64 a.num)) (x2 := .lit (.string a.str)) (x3:=a.kids) (a:=b.kind) (b:=b.num) (t:=b.str) (u:=b.kids) (r:=[]) (m:=2) (f:=f) (by omega) (by omega) (qbn b)
 simp only[PW,PW'] at z1 z2 z3 ⊢
 clear e1 e2 e3 s1 s2 s3 hw htx hsz
 refine Z_call (pf:=F273) rfl rfl ?_
 simp[F273,zl,hc,f0,f1,z1,z2,z3,List.range_succ,h4',wL]
theorem qsV {f:Bool} {o:Bop} {a b:E} {L:Nat} (hl:o.prec=L) (h4:L≠4) (ha:qfp a L L) (hb:qfp b (L+1) ((L:Int)+1)) {p:Nat} {i:Int} (hi:i=p) (hp:L<p):qfp (E.bin f o a b) p i:=by
 intro w w' hw hsz
 have zl:Z tQ (.call 282 [.dat (.agg [.lit (.int .i64 14),.lit (.int .i64 0),.lit (.string o.str),.sl [.lit (.int .i64 a.kind),.lit (.int .i64 a.num),.lit (.string a.str),a.kids,.lit (.int .i64 b.kind),.lit (.int .i64 b.num),.lit (.string b.str),b.kids] 2 f])] [])=some (.ret (.int L) []):=by
  have:=qdh (.bin f o a b)
  rw[show E.lev (.bin f o a b)=L from hl] at this
  exact this
 have hc:(L:Int)<i:=by omega
 have hlf:o.left=L:=by have:=qaZ o; omega
 have h4' : ¬ (L:Int)=4:=by omega
 have wL:=qaf ((L:Int)+1) (by have:=qaZ o; omega)
 have htx:(E.bin f o a b).tx false p=[⟨#[40]⟩]++((a.tx false L)++([o.str]++((b.tx false (L+1))++([⟨#[41]⟩])))):=by
  have hq:L<p:=hp
  simp[E.tx,qbz,bs,hl,hlf,hq]
 obtain⟨w1,e1⟩ : ∃ x,x=pw w [⟨#[40]⟩]:=⟨_,rfl⟩
 obtain⟨w2,e2⟩ : ∃ x,x=pw w1 (a.tx false L):=⟨_,rfl⟩
 obtain⟨w3,e3⟩ : ∃ x,x=pw w2 [o.str]:=⟨_,rfl⟩
 obtain⟨w4,e4⟩ : ∃ x,x=pw w3 (b.tx false (L+1)):=⟨_,rfl⟩
 have e5:w'=pw w4 [⟨#[41]⟩]:=by rw[hw,htx,qaw,<- e1,qaw,<- e2,qaw,<- e3,qaw,<- e4]
 have s5:=hsz
 have s4:=qap e5 s5
 have s3:=qap e4 s4
 have s2:=qap e3 s3
 have s1:=qap e2 s2
 have z1:=qbN e1 (by decide) s1
 have z2:=ha w1 w2 e2 s2
 have z3:=qbN e3 (qhm o) s3
 have z4:=hb w3 w4 e4 s4
 have z5:=qma e5 (by decide) s5
 have f0:=qeb (k:=14) (n:=0) (s:=o.str) (a:=a.kind) (b:=a.num) (t:=a.str) (u:=a.kids) (r:=[.lit (.int .i64 b.kind),.lit (.int .i64 b.num),.lit (.string b.str),b.kids]) (m:=2) (f:=f) (by omega) (by omega) (qbn a)
 have f1:=qgf (k:=14) (n:=0) (s:=o.str) (x0 := .lit (.int .i64 a.kind)) (x1 := .lit (.int .i64 a.num)) (x2 := .lit (.string a.str)) (x3:=a.kids) (a:=b.kind) (b:=b.num) (t:=b.str) (u:=b.kids) (r:=[]) (m:=2) (f:=f) (by omega) (by omega) (qbn b)
 simp only[PW,PW'] at z1 z2 z3 z4 z5 ⊢
 clear e1 e2 e3 e4 e5 s1 s2 s3 s4 s5 hw htx hsz
 refine Z_call (pf:=F273) rfl rfl ?_
 simp[F273,zl,hc,f0,f1,z1,z2,z3,z4,z5,List.range_succ,h4',wL]
theorem qsW {f:Bool} {o:Bop} {a b:E} (hl:o.prec=4) (ha:qfp a 5 5) (hb:qfp b 5 5) {p:Nat} {i:Int} (hi:i=p) (hp:p<=4):qfp (E.bin f o a b) p i:=by
 intro w w' hw hsz
 have zl:Z tQ (.call 282 [.dat (.agg [.lit (.int .i64 14),.lit (.int .i64 0),.lit (.string o.str),.sl [.lit (.int .i64 a.kind),.lit (.int .i64 a.num),.lit (.string a.str),a.kids,.lit (.int .i64 b.kind),.lit (.int .i64 b.num),.lit (.string b.str),b.kids] 2 f])] [])=some (.ret (.int 4) []):=by
  have:=qdh (.bin f o a b)
  rw[show E.lev (.bin f o a b)=4 from hl] at this
  exact this
 have hc : ¬ (4:Int)<i:=by omega
 have hlf:o.left=5:=by have:=qaZ o; omega
 have htx:(E.bin f o a b).tx false p=(a.tx false 5)++([o.str]++((b.tx false 5))):=by
  have hq : ¬ 4<p:=by omega
  simp[E.tx,qbz,bs,hl,hlf,hq]
 obtain⟨w1,e1⟩ : ∃ x,x=pw w (a.tx false 5):=⟨_,rfl⟩
 obtain⟨w2,e2⟩ : ∃ x,x=pw w1 [o.str]:=⟨_,rfl⟩
 have e3:w'=pw w2 (b.tx false 5):=by rw[hw,htx,qaw,<- e1,qaw,<- e2]
 have s3:=hsz
 have s2:=qap e3 s3
 have s1:=qap e2 s2
 have z1:=ha w w1 e1 s1
 have z2:=qbN e2 (qhm o) s2
 have z3:=hb w2 w' e3 s3
 have f0:=qeb (k:=14) (n:=0) (s:=o.str) (a:=a.kind) (b:=a.num) (t:=a.str) (u:=a.kids) (r:=[.lit (.int .i64 b.kind),.lit (.int .i64 b.num),.lit (.string b.str),b.kids]) (m:=2) (f:=f) (by omega) (by omega) (qbn a)
 have f1:=qgf (k:=14) (n:=0) (s:=o.str) (x0 := .lit (.int .i64 a.kind)) (x1 := .lit (.int .i64 a.num)) (x2 := .lit (.string a.str)) (x3:=a.kids) (a:=b.kind) (b:=b.num) (t:=b.str) (u:=b.kids) (r:=[]) (m:=2) (f:=f) (by omega) (by omega) (qbn b)
 simp only[PW,PW'] at z1 z2 z3 ⊢
 clear e1 e2 e3 s1 s2 s3 hw htx hsz
 refine Z_call (pf:=F273) rfl rfl ?_
 simp[F273,zl,hc,f0,f1,z1,z2,z3,List.range_succ,qaf 5 (by omega)]
theorem qqG {f:Bool} {o:Bop} {a b:E} (hl:o.prec=4) (ha:qfp a 5 5) (hb:qfp b 5 5) {p:Nat} {i:Int} (hi:i=p) (hp:4<p):qfp (E.bin f o a b) p i:=by
 intro w w' hw hsz
 have zl:Z tQ (.call 282 [.dat (.agg [.lit (.int .i64 14),.lit (.int .i64 0),.lit (.string o.str),.sl [.lit (.int .i64 a.kind),.lit (.int .i64 a.num),.lit (.string a.str),a.kids,.lit (.int .i64 b.kind),.lit (.int .i64 b.num),.lit (.string b.str),b.kids] 2 f])] [])=some (.ret (.int 4) []):=by
  have:=qdh (.bin f o a b)
  rw[show E.lev (.bin f o a b)=4 from hl] at this
  exact this
 have hc:(4:Int)<i:=by omega
 have hlf:o.left=5:=by have:=qaZ o; omega
 have htx:(E.bin f o a b).tx false p=[⟨#[40]⟩]++((a.tx false 5)++([o.str]++((b.tx false 5)++([⟨#[41]⟩])))):=by
  have hq:4<p:=hp
  simp[E.tx,qbz,bs,hl,hlf,hq]
 obtain⟨w1,e1⟩ : ∃ x,x=pw w [⟨#[40]⟩]:=⟨_,rfl⟩
 obtain⟨w2,e2⟩ : ∃ x,x=pw w1 (a.tx false 5):=⟨_,rfl⟩
 obtain⟨w3,e3⟩ : ∃ x,x=pw w2 [o.str]:=⟨_,rfl⟩
 obtain⟨w4,e4⟩ : ∃ x,x=pw w3 (b.tx false 5):=⟨_,rfl⟩
 have e5:w'=pw w4 [⟨#[41]⟩]:=by rw[hw,htx,qaw,<- e1,qaw,<- e2,qaw,<- e3,qaw,<- e4]
 have s5:=hsz
 have s4:=qap e5 s5
 have s3:=qap e4 s4
 have s2:=qap e3 s3
 have s1:=qap e2 s2
 have z1:=qbN e1 (by decide) s1
 have z2:=ha w1 w2 e2 s2
 have z3:=qbN e3 (qhm o) s3
 have z4:=hb w3 w4 e4 s4
 have z5:=qma e5 (by decide) s5
 have f0:=qeb (k:=14) (n:=0) (s:=o.str) (a:=a.kind) (b:=a.num) (t:=a.str) (u:=a.kids) (r:=[.lit (.int .i64 b.kind),.lit (.int .i64 b.num),.lit (.string b.str),b.kids]) (m:=2) (f:=f) (by omega) (by omega) (qbn a)
 have f1:=qgf (k:=14) (n:=0) (s:=o.str) (x0 := .lit (.int .i64 a.kind)) (x1 := .lit (.int .i64 a.num)) (x2 := .lit (.string a.str)) (x3:=a.kids) (a:=b.kind) (b:=b.num) (t:=b.str) (u:=b.kids) (r:=[]) (m:=2) (f:=f) (by omega) (by omega) (qbn b)
 simp only[PW,PW'] at z1 z2 z3 z4 z5 ⊢
 clear e1 e2 e3 e4 e5 s1 s2 s3 s4 s5 hw htx hsz
 refine Z_call (pf:=F273) rfl rfl ?_
 simp[F273,zl,hc,f0,f1,z1,z2,z3,z4,z5,List.range_succ,qaf 5 (by omega)]
theorem qi5 {s:ByteArray} (h:s∈fieldNames):s.size≠0:=by
 simp only[fieldNames,List.mem_cons,List.not_mem_nil,or_false] at h
 rcases h with h | h | h | h | h | h | h | h<;>rw[h]<;>decide
theorem qk7 : ∀ e:E,e.good -> ∀ p i,i=((p:Nat):Int)->p<=8->qfp e p i
 | .int n,h,p,i,hi,hp=>qu6 h.1 h.2 hi hp
 | .bool n,h,p,i,hi,hp=>by
  rcases h with rfl | rfl
  ·exact qqD hi hp
  ·exact qqE hi hp
 | .var s,h,p,i,hi,hp=>qu7 (qev h.1) hi hp
 | .name s,h,p,i,hi,hp=>qsU (by rcases h with rfl | rfl | rfl<;>decide) hi hp
 | .field f s e,h,p,i,hi,hp=>qqF (qi5 h.1) (qk7 e h.2 1 1 rfl (by omega)) hi hp
 | .un f neg e,h,p,i,hi,hp=>by
  have A:=qk7 e h (qcZ neg) (qcZ neg) rfl (by cases neg<;>decide)
  by_cases hq:qcZ neg<p
  ·exact qu8 rfl A hi hq
  ·exact qxc rfl A hi (by omega)
 | .bin f o a b,h,p,i,hi,hp=>by
  have hr:=qaZ o
  have A:=qk7 a h.1 o.left o.left rfl (by omega)
  have B:=qk7 b h.2 (o.prec+1) ((o.prec:Int)+1) (by omega) (by omega)
  by_cases h4:o.prec=4
  ·rw[show o.left=5 by omega] at A
   rw[h4] at B
   by_cases hq:4<p
   ·exact qqG h4 A B hi hq
   ·exact qsW h4 A B hi (by omega)
  ·rw[show o.left=o.prec by omega] at A
   by_cases hq:o.prec<p
   ·exact qsV rfl h4 A B hi hq
   ·exact qu9 rfl h4 A B hi (by omega)
end Go.Pm
end SOg
section SOh
namespace Go.Pm
open F
set_option maxHeartbeats 8000000
attribute [local simp] qgC qjd
def qks (b:Ss):Prop := ∀ (k n:Int) (s:ByteArray) (f:Bool) w w',w'=pw w (⟨#[123]⟩::(b.tx++[⟨#[125]⟩]))->w'.length<2 ^ 40->Z tQ (.call 244 [.ptr 0 0,.dat (.agg [.lit (.int .i64 k),.lit (.int .i64 n),.lit (.string s),kd f b.fo.len b.fo.cells])] (PW w))=some (.ret (.tup []) (PW w'))
theorem qpZ {f fb fc:Bool} {s:ByteArray} {e:E} (hs:s.size≠0) (he:qfp e 1 1) {w w':List UInt8} (hw:w'=pw w ([s,⟨#[61]⟩]++((e.tx false 1)++([⟨#[59]⟩])))) (hsz:w'.length<2 ^ 40) :
  Z tQ (.call 260 [.ptr 0 0,.dat (.agg [.lit (.int .i64 1),.lit (.int .i64 0),.lit (.string s),.sl [.lit (.int .i64 e.kind),.lit (.int .i64 e.num),.lit (.string e.str),e.kids] 1 f])] (PW w))=some (.ret (.tup []) (PW w')):=by
 obtain⟨w1,e1⟩ : ∃ v,v=pw w [s,⟨#[61]⟩]:=⟨_,rfl⟩
 obtain⟨w2,e2⟩ : ∃ v,v=pw w1 (e.tx false 1):=⟨_,rfl⟩
 have e3:w'=pw w2 [⟨#[59]⟩]:=by rw[hw,qaw,<- e1,qaw,<- e2]
 have s3:=hsz
 have s2:=qap e3 s3
 have s1:=qap e2 s2
 have z1:=qfv e1 (hs) (by decide) s1
 have z2:=he w1 w2 e2 s2
 have z3:=qbN e3 (by decide) s3
 have f0:=qeb (k:=1) (n:=0) (s:=s)  (a:=e.kind) (b:=e.num) (t:=e.str) (u:=e.kids) (r:=[]) (m:=1) (f:=f) (by omega) (by omega) (qbn e)
 simp only[PW,PW'] at z1 z2 z3 ⊢
 clear e1 e2 e3 s1 s2 s3 hw hsz
 refine Z_call (pf:=F260) rfl rfl ?_
 simp[F260,f0,z1,z2,z3,List.range_succ]
theorem qrA {f fb fc:Bool} {s:ByteArray} {x y:E} (hs:s.size≠0) (hx:qfp x 1 1) (hy:qfp y 1 1) {w w':List UInt8} (hw:w'=pw w ([s,⟨#[91]⟩]++((x.tx false 1)++([⟨#[93]⟩,⟨#[61]⟩]++((y.tx false 1)++([⟨#[59]⟩])))))) (hsz:w'.length<2 ^ 40) :
  Z tQ (.call 260 [.ptr 0 0,.dat (.agg [.lit (.int .i64 2),.lit (.int .i64 0),.lit (.string s),.sl [.lit (.int .i64 x.kind),.lit (.int .i64 x.num),.lit (.string x.str),x.kids,.lit (.int .i64 y.kind),.lit (.int .i64 y.num),.lit (.string y.str),y.kids] 2 f])] (PW w))=some (.ret (.tup []) (PW w')):=by
 obtain⟨w1,e1⟩ : ∃ v,v=pw w [s,⟨#[91]⟩]:=⟨_,rfl⟩
 obtain⟨w2,e2⟩ : ∃ v,v=pw w1 (x.tx false 1):=⟨_,rfl⟩
 obtain⟨w3,e3⟩ : ∃ v,v=pw w2 [⟨#[93]⟩,⟨#[61]⟩]:=⟨_,rfl⟩
 obtain⟨w4,e4⟩ : ∃ v,v=pw w3 (y.tx false 1):=⟨_,rfl⟩
 have e5:w'=pw w4 [⟨#[59]⟩]:=by rw[hw,qaw,<- e1,qaw,<- e2,qaw,<- e3,qaw,<- e4]
 have s5:=hsz
 have s4:=qap e5 s5
 have s3:=qap e4 s4
 have s2:=qap e3 s3
 have s1:=qap e2 s2
 have z1:=qfv e1 (hs) (by decide) s1
 have z2:=hx w1 w2 e2 s2
 have z3:=qfv e3 (by decide) (by decide) s3
 have z4:=hy w3 w4 e4 s4
 have z5:=qbN e5 (by decide) s5
 have f0:=qeb (k:=2) (n:=0) (s:=s)  (a:=x.kind) (b:=x.num) (t:=x.str) (u:=x.kids) (r:=[.lit (.int .i64 y.kind),.lit (.int .i64 y.num),.lit (.string y.str),y.kids]) (m:=2) (f:=f) (by omega) (by omega) (qbn x)
 have f1:=qgf (k:=2) (n:=0) (s:=s) (x0 := .lit (.int .i64 x.kind)) (x1 := .lit (.int .i64 x.num)) (x2 := .lit (.string x.str)) (x3:=x.kids) (a:=y.kind) (b:=y.num) (t:=y.str) (u:=y.kids) (r:=[]) (m:=2) (f:=f) (by omega) (by omega) (qbn y)
 simp only[PW,PW'] at z1 z2 z3 z4 z5 ⊢
 clear e1 e2 e3 e4 e5 s1 s2 s3 s4 s5 hw hsz
 refine Z_call (pf:=F260) rfl rfl ?_
 simp[F260,f0,f1,z1,z2,z3,z4,z5,List.range_succ]
theorem qp0 {f fb fc:Bool} {x y:E} (hx:qfp x 1 1) (hy:qfp y 1 1) {w w':List UInt8} (hw:w'=pw w ([⟨#[101,102,102,101,99,116]⟩]++((x.tx false 1)++([⟨#[44]⟩]++((y.tx false 1)++([⟨#[59]⟩])))))) (hsz:w'.length<2 ^ 40) :
  Z tQ (.call 260 [.ptr 0 0,.dat (.agg [.lit (.int .i64 5),.lit (.int .i64 0),.lit (.string ⟨#[]⟩),.sl [.lit (.int .i64 x.kind),.lit (.int .i64 x.num),.lit (.string x.str),x.kids,.lit (.int .i64 y.kind),.lit (.int .i64 y.num),.lit (.string y.str),y.kids] 2 f])] (PW w))=some (.ret (.tup []) (PW w')):=by
 obtain⟨w1,e1⟩ : ∃ v,v=pw w [⟨#[101,102,102,101,99,116]⟩]:=⟨_,rfl⟩
 obtain⟨w2,e2⟩ : ∃ v,v=pw w1 (x.tx false 1):=⟨_,rfl⟩
 obtain⟨w3,e3⟩ : ∃ v,v=pw w2 [⟨#[44]⟩]:=⟨_,rfl⟩
 obtain⟨w4,e4⟩ : ∃ v,v=pw w3 (y.tx false 1):=⟨_,rfl⟩
 have e5:w'=pw w4 [⟨#[59]⟩]:=by rw[hw,qaw,<- e1,qaw,<- e2,qaw,<- e3,qaw,<- e4]
 have s5:=hsz
 have s4:=qap e5 s5
 have s3:=qap e4 s4
 have s2:=qap e3 s3
 have s1:=qap e2 s2
 have z1:=qbN e1 (by decide) s1
 have z2:=hx w1 w2 e2 s2
 have z3:=qbN e3 (by decide) s3
 have z4:=hy w3 w4 e4 s4
 have z5:=qbN e5 (by decide) s5
 have f0:=qeb (k:=5) (n:=0) (s:=⟨#[]⟩)  (a:=x.kind) (b:=x.num) (t:=x.str) (u:=x.kids) (r:=[.lit (.int .i64 y.kind),.lit (.int .i64 y.num),.lit (.string y.str),y.kids]) (m:=2) (f:=f) (by omega) (by omega) (qbn x)
 have f1:=qgf (k:=5) (n:=0) (s:=⟨#[]⟩) (x0 := .lit (.int .i64 x.kind)) (x1 := .lit (.int .i64 x.num)) (x2 := .lit (.string x.str)) (x3:=x.kids) (a:=y.kind) (b:=y.num) (t:=y.str) (u:=y.kids) (r:=[]) (m:=2) (f:=f) (by omega) (by omega) (qbn y)
 simp only[PW,PW'] at z1 z2 z3 z4 z5 ⊢
 clear e1 e2 e3 e4 e5 s1 s2 s3 s4 s5 hw hsz
 refine Z_call (pf:=F260) rfl rfl ?_
 simp[F260,f0,f1,z1,z2,z3,z4,z5,List.range_succ]
theorem qrB {f fb fc:Bool} {c:E} {p:Ss} (hc:qfp c 1 1) (hb:qks p) {w w':List UInt8} (hw:w'=pw w ([⟨#[119,104,105,108,101]⟩]++((c.tx false 1)++((⟨#[123]⟩::(p.tx++[⟨#[125]⟩])))))) (hsz:w'.length<2 ^ 40) :
  Z tQ (.call 260 [.ptr 0 0,.dat (.agg [.lit (.int .i64 4),.lit (.int .i64 0),.lit (.string ⟨#[]⟩),.sl [.lit (.int .i64 c.kind),.lit (.int .i64 c.num),.lit (.string c.str),c.kids,.lit (.int .i64 7),.lit (.int .i64 0),.lit (.string ⟨#[]⟩),kd fb p.fo.len p.fo.cells] 2 f])] (PW w))=some (.ret (.tup []) (PW w')):=by
 obtain⟨w1,e1⟩ : ∃ v,v=pw w [⟨#[119,104,105,108,101]⟩]:=⟨_,rfl⟩
 obtain⟨w2,e2⟩ : ∃ v,v=pw w1 (c.tx false 1):=⟨_,rfl⟩
 have e3:w'=pw w2 (⟨#[123]⟩::(p.tx++[⟨#[125]⟩])):=by rw[hw,qaw,<- e1,qaw,<- e2]
 have s3:=hsz
 have s2:=qap e3 s3
 have s1:=qap e2 s2
 have z1:=qbN e1 (by decide) s1
 have z2:=hc w1 w2 e2 s2
 have z3:=hb 7 0 ⟨#[]⟩ fb w2 w' e3 s3
 have f0:=qeb (k:=4) (n:=0) (s:=⟨#[]⟩)  (a:=c.kind) (b:=c.num) (t:=c.str) (u:=c.kids) (r:=[.lit (.int .i64 7),.lit (.int .i64 0),.lit (.string ⟨#[]⟩),kd fb p.fo.len p.fo.cells]) (m:=2) (f:=f) (by omega) (by omega) (qbn c)
 have f1:=qgf (k:=4) (n:=0) (s:=⟨#[]⟩) (x0 := .lit (.int .i64 c.kind)) (x1 := .lit (.int .i64 c.num)) (x2 := .lit (.string c.str)) (x3:=c.kids) (a:=7) (b:=0) (t:=⟨#[]⟩) (u:=kd fb p.fo.len p.fo.cells) (r:=[]) (m:=2) (f:=f) (by omega) (by omega) (qlr _ _ _)
 simp only[PW,PW'] at z1 z2 z3 ⊢
 clear e1 e2 e3 s1 s2 s3 hw hsz
 refine Z_call (pf:=F260) rfl rfl ?_
 simp[F260,f0,f1,z1,z2,z3,List.range_succ]
theorem qv8 {f fb fc:Bool} {c:E} {p q:Ss} (hc:qfp c 1 1) (hb:qks p) (hq:q.fo.len=0) {w w':List UInt8} (hw:w'=pw w ([⟨#[105,102]⟩]++((c.tx false 1)++((⟨#[123]⟩::(p.tx++[⟨#[125]⟩])))))) (hsz:w'.length<2 ^ 40) :
  Z tQ (.call 260 [.ptr 0 0,.dat (.agg [.lit (.int .i64 3),.lit (.int .i64 0),.lit (.string ⟨#[]⟩),.sl [.lit (.int .i64 c.kind),.lit (.int .i64 c.num),.lit (.string c.str),c.kids,.lit (.int .i64 7),.lit (.int .i64 0),.lit (.string ⟨#[]⟩),kd fb p.fo.len p.fo.cells,.lit (.int .i64 7),.lit (.int .i64 0),.lit (.string ⟨#[]⟩),kd fc q.fo.len q.fo.cells] 3 f])] (PW w))=some (.ret (.tup []) (PW w')):=by
 obtain⟨w1,e1⟩ : ∃ v,v=pw w [⟨#[105,102]⟩]:=⟨_,rfl⟩
 obtain⟨w2,e2⟩ : ∃ v,v=pw w1 (c.tx false 1):=⟨_,rfl⟩
 have e3:w'=pw w2 (⟨#[123]⟩::(p.tx++[⟨#[125]⟩])):=by rw[hw,qaw,<- e1,qaw,<- e2]
 have s3:=hsz
 have s2:=qap e3 s3
 have s1:=qap e2 s2
 have z1:=qbN e1 (by decide) s1
 have z2:=hc w1 w2 e2 s2
 have z3:=hb 7 0 ⟨#[]⟩ fb w2 w' e3 s3
 have f0:=qeb (k:=3) (n:=0) (s:=⟨#[]⟩)  (a:=c.kind) (b:=c.num) (t:=c.str) (u:=c.kids) (r:=[.lit (.int .i64 7),.lit (.int .i64 0),.lit (.string ⟨#[]⟩),kd fb p.fo.len p.fo.cells,.lit (.int .i64 7),.lit (.int .i64 0),.lit (.string ⟨#[]⟩),kd fc q.fo.len q.fo.cells]) (m:=3) (f:=f) (by omega) (by omega) (qbn c)
 have f1:=qgf (k:=3) (n:=0) (s:=⟨#[]⟩) (x0 := .lit (.int .i64 c.kind)) (x1 := .lit (.int .i64 c.num)) (x2 := .lit (.string c.str)) (x3:=c.kids) (a:=7) (b:=0) (t:=⟨#[]⟩) (u:=kd fb p.fo.len p.fo.cells) (r:=[.lit (.int .i64 7),.lit (.int .i64 0),.lit (.string ⟨#[]⟩),kd fc q.fo.len q.fo.cells]) (m:=3) (f:=f) (by omega) (by omega) (qlr _ _ _)
 have f2:=qr3 (k:=3) (n:=0) (s:=⟨#[]⟩) (x0 := .lit (.int .i64 c.kind)) (x1 := .lit (.int .i64 c.num)) (x2 := .lit (.string c.str)) (x3:=c.kids) (y0 := .lit (.int .i64 7)) (y1 := .lit (.int .i64 0)) (y2 := .lit (.string ⟨#[]⟩)) (y3:=kd fb p.fo.len p.fo.cells) (a:=7) (b:=0) (t:=⟨#[]⟩) (u:=kd fc q.fo.len q.fo.cells) (r:=[]) (m:=3) (f:=f) (by omega) (by omega) (qlr _ _ _)
 have hq1 : ∀ cs,kd fc q.fo.len cs = .lit (.slice none 0 0):=fun cs=>by rw[hq]; rfl
 simp only[hq1] at f0 f1 f2 ⊢
 simp only[PW,PW'] at z1 z2 z3 ⊢
 clear e1 e2 e3 s1 s2 s3 hw hsz
 refine Z_call (pf:=F260) rfl rfl ?_
 simp[F260,f0,f1,f2,z1,z2,z3,List.range_succ,qic]
theorem qv9 {f fb fc:Bool} {c:E} {p q:Ss} (hc:qfp c 1 1) (hb:qks p) (hq:0<q.fo.len) (hd:qks q) {w w':List UInt8} (hw:w'=pw w ([⟨#[105,102]⟩]++((c.tx false 1)++((⟨#[123]⟩::(p.tx++[⟨#[125]⟩]))++([⟨#[101,108,115,101]⟩]++((⟨#[123]⟩::(q.tx++[⟨#[125]⟩])))))))) (hsz:w'.length<2 ^ 40) :
  Z tQ (.call 260 [.ptr 0 0,.dat (.agg [.lit (.int .i64 3),.lit (.int .i64 0),.lit (.string ⟨#[]⟩),.sl [.lit (.int .i64 c.kind),.lit (.int .i64 c.num),.lit (.string c.str),c.kids,.lit (.int .i64 7),.lit (.int .i64 0),.lit (.string ⟨#[]⟩),kd fb p.fo.len p.fo.cells,.lit (.int .i64 7),.lit (.int .i64 0),.lit (.string ⟨#[]⟩),kd fc q.fo.len q.fo.cells] 3 f])] (PW w))=some (.ret (.tup []) (PW w')):=by
 obtain⟨w1,e1⟩ : ∃ v,v=pw w [⟨#[105,102]⟩]:=⟨_,rfl⟩
 obtain⟨w2,e2⟩ : ∃ v,v=pw w1 (c.tx false 1):=⟨_,rfl⟩
 obtain⟨w3,e3⟩ : ∃ v,v=pw w2 (⟨#[123]⟩::(p.tx++[⟨#[125]⟩])):=⟨_,rfl⟩
 obtain⟨w4,e4⟩ : ∃ v,v=pw w3 [⟨#[101,108,115,101]⟩]:=⟨_,rfl⟩
 have e5:w'=pw w4 (⟨#[123]⟩::(q.tx++[⟨#[125]⟩])):=by rw[hw,qaw,<- e1,qaw,<- e2,qaw,<- e3,qaw,<- e4]
 have s5:=hsz
 have s4:=qap e5 s5
 have s3:=qap e4 s4
 have s2:=qap e3 s3
 have s1:=qap e2 s2
 have z1:=qbN e1 (by decide) s1
 have z2:=hc w1 w2 e2 s2
 have z3:=hb 7 0 ⟨#[]⟩ fb w2 w3 e3 s3
 have z4:=qbN e4 (by decide) s4
 have z5:=hd 7 0 ⟨#[]⟩ fc w4 w' e5 s5
 have f0:=qeb (k:=3) (n:=0) (s:=⟨#[]⟩)  (a:=c.kind) (b:=c.num) (t:=c.str) (u:=c.kids) (r:=[.lit (.int .i64 7),.lit (.int .i64 0),.lit (.string ⟨#[]⟩),kd fb p.fo.len p.fo.cells,.lit (.int .i64 7),.lit (.int .i64 0),.lit (.string ⟨#[]⟩),kd fc q.fo.len q.fo.cells]) (m:=3) (f:=f) (by omega) (by omega) (qbn c)
 have f1:=qgf (k:=3) (n:=0) (s:=⟨#[]⟩) (x0 := .lit (.int .i64 c.kind)) (x1 := .lit (.int .i64 c.num)) (x2 := .lit (.string c.str)) (x3:=c.kids) (a:=7) (b:=0) (t:=⟨#[]⟩) (u:=kd fb p.fo.len p.fo.cells) (r:=[.lit (.int .i64 7),.lit (.int .i64 0),.lit (.string ⟨#[]⟩),kd fc q.fo.len q.fo.cells]) (m:=3) (f:=f) (by omega) (by omega) (qlr _ _ _)
 have f2:=qr3 (k:=3) (n:=0) (s:=⟨#[]⟩) (x0 := .lit (.int .i64 c.kind)) (x1 := .lit (.int .i64 c.num)) (x2 := .lit (.string c.str)) (x3:=c.kids) (y0 := .lit (.int .i64 7)) (y1 := .lit (.int .i64 0)) (y2 := .lit (.string ⟨#[]⟩)) (y3:=kd fb p.fo.len p.fo.cells) (a:=7) (b:=0) (t:=⟨#[]⟩) (u:=kd fc q.fo.len q.fo.cells) (r:=[]) (m:=3) (f:=f) (by omega) (by omega) (qlr _ _ _)
 have hq1:(0:Int)<q.fo.len:=by omega
 simp only[PW,PW'] at z1 z2 z3 z4 z5 ⊢
 clear e1 e2 e3 e4 e5 s1 s2 s3 s4 s5 hw hsz
 refine Z_call (pf:=F260) rfl rfl ?_
 simp[F260,f0,f1,f2,z1,z2,z3,z4,z5,List.range_succ,hq1,hq]
theorem qt5 {f fb:Bool} {d:D} (hd:V.one (.dat d)=true) (hcl:V.cells (.dat d)=[.dat d]) {w w':List UInt8} (hw:w'=pw w [⟨#[115,116,111,112]⟩,⟨#[59]⟩]) (hsz:w'.length<2 ^ 40) :
  Z tQ (.call 260 [.ptr 0 0,.dat (.agg [.lit (.int .i64 6),.lit (.int .i64 0),.lit (.string ⟨#[]⟩),d])] (PW w))=some (.ret (.tup []) (PW w')):=by
 have z1:=qfv hw (by decide) (by decide) hsz
 simp only[PW,PW'] at z1 ⊢
 refine Z_call (pf:=F260) rfl rfl ?_
 simp[F260,z1,hd,hcl,List.range_succ]
end Go.Pm
end SOh
section SOi
namespace Go.Pm
open F
set_option maxHeartbeats 8000000
attribute [local simp] qgC qjd
def quR (s:Ss):Prop := ∀ (cs:List D) (m i:Nat) (f:Bool) w w',cs.drop (i*4)=s.fo.cells->i+s.fo.len=m->m<2 ^ 40->w'=pw w s.tx->w'.length<2 ^ 40 ->
 Z tQ (.loop 2 F244l0 [(0,.ptr 0 0),(10,.dat (.sl cs m f)),(11,.int m),(12,.int i)] (PW w))=some (.out (.exit 0) [(0,.ptr 0 0),(10,.dat (.sl cs m f)),(11,.int m),(12,.int m),(13,.bool false)] (PW w'))
def quS:Ss->Prop
 | .block _ b r=>qks b/\quS r
 | _=>True
theorem qfA {cs:List D} {m i:Nat} {f:Bool} {w w1:List UInt8} {k n:Int} {s:ByteArray} {d:D} {rest:List D} (hd:cs.drop (i*4) = .lit (.int .i64 k) :: .lit (.int .i64 n) :: .lit (.string s)::d::rest)
  (h1:V.one (.dat d)=true) (hcl:V.cells (.dat d)=[.dat d]) (hi:i<m) (hm:m<2 ^ 40)
  (zs:Z tQ (.call 260 [.ptr 0 0,.dat (.agg [.lit (.int .i64 k),.lit (.int .i64 n),.lit (.string s),d])] (PW w))=some (.ret (.tup []) (PW w1)))
  {r:Res} (zr:Z tQ (.loop 2 F244l0 [(0,.ptr 0 0),(10,.dat (.sl cs m f)),(11,.int m),(12,.int ((i+1:Nat):Int))] (PW w1))=some r) :
  Z tQ (.loop 2 F244l0 [(0,.ptr 0 0),(10,.dat (.sl cs m f)),(11,.int m),(12,.int i)] (PW w))=some r:=by
 have hc:=qwJ hd
 have hlt:(i:Int)<m:=by omega
 have w1':IntKind.i64.wrap ((i:Int)+1)=((i+1:Nat):Int):=by rw[qaf _ (by omega)]; omega
 rw[<- zr]
 simp only[PW,PW'] at zs ⊢
 conv=>lhs; rw[qaa]
 generalize ((i+1:Nat):Int)=i1 at *
 simp[qac,qgp,qah,hc,h1,hcl,hlt,hi,zs,w1',List.range_succ]
 all_goals exact qcb (by simp[gcF,h1,hcl,List.range_succ])
theorem qmF {b:Ss} (hg:b.good none) (hl:quR b):qks b:=by
 intro k n s f w w' hw hsz
 obtain⟨w1,e1⟩ : ∃ v,v=pw w [⟨#[123]⟩]:=⟨_,rfl⟩
 obtain⟨w2,e2⟩ : ∃ v,v=pw w1 b.tx:=⟨_,rfl⟩
 have e3:w'=pw w2 [⟨#[125]⟩]:=by rw[hw,e2,e1,<- qaw,<- qaw]; rfl
 have s3:=hsz
 have s2:=qap e3 s3
 have s1:=qap e2 s2
 have htg:=qig (qhd b none hg).ok
 have hb:b.fo.len<2 ^ 40:=by
  have h1:=qew b hg
  have h2:=qfj b.tx (wl w1) (fun t ht=>qev (htg t ht))
  have h3:=congrArg List.length e2
  simp only[pw,List.length_append] at h3
  omega
 have z1:=qbN e1 (by decide) s1
 have z3:=qbN e3 (by decide) s3
 refine Z_call (pf:=F244) rfl rfl ?_
 cases hbl:b.fo.len with
 | zero=>
  have hn:=qfl hbl
  subst hn
  have:w2=w1:=by rw[e2]; exact qdR w1
  subst this
  simp only[PW,PW'] at z1 z3 ⊢
  simp[F244,z1,z3,qic,qaa,qac,qgp,List.range_succ]
 | succ q=>
  have z2:=hl b.fo.cells (q+1) 0 f w1 w2 (by simp) (by omega) (by omega) e2 s2
  have hk:kd f (q+1) b.fo.cells = .sl b.fo.cells (q+1) f:=rfl
  rw[hk]
  generalize q+1=M at *
  have z2':Z tQ (.loop 2 F244l0 [(0,.ptr 0 0),(10,.dat (.sl b.fo.cells M f)),(11,.int M),(12,.int 0)] (PW w1++[.cells [.int k,.int n,.str s,.dat (.sl b.fo.cells M f)]]))=_:=(qcb (by simp[gcF,List.range_succ])).trans z2
  simp only[PW,PW',List.cons_append,List.nil_append] at z1 z2' z3 ⊢
  simp[F244,z1,z2',z3,qg7,List.range_succ]
theorem qqm {cs:List D} {m:Nat} {f:Bool} {w:List UInt8}:Z tQ (.loop 2 F244l0 [(0,.ptr 0 0),(10,.dat (.sl cs m f)),(11,.int m),(12,.int m)] (PW w))=some (.out (.exit 0) [(0,.ptr 0 0),(10,.dat (.sl cs m f)),(11,.int m),(12,.int m),(13,.bool false)] (PW w)):=by
 rw[qaa]
 simp[qac,qgp,List.range_succ]
theorem pe1 {e:E} (h:e.good):qfp e 1 1:=qk7 e h 1 1 rfl (by omega)
theorem quT : ∀ s:Ss,(s.good none->quR s)/\((∃ k,s.good (some k))->quS s):=by
 intro s
 induction s with
 | nil=>
  refine⟨fun _ cs m i f w w' hd hm hm2 hw hs=>?_,fun _=>trivial⟩
  rw[Ss.tx,qdR] at hw
  subst hw
  have:i=m:=by simpa [Ss.fo] using hm
  subst this
  exact qqm
 | assign g s e r ih=>
  refine⟨fun h cs m i f w w' hd hm hm2 hw hs=>?_,fun _=>trivial⟩
  obtain⟨_,hn,he,hr⟩:=h
  simp only[Ss.fo,qaC,qfy,qaV,qa0,qn5,qc1,qaJ] at hd hm
  obtain⟨w1,e1⟩ : ∃ v,v=pw w ([s,⟨#[61]⟩]++(e.tx false 1++[⟨#[59]⟩])):=⟨_,rfl⟩
  have e2:w'=pw w1 r.tx:=by
   rw[hw,e1,<- qaw]
   simp only[Ss.tx,List.cons_append,List.nil_append,List.append_assoc]
   rfl
  exact qfA hd rfl rfl (by omega) hm2 (qpZ (fb:=false) (fc:=false) (qev hn.1) (pe1 he) e1 (qap e2 hs)) (ih.1 hr cs m (i+1) f w1 w' (qcp hd) (by omega) hm2 e2 hs)
 | store g s a b r ih=>
  refine⟨fun h cs m i f w w' hd hm hm2 hw hs=>?_,fun _=>trivial⟩
  obtain⟨_,hn,ha,hb,hr⟩:=h
  simp only[Ss.fo,qaC,qfy,qaV,qa0,qn5,qc1,qaJ] at hd hm
  obtain⟨w1,e1⟩ : ∃ v,v=pw w ([s,⟨#[91]⟩]++(a.tx false 1++([⟨#[93]⟩,⟨#[61]⟩]++(b.tx false 1++[⟨#[59]⟩])))):=⟨_,rfl⟩
  have e2:w'=pw w1 r.tx:=by
   rw[hw,e1,<- qaw]
   simp only[Ss.tx,List.cons_append,List.nil_append,List.append_assoc]
   rfl
  exact qfA hd rfl rfl (by omega) hm2 (qrA (fb:=false) (fc:=false) (qi5 hn) (pe1 ha) (pe1 hb) e1 (qap e2 hs)) (ih.1 hr cs m (i+1) f w1 w' (qcp hd) (by omega) hm2 e2 hs)
 | effect g a b r ih=>
  refine⟨fun h cs m i f w w' hd hm hm2 hw hs=>?_,fun _=>trivial⟩
  obtain⟨_,ha,hb,hr⟩:=h
  simp only[Ss.fo,qaC,qfy,qaV,qa0,qn5,qc1,qaJ] at hd hm
  obtain⟨w1,e1⟩ : ∃ v,v=pw w ([⟨#[101,102,102,101,99,116]⟩]++(a.tx false 1++([⟨#[44]⟩]++(b.tx false 1++[⟨#[59]⟩])))):=⟨_,rfl⟩
  have e2:w'=pw w1 r.tx:=by
   rw[hw,e1,<- qaw]
   simp only[Ss.tx,List.cons_append,List.nil_append,List.append_assoc]
   rfl
  exact qfA hd rfl rfl (by omega) hm2 (qp0 (fb:=false) (fc:=false) (pe1 ha) (pe1 hb) e1 (qap e2 hs)) (ih.1 hr cs m (i+1) f w1 w' (qcp hd) (by omega) hm2 e2 hs)
 | stop r ih=>
  refine⟨fun h cs m i f w w' hd hm hm2 hw hs=>?_,fun _=>trivial⟩
  obtain⟨_,hr⟩:=h
  simp only[Ss.fo,qaC,qaV,qa0,qaJ,qv2] at hd hm
  obtain⟨w1,e1⟩ : ∃ v,v=pw w [⟨#[115,116,111,112]⟩,⟨#[59]⟩]:=⟨_,rfl⟩
  have e2:w'=pw w1 r.tx:=by
   rw[hw,e1,<- qaw]
   rfl
  exact qfA hd rfl rfl (by omega) hm2 (qt5 (f:=false) (fb:=false) rfl rfl e1 (qap e2 hs)) (ih.1 hr cs m (i+1) f w1 w' (qcp hd) (by omega) hm2 e2 hs)
 | cond w0 g c b r ihb ih=>
  refine⟨fun h cs m i f w w' hd hm hm2 hw hs=>?_,fun _=>trivial⟩
  obtain⟨_,hc,hb,hr⟩:=h
  cases w0 with
  | true=>
   obtain⟨fb,b1,rfl,hb1⟩:=qkl hb
   have hrow:=ihb.2 ⟨1,hb⟩
   simp only[Ss.fo,qaC,qfy,qaV,qa0,qn5,qc1,qaJ,if_true] at hd hm
   obtain⟨w1,e1⟩ : ∃ v,v=pw w ([⟨#[119,104,105,108,101]⟩]++(c.tx false 1++(⟨#[123]⟩::(b1.tx++[⟨#[125]⟩])))):=⟨_,rfl⟩
   have e2:w'=pw w1 r.tx:=by
    rw[hw,e1,<- qaw]
    simp only[Ss.tx,List.cons_append,List.nil_append,List.append_assoc,qcR,if_true,Bool.false_eq_true,if_false]
    rfl
   exact qfA hd rfl rfl (by omega) hm2 (qrB (fc:=false) (pe1 hc) hrow.1 e1 (qap e2 hs)) (ih.1 hr cs m (i+1) f w1 w' (qcp hd) (by omega) hm2 e2 hs)
  | false=>
   obtain⟨fb,b1,fc,b2,rfl,hb1,hb2⟩:=qpG hb
   have hrow:=ihb.2 ⟨2,hb⟩
   simp only[Ss.fo,qaC,qfy,qaV,qa0,qn5,qc1,qaJ,Bool.false_eq_true,if_false] at hd hm
   cases hl:b2.fo.len with
   | zero=>
    have hn:=qfl hl
    obtain⟨w1,e1⟩ : ∃ v,v=pw w ([⟨#[105,102]⟩]++(c.tx false 1++(⟨#[123]⟩::(b1.tx++[⟨#[125]⟩])))):=⟨_,rfl⟩
    have e2:w'=pw w1 r.tx:=by
     rw[hw,e1,<- qaw,hn]
     simp only[Ss.tx,List.cons_append,List.nil_append,List.append_assoc,qcR,if_true,Bool.false_eq_true,if_false]
     rfl
    exact qfA hd rfl rfl (by omega) hm2 (qv8 (pe1 hc) hrow.1 hl e1 (qap e2 hs)) (ih.1 hr cs m (i+1) f w1 w' (qcp hd) (by omega) hm2 e2 hs)
   | succ q=>
    have he:qcR (.block fc b2 .nil)=true:=by cases b2<;>first | rfl | simp[Ss.fo] at hl
    obtain⟨w1,e1⟩ : ∃ v,v=pw w ([⟨#[105,102]⟩]++(c.tx false 1++((⟨#[123]⟩::(b1.tx++[⟨#[125]⟩]))++([⟨#[101,108,115,101]⟩]++(⟨#[123]⟩::(b2.tx++[⟨#[125]⟩])))))):=⟨_,rfl⟩
    have e2:w'=pw w1 r.tx:=by
     rw[hw,e1,<- qaw]
     simp only[Ss.tx,he,List.cons_append,List.nil_append,List.append_assoc,if_true,Bool.false_eq_true,if_false]
     rfl
    exact qfA hd rfl rfl (by omega) hm2 (qv9 (pe1 hc) hrow.1 (by omega) hrow.2.1 e1 (qap e2 hs)) (ih.1 hr cs m (i+1) f w1 w' (qcp hd) (by omega) hm2 e2 hs)
 | block g b r ihb ih=>
  refine⟨fun h=>?_,fun ⟨k,h⟩=>?_⟩
  ·obtain⟨n,hn,_⟩:=h; cases hn
  ·obtain⟨n,hn,hb,hr⟩:=h
   exact⟨qmF hb (ihb.1 hb),ih.2 ⟨n,hr⟩⟩
end Go.Pm
end SOi
section SOj
namespace Go.Pm
open F
set_option maxHeartbeats 8000000
attribute [local simp] qgC qjd
theorem qeu {w:List UInt8} (h:w≠[]) (hl:w.length<2 ^ 40):Z tQ (.call 245 [.ptr 0 0] (PW w))=some (.ret (.str (bs w)) [.cellsT 4 [.ptr 0 0,.own 1 w.length 1,.dat (.lit (.int .u8 (lastC w).toNat))],.dead]):=by
 have h0:0<w.length:=by cases w with | nil=>exact absurd rfl h | cons=>simp
 have hv:=qjc w
 have hb:=qcg w
 have hle:w.length<=1099511627776:=by omega
 refine Z_call (pf:=F245) rfl rfl ?_
 simp[F245,h0,hv,hb,hle,bs,V.len,List.range_succ]
theorem qpA:Z tQ (.call 245 [.ptr 0 0] PE)=some (.ret (.str ⟨#[]⟩) PE):=by
 refine Z_call (pf:=F245) rfl rfl ?_
 simp[F245,V.len,List.range_succ]
theorem qfK {t u:ByteArray} {w':List UInt8} (hw:w'=pw [] [t,u]) (ht:t.size≠0) (hu:u.size≠0) (h:w'.length<2 ^ 40):Z tQ (.call 243 [.ptr 0 0,.dat (.sl [.lit (.string t),.lit (.string u)] 2 true)] PE)=some (.ret (.tup []) (PW w')):=by
 subst hw
 exact qvy true (t:=t) (ts:=[u]) ht (fun x hx=>by rw[List.mem_singleton.1 hx]; exact hu) (by simp) h
theorem qtA:Z tQ (.call 231 [.dat (.agg [.lit (.int .i64 0),.lit (.int .i64 0),.lit (.string ⟨#[]⟩),.lit (.slice none 0 0),.lit (.int .i64 0),.lit (.int .i64 0),.lit (.string ⟨#[]⟩),.lit (.slice none 0 0),.lit (.int .i64 0),.lit (.int .i64 0),.lit (.string ⟨#[]⟩),.lit (.slice none 0 0)])] [])=some (.ret (.str ⟨#[]⟩) []):=by
 have z1:=qpA
 simp only[PE] at z1
 refine Z_call (pf:=F231) rfl rfl ?_
 simp[F231,z1,qaa,qac,qcw,List.range_succ,show IntKind.i64.wrap 1=1 from rfl,show IntKind.i64.wrap 2=2 from rfl,show IntKind.i64.wrap 3=3 from rfl]
theorem qtB {f0:Bool} {b0:Ss} (h0:qks b0) {w:List UInt8} (hw:w=pw [] ([⟨#[111,110]⟩,⟨#[97,99,116]⟩]++((⟨#[123]⟩::(b0.tx++[⟨#[125]⟩]))))) (hsz:w.length<2 ^ 40):Z tQ (.call 231 [.dat (.agg [.lit (.int .i64 7),.lit (.int .i64 0),.lit (.string ⟨#[]⟩),kd f0 b0.fo.len b0.fo.cells,.lit (.int .i64 0),.lit (.int .i64 0),.lit (.string ⟨#[]⟩),.lit (.slice none 0 0),.lit (.int .i64 0),.lit (.int .i64 0),.lit (.string ⟨#[]⟩),.lit (.slice none 0 0)])] [])=some (.ret (.str (bs w)) []):=by
 obtain⟨w1,e1⟩ : ∃ v,v=pw [] [⟨#[111,110]⟩,⟨#[97,99,116]⟩]:=⟨_,rfl⟩
 have e2:w=pw w1 (⟨#[123]⟩::(b0.tx++[⟨#[125]⟩])):=by rw[hw,qaw,<- e1]
 have s2:=hsz
 have s1:=qap e2 s2
 have z1:=qfK e1 (by decide) (by decide) s1
 have z2:=h0 7 0 ⟨#[]⟩ f0 w1 w e2 s2
 have hne:w≠[]:=by
  rw[e2]
  apply qeO
  rw[e1,qdY]
  simp[qam]
 have zs:=qeu hne hsz
 simp only[PW,PW',PE] at z1 z2 zs
 clear e1 e2 s1 s2 hw hsz
 refine Z_call (pf:=F231) rfl rfl ?_
 simp[F231,z1,z2,zs,qaa,qac,qcw,List.range_succ,show IntKind.i64.wrap 1=1 from rfl,show IntKind.i64.wrap 2=2 from rfl,show IntKind.i64.wrap 3=3 from rfl]
theorem qtC {f1:Bool} {b1:Ss} (h1:qks b1) {w:List UInt8} (hw:w=pw [] ([⟨#[111,110]⟩,⟨#[116,105,99,107]⟩]++((⟨#[123]⟩::(b1.tx++[⟨#[125]⟩]))))) (hsz:w.length<2 ^ 40):Z tQ (.call 231 [.dat (.agg [.lit (.int .i64 0),.lit (.int .i64 0),.lit (.string ⟨#[]⟩),.lit (.slice none 0 0),.lit (.int .i64 7),.lit (.int .i64 0),.lit (.string ⟨#[]⟩),kd f1 b1.fo.len b1.fo.cells,.lit (.int .i64 0),.lit (.int .i64 0),.lit (.string ⟨#[]⟩),.lit (.slice none 0 0)])] [])=some (.ret (.str (bs w)) []):=by
 obtain⟨w1,e1⟩ : ∃ v,v=pw [] [⟨#[111,110]⟩,⟨#[116,105,99,107]⟩]:=⟨_,rfl⟩
 have e2:w=pw w1 (⟨#[123]⟩::(b1.tx++[⟨#[125]⟩])):=by rw[hw,qaw,<- e1]
 have s2:=hsz
 have s1:=qap e2 s2
 have z1:=qfK e1 (by decide) (by decide) s1
 have z2:=h1 7 0 ⟨#[]⟩ f1 w1 w e2 s2
 have hne:w≠[]:=by
  rw[e2]
  apply qeO
  rw[e1,qdY]
  simp[qam]
 have zs:=qeu hne hsz
 simp only[PW,PW',PE] at z1 z2 zs
 clear e1 e2 s1 s2 hw hsz
 refine Z_call (pf:=F231) rfl rfl ?_
 simp[F231,z1,z2,zs,qaa,qac,qcw,List.range_succ,show IntKind.i64.wrap 1=1 from rfl,show IntKind.i64.wrap 2=2 from rfl,show IntKind.i64.wrap 3=3 from rfl]
theorem qtD {f0:Bool} {b0:Ss} (h0:qks b0) {f1:Bool} {b1:Ss} (h1:qks b1) {w:List UInt8} (hw:w=pw [] ([⟨#[111,110]⟩,⟨#[97,99,116]⟩]++((⟨#[123]⟩::(b0.tx++[⟨#[125]⟩]))++([⟨#[111,110]⟩,⟨#[116,105,99,107]⟩]++((⟨#[123]⟩::(b1.tx++[⟨#[125]⟩]))))))) (hsz:w.length<2 ^ 40):Z tQ (.call 231 [.dat (.agg [.lit (.int .i64 7),.lit (.int .i64 0),.lit (.string ⟨#[]⟩),kd f0 b0.fo.len b0.fo.cells,.lit (.int .i64 7),.lit (.int .i64 0),.lit (.string ⟨#[]⟩),kd f1 b1.fo.len b1.fo.cells,.lit (.int .i64 0),.lit (.int .i64 0),.lit (.string ⟨#[]⟩),.lit (.slice none 0 0)])] [])=some (.ret (.str (bs w)) []):=by
 obtain⟨w1,e1⟩ : ∃ v,v=pw [] [⟨#[111,110]⟩,⟨#[97,99,116]⟩]:=⟨_,rfl⟩
 obtain⟨w2,e2⟩ : ∃ v,v=pw w1 (⟨#[123]⟩::(b0.tx++[⟨#[125]⟩])):=⟨_,rfl⟩
 obtain⟨w3,e3⟩ : ∃ v,v=pw w2 [⟨#[111,110]⟩,⟨#[116,105,99,107]⟩]:=⟨_,rfl⟩
 have e4:w=pw w3 (⟨#[123]⟩::(b1.tx++[⟨#[125]⟩])):=by rw[hw,qaw,<- e1,qaw,<- e2,qaw,<- e3]
 have s4:=hsz
 have s3:=qap e4 s4
 have s2:=qap e3 s3
 have s1:=qap e2 s2
 have z1:=qfK e1 (by decide) (by decide) s1
 have z2:=h0 7 0 ⟨#[]⟩ f0 w1 w2 e2 s2
 have z3:=qfv e3 (by decide) (by decide) s3
 have z4:=h1 7 0 ⟨#[]⟩ f1 w3 w e4 s4
 have hne:w≠[]:=by
  rw[e4]
  apply qeO
  rw[e3]
  apply qeO
  rw[e2]
  apply qeO
  rw[e1,qdY]
  simp[qam]
 have zs:=qeu hne hsz
 simp only[PW,PW',PE] at z1 z2 z3 z4 zs
 clear e1 e2 e3 e4 s1 s2 s3 s4 hw hsz
 refine Z_call (pf:=F231) rfl rfl ?_
 simp[F231,z1,z2,z3,z4,zs,qaa,qac,qcw,List.range_succ,show IntKind.i64.wrap 1=1 from rfl,show IntKind.i64.wrap 2=2 from rfl,show IntKind.i64.wrap 3=3 from rfl]
theorem qtE {f2:Bool} {b2:Ss} (h2:qks b2) {w:List UInt8} (hw:w=pw [] ([⟨#[111,110]⟩,⟨#[104,105,116]⟩]++((⟨#[123]⟩::(b2.tx++[⟨#[125]⟩]))))) (hsz:w.length<2 ^ 40):Z tQ (.call 231 [.dat (.agg [.lit (.int .i64 0),.lit (.int .i64 0),.lit (.string ⟨#[]⟩),.lit (.slice none 0 0),.lit (.int .i64 0),.lit (.int .i64 0),.lit (.string ⟨#[]⟩),.lit (.slice none 0 0),.lit (.int .i64 7),.lit (.int .i64 0),.lit (.string ⟨#[]⟩),kd f2 b2.fo.len b2.fo.cells])] [])=some (.ret (.str (bs w)) []):=by
 obtain⟨w1,e1⟩ : ∃ v,v=pw [] [⟨#[111,110]⟩,⟨#[104,105,116]⟩]:=⟨_,rfl⟩
 have e2:w=pw w1 (⟨#[123]⟩::(b2.tx++[⟨#[125]⟩])):=by rw[hw,qaw,<- e1]
 have s2:=hsz
 have s1:=qap e2 s2
 have z1:=qfK e1 (by decide) (by decide) s1
 have z2:=h2 7 0 ⟨#[]⟩ f2 w1 w e2 s2
 have hne:w≠[]:=by
  rw[e2]
  apply qeO
  rw[e1,qdY]
  simp[qam]
 have zs:=qeu hne hsz
 simp only[PW,PW',PE] at z1 z2 zs
 clear e1 e2 s1 s2 hw hsz
 refine Z_call (pf:=F231) rfl rfl ?_
 simp[F231,z1,z2,zs,qaa,qac,qcw,List.range_succ,show IntKind.i64.wrap 1=1 from rfl,show IntKind.i64.wrap 2=2 from rfl,show IntKind.i64.wrap 3=3 from rfl]
theorem qtF {f0:Bool} {b0:Ss} (h0:qks b0) {f2:Bool} {b2:Ss} (h2:qks b2) {w:List UInt8} (hw:w=pw [] ([⟨#[111,110]⟩,⟨#[97,99,116]⟩]++((⟨#[123]⟩::(b0.tx++[⟨#[125]⟩]))++([⟨#[111,110]⟩,⟨#[104,105,116]⟩]++((⟨#[123]⟩::(b2.tx++[⟨#[125]⟩]))))))) (hsz:w.length<2 ^ 40):Z tQ (.call 231 [.dat (.agg [.lit (.int .i64 7),.lit (.int .i64 0),.lit (.string ⟨#[]⟩),kd f0 b0.fo.len b0.fo.cells,.lit (.int .i64 0),.lit (.int .i64 0),.lit (.string ⟨#[]⟩),.lit (.slice none 0 0),.lit (.int .i64 7),.lit (.int .i64 0),.lit (.string ⟨#[]⟩),kd f2 b2.fo.len b2.fo.cells])] [])=some (.ret (.str (bs w)) []):=by
 obtain⟨w1,e1⟩ : ∃ v,v=pw [] [⟨#[111,110]⟩,⟨#[97,99,116]⟩]:=⟨_,rfl⟩
 obtain⟨w2,e2⟩ : ∃ v,v=pw w1 (⟨#[123]⟩::(b0.tx++[⟨#[125]⟩])):=⟨_,rfl⟩
 obtain⟨w3,e3⟩ : ∃ v,v=pw w2 [⟨#[111,110]⟩,⟨#[104,105,116]⟩]:=⟨_,rfl⟩
 have e4:w=pw w3 (⟨#[123]⟩::(b2.tx++[⟨#[125]⟩])):=by rw[hw,qaw,<- e1,qaw,<- e2,qaw,<- e3]
 have s4:=hsz
 have s3:=qap e4 s4
 have s2:=qap e3 s3
 have s1:=qap e2 s2
 have z1:=qfK e1 (by decide) (by decide) s1
 have z2:=h0 7 0 ⟨#[]⟩ f0 w1 w2 e2 s2
 have z3:=qfv e3 (by decide) (by decide) s3
 have z4:=h2 7 0 ⟨#[]⟩ f2 w3 w e4 s4
 have hne:w≠[]:=by
  rw[e4]
  apply qeO
  rw[e3]
  apply qeO
  rw[e2]
  apply qeO
  rw[e1,qdY]
  simp[qam]
 have zs:=qeu hne hsz
 simp only[PW,PW',PE] at z1 z2 z3 z4 zs
 clear e1 e2 e3 e4 s1 s2 s3 s4 hw hsz
 refine Z_call (pf:=F231) rfl rfl ?_
 simp[F231,z1,z2,z3,z4,zs,qaa,qac,qcw,List.range_succ,show IntKind.i64.wrap 1=1 from rfl,show IntKind.i64.wrap 2=2 from rfl,show IntKind.i64.wrap 3=3 from rfl]
theorem qtG {f1:Bool} {b1:Ss} (h1:qks b1) {f2:Bool} {b2:Ss} (h2:qks b2) {w:List UInt8} (hw:w=pw [] ([⟨#[111,110]⟩,⟨#[116,105,99,107]⟩]++((⟨#[123]⟩::(b1.tx++[⟨#[125]⟩]))++([⟨#[111,110]⟩,⟨#[104,105,116]⟩]++((⟨#[123]⟩::(b2.tx++[⟨#[125]⟩]))))))) (hsz:w.length<2 ^ 40):Z tQ (.call 231 [.dat (.agg [.lit (.int .i64 0),.lit (.int .i64 0),.lit (.string ⟨#[]⟩),.lit (.slice none 0 0),.lit (.int .i64 7),.lit (.int .i64 0),.lit (.string ⟨#[]⟩),kd f1 b1.fo.len b1.fo.cells,.lit (.int .i64 7),.lit (.int .i64 0),.lit (.string ⟨#[]⟩),kd f2 b2.fo.len b2.fo.cells])] [])=some (.ret (.str (bs w)) []):=by
 obtain⟨w1,e1⟩ : ∃ v,v=pw [] [⟨#[111,110]⟩,⟨#[116,105,99,107]⟩]:=⟨_,rfl⟩
 obtain⟨w2,e2⟩ : ∃ v,v=pw w1 (⟨#[123]⟩::(b1.tx++[⟨#[125]⟩])):=⟨_,rfl⟩
 obtain⟨w3,e3⟩ : ∃ v,v=pw w2 [⟨#[111,110]⟩,⟨#[104,105,116]⟩]:=⟨_,rfl⟩
 have e4:w=pw w3 (⟨#[123]⟩::(b2.tx++[⟨#[125]⟩])):=by rw[hw,qaw,<- e1,qaw,<- e2,qaw,<- e3]
 have s4:=hsz
 have s3:=qap e4 s4
 have s2:=qap e3 s3
 have s1:=qap e2 s2
 have z1:=qfK e1 (by decide) (by decide) s1
 have z2:=h1 7 0 ⟨#[]⟩ f1 w1 w2 e2 s2
 have z3:=qfv e3 (by decide) (by decide) s3
 have z4:=h2 7 0 ⟨#[]⟩ f2 w3 w e4 s4
 have hne:w≠[]:=by
  rw[e4]
  apply qeO
  rw[e3]
  apply qeO
  rw[e2]
  apply qeO
  rw[e1,qdY]
  simp[qam]
 have zs:=qeu hne hsz
 simp only[PW,PW',PE] at z1 z2 z3 z4 zs
 clear e1 e2 e3 e4 s1 s2 s3 s4 hw hsz
 refine Z_call (pf:=F231) rfl rfl ?_
 simp[F231,z1,z2,z3,z4,zs,qaa,qac,qcw,List.range_succ,show IntKind.i64.wrap 1=1 from rfl,show IntKind.i64.wrap 2=2 from rfl,show IntKind.i64.wrap 3=3 from rfl]
theorem qtH {f0:Bool} {b0:Ss} (h0:qks b0) {f1:Bool} {b1:Ss} (h1:qks b1) {f2:Bool} {b2:Ss} (h2:qks b2) {w:List UInt8} (hw:w=pw [] ([⟨#[111,110]⟩,⟨#[97,99,116]⟩]++((⟨#[123]⟩::(b0.tx++[⟨#[125]⟩]))++([⟨#[111,110]⟩,⟨#[116,105,99,107]⟩]++((⟨#[123]⟩::(b1.tx++[⟨#[125]⟩]))++([⟨#[111,110]⟩,⟨#[104,105,116]⟩]++((⟨#[123]⟩::(b2.tx++[⟨#[125]⟩]))))))))) (hsz:w.length<2 ^ 40):Z tQ (.call 231 [.dat (.agg [.lit (.int .i64 7),.lit (.int .i64 0),.lit (.string ⟨#[]⟩),kd f0 b0.fo.len b0.fo.cells,.lit (.int .i64 7),.lit (.int .i64 0),.lit (.string ⟨#[]⟩),kd f1 b1.fo.len b1.fo.cells,.lit (.int .i64 7),.lit (.int .i64 0),.lit (.string ⟨#[]⟩),kd f2 b2.fo.len b2.fo.cells])] [])=some (.ret (.str (bs w)) []):=by
 obtain⟨w1,e1⟩ : ∃ v,v=pw [] [⟨#[111,110]⟩,⟨#[97,99,116]⟩]:=⟨_,rfl⟩
 obtain⟨w2,e2⟩ : ∃ v,v=pw w1 (⟨#[123]⟩::(b0.tx++[⟨#[125]⟩])):=⟨_,rfl⟩
 obtain⟨w3,e3⟩ : ∃ v,v=pw w2 [⟨#[111,110]⟩,⟨#[116,105,99,107]⟩]:=⟨_,rfl⟩
 obtain⟨w4,e4⟩ : ∃ v,v=pw w3 (⟨#[123]⟩::(b1.tx++[⟨#[125]⟩])):=⟨_,rfl⟩
 obtain⟨w5,e5⟩ : ∃ v,v=pw w4 [⟨#[111,110]⟩,⟨#[104,105,116]⟩]:=⟨_,rfl⟩
 have e6:w=pw w5 (⟨#[123]⟩::(b2.tx++[⟨#[125]⟩])):=by rw[hw,qaw,<- e1,qaw,<- e2,qaw,<- e3,qaw,<- e4,qaw,<- e5]
 have s6:=hsz
 have s5:=qap e6 s6
 have s4:=qap e5 s5
 have s3:=qap e4 s4
 have s2:=qap e3 s3
 have s1:=qap e2 s2
 have z1:=qfK e1 (by decide) (by decide) s1
 have z2:=h0 7 0 ⟨#[]⟩ f0 w1 w2 e2 s2
 have z3:=qfv e3 (by decide) (by decide) s3
 have z4:=h1 7 0 ⟨#[]⟩ f1 w3 w4 e4 s4
 have z5:=qfv e5 (by decide) (by decide) s5
 have z6:=h2 7 0 ⟨#[]⟩ f2 w5 w e6 s6
 have hne:w≠[]:=by
  rw[e6]
  apply qeO
  rw[e5]
  apply qeO
  rw[e4]
  apply qeO
  rw[e3]
  apply qeO
  rw[e2]
  apply qeO
  rw[e1,qdY]
  simp[qam]
 have zs:=qeu hne hsz
 simp only[PW,PW',PE] at z1 z2 z3 z4 z5 z6 zs
 clear e1 e2 e3 e4 e5 e6 s1 s2 s3 s4 s5 s6 hw hsz
 refine Z_call (pf:=F231) rfl rfl ?_
 simp[F231,z1,z2,z3,z4,z5,z6,zs,qaa,qac,qcw,List.range_succ,show IntKind.i64.wrap 1=1 from rfl,show IntKind.i64.wrap 2=2 from rfl,show IntKind.i64.wrap 3=3 from rfl]
theorem qtI {a b c:Hd} (hg : ∀ k,qcD (Hd.opts a b c k)) (hsz:(qam false (qaG (Hd.opts a b c))).length<2 ^ 40) :
  Z tQ (.call 231 [.dat (ru a.nd b.nd c.nd)] [])=some (.ret (.str (bs (qam false (qaG (Hd.opts a b c))))) []):=by
 have hb : ∀ {s:Ss} (k:Nat),Hd.opts a b c k=some s->qks s:=fun k h=>qmF ((hg k) _ h).1 ((quT _).1 ((hg k) _ h).1)
 rw[<- qdY] at hsz ⊢
 cases a<;>cases b<;>cases c
 ·exact qtA
 ·refine qtE (hb 2 rfl) ?_ hsz
  simp only[qaG,qdH,Hd.opts,Hd.opt,qb0,onS,qh8,qik,List.nil_append,List.append_nil,List.cons_append,List.append_assoc]
  rfl
 ·refine qtC (hb 1 rfl) ?_ hsz
  simp only[qaG,qdH,Hd.opts,Hd.opt,qb0,onS,qh8,qik,List.nil_append,List.append_nil,List.cons_append,List.append_assoc]
  rfl
 ·refine qtG (hb 1 rfl) (hb 2 rfl) ?_ hsz
  simp only[qaG,qdH,Hd.opts,Hd.opt,qb0,onS,qh8,qik,List.nil_append,List.append_nil,List.cons_append,List.append_assoc]
  rfl
 ·refine qtB (hb 0 rfl) ?_ hsz
  simp only[qaG,qdH,Hd.opts,Hd.opt,qb0,onS,qh8,qik,List.nil_append,List.append_nil,List.cons_append,List.append_assoc]
  rfl
 ·refine qtF (hb 0 rfl) (hb 2 rfl) ?_ hsz
  simp only[qaG,qdH,Hd.opts,Hd.opt,qb0,onS,qh8,qik,List.nil_append,List.append_nil,List.cons_append,List.append_assoc]
  rfl
 ·refine qtD (hb 0 rfl) (hb 1 rfl) ?_ hsz
  simp only[qaG,qdH,Hd.opts,Hd.opt,qb0,onS,qh8,qik,List.nil_append,List.append_nil,List.cons_append,List.append_assoc]
  rfl
 ·refine qtH (hb 0 rfl) (hb 1 rfl) (hb 2 rfl) ?_ hsz
  simp only[qaG,qdH,Hd.opts,Hd.opt,qb0,onS,qh8,qik,List.nil_append,List.append_nil,List.cons_append,List.append_assoc]
  rfl
end Go.Pm
end SOj
section STS
namespace Go.Pm.F
def tS:Nat->Option PFun
 | 20=>some F20
 | 152=>some F152
 | 192=>some F192
 | 193=>some F193
 | 234=>some F234
 | 236=>some F236
 | 246=>some F246
 | 247=>some F247
 | 248=>some F248
 | 261=>some F261
 | 262=>some F262
 | 263=>some F263
 | _=>none
end Go.Pm.F
end STS
section SSa
namespace Go.Pm
open F
set_option maxHeartbeats 4000000
theorem qlF (c:UInt8):Z tS (.call 192 [.dat (.lit (.int .u8 c.toNat))] [])=some (.ret (.bool (qaM c)) []):=by
 refine Z_call (pf:=F192) rfl rfl ?_
 by_cases h1:(97:Int)<=c.toNat
 ·have h1':97<=c.toNat:=by omega
  by_cases h2:(c.toNat:Int)<=122
  ·have h2':c.toNat<=122:=by omega
   simp[F192,qaM,h1,h1',h2,h2']
  ·have h2' : ¬ c.toNat<=122:=by omega
   simp[F192,qaM,h1,h1',h2,h2']
 ·have h1' : ¬ 97<=c.toNat:=by omega
  simp[F192,qaM,h1,h1']
theorem qnr (c:UInt8):Z tS (.call 193 [.dat (.lit (.int .u8 c.toNat))] [])=some (.ret (.bool (qaj c)) []):=by
 refine Z_call (pf:=F193) rfl rfl ?_
 by_cases h1:(48:Int)<=c.toNat
 ·have h1':48<=c.toNat:=by omega
  by_cases h2:(c.toNat:Int)<=57
  ·have h2':c.toNat<=57:=by omega
   simp[F193,qaj,h1,h1',h2,h2']
  ·have h2' : ¬ c.toNat<=57:=by omega
   simp[F193,qaj,h1,h1',h2,h2']
 ·have h1' : ¬ 48<=c.toNat:=by omega
  simp[F193,qaj,h1,h1']
theorem qsd (a b:List UInt8):bs a++bs b=bs (a++b):=by
 apply qko
 simp[byl,bs,ByteArray.data_append]
theorem qdO (a b:ByteArray):a++b=bs (byl a++byl b):=by
 rw[<- qsd,qcL,qcL]
theorem qjy:qak qao ⟨#[]⟩=false:=by rw[qaN]; rfl
theorem qse (a b:ByteArray) (h:a.size+b.size<2 ^ 40):Z tS (.call 262 [.str a,.str b] [])=some (.ret (.str (bs (pw (byl a) [b]))) []):=by
 have hab : ¬ (9223372036854775807:Int)<(a.size:Int)+(b.size:Int):=by omega
 have plain:gap (wl (byl a)) b=[]->bs (pw (byl a) [b])=a++b:=fun hg=>by
  rw[qcE,qdR,hg,List.nil_append,qdO]
 refine Z_call (pf:=F262) rfl rfl ?_
 by_cases ha:a=⟨#[]⟩
 ·rw[plain (by rw[ha]; rfl)]
  have e:eqS a ⟨#[]⟩=true:=by rw[qaX]; simp[ha]
  simp[F262,e,hab]
 ·have ea:eqS a ⟨#[]⟩=false:=by rw[qaX]; simp[ha]
  by_cases hb:b=⟨#[]⟩
  ·rw[plain (by rw[hb,gap,qjy]; simp)]
   have e:eqS b ⟨#[]⟩=true:=by rw[qaX]; simp[hb]
   simp[F262,ea,e,hab]
  ·have eb:eqS b ⟨#[]⟩=false:=by rw[qaX]; simp[hb]
   have nz : ∀ {t:ByteArray},t≠⟨#[]⟩->t.size≠0:=fun {t} h h0=>h (by
    apply qko
    have:(byl t).length=0:=by rw[qar,h0]
    rw[List.eq_nil_of_length_eq_zero this])
   have ha0:=nz ha
   obtain⟨y,hy,hs⟩:=qm2 (nz hb)
   have hx:=ql7 ha0
   have hwl:wl (byl a)=qao (lastC (byl a)):=rfl
   generalize lastC (byl a)=x at *
   have l1:=qlF x
   have l2:=qnr x
   have l3:=qlF y
   have l4:=qnr y
   have w2:=qaf ((a.size:Int)-1) (by omega)
   have w3:((a.size:Int)-1).toNat=a.size-1:=by omega
   have w4:(0:Int)<=(a.size:Int)-1:=by omega
   have w5:(1:Int)<=a.size:=by omega
   by_cases hg:(qao x&&qao y)=true
   ·have hgap:gap (wl (byl a)) b=[32]:=by rw[gap,hwl,hs,if_pos hg]
    have e:bs (pw (byl a) [b])=a++⟨#[32]⟩++b:=by
     rw[qcE,qdR,hgap,qdO,qdO a,qa6]
     simp[byl]
    rw[e]
    have hab2 : ¬ (9223372036854775807:Int)<(a.size:Int)+1:=by omega
    have hab3 : ¬ (9223372036854775807:Int)<(a.size:Int)+1+(b.size:Int):=by omega
    have hsz:(a++⟨#[32]⟩:ByteArray).size=a.size+1:=by rw[ByteArray.size_append]; rfl
    have hsp:(⟨#[32]⟩:ByteArray).size=1:=rfl
    have hsp2:((⟨#[32]⟩:ByteArray).size:Int)=1:=rfl
    unfold qao at hg
    cases h1:qaM x<;>cases h2:qaj x<;>cases h3:qaM y<;>cases h4:qaj y<;>rw[h1,h2,h3,h4] at hg<;>simp at hg<;>rw[h1] at l1<;>rw[h2] at l2<;>rw[h3] at l3<;>rw[h4] at l4 <;>
     simp[F262,ea,eb,hx,hy,l1,l2,l3,l4,w2,w3,w4,w5,hab2,hab3,hsz,hsp,hsp2,V.len]
   ·have hgap:gap (wl (byl a)) b=[]:=by rw[gap,hwl,hs,if_neg hg]
    rw[plain hgap]
    unfold qao at hg
    cases h1:qaM x<;>cases h2:qaj x<;>cases h3:qaM y<;>cases h4:qaj y<;>rw[h1,h2,h3,h4] at hg<;>simp at hg<;>rw[h1] at l1<;>rw[h2] at l2<;>rw[h3] at l3<;>rw[h4] at l4 <;>
     simp[F262,ea,eb,hx,hy,l1,l2,l3,l4,w2,w3,w4,w5,hab,V.len]
theorem qns (fl:Bool) (ts:List ByteArray) (hn:ts.length<2 ^ 30) : ∀ (m i:Nat) (w:List UInt8),i+m=ts.length->(pw w (ts.drop i)).length<2 ^ 40 ->
  Z tS (.loop 0 F247l0 [(0,.dat (.sl (strC ts) ts.length fl)),(3,.str (bs w)),(4,.int i)] [])=some (.out (.exit 0) [(0,.dat (.sl (strC ts) ts.length fl)),(3,.str (bs (pw w (ts.drop i)))),(4,.int ts.length),(8,.bool false)] [])
 | 0,i,w,hi,hsz=>by
  have hi':i=ts.length:=by omega
  subst hi'
  rw[List.drop_length,qdR]
  rw[qaa]
  simp[qac,qjq,V.len]
 | m+1,i,w,hi,hsz=>by
  have hlt:i<ts.length:=by omega
  have hd:ts.drop i=ts[i]::ts.drop (i+1):=List.drop_eq_getElem_cons hlt
  rw[hd,qcE] at hsz ⊢
  have hc:=qfk ts i hlt
  generalize ts[i]=t at *
  have hw0:(w++(gap (wl w) t++byl t)).length<2 ^ 40:=Nat.lt_of_le_of_lt (qjf _ _) hsz
  have ih:=qns fl ts hn m (i+1) (w++(gap (wl w) t++byl t)) (by omega) hsz
  rw[<- ih]
  have z:=qse (bs w) t (by rw[List.length_append,List.length_append,qar] at hw0; rw[qas]; omega)
  rw[qa6,qcE,qdR] at z
  have w1:=qaf ((i:Int)+1) (by omega)
  have hlt':(i:Int)<ts.length:=by omega
  conv=>lhs; rw[qaa]
  generalize bs (w++(gap (wl w) t++byl t))=R at *
  generalize bs w=R0 at *
  simp[qac,qjq,z,hc,w1,hlt',hlt,qah,V.len]
theorem qx3 (fl:Bool) {ts:List ByteArray} {R:ByteArray} (hR:R=bs (pw [] ts)) (hn:ts.length<2 ^ 30) (hsz:R.size<2 ^ 40):Z tS (.call 247 [.dat (.sl (strC ts) ts.length fl)] [])=some (.ret (.str R) []):=by
 subst hR
 have z:=qns fl ts hn ts.length 0 [] (by omega) (by rw[List.drop_zero]; exact hsz)
 rw[List.drop_zero] at z
 simp only[Int.cast_ofNat_Int] at z
 rw[show bs []=⟨#[]⟩ from rfl] at z
 refine Z_call (pf:=F247) rfl rfl ?_
 generalize bs (pw [] ts)=R at *
 simp[F247,z]
theorem qsf (w:List UInt8) {ts:List ByteArray} (h : ∀ t∈ts,t.size≠0):pw w [bs (qam false ts)]=pw w ts:=by
 cases ts with
 | nil=>
  rw[qcE,qdR,qdR,qam]
  have:=qjy
  simp[gap,bs,byl,this]
 | cons t ts=>
  have ht:=h t (List.mem_cons_self ..)
  cases hb:byl t with
  | nil=>exact absurd (by rw[<- qar,hb]; rfl) ht
  | cons c r=>
   have hs:qak qao (bs (qam false (t::ts)))=qak qao t:=by
    rw[qaN,qaN,qa6,qam,hb]
    rfl
   have hg:gap (wl w) (bs (qam false (t::ts)))=gap (wl w) t:=by rw[gap,gap,hs]
   have he:qbu (wl w) t=qbu false t:=by
    unfold qbu
    cases hl:(byl t).getLast? with
    | none=>rw[List.getLast?_eq_none_iff] at hl; rw[hl] at hb; cases hb
    | some c=>rfl
   rw[qcE,qdR,hg,qa6]
   show w++(gap (wl w) t++qam false (t::ts))=w++qam (wl w) (t::ts)
   rw[qam,qam,he]
   rfl
theorem qms (w:List UInt8) {ts:List ByteArray} (h : ∀ t∈ts,t.size≠0) (r:List ByteArray):pw w (bs (qam false ts)::r)=pw w (ts++r):=by
 rw[show bs (qam false ts)::r=[bs (qam false ts)]++r from rfl,qaw,qsf w h,<- qaw]
end Go.Pm
end SSa
