/- Chapter 13's printer: expressions. Chapter 13's printer: statements, each kind. Chapter 13's printer: every row of statements. -/
import Derived.Test.YtjdbkncfebebnaaDoorPmOe
import Derived.Test.YtjdbkncfebebnaaDoorPmYh
set_option linter.unusedSimpArgs false
set_option linter.unusedVariables false
section SOg
namespace Go.Pm
open F
set_option maxHeartbeats 8000000
attribute [local simp] qgJ qi8 dkey
theorem qaj {w w':List UInt8} {ts:List ByteArray} {k:Nat} (hw:w'=pw w ts) (h:w'.length<k):w.length<k:=Nat.lt_of_le_of_lt (by rw[hw]; exact qja w ts) h
def qc2 (e:E) (p:Nat) (i:Int):Prop := ∀ w w',w'=pw w (e.tx false p)->w'.length<2 ^ 40->Z tQ (.call 273 [.ptr 0 0,e.node,.int i] (PW w))=some (.ret (.tup []) (PW w'))
theorem qdb (o:Bop):o.str.size≠0:=by cases o<;>decide
theorem qoo {n:Int} (h0:0<=n) (h1:n<=2147483647):(bs (decB n.toNat)).size≠0:=by
 obtain⟨_,_,c,r,h⟩:=qeY (n:=n.toNat) (by omega)
 rw[qal,h]
 simp
theorem quV {n:Int} (h0:0<=n) (h1:n<=2147483647) {p:Nat} {i:Int} (hi:i=p) (hp:p<=8):qc2 (E.int n) p i:=by
 intro w w' hw hsz
 have zl:Z tQ (.call 282 [.dat (.agg [.lit (.int .i64 8),.lit (.int .i64 n),.lit (.string ⟨#[]⟩),.lit (.slice none 0 0)])] [])=some (.ret (.int 8) []):=qbP (.int n)
 have hc : ¬ (8:Int)<i:=by omega
 have htx:(E.int n).tx false p=[bs (decB n.toNat)]:=by
  have hq : ¬ 8<p:=by omega
  simp[E.tx,qa1,qb9,ustr,bs,qaX,qbM,Bop.left,hq]
 have e1:w'=pw w [bs (decB n.toNat)]:=by rw[hw,htx]
 have s1:=hsz
 have z1:=qa9 e1 (qoo h0 h1) s1
 have f0:=qvc h0 h1
 simp only[PW,PW'] at z1 ⊢
 clear e1 s1 hw htx hsz
 refine Z_call (pf:=F273) rfl rfl ?_
 simp[F273,zl,hc,f0,z1,List.range_succ]
theorem qp6  {p:Nat} {i:Int} (hi:i=p) (hp:p<=8):qc2 (E.bool 0) p i:=by
 intro w w' hw hsz
 have zl:Z tQ (.call 282 [.dat (.agg [.lit (.int .i64 9),.lit (.int .i64 0),.lit (.string ⟨#[]⟩),.lit (.slice none 0 0)])] [])=some (.ret (.int 8) []):=qbP (.bool 0)
 have hc : ¬ (8:Int)<i:=by omega
 have htx:(E.bool 0).tx false p=[⟨#[102,97,108,115,101]⟩]:=by
  have hq : ¬ 8<p:=by omega
  simp[E.tx,qa1,qb9,ustr,bs,qaX,qbM,Bop.left,hq]
 have e1:w'=pw w [⟨#[102,97,108,115,101]⟩]:=by rw[hw,htx]
 have s1:=hsz
 have z1:=qa9 e1 (by decide) s1
 simp only[PW,PW'] at z1 ⊢
 clear e1 s1 hw htx hsz
 refine Z_call (pf:=F273) rfl rfl ?_
 simp[F273,zl,hc,z1,List.range_succ]
theorem qp7  {p:Nat} {i:Int} (hi:i=p) (hp:p<=8):qc2 (E.bool 1) p i:=by
 intro w w' hw hsz
 have zl:Z tQ (.call 282 [.dat (.agg [.lit (.int .i64 9),.lit (.int .i64 1),.lit (.string ⟨#[]⟩),.lit (.slice none 0 0)])] [])=some (.ret (.int 8) []):=qbP (.bool 1)
 have hc : ¬ (8:Int)<i:=by omega
 have htx:(E.bool 1).tx false p=[⟨#[116,114,117,101]⟩]:=by
  have hq : ¬ 8<p:=by omega
  simp[E.tx,qa1,qb9,ustr,bs,qaX,qbM,Bop.left,hq]
 have e1:w'=pw w [⟨#[116,114,117,101]⟩]:=by rw[hw,htx]
 have s1:=hsz
 have z1:=qa9 e1 (by decide) s1
 simp only[PW,PW'] at z1 ⊢
 clear e1 s1 hw htx hsz
 refine Z_call (pf:=F273) rfl rfl ?_
 simp[F273,zl,hc,z1,List.range_succ]
theorem quW {s:ByteArray} (hs:s.size≠0) {p:Nat} {i:Int} (hi:i=p) (hp:p<=8):qc2 (E.var s) p i:=by
 intro w w' hw hsz
 have zl:Z tQ (.call 282 [.dat (.agg [.lit (.int .i64 10),.lit (.int .i64 0),.lit (.string s),.lit (.slice none 0 0)])] [])=some (.ret (.int 8) []):=qbP (.var s)
 have hc : ¬ (8:Int)<i:=by omega
 have htx:(E.var s).tx false p=[s]:=by
  have hq : ¬ 8<p:=by omega
  simp[E.tx,qa1,qb9,ustr,bs,qaX,qbM,Bop.left,hq]
 have e1:w'=pw w [s]:=by rw[hw,htx]
 have s1:=hsz
 have z1:=qa9 e1 (hs) s1
 simp only[PW,PW'] at z1 ⊢
 clear e1 s1 hw htx hsz
 refine Z_call (pf:=F273) rfl rfl ?_
 simp[F273,zl,hc,z1,List.range_succ]
theorem qsy {s:ByteArray} (hs:s.size≠0) {p:Nat} {i:Int} (hi:i=p) (hp:p<=8):qc2 (E.name s) p i:=by
 intro w w' hw hsz
 have zl:Z tQ (.call 282 [.dat (.agg [.lit (.int .i64 12),.lit (.int .i64 0),.lit (.string s),.lit (.slice none 0 0)])] [])=some (.ret (.int 8) []):=qbP (.name s)
 have hc : ¬ (8:Int)<i:=by omega
 have htx:(E.name s).tx false p=[s]:=by
  have hq : ¬ 8<p:=by omega
  simp[E.tx,qa1,qb9,ustr,bs,qaX,qbM,Bop.left,hq]
 have e1:w'=pw w [s]:=by rw[hw,htx]
 have s1:=hsz
 have z1:=qa9 e1 (hs) s1
 simp only[PW,PW'] at z1 ⊢
 clear e1 s1 hw htx hsz
 refine Z_call (pf:=F273) rfl rfl ?_
 simp[F273,zl,hc,z1,List.range_succ]
theorem qp8 {f:Bool} {s:ByteArray} {e:E} (hs:s.size≠0) (he:qc2 e 1 1) {p:Nat} {i:Int} (hi:i=p) (hp:p<=8):qc2 (E.field f s e) p i:=by
 intro w w' hw hsz
 have zl:Z tQ (.call 282 [.dat (.agg [.lit (.int .i64 11),.lit (.int .i64 0),.lit (.string s),.sl [.lit (.int .i64 e.kind),.lit (.int .i64 e.num),.lit (.string e.str),e.kids] 1 f])] [])=some (.ret (.int 8) []):=qbP (.field f s e)
 have hc : ¬ (8:Int)<i:=by omega
 have htx:(E.field f s e).tx false p=[s,⟨#[91]⟩]++((e.tx false 1)++([⟨#[93]⟩])):=by
  have hq : ¬ 8<p:=by omega
  simp[E.tx,qa1,qb9,ustr,bs,qaX,qbM,Bop.left,hq]
 obtain⟨w1,e1⟩ : ∃ x,x=pw w [s,⟨#[91]⟩]:=⟨_,rfl⟩
 obtain⟨w2,e2⟩ : ∃ x,x=pw w1 (e.tx false 1):=⟨_,rfl⟩
 have e3:w'=pw w2 [⟨#[93]⟩]:=by rw[hw,htx,qao,<- e1,qao,<- e2]
 have s3:=hsz
 have s2:=qaj e3 s3
 have s1:=qaj e2 s2
 have z1:=qfC e1 (hs) (by decide) s1
 have z2:=he w1 w2 e2 s2
 have z3:=qa9 e3 (by decide) s3
 have f0:=qcy (k:=11) (n:=0) (s:=s) (a:=e.kind) (b:=e.num) (t:=e.str) (u:=e.kids) (r:=[]) (m:=1) (f:=f) (by omega) (by omega) (qaC e)
 simp only[PW,PW'] at z1 z2 z3 ⊢
 clear e1 e2 e3 s1 s2 s3 hw htx hsz
 refine Z_call (pf:=F273) rfl rfl ?_
 simp[F273,zl,hc,f0,z1,z2,z3,List.range_succ]
theorem quX {f:Bool} {e:E} (he:qc2 e 7 7) {p:Nat} {i:Int} (hi:i=p) (hp:p<=7):qc2 (E.un f true e) p i:=by
 intro w w' hw hsz
 have zl:Z tQ (.call 282 [.dat (.agg [.lit (.int .i64 13),.lit (.int .i64 0),.lit (.string ⟨#[45]⟩),.sl [.lit (.int .i64 e.kind),.lit (.int .i64 e.num),.lit (.string e.str),e.kids] 1 f])] [])=some (.ret (.int 7) []):=qbP (.un f true e)
 have hc : ¬ (7:Int)<i:=by omega
 have htx:(E.un f true e).tx false p=[⟨#[45]⟩]++((e.tx false 7)):=by
  have hq : ¬ 7<p:=by omega
  simp[E.tx,qa1,qb9,ustr,bs,qaX,qbM,Bop.left,hq]
 obtain⟨w1,e1⟩ : ∃ x,x=pw w [⟨#[45]⟩]:=⟨_,rfl⟩
 have e2:w'=pw w1 (e.tx false 7):=by rw[hw,htx,qao,<- e1]
 have s2:=hsz
 have s1:=qaj e2 s2
 have z1:=qa9 e1 (by decide) s1
 have z2:=he w1 w' e2 s2
 have f0:=qcy (k:=13) (n:=0) (s:=⟨#[45]⟩) (a:=e.kind) (b:=e.num) (t:=e.str) (u:=e.kids) (r:=[]) (m:=1) (f:=f) (by omega) (by omega) (qaC e)
 simp only[PW,PW'] at z1 z2 ⊢
 clear e1 e2 s1 s2 hw htx hsz
 refine Z_call (pf:=F273) rfl rfl ?_
 simp[F273,zl,hc,f0,z1,z2,List.range_succ,ustr]
theorem qsz {f:Bool} {e:E} (he:qc2 e 7 7) {p:Nat} {i:Int} (hi:i=p) (hp:7<p):qc2 (E.un f true e) p i:=by
 intro w w' hw hsz
 have zl:Z tQ (.call 282 [.dat (.agg [.lit (.int .i64 13),.lit (.int .i64 0),.lit (.string ⟨#[45]⟩),.sl [.lit (.int .i64 e.kind),.lit (.int .i64 e.num),.lit (.string e.str),e.kids] 1 f])] [])=some (.ret (.int 7) []):=qbP (.un f true e)
 have hc:(7:Int)<i:=by omega
 have htx:(E.un f true e).tx false p=[⟨#[40]⟩]++([⟨#[45]⟩]++((e.tx false 7)++([⟨#[41]⟩]))):=by
  have hq:7<p:=hp
  simp[E.tx,qa1,qb9,ustr,bs,qaX,qbM,Bop.left,hq]
 obtain⟨w1,e1⟩ : ∃ x,x=pw w [⟨#[40]⟩]:=⟨_,rfl⟩
 obtain⟨w2,e2⟩ : ∃ x,x=pw w1 [⟨#[45]⟩]:=⟨_,rfl⟩
 obtain⟨w3,e3⟩ : ∃ x,x=pw w2 (e.tx false 7):=⟨_,rfl⟩
 have e4:w'=pw w3 [⟨#[41]⟩]:=by rw[hw,htx,qao,<- e1,qao,<- e2,qao,<- e3]
 have s4:=hsz
 have s3:=qaj e4 s4
 have s2:=qaj e3 s3
 have s1:=qaj e2 s2
 have z1:=qa9 e1 (by decide) s1
 have z2:=qa9 e2 (by decide) s2
 have z3:=he w2 w3 e3 s3
 have z4:=qfS e4 (by decide) s4
 have f0:=qcy (k:=13) (n:=0) (s:=⟨#[45]⟩) (a:=e.kind) (b:=e.num) (t:=e.str) (u:=e.kids) (r:=[]) (m:=1) (f:=f) (by omega) (by omega) (qaC e)
 simp only[PW,PW'] at z1 z2 z3 z4 ⊢
 clear e1 e2 e3 e4 s1 s2 s3 s4 hw htx hsz
 refine Z_call (pf:=F273) rfl rfl ?_
 simp[F273,zl,hc,f0,z1,z2,z3,z4,List.range_succ,ustr]
theorem quY {f:Bool} {e:E} (he:qc2 e 3 3) {p:Nat} {i:Int} (hi:i=p) (hp:p<=3):qc2 (E.un f false e) p i:=by
 intro w w' hw hsz
 have zl:Z tQ (.call 282 [.dat (.agg [.lit (.int .i64 13),.lit (.int .i64 0),.lit (.string ⟨#[33]⟩),.sl [.lit (.int .i64 e.kind),.lit (.int .i64 e.num),.lit (.string e.str),e.kids] 1 f])] [])=some (.ret (.int 3) []):=qbP (.un f false e)
 have hc : ¬ (3:Int)<i:=by omega
 have htx:(E.un f false e).tx false p=[⟨#[33]⟩]++((e.tx false 3)):=by
  have hq : ¬ 3<p:=by omega
  simp[E.tx,qa1,qb9,ustr,bs,qaX,qbM,Bop.left,hq]
 obtain⟨w1,e1⟩ : ∃ x,x=pw w [⟨#[33]⟩]:=⟨_,rfl⟩
 have e2:w'=pw w1 (e.tx false 3):=by rw[hw,htx,qao,<- e1]
 have s2:=hsz
 have s1:=qaj e2 s2
 have z1:=qa9 e1 (by decide) s1
 have z2:=he w1 w' e2 s2
 have f0:=qcy (k:=13) (n:=0) (s:=⟨#[33]⟩) (a:=e.kind) (b:=e.num) (t:=e.str) (u:=e.kids) (r:=[]) (m:=1) (f:=f) (by omega) (by omega) (qaC e)
 simp only[PW,PW'] at z1 z2 ⊢
 clear e1 e2 s1 s2 hw htx hsz
 refine Z_call (pf:=F273) rfl rfl ?_
 simp[F273,zl,hc,f0,z1,z2,List.range_succ,ustr]
theorem qsA {f:Bool} {e:E} (he:qc2 e 3 3) {p:Nat} {i:Int} (hi:i=p) (hp:3<p):qc2 (E.un f false e) p i:=by
 intro w w' hw hsz
 have zl:Z tQ (.call 282 [.dat (.agg [.lit (.int .i64 13),.lit (.int .i64 0),.lit (.string ⟨#[33]⟩),.sl [.lit (.int .i64 e.kind),.lit (.int .i64 e.num),.lit (.string e.str),e.kids] 1 f])] [])=some (.ret (.int 3) []):=qbP (.un f false e)
 have hc:(3:Int)<i:=by omega
 have htx:(E.un f false e).tx false p=[⟨#[40]⟩]++([⟨#[33]⟩]++((e.tx false 3)++([⟨#[41]⟩]))):=by
  have hq:3<p:=hp
  simp[E.tx,qa1,qb9,ustr,bs,qaX,qbM,Bop.left,hq]
 obtain⟨w1,e1⟩ : ∃ x,x=pw w [⟨#[40]⟩]:=⟨_,rfl⟩
 obtain⟨w2,e2⟩ : ∃ x,x=pw w1 [⟨#[33]⟩]:=⟨_,rfl⟩
 obtain⟨w3,e3⟩ : ∃ x,x=pw w2 (e.tx false 3):=⟨_,rfl⟩
 have e4:w'=pw w3 [⟨#[41]⟩]:=by rw[hw,htx,qao,<- e1,qao,<- e2,qao,<- e3]
 have s4:=hsz
 have s3:=qaj e4 s4
 have s2:=qaj e3 s3
 have s1:=qaj e2 s2
 have z1:=qa9 e1 (by decide) s1
 have z2:=qa9 e2 (by decide) s2
 have z3:=he w2 w3 e3 s3
 have z4:=qfS e4 (by decide) s4
 have f0:=qcy (k:=13) (n:=0) (s:=⟨#[33]⟩) (a:=e.kind) (b:=e.num) (t:=e.str) (u:=e.kids) (r:=[]) (m:=1) (f:=f) (by omega) (by omega) (qaC e)
 simp only[PW,PW'] at z1 z2 z3 z4 ⊢
 clear e1 e2 e3 e4 s1 s2 s3 s4 hw htx hsz
 refine Z_call (pf:=F273) rfl rfl ?_
 simp[F273,zl,hc,f0,z1,z2,z3,z4,List.range_succ,ustr]
theorem qsB {f:Bool} {o:Bop} {a b:E} (hl:o.prec=1) (ha:qc2 a 1 1) (hb:qc2 b 2 2) {p:Nat} {i:Int} (hi:i=p) (hp:p<=1):qc2 (E.bin f o a b) p i:=by
 intro w w' hw hsz
 have zl:Z tQ (.call 282 [.dat (.agg [.lit (.int .i64 14),.lit (.int .i64 0),.lit (.string o.str),.sl [.lit (.int .i64 a.kind),.lit (.int .i64 a.num),.lit (.string a.str),a.kids,.lit (.int .i64 b.kind),.lit (.int .i64 b.num),.lit (.string b.str),b.kids] 2 f])] [])=some (.ret (.int 1) []):=by
  have:=qbP (.bin f o a b)
  rw[show E.lev (.bin f o a b)=1 from hl] at this
  exact this
 have hc : ¬ (1:Int)<i:=by omega
 have htx:(E.bin f o a b).tx false p=(a.tx false 1)++([o.str]++((b.tx false 2))):=by
  have hq : ¬ 1<p:=by omega
  simp[E.tx,qa1,qb9,ustr,bs,qaX,qbM,Bop.left,hq,hl]
 obtain⟨w1,e1⟩ : ∃ x,x=pw w (a.tx false 1):=⟨_,rfl⟩
 obtain⟨w2,e2⟩ : ∃ x,x=pw w1 [o.str]:=⟨_,rfl⟩
 have e3:w'=pw w2 (b.tx false 2):=by rw[hw,htx,qao,<- e1,qao,<- e2]
 have s3:=hsz
 have s2:=qaj e3 s3
 have s1:=qaj e2 s2
 have z1:=ha w w1 e1 s1
 have z2:=qa9 e2 (qdb o) s2
 have z3:=hb w2 w' e3 s3
 have f0:=qcy (k:=14) (n:=0) (s:=o.str) (a:=a.kind) (b:=a.num) (t:=a.str) (u:=a.kids) (r:=[.lit (.int .i64 b.kind),.lit (.int .i64 b.num),.lit (.string b.str),b.kids]) (m:=2) (f:=f) (by omega) (by omega) (qaC a)
 have f1:=qdR (k:=14) (n:=0) (s:=o.str) (x0 := .lit (.int .i64 a.kind)) (x1 := .lit (.int .i64 a.num)) (x2 := .lit (.string a.str)) (x3:=a.kids) (a:=b.kind) (b:=b.num) (t:=b.str) (u:=b.kids) (r:=[]) (m:=2) (f:=f) (by omega) (by omega) (qaC b)
 simp only[PW,PW'] at z1 z2 z3 ⊢
 clear e1 e2 e3 s1 s2 s3 hw htx hsz
 refine Z_call (pf:=F273) rfl rfl ?_
 simp[F273,zl,hc,f0,f1,z1,z2,z3,List.range_succ,qai 2 (by omega)]
theorem qp9 {f:Bool} {o:Bop} {a b:E} (hl:o.prec=1) (ha:qc2 a 1 1) (hb:qc2 b 2 2) {p:Nat} {i:Int} (hi:i=p) (hp:1<p):qc2 (E.bin f o a b) p i:=by
 intro w w' hw hsz
 have zl:Z tQ (.call 282 [.dat (.agg [.lit (.int .i64 14),.lit (.int .i64 0),.lit (.string o.str),.sl [.lit (.int .i64 a.kind),.lit (.int .i64 a.num),.lit (.string a.str),a.kids,.lit (.int .i64 b.kind),.lit (.int .i64 b.num),.lit (.string b.str),b.kids] 2 f])] [])=some (.ret (.int 1) []):=by
  have:=qbP (.bin f o a b)
  rw[show E.lev (.bin f o a b)=1 from hl] at this
  exact this
 have hc:(1:Int)<i:=by omega
 have htx:(E.bin f o a b).tx false p=[⟨#[40]⟩]++((a.tx false 1)++([o.str]++((b.tx false 2)++([⟨#[41]⟩])))):=by
  have hq:1<p:=hp
  simp[E.tx,qa1,qb9,ustr,bs,qaX,qbM,Bop.left,hq,hl]
 obtain⟨w1,e1⟩ : ∃ x,x=pw w [⟨#[40]⟩]:=⟨_,rfl⟩
 obtain⟨w2,e2⟩ : ∃ x,x=pw w1 (a.tx false 1):=⟨_,rfl⟩
 obtain⟨w3,e3⟩ : ∃ x,x=pw w2 [o.str]:=⟨_,rfl⟩
 obtain⟨w4,e4⟩ : ∃ x,x=pw w3 (b.tx false 2):=⟨_,rfl⟩
 have e5:w'=pw w4 [⟨#[41]⟩]:=by rw[hw,htx,qao,<- e1,qao,<- e2,qao,<- e3,qao,<- e4]
 have s5:=hsz
 have s4:=qaj e5 s5
 have s3:=qaj e4 s4
 have s2:=qaj e3 s3
 have s1:=qaj e2 s2
 have z1:=qa9 e1 (by decide) s1
 have z2:=ha w1 w2 e2 s2
 have z3:=qa9 e3 (qdb o) s3
 have z4:=hb w3 w4 e4 s4
 have z5:=qfS e5 (by decide) s5
 have f0:=qcy (k:=14) (n:=0) (s:=o.str) (a:=a.kind) (b:=a.num) (t:=a.str) (u:=a.kids) (r:=[.lit (.int .i64 b.kind),.lit (.int .i64 b.num),.lit (.string b.str),b.kids]) (m:=2) (f:=f) (by omega) (by omega) (qaC a)
 have f1:=qdR (k:=14) (n:=0) (s:=o.str) (x0 := .lit (.int .i64 a.kind)) (x1 := .lit (.int .i64 a.num)) (x2 := .lit (.string a.str)) (x3:=a.kids) (a:=b.kind) (b:=b.num) (t:=b.str) (u:=b.kids) (r:=[]) (m:=2) (f:=f) (by omega) (by omega) (qaC b)
 simp only[PW,PW'] at z1 z2 z3 z4 z5 ⊢
 clear e1 e2 e3 e4 e5 s1 s2 s3 s4 s5 hw htx hsz
 refine Z_call (pf:=F273) rfl rfl ?_
 simp[F273,zl,hc,f0,f1,z1,z2,z3,z4,z5,List.range_succ,qai 2 (by omega)]
theorem qsC {f:Bool} {o:Bop} {a b:E} (hl:o.prec=2) (ha:qc2 a 2 2) (hb:qc2 b 3 3) {p:Nat} {i:Int} (hi:i=p) (hp:p<=2):qc2 (E.bin f o a b) p i:=by
 intro w w' hw hsz
 have zl:Z tQ (.call 282 [.dat (.agg [.lit (.int .i64 14),.lit (.int .i64 0),.lit (.string o.str),.sl [.lit (.int .i64 a.kind),.lit (.int .i64 a.num),.lit (.string a.str),a.kids,.lit (.int .i64 b.kind),.lit (.int .i64 b.num),.lit (.string b.str),b.kids] 2 f])] [])=some (.ret (.int 2) []):=by
  have:=qbP (.bin f o a b)
  rw[show E.lev (.bin f o a b)=2 from hl] at this
  exact this
 have hc : ¬ (2:Int)<i:=by omega
 have htx:(E.bin f o a b).tx false p=(a.tx false 2)++([o.str]++((b.tx false 3))):=by
  have hq : ¬ 2<p:=by omega
  simp[E.tx,qa1,qb9,ustr,bs,qaX,qbM,Bop.left,hq,hl]
 obtain⟨w1,e1⟩ : ∃ x,x=pw w (a.tx false 2):=⟨_,rfl⟩
 obtain⟨w2,e2⟩ : ∃ x,x=pw w1 [o.str]:=⟨_,rfl⟩
 have e3:w'=pw w2 (b.tx false 3):=by rw[hw,htx,qao,<- e1,qao,<- e2]
 have s3:=hsz
 have s2:=qaj e3 s3
 have s1:=qaj e2 s2
 have z1:=ha w w1 e1 s1
 have z2:=qa9 e2 (qdb o) s2
 have z3:=hb w2 w' e3 s3
 have f0:=qcy (k:=14) (n:=0) (s:=o.str) (a:=a.kind) (b:=a.num) (t:=a.str) (u:=a.kids) (r:=[.lit (.int .i64 b.kind),.lit (.int .i64 b.num),.lit (.string b.str),b.kids]) (m:=2) (f:=f) (by omega) (by omega) (qaC a)
 have f1:=qdR (k:=14) (n:=0) (s:=o.str) (x0 := .lit (.int .i64 a.kind)) (x1 := .lit (.int .i64 a.num)) (x2 := .lit (.string a.str)) (x3:=a.kids) (a:=b.kind) (b:=b.num) (t:=b.str) (u:=b.kids) (r:=[]) (m:=2) (f:=f) (by omega) (by omega) (qaC b)
 simp only[PW,PW'] at z1 z2 z3 ⊢
 clear e1 e2 e3 s1 s2 s3 hw htx hsz
 refine Z_call (pf:=F273) rfl rfl ?_
 simp[F273,zl,hc,f0,f1,z1,z2,z3,List.range_succ,qai 3 (by omega)]
theorem qqa {f:Bool} {o:Bop} {a b:E} (hl:o.prec=2) (ha:qc2 a 2 2) (hb:qc2 b 3 3) {p:Nat} {i:Int} (hi:i=p) (hp:2<p):qc2 (E.bin f o a b) p i:=by
 intro w w' hw hsz
 have zl:Z tQ (.call 282 [.dat (.agg [.lit (.int .i64 14),.lit (.int .i64 0),.lit (.string o.str),.sl [.lit (.int .i64 a.kind),.lit (.int .i64 a.num),.lit (.string a.str),a.kids,.lit (.int .i64 b.kind),.lit (.int .i64 b.num),.lit (.string b.str),b.kids] 2 f])] [])=some (.ret (.int 2) []):=by
  have:=qbP (.bin f o a b)
  rw[show E.lev (.bin f o a b)=2 from hl] at this
  exact this
 have hc:(2:Int)<i:=by omega
 have htx:(E.bin f o a b).tx false p=[⟨#[40]⟩]++((a.tx false 2)++([o.str]++((b.tx false 3)++([⟨#[41]⟩])))):=by
  have hq:2<p:=hp
  simp[E.tx,qa1,qb9,ustr,bs,qaX,qbM,Bop.left,hq,hl]
 obtain⟨w1,e1⟩ : ∃ x,x=pw w [⟨#[40]⟩]:=⟨_,rfl⟩
 obtain⟨w2,e2⟩ : ∃ x,x=pw w1 (a.tx false 2):=⟨_,rfl⟩
 obtain⟨w3,e3⟩ : ∃ x,x=pw w2 [o.str]:=⟨_,rfl⟩
 obtain⟨w4,e4⟩ : ∃ x,x=pw w3 (b.tx false 3):=⟨_,rfl⟩
 have e5:w'=pw w4 [⟨#[41]⟩]:=by rw[hw,htx,qao,<- e1,qao,<- e2,qao,<- e3,qao,<- e4]
 have s5:=hsz
 have s4:=qaj e5 s5
 have s3:=qaj e4 s4
 have s2:=qaj e3 s3
 have s1:=qaj e2 s2
 have z1:=qa9 e1 (by decide) s1
 have z2:=ha w1 w2 e2 s2
 have z3:=qa9 e3 (qdb o) s3
 have z4:=hb w3 w4 e4 s4
 have z5:=qfS e5 (by decide) s5
 have f0:=qcy (k:=14) (n:=0) (s:=o.str) (a:=a.kind) (b:=a.num) (t:=a.str) (u:=a.kids) (r:=[.lit (.int .i64 b.kind),.lit (.int .i64 b.num),.lit (.string b.str),b.kids]) (m:=2) (f:=f) (by omega) (by omega) (qaC a)
 have f1:=qdR (k:=14) (n:=0) (s:=o.str) (x0 := .lit (.int .i64 a.kind)) (x1 := .lit (.int .i64 a.num)) (x2 := .lit (.string a.str)) (x3:=a.kids) (a:=b.kind) (b:=b.num) (t:=b.str) (u:=b.kids) (r:=[]) (m:=2) (f:=f) (by omega) (by omega) (qaC b)
 simp only[PW,PW'] at z1 z2 z3 z4 z5 ⊢
 clear e1 e2 e3 e4 e5 s1 s2 s3 s4 s5 hw htx hsz
 refine Z_call (pf:=F273) rfl rfl ?_
 simp[F273,zl,hc,f0,f1,z1,z2,z3,z4,z5,List.range_succ,qai 3 (by omega)]
theorem qsD {f:Bool} {o:Bop} {a b:E} (hl:o.prec=4) (ha:qc2 a 5 5) (hb:qc2 b 5 5) {p:Nat} {i:Int} (hi:i=p) (hp:p<=4):qc2 (E.bin f o a b) p i:=by
 intro w w' hw hsz
 have zl:Z tQ (.call 282 [.dat (.agg [.lit (.int .i64 14),.lit (.int .i64 0),.lit (.string o.str),.sl [.lit (.int .i64 a.kind),.lit (.int .i64 a.num),.lit (.string a.str),a.kids,.lit (.int .i64 b.kind),.lit (.int .i64 b.num),.lit (.string b.str),b.kids] 2 f])] [])=some (.ret (.int 4) []):=by
  have:=qbP (.bin f o a b)
  rw[show E.lev (.bin f o a b)=4 from hl] at this
  exact this
 have hc : ¬ (4:Int)<i:=by omega
 have htx:(E.bin f o a b).tx false p=(a.tx false 5)++([o.str]++((b.tx false 5))):=by
  have hq : ¬ 4<p:=by omega
  simp[E.tx,qa1,qb9,ustr,bs,qaX,qbM,Bop.left,hq,hl]
 obtain⟨w1,e1⟩ : ∃ x,x=pw w (a.tx false 5):=⟨_,rfl⟩
 obtain⟨w2,e2⟩ : ∃ x,x=pw w1 [o.str]:=⟨_,rfl⟩
 have e3:w'=pw w2 (b.tx false 5):=by rw[hw,htx,qao,<- e1,qao,<- e2]
 have s3:=hsz
 have s2:=qaj e3 s3
 have s1:=qaj e2 s2
 have z1:=ha w w1 e1 s1
 have z2:=qa9 e2 (qdb o) s2
 have z3:=hb w2 w' e3 s3
 have f0:=qcy (k:=14) (n:=0) (s:=o.str) (a:=a.kind) (b:=a.num) (t:=a.str) (u:=a.kids) (r:=[.lit (.int .i64 b.kind),.lit (.int .i64 b.num),.lit (.string b.str),b.kids]) (m:=2) (f:=f) (by omega) (by omega) (qaC a)
 have f1:=qdR (k:=14) (n:=0) (s:=o.str) (x0 := .lit (.int .i64 a.kind)) (x1 := .lit (.int .i64 a.num)) (x2 := .lit (.string a.str)) (x3:=a.kids) (a:=b.kind) (b:=b.num) (t:=b.str) (u:=b.kids) (r:=[]) (m:=2) (f:=f) (by omega) (by omega) (qaC b)
 simp only[PW,PW'] at z1 z2 z3 ⊢
 clear e1 e2 e3 s1 s2 s3 hw htx hsz
 refine Z_call (pf:=F273) rfl rfl ?_
 simp[F273,zl,hc,f0,f1,z1,z2,z3,List.range_succ,qai 5 (by omega)]
theorem qqb {f:Bool} {o:Bop} {a b:E} (hl:o.prec=4) (ha:qc2 a 5 5) (hb:qc2 b 5 5) {p:Nat} {i:Int} (hi:i=p) (hp:4<p):qc2 (E.bin f o a b) p i:=by
 intro w w' hw hsz
 have zl:Z tQ (.call 282 [.dat (.agg [.lit (.int .i64 14),.lit (.int .i64 0),.lit (.string o.str),.sl [.lit (.int .i64 a.kind),.lit (.int .i64 a.num),.lit (.string a.str),a.kids,.lit (.int .i64 b.kind),.lit (.int .i64 b.num),.lit (.string b.str),b.kids] 2 f])] [])=some (.ret (.int 4) []):=by
  have:=qbP (.bin f o a b)
  rw[show E.lev (.bin f o a b)=4 from hl] at this
  exact this
 have hc:(4:Int)<i:=by omega
 have htx:(E.bin f o a b).tx false p=[⟨#[40]⟩]++((a.tx false 5)++([o.str]++((b.tx false 5)++([⟨#[41]⟩])))):=by
  have hq:4<p:=hp
  simp[E.tx,qa1,qb9,ustr,bs,qaX,qbM,Bop.left,hq,hl]
 obtain⟨w1,e1⟩ : ∃ x,x=pw w [⟨#[40]⟩]:=⟨_,rfl⟩
 obtain⟨w2,e2⟩ : ∃ x,x=pw w1 (a.tx false 5):=⟨_,rfl⟩
 obtain⟨w3,e3⟩ : ∃ x,x=pw w2 [o.str]:=⟨_,rfl⟩
 obtain⟨w4,e4⟩ : ∃ x,x=pw w3 (b.tx false 5):=⟨_,rfl⟩
 have e5:w'=pw w4 [⟨#[41]⟩]:=by rw[hw,htx,qao,<- e1,qao,<- e2,qao,<- e3,qao,<- e4]
 have s5:=hsz
 have s4:=qaj e5 s5
 have s3:=qaj e4 s4
 have s2:=qaj e3 s3
 have s1:=qaj e2 s2
 have z1:=qa9 e1 (by decide) s1
 have z2:=ha w1 w2 e2 s2
 have z3:=qa9 e3 (qdb o) s3
 have z4:=hb w3 w4 e4 s4
 have z5:=qfS e5 (by decide) s5
 have f0:=qcy (k:=14) (n:=0) (s:=o.str) (a:=a.kind) (b:=a.num) (t:=a.str) (u:=a.kids) (r:=[.lit (.int .i64 b.kind),.lit (.int .i64 b.num),.lit (.string b.str),b.kids]) (m:=2) (f:=f) (by omega) (by omega) (qaC a)
 have f1:=qdR (k:=14) (n:=0) (s:=o.str) (x0 := .lit (.int .i64 a.kind)) (x1 := .lit (.int .i64 a.num)) (x2 := .lit (.string a.str)) (x3:=a.kids) (a:=b.kind) (b:=b.num) (t:=b.str) (u:=b.kids) (r:=[]) (m:=2) (f:=f) (by omega) (by omega) (qaC b)
 simp only[PW,PW'] at z1 z2 z3 z4 z5 ⊢
 clear e1 e2 e3 e4 e5 s1 s2 s3 s4 s5 hw htx hsz
 refine Z_call (pf:=F273) rfl rfl ?_
 simp[F273,zl,hc,f0,f1,z1,z2,z3,z4,z5,List.range_succ,qai 5 (by omega)]
theorem qsE {f:Bool} {o:Bop} {a b:E} (hl:o.prec=5) (ha:qc2 a 5 5) (hb:qc2 b 6 6) {p:Nat} {i:Int} (hi:i=p) (hp:p<=5):qc2 (E.bin f o a b) p i:=by
 intro w w' hw hsz
 have zl:Z tQ (.call 282 [.dat (.agg [.lit (.int .i64 14),.lit (.int .i64 0),.lit (.string o.str),.sl [.lit (.int .i64 a.kind),.lit (.int .i64 a.num),.lit (.string a.str),a.kids,.lit (.int .i64 b.kind),.lit (.int .i64 b.num),.lit (.string b.str),b.kids] 2 f])] [])=some (.ret (.int 5) []):=by
  have:=qbP (.bin f o a b)
  rw[show E.lev (.bin f o a b)=5 from hl] at this
  exact this
 have hc : ¬ (5:Int)<i:=by omega
 have htx:(E.bin f o a b).tx false p=(a.tx false 5)++([o.str]++((b.tx false 6))):=by
  have hq : ¬ 5<p:=by omega
  simp[E.tx,qa1,qb9,ustr,bs,qaX,qbM,Bop.left,hq,hl]
 obtain⟨w1,e1⟩ : ∃ x,x=pw w (a.tx false 5):=⟨_,rfl⟩
 obtain⟨w2,e2⟩ : ∃ x,x=pw w1 [o.str]:=⟨_,rfl⟩
 have e3:w'=pw w2 (b.tx false 6):=by rw[hw,htx,qao,<- e1,qao,<- e2]
 have s3:=hsz
 have s2:=qaj e3 s3
 have s1:=qaj e2 s2
 have z1:=ha w w1 e1 s1
 have z2:=qa9 e2 (qdb o) s2
 have z3:=hb w2 w' e3 s3
 have f0:=qcy (k:=14) (n:=0) (s:=o.str) (a:=a.kind) (b:=a.num) (t:=a.str) (u:=a.kids) (r:=[.lit (.int .i64 b.kind),.lit (.int .i64 b.num),.lit (.string b.str),b.kids]) (m:=2) (f:=f) (by omega) (by omega) (qaC a)
 have f1:=qdR (k:=14) (n:=0) (s:=o.str) (x0 := .lit (.int .i64 a.kind)) (x1 := .lit (.int .i64 a.num)) (x2 := .lit (.string a.str)) (x3:=a.kids) (a:=b.kind) (b:=b.num) (t:=b.str) (u:=b.kids) (r:=[]) (m:=2) (f:=f) (by omega) (by omega) (qaC b)
 simp only[PW,PW'] at z1 z2 z3 ⊢
 clear e1 e2 e3 s1 s2 s3 hw htx hsz
 refine Z_call (pf:=F273) rfl rfl ?_
 simp[F273,zl,hc,f0,f1,z1,z2,z3,List.range_succ,qai 6 (by omega)]
theorem qqc {f:Bool} {o:Bop} {a b:E} (hl:o.prec=5) (ha:qc2 a 5 5) (hb:qc2 b 6 6) {p:Nat} {i:Int} (hi:i=p) (hp:5<p):qc2 (E.bin f o a b) p i:=by
 intro w w' hw hsz
 have zl:Z tQ (.call 282 [.dat (.agg [.lit (.int .i64 14),.lit (.int .i64 0),.lit (.string o.str),.sl [.lit (.int .i64 a.kind),.lit (.int .i64 a.num),.lit (.string a.str),a.kids,.lit (.int .i64 b.kind),.lit (.int .i64 b.num),.lit (.string b.str),b.kids] 2 f])] [])=some (.ret (.int 5) []):=by
  have:=qbP (.bin f o a b)
  rw[show E.lev (.bin f o a b)=5 from hl] at this
  exact this
 have hc:(5:Int)<i:=by omega
 have htx:(E.bin f o a b).tx false p=[⟨#[40]⟩]++((a.tx false 5)++([o.str]++((b.tx false 6)++([⟨#[41]⟩])))):=by
  have hq:5<p:=hp
  simp[E.tx,qa1,qb9,ustr,bs,qaX,qbM,Bop.left,hq,hl]
 obtain⟨w1,e1⟩ : ∃ x,x=pw w [⟨#[40]⟩]:=⟨_,rfl⟩
 obtain⟨w2,e2⟩ : ∃ x,x=pw w1 (a.tx false 5):=⟨_,rfl⟩
 obtain⟨w3,e3⟩ : ∃ x,x=pw w2 [o.str]:=⟨_,rfl⟩
 obtain⟨w4,e4⟩ : ∃ x,x=pw w3 (b.tx false 6):=⟨_,rfl⟩
 have e5:w'=pw w4 [⟨#[41]⟩]:=by rw[hw,htx,qao,<- e1,qao,<- e2,qao,<- e3,qao,<- e4]
 have s5:=hsz
 have s4:=qaj e5 s5
 have s3:=qaj e4 s4
 have s2:=qaj e3 s3
 have s1:=qaj e2 s2
 have z1:=qa9 e1 (by decide) s1
 have z2:=ha w1 w2 e2 s2
 have z3:=qa9 e3 (qdb o) s3
 have z4:=hb w3 w4 e4 s4
 have z5:=qfS e5 (by decide) s5
 have f0:=qcy (k:=14) (n:=0) (s:=o.str) (a:=a.kind) (b:=a.num) (t:=a.str) (u:=a.kids) (r:=[.lit (.int .i64 b.kind),.lit (.int .i64 b.num),.lit (.string b.str),b.kids]) (m:=2) (f:=f) (by omega) (by omega) (qaC a)
 have f1:=qdR (k:=14) (n:=0) (s:=o.str) (x0 := .lit (.int .i64 a.kind)) (x1 := .lit (.int .i64 a.num)) (x2 := .lit (.string a.str)) (x3:=a.kids) (a:=b.kind) (b:=b.num) (t:=b.str) (u:=b.kids) (r:=[]) (m:=2) (f:=f) (by omega) (by omega) (qaC b)
 simp only[PW,PW'] at z1 z2 z3 z4 z5 ⊢
 clear e1 e2 e3 e4 e5 s1 s2 s3 s4 s5 hw htx hsz
 refine Z_call (pf:=F273) rfl rfl ?_
 simp[F273,zl,hc,f0,f1,z1,z2,z3,z4,z5,List.range_succ,qai 6 (by omega)]
theorem qsF {f:Bool} {o:Bop} {a b:E} (hl:o.prec=6) (ha:qc2 a 6 6) (hb:qc2 b 7 7) {p:Nat} {i:Int} (hi:i=p) (hp:p<=6):qc2 (E.bin f o a b) p i:=by
 intro w w' hw hsz
 have zl:Z tQ (.call 282 [.dat (.agg [.lit (.int .i64 14),.lit (.int .i64 0),.lit (.string o.str),.sl [.lit (.int .i64 a.kind),.lit (.int .i64 a.num),.lit (.string a.str),a.kids,.lit (.int .i64 b.kind),.lit (.int .i64 b.num),.lit (.string b.str),b.kids] 2 f])] [])=some (.ret (.int 6) []):=by
  have:=qbP (.bin f o a b)
  rw[show E.lev (.bin f o a b)=6 from hl] at this
  exact this
 have hc : ¬ (6:Int)<i:=by omega
 have htx:(E.bin f o a b).tx false p=(a.tx false 6)++([o.str]++((b.tx false 7))):=by
  have hq : ¬ 6<p:=by omega
  simp[E.tx,qa1,qb9,ustr,bs,qaX,qbM,Bop.left,hq,hl]
 obtain⟨w1,e1⟩ : ∃ x,x=pw w (a.tx false 6):=⟨_,rfl⟩
 obtain⟨w2,e2⟩ : ∃ x,x=pw w1 [o.str]:=⟨_,rfl⟩
 have e3:w'=pw w2 (b.tx false 7):=by rw[hw,htx,qao,<- e1,qao,<- e2]
 have s3:=hsz
 have s2:=qaj e3 s3
 have s1:=qaj e2 s2
 have z1:=ha w w1 e1 s1
 have z2:=qa9 e2 (qdb o) s2
 have z3:=hb w2 w' e3 s3
 have f0:=qcy (k:=14) (n:=0) (s:=o.str) (a:=a.kind) (b:=a.num) (t:=a.str) (u:=a.kids) (r:=[.lit (.int .i64 b.kind),.lit (.int .i64 b.num),.lit (.string b.str),b.kids]) (m:=2) (f:=f) (by omega) (by omega) (qaC a)
 have f1:=qdR (k:=14) (n:=0) (s:=o.str) (x0 := .lit (.int .i64 a.kind)) (x1 := .lit (.int .i64 a.num)) (x2 := .lit (.string a.str)) (x3:=a.kids) (a:=b.kind) (b:=b.num) (t:=b.str) (u:=b.kids) (r:=[]) (m:=2) (f:=f) (by omega) (by omega) (qaC b)
 simp only[PW,PW'] at z1 z2 z3 ⊢
 clear e1 e2 e3 s1 s2 s3 hw htx hsz
 refine Z_call (pf:=F273) rfl rfl ?_
 simp[F273,zl,hc,f0,f1,z1,z2,z3,List.range_succ,qai 7 (by omega)]
theorem qqd {f:Bool} {o:Bop} {a b:E} (hl:o.prec=6) (ha:qc2 a 6 6) (hb:qc2 b 7 7) {p:Nat} {i:Int} (hi:i=p) (hp:6<p):qc2 (E.bin f o a b) p i:=by
 intro w w' hw hsz
 have zl:Z tQ (.call 282 [.dat (.agg [.lit (.int .i64 14),.lit (.int .i64 0),.lit (.string o.str),.sl [.lit (.int .i64 a.kind),.lit (.int .i64 a.num),.lit (.string a.str),a.kids,.lit (.int .i64 b.kind),.lit (.int .i64 b.num),.lit (.string b.str),b.kids] 2 f])] [])=some (.ret (.int 6) []):=by
  have:=qbP (.bin f o a b)
  rw[show E.lev (.bin f o a b)=6 from hl] at this
  exact this
 have hc:(6:Int)<i:=by omega
 have htx:(E.bin f o a b).tx false p=[⟨#[40]⟩]++((a.tx false 6)++([o.str]++((b.tx false 7)++([⟨#[41]⟩])))):=by
  have hq:6<p:=hp
  simp[E.tx,qa1,qb9,ustr,bs,qaX,qbM,Bop.left,hq,hl]
 obtain⟨w1,e1⟩ : ∃ x,x=pw w [⟨#[40]⟩]:=⟨_,rfl⟩
 obtain⟨w2,e2⟩ : ∃ x,x=pw w1 (a.tx false 6):=⟨_,rfl⟩
 obtain⟨w3,e3⟩ : ∃ x,x=pw w2 [o.str]:=⟨_,rfl⟩
 obtain⟨w4,e4⟩ : ∃ x,x=pw w3 (b.tx false 7):=⟨_,rfl⟩
 have e5:w'=pw w4 [⟨#[41]⟩]:=by rw[hw,htx,qao,<- e1,qao,<- e2,qao,<- e3,qao,<- e4]
 have s5:=hsz
 have s4:=qaj e5 s5
 have s3:=qaj e4 s4
 have s2:=qaj e3 s3
 have s1:=qaj e2 s2
 have z1:=qa9 e1 (by decide) s1
 have z2:=ha w1 w2 e2 s2
 have z3:=qa9 e3 (qdb o) s3
 have z4:=hb w3 w4 e4 s4
 have z5:=qfS e5 (by decide) s5
 have f0:=qcy (k:=14) (n:=0) (s:=o.str) (a:=a.kind) (b:=a.num) (t:=a.str) (u:=a.kids) (r:=[.lit (.int .i64 b.kind),.lit (.int .i64 b.num),.lit (.string b.str),b.kids]) (m:=2) (f:=f) (by omega) (by omega) (qaC a)
 have f1:=qdR (k:=14) (n:=0) (s:=o.str) (x0 := .lit (.int .i64 a.kind)) (x1 := .lit (.int .i64 a.num)) (x2 := .lit (.string a.str)) (x3:=a.kids) (a:=b.kind) (b:=b.num) (t:=b.str) (u:=b.kids) (r:=[]) (m:=2) (f:=f) (by omega) (by omega) (qaC b)
 simp only[PW,PW'] at z1 z2 z3 z4 z5 ⊢
 clear e1 e2 e3 e4 e5 s1 s2 s3 s4 s5 hw htx hsz
 refine Z_call (pf:=F273) rfl rfl ?_
 simp[F273,zl,hc,f0,f1,z1,z2,z3,z4,z5,List.range_succ,qai 7 (by omega)]
theorem qi0 {s:ByteArray} (h:s∈fieldNames):s.size≠0:=by
 simp only[fieldNames,List.mem_cons,List.not_mem_nil,or_false] at h
 rcases h with h | h | h | h | h | h | h | h<;>rw[h]<;>decide
theorem qg8 : ∀ e:E,e.good -> ∀ p i,i=((p:Nat):Int)->p<=8->qc2 e p i
 | .int n,h,p,i,hi,hp=>quV h.1 h.2 hi hp
 | .bool n,h,p,i,hi,hp=>by
  rcases h with rfl | rfl
  ·exact qp6 hi hp
  ·exact qp7 hi hp
 | .var s,h,p,i,hi,hp=>quW (qeD h.1) hi hp
 | .name s,h,p,i,hi,hp=>qsy (by rcases h with rfl | rfl | rfl<;>decide) hi hp
 | .field f s e,h,p,i,hi,hp=>qp8 (qi0 h.1) (qg8 e h.2 1 1 rfl (by omega)) hi hp
 | .un f neg e,h,p,i,hi,hp=>by
  cases neg
  ·by_cases hq:3<p
   ·exact qsA (qg8 e h 3 3 rfl (by omega)) hi hq
   ·exact quY (qg8 e h 3 3 rfl (by omega)) hi (by omega)
  ·by_cases hq:7<p
   ·exact qsz (qg8 e h 7 7 rfl (by omega)) hi hq
   ·exact quX (qg8 e h 7 7 rfl (by omega)) hi (by omega)
 | .bin f o a b,h,p,i,hi,hp=>by
  have A:=qg8 a h.1
  have B:=qg8 b h.2
  rcases qej o with ⟨ho,_⟩ | ⟨ho,_⟩ | ⟨ho,_⟩ | ⟨ho,_⟩ | ⟨ho,_⟩
  ·by_cases hq:1<p
   ·exact qp9 ho (A 1 1 rfl (by omega)) (B 2 2 rfl (by omega)) hi hq
   ·exact qsB ho (A 1 1 rfl (by omega)) (B 2 2 rfl (by omega)) hi (by omega)
  ·by_cases hq:2<p
   ·exact qqa ho (A 2 2 rfl (by omega)) (B 3 3 rfl (by omega)) hi hq
   ·exact qsC ho (A 2 2 rfl (by omega)) (B 3 3 rfl (by omega)) hi (by omega)
  ·by_cases hq:4<p
   ·exact qqb ho (A 5 5 rfl (by omega)) (B 5 5 rfl (by omega)) hi hq
   ·exact qsD ho (A 5 5 rfl (by omega)) (B 5 5 rfl (by omega)) hi (by omega)
  ·by_cases hq:5<p
   ·exact qqc ho (A 5 5 rfl (by omega)) (B 6 6 rfl (by omega)) hi hq
   ·exact qsE ho (A 5 5 rfl (by omega)) (B 6 6 rfl (by omega)) hi (by omega)
  ·by_cases hq:6<p
   ·exact qqd ho (A 6 6 rfl (by omega)) (B 7 7 rfl (by omega)) hi hq
   ·exact qsF ho (A 6 6 rfl (by omega)) (B 7 7 rfl (by omega)) hi (by omega)
end Go.Pm
end SOg
section SOh
namespace Go.Pm
open F
set_option maxHeartbeats 8000000
attribute [local simp] qgJ qi8
def qko (b:Ss):Prop := ∀ (k n:Int) (s:ByteArray) (f:Bool) w w',w'=pw w (⟨#[123]⟩::(b.tx++[⟨#[125]⟩]))->w'.length<2 ^ 40->Z tQ (.call 244 [.ptr 0 0,.dat (.agg [.lit (.int .i64 k),.lit (.int .i64 n),.lit (.string s),kd f b.fo.len b.fo.cells])] (PW w))=some (.ret (.tup []) (PW w'))
theorem qpr {f fb fc:Bool} {s:ByteArray} {e:E} (hs:s.size≠0) (he:qc2 e 1 1) {w w':List UInt8} (hw:w'=pw w ([s,⟨#[61]⟩]++((e.tx false 1)++([⟨#[59]⟩])))) (hsz:w'.length<2 ^ 40) :
  Z tQ (.call 260 [.ptr 0 0,.dat (.agg [.lit (.int .i64 1),.lit (.int .i64 0),.lit (.string s),.sl [.lit (.int .i64 e.kind),.lit (.int .i64 e.num),.lit (.string e.str),e.kids] 1 f])] (PW w))=some (.ret (.tup []) (PW w')):=by
 obtain⟨w1,e1⟩ : ∃ v,v=pw w [s,⟨#[61]⟩]:=⟨_,rfl⟩
 obtain⟨w2,e2⟩ : ∃ v,v=pw w1 (e.tx false 1):=⟨_,rfl⟩
 have e3:w'=pw w2 [⟨#[59]⟩]:=by rw[hw,qao,<- e1,qao,<- e2]
 have s3:=hsz
 have s2:=qaj e3 s3
 have s1:=qaj e2 s2
 have z1:=qfC e1 (hs) (by decide) s1
 have z2:=he w1 w2 e2 s2
 have z3:=qa9 e3 (by decide) s3
 have f0:=qcy (k:=1) (n:=0) (s:=s)  (a:=e.kind) (b:=e.num) (t:=e.str) (u:=e.kids) (r:=[]) (m:=1) (f:=f) (by omega) (by omega) (qaC e)
 simp only[PW,PW'] at z1 z2 z3 ⊢
 clear e1 e2 e3 s1 s2 s3 hw hsz
 refine Z_call (pf:=F260) rfl rfl ?_
 simp[F260,f0,z1,z2,z3,List.range_succ]
theorem qrj {f fb fc:Bool} {s:ByteArray} {x y:E} (hs:s.size≠0) (hx:qc2 x 1 1) (hy:qc2 y 1 1) {w w':List UInt8} (hw:w'=pw w ([s,⟨#[91]⟩]++((x.tx false 1)++([⟨#[93]⟩,⟨#[61]⟩]++((y.tx false 1)++([⟨#[59]⟩])))))) (hsz:w'.length<2 ^ 40) :
  Z tQ (.call 260 [.ptr 0 0,.dat (.agg [.lit (.int .i64 2),.lit (.int .i64 0),.lit (.string s),.sl [.lit (.int .i64 x.kind),.lit (.int .i64 x.num),.lit (.string x.str),x.kids,.lit (.int .i64 y.kind),.lit (.int .i64 y.num),.lit (.string y.str),y.kids] 2 f])] (PW w))=some (.ret (.tup []) (PW w')):=by
 obtain⟨w1,e1⟩ : ∃ v,v=pw w [s,⟨#[91]⟩]:=⟨_,rfl⟩
 obtain⟨w2,e2⟩ : ∃ v,v=pw w1 (x.tx false 1):=⟨_,rfl⟩
 obtain⟨w3,e3⟩ : ∃ v,v=pw w2 [⟨#[93]⟩,⟨#[61]⟩]:=⟨_,rfl⟩
 obtain⟨w4,e4⟩ : ∃ v,v=pw w3 (y.tx false 1):=⟨_,rfl⟩
 have e5:w'=pw w4 [⟨#[59]⟩]:=by rw[hw,qao,<- e1,qao,<- e2,qao,<- e3,qao,<- e4]
 have s5:=hsz
 have s4:=qaj e5 s5
 have s3:=qaj e4 s4
 have s2:=qaj e3 s3
 have s1:=qaj e2 s2
 have z1:=qfC e1 (hs) (by decide) s1
 have z2:=hx w1 w2 e2 s2
 have z3:=qfC e3 (by decide) (by decide) s3
 have z4:=hy w3 w4 e4 s4
 have z5:=qa9 e5 (by decide) s5
 have f0:=qcy (k:=2) (n:=0) (s:=s)  (a:=x.kind) (b:=x.num) (t:=x.str) (u:=x.kids) (r:=[.lit (.int .i64 y.kind),.lit (.int .i64 y.num),.lit (.string y.str),y.kids]) (m:=2) (f:=f) (by omega) (by omega) (qaC x)
 have f1:=qdR (k:=2) (n:=0) (s:=s) (x0 := .lit (.int .i64 x.kind)) (x1 := .lit (.int .i64 x.num)) (x2 := .lit (.string x.str)) (x3:=x.kids) (a:=y.kind) (b:=y.num) (t:=y.str) (u:=y.kids) (r:=[]) (m:=2) (f:=f) (by omega) (by omega) (qaC y)
 simp only[PW,PW'] at z1 z2 z3 z4 z5 ⊢
 clear e1 e2 e3 e4 e5 s1 s2 s3 s4 s5 hw hsz
 refine Z_call (pf:=F260) rfl rfl ?_
 simp[F260,f0,f1,z1,z2,z3,z4,z5,List.range_succ]
theorem qps {f fb fc:Bool} {x y:E} (hx:qc2 x 1 1) (hy:qc2 y 1 1) {w w':List UInt8} (hw:w'=pw w ([⟨#[101,102,102,101,99,116]⟩]++((x.tx false 1)++([⟨#[44]⟩]++((y.tx false 1)++([⟨#[59]⟩])))))) (hsz:w'.length<2 ^ 40) :
  Z tQ (.call 260 [.ptr 0 0,.dat (.agg [.lit (.int .i64 5),.lit (.int .i64 0),.lit (.string ⟨#[]⟩),.sl [.lit (.int .i64 x.kind),.lit (.int .i64 x.num),.lit (.string x.str),x.kids,.lit (.int .i64 y.kind),.lit (.int .i64 y.num),.lit (.string y.str),y.kids] 2 f])] (PW w))=some (.ret (.tup []) (PW w')):=by
 obtain⟨w1,e1⟩ : ∃ v,v=pw w [⟨#[101,102,102,101,99,116]⟩]:=⟨_,rfl⟩
 obtain⟨w2,e2⟩ : ∃ v,v=pw w1 (x.tx false 1):=⟨_,rfl⟩
 obtain⟨w3,e3⟩ : ∃ v,v=pw w2 [⟨#[44]⟩]:=⟨_,rfl⟩
 obtain⟨w4,e4⟩ : ∃ v,v=pw w3 (y.tx false 1):=⟨_,rfl⟩
 have e5:w'=pw w4 [⟨#[59]⟩]:=by rw[hw,qao,<- e1,qao,<- e2,qao,<- e3,qao,<- e4]
 have s5:=hsz
 have s4:=qaj e5 s5
 have s3:=qaj e4 s4
 have s2:=qaj e3 s3
 have s1:=qaj e2 s2
 have z1:=qa9 e1 (by decide) s1
 have z2:=hx w1 w2 e2 s2
 have z3:=qa9 e3 (by decide) s3
 have z4:=hy w3 w4 e4 s4
 have z5:=qa9 e5 (by decide) s5
 have f0:=qcy (k:=5) (n:=0) (s:=⟨#[]⟩)  (a:=x.kind) (b:=x.num) (t:=x.str) (u:=x.kids) (r:=[.lit (.int .i64 y.kind),.lit (.int .i64 y.num),.lit (.string y.str),y.kids]) (m:=2) (f:=f) (by omega) (by omega) (qaC x)
 have f1:=qdR (k:=5) (n:=0) (s:=⟨#[]⟩) (x0 := .lit (.int .i64 x.kind)) (x1 := .lit (.int .i64 x.num)) (x2 := .lit (.string x.str)) (x3:=x.kids) (a:=y.kind) (b:=y.num) (t:=y.str) (u:=y.kids) (r:=[]) (m:=2) (f:=f) (by omega) (by omega) (qaC y)
 simp only[PW,PW'] at z1 z2 z3 z4 z5 ⊢
 clear e1 e2 e3 e4 e5 s1 s2 s3 s4 s5 hw hsz
 refine Z_call (pf:=F260) rfl rfl ?_
 simp[F260,f0,f1,z1,z2,z3,z4,z5,List.range_succ]
theorem qrk {f fb fc:Bool} {c:E} {p:Ss} (hc:qc2 c 1 1) (hb:qko p) {w w':List UInt8} (hw:w'=pw w ([⟨#[119,104,105,108,101]⟩]++((c.tx false 1)++((⟨#[123]⟩::(p.tx++[⟨#[125]⟩])))))) (hsz:w'.length<2 ^ 40) :
  Z tQ (.call 260 [.ptr 0 0,.dat (.agg [.lit (.int .i64 4),.lit (.int .i64 0),.lit (.string ⟨#[]⟩),.sl [.lit (.int .i64 c.kind),.lit (.int .i64 c.num),.lit (.string c.str),c.kids,.lit (.int .i64 7),.lit (.int .i64 0),.lit (.string ⟨#[]⟩),kd fb p.fo.len p.fo.cells] 2 f])] (PW w))=some (.ret (.tup []) (PW w')):=by
 obtain⟨w1,e1⟩ : ∃ v,v=pw w [⟨#[119,104,105,108,101]⟩]:=⟨_,rfl⟩
 obtain⟨w2,e2⟩ : ∃ v,v=pw w1 (c.tx false 1):=⟨_,rfl⟩
 have e3:w'=pw w2 (⟨#[123]⟩::(p.tx++[⟨#[125]⟩])):=by rw[hw,qao,<- e1,qao,<- e2]
 have s3:=hsz
 have s2:=qaj e3 s3
 have s1:=qaj e2 s2
 have z1:=qa9 e1 (by decide) s1
 have z2:=hc w1 w2 e2 s2
 have z3:=hb 7 0 ⟨#[]⟩ fb w2 w' e3 s3
 have f0:=qcy (k:=4) (n:=0) (s:=⟨#[]⟩)  (a:=c.kind) (b:=c.num) (t:=c.str) (u:=c.kids) (r:=[.lit (.int .i64 7),.lit (.int .i64 0),.lit (.string ⟨#[]⟩),kd fb p.fo.len p.fo.cells]) (m:=2) (f:=f) (by omega) (by omega) (qaC c)
 have f1:=qdR (k:=4) (n:=0) (s:=⟨#[]⟩) (x0 := .lit (.int .i64 c.kind)) (x1 := .lit (.int .i64 c.num)) (x2 := .lit (.string c.str)) (x3:=c.kids) (a:=7) (b:=0) (t:=⟨#[]⟩) (u:=kd fb p.fo.len p.fo.cells) (r:=[]) (m:=2) (f:=f) (by omega) (by omega) (qjl _ _ _)
 simp only[PW,PW'] at z1 z2 z3 ⊢
 clear e1 e2 e3 s1 s2 s3 hw hsz
 refine Z_call (pf:=F260) rfl rfl ?_
 simp[F260,f0,f1,z1,z2,z3,List.range_succ]
theorem qvS {f fb fc:Bool} {c:E} {p q:Ss} (hc:qc2 c 1 1) (hb:qko p) (hq:q.fo.len=0) {w w':List UInt8} (hw:w'=pw w ([⟨#[105,102]⟩]++((c.tx false 1)++((⟨#[123]⟩::(p.tx++[⟨#[125]⟩])))))) (hsz:w'.length<2 ^ 40) :
  Z tQ (.call 260 [.ptr 0 0,.dat (.agg [.lit (.int .i64 3),.lit (.int .i64 0),.lit (.string ⟨#[]⟩),.sl [.lit (.int .i64 c.kind),.lit (.int .i64 c.num),.lit (.string c.str),c.kids,.lit (.int .i64 7),.lit (.int .i64 0),.lit (.string ⟨#[]⟩),kd fb p.fo.len p.fo.cells,.lit (.int .i64 7),.lit (.int .i64 0),.lit (.string ⟨#[]⟩),kd fc q.fo.len q.fo.cells] 3 f])] (PW w))=some (.ret (.tup []) (PW w')):=by
 obtain⟨w1,e1⟩ : ∃ v,v=pw w [⟨#[105,102]⟩]:=⟨_,rfl⟩
 obtain⟨w2,e2⟩ : ∃ v,v=pw w1 (c.tx false 1):=⟨_,rfl⟩
 have e3:w'=pw w2 (⟨#[123]⟩::(p.tx++[⟨#[125]⟩])):=by rw[hw,qao,<- e1,qao,<- e2]
 have s3:=hsz
 have s2:=qaj e3 s3
 have s1:=qaj e2 s2
 have z1:=qa9 e1 (by decide) s1
 have z2:=hc w1 w2 e2 s2
 have z3:=hb 7 0 ⟨#[]⟩ fb w2 w' e3 s3
 have f0:=qcy (k:=3) (n:=0) (s:=⟨#[]⟩)  (a:=c.kind) (b:=c.num) (t:=c.str) (u:=c.kids) (r:=[.lit (.int .i64 7),.lit (.int .i64 0),.lit (.string ⟨#[]⟩),kd fb p.fo.len p.fo.cells,.lit (.int .i64 7),.lit (.int .i64 0),.lit (.string ⟨#[]⟩),kd fc q.fo.len q.fo.cells]) (m:=3) (f:=f) (by omega) (by omega) (qaC c)
 have f1:=qdR (k:=3) (n:=0) (s:=⟨#[]⟩) (x0 := .lit (.int .i64 c.kind)) (x1 := .lit (.int .i64 c.num)) (x2 := .lit (.string c.str)) (x3:=c.kids) (a:=7) (b:=0) (t:=⟨#[]⟩) (u:=kd fb p.fo.len p.fo.cells) (r:=[.lit (.int .i64 7),.lit (.int .i64 0),.lit (.string ⟨#[]⟩),kd fc q.fo.len q.fo.cells]) (m:=3) (f:=f) (by omega) (by omega) (qjl _ _ _)
 have f2:=qrI (k:=3) (n:=0) (s:=⟨#[]⟩) (x0 := .lit (.int .i64 c.kind)) (x1 := .lit (.int .i64 c.num)) (x2 := .lit (.string c.str)) (x3:=c.kids) (y0 := .lit (.int .i64 7)) (y1 := .lit (.int .i64 0)) (y2 := .lit (.string ⟨#[]⟩)) (y3:=kd fb p.fo.len p.fo.cells) (a:=7) (b:=0) (t:=⟨#[]⟩) (u:=kd fc q.fo.len q.fo.cells) (r:=[]) (m:=3) (f:=f) (by omega) (by omega) (qjl _ _ _)
 have hq1 : ∀ cs,kd fc q.fo.len cs = .lit (.slice none 0 0):=fun cs=>by rw[hq]; rfl
 simp only[hq1] at f0 f1 f2 ⊢
 simp only[PW,PW'] at z1 z2 z3 ⊢
 clear e1 e2 e3 s1 s2 s3 hw hsz
 refine Z_call (pf:=F260) rfl rfl ?_
 simp[F260,f0,f1,f2,z1,z2,z3,List.range_succ,qia]
theorem qvT {f fb fc:Bool} {c:E} {p q:Ss} (hc:qc2 c 1 1) (hb:qko p) (hq:0<q.fo.len) (hd:qko q) {w w':List UInt8} (hw:w'=pw w ([⟨#[105,102]⟩]++((c.tx false 1)++((⟨#[123]⟩::(p.tx++[⟨#[125]⟩]))++([⟨#[101,108,115,101]⟩]++((⟨#[123]⟩::(q.tx++[⟨#[125]⟩])))))))) (hsz:w'.length<2 ^ 40) :
  Z tQ (.call 260 [.ptr 0 0,.dat (.agg [.lit (.int .i64 3),.lit (.int .i64 0),.lit (.string ⟨#[]⟩),.sl [.lit (.int .i64 c.kind),.lit (.int .i64 c.num),.lit (.string c.str),c.kids,.lit (.int .i64 7),.lit (.int .i64 0),.lit (.string ⟨#[]⟩),kd fb p.fo.len p.fo.cells,.lit (.int .i64 7),.lit (.int .i64 0),.lit (.string ⟨#[]⟩),kd fc q.fo.len q.fo.cells] 3 f])] (PW w))=some (.ret (.tup []) (PW w')):=by
 obtain⟨w1,e1⟩ : ∃ v,v=pw w [⟨#[105,102]⟩]:=⟨_,rfl⟩
 obtain⟨w2,e2⟩ : ∃ v,v=pw w1 (c.tx false 1):=⟨_,rfl⟩
 obtain⟨w3,e3⟩ : ∃ v,v=pw w2 (⟨#[123]⟩::(p.tx++[⟨#[125]⟩])):=⟨_,rfl⟩
 obtain⟨w4,e4⟩ : ∃ v,v=pw w3 [⟨#[101,108,115,101]⟩]:=⟨_,rfl⟩
 have e5:w'=pw w4 (⟨#[123]⟩::(q.tx++[⟨#[125]⟩])):=by rw[hw,qao,<- e1,qao,<- e2,qao,<- e3,qao,<- e4]
 have s5:=hsz
 have s4:=qaj e5 s5
 have s3:=qaj e4 s4
 have s2:=qaj e3 s3
 have s1:=qaj e2 s2
 have z1:=qa9 e1 (by decide) s1
 have z2:=hc w1 w2 e2 s2
 have z3:=hb 7 0 ⟨#[]⟩ fb w2 w3 e3 s3
 have z4:=qa9 e4 (by decide) s4
 have z5:=hd 7 0 ⟨#[]⟩ fc w4 w' e5 s5
 have f0:=qcy (k:=3) (n:=0) (s:=⟨#[]⟩)  (a:=c.kind) (b:=c.num) (t:=c.str) (u:=c.kids) (r:=[.lit (.int .i64 7),.lit (.int .i64 0),.lit (.string ⟨#[]⟩),kd fb p.fo.len p.fo.cells,.lit (.int .i64 7),.lit (.int .i64 0),.lit (.string ⟨#[]⟩),kd fc q.fo.len q.fo.cells]) (m:=3) (f:=f) (by omega) (by omega) (qaC c)
 have f1:=qdR (k:=3) (n:=0) (s:=⟨#[]⟩) (x0 := .lit (.int .i64 c.kind)) (x1 := .lit (.int .i64 c.num)) (x2 := .lit (.string c.str)) (x3:=c.kids) (a:=7) (b:=0) (t:=⟨#[]⟩) (u:=kd fb p.fo.len p.fo.cells) (r:=[.lit (.int .i64 7),.lit (.int .i64 0),.lit (.string ⟨#[]⟩),kd fc q.fo.len q.fo.cells]) (m:=3) (f:=f) (by omega) (by omega) (qjl _ _ _)
 have f2:=qrI (k:=3) (n:=0) (s:=⟨#[]⟩) (x0 := .lit (.int .i64 c.kind)) (x1 := .lit (.int .i64 c.num)) (x2 := .lit (.string c.str)) (x3:=c.kids) (y0 := .lit (.int .i64 7)) (y1 := .lit (.int .i64 0)) (y2 := .lit (.string ⟨#[]⟩)) (y3:=kd fb p.fo.len p.fo.cells) (a:=7) (b:=0) (t:=⟨#[]⟩) (u:=kd fc q.fo.len q.fo.cells) (r:=[]) (m:=3) (f:=f) (by omega) (by omega) (qjl _ _ _)
 have hq1:(0:Int)<q.fo.len:=by omega
 simp only[PW,PW'] at z1 z2 z3 z4 z5 ⊢
 clear e1 e2 e3 e4 e5 s1 s2 s3 s4 s5 hw hsz
 refine Z_call (pf:=F260) rfl rfl ?_
 simp[F260,f0,f1,f2,z1,z2,z3,z4,z5,List.range_succ,hq1,hq]
theorem qtS {f fb:Bool} {d:D} (hd:V.one (.dat d)=true) (hcl:V.cells (.dat d)=[.dat d]) {w w':List UInt8} (hw:w'=pw w [⟨#[115,116,111,112]⟩,⟨#[59]⟩]) (hsz:w'.length<2 ^ 40) :
  Z tQ (.call 260 [.ptr 0 0,.dat (.agg [.lit (.int .i64 6),.lit (.int .i64 0),.lit (.string ⟨#[]⟩),d])] (PW w))=some (.ret (.tup []) (PW w')):=by
 have z1:=qfC hw (by decide) (by decide) hsz
 simp only[PW,PW'] at z1 ⊢
 refine Z_call (pf:=F260) rfl rfl ?_
 simp[F260,z1,hd,hcl,List.range_succ]
end Go.Pm
end SOh
section SOi
namespace Go.Pm
open F
set_option maxHeartbeats 8000000
attribute [local simp] qgJ qi8
def quE (s:Ss):Prop := ∀ (cs:List D) (m i:Nat) (f:Bool) w w',cs.drop (i*4)=s.fo.cells->i+s.fo.len=m->m<2 ^ 40->w'=pw w s.tx->w'.length<2 ^ 40 ->
 Z tQ (.loop 2 F244l0 [(0,.ptr 0 0),(10,.dat (.sl cs m f)),(11,.int m),(12,.int i)] (PW w))=some (.out (.exit 0) [(0,.ptr 0 0),(10,.dat (.sl cs m f)),(11,.int m),(12,.int m),(13,.bool false)] (PW w'))
def quF:Ss->Prop
 | .block _ b r=>qko b/\quF r
 | _=>True
theorem qfI {cs:List D} {m i:Nat} {f:Bool} {w w1:List UInt8} {k n:Int} {s:ByteArray} {d:D} {rest:List D} (hd:cs.drop (i*4) = .lit (.int .i64 k) :: .lit (.int .i64 n) :: .lit (.string s)::d::rest)
  (h1:V.one (.dat d)=true) (hcl:V.cells (.dat d)=[.dat d]) (hi:i<m) (hm:m<2 ^ 40)
  (zs:Z tQ (.call 260 [.ptr 0 0,.dat (.agg [.lit (.int .i64 k),.lit (.int .i64 n),.lit (.string s),d])] (PW w))=some (.ret (.tup []) (PW w1)))
  {r:Res} (zr:Z tQ (.loop 2 F244l0 [(0,.ptr 0 0),(10,.dat (.sl cs m f)),(11,.int m),(12,.int ((i+1:Nat):Int))] (PW w1))=some r) :
  Z tQ (.loop 2 F244l0 [(0,.ptr 0 0),(10,.dat (.sl cs m f)),(11,.int m),(12,.int i)] (PW w))=some r:=by
 have hc:=qwn hd
 have hlt:(i:Int)<m:=by omega
 have w1':IntKind.i64.wrap ((i:Int)+1)=((i+1:Nat):Int):=by rw[qai _ (by omega)]; omega
 rw[<- zr]
 simp only[PW,PW'] at zs ⊢
 conv=>lhs; rw[qab]
 generalize ((i+1:Nat):Int)=i1 at *
 simp[qad,qgA,qaf,hc,h1,hcl,hlt,hi,zs,w1',List.range_succ]
 all_goals exact qci (by simp[gcF,h1,hcl,List.range_succ])
theorem qmn {b:Ss} (hg:b.good none) (hl:quE b):qko b:=by
 intro k n s f w w' hw hsz
 obtain⟨w1,e1⟩ : ∃ v,v=pw w [⟨#[123]⟩]:=⟨_,rfl⟩
 obtain⟨w2,e2⟩ : ∃ v,v=pw w1 b.tx:=⟨_,rfl⟩
 have e3:w'=pw w2 [⟨#[125]⟩]:=by rw[hw,e2,e1,<- qao,<- qao]; rfl
 have s3:=hsz
 have s2:=qaj e3 s3
 have s1:=qaj e2 s2
 have htg:=qji (qhf b none hg).ok
 have hb:b.fo.len<2 ^ 40:=by
  have h1:=qeE b hg
  have h2:=qft b.tx (wl w1) (fun t ht=>qeD (htg t ht))
  have h3:=congrArg List.length e2
  simp only[pw,List.length_append] at h3
  omega
 have z1:=qa9 e1 (by decide) s1
 have z3:=qa9 e3 (by decide) s3
 refine Z_call (pf:=F244) rfl rfl ?_
 cases hbl:b.fo.len with
 | zero=>
  have hn:=qfu hbl
  subst hn
  have:w2=w1:=by rw[e2]; exact qdW w1
  subst this
  simp only[PW,PW'] at z1 z3 ⊢
  simp[F244,z1,z3,qia,qab,qad,qgA,List.range_succ]
 | succ q=>
  have z2:=hl b.fo.cells (q+1) 0 f w1 w2 (by simp) (by omega) (by omega) e2 s2
  have hk:kd f (q+1) b.fo.cells = .sl b.fo.cells (q+1) f:=rfl
  rw[hk]
  generalize q+1=M at *
  have z2':Z tQ (.loop 2 F244l0 [(0,.ptr 0 0),(10,.dat (.sl b.fo.cells M f)),(11,.int M),(12,.int 0)] (PW w1++[.cells [.int k,.int n,.str s,.dat (.sl b.fo.cells M f)]]))=_:=(qci (by simp[gcF,List.range_succ])).trans z2
  simp only[PW,PW',List.cons_append,List.nil_append] at z1 z2' z3 ⊢
  simp[F244,z1,z2',z3,qgn,List.range_succ]
theorem qpM {cs:List D} {m:Nat} {f:Bool} {w:List UInt8}:Z tQ (.loop 2 F244l0 [(0,.ptr 0 0),(10,.dat (.sl cs m f)),(11,.int m),(12,.int m)] (PW w))=some (.out (.exit 0) [(0,.ptr 0 0),(10,.dat (.sl cs m f)),(11,.int m),(12,.int m),(13,.bool false)] (PW w)):=by
 rw[qab]
 simp[qad,qgA,List.range_succ]
theorem pe1 {e:E} (h:e.good):qc2 e 1 1:=qg8 e h 1 1 rfl (by omega)
theorem quG : ∀ s:Ss,(s.good none->quE s)/\((∃ k,s.good (some k))->quF s):=by
 intro s
 induction s with
 | nil=>
  refine⟨fun _ cs m i f w w' hd hm hm2 hw hs=>?_,fun _=>trivial⟩
  rw[Ss.tx,qdW] at hw
  subst hw
  have:i=m:=by simpa [Ss.fo] using hm
  subst this
  exact qpM
 | assign g s e r ih=>
  refine⟨fun h cs m i f w w' hd hm hm2 hw hs=>?_,fun _=>trivial⟩
  obtain⟨_,hn,he,hr⟩:=h
  simp only[Ss.fo,qaz,qfG,qaO,qaW,qmW,qde,qaB] at hd hm
  obtain⟨w1,e1⟩ : ∃ v,v=pw w ([s,⟨#[61]⟩]++(e.tx false 1++[⟨#[59]⟩])):=⟨_,rfl⟩
  have e2:w'=pw w1 r.tx:=by
   rw[hw,e1,<- qao]
   simp only[Ss.tx,List.cons_append,List.nil_append,List.append_assoc]
   rfl
  exact qfI hd rfl rfl (by omega) hm2 (qpr (fb:=false) (fc:=false) (qeD hn.1) (pe1 he) e1 (qaj e2 hs)) (ih.1 hr cs m (i+1) f w1 w' (qcA hd) (by omega) hm2 e2 hs)
 | store g s a b r ih=>
  refine⟨fun h cs m i f w w' hd hm hm2 hw hs=>?_,fun _=>trivial⟩
  obtain⟨_,hn,ha,hb,hr⟩:=h
  simp only[Ss.fo,qaz,qfG,qaO,qaW,qmW,qde,qaB] at hd hm
  obtain⟨w1,e1⟩ : ∃ v,v=pw w ([s,⟨#[91]⟩]++(a.tx false 1++([⟨#[93]⟩,⟨#[61]⟩]++(b.tx false 1++[⟨#[59]⟩])))):=⟨_,rfl⟩
  have e2:w'=pw w1 r.tx:=by
   rw[hw,e1,<- qao]
   simp only[Ss.tx,List.cons_append,List.nil_append,List.append_assoc]
   rfl
  exact qfI hd rfl rfl (by omega) hm2 (qrj (fb:=false) (fc:=false) (qi0 hn) (pe1 ha) (pe1 hb) e1 (qaj e2 hs)) (ih.1 hr cs m (i+1) f w1 w' (qcA hd) (by omega) hm2 e2 hs)
 | effect g a b r ih=>
  refine⟨fun h cs m i f w w' hd hm hm2 hw hs=>?_,fun _=>trivial⟩
  obtain⟨_,ha,hb,hr⟩:=h
  simp only[Ss.fo,qaz,qfG,qaO,qaW,qmW,qde,qaB] at hd hm
  obtain⟨w1,e1⟩ : ∃ v,v=pw w ([⟨#[101,102,102,101,99,116]⟩]++(a.tx false 1++([⟨#[44]⟩]++(b.tx false 1++[⟨#[59]⟩])))):=⟨_,rfl⟩
  have e2:w'=pw w1 r.tx:=by
   rw[hw,e1,<- qao]
   simp only[Ss.tx,List.cons_append,List.nil_append,List.append_assoc]
   rfl
  exact qfI hd rfl rfl (by omega) hm2 (qps (fb:=false) (fc:=false) (pe1 ha) (pe1 hb) e1 (qaj e2 hs)) (ih.1 hr cs m (i+1) f w1 w' (qcA hd) (by omega) hm2 e2 hs)
 | stop r ih=>
  refine⟨fun h cs m i f w w' hd hm hm2 hw hs=>?_,fun _=>trivial⟩
  obtain⟨_,hr⟩:=h
  simp only[Ss.fo,qaz,qaO,qaW,qaB,qtJ] at hd hm
  obtain⟨w1,e1⟩ : ∃ v,v=pw w [⟨#[115,116,111,112]⟩,⟨#[59]⟩]:=⟨_,rfl⟩
  have e2:w'=pw w1 r.tx:=by
   rw[hw,e1,<- qao]
   rfl
  exact qfI hd rfl rfl (by omega) hm2 (qtS (f:=false) (fb:=false) rfl rfl e1 (qaj e2 hs)) (ih.1 hr cs m (i+1) f w1 w' (qcA hd) (by omega) hm2 e2 hs)
 | cond w0 g c b r ihb ih=>
  refine⟨fun h cs m i f w w' hd hm hm2 hw hs=>?_,fun _=>trivial⟩
  obtain⟨_,hc,hb,hr⟩:=h
  cases w0 with
  | true=>
   obtain⟨fb,b1,rfl,hb1⟩:=qke hb
   have hrow:=ihb.2 ⟨1,hb⟩
   simp only[Ss.fo,qaz,qfG,qaO,qaW,qmW,qde,qaB,if_true] at hd hm
   obtain⟨w1,e1⟩ : ∃ v,v=pw w ([⟨#[119,104,105,108,101]⟩]++(c.tx false 1++(⟨#[123]⟩::(b1.tx++[⟨#[125]⟩])))):=⟨_,rfl⟩
   have e2:w'=pw w1 r.tx:=by
    rw[hw,e1,<- qao]
    simp only[Ss.tx,List.cons_append,List.nil_append,List.append_assoc,qcR,if_true,Bool.false_eq_true,if_false]
    rfl
   exact qfI hd rfl rfl (by omega) hm2 (qrk (fc:=false) (pe1 hc) hrow.1 e1 (qaj e2 hs)) (ih.1 hr cs m (i+1) f w1 w' (qcA hd) (by omega) hm2 e2 hs)
  | false=>
   obtain⟨fb,b1,fc,b2,rfl,hb1,hb2⟩:=qo3 hb
   have hrow:=ihb.2 ⟨2,hb⟩
   simp only[Ss.fo,qaz,qfG,qaO,qaW,qmW,qde,qaB,Bool.false_eq_true,if_false] at hd hm
   cases hl:b2.fo.len with
   | zero=>
    have hn:=qfu hl
    obtain⟨w1,e1⟩ : ∃ v,v=pw w ([⟨#[105,102]⟩]++(c.tx false 1++(⟨#[123]⟩::(b1.tx++[⟨#[125]⟩])))):=⟨_,rfl⟩
    have e2:w'=pw w1 r.tx:=by
     rw[hw,e1,<- qao,hn]
     simp only[Ss.tx,List.cons_append,List.nil_append,List.append_assoc,qcR,if_true,Bool.false_eq_true,if_false]
     rfl
    exact qfI hd rfl rfl (by omega) hm2 (qvS (pe1 hc) hrow.1 hl e1 (qaj e2 hs)) (ih.1 hr cs m (i+1) f w1 w' (qcA hd) (by omega) hm2 e2 hs)
   | succ q=>
    have he:qcR (.block fc b2 .nil)=true:=by cases b2<;>first | rfl | simp[Ss.fo] at hl
    obtain⟨w1,e1⟩ : ∃ v,v=pw w ([⟨#[105,102]⟩]++(c.tx false 1++((⟨#[123]⟩::(b1.tx++[⟨#[125]⟩]))++([⟨#[101,108,115,101]⟩]++(⟨#[123]⟩::(b2.tx++[⟨#[125]⟩])))))):=⟨_,rfl⟩
    have e2:w'=pw w1 r.tx:=by
     rw[hw,e1,<- qao]
     simp only[Ss.tx,he,List.cons_append,List.nil_append,List.append_assoc,if_true,Bool.false_eq_true,if_false]
     rfl
    exact qfI hd rfl rfl (by omega) hm2 (qvT (pe1 hc) hrow.1 (by omega) hrow.2.1 e1 (qaj e2 hs)) (ih.1 hr cs m (i+1) f w1 w' (qcA hd) (by omega) hm2 e2 hs)
 | block g b r ihb ih=>
  refine⟨fun h=>?_,fun ⟨k,h⟩=>?_⟩
  ·obtain⟨n,hn,_⟩:=h; cases hn
  ·obtain⟨n,hn,hb,hr⟩:=h
   exact⟨qmn hb (ihb.1 hb),ih.2 ⟨n,hr⟩⟩
end Go.Pm
end SOi
