/- Chapter 13's reference printer: expressions. Chapter 13's reference printer: statements, each kind. Chapter 13's reference printer: every row of statements. Chapter 13's reference printer: Print, whole. The abstract machine's programs: tables of functions. Chapter 13's parser: letters, digits, symbols, rows of texts. -/
import Derived.Test.YtjdbkncfebebnaaDoorPmG5
import Derived.Test.YtjdbkncfebebnaaDoorPmFx
import Derived.Test.YtjdbkncfebebnaaDoorPmYh
import Derived.Test.YtjdbkncfebebnaaDoorPmF3
import Derived.Test.YtjdbkncfebebnaaDoorPmEt
set_option linter.unusedSimpArgs false
set_option linter.unusedVariables false
section SSb
namespace Go.Pm
open F
set_option maxHeartbeats 8000000
theorem qeg (e:E):Z tS (.call 261 [e.node] [])=some (.ret (.int e.lev) []):=by
 refine Z_call (pf:=F261) rfl rfl ?_
 cases e with
 | un f neg e=>cases neg<;>simp[F261,E.lev,qdI,ustr,qa7]
 | bin f o a b=>cases o<;>simp[F261,E.lev,Bop.prec,Bop.str,qa7]
 | _=>simp[F261,E.lev]
inductive Parts:List ByteArray->List ByteArray->Prop
 | nil:Parts [] []
 | tok {t:ByteArray} {l ts:List ByteArray} (h:Parts l ts):Parts (t::l) (t::ts)
 | sub {a l ts:List ByteArray} (ha : ∀ t∈a,t.size≠0) (h:Parts l ts):Parts (bs (qah false a)::l) (a++ts)
theorem qpf {l ts:List ByteArray} (h:Parts l ts) : ∀ w,pw w l=pw w ts:=by
 induction h with
 | nil=>intro w; rfl
 | tok h ih=>intro w; rw[qc3,qc3,ih]
 | sub ha h ih=>intro w; rw[qll w ha,qiv,qiv,ih]
theorem qdq {l ts:List ByteArray} {R:ByteArray} (hp:Parts l ts) (hR:R=bs (qah false ts)) (hn:l.length<2 ^ 30) (hsz:R.size<2 ^ 40):Z tS (.call 247 [.dat (.sl (qaW l) l.length true)] [])=some (.ret (.str R) []):=
 qvB true (by rw[hR,qpf hp,qoo]) hn hsz
theorem qfH (ts:List ByteArray) (p:Bool):(qah false ts).length<=(qah p ts).length:=by
 cases ts with
 | nil=>simp[qah]
 | cons t ts=>
  simp only[qah,List.length_append]
  have:(gap false t).length=0:=rfl
  cases hb:byl t with
  | nil=>
   have e : ∀ q,qbb q t=q:=fun q=>by unfold qbb; rw[hb]; rfl
   rw[e,e]
   have:=qfH ts p
   simp[gap]
   omega
  | cons c r=>
   have e:qbb p t=qbb false t:=by
    unfold qbb
    cases hl:(byl t).getLast? with
    | none=>rw[List.getLast?_eq_none_iff] at hl; rw[hl] at hb; cases hb
    | some c=>rfl
   rw[e]
   omega
theorem qap (a b c:List ByteArray) (p:Bool):(qah false b).length<=(qah p (a++(b++c))).length:=by
 rw[qd6,qd6,List.length_append,List.length_append]
 have:=qfH b (qmy p a)
 omega
theorem qhj (ts:List ByteArray):qah false (bs [40]::(ts++[bs [41]]))=40::(qah false ts++[41]):=by
 have e1:qbb false (bs [40])=false:=by decide
 have g1:gap false (bs [40])=[]:=rfl
 have g2 : ∀ q,gap q (bs [41])=[]:=fun q=>by cases q<;>decide
 rw[qah,e1,g1,qd6,qah,g2]
 simp[qah,qaP]
def qdb (e:E) (full:Bool) (p:Nat) (i:Int):Prop:=(qah false (e.tx full p)).length<2 ^ 40->Z tS (.call 246 [e.node,.int i,.bool full] [])=some (.ret (.str (bs (qah false (e.tx full p)))) [])
theorem qbE (full:Bool) {e:E} (h:e.good) (p:Nat) : ∀ t∈e.tx full p,t.size≠0:=fun t ht=>qfQ (qiF (qhm full e h p).ok t ht)
theorem qs9 {full:Bool} {n:Int} (h0:0<=n) (h1:n<=2147483647) {p:Nat} {i:Int} (hi:i=p) (hp:p<=8):qdb (E.int n) full p i:=by
 intro hsz
 have zl:Z tS (.call 261 [.dat (.agg [.lit (.int .i64 8),.lit (.int .i64 n),.lit (.string ⟨#[]⟩),.lit (.slice none 0 0)])] [])=some (.ret (.int 8) []):=qeg (.int n)
 have hc : ¬ (8:Int)<i:=by omega
 have hq : ¬ 8<p:=by omega
 have f0:Z tS (.call 20 [.int n] [])=some (.ret (.str (bs (qiw n.toNat))) []):=by
  have:=qnU (n:=n.toNat) (by omega)
  rw[show ((n.toNat:Nat):Int)=n by omega] at this
  exact this
 have htx:(E.int n).tx full p=[bs (qiw n.toNat)]:=by simp[E.tx,qb7,qdI,ustr,bs,qgA,qkp,Bop.left]
 have hfin:bs (qah false ((E.int n).tx full p))=(bs (qiw n.toNat)):=by
  rw[htx,qah,qah,List.append_nil]
  exact qcA (bs (qiw n.toNat))
 rw[hfin]
 clear hfin htx hsz
 refine Z_call (pf:=F246) rfl rfl ?_
 cases full<;>simp[F246,qaq,zl,hc,f0]
theorem qpg {full:Bool}  {p:Nat} {i:Int} (hi:i=p) (hp:p<=8):qdb (E.bool 0) full p i:=by
 intro hsz
 have zl:Z tS (.call 261 [.dat (.agg [.lit (.int .i64 9),.lit (.int .i64 0),.lit (.string ⟨#[]⟩),.lit (.slice none 0 0)])] [])=some (.ret (.int 8) []):=qeg (.bool 0)
 have hc : ¬ (8:Int)<i:=by omega
 have hq : ¬ 8<p:=by omega
 have htx:(E.bool 0).tx full p=[⟨#[102,97,108,115,101]⟩]:=by simp[E.tx,qb7,qdI,ustr,bs,qgA,qkp,Bop.left]
 have hfin:bs (qah false ((E.bool 0).tx full p))=(⟨#[102,97,108,115,101]⟩):=by
  rw[htx,qah,qah,List.append_nil]
  exact qcA (⟨#[102,97,108,115,101]⟩)
 rw[hfin]
 clear hfin htx hsz
 refine Z_call (pf:=F246) rfl rfl ?_
 cases full<;>simp[F246,qaq,zl,hc]
theorem qph {full:Bool}  {p:Nat} {i:Int} (hi:i=p) (hp:p<=8):qdb (E.bool 1) full p i:=by
 intro hsz
 have zl:Z tS (.call 261 [.dat (.agg [.lit (.int .i64 9),.lit (.int .i64 1),.lit (.string ⟨#[]⟩),.lit (.slice none 0 0)])] [])=some (.ret (.int 8) []):=qeg (.bool 1)
 have hc : ¬ (8:Int)<i:=by omega
 have hq : ¬ 8<p:=by omega
 have htx:(E.bool 1).tx full p=[⟨#[116,114,117,101]⟩]:=by simp[E.tx,qb7,qdI,ustr,bs,qgA,qkp,Bop.left]
 have hfin:bs (qah false ((E.bool 1).tx full p))=(⟨#[116,114,117,101]⟩):=by
  rw[htx,qah,qah,List.append_nil]
  exact qcA (⟨#[116,114,117,101]⟩)
 rw[hfin]
 clear hfin htx hsz
 refine Z_call (pf:=F246) rfl rfl ?_
 cases full<;>simp[F246,qaq,zl,hc]
theorem qta {full:Bool} {s:ByteArray} {p:Nat} {i:Int} (hi:i=p) (hp:p<=8):qdb (E.var s) full p i:=by
 intro hsz
 have zl:Z tS (.call 261 [.dat (.agg [.lit (.int .i64 10),.lit (.int .i64 0),.lit (.string s),.lit (.slice none 0 0)])] [])=some (.ret (.int 8) []):=qeg (.var s)
 have hc : ¬ (8:Int)<i:=by omega
 have hq : ¬ 8<p:=by omega
 have htx:(E.var s).tx full p=[s]:=by simp[E.tx,qb7,qdI,ustr,bs,qgA,qkp,Bop.left]
 have hfin:bs (qah false ((E.var s).tx full p))=(s):=by
  rw[htx,qah,qah,List.append_nil]
  exact qcA (s)
 rw[hfin]
 clear hfin htx hsz
 refine Z_call (pf:=F246) rfl rfl ?_
 cases full<;>simp[F246,qaq,zl,hc]
theorem qrd {full:Bool} {s:ByteArray} {p:Nat} {i:Int} (hi:i=p) (hp:p<=8):qdb (E.name s) full p i:=by
 intro hsz
 have zl:Z tS (.call 261 [.dat (.agg [.lit (.int .i64 12),.lit (.int .i64 0),.lit (.string s),.lit (.slice none 0 0)])] [])=some (.ret (.int 8) []):=qeg (.name s)
 have hc : ¬ (8:Int)<i:=by omega
 have hq : ¬ 8<p:=by omega
 have htx:(E.name s).tx full p=[s]:=by simp[E.tx,qb7,qdI,ustr,bs,qgA,qkp,Bop.left]
 have hfin:bs (qah false ((E.name s).tx full p))=(s):=by
  rw[htx,qah,qah,List.append_nil]
  exact qcA (s)
 rw[hfin]
 clear hfin htx hsz
 refine Z_call (pf:=F246) rfl rfl ?_
 cases full<;>simp[F246,qaq,zl,hc]
theorem qpi {full:Bool} {f:Bool} {s:ByteArray} {e:E} (ge:e.good) (he:qdb e full 1 1) {p:Nat} {i:Int} (hi:i=p) (hp:p<=8):qdb (E.field f s e) full p i:=by
 intro hsz
 have zl:Z tS (.call 261 [.dat (.agg [.lit (.int .i64 11),.lit (.int .i64 0),.lit (.string s),.sl [.lit (.int .i64 e.kind),.lit (.int .i64 e.num),.lit (.string e.str),e.kids] 1 f])] [])=some (.ret (.int 8) []):=qeg (.field f s e)
 have hc : ¬ (8:Int)<i:=by omega
 have hq : ¬ 8<p:=by omega
 obtain⟨inn,hinn⟩ : ∃ v,v=[s]++([⟨#[91]⟩]++(e.tx full 1++([⟨#[93]⟩]++[]))):=⟨_,rfl⟩
 have htx:(E.field f s e).tx full p=inn:=by
  rw[hinn]
  simp[E.tx,qb7,qdI,ustr,bs,qgA,qkp,Bop.left,hq]
 rw[htx] at hsz ⊢
 have hin:=hsz
 have z2:=he (Nat.lt_of_le_of_lt (by
  have:=qap ([s]++([⟨#[91]⟩])) (e.tx full 1) ([⟨#[93]⟩]++[]) false
  try simp only[List.append_assoc,List.nil_append] at this
  rw[hinn]
  exact this) hin)
 have hP:Parts [s,⟨#[91]⟩,bs (qah false (e.tx full 1)),⟨#[93]⟩] inn:=by rw[hinn]; exact (.tok (.tok (.sub (qbE full ge 1) (.tok .nil))))
 obtain⟨R,hR⟩ : ∃ v,v=bs (qah false inn):=⟨_,rfl⟩
 have hRs:R.size<2 ^ 40:=by rw[hR,qao]; exact hin
 have za:Z tS (.call 247 [.dat (.sl [.lit (.string s),.lit (.string ⟨#[91]⟩),.lit (.string (bs (qah false (e.tx full 1)))),.lit (.string ⟨#[93]⟩)] 4 true)] [])=some (.ret (.str R) []):=qdq hP hR (by simp) hRs
 generalize bs (qah false (e.tx full 1))=r2 at *
 rw[<- hR]
 clear hP hR hinn htx hsz hin
 refine Z_call (pf:=F246) rfl rfl ?_
 cases full<;>simp[F246,qaq,zl,hc,z2,za]
theorem quW {f neg:Bool} {e:E} {L:Nat} (hL:L=qdI neg) (ge:e.good) (he:qdb e false L L) {p:Nat} {i:Int} (hi:i=p) (hp:p<=L):qdb (E.un f neg e) false p i:=by
 intro hsz
 have zl:Z tS (.call 261 [.dat (.agg [.lit (.int .i64 13),.lit (.int .i64 0),.lit (.string (ustr neg)),.sl [.lit (.int .i64 e.kind),.lit (.int .i64 e.num),.lit (.string e.str),e.kids] 1 f])] [])=some (.ret (.int L) []):=by
  have:=qeg (.un f neg e)
  rw[show E.lev (.un f neg e)=L from hL.symm] at this
  exact this
 have hc : ¬ (L:Int)<i:=by omega
 have hq : ¬ L<p:=by omega
 have h8:(L:Int)<8:=by rw[hL]; cases neg<;>decide
 obtain⟨inn,hinn⟩ : ∃ v,v=[(ustr neg)]++(e.tx false L++[]):=⟨_,rfl⟩
 have htx:(E.un f neg e).tx false p=inn:=by
  rw[hinn]
  simp[E.tx,qb7,bs,hL.symm,hq]
 rw[htx] at hsz ⊢
 have hin:=hsz
 have z1:=he (Nat.lt_of_le_of_lt (by
  have:=qap ([(ustr neg)]) (e.tx false L) ([]) false
  try simp only[List.append_assoc,List.nil_append] at this
  rw[hinn]
  exact this) hin)
 have hP:Parts [(ustr neg),bs (qah false (e.tx false L))] inn:=by rw[hinn]; exact (.tok (.sub (qbE false ge L) .nil))
 obtain⟨R,hR⟩ : ∃ v,v=bs (qah false inn):=⟨_,rfl⟩
 have hRs:R.size<2 ^ 40:=by rw[hR,qao]; exact hin
 have za:Z tS (.call 247 [.dat (.sl [.lit (.string (ustr neg)),.lit (.string (bs (qah false (e.tx false L))))] 2 true)] [])=some (.ret (.str R) []):=qdq hP hR (by simp) hRs
 generalize bs (qah false (e.tx false L))=r1 at *
 rw[<- hR]
 clear hP hR hinn htx hsz hin
 refine Z_call (pf:=F246) rfl rfl ?_
 simp[F246,qaq,zl,hc,z1,za,h8]
theorem qtb {f neg:Bool} {e:E} {L:Nat} (hL:L=qdI neg) (ge:e.good) (he:qdb e false L L) {p:Nat} {i:Int} (hi:i=p) (hp:L<p):qdb (E.un f neg e) false p i:=by
 intro hsz
 have zl:Z tS (.call 261 [.dat (.agg [.lit (.int .i64 13),.lit (.int .i64 0),.lit (.string (ustr neg)),.sl [.lit (.int .i64 e.kind),.lit (.int .i64 e.num),.lit (.string e.str),e.kids] 1 f])] [])=some (.ret (.int L) []):=by
  have:=qeg (.un f neg e)
  rw[show E.lev (.un f neg e)=L from hL.symm] at this
  exact this
 have hc:(L:Int)<i:=by omega
 have hq:L<p:=hp
 have h8:(L:Int)<8:=by rw[hL]; cases neg<;>decide
 obtain⟨inn,hinn⟩ : ∃ v,v=[(ustr neg)]++(e.tx false L++[]):=⟨_,rfl⟩
 have htx:(E.un f neg e).tx false p=bs [40]::(inn++[bs [41]]):=by
  rw[hinn]
  simp[E.tx,qb7,bs,hL.symm,hq]
 rw[htx] at hsz ⊢
 rw[qhj] at hsz ⊢
 have hin:(qah false inn).length<2 ^ 40:=by simp at hsz; omega
 have hin2:(qah false inn).length+2<2 ^ 40:=by simp at hsz; omega
 have z1:=he (Nat.lt_of_le_of_lt (by
  have:=qap ([(ustr neg)]) (e.tx false L) ([]) false
  try simp only[List.append_assoc,List.nil_append] at this
  rw[hinn]
  exact this) hin)
 have hP:Parts [(ustr neg),bs (qah false (e.tx false L))] inn:=by rw[hinn]; exact (.tok (.sub (qbE false ge L) .nil))
 obtain⟨R,hR⟩ : ∃ v,v=bs (qah false inn):=⟨_,rfl⟩
 have hRs:R.size<2 ^ 40:=by rw[hR,qao]; exact hin
 have za:Z tS (.call 247 [.dat (.sl [.lit (.string (ustr neg)),.lit (.string (bs (qah false (e.tx false L))))] 2 true)] [])=some (.ret (.str R) []):=qdq hP hR (by simp) hRs
 generalize bs (qah false (e.tx false L))=r1 at *
 have hfin:bs (40::(qah false inn++[41]))=⟨#[40]⟩++R++⟨#[41]⟩:=by
  rw[qco,qco ⟨#[40]⟩,qaP,hR,qaP]
  simp[byl]
 rw[hfin]
 have hRl:R.size+2<2 ^ 40:=by rw[hR,qao]; exact hin2
 have y1:((⟨#[40]⟩:ByteArray).size:Int)=1:=rfl
 have y2:((⟨#[41]⟩:ByteArray).size:Int)=1:=rfl
 have y3:(⟨#[40]⟩:ByteArray).size=1:=rfl
 have y4:(⟨#[41]⟩:ByteArray).size=1:=rfl
 have y5 : ¬ (9223372036854775807:Int)<1+(R.size:Int):=by omega
 have y6 : ¬ (9223372036854775807:Int)<1+(R.size:Int)+1:=by omega
 have y7:(⟨#[40]⟩++R:ByteArray).size=1+R.size:=by rw[ByteArray.size_append]; rfl
 clear hP hR hinn htx hsz hin hin2 hfin
 refine Z_call (pf:=F246) rfl rfl ?_
 simp[F246,qaq,zl,hc,y1,y2,y3,y4,y5,y6,y7,z1,za,h8]
theorem qtc {f:Bool} {o:Bop} {a b:E} {L:Nat} (hl:o.prec=L) (h4:L≠4) (ga:a.good) (gb:b.good) (ha:qdb a false L L) (hb:qdb b false (L+1) ((L:Int)+1)) {p:Nat} {i:Int} (hi:i=p) (hp:p<=L):qdb (E.bin f o a b) false p i:=by
 intro hsz
 have zl:Z tS (.call 261 [.dat (.agg [.lit (.int .i64 14),.lit (.int .i64 0),.lit (.string o.str),.sl [.lit (.int .i64 a.kind),.lit (.int .i64 a.num),.lit (.string a.str),a.kids,.lit (.int .i64 b.kind),.lit (.int .i64 b.num),.lit (.string b.str),b.kids] 2 f])] [])=some (.ret (.int L) []):=by
  have:=qeg (.bin f o a b)
  rw[show E.lev (.bin f o a b)=L from hl] at this
  exact this
 have hc : ¬ (L:Int)<i:=by omega
 have hq : ¬ L<p:=by omega
 have hlf:o.left=L:=by have:=qbP o; omega
 have h4' : ¬ (L:Int)=4:=by omega
 have h8:(L:Int)<8:=by have:=qbP o; omega
 have w1:=qal ((L:Int)+1) (by omega)
 obtain⟨inn,hinn⟩ : ∃ v,v=a.tx false L++([o.str]++(b.tx false (L+1)++[])):=⟨_,rfl⟩
 have htx:(E.bin f o a b).tx false p=inn:=by
  rw[hinn]
  simp[E.tx,qb7,bs,hl,hlf,hq]
 rw[htx] at hsz ⊢
 have hin:=hsz
 have z0:=ha (Nat.lt_of_le_of_lt (by
  have:=qap ([]) (a.tx false L) ([o.str]++(b.tx false (L+1)++[])) false
  try simp only[List.append_assoc,List.nil_append] at this
  rw[hinn]
  exact this) hin)
 have z2:=hb (Nat.lt_of_le_of_lt (by
  have:=qap (a.tx false L++([o.str])) (b.tx false (L+1)) ([]) false
  try simp only[List.append_assoc,List.nil_append] at this
  rw[hinn]
  exact this) hin)
 have hP:Parts [bs (qah false (a.tx false L)),o.str,bs (qah false (b.tx false (L+1)))] inn:=by rw[hinn]; exact (.sub (qbE false ga L) (.tok (.sub (qbE false gb (L+1)) .nil)))
 obtain⟨R,hR⟩ : ∃ v,v=bs (qah false inn):=⟨_,rfl⟩
 have hRs:R.size<2 ^ 40:=by rw[hR,qao]; exact hin
 have za:Z tS (.call 247 [.dat (.sl [.lit (.string (bs (qah false (a.tx false L)))),.lit (.string o.str),.lit (.string (bs (qah false (b.tx false (L+1)))))] 3 true)] [])=some (.ret (.str R) []):=qdq hP hR (by simp) hRs
 generalize bs (qah false (a.tx false L))=r0 at *
 generalize bs (qah false (b.tx false (L+1)))=r2 at *
 rw[<- hR]
 clear hP hR hinn htx hsz hin
 refine Z_call (pf:=F246) rfl rfl ?_
 simp[F246,qaq,zl,hc,z0,z2,za,h4',h8,w1]
theorem qre {f:Bool} {o:Bop} {a b:E} {L:Nat} (hl:o.prec=L) (h4:L≠4) (ga:a.good) (gb:b.good) (ha:qdb a false L L) (hb:qdb b false (L+1) ((L:Int)+1)) {p:Nat} {i:Int} (hi:i=p) (hp:L<p):qdb (E.bin f o a b) false p i:=by
 intro hsz
 have zl:Z tS (.call 261 [.dat (.agg [.lit (.int .i64 14),.lit (.int .i64 0),.lit (.string o.str),.sl [.lit (.int .i64 a.kind),.lit (.int .i64 a.num),.lit (.string a.str),a.kids,.lit (.int .i64 b.kind),.lit (.int .i64 b.num),.lit (.string b.str),b.kids] 2 f])] [])=some (.ret (.int L) []):=by
  have:=qeg (.bin f o a b)
  rw[show E.lev (.bin f o a b)=L from hl] at this
  exact this
 have hc:(L:Int)<i:=by omega
 have hq:L<p:=hp
 have hlf:o.left=L:=by have:=qbP o; omega
 have h4' : ¬ (L:Int)=4:=by omega
 have h8:(L:Int)<8:=by have:=qbP o; omega
 have w1:=qal ((L:Int)+1) (by omega)
 obtain⟨inn,hinn⟩ : ∃ v,v=a.tx false L++([o.str]++(b.tx false (L+1)++[])):=⟨_,rfl⟩
 have htx:(E.bin f o a b).tx false p=bs [40]::(inn++[bs [41]]):=by
  rw[hinn]
  simp[E.tx,qb7,bs,hl,hlf,hq]
 rw[htx] at hsz ⊢
 rw[qhj] at hsz ⊢
 have hin:(qah false inn).length<2 ^ 40:=by simp at hsz; omega
 have hin2:(qah false inn).length+2<2 ^ 40:=by simp at hsz; omega
 have z0:=ha (Nat.lt_of_le_of_lt (by
  have:=qap ([]) (a.tx false L) ([o.str]++(b.tx false (L+1)++[])) false
  try simp only[List.append_assoc,List.nil_append] at this
  rw[hinn]
  exact this) hin)
 have z2:=hb (Nat.lt_of_le_of_lt (by
  have:=qap (a.tx false L++([o.str])) (b.tx false (L+1)) ([]) false
  try simp only[List.append_assoc,List.nil_append] at this
  rw[hinn]
  exact this) hin)
 have hP:Parts [bs (qah false (a.tx false L)),o.str,bs (qah false (b.tx false (L+1)))] inn:=by rw[hinn]; exact (.sub (qbE false ga L) (.tok (.sub (qbE false gb (L+1)) .nil)))
 obtain⟨R,hR⟩ : ∃ v,v=bs (qah false inn):=⟨_,rfl⟩
 have hRs:R.size<2 ^ 40:=by rw[hR,qao]; exact hin
 have za:Z tS (.call 247 [.dat (.sl [.lit (.string (bs (qah false (a.tx false L)))),.lit (.string o.str),.lit (.string (bs (qah false (b.tx false (L+1)))))] 3 true)] [])=some (.ret (.str R) []):=qdq hP hR (by simp) hRs
 generalize bs (qah false (a.tx false L))=r0 at *
 generalize bs (qah false (b.tx false (L+1)))=r2 at *
 have hfin:bs (40::(qah false inn++[41]))=⟨#[40]⟩++R++⟨#[41]⟩:=by
  rw[qco,qco ⟨#[40]⟩,qaP,hR,qaP]
  simp[byl]
 rw[hfin]
 have hRl:R.size+2<2 ^ 40:=by rw[hR,qao]; exact hin2
 have y1:((⟨#[40]⟩:ByteArray).size:Int)=1:=rfl
 have y2:((⟨#[41]⟩:ByteArray).size:Int)=1:=rfl
 have y3:(⟨#[40]⟩:ByteArray).size=1:=rfl
 have y4:(⟨#[41]⟩:ByteArray).size=1:=rfl
 have y5 : ¬ (9223372036854775807:Int)<1+(R.size:Int):=by omega
 have y6 : ¬ (9223372036854775807:Int)<1+(R.size:Int)+1:=by omega
 have y7:(⟨#[40]⟩++R:ByteArray).size=1+R.size:=by rw[ByteArray.size_append]; rfl
 clear hP hR hinn htx hsz hin hin2 hfin
 refine Z_call (pf:=F246) rfl rfl ?_
 simp[F246,qaq,zl,hc,y1,y2,y3,y4,y5,y6,y7,z0,z2,za,h4',h8,w1]
theorem qrf {f:Bool} {o:Bop} {a b:E} (hl:o.prec=4) (ga:a.good) (gb:b.good) (ha:qdb a false 5 5) (hb:qdb b false 5 5) {p:Nat} {i:Int} (hi:i=p) (hp:p<=4):qdb (E.bin f o a b) false p i:=by
 intro hsz
 have zl:Z tS (.call 261 [.dat (.agg [.lit (.int .i64 14),.lit (.int .i64 0),.lit (.string o.str),.sl [.lit (.int .i64 a.kind),.lit (.int .i64 a.num),.lit (.string a.str),a.kids,.lit (.int .i64 b.kind),.lit (.int .i64 b.num),.lit (.string b.str),b.kids] 2 f])] [])=some (.ret (.int 4) []):=by
  have:=qeg (.bin f o a b)
  rw[show E.lev (.bin f o a b)=4 from hl] at this
  exact this
 have hc : ¬ (4:Int)<i:=by omega
 have hq : ¬ 4<p:=by omega
 have hlf:o.left=5:=by have:=qbP o; omega
 obtain⟨inn,hinn⟩ : ∃ v,v=a.tx false 5++([o.str]++(b.tx false 5++[])):=⟨_,rfl⟩
 have htx:(E.bin f o a b).tx false p=inn:=by
  rw[hinn]
  simp[E.tx,qb7,bs,hl,hlf,hq]
 rw[htx] at hsz ⊢
 have hin:=hsz
 have z0:=ha (Nat.lt_of_le_of_lt (by
  have:=qap ([]) (a.tx false 5) ([o.str]++(b.tx false 5++[])) false
  try simp only[List.append_assoc,List.nil_append] at this
  rw[hinn]
  exact this) hin)
 have z2:=hb (Nat.lt_of_le_of_lt (by
  have:=qap (a.tx false 5++([o.str])) (b.tx false 5) ([]) false
  try simp only[List.append_assoc,List.nil_append] at this
  rw[hinn]
  exact this) hin)
 have hP:Parts [bs (qah false (a.tx false 5)),o.str,bs (qah false (b.tx false 5))] inn:=by rw[hinn]; exact (.sub (qbE false ga 5) (.tok (.sub (qbE false gb 5) .nil)))
 obtain⟨R,hR⟩ : ∃ v,v=bs (qah false inn):=⟨_,rfl⟩
 have hRs:R.size<2 ^ 40:=by rw[hR,qao]; exact hin
 have za:Z tS (.call 247 [.dat (.sl [.lit (.string (bs (qah false (a.tx false 5)))),.lit (.string o.str),.lit (.string (bs (qah false (b.tx false 5))))] 3 true)] [])=some (.ret (.str R) []):=qdq hP hR (by simp) hRs
 generalize bs (qah false (a.tx false 5))=r0 at *
 generalize bs (qah false (b.tx false 5))=r2 at *
 rw[<- hR]
 clear hP hR hinn htx hsz hin
 refine Z_call (pf:=F246) rfl rfl ?_
 simp[F246,qaq,zl,hc,z0,z2,za,qal 5 (by omega)]
theorem qpj {f:Bool} {o:Bop} {a b:E} (hl:o.prec=4) (ga:a.good) (gb:b.good) (ha:qdb a false 5 5) (hb:qdb b false 5 5) {p:Nat} {i:Int} (hi:i=p) (hp:4<p):qdb (E.bin f o a b) false p i:=by
 intro hsz
 have zl:Z tS (.call 261 [.dat (.agg [.lit (.int .i64 14),.lit (.int .i64 0),.lit (.string o.str),.sl [.lit (.int .i64 a.kind),.lit (.int .i64 a.num),.lit (.string a.str),a.kids,.lit (.int .i64 b.kind),.lit (.int .i64 b.num),.lit (.string b.str),b.kids] 2 f])] [])=some (.ret (.int 4) []):=by
  have:=qeg (.bin f o a b)
  rw[show E.lev (.bin f o a b)=4 from hl] at this
  exact this
 have hc:(4:Int)<i:=by omega
 have hq:4<p:=hp
 have hlf:o.left=5:=by have:=qbP o; omega
 obtain⟨inn,hinn⟩ : ∃ v,v=a.tx false 5++([o.str]++(b.tx false 5++[])):=⟨_,rfl⟩
 have htx:(E.bin f o a b).tx false p=bs [40]::(inn++[bs [41]]):=by
  rw[hinn]
  simp[E.tx,qb7,bs,hl,hlf,hq]
 rw[htx] at hsz ⊢
 rw[qhj] at hsz ⊢
 have hin:(qah false inn).length<2 ^ 40:=by simp at hsz; omega
 have hin2:(qah false inn).length+2<2 ^ 40:=by simp at hsz; omega
 have z0:=ha (Nat.lt_of_le_of_lt (by
  have:=qap ([]) (a.tx false 5) ([o.str]++(b.tx false 5++[])) false
  try simp only[List.append_assoc,List.nil_append] at this
  rw[hinn]
  exact this) hin)
 have z2:=hb (Nat.lt_of_le_of_lt (by
  have:=qap (a.tx false 5++([o.str])) (b.tx false 5) ([]) false
  try simp only[List.append_assoc,List.nil_append] at this
  rw[hinn]
  exact this) hin)
 have hP:Parts [bs (qah false (a.tx false 5)),o.str,bs (qah false (b.tx false 5))] inn:=by rw[hinn]; exact (.sub (qbE false ga 5) (.tok (.sub (qbE false gb 5) .nil)))
 obtain⟨R,hR⟩ : ∃ v,v=bs (qah false inn):=⟨_,rfl⟩
 have hRs:R.size<2 ^ 40:=by rw[hR,qao]; exact hin
 have za:Z tS (.call 247 [.dat (.sl [.lit (.string (bs (qah false (a.tx false 5)))),.lit (.string o.str),.lit (.string (bs (qah false (b.tx false 5))))] 3 true)] [])=some (.ret (.str R) []):=qdq hP hR (by simp) hRs
 generalize bs (qah false (a.tx false 5))=r0 at *
 generalize bs (qah false (b.tx false 5))=r2 at *
 have hfin:bs (40::(qah false inn++[41]))=⟨#[40]⟩++R++⟨#[41]⟩:=by
  rw[qco,qco ⟨#[40]⟩,qaP,hR,qaP]
  simp[byl]
 rw[hfin]
 have hRl:R.size+2<2 ^ 40:=by rw[hR,qao]; exact hin2
 have y1:((⟨#[40]⟩:ByteArray).size:Int)=1:=rfl
 have y2:((⟨#[41]⟩:ByteArray).size:Int)=1:=rfl
 have y3:(⟨#[40]⟩:ByteArray).size=1:=rfl
 have y4:(⟨#[41]⟩:ByteArray).size=1:=rfl
 have y5 : ¬ (9223372036854775807:Int)<1+(R.size:Int):=by omega
 have y6 : ¬ (9223372036854775807:Int)<1+(R.size:Int)+1:=by omega
 have y7:(⟨#[40]⟩++R:ByteArray).size=1+R.size:=by rw[ByteArray.size_append]; rfl
 clear hP hR hinn htx hsz hin hin2 hfin
 refine Z_call (pf:=F246) rfl rfl ?_
 simp[F246,qaq,zl,hc,y1,y2,y3,y4,y5,y6,y7,z0,z2,za,qal 5 (by omega)]
theorem qkf : ∀ e:E,e.good -> ∀ p i,i=((p:Nat):Int)->p<=8->qdb e false p i
 | .int n,h,p,i,hi,hp=>qs9 h.1 h.2 hi hp
 | .bool n,h,p,i,hi,hp=>by
  rcases h with rfl | rfl
  ·exact qpg hi hp
  ·exact qph hi hp
 | .var s,h,p,i,hi,hp=>qta hi hp
 | .name s,h,p,i,hi,hp=>qrd hi hp
 | .field f s e,h,p,i,hi,hp=>qpi h.2 (qkf e h.2 1 1 rfl (by omega)) hi hp
 | .un f neg e,h,p,i,hi,hp=>by
  have hg:e.good:=h
  have A:=qkf e hg (qdI neg) (qdI neg) rfl (by cases neg<;>decide)
  by_cases hq:qdI neg<p
  ·exact qtb rfl hg A hi hq
  ·exact quW rfl hg A hi (by omega)
 | .bin f o a b,h,p,i,hi,hp=>by
  have hr:=qbP o
  have A:=qkf a h.1 o.left o.left rfl (by omega)
  have B:=qkf b h.2 (o.prec+1) ((o.prec:Int)+1) (by omega) (by omega)
  by_cases h4:o.prec=4
  ·rw[show o.left=5 by omega] at A
   rw[h4] at B
   by_cases hq:4<p
   ·exact qpj h4 h.1 h.2 A B hi hq
   ·exact qrf h4 h.1 h.2 A B hi (by omega)
  ·rw[show o.left=o.prec by omega] at A
   by_cases hq:o.prec<p
   ·exact qre rfl h4 h.1 h.2 A B hi hq
   ·exact qtc rfl h4 h.1 h.2 A B hi (by omega)
theorem qgy {e:E} (h:e.good) (hsz:(qah false (e.tx false 1)).length<2 ^ 40):Z tS (.call 234 [e.node] [])=some (.ret (.str (bs (qah false (e.tx false 1)))) []):=by
 have z:=qkf e h 1 1 rfl (by omega) hsz
 generalize bs (qah false (e.tx false 1))=R at *
 refine Z_call (pf:=F234) rfl rfl ?_
 simp[F234,z]
end Go.Pm
end SSb
section SSc
namespace Go.Pm
open F
set_option maxHeartbeats 8000000
def Ss.btx (b:Ss):List ByteArray:=⟨#[123]⟩::(b.tx++[⟨#[125]⟩])
def qh2 (b:Ss):Prop:=(∀ t∈b.tx,t.size≠0) /\ ∀ (k n:Int) (s:ByteArray) (f:Bool),(qah false b.btx).length<2 ^ 40->Z tS (.call 248 [.dat (.agg [.lit (.int .i64 k),.lit (.int .i64 n),.lit (.string s),kd f b.fo.len b.fo.cells])] [])=some (.ret (.str (bs (qah false b.btx))) [])
theorem qeb {b:Ss} (h : ∀ t∈b.tx,t.size≠0) : ∀ t∈b.btx,t.size≠0:=by
 intro t ht
 rcases List.mem_cons.1 ht with rfl | ht
 ·decide
 ·rcases List.mem_append.1 ht with ht | ht
  ·exact h t ht
  ·rw[List.mem_singleton.1 ht]; decide
theorem qeU {a b:List ByteArray} (ha : ∀ t∈a,t.size≠0) (hb : ∀ t∈b,t.size≠0) : ∀ t∈a++b,t.size≠0:=fun t ht=>by
 rcases List.mem_append.1 ht with h | h
 ·exact ha t h
 ·exact hb t h
theorem qjt {x:ByteArray} (h:x.size≠0) : ∀ t∈[x],t.size≠0:=fun t ht=>by rw[List.mem_singleton.1 ht]; exact h
theorem qlW : ∀ t∈([]:List ByteArray),t.size≠0:=fun t ht=>by cases ht
theorem qoa {f fb fc:Bool} {s:ByteArray} {e:E} (ge:e.good) {T:List ByteArray} (hT:T=[s]++([⟨#[61]⟩]++(e.tx false 1++([⟨#[59]⟩]++[])))) (hsz:(qah false T).length<2 ^ 40) :
  Z tS (.call 263 [.dat (.agg [.lit (.int .i64 1),.lit (.int .i64 0),.lit (.string s),.sl [.lit (.int .i64 e.kind),.lit (.int .i64 e.num),.lit (.string e.str),e.kids] 1 f])] [])=some (.ret (.str (bs (qah false T))) []):=by
 have q2:(qah false (e.tx false 1)).length<2 ^ 40:=Nat.lt_of_le_of_lt (by
  have:=qap ([s]++([⟨#[61]⟩]++[])) (e.tx false 1) ([⟨#[59]⟩]++[]) false
  simp only[List.append_assoc,List.nil_append,List.append_nil] at this
  rw[hT]
  simp only[List.append_assoc,List.nil_append,List.append_nil]
  exact this) hsz
 have z2:=qgy ge q2
 obtain⟨R,hR⟩ : ∃ v,v=bs (qah false T):=⟨_,rfl⟩
 have hRs:R.size<2 ^ 40:=by rw[hR,qao]; exact hsz
 have hP:Parts [s,⟨#[61]⟩,bs (qah false (e.tx false 1)),⟨#[59]⟩] T:=by rw[hT]; exact (.tok (.tok (.sub (qbE false ge 1) (.tok .nil))))
 have za:Z tS (.call 247 [.dat (.sl [.lit (.string s),.lit (.string ⟨#[61]⟩),.lit (.string (bs (qah false (e.tx false 1)))),.lit (.string ⟨#[59]⟩)] 4 true)] [])=some (.ret (.str R) []):=qdq hP hR (by simp) hRs
 generalize bs (qah false (e.tx false 1))=r2 at *
 rw[<- hR]
 refine Z_call (pf:=F263) rfl rfl ?_
 simp[F263,qaq,z2,za]
theorem qpE {f fb fc:Bool} {s:ByteArray} {x y:E} (gx:x.good) (gy:y.good) {T:List ByteArray} (hT:T=[s]++([⟨#[91]⟩]++(x.tx false 1++([⟨#[93]⟩]++([⟨#[61]⟩]++(y.tx false 1++([⟨#[59]⟩]++[]))))))) (hsz:(qah false T).length<2 ^ 40) :
  Z tS (.call 263 [.dat (.agg [.lit (.int .i64 2),.lit (.int .i64 0),.lit (.string s),.sl [.lit (.int .i64 x.kind),.lit (.int .i64 x.num),.lit (.string x.str),x.kids,.lit (.int .i64 y.kind),.lit (.int .i64 y.num),.lit (.string y.str),y.kids] 2 f])] [])=some (.ret (.str (bs (qah false T))) []):=by
 have q2:(qah false (x.tx false 1)).length<2 ^ 40:=Nat.lt_of_le_of_lt (by
  have:=qap ([s]++([⟨#[91]⟩]++[])) (x.tx false 1) ([⟨#[93]⟩]++([⟨#[61]⟩]++(y.tx false 1++([⟨#[59]⟩]++[])))) false
  simp only[List.append_assoc,List.nil_append,List.append_nil] at this
  rw[hT]
  simp only[List.append_assoc,List.nil_append,List.append_nil]
  exact this) hsz
 have z2:=qgy gx q2
 have q5:(qah false (y.tx false 1)).length<2 ^ 40:=Nat.lt_of_le_of_lt (by
  have:=qap ([s]++([⟨#[91]⟩]++(x.tx false 1++([⟨#[93]⟩]++([⟨#[61]⟩]++[]))))) (y.tx false 1) ([⟨#[59]⟩]++[]) false
  simp only[List.append_assoc,List.nil_append,List.append_nil] at this
  rw[hT]
  simp only[List.append_assoc,List.nil_append,List.append_nil]
  exact this) hsz
 have z5:=qgy gy q5
 obtain⟨R,hR⟩ : ∃ v,v=bs (qah false T):=⟨_,rfl⟩
 have hRs:R.size<2 ^ 40:=by rw[hR,qao]; exact hsz
 have hP:Parts [s,⟨#[91]⟩,bs (qah false (x.tx false 1)),⟨#[93]⟩,⟨#[61]⟩,bs (qah false (y.tx false 1)),⟨#[59]⟩] T:=by rw[hT]; exact (.tok (.tok (.sub (qbE false gx 1) (.tok (.tok (.sub (qbE false gy 1) (.tok .nil)))))))
 have za:Z tS (.call 247 [.dat (.sl [.lit (.string s),.lit (.string ⟨#[91]⟩),.lit (.string (bs (qah false (x.tx false 1)))),.lit (.string ⟨#[93]⟩),.lit (.string ⟨#[61]⟩),.lit (.string (bs (qah false (y.tx false 1)))),.lit (.string ⟨#[59]⟩)] 7 true)] [])=some (.ret (.str R) []):=qdq hP hR (by simp) hRs
 generalize bs (qah false (x.tx false 1))=r2 at *
 generalize bs (qah false (y.tx false 1))=r5 at *
 rw[<- hR]
 refine Z_call (pf:=F263) rfl rfl ?_
 simp[F263,qaq,z2,z5,za]
theorem qob {f fb fc:Bool} {x y:E} (gx:x.good) (gy:y.good) {T:List ByteArray} (hT:T=[⟨#[101,102,102,101,99,116]⟩]++(x.tx false 1++([⟨#[44]⟩]++(y.tx false 1++([⟨#[59]⟩]++[]))))) (hsz:(qah false T).length<2 ^ 40) :
  Z tS (.call 263 [.dat (.agg [.lit (.int .i64 5),.lit (.int .i64 0),.lit (.string ⟨#[]⟩),.sl [.lit (.int .i64 x.kind),.lit (.int .i64 x.num),.lit (.string x.str),x.kids,.lit (.int .i64 y.kind),.lit (.int .i64 y.num),.lit (.string y.str),y.kids] 2 f])] [])=some (.ret (.str (bs (qah false T))) []):=by
 have q1:(qah false (x.tx false 1)).length<2 ^ 40:=Nat.lt_of_le_of_lt (by
  have:=qap ([⟨#[101,102,102,101,99,116]⟩]++[]) (x.tx false 1) ([⟨#[44]⟩]++(y.tx false 1++([⟨#[59]⟩]++[]))) false
  simp only[List.append_assoc,List.nil_append,List.append_nil] at this
  rw[hT]
  simp only[List.append_assoc,List.nil_append,List.append_nil]
  exact this) hsz
 have z1:=qgy gx q1
 have q3:(qah false (y.tx false 1)).length<2 ^ 40:=Nat.lt_of_le_of_lt (by
  have:=qap ([⟨#[101,102,102,101,99,116]⟩]++(x.tx false 1++([⟨#[44]⟩]++[]))) (y.tx false 1) ([⟨#[59]⟩]++[]) false
  simp only[List.append_assoc,List.nil_append,List.append_nil] at this
  rw[hT]
  simp only[List.append_assoc,List.nil_append,List.append_nil]
  exact this) hsz
 have z3:=qgy gy q3
 obtain⟨R,hR⟩ : ∃ v,v=bs (qah false T):=⟨_,rfl⟩
 have hRs:R.size<2 ^ 40:=by rw[hR,qao]; exact hsz
 have hP:Parts [⟨#[101,102,102,101,99,116]⟩,bs (qah false (x.tx false 1)),⟨#[44]⟩,bs (qah false (y.tx false 1)),⟨#[59]⟩] T:=by rw[hT]; exact (.tok (.sub (qbE false gx 1) (.tok (.sub (qbE false gy 1) (.tok .nil)))))
 have za:Z tS (.call 247 [.dat (.sl [.lit (.string ⟨#[101,102,102,101,99,116]⟩),.lit (.string (bs (qah false (x.tx false 1)))),.lit (.string ⟨#[44]⟩),.lit (.string (bs (qah false (y.tx false 1)))),.lit (.string ⟨#[59]⟩)] 5 true)] [])=some (.ret (.str R) []):=qdq hP hR (by simp) hRs
 generalize bs (qah false (x.tx false 1))=r1 at *
 generalize bs (qah false (y.tx false 1))=r3 at *
 rw[<- hR]
 refine Z_call (pf:=F263) rfl rfl ?_
 simp[F263,qaq,z1,z3,za]
theorem qpF {f fb fc:Bool} {c:E} {p:Ss} (gc:c.good) (hb:qh2 p) {T:List ByteArray} (hT:T=[⟨#[119,104,105,108,101]⟩]++(c.tx false 1++(p.btx++[]))) (hsz:(qah false T).length<2 ^ 40) :
  Z tS (.call 263 [.dat (.agg [.lit (.int .i64 4),.lit (.int .i64 0),.lit (.string ⟨#[]⟩),.sl [.lit (.int .i64 c.kind),.lit (.int .i64 c.num),.lit (.string c.str),c.kids,.lit (.int .i64 7),.lit (.int .i64 0),.lit (.string ⟨#[]⟩),kd fb p.fo.len p.fo.cells] 2 f])] [])=some (.ret (.str (bs (qah false T))) []):=by
 have q1:(qah false (c.tx false 1)).length<2 ^ 40:=Nat.lt_of_le_of_lt (by
  have:=qap ([⟨#[119,104,105,108,101]⟩]++[]) (c.tx false 1) (p.btx++[]) false
  simp only[List.append_assoc,List.nil_append,List.append_nil] at this
  rw[hT]
  simp only[List.append_assoc,List.nil_append,List.append_nil]
  exact this) hsz
 have z1:=qgy gc q1
 have q2:(qah false (p.btx)).length<2 ^ 40:=Nat.lt_of_le_of_lt (by
  have:=qap ([⟨#[119,104,105,108,101]⟩]++(c.tx false 1++[])) (p.btx) ([]) false
  simp only[List.append_assoc,List.nil_append,List.append_nil] at this
  rw[hT]
  simp only[List.append_assoc,List.nil_append,List.append_nil]
  exact this) hsz
 have z2:=hb.2 7 0 ⟨#[]⟩ fb q2
 obtain⟨R,hR⟩ : ∃ v,v=bs (qah false T):=⟨_,rfl⟩
 have hRs:R.size<2 ^ 40:=by rw[hR,qao]; exact hsz
 have hP:Parts [⟨#[119,104,105,108,101]⟩,bs (qah false (c.tx false 1)),bs (qah false (p.btx))] T:=by rw[hT]; exact (.tok (.sub (qbE false gc 1) (.sub (qeb hb.1) .nil)))
 have za:Z tS (.call 247 [.dat (.sl [.lit (.string ⟨#[119,104,105,108,101]⟩),.lit (.string (bs (qah false (c.tx false 1)))),.lit (.string (bs (qah false (p.btx))))] 3 true)] [])=some (.ret (.str R) []):=qdq hP hR (by simp) hRs
 generalize bs (qah false (c.tx false 1))=r1 at *
 generalize bs (qah false (p.btx))=r2 at *
 rw[<- hR]
 refine Z_call (pf:=F263) rfl rfl ?_
 simp[F263,qaq,z1,z2,za]
theorem qtr {f fb fc:Bool} {c:E} {p q:Ss} (gc:c.good) (hb:qh2 p) (hq:q.fo.len=0) {T:List ByteArray} (hT:T=[⟨#[105,102]⟩]++(c.tx false 1++(p.btx++[]))) (hsz:(qah false T).length<2 ^ 40) :
  Z tS (.call 263 [.dat (.agg [.lit (.int .i64 3),.lit (.int .i64 0),.lit (.string ⟨#[]⟩),.sl [.lit (.int .i64 c.kind),.lit (.int .i64 c.num),.lit (.string c.str),c.kids,.lit (.int .i64 7),.lit (.int .i64 0),.lit (.string ⟨#[]⟩),kd fb p.fo.len p.fo.cells,.lit (.int .i64 7),.lit (.int .i64 0),.lit (.string ⟨#[]⟩),kd fc q.fo.len q.fo.cells] 3 f])] [])=some (.ret (.str (bs (qah false T))) []):=by
 have q1:(qah false (c.tx false 1)).length<2 ^ 40:=Nat.lt_of_le_of_lt (by
  have:=qap ([⟨#[105,102]⟩]++[]) (c.tx false 1) (p.btx++[]) false
  simp only[List.append_assoc,List.nil_append,List.append_nil] at this
  rw[hT]
  simp only[List.append_assoc,List.nil_append,List.append_nil]
  exact this) hsz
 have z1:=qgy gc q1
 have q2:(qah false (p.btx)).length<2 ^ 40:=Nat.lt_of_le_of_lt (by
  have:=qap ([⟨#[105,102]⟩]++(c.tx false 1++[])) (p.btx) ([]) false
  simp only[List.append_assoc,List.nil_append,List.append_nil] at this
  rw[hT]
  simp only[List.append_assoc,List.nil_append,List.append_nil]
  exact this) hsz
 have z2:=hb.2 7 0 ⟨#[]⟩ fb q2
 obtain⟨R,hR⟩ : ∃ v,v=bs (qah false T):=⟨_,rfl⟩
 have hRs:R.size<2 ^ 40:=by rw[hR,qao]; exact hsz
 have hP:Parts [⟨#[105,102]⟩,bs (qah false (c.tx false 1)),bs (qah false (p.btx))] T:=by rw[hT]; exact (.tok (.sub (qbE false gc 1) (.sub (qeb hb.1) .nil)))
 have za:Z tS (.call 247 [.dat (.sl [.lit (.string ⟨#[105,102]⟩),.lit (.string (bs (qah false (c.tx false 1)))),.lit (.string (bs (qah false (p.btx))))] 3 true)] [])=some (.ret (.str R) []):=qdq hP hR (by simp) hRs
 generalize bs (qah false (c.tx false 1))=r1 at *
 generalize bs (qah false (p.btx))=r2 at *
 rw[<- hR]
 have hq1 : ∀ cs,kd fc q.fo.len cs = .lit (.slice none 0 0):=fun cs=>by rw[hq]; rfl
 simp only[hq1]
 refine Z_call (pf:=F263) rfl rfl ?_
 simp[F263,qaq,z1,z2,za,qk8]
theorem qts {f fb fc:Bool} {c:E} {p q:Ss} (gc:c.good) (hb:qh2 p) (hq:0<q.fo.len) (hd:qh2 q) {T:List ByteArray} (hT:T=[⟨#[105,102]⟩]++(c.tx false 1++(p.btx++([⟨#[101,108,115,101]⟩]++(q.btx++[]))))) (hsz:(qah false T).length<2 ^ 40) :
  Z tS (.call 263 [.dat (.agg [.lit (.int .i64 3),.lit (.int .i64 0),.lit (.string ⟨#[]⟩),.sl [.lit (.int .i64 c.kind),.lit (.int .i64 c.num),.lit (.string c.str),c.kids,.lit (.int .i64 7),.lit (.int .i64 0),.lit (.string ⟨#[]⟩),kd fb p.fo.len p.fo.cells,.lit (.int .i64 7),.lit (.int .i64 0),.lit (.string ⟨#[]⟩),kd fc q.fo.len q.fo.cells] 3 f])] [])=some (.ret (.str (bs (qah false T))) []):=by
 have q1:(qah false (c.tx false 1)).length<2 ^ 40:=Nat.lt_of_le_of_lt (by
  have:=qap ([⟨#[105,102]⟩]++[]) (c.tx false 1) (p.btx++([⟨#[101,108,115,101]⟩]++(q.btx++[]))) false
  simp only[List.append_assoc,List.nil_append,List.append_nil] at this
  rw[hT]
  simp only[List.append_assoc,List.nil_append,List.append_nil]
  exact this) hsz
 have z1:=qgy gc q1
 have q2:(qah false (p.btx)).length<2 ^ 40:=Nat.lt_of_le_of_lt (by
  have:=qap ([⟨#[105,102]⟩]++(c.tx false 1++[])) (p.btx) ([⟨#[101,108,115,101]⟩]++(q.btx++[])) false
  simp only[List.append_assoc,List.nil_append,List.append_nil] at this
  rw[hT]
  simp only[List.append_assoc,List.nil_append,List.append_nil]
  exact this) hsz
 have z2:=hb.2 7 0 ⟨#[]⟩ fb q2
 have q4:(qah false (q.btx)).length<2 ^ 40:=Nat.lt_of_le_of_lt (by
  have:=qap ([⟨#[105,102]⟩]++(c.tx false 1++(p.btx++([⟨#[101,108,115,101]⟩]++[])))) (q.btx) ([]) false
  simp only[List.append_assoc,List.nil_append,List.append_nil] at this
  rw[hT]
  simp only[List.append_assoc,List.nil_append,List.append_nil]
  exact this) hsz
 have z4:=hd.2 7 0 ⟨#[]⟩ fc q4
 obtain⟨R,hR⟩ : ∃ v,v=bs (qah false T):=⟨_,rfl⟩
 have hRs:R.size<2 ^ 40:=by rw[hR,qao]; exact hsz
 obtain⟨T1,hT1⟩ : ∃ v,v=[⟨#[105,102]⟩]++(c.tx false 1++(p.btx++[])):=⟨_,rfl⟩
 have hT2:T=T1++([⟨#[101,108,115,101]⟩]++(q.btx++[])):=by rw[hT,hT1]; simp only[List.append_assoc,List.nil_append,List.append_nil]
 have s1:(qah false T1).length<2 ^ 40:=Nat.lt_of_le_of_lt (by
  have:=qap [] T1 ([⟨#[101,108,115,101]⟩]++(q.btx++[])) false
  rw[List.nil_append] at this
  rw[hT2]
  exact this) hsz
 obtain⟨R1,hR1⟩ : ∃ v,v=bs (qah false T1):=⟨_,rfl⟩
 have hR1s:R1.size<2 ^ 40:=by rw[hR1,qao]; exact s1
 have n1 : ∀ t∈T1,t.size≠0:=by
  rw[hT1]
  exact qeU (qjt (by decide)) (qeU (qbE false gc 1) (qeU (qeb hb.1) qlW))
 have hP1:Parts [⟨#[105,102]⟩,bs (qah false (c.tx false 1)),bs (qah false (p.btx))] T1:=by rw[hT1]; exact (.tok (.sub (qbE false gc 1) (.sub (qeb hb.1) .nil)))
 have za:Z tS (.call 247 [.dat (.sl [.lit (.string ⟨#[105,102]⟩),.lit (.string (bs (qah false (c.tx false 1)))),.lit (.string (bs (qah false (p.btx))))] 3 true)] [])=some (.ret (.str R1) []):=qdq hP1 hR1 (by simp) hR1s
 have hP2:Parts [R1,⟨#[101,108,115,101]⟩,bs (qah false (q.btx))] T:=by rw[hT2,hR1]; exact .sub n1 (.tok (.sub (qeb hd.1) .nil))
 have zb:Z tS (.call 247 [.dat (.sl [.lit (.string R1),.lit (.string ⟨#[101,108,115,101]⟩),.lit (.string (bs (qah false (q.btx))))] 3 true)] [])=some (.ret (.str R) []):=qdq hP2 hR (by simp) hRs
 generalize bs (qah false (c.tx false 1))=r1 at *
 generalize bs (qah false (p.btx))=r2 at *
 generalize bs (qah false (q.btx))=r4 at *
 rw[<- hR]
 have hq1:(0:Int)<q.fo.len:=by omega
 refine Z_call (pf:=F263) rfl rfl ?_
 simp[F263,qaq,z1,z2,z4,za,zb,hq1,hq]
theorem qrA {d:D} (hd:V.one (.dat d)=true) (hcl:V.cells (.dat d)=[.dat d]) :
  Z tS (.call 263 [.dat (.agg [.lit (.int .i64 6),.lit (.int .i64 0),.lit (.string ⟨#[]⟩),d])] [])=some (.ret (.str (bs (qah false [⟨#[115,116,111,112]⟩,⟨#[59]⟩]))) []):=by
 have e:bs (qah false [⟨#[115,116,111,112]⟩,⟨#[59]⟩])=⟨#[115,116,111,112,59]⟩:=by decide
 rw[e]
 refine Z_call (pf:=F263) rfl rfl ?_
 simp[F263,hd,hcl]
end Go.Pm
end SSc
section SSd
namespace Go.Pm
open F
set_option maxHeartbeats 8000000
abbrev sbF (s:ByteArray) (i:Int) (ex:Fr):Fr:=(1,.ptr 0 0)::(3,.str s)::(4,.int i)::ex
abbrev sbS (k n:Int) (s:ByteArray) (d:D):S:=[.cells [.int k,.int n,.str s,.dat d]]
def qqG (s:Ss):Prop := ∀ (cs:List D) (m i:Nat) (f:Bool) (k n:Int) (t:ByteArray) w w',cs.drop (i*4)=s.fo.cells->i+s.fo.len=m->m<2 ^ 40->w'=pw w s.tx->w'.length<2 ^ 40 ->
 Z tS (.loop 0 F248l0 (sbF (bs w) i []) (sbS k n t (.sl cs m f)))=some (.out (.exit 0) (sbF (bs w') m [(9,.bool false)]) (sbS k n t (.sl cs m f)))
def qsA:Ss->Prop
 | .block _ b r=>qh2 b/\qsA r
 | _=>True
theorem qsB {cs:List D} {m i:Nat} {f:Bool} {k0 n0:Int} {s0:ByteArray} {w w1:List UInt8} {T:List ByteArray} {k n:Int} {s:ByteArray} {d:D} {rest:List D} (hd:cs.drop (i*4) = .lit (.int .i64 k) :: .lit (.int .i64 n) :: .lit (.string s)::d::rest)
  (h1:V.one (.dat d)=true) (hcl:V.cells (.dat d)=[.dat d]) (hi:i<m) (hm:m<2 ^ 40) (hT : ∀ t∈T,t.size≠0) (hw:w1=pw w T) (hsz:w1.length<2 ^ 40)
  (zs:Z tS (.call 263 [.dat (.agg [.lit (.int .i64 k),.lit (.int .i64 n),.lit (.string s),d])] [])=some (.ret (.str (bs (qah false T))) []))
  {r:Res} (zr:Z tS (.loop 0 F248l0 (sbF (bs w1) ((i+1:Nat):Int) []) (sbS k0 n0 s0 (.sl cs m f)))=some r) :
  Z tS (.loop 0 F248l0 (sbF (bs w) i []) (sbS k0 n0 s0 (.sl cs m f)))=some r:=by
 have hc:=qvw hd
 have hlt:(i:Int)<m:=by omega
 have w1':IntKind.i64.wrap ((i:Int)+1)=((i+1:Nat):Int):=by rw[qal _ (by omega)]; omega
 have hle:=qfH T (wl w)
 have zj:=qqz (bs w) (bs (qah false T)) (by
  rw[qao,qao]
  have:=congrArg List.length hw
  simp only[pw,List.length_append] at this
  omega)
 rw[qaP,qqA w hT,<- hw] at zj
 rw[<- zr]
 conv=>lhs; rw[qac]
 generalize ((i+1:Nat):Int)=i1 at *
 generalize bs (qah false T)=R at *
 generalize bs w1=W1 at *
 generalize bs w=W0 at *
 simp[qae,qgf,qaq,V.len,hc,h1,hcl,hlt,hi,zs,zj,w1',List.range_succ]
theorem qlu {b:Ss} (hg:b.good none) (hl:qqG b):qh2 b:=by
 have htg:=qiF (qhn b none hg).ok
 have hnz : ∀ t∈b.tx,t.size≠0:=fun t ht=>qfQ (htg t ht)
 refine⟨hnz,?_⟩
 intro k n s f hsz
 obtain⟨w2,e2⟩ : ∃ v,v=pw [123] b.tx:=⟨_,rfl⟩
 have e3:qah false b.btx=w2++[125]:=by
  rw[<- qoo,Ss.btx,qc3,qiv,e2]
  show pw (pw ([]++(gap (wl []) ⟨#[123]⟩++byl ⟨#[123]⟩)) b.tx) [⟨#[125]⟩]=_
  rw[show ([]++(gap (wl []) ⟨#[123]⟩++byl ⟨#[123]⟩):List UInt8)=[123] by decide,qc3,qew]
  have : ∀ q,gap q ⟨#[125]⟩=[]:=fun q=>by cases q<;>decide
  rw[this]
  rfl
 rw[e3] at hsz ⊢
 have s2:w2.length<2 ^ 40:=by rw[List.length_append] at hsz; omega
 have hb:b.fo.len<2 ^ 40:=by
  have h1:=qeY b hg
  have h2:=qeX b.tx (wl [123]) hnz
  have h3:=congrArg List.length e2
  simp only[pw,List.length_append] at h3
  omega
 have hr:bs (w2++[125])=bs w2++⟨#[125]⟩:=(qqy w2 [125]).symm
 have hsz2 : ¬ (9223372036854775807:Int)<((bs w2).size:Int)+1:=by rw[qao]; omega
 have y1:((⟨#[125]⟩:ByteArray).size:Int)=1:=rfl
 have y2:(⟨#[125]⟩:ByteArray).size=1:=rfl
 have z0:(⟨#[123]⟩:ByteArray)=bs [123]:=rfl
 rw[hr]
 refine Z_call (pf:=F248) rfl rfl ?_
 cases hbl:b.fo.len with
 | zero=>
  have hn:=qiH hbl
  subst hn
  have:w2=[123]:=by rw[e2]; exact qew _
  subst this
  have y3:((⟨#[123]⟩:ByteArray).size:Int)=1:=rfl
  simp[F248,V.len,qac,qae,qgf,List.range_succ,bs,y1,y2,y3]
 | succ q=>
  have z2:=hl b.fo.cells (q+1) 0 f k n s [123] w2 (by simp) (by omega) (by omega) e2 s2
  have hk:kd f (q+1) b.fo.cells = .sl b.fo.cells (q+1) f:=rfl
  rw[hk]
  simp only[sbF,sbS,Int.cast_ofNat_Int,<- z0] at z2
  generalize q+1=M at *
  generalize bs w2=W2 at *
  simp[F248,z2,List.range_succ,y1,y2,hsz2]
theorem qqH {S r:Ss} {T:List ByteArray} (htx:S.tx=T++r.tx) (hnz : ∀ t∈S.tx,t.size≠0) {cs:List D} {m i:Nat} {f:Bool} {k0 n0:Int} {s0:ByteArray} {w w':List UInt8} {k n:Int} {s:ByteArray} {d:D}
  (hd:cs.drop (i*4) = .lit (.int .i64 k) :: .lit (.int .i64 n) :: .lit (.string s)::d::r.fo.cells) (h1:V.one (.dat d)=true) (hcl:V.cells (.dat d)=[.dat d]) (hm:i+(r.fo.len+1)=m) (hm2:m<2 ^ 40) (hw:w'=pw w S.tx) (hs:w'.length<2 ^ 40)
  (zs:(qah false T).length<2 ^ 40->Z tS (.call 263 [.dat (.agg [.lit (.int .i64 k),.lit (.int .i64 n),.lit (.string s),d])] [])=some (.ret (.str (bs (qah false T))) [])) (ihr:qqG r) :
  Z tS (.loop 0 F248l0 (sbF (bs w) i []) (sbS k0 n0 s0 (.sl cs m f)))=some (.out (.exit 0) (sbF (bs w') m [(9,.bool false)]) (sbS k0 n0 s0 (.sl cs m f))):=by
 obtain⟨w1,e1⟩ : ∃ v,v=pw w T:=⟨_,rfl⟩
 have e2:w'=pw w1 r.tx:=by rw[hw,htx,qiv,e1]
 have s1:w1.length<2 ^ 40:=Nat.lt_of_le_of_lt (by rw[e2]; exact qqm _ _) hs
 have hle:=qfH T (wl w)
 have sT:(qah false T).length<2 ^ 40:=by
  have:=congrArg List.length e1
  simp only[pw,List.length_append] at this
  omega
 have nT : ∀ t∈T,t.size≠0:=fun t ht=>hnz t (by rw[htx]; exact List.mem_append_left _ ht)
 exact qsB hd h1 hcl (by omega) hm2 nT e1 s1 (zs sT) (ihr cs m (i+1) f k0 n0 s0 w1 w' (qhF hd) (by omega) hm2 e2 hs)
theorem qsC : ∀ s:Ss,(s.good none->qqG s)/\((∃ k,s.good (some k))->qsA s):=by
 intro s
 have nz : ∀ s:Ss,s.good none -> ∀ t∈s.tx,t.size≠0:=fun s h t ht=>qfQ (qiF (qhn s none h).ok t ht)
 induction s with
 | nil=>
  refine⟨fun _ cs m i f k0 n0 s0 w w' hd hm hm2 hw hs=>?_,fun _=>trivial⟩
  rw[Ss.tx,qew] at hw
  subst hw
  have:i=m:=by simpa [Ss.fo] using hm
  subst this
  simp only[sbF,sbS]
  rw[qac]
  simp[qae,qgf,V.len,List.range_succ]
 | assign g s e r ih=>
  refine⟨fun h cs m i f k0 n0 s0 w w' hd hm hm2 hw hs=>?_,fun _=>trivial⟩
  have hz:=nz _ h
  obtain⟨_,hn,he,hr⟩:=h
  simp only[Ss.fo,qaV,qkw,qbp,qbv,qqv,qfS,qaY] at hd hm
  exact qqH (S := .assign g s e r) (T:=[s]++([⟨#[61]⟩]++(e.tx false 1++([⟨#[59]⟩]++[])))) (by simp only[Ss.tx,List.cons_append,List.nil_append,List.append_nil,List.append_assoc]; rfl) hz hd rfl rfl (by omega) hm2 hw hs (qoa (fb:=false) (fc:=false) he (by simp only[List.append_assoc,List.append_nil,List.cons_append,List.nil_append])) (ih.1 hr)
 | store g s a b r ih=>
  refine⟨fun h cs m i f k0 n0 s0 w w' hd hm hm2 hw hs=>?_,fun _=>trivial⟩
  have hz:=nz _ h
  obtain⟨_,hn,ha,hb,hr⟩:=h
  simp only[Ss.fo,qaV,qkw,qbp,qbv,qqv,qfS,qaY] at hd hm
  exact qqH (S := .store g s a b r) (T:=[s]++([⟨#[91]⟩]++(a.tx false 1++([⟨#[93]⟩]++([⟨#[61]⟩]++(b.tx false 1++([⟨#[59]⟩]++[]))))))) (by simp only[Ss.tx,List.cons_append,List.nil_append,List.append_nil,List.append_assoc]; rfl) hz hd rfl rfl (by omega) hm2 hw hs (qpE (fb:=false) (fc:=false) ha hb (by simp only[List.append_assoc,List.append_nil,List.cons_append,List.nil_append])) (ih.1 hr)
 | effect g a b r ih=>
  refine⟨fun h cs m i f k0 n0 s0 w w' hd hm hm2 hw hs=>?_,fun _=>trivial⟩
  have hz:=nz _ h
  obtain⟨_,ha,hb,hr⟩:=h
  simp only[Ss.fo,qaV,qkw,qbp,qbv,qqv,qfS,qaY] at hd hm
  exact qqH (S := .effect g a b r) (T:=[⟨#[101,102,102,101,99,116]⟩]++(a.tx false 1++([⟨#[44]⟩]++(b.tx false 1++([⟨#[59]⟩]++[]))))) (by simp only[Ss.tx,List.cons_append,List.nil_append,List.append_nil,List.append_assoc]; rfl) hz hd rfl rfl (by omega) hm2 hw hs (qob (fb:=false) (fc:=false) ha hb (by simp only[List.append_assoc,List.append_nil,List.cons_append,List.nil_append])) (ih.1 hr)
 | stop r ih=>
  refine⟨fun h cs m i f k0 n0 s0 w w' hd hm hm2 hw hs=>?_,fun _=>trivial⟩
  have hz:=nz _ h
  obtain⟨_,hr⟩:=h
  simp only[Ss.fo,qaV,qbp,qbv,qaY,qtQ] at hd hm
  exact qqH (S := .stop r) (T:=[⟨#[115,116,111,112]⟩,⟨#[59]⟩]) rfl hz hd rfl rfl (by omega) hm2 hw hs (fun _=>qrA rfl rfl) (ih.1 hr)
 | cond w0 g c b r ihb ih=>
  refine⟨fun h cs m i f k0 n0 s0 w w' hd hm hm2 hw hs=>?_,fun _=>trivial⟩
  have hz:=nz _ h
  obtain⟨_,hc,hb,hr⟩:=h
  cases w0 with
  | true=>
   obtain⟨fb,b1,rfl,hb1⟩:=qld hb
   have hrow:=ihb.2 ⟨1,hb⟩
   simp only[Ss.fo,qaV,qkw,qbp,qbv,qqv,qfS,qaY,if_true] at hd hm
   exact qqH (S := .cond true g c (.block fb b1 .nil) r) (T:=[⟨#[119,104,105,108,101]⟩]++(c.tx false 1++b1.btx)) (by simp only[Ss.tx,Ss.btx,List.cons_append,List.nil_append,List.append_nil,List.append_assoc,qdw,if_true,Bool.false_eq_true,if_false]; rfl) hz hd rfl rfl (by omega) hm2 hw hs (qpF (fc:=false) hc hrow.1 (by simp only[List.append_assoc,List.append_nil,List.cons_append,List.nil_append])) (ih.1 hr)
  | false=>
   obtain⟨fb,b1,fc,b2,rfl,hb1,hb2⟩:=qrV hb
   have hrow:=ihb.2 ⟨2,hb⟩
   simp only[Ss.fo,qaV,qkw,qbp,qbv,qqv,qfS,qaY,Bool.false_eq_true,if_false] at hd hm
   cases hl:b2.fo.len with
   | zero=>
    have hn:=qiH hl
    exact qqH (S := .cond false g c (.block fb b1 (.block fc b2 .nil)) r) (T:=[⟨#[105,102]⟩]++(c.tx false 1++b1.btx)) (by rw[hn]; simp only[Ss.tx,Ss.btx,List.cons_append,List.nil_append,List.append_nil,List.append_assoc,qdw,if_true,Bool.false_eq_true,if_false]; rfl) hz hd rfl rfl (by omega) hm2 hw hs (qtr hc hrow.1 hl (by simp only[List.append_assoc,List.append_nil,List.cons_append,List.nil_append])) (ih.1 hr)
   | succ q=>
    have he:qdw (.block fc b2 .nil)=true:=by cases b2<;>first | rfl | simp[Ss.fo] at hl
    exact qqH (S := .cond false g c (.block fb b1 (.block fc b2 .nil)) r) (T:=[⟨#[105,102]⟩]++(c.tx false 1++(b1.btx++([⟨#[101,108,115,101]⟩]++b2.btx)))) (by simp only[Ss.tx,Ss.btx,he,List.cons_append,List.nil_append,List.append_nil,List.append_assoc,if_true,Bool.false_eq_true,if_false]; rfl) hz hd rfl rfl (by omega) hm2 hw hs (qts hc hrow.1 (by omega) hrow.2.1 (by simp only[List.append_assoc,List.append_nil,List.cons_append,List.nil_append])) (ih.1 hr)
 | block g b r ihb ih=>
  refine⟨fun h=>?_,fun ⟨k,h⟩=>?_⟩
  ·obtain⟨n,hn,_⟩:=h; cases hn
  ·obtain⟨n,hn,hb,hr⟩:=h
   exact⟨qlu hb (ihb.1 hb),ih.2 ⟨n,hr⟩⟩
end Go.Pm
end SSd
section SSe
namespace Go.Pm
open F
set_option maxHeartbeats 8000000
abbrev hnD:V := .dat (.sl [.lit (.string ⟨#[97,99,116]⟩),.lit (.string ⟨#[116,105,99,107]⟩),.lit (.string ⟨#[104,105,116]⟩)] 3 true)
theorem qkY:Z tS (.call 152 [] [])=some (.ret hnD []):=by
 refine Z_call (pf:=F152) rfl rfl ?_
 simp[F152]
theorem qs5:bs (qah false [])=⟨#[]⟩:=rfl
theorem qrb {T T':List ByteArray} {t:ByteArray} {b:Ss} {R R' Q:ByteArray} (hb:qh2 b) (hT : ∀ x∈T,x.size≠0) (hR:R=bs (qah false T)) (hQ:Q=bs (qah false b.btx)) (hT':T'=T++(⟨#[111,110]⟩::t::b.btx)) (hR':R'=bs (qah false T')) (hs:R'.size<2 ^ 40) :
  Z tS (.call 247 [.dat (.sl [.lit (.string R),.lit (.string ⟨#[111,110]⟩),.lit (.string t),.lit (.string Q)] 4 true)] [])=some (.ret (.str R') []):=by
 have hP:Parts [R,⟨#[111,110]⟩,t,Q] T':=by
  rw[hR,hQ,hT']
  have:=Parts.sub hT (.tok (t:=⟨#[111,110]⟩) (.tok (t:=t) (.sub (qeb hb.1) .nil)))
  rw[List.append_nil] at this
  exact this
 exact qdq hP hR' (by simp) hs
theorem qmu {T:List ByteArray} {t:ByteArray} {b:Ss} (hT : ∀ x∈T,x.size≠0) (ht:t.size≠0) (hb:qh2 b) : ∀ x∈T++(⟨#[111,110]⟩::t::b.btx),x.size≠0:=
 qeU hT (qeU (a:=[⟨#[111,110]⟩,t]) (qeU (a:=[⟨#[111,110]⟩]) (qjt (by decide)) (qjt ht)) (qeb hb.1))
theorem qkZ {A B C:Nd} {i:Nat} (hi:i<3) {g:Hd} (hX:(if i=0 then A else if i=1 then B else C)=g.nd) (hb : ∀ s,g.opt=some s->qh2 s) {T T':List ByteArray} (hT : ∀ x∈T,x.size≠0) (hT':T'=T++qb6 i g.opt) (hs:(qah false T').length<2 ^ 40) :
  (∀ x∈T',x.size≠0)/\Z tS (.loop 0 F236l0 [(1,.ptr 0 0),(3,.str (bs (qah false T))),(4,.int i)] [qfk A B C])=Z tS (.loop 0 F236l0 [(1,.ptr 0 0),(3,.str (bs (qah false T'))),(4,.int ((i+1:Nat):Int))] [qfk A B C]):=by
 have zh:=qkY
 cases g with
 | none=>
  obtain rfl:T'=T:=by rw[hT']; exact List.append_nil T
  refine⟨hT,?_⟩
  generalize bs (qah false T')=R at *
  conv=>lhs; rw[qac]
  obtain rfl | rfl | rfl:i=0\/i=1\/i=2:=by omega
  all_goals
   first | (have hX:A=_:=hX; subst hX) | (have hX:B=_:=hX; subst hX) | (have hX:C=_:=hX; subst hX)
   simp[qae,qge,qfk,Nd.d,Hd.k,Hd.f,Hd.ks,List.range_succ,show IntKind.i64.wrap 1=1 from rfl,show IntKind.i64.wrap 2=2 from rfl,show IntKind.i64.wrap 3=3 from rfl]
 | some f b=>
  have hbb:=hb b rfl
  have hn:T'=T++(⟨#[111,110]⟩::qca i::b.btx):=hT'
  have q:(qah false b.btx).length<2 ^ 40:=Nat.lt_of_le_of_lt (by
   have:=qap (T++[⟨#[111,110]⟩,qca i]) b.btx [] false
   rw[List.append_nil,List.append_assoc] at this
   rw[hn]
   exact this) hs
  have z:=hbb.2 7 0 ⟨#[]⟩ f q
  have hsz:(qca i).size≠0:=by
   obtain rfl | rfl | rfl:i=0\/i=1\/i=2:=by omega
   all_goals decide
  refine⟨by rw[hn]; exact qmu hT hsz hbb,?_⟩
  have y:=qrb (t:=qca i) hbb hT rfl rfl hn rfl (by rw[qao]; exact hs)
  generalize bs (qah false b.btx)=Q at *
  generalize bs (qah false T)=R at *
  generalize bs (qah false T')=R' at *
  conv=>lhs; rw[qac]
  obtain rfl | rfl | rfl:i=0\/i=1\/i=2:=by omega
  all_goals
   first | (have hX:A=_:=hX; subst hX) | (have hX:B=_:=hX; subst hX) | (have hX:C=_:=hX; subst hX)
   simp only[qca,qpC,qm1,bs] at y
   simp[qae,qge,qfk,Nd.d,Hd.k,Hd.f,Hd.ks,zh,z,y,qaq,List.range_succ,show IntKind.i64.wrap 1=1 from rfl,show IntKind.i64.wrap 2=2 from rfl,show IntKind.i64.wrap 3=3 from rfl]
theorem qjf {a b c:Hd} (hg : ∀ k,qct (Hd.opts a b c k)) (hsz:(qah false (qbZ (Hd.opts a b c))).length<2 ^ 40) :
  Z tS (.call 236 [.dat (ru a.nd b.nd c.nd)] [])=some (.ret (.str (bs (qah false (qbZ (Hd.opts a b c))))) []):=by
 have hb : ∀ {s:Ss} (k:Nat),Hd.opts a b c k=some s->qh2 s:=fun k h=>qlu ((hg k) _ h).1 ((qsC _).1 ((hg k) _ h).1)
 have e:qbZ (Hd.opts a b c)=(qb6 0 a.opt++qb6 1 b.opt)++qb6 2 c.opt:=by rw[List.append_assoc]; rfl
 have l2:=qap [] (qb6 0 a.opt++qb6 1 b.opt) (qb6 2 c.opt) false
 have l1:=qap [] (qb6 0 a.opt) (qb6 1 b.opt) false
 rw[List.nil_append] at l1 l2
 rw[<- e] at l2
 obtain⟨t1,y1⟩:=qkZ (A:=a.nd) (B:=b.nd) (C:=c.nd) (i:=0) (by omega) (g:=a) rfl (fun s h=>hb 0 h) (T:=[]) (T':=qb6 0 a.opt) qlW rfl (by omega)
 obtain⟨t2,y2⟩:=qkZ (A:=a.nd) (B:=b.nd) (C:=c.nd) (i:=1) (by omega) (g:=b) rfl (fun s h=>hb 1 h) t1 rfl (by omega)
 obtain⟨t3,y3⟩:=qkZ (A:=a.nd) (B:=b.nd) (C:=c.nd) (i:=2) (by omega) (g:=c) rfl (fun s h=>hb 2 h) t2 rfl (by rw[<- e]; exact hsz)
 rw[<- e] at y3
 have y:=y1.trans (y2.trans y3)
 generalize bs (qah false (qbZ (Hd.opts a b c)))=R at *
 have y4:Z tS (.loop 0 F236l0 [(1,.ptr 0 0),(3,.str R),(4,.int ((2+1:Nat):Int))] [qfk a.nd b.nd c.nd])=some (.out (.exit 0) [(1,.ptr 0 0),(3,.str R),(4,.int 3),(6,.bool false)] [qfk a.nd b.nd c.nd]):=by
  rw[qac]
  simp[qae,qge]
 have y:=y.trans y4
 rw[qs5] at y
 clear y1 y2 y3 y4 hb
 generalize a.nd=A at *
 generalize b.nd=B at *
 generalize c.nd=C at *
 simp only[Int.cast_ofNat_Int,qfk] at y
 refine Z_call (pf:=F236) rfl rfl ?_
 simp[F236,ru,y,List.range_succ]
end Go.Pm
end SSe
section STP
namespace Go.Pm.F
def tP:Nat->Option PFun
 | 228=>some F228
 | 239=>some F239
 | 240=>some F240
 | 241=>some F241
 | 242=>some F242
 | 249=>some F249
 | 250=>some F250
 | 251=>some F251
 | 252=>some F252
 | 253=>some F253
 | 254=>some F254
 | 255=>some F255
 | 256=>some F256
 | 264=>some F264
 | 265=>some F265
 | 266=>some F266
 | 267=>some F267
 | 268=>some F268
 | 269=>some F269
 | 270=>some F270
 | 271=>some F271
 | 275=>some F275
 | 276=>some F276
 | 277=>some F277
 | 278=>some F278
 | 279=>some F279
 | 280=>some F280
 | 281=>some F281
 | 284=>some F284
 | 285=>some F285
 | 286=>some F286
 | 287=>some F287
 | 289=>some F289
 | 290=>some F290
 | 292=>some F292
 | 297=>some F297
 | 303=>some F303
 | 304=>some F304
 | 307=>some F307
 | 308=>some F308
 | 309=>some F309
 | _=>none
end Go.Pm.F
end STP
section SKa
namespace Go.Pm
open F
set_option maxHeartbeats 2000000
theorem qeu (c:UInt8):Z tP (.call 264 [.dat (.lit (.int .u8 c.toNat))] [])=some (.ret (.bool (qaO c)) []):=by
 refine Z_call (pf:=F264) rfl rfl ?_
 by_cases h1:(97:Int)<=c.toNat
 ·have h1':97<=c.toNat:=by omega
  by_cases h2:(c.toNat:Int)<=122
  ·have h2':c.toNat<=122:=by omega
   simp[F264,qaO,h1,h1',h2,h2']
  ·have h2' : ¬ c.toNat<=122:=by omega
   simp[F264,qaO,h1,h1',h2,h2']
 ·have h1' : ¬ 97<=c.toNat:=by omega
  simp[F264,qaO,h1,h1']
theorem qfI (c:UInt8):Z tP (.call 266 [.dat (.lit (.int .u8 c.toNat))] [])=some (.ret (.bool (qaj c)) []):=by
 refine Z_call (pf:=F266) rfl rfl ?_
 by_cases h1:(48:Int)<=c.toNat
 ·have h1':48<=c.toNat:=by omega
  by_cases h2:(c.toNat:Int)<=57
  ·have h2':c.toNat<=57:=by omega
   simp[F266,qaj,h1,h1',h2,h2']
  ·have h2' : ¬ c.toNat<=57:=by omega
   simp[F266,qaj,h1,h1',h2,h2']
 ·have h1' : ¬ 48<=c.toNat:=by omega
  simp[F266,qaj,h1,h1']
theorem qnR {d:D} {l:List ByteArray} (hd:RowS d l) (hl:l.length<2 ^ 40) (x:ByteArray) : ∀ (m i:Nat),i+m=l.length ->
  (x∉l.drop i->Z tP (.loop 0 F284l0 [(0,.dat d),(1,.str x),(7,.int l.length),(8,.int i)] [])=some (.out (.exit 0) [(0,.dat d),(1,.str x),(7,.int l.length),(8,.int l.length),(9,.bool false)] [])) /\
  (x∈l.drop i -> ∃ (j:Nat),Z tP (.loop 0 F284l0 [(0,.dat d),(1,.str x),(7,.int l.length),(8,.int i)] [])=some (.out .ret [(4,.int j)] []))
 | 0,i,hi=>by
  obtain rfl:i=l.length:=by omega
  have ho:=hd.one
  have hc:=hd.cells
  refine⟨fun _=>?_,fun h=>by simp at h⟩
  rw[qac]
  simp[qae,qeP,ho,hc]
 | m+1,i,hi=>by
  have hlt:i<l.length:=by omega
  have hlt':(i:Int)<l.length:=by omega
  have ho:=hd.one
  have hcl:=hd.cells
  have ha:=hd.at_ i hlt
  have hc:=qjC l i hlt
  have w1:=qal ((i:Int)+1) (by omega)
  have hdr:l.drop i=l[i]::l.drop (i+1):=List.drop_eq_getElem_cons hlt
  obtain⟨ih1,ih2⟩:=qnR hd hl x m (i+1) (by omega)
  simp only[Int.natCast_add,Int.cast_ofNat_Int] at ih1 ih2
  rw[hdr]
  generalize l[i]=y at hc ⊢
  by_cases hx:x=y
  ·subst hx
   refine⟨fun h=>absurd (List.mem_cons_self ..) h,fun _=>⟨i,?_⟩⟩
   rw[qac]
   simp[qae,qeP,hlt',ha,hc,qa7,ho,hcl]
  ·refine⟨fun h=>?_,fun h=>?_⟩
   ·have z:=ih1 (fun h'=>h (List.mem_cons_of_mem _ h'))
    rw[qac]
    simp[qae,qeP,hlt',ha,hc,qa7,hx,w1,z,ho,hcl]
   ·rcases List.mem_cons.1 h with h | h
    ·exact absurd h hx
    ·obtain⟨j,z⟩:=ih2 h
     refine⟨j,?_⟩
     rw[qac]
     simp[qae,qeP,hlt',ha,hc,qa7,hx,w1,z,ho,hcl]
theorem qmx {d:D} {l:List ByteArray} (hd:RowS d l) (hl:l.length<2 ^ 40) (x:ByteArray):Z tP (.call 276 [.dat d,.str x] [])=some (.ret (.bool (decide (x∈l))) []):=by
 have ho:=hd.one
 have hc:=hd.cells
 have hn:=hd.len
 obtain⟨i1,i2⟩:=qnR hd hl x l.length 0 (by omega)
 simp only[Int.natCast_zero,List.drop_zero] at i1 i2
 by_cases h:x∈l
 ·obtain⟨j,z⟩:=i2 h
  have z2:Z tP (.call 284 [.dat d,.str x] [])=some (.ret (.int j) []):=by
   refine Z_call (pf:=F284) rfl rfl ?_
   simp[F284,ho,hc,hn,z]
  have hj:(0:Int)<=j:=by omega
  refine Z_call (pf:=F276) rfl rfl ?_
  simp[F276,ho,hc,z2,h,hj]
 ·have z:=i1 h
  have z2:Z tP (.call 284 [.dat d,.str x] [])=some (.ret (.int (-1)) []):=by
   refine Z_call (pf:=F284) rfl rfl ?_
   simp[F284,ho,hc,hn,z]
  refine Z_call (pf:=F276) rfl rfl ?_
  simp[F276,ho,hc,z2,h]
end Go.Pm
end SKa
