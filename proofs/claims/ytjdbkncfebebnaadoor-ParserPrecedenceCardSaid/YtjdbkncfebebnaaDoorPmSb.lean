/- Chapter 13's reference printer: expressions. The abstract machine's programs: tables of functions. Chapter 13's parser: letters, digits, symbols, rows of texts. Chapter 13's parser: the lexer's reserved words; white space and comments. Chapter 13's parser: words and integers. Chapter 13's parser: a token. Chapter 13's parser: the token at an offset. Chapter 13's parser: the token at an offset is the plain one. DEV ONLY: prefixes of bodies. Chapter 13's parser: all tokens. -/
import Derived.Test.YtjdbkncfebebnaaDoorPmG1
import Derived.Test.YtjdbkncfebebnaaDoorPmFx
import Derived.Test.YtjdbkncfebebnaaDoorPmF3
import Derived.Test.YtjdbkncfebebnaaDoorPmEt
import Derived.Test.YtjdbkncfebebnaaDoorPmY
set_option linter.unusedSimpArgs false
set_option linter.unusedVariables false
section SSb
namespace Go.Pm
open F
set_option maxHeartbeats 8000000
theorem qcK (e:E):Z tS (.call 261 [e.node] [])=some (.ret (.int e.lev) []):=by
 refine Z_call (pf:=F261) rfl rfl ?_
 cases e with
 | un f neg e=>cases neg<;>simp[F261,E.lev,qdt,ustr,qa1]
 | bin f o a b=>cases o<;>simp[F261,E.lev,Bop.prec,Bop.str,qa1]
 | _=>simp[F261,E.lev]
inductive Parts:List ByteArray->List ByteArray->Prop
 | nil:Parts [] []
 | tok {t:ByteArray} {l ts:List ByteArray} (h:Parts l ts):Parts (t::l) (t::ts)
 | sub {a l ts:List ByteArray} (ha : ∀ t∈a,t.size≠0) (h:Parts l ts):Parts (bs (qay false a)::l) (a++ts)
theorem qna {l ts:List ByteArray} (h:Parts l ts) : ∀ w,pw w l=pw w ts:=by
 induction h with
 | nil=>intro w; rfl
 | tok h ih=>intro w; rw[qcX,qcX,ih]
 | sub ha h ih=>intro w; rw[qjO w ha,qkl,qkl,ih]
theorem qep {l ts:List ByteArray} {R:ByteArray} (hp:Parts l ts) (hR:R=bs (qay false ts)) (hn:l.length<2 ^ 30) (hsz:R.size<2 ^ 40):Z tS (.call 247 [.dat (.sl (qaS l) l.length true)] [])=some (.ret (.str R) []):=
 qsO true (by rw[hR,qna hp,qpo]) hn hsz
theorem qiG (ts:List ByteArray) (p:Bool):(qay false ts).length<=(qay p ts).length:=by
 cases ts with
 | nil=>simp[qay]
 | cons t ts=>
  simp only[qay,List.length_append]
  have:(gap false t).length=0:=rfl
  cases hb:byl t with
  | nil=>
   have e : ∀ q,qbQ q t=q:=fun q=>by unfold qbQ; rw[hb]; rfl
   rw[e,e]
   have:=qiG ts p
   simp[gap]
   omega
  | cons c r=>
   have e:qbQ p t=qbQ false t:=by
    unfold qbQ
    cases hl:(byl t).getLast? with
    | none=>rw[List.getLast?_eq_none_iff] at hl; rw[hl] at hb; cases hb
    | some c=>rfl
   rw[e]
   omega
theorem qaH (a b c:List ByteArray) (p:Bool):(qay false b).length<=(qay p (a++(b++c))).length:=by
 rw[qec,qec,List.length_append,List.length_append]
 have:=qiG b (ql2 p a)
 omega
theorem qc9 (ts:List ByteArray):qay false (bs [40]::(ts++[bs [41]]))=40::(qay false ts++[41]):=by
 have e1:qbQ false (bs [40])=false:=by decide
 have g1:gap false (bs [40])=[]:=rfl
 have g2 : ∀ q,gap q (bs [41])=[]:=fun q=>by cases q<;>decide
 rw[qay,e1,g1,qec,qay,g2]
 simp[qay,qaU]
def qbL (e:E) (full:Bool) (p:Nat) (i:Int):Prop:=(qay false (e.tx full p)).length<2 ^ 40->Z tS (.call 246 [e.node,.int i,.bool full] [])=some (.ret (.str (bs (qay false (e.tx full p)))) [])
theorem qbM (full:Bool) {e:E} (h:e.good) (p:Nat) : ∀ t∈e.tx full p,t.size≠0:=fun t ht=>qnH (qoe (qkX full e h p).ok t ht)
theorem qn4 {full:Bool} {n:Int} (h0:0<=n) (h1:n<=2147483647) {p:Nat} {i:Int} (hi:i=p) (hp:p<=8):qbL (E.int n) full p i:=by
 intro hsz
 have zl:Z tS (.call 261 [.dat (.agg [.lit (.int .i64 8),.lit (.int .i64 n),.lit (.string ⟨#[]⟩),.lit (.slice none 0 0)])] [])=some (.ret (.int 8) []):=qcK (.int n)
 have hc : ¬ (8:Int)<i:=by omega
 have hq : ¬ 8<p:=by omega
 have f0:Z tS (.call 20 [.int n] [])=some (.ret (.str (bs (qhb n.toNat))) []):=by
  have:=qlX (n:=n.toNat) (by omega)
  rw[show ((n.toNat:Nat):Int)=n by omega] at this
  exact this
 have htx:(E.int n).tx full p=[bs (qhb n.toNat)]:=by simp[E.tx,qcc,qdt,ustr,bs,qfE,qiQ,Bop.left]
 have hfin:bs (qay false ((E.int n).tx full p))=(bs (qhb n.toNat)):=by
  rw[htx,qay,qay,List.append_nil]
  exact qcr (bs (qhb n.toNat))
 rw[hfin]
 clear hfin htx hsz
 refine Z_call (pf:=F246) rfl rfl ?_
 cases full<;>simp[F246,qao,zl,hc,f0]
theorem qj6 {full:Bool}  {p:Nat} {i:Int} (hi:i=p) (hp:p<=8):qbL (E.bool 0) full p i:=by
 intro hsz
 have zl:Z tS (.call 261 [.dat (.agg [.lit (.int .i64 9),.lit (.int .i64 0),.lit (.string ⟨#[]⟩),.lit (.slice none 0 0)])] [])=some (.ret (.int 8) []):=qcK (.bool 0)
 have hc : ¬ (8:Int)<i:=by omega
 have hq : ¬ 8<p:=by omega
 have htx:(E.bool 0).tx full p=[⟨#[102,97,108,115,101]⟩]:=by simp[E.tx,qcc,qdt,ustr,bs,qfE,qiQ,Bop.left]
 have hfin:bs (qay false ((E.bool 0).tx full p))=(⟨#[102,97,108,115,101]⟩):=by
  rw[htx,qay,qay,List.append_nil]
  exact qcr (⟨#[102,97,108,115,101]⟩)
 rw[hfin]
 clear hfin htx hsz
 refine Z_call (pf:=F246) rfl rfl ?_
 cases full<;>simp[F246,qao,zl,hc]
theorem qj7 {full:Bool}  {p:Nat} {i:Int} (hi:i=p) (hp:p<=8):qbL (E.bool 1) full p i:=by
 intro hsz
 have zl:Z tS (.call 261 [.dat (.agg [.lit (.int .i64 9),.lit (.int .i64 1),.lit (.string ⟨#[]⟩),.lit (.slice none 0 0)])] [])=some (.ret (.int 8) []):=qcK (.bool 1)
 have hc : ¬ (8:Int)<i:=by omega
 have hq : ¬ 8<p:=by omega
 have htx:(E.bool 1).tx full p=[⟨#[116,114,117,101]⟩]:=by simp[E.tx,qcc,qdt,ustr,bs,qfE,qiQ,Bop.left]
 have hfin:bs (qay false ((E.bool 1).tx full p))=(⟨#[116,114,117,101]⟩):=by
  rw[htx,qay,qay,List.append_nil]
  exact qcr (⟨#[116,114,117,101]⟩)
 rw[hfin]
 clear hfin htx hsz
 refine Z_call (pf:=F246) rfl rfl ?_
 cases full<;>simp[F246,qao,zl,hc]
theorem qn5 {full:Bool} {s:ByteArray} {p:Nat} {i:Int} (hi:i=p) (hp:p<=8):qbL (E.var s) full p i:=by
 intro hsz
 have zl:Z tS (.call 261 [.dat (.agg [.lit (.int .i64 10),.lit (.int .i64 0),.lit (.string s),.lit (.slice none 0 0)])] [])=some (.ret (.int 8) []):=qcK (.var s)
 have hc : ¬ (8:Int)<i:=by omega
 have hq : ¬ 8<p:=by omega
 have htx:(E.var s).tx full p=[s]:=by simp[E.tx,qcc,qdt,ustr,bs,qfE,qiQ,Bop.left]
 have hfin:bs (qay false ((E.var s).tx full p))=(s):=by
  rw[htx,qay,qay,List.append_nil]
  exact qcr (s)
 rw[hfin]
 clear hfin htx hsz
 refine Z_call (pf:=F246) rfl rfl ?_
 cases full<;>simp[F246,qao,zl,hc]
theorem qlN {full:Bool} {s:ByteArray} {p:Nat} {i:Int} (hi:i=p) (hp:p<=8):qbL (E.name s) full p i:=by
 intro hsz
 have zl:Z tS (.call 261 [.dat (.agg [.lit (.int .i64 12),.lit (.int .i64 0),.lit (.string s),.lit (.slice none 0 0)])] [])=some (.ret (.int 8) []):=qcK (.name s)
 have hc : ¬ (8:Int)<i:=by omega
 have hq : ¬ 8<p:=by omega
 have htx:(E.name s).tx full p=[s]:=by simp[E.tx,qcc,qdt,ustr,bs,qfE,qiQ,Bop.left]
 have hfin:bs (qay false ((E.name s).tx full p))=(s):=by
  rw[htx,qay,qay,List.append_nil]
  exact qcr (s)
 rw[hfin]
 clear hfin htx hsz
 refine Z_call (pf:=F246) rfl rfl ?_
 cases full<;>simp[F246,qao,zl,hc]
theorem qj8 {full:Bool} {f:Bool} {s:ByteArray} {e:E} (ge:e.good) (he:qbL e full 1 1) {p:Nat} {i:Int} (hi:i=p) (hp:p<=8):qbL (E.field f s e) full p i:=by
 intro hsz
 have zl:Z tS (.call 261 [.dat (.agg [.lit (.int .i64 11),.lit (.int .i64 0),.lit (.string s),.sl [.lit (.int .i64 e.kind),.lit (.int .i64 e.num),.lit (.string e.str),e.kids] 1 f])] [])=some (.ret (.int 8) []):=qcK (.field f s e)
 have hc : ¬ (8:Int)<i:=by omega
 have hq : ¬ 8<p:=by omega
 obtain⟨inn,hinn⟩ : ∃ v,v=[s]++([⟨#[91]⟩]++(e.tx full 1++([⟨#[93]⟩]++[]))):=⟨_,rfl⟩
 have htx:(E.field f s e).tx full p=inn:=by
  rw[hinn]
  simp[E.tx,qcc,qdt,ustr,bs,qfE,qiQ,Bop.left,hq]
 rw[htx] at hsz ⊢
 have hin:=hsz
 have z2:=he (Nat.lt_of_le_of_lt (by
  have:=qaH ([s]++([⟨#[91]⟩])) (e.tx full 1) ([⟨#[93]⟩]++[]) false
  try simp only[List.append_assoc,List.nil_append] at this
  rw[hinn]
  exact this) hin)
 have hP:Parts [s,⟨#[91]⟩,bs (qay false (e.tx full 1)),⟨#[93]⟩] inn:=by rw[hinn]; exact (.tok (.tok (.sub (qbM full ge 1) (.tok .nil))))
 obtain⟨R,hR⟩ : ∃ v,v=bs (qay false inn):=⟨_,rfl⟩
 have hRs:R.size<2 ^ 40:=by rw[hR,qaG]; exact hin
 have za:Z tS (.call 247 [.dat (.sl [.lit (.string s),.lit (.string ⟨#[91]⟩),.lit (.string (bs (qay false (e.tx full 1)))),.lit (.string ⟨#[93]⟩)] 4 true)] [])=some (.ret (.str R) []):=qep hP hR (by simp) hRs
 generalize bs (qay false (e.tx full 1))=r2 at *
 rw[<- hR]
 clear hP hR hinn htx hsz hin
 refine Z_call (pf:=F246) rfl rfl ?_
 cases full<;>simp[F246,qao,zl,hc,z2,za]
theorem qsd {f neg:Bool} {e:E} {L:Nat} (hL:L=qdt neg) (ge:e.good) (he:qbL e false L L) {p:Nat} {i:Int} (hi:i=p) (hp:p<=L):qbL (E.un f neg e) false p i:=by
 intro hsz
 have zl:Z tS (.call 261 [.dat (.agg [.lit (.int .i64 13),.lit (.int .i64 0),.lit (.string (ustr neg)),.sl [.lit (.int .i64 e.kind),.lit (.int .i64 e.num),.lit (.string e.str),e.kids] 1 f])] [])=some (.ret (.int L) []):=by
  have:=qcK (.un f neg e)
  rw[show E.lev (.un f neg e)=L from hL.symm] at this
  exact this
 have hc : ¬ (L:Int)<i:=by omega
 have hq : ¬ L<p:=by omega
 have h8:(L:Int)<8:=by rw[hL]; cases neg<;>decide
 obtain⟨inn,hinn⟩ : ∃ v,v=[(ustr neg)]++(e.tx false L++[]):=⟨_,rfl⟩
 have htx:(E.un f neg e).tx false p=inn:=by
  rw[hinn]
  simp[E.tx,qcc,bs,hL.symm,hq]
 rw[htx] at hsz ⊢
 have hin:=hsz
 have z1:=he (Nat.lt_of_le_of_lt (by
  have:=qaH ([(ustr neg)]) (e.tx false L) ([]) false
  try simp only[List.append_assoc,List.nil_append] at this
  rw[hinn]
  exact this) hin)
 have hP:Parts [(ustr neg),bs (qay false (e.tx false L))] inn:=by rw[hinn]; exact (.tok (.sub (qbM false ge L) .nil))
 obtain⟨R,hR⟩ : ∃ v,v=bs (qay false inn):=⟨_,rfl⟩
 have hRs:R.size<2 ^ 40:=by rw[hR,qaG]; exact hin
 have za:Z tS (.call 247 [.dat (.sl [.lit (.string (ustr neg)),.lit (.string (bs (qay false (e.tx false L))))] 2 true)] [])=some (.ret (.str R) []):=qep hP hR (by simp) hRs
 generalize bs (qay false (e.tx false L))=r1 at *
 rw[<- hR]
 clear hP hR hinn htx hsz hin
 refine Z_call (pf:=F246) rfl rfl ?_
 simp[F246,qao,zl,hc,z1,za,h8]
theorem qqz {f neg:Bool} {e:E} {L:Nat} (hL:L=qdt neg) (ge:e.good) (he:qbL e false L L) {p:Nat} {i:Int} (hi:i=p) (hp:L<p):qbL (E.un f neg e) false p i:=by
 intro hsz
 have zl:Z tS (.call 261 [.dat (.agg [.lit (.int .i64 13),.lit (.int .i64 0),.lit (.string (ustr neg)),.sl [.lit (.int .i64 e.kind),.lit (.int .i64 e.num),.lit (.string e.str),e.kids] 1 f])] [])=some (.ret (.int L) []):=by
  have:=qcK (.un f neg e)
  rw[show E.lev (.un f neg e)=L from hL.symm] at this
  exact this
 have hc:(L:Int)<i:=by omega
 have hq:L<p:=hp
 have h8:(L:Int)<8:=by rw[hL]; cases neg<;>decide
 obtain⟨inn,hinn⟩ : ∃ v,v=[(ustr neg)]++(e.tx false L++[]):=⟨_,rfl⟩
 have htx:(E.un f neg e).tx false p=bs [40]::(inn++[bs [41]]):=by
  rw[hinn]
  simp[E.tx,qcc,bs,hL.symm,hq]
 rw[htx] at hsz ⊢
 rw[qc9] at hsz ⊢
 have hin:(qay false inn).length<2 ^ 40:=by simp at hsz; omega
 have hin2:(qay false inn).length+2<2 ^ 40:=by simp at hsz; omega
 have z1:=he (Nat.lt_of_le_of_lt (by
  have:=qaH ([(ustr neg)]) (e.tx false L) ([]) false
  try simp only[List.append_assoc,List.nil_append] at this
  rw[hinn]
  exact this) hin)
 have hP:Parts [(ustr neg),bs (qay false (e.tx false L))] inn:=by rw[hinn]; exact (.tok (.sub (qbM false ge L) .nil))
 obtain⟨R,hR⟩ : ∃ v,v=bs (qay false inn):=⟨_,rfl⟩
 have hRs:R.size<2 ^ 40:=by rw[hR,qaG]; exact hin
 have za:Z tS (.call 247 [.dat (.sl [.lit (.string (ustr neg)),.lit (.string (bs (qay false (e.tx false L))))] 2 true)] [])=some (.ret (.str R) []):=qep hP hR (by simp) hRs
 generalize bs (qay false (e.tx false L))=r1 at *
 have hfin:bs (40::(qay false inn++[41]))=⟨#[40]⟩++R++⟨#[41]⟩:=by
  rw[qbF,qbF ⟨#[40]⟩,qaU,hR,qaU]
  simp[byl]
 rw[hfin]
 have hRl:R.size+2<2 ^ 40:=by rw[hR,qaG]; exact hin2
 have y1:((⟨#[40]⟩:ByteArray).size:Int)=1:=rfl
 have y2:((⟨#[41]⟩:ByteArray).size:Int)=1:=rfl
 have y3:(⟨#[40]⟩:ByteArray).size=1:=rfl
 have y4:(⟨#[41]⟩:ByteArray).size=1:=rfl
 have y5 : ¬ (9223372036854775807:Int)<1+(R.size:Int):=by omega
 have y6 : ¬ (9223372036854775807:Int)<1+(R.size:Int)+1:=by omega
 have y7:(⟨#[40]⟩++R:ByteArray).size=1+R.size:=by rw[ByteArray.size_append]; rfl
 clear hP hR hinn htx hsz hin hin2 hfin
 refine Z_call (pf:=F246) rfl rfl ?_
 simp[F246,qao,zl,hc,y1,y2,y3,y4,y5,y6,y7,z1,za,h8]
theorem qqA {f:Bool} {o:Bop} {a b:E} {L:Nat} (hl:o.prec=L) (h4:L≠4) (ga:a.good) (gb:b.good) (ha:qbL a false L L) (hb:qbL b false (L+1) ((L:Int)+1)) {p:Nat} {i:Int} (hi:i=p) (hp:p<=L):qbL (E.bin f o a b) false p i:=by
 intro hsz
 have zl:Z tS (.call 261 [.dat (.agg [.lit (.int .i64 14),.lit (.int .i64 0),.lit (.string o.str),.sl [.lit (.int .i64 a.kind),.lit (.int .i64 a.num),.lit (.string a.str),a.kids,.lit (.int .i64 b.kind),.lit (.int .i64 b.num),.lit (.string b.str),b.kids] 2 f])] [])=some (.ret (.int L) []):=by
  have:=qcK (.bin f o a b)
  rw[show E.lev (.bin f o a b)=L from hl] at this
  exact this
 have hc : ¬ (L:Int)<i:=by omega
 have hq : ¬ L<p:=by omega
 have hlf:o.left=L:=by have:=qa0 o; omega
 have h4' : ¬ (L:Int)=4:=by omega
 have h8:(L:Int)<8:=by have:=qa0 o; omega
 have w1:=qaj ((L:Int)+1) (by omega)
 obtain⟨inn,hinn⟩ : ∃ v,v=a.tx false L++([o.str]++(b.tx false (L+1)++[])):=⟨_,rfl⟩
 have htx:(E.bin f o a b).tx false p=inn:=by
  rw[hinn]
  simp[E.tx,qcc,bs,hl,hlf,hq]
 rw[htx] at hsz ⊢
 have hin:=hsz
 have z0:=ha (Nat.lt_of_le_of_lt (by
  have:=qaH ([]) (a.tx false L) ([o.str]++(b.tx false (L+1)++[])) false
  try simp only[List.append_assoc,List.nil_append] at this
  rw[hinn]
  exact this) hin)
 have z2:=hb (Nat.lt_of_le_of_lt (by
  have:=qaH (a.tx false L++([o.str])) (b.tx false (L+1)) ([]) false
  try simp only[List.append_assoc,List.nil_append] at this
  rw[hinn]
  exact this) hin)
 have hP:Parts [bs (qay false (a.tx false L)),o.str,bs (qay false (b.tx false (L+1)))] inn:=by rw[hinn]; exact (.sub (qbM false ga L) (.tok (.sub (qbM false gb (L+1)) .nil)))
 obtain⟨R,hR⟩ : ∃ v,v=bs (qay false inn):=⟨_,rfl⟩
 have hRs:R.size<2 ^ 40:=by rw[hR,qaG]; exact hin
 have za:Z tS (.call 247 [.dat (.sl [.lit (.string (bs (qay false (a.tx false L)))),.lit (.string o.str),.lit (.string (bs (qay false (b.tx false (L+1)))))] 3 true)] [])=some (.ret (.str R) []):=qep hP hR (by simp) hRs
 generalize bs (qay false (a.tx false L))=r0 at *
 generalize bs (qay false (b.tx false (L+1)))=r2 at *
 rw[<- hR]
 clear hP hR hinn htx hsz hin
 refine Z_call (pf:=F246) rfl rfl ?_
 simp[F246,qao,zl,hc,z0,z2,za,h4',h8,w1]
theorem qoR {f:Bool} {o:Bop} {a b:E} {L:Nat} (hl:o.prec=L) (h4:L≠4) (ga:a.good) (gb:b.good) (ha:qbL a false L L) (hb:qbL b false (L+1) ((L:Int)+1)) {p:Nat} {i:Int} (hi:i=p) (hp:L<p):qbL (E.bin f o a b) false p i:=by
 intro hsz
 have zl:Z tS (.call 261 [.dat (.agg [.lit (.int .i64 14),.lit (.int .i64 0),.lit (.string o.str),.sl [.lit (.int .i64 a.kind),.lit (.int .i64 a.num),.lit (.string a.str),a.kids,.lit (.int .i64 b.kind),.lit (.int .i64 b.num),.lit (.string b.str),b.kids] 2 f])] [])=some (.ret (.int L) []):=by
  have:=qcK (.bin f o a b)
  rw[show E.lev (.bin f o a b)=L from hl] at this
  exact this
 have hc:(L:Int)<i:=by omega
 have hq:L<p:=hp
 have hlf:o.left=L:=by have:=qa0 o; omega
 have h4' : ¬ (L:Int)=4:=by omega
 have h8:(L:Int)<8:=by have:=qa0 o; omega
 have w1:=qaj ((L:Int)+1) (by omega)
 obtain⟨inn,hinn⟩ : ∃ v,v=a.tx false L++([o.str]++(b.tx false (L+1)++[])):=⟨_,rfl⟩
 have htx:(E.bin f o a b).tx false p=bs [40]::(inn++[bs [41]]):=by
  rw[hinn]
  simp[E.tx,qcc,bs,hl,hlf,hq]
 rw[htx] at hsz ⊢
 rw[qc9] at hsz ⊢
 have hin:(qay false inn).length<2 ^ 40:=by simp at hsz; omega
 have hin2:(qay false inn).length+2<2 ^ 40:=by simp at hsz; omega
 have z0:=ha (Nat.lt_of_le_of_lt (by
  have:=qaH ([]) (a.tx false L) ([o.str]++(b.tx false (L+1)++[])) false
  try simp only[List.append_assoc,List.nil_append] at this
  rw[hinn]
  exact this) hin)
 have z2:=hb (Nat.lt_of_le_of_lt (by
  have:=qaH (a.tx false L++([o.str])) (b.tx false (L+1)) ([]) false
  try simp only[List.append_assoc,List.nil_append] at this
  rw[hinn]
  exact this) hin)
 have hP:Parts [bs (qay false (a.tx false L)),o.str,bs (qay false (b.tx false (L+1)))] inn:=by rw[hinn]; exact (.sub (qbM false ga L) (.tok (.sub (qbM false gb (L+1)) .nil)))
 obtain⟨R,hR⟩ : ∃ v,v=bs (qay false inn):=⟨_,rfl⟩
 have hRs:R.size<2 ^ 40:=by rw[hR,qaG]; exact hin
 have za:Z tS (.call 247 [.dat (.sl [.lit (.string (bs (qay false (a.tx false L)))),.lit (.string o.str),.lit (.string (bs (qay false (b.tx false (L+1)))))] 3 true)] [])=some (.ret (.str R) []):=qep hP hR (by simp) hRs
 generalize bs (qay false (a.tx false L))=r0 at *
 generalize bs (qay false (b.tx false (L+1)))=r2 at *
 have hfin:bs (40::(qay false inn++[41]))=⟨#[40]⟩++R++⟨#[41]⟩:=by
  rw[qbF,qbF ⟨#[40]⟩,qaU,hR,qaU]
  simp[byl]
 rw[hfin]
 have hRl:R.size+2<2 ^ 40:=by rw[hR,qaG]; exact hin2
 have y1:((⟨#[40]⟩:ByteArray).size:Int)=1:=rfl
 have y2:((⟨#[41]⟩:ByteArray).size:Int)=1:=rfl
 have y3:(⟨#[40]⟩:ByteArray).size=1:=rfl
 have y4:(⟨#[41]⟩:ByteArray).size=1:=rfl
 have y5 : ¬ (9223372036854775807:Int)<1+(R.size:Int):=by omega
 have y6 : ¬ (9223372036854775807:Int)<1+(R.size:Int)+1:=by omega
 have y7:(⟨#[40]⟩++R:ByteArray).size=1+R.size:=by rw[ByteArray.size_append]; rfl
 clear hP hR hinn htx hsz hin hin2 hfin
 refine Z_call (pf:=F246) rfl rfl ?_
 simp[F246,qao,zl,hc,y1,y2,y3,y4,y5,y6,y7,z0,z2,za,h4',h8,w1]
theorem qoS {f:Bool} {o:Bop} {a b:E} (hl:o.prec=4) (ga:a.good) (gb:b.good) (ha:qbL a false 5 5) (hb:qbL b false 5 5) {p:Nat} {i:Int} (hi:i=p) (hp:p<=4):qbL (E.bin f o a b) false p i:=by
 intro hsz
 have zl:Z tS (.call 261 [.dat (.agg [.lit (.int .i64 14),.lit (.int .i64 0),.lit (.string o.str),.sl [.lit (.int .i64 a.kind),.lit (.int .i64 a.num),.lit (.string a.str),a.kids,.lit (.int .i64 b.kind),.lit (.int .i64 b.num),.lit (.string b.str),b.kids] 2 f])] [])=some (.ret (.int 4) []):=by
  have:=qcK (.bin f o a b)
  rw[show E.lev (.bin f o a b)=4 from hl] at this
  exact this
 have hc : ¬ (4:Int)<i:=by omega
 have hq : ¬ 4<p:=by omega
 have hlf:o.left=5:=by have:=qa0 o; omega
 obtain⟨inn,hinn⟩ : ∃ v,v=a.tx false 5++([o.str]++(b.tx false 5++[])):=⟨_,rfl⟩
 have htx:(E.bin f o a b).tx false p=inn:=by
  rw[hinn]
  simp[E.tx,qcc,bs,hl,hlf,hq]
 rw[htx] at hsz ⊢
 have hin:=hsz
 have z0:=ha (Nat.lt_of_le_of_lt (by
  have:=qaH ([]) (a.tx false 5) ([o.str]++(b.tx false 5++[])) false
  try simp only[List.append_assoc,List.nil_append] at this
  rw[hinn]
  exact this) hin)
 have z2:=hb (Nat.lt_of_le_of_lt (by
  have:=qaH (a.tx false 5++([o.str])) (b.tx false 5) ([]) false
  try simp only[List.append_assoc,List.nil_append] at this
  rw[hinn]
  exact this) hin)
 have hP:Parts [bs (qay false (a.tx false 5)),o.str,bs (qay false (b.tx false 5))] inn:=by rw[hinn]; exact (.sub (qbM false ga 5) (.tok (.sub (qbM false gb 5) .nil)))
 obtain⟨R,hR⟩ : ∃ v,v=bs (qay false inn):=⟨_,rfl⟩
 have hRs:R.size<2 ^ 40:=by rw[hR,qaG]; exact hin
 have za:Z tS (.call 247 [.dat (.sl [.lit (.string (bs (qay false (a.tx false 5)))),.lit (.string o.str),.lit (.string (bs (qay false (b.tx false 5))))] 3 true)] [])=some (.ret (.str R) []):=qep hP hR (by simp) hRs
 generalize bs (qay false (a.tx false 5))=r0 at *
 generalize bs (qay false (b.tx false 5))=r2 at *
 rw[<- hR]
 clear hP hR hinn htx hsz hin
 refine Z_call (pf:=F246) rfl rfl ?_
 simp[F246,qao,zl,hc,z0,z2,za,qaj 5 (by omega)]
theorem qnb {f:Bool} {o:Bop} {a b:E} (hl:o.prec=4) (ga:a.good) (gb:b.good) (ha:qbL a false 5 5) (hb:qbL b false 5 5) {p:Nat} {i:Int} (hi:i=p) (hp:4<p):qbL (E.bin f o a b) false p i:=by
 intro hsz
 have zl:Z tS (.call 261 [.dat (.agg [.lit (.int .i64 14),.lit (.int .i64 0),.lit (.string o.str),.sl [.lit (.int .i64 a.kind),.lit (.int .i64 a.num),.lit (.string a.str),a.kids,.lit (.int .i64 b.kind),.lit (.int .i64 b.num),.lit (.string b.str),b.kids] 2 f])] [])=some (.ret (.int 4) []):=by
  have:=qcK (.bin f o a b)
  rw[show E.lev (.bin f o a b)=4 from hl] at this
  exact this
 have hc:(4:Int)<i:=by omega
 have hq:4<p:=hp
 have hlf:o.left=5:=by have:=qa0 o; omega
 obtain⟨inn,hinn⟩ : ∃ v,v=a.tx false 5++([o.str]++(b.tx false 5++[])):=⟨_,rfl⟩
 have htx:(E.bin f o a b).tx false p=bs [40]::(inn++[bs [41]]):=by
  rw[hinn]
  simp[E.tx,qcc,bs,hl,hlf,hq]
 rw[htx] at hsz ⊢
 rw[qc9] at hsz ⊢
 have hin:(qay false inn).length<2 ^ 40:=by simp at hsz; omega
 have hin2:(qay false inn).length+2<2 ^ 40:=by simp at hsz; omega
 have z0:=ha (Nat.lt_of_le_of_lt (by
  have:=qaH ([]) (a.tx false 5) ([o.str]++(b.tx false 5++[])) false
  try simp only[List.append_assoc,List.nil_append] at this
  rw[hinn]
  exact this) hin)
 have z2:=hb (Nat.lt_of_le_of_lt (by
  have:=qaH (a.tx false 5++([o.str])) (b.tx false 5) ([]) false
  try simp only[List.append_assoc,List.nil_append] at this
  rw[hinn]
  exact this) hin)
 have hP:Parts [bs (qay false (a.tx false 5)),o.str,bs (qay false (b.tx false 5))] inn:=by rw[hinn]; exact (.sub (qbM false ga 5) (.tok (.sub (qbM false gb 5) .nil)))
 obtain⟨R,hR⟩ : ∃ v,v=bs (qay false inn):=⟨_,rfl⟩
 have hRs:R.size<2 ^ 40:=by rw[hR,qaG]; exact hin
 have za:Z tS (.call 247 [.dat (.sl [.lit (.string (bs (qay false (a.tx false 5)))),.lit (.string o.str),.lit (.string (bs (qay false (b.tx false 5))))] 3 true)] [])=some (.ret (.str R) []):=qep hP hR (by simp) hRs
 generalize bs (qay false (a.tx false 5))=r0 at *
 generalize bs (qay false (b.tx false 5))=r2 at *
 have hfin:bs (40::(qay false inn++[41]))=⟨#[40]⟩++R++⟨#[41]⟩:=by
  rw[qbF,qbF ⟨#[40]⟩,qaU,hR,qaU]
  simp[byl]
 rw[hfin]
 have hRl:R.size+2<2 ^ 40:=by rw[hR,qaG]; exact hin2
 have y1:((⟨#[40]⟩:ByteArray).size:Int)=1:=rfl
 have y2:((⟨#[41]⟩:ByteArray).size:Int)=1:=rfl
 have y3:(⟨#[40]⟩:ByteArray).size=1:=rfl
 have y4:(⟨#[41]⟩:ByteArray).size=1:=rfl
 have y5 : ¬ (9223372036854775807:Int)<1+(R.size:Int):=by omega
 have y6 : ¬ (9223372036854775807:Int)<1+(R.size:Int)+1:=by omega
 have y7:(⟨#[40]⟩++R:ByteArray).size=1+R.size:=by rw[ByteArray.size_append]; rfl
 clear hP hR hinn htx hsz hin hin2 hfin
 refine Z_call (pf:=F246) rfl rfl ?_
 simp[F246,qao,zl,hc,y1,y2,y3,y4,y5,y6,y7,z0,z2,za,qaj 5 (by omega)]
theorem qiH : ∀ e:E,e.good -> ∀ p i,i=((p:Nat):Int)->p<=8->qbL e false p i
 | .int n,h,p,i,hi,hp=>qn4 h.1 h.2 hi hp
 | .bool n,h,p,i,hi,hp=>by
  rcases h with rfl | rfl
  ·exact qj6 hi hp
  ·exact qj7 hi hp
 | .var s,h,p,i,hi,hp=>qn5 hi hp
 | .name s,h,p,i,hi,hp=>qlN hi hp
 | .field f s e,h,p,i,hi,hp=>qj8 h.2 (qiH e h.2 1 1 rfl (by omega)) hi hp
 | .un f neg e,h,p,i,hi,hp=>by
  have hg:e.good:=h
  have A:=qiH e hg (qdt neg) (qdt neg) rfl (by cases neg<;>decide)
  by_cases hq:qdt neg<p
  ·exact qqz rfl hg A hi hq
  ·exact qsd rfl hg A hi (by omega)
 | .bin f o a b,h,p,i,hi,hp=>by
  have hr:=qa0 o
  have A:=qiH a h.1 o.left o.left rfl (by omega)
  have B:=qiH b h.2 (o.prec+1) ((o.prec:Int)+1) (by omega) (by omega)
  by_cases h4:o.prec=4
  ·rw[show o.left=5 by omega] at A
   rw[h4] at B
   by_cases hq:4<p
   ·exact qnb h4 h.1 h.2 A B hi hq
   ·exact qoS h4 h.1 h.2 A B hi (by omega)
  ·rw[show o.left=o.prec by omega] at A
   by_cases hq:o.prec<p
   ·exact qoR rfl h4 h.1 h.2 A B hi hq
   ·exact qqA rfl h4 h.1 h.2 A B hi (by omega)
theorem qqB {e:E} (h:e.good) (hsz:(qay false (e.tx false 1)).length<2 ^ 40):Z tS (.call 234 [e.node] [])=some (.ret (.str (bs (qay false (e.tx false 1)))) []):=by
 have z:=qiH e h 1 1 rfl (by omega) hsz
 generalize bs (qay false (e.tx false 1))=R at *
 refine Z_call (pf:=F234) rfl rfl ?_
 simp[F234,z]
end Go.Pm
end SSb
section STP
namespace Go.Pm.F
def tP:Nat->Option PFun
 | 228=>some F228
 | 239=>some F239
 | 240=>some F240
 | 241=>some F241
 | 242=>some F242
 | 249=>some F249
 | 250=>some F250
 | 251=>some F251
 | 252=>some F252
 | 253=>some F253
 | 254=>some F254
 | 255=>some F255
 | 256=>some F256
 | 264=>some F264
 | 265=>some F265
 | 266=>some F266
 | 267=>some F267
 | 268=>some F268
 | 269=>some F269
 | 270=>some F270
 | 271=>some F271
 | 275=>some F275
 | 276=>some F276
 | 277=>some F277
 | 278=>some F278
 | 279=>some F279
 | 280=>some F280
 | 281=>some F281
 | 284=>some F284
 | 285=>some F285
 | 286=>some F286
 | 287=>some F287
 | 289=>some F289
 | 290=>some F290
 | 292=>some F292
 | 297=>some F297
 | 303=>some F303
 | 304=>some F304
 | 307=>some F307
 | 308=>some F308
 | 309=>some F309
 | _=>none
end Go.Pm.F
end STP
section SKa
namespace Go.Pm
open F
set_option maxHeartbeats 2000000
theorem qdP (c:UInt8):Z tP (.call 264 [.dat (.lit (.int .u8 c.toNat))] [])=some (.ret (.bool (qaL c)) []):=by
 refine Z_call (pf:=F264) rfl rfl ?_
 by_cases h1:(97:Int)<=c.toNat
 ·have h1':97<=c.toNat:=by omega
  by_cases h2:(c.toNat:Int)<=122
  ·have h2':c.toNat<=122:=by omega
   simp[F264,qaL,h1,h1',h2,h2']
  ·have h2' : ¬ c.toNat<=122:=by omega
   simp[F264,qaL,h1,h1',h2,h2']
 ·have h1' : ¬ 97<=c.toNat:=by omega
  simp[F264,qaL,h1,h1']
theorem qeY (c:UInt8):Z tP (.call 266 [.dat (.lit (.int .u8 c.toNat))] [])=some (.ret (.bool (qam c)) []):=by
 refine Z_call (pf:=F266) rfl rfl ?_
 by_cases h1:(48:Int)<=c.toNat
 ·have h1':48<=c.toNat:=by omega
  by_cases h2:(c.toNat:Int)<=57
  ·have h2':c.toNat<=57:=by omega
   simp[F266,qam,h1,h1',h2,h2']
  ·have h2' : ¬ c.toNat<=57:=by omega
   simp[F266,qam,h1,h1',h2,h2']
 ·have h1' : ¬ 48<=c.toNat:=by omega
  simp[F266,qam,h1,h1']
theorem qlU {d:D} {l:List ByteArray} (hd:RowS d l) (hl:l.length<2 ^ 40) (x:ByteArray) : ∀ (m i:Nat),i+m=l.length ->
  (x∉l.drop i->Z tP (.loop 0 F284l0 [(0,.dat d),(1,.str x),(7,.int l.length),(8,.int i)] [])=some (.out (.exit 0) [(0,.dat d),(1,.str x),(7,.int l.length),(8,.int l.length),(9,.bool false)] [])) /\
  (x∈l.drop i -> ∃ (j:Nat),Z tP (.loop 0 F284l0 [(0,.dat d),(1,.str x),(7,.int l.length),(8,.int i)] [])=some (.out .ret [(4,.int j)] []))
 | 0,i,hi=>by
  obtain rfl:i=l.length:=by omega
  have ho:=hd.one
  have hc:=hd.cells
  refine⟨fun _=>?_,fun h=>by simp at h⟩
  rw[qaf]
  simp[qai,qd9,ho,hc]
 | m+1,i,hi=>by
  have hlt:i<l.length:=by omega
  have hlt':(i:Int)<l.length:=by omega
  have ho:=hd.one
  have hcl:=hd.cells
  have ha:=hd.at_ i hlt
  have hc:=qh4 l i hlt
  have w1:=qaj ((i:Int)+1) (by omega)
  have hdr:l.drop i=l[i]::l.drop (i+1):=List.drop_eq_getElem_cons hlt
  obtain⟨ih1,ih2⟩:=qlU hd hl x m (i+1) (by omega)
  simp only[Int.natCast_add,Int.cast_ofNat_Int] at ih1 ih2
  rw[hdr]
  generalize l[i]=y at hc ⊢
  by_cases hx:x=y
  ·subst hx
   refine⟨fun h=>absurd (List.mem_cons_self ..) h,fun _=>⟨i,?_⟩⟩
   rw[qaf]
   simp[qai,qd9,hlt',ha,hc,qa1,ho,hcl]
  ·refine⟨fun h=>?_,fun h=>?_⟩
   ·have z:=ih1 (fun h'=>h (List.mem_cons_of_mem _ h'))
    rw[qaf]
    simp[qai,qd9,hlt',ha,hc,qa1,hx,w1,z,ho,hcl]
   ·rcases List.mem_cons.1 h with h | h
    ·exact absurd h hx
    ·obtain⟨j,z⟩:=ih2 h
     refine⟨j,?_⟩
     rw[qaf]
     simp[qai,qd9,hlt',ha,hc,qa1,hx,w1,z,ho,hcl]
theorem qkW {d:D} {l:List ByteArray} (hd:RowS d l) (hl:l.length<2 ^ 40) (x:ByteArray):Z tP (.call 276 [.dat d,.str x] [])=some (.ret (.bool (decide (x∈l))) []):=by
 have ho:=hd.one
 have hc:=hd.cells
 have hn:=hd.len
 obtain⟨i1,i2⟩:=qlU hd hl x l.length 0 (by omega)
 simp only[Int.natCast_zero,List.drop_zero] at i1 i2
 by_cases h:x∈l
 ·obtain⟨j,z⟩:=i2 h
  have z2:Z tP (.call 284 [.dat d,.str x] [])=some (.ret (.int j) []):=by
   refine Z_call (pf:=F284) rfl rfl ?_
   simp[F284,ho,hc,hn,z]
  have hj:(0:Int)<=j:=by omega
  refine Z_call (pf:=F276) rfl rfl ?_
  simp[F276,ho,hc,z2,h,hj]
 ·have z:=i1 h
  have z2:Z tP (.call 284 [.dat d,.str x] [])=some (.ret (.int (-1)) []):=by
   refine Z_call (pf:=F284) rfl rfl ?_
   simp[F284,ho,hc,hn,z]
  refine Z_call (pf:=F276) rfl rfl ?_
  simp[F276,ho,hc,z2,h]
end Go.Pm
end SKa
section SKb
namespace Go.Pm
open F
set_option maxHeartbeats 4000000
def kwL:List (List UInt8 × Int):=[([111,110],2),([97,99,116],2),([116,105,99,107],2),([105,102],2),([101,108,115,101],2),([119,104,105,108,101],2),([101,102,102,101,99,116],2),([115,116,111,112],2),([116,114,117,101],2),([102,97,108,115,101],2),([115,101,108,102],2),([111,116,104,101,114],2),([120],3),([121],3),([118,120],3),([118,121],3),([97],3),([98],3),([104,105,116],3),([115,116,105,108,108],3)]
def kwM:List (Value × V):=kwL.map fun x=>(.string ⟨x.1.toArray⟩,.int x.2)
theorem qgU (s:ByteArray):Z tP (.call 239 [.str s] [])=some (.ret (.agg [.str s,.mp 0]) [.map kwM]):=by
 exact qmH (n:=2) (by kernel_rfl)
theorem qou (w:ByteArray):qhL .s (.string w) kwM=some (if w∈fieldNames then some (.int 3) else if w∈wordNames then some (.int 2) else none):=by
 have key : ∀ (l:List (List UInt8 × Int)),qhL .s (.string w) (l.map fun x=>(Value.string ⟨x.1.toArray⟩,V.int x.2))=some ((l.find? fun x=>decide (bs x.1=w)).map fun x => .int x.2):=fun l=>by
  induction l with
  | nil=>rfl
  | cons x l ih=>
   simp only[List.map_cons,qhL,qcV,ih,List.find?_cons]
   by_cases h:bs x.1=w
   ·have h':(w==(⟨x.1.toArray⟩:ByteArray))=true:=by rw[beq_iff_eq]; exact h.symm
    have h2:((⟨x.1.toArray⟩:ByteArray)==w)=true:=by rw[beq_iff_eq]; exact h
    simp[h,h',h2]
   ·have h':(w==(⟨x.1.toArray⟩:ByteArray))=false:=by rw[beq_eq_false_iff_ne]; exact fun e=>h e.symm
    have h2:((⟨x.1.toArray⟩:ByteArray)==w)=false:=by rw[beq_eq_false_iff_ne]; exact h
    simp[h,h',h2]
 rw[kwM,key]
 congr 1
 by_cases h1:w∈fieldNames
 ·rw[if_pos h1]
  simp only[fieldNames,List.mem_cons,List.not_mem_nil,or_false] at h1
  rcases h1 with rfl | rfl | rfl | rfl | rfl | rfl | rfl | rfl<;>rfl
 rw[if_neg h1]
 by_cases h2:w∈wordNames
 ·rw[if_pos h2]
  have hne:w≠qiZ:=fun e=>h1 (by rw[e]; decide)
  simp only[wordNames,List.mem_cons,List.not_mem_nil,or_false] at h2
  rcases h2 with rfl | rfl | rfl | h2 | rfl | rfl | rfl | rfl | rfl | rfl | rfl | rfl | rfl
  case inr.inr.inr.inl=>exact absurd h2 hne
  all_goals rfl
 rw[if_neg h2]
 have:kwL.find? (fun x=>decide (bs x.1=w))=none:=by
  rw[List.find?_eq_none]
  intro x hx
  have hall : ∀ x∈kwL,bs x.1∈fieldNames\/bs x.1∈wordNames:=by decide
  rw[decide_eq_true_eq]
  rintro rfl
  rcases hall x hx with h | h
  ·exact h1 h
  ·exact h2 h
 rw[this]
 rfl
abbrev pO (s:ByteArray) (m:Nat) (Q:V) (i a c:Int):Ob := .cells [.str s,.mp m,Q,.int i,.int a,.int c]
inductive LxS (s:ByteArray):S->Prop
 | nil (i a c:Int):LxS s [pO s 1 (.dat (.lit (.slice none 0 0))) i a c,.map kwM]
 | gr (cs:List D) (n t:Nat) (i a c:Int):LxS s [pO s 1 (.gsl cs n 5 2) i a c,.map kwM,.tip t]
theorem qa4:qf8 kwM=[]:=rfl
theorem qbv (r:Nat->Nat):qnZ r kwM=kwM:=rfl
attribute [local simp] qa4 qbv
theorem qgV (s:ByteArray) (hl:s.size<2 ^ 40) {σ : S} (hσ : LxS s σ) : ∀ (m i:Nat) (cm:Bool),i+m=s.size ->
  (i+qaX cm ((byl s).drop i)=s.size /\ ∃ v,Z tP (.loop σ.length F251l0 [(0,.ptr 0 0),(1,.int i),(5,.bool cm)] σ)=some (.out (.exit 0) [(0,.ptr 0 0),(1,.int s.size),(5,v),(13,.bool false)] σ)) \/
  Z tP (.loop σ.length F251l0 [(0,.ptr 0 0),(1,.int i),(5,.bool cm)] σ)=some (.out .ret [(4,.int ((i+qaX cm ((byl s).drop i):Nat)))] σ)
 | 0,i,cm,hi=>by
  obtain rfl:i=s.size:=by omega
  have hd:(byl s).drop s.size=[]:=List.drop_eq_nil_of_le (by rw[qaI]; exact Nat.le_refl _)
  refine .inl ⟨by rw[hd]; simp[qaX],.bool cm,?_⟩
  rw[qaf]
  cases hσ <;> simp[qai,qcC,V.len,List.range_succ]
 | m+1,i,cm,hi=>by
  obtain⟨c,h1,h2⟩:=qk6 (s:=s) (i:=i) (by omega)
  have hd:=qfk h2
  have hlt:(i:Int)<s.size:=by omega
  have w1:=qaj ((i:Int)+1) (by omega)
  have ih:=fun cm=>qgV s hl hσ m (i+1) cm (by omega)
  have fin : ∀ cm',qaX cm ((byl s).drop i)=1+qaX cm' ((byl s).drop (i+1)) ->
    Z tP (.loop σ.length F251l0 [(0,.ptr 0 0),(1,.int i),(5,.bool cm)] σ)=Z tP (.loop σ.length F251l0 [(0,.ptr 0 0),(1,.int (i+1)),(5,.bool cm')] σ) ->
    (i+qaX cm ((byl s).drop i)=s.size /\ ∃ v,Z tP (.loop σ.length F251l0 [(0,.ptr 0 0),(1,.int i),(5,.bool cm)] σ)=some (.out (.exit 0) [(0,.ptr 0 0),(1,.int s.size),(5,v),(13,.bool false)] σ)) \/
    Z tP (.loop σ.length F251l0 [(0,.ptr 0 0),(1,.int i),(5,.bool cm)] σ)=some (.out .ret [(4,.int ((i+qaX cm ((byl s).drop i):Nat)))] σ):=fun cm' e z=>by
   rw[e,z]
   have ih:=ih cm'
   rw[show i+(1+qaX cm' ((byl s).drop (i+1)))=i+1+qaX cm' ((byl s).drop (i+1)) by omega]
   simpa using ih
  by_cases h10:c.toNat=10
  ·refine fin false (by rw[hd]; simp[qaX,h10]; omega) ?_
   rw[qaf]
   cases hσ <;> simp[qai,qcC,V.len,h1,hlt,h10,w1,List.range_succ]
  have h10' : ¬ (c.toNat:Int)=10:=by omega
  by_cases hc:cm=true\/c.toNat=32\/c.toNat=9
  ·refine fin cm (by rw[hd]; simp only[qaX,if_neg h10,if_pos hc]; omega) ?_
   rw[qaf]
   cases cm
   ·have h9:c.toNat=32\/c.toNat=9:=by simpa using hc
    rcases h9 with h9 | h9<;>cases hσ <;> simp[qai,qcC,V.len,h1,hlt,h10',h9,w1,List.range_succ]
   ·cases hσ <;> simp[qai,qcC,V.len,h1,hlt,h10',w1,List.range_succ]
  have hc':=hc
  simp only[not_or,Bool.not_eq_true] at hc'
  obtain⟨rfl,h32,h9⟩:=hc'
  have h32' : ¬ (c.toNat:Int)=32:=by omega
  have h9' : ¬ (c.toNat:Int)=9:=by omega
  by_cases h35:c.toNat=35
  ·refine fin true (by rw[hd]; simp only[qaX,if_neg h10,if_neg hc,if_pos h35]; omega) ?_
   rw[qaf]
   cases hσ <;> simp[qai,qcC,V.len,h1,hlt,h35,w1,List.range_succ]
  ·have h35' : ¬ (c.toNat:Int)=35:=by omega
   have e:qaX false ((byl s).drop i)=0:=by rw[hd]; simp only[qaX,if_neg h10,if_neg hc,if_neg h35]
   rw[e]
   refine .inr ?_
   rw[qaf]
   cases hσ <;> simp[qai,qcC,V.len,h1,hlt,h10',h32',h9',h35',List.range_succ]
theorem qlv (s:ByteArray) (hl:s.size<2 ^ 40) {σ : S} (hσ : LxS s σ) {i:Nat} (hi:i<=s.size):Z tP (.call 251 [.ptr 0 0,.int i] σ)=some (.ret (.int ((i+qaX false ((byl s).drop i):Nat))) σ):=by
 rcases qgV s hl hσ (s.size-i) i false (by omega) with ⟨h,v,z⟩ | z
 ·rw[h]
  refine Z_call (pf:=F251) rfl rfl ?_
  cases hσ <;> simp only[List.length_cons,List.length_nil,Nat.reduceAdd] at z<;>simp[F251,z,List.range_succ]
 ·generalize i+qaX false ((byl s).drop i)=j at z ⊢
  refine Z_call (pf:=F251) rfl rfl ?_
  cases hσ <;> simp only[List.length_cons,List.length_nil,Nat.reduceAdd] at z<;>simp[F251,z,List.range_succ]
end Go.Pm
end SKb
section SKc
namespace Go.Pm
open F
set_option maxHeartbeats 4000000
attribute [local simp] qa4 qbv
abbrev tk5:Ob := .cells [.int 0,.str ⟨#[]⟩,.int 0,.int 0,.int 0]
theorem qgW (s:ByteArray) (hl:s.size<2 ^ 40) {σ : S} (hσ : LxS s σ) (a:Int) : ∀ (m i:Nat),i+m=s.size ->
  Z tP (.loop σ.length F265l0 [(0,.ptr 0 0),(1,.int a),(4,.ptr σ.length 0),(5,.int i)] (σ ++ [tk5]))=some (.out (.exit 0) [(0,.ptr 0 0),(1,.int a),(4,.ptr σ.length 0),(5,.int ((i+qbk qau ((byl s).drop i):Nat))),(34,.bool false)] (σ ++ [tk5]))
 | 0,i,hi=>by
  obtain rfl:i=s.size:=by omega
  have hd:(byl s).drop s.size=[]:=List.drop_eq_nil_of_le (by rw[qaI]; exact Nat.le_refl _)
  rw[qaf,hd]
  cases hσ <;> simp[qai,qd6,V.len,qbk,List.range_succ]
 | m+1,i,hi=>by
  obtain⟨c,h1,h2⟩:=qk6 (s:=s) (i:=i) (by omega)
  have hd:=qfk h2
  have hlt:(i:Int)<s.size:=by omega
  have w1:=qaj ((i:Int)+1) (by omega)
  have zl:=qdP c
  have zd:=qeY c
  have ih:=qgW s hl hσ a m (i+1) (by omega)
  simp only[Int.natCast_add,Int.cast_ofNat_Int] at ih
  by_cases hc:qau c=true
  ·have e:(i:Int)+((qbk qau ((byl s).drop (i+1)):Int)+1)=i+1+qbk qau ((byl s).drop (i+1)):=by omega
   rw[qaf,hd]
   simp only[qau,Bool.or_eq_true] at hc
   by_cases hcl:qaL c=true
   ·cases hσ <;> simp only[List.cons_append,List.nil_append,List.length_cons,List.length_nil,Nat.reduceAdd] at ih<;>simp[qai,qd6,V.len,qbk,h1,hlt,w1,zl,zd,hcl,ih,qau,e,List.range_succ]
   ·have hcd:qam c=true:=by rcases hc with h | h; exact absurd h hcl; exact h
    cases hσ <;> simp only[List.cons_append,List.nil_append,List.length_cons,List.length_nil,Nat.reduceAdd] at ih<;>simp[qai,qd6,V.len,qbk,h1,hlt,w1,zl,zd,hcl,hcd,ih,qau,e,List.range_succ]
  ·simp only[qau,Bool.or_eq_true,not_or] at hc
   rw[qaf,hd]
   cases hσ <;> simp[qai,qd6,V.len,qbk,h1,hlt,w1,zl,zd,hc.1,hc.2,qau,List.range_succ]
abbrev ptD (k:Int) (t:ByteArray) (a v c:Int):V := .dat (.agg [.lit (.int .i64 k),.lit (.string t),.lit (.int .i64 a),.lit (.int .i64 v),.lit (.int .i64 c)])
def pkW (w:ByteArray):Int:=if w∈fieldNames then 3 else if w∈wordNames then 2 else if 8<w.size then 6 else 1
def pcW (w:ByteArray):Int:=if w∈fieldNames\/w∈wordNames then 0 else if 8<w.size then 2 else 0
theorem qov (s:ByteArray) (hl:s.size<2 ^ 40) {σ : S} (hσ : LxS s σ) {i:Nat} (hi:i<=s.size):Z tP (.call 265 [.ptr 0 0,.int i] σ)=some (.ret (ptD (pkW (s.extract i (i+qbk qau ((byl s).drop i)))) (s.extract i (i+qbk qau ((byl s).drop i))) i 0 (pcW (s.extract i (i+qbk qau ((byl s).drop i))))) σ):=by
 have z:=qgW s hl hσ i (s.size-i) i (by omega)
 have hr:=qeD qau ((byl s).drop i)
 rw[List.length_drop,qaI] at hr
 generalize hq:i+qbk qau ((byl s).drop i)=q at z ⊢
 have q1:(i:Int)<=q:=by omega
 have q2:(q:Int)<=s.size:=by omega
 have q3:(i:Int)<=s.size:=by omega
 have hk:=qou (s.extract i q)
 have hws:(s.extract i q).size<=s.size:=by rw[ByteArray.size_extract]; omega
 obtain⟨w,hw⟩ : ∃ w,s.extract i q=w:=⟨_,rfl⟩
 rw[hw] at hk hws ⊢
 refine Z_call (pf:=F265) rfl rfl ?_
 unfold pkW pcW
 by_cases h1:w∈fieldNames
 ·rw[if_pos h1] at hk
  cases hσ <;> simp only[List.cons_append,List.nil_append,List.length_cons,List.length_nil,Nat.reduceAdd] at z<;>simp[F265,z,qbX,bound,q1,q2,q3,hw,hk,h1,qkR,qcy,qa2,List.range_succ]
 by_cases h2:w∈wordNames
 ·rw[if_neg h1,if_pos h2] at hk
  cases hσ <;> simp only[List.cons_append,List.nil_append,List.length_cons,List.length_nil,Nat.reduceAdd] at z<;>simp[F265,z,qbX,bound,q1,q2,q3,hw,hk,h1,h2,qkR,qcy,qa2,List.range_succ]
 rw[if_neg h1,if_neg h2] at hk
 by_cases h3:8<w.size
 ·have h3':(8:Int)<w.size:=by omega
  cases hσ <;> simp only[List.cons_append,List.nil_append,List.length_cons,List.length_nil,Nat.reduceAdd] at z<;>simp[F265,z,qbX,bound,q1,q2,q3,hw,hk,h1,h2,h3,h3',V.len,qkR,qcy,qa2,List.range_succ]
 ·have h3' : ¬ (8:Int)<w.size:=by omega
  cases hσ <;> simp only[List.cons_append,List.nil_append,List.length_cons,List.length_nil,Nat.reduceAdd] at z<;>simp[F265,z,qbX,bound,q1,q2,q3,hw,hk,h1,h2,h3,h3',V.len,qkR,qcy,qa2,List.range_succ]
def qmP (v:Nat) (l:List UInt8):Nat:=l.foldl (fun v c=>min (10*v+(c.toNat-48)) 2147483648) v
theorem qow (l:List UInt8) : ∀ n,qmP (min n 2147483648) l=min (l.foldl (fun v c=>10*v+(c.toNat-48)) n) 2147483648:=by
 induction l with
 | nil=>intro n; rfl
 | cons c l ih=>
  intro n
  have:=ih (10*n+(c.toNat-48))
  simp only[qmP,List.foldl_cons] at this ⊢
  rw[<- this]
  congr 1
  omega
theorem qmQ (l:List UInt8):qmP 0 l=min (digV l) 2147483648:=qow l 0
theorem qiv (s:ByteArray) (hl:s.size<2 ^ 40) {σ : S} (hσ : LxS s σ) (a:Int) : ∀ (m i v:Nat),i+m=s.size->v<=2147483648 ->
  Z tP (.loop σ.length F267l0 [(0,.ptr 0 0),(1,.int a),(4,.ptr σ.length 0),(5,.int i),(6,.int v)] (σ ++ [tk5]))=some (.out (.exit 0) [(0,.ptr 0 0),(1,.int a),(4,.ptr σ.length 0),(5,.int ((i+qbk qam ((byl s).drop i):Nat))),(6,.int (qmP v (((byl s).drop i).take (qbk qam ((byl s).drop i))))),(24,.bool false)] (σ ++ [tk5]))
 | 0,i,v,hi,hv=>by
  obtain rfl:i=s.size:=by omega
  have hd:(byl s).drop s.size=[]:=List.drop_eq_nil_of_le (by rw[qaI]; exact Nat.le_refl _)
  rw[qaf,hd]
  cases hσ <;> simp[qai,qfc,V.len,qbk,qmP,List.range_succ]
 | m+1,i,v,hi,hv=>by
  obtain⟨c,h1,h2⟩:=qk6 (s:=s) (i:=i) (by omega)
  have hd:=qfk h2
  have hlt:(i:Int)<s.size:=by omega
  have w1:=qaj ((i:Int)+1) (by omega)
  have zd:=qeY c
  by_cases hc:qam c=true
  ·have hc2:48<=c.toNat/\c.toNat<=57:=by simpa [qam] using hc
   have ih:=qiv s hl hσ a m (i+1) (min (10*v+(c.toNat-48)) 2147483648) (by omega) (Nat.min_le_right _ _)
   have e:(i:Int)+((qbk qam ((byl s).drop (i+1)):Int)+1)=i+1+qbk qam ((byl s).drop (i+1)):=by omega
   have es:qmP v (((byl s).drop i).take (qbk qam ((byl s).drop i)))=qmP (min (10*v+(c.toNat-48)) 2147483648) (((byl s).drop (i+1)).take (qbk qam ((byl s).drop (i+1)))):=by
    rw[hd]; simp[qbk,hc,qmP]
   rw[es]
   have er:i+qbk qam ((byl s).drop i)=i+1+qbk qam ((byl s).drop (i+1)):=by
    rw[hd]; simp[qbk,hc]; omega
   rw[er]
   have u0 : ∀ d:Nat,d<10->IntKind.u8.wrap (d:Int)=d:=by decide
   have u1:IntKind.u8.wrap ((c.toNat:Int)-48)=c.toNat-48:=by
    rw[show ((c.toNat:Int)-48)=((c.toNat-48:Nat):Int) by omega]; exact u0 _ (by omega)
   have u2:IntKind.i64.wrap ((c.toNat:Int)-48)=c.toNat-48:=qaj _ (by omega)
   have u3:IntKind.i64.wrap (10*(v:Int))=10*v:=qaj _ (by omega)
   have u4:IntKind.i64.wrap (10*(v:Int)+((c.toNat:Int)-48))=10*v+(c.toNat-48):=qaj _ (by omega)
   have u5:(if 2147483648<10*(v:Int)+(c.toNat-48) then 2147483648 else 10*(v:Int)+(c.toNat-48))=((min (10*v+(c.toNat-48)) 2147483648:Nat):Int):=by split<;>omega
   generalize min (10*v+(c.toNat-48)) 2147483648=v' at ih u5 ⊢
   rw[<- ih,qaf]
   cases hσ <;> simp[qai,qfc,V.len,h1,hlt,w1,zd,hc,u1,u2,u3,u4,u5,qoE,qlC,List.range_succ]
  ·have e0:qbk qam ((byl s).drop i)=0:=by rw[hd]; simp[qbk,hc]
   rw[e0,qaf]
   cases hσ <;> simp[qai,qfc,V.len,h1,hlt,zd,hc,qmP,List.range_succ]
end Go.Pm
end SKc
section SKd
namespace Go.Pm
open F
set_option maxHeartbeats 4000000
attribute [local simp] qa4 qbv
theorem qqu (s:ByteArray) (hl:s.size<2 ^ 40) {σ : S} (hσ : LxS s σ) {i:Nat} (hi:i<=s.size):Z tP (.call 267 [.ptr 0 0,.int i] σ) =
  some (.ret (ptD (if 2147483647<digV (((byl s).drop i).take (qbk qam ((byl s).drop i))) then 6 else 4) (s.extract i (i+qbk qam ((byl s).drop i))) i (min (digV (((byl s).drop i).take (qbk qam ((byl s).drop i)))) 2147483648:Nat) (if 2147483647<digV (((byl s).drop i).take (qbk qam ((byl s).drop i))) then 6 else 0)) σ):=by
 have z:=qiv s hl hσ i (s.size-i) i 0 (by omega) (by omega)
 rw[qmQ] at z
 have hr:=qeD qam ((byl s).drop i)
 rw[List.length_drop,qaI] at hr
 generalize digV (((byl s).drop i).take (qbk qam ((byl s).drop i)))=n at z ⊢
 generalize hq:i+qbk qam ((byl s).drop i)=q at z ⊢
 have q1:(i:Int)<=q:=by omega
 have q2:(q:Int)<=s.size:=by omega
 have q3:(i:Int)<=s.size:=by omega
 obtain⟨w,hw⟩ : ∃ w,s.extract i q=w:=⟨_,rfl⟩
 rw[hw]
 refine Z_call (pf:=F267) rfl rfl ?_
 by_cases hn:2147483647<n
 ·have e:min n 2147483648=2147483648:=by omega
  rw[e] at z ⊢
  rw[if_pos hn,if_pos hn]
  simp only[Int.natCast_zero,Int.cast_ofNat_Int] at z
  cases hσ <;> simp only[List.cons_append,List.nil_append,List.length_cons,List.length_nil,Nat.reduceAdd] at z<;>simp[F267,z,qbX,bound,q1,q2,q3,hw,List.range_succ]
 ·have e:min n 2147483648=n:=by omega
  have hn' : ¬ (2147483647:Int)<n:=by omega
  rw[e] at z ⊢
  rw[if_neg hn,if_neg hn]
  simp only[Int.natCast_zero] at z
  cases hσ <;> simp only[List.cons_append,List.nil_append,List.length_cons,List.length_nil,Nat.reduceAdd] at z<;>simp[F267,z,qbX,bound,q1,q2,q3,hw,hn',List.range_succ]
def qn3:ByteArray:=⟨#[123,125,91,93,40,41,61,59,44,60,62,43,45,42,47,33]⟩
theorem qoP (c:UInt8):decide (0<=firstIdx qn3 c)=decide (c.toNat∈qhI):=by
 have h : ∀ n:_root_.Fin 256,decide (0<=firstIdx qn3 n.val.toUInt8)=decide (n.val.toUInt8.toNat∈qhI):=by decide +kernel
 have:=h ⟨c.toNat,c.toNat_lt⟩
 simpa using this
theorem qqv (c:UInt8):Z tP (.call 268 [.str qn3,.dat (.lit (.int .u8 c.toNat))] [])=some (.ret (.int (firstIdx qn3 c)) []):=by
 have z:Z tP (.call 275 [.str qn3,.dat (.lit (.int .u8 c.toNat))] [])=some (.ret (.int (firstIdx qn3 c)) []):=by
  refine Z_call (pf:=F275) rfl rfl ?_
  simp[F275]
 refine Z_call (pf:=F268) rfl rfl ?_
 simp[F268,z]
def kindT (t:Tk):Int:=if t.bad≠0 then 6 else if t.s=⟨#[]⟩ then 0 else if qar qaL t.s then (if t.s∈fieldNames then 3 else if t.s∈wordNames then 2 else 1) else if qar qam t.s then 4 else 5
def qej (t:Tk):ByteArray:=if t.bad=12 then ⟨#[]⟩ else t.s
def valT (t:Tk):Nat:=if qar qam t.s then min (digV (byl t.s)) 2147483648 else 0
abbrev ptk (t:Tk):V:=ptD (kindT t) (qej t) t.at_ (valT t) t.bad
end Go.Pm
end SKd
section SKe
namespace Go.Pm
open F
set_option maxHeartbeats 4000000
attribute [local simp] qa4 qbv
theorem qc7 (p:UInt8->Bool) (c:UInt8) (r:List UInt8):qar p (bs (c::r))=p c:=by rw[qaZ,qaU]; rfl
theorem qlF {c:UInt8} (h:qaL c=true):qam c=false:=by
 simp only[qaL,qam,Bool.and_eq_true,decide_eq_true_eq,Bool.and_eq_false_iff,decide_eq_false_iff_not] at h ⊢
 omega
theorem qj3 {p:UInt8->Bool} {c:UInt8} (r:List UInt8) (h:p c=true):(c::r).take (qbk p (c::r))=c::r.take (qbk p r):=by simp[qbk,h]
theorem qmX (s:ByteArray) {σ : S} (hσ : LxS s σ):Z tP (.call 250 [.ptr 0 0,.int s.size] σ)=some (.ret (ptD 0 ⟨#[]⟩ s.size 0 0) σ):=by
 refine Z_call (pf:=F250) rfl rfl ?_
 cases hσ <;> simp[F250,V.len,List.range_succ]
theorem qmY (s:ByteArray) {σ : S} (hσ : LxS s σ) {i:Nat} (hi:i<s.size) {c:UInt8} (h1:s[i]?=some c) (hc:qaL c=true) {v:D} (ho:V.one (.dat v)=true) {k n x e:Int} {t:ByteArray} (z:Z tP (.call 265 [.ptr 0 0,.int i] σ)=some (.ret (ptD k t n x e) σ)):Z tP (.call 250 [.ptr 0 0,.int i] σ)=some (.ret (ptD k t n x e) σ):=by
 have zl:=qdP c
 have hne : ¬ (i:Int)=s.size:=by omega
 have hne' : ¬ i=s.size:=by omega
 refine Z_call (pf:=F250) rfl rfl ?_
 cases hσ <;> simp[F250,V.len,h1,hne,hne',zl,hc,z,List.range_succ]
theorem qmZ (s:ByteArray) {σ : S} (hσ : LxS s σ) {i:Nat} (hi:i<s.size) {c:UInt8} (h1:s[i]?=some c) (hl:qaL c=false) (hc:qam c=true) {k n x e:Int} {t:ByteArray} (z:Z tP (.call 267 [.ptr 0 0,.int i] σ)=some (.ret (ptD k t n x e) σ)):Z tP (.call 250 [.ptr 0 0,.int i] σ)=some (.ret (ptD k t n x e) σ):=by
 have zl:=qdP c
 have zd:=qeY c
 have hne : ¬ (i:Int)=s.size:=by omega
 have hne' : ¬ i=s.size:=by omega
 refine Z_call (pf:=F250) rfl rfl ?_
 cases hσ <;> simp[F250,V.len,h1,hne,hne',zl,zd,hl,hc,z,List.range_succ]
theorem qlG (s:ByteArray) (hs:s.size<2 ^ 40) {σ : S} (hσ : LxS s σ) {i:Nat} (hi:i+2<=s.size) {c:UInt8} (h1:s[i]?=some c) (hl:qaL c=false) (hc:qam c=false) {p:ByteArray} (hx:s.extract i (i+2)=p) (hp:p∈qc3):Z tP (.call 250 [.ptr 0 0,.int i] σ)=some (.ret (ptD 5 p i 0 0) σ):=by
 have zl:=qdP c
 have zd:=qeY c
 have hne : ¬ (i:Int)=s.size:=by omega
 have hne' : ¬ i=s.size:=by omega
 have w2:=qaj ((i:Int)+2) (by omega)
 have hle:(i:Int)+2<=s.size:=by omega
 have b1:(i:Int)<=s.size:=by omega
 have b2:(i:Int)<=(i:Int)+2:=by omega
 have b3:(0:Int)<=(i:Int)+2:=by omega
 have b4:((i:Int)+2).toNat=i+2:=by omega
 simp only[qc3,bs,List.mem_cons,List.not_mem_nil,or_false] at hp
 refine Z_call (pf:=F250) rfl rfl ?_
 rcases hp with rfl | rfl | rfl | rfl | rfl | rfl<;>cases hσ <;> simp[F250,V.len,h1,hne,hne',zl,zd,hl,hc,w2,hle,qbX,bound,b1,b2,b3,b4,hx,qa1,List.range_succ]
theorem qm0 (s:ByteArray) (hs:s.size<2 ^ 40) {σ : S} (hσ : LxS s σ) {i:Nat} (hi:i<s.size) {c:UInt8} (h1:s[i]?=some c) (hl:qaL c=false) (hc:qam c=false) (hp:i+2<=s.size->s.extract i (i+2)∉qc3) {x:ByteArray} (hx:s.extract i (i+1)=x):Z tP (.call 250 [.ptr 0 0,.int i] σ)=some (.ret (if c.toNat∈qhI then ptD 5 x i 0 0 else ptD 6 ⟨#[]⟩ i 0 12) σ):=by
 have zl:=qdP c
 have zd:=qeY c
 have zx:=qqv c
 have hm:=qoP c
 obtain⟨j,hj0⟩ : ∃ j,firstIdx qn3 c=j:=⟨_,rfl⟩
 rw[hj0] at zx hm
 simp only[qn3] at zx
 have hne : ¬ (i:Int)=s.size:=by omega
 have hne' : ¬ i=s.size:=by omega
 have w1:=qaj ((i:Int)+1) (by omega)
 have w2:=qaj ((i:Int)+2) (by omega)
 have a1:(i:Int)+1<=s.size:=by omega
 have a2:(i:Int)<=(i:Int)+1:=by omega
 have a3:(0:Int)<=(i:Int)+1:=by omega
 have a4:((i:Int)+1).toNat=i+1:=by omega
 have b1:(i:Int)<=s.size:=by omega
 have b2:(i:Int)<=(i:Int)+2:=by omega
 have b3:(0:Int)<=(i:Int)+2:=by omega
 have b4:((i:Int)+2).toNat=i+2:=by omega
 by_cases hle:i+2<=s.size
 ·have hle':(i:Int)+2<=s.size:=by omega
  have hp':=hp hle
  generalize hy:s.extract i (i+2)=y at hp'
  simp only[qc3,bs,List.mem_cons,List.not_mem_nil,or_false,not_or] at hp'
  obtain⟨n1,n2,n3,n4,n5,n6⟩:=hp'
  refine Z_call (pf:=F250) rfl rfl ?_
  by_cases hk:c.toNat∈qhI
  ·have hj:(0:Int)<=j:=by simpa [hk] using hm
   rw[if_pos hk]
   cases hσ <;> simp[F250,V.len,h1,hne,hne',zl,zd,zx,hl,hc,w1,w2,hle',qbX,bound,a1,a2,a3,a4,b1,b2,b3,b4,hx,hy,n1,n2,n3,n4,n5,n6,hj,qa1,List.range_succ]
  ·have hj : ¬ (0:Int)<=j:=by simpa [hk] using hm
   rw[if_neg hk]
   cases hσ <;> simp[F250,V.len,h1,hne,hne',zl,zd,zx,hl,hc,w1,w2,hle',qbX,bound,a1,a2,a3,a4,b1,b2,b3,b4,hx,hy,n1,n2,n3,n4,n5,n6,hj,qa1,List.range_succ]
 ·have hle' : ¬ (i:Int)+2<=s.size:=by omega
  refine Z_call (pf:=F250) rfl rfl ?_
  by_cases hk:c.toNat∈qhI
  ·have hj:(0:Int)<=j:=by simpa [hk] using hm
   rw[if_pos hk]
   cases hσ <;> simp[F250,V.len,h1,hne,hne',zl,zd,zx,hl,hc,w1,w2,hle',qbX,bound,a1,a2,a3,a4,hx,hj,qa1,List.range_succ]
  ·have hj : ¬ (0:Int)<=j:=by simpa [hk] using hm
   rw[if_neg hk]
   cases hσ <;> simp[F250,V.len,h1,hne,hne',zl,zd,zx,hl,hc,w1,w2,hle',qbX,bound,hj,qa1,List.range_succ]
end Go.Pm
end SKe
section SKf
namespace Go.Pm
open F
set_option maxHeartbeats 2000000
theorem qoF {c:UInt8} {r:List UInt8}:bs (c::r)≠⟨#[]⟩:=fun h=>by
 have:=congrArg ByteArray.size h
 rw[qaG,List.length_cons] at this
 exact absurd this (by show ¬ r.length+1=0; omega)
theorem qn1 (s:ByteArray) (hl:s.size<2 ^ 40) {σ : S} (hσ : LxS s σ) {i:Nat} (hi:i<=s.size):Z tP (.call 250 [.ptr 0 0,.int i] σ)=some (.ret (ptk (tokAt 12 2 6 s i)) σ):=by
 by_cases hend:i=s.size
 ·subst hend
  have hd:(byl s).drop s.size=[]:=List.drop_eq_nil_of_le (by rw[qaI]; exact Nat.le_refl _)
  have e:tokAt 12 2 6 s s.size=⟨s.size,⟨#[]⟩,0⟩:=by rw[qcT,hd]; rfl
  rw[e]
  exact qmX s hσ
 have hi':i<s.size:=by omega
 obtain⟨c,h1,h2⟩:=qk6 hi'
 have hd:=qfk h2
 rw[qcT,hd]
 by_cases hlet:qaL c=true
 ·have hw:qau c=true:=by simp[qau,hlet]
  have ht:=qj3 ((byl s).drop (i+1)) hw
  have htok:tokL 12 2 6 (c::(byl s).drop (i+1))=(c::((byl s).drop (i+1)).take (qbk qau ((byl s).drop (i+1))),if 8<qbk qau (c::(byl s).drop (i+1))/\bs (c::((byl s).drop (i+1)).take (qbk qau ((byl s).drop (i+1))))∉fieldNames/\bs (c::((byl s).drop (i+1)).take (qbk qau ((byl s).drop (i+1))))∉wordNames then 2 else 0):=by
   simp only[tokL,hlet,if_true,ht]
  have z:=qov s hl hσ hi
  rw[qb3,hd,ht] at z
  have hsz:(bs (c::((byl s).drop (i+1)).take (qbk qau ((byl s).drop (i+1))))).size=qbk qau (c::(byl s).drop (i+1)):=by
   rw[qaG,<- ht,List.length_take,Nat.min_eq_left (qeD _ _)]
  rw[htok]
  have s1:=qc7 qaL c (((byl s).drop (i+1)).take (qbk qau ((byl s).drop (i+1))))
  have s2:=qc7 qam c (((byl s).drop (i+1)).take (qbk qau ((byl s).drop (i+1))))
  have hne:=qoF (c:=c) (r:=((byl s).drop (i+1)).take (qbk qau ((byl s).drop (i+1))))
  rw[hlet] at s1
  rw[qlF hlet] at s2
  rw[<- hsz]
  generalize bs (c::((byl s).drop (i+1)).take (qbk qau ((byl s).drop (i+1))))=w at *
  have e:ptk ⟨i,w,if 8<w.size/\w∉fieldNames/\w∉wordNames then 2 else 0⟩=ptD (pkW w) w i 0 (pcW w):=by
   have hb:((if 8<w.size/\w∉fieldNames/\w∉wordNames then 2 else 0:Nat):Int)=pcW w:=by
    unfold pcW
    by_cases a:w∈fieldNames<;>by_cases b:w∈wordNames<;>by_cases d:8<w.size<;>simp[a,b,d]
   have hk:kindT ⟨i,w,if 8<w.size/\w∉fieldNames/\w∉wordNames then 2 else 0⟩=pkW w:=by
    unfold pkW kindT
    by_cases a:w∈fieldNames<;>by_cases b:w∈wordNames<;>by_cases d:8<w.size<;>simp[a,b,d,hne,s1]
   have hx:qej ⟨i,w,if 8<w.size/\w∉fieldNames/\w∉wordNames then 2 else 0⟩=w:=by
    unfold qej
    by_cases a:8<w.size/\w∉fieldNames/\w∉wordNames<;>simp[a]
   unfold ptk
   rw[hk,hx,hb]
   simp[valT,s2]
  rw[e]
  exact qmY s hσ hi' h1 hlet (v := .lit (.bool true)) rfl z
 have hlet':qaL c=false:=by simpa using hlet
 by_cases hdig:qam c=true
 ·have ht:=qj3 ((byl s).drop (i+1)) hdig
  have htok:tokL 12 2 6 (c::(byl s).drop (i+1))=(c::((byl s).drop (i+1)).take (qbk qam ((byl s).drop (i+1))),if 2147483647<digV (c::((byl s).drop (i+1)).take (qbk qam ((byl s).drop (i+1)))) then 6 else 0):=by
   simp only[tokL,hlet',hdig,if_true,Bool.false_eq_true,if_false,ht]
  have z:=qqu s hl hσ hi
  rw[qb3,hd,ht] at z
  rw[htok]
  have s1:=qc7 qaL c (((byl s).drop (i+1)).take (qbk qam ((byl s).drop (i+1))))
  have s2:=qc7 qam c (((byl s).drop (i+1)).take (qbk qam ((byl s).drop (i+1))))
  have hne:=qoF (c:=c) (r:=((byl s).drop (i+1)).take (qbk qam ((byl s).drop (i+1))))
  rw[hlet'] at s1
  rw[hdig] at s2
  have hbl:=qaU (c::((byl s).drop (i+1)).take (qbk qam ((byl s).drop (i+1))))
  generalize c::((byl s).drop (i+1)).take (qbk qam ((byl s).drop (i+1)))=l at *
  have e:ptk ⟨i,bs l,if 2147483647<digV l then 6 else 0⟩=ptD (if 2147483647<digV l then 6 else 4) (bs l) i (min (digV l) 2147483648:Nat) (if 2147483647<digV l then 6 else 0):=by
   unfold ptk kindT qej valT
   by_cases a:2147483647<digV l<;>simp[a,hne,s1,s2,hbl]
  rw[e]
  exact qmZ s hσ hi' h1 hlet' hdig z
 have hdig':qam c=false:=by simpa using hdig
 by_cases hp:bs ((c::(byl s).drop (i+1)).take 2)∈qc3
 ·have htok:tokL 12 2 6 (c::(byl s).drop (i+1))=((c::(byl s).drop (i+1)).take 2,0):=by
   simp only[tokL,hlet',hdig',if_pos hp,Bool.false_eq_true,if_false]
  have hsz:=qef hp
  rw[qaG,List.length_take,List.length_cons,List.length_drop,qaI] at hsz
  have z:=qlG s hl hσ (i:=i) (by omega) h1 hlet' hdig' (p:=bs ((c::(byl s).drop (i+1)).take 2)) (by rw[qb3,hd]) hp
  rw[htok,z]
  have e:ptk ⟨i,bs ((c::(byl s).drop (i+1)).take 2),0⟩=ptD 5 (bs ((c::(byl s).drop (i+1)).take 2)) i 0 0:=by
   generalize bs ((c::(byl s).drop (i+1)).take 2)=w at hp
   simp only[qc3,List.mem_cons,List.not_mem_nil,or_false] at hp
   rcases hp with rfl | rfl | rfl | rfl | rfl | rfl<;>rfl
  rw[e]
 ·have z:=qm0 s hl hσ hi' h1 hlet' hdig' (fun h=>by rw[qb3,hd]; exact hp) (x:=bs [c]) (by rw[qb3,hd]; rfl)
  rw[z]
  have s1:=qc7 qaL c []
  have s2:=qc7 qam c []
  by_cases hs:c.toNat∈qhI
  ·have htok:tokL 12 2 6 (c::(byl s).drop (i+1))=([c],0):=by simp only[tokL,hlet',hdig',if_neg hp,if_pos hs,Bool.false_eq_true,if_false]
   rw[htok,if_pos hs]
   have e:ptk ⟨i,bs [c],0⟩=ptD 5 (bs [c]) i 0 0:=by
    unfold ptk kindT qej valT
    simp[s1,s2,hlet',hdig',qoF]
   rw[e]
  ·have htok:tokL 12 2 6 (c::(byl s).drop (i+1))=([c],12):=by simp only[tokL,hlet',hdig',if_neg hp,if_neg hs,Bool.false_eq_true,if_false]
   rw[htok,if_neg hs]
   have e:ptk ⟨i,bs [c],12⟩=ptD 6 ⟨#[]⟩ i 0 12:=by
    unfold ptk kindT qej valT
    simp[s2,hdig']
   rw[e]
end Go.Pm
end SKf
section SDev
namespace Go.Pm
@[simp] def qpA:Nat->PC->PC
 | n+1,.seq a b => .seq a (qpA n b)
 | 0,_ => .skip
 | _,p=>p
end Go.Pm
end SDev
section SKg
namespace Go.Pm
open F
set_option maxHeartbeats 4000000
attribute [local simp] qa4 qbv
theorem qiD (s:ByteArray):Z tP (.call 241 [.ptr 0 0] [pO s 1 (.dat (.lit (.slice none 0 0))) 0 0 12,.map kwM])=some (.ret (.fn 249 [] [.ptr 2 0]) [pO s 1 (.dat (.lit (.slice none 0 0))) 0 0 12,.map kwM,.cells [.ptr 0 0]]):=by
 refine Z_call (pf:=F241) rfl rfl ?_
 simp[F241,List.range_succ]
abbrev lp8:Ob := .loop ⟨[(2,.ptr 2 0),(3,.ptr 3 0),(4,.ptr 4 0),(5,.ptr 5 0),(19,.fn 249 [] [.ptr 1 0])],[20],F228a0,F228b0,0,none⟩
abbrev TT0 (s:ByteArray):S:=[lp8,.cells [.ptr 6 0],qpL,.cells [.int 0],.cells [.int 0],.cells [.ptr 6 0],pO s 7 (.dat (.lit (.slice none 0 0))) 0 0 12,.map kwM]
abbrev TT1 (s:ByteArray) (cs:List D) (n:Nat):S:=[lp8,.cells [.ptr 6 0],qpL,.cells [.int 0],.cells [.int 0],.cells [.ptr 6 0],pO s 7 (.gsl cs n 5 8) 0 0 12,.map kwM,.tip cs.length]
abbrev lpR:Ob := .loop ⟨[(2,.ptr 1 0),(3,.ptr 2 0),(4,.ptr 3 0),(5,.ptr 4 0),(19,.fn 249 [] [.ptr 5 0])],[20],F228a0,F228b0,0,none⟩
abbrev Q0 (s:ByteArray):S:=[lpR,qpL,.cells [.int 0],.cells [.int 0],.cells [.ptr 6 0],.cells [.ptr 6 0],pO s 7 (.dat (.lit (.slice none 0 0))) 0 0 12,.map kwM]
abbrev Q1 (s:ByteArray) (cs:List D) (n:Nat):S:=[lpR,qpL,.cells [.int 0],.cells [.int 0],.cells [.ptr 6 0],.cells [.ptr 6 0],pO s 7 (.gsl cs n 5 8) 0 0 12,.map kwM,.tip cs.length]
def qfB (k:Int) (t:ByteArray) (a v c:Int):List D:=[.lit (.int .i64 k),.lit (.string t),.lit (.int .i64 a),.lit (.int .i64 v),.lit (.int .i64 c)]
section
variable {s:ByteArray} {k a v c:Int} {t:ByteArray}
theorem qsX:Z tP (.round [.yld 0,ptD k t a v c] (Q0 s))=some (.ret (.bool true) (Q1 s (qfB k t a v c) 1)):=by
 have r1:qbo 1 48=true:=by simp only[qbo,decide_eq_true_eq]; omega
 rw[qgQ]
 simp[qbU,qf6,qf7,qgZ,qg0,qdx,Lp.ended,Ex.isNormal,V.len,qdH,qoC,r1,qfB,dkey,qcy,qa2,List.range_succ]
theorem qsY {cs:List D} {n:Nat} (hc:cs.length=n*5) (h0:0<n) (hn:n<2 ^ 30):Z tP (.round [.yld 0,ptD k t a v c] (Q1 s cs n))=some (.ret (.bool true) (Q1 s (cs++qfB k t a v c) (n+1))):=by
 have r1:qbo (n+1) 48=true:=by simp only[qbo,decide_eq_true_eq]; omega
 have hne : ¬ n=0:=by omega
 rw[qgQ]
 simp[qbU,qf6,qf7,qgZ,qg0,qdx,Lp.ended,Ex.isNormal,V.len,qdH,qoC,r1,hc,hne,qfB,dkey,qcy,qa2,List.range_succ]
end
abbrev tkO (k:Int) (t:ByteArray) (a v c:Int):Ob := .cells [.int k,.str t,.int a,.int v,.int c]
section
variable {s:ByteArray} {i j:Nat} {k a v c:Int} {t:ByteArray}
theorem qm5
  (zs:Z tP (.call 251 [.ptr 0 0,.int i] [pO s 1 (.dat (.lit (.slice none 0 0))) 0 0 12,.map kwM])=some (.ret (.int j) [pO s 1 (.dat (.lit (.slice none 0 0))) 0 0 12,.map kwM]))
  (zc:Z tP (.call 250 [.ptr 0 0,.int j] [pO s 1 (.dat (.lit (.slice none 0 0))) 0 0 12,.map kwM])=some (.ret (ptD k t a v c) [pO s 1 (.dat (.lit (.slice none 0 0))) 0 0 12,.map kwM]))
  (ha:IntKind.i64.wrap (a+t.size)=a+t.size) (h0:decide (k=0)=false) (h6:decide (k=6)=false) :
  Z tP (.loop 8 F249l0 [(0,.yld 0),(1,.ptr 1 0),(3,.int i)] (TT0 s))=Z tP (.loop 8 F249l0 [(0,.yld 0),(1,.ptr 1 0),(3,.int (a+t.size))] (TT1 s (qfB k t a v c) 1)):=by
 have zr:=qsX (s:=s) (k:=k) (a:=a) (v:=v) (c:=c) (t:=t)
 simp only[pO,ptD,qfB] at zs zc zr
 conv=>lhs; rw[qaf]
 simp[qai,qd5,zs,zc,zr,V.len,ha,h0,h6,qfB,qcy,qa2,List.range_succ]
 exact qdu (by simp[List.range_succ])
theorem qm6
  (zs:Z tP (.call 251 [.ptr 0 0,.int i] [pO s 1 (.dat (.lit (.slice none 0 0))) 0 0 12,.map kwM])=some (.ret (.int j) [pO s 1 (.dat (.lit (.slice none 0 0))) 0 0 12,.map kwM]))
  (zc:Z tP (.call 250 [.ptr 0 0,.int j] [pO s 1 (.dat (.lit (.slice none 0 0))) 0 0 12,.map kwM])=some (.ret (ptD k t a v c) [pO s 1 (.dat (.lit (.slice none 0 0))) 0 0 12,.map kwM]))
  (h:k=0\/k=6) :
  Z tP (.loop 8 F249l0 [(0,.yld 0),(1,.ptr 1 0),(3,.int i)] (TT0 s))=some (.out .ret [(0,.yld 0),(1,.ptr 1 0),(4,.ptr 8 0),(23,.bool true)] [lp8,.cells [.ptr 6 0],qpL,.cells [.int 0],.cells [.int 0],.cells [.ptr 6 0],pO s 7 (.gsl (qfB k t a v c) 1 5 9) 0 0 12,.map kwM,tkO k t a v c,.tip 5]):=by
 have zr:=qsX (s:=s) (k:=k) (a:=a) (v:=v) (c:=c) (t:=t)
 simp only[pO,ptD,qfB] at zs zc zr
 rw[qaf]
 rcases h with rfl | rfl<;>simp[qai,qd5,zs,zc,zr,V.len,qfB,qcy,qa2,List.range_succ]
theorem qm7 {cs:List D} {n:Nat} (hc:cs.length=n*5) (hn0:0<n) (hn:n<2 ^ 30)
  (zs:Z tP (.call 251 [.ptr 0 0,.int i] [pO s 1 (.gsl cs n 5 2) 0 0 12,.map kwM,.tip cs.length])=some (.ret (.int j) [pO s 1 (.gsl cs n 5 2) 0 0 12,.map kwM,.tip cs.length]))
  (zc:Z tP (.call 250 [.ptr 0 0,.int j] [pO s 1 (.gsl cs n 5 2) 0 0 12,.map kwM,.tip cs.length])=some (.ret (ptD k t a v c) [pO s 1 (.gsl cs n 5 2) 0 0 12,.map kwM,.tip cs.length]))
  (ha:IntKind.i64.wrap (a+t.size)=a+t.size) (h0:decide (k=0)=false) (h6:decide (k=6)=false) :
  Z tP (.loop 8 F249l0 [(0,.yld 0),(1,.ptr 1 0),(3,.int i)] (TT1 s cs n))=Z tP (.loop 8 F249l0 [(0,.yld 0),(1,.ptr 1 0),(3,.int (a+t.size))] (TT1 s (cs++qfB k t a v c) (n+1))):=by
 have zr:=qsY (s:=s) (k:=k) (a:=a) (v:=v) (c:=c) (t:=t) hc hn0 hn
 simp only[pO,ptD,qfB] at zs zc zr
 conv=>lhs; rw[qaf]
 simp[qai,qd5,zs,zc,zr,V.len,ha,h0,h6,qfB,qcy,qa2,List.range_succ]
 exact qdu (by simp[List.range_succ])
theorem qm8 {cs:List D} {n:Nat} (hc:cs.length=n*5) (hn0:0<n) (hn:n<2 ^ 30)
  (zs:Z tP (.call 251 [.ptr 0 0,.int i] [pO s 1 (.gsl cs n 5 2) 0 0 12,.map kwM,.tip cs.length])=some (.ret (.int j) [pO s 1 (.gsl cs n 5 2) 0 0 12,.map kwM,.tip cs.length]))
  (zc:Z tP (.call 250 [.ptr 0 0,.int j] [pO s 1 (.gsl cs n 5 2) 0 0 12,.map kwM,.tip cs.length])=some (.ret (ptD k t a v c) [pO s 1 (.gsl cs n 5 2) 0 0 12,.map kwM,.tip cs.length]))
  (h:k=0\/k=6) :
  Z tP (.loop 8 F249l0 [(0,.yld 0),(1,.ptr 1 0),(3,.int i)] (TT1 s cs n))=some (.out .ret [(0,.yld 0),(1,.ptr 1 0),(4,.ptr 9 0),(23,.bool true)] (TT1 s (cs++qfB k t a v c) (n+1)++[tkO k t a v c])):=by
 have zr:=qsY (s:=s) (k:=k) (a:=a) (v:=v) (c:=c) (t:=t) hc hn0 hn
 simp only[pO,ptD,qfB] at zs zc zr
 rw[qaf]
 rcases h with rfl | rfl<;>simp[qai,qd5,zs,zc,zr,V.len,qfB,qcy,qa2,List.range_succ]
end
end Go.Pm
end SKg
