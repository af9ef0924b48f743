/- Chapter 13's reference printer: expressions. Chapter 13's reference printer: statements, each kind. -/
import Derived.Test.YtjdbkncfebebnaaDoorPmG5
import Derived.Test.YtjdbkncfebebnaaDoorPmFx
import Derived.Test.YtjdbkncfebebnaaDoorPmEt
set_option linter.unusedSimpArgs false
set_option linter.unusedVariables false
section SSb
namespace Go.Pm
open F
set_option maxHeartbeats 8000000
theorem qci (e:E):Z tS (.call 261 [e.node] [])=some (.ret (.int e.lev) []):=by
 refine qaa (pf:=F261) rfl rfl ?_
 cases e with
 | un f neg e=>cases neg<;>simp[F261,E.lev,qe5,ustr,qbO]
 | bin f o a b=>cases o<;>simp[F261,E.lev,Bop.prec,Bop.str,qbO]
 | _=>simp[F261,E.lev]
inductive Parts:List ByteArray->List ByteArray->Prop
 | nil:Parts [] []
 | tok {t:ByteArray} {l ts:List ByteArray} (h:Parts l ts):Parts (t::l) (t::ts)
 | sub {a l ts:List ByteArray} (ha : ∀ t∈a,t.size≠0) (h:Parts l ts):Parts (bs (qaj false a)::l) (a++ts)
theorem qn9 {l ts:List ByteArray} (h:Parts l ts) : ∀ w,pw w l=pw w ts:=by
 induction h with
 | nil=>intro w; rfl
 | tok h ih=>intro w; rw[qcT,qcT,ih]
 | sub ha h ih=>intro w; rw[qkv w ha,qhR,qhR,ih]
theorem qbW {l ts:List ByteArray} {R:ByteArray} (hp:Parts l ts) (hR:R=bs (qaj false ts)) (hn:l.length<2 ^ 30) (hsz:R.size<2 ^ 40):Z tS (.call 247 [.dat (.sl (qaZ l) l.length true)] [])=some (.ret (.str R) []):=
 qt7 true (by rw[hR,qn9 hp,qnb]) hn hsz
theorem qfp (ts:List ByteArray) (p:Bool):(qaj false ts).length<=(qaj p ts).length:=by
 cases ts with
 | nil=>simp[qaj]
 | cons t ts=>
  simp only[qaj,List.length_append]
  have:(gap false t).length=0:=rfl
  cases hb:byl t with
  | nil=>
   have e : ∀ q,qei q t=q:=fun q=>by unfold qei; rw[hb]; rfl
   rw[e,e]
   have:=qfp ts p
   simp[gap]
   omega
  | cons c r=>
   have e:qei p t=qei false t:=by
    unfold qei
    cases hl:(byl t).getLast? with
    | none=>rw[List.getLast?_eq_none_iff] at hl; rw[hl] at hb; cases hb
    | some c=>rfl
   rw[e]
   omega
theorem qad (a b c:List ByteArray) (p:Bool):(qaj false b).length<=(qaj p (a++(b++c))).length:=by
 rw[qgo,qgo,List.length_append,List.length_append]
 have:=qfp b (qqg p a)
 omega
theorem qdd (ts:List ByteArray):qaj false (bs [40]::(ts++[bs [41]]))=40::(qaj false ts++[41]):=by
 have e1:qei false (bs [40])=false:=by decide
 have g1:gap false (bs [40])=[]:=rfl
 have g2 : ∀ q,gap q (bs [41])=[]:=fun q=>by cases q<;>decide
 rw[qaj,e1,g1,qgo,qaj,g2]
 simp[qaj,qbg]
def qbr (e:E) (full:Bool) (p:Nat) (i:Int):Prop:=(qaj false (e.tx full p)).length<2 ^ 40->Z tS (.call 246 [e.node,.int i,.bool full] [])=some (.ret (.str (bs (qaj false (e.tx full p)))) [])
theorem qaO (full:Bool) {e:E} (h:e.good) (p:Nat) : ∀ t∈e.tx full p,t.size≠0:=fun t ht=>qiQ (qlh (qgV full e h p).ok t ht)
theorem qrX {full:Bool} {n:Int} (h0:0<=n) (h1:n<=2147483647) {p:Nat} {i:Int} (hi:i=p) (hp:p<=8):qbr (E.int n) full p i:=by
 intro hsz
 have zl:Z tS (.call 261 [.dat (.agg [.lit (.int .i64 8),.lit (.int .i64 n),.lit (.string ⟨#[]⟩),.lit (.slice none 0 0)])] [])=some (.ret (.int 8) []):=qci (.int n)
 have hc : ¬ (8:Int)<i:=by omega
 have hq : ¬ 8<p:=by omega
 have f0:Z tS (.call 20 [.int n] [])=some (.ret (.str (bs (qjX n.toNat))) []):=by
  have:=qmJ (n:=n.toNat) (by omega)
  rw[show ((n.toNat:Nat):Int)=n by omega] at this
  exact this
 have htx:(E.int n).tx full p=[bs (qjX n.toNat)]:=by simp[E.tx,qcn,qe5,ustr,bs,qb6,qdl,Bop.left]
 have hfin:bs (qaj false ((E.int n).tx full p))=(bs (qjX n.toNat)):=by
  rw[htx,qaj,qaj,List.append_nil]
  exact qdO (bs (qjX n.toNat))
 rw[hfin]
 clear hfin htx hsz
 refine qaa (pf:=F246) rfl rfl ?_
 cases full<;>simp[F246,qah,zl,hc,f0]
theorem qoa {full:Bool}  {p:Nat} {i:Int} (hi:i=p) (hp:p<=8):qbr (E.bool 0) full p i:=by
 intro hsz
 have zl:Z tS (.call 261 [.dat (.agg [.lit (.int .i64 9),.lit (.int .i64 0),.lit (.string ⟨#[]⟩),.lit (.slice none 0 0)])] [])=some (.ret (.int 8) []):=qci (.bool 0)
 have hc : ¬ (8:Int)<i:=by omega
 have hq : ¬ 8<p:=by omega
 have htx:(E.bool 0).tx full p=[⟨#[102,97,108,115,101]⟩]:=by simp[E.tx,qcn,qe5,ustr,bs,qb6,qdl,Bop.left]
 have hfin:bs (qaj false ((E.bool 0).tx full p))=(⟨#[102,97,108,115,101]⟩):=by
  rw[htx,qaj,qaj,List.append_nil]
  exact qdO (⟨#[102,97,108,115,101]⟩)
 rw[hfin]
 clear hfin htx hsz
 refine qaa (pf:=F246) rfl rfl ?_
 cases full<;>simp[F246,qah,zl,hc]
theorem qob {full:Bool}  {p:Nat} {i:Int} (hi:i=p) (hp:p<=8):qbr (E.bool 1) full p i:=by
 intro hsz
 have zl:Z tS (.call 261 [.dat (.agg [.lit (.int .i64 9),.lit (.int .i64 1),.lit (.string ⟨#[]⟩),.lit (.slice none 0 0)])] [])=some (.ret (.int 8) []):=qci (.bool 1)
 have hc : ¬ (8:Int)<i:=by omega
 have hq : ¬ 8<p:=by omega
 have htx:(E.bool 1).tx full p=[⟨#[116,114,117,101]⟩]:=by simp[E.tx,qcn,qe5,ustr,bs,qb6,qdl,Bop.left]
 have hfin:bs (qaj false ((E.bool 1).tx full p))=(⟨#[116,114,117,101]⟩):=by
  rw[htx,qaj,qaj,List.append_nil]
  exact qdO (⟨#[116,114,117,101]⟩)
 rw[hfin]
 clear hfin htx hsz
 refine qaa (pf:=F246) rfl rfl ?_
 cases full<;>simp[F246,qah,zl,hc]
theorem qrY {full:Bool} {s:ByteArray} {p:Nat} {i:Int} (hi:i=p) (hp:p<=8):qbr (E.var s) full p i:=by
 intro hsz
 have zl:Z tS (.call 261 [.dat (.agg [.lit (.int .i64 10),.lit (.int .i64 0),.lit (.string s),.lit (.slice none 0 0)])] [])=some (.ret (.int 8) []):=qci (.var s)
 have hc : ¬ (8:Int)<i:=by omega
 have hq : ¬ 8<p:=by omega
 have htx:(E.var s).tx full p=[s]:=by simp[E.tx,qcn,qe5,ustr,bs,qb6,qdl,Bop.left]
 have hfin:bs (qaj false ((E.var s).tx full p))=(s):=by
  rw[htx,qaj,qaj,List.append_nil]
  exact qdO (s)
 rw[hfin]
 clear hfin htx hsz
 refine qaa (pf:=F246) rfl rfl ?_
 cases full<;>simp[F246,qah,zl,hc]
theorem qp0 {full:Bool} {s:ByteArray} {p:Nat} {i:Int} (hi:i=p) (hp:p<=8):qbr (E.name s) full p i:=by
 intro hsz
 have zl:Z tS (.call 261 [.dat (.agg [.lit (.int .i64 12),.lit (.int .i64 0),.lit (.string s),.lit (.slice none 0 0)])] [])=some (.ret (.int 8) []):=qci (.name s)
 have hc : ¬ (8:Int)<i:=by omega
 have hq : ¬ 8<p:=by omega
 have htx:(E.name s).tx full p=[s]:=by simp[E.tx,qcn,qe5,ustr,bs,qb6,qdl,Bop.left]
 have hfin:bs (qaj false ((E.name s).tx full p))=(s):=by
  rw[htx,qaj,qaj,List.append_nil]
  exact qdO (s)
 rw[hfin]
 clear hfin htx hsz
 refine qaa (pf:=F246) rfl rfl ?_
 cases full<;>simp[F246,qah,zl,hc]
theorem qoc {full:Bool} {f:Bool} {s:ByteArray} {e:E} (ge:e.good) (he:qbr e full 1 1) {p:Nat} {i:Int} (hi:i=p) (hp:p<=8):qbr (E.field f s e) full p i:=by
 intro hsz
 have zl:Z tS (.call 261 [.dat (.agg [.lit (.int .i64 11),.lit (.int .i64 0),.lit (.string s),.sl [.lit (.int .i64 e.kind),.lit (.int .i64 e.num),.lit (.string e.str),e.kids] 1 f])] [])=some (.ret (.int 8) []):=qci (.field f s e)
 have hc : ¬ (8:Int)<i:=by omega
 have hq : ¬ 8<p:=by omega
 obtain⟨inn,hinn⟩ : ∃ v,v=[s]++([⟨#[91]⟩]++(e.tx full 1++([⟨#[93]⟩]++[]))):=⟨_,rfl⟩
 have htx:(E.field f s e).tx full p=inn:=by
  rw[hinn]
  simp[E.tx,qcn,qe5,ustr,bs,qb6,qdl,Bop.left,hq]
 rw[htx] at hsz ⊢
 have hin:=hsz
 have z2:=he (Nat.lt_of_le_of_lt (by
  have:=qad ([s]++([⟨#[91]⟩])) (e.tx full 1) ([⟨#[93]⟩]++[]) false
  try simp only[List.append_assoc,List.nil_append] at this
  rw[hinn]
  exact this) hin)
 have hP:Parts [s,⟨#[91]⟩,bs (qaj false (e.tx full 1)),⟨#[93]⟩] inn:=by rw[hinn]; exact (.tok (.tok (.sub (qaO full ge 1) (.tok .nil))))
 obtain⟨R,hR⟩ : ∃ v,v=bs (qaj false inn):=⟨_,rfl⟩
 have hRs:R.size<2 ^ 40:=by rw[hR,qam]; exact hin
 have za:Z tS (.call 247 [.dat (.sl [.lit (.string s),.lit (.string ⟨#[91]⟩),.lit (.string (bs (qaj false (e.tx full 1)))),.lit (.string ⟨#[93]⟩)] 4 true)] [])=some (.ret (.str R) []):=qbW hP hR (by simp) hRs
 generalize bs (qaj false (e.tx full 1))=r2 at *
 rw[<- hR]
 clear hP hR hinn htx hsz hin
 refine qaa (pf:=F246) rfl rfl ?_
 cases full<;>simp[F246,qah,zl,hc,z2,za]
theorem qrZ {f:Bool} {e:E} (ge:e.good) (he:qbr e false 7 7) {p:Nat} {i:Int} (hi:i=p) (hp:p<=7):qbr (E.un f true e) false p i:=by
 intro hsz
 have zl:Z tS (.call 261 [.dat (.agg [.lit (.int .i64 13),.lit (.int .i64 0),.lit (.string ⟨#[45]⟩),.sl [.lit (.int .i64 e.kind),.lit (.int .i64 e.num),.lit (.string e.str),e.kids] 1 f])] [])=some (.ret (.int 7) []):=qci (.un f true e)
 have hc : ¬ (7:Int)<i:=by omega
 have hq : ¬ 7<p:=by omega
 obtain⟨inn,hinn⟩ : ∃ v,v=[⟨#[45]⟩]++(e.tx false 7++[]):=⟨_,rfl⟩
 have htx:(E.un f true e).tx false p=inn:=by
  rw[hinn]
  simp[E.tx,qcn,qe5,ustr,bs,qb6,qdl,Bop.left,hq]
 rw[htx] at hsz ⊢
 have hin:=hsz
 have z1:=he (Nat.lt_of_le_of_lt (by
  have:=qad ([⟨#[45]⟩]) (e.tx false 7) ([]) false
  try simp only[List.append_assoc,List.nil_append] at this
  rw[hinn]
  exact this) hin)
 have hP:Parts [⟨#[45]⟩,bs (qaj false (e.tx false 7))] inn:=by rw[hinn]; exact (.tok (.sub (qaO false ge 7) .nil))
 obtain⟨R,hR⟩ : ∃ v,v=bs (qaj false inn):=⟨_,rfl⟩
 have hRs:R.size<2 ^ 40:=by rw[hR,qam]; exact hin
 have za:Z tS (.call 247 [.dat (.sl [.lit (.string ⟨#[45]⟩),.lit (.string (bs (qaj false (e.tx false 7))))] 2 true)] [])=some (.ret (.str R) []):=qbW hP hR (by simp) hRs
 generalize bs (qaj false (e.tx false 7))=r1 at *
 rw[<- hR]
 clear hP hR hinn htx hsz hin
 refine qaa (pf:=F246) rfl rfl ?_
 simp[F246,qah,zl,hc,z1,za,ustr]
theorem qp1 {f:Bool} {e:E} (ge:e.good) (he:qbr e false 7 7) {p:Nat} {i:Int} (hi:i=p) (hp:7<p):qbr (E.un f true e) false p i:=by
 intro hsz
 have zl:Z tS (.call 261 [.dat (.agg [.lit (.int .i64 13),.lit (.int .i64 0),.lit (.string ⟨#[45]⟩),.sl [.lit (.int .i64 e.kind),.lit (.int .i64 e.num),.lit (.string e.str),e.kids] 1 f])] [])=some (.ret (.int 7) []):=qci (.un f true e)
 have hc:(7:Int)<i:=by omega
 have hq:7<p:=hp
 obtain⟨inn,hinn⟩ : ∃ v,v=[⟨#[45]⟩]++(e.tx false 7++[]):=⟨_,rfl⟩
 have htx:(E.un f true e).tx false p=bs [40]::(inn++[bs [41]]):=by
  rw[hinn]
  simp[E.tx,qcn,qe5,ustr,bs,qb6,qdl,Bop.left,hq]
 rw[htx] at hsz ⊢
 rw[qdd] at hsz ⊢
 have hin:(qaj false inn).length<2 ^ 40:=by simp at hsz; omega
 have hin2:(qaj false inn).length+2<2 ^ 40:=by simp at hsz; omega
 have z1:=he (Nat.lt_of_le_of_lt (by
  have:=qad ([⟨#[45]⟩]) (e.tx false 7) ([]) false
  try simp only[List.append_assoc,List.nil_append] at this
  rw[hinn]
  exact this) hin)
 have hP:Parts [⟨#[45]⟩,bs (qaj false (e.tx false 7))] inn:=by rw[hinn]; exact (.tok (.sub (qaO false ge 7) .nil))
 obtain⟨R,hR⟩ : ∃ v,v=bs (qaj false inn):=⟨_,rfl⟩
 have hRs:R.size<2 ^ 40:=by rw[hR,qam]; exact hin
 have za:Z tS (.call 247 [.dat (.sl [.lit (.string ⟨#[45]⟩),.lit (.string (bs (qaj false (e.tx false 7))))] 2 true)] [])=some (.ret (.str R) []):=qbW hP hR (by simp) hRs
 generalize bs (qaj false (e.tx false 7))=r1 at *
 have hfin:bs (40::(qaj false inn++[41]))=⟨#[40]⟩++R++⟨#[41]⟩:=by
  rw[qb0,qb0 ⟨#[40]⟩,qbg,hR,qbg]
  simp[byl]
 rw[hfin]
 have hRl:R.size+2<2 ^ 40:=by rw[hR,qam]; exact hin2
 have y1:((⟨#[40]⟩:ByteArray).size:Int)=1:=rfl
 have y2:((⟨#[41]⟩:ByteArray).size:Int)=1:=rfl
 have y3:(⟨#[40]⟩:ByteArray).size=1:=rfl
 have y4:(⟨#[41]⟩:ByteArray).size=1:=rfl
 have y5 : ¬ (9223372036854775807:Int)<1+(R.size:Int):=by omega
 have y6 : ¬ (9223372036854775807:Int)<1+(R.size:Int)+1:=by omega
 have y7:(⟨#[40]⟩++R:ByteArray).size=1+R.size:=by rw[ByteArray.size_append]; rfl
 clear hP hR hinn htx hsz hin hin2 hfin
 refine qaa (pf:=F246) rfl rfl ?_
 simp[F246,qah,zl,hc,y1,y2,y3,y4,y5,y6,y7,z1,za,ustr]
theorem qr0 {f:Bool} {e:E} (ge:e.good) (he:qbr e false 3 3) {p:Nat} {i:Int} (hi:i=p) (hp:p<=3):qbr (E.un f false e) false p i:=by
 intro hsz
 have zl:Z tS (.call 261 [.dat (.agg [.lit (.int .i64 13),.lit (.int .i64 0),.lit (.string ⟨#[33]⟩),.sl [.lit (.int .i64 e.kind),.lit (.int .i64 e.num),.lit (.string e.str),e.kids] 1 f])] [])=some (.ret (.int 3) []):=qci (.un f false e)
 have hc : ¬ (3:Int)<i:=by omega
 have hq : ¬ 3<p:=by omega
 obtain⟨inn,hinn⟩ : ∃ v,v=[⟨#[33]⟩]++(e.tx false 3++[]):=⟨_,rfl⟩
 have htx:(E.un f false e).tx false p=inn:=by
  rw[hinn]
  simp[E.tx,qcn,qe5,ustr,bs,qb6,qdl,Bop.left,hq]
 rw[htx] at hsz ⊢
 have hin:=hsz
 have z1:=he (Nat.lt_of_le_of_lt (by
  have:=qad ([⟨#[33]⟩]) (e.tx false 3) ([]) false
  try simp only[List.append_assoc,List.nil_append] at this
  rw[hinn]
  exact this) hin)
 have hP:Parts [⟨#[33]⟩,bs (qaj false (e.tx false 3))] inn:=by rw[hinn]; exact (.tok (.sub (qaO false ge 3) .nil))
 obtain⟨R,hR⟩ : ∃ v,v=bs (qaj false inn):=⟨_,rfl⟩
 have hRs:R.size<2 ^ 40:=by rw[hR,qam]; exact hin
 have za:Z tS (.call 247 [.dat (.sl [.lit (.string ⟨#[33]⟩),.lit (.string (bs (qaj false (e.tx false 3))))] 2 true)] [])=some (.ret (.str R) []):=qbW hP hR (by simp) hRs
 generalize bs (qaj false (e.tx false 3))=r1 at *
 rw[<- hR]
 clear hP hR hinn htx hsz hin
 refine qaa (pf:=F246) rfl rfl ?_
 simp[F246,qah,zl,hc,z1,za,ustr]
theorem qp2 {f:Bool} {e:E} (ge:e.good) (he:qbr e false 3 3) {p:Nat} {i:Int} (hi:i=p) (hp:3<p):qbr (E.un f false e) false p i:=by
 intro hsz
 have zl:Z tS (.call 261 [.dat (.agg [.lit (.int .i64 13),.lit (.int .i64 0),.lit (.string ⟨#[33]⟩),.sl [.lit (.int .i64 e.kind),.lit (.int .i64 e.num),.lit (.string e.str),e.kids] 1 f])] [])=some (.ret (.int 3) []):=qci (.un f false e)
 have hc:(3:Int)<i:=by omega
 have hq:3<p:=hp
 obtain⟨inn,hinn⟩ : ∃ v,v=[⟨#[33]⟩]++(e.tx false 3++[]):=⟨_,rfl⟩
 have htx:(E.un f false e).tx false p=bs [40]::(inn++[bs [41]]):=by
  rw[hinn]
  simp[E.tx,qcn,qe5,ustr,bs,qb6,qdl,Bop.left,hq]
 rw[htx] at hsz ⊢
 rw[qdd] at hsz ⊢
 have hin:(qaj false inn).length<2 ^ 40:=by simp at hsz; omega
 have hin2:(qaj false inn).length+2<2 ^ 40:=by simp at hsz; omega
 have z1:=he (Nat.lt_of_le_of_lt (by
  have:=qad ([⟨#[33]⟩]) (e.tx false 3) ([]) false
  try simp only[List.append_assoc,List.nil_append] at this
  rw[hinn]
  exact this) hin)
 have hP:Parts [⟨#[33]⟩,bs (qaj false (e.tx false 3))] inn:=by rw[hinn]; exact (.tok (.sub (qaO false ge 3) .nil))
 obtain⟨R,hR⟩ : ∃ v,v=bs (qaj false inn):=⟨_,rfl⟩
 have hRs:R.size<2 ^ 40:=by rw[hR,qam]; exact hin
 have za:Z tS (.call 247 [.dat (.sl [.lit (.string ⟨#[33]⟩),.lit (.string (bs (qaj false (e.tx false 3))))] 2 true)] [])=some (.ret (.str R) []):=qbW hP hR (by simp) hRs
 generalize bs (qaj false (e.tx false 3))=r1 at *
 have hfin:bs (40::(qaj false inn++[41]))=⟨#[40]⟩++R++⟨#[41]⟩:=by
  rw[qb0,qb0 ⟨#[40]⟩,qbg,hR,qbg]
  simp[byl]
 rw[hfin]
 have hRl:R.size+2<2 ^ 40:=by rw[hR,qam]; exact hin2
 have y1:((⟨#[40]⟩:ByteArray).size:Int)=1:=rfl
 have y2:((⟨#[41]⟩:ByteArray).size:Int)=1:=rfl
 have y3:(⟨#[40]⟩:ByteArray).size=1:=rfl
 have y4:(⟨#[41]⟩:ByteArray).size=1:=rfl
 have y5 : ¬ (9223372036854775807:Int)<1+(R.size:Int):=by omega
 have y6 : ¬ (9223372036854775807:Int)<1+(R.size:Int)+1:=by omega
 have y7:(⟨#[40]⟩++R:ByteArray).size=1+R.size:=by rw[ByteArray.size_append]; rfl
 clear hP hR hinn htx hsz hin hin2 hfin
 refine qaa (pf:=F246) rfl rfl ?_
 simp[F246,qah,zl,hc,y1,y2,y3,y4,y5,y6,y7,z1,za,ustr]
theorem qp3 {f:Bool} {o:Bop} {a b:E} (hl:o.prec=1) (ga:a.good) (gb:b.good) (ha:qbr a false 1 1) (hb:qbr b false 2 2) {p:Nat} {i:Int} (hi:i=p) (hp:p<=1):qbr (E.bin f o a b) false p i:=by
 intro hsz
 have zl:Z tS (.call 261 [.dat (.agg [.lit (.int .i64 14),.lit (.int .i64 0),.lit (.string o.str),.sl [.lit (.int .i64 a.kind),.lit (.int .i64 a.num),.lit (.string a.str),a.kids,.lit (.int .i64 b.kind),.lit (.int .i64 b.num),.lit (.string b.str),b.kids] 2 f])] [])=some (.ret (.int 1) []):=by
  have:=qci (.bin f o a b)
  rw[show E.lev (.bin f o a b)=1 from hl] at this
  exact this
 have hc : ¬ (1:Int)<i:=by omega
 have hq : ¬ 1<p:=by omega
 obtain⟨inn,hinn⟩ : ∃ v,v=a.tx false 1++([o.str]++(b.tx false 2++[])):=⟨_,rfl⟩
 have htx:(E.bin f o a b).tx false p=inn:=by
  rw[hinn]
  simp[E.tx,qcn,qe5,ustr,bs,qb6,qdl,Bop.left,hq,hl]
 rw[htx] at hsz ⊢
 have hin:=hsz
 have z0:=ha (Nat.lt_of_le_of_lt (by
  have:=qad ([]) (a.tx false 1) ([o.str]++(b.tx false 2++[])) false
  try simp only[List.append_assoc,List.nil_append] at this
  rw[hinn]
  exact this) hin)
 have z2:=hb (Nat.lt_of_le_of_lt (by
  have:=qad (a.tx false 1++([o.str])) (b.tx false 2) ([]) false
  try simp only[List.append_assoc,List.nil_append] at this
  rw[hinn]
  exact this) hin)
 have hP:Parts [bs (qaj false (a.tx false 1)),o.str,bs (qaj false (b.tx false 2))] inn:=by rw[hinn]; exact (.sub (qaO false ga 1) (.tok (.sub (qaO false gb 2) .nil)))
 obtain⟨R,hR⟩ : ∃ v,v=bs (qaj false inn):=⟨_,rfl⟩
 have hRs:R.size<2 ^ 40:=by rw[hR,qam]; exact hin
 have za:Z tS (.call 247 [.dat (.sl [.lit (.string (bs (qaj false (a.tx false 1)))),.lit (.string o.str),.lit (.string (bs (qaj false (b.tx false 2))))] 3 true)] [])=some (.ret (.str R) []):=qbW hP hR (by simp) hRs
 generalize bs (qaj false (a.tx false 1))=r0 at *
 generalize bs (qaj false (b.tx false 2))=r2 at *
 rw[<- hR]
 clear hP hR hinn htx hsz hin
 refine qaa (pf:=F246) rfl rfl ?_
 simp[F246,qah,zl,hc,z0,z2,za,qal 2 (by omega)]
theorem qod {f:Bool} {o:Bop} {a b:E} (hl:o.prec=1) (ga:a.good) (gb:b.good) (ha:qbr a false 1 1) (hb:qbr b false 2 2) {p:Nat} {i:Int} (hi:i=p) (hp:1<p):qbr (E.bin f o a b) false p i:=by
 intro hsz
 have zl:Z tS (.call 261 [.dat (.agg [.lit (.int .i64 14),.lit (.int .i64 0),.lit (.string o.str),.sl [.lit (.int .i64 a.kind),.lit (.int .i64 a.num),.lit (.string a.str),a.kids,.lit (.int .i64 b.kind),.lit (.int .i64 b.num),.lit (.string b.str),b.kids] 2 f])] [])=some (.ret (.int 1) []):=by
  have:=qci (.bin f o a b)
  rw[show E.lev (.bin f o a b)=1 from hl] at this
  exact this
 have hc:(1:Int)<i:=by omega
 have hq:1<p:=hp
 obtain⟨inn,hinn⟩ : ∃ v,v=a.tx false 1++([o.str]++(b.tx false 2++[])):=⟨_,rfl⟩
 have htx:(E.bin f o a b).tx false p=bs [40]::(inn++[bs [41]]):=by
  rw[hinn]
  simp[E.tx,qcn,qe5,ustr,bs,qb6,qdl,Bop.left,hq,hl]
 rw[htx] at hsz ⊢
 rw[qdd] at hsz ⊢
 have hin:(qaj false inn).length<2 ^ 40:=by simp at hsz; omega
 have hin2:(qaj false inn).length+2<2 ^ 40:=by simp at hsz; omega
 have z0:=ha (Nat.lt_of_le_of_lt (by
  have:=qad ([]) (a.tx false 1) ([o.str]++(b.tx false 2++[])) false
  try simp only[List.append_assoc,List.nil_append] at this
  rw[hinn]
  exact this) hin)
 have z2:=hb (Nat.lt_of_le_of_lt (by
  have:=qad (a.tx false 1++([o.str])) (b.tx false 2) ([]) false
  try simp only[List.append_assoc,List.nil_append] at this
  rw[hinn]
  exact this) hin)
 have hP:Parts [bs (qaj false (a.tx false 1)),o.str,bs (qaj false (b.tx false 2))] inn:=by rw[hinn]; exact (.sub (qaO false ga 1) (.tok (.sub (qaO false gb 2) .nil)))
 obtain⟨R,hR⟩ : ∃ v,v=bs (qaj false inn):=⟨_,rfl⟩
 have hRs:R.size<2 ^ 40:=by rw[hR,qam]; exact hin
 have za:Z tS (.call 247 [.dat (.sl [.lit (.string (bs (qaj false (a.tx false 1)))),.lit (.string o.str),.lit (.string (bs (qaj false (b.tx false 2))))] 3 true)] [])=some (.ret (.str R) []):=qbW hP hR (by simp) hRs
 generalize bs (qaj false (a.tx false 1))=r0 at *
 generalize bs (qaj false (b.tx false 2))=r2 at *
 have hfin:bs (40::(qaj false inn++[41]))=⟨#[40]⟩++R++⟨#[41]⟩:=by
  rw[qb0,qb0 ⟨#[40]⟩,qbg,hR,qbg]
  simp[byl]
 rw[hfin]
 have hRl:R.size+2<2 ^ 40:=by rw[hR,qam]; exact hin2
 have y1:((⟨#[40]⟩:ByteArray).size:Int)=1:=rfl
 have y2:((⟨#[41]⟩:ByteArray).size:Int)=1:=rfl
 have y3:(⟨#[40]⟩:ByteArray).size=1:=rfl
 have y4:(⟨#[41]⟩:ByteArray).size=1:=rfl
 have y5 : ¬ (9223372036854775807:Int)<1+(R.size:Int):=by omega
 have y6 : ¬ (9223372036854775807:Int)<1+(R.size:Int)+1:=by omega
 have y7:(⟨#[40]⟩++R:ByteArray).size=1+R.size:=by rw[ByteArray.size_append]; rfl
 clear hP hR hinn htx hsz hin hin2 hfin
 refine qaa (pf:=F246) rfl rfl ?_
 simp[F246,qah,zl,hc,y1,y2,y3,y4,y5,y6,y7,z0,z2,za,qal 2 (by omega)]
theorem qp4 {f:Bool} {o:Bop} {a b:E} (hl:o.prec=2) (ga:a.good) (gb:b.good) (ha:qbr a false 2 2) (hb:qbr b false 3 3) {p:Nat} {i:Int} (hi:i=p) (hp:p<=2):qbr (E.bin f o a b) false p i:=by
 intro hsz
 have zl:Z tS (.call 261 [.dat (.agg [.lit (.int .i64 14),.lit (.int .i64 0),.lit (.string o.str),.sl [.lit (.int .i64 a.kind),.lit (.int .i64 a.num),.lit (.string a.str),a.kids,.lit (.int .i64 b.kind),.lit (.int .i64 b.num),.lit (.string b.str),b.kids] 2 f])] [])=some (.ret (.int 2) []):=by
  have:=qci (.bin f o a b)
  rw[show E.lev (.bin f o a b)=2 from hl] at this
  exact this
 have hc : ¬ (2:Int)<i:=by omega
 have hq : ¬ 2<p:=by omega
 obtain⟨inn,hinn⟩ : ∃ v,v=a.tx false 2++([o.str]++(b.tx false 3++[])):=⟨_,rfl⟩
 have htx:(E.bin f o a b).tx false p=inn:=by
  rw[hinn]
  simp[E.tx,qcn,qe5,ustr,bs,qb6,qdl,Bop.left,hq,hl]
 rw[htx] at hsz ⊢
 have hin:=hsz
 have z0:=ha (Nat.lt_of_le_of_lt (by
  have:=qad ([]) (a.tx false 2) ([o.str]++(b.tx false 3++[])) false
  try simp only[List.append_assoc,List.nil_append] at this
  rw[hinn]
  exact this) hin)
 have z2:=hb (Nat.lt_of_le_of_lt (by
  have:=qad (a.tx false 2++([o.str])) (b.tx false 3) ([]) false
  try simp only[List.append_assoc,List.nil_append] at this
  rw[hinn]
  exact this) hin)
 have hP:Parts [bs (qaj false (a.tx false 2)),o.str,bs (qaj false (b.tx false 3))] inn:=by rw[hinn]; exact (.sub (qaO false ga 2) (.tok (.sub (qaO false gb 3) .nil)))
 obtain⟨R,hR⟩ : ∃ v,v=bs (qaj false inn):=⟨_,rfl⟩
 have hRs:R.size<2 ^ 40:=by rw[hR,qam]; exact hin
 have za:Z tS (.call 247 [.dat (.sl [.lit (.string (bs (qaj false (a.tx false 2)))),.lit (.string o.str),.lit (.string (bs (qaj false (b.tx false 3))))] 3 true)] [])=some (.ret (.str R) []):=qbW hP hR (by simp) hRs
 generalize bs (qaj false (a.tx false 2))=r0 at *
 generalize bs (qaj false (b.tx false 3))=r2 at *
 rw[<- hR]
 clear hP hR hinn htx hsz hin
 refine qaa (pf:=F246) rfl rfl ?_
 simp[F246,qah,zl,hc,z0,z2,za,qal 3 (by omega)]
theorem qoe {f:Bool} {o:Bop} {a b:E} (hl:o.prec=2) (ga:a.good) (gb:b.good) (ha:qbr a false 2 2) (hb:qbr b false 3 3) {p:Nat} {i:Int} (hi:i=p) (hp:2<p):qbr (E.bin f o a b) false p i:=by
 intro hsz
 have zl:Z tS (.call 261 [.dat (.agg [.lit (.int .i64 14),.lit (.int .i64 0),.lit (.string o.str),.sl [.lit (.int .i64 a.kind),.lit (.int .i64 a.num),.lit (.string a.str),a.kids,.lit (.int .i64 b.kind),.lit (.int .i64 b.num),.lit (.string b.str),b.kids] 2 f])] [])=some (.ret (.int 2) []):=by
  have:=qci (.bin f o a b)
  rw[show E.lev (.bin f o a b)=2 from hl] at this
  exact this
 have hc:(2:Int)<i:=by omega
 have hq:2<p:=hp
 obtain⟨inn,hinn⟩ : ∃ v,v=a.tx false 2++([o.str]++(b.tx false 3++[])):=⟨_,rfl⟩
 have htx:(E.bin f o a b).tx false p=bs [40]::(inn++[bs [41]]):=by
  rw[hinn]
  simp[E.tx,qcn,qe5,ustr,bs,qb6,qdl,Bop.left,hq,hl]
 rw[htx] at hsz ⊢
 rw[qdd] at hsz ⊢
 have hin:(qaj false inn).length<2 ^ 40:=by simp at hsz; omega
 have hin2:(qaj false inn).length+2<2 ^ 40:=by simp at hsz; omega
 have z0:=ha (Nat.lt_of_le_of_lt (by
  have:=qad ([]) (a.tx false 2) ([o.str]++(b.tx false 3++[])) false
  try simp only[List.append_assoc,List.nil_append] at this
  rw[hinn]
  exact this) hin)
 have z2:=hb (Nat.lt_of_le_of_lt (by
  have:=qad (a.tx false 2++([o.str])) (b.tx false 3) ([]) false
  try simp only[List.append_assoc,List.nil_append] at this
  rw[hinn]
  exact this) hin)
 have hP:Parts [bs (qaj false (a.tx false 2)),o.str,bs (qaj false (b.tx false 3))] inn:=by rw[hinn]; exact (.sub (qaO false ga 2) (.tok (.sub (qaO false gb 3) .nil)))
 obtain⟨R,hR⟩ : ∃ v,v=bs (qaj false inn):=⟨_,rfl⟩
 have hRs:R.size<2 ^ 40:=by rw[hR,qam]; exact hin
 have za:Z tS (.call 247 [.dat (.sl [.lit (.string (bs (qaj false (a.tx false 2)))),.lit (.string o.str),.lit (.string (bs (qaj false (b.tx false 3))))] 3 true)] [])=some (.ret (.str R) []):=qbW hP hR (by simp) hRs
 generalize bs (qaj false (a.tx false 2))=r0 at *
 generalize bs (qaj false (b.tx false 3))=r2 at *
 have hfin:bs (40::(qaj false inn++[41]))=⟨#[40]⟩++R++⟨#[41]⟩:=by
  rw[qb0,qb0 ⟨#[40]⟩,qbg,hR,qbg]
  simp[byl]
 rw[hfin]
 have hRl:R.size+2<2 ^ 40:=by rw[hR,qam]; exact hin2
 have y1:((⟨#[40]⟩:ByteArray).size:Int)=1:=rfl
 have y2:((⟨#[41]⟩:ByteArray).size:Int)=1:=rfl
 have y3:(⟨#[40]⟩:ByteArray).size=1:=rfl
 have y4:(⟨#[41]⟩:ByteArray).size=1:=rfl
 have y5 : ¬ (9223372036854775807:Int)<1+(R.size:Int):=by omega
 have y6 : ¬ (9223372036854775807:Int)<1+(R.size:Int)+1:=by omega
 have y7:(⟨#[40]⟩++R:ByteArray).size=1+R.size:=by rw[ByteArray.size_append]; rfl
 clear hP hR hinn htx hsz hin hin2 hfin
 refine qaa (pf:=F246) rfl rfl ?_
 simp[F246,qah,zl,hc,y1,y2,y3,y4,y5,y6,y7,z0,z2,za,qal 3 (by omega)]
theorem qp5 {f:Bool} {o:Bop} {a b:E} (hl:o.prec=4) (ga:a.good) (gb:b.good) (ha:qbr a false 5 5) (hb:qbr b false 5 5) {p:Nat} {i:Int} (hi:i=p) (hp:p<=4):qbr (E.bin f o a b) false p i:=by
 intro hsz
 have zl:Z tS (.call 261 [.dat (.agg [.lit (.int .i64 14),.lit (.int .i64 0),.lit (.string o.str),.sl [.lit (.int .i64 a.kind),.lit (.int .i64 a.num),.lit (.string a.str),a.kids,.lit (.int .i64 b.kind),.lit (.int .i64 b.num),.lit (.string b.str),b.kids] 2 f])] [])=some (.ret (.int 4) []):=by
  have:=qci (.bin f o a b)
  rw[show E.lev (.bin f o a b)=4 from hl] at this
  exact this
 have hc : ¬ (4:Int)<i:=by omega
 have hq : ¬ 4<p:=by omega
 obtain⟨inn,hinn⟩ : ∃ v,v=a.tx false 5++([o.str]++(b.tx false 5++[])):=⟨_,rfl⟩
 have htx:(E.bin f o a b).tx false p=inn:=by
  rw[hinn]
  simp[E.tx,qcn,qe5,ustr,bs,qb6,qdl,Bop.left,hq,hl]
 rw[htx] at hsz ⊢
 have hin:=hsz
 have z0:=ha (Nat.lt_of_le_of_lt (by
  have:=qad ([]) (a.tx false 5) ([o.str]++(b.tx false 5++[])) false
  try simp only[List.append_assoc,List.nil_append] at this
  rw[hinn]
  exact this) hin)
 have z2:=hb (Nat.lt_of_le_of_lt (by
  have:=qad (a.tx false 5++([o.str])) (b.tx false 5) ([]) false
  try simp only[List.append_assoc,List.nil_append] at this
  rw[hinn]
  exact this) hin)
 have hP:Parts [bs (qaj false (a.tx false 5)),o.str,bs (qaj false (b.tx false 5))] inn:=by rw[hinn]; exact (.sub (qaO false ga 5) (.tok (.sub (qaO false gb 5) .nil)))
 obtain⟨R,hR⟩ : ∃ v,v=bs (qaj false inn):=⟨_,rfl⟩
 have hRs:R.size<2 ^ 40:=by rw[hR,qam]; exact hin
 have za:Z tS (.call 247 [.dat (.sl [.lit (.string (bs (qaj false (a.tx false 5)))),.lit (.string o.str),.lit (.string (bs (qaj false (b.tx false 5))))] 3 true)] [])=some (.ret (.str R) []):=qbW hP hR (by simp) hRs
 generalize bs (qaj false (a.tx false 5))=r0 at *
 generalize bs (qaj false (b.tx false 5))=r2 at *
 rw[<- hR]
 clear hP hR hinn htx hsz hin
 refine qaa (pf:=F246) rfl rfl ?_
 simp[F246,qah,zl,hc,z0,z2,za,qal 5 (by omega)]
theorem qof {f:Bool} {o:Bop} {a b:E} (hl:o.prec=4) (ga:a.good) (gb:b.good) (ha:qbr a false 5 5) (hb:qbr b false 5 5) {p:Nat} {i:Int} (hi:i=p) (hp:4<p):qbr (E.bin f o a b) false p i:=by
 intro hsz
 have zl:Z tS (.call 261 [.dat (.agg [.lit (.int .i64 14),.lit (.int .i64 0),.lit (.string o.str),.sl [.lit (.int .i64 a.kind),.lit (.int .i64 a.num),.lit (.string a.str),a.kids,.lit (.int .i64 b.kind),.lit (.int .i64 b.num),.lit (.string b.str),b.kids] 2 f])] [])=some (.ret (.int 4) []):=by
  have:=qci (.bin f o a b)
  rw[show E.lev (.bin f o a b)=4 from hl] at this
  exact this
 have hc:(4:Int)<i:=by omega
 have hq:4<p:=hp
 obtain⟨inn,hinn⟩ : ∃ v,v=a.tx false 5++([o.str]++(b.tx false 5++[])):=⟨_,rfl⟩
 have htx:(E.bin f o a b).tx false p=bs [40]::(inn++[bs [41]]):=by
  rw[hinn]
  simp[E.tx,qcn,qe5,ustr,bs,qb6,qdl,Bop.left,hq,hl]
 rw[htx] at hsz ⊢
 rw[qdd] at hsz ⊢
 have hin:(qaj false inn).length<2 ^ 40:=by simp at hsz; omega
 have hin2:(qaj false inn).length+2<2 ^ 40:=by simp at hsz; omega
 have z0:=ha (Nat.lt_of_le_of_lt (by
  have:=qad ([]) (a.tx false 5) ([o.str]++(b.tx false 5++[])) false
  try simp only[List.append_assoc,List.nil_append] at this
  rw[hinn]
  exact this) hin)
 have z2:=hb (Nat.lt_of_le_of_lt (by
  have:=qad (a.tx false 5++([o.str])) (b.tx false 5) ([]) false
  try simp only[List.append_assoc,List.nil_append] at this
  rw[hinn]
  exact this) hin)
 have hP:Parts [bs (qaj false (a.tx false 5)),o.str,bs (qaj false (b.tx false 5))] inn:=by rw[hinn]; exact (.sub (qaO false ga 5) (.tok (.sub (qaO false gb 5) .nil)))
 obtain⟨R,hR⟩ : ∃ v,v=bs (qaj false inn):=⟨_,rfl⟩
 have hRs:R.size<2 ^ 40:=by rw[hR,qam]; exact hin
 have za:Z tS (.call 247 [.dat (.sl [.lit (.string (bs (qaj false (a.tx false 5)))),.lit (.string o.str),.lit (.string (bs (qaj false (b.tx false 5))))] 3 true)] [])=some (.ret (.str R) []):=qbW hP hR (by simp) hRs
 generalize bs (qaj false (a.tx false 5))=r0 at *
 generalize bs (qaj false (b.tx false 5))=r2 at *
 have hfin:bs (40::(qaj false inn++[41]))=⟨#[40]⟩++R++⟨#[41]⟩:=by
  rw[qb0,qb0 ⟨#[40]⟩,qbg,hR,qbg]
  simp[byl]
 rw[hfin]
 have hRl:R.size+2<2 ^ 40:=by rw[hR,qam]; exact hin2
 have y1:((⟨#[40]⟩:ByteArray).size:Int)=1:=rfl
 have y2:((⟨#[41]⟩:ByteArray).size:Int)=1:=rfl
 have y3:(⟨#[40]⟩:ByteArray).size=1:=rfl
 have y4:(⟨#[41]⟩:ByteArray).size=1:=rfl
 have y5 : ¬ (9223372036854775807:Int)<1+(R.size:Int):=by omega
 have y6 : ¬ (9223372036854775807:Int)<1+(R.size:Int)+1:=by omega
 have y7:(⟨#[40]⟩++R:ByteArray).size=1+R.size:=by rw[ByteArray.size_append]; rfl
 clear hP hR hinn htx hsz hin hin2 hfin
 refine qaa (pf:=F246) rfl rfl ?_
 simp[F246,qah,zl,hc,y1,y2,y3,y4,y5,y6,y7,z0,z2,za,qal 5 (by omega)]
theorem qp6 {f:Bool} {o:Bop} {a b:E} (hl:o.prec=5) (ga:a.good) (gb:b.good) (ha:qbr a false 5 5) (hb:qbr b false 6 6) {p:Nat} {i:Int} (hi:i=p) (hp:p<=5):qbr (E.bin f o a b) false p i:=by
 intro hsz
 have zl:Z tS (.call 261 [.dat (.agg [.lit (.int .i64 14),.lit (.int .i64 0),.lit (.string o.str),.sl [.lit (.int .i64 a.kind),.lit (.int .i64 a.num),.lit (.string a.str),a.kids,.lit (.int .i64 b.kind),.lit (.int .i64 b.num),.lit (.string b.str),b.kids] 2 f])] [])=some (.ret (.int 5) []):=by
  have:=qci (.bin f o a b)
  rw[show E.lev (.bin f o a b)=5 from hl] at this
  exact this
 have hc : ¬ (5:Int)<i:=by omega
 have hq : ¬ 5<p:=by omega
 obtain⟨inn,hinn⟩ : ∃ v,v=a.tx false 5++([o.str]++(b.tx false 6++[])):=⟨_,rfl⟩
 have htx:(E.bin f o a b).tx false p=inn:=by
  rw[hinn]
  simp[E.tx,qcn,qe5,ustr,bs,qb6,qdl,Bop.left,hq,hl]
 rw[htx] at hsz ⊢
 have hin:=hsz
 have z0:=ha (Nat.lt_of_le_of_lt (by
  have:=qad ([]) (a.tx false 5) ([o.str]++(b.tx false 6++[])) false
  try simp only[List.append_assoc,List.nil_append] at this
  rw[hinn]
  exact this) hin)
 have z2:=hb (Nat.lt_of_le_of_lt (by
  have:=qad (a.tx false 5++([o.str])) (b.tx false 6) ([]) false
  try simp only[List.append_assoc,List.nil_append] at this
  rw[hinn]
  exact this) hin)
 have hP:Parts [bs (qaj false (a.tx false 5)),o.str,bs (qaj false (b.tx false 6))] inn:=by rw[hinn]; exact (.sub (qaO false ga 5) (.tok (.sub (qaO false gb 6) .nil)))
 obtain⟨R,hR⟩ : ∃ v,v=bs (qaj false inn):=⟨_,rfl⟩
 have hRs:R.size<2 ^ 40:=by rw[hR,qam]; exact hin
 have za:Z tS (.call 247 [.dat (.sl [.lit (.string (bs (qaj false (a.tx false 5)))),.lit (.string o.str),.lit (.string (bs (qaj false (b.tx false 6))))] 3 true)] [])=some (.ret (.str R) []):=qbW hP hR (by simp) hRs
 generalize bs (qaj false (a.tx false 5))=r0 at *
 generalize bs (qaj false (b.tx false 6))=r2 at *
 rw[<- hR]
 clear hP hR hinn htx hsz hin
 refine qaa (pf:=F246) rfl rfl ?_
 simp[F246,qah,zl,hc,z0,z2,za,qal 6 (by omega)]
theorem qog {f:Bool} {o:Bop} {a b:E} (hl:o.prec=5) (ga:a.good) (gb:b.good) (ha:qbr a false 5 5) (hb:qbr b false 6 6) {p:Nat} {i:Int} (hi:i=p) (hp:5<p):qbr (E.bin f o a b) false p i:=by
 intro hsz
 have zl:Z tS (.call 261 [.dat (.agg [.lit (.int .i64 14),.lit (.int .i64 0),.lit (.string o.str),.sl [.lit (.int .i64 a.kind),.lit (.int .i64 a.num),.lit (.string a.str),a.kids,.lit (.int .i64 b.kind),.lit (.int .i64 b.num),.lit (.string b.str),b.kids] 2 f])] [])=some (.ret (.int 5) []):=by
  have:=qci (.bin f o a b)
  rw[show E.lev (.bin f o a b)=5 from hl] at this
  exact this
 have hc:(5:Int)<i:=by omega
 have hq:5<p:=hp
 obtain⟨inn,hinn⟩ : ∃ v,v=a.tx false 5++([o.str]++(b.tx false 6++[])):=⟨_,rfl⟩
 have htx:(E.bin f o a b).tx false p=bs [40]::(inn++[bs [41]]):=by
  rw[hinn]
  simp[E.tx,qcn,qe5,ustr,bs,qb6,qdl,Bop.left,hq,hl]
 rw[htx] at hsz ⊢
 rw[qdd] at hsz ⊢
 have hin:(qaj false inn).length<2 ^ 40:=by simp at hsz; omega
 have hin2:(qaj false inn).length+2<2 ^ 40:=by simp at hsz; omega
 have z0:=ha (Nat.lt_of_le_of_lt (by
  have:=qad ([]) (a.tx false 5) ([o.str]++(b.tx false 6++[])) false
  try simp only[List.append_assoc,List.nil_append] at this
  rw[hinn]
  exact this) hin)
 have z2:=hb (Nat.lt_of_le_of_lt (by
  have:=qad (a.tx false 5++([o.str])) (b.tx false 6) ([]) false
  try simp only[List.append_assoc,List.nil_append] at this
  rw[hinn]
  exact this) hin)
 have hP:Parts [bs (qaj false (a.tx false 5)),o.str,bs (qaj false (b.tx false 6))] inn:=by rw[hinn]; exact (.sub (qaO false ga 5) (.tok (.sub (qaO false gb 6) .nil)))
 obtain⟨R,hR⟩ : ∃ v,v=bs (qaj false inn):=⟨_,rfl⟩
 have hRs:R.size<2 ^ 40:=by rw[hR,qam]; exact hin
 have za:Z tS (.call 247 [.dat (.sl [.lit (.string (bs (qaj false (a.tx false 5)))),.lit (.string o.str),.lit (.string (bs (qaj false (b.tx false 6))))] 3 true)] [])=some (.ret (.str R) []):=qbW hP hR (by simp) hRs
 generalize bs (qaj false (a.tx false 5))=r0 at *
 generalize bs (qaj false (b.tx false 6))=r2 at *
 have hfin:bs (40::(qaj false inn++[41]))=⟨#[40]⟩++R++⟨#[41]⟩:=by
  rw[qb0,qb0 ⟨#[40]⟩,qbg,hR,qbg]
  simp[byl]
 rw[hfin]
 have hRl:R.size+2<2 ^ 40:=by rw[hR,qam]; exact hin2
 have y1:((⟨#[40]⟩:ByteArray).size:Int)=1:=rfl
 have y2:((⟨#[41]⟩:ByteArray).size:Int)=1:=rfl
 have y3:(⟨#[40]⟩:ByteArray).size=1:=rfl
 have y4:(⟨#[41]⟩:ByteArray).size=1:=rfl
 have y5 : ¬ (9223372036854775807:Int)<1+(R.size:Int):=by omega
 have y6 : ¬ (9223372036854775807:Int)<1+(R.size:Int)+1:=by omega
 have y7:(⟨#[40]⟩++R:ByteArray).size=1+R.size:=by rw[ByteArray.size_append]; rfl
 clear hP hR hinn htx hsz hin hin2 hfin
 refine qaa (pf:=F246) rfl rfl ?_
 simp[F246,qah,zl,hc,y1,y2,y3,y4,y5,y6,y7,z0,z2,za,qal 6 (by omega)]
theorem qp7 {f:Bool} {o:Bop} {a b:E} (hl:o.prec=6) (ga:a.good) (gb:b.good) (ha:qbr a false 6 6) (hb:qbr b false 7 7) {p:Nat} {i:Int} (hi:i=p) (hp:p<=6):qbr (E.bin f o a b) false p i:=by
 intro hsz
 have zl:Z tS (.call 261 [.dat (.agg [.lit (.int .i64 14),.lit (.int .i64 0),.lit (.string o.str),.sl [.lit (.int .i64 a.kind),.lit (.int .i64 a.num),.lit (.string a.str),a.kids,.lit (.int .i64 b.kind),.lit (.int .i64 b.num),.lit (.string b.str),b.kids] 2 f])] [])=some (.ret (.int 6) []):=by
  have:=qci (.bin f o a b)
  rw[show E.lev (.bin f o a b)=6 from hl] at this
  exact this
 have hc : ¬ (6:Int)<i:=by omega
 have hq : ¬ 6<p:=by omega
 obtain⟨inn,hinn⟩ : ∃ v,v=a.tx false 6++([o.str]++(b.tx false 7++[])):=⟨_,rfl⟩
 have htx:(E.bin f o a b).tx false p=inn:=by
  rw[hinn]
  simp[E.tx,qcn,qe5,ustr,bs,qb6,qdl,Bop.left,hq,hl]
 rw[htx] at hsz ⊢
 have hin:=hsz
 have z0:=ha (Nat.lt_of_le_of_lt (by
  have:=qad ([]) (a.tx false 6) ([o.str]++(b.tx false 7++[])) false
  try simp only[List.append_assoc,List.nil_append] at this
  rw[hinn]
  exact this) hin)
 have z2:=hb (Nat.lt_of_le_of_lt (by
  have:=qad (a.tx false 6++([o.str])) (b.tx false 7) ([]) false
  try simp only[List.append_assoc,List.nil_append] at this
  rw[hinn]
  exact this) hin)
 have hP:Parts [bs (qaj false (a.tx false 6)),o.str,bs (qaj false (b.tx false 7))] inn:=by rw[hinn]; exact (.sub (qaO false ga 6) (.tok (.sub (qaO false gb 7) .nil)))
 obtain⟨R,hR⟩ : ∃ v,v=bs (qaj false inn):=⟨_,rfl⟩
 have hRs:R.size<2 ^ 40:=by rw[hR,qam]; exact hin
 have za:Z tS (.call 247 [.dat (.sl [.lit (.string (bs (qaj false (a.tx false 6)))),.lit (.string o.str),.lit (.string (bs (qaj false (b.tx false 7))))] 3 true)] [])=some (.ret (.str R) []):=qbW hP hR (by simp) hRs
 generalize bs (qaj false (a.tx false 6))=r0 at *
 generalize bs (qaj false (b.tx false 7))=r2 at *
 rw[<- hR]
 clear hP hR hinn htx hsz hin
 refine qaa (pf:=F246) rfl rfl ?_
 simp[F246,qah,zl,hc,z0,z2,za,qal 7 (by omega)]
theorem qoh {f:Bool} {o:Bop} {a b:E} (hl:o.prec=6) (ga:a.good) (gb:b.good) (ha:qbr a false 6 6) (hb:qbr b false 7 7) {p:Nat} {i:Int} (hi:i=p) (hp:6<p):qbr (E.bin f o a b) false p i:=by
 intro hsz
 have zl:Z tS (.call 261 [.dat (.agg [.lit (.int .i64 14),.lit (.int .i64 0),.lit (.string o.str),.sl [.lit (.int .i64 a.kind),.lit (.int .i64 a.num),.lit (.string a.str),a.kids,.lit (.int .i64 b.kind),.lit (.int .i64 b.num),.lit (.string b.str),b.kids] 2 f])] [])=some (.ret (.int 6) []):=by
  have:=qci (.bin f o a b)
  rw[show E.lev (.bin f o a b)=6 from hl] at this
  exact this
 have hc:(6:Int)<i:=by omega
 have hq:6<p:=hp
 obtain⟨inn,hinn⟩ : ∃ v,v=a.tx false 6++([o.str]++(b.tx false 7++[])):=⟨_,rfl⟩
 have htx:(E.bin f o a b).tx false p=bs [40]::(inn++[bs [41]]):=by
  rw[hinn]
  simp[E.tx,qcn,qe5,ustr,bs,qb6,qdl,Bop.left,hq,hl]
 rw[htx] at hsz ⊢
 rw[qdd] at hsz ⊢
 have hin:(qaj false inn).length<2 ^ 40:=by simp at hsz; omega
 have hin2:(qaj false inn).length+2<2 ^ 40:=by simp at hsz; omega
 have z0:=ha (Nat.lt_of_le_of_lt (by
  have:=qad ([]) (a.tx false 6) ([o.str]++(b.tx false 7++[])) false
  try simp only[List.append_assoc,List.nil_append] at this
  rw[hinn]
  exact this) hin)
 have z2:=hb (Nat.lt_of_le_of_lt (by
  have:=qad (a.tx false 6++([o.str])) (b.tx false 7) ([]) false
  try simp only[List.append_assoc,List.nil_append] at this
  rw[hinn]
  exact this) hin)
 have hP:Parts [bs (qaj false (a.tx false 6)),o.str,bs (qaj false (b.tx false 7))] inn:=by rw[hinn]; exact (.sub (qaO false ga 6) (.tok (.sub (qaO false gb 7) .nil)))
 obtain⟨R,hR⟩ : ∃ v,v=bs (qaj false inn):=⟨_,rfl⟩
 have hRs:R.size<2 ^ 40:=by rw[hR,qam]; exact hin
 have za:Z tS (.call 247 [.dat (.sl [.lit (.string (bs (qaj false (a.tx false 6)))),.lit (.string o.str),.lit (.string (bs (qaj false (b.tx false 7))))] 3 true)] [])=some (.ret (.str R) []):=qbW hP hR (by simp) hRs
 generalize bs (qaj false (a.tx false 6))=r0 at *
 generalize bs (qaj false (b.tx false 7))=r2 at *
 have hfin:bs (40::(qaj false inn++[41]))=⟨#[40]⟩++R++⟨#[41]⟩:=by
  rw[qb0,qb0 ⟨#[40]⟩,qbg,hR,qbg]
  simp[byl]
 rw[hfin]
 have hRl:R.size+2<2 ^ 40:=by rw[hR,qam]; exact hin2
 have y1:((⟨#[40]⟩:ByteArray).size:Int)=1:=rfl
 have y2:((⟨#[41]⟩:ByteArray).size:Int)=1:=rfl
 have y3:(⟨#[40]⟩:ByteArray).size=1:=rfl
 have y4:(⟨#[41]⟩:ByteArray).size=1:=rfl
 have y5 : ¬ (9223372036854775807:Int)<1+(R.size:Int):=by omega
 have y6 : ¬ (9223372036854775807:Int)<1+(R.size:Int)+1:=by omega
 have y7:(⟨#[40]⟩++R:ByteArray).size=1+R.size:=by rw[ByteArray.size_append]; rfl
 clear hP hR hinn htx hsz hin hin2 hfin
 refine qaa (pf:=F246) rfl rfl ?_
 simp[F246,qah,zl,hc,y1,y2,y3,y4,y5,y6,y7,z0,z2,za,qal 7 (by omega)]
theorem qju : ∀ e:E,e.good -> ∀ p i,i=((p:Nat):Int)->p<=8->qbr e false p i
 | .int n,h,p,i,hi,hp=>qrX h.1 h.2 hi hp
 | .bool n,h,p,i,hi,hp=>by
  rcases h with rfl | rfl
  ·exact qoa hi hp
  ·exact qob hi hp
 | .var s,h,p,i,hi,hp=>qrY hi hp
 | .name s,h,p,i,hi,hp=>qp0 hi hp
 | .field f s e,h,p,i,hi,hp=>qoc h.2 (qju e h.2 1 1 rfl (by omega)) hi hp
 | .un f neg e,h,p,i,hi,hp=>by
  have hg:e.good:=h
  have A:=qju e hg
  cases neg
  ·by_cases hq:3<p
   ·exact qp2 (e:=e) hg (A 3 3 rfl (by omega)) hi hq
   ·exact qr0 (e:=e) hg (A 3 3 rfl (by omega)) hi (by omega)
  ·by_cases hq:7<p
   ·exact qp1 (e:=e) hg (A 7 7 rfl (by omega)) hi hq
   ·exact qrZ (e:=e) hg (A 7 7 rfl (by omega)) hi (by omega)
 | .bin f o a b,h,p,i,hi,hp=>by
  have A:=qju a h.1
  have B:=qju b h.2
  rcases qfK o with ⟨ho,_⟩ | ⟨ho,_⟩ | ⟨ho,_⟩ | ⟨ho,_⟩ | ⟨ho,_⟩
  ·by_cases hq:1<p
   ·exact qod ho h.1 h.2 (A 1 1 rfl (by omega)) (B 2 2 rfl (by omega)) hi hq
   ·exact qp3 ho h.1 h.2 (A 1 1 rfl (by omega)) (B 2 2 rfl (by omega)) hi (by omega)
  ·by_cases hq:2<p
   ·exact qoe ho h.1 h.2 (A 2 2 rfl (by omega)) (B 3 3 rfl (by omega)) hi hq
   ·exact qp4 ho h.1 h.2 (A 2 2 rfl (by omega)) (B 3 3 rfl (by omega)) hi (by omega)
  ·by_cases hq:4<p
   ·exact qof ho h.1 h.2 (A 5 5 rfl (by omega)) (B 5 5 rfl (by omega)) hi hq
   ·exact qp5 ho h.1 h.2 (A 5 5 rfl (by omega)) (B 5 5 rfl (by omega)) hi (by omega)
  ·by_cases hq:5<p
   ·exact qog ho h.1 h.2 (A 5 5 rfl (by omega)) (B 6 6 rfl (by omega)) hi hq
   ·exact qp6 ho h.1 h.2 (A 5 5 rfl (by omega)) (B 6 6 rfl (by omega)) hi (by omega)
  ·by_cases hq:6<p
   ·exact qoh ho h.1 h.2 (A 6 6 rfl (by omega)) (B 7 7 rfl (by omega)) hi hq
   ·exact qp7 ho h.1 h.2 (A 6 6 rfl (by omega)) (B 7 7 rfl (by omega)) hi (by omega)
theorem qga {e:E} (h:e.good) (hsz:(qaj false (e.tx false 1)).length<2 ^ 40):Z tS (.call 234 [e.node] [])=some (.ret (.str (bs (qaj false (e.tx false 1)))) []):=by
 have z:=qju e h 1 1 rfl (by omega) hsz
 generalize bs (qaj false (e.tx false 1))=R at *
 refine qaa (pf:=F234) rfl rfl ?_
 simp[F234,z]
end Go.Pm
end SSb
section SSc
namespace Go.Pm
open F
set_option maxHeartbeats 8000000
def Ss.btx (b:Ss):List ByteArray:=⟨#[123]⟩::(b.tx++[⟨#[125]⟩])
def qdv (b:Ss):Prop:=(∀ t∈b.tx,t.size≠0) /\ ∀ (k n:Int) (s:ByteArray) (f:Bool),(qaj false b.btx).length<2 ^ 40->Z tS (.call 248 [.dat (.agg [.lit (.int .i64 k),.lit (.int .i64 n),.lit (.string s),kd f b.fo.len b.fo.cells])] [])=some (.ret (.str (bs (qaj false b.btx))) [])
theorem qdX {b:Ss} (h : ∀ t∈b.tx,t.size≠0) : ∀ t∈b.btx,t.size≠0:=by
 intro t ht
 rcases List.mem_cons.1 ht with rfl | ht
 ·decide
 ·rcases List.mem_append.1 ht with ht | ht
  ·exact h t ht
  ·rw[List.mem_singleton.1 ht]; decide
theorem qeG {a b:List ByteArray} (ha : ∀ t∈a,t.size≠0) (hb : ∀ t∈b,t.size≠0) : ∀ t∈a++b,t.size≠0:=fun t ht=>by
 rcases List.mem_append.1 ht with h | h
 ·exact ha t h
 ·exact hb t h
theorem qiJ {x:ByteArray} (h:x.size≠0) : ∀ t∈[x],t.size≠0:=fun t ht=>by rw[List.mem_singleton.1 ht]; exact h
theorem qdo : ∀ t∈([]:List ByteArray),t.size≠0:=fun t ht=>by cases ht
theorem qmY {f fb fc:Bool} {s:ByteArray} {e:E} (ge:e.good) {T:List ByteArray} (hT:T=[s]++([⟨#[61]⟩]++(e.tx false 1++([⟨#[59]⟩]++[])))) (hsz:(qaj false T).length<2 ^ 40) :
  Z tS (.call 263 [.dat (.agg [.lit (.int .i64 1),.lit (.int .i64 0),.lit (.string s),.sl [.lit (.int .i64 e.kind),.lit (.int .i64 e.num),.lit (.string e.str),e.kids] 1 f])] [])=some (.ret (.str (bs (qaj false T))) []):=by
 have q2:(qaj false (e.tx false 1)).length<2 ^ 40:=Nat.lt_of_le_of_lt (by
  have:=qad ([s]++([⟨#[61]⟩]++[])) (e.tx false 1) ([⟨#[59]⟩]++[]) false
  simp only[List.append_assoc,List.nil_append,List.append_nil] at this
  rw[hT]
  simp only[List.append_assoc,List.nil_append,List.append_nil]
  exact this) hsz
 have z2:=qga ge q2
 obtain⟨R,hR⟩ : ∃ v,v=bs (qaj false T):=⟨_,rfl⟩
 have hRs:R.size<2 ^ 40:=by rw[hR,qam]; exact hsz
 have hP:Parts [s,⟨#[61]⟩,bs (qaj false (e.tx false 1)),⟨#[59]⟩] T:=by rw[hT]; exact (.tok (.tok (.sub (qaO false ge 1) (.tok .nil))))
 have za:Z tS (.call 247 [.dat (.sl [.lit (.string s),.lit (.string ⟨#[61]⟩),.lit (.string (bs (qaj false (e.tx false 1)))),.lit (.string ⟨#[59]⟩)] 4 true)] [])=some (.ret (.str R) []):=qbW hP hR (by simp) hRs
 generalize bs (qaj false (e.tx false 1))=r2 at *
 rw[<- hR]
 refine qaa (pf:=F263) rfl rfl ?_
 simp[F263,qah,z2,za]
theorem qoy {f fb fc:Bool} {s:ByteArray} {x y:E} (gx:x.good) (gy:y.good) {T:List ByteArray} (hT:T=[s]++([⟨#[91]⟩]++(x.tx false 1++([⟨#[93]⟩]++([⟨#[61]⟩]++(y.tx false 1++([⟨#[59]⟩]++[]))))))) (hsz:(qaj false T).length<2 ^ 40) :
  Z tS (.call 263 [.dat (.agg [.lit (.int .i64 2),.lit (.int .i64 0),.lit (.string s),.sl [.lit (.int .i64 x.kind),.lit (.int .i64 x.num),.lit (.string x.str),x.kids,.lit (.int .i64 y.kind),.lit (.int .i64 y.num),.lit (.string y.str),y.kids] 2 f])] [])=some (.ret (.str (bs (qaj false T))) []):=by
 have q2:(qaj false (x.tx false 1)).length<2 ^ 40:=Nat.lt_of_le_of_lt (by
  have:=qad ([s]++([⟨#[91]⟩]++[])) (x.tx false 1) ([⟨#[93]⟩]++([⟨#[61]⟩]++(y.tx false 1++([⟨#[59]⟩]++[])))) false
  simp only[List.append_assoc,List.nil_append,List.append_nil] at this
  rw[hT]
  simp only[List.append_assoc,List.nil_append,List.append_nil]
  exact this) hsz
 have z2:=qga gx q2
 have q5:(qaj false (y.tx false 1)).length<2 ^ 40:=Nat.lt_of_le_of_lt (by
  have:=qad ([s]++([⟨#[91]⟩]++(x.tx false 1++([⟨#[93]⟩]++([⟨#[61]⟩]++[]))))) (y.tx false 1) ([⟨#[59]⟩]++[]) false
  simp only[List.append_assoc,List.nil_append,List.append_nil] at this
  rw[hT]
  simp only[List.append_assoc,List.nil_append,List.append_nil]
  exact this) hsz
 have z5:=qga gy q5
 obtain⟨R,hR⟩ : ∃ v,v=bs (qaj false T):=⟨_,rfl⟩
 have hRs:R.size<2 ^ 40:=by rw[hR,qam]; exact hsz
 have hP:Parts [s,⟨#[91]⟩,bs (qaj false (x.tx false 1)),⟨#[93]⟩,⟨#[61]⟩,bs (qaj false (y.tx false 1)),⟨#[59]⟩] T:=by rw[hT]; exact (.tok (.tok (.sub (qaO false gx 1) (.tok (.tok (.sub (qaO false gy 1) (.tok .nil)))))))
 have za:Z tS (.call 247 [.dat (.sl [.lit (.string s),.lit (.string ⟨#[91]⟩),.lit (.string (bs (qaj false (x.tx false 1)))),.lit (.string ⟨#[93]⟩),.lit (.string ⟨#[61]⟩),.lit (.string (bs (qaj false (y.tx false 1)))),.lit (.string ⟨#[59]⟩)] 7 true)] [])=some (.ret (.str R) []):=qbW hP hR (by simp) hRs
 generalize bs (qaj false (x.tx false 1))=r2 at *
 generalize bs (qaj false (y.tx false 1))=r5 at *
 rw[<- hR]
 refine qaa (pf:=F263) rfl rfl ?_
 simp[F263,qah,z2,z5,za]
theorem qmZ {f fb fc:Bool} {x y:E} (gx:x.good) (gy:y.good) {T:List ByteArray} (hT:T=[⟨#[101,102,102,101,99,116]⟩]++(x.tx false 1++([⟨#[44]⟩]++(y.tx false 1++([⟨#[59]⟩]++[]))))) (hsz:(qaj false T).length<2 ^ 40) :
  Z tS (.call 263 [.dat (.agg [.lit (.int .i64 5),.lit (.int .i64 0),.lit (.string ⟨#[]⟩),.sl [.lit (.int .i64 x.kind),.lit (.int .i64 x.num),.lit (.string x.str),x.kids,.lit (.int .i64 y.kind),.lit (.int .i64 y.num),.lit (.string y.str),y.kids] 2 f])] [])=some (.ret (.str (bs (qaj false T))) []):=by
 have q1:(qaj false (x.tx false 1)).length<2 ^ 40:=Nat.lt_of_le_of_lt (by
  have:=qad ([⟨#[101,102,102,101,99,116]⟩]++[]) (x.tx false 1) ([⟨#[44]⟩]++(y.tx false 1++([⟨#[59]⟩]++[]))) false
  simp only[List.append_assoc,List.nil_append,List.append_nil] at this
  rw[hT]
  simp only[List.append_assoc,List.nil_append,List.append_nil]
  exact this) hsz
 have z1:=qga gx q1
 have q3:(qaj false (y.tx false 1)).length<2 ^ 40:=Nat.lt_of_le_of_lt (by
  have:=qad ([⟨#[101,102,102,101,99,116]⟩]++(x.tx false 1++([⟨#[44]⟩]++[]))) (y.tx false 1) ([⟨#[59]⟩]++[]) false
  simp only[List.append_assoc,List.nil_append,List.append_nil] at this
  rw[hT]
  simp only[List.append_assoc,List.nil_append,List.append_nil]
  exact this) hsz
 have z3:=qga gy q3
 obtain⟨R,hR⟩ : ∃ v,v=bs (qaj false T):=⟨_,rfl⟩
 have hRs:R.size<2 ^ 40:=by rw[hR,qam]; exact hsz
 have hP:Parts [⟨#[101,102,102,101,99,116]⟩,bs (qaj false (x.tx false 1)),⟨#[44]⟩,bs (qaj false (y.tx false 1)),⟨#[59]⟩] T:=by rw[hT]; exact (.tok (.sub (qaO false gx 1) (.tok (.sub (qaO false gy 1) (.tok .nil)))))
 have za:Z tS (.call 247 [.dat (.sl [.lit (.string ⟨#[101,102,102,101,99,116]⟩),.lit (.string (bs (qaj false (x.tx false 1)))),.lit (.string ⟨#[44]⟩),.lit (.string (bs (qaj false (y.tx false 1)))),.lit (.string ⟨#[59]⟩)] 5 true)] [])=some (.ret (.str R) []):=qbW hP hR (by simp) hRs
 generalize bs (qaj false (x.tx false 1))=r1 at *
 generalize bs (qaj false (y.tx false 1))=r3 at *
 rw[<- hR]
 refine qaa (pf:=F263) rfl rfl ?_
 simp[F263,qah,z1,z3,za]
theorem qoz {f fb fc:Bool} {c:E} {p:Ss} (gc:c.good) (hb:qdv p) {T:List ByteArray} (hT:T=[⟨#[119,104,105,108,101]⟩]++(c.tx false 1++(p.btx++[]))) (hsz:(qaj false T).length<2 ^ 40) :
  Z tS (.call 263 [.dat (.agg [.lit (.int .i64 4),.lit (.int .i64 0),.lit (.string ⟨#[]⟩),.sl [.lit (.int .i64 c.kind),.lit (.int .i64 c.num),.lit (.string c.str),c.kids,.lit (.int .i64 7),.lit (.int .i64 0),.lit (.string ⟨#[]⟩),kd fb p.fo.len p.fo.cells] 2 f])] [])=some (.ret (.str (bs (qaj false T))) []):=by
 have q1:(qaj false (c.tx false 1)).length<2 ^ 40:=Nat.lt_of_le_of_lt (by
  have:=qad ([⟨#[119,104,105,108,101]⟩]++[]) (c.tx false 1) (p.btx++[]) false
  simp only[List.append_assoc,List.nil_append,List.append_nil] at this
  rw[hT]
  simp only[List.append_assoc,List.nil_append,List.append_nil]
  exact this) hsz
 have z1:=qga gc q1
 have q2:(qaj false (p.btx)).length<2 ^ 40:=Nat.lt_of_le_of_lt (by
  have:=qad ([⟨#[119,104,105,108,101]⟩]++(c.tx false 1++[])) (p.btx) ([]) false
  simp only[List.append_assoc,List.nil_append,List.append_nil] at this
  rw[hT]
  simp only[List.append_assoc,List.nil_append,List.append_nil]
  exact this) hsz
 have z2:=hb.2 7 0 ⟨#[]⟩ fb q2
 obtain⟨R,hR⟩ : ∃ v,v=bs (qaj false T):=⟨_,rfl⟩
 have hRs:R.size<2 ^ 40:=by rw[hR,qam]; exact hsz
 have hP:Parts [⟨#[119,104,105,108,101]⟩,bs (qaj false (c.tx false 1)),bs (qaj false (p.btx))] T:=by rw[hT]; exact (.tok (.sub (qaO false gc 1) (.sub (qdX hb.1) .nil)))
 have za:Z tS (.call 247 [.dat (.sl [.lit (.string ⟨#[119,104,105,108,101]⟩),.lit (.string (bs (qaj false (c.tx false 1)))),.lit (.string (bs (qaj false (p.btx))))] 3 true)] [])=some (.ret (.str R) []):=qbW hP hR (by simp) hRs
 generalize bs (qaj false (c.tx false 1))=r1 at *
 generalize bs (qaj false (p.btx))=r2 at *
 rw[<- hR]
 refine qaa (pf:=F263) rfl rfl ?_
 simp[F263,qah,z1,z2,za]
theorem qse {f fb fc:Bool} {c:E} {p q:Ss} (gc:c.good) (hb:qdv p) (hq:q.fo.len=0) {T:List ByteArray} (hT:T=[⟨#[105,102]⟩]++(c.tx false 1++(p.btx++[]))) (hsz:(qaj false T).length<2 ^ 40) :
  Z tS (.call 263 [.dat (.agg [.lit (.int .i64 3),.lit (.int .i64 0),.lit (.string ⟨#[]⟩),.sl [.lit (.int .i64 c.kind),.lit (.int .i64 c.num),.lit (.string c.str),c.kids,.lit (.int .i64 7),.lit (.int .i64 0),.lit (.string ⟨#[]⟩),kd fb p.fo.len p.fo.cells,.lit (.int .i64 7),.lit (.int .i64 0),.lit (.string ⟨#[]⟩),kd fc q.fo.len q.fo.cells] 3 f])] [])=some (.ret (.str (bs (qaj false T))) []):=by
 have q1:(qaj false (c.tx false 1)).length<2 ^ 40:=Nat.lt_of_le_of_lt (by
  have:=qad ([⟨#[105,102]⟩]++[]) (c.tx false 1) (p.btx++[]) false
  simp only[List.append_assoc,List.nil_append,List.append_nil] at this
  rw[hT]
  simp only[List.append_assoc,List.nil_append,List.append_nil]
  exact this) hsz
 have z1:=qga gc q1
 have q2:(qaj false (p.btx)).length<2 ^ 40:=Nat.lt_of_le_of_lt (by
  have:=qad ([⟨#[105,102]⟩]++(c.tx false 1++[])) (p.btx) ([]) false
  simp only[List.append_assoc,List.nil_append,List.append_nil] at this
  rw[hT]
  simp only[List.append_assoc,List.nil_append,List.append_nil]
  exact this) hsz
 have z2:=hb.2 7 0 ⟨#[]⟩ fb q2
 obtain⟨R,hR⟩ : ∃ v,v=bs (qaj false T):=⟨_,rfl⟩
 have hRs:R.size<2 ^ 40:=by rw[hR,qam]; exact hsz
 have hP:Parts [⟨#[105,102]⟩,bs (qaj false (c.tx false 1)),bs (qaj false (p.btx))] T:=by rw[hT]; exact (.tok (.sub (qaO false gc 1) (.sub (qdX hb.1) .nil)))
 have za:Z tS (.call 247 [.dat (.sl [.lit (.string ⟨#[105,102]⟩),.lit (.string (bs (qaj false (c.tx false 1)))),.lit (.string (bs (qaj false (p.btx))))] 3 true)] [])=some (.ret (.str R) []):=qbW hP hR (by simp) hRs
 generalize bs (qaj false (c.tx false 1))=r1 at *
 generalize bs (qaj false (p.btx))=r2 at *
 rw[<- hR]
 have hq1 : ∀ cs,kd fc q.fo.len cs = .lit (.slice none 0 0):=fun cs=>by rw[hq]; rfl
 simp only[hq1]
 refine qaa (pf:=F263) rfl rfl ?_
 simp[F263,qah,z1,z2,za,qqy]
theorem qsf {f fb fc:Bool} {c:E} {p q:Ss} (gc:c.good) (hb:qdv p) (hq:0<q.fo.len) (hd:qdv q) {T:List ByteArray} (hT:T=[⟨#[105,102]⟩]++(c.tx false 1++(p.btx++([⟨#[101,108,115,101]⟩]++(q.btx++[]))))) (hsz:(qaj false T).length<2 ^ 40) :
  Z tS (.call 263 [.dat (.agg [.lit (.int .i64 3),.lit (.int .i64 0),.lit (.string ⟨#[]⟩),.sl [.lit (.int .i64 c.kind),.lit (.int .i64 c.num),.lit (.string c.str),c.kids,.lit (.int .i64 7),.lit (.int .i64 0),.lit (.string ⟨#[]⟩),kd fb p.fo.len p.fo.cells,.lit (.int .i64 7),.lit (.int .i64 0),.lit (.string ⟨#[]⟩),kd fc q.fo.len q.fo.cells] 3 f])] [])=some (.ret (.str (bs (qaj false T))) []):=by
 have q1:(qaj false (c.tx false 1)).length<2 ^ 40:=Nat.lt_of_le_of_lt (by
  have:=qad ([⟨#[105,102]⟩]++[]) (c.tx false 1) (p.btx++([⟨#[101,108,115,101]⟩]++(q.btx++[]))) false
  simp only[List.append_assoc,List.nil_append,List.append_nil] at this
  rw[hT]
  simp only[List.append_assoc,List.nil_append,List.append_nil]
  exact this) hsz
 have z1:=qga gc q1
 have q2:(qaj false (p.btx)).length<2 ^ 40:=Nat.lt_of_le_of_lt (by
  have:=qad ([⟨#[105,102]⟩]++(c.tx false 1++[])) (p.btx) ([⟨#[101,108,115,101]⟩]++(q.btx++[])) false
  simp only[List.append_assoc,List.nil_append,List.append_nil] at this
  rw[hT]
  simp only[List.append_assoc,List.nil_append,List.append_nil]
  exact this) hsz
 have z2:=hb.2 7 0 ⟨#[]⟩ fb q2
 have q4:(qaj false (q.btx)).length<2 ^ 40:=Nat.lt_of_le_of_lt (by
  have:=qad ([⟨#[105,102]⟩]++(c.tx false 1++(p.btx++([⟨#[101,108,115,101]⟩]++[])))) (q.btx) ([]) false
  simp only[List.append_assoc,List.nil_append,List.append_nil] at this
  rw[hT]
  simp only[List.append_assoc,List.nil_append,List.append_nil]
  exact this) hsz
 have z4:=hd.2 7 0 ⟨#[]⟩ fc q4
 obtain⟨R,hR⟩ : ∃ v,v=bs (qaj false T):=⟨_,rfl⟩
 have hRs:R.size<2 ^ 40:=by rw[hR,qam]; exact hsz
 obtain⟨T1,hT1⟩ : ∃ v,v=[⟨#[105,102]⟩]++(c.tx false 1++(p.btx++[])):=⟨_,rfl⟩
 have hT2:T=T1++([⟨#[101,108,115,101]⟩]++(q.btx++[])):=by rw[hT,hT1]; simp only[List.append_assoc,List.nil_append,List.append_nil]
 have s1:(qaj false T1).length<2 ^ 40:=Nat.lt_of_le_of_lt (by
  have:=qad [] T1 ([⟨#[101,108,115,101]⟩]++(q.btx++[])) false
  rw[List.nil_append] at this
  rw[hT2]
  exact this) hsz
 obtain⟨R1,hR1⟩ : ∃ v,v=bs (qaj false T1):=⟨_,rfl⟩
 have hR1s:R1.size<2 ^ 40:=by rw[hR1,qam]; exact s1
 have n1 : ∀ t∈T1,t.size≠0:=by
  rw[hT1]
  exact qeG (qiJ (by decide)) (qeG (qaO false gc 1) (qeG (qdX hb.1) qdo))
 have hP1:Parts [⟨#[105,102]⟩,bs (qaj false (c.tx false 1)),bs (qaj false (p.btx))] T1:=by rw[hT1]; exact (.tok (.sub (qaO false gc 1) (.sub (qdX hb.1) .nil)))
 have za:Z tS (.call 247 [.dat (.sl [.lit (.string ⟨#[105,102]⟩),.lit (.string (bs (qaj false (c.tx false 1)))),.lit (.string (bs (qaj false (p.btx))))] 3 true)] [])=some (.ret (.str R1) []):=qbW hP1 hR1 (by simp) hR1s
 have hP2:Parts [R1,⟨#[101,108,115,101]⟩,bs (qaj false (q.btx))] T:=by rw[hT2,hR1]; exact .sub n1 (.tok (.sub (qdX hd.1) .nil))
 have zb:Z tS (.call 247 [.dat (.sl [.lit (.string R1),.lit (.string ⟨#[101,108,115,101]⟩),.lit (.string (bs (qaj false (q.btx))))] 3 true)] [])=some (.ret (.str R) []):=qbW hP2 hR (by simp) hRs
 generalize bs (qaj false (c.tx false 1))=r1 at *
 generalize bs (qaj false (p.btx))=r2 at *
 generalize bs (qaj false (q.btx))=r4 at *
 rw[<- hR]
 have hq1:(0:Int)<q.fo.len:=by omega
 refine qaa (pf:=F263) rfl rfl ?_
 simp[F263,qah,z1,z2,z4,za,zb,hq1,hq]
theorem qqu {d:D} (hd:V.one (.dat d)=true) (hcl:V.cells (.dat d)=[.dat d]) :
  Z tS (.call 263 [.dat (.agg [.lit (.int .i64 6),.lit (.int .i64 0),.lit (.string ⟨#[]⟩),d])] [])=some (.ret (.str (bs (qaj false [⟨#[115,116,111,112]⟩,⟨#[59]⟩]))) []):=by
 have e:bs (qaj false [⟨#[115,116,111,112]⟩,⟨#[59]⟩])=⟨#[115,116,111,112,59]⟩:=by decide
 rw[e]
 refine qaa (pf:=F263) rfl rfl ?_
 simp[F263,hd,hcl]
end Go.Pm
end SSc
