/- Chapter 13's reference printer: expressions. Chapter 13's reference printer: statements, each kind. -/
import Derived.Test.YtjdbkncfebebnaaDoorPmOj
import Derived.Test.YtjdbkncfebebnaaDoorPmFx
import Derived.Test.YtjdbkncfebebnaaDoorPmYh
set_option linter.unusedSimpArgs false
set_option linter.unusedVariables false
section SSb
namespace Go.Pm
open F
set_option maxHeartbeats 8000000
theorem qcI (e:E):Z tS (.call 261 [e.node] [])=some (.ret (.int e.lev) []):=by
 refine Z_call (pf:=F261) rfl rfl ?_
 cases e with
 | un f neg e=>cases neg<;>simp[F261,E.lev,qb9,ustr,qa0]
 | bin f o a b=>cases o<;>simp[F261,E.lev,Bop.prec,Bop.str,qa0]
 | _=>simp[F261,E.lev]
inductive Parts:List ByteArray->List ByteArray->Prop
 | nil:Parts [] []
 | tok {t:ByteArray} {l ts:List ByteArray} (h:Parts l ts):Parts (t::l) (t::ts)
 | sub {a l ts:List ByteArray} (ha : ∀ t∈a,t.size≠0) (h:Parts l ts):Parts (bs (qah false a)::l) (a++ts)
theorem qqr {l ts:List ByteArray} (h:Parts l ts) : ∀ w,pw w l=pw w ts:=by
 induction h with
 | nil=>intro w; rfl
 | tok h ih=>intro w; rw[qcM,qcM,ih]
 | sub ha h ih=>intro w; rw[qma w ha,qao,qao,ih]
theorem qce {l ts:List ByteArray} {R:ByteArray} (hp:Parts l ts) (hR:R=bs (qah false ts)) (hn:l.length<2 ^ 30) (hsz:R.size<2 ^ 40):Z tS (.call 247 [.dat (.sl (strC l) l.length true)] [])=some (.ret (.str R) []):=
 qxB true (by rw[hR,qqr hp,qd4]) hn hsz
theorem qgi (ts:List ByteArray) (p:Bool):(qah false ts).length<=(qah p ts).length:=by
 cases ts with
 | nil=>simp[qah]
 | cons t ts=>
  simp only[qah,List.length_append]
  have:(gap false t).length=0:=rfl
  cases hb:byl t with
  | nil=>
   have e : ∀ q,qbw q t=q:=fun q=>by unfold qbw; rw[hb]; rfl
   rw[e,e]
   have:=qgi ts p
   simp[gap]
   omega
  | cons c r=>
   have e:qbw p t=qbw false t:=by
    unfold qbw
    cases hl:(byl t).getLast? with
    | none=>rw[List.getLast?_eq_none_iff] at hl; rw[hl] at hb; cases hb
    | some c=>rfl
   rw[e]
   omega
theorem qae (a b c:List ByteArray) (p:Bool):(qah false b).length<=(qah p (a++(b++c))).length:=by
 rw[qfm,qfm,List.length_append,List.length_append]
 have:=qgi b (qoD p a)
 omega
theorem qdO (ts:List ByteArray):qah false (bs [40]::(ts++[bs [41]]))=40::(qah false ts++[41]):=by
 have e1:qbw false (bs [40])=false:=by decide
 have g1:gap false (bs [40])=[]:=rfl
 have g2 : ∀ q,gap q (bs [41])=[]:=fun q=>by cases q<;>decide
 rw[qah,e1,g1,qfm,qah,g2]
 simp[qah,qa2]
def qbB (e:E) (full:Bool) (p:Nat) (i:Int):Prop:=(qah false (e.tx full p)).length<2 ^ 40->Z tS (.call 246 [e.node,.int i,.bool full] [])=some (.ret (.str (bs (qah false (e.tx full p)))) [])
theorem qaV (full:Bool) {e:E} (h:e.good) (p:Nat) : ∀ t∈e.tx full p,t.size≠0:=fun t ht=>qeD (qji (qhW full e h p).ok t ht)
theorem qu2 {full:Bool} {n:Int} (h0:0<=n) (h1:n<=2147483647) {p:Nat} {i:Int} (hi:i=p) (hp:p<=8):qbB (E.int n) full p i:=by
 intro hsz
 have zl:Z tS (.call 261 [.dat (.agg [.lit (.int .i64 8),.lit (.int .i64 n),.lit (.string ⟨#[]⟩),.lit (.slice none 0 0)])] [])=some (.ret (.int 8) []):=qcI (.int n)
 have hc : ¬ (8:Int)<i:=by omega
 have hq : ¬ 8<p:=by omega
 have f0:Z tS (.call 20 [.int n] [])=some (.ret (.str (bs (decB n.toNat))) []):=by
  have:=qow (n:=n.toNat) (by omega)
  rw[show ((n.toNat:Nat):Int)=n by omega] at this
  exact this
 have htx:(E.int n).tx full p=[bs (decB n.toNat)]:=by simp[E.tx,qa1,qb9,ustr,bs,qaX,qbM,Bop.left]
 have hfin:bs (qah false ((E.int n).tx full p))=(bs (decB n.toNat)):=by
  rw[htx,qah,qah,List.append_nil]
  exact qcW (bs (decB n.toNat))
 rw[hfin]
 clear hfin htx hsz
 refine Z_call (pf:=F246) rfl rfl ?_
 cases full<;>simp[F246,qaf,zl,hc,f0]
theorem qqs {full:Bool}  {p:Nat} {i:Int} (hi:i=p) (hp:p<=8):qbB (E.bool 0) full p i:=by
 intro hsz
 have zl:Z tS (.call 261 [.dat (.agg [.lit (.int .i64 9),.lit (.int .i64 0),.lit (.string ⟨#[]⟩),.lit (.slice none 0 0)])] [])=some (.ret (.int 8) []):=qcI (.bool 0)
 have hc : ¬ (8:Int)<i:=by omega
 have hq : ¬ 8<p:=by omega
 have htx:(E.bool 0).tx full p=[⟨#[102,97,108,115,101]⟩]:=by simp[E.tx,qa1,qb9,ustr,bs,qaX,qbM,Bop.left]
 have hfin:bs (qah false ((E.bool 0).tx full p))=(⟨#[102,97,108,115,101]⟩):=by
  rw[htx,qah,qah,List.append_nil]
  exact qcW (⟨#[102,97,108,115,101]⟩)
 rw[hfin]
 clear hfin htx hsz
 refine Z_call (pf:=F246) rfl rfl ?_
 cases full<;>simp[F246,qaf,zl,hc]
theorem qqt {full:Bool}  {p:Nat} {i:Int} (hi:i=p) (hp:p<=8):qbB (E.bool 1) full p i:=by
 intro hsz
 have zl:Z tS (.call 261 [.dat (.agg [.lit (.int .i64 9),.lit (.int .i64 1),.lit (.string ⟨#[]⟩),.lit (.slice none 0 0)])] [])=some (.ret (.int 8) []):=qcI (.bool 1)
 have hc : ¬ (8:Int)<i:=by omega
 have hq : ¬ 8<p:=by omega
 have htx:(E.bool 1).tx full p=[⟨#[116,114,117,101]⟩]:=by simp[E.tx,qa1,qb9,ustr,bs,qaX,qbM,Bop.left]
 have hfin:bs (qah false ((E.bool 1).tx full p))=(⟨#[116,114,117,101]⟩):=by
  rw[htx,qah,qah,List.append_nil]
  exact qcW (⟨#[116,114,117,101]⟩)
 rw[hfin]
 clear hfin htx hsz
 refine Z_call (pf:=F246) rfl rfl ?_
 cases full<;>simp[F246,qaf,zl,hc]
theorem qu3 {full:Bool} {s:ByteArray} {p:Nat} {i:Int} (hi:i=p) (hp:p<=8):qbB (E.var s) full p i:=by
 intro hsz
 have zl:Z tS (.call 261 [.dat (.agg [.lit (.int .i64 10),.lit (.int .i64 0),.lit (.string s),.lit (.slice none 0 0)])] [])=some (.ret (.int 8) []):=qcI (.var s)
 have hc : ¬ (8:Int)<i:=by omega
 have hq : ¬ 8<p:=by omega
 have htx:(E.var s).tx full p=[s]:=by simp[E.tx,qa1,qb9,ustr,bs,qaX,qbM,Bop.left]
 have hfin:bs (qah false ((E.var s).tx full p))=(s):=by
  rw[htx,qah,qah,List.append_nil]
  exact qcW (s)
 rw[hfin]
 clear hfin htx hsz
 refine Z_call (pf:=F246) rfl rfl ?_
 cases full<;>simp[F246,qaf,zl,hc]
theorem qsH {full:Bool} {s:ByteArray} {p:Nat} {i:Int} (hi:i=p) (hp:p<=8):qbB (E.name s) full p i:=by
 intro hsz
 have zl:Z tS (.call 261 [.dat (.agg [.lit (.int .i64 12),.lit (.int .i64 0),.lit (.string s),.lit (.slice none 0 0)])] [])=some (.ret (.int 8) []):=qcI (.name s)
 have hc : ¬ (8:Int)<i:=by omega
 have hq : ¬ 8<p:=by omega
 have htx:(E.name s).tx full p=[s]:=by simp[E.tx,qa1,qb9,ustr,bs,qaX,qbM,Bop.left]
 have hfin:bs (qah false ((E.name s).tx full p))=(s):=by
  rw[htx,qah,qah,List.append_nil]
  exact qcW (s)
 rw[hfin]
 clear hfin htx hsz
 refine Z_call (pf:=F246) rfl rfl ?_
 cases full<;>simp[F246,qaf,zl,hc]
theorem qqu {full:Bool} {f:Bool} {s:ByteArray} {e:E} (ge:e.good) (he:qbB e full 1 1) {p:Nat} {i:Int} (hi:i=p) (hp:p<=8):qbB (E.field f s e) full p i:=by
 intro hsz
 have zl:Z tS (.call 261 [.dat (.agg [.lit (.int .i64 11),.lit (.int .i64 0),.lit (.string s),.sl [.lit (.int .i64 e.kind),.lit (.int .i64 e.num),.lit (.string e.str),e.kids] 1 f])] [])=some (.ret (.int 8) []):=qcI (.field f s e)
 have hc : ¬ (8:Int)<i:=by omega
 have hq : ¬ 8<p:=by omega
 obtain⟨inn,hinn⟩ : ∃ v,v=[s]++([⟨#[91]⟩]++(e.tx full 1++([⟨#[93]⟩]++[]))):=⟨_,rfl⟩
 have htx:(E.field f s e).tx full p=inn:=by
  rw[hinn]
  simp[E.tx,qa1,qb9,ustr,bs,qaX,qbM,Bop.left,hq]
 rw[htx] at hsz ⊢
 have hin:=hsz
 have z2:=he (Nat.lt_of_le_of_lt (by
  have:=qae ([s]++([⟨#[91]⟩])) (e.tx full 1) ([⟨#[93]⟩]++[]) false
  try simp only[List.append_assoc,List.nil_append] at this
  rw[hinn]
  exact this) hin)
 have hP:Parts [s,⟨#[91]⟩,bs (qah false (e.tx full 1)),⟨#[93]⟩] inn:=by rw[hinn]; exact (.tok (.tok (.sub (qaV full ge 1) (.tok .nil))))
 obtain⟨R,hR⟩ : ∃ v,v=bs (qah false inn):=⟨_,rfl⟩
 have hRs:R.size<2 ^ 40:=by rw[hR,qal]; exact hin
 have za:Z tS (.call 247 [.dat (.sl [.lit (.string s),.lit (.string ⟨#[91]⟩),.lit (.string (bs (qah false (e.tx full 1)))),.lit (.string ⟨#[93]⟩)] 4 true)] [])=some (.ret (.str R) []):=qce hP hR (by simp) hRs
 generalize bs (qah false (e.tx full 1))=r2 at *
 rw[<- hR]
 clear hP hR hinn htx hsz hin
 refine Z_call (pf:=F246) rfl rfl ?_
 cases full<;>simp[F246,qaf,zl,hc,z2,za]
theorem qu4 {f:Bool} {e:E} (ge:e.good) (he:qbB e false 7 7) {p:Nat} {i:Int} (hi:i=p) (hp:p<=7):qbB (E.un f true e) false p i:=by
 intro hsz
 have zl:Z tS (.call 261 [.dat (.agg [.lit (.int .i64 13),.lit (.int .i64 0),.lit (.string ⟨#[45]⟩),.sl [.lit (.int .i64 e.kind),.lit (.int .i64 e.num),.lit (.string e.str),e.kids] 1 f])] [])=some (.ret (.int 7) []):=qcI (.un f true e)
 have hc : ¬ (7:Int)<i:=by omega
 have hq : ¬ 7<p:=by omega
 obtain⟨inn,hinn⟩ : ∃ v,v=[⟨#[45]⟩]++(e.tx false 7++[]):=⟨_,rfl⟩
 have htx:(E.un f true e).tx false p=inn:=by
  rw[hinn]
  simp[E.tx,qa1,qb9,ustr,bs,qaX,qbM,Bop.left,hq]
 rw[htx] at hsz ⊢
 have hin:=hsz
 have z1:=he (Nat.lt_of_le_of_lt (by
  have:=qae ([⟨#[45]⟩]) (e.tx false 7) ([]) false
  try simp only[List.append_assoc,List.nil_append] at this
  rw[hinn]
  exact this) hin)
 have hP:Parts [⟨#[45]⟩,bs (qah false (e.tx false 7))] inn:=by rw[hinn]; exact (.tok (.sub (qaV false ge 7) .nil))
 obtain⟨R,hR⟩ : ∃ v,v=bs (qah false inn):=⟨_,rfl⟩
 have hRs:R.size<2 ^ 40:=by rw[hR,qal]; exact hin
 have za:Z tS (.call 247 [.dat (.sl [.lit (.string ⟨#[45]⟩),.lit (.string (bs (qah false (e.tx false 7))))] 2 true)] [])=some (.ret (.str R) []):=qce hP hR (by simp) hRs
 generalize bs (qah false (e.tx false 7))=r1 at *
 rw[<- hR]
 clear hP hR hinn htx hsz hin
 refine Z_call (pf:=F246) rfl rfl ?_
 simp[F246,qaf,zl,hc,z1,za,ustr]
theorem qsI {f:Bool} {e:E} (ge:e.good) (he:qbB e false 7 7) {p:Nat} {i:Int} (hi:i=p) (hp:7<p):qbB (E.un f true e) false p i:=by
 intro hsz
 have zl:Z tS (.call 261 [.dat (.agg [.lit (.int .i64 13),.lit (.int .i64 0),.lit (.string ⟨#[45]⟩),.sl [.lit (.int .i64 e.kind),.lit (.int .i64 e.num),.lit (.string e.str),e.kids] 1 f])] [])=some (.ret (.int 7) []):=qcI (.un f true e)
 have hc:(7:Int)<i:=by omega
 have hq:7<p:=hp
 obtain⟨inn,hinn⟩ : ∃ v,v=[⟨#[45]⟩]++(e.tx false 7++[]):=⟨_,rfl⟩
 have htx:(E.un f true e).tx false p=bs [40]::(inn++[bs [41]]):=by
  rw[hinn]
  simp[E.tx,qa1,qb9,ustr,bs,qaX,qbM,Bop.left,hq]
 rw[htx] at hsz ⊢
 rw[qdO] at hsz ⊢
 have hin:(qah false inn).length<2 ^ 40:=by simp at hsz; omega
 have hin2:(qah false inn).length+2<2 ^ 40:=by simp at hsz; omega
 have z1:=he (Nat.lt_of_le_of_lt (by
  have:=qae ([⟨#[45]⟩]) (e.tx false 7) ([]) false
  try simp only[List.append_assoc,List.nil_append] at this
  rw[hinn]
  exact this) hin)
 have hP:Parts [⟨#[45]⟩,bs (qah false (e.tx false 7))] inn:=by rw[hinn]; exact (.tok (.sub (qaV false ge 7) .nil))
 obtain⟨R,hR⟩ : ∃ v,v=bs (qah false inn):=⟨_,rfl⟩
 have hRs:R.size<2 ^ 40:=by rw[hR,qal]; exact hin
 have za:Z tS (.call 247 [.dat (.sl [.lit (.string ⟨#[45]⟩),.lit (.string (bs (qah false (e.tx false 7))))] 2 true)] [])=some (.ret (.str R) []):=qce hP hR (by simp) hRs
 generalize bs (qah false (e.tx false 7))=r1 at *
 have hfin:bs (40::(qah false inn++[41]))=⟨#[40]⟩++R++⟨#[41]⟩:=by
  rw[qcj,qcj ⟨#[40]⟩,qa2,hR,qa2]
  simp[byl]
 rw[hfin]
 have hRl:R.size+2<2 ^ 40:=by rw[hR,qal]; exact hin2
 have y1:((⟨#[40]⟩:ByteArray).size:Int)=1:=rfl
 have y2:((⟨#[41]⟩:ByteArray).size:Int)=1:=rfl
 have y3:(⟨#[40]⟩:ByteArray).size=1:=rfl
 have y4:(⟨#[41]⟩:ByteArray).size=1:=rfl
 have y5 : ¬ (9223372036854775807:Int)<1+(R.size:Int):=by omega
 have y6 : ¬ (9223372036854775807:Int)<1+(R.size:Int)+1:=by omega
 have y7:(⟨#[40]⟩++R:ByteArray).size=1+R.size:=by rw[ByteArray.size_append]; rfl
 clear hP hR hinn htx hsz hin hin2 hfin
 refine Z_call (pf:=F246) rfl rfl ?_
 simp[F246,qaf,zl,hc,y1,y2,y3,y4,y5,y6,y7,z1,za,ustr]
theorem qu5 {f:Bool} {e:E} (ge:e.good) (he:qbB e false 3 3) {p:Nat} {i:Int} (hi:i=p) (hp:p<=3):qbB (E.un f false e) false p i:=by
 intro hsz
 have zl:Z tS (.call 261 [.dat (.agg [.lit (.int .i64 13),.lit (.int .i64 0),.lit (.string ⟨#[33]⟩),.sl [.lit (.int .i64 e.kind),.lit (.int .i64 e.num),.lit (.string e.str),e.kids] 1 f])] [])=some (.ret (.int 3) []):=qcI (.un f false e)
 have hc : ¬ (3:Int)<i:=by omega
 have hq : ¬ 3<p:=by omega
 obtain⟨inn,hinn⟩ : ∃ v,v=[⟨#[33]⟩]++(e.tx false 3++[]):=⟨_,rfl⟩
 have htx:(E.un f false e).tx false p=inn:=by
  rw[hinn]
  simp[E.tx,qa1,qb9,ustr,bs,qaX,qbM,Bop.left,hq]
 rw[htx] at hsz ⊢
 have hin:=hsz
 have z1:=he (Nat.lt_of_le_of_lt (by
  have:=qae ([⟨#[33]⟩]) (e.tx false 3) ([]) false
  try simp only[List.append_assoc,List.nil_append] at this
  rw[hinn]
  exact this) hin)
 have hP:Parts [⟨#[33]⟩,bs (qah false (e.tx false 3))] inn:=by rw[hinn]; exact (.tok (.sub (qaV false ge 3) .nil))
 obtain⟨R,hR⟩ : ∃ v,v=bs (qah false inn):=⟨_,rfl⟩
 have hRs:R.size<2 ^ 40:=by rw[hR,qal]; exact hin
 have za:Z tS (.call 247 [.dat (.sl [.lit (.string ⟨#[33]⟩),.lit (.string (bs (qah false (e.tx false 3))))] 2 true)] [])=some (.ret (.str R) []):=qce hP hR (by simp) hRs
 generalize bs (qah false (e.tx false 3))=r1 at *
 rw[<- hR]
 clear hP hR hinn htx hsz hin
 refine Z_call (pf:=F246) rfl rfl ?_
 simp[F246,qaf,zl,hc,z1,za,ustr]
theorem qsJ {f:Bool} {e:E} (ge:e.good) (he:qbB e false 3 3) {p:Nat} {i:Int} (hi:i=p) (hp:3<p):qbB (E.un f false e) false p i:=by
 intro hsz
 have zl:Z tS (.call 261 [.dat (.agg [.lit (.int .i64 13),.lit (.int .i64 0),.lit (.string ⟨#[33]⟩),.sl [.lit (.int .i64 e.kind),.lit (.int .i64 e.num),.lit (.string e.str),e.kids] 1 f])] [])=some (.ret (.int 3) []):=qcI (.un f false e)
 have hc:(3:Int)<i:=by omega
 have hq:3<p:=hp
 obtain⟨inn,hinn⟩ : ∃ v,v=[⟨#[33]⟩]++(e.tx false 3++[]):=⟨_,rfl⟩
 have htx:(E.un f false e).tx false p=bs [40]::(inn++[bs [41]]):=by
  rw[hinn]
  simp[E.tx,qa1,qb9,ustr,bs,qaX,qbM,Bop.left,hq]
 rw[htx] at hsz ⊢
 rw[qdO] at hsz ⊢
 have hin:(qah false inn).length<2 ^ 40:=by simp at hsz; omega
 have hin2:(qah false inn).length+2<2 ^ 40:=by simp at hsz; omega
 have z1:=he (Nat.lt_of_le_of_lt (by
  have:=qae ([⟨#[33]⟩]) (e.tx false 3) ([]) false
  try simp only[List.append_assoc,List.nil_append] at this
  rw[hinn]
  exact this) hin)
 have hP:Parts [⟨#[33]⟩,bs (qah false (e.tx false 3))] inn:=by rw[hinn]; exact (.tok (.sub (qaV false ge 3) .nil))
 obtain⟨R,hR⟩ : ∃ v,v=bs (qah false inn):=⟨_,rfl⟩
 have hRs:R.size<2 ^ 40:=by rw[hR,qal]; exact hin
 have za:Z tS (.call 247 [.dat (.sl [.lit (.string ⟨#[33]⟩),.lit (.string (bs (qah false (e.tx false 3))))] 2 true)] [])=some (.ret (.str R) []):=qce hP hR (by simp) hRs
 generalize bs (qah false (e.tx false 3))=r1 at *
 have hfin:bs (40::(qah false inn++[41]))=⟨#[40]⟩++R++⟨#[41]⟩:=by
  rw[qcj,qcj ⟨#[40]⟩,qa2,hR,qa2]
  simp[byl]
 rw[hfin]
 have hRl:R.size+2<2 ^ 40:=by rw[hR,qal]; exact hin2
 have y1:((⟨#[40]⟩:ByteArray).size:Int)=1:=rfl
 have y2:((⟨#[41]⟩:ByteArray).size:Int)=1:=rfl
 have y3:(⟨#[40]⟩:ByteArray).size=1:=rfl
 have y4:(⟨#[41]⟩:ByteArray).size=1:=rfl
 have y5 : ¬ (9223372036854775807:Int)<1+(R.size:Int):=by omega
 have y6 : ¬ (9223372036854775807:Int)<1+(R.size:Int)+1:=by omega
 have y7:(⟨#[40]⟩++R:ByteArray).size=1+R.size:=by rw[ByteArray.size_append]; rfl
 clear hP hR hinn htx hsz hin hin2 hfin
 refine Z_call (pf:=F246) rfl rfl ?_
 simp[F246,qaf,zl,hc,y1,y2,y3,y4,y5,y6,y7,z1,za,ustr]
theorem qsK {f:Bool} {o:Bop} {a b:E} (hl:o.prec=1) (ga:a.good) (gb:b.good) (ha:qbB a false 1 1) (hb:qbB b false 2 2) {p:Nat} {i:Int} (hi:i=p) (hp:p<=1):qbB (E.bin f o a b) false p i:=by
 intro hsz
 have zl:Z tS (.call 261 [.dat (.agg [.lit (.int .i64 14),.lit (.int .i64 0),.lit (.string o.str),.sl [.lit (.int .i64 a.kind),.lit (.int .i64 a.num),.lit (.string a.str),a.kids,.lit (.int .i64 b.kind),.lit (.int .i64 b.num),.lit (.string b.str),b.kids] 2 f])] [])=some (.ret (.int 1) []):=by
  have:=qcI (.bin f o a b)
  rw[show E.lev (.bin f o a b)=1 from hl] at this
  exact this
 have hc : ¬ (1:Int)<i:=by omega
 have hq : ¬ 1<p:=by omega
 obtain⟨inn,hinn⟩ : ∃ v,v=a.tx false 1++([o.str]++(b.tx false 2++[])):=⟨_,rfl⟩
 have htx:(E.bin f o a b).tx false p=inn:=by
  rw[hinn]
  simp[E.tx,qa1,qb9,ustr,bs,qaX,qbM,Bop.left,hq,hl]
 rw[htx] at hsz ⊢
 have hin:=hsz
 have z0:=ha (Nat.lt_of_le_of_lt (by
  have:=qae ([]) (a.tx false 1) ([o.str]++(b.tx false 2++[])) false
  try simp only[List.append_assoc,List.nil_append] at this
  rw[hinn]
  exact this) hin)
 have z2:=hb (Nat.lt_of_le_of_lt (by
  have:=qae (a.tx false 1++([o.str])) (b.tx false 2) ([]) false
  try simp only[List.append_assoc,List.nil_append] at this
  rw[hinn]
  exact this) hin)
 have hP:Parts [bs (qah false (a.tx false 1)),o.str,bs (qah false (b.tx false 2))] inn:=by rw[hinn]; exact (.sub (qaV false ga 1) (.tok (.sub (qaV false gb 2) .nil)))
 obtain⟨R,hR⟩ : ∃ v,v=bs (qah false inn):=⟨_,rfl⟩
 have hRs:R.size<2 ^ 40:=by rw[hR,qal]; exact hin
 have za:Z tS (.call 247 [.dat (.sl [.lit (.string (bs (qah false (a.tx false 1)))),.lit (.string o.str),.lit (.string (bs (qah false (b.tx false 2))))] 3 true)] [])=some (.ret (.str R) []):=qce hP hR (by simp) hRs
 generalize bs (qah false (a.tx false 1))=r0 at *
 generalize bs (qah false (b.tx false 2))=r2 at *
 rw[<- hR]
 clear hP hR hinn htx hsz hin
 refine Z_call (pf:=F246) rfl rfl ?_
 simp[F246,qaf,zl,hc,z0,z2,za,qai 2 (by omega)]
theorem qqv {f:Bool} {o:Bop} {a b:E} (hl:o.prec=1) (ga:a.good) (gb:b.good) (ha:qbB a false 1 1) (hb:qbB b false 2 2) {p:Nat} {i:Int} (hi:i=p) (hp:1<p):qbB (E.bin f o a b) false p i:=by
 intro hsz
 have zl:Z tS (.call 261 [.dat (.agg [.lit (.int .i64 14),.lit (.int .i64 0),.lit (.string o.str),.sl [.lit (.int .i64 a.kind),.lit (.int .i64 a.num),.lit (.string a.str),a.kids,.lit (.int .i64 b.kind),.lit (.int .i64 b.num),.lit (.string b.str),b.kids] 2 f])] [])=some (.ret (.int 1) []):=by
  have:=qcI (.bin f o a b)
  rw[show E.lev (.bin f o a b)=1 from hl] at this
  exact this
 have hc:(1:Int)<i:=by omega
 have hq:1<p:=hp
 obtain⟨inn,hinn⟩ : ∃ v,v=a.tx false 1++([o.str]++(b.tx false 2++[])):=⟨_,rfl⟩
 have htx:(E.bin f o a b).tx false p=bs [40]::(inn++[bs [41]]):=by
  rw[hinn]
  simp[E.tx,qa1,qb9,ustr,bs,qaX,qbM,Bop.left,hq,hl]
 rw[htx] at hsz ⊢
 rw[qdO] at hsz ⊢
 have hin:(qah false inn).length<2 ^ 40:=by simp at hsz; omega
 have hin2:(qah false inn).length+2<2 ^ 40:=by simp at hsz; omega
 have z0:=ha (Nat.lt_of_le_of_lt (by
  have:=qae ([]) (a.tx false 1) ([o.str]++(b.tx false 2++[])) false
  try simp only[List.append_assoc,List.nil_append] at this
  rw[hinn]
  exact this) hin)
 have z2:=hb (Nat.lt_of_le_of_lt (by
  have:=qae (a.tx false 1++([o.str])) (b.tx false 2) ([]) false
  try simp only[List.append_assoc,List.nil_append] at this
  rw[hinn]
  exact this) hin)
 have hP:Parts [bs (qah false (a.tx false 1)),o.str,bs (qah false (b.tx false 2))] inn:=by rw[hinn]; exact (.sub (qaV false ga 1) (.tok (.sub (qaV false gb 2) .nil)))
 obtain⟨R,hR⟩ : ∃ v,v=bs (qah false inn):=⟨_,rfl⟩
 have hRs:R.size<2 ^ 40:=by rw[hR,qal]; exact hin
 have za:Z tS (.call 247 [.dat (.sl [.lit (.string (bs (qah false (a.tx false 1)))),.lit (.string o.str),.lit (.string (bs (qah false (b.tx false 2))))] 3 true)] [])=some (.ret (.str R) []):=qce hP hR (by simp) hRs
 generalize bs (qah false (a.tx false 1))=r0 at *
 generalize bs (qah false (b.tx false 2))=r2 at *
 have hfin:bs (40::(qah false inn++[41]))=⟨#[40]⟩++R++⟨#[41]⟩:=by
  rw[qcj,qcj ⟨#[40]⟩,qa2,hR,qa2]
  simp[byl]
 rw[hfin]
 have hRl:R.size+2<2 ^ 40:=by rw[hR,qal]; exact hin2
 have y1:((⟨#[40]⟩:ByteArray).size:Int)=1:=rfl
 have y2:((⟨#[41]⟩:ByteArray).size:Int)=1:=rfl
 have y3:(⟨#[40]⟩:ByteArray).size=1:=rfl
 have y4:(⟨#[41]⟩:ByteArray).size=1:=rfl
 have y5 : ¬ (9223372036854775807:Int)<1+(R.size:Int):=by omega
 have y6 : ¬ (9223372036854775807:Int)<1+(R.size:Int)+1:=by omega
 have y7:(⟨#[40]⟩++R:ByteArray).size=1+R.size:=by rw[ByteArray.size_append]; rfl
 clear hP hR hinn htx hsz hin hin2 hfin
 refine Z_call (pf:=F246) rfl rfl ?_
 simp[F246,qaf,zl,hc,y1,y2,y3,y4,y5,y6,y7,z0,z2,za,qai 2 (by omega)]
theorem qsL {f:Bool} {o:Bop} {a b:E} (hl:o.prec=2) (ga:a.good) (gb:b.good) (ha:qbB a false 2 2) (hb:qbB b false 3 3) {p:Nat} {i:Int} (hi:i=p) (hp:p<=2):qbB (E.bin f o a b) false p i:=by
 intro hsz
 have zl:Z tS (.call 261 [.dat (.agg [.lit (.int .i64 14),.lit (.int .i64 0),.lit (.string o.str),.sl [.lit (.int .i64 a.kind),.lit (.int .i64 a.num),.lit (.string a.str),a.kids,.lit (.int .i64 b.kind),.lit (.int .i64 b.num),.lit (.string b.str),b.kids] 2 f])] [])=some (.ret (.int 2) []):=by
  have:=qcI (.bin f o a b)
  rw[show E.lev (.bin f o a b)=2 from hl] at this
  exact this
 have hc : ¬ (2:Int)<i:=by omega
 have hq : ¬ 2<p:=by omega
 obtain⟨inn,hinn⟩ : ∃ v,v=a.tx false 2++([o.str]++(b.tx false 3++[])):=⟨_,rfl⟩
 have htx:(E.bin f o a b).tx false p=inn:=by
  rw[hinn]
  simp[E.tx,qa1,qb9,ustr,bs,qaX,qbM,Bop.left,hq,hl]
 rw[htx] at hsz ⊢
 have hin:=hsz
 have z0:=ha (Nat.lt_of_le_of_lt (by
  have:=qae ([]) (a.tx false 2) ([o.str]++(b.tx false 3++[])) false
  try simp only[List.append_assoc,List.nil_append] at this
  rw[hinn]
  exact this) hin)
 have z2:=hb (Nat.lt_of_le_of_lt (by
  have:=qae (a.tx false 2++([o.str])) (b.tx false 3) ([]) false
  try simp only[List.append_assoc,List.nil_append] at this
  rw[hinn]
  exact this) hin)
 have hP:Parts [bs (qah false (a.tx false 2)),o.str,bs (qah false (b.tx false 3))] inn:=by rw[hinn]; exact (.sub (qaV false ga 2) (.tok (.sub (qaV false gb 3) .nil)))
 obtain⟨R,hR⟩ : ∃ v,v=bs (qah false inn):=⟨_,rfl⟩
 have hRs:R.size<2 ^ 40:=by rw[hR,qal]; exact hin
 have za:Z tS (.call 247 [.dat (.sl [.lit (.string (bs (qah false (a.tx false 2)))),.lit (.string o.str),.lit (.string (bs (qah false (b.tx false 3))))] 3 true)] [])=some (.ret (.str R) []):=qce hP hR (by simp) hRs
 generalize bs (qah false (a.tx false 2))=r0 at *
 generalize bs (qah false (b.tx false 3))=r2 at *
 rw[<- hR]
 clear hP hR hinn htx hsz hin
 refine Z_call (pf:=F246) rfl rfl ?_
 simp[F246,qaf,zl,hc,z0,z2,za,qai 3 (by omega)]
theorem qqw {f:Bool} {o:Bop} {a b:E} (hl:o.prec=2) (ga:a.good) (gb:b.good) (ha:qbB a false 2 2) (hb:qbB b false 3 3) {p:Nat} {i:Int} (hi:i=p) (hp:2<p):qbB (E.bin f o a b) false p i:=by
 intro hsz
 have zl:Z tS (.call 261 [.dat (.agg [.lit (.int .i64 14),.lit (.int .i64 0),.lit (.string o.str),.sl [.lit (.int .i64 a.kind),.lit (.int .i64 a.num),.lit (.string a.str),a.kids,.lit (.int .i64 b.kind),.lit (.int .i64 b.num),.lit (.string b.str),b.kids] 2 f])] [])=some (.ret (.int 2) []):=by
  have:=qcI (.bin f o a b)
  rw[show E.lev (.bin f o a b)=2 from hl] at this
  exact this
 have hc:(2:Int)<i:=by omega
 have hq:2<p:=hp
 obtain⟨inn,hinn⟩ : ∃ v,v=a.tx false 2++([o.str]++(b.tx false 3++[])):=⟨_,rfl⟩
 have htx:(E.bin f o a b).tx false p=bs [40]::(inn++[bs [41]]):=by
  rw[hinn]
  simp[E.tx,qa1,qb9,ustr,bs,qaX,qbM,Bop.left,hq,hl]
 rw[htx] at hsz ⊢
 rw[qdO] at hsz ⊢
 have hin:(qah false inn).length<2 ^ 40:=by simp at hsz; omega
 have hin2:(qah false inn).length+2<2 ^ 40:=by simp at hsz; omega
 have z0:=ha (Nat.lt_of_le_of_lt (by
  have:=qae ([]) (a.tx false 2) ([o.str]++(b.tx false 3++[])) false
  try simp only[List.append_assoc,List.nil_append] at this
  rw[hinn]
  exact this) hin)
 have z2:=hb (Nat.lt_of_le_of_lt (by
  have:=qae (a.tx false 2++([o.str])) (b.tx false 3) ([]) false
  try simp only[List.append_assoc,List.nil_append] at this
  rw[hinn]
  exact this) hin)
 have hP:Parts [bs (qah false (a.tx false 2)),o.str,bs (qah false (b.tx false 3))] inn:=by rw[hinn]; exact (.sub (qaV false ga 2) (.tok (.sub (qaV false gb 3) .nil)))
 obtain⟨R,hR⟩ : ∃ v,v=bs (qah false inn):=⟨_,rfl⟩
 have hRs:R.size<2 ^ 40:=by rw[hR,qal]; exact hin
 have za:Z tS (.call 247 [.dat (.sl [.lit (.string (bs (qah false (a.tx false 2)))),.lit (.string o.str),.lit (.string (bs (qah false (b.tx false 3))))] 3 true)] [])=some (.ret (.str R) []):=qce hP hR (by simp) hRs
 generalize bs (qah false (a.tx false 2))=r0 at *
 generalize bs (qah false (b.tx false 3))=r2 at *
 have hfin:bs (40::(qah false inn++[41]))=⟨#[40]⟩++R++⟨#[41]⟩:=by
  rw[qcj,qcj ⟨#[40]⟩,qa2,hR,qa2]
  simp[byl]
 rw[hfin]
 have hRl:R.size+2<2 ^ 40:=by rw[hR,qal]; exact hin2
 have y1:((⟨#[40]⟩:ByteArray).size:Int)=1:=rfl
 have y2:((⟨#[41]⟩:ByteArray).size:Int)=1:=rfl
 have y3:(⟨#[40]⟩:ByteArray).size=1:=rfl
 have y4:(⟨#[41]⟩:ByteArray).size=1:=rfl
 have y5 : ¬ (9223372036854775807:Int)<1+(R.size:Int):=by omega
 have y6 : ¬ (9223372036854775807:Int)<1+(R.size:Int)+1:=by omega
 have y7:(⟨#[40]⟩++R:ByteArray).size=1+R.size:=by rw[ByteArray.size_append]; rfl
 clear hP hR hinn htx hsz hin hin2 hfin
 refine Z_call (pf:=F246) rfl rfl ?_
 simp[F246,qaf,zl,hc,y1,y2,y3,y4,y5,y6,y7,z0,z2,za,qai 3 (by omega)]
theorem qsM {f:Bool} {o:Bop} {a b:E} (hl:o.prec=4) (ga:a.good) (gb:b.good) (ha:qbB a false 5 5) (hb:qbB b false 5 5) {p:Nat} {i:Int} (hi:i=p) (hp:p<=4):qbB (E.bin f o a b) false p i:=by
 intro hsz
 have zl:Z tS (.call 261 [.dat (.agg [.lit (.int .i64 14),.lit (.int .i64 0),.lit (.string o.str),.sl [.lit (.int .i64 a.kind),.lit (.int .i64 a.num),.lit (.string a.str),a.kids,.lit (.int .i64 b.kind),.lit (.int .i64 b.num),.lit (.string b.str),b.kids] 2 f])] [])=some (.ret (.int 4) []):=by
  have:=qcI (.bin f o a b)
  rw[show E.lev (.bin f o a b)=4 from hl] at this
  exact this
 have hc : ¬ (4:Int)<i:=by omega
 have hq : ¬ 4<p:=by omega
 obtain⟨inn,hinn⟩ : ∃ v,v=a.tx false 5++([o.str]++(b.tx false 5++[])):=⟨_,rfl⟩
 have htx:(E.bin f o a b).tx false p=inn:=by
  rw[hinn]
  simp[E.tx,qa1,qb9,ustr,bs,qaX,qbM,Bop.left,hq,hl]
 rw[htx] at hsz ⊢
 have hin:=hsz
 have z0:=ha (Nat.lt_of_le_of_lt (by
  have:=qae ([]) (a.tx false 5) ([o.str]++(b.tx false 5++[])) false
  try simp only[List.append_assoc,List.nil_append] at this
  rw[hinn]
  exact this) hin)
 have z2:=hb (Nat.lt_of_le_of_lt (by
  have:=qae (a.tx false 5++([o.str])) (b.tx false 5) ([]) false
  try simp only[List.append_assoc,List.nil_append] at this
  rw[hinn]
  exact this) hin)
 have hP:Parts [bs (qah false (a.tx false 5)),o.str,bs (qah false (b.tx false 5))] inn:=by rw[hinn]; exact (.sub (qaV false ga 5) (.tok (.sub (qaV false gb 5) .nil)))
 obtain⟨R,hR⟩ : ∃ v,v=bs (qah false inn):=⟨_,rfl⟩
 have hRs:R.size<2 ^ 40:=by rw[hR,qal]; exact hin
 have za:Z tS (.call 247 [.dat (.sl [.lit (.string (bs (qah false (a.tx false 5)))),.lit (.string o.str),.lit (.string (bs (qah false (b.tx false 5))))] 3 true)] [])=some (.ret (.str R) []):=qce hP hR (by simp) hRs
 generalize bs (qah false (a.tx false 5))=r0 at *
 generalize bs (qah false (b.tx false 5))=r2 at *
 rw[<- hR]
 clear hP hR hinn htx hsz hin
 refine Z_call (pf:=F246) rfl rfl ?_
 simp[F246,qaf,zl,hc,z0,z2,za,qai 5 (by omega)]
theorem qqx {f:Bool} {o:Bop} {a b:E} (hl:o.prec=4) (ga:a.good) (gb:b.good) (ha:qbB a false 5 5) (hb:qbB b false 5 5) {p:Nat} {i:Int} (hi:i=p) (hp:4<p):qbB (E.bin f o a b) false p i:=by
 intro hsz
 have zl:Z tS (.call 261 [.dat (.agg [.lit (.int .i64 14),.lit (.int .i64 0),.lit (.string o.str),.sl [.lit (.int .i64 a.kind),.lit (.int .i64 a.num),.lit (.string a.str),a.kids,.lit (.int .i64 b.kind),.lit (.int .i64 b.num),.lit (.string b.str),b.kids] 2 f])] [])=some (.ret (.int 4) []):=by
  have:=qcI (.bin f o a b)
  rw[show E.lev (.bin f o a b)=4 from hl] at this
  exact this
 have hc:(4:Int)<i:=by omega
 have hq:4<p:=hp
 obtain⟨inn,hinn⟩ : ∃ v,v=a.tx false 5++([o.str]++(b.tx false 5++[])):=⟨_,rfl⟩
 have htx:(E.bin f o a b).tx false p=bs [40]::(inn++[bs [41]]):=by
  rw[hinn]
  simp[E.tx,qa1,qb9,ustr,bs,qaX,qbM,Bop.left,hq,hl]
 rw[htx] at hsz ⊢
 rw[qdO] at hsz ⊢
 have hin:(qah false inn).length<2 ^ 40:=by simp at hsz; omega
 have hin2:(qah false inn).length+2<2 ^ 40:=by simp at hsz; omega
 have z0:=ha (Nat.lt_of_le_of_lt (by
  have:=qae ([]) (a.tx false 5) ([o.str]++(b.tx false 5++[])) false
  try simp only[List.append_assoc,List.nil_append] at this
  rw[hinn]
  exact this) hin)
 have z2:=hb (Nat.lt_of_le_of_lt (by
  have:=qae (a.tx false 5++([o.str])) (b.tx false 5) ([]) false
  try simp only[List.append_assoc,List.nil_append] at this
  rw[hinn]
  exact this) hin)
 have hP:Parts [bs (qah false (a.tx false 5)),o.str,bs (qah false (b.tx false 5))] inn:=by rw[hinn]; exact (.sub (qaV false ga 5) (.tok (.sub (qaV false gb 5) .nil)))
 obtain⟨R,hR⟩ : ∃ v,v=bs (qah false inn):=⟨_,rfl⟩
 have hRs:R.size<2 ^ 40:=by rw[hR,qal]; exact hin
 have za:Z tS (.call 247 [.dat (.sl [.lit (.string (bs (qah false (a.tx false 5)))),.lit (.string o.str),.lit (.string (bs (qah false (b.tx false 5))))] 3 true)] [])=some (.ret (.str R) []):=qce hP hR (by simp) hRs
 generalize bs (qah false (a.tx false 5))=r0 at *
 generalize bs (qah false (b.tx false 5))=r2 at *
 have hfin:bs (40::(qah false inn++[41]))=⟨#[40]⟩++R++⟨#[41]⟩:=by
  rw[qcj,qcj ⟨#[40]⟩,qa2,hR,qa2]
  simp[byl]
 rw[hfin]
 have hRl:R.size+2<2 ^ 40:=by rw[hR,qal]; exact hin2
 have y1:((⟨#[40]⟩:ByteArray).size:Int)=1:=rfl
 have y2:((⟨#[41]⟩:ByteArray).size:Int)=1:=rfl
 have y3:(⟨#[40]⟩:ByteArray).size=1:=rfl
 have y4:(⟨#[41]⟩:ByteArray).size=1:=rfl
 have y5 : ¬ (9223372036854775807:Int)<1+(R.size:Int):=by omega
 have y6 : ¬ (9223372036854775807:Int)<1+(R.size:Int)+1:=by omega
 have y7:(⟨#[40]⟩++R:ByteArray).size=1+R.size:=by rw[ByteArray.size_append]; rfl
 clear hP hR hinn htx hsz hin hin2 hfin
 refine Z_call (pf:=F246) rfl rfl ?_
 simp[F246,qaf,zl,hc,y1,y2,y3,y4,y5,y6,y7,z0,z2,za,qai 5 (by omega)]
theorem qsN {f:Bool} {o:Bop} {a b:E} (hl:o.prec=5) (ga:a.good) (gb:b.good) (ha:qbB a false 5 5) (hb:qbB b false 6 6) {p:Nat} {i:Int} (hi:i=p) (hp:p<=5):qbB (E.bin f o a b) false p i:=by
 intro hsz
 have zl:Z tS (.call 261 [.dat (.agg [.lit (.int .i64 14),.lit (.int .i64 0),.lit (.string o.str),.sl [.lit (.int .i64 a.kind),.lit (.int .i64 a.num),.lit (.string a.str),a.kids,.lit (.int .i64 b.kind),.lit (.int .i64 b.num),.lit (.string b.str),b.kids] 2 f])] [])=some (.ret (.int 5) []):=by
  have:=qcI (.bin f o a b)
  rw[show E.lev (.bin f o a b)=5 from hl] at this
  exact this
 have hc : ¬ (5:Int)<i:=by omega
 have hq : ¬ 5<p:=by omega
 obtain⟨inn,hinn⟩ : ∃ v,v=a.tx false 5++([o.str]++(b.tx false 6++[])):=⟨_,rfl⟩
 have htx:(E.bin f o a b).tx false p=inn:=by
  rw[hinn]
  simp[E.tx,qa1,qb9,ustr,bs,qaX,qbM,Bop.left,hq,hl]
 rw[htx] at hsz ⊢
 have hin:=hsz
 have z0:=ha (Nat.lt_of_le_of_lt (by
  have:=qae ([]) (a.tx false 5) ([o.str]++(b.tx false 6++[])) false
  try simp only[List.append_assoc,List.nil_append] at this
  rw[hinn]
  exact this) hin)
 have z2:=hb (Nat.lt_of_le_of_lt (by
  have:=qae (a.tx false 5++([o.str])) (b.tx false 6) ([]) false
  try simp only[List.append_assoc,List.nil_append] at this
  rw[hinn]
  exact this) hin)
 have hP:Parts [bs (qah false (a.tx false 5)),o.str,bs (qah false (b.tx false 6))] inn:=by rw[hinn]; exact (.sub (qaV false ga 5) (.tok (.sub (qaV false gb 6) .nil)))
 obtain⟨R,hR⟩ : ∃ v,v=bs (qah false inn):=⟨_,rfl⟩
 have hRs:R.size<2 ^ 40:=by rw[hR,qal]; exact hin
 have za:Z tS (.call 247 [.dat (.sl [.lit (.string (bs (qah false (a.tx false 5)))),.lit (.string o.str),.lit (.string (bs (qah false (b.tx false 6))))] 3 true)] [])=some (.ret (.str R) []):=qce hP hR (by simp) hRs
 generalize bs (qah false (a.tx false 5))=r0 at *
 generalize bs (qah false (b.tx false 6))=r2 at *
 rw[<- hR]
 clear hP hR hinn htx hsz hin
 refine Z_call (pf:=F246) rfl rfl ?_
 simp[F246,qaf,zl,hc,z0,z2,za,qai 6 (by omega)]
theorem qqy {f:Bool} {o:Bop} {a b:E} (hl:o.prec=5) (ga:a.good) (gb:b.good) (ha:qbB a false 5 5) (hb:qbB b false 6 6) {p:Nat} {i:Int} (hi:i=p) (hp:5<p):qbB (E.bin f o a b) false p i:=by
 intro hsz
 have zl:Z tS (.call 261 [.dat (.agg [.lit (.int .i64 14),.lit (.int .i64 0),.lit (.string o.str),.sl [.lit (.int .i64 a.kind),.lit (.int .i64 a.num),.lit (.string a.str),a.kids,.lit (.int .i64 b.kind),.lit (.int .i64 b.num),.lit (.string b.str),b.kids] 2 f])] [])=some (.ret (.int 5) []):=by
  have:=qcI (.bin f o a b)
  rw[show E.lev (.bin f o a b)=5 from hl] at this
  exact this
 have hc:(5:Int)<i:=by omega
 have hq:5<p:=hp
 obtain⟨inn,hinn⟩ : ∃ v,v=a.tx false 5++([o.str]++(b.tx false 6++[])):=⟨_,rfl⟩
 have htx:(E.bin f o a b).tx false p=bs [40]::(inn++[bs [41]]):=by
  rw[hinn]
  simp[E.tx,qa1,qb9,ustr,bs,qaX,qbM,Bop.left,hq,hl]
 rw[htx] at hsz ⊢
 rw[qdO] at hsz ⊢
 have hin:(qah false inn).length<2 ^ 40:=by simp at hsz; omega
 have hin2:(qah false inn).length+2<2 ^ 40:=by simp at hsz; omega
 have z0:=ha (Nat.lt_of_le_of_lt (by
  have:=qae ([]) (a.tx false 5) ([o.str]++(b.tx false 6++[])) false
  try simp only[List.append_assoc,List.nil_append] at this
  rw[hinn]
  exact this) hin)
 have z2:=hb (Nat.lt_of_le_of_lt (by
  have:=qae (a.tx false 5++([o.str])) (b.tx false 6) ([]) false
  try simp only[List.append_assoc,List.nil_append] at this
  rw[hinn]
  exact this) hin)
 have hP:Parts [bs (qah false (a.tx false 5)),o.str,bs (qah false (b.tx false 6))] inn:=by rw[hinn]; exact (.sub (qaV false ga 5) (.tok (.sub (qaV false gb 6) .nil)))
 obtain⟨R,hR⟩ : ∃ v,v=bs (qah false inn):=⟨_,rfl⟩
 have hRs:R.size<2 ^ 40:=by rw[hR,qal]; exact hin
 have za:Z tS (.call 247 [.dat (.sl [.lit (.string (bs (qah false (a.tx false 5)))),.lit (.string o.str),.lit (.string (bs (qah false (b.tx false 6))))] 3 true)] [])=some (.ret (.str R) []):=qce hP hR (by simp) hRs
 generalize bs (qah false (a.tx false 5))=r0 at *
 generalize bs (qah false (b.tx false 6))=r2 at *
 have hfin:bs (40::(qah false inn++[41]))=⟨#[40]⟩++R++⟨#[41]⟩:=by
  rw[qcj,qcj ⟨#[40]⟩,qa2,hR,qa2]
  simp[byl]
 rw[hfin]
 have hRl:R.size+2<2 ^ 40:=by rw[hR,qal]; exact hin2
 have y1:((⟨#[40]⟩:ByteArray).size:Int)=1:=rfl
 have y2:((⟨#[41]⟩:ByteArray).size:Int)=1:=rfl
 have y3:(⟨#[40]⟩:ByteArray).size=1:=rfl
 have y4:(⟨#[41]⟩:ByteArray).size=1:=rfl
 have y5 : ¬ (9223372036854775807:Int)<1+(R.size:Int):=by omega
 have y6 : ¬ (9223372036854775807:Int)<1+(R.size:Int)+1:=by omega
 have y7:(⟨#[40]⟩++R:ByteArray).size=1+R.size:=by rw[ByteArray.size_append]; rfl
 clear hP hR hinn htx hsz hin hin2 hfin
 refine Z_call (pf:=F246) rfl rfl ?_
 simp[F246,qaf,zl,hc,y1,y2,y3,y4,y5,y6,y7,z0,z2,za,qai 6 (by omega)]
theorem qsO {f:Bool} {o:Bop} {a b:E} (hl:o.prec=6) (ga:a.good) (gb:b.good) (ha:qbB a false 6 6) (hb:qbB b false 7 7) {p:Nat} {i:Int} (hi:i=p) (hp:p<=6):qbB (E.bin f o a b) false p i:=by
 intro hsz
 have zl:Z tS (.call 261 [.dat (.agg [.lit (.int .i64 14),.lit (.int .i64 0),.lit (.string o.str),.sl [.lit (.int .i64 a.kind),.lit (.int .i64 a.num),.lit (.string a.str),a.kids,.lit (.int .i64 b.kind),.lit (.int .i64 b.num),.lit (.string b.str),b.kids] 2 f])] [])=some (.ret (.int 6) []):=by
  have:=qcI (.bin f o a b)
  rw[show E.lev (.bin f o a b)=6 from hl] at this
  exact this
 have hc : ¬ (6:Int)<i:=by omega
 have hq : ¬ 6<p:=by omega
 obtain⟨inn,hinn⟩ : ∃ v,v=a.tx false 6++([o.str]++(b.tx false 7++[])):=⟨_,rfl⟩
 have htx:(E.bin f o a b).tx false p=inn:=by
  rw[hinn]
  simp[E.tx,qa1,qb9,ustr,bs,qaX,qbM,Bop.left,hq,hl]
 rw[htx] at hsz ⊢
 have hin:=hsz
 have z0:=ha (Nat.lt_of_le_of_lt (by
  have:=qae ([]) (a.tx false 6) ([o.str]++(b.tx false 7++[])) false
  try simp only[List.append_assoc,List.nil_append] at this
  rw[hinn]
  exact this) hin)
 have z2:=hb (Nat.lt_of_le_of_lt (by
  have:=qae (a.tx false 6++([o.str])) (b.tx false 7) ([]) false
  try simp only[List.append_assoc,List.nil_append] at this
  rw[hinn]
  exact this) hin)
 have hP:Parts [bs (qah false (a.tx false 6)),o.str,bs (qah false (b.tx false 7))] inn:=by rw[hinn]; exact (.sub (qaV false ga 6) (.tok (.sub (qaV false gb 7) .nil)))
 obtain⟨R,hR⟩ : ∃ v,v=bs (qah false inn):=⟨_,rfl⟩
 have hRs:R.size<2 ^ 40:=by rw[hR,qal]; exact hin
 have za:Z tS (.call 247 [.dat (.sl [.lit (.string (bs (qah false (a.tx false 6)))),.lit (.string o.str),.lit (.string (bs (qah false (b.tx false 7))))] 3 true)] [])=some (.ret (.str R) []):=qce hP hR (by simp) hRs
 generalize bs (qah false (a.tx false 6))=r0 at *
 generalize bs (qah false (b.tx false 7))=r2 at *
 rw[<- hR]
 clear hP hR hinn htx hsz hin
 refine Z_call (pf:=F246) rfl rfl ?_
 simp[F246,qaf,zl,hc,z0,z2,za,qai 7 (by omega)]
theorem qqz {f:Bool} {o:Bop} {a b:E} (hl:o.prec=6) (ga:a.good) (gb:b.good) (ha:qbB a false 6 6) (hb:qbB b false 7 7) {p:Nat} {i:Int} (hi:i=p) (hp:6<p):qbB (E.bin f o a b) false p i:=by
 intro hsz
 have zl:Z tS (.call 261 [.dat (.agg [.lit (.int .i64 14),.lit (.int .i64 0),.lit (.string o.str),.sl [.lit (.int .i64 a.kind),.lit (.int .i64 a.num),.lit (.string a.str),a.kids,.lit (.int .i64 b.kind),.lit (.int .i64 b.num),.lit (.string b.str),b.kids] 2 f])] [])=some (.ret (.int 6) []):=by
  have:=qcI (.bin f o a b)
  rw[show E.lev (.bin f o a b)=6 from hl] at this
  exact this
 have hc:(6:Int)<i:=by omega
 have hq:6<p:=hp
 obtain⟨inn,hinn⟩ : ∃ v,v=a.tx false 6++([o.str]++(b.tx false 7++[])):=⟨_,rfl⟩
 have htx:(E.bin f o a b).tx false p=bs [40]::(inn++[bs [41]]):=by
  rw[hinn]
  simp[E.tx,qa1,qb9,ustr,bs,qaX,qbM,Bop.left,hq,hl]
 rw[htx] at hsz ⊢
 rw[qdO] at hsz ⊢
 have hin:(qah false inn).length<2 ^ 40:=by simp at hsz; omega
 have hin2:(qah false inn).length+2<2 ^ 40:=by simp at hsz; omega
 have z0:=ha (Nat.lt_of_le_of_lt (by
  have:=qae ([]) (a.tx false 6) ([o.str]++(b.tx false 7++[])) false
  try simp only[List.append_assoc,List.nil_append] at this
  rw[hinn]
  exact this) hin)
 have z2:=hb (Nat.lt_of_le_of_lt (by
  have:=qae (a.tx false 6++([o.str])) (b.tx false 7) ([]) false
  try simp only[List.append_assoc,List.nil_append] at this
  rw[hinn]
  exact this) hin)
 have hP:Parts [bs (qah false (a.tx false 6)),o.str,bs (qah false (b.tx false 7))] inn:=by rw[hinn]; exact (.sub (qaV false ga 6) (.tok (.sub (qaV false gb 7) .nil)))
 obtain⟨R,hR⟩ : ∃ v,v=bs (qah false inn):=⟨_,rfl⟩
 have hRs:R.size<2 ^ 40:=by rw[hR,qal]; exact hin
 have za:Z tS (.call 247 [.dat (.sl [.lit (.string (bs (qah false (a.tx false 6)))),.lit (.string o.str),.lit (.string (bs (qah false (b.tx false 7))))] 3 true)] [])=some (.ret (.str R) []):=qce hP hR (by simp) hRs
 generalize bs (qah false (a.tx false 6))=r0 at *
 generalize bs (qah false (b.tx false 7))=r2 at *
 have hfin:bs (40::(qah false inn++[41]))=⟨#[40]⟩++R++⟨#[41]⟩:=by
  rw[qcj,qcj ⟨#[40]⟩,qa2,hR,qa2]
  simp[byl]
 rw[hfin]
 have hRl:R.size+2<2 ^ 40:=by rw[hR,qal]; exact hin2
 have y1:((⟨#[40]⟩:ByteArray).size:Int)=1:=rfl
 have y2:((⟨#[41]⟩:ByteArray).size:Int)=1:=rfl
 have y3:(⟨#[40]⟩:ByteArray).size=1:=rfl
 have y4:(⟨#[41]⟩:ByteArray).size=1:=rfl
 have y5 : ¬ (9223372036854775807:Int)<1+(R.size:Int):=by omega
 have y6 : ¬ (9223372036854775807:Int)<1+(R.size:Int)+1:=by omega
 have y7:(⟨#[40]⟩++R:ByteArray).size=1+R.size:=by rw[ByteArray.size_append]; rfl
 clear hP hR hinn htx hsz hin hin2 hfin
 refine Z_call (pf:=F246) rfl rfl ?_
 simp[F246,qaf,zl,hc,y1,y2,y3,y4,y5,y6,y7,z0,z2,za,qai 7 (by omega)]
theorem qk3 : ∀ e:E,e.good -> ∀ p i,i=((p:Nat):Int)->p<=8->qbB e false p i
 | .int n,h,p,i,hi,hp=>qu2 h.1 h.2 hi hp
 | .bool n,h,p,i,hi,hp=>by
  rcases h with rfl | rfl
  ·exact qqs hi hp
  ·exact qqt hi hp
 | .var s,h,p,i,hi,hp=>qu3 hi hp
 | .name s,h,p,i,hi,hp=>qsH hi hp
 | .field f s e,h,p,i,hi,hp=>qqu h.2 (qk3 e h.2 1 1 rfl (by omega)) hi hp
 | .un f neg e,h,p,i,hi,hp=>by
  have hg:e.good:=h
  have A:=qk3 e hg
  cases neg
  ·by_cases hq:3<p
   ·exact qsJ (e:=e) hg (A 3 3 rfl (by omega)) hi hq
   ·exact qu5 (e:=e) hg (A 3 3 rfl (by omega)) hi (by omega)
  ·by_cases hq:7<p
   ·exact qsI (e:=e) hg (A 7 7 rfl (by omega)) hi hq
   ·exact qu4 (e:=e) hg (A 7 7 rfl (by omega)) hi (by omega)
 | .bin f o a b,h,p,i,hi,hp=>by
  have A:=qk3 a h.1
  have B:=qk3 b h.2
  rcases qej o with ⟨ho,_⟩ | ⟨ho,_⟩ | ⟨ho,_⟩ | ⟨ho,_⟩ | ⟨ho,_⟩
  ·by_cases hq:1<p
   ·exact qqv ho h.1 h.2 (A 1 1 rfl (by omega)) (B 2 2 rfl (by omega)) hi hq
   ·exact qsK ho h.1 h.2 (A 1 1 rfl (by omega)) (B 2 2 rfl (by omega)) hi (by omega)
  ·by_cases hq:2<p
   ·exact qqw ho h.1 h.2 (A 2 2 rfl (by omega)) (B 3 3 rfl (by omega)) hi hq
   ·exact qsL ho h.1 h.2 (A 2 2 rfl (by omega)) (B 3 3 rfl (by omega)) hi (by omega)
  ·by_cases hq:4<p
   ·exact qqx ho h.1 h.2 (A 5 5 rfl (by omega)) (B 5 5 rfl (by omega)) hi hq
   ·exact qsM ho h.1 h.2 (A 5 5 rfl (by omega)) (B 5 5 rfl (by omega)) hi (by omega)
  ·by_cases hq:5<p
   ·exact qqy ho h.1 h.2 (A 5 5 rfl (by omega)) (B 6 6 rfl (by omega)) hi hq
   ·exact qsN ho h.1 h.2 (A 5 5 rfl (by omega)) (B 6 6 rfl (by omega)) hi (by omega)
  ·by_cases hq:6<p
   ·exact qqz ho h.1 h.2 (A 6 6 rfl (by omega)) (B 7 7 rfl (by omega)) hi hq
   ·exact qsO ho h.1 h.2 (A 6 6 rfl (by omega)) (B 7 7 rfl (by omega)) hi (by omega)
theorem qha {e:E} (h:e.good) (hsz:(qah false (e.tx false 1)).length<2 ^ 40):Z tS (.call 234 [e.node] [])=some (.ret (.str (bs (qah false (e.tx false 1)))) []):=by
 have z:=qk3 e h 1 1 rfl (by omega) hsz
 generalize bs (qah false (e.tx false 1))=R at *
 refine Z_call (pf:=F234) rfl rfl ?_
 simp[F234,z]
end Go.Pm
end SSb
section SSc
namespace Go.Pm
open F
set_option maxHeartbeats 8000000
def Ss.btx (b:Ss):List ByteArray:=⟨#[123]⟩::(b.tx++[⟨#[125]⟩])
def qd3 (b:Ss):Prop:=(∀ t∈b.tx,t.size≠0) /\ ∀ (k n:Int) (s:ByteArray) (f:Bool),(qah false b.btx).length<2 ^ 40->Z tS (.call 248 [.dat (.agg [.lit (.int .i64 k),.lit (.int .i64 n),.lit (.string s),kd f b.fo.len b.fo.cells])] [])=some (.ret (.str (bs (qah false b.btx))) [])
theorem qez {b:Ss} (h : ∀ t∈b.tx,t.size≠0) : ∀ t∈b.btx,t.size≠0:=by
 intro t ht
 rcases List.mem_cons.1 ht with rfl | ht
 ·decide
 ·rcases List.mem_append.1 ht with ht | ht
  ·exact h t ht
  ·rw[List.mem_singleton.1 ht]; decide
theorem qfp {a b:List ByteArray} (ha : ∀ t∈a,t.size≠0) (hb : ∀ t∈b,t.size≠0) : ∀ t∈a++b,t.size≠0:=fun t ht=>by
 rcases List.mem_append.1 ht with h | h
 ·exact ha t h
 ·exact hb t h
theorem qj6 {x:ByteArray} (h:x.size≠0) : ∀ t∈[x],t.size≠0:=fun t ht=>by rw[List.mem_singleton.1 ht]; exact h
theorem qdX : ∀ t∈([]:List ByteArray),t.size≠0:=fun t ht=>by cases ht
theorem qoM {f fb fc:Bool} {s:ByteArray} {e:E} (ge:e.good) {T:List ByteArray} (hT:T=[s]++([⟨#[61]⟩]++(e.tx false 1++([⟨#[59]⟩]++[])))) (hsz:(qah false T).length<2 ^ 40) :
  Z tS (.call 263 [.dat (.agg [.lit (.int .i64 1),.lit (.int .i64 0),.lit (.string s),.sl [.lit (.int .i64 e.kind),.lit (.int .i64 e.num),.lit (.string e.str),e.kids] 1 f])] [])=some (.ret (.str (bs (qah false T))) []):=by
 have q2:(qah false (e.tx false 1)).length<2 ^ 40:=Nat.lt_of_le_of_lt (by
  have:=qae ([s]++([⟨#[61]⟩]++[])) (e.tx false 1) ([⟨#[59]⟩]++[]) false
  simp only[List.append_assoc,List.nil_append,List.append_nil] at this
  rw[hT]
  simp only[List.append_assoc,List.nil_append,List.append_nil]
  exact this) hsz
 have z2:=qha ge q2
 obtain⟨R,hR⟩ : ∃ v,v=bs (qah false T):=⟨_,rfl⟩
 have hRs:R.size<2 ^ 40:=by rw[hR,qal]; exact hsz
 have hP:Parts [s,⟨#[61]⟩,bs (qah false (e.tx false 1)),⟨#[59]⟩] T:=by rw[hT]; exact (.tok (.tok (.sub (qaV false ge 1) (.tok .nil))))
 have za:Z tS (.call 247 [.dat (.sl [.lit (.string s),.lit (.string ⟨#[61]⟩),.lit (.string (bs (qah false (e.tx false 1)))),.lit (.string ⟨#[59]⟩)] 4 true)] [])=some (.ret (.str R) []):=qce hP hR (by simp) hRs
 generalize bs (qah false (e.tx false 1))=r2 at *
 rw[<- hR]
 refine Z_call (pf:=F263) rfl rfl ?_
 simp[F263,qaf,z2,za]
theorem qqU {f fb fc:Bool} {s:ByteArray} {x y:E} (gx:x.good) (gy:y.good) {T:List ByteArray} (hT:T=[s]++([⟨#[91]⟩]++(x.tx false 1++([⟨#[93]⟩]++([⟨#[61]⟩]++(y.tx false 1++([⟨#[59]⟩]++[]))))))) (hsz:(qah false T).length<2 ^ 40) :
  Z tS (.call 263 [.dat (.agg [.lit (.int .i64 2),.lit (.int .i64 0),.lit (.string s),.sl [.lit (.int .i64 x.kind),.lit (.int .i64 x.num),.lit (.string x.str),x.kids,.lit (.int .i64 y.kind),.lit (.int .i64 y.num),.lit (.string y.str),y.kids] 2 f])] [])=some (.ret (.str (bs (qah false T))) []):=by
 have q2:(qah false (x.tx false 1)).length<2 ^ 40:=Nat.lt_of_le_of_lt (by
  have:=qae ([s]++([⟨#[91]⟩]++[])) (x.tx false 1) ([⟨#[93]⟩]++([⟨#[61]⟩]++(y.tx false 1++([⟨#[59]⟩]++[])))) false
  simp only[List.append_assoc,List.nil_append,List.append_nil] at this
  rw[hT]
  simp only[List.append_assoc,List.nil_append,List.append_nil]
  exact this) hsz
 have z2:=qha gx q2
 have q5:(qah false (y.tx false 1)).length<2 ^ 40:=Nat.lt_of_le_of_lt (by
  have:=qae ([s]++([⟨#[91]⟩]++(x.tx false 1++([⟨#[93]⟩]++([⟨#[61]⟩]++[]))))) (y.tx false 1) ([⟨#[59]⟩]++[]) false
  simp only[List.append_assoc,List.nil_append,List.append_nil] at this
  rw[hT]
  simp only[List.append_assoc,List.nil_append,List.append_nil]
  exact this) hsz
 have z5:=qha gy q5
 obtain⟨R,hR⟩ : ∃ v,v=bs (qah false T):=⟨_,rfl⟩
 have hRs:R.size<2 ^ 40:=by rw[hR,qal]; exact hsz
 have hP:Parts [s,⟨#[91]⟩,bs (qah false (x.tx false 1)),⟨#[93]⟩,⟨#[61]⟩,bs (qah false (y.tx false 1)),⟨#[59]⟩] T:=by rw[hT]; exact (.tok (.tok (.sub (qaV false gx 1) (.tok (.tok (.sub (qaV false gy 1) (.tok .nil)))))))
 have za:Z tS (.call 247 [.dat (.sl [.lit (.string s),.lit (.string ⟨#[91]⟩),.lit (.string (bs (qah false (x.tx false 1)))),.lit (.string ⟨#[93]⟩),.lit (.string ⟨#[61]⟩),.lit (.string (bs (qah false (y.tx false 1)))),.lit (.string ⟨#[59]⟩)] 7 true)] [])=some (.ret (.str R) []):=qce hP hR (by simp) hRs
 generalize bs (qah false (x.tx false 1))=r2 at *
 generalize bs (qah false (y.tx false 1))=r5 at *
 rw[<- hR]
 refine Z_call (pf:=F263) rfl rfl ?_
 simp[F263,qaf,z2,z5,za]
theorem qoN {f fb fc:Bool} {x y:E} (gx:x.good) (gy:y.good) {T:List ByteArray} (hT:T=[⟨#[101,102,102,101,99,116]⟩]++(x.tx false 1++([⟨#[44]⟩]++(y.tx false 1++([⟨#[59]⟩]++[]))))) (hsz:(qah false T).length<2 ^ 40) :
  Z tS (.call 263 [.dat (.agg [.lit (.int .i64 5),.lit (.int .i64 0),.lit (.string ⟨#[]⟩),.sl [.lit (.int .i64 x.kind),.lit (.int .i64 x.num),.lit (.string x.str),x.kids,.lit (.int .i64 y.kind),.lit (.int .i64 y.num),.lit (.string y.str),y.kids] 2 f])] [])=some (.ret (.str (bs (qah false T))) []):=by
 have q1:(qah false (x.tx false 1)).length<2 ^ 40:=Nat.lt_of_le_of_lt (by
  have:=qae ([⟨#[101,102,102,101,99,116]⟩]++[]) (x.tx false 1) ([⟨#[44]⟩]++(y.tx false 1++([⟨#[59]⟩]++[]))) false
  simp only[List.append_assoc,List.nil_append,List.append_nil] at this
  rw[hT]
  simp only[List.append_assoc,List.nil_append,List.append_nil]
  exact this) hsz
 have z1:=qha gx q1
 have q3:(qah false (y.tx false 1)).length<2 ^ 40:=Nat.lt_of_le_of_lt (by
  have:=qae ([⟨#[101,102,102,101,99,116]⟩]++(x.tx false 1++([⟨#[44]⟩]++[]))) (y.tx false 1) ([⟨#[59]⟩]++[]) false
  simp only[List.append_assoc,List.nil_append,List.append_nil] at this
  rw[hT]
  simp only[List.append_assoc,List.nil_append,List.append_nil]
  exact this) hsz
 have z3:=qha gy q3
 obtain⟨R,hR⟩ : ∃ v,v=bs (qah false T):=⟨_,rfl⟩
 have hRs:R.size<2 ^ 40:=by rw[hR,qal]; exact hsz
 have hP:Parts [⟨#[101,102,102,101,99,116]⟩,bs (qah false (x.tx false 1)),⟨#[44]⟩,bs (qah false (y.tx false 1)),⟨#[59]⟩] T:=by rw[hT]; exact (.tok (.sub (qaV false gx 1) (.tok (.sub (qaV false gy 1) (.tok .nil)))))
 have za:Z tS (.call 247 [.dat (.sl [.lit (.string ⟨#[101,102,102,101,99,116]⟩),.lit (.string (bs (qah false (x.tx false 1)))),.lit (.string ⟨#[44]⟩),.lit (.string (bs (qah false (y.tx false 1)))),.lit (.string ⟨#[59]⟩)] 5 true)] [])=some (.ret (.str R) []):=qce hP hR (by simp) hRs
 generalize bs (qah false (x.tx false 1))=r1 at *
 generalize bs (qah false (y.tx false 1))=r3 at *
 rw[<- hR]
 refine Z_call (pf:=F263) rfl rfl ?_
 simp[F263,qaf,z1,z3,za]
theorem qqV {f fb fc:Bool} {c:E} {p:Ss} (gc:c.good) (hb:qd3 p) {T:List ByteArray} (hT:T=[⟨#[119,104,105,108,101]⟩]++(c.tx false 1++(p.btx++[]))) (hsz:(qah false T).length<2 ^ 40) :
  Z tS (.call 263 [.dat (.agg [.lit (.int .i64 4),.lit (.int .i64 0),.lit (.string ⟨#[]⟩),.sl [.lit (.int .i64 c.kind),.lit (.int .i64 c.num),.lit (.string c.str),c.kids,.lit (.int .i64 7),.lit (.int .i64 0),.lit (.string ⟨#[]⟩),kd fb p.fo.len p.fo.cells] 2 f])] [])=some (.ret (.str (bs (qah false T))) []):=by
 have q1:(qah false (c.tx false 1)).length<2 ^ 40:=Nat.lt_of_le_of_lt (by
  have:=qae ([⟨#[119,104,105,108,101]⟩]++[]) (c.tx false 1) (p.btx++[]) false
  simp only[List.append_assoc,List.nil_append,List.append_nil] at this
  rw[hT]
  simp only[List.append_assoc,List.nil_append,List.append_nil]
  exact this) hsz
 have z1:=qha gc q1
 have q2:(qah false (p.btx)).length<2 ^ 40:=Nat.lt_of_le_of_lt (by
  have:=qae ([⟨#[119,104,105,108,101]⟩]++(c.tx false 1++[])) (p.btx) ([]) false
  simp only[List.append_assoc,List.nil_append,List.append_nil] at this
  rw[hT]
  simp only[List.append_assoc,List.nil_append,List.append_nil]
  exact this) hsz
 have z2:=hb.2 7 0 ⟨#[]⟩ fb q2
 obtain⟨R,hR⟩ : ∃ v,v=bs (qah false T):=⟨_,rfl⟩
 have hRs:R.size<2 ^ 40:=by rw[hR,qal]; exact hsz
 have hP:Parts [⟨#[119,104,105,108,101]⟩,bs (qah false (c.tx false 1)),bs (qah false (p.btx))] T:=by rw[hT]; exact (.tok (.sub (qaV false gc 1) (.sub (qez hb.1) .nil)))
 have za:Z tS (.call 247 [.dat (.sl [.lit (.string ⟨#[119,104,105,108,101]⟩),.lit (.string (bs (qah false (c.tx false 1)))),.lit (.string (bs (qah false (p.btx))))] 3 true)] [])=some (.ret (.str R) []):=qce hP hR (by simp) hRs
 generalize bs (qah false (c.tx false 1))=r1 at *
 generalize bs (qah false (p.btx))=r2 at *
 rw[<- hR]
 refine Z_call (pf:=F263) rfl rfl ?_
 simp[F263,qaf,z1,z2,za]
theorem qvq {f fb fc:Bool} {c:E} {p q:Ss} (gc:c.good) (hb:qd3 p) (hq:q.fo.len=0) {T:List ByteArray} (hT:T=[⟨#[105,102]⟩]++(c.tx false 1++(p.btx++[]))) (hsz:(qah false T).length<2 ^ 40) :
  Z tS (.call 263 [.dat (.agg [.lit (.int .i64 3),.lit (.int .i64 0),.lit (.string ⟨#[]⟩),.sl [.lit (.int .i64 c.kind),.lit (.int .i64 c.num),.lit (.string c.str),c.kids,.lit (.int .i64 7),.lit (.int .i64 0),.lit (.string ⟨#[]⟩),kd fb p.fo.len p.fo.cells,.lit (.int .i64 7),.lit (.int .i64 0),.lit (.string ⟨#[]⟩),kd fc q.fo.len q.fo.cells] 3 f])] [])=some (.ret (.str (bs (qah false T))) []):=by
 have q1:(qah false (c.tx false 1)).length<2 ^ 40:=Nat.lt_of_le_of_lt (by
  have:=qae ([⟨#[105,102]⟩]++[]) (c.tx false 1) (p.btx++[]) false
  simp only[List.append_assoc,List.nil_append,List.append_nil] at this
  rw[hT]
  simp only[List.append_assoc,List.nil_append,List.append_nil]
  exact this) hsz
 have z1:=qha gc q1
 have q2:(qah false (p.btx)).length<2 ^ 40:=Nat.lt_of_le_of_lt (by
  have:=qae ([⟨#[105,102]⟩]++(c.tx false 1++[])) (p.btx) ([]) false
  simp only[List.append_assoc,List.nil_append,List.append_nil] at this
  rw[hT]
  simp only[List.append_assoc,List.nil_append,List.append_nil]
  exact this) hsz
 have z2:=hb.2 7 0 ⟨#[]⟩ fb q2
 obtain⟨R,hR⟩ : ∃ v,v=bs (qah false T):=⟨_,rfl⟩
 have hRs:R.size<2 ^ 40:=by rw[hR,qal]; exact hsz
 have hP:Parts [⟨#[105,102]⟩,bs (qah false (c.tx false 1)),bs (qah false (p.btx))] T:=by rw[hT]; exact (.tok (.sub (qaV false gc 1) (.sub (qez hb.1) .nil)))
 have za:Z tS (.call 247 [.dat (.sl [.lit (.string ⟨#[105,102]⟩),.lit (.string (bs (qah false (c.tx false 1)))),.lit (.string (bs (qah false (p.btx))))] 3 true)] [])=some (.ret (.str R) []):=qce hP hR (by simp) hRs
 generalize bs (qah false (c.tx false 1))=r1 at *
 generalize bs (qah false (p.btx))=r2 at *
 rw[<- hR]
 have hq1 : ∀ cs,kd fc q.fo.len cs = .lit (.slice none 0 0):=fun cs=>by rw[hq]; rfl
 simp only[hq1]
 refine Z_call (pf:=F263) rfl rfl ?_
 simp[F263,qaf,z1,z2,za,qia]
theorem qvr {f fb fc:Bool} {c:E} {p q:Ss} (gc:c.good) (hb:qd3 p) (hq:0<q.fo.len) (hd:qd3 q) {T:List ByteArray} (hT:T=[⟨#[105,102]⟩]++(c.tx false 1++(p.btx++([⟨#[101,108,115,101]⟩]++(q.btx++[]))))) (hsz:(qah false T).length<2 ^ 40) :
  Z tS (.call 263 [.dat (.agg [.lit (.int .i64 3),.lit (.int .i64 0),.lit (.string ⟨#[]⟩),.sl [.lit (.int .i64 c.kind),.lit (.int .i64 c.num),.lit (.string c.str),c.kids,.lit (.int .i64 7),.lit (.int .i64 0),.lit (.string ⟨#[]⟩),kd fb p.fo.len p.fo.cells,.lit (.int .i64 7),.lit (.int .i64 0),.lit (.string ⟨#[]⟩),kd fc q.fo.len q.fo.cells] 3 f])] [])=some (.ret (.str (bs (qah false T))) []):=by
 have q1:(qah false (c.tx false 1)).length<2 ^ 40:=Nat.lt_of_le_of_lt (by
  have:=qae ([⟨#[105,102]⟩]++[]) (c.tx false 1) (p.btx++([⟨#[101,108,115,101]⟩]++(q.btx++[]))) false
  simp only[List.append_assoc,List.nil_append,List.append_nil] at this
  rw[hT]
  simp only[List.append_assoc,List.nil_append,List.append_nil]
  exact this) hsz
 have z1:=qha gc q1
 have q2:(qah false (p.btx)).length<2 ^ 40:=Nat.lt_of_le_of_lt (by
  have:=qae ([⟨#[105,102]⟩]++(c.tx false 1++[])) (p.btx) ([⟨#[101,108,115,101]⟩]++(q.btx++[])) false
  simp only[List.append_assoc,List.nil_append,List.append_nil] at this
  rw[hT]
  simp only[List.append_assoc,List.nil_append,List.append_nil]
  exact this) hsz
 have z2:=hb.2 7 0 ⟨#[]⟩ fb q2
 have q4:(qah false (q.btx)).length<2 ^ 40:=Nat.lt_of_le_of_lt (by
  have:=qae ([⟨#[105,102]⟩]++(c.tx false 1++(p.btx++([⟨#[101,108,115,101]⟩]++[])))) (q.btx) ([]) false
  simp only[List.append_assoc,List.nil_append,List.append_nil] at this
  rw[hT]
  simp only[List.append_assoc,List.nil_append,List.append_nil]
  exact this) hsz
 have z4:=hd.2 7 0 ⟨#[]⟩ fc q4
 obtain⟨R,hR⟩ : ∃ v,v=bs (qah false T):=⟨_,rfl⟩
 have hRs:R.size<2 ^ 40:=by rw[hR,qal]; exact hsz
 obtain⟨T1,hT1⟩ : ∃ v,v=[⟨#[105,102]⟩]++(c.tx false 1++(p.btx++[])):=⟨_,rfl⟩
 have hT2:T=T1++([⟨#[101,108,115,101]⟩]++(q.btx++[])):=by rw[hT,hT1]; simp only[List.append_assoc,List.nil_append,List.append_nil]
 have s1:(qah false T1).length<2 ^ 40:=Nat.lt_of_le_of_lt (by
  have:=qae [] T1 ([⟨#[101,108,115,101]⟩]++(q.btx++[])) false
  rw[List.nil_append] at this
  rw[hT2]
  exact this) hsz
 obtain⟨R1,hR1⟩ : ∃ v,v=bs (qah false T1):=⟨_,rfl⟩
 have hR1s:R1.size<2 ^ 40:=by rw[hR1,qal]; exact s1
 have n1 : ∀ t∈T1,t.size≠0:=by
  rw[hT1]
  exact qfp (qj6 (by decide)) (qfp (qaV false gc 1) (qfp (qez hb.1) qdX))
 have hP1:Parts [⟨#[105,102]⟩,bs (qah false (c.tx false 1)),bs (qah false (p.btx))] T1:=by rw[hT1]; exact (.tok (.sub (qaV false gc 1) (.sub (qez hb.1) .nil)))
 have za:Z tS (.call 247 [.dat (.sl [.lit (.string ⟨#[105,102]⟩),.lit (.string (bs (qah false (c.tx false 1)))),.lit (.string (bs (qah false (p.btx))))] 3 true)] [])=some (.ret (.str R1) []):=qce hP1 hR1 (by simp) hR1s
 have hP2:Parts [R1,⟨#[101,108,115,101]⟩,bs (qah false (q.btx))] T:=by rw[hT2,hR1]; exact .sub n1 (.tok (.sub (qez hd.1) .nil))
 have zb:Z tS (.call 247 [.dat (.sl [.lit (.string R1),.lit (.string ⟨#[101,108,115,101]⟩),.lit (.string (bs (qah false (q.btx))))] 3 true)] [])=some (.ret (.str R) []):=qce hP2 hR (by simp) hRs
 generalize bs (qah false (c.tx false 1))=r1 at *
 generalize bs (qah false (p.btx))=r2 at *
 generalize bs (qah false (q.btx))=r4 at *
 rw[<- hR]
 have hq1:(0:Int)<q.fo.len:=by omega
 refine Z_call (pf:=F263) rfl rfl ?_
 simp[F263,qaf,z1,z2,z4,za,zb,hq1,hq]
theorem qtd {d:D} (hd:V.one (.dat d)=true) (hcl:V.cells (.dat d)=[.dat d]) :
  Z tS (.call 263 [.dat (.agg [.lit (.int .i64 6),.lit (.int .i64 0),.lit (.string ⟨#[]⟩),d])] [])=some (.ret (.str (bs (qah false [⟨#[115,116,111,112]⟩,⟨#[59]⟩]))) []):=by
 have e:bs (qah false [⟨#[115,116,111,112]⟩,⟨#[59]⟩])=⟨#[115,116,111,112,59]⟩:=by decide
 rw[e]
 refine Z_call (pf:=F263) rfl rfl ?_
 simp[F263,hd,hcl]
end Go.Pm
end SSc
