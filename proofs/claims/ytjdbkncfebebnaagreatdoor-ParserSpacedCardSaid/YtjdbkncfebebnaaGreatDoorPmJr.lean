/- Decimal, of reference 01. Chapter 13's reference printer: expressions. Chapter 13's reference printer: statements, each kind. Chapter 13's reference printer: every row of statements. Chapter 13's reference printer: Print, whole. The abstract machine's programs: tables of functions. Chapter 13's parser: letters, digits, symbols, rows of texts. -/
import Derived.Test.YtjdbkncfebebnaaGreatDoorPmOg
import Derived.Test.YtjdbkncfebebnaaGreatDoorPmYh
import Derived.Test.YtjdbkncfebebnaaGreatDoorPmFx
import Derived.Test.YtjdbkncfebebnaaGreatDoorPmF3
import Derived.Test.YtjdbkncfebebnaaGreatDoorPmEt
set_option linter.unusedSimpArgs false
set_option linter.unusedVariables false
section SJr
namespace Go.Pm
open F
set_option maxHeartbeats 2000000
def digS:ByteArray:=⟨#[48,49,50,51,52,53,54,55,56,57]⟩
theorem qs6 : ∀ d,d<10->digS.extract d (d+1)=bs [(48+d).toUInt8]:=by decide
theorem qmS (n:Int) : ∀ (k m:Nat) (out:ByteArray),m<10 ^ k->k<=18->out.size+k<=100 ->
  Z tS (.loop 0 F20l0 [(0,.int n),(3,.str digS),(4,.str out),(5,.int m)] [])=some (.out (.exit 0) [(0,.int n),(3,.str digS),(4,.str (bs (if m=0 then [] else qiw k m)++out)),(5,.int 0),(11,.bool false)] [])
 | k,0,out,_,_,_=>by
  rw[qaa]
  have e:bs []++out=out:=by rw[show bs []=ByteArray.empty from rfl,ByteArray.empty_append]
  simp[qac,qlu,digS,e]
 | 0,m+1,out,h,_,_=>by simp at h
 | k+1,m+1,out,h,hk,ho=>by
  have hp:(10:Nat) ^ (k+1)<=10 ^ 18:=Nat.pow_le_pow_right (by omega) hk
  have hd:((m+1:Nat):Int).tmod 10=(((m+1) % 10:Nat):Int):=rfl
  have hq:((m+1:Nat):Int).tdiv 10=(((m+1) / 10:Nat):Int):=rfl
  have hlt:(m+1) % 10<10:=Nat.mod_lt _ (by omega)
  have hx:=qs6 _ hlt
  have w1:=qaf (((m+1) % 10:Nat)+1:Int) (by omega)
  have w2:IntKind.i64.wrap (((m+1) / 10:Nat):Int)=((m+1) / 10:Nat):=qaf _ (by omega)
  have hne : ¬ ((m+1:Nat):Int)=0:=by omega
  have hneg : ¬ (((m+1) % 10:Nat):Int)<0:=by omega
  have ih:=qmS n k ((m+1) / 10) (bs [(48+(m+1) % 10).toUInt8]++out) (by rw[Nat.pow_succ] at h; omega) (by omega) (by rw[ByteArray.size_append,qas]; simp; omega)
  have hres:bs (if (m+1) / 10=0 then [] else qiw k ((m+1) / 10))++(bs [(48+(m+1) % 10).toUInt8]++out)=bs (qiw (k+1) (m+1))++out:=by
   rw[<- ByteArray.append_assoc]
   congr 1
   simp only[qiw]
   by_cases h10:m+1<10
   ·rw[if_pos h10,if_pos (by omega),Nat.mod_eq_of_lt h10]
    rfl
   ·rw[if_neg h10,if_neg (by omega)]
    rfl
  rw[hres] at ih
  rw[if_neg (by omega),<- ih]
  generalize hd2:(m+1) % 10=d at *
  generalize hq2:(m+1) / 10=q at *
  generalize hm:m+1=M at *
  have hM : ¬ M=0:=by omega
  have b1:(d:Int)<=digS.size:=by rw[show digS.size=10 from rfl]; omega
  have b2:(d:Int)+1<=digS.size:=by rw[show digS.size=10 from rfl]; omega
  have b3:(0:Int)<=(d:Int)+1:=by omega
  have b4:((d:Int)+1).toNat=d+1:=by omega
  have b5:(d:Int)<=(d:Int)+1:=by omega
  have hsz : ¬ (9223372036854775807:Int)<((bs [(48+d).toUInt8]).size:Int)+out.size:=by rw[qas]; simp; omega
  generalize digS=ds at *
  generalize bs [(48+d).toUInt8]=ch at *
  conv=>lhs; rw[qaa]
  simp[qac,qlu,qa7,bound,hd,hq,hne,hneg,w1,w2,b1,b2,b3,b4,b5,hx,hsz,hM]
theorem qpa {n:Nat} (h:n<10 ^ 18):Z tS (.call 20 [.int n] [])=some (.ret (.str (bs (decB n))) []):=by
 refine Z_call (pf:=F20) rfl rfl ?_
 by_cases h0:n=0
 ·subst h0
  simp[F20,decB,qiw,bs]
 ·have hne : ¬ (n:Int)=0:=by omega
  have hneg : ¬ (n:Int)<0:=by omega
  have z:=qmS n 18 n ⟨#[]⟩ h (by omega) (by decide)
  rw[if_neg h0] at z
  have e : ∀ (k j n:Nat),n<10 ^ k->1<=k->qiw (k+j) n=qiw k n:=fun k=>by
   induction k with
   | zero=>intro j n _ h; omega
   | succ k ih=>
    intro j n hn _
    rw[show k+1+j=(k+j)+1 by omega]
    simp only[qiw]
    split
    ·rfl
    ·rename_i h10
     have hk:1<=k:=by
      rcases k with _ | k
      ·simp at hn; omega
      ·omega
     rw[ih j (n / 10) (by rw[Nat.pow_succ] at hn; omega) hk]
  have e2:bs (qiw 18 n)++⟨#[]⟩=bs (decB n):=by
   rw[show decB n=qiw (18+2) n from rfl,e 18 2 n h (by omega)]
   exact ByteArray.append_empty
  rw[e2] at z
  simp only[digS] at z
  simp[F20,h0,hne,hneg,z]
end Go.Pm
end SJr
section SSb
namespace Go.Pm
open F
set_option maxHeartbeats 8000000
theorem qez (e:E):Z tS (.call 261 [e.node] [])=some (.ret (.int e.lev) []):=by
 refine Z_call (pf:=F261) rfl rfl ?_
 cases e with
 | un f neg e=>cases neg<;>simp[F261,E.lev,qcZ,ustr,qaX]
 | bin f o a b=>cases o<;>simp[F261,E.lev,Bop.prec,Bop.str,qaX]
 | _=>simp[F261,E.lev]
inductive Parts:List ByteArray->List ByteArray->Prop
 | nil:Parts [] []
 | tok {t:ByteArray} {l ts:List ByteArray} (h:Parts l ts):Parts (t::l) (t::ts)
 | sub {a l ts:List ByteArray} (ha : ∀ t∈a,t.size≠0) (h:Parts l ts):Parts (bs (qam false a)::l) (a++ts)
theorem qqN {l ts:List ByteArray} (h:Parts l ts) : ∀ w,pw w l=pw w ts:=by
 induction h with
 | nil=>intro w; rfl
 | tok h ih=>intro w; rw[qcE,qcE,ih]
 | sub ha h ih=>intro w; rw[qms w ha,qaw,qaw,ih]
theorem qdE {l ts:List ByteArray} {R:ByteArray} (hp:Parts l ts) (hR:R=bs (qam false ts)) (hn:l.length<2 ^ 30) (hsz:R.size<2 ^ 40):Z tS (.call 247 [.dat (.sl (strC l) l.length true)] [])=some (.ret (.str R) []):=
 qx3 true (by rw[hR,qqN hp,qdY]) hn hsz
theorem qf8 (ts:List ByteArray) (p:Bool):(qam false ts).length<=(qam p ts).length:=by
 cases ts with
 | nil=>simp[qam]
 | cons t ts=>
  simp only[qam,List.length_append]
  have:(gap false t).length=0:=rfl
  cases hb:byl t with
  | nil=>
   have e : ∀ q,qbu q t=q:=fun q=>by unfold qbu; rw[hb]; rfl
   rw[e,e]
   have:=qf8 ts p
   simp[gap]
   omega
  | cons c r=>
   have e:qbu p t=qbu false t:=by
    unfold qbu
    cases hl:(byl t).getLast? with
    | none=>rw[List.getLast?_eq_none_iff] at hl; rw[hl] at hb; cases hb
    | some c=>rfl
   rw[e]
   omega
theorem qat (a b c:List ByteArray) (p:Bool):(qam false b).length<=(qam p (a++(b++c))).length:=by
 rw[qfe,qfe,List.length_append,List.length_append]
 have:=qf8 b (qph p a)
 omega
theorem qhU (ts:List ByteArray):qam false (bs [40]::(ts++[bs [41]]))=40::(qam false ts++[41]):=by
 have e1:qbu false (bs [40])=false:=by decide
 have g1:gap false (bs [40])=[]:=rfl
 have g2 : ∀ q,gap q (bs [41])=[]:=fun q=>by cases q<;>decide
 rw[qam,e1,g1,qfe,qam,g2]
 simp[qam,qa6]
def qdq (e:E) (full:Bool) (p:Nat) (i:Int):Prop:=(qam false (e.tx full p)).length<2 ^ 40->Z tS (.call 246 [e.node,.int i,.bool full] [])=some (.ret (.str (bs (qam false (e.tx full p)))) [])
theorem qbJ (full:Bool) {e:E} (h:e.good) (p:Nat) : ∀ t∈e.tx full p,t.size≠0:=fun t ht=>qev (qig (qhX full e h p).ok t ht)
theorem qve {full:Bool} {n:Int} (h0:0<=n) (h1:n<=2147483647) {p:Nat} {i:Int} (hi:i=p) (hp:p<=8):qdq (E.int n) full p i:=by
 intro hsz
 have zl:Z tS (.call 261 [.dat (.agg [.lit (.int .i64 8),.lit (.int .i64 n),.lit (.string ⟨#[]⟩),.lit (.slice none 0 0)])] [])=some (.ret (.int 8) []):=qez (.int n)
 have hc : ¬ (8:Int)<i:=by omega
 have hq : ¬ 8<p:=by omega
 have f0:Z tS (.call 20 [.int n] [])=some (.ret (.str (bs (decB n.toNat))) []):=by
  have:=qpa (n:=n.toNat) (by omega)
  rw[show ((n.toNat:Nat):Int)=n by omega] at this
  exact this
 have htx:(E.int n).tx full p=[bs (decB n.toNat)]:=by simp[E.tx,qbz,qcZ,ustr,bs,qdS,qge,Bop.left]
 have hfin:bs (qam false ((E.int n).tx full p))=(bs (decB n.toNat)):=by
  rw[htx,qam,qam,List.append_nil]
  exact qcL (bs (decB n.toNat))
 rw[hfin]
 clear hfin htx hsz
 refine Z_call (pf:=F246) rfl rfl ?_
 cases full<;>simp[F246,qah,zl,hc,f0]
theorem qqO {full:Bool}  {p:Nat} {i:Int} (hi:i=p) (hp:p<=8):qdq (E.bool 0) full p i:=by
 intro hsz
 have zl:Z tS (.call 261 [.dat (.agg [.lit (.int .i64 9),.lit (.int .i64 0),.lit (.string ⟨#[]⟩),.lit (.slice none 0 0)])] [])=some (.ret (.int 8) []):=qez (.bool 0)
 have hc : ¬ (8:Int)<i:=by omega
 have hq : ¬ 8<p:=by omega
 have htx:(E.bool 0).tx full p=[⟨#[102,97,108,115,101]⟩]:=by simp[E.tx,qbz,qcZ,ustr,bs,qdS,qge,Bop.left]
 have hfin:bs (qam false ((E.bool 0).tx full p))=(⟨#[102,97,108,115,101]⟩):=by
  rw[htx,qam,qam,List.append_nil]
  exact qcL (⟨#[102,97,108,115,101]⟩)
 rw[hfin]
 clear hfin htx hsz
 refine Z_call (pf:=F246) rfl rfl ?_
 cases full<;>simp[F246,qah,zl,hc]
theorem qqP {full:Bool}  {p:Nat} {i:Int} (hi:i=p) (hp:p<=8):qdq (E.bool 1) full p i:=by
 intro hsz
 have zl:Z tS (.call 261 [.dat (.agg [.lit (.int .i64 9),.lit (.int .i64 1),.lit (.string ⟨#[]⟩),.lit (.slice none 0 0)])] [])=some (.ret (.int 8) []):=qez (.bool 1)
 have hc : ¬ (8:Int)<i:=by omega
 have hq : ¬ 8<p:=by omega
 have htx:(E.bool 1).tx full p=[⟨#[116,114,117,101]⟩]:=by simp[E.tx,qbz,qcZ,ustr,bs,qdS,qge,Bop.left]
 have hfin:bs (qam false ((E.bool 1).tx full p))=(⟨#[116,114,117,101]⟩):=by
  rw[htx,qam,qam,List.append_nil]
  exact qcL (⟨#[116,114,117,101]⟩)
 rw[hfin]
 clear hfin htx hsz
 refine Z_call (pf:=F246) rfl rfl ?_
 cases full<;>simp[F246,qah,zl,hc]
theorem qvf {full:Bool} {s:ByteArray} {p:Nat} {i:Int} (hi:i=p) (hp:p<=8):qdq (E.var s) full p i:=by
 intro hsz
 have zl:Z tS (.call 261 [.dat (.agg [.lit (.int .i64 10),.lit (.int .i64 0),.lit (.string s),.lit (.slice none 0 0)])] [])=some (.ret (.int 8) []):=qez (.var s)
 have hc : ¬ (8:Int)<i:=by omega
 have hq : ¬ 8<p:=by omega
 have htx:(E.var s).tx full p=[s]:=by simp[E.tx,qbz,qcZ,ustr,bs,qdS,qge,Bop.left]
 have hfin:bs (qam false ((E.var s).tx full p))=(s):=by
  rw[htx,qam,qam,List.append_nil]
  exact qcL (s)
 rw[hfin]
 clear hfin htx hsz
 refine Z_call (pf:=F246) rfl rfl ?_
 cases full<;>simp[F246,qah,zl,hc]
theorem qsZ {full:Bool} {s:ByteArray} {p:Nat} {i:Int} (hi:i=p) (hp:p<=8):qdq (E.name s) full p i:=by
 intro hsz
 have zl:Z tS (.call 261 [.dat (.agg [.lit (.int .i64 12),.lit (.int .i64 0),.lit (.string s),.lit (.slice none 0 0)])] [])=some (.ret (.int 8) []):=qez (.name s)
 have hc : ¬ (8:Int)<i:=by omega
 have hq : ¬ 8<p:=by omega
 have htx:(E.name s).tx full p=[s]:=by simp[E.tx,qbz,qcZ,ustr,bs,qdS,qge,Bop.left]
 have hfin:bs (qam false ((E.name s).tx full p))=(s):=by
  rw[htx,qam,qam,List.append_nil]
  exact qcL (s)
 rw[hfin]
 clear hfin htx hsz
 refine Z_call (pf:=F246) rfl rfl ?_
 cases full<;>simp[F246,qah,zl,hc]
theorem qqQ {full:Bool} {f:Bool} {s:ByteArray} {e:E} (ge:e.good) (he:qdq e full 1 1) {p:Nat} {i:Int} (hi:i=p) (hp:p<=8):qdq (E.field f s e) full p i:=by
 intro hsz
 have zl:Z tS (.call 261 [.dat (.agg [.lit (.int .i64 11),.lit (.int .i64 0),.lit (.string s),.sl [.lit (.int .i64 e.kind),.lit (.int .i64 e.num),.lit (.string e.str),e.kids] 1 f])] [])=some (.ret (.int 8) []):=qez (.field f s e)
 have hc : ¬ (8:Int)<i:=by omega
 have hq : ¬ 8<p:=by omega
 obtain⟨inn,hinn⟩ : ∃ v,v=[s]++([⟨#[91]⟩]++(e.tx full 1++([⟨#[93]⟩]++[]))):=⟨_,rfl⟩
 have htx:(E.field f s e).tx full p=inn:=by
  rw[hinn]
  simp[E.tx,qbz,qcZ,ustr,bs,qdS,qge,Bop.left,hq]
 rw[htx] at hsz ⊢
 have hin:=hsz
 have z2:=he (Nat.lt_of_le_of_lt (by
  have:=qat ([s]++([⟨#[91]⟩])) (e.tx full 1) ([⟨#[93]⟩]++[]) false
  try simp only[List.append_assoc,List.nil_append] at this
  rw[hinn]
  exact this) hin)
 have hP:Parts [s,⟨#[91]⟩,bs (qam false (e.tx full 1)),⟨#[93]⟩] inn:=by rw[hinn]; exact (.tok (.tok (.sub (qbJ full ge 1) (.tok .nil))))
 obtain⟨R,hR⟩ : ∃ v,v=bs (qam false inn):=⟨_,rfl⟩
 have hRs:R.size<2 ^ 40:=by rw[hR,qas]; exact hin
 have za:Z tS (.call 247 [.dat (.sl [.lit (.string s),.lit (.string ⟨#[91]⟩),.lit (.string (bs (qam false (e.tx full 1)))),.lit (.string ⟨#[93]⟩)] 4 true)] [])=some (.ret (.str R) []):=qdE hP hR (by simp) hRs
 generalize bs (qam false (e.tx full 1))=r2 at *
 rw[<- hR]
 clear hP hR hinn htx hsz hin
 refine Z_call (pf:=F246) rfl rfl ?_
 cases full<;>simp[F246,qah,zl,hc,z2,za]
theorem qxd {f neg:Bool} {e:E} {L:Nat} (hL:L=qcZ neg) (ge:e.good) (he:qdq e false L L) {p:Nat} {i:Int} (hi:i=p) (hp:p<=L):qdq (E.un f neg e) false p i:=by
 intro hsz
 have zl:Z tS (.call 261 [.dat (.agg [.lit (.int .i64 13),.lit (.int .i64 0),.lit (.string (ustr neg)),.sl [.lit (.int .i64 e.kind),.lit (.int .i64 e.num),.lit (.string e.str),e.kids] 1 f])] [])=some (.ret (.int L) []):=by
  have:=qez (.un f neg e)
  rw[show E.lev (.un f neg e)=L from hL.symm] at this
  exact this
 have hc : ¬ (L:Int)<i:=by omega
 have hq : ¬ L<p:=by omega
 have h8:(L:Int)<8:=by rw[hL]; cases neg<;>decide
 obtain⟨inn,hinn⟩ : ∃ v,v=[(ustr neg)]++(e.tx false L++[]):=⟨_,rfl⟩
 have htx:(E.un f neg e).tx false p=inn:=by
  rw[hinn]
  simp[E.tx,qbz,bs,hL.symm,hq]
 rw[htx] at hsz ⊢
 have hin:=hsz
 have z1:=he (Nat.lt_of_le_of_lt (by
  have:=qat ([(ustr neg)]) (e.tx false L) ([]) false
  try simp only[List.append_assoc,List.nil_append] at this
  rw[hinn]
  exact this) hin)
 have hP:Parts [(ustr neg),bs (qam false (e.tx false L))] inn:=by rw[hinn]; exact (.tok (.sub (qbJ false ge L) .nil))
 obtain⟨R,hR⟩ : ∃ v,v=bs (qam false inn):=⟨_,rfl⟩
 have hRs:R.size<2 ^ 40:=by rw[hR,qas]; exact hin
 have za:Z tS (.call 247 [.dat (.sl [.lit (.string (ustr neg)),.lit (.string (bs (qam false (e.tx false L))))] 2 true)] [])=some (.ret (.str R) []):=qdE hP hR (by simp) hRs
 generalize bs (qam false (e.tx false L))=r1 at *
 rw[<- hR]
 clear hP hR hinn htx hsz hin
 refine Z_call (pf:=F246) rfl rfl ?_
 simp[F246,qah,zl,hc,z1,za,h8]
theorem qvg {f neg:Bool} {e:E} {L:Nat} (hL:L=qcZ neg) (ge:e.good) (he:qdq e false L L) {p:Nat} {i:Int} (hi:i=p) (hp:L<p):qdq (E.un f neg e) false p i:=by
 intro hsz
 have zl:Z tS (.call 261 [.dat (.agg [.lit (.int .i64 13),.lit (.int .i64 0),.lit (.string (ustr neg)),.sl [.lit (.int .i64 e.kind),.lit (.int .i64 e.num),.lit (.string e.str),e.kids] 1 f])] [])=some (.ret (.int L) []):=by
  have:=qez (.un f neg e)
  rw[show E.lev (.un f neg e)=L from hL.symm] at this
  exact this
 have hc:(L:Int)<i:=by omega
 have hq:L<p:=hp
 have h8:(L:Int)<8:=by rw[hL]; cases neg<;>decide
 obtain⟨inn,hinn⟩ : ∃ v,v=[(ustr neg)]++(e.tx false L++[]):=⟨_,rfl⟩
 have htx:(E.un f neg e).tx false p=bs [40]::(inn++[bs [41]]):=by
  rw[hinn]
  simp[E.tx,qbz,bs,hL.symm,hq]
 rw[htx] at hsz ⊢
 rw[qhU] at hsz ⊢
 have hin:(qam false inn).length<2 ^ 40:=by simp at hsz; omega
 have hin2:(qam false inn).length+2<2 ^ 40:=by simp at hsz; omega
 have z1:=he (Nat.lt_of_le_of_lt (by
  have:=qat ([(ustr neg)]) (e.tx false L) ([]) false
  try simp only[List.append_assoc,List.nil_append] at this
  rw[hinn]
  exact this) hin)
 have hP:Parts [(ustr neg),bs (qam false (e.tx false L))] inn:=by rw[hinn]; exact (.tok (.sub (qbJ false ge L) .nil))
 obtain⟨R,hR⟩ : ∃ v,v=bs (qam false inn):=⟨_,rfl⟩
 have hRs:R.size<2 ^ 40:=by rw[hR,qas]; exact hin
 have za:Z tS (.call 247 [.dat (.sl [.lit (.string (ustr neg)),.lit (.string (bs (qam false (e.tx false L))))] 2 true)] [])=some (.ret (.str R) []):=qdE hP hR (by simp) hRs
 generalize bs (qam false (e.tx false L))=r1 at *
 have hfin:bs (40::(qam false inn++[41]))=⟨#[40]⟩++R++⟨#[41]⟩:=by
  rw[qdO,qdO ⟨#[40]⟩,qa6,hR,qa6]
  simp[byl]
 rw[hfin]
 have hRl:R.size+2<2 ^ 40:=by rw[hR,qas]; exact hin2
 have y1:((⟨#[40]⟩:ByteArray).size:Int)=1:=rfl
 have y2:((⟨#[41]⟩:ByteArray).size:Int)=1:=rfl
 have y3:(⟨#[40]⟩:ByteArray).size=1:=rfl
 have y4:(⟨#[41]⟩:ByteArray).size=1:=rfl
 have y5 : ¬ (9223372036854775807:Int)<1+(R.size:Int):=by omega
 have y6 : ¬ (9223372036854775807:Int)<1+(R.size:Int)+1:=by omega
 have y7:(⟨#[40]⟩++R:ByteArray).size=1+R.size:=by rw[ByteArray.size_append]; rfl
 clear hP hR hinn htx hsz hin hin2 hfin
 refine Z_call (pf:=F246) rfl rfl ?_
 simp[F246,qah,zl,hc,y1,y2,y3,y4,y5,y6,y7,z1,za,h8]
theorem qvh {f:Bool} {o:Bop} {a b:E} {L:Nat} (hl:o.prec=L) (h4:L≠4) (ga:a.good) (gb:b.good) (ha:qdq a false L L) (hb:qdq b false (L+1) ((L:Int)+1)) {p:Nat} {i:Int} (hi:i=p) (hp:p<=L):qdq (E.bin f o a b) false p i:=by
 intro hsz
 have zl:Z tS (.call 261 [.dat (.agg [.lit (.int .i64 14),.lit (.int .i64 0),.lit (.string o.str),.sl [.lit (.int .i64 a.kind),.lit (.int .i64 a.num),.lit (.string a.str),a.kids,.lit (.int .i64 b.kind),.lit (.int .i64 b.num),.lit (.string b.str),b.kids] 2 f])] [])=some (.ret (.int L) []):=by
  have:=qez (.bin f o a b)
  rw[show E.lev (.bin f o a b)=L from hl] at this
  exact this
 have hc : ¬ (L:Int)<i:=by omega
 have hq : ¬ L<p:=by omega
 have hlf:o.left=L:=by have:=qaZ o; omega
 have h4' : ¬ (L:Int)=4:=by omega
 have h8:(L:Int)<8:=by have:=qaZ o; omega
 have w1:=qaf ((L:Int)+1) (by omega)
 obtain⟨inn,hinn⟩ : ∃ v,v=a.tx false L++([o.str]++(b.tx false (L+1)++[])):=⟨_,rfl⟩
 have htx:(E.bin f o a b).tx false p=inn:=by
  rw[hinn]
  simp[E.tx,qbz,bs,hl,hlf,hq]
 rw[htx] at hsz ⊢
 have hin:=hsz
 have z0:=ha (Nat.lt_of_le_of_lt (by
  have:=qat ([]) (a.tx false L) ([o.str]++(b.tx false (L+1)++[])) false
  try simp only[List.append_assoc,List.nil_append] at this
  rw[hinn]
  exact this) hin)
 have z2:=hb (Nat.lt_of_le_of_lt (by
  have:=qat (a.tx false L++([o.str])) (b.tx false (L+1)) ([]) false
  try simp only[List.append_assoc,List.nil_append] at this
  rw[hinn]
  exact this) hin)
 have hP:Parts [bs (qam false (a.tx false L)),o.str,bs (qam false (b.tx false (L+1)))] inn:=by rw[hinn]; exact (.sub (qbJ false ga L) (.tok (.sub (qbJ false gb (L+1)) .nil)))
 obtain⟨R,hR⟩ : ∃ v,v=bs (qam false inn):=⟨_,rfl⟩
 have hRs:R.size<2 ^ 40:=by rw[hR,qas]; exact hin
 have za:Z tS (.call 247 [.dat (.sl [.lit (.string (bs (qam false (a.tx false L)))),.lit (.string o.str),.lit (.string (bs (qam false (b.tx false (L+1)))))] 3 true)] [])=some (.ret (.str R) []):=qdE hP hR (by simp) hRs
 generalize bs (qam false (a.tx false L))=r0 at *
 generalize bs (qam false (b.tx false (L+1)))=r2 at *
 rw[<- hR]
 clear hP hR hinn htx hsz hin
 refine Z_call (pf:=F246) rfl rfl ?_
 simp[F246,qah,zl,hc,z0,z2,za,h4',h8,w1]
theorem qs0 {f:Bool} {o:Bop} {a b:E} {L:Nat} (hl:o.prec=L) (h4:L≠4) (ga:a.good) (gb:b.good) (ha:qdq a false L L) (hb:qdq b false (L+1) ((L:Int)+1)) {p:Nat} {i:Int} (hi:i=p) (hp:L<p):qdq (E.bin f o a b) false p i:=by
 intro hsz
 have zl:Z tS (.call 261 [.dat (.agg [.lit (.int .i64 14),.lit (.int .i64 0),.lit (.string o.str),.sl [.lit (.int .i64 a.kind),.lit (.int .i64 a.num),.lit (.string a.str),a.kids,.lit (.int .i64 b.kind),.lit (.int .i64 b.num),.lit (.string b.str),b.kids] 2 f])] [])=some (.ret (.int L) []):=by
  have:=qez (.bin f o a b)
  rw[show E.lev (.bin f o a b)=L from hl] at this
  exact this
 have hc:(L:Int)<i:=by omega
 have hq:L<p:=hp
 have hlf:o.left=L:=by have:=qaZ o; omega
 have h4' : ¬ (L:Int)=4:=by omega
 have h8:(L:Int)<8:=by have:=qaZ o; omega
 have w1:=qaf ((L:Int)+1) (by omega)
 obtain⟨inn,hinn⟩ : ∃ v,v=a.tx false L++([o.str]++(b.tx false (L+1)++[])):=⟨_,rfl⟩
 have htx:(E.bin f o a b).tx false p=bs [40]::(inn++[bs [41]]):=by
  rw[hinn]
  simp[E.tx,qbz,bs,hl,hlf,hq]
 rw[htx] at hsz ⊢
 rw[qhU] at hsz ⊢
 have hin:(qam false inn).length<2 ^ 40:=by simp at hsz; omega
 have hin2:(qam false inn).length+2<2 ^ 40:=by simp at hsz; omega
 have z0:=ha (Nat.lt_of_le_of_lt (by
  have:=qat ([]) (a.tx false L) ([o.str]++(b.tx false (L+1)++[])) false
  try simp only[List.append_assoc,List.nil_append] at this
  rw[hinn]
  exact this) hin)
 have z2:=hb (Nat.lt_of_le_of_lt (by
  have:=qat (a.tx false L++([o.str])) (b.tx false (L+1)) ([]) false
  try simp only[List.append_assoc,List.nil_append] at this
  rw[hinn]
  exact this) hin)
 have hP:Parts [bs (qam false (a.tx false L)),o.str,bs (qam false (b.tx false (L+1)))] inn:=by rw[hinn]; exact (.sub (qbJ false ga L) (.tok (.sub (qbJ false gb (L+1)) .nil)))
 obtain⟨R,hR⟩ : ∃ v,v=bs (qam false inn):=⟨_,rfl⟩
 have hRs:R.size<2 ^ 40:=by rw[hR,qas]; exact hin
 have za:Z tS (.call 247 [.dat (.sl [.lit (.string (bs (qam false (a.tx false L)))),.lit (.string o.str),.lit (.string (bs (qam false (b.tx false (L+1)))))] 3 true)] [])=some (.ret (.str R) []):=qdE hP hR (by simp) hRs
 generalize bs (qam false (a.tx false L))=r0 at *
 generalize bs (qam false (b.tx false (L+1)))=r2 at *
 have hfin:bs (40::(qam false inn++[41]))=⟨#[40]⟩++R++⟨#[41]⟩:=by
  rw[qdO,qdO ⟨#[40]⟩,qa6,hR,qa6]
  simp[byl]
 rw[hfin]
 have hRl:R.size+2<2 ^ 40:=by rw[hR,qas]; exact hin2
 have y1:((⟨#[40]⟩:ByteArray).size:Int)=1:=rfl
 have y2:((⟨#[41]⟩:ByteArray).size:Int)=1:=rfl
 have y3:(⟨#[40]⟩:ByteArray).size=1:=rfl
 have y4:(⟨#[41]⟩:ByteArray).size=1:=rfl
 have y5 : ¬ (9223372036854775807:Int)<1+(R.size:Int):=by omega
 have y6 : ¬ (9223372036854775807:Int)<1+(R.size:Int)+1:=by omega
 have y7:(⟨#[40]⟩++R:ByteArray).size=1+R.size:=by rw[ByteArray.size_append]; rfl
 clear hP hR hinn htx hsz hin hin2 hfin
 refine Z_call (pf:=F246) rfl rfl ?_
 simp[F246,qah,zl,hc,y1,y2,y3,y4,y5,y6,y7,z0,z2,za,h4',h8,w1]
theorem qs1 {f:Bool} {o:Bop} {a b:E} (hl:o.prec=4) (ga:a.good) (gb:b.good) (ha:qdq a false 5 5) (hb:qdq b false 5 5) {p:Nat} {i:Int} (hi:i=p) (hp:p<=4):qdq (E.bin f o a b) false p i:=by
 intro hsz
 have zl:Z tS (.call 261 [.dat (.agg [.lit (.int .i64 14),.lit (.int .i64 0),.lit (.string o.str),.sl [.lit (.int .i64 a.kind),.lit (.int .i64 a.num),.lit (.string a.str),a.kids,.lit (.int .i64 b.kind),.lit (.int .i64 b.num),.lit (.string b.str),b.kids] 2 f])] [])=some (.ret (.int 4) []):=by
  have:=qez (.bin f o a b)
  rw[show E.lev (.bin f o a b)=4 from hl] at this
  exact this
 have hc : ¬ (4:Int)<i:=by omega
 have hq : ¬ 4<p:=by omega
 have hlf:o.left=5:=by have:=qaZ o; omega
 obtain⟨inn,hinn⟩ : ∃ v,v=a.tx false 5++([o.str]++(b.tx false 5++[])):=⟨_,rfl⟩
 have htx:(E.bin f o a b).tx false p=inn:=by
  rw[hinn]
  simp[E.tx,qbz,bs,hl,hlf,hq]
 rw[htx] at hsz ⊢
 have hin:=hsz
 have z0:=ha (Nat.lt_of_le_of_lt (by
  have:=qat ([]) (a.tx false 5) ([o.str]++(b.tx false 5++[])) false
  try simp only[List.append_assoc,List.nil_append] at this
  rw[hinn]
  exact this) hin)
 have z2:=hb (Nat.lt_of_le_of_lt (by
  have:=qat (a.tx false 5++([o.str])) (b.tx false 5) ([]) false
  try simp only[List.append_assoc,List.nil_append] at this
  rw[hinn]
  exact this) hin)
 have hP:Parts [bs (qam false (a.tx false 5)),o.str,bs (qam false (b.tx false 5))] inn:=by rw[hinn]; exact (.sub (qbJ false ga 5) (.tok (.sub (qbJ false gb 5) .nil)))
 obtain⟨R,hR⟩ : ∃ v,v=bs (qam false inn):=⟨_,rfl⟩
 have hRs:R.size<2 ^ 40:=by rw[hR,qas]; exact hin
 have za:Z tS (.call 247 [.dat (.sl [.lit (.string (bs (qam false (a.tx false 5)))),.lit (.string o.str),.lit (.string (bs (qam false (b.tx false 5))))] 3 true)] [])=some (.ret (.str R) []):=qdE hP hR (by simp) hRs
 generalize bs (qam false (a.tx false 5))=r0 at *
 generalize bs (qam false (b.tx false 5))=r2 at *
 rw[<- hR]
 clear hP hR hinn htx hsz hin
 refine Z_call (pf:=F246) rfl rfl ?_
 simp[F246,qah,zl,hc,z0,z2,za,qaf 5 (by omega)]
theorem qqR {f:Bool} {o:Bop} {a b:E} (hl:o.prec=4) (ga:a.good) (gb:b.good) (ha:qdq a false 5 5) (hb:qdq b false 5 5) {p:Nat} {i:Int} (hi:i=p) (hp:4<p):qdq (E.bin f o a b) false p i:=by
 intro hsz
 have zl:Z tS (.call 261 [.dat (.agg [.lit (.int .i64 14),.lit (.int .i64 0),.lit (.string o.str),.sl [.lit (.int .i64 a.kind),.lit (.int .i64 a.num),.lit (.string a.str),a.kids,.lit (.int .i64 b.kind),.lit (.int .i64 b.num),.lit (.string b.str),b.kids] 2 f])] [])=some (.ret (.int 4) []):=by
  have:=qez (.bin f o a b)
  rw[show E.lev (.bin f o a b)=4 from hl] at this
  exact this
 have hc:(4:Int)<i:=by omega
 have hq:4<p:=hp
 have hlf:o.left=5:=by have:=qaZ o; omega
 obtain⟨inn,hinn⟩ : ∃ v,v=a.tx false 5++([o.str]++(b.tx false 5++[])):=⟨_,rfl⟩
 have htx:(E.bin f o a b).tx false p=bs [40]::(inn++[bs [41]]):=by
  rw[hinn]
  simp[E.tx,qbz,bs,hl,hlf,hq]
 rw[htx] at hsz ⊢
 rw[qhU] at hsz ⊢
 have hin:(qam false inn).length<2 ^ 40:=by simp at hsz; omega
 have hin2:(qam false inn).length+2<2 ^ 40:=by simp at hsz; omega
 have z0:=ha (Nat.lt_of_le_of_lt (by
  have:=qat ([]) (a.tx false 5) ([o.str]++(b.tx false 5++[])) false
  try simp only[List.append_assoc,List.nil_append] at this
  rw[hinn]
  exact this) hin)
 have z2:=hb (Nat.lt_of_le_of_lt (by
  have:=qat (a.tx false 5++([o.str])) (b.tx false 5) ([]) false
  try simp only[List.append_assoc,List.nil_append] at this
  rw[hinn]
  exact this) hin)
 have hP:Parts [bs (qam false (a.tx false 5)),o.str,bs (qam false (b.tx false 5))] inn:=by rw[hinn]; exact (.sub (qbJ false ga 5) (.tok (.sub (qbJ false gb 5) .nil)))
 obtain⟨R,hR⟩ : ∃ v,v=bs (qam false inn):=⟨_,rfl⟩
 have hRs:R.size<2 ^ 40:=by rw[hR,qas]; exact hin
 have za:Z tS (.call 247 [.dat (.sl [.lit (.string (bs (qam false (a.tx false 5)))),.lit (.string o.str),.lit (.string (bs (qam false (b.tx false 5))))] 3 true)] [])=some (.ret (.str R) []):=qdE hP hR (by simp) hRs
 generalize bs (qam false (a.tx false 5))=r0 at *
 generalize bs (qam false (b.tx false 5))=r2 at *
 have hfin:bs (40::(qam false inn++[41]))=⟨#[40]⟩++R++⟨#[41]⟩:=by
  rw[qdO,qdO ⟨#[40]⟩,qa6,hR,qa6]
  simp[byl]
 rw[hfin]
 have hRl:R.size+2<2 ^ 40:=by rw[hR,qas]; exact hin2
 have y1:((⟨#[40]⟩:ByteArray).size:Int)=1:=rfl
 have y2:((⟨#[41]⟩:ByteArray).size:Int)=1:=rfl
 have y3:(⟨#[40]⟩:ByteArray).size=1:=rfl
 have y4:(⟨#[41]⟩:ByteArray).size=1:=rfl
 have y5 : ¬ (9223372036854775807:Int)<1+(R.size:Int):=by omega
 have y6 : ¬ (9223372036854775807:Int)<1+(R.size:Int)+1:=by omega
 have y7:(⟨#[40]⟩++R:ByteArray).size=1+R.size:=by rw[ByteArray.size_append]; rfl
 clear hP hR hinn htx hsz hin hin2 hfin
 refine Z_call (pf:=F246) rfl rfl ?_
 simp[F246,qah,zl,hc,y1,y2,y3,y4,y5,y6,y7,z0,z2,za,qaf 5 (by omega)]
theorem qla : ∀ e:E,e.good -> ∀ p i,i=((p:Nat):Int)->p<=8->qdq e false p i
 | .int n,h,p,i,hi,hp=>qve h.1 h.2 hi hp
 | .bool n,h,p,i,hi,hp=>by
  rcases h with rfl | rfl
  ·exact qqO hi hp
  ·exact qqP hi hp
 | .var s,h,p,i,hi,hp=>qvf hi hp
 | .name s,h,p,i,hi,hp=>qsZ hi hp
 | .field f s e,h,p,i,hi,hp=>qqQ h.2 (qla e h.2 1 1 rfl (by omega)) hi hp
 | .un f neg e,h,p,i,hi,hp=>by
  have hg:e.good:=h
  have A:=qla e hg (qcZ neg) (qcZ neg) rfl (by cases neg<;>decide)
  by_cases hq:qcZ neg<p
  ·exact qvg rfl hg A hi hq
  ·exact qxd rfl hg A hi (by omega)
 | .bin f o a b,h,p,i,hi,hp=>by
  have hr:=qaZ o
  have A:=qla a h.1 o.left o.left rfl (by omega)
  have B:=qla b h.2 (o.prec+1) ((o.prec:Int)+1) (by omega) (by omega)
  by_cases h4:o.prec=4
  ·rw[show o.left=5 by omega] at A
   rw[h4] at B
   by_cases hq:4<p
   ·exact qqR h4 h.1 h.2 A B hi hq
   ·exact qs1 h4 h.1 h.2 A B hi (by omega)
  ·rw[show o.left=o.prec by omega] at A
   by_cases hq:o.prec<p
   ·exact qs0 rfl h4 h.1 h.2 A B hi hq
   ·exact qvh rfl h4 h.1 h.2 A B hi (by omega)
theorem qg5 {e:E} (h:e.good) (hsz:(qam false (e.tx false 1)).length<2 ^ 40):Z tS (.call 234 [e.node] [])=some (.ret (.str (bs (qam false (e.tx false 1)))) []):=by
 have z:=qla e h 1 1 rfl (by omega) hsz
 generalize bs (qam false (e.tx false 1))=R at *
 refine Z_call (pf:=F234) rfl rfl ?_
 simp[F234,z]
end Go.Pm
end SSb
section SSc
namespace Go.Pm
open F
set_option maxHeartbeats 8000000
def Ss.btx (b:Ss):List ByteArray:=⟨#[123]⟩::(b.tx++[⟨#[125]⟩])
def qiG (b:Ss):Prop:=(∀ t∈b.tx,t.size≠0) /\ ∀ (k n:Int) (s:ByteArray) (f:Bool),(qam false b.btx).length<2 ^ 40->Z tS (.call 248 [.dat (.agg [.lit (.int .i64 k),.lit (.int .i64 n),.lit (.string s),kd f b.fo.len b.fo.cells])] [])=some (.ret (.str (bs (qam false b.btx))) [])
theorem qes {b:Ss} (h : ∀ t∈b.tx,t.size≠0) : ∀ t∈b.btx,t.size≠0:=by
 intro t ht
 rcases List.mem_cons.1 ht with rfl | ht
 ·decide
 ·rcases List.mem_append.1 ht with ht | ht
  ·exact h t ht
  ·rw[List.mem_singleton.1 ht]; decide
theorem qfh {a b:List ByteArray} (ha : ∀ t∈a,t.size≠0) (hb : ∀ t∈b,t.size≠0) : ∀ t∈a++b,t.size≠0:=fun t ht=>by
 rcases List.mem_append.1 ht with h | h
 ·exact ha t h
 ·exact hb t h
theorem qkb {x:ByteArray} (h:x.size≠0) : ∀ t∈[x],t.size≠0:=fun t ht=>by rw[List.mem_singleton.1 ht]; exact h
theorem qm4 : ∀ t∈([]:List ByteArray),t.size≠0:=fun t ht=>by cases ht
theorem qpq {f fb fc:Bool} {s:ByteArray} {e:E} (ge:e.good) {T:List ByteArray} (hT:T=[s]++([⟨#[61]⟩]++(e.tx false 1++([⟨#[59]⟩]++[])))) (hsz:(qam false T).length<2 ^ 40) :
  Z tS (.call 263 [.dat (.agg [.lit (.int .i64 1),.lit (.int .i64 0),.lit (.string s),.sl [.lit (.int .i64 e.kind),.lit (.int .i64 e.num),.lit (.string e.str),e.kids] 1 f])] [])=some (.ret (.str (bs (qam false T))) []):=by
 have q2:(qam false (e.tx false 1)).length<2 ^ 40:=Nat.lt_of_le_of_lt (by
  have:=qat ([s]++([⟨#[61]⟩]++[])) (e.tx false 1) ([⟨#[59]⟩]++[]) false
  simp only[List.append_assoc,List.nil_append,List.append_nil] at this
  rw[hT]
  simp only[List.append_assoc,List.nil_append,List.append_nil]
  exact this) hsz
 have z2:=qg5 ge q2
 obtain⟨R,hR⟩ : ∃ v,v=bs (qam false T):=⟨_,rfl⟩
 have hRs:R.size<2 ^ 40:=by rw[hR,qas]; exact hsz
 have hP:Parts [s,⟨#[61]⟩,bs (qam false (e.tx false 1)),⟨#[59]⟩] T:=by rw[hT]; exact (.tok (.tok (.sub (qbJ false ge 1) (.tok .nil))))
 have za:Z tS (.call 247 [.dat (.sl [.lit (.string s),.lit (.string ⟨#[61]⟩),.lit (.string (bs (qam false (e.tx false 1)))),.lit (.string ⟨#[59]⟩)] 4 true)] [])=some (.ret (.str R) []):=qdE hP hR (by simp) hRs
 generalize bs (qam false (e.tx false 1))=r2 at *
 rw[<- hR]
 refine Z_call (pf:=F263) rfl rfl ?_
 simp[F263,qah,z2,za]
theorem qrd {f fb fc:Bool} {s:ByteArray} {x y:E} (gx:x.good) (gy:y.good) {T:List ByteArray} (hT:T=[s]++([⟨#[91]⟩]++(x.tx false 1++([⟨#[93]⟩]++([⟨#[61]⟩]++(y.tx false 1++([⟨#[59]⟩]++[]))))))) (hsz:(qam false T).length<2 ^ 40) :
  Z tS (.call 263 [.dat (.agg [.lit (.int .i64 2),.lit (.int .i64 0),.lit (.string s),.sl [.lit (.int .i64 x.kind),.lit (.int .i64 x.num),.lit (.string x.str),x.kids,.lit (.int .i64 y.kind),.lit (.int .i64 y.num),.lit (.string y.str),y.kids] 2 f])] [])=some (.ret (.str (bs (qam false T))) []):=by
 have q2:(qam false (x.tx false 1)).length<2 ^ 40:=Nat.lt_of_le_of_lt (by
  have:=qat ([s]++([⟨#[91]⟩]++[])) (x.tx false 1) ([⟨#[93]⟩]++([⟨#[61]⟩]++(y.tx false 1++([⟨#[59]⟩]++[])))) false
  simp only[List.append_assoc,List.nil_append,List.append_nil] at this
  rw[hT]
  simp only[List.append_assoc,List.nil_append,List.append_nil]
  exact this) hsz
 have z2:=qg5 gx q2
 have q5:(qam false (y.tx false 1)).length<2 ^ 40:=Nat.lt_of_le_of_lt (by
  have:=qat ([s]++([⟨#[91]⟩]++(x.tx false 1++([⟨#[93]⟩]++([⟨#[61]⟩]++[]))))) (y.tx false 1) ([⟨#[59]⟩]++[]) false
  simp only[List.append_assoc,List.nil_append,List.append_nil] at this
  rw[hT]
  simp only[List.append_assoc,List.nil_append,List.append_nil]
  exact this) hsz
 have z5:=qg5 gy q5
 obtain⟨R,hR⟩ : ∃ v,v=bs (qam false T):=⟨_,rfl⟩
 have hRs:R.size<2 ^ 40:=by rw[hR,qas]; exact hsz
 have hP:Parts [s,⟨#[91]⟩,bs (qam false (x.tx false 1)),⟨#[93]⟩,⟨#[61]⟩,bs (qam false (y.tx false 1)),⟨#[59]⟩] T:=by rw[hT]; exact (.tok (.tok (.sub (qbJ false gx 1) (.tok (.tok (.sub (qbJ false gy 1) (.tok .nil)))))))
 have za:Z tS (.call 247 [.dat (.sl [.lit (.string s),.lit (.string ⟨#[91]⟩),.lit (.string (bs (qam false (x.tx false 1)))),.lit (.string ⟨#[93]⟩),.lit (.string ⟨#[61]⟩),.lit (.string (bs (qam false (y.tx false 1)))),.lit (.string ⟨#[59]⟩)] 7 true)] [])=some (.ret (.str R) []):=qdE hP hR (by simp) hRs
 generalize bs (qam false (x.tx false 1))=r2 at *
 generalize bs (qam false (y.tx false 1))=r5 at *
 rw[<- hR]
 refine Z_call (pf:=F263) rfl rfl ?_
 simp[F263,qah,z2,z5,za]
theorem qpr {f fb fc:Bool} {x y:E} (gx:x.good) (gy:y.good) {T:List ByteArray} (hT:T=[⟨#[101,102,102,101,99,116]⟩]++(x.tx false 1++([⟨#[44]⟩]++(y.tx false 1++([⟨#[59]⟩]++[]))))) (hsz:(qam false T).length<2 ^ 40) :
  Z tS (.call 263 [.dat (.agg [.lit (.int .i64 5),.lit (.int .i64 0),.lit (.string ⟨#[]⟩),.sl [.lit (.int .i64 x.kind),.lit (.int .i64 x.num),.lit (.string x.str),x.kids,.lit (.int .i64 y.kind),.lit (.int .i64 y.num),.lit (.string y.str),y.kids] 2 f])] [])=some (.ret (.str (bs (qam false T))) []):=by
 have q1:(qam false (x.tx false 1)).length<2 ^ 40:=Nat.lt_of_le_of_lt (by
  have:=qat ([⟨#[101,102,102,101,99,116]⟩]++[]) (x.tx false 1) ([⟨#[44]⟩]++(y.tx false 1++([⟨#[59]⟩]++[]))) false
  simp only[List.append_assoc,List.nil_append,List.append_nil] at this
  rw[hT]
  simp only[List.append_assoc,List.nil_append,List.append_nil]
  exact this) hsz
 have z1:=qg5 gx q1
 have q3:(qam false (y.tx false 1)).length<2 ^ 40:=Nat.lt_of_le_of_lt (by
  have:=qat ([⟨#[101,102,102,101,99,116]⟩]++(x.tx false 1++([⟨#[44]⟩]++[]))) (y.tx false 1) ([⟨#[59]⟩]++[]) false
  simp only[List.append_assoc,List.nil_append,List.append_nil] at this
  rw[hT]
  simp only[List.append_assoc,List.nil_append,List.append_nil]
  exact this) hsz
 have z3:=qg5 gy q3
 obtain⟨R,hR⟩ : ∃ v,v=bs (qam false T):=⟨_,rfl⟩
 have hRs:R.size<2 ^ 40:=by rw[hR,qas]; exact hsz
 have hP:Parts [⟨#[101,102,102,101,99,116]⟩,bs (qam false (x.tx false 1)),⟨#[44]⟩,bs (qam false (y.tx false 1)),⟨#[59]⟩] T:=by rw[hT]; exact (.tok (.sub (qbJ false gx 1) (.tok (.sub (qbJ false gy 1) (.tok .nil)))))
 have za:Z tS (.call 247 [.dat (.sl [.lit (.string ⟨#[101,102,102,101,99,116]⟩),.lit (.string (bs (qam false (x.tx false 1)))),.lit (.string ⟨#[44]⟩),.lit (.string (bs (qam false (y.tx false 1)))),.lit (.string ⟨#[59]⟩)] 5 true)] [])=some (.ret (.str R) []):=qdE hP hR (by simp) hRs
 generalize bs (qam false (x.tx false 1))=r1 at *
 generalize bs (qam false (y.tx false 1))=r3 at *
 rw[<- hR]
 refine Z_call (pf:=F263) rfl rfl ?_
 simp[F263,qah,z1,z3,za]
theorem qre {f fb fc:Bool} {c:E} {p:Ss} (gc:c.good) (hb:qiG p) {T:List ByteArray} (hT:T=[⟨#[119,104,105,108,101]⟩]++(c.tx false 1++(p.btx++[]))) (hsz:(qam false T).length<2 ^ 40) :
  Z tS (.call 263 [.dat (.agg [.lit (.int .i64 4),.lit (.int .i64 0),.lit (.string ⟨#[]⟩),.sl [.lit (.int .i64 c.kind),.lit (.int .i64 c.num),.lit (.string c.str),c.kids,.lit (.int .i64 7),.lit (.int .i64 0),.lit (.string ⟨#[]⟩),kd fb p.fo.len p.fo.cells] 2 f])] [])=some (.ret (.str (bs (qam false T))) []):=by
 have q1:(qam false (c.tx false 1)).length<2 ^ 40:=Nat.lt_of_le_of_lt (by
  have:=qat ([⟨#[119,104,105,108,101]⟩]++[]) (c.tx false 1) (p.btx++[]) false
  simp only[List.append_assoc,List.nil_append,List.append_nil] at this
  rw[hT]
  simp only[List.append_assoc,List.nil_append,List.append_nil]
  exact this) hsz
 have z1:=qg5 gc q1
 have q2:(qam false (p.btx)).length<2 ^ 40:=Nat.lt_of_le_of_lt (by
  have:=qat ([⟨#[119,104,105,108,101]⟩]++(c.tx false 1++[])) (p.btx) ([]) false
  simp only[List.append_assoc,List.nil_append,List.append_nil] at this
  rw[hT]
  simp only[List.append_assoc,List.nil_append,List.append_nil]
  exact this) hsz
 have z2:=hb.2 7 0 ⟨#[]⟩ fb q2
 obtain⟨R,hR⟩ : ∃ v,v=bs (qam false T):=⟨_,rfl⟩
 have hRs:R.size<2 ^ 40:=by rw[hR,qas]; exact hsz
 have hP:Parts [⟨#[119,104,105,108,101]⟩,bs (qam false (c.tx false 1)),bs (qam false (p.btx))] T:=by rw[hT]; exact (.tok (.sub (qbJ false gc 1) (.sub (qes hb.1) .nil)))
 have za:Z tS (.call 247 [.dat (.sl [.lit (.string ⟨#[119,104,105,108,101]⟩),.lit (.string (bs (qam false (c.tx false 1)))),.lit (.string (bs (qam false (p.btx))))] 3 true)] [])=some (.ret (.str R) []):=qdE hP hR (by simp) hRs
 generalize bs (qam false (c.tx false 1))=r1 at *
 generalize bs (qam false (p.btx))=r2 at *
 rw[<- hR]
 refine Z_call (pf:=F263) rfl rfl ?_
 simp[F263,qah,z1,z2,za]
theorem qvC {f fb fc:Bool} {c:E} {p q:Ss} (gc:c.good) (hb:qiG p) (hq:q.fo.len=0) {T:List ByteArray} (hT:T=[⟨#[105,102]⟩]++(c.tx false 1++(p.btx++[]))) (hsz:(qam false T).length<2 ^ 40) :
  Z tS (.call 263 [.dat (.agg [.lit (.int .i64 3),.lit (.int .i64 0),.lit (.string ⟨#[]⟩),.sl [.lit (.int .i64 c.kind),.lit (.int .i64 c.num),.lit (.string c.str),c.kids,.lit (.int .i64 7),.lit (.int .i64 0),.lit (.string ⟨#[]⟩),kd fb p.fo.len p.fo.cells,.lit (.int .i64 7),.lit (.int .i64 0),.lit (.string ⟨#[]⟩),kd fc q.fo.len q.fo.cells] 3 f])] [])=some (.ret (.str (bs (qam false T))) []):=by
 have q1:(qam false (c.tx false 1)).length<2 ^ 40:=Nat.lt_of_le_of_lt (by
  have:=qat ([⟨#[105,102]⟩]++[]) (c.tx false 1) (p.btx++[]) false
  simp only[List.append_assoc,List.nil_append,List.append_nil] at this
  rw[hT]
  simp only[List.append_assoc,List.nil_append,List.append_nil]
  exact this) hsz
 have z1:=qg5 gc q1
 have q2:(qam false (p.btx)).length<2 ^ 40:=Nat.lt_of_le_of_lt (by
  have:=qat ([⟨#[105,102]⟩]++(c.tx false 1++[])) (p.btx) ([]) false
  simp only[List.append_assoc,List.nil_append,List.append_nil] at this
  rw[hT]
  simp only[List.append_assoc,List.nil_append,List.append_nil]
  exact this) hsz
 have z2:=hb.2 7 0 ⟨#[]⟩ fb q2
 obtain⟨R,hR⟩ : ∃ v,v=bs (qam false T):=⟨_,rfl⟩
 have hRs:R.size<2 ^ 40:=by rw[hR,qas]; exact hsz
 have hP:Parts [⟨#[105,102]⟩,bs (qam false (c.tx false 1)),bs (qam false (p.btx))] T:=by rw[hT]; exact (.tok (.sub (qbJ false gc 1) (.sub (qes hb.1) .nil)))
 have za:Z tS (.call 247 [.dat (.sl [.lit (.string ⟨#[105,102]⟩),.lit (.string (bs (qam false (c.tx false 1)))),.lit (.string (bs (qam false (p.btx))))] 3 true)] [])=some (.ret (.str R) []):=qdE hP hR (by simp) hRs
 generalize bs (qam false (c.tx false 1))=r1 at *
 generalize bs (qam false (p.btx))=r2 at *
 rw[<- hR]
 have hq1 : ∀ cs,kd fc q.fo.len cs = .lit (.slice none 0 0):=fun cs=>by rw[hq]; rfl
 simp only[hq1]
 refine Z_call (pf:=F263) rfl rfl ?_
 simp[F263,qah,z1,z2,za,qic]
theorem qvD {f fb fc:Bool} {c:E} {p q:Ss} (gc:c.good) (hb:qiG p) (hq:0<q.fo.len) (hd:qiG q) {T:List ByteArray} (hT:T=[⟨#[105,102]⟩]++(c.tx false 1++(p.btx++([⟨#[101,108,115,101]⟩]++(q.btx++[]))))) (hsz:(qam false T).length<2 ^ 40) :
  Z tS (.call 263 [.dat (.agg [.lit (.int .i64 3),.lit (.int .i64 0),.lit (.string ⟨#[]⟩),.sl [.lit (.int .i64 c.kind),.lit (.int .i64 c.num),.lit (.string c.str),c.kids,.lit (.int .i64 7),.lit (.int .i64 0),.lit (.string ⟨#[]⟩),kd fb p.fo.len p.fo.cells,.lit (.int .i64 7),.lit (.int .i64 0),.lit (.string ⟨#[]⟩),kd fc q.fo.len q.fo.cells] 3 f])] [])=some (.ret (.str (bs (qam false T))) []):=by
 have q1:(qam false (c.tx false 1)).length<2 ^ 40:=Nat.lt_of_le_of_lt (by
  have:=qat ([⟨#[105,102]⟩]++[]) (c.tx false 1) (p.btx++([⟨#[101,108,115,101]⟩]++(q.btx++[]))) false
  simp only[List.append_assoc,List.nil_append,List.append_nil] at this
  rw[hT]
  simp only[List.append_assoc,List.nil_append,List.append_nil]
  exact this) hsz
 have z1:=qg5 gc q1
 have q2:(qam false (p.btx)).length<2 ^ 40:=Nat.lt_of_le_of_lt (by
  have:=qat ([⟨#[105,102]⟩]++(c.tx false 1++[])) (p.btx) ([⟨#[101,108,115,101]⟩]++(q.btx++[])) false
  simp only[List.append_assoc,List.nil_append,List.append_nil] at this
  rw[hT]
  simp only[List.append_assoc,List.nil_append,List.append_nil]
  exact this) hsz
 have z2:=hb.2 7 0 ⟨#[]⟩ fb q2
 have q4:(qam false (q.btx)).length<2 ^ 40:=Nat.lt_of_le_of_lt (by
  have:=qat ([⟨#[105,102]⟩]++(c.tx false 1++(p.btx++([⟨#[101,108,115,101]⟩]++[])))) (q.btx) ([]) false
  simp only[List.append_assoc,List.nil_append,List.append_nil] at this
  rw[hT]
  simp only[List.append_assoc,List.nil_append,List.append_nil]
  exact this) hsz
 have z4:=hd.2 7 0 ⟨#[]⟩ fc q4
 obtain⟨R,hR⟩ : ∃ v,v=bs (qam false T):=⟨_,rfl⟩
 have hRs:R.size<2 ^ 40:=by rw[hR,qas]; exact hsz
 obtain⟨T1,hT1⟩ : ∃ v,v=[⟨#[105,102]⟩]++(c.tx false 1++(p.btx++[])):=⟨_,rfl⟩
 have hT2:T=T1++([⟨#[101,108,115,101]⟩]++(q.btx++[])):=by rw[hT,hT1]; simp only[List.append_assoc,List.nil_append,List.append_nil]
 have s1:(qam false T1).length<2 ^ 40:=Nat.lt_of_le_of_lt (by
  have:=qat [] T1 ([⟨#[101,108,115,101]⟩]++(q.btx++[])) false
  rw[List.nil_append] at this
  rw[hT2]
  exact this) hsz
 obtain⟨R1,hR1⟩ : ∃ v,v=bs (qam false T1):=⟨_,rfl⟩
 have hR1s:R1.size<2 ^ 40:=by rw[hR1,qas]; exact s1
 have n1 : ∀ t∈T1,t.size≠0:=by
  rw[hT1]
  exact qfh (qkb (by decide)) (qfh (qbJ false gc 1) (qfh (qes hb.1) qm4))
 have hP1:Parts [⟨#[105,102]⟩,bs (qam false (c.tx false 1)),bs (qam false (p.btx))] T1:=by rw[hT1]; exact (.tok (.sub (qbJ false gc 1) (.sub (qes hb.1) .nil)))
 have za:Z tS (.call 247 [.dat (.sl [.lit (.string ⟨#[105,102]⟩),.lit (.string (bs (qam false (c.tx false 1)))),.lit (.string (bs (qam false (p.btx))))] 3 true)] [])=some (.ret (.str R1) []):=qdE hP1 hR1 (by simp) hR1s
 have hP2:Parts [R1,⟨#[101,108,115,101]⟩,bs (qam false (q.btx))] T:=by rw[hT2,hR1]; exact .sub n1 (.tok (.sub (qes hd.1) .nil))
 have zb:Z tS (.call 247 [.dat (.sl [.lit (.string R1),.lit (.string ⟨#[101,108,115,101]⟩),.lit (.string (bs (qam false (q.btx))))] 3 true)] [])=some (.ret (.str R) []):=qdE hP2 hR (by simp) hRs
 generalize bs (qam false (c.tx false 1))=r1 at *
 generalize bs (qam false (p.btx))=r2 at *
 generalize bs (qam false (q.btx))=r4 at *
 rw[<- hR]
 have hq1:(0:Int)<q.fo.len:=by omega
 refine Z_call (pf:=F263) rfl rfl ?_
 simp[F263,qah,z1,z2,z4,za,zb,hq1,hq]
theorem qtq {d:D} (hd:V.one (.dat d)=true) (hcl:V.cells (.dat d)=[.dat d]) :
  Z tS (.call 263 [.dat (.agg [.lit (.int .i64 6),.lit (.int .i64 0),.lit (.string ⟨#[]⟩),d])] [])=some (.ret (.str (bs (qam false [⟨#[115,116,111,112]⟩,⟨#[59]⟩]))) []):=by
 have e:bs (qam false [⟨#[115,116,111,112]⟩,⟨#[59]⟩])=⟨#[115,116,111,112,59]⟩:=by decide
 rw[e]
 refine Z_call (pf:=F263) rfl rfl ?_
 simp[F263,hd,hcl]
end Go.Pm
end SSc
section SSd
namespace Go.Pm
open F
set_option maxHeartbeats 8000000
abbrev sbF (s:ByteArray) (i:Int) (ex:Fr):Fr:=(1,.ptr 0 0)::(3,.str s)::(4,.int i)::ex
abbrev sbS (k n:Int) (s:ByteArray) (d:D):S:=[.cells [.int k,.int n,.str s,.dat d]]
def qsk (s:Ss):Prop := ∀ (cs:List D) (m i:Nat) (f:Bool) (k n:Int) (t:ByteArray) w w',cs.drop (i*4)=s.fo.cells->i+s.fo.len=m->m<2 ^ 40->w'=pw w s.tx->w'.length<2 ^ 40 ->
 Z tS (.loop 0 F248l0 (sbF (bs w) i []) (sbS k n t (.sl cs m f)))=some (.out (.exit 0) (sbF (bs w') m [(9,.bool false)]) (sbS k n t (.sl cs m f)))
def quC:Ss->Prop
 | .block _ b r=>qiG b/\quC r
 | _=>True
theorem quD {cs:List D} {m i:Nat} {f:Bool} {k0 n0:Int} {s0:ByteArray} {w w1:List UInt8} {T:List ByteArray} {k n:Int} {s:ByteArray} {d:D} {rest:List D} (hd:cs.drop (i*4) = .lit (.int .i64 k) :: .lit (.int .i64 n) :: .lit (.string s)::d::rest)
  (h1:V.one (.dat d)=true) (hcl:V.cells (.dat d)=[.dat d]) (hi:i<m) (hm:m<2 ^ 40) (hT : ∀ t∈T,t.size≠0) (hw:w1=pw w T) (hsz:w1.length<2 ^ 40)
  (zs:Z tS (.call 263 [.dat (.agg [.lit (.int .i64 k),.lit (.int .i64 n),.lit (.string s),d])] [])=some (.ret (.str (bs (qam false T))) []))
  {r:Res} (zr:Z tS (.loop 0 F248l0 (sbF (bs w1) ((i+1:Nat):Int) []) (sbS k0 n0 s0 (.sl cs m f)))=some r) :
  Z tS (.loop 0 F248l0 (sbF (bs w) i []) (sbS k0 n0 s0 (.sl cs m f)))=some r:=by
 have hc:=qwJ hd
 have hlt:(i:Int)<m:=by omega
 have w1':IntKind.i64.wrap ((i:Int)+1)=((i+1:Nat):Int):=by rw[qaf _ (by omega)]; omega
 have hle:=qf8 T (wl w)
 have zj:=qse (bs w) (bs (qam false T)) (by
  rw[qas,qas]
  have:=congrArg List.length hw
  simp only[pw,List.length_append] at this
  omega)
 rw[qa6,qsf w hT,<- hw] at zj
 rw[<- zr]
 conv=>lhs; rw[qaa]
 generalize ((i+1:Nat):Int)=i1 at *
 generalize bs (qam false T)=R at *
 generalize bs w1=W1 at *
 generalize bs w=W0 at *
 simp[qac,qgJ,qah,V.len,hc,h1,hcl,hlt,hi,zs,zj,w1',List.range_succ]
theorem qmB {b:Ss} (hg:b.good none) (hl:qsk b):qiG b:=by
 have htg:=qig (qhd b none hg).ok
 have hnz : ∀ t∈b.tx,t.size≠0:=fun t ht=>qev (htg t ht)
 refine⟨hnz,?_⟩
 intro k n s f hsz
 obtain⟨w2,e2⟩ : ∃ v,v=pw [123] b.tx:=⟨_,rfl⟩
 have e3:qam false b.btx=w2++[125]:=by
  rw[<- qdY,Ss.btx,qcE,qaw,e2]
  show pw (pw ([]++(gap (wl []) ⟨#[123]⟩++byl ⟨#[123]⟩)) b.tx) [⟨#[125]⟩]=_
  rw[show ([]++(gap (wl []) ⟨#[123]⟩++byl ⟨#[123]⟩):List UInt8)=[123] by decide,qcE,qdR]
  have : ∀ q,gap q ⟨#[125]⟩=[]:=fun q=>by cases q<;>decide
  rw[this]
  rfl
 rw[e3] at hsz ⊢
 have s2:w2.length<2 ^ 40:=by rw[List.length_append] at hsz; omega
 have hb:b.fo.len<2 ^ 40:=by
  have h1:=qew b hg
  have h2:=qfj b.tx (wl [123]) hnz
  have h3:=congrArg List.length e2
  simp only[pw,List.length_append] at h3
  omega
 have hr:bs (w2++[125])=bs w2++⟨#[125]⟩:=(qsd w2 [125]).symm
 have hsz2 : ¬ (9223372036854775807:Int)<((bs w2).size:Int)+1:=by rw[qas]; omega
 have y1:((⟨#[125]⟩:ByteArray).size:Int)=1:=rfl
 have y2:(⟨#[125]⟩:ByteArray).size=1:=rfl
 have z0:(⟨#[123]⟩:ByteArray)=bs [123]:=rfl
 rw[hr]
 refine Z_call (pf:=F248) rfl rfl ?_
 cases hbl:b.fo.len with
 | zero=>
  have hn:=qfl hbl
  subst hn
  have:w2=[123]:=by rw[e2]; exact qdR _
  subst this
  have y3:((⟨#[123]⟩:ByteArray).size:Int)=1:=rfl
  simp[F248,V.len,qaa,qac,qgJ,List.range_succ,bs,y1,y2,y3]
 | succ q=>
  have z2:=hl b.fo.cells (q+1) 0 f k n s [123] w2 (by simp) (by omega) (by omega) e2 s2
  have hk:kd f (q+1) b.fo.cells = .sl b.fo.cells (q+1) f:=rfl
  rw[hk]
  simp only[sbF,sbS,Int.cast_ofNat_Int,<- z0] at z2
  generalize q+1=M at *
  generalize bs w2=W2 at *
  simp[F248,z2,List.range_succ,y1,y2,hsz2]
theorem qsl {S r:Ss} {T:List ByteArray} (htx:S.tx=T++r.tx) (hnz : ∀ t∈S.tx,t.size≠0) {cs:List D} {m i:Nat} {f:Bool} {k0 n0:Int} {s0:ByteArray} {w w':List UInt8} {k n:Int} {s:ByteArray} {d:D}
  (hd:cs.drop (i*4) = .lit (.int .i64 k) :: .lit (.int .i64 n) :: .lit (.string s)::d::r.fo.cells) (h1:V.one (.dat d)=true) (hcl:V.cells (.dat d)=[.dat d]) (hm:i+(r.fo.len+1)=m) (hm2:m<2 ^ 40) (hw:w'=pw w S.tx) (hs:w'.length<2 ^ 40)
  (zs:(qam false T).length<2 ^ 40->Z tS (.call 263 [.dat (.agg [.lit (.int .i64 k),.lit (.int .i64 n),.lit (.string s),d])] [])=some (.ret (.str (bs (qam false T))) [])) (ihr:qsk r) :
  Z tS (.loop 0 F248l0 (sbF (bs w) i []) (sbS k0 n0 s0 (.sl cs m f)))=some (.out (.exit 0) (sbF (bs w') m [(9,.bool false)]) (sbS k0 n0 s0 (.sl cs m f))):=by
 obtain⟨w1,e1⟩ : ∃ v,v=pw w T:=⟨_,rfl⟩
 have e2:w'=pw w1 r.tx:=by rw[hw,htx,qaw,e1]
 have s1:w1.length<2 ^ 40:=Nat.lt_of_le_of_lt (by rw[e2]; exact qjf _ _) hs
 have hle:=qf8 T (wl w)
 have sT:(qam false T).length<2 ^ 40:=by
  have:=congrArg List.length e1
  simp only[pw,List.length_append] at this
  omega
 have nT : ∀ t∈T,t.size≠0:=fun t ht=>hnz t (by rw[htx]; exact List.mem_append_left _ ht)
 exact quD hd h1 hcl (by omega) hm2 nT e1 s1 (zs sT) (ihr cs m (i+1) f k0 n0 s0 w1 w' (qcp hd) (by omega) hm2 e2 hs)
theorem quE : ∀ s:Ss,(s.good none->qsk s)/\((∃ k,s.good (some k))->quC s):=by
 intro s
 have nz : ∀ s:Ss,s.good none -> ∀ t∈s.tx,t.size≠0:=fun s h t ht=>qev (qig (qhd s none h).ok t ht)
 induction s with
 | nil=>
  refine⟨fun _ cs m i f k0 n0 s0 w w' hd hm hm2 hw hs=>?_,fun _=>trivial⟩
  rw[Ss.tx,qdR] at hw
  subst hw
  have:i=m:=by simpa [Ss.fo] using hm
  subst this
  simp only[sbF,sbS]
  rw[qaa]
  simp[qac,qgJ,V.len,List.range_succ]
 | assign g s e r ih=>
  refine⟨fun h cs m i f k0 n0 s0 w w' hd hm hm2 hw hs=>?_,fun _=>trivial⟩
  have hz:=nz _ h
  obtain⟨_,hn,he,hr⟩:=h
  simp only[Ss.fo,qaC,qfy,qaV,qa0,qn5,qc1,qaJ] at hd hm
  exact qsl (S := .assign g s e r) (T:=[s]++([⟨#[61]⟩]++(e.tx false 1++([⟨#[59]⟩]++[])))) (by simp only[Ss.tx,List.cons_append,List.nil_append,List.append_nil,List.append_assoc]; rfl) hz hd rfl rfl (by omega) hm2 hw hs (qpq (fb:=false) (fc:=false) he (by simp only[List.append_assoc,List.append_nil,List.cons_append,List.nil_append])) (ih.1 hr)
 | store g s a b r ih=>
  refine⟨fun h cs m i f k0 n0 s0 w w' hd hm hm2 hw hs=>?_,fun _=>trivial⟩
  have hz:=nz _ h
  obtain⟨_,hn,ha,hb,hr⟩:=h
  simp only[Ss.fo,qaC,qfy,qaV,qa0,qn5,qc1,qaJ] at hd hm
  exact qsl (S := .store g s a b r) (T:=[s]++([⟨#[91]⟩]++(a.tx false 1++([⟨#[93]⟩]++([⟨#[61]⟩]++(b.tx false 1++([⟨#[59]⟩]++[]))))))) (by simp only[Ss.tx,List.cons_append,List.nil_append,List.append_nil,List.append_assoc]; rfl) hz hd rfl rfl (by omega) hm2 hw hs (qrd (fb:=false) (fc:=false) ha hb (by simp only[List.append_assoc,List.append_nil,List.cons_append,List.nil_append])) (ih.1 hr)
 | effect g a b r ih=>
  refine⟨fun h cs m i f k0 n0 s0 w w' hd hm hm2 hw hs=>?_,fun _=>trivial⟩
  have hz:=nz _ h
  obtain⟨_,ha,hb,hr⟩:=h
  simp only[Ss.fo,qaC,qfy,qaV,qa0,qn5,qc1,qaJ] at hd hm
  exact qsl (S := .effect g a b r) (T:=[⟨#[101,102,102,101,99,116]⟩]++(a.tx false 1++([⟨#[44]⟩]++(b.tx false 1++([⟨#[59]⟩]++[]))))) (by simp only[Ss.tx,List.cons_append,List.nil_append,List.append_nil,List.append_assoc]; rfl) hz hd rfl rfl (by omega) hm2 hw hs (qpr (fb:=false) (fc:=false) ha hb (by simp only[List.append_assoc,List.append_nil,List.cons_append,List.nil_append])) (ih.1 hr)
 | stop r ih=>
  refine⟨fun h cs m i f k0 n0 s0 w w' hd hm hm2 hw hs=>?_,fun _=>trivial⟩
  have hz:=nz _ h
  obtain⟨_,hr⟩:=h
  simp only[Ss.fo,qaC,qaV,qa0,qaJ,qv2] at hd hm
  exact qsl (S := .stop r) (T:=[⟨#[115,116,111,112]⟩,⟨#[59]⟩]) rfl hz hd rfl rfl (by omega) hm2 hw hs (fun _=>qtq rfl rfl) (ih.1 hr)
 | cond w0 g c b r ihb ih=>
  refine⟨fun h cs m i f k0 n0 s0 w w' hd hm hm2 hw hs=>?_,fun _=>trivial⟩
  have hz:=nz _ h
  obtain⟨_,hc,hb,hr⟩:=h
  cases w0 with
  | true=>
   obtain⟨fb,b1,rfl,hb1⟩:=qkl hb
   have hrow:=ihb.2 ⟨1,hb⟩
   simp only[Ss.fo,qaC,qfy,qaV,qa0,qn5,qc1,qaJ,if_true] at hd hm
   exact qsl (S := .cond true g c (.block fb b1 .nil) r) (T:=[⟨#[119,104,105,108,101]⟩]++(c.tx false 1++b1.btx)) (by simp only[Ss.tx,Ss.btx,List.cons_append,List.nil_append,List.append_nil,List.append_assoc,qcR,if_true,Bool.false_eq_true,if_false]; rfl) hz hd rfl rfl (by omega) hm2 hw hs (qre (fc:=false) hc hrow.1 (by simp only[List.append_assoc,List.append_nil,List.cons_append,List.nil_append])) (ih.1 hr)
  | false=>
   obtain⟨fb,b1,fc,b2,rfl,hb1,hb2⟩:=qpG hb
   have hrow:=ihb.2 ⟨2,hb⟩
   simp only[Ss.fo,qaC,qfy,qaV,qa0,qn5,qc1,qaJ,Bool.false_eq_true,if_false] at hd hm
   cases hl:b2.fo.len with
   | zero=>
    have hn:=qfl hl
    exact qsl (S := .cond false g c (.block fb b1 (.block fc b2 .nil)) r) (T:=[⟨#[105,102]⟩]++(c.tx false 1++b1.btx)) (by rw[hn]; simp only[Ss.tx,Ss.btx,List.cons_append,List.nil_append,List.append_nil,List.append_assoc,qcR,if_true,Bool.false_eq_true,if_false]; rfl) hz hd rfl rfl (by omega) hm2 hw hs (qvC hc hrow.1 hl (by simp only[List.append_assoc,List.append_nil,List.cons_append,List.nil_append])) (ih.1 hr)
   | succ q=>
    have he:qcR (.block fc b2 .nil)=true:=by cases b2<;>first | rfl | simp[Ss.fo] at hl
    exact qsl (S := .cond false g c (.block fb b1 (.block fc b2 .nil)) r) (T:=[⟨#[105,102]⟩]++(c.tx false 1++(b1.btx++([⟨#[101,108,115,101]⟩]++b2.btx)))) (by simp only[Ss.tx,Ss.btx,he,List.cons_append,List.nil_append,List.append_nil,List.append_assoc,if_true,Bool.false_eq_true,if_false]; rfl) hz hd rfl rfl (by omega) hm2 hw hs (qvD hc hrow.1 (by omega) hrow.2.1 (by simp only[List.append_assoc,List.append_nil,List.cons_append,List.nil_append])) (ih.1 hr)
 | block g b r ihb ih=>
  refine⟨fun h=>?_,fun ⟨k,h⟩=>?_⟩
  ·obtain⟨n,hn,_⟩:=h; cases hn
  ·obtain⟨n,hn,hb,hr⟩:=h
   exact⟨qmB hb (ihb.1 hb),ih.2 ⟨n,hr⟩⟩
end Go.Pm
end SSd
section SSe
namespace Go.Pm
open F
set_option maxHeartbeats 8000000
abbrev hnD:V := .dat (.sl [.lit (.string ⟨#[97,99,116]⟩),.lit (.string ⟨#[116,105,99,107]⟩),.lit (.string ⟨#[104,105,116]⟩)] 3 true)
theorem qlZ:Z tS (.call 152 [] [])=some (.ret hnD []):=by
 refine Z_call (pf:=F152) rfl rfl ?_
 simp[F152]
theorem qva:bs (qam false [])=⟨#[]⟩:=rfl
theorem qsX {T T':List ByteArray} {t:ByteArray} {b:Ss} {R R' Q:ByteArray} (hb:qiG b) (hT : ∀ x∈T,x.size≠0) (hR:R=bs (qam false T)) (hQ:Q=bs (qam false b.btx)) (hT':T'=T++(⟨#[111,110]⟩::t::b.btx)) (hR':R'=bs (qam false T')) (hs:R'.size<2 ^ 40) :
  Z tS (.call 247 [.dat (.sl [.lit (.string R),.lit (.string ⟨#[111,110]⟩),.lit (.string t),.lit (.string Q)] 4 true)] [])=some (.ret (.str R') []):=by
 have hP:Parts [R,⟨#[111,110]⟩,t,Q] T':=by
  rw[hR,hQ,hT']
  have:=Parts.sub hT (.tok (t:=⟨#[111,110]⟩) (.tok (t:=t) (.sub (qes hb.1) .nil)))
  rw[List.append_nil] at this
  exact this
 exact qdE hP hR' (by simp) hs
theorem qnI {T:List ByteArray} {t:ByteArray} {b:Ss} (hT : ∀ x∈T,x.size≠0) (ht:t.size≠0) (hb:qiG b) : ∀ x∈T++(⟨#[111,110]⟩::t::b.btx),x.size≠0:=
 qfh hT (qfh (a:=[⟨#[111,110]⟩,t]) (qfh (a:=[⟨#[111,110]⟩]) (qkb (by decide)) (qkb ht)) (qes hb.1))
theorem ql0 {A B C:Nd} {i:Nat} (hi:i<3) {g:Hd} (hX:(if i=0 then A else if i=1 then B else C)=g.nd) (hb : ∀ s,g.opt=some s->qiG s) {T T':List ByteArray} (hT : ∀ x∈T,x.size≠0) (hT':T'=T++qdH i g.opt) (hs:(qam false T').length<2 ^ 40) :
  (∀ x∈T',x.size≠0)/\Z tS (.loop 0 F236l0 [(1,.ptr 0 0),(3,.str (bs (qam false T))),(4,.int i)] [qmi A B C])=Z tS (.loop 0 F236l0 [(1,.ptr 0 0),(3,.str (bs (qam false T'))),(4,.int ((i+1:Nat):Int))] [qmi A B C]):=by
 have zh:=qlZ
 cases g with
 | none=>
  obtain rfl:T'=T:=by rw[hT']; exact List.append_nil T
  refine⟨hT,?_⟩
  generalize bs (qam false T')=R at *
  conv=>lhs; rw[qaa]
  obtain rfl | rfl | rfl:i=0\/i=1\/i=2:=by omega
  all_goals
   first | (have hX:A=_:=hX; subst hX) | (have hX:B=_:=hX; subst hX) | (have hX:C=_:=hX; subst hX)
   simp[qac,qgI,qmi,Nd.d,Hd.k,Hd.f,Hd.ks,List.range_succ,show IntKind.i64.wrap 1=1 from rfl,show IntKind.i64.wrap 2=2 from rfl,show IntKind.i64.wrap 3=3 from rfl]
 | some f b=>
  have hbb:=hb b rfl
  have hn:T'=T++(⟨#[111,110]⟩::qb0 i::b.btx):=hT'
  have q:(qam false b.btx).length<2 ^ 40:=Nat.lt_of_le_of_lt (by
   have:=qat (T++[⟨#[111,110]⟩,qb0 i]) b.btx [] false
   rw[List.append_nil,List.append_assoc] at this
   rw[hn]
   exact this) hs
  have z:=hbb.2 7 0 ⟨#[]⟩ f q
  have hsz:(qb0 i).size≠0:=by
   obtain rfl | rfl | rfl:i=0\/i=1\/i=2:=by omega
   all_goals decide
  refine⟨by rw[hn]; exact qnI hT hsz hbb,?_⟩
  have y:=qsX (t:=qb0 i) hbb hT rfl rfl hn rfl (by rw[qas]; exact hs)
  generalize bs (qam false b.btx)=Q at *
  generalize bs (qam false T)=R at *
  generalize bs (qam false T')=R' at *
  conv=>lhs; rw[qaa]
  obtain rfl | rfl | rfl:i=0\/i=1\/i=2:=by omega
  all_goals
   first | (have hX:A=_:=hX; subst hX) | (have hX:B=_:=hX; subst hX) | (have hX:C=_:=hX; subst hX)
   simp only[qb0,qh8,qik,bs] at y
   simp[qac,qgI,qmi,Nd.d,Hd.k,Hd.f,Hd.ks,zh,z,y,qah,List.range_succ,show IntKind.i64.wrap 1=1 from rfl,show IntKind.i64.wrap 2=2 from rfl,show IntKind.i64.wrap 3=3 from rfl]
theorem qqH {a b c:Hd} (hg : ∀ k,qcD (Hd.opts a b c k)) (hsz:(qam false (qaG (Hd.opts a b c))).length<2 ^ 40) :
  Z tS (.call 236 [.dat (ru a.nd b.nd c.nd)] [])=some (.ret (.str (bs (qam false (qaG (Hd.opts a b c))))) []):=by
 have hb : ∀ {s:Ss} (k:Nat),Hd.opts a b c k=some s->qiG s:=fun k h=>qmB ((hg k) _ h).1 ((quE _).1 ((hg k) _ h).1)
 have e:qaG (Hd.opts a b c)=(qdH 0 a.opt++qdH 1 b.opt)++qdH 2 c.opt:=by rw[List.append_assoc]; rfl
 have l2:=qat [] (qdH 0 a.opt++qdH 1 b.opt) (qdH 2 c.opt) false
 have l1:=qat [] (qdH 0 a.opt) (qdH 1 b.opt) false
 rw[List.nil_append] at l1 l2
 rw[<- e] at l2
 obtain⟨t1,y1⟩:=ql0 (A:=a.nd) (B:=b.nd) (C:=c.nd) (i:=0) (by omega) (g:=a) rfl (fun s h=>hb 0 h) (T:=[]) (T':=qdH 0 a.opt) qm4 rfl (by omega)
 obtain⟨t2,y2⟩:=ql0 (A:=a.nd) (B:=b.nd) (C:=c.nd) (i:=1) (by omega) (g:=b) rfl (fun s h=>hb 1 h) t1 rfl (by omega)
 obtain⟨t3,y3⟩:=ql0 (A:=a.nd) (B:=b.nd) (C:=c.nd) (i:=2) (by omega) (g:=c) rfl (fun s h=>hb 2 h) t2 rfl (by rw[<- e]; exact hsz)
 rw[<- e] at y3
 have y:=y1.trans (y2.trans y3)
 generalize bs (qam false (qaG (Hd.opts a b c)))=R at *
 have y4:Z tS (.loop 0 F236l0 [(1,.ptr 0 0),(3,.str R),(4,.int ((2+1:Nat):Int))] [qmi a.nd b.nd c.nd])=some (.out (.exit 0) [(1,.ptr 0 0),(3,.str R),(4,.int 3),(6,.bool false)] [qmi a.nd b.nd c.nd]):=by
  rw[qaa]
  simp[qac,qgI]
 have y:=y.trans y4
 rw[qva] at y
 clear y1 y2 y3 y4 hb
 generalize a.nd=A at *
 generalize b.nd=B at *
 generalize c.nd=C at *
 simp only[Int.cast_ofNat_Int,qmi] at y
 refine Z_call (pf:=F236) rfl rfl ?_
 simp[F236,ru,y,List.range_succ]
end Go.Pm
end SSe
section STP
namespace Go.Pm.F
def tP:Nat->Option PFun
 | 228=>some F228
 | 239=>some F239
 | 240=>some F240
 | 241=>some F241
 | 242=>some F242
 | 249=>some F249
 | 250=>some F250
 | 251=>some F251
 | 252=>some F252
 | 253=>some F253
 | 254=>some F254
 | 255=>some F255
 | 256=>some F256
 | 264=>some F264
 | 265=>some F265
 | 266=>some F266
 | 267=>some F267
 | 268=>some F268
 | 269=>some F269
 | 270=>some F270
 | 271=>some F271
 | 275=>some F275
 | 276=>some F276
 | 277=>some F277
 | 278=>some F278
 | 279=>some F279
 | 280=>some F280
 | 281=>some F281
 | 284=>some F284
 | 285=>some F285
 | 286=>some F286
 | 287=>some F287
 | 289=>some F289
 | 290=>some F290
 | 292=>some F292
 | 297=>some F297
 | 303=>some F303
 | 304=>some F304
 | 307=>some F307
 | 308=>some F308
 | 309=>some F309
 | _=>none
end Go.Pm.F
end STP
section SKa
namespace Go.Pm
open F
set_option maxHeartbeats 2000000
theorem qeM (c:UInt8):Z tP (.call 264 [.dat (.lit (.int .u8 c.toNat))] [])=some (.ret (.bool (qaM c)) []):=by
 refine Z_call (pf:=F264) rfl rfl ?_
 by_cases h1:(97:Int)<=c.toNat
 ·have h1':97<=c.toNat:=by omega
  by_cases h2:(c.toNat:Int)<=122
  ·have h2':c.toNat<=122:=by omega
   simp[F264,qaM,h1,h1',h2,h2']
  ·have h2' : ¬ c.toNat<=122:=by omega
   simp[F264,qaM,h1,h1',h2,h2']
 ·have h1' : ¬ 97<=c.toNat:=by omega
  simp[F264,qaM,h1,h1']
theorem qf9 (c:UInt8):Z tP (.call 266 [.dat (.lit (.int .u8 c.toNat))] [])=some (.ret (.bool (qaj c)) []):=by
 refine Z_call (pf:=F266) rfl rfl ?_
 by_cases h1:(48:Int)<=c.toNat
 ·have h1':48<=c.toNat:=by omega
  by_cases h2:(c.toNat:Int)<=57
  ·have h2':c.toNat<=57:=by omega
   simp[F266,qaj,h1,h1',h2,h2']
  ·have h2' : ¬ c.toNat<=57:=by omega
   simp[F266,qaj,h1,h1',h2,h2']
 ·have h1' : ¬ 48<=c.toNat:=by omega
  simp[F266,qaj,h1,h1']
theorem qo7 {d:D} {l:List ByteArray} (hd:RowS d l) (hl:l.length<2 ^ 40) (x:ByteArray) : ∀ (m i:Nat),i+m=l.length ->
  (x∉l.drop i->Z tP (.loop 0 F284l0 [(0,.dat d),(1,.str x),(7,.int l.length),(8,.int i)] [])=some (.out (.exit 0) [(0,.dat d),(1,.str x),(7,.int l.length),(8,.int l.length),(9,.bool false)] [])) /\
  (x∈l.drop i -> ∃ (j:Nat),Z tP (.loop 0 F284l0 [(0,.dat d),(1,.str x),(7,.int l.length),(8,.int i)] [])=some (.out .ret [(4,.int j)] []))
 | 0,i,hi=>by
  obtain rfl:i=l.length:=by omega
  have ho:=hd.one
  have hc:=hd.cells
  refine⟨fun _=>?_,fun h=>by simp at h⟩
  rw[qaa]
  simp[qac,qfb,ho,hc]
 | m+1,i,hi=>by
  have hlt:i<l.length:=by omega
  have hlt':(i:Int)<l.length:=by omega
  have ho:=hd.one
  have hcl:=hd.cells
  have ha:=hd.at_ i hlt
  have hc:=qfk l i hlt
  have w1:=qaf ((i:Int)+1) (by omega)
  have hdr:l.drop i=l[i]::l.drop (i+1):=List.drop_eq_getElem_cons hlt
  obtain⟨ih1,ih2⟩:=qo7 hd hl x m (i+1) (by omega)
  simp only[Int.natCast_add,Int.cast_ofNat_Int] at ih1 ih2
  rw[hdr]
  generalize l[i]=y at hc ⊢
  by_cases hx:x=y
  ·subst hx
   refine⟨fun h=>absurd (List.mem_cons_self ..) h,fun _=>⟨i,?_⟩⟩
   rw[qaa]
   simp[qac,qfb,hlt',ha,hc,qaX,ho,hcl]
  ·refine⟨fun h=>?_,fun h=>?_⟩
   ·have z:=ih1 (fun h'=>h (List.mem_cons_of_mem _ h'))
    rw[qaa]
    simp[qac,qfb,hlt',ha,hc,qaX,hx,w1,z,ho,hcl]
   ·rcases List.mem_cons.1 h with h | h
    ·exact absurd h hx
    ·obtain⟨j,z⟩:=ih2 h
     refine⟨j,?_⟩
     rw[qaa]
     simp[qac,qfb,hlt',ha,hc,qaX,hx,w1,z,ho,hcl]
theorem qnL {d:D} {l:List ByteArray} (hd:RowS d l) (hl:l.length<2 ^ 40) (x:ByteArray):Z tP (.call 276 [.dat d,.str x] [])=some (.ret (.bool (decide (x∈l))) []):=by
 have ho:=hd.one
 have hc:=hd.cells
 have hn:=hd.len
 obtain⟨i1,i2⟩:=qo7 hd hl x l.length 0 (by omega)
 simp only[Int.natCast_zero,List.drop_zero] at i1 i2
 by_cases h:x∈l
 ·obtain⟨j,z⟩:=i2 h
  have z2:Z tP (.call 284 [.dat d,.str x] [])=some (.ret (.int j) []):=by
   refine Z_call (pf:=F284) rfl rfl ?_
   simp[F284,ho,hc,hn,z]
  have hj:(0:Int)<=j:=by omega
  refine Z_call (pf:=F276) rfl rfl ?_
  simp[F276,ho,hc,z2,h,hj]
 ·have z:=i1 h
  have z2:Z tP (.call 284 [.dat d,.str x] [])=some (.ret (.int (-1)) []):=by
   refine Z_call (pf:=F284) rfl rfl ?_
   simp[F284,ho,hc,hn,z]
  refine Z_call (pf:=F276) rfl rfl ?_
  simp[F276,ho,hc,z2,h]
end Go.Pm
end SKa
