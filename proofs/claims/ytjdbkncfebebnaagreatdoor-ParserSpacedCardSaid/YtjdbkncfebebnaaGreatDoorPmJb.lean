/- Chapter 13's reference parser: white space, comments. Chapter 13's reference parser: a token. Chapter 13's reference parser: all tokens of a source. Chapter 13's reference parser: the parser's state; what it looks at, takes, expects. Chapter 13's reference parser: its states, good and behind an error, against the plain tokens. Chapter 13's reference parser: each kind of statement. Chapter 13's reference parser: handlers; a whole source. Chapter 13's reference parser: Parse is the plain one. The rule language in plain Lean: texts of tokens; tokens left out; how long a source is. No program in sight. The rule language in plain Lean: what the parser makes of expressions is good, no deeper, no longer. No program in sight. -/
import Derived.Test.YtjdbkncfebebnaaGreatDoorPmFx
import Derived.Test.YtjdbkncfebebnaaGreatDoorPmEt
import Derived.Test.YtjdbkncfebebnaaGreatDoorPmYh
set_option linter.unusedSimpArgs false
set_option linter.unusedVariables false
section SJb
namespace Go.Pm
open F
set_option maxHeartbeats 2000000
def cmtL:List UInt8->Nat
 | []=>0
 | b::r=>if b.toNat=10 then 0 else cmtL r+1
theorem qpO : ∀ l,cmtL l<=l.length
 | []=>by simp[cmtL]
 | b::r=>by
  have:=qpO r
  simp only[cmtL,List.length_cons]
  split<;>omega
theorem qjp : ∀ l:List UInt8,qaD true l=cmtL l+qaD false (l.drop (cmtL l))
 | []=>by simp[qaD,cmtL]
 | b::r=>by
  have ih:=qjp r
  simp only[cmtL]
  by_cases h:b.toNat=10
  ·simp[qaD,h]
  ·rw[if_neg h,List.drop_succ_cons]
   simp only[qaD,if_neg h,true_or,if_true,ih]
   omega
theorem qpP {b:UInt8} {r:List UInt8} (h:b.toNat=35):qaD false (b::r)=cmtL (b::r)+qaD false ((b::r).drop (cmtL (b::r))):=by
 have h10 : ¬ b.toNat=10:=by omega
 simp only[cmtL,if_neg h10,List.drop_succ_cons]
 simp only[qaD,if_neg h10,if_pos h,qjp r]
 have : ¬ (false=true\/b.toNat=32\/b.toNat=9):=by
  rintro (h | h | h)
  ·cases h
  ·omega
  ·omega
 rw[if_neg this]
 omega
theorem qdM {s:ByteArray} {i:Nat} {c:UInt8} (h:s.data.toList[i]?=some c):(byl s).drop i=c::(byl s).drop (i+1):=by
 have hi:=(List.getElem?_eq_some_iff.1 h)
 obtain⟨h1,h2⟩:=hi
 rw[<- h2]
 exact List.drop_eq_getElem_cons h1
theorem qnk (s:ByteArray) (hl:s.size<2 ^ 40) : ∀ (m i:Nat) (ex:Fr),i+m=s.size->(ex=[]\/ex=[(12,.bool true)]) ->
  Z tR (.loop 0 F170l1 ((0,.str s)::(1,.int i)::ex) [])=some (.out (.exit 2) [(0,.str s),(1,.int ((i+cmtL ((byl s).drop i):Nat))),(22,.bool false)] [])
 | 0,i,ex,hi,hex=>by
  obtain rfl:i=s.size:=by omega
  have hd:(byl s).drop s.size=[]:=List.drop_eq_nil_of_le (by rw[qar]; exact Nat.le_refl _)
  rw[qaa,hd]
  rcases hex with rfl | rfl<;>simp[qac,qgs,V.len,cmtL]
 | m+1,i,ex,hi,hex=>by
  obtain⟨c,h1,h2⟩:=qhg (s:=s) (i:=i) (by omega)
  have hd:=qdM h2
  have hlt:(i:Int)<s.size:=by omega
  have w1:=qaf ((i:Int)+1) (by omega)
  rw[qaa,hd]
  by_cases h:c.toNat=10
  ·rcases hex with rfl | rfl<;>simp[qac,qgs,V.len,cmtL,h1,hlt,h]
  ·have h' : ¬ (c.toNat:Int)=10:=by omega
   have ih:=qnk s hl m (i+1) [] (by omega) (.inl rfl)
   simp only[Int.natCast_add,Int.cast_ofNat_Int] at ih
   rcases hex with rfl | rfl
   all_goals
    simp[qac,qgs,V.len,cmtL,h1,hlt,h,h',w1,ih]
    omega
theorem qim (s:ByteArray) (hl:s.size<2 ^ 40) : ∀ (m i:Nat) (ex:Fr),s.size-i<=m->i<=s.size->(ex=[]\/ex=[(22,.bool false)]) ->
  ∃ t v,Z tR (.loop 0 F170l0 ((0,.str s)::(1,.int i)::ex) [])=some (.out (.exit 0) [(0,.str s),(1,.int ((i+qaD false ((byl s).drop i):Nat))),(t,.bool v)] [])
 | m,i,ex,hm,hi,hex=>by
  by_cases hend:i=s.size
  ·subst hend
   have hd:(byl s).drop s.size=[]:=List.drop_eq_nil_of_le (by rw[qar]; exact Nat.le_refl _)
   refine⟨8,false,?_⟩
   rw[qaa,hd]
   rcases hex with rfl | rfl<;>simp[qac,qe8,V.len,qaD]
  ·cases m with
   | zero=>omega
   | succ m=>
    obtain⟨c,h1,h2⟩:=qhg (s:=s) (i:=i) (by omega)
    have hd:=qdM h2
    have hlt:(i:Int)<s.size:=by omega
    have w1:=qaf ((i:Int)+1) (by omega)
    by_cases h35:c.toNat=35
    ·have zc:=qnk s hl (s.size-i) i [(12,.bool true)] (by omega) (.inr rfl)
     have hle:=qpO ((byl s).drop i)
     rw[List.length_drop,qar] at hle
     have hpos:0<cmtL ((byl s).drop i):=by
      rw[hd]; simp only[cmtL]; rw[if_neg (by omega)]; omega
     obtain⟨t,v,ih⟩:=qim s hl m (i+cmtL ((byl s).drop i)) [(22,.bool false)] (by omega) (by omega) (.inr rfl)
     refine⟨t,v,?_⟩
     have hsk:qaD false ((byl s).drop i)=cmtL ((byl s).drop i)+qaD false ((byl s).drop (i+cmtL ((byl s).drop i))):=by
      rw[<- List.drop_drop,hd]
      exact qpP h35
     rw[hsk,<- Nat.add_assoc,<- ih,qaa]
     generalize cmtL ((byl s).drop i)=q at zc
     rcases hex with rfl | rfl<;>simp[qac,qe8,V.len,h1,hlt,h35,zc]
    ·have h35' : ¬ (c.toNat:Int)=35:=by omega
     by_cases hw:c.toNat=32\/c.toNat=9\/c.toNat=10
     ·obtain⟨t,v,ih⟩:=qim s hl m (i+1) [] (by omega) (by omega) (.inl rfl)
      refine⟨t,v,?_⟩
      have hsk:qaD false ((byl s).drop i)=1+qaD false ((byl s).drop (i+1)):=by
       rw[hd]
       simp only[qaD]
       rcases hw with h | h | h
       ·simp[h]; omega
       ·simp[h]; omega
       ·simp[h]; omega
      rw[hsk,<- Nat.add_assoc,<- ih,qaa]
      rcases hw with h | h | h<;>rcases hex with rfl | rfl<;>simp[qac,qe8,V.len,h1,hlt,h,w1]
     ·simp only[not_or] at hw
      have h32 : ¬ (c.toNat:Int)=32:=by omega
      have h9 : ¬ (c.toNat:Int)=9:=by omega
      have h10 : ¬ (c.toNat:Int)=10:=by omega
      have hsk:qaD false ((byl s).drop i)=0:=by
       rw[hd]
       simp only[qaD]
       simp[hw.1,hw.2.1,hw.2.2,h35]
      refine⟨40,true,?_⟩
      rw[hsk,qaa]
      rcases hex with rfl | rfl<;>simp[qac,qe8,V.len,h1,hlt,h35',h32,h9,h10]
theorem qsb (s:ByteArray) (hl:s.size<2 ^ 40) {i:Nat} (hi:i<=s.size):Z tR (.call 170 [.str s,.int i] [])=some (.ret (.int ((i+qaD false ((byl s).drop i):Nat))) []):=by
 refine Z_call (pf:=F170) rfl rfl ?_
 obtain⟨t,v,z⟩:=qim s hl (s.size-i) i [] (Nat.le_refl _) hi (.inl rfl)
 simp[F170,z]
end Go.Pm
end SJb
section SJc
namespace Go.Pm
open F
set_option maxHeartbeats 4000000
abbrev tk0:Ob := .cells [.int 0,.str ⟨#[]⟩,.int 0]
theorem qkL (s:ByteArray) (hl:s.size<2 ^ 40) (a:Int) : ∀ (m i:Nat) (ex:Fr),i+m=s.size->(ex=[]\/ex=[(19,.bool true)]) ->
  ∃ t v,Z tR (.loop 0 F171l0 ((0,.str s)::(1,.int a)::(4,.ptr 0 0)::(5,.int i)::ex) [tk0])=some (.out (.exit 0) [(0,.str s),(1,.int a),(4,.ptr 0 0),(5,.int ((i+qaY qao ((byl s).drop i):Nat))),(t,.bool v)] [tk0])
 | 0,i,ex,hi,hex=>by
  obtain rfl:i=s.size:=by omega
  have hd:(byl s).drop s.size=[]:=List.drop_eq_nil_of_le (by rw[qar]; exact Nat.le_refl _)
  refine⟨35,false,?_⟩
  rw[qaa,hd]
  rcases hex with rfl | rfl<;>simp[qac,qe9,V.len,qaY,List.range_succ]
 | m+1,i,ex,hi,hex=>by
  obtain⟨c,h1,h2⟩:=qhg (s:=s) (i:=i) (by omega)
  have hd:=qdM h2
  have hlt:(i:Int)<s.size:=by omega
  have w1:=qaf ((i:Int)+1) (by omega)
  have zl:=qki c
  have zd:=qmf c
  obtain⟨t,v,ih⟩:=qkL s hl a m (i+1) [] (by omega) (.inl rfl)
  simp only[Int.natCast_add,Int.cast_ofNat_Int] at ih
  by_cases hc:qao c=true
  ·refine⟨t,v,?_⟩
   have e:(i:Int)+((qaY qao ((byl s).drop (i+1)):Int)+1)=i+1+qaY qao ((byl s).drop (i+1)):=by omega
   rw[qaa,hd]
   simp only[qao,Bool.or_eq_true] at hc
   by_cases hcl:qaM c=true
   ·rcases hex with rfl | rfl<;>simp[qac,qe9,V.len,qaY,h1,hlt,w1,zl,zd,hcl,ih,qao,e,List.range_succ]
   ·have hcd:qaj c=true:=by rcases hc with h | h; exact absurd h hcl; exact h
    rcases hex with rfl | rfl<;>simp[qac,qe9,V.len,qaY,h1,hlt,w1,zl,zd,hcl,hcd,ih,qao,e,List.range_succ]
  ·refine⟨35,false,?_⟩
   simp only[qao,Bool.or_eq_true,not_or] at hc
   rw[qaa,hd]
   rcases hex with rfl | rfl<;>simp[qac,qe9,V.len,qaY,h1,hlt,w1,zl,zd,hc.1,hc.2,qao,List.range_succ]
theorem qmD (s:ByteArray) (hl:s.size<2 ^ 40) (a:Int) : ∀ (m i:Nat) (ex:Fr),i+m=s.size->(ex=[]\/ex=[(59,.bool true)]) ->
  ∃ t v,Z tR (.loop 0 F171l1 ((0,.str s)::(1,.int a)::(4,.ptr 0 0)::(5,.int i)::ex) [tk0])=some (.out (.exit 2) [(0,.str s),(1,.int a),(4,.ptr 0 0),(5,.int ((i+qaY qaj ((byl s).drop i):Nat))),(t,.bool v)] [tk0])
 | 0,i,ex,hi,hex=>by
  obtain rfl:i=s.size:=by omega
  have hd:(byl s).drop s.size=[]:=List.drop_eq_nil_of_le (by rw[qar]; exact Nat.le_refl _)
  refine⟨69,false,?_⟩
  rw[qaa,hd]
  rcases hex with rfl | rfl<;>simp[qac,qgt,V.len,qaY,List.range_succ]
 | m+1,i,ex,hi,hex=>by
  obtain⟨c,h1,h2⟩:=qhg (s:=s) (i:=i) (by omega)
  have hd:=qdM h2
  have hlt:(i:Int)<s.size:=by omega
  have w1:=qaf ((i:Int)+1) (by omega)
  have zl:=qki c
  have zd:=qmf c
  obtain⟨t,v,ih⟩:=qmD s hl a m (i+1) [] (by omega) (.inl rfl)
  simp only[Int.natCast_add,Int.cast_ofNat_Int] at ih
  by_cases hc:qaj c=true
  ·refine⟨t,v,?_⟩
   have e:(i:Int)+((qaY qaj ((byl s).drop (i+1)):Int)+1)=i+1+qaY qaj ((byl s).drop (i+1)):=by omega
   rw[qaa,hd]
   rcases hex with rfl | rfl<;>simp[qac,qgt,V.len,qaY,h1,hlt,w1,zd,hc,ih,e,List.range_succ]
  ·refine⟨69,false,?_⟩
   rw[qaa,hd]
   rcases hex with rfl | rfl<;>simp[qac,qgt,V.len,qaY,h1,hlt,w1,zd,hc,List.range_succ]
abbrev tkD (t:Tk):V := .dat (.agg [.lit (.int .i64 t.at_),.lit (.string t.s),.lit (.int .i64 t.bad)])
def qwf:List ByteArray:=symB.map fun n=>bs [n.toUInt8]
theorem qqj (c:UInt8):bs [c]∈qwf↔c.toNat∈symB:=by
 constructor
 ·intro h
  obtain⟨n,hn,he⟩:=List.mem_map.1 h
  have:=qjr he
  simp only[List.cons.injEq,and_true] at this
  rw[<- this]
  revert hn
  simp only[symB,List.mem_cons,List.not_mem_nil,or_false]
  rintro (rfl | rfl | rfl | rfl | rfl | rfl | rfl | rfl | rfl | rfl | rfl | rfl | rfl | rfl | rfl | rfl)<;>decide
 ·intro h
  refine List.mem_map.2 ⟨c.toNat,h,?_⟩
  simp
theorem qfV (p:UInt8->Bool) : ∀ l:List UInt8,∀ b∈l.take (qaY p l),p b=true
 | [],b,h=>by simp[qaY] at h
 | c::r,b,h=>by
  simp only[qaY] at h
  split at h
  ·rename_i hc
   rw[List.take_succ_cons] at h
   rcases List.mem_cons.1 h with rfl | h
   ·exact hc
   ·exact qfV p r b h
  ·simp at h
theorem qsm (s:ByteArray) (hl:s.size<2 ^ 40) {i:Nat} (hi:i<s.size):Z tR (.call 171 [.str s,.int i] [])=some (.ret (tkD (tokAt 12 2 6 s i)) []):=by
 refine Z_call (pf:=F171) rfl rfl ?_
 obtain⟨c,h1,h2⟩:=qhg hi
 have hd:=qdM h2
 have hlt : ¬ (s.size:Int)<=i:=by omega
 have hlt':(i:Int)<s.size:=by omega
 have zl:=qki c
 have zd:=qmf c
 have w1:=qaf ((i:Int)+1) (by omega)
 obtain⟨t1,v1,zw⟩:=qkL s hl i (s.size-(i+1)) (i+1) [(19,.bool true)] (by omega) (.inr rfl)
 obtain⟨t2,v2,zg⟩:=qmD s hl i (s.size-(i+1)) (i+1) [(59,.bool true)] (by omega) (.inr rfl)
 have e1 : ∀ p,p c=true->i+1+qaY p ((byl s).drop (i+1))=qnx p s (s.size-i) i:=fun p hp=>by
  rw[qgM p s _ i (Nat.le_refl _),hd]
  simp only[qaY,hp,if_true]; omega
 have e2 : ∀ p,qnx p s (s.size-i) i<=s.size:=fun p=>by
  rw[qgM p s _ i (Nat.le_refl _)]
  have:=qdN p ((byl s).drop i)
  rw[List.length_drop,qar] at this
  omega
 have e3 : ∀ p,i<=qnx p s (s.size-i) i:=fun p=>by rw[qgM p s _ i (Nat.le_refl _)]; omega
 simp only[Int.natCast_add,Int.cast_ofNat_Int] at zw zg
 have sz : ∀ j,j<=s.size->i<=j->(s.extract i j).size=j-i:=fun j hj hij=>by rw[ByteArray.size_extract]; omega
 by_cases hlet:qaM c=true
 ·have hw:qao c=true:=by simp[qao,hlet]
  have q:=e1 qao hw
  have q2:=e2 qao
  have q3:=e3 qao
  generalize hj:qnx qao s (s.size-i) i=j at q q2 q3
  have q':(i:Int)+1+qaY qao ((byl s).drop (i+1))=j:=by omega
  rw[q'] at zw
  have zr:=qnZ (s.extract i j)
  have hsz:=sz j q2 q3
  have w2:=qaf ((j:Int)-i) (by omega)
  have b1:(0:Int)<=i/\(i:Int)<=j:=by omega
  have b2:(0:Int)<=j/\(j:Int)<=s.size:=by omega
  have htok:tokAt 12 2 6 s i=⟨i,s.extract i j,if 8<(s.extract i j).size/\s.extract i j∉fieldNames/\s.extract i j∉wordNames then 2 else 0⟩:=by
   unfold tokAt
   rw[h1]
   simp only[hlet,if_true,hj]
  rw[htok,hsz]
  obtain⟨w,hwx⟩ : ∃ w,s.extract i j=w:=⟨_,rfl⟩
  rw[hwx] at zr ⊢
  have b3:(j:Int)<=s.size:=by omega
  have b4:(i:Int)<=j:=by omega
  by_cases h8:8<j-i
  ·have h8':(8:Int)<(j:Int)-i:=by omega
   by_cases hres:w∈fieldNames\/w∈wordNames
   ·have hn : ¬ (8<j-i/\w∉fieldNames/\w∉wordNames):=by
     rintro ⟨_,h,h'⟩
     rcases hres with hres | hres
     ·exact h hres
     ·exact h' hres
    simp[F171,V.len,h1,hlt,zl,hlet,zw,qa7,bound,hwx,b3,b4,w1,w2,h8',zr,hres,if_neg hn,List.range_succ]
   ·have hn:8<j-i/\w∉fieldNames/\w∉wordNames:=⟨h8,fun h=>hres (.inl h),fun h=>hres (.inr h)⟩
    simp[F171,V.len,h1,hlt,zl,hlet,zw,qa7,bound,hwx,b3,b4,w1,w2,h8',zr,hres,if_pos hn,List.range_succ]
  ·have h8' : ¬ (8:Int)<(j:Int)-i:=by omega
   have hn : ¬ (8<j-i/\w∉fieldNames/\w∉wordNames):=fun h=>h8 h.1
   simp[F171,V.len,h1,hlt,zl,hlet,zw,qa7,bound,hwx,b3,b4,w1,w2,h8',if_neg hn,List.range_succ]
 ·by_cases hdig:qaj c=true
  ·have q:=e1 qaj hdig
   have q2:=e2 qaj
   have q3:=e3 qaj
   have hrun:=qgM qaj s _ i (Nat.le_refl (s.size-i))
   have hall:=qfV qaj ((byl s).drop i)
   have htake:(byl (s.extract i (qnx qaj s (s.size-i) i)))=((byl s).drop i).take (qaY qaj ((byl s).drop i)):=by
    rw[hrun,qbW,qa6]
   generalize hj:qnx qaj s (s.size-i) i=j at q q2 q3 htake
   have q':(i:Int)+1+qaY qaj ((byl s).drop (i+1))=j:=by omega
   rw[q'] at zg
   have hsz:=sz j q2 q3
   have zv:=qtM (s:=s.extract i j) (fun b hb=>hall b (by rw[<- htake]; exact hb)) (by omega)
   have b3:(j:Int)<=s.size:=by omega
   have b4:(i:Int)<=j:=by omega
   have htok:tokAt 12 2 6 s i=⟨i,s.extract i j,if 2147483647<digV (s.extract i j).data.toList then 6 else 0⟩:=by
    unfold tokAt
    rw[h1]
    simp only[hlet,hdig,if_true,hj,Bool.false_eq_true,if_false,ByteArray.toList_eq]
   rw[htok]
   obtain⟨w,hw⟩ : ∃ w,s.extract i j=w:=⟨_,rfl⟩
   rw[hw] at zv ⊢
   by_cases hb:2147483647<digV w.data.toList
   ·have hv:qum w.data.toList = -1:=by rw[qum,if_pos hb]
    rw[hv] at zv
    simp[F171,V.len,h1,hlt,zl,zd,hlet,hdig,zg,qa7,bound,b3,b4,w1,hw,zv,hb,List.range_succ]
   ·have hv : ¬ qum w.data.toList<0:=by rw[qum,if_neg hb]; omega
    simp[F171,V.len,h1,hlt,zl,zd,hlet,hdig,zg,qa7,bound,b3,b4,w1,hw,zv,hv,hb,List.range_succ]
  ·have w3:=qaf ((i:Int)+2) (by omega)
   have b8:(0:Int)<=(i:Int)+2:=by omega
   have b9:((i:Int)+2).toNat=i+2:=by omega
   have b8':(0:Int)<=(i:Int)+1:=by omega
   have b9':((i:Int)+1).toNat=i+1:=by omega
   have c1:(i:Int)<=(i:Int)+2:=by omega
   have c2:(i:Int)<=(i:Int)+1:=by omega
   have e5:s.extract i (i+1)=bs [c]:=by rw[qbW,hd]; rfl
   have b5:(i:Int)+1<=s.size:=by omega
   have hsym : ∀ (hp : ¬ (i+2<=s.size/\s.extract i (i+2)∈qc5)),tokAt 12 2 6 s i=⟨i,bs [c],if c.toNat∈symB then 0 else 12⟩:=fun hp=>by
    unfold tokAt
    rw[h1]
    simp only[hlet,hdig,Bool.false_eq_true,if_false,if_neg hp,e5]
    split<;>rfl
   have zs:=qng (qag qwf true) (by decide) (bs [c])
   rw[show (decide (bs [c]∈qwf))=decide (c.toNat∈symB) from by rw[decide_eq_decide]; exact qqj c] at zs
   simp only[show qwf=[⟨#[123]⟩,⟨#[125]⟩,⟨#[91]⟩,⟨#[93]⟩,⟨#[40]⟩,⟨#[41]⟩,⟨#[61]⟩,⟨#[59]⟩,⟨#[44]⟩,⟨#[60]⟩,⟨#[62]⟩,⟨#[43]⟩,⟨#[45]⟩,⟨#[42]⟩,⟨#[47]⟩,⟨#[33]⟩] from rfl,strC,List.map_cons,List.map_nil,List.length_cons,List.length_nil,Nat.reduceAdd,Nat.zero_add] at zs
   generalize hgb:bs [c]=q at zs e5 hsym
   generalize hgs:decide (c.toNat∈symB)=bb at zs
   have hs2:(if c.toNat∈symB then 0 else 12)=(if bb=true then 0 else 12):=by rw[<- hgs]; simp
   by_cases h2s:i+2<=s.size
   ·have b6:(i:Int)+2<=s.size:=by omega
    have b7 : ¬ (s.size:Int)<(i:Int)+2:=by omega
    have zp:=qng (qag qc5 true) (by decide) (s.extract i (i+2))
    generalize hgp:decide (s.extract i (i+2)∈qc5)=pb at zp
    simp only[qc5,strC,List.map_cons,List.map_nil,List.length_cons,List.length_nil,bs,Nat.reduceAdd,Nat.zero_add] at zp
    by_cases hp:s.extract i (i+2)∈qc5
    ·have htok:tokAt 12 2 6 s i=⟨i,s.extract i (i+2),0⟩:=by
      unfold tokAt
      rw[h1]
      simp only[hlet,hdig,Bool.false_eq_true,if_false,if_pos (And.intro h2s hp)]
     rw[htok]
     obtain⟨w,hwx⟩ : ∃ w,s.extract i (i+2)=w:=⟨_,rfl⟩
     rw[decide_eq_true hp] at hgp
     rw[hwx] at zp ⊢
     subst hgp
     simp[F171,V.len,h1,hlt,zl,zd,hlet,hdig,qa7,bound,w1,w3,b8,b9,b8',b9',c1,c2,b6,b7,hwx,zp,qkU,qnD,List.range_succ]
    ·have htok:=hsym (fun h=>hp h.2)
     obtain⟨w,hwx⟩ : ∃ w,s.extract i (i+2)=w:=⟨_,rfl⟩
     rw[decide_eq_false hp] at hgp
     rw[hwx] at zp
     subst hgp
     rw[htok,hs2]
     cases bb with
     | true=>simp[F171,V.len,h1,hlt,zl,zd,hlet,hdig,qa7,bound,w1,w3,b8,b9,b8',b9',c1,c2,b5,b6,b7,hwx,zp,zs,e5,qkU,qnD,List.range_succ]
     | false=>simp[F171,V.len,h1,hlt,zl,zd,hlet,hdig,qa7,bound,w1,w3,b8,b9,b8',b9',c1,c2,b5,b6,b7,hwx,zp,zs,e5,qkU,qnD,List.range_succ]
   ·have b6 : ¬ (i:Int)+2<=s.size:=by omega
    have htok:=hsym (fun h=>h2s h.1)
    rw[htok,hs2]
    cases bb with
    | true=>simp[F171,V.len,h1,hlt,zl,zd,hlet,hdig,qa7,bound,w1,w3,b8,b9,b8',b9',c1,c2,b5,b6,zs,e5,List.range_succ]
    | false=>simp[F171,V.len,h1,hlt,zl,zd,hlet,hdig,qa7,bound,w1,w3,b8,b9,b8',b9',c1,c2,b5,b6,zs,e5,List.range_succ]
end Go.Pm
end SJc
section SJd
namespace Go.Pm
open F
set_option maxHeartbeats 4000000
def tkC:List Tk->List D
 | []=>[]
 | t::r => .lit (.int .i64 t.at_) :: .lit (.string t.s) :: .lit (.int .i64 t.bad)::tkC r
theorem qp1 (a b:List Tk):tkC (a++b)=tkC a++tkC b:=by
 induction a with
 | nil=>rfl
 | cons t a ih=>simp[tkC,ih]
theorem qp2 (a:List Tk):(tkC a).length=a.length*3:=by
 induction a with
 | nil=>rfl
 | cons t a ih=>simp[tkC,ih]; omega
theorem qnq : ∀ (T:List Tk) (i:Nat),(tkC T).drop (i*3)=tkC (T.drop i)
 | [],i=>by simp[tkC]
 | t::T,0=>by simp
 | t::T,i+1=>by
  rw[show (i+1)*3=i*3+3 by omega]
  simp only[tkC,List.drop_succ_cons]
  exact qnq T i
def qwa (v:V) (σ : S) (T:List Tk):Prop:=(T=[]/\v = .dat (.lit (.slice none 0 0)) /\ σ = [])\/(T≠[]/\v = .gsl (tkC T) T.length 3 0 /\ σ = [.tip (tkC T).length])
def allT (s:ByteArray):Nat->Nat->List Tk
 | 0,_=>[]
 | n+1,i=>if i<s.size then tokAt 12 2 6 s i::allT s n (i+(tokAt 12 2 6 s i).s.size+qaD false ((byl s).drop (i+(tokAt 12 2 6 s i).s.size))) else []
theorem qrC (eS eL eR:Nat) (c:UInt8) (r:List UInt8):1<=(tokL eS eL eR (c::r)).1.length/\(tokL eS eL eR (c::r)).1.length<=r.length+1:=by
 have h1:=qdN qao (c::r)
 have h2:=qdN qaj (c::r)
 simp only[tokL]
 split
 ·rename_i h
  have hw:qao c=true:=by simp[qao,h]
  have:1<=qaY qao (c::r):=by simp only[qaY,hw,if_true]; omega
  simp only[List.length_take,List.length_cons] at h1 ⊢
  omega
 split
 ·rename_i h
  have:1<=qaY qaj (c::r):=by simp only[qaY,h,if_true]; omega
  simp only[List.length_take,List.length_cons] at h2 ⊢
  omega
 split
 ·rename_i h
  have:=qfn h
  rw[qas] at this
  simp only[List.length_take,List.length_cons] at this ⊢
  omega
 split<;>simp
theorem qeY {s:ByteArray} {i:Nat} (hi:i<s.size) (eS eL eR:Nat):1<=(tokAt eS eL eR s i).s.size/\i+(tokAt eS eL eR s i).s.size<=s.size:=by
 obtain⟨c,h1,h2⟩:=qhg hi
 have hd:=qdM h2
 rw[qct]
 simp only[qas]
 rw[hd]
 have:=qrC eS eL eR c ((byl s).drop (i+1))
 rw[List.length_drop,qar] at this
 omega
theorem qmm {s:ByteArray} {j:Nat} (hj:j<=s.size):j+qaD false ((byl s).drop j)<=s.size:=by
 have:=qfm ((byl s).drop j) false
 rw[List.length_drop,qar] at this
 omega
theorem qlC (s:ByteArray) (hl:s.size<2 ^ 30) : ∀ (n i:Nat) (T:List Tk) (v:V) (σ : S),s.size-i<=n->i<=s.size->T.length<=i->qwa v σ T ->
  ∃ v' σ',qwa v' σ' (T++allT s n i)/\(T++allT s n i).length<=s.size/\Z tR (.loop 0 F149l0 [(0,.str s),(3,v),(4,.int i)] σ)=some (.out (.exit 0) [(0,.str s),(3,v'),(4,.int s.size),(11,.bool false)] σ')
 | n,i,T,v,σ,hn,hi,hT,hr=>by
  by_cases hend:i=s.size
  ·subst hend
   have hall:allT s n s.size=[]:=by cases n<;>simp[allT]
   refine⟨v,σ,by rw[hall,List.append_nil]; exact hr,by rw[hall,List.append_nil]; exact hT,?_⟩
   rw[qaa]
   rcases hr with ⟨rfl,rfl,rfl⟩ | ⟨_,rfl,rfl⟩<;>simp[qac,qgr,V.len]
  ·cases n with
   | zero=>omega
   | succ n=>
    have hlt:i<s.size:=by omega
    have hlt':(i:Int)<s.size:=by omega
    obtain⟨p1,p2⟩:=qeY hlt 12 2 6
    have zt:=qsm s (by omega) hlt
    have htat:(tokAt 12 2 6 s i).at_=i:=by rw[qct]
    have hall:allT s (n+1) i=tokAt 12 2 6 s i::allT s n (i+(tokAt 12 2 6 s i).s.size+qaD false ((byl s).drop (i+(tokAt 12 2 6 s i).s.size))):=by simp only[allT]; rw[if_pos hlt]
    rw[hall]
    generalize tokAt 12 2 6 s i=t at *
    have zs:=qsb s (by omega) (i:=i+t.s.size) p2
    have hle:=qmm p2
    obtain⟨j,hj⟩ : ∃ j,j=i+t.s.size+qaD false ((byl s).drop (i+t.s.size)):=⟨_,rfl⟩
    rw[<- hj] at zs hle ⊢
    have hij:i+1<=j:=by omega
    have w1:=qaf ((i:Int)+t.s.size) (by omega)
    simp only[Int.natCast_add] at zs
    have hroom:qaP (T.length+1) 32=true:=by simp only[qaP,decide_eq_true_eq]; omega
    have hr1:qaP 1 32=true:=by decide
    obtain⟨v',σ',g1,g2,g3⟩:=qlC s hl n j (T++[t]) (.gsl (tkC (T++[t])) (T++[t]).length 3 0) [.tip (tkC (T++[t])).length] (by omega) hle (by simp; omega) (.inr ⟨by simp,rfl,rfl⟩)
    rw[List.append_assoc] at g1 g2
    refine⟨v',σ',g1,g2,?_⟩
    rw[<- g3,qaa]
    have e1:tkC (T++[t])=tkC T++[.lit (.int .i64 t.at_),.lit (.string t.s),.lit (.int .i64 t.bad)]:=by rw[qp1]; rfl
    have e2:(tkC (T++[t])).length=(tkC T).length+3:=by rw[e1]; simp
    have e3:(tkC T).length=T.length*3:=qp2 T
    have e4:(T++[t]).length=T.length+1:=by simp
    rcases hr with ⟨rfl,rfl,rfl⟩ | ⟨hne,rfl,rfl⟩
    ·simp[qac,qgr,V.len,hlt',zt,zs,w1,qb6,qlH,hr1,tkC,List.range_succ]
     exact qcb (by simp[List.range_succ])
    ·rw[e1,e4]
     simp[qac,qgr,V.len,hlt',zt,zs,w1,qb6,qlH,hroom,e3,List.range_succ]
     exact qcb (by simp[List.range_succ])
def refT (s:ByteArray):List Tk:=allT s (s.size+1) (qaD false (byl s))++[⟨s.size,⟨#[]⟩,0⟩]
theorem qrD (s:ByteArray) (hl:s.size<2 ^ 30):Z tR (.call 149 [.str s] [])=some (.ret (.dat (.sl (tkC (refT s)) (refT s).length false)) [])/\(refT s).length<=s.size+1:=by
 have zs:=qsb s (by omega) (i:=0) (Nat.zero_le _)
 have hle:=qmm (s:=s) (j:=0) (Nat.zero_le _)
 simp only[List.drop_zero,Nat.zero_add,Int.natCast_zero] at zs hle
 obtain⟨v',σ',g1,g2,g3⟩:=qlC s hl (s.size+1) (qaD false (byl s)) [] (.dat (.lit (.slice none 0 0))) [] (by omega) hle (Nat.zero_le _) (.inl ⟨rfl,rfl,rfl⟩)
 rw[List.nil_append] at g1 g2
 have hlen:(refT s).length=(allT s (s.size+1) (qaD false (byl s))).length+1:=by simp[refT]
 refine⟨?_,by omega⟩
 refine Z_call (pf:=F149) rfl rfl ?_
 unfold refT at *
 generalize allT s (s.size+1) (qaD false (byl s))=T at *
 have e1:tkC (T++[⟨s.size,⟨#[]⟩,0⟩])=tkC T++[.lit (.int .i64 s.size),.lit (.string ⟨#[]⟩),.lit (.int .i64 0)]:=by rw[qp1]; rfl
 have e3:(tkC T).length=T.length*3:=qp2 T
 have hroom:qaP (T.length+1) 32=true:=by simp only[qaP,decide_eq_true_eq]; omega
 have hr1:qaP 1 32=true:=by decide
 rcases g1 with ⟨rfl,rfl,rfl⟩ | ⟨hne,rfl,rfl⟩
 ·simp[F149,V.len,zs,g3,qb6,qlH,hr1,tkC,List.range_succ]
 ·rw[e1,hlen]
  simp[F149,V.len,zs,g3,qb6,qlH,hroom,e3,List.range_succ]
def qoc:List Tk->List Tk
 | []=>[]
 | t::r=>if t.bad≠0\/t.s.size=0 then [t] else t::qoc r
theorem qp3 (s:ByteArray) : ∀ (n m i:Nat),i<=s.size->s.size-i<n->s.size-i<m->qoc (allT s m (i+qaD false ((byl s).drop i))++[⟨s.size,⟨#[]⟩,0⟩])=qbM 12 2 6 s n i
 | 0,m,i,_,h,_=>by omega
 | n+1,0,i,_,_,h=>by omega
 | n+1,m+1,i,hi,h1,h2=>by
  have hle:=qmm hi
  have hsk:qhb s (s.size-i) false i=i+qaD false ((byl s).drop i):=qhv s _ false i (Nat.le_refl _)
  simp only[qbM,hsk]
  generalize hj:i+qaD false ((byl s).drop i)=j at *
  simp only[allT]
  by_cases hlt:j<s.size
  ·obtain⟨p1,p2⟩:=qeY hlt 12 2 6
   have htat:(tokAt 12 2 6 s j).at_=j:=by rw[qct]
   rw[if_pos hlt,List.cons_append,qoc,htat]
   split
   ·rfl
   ·rw[qp3 s n m (j+(tokAt 12 2 6 s j).s.size) p2 (by omega) (by omega)]
  ·obtain rfl:j=s.size:=by omega
   have hd:(byl s).drop s.size=[]:=List.drop_eq_nil_of_le (by rw[qar]; exact Nat.le_refl _)
   have ht:tokAt 12 2 6 s s.size=⟨s.size,⟨#[]⟩,0⟩:=by rw[qct,hd]; rfl
   rw[if_neg hlt,ht]
   rw[List.nil_append,qoc,if_pos (.inr rfl),if_pos (.inr rfl)]
theorem qrE (s:ByteArray):qoc (refT s)=qbM 12 2 6 s (s.size+1) 0:=by
 have:=qp3 s (s.size+1) (s.size+1) 0 (Nat.zero_le _) (by omega) (by omega)
 rw[List.drop_zero,Nat.zero_add] at this
 exact this
end Go.Pm
end SJd
section SJe
namespace Go.Pm
open F
set_option maxHeartbeats 4000000
structure Ps where
 i:Nat
 a:Nat
 e:Nat
def qk0 (T:List Tk) (i:Nat):Tk:=T.getD i ⟨0,⟨#[]⟩,0⟩
theorem qoQ {T:List Tk} {i:Nat} (h:i<T.length):T[i]=qk0 T i:=by simp[qk0,List.getD_eq_getElem?_getD,h]
theorem qw7 (T:List Tk) {i:Nat} (h:i<T.length):qah 3 (.dat (.sl (tkC T) T.length false)) (i:Int)=some (.dat (.imm (tkC T) (i*3))):=by
 have:(i:Int)<T.length:=by omega
 simp[qah,h]
theorem qsD {T:List Tk} {i:Nat} (h:i<T.length):(tkC T).drop (i*3) = .lit (.int .i64 (qk0 T i).at_) :: .lit (.string (qk0 T i).s) :: .lit (.int .i64 (qk0 T i).bad)::tkC (T.drop (i+1)):=by
 rw[qnq,List.drop_eq_getElem_cons h,qoQ h]; rfl
theorem qsE {T:List Tk} {i:Nat} (h:i<T.length):cutCells (tkC T) (i*3+1) 1=some [.lit (.string (qk0 T i).s)]:=by
 unfold cutCells
 rw[<- List.drop_drop,qsD h]; simp
def qS:ByteArray:=bs [63]
end Go.Pm
end SJe
section SJf
namespace Go.Pm
open F
structure TokP (t:Tk):Prop where
 q:t.bad=0->t.s≠qS
 dig:t.bad=0->qak qaj t.s=true->(∀ c∈t.s.data.toList,qaj c=true)/\digV t.s.data.toList<=2147483647/\t.s.size<2 ^ 40
structure WfT (T:List Tk):Prop where
 len:T.length<2 ^ 40
 tok : ∀ t∈T,TokP t
 pos : ∀ i,i+1<T.length->(qk0 T i).s.size≠0
 last : ∀ i,i+1=T.length->(qk0 T i).s=⟨#[]⟩/\(qk0 T i).bad=0
structure Gd (T:List Tk) (s:Ps) (ts:List Tk):Prop where
 e:s.e=0
 a:s.a=0
 lt:s.i<T.length
 ts:qoc (T.drop s.i)=ts
structure Er (T:List Tk) (s:Ps) (p c:Nat):Prop where
 lt:s.i<T.length
 c0:c≠0
 or:(s.e=c/\s.a=p)\/(s.e=0/\(qk0 T s.i).bad=c/\(qk0 T s.i).at_=p)
end Go.Pm
end SJf
section SJm
namespace Go.Pm
open F
set_option maxHeartbeats 4000000
section
variable {T:List Tk} {s:Ps} {lv:Nat}
abbrev k1 (k n:Int) (y:ByteArray) (ks:D):D := .sl [.lit (.int .i64 k),.lit (.int .i64 n),.lit (.string y),ks] 1 true
abbrev k2 (k n:Int) (y:ByteArray) (ks:D) (k' n':Int) (y':ByteArray) (ks':D):D := .sl [.lit (.int .i64 k),.lit (.int .i64 n),.lit (.string y),ks,.lit (.int .i64 k'),.lit (.int .i64 n'),.lit (.string y'),ks'] 2 true
abbrev k3 (k n:Int) (y:ByteArray) (ks:D) (k' n':Int) (y':ByteArray) (ks':D) (k'' n'':Int) (y'':ByteArray) (ks'':D):D := .sl [.lit (.int .i64 k),.lit (.int .i64 n),.lit (.string y),ks,.lit (.int .i64 k'),.lit (.int .i64 n'),.lit (.string y'),ks',.lit (.int .i64 k''),.lit (.int .i64 n''),.lit (.string y''),ks''] 3 false
end
end Go.Pm
end SJm
section SJp
namespace Go.Pm
open F
set_option maxHeartbeats 4000000
structure N4 where
 k:Int
 n:Int
 s:ByteArray
 d:D
 one:V.one (.dat d)=true
 cl:V.cells (.dat d)=[.dat d]
abbrev rob (r:Nat->N4):Ob := .cells [.int (r 0).k,.int (r 0).n,.str (r 0).s,.dat (r 0).d,.int (r 1).k,.int (r 1).n,.str (r 1).s,.dat (r 1).d,.int (r 2).k,.int (r 2).n,.str (r 2).s,.dat (r 2).d]
def qwp (r:Nat->N4) (k:Nat) (v:N4):Nat->N4:=fun i=>if i=k then v else r i
abbrev quf:Ob := .cells [.int 0,.int 0,.str ⟨#[]⟩,.dat (.lit (.slice none 0 0)),.int 0,.int 0,.str ⟨#[]⟩,.dat (.lit (.slice none 0 0)),.int 0,.int 0,.str ⟨#[]⟩,.dat (.lit (.slice none 0 0))]
section
variable {T:List Tk} {s:Ps} {r:Nat->N4}
def qfs:Option Ss->N4
 | none=>⟨0,0,⟨#[]⟩,.lit (.slice none 0 0),rfl,rfl⟩
 | some b=>⟨7,0,⟨#[]⟩,kd false b.fo.len b.fo.cells,by simp,by simp⟩
end
end Go.Pm
end SJp
section SJq
namespace Go.Pm
open F
set_option maxHeartbeats 4000000
theorem qtO {s:ByteArray} (hl:s.size<2 ^ 30) {j:Nat} (hj:j<s.size):TokP (tokAt 12 2 6 s j):=by
 obtain⟨p1,p2⟩:=qeY hj 12 2 6
 obtain⟨c,h1,h2⟩:=qhg hj
 have hd:=qdM h2
 rw[qct,hd] at p2 ⊢
 generalize (byl s).drop (j+1)=r at *
 have hsz:(bs (tokL 12 2 6 (c::r)).1).size<2 ^ 40:=by simp only at p2; omega
 have start : ∀ (p:UInt8->Bool) (x:UInt8) (w:List UInt8),qak p (bs (x::w))=p x:=fun p x w=>by rw[qaN,qa6]; rfl
 by_cases hlet:qaM c=true
 ·have hw:qao c=true:=by simp[qao,hlet]
  have e:(c::r).take (qaY qao (c::r))=c::r.take (qaY qao r):=by simp[qaY,hw]
  have ht:(tokL 12 2 6 (c::r)).1=c::r.take (qaY qao r):=by simp only[tokL,hlet,if_true]; exact e
  rw[ht]
  have hnd:qaj c=false:=by
   simp only[qaj,qaM,Bool.and_eq_true,decide_eq_true_eq,Bool.and_eq_false_iff,decide_eq_false_iff_not] at hlet ⊢
   omega
  refine⟨fun _ h=>?_,fun _ h=>?_⟩
  ·have:=qjr h
   simp only[List.cons.injEq] at this
   rw[this.1] at hlet
   exact absurd hlet (by decide)
  ·simp only at h
   rw[start,hnd] at h
   cases h
 ·by_cases hdig:qaj c=true
  ·have e:(c::r).take (qaY qaj (c::r))=c::r.take (qaY qaj r):=by simp[qaY,hdig]
   have ht:tokL 12 2 6 (c::r)=((c::r).take (qaY qaj (c::r)),if 2147483647<digV ((c::r).take (qaY qaj (c::r))) then 6 else 0):=by simp only[tokL,hlet,hdig,if_true,Bool.false_eq_true,if_false]
   rw[ht] at hsz ⊢
   refine⟨fun _ h=>?_,fun h _=>⟨fun b hb=>?_,?_,hsz⟩⟩
   ·simp only at h
    rw[e] at h
    have:=qjr h
    simp only[List.cons.injEq] at this
    rw[this.1] at hdig
    exact absurd hdig (by decide)
   ·exact qfV qaj (c::r) b hb
   ·simp only at h ⊢
    split at h
    ·cases h
    ·rename_i hb
     exact Nat.not_lt.1 hb
  ·by_cases hp:bs ((c::r).take 2)∈qc5
   ·have ht:tokL 12 2 6 (c::r)=((c::r).take 2,0):=by simp only[tokL,hlet,hdig,if_pos hp,Bool.false_eq_true,if_false]
    rw[ht]
    have key : ∀ w:List UInt8,bs w∈qc5->bs w≠qS/\qak qaj (bs w)=false:=fun w hw=>by
     rcases pair_cases hw with rfl | rfl | rfl | rfl | rfl | rfl<;>decide
    obtain⟨k1,k2⟩:=key _ hp
    exact⟨fun _=>k1,fun _ h=>by rw[k2] at h; cases h⟩
   ·by_cases hs:c.toNat∈symB
    ·have ht:tokL 12 2 6 (c::r)=([c],0):=by simp only[tokL,hlet,hdig,if_neg hp,if_pos hs,Bool.false_eq_true,if_false]
     rw[ht]
     refine⟨fun _ h=>?_,fun _ h=>?_⟩
     ·have:=qjr h
      simp only[List.cons.injEq,and_true] at this
      rw[this] at hs
      exact absurd hs (by decide)
     ·simp only at h
      rw[start] at h
      exact absurd h hdig
    ·have ht:tokL 12 2 6 (c::r)=([c],12):=by simp only[tokL,hlet,hdig,if_neg hp,if_neg hs,Bool.false_eq_true,if_false]
     rw[ht]
     exact⟨fun h=>(by cases h),fun h=>(by cases h)⟩
def qhh (s:ByteArray):List Tk:=qbM 12 2 6 s (s.size+1) 0
def qcz (f fi fb:Bool) (s:ByteArray):Rz (Nat->Option Ss):=
 if 2000<s.size then .er 2000 2 else match qcC 12 2 4 f fi fb (10*(qhh s).length+10) (fun _=>none) (qhh s) with
  | some x=>x
  | none => .er 0 0
theorem qdK {f fi fb:Bool} {s:ByteArray} (h : ¬ 2000<s.size):qcC 12 2 4 f fi fb (10*(qhh s).length+10) (fun _=>none) (qhh s)=some (qcz f fi fb s):=by
 obtain⟨y,hy,_⟩:=qkw 12 2 4 f fi fb (10*(qhh s).length+10) (fun _=>none) (qhh s) (by omega)
 unfold qcz
 rw[if_neg h,hy]
abbrev qrr (r:Nat->N4):V := .dat (.agg [.lit (.int .i64 (r 0).k),.lit (.int .i64 (r 0).n),.lit (.string (r 0).s),(r 0).d,.lit (.int .i64 (r 1).k),.lit (.int .i64 (r 1).n),.lit (.string (r 1).s),(r 1).d,.lit (.int .i64 (r 2).k),.lit (.int .i64 (r 2).n),.lit (.string (r 2).s),(r 2).d])
def qif (f fi fb:Bool) (s:ByteArray):V:=match qcz f fi fb s with
 | .ok h _ => .tup [qrr fun k=>qfs (h k),.int 0,.int 0]
 | .er a c => .tup [qrr fun _=>qfs none,.int a,.int c]
end Go.Pm
end SJq
section SUc
namespace Go.Pm
def TkG (t:Tk):Prop:=t.bad=0->t.s.size≠0->Tg (byl t.s)
theorem qdo (p:UInt8->Bool) (l:List UInt8):(l.take (qaY p l)).length=qaY p l:=by rw[List.length_take,Nat.min_eq_left (qdN p l)]
theorem qox (l:List UInt8) (h:(tokL 12 2 6 l).2=0) (h2:(tokL 12 2 6 l).1≠[]):Tg (tokL 12 2 6 l).1:=by
 cases l with
 | nil=>exact absurd rfl h2
 | cons c r=>
  by_cases hlet:qaM c=true
  ·have hw:qao c=true:=by simp[qao,hlet]
   have e:tokL 12 2 6 (c::r)=((c::r).take (qaY qao (c::r)),if 8<qaY qao (c::r)/\bs ((c::r).take (qaY qao (c::r)))∉fieldNames/\bs ((c::r).take (qaY qao (c::r)))∉wordNames then 2 else 0):=by simp only[tokL,hlet,if_true]
   rw[e] at h ⊢
   have hl:=qdo qao (c::r)
   have ha:=qfV qao (c::r)
   have e2:(c::r).take (qaY qao (c::r))=c::r.take (qaY qao r):=by simp[qaY,hw]
   simp only at h ⊢
   rw[e2] at h hl ha ⊢
   refine .inl ⟨c,_,rfl,hlet,fun b hb=>ha b (List.mem_cons_of_mem _ hb),fun hbad=>?_⟩
   rw[hl] at hbad
   rw[if_pos hbad] at h
   cases h
  ·by_cases hdig:qaj c=true
   ·have e:tokL 12 2 6 (c::r)=((c::r).take (qaY qaj (c::r)),if 2147483647<digV ((c::r).take (qaY qaj (c::r))) then 6 else 0):=by simp only[tokL,hlet,hdig,if_true,Bool.false_eq_true,if_false]
    rw[e] at h ⊢
    have ha:=qfV qaj (c::r)
    have e2:(c::r).take (qaY qaj (c::r))=c::r.take (qaY qaj r):=by simp[qaY,hdig]
    simp only at h ⊢
    rw[e2] at h ha ⊢
    refine .inr (.inl ⟨c,_,rfl,hdig,fun b hb=>ha b (List.mem_cons_of_mem _ hb),?_⟩)
    split at h
    ·cases h
    ·rename_i hb
     exact Nat.not_lt.1 hb
   ·by_cases hp:bs ((c::r).take 2)∈qc5
    ·have e:tokL 12 2 6 (c::r)=((c::r).take 2,0):=by simp only[tokL,hlet,hdig,if_pos hp,Bool.false_eq_true,if_false]
     rw[e]
     exact .inr (.inr (.inl hp))
    ·by_cases hs:c.toNat∈symB
     ·have e:tokL 12 2 6 (c::r)=([c],0):=by simp only[tokL,hlet,hdig,if_neg hp,if_pos hs,Bool.false_eq_true,if_false]
      rw[e]
      exact .inr (.inr (.inr ⟨c,rfl,hs⟩))
     ·have e:tokL 12 2 6 (c::r)=([c],12):=by simp only[tokL,hlet,hdig,if_neg hp,if_neg hs,Bool.false_eq_true,if_false]
      rw[e] at h
      cases h
theorem qmG (s:ByteArray) (j:Nat):TkG (tokAt 12 2 6 s j):=by
 intro hb hn
 rw[qct] at hb hn ⊢
 simp only[qa6] at hb hn ⊢
 exact qox _ hb (fun e=>hn (by rw[e]; rfl))
theorem qoy (s:ByteArray) : ∀ n i,∀ t∈qbM 12 2 6 s n i,TkG t
 | 0,i,t,h=>by
  simp only[qbM,List.mem_singleton] at h
  rw[h]
  intro _ h2
  exact absurd rfl h2
 | n+1,i,t,h=>by
  rw[qbM] at h
  split at h
  ·rw[List.mem_singleton.1 h]; exact qmG s _
  ·rcases List.mem_cons.1 h with h | h
   ·rw[h]; exact qmG s _
   ·exact qoy s n _ t h
theorem qoz : ∀ (l:List ByteArray) (p q:Bool),(qam p l).length<=(qam q l).length+1
 | [],p,q=>by simp[qam]
 | t::l,p,q=>by
  have hg : ∀ p,(gap p t).length<=1:=fun p=>by unfold gap; split<;>simp
  have hp:=hg p
  simp only[qam,List.length_append]
  cases hb:byl t with
  | nil=>
   have e : ∀ q,qbu q t=q:=fun q=>by unfold qbu; rw[hb]; rfl
   have hs:qak qao t=false:=by rw[qaN,hb]; rfl
   have g0 : ∀ p,gap p t=[]:=fun p=>by simp[gap,hs]
   rw[e,e,g0,g0]
   have:=qoz l p q
   simp
   omega
  | cons c r=>
   have e:qbu p t=qbu q t:=by
    unfold qbu
    cases hl:(byl t).getLast? with
    | none=>rw[List.getLast?_eq_none_iff] at hl; rw[hl] at hb; cases hb
    | some c=>rfl
   rw[e]
   omega
inductive Red:List ByteArray->List ByteArray->Prop
 | nil:Red [] []
 | keep {t:ByteArray} {l m:List ByteArray} (h:Red l m):Red (t::l) (t::m)
 | del {t:ByteArray} {l m:List ByteArray} (h0:t.size≠0) (h:Red l m):Red (t::l) m
 | dig {t u:ByteArray} {l m:List ByteArray} (h0:u.size<=t.size) (h1 : ∀ p,qbu p u=qbu p t) (h2:qak qao u=qak qao t) (h:Red l m):Red (t::l) (u::m)
theorem qcW : ∀ l,Red l l
 | [] => .nil
 | t::l => .keep (qcW l)
theorem qbP {a a' b b':List ByteArray} (h:Red a a') (h2:Red b b'):Red (a++b) (a'++b'):=by
 induction h with
 | nil=>exact h2
 | keep _ ih=>exact .keep ih
 | del h0 _ ih=>exact .del h0 ih
 | dig h0 h1 h2 _ ih=>exact .dig h0 h1 h2 ih
theorem qoA {a b:List ByteArray} (h:Red a b) : ∀ {c},Red b c->Red a c:=by
 induction h with
 | nil=>intro c h; exact h
 | keep _ ih=>
  intro c h
  cases h with
  | keep h=>exact .keep (ih h)
  | del h0 h=>exact .del h0 (ih h)
  | dig h0 h1 h2 h=>exact .dig h0 h1 h2 (ih h)
 | del h0 _ ih=>intro c h; exact .del h0 (ih h)
 | dig h0 h1 h2 _ ih=>
  intro c h
  cases h with
  | keep h=>exact .dig h0 h1 h2 (ih h)
  | del h0' h=>exact .del (by omega) (ih h)
  | dig h0' h1' h2' h=>exact .dig (by omega) (fun p=>(h1' p).trans (h1 p)) (h2'.trans h2) (ih h)
theorem qqn {l m:List ByteArray} (h:Red l m) : ∀ p,(qam p m).length<=(qam p l).length:=by
 induction h with
 | nil=>intro p; exact Nat.le_refl _
 | keep _ ih=>
  intro p
  simp only[qam,List.length_append]
  have:=ih (qbu p ‹_›)
  omega
 | @del t l m h0 _ ih=>
  intro p
  simp only[qam,List.length_append]
  have h1:=ih p
  have h2:=qoz l p (qbu p t)
  have h3:=qar t
  omega
 | @dig t u l m h0 h1 h2 _ ih=>
  intro p
  simp only[qam,List.length_append]
  have h3:=ih (qbu p t)
  have e1:gap p u=gap p t:=by simp[gap,h2]
  have e2:=qar t
  have e3:=qar u
  rw[h1 p,e1]
  omega
def NI:List ByteArray->Prop
 | t::u::r=>(qak qaj t=true->qak qao u=false)/\NI (u::r)
 | _=>True
theorem qmH : ∀ {a b:List ByteArray},NI a->NI b->(∀ t u,a.getLast?=some t->b.head?=some u->qak qaj t=true->qak qao u=false)->NI (a++b)
 | [],b,_,hb,_=>hb
 | [t],[],_,_,_=>trivial
 | [t],u::b,_,hb,hj=>⟨hj t u rfl rfl,hb⟩
 | t::u::a,b,ha,hb,hj=>⟨ha.1,qmH (a:=u::a) ha.2 hb (fun x y hx hy=>hj x y (by rw[List.getLast?_cons_cons]; exact hx) hy)⟩
theorem qgX (t:ByteArray):NI [t]:=trivial
theorem qcj {t:ByteArray} {b:List ByteArray} (h:qak qaj t=false) (hb:NI b):NI (t::b):=by
 cases b with
 | nil=>trivial
 | cons u b=>exact⟨fun h'=>(by rw[h] at h'; cases h'),hb⟩
theorem qiV {t:ByteArray} {a b:List ByteArray} (ha:NI a) (h:qak qaj t=false) (h2:qak qao t=false) (hb:NI b):NI (a++t::b):=
 qmH ha (qcj h hb) (fun x y _ hy _=>by cases hy; exact h2)
theorem qfW {t:ByteArray} {a:List ByteArray} (ha:NI a) (h2:qak qao t=false):NI (a++[t]):=
 qmH ha trivial (fun x y _ hy _=>by cases hy; exact h2)
theorem qcI : ∀ {l:List ByteArray} {ts r:List Tk},Hx l ts r -> ∀ t∈r,t∈ts
 | [],ts,r,h,t,ht=>by cases h; exact ht
 | x::l,ts,r,h,t,ht=>by
  obtain⟨u,q,rfl,_,_,h⟩:=h
  exact List.mem_cons_of_mem _ (qcI h t ht)
theorem qoB : ∀ (l:List ByteArray) (n i:Nat) (b:List UInt8) (r:List Tk) (p:Bool),Hx l (qls 12 2 6 n i b) r->NI l->(∀ u∈l,u.size≠0) ->
  (p=true -> ∀ u,l.head?=some u->qak qao u=true->0<qaD false b)->(qam p l).length<=b.length
 | [],n,i,b,r,p,_,_,_,_=>by simp[qam]
 | u::l,n,i,b,r,p,hx,hn,hz,hp=>by
  have hu:=hz u (List.mem_cons_self ..)
  cases n with
  | zero=>
   obtain⟨t,q,e,h1,_⟩:=hx
   simp only[qls,List.cons.injEq] at e
   rw[<- e.1] at h1
   exact absurd (by rw[<- h1]; rfl) hu
  | succ n=>
   rw[qls] at hx
   generalize hb':b.drop (qaD false b)=b' at hx
   have hlb:b'.length=b.length-qaD false b:=by rw[<- hb',List.length_drop]
   have hsk:=qfm b false
   split at hx
   ·rename_i hc
    obtain⟨t,q,e,h1,h2,_⟩:=hx
    simp only[List.cons.injEq] at e
    rw[<- e.1] at h1 h2
    simp only at h1 h2
    rcases hc with hc | hc
    ·exact absurd h2 hc
    ·exact absurd (by rw[<- h1,qas]; exact hc) hu
   ·rename_i hc
    obtain⟨t,q,e,h1,h2,h3⟩:=hx
    simp only[List.cons.injEq] at e
    rw[<- e.1] at h1 h2
    rw[<- e.2] at h3
    simp only at h1 h2
    have hw:(tokL 12 2 6 b').1≠[]:=fun e0=>hu (by rw[<- h1,e0]; rfl)
    have htg:=qox b' h2 hw
    have hbyl:byl u=(tokL 12 2 6 b').1:=by rw[<- h1,qa6]
    have hwl:(tokL 12 2 6 b').1.length<=b'.length:=by
     cases b' with
     | nil=>simp[tokL]
     | cons c r=>
      simp only[tokL]
      split
      ·rw[qdo]; exact qdN _ _
      split
      ·rw[qdo]; exact qdN _ _
      split
      ·simp only[List.length_take]; omega
      split<;>simp
    have ih:=qoB l n _ _ r (qbu p u) h3 (by
     cases l with
     | nil=>trivial
     | cons v l=>exact hn.2) (fun v hv=>hz v (List.mem_cons_of_mem _ hv)) (by
     intro hpe v hv hsv
     refine Nat.pos_of_ne_zero (fun h0=>?_)
     have hnd:qak qaj u=false:=by
      cases hd:qak qaj u with
      | false=>rfl
      | true=>
       cases l with
       | nil=>cases hv
       | cons v' l=>
        cases hv
        rw[hn.1 hd] at hsv
        cases hsv
     have hnext : ∃ c q,b'.drop (tokL 12 2 6 b').1.length=c::q/\qao c=true:=by
      cases l with
      | nil=>cases hv
      | cons v' l=>
       cases hv
       obtain⟨t2,q2,e2,g1,g2,_⟩:=h3
       cases n with
       | zero=>
        simp only[qls,List.cons.injEq] at e2
        rw[<- e2.1] at g1
        have g3:v=⟨#[]⟩:=g1.symm
        rw[g3,qaN] at hsv
        exact absurd hsv (by decide)
       | succ n=>
        rw[qls,h0,List.drop_zero] at e2
        have g3:v=bs (tokL 12 2 6 (b'.drop (tokL 12 2 6 b').1.length)).1:=by
         rw[<- g1]
         split at e2<;>(simp only[List.cons.injEq] at e2; rw[<- e2.1])
        rw[g3,qaN,qa6] at hsv
        cases hdr:b'.drop (tokL 12 2 6 b').1.length with
        | nil=>rw[hdr] at hsv; simp[tokL] at hsv
        | cons c q=>
         refine⟨c,q,rfl,?_⟩
         rw[hdr] at hsv
         have hh:(tokL 12 2 6 (c::q)).1.head?=some c:=by
          simp only[tokL]
          split
          ·rename_i hl; simp[qaY,qao,hl]
          split
          ·rename_i hl; simp[qaY,hl]
          split
          ·simp
          split<;>rfl
         rw[hh] at hsv
         exact hsv
     obtain⟨c,q,hcq,hcw⟩:=hnext
     cases b' with
     | nil=>simp at hcq
     | cons d rr=>
      by_cases hlet:qaM d=true
      ·have e:(tokL 12 2 6 (d::rr)).1=(d::rr).take (qaY qao (d::rr)):=by simp only[tokL,hlet,if_true]
       rw[e,qdo] at hcq
       have key : ∀ (m:List UInt8) c q,m.drop (qaY qao m)=c::q->qao c=false:=by
        intro m
        induction m with
        | nil=>intro c q h; simp at h
        | cons x m ih=>
         intro c q h
         by_cases hx:qao x=true
         ·simp only[qaY,hx,if_true,List.drop_succ_cons] at h; exact ih c q h
         ·simp only[qaY,hx,if_false,List.drop_zero,Bool.false_eq_true] at h
          cases h
          simpa using hx
       rw[key _ c q hcq] at hcw
       cases hcw
      ·by_cases hdig:qaj d=true
       ·have e:(tokL 12 2 6 (d::rr)).1=(d::rr).take (qaY qaj (d::rr)):=by simp only[tokL,hlet,hdig,if_true,Bool.false_eq_true,if_false]
        rw[qaN,hbyl,e] at hnd
        simp[qaY,hdig] at hnd
       ·have hend:qbu p u=false:=by
         rw[<- h1]
         apply qhY
         rcases htg with ⟨c1,r1,e1,hc1,_⟩ | ⟨c1,r1,e1,hc1,_⟩ | h | h
         ·exfalso
          have:(tokL 12 2 6 (d::rr)).1.head?=some d:=by
           simp only[tokL,hlet,hdig,Bool.false_eq_true,if_false]
           split
           ·simp
           split<;>rfl
          rw[e1] at this
          cases this
          exact hlet hc1
         ·exfalso
          have:(tokL 12 2 6 (d::rr)).1.head?=some d:=by
           simp only[tokL,hlet,hdig,Bool.false_eq_true,if_false]
           split
           ·simp
           split<;>rfl
          rw[e1] at this
          cases this
          exact hdig hc1
         ·exact .inl h
         ·exact .inr h
        rw[hend] at hpe
        cases hpe)
    have hgap:(gap p u).length<=qaD false b:=by
     unfold gap
     split
     ·rename_i hg
      rw[Bool.and_eq_true] at hg
      have:=hp hg.1 u rfl hg.2
      simp
      omega
     ·simp
    simp only[qam,List.length_append]
    rw[hbyl]
    rw[List.length_drop] at ih
    omega
end Go.Pm
end SUc
section SUd
namespace Go.Pm
theorem qjX (e:E) (q:Nat) (hq:q<=8):e.tx false q=qbz (decide (e.lev<q)) (e.tx false 1):=by
 have h8 : ¬ 8<q:=by omega
 cases e with
 | un f neg e=>cases neg<;>simp[E.tx,E.lev,qcZ,qbz]
 | bin f o a b=>
  have h1 : ¬ o.prec<1:=by cases o<;>simp[Bop.prec]
  by_cases h2:o.prec<q<;>simp[E.tx,E.lev,qbz,h1,h2]
 | _=>simp[E.tx,E.lev,qbz,h8]
theorem qgw (e:E) (q:Nat) (hq:q<=8):e.nest false q=e.nest false 1+(if e.lev<q then 1 else 0):=by
 have h8 : ¬ 8<q:=by omega
 cases e with
 | un f neg e=>cases neg<;>simp[E.nest,E.lev,qcZ]
 | bin f o a b=>
  have h1 : ¬ o.prec<1:=by cases o<;>simp[Bop.prec]
  by_cases h2:o.prec<q<;>simp[E.nest,E.lev,h1,h2]
 | _=>simp[E.nest,E.lev,h8]
theorem qhQ {l m:List ByteArray} {b c:Bool} (h:Red l (qbz b m)) (hbc:c=true->b=true):Red l (qbz c m):=by
 cases c with
 | true=>rw[hbc rfl] at h; exact h
 | false=>
  cases b with
  | false=>exact h
  | true=>
   refine qoA h (.del (by decide) ?_)
   have:=qbP (qcW m) (.del (t:=bs [41]) (by decide) .nil)
   rw[List.append_nil] at this
   exact this
def RE (e:E) (q lv:Nat) (ts r:List Tk):Prop:=e.good/\lv+e.nest false q<=20 /\ ∃ l,l≠[]/\Hx l ts r/\NI l/\Red l (e.tx false q)
theorem qoX {e:E} {q q' lv:Nat} {ts r:List Tk} (h:RE e q lv ts r) (hq:q'<=q) (h8:q<=8):RE e q' lv ts r:=by
 obtain⟨h1,h2,l,h3,h4,h5,h6⟩:=h
 refine⟨h1,?_,l,h3,h4,h5,?_⟩
 ·rw[qgw e q h8] at h2
  rw[qgw e q' (by omega)]
  by_cases hl:e.lev<q'
  ·rw[if_pos hl]; rw[if_pos (by omega)] at h2; exact h2
  ·rw[if_neg hl]; omega
 ·rw[qjX e q h8] at h6
  rw[qjX e q' (by omega)]
  exact qhQ h6 (fun h=>by simp only[decide_eq_true_eq] at *; omega)
theorem qgx {ts:List Tk} {s:ByteArray} (h:nx ts=some s) : ∃ t r,ts=t::r/\t.s=s/\t.bad=0:=by
 cases ts with
 | nil=>cases h
 | cons t r=>
  simp only[nx] at h
  split at h
  ·rename_i hb; cases h; exact⟨t,r,rfl,rfl,hb⟩
  ·cases h
theorem qcf {α : Type} {c:Nat} {ts:List Tk} {a : α} {r:List Tk}:failP c ts ≠ .ok a r:=by
 cases ts<;>simp[failP]
theorem qc8 {x:ByteArray} {ts r:List Tk} {u:Unit} (h:qau 12 x ts = .ok u r):Hx [x] ts r:=by
 cases ts with
 | nil=>exact absurd (show failP 12 [] = .ok u r from h) qcf
 | cons t q=>
  simp only[qau] at h
  split at h
  ·rename_i hc; cases h; exact⟨t,_,rfl,hc.2,hc.1,rfl⟩
  ·exact absurd h qcf
theorem qjY {x:ByteArray} {lv:Nat} {ts r:List Tk} {u:Unit} (h:qcA 12 2 x lv ts = .ok u r):Hx [x] ts r/\lv<=20:=by
 unfold qcA at h
 split at h
 ·exact absurd h qcf
 ·rename_i hc
  have hx:=qc8 h
  refine⟨hx,Nat.not_lt.1 (fun hl=>hc ⟨?_,hl⟩)⟩
  obtain⟨t,q,e,h1,h2,_⟩:=hx
  rw[e,nx,if_pos h2,h1]
theorem qoY {p:Nat} {s:ByteArray} {o:Bop} (h:qjO p s=some o):o.prec=p/\o.str=s:=by
 unfold qjO at h
 have h2:=List.find?_some h
 have h3:=List.mem_of_find?_eq_some h
 refine⟨?_,by simpa using h2⟩
 split at h3<;>simp at h3<;>(try rcases h3 with h3 | h3 | h3 | h3 | h3 | h3)<;>(try rcases h3 with h3 | h3)<;>subst_vars<;>rfl
theorem qrT (o:Bop):qak qaj o.str=false/\qak qao o.str=false:=by cases o<;>decide
theorem qu5 (b:Bool):qak qaj (ustr b)=false/\qak qao (ustr b)=false:=by cases b<;>decide
theorem qk3 {s:ByteArray} (h:s∈fieldNames):qak qaj s=false:=by
 simp only[fieldNames,List.mem_cons,List.not_mem_nil,or_false] at h
 rcases h with h | h | h | h | h | h | h | h<;>rw[h]<;>decide
theorem qgy {p:UInt8->Bool} {s:ByteArray} (h:qak p s=true):s.size≠0:=by
 rw[qaN] at h
 intro h0
 have:byl s=[]:=List.eq_nil_of_length_eq_zero (by rw[qar,h0])
 rw[this] at h
 cases h
theorem qmP : ∀ (j n k:Nat),n<10 ^ (k+1)->(qiw j n).length<=k+1
 | 0,n,k,_=>by simp[qiw]
 | j+1,n,k,h=>by
  simp only[qiw]
  split
  ·simp
  ·rename_i h10
   cases k with
   | zero=>simp at h; omega
   | succ k=>
    have:=qmP j (n / 10) k (by rw[Nat.pow_succ] at h; omega)
    rw[List.length_append]
    simp
    omega
theorem qsO (l:List UInt8) (h : ∀ b∈l,qaj b=true):digV l<10 ^ l.length:=by
 have key : ∀ (m:List UInt8) (a:Nat),(∀ b∈m,qaj b=true)->m.foldl (fun v c=>10*v+(c.toNat-48)) a<(a+1)*10 ^ m.length:=by
  intro m
  induction m with
  | nil=>intro a _; simp
  | cons c m ih=>
   intro a hm
   have hc:=hm c (List.mem_cons_self ..)
   simp only[qaj,Bool.and_eq_true,decide_eq_true_eq] at hc
   have:=ih (10*a+(c.toNat-48)) (fun b hb=>hm b (List.mem_cons_of_mem _ hb))
   simp only[List.foldl_cons,List.length_cons]
   refine Nat.lt_of_lt_of_le this ?_
   rw[Nat.pow_succ,Nat.mul_comm (10 ^ m.length),<- Nat.mul_assoc]
   exact Nat.mul_le_mul_right _ (by omega)
 have:=key l 0 h
 simpa [digV] using this
theorem qsP {s:ByteArray} (hd:qak qaj s=true) (hg:Tg (byl s)):digV s.toList<=2147483647/\Red [s] [bs (decB (digV s.toList))]:=by
 rw[ByteArray.toList_eq]
 have hall:(∀ b∈byl s,qaj b=true)/\digV (byl s)<=2147483647 /\ ∃ c r,byl s=c::r:=by
  rw[qaN] at hd
  rcases hg with ⟨c,r,e,hc,_⟩ | ⟨c,r,e,hc,hr,hv⟩ | h | ⟨c,e,hc⟩
  ·rw[e] at hd
   exfalso
   simp only[List.head?_cons,qaj,qaM,Bool.and_eq_true,decide_eq_true_eq] at hd hc
   omega
  ·refine⟨fun b hb=>?_,hv,c,r,e⟩
   rw[e] at hb
   rcases List.mem_cons.1 hb with rfl | hb
   ·exact hc
   ·exact hr b hb
  ·exfalso
   rcases pair_cases h with e | e | e | e | e | e<;>rw[e] at hd<;>revert hd<;>decide
  ·exfalso
   rw[e] at hd
   rcases qea hc with rfl | rfl | rfl | rfl | rfl | rfl | rfl | rfl | rfl | rfl | rfl | rfl | rfl | rfl | rfl | rfl<;>revert hd<;>decide
 obtain⟨h1,h2,c,r,e⟩:=hall
 refine⟨h2,?_⟩
 obtain⟨d1,d2,c',r',d3⟩:=qeP (n:=digV (byl s)) (by omega)
 have endW : ∀ (w:List UInt8),(∃ c r,w=c::r)->(∀ b∈w,qaj b=true) -> ∀ p,qbu p (bs w)=true:=fun w ⟨c,r,hw⟩ hb p=>by
  unfold qbu
  rw[qa6]
  cases hl:w.getLast? with
  | none=>rw[List.getLast?_eq_none_iff,hw] at hl; cases hl
  | some x=>exact qhp (hb x (List.mem_of_getLast? hl))
 have startW : ∀ (w:List UInt8),(∃ c r,w=c::r)->(∀ b∈w,qaj b=true)->qak qao (bs w)=true:=fun w ⟨c,r,hw⟩ hb=>by
  rw[qaN,qa6,hw]
  exact qhp (hb c (by rw[hw]; exact List.mem_cons_self ..))
 have es:s=bs (byl s):=(qcL s).symm
 refine .dig ?_ (fun p=>?_) ?_ .nil
 ·rw[qas]
  have hlt:=qsO (byl s) h1
  have hl:(byl s).length=r.length+1:=by rw[e]; rfl
  rw[hl] at hlt
  have:=qmP 20 (digV (byl s)) r.length hlt
  rw[<- qar,hl]
  exact this
 ·rw[endW _ ⟨c',r',d3⟩ d2,es,endW _ ⟨c,r,e⟩ h1]
 ·rw[startW _ ⟨c',r',d3⟩ d2,es,startW _ ⟨c,r,e⟩ h1]
theorem qk4 (f:Bool) : ∀ n:Nat,
  (∀ prec lv ts e r,(∀ t∈ts,TkG t)->1<=prec->prec<=8->lv<=20->qal 12 2 f n prec lv ts=some (.ok e r)->RE e prec lv ts r) /\
  (∀ prec lv e ts e2 r2 ts0,(∀ t∈ts,TkG t)->1<=prec->prec<8->lv<=20->RE e (if prec=4 then 5 else prec) lv ts0 ts->qcc 12 2 f n prec lv e ts=some (.ok e2 r2)->RE e2 prec lv ts0 r2) /\
  (∀ lv ts e r,(∀ t∈ts,TkG t)->lv<=20->qbe 12 2 f n lv ts=some (.ok e r)->e.good/\lv+(e.nest false 1+1)<=20 /\ ∃ l,Hx (bs [91]::(l++[bs [93]])) ts r/\NI l/\Red l (e.tx false 1))
 | 0=>⟨fun p lv ts e r _ _ _ _ h=>by simp[qal] at h,fun p lv e ts e2 r2 ts0 _ _ _ _ _ h=>by simp[qcc] at h,fun lv ts e r _ _ h=>by simp[qbe] at h⟩
 | n+1=>by
  obtain⟨h1,h2,h3⟩:=qk4 f n
  refine⟨fun prec lv ts e r hg hp hp8 hlv h=>?_,fun prec lv e ts e2 r2 ts0 hg hp hp8 hlv he h=>?_,fun lv ts e r hg hlv h=>?_⟩
  ·rw[qal] at h
   split at h
   ·rename_i hc
    cases ho:qcA 12 2 (ustr (prec==7)) (lv+1) ts with
    | er i c=>rw[ho] at h; cases h
    | ok u r1=>
     rw[ho] at h
     simp only at h
     obtain⟨o1,o2⟩:=qjY ho
     cases hx:qal 12 2 f n prec (lv+1) r1 with
     | none=>rw[hx] at h; cases h
     | some y=>
      rw[hx] at h
      cases y with
      | er i c=>cases h
      | ok e1 r2=>
       simp only[Option.some.injEq,Rz.ok.injEq] at h
       obtain⟨rfl,rfl⟩:=h
       obtain⟨g1,g2,l,g3,g4,g5,g6⟩:=h1 prec (lv+1) r1 e1 r2 (fun t ht=>hg t (qcI o1 t ht)) hp hp8 o2 hx
       have hu:qcZ (prec==7)=prec:=by
        rcases hc with ⟨rfl,_⟩ | ⟨rfl,_⟩<;>rfl
       refine⟨g1,?_,ustr (prec==7)::l,by simp,?_,qcj (qu5 _).1 g5,?_⟩
       ·simp only[E.nest,hu,Bool.false_or,Nat.lt_irrefl,decide_false]
        simp
        omega
       ·obtain⟨t,q,e,a1,a2,a3⟩:=o1
        exact⟨t,q,e,a1,a2,by rw[show q=r1 from a3]; exact g4⟩
       ·simp only[E.tx,hu,Bool.false_or,Nat.lt_irrefl,decide_false]
        exact .keep g6
   split at h
   ·rename_i hp7
    cases hx:qal 12 2 f n (prec+1) lv ts with
    | none=>rw[hx] at h; cases h
    | some y=>
     rw[hx] at h
     cases y with
     | er i c=>cases h
     | ok e1 r1=>
      simp only at h
      have g:=h1 (prec+1) lv ts e1 r1 hg (by omega) (by omega) hlv hx
      have hsub : ∀ t∈r1,TkG t:=fun t ht=>by
       obtain⟨_,_,l,_,q,_⟩:=g
       exact hg t (qcI q t ht)
      refine h2 prec lv e1 r1 e r ts hsub hp hp7 hlv ?_ h
      split
      ·rename_i h4; rw[h4] at g; exact g
      ·exact qoX g (by omega) (by omega)
   have hp8':prec=8:=by omega
   subst hp8'
   cases hn:nx ts with
   | none=>rw[hn] at h; simp only[Option.some.injEq] at h; exact absurd h qcf
   | some s=>
    rw[hn] at h
    simp only at h
    obtain⟨t,q,rfl,ts1,ts2⟩:=qgx hn
    have htg:=hg t (List.mem_cons_self ..) ts2
    rw[ts1] at htg
    have h1x:Hx [s] (t::q) q:=⟨t,q,rfl,ts1,ts2,rfl⟩
    split at h
    ·rename_i hd
     simp only[Option.some.injEq,Rz.ok.injEq,List.tail_cons] at h
     obtain⟨rfl,rfl⟩:=h
     obtain⟨n1,n2⟩:=qsP hd (htg (qgy hd))
     exact⟨⟨by omega,by omega⟩,by simp only[E.nest]; omega,[s],by simp,h1x,qgX s,by simp only[E.tx,Int.toNat_natCast]; exact n2⟩
    split at h
    ·rename_i hs
     simp only[Option.some.injEq,Rz.ok.injEq,List.tail_cons] at h
     obtain⟨rfl,rfl⟩:=h
     subst hs
     exact⟨.inr rfl,by simp only[E.nest]; omega,_,by simp,h1x,qgX _,qcW _⟩
    split at h
    ·rename_i hs
     simp only[Option.some.injEq,Rz.ok.injEq,List.tail_cons] at h
     obtain⟨rfl,rfl⟩:=h
     subst hs
     exact⟨.inl rfl,by simp only[E.nest]; omega,_,by simp,h1x,qgX _,qcW _⟩
    split at h
    ·rename_i hs
     simp only[Option.some.injEq,Rz.ok.injEq,List.tail_cons] at h
     obtain⟨rfl,rfl⟩:=h
     exact⟨hs,by simp only[E.nest]; omega,_,by simp,h1x,qgX _,qcW _⟩
    split at h
    ·rename_i hs
     cases hx:qbe 12 2 f n lv q with
     | none=>rw[List.tail_cons,hx] at h; cases h
     | some y=>
      rw[List.tail_cons,hx] at h
      cases y with
      | er i c=>cases h
      | ok e1 r1=>
       simp only[Option.some.injEq,Rz.ok.injEq] at h
       obtain⟨rfl,rfl⟩:=h
       obtain⟨g1,g2,l,g3,g4,g5⟩:=h3 lv q e1 r1 (fun x hx=>hg x (List.mem_cons_of_mem _ hx)) hlv hx
       refine⟨⟨hs,g1⟩,by simp only[E.nest]; omega,s::bs [91]::(l++[bs [93]]),by simp,⟨t,q,rfl,ts1,ts2,g3⟩,qcj (qk3 hs) (qcj (by decide) (qfW g4 (by decide))),?_⟩
       simp only[E.tx]
       exact .keep (.keep (qbP g5 (qcW _)))
    split at h
    ·rename_i hnd _ _ _ hf hs
     simp only[Option.some.injEq,Rz.ok.injEq,List.tail_cons] at h
     obtain⟨rfl,rfl⟩:=h
     exact⟨⟨htg (qgy hs.1),hs.1,hf,hs.2⟩,by simp only[E.nest]; omega,_,by simp,h1x,qgX _,qcW _⟩
    cases ho:qcA 12 2 (bs [40]) (lv+1) (t::q) with
    | er i c=>rw[ho] at h; cases h
    | ok u r1=>
     rw[ho] at h
     simp only at h
     obtain⟨o1,o2⟩:=qjY ho
     cases hx:qal 12 2 f n 1 (lv+1) r1 with
     | none=>rw[hx] at h; cases h
     | some y=>
      rw[hx] at h
      cases y with
      | er i c=>cases h
      | ok e1 r2=>
       simp only at h
       cases hxp:qau 12 (bs [41]) r2 with
       | er i c=>rw[hxp] at h; cases h
       | ok u2 r3=>
        rw[hxp] at h
        simp only[Option.some.injEq,Rz.ok.injEq] at h
        obtain⟨rfl,rfl⟩:=h
        obtain⟨g1,g2,l,g3,g4,g5,g6⟩:=h1 1 (lv+1) r1 e1 r2 (fun t ht=>hg t (qcI o1 t ht)) (by omega) (by omega) o2 hx
        refine⟨g1,?_,bs [40]::(l++[bs [41]]),by simp,?_,qcj (by decide) (qfW g5 (by decide)),?_⟩
        ·rw[qgw e1 8 (by omega)]
         split<;>omega
        ·exact hx_app (a:=[bs [40]]) |>.2 ⟨r1,o1,hx_app.2 ⟨r2,g4,qc8 hxp⟩⟩
        ·rw[qjX e1 8 (by omega)]
         refine qhQ (b:=true) ?_ (fun _=>rfl)
         exact .keep (qbP g6 (qcW _))
  ·rw[qcc] at h
   have hend:ts=ts->RE e prec lv ts0 ts:=fun _=>qoX he (by split<;>omega) (by split<;>omega)
   cases hn:nx ts with
   | none=>
    rw[hn] at h
    simp only at h
    split at h
    ·simp only[Option.some.injEq,Rz.ok.injEq] at h
     obtain⟨rfl,rfl⟩:=h
     exact hend rfl
    ·simp only[Option.some.injEq] at h; exact absurd h qcf
   | some s=>
    rw[hn] at h
    simp only at h
    cases hop:qjO prec s with
    | none=>
     rw[hop] at h
     simp only[Option.some.injEq,Rz.ok.injEq] at h
     obtain⟨rfl,rfl⟩:=h
     exact hend rfl
    | some o=>
     rw[hop] at h
     simp only at h
     obtain⟨op1,op2⟩:=qoY hop
     obtain⟨t,q,rfl,ts1,ts2⟩:=qgx hn
     rw[List.tail_cons] at h
     cases hx:qal 12 2 f n (prec+1) lv q with
     | none=>rw[hx] at h; cases h
     | some y=>
      rw[hx] at h
      cases y with
      | er i c=>cases h
      | ok e' r1=>
       simp only at h
       obtain⟨a1,a2,la,a3,a4,a5,a6⟩:=he
       obtain⟨b1,b2,lb,b3,b4,b5,b6⟩:=h1 (prec+1) lv q e' r1 (fun x hx=>hg x (List.mem_cons_of_mem _ hx)) (by omega) (by omega) hlv hx
       have hleft:o.left=if prec=4 then 5 else prec:=by unfold Bop.left; rw[op1]
       have hb:RE (.bin f o e e') prec lv ts0 r1:=by
        refine⟨⟨a1,b1⟩,?_,la++o.str::lb,by simp,?_,qiV a5 (qrT o).1 (qrT o).2 b5,?_⟩
        ·simp only[E.nest,hleft,op1,Bool.false_or,Nat.lt_irrefl,decide_false]
         simp
         omega
        ·exact hx_app.2 ⟨_,a4,⟨t,q,rfl,ts1.trans op2.symm,ts2,b4⟩⟩
        ·simp only[E.tx,hleft,op1,Bool.false_or,Nat.lt_irrefl,decide_false]
         exact qbP a6 (.keep b6)
       split at h
       ·simp only[Option.some.injEq,Rz.ok.injEq] at h
        obtain⟨rfl,rfl⟩:=h
        exact hb
       ·rename_i h4
        have hsub : ∀ t∈r1,TkG t:=fun x hxm=>hg x (List.mem_cons_of_mem _ (qcI b4 x hxm))
        exact h2 prec lv (.bin f o e e') r1 e2 r2 ts0 hsub hp hp8 hlv (by rw[if_neg h4]; exact hb) h
  ·rw[qbe] at h
   cases ho:qcA 12 2 (bs [91]) (lv+1) ts with
   | er i c=>rw[ho] at h; cases h
   | ok u r1=>
    rw[ho] at h
    simp only at h
    obtain⟨o1,o2⟩:=qjY ho
    cases hx:qal 12 2 f n 1 (lv+1) r1 with
    | none=>rw[hx] at h; cases h
    | some y=>
     rw[hx] at h
     cases y with
     | er i c=>cases h
     | ok e1 r2=>
      simp only at h
      cases hxp:qau 12 (bs [93]) r2 with
      | er i c=>rw[hxp] at h; cases h
      | ok u2 r3=>
       rw[hxp] at h
       simp only[Option.some.injEq,Rz.ok.injEq] at h
       obtain⟨rfl,rfl⟩:=h
       obtain⟨g1,g2,l,g3,g4,g5,g6⟩:=h1 1 (lv+1) r1 e1 r2 (fun t ht=>hg t (qcI o1 t ht)) (by omega) (by omega) o2 hx
       exact⟨g1,by omega,l,hx_app (a:=[bs [91]]) |>.2 ⟨r1,o1,hx_app.2 ⟨r2,g4,qc8 hxp⟩⟩,g5,g6⟩
end Go.Pm
end SUd
