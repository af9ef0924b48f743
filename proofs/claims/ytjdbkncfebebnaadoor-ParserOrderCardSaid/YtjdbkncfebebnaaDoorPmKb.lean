/- Chapter 13's parser: the lexer's reserved words; white space and comments. Chapter 13's parser: words and integers. Chapter 13's parser: a token. Chapter 13's parser: the token at an offset. Chapter 13's parser: the token at an offset is the plain one. DEV ONLY: prefixes of bodies. Chapter 13's parser: all tokens. Chapter 13's parser: the queue holds the plain tokens. Chapter 13's parser: what it looks at, takes, expects. Chapter 13's parser: words and symbols that it asks for. Chapter 13's parser: expect and open against the plain ones. Chapter 13's parser: operators between operands: a round. Chapter 13's parser: rows of operators against the plain ones. -/
import Derived.Test.YtjdbkncfebebnaaDoorPmSb
import Derived.Test.YtjdbkncfebebnaaDoorPmFx
import Derived.Test.YtjdbkncfebebnaaDoorPmEt
import Derived.Test.YtjdbkncfebebnaaDoorPmY
set_option linter.unusedSimpArgs false
set_option linter.unusedVariables false
section SKb
namespace Go.Pm
open F
set_option maxHeartbeats 4000000
def kwL:List (List UInt8 × Int):=[([111,110],2),([97,99,116],2),([116,105,99,107],2),([105,102],2),([101,108,115,101],2),([119,104,105,108,101],2),([101,102,102,101,99,116],2),([115,116,111,112],2),([116,114,117,101],2),([102,97,108,115,101],2),([115,101,108,102],2),([111,116,104,101,114],2),([120],3),([121],3),([118,120],3),([118,121],3),([97],3),([98],3),([104,105,116],3),([115,116,105,108,108],3)]
def kwM:List (Value × V):=kwL.map fun x=>(.string ⟨x.1.toArray⟩,.int x.2)
theorem qic (s:ByteArray):Z tP (.call 239 [.str s] [])=some (.ret (.agg [.str s,.mp 0]) [.map kwM]):=by
 exact qoJ (n:=2) (by kernel_rfl)
theorem qqP (w:ByteArray):qi8 .s (.string w) kwM=some (if w∈fieldNames then some (.int 3) else if w∈wordNames then some (.int 2) else none):=by
 have key : ∀ (l:List (List UInt8 × Int)),qi8 .s (.string w) (l.map fun x=>(Value.string ⟨x.1.toArray⟩,V.int x.2))=some ((l.find? fun x=>decide (bs x.1=w)).map fun x => .int x.2):=fun l=>by
  induction l with
  | nil=>rfl
  | cons x l ih=>
   simp only[List.map_cons,qi8,qdC,ih,List.find?_cons]
   by_cases h:bs x.1=w
   ·have h':(w==(⟨x.1.toArray⟩:ByteArray))=true:=by rw[beq_iff_eq]; exact h.symm
    have h2:((⟨x.1.toArray⟩:ByteArray)==w)=true:=by rw[beq_iff_eq]; exact h
    simp[h,h',h2]
   ·have h':(w==(⟨x.1.toArray⟩:ByteArray))=false:=by rw[beq_eq_false_iff_ne]; exact fun e=>h e.symm
    have h2:((⟨x.1.toArray⟩:ByteArray)==w)=false:=by rw[beq_eq_false_iff_ne]; exact h
    simp[h,h',h2]
 rw[kwM,key]
 congr 1
 by_cases h1:w∈fieldNames
 ·rw[if_pos h1]
  simp only[fieldNames,List.mem_cons,List.not_mem_nil,or_false] at h1
  rcases h1 with rfl | rfl | rfl | rfl | rfl | rfl | rfl | rfl<;>rfl
 rw[if_neg h1]
 by_cases h2:w∈wordNames
 ·rw[if_pos h2]
  have hne:w≠qm1:=fun e=>h1 (by rw[e]; decide)
  simp only[wordNames,List.mem_cons,List.not_mem_nil,or_false] at h2
  rcases h2 with rfl | rfl | rfl | h2 | rfl | rfl | rfl | rfl | rfl | rfl | rfl | rfl | rfl
  case inr.inr.inr.inl=>exact absurd h2 hne
  all_goals rfl
 rw[if_neg h2]
 have:kwL.find? (fun x=>decide (bs x.1=w))=none:=by
  rw[List.find?_eq_none]
  intro x hx
  have hall : ∀ x∈kwL,bs x.1∈fieldNames\/bs x.1∈wordNames:=by decide
  rw[decide_eq_true_eq]
  rintro rfl
  rcases hall x hx with h | h
  ·exact h1 h
  ·exact h2 h
 rw[this]
 rfl
abbrev pO (s:ByteArray) (m:Nat) (Q:V) (i a c:Int):Ob := .cells [.str s,.mp m,Q,.int i,.int a,.int c]
inductive LxS (s:ByteArray):S->Prop
 | nil (i a c:Int):LxS s [pO s 1 (.dat (.lit (.slice none 0 0))) i a c,.map kwM]
 | gr (cs:List D) (n t:Nat) (i a c:Int):LxS s [pO s 1 (.gsl cs n 5 2) i a c,.map kwM,.tip t]
theorem qbd:qg9 kwM=[]:=rfl
theorem qbQ (r:Nat->Nat):qp9 r kwM=kwM:=rfl
attribute [local simp] qbd qbQ
theorem qid (s:ByteArray) (hl:s.size<2 ^ 40) {σ : S} (hσ : LxS s σ) : ∀ (m i:Nat) (cm:Bool),i+m=s.size ->
  (i+qaX cm ((byl s).drop i)=s.size /\ ∃ v,Z tP (.loop σ.length F251l0 [(0,.ptr 0 0),(1,.int i),(5,.bool cm)] σ)=some (.out (.exit 0) [(0,.ptr 0 0),(1,.int s.size),(5,v),(13,.bool false)] σ)) \/
  Z tP (.loop σ.length F251l0 [(0,.ptr 0 0),(1,.int i),(5,.bool cm)] σ)=some (.out .ret [(4,.int ((i+qaX cm ((byl s).drop i):Nat)))] σ)
 | 0,i,cm,hi=>by
  obtain rfl:i=s.size:=by omega
  have hd:(byl s).drop s.size=[]:=List.drop_eq_nil_of_le (by rw[qaG]; exact Nat.le_refl _)
  refine .inl ⟨by rw[hd]; simp[qaX],.bool cm,?_⟩
  rw[qac]
  cases hσ <;> simp[qae,qdh,V.len,List.range_succ]
 | m+1,i,cm,hi=>by
  obtain⟨c,h1,h2⟩:=qmJ (s:=s) (i:=i) (by omega)
  have hd:=qgd h2
  have hlt:(i:Int)<s.size:=by omega
  have w1:=qal ((i:Int)+1) (by omega)
  have ih:=fun cm=>qid s hl hσ m (i+1) cm (by omega)
  have fin : ∀ cm',qaX cm ((byl s).drop i)=1+qaX cm' ((byl s).drop (i+1)) ->
    Z tP (.loop σ.length F251l0 [(0,.ptr 0 0),(1,.int i),(5,.bool cm)] σ)=Z tP (.loop σ.length F251l0 [(0,.ptr 0 0),(1,.int (i+1)),(5,.bool cm')] σ) ->
    (i+qaX cm ((byl s).drop i)=s.size /\ ∃ v,Z tP (.loop σ.length F251l0 [(0,.ptr 0 0),(1,.int i),(5,.bool cm)] σ)=some (.out (.exit 0) [(0,.ptr 0 0),(1,.int s.size),(5,v),(13,.bool false)] σ)) \/
    Z tP (.loop σ.length F251l0 [(0,.ptr 0 0),(1,.int i),(5,.bool cm)] σ)=some (.out .ret [(4,.int ((i+qaX cm ((byl s).drop i):Nat)))] σ):=fun cm' e z=>by
   rw[e,z]
   have ih:=ih cm'
   rw[show i+(1+qaX cm' ((byl s).drop (i+1)))=i+1+qaX cm' ((byl s).drop (i+1)) by omega]
   simpa using ih
  by_cases h10:c.toNat=10
  ·refine fin false (by rw[hd]; simp[qaX,h10]; omega) ?_
   rw[qac]
   cases hσ <;> simp[qae,qdh,V.len,h1,hlt,h10,w1,List.range_succ]
  have h10' : ¬ (c.toNat:Int)=10:=by omega
  by_cases hc:cm=true\/c.toNat=32\/c.toNat=9
  ·refine fin cm (by rw[hd]; simp only[qaX,if_neg h10,if_pos hc]; omega) ?_
   rw[qac]
   cases cm
   ·have h9:c.toNat=32\/c.toNat=9:=by simpa using hc
    rcases h9 with h9 | h9<;>cases hσ <;> simp[qae,qdh,V.len,h1,hlt,h10',h9,w1,List.range_succ]
   ·cases hσ <;> simp[qae,qdh,V.len,h1,hlt,h10',w1,List.range_succ]
  have hc':=hc
  simp only[not_or,Bool.not_eq_true] at hc'
  obtain⟨rfl,h32,h9⟩:=hc'
  have h32' : ¬ (c.toNat:Int)=32:=by omega
  have h9' : ¬ (c.toNat:Int)=9:=by omega
  by_cases h35:c.toNat=35
  ·refine fin true (by rw[hd]; simp only[qaX,if_neg h10,if_neg hc,if_pos h35]; omega) ?_
   rw[qac]
   cases hσ <;> simp[qae,qdh,V.len,h1,hlt,h35,w1,List.range_succ]
  ·have h35' : ¬ (c.toNat:Int)=35:=by omega
   have e:qaX false ((byl s).drop i)=0:=by rw[hd]; simp only[qaX,if_neg h10,if_neg hc,if_neg h35]
   rw[e]
   refine .inr ?_
   rw[qac]
   cases hσ <;> simp[qae,qdh,V.len,h1,hlt,h10',h32',h9',h35',List.range_succ]
theorem qnk (s:ByteArray) (hl:s.size<2 ^ 40) {σ : S} (hσ : LxS s σ) {i:Nat} (hi:i<=s.size):Z tP (.call 251 [.ptr 0 0,.int i] σ)=some (.ret (.int ((i+qaX false ((byl s).drop i):Nat))) σ):=by
 rcases qid s hl hσ (s.size-i) i false (by omega) with ⟨h,v,z⟩ | z
 ·rw[h]
  refine Z_call (pf:=F251) rfl rfl ?_
  cases hσ <;> simp only[List.length_cons,List.length_nil,Nat.reduceAdd] at z<;>simp[F251,z,List.range_succ]
 ·generalize i+qaX false ((byl s).drop i)=j at z ⊢
  refine Z_call (pf:=F251) rfl rfl ?_
  cases hσ <;> simp only[List.length_cons,List.length_nil,Nat.reduceAdd] at z<;>simp[F251,z,List.range_succ]
end Go.Pm
end SKb
section SKc
namespace Go.Pm
open F
set_option maxHeartbeats 4000000
attribute [local simp] qbd qbQ
abbrev tk5:Ob := .cells [.int 0,.str ⟨#[]⟩,.int 0,.int 0,.int 0]
theorem qie (s:ByteArray) (hl:s.size<2 ^ 40) {σ : S} (hσ : LxS s σ) (a:Int) : ∀ (m i:Nat),i+m=s.size ->
  Z tP (.loop σ.length F265l0 [(0,.ptr 0 0),(1,.int a),(4,.ptr σ.length 0),(5,.int i)] (σ ++ [tk5]))=some (.out (.exit 0) [(0,.ptr 0 0),(1,.int a),(4,.ptr σ.length 0),(5,.int ((i+qa1 qar ((byl s).drop i):Nat))),(34,.bool false)] (σ ++ [tk5]))
 | 0,i,hi=>by
  obtain rfl:i=s.size:=by omega
  have hd:(byl s).drop s.size=[]:=List.drop_eq_nil_of_le (by rw[qaG]; exact Nat.le_refl _)
  rw[qac,hd]
  cases hσ <;> simp[qae,qeM,V.len,qa1,List.range_succ]
 | m+1,i,hi=>by
  obtain⟨c,h1,h2⟩:=qmJ (s:=s) (i:=i) (by omega)
  have hd:=qgd h2
  have hlt:(i:Int)<s.size:=by omega
  have w1:=qal ((i:Int)+1) (by omega)
  have zl:=qeu c
  have zd:=qfI c
  have ih:=qie s hl hσ a m (i+1) (by omega)
  simp only[Int.natCast_add,Int.cast_ofNat_Int] at ih
  by_cases hc:qar c=true
  ·have e:(i:Int)+((qa1 qar ((byl s).drop (i+1)):Int)+1)=i+1+qa1 qar ((byl s).drop (i+1)):=by omega
   rw[qac,hd]
   simp only[qar,Bool.or_eq_true] at hc
   by_cases hcl:qaO c=true
   ·cases hσ <;> simp only[List.cons_append,List.nil_append,List.length_cons,List.length_nil,Nat.reduceAdd] at ih<;>simp[qae,qeM,V.len,qa1,h1,hlt,w1,zl,zd,hcl,ih,qar,e,List.range_succ]
   ·have hcd:qaj c=true:=by rcases hc with h | h; exact absurd h hcl; exact h
    cases hσ <;> simp only[List.cons_append,List.nil_append,List.length_cons,List.length_nil,Nat.reduceAdd] at ih<;>simp[qae,qeM,V.len,qa1,h1,hlt,w1,zl,zd,hcl,hcd,ih,qar,e,List.range_succ]
  ·simp only[qar,Bool.or_eq_true,not_or] at hc
   rw[qac,hd]
   cases hσ <;> simp[qae,qeM,V.len,qa1,h1,hlt,w1,zl,zd,hc.1,hc.2,qar,List.range_succ]
abbrev ptD (k:Int) (t:ByteArray) (a v c:Int):V := .dat (.agg [.lit (.int .i64 k),.lit (.string t),.lit (.int .i64 a),.lit (.int .i64 v),.lit (.int .i64 c)])
def pkW (w:ByteArray):Int:=if w∈fieldNames then 3 else if w∈wordNames then 2 else if 8<w.size then 6 else 1
def pcW (w:ByteArray):Int:=if w∈fieldNames\/w∈wordNames then 0 else if 8<w.size then 2 else 0
theorem qqQ (s:ByteArray) (hl:s.size<2 ^ 40) {σ : S} (hσ : LxS s σ) {i:Nat} (hi:i<=s.size):Z tP (.call 265 [.ptr 0 0,.int i] σ)=some (.ret (ptD (pkW (s.extract i (i+qa1 qar ((byl s).drop i)))) (s.extract i (i+qa1 qar ((byl s).drop i))) i 0 (pcW (s.extract i (i+qa1 qar ((byl s).drop i))))) σ):=by
 have z:=qie s hl hσ i (s.size-i) i (by omega)
 have hr:=qdF qar ((byl s).drop i)
 rw[List.length_drop,qaG] at hr
 generalize hq:i+qa1 qar ((byl s).drop i)=q at z ⊢
 have q1:(i:Int)<=q:=by omega
 have q2:(q:Int)<=s.size:=by omega
 have q3:(i:Int)<=s.size:=by omega
 have hk:=qqP (s.extract i q)
 have hws:(s.extract i q).size<=s.size:=by rw[ByteArray.size_extract]; omega
 obtain⟨w,hw⟩ : ∃ w,s.extract i q=w:=⟨_,rfl⟩
 rw[hw] at hk hws ⊢
 refine Z_call (pf:=F265) rfl rfl ?_
 unfold pkW pcW
 by_cases h1:w∈fieldNames
 ·rw[if_pos h1] at hk
  cases hσ <;> simp only[List.cons_append,List.nil_append,List.length_cons,List.length_nil,Nat.reduceAdd] at z<;>simp[F265,z,qck,bound,q1,q2,q3,hw,hk,h1,qmq,qc6,qa8,List.range_succ]
 by_cases h2:w∈wordNames
 ·rw[if_neg h1,if_pos h2] at hk
  cases hσ <;> simp only[List.cons_append,List.nil_append,List.length_cons,List.length_nil,Nat.reduceAdd] at z<;>simp[F265,z,qck,bound,q1,q2,q3,hw,hk,h1,h2,qmq,qc6,qa8,List.range_succ]
 rw[if_neg h1,if_neg h2] at hk
 by_cases h3:8<w.size
 ·have h3':(8:Int)<w.size:=by omega
  cases hσ <;> simp only[List.cons_append,List.nil_append,List.length_cons,List.length_nil,Nat.reduceAdd] at z<;>simp[F265,z,qck,bound,q1,q2,q3,hw,hk,h1,h2,h3,h3',V.len,qmq,qc6,qa8,List.range_succ]
 ·have h3' : ¬ (8:Int)<w.size:=by omega
  cases hσ <;> simp only[List.cons_append,List.nil_append,List.length_cons,List.length_nil,Nat.reduceAdd] at z<;>simp[F265,z,qck,bound,q1,q2,q3,hw,hk,h1,h2,h3,h3',V.len,qmq,qc6,qa8,List.range_succ]
def qoU (v:Nat) (l:List UInt8):Nat:=l.foldl (fun v c=>min (10*v+(c.toNat-48)) 2147483648) v
theorem qqR (l:List UInt8) : ∀ n,qoU (min n 2147483648) l=min (l.foldl (fun v c=>10*v+(c.toNat-48)) n) 2147483648:=by
 induction l with
 | nil=>intro n; rfl
 | cons c l ih=>
  intro n
  have:=ih (10*n+(c.toNat-48))
  simp only[qoU,List.foldl_cons] at this ⊢
  rw[<- this]
  congr 1
  omega
theorem qoV (l:List UInt8):qoU 0 l=min (digV l) 2147483648:=qqR l 0
theorem qj2 (s:ByteArray) (hl:s.size<2 ^ 40) {σ : S} (hσ : LxS s σ) (a:Int) : ∀ (m i v:Nat),i+m=s.size->v<=2147483648 ->
  Z tP (.loop σ.length F267l0 [(0,.ptr 0 0),(1,.int a),(4,.ptr σ.length 0),(5,.int i),(6,.int v)] (σ ++ [tk5]))=some (.out (.exit 0) [(0,.ptr 0 0),(1,.int a),(4,.ptr σ.length 0),(5,.int ((i+qa1 qaj ((byl s).drop i):Nat))),(6,.int (qoU v (((byl s).drop i).take (qa1 qaj ((byl s).drop i))))),(24,.bool false)] (σ ++ [tk5]))
 | 0,i,v,hi,hv=>by
  obtain rfl:i=s.size:=by omega
  have hd:(byl s).drop s.size=[]:=List.drop_eq_nil_of_le (by rw[qaG]; exact Nat.le_refl _)
  rw[qac,hd]
  cases hσ <;> simp[qae,qf0,V.len,qa1,qoU,List.range_succ]
 | m+1,i,v,hi,hv=>by
  obtain⟨c,h1,h2⟩:=qmJ (s:=s) (i:=i) (by omega)
  have hd:=qgd h2
  have hlt:(i:Int)<s.size:=by omega
  have w1:=qal ((i:Int)+1) (by omega)
  have zd:=qfI c
  by_cases hc:qaj c=true
  ·have hc2:48<=c.toNat/\c.toNat<=57:=by simpa [qaj] using hc
   have ih:=qj2 s hl hσ a m (i+1) (min (10*v+(c.toNat-48)) 2147483648) (by omega) (Nat.min_le_right _ _)
   have e:(i:Int)+((qa1 qaj ((byl s).drop (i+1)):Int)+1)=i+1+qa1 qaj ((byl s).drop (i+1)):=by omega
   have es:qoU v (((byl s).drop i).take (qa1 qaj ((byl s).drop i)))=qoU (min (10*v+(c.toNat-48)) 2147483648) (((byl s).drop (i+1)).take (qa1 qaj ((byl s).drop (i+1)))):=by
    rw[hd]; simp[qa1,hc,qoU]
   rw[es]
   have er:i+qa1 qaj ((byl s).drop i)=i+1+qa1 qaj ((byl s).drop (i+1)):=by
    rw[hd]; simp[qa1,hc]; omega
   rw[er]
   have u0 : ∀ d:Nat,d<10->IntKind.u8.wrap (d:Int)=d:=by decide
   have u1:IntKind.u8.wrap ((c.toNat:Int)-48)=c.toNat-48:=by
    rw[show ((c.toNat:Int)-48)=((c.toNat-48:Nat):Int) by omega]; exact u0 _ (by omega)
   have u2:IntKind.i64.wrap ((c.toNat:Int)-48)=c.toNat-48:=qal _ (by omega)
   have u3:IntKind.i64.wrap (10*(v:Int))=10*v:=qal _ (by omega)
   have u4:IntKind.i64.wrap (10*(v:Int)+((c.toNat:Int)-48))=10*v+(c.toNat-48):=qal _ (by omega)
   have u5:(if 2147483648<10*(v:Int)+(c.toNat-48) then 2147483648 else 10*(v:Int)+(c.toNat-48))=((min (10*v+(c.toNat-48)) 2147483648:Nat):Int):=by split<;>omega
   generalize min (10*v+(c.toNat-48)) 2147483648=v' at ih u5 ⊢
   rw[<- ih,qac]
   cases hσ <;> simp[qae,qf0,V.len,h1,hlt,w1,zd,hc,u1,u2,u3,u4,u5,qoL,qlF,List.range_succ]
  ·have e0:qa1 qaj ((byl s).drop i)=0:=by rw[hd]; simp[qa1,hc]
   rw[e0,qac]
   cases hσ <;> simp[qae,qf0,V.len,h1,hlt,zd,hc,qoU,List.range_succ]
end Go.Pm
end SKc
section SKd
namespace Go.Pm
open F
set_option maxHeartbeats 4000000
attribute [local simp] qbd qbQ
theorem qs6 (s:ByteArray) (hl:s.size<2 ^ 40) {σ : S} (hσ : LxS s σ) {i:Nat} (hi:i<=s.size):Z tP (.call 267 [.ptr 0 0,.int i] σ) =
  some (.ret (ptD (if 2147483647<digV (((byl s).drop i).take (qa1 qaj ((byl s).drop i))) then 6 else 4) (s.extract i (i+qa1 qaj ((byl s).drop i))) i (min (digV (((byl s).drop i).take (qa1 qaj ((byl s).drop i)))) 2147483648:Nat) (if 2147483647<digV (((byl s).drop i).take (qa1 qaj ((byl s).drop i))) then 6 else 0)) σ):=by
 have z:=qj2 s hl hσ i (s.size-i) i 0 (by omega) (by omega)
 rw[qoV] at z
 have hr:=qdF qaj ((byl s).drop i)
 rw[List.length_drop,qaG] at hr
 generalize digV (((byl s).drop i).take (qa1 qaj ((byl s).drop i)))=n at z ⊢
 generalize hq:i+qa1 qaj ((byl s).drop i)=q at z ⊢
 have q1:(i:Int)<=q:=by omega
 have q2:(q:Int)<=s.size:=by omega
 have q3:(i:Int)<=s.size:=by omega
 obtain⟨w,hw⟩ : ∃ w,s.extract i q=w:=⟨_,rfl⟩
 rw[hw]
 refine Z_call (pf:=F267) rfl rfl ?_
 by_cases hn:2147483647<n
 ·have e:min n 2147483648=2147483648:=by omega
  rw[e] at z ⊢
  rw[if_pos hn,if_pos hn]
  simp only[Int.natCast_zero,Int.cast_ofNat_Int] at z
  cases hσ <;> simp only[List.cons_append,List.nil_append,List.length_cons,List.length_nil,Nat.reduceAdd] at z<;>simp[F267,z,qck,bound,q1,q2,q3,hw,List.range_succ]
 ·have e:min n 2147483648=n:=by omega
  have hn' : ¬ (2147483647:Int)<n:=by omega
  rw[e] at z ⊢
  rw[if_neg hn,if_neg hn]
  simp only[Int.natCast_zero] at z
  cases hσ <;> simp only[List.cons_append,List.nil_append,List.length_cons,List.length_nil,Nat.reduceAdd] at z<;>simp[F267,z,qck,bound,q1,q2,q3,hw,hn',List.range_succ]
def qqf:ByteArray:=⟨#[123,125,91,93,40,41,61,59,44,60,62,43,45,42,47,33]⟩
theorem qrc (c:UInt8):decide (0<=firstIdx qqf c)=decide (c.toNat∈qia):=by
 have h : ∀ n:_root_.Fin 256,decide (0<=firstIdx qqf n.val.toUInt8)=decide (n.val.toUInt8.toNat∈qia):=by decide +kernel
 have:=h ⟨c.toNat,c.toNat_lt⟩
 simpa using this
theorem qs7 (c:UInt8):Z tP (.call 268 [.str qqf,.dat (.lit (.int .u8 c.toNat))] [])=some (.ret (.int (firstIdx qqf c)) []):=by
 have z:Z tP (.call 275 [.str qqf,.dat (.lit (.int .u8 c.toNat))] [])=some (.ret (.int (firstIdx qqf c)) []):=by
  refine Z_call (pf:=F275) rfl rfl ?_
  simp[F275]
 refine Z_call (pf:=F268) rfl rfl ?_
 simp[F268,z]
def kindT (t:Tk):Int:=if t.bad≠0 then 6 else if t.s=⟨#[]⟩ then 0 else if qai qaO t.s then (if t.s∈fieldNames then 3 else if t.s∈wordNames then 2 else 1) else if qai qaj t.s then 4 else 5
def qe1 (t:Tk):ByteArray:=if t.bad=12 then ⟨#[]⟩ else t.s
def valT (t:Tk):Nat:=if qai qaj t.s then min (digV (byl t.s)) 2147483648 else 0
abbrev ptk (t:Tk):V:=ptD (kindT t) (qe1 t) t.at_ (valT t) t.bad
end Go.Pm
end SKd
section SKe
namespace Go.Pm
open F
set_option maxHeartbeats 4000000
attribute [local simp] qbd qbQ
theorem qdQ (p:UInt8->Bool) (c:UInt8) (r:List UInt8):qai p (bs (c::r))=p c:=by rw[qaH,qaP]; rfl
theorem qny {c:UInt8} (h:qaO c=true):qaj c=false:=by
 simp only[qaO,qaj,Bool.and_eq_true,decide_eq_true_eq,Bool.and_eq_false_iff,decide_eq_false_iff_not] at h ⊢
 omega
theorem qlH {p:UInt8->Bool} {c:UInt8} (r:List UInt8) (h:p c=true):(c::r).take (qa1 p (c::r))=c::r.take (qa1 p r):=by simp[qa1,h]
theorem qo3 (s:ByteArray) {σ : S} (hσ : LxS s σ):Z tP (.call 250 [.ptr 0 0,.int s.size] σ)=some (.ret (ptD 0 ⟨#[]⟩ s.size 0 0) σ):=by
 refine Z_call (pf:=F250) rfl rfl ?_
 cases hσ <;> simp[F250,V.len,List.range_succ]
theorem qo4 (s:ByteArray) {σ : S} (hσ : LxS s σ) {i:Nat} (hi:i<s.size) {c:UInt8} (h1:s[i]?=some c) (hc:qaO c=true) {v:D} (ho:V.one (.dat v)=true) {k n x e:Int} {t:ByteArray} (z:Z tP (.call 265 [.ptr 0 0,.int i] σ)=some (.ret (ptD k t n x e) σ)):Z tP (.call 250 [.ptr 0 0,.int i] σ)=some (.ret (ptD k t n x e) σ):=by
 have zl:=qeu c
 have hne : ¬ (i:Int)=s.size:=by omega
 have hne' : ¬ i=s.size:=by omega
 refine Z_call (pf:=F250) rfl rfl ?_
 cases hσ <;> simp[F250,V.len,h1,hne,hne',zl,hc,z,List.range_succ]
theorem qo5 (s:ByteArray) {σ : S} (hσ : LxS s σ) {i:Nat} (hi:i<s.size) {c:UInt8} (h1:s[i]?=some c) (hl:qaO c=false) (hc:qaj c=true) {k n x e:Int} {t:ByteArray} (z:Z tP (.call 267 [.ptr 0 0,.int i] σ)=some (.ret (ptD k t n x e) σ)):Z tP (.call 250 [.ptr 0 0,.int i] σ)=some (.ret (ptD k t n x e) σ):=by
 have zl:=qeu c
 have zd:=qfI c
 have hne : ¬ (i:Int)=s.size:=by omega
 have hne' : ¬ i=s.size:=by omega
 refine Z_call (pf:=F250) rfl rfl ?_
 cases hσ <;> simp[F250,V.len,h1,hne,hne',zl,zd,hl,hc,z,List.range_succ]
theorem qnz (s:ByteArray) (hs:s.size<2 ^ 40) {σ : S} (hσ : LxS s σ) {i:Nat} (hi:i+2<=s.size) {c:UInt8} (h1:s[i]?=some c) (hl:qaO c=false) (hc:qaj c=false) {p:ByteArray} (hx:s.extract i (i+2)=p) (hp:p∈qdB):Z tP (.call 250 [.ptr 0 0,.int i] σ)=some (.ret (ptD 5 p i 0 0) σ):=by
 have zl:=qeu c
 have zd:=qfI c
 have hne : ¬ (i:Int)=s.size:=by omega
 have hne' : ¬ i=s.size:=by omega
 have w2:=qal ((i:Int)+2) (by omega)
 have hle:(i:Int)+2<=s.size:=by omega
 have b1:(i:Int)<=s.size:=by omega
 have b2:(i:Int)<=(i:Int)+2:=by omega
 have b3:(0:Int)<=(i:Int)+2:=by omega
 have b4:((i:Int)+2).toNat=i+2:=by omega
 simp only[qdB,bs,List.mem_cons,List.not_mem_nil,or_false] at hp
 refine Z_call (pf:=F250) rfl rfl ?_
 rcases hp with rfl | rfl | rfl | rfl | rfl | rfl<;>cases hσ <;> simp[F250,V.len,h1,hne,hne',zl,zd,hl,hc,w2,hle,qck,bound,b1,b2,b3,b4,hx,qa7,List.range_succ]
theorem qo6 (s:ByteArray) (hs:s.size<2 ^ 40) {σ : S} (hσ : LxS s σ) {i:Nat} (hi:i<s.size) {c:UInt8} (h1:s[i]?=some c) (hl:qaO c=false) (hc:qaj c=false) (hp:i+2<=s.size->s.extract i (i+2)∉qdB) {x:ByteArray} (hx:s.extract i (i+1)=x):Z tP (.call 250 [.ptr 0 0,.int i] σ)=some (.ret (if c.toNat∈qia then ptD 5 x i 0 0 else ptD 6 ⟨#[]⟩ i 0 12) σ):=by
 have zl:=qeu c
 have zd:=qfI c
 have zx:=qs7 c
 have hm:=qrc c
 obtain⟨j,hj0⟩ : ∃ j,firstIdx qqf c=j:=⟨_,rfl⟩
 rw[hj0] at zx hm
 simp only[qqf] at zx
 have hne : ¬ (i:Int)=s.size:=by omega
 have hne' : ¬ i=s.size:=by omega
 have w1:=qal ((i:Int)+1) (by omega)
 have w2:=qal ((i:Int)+2) (by omega)
 have a1:(i:Int)+1<=s.size:=by omega
 have a2:(i:Int)<=(i:Int)+1:=by omega
 have a3:(0:Int)<=(i:Int)+1:=by omega
 have a4:((i:Int)+1).toNat=i+1:=by omega
 have b1:(i:Int)<=s.size:=by omega
 have b2:(i:Int)<=(i:Int)+2:=by omega
 have b3:(0:Int)<=(i:Int)+2:=by omega
 have b4:((i:Int)+2).toNat=i+2:=by omega
 by_cases hle:i+2<=s.size
 ·have hle':(i:Int)+2<=s.size:=by omega
  have hp':=hp hle
  generalize hy:s.extract i (i+2)=y at hp'
  simp only[qdB,bs,List.mem_cons,List.not_mem_nil,or_false,not_or] at hp'
  obtain⟨n1,n2,n3,n4,n5,n6⟩:=hp'
  refine Z_call (pf:=F250) rfl rfl ?_
  by_cases hk:c.toNat∈qia
  ·have hj:(0:Int)<=j:=by simpa [hk] using hm
   rw[if_pos hk]
   cases hσ <;> simp[F250,V.len,h1,hne,hne',zl,zd,zx,hl,hc,w1,w2,hle',qck,bound,a1,a2,a3,a4,b1,b2,b3,b4,hx,hy,n1,n2,n3,n4,n5,n6,hj,qa7,List.range_succ]
  ·have hj : ¬ (0:Int)<=j:=by simpa [hk] using hm
   rw[if_neg hk]
   cases hσ <;> simp[F250,V.len,h1,hne,hne',zl,zd,zx,hl,hc,w1,w2,hle',qck,bound,a1,a2,a3,a4,b1,b2,b3,b4,hx,hy,n1,n2,n3,n4,n5,n6,hj,qa7,List.range_succ]
 ·have hle' : ¬ (i:Int)+2<=s.size:=by omega
  refine Z_call (pf:=F250) rfl rfl ?_
  by_cases hk:c.toNat∈qia
  ·have hj:(0:Int)<=j:=by simpa [hk] using hm
   rw[if_pos hk]
   cases hσ <;> simp[F250,V.len,h1,hne,hne',zl,zd,zx,hl,hc,w1,w2,hle',qck,bound,a1,a2,a3,a4,hx,hj,qa7,List.range_succ]
  ·have hj : ¬ (0:Int)<=j:=by simpa [hk] using hm
   rw[if_neg hk]
   cases hσ <;> simp[F250,V.len,h1,hne,hne',zl,zd,zx,hl,hc,w1,w2,hle',qck,bound,hj,qa7,List.range_succ]
end Go.Pm
end SKe
section SKf
namespace Go.Pm
open F
set_option maxHeartbeats 2000000
theorem qqZ {c:UInt8} {r:List UInt8}:bs (c::r)≠⟨#[]⟩:=fun h=>by
 have:=congrArg ByteArray.size h
 rw[qao,List.length_cons] at this
 exact absurd this (by show ¬ r.length+1=0; omega)
theorem qqb (s:ByteArray) (hl:s.size<2 ^ 40) {σ : S} (hσ : LxS s σ) {i:Nat} (hi:i<=s.size):Z tP (.call 250 [.ptr 0 0,.int i] σ)=some (.ret (ptk (tokAt 12 2 6 s i)) σ):=by
 by_cases hend:i=s.size
 ·subst hend
  have hd:(byl s).drop s.size=[]:=List.drop_eq_nil_of_le (by rw[qaG]; exact Nat.le_refl _)
  have e:tokAt 12 2 6 s s.size=⟨s.size,⟨#[]⟩,0⟩:=by rw[qdg,hd]; rfl
  rw[e]
  exact qo3 s hσ
 have hi':i<s.size:=by omega
 obtain⟨c,h1,h2⟩:=qmJ hi'
 have hd:=qgd h2
 rw[qdg,hd]
 by_cases hlet:qaO c=true
 ·have hw:qar c=true:=by simp[qar,hlet]
  have ht:=qlH ((byl s).drop (i+1)) hw
  have htok:tokL 12 2 6 (c::(byl s).drop (i+1))=(c::((byl s).drop (i+1)).take (qa1 qar ((byl s).drop (i+1))),if 8<qa1 qar (c::(byl s).drop (i+1))/\bs (c::((byl s).drop (i+1)).take (qa1 qar ((byl s).drop (i+1))))∉fieldNames/\bs (c::((byl s).drop (i+1)).take (qa1 qar ((byl s).drop (i+1))))∉wordNames then 2 else 0):=by
   simp only[tokL,hlet,if_true,ht]
  have z:=qqQ s hl hσ hi
  rw[qcr,hd,ht] at z
  have hsz:(bs (c::((byl s).drop (i+1)).take (qa1 qar ((byl s).drop (i+1))))).size=qa1 qar (c::(byl s).drop (i+1)):=by
   rw[qao,<- ht,List.length_take,Nat.min_eq_left (qdF _ _)]
  rw[htok]
  have s1:=qdQ qaO c (((byl s).drop (i+1)).take (qa1 qar ((byl s).drop (i+1))))
  have s2:=qdQ qaj c (((byl s).drop (i+1)).take (qa1 qar ((byl s).drop (i+1))))
  have hne:=qqZ (c:=c) (r:=((byl s).drop (i+1)).take (qa1 qar ((byl s).drop (i+1))))
  rw[hlet] at s1
  rw[qny hlet] at s2
  rw[<- hsz]
  generalize bs (c::((byl s).drop (i+1)).take (qa1 qar ((byl s).drop (i+1))))=w at *
  have e:ptk ⟨i,w,if 8<w.size/\w∉fieldNames/\w∉wordNames then 2 else 0⟩=ptD (pkW w) w i 0 (pcW w):=by
   have hb:((if 8<w.size/\w∉fieldNames/\w∉wordNames then 2 else 0:Nat):Int)=pcW w:=by
    unfold pcW
    by_cases a:w∈fieldNames<;>by_cases b:w∈wordNames<;>by_cases d:8<w.size<;>simp[a,b,d]
   have hk:kindT ⟨i,w,if 8<w.size/\w∉fieldNames/\w∉wordNames then 2 else 0⟩=pkW w:=by
    unfold pkW kindT
    by_cases a:w∈fieldNames<;>by_cases b:w∈wordNames<;>by_cases d:8<w.size<;>simp[a,b,d,hne,s1]
   have hx:qe1 ⟨i,w,if 8<w.size/\w∉fieldNames/\w∉wordNames then 2 else 0⟩=w:=by
    unfold qe1
    by_cases a:8<w.size/\w∉fieldNames/\w∉wordNames<;>simp[a]
   unfold ptk
   rw[hk,hx,hb]
   simp[valT,s2]
  rw[e]
  exact qo4 s hσ hi' h1 hlet (v := .lit (.bool true)) rfl z
 have hlet':qaO c=false:=by simpa using hlet
 by_cases hdig:qaj c=true
 ·have ht:=qlH ((byl s).drop (i+1)) hdig
  have htok:tokL 12 2 6 (c::(byl s).drop (i+1))=(c::((byl s).drop (i+1)).take (qa1 qaj ((byl s).drop (i+1))),if 2147483647<digV (c::((byl s).drop (i+1)).take (qa1 qaj ((byl s).drop (i+1)))) then 6 else 0):=by
   simp only[tokL,hlet',hdig,if_true,Bool.false_eq_true,if_false,ht]
  have z:=qs6 s hl hσ hi
  rw[qcr,hd,ht] at z
  rw[htok]
  have s1:=qdQ qaO c (((byl s).drop (i+1)).take (qa1 qaj ((byl s).drop (i+1))))
  have s2:=qdQ qaj c (((byl s).drop (i+1)).take (qa1 qaj ((byl s).drop (i+1))))
  have hne:=qqZ (c:=c) (r:=((byl s).drop (i+1)).take (qa1 qaj ((byl s).drop (i+1))))
  rw[hlet'] at s1
  rw[hdig] at s2
  have hbl:=qaP (c::((byl s).drop (i+1)).take (qa1 qaj ((byl s).drop (i+1))))
  generalize c::((byl s).drop (i+1)).take (qa1 qaj ((byl s).drop (i+1)))=l at *
  have e:ptk ⟨i,bs l,if 2147483647<digV l then 6 else 0⟩=ptD (if 2147483647<digV l then 6 else 4) (bs l) i (min (digV l) 2147483648:Nat) (if 2147483647<digV l then 6 else 0):=by
   unfold ptk kindT qe1 valT
   by_cases a:2147483647<digV l<;>simp[a,hne,s1,s2,hbl]
  rw[e]
  exact qo5 s hσ hi' h1 hlet' hdig z
 have hdig':qaj c=false:=by simpa using hdig
 by_cases hp:bs ((c::(byl s).drop (i+1)).take 2)∈qdB
 ·have htok:tokL 12 2 6 (c::(byl s).drop (i+1))=((c::(byl s).drop (i+1)).take 2,0):=by
   simp only[tokL,hlet',hdig',if_pos hp,Bool.false_eq_true,if_false]
  have hsz:=qeZ hp
  rw[qao,List.length_take,List.length_cons,List.length_drop,qaG] at hsz
  have z:=qnz s hl hσ (i:=i) (by omega) h1 hlet' hdig' (p:=bs ((c::(byl s).drop (i+1)).take 2)) (by rw[qcr,hd]) hp
  rw[htok,z]
  have e:ptk ⟨i,bs ((c::(byl s).drop (i+1)).take 2),0⟩=ptD 5 (bs ((c::(byl s).drop (i+1)).take 2)) i 0 0:=by
   generalize bs ((c::(byl s).drop (i+1)).take 2)=w at hp
   simp only[qdB,List.mem_cons,List.not_mem_nil,or_false] at hp
   rcases hp with rfl | rfl | rfl | rfl | rfl | rfl<;>rfl
  rw[e]
 ·have z:=qo6 s hl hσ hi' h1 hlet' hdig' (fun h=>by rw[qcr,hd]; exact hp) (x:=bs [c]) (by rw[qcr,hd]; rfl)
  rw[z]
  have s1:=qdQ qaO c []
  have s2:=qdQ qaj c []
  by_cases hs:c.toNat∈qia
  ·have htok:tokL 12 2 6 (c::(byl s).drop (i+1))=([c],0):=by simp only[tokL,hlet',hdig',if_neg hp,if_pos hs,Bool.false_eq_true,if_false]
   rw[htok,if_pos hs]
   have e:ptk ⟨i,bs [c],0⟩=ptD 5 (bs [c]) i 0 0:=by
    unfold ptk kindT qe1 valT
    simp[s1,s2,hlet',hdig',qqZ]
   rw[e]
  ·have htok:tokL 12 2 6 (c::(byl s).drop (i+1))=([c],12):=by simp only[tokL,hlet',hdig',if_neg hp,if_neg hs,Bool.false_eq_true,if_false]
   rw[htok,if_neg hs]
   have e:ptk ⟨i,bs [c],12⟩=ptD 6 ⟨#[]⟩ i 0 12:=by
    unfold ptk kindT qe1 valT
    simp[s2,hdig']
   rw[e]
end Go.Pm
end SKf
section SDev
namespace Go.Pm
@[simp] def qr4:Nat->PC->PC
 | n+1,.seq a b => .seq a (qr4 n b)
 | 0,_ => .skip
 | _,p=>p
end Go.Pm
end SDev
section SKg
namespace Go.Pm
open F
set_option maxHeartbeats 4000000
attribute [local simp] qbd qbQ
theorem qkd (s:ByteArray):Z tP (.call 241 [.ptr 0 0] [pO s 1 (.dat (.lit (.slice none 0 0))) 0 0 12,.map kwM])=some (.ret (.fn 249 [] [.ptr 2 0]) [pO s 1 (.dat (.lit (.slice none 0 0))) 0 0 12,.map kwM,.cells [.ptr 0 0]]):=by
 refine Z_call (pf:=F241) rfl rfl ?_
 simp[F241,List.range_succ]
abbrev lp8:Ob := .loop ⟨[(2,.ptr 2 0),(3,.ptr 3 0),(4,.ptr 4 0),(5,.ptr 5 0),(19,.fn 249 [] [.ptr 1 0])],[20],F228a0,F228b0,0,none⟩
abbrev TT0 (s:ByteArray):S:=[lp8,.cells [.ptr 6 0],qsf,.cells [.int 0],.cells [.int 0],.cells [.ptr 6 0],pO s 7 (.dat (.lit (.slice none 0 0))) 0 0 12,.map kwM]
abbrev TT1 (s:ByteArray) (cs:List D) (n:Nat):S:=[lp8,.cells [.ptr 6 0],qsf,.cells [.int 0],.cells [.int 0],.cells [.ptr 6 0],pO s 7 (.gsl cs n 5 8) 0 0 12,.map kwM,.tip cs.length]
abbrev lpR:Ob := .loop ⟨[(2,.ptr 1 0),(3,.ptr 2 0),(4,.ptr 3 0),(5,.ptr 4 0),(19,.fn 249 [] [.ptr 5 0])],[20],F228a0,F228b0,0,none⟩
abbrev Q0 (s:ByteArray):S:=[lpR,qsf,.cells [.int 0],.cells [.int 0],.cells [.ptr 6 0],.cells [.ptr 6 0],pO s 7 (.dat (.lit (.slice none 0 0))) 0 0 12,.map kwM]
abbrev Q1 (s:ByteArray) (cs:List D) (n:Nat):S:=[lpR,qsf,.cells [.int 0],.cells [.int 0],.cells [.ptr 6 0],.cells [.ptr 6 0],pO s 7 (.gsl cs n 5 8) 0 0 12,.map kwM,.tip cs.length]
def qgx (k:Int) (t:ByteArray) (a v c:Int):List D:=[.lit (.int .i64 k),.lit (.string t),.lit (.int .i64 a),.lit (.int .i64 v),.lit (.int .i64 c)]
section
variable {s:ByteArray} {k a v c:Int} {t:ByteArray}
theorem qvK:Z tP (.round [.yld 0,ptD k t a v c] (Q0 s))=some (.ret (.bool true) (Q1 s (qgx k t a v c) 1)):=by
 have r1:qa6 1 48=true:=by simp only[qa6,decide_eq_true_eq]; omega
 rw[qh7]
 simp[qch,qg7,qg8,qii,qij,qef,Lp.ended,Ex.isNormal,V.len,qcE,qmY,r1,qgx,dkey,qc6,qa8,List.range_succ]
theorem qvL {cs:List D} {n:Nat} (hc:cs.length=n*5) (h0:0<n) (hn:n<2 ^ 30):Z tP (.round [.yld 0,ptD k t a v c] (Q1 s cs n))=some (.ret (.bool true) (Q1 s (cs++qgx k t a v c) (n+1))):=by
 have r1:qa6 (n+1) 48=true:=by simp only[qa6,decide_eq_true_eq]; omega
 have hne : ¬ n=0:=by omega
 rw[qh7]
 simp[qch,qg7,qg8,qii,qij,qef,Lp.ended,Ex.isNormal,V.len,qcE,qmY,r1,hc,hne,qgx,dkey,qc6,qa8,List.range_succ]
end
abbrev tkO (k:Int) (t:ByteArray) (a v c:Int):Ob := .cells [.int k,.str t,.int a,.int v,.int c]
section
variable {s:ByteArray} {i j:Nat} {k a v c:Int} {t:ByteArray}
theorem qpb
  (zs:Z tP (.call 251 [.ptr 0 0,.int i] [pO s 1 (.dat (.lit (.slice none 0 0))) 0 0 12,.map kwM])=some (.ret (.int j) [pO s 1 (.dat (.lit (.slice none 0 0))) 0 0 12,.map kwM]))
  (zc:Z tP (.call 250 [.ptr 0 0,.int j] [pO s 1 (.dat (.lit (.slice none 0 0))) 0 0 12,.map kwM])=some (.ret (ptD k t a v c) [pO s 1 (.dat (.lit (.slice none 0 0))) 0 0 12,.map kwM]))
  (ha:IntKind.i64.wrap (a+t.size)=a+t.size) (h0:decide (k=0)=false) (h6:decide (k=6)=false) :
  Z tP (.loop 8 F249l0 [(0,.yld 0),(1,.ptr 1 0),(3,.int i)] (TT0 s))=Z tP (.loop 8 F249l0 [(0,.yld 0),(1,.ptr 1 0),(3,.int (a+t.size))] (TT1 s (qgx k t a v c) 1)):=by
 have zr:=qvK (s:=s) (k:=k) (a:=a) (v:=v) (c:=c) (t:=t)
 simp only[pO,ptD,qgx] at zs zc zr
 conv=>lhs; rw[qac]
 simp[qae,qeL,zs,zc,zr,V.len,ha,h0,h6,qgx,qc6,qa8,List.range_succ]
 exact qb2 (by simp[List.range_succ])
theorem qpc
  (zs:Z tP (.call 251 [.ptr 0 0,.int i] [pO s 1 (.dat (.lit (.slice none 0 0))) 0 0 12,.map kwM])=some (.ret (.int j) [pO s 1 (.dat (.lit (.slice none 0 0))) 0 0 12,.map kwM]))
  (zc:Z tP (.call 250 [.ptr 0 0,.int j] [pO s 1 (.dat (.lit (.slice none 0 0))) 0 0 12,.map kwM])=some (.ret (ptD k t a v c) [pO s 1 (.dat (.lit (.slice none 0 0))) 0 0 12,.map kwM]))
  (h:k=0\/k=6) :
  Z tP (.loop 8 F249l0 [(0,.yld 0),(1,.ptr 1 0),(3,.int i)] (TT0 s))=some (.out .ret [(0,.yld 0),(1,.ptr 1 0),(4,.ptr 8 0),(23,.bool true)] [lp8,.cells [.ptr 6 0],qsf,.cells [.int 0],.cells [.int 0],.cells [.ptr 6 0],pO s 7 (.gsl (qgx k t a v c) 1 5 9) 0 0 12,.map kwM,tkO k t a v c,.tip 5]):=by
 have zr:=qvK (s:=s) (k:=k) (a:=a) (v:=v) (c:=c) (t:=t)
 simp only[pO,ptD,qgx] at zs zc zr
 rw[qac]
 rcases h with rfl | rfl<;>simp[qae,qeL,zs,zc,zr,V.len,qgx,qc6,qa8,List.range_succ]
theorem qpd {cs:List D} {n:Nat} (hc:cs.length=n*5) (hn0:0<n) (hn:n<2 ^ 30)
  (zs:Z tP (.call 251 [.ptr 0 0,.int i] [pO s 1 (.gsl cs n 5 2) 0 0 12,.map kwM,.tip cs.length])=some (.ret (.int j) [pO s 1 (.gsl cs n 5 2) 0 0 12,.map kwM,.tip cs.length]))
  (zc:Z tP (.call 250 [.ptr 0 0,.int j] [pO s 1 (.gsl cs n 5 2) 0 0 12,.map kwM,.tip cs.length])=some (.ret (ptD k t a v c) [pO s 1 (.gsl cs n 5 2) 0 0 12,.map kwM,.tip cs.length]))
  (ha:IntKind.i64.wrap (a+t.size)=a+t.size) (h0:decide (k=0)=false) (h6:decide (k=6)=false) :
  Z tP (.loop 8 F249l0 [(0,.yld 0),(1,.ptr 1 0),(3,.int i)] (TT1 s cs n))=Z tP (.loop 8 F249l0 [(0,.yld 0),(1,.ptr 1 0),(3,.int (a+t.size))] (TT1 s (cs++qgx k t a v c) (n+1))):=by
 have zr:=qvL (s:=s) (k:=k) (a:=a) (v:=v) (c:=c) (t:=t) hc hn0 hn
 simp only[pO,ptD,qgx] at zs zc zr
 conv=>lhs; rw[qac]
 simp[qae,qeL,zs,zc,zr,V.len,ha,h0,h6,qgx,qc6,qa8,List.range_succ]
 exact qb2 (by simp[List.range_succ])
theorem qpe {cs:List D} {n:Nat} (hc:cs.length=n*5) (hn0:0<n) (hn:n<2 ^ 30)
  (zs:Z tP (.call 251 [.ptr 0 0,.int i] [pO s 1 (.gsl cs n 5 2) 0 0 12,.map kwM,.tip cs.length])=some (.ret (.int j) [pO s 1 (.gsl cs n 5 2) 0 0 12,.map kwM,.tip cs.length]))
  (zc:Z tP (.call 250 [.ptr 0 0,.int j] [pO s 1 (.gsl cs n 5 2) 0 0 12,.map kwM,.tip cs.length])=some (.ret (ptD k t a v c) [pO s 1 (.gsl cs n 5 2) 0 0 12,.map kwM,.tip cs.length]))
  (h:k=0\/k=6) :
  Z tP (.loop 8 F249l0 [(0,.yld 0),(1,.ptr 1 0),(3,.int i)] (TT1 s cs n))=some (.out .ret [(0,.yld 0),(1,.ptr 1 0),(4,.ptr 9 0),(23,.bool true)] (TT1 s (cs++qgx k t a v c) (n+1)++[tkO k t a v c])):=by
 have zr:=qvL (s:=s) (k:=k) (a:=a) (v:=v) (c:=c) (t:=t) hc hn0 hn
 simp only[pO,ptD,qgx] at zs zc zr
 rw[qac]
 rcases h with rfl | rfl<;>simp[qae,qeL,zs,zc,zr,V.len,qgx,qc6,qa8,List.range_succ]
end
end Go.Pm
end SKg
section SKh
namespace Go.Pm
open F
set_option maxHeartbeats 4000000
attribute [local simp] qbd qbQ
abbrev ptT (t:Tk):List D:=qgx (kindT t) (qe1 t) t.at_ (valT t) t.bad
def ptC:List Tk->List D
 | []=>[]
 | t::r=>ptT t++ptC r
theorem qfR (t:Tk):(kindT t=0\/kindT t=6)↔(t.bad≠0\/t.s.size=0):=by
 have he:t.s=⟨#[]⟩↔t.s.size=0:=⟨fun h=>by rw[h]; rfl,fun h=>by
  have:=qcA t.s
  have hb:byl t.s=[]:=List.eq_nil_of_length_eq_zero (by rw[qaG]; exact h)
  rw[hb] at this
  exact this.symm⟩
 unfold kindT
 by_cases hb:t.bad=0
 ·by_cases h0:t.s=⟨#[]⟩
  ·simp[hb,h0]
   rfl
  ·have h0' : ¬ t.s.size=0:=fun h=>h0 (he.2 h)
   simp only[hb,h0,h0',ne_eq,not_true_eq_false,if_false,false_or,or_self,iff_false]
   split<;>(try split)<;>(try split)<;>omega
 ·simp[hb]
theorem qam {t:Tk} (h:t.bad=0):qe1 t=t.s:=by unfold qe1; rw[h]; rfl
theorem qpW (s:ByteArray) {i:Nat} (hi:i<=s.size):qg3 s (s.size-i) false i=i+qaX false ((byl s).drop i)/\i+qaX false ((byl s).drop i)<=s.size:=by
 refine⟨qjF s _ false i (Nat.le_refl _),?_⟩
 have:=qfT ((byl s).drop i) false
 rw[List.length_drop,qaG] at this
 omega
theorem ql9 (s:ByteArray) (n:Nat) {i:Nat} (hi:i<=s.size) {t:Tk} (ht:tokAt 12 2 6 s (i+qaX false ((byl s).drop i))=t):qbN 12 2 6 s (n+1) i=if t.bad≠0\/t.s.size=0 then [t] else t::qbN 12 2 6 s n (t.at_+t.s.size):=by
 rw[qbN,(qpW s hi).1,ht]
theorem qqu (s:ByteArray) {i:Nat} (hi:i<=s.size) {t:Tk} (ht:tokAt 12 2 6 s (i+qaX false ((byl s).drop i))=t) (h : ¬ (t.bad≠0\/t.s.size=0)):i<t.at_+t.s.size/\t.at_+t.s.size<=s.size:=by
 obtain⟨_,h2⟩:=qpW s hi
 have hij:i<=i+qaX false ((byl s).drop i):=by omega
 generalize i+qaX false ((byl s).drop i)=j at ht h2 hij
 by_cases hj:j<s.size
 ·have hp:=qkF hj 12 2 6
  have ha:t.at_=j:=by rw[<- ht,qdg]
  rw[ht] at hp
  omega
 ·obtain rfl:j=s.size:=by omega
  have hd:(byl s).drop s.size=[]:=List.drop_eq_nil_of_le (by rw[qaG]; exact Nat.le_refl _)
  exfalso
  apply h
  rw[<- ht,qdg,hd]
  exact .inr rfl
theorem qiG (s:ByteArray) (hl:s.size<2 ^ 29) : ∀ (n i:Nat) (cs:List D) (m:Nat),s.size-i<n->i<=s.size->0<m->cs.length=m*5->m+(s.size-i)<2 ^ 30 ->
  ∃ k t a v c,Z tP (.loop 8 F249l0 [(0,.yld 0),(1,.ptr 1 0),(3,.int i)] (TT1 s cs m))=some (.out .ret [(0,.yld 0),(1,.ptr 1 0),(4,.ptr 9 0),(23,.bool true)] (TT1 s (cs++ptC (qbN 12 2 6 s n i)) (m+(qbN 12 2 6 s n i).length)++[tkO k t a v c]))
 | 0,i,cs,m,h,_,_,_,_=>by omega
 | n+1,i,cs,m,hn,hi,h0,hc,hm=>by
  obtain⟨j1,j2⟩:=qpW s hi
  have zs:=qnk s (by omega) (LxS.gr cs m cs.length 0 0 12) hi
  have zc:=qqb s (by omega) (LxS.gr cs m cs.length 0 0 12) j2
  obtain⟨t,ht⟩ : ∃ t,tokAt 12 2 6 s (i+qaX false ((byl s).drop i))=t:=⟨_,rfl⟩
  rw[ql9 s n hi ht]
  rw[ht] at zc
  by_cases hend:t.bad≠0\/t.s.size=0
  ·rw[if_pos hend]
   have z:=qpe hc h0 (by omega) zs zc ((qfR t).2 hend)
   simp only[ptC,List.append_nil,List.length_singleton]
   exact⟨_,_,_,_,_,z⟩
  ·rw[if_neg hend]
   obtain⟨q1,q2⟩:=qqu s hi ht hend
   have hb:t.bad=0:=by simp only[not_or,ne_eq,Decidable.not_not] at hend; exact hend.1
   have hk : ¬ (kindT t=0\/kindT t=6):=fun h=>hend ((qfR t).1 h)
   simp only[not_or] at hk
   have z:=qpd hc h0 (by omega) zs zc (by rw[qam hb,qal _ (by omega)]) (decide_eq_false hk.1) (decide_eq_false hk.2)
   have hT:qgx (kindT t) t.s t.at_ (valT t) t.bad=ptT t:=by show _=qgx (kindT t) (qe1 t) t.at_ (valT t) t.bad; rw[qam hb]
   rw[qam hb,hT] at z
   obtain⟨k,x,a,v,c,ih⟩:=qiG s hl n (t.at_+t.s.size) (cs++ptT t) (m+1) (by omega) q2 (by omega) (by rw[List.length_append,hc]; simp only[qgx,List.length_cons,List.length_nil]; omega) (by omega)
   refine⟨k,x,a,v,c,z.trans ?_⟩
   have e1:((t.at_:Int)+t.s.size)=((t.at_+t.s.size:Nat):Int):=by omega
   rw[e1,ih]
   simp only[ptC,List.append_assoc,List.length_cons]
   rw[show m+1+(qbN 12 2 6 s n (t.at_+t.s.size)).length=m+((qbN 12 2 6 s n (t.at_+t.s.size)).length+1) by omega]
theorem qos (s:ByteArray) (hl:s.size<2 ^ 29):Z tP (.call 249 [.yld 0,.ptr 1 0] (TT0 s))=some (.ret (.tup []) (TT1 s (ptC (qhR s)) (qhR s).length)):=by
 obtain⟨j1,j2⟩:=qpW s (i:=0) (by omega)
 have zs:=qnk s (by omega) (LxS.nil 0 0 12) (i:=0) (by omega)
 have zc:=qqb s (by omega) (LxS.nil 0 0 12) j2
 obtain⟨t,ht⟩ : ∃ t,tokAt 12 2 6 s (0+qaX false ((byl s).drop 0))=t:=⟨_,rfl⟩
 have hn:=ql9 s s.size (i:=0) (by omega) ht
 rw[show qhR s=qbN 12 2 6 s (s.size+1) 0 from rfl,hn]
 rw[ht] at zc
 by_cases hend:t.bad≠0\/t.s.size=0
 ·rw[if_pos hend]
  have z:=qpc zs zc ((qfR t).2 hend)
  simp only[Int.natCast_zero] at z
  refine Z_call (pf:=F249) rfl rfl ?_
  simp[F249,z,ptC,qgx,List.range_succ]
 ·rw[if_neg hend]
  obtain⟨q1,q2⟩:=qqu s (i:=0) (by omega) ht hend
  have hb:t.bad=0:=by simp only[not_or,ne_eq,Decidable.not_not] at hend; exact hend.1
  have hk : ¬ (kindT t=0\/kindT t=6):=fun h=>hend ((qfR t).1 h)
  simp only[not_or] at hk
  have z:=qpb zs zc (by rw[qam hb,qal _ (by omega)]) (decide_eq_false hk.1) (decide_eq_false hk.2)
  have hT:qgx (kindT t) t.s t.at_ (valT t) t.bad=ptT t:=by show _=qgx (kindT t) (qe1 t) t.at_ (valT t) t.bad; rw[qam hb]
  rw[qam hb,hT] at z
  obtain⟨k,x,a,v,c,ih⟩:=qiG s hl s.size (t.at_+t.s.size) (ptT t) 1 (by omega) q2 (by omega) (by simp only[qgx,List.length_cons,List.length_nil]) (by omega)
  have e1:((t.at_:Int)+t.s.size)=((t.at_+t.s.size:Nat):Int):=by omega
  rw[e1,ih] at z
  simp only[Int.natCast_zero] at z
  have e2:ptT t++ptC (qbN 12 2 6 s s.size (t.at_+t.s.size))=ptC (t::qbN 12 2 6 s s.size (t.at_+t.s.size)):=rfl
  rw[e2] at z
  have e3:1+(qbN 12 2 6 s s.size (t.at_+t.s.size)).length=(t::qbN 12 2 6 s s.size (t.at_+t.s.size)).length:=by rw[List.length_cons]; omega
  rw[e3] at z
  generalize t::qbN 12 2 6 s s.size (t.at_+t.s.size)=T at z ⊢
  refine Z_call (pf:=F249) rfl rfl ?_
  simp[F249,z,List.range_succ]
end Go.Pm
end SKh
section SKi
namespace Go.Pm
open F
set_option maxHeartbeats 4000000
attribute [local simp] qbd qbQ dkey
abbrev PS (s:ByteArray) (T:List Tk) (i a c:Int):S:=[pO s 1 (.gsl (ptC T) T.length 5 2) i a c,.map kwM,.tip (ptC T).length]
abbrev qbk (c:Int):V := .pan (.iface 1 (.int c))
theorem qlv : ∀ (T:List Tk) (i:Nat),(ptC T).drop (i*5)=ptC (T.drop i)
 | [],i=>by simp[ptC]
 | t::T,0=>by simp
 | t::T,i+1=>by
  rw[show (i+1)*5=i*5+5 by omega]
  simp only[ptC,qgx,List.cons_append,List.nil_append,List.drop_succ_cons]
  exact qlv T i
theorem qng {T:List Tk} {i:Nat} {t:Tk} {r:List Tk} (h:T.drop i=t::r):qaz (ptC T) (i*5) 5=some [.lit (.int .i64 (kindT t)),.lit (.string (qe1 t)),.lit (.int .i64 t.at_),.lit (.int .i64 (valT t)),.lit (.int .i64 t.bad)]:=by
 unfold qaz
 rw[qlv,h]
 simp[ptC,qgx]
section
variable {s:ByteArray} {T:List Tk} {i:Nat} {a c:Int} {t:Tk} {r:List Tk}
theorem qib (h:T.drop i=t::r):i<T.length:=by
 have:=congrArg List.length h
 rw[List.length_drop,List.length_cons] at this
 omega
theorem qfZ {k v e c':Int} {x:ByteArray} {at_:Int}:Z tP (.call 255 [.ptr 0 0,ptD k x at_ v e,.int c'] (PS s T i a c))=some (.ret (qbk c') (PS s T i at_ c')):=by
 refine Z_call (pf:=F255) rfl rfl ?_
 simp[F255,List.range_succ]
theorem qax (h:T.drop i=t::r) (hb:t.bad=0):Z tP (.call 252 [.ptr 0 0] (PS s T i a c))=some (.ret (ptk t) (PS s T i a c)):=by
 have hlt:(i:Int)<T.length:=by have:=qib h; omega
 have hc:=qng h
 have hk : ¬ kindT t=6:=fun e=>by
  unfold kindT at e
  rw[if_neg (by simp[hb])] at e
  revert e
  split<;>(try split)<;>(try split)<;>omega
 refine Z_call (pf:=F252) rfl rfl ?_
 simp[F252,qaq,hlt,hc,hk,List.range_succ]
theorem qem (h:T.drop i=t::r) (hb:t.bad≠0):Z tP (.call 252 [.ptr 0 0] (PS s T i a c))=some (.ret (qbk t.bad) (PS s T i t.at_ t.bad)):=by
 have hlt:(i:Int)<T.length:=by have:=qib h; omega
 have hc:=qng h
 have hk:kindT t=6:=by unfold kindT; rw[if_pos hb]
 have zf:=qfZ (s:=s) (T:=T) (i:=i) (a:=a) (c:=c) (k:=6) (x:=qe1 t) (at_:=t.at_) (v:=valT t) (e:=t.bad) (c':=t.bad)
 rw[hk] at hc
 simp only[PS,pO,ptD] at zf
 refine Z_call (pf:=F252) rfl rfl ?_
 simp[F252,qaq,hlt,hc,hk,zf,qad,List.range_succ]
end
end Go.Pm
end SKi
section SKj
namespace Go.Pm
open F
set_option maxHeartbeats 4000000
attribute [local simp] qbd qbQ dkey
def Out {α : Type} (s:ByteArray) (T:List Tk) (res:Option Res) (x:Rz α) (f : α -> V):Prop:=match x with
 | .ok e r => ∃ i',T.drop i'=r/\r≠[]/\res=some (.ret (f e) (PS s T i' 0 12))
 | .er a c => ∃ i':Nat,res=some (.ret (qbk c) (PS s T i' a c))
def WfQ (T:List Tk):Prop := ∀ i t,T.drop i=[t]->t.bad≠0\/t.s=⟨#[]⟩
theorem qor (s:ByteArray) : ∀ n i,WfQ (qbN 12 2 6 s n i)
 | 0,i,k,t,h=>by
  simp only[qbN] at h
  rcases k with _ | k
  ·simp only[List.drop_zero,List.cons.injEq,and_true] at h
   rw[<- h]; exact .inr rfl
  ·simp at h
 | n+1,i,k,t,h=>by
  rw[qbN] at h
  try simp only at h
  generalize tokAt 12 2 6 s (qg3 s (s.size-i) false i)=u at h
  split at h
  ·rename_i hu
   rcases k with _ | k
   ·simp only[List.drop_zero,List.cons.injEq,and_true] at h
    rw[<- h]
    rcases hu with hu | hu
    ·exact .inl hu
    ·exact .inr (by
      have hb:byl u.s=[]:=List.eq_nil_of_length_eq_zero (by rw[qaG]; exact hu)
      have:=qcA u.s
      rw[hb] at this
      exact this.symm)
   ·simp at h
  ·rcases k with _ | k
   ·simp only[List.drop_zero,List.cons.injEq] at h
    have hne:qbN 12 2 6 s n (u.at_+u.s.size)≠[]:=by
     cases n<;>simp only[qbN]
     ·simp
     ·split<;>simp
    exact absurd h.2 hne
   ·rw[List.drop_succ_cons] at h
    exact qor s n _ k t h
section
variable {s:ByteArray} {T:List Tk} {i:Nat} {a c:Int} {t:Tk} {r:List Tk}
theorem WfQ.next (hw:WfQ T) (h:T.drop i=t::r) (hb:t.bad=0) (hs:t.s≠⟨#[]⟩):T.drop (i+1)=r/\r≠[]:=by
 refine⟨by rw[<- List.drop_drop,h]; rfl,?_⟩
 rintro rfl
 rcases hw i t h with h1 | h1
 ·exact h1 hb
 ·exact hs h1
theorem qdX (hb:t.bad=0):(kindT t=0)=(t.s=⟨#[]⟩):=by
 have:=qfR t
 apply propext
 constructor
 ·intro h
  rcases this.1 (.inl h) with h1 | h1
  ·exact absurd hb h1
  ·have hbl:byl t.s=[]:=List.eq_nil_of_length_eq_zero (by rw[qaG]; exact h1)
   have:=qcA t.s
   rw[hbl] at this
   exact this.symm
 ·intro h
  unfold kindT
  rw[if_neg (by simp[hb]),if_pos h]
theorem qaL (h:T.drop i=t::r) (hb:t.bad=0) {d:D} {l:List ByteArray} (hd:RowS d l) (hl:l.length<2 ^ 40) (hn:(⟨#[]⟩:ByteArray)∉l):Z tP (.call 269 [.ptr 0 0,.dat d] (PS s T i a c))=some (.ret (.bool (decide (t.s∈l))) (PS s T i a c)):=by
 have zp:=qax (s:=s) (a:=a) (c:=c) h hb
 have zc:=qmx hd hl t.s
 have ho:=hd.one
 have hcl:=hd.cells
 have ht:=qam hb
 have hk:=qdX hb
 simp only[PS,pO,ptk,ptD,ht] at zp
 refine Z_call (pf:=F269) rfl rfl ?_
 by_cases h0:t.s=⟨#[]⟩
 ·have hk0:decide (kindT t=0)=true:=decide_eq_true (hk.mpr h0)
  have hm:t.s∉l:=by rw[h0]; exact hn
  simp[F269,zp,zc,ho,hcl,hk0,hm,List.range_succ]
 ·have hk0:decide (kindT t=0)=false:=decide_eq_false (fun e=>h0 (hk.mp e))
  simp[F269,zp,zc,ho,hcl,hk0,List.range_succ]
theorem qfj (h:T.drop i=t::r) (hb:t.bad≠0) {d:D} {l:List ByteArray} (hd:RowS d l):Z tP (.call 269 [.ptr 0 0,.dat d] (PS s T i a c))=some (.ret (qbk t.bad) (PS s T i t.at_ t.bad)):=by
 have zp:=qem (s:=s) (a:=a) (c:=c) h hb
 have ho:=hd.one
 have hcl:=hd.cells
 simp only[PS,pO] at zp
 refine Z_call (pf:=F269) rfl rfl ?_
 simp[F269,zp,ho,hcl,qad,List.range_succ]
theorem qaJ (h:T.drop i=t::r) (hb:t.bad=0) (hl:T.length<2 ^ 40):Z tP (.call 277 [.ptr 0 0] (PS s T i a c))=some (.ret (ptk t) (PS s T ((i+1:Nat):Int) a c)):=by
 have zp:=qax (s:=s) (a:=a) (c:=c) h hb
 have hlt:=qib h
 have w1:=qal ((i:Int)+1) (by omega)
 simp only[PS,pO,ptk,ptD] at zp
 refine Z_call (pf:=F277) rfl rfl ?_
 simp[F277,zp,w1,List.range_succ]
theorem qgb (h:T.drop i=t::r) (hb:t.bad=0) (hl:T.length<2 ^ 40) (hx:t.s≠⟨#[]⟩):Z tP (.call 253 [.ptr 0 0,.str t.s] (PS s T i a c))=some (.ret (.tup []) (PS s T ((i+1:Nat):Int) a c)):=by
 have zi:=qaL (s:=s) (a:=a) (c:=c) h hb (qaf [t.s] true) (by simp) (by simp; exact fun e=>hx e.symm)
 have hlt:=qib h
 have w1:=qal ((i:Int)+1) (by omega)
 simp only[PS,pO,qaW,List.map_cons,List.map_nil,List.length_singleton,List.mem_singleton,decide_true] at zi
 refine Z_call (pf:=F253) rfl rfl ?_
 simp[F253,zi,w1,List.range_succ]
theorem qmM (h:T.drop i=t::r) (hb:t.bad=0) {x:ByteArray} (hx:x≠⟨#[]⟩) (hne:t.s≠x):Z tP (.call 253 [.ptr 0 0,.str x] (PS s T i a c))=some (.ret (qbk 12) (PS s T i t.at_ 12)):=by
 have zi:=qaL (s:=s) (a:=a) (c:=c) h hb (qaf [x] true) (by simp) (by simp; exact fun e=>hx e.symm)
 have zp:=qax (s:=s) (a:=a) (c:=c) h hb
 have zf:=qfZ (s:=s) (T:=T) (i:=i) (a:=a) (c:=c) (k:=kindT t) (x:=qe1 t) (at_:=t.at_) (v:=valT t) (e:=t.bad) (c':=12)
 simp only[PS,pO,qaW,List.map_cons,List.map_nil,List.length_singleton,List.mem_singleton,hne,decide_false] at zi
 simp only[PS,pO,ptk,ptD] at zp zf
 refine Z_call (pf:=F253) rfl rfl ?_
 simp[F253,zi,zp,zf,qad,List.range_succ]
theorem qle (h:T.drop i=t::r) (hb:t.bad≠0) {x:ByteArray}:Z tP (.call 253 [.ptr 0 0,.str x] (PS s T i a c))=some (.ret (qbk t.bad) (PS s T i t.at_ t.bad)):=by
 have zi:=qfj (s:=s) (a:=a) (c:=c) h hb (qaf [x] true)
 simp only[PS,pO,qaW,List.map_cons,List.map_nil,List.length_singleton] at zi
 refine Z_call (pf:=F253) rfl rfl ?_
 simp[F253,zi,qad,List.range_succ]
end
end Go.Pm
end SKj
section SKk
namespace Go.Pm
open F
set_option maxHeartbeats 4000000
attribute [local simp] qbd qbQ dkey
section
variable {s:ByteArray} {T:List Tk} {i:Nat} {t:Tk} {r:List Tk}
theorem qcq (hw:WfQ T) (hl:T.length<2 ^ 40) (h:T.drop i=t::r) {x:ByteArray} (hx:x≠⟨#[]⟩):Out s T (Z tP (.call 253 [.ptr 0 0,.str x] (PS s T i 0 12))) (qav 12 x (t::r)) (fun _ => .tup []):=by
 simp only[qav]
 by_cases hb:t.bad=0
 ·by_cases he:t.s=x
  ·rw[if_pos ⟨hb,he⟩]
   subst he
   obtain⟨n1,n2⟩:=hw.next h hb hx
   exact⟨i+1,n1,n2,qgb h hb hl hx⟩
  ·rw[if_neg (fun e=>he e.2)]
   simp only[failP,if_pos hb]
   exact⟨i,qmM h hb hx he⟩
 ·rw[if_neg (fun e=>hb e.1)]
  simp only[failP,if_neg hb]
  exact⟨i,qle h hb⟩
theorem qgK (hw:WfQ T) (hl:T.length<2 ^ 40) (h:T.drop i=t::r) {x:ByteArray} (hx:x≠⟨#[]⟩) {lv:Nat}:Out s T (Z tP (.call 270 [.ptr 0 0,.str x,.int lv] (PS s T i 0 12))) (qcv 12 2 x lv (t::r)) (fun _ => .tup []):=by
 have he:=qcq (s:=s) hw hl h hx
 simp only[qcv]
 by_cases hb:t.bad=0
 ·have zi:=qaL (s:=s) (a:=0) (c:=12) h hb (qaf [x] true) (by simp) (by simp; exact fun e=>hx e.symm)
  simp only[PS,pO,qaW,List.map_cons,List.map_nil,List.length_singleton,List.mem_singleton] at zi
  have hnx:nx (t::r)=some t.s:=if_pos hb
  by_cases hxx:t.s=x
  ·by_cases h20:20<lv
   ·rw[if_pos ⟨by rw[hnx,hxx],h20⟩]
    simp only[failP,if_pos hb]
    have zp:=qax (s:=s) (a:=0) (c:=12) h hb
    have zf:=qfZ (s:=s) (T:=T) (i:=i) (a:=0) (c:=12) (k:=kindT t) (x:=qe1 t) (at_:=t.at_) (v:=valT t) (e:=t.bad) (c':=2)
    simp only[PS,pO,ptk,ptD] at zp zf
    have h20':(20:Int)<lv:=by omega
    simp only[hxx,decide_true] at zi
    refine⟨i,?_⟩
    refine Z_call (pf:=F270) rfl rfl ?_
    simp[F270,zi,zp,zf,h20',qad,List.range_succ]
   ·rw[if_neg (fun e=>h20 e.2)]
    have h20' : ¬ (20:Int)<lv:=by omega
    simp only[hxx,decide_true] at zi
    cases hr:qav 12 x (t::r) with
    | ok u q=>
     rw[hr] at he
     obtain⟨i',a1,a2,z⟩:=he
     refine⟨i',a1,a2,?_⟩
     simp only[PS,pO] at z
     refine Z_call (pf:=F270) rfl rfl ?_
     simp[F270,zi,z,h20',List.range_succ]
    | er a c=>
     rw[hr] at he
     obtain⟨i',z⟩:=he
     refine⟨i',?_⟩
     simp only[PS,pO] at z
     refine Z_call (pf:=F270) rfl rfl ?_
     simp[F270,zi,z,h20',qad,List.range_succ]
  ·rw[if_neg (fun e=>hxx (Option.some.inj (hnx.symm.trans e.1)))]
   simp only[hxx,decide_false] at zi
   cases hr:qav 12 x (t::r) with
   | ok u q=>
    rw[hr] at he
    obtain⟨i',a1,a2,z⟩:=he
    refine⟨i',a1,a2,?_⟩
    simp only[PS,pO] at z
    refine Z_call (pf:=F270) rfl rfl ?_
    simp[F270,zi,z,List.range_succ]
   | er a c=>
    rw[hr] at he
    obtain⟨i',z⟩:=he
    refine⟨i',?_⟩
    simp only[PS,pO] at z
    refine Z_call (pf:=F270) rfl rfl ?_
    simp[F270,zi,z,qad,List.range_succ]
 ·have hnx:nx (t::r)=none:=if_neg hb
  rw[if_neg (fun e=>(by rw[hnx] at e; cases e.1))]
  have zi:=qfj (s:=s) (a:=0) (c:=12) h hb (qaf [x] true)
  simp only[PS,pO,qaW,List.map_cons,List.map_nil,List.length_singleton] at zi
  simp only[qav]
  rw[if_neg (fun e=>hb e.1)]
  simp only[failP,if_neg hb]
  refine⟨i,?_⟩
  refine Z_call (pf:=F270) rfl rfl ?_
  simp[F270,zi,qad,List.range_succ]
end
end Go.Pm
end SKk
section SKl
namespace Go.Pm
open F
set_option maxHeartbeats 4000000
attribute [local simp] qbd qbQ dkey
def fnP:Nat->Nat
 | 1=>279 | 2=>287 | 3=>290 | 4=>292 | 5=>297 | 6=>304 | 7=>308 | _=>309
def clF:Nat->Nat
 | 1=>286 | 2=>289 | 5=>303 | _=>307
def qfV:Nat->List ByteArray
 | 1=>[⟨#[124,124]⟩] | 2=>[⟨#[38,38]⟩] | 5=>[⟨#[43]⟩,⟨#[45]⟩] | _=>[⟨#[42]⟩,⟨#[47]⟩]
def qjo (p:Nat):Prop:=p=1\/p=2\/p=5\/p=6
abbrev CS (s:ByteArray) (T:List Tk) (lv:Int) (i a c:Int):S:=[.cells [.ptr 2 0],.cells [.int lv],pO s 3 (.gsl (ptC T) T.length 5 4) i a c,.map kwM,.tip (ptC T).length]
abbrev BS (s:ByteArray) (T:List Tk) (lv:Int) (i a c:Int):S:=[pO s 3 (.gsl (ptC T) T.length 5 4) i a c,.cells [.ptr 0 0],.cells [.int lv],.map kwM,.tip (ptC T).length]
abbrev ndO (e:E):Ob := .cells [.int e.kind,.int e.num,.str e.str,.dat e.kids]
abbrev nd0:Ob := .cells [.int 0,.int 0,.str ⟨#[]⟩,.dat (.lit (.slice none 0 0))]
abbrev BL (s:ByteArray) (T:List Tk) (lv:Int) (i a c:Int) (e:E):S:=[pO s 3 (.gsl (ptC T) T.length 5 4) i a c,.cells [.ptr 0 0],.cells [.int lv],.map kwM,.tip (ptC T).length,nd0,ndO e]
abbrev bqF (g:Nat) (d:D):Fr:=[(0,.ptr 0 0),(1,.fn g [] [.ptr 1 0,.ptr 2 0]),(2,.dat d),(6,.ptr 5 0),(7,.ptr 6 0)]
section
variable {s:ByteArray} {T:List Tk} {i i':Nat} {lv:Int} {t:Tk} {r:List Tk} {p:Nat}
theorem qn2 (hp:qjo p) {e:E} (z:Z tP (.call (fnP (p+1)) [.ptr 0 0,.int lv] (PS s T i 0 12))=some (.ret e.node (PS s T i' 0 12))):Z tP (.call (clF p) [.ptr 0 0,.ptr 1 0] (CS s T lv i 0 12))=some (.ret e.node (CS s T lv i' 0 12)):=by
 simp only[PS,pO] at z
 rcases hp with rfl | rfl | rfl | rfl
 ·refine Z_call (pf:=F286) rfl rfl ?_
  simp only[fnP] at z
  simp[F286,z,List.range_succ]
 ·refine Z_call (pf:=F289) rfl rfl ?_
  simp only[fnP] at z
  simp[F289,z,List.range_succ]
 ·refine Z_call (pf:=F303) rfl rfl ?_
  simp only[fnP] at z
  simp[F303,z,List.range_succ]
 ·refine Z_call (pf:=F307) rfl rfl ?_
  simp only[fnP] at z
  simp[F307,z,List.range_succ]
theorem qlU (hp:qjo p) {a c:Int} (z:Z tP (.call (fnP (p+1)) [.ptr 0 0,.int lv] (PS s T i 0 12))=some (.ret (qbk c) (PS s T i' a c))):Z tP (.call (clF p) [.ptr 0 0,.ptr 1 0] (CS s T lv i 0 12))=some (.ret (qbk c) (CS s T lv i' a c)):=by
 simp only[PS,pO] at z
 rcases hp with rfl | rfl | rfl | rfl
 ·refine Z_call (pf:=F286) rfl rfl ?_
  simp only[fnP] at z
  simp[F286,z,qad,List.range_succ]
 ·refine Z_call (pf:=F289) rfl rfl ?_
  simp only[fnP] at z
  simp[F289,z,qad,List.range_succ]
 ·refine Z_call (pf:=F303) rfl rfl ?_
  simp only[fnP] at z
  simp[F303,z,qad,List.range_succ]
 ·refine Z_call (pf:=F307) rfl rfl ?_
  simp only[fnP] at z
  simp[F307,z,qad,List.range_succ]
theorem qpt {g:Nat} {d:D} {l:List ByteArray} (hd:RowS d l) (hl:l.length<2 ^ 40) (hn:(⟨#[]⟩:ByteArray)∉l) (h:T.drop i=t::r) (hb:t.bad=0) (hm:t.s∉l) (e:E):Z tP (.loop 5 F285l0 (bqF g d) (BL s T lv i 0 12 e))=some (.out (.exit 0) (bqF g d++[(13,.bool false)]) (BL s T lv i 0 12 e)):=by
 have zi:=qaL (s:=s) (a:=0) (c:=12) h hb hd hl hn
 have ho:=hd.one
 have hcl:=hd.cells
 simp only[PS,pO,hm,decide_false] at zi
 rw[qac]
 simp[qae,qeN,zi,ho,hcl,List.range_succ]
theorem qpu {g:Nat} {d:D} {l:List ByteArray} (hd:RowS d l) (h:T.drop i=t::r) (hb:t.bad≠0) (e:E):Z tP (.loop 5 F285l0 (bqF g d) (BL s T lv i 0 12 e))=some (.out (.pan (.iface 1 (.int t.bad))) ((12,.dat d)::(11,.ptr 0 0)::bqF g d) (BL s T lv i t.at_ t.bad e)):=by
 have zi:=qfj (s:=s) (a:=0) (c:=12) h hb hd
 have ho:=hd.one
 have hcl:=hd.cells
 simp only[PS,pO] at zi
 rw[qac]
 simp[qae,qeN,zi,ho,hcl,qad,List.range_succ]
theorem qn3 {g:Nat} {d:D} {l:List ByteArray} (hd:RowS d l) (hl:l.length<2 ^ 40) (hT:T.length<2 ^ 40) (hn:(⟨#[]⟩:ByteArray)∉l) (h:T.drop i=t::r) (hb:t.bad=0) (hm:t.s∈l) {o:Bop} (ho':t.s=o.str) (e e':E)
  (z:Z tP (.call g [.ptr 0 0,.ptr 1 0] (CS s T lv ((i+1:Nat):Int) 0 12))=some (.ret e'.node (CS s T lv i' 0 12))):Z tP (.loop 5 F285l0 (bqF g d) (BL s T lv i 0 12 e))=Z tP (.loop 5 F285l0 (bqF g d) (BL s T lv i' 0 12 (.bin true o e e'))):=by
 have zi:=qaL (s:=s) (a:=0) (c:=12) h hb hd hl hn
 have zt:=qaJ (s:=s) (a:=0) (c:=12) h hb hT
 have ho:=hd.one
 have hcl:=hd.cells
 have htx:=qam hb
 simp only[PS,pO,hm,decide_true] at zi
 simp only[PS,pO,ptk,ptD,htx,ho'] at zt
 simp only[CS,pO] at z
 simp only[Int.natCast_add,Int.cast_ofNat_Int] at z zt
 conv=>lhs; rw[qac]
 simp[qae,qeN,zi,zt,z,ho,hcl,qc6,qa8,qbx,qbV,qa9,still,V.same,List.range_succ]
 rfl
theorem qpv {g:Nat} {d:D} {l:List ByteArray} (hd:RowS d l) (hl:l.length<2 ^ 40) (hT:T.length<2 ^ 40) (hn:(⟨#[]⟩:ByteArray)∉l) (h:T.drop i=t::r) (hb:t.bad=0) (hm:t.s∈l) (e:E) {a c:Int}
  (z:Z tP (.call g [.ptr 0 0,.ptr 1 0] (CS s T lv ((i+1:Nat):Int) 0 12))=some (.ret (qbk c) (CS s T lv i' a c))):Z tP (.loop 5 F285l0 (bqF g d) (BL s T lv i 0 12 e))=some (.out (.pan (.iface 1 (.int c))) [] (BL s T lv i' a c e)):=by
 have zi:=qaL (s:=s) (a:=0) (c:=12) h hb hd hl hn
 have zt:=qaJ (s:=s) (a:=0) (c:=12) h hb hT
 have ho:=hd.one
 have hcl:=hd.cells
 simp only[PS,pO,hm,decide_true] at zi
 simp only[PS,pO,ptk,ptD] at zt
 simp only[CS,pO] at z
 simp only[Int.natCast_add,Int.cast_ofNat_Int] at z zt
 rw[qac]
 simp[qae,qeN,zi,zt,z,ho,hcl,qad,qaC,qc6,qa8,qbx,qbV,qa9,still,V.same,List.range_succ]
end
end Go.Pm
end SKl
section SKm
namespace Go.Pm
open F
set_option maxHeartbeats 4000000
attribute [local simp] qbd qbQ dkey
theorem qr7 {p:Nat} (hp:qjo p) {y:ByteArray} {o:Bop} (h:qjJ p y=some o):y=o.str/\y∈qfV p:=by
 have h1:o.str=y:=by have:=List.find?_some h; simpa using this
 have h2:=List.mem_of_find?_eq_some h
 subst h1
 refine⟨rfl,?_⟩
 rcases hp with rfl | rfl | rfl | rfl<;>simp only[List.mem_cons,List.not_mem_nil,or_false] at h2
 ·subst h2; decide
 ·subst h2; decide
 ·rcases h2 with rfl | rfl<;>decide
 ·rcases h2 with rfl | rfl<;>decide
theorem qr8 {p:Nat} (hp:qjo p) {y:ByteArray} (h:qjJ p y=none):y∉qfV p:=by
 have h2:=List.find?_eq_none.1 h
 rcases hp with rfl | rfl | rfl | rfl<;>simp only[List.mem_cons,List.not_mem_nil,or_false] at h2
 ·intro hm
  exact h2 .or rfl (by simpa [qfV,Bop.str,eq_comm] using hm)
 ·intro hm
  exact h2 .and rfl (by simpa [qfV,Bop.str,eq_comm] using hm)
 ·intro hm
  simp only[qfV,List.mem_cons,List.not_mem_nil,or_false] at hm
  rcases hm with rfl | rfl
  ·exact h2 .add (.inl rfl) (by decide)
  ·exact h2 .sub (.inr rfl) (by decide)
 ·intro hm
  simp only[qfV,List.mem_cons,List.not_mem_nil,or_false] at hm
  rcases hm with rfl | rfl
  ·exact h2 .mul (.inl rfl) (by decide)
  ·exact h2 .div (.inr rfl) (by decide)
theorem qtW {p:Nat} (hp:qjo p):(⟨#[]⟩:ByteArray)∉qfV p/\(qfV p).length<2 ^ 40:=by
 rcases hp with rfl | rfl | rfl | rfl<;>exact⟨by decide,by decide⟩
section
variable (s:ByteArray) (T:List Tk)
def ExK (n:Nat):Prop := ∀ (p lv i:Nat) (t:Tk) (r:List Tk) (x:Rz E),1<=p->p<=8->lv<=20->T.drop i=t::r->qan 12 2 true n p lv (t::r)=some x->Out s T (Z tP (.call (fnP p) [.ptr 0 0,.int lv] (PS s T i 0 12))) x E.node
def LoK (n:Nat):Prop := ∀ (p lv i:Nat) (t:Tk) (r:List Tk) (e:E) (x:Rz E),qjo p->lv<=20->T.drop i=t::r->qcb 12 2 true n p lv e (t::r)=some x->match x with
 | .ok e' r' => ∃ i',T.drop i'=r'/\r'≠[]/\Z tP (.loop 5 F285l0 (bqF (clF p) (.sl (qaW (qfV p)) (qfV p).length true)) (BL s T lv i 0 12 e))=some (.out (.exit 0) (bqF (clF p) (.sl (qaW (qfV p)) (qfV p).length true)++[(13,.bool false)]) (BL s T lv i' 0 12 e'))
 | .er a c => ∃ (i':Nat) (fr:Fr) (e':E),fr.get 1000000=none/\Z tP (.loop 5 F285l0 (bqF (clF p) (.sl (qaW (qfV p)) (qfV p).length true)) (BL s T lv i 0 12 e))=some (.out (.pan (.iface 1 (.int c))) fr (BL s T lv i' a c e'))
variable {s:ByteArray} {T:List Tk}
theorem qr9 (hw:WfQ T) (hT:T.length<2 ^ 40) {n:Nat} (ihe:ExK s T n) (ihl:LoK s T n):LoK s T (n+1):=by
 intro p lv i t r e x hp hlv h hx
 obtain⟨on,ol⟩:=qtW hp
 have hd:=qaf (qfV p) true
 have hp2:p≠3/\p≠4/\p≠7/\1<=p/\p<=6:=by rcases hp with rfl | rfl | rfl | rfl<;>omega
 rw[qcb] at hx
 by_cases hb:t.bad=0
 ·have hnx:nx (t::r)=some t.s:=if_pos hb
  rw[hnx] at hx
  simp only at hx
  cases ho:qjJ p t.s with
  | none=>
   rw[ho] at hx
   cases hx
   exact⟨i,h,by simp,qpt hd ol on h hb (qr8 hp ho) e⟩
  | some o=>
   rw[ho] at hx
   simp only[List.tail_cons] at hx
   obtain⟨q1,q2⟩:=qr7 hp ho
   have hne:t.s≠⟨#[]⟩:=fun e=>on (e ▸ q2)
   obtain⟨n1,n2⟩:=hw.next h hb hne
   obtain⟨t',r',hr⟩ : ∃ t' r',r=t'::r':=by cases r with
    | nil=>exact absurd rfl n2
    | cons a b=>exact⟨a,b,rfl⟩
   subst hr
   cases hq:qan 12 2 true n (p+1) lv (t'::r') with
   | none=>rw[hq] at hx; cases hx
   | some y=>
    rw[hq] at hx
    have ho':=ihe (p+1) lv (i+1) t' r' y (by omega) (by omega) hlv n1 hq
    cases y with
    | er a c=>
     simp only[Option.some.injEq] at hx
     subst hx
     obtain⟨i',z⟩:=ho'
     exact⟨i',_,e,rfl,qpv hd ol hT on h hb q2 e (qlU hp z)⟩
    | ok e' r''=>
     simp only[if_neg hp2.2.1] at hx
     obtain⟨i',a1,a2,z⟩:=ho'
     have zs:=qn3 hd ol hT on h hb q2 q1 e e' (qn2 hp z)
     obtain⟨t2,r2,hr2⟩ : ∃ t2 r2,r''=t2::r2:=by cases r'' with
      | nil=>exact absurd rfl a2
      | cons a b=>exact⟨a,b,rfl⟩
     subst hr2
     have:=ihl p lv i' t2 r2 (.bin true o e e') x hp hlv a1 hx
     cases x with
     | ok e3 r3=>
      obtain⟨i3,b1,b2,b3⟩:=this
      exact⟨i3,b1,b2,zs.trans b3⟩
     | er a c=>
      obtain⟨i3,fr,e3,b1,b2⟩:=this
      exact⟨i3,fr,e3,b1,zs.trans b2⟩
 ·have hnx:nx (t::r)=none:=if_neg hb
  rw[hnx] at hx
  simp only at hx
  rw[if_neg (by omega)] at hx
  simp only[failP,if_neg hb,Option.some.injEq] at hx
  subst hx
  exact⟨i,_,e,rfl,qpu hd h hb e⟩
end
end Go.Pm
end SKm
