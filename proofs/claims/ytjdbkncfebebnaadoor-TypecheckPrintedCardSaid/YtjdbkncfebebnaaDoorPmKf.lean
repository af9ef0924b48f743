/- Chapter 13's parser: the token at an offset is the plain one. DEV ONLY: prefixes of bodies. Chapter 13's parser: all tokens. Chapter 13's parser: the queue holds the plain tokens. Chapter 13's parser: what it looks at, takes, expects. Chapter 13's parser: words and symbols that it asks for. Chapter 13's parser: expect and open against the plain ones. Chapter 13's parser: operators between operands: a round. Chapter 13's parser: rows of operators against the plain ones. Chapter 13's parser: binary operators. Chapter 13's parser: comparisons. Chapter 13's parser: operators before an operand. -/
import Derived.Test.YtjdbkncfebebnaaDoorPmOh
import Derived.Test.YtjdbkncfebebnaaDoorPmY
import Derived.Test.YtjdbkncfebebnaaDoorPmFx
import Derived.Test.YtjdbkncfebebnaaDoorPmEt
set_option linter.unusedSimpArgs false
set_option linter.unusedVariables false
section SKf
namespace Go.Pm
open F
set_option maxHeartbeats 2000000
theorem qqN {c:UInt8} {r:List UInt8}:bs (c::r)≠⟨#[]⟩:=fun h=>by
 have:=congrArg ByteArray.size h
 rw[qbh,List.length_cons] at this
 exact absurd this (by show ¬ r.length+1=0; omega)
theorem qqe (s:ByteArray) (hl:s.size<2 ^ 40) {σ : S} (hσ : LxS s σ) {i:Nat} (hi:i<=s.size):Z tP (.call 250 [.ptr 0 0,.int i] σ)=some (.ret (ptk (tokAt 12 2 6 s i)) σ):=by
 by_cases hend:i=s.size
 ·subst hend
  have hd:(byl s).drop s.size=[]:=List.drop_eq_nil_of_le (by rw[qaw]; exact Nat.le_refl _)
  have e:tokAt 12 2 6 s s.size=⟨s.size,⟨#[]⟩,0⟩:=by rw[qdu,hd]; rfl
  rw[e]
  exact qoP s hσ
 have hi':i<s.size:=by omega
 obtain⟨c,h1,h2⟩:=qmz hi'
 have hd:=qgs h2
 rw[qdu,hd]
 by_cases hlet:qaQ c=true
 ·have hw:qaE c=true:=by simp[qaE,hlet]
  have ht:=qlA ((byl s).drop (i+1)) hw
  have htok:tokL 12 2 6 (c::(byl s).drop (i+1))=(c::((byl s).drop (i+1)).take (qbu qaE ((byl s).drop (i+1))),if 8<qbu qaE (c::(byl s).drop (i+1))/\bs (c::((byl s).drop (i+1)).take (qbu qaE ((byl s).drop (i+1))))∉fieldNames/\bs (c::((byl s).drop (i+1)).take (qbu qaE ((byl s).drop (i+1))))∉wordNames then 2 else 0):=by
   simp only[tokL,hlet,if_true,ht]
  have z:=qqF s hl hσ hi
  rw[qcl,hd,ht] at z
  have hsz:(bs (c::((byl s).drop (i+1)).take (qbu qaE ((byl s).drop (i+1))))).size=qbu qaE (c::(byl s).drop (i+1)):=by
   rw[qbh,<- ht,List.length_take,Nat.min_eq_left (qfr _ _)]
  rw[htok]
  have s1:=qdJ qaQ c (((byl s).drop (i+1)).take (qbu qaE ((byl s).drop (i+1))))
  have s2:=qdJ qas c (((byl s).drop (i+1)).take (qbu qaE ((byl s).drop (i+1))))
  have hne:=qqN (c:=c) (r:=((byl s).drop (i+1)).take (qbu qaE ((byl s).drop (i+1))))
  rw[hlet] at s1
  rw[qnh hlet] at s2
  rw[<- hsz]
  generalize bs (c::((byl s).drop (i+1)).take (qbu qaE ((byl s).drop (i+1))))=w at *
  have e:ptk ⟨i,w,if 8<w.size/\w∉fieldNames/\w∉wordNames then 2 else 0⟩=ptD (pkW w) w i 0 (pcW w):=by
   have hb:((if 8<w.size/\w∉fieldNames/\w∉wordNames then 2 else 0:Nat):Int)=pcW w:=by
    unfold pcW
    by_cases a:w∈fieldNames<;>by_cases b:w∈wordNames<;>by_cases d:8<w.size<;>simp[a,b,d]
   have hk:kindT ⟨i,w,if 8<w.size/\w∉fieldNames/\w∉wordNames then 2 else 0⟩=pkW w:=by
    unfold pkW kindT
    by_cases a:w∈fieldNames<;>by_cases b:w∈wordNames<;>by_cases d:8<w.size<;>simp[a,b,d,hne,s1]
   have hx:qe4 ⟨i,w,if 8<w.size/\w∉fieldNames/\w∉wordNames then 2 else 0⟩=w:=by
    unfold qe4
    by_cases a:8<w.size/\w∉fieldNames/\w∉wordNames<;>simp[a]
   unfold ptk
   rw[hk,hx,hb]
   simp[valT,s2]
  rw[e]
  exact qoQ s hσ hi' h1 hlet (v := .lit (.bool true)) rfl z
 have hlet':qaQ c=false:=by simpa using hlet
 by_cases hdig:qas c=true
 ·have ht:=qlA ((byl s).drop (i+1)) hdig
  have htok:tokL 12 2 6 (c::(byl s).drop (i+1))=(c::((byl s).drop (i+1)).take (qbu qas ((byl s).drop (i+1))),if 2147483647<digV (c::((byl s).drop (i+1)).take (qbu qas ((byl s).drop (i+1)))) then 6 else 0):=by
   simp only[tokL,hlet',hdig,if_true,Bool.false_eq_true,if_false,ht]
  have z:=qtl s hl hσ hi
  rw[qcl,hd,ht] at z
  rw[htok]
  have s1:=qdJ qaQ c (((byl s).drop (i+1)).take (qbu qas ((byl s).drop (i+1))))
  have s2:=qdJ qas c (((byl s).drop (i+1)).take (qbu qas ((byl s).drop (i+1))))
  have hne:=qqN (c:=c) (r:=((byl s).drop (i+1)).take (qbu qas ((byl s).drop (i+1))))
  rw[hlet'] at s1
  rw[hdig] at s2
  have hbl:=qc6 (c::((byl s).drop (i+1)).take (qbu qas ((byl s).drop (i+1))))
  generalize c::((byl s).drop (i+1)).take (qbu qas ((byl s).drop (i+1)))=l at *
  have e:ptk ⟨i,bs l,if 2147483647<digV l then 6 else 0⟩=ptD (if 2147483647<digV l then 6 else 4) (bs l) i (min (digV l) 2147483648:Nat) (if 2147483647<digV l then 6 else 0):=by
   unfold ptk kindT qe4 valT
   by_cases a:2147483647<digV l<;>simp[a,hne,s1,s2,hbl]
  rw[e]
  exact qoR s hσ hi' h1 hlet' hdig z
 have hdig':qas c=false:=by simpa using hdig
 by_cases hp:bs ((c::(byl s).drop (i+1)).take 2)∈qdw
 ·have htok:tokL 12 2 6 (c::(byl s).drop (i+1))=((c::(byl s).drop (i+1)).take 2,0):=by
   simp only[tokL,hlet',hdig',if_pos hp,Bool.false_eq_true,if_false]
  have hsz:=qeY hp
  rw[qbh,List.length_take,List.length_cons,List.length_drop,qaw] at hsz
  have z:=qni s hl hσ (i:=i) (by omega) h1 hlet' hdig' (p:=bs ((c::(byl s).drop (i+1)).take 2)) (by rw[qcl,hd]) hp
  rw[htok,z]
  have e:ptk ⟨i,bs ((c::(byl s).drop (i+1)).take 2),0⟩=ptD 5 (bs ((c::(byl s).drop (i+1)).take 2)) i 0 0:=by
   generalize bs ((c::(byl s).drop (i+1)).take 2)=w at hp
   simp only[qdw,List.mem_cons,List.not_mem_nil,or_false] at hp
   rcases hp with rfl | rfl | rfl | rfl | rfl | rfl<;>rfl
  rw[e]
 ·have z:=qoS s hl hσ hi' h1 hlet' hdig' (fun h=>by rw[qcl,hd]; exact hp) (x:=bs [c]) (by rw[qcl,hd]; rfl)
  rw[z]
  have s1:=qdJ qaQ c []
  have s2:=qdJ qas c []
  by_cases hs:c.toNat∈qi9
  ·have htok:tokL 12 2 6 (c::(byl s).drop (i+1))=([c],0):=by simp only[tokL,hlet',hdig',if_neg hp,if_pos hs,Bool.false_eq_true,if_false]
   rw[htok,if_pos hs]
   have e:ptk ⟨i,bs [c],0⟩=ptD 5 (bs [c]) i 0 0:=by
    unfold ptk kindT qe4 valT
    simp[s1,s2,hlet',hdig',qqN]
   rw[e]
  ·have htok:tokL 12 2 6 (c::(byl s).drop (i+1))=([c],12):=by simp only[tokL,hlet',hdig',if_neg hp,if_neg hs,Bool.false_eq_true,if_false]
   rw[htok,if_neg hs]
   have e:ptk ⟨i,bs [c],12⟩=ptD 6 ⟨#[]⟩ i 0 12:=by
    unfold ptk kindT qe4 valT
    simp[s2,hdig']
   rw[e]
end Go.Pm
end SKf
section SDev
namespace Go.Pm
@[simp] def qsg:Nat->PC->PC
 | n+1,.seq a b => .seq a (qsg n b)
 | 0,_ => .skip
 | _,p=>p
end Go.Pm
end SDev
section SKg
namespace Go.Pm
open F
set_option maxHeartbeats 4000000
attribute [local simp] qa6 qbJ
theorem qj7 (s:ByteArray):Z tP (.call 241 [.ptr 0 0] [pO s 1 (.dat (.lit (.slice none 0 0))) 0 0 12,.map kwM])=some (.ret (.fn 249 [] [.ptr 2 0]) [pO s 1 (.dat (.lit (.slice none 0 0))) 0 0 12,.map kwM,.cells [.ptr 0 0]]):=by
 refine qaa (pf:=F241) rfl rfl ?_
 simp[F241,List.range_succ]
abbrev lp8:Ob := .loop ⟨[(2,.ptr 2 0),(3,.ptr 3 0),(4,.ptr 4 0),(5,.ptr 5 0),(19,.fn 249 [] [.ptr 1 0])],[20],F228a0,F228b0,0,none⟩
abbrev TT0 (s:ByteArray):S:=[lp8,.cells [.ptr 6 0],qsr,.cells [.int 0],.cells [.int 0],.cells [.ptr 6 0],pO s 7 (.dat (.lit (.slice none 0 0))) 0 0 12,.map kwM]
abbrev TT1 (s:ByteArray) (cs:List D) (n:Nat):S:=[lp8,.cells [.ptr 6 0],qsr,.cells [.int 0],.cells [.int 0],.cells [.ptr 6 0],pO s 7 (.gsl cs n 5 8) 0 0 12,.map kwM,.tip cs.length]
abbrev lpR:Ob := .loop ⟨[(2,.ptr 1 0),(3,.ptr 2 0),(4,.ptr 3 0),(5,.ptr 4 0),(19,.fn 249 [] [.ptr 5 0])],[20],F228a0,F228b0,0,none⟩
abbrev Q0 (s:ByteArray):S:=[lpR,qsr,.cells [.int 0],.cells [.int 0],.cells [.ptr 6 0],.cells [.ptr 6 0],pO s 7 (.dat (.lit (.slice none 0 0))) 0 0 12,.map kwM]
abbrev Q1 (s:ByteArray) (cs:List D) (n:Nat):S:=[lpR,qsr,.cells [.int 0],.cells [.int 0],.cells [.ptr 6 0],.cells [.ptr 6 0],pO s 7 (.gsl cs n 5 8) 0 0 12,.map kwM,.tip cs.length]
def qgK (k:Int) (t:ByteArray) (a v c:Int):List D:=[.lit (.int .i64 k),.lit (.string t),.lit (.int .i64 a),.lit (.int .i64 v),.lit (.int .i64 c)]
section
variable {s:ByteArray} {k a v c:Int} {t:ByteArray}
theorem qwg:Z tP (.round [.yld 0,ptD k t a v c] (Q0 s))=some (.ret (.bool true) (Q1 s (qgK k t a v c) 1)):=by
 have r1:qaP 1 48=true:=by simp only[qaP,decide_eq_true_eq]; omega
 rw[qcw]
 simp[qbo,qho,qhp,qio,qip,qcR,Lp.ended,Ex.isNormal,V.len,qce,qly,r1,qgK,dkey,qc5,qa3,List.range_succ]
theorem qwh {cs:List D} {n:Nat} (hc:cs.length=n*5) (h0:0<n) (hn:n<2 ^ 30):Z tP (.round [.yld 0,ptD k t a v c] (Q1 s cs n))=some (.ret (.bool true) (Q1 s (cs++qgK k t a v c) (n+1))):=by
 have r1:qaP (n+1) 48=true:=by simp only[qaP,decide_eq_true_eq]; omega
 have hne : ¬ n=0:=by omega
 rw[qcw]
 simp[qbo,qho,qhp,qio,qip,qcR,Lp.ended,Ex.isNormal,V.len,qce,qly,r1,hc,hne,qgK,dkey,qc5,qa3,List.range_succ]
end
abbrev tkO (k:Int) (t:ByteArray) (a v c:Int):Ob := .cells [.int k,.str t,.int a,.int v,.int c]
section
variable {s:ByteArray} {i j:Nat} {k a v c:Int} {t:ByteArray}
theorem qo4
  (zs:Z tP (.call 251 [.ptr 0 0,.int i] [pO s 1 (.dat (.lit (.slice none 0 0))) 0 0 12,.map kwM])=some (.ret (.int j) [pO s 1 (.dat (.lit (.slice none 0 0))) 0 0 12,.map kwM]))
  (zc:Z tP (.call 250 [.ptr 0 0,.int j] [pO s 1 (.dat (.lit (.slice none 0 0))) 0 0 12,.map kwM])=some (.ret (ptD k t a v c) [pO s 1 (.dat (.lit (.slice none 0 0))) 0 0 12,.map kwM]))
  (ha:IntKind.i64.wrap (a+t.size)=a+t.size) (h0:decide (k=0)=false) (h6:decide (k=6)=false) :
  Z tP (.loop 8 F249l0 [(0,.yld 0),(1,.ptr 1 0),(3,.int i)] (TT0 s))=Z tP (.loop 8 F249l0 [(0,.yld 0),(1,.ptr 1 0),(3,.int (a+t.size))] (TT1 s (qgK k t a v c) 1)):=by
 have zr:=qwg (s:=s) (k:=k) (a:=a) (v:=v) (c:=c) (t:=t)
 simp only[pO,ptD,qgK] at zs zc zr
 conv=>lhs; rw[qac]
 simp[qae,qeN,zs,zc,zr,V.len,ha,h0,h6,qgK,qc5,qa3,List.range_succ]
 exact qam (by simp[List.range_succ])
theorem qo5
  (zs:Z tP (.call 251 [.ptr 0 0,.int i] [pO s 1 (.dat (.lit (.slice none 0 0))) 0 0 12,.map kwM])=some (.ret (.int j) [pO s 1 (.dat (.lit (.slice none 0 0))) 0 0 12,.map kwM]))
  (zc:Z tP (.call 250 [.ptr 0 0,.int j] [pO s 1 (.dat (.lit (.slice none 0 0))) 0 0 12,.map kwM])=some (.ret (ptD k t a v c) [pO s 1 (.dat (.lit (.slice none 0 0))) 0 0 12,.map kwM]))
  (h:k=0\/k=6) :
  Z tP (.loop 8 F249l0 [(0,.yld 0),(1,.ptr 1 0),(3,.int i)] (TT0 s))=some (.out .ret [(0,.yld 0),(1,.ptr 1 0),(4,.ptr 8 0),(23,.bool true)] [lp8,.cells [.ptr 6 0],qsr,.cells [.int 0],.cells [.int 0],.cells [.ptr 6 0],pO s 7 (.gsl (qgK k t a v c) 1 5 9) 0 0 12,.map kwM,tkO k t a v c,.tip 5]):=by
 have zr:=qwg (s:=s) (k:=k) (a:=a) (v:=v) (c:=c) (t:=t)
 simp only[pO,ptD,qgK] at zs zc zr
 rw[qac]
 rcases h with rfl | rfl<;>simp[qae,qeN,zs,zc,zr,V.len,qgK,qc5,qa3,List.range_succ]
theorem qo6 {cs:List D} {n:Nat} (hc:cs.length=n*5) (hn0:0<n) (hn:n<2 ^ 30)
  (zs:Z tP (.call 251 [.ptr 0 0,.int i] [pO s 1 (.gsl cs n 5 2) 0 0 12,.map kwM,.tip cs.length])=some (.ret (.int j) [pO s 1 (.gsl cs n 5 2) 0 0 12,.map kwM,.tip cs.length]))
  (zc:Z tP (.call 250 [.ptr 0 0,.int j] [pO s 1 (.gsl cs n 5 2) 0 0 12,.map kwM,.tip cs.length])=some (.ret (ptD k t a v c) [pO s 1 (.gsl cs n 5 2) 0 0 12,.map kwM,.tip cs.length]))
  (ha:IntKind.i64.wrap (a+t.size)=a+t.size) (h0:decide (k=0)=false) (h6:decide (k=6)=false) :
  Z tP (.loop 8 F249l0 [(0,.yld 0),(1,.ptr 1 0),(3,.int i)] (TT1 s cs n))=Z tP (.loop 8 F249l0 [(0,.yld 0),(1,.ptr 1 0),(3,.int (a+t.size))] (TT1 s (cs++qgK k t a v c) (n+1))):=by
 have zr:=qwh (s:=s) (k:=k) (a:=a) (v:=v) (c:=c) (t:=t) hc hn0 hn
 simp only[pO,ptD,qgK] at zs zc zr
 conv=>lhs; rw[qac]
 simp[qae,qeN,zs,zc,zr,V.len,ha,h0,h6,qgK,qc5,qa3,List.range_succ]
 exact qam (by simp[List.range_succ])
theorem qo7 {cs:List D} {n:Nat} (hc:cs.length=n*5) (hn0:0<n) (hn:n<2 ^ 30)
  (zs:Z tP (.call 251 [.ptr 0 0,.int i] [pO s 1 (.gsl cs n 5 2) 0 0 12,.map kwM,.tip cs.length])=some (.ret (.int j) [pO s 1 (.gsl cs n 5 2) 0 0 12,.map kwM,.tip cs.length]))
  (zc:Z tP (.call 250 [.ptr 0 0,.int j] [pO s 1 (.gsl cs n 5 2) 0 0 12,.map kwM,.tip cs.length])=some (.ret (ptD k t a v c) [pO s 1 (.gsl cs n 5 2) 0 0 12,.map kwM,.tip cs.length]))
  (h:k=0\/k=6) :
  Z tP (.loop 8 F249l0 [(0,.yld 0),(1,.ptr 1 0),(3,.int i)] (TT1 s cs n))=some (.out .ret [(0,.yld 0),(1,.ptr 1 0),(4,.ptr 9 0),(23,.bool true)] (TT1 s (cs++qgK k t a v c) (n+1)++[tkO k t a v c])):=by
 have zr:=qwh (s:=s) (k:=k) (a:=a) (v:=v) (c:=c) (t:=t) hc hn0 hn
 simp only[pO,ptD,qgK] at zs zc zr
 rw[qac]
 rcases h with rfl | rfl<;>simp[qae,qeN,zs,zc,zr,V.len,qgK,qc5,qa3,List.range_succ]
end
end Go.Pm
end SKg
section SKh
namespace Go.Pm
open F
set_option maxHeartbeats 4000000
attribute [local simp] qa6 qbJ
abbrev ptT (t:Tk):List D:=qgK (kindT t) (qe4 t) t.at_ (valT t) t.bad
def ptC:List Tk->List D
 | []=>[]
 | t::r=>ptT t++ptC r
theorem qf3 (t:Tk):(kindT t=0\/kindT t=6)↔(t.bad≠0\/t.s.size=0):=by
 have he:t.s=⟨#[]⟩↔t.s.size=0:=⟨fun h=>by rw[h]; rfl,fun h=>by
  have:=qeH t.s
  have hb:byl t.s=[]:=List.eq_nil_of_length_eq_zero (by rw[qaw]; exact h)
  rw[hb] at this
  exact this.symm⟩
 unfold kindT
 by_cases hb:t.bad=0
 ·by_cases h0:t.s=⟨#[]⟩
  ·simp[hb,h0]
   rfl
  ·have h0' : ¬ t.s.size=0:=fun h=>h0 (he.2 h)
   simp only[hb,h0,h0',ne_eq,not_true_eq_false,if_false,false_or,or_self,iff_false]
   split<;>(try split)<;>(try split)<;>omega
 ·simp[hb]
theorem qal {t:Tk} (h:t.bad=0):qe4 t=t.s:=by unfold qe4; rw[h]; rfl
theorem qpN (s:ByteArray) {i:Nat} (hi:i<=s.size):qhk s (s.size-i) false i=i+qaZ false ((byl s).drop i)/\i+qaZ false ((byl s).drop i)<=s.size:=by
 refine⟨qjz s _ false i (Nat.le_refl _),?_⟩
 have:=qg9 ((byl s).drop i) false
 rw[List.length_drop,qaw] at this
 omega
theorem ql5 (s:ByteArray) (n:Nat) {i:Nat} (hi:i<=s.size) {t:Tk} (ht:tokAt 12 2 6 s (i+qaZ false ((byl s).drop i))=t):qb2 12 2 6 s (n+1) i=if t.bad≠0\/t.s.size=0 then [t] else t::qb2 12 2 6 s n (t.at_+t.s.size):=by
 rw[qb2,(qpN s hi).1,ht]
theorem qqr (s:ByteArray) {i:Nat} (hi:i<=s.size) {t:Tk} (ht:tokAt 12 2 6 s (i+qaZ false ((byl s).drop i))=t) (h : ¬ (t.bad≠0\/t.s.size=0)):i<t.at_+t.s.size/\t.at_+t.s.size<=s.size:=by
 obtain⟨_,h2⟩:=qpN s hi
 have hij:i<=i+qaZ false ((byl s).drop i):=by omega
 generalize i+qaZ false ((byl s).drop i)=j at ht h2 hij
 by_cases hj:j<s.size
 ·have hp:=qkx hj 12 2 6
  have ha:t.at_=j:=by rw[<- ht,qdu]
  rw[ht] at hp
  omega
 ·obtain rfl:j=s.size:=by omega
  have hd:(byl s).drop s.size=[]:=List.drop_eq_nil_of_le (by rw[qaw]; exact Nat.le_refl _)
  exfalso
  apply h
  rw[<- ht,qdu,hd]
  exact .inr rfl
theorem qiN (s:ByteArray) (hl:s.size<2 ^ 29) : ∀ (n i:Nat) (cs:List D) (m:Nat),s.size-i<n->i<=s.size->0<m->cs.length=m*5->m+(s.size-i)<2 ^ 30 ->
  ∃ k t a v c,Z tP (.loop 8 F249l0 [(0,.yld 0),(1,.ptr 1 0),(3,.int i)] (TT1 s cs m))=some (.out .ret [(0,.yld 0),(1,.ptr 1 0),(4,.ptr 9 0),(23,.bool true)] (TT1 s (cs++ptC (qb2 12 2 6 s n i)) (m+(qb2 12 2 6 s n i).length)++[tkO k t a v c]))
 | 0,i,cs,m,h,_,_,_,_=>by omega
 | n+1,i,cs,m,hn,hi,h0,hc,hm=>by
  obtain⟨j1,j2⟩:=qpN s hi
  have zs:=qm4 s (by omega) (LxS.gr cs m cs.length 0 0 12) hi
  have zc:=qqe s (by omega) (LxS.gr cs m cs.length 0 0 12) j2
  obtain⟨t,ht⟩ : ∃ t,tokAt 12 2 6 s (i+qaZ false ((byl s).drop i))=t:=⟨_,rfl⟩
  rw[ql5 s n hi ht]
  rw[ht] at zc
  by_cases hend:t.bad≠0\/t.s.size=0
  ·rw[if_pos hend]
   have z:=qo7 hc h0 (by omega) zs zc ((qf3 t).2 hend)
   simp only[ptC,List.append_nil,List.length_singleton]
   exact⟨_,_,_,_,_,z⟩
  ·rw[if_neg hend]
   obtain⟨q1,q2⟩:=qqr s hi ht hend
   have hb:t.bad=0:=by simp only[not_or,ne_eq,Decidable.not_not] at hend; exact hend.1
   have hk : ¬ (kindT t=0\/kindT t=6):=fun h=>hend ((qf3 t).1 h)
   simp only[not_or] at hk
   have z:=qo6 hc h0 (by omega) zs zc (by rw[qal hb,qag _ (by omega)]) (decide_eq_false hk.1) (decide_eq_false hk.2)
   have hT:qgK (kindT t) t.s t.at_ (valT t) t.bad=ptT t:=by show _=qgK (kindT t) (qe4 t) t.at_ (valT t) t.bad; rw[qal hb]
   rw[qal hb,hT] at z
   obtain⟨k,x,a,v,c,ih⟩:=qiN s hl n (t.at_+t.s.size) (cs++ptT t) (m+1) (by omega) q2 (by omega) (by rw[List.length_append,hc]; simp only[qgK,List.length_cons,List.length_nil]; omega) (by omega)
   refine⟨k,x,a,v,c,z.trans ?_⟩
   have e1:((t.at_:Int)+t.s.size)=((t.at_+t.s.size:Nat):Int):=by omega
   rw[e1,ih]
   simp only[ptC,List.append_assoc,List.length_cons]
   rw[show m+1+(qb2 12 2 6 s n (t.at_+t.s.size)).length=m+((qb2 12 2 6 s n (t.at_+t.s.size)).length+1) by omega]
theorem qn8 (s:ByteArray) (hl:s.size<2 ^ 29):Z tP (.call 249 [.yld 0,.ptr 1 0] (TT0 s))=some (.ret (.tup []) (TT1 s (ptC (qjF s)) (qjF s).length)):=by
 obtain⟨j1,j2⟩:=qpN s (i:=0) (by omega)
 have zs:=qm4 s (by omega) (LxS.nil 0 0 12) (i:=0) (by omega)
 have zc:=qqe s (by omega) (LxS.nil 0 0 12) j2
 obtain⟨t,ht⟩ : ∃ t,tokAt 12 2 6 s (0+qaZ false ((byl s).drop 0))=t:=⟨_,rfl⟩
 have hn:=ql5 s s.size (i:=0) (by omega) ht
 rw[show qjF s=qb2 12 2 6 s (s.size+1) 0 from rfl,hn]
 rw[ht] at zc
 by_cases hend:t.bad≠0\/t.s.size=0
 ·rw[if_pos hend]
  have z:=qo5 zs zc ((qf3 t).2 hend)
  simp only[Int.natCast_zero] at z
  refine qaa (pf:=F249) rfl rfl ?_
  simp[F249,z,ptC,qgK,List.range_succ]
 ·rw[if_neg hend]
  obtain⟨q1,q2⟩:=qqr s (i:=0) (by omega) ht hend
  have hb:t.bad=0:=by simp only[not_or,ne_eq,Decidable.not_not] at hend; exact hend.1
  have hk : ¬ (kindT t=0\/kindT t=6):=fun h=>hend ((qf3 t).1 h)
  simp only[not_or] at hk
  have z:=qo4 zs zc (by rw[qal hb,qag _ (by omega)]) (decide_eq_false hk.1) (decide_eq_false hk.2)
  have hT:qgK (kindT t) t.s t.at_ (valT t) t.bad=ptT t:=by show _=qgK (kindT t) (qe4 t) t.at_ (valT t) t.bad; rw[qal hb]
  rw[qal hb,hT] at z
  obtain⟨k,x,a,v,c,ih⟩:=qiN s hl s.size (t.at_+t.s.size) (ptT t) 1 (by omega) q2 (by omega) (by simp only[qgK,List.length_cons,List.length_nil]) (by omega)
  have e1:((t.at_:Int)+t.s.size)=((t.at_+t.s.size:Nat):Int):=by omega
  rw[e1,ih] at z
  simp only[Int.natCast_zero] at z
  have e2:ptT t++ptC (qb2 12 2 6 s s.size (t.at_+t.s.size))=ptC (t::qb2 12 2 6 s s.size (t.at_+t.s.size)):=rfl
  rw[e2] at z
  have e3:1+(qb2 12 2 6 s s.size (t.at_+t.s.size)).length=(t::qb2 12 2 6 s s.size (t.at_+t.s.size)).length:=by rw[List.length_cons]; omega
  rw[e3] at z
  generalize t::qb2 12 2 6 s s.size (t.at_+t.s.size)=T at z ⊢
  refine qaa (pf:=F249) rfl rfl ?_
  simp[F249,z,List.range_succ]
end Go.Pm
end SKh
section SKi
namespace Go.Pm
open F
set_option maxHeartbeats 4000000
attribute [local simp] qa6 qbJ dkey
abbrev PS (s:ByteArray) (T:List Tk) (i a c:Int):S:=[pO s 1 (.gsl (ptC T) T.length 5 2) i a c,.map kwM,.tip (ptC T).length]
abbrev qbc (c:Int):V := .pan (.iface 1 (.int c))
theorem qlq : ∀ (T:List Tk) (i:Nat),(ptC T).drop (i*5)=ptC (T.drop i)
 | [],i=>by simp[ptC]
 | t::T,0=>by simp
 | t::T,i+1=>by
  rw[show (i+1)*5=i*5+5 by omega]
  simp only[ptC,qgK,List.cons_append,List.nil_append,List.drop_succ_cons]
  exact qlq T i
theorem qm2 {T:List Tk} {i:Nat} {t:Tk} {r:List Tk} (h:T.drop i=t::r):cutCells (ptC T) (i*5) 5=some [.lit (.int .i64 (kindT t)),.lit (.string (qe4 t)),.lit (.int .i64 t.at_),.lit (.int .i64 (valT t)),.lit (.int .i64 t.bad)]:=by
 unfold cutCells
 rw[qlq,h]
 simp[ptC,qgK]
section
variable {s:ByteArray} {T:List Tk} {i:Nat} {a c:Int} {t:Tk} {r:List Tk}
theorem qii (h:T.drop i=t::r):i<T.length:=by
 have:=congrArg List.length h
 rw[List.length_drop,List.length_cons] at this
 omega
theorem qgb {k v e c':Int} {x:ByteArray} {at_:Int}:Z tP (.call 255 [.ptr 0 0,ptD k x at_ v e,.int c'] (PS s T i a c))=some (.ret (qbc c') (PS s T i at_ c')):=by
 refine qaa (pf:=F255) rfl rfl ?_
 simp[F255,List.range_succ]
theorem qau (h:T.drop i=t::r) (hb:t.bad=0):Z tP (.call 252 [.ptr 0 0] (PS s T i a c))=some (.ret (ptk t) (PS s T i a c)):=by
 have hlt:(i:Int)<T.length:=by have:=qii h; omega
 have hc:=qm2 h
 have hk : ¬ kindT t=6:=fun e=>by
  unfold kindT at e
  rw[if_neg (by simp[hb])] at e
  revert e
  split<;>(try split)<;>(try split)<;>omega
 refine qaa (pf:=F252) rfl rfl ?_
 simp[F252,qan,hlt,hc,hk,List.range_succ]
theorem qei (h:T.drop i=t::r) (hb:t.bad≠0):Z tP (.call 252 [.ptr 0 0] (PS s T i a c))=some (.ret (qbc t.bad) (PS s T i t.at_ t.bad)):=by
 have hlt:(i:Int)<T.length:=by have:=qii h; omega
 have hc:=qm2 h
 have hk:kindT t=6:=by unfold kindT; rw[if_pos hb]
 have zf:=qgb (s:=s) (T:=T) (i:=i) (a:=a) (c:=c) (k:=6) (x:=qe4 t) (at_:=t.at_) (v:=valT t) (e:=t.bad) (c':=t.bad)
 rw[hk] at hc
 simp only[PS,pO,ptD] at zf
 refine qaa (pf:=F252) rfl rfl ?_
 simp[F252,qan,hlt,hc,hk,zf,qaf,List.range_succ]
end
end Go.Pm
end SKi
section SKj
namespace Go.Pm
open F
set_option maxHeartbeats 4000000
attribute [local simp] qa6 qbJ dkey
def Out {α : Type} (s:ByteArray) (T:List Tk) (res:Option Res) (x:Rz α) (f : α -> V):Prop:=match x with
 | .ok e r => ∃ i',T.drop i'=r/\r≠[]/\res=some (.ret (f e) (PS s T i' 0 12))
 | .er a c => ∃ i':Nat,res=some (.ret (qbc c) (PS s T i' a c))
def WfQ (T:List Tk):Prop := ∀ i t,T.drop i=[t]->t.bad≠0\/t.s=⟨#[]⟩
theorem qn7 (s:ByteArray) : ∀ n i,WfQ (qb2 12 2 6 s n i)
 | 0,i,k,t,h=>by
  simp only[qb2] at h
  rcases k with _ | k
  ·simp only[List.drop_zero,List.cons.injEq,and_true] at h
   rw[<- h]; exact .inr rfl
  ·simp at h
 | n+1,i,k,t,h=>by
  rw[qb2] at h
  try simp only at h
  generalize tokAt 12 2 6 s (qhk s (s.size-i) false i)=u at h
  split at h
  ·rename_i hu
   rcases k with _ | k
   ·simp only[List.drop_zero,List.cons.injEq,and_true] at h
    rw[<- h]
    rcases hu with hu | hu
    ·exact .inl hu
    ·exact .inr (by
      have hb:byl u.s=[]:=List.eq_nil_of_length_eq_zero (by rw[qaw]; exact hu)
      have:=qeH u.s
      rw[hb] at this
      exact this.symm)
   ·simp at h
  ·rcases k with _ | k
   ·simp only[List.drop_zero,List.cons.injEq] at h
    have hne:qb2 12 2 6 s n (u.at_+u.s.size)≠[]:=by
     cases n<;>simp only[qb2]
     ·simp
     ·split<;>simp
    exact absurd h.2 hne
   ·rw[List.drop_succ_cons] at h
    exact qn7 s n _ k t h
section
variable {s:ByteArray} {T:List Tk} {i:Nat} {a c:Int} {t:Tk} {r:List Tk}
theorem WfQ.next (hw:WfQ T) (h:T.drop i=t::r) (hb:t.bad=0) (hs:t.s≠⟨#[]⟩):T.drop (i+1)=r/\r≠[]:=by
 refine⟨by rw[<- List.drop_drop,h]; rfl,?_⟩
 rintro rfl
 rcases hw i t h with h1 | h1
 ·exact h1 hb
 ·exact hs h1
theorem qdR (hb:t.bad=0):(kindT t=0)=(t.s=⟨#[]⟩):=by
 have:=qf3 t
 apply propext
 constructor
 ·intro h
  rcases this.1 (.inl h) with h1 | h1
  ·exact absurd hb h1
  ·have hbl:byl t.s=[]:=List.eq_nil_of_length_eq_zero (by rw[qaw]; exact h1)
   have:=qeH t.s
   rw[hbl] at this
   exact this.symm
 ·intro h
  unfold kindT
  rw[if_neg (by simp[hb]),if_pos h]
theorem qaK (h:T.drop i=t::r) (hb:t.bad=0) {d:D} {l:List ByteArray} (hd:RowS d l) (hl:l.length<2 ^ 40) (hn:(⟨#[]⟩:ByteArray)∉l):Z tP (.call 269 [.ptr 0 0,.dat d] (PS s T i a c))=some (.ret (.bool (decide (t.s∈l))) (PS s T i a c)):=by
 have zp:=qau (s:=s) (a:=a) (c:=c) h hb
 have zc:=qmq hd hl t.s
 have ho:=hd.one
 have hcl:=hd.cells
 have ht:=qal hb
 have hk:=qdR hb
 simp only[PS,pO,ptk,ptD,ht] at zp
 refine qaa (pf:=F269) rfl rfl ?_
 by_cases h0:t.s=⟨#[]⟩
 ·have hk0:decide (kindT t=0)=true:=decide_eq_true (hk.mpr h0)
  have hm:t.s∉l:=by rw[h0]; exact hn
  simp[F269,zp,zc,ho,hcl,hk0,hm,List.range_succ]
 ·have hk0:decide (kindT t=0)=false:=decide_eq_false (fun e=>h0 (hk.mp e))
  simp[F269,zp,zc,ho,hcl,hk0,List.range_succ]
theorem qfq (h:T.drop i=t::r) (hb:t.bad≠0) {d:D} {l:List ByteArray} (hd:RowS d l):Z tP (.call 269 [.ptr 0 0,.dat d] (PS s T i a c))=some (.ret (qbc t.bad) (PS s T i t.at_ t.bad)):=by
 have zp:=qei (s:=s) (a:=a) (c:=c) h hb
 have ho:=hd.one
 have hcl:=hd.cells
 simp only[PS,pO] at zp
 refine qaa (pf:=F269) rfl rfl ?_
 simp[F269,zp,ho,hcl,qaf,List.range_succ]
theorem qaH (h:T.drop i=t::r) (hb:t.bad=0) (hl:T.length<2 ^ 40):Z tP (.call 277 [.ptr 0 0] (PS s T i a c))=some (.ret (ptk t) (PS s T ((i+1:Nat):Int) a c)):=by
 have zp:=qau (s:=s) (a:=a) (c:=c) h hb
 have hlt:=qii h
 have w1:=qag ((i:Int)+1) (by omega)
 simp only[PS,pO,ptk,ptD] at zp
 refine qaa (pf:=F277) rfl rfl ?_
 simp[F277,zp,w1,List.range_succ]
theorem qgp (h:T.drop i=t::r) (hb:t.bad=0) (hl:T.length<2 ^ 40) (hx:t.s≠⟨#[]⟩):Z tP (.call 253 [.ptr 0 0,.str t.s] (PS s T i a c))=some (.ret (.tup []) (PS s T ((i+1:Nat):Int) a c)):=by
 have zi:=qaK (s:=s) (a:=a) (c:=c) h hb (qah [t.s] true) (by simp) (by simp; exact fun e=>hx e.symm)
 have hlt:=qii h
 have w1:=qag ((i:Int)+1) (by omega)
 simp only[PS,pO,strC,List.map_cons,List.map_nil,List.length_singleton,List.mem_singleton,decide_true] at zi
 refine qaa (pf:=F253) rfl rfl ?_
 simp[F253,zi,w1,List.range_succ]
theorem qmB (h:T.drop i=t::r) (hb:t.bad=0) {x:ByteArray} (hx:x≠⟨#[]⟩) (hne:t.s≠x):Z tP (.call 253 [.ptr 0 0,.str x] (PS s T i a c))=some (.ret (qbc 12) (PS s T i t.at_ 12)):=by
 have zi:=qaK (s:=s) (a:=a) (c:=c) h hb (qah [x] true) (by simp) (by simp; exact fun e=>hx e.symm)
 have zp:=qau (s:=s) (a:=a) (c:=c) h hb
 have zf:=qgb (s:=s) (T:=T) (i:=i) (a:=a) (c:=c) (k:=kindT t) (x:=qe4 t) (at_:=t.at_) (v:=valT t) (e:=t.bad) (c':=12)
 simp only[PS,pO,strC,List.map_cons,List.map_nil,List.length_singleton,List.mem_singleton,hne,decide_false] at zi
 simp only[PS,pO,ptk,ptD] at zp zf
 refine qaa (pf:=F253) rfl rfl ?_
 simp[F253,zi,zp,zf,qaf,List.range_succ]
theorem qlb (h:T.drop i=t::r) (hb:t.bad≠0) {x:ByteArray}:Z tP (.call 253 [.ptr 0 0,.str x] (PS s T i a c))=some (.ret (qbc t.bad) (PS s T i t.at_ t.bad)):=by
 have zi:=qfq (s:=s) (a:=a) (c:=c) h hb (qah [x] true)
 simp only[PS,pO,strC,List.map_cons,List.map_nil,List.length_singleton] at zi
 refine qaa (pf:=F253) rfl rfl ?_
 simp[F253,zi,qaf,List.range_succ]
end
end Go.Pm
end SKj
section SKk
namespace Go.Pm
open F
set_option maxHeartbeats 4000000
attribute [local simp] qa6 qbJ dkey
section
variable {s:ByteArray} {T:List Tk} {i:Nat} {t:Tk} {r:List Tk}
theorem qck (hw:WfQ T) (hl:T.length<2 ^ 40) (h:T.drop i=t::r) {x:ByteArray} (hx:x≠⟨#[]⟩):Out s T (Z tP (.call 253 [.ptr 0 0,.str x] (PS s T i 0 12))) (qaO 12 x (t::r)) (fun _ => .tup []):=by
 simp only[qaO]
 by_cases hb:t.bad=0
 ·by_cases he:t.s=x
  ·rw[if_pos ⟨hb,he⟩]
   subst he
   obtain⟨n1,n2⟩:=hw.next h hb hx
   exact⟨i+1,n1,n2,qgp h hb hl hx⟩
  ·rw[if_neg (fun e=>he e.2)]
   simp only[qb8,if_pos hb]
   exact⟨i,qmB h hb hx he⟩
 ·rw[if_neg (fun e=>hb e.1)]
  simp only[qb8,if_neg hb]
  exact⟨i,qlb h hb⟩
theorem qgZ (hw:WfQ T) (hl:T.length<2 ^ 40) (h:T.drop i=t::r) {x:ByteArray} (hx:x≠⟨#[]⟩) {lv:Nat}:Out s T (Z tP (.call 270 [.ptr 0 0,.str x,.int lv] (PS s T i 0 12))) (qdF 12 2 x lv (t::r)) (fun _ => .tup []):=by
 have he:=qck (s:=s) hw hl h hx
 simp only[qdF]
 by_cases hb:t.bad=0
 ·have zi:=qaK (s:=s) (a:=0) (c:=12) h hb (qah [x] true) (by simp) (by simp; exact fun e=>hx e.symm)
  simp only[PS,pO,strC,List.map_cons,List.map_nil,List.length_singleton,List.mem_singleton] at zi
  have hnx:nx (t::r)=some t.s:=if_pos hb
  by_cases hxx:t.s=x
  ·by_cases h20:20<lv
   ·rw[if_pos ⟨by rw[hnx,hxx],h20⟩]
    simp only[qb8,if_pos hb]
    have zp:=qau (s:=s) (a:=0) (c:=12) h hb
    have zf:=qgb (s:=s) (T:=T) (i:=i) (a:=0) (c:=12) (k:=kindT t) (x:=qe4 t) (at_:=t.at_) (v:=valT t) (e:=t.bad) (c':=2)
    simp only[PS,pO,ptk,ptD] at zp zf
    have h20':(20:Int)<lv:=by omega
    simp only[hxx,decide_true] at zi
    refine⟨i,?_⟩
    refine qaa (pf:=F270) rfl rfl ?_
    simp[F270,zi,zp,zf,h20',qaf,List.range_succ]
   ·rw[if_neg (fun e=>h20 e.2)]
    have h20' : ¬ (20:Int)<lv:=by omega
    simp only[hxx,decide_true] at zi
    cases hr:qaO 12 x (t::r) with
    | ok u q=>
     rw[hr] at he
     obtain⟨i',a1,a2,z⟩:=he
     refine⟨i',a1,a2,?_⟩
     simp only[PS,pO] at z
     refine qaa (pf:=F270) rfl rfl ?_
     simp[F270,zi,z,h20',List.range_succ]
    | er a c=>
     rw[hr] at he
     obtain⟨i',z⟩:=he
     refine⟨i',?_⟩
     simp only[PS,pO] at z
     refine qaa (pf:=F270) rfl rfl ?_
     simp[F270,zi,z,h20',qaf,List.range_succ]
  ·rw[if_neg (fun e=>hxx (Option.some.inj (hnx.symm.trans e.1)))]
   simp only[hxx,decide_false] at zi
   cases hr:qaO 12 x (t::r) with
   | ok u q=>
    rw[hr] at he
    obtain⟨i',a1,a2,z⟩:=he
    refine⟨i',a1,a2,?_⟩
    simp only[PS,pO] at z
    refine qaa (pf:=F270) rfl rfl ?_
    simp[F270,zi,z,List.range_succ]
   | er a c=>
    rw[hr] at he
    obtain⟨i',z⟩:=he
    refine⟨i',?_⟩
    simp only[PS,pO] at z
    refine qaa (pf:=F270) rfl rfl ?_
    simp[F270,zi,z,qaf,List.range_succ]
 ·have hnx:nx (t::r)=none:=if_neg hb
  rw[if_neg (fun e=>(by rw[hnx] at e; cases e.1))]
  have zi:=qfq (s:=s) (a:=0) (c:=12) h hb (qah [x] true)
  simp only[PS,pO,strC,List.map_cons,List.map_nil,List.length_singleton] at zi
  simp only[qaO]
  rw[if_neg (fun e=>hb e.1)]
  simp only[qb8,if_neg hb]
  refine⟨i,?_⟩
  refine qaa (pf:=F270) rfl rfl ?_
  simp[F270,zi,qaf,List.range_succ]
end
end Go.Pm
end SKk
section SKl
namespace Go.Pm
open F
set_option maxHeartbeats 4000000
attribute [local simp] qa6 qbJ dkey
def fnP:Nat->Nat
 | 1=>279 | 2=>287 | 3=>290 | 4=>292 | 5=>297 | 6=>304 | 7=>308 | _=>309
def clF:Nat->Nat
 | 1=>286 | 2=>289 | 5=>303 | _=>307
def qf7:Nat->List ByteArray
 | 1=>[⟨#[124,124]⟩] | 2=>[⟨#[38,38]⟩] | 5=>[⟨#[43]⟩,⟨#[45]⟩] | _=>[⟨#[42]⟩,⟨#[47]⟩]
def qjn (p:Nat):Prop:=p=1\/p=2\/p=5\/p=6
abbrev CS (s:ByteArray) (T:List Tk) (lv:Int) (i a c:Int):S:=[.cells [.ptr 2 0],.cells [.int lv],pO s 3 (.gsl (ptC T) T.length 5 4) i a c,.map kwM,.tip (ptC T).length]
abbrev BS (s:ByteArray) (T:List Tk) (lv:Int) (i a c:Int):S:=[pO s 3 (.gsl (ptC T) T.length 5 4) i a c,.cells [.ptr 0 0],.cells [.int lv],.map kwM,.tip (ptC T).length]
abbrev ndO (e:E):Ob := .cells [.int e.kind,.int e.num,.str e.str,.dat e.kids]
abbrev nd0:Ob := .cells [.int 0,.int 0,.str ⟨#[]⟩,.dat (.lit (.slice none 0 0))]
abbrev BL (s:ByteArray) (T:List Tk) (lv:Int) (i a c:Int) (e:E):S:=[pO s 3 (.gsl (ptC T) T.length 5 4) i a c,.cells [.ptr 0 0],.cells [.int lv],.map kwM,.tip (ptC T).length,nd0,ndO e]
abbrev bqF (g:Nat) (d:D):Fr:=[(0,.ptr 0 0),(1,.fn g [] [.ptr 1 0,.ptr 2 0]),(2,.dat d),(6,.ptr 5 0),(7,.ptr 6 0)]
section
variable {s:ByteArray} {T:List Tk} {i i':Nat} {lv:Int} {t:Tk} {r:List Tk} {p:Nat}
theorem qnJ (hp:qjn p) {e:E} (z:Z tP (.call (fnP (p+1)) [.ptr 0 0,.int lv] (PS s T i 0 12))=some (.ret e.node (PS s T i' 0 12))):Z tP (.call (clF p) [.ptr 0 0,.ptr 1 0] (CS s T lv i 0 12))=some (.ret e.node (CS s T lv i' 0 12)):=by
 simp only[PS,pO] at z
 rcases hp with rfl | rfl | rfl | rfl
 ·refine qaa (pf:=F286) rfl rfl ?_
  simp only[fnP] at z
  simp[F286,z,List.range_succ]
 ·refine qaa (pf:=F289) rfl rfl ?_
  simp only[fnP] at z
  simp[F289,z,List.range_succ]
 ·refine qaa (pf:=F303) rfl rfl ?_
  simp only[fnP] at z
  simp[F303,z,List.range_succ]
 ·refine qaa (pf:=F307) rfl rfl ?_
  simp only[fnP] at z
  simp[F307,z,List.range_succ]
theorem qlQ (hp:qjn p) {a c:Int} (z:Z tP (.call (fnP (p+1)) [.ptr 0 0,.int lv] (PS s T i 0 12))=some (.ret (qbc c) (PS s T i' a c))):Z tP (.call (clF p) [.ptr 0 0,.ptr 1 0] (CS s T lv i 0 12))=some (.ret (qbc c) (CS s T lv i' a c)):=by
 simp only[PS,pO] at z
 rcases hp with rfl | rfl | rfl | rfl
 ·refine qaa (pf:=F286) rfl rfl ?_
  simp only[fnP] at z
  simp[F286,z,qaf,List.range_succ]
 ·refine qaa (pf:=F289) rfl rfl ?_
  simp only[fnP] at z
  simp[F289,z,qaf,List.range_succ]
 ·refine qaa (pf:=F303) rfl rfl ?_
  simp only[fnP] at z
  simp[F303,z,qaf,List.range_succ]
 ·refine qaa (pf:=F307) rfl rfl ?_
  simp only[fnP] at z
  simp[F307,z,qaf,List.range_succ]
theorem qpn {g:Nat} {d:D} {l:List ByteArray} (hd:RowS d l) (hl:l.length<2 ^ 40) (hn:(⟨#[]⟩:ByteArray)∉l) (h:T.drop i=t::r) (hb:t.bad=0) (hm:t.s∉l) (e:E):Z tP (.loop 5 F285l0 (bqF g d) (BL s T lv i 0 12 e))=some (.out (.exit 0) (bqF g d++[(13,.bool false)]) (BL s T lv i 0 12 e)):=by
 have zi:=qaK (s:=s) (a:=0) (c:=12) h hb hd hl hn
 have ho:=hd.one
 have hcl:=hd.cells
 simp only[PS,pO,hm,decide_false] at zi
 rw[qac]
 simp[qae,qeP,zi,ho,hcl,List.range_succ]
theorem qpo {g:Nat} {d:D} {l:List ByteArray} (hd:RowS d l) (h:T.drop i=t::r) (hb:t.bad≠0) (e:E):Z tP (.loop 5 F285l0 (bqF g d) (BL s T lv i 0 12 e))=some (.out (.pan (.iface 1 (.int t.bad))) ((12,.dat d)::(11,.ptr 0 0)::bqF g d) (BL s T lv i t.at_ t.bad e)):=by
 have zi:=qfq (s:=s) (a:=0) (c:=12) h hb hd
 have ho:=hd.one
 have hcl:=hd.cells
 simp only[PS,pO] at zi
 rw[qac]
 simp[qae,qeP,zi,ho,hcl,qaf,List.range_succ]
theorem qnK {g:Nat} {d:D} {l:List ByteArray} (hd:RowS d l) (hl:l.length<2 ^ 40) (hT:T.length<2 ^ 40) (hn:(⟨#[]⟩:ByteArray)∉l) (h:T.drop i=t::r) (hb:t.bad=0) (hm:t.s∈l) {o:Bop} (ho':t.s=o.str) (e e':E)
  (z:Z tP (.call g [.ptr 0 0,.ptr 1 0] (CS s T lv ((i+1:Nat):Int) 0 12))=some (.ret e'.node (CS s T lv i' 0 12))):Z tP (.loop 5 F285l0 (bqF g d) (BL s T lv i 0 12 e))=Z tP (.loop 5 F285l0 (bqF g d) (BL s T lv i' 0 12 (.bin true o e e'))):=by
 have zi:=qaK (s:=s) (a:=0) (c:=12) h hb hd hl hn
 have zt:=qaH (s:=s) (a:=0) (c:=12) h hb hT
 have ho:=hd.one
 have hcl:=hd.cells
 have htx:=qal hb
 simp only[PS,pO,hm,decide_true] at zi
 simp only[PS,pO,ptk,ptD,htx,ho'] at zt
 simp only[CS,pO] at z
 simp only[Int.natCast_add,Int.cast_ofNat_Int] at z zt
 conv=>lhs; rw[qac]
 simp[qae,qeP,zi,zt,z,ho,hcl,qc5,qa3,qbn,qbN,qa4,still,V.same,List.range_succ]
 rfl
theorem qpp {g:Nat} {d:D} {l:List ByteArray} (hd:RowS d l) (hl:l.length<2 ^ 40) (hT:T.length<2 ^ 40) (hn:(⟨#[]⟩:ByteArray)∉l) (h:T.drop i=t::r) (hb:t.bad=0) (hm:t.s∈l) (e:E) {a c:Int}
  (z:Z tP (.call g [.ptr 0 0,.ptr 1 0] (CS s T lv ((i+1:Nat):Int) 0 12))=some (.ret (qbc c) (CS s T lv i' a c))):Z tP (.loop 5 F285l0 (bqF g d) (BL s T lv i 0 12 e))=some (.out (.pan (.iface 1 (.int c))) [] (BL s T lv i' a c e)):=by
 have zi:=qaK (s:=s) (a:=0) (c:=12) h hb hd hl hn
 have zt:=qaH (s:=s) (a:=0) (c:=12) h hb hT
 have ho:=hd.one
 have hcl:=hd.cells
 simp only[PS,pO,hm,decide_true] at zi
 simp only[PS,pO,ptk,ptD] at zt
 simp only[CS,pO] at z
 simp only[Int.natCast_add,Int.cast_ofNat_Int] at z zt
 rw[qac]
 simp[qae,qeP,zi,zt,z,ho,hcl,qaf,qaz,qc5,qa3,qbn,qbN,qa4,still,V.same,List.range_succ]
end
end Go.Pm
end SKl
section SKm
namespace Go.Pm
open F
set_option maxHeartbeats 4000000
attribute [local simp] qa6 qbJ dkey
theorem qsj {p:Nat} (hp:qjn p) {y:ByteArray} {o:Bop} (h:qkL p y=some o):y=o.str/\y∈qf7 p:=by
 have h1:o.str=y:=by have:=List.find?_some h; simpa using this
 have h2:=List.mem_of_find?_eq_some h
 subst h1
 refine⟨rfl,?_⟩
 rcases hp with rfl | rfl | rfl | rfl<;>simp only[List.mem_cons,List.not_mem_nil,or_false] at h2
 ·subst h2; decide
 ·subst h2; decide
 ·rcases h2 with rfl | rfl<;>decide
 ·rcases h2 with rfl | rfl<;>decide
theorem qsk {p:Nat} (hp:qjn p) {y:ByteArray} (h:qkL p y=none):y∉qf7 p:=by
 have h2:=List.find?_eq_none.1 h
 rcases hp with rfl | rfl | rfl | rfl<;>simp only[List.mem_cons,List.not_mem_nil,or_false] at h2
 ·intro hm
  exact h2 .or rfl (by simpa [qf7,Bop.str,eq_comm] using hm)
 ·intro hm
  exact h2 .and rfl (by simpa [qf7,Bop.str,eq_comm] using hm)
 ·intro hm
  simp only[qf7,List.mem_cons,List.not_mem_nil,or_false] at hm
  rcases hm with rfl | rfl
  ·exact h2 .add (.inl rfl) (by decide)
  ·exact h2 .sub (.inr rfl) (by decide)
 ·intro hm
  simp only[qf7,List.mem_cons,List.not_mem_nil,or_false] at hm
  rcases hm with rfl | rfl
  ·exact h2 .mul (.inl rfl) (by decide)
  ·exact h2 .div (.inr rfl) (by decide)
theorem que {p:Nat} (hp:qjn p):(⟨#[]⟩:ByteArray)∉qf7 p/\(qf7 p).length<2 ^ 40:=by
 rcases hp with rfl | rfl | rfl | rfl<;>exact⟨by decide,by decide⟩
section
variable (s:ByteArray) (T:List Tk)
def ExK (n:Nat):Prop := ∀ (p lv i:Nat) (t:Tk) (r:List Tk) (x:Rz E),1<=p->p<=8->lv<=20->T.drop i=t::r->qao 12 2 true n p lv (t::r)=some x->Out s T (Z tP (.call (fnP p) [.ptr 0 0,.int lv] (PS s T i 0 12))) x E.node
def LoK (n:Nat):Prop := ∀ (p lv i:Nat) (t:Tk) (r:List Tk) (e:E) (x:Rz E),qjn p->lv<=20->T.drop i=t::r->qcx 12 2 true n p lv e (t::r)=some x->match x with
 | .ok e' r' => ∃ i',T.drop i'=r'/\r'≠[]/\Z tP (.loop 5 F285l0 (bqF (clF p) (.sl (strC (qf7 p)) (qf7 p).length true)) (BL s T lv i 0 12 e))=some (.out (.exit 0) (bqF (clF p) (.sl (strC (qf7 p)) (qf7 p).length true)++[(13,.bool false)]) (BL s T lv i' 0 12 e'))
 | .er a c => ∃ (i':Nat) (fr:Fr) (e':E),fr.get 1000000=none/\Z tP (.loop 5 F285l0 (bqF (clF p) (.sl (strC (qf7 p)) (qf7 p).length true)) (BL s T lv i 0 12 e))=some (.out (.pan (.iface 1 (.int c))) fr (BL s T lv i' a c e'))
variable {s:ByteArray} {T:List Tk}
theorem qsl (hw:WfQ T) (hT:T.length<2 ^ 40) {n:Nat} (ihe:ExK s T n) (ihl:LoK s T n):LoK s T (n+1):=by
 intro p lv i t r e x hp hlv h hx
 obtain⟨on,ol⟩:=que hp
 have hd:=qah (qf7 p) true
 have hp2:p≠3/\p≠4/\p≠7/\1<=p/\p<=6:=by rcases hp with rfl | rfl | rfl | rfl<;>omega
 rw[qcx] at hx
 by_cases hb:t.bad=0
 ·have hnx:nx (t::r)=some t.s:=if_pos hb
  rw[hnx] at hx
  simp only at hx
  cases ho:qkL p t.s with
  | none=>
   rw[ho] at hx
   cases hx
   exact⟨i,h,by simp,qpn hd ol on h hb (qsk hp ho) e⟩
  | some o=>
   rw[ho] at hx
   simp only[List.tail_cons] at hx
   obtain⟨q1,q2⟩:=qsj hp ho
   have hne:t.s≠⟨#[]⟩:=fun e=>on (e ▸ q2)
   obtain⟨n1,n2⟩:=hw.next h hb hne
   obtain⟨t',r',hr⟩ : ∃ t' r',r=t'::r':=by cases r with
    | nil=>exact absurd rfl n2
    | cons a b=>exact⟨a,b,rfl⟩
   subst hr
   cases hq:qao 12 2 true n (p+1) lv (t'::r') with
   | none=>rw[hq] at hx; cases hx
   | some y=>
    rw[hq] at hx
    have ho':=ihe (p+1) lv (i+1) t' r' y (by omega) (by omega) hlv n1 hq
    cases y with
    | er a c=>
     simp only[Option.some.injEq] at hx
     subst hx
     obtain⟨i',z⟩:=ho'
     exact⟨i',_,e,rfl,qpp hd ol hT on h hb q2 e (qlQ hp z)⟩
    | ok e' r''=>
     simp only[if_neg hp2.2.1] at hx
     obtain⟨i',a1,a2,z⟩:=ho'
     have zs:=qnK hd ol hT on h hb q2 q1 e e' (qnJ hp z)
     obtain⟨t2,r2,hr2⟩ : ∃ t2 r2,r''=t2::r2:=by cases r'' with
      | nil=>exact absurd rfl a2
      | cons a b=>exact⟨a,b,rfl⟩
     subst hr2
     have:=ihl p lv i' t2 r2 (.bin true o e e') x hp hlv a1 hx
     cases x with
     | ok e3 r3=>
      obtain⟨i3,b1,b2,b3⟩:=this
      exact⟨i3,b1,b2,zs.trans b3⟩
     | er a c=>
      obtain⟨i3,fr,e3,b1,b2⟩:=this
      exact⟨i3,fr,e3,b1,zs.trans b2⟩
 ·have hnx:nx (t::r)=none:=if_neg hb
  rw[hnx] at hx
  simp only at hx
  rw[if_neg (by omega)] at hx
  simp only[qb8,if_neg hb,Option.some.injEq] at hx
  subst hx
  exact⟨i,_,e,rfl,qpo hd h hb e⟩
end
end Go.Pm
end SKm
section SKn
namespace Go.Pm
open F
set_option maxHeartbeats 4000000
attribute [local simp] qa6 qbJ dkey
section
variable {s:ByteArray} {T:List Tk} {lv i i' i2:Nat} {g:Nat} {d:D} {e e':E} {a c:Int}
theorem qwT (ho:V.one (.dat d)=true) (hc:V.cells (.dat d)=[.dat d])
  (z:Z tP (.call g [.ptr 0 0,.ptr 1 0] (CS s T lv i 0 12))=some (.ret e.node (CS s T lv i' 0 12)))
  (zl:Z tP (.loop 5 F285l0 (bqF g d) (BL s T lv i' 0 12 e))=some (.out (.exit 0) (bqF g d++[(13,.bool false)]) (BL s T lv i2 0 12 e'))) :
  Z tP (.call 285 [.ptr 0 0,.fn g [] [.ptr 1 0,.ptr 2 0],.dat d] (BS s T lv i 0 12))=some (.ret e'.node (BS s T lv i2 0 12)):=by
 simp only[CS,BL,pO,ndO] at z zl
 refine qaa (pf:=F285) rfl rfl ?_
 simp[F285,z,zl,ho,hc,List.range_succ]
theorem qt8 (ho:V.one (.dat d)=true) (hc:V.cells (.dat d)=[.dat d])
  (z:Z tP (.call g [.ptr 0 0,.ptr 1 0] (CS s T lv i 0 12))=some (.ret (qbc c) (CS s T lv i' a c))) :
  Z tP (.call 285 [.ptr 0 0,.fn g [] [.ptr 1 0,.ptr 2 0],.dat d] (BS s T lv i 0 12))=some (.ret (qbc c) (BS s T lv i' a c)):=by
 simp only[CS,pO] at z
 refine qaa (pf:=F285) rfl rfl ?_
 simp[F285,z,ho,hc,qaf,List.range_succ]
theorem qt9 (ho:V.one (.dat d)=true) (hc:V.cells (.dat d)=[.dat d]) {fr:Fr} (hf:fr.get 1000000=none)
  (z:Z tP (.call g [.ptr 0 0,.ptr 1 0] (CS s T lv i 0 12))=some (.ret e.node (CS s T lv i' 0 12)))
  (zl:Z tP (.loop 5 F285l0 (bqF g d) (BL s T lv i' 0 12 e))=some (.out (.pan (.iface 1 (.int c))) fr (BL s T lv i2 a c e'))) :
  Z tP (.call 285 [.ptr 0 0,.fn g [] [.ptr 1 0,.ptr 2 0],.dat d] (BS s T lv i 0 12))=some (.ret (qbc c) (BS s T lv i2 a c)):=by
 simp only[CS,BL,pO,ndO] at z zl
 refine qaa (pf:=F285) rfl rfl ?_
 simp[F285,z,zl,ho,hc,hf,List.range_succ]
theorem qwU {p:Nat} (hp:qjn p) (z:Z tP (.call 285 [.ptr 0 0,.fn (clF p) [] [.ptr 1 0,.ptr 2 0],.dat (.sl (strC (qf7 p)) (qf7 p).length true)] (BS s T lv i 0 12))=some (.ret e.node (BS s T lv i' 0 12))) :
  Z tP (.call (fnP p) [.ptr 0 0,.int lv] (PS s T i 0 12))=some (.ret e.node (PS s T i' 0 12)):=by
 simp only[BS,pO] at z
 rcases hp with rfl | rfl | rfl | rfl
 ·refine qaa (pf:=F279) rfl rfl ?_
  simp only[clF,qf7,strC,List.map_cons,List.map_nil,List.length_cons,List.length_nil] at z
  simp[F279,z,List.range_succ]
 ·refine qaa (pf:=F287) rfl rfl ?_
  simp only[clF,qf7,strC,List.map_cons,List.map_nil,List.length_cons,List.length_nil] at z
  simp[F287,z,List.range_succ]
 ·refine qaa (pf:=F297) rfl rfl ?_
  simp only[clF,qf7,strC,List.map_cons,List.map_nil,List.length_cons,List.length_nil] at z
  simp[F297,z,List.range_succ]
 ·refine qaa (pf:=F304) rfl rfl ?_
  simp only[clF,qf7,strC,List.map_cons,List.map_nil,List.length_cons,List.length_nil] at z
  simp[F304,z,List.range_succ]
theorem qua {p:Nat} (hp:qjn p) (z:Z tP (.call 285 [.ptr 0 0,.fn (clF p) [] [.ptr 1 0,.ptr 2 0],.dat (.sl (strC (qf7 p)) (qf7 p).length true)] (BS s T lv i 0 12))=some (.ret (qbc c) (BS s T lv i' a c))) :
  Z tP (.call (fnP p) [.ptr 0 0,.int lv] (PS s T i 0 12))=some (.ret (qbc c) (PS s T i' a c)):=by
 simp only[BS,pO] at z
 rcases hp with rfl | rfl | rfl | rfl
 ·refine qaa (pf:=F279) rfl rfl ?_
  simp only[clF,qf7,strC,List.map_cons,List.map_nil,List.length_cons,List.length_nil] at z
  simp[F279,z,qaf,List.range_succ]
 ·refine qaa (pf:=F287) rfl rfl ?_
  simp only[clF,qf7,strC,List.map_cons,List.map_nil,List.length_cons,List.length_nil] at z
  simp[F287,z,qaf,List.range_succ]
 ·refine qaa (pf:=F297) rfl rfl ?_
  simp only[clF,qf7,strC,List.map_cons,List.map_nil,List.length_cons,List.length_nil] at z
  simp[F297,z,qaf,List.range_succ]
 ·refine qaa (pf:=F304) rfl rfl ?_
  simp only[clF,qf7,strC,List.map_cons,List.map_nil,List.length_cons,List.length_nil] at z
  simp[F304,z,qaf,List.range_succ]
end
section
variable {s:ByteArray} {T:List Tk}
theorem qma {n:Nat} (ihe:ExK s T n) (ihl:LoK s T n) {p lv i:Nat} {t:Tk} {r:List Tk} {x:Rz E} (hp:qjn p) (hlv:lv<=20) (h:T.drop i=t::r) (hx:qao 12 2 true (n+1) p lv (t::r)=some x):Out s T (Z tP (.call (fnP p) [.ptr 0 0,.int lv] (PS s T i 0 12))) x E.node:=by
 have hp2:p≠3/\p≠7/\1<=p/\p<8/\p+1<=8:=by rcases hp with rfl | rfl | rfl | rfl<;>omega
 have hd:=qah (qf7 p) true
 rw[qao,if_neg (by rintro (h | h); exact hp2.1 h.1; exact hp2.2.1 h.1),if_pos hp2.2.2.2.1] at hx
 cases hq:qao 12 2 true n (p+1) lv (t::r) with
 | none=>rw[hq] at hx; cases hx
 | some y=>
  rw[hq] at hx
  have ho:=ihe (p+1) lv i t r y (by omega) hp2.2.2.2.2 hlv h hq
  cases y with
  | er a c=>
   simp only[Option.some.injEq] at hx
   subst hx
   obtain⟨i',z⟩:=ho
   exact⟨i',qua hp (qt8 hd.one hd.cells (qlQ hp z))⟩
  | ok e r'=>
   simp only at hx
   obtain⟨i',a1,a2,z⟩:=ho
   have zc:=qnJ hp z
   obtain⟨t2,r2,hr2⟩ : ∃ t2 r2,r'=t2::r2:=by cases r' with
    | nil=>exact absurd rfl a2
    | cons a b=>exact⟨a,b,rfl⟩
   subst hr2
   have hl:=ihl p lv i' t2 r2 e x hp hlv a1 hx
   cases x with
   | ok e3 r3=>
    obtain⟨i3,b1,b2,b3⟩:=hl
    exact⟨i3,b1,b2,qwU hp (qwT hd.one hd.cells zc b3)⟩
   | er a c=>
    obtain⟨i3,fr,e3,b1,b2⟩:=hl
    exact⟨i3,qua hp (qt9 hd.one hd.cells b1 zc b2)⟩
end
end Go.Pm
end SKn
section SKo
namespace Go.Pm
open F
set_option maxHeartbeats 4000000
attribute [local simp] qa6 qbJ dkey
def ql4:List ByteArray:=[⟨#[60]⟩,⟨#[60,61]⟩,⟨#[62]⟩,⟨#[62,61]⟩,⟨#[61,61]⟩,⟨#[33,61]⟩]
theorem qpK {y:ByteArray} {o:Bop} (h:qkL 4 y=some o):y=o.str/\y∈ql4:=by
 have h1:o.str=y:=by have:=List.find?_some h; simpa using this
 have h2:=List.mem_of_find?_eq_some h
 subst h1
 refine⟨rfl,?_⟩
 simp only[List.mem_cons,List.not_mem_nil,or_false] at h2
 rcases h2 with rfl | rfl | rfl | rfl | rfl | rfl<;>decide
theorem qpL {y:ByteArray} (h:qkL 4 y=none):y∉ql4:=by
 have h2:=List.find?_eq_none.1 h
 intro hm
 simp only[ql4,List.mem_cons,List.not_mem_nil,or_false] at hm
 simp only[List.mem_cons,List.not_mem_nil,or_false] at h2
 rcases hm with rfl | rfl | rfl | rfl | rfl | rfl
 ·exact h2 .lt (by simp) (by decide)
 ·exact h2 .le (by simp) (by decide)
 ·exact h2 .gt (by simp) (by decide)
 ·exact h2 .ge (by simp) (by decide)
 ·exact h2 .eq (by simp) (by decide)
 ·exact h2 .ne (by simp) (by decide)
section
variable {s:ByteArray} {T:List Tk} {lv i i' i2:Nat} {e e':E} {a c:Int} {t:Tk} {r:List Tk}
theorem qtW (z:Z tP (.call 297 [.ptr 0 0,.int lv] (PS s T i 0 12))=some (.ret (qbc c) (PS s T i' a c))):Z tP (.call 292 [.ptr 0 0,.int lv] (PS s T i 0 12))=some (.ret (qbc c) (PS s T i' a c)):=by
 simp only[PS,pO] at z
 refine qaa (pf:=F292) rfl rfl ?_
 simp[F292,z,qaf,List.range_succ]
theorem qvL (z:Z tP (.call 297 [.ptr 0 0,.int lv] (PS s T i 0 12))=some (.ret e.node (PS s T i' 0 12))) (h:T.drop i'=t::r) (hb:t.bad=0) (hm:t.s∉ql4):Z tP (.call 292 [.ptr 0 0,.int lv] (PS s T i 0 12))=some (.ret e.node (PS s T i' 0 12)):=by
 have zi:=qaK (s:=s) (a:=0) (c:=12) h hb (qah ql4 true) (by decide) (by decide)
 simp only[PS,pO] at z
 simp only[hm,decide_false] at zi
 simp only[PS,pO,ql4,strC,List.map_cons,List.map_nil,List.length_cons,List.length_nil] at zi
 refine qaa (pf:=F292) rfl rfl ?_
 simp[F292,z,zi,List.range_succ]
theorem qvM (z:Z tP (.call 297 [.ptr 0 0,.int lv] (PS s T i 0 12))=some (.ret e.node (PS s T i' 0 12))) (h:T.drop i'=t::r) (hb:t.bad≠0):Z tP (.call 292 [.ptr 0 0,.int lv] (PS s T i 0 12))=some (.ret (qbc t.bad) (PS s T i' t.at_ t.bad)):=by
 have zi:=qfq (s:=s) (a:=0) (c:=12) h hb (qah ql4 true)
 simp only[PS,pO] at z
 simp only[PS,pO,ql4,strC,List.map_cons,List.map_nil,List.length_cons,List.length_nil] at zi
 refine qaa (pf:=F292) rfl rfl ?_
 simp[F292,z,zi,qaf,List.range_succ]
theorem qwM (hT:T.length<2 ^ 40) (z:Z tP (.call 297 [.ptr 0 0,.int lv] (PS s T i 0 12))=some (.ret e.node (PS s T i' 0 12))) (h:T.drop i'=t::r) (hb:t.bad=0) (hm:t.s∈ql4) {o:Bop} (hs:t.s=o.str)
  (z2:Z tP (.call 297 [.ptr 0 0,.int lv] (PS s T ((i'+1:Nat):Int) 0 12))=some (.ret e'.node (PS s T i2 0 12))):Z tP (.call 292 [.ptr 0 0,.int lv] (PS s T i 0 12))=some (.ret (E.bin true o e e').node (PS s T i2 0 12)):=by
 have zi:=qaK (s:=s) (a:=0) (c:=12) h hb (qah ql4 true) (by decide) (by decide)
 have zt:=qaH (s:=s) (a:=0) (c:=12) h hb hT
 have htx:=qal hb
 simp only[PS,pO] at z z2
 simp only[hm,decide_true] at zi
 simp only[PS,pO,ql4,strC,List.map_cons,List.map_nil,List.length_cons,List.length_nil] at zi
 simp only[PS,pO,ptk,ptD,htx,hs] at zt
 simp only[Int.natCast_add,Int.cast_ofNat_Int] at z2 zt
 refine qaa (pf:=F292) rfl rfl ?_
 simp[F292,z,zi,zt,z2,qc5,qa3,qbn,qbN,qa4,still,V.same,List.range_succ]
 try rfl
theorem qtX (hT:T.length<2 ^ 40) (z:Z tP (.call 297 [.ptr 0 0,.int lv] (PS s T i 0 12))=some (.ret e.node (PS s T i' 0 12))) (h:T.drop i'=t::r) (hb:t.bad=0) (hm:t.s∈ql4)
  (z2:Z tP (.call 297 [.ptr 0 0,.int lv] (PS s T ((i'+1:Nat):Int) 0 12))=some (.ret (qbc c) (PS s T i2 a c))):Z tP (.call 292 [.ptr 0 0,.int lv] (PS s T i 0 12))=some (.ret (qbc c) (PS s T i2 a c)):=by
 have zi:=qaK (s:=s) (a:=0) (c:=12) h hb (qah ql4 true) (by decide) (by decide)
 have zt:=qaH (s:=s) (a:=0) (c:=12) h hb hT
 simp only[PS,pO] at z z2
 simp only[hm,decide_true] at zi
 simp only[PS,pO,ql4,strC,List.map_cons,List.map_nil,List.length_cons,List.length_nil] at zi
 simp only[PS,pO,ptk,ptD] at zt
 simp only[Int.natCast_add,Int.cast_ofNat_Int] at z2 zt
 refine qaa (pf:=F292) rfl rfl ?_
 simp[F292,z,zi,zt,z2,qaf,qaz,qc5,qa3,qbn,qbN,qa4,still,V.same,List.range_succ]
theorem qtY (hw:WfQ T) (hT:T.length<2 ^ 40) {n:Nat} (ihe:ExK s T n) {x:Rz E} (hlv:lv<=20) (h:T.drop i=t::r) (hx:qao 12 2 true (n+1) 4 lv (t::r)=some x):Out s T (Z tP (.call 292 [.ptr 0 0,.int lv] (PS s T i 0 12))) x E.node:=by
 rw[qao,if_neg (by rintro (h | h); exact absurd h.1 (by decide); exact absurd h.1 (by decide)),if_pos (by decide)] at hx
 cases hq:qao 12 2 true n 5 lv (t::r) with
 | none=>rw[hq] at hx; cases hx
 | some y=>
  rw[hq] at hx
  have ho:=ihe 5 lv i t r y (by omega) (by omega) hlv h hq
  cases y with
  | er a c=>
   simp only[Option.some.injEq] at hx
   subst hx
   obtain⟨i',z⟩:=ho
   exact⟨i',qtW z⟩
  | ok e r'=>
   simp only at hx
   obtain⟨i',a1,a2,z⟩:=ho
   obtain⟨t2,r2,hr2⟩ : ∃ t2 r2,r'=t2::r2:=by cases r' with
    | nil=>exact absurd rfl a2
    | cons a b=>exact⟨a,b,rfl⟩
   subst hr2
   cases n with
   | zero=>simp only[qao] at hq; cases hq
   | succ m=>
    rw[qcx] at hx
    by_cases hb:t2.bad=0
    ·have hnx:nx (t2::r2)=some t2.s:=if_pos hb
     rw[hnx] at hx
     simp only at hx
     cases hop:qkL 4 t2.s with
     | none=>
      rw[hop] at hx
      cases hx
      exact⟨i',a1,a2,qvL z a1 hb (qpL hop)⟩
     | some o=>
      rw[hop] at hx
      simp only[List.tail_cons,if_true] at hx
      obtain⟨q1,q2⟩:=qpK hop
      have hne:t2.s≠⟨#[]⟩:=fun e=>absurd (e ▸ q2) (by decide)
      obtain⟨n1,n2⟩:=hw.next a1 hb hne
      obtain⟨t3,r3,hr3⟩ : ∃ t3 r3,r2=t3::r3:=by cases r2 with
       | nil=>exact absurd rfl n2
       | cons a b=>exact⟨a,b,rfl⟩
      subst hr3
      cases hq2:qao 12 2 true m 5 lv (t3::r3) with
      | none=>rw[hq2] at hx; cases hx
      | some y2=>
       rw[hq2] at hx
       have ho2:=ihe 5 lv (i'+1) t3 r3 y2 (by omega) (by omega) hlv n1 (qa2 hq2 (by omega))
       cases y2 with
       | er a c=>
        simp only[Option.some.injEq] at hx
        subst hx
        obtain⟨i2,z2⟩:=ho2
        exact⟨i2,qtX hT z a1 hb q2 z2⟩
       | ok e2 r4=>
        simp only[Option.some.injEq] at hx
        subst hx
        obtain⟨i2,d1,d2,z2⟩:=ho2
        exact⟨i2,d1,d2,qwM hT z a1 hb q2 q1 z2⟩
    ·have hnx:nx (t2::r2)=none:=if_neg hb
     rw[hnx] at hx
     simp only at hx
     rw[if_neg (by decide)] at hx
     simp only[qb8,if_neg hb,Option.some.injEq] at hx
     subst hx
     exact⟨i',qvM z a1 hb⟩
end
end Go.Pm
end SKo
section SKp
namespace Go.Pm
open F
set_option maxHeartbeats 4000000
attribute [local simp] qa6 qbJ dkey
theorem qnR {t:Tk} (hb:t.bad≠0) (r:List Tk) : ∀ (n p lv:Nat) (x:Rz E),qao 12 2 true n p lv (t::r)=some x->x = .er t.at_ t.bad
 | 0,p,lv,x,h=>by simp[qao] at h
 | n+1,p,lv,x,h=>by
  have hnx:nx (t::r)=none:=if_neg hb
  rw[qao,hnx,if_neg (by rintro (h | h); cases h.2; cases h.2)] at h
  by_cases hp:p<8
  ·rw[if_pos hp] at h
   cases hq:qao 12 2 true n (p+1) lv (t::r) with
   | none=>rw[hq] at h; cases h
   | some y=>
    have:=qnR hb r n (p+1) lv y hq
    rw[hq,this] at h
    simpa using h.symm
  ·rw[if_neg hp] at h
   simp only[qb8,if_neg hb,Option.some.injEq] at h
   exact h.symm
def unF (neg:Bool):Nat:=if neg then 308 else 290
def unG (neg:Bool):Nat:=if neg then 309 else 292
section
variable {s:ByteArray} {T:List Tk} {lv i i' i2:Nat} {e e':E} {a c:Int} {t:Tk} {r:List Tk} {neg:Bool}
theorem qwJ (h:T.drop i=t::r) (hb:t.bad=0) (hm:t.s≠ustr neg) (z:Z tP (.call (unG neg) [.ptr 0 0,.int lv] (PS s T i 0 12))=some (.ret e.node (PS s T i' 0 12))):Z tP (.call (unF neg) [.ptr 0 0,.int lv] (PS s T i 0 12))=some (.ret e.node (PS s T i' 0 12)):=by
 have zi:=qaK (s:=s) (a:=0) (c:=12) h hb (qah [ustr neg] true) (by simp) (by cases neg<;>decide)
 simp only[List.mem_singleton,hm,decide_false] at zi
 simp only[PS,pO] at z
 cases neg
 ·simp only[unG,Bool.false_eq_true,if_false] at z
  simp only[PS,pO,ustr,strC,List.map_cons,List.map_nil,List.length_singleton,Bool.false_eq_true,if_false] at zi
  refine qaa (pf:=F290) rfl rfl ?_
  simp[F290,z,zi,List.range_succ]
 ·simp only[unG,if_true] at z
  simp only[PS,pO,ustr,strC,List.map_cons,List.map_nil,List.length_singleton,if_true] at zi
  refine qaa (pf:=F308) rfl rfl ?_
  simp[F308,z,zi,List.range_succ]
theorem qrH (h:T.drop i=t::r) (hb:t.bad=0) (hm:t.s≠ustr neg) (z:Z tP (.call (unG neg) [.ptr 0 0,.int lv] (PS s T i 0 12))=some (.ret (qbc c) (PS s T i' a c))):Z tP (.call (unF neg) [.ptr 0 0,.int lv] (PS s T i 0 12))=some (.ret (qbc c) (PS s T i' a c)):=by
 have zi:=qaK (s:=s) (a:=0) (c:=12) h hb (qah [ustr neg] true) (by simp) (by cases neg<;>decide)
 simp only[List.mem_singleton,hm,decide_false] at zi
 simp only[PS,pO] at z
 cases neg
 ·simp only[unG,Bool.false_eq_true,if_false] at z
  simp only[PS,pO,ustr,strC,List.map_cons,List.map_nil,List.length_singleton,Bool.false_eq_true,if_false] at zi
  refine qaa (pf:=F290) rfl rfl ?_
  simp[F290,z,zi,qaf,List.range_succ]
 ·simp only[unG,if_true] at z
  simp only[PS,pO,ustr,strC,List.map_cons,List.map_nil,List.length_singleton,if_true] at zi
  refine qaa (pf:=F308) rfl rfl ?_
  simp[F308,z,zi,qaf,List.range_succ]
theorem qvC (h:T.drop i=t::r) (hb:t.bad≠0):Z tP (.call (unF neg) [.ptr 0 0,.int lv] (PS s T i 0 12))=some (.ret (qbc t.bad) (PS s T i t.at_ t.bad)):=by
 have zi:=qfq (s:=s) (a:=0) (c:=12) h hb (qah [ustr neg] true)
 cases neg
 ·simp only[PS,pO,ustr,strC,List.map_cons,List.map_nil,List.length_singleton,Bool.false_eq_true,if_false] at zi
  refine qaa (pf:=F290) rfl rfl ?_
  simp[F290,zi,qaf,List.range_succ]
 ·simp only[PS,pO,ustr,strC,List.map_cons,List.map_nil,List.length_singleton,if_true] at zi
  refine qaa (pf:=F308) rfl rfl ?_
  simp[F308,zi,qaf,List.range_succ]
theorem qtK (hlv:lv<=20) (h:T.drop i=t::r) (hb:t.bad=0) (hm:t.s=ustr neg) (zo:Z tP (.call 270 [.ptr 0 0,.str (ustr neg),.int ((lv+1:Nat):Int)] (PS s T i 0 12))=some (.ret (qbc c) (PS s T i' a c))):Z tP (.call (unF neg) [.ptr 0 0,.int lv] (PS s T i 0 12))=some (.ret (qbc c) (PS s T i' a c)):=by
 have zi:=qaK (s:=s) (a:=0) (c:=12) h hb (qah [ustr neg] true) (by simp) (by cases neg<;>decide)
 have w1:=qag ((lv:Int)+1) (by omega)
 simp only[List.mem_singleton,hm,decide_true] at zi
 simp only[PS,pO] at zo
 simp only[Int.natCast_add,Int.cast_ofNat_Int] at zo
 cases neg
 ·simp only[PS,pO,ustr,strC,List.map_cons,List.map_nil,List.length_singleton,Bool.false_eq_true,if_false] at zi zo
  refine qaa (pf:=F290) rfl rfl ?_
  simp[F290,zo,zi,w1,qaf,List.range_succ]
 ·simp only[PS,pO,ustr,strC,List.map_cons,List.map_nil,List.length_singleton,if_true] at zi zo
  refine qaa (pf:=F308) rfl rfl ?_
  simp[F308,zo,zi,w1,qaf,List.range_succ]
theorem qvD (hlv:lv<=20) (h:T.drop i=t::r) (hb:t.bad=0) (hm:t.s=ustr neg) (zo:Z tP (.call 270 [.ptr 0 0,.str (ustr neg),.int ((lv+1:Nat):Int)] (PS s T i 0 12))=some (.ret (.tup []) (PS s T i' 0 12)))
  (z:Z tP (.call (unF neg) [.ptr 0 0,.int ((lv+1:Nat):Int)] (PS s T i' 0 12))=some (.ret (qbc c) (PS s T i2 a c))):Z tP (.call (unF neg) [.ptr 0 0,.int lv] (PS s T i 0 12))=some (.ret (qbc c) (PS s T i2 a c)):=by
 have zi:=qaK (s:=s) (a:=0) (c:=12) h hb (qah [ustr neg] true) (by simp) (by cases neg<;>decide)
 have w1:=qag ((lv:Int)+1) (by omega)
 simp only[List.mem_singleton,hm,decide_true] at zi
 simp only[PS,pO] at zo z
 simp only[Int.natCast_add,Int.cast_ofNat_Int] at zo z
 cases neg
 ·simp only[PS,pO,unF,ustr,strC,List.map_cons,List.map_nil,List.length_singleton,Bool.false_eq_true,if_false] at zi zo z
  refine qaa (pf:=F290) rfl rfl ?_
  simp[F290,zo,zi,z,w1,qaf,List.range_succ]
 ·simp only[PS,pO,unF,ustr,strC,List.map_cons,List.map_nil,List.length_singleton,if_true] at zi zo z
  refine qaa (pf:=F308) rfl rfl ?_
  simp[F308,zo,zi,z,w1,qaf,List.range_succ]
theorem qwK (hlv:lv<=20) (h:T.drop i=t::r) (hb:t.bad=0) (hm:t.s=ustr neg) (zo:Z tP (.call 270 [.ptr 0 0,.str (ustr neg),.int ((lv+1:Nat):Int)] (PS s T i 0 12))=some (.ret (.tup []) (PS s T i' 0 12)))
  (z:Z tP (.call (unF neg) [.ptr 0 0,.int ((lv+1:Nat):Int)] (PS s T i' 0 12))=some (.ret e.node (PS s T i2 0 12))):Z tP (.call (unF neg) [.ptr 0 0,.int lv] (PS s T i 0 12))=some (.ret (E.un true neg e).node (PS s T i2 0 12)):=by
 have zi:=qaK (s:=s) (a:=0) (c:=12) h hb (qah [ustr neg] true) (by simp) (by cases neg<;>decide)
 have w1:=qag ((lv:Int)+1) (by omega)
 simp only[List.mem_singleton,hm,decide_true] at zi
 simp only[PS,pO] at zo z
 simp only[Int.natCast_add,Int.cast_ofNat_Int] at zo z
 cases neg
 ·simp only[PS,pO,unF,ustr,strC,List.map_cons,List.map_nil,List.length_singleton,Bool.false_eq_true,if_false] at zi zo z
  refine qaa (pf:=F290) rfl rfl ?_
  simp[F290,zo,zi,z,w1,List.range_succ]
  rfl
 ·simp only[PS,pO,unF,ustr,strC,List.map_cons,List.map_nil,List.length_singleton,if_true] at zi zo z
  refine qaa (pf:=F308) rfl rfl ?_
  simp[F308,zo,zi,z,w1,List.range_succ]
  rfl
end
end Go.Pm
end SKp
