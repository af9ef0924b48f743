/- DEV ONLY: prefixes of bodies. Chapter 13's parser: all tokens. Chapter 13's parser: the queue holds the plain tokens. Chapter 13's parser: what it looks at, takes, expects. Chapter 13's parser: words and symbols that it asks for. Chapter 13's parser: expect and open against the plain ones. Chapter 13's parser: operators between operands: a round. Chapter 13's parser: rows of operators against the plain ones. Chapter 13's parser: binary operators. Chapter 13's parser: comparisons. Chapter 13's parser: operators before an operand. Chapter 13's parser: operators before an operand, against the plain ones. Chapter 13's parser: operands and indices: the walks. -/
import Derived.Test.YtjdbkncfebebnaaDoorPmY
import Derived.Test.YtjdbkncfebebnaaDoorPmSd
import Derived.Test.YtjdbkncfebebnaaDoorPmFx
import Derived.Test.YtjdbkncfebebnaaDoorPmEt
set_option linter.unusedSimpArgs false
set_option linter.unusedVariables false
section SDev
namespace Go.Pm
@[simp] def qqY:Nat->PC->PC
 | n+1,.seq a b => .seq a (qqY n b)
 | 0,_ => .skip
 | _,p=>p
end Go.Pm
end SDev
section SKg
namespace Go.Pm
open F
set_option maxHeartbeats 4000000
attribute [local simp] qbb qbP
theorem qjs (s:ByteArray):Z tP (.call 241 [.ptr 0 0] [pO s 1 (.dat (.lit (.slice none 0 0))) 0 0 12,.map kwM])=some (.ret (.fn 249 [] [.ptr 2 0]) [pO s 1 (.dat (.lit (.slice none 0 0))) 0 0 12,.map kwM,.cells [.ptr 0 0]]):=by
 refine qaa (pf:=F241) rfl rfl ?_
 simp[F241,List.range_succ]
abbrev lp8:Ob := .loop ⟨[(2,.ptr 2 0),(3,.ptr 3 0),(4,.ptr 4 0),(5,.ptr 5 0),(19,.fn 249 [] [.ptr 1 0])],[20],F228a0,F228b0,0,none⟩
abbrev TT0 (s:ByteArray):S:=[lp8,.cells [.ptr 6 0],qq8,.cells [.int 0],.cells [.int 0],.cells [.ptr 6 0],pO s 7 (.dat (.lit (.slice none 0 0))) 0 0 12,.map kwM]
abbrev TT1 (s:ByteArray) (cs:List D) (n:Nat):S:=[lp8,.cells [.ptr 6 0],qq8,.cells [.int 0],.cells [.int 0],.cells [.ptr 6 0],pO s 7 (.gsl cs n 5 8) 0 0 12,.map kwM,.tip cs.length]
abbrev lpR:Ob := .loop ⟨[(2,.ptr 1 0),(3,.ptr 2 0),(4,.ptr 3 0),(5,.ptr 4 0),(19,.fn 249 [] [.ptr 5 0])],[20],F228a0,F228b0,0,none⟩
abbrev Q0 (s:ByteArray):S:=[lpR,qq8,.cells [.int 0],.cells [.int 0],.cells [.ptr 6 0],.cells [.ptr 6 0],pO s 7 (.dat (.lit (.slice none 0 0))) 0 0 12,.map kwM]
abbrev Q1 (s:ByteArray) (cs:List D) (n:Nat):S:=[lpR,qq8,.cells [.int 0],.cells [.int 0],.cells [.ptr 6 0],.cells [.ptr 6 0],pO s 7 (.gsl cs n 5 8) 0 0 12,.map kwM,.tip cs.length]
def qf9 (k:Int) (t:ByteArray) (a v c:Int):List D:=[.lit (.int .i64 k),.lit (.string t),.lit (.int .i64 a),.lit (.int .i64 v),.lit (.int .i64 c)]
section
variable {s:ByteArray} {k a v c:Int} {t:ByteArray}
theorem quf:Z tP (.round [.yld 0,ptD k t a v c] (Q0 s))=some (.ret (.bool true) (Q1 s (qf9 k t a v c) 1)):=by
 have r1:qa6 1 48=true:=by simp only[qa6,decide_eq_true_eq]; omega
 rw[qhx]
 simp[qcb,qgI,qgJ,qhG,qhH,qd2,Lp.ended,Ex.isNormal,V.len,qcv,ql0,r1,qf9,dkey,qcX,qa8,List.range_succ]
theorem qug {cs:List D} {n:Nat} (hc:cs.length=n*5) (h0:0<n) (hn:n<2 ^ 30):Z tP (.round [.yld 0,ptD k t a v c] (Q1 s cs n))=some (.ret (.bool true) (Q1 s (cs++qf9 k t a v c) (n+1))):=by
 have r1:qa6 (n+1) 48=true:=by simp only[qa6,decide_eq_true_eq]; omega
 have hne : ¬ n=0:=by omega
 rw[qhx]
 simp[qcb,qgI,qgJ,qhG,qhH,qd2,Lp.ended,Ex.isNormal,V.len,qcv,ql0,r1,hc,hne,qf9,dkey,qcX,qa8,List.range_succ]
end
abbrev tkO (k:Int) (t:ByteArray) (a v c:Int):Ob := .cells [.int k,.str t,.int a,.int v,.int c]
section
variable {s:ByteArray} {i j:Nat} {k a v c:Int} {t:ByteArray}
theorem qn5
  (zs:Z tP (.call 251 [.ptr 0 0,.int i] [pO s 1 (.dat (.lit (.slice none 0 0))) 0 0 12,.map kwM])=some (.ret (.int j) [pO s 1 (.dat (.lit (.slice none 0 0))) 0 0 12,.map kwM]))
  (zc:Z tP (.call 250 [.ptr 0 0,.int j] [pO s 1 (.dat (.lit (.slice none 0 0))) 0 0 12,.map kwM])=some (.ret (ptD k t a v c) [pO s 1 (.dat (.lit (.slice none 0 0))) 0 0 12,.map kwM]))
  (ha:IntKind.i64.wrap (a+t.size)=a+t.size) (h0:decide (k=0)=false) (h6:decide (k=6)=false) :
  Z tP (.loop 8 F249l0 [(0,.yld 0),(1,.ptr 1 0),(3,.int i)] (TT0 s))=Z tP (.loop 8 F249l0 [(0,.yld 0),(1,.ptr 1 0),(3,.int (a+t.size))] (TT1 s (qf9 k t a v c) 1)):=by
 have zr:=quf (s:=s) (k:=k) (a:=a) (v:=v) (c:=c) (t:=t)
 simp only[pO,ptD,qf9] at zs zc zr
 conv=>lhs; rw[qae]
 simp[qag,qex,zs,zc,zr,V.len,ha,h0,h6,qf9,qcX,qa8,List.range_succ]
 exact qbZ (by simp[List.range_succ])
theorem qn6
  (zs:Z tP (.call 251 [.ptr 0 0,.int i] [pO s 1 (.dat (.lit (.slice none 0 0))) 0 0 12,.map kwM])=some (.ret (.int j) [pO s 1 (.dat (.lit (.slice none 0 0))) 0 0 12,.map kwM]))
  (zc:Z tP (.call 250 [.ptr 0 0,.int j] [pO s 1 (.dat (.lit (.slice none 0 0))) 0 0 12,.map kwM])=some (.ret (ptD k t a v c) [pO s 1 (.dat (.lit (.slice none 0 0))) 0 0 12,.map kwM]))
  (h:k=0\/k=6) :
  Z tP (.loop 8 F249l0 [(0,.yld 0),(1,.ptr 1 0),(3,.int i)] (TT0 s))=some (.out .ret [(0,.yld 0),(1,.ptr 1 0),(4,.ptr 8 0),(23,.bool true)] [lp8,.cells [.ptr 6 0],qq8,.cells [.int 0],.cells [.int 0],.cells [.ptr 6 0],pO s 7 (.gsl (qf9 k t a v c) 1 5 9) 0 0 12,.map kwM,tkO k t a v c,.tip 5]):=by
 have zr:=quf (s:=s) (k:=k) (a:=a) (v:=v) (c:=c) (t:=t)
 simp only[pO,ptD,qf9] at zs zc zr
 rw[qae]
 rcases h with rfl | rfl<;>simp[qag,qex,zs,zc,zr,V.len,qf9,qcX,qa8,List.range_succ]
theorem qn7 {cs:List D} {n:Nat} (hc:cs.length=n*5) (hn0:0<n) (hn:n<2 ^ 30)
  (zs:Z tP (.call 251 [.ptr 0 0,.int i] [pO s 1 (.gsl cs n 5 2) 0 0 12,.map kwM,.tip cs.length])=some (.ret (.int j) [pO s 1 (.gsl cs n 5 2) 0 0 12,.map kwM,.tip cs.length]))
  (zc:Z tP (.call 250 [.ptr 0 0,.int j] [pO s 1 (.gsl cs n 5 2) 0 0 12,.map kwM,.tip cs.length])=some (.ret (ptD k t a v c) [pO s 1 (.gsl cs n 5 2) 0 0 12,.map kwM,.tip cs.length]))
  (ha:IntKind.i64.wrap (a+t.size)=a+t.size) (h0:decide (k=0)=false) (h6:decide (k=6)=false) :
  Z tP (.loop 8 F249l0 [(0,.yld 0),(1,.ptr 1 0),(3,.int i)] (TT1 s cs n))=Z tP (.loop 8 F249l0 [(0,.yld 0),(1,.ptr 1 0),(3,.int (a+t.size))] (TT1 s (cs++qf9 k t a v c) (n+1))):=by
 have zr:=qug (s:=s) (k:=k) (a:=a) (v:=v) (c:=c) (t:=t) hc hn0 hn
 simp only[pO,ptD,qf9] at zs zc zr
 conv=>lhs; rw[qae]
 simp[qag,qex,zs,zc,zr,V.len,ha,h0,h6,qf9,qcX,qa8,List.range_succ]
 exact qbZ (by simp[List.range_succ])
theorem qn8 {cs:List D} {n:Nat} (hc:cs.length=n*5) (hn0:0<n) (hn:n<2 ^ 30)
  (zs:Z tP (.call 251 [.ptr 0 0,.int i] [pO s 1 (.gsl cs n 5 2) 0 0 12,.map kwM,.tip cs.length])=some (.ret (.int j) [pO s 1 (.gsl cs n 5 2) 0 0 12,.map kwM,.tip cs.length]))
  (zc:Z tP (.call 250 [.ptr 0 0,.int j] [pO s 1 (.gsl cs n 5 2) 0 0 12,.map kwM,.tip cs.length])=some (.ret (ptD k t a v c) [pO s 1 (.gsl cs n 5 2) 0 0 12,.map kwM,.tip cs.length]))
  (h:k=0\/k=6) :
  Z tP (.loop 8 F249l0 [(0,.yld 0),(1,.ptr 1 0),(3,.int i)] (TT1 s cs n))=some (.out .ret [(0,.yld 0),(1,.ptr 1 0),(4,.ptr 9 0),(23,.bool true)] (TT1 s (cs++qf9 k t a v c) (n+1)++[tkO k t a v c])):=by
 have zr:=qug (s:=s) (k:=k) (a:=a) (v:=v) (c:=c) (t:=t) hc hn0 hn
 simp only[pO,ptD,qf9] at zs zc zr
 rw[qae]
 rcases h with rfl | rfl<;>simp[qag,qex,zs,zc,zr,V.len,qf9,qcX,qa8,List.range_succ]
end
end Go.Pm
end SKg
section SKh
namespace Go.Pm
open F
set_option maxHeartbeats 4000000
attribute [local simp] qbb qbP
abbrev ptT (t:Tk):List D:=qf9 (kindT t) (qeL t) t.at_ (valT t) t.bad
def ptC:List Tk->List D
 | []=>[]
 | t::r=>ptT t++ptC r
theorem qfx (t:Tk):(kindT t=0\/kindT t=6)↔(t.bad≠0\/t.s.size=0):=by
 have he:t.s=⟨#[]⟩↔t.s.size=0:=⟨fun h=>by rw[h]; rfl,fun h=>by
  have:=qdO t.s
  have hb:byl t.s=[]:=List.eq_nil_of_length_eq_zero (by rw[qaP]; exact h)
  rw[hb] at this
  exact this.symm⟩
 unfold kindT
 by_cases hb:t.bad=0
 ·by_cases h0:t.s=⟨#[]⟩
  ·simp[hb,h0]
   rfl
  ·have h0' : ¬ t.s.size=0:=fun h=>h0 (he.2 h)
   simp only[hb,h0,h0',ne_eq,not_true_eq_false,if_false,false_or,or_self,iff_false]
   split<;>(try split)<;>(try split)<;>omega
 ·simp[hb]
theorem qao {t:Tk} (h:t.bad=0):qeL t=t.s:=by unfold qeL; rw[h]; rfl
theorem qoP (s:ByteArray) {i:Nat} (hi:i<=s.size):qgE s (s.size-i) false i=i+qaV false ((byl s).drop i)/\i+qaV false ((byl s).drop i)<=s.size:=by
 refine⟨qiU s _ false i (Nat.le_refl _),?_⟩
 have:=qfz ((byl s).drop i) false
 rw[List.length_drop,qaP] at this
 omega
theorem qli (s:ByteArray) (n:Nat) {i:Nat} (hi:i<=s.size) {t:Tk} (ht:tokAt 12 2 6 s (i+qaV false ((byl s).drop i))=t):qb1 12 2 6 s (n+1) i=if t.bad≠0\/t.s.size=0 then [t] else t::qb1 12 2 6 s n (t.at_+t.s.size):=by
 rw[qb1,(qoP s hi).1,ht]
theorem qpl (s:ByteArray) {i:Nat} (hi:i<=s.size) {t:Tk} (ht:tokAt 12 2 6 s (i+qaV false ((byl s).drop i))=t) (h : ¬ (t.bad≠0\/t.s.size=0)):i<t.at_+t.s.size/\t.at_+t.s.size<=s.size:=by
 obtain⟨_,h2⟩:=qoP s hi
 have hij:i<=i+qaV false ((byl s).drop i):=by omega
 generalize i+qaV false ((byl s).drop i)=j at ht h2 hij
 by_cases hj:j<s.size
 ·have hp:=qjS hj 12 2 6
  have ha:t.at_=j:=by rw[<- ht,qdq]
  rw[ht] at hp
  omega
 ·obtain rfl:j=s.size:=by omega
  have hd:(byl s).drop s.size=[]:=List.drop_eq_nil_of_le (by rw[qaP]; exact Nat.le_refl _)
  exfalso
  apply h
  rw[<- ht,qdq,hd]
  exact .inr rfl
theorem qh2 (s:ByteArray) (hl:s.size<2 ^ 29) : ∀ (n i:Nat) (cs:List D) (m:Nat),s.size-i<n->i<=s.size->0<m->cs.length=m*5->m+(s.size-i)<2 ^ 30 ->
  ∃ k t a v c,Z tP (.loop 8 F249l0 [(0,.yld 0),(1,.ptr 1 0),(3,.int i)] (TT1 s cs m))=some (.out .ret [(0,.yld 0),(1,.ptr 1 0),(4,.ptr 9 0),(23,.bool true)] (TT1 s (cs++ptC (qb1 12 2 6 s n i)) (m+(qb1 12 2 6 s n i).length)++[tkO k t a v c]))
 | 0,i,cs,m,h,_,_,_,_=>by omega
 | n+1,i,cs,m,hn,hi,h0,hc,hm=>by
  obtain⟨j1,j2⟩:=qoP s hi
  have zs:=qmj s (by omega) (LxS.gr cs m cs.length 0 0 12) hi
  have zc:=qo6 s (by omega) (LxS.gr cs m cs.length 0 0 12) j2
  obtain⟨t,ht⟩ : ∃ t,tokAt 12 2 6 s (i+qaV false ((byl s).drop i))=t:=⟨_,rfl⟩
  rw[qli s n hi ht]
  rw[ht] at zc
  by_cases hend:t.bad≠0\/t.s.size=0
  ·rw[if_pos hend]
   have z:=qn8 hc h0 (by omega) zs zc ((qfx t).2 hend)
   simp only[ptC,List.append_nil,List.length_singleton]
   exact⟨_,_,_,_,_,z⟩
  ·rw[if_neg hend]
   obtain⟨q1,q2⟩:=qpl s hi ht hend
   have hb:t.bad=0:=by simp only[not_or,ne_eq,Decidable.not_not] at hend; exact hend.1
   have hk : ¬ (kindT t=0\/kindT t=6):=fun h=>hend ((qfx t).1 h)
   simp only[not_or] at hk
   have z:=qn7 hc h0 (by omega) zs zc (by rw[qao hb,qal _ (by omega)]) (decide_eq_false hk.1) (decide_eq_false hk.2)
   have hT:qf9 (kindT t) t.s t.at_ (valT t) t.bad=ptT t:=by show _=qf9 (kindT t) (qeL t) t.at_ (valT t) t.bad; rw[qao hb]
   rw[qao hb,hT] at z
   obtain⟨k,x,a,v,c,ih⟩:=qh2 s hl n (t.at_+t.s.size) (cs++ptT t) (m+1) (by omega) q2 (by omega) (by rw[List.length_append,hc]; simp only[qf9,List.length_cons,List.length_nil]; omega) (by omega)
   refine⟨k,x,a,v,c,z.trans ?_⟩
   have e1:((t.at_:Int)+t.s.size)=((t.at_+t.s.size:Nat):Int):=by omega
   rw[e1,ih]
   simp only[ptC,List.append_assoc,List.length_cons]
   rw[show m+1+(qb1 12 2 6 s n (t.at_+t.s.size)).length=m+((qb1 12 2 6 s n (t.at_+t.s.size)).length+1) by omega]
theorem qng (s:ByteArray) (hl:s.size<2 ^ 29):Z tP (.call 249 [.yld 0,.ptr 1 0] (TT0 s))=some (.ret (.tup []) (TT1 s (ptC (qhZ s)) (qhZ s).length)):=by
 obtain⟨j1,j2⟩:=qoP s (i:=0) (by omega)
 have zs:=qmj s (by omega) (LxS.nil 0 0 12) (i:=0) (by omega)
 have zc:=qo6 s (by omega) (LxS.nil 0 0 12) j2
 obtain⟨t,ht⟩ : ∃ t,tokAt 12 2 6 s (0+qaV false ((byl s).drop 0))=t:=⟨_,rfl⟩
 have hn:=qli s s.size (i:=0) (by omega) ht
 rw[show qhZ s=qb1 12 2 6 s (s.size+1) 0 from rfl,hn]
 rw[ht] at zc
 by_cases hend:t.bad≠0\/t.s.size=0
 ·rw[if_pos hend]
  have z:=qn6 zs zc ((qfx t).2 hend)
  simp only[Int.natCast_zero] at z
  refine qaa (pf:=F249) rfl rfl ?_
  simp[F249,z,ptC,qf9,List.range_succ]
 ·rw[if_neg hend]
  obtain⟨q1,q2⟩:=qpl s (i:=0) (by omega) ht hend
  have hb:t.bad=0:=by simp only[not_or,ne_eq,Decidable.not_not] at hend; exact hend.1
  have hk : ¬ (kindT t=0\/kindT t=6):=fun h=>hend ((qfx t).1 h)
  simp only[not_or] at hk
  have z:=qn5 zs zc (by rw[qao hb,qal _ (by omega)]) (decide_eq_false hk.1) (decide_eq_false hk.2)
  have hT:qf9 (kindT t) t.s t.at_ (valT t) t.bad=ptT t:=by show _=qf9 (kindT t) (qeL t) t.at_ (valT t) t.bad; rw[qao hb]
  rw[qao hb,hT] at z
  obtain⟨k,x,a,v,c,ih⟩:=qh2 s hl s.size (t.at_+t.s.size) (ptT t) 1 (by omega) q2 (by omega) (by simp only[qf9,List.length_cons,List.length_nil]) (by omega)
  have e1:((t.at_:Int)+t.s.size)=((t.at_+t.s.size:Nat):Int):=by omega
  rw[e1,ih] at z
  simp only[Int.natCast_zero] at z
  have e2:ptT t++ptC (qb1 12 2 6 s s.size (t.at_+t.s.size))=ptC (t::qb1 12 2 6 s s.size (t.at_+t.s.size)):=rfl
  rw[e2] at z
  have e3:1+(qb1 12 2 6 s s.size (t.at_+t.s.size)).length=(t::qb1 12 2 6 s s.size (t.at_+t.s.size)).length:=by rw[List.length_cons]; omega
  rw[e3] at z
  generalize t::qb1 12 2 6 s s.size (t.at_+t.s.size)=T at z ⊢
  refine qaa (pf:=F249) rfl rfl ?_
  simp[F249,z,List.range_succ]
end Go.Pm
end SKh
section SKi
namespace Go.Pm
open F
set_option maxHeartbeats 4000000
attribute [local simp] qbb qbP dkey
abbrev PS (s:ByteArray) (T:List Tk) (i a c:Int):S:=[pO s 1 (.gsl (ptC T) T.length 5 2) i a c,.map kwM,.tip (ptC T).length]
abbrev qbj (c:Int):V := .pan (.iface 1 (.int c))
theorem qkF : ∀ (T:List Tk) (i:Nat),(ptC T).drop (i*5)=ptC (T.drop i)
 | [],i=>by simp[ptC]
 | t::T,0=>by simp
 | t::T,i+1=>by
  rw[show (i+1)*5=i*5+5 by omega]
  simp only[ptC,qf9,List.cons_append,List.nil_append,List.drop_succ_cons]
  exact qkF T i
theorem qmi {T:List Tk} {i:Nat} {t:Tk} {r:List Tk} (h:T.drop i=t::r):qaw (ptC T) (i*5) 5=some [.lit (.int .i64 (kindT t)),.lit (.string (qeL t)),.lit (.int .i64 t.at_),.lit (.int .i64 (valT t)),.lit (.int .i64 t.bad)]:=by
 unfold qaw
 rw[qkF,h]
 simp[ptC,qf9]
section
variable {s:ByteArray} {T:List Tk} {i:Nat} {a c:Int} {t:Tk} {r:List Tk}
theorem qhA (h:T.drop i=t::r):i<T.length:=by
 have:=congrArg List.length h
 rw[List.length_drop,List.length_cons] at this
 omega
theorem qfF {k v e c':Int} {x:ByteArray} {at_:Int}:Z tP (.call 255 [.ptr 0 0,ptD k x at_ v e,.int c'] (PS s T i a c))=some (.ret (qbj c') (PS s T i at_ c')):=by
 refine qaa (pf:=F255) rfl rfl ?_
 simp[F255,List.range_succ]
theorem qav (h:T.drop i=t::r) (hb:t.bad=0):Z tP (.call 252 [.ptr 0 0] (PS s T i a c))=some (.ret (ptk t) (PS s T i a c)):=by
 have hlt:(i:Int)<T.length:=by have:=qhA h; omega
 have hc:=qmi h
 have hk : ¬ kindT t=6:=fun e=>by
  unfold kindT at e
  rw[if_neg (by simp[hb])] at e
  revert e
  split<;>(try split)<;>(try split)<;>omega
 refine qaa (pf:=F252) rfl rfl ?_
 simp[F252,qah,hlt,hc,hk,List.range_succ]
theorem qd8 (h:T.drop i=t::r) (hb:t.bad≠0):Z tP (.call 252 [.ptr 0 0] (PS s T i a c))=some (.ret (qbj t.bad) (PS s T i t.at_ t.bad)):=by
 have hlt:(i:Int)<T.length:=by have:=qhA h; omega
 have hc:=qmi h
 have hk:kindT t=6:=by unfold kindT; rw[if_pos hb]
 have zf:=qfF (s:=s) (T:=T) (i:=i) (a:=a) (c:=c) (k:=6) (x:=qeL t) (at_:=t.at_) (v:=valT t) (e:=t.bad) (c':=t.bad)
 rw[hk] at hc
 simp only[PS,pO,ptD] at zf
 refine qaa (pf:=F252) rfl rfl ?_
 simp[F252,qah,hlt,hc,hk,zf,qaf,List.range_succ]
end
end Go.Pm
end SKi
section SKj
namespace Go.Pm
open F
set_option maxHeartbeats 4000000
attribute [local simp] qbb qbP dkey
def Out {α : Type} (s:ByteArray) (T:List Tk) (res:Option Res) (x:Rz α) (f : α -> V):Prop:=match x with
 | .ok e r => ∃ i',T.drop i'=r/\r≠[]/\res=some (.ret (f e) (PS s T i' 0 12))
 | .er a c => ∃ i':Nat,res=some (.ret (qbj c) (PS s T i' a c))
def WfQ (T:List Tk):Prop := ∀ i t,T.drop i=[t]->t.bad≠0\/t.s=⟨#[]⟩
theorem qnf (s:ByteArray) : ∀ n i,WfQ (qb1 12 2 6 s n i)
 | 0,i,k,t,h=>by
  simp only[qb1] at h
  rcases k with _ | k
  ·simp only[List.drop_zero,List.cons.injEq,and_true] at h
   rw[<- h]; exact .inr rfl
  ·simp at h
 | n+1,i,k,t,h=>by
  rw[qb1] at h
  try simp only at h
  generalize tokAt 12 2 6 s (qgE s (s.size-i) false i)=u at h
  split at h
  ·rename_i hu
   rcases k with _ | k
   ·simp only[List.drop_zero,List.cons.injEq,and_true] at h
    rw[<- h]
    rcases hu with hu | hu
    ·exact .inl hu
    ·exact .inr (by
      have hb:byl u.s=[]:=List.eq_nil_of_length_eq_zero (by rw[qaP]; exact hu)
      have:=qdO u.s
      rw[hb] at this
      exact this.symm)
   ·simp at h
  ·rcases k with _ | k
   ·simp only[List.drop_zero,List.cons.injEq] at h
    have hne:qb1 12 2 6 s n (u.at_+u.s.size)≠[]:=by
     cases n<;>simp only[qb1]
     ·simp
     ·split<;>simp
    exact absurd h.2 hne
   ·rw[List.drop_succ_cons] at h
    exact qnf s n _ k t h
section
variable {s:ByteArray} {T:List Tk} {i:Nat} {a c:Int} {t:Tk} {r:List Tk}
theorem WfQ.next (hw:WfQ T) (h:T.drop i=t::r) (hb:t.bad=0) (hs:t.s≠⟨#[]⟩):T.drop (i+1)=r/\r≠[]:=by
 refine⟨by rw[<- List.drop_drop,h]; rfl,?_⟩
 rintro rfl
 rcases hw i t h with h1 | h1
 ·exact h1 hb
 ·exact hs h1
theorem qdN (hb:t.bad=0):(kindT t=0)=(t.s=⟨#[]⟩):=by
 have:=qfx t
 apply propext
 constructor
 ·intro h
  rcases this.1 (.inl h) with h1 | h1
  ·exact absurd hb h1
  ·have hbl:byl t.s=[]:=List.eq_nil_of_length_eq_zero (by rw[qaP]; exact h1)
   have:=qdO t.s
   rw[hbl] at this
   exact this.symm
 ·intro h
  unfold kindT
  rw[if_neg (by simp[hb]),if_pos h]
theorem qaK (h:T.drop i=t::r) (hb:t.bad=0) {d:D} {l:List ByteArray} (hd:RowS d l) (hl:l.length<2 ^ 40) (hn:(⟨#[]⟩:ByteArray)∉l):Z tP (.call 269 [.ptr 0 0,.dat d] (PS s T i a c))=some (.ret (.bool (decide (t.s∈l))) (PS s T i a c)):=by
 have zp:=qav (s:=s) (a:=a) (c:=c) h hb
 have zc:=qlE hd hl t.s
 have ho:=hd.one
 have hcl:=hd.cells
 have ht:=qao hb
 have hk:=qdN hb
 simp only[PS,pO,ptk,ptD,ht] at zp
 refine qaa (pf:=F269) rfl rfl ?_
 by_cases h0:t.s=⟨#[]⟩
 ·have hk0:decide (kindT t=0)=true:=decide_eq_true (hk.mpr h0)
  have hm:t.s∉l:=by rw[h0]; exact hn
  simp[F269,zp,zc,ho,hcl,hk0,hm,List.range_succ]
 ·have hk0:decide (kindT t=0)=false:=decide_eq_false (fun e=>h0 (hk.mp e))
  simp[F269,zp,zc,ho,hcl,hk0,List.range_succ]
theorem qe2 (h:T.drop i=t::r) (hb:t.bad≠0) {d:D} {l:List ByteArray} (hd:RowS d l):Z tP (.call 269 [.ptr 0 0,.dat d] (PS s T i a c))=some (.ret (qbj t.bad) (PS s T i t.at_ t.bad)):=by
 have zp:=qd8 (s:=s) (a:=a) (c:=c) h hb
 have ho:=hd.one
 have hcl:=hd.cells
 simp only[PS,pO] at zp
 refine qaa (pf:=F269) rfl rfl ?_
 simp[F269,zp,ho,hcl,qaf,List.range_succ]
theorem qaI (h:T.drop i=t::r) (hb:t.bad=0) (hl:T.length<2 ^ 40):Z tP (.call 277 [.ptr 0 0] (PS s T i a c))=some (.ret (ptk t) (PS s T ((i+1:Nat):Int) a c)):=by
 have zp:=qav (s:=s) (a:=a) (c:=c) h hb
 have hlt:=qhA h
 have w1:=qal ((i:Int)+1) (by omega)
 simp only[PS,pO,ptk,ptD] at zp
 refine qaa (pf:=F277) rfl rfl ?_
 simp[F277,zp,w1,List.range_succ]
theorem qfO (h:T.drop i=t::r) (hb:t.bad=0) (hl:T.length<2 ^ 40) (hx:t.s≠⟨#[]⟩):Z tP (.call 253 [.ptr 0 0,.str t.s] (PS s T i a c))=some (.ret (.tup []) (PS s T ((i+1:Nat):Int) a c)):=by
 have zi:=qaK (s:=s) (a:=a) (c:=c) h hb (qai [t.s] true) (by simp) (by simp; exact fun e=>hx e.symm)
 have hlt:=qhA h
 have w1:=qal ((i:Int)+1) (by omega)
 simp only[PS,pO,qaZ,List.map_cons,List.map_nil,List.length_singleton,List.mem_singleton,decide_true] at zi
 refine qaa (pf:=F253) rfl rfl ?_
 simp[F253,zi,w1,List.range_succ]
theorem qlR (h:T.drop i=t::r) (hb:t.bad=0) {x:ByteArray} (hx:x≠⟨#[]⟩) (hne:t.s≠x):Z tP (.call 253 [.ptr 0 0,.str x] (PS s T i a c))=some (.ret (qbj 12) (PS s T i t.at_ 12)):=by
 have zi:=qaK (s:=s) (a:=a) (c:=c) h hb (qai [x] true) (by simp) (by simp; exact fun e=>hx e.symm)
 have zp:=qav (s:=s) (a:=a) (c:=c) h hb
 have zf:=qfF (s:=s) (T:=T) (i:=i) (a:=a) (c:=c) (k:=kindT t) (x:=qeL t) (at_:=t.at_) (v:=valT t) (e:=t.bad) (c':=12)
 simp only[PS,pO,qaZ,List.map_cons,List.map_nil,List.length_singleton,List.mem_singleton,hne,decide_false] at zi
 simp only[PS,pO,ptk,ptD] at zp zf
 refine qaa (pf:=F253) rfl rfl ?_
 simp[F253,zi,zp,zf,qaf,List.range_succ]
theorem qkn (h:T.drop i=t::r) (hb:t.bad≠0) {x:ByteArray}:Z tP (.call 253 [.ptr 0 0,.str x] (PS s T i a c))=some (.ret (qbj t.bad) (PS s T i t.at_ t.bad)):=by
 have zi:=qe2 (s:=s) (a:=a) (c:=c) h hb (qai [x] true)
 simp only[PS,pO,qaZ,List.map_cons,List.map_nil,List.length_singleton] at zi
 refine qaa (pf:=F253) rfl rfl ?_
 simp[F253,zi,qaf,List.range_succ]
end
end Go.Pm
end SKj
section SKk
namespace Go.Pm
open F
set_option maxHeartbeats 4000000
attribute [local simp] qbb qbP dkey
section
variable {s:ByteArray} {T:List Tk} {i:Nat} {t:Tk} {r:List Tk}
theorem qch (hw:WfQ T) (hl:T.length<2 ^ 40) (h:T.drop i=t::r) {x:ByteArray} (hx:x≠⟨#[]⟩):Out s T (Z tP (.call 253 [.ptr 0 0,.str x] (PS s T i 0 12))) (qax 12 x (t::r)) (fun _ => .tup []):=by
 simp only[qax]
 by_cases hb:t.bad=0
 ·by_cases he:t.s=x
  ·rw[if_pos ⟨hb,he⟩]
   subst he
   obtain⟨n1,n2⟩:=hw.next h hb hx
   exact⟨i+1,n1,n2,qfO h hb hl hx⟩
  ·rw[if_neg (fun e=>he e.2)]
   simp only[failP,if_pos hb]
   exact⟨i,qlR h hb hx he⟩
 ·rw[if_neg (fun e=>hb e.1)]
  simp only[failP,if_neg hb]
  exact⟨i,qkn h hb⟩
theorem qgm (hw:WfQ T) (hl:T.length<2 ^ 40) (h:T.drop i=t::r) {x:ByteArray} (hx:x≠⟨#[]⟩) {lv:Nat}:Out s T (Z tP (.call 270 [.ptr 0 0,.str x,.int lv] (PS s T i 0 12))) (qcr 12 2 x lv (t::r)) (fun _ => .tup []):=by
 have he:=qch (s:=s) hw hl h hx
 simp only[qcr]
 by_cases hb:t.bad=0
 ·have zi:=qaK (s:=s) (a:=0) (c:=12) h hb (qai [x] true) (by simp) (by simp; exact fun e=>hx e.symm)
  simp only[PS,pO,qaZ,List.map_cons,List.map_nil,List.length_singleton,List.mem_singleton] at zi
  have hnx:nx (t::r)=some t.s:=if_pos hb
  by_cases hxx:t.s=x
  ·by_cases h20:20<lv
   ·rw[if_pos ⟨by rw[hnx,hxx],h20⟩]
    simp only[failP,if_pos hb]
    have zp:=qav (s:=s) (a:=0) (c:=12) h hb
    have zf:=qfF (s:=s) (T:=T) (i:=i) (a:=0) (c:=12) (k:=kindT t) (x:=qeL t) (at_:=t.at_) (v:=valT t) (e:=t.bad) (c':=2)
    simp only[PS,pO,ptk,ptD] at zp zf
    have h20':(20:Int)<lv:=by omega
    simp only[hxx,decide_true] at zi
    refine⟨i,?_⟩
    refine qaa (pf:=F270) rfl rfl ?_
    simp[F270,zi,zp,zf,h20',qaf,List.range_succ]
   ·rw[if_neg (fun e=>h20 e.2)]
    have h20' : ¬ (20:Int)<lv:=by omega
    simp only[hxx,decide_true] at zi
    cases hr:qax 12 x (t::r) with
    | ok u q=>
     rw[hr] at he
     obtain⟨i',a1,a2,z⟩:=he
     refine⟨i',a1,a2,?_⟩
     simp only[PS,pO] at z
     refine qaa (pf:=F270) rfl rfl ?_
     simp[F270,zi,z,h20',List.range_succ]
    | er a c=>
     rw[hr] at he
     obtain⟨i',z⟩:=he
     refine⟨i',?_⟩
     simp only[PS,pO] at z
     refine qaa (pf:=F270) rfl rfl ?_
     simp[F270,zi,z,h20',qaf,List.range_succ]
  ·rw[if_neg (fun e=>hxx (Option.some.inj (hnx.symm.trans e.1)))]
   simp only[hxx,decide_false] at zi
   cases hr:qax 12 x (t::r) with
   | ok u q=>
    rw[hr] at he
    obtain⟨i',a1,a2,z⟩:=he
    refine⟨i',a1,a2,?_⟩
    simp only[PS,pO] at z
    refine qaa (pf:=F270) rfl rfl ?_
    simp[F270,zi,z,List.range_succ]
   | er a c=>
    rw[hr] at he
    obtain⟨i',z⟩:=he
    refine⟨i',?_⟩
    simp only[PS,pO] at z
    refine qaa (pf:=F270) rfl rfl ?_
    simp[F270,zi,z,qaf,List.range_succ]
 ·have hnx:nx (t::r)=none:=if_neg hb
  rw[if_neg (fun e=>(by rw[hnx] at e; cases e.1))]
  have zi:=qe2 (s:=s) (a:=0) (c:=12) h hb (qai [x] true)
  simp only[PS,pO,qaZ,List.map_cons,List.map_nil,List.length_singleton] at zi
  simp only[qax]
  rw[if_neg (fun e=>hb e.1)]
  simp only[failP,if_neg hb]
  refine⟨i,?_⟩
  refine qaa (pf:=F270) rfl rfl ?_
  simp[F270,zi,qaf,List.range_succ]
end
end Go.Pm
end SKk
section SKl
namespace Go.Pm
open F
set_option maxHeartbeats 4000000
attribute [local simp] qbb qbP dkey
def fnP:Nat->Nat
 | 1=>279 | 2=>287 | 3=>290 | 4=>292 | 5=>297 | 6=>304 | 7=>308 | _=>309
def clF:Nat->Nat
 | 1=>286 | 2=>289 | 5=>303 | _=>307
def qfB:Nat->List ByteArray
 | 1=>[⟨#[124,124]⟩] | 2=>[⟨#[38,38]⟩] | 5=>[⟨#[43]⟩,⟨#[45]⟩] | _=>[⟨#[42]⟩,⟨#[47]⟩]
def qiE (p:Nat):Prop:=p=1\/p=2\/p=5\/p=6
abbrev CS (s:ByteArray) (T:List Tk) (lv:Int) (i a c:Int):S:=[.cells [.ptr 2 0],.cells [.int lv],pO s 3 (.gsl (ptC T) T.length 5 4) i a c,.map kwM,.tip (ptC T).length]
abbrev BS (s:ByteArray) (T:List Tk) (lv:Int) (i a c:Int):S:=[pO s 3 (.gsl (ptC T) T.length 5 4) i a c,.cells [.ptr 0 0],.cells [.int lv],.map kwM,.tip (ptC T).length]
abbrev ndO (e:E):Ob := .cells [.int e.kind,.int e.num,.str e.str,.dat e.kids]
abbrev nd0:Ob := .cells [.int 0,.int 0,.str ⟨#[]⟩,.dat (.lit (.slice none 0 0))]
abbrev BL (s:ByteArray) (T:List Tk) (lv:Int) (i a c:Int) (e:E):S:=[pO s 3 (.gsl (ptC T) T.length 5 4) i a c,.cells [.ptr 0 0],.cells [.int lv],.map kwM,.tip (ptC T).length,nd0,ndO e]
abbrev bqF (g:Nat) (d:D):Fr:=[(0,.ptr 0 0),(1,.fn g [] [.ptr 1 0,.ptr 2 0]),(2,.dat d),(6,.ptr 5 0),(7,.ptr 6 0)]
section
variable {s:ByteArray} {T:List Tk} {i i':Nat} {lv:Int} {t:Tk} {r:List Tk} {p:Nat}
theorem qmQ (hp:qiE p) {e:E} (z:Z tP (.call (fnP (p+1)) [.ptr 0 0,.int lv] (PS s T i 0 12))=some (.ret e.node (PS s T i' 0 12))):Z tP (.call (clF p) [.ptr 0 0,.ptr 1 0] (CS s T lv i 0 12))=some (.ret e.node (CS s T lv i' 0 12)):=by
 simp only[PS,pO] at z
 rcases hp with rfl | rfl | rfl | rfl
 ·refine qaa (pf:=F286) rfl rfl ?_
  simp only[fnP] at z
  simp[F286,z,List.range_succ]
 ·refine qaa (pf:=F289) rfl rfl ?_
  simp only[fnP] at z
  simp[F289,z,List.range_succ]
 ·refine qaa (pf:=F303) rfl rfl ?_
  simp only[fnP] at z
  simp[F303,z,List.range_succ]
 ·refine qaa (pf:=F307) rfl rfl ?_
  simp only[fnP] at z
  simp[F307,z,List.range_succ]
theorem qk0 (hp:qiE p) {a c:Int} (z:Z tP (.call (fnP (p+1)) [.ptr 0 0,.int lv] (PS s T i 0 12))=some (.ret (qbj c) (PS s T i' a c))):Z tP (.call (clF p) [.ptr 0 0,.ptr 1 0] (CS s T lv i 0 12))=some (.ret (qbj c) (CS s T lv i' a c)):=by
 simp only[PS,pO] at z
 rcases hp with rfl | rfl | rfl | rfl
 ·refine qaa (pf:=F286) rfl rfl ?_
  simp only[fnP] at z
  simp[F286,z,qaf,List.range_succ]
 ·refine qaa (pf:=F289) rfl rfl ?_
  simp only[fnP] at z
  simp[F289,z,qaf,List.range_succ]
 ·refine qaa (pf:=F303) rfl rfl ?_
  simp only[fnP] at z
  simp[F303,z,qaf,List.range_succ]
 ·refine qaa (pf:=F307) rfl rfl ?_
  simp only[fnP] at z
  simp[F307,z,qaf,List.range_succ]
theorem qoq {g:Nat} {d:D} {l:List ByteArray} (hd:RowS d l) (hl:l.length<2 ^ 40) (hn:(⟨#[]⟩:ByteArray)∉l) (h:T.drop i=t::r) (hb:t.bad=0) (hm:t.s∉l) (e:E):Z tP (.loop 5 F285l0 (bqF g d) (BL s T lv i 0 12 e))=some (.out (.exit 0) (bqF g d++[(13,.bool false)]) (BL s T lv i 0 12 e)):=by
 have zi:=qaK (s:=s) (a:=0) (c:=12) h hb hd hl hn
 have ho:=hd.one
 have hcl:=hd.cells
 simp only[PS,pO,hm,decide_false] at zi
 rw[qae]
 simp[qag,qez,zi,ho,hcl,List.range_succ]
theorem qor {g:Nat} {d:D} {l:List ByteArray} (hd:RowS d l) (h:T.drop i=t::r) (hb:t.bad≠0) (e:E):Z tP (.loop 5 F285l0 (bqF g d) (BL s T lv i 0 12 e))=some (.out (.pan (.iface 1 (.int t.bad))) ((12,.dat d)::(11,.ptr 0 0)::bqF g d) (BL s T lv i t.at_ t.bad e)):=by
 have zi:=qe2 (s:=s) (a:=0) (c:=12) h hb hd
 have ho:=hd.one
 have hcl:=hd.cells
 simp only[PS,pO] at zi
 rw[qae]
 simp[qag,qez,zi,ho,hcl,qaf,List.range_succ]
theorem qmR {g:Nat} {d:D} {l:List ByteArray} (hd:RowS d l) (hl:l.length<2 ^ 40) (hT:T.length<2 ^ 40) (hn:(⟨#[]⟩:ByteArray)∉l) (h:T.drop i=t::r) (hb:t.bad=0) (hm:t.s∈l) {o:Bop} (ho':t.s=o.str) (e e':E)
  (z:Z tP (.call g [.ptr 0 0,.ptr 1 0] (CS s T lv ((i+1:Nat):Int) 0 12))=some (.ret e'.node (CS s T lv i' 0 12))):Z tP (.loop 5 F285l0 (bqF g d) (BL s T lv i 0 12 e))=Z tP (.loop 5 F285l0 (bqF g d) (BL s T lv i' 0 12 (.bin true o e e'))):=by
 have zi:=qaK (s:=s) (a:=0) (c:=12) h hb hd hl hn
 have zt:=qaI (s:=s) (a:=0) (c:=12) h hb hT
 have ho:=hd.one
 have hcl:=hd.cells
 have htx:=qao hb
 simp only[PS,pO,hm,decide_true] at zi
 simp only[PS,pO,ptk,ptD,htx,ho'] at zt
 simp only[CS,pO] at z
 simp only[Int.natCast_add,Int.cast_ofNat_Int] at z zt
 conv=>lhs; rw[qae]
 simp[qag,qez,zi,zt,z,ho,hcl,qcX,qa8,qbw,qbS,qa9,still,V.same,List.range_succ]
 rfl
theorem qos {g:Nat} {d:D} {l:List ByteArray} (hd:RowS d l) (hl:l.length<2 ^ 40) (hT:T.length<2 ^ 40) (hn:(⟨#[]⟩:ByteArray)∉l) (h:T.drop i=t::r) (hb:t.bad=0) (hm:t.s∈l) (e:E) {a c:Int}
  (z:Z tP (.call g [.ptr 0 0,.ptr 1 0] (CS s T lv ((i+1:Nat):Int) 0 12))=some (.ret (qbj c) (CS s T lv i' a c))):Z tP (.loop 5 F285l0 (bqF g d) (BL s T lv i 0 12 e))=some (.out (.pan (.iface 1 (.int c))) [] (BL s T lv i' a c e)):=by
 have zi:=qaK (s:=s) (a:=0) (c:=12) h hb hd hl hn
 have zt:=qaI (s:=s) (a:=0) (c:=12) h hb hT
 have ho:=hd.one
 have hcl:=hd.cells
 simp only[PS,pO,hm,decide_true] at zi
 simp only[PS,pO,ptk,ptD] at zt
 simp only[CS,pO] at z
 simp only[Int.natCast_add,Int.cast_ofNat_Int] at z zt
 rw[qae]
 simp[qag,qez,zi,zt,z,ho,hcl,qaf,qaC,qcX,qa8,qbw,qbS,qa9,still,V.same,List.range_succ]
end
end Go.Pm
end SKl
section SKm
namespace Go.Pm
open F
set_option maxHeartbeats 4000000
attribute [local simp] qbb qbP dkey
theorem qq0 {p:Nat} (hp:qiE p) {y:ByteArray} {o:Bop} (h:qlu p y=some o):y=o.str/\y∈qfB p:=by
 have h1:o.str=y:=by have:=List.find?_some h; simpa using this
 have h2:=List.mem_of_find?_eq_some h
 subst h1
 refine⟨rfl,?_⟩
 rcases hp with rfl | rfl | rfl | rfl<;>simp only[List.mem_cons,List.not_mem_nil,or_false] at h2
 ·subst h2; decide
 ·subst h2; decide
 ·rcases h2 with rfl | rfl<;>decide
 ·rcases h2 with rfl | rfl<;>decide
theorem qq1 {p:Nat} (hp:qiE p) {y:ByteArray} (h:qlu p y=none):y∉qfB p:=by
 have h2:=List.find?_eq_none.1 h
 rcases hp with rfl | rfl | rfl | rfl<;>simp only[List.mem_cons,List.not_mem_nil,or_false] at h2
 ·intro hm
  exact h2 .or rfl (by simpa [qfB,Bop.str,eq_comm] using hm)
 ·intro hm
  exact h2 .and rfl (by simpa [qfB,Bop.str,eq_comm] using hm)
 ·intro hm
  simp only[qfB,List.mem_cons,List.not_mem_nil,or_false] at hm
  rcases hm with rfl | rfl
  ·exact h2 .add (.inl rfl) (by decide)
  ·exact h2 .sub (.inr rfl) (by decide)
 ·intro hm
  simp only[qfB,List.mem_cons,List.not_mem_nil,or_false] at hm
  rcases hm with rfl | rfl
  ·exact h2 .mul (.inl rfl) (by decide)
  ·exact h2 .div (.inr rfl) (by decide)
theorem qsF {p:Nat} (hp:qiE p):(⟨#[]⟩:ByteArray)∉qfB p/\(qfB p).length<2 ^ 40:=by
 rcases hp with rfl | rfl | rfl | rfl<;>exact⟨by decide,by decide⟩
section
variable (s:ByteArray) (T:List Tk)
def ExK (n:Nat):Prop := ∀ (p lv i:Nat) (t:Tk) (r:List Tk) (x:Rz E),1<=p->p<=8->lv<=20->T.drop i=t::r->qaq 12 2 true n p lv (t::r)=some x->Out s T (Z tP (.call (fnP p) [.ptr 0 0,.int lv] (PS s T i 0 12))) x E.node
def LoK (n:Nat):Prop := ∀ (p lv i:Nat) (t:Tk) (r:List Tk) (e:E) (x:Rz E),qiE p->lv<=20->T.drop i=t::r->qcZ 12 2 true n p lv e (t::r)=some x->match x with
 | .ok e' r' => ∃ i',T.drop i'=r'/\r'≠[]/\Z tP (.loop 5 F285l0 (bqF (clF p) (.sl (qaZ (qfB p)) (qfB p).length true)) (BL s T lv i 0 12 e))=some (.out (.exit 0) (bqF (clF p) (.sl (qaZ (qfB p)) (qfB p).length true)++[(13,.bool false)]) (BL s T lv i' 0 12 e'))
 | .er a c => ∃ (i':Nat) (fr:Fr) (e':E),fr.get 1000000=none/\Z tP (.loop 5 F285l0 (bqF (clF p) (.sl (qaZ (qfB p)) (qfB p).length true)) (BL s T lv i 0 12 e))=some (.out (.pan (.iface 1 (.int c))) fr (BL s T lv i' a c e'))
variable {s:ByteArray} {T:List Tk}
theorem qq2 (hw:WfQ T) (hT:T.length<2 ^ 40) {n:Nat} (ihe:ExK s T n) (ihl:LoK s T n):LoK s T (n+1):=by
 intro p lv i t r e x hp hlv h hx
 obtain⟨on,ol⟩:=qsF hp
 have hd:=qai (qfB p) true
 have hp2:p≠3/\p≠4/\p≠7/\1<=p/\p<=6:=by rcases hp with rfl | rfl | rfl | rfl<;>omega
 rw[qcZ] at hx
 by_cases hb:t.bad=0
 ·have hnx:nx (t::r)=some t.s:=if_pos hb
  rw[hnx] at hx
  simp only at hx
  cases ho:qlu p t.s with
  | none=>
   rw[ho] at hx
   cases hx
   exact⟨i,h,by simp,qoq hd ol on h hb (qq1 hp ho) e⟩
  | some o=>
   rw[ho] at hx
   simp only[List.tail_cons] at hx
   obtain⟨q1,q2⟩:=qq0 hp ho
   have hne:t.s≠⟨#[]⟩:=fun e=>on (e ▸ q2)
   obtain⟨n1,n2⟩:=hw.next h hb hne
   obtain⟨t',r',hr⟩ : ∃ t' r',r=t'::r':=by cases r with
    | nil=>exact absurd rfl n2
    | cons a b=>exact⟨a,b,rfl⟩
   subst hr
   cases hq:qaq 12 2 true n (p+1) lv (t'::r') with
   | none=>rw[hq] at hx; cases hx
   | some y=>
    rw[hq] at hx
    have ho':=ihe (p+1) lv (i+1) t' r' y (by omega) (by omega) hlv n1 hq
    cases y with
    | er a c=>
     simp only[Option.some.injEq] at hx
     subst hx
     obtain⟨i',z⟩:=ho'
     exact⟨i',_,e,rfl,qos hd ol hT on h hb q2 e (qk0 hp z)⟩
    | ok e' r''=>
     simp only[if_neg hp2.2.1] at hx
     obtain⟨i',a1,a2,z⟩:=ho'
     have zs:=qmR hd ol hT on h hb q2 q1 e e' (qmQ hp z)
     obtain⟨t2,r2,hr2⟩ : ∃ t2 r2,r''=t2::r2:=by cases r'' with
      | nil=>exact absurd rfl a2
      | cons a b=>exact⟨a,b,rfl⟩
     subst hr2
     have:=ihl p lv i' t2 r2 (.bin true o e e') x hp hlv a1 hx
     cases x with
     | ok e3 r3=>
      obtain⟨i3,b1,b2,b3⟩:=this
      exact⟨i3,b1,b2,zs.trans b3⟩
     | er a c=>
      obtain⟨i3,fr,e3,b1,b2⟩:=this
      exact⟨i3,fr,e3,b1,zs.trans b2⟩
 ·have hnx:nx (t::r)=none:=if_neg hb
  rw[hnx] at hx
  simp only at hx
  rw[if_neg (by omega)] at hx
  simp only[failP,if_neg hb,Option.some.injEq] at hx
  subst hx
  exact⟨i,_,e,rfl,qor hd h hb e⟩
end
end Go.Pm
end SKm
section SKn
namespace Go.Pm
open F
set_option maxHeartbeats 4000000
attribute [local simp] qbb qbP dkey
section
variable {s:ByteArray} {T:List Tk} {lv i i' i2:Nat} {g:Nat} {d:D} {e e':E} {a c:Int}
theorem quR (ho:V.one (.dat d)=true) (hc:V.cells (.dat d)=[.dat d])
  (z:Z tP (.call g [.ptr 0 0,.ptr 1 0] (CS s T lv i 0 12))=some (.ret e.node (CS s T lv i' 0 12)))
  (zl:Z tP (.loop 5 F285l0 (bqF g d) (BL s T lv i' 0 12 e))=some (.out (.exit 0) (bqF g d++[(13,.bool false)]) (BL s T lv i2 0 12 e'))) :
  Z tP (.call 285 [.ptr 0 0,.fn g [] [.ptr 1 0,.ptr 2 0],.dat d] (BS s T lv i 0 12))=some (.ret e'.node (BS s T lv i2 0 12)):=by
 simp only[CS,BL,pO,ndO] at z zl
 refine qaa (pf:=F285) rfl rfl ?_
 simp[F285,z,zl,ho,hc,List.range_succ]
theorem qsC (ho:V.one (.dat d)=true) (hc:V.cells (.dat d)=[.dat d])
  (z:Z tP (.call g [.ptr 0 0,.ptr 1 0] (CS s T lv i 0 12))=some (.ret (qbj c) (CS s T lv i' a c))) :
  Z tP (.call 285 [.ptr 0 0,.fn g [] [.ptr 1 0,.ptr 2 0],.dat d] (BS s T lv i 0 12))=some (.ret (qbj c) (BS s T lv i' a c)):=by
 simp only[CS,pO] at z
 refine qaa (pf:=F285) rfl rfl ?_
 simp[F285,z,ho,hc,qaf,List.range_succ]
theorem qsD (ho:V.one (.dat d)=true) (hc:V.cells (.dat d)=[.dat d]) {fr:Fr} (hf:fr.get 1000000=none)
  (z:Z tP (.call g [.ptr 0 0,.ptr 1 0] (CS s T lv i 0 12))=some (.ret e.node (CS s T lv i' 0 12)))
  (zl:Z tP (.loop 5 F285l0 (bqF g d) (BL s T lv i' 0 12 e))=some (.out (.pan (.iface 1 (.int c))) fr (BL s T lv i2 a c e'))) :
  Z tP (.call 285 [.ptr 0 0,.fn g [] [.ptr 1 0,.ptr 2 0],.dat d] (BS s T lv i 0 12))=some (.ret (qbj c) (BS s T lv i2 a c)):=by
 simp only[CS,BL,pO,ndO] at z zl
 refine qaa (pf:=F285) rfl rfl ?_
 simp[F285,z,zl,ho,hc,hf,List.range_succ]
theorem quS {p:Nat} (hp:qiE p) (z:Z tP (.call 285 [.ptr 0 0,.fn (clF p) [] [.ptr 1 0,.ptr 2 0],.dat (.sl (qaZ (qfB p)) (qfB p).length true)] (BS s T lv i 0 12))=some (.ret e.node (BS s T lv i' 0 12))) :
  Z tP (.call (fnP p) [.ptr 0 0,.int lv] (PS s T i 0 12))=some (.ret e.node (PS s T i' 0 12)):=by
 simp only[BS,pO] at z
 rcases hp with rfl | rfl | rfl | rfl
 ·refine qaa (pf:=F279) rfl rfl ?_
  simp only[clF,qfB,qaZ,List.map_cons,List.map_nil,List.length_cons,List.length_nil] at z
  simp[F279,z,List.range_succ]
 ·refine qaa (pf:=F287) rfl rfl ?_
  simp only[clF,qfB,qaZ,List.map_cons,List.map_nil,List.length_cons,List.length_nil] at z
  simp[F287,z,List.range_succ]
 ·refine qaa (pf:=F297) rfl rfl ?_
  simp only[clF,qfB,qaZ,List.map_cons,List.map_nil,List.length_cons,List.length_nil] at z
  simp[F297,z,List.range_succ]
 ·refine qaa (pf:=F304) rfl rfl ?_
  simp only[clF,qfB,qaZ,List.map_cons,List.map_nil,List.length_cons,List.length_nil] at z
  simp[F304,z,List.range_succ]
theorem qsE {p:Nat} (hp:qiE p) (z:Z tP (.call 285 [.ptr 0 0,.fn (clF p) [] [.ptr 1 0,.ptr 2 0],.dat (.sl (qaZ (qfB p)) (qfB p).length true)] (BS s T lv i 0 12))=some (.ret (qbj c) (BS s T lv i' a c))) :
  Z tP (.call (fnP p) [.ptr 0 0,.int lv] (PS s T i 0 12))=some (.ret (qbj c) (PS s T i' a c)):=by
 simp only[BS,pO] at z
 rcases hp with rfl | rfl | rfl | rfl
 ·refine qaa (pf:=F279) rfl rfl ?_
  simp only[clF,qfB,qaZ,List.map_cons,List.map_nil,List.length_cons,List.length_nil] at z
  simp[F279,z,qaf,List.range_succ]
 ·refine qaa (pf:=F287) rfl rfl ?_
  simp only[clF,qfB,qaZ,List.map_cons,List.map_nil,List.length_cons,List.length_nil] at z
  simp[F287,z,qaf,List.range_succ]
 ·refine qaa (pf:=F297) rfl rfl ?_
  simp only[clF,qfB,qaZ,List.map_cons,List.map_nil,List.length_cons,List.length_nil] at z
  simp[F297,z,qaf,List.range_succ]
 ·refine qaa (pf:=F304) rfl rfl ?_
  simp only[clF,qfB,qaZ,List.map_cons,List.map_nil,List.length_cons,List.length_nil] at z
  simp[F304,z,qaf,List.range_succ]
end
section
variable {s:ByteArray} {T:List Tk}
theorem qll {n:Nat} (ihe:ExK s T n) (ihl:LoK s T n) {p lv i:Nat} {t:Tk} {r:List Tk} {x:Rz E} (hp:qiE p) (hlv:lv<=20) (h:T.drop i=t::r) (hx:qaq 12 2 true (n+1) p lv (t::r)=some x):Out s T (Z tP (.call (fnP p) [.ptr 0 0,.int lv] (PS s T i 0 12))) x E.node:=by
 have hp2:p≠3/\p≠7/\1<=p/\p<8/\p+1<=8:=by rcases hp with rfl | rfl | rfl | rfl<;>omega
 have hd:=qai (qfB p) true
 rw[qaq,if_neg (by rintro (h | h); exact hp2.1 h.1; exact hp2.2.1 h.1),if_pos hp2.2.2.2.1] at hx
 cases hq:qaq 12 2 true n (p+1) lv (t::r) with
 | none=>rw[hq] at hx; cases hx
 | some y=>
  rw[hq] at hx
  have ho:=ihe (p+1) lv i t r y (by omega) hp2.2.2.2.2 hlv h hq
  cases y with
  | er a c=>
   simp only[Option.some.injEq] at hx
   subst hx
   obtain⟨i',z⟩:=ho
   exact⟨i',qsE hp (qsC hd.one hd.cells (qk0 hp z))⟩
  | ok e r'=>
   simp only at hx
   obtain⟨i',a1,a2,z⟩:=ho
   have zc:=qmQ hp z
   obtain⟨t2,r2,hr2⟩ : ∃ t2 r2,r'=t2::r2:=by cases r' with
    | nil=>exact absurd rfl a2
    | cons a b=>exact⟨a,b,rfl⟩
   subst hr2
   have hl:=ihl p lv i' t2 r2 e x hp hlv a1 hx
   cases x with
   | ok e3 r3=>
    obtain⟨i3,b1,b2,b3⟩:=hl
    exact⟨i3,b1,b2,quS hp (quR hd.one hd.cells zc b3)⟩
   | er a c=>
    obtain⟨i3,fr,e3,b1,b2⟩:=hl
    exact⟨i3,qsE hp (qsD hd.one hd.cells b1 zc b2)⟩
end
end Go.Pm
end SKn
section SKo
namespace Go.Pm
open F
set_option maxHeartbeats 4000000
attribute [local simp] qbb qbP dkey
def qlg:List ByteArray:=[⟨#[60]⟩,⟨#[60,61]⟩,⟨#[62]⟩,⟨#[62,61]⟩,⟨#[61,61]⟩,⟨#[33,61]⟩]
theorem qoL {y:ByteArray} {o:Bop} (h:qlu 4 y=some o):y=o.str/\y∈qlg:=by
 have h1:o.str=y:=by have:=List.find?_some h; simpa using this
 have h2:=List.mem_of_find?_eq_some h
 subst h1
 refine⟨rfl,?_⟩
 simp only[List.mem_cons,List.not_mem_nil,or_false] at h2
 rcases h2 with rfl | rfl | rfl | rfl | rfl | rfl<;>decide
theorem qoM {y:ByteArray} (h:qlu 4 y=none):y∉qlg:=by
 have h2:=List.find?_eq_none.1 h
 intro hm
 simp only[qlg,List.mem_cons,List.not_mem_nil,or_false] at hm
 simp only[List.mem_cons,List.not_mem_nil,or_false] at h2
 rcases hm with rfl | rfl | rfl | rfl | rfl | rfl
 ·exact h2 .lt (by simp) (by decide)
 ·exact h2 .le (by simp) (by decide)
 ·exact h2 .gt (by simp) (by decide)
 ·exact h2 .ge (by simp) (by decide)
 ·exact h2 .eq (by simp) (by decide)
 ·exact h2 .ne (by simp) (by decide)
section
variable {s:ByteArray} {T:List Tk} {lv i i' i2:Nat} {e e':E} {a c:Int} {t:Tk} {r:List Tk}
theorem qsr (z:Z tP (.call 297 [.ptr 0 0,.int lv] (PS s T i 0 12))=some (.ret (qbj c) (PS s T i' a c))):Z tP (.call 292 [.ptr 0 0,.int lv] (PS s T i 0 12))=some (.ret (qbj c) (PS s T i' a c)):=by
 simp only[PS,pO] at z
 refine qaa (pf:=F292) rfl rfl ?_
 simp[F292,z,qaf,List.range_succ]
theorem qtS (z:Z tP (.call 297 [.ptr 0 0,.int lv] (PS s T i 0 12))=some (.ret e.node (PS s T i' 0 12))) (h:T.drop i'=t::r) (hb:t.bad=0) (hm:t.s∉qlg):Z tP (.call 292 [.ptr 0 0,.int lv] (PS s T i 0 12))=some (.ret e.node (PS s T i' 0 12)):=by
 have zi:=qaK (s:=s) (a:=0) (c:=12) h hb (qai qlg true) (by decide) (by decide)
 simp only[PS,pO] at z
 simp only[hm,decide_false] at zi
 simp only[PS,pO,qlg,qaZ,List.map_cons,List.map_nil,List.length_cons,List.length_nil] at zi
 refine qaa (pf:=F292) rfl rfl ?_
 simp[F292,z,zi,List.range_succ]
theorem qtT (z:Z tP (.call 297 [.ptr 0 0,.int lv] (PS s T i 0 12))=some (.ret e.node (PS s T i' 0 12))) (h:T.drop i'=t::r) (hb:t.bad≠0):Z tP (.call 292 [.ptr 0 0,.int lv] (PS s T i 0 12))=some (.ret (qbj t.bad) (PS s T i' t.at_ t.bad)):=by
 have zi:=qe2 (s:=s) (a:=0) (c:=12) h hb (qai qlg true)
 simp only[PS,pO] at z
 simp only[PS,pO,qlg,qaZ,List.map_cons,List.map_nil,List.length_cons,List.length_nil] at zi
 refine qaa (pf:=F292) rfl rfl ?_
 simp[F292,z,zi,qaf,List.range_succ]
theorem quG (hT:T.length<2 ^ 40) (z:Z tP (.call 297 [.ptr 0 0,.int lv] (PS s T i 0 12))=some (.ret e.node (PS s T i' 0 12))) (h:T.drop i'=t::r) (hb:t.bad=0) (hm:t.s∈qlg) {o:Bop} (hs:t.s=o.str)
  (z2:Z tP (.call 297 [.ptr 0 0,.int lv] (PS s T ((i'+1:Nat):Int) 0 12))=some (.ret e'.node (PS s T i2 0 12))):Z tP (.call 292 [.ptr 0 0,.int lv] (PS s T i 0 12))=some (.ret (E.bin true o e e').node (PS s T i2 0 12)):=by
 have zi:=qaK (s:=s) (a:=0) (c:=12) h hb (qai qlg true) (by decide) (by decide)
 have zt:=qaI (s:=s) (a:=0) (c:=12) h hb hT
 have htx:=qao hb
 simp only[PS,pO] at z z2
 simp only[hm,decide_true] at zi
 simp only[PS,pO,qlg,qaZ,List.map_cons,List.map_nil,List.length_cons,List.length_nil] at zi
 simp only[PS,pO,ptk,ptD,htx,hs] at zt
 simp only[Int.natCast_add,Int.cast_ofNat_Int] at z2 zt
 refine qaa (pf:=F292) rfl rfl ?_
 simp[F292,z,zi,zt,z2,qcX,qa8,qbw,qbS,qa9,still,V.same,List.range_succ]
 try rfl
theorem qss (hT:T.length<2 ^ 40) (z:Z tP (.call 297 [.ptr 0 0,.int lv] (PS s T i 0 12))=some (.ret e.node (PS s T i' 0 12))) (h:T.drop i'=t::r) (hb:t.bad=0) (hm:t.s∈qlg)
  (z2:Z tP (.call 297 [.ptr 0 0,.int lv] (PS s T ((i'+1:Nat):Int) 0 12))=some (.ret (qbj c) (PS s T i2 a c))):Z tP (.call 292 [.ptr 0 0,.int lv] (PS s T i 0 12))=some (.ret (qbj c) (PS s T i2 a c)):=by
 have zi:=qaK (s:=s) (a:=0) (c:=12) h hb (qai qlg true) (by decide) (by decide)
 have zt:=qaI (s:=s) (a:=0) (c:=12) h hb hT
 simp only[PS,pO] at z z2
 simp only[hm,decide_true] at zi
 simp only[PS,pO,qlg,qaZ,List.map_cons,List.map_nil,List.length_cons,List.length_nil] at zi
 simp only[PS,pO,ptk,ptD] at zt
 simp only[Int.natCast_add,Int.cast_ofNat_Int] at z2 zt
 refine qaa (pf:=F292) rfl rfl ?_
 simp[F292,z,zi,zt,z2,qaf,qaC,qcX,qa8,qbw,qbS,qa9,still,V.same,List.range_succ]
theorem qst (hw:WfQ T) (hT:T.length<2 ^ 40) {n:Nat} (ihe:ExK s T n) {x:Rz E} (hlv:lv<=20) (h:T.drop i=t::r) (hx:qaq 12 2 true (n+1) 4 lv (t::r)=some x):Out s T (Z tP (.call 292 [.ptr 0 0,.int lv] (PS s T i 0 12))) x E.node:=by
 rw[qaq,if_neg (by rintro (h | h); exact absurd h.1 (by decide); exact absurd h.1 (by decide)),if_pos (by decide)] at hx
 cases hq:qaq 12 2 true n 5 lv (t::r) with
 | none=>rw[hq] at hx; cases hx
 | some y=>
  rw[hq] at hx
  have ho:=ihe 5 lv i t r y (by omega) (by omega) hlv h hq
  cases y with
  | er a c=>
   simp only[Option.some.injEq] at hx
   subst hx
   obtain⟨i',z⟩:=ho
   exact⟨i',qsr z⟩
  | ok e r'=>
   simp only at hx
   obtain⟨i',a1,a2,z⟩:=ho
   obtain⟨t2,r2,hr2⟩ : ∃ t2 r2,r'=t2::r2:=by cases r' with
    | nil=>exact absurd rfl a2
    | cons a b=>exact⟨a,b,rfl⟩
   subst hr2
   cases n with
   | zero=>simp only[qaq] at hq; cases hq
   | succ m=>
    rw[qcZ] at hx
    by_cases hb:t2.bad=0
    ·have hnx:nx (t2::r2)=some t2.s:=if_pos hb
     rw[hnx] at hx
     simp only at hx
     cases hop:qlu 4 t2.s with
     | none=>
      rw[hop] at hx
      cases hx
      exact⟨i',a1,a2,qtS z a1 hb (qoM hop)⟩
     | some o=>
      rw[hop] at hx
      simp only[List.tail_cons,if_true] at hx
      obtain⟨q1,q2⟩:=qoL hop
      have hne:t2.s≠⟨#[]⟩:=fun e=>absurd (e ▸ q2) (by decide)
      obtain⟨n1,n2⟩:=hw.next a1 hb hne
      obtain⟨t3,r3,hr3⟩ : ∃ t3 r3,r2=t3::r3:=by cases r2 with
       | nil=>exact absurd rfl n2
       | cons a b=>exact⟨a,b,rfl⟩
      subst hr3
      cases hq2:qaq 12 2 true m 5 lv (t3::r3) with
      | none=>rw[hq2] at hx; cases hx
      | some y2=>
       rw[hq2] at hx
       have ho2:=ihe 5 lv (i'+1) t3 r3 y2 (by omega) (by omega) hlv n1 (qdJ hq2 (by omega))
       cases y2 with
       | er a c=>
        simp only[Option.some.injEq] at hx
        subst hx
        obtain⟨i2,z2⟩:=ho2
        exact⟨i2,qss hT z a1 hb q2 z2⟩
       | ok e2 r4=>
        simp only[Option.some.injEq] at hx
        subst hx
        obtain⟨i2,d1,d2,z2⟩:=ho2
        exact⟨i2,d1,d2,quG hT z a1 hb q2 q1 z2⟩
    ·have hnx:nx (t2::r2)=none:=if_neg hb
     rw[hnx] at hx
     simp only at hx
     rw[if_neg (by decide)] at hx
     simp only[failP,if_neg hb,Option.some.injEq] at hx
     subst hx
     exact⟨i',qtT z a1 hb⟩
end
end Go.Pm
end SKo
section SKp
namespace Go.Pm
open F
set_option maxHeartbeats 4000000
attribute [local simp] qbb qbP dkey
theorem qmX {t:Tk} (hb:t.bad≠0) (r:List Tk) : ∀ (n p lv:Nat) (x:Rz E),qaq 12 2 true n p lv (t::r)=some x->x = .er t.at_ t.bad
 | 0,p,lv,x,h=>by simp[qaq] at h
 | n+1,p,lv,x,h=>by
  have hnx:nx (t::r)=none:=if_neg hb
  rw[qaq,hnx,if_neg (by rintro (h | h); cases h.2; cases h.2)] at h
  by_cases hp:p<8
  ·rw[if_pos hp] at h
   cases hq:qaq 12 2 true n (p+1) lv (t::r) with
   | none=>rw[hq] at h; cases h
   | some y=>
    have:=qmX hb r n (p+1) lv y hq
    rw[hq,this] at h
    simpa using h.symm
  ·rw[if_neg hp] at h
   simp only[failP,if_neg hb,Option.some.injEq] at h
   exact h.symm
def unF (neg:Bool):Nat:=if neg then 308 else 290
def unG (neg:Bool):Nat:=if neg then 309 else 292
section
variable {s:ByteArray} {T:List Tk} {lv i i' i2:Nat} {e e':E} {a c:Int} {t:Tk} {r:List Tk} {neg:Bool}
theorem quC (h:T.drop i=t::r) (hb:t.bad=0) (hm:t.s≠ustr neg) (z:Z tP (.call (unG neg) [.ptr 0 0,.int lv] (PS s T i 0 12))=some (.ret e.node (PS s T i' 0 12))):Z tP (.call (unF neg) [.ptr 0 0,.int lv] (PS s T i 0 12))=some (.ret e.node (PS s T i' 0 12)):=by
 have zi:=qaK (s:=s) (a:=0) (c:=12) h hb (qai [ustr neg] true) (by simp) (by cases neg<;>decide)
 simp only[List.mem_singleton,hm,decide_false] at zi
 simp only[PS,pO] at z
 cases neg
 ·simp only[unG,Bool.false_eq_true,if_false] at z
  simp only[PS,pO,ustr,qaZ,List.map_cons,List.map_nil,List.length_singleton,Bool.false_eq_true,if_false] at zi
  refine qaa (pf:=F290) rfl rfl ?_
  simp[F290,z,zi,List.range_succ]
 ·simp only[unG,if_true] at z
  simp only[PS,pO,ustr,qaZ,List.map_cons,List.map_nil,List.length_singleton,if_true] at zi
  refine qaa (pf:=F308) rfl rfl ?_
  simp[F308,z,zi,List.range_succ]
theorem qqt (h:T.drop i=t::r) (hb:t.bad=0) (hm:t.s≠ustr neg) (z:Z tP (.call (unG neg) [.ptr 0 0,.int lv] (PS s T i 0 12))=some (.ret (qbj c) (PS s T i' a c))):Z tP (.call (unF neg) [.ptr 0 0,.int lv] (PS s T i 0 12))=some (.ret (qbj c) (PS s T i' a c)):=by
 have zi:=qaK (s:=s) (a:=0) (c:=12) h hb (qai [ustr neg] true) (by simp) (by cases neg<;>decide)
 simp only[List.mem_singleton,hm,decide_false] at zi
 simp only[PS,pO] at z
 cases neg
 ·simp only[unG,Bool.false_eq_true,if_false] at z
  simp only[PS,pO,ustr,qaZ,List.map_cons,List.map_nil,List.length_singleton,Bool.false_eq_true,if_false] at zi
  refine qaa (pf:=F290) rfl rfl ?_
  simp[F290,z,zi,qaf,List.range_succ]
 ·simp only[unG,if_true] at z
  simp only[PS,pO,ustr,qaZ,List.map_cons,List.map_nil,List.length_singleton,if_true] at zi
  refine qaa (pf:=F308) rfl rfl ?_
  simp[F308,z,zi,qaf,List.range_succ]
theorem qtJ (h:T.drop i=t::r) (hb:t.bad≠0):Z tP (.call (unF neg) [.ptr 0 0,.int lv] (PS s T i 0 12))=some (.ret (qbj t.bad) (PS s T i t.at_ t.bad)):=by
 have zi:=qe2 (s:=s) (a:=0) (c:=12) h hb (qai [ustr neg] true)
 cases neg
 ·simp only[PS,pO,ustr,qaZ,List.map_cons,List.map_nil,List.length_singleton,Bool.false_eq_true,if_false] at zi
  refine qaa (pf:=F290) rfl rfl ?_
  simp[F290,zi,qaf,List.range_succ]
 ·simp only[PS,pO,ustr,qaZ,List.map_cons,List.map_nil,List.length_singleton,if_true] at zi
  refine qaa (pf:=F308) rfl rfl ?_
  simp[F308,zi,qaf,List.range_succ]
theorem qsd (hlv:lv<=20) (h:T.drop i=t::r) (hb:t.bad=0) (hm:t.s=ustr neg) (zo:Z tP (.call 270 [.ptr 0 0,.str (ustr neg),.int ((lv+1:Nat):Int)] (PS s T i 0 12))=some (.ret (qbj c) (PS s T i' a c))):Z tP (.call (unF neg) [.ptr 0 0,.int lv] (PS s T i 0 12))=some (.ret (qbj c) (PS s T i' a c)):=by
 have zi:=qaK (s:=s) (a:=0) (c:=12) h hb (qai [ustr neg] true) (by simp) (by cases neg<;>decide)
 have w1:=qal ((lv:Int)+1) (by omega)
 simp only[List.mem_singleton,hm,decide_true] at zi
 simp only[PS,pO] at zo
 simp only[Int.natCast_add,Int.cast_ofNat_Int] at zo
 cases neg
 ·simp only[PS,pO,ustr,qaZ,List.map_cons,List.map_nil,List.length_singleton,Bool.false_eq_true,if_false] at zi zo
  refine qaa (pf:=F290) rfl rfl ?_
  simp[F290,zo,zi,w1,qaf,List.range_succ]
 ·simp only[PS,pO,ustr,qaZ,List.map_cons,List.map_nil,List.length_singleton,if_true] at zi zo
  refine qaa (pf:=F308) rfl rfl ?_
  simp[F308,zo,zi,w1,qaf,List.range_succ]
theorem qtK (hlv:lv<=20) (h:T.drop i=t::r) (hb:t.bad=0) (hm:t.s=ustr neg) (zo:Z tP (.call 270 [.ptr 0 0,.str (ustr neg),.int ((lv+1:Nat):Int)] (PS s T i 0 12))=some (.ret (.tup []) (PS s T i' 0 12)))
  (z:Z tP (.call (unF neg) [.ptr 0 0,.int ((lv+1:Nat):Int)] (PS s T i' 0 12))=some (.ret (qbj c) (PS s T i2 a c))):Z tP (.call (unF neg) [.ptr 0 0,.int lv] (PS s T i 0 12))=some (.ret (qbj c) (PS s T i2 a c)):=by
 have zi:=qaK (s:=s) (a:=0) (c:=12) h hb (qai [ustr neg] true) (by simp) (by cases neg<;>decide)
 have w1:=qal ((lv:Int)+1) (by omega)
 simp only[List.mem_singleton,hm,decide_true] at zi
 simp only[PS,pO] at zo z
 simp only[Int.natCast_add,Int.cast_ofNat_Int] at zo z
 cases neg
 ·simp only[PS,pO,unF,ustr,qaZ,List.map_cons,List.map_nil,List.length_singleton,Bool.false_eq_true,if_false] at zi zo z
  refine qaa (pf:=F290) rfl rfl ?_
  simp[F290,zo,zi,z,w1,qaf,List.range_succ]
 ·simp only[PS,pO,unF,ustr,qaZ,List.map_cons,List.map_nil,List.length_singleton,if_true] at zi zo z
  refine qaa (pf:=F308) rfl rfl ?_
  simp[F308,zo,zi,z,w1,qaf,List.range_succ]
theorem quD (hlv:lv<=20) (h:T.drop i=t::r) (hb:t.bad=0) (hm:t.s=ustr neg) (zo:Z tP (.call 270 [.ptr 0 0,.str (ustr neg),.int ((lv+1:Nat):Int)] (PS s T i 0 12))=some (.ret (.tup []) (PS s T i' 0 12)))
  (z:Z tP (.call (unF neg) [.ptr 0 0,.int ((lv+1:Nat):Int)] (PS s T i' 0 12))=some (.ret e.node (PS s T i2 0 12))):Z tP (.call (unF neg) [.ptr 0 0,.int lv] (PS s T i 0 12))=some (.ret (E.un true neg e).node (PS s T i2 0 12)):=by
 have zi:=qaK (s:=s) (a:=0) (c:=12) h hb (qai [ustr neg] true) (by simp) (by cases neg<;>decide)
 have w1:=qal ((lv:Int)+1) (by omega)
 simp only[List.mem_singleton,hm,decide_true] at zi
 simp only[PS,pO] at zo z
 simp only[Int.natCast_add,Int.cast_ofNat_Int] at zo z
 cases neg
 ·simp only[PS,pO,unF,ustr,qaZ,List.map_cons,List.map_nil,List.length_singleton,Bool.false_eq_true,if_false] at zi zo z
  refine qaa (pf:=F290) rfl rfl ?_
  simp[F290,zo,zi,z,w1,List.range_succ]
  rfl
 ·simp only[PS,pO,unF,ustr,qaZ,List.map_cons,List.map_nil,List.length_singleton,if_true] at zi zo z
  refine qaa (pf:=F308) rfl rfl ?_
  simp[F308,zo,zi,z,w1,List.range_succ]
  rfl
end
end Go.Pm
end SKp
section SKq
namespace Go.Pm
open F
set_option maxHeartbeats 2000000
theorem qiy {α : Type} {c:Nat} {ts:List Tk} {a : α} {r:List Tk} (h:failP (α := α) c ts = .ok a r):False:=by
 cases ts<;>simp[failP] at h
theorem qiz {x:ByteArray} {lv:Nat} {ts r:List Tk} {u:Unit} (h:qcr 12 2 x lv ts = .ok u r):lv<=20:=by
 by_cases h20:20<lv
 ·rw[qcr] at h
  by_cases hn:nx ts=some x
  ·rw[if_pos ⟨hn,h20⟩] at h
   exact (qiy h).elim
  ·rw[if_neg (fun e=>hn e.1)] at h
   cases ts with
   | nil=>rw[qax] at h; exact (qiy h).elim
   | cons t r'=>
    simp only[qax] at h
    by_cases hc:t.bad=0/\t.s=x
    ·exact absurd (show nx (t::r')=some x by rw[nx,if_pos hc.1,hc.2]) hn
    ·rw[if_neg hc] at h
     exact (qiy h).elim
 ·omega
section
variable {s:ByteArray} {T:List Tk} {lv i:Nat} {t:Tk} {r:List Tk}
theorem qaY {α : Type} {l:List α} (h:l≠[]) : ∃ a r,l=a::r:=by
 cases l with
 | nil=>exact absurd rfl h
 | cons a b=>exact⟨a,b,rfl⟩
theorem qrW (hw:WfQ T) (hT:T.length<2 ^ 40) {n:Nat} (ihe:ExK s T n) {p:Nat} {neg:Bool} (hp:p=3/\neg=false\/p=7/\neg=true) {x:Rz E} (hlv:lv<=20) (h:T.drop i=t::r) (hx:qaq 12 2 true (n+1) p lv (t::r)=some x):Out s T (Z tP (.call (unF neg) [.ptr 0 0,.int lv] (PS s T i 0 12))) x E.node:=by
 have hF:fnP p=unF neg:=by rcases hp with ⟨rfl,rfl⟩ | ⟨rfl,rfl⟩<;>rfl
 have hG:fnP (p+1)=unG neg:=by rcases hp with ⟨rfl,rfl⟩ | ⟨rfl,rfl⟩<;>rfl
 have hp8:p<8/\1<=p:=by rcases hp with ⟨rfl,_⟩ | ⟨rfl,_⟩<;>omega
 by_cases hb:t.bad=0
 ·have hnx:nx (t::r)=some t.s:=if_pos hb
  by_cases hm:t.s=ustr neg
  ·have hcond:p=3/\nx (t::r)=some (ustr false)\/p=7/\nx (t::r)=some (ustr true):=by
    rw[hnx,hm]
    rcases hp with ⟨rfl,rfl⟩ | ⟨rfl,rfl⟩
    ·exact .inl ⟨rfl,rfl⟩
    ·exact .inr ⟨rfl,rfl⟩
   have h7:(p==7)=neg:=by rcases hp with ⟨rfl,rfl⟩ | ⟨rfl,rfl⟩<;>rfl
   rw[qaq,if_pos hcond,h7] at hx
   have ho:=qgm (s:=s) hw hT h (x:=ustr neg) (by cases neg<;>decide) (lv:=lv+1)
   cases hq:qcr 12 2 (ustr neg) (lv+1) (t::r) with
   | er a c=>
    rw[hq] at hx ho
    simp only[Option.some.injEq] at hx
    subst hx
    obtain⟨i',z⟩:=ho
    exact⟨i',qsd hlv h hb hm z⟩
   | ok u r1=>
    have hl1:=qiz hq
    rw[hq] at hx ho
    simp only at hx
    obtain⟨i',a1,a2,z⟩:=ho
    obtain⟨t1,r2,rfl⟩:=qaY a2
    cases hq2:qaq 12 2 true n p (lv+1) (t1::r2) with
    | none=>rw[hq2] at hx; cases hx
    | some y=>
     rw[hq2] at hx
     have h2:=ihe p (lv+1) i' t1 r2 y hp8.2 (by omega) hl1 a1 hq2
     rw[hF] at h2
     cases y with
     | er a c=>
      simp only[Option.some.injEq] at hx
      subst hx
      obtain⟨i2,z2⟩:=h2
      exact⟨i2,qtK hlv h hb hm z z2⟩
     | ok e r3=>
      simp only[Option.some.injEq] at hx
      subst hx
      obtain⟨i2,b1,b2,z2⟩:=h2
      exact⟨i2,b1,b2,quD hlv h hb hm z z2⟩
  ·have hcond : ¬ (p=3/\nx (t::r)=some (ustr false)\/p=7/\nx (t::r)=some (ustr true)):=by
    rw[hnx]
    rcases hp with ⟨rfl,rfl⟩ | ⟨rfl,rfl⟩
    ·rintro (⟨_,h⟩ | ⟨h,_⟩)
     ·exact hm (Option.some.inj h)
     ·cases h
    ·rintro (⟨h,_⟩ | ⟨_,h⟩)
     ·cases h
     ·exact hm (Option.some.inj h)
   rw[qaq,if_neg hcond,if_pos hp8.1] at hx
   cases hq:qaq 12 2 true n (p+1) lv (t::r) with
   | none=>rw[hq] at hx; cases hx
   | some y=>
    rw[hq] at hx
    have h2:=ihe (p+1) lv i t r y (by omega) (by omega) hlv h hq
    rw[hG] at h2
    cases y with
    | er a c=>
     simp only[Option.some.injEq] at hx
     subst hx
     obtain⟨i2,z2⟩:=h2
     exact⟨i2,qqt h hb hm z2⟩
    | ok e r3=>
     simp only at hx
     obtain⟨i2,b1,b2,z2⟩:=h2
     cases n with
     | zero=>simp only[qaq] at hq; cases hq
     | succ m=>
      have hxx:x = .ok e r3:=by
       rw[qcZ] at hx
       cases hn3:nx r3 with
       | none=>
        rw[hn3] at hx
        simp only at hx
        rw[if_pos (by rcases hp with ⟨rfl,_⟩ | ⟨rfl,_⟩; exact .inl rfl; exact .inr rfl)] at hx
        exact (Option.some.inj hx).symm
       | some y=>
        rw[hn3] at hx
        have hop:qlu p y=none:=by rcases hp with ⟨rfl,_⟩ | ⟨rfl,_⟩<;>rfl
        simp only[hop] at hx
        exact (Option.some.inj hx).symm
      subst hxx
      exact⟨i2,b1,b2,quC h hb hm z2⟩
 ·have:=qmX hb r (n+1) p lv x hx
  subst this
  exact⟨i,qtJ h hb⟩
end
end Go.Pm
end SKq
section SKr
namespace Go.Pm
open F
set_option maxHeartbeats 4000000
attribute [local simp] qbb qbP dkey
def qdr:ByteArray:=⟨#[116,114,117,101]⟩
def qcl:ByteArray:=⟨#[102,97,108,115,101]⟩
def qdB:List ByteArray:=[⟨#[115,101,108,102]⟩,⟨#[111,116,104,101,114]⟩,⟨#[116,105,99,107]⟩]
section
variable {s:ByteArray} {T:List Tk} {lv i i' i2 i3:Nat} {e e':E} {a c:Int} {t:Tk} {r:List Tk}
theorem qti (h:T.drop i=t::r) (hb:t.bad≠0):Z tP (.call 309 [.ptr 0 0,.int lv] (PS s T i 0 12))=some (.ret (qbj t.bad) (PS s T i t.at_ t.bad)):=by
 have zp:=qd8 (s:=s) (a:=0) (c:=12) h hb
 simp only[PS,pO] at zp
 refine qaa (pf:=F309) rfl rfl ?_
 simp[F309,zp,qaf,List.range_succ]
theorem qtj (hT:T.length<2 ^ 40) (h:T.drop i=t::r) (hb:t.bad=0) (hk:kindT t=4):Z tP (.call 309 [.ptr 0 0,.int lv] (PS s T i 0 12))=some (.ret (E.int (valT t)).node (PS s T ((i+1:Nat):Int) 0 12)):=by
 have zp:=qav (s:=s) (a:=0) (c:=12) h hb
 have zt:=qaI (s:=s) (a:=0) (c:=12) h hb hT
 simp only[PS,pO,ptk,ptD,hk] at zp zt
 refine qaa (pf:=F309) rfl rfl ?_
 simp[F309,zp,zt,List.range_succ]
 try rfl
theorem qtk (hT:T.length<2 ^ 40) (h:T.drop i=t::r) (hb:t.bad=0) (hk:kindT t=1):Z tP (.call 309 [.ptr 0 0,.int lv] (PS s T i 0 12))=some (.ret (E.var t.s).node (PS s T ((i+1:Nat):Int) 0 12)):=by
 have zp:=qav (s:=s) (a:=0) (c:=12) h hb
 have zt:=qaI (s:=s) (a:=0) (c:=12) h hb hT
 simp only[PS,pO,ptk,ptD,hk,qao hb] at zp zt
 refine qaa (pf:=F309) rfl rfl ?_
 simp[F309,zp,zt,List.range_succ]
 try rfl
theorem qtl (h:T.drop i=t::r) (hb:t.bad=0) (hk:kindT t=3) (z:Z tP (.call 280 [.ptr 0 0,.int lv] (PS s T i 0 12))=some (.ret e.node (PS s T i' 0 12))):Z tP (.call 309 [.ptr 0 0,.int lv] (PS s T i 0 12))=some (.ret (E.field true t.s e).node (PS s T i' 0 12)):=by
 have zp:=qav (s:=s) (a:=0) (c:=12) h hb
 simp only[PS,pO,ptk,ptD,hk,qao hb] at zp z
 refine qaa (pf:=F309) rfl rfl ?_
 simp[F309,zp,z,qcX,qa8,qbw,qbS,qa9,still,V.same,List.range_succ]
 try rfl
theorem qnD (h:T.drop i=t::r) (hb:t.bad=0) (hk:kindT t=3) (z:Z tP (.call 280 [.ptr 0 0,.int lv] (PS s T i 0 12))=some (.ret (qbj c) (PS s T i' a c))):Z tP (.call 309 [.ptr 0 0,.int lv] (PS s T i 0 12))=some (.ret (qbj c) (PS s T i' a c)):=by
 have zp:=qav (s:=s) (a:=0) (c:=12) h hb
 simp only[PS,pO,ptk,ptD,hk,qao hb] at zp z
 refine qaa (pf:=F309) rfl rfl ?_
 simp[F309,zp,z,qaf,qaC,qcX,qa8,qbw,qbS,qa9,still,V.same,List.range_succ]
theorem qrr (hT:T.length<2 ^ 40) (h:T.drop i=t::r) (hb:t.bad=0) (hk:kindT t=2) (hm:t.s=qdr):Z tP (.call 309 [.ptr 0 0,.int lv] (PS s T i 0 12))=some (.ret (E.bool 1).node (PS s T ((i+1:Nat):Int) 0 12)):=by
 have zp:=qav (s:=s) (a:=0) (c:=12) h hb
 have zt:=qaI (s:=s) (a:=0) (c:=12) h hb hT
 have z1:=qaK (s:=s) (a:=0) (c:=12) h hb (qai [qdr] true) (by simp) (by decide)
 simp only[hm,List.mem_singleton,decide_true] at z1
 simp only[PS,pO,ptk,ptD,hk] at zp zt
 simp only[PS,pO,qdr,qaZ,List.map_cons,List.map_nil,List.length_singleton] at z1
 refine qaa (pf:=F309) rfl rfl ?_
 simp[F309,zp,zt,z1,List.range_succ]
 try rfl
theorem qpv (hT:T.length<2 ^ 40) (h:T.drop i=t::r) (hb:t.bad=0) (hk:kindT t=2) (hm:t.s=qcl):Z tP (.call 309 [.ptr 0 0,.int lv] (PS s T i 0 12))=some (.ret (E.bool 0).node (PS s T ((i+1:Nat):Int) 0 12)):=by
 have zp:=qav (s:=s) (a:=0) (c:=12) h hb
 have zt:=qaI (s:=s) (a:=0) (c:=12) h hb hT
 have z1:=qaK (s:=s) (a:=0) (c:=12) h hb (qai [qdr] true) (by simp) (by decide)
 have z2:=qaK (s:=s) (a:=0) (c:=12) h hb (qai [qcl] true) (by simp) (by decide)
 have hne:qcl≠qdr:=by decide
 simp only[hm,List.mem_singleton,hne,decide_false,decide_true] at z1 z2
 simp only[PS,pO,ptk,ptD,hk] at zp zt
 simp only[PS,pO,qdr,qcl,qaZ,List.map_cons,List.map_nil,List.length_singleton] at z1 z2
 refine qaa (pf:=F309) rfl rfl ?_
 simp[F309,zp,zt,z1,z2,List.range_succ]
 try rfl
theorem qrs (hT:T.length<2 ^ 40) (h:T.drop i=t::r) (hb:t.bad=0) (hk:kindT t=2) (hm:t.s∈qdB):Z tP (.call 309 [.ptr 0 0,.int lv] (PS s T i 0 12))=some (.ret (E.name t.s).node (PS s T ((i+1:Nat):Int) 0 12)):=by
 have zp:=qav (s:=s) (a:=0) (c:=12) h hb
 have zt:=qaI (s:=s) (a:=0) (c:=12) h hb hT
 have z1:=qaK (s:=s) (a:=0) (c:=12) h hb (qai [qdr] true) (by simp) (by decide)
 have z2:=qaK (s:=s) (a:=0) (c:=12) h hb (qai [qcl] true) (by simp) (by decide)
 have z3:=qaK (s:=s) (a:=0) (c:=12) h hb (qai qdB true) (by decide) (by decide)
 have n1:t.s≠qdr:=fun e=>absurd (e ▸ hm) (by decide)
 have n2:t.s≠qcl:=fun e=>absurd (e ▸ hm) (by decide)
 simp only[hm,List.mem_singleton,n1,n2,decide_false,decide_true] at z1 z2 z3
 simp only[PS,pO,ptk,ptD,hk,qao hb] at zp zt
 simp only[PS,pO,qdr,qcl,qdB,qaZ,List.map_cons,List.map_nil,List.length_cons,List.length_nil] at z1 z2 z3
 refine qaa (pf:=F309) rfl rfl ?_
 simp[F309,zp,zt,z1,z2,z3,List.range_succ]
 try rfl
end
end Go.Pm
end SKr
