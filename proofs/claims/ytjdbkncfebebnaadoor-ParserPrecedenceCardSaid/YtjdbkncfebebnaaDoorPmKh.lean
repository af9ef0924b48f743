/- Chapter 13's parser: the queue holds the plain tokens. Chapter 13's parser: what it looks at, takes, expects. Chapter 13's parser: words and symbols that it asks for. Chapter 13's parser: expect and open against the plain ones. Chapter 13's parser: operators between operands: a round. Chapter 13's parser: rows of operators against the plain ones. Chapter 13's parser: binary operators. Chapter 13's parser: comparisons. Chapter 13's parser: operators before an operand. Chapter 13's parser: operators before an operand, against the plain ones. Chapter 13's parser: operands and indices: the walks. -/
import Derived.Test.YtjdbkncfebebnaaDoorPmSb
import Derived.Test.YtjdbkncfebebnaaDoorPmFx
import Derived.Test.YtjdbkncfebebnaaDoorPmEt
set_option linter.unusedSimpArgs false
set_option linter.unusedVariables false
section SKh
namespace Go.Pm
open F
set_option maxHeartbeats 4000000
attribute [local simp] qa4 qbv
abbrev ptT (t:Tk):List D:=qfB (kindT t) (qej t) t.at_ (valT t) t.bad
def ptC:List Tk->List D
 | []=>[]
 | t::r=>ptT t++ptC r
theorem qe6 (t:Tk):(kindT t=0\/kindT t=6)↔(t.bad≠0\/t.s.size=0):=by
 have he:t.s=⟨#[]⟩↔t.s.size=0:=⟨fun h=>by rw[h]; rfl,fun h=>by
  have:=qcr t.s
  have hb:byl t.s=[]:=List.eq_nil_of_length_eq_zero (by rw[qaI]; exact h)
  rw[hb] at this
  exact this.symm⟩
 unfold kindT
 by_cases hb:t.bad=0
 ·by_cases h0:t.s=⟨#[]⟩
  ·simp[hb,h0]
   rfl
  ·have h0' : ¬ t.s.size=0:=fun h=>h0 (he.2 h)
   simp only[hb,h0,h0',ne_eq,not_true_eq_false,if_false,false_or,or_self,iff_false]
   split<;>(try split)<;>(try split)<;>omega
 ·simp[hb]
theorem qah {t:Tk} (h:t.bad=0):qej t=t.s:=by unfold qej; rw[h]; rfl
theorem qnK (s:ByteArray) {i:Nat} (hi:i<=s.size):qf2 s (s.size-i) false i=i+qaX false ((byl s).drop i)/\i+qaX false ((byl s).drop i)<=s.size:=by
 refine⟨qh5 s _ false i (Nat.le_refl _),?_⟩
 have:=qfS ((byl s).drop i) false
 rw[List.length_drop,qaI] at this
 omega
theorem qky (s:ByteArray) (n:Nat) {i:Nat} (hi:i<=s.size) {t:Tk} (ht:tokAt 12 2 6 s (i+qaX false ((byl s).drop i))=t):qbK 12 2 6 s (n+1) i=if t.bad≠0\/t.s.size=0 then [t] else t::qbK 12 2 6 s n (t.at_+t.s.size):=by
 rw[qbK,(qnK s hi).1,ht]
theorem qof (s:ByteArray) {i:Nat} (hi:i<=s.size) {t:Tk} (ht:tokAt 12 2 6 s (i+qaX false ((byl s).drop i))=t) (h : ¬ (t.bad≠0\/t.s.size=0)):i<t.at_+t.s.size/\t.at_+t.s.size<=s.size:=by
 obtain⟨_,h2⟩:=qnK s hi
 have hij:i<=i+qaX false ((byl s).drop i):=by omega
 generalize i+qaX false ((byl s).drop i)=j at ht h2 hij
 by_cases hj:j<s.size
 ·have hp:=qi6 hj 12 2 6
  have ha:t.at_=j:=by rw[<- ht,qcT]
  rw[ht] at hp
  omega
 ·obtain rfl:j=s.size:=by omega
  have hd:(byl s).drop s.size=[]:=List.drop_eq_nil_of_le (by rw[qaI]; exact Nat.le_refl _)
  exfalso
  apply h
  rw[<- ht,qcT,hd]
  exact .inr rfl
theorem qhi (s:ByteArray) (hl:s.size<2 ^ 29) : ∀ (n i:Nat) (cs:List D) (m:Nat),s.size-i<n->i<=s.size->0<m->cs.length=m*5->m+(s.size-i)<2 ^ 30 ->
  ∃ k t a v c,Z tP (.loop 8 F249l0 [(0,.yld 0),(1,.ptr 1 0),(3,.int i)] (TT1 s cs m))=some (.out .ret [(0,.yld 0),(1,.ptr 1 0),(4,.ptr 9 0),(23,.bool true)] (TT1 s (cs++ptC (qbK 12 2 6 s n i)) (m+(qbK 12 2 6 s n i).length)++[tkO k t a v c]))
 | 0,i,cs,m,h,_,_,_,_=>by omega
 | n+1,i,cs,m,hn,hi,h0,hc,hm=>by
  obtain⟨j1,j2⟩:=qnK s hi
  have zs:=qlv s (by omega) (LxS.gr cs m cs.length 0 0 12) hi
  have zc:=qn1 s (by omega) (LxS.gr cs m cs.length 0 0 12) j2
  obtain⟨t,ht⟩ : ∃ t,tokAt 12 2 6 s (i+qaX false ((byl s).drop i))=t:=⟨_,rfl⟩
  rw[qky s n hi ht]
  rw[ht] at zc
  by_cases hend:t.bad≠0\/t.s.size=0
  ·rw[if_pos hend]
   have z:=qm8 hc h0 (by omega) zs zc ((qe6 t).2 hend)
   simp only[ptC,List.append_nil,List.length_singleton]
   exact⟨_,_,_,_,_,z⟩
  ·rw[if_neg hend]
   obtain⟨q1,q2⟩:=qof s hi ht hend
   have hb:t.bad=0:=by simp only[not_or,ne_eq,Decidable.not_not] at hend; exact hend.1
   have hk : ¬ (kindT t=0\/kindT t=6):=fun h=>hend ((qe6 t).1 h)
   simp only[not_or] at hk
   have z:=qm7 hc h0 (by omega) zs zc (by rw[qah hb,qaj _ (by omega)]) (decide_eq_false hk.1) (decide_eq_false hk.2)
   have hT:qfB (kindT t) t.s t.at_ (valT t) t.bad=ptT t:=by show _=qfB (kindT t) (qej t) t.at_ (valT t) t.bad; rw[qah hb]
   rw[qah hb,hT] at z
   obtain⟨k,x,a,v,c,ih⟩:=qhi s hl n (t.at_+t.s.size) (cs++ptT t) (m+1) (by omega) q2 (by omega) (by rw[List.length_append,hc]; simp only[qfB,List.length_cons,List.length_nil]; omega) (by omega)
   refine⟨k,x,a,v,c,z.trans ?_⟩
   have e1:((t.at_:Int)+t.s.size)=((t.at_+t.s.size:Nat):Int):=by omega
   rw[e1,ih]
   simp only[ptC,List.append_assoc,List.length_cons]
   rw[show m+1+(qbK 12 2 6 s n (t.at_+t.s.size)).length=m+((qbK 12 2 6 s n (t.at_+t.s.size)).length+1) by omega]
theorem qmp (s:ByteArray) (hl:s.size<2 ^ 29):Z tP (.call 249 [.yld 0,.ptr 1 0] (TT0 s))=some (.ret (.tup []) (TT1 s (ptC (toks s)) (toks s).length)):=by
 obtain⟨j1,j2⟩:=qnK s (i:=0) (by omega)
 have zs:=qlv s (by omega) (LxS.nil 0 0 12) (i:=0) (by omega)
 have zc:=qn1 s (by omega) (LxS.nil 0 0 12) j2
 obtain⟨t,ht⟩ : ∃ t,tokAt 12 2 6 s (0+qaX false ((byl s).drop 0))=t:=⟨_,rfl⟩
 have hn:=qky s s.size (i:=0) (by omega) ht
 rw[show toks s=qbK 12 2 6 s (s.size+1) 0 from rfl,hn]
 rw[ht] at zc
 by_cases hend:t.bad≠0\/t.s.size=0
 ·rw[if_pos hend]
  have z:=qm6 zs zc ((qe6 t).2 hend)
  simp only[Int.natCast_zero] at z
  refine Z_call (pf:=F249) rfl rfl ?_
  simp[F249,z,ptC,qfB,List.range_succ]
 ·rw[if_neg hend]
  obtain⟨q1,q2⟩:=qof s (i:=0) (by omega) ht hend
  have hb:t.bad=0:=by simp only[not_or,ne_eq,Decidable.not_not] at hend; exact hend.1
  have hk : ¬ (kindT t=0\/kindT t=6):=fun h=>hend ((qe6 t).1 h)
  simp only[not_or] at hk
  have z:=qm5 zs zc (by rw[qah hb,qaj _ (by omega)]) (decide_eq_false hk.1) (decide_eq_false hk.2)
  have hT:qfB (kindT t) t.s t.at_ (valT t) t.bad=ptT t:=by show _=qfB (kindT t) (qej t) t.at_ (valT t) t.bad; rw[qah hb]
  rw[qah hb,hT] at z
  obtain⟨k,x,a,v,c,ih⟩:=qhi s hl s.size (t.at_+t.s.size) (ptT t) 1 (by omega) q2 (by omega) (by simp only[qfB,List.length_cons,List.length_nil]) (by omega)
  have e1:((t.at_:Int)+t.s.size)=((t.at_+t.s.size:Nat):Int):=by omega
  rw[e1,ih] at z
  simp only[Int.natCast_zero] at z
  have e2:ptT t++ptC (qbK 12 2 6 s s.size (t.at_+t.s.size))=ptC (t::qbK 12 2 6 s s.size (t.at_+t.s.size)):=rfl
  rw[e2] at z
  have e3:1+(qbK 12 2 6 s s.size (t.at_+t.s.size)).length=(t::qbK 12 2 6 s s.size (t.at_+t.s.size)).length:=by rw[List.length_cons]; omega
  rw[e3] at z
  generalize t::qbK 12 2 6 s s.size (t.at_+t.s.size)=T at z ⊢
  refine Z_call (pf:=F249) rfl rfl ?_
  simp[F249,z,List.range_succ]
end Go.Pm
end SKh
section SKi
namespace Go.Pm
open F
set_option maxHeartbeats 4000000
attribute [local simp] qa4 qbv dkey
abbrev PS (s:ByteArray) (T:List Tk) (i a c:Int):S:=[pO s 1 (.gsl (ptC T) T.length 5 2) i a c,.map kwM,.tip (ptC T).length]
abbrev qa8 (c:Int):V := .pan (.iface 1 (.int c))
theorem qjW : ∀ (T:List Tk) (i:Nat),(ptC T).drop (i*5)=ptC (T.drop i)
 | [],i=>by simp[ptC]
 | t::T,0=>by simp
 | t::T,i+1=>by
  rw[show (i+1)*5=i*5+5 by omega]
  simp only[ptC,qfB,List.cons_append,List.nil_append,List.drop_succ_cons]
  exact qjW T i
theorem qlu {T:List Tk} {i:Nat} {t:Tk} {r:List Tk} (h:T.drop i=t::r):qaq (ptC T) (i*5) 5=some [.lit (.int .i64 (kindT t)),.lit (.string (qej t)),.lit (.int .i64 t.at_),.lit (.int .i64 (valT t)),.lit (.int .i64 t.bad)]:=by
 unfold qaq
 rw[qjW,h]
 simp[ptC,qfB]
section
variable {s:ByteArray} {T:List Tk} {i:Nat} {a c:Int} {t:Tk} {r:List Tk}
theorem qgT (h:T.drop i=t::r):i<T.length:=by
 have:=congrArg List.length h
 rw[List.length_drop,List.length_cons] at this
 omega
theorem qfb {k v e c':Int} {x:ByteArray} {at_:Int}:Z tP (.call 255 [.ptr 0 0,ptD k x at_ v e,.int c'] (PS s T i a c))=some (.ret (qa8 c') (PS s T i at_ c')):=by
 refine Z_call (pf:=F255) rfl rfl ?_
 simp[F255,List.range_succ]
theorem qap (h:T.drop i=t::r) (hb:t.bad=0):Z tP (.call 252 [.ptr 0 0] (PS s T i a c))=some (.ret (ptk t) (PS s T i a c)):=by
 have hlt:(i:Int)<T.length:=by have:=qgT h; omega
 have hc:=qlu h
 have hk : ¬ kindT t=6:=fun e=>by
  unfold kindT at e
  rw[if_neg (by simp[hb])] at e
  revert e
  split<;>(try split)<;>(try split)<;>omega
 refine Z_call (pf:=F252) rfl rfl ?_
 simp[F252,qao,hlt,hc,hk,List.range_succ]
theorem qdF (h:T.drop i=t::r) (hb:t.bad≠0):Z tP (.call 252 [.ptr 0 0] (PS s T i a c))=some (.ret (qa8 t.bad) (PS s T i t.at_ t.bad)):=by
 have hlt:(i:Int)<T.length:=by have:=qgT h; omega
 have hc:=qlu h
 have hk:kindT t=6:=by unfold kindT; rw[if_pos hb]
 have zf:=qfb (s:=s) (T:=T) (i:=i) (a:=a) (c:=c) (k:=6) (x:=qej t) (at_:=t.at_) (v:=valT t) (e:=t.bad) (c':=t.bad)
 rw[hk] at hc
 simp only[PS,pO,ptD] at zf
 refine Z_call (pf:=F252) rfl rfl ?_
 simp[F252,qao,hlt,hc,hk,zf,qac,List.range_succ]
end
end Go.Pm
end SKi
section SKj
namespace Go.Pm
open F
set_option maxHeartbeats 4000000
attribute [local simp] qa4 qbv dkey
def Out {α : Type} (s:ByteArray) (T:List Tk) (res:Option Res) (x:Rz α) (f : α -> V):Prop:=match x with
 | .ok e r => ∃ i',T.drop i'=r/\r≠[]/\res=some (.ret (f e) (PS s T i' 0 12))
 | .er a c => ∃ i':Nat,res=some (.ret (qa8 c) (PS s T i' a c))
def WfQ (T:List Tk):Prop := ∀ i t,T.drop i=[t]->t.bad≠0\/t.s=⟨#[]⟩
theorem qmo (s:ByteArray) : ∀ n i,WfQ (qbK 12 2 6 s n i)
 | 0,i,k,t,h=>by
  simp only[qbK] at h
  rcases k with _ | k
  ·simp only[List.drop_zero,List.cons.injEq,and_true] at h
   rw[<- h]; exact .inr rfl
  ·simp at h
 | n+1,i,k,t,h=>by
  rw[qbK] at h
  try simp only at h
  generalize tokAt 12 2 6 s (qf2 s (s.size-i) false i)=u at h
  split at h
  ·rename_i hu
   rcases k with _ | k
   ·simp only[List.drop_zero,List.cons.injEq,and_true] at h
    rw[<- h]
    rcases hu with hu | hu
    ·exact .inl hu
    ·exact .inr (by
      have hb:byl u.s=[]:=List.eq_nil_of_length_eq_zero (by rw[qaI]; exact hu)
      have:=qcr u.s
      rw[hb] at this
      exact this.symm)
   ·simp at h
  ·rcases k with _ | k
   ·simp only[List.drop_zero,List.cons.injEq] at h
    have hne:qbK 12 2 6 s n (u.at_+u.s.size)≠[]:=by
     cases n<;>simp only[qbK]
     ·simp
     ·split<;>simp
    exact absurd h.2 hne
   ·rw[List.drop_succ_cons] at h
    exact qmo s n _ k t h
section
variable {s:ByteArray} {T:List Tk} {i:Nat} {a c:Int} {t:Tk} {r:List Tk}
theorem WfQ.next (hw:WfQ T) (h:T.drop i=t::r) (hb:t.bad=0) (hs:t.s≠⟨#[]⟩):T.drop (i+1)=r/\r≠[]:=by
 refine⟨by rw[<- List.drop_drop,h]; rfl,?_⟩
 rintro rfl
 rcases hw i t h with h1 | h1
 ·exact h1 hb
 ·exact hs h1
theorem qdi (hb:t.bad=0):(kindT t=0)=(t.s=⟨#[]⟩):=by
 have:=qe6 t
 apply propext
 constructor
 ·intro h
  rcases this.1 (.inl h) with h1 | h1
  ·exact absurd hb h1
  ·have hbl:byl t.s=[]:=List.eq_nil_of_length_eq_zero (by rw[qaI]; exact h1)
   have:=qcr t.s
   rw[hbl] at this
   exact this.symm
 ·intro h
  unfold kindT
  rw[if_neg (by simp[hb]),if_pos h]
theorem qaC (h:T.drop i=t::r) (hb:t.bad=0) {d:D} {l:List ByteArray} (hd:RowS d l) (hl:l.length<2 ^ 40) (hn:(⟨#[]⟩:ByteArray)∉l):Z tP (.call 269 [.ptr 0 0,.dat d] (PS s T i a c))=some (.ret (.bool (decide (t.s∈l))) (PS s T i a c)):=by
 have zp:=qap (s:=s) (a:=a) (c:=c) h hb
 have zc:=qkW hd hl t.s
 have ho:=hd.one
 have hcl:=hd.cells
 have ht:=qah hb
 have hk:=qdi hb
 simp only[PS,pO,ptk,ptD,ht] at zp
 refine Z_call (pf:=F269) rfl rfl ?_
 by_cases h0:t.s=⟨#[]⟩
 ·have hk0:decide (kindT t=0)=true:=decide_eq_true (hk.mpr h0)
  have hm:t.s∉l:=by rw[h0]; exact hn
  simp[F269,zp,zc,ho,hcl,hk0,hm,List.range_succ]
 ·have hk0:decide (kindT t=0)=false:=decide_eq_false (fun e=>h0 (hk.mp e))
  simp[F269,zp,zc,ho,hcl,hk0,List.range_succ]
theorem qeC (h:T.drop i=t::r) (hb:t.bad≠0) {d:D} {l:List ByteArray} (hd:RowS d l):Z tP (.call 269 [.ptr 0 0,.dat d] (PS s T i a c))=some (.ret (qa8 t.bad) (PS s T i t.at_ t.bad)):=by
 have zp:=qdF (s:=s) (a:=a) (c:=c) h hb
 have ho:=hd.one
 have hcl:=hd.cells
 simp only[PS,pO] at zp
 refine Z_call (pf:=F269) rfl rfl ?_
 simp[F269,zp,ho,hcl,qac,List.range_succ]
theorem qaA (h:T.drop i=t::r) (hb:t.bad=0) (hl:T.length<2 ^ 40):Z tP (.call 277 [.ptr 0 0] (PS s T i a c))=some (.ret (ptk t) (PS s T ((i+1:Nat):Int) a c)):=by
 have zp:=qap (s:=s) (a:=a) (c:=c) h hb
 have hlt:=qgT h
 have w1:=qaj ((i:Int)+1) (by omega)
 simp only[PS,pO,ptk,ptD] at zp
 refine Z_call (pf:=F277) rfl rfl ?_
 simp[F277,zp,w1,List.range_succ]
theorem qfi (h:T.drop i=t::r) (hb:t.bad=0) (hl:T.length<2 ^ 40) (hx:t.s≠⟨#[]⟩):Z tP (.call 253 [.ptr 0 0,.str t.s] (PS s T i a c))=some (.ret (.tup []) (PS s T ((i+1:Nat):Int) a c)):=by
 have zi:=qaC (s:=s) (a:=a) (c:=c) h hb (qad [t.s] true) (by simp) (by simp; exact fun e=>hx e.symm)
 have hlt:=qgT h
 have w1:=qaj ((i:Int)+1) (by omega)
 simp only[PS,pO,qaS,List.map_cons,List.map_nil,List.length_singleton,List.mem_singleton,decide_true] at zi
 refine Z_call (pf:=F253) rfl rfl ?_
 simp[F253,zi,w1,List.range_succ]
theorem qk7 (h:T.drop i=t::r) (hb:t.bad=0) {x:ByteArray} (hx:x≠⟨#[]⟩) (hne:t.s≠x):Z tP (.call 253 [.ptr 0 0,.str x] (PS s T i a c))=some (.ret (qa8 12) (PS s T i t.at_ 12)):=by
 have zi:=qaC (s:=s) (a:=a) (c:=c) h hb (qad [x] true) (by simp) (by simp; exact fun e=>hx e.symm)
 have zp:=qap (s:=s) (a:=a) (c:=c) h hb
 have zf:=qfb (s:=s) (T:=T) (i:=i) (a:=a) (c:=c) (k:=kindT t) (x:=qej t) (at_:=t.at_) (v:=valT t) (e:=t.bad) (c':=12)
 simp only[PS,pO,qaS,List.map_cons,List.map_nil,List.length_singleton,List.mem_singleton,hne,decide_false] at zi
 simp only[PS,pO,ptk,ptD] at zp zf
 refine Z_call (pf:=F253) rfl rfl ?_
 simp[F253,zi,zp,zf,qac,List.range_succ]
theorem qjC (h:T.drop i=t::r) (hb:t.bad≠0) {x:ByteArray}:Z tP (.call 253 [.ptr 0 0,.str x] (PS s T i a c))=some (.ret (qa8 t.bad) (PS s T i t.at_ t.bad)):=by
 have zi:=qeC (s:=s) (a:=a) (c:=c) h hb (qad [x] true)
 simp only[PS,pO,qaS,List.map_cons,List.map_nil,List.length_singleton] at zi
 refine Z_call (pf:=F253) rfl rfl ?_
 simp[F253,zi,qac,List.range_succ]
end
end Go.Pm
end SKj
section SKk
namespace Go.Pm
open F
set_option maxHeartbeats 4000000
attribute [local simp] qa4 qbv dkey
section
variable {s:ByteArray} {T:List Tk} {i:Nat} {t:Tk} {r:List Tk}
theorem qb1 (hw:WfQ T) (hl:T.length<2 ^ 40) (h:T.drop i=t::r) {x:ByteArray} (hx:x≠⟨#[]⟩):Out s T (Z tP (.call 253 [.ptr 0 0,.str x] (PS s T i 0 12))) (qaF 12 x (t::r)) (fun _ => .tup []):=by
 simp only[qaF]
 by_cases hb:t.bad=0
 ·by_cases he:t.s=x
  ·rw[if_pos ⟨hb,he⟩]
   subst he
   obtain⟨n1,n2⟩:=hw.next h hb hx
   exact⟨i+1,n1,n2,qfi h hb hl hx⟩
  ·rw[if_neg (fun e=>he e.2)]
   simp only[qbP,if_pos hb]
   exact⟨i,qk7 h hb hx he⟩
 ·rw[if_neg (fun e=>hb e.1)]
  simp only[qbP,if_neg hb]
  exact⟨i,qjC h hb⟩
theorem qfO (hw:WfQ T) (hl:T.length<2 ^ 40) (h:T.drop i=t::r) {x:ByteArray} (hx:x≠⟨#[]⟩) {lv:Nat}:Out s T (Z tP (.call 270 [.ptr 0 0,.str x,.int lv] (PS s T i 0 12))) (qc4 12 2 x lv (t::r)) (fun _ => .tup []):=by
 have he:=qb1 (s:=s) hw hl h hx
 simp only[qc4]
 by_cases hb:t.bad=0
 ·have zi:=qaC (s:=s) (a:=0) (c:=12) h hb (qad [x] true) (by simp) (by simp; exact fun e=>hx e.symm)
  simp only[PS,pO,qaS,List.map_cons,List.map_nil,List.length_singleton,List.mem_singleton] at zi
  have hnx:nx (t::r)=some t.s:=if_pos hb
  by_cases hxx:t.s=x
  ·by_cases h20:20<lv
   ·rw[if_pos ⟨by rw[hnx,hxx],h20⟩]
    simp only[qbP,if_pos hb]
    have zp:=qap (s:=s) (a:=0) (c:=12) h hb
    have zf:=qfb (s:=s) (T:=T) (i:=i) (a:=0) (c:=12) (k:=kindT t) (x:=qej t) (at_:=t.at_) (v:=valT t) (e:=t.bad) (c':=2)
    simp only[PS,pO,ptk,ptD] at zp zf
    have h20':(20:Int)<lv:=by omega
    simp only[hxx,decide_true] at zi
    refine⟨i,?_⟩
    refine Z_call (pf:=F270) rfl rfl ?_
    simp[F270,zi,zp,zf,h20',qac,List.range_succ]
   ·rw[if_neg (fun e=>h20 e.2)]
    have h20' : ¬ (20:Int)<lv:=by omega
    simp only[hxx,decide_true] at zi
    cases hr:qaF 12 x (t::r) with
    | ok u q=>
     rw[hr] at he
     obtain⟨i',a1,a2,z⟩:=he
     refine⟨i',a1,a2,?_⟩
     simp only[PS,pO] at z
     refine Z_call (pf:=F270) rfl rfl ?_
     simp[F270,zi,z,h20',List.range_succ]
    | er a c=>
     rw[hr] at he
     obtain⟨i',z⟩:=he
     refine⟨i',?_⟩
     simp only[PS,pO] at z
     refine Z_call (pf:=F270) rfl rfl ?_
     simp[F270,zi,z,h20',qac,List.range_succ]
  ·rw[if_neg (fun e=>hxx (Option.some.inj (hnx.symm.trans e.1)))]
   simp only[hxx,decide_false] at zi
   cases hr:qaF 12 x (t::r) with
   | ok u q=>
    rw[hr] at he
    obtain⟨i',a1,a2,z⟩:=he
    refine⟨i',a1,a2,?_⟩
    simp only[PS,pO] at z
    refine Z_call (pf:=F270) rfl rfl ?_
    simp[F270,zi,z,List.range_succ]
   | er a c=>
    rw[hr] at he
    obtain⟨i',z⟩:=he
    refine⟨i',?_⟩
    simp only[PS,pO] at z
    refine Z_call (pf:=F270) rfl rfl ?_
    simp[F270,zi,z,qac,List.range_succ]
 ·have hnx:nx (t::r)=none:=if_neg hb
  rw[if_neg (fun e=>(by rw[hnx] at e; cases e.1))]
  have zi:=qeC (s:=s) (a:=0) (c:=12) h hb (qad [x] true)
  simp only[PS,pO,qaS,List.map_cons,List.map_nil,List.length_singleton] at zi
  simp only[qaF]
  rw[if_neg (fun e=>hb e.1)]
  simp only[qbP,if_neg hb]
  refine⟨i,?_⟩
  refine Z_call (pf:=F270) rfl rfl ?_
  simp[F270,zi,qac,List.range_succ]
end
end Go.Pm
end SKk
section SKl
namespace Go.Pm
open F
set_option maxHeartbeats 4000000
attribute [local simp] qa4 qbv dkey
def fnP:Nat->Nat
 | 1=>279 | 2=>287 | 3=>290 | 4=>292 | 5=>297 | 6=>304 | 7=>308 | _=>309
def clF:Nat->Nat
 | 1=>286 | 2=>289 | 5=>303 | _=>307
def qe7:Nat->List ByteArray
 | 1=>[⟨#[124,124]⟩] | 2=>[⟨#[38,38]⟩] | 5=>[⟨#[43]⟩,⟨#[45]⟩] | _=>[⟨#[42]⟩,⟨#[47]⟩]
def qhV (p:Nat):Prop:=p=1\/p=2\/p=5\/p=6
abbrev CS (s:ByteArray) (T:List Tk) (lv:Int) (i a c:Int):S:=[.cells [.ptr 2 0],.cells [.int lv],pO s 3 (.gsl (ptC T) T.length 5 4) i a c,.map kwM,.tip (ptC T).length]
abbrev BS (s:ByteArray) (T:List Tk) (lv:Int) (i a c:Int):S:=[pO s 3 (.gsl (ptC T) T.length 5 4) i a c,.cells [.ptr 0 0],.cells [.int lv],.map kwM,.tip (ptC T).length]
abbrev ndO (e:E):Ob := .cells [.int e.kind,.int e.num,.str e.str,.dat e.kids]
abbrev nd0:Ob := .cells [.int 0,.int 0,.str ⟨#[]⟩,.dat (.lit (.slice none 0 0))]
abbrev BL (s:ByteArray) (T:List Tk) (lv:Int) (i a c:Int) (e:E):S:=[pO s 3 (.gsl (ptC T) T.length 5 4) i a c,.cells [.ptr 0 0],.cells [.int lv],.map kwM,.tip (ptC T).length,nd0,ndO e]
abbrev bqF (g:Nat) (d:D):Fr:=[(0,.ptr 0 0),(1,.fn g [] [.ptr 1 0,.ptr 2 0]),(2,.dat d),(6,.ptr 5 0),(7,.ptr 6 0)]
section
variable {s:ByteArray} {T:List Tk} {i i':Nat} {lv:Int} {t:Tk} {r:List Tk} {p:Nat}
theorem ql5 (hp:qhV p) {e:E} (z:Z tP (.call (fnP (p+1)) [.ptr 0 0,.int lv] (PS s T i 0 12))=some (.ret e.node (PS s T i' 0 12))):Z tP (.call (clF p) [.ptr 0 0,.ptr 1 0] (CS s T lv i 0 12))=some (.ret e.node (CS s T lv i' 0 12)):=by
 simp only[PS,pO] at z
 rcases hp with rfl | rfl | rfl | rfl
 ·refine Z_call (pf:=F286) rfl rfl ?_
  simp only[fnP] at z
  simp[F286,z,List.range_succ]
 ·refine Z_call (pf:=F289) rfl rfl ?_
  simp only[fnP] at z
  simp[F289,z,List.range_succ]
 ·refine Z_call (pf:=F303) rfl rfl ?_
  simp only[fnP] at z
  simp[F303,z,List.range_succ]
 ·refine Z_call (pf:=F307) rfl rfl ?_
  simp only[fnP] at z
  simp[F307,z,List.range_succ]
theorem qkk (hp:qhV p) {a c:Int} (z:Z tP (.call (fnP (p+1)) [.ptr 0 0,.int lv] (PS s T i 0 12))=some (.ret (qa8 c) (PS s T i' a c))):Z tP (.call (clF p) [.ptr 0 0,.ptr 1 0] (CS s T lv i 0 12))=some (.ret (qa8 c) (CS s T lv i' a c)):=by
 simp only[PS,pO] at z
 rcases hp with rfl | rfl | rfl | rfl
 ·refine Z_call (pf:=F286) rfl rfl ?_
  simp only[fnP] at z
  simp[F286,z,qac,List.range_succ]
 ·refine Z_call (pf:=F289) rfl rfl ?_
  simp only[fnP] at z
  simp[F289,z,qac,List.range_succ]
 ·refine Z_call (pf:=F303) rfl rfl ?_
  simp only[fnP] at z
  simp[F303,z,qac,List.range_succ]
 ·refine Z_call (pf:=F307) rfl rfl ?_
  simp only[fnP] at z
  simp[F307,z,qac,List.range_succ]
theorem qnm {g:Nat} {d:D} {l:List ByteArray} (hd:RowS d l) (hl:l.length<2 ^ 40) (hn:(⟨#[]⟩:ByteArray)∉l) (h:T.drop i=t::r) (hb:t.bad=0) (hm:t.s∉l) (e:E):Z tP (.loop 5 F285l0 (bqF g d) (BL s T lv i 0 12 e))=some (.out (.exit 0) (bqF g d++[(13,.bool false)]) (BL s T lv i 0 12 e)):=by
 have zi:=qaC (s:=s) (a:=0) (c:=12) h hb hd hl hn
 have ho:=hd.one
 have hcl:=hd.cells
 simp only[PS,pO,hm,decide_false] at zi
 rw[qaf]
 simp[qai,qd7,zi,ho,hcl,List.range_succ]
theorem qnn {g:Nat} {d:D} {l:List ByteArray} (hd:RowS d l) (h:T.drop i=t::r) (hb:t.bad≠0) (e:E):Z tP (.loop 5 F285l0 (bqF g d) (BL s T lv i 0 12 e))=some (.out (.pan (.iface 1 (.int t.bad))) ((12,.dat d)::(11,.ptr 0 0)::bqF g d) (BL s T lv i t.at_ t.bad e)):=by
 have zi:=qeC (s:=s) (a:=0) (c:=12) h hb hd
 have ho:=hd.one
 have hcl:=hd.cells
 simp only[PS,pO] at zi
 rw[qaf]
 simp[qai,qd7,zi,ho,hcl,qac,List.range_succ]
theorem ql6 {g:Nat} {d:D} {l:List ByteArray} (hd:RowS d l) (hl:l.length<2 ^ 40) (hT:T.length<2 ^ 40) (hn:(⟨#[]⟩:ByteArray)∉l) (h:T.drop i=t::r) (hb:t.bad=0) (hm:t.s∈l) {o:Bop} (ho':t.s=o.str) (e e':E)
  (z:Z tP (.call g [.ptr 0 0,.ptr 1 0] (CS s T lv ((i+1:Nat):Int) 0 12))=some (.ret e'.node (CS s T lv i' 0 12))):Z tP (.loop 5 F285l0 (bqF g d) (BL s T lv i 0 12 e))=Z tP (.loop 5 F285l0 (bqF g d) (BL s T lv i' 0 12 (.bin true o e e'))):=by
 have zi:=qaC (s:=s) (a:=0) (c:=12) h hb hd hl hn
 have zt:=qaA (s:=s) (a:=0) (c:=12) h hb hT
 have ho:=hd.one
 have hcl:=hd.cells
 have htx:=qah hb
 simp only[PS,pO,hm,decide_true] at zi
 simp only[PS,pO,ptk,ptD,htx,ho'] at zt
 simp only[CS,pO] at z
 simp only[Int.natCast_add,Int.cast_ofNat_Int] at z zt
 conv=>lhs; rw[qaf]
 simp[qai,qd7,zi,zt,z,ho,hcl,qcy,qa2,qbg,qbz,qa3,still,V.same,List.range_succ]
 rfl
theorem qno {g:Nat} {d:D} {l:List ByteArray} (hd:RowS d l) (hl:l.length<2 ^ 40) (hT:T.length<2 ^ 40) (hn:(⟨#[]⟩:ByteArray)∉l) (h:T.drop i=t::r) (hb:t.bad=0) (hm:t.s∈l) (e:E) {a c:Int}
  (z:Z tP (.call g [.ptr 0 0,.ptr 1 0] (CS s T lv ((i+1:Nat):Int) 0 12))=some (.ret (qa8 c) (CS s T lv i' a c))):Z tP (.loop 5 F285l0 (bqF g d) (BL s T lv i 0 12 e))=some (.out (.pan (.iface 1 (.int c))) [] (BL s T lv i' a c e)):=by
 have zi:=qaC (s:=s) (a:=0) (c:=12) h hb hd hl hn
 have zt:=qaA (s:=s) (a:=0) (c:=12) h hb hT
 have ho:=hd.one
 have hcl:=hd.cells
 simp only[PS,pO,hm,decide_true] at zi
 simp only[PS,pO,ptk,ptD] at zt
 simp only[CS,pO] at z
 simp only[Int.natCast_add,Int.cast_ofNat_Int] at z zt
 rw[qaf]
 simp[qai,qd7,zi,zt,z,ho,hcl,qac,qat,qcy,qa2,qbg,qbz,qa3,still,V.same,List.range_succ]
end
end Go.Pm
end SKl
section SKm
namespace Go.Pm
open F
set_option maxHeartbeats 4000000
attribute [local simp] qa4 qbv dkey
theorem qpD {p:Nat} (hp:qhV p) {y:ByteArray} {o:Bop} (h:qjj p y=some o):y=o.str/\y∈qe7 p:=by
 have h1:o.str=y:=by have:=List.find?_some h; simpa using this
 have h2:=List.mem_of_find?_eq_some h
 subst h1
 refine⟨rfl,?_⟩
 rcases hp with rfl | rfl | rfl | rfl<;>simp only[List.mem_cons,List.not_mem_nil,or_false] at h2
 ·subst h2; decide
 ·subst h2; decide
 ·rcases h2 with rfl | rfl<;>decide
 ·rcases h2 with rfl | rfl<;>decide
theorem qpE {p:Nat} (hp:qhV p) {y:ByteArray} (h:qjj p y=none):y∉qe7 p:=by
 have h2:=List.find?_eq_none.1 h
 rcases hp with rfl | rfl | rfl | rfl<;>simp only[List.mem_cons,List.not_mem_nil,or_false] at h2
 ·intro hm
  exact h2 .or rfl (by simpa [qe7,Bop.str,eq_comm] using hm)
 ·intro hm
  exact h2 .and rfl (by simpa [qe7,Bop.str,eq_comm] using hm)
 ·intro hm
  simp only[qe7,List.mem_cons,List.not_mem_nil,or_false] at hm
  rcases hm with rfl | rfl
  ·exact h2 .add (.inl rfl) (by decide)
  ·exact h2 .sub (.inr rfl) (by decide)
 ·intro hm
  simp only[qe7,List.mem_cons,List.not_mem_nil,or_false] at hm
  rcases hm with rfl | rfl
  ·exact h2 .mul (.inl rfl) (by decide)
  ·exact h2 .div (.inr rfl) (by decide)
theorem qrg {p:Nat} (hp:qhV p):(⟨#[]⟩:ByteArray)∉qe7 p/\(qe7 p).length<2 ^ 40:=by
 rcases hp with rfl | rfl | rfl | rfl<;>exact⟨by decide,by decide⟩
section
variable (s:ByteArray) (T:List Tk)
def ExK (n:Nat):Prop := ∀ (p lv i:Nat) (t:Tk) (r:List Tk) (x:Rz E),1<=p->p<=8->lv<=20->T.drop i=t::r->qak 12 2 true n p lv (t::r)=some x->Out s T (Z tP (.call (fnP p) [.ptr 0 0,.int lv] (PS s T i 0 12))) x E.node
def LoK (n:Nat):Prop := ∀ (p lv i:Nat) (t:Tk) (r:List Tk) (e:E) (x:Rz E),qhV p->lv<=20->T.drop i=t::r->qb8 12 2 true n p lv e (t::r)=some x->match x with
 | .ok e' r' => ∃ i',T.drop i'=r'/\r'≠[]/\Z tP (.loop 5 F285l0 (bqF (clF p) (.sl (qaS (qe7 p)) (qe7 p).length true)) (BL s T lv i 0 12 e))=some (.out (.exit 0) (bqF (clF p) (.sl (qaS (qe7 p)) (qe7 p).length true)++[(13,.bool false)]) (BL s T lv i' 0 12 e'))
 | .er a c => ∃ (i':Nat) (fr:Fr) (e':E),fr.get 1000000=none/\Z tP (.loop 5 F285l0 (bqF (clF p) (.sl (qaS (qe7 p)) (qe7 p).length true)) (BL s T lv i 0 12 e))=some (.out (.pan (.iface 1 (.int c))) fr (BL s T lv i' a c e'))
variable {s:ByteArray} {T:List Tk}
theorem qpF (hw:WfQ T) (hT:T.length<2 ^ 40) {n:Nat} (ihe:ExK s T n) (ihl:LoK s T n):LoK s T (n+1):=by
 intro p lv i t r e x hp hlv h hx
 obtain⟨on,ol⟩:=qrg hp
 have hd:=qad (qe7 p) true
 have hp2:p≠3/\p≠4/\p≠7/\1<=p/\p<=6:=by rcases hp with rfl | rfl | rfl | rfl<;>omega
 rw[qb8] at hx
 by_cases hb:t.bad=0
 ·have hnx:nx (t::r)=some t.s:=if_pos hb
  rw[hnx] at hx
  simp only at hx
  cases ho:qjj p t.s with
  | none=>
   rw[ho] at hx
   cases hx
   exact⟨i,h,by simp,qnm hd ol on h hb (qpE hp ho) e⟩
  | some o=>
   rw[ho] at hx
   simp only[List.tail_cons] at hx
   obtain⟨q1,q2⟩:=qpD hp ho
   have hne:t.s≠⟨#[]⟩:=fun e=>on (e ▸ q2)
   obtain⟨n1,n2⟩:=hw.next h hb hne
   obtain⟨t',r',hr⟩ : ∃ t' r',r=t'::r':=by cases r with
    | nil=>exact absurd rfl n2
    | cons a b=>exact⟨a,b,rfl⟩
   subst hr
   cases hq:qak 12 2 true n (p+1) lv (t'::r') with
   | none=>rw[hq] at hx; cases hx
   | some y=>
    rw[hq] at hx
    have ho':=ihe (p+1) lv (i+1) t' r' y (by omega) (by omega) hlv n1 hq
    cases y with
    | er a c=>
     simp only[Option.some.injEq] at hx
     subst hx
     obtain⟨i',z⟩:=ho'
     exact⟨i',_,e,rfl,qno hd ol hT on h hb q2 e (qkk hp z)⟩
    | ok e' r''=>
     simp only[if_neg hp2.2.1] at hx
     obtain⟨i',a1,a2,z⟩:=ho'
     have zs:=ql6 hd ol hT on h hb q2 q1 e e' (ql5 hp z)
     obtain⟨t2,r2,hr2⟩ : ∃ t2 r2,r''=t2::r2:=by cases r'' with
      | nil=>exact absurd rfl a2
      | cons a b=>exact⟨a,b,rfl⟩
     subst hr2
     have:=ihl p lv i' t2 r2 (.bin true o e e') x hp hlv a1 hx
     cases x with
     | ok e3 r3=>
      obtain⟨i3,b1,b2,b3⟩:=this
      exact⟨i3,b1,b2,zs.trans b3⟩
     | er a c=>
      obtain⟨i3,fr,e3,b1,b2⟩:=this
      exact⟨i3,fr,e3,b1,zs.trans b2⟩
 ·have hnx:nx (t::r)=none:=if_neg hb
  rw[hnx] at hx
  simp only at hx
  rw[if_neg (by omega)] at hx
  simp only[qbP,if_neg hb,Option.some.injEq] at hx
  subst hx
  exact⟨i,_,e,rfl,qnn hd h hb e⟩
end
end Go.Pm
end SKm
section SKn
namespace Go.Pm
open F
set_option maxHeartbeats 4000000
attribute [local simp] qa4 qbv dkey
section
variable {s:ByteArray} {T:List Tk} {lv i i' i2:Nat} {g:Nat} {d:D} {e e':E} {a c:Int}
theorem qtv (ho:V.one (.dat d)=true) (hc:V.cells (.dat d)=[.dat d])
  (z:Z tP (.call g [.ptr 0 0,.ptr 1 0] (CS s T lv i 0 12))=some (.ret e.node (CS s T lv i' 0 12)))
  (zl:Z tP (.loop 5 F285l0 (bqF g d) (BL s T lv i' 0 12 e))=some (.out (.exit 0) (bqF g d++[(13,.bool false)]) (BL s T lv i2 0 12 e'))) :
  Z tP (.call 285 [.ptr 0 0,.fn g [] [.ptr 1 0,.ptr 2 0],.dat d] (BS s T lv i 0 12))=some (.ret e'.node (BS s T lv i2 0 12)):=by
 simp only[CS,BL,pO,ndO] at z zl
 refine Z_call (pf:=F285) rfl rfl ?_
 simp[F285,z,zl,ho,hc,List.range_succ]
theorem qrd (ho:V.one (.dat d)=true) (hc:V.cells (.dat d)=[.dat d])
  (z:Z tP (.call g [.ptr 0 0,.ptr 1 0] (CS s T lv i 0 12))=some (.ret (qa8 c) (CS s T lv i' a c))) :
  Z tP (.call 285 [.ptr 0 0,.fn g [] [.ptr 1 0,.ptr 2 0],.dat d] (BS s T lv i 0 12))=some (.ret (qa8 c) (BS s T lv i' a c)):=by
 simp only[CS,pO] at z
 refine Z_call (pf:=F285) rfl rfl ?_
 simp[F285,z,ho,hc,qac,List.range_succ]
theorem qre (ho:V.one (.dat d)=true) (hc:V.cells (.dat d)=[.dat d]) {fr:Fr} (hf:fr.get 1000000=none)
  (z:Z tP (.call g [.ptr 0 0,.ptr 1 0] (CS s T lv i 0 12))=some (.ret e.node (CS s T lv i' 0 12)))
  (zl:Z tP (.loop 5 F285l0 (bqF g d) (BL s T lv i' 0 12 e))=some (.out (.pan (.iface 1 (.int c))) fr (BL s T lv i2 a c e'))) :
  Z tP (.call 285 [.ptr 0 0,.fn g [] [.ptr 1 0,.ptr 2 0],.dat d] (BS s T lv i 0 12))=some (.ret (qa8 c) (BS s T lv i2 a c)):=by
 simp only[CS,BL,pO,ndO] at z zl
 refine Z_call (pf:=F285) rfl rfl ?_
 simp[F285,z,zl,ho,hc,hf,List.range_succ]
theorem qtw {p:Nat} (hp:qhV p) (z:Z tP (.call 285 [.ptr 0 0,.fn (clF p) [] [.ptr 1 0,.ptr 2 0],.dat (.sl (qaS (qe7 p)) (qe7 p).length true)] (BS s T lv i 0 12))=some (.ret e.node (BS s T lv i' 0 12))) :
  Z tP (.call (fnP p) [.ptr 0 0,.int lv] (PS s T i 0 12))=some (.ret e.node (PS s T i' 0 12)):=by
 simp only[BS,pO] at z
 rcases hp with rfl | rfl | rfl | rfl
 ·refine Z_call (pf:=F279) rfl rfl ?_
  simp only[clF,qe7,qaS,List.map_cons,List.map_nil,List.length_cons,List.length_nil] at z
  simp[F279,z,List.range_succ]
 ·refine Z_call (pf:=F287) rfl rfl ?_
  simp only[clF,qe7,qaS,List.map_cons,List.map_nil,List.length_cons,List.length_nil] at z
  simp[F287,z,List.range_succ]
 ·refine Z_call (pf:=F297) rfl rfl ?_
  simp only[clF,qe7,qaS,List.map_cons,List.map_nil,List.length_cons,List.length_nil] at z
  simp[F297,z,List.range_succ]
 ·refine Z_call (pf:=F304) rfl rfl ?_
  simp only[clF,qe7,qaS,List.map_cons,List.map_nil,List.length_cons,List.length_nil] at z
  simp[F304,z,List.range_succ]
theorem qrf {p:Nat} (hp:qhV p) (z:Z tP (.call 285 [.ptr 0 0,.fn (clF p) [] [.ptr 1 0,.ptr 2 0],.dat (.sl (qaS (qe7 p)) (qe7 p).length true)] (BS s T lv i 0 12))=some (.ret (qa8 c) (BS s T lv i' a c))) :
  Z tP (.call (fnP p) [.ptr 0 0,.int lv] (PS s T i 0 12))=some (.ret (qa8 c) (PS s T i' a c)):=by
 simp only[BS,pO] at z
 rcases hp with rfl | rfl | rfl | rfl
 ·refine Z_call (pf:=F279) rfl rfl ?_
  simp only[clF,qe7,qaS,List.map_cons,List.map_nil,List.length_cons,List.length_nil] at z
  simp[F279,z,qac,List.range_succ]
 ·refine Z_call (pf:=F287) rfl rfl ?_
  simp only[clF,qe7,qaS,List.map_cons,List.map_nil,List.length_cons,List.length_nil] at z
  simp[F287,z,qac,List.range_succ]
 ·refine Z_call (pf:=F297) rfl rfl ?_
  simp only[clF,qe7,qaS,List.map_cons,List.map_nil,List.length_cons,List.length_nil] at z
  simp[F297,z,qac,List.range_succ]
 ·refine Z_call (pf:=F304) rfl rfl ?_
  simp only[clF,qe7,qaS,List.map_cons,List.map_nil,List.length_cons,List.length_nil] at z
  simp[F304,z,qac,List.range_succ]
end
section
variable {s:ByteArray} {T:List Tk}
theorem qkC {n:Nat} (ihe:ExK s T n) (ihl:LoK s T n) {p lv i:Nat} {t:Tk} {r:List Tk} {x:Rz E} (hp:qhV p) (hlv:lv<=20) (h:T.drop i=t::r) (hx:qak 12 2 true (n+1) p lv (t::r)=some x):Out s T (Z tP (.call (fnP p) [.ptr 0 0,.int lv] (PS s T i 0 12))) x E.node:=by
 have hp2:p≠3/\p≠7/\1<=p/\p<8/\p+1<=8:=by rcases hp with rfl | rfl | rfl | rfl<;>omega
 have hd:=qad (qe7 p) true
 rw[qak,if_neg (by rintro (h | h); exact hp2.1 h.1; exact hp2.2.1 h.1),if_pos hp2.2.2.2.1] at hx
 cases hq:qak 12 2 true n (p+1) lv (t::r) with
 | none=>rw[hq] at hx; cases hx
 | some y=>
  rw[hq] at hx
  have ho:=ihe (p+1) lv i t r y (by omega) hp2.2.2.2.2 hlv h hq
  cases y with
  | er a c=>
   simp only[Option.some.injEq] at hx
   subst hx
   obtain⟨i',z⟩:=ho
   exact⟨i',qrf hp (qrd hd.one hd.cells (qkk hp z))⟩
  | ok e r'=>
   simp only at hx
   obtain⟨i',a1,a2,z⟩:=ho
   have zc:=ql5 hp z
   obtain⟨t2,r2,hr2⟩ : ∃ t2 r2,r'=t2::r2:=by cases r' with
    | nil=>exact absurd rfl a2
    | cons a b=>exact⟨a,b,rfl⟩
   subst hr2
   have hl:=ihl p lv i' t2 r2 e x hp hlv a1 hx
   cases x with
   | ok e3 r3=>
    obtain⟨i3,b1,b2,b3⟩:=hl
    exact⟨i3,b1,b2,qtw hp (qtv hd.one hd.cells zc b3)⟩
   | er a c=>
    obtain⟨i3,fr,e3,b1,b2⟩:=hl
    exact⟨i3,qrf hp (qre hd.one hd.cells b1 zc b2)⟩
end
end Go.Pm
end SKn
section SKo
namespace Go.Pm
open F
set_option maxHeartbeats 4000000
attribute [local simp] qa4 qbv dkey
def qkx:List ByteArray:=[⟨#[60]⟩,⟨#[60,61]⟩,⟨#[62]⟩,⟨#[62,61]⟩,⟨#[61,61]⟩,⟨#[33,61]⟩]
theorem qnF {y:ByteArray} {o:Bop} (h:qjj 4 y=some o):y=o.str/\y∈qkx:=by
 have h1:o.str=y:=by have:=List.find?_some h; simpa using this
 have h2:=List.mem_of_find?_eq_some h
 subst h1
 refine⟨rfl,?_⟩
 simp only[List.mem_cons,List.not_mem_nil,or_false] at h2
 rcases h2 with rfl | rfl | rfl | rfl | rfl | rfl<;>decide
theorem qnG {y:ByteArray} (h:qjj 4 y=none):y∉qkx:=by
 have h2:=List.find?_eq_none.1 h
 intro hm
 simp only[qkx,List.mem_cons,List.not_mem_nil,or_false] at hm
 simp only[List.mem_cons,List.not_mem_nil,or_false] at h2
 rcases hm with rfl | rfl | rfl | rfl | rfl | rfl
 ·exact h2 .lt (by simp) (by decide)
 ·exact h2 .le (by simp) (by decide)
 ·exact h2 .gt (by simp) (by decide)
 ·exact h2 .ge (by simp) (by decide)
 ·exact h2 .eq (by simp) (by decide)
 ·exact h2 .ne (by simp) (by decide)
section
variable {s:ByteArray} {T:List Tk} {lv i i' i2:Nat} {e e':E} {a c:Int} {t:Tk} {r:List Tk}
theorem qq3 (z:Z tP (.call 297 [.ptr 0 0,.int lv] (PS s T i 0 12))=some (.ret (qa8 c) (PS s T i' a c))):Z tP (.call 292 [.ptr 0 0,.int lv] (PS s T i 0 12))=some (.ret (qa8 c) (PS s T i' a c)):=by
 simp only[PS,pO] at z
 refine Z_call (pf:=F292) rfl rfl ?_
 simp[F292,z,qac,List.range_succ]
theorem qsA (z:Z tP (.call 297 [.ptr 0 0,.int lv] (PS s T i 0 12))=some (.ret e.node (PS s T i' 0 12))) (h:T.drop i'=t::r) (hb:t.bad=0) (hm:t.s∉qkx):Z tP (.call 292 [.ptr 0 0,.int lv] (PS s T i 0 12))=some (.ret e.node (PS s T i' 0 12)):=by
 have zi:=qaC (s:=s) (a:=0) (c:=12) h hb (qad qkx true) (by decide) (by decide)
 simp only[PS,pO] at z
 simp only[hm,decide_false] at zi
 simp only[PS,pO,qkx,qaS,List.map_cons,List.map_nil,List.length_cons,List.length_nil] at zi
 refine Z_call (pf:=F292) rfl rfl ?_
 simp[F292,z,zi,List.range_succ]
theorem qsB (z:Z tP (.call 297 [.ptr 0 0,.int lv] (PS s T i 0 12))=some (.ret e.node (PS s T i' 0 12))) (h:T.drop i'=t::r) (hb:t.bad≠0):Z tP (.call 292 [.ptr 0 0,.int lv] (PS s T i 0 12))=some (.ret (qa8 t.bad) (PS s T i' t.at_ t.bad)):=by
 have zi:=qeC (s:=s) (a:=0) (c:=12) h hb (qad qkx true)
 simp only[PS,pO] at z
 simp only[PS,pO,qkx,qaS,List.map_cons,List.map_nil,List.length_cons,List.length_nil] at zi
 refine Z_call (pf:=F292) rfl rfl ?_
 simp[F292,z,zi,qac,List.range_succ]
theorem qto (hT:T.length<2 ^ 40) (z:Z tP (.call 297 [.ptr 0 0,.int lv] (PS s T i 0 12))=some (.ret e.node (PS s T i' 0 12))) (h:T.drop i'=t::r) (hb:t.bad=0) (hm:t.s∈qkx) {o:Bop} (hs:t.s=o.str)
  (z2:Z tP (.call 297 [.ptr 0 0,.int lv] (PS s T ((i'+1:Nat):Int) 0 12))=some (.ret e'.node (PS s T i2 0 12))):Z tP (.call 292 [.ptr 0 0,.int lv] (PS s T i 0 12))=some (.ret (E.bin true o e e').node (PS s T i2 0 12)):=by
 have zi:=qaC (s:=s) (a:=0) (c:=12) h hb (qad qkx true) (by decide) (by decide)
 have zt:=qaA (s:=s) (a:=0) (c:=12) h hb hT
 have htx:=qah hb
 simp only[PS,pO] at z z2
 simp only[hm,decide_true] at zi
 simp only[PS,pO,qkx,qaS,List.map_cons,List.map_nil,List.length_cons,List.length_nil] at zi
 simp only[PS,pO,ptk,ptD,htx,hs] at zt
 simp only[Int.natCast_add,Int.cast_ofNat_Int] at z2 zt
 refine Z_call (pf:=F292) rfl rfl ?_
 simp[F292,z,zi,zt,z2,qcy,qa2,qbg,qbz,qa3,still,V.same,List.range_succ]
 try rfl
theorem qq4 (hT:T.length<2 ^ 40) (z:Z tP (.call 297 [.ptr 0 0,.int lv] (PS s T i 0 12))=some (.ret e.node (PS s T i' 0 12))) (h:T.drop i'=t::r) (hb:t.bad=0) (hm:t.s∈qkx)
  (z2:Z tP (.call 297 [.ptr 0 0,.int lv] (PS s T ((i'+1:Nat):Int) 0 12))=some (.ret (qa8 c) (PS s T i2 a c))):Z tP (.call 292 [.ptr 0 0,.int lv] (PS s T i 0 12))=some (.ret (qa8 c) (PS s T i2 a c)):=by
 have zi:=qaC (s:=s) (a:=0) (c:=12) h hb (qad qkx true) (by decide) (by decide)
 have zt:=qaA (s:=s) (a:=0) (c:=12) h hb hT
 simp only[PS,pO] at z z2
 simp only[hm,decide_true] at zi
 simp only[PS,pO,qkx,qaS,List.map_cons,List.map_nil,List.length_cons,List.length_nil] at zi
 simp only[PS,pO,ptk,ptD] at zt
 simp only[Int.natCast_add,Int.cast_ofNat_Int] at z2 zt
 refine Z_call (pf:=F292) rfl rfl ?_
 simp[F292,z,zi,zt,z2,qac,qat,qcy,qa2,qbg,qbz,qa3,still,V.same,List.range_succ]
theorem qq5 (hw:WfQ T) (hT:T.length<2 ^ 40) {n:Nat} (ihe:ExK s T n) {x:Rz E} (hlv:lv<=20) (h:T.drop i=t::r) (hx:qak 12 2 true (n+1) 4 lv (t::r)=some x):Out s T (Z tP (.call 292 [.ptr 0 0,.int lv] (PS s T i 0 12))) x E.node:=by
 rw[qak,if_neg (by rintro (h | h); exact absurd h.1 (by decide); exact absurd h.1 (by decide)),if_pos (by decide)] at hx
 cases hq:qak 12 2 true n 5 lv (t::r) with
 | none=>rw[hq] at hx; cases hx
 | some y=>
  rw[hq] at hx
  have ho:=ihe 5 lv i t r y (by omega) (by omega) hlv h hq
  cases y with
  | er a c=>
   simp only[Option.some.injEq] at hx
   subst hx
   obtain⟨i',z⟩:=ho
   exact⟨i',qq3 z⟩
  | ok e r'=>
   simp only at hx
   obtain⟨i',a1,a2,z⟩:=ho
   obtain⟨t2,r2,hr2⟩ : ∃ t2 r2,r'=t2::r2:=by cases r' with
    | nil=>exact absurd rfl a2
    | cons a b=>exact⟨a,b,rfl⟩
   subst hr2
   cases n with
   | zero=>simp only[qak] at hq; cases hq
   | succ m=>
    rw[qb8] at hx
    by_cases hb:t2.bad=0
    ·have hnx:nx (t2::r2)=some t2.s:=if_pos hb
     rw[hnx] at hx
     simp only at hx
     cases hop:qjj 4 t2.s with
     | none=>
      rw[hop] at hx
      cases hx
      exact⟨i',a1,a2,qsA z a1 hb (qnG hop)⟩
     | some o=>
      rw[hop] at hx
      simp only[List.tail_cons,if_true] at hx
      obtain⟨q1,q2⟩:=qnF hop
      have hne:t2.s≠⟨#[]⟩:=fun e=>absurd (e ▸ q2) (by decide)
      obtain⟨n1,n2⟩:=hw.next a1 hb hne
      obtain⟨t3,r3,hr3⟩ : ∃ t3 r3,r2=t3::r3:=by cases r2 with
       | nil=>exact absurd rfl n2
       | cons a b=>exact⟨a,b,rfl⟩
      subst hr3
      cases hq2:qak 12 2 true m 5 lv (t3::r3) with
      | none=>rw[hq2] at hx; cases hx
      | some y2=>
       rw[hq2] at hx
       have ho2:=ihe 5 lv (i'+1) t3 r3 y2 (by omega) (by omega) hlv n1 (qb2 hq2 (by omega))
       cases y2 with
       | er a c=>
        simp only[Option.some.injEq] at hx
        subst hx
        obtain⟨i2,z2⟩:=ho2
        exact⟨i2,qq4 hT z a1 hb q2 z2⟩
       | ok e2 r4=>
        simp only[Option.some.injEq] at hx
        subst hx
        obtain⟨i2,d1,d2,z2⟩:=ho2
        exact⟨i2,d1,d2,qto hT z a1 hb q2 q1 z2⟩
    ·have hnx:nx (t2::r2)=none:=if_neg hb
     rw[hnx] at hx
     simp only at hx
     rw[if_neg (by decide)] at hx
     simp only[qbP,if_neg hb,Option.some.injEq] at hx
     subst hx
     exact⟨i',qsB z a1 hb⟩
end
end Go.Pm
end SKo
section SKp
namespace Go.Pm
open F
set_option maxHeartbeats 4000000
attribute [local simp] qa4 qbv dkey
theorem qmb {t:Tk} (hb:t.bad≠0) (r:List Tk) : ∀ (n p lv:Nat) (x:Rz E),qak 12 2 true n p lv (t::r)=some x->x = .er t.at_ t.bad
 | 0,p,lv,x,h=>by simp[qak] at h
 | n+1,p,lv,x,h=>by
  have hnx:nx (t::r)=none:=if_neg hb
  rw[qak,hnx,if_neg (by rintro (h | h); cases h.2; cases h.2)] at h
  by_cases hp:p<8
  ·rw[if_pos hp] at h
   cases hq:qak 12 2 true n (p+1) lv (t::r) with
   | none=>rw[hq] at h; cases h
   | some y=>
    have:=qmb hb r n (p+1) lv y hq
    rw[hq,this] at h
    simpa using h.symm
  ·rw[if_neg hp] at h
   simp only[qbP,if_neg hb,Option.some.injEq] at h
   exact h.symm
def unF (neg:Bool):Nat:=if neg then 308 else 290
def unG (neg:Bool):Nat:=if neg then 309 else 292
section
variable {s:ByteArray} {T:List Tk} {lv i i' i2:Nat} {e e':E} {a c:Int} {t:Tk} {r:List Tk} {neg:Bool}
theorem qtl (h:T.drop i=t::r) (hb:t.bad=0) (hm:t.s≠ustr neg) (z:Z tP (.call (unG neg) [.ptr 0 0,.int lv] (PS s T i 0 12))=some (.ret e.node (PS s T i' 0 12))):Z tP (.call (unF neg) [.ptr 0 0,.int lv] (PS s T i 0 12))=some (.ret e.node (PS s T i' 0 12)):=by
 have zi:=qaC (s:=s) (a:=0) (c:=12) h hb (qad [ustr neg] true) (by simp) (by cases neg<;>decide)
 simp only[List.mem_singleton,hm,decide_false] at zi
 simp only[PS,pO] at z
 cases neg
 ·simp only[unG,Bool.false_eq_true,if_false] at z
  simp only[PS,pO,ustr,qaS,List.map_cons,List.map_nil,List.length_singleton,Bool.false_eq_true,if_false] at zi
  refine Z_call (pf:=F290) rfl rfl ?_
  simp[F290,z,zi,List.range_succ]
 ·simp only[unG,if_true] at z
  simp only[PS,pO,ustr,qaS,List.map_cons,List.map_nil,List.length_singleton,if_true] at zi
  refine Z_call (pf:=F308) rfl rfl ?_
  simp[F308,z,zi,List.range_succ]
theorem qpb (h:T.drop i=t::r) (hb:t.bad=0) (hm:t.s≠ustr neg) (z:Z tP (.call (unG neg) [.ptr 0 0,.int lv] (PS s T i 0 12))=some (.ret (qa8 c) (PS s T i' a c))):Z tP (.call (unF neg) [.ptr 0 0,.int lv] (PS s T i 0 12))=some (.ret (qa8 c) (PS s T i' a c)):=by
 have zi:=qaC (s:=s) (a:=0) (c:=12) h hb (qad [ustr neg] true) (by simp) (by cases neg<;>decide)
 simp only[List.mem_singleton,hm,decide_false] at zi
 simp only[PS,pO] at z
 cases neg
 ·simp only[unG,Bool.false_eq_true,if_false] at z
  simp only[PS,pO,ustr,qaS,List.map_cons,List.map_nil,List.length_singleton,Bool.false_eq_true,if_false] at zi
  refine Z_call (pf:=F290) rfl rfl ?_
  simp[F290,z,zi,qac,List.range_succ]
 ·simp only[unG,if_true] at z
  simp only[PS,pO,ustr,qaS,List.map_cons,List.map_nil,List.length_singleton,if_true] at zi
  refine Z_call (pf:=F308) rfl rfl ?_
  simp[F308,z,zi,qac,List.range_succ]
theorem qsr (h:T.drop i=t::r) (hb:t.bad≠0):Z tP (.call (unF neg) [.ptr 0 0,.int lv] (PS s T i 0 12))=some (.ret (qa8 t.bad) (PS s T i t.at_ t.bad)):=by
 have zi:=qeC (s:=s) (a:=0) (c:=12) h hb (qad [ustr neg] true)
 cases neg
 ·simp only[PS,pO,ustr,qaS,List.map_cons,List.map_nil,List.length_singleton,Bool.false_eq_true,if_false] at zi
  refine Z_call (pf:=F290) rfl rfl ?_
  simp[F290,zi,qac,List.range_succ]
 ·simp only[PS,pO,ustr,qaS,List.map_cons,List.map_nil,List.length_singleton,if_true] at zi
  refine Z_call (pf:=F308) rfl rfl ?_
  simp[F308,zi,qac,List.range_succ]
theorem qqT (hlv:lv<=20) (h:T.drop i=t::r) (hb:t.bad=0) (hm:t.s=ustr neg) (zo:Z tP (.call 270 [.ptr 0 0,.str (ustr neg),.int ((lv+1:Nat):Int)] (PS s T i 0 12))=some (.ret (qa8 c) (PS s T i' a c))):Z tP (.call (unF neg) [.ptr 0 0,.int lv] (PS s T i 0 12))=some (.ret (qa8 c) (PS s T i' a c)):=by
 have zi:=qaC (s:=s) (a:=0) (c:=12) h hb (qad [ustr neg] true) (by simp) (by cases neg<;>decide)
 have w1:=qaj ((lv:Int)+1) (by omega)
 simp only[List.mem_singleton,hm,decide_true] at zi
 simp only[PS,pO] at zo
 simp only[Int.natCast_add,Int.cast_ofNat_Int] at zo
 cases neg
 ·simp only[PS,pO,ustr,qaS,List.map_cons,List.map_nil,List.length_singleton,Bool.false_eq_true,if_false] at zi zo
  refine Z_call (pf:=F290) rfl rfl ?_
  simp[F290,zo,zi,w1,qac,List.range_succ]
 ·simp only[PS,pO,ustr,qaS,List.map_cons,List.map_nil,List.length_singleton,if_true] at zi zo
  refine Z_call (pf:=F308) rfl rfl ?_
  simp[F308,zo,zi,w1,qac,List.range_succ]
theorem qss (hlv:lv<=20) (h:T.drop i=t::r) (hb:t.bad=0) (hm:t.s=ustr neg) (zo:Z tP (.call 270 [.ptr 0 0,.str (ustr neg),.int ((lv+1:Nat):Int)] (PS s T i 0 12))=some (.ret (.tup []) (PS s T i' 0 12)))
  (z:Z tP (.call (unF neg) [.ptr 0 0,.int ((lv+1:Nat):Int)] (PS s T i' 0 12))=some (.ret (qa8 c) (PS s T i2 a c))):Z tP (.call (unF neg) [.ptr 0 0,.int lv] (PS s T i 0 12))=some (.ret (qa8 c) (PS s T i2 a c)):=by
 have zi:=qaC (s:=s) (a:=0) (c:=12) h hb (qad [ustr neg] true) (by simp) (by cases neg<;>decide)
 have w1:=qaj ((lv:Int)+1) (by omega)
 simp only[List.mem_singleton,hm,decide_true] at zi
 simp only[PS,pO] at zo z
 simp only[Int.natCast_add,Int.cast_ofNat_Int] at zo z
 cases neg
 ·simp only[PS,pO,unF,ustr,qaS,List.map_cons,List.map_nil,List.length_singleton,Bool.false_eq_true,if_false] at zi zo z
  refine Z_call (pf:=F290) rfl rfl ?_
  simp[F290,zo,zi,z,w1,qac,List.range_succ]
 ·simp only[PS,pO,unF,ustr,qaS,List.map_cons,List.map_nil,List.length_singleton,if_true] at zi zo z
  refine Z_call (pf:=F308) rfl rfl ?_
  simp[F308,zo,zi,z,w1,qac,List.range_succ]
theorem qtm (hlv:lv<=20) (h:T.drop i=t::r) (hb:t.bad=0) (hm:t.s=ustr neg) (zo:Z tP (.call 270 [.ptr 0 0,.str (ustr neg),.int ((lv+1:Nat):Int)] (PS s T i 0 12))=some (.ret (.tup []) (PS s T i' 0 12)))
  (z:Z tP (.call (unF neg) [.ptr 0 0,.int ((lv+1:Nat):Int)] (PS s T i' 0 12))=some (.ret e.node (PS s T i2 0 12))):Z tP (.call (unF neg) [.ptr 0 0,.int lv] (PS s T i 0 12))=some (.ret (E.un true neg e).node (PS s T i2 0 12)):=by
 have zi:=qaC (s:=s) (a:=0) (c:=12) h hb (qad [ustr neg] true) (by simp) (by cases neg<;>decide)
 have w1:=qaj ((lv:Int)+1) (by omega)
 simp only[List.mem_singleton,hm,decide_true] at zi
 simp only[PS,pO] at zo z
 simp only[Int.natCast_add,Int.cast_ofNat_Int] at zo z
 cases neg
 ·simp only[PS,pO,unF,ustr,qaS,List.map_cons,List.map_nil,List.length_singleton,Bool.false_eq_true,if_false] at zi zo z
  refine Z_call (pf:=F290) rfl rfl ?_
  simp[F290,zo,zi,z,w1,List.range_succ]
  rfl
 ·simp only[PS,pO,unF,ustr,qaS,List.map_cons,List.map_nil,List.length_singleton,if_true] at zi zo z
  refine Z_call (pf:=F308) rfl rfl ?_
  simp[F308,zo,zi,z,w1,List.range_succ]
  rfl
end
end Go.Pm
end SKp
section SKq
namespace Go.Pm
open F
set_option maxHeartbeats 2000000
theorem qhO {α : Type} {c:Nat} {ts:List Tk} {a : α} {r:List Tk} (h:qbP (α := α) c ts = .ok a r):False:=by
 cases ts<;>simp[qbP] at h
theorem qhP {x:ByteArray} {lv:Nat} {ts r:List Tk} {u:Unit} (h:qc4 12 2 x lv ts = .ok u r):lv<=20:=by
 by_cases h20:20<lv
 ·rw[qc4] at h
  by_cases hn:nx ts=some x
  ·rw[if_pos ⟨hn,h20⟩] at h
   exact (qhO h).elim
  ·rw[if_neg (fun e=>hn e.1)] at h
   cases ts with
   | nil=>rw[qaF] at h; exact (qhO h).elim
   | cons t r'=>
    simp only[qaF] at h
    by_cases hc:t.bad=0/\t.s=x
    ·exact absurd (show nx (t::r')=some x by rw[nx,if_pos hc.1,hc.2]) hn
    ·rw[if_neg hc] at h
     exact (qhO h).elim
 ·omega
section
variable {s:ByteArray} {T:List Tk} {lv i:Nat} {t:Tk} {r:List Tk}
theorem qaP {α : Type} {l:List α} (h:l≠[]) : ∃ a r,l=a::r:=by
 cases l with
 | nil=>exact absurd rfl h
 | cons a b=>exact⟨a,b,rfl⟩
theorem qqw (hw:WfQ T) (hT:T.length<2 ^ 40) {n:Nat} (ihe:ExK s T n) {p:Nat} {neg:Bool} (hp:p=3/\neg=false\/p=7/\neg=true) {x:Rz E} (hlv:lv<=20) (h:T.drop i=t::r) (hx:qak 12 2 true (n+1) p lv (t::r)=some x):Out s T (Z tP (.call (unF neg) [.ptr 0 0,.int lv] (PS s T i 0 12))) x E.node:=by
 have hF:fnP p=unF neg:=by rcases hp with ⟨rfl,rfl⟩ | ⟨rfl,rfl⟩<;>rfl
 have hG:fnP (p+1)=unG neg:=by rcases hp with ⟨rfl,rfl⟩ | ⟨rfl,rfl⟩<;>rfl
 have hp8:p<8/\1<=p:=by rcases hp with ⟨rfl,_⟩ | ⟨rfl,_⟩<;>omega
 by_cases hb:t.bad=0
 ·have hnx:nx (t::r)=some t.s:=if_pos hb
  by_cases hm:t.s=ustr neg
  ·have hcond:p=3/\nx (t::r)=some (ustr false)\/p=7/\nx (t::r)=some (ustr true):=by
    rw[hnx,hm]
    rcases hp with ⟨rfl,rfl⟩ | ⟨rfl,rfl⟩
    ·exact .inl ⟨rfl,rfl⟩
    ·exact .inr ⟨rfl,rfl⟩
   have h7:(p==7)=neg:=by rcases hp with ⟨rfl,rfl⟩ | ⟨rfl,rfl⟩<;>rfl
   rw[qak,if_pos hcond,h7] at hx
   have ho:=qfO (s:=s) hw hT h (x:=ustr neg) (by cases neg<;>decide) (lv:=lv+1)
   cases hq:qc4 12 2 (ustr neg) (lv+1) (t::r) with
   | er a c=>
    rw[hq] at hx ho
    simp only[Option.some.injEq] at hx
    subst hx
    obtain⟨i',z⟩:=ho
    exact⟨i',qqT hlv h hb hm z⟩
   | ok u r1=>
    have hl1:=qhP hq
    rw[hq] at hx ho
    simp only at hx
    obtain⟨i',a1,a2,z⟩:=ho
    obtain⟨t1,r2,rfl⟩:=qaP a2
    cases hq2:qak 12 2 true n p (lv+1) (t1::r2) with
    | none=>rw[hq2] at hx; cases hx
    | some y=>
     rw[hq2] at hx
     have h2:=ihe p (lv+1) i' t1 r2 y hp8.2 (by omega) hl1 a1 hq2
     rw[hF] at h2
     cases y with
     | er a c=>
      simp only[Option.some.injEq] at hx
      subst hx
      obtain⟨i2,z2⟩:=h2
      exact⟨i2,qss hlv h hb hm z z2⟩
     | ok e r3=>
      simp only[Option.some.injEq] at hx
      subst hx
      obtain⟨i2,b1,b2,z2⟩:=h2
      exact⟨i2,b1,b2,qtm hlv h hb hm z z2⟩
  ·have hcond : ¬ (p=3/\nx (t::r)=some (ustr false)\/p=7/\nx (t::r)=some (ustr true)):=by
    rw[hnx]
    rcases hp with ⟨rfl,rfl⟩ | ⟨rfl,rfl⟩
    ·rintro (⟨_,h⟩ | ⟨h,_⟩)
     ·exact hm (Option.some.inj h)
     ·cases h
    ·rintro (⟨h,_⟩ | ⟨_,h⟩)
     ·cases h
     ·exact hm (Option.some.inj h)
   rw[qak,if_neg hcond,if_pos hp8.1] at hx
   cases hq:qak 12 2 true n (p+1) lv (t::r) with
   | none=>rw[hq] at hx; cases hx
   | some y=>
    rw[hq] at hx
    have h2:=ihe (p+1) lv i t r y (by omega) (by omega) hlv h hq
    rw[hG] at h2
    cases y with
    | er a c=>
     simp only[Option.some.injEq] at hx
     subst hx
     obtain⟨i2,z2⟩:=h2
     exact⟨i2,qpb h hb hm z2⟩
    | ok e r3=>
     simp only at hx
     obtain⟨i2,b1,b2,z2⟩:=h2
     cases n with
     | zero=>simp only[qak] at hq; cases hq
     | succ m=>
      have hxx:x = .ok e r3:=by
       rw[qb8] at hx
       cases hn3:nx r3 with
       | none=>
        rw[hn3] at hx
        simp only at hx
        rw[if_pos (by rcases hp with ⟨rfl,_⟩ | ⟨rfl,_⟩; exact .inl rfl; exact .inr rfl)] at hx
        exact (Option.some.inj hx).symm
       | some y=>
        rw[hn3] at hx
        have hop:qjj p y=none:=by rcases hp with ⟨rfl,_⟩ | ⟨rfl,_⟩<;>rfl
        simp only[hop] at hx
        exact (Option.some.inj hx).symm
      subst hxx
      exact⟨i2,b1,b2,qtl h hb hm z2⟩
 ·have:=qmb hb r (n+1) p lv x hx
  subst this
  exact⟨i,qsr h hb⟩
end
end Go.Pm
end SKq
section SKr
namespace Go.Pm
open F
set_option maxHeartbeats 4000000
attribute [local simp] qa4 qbv dkey
def qcU:ByteArray:=⟨#[116,114,117,101]⟩
def qb4:ByteArray:=⟨#[102,97,108,115,101]⟩
def qc2:List ByteArray:=[⟨#[115,101,108,102]⟩,⟨#[111,116,104,101,114]⟩,⟨#[116,105,99,107]⟩]
section
variable {s:ByteArray} {T:List Tk} {lv i i' i2 i3:Nat} {e e':E} {a c:Int} {t:Tk} {r:List Tk}
theorem qrX (h:T.drop i=t::r) (hb:t.bad≠0):Z tP (.call 309 [.ptr 0 0,.int lv] (PS s T i 0 12))=some (.ret (qa8 t.bad) (PS s T i t.at_ t.bad)):=by
 have zp:=qdF (s:=s) (a:=0) (c:=12) h hb
 simp only[PS,pO] at zp
 refine Z_call (pf:=F309) rfl rfl ?_
 simp[F309,zp,qac,List.range_succ]
theorem qrY (hT:T.length<2 ^ 40) (h:T.drop i=t::r) (hb:t.bad=0) (hk:kindT t=4):Z tP (.call 309 [.ptr 0 0,.int lv] (PS s T i 0 12))=some (.ret (E.int (valT t)).node (PS s T ((i+1:Nat):Int) 0 12)):=by
 have zp:=qap (s:=s) (a:=0) (c:=12) h hb
 have zt:=qaA (s:=s) (a:=0) (c:=12) h hb hT
 simp only[PS,pO,ptk,ptD,hk] at zp zt
 refine Z_call (pf:=F309) rfl rfl ?_
 simp[F309,zp,zt,List.range_succ]
 try rfl
theorem qrZ (hT:T.length<2 ^ 40) (h:T.drop i=t::r) (hb:t.bad=0) (hk:kindT t=1):Z tP (.call 309 [.ptr 0 0,.int lv] (PS s T i 0 12))=some (.ret (E.var t.s).node (PS s T ((i+1:Nat):Int) 0 12)):=by
 have zp:=qap (s:=s) (a:=0) (c:=12) h hb
 have zt:=qaA (s:=s) (a:=0) (c:=12) h hb hT
 simp only[PS,pO,ptk,ptD,hk,qah hb] at zp zt
 refine Z_call (pf:=F309) rfl rfl ?_
 simp[F309,zp,zt,List.range_succ]
 try rfl
theorem qr0 (h:T.drop i=t::r) (hb:t.bad=0) (hk:kindT t=3) (z:Z tP (.call 280 [.ptr 0 0,.int lv] (PS s T i 0 12))=some (.ret e.node (PS s T i' 0 12))):Z tP (.call 309 [.ptr 0 0,.int lv] (PS s T i 0 12))=some (.ret (E.field true t.s e).node (PS s T i' 0 12)):=by
 have zp:=qap (s:=s) (a:=0) (c:=12) h hb
 simp only[PS,pO,ptk,ptD,hk,qah hb] at zp z
 refine Z_call (pf:=F309) rfl rfl ?_
 simp[F309,zp,z,qcy,qa2,qbg,qbz,qa3,still,V.same,List.range_succ]
 try rfl
theorem qmO (h:T.drop i=t::r) (hb:t.bad=0) (hk:kindT t=3) (z:Z tP (.call 280 [.ptr 0 0,.int lv] (PS s T i 0 12))=some (.ret (qa8 c) (PS s T i' a c))):Z tP (.call 309 [.ptr 0 0,.int lv] (PS s T i 0 12))=some (.ret (qa8 c) (PS s T i' a c)):=by
 have zp:=qap (s:=s) (a:=0) (c:=12) h hb
 simp only[PS,pO,ptk,ptD,hk,qah hb] at zp z
 refine Z_call (pf:=F309) rfl rfl ?_
 simp[F309,zp,z,qac,qat,qcy,qa2,qbg,qbz,qa3,still,V.same,List.range_succ]
theorem qp3 (hT:T.length<2 ^ 40) (h:T.drop i=t::r) (hb:t.bad=0) (hk:kindT t=2) (hm:t.s=qcU):Z tP (.call 309 [.ptr 0 0,.int lv] (PS s T i 0 12))=some (.ret (E.bool 1).node (PS s T ((i+1:Nat):Int) 0 12)):=by
 have zp:=qap (s:=s) (a:=0) (c:=12) h hb
 have zt:=qaA (s:=s) (a:=0) (c:=12) h hb hT
 have z1:=qaC (s:=s) (a:=0) (c:=12) h hb (qad [qcU] true) (by simp) (by decide)
 simp only[hm,List.mem_singleton,decide_true] at z1
 simp only[PS,pO,ptk,ptD,hk] at zp zt
 simp only[PS,pO,qcU,qaS,List.map_cons,List.map_nil,List.length_singleton] at z1
 refine Z_call (pf:=F309) rfl rfl ?_
 simp[F309,zp,zt,z1,List.range_succ]
 try rfl
theorem qon (hT:T.length<2 ^ 40) (h:T.drop i=t::r) (hb:t.bad=0) (hk:kindT t=2) (hm:t.s=qb4):Z tP (.call 309 [.ptr 0 0,.int lv] (PS s T i 0 12))=some (.ret (E.bool 0).node (PS s T ((i+1:Nat):Int) 0 12)):=by
 have zp:=qap (s:=s) (a:=0) (c:=12) h hb
 have zt:=qaA (s:=s) (a:=0) (c:=12) h hb hT
 have z1:=qaC (s:=s) (a:=0) (c:=12) h hb (qad [qcU] true) (by simp) (by decide)
 have z2:=qaC (s:=s) (a:=0) (c:=12) h hb (qad [qb4] true) (by simp) (by decide)
 have hne:qb4≠qcU:=by decide
 simp only[hm,List.mem_singleton,hne,decide_false,decide_true] at z1 z2
 simp only[PS,pO,ptk,ptD,hk] at zp zt
 simp only[PS,pO,qcU,qb4,qaS,List.map_cons,List.map_nil,List.length_singleton] at z1 z2
 refine Z_call (pf:=F309) rfl rfl ?_
 simp[F309,zp,zt,z1,z2,List.range_succ]
 try rfl
theorem qp4 (hT:T.length<2 ^ 40) (h:T.drop i=t::r) (hb:t.bad=0) (hk:kindT t=2) (hm:t.s∈qc2):Z tP (.call 309 [.ptr 0 0,.int lv] (PS s T i 0 12))=some (.ret (E.name t.s).node (PS s T ((i+1:Nat):Int) 0 12)):=by
 have zp:=qap (s:=s) (a:=0) (c:=12) h hb
 have zt:=qaA (s:=s) (a:=0) (c:=12) h hb hT
 have z1:=qaC (s:=s) (a:=0) (c:=12) h hb (qad [qcU] true) (by simp) (by decide)
 have z2:=qaC (s:=s) (a:=0) (c:=12) h hb (qad [qb4] true) (by simp) (by decide)
 have z3:=qaC (s:=s) (a:=0) (c:=12) h hb (qad qc2 true) (by decide) (by decide)
 have n1:t.s≠qcU:=fun e=>absurd (e ▸ hm) (by decide)
 have n2:t.s≠qb4:=fun e=>absurd (e ▸ hm) (by decide)
 simp only[hm,List.mem_singleton,n1,n2,decide_false,decide_true] at z1 z2 z3
 simp only[PS,pO,ptk,ptD,hk,qah hb] at zp zt
 simp only[PS,pO,qcU,qb4,qc2,qaS,List.map_cons,List.map_nil,List.length_cons,List.length_nil] at z1 z2 z3
 refine Z_call (pf:=F309) rfl rfl ?_
 simp[F309,zp,zt,z1,z2,z3,List.range_succ]
 try rfl
end
end Go.Pm
end SKr
