/- Chapter 15: the names of a generated program. -/
import Derived.Test.YtebnoobfoajkbaaGreatDoorPmAL
import Derived.Test.YtebnoobfoajkbaaGreatDoorPmG1
import Derived.Test.YtebnoobfoajkbaaGreatDoorPmHv
set_option linter.unusedSimpArgs false
set_option linter.unusedVariables false
namespace Go.Pm
section
open Gr
theorem qrC(l:List ByteArray)(s x:ByteArray):x∈qqF l s↔x∈l\/x=s:=by
 unfold qqF
 split
 ·rename_i h
  constructor
  ·exact .inl
  ·rintro (h'|rfl); exact h'; exact h
 ·simp
theorem qjg(xs:List ByteArray) : ∀ (l:List ByteArray) (x:ByteArray),x∈addAll l xs↔x∈l\/x∈xs:=by
 induction xs with
 |nil=>intro l x; simp[addAll]
 |cons s xs ih=>
  intro l x
  have:=ih (qqF l s) x
  simp only[addAll,W6] at this ⊢
  rw[this,qrC]
  simp only[Wr,or_assoc]
theorem qhi(xs:List ByteArray) : ∀ l:List ByteArray,l.Nodup->(addAll l xs).Nodup:=by
 induction xs with
 |nil=>intro l h; simpa [addAll] using h
 |cons s xs ih=>
  intro l h
  simp only[addAll,W6]
  refine ih _ ?_
  unfold qqF
  split
  ·exact h
  ·rename_i hs
   rw[List.nodup_append]
   exact⟨h,by simp,fun a ha b hb=>by simp only[Wl] at hb; subst hb; rintro rfl; exact hs ha⟩
theorem qk5{α : Type}[BEq α][LawfulBEq α] : ∀ (l m:List α),l.Nodup->(∀ x∈l,x∈m)->l.length<=m.length
 |[],m,_,_=>WI _
 |x::l,m,h,hs=>by
  rw[Yo] at h
  have hx:=hs x (by simp)
  have:=qk5 l (m.erase x) h.2 fun y hy=>(List.mem_erase_of_ne (fun e=>h.1 (by rw[<- e]; exact hy))).2 (hs y (by simp[hy]))
  rw[List.length_erase_of_mem hx] at this
  have:=List.length_pos_of_mem hx
  simp only[We]
  omega
theorem qfI{vs:List ByteArray} : ∀ (e:E) (r:Fo),(∀ s∈(e.fo r).vars,s∈vs)->e.inV vs /\ ∀ s∈r.vars,s∈vs
 |.int _,r,h=>⟨trivial,fun s hs=>h s (by simp[E.fo,Fo.vars,hs])⟩
 |.bool _,r,h=>⟨trivial,fun s hs=>h s (by simp[E.fo,Fo.vars,hs])⟩
 |.var v,r,h=>⟨h v (by simp[E.fo,Fo.vars]),fun s hs=>h s (by simp[E.fo,Fo.vars,hs])⟩
 |.name _,r,h=>⟨trivial,fun s hs=>h s (by simp[E.fo,Fo.vars,hs])⟩
 |.field _ _ e,r,h=>by
  have:=qfI e .nil fun s hs=>h s (by simp[E.fo,Fo.vars,hs])
  exact⟨this.1,fun s hs=>h s (by simp[E.fo,Fo.vars,hs])⟩
 |.un _ _ e,r,h=>by
  have:=qfI e .nil fun s hs=>h s (by simp[E.fo,Fo.vars,hs])
  exact⟨this.1,fun s hs=>h s (by simp[E.fo,Fo.vars,hs])⟩
 |.bin _ o a b,r,h=>by
  have h1:=qfI a (b.fo .nil) fun s hs=>h s (by simp[E.fo,Fo.vars,hs])
  have h2:=qfI b .nil h1.2
  exact⟨⟨h1.1,h2.1⟩,fun s hs=>h s (by simp[E.fo,Fo.vars,hs])⟩
theorem qeV{vs:List ByteArray} : ∀ b:Ss,(∀ s∈b.fo.vars,s∈vs)->b.inV vs
 |.nil,_=>trivial
 |.assign _ v e r,h=>⟨⟨h v (by simp[Ss.fo,Fo.vars]),(qfI e .nil fun s hs=>h s (by simp[Ss.fo,Fo.vars,hs])).1⟩,qeV r fun s hs=>h s (by simp[Ss.fo,Fo.vars,hs])⟩
 |.store _ _ a b r,h=>by
  have h1:=qfI a (b.fo .nil) fun s hs=>h s (by simp[Ss.fo,Fo.vars,hs])
  exact⟨⟨h1.1,(qfI b .nil h1.2).1⟩,qeV r fun s hs=>h s (by simp[Ss.fo,Fo.vars,hs])⟩
 |.effect _ a b r,h=>by
  have h1:=qfI a (b.fo .nil) fun s hs=>h s (by simp[Ss.fo,Fo.vars,hs])
  exact⟨⟨h1.1,(qfI b .nil h1.2).1⟩,qeV r fun s hs=>h s (by simp[Ss.fo,Fo.vars,hs])⟩
 |.stop r,h=>qeV r fun s hs=>h s (by simp[Ss.fo,Fo.vars,hs])
 |.cond w _ c b r,h=>by
  have h1:=qfI c b.fo fun s hs=>h s (by simp only[Ss.fo,Fo.vars]; simp[hs])
  exact⟨h1.1,qeV b h1.2,qeV r fun s hs=>h s (by simp only[Ss.fo,Fo.vars]; simp[hs])⟩
 |.block _ b r,h=>⟨qeV b fun s hs=>h s (by simp[Ss.fo,Fo.vars,hs]),qeV r fun s hs=>h s (by simp[Ss.fo,Fo.vars,hs])⟩
theorem qdI : ∀ (e:E) (r:Fo),e.fine->(∀ s∈r.vars,s∈qq9) -> ∀ s∈(e.fo r).vars,s∈qq9
 |.int _,r,_,h,s,hs=>h s (by simpa [E.fo,Fo.vars] using hs)
 |.bool _,r,_,h,s,hs=>h s (by simpa [E.fo,Fo.vars] using hs)
 |.var v,r,g,h,s,hs=>by
  simp only[E.fo,Fo.vars,or_true,if_true,Wc,Wi,Wr] at hs
  rcases hs with rfl|hs
  ·exact g
  ·exact h s hs
 |.name _,r,_,h,s,hs=>h s (by simpa [E.fo,Fo.vars] using hs)
 |.field _ _ e,r,g,h,s,hs=>by
  simp only[E.fo,Fo.vars,Int.reduceEq,or_self,if_false,Wc,Wo] at hs
  rcases hs with hs|hs
  ·exact qdI e .nil g.2.1 (by simp[Fo.vars]) s hs
  ·exact h s hs
 |.un _ _ e,r,g,h,s,hs=>by
  simp only[E.fo,Fo.vars,Int.reduceEq,or_self,if_false,Wc,Wo] at hs
  rcases hs with hs|hs
  ·exact qdI e .nil g.1 (by simp[Fo.vars]) s hs
  ·exact h s hs
 |.bin _ o a b,r,g,h,s,hs=>by
  simp only[E.fo,Fo.vars,Int.reduceEq,or_self,if_false,Wc,Wo] at hs
  rcases hs with hs|hs
  ·exact qdI a _ g.1 (qdI b .nil g.2.1 (by simp[Fo.vars])) s hs
  ·exact h s hs
theorem ql4(b:Ss)(hf:b.fine) : ∀ s∈b.fo.vars,s∈qq9:=by
 fun_induction Ss.fine b with
 |case1=>simp[Ss.fo,Fo.vars]
 |case2 _ v e r ih=>
  intro s hs
  simp only[Ss.fo,Fo.vars,true_or,if_true,Wi,Wc,Wr,Wo] at hs
  rcases hs with rfl|hs|hs
  ·exact hf.1.1
  ·exact qdI e .nil hf.1.2.1 (by simp[Fo.vars]) s hs
  ·exact ih hf.2 s hs
 |case3 _ v a b r ih=>
  intro s hs
  simp only[Ss.fo,Fo.vars,Int.reduceEq,or_self,if_false,Wc,Wo] at hs
  rcases hs with hs|hs
  ·exact qdI a _ hf.1.2.1 (qdI b .nil hf.1.2.2.2.1 (by simp[Fo.vars])) s hs
  ·exact ih hf.2 s hs
 |case4 _ a b r ih=>
  intro s hs
  simp only[Ss.fo,Fo.vars,Int.reduceEq,or_self,if_false,Wc,Wo] at hs
  rcases hs with hs|hs
  ·exact qdI a _ hf.1.1 (qdI b .nil hf.1.2.2.1 (by simp[Fo.vars])) s hs
  ·exact ih hf.2 s hs
 |case5 r ih=>
  intro s hs
  simp only[Ss.fo,Fo.vars,Int.reduceEq,or_self,if_false,Wc] at hs
  exact ih hf s hs
 |case6 _ c _ x _ y r ih1 ih2 ih3=>
  intro s hs
  simp only[Ss.fo,Fo.vars,Int.reduceEq,Wp,or_self,if_false,Wc,Wo] at hs
  rcases hs with hs|hs
  ·refine qdI c _ hf.1.1 ?_ s hs
   intro s hs
   simp only[Fo.vars,Int.reduceEq,or_self,if_false,Wc,Wm,Wo] at hs
   rcases hs with hs|hs
   ·exact ih1 hf.2.1 s hs
   ·exact ih2 hf.2.2.1 s hs
  ·exact ih3 hf.2.2.2 s hs
 |case7 _ c _ x r ih1 ih2=>
  intro s hs
  simp only[Ss.fo,Fo.vars,Int.reduceEq,or_self,if_true,if_false,Wc,Wo] at hs
  rcases hs with hs|hs
  ·refine qdI c _ hf.1.1 ?_ s hs
   intro s hs
   simp only[Fo.vars,Int.reduceEq,or_self,if_false,Wc,Wm] at hs
   exact ih1 hf.2.1 s hs
  ·exact ih2 hf.2.2 s hs
 |case8=>exact hf.elim
theorem qgL(h:Hd):h.nd.vars=h.ss.fo.vars:=by
 cases h<;>simp[Nd.vars,Hd.nd,Hd.k,Hd.ks,Hd.ss,Ss.fo,Fo.vars]
section
variable{a b c:Hd}
theorem qmX:a.ss.inV (rvars a.nd b.nd c.nd)/\b.ss.inV (rvars a.nd b.nd c.nd)/\c.ss.inV (rvars a.nd b.nd c.nd):=by
 have key : ∀ s,s∈rvars a.nd b.nd c.nd↔s∈a.ss.fo.vars\/s∈b.ss.fo.vars\/s∈c.ss.fo.vars:=fun s=>by
  unfold rvars
  rw[qjg,qgL,qgL,qgL]
  simp
 exact⟨qeV _ fun s hs=>(key s).2 (.inl hs),qeV _ fun s hs=>(key s).2 (.inr (.inl hs)),qeV _ fun s hs=>(key s).2 (.inr (.inr hs))⟩
theorem qjh(fa:a.ss.fine)(fb:b.ss.fine)(fc:c.ss.fine):(rvars a.nd b.nd c.nd).length<=5:=by
 refine qk5 _ qq9 (qhi _ _ (by simp)) fun s hs=>?_
 unfold rvars at hs
 rw[qjg,qgL,qgL,qgL] at hs
 simp only[Wt,false_or,Wo] at hs
 rcases hs with hs|hs|hs
 ·exact ql4 _ fa s hs
 ·exact ql4 _ fb s hs
 ·exact ql4 _ fc s hs
end
end
section
open F Gr
set_option maxHeartbeats 1000000
def icV(c:Cd):List V:=(icC c).map V.dat
theorem qfO(c:Cd):(icV c).length=c.length*2:=by simp[icV]
theorem qnR(a b:Cd):icV (a++b)=icV a++icV b:=by simp[icV,qjr]
theorem qum(o n:Int):icV [(o,n)]=[V.int o,V.int n]:=rfl
theorem qcK(σ : S)(l N:Nat):V.len σ .sl (.own l N 2)=some N:=rfl
theorem qxa(c:Cd)(o n:Int):icV c++[V.int o,V.int n]=icV (c++[(o,n)]):=by rw[qnR]; rfl
@[simp] theorem qy6(c:Cd):qaK (icV c)=[]:=by
 unfold icV
 induction icC c with
 |nil=>rfl
 |cons x B ih=>simpa using ih
@[simp] theorem qzO(r:Nat->Nat)(c:Cd):qen r (icV c)=icV c:=by
 unfold icV
 induction icC c with
 |nil=>rfl
 |cons x B ih=>simpa using ih
theorem qjX(c:Cd):qbT (icV c)=some (icC c):=by
 unfold icV
 induction icC c with
 |nil=>rfl
 |cons x B ih=>simp[qbT,ih]
abbrev cob(e0 e1 e2:Int)(l n m:Nat):Ob := .cells [.own l n 2,.mp m,.int e0,.int e1,.int e2]
abbrev qnS(e0 e1 e2:Int)(m:Nat):Ob := .cells [.dat (.lit (.slice none 0 0)),.mp m,.int e0,.int e1,.int e2]
abbrev mpo(vs:List ByteArray):Ob := .map (mapM 0 vs)
abbrev qcu(vs:List ByteArray)(e0 e1 e2:Int)(c:Cd):S:=[cob e0 e1 e2 1 c.length 2,.vec (icV c),mpo vs]
abbrev qd9(vs:List ByteArray)(e0 e1 e2:Int):S:=[qnS e0 e1 e2 1,mpo vs]
abbrev qht(vs:List ByteArray)(e0 e1 e2:Int)(c:Cd):S:=[cob e0 e1 e2 2 c.length 1,mpo vs,.vec (icV c)]
attribute [local simp] qbe qbK dkey
section
variable{vs:List ByteArray}{e0 e1 e2:Int}
theorem qcg(c:Cd)(hc:c.length<2^30)(o n:Int):Z qaf (.call 148 [.ptr 0 0,.int o,.int n] (qcu vs e0 e1 e2 c))=some (.ret (.int c.length) (qcu vs e0 e1 e2 (c++[(o,n)]))):=by
 have r1:=qtL (n:=c.length+1) (by omega)
 have hl:=qfO c
 have w1:=qag (c.length:Int) (by omega)
 have e:(c.length:Int)+1-1=c.length:=by omega
 refine qab (pf:=F148) rfl rfl ?_
 simp[F148,r1,hl,w1,qcK,qxa,qfO,Wa]
theorem qkP(o n:Int):Z qaf (.call 148 [.ptr 0 0,.int o,.int n] (qd9 vs e0 e1 e2))=some (.ret (.int 0) (qht vs e0 e1 e2 [(o,n)])):=by
 have r1:=qtL (n:=1) (by omega)
 have w1:IntKind.i64.wrap 0=0:=rfl
 refine qab (pf:=F148) rfl rfl ?_
 simp[F148,r1,w1,qcK,qum,Wa]
end
theorem qhF(o:Bop)(h1:o ≠ .and)(h2:o ≠ .or):Z qaf (.call 187 [.str o.str] [])=some (.ret (.int (opI o)) []):=by
 cases o<;>first|exact absurd rfl h1|exact absurd rfl h2|exact qb4 (n:=2) (by kernel_rfl)
theorem qhG{s:ByteArray}(h:s∈qdT):Z qaf (.call 134 [.str s] [])=some (.ret (.int (fieldI s)) []):=by
 simp only[qdT,qfZ,Wi,Wc,Wr,Wt,or_false] at h
 rcases h with rfl|rfl|rfl|rfl|rfl|rfl|rfl|rfl<;>exact qb4 (n:=2) (by kernel_rfl)
theorem qh4(s:ByteArray) : ∀ (l:List ByteArray) (i:Nat),s∈l->qes .s (.string s) (mapM i l)=some (some (.int (ixI l s+i)))
 |[],i,h=>by cases h
 |x::l,i,h=>by
  by_cases hx:x=s
  ·subst hx
   simp[mapM,qes,qco,ixI]
  ·have hm:=(Wr.1 h).resolve_left fun e=>hx e.symm
   have ih:=qh4 s l (i+1) hm
   have hb:(s==x)=false:=by rw[qeg]; exact decide_eq_false fun e=>hx e.symm
   have h0:=ql8 hm
   simp only[mapM,qes,qco,hb,ih,ixI,if_neg hx,if_neg (show ¬ ixI l s<0 by omega)]
   congr 3
   omega
end
section
open F Gr
set_option maxHeartbeats 1000000
attribute [local simp] qbe qbK dkey qga
theorem qtb(c1 c2:Cd)(o n v:Int):List.take (c1.length*2+1) (icV (c1++(o,n)::c2))++V.dat (.lit (.int .i64 v))::List.drop (c1.length*2+1+1) (icV (c1++(o,n)::c2))=icV (c1++(o,v)::c2):=by
 unfold icV
 have e : ∀ z:Int,icC (c1++(o,z)::c2)=(icC c1++[.lit (.int .i64 o)])++(.lit (.int .i64 z)::icC c2):=fun z=>by rw[qjr,Wf]; rfl
 have l:(icC c1++[D.lit (.int .i64 o)]).length=c1.length*2+1:=by simp[qfu c1]
 rw[e n,e v,<- List.map_take,<- List.map_drop,<- l,List.take_left,show (icC c1++[D.lit (.int .i64 o)]).length+1=(icC c1++[D.lit (.int .i64 o)]).length+1 from rfl,List.drop_append,Yk (by omega),show (icC c1++[D.lit (.int .i64 o)]).length+1-(icC c1++[D.lit (.int .i64 o)]).length=1 by omega]
 simp
section
variable{vs:List ByteArray}{e0 e1 e2:Int}
theorem qoJ (c:Cd) (hc:c.length<2^30) (o:Int):Z qaf (.call 201 [.ptr 0 0,.int o] (qcu vs e0 e1 e2 c)) =
  some (.ret (.fn 204 [] [.ptr 3 0,.ptr 4 0]) (qcu vs e0 e1 e2 (c++[(o,0)])++[.cells [.ptr 0 0],.cells [.int c.length]])):=by
 have z:=qcg (vs:=vs) (e0:=e0) (e1:=e1) (e2:=e2) c hc o 0
 refine qab (pf:=F201) rfl rfl ?_
 simp[F201,z,Wa]
theorem qd7 (c1 c2:Cd) (o x:Int) (hc:(c1++(o,x)::c2).length<2^30) :
  Z qaf (.dcall 204 [.dat (.lit .nilIface),.ptr 0 0,.ptr 1 0] [.cells [.ptr 2 0],.cells [.int c1.length],cob e0 e1 e2 3 (c1++(o,x)::c2).length 4,.vec (icV (c1++(o,x)::c2)),mpo vs]) =
  some (.ret (.dat (.lit undef)) [.cells [.ptr 2 0],.cells [.int c1.length],cob e0 e1 e2 3 (c1++(o,x)::c2).length 4,.vec (icV (c1++(o,((c1++(o,x)::c2).length:Int))::c2)),mpo vs]):=by
 have hs:=qtb c1 c2 o x (c1++(o,x)::c2).length
 have hl:=qfO (c1++(o,x)::c2)
 have hk:c1.length<(c1++(o,x)::c2).length:=by simp
 generalize (c1++(o,x)::c2)=c at *
 have hk':(c1.length:Int)<c.length:=by omega
 have hle:c1.length*2+1+1<=c.length*2:=by omega
 refine qo0 (pf:=F204) rfl ?_
 simp[qa3,F204,PC.flat,V.isNilIf,qcK,hl,hk,hk',hle,hs,qae,qaI,qan,Wa]
end
end
section
open F Gr
set_option maxHeartbeats 2000000
attribute [local simp] qbe qbK dkey qga
abbrev nbo(k n:Int)(s:ByteArray)(d:D):Ob := .cells [.int k,.int n,.str s,.dat d]
structure Clo2(vs:List ByteArray)(id:Nat)(bn:Ob)(C:Int->Cd)(L:Nat):Prop where
 ln:Ln C L
 one : ∀ (e0 e1 e2:Int) (c:Cd),c≠[]->c.length+4*L<2^30->Z qaf (.call id [.ptr 0 0,.ptr 1 0] [.cells [.ptr 2 0],bn,cob e0 e1 e2 3 c.length 4,.vec (icV c),mpo vs]) =
  some (.ret (.tup []) [.cells [.ptr 2 0],bn,cob e0 e1 e2 3 (c++C c.length).length 4,.vec (icV (c++C c.length)),mpo vs])
structure Clo1(vs:List ByteArray)(id:Nat)(C:Int->Cd)(L:Nat):Prop where
 ln:Ln C L
 one : ∀ (e0 e1 e2:Int) (c:Cd),c≠[]->c.length+4*L<2^30->Z qaf (.call id [.ptr 0 0] [.cells [.ptr 1 0],cob e0 e1 e2 2 c.length 3,.vec (icV c),mpo vs]) =
  some (.ret (.tup []) [.cells [.ptr 1 0],cob e0 e1 e2 2 (c++C c.length).length 3,.vec (icV (c++C c.length)),mpo vs])
def qwV (vs:List ByteArray) (id:Nat) (bn:Ob) (C:Int->Cd):Prop := ∀ (e0 e1 e2:Int),Z qaf (.call id [.ptr 0 0,.ptr 1 0] [.cells [.ptr 2 0],bn,qnS e0 e1 e2 3,mpo vs]) =
  some (.ret (.tup []) [.cells [.ptr 2 0],bn,cob e0 e1 e2 4 (C 0).length 3,mpo vs,.vec (icV (C 0))])
def qdV(A:Int->Cd)(c:Cd):Cd:=c++(19,(c.length:Int)+1+(A (c.length+1)).length+1)::(A (c.length+1)++[(18,0)])
section
variable{vs:List ByteArray}{e0 e1 e2:Int}{id:Nat}{k n:Int}{s:ByteArray}{d:D}{A:Int->Cd}{L:Nat}
theorem qmN (h:Clo2 vs id (nbo k n s d) A L) (c:Cd) (hc:c≠[]) (hl:c.length+4*L+10<2^30) :
  Z qaf (.call 200 [.ptr 0 0,.fn id [] [.ptr 1 0,.ptr 2 0]] [cob e0 e1 e2 3 c.length 4,.cells [.ptr 0 0],nbo k n s d,.vec (icV c),mpo vs]) =
   some (.ret (.fn 204 [] [.ptr 5 0,.ptr 6 0]) [cob e0 e1 e2 3 (qdV A c).length 4,.cells [.ptr 0 0],nbo k n s d,.vec (icV (qdV A c)),mpo vs,.cells [.ptr 0 0],.cells [.int ((c.length:Int)+1+(A (c.length+1)).length)]]):=by
 have ha:=h.ln (c.length+1)
 obtain⟨c1,h1⟩ : ∃ c1,c1=c++[((19:Int),(0:Int))]:=⟨_,rfl⟩
 have l1:c1.length=c.length+1:=by simp[h1]
 obtain⟨c2,h2⟩ : ∃ c2,c2=c1++A c1.length:=⟨_,rfl⟩
 have e1':((c1.length:Nat):Int)=c.length+1:=by omega
 have l2:c2.length=c.length+1+(A (c.length+1)).length:=by rw[h2,Wb,e1',l1]
 obtain⟨c3,h3⟩ : ∃ c3,c3=c2++[((18:Int),(0:Int))]:=⟨_,rfl⟩
 have l3:c3.length=c2.length+1:=by simp[h3]
 have f3:c3=c++(19,0)::(A (c.length+1)++[(18,0)]):=by rw[h3,h2,h1]; simp
 obtain⟨c4,h4⟩ : ∃ c4,c4=qdV A c:=⟨_,rfl⟩
 have f4:c4=c++(19,(c3.length:Int))::(A (c.length+1)++[(18,0)]):=by rw[h4,qdV,l3,l2]; simp
 have l4:c4.length=c3.length:=by rw[f4,f3]; simp
 have z1:=qoJ (vs:=vs) (e0:=e0) (e1:=e1) (e2:=e2) c (by omega) 19
 rw[<- h1] at z1
 have z2:=h.one e0 e1 e2 c1 (by rw[h1]; simp) (by omega)
 rw[<- h2] at z2
 have z3:=qoJ (vs:=vs) (e0:=e0) (e1:=e1) (e2:=e2) c2 (by omega) 18
 rw[<- h3] at z3
 have z4:=qd7 (vs:=vs) (e0:=e0) (e1:=e1) (e2:=e2) c (A (c.length+1)++[(18,0)]) 19 0 (by rw[<- f3]; omega)
 rw[<- f3,<- f4] at z4
 rw[<- h4,show ((c.length:Int)+1+(A (c.length+1)).length)=(c2.length:Int) by omega,l4]
 refine qab (pf:=F200) rfl rfl ?_
 simp[F200,z1,z2,z3,z4,V.isNilIf,Wa]
theorem qtx (h:Clo1 vs id A L) (c:Cd) (hc:c≠[]) (hl:c.length+4*L+10<2^30) :
  Z qaf (.call 200 [.ptr 0 0,.fn id [] [.ptr 1 0]] [cob e0 e1 e2 2 c.length 3,.cells [.ptr 0 0],.vec (icV c),mpo vs]) =
   some (.ret (.fn 204 [] [.ptr 4 0,.ptr 5 0]) [cob e0 e1 e2 2 (qdV A c).length 3,.cells [.ptr 0 0],.vec (icV (qdV A c)),mpo vs,.cells [.ptr 0 0],.cells [.int ((c.length:Int)+1+(A (c.length+1)).length)]]):=by
 have ha:=h.ln (c.length+1)
 obtain⟨c1,h1⟩ : ∃ c1,c1=c++[((19:Int),(0:Int))]:=⟨_,rfl⟩
 have l1:c1.length=c.length+1:=by simp[h1]
 obtain⟨c2,h2⟩ : ∃ c2,c2=c1++A c1.length:=⟨_,rfl⟩
 have e1':((c1.length:Nat):Int)=c.length+1:=by omega
 have l2:c2.length=c.length+1+(A (c.length+1)).length:=by rw[h2,Wb,e1',l1]
 obtain⟨c3,h3⟩ : ∃ c3,c3=c2++[((18:Int),(0:Int))]:=⟨_,rfl⟩
 have l3:c3.length=c2.length+1:=by simp[h3]
 have f3:c3=c++(19,0)::(A (c.length+1)++[(18,0)]):=by rw[h3,h2,h1]; simp
 obtain⟨c4,h4⟩ : ∃ c4,c4=qdV A c:=⟨_,rfl⟩
 have f4:c4=c++(19,(c3.length:Int))::(A (c.length+1)++[(18,0)]):=by rw[h4,qdV,l3,l2]; simp
 have l4:c4.length=c3.length:=by rw[f4,f3]; simp
 have z1:=qoJ (vs:=vs) (e0:=e0) (e1:=e1) (e2:=e2) c (by omega) 19
 rw[<- h1] at z1
 have z2:=h.one e0 e1 e2 c1 (by rw[h1]; simp) (by omega)
 rw[<- h2] at z2
 have z3:=qoJ (vs:=vs) (e0:=e0) (e1:=e1) (e2:=e2) c2 (by omega) 18
 rw[<- h3] at z3
 have z4:=qd7 (vs:=vs) (e0:=e0) (e1:=e1) (e2:=e2) c (A (c.length+1)++[(18,0)]) 19 0 (by rw[<- f3]; omega)
 rw[<- f3,<- f4] at z4
 rw[<- h4,show ((c.length:Int)+1+(A (c.length+1)).length)=(c2.length:Int) by omega,l4]
 refine qab (pf:=F200) rfl rfl ?_
 simp[F200,z1,z2,z3,z4,V.isNilIf,Wa]
end
section
variable{vs:List ByteArray}{e0 e1 e2:Int}{i1 i2 i3:Nat}{k n:Int}{s:ByteArray}{d:D}{C A B:Int->Cd}{L La Lb:Nat}
theorem qi4(C A B:Int->Cd)(c:Cd):qdV A (c++C c.length)++B (qdV A (c++C c.length)).length=(c++C c.length++(19,((c++C c.length).length:Int)+1+(A ((c++C c.length).length+1)).length+1)::A ((c++C c.length).length+1))++(18,0)::B (qdV A (c++C c.length)).length:=by
 simp[qdV]
theorem qnV(C A B:Int->Cd)(c:Cd):(c++C c.length++(19,((c++C c.length).length:Int)+1+(A ((c++C c.length).length+1)).length+1)::A ((c++C c.length).length+1))++(18,((qdV A (c++C c.length)++B (qdV A (c++C c.length)).length).length:Int))::B (qdV A (c++C c.length)).length=c++brC C A B c.length:=by
 have e:((qdV A (c++C c.length)).length:Int)=c.length+(C c.length).length+1+(A (c.length+(C c.length).length+1)).length+1:=by
  simp only[qdV,Wb,We,Wk]
  rw[show ((c.length+(C c.length).length:Nat):Int)=(c.length:Int)+(C c.length).length by omega]
  omega
 simp only[brC,Wb]
 rw[show ((c.length+(C c.length).length:Nat):Int)=(c.length:Int)+(C c.length).length by omega]
 rw[show (((qdV A (c++C c.length)).length+(B (qdV A (c++C c.length)).length).length:Nat):Int)=((qdV A (c++C c.length)).length:Int)+(B (qdV A (c++C c.length)).length).length by omega,e]
 simp
theorem qnW (h1:Clo2 vs i1 (nbo k n s d) C L) (h2:Clo2 vs i2 (nbo k n s d) A La) (h3:Clo1 vs i3 B Lb) (c:Cd) (hc:c≠[]) (hl:c.length+4*(L+La+Lb+2)<2^30) (hL:0<L) :
  Z qaf (.call 180 [.ptr 0 0,.fn i1 [] [.ptr 1 0,.ptr 2 0],.fn i2 [] [.ptr 1 0,.ptr 2 0],.fn i3 [] [.ptr 1 0]] [cob e0 e1 e2 3 c.length 4,.cells [.ptr 0 0],nbo k n s d,.vec (icV c),mpo vs])=some (.ret (.tup []) [cob e0 e1 e2 3 (c++brC C A B c.length).length 4,.cells [.ptr 0 0],nbo k n s d,.vec (icV (c++brC C A B c.length)),mpo vs]):=by
 obtain⟨c0,hc0⟩ : ∃ c0,c0=c++C c.length:=⟨_,rfl⟩
 have z1:=h1.one e0 e1 e2 c hc (by omega)
 rw[<- hc0] at z1
 have l0:c0.length=c.length+L:=by rw[hc0,Wb,h1.ln]
 have n0:c0≠[]:=by rw[hc0]; simp[hc]
 have la:=h2.ln (c0.length+1)
 have z2:=qmN (e0:=e0) (e1:=e1) (e2:=e2) h2 c0 n0 (by omega)
 have eb:=qi4 C A B c
 have eq:=qnV C A B c
 rw[<- hc0] at eb eq
 have lf:(qdV A c0).length=c0.length+1+La+1:=by simp only[qdV,Wb,We,Wk,la]; omega
 obtain⟨c1,h1'⟩ : ∃ c1,c1=qdV A c0:=⟨_,rfl⟩
 rw[<- h1'] at z2 eb eq lf
 have z3:=h3.one e0 e1 e2 c1 (by rw[h1',qdV]; simp) (by omega)
 have lb:=h3.ln c1.length
 obtain⟨c2,h2'⟩ : ∃ c2,c2=c1++B c1.length:=⟨_,rfl⟩
 have l2:c2.length=c1.length+Lb:=by rw[h2',Wb,lb]
 rw[<- h2'] at z3 eb eq
 have z4:=qd7 (vs:=vs) (e0:=e0) (e1:=e1) (e2:=e2) (c0++(19,(c0.length:Int)+1+(A (c0.length+1)).length+1)::A (c0.length+1)) (B c1.length) 18 0 (by rw[<- eb]; omega)
 rw[<- eb,eq] at z4
 have l3:(c++brC C A B c.length).length=c2.length:=by rw[<- eq,eb]; simp
 have lk:(((c0++(19,(c0.length:Int)+1+(A (c0.length+1)).length+1)::A (c0.length+1)).length:Nat):Int)=(c0.length:Int)+1+(A (c0.length+1)).length:=by simp only[Wb,We]; omega
 rw[lk] at z4
 generalize c++brC C A B c.length=c3 at *
 generalize (c0.length:Int)+1+(A (c0.length+1)).length=at_ at *
 rw[l3]
 refine qab (pf:=F180) rfl rfl ?_
 simp[F180,z1,z2,z3,z4,V.isNilIf,Wa]
theorem qnX (h1:Clo2 vs i1 (nbo k n s d) C L) (h0:qwV vs i1 (nbo k n s d) C) (h2:Clo2 vs i2 (nbo k n s d) A La) (h3:Clo1 vs i3 B Lb) (hl:4*(L+La+Lb+2)<2^30) (hL:0<L) :
  Z qaf (.call 180 [.ptr 0 0,.fn i1 [] [.ptr 1 0,.ptr 2 0],.fn i2 [] [.ptr 1 0,.ptr 2 0],.fn i3 [] [.ptr 1 0]] [qnS e0 e1 e2 3,.cells [.ptr 0 0],nbo k n s d,mpo vs])=some (.ret (.tup []) [cob e0 e1 e2 4 (brC C A B 0).length 3,.cells [.ptr 0 0],nbo k n s d,mpo vs,.vec (icV (brC C A B 0))]):=by
 obtain⟨c,hcn⟩ : ∃ c:Cd,c=[]:=⟨_,rfl⟩
 obtain⟨c0,hc0⟩ : ∃ c0,c0=c++C c.length:=⟨_,rfl⟩
 have z1:=h0 e0 e1 e2
 rw[show C 0=c0 by rw[hc0,hcn]; rfl] at z1
 have l0:c0.length=c.length+L:=by rw[hc0,Wb,h1.ln]
 have n0:c0≠[]:=fun e=>by rw[e] at l0; simp only[Wk] at l0; omega
 have l00:c.length=0:=by rw[hcn]; rfl
 rw[show brC C A B 0=c++brC C A B c.length by rw[hcn]; rfl]
 have la:=h2.ln (c0.length+1)
 have z2:=qmN (e0:=e0) (e1:=e1) (e2:=e2) h2 c0 n0 (by omega)
 have eb:=qi4 C A B c
 have eq:=qnV C A B c
 rw[<- hc0] at eb eq
 have lf:(qdV A c0).length=c0.length+1+La+1:=by simp only[qdV,Wb,We,Wk,la]; omega
 obtain⟨c1,h1'⟩ : ∃ c1,c1=qdV A c0:=⟨_,rfl⟩
 rw[<- h1'] at z2 eb eq lf
 have z3:=h3.one e0 e1 e2 c1 (by rw[h1',qdV]; simp) (by omega)
 have lb:=h3.ln c1.length
 obtain⟨c2,h2'⟩ : ∃ c2,c2=c1++B c1.length:=⟨_,rfl⟩
 have l2:c2.length=c1.length+Lb:=by rw[h2',Wb,lb]
 rw[<- h2'] at z3 eb eq
 have z4:=qd7 (vs:=vs) (e0:=e0) (e1:=e1) (e2:=e2) (c0++(19,(c0.length:Int)+1+(A (c0.length+1)).length+1)::A (c0.length+1)) (B c1.length) 18 0 (by rw[<- eb]; omega)
 rw[<- eb,eq] at z4
 have l3:(c++brC C A B c.length).length=c2.length:=by rw[<- eq,eb]; simp
 have lk:(((c0++(19,(c0.length:Int)+1+(A (c0.length+1)).length+1)::A (c0.length+1)).length:Nat):Int)=(c0.length:Int)+1+(A (c0.length+1)).length:=by simp only[Wb,We]; omega
 rw[lk] at z4
 generalize c++brC C A B c.length=c3 at *
 generalize (c0.length:Int)+1+(A (c0.length+1)).length=at_ at *
 rw[l3]
 refine qab (pf:=F180) rfl rfl ?_
 simp[F180,z1,z2,z3,z4,V.isNilIf,Wa]
theorem qnY (h1:Clo2 vs i1 (nbo k n s d) C L) (h2:Clo1 vs i2 A La) (h3:Clo2 vs i3 (nbo k n s d) B Lb) (c:Cd) (hc:c≠[]) (hl:c.length+4*(L+La+Lb+2)<2^30) (hL:0<L) :
  Z qaf (.call 180 [.ptr 0 0,.fn i1 [] [.ptr 1 0,.ptr 2 0],.fn i2 [] [.ptr 1 0],.fn i3 [] [.ptr 1 0,.ptr 2 0]] [cob e0 e1 e2 3 c.length 4,.cells [.ptr 0 0],nbo k n s d,.vec (icV c),mpo vs])=some (.ret (.tup []) [cob e0 e1 e2 3 (c++brC C A B c.length).length 4,.cells [.ptr 0 0],nbo k n s d,.vec (icV (c++brC C A B c.length)),mpo vs]):=by
 obtain⟨c0,hc0⟩ : ∃ c0,c0=c++C c.length:=⟨_,rfl⟩
 have z1:=h1.one e0 e1 e2 c hc (by omega)
 rw[<- hc0] at z1
 have l0:c0.length=c.length+L:=by rw[hc0,Wb,h1.ln]
 have n0:c0≠[]:=by rw[hc0]; simp[hc]
 have la:=h2.ln (c0.length+1)
 have z2:=qtx (e0:=e0) (e1:=e1) (e2:=e2) h2 c0 n0 (by omega)
 have eb:=qi4 C A B c
 have eq:=qnV C A B c
 rw[<- hc0] at eb eq
 have lf:(qdV A c0).length=c0.length+1+La+1:=by simp only[qdV,Wb,We,Wk,la]; omega
 obtain⟨c1,h1'⟩ : ∃ c1,c1=qdV A c0:=⟨_,rfl⟩
 rw[<- h1'] at z2 eb eq lf
 have z3:=h3.one e0 e1 e2 c1 (by rw[h1',qdV]; simp) (by omega)
 have lb:=h3.ln c1.length
 obtain⟨c2,h2'⟩ : ∃ c2,c2=c1++B c1.length:=⟨_,rfl⟩
 have l2:c2.length=c1.length+Lb:=by rw[h2',Wb,lb]
 rw[<- h2'] at z3 eb eq
 have z4:=qd7 (vs:=vs) (e0:=e0) (e1:=e1) (e2:=e2) (c0++(19,(c0.length:Int)+1+(A (c0.length+1)).length+1)::A (c0.length+1)) (B c1.length) 18 0 (by rw[<- eb]; omega)
 rw[<- eb,eq] at z4
 have l3:(c++brC C A B c.length).length=c2.length:=by rw[<- eq,eb]; simp
 have lk:(((c0++(19,(c0.length:Int)+1+(A (c0.length+1)).length+1)::A (c0.length+1)).length:Nat):Int)=(c0.length:Int)+1+(A (c0.length+1)).length:=by simp only[Wb,We]; omega
 rw[lk] at z4
 generalize c++brC C A B c.length=c3 at *
 generalize (c0.length:Int)+1+(A (c0.length+1)).length=at_ at *
 rw[l3]
 refine qab (pf:=F180) rfl rfl ?_
 simp[F180,z1,z2,z3,z4,V.isNilIf,Wa]
theorem qnZ (h1:Clo2 vs i1 (nbo k n s d) C L) (h0:qwV vs i1 (nbo k n s d) C) (h2:Clo1 vs i2 A La) (h3:Clo2 vs i3 (nbo k n s d) B Lb) (hl:4*(L+La+Lb+2)<2^30) (hL:0<L) :
  Z qaf (.call 180 [.ptr 0 0,.fn i1 [] [.ptr 1 0,.ptr 2 0],.fn i2 [] [.ptr 1 0],.fn i3 [] [.ptr 1 0,.ptr 2 0]] [qnS e0 e1 e2 3,.cells [.ptr 0 0],nbo k n s d,mpo vs])=some (.ret (.tup []) [cob e0 e1 e2 4 (brC C A B 0).length 3,.cells [.ptr 0 0],nbo k n s d,mpo vs,.vec (icV (brC C A B 0))]):=by
 obtain⟨c,hcn⟩ : ∃ c:Cd,c=[]:=⟨_,rfl⟩
 obtain⟨c0,hc0⟩ : ∃ c0,c0=c++C c.length:=⟨_,rfl⟩
 have z1:=h0 e0 e1 e2
 rw[show C 0=c0 by rw[hc0,hcn]; rfl] at z1
 have l0:c0.length=c.length+L:=by rw[hc0,Wb,h1.ln]
 have n0:c0≠[]:=fun e=>by rw[e] at l0; simp only[Wk] at l0; omega
 have l00:c.length=0:=by rw[hcn]; rfl
 rw[show brC C A B 0=c++brC C A B c.length by rw[hcn]; rfl]
 have la:=h2.ln (c0.length+1)
 have z2:=qtx (e0:=e0) (e1:=e1) (e2:=e2) h2 c0 n0 (by omega)
 have eb:=qi4 C A B c
 have eq:=qnV C A B c
 rw[<- hc0] at eb eq
 have lf:(qdV A c0).length=c0.length+1+La+1:=by simp only[qdV,Wb,We,Wk,la]; omega
 obtain⟨c1,h1'⟩ : ∃ c1,c1=qdV A c0:=⟨_,rfl⟩
 rw[<- h1'] at z2 eb eq lf
 have z3:=h3.one e0 e1 e2 c1 (by rw[h1',qdV]; simp) (by omega)
 have lb:=h3.ln c1.length
 obtain⟨c2,h2'⟩ : ∃ c2,c2=c1++B c1.length:=⟨_,rfl⟩
 have l2:c2.length=c1.length+Lb:=by rw[h2',Wb,lb]
 rw[<- h2'] at z3 eb eq
 have z4:=qd7 (vs:=vs) (e0:=e0) (e1:=e1) (e2:=e2) (c0++(19,(c0.length:Int)+1+(A (c0.length+1)).length+1)::A (c0.length+1)) (B c1.length) 18 0 (by rw[<- eb]; omega)
 rw[<- eb,eq] at z4
 have l3:(c++brC C A B c.length).length=c2.length:=by rw[<- eq,eb]; simp
 have lk:(((c0++(19,(c0.length:Int)+1+(A (c0.length+1)).length+1)::A (c0.length+1)).length:Nat):Int)=(c0.length:Int)+1+(A (c0.length+1)).length:=by simp only[Wb,We]; omega
 rw[lk] at z4
 generalize c++brC C A B c.length=c3 at *
 generalize (c0.length:Int)+1+(A (c0.length+1)).length=at_ at *
 rw[l3]
 refine qab (pf:=F180) rfl rfl ?_
 simp[F180,z1,z2,z3,z4,V.isNilIf,Wa]
theorem qn0 (h1:Clo2 vs i1 (nbo k n s d) C L) (h2:Clo2 vs i2 (nbo k n s d) A La) (h3:Clo2 vs i3 (nbo k n s d) B Lb) (c:Cd) (hc:c≠[]) (hl:c.length+4*(L+La+Lb+2)<2^30) (hL:0<L) :
  Z qaf (.call 180 [.ptr 0 0,.fn i1 [] [.ptr 1 0,.ptr 2 0],.fn i2 [] [.ptr 1 0,.ptr 2 0],.fn i3 [] [.ptr 1 0,.ptr 2 0]] [cob e0 e1 e2 3 c.length 4,.cells [.ptr 0 0],nbo k n s d,.vec (icV c),mpo vs])=some (.ret (.tup []) [cob e0 e1 e2 3 (c++brC C A B c.length).length 4,.cells [.ptr 0 0],nbo k n s d,.vec (icV (c++brC C A B c.length)),mpo vs]):=by
 obtain⟨c0,hc0⟩ : ∃ c0,c0=c++C c.length:=⟨_,rfl⟩
 have z1:=h1.one e0 e1 e2 c hc (by omega)
 rw[<- hc0] at z1
 have l0:c0.length=c.length+L:=by rw[hc0,Wb,h1.ln]
 have n0:c0≠[]:=by rw[hc0]; simp[hc]
 have la:=h2.ln (c0.length+1)
 have z2:=qmN (e0:=e0) (e1:=e1) (e2:=e2) h2 c0 n0 (by omega)
 have eb:=qi4 C A B c
 have eq:=qnV C A B c
 rw[<- hc0] at eb eq
 have lf:(qdV A c0).length=c0.length+1+La+1:=by simp only[qdV,Wb,We,Wk,la]; omega
 obtain⟨c1,h1'⟩ : ∃ c1,c1=qdV A c0:=⟨_,rfl⟩
 rw[<- h1'] at z2 eb eq lf
 have z3:=h3.one e0 e1 e2 c1 (by rw[h1',qdV]; simp) (by omega)
 have lb:=h3.ln c1.length
 obtain⟨c2,h2'⟩ : ∃ c2,c2=c1++B c1.length:=⟨_,rfl⟩
 have l2:c2.length=c1.length+Lb:=by rw[h2',Wb,lb]
 rw[<- h2'] at z3 eb eq
 have z4:=qd7 (vs:=vs) (e0:=e0) (e1:=e1) (e2:=e2) (c0++(19,(c0.length:Int)+1+(A (c0.length+1)).length+1)::A (c0.length+1)) (B c1.length) 18 0 (by rw[<- eb]; omega)
 rw[<- eb,eq] at z4
 have l3:(c++brC C A B c.length).length=c2.length:=by rw[<- eq,eb]; simp
 have lk:(((c0++(19,(c0.length:Int)+1+(A (c0.length+1)).length+1)::A (c0.length+1)).length:Nat):Int)=(c0.length:Int)+1+(A (c0.length+1)).length:=by simp only[Wb,We]; omega
 rw[lk] at z4
 generalize c++brC C A B c.length=c3 at *
 generalize (c0.length:Int)+1+(A (c0.length+1)).length=at_ at *
 rw[l3]
 refine qab (pf:=F180) rfl rfl ?_
 simp[F180,z1,z2,z3,z4,V.isNilIf,Wa]
theorem qn1 (h1:Clo2 vs i1 (nbo k n s d) C L) (h0:qwV vs i1 (nbo k n s d) C) (h2:Clo2 vs i2 (nbo k n s d) A La) (h3:Clo2 vs i3 (nbo k n s d) B Lb) (hl:4*(L+La+Lb+2)<2^30) (hL:0<L) :
  Z qaf (.call 180 [.ptr 0 0,.fn i1 [] [.ptr 1 0,.ptr 2 0],.fn i2 [] [.ptr 1 0,.ptr 2 0],.fn i3 [] [.ptr 1 0,.ptr 2 0]] [qnS e0 e1 e2 3,.cells [.ptr 0 0],nbo k n s d,mpo vs])=some (.ret (.tup []) [cob e0 e1 e2 4 (brC C A B 0).length 3,.cells [.ptr 0 0],nbo k n s d,mpo vs,.vec (icV (brC C A B 0))]):=by
 obtain⟨c,hcn⟩ : ∃ c:Cd,c=[]:=⟨_,rfl⟩
 obtain⟨c0,hc0⟩ : ∃ c0,c0=c++C c.length:=⟨_,rfl⟩
 have z1:=h0 e0 e1 e2
 rw[show C 0=c0 by rw[hc0,hcn]; rfl] at z1
 have l0:c0.length=c.length+L:=by rw[hc0,Wb,h1.ln]
 have n0:c0≠[]:=fun e=>by rw[e] at l0; simp only[Wk] at l0; omega
 have l00:c.length=0:=by rw[hcn]; rfl
 rw[show brC C A B 0=c++brC C A B c.length by rw[hcn]; rfl]
 have la:=h2.ln (c0.length+1)
 have z2:=qmN (e0:=e0) (e1:=e1) (e2:=e2) h2 c0 n0 (by omega)
 have eb:=qi4 C A B c
 have eq:=qnV C A B c
 rw[<- hc0] at eb eq
 have lf:(qdV A c0).length=c0.length+1+La+1:=by simp only[qdV,Wb,We,Wk,la]; omega
 obtain⟨c1,h1'⟩ : ∃ c1,c1=qdV A c0:=⟨_,rfl⟩
 rw[<- h1'] at z2 eb eq lf
 have z3:=h3.one e0 e1 e2 c1 (by rw[h1',qdV]; simp) (by omega)
 have lb:=h3.ln c1.length
 obtain⟨c2,h2'⟩ : ∃ c2,c2=c1++B c1.length:=⟨_,rfl⟩
 have l2:c2.length=c1.length+Lb:=by rw[h2',Wb,lb]
 rw[<- h2'] at z3 eb eq
 have z4:=qd7 (vs:=vs) (e0:=e0) (e1:=e1) (e2:=e2) (c0++(19,(c0.length:Int)+1+(A (c0.length+1)).length+1)::A (c0.length+1)) (B c1.length) 18 0 (by rw[<- eb]; omega)
 rw[<- eb,eq] at z4
 have l3:(c++brC C A B c.length).length=c2.length:=by rw[<- eq,eb]; simp
 have lk:(((c0++(19,(c0.length:Int)+1+(A (c0.length+1)).length+1)::A (c0.length+1)).length:Nat):Int)=(c0.length:Int)+1+(A (c0.length+1)).length:=by simp only[Wb,We]; omega
 rw[lk] at z4
 generalize c++brC C A B c.length=c3 at *
 generalize (c0.length:Int)+1+(A (c0.length+1)).length=at_ at *
 rw[l3]
 refine qab (pf:=F180) rfl rfl ?_
 simp[F180,z1,z2,z3,z4,V.isNilIf,Wa]
end
end
section
open F Gr
set_option maxHeartbeats 2000000
attribute [local simp] qbe qbK dkey qga
structure TrB(vs:List ByteArray)(x:V)(C:Int->Cd)(L:Nat):Prop where
 ln:Ln C L
 one : ∀ (e0 e1 e2:Int) (c:Cd),c≠[]->c.length+4*L<2^30->Z qaf (.call 147 [.ptr 0 0,x] (qcu vs e0 e1 e2 c))=some (.ret (.tup []) (qcu vs e0 e1 e2 (c++C c.length)))
structure TrOK(vs:List ByteArray)(x:V)(C:Int->Cd)(L:Nat):Prop extends TrB vs x C L where
 pos:0<L
 zero : ∀ (e0 e1 e2:Int),4*L<2^30->Z qaf (.call 147 [.ptr 0 0,x] (qd9 vs e0 e1 e2))=some (.ret (.tup []) (qht vs e0 e1 e2 (C 0)))
section
variable{vs:List ByteArray}{e0 e1 e2:Int}{C:Int->Cd}{L:Nat}{k n:Int}{s:ByteArray}{f:Bool}{N:Nat}{cs r:List D}{a b c1 d:D}{i:Nat}
theorem qtU(h1:i<N):qae 4 (.dat (kd f N cs)) (i:Int)=some (.dat (.imm cs (i*4))):=by
 have:=qAL (f:=f) (n:=N) (cs:=cs) (i:=(i:Int)) (by omega) (by omega)
 simpa using this
theorem qfV (h:TrB vs (.dat (.agg [a,b,c1,d])) C L) (hd:cs.drop (i*4)=a::b::c1::d::r) (hi:i<N) (c:Cd) (hc:c≠[]) (hl:c.length+4*L<2^30) :
  Z qaf (.call 165 [.ptr 0 0,.dat (.agg [.lit (.int .i64 k),.lit (.int .i64 n),.lit (.string s),kd f N cs]),.int i] (qcu vs e0 e1 e2 c))=some (.ret (.tup []) (qcu vs e0 e1 e2 (c++C c.length))):=by
 have h4:=qzH hd
 have hi':(i:Int)<N:=by omega
 have z:=h.one e0 e1 e2 c hc hl
 have ha:=qtU (f:=f) (cs:=cs) hi
 generalize c++C c.length=c2 at *
 refine qab (pf:=F165) rfl rfl ?_
 simp[F165,hi',ha,h4,z,Wa]
theorem qnt (h:TrOK vs (.dat (.agg [a,b,c1,d])) C L) (hd:cs.drop (i*4)=a::b::c1::d::r) (hi:i<N) (hl:4*L<2^30) :
  Z qaf (.call 165 [.ptr 0 0,.dat (.agg [.lit (.int .i64 k),.lit (.int .i64 n),.lit (.string s),kd f N cs]),.int i] (qd9 vs e0 e1 e2))=some (.ret (.tup []) (qht vs e0 e1 e2 (C 0))):=by
 have h4:=qzH hd
 have hi':(i:Int)<N:=by omega
 have z:=h.zero e0 e1 e2 hl
 have ha:=qtU (f:=f) (cs:=cs) hi
 generalize C 0=c2 at *
 refine qab (pf:=F165) rfl rfl ?_
 simp[F165,hi',ha,h4,z,Wa]
theorem qtV(h:TrB vs (.dat (.agg [a,b,c1,d])) C L)(hd:cs.drop (0*4)=a::b::c1::d::r)(hi:0<N):Clo2 vs 181 (nbo k n s (kd f N cs)) C L where
 ln:=h.ln
 one:=fun e0 e1 e2 c hc hl=>by
  have z:=qfV (e0:=e0) (e1:=e1) (e2:=e2) (k:=k) (n:=n) (s:=s) (f:=f) h hd hi c hc hl
  rw[show (((0:Nat)):Int)=0 from rfl] at z
  generalize c++C c.length=c2 at *
  refine qab (pf:=F181) rfl rfl ?_
  simp[F181,z,Wa]
theorem qv3(h:TrOK vs (.dat (.agg [a,b,c1,d])) C L)(hd:cs.drop (0*4)=a::b::c1::d::r)(hi:0<N)(hl:4*L<2^30):qwV vs 181 (nbo k n s (kd f N cs)) C:=fun e0 e1 e2=>by
 have z:=qnt (e0:=e0) (e1:=e1) (e2:=e2) (k:=k) (n:=n) (s:=s) (f:=f) h hd hi hl
 rw[show (((0:Nat)):Int)=0 from rfl] at z
 generalize C 0=c2 at *
 refine qab (pf:=F181) rfl rfl ?_
 simp[F181,z,Wa]
theorem qtW(h:TrB vs (.dat (.agg [a,b,c1,d])) C L)(hd:cs.drop (1*4)=a::b::c1::d::r)(hi:1<N):Clo2 vs 182 (nbo k n s (kd f N cs)) C L where
 ln:=h.ln
 one:=fun e0 e1 e2 c hc hl=>by
  have z:=qfV (e0:=e0) (e1:=e1) (e2:=e2) (k:=k) (n:=n) (s:=s) (f:=f) h hd hi c hc hl
  rw[show (((1:Nat)):Int)=1 from rfl] at z
  generalize c++C c.length=c2 at *
  refine qab (pf:=F182) rfl rfl ?_
  simp[F182,z,Wa]
theorem qtX(h:TrB vs (.dat (.agg [a,b,c1,d])) C L)(hd:cs.drop (0*4)=a::b::c1::d::r)(hi:0<N):Clo2 vs 184 (nbo k n s (kd f N cs)) C L where
 ln:=h.ln
 one:=fun e0 e1 e2 c hc hl=>by
  have z:=qfV (e0:=e0) (e1:=e1) (e2:=e2) (k:=k) (n:=n) (s:=s) (f:=f) h hd hi c hc hl
  rw[show (((0:Nat)):Int)=0 from rfl] at z
  generalize c++C c.length=c2 at *
  refine qab (pf:=F184) rfl rfl ?_
  simp[F184,z,Wa]
theorem qv4(h:TrOK vs (.dat (.agg [a,b,c1,d])) C L)(hd:cs.drop (0*4)=a::b::c1::d::r)(hi:0<N)(hl:4*L<2^30):qwV vs 184 (nbo k n s (kd f N cs)) C:=fun e0 e1 e2=>by
 have z:=qnt (e0:=e0) (e1:=e1) (e2:=e2) (k:=k) (n:=n) (s:=s) (f:=f) h hd hi hl
 rw[show (((0:Nat)):Int)=0 from rfl] at z
 generalize C 0=c2 at *
 refine qab (pf:=F184) rfl rfl ?_
 simp[F184,z,Wa]
theorem qtY(h:TrB vs (.dat (.agg [a,b,c1,d])) C L)(hd:cs.drop (1*4)=a::b::c1::d::r)(hi:1<N):Clo2 vs 186 (nbo k n s (kd f N cs)) C L where
 ln:=h.ln
 one:=fun e0 e1 e2 c hc hl=>by
  have z:=qfV (e0:=e0) (e1:=e1) (e2:=e2) (k:=k) (n:=n) (s:=s) (f:=f) h hd hi c hc hl
  rw[show (((1:Nat)):Int)=1 from rfl] at z
  generalize c++C c.length=c2 at *
  refine qab (pf:=F186) rfl rfl ?_
  simp[F186,z,Wa]
theorem qtZ(h:TrB vs (.dat (.agg [a,b,c1,d])) C L)(hd:cs.drop (0*4)=a::b::c1::d::r)(hi:0<N):Clo2 vs 188 (nbo k n s (kd f N cs)) C L where
 ln:=h.ln
 one:=fun e0 e1 e2 c hc hl=>by
  have z:=qfV (e0:=e0) (e1:=e1) (e2:=e2) (k:=k) (n:=n) (s:=s) (f:=f) h hd hi c hc hl
  rw[show (((0:Nat)):Int)=0 from rfl] at z
  generalize c++C c.length=c2 at *
  refine qab (pf:=F188) rfl rfl ?_
  simp[F188,z,Wa]
theorem qv5(h:TrOK vs (.dat (.agg [a,b,c1,d])) C L)(hd:cs.drop (0*4)=a::b::c1::d::r)(hi:0<N)(hl:4*L<2^30):qwV vs 188 (nbo k n s (kd f N cs)) C:=fun e0 e1 e2=>by
 have z:=qnt (e0:=e0) (e1:=e1) (e2:=e2) (k:=k) (n:=n) (s:=s) (f:=f) h hd hi hl
 rw[show (((0:Nat)):Int)=0 from rfl] at z
 generalize C 0=c2 at *
 refine qab (pf:=F188) rfl rfl ?_
 simp[F188,z,Wa]
theorem qt0(h:TrB vs (.dat (.agg [a,b,c1,d])) C L)(hd:cs.drop (1*4)=a::b::c1::d::r)(hi:1<N):Clo2 vs 189 (nbo k n s (kd f N cs)) C L where
 ln:=h.ln
 one:=fun e0 e1 e2 c hc hl=>by
  have z:=qfV (e0:=e0) (e1:=e1) (e2:=e2) (k:=k) (n:=n) (s:=s) (f:=f) h hd hi c hc hl
  rw[show (((1:Nat)):Int)=1 from rfl] at z
  generalize c++C c.length=c2 at *
  refine qab (pf:=F189) rfl rfl ?_
  simp[F189,z,Wa]
theorem qt1(h:TrB vs (.dat (.agg [a,b,c1,d])) C L)(hd:cs.drop (2*4)=a::b::c1::d::r)(hi:2<N):Clo2 vs 190 (nbo k n s (kd f N cs)) C L where
 ln:=h.ln
 one:=fun e0 e1 e2 c hc hl=>by
  have z:=qfV (e0:=e0) (e1:=e1) (e2:=e2) (k:=k) (n:=n) (s:=s) (f:=f) h hd hi c hc hl
  rw[show (((2:Nat)):Int)=2 from rfl] at z
  generalize c++C c.length=c2 at *
  refine qab (pf:=F190) rfl rfl ?_
  simp[F190,z,Wa]
theorem qt2:Clo1 vs 183 (fun _=>[(1,0)]) 1 where
 ln:=fun _=>rfl
 one:=fun e0 e1 e2 c hc hl=>by
  have z:=qcg (vs:=vs) (e0:=e0) (e1:=e1) (e2:=e2) c (by omega) 1 0
  show Z qaf _=some (Res.ret (.tup []) [.cells [.ptr 1 0],cob e0 e1 e2 2 (c++[((1:Int),(0:Int))]).length 3,.vec (icV (c++[((1:Int),(0:Int))])),mpo vs])
  generalize c++[((1:Int),(0:Int))]=c2 at *
  refine qab (pf:=F183) rfl rfl ?_
  simp[F183,z,Wa]
theorem qt3:Clo1 vs 185 (fun _=>[(1,1)]) 1 where
 ln:=fun _=>rfl
 one:=fun e0 e1 e2 c hc hl=>by
  have z:=qcg (vs:=vs) (e0:=e0) (e1:=e1) (e2:=e2) c (by omega) 1 1
  show Z qaf _=some (Res.ret (.tup []) [.cells [.ptr 1 0],cob e0 e1 e2 2 (c++[((1:Int),(1:Int))]).length 3,.vec (icV (c++[((1:Int),(1:Int))])),mpo vs])
  generalize c++[((1:Int),(1:Int))]=c2 at *
  refine qab (pf:=F185) rfl rfl ?_
  simp[F185,z,Wa]
end
end
section
open F Gr
set_option maxHeartbeats 2000000
attribute [local simp] qbe qbK dkey qga
section
variable{vs:List ByteArray}
theorem qyB(n:Int):TrOK vs (E.int n).node (fun _=>[(1,n)]) 1 where
 ln:=fun _=>rfl
 pos:=by omega
 one:=fun e0 e1 e2 c hc hl=>by
  have z:=qcg (vs:=vs) (e0:=e0) (e1:=e1) (e2:=e2) c (by omega) 1 n
  generalize c++[((1:Int),n)]=c2 at *
  refine qab (pf:=F147) rfl rfl ?_
  simp[F147,z,Wa]
 zero:=fun e0 e1 e2 hl=>by
  have z:=qkP (vs:=vs) (e0:=e0) (e1:=e1) (e2:=e2) 1 n
  generalize [((1:Int),n)]=c2 at *
  refine qab (pf:=F147) rfl rfl ?_
  simp[F147,z,Wa]
theorem qvY(n:Int):TrOK vs (E.bool n).node (fun _=>[(1,n)]) 1 where
 ln:=fun _=>rfl
 pos:=by omega
 one:=fun e0 e1 e2 c hc hl=>by
  have z:=qcg (vs:=vs) (e0:=e0) (e1:=e1) (e2:=e2) c (by omega) 1 n
  generalize c++[((1:Int),n)]=c2 at *
  refine qab (pf:=F147) rfl rfl ?_
  simp[F147,z,Wa]
 zero:=fun e0 e1 e2 hl=>by
  have z:=qkP (vs:=vs) (e0:=e0) (e1:=e1) (e2:=e2) 1 n
  generalize [((1:Int),n)]=c2 at *
  refine qab (pf:=F147) rfl rfl ?_
  simp[F147,z,Wa]
theorem qyC{s:ByteArray}(hs:s∈vs):TrOK vs (E.var s).node (fun _=>[(2,ixI vs s)]) 1 where
 ln:=fun _=>rfl
 pos:=by omega
 one:=fun e0 e1 e2 c hc hl=>by
  have z:=qcg (vs:=vs) (e0:=e0) (e1:=e1) (e2:=e2) c (by omega) 2 (ixI vs s)
  have zf:=qh4 s vs 0 hs
  rw[show ixI vs s+((0:Nat):Int)=ixI vs s by omega] at zf
  generalize ixI vs s=v at *
  generalize c++[((2:Int),v)]=c2 at *
  refine qab (pf:=F147) rfl rfl ?_
  simp[F147,z,zf,qeF,qaI,qan,Wa]
 zero:=fun e0 e1 e2 hl=>by
  have z:=qkP (vs:=vs) (e0:=e0) (e1:=e1) (e2:=e2) 2 (ixI vs s)
  have zf:=qh4 s vs 0 hs
  rw[show ixI vs s+((0:Nat):Int)=ixI vs s by omega] at zf
  generalize ixI vs s=v at *
  generalize [((2:Int),v)]=c2 at *
  refine qab (pf:=F147) rfl rfl ?_
  simp[F147,z,zf,qeF,qaI,qan,Wa]
theorem qyD (k n:Int) (s:ByteArray) (d:D) (hd1:V.one (.dat d)=true) (hd2:V.cells (.dat d)=[.dat d]) {e0 e1 e2:Int} (c:Cd) (hc:c.length<2^30) :
  Z qaf (.call 166 [.ptr 0 0,.dat (.agg [.lit (.int .i64 k),.lit (.int .i64 n),.lit (.string s),d])] (qcu vs e0 e1 e2 c))=some (.ret (.tup []) (qcu vs e0 e1 e2 (c++[(nameI s,0)]))):=by
 have z:=fun o=>qcg (vs:=vs) (e0:=e0) (e1:=e1) (e2:=e2) c hc o 0
 refine qab (pf:=F166) rfl rfl ?_
 unfold nameI
 by_cases h1:s=⟨#[115,101,108,102]⟩
 ·have q1:=(qbk s ⟨#[115,101,108,102]⟩).trans (decide_eq_true h1)
  rw[if_pos h1]
  have z:=z 6
  generalize c++[((6:Int),(0:Int))]=c2 at *
  simp[F166,q1,z,hd1,hd2,Wa]
 ·have q1:=(qbk s ⟨#[115,101,108,102]⟩).trans (decide_eq_false h1)
  rw[if_neg h1]
  by_cases h2:s=⟨#[111,116,104,101,114]⟩
  ·have q2:=(qbk s ⟨#[111,116,104,101,114]⟩).trans (decide_eq_true h2)
   rw[if_pos h2]
   have z:=z 7
   generalize c++[((7:Int),(0:Int))]=c2 at *
   simp[F166,q1,q2,z,hd1,hd2,Wa]
  ·have q2:=(qbk s ⟨#[111,116,104,101,114]⟩).trans (decide_eq_false h2)
   rw[if_neg h2]
   have z:=z 8
   generalize c++[((8:Int),(0:Int))]=c2 at *
   simp[F166,q1,q2,z,hd1,hd2,Wa]
theorem qyE (k n:Int) (s:ByteArray) (d:D) (hd1:V.one (.dat d)=true) (hd2:V.cells (.dat d)=[.dat d]) {e0 e1 e2:Int} :
  Z qaf (.call 166 [.ptr 0 0,.dat (.agg [.lit (.int .i64 k),.lit (.int .i64 n),.lit (.string s),d])] (qd9 vs e0 e1 e2))=some (.ret (.tup []) (qht vs e0 e1 e2 [(nameI s,0)])):=by
 have z:=fun o=>qkP (vs:=vs) (e0:=e0) (e1:=e1) (e2:=e2) o 0
 refine qab (pf:=F166) rfl rfl ?_
 unfold nameI
 by_cases h1:s=⟨#[115,101,108,102]⟩
 ·have q1:=(qbk s ⟨#[115,101,108,102]⟩).trans (decide_eq_true h1)
  rw[if_pos h1]
  have z:=z 6
  generalize [((6:Int),(0:Int))]=c2 at *
  simp[F166,q1,z,hd1,hd2,Wa]
 ·have q1:=(qbk s ⟨#[115,101,108,102]⟩).trans (decide_eq_false h1)
  rw[if_neg h1]
  by_cases h2:s=⟨#[111,116,104,101,114]⟩
  ·have q2:=(qbk s ⟨#[111,116,104,101,114]⟩).trans (decide_eq_true h2)
   rw[if_pos h2]
   have z:=z 7
   generalize [((7:Int),(0:Int))]=c2 at *
   simp[F166,q1,q2,z,hd1,hd2,Wa]
  ·have q2:=(qbk s ⟨#[111,116,104,101,114]⟩).trans (decide_eq_false h2)
   rw[if_neg h2]
   have z:=z 8
   generalize [((8:Int),(0:Int))]=c2 at *
   simp[F166,q1,q2,z,hd1,hd2,Wa]
theorem qvZ(s:ByteArray):TrOK vs (E.name s).node (fun _=>[(nameI s,0)]) 1 where
 ln:=fun _=>rfl
 pos:=by omega
 one:=fun e0 e1 e2 c hc hl=>by
  have z:=qyD (vs:=vs) (e0:=e0) (e1:=e1) (e2:=e2) 12 0 s (.lit (.slice none 0 0)) rfl rfl c (by omega)
  generalize nameI s=v at *
  generalize c++[(v,(0:Int))]=c2 at *
  refine qab (pf:=F147) rfl rfl ?_
  simp[F147,z,Wa]
 zero:=fun e0 e1 e2 hl=>by
  have z:=qyE (vs:=vs) (e0:=e0) (e1:=e1) (e2:=e2) 12 0 s (.lit (.slice none 0 0)) rfl rfl
  generalize nameI s=v at *
  generalize [(v,(0:Int))]=c2 at *
  refine qab (pf:=F147) rfl rfl ?_
  simp[F147,z,Wa]
theorem qv0(A:Int->Cd)(i:Int × Int)(c:Cd):(c++A c.length)++[i]=c++snC A i c.length:=by simp[snC]
theorem qix{c x:Cd}(h:c≠[]):c++x≠[]:=by simp[h]
theorem qsF(f:Bool){s:ByteArray}(hs:s∈qdT){a:E}{A:Int->Cd}{L:Nat}(h:TrOK vs a.node A L):TrOK vs (E.field f s a).node (snC A (4,fieldI s)) (L+1) where
 ln:=qbL h.ln
 pos:=by omega
 one:=fun e0 e1 e2 c hc hl=>by
  have z1:Z qaf (.call 165 [.ptr 0 0,(E.field f s a).node,.int 0] (qcu vs e0 e1 e2 c))=_:=qfV (f:=f) (N:=1) (i:=0) (e0:=e0) (e1:=e1) (e2:=e2) h.toTrB rfl (by omega) c hc (by omega)
  have zf:=qhG hs
  have l1:(c++A c.length).length<2^30:=by rw[Wb,h.ln]; omega
  have z2:=qcg (vs:=vs) (e0:=e0) (e1:=e1) (e2:=e2) (c++A c.length) l1 4 (fieldI s)
  rw[qv0] at z2
  simp only[E.node,qjE,qlA,qlB,qgY] at z1
  generalize c++A c.length=c1 at *
  generalize c++snC A (4,fieldI s) c.length=c2 at *
  refine qab (pf:=F147) rfl rfl ?_
  simp[F147,z1,z2,zf,Wa]
 zero:=fun e0 e1 e2 hl=>by
  have z1:Z qaf (.call 165 [.ptr 0 0,(E.field f s a).node,.int 0] (qd9 vs e0 e1 e2))=_:=qnt (f:=f) (N:=1) (i:=0) (e0:=e0) (e1:=e1) (e2:=e2) h rfl (by omega) (by omega)
  have zf:=qhG hs
  have l1:(A 0).length<2^30:=by rw[h.ln]; omega
  have z2:=qcg (vs:=vs) (e0:=e0) (e1:=e1) (e2:=e2) (A 0) l1 4 (fieldI s)
  rw[show A 0++[((4:Int),fieldI s)]=snC A (4,fieldI s) 0 from rfl] at z2
  simp only[E.node,qjE,qlA,qlB,qgY] at z1
  generalize A 0=c1 at *
  generalize snC A (4,fieldI s) 0=c2 at *
  refine qab (pf:=F147) rfl rfl ?_
  simp[F147,z1,z2,zf,Wa]
theorem qqj(f:Bool){a:E}{A:Int->Cd}{L:Nat}(h:TrOK vs a.node A L){e0 e1 e2:Int}(c:Cd)(hc:c≠[])(hl:c.length+4*L<2^30):Z qaf (.call 167 [.ptr 0 0,(E.un f true a).node] (qcu vs e0 e1 e2 c))=some (.ret (.tup []) (qcu vs e0 e1 e2 (c++snC A (13,0) c.length))):=by
 have hp:=h.pos
 have z1:Z qaf (.call 165 [.ptr 0 0,(E.un f true a).node,.int 0] (qcu vs e0 e1 e2 c))=_:=qfV (f:=f) (N:=1) (i:=0) (e0:=e0) (e1:=e1) (e2:=e2) h.toTrB rfl (by omega) c hc (by omega)
 have l1:(c++A c.length).length<2^30:=by rw[Wb,h.ln]; omega
 have z2:=qcg (vs:=vs) (e0:=e0) (e1:=e1) (e2:=e2) (c++A c.length) l1 13 0
 rw[qv0] at z2
 simp only[E.node,qfe,qhp,qhq,qex,ustr,Wp,if_true,if_false] at z1
 generalize c++A c.length=c1 at *
 generalize c++snC A (13,0) c.length=c2 at *
 refine qab (pf:=F167) rfl rfl ?_
 simp[F167,z1,z2,ustr,Wa]
theorem qqk(f:Bool){a:E}{A:Int->Cd}{L:Nat}(h:TrOK vs a.node A L){e0 e1 e2:Int}(hl:4*L<2^30):Z qaf (.call 167 [.ptr 0 0,(E.un f true a).node] (qd9 vs e0 e1 e2))=some (.ret (.tup []) (qht vs e0 e1 e2 (snC A (13,0) 0))):=by
 have hp:=h.pos
 have z1:Z qaf (.call 165 [.ptr 0 0,(E.un f true a).node,.int 0] (qd9 vs e0 e1 e2))=_:=qnt (f:=f) (N:=1) (i:=0) (e0:=e0) (e1:=e1) (e2:=e2) h rfl (by omega) (by omega)
 have l1:(A 0).length<2^30:=by rw[h.ln]; omega
 have z2:=qcg (vs:=vs) (e0:=e0) (e1:=e1) (e2:=e2) (A 0) l1 13 0
 rw[show A 0++[((13:Int),(0:Int))]=snC A (13,0) 0 from rfl] at z2
 simp only[E.node,qfe,qhp,qhq,qex,ustr,Wp,if_true,if_false] at z1
 generalize A 0=c1 at *
 generalize snC A (13,0) 0=c2 at *
 refine qab (pf:=F167) rfl rfl ?_
 simp[F167,z1,z2,ustr,Wa]
theorem qop(f:Bool){a:E}{A:Int->Cd}{L:Nat}(h:TrOK vs a.node A L):TrOK vs (E.un f true a).node (snC A (13,0)) (L+1) where
 ln:=qbL h.ln
 pos:=by omega
 one:=fun e0 e1 e2 c hc hl=>by
  have z:=qqj f h (e0:=e0) (e1:=e1) (e2:=e2) c hc (by omega)
  simp only[E.node,qfe,qhp,qhq,qex,ustr,Wp,if_true,if_false] at z
  generalize c++snC A (13,0) c.length=c2 at *
  refine qab (pf:=F147) rfl rfl ?_
  simp[F147,z,ustr,Wa]
 zero:=fun e0 e1 e2 hl=>by
  have z:=qqk f h (e0:=e0) (e1:=e1) (e2:=e2) (by omega)
  simp only[E.node,qfe,qhp,qhq,qex,ustr,Wp,if_true,if_false] at z
  generalize snC A (13,0) 0=c2 at *
  refine qab (pf:=F147) rfl rfl ?_
  simp[F147,z,ustr,Wa]
theorem qoq(f:Bool){a:E}{A:Int->Cd}{L:Nat}(h:TrOK vs a.node A L){e0 e1 e2:Int}(c:Cd)(hc:c≠[])(hl:c.length+4*L<2^30):Z qaf (.call 167 [.ptr 0 0,(E.un f false a).node] (qcu vs e0 e1 e2 c))=some (.ret (.tup []) (qcu vs e0 e1 e2 (c++snC A (17,0) c.length))):=by
 have hp:=h.pos
 have z1:Z qaf (.call 165 [.ptr 0 0,(E.un f false a).node,.int 0] (qcu vs e0 e1 e2 c))=_:=qfV (f:=f) (N:=1) (i:=0) (e0:=e0) (e1:=e1) (e2:=e2) h.toTrB rfl (by omega) c hc (by omega)
 have l1:(c++A c.length).length<2^30:=by rw[Wb,h.ln]; omega
 have z2:=qcg (vs:=vs) (e0:=e0) (e1:=e1) (e2:=e2) (c++A c.length) l1 17 0
 rw[qv0] at z2
 simp only[E.node,qfe,qhp,qhq,qex,ustr,Wp,if_true,if_false] at z1
 generalize c++A c.length=c1 at *
 generalize c++snC A (17,0) c.length=c2 at *
 refine qab (pf:=F167) rfl rfl ?_
 simp[F167,z1,z2,ustr,Wa]
theorem qor(f:Bool){a:E}{A:Int->Cd}{L:Nat}(h:TrOK vs a.node A L){e0 e1 e2:Int}(hl:4*L<2^30):Z qaf (.call 167 [.ptr 0 0,(E.un f false a).node] (qd9 vs e0 e1 e2))=some (.ret (.tup []) (qht vs e0 e1 e2 (snC A (17,0) 0))):=by
 have hp:=h.pos
 have z1:Z qaf (.call 165 [.ptr 0 0,(E.un f false a).node,.int 0] (qd9 vs e0 e1 e2))=_:=qnt (f:=f) (N:=1) (i:=0) (e0:=e0) (e1:=e1) (e2:=e2) h rfl (by omega) (by omega)
 have l1:(A 0).length<2^30:=by rw[h.ln]; omega
 have z2:=qcg (vs:=vs) (e0:=e0) (e1:=e1) (e2:=e2) (A 0) l1 17 0
 rw[show A 0++[((17:Int),(0:Int))]=snC A (17,0) 0 from rfl] at z2
 simp only[E.node,qfe,qhp,qhq,qex,ustr,Wp,if_true,if_false] at z1
 generalize A 0=c1 at *
 generalize snC A (17,0) 0=c2 at *
 refine qab (pf:=F167) rfl rfl ?_
 simp[F167,z1,z2,ustr,Wa]
theorem qmo(f:Bool){a:E}{A:Int->Cd}{L:Nat}(h:TrOK vs a.node A L):TrOK vs (E.un f false a).node (snC A (17,0)) (L+1) where
 ln:=qbL h.ln
 pos:=by omega
 one:=fun e0 e1 e2 c hc hl=>by
  have z:=qoq f h (e0:=e0) (e1:=e1) (e2:=e2) c hc (by omega)
  simp only[E.node,qfe,qhp,qhq,qex,ustr,Wp,if_true,if_false] at z
  generalize c++snC A (17,0) c.length=c2 at *
  refine qab (pf:=F147) rfl rfl ?_
  simp[F147,z,ustr,Wa]
 zero:=fun e0 e1 e2 hl=>by
  have z:=qor f h (e0:=e0) (e1:=e1) (e2:=e2) (by omega)
  simp only[E.node,qfe,qhp,qhq,qex,ustr,Wp,if_true,if_false] at z
  generalize snC A (17,0) 0=c2 at *
  refine qab (pf:=F147) rfl rfl ?_
  simp[F147,z,ustr,Wa]
end
end
section
open F Gr
set_option maxHeartbeats 2000000
attribute [local simp] qbe qbK dkey qga
theorem qqy(A B:Int->Cd)(c:Cd):(c++A c.length)++B (c++A c.length).length=c++sq A B c.length:=by
 simp only[sq,Wf,Wb]
 rw[show ((c.length+(A c.length).length:Nat):Int)=c.length+(A c.length).length by omega]
section
variable{vs:List ByteArray}{a b:E}{A B:Int->Cd}{La Lb:Nat}{e0 e1 e2:Int}
theorem qwk(ha:TrOK vs a.node A La)(hb:TrOK vs b.node B Lb)(f:Bool)(c:Cd)(hc:c≠[])(hl:c.length+4*(La+Lb+3)<2^30):Z qaf (.call 168 [.ptr 0 0,(E.bin f .and a b).node] (qcu vs e0 e1 e2 c))=some (.ret (.tup []) (qcu vs e0 e1 e2 (c++(brC A B (fun _=>[(1,0)])) c.length))):=by
 have s1:=qfL .and
 have s2:=qiW .and
 have hpa:=ha.pos
 have z:=qnW (vs:=vs) (e0:=e0) (e1:=e1) (e2:=e2) (qtV (k:=14) (n:=0) (s:=(Bop.and).str) (f:=f) (N:=2) (cs:=[.lit (.int .i64 a.kind),.lit (.int .i64 a.num),.lit (.string a.str),a.kids,.lit (.int .i64 b.kind),.lit (.int .i64 b.num),.lit (.string b.str),b.kids]) ha.toTrB rfl (by omega)) (qtW (k:=14) (n:=0) (s:=(Bop.and).str) (f:=f) (N:=2) (cs:=[.lit (.int .i64 a.kind),.lit (.int .i64 a.num),.lit (.string a.str),a.kids,.lit (.int .i64 b.kind),.lit (.int .i64 b.num),.lit (.string b.str),b.kids]) hb.toTrB rfl (by omega)) (qt2) c hc (by omega) ha.pos
 simp only[nbo,qlC] at z
 generalize c++(brC A B (fun _=>[(1,0)])) c.length=c2 at *
 refine qab (pf:=F168) rfl rfl ?_
 simp[F168,s1,s2,qiA,qqr,z,Wa]
theorem qwl(ha:TrOK vs a.node A La)(hb:TrOK vs b.node B Lb)(f:Bool)(hl:4*(La+Lb+3)<2^30):Z qaf (.call 168 [.ptr 0 0,(E.bin f .and a b).node] (qd9 vs e0 e1 e2))=some (.ret (.tup []) (qht vs e0 e1 e2 ((brC A B (fun _=>[(1,0)])) 0))):=by
 have s1:=qfL .and
 have s2:=qiW .and
 have hpa:=ha.pos
 have z:=qnX (vs:=vs) (e0:=e0) (e1:=e1) (e2:=e2) (qtV (k:=14) (n:=0) (s:=(Bop.and).str) (f:=f) (N:=2) (cs:=[.lit (.int .i64 a.kind),.lit (.int .i64 a.num),.lit (.string a.str),a.kids,.lit (.int .i64 b.kind),.lit (.int .i64 b.num),.lit (.string b.str),b.kids]) ha.toTrB rfl (by omega)) (qv3 (k:=14) (n:=0) (s:=(Bop.and).str) (f:=f) (N:=2) (cs:=[.lit (.int .i64 a.kind),.lit (.int .i64 a.num),.lit (.string a.str),a.kids,.lit (.int .i64 b.kind),.lit (.int .i64 b.num),.lit (.string b.str),b.kids]) ha rfl (by omega) (by omega)) (qtW (k:=14) (n:=0) (s:=(Bop.and).str) (f:=f) (N:=2) (cs:=[.lit (.int .i64 a.kind),.lit (.int .i64 a.num),.lit (.string a.str),a.kids,.lit (.int .i64 b.kind),.lit (.int .i64 b.num),.lit (.string b.str),b.kids]) hb.toTrB rfl (by omega)) (qt2) (by omega) ha.pos
 simp only[nbo,qlC] at z
 generalize (brC A B (fun _=>[(1,0)])) 0=c2 at *
 refine qab (pf:=F168) rfl rfl ?_
 simp[F168,s1,s2,qiA,qqr,z,Wa]
theorem qyO(ha:TrOK vs a.node A La)(hb:TrOK vs b.node B Lb)(f:Bool)(c:Cd)(hc:c≠[])(hl:c.length+4*(La+Lb+3)<2^30):Z qaf (.call 168 [.ptr 0 0,(E.bin f .or a b).node] (qcu vs e0 e1 e2 c))=some (.ret (.tup []) (qcu vs e0 e1 e2 (c++(brC A (fun _=>[(1,1)]) B) c.length))):=by
 have s1:=qfL .or
 have s2:=qiW .or
 have hpa:=ha.pos
 have z:=qnY (vs:=vs) (e0:=e0) (e1:=e1) (e2:=e2) (qtX (k:=14) (n:=0) (s:=(Bop.or).str) (f:=f) (N:=2) (cs:=[.lit (.int .i64 a.kind),.lit (.int .i64 a.num),.lit (.string a.str),a.kids,.lit (.int .i64 b.kind),.lit (.int .i64 b.num),.lit (.string b.str),b.kids]) ha.toTrB rfl (by omega)) (qt3) (qtY (k:=14) (n:=0) (s:=(Bop.or).str) (f:=f) (N:=2) (cs:=[.lit (.int .i64 a.kind),.lit (.int .i64 a.num),.lit (.string a.str),a.kids,.lit (.int .i64 b.kind),.lit (.int .i64 b.num),.lit (.string b.str),b.kids]) hb.toTrB rfl (by omega)) c hc (by omega) ha.pos
 simp only[nbo,qlC] at z
 generalize c++(brC A (fun _=>[(1,1)]) B) c.length=c2 at *
 refine qab (pf:=F168) rfl rfl ?_
 simp[F168,s1,s2,qiA,qqr,z,Wa]
theorem qyP(ha:TrOK vs a.node A La)(hb:TrOK vs b.node B Lb)(f:Bool)(hl:4*(La+Lb+3)<2^30):Z qaf (.call 168 [.ptr 0 0,(E.bin f .or a b).node] (qd9 vs e0 e1 e2))=some (.ret (.tup []) (qht vs e0 e1 e2 ((brC A (fun _=>[(1,1)]) B) 0))):=by
 have s1:=qfL .or
 have s2:=qiW .or
 have hpa:=ha.pos
 have z:=qnZ (vs:=vs) (e0:=e0) (e1:=e1) (e2:=e2) (qtX (k:=14) (n:=0) (s:=(Bop.or).str) (f:=f) (N:=2) (cs:=[.lit (.int .i64 a.kind),.lit (.int .i64 a.num),.lit (.string a.str),a.kids,.lit (.int .i64 b.kind),.lit (.int .i64 b.num),.lit (.string b.str),b.kids]) ha.toTrB rfl (by omega)) (qv4 (k:=14) (n:=0) (s:=(Bop.or).str) (f:=f) (N:=2) (cs:=[.lit (.int .i64 a.kind),.lit (.int .i64 a.num),.lit (.string a.str),a.kids,.lit (.int .i64 b.kind),.lit (.int .i64 b.num),.lit (.string b.str),b.kids]) ha rfl (by omega) (by omega)) (qt3) (qtY (k:=14) (n:=0) (s:=(Bop.or).str) (f:=f) (N:=2) (cs:=[.lit (.int .i64 a.kind),.lit (.int .i64 a.num),.lit (.string a.str),a.kids,.lit (.int .i64 b.kind),.lit (.int .i64 b.num),.lit (.string b.str),b.kids]) hb.toTrB rfl (by omega)) (by omega) ha.pos
 simp only[nbo,qlC] at z
 generalize (brC A (fun _=>[(1,1)]) B) 0=c2 at *
 refine qab (pf:=F168) rfl rfl ?_
 simp[F168,s1,s2,qiA,qqr,z,Wa]
theorem qqz(ha:TrOK vs a.node A La)(hb:TrOK vs b.node B Lb)(f:Bool){o:Bop}(h1:qiA o=false)(h2:qqr o=false)(h3:qsU o=true\/qv9 o=true)(c:Cd)(hc:c≠[])(hl:c.length+4*(La+Lb+1)<2^30):Z qaf (.call 168 [.ptr 0 0,(E.bin f o a b).node] (qcu vs e0 e1 e2 c))=some (.ret (.tup []) (qcu vs e0 e1 e2 (c++(snC (sq B A) (opI o,0)) c.length))):=by
 have s1:=qfL o
 have s2:=qiW o
 have s3:=qox o
 have s4:=qoy o
 have s5:=qoz o
 have hpa:=ha.pos
 have hpb:=hb.pos
 have z1:Z qaf (.call 165 [.ptr 0 0,(E.bin f o a b).node,.int 1] (qcu vs e0 e1 e2 c))=_:=qfV (f:=f) (N:=2) (i:=1) (e0:=e0) (e1:=e1) (e2:=e2) hb.toTrB rfl (by omega) c hc (by omega)
 have l1:(c++B c.length).length=c.length+Lb:=by rw[Wb,hb.ln]
 have z2:Z qaf (.call 165 [.ptr 0 0,(E.bin f o a b).node,.int 0] (qcu vs e0 e1 e2 (c++B c.length)))=_:=qfV (f:=f) (N:=2) (i:=0) (e0:=e0) (e1:=e1) (e2:=e2) ha.toTrB rfl (by omega) (c++B c.length) (qix hc) (by omega)
 rw[qqy] at z2
 have l2:(c++sq B A c.length).length<2^30:=by rw[Wb,qa9 hb.ln ha.ln]; omega
 have zo:=qhF o (fun e=>by rw[e] at h1; exact absurd h1 (by decide)) (fun e=>by rw[e] at h2; exact absurd h2 (by decide))
 have z3:=qcg (vs:=vs) (e0:=e0) (e1:=e1) (e2:=e2) (c++sq B A c.length) l2 (opI o) 0
 rw[show (c++sq B A c.length)++[(opI o,(0:Int))]=c++(snC (sq B A) (opI o,0)) c.length by simp[snC]] at z3
 simp only[E.node,qd2,qff,qfg,qdq] at z1 z2
 generalize c++(snC (sq B A) (opI o,0)) c.length=c5 at *
 generalize c++sq B A c.length=c3 at *
 generalize c++B c.length=c1 at *
 refine qab (pf:=F168) rfl rfl ?_
 rcases h3 with h3|h3
 ·simp[F168,s1,s2,s3,h1,h2,h3,z1,z2,z3,zo,qaI,qan,Wa]
 ·cases hg:qsU o with
  |true=>simp[F168,s1,s2,s3,h1,h2,hg,z1,z2,z3,zo,qaI,qan,Wa]
  |false=>simp[F168,s1,s2,s3,s4,h1,h2,h3,hg,z1,z2,z3,zo,qaI,qan,Wa]
theorem qyQ(ha:TrOK vs a.node A La)(hb:TrOK vs b.node B Lb)(f:Bool){o:Bop}(ho:o = .ne)(c:Cd)(hc:c≠[])(hl:c.length+4*(La+Lb+1)<2^30):Z qaf (.call 168 [.ptr 0 0,(E.bin f o a b).node] (qcu vs e0 e1 e2 c))=some (.ret (.tup []) (qcu vs e0 e1 e2 (c++(snC (snC (sq A B) (16,0)) (17,0)) c.length))):=by
 subst ho
 have s1:=qfL .ne
 have s2:=qiW .ne
 have s3:=qox .ne
 have s4:=qoy .ne
 have s5:=qoz .ne
 have hpa:=ha.pos
 have hpb:=hb.pos
 have z1:Z qaf (.call 165 [.ptr 0 0,(E.bin f .ne a b).node,.int 0] (qcu vs e0 e1 e2 c))=_:=qfV (f:=f) (N:=2) (i:=0) (e0:=e0) (e1:=e1) (e2:=e2) ha.toTrB rfl (by omega) c hc (by omega)
 have l1:(c++A c.length).length=c.length+La:=by rw[Wb,ha.ln]
 have z2:Z qaf (.call 165 [.ptr 0 0,(E.bin f .ne a b).node,.int 1] (qcu vs e0 e1 e2 (c++A c.length)))=_:=qfV (f:=f) (N:=2) (i:=1) (e0:=e0) (e1:=e1) (e2:=e2) hb.toTrB rfl (by omega) (c++A c.length) (qix hc) (by omega)
 rw[qqy] at z2
 have l2:(c++sq A B c.length).length<2^30:=by rw[Wb,qa9 ha.ln hb.ln]; omega
 have z3:=qcg (vs:=vs) (e0:=e0) (e1:=e1) (e2:=e2) (c++sq A B c.length) l2 16 0
 rw[show (c++sq A B c.length)++[((16:Int),(0:Int))]=c++snC (sq A B) (16,0) c.length by simp[snC]] at z3
 have l3:(c++snC (sq A B) (16,0) c.length).length<2^30:=by rw[Wb,qbL (qa9 ha.ln hb.ln)]; omega
 have z4:=qcg (vs:=vs) (e0:=e0) (e1:=e1) (e2:=e2) (c++snC (sq A B) (16,0) c.length) l3 17 0
 rw[show (c++snC (sq A B) (16,0) c.length)++[((17:Int),(0:Int))]=c++(snC (snC (sq A B) (16,0)) (17,0)) c.length by simp[snC]] at z4
 simp only[E.node,qd2,qff,qfg,qdq] at z1 z2
 generalize c++(snC (snC (sq A B) (16,0)) (17,0)) c.length=c5 at *
 generalize c++snC (sq A B) (16,0) c.length=c4 at *
 generalize c++sq A B c.length=c3 at *
 generalize c++A c.length=c1 at *
 refine qab (pf:=F168) rfl rfl ?_
 simp[F168,s1,s2,s3,s4,s5,qiA,qqr,qsU,qv9,qyI,z1,z2,z3,z4,qaI,qan,Wa]
theorem qfW(ha:TrOK vs a.node A La)(hb:TrOK vs b.node B Lb)(f:Bool){o:Bop}(h1:qiA o=false)(h2:qqr o=false)(h3:qsU o=false)(h4:qv9 o=false)(h5:qyI o=false)(c:Cd)(hc:c≠[])(hl:c.length+4*(La+Lb+1)<2^30):Z qaf (.call 168 [.ptr 0 0,(E.bin f o a b).node] (qcu vs e0 e1 e2 c))=some (.ret (.tup []) (qcu vs e0 e1 e2 (c++(snC (sq A B) (opI o,0)) c.length))):=by
 have s1:=qfL o
 have s2:=qiW o
 have s3:=qox o
 have s4:=qoy o
 have s5:=qoz o
 have hpa:=ha.pos
 have hpb:=hb.pos
 have z1:Z qaf (.call 165 [.ptr 0 0,(E.bin f o a b).node,.int 0] (qcu vs e0 e1 e2 c))=_:=qfV (f:=f) (N:=2) (i:=0) (e0:=e0) (e1:=e1) (e2:=e2) ha.toTrB rfl (by omega) c hc (by omega)
 have l1:(c++A c.length).length=c.length+La:=by rw[Wb,ha.ln]
 have z2:Z qaf (.call 165 [.ptr 0 0,(E.bin f o a b).node,.int 1] (qcu vs e0 e1 e2 (c++A c.length)))=_:=qfV (f:=f) (N:=2) (i:=1) (e0:=e0) (e1:=e1) (e2:=e2) hb.toTrB rfl (by omega) (c++A c.length) (qix hc) (by omega)
 rw[qqy] at z2
 have l2:(c++sq A B c.length).length<2^30:=by rw[Wb,qa9 ha.ln hb.ln]; omega
 have zo:=qhF o (fun e=>by rw[e] at h1; exact absurd h1 (by decide)) (fun e=>by rw[e] at h2; exact absurd h2 (by decide))
 have z3:=qcg (vs:=vs) (e0:=e0) (e1:=e1) (e2:=e2) (c++sq A B c.length) l2 (opI o) 0
 rw[show (c++sq A B c.length)++[(opI o,(0:Int))]=c++(snC (sq A B) (opI o,0)) c.length by simp[snC]] at z3
 simp only[E.node,qd2,qff,qfg,qdq] at z1 z2
 generalize c++(snC (sq A B) (opI o,0)) c.length=c5 at *
 generalize c++sq A B c.length=c3 at *
 generalize c++A c.length=c1 at *
 refine qab (pf:=F168) rfl rfl ?_
 simp[F168,s1,s2,s3,s4,s5,h1,h2,h3,h4,h5,z1,z2,z3,zo,qaI,qan,Wa]
theorem qqA(ha:TrOK vs a.node A La)(hb:TrOK vs b.node B Lb)(f:Bool){o:Bop}(h1:qiA o=false)(h2:qqr o=false)(h3:qsU o=true\/qv9 o=true)(hl:4*(La+Lb+1)<2^30):Z qaf (.call 168 [.ptr 0 0,(E.bin f o a b).node] (qd9 vs e0 e1 e2))=some (.ret (.tup []) (qht vs e0 e1 e2 ((snC (sq B A) (opI o,0)) 0))):=by
 have s1:=qfL o
 have s2:=qiW o
 have s3:=qox o
 have s4:=qoy o
 have s5:=qoz o
 have hpa:=ha.pos
 have hpb:=hb.pos
 have z1:Z qaf (.call 165 [.ptr 0 0,(E.bin f o a b).node,.int 1] (qd9 vs e0 e1 e2))=_:=qnt (f:=f) (N:=2) (i:=1) (e0:=e0) (e1:=e1) (e2:=e2) hb rfl (by omega) (by omega)
 have l1:(B 0).length=Lb:=hb.ln 0
 have n1:B 0≠[]:=fun e=>by rw[e] at l1; simp only[Wk] at l1; have:=hb.pos; omega
 have z2:Z qaf (.call 165 [.ptr 0 0,(E.bin f o a b).node,.int 0] (qcu vs e0 e1 e2 (B 0)))=_:=qfV (f:=f) (N:=2) (i:=0) (e0:=e0) (e1:=e1) (e2:=e2) ha.toTrB rfl (by omega) (B 0) n1 (by omega)
 rw[show B 0++A (B 0).length=sq B A 0 by simp[sq]] at z2
 have l2:(sq B A 0).length<2^30:=by rw[qa9 hb.ln ha.ln]; omega
 have zo:=qhF o (fun e=>by rw[e] at h1; exact absurd h1 (by decide)) (fun e=>by rw[e] at h2; exact absurd h2 (by decide))
 have z3:=qcg (vs:=vs) (e0:=e0) (e1:=e1) (e2:=e2) (sq B A 0) l2 (opI o) 0
 rw[show (sq B A 0)++[(opI o,(0:Int))]=(snC (sq B A) (opI o,0)) 0 by simp[snC]] at z3
 simp only[E.node,qd2,qff,qfg,qdq] at z1 z2
 generalize (snC (sq B A) (opI o,0)) 0=c5 at *
 generalize sq B A 0=c3 at *
 generalize B 0=c1 at *
 refine qab (pf:=F168) rfl rfl ?_
 rcases h3 with h3|h3
 ·simp[F168,s1,s2,s3,h1,h2,h3,z1,z2,z3,zo,qaI,qan,Wa]
 ·cases hg:qsU o with
  |true=>simp[F168,s1,s2,s3,h1,h2,hg,z1,z2,z3,zo,qaI,qan,Wa]
  |false=>simp[F168,s1,s2,s3,s4,h1,h2,h3,hg,z1,z2,z3,zo,qaI,qan,Wa]
theorem qyR(ha:TrOK vs a.node A La)(hb:TrOK vs b.node B Lb)(f:Bool){o:Bop}(ho:o = .ne)(hl:4*(La+Lb+1)<2^30):Z qaf (.call 168 [.ptr 0 0,(E.bin f o a b).node] (qd9 vs e0 e1 e2))=some (.ret (.tup []) (qht vs e0 e1 e2 ((snC (snC (sq A B) (16,0)) (17,0)) 0))):=by
 subst ho
 have s1:=qfL .ne
 have s2:=qiW .ne
 have s3:=qox .ne
 have s4:=qoy .ne
 have s5:=qoz .ne
 have hpa:=ha.pos
 have hpb:=hb.pos
 have z1:Z qaf (.call 165 [.ptr 0 0,(E.bin f .ne a b).node,.int 0] (qd9 vs e0 e1 e2))=_:=qnt (f:=f) (N:=2) (i:=0) (e0:=e0) (e1:=e1) (e2:=e2) ha rfl (by omega) (by omega)
 have l1:(A 0).length=La:=ha.ln 0
 have n1:A 0≠[]:=fun e=>by rw[e] at l1; simp only[Wk] at l1; have:=ha.pos; omega
 have z2:Z qaf (.call 165 [.ptr 0 0,(E.bin f .ne a b).node,.int 1] (qcu vs e0 e1 e2 (A 0)))=_:=qfV (f:=f) (N:=2) (i:=1) (e0:=e0) (e1:=e1) (e2:=e2) hb.toTrB rfl (by omega) (A 0) n1 (by omega)
 rw[show A 0++B (A 0).length=sq A B 0 by simp[sq]] at z2
 have l2:(sq A B 0).length<2^30:=by rw[qa9 ha.ln hb.ln]; omega
 have z3:=qcg (vs:=vs) (e0:=e0) (e1:=e1) (e2:=e2) (sq A B 0) l2 16 0
 rw[show (sq A B 0)++[((16:Int),(0:Int))]=snC (sq A B) (16,0) 0 by simp[snC]] at z3
 have l3:(snC (sq A B) (16,0) 0).length<2^30:=by rw[qbL (qa9 ha.ln hb.ln)]; omega
 have z4:=qcg (vs:=vs) (e0:=e0) (e1:=e1) (e2:=e2) (snC (sq A B) (16,0) 0) l3 17 0
 rw[show (snC (sq A B) (16,0) 0)++[((17:Int),(0:Int))]=(snC (snC (sq A B) (16,0)) (17,0)) 0 by simp[snC]] at z4
 simp only[E.node,qd2,qff,qfg,qdq] at z1 z2
 generalize (snC (snC (sq A B) (16,0)) (17,0)) 0=c5 at *
 generalize snC (sq A B) (16,0) 0=c4 at *
 generalize sq A B 0=c3 at *
 generalize A 0=c1 at *
 refine qab (pf:=F168) rfl rfl ?_
 simp[F168,s1,s2,s3,s4,s5,qiA,qqr,qsU,qv9,qyI,z1,z2,z3,z4,qaI,qan,Wa]
theorem qfX(ha:TrOK vs a.node A La)(hb:TrOK vs b.node B Lb)(f:Bool){o:Bop}(h1:qiA o=false)(h2:qqr o=false)(h3:qsU o=false)(h4:qv9 o=false)(h5:qyI o=false)(hl:4*(La+Lb+1)<2^30):Z qaf (.call 168 [.ptr 0 0,(E.bin f o a b).node] (qd9 vs e0 e1 e2))=some (.ret (.tup []) (qht vs e0 e1 e2 ((snC (sq A B) (opI o,0)) 0))):=by
 have s1:=qfL o
 have s2:=qiW o
 have s3:=qox o
 have s4:=qoy o
 have s5:=qoz o
 have hpa:=ha.pos
 have hpb:=hb.pos
 have z1:Z qaf (.call 165 [.ptr 0 0,(E.bin f o a b).node,.int 0] (qd9 vs e0 e1 e2))=_:=qnt (f:=f) (N:=2) (i:=0) (e0:=e0) (e1:=e1) (e2:=e2) ha rfl (by omega) (by omega)
 have l1:(A 0).length=La:=ha.ln 0
 have n1:A 0≠[]:=fun e=>by rw[e] at l1; simp only[Wk] at l1; have:=ha.pos; omega
 have z2:Z qaf (.call 165 [.ptr 0 0,(E.bin f o a b).node,.int 1] (qcu vs e0 e1 e2 (A 0)))=_:=qfV (f:=f) (N:=2) (i:=1) (e0:=e0) (e1:=e1) (e2:=e2) hb.toTrB rfl (by omega) (A 0) n1 (by omega)
 rw[show A 0++B (A 0).length=sq A B 0 by simp[sq]] at z2
 have l2:(sq A B 0).length<2^30:=by rw[qa9 ha.ln hb.ln]; omega
 have zo:=qhF o (fun e=>by rw[e] at h1; exact absurd h1 (by decide)) (fun e=>by rw[e] at h2; exact absurd h2 (by decide))
 have z3:=qcg (vs:=vs) (e0:=e0) (e1:=e1) (e2:=e2) (sq A B 0) l2 (opI o) 0
 rw[show (sq A B 0)++[(opI o,(0:Int))]=(snC (sq A B) (opI o,0)) 0 by simp[snC]] at z3
 simp only[E.node,qd2,qff,qfg,qdq] at z1 z2
 generalize (snC (sq A B) (opI o,0)) 0=c5 at *
 generalize sq A B 0=c3 at *
 generalize A 0=c1 at *
 refine qab (pf:=F168) rfl rfl ?_
 simp[F168,s1,s2,s3,s4,s5,h1,h2,h3,h4,h5,z1,z2,z3,zo,qaI,qan,Wa]
end
end
section
open F Gr
set_option maxHeartbeats 2000000
attribute [local simp] qbe qbK dkey qga
section
variable{vs:List ByteArray}{a b:E}{A B:Int->Cd}{La Lb:Nat}
theorem qb5 (f:Bool) (o:Bop) {K:Nat} (hk:Ln (binC o A B) K) (h0:0<K) (h1 : ∀ (e0 e1 e2:Int) (c:Cd),c≠[]->c.length+4*K<2^30->Z qaf (.call 168 [.ptr 0 0,(E.bin f o a b).node] (qcu vs e0 e1 e2 c))=some (.ret (.tup []) (qcu vs e0 e1 e2 (c++(binC o A B) c.length))))
  (h2 : ∀ (e0 e1 e2:Int),4*K<2^30->Z qaf (.call 168 [.ptr 0 0,(E.bin f o a b).node] (qd9 vs e0 e1 e2))=some (.ret (.tup []) (qht vs e0 e1 e2 ((binC o A B) 0)))):TrOK vs (E.bin f o a b).node (binC o A B) K where
 ln:=hk
 pos:=h0
 one:=fun e0 e1 e2 c hc hl=>by
  have z:=h1 e0 e1 e2 c hc hl
  simp only[E.node,qd2,qff,qfg,qdq] at z
  generalize c++binC o A B c.length=c2 at *
  refine qab (pf:=F147) rfl rfl ?_
  simp[F147,z,Wa]
 zero:=fun e0 e1 e2 hl=>by
  have z:=h2 e0 e1 e2 hl
  simp only[E.node,qd2,qff,qfg,qdq] at z
  generalize binC o A B 0=c2 at *
  refine qab (pf:=F147) rfl rfl ?_
  simp[F147,z,Wa]
theorem qxx(ha:TrOK vs a.node A La)(hb:TrOK vs b.node B Lb)(f:Bool)(o:Bop) : ∃ K,TrOK vs (E.bin f o a b).node (binC o A B) K:=by
 have h1:Ln (fun _=>[((1:Int),(0:Int))]) 1:=fun _=>rfl
 have h1':Ln (fun _=>[((1:Int),(1:Int))]) 1:=fun _=>rfl
 have pa:=ha.pos
 have pb:=hb.pos
 cases o
 case and=>exact⟨_,qb5 f .and (qiT ha.ln hb.ln h1) (by omega) (fun e0 e1 e2 c hc hl=>qwk ha hb f c hc (by omega)) (fun e0 e1 e2 hl=>qwl ha hb f (by omega))⟩
 case or=>exact⟨_,qb5 f .or (qiT ha.ln h1' hb.ln) (by omega) (fun e0 e1 e2 c hc hl=>qyO ha hb f c hc (by omega)) (fun e0 e1 e2 hl=>qyP ha hb f (by omega))⟩
 case gt=>exact⟨_,qb5 f .gt (qbL (qa9 hb.ln ha.ln)) (by omega) (fun e0 e1 e2 c hc hl=>qqz ha hb f (o := .gt) rfl rfl (.inl rfl) c hc (by omega)) (fun e0 e1 e2 hl=>qqA ha hb f (o := .gt) rfl rfl (.inl rfl) (by omega))⟩
 case ge=>exact⟨_,qb5 f .ge (qbL (qa9 hb.ln ha.ln)) (by omega) (fun e0 e1 e2 c hc hl=>qqz ha hb f (o := .ge) rfl rfl (.inr rfl) c hc (by omega)) (fun e0 e1 e2 hl=>qqA ha hb f (o := .ge) rfl rfl (.inr rfl) (by omega))⟩
 case ne=>exact⟨_,qb5 f .ne (qbL (qbL (qa9 ha.ln hb.ln))) (by omega) (fun e0 e1 e2 c hc hl=>qyQ ha hb f rfl c hc (by omega)) (fun e0 e1 e2 hl=>qyR ha hb f rfl (by omega))⟩
 case add=>exact⟨_,qb5 f .add (qbL (qa9 ha.ln hb.ln)) (by omega) (fun e0 e1 e2 c hc hl=>qfW ha hb f (o := .add) rfl rfl rfl rfl rfl c hc (by omega)) (fun e0 e1 e2 hl=>qfX ha hb f (o := .add) rfl rfl rfl rfl rfl (by omega))⟩
 case sub=>exact⟨_,qb5 f .sub (qbL (qa9 ha.ln hb.ln)) (by omega) (fun e0 e1 e2 c hc hl=>qfW ha hb f (o := .sub) rfl rfl rfl rfl rfl c hc (by omega)) (fun e0 e1 e2 hl=>qfX ha hb f (o := .sub) rfl rfl rfl rfl rfl (by omega))⟩
 case mul=>exact⟨_,qb5 f .mul (qbL (qa9 ha.ln hb.ln)) (by omega) (fun e0 e1 e2 c hc hl=>qfW ha hb f (o := .mul) rfl rfl rfl rfl rfl c hc (by omega)) (fun e0 e1 e2 hl=>qfX ha hb f (o := .mul) rfl rfl rfl rfl rfl (by omega))⟩
 case div=>exact⟨_,qb5 f .div (qbL (qa9 ha.ln hb.ln)) (by omega) (fun e0 e1 e2 c hc hl=>qfW ha hb f (o := .div) rfl rfl rfl rfl rfl c hc (by omega)) (fun e0 e1 e2 hl=>qfX ha hb f (o := .div) rfl rfl rfl rfl rfl (by omega))⟩
 case lt=>exact⟨_,qb5 f .lt (qbL (qa9 ha.ln hb.ln)) (by omega) (fun e0 e1 e2 c hc hl=>qfW ha hb f (o := .lt) rfl rfl rfl rfl rfl c hc (by omega)) (fun e0 e1 e2 hl=>qfX ha hb f (o := .lt) rfl rfl rfl rfl rfl (by omega))⟩
 case le=>exact⟨_,qb5 f .le (qbL (qa9 ha.ln hb.ln)) (by omega) (fun e0 e1 e2 c hc hl=>qfW ha hb f (o := .le) rfl rfl rfl rfl rfl c hc (by omega)) (fun e0 e1 e2 hl=>qfX ha hb f (o := .le) rfl rfl rfl rfl rfl (by omega))⟩
 case eq=>exact⟨_,qb5 f .eq (qbL (qa9 ha.ln hb.ln)) (by omega) (fun e0 e1 e2 c hc hl=>qfW ha hb f (o := .eq) rfl rfl rfl rfl rfl c hc (by omega)) (fun e0 e1 e2 hl=>qfX ha hb f (o := .eq) rfl rfl rfl rfl rfl (by omega))⟩
theorem qoQ : ∀ e:E,e.fine->e.inV vs -> ∃ L,TrOK vs e.node (qcR vs e) L
 |.int n,_,_=>⟨_,qyB n⟩
 |.bool n,_,_=>⟨_,qvY n⟩
 |.var s,_,g=>⟨_,qyC g⟩
 |.name s,_,_=>⟨_,qvZ s⟩
 |.field f s e,h,g=>let ⟨_,k⟩:=qoQ e h.2.1 g; ⟨_,qsF f h.1 k⟩
 |.un f true e,h,g=>let ⟨_,k⟩:=qoQ e h.1 g; ⟨_,qop f k⟩
 |.un f false e,h,g=>let ⟨_,k⟩:=qoQ e h.1 g; ⟨_,qmo f k⟩
 |.bin f o a b,h,g=>let ⟨_,k⟩:=qoQ a h.1 g.1; let ⟨_,k'⟩:=qoQ b h.2.1 g.2; qxx k k' f o
end
end
section
open F Gr
set_option maxHeartbeats 2000000
attribute [local simp] qbe qbK dkey qga
section
variable{vs:List ByteArray}{a b:E}{A B:Int->Cd}{La Lb:Nat}{e0 e1 e2:Int}
theorem qqs(f:Bool){s:ByteArray}(hs:s∈vs)(ha:TrOK vs a.node A La):TrOK vs (nd 1 0 s f (a.fo .nil)) (snC A (3,ixI vs s)) (La+1) where
 ln:=qbL ha.ln
 pos:=by omega
 one:=fun e0 e1 e2 c hc hl=>by
  have hpa:=ha.pos
  have zf:=qh4 s vs 0 hs
  rw[show ixI vs s+((0:Nat):Int)=ixI vs s by omega] at zf
  have z1:Z qaf (.call 165 [.ptr 0 0,.dat (.agg [.lit (.int .i64 1),.lit (.int .i64 0),.lit (.string s),.sl [.lit (.int .i64 a.kind),.lit (.int .i64 a.num),.lit (.string a.str),a.kids] 1 f]),.int 0] (qcu vs e0 e1 e2 c))=_:=qfV (f:=f) (N:=1) (i:=0) (e0:=e0) (e1:=e1) (e2:=e2) ha.toTrB rfl (by omega) c hc (by omega)
  have l1:(c++A c.length).length<2^30:=by rw[Wb,ha.ln]; omega
  have z3:=qcg (vs:=vs) (e0:=e0) (e1:=e1) (e2:=e2) (c++A c.length) (by omega) 3 (ixI vs s)
  rw[show (c++A c.length)++[((3:Int),(ixI vs s:Int))]=c++(snC A (3,ixI vs s)) c.length by simp[snC]] at z3
  generalize c++(snC A (3,ixI vs s)) c.length=c5 at *
  generalize c++A c.length=c1 at *
  have zs:Z qaf (.call 169 [.ptr 0 0,.dat (.agg [.lit (.int .i64 1),.lit (.int .i64 0),.lit (.string s),.sl [.lit (.int .i64 a.kind),.lit (.int .i64 a.num),.lit (.string a.str),a.kids] 1 f])] (qcu vs e0 e1 e2 c))=some (.ret (.tup []) (qcu vs e0 e1 e2 c5)):=by
   refine qab (pf:=F169) rfl rfl ?_
   simp[F169,z1,z3,zf,qeF,qaI,qan,Wa]
  refine qab (pf:=F147) rfl rfl ?_
  simp[F147,zs,Wa]
 zero:=fun e0 e1 e2 hl=>by
  have hpa:=ha.pos
  have zf:=qh4 s vs 0 hs
  rw[show ixI vs s+((0:Nat):Int)=ixI vs s by omega] at zf
  have z1:Z qaf (.call 165 [.ptr 0 0,.dat (.agg [.lit (.int .i64 1),.lit (.int .i64 0),.lit (.string s),.sl [.lit (.int .i64 a.kind),.lit (.int .i64 a.num),.lit (.string a.str),a.kids] 1 f]),.int 0] (qd9 vs e0 e1 e2))=_:=qnt (f:=f) (N:=1) (i:=0) (e0:=e0) (e1:=e1) (e2:=e2) ha rfl (by omega) (by omega)
  have l1:(A 0).length<2^30:=by rw[ha.ln]; omega
  have z3:=qcg (vs:=vs) (e0:=e0) (e1:=e1) (e2:=e2) (A 0) (by omega) 3 (ixI vs s)
  rw[show (A 0)++[((3:Int),(ixI vs s:Int))]=(snC A (3,ixI vs s)) 0 by simp[snC]] at z3
  generalize (snC A (3,ixI vs s)) 0=c5 at *
  generalize A 0=c1 at *
  have zs:Z qaf (.call 169 [.ptr 0 0,.dat (.agg [.lit (.int .i64 1),.lit (.int .i64 0),.lit (.string s),.sl [.lit (.int .i64 a.kind),.lit (.int .i64 a.num),.lit (.string a.str),a.kids] 1 f])] (qd9 vs e0 e1 e2))=some (.ret (.tup []) (qht vs e0 e1 e2 c5)):=by
   refine qab (pf:=F169) rfl rfl ?_
   simp[F169,z1,z3,zf,qeF,qaI,qan,Wa]
  refine qab (pf:=F147) rfl rfl ?_
  simp[F147,zs,Wa]
theorem qsW(f:Bool){s:ByteArray}(hs:s∈qdT)(ha:TrOK vs a.node A La)(hb:TrOK vs b.node B Lb):TrOK vs (nd 2 0 s f (a.fo (b.fo .nil))) (snC (sq A B) (5,fieldI s)) (La+Lb+1) where
 ln:=qbL (qa9 ha.ln hb.ln)
 pos:=by omega
 one:=fun e0 e1 e2 c hc hl=>by
  have hpa:=ha.pos
  have hpb:=hb.pos
  have zf:=qhG hs
  have z1:Z qaf (.call 165 [.ptr 0 0,.dat (.agg [.lit (.int .i64 2),.lit (.int .i64 0),.lit (.string s),.sl [.lit (.int .i64 a.kind),.lit (.int .i64 a.num),.lit (.string a.str),a.kids,.lit (.int .i64 b.kind),.lit (.int .i64 b.num),.lit (.string b.str),b.kids] 2 f]),.int 0] (qcu vs e0 e1 e2 c))=_:=qfV (f:=f) (N:=2) (i:=0) (e0:=e0) (e1:=e1) (e2:=e2) ha.toTrB rfl (by omega) c hc (by omega)
  have l1:(c++A c.length).length<2^30:=by rw[Wb,ha.ln]; omega
  have l1':(c++A c.length).length=c.length+La:=by rw[Wb,ha.ln]
  have z2:Z qaf (.call 165 [.ptr 0 0,.dat (.agg [.lit (.int .i64 2),.lit (.int .i64 0),.lit (.string s),.sl [.lit (.int .i64 a.kind),.lit (.int .i64 a.num),.lit (.string a.str),a.kids,.lit (.int .i64 b.kind),.lit (.int .i64 b.num),.lit (.string b.str),b.kids] 2 f]),.int 1] (qcu vs e0 e1 e2 (c++A c.length)))=_:=qfV (f:=f) (N:=2) (i:=1) (e0:=e0) (e1:=e1) (e2:=e2) hb.toTrB rfl (by omega) (c++A c.length) (qix hc) (by omega)
  rw[qqy] at z2
  have l2:(c++sq A B c.length).length<2^30:=by rw[Wb,qa9 ha.ln hb.ln]; omega
  have z3:=qcg (vs:=vs) (e0:=e0) (e1:=e1) (e2:=e2) (c++sq A B c.length) l2 5 (fieldI s)
  rw[show (c++sq A B c.length)++[((5:Int),(fieldI s:Int))]=c++(snC (sq A B) (5,fieldI s)) c.length by simp[snC]] at z3
  generalize c++(snC (sq A B) (5,fieldI s)) c.length=c5 at *
  generalize c++sq A B c.length=c3 at *
  generalize c++A c.length=c1 at *
  have zs:Z qaf (.call 169 [.ptr 0 0,.dat (.agg [.lit (.int .i64 2),.lit (.int .i64 0),.lit (.string s),.sl [.lit (.int .i64 a.kind),.lit (.int .i64 a.num),.lit (.string a.str),a.kids,.lit (.int .i64 b.kind),.lit (.int .i64 b.num),.lit (.string b.str),b.kids] 2 f])] (qcu vs e0 e1 e2 c))=some (.ret (.tup []) (qcu vs e0 e1 e2 c5)):=by
   refine qab (pf:=F169) rfl rfl ?_
   simp[F169,z1,z2,z3,zf,qeF,qaI,qan,Wa]
  refine qab (pf:=F147) rfl rfl ?_
  simp[F147,zs,Wa]
 zero:=fun e0 e1 e2 hl=>by
  have hpa:=ha.pos
  have hpb:=hb.pos
  have zf:=qhG hs
  have z1:Z qaf (.call 165 [.ptr 0 0,.dat (.agg [.lit (.int .i64 2),.lit (.int .i64 0),.lit (.string s),.sl [.lit (.int .i64 a.kind),.lit (.int .i64 a.num),.lit (.string a.str),a.kids,.lit (.int .i64 b.kind),.lit (.int .i64 b.num),.lit (.string b.str),b.kids] 2 f]),.int 0] (qd9 vs e0 e1 e2))=_:=qnt (f:=f) (N:=2) (i:=0) (e0:=e0) (e1:=e1) (e2:=e2) ha rfl (by omega) (by omega)
  have l1:(A 0).length<2^30:=by rw[ha.ln]; omega
  have n1:A 0≠[]:=fun e=>by have:=ha.ln 0; rw[e] at this; simp only[Wk] at this; omega
  have l1':=ha.ln 0
  have z2:Z qaf (.call 165 [.ptr 0 0,.dat (.agg [.lit (.int .i64 2),.lit (.int .i64 0),.lit (.string s),.sl [.lit (.int .i64 a.kind),.lit (.int .i64 a.num),.lit (.string a.str),a.kids,.lit (.int .i64 b.kind),.lit (.int .i64 b.num),.lit (.string b.str),b.kids] 2 f]),.int 1] (qcu vs e0 e1 e2 (A 0)))=_:=qfV (f:=f) (N:=2) (i:=1) (e0:=e0) (e1:=e1) (e2:=e2) hb.toTrB rfl (by omega) (A 0) n1 (by omega)
  rw[show A 0++B (A 0).length=sq A B 0 by simp[sq]] at z2
  have l2:(sq A B 0).length<2^30:=by rw[qa9 ha.ln hb.ln]; omega
  have z3:=qcg (vs:=vs) (e0:=e0) (e1:=e1) (e2:=e2) (sq A B 0) l2 5 (fieldI s)
  rw[show (sq A B 0)++[((5:Int),(fieldI s:Int))]=(snC (sq A B) (5,fieldI s)) 0 by simp[snC]] at z3
  generalize (snC (sq A B) (5,fieldI s)) 0=c5 at *
  generalize sq A B 0=c3 at *
  generalize A 0=c1 at *
  have zs:Z qaf (.call 169 [.ptr 0 0,.dat (.agg [.lit (.int .i64 2),.lit (.int .i64 0),.lit (.string s),.sl [.lit (.int .i64 a.kind),.lit (.int .i64 a.num),.lit (.string a.str),a.kids,.lit (.int .i64 b.kind),.lit (.int .i64 b.num),.lit (.string b.str),b.kids] 2 f])] (qd9 vs e0 e1 e2))=some (.ret (.tup []) (qht vs e0 e1 e2 c5)):=by
   refine qab (pf:=F169) rfl rfl ?_
   simp[F169,z1,z2,z3,zf,qeF,qaI,qan,Wa]
  refine qab (pf:=F147) rfl rfl ?_
  simp[F147,zs,Wa]
theorem qqt(f:Bool)(ha:TrOK vs a.node A La)(hb:TrOK vs b.node B Lb):TrOK vs (nd 5 0 ⟨#[]⟩ f (a.fo (b.fo .nil))) (snC (sq A B) (20,0)) (La+Lb+1) where
 ln:=qbL (qa9 ha.ln hb.ln)
 pos:=by omega
 one:=fun e0 e1 e2 c hc hl=>by
  have hpa:=ha.pos
  have hpb:=hb.pos
  have z1:Z qaf (.call 165 [.ptr 0 0,.dat (.agg [.lit (.int .i64 5),.lit (.int .i64 0),.lit (.string ⟨#[]⟩),.sl [.lit (.int .i64 a.kind),.lit (.int .i64 a.num),.lit (.string a.str),a.kids,.lit (.int .i64 b.kind),.lit (.int .i64 b.num),.lit (.string b.str),b.kids] 2 f]),.int 0] (qcu vs e0 e1 e2 c))=_:=qfV (f:=f) (N:=2) (i:=0) (e0:=e0) (e1:=e1) (e2:=e2) ha.toTrB rfl (by omega) c hc (by omega)
  have l1:(c++A c.length).length<2^30:=by rw[Wb,ha.ln]; omega
  have l1':(c++A c.length).length=c.length+La:=by rw[Wb,ha.ln]
  have z2:Z qaf (.call 165 [.ptr 0 0,.dat (.agg [.lit (.int .i64 5),.lit (.int .i64 0),.lit (.string ⟨#[]⟩),.sl [.lit (.int .i64 a.kind),.lit (.int .i64 a.num),.lit (.string a.str),a.kids,.lit (.int .i64 b.kind),.lit (.int .i64 b.num),.lit (.string b.str),b.kids] 2 f]),.int 1] (qcu vs e0 e1 e2 (c++A c.length)))=_:=qfV (f:=f) (N:=2) (i:=1) (e0:=e0) (e1:=e1) (e2:=e2) hb.toTrB rfl (by omega) (c++A c.length) (qix hc) (by omega)
  rw[qqy] at z2
  have l2:(c++sq A B c.length).length<2^30:=by rw[Wb,qa9 ha.ln hb.ln]; omega
  have z3:=qcg (vs:=vs) (e0:=e0) (e1:=e1) (e2:=e2) (c++sq A B c.length) l2 20 (0)
  rw[show (c++sq A B c.length)++[((20:Int),(0:Int))]=c++(snC (sq A B) (20,0)) c.length by simp[snC]] at z3
  generalize c++(snC (sq A B) (20,0)) c.length=c5 at *
  generalize c++sq A B c.length=c3 at *
  generalize c++A c.length=c1 at *
  have zs:Z qaf (.call 169 [.ptr 0 0,.dat (.agg [.lit (.int .i64 5),.lit (.int .i64 0),.lit (.string ⟨#[]⟩),.sl [.lit (.int .i64 a.kind),.lit (.int .i64 a.num),.lit (.string a.str),a.kids,.lit (.int .i64 b.kind),.lit (.int .i64 b.num),.lit (.string b.str),b.kids] 2 f])] (qcu vs e0 e1 e2 c))=some (.ret (.tup []) (qcu vs e0 e1 e2 c5)):=by
   refine qab (pf:=F169) rfl rfl ?_
   simp[F169,z1,z2,z3,qeF,qaI,qan,Wa]
  refine qab (pf:=F147) rfl rfl ?_
  simp[F147,zs,Wa]
 zero:=fun e0 e1 e2 hl=>by
  have hpa:=ha.pos
  have hpb:=hb.pos
  have z1:Z qaf (.call 165 [.ptr 0 0,.dat (.agg [.lit (.int .i64 5),.lit (.int .i64 0),.lit (.string ⟨#[]⟩),.sl [.lit (.int .i64 a.kind),.lit (.int .i64 a.num),.lit (.string a.str),a.kids,.lit (.int .i64 b.kind),.lit (.int .i64 b.num),.lit (.string b.str),b.kids] 2 f]),.int 0] (qd9 vs e0 e1 e2))=_:=qnt (f:=f) (N:=2) (i:=0) (e0:=e0) (e1:=e1) (e2:=e2) ha rfl (by omega) (by omega)
  have l1:(A 0).length<2^30:=by rw[ha.ln]; omega
  have n1:A 0≠[]:=fun e=>by have:=ha.ln 0; rw[e] at this; simp only[Wk] at this; omega
  have l1':=ha.ln 0
  have z2:Z qaf (.call 165 [.ptr 0 0,.dat (.agg [.lit (.int .i64 5),.lit (.int .i64 0),.lit (.string ⟨#[]⟩),.sl [.lit (.int .i64 a.kind),.lit (.int .i64 a.num),.lit (.string a.str),a.kids,.lit (.int .i64 b.kind),.lit (.int .i64 b.num),.lit (.string b.str),b.kids] 2 f]),.int 1] (qcu vs e0 e1 e2 (A 0)))=_:=qfV (f:=f) (N:=2) (i:=1) (e0:=e0) (e1:=e1) (e2:=e2) hb.toTrB rfl (by omega) (A 0) n1 (by omega)
  rw[show A 0++B (A 0).length=sq A B 0 by simp[sq]] at z2
  have l2:(sq A B 0).length<2^30:=by rw[qa9 ha.ln hb.ln]; omega
  have z3:=qcg (vs:=vs) (e0:=e0) (e1:=e1) (e2:=e2) (sq A B 0) l2 20 (0)
  rw[show (sq A B 0)++[((20:Int),(0:Int))]=(snC (sq A B) (20,0)) 0 by simp[snC]] at z3
  generalize (snC (sq A B) (20,0)) 0=c5 at *
  generalize sq A B 0=c3 at *
  generalize A 0=c1 at *
  have zs:Z qaf (.call 169 [.ptr 0 0,.dat (.agg [.lit (.int .i64 5),.lit (.int .i64 0),.lit (.string ⟨#[]⟩),.sl [.lit (.int .i64 a.kind),.lit (.int .i64 a.num),.lit (.string a.str),a.kids,.lit (.int .i64 b.kind),.lit (.int .i64 b.num),.lit (.string b.str),b.kids] 2 f])] (qd9 vs e0 e1 e2))=some (.ret (.tup []) (qht vs e0 e1 e2 c5)):=by
   refine qab (pf:=F169) rfl rfl ?_
   simp[F169,z1,z2,z3,qeF,qaI,qan,Wa]
  refine qab (pf:=F147) rfl rfl ?_
  simp[F147,zs,Wa]
theorem qwc(f:Bool):TrOK vs (nd 6 0 ⟨#[]⟩ f .nil) (fun _=>[(21,0)]) 1 where
 ln:=fun _=>rfl
 pos:=by omega
 one:=fun e0 e1 e2 c hc hl=>by
  have z:=qcg (vs:=vs) (e0:=e0) (e1:=e1) (e2:=e2) c (by omega) 21 0
  generalize c++[((21:Int),(0:Int))]=c2 at *
  have zs:Z qaf (.call 169 [.ptr 0 0,.dat (.agg [.lit (.int .i64 6),.lit (.int .i64 0),.lit (.string ⟨#[]⟩),.lit (.slice none 0 0)])] (qcu vs e0 e1 e2 c))=some (.ret (.tup []) (qcu vs e0 e1 e2 c2)):=by
   refine qab (pf:=F169) rfl rfl ?_
   simp[F169,z,Wa]
  refine qab (pf:=F147) rfl rfl ?_
  simp[F147,zs,Wa]
 zero:=fun e0 e1 e2 hl=>by
  have z:=qkP (vs:=vs) (e0:=e0) (e1:=e1) (e2:=e2) 21 0
  generalize [((21:Int),(0:Int))]=c2 at *
  have zs:Z qaf (.call 169 [.ptr 0 0,.dat (.agg [.lit (.int .i64 6),.lit (.int .i64 0),.lit (.string ⟨#[]⟩),.lit (.slice none 0 0)])] (qd9 vs e0 e1 e2))=some (.ret (.tup []) (qht vs e0 e1 e2 c2)):=by
   refine qab (pf:=F169) rfl rfl ?_
   simp[F169,z,Wa]
  refine qab (pf:=F147) rfl rfl ?_
  simp[F147,zs,Wa]
theorem qA0 (f f1 f2:Bool) {x y:Fo} {X Y:Int->Cd} {Lx Ly:Nat} (ha:TrOK vs a.node A La) (hx:TrB vs (nd 7 0 ⟨#[]⟩ f1 x) X Lx) (hy:TrB vs (nd 7 0 ⟨#[]⟩ f2 y) Y Ly) :
  TrOK vs (nd 3 0 ⟨#[]⟩ f (a.fo (.cons 7 0 ⟨#[]⟩ f1 x (.cons 7 0 ⟨#[]⟩ f2 y .nil)))) (brC A X Y) (La+Lx+Ly+2) where
 ln:=qiT ha.ln hx.ln hy.ln
 pos:=by omega
 one:=fun e0 e1 e2 c hc hl=>by
  have hpa:=ha.pos
  have z:=qn0 (vs:=vs) (e0:=e0) (e1:=e1) (e2:=e2) (qtZ (k:=3) (n:=0) (s:=⟨#[]⟩) (f:=f) (N:=3) (cs:=[.lit (.int .i64 a.kind),.lit (.int .i64 a.num),.lit (.string a.str),a.kids,.lit (.int .i64 7),.lit (.int .i64 0),.lit (.string ⟨#[]⟩),kd f1 x.len x.cells,.lit (.int .i64 7),.lit (.int .i64 0),.lit (.string ⟨#[]⟩),kd f2 y.len y.cells]) ha.toTrB rfl (by omega)) (qt0 (k:=3) (n:=0) (s:=⟨#[]⟩) (f:=f) (N:=3) (cs:=[.lit (.int .i64 a.kind),.lit (.int .i64 a.num),.lit (.string a.str),a.kids,.lit (.int .i64 7),.lit (.int .i64 0),.lit (.string ⟨#[]⟩),kd f1 x.len x.cells,.lit (.int .i64 7),.lit (.int .i64 0),.lit (.string ⟨#[]⟩),kd f2 y.len y.cells]) hx rfl (by omega)) (qt1 (k:=3) (n:=0) (s:=⟨#[]⟩) (f:=f) (N:=3) (cs:=[.lit (.int .i64 a.kind),.lit (.int .i64 a.num),.lit (.string a.str),a.kids,.lit (.int .i64 7),.lit (.int .i64 0),.lit (.string ⟨#[]⟩),kd f1 x.len x.cells,.lit (.int .i64 7),.lit (.int .i64 0),.lit (.string ⟨#[]⟩),kd f2 y.len y.cells]) hy rfl (by omega)) c hc (by omega) ha.pos
  simp only[nbo,qlC] at z
  generalize c++brC A X Y c.length=c5 at *
  have zs:Z qaf (.call 169 [.ptr 0 0,.dat (.agg [.lit (.int .i64 3),.lit (.int .i64 0),.lit (.string ⟨#[]⟩),.sl [.lit (.int .i64 a.kind),.lit (.int .i64 a.num),.lit (.string a.str),a.kids,.lit (.int .i64 7),.lit (.int .i64 0),.lit (.string ⟨#[]⟩),kd f1 x.len x.cells,.lit (.int .i64 7),.lit (.int .i64 0),.lit (.string ⟨#[]⟩),kd f2 y.len y.cells] 3 f])] (qcu vs e0 e1 e2 c))=some (.ret (.tup []) (qcu vs e0 e1 e2 c5)):=by
   refine qab (pf:=F169) rfl rfl ?_
   simp[F169,z,Wa]
  refine qab (pf:=F147) rfl rfl ?_
  simp[F147,zs,Wa]
 zero:=fun e0 e1 e2 hl=>by
  have hpa:=ha.pos
  have z:=qn1 (vs:=vs) (e0:=e0) (e1:=e1) (e2:=e2) (qtZ (k:=3) (n:=0) (s:=⟨#[]⟩) (f:=f) (N:=3) (cs:=[.lit (.int .i64 a.kind),.lit (.int .i64 a.num),.lit (.string a.str),a.kids,.lit (.int .i64 7),.lit (.int .i64 0),.lit (.string ⟨#[]⟩),kd f1 x.len x.cells,.lit (.int .i64 7),.lit (.int .i64 0),.lit (.string ⟨#[]⟩),kd f2 y.len y.cells]) ha.toTrB rfl (by omega)) (qv5 (k:=3) (n:=0) (s:=⟨#[]⟩) (f:=f) (N:=3) (cs:=[.lit (.int .i64 a.kind),.lit (.int .i64 a.num),.lit (.string a.str),a.kids,.lit (.int .i64 7),.lit (.int .i64 0),.lit (.string ⟨#[]⟩),kd f1 x.len x.cells,.lit (.int .i64 7),.lit (.int .i64 0),.lit (.string ⟨#[]⟩),kd f2 y.len y.cells]) ha rfl (by omega) (by omega)) (qt0 (k:=3) (n:=0) (s:=⟨#[]⟩) (f:=f) (N:=3) (cs:=[.lit (.int .i64 a.kind),.lit (.int .i64 a.num),.lit (.string a.str),a.kids,.lit (.int .i64 7),.lit (.int .i64 0),.lit (.string ⟨#[]⟩),kd f1 x.len x.cells,.lit (.int .i64 7),.lit (.int .i64 0),.lit (.string ⟨#[]⟩),kd f2 y.len y.cells]) hx rfl (by omega)) (qt1 (k:=3) (n:=0) (s:=⟨#[]⟩) (f:=f) (N:=3) (cs:=[.lit (.int .i64 a.kind),.lit (.int .i64 a.num),.lit (.string a.str),a.kids,.lit (.int .i64 7),.lit (.int .i64 0),.lit (.string ⟨#[]⟩),kd f1 x.len x.cells,.lit (.int .i64 7),.lit (.int .i64 0),.lit (.string ⟨#[]⟩),kd f2 y.len y.cells]) hy rfl (by omega)) (by omega) ha.pos
  simp only[nbo,qlC] at z
  generalize brC A X Y 0=c5 at *
  have zs:Z qaf (.call 169 [.ptr 0 0,.dat (.agg [.lit (.int .i64 3),.lit (.int .i64 0),.lit (.string ⟨#[]⟩),.sl [.lit (.int .i64 a.kind),.lit (.int .i64 a.num),.lit (.string a.str),a.kids,.lit (.int .i64 7),.lit (.int .i64 0),.lit (.string ⟨#[]⟩),kd f1 x.len x.cells,.lit (.int .i64 7),.lit (.int .i64 0),.lit (.string ⟨#[]⟩),kd f2 y.len y.cells] 3 f])] (qd9 vs e0 e1 e2))=some (.ret (.tup []) (qht vs e0 e1 e2 c5)):=by
   refine qab (pf:=F169) rfl rfl ?_
   simp[F169,z,Wa]
  refine qab (pf:=F147) rfl rfl ?_
  simp[F147,zs,Wa]
theorem qyL(A X:Int->Cd)(c:Cd):(c++A c.length)++(19,((((c++A c.length)++[((19:Int),(0:Int))])++X ((c++A c.length)++[((19:Int),(0:Int))]).length++[((18:Int),(c.length:Int))]).length:Int))::(X ((c++A c.length)++[((19:Int),(0:Int))]).length++[((18:Int),(c.length:Int))])=c++whC A X c.length:=by
 have e:((((c++A c.length)++[((19:Int),(0:Int))]).length:Nat):Int)=c.length+(A c.length).length+1:=by simp only[Wb,We,Wk]; omega
 simp only[whC,Wf]
 simp only[Wf] at e
 rw[e]
 have e2:(((c++(A c.length++([((19:Int),(0:Int))]++(X (c.length+(A c.length).length+1)++[((18:Int),(c.length:Int))])))).length:Nat):Int)=c.length+(A c.length).length+1+(X (c.length+(A c.length).length+1)).length+1:=by simp only[Wb,We,Wk]; omega
 rw[e2]
theorem qsX (f f1:Bool) {x:Fo} {X:Int->Cd} {Lx:Nat} (ha:TrOK vs a.node A La) (hx:TrB vs (nd 7 0 ⟨#[]⟩ f1 x) X Lx) :
  TrOK vs (nd 4 0 ⟨#[]⟩ f (a.fo (.cons 7 0 ⟨#[]⟩ f1 x .nil))) (whC A X) (La+Lx+2) where
 ln:=qsu ha.ln hx.ln
 pos:=by omega
 one:=fun e0 e1 e2 c hc hl=>by
  have hpa:=ha.pos
  obtain⟨c1,h1⟩ : ∃ c1,c1=c++A c.length:=⟨_,rfl⟩
  have l1:c1.length=c.length+La:=by rw[h1,Wb,ha.ln]
  have n1:c1≠[]:=fun e=>by rw[e] at l1; simp only[Wk] at l1; omega
  have z1:Z qaf (.call 165 [.ptr 0 0,.dat (.agg [.lit (.int .i64 4),.lit (.int .i64 0),.lit (.string ⟨#[]⟩),.sl [.lit (.int .i64 a.kind),.lit (.int .i64 a.num),.lit (.string a.str),a.kids,.lit (.int .i64 7),.lit (.int .i64 0),.lit (.string ⟨#[]⟩),kd f1 x.len x.cells] 2 f]),.int 0] (qcu vs e0 e1 e2 c))=_:=qfV (f:=f) (N:=2) (i:=0) (e0:=e0) (e1:=e1) (e2:=e2) ha.toTrB rfl (by omega) c hc (by omega)
  rw[<- h1] at z1
  have z2:=qoJ (vs:=vs) (e0:=e0) (e1:=e1) (e2:=e2) c1 (by omega) 19
  obtain⟨c2,h2⟩ : ∃ c2,c2=c1++[((19:Int),(0:Int))]:=⟨_,rfl⟩
  have l2:c2.length=c1.length+1:=by rw[h2]; simp
  rw[<- h2] at z2
  have z3:Z qaf (.call 165 [.ptr 0 0,.dat (.agg [.lit (.int .i64 4),.lit (.int .i64 0),.lit (.string ⟨#[]⟩),.sl [.lit (.int .i64 a.kind),.lit (.int .i64 a.num),.lit (.string a.str),a.kids,.lit (.int .i64 7),.lit (.int .i64 0),.lit (.string ⟨#[]⟩),kd f1 x.len x.cells] 2 f]),.int 1] (qcu vs e0 e1 e2 c2))=_:=qfV (f:=f) (N:=2) (i:=1) (e0:=e0) (e1:=e1) (e2:=e2) hx rfl (by omega) c2 (by rw[h2]; simp) (by omega)
  obtain⟨c3,h3⟩ : ∃ c3,c3=c2++X c2.length:=⟨_,rfl⟩
  have l3:c3.length=c2.length+Lx:=by rw[h3,Wb,hx.ln]
  rw[<- h3] at z3
  have z4:=qcg (vs:=vs) (e0:=e0) (e1:=e1) (e2:=e2) c3 (by omega) 18 c.length
  obtain⟨c4,h4⟩ : ∃ c4,c4=c3++[((18:Int),(c.length:Int))]:=⟨_,rfl⟩
  have l4:c4.length=c3.length+1:=by rw[h4]; simp
  rw[<- h4] at z4
  have f4:c4=c1++(19,0)::(X c2.length++[((18:Int),(c.length:Int))]):=by rw[h4,h3,h2]; simp
  have z5:=qd7 (vs:=vs) (e0:=e0) (e1:=e1) (e2:=e2) c1 (X c2.length++[((18:Int),(c.length:Int))]) 19 0 (by rw[<- f4]; omega)
  rw[<- f4] at z5
  have f5:c1++(19,(c4.length:Int))::(X c2.length++[((18:Int),(c.length:Int))])=c++whC A X c.length:=by
   have:=qyL A X c
   rw[<- h1,<- h2,<- h3,<- h4] at this
   exact this
  have l5:c4.length=(c++whC A X c.length).length:=by rw[<- f5,f4]; simp
  rw[f5] at z5
  generalize c++whC A X c.length=c5 at *
  rw[l5] at z5
  have zl:Z qaf (.call 191 [.ptr 0 0,.dat (.agg [.lit (.int .i64 4),.lit (.int .i64 0),.lit (.string ⟨#[]⟩),.sl [.lit (.int .i64 a.kind),.lit (.int .i64 a.num),.lit (.string a.str),a.kids,.lit (.int .i64 7),.lit (.int .i64 0),.lit (.string ⟨#[]⟩),kd f1 x.len x.cells] 2 f])] (qcu vs e0 e1 e2 c))=some (.ret (.tup []) (qcu vs e0 e1 e2 c5)):=by
   refine qab (pf:=F191) rfl rfl ?_
   simp[F191,qcK,z1,z2,z3,z4,z5,l5,V.isNilIf,Wa]
  have zs:Z qaf (.call 169 [.ptr 0 0,.dat (.agg [.lit (.int .i64 4),.lit (.int .i64 0),.lit (.string ⟨#[]⟩),.sl [.lit (.int .i64 a.kind),.lit (.int .i64 a.num),.lit (.string a.str),a.kids,.lit (.int .i64 7),.lit (.int .i64 0),.lit (.string ⟨#[]⟩),kd f1 x.len x.cells] 2 f])] (qcu vs e0 e1 e2 c))=some (.ret (.tup []) (qcu vs e0 e1 e2 c5)):=by
   refine qab (pf:=F169) rfl rfl ?_
   simp[F169,zl,Wa]
  refine qab (pf:=F147) rfl rfl ?_
  simp[F147,zs,Wa]
 zero:=fun e0 e1 e2 hl=>by
  obtain⟨c,hcn⟩ : ∃ c:Cd,c=[]:=⟨_,rfl⟩
  have lc:c.length=0:=by rw[hcn]; rfl
  have hpa:=ha.pos
  obtain⟨c1,h1⟩ : ∃ c1,c1=c++A c.length:=⟨_,rfl⟩
  have l1:c1.length=c.length+La:=by rw[h1,Wb,ha.ln]
  have n1:c1≠[]:=fun e=>by rw[e] at l1; simp only[Wk] at l1; omega
  have z1:Z qaf (.call 165 [.ptr 0 0,.dat (.agg [.lit (.int .i64 4),.lit (.int .i64 0),.lit (.string ⟨#[]⟩),.sl [.lit (.int .i64 a.kind),.lit (.int .i64 a.num),.lit (.string a.str),a.kids,.lit (.int .i64 7),.lit (.int .i64 0),.lit (.string ⟨#[]⟩),kd f1 x.len x.cells] 2 f]),.int 0] (qd9 vs e0 e1 e2))=_:=qnt (f:=f) (N:=2) (i:=0) (e0:=e0) (e1:=e1) (e2:=e2) ha rfl (by omega) (by omega)
  rw[show A 0=c1 by rw[h1,hcn]; rfl] at z1
  have z2:=qoJ (vs:=vs) (e0:=e0) (e1:=e1) (e2:=e2) c1 (by omega) 19
  obtain⟨c2,h2⟩ : ∃ c2,c2=c1++[((19:Int),(0:Int))]:=⟨_,rfl⟩
  have l2:c2.length=c1.length+1:=by rw[h2]; simp
  rw[<- h2] at z2
  have z3:Z qaf (.call 165 [.ptr 0 0,.dat (.agg [.lit (.int .i64 4),.lit (.int .i64 0),.lit (.string ⟨#[]⟩),.sl [.lit (.int .i64 a.kind),.lit (.int .i64 a.num),.lit (.string a.str),a.kids,.lit (.int .i64 7),.lit (.int .i64 0),.lit (.string ⟨#[]⟩),kd f1 x.len x.cells] 2 f]),.int 1] (qcu vs e0 e1 e2 c2))=_:=qfV (f:=f) (N:=2) (i:=1) (e0:=e0) (e1:=e1) (e2:=e2) hx rfl (by omega) c2 (by rw[h2]; simp) (by omega)
  obtain⟨c3,h3⟩ : ∃ c3,c3=c2++X c2.length:=⟨_,rfl⟩
  have l3:c3.length=c2.length+Lx:=by rw[h3,Wb,hx.ln]
  rw[<- h3] at z3
  have z4:=qcg (vs:=vs) (e0:=e0) (e1:=e1) (e2:=e2) c3 (by omega) 18 c.length
  obtain⟨c4,h4⟩ : ∃ c4,c4=c3++[((18:Int),(c.length:Int))]:=⟨_,rfl⟩
  have l4:c4.length=c3.length+1:=by rw[h4]; simp
  rw[<- h4] at z4
  have f4:c4=c1++(19,0)::(X c2.length++[((18:Int),(c.length:Int))]):=by rw[h4,h3,h2]; simp
  have z5:=qd7 (vs:=vs) (e0:=e0) (e1:=e1) (e2:=e2) c1 (X c2.length++[((18:Int),(c.length:Int))]) 19 0 (by rw[<- f4]; omega)
  rw[<- f4] at z5
  have f5:c1++(19,(c4.length:Int))::(X c2.length++[((18:Int),(c.length:Int))])=c++whC A X c.length:=by
   have:=qyL A X c
   rw[<- h1,<- h2,<- h3,<- h4] at this
   exact this
  have l5:c4.length=(c++whC A X c.length).length:=by rw[<- f5,f4]; simp
  rw[f5] at z5
  rw[show whC A X 0=c++whC A X c.length by rw[hcn]; rfl]
  rw[lc,show ((0:Nat):Int)=0 from rfl] at z4
  generalize c++whC A X c.length=c5 at *
  rw[l5] at z5
  have zl:Z qaf (.call 191 [.ptr 0 0,.dat (.agg [.lit (.int .i64 4),.lit (.int .i64 0),.lit (.string ⟨#[]⟩),.sl [.lit (.int .i64 a.kind),.lit (.int .i64 a.num),.lit (.string a.str),a.kids,.lit (.int .i64 7),.lit (.int .i64 0),.lit (.string ⟨#[]⟩),kd f1 x.len x.cells] 2 f])] (qd9 vs e0 e1 e2))=some (.ret (.tup []) (qht vs e0 e1 e2 c5)):=by
   refine qab (pf:=F191) rfl rfl ?_
   simp[F191,qcK,z1,z2,z3,z4,z5,qdN,l5,V.isNilIf,Wa]
  have zs:Z qaf (.call 169 [.ptr 0 0,.dat (.agg [.lit (.int .i64 4),.lit (.int .i64 0),.lit (.string ⟨#[]⟩),.sl [.lit (.int .i64 a.kind),.lit (.int .i64 a.num),.lit (.string a.str),a.kids,.lit (.int .i64 7),.lit (.int .i64 0),.lit (.string ⟨#[]⟩),kd f1 x.len x.cells] 2 f])] (qd9 vs e0 e1 e2))=some (.ret (.tup []) (qht vs e0 e1 e2 c5)):=by
   refine qab (pf:=F169) rfl rfl ?_
   simp[F169,zl,Wa]
  refine qab (pf:=F147) rfl rfl ?_
  simp[F147,zs,Wa]
end
end
section
open F Gr
set_option maxHeartbeats 2000000
attribute [local simp] qbe qbK dkey qga
inductive RowT(vs:List ByteArray):List D->List (Int->Cd)->Nat->Prop
 |nil:RowT vs [] [] 0
 |cons {a b c d:D} {C:Int->Cd} {L:Nat} {r:List D} {Cs:List (Int->Cd)} {M:Nat} (h:TrOK vs (.dat (.agg [a,b,c,d])) C L) (hr:RowT vs r Cs M):RowT vs (a::b::c::d::r) (C::Cs) (L+M)
theorem qwK{vs:List ByteArray}{r:List D}{Cs:List (Int->Cd)}{M:Nat}(h:RowT vs r Cs M):Ln (seqC Cs) M:=by
 induction h with
 |nil=>exact fun _=>rfl
 |cons h _ ih=>exact fun p=>by simp[seqC,h.ln p,ih _]
section
variable{vs:List ByteArray}{e0 e1 e2:Int}{f:Bool}{N:Nat}{cs:List D}
abbrev bl1(vs:List ByteArray)(e0 e1 e2:Int)(f:Bool)(N:Nat)(cs:List D)(c:Cd):S:=[cob e0 e1 e2 1 c.length 2,.vec (icV c),mpo vs,.cells [.ptr 0 0],.cells [.int 7,.int 0,.str ⟨#[]⟩,.dat (kd f N cs)]]
abbrev bl0(vs:List ByteArray)(e0 e1 e2:Int)(f:Bool)(N:Nat)(cs:List D):S:=[qnS e0 e1 e2 1,mpo vs,.cells [.ptr 0 0],.cells [.int 7,.int 0,.str ⟨#[]⟩,.dat (kd f N cs)]]
abbrev bl2(vs:List ByteArray)(e0 e1 e2:Int)(f:Bool)(N:Nat)(cs:List D)(c:Cd):S:=[cob e0 e1 e2 4 c.length 1,mpo vs,.cells [.ptr 0 0],.cells [.int 7,.int 0,.str ⟨#[]⟩,.dat (kd f N cs)],.vec (icV c)]
abbrev blF(p q N:Nat)(i:Nat):Fr:=[(2,.ptr p 0),(3,.ptr q 0),(64,.int N),(65,.int i)]
theorem qwL(c:Cd):Z qaf (.loop 3 F169l0 (blF 3 4 N N) (bl1 vs e0 e1 e2 f N cs c))=some (.out (.exit 1) (blF 3 4 N N++[(66,.bool false)]) (bl1 vs e0 e1 e2 f N cs c)):=by
 rw[qac]
 simp[qad,qdt,Wa]
theorem qwM:Z qaf (.loop 2 F169l0 (blF 2 3 N N) (bl0 vs e0 e1 e2 f N cs))=some (.out (.exit 1) (blF 2 3 N N++[(66,.bool false)]) (bl0 vs e0 e1 e2 f N cs)):=by
 rw[qac]
 simp[qad,qdt,Wa]
theorem qwN(c:Cd):Z qaf (.loop 2 F169l0 (blF 2 3 N N) (bl2 vs e0 e1 e2 f N cs c))=some (.out (.exit 1) (blF 2 3 N N++[(66,.bool false)]) (bl2 vs e0 e1 e2 f N cs c)):=by
 rw[qac]
 simp[qad,qdt,Wa]
variable{i:Nat}{a b c1 d:D}{r:List D}{C:Int->Cd}{L:Nat}
theorem qtj (hi:i<N) (hN:N<2^40) (hd:cs.drop (i*4)=a::b::c1::d::r) (h:TrOK vs (.dat (.agg [a,b,c1,d])) C L) (c:Cd) (hc:c≠[]) (hl:c.length+4*L<2^30) :
  Z qaf (.loop 3 F169l0 (blF 3 4 N i) (bl1 vs e0 e1 e2 f N cs c))=Z qaf (.loop 3 F169l0 (blF 3 4 N (i+1)) (bl1 vs e0 e1 e2 f N cs (c++C c.length))):=by
 have w1:=qag ((i:Int)+1) (by omega)
 have hi':(i:Int)<N:=by omega
 have z:=qfV (e0:=e0) (e1:=e1) (e2:=e2) (k:=7) (n:=0) (s:=⟨#[]⟩) (f:=f) h.toTrB hd hi c hc hl
 generalize c++C c.length=c2 at *
 conv=>lhs; rw[qac]
 simp[qad,qdt,hi',z,w1,bl0,bl1,bl2,blF,Wa]
theorem qtk (hi:i<N) (hN:N<2^40) (hd:cs.drop (i*4)=a::b::c1::d::r) (h:TrOK vs (.dat (.agg [a,b,c1,d])) C L) (hl:4*L<2^30) :
  Z qaf (.loop 2 F169l0 (blF 2 3 N i) (bl0 vs e0 e1 e2 f N cs))=Z qaf (.loop 2 F169l0 (blF 2 3 N (i+1)) (bl2 vs e0 e1 e2 f N cs (C 0))):=by
 have w1:=qag ((i:Int)+1) (by omega)
 have hi':(i:Int)<N:=by omega
 have z:=qnt (e0:=e0) (e1:=e1) (e2:=e2) (k:=7) (n:=0) (s:=⟨#[]⟩) (f:=f) h hd hi hl
 generalize C 0=c2 at *
 conv=>lhs; rw[qac]
 simp[qad,qdt,hi',z,w1,bl0,bl1,bl2,blF,Wa]
theorem qtl (hi:i<N) (hN:N<2^40) (hd:cs.drop (i*4)=a::b::c1::d::r) (h:TrOK vs (.dat (.agg [a,b,c1,d])) C L) (c:Cd) (hc:c≠[]) (hl:c.length+4*L<2^30) :
  Z qaf (.loop 2 F169l0 (blF 2 3 N i) (bl2 vs e0 e1 e2 f N cs c))=Z qaf (.loop 2 F169l0 (blF 2 3 N (i+1)) (bl2 vs e0 e1 e2 f N cs (c++C c.length))):=by
 have w1:=qag ((i:Int)+1) (by omega)
 have hi':(i:Int)<N:=by omega
 have z:=qfV (e0:=e0) (e1:=e1) (e2:=e2) (k:=7) (n:=0) (s:=⟨#[]⟩) (f:=f) h.toTrB hd hi c hc hl
 generalize c++C c.length=c2 at *
 conv=>lhs; rw[qac]
 simp[qad,qdt,hi',z,w1,bl0,bl1,bl2,blF,Wa]
theorem qlK(C:Int->Cd)(Cs:List (Int->Cd))(c:Cd):(c++C c.length)++seqC Cs (c++C c.length).length=c++seqC (C::Cs) c.length:=by
 simp only[seqC,Wf,Wb]
 rw[show ((c.length+(C c.length).length:Nat):Int)=c.length+(C c.length).length by omega]
theorem qnH (hN:N<2^40) : ∀ {r:List D} {Cs:List (Int->Cd)} {M:Nat},RowT vs r Cs M -> ∀ (i:Nat),cs.drop (i*4)=r->i+Cs.length=N -> ∀ (c:Cd),c≠[]->c.length+4*M<2^30 ->
  Z qaf (.loop 3 F169l0 (blF 3 4 N i) (bl1 vs e0 e1 e2 f N cs c))=some (.out (.exit 1) (blF 3 4 N N++[(66,.bool false)]) (bl1 vs e0 e1 e2 f N cs (c++seqC Cs c.length)))
 |_,_,_,.nil,i,hd,hn,c,hc,hl=>by
  simp only[Wk,Yy] at hn
  subst hn
  rw[show c++seqC [] c.length=c by simp[seqC]]
  exact qwL c
 |_,_,_,.cons (C:=C) (L:=L) (Cs:=Cs) (M:=M) h1 hr,i,hd,hn,c,hc,hl=>by
  simp only[We] at hn
  have hlen:(c++C c.length).length=c.length+L:=by rw[Wb,h1.ln]
  rw[qtj (by omega) hN hd h1 c hc (by omega),qnH hN hr (i+1) (qgB hd) (by omega) _ (qix hc) (by omega),qlK]
theorem qnI (hN:N<2^40) : ∀ {r:List D} {Cs:List (Int->Cd)} {M:Nat},RowT vs r Cs M -> ∀ (i:Nat),cs.drop (i*4)=r->i+Cs.length=N -> ∀ (c:Cd),c≠[]->c.length+4*M<2^30 ->
  Z qaf (.loop 2 F169l0 (blF 2 3 N i) (bl2 vs e0 e1 e2 f N cs c))=some (.out (.exit 1) (blF 2 3 N N++[(66,.bool false)]) (bl2 vs e0 e1 e2 f N cs (c++seqC Cs c.length)))
 |_,_,_,.nil,i,hd,hn,c,hc,hl=>by
  simp only[Wk,Yy] at hn
  subst hn
  rw[show c++seqC [] c.length=c by simp[seqC]]
  exact qwN c
 |_,_,_,.cons (C:=C) (L:=L) (Cs:=Cs) (M:=M) h1 hr,i,hd,hn,c,hc,hl=>by
  simp only[We] at hn
  have hlen:(c++C c.length).length=c.length+L:=by rw[Wb,h1.ln]
  rw[qtl (by omega) hN hd h1 c hc (by omega),qnI hN hr (i+1) (qgB hd) (by omega) _ (qix hc) (by omega),qlK]
end
section
variable{vs:List ByteArray}{cs:List D}{Cs:List (Int->Cd)}{M N:Nat}
theorem qtm(h:RowT vs cs Cs M)(hN:Cs.length=N)(hN2:N<2^40)(f:Bool):TrB vs (.dat (.agg [.lit (.int .i64 7),.lit (.int .i64 0),.lit (.string ⟨#[]⟩),kd f N cs])) (seqC Cs) M where
 ln:=qwK h
 one:=fun e0 e1 e2 c hc hl=>by
  have z:=qnH (e0:=e0) (e1:=e1) (e2:=e2) (f:=f) hN2 h 0 rfl (by omega) c hc hl
  rw[show blF 3 4 N 0=[(2,.ptr 3 0),(3,.ptr 4 0),(64,.int N),(65,.int 0)] from rfl] at z
  generalize c++seqC Cs c.length=c2 at *
  have zs:Z qaf (.call 169 [.ptr 0 0,.dat (.agg [.lit (.int .i64 7),.lit (.int .i64 0),.lit (.string ⟨#[]⟩),kd f N cs])] (qcu vs e0 e1 e2 c))=some (.ret (.tup []) (qcu vs e0 e1 e2 c2)):=by
   refine qab (pf:=F169) rfl rfl ?_
   simp[F169,z,Wa]
  refine qab (pf:=F147) rfl rfl ?_
  simp[F147,zs,Wa]
theorem qBm (h:RowT vs cs Cs M) (hN:Cs.length=N) (hN2:N<2^40) (f:Bool) (e0 e1 e2:Int) (hl:4*M<2^30):Z qaf (.call 147 [.ptr 0 0,.dat (.agg [.lit (.int .i64 7),.lit (.int .i64 0),.lit (.string ⟨#[]⟩),kd f N cs])] (qd9 vs e0 e1 e2)) =
  some (.ret (.tup []) (if seqC Cs 0=[] then qd9 vs e0 e1 e2 else qht vs e0 e1 e2 (seqC Cs 0))):=by
 cases h with
 |nil=>
  simp only[Wk] at hN
  subst hN
  rw[if_pos (show seqC ([]:List (Int->Cd)) 0=[] from rfl)]
  have z:=qwM (vs:=vs) (e0:=e0) (e1:=e1) (e2:=e2) (f:=f) (N:=0) (cs:=[])
  rw[show blF 2 3 0 0=[(2,.ptr 2 0),(3,.ptr 3 0),(64,.int 0),(65,.int 0)] from rfl] at z
  have zs:Z qaf (.call 169 [.ptr 0 0,.dat (.agg [.lit (.int .i64 7),.lit (.int .i64 0),.lit (.string ⟨#[]⟩),kd f 0 []])] (qd9 vs e0 e1 e2))=some (.ret (.tup []) (qd9 vs e0 e1 e2)):=by
   simp only[bl0,qzG] at z
   refine qab (pf:=F169) rfl rfl ?_
   simp[F169,z,qdN,Wa]
  refine qab (pf:=F147) rfl rfl ?_
  simp only[qzG] at zs
  simp[F147,zs,Wa]
 | @cons a b c d C L r Cs M h1 hr=>
  simp only[We] at hN
  have hn1:C 0≠[]:=fun e=>by have:=h1.ln 0; have:=h1.pos; rw[e] at *; simp_all
  have hlen:(C 0).length=L:=h1.ln 0
  have z1:=qtk (N:=N) (e0:=e0) (e1:=e1) (e2:=e2) (f:=f) (i:=0) (r:=r) (cs:=a::b::c::d::r) (by omega) hN2 rfl h1 (by omega)
  have z2:=qnI (N:=N) (e0:=e0) (e1:=e1) (e2:=e2) (f:=f) (cs:=a::b::c::d::r) hN2 hr 1 rfl (by omega) (C 0) hn1 (by omega)
  have z:=z1.trans z2
  have e:C 0++seqC Cs (C 0).length=seqC (C::Cs) 0:=by simp[seqC]
  have hne:seqC (C::Cs) 0≠[]:=by rw[<- e]; simp[hn1]
  rw[e] at z
  rw[if_neg hne]
  rw[show blF 2 3 N 0=[(2,.ptr 2 0),(3,.ptr 3 0),(64,.int N),(65,.int 0)] from rfl] at z
  generalize seqC (C::Cs) 0=c2 at *
  have zs:Z qaf (.call 169 [.ptr 0 0,.dat (.agg [.lit (.int .i64 7),.lit (.int .i64 0),.lit (.string ⟨#[]⟩),kd f N (a::b::c::d::r)])] (qd9 vs e0 e1 e2))=some (.ret (.tup []) (qht vs e0 e1 e2 c2)):=by
   refine qab (pf:=F169) rfl rfl ?_
   simp[F169,z,Wa]
  refine qab (pf:=F147) rfl rfl ?_
  simp[F147,zs,Wa]
theorem qBn(b:Ss)(hf:b.fine)(hi:b.inV vs)(hb:b.fo.size<2^30) : ∃ M,RowT vs b.fo.cells (qem vs b) M/\(qem vs b).length=b.fo.len:=by
 fun_induction Ss.fine b with
 |case1=>exact⟨0,.nil,rfl⟩
 |case2 _ s e r ih=>
  simp only[Ss.fo,qau] at hb
  obtain⟨M,h,hl⟩:=ih hf.2 hi.2 (by omega)
  obtain⟨L,k⟩:=qoQ e hf.1.2.1 hi.1.2
  exact⟨_,.cons (qqs _ hi.1.1 k) h,by simp[qem,Ss.fo,hl]⟩
 |case3 _ s a b r ih=>
  simp only[Ss.fo,qau] at hb
  obtain⟨M,h,hl⟩:=ih hf.2 hi.2 (by omega)
  obtain⟨L,k⟩:=qoQ a hf.1.2.1 hi.1.1
  obtain⟨L',k'⟩:=qoQ b hf.1.2.2.2.1 hi.1.2
  exact⟨_,.cons (qsW _ (Yp _ hf.1.1) k k') h,by simp[qem,Ss.fo,hl]⟩
 |case4 _ a b r ih=>
  simp only[Ss.fo,qau] at hb
  obtain⟨M,h,hl⟩:=ih hf.2 hi.2 (by omega)
  obtain⟨L,k⟩:=qoQ a hf.1.1 hi.1.1
  obtain⟨L',k'⟩:=qoQ b hf.1.2.2.1 hi.1.2
  exact⟨_,.cons (qqt _ k k') h,by simp[qem,Ss.fo,hl]⟩
 |case5 r ih=>
  simp only[Ss.fo,qau] at hb
  obtain⟨M,h,hl⟩:=ih hf hi (by omega)
  exact⟨_,.cons (qwc false) h,by simp[qem,Ss.fo,hl]⟩
 |case6 _ c _ x _ y r ih1 ih2 ih3=>
  simp only[Ss.fo,qau,qcE] at hb
  obtain⟨Mx,hx,hlx⟩:=ih1 hf.2.1 hi.2.1.1 (by omega)
  obtain⟨My,hy,hly⟩:=ih2 hf.2.2.1 hi.2.1.2.1 (by omega)
  obtain⟨M,h,hl⟩:=ih3 hf.2.2.2 hi.2.2 (by omega)
  obtain⟨L,k⟩:=qoQ c hf.1.1 hi.1
  have sx:=qdQ x.fo
  have sy:=qdQ y.fo
  have bx:=qtm hx hlx (by omega)
  have by_:=qtm hy hly (by omega)
  rw[show seqC (qem vs x)=codeS vs x from funext (qhW x)] at bx
  rw[show seqC (qem vs y)=codeS vs y from funext (qhW y)] at by_
  exact⟨_,.cons (qA0 _ _ _ k (bx _) (by_ _)) h,by simp[qem,Ss.fo,hl]⟩
 |case7 _ c _ x r ih1 ih2=>
  simp only[Ss.fo,qau,qcE] at hb
  obtain⟨Mx,hx,hlx⟩:=ih1 hf.2.1 hi.2.1.1 (by omega)
  obtain⟨M,h,hl⟩:=ih2 hf.2.2 hi.2.2 (by omega)
  obtain⟨L,k⟩:=qoQ c hf.1.1 hi.1
  have sx:=qdQ x.fo
  have bx:=qtm hx hlx (by omega)
  rw[show seqC (qem vs x)=codeS vs x from funext (qhW x)] at bx
  exact⟨_,.cons (qsX _ _ k (bx _)) h,by simp[qem,Ss.fo,hl]⟩
 |case8=>exact hf.elim
end
end
section
open F Gr
set_option maxHeartbeats 1000000
def DepIs(c:Cd)(e m:Int):Prop:=(e<0->m=0)/\(0<=e -> ∀ D,CF c e.toNat D->Most c e.toNat D m)
theorem DepIs.unique{c:Cd}{e m m':Int}{D:Nat->Int}(hD:0<=e->CF c e.toNat D)(h:DepIs c e m)(h':DepIs c e m'):m=m':=by
 by_cases h0:e<0
 ·rw[h.1 h0,h'.1 h0]
 ·have:=hD (by omega)
  exact Most.unique (h.2 (by omega) D this) (h'.2 (by omega) D this)
inductive PSt(e0 e1 e2:Int):S->D->Cd->Prop
 |nil:PSt e0 e1 e2 [zP,.cells [.dat (.lit (.slice none 0 0)),.int e0,.int e1,.int e2]] (.lit (.slice none 0 0)) []
 |gr (c:Cd) (h:c≠[]):PSt e0 e1 e2 [zP,.cells [.gsl (icC c) c.length 2 2,.int e0,.int e1,.int e2],.tip (icC c).length] (.sl (icC c) c.length false) c
theorem PSt.code{e0 e1 e2:Int}{σ : S}{d:D}{c:Cd}(h:PSt e0 e1 e2 σ d c):IsCode d c:=by
 cases h with
 |nil=>exact qol
 |gr=>exact qlm _ false
end
section
open F Gr
set_option maxHeartbeats 1000000
def qoM:Cd->D
 |[] => .lit (.slice none 0 0)
 |x::c => .sl (icC (x::c)) (x::c).length false
theorem qti{c:Cd}(h:c≠[]):qoM c = .sl (icC c) c.length false:=by
 cases c with
 |nil=>exact absurd rfl h
 |cons x c=>rfl
def qwC(c:Cd)(e0 e1 e2 m0 m1 m2:Int):V:=
 if 400<c.length then .tup [pgD (.lit (.slice none 0 0)) 0 0 0,.int 2]
 else if 16<m0\/16<m1\/16<m2 then .tup [pgD (.lit (.slice none 0 0)) 0 0 0,.int 15]
 else .tup [pgD (qoM c) e0 e1 e2,.int 0]
section
variable{a b c:Hd}
theorem qqY{vs:List ByteArray}(fa:a.fine)(fb:b.fine)(fc:c.fine):(qd5 vs a b c).length<=30000:=by
 have key : ∀ h:Hd,h.fine -> ∃ L,L<=8001/\Ln (hdC vs h) L:=fun h f=>by
  cases h with
  |none=>exact⟨0,by omega,fun _=>rfl⟩
  |some g x=>
   obtain⟨n,hn,hn2⟩:=qAR vs x
   have:=f.size
   simp only[Hd.ss] at this
   exact⟨n+1,by omega,qbL hn⟩
 obtain⟨la,ka,na⟩:=key a fa
 obtain⟨lb,kb,nb⟩:=key b fb
 obtain⟨lc,kc,nc⟩:=key c fc
 have:=qa9 na (qa9 nb nc) 0
 unfold qd5
 omega
theorem qwD(h:Hd)(f:h.fine):h.nd.ks.size<=2000:=by
 have:=f.size
 rw[qs8,qs1]; exact this
end
end
section
open F Gr
set_option maxHeartbeats 2000000
attribute [local simp] qbe qbK dkey qga
theorem qp3 {vs:List ByteArray} (b:Ss) (hf:b.fine) (hi:b.inV vs) (hb:b.fo.size<2^30) (f:Bool) : ∃ L,L<=4*b.fo.size/\TrB vs (nd 7 0 ⟨#[]⟩ f b.fo) (codeS vs b) L /\
  ∀ e0 e1 e2:Int,4*L<2^30->Z qaf (.call 147 [.ptr 0 0,nd 7 0 ⟨#[]⟩ f b.fo] (qd9 vs e0 e1 e2))=some (.ret (.tup []) (if codeS vs b 0=[] then qd9 vs e0 e1 e2 else qht vs e0 e1 e2 (codeS vs b 0))):=by
 obtain⟨M,h,hl⟩:=qBn b hf hi hb
 have sb:=qdQ b.fo
 have k:=qtm h hl (by omega) f
 have k0:=fun e0 e1 e2=>qBm h hl (by omega) f e0 e1 e2
 rw[show seqC (qem vs b)=codeS vs b from funext (qhW b)] at k k0
 obtain⟨n,hn,hn2⟩:=qAR vs b
 have e:M=n:=by rw[<- k.ln 0,hn 0]
 exact⟨M,by omega,k,k0⟩
abbrev yFr(vs:List ByteArray)(i:Nat):Fr:=[(1,.ptr 0 0),(2,.ptr 1 0),(4,.ptr 2 0),(17,.dat (qmt vs)),(18,.int vs.length),(19,.int i)]
abbrev ySt(R:Ob)(l:List ByteArray):S:=[R,zP,qnS 0 0 0 3,.map (mapM 0 l)]
theorem qAN(x y z:Nd)(vs l:List ByteArray):Z qaf (.loop 0 F131l0 (yFr vs vs.length) (ySt (qhD x y z) l))=some (.out (.exit 0) (yFr vs vs.length++[(20,.bool false)]) (ySt (qhD x y z) l)):=by
 rw[qac]
 simp[qad,qi5,Wa]
theorem qyl(x y z:Nd){vs:List ByteArray}(hv:vs.length<2^40)(hn:vs.Nodup)(i:Nat)(hi:i<vs.length):Z qaf (.loop 0 F131l0 (yFr vs i) (ySt (qhD x y z) (vs.take i)))=Z qaf (.loop 0 F131l0 (yFr vs (i+1)) (ySt (qhD x y z) (vs.take (i+1)))):=by
 have hc:=qhT vs i hi
 have ha:=qwJ vs i hi
 have w1:=qag ((i:Int)+1) (by omega)
 have hi':(i:Int)<vs.length:=by omega
 have hnm:vs[i]∉vs.take i:=by
  have h2:=hn
  rw[<- List.take_append_drop i vs,WF hi] at h2
  rw[List.nodup_append] at h2
  exact fun hm=>h2.2.2 _ hm _ (WN ..) rfl
 have hs:=qkh vs[i] (vs.take i) 0 hnm
 rw[show ((0+(vs.take i).length:Nat))=i by simp; omega,show vs.take i++[vs[i]]=vs.take (i+1) by rw[Yr hi]] at hs
 conv=>lhs; rw[qac]
 simp[qad,qi5,hi',hc,ha,hs,w1,qeF,yFr,ySt,qhD,zP,Nd.d,Wa]
theorem qtN(x y z:Nd){vs:List ByteArray}(hv:vs.length<2^40)(hn:vs.Nodup) : ∀ (n i:Nat),i+n=vs.length->Z qaf (.loop 0 F131l0 (yFr vs i) (ySt (qhD x y z) (vs.take i)))=some (.out (.exit 0) (yFr vs vs.length++[(20,.bool false)]) (ySt (qhD x y z) vs))
 |0,i,h=>by
  obtain rfl:i=vs.length:=by omega
  rw[List.take_length]
  exact qAN x y z vs vs
 |n+1,i,h=>by
  rw[qyl x y z hv hn i (by omega)]
  exact qtN x y z hv hn n (i+1) (by omega)
abbrev jFr(R:D)(i:Int):Fr:=[(2,.ptr 0 0),(4,.ptr 1 0),(33,.dat R),(34,.int i)]
inductive HSt(vs:List ByteArray)(e0 e1 e2:Int):S->Cd->Prop
 |nil:HSt vs e0 e1 e2 [zP,qnS e0 e1 e2 2,mpo vs] []
 |gr (c:Cd) (h:c≠[]):HSt vs e0 e1 e2 [zP,cob e0 e1 e2 2 c.length 3,.vec (icV c),mpo vs] c
section
variable{vs:List ByteArray}{e0 e1 e2:Int}{σ : S}{c:Cd}{u v w:Nd}
theorem qAO{R:D}(h:HSt vs e0 e1 e2 σ c):Z qaf (.loop 0 F131l1 (jFr R 3) σ)=some (.out (.exit 2) (jFr R 3++[(35,.bool false)]) σ):=by
 rw[qac]
 cases h<;>simp[qad,qa6,Wa]
theorem qvB(h:HSt vs e0 e1 e2 σ c) : ∃ σ',HSt vs (-1) e1 e2 σ' c/\Z qaf (.loop 0 F131l1 (jFr (ru Hd.none.nd v w) 0) σ)=Z qaf (.loop 0 F131l1 (jFr (ru Hd.none.nd v w) 1) σ'):=by
 have w1:=qag 1 (by omega)
 cases h with
 |nil=>
  refine⟨_,.nil,?_⟩
  conv=>lhs; rw[qac]
  simp[qad,qa6,w1,Hd.k,Nd.d,jFr,ru,Wa]
  exact qam (by simp[Wa])
 |gr _ g=>
  refine⟨_,.gr _ g,?_⟩
  conv=>lhs; rw[qac]
  simp[qad,qa6,w1,Hd.k,Nd.d,jFr,ru,Wa]
  exact qam (by simp[Wa])
theorem qvC {f:Bool} {b:Ss} (h:HSt vs e0 e1 e2 σ c) {L:Nat} (hb:TrB vs (nd 7 0 ⟨#[]⟩ f b.fo) (codeS vs b) L) (h0 : ∀ e0 e1 e2:Int,4*L<2^30->Z qaf (.call 147 [.ptr 0 0,nd 7 0 ⟨#[]⟩ f b.fo] (qd9 vs e0 e1 e2))=some (.ret (.tup []) (if codeS vs b 0=[] then qd9 vs e0 e1 e2 else qht vs e0 e1 e2 (codeS vs b 0))))
  (hl:c.length+4*L+10<2^30) : ∃ σ',HSt vs c.length e1 e2 σ' (c++snC (codeS vs b) (21,0) c.length)/\Z qaf (.loop 0 F131l1 (jFr (ru (Hd.some f b).nd v w) 0) σ)=Z qaf (.loop 0 F131l1 (jFr (ru (Hd.some f b).nd v w) 1) σ'):=by
 have w1:=qag 1 (by omega)
 have lc:=hb.ln c.length
 have hx:c++snC (codeS vs b) (21,0) c.length=(c++codeS vs b c.length)++[((21:Int),(0:Int))]:=by simp[snC]
 refine⟨_,.gr _ (by rw[hx]; simp),?_⟩
 rw[hx]
 cases h with
 |nil=>
  rw[show (([]:Cd).length:Int)=0 from rfl] at *
  rw[Wc]
  by_cases hz:codeS vs b 0=[]
  ·have z1:=h0 0 e1 e2 (by omega)
   rw[if_pos hz] at z1
   have z2:=qkP (vs:=vs) (e0:=0) (e1:=e1) (e2:=e2) 21 0
   rw[hz,Wc]
   generalize [((21:Int),(0:Int))]=c5 at *
   conv=>lhs; rw[qac]
   simp[qad,qa6,qdN,w1,Hd.k,Hd.f,Hd.ks,Nd.d,jFr,ru,z1,z2,qaI,qan,Wa]
   exact qam (by simp[Wa])
  ·have z1:=h0 0 e1 e2 (by omega)
   rw[if_neg hz] at z1
   have z2:=qcg (vs:=vs) (e0:=0) (e1:=e1) (e2:=e2) (codeS vs b 0) (by omega) 21 0
   generalize codeS vs b 0++[((21:Int),(0:Int))]=c5 at *
   generalize codeS vs b 0=c4 at *
   conv=>lhs; rw[qac]
   simp[qad,qa6,qdN,w1,Hd.k,Hd.f,Hd.ks,Nd.d,jFr,ru,z1,z2,qaI,qan,Wa]
   try exact qam (by simp[Wa])
 |gr _ g=>
  have z1:=hb.one c.length e1 e2 c g (by omega)
  have z2:=qcg (vs:=vs) (e0:=c.length) (e1:=e1) (e2:=e2) (c++codeS vs b c.length) (by rw[Wb]; omega) 21 0
  generalize c++codeS vs b c.length++[((21:Int),(0:Int))]=c5 at *
  generalize c++codeS vs b c.length=c4 at *
  conv=>lhs; rw[qac]
  simp[qad,qa6,qcK,w1,Hd.k,Hd.f,Hd.ks,Nd.d,jFr,ru,z1,z2,qaI,qan,Wa]
  try exact qam (by simp[Wa])
theorem qvD(h:HSt vs e0 e1 e2 σ c) : ∃ σ',HSt vs e0 (-1) e2 σ' c/\Z qaf (.loop 0 F131l1 (jFr (ru u Hd.none.nd w) 1) σ)=Z qaf (.loop 0 F131l1 (jFr (ru u Hd.none.nd w) 2) σ'):=by
 have w1:=qag 2 (by omega)
 cases h with
 |nil=>
  refine⟨_,.nil,?_⟩
  conv=>lhs; rw[qac]
  simp[qad,qa6,w1,Hd.k,Nd.d,jFr,ru,Wa]
  exact qam (by simp[Wa])
 |gr _ g=>
  refine⟨_,.gr _ g,?_⟩
  conv=>lhs; rw[qac]
  simp[qad,qa6,w1,Hd.k,Nd.d,jFr,ru,Wa]
  exact qam (by simp[Wa])
theorem qvE {f:Bool} {b:Ss} (h:HSt vs e0 e1 e2 σ c) {L:Nat} (hb:TrB vs (nd 7 0 ⟨#[]⟩ f b.fo) (codeS vs b) L) (h0 : ∀ e0 e1 e2:Int,4*L<2^30->Z qaf (.call 147 [.ptr 0 0,nd 7 0 ⟨#[]⟩ f b.fo] (qd9 vs e0 e1 e2))=some (.ret (.tup []) (if codeS vs b 0=[] then qd9 vs e0 e1 e2 else qht vs e0 e1 e2 (codeS vs b 0))))
  (hl:c.length+4*L+10<2^30) : ∃ σ',HSt vs e0 c.length e2 σ' (c++snC (codeS vs b) (21,0) c.length)/\Z qaf (.loop 0 F131l1 (jFr (ru u (Hd.some f b).nd w) 1) σ)=Z qaf (.loop 0 F131l1 (jFr (ru u (Hd.some f b).nd w) 2) σ'):=by
 have w1:=qag 2 (by omega)
 have lc:=hb.ln c.length
 have hx:c++snC (codeS vs b) (21,0) c.length=(c++codeS vs b c.length)++[((21:Int),(0:Int))]:=by simp[snC]
 refine⟨_,.gr _ (by rw[hx]; simp),?_⟩
 rw[hx]
 cases h with
 |nil=>
  rw[show (([]:Cd).length:Int)=0 from rfl] at *
  rw[Wc]
  by_cases hz:codeS vs b 0=[]
  ·have z1:=h0 e0 0 e2 (by omega)
   rw[if_pos hz] at z1
   have z2:=qkP (vs:=vs) (e0:=e0) (e1:=0) (e2:=e2) 21 0
   rw[hz,Wc]
   generalize [((21:Int),(0:Int))]=c5 at *
   conv=>lhs; rw[qac]
   simp[qad,qa6,qdN,w1,Hd.k,Hd.f,Hd.ks,Nd.d,jFr,ru,z1,z2,qaI,qan,Wa]
   exact qam (by simp[Wa])
  ·have z1:=h0 e0 0 e2 (by omega)
   rw[if_neg hz] at z1
   have z2:=qcg (vs:=vs) (e0:=e0) (e1:=0) (e2:=e2) (codeS vs b 0) (by omega) 21 0
   generalize codeS vs b 0++[((21:Int),(0:Int))]=c5 at *
   generalize codeS vs b 0=c4 at *
   conv=>lhs; rw[qac]
   simp[qad,qa6,qdN,w1,Hd.k,Hd.f,Hd.ks,Nd.d,jFr,ru,z1,z2,qaI,qan,Wa]
   try exact qam (by simp[Wa])
 |gr _ g=>
  have z1:=hb.one e0 c.length e2 c g (by omega)
  have z2:=qcg (vs:=vs) (e0:=e0) (e1:=c.length) (e2:=e2) (c++codeS vs b c.length) (by rw[Wb]; omega) 21 0
  generalize c++codeS vs b c.length++[((21:Int),(0:Int))]=c5 at *
  generalize c++codeS vs b c.length=c4 at *
  conv=>lhs; rw[qac]
  simp[qad,qa6,qcK,w1,Hd.k,Hd.f,Hd.ks,Nd.d,jFr,ru,z1,z2,qaI,qan,Wa]
  try exact qam (by simp[Wa])
theorem qvF(h:HSt vs e0 e1 e2 σ c) : ∃ σ',HSt vs e0 e1 (-1) σ' c/\Z qaf (.loop 0 F131l1 (jFr (ru u v Hd.none.nd) 2) σ)=Z qaf (.loop 0 F131l1 (jFr (ru u v Hd.none.nd) 3) σ'):=by
 have w1:=qag 3 (by omega)
 cases h with
 |nil=>
  refine⟨_,.nil,?_⟩
  conv=>lhs; rw[qac]
  simp[qad,qa6,w1,Hd.k,Nd.d,jFr,ru,Wa]
  exact qam (by simp[Wa])
 |gr _ g=>
  refine⟨_,.gr _ g,?_⟩
  conv=>lhs; rw[qac]
  simp[qad,qa6,w1,Hd.k,Nd.d,jFr,ru,Wa]
  exact qam (by simp[Wa])
theorem qvG {f:Bool} {b:Ss} (h:HSt vs e0 e1 e2 σ c) {L:Nat} (hb:TrB vs (nd 7 0 ⟨#[]⟩ f b.fo) (codeS vs b) L) (h0 : ∀ e0 e1 e2:Int,4*L<2^30->Z qaf (.call 147 [.ptr 0 0,nd 7 0 ⟨#[]⟩ f b.fo] (qd9 vs e0 e1 e2))=some (.ret (.tup []) (if codeS vs b 0=[] then qd9 vs e0 e1 e2 else qht vs e0 e1 e2 (codeS vs b 0))))
  (hl:c.length+4*L+10<2^30) : ∃ σ',HSt vs e0 e1 c.length σ' (c++snC (codeS vs b) (21,0) c.length)/\Z qaf (.loop 0 F131l1 (jFr (ru u v (Hd.some f b).nd) 2) σ)=Z qaf (.loop 0 F131l1 (jFr (ru u v (Hd.some f b).nd) 3) σ'):=by
 have w1:=qag 3 (by omega)
 have lc:=hb.ln c.length
 have hx:c++snC (codeS vs b) (21,0) c.length=(c++codeS vs b c.length)++[((21:Int),(0:Int))]:=by simp[snC]
 refine⟨_,.gr _ (by rw[hx]; simp),?_⟩
 rw[hx]
 cases h with
 |nil=>
  rw[show (([]:Cd).length:Int)=0 from rfl] at *
  rw[Wc]
  by_cases hz:codeS vs b 0=[]
  ·have z1:=h0 e0 e1 0 (by omega)
   rw[if_pos hz] at z1
   have z2:=qkP (vs:=vs) (e0:=e0) (e1:=e1) (e2:=0) 21 0
   rw[hz,Wc]
   generalize [((21:Int),(0:Int))]=c5 at *
   conv=>lhs; rw[qac]
   simp[qad,qa6,qdN,w1,Hd.k,Hd.f,Hd.ks,Nd.d,jFr,ru,z1,z2,qaI,qan,Wa]
   exact qam (by simp[Wa])
  ·have z1:=h0 e0 e1 0 (by omega)
   rw[if_neg hz] at z1
   have z2:=qcg (vs:=vs) (e0:=e0) (e1:=e1) (e2:=0) (codeS vs b 0) (by omega) 21 0
   generalize codeS vs b 0++[((21:Int),(0:Int))]=c5 at *
   generalize codeS vs b 0=c4 at *
   conv=>lhs; rw[qac]
   simp[qad,qa6,qdN,w1,Hd.k,Hd.f,Hd.ks,Nd.d,jFr,ru,z1,z2,qaI,qan,Wa]
   try exact qam (by simp[Wa])
 |gr _ g=>
  have z1:=hb.one e0 e1 c.length c g (by omega)
  have z2:=qcg (vs:=vs) (e0:=e0) (e1:=e1) (e2:=c.length) (c++codeS vs b c.length) (by rw[Wb]; omega) 21 0
  generalize c++codeS vs b c.length++[((21:Int),(0:Int))]=c5 at *
  generalize c++codeS vs b c.length=c4 at *
  conv=>lhs; rw[qac]
  simp[qad,qa6,qcK,w1,Hd.k,Hd.f,Hd.ks,Nd.d,jFr,ru,z1,z2,qaI,qan,Wa]
  try exact qam (by simp[Wa])
end
end
section
open F Gr
set_option maxHeartbeats 2000000
attribute [local simp] qbe qbK dkey qga
abbrev kFr(e0 e1 e2 i:Int):Fr:=[(2,.ptr 0 0),(9,.ptr 1 0),(86,.dat (.agg [.lit (.int .i64 e0),.lit (.int .i64 e1),.lit (.int .i64 e2)])),(87,.int i)]
inductive KSt(e0 e1 e2:Int):S->Cd->Prop
 |nil (h:e0<0/\e1<0/\e2<0):KSt e0 e1 e2 [zP,.cells [.dat (.lit (.slice none 0 0)),.int e0,.int e1,.int e2]] []
 |vec (c:Cd) (h:c≠[]):KSt e0 e1 e2 [zP,.cells [.own 2 c.length 2,.int e0,.int e1,.int e2],.vec (icV c)] c
 |froz (c:Cd) (h:c≠[]):KSt e0 e1 e2 [zP,.cells [.own 2 c.length 2,.int e0,.int e1,.int e2],.froz (icC c)] c
section
variable{e0 e1 e2:Int}{σ : S}{c:Cd}
theorem qAJ(h:KSt e0 e1 e2 σ c):Z qaf (.loop 0 F131l2 (kFr e0 e1 e2 3) σ)=some (.out (.exit 4) (kFr e0 e1 e2 3++[(88,.bool false)]) σ):=by
 rw[qac]
 cases h<;>simp[qad,qa7,Wa]
def qgT(c:Cd)(e0 e1 e2 e:Int)(sf:Bool):Prop := ∃ a:D,Z qaf (.call 139 [pgD (.sl (icC c) c.length false) e0 e1 e2,.int e] [])=some (.ret (.dat a) [])/\Z qaf (.call 140 [.dat a] [])=some (.ret (.bool sf) [])
theorem qyc(h:KSt e0 e1 e2 σ c)(hn:e0<0):Z qaf (.loop 0 F131l2 (kFr e0 e1 e2 0) σ)=Z qaf (.loop 0 F131l2 (kFr e0 e1 e2 1) σ):=by
 have w1:=qag 1 (by omega)
 have hn' : ¬ 0<=e0:=by omega
 conv=>lhs; rw[qac]
 cases h<;>simp[qad,qa7,w1,hn',qah,Wa]
theorem qyd(h:KSt e0 e1 e2 σ c)(hn:0<=e0){sf:Bool}(hs:qgT c e0 e1 e2 e0 sf) : ∃ σ',KSt e0 e1 e2 σ' c/\Z qaf (.loop 0 F131l2 (kFr e0 e1 e2 0) σ)=if sf then Z qaf (.loop 0 F131l2 (kFr e0 e1 e2 1) σ') else some (.out .ret [(2,.ptr 0 0),(3,.int 15)] σ'):=by
 have w1:=qag 1 (by omega)
 obtain⟨a,z1,z2⟩:=hs
 simp only[pgD] at z1
 have hl:=qfO c
 have hd:=qjX c
 have hl2:=qfu c
 cases h with
 |nil h=>omega
 |vec _ g=>
  refine⟨_,.froz _ g,?_⟩
  rw[qac]
  cases sf
  ·simp[qad,qa7,w1,hn,z1,z2,hl,hd,qah,Wa]
  ·simp[qad,qa7,w1,hn,z1,z2,hl,hd,qah,Wa]
 |froz _ g=>
  refine⟨_,.froz _ g,?_⟩
  rw[qac]
  cases sf
  ·simp[qad,qa7,w1,hn,z1,z2,hl,hd,qah,Wa]
  ·simp[qad,qa7,w1,hn,z1,z2,hl,hd,qah,Wa]
theorem qvt(h:KSt e0 e1 e2 σ c){sf:Bool}(hs:0<=e0->qgT c e0 e1 e2 e0 sf)(hs2:e0<0->sf=true) : ∃ σ',KSt e0 e1 e2 σ' c/\Z qaf (.loop 0 F131l2 (kFr e0 e1 e2 0) σ)=if sf then Z qaf (.loop 0 F131l2 (kFr e0 e1 e2 1) σ') else some (.out .ret [(2,.ptr 0 0),(3,.int 15)] σ'):=by
 by_cases hn:e0<0
 ·exact⟨σ,h,by rw[hs2 hn,qyc h hn]; rfl⟩
 ·exact qyd h (by omega) (hs (by omega))
theorem qye(h:KSt e0 e1 e2 σ c)(hn:e1<0):Z qaf (.loop 0 F131l2 (kFr e0 e1 e2 1) σ)=Z qaf (.loop 0 F131l2 (kFr e0 e1 e2 2) σ):=by
 have w1:=qag 2 (by omega)
 have hn' : ¬ 0<=e1:=by omega
 conv=>lhs; rw[qac]
 cases h<;>simp[qad,qa7,w1,hn',qah,Wa]
theorem qyf(h:KSt e0 e1 e2 σ c)(hn:0<=e1){sf:Bool}(hs:qgT c e0 e1 e2 e1 sf) : ∃ σ',KSt e0 e1 e2 σ' c/\Z qaf (.loop 0 F131l2 (kFr e0 e1 e2 1) σ)=if sf then Z qaf (.loop 0 F131l2 (kFr e0 e1 e2 2) σ') else some (.out .ret [(2,.ptr 0 0),(3,.int 15)] σ'):=by
 have w1:=qag 2 (by omega)
 obtain⟨a,z1,z2⟩:=hs
 simp only[pgD] at z1
 have hl:=qfO c
 have hd:=qjX c
 have hl2:=qfu c
 cases h with
 |nil h=>omega
 |vec _ g=>
  refine⟨_,.froz _ g,?_⟩
  rw[qac]
  cases sf
  ·simp[qad,qa7,w1,hn,z1,z2,hl,hd,qah,Wa]
  ·simp[qad,qa7,w1,hn,z1,z2,hl,hd,qah,Wa]
 |froz _ g=>
  refine⟨_,.froz _ g,?_⟩
  rw[qac]
  cases sf
  ·simp[qad,qa7,w1,hn,z1,z2,hl,hd,qah,Wa]
  ·simp[qad,qa7,w1,hn,z1,z2,hl,hd,qah,Wa]
theorem qvu(h:KSt e0 e1 e2 σ c){sf:Bool}(hs:0<=e1->qgT c e0 e1 e2 e1 sf)(hs2:e1<0->sf=true) : ∃ σ',KSt e0 e1 e2 σ' c/\Z qaf (.loop 0 F131l2 (kFr e0 e1 e2 1) σ)=if sf then Z qaf (.loop 0 F131l2 (kFr e0 e1 e2 2) σ') else some (.out .ret [(2,.ptr 0 0),(3,.int 15)] σ'):=by
 by_cases hn:e1<0
 ·exact⟨σ,h,by rw[hs2 hn,qye h hn]; rfl⟩
 ·exact qyf h (by omega) (hs (by omega))
theorem qyg(h:KSt e0 e1 e2 σ c)(hn:e2<0):Z qaf (.loop 0 F131l2 (kFr e0 e1 e2 2) σ)=Z qaf (.loop 0 F131l2 (kFr e0 e1 e2 3) σ):=by
 have w1:=qag 3 (by omega)
 have hn' : ¬ 0<=e2:=by omega
 conv=>lhs; rw[qac]
 cases h<;>simp[qad,qa7,w1,hn',qah,Wa]
theorem qyh(h:KSt e0 e1 e2 σ c)(hn:0<=e2){sf:Bool}(hs:qgT c e0 e1 e2 e2 sf) : ∃ σ',KSt e0 e1 e2 σ' c/\Z qaf (.loop 0 F131l2 (kFr e0 e1 e2 2) σ)=if sf then Z qaf (.loop 0 F131l2 (kFr e0 e1 e2 3) σ') else some (.out .ret [(2,.ptr 0 0),(3,.int 15)] σ'):=by
 have w1:=qag 3 (by omega)
 obtain⟨a,z1,z2⟩:=hs
 simp only[pgD] at z1
 have hl:=qfO c
 have hd:=qjX c
 have hl2:=qfu c
 cases h with
 |nil h=>omega
 |vec _ g=>
  refine⟨_,.froz _ g,?_⟩
  rw[qac]
  cases sf
  ·simp[qad,qa7,w1,hn,z1,z2,hl,hd,qah,Wa]
  ·simp[qad,qa7,w1,hn,z1,z2,hl,hd,qah,Wa]
 |froz _ g=>
  refine⟨_,.froz _ g,?_⟩
  rw[qac]
  cases sf
  ·simp[qad,qa7,w1,hn,z1,z2,hl,hd,qah,Wa]
  ·simp[qad,qa7,w1,hn,z1,z2,hl,hd,qah,Wa]
theorem qvv(h:KSt e0 e1 e2 σ c){sf:Bool}(hs:0<=e2->qgT c e0 e1 e2 e2 sf)(hs2:e2<0->sf=true) : ∃ σ',KSt e0 e1 e2 σ' c/\Z qaf (.loop 0 F131l2 (kFr e0 e1 e2 2) σ)=if sf then Z qaf (.loop 0 F131l2 (kFr e0 e1 e2 3) σ') else some (.out .ret [(2,.ptr 0 0),(3,.int 15)] σ'):=by
 by_cases hn:e2<0
 ·exact⟨σ,h,by rw[hs2 hn,qyg h hn]; rfl⟩
 ·exact qyh h (by omega) (hs (by omega))
theorem qyi (h:KSt e0 e1 e2 σ c) {s0 s1 s2:Bool} (h0:0<=e0->qgT c e0 e1 e2 e0 s0) (g0:e0<0->s0=true) (h1:0<=e1->qgT c e0 e1 e2 e1 s1) (g1:e1<0->s1=true) (h2:0<=e2->qgT c e0 e1 e2 e2 s2) (g2:e2<0->s2=true) :
  ∃ σ',KSt e0 e1 e2 σ' c/\Z qaf (.loop 0 F131l2 (kFr e0 e1 e2 0) σ)=if s0&&(s1&&s2) then some (.out (.exit 4) (kFr e0 e1 e2 3++[(88,.bool false)]) σ') else some (.out .ret [(2,.ptr 0 0),(3,.int 15)] σ'):=by
 obtain⟨σ0,k0,z0⟩:=qvt h h0 g0
 cases s0 with
 |false=>exact⟨σ0,k0,z0⟩
 |true=>
  obtain⟨σ1,k1,z1⟩:=qvu k0 h1 g1
  cases s1 with
  |false=>exact⟨σ1,k1,z0.trans z1⟩
  |true=>
   obtain⟨σ2,k2,z2⟩:=qvv k1 h2 g2
   cases s2 with
   |false=>exact⟨σ2,k2,z0.trans (z1.trans z2)⟩
   |true=>exact⟨σ2,k2,z0.trans (z1.trans (z2.trans (qAJ k2)))⟩
end
section
variable{vs:List ByteArray}{a b c:Hd}
theorem qAK (fa:a.fine) (fb:b.fine) (fc:c.fine) (ia:a.ss.inV vs) (ib:b.ss.inV vs) (ic:c.ss.inV vs) :
  ∃ σ,HSt vs (qhO a) (qhy vs a b) (qhP vs a b c) σ (qd5 vs a b c) /\
   Z qaf (.loop 0 F131l1 (jFr (ru a.nd b.nd c.nd) 0) [zP,qnS 0 0 0 2,mpo vs])=some (.out (.exit 2) (jFr (ru a.nd b.nd c.nd) 3++[(35,.bool false)]) σ):=by
 have key : ∀ h:Hd,h.fine -> ∃ L,L<=8001/\Ln (hdC vs h) L:=fun h f=>by
  cases h with
  |none=>exact⟨0,by omega,fun _=>rfl⟩
  |some g x=>
   obtain⟨n,hn,hn2⟩:=qAR vs x
   have:=f.size
   simp only[Hd.ss] at this
   exact⟨n+1,by omega,qbL hn⟩
 obtain⟨la,ka,na⟩:=key a fa
 obtain⟨lb,kb,nb⟩:=key b fb
 have s0 : ∃ σ,HSt vs (qhO a) 0 0 σ (hdC vs a 0)/\Z qaf (.loop 0 F131l1 (jFr (ru a.nd b.nd c.nd) 0) [zP,qnS 0 0 0 2,mpo vs])=Z qaf (.loop 0 F131l1 (jFr (ru a.nd b.nd c.nd) 1) σ):=by
  cases a with
  |none=>exact qvB .nil
  |some f x=>
   have:=fa.size
   simp only[Hd.ss] at this ia
   obtain⟨L,hL,h,h0⟩:=qp3 x fa.fine ia (by omega) f
   obtain⟨σ,h1,h2⟩:=qvC (v:=b.nd) (w:=c.nd) (e0:=0) (e1:=0) (e2:=0) .nil h h0 (by simp; omega)
   exact⟨σ,by simpa [qhO,qlO,hdC] using h1,h2⟩
 obtain⟨σ0,c0,z0⟩:=s0
 have l0:=na 0
 have s1 : ∃ σ,HSt vs (qhO a) (qhy vs a b) 0 σ (hdC vs a 0++hdC vs b (hdC vs a 0).length)/\Z qaf (.loop 0 F131l1 (jFr (ru a.nd b.nd c.nd) 1) σ0)=Z qaf (.loop 0 F131l1 (jFr (ru a.nd b.nd c.nd) 2) σ):=by
  cases b with
  |none=>
   obtain⟨σ,h1,h2⟩:=qvD (u:=a.nd) (w:=c.nd) c0
   exact⟨σ,by simpa [qhy,qlO,hdC] using h1,h2⟩
  |some f x=>
   have:=fb.size
   simp only[Hd.ss] at this ib
   obtain⟨L,hL,h,h0⟩:=qp3 x fb.fine ib (by omega) f
   obtain⟨σ,h1,h2⟩:=qvE (u:=a.nd) (w:=c.nd) c0 h h0 (by omega)
   exact⟨σ,by simpa [qhy,qlO,hdC] using h1,h2⟩
 obtain⟨σ1,c1,z1⟩:=s1
 have e1:hdC vs a 0++hdC vs b (hdC vs a 0).length=sq (hdC vs a) (hdC vs b) 0:=by simp[sq]
 rw[e1] at c1
 have l1:(sq (hdC vs a) (hdC vs b) 0).length=la+lb:=qa9 na nb 0
 have s2 : ∃ σ,HSt vs (qhO a) (qhy vs a b) (qhP vs a b c) σ (sq (hdC vs a) (hdC vs b) 0++hdC vs c (sq (hdC vs a) (hdC vs b) 0).length)/\Z qaf (.loop 0 F131l1 (jFr (ru a.nd b.nd c.nd) 2) σ1)=Z qaf (.loop 0 F131l1 (jFr (ru a.nd b.nd c.nd) 3) σ):=by
  cases c with
  |none=>
   obtain⟨σ,h1,h2⟩:=qvF (u:=a.nd) (v:=b.nd) c1
   exact⟨σ,by simpa [qhP,qlO,hdC] using h1,h2⟩
  |some f x=>
   have:=fc.size
   simp only[Hd.ss] at this ic
   obtain⟨L,hL,h,h0⟩:=qp3 x fc.fine ic (by omega) f
   obtain⟨σ,h1,h2⟩:=qvG (u:=a.nd) (v:=b.nd) c1 h h0 (by omega)
   exact⟨σ,by simpa [qhP,qlO,hdC] using h1,h2⟩
 obtain⟨σ2,c2,z2⟩:=s2
 have e2:sq (hdC vs a) (hdC vs b) 0++hdC vs c (sq (hdC vs a) (hdC vs b) 0).length=qd5 vs a b c:=by
  unfold qd5
  simp only[sq,Wf,Wb]
  rw[show ((((hdC vs a 0).length+(hdC vs b (0+(hdC vs a 0).length)).length:Nat)):Int)=0+(hdC vs a 0).length+(hdC vs b (0+(hdC vs a 0).length)).length by omega]
 rw[e2] at c2
 exact⟨σ2,c2,z0.trans (z1.trans (z2.trans (qAO c2)))⟩
theorem qmg{C:Int->Cd}{n:Nat}{D:Nat->Int}(g:Hg C n D)(hl:n<2^27)(e0 e1 e2:Int){e m:Int}(h0:0<=e)(h1:e<n)(hD:D e.toNat=0)(hm:DepIs (C 0) e m):qgT (C 0) e0 e1 e2 e (decide (m<=16)):=by
 have hn:=g.ln 0
 have hok:=g.okC
 have hf:=qrW hok
 have hops : ∀ i,i<(C 0).length->1<=opA (C 0) i/\opA (C 0) i<=21:=fun i hi=>(qtC (ql7 _ _ hok i (by omega) (by omega))).1
 obtain⟨fl,br,dp,r1,r2⟩:=qBi (e0:=e0) (e1:=e1) (e2:=e2) (qlm (C 0) false) hf hops (by omega) (e:=e.toNat) (by omega)
 rw[show ((e.toNat:Nat):Int)=e by omega] at r2
 have hcf:=g.cf (e:=e.toNat) (by omega) hD
 have hbr:br=false:=r1.brk.2 ⟨D,hcf⟩
 have hdp:dp=m:=Most.unique (r1.most D hcf) (hm.2 h0 D hcf)
 refine⟨_,r2,?_⟩
 have:=qy1 fl br dp
 rw[hbr,hdp] at this
 rw[hbr,hdp]
 simpa using this
end
end
end Go.Pm
