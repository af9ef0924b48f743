/- The rule language in plain Lean: texts of tokens; tokens left out; how long a source is. No program in sight. The rule language in plain Lean: what the parser makes of expressions is good, no deeper, no longer. No program in sight. The rule language in plain Lean: what the parser makes of statements and programs is good, no deeper, no longer. No program in sight. The rule language in plain Lean: tokens with white space and comments between them. No program in sight. The rule language in plain Lean: what Parse makes of a source is good and no longer; printed, it is read back. No program in sight. -/
import Derived.Test.YtjdbkncfebebnaaDoorPmYh
import Derived.Test.YtjdbkncfebebnaaDoorPmFx
set_option linter.unusedSimpArgs false
set_option linter.unusedVariables false
section SUc
namespace Go.Pm
def TkG (t:Tk):Prop:=t.bad=0->t.s.size≠0->Tg (byl t.s)
theorem qdz (p:UInt8->Bool) (l:List UInt8):(l.take (qbd p l)).length=qbd p l:=by rw[List.length_take,Nat.min_eq_left (qd5 p l)]
theorem qn0 (l:List UInt8) (h:(tokL 12 2 6 l).2=0) (h2:(tokL 12 2 6 l).1≠[]):Tg (tokL 12 2 6 l).1:=by
 cases l with
 | nil=>exact absurd rfl h2
 | cons c r=>
  by_cases hlet:qaU c=true
  ·have hw:qau c=true:=by simp[qau,hlet]
   have e:tokL 12 2 6 (c::r)=((c::r).take (qbd qau (c::r)),if 8<qbd qau (c::r)/\bs ((c::r).take (qbd qau (c::r)))∉fieldNames/\bs ((c::r).take (qbd qau (c::r)))∉wordNames then 2 else 0):=by simp only[tokL,hlet,if_true]
   rw[e] at h ⊢
   have hl:=qdz qau (c::r)
   have ha:=qhk qau (c::r)
   have e2:(c::r).take (qbd qau (c::r))=c::r.take (qbd qau r):=by simp[qbd,hw]
   simp only at h ⊢
   rw[e2] at h hl ha ⊢
   refine .inl ⟨c,_,rfl,hlet,fun b hb=>ha b (List.mem_cons_of_mem _ hb),fun hbad=>?_⟩
   rw[hl] at hbad
   rw[if_pos hbad] at h
   cases h
  ·by_cases hdig:qaq c=true
   ·have e:tokL 12 2 6 (c::r)=((c::r).take (qbd qaq (c::r)),if 2147483647<digV ((c::r).take (qbd qaq (c::r))) then 6 else 0):=by simp only[tokL,hlet,hdig,if_true,Bool.false_eq_true,if_false]
    rw[e] at h ⊢
    have ha:=qhk qaq (c::r)
    have e2:(c::r).take (qbd qaq (c::r))=c::r.take (qbd qaq r):=by simp[qbd,hdig]
    simp only at h ⊢
    rw[e2] at h ha ⊢
    refine .inr (.inl ⟨c,_,rfl,hdig,fun b hb=>ha b (List.mem_cons_of_mem _ hb),?_⟩)
    split at h
    ·cases h
    ·rename_i hb
     exact Nat.not_lt.1 hb
   ·by_cases hp:bs ((c::r).take 2)∈qd0
    ·have e:tokL 12 2 6 (c::r)=((c::r).take 2,0):=by simp only[tokL,hlet,hdig,if_pos hp,Bool.false_eq_true,if_false]
     rw[e]
     exact .inr (.inr (.inl hp))
    ·by_cases hs:c.toNat∈qiL
     ·have e:tokL 12 2 6 (c::r)=([c],0):=by simp only[tokL,hlet,hdig,if_neg hp,if_pos hs,Bool.false_eq_true,if_false]
      rw[e]
      exact .inr (.inr (.inr ⟨c,rfl,hs⟩))
     ·have e:tokL 12 2 6 (c::r)=([c],12):=by simp only[tokL,hlet,hdig,if_neg hp,if_neg hs,Bool.false_eq_true,if_false]
      rw[e] at h
      cases h
theorem qmo (s:ByteArray) (j:Nat):TkG (tokAt 12 2 6 s j):=by
 intro hb hn
 rw[qdE] at hb hn ⊢
 simp only[qa2] at hb hn ⊢
 exact qn0 _ hb (fun e=>hn (by rw[e]; rfl))
theorem qn1 (s:ByteArray) : ∀ n i,∀ t∈qb0 12 2 6 s n i,TkG t
 | 0,i,t,h=>by
  simp only[qb0,List.mem_singleton] at h
  rw[h]
  intro _ h2
  exact absurd rfl h2
 | n+1,i,t,h=>by
  rw[qb0] at h
  split at h
  ·rw[List.mem_singleton.1 h]; exact qmo s _
  ·rcases List.mem_cons.1 h with h | h
   ·rw[h]; exact qmo s _
   ·exact qn1 s n _ t h
theorem qn2 : ∀ (l:List ByteArray) (p q:Bool),(qah p l).length<=(qah q l).length+1
 | [],p,q=>by simp[qah]
 | t::l,p,q=>by
  have hg : ∀ p,(gap p t).length<=1:=fun p=>by unfold gap; split<;>simp
  have hp:=hg p
  simp only[qah,List.length_append]
  cases hb:byl t with
  | nil=>
   have e : ∀ q,qbw q t=q:=fun q=>by unfold qbw; rw[hb]; rfl
   have hs:qap qau t=false:=by rw[qaK,hb]; rfl
   have g0 : ∀ p,gap p t=[]:=fun p=>by simp[gap,hs]
   rw[e,e,g0,g0]
   have:=qn2 l p q
   simp
   omega
  | cons c r=>
   have e:qbw p t=qbw q t:=by
    unfold qbw
    cases hl:(byl t).getLast? with
    | none=>rw[List.getLast?_eq_none_iff] at hl; rw[hl] at hb; cases hb
    | some c=>rfl
   rw[e]
   omega
inductive Red:List ByteArray->List ByteArray->Prop
 | nil:Red [] []
 | keep {t:ByteArray} {l m:List ByteArray} (h:Red l m):Red (t::l) (t::m)
 | del {t:ByteArray} {l m:List ByteArray} (h0:t.size≠0) (h:Red l m):Red (t::l) m
 | dig {t u:ByteArray} {l m:List ByteArray} (h0:u.size<=t.size) (h1 : ∀ p,qbw p u=qbw p t) (h2:qap qau u=qap qau t) (h:Red l m):Red (t::l) (u::m)
theorem qc9 : ∀ l,Red l l
 | [] => .nil
 | t::l => .keep (qc9 l)
theorem qbV {a a' b b':List ByteArray} (h:Red a a') (h2:Red b b'):Red (a++b) (a'++b'):=by
 induction h with
 | nil=>exact h2
 | keep _ ih=>exact .keep ih
 | del h0 _ ih=>exact .del h0 ih
 | dig h0 h1 h2 _ ih=>exact .dig h0 h1 h2 ih
theorem qn3 {a b:List ByteArray} (h:Red a b) : ∀ {c},Red b c->Red a c:=by
 induction h with
 | nil=>intro c h; exact h
 | keep _ ih=>
  intro c h
  cases h with
  | keep h=>exact .keep (ih h)
  | del h0 h=>exact .del h0 (ih h)
  | dig h0 h1 h2 h=>exact .dig h0 h1 h2 (ih h)
 | del h0 _ ih=>intro c h; exact .del h0 (ih h)
 | dig h0 h1 h2 _ ih=>
  intro c h
  cases h with
  | keep h=>exact .dig h0 h1 h2 (ih h)
  | del h0' h=>exact .del (by omega) (ih h)
  | dig h0' h1' h2' h=>exact .dig (by omega) (fun p=>(h1' p).trans (h1 p)) (h2'.trans h2) (ih h)
theorem qpN {l m:List ByteArray} (h:Red l m) : ∀ p,(qah p m).length<=(qah p l).length:=by
 induction h with
 | nil=>intro p; exact Nat.le_refl _
 | keep _ ih=>
  intro p
  simp only[qah,List.length_append]
  have:=ih (qbw p ‹_›)
  omega
 | @del t l m h0 _ ih=>
  intro p
  simp only[qah,List.length_append]
  have h1:=ih p
  have h2:=qn2 l p (qbw p t)
  have h3:=qav t
  omega
 | @dig t u l m h0 h1 h2 _ ih=>
  intro p
  simp only[qah,List.length_append]
  have h3:=ih (qbw p t)
  have e1:gap p u=gap p t:=by simp[gap,h2]
  have e2:=qav t
  have e3:=qav u
  rw[h1 p,e1]
  omega
def NI:List ByteArray->Prop
 | t::u::r=>(qap qaq t=true->qap qau u=false)/\NI (u::r)
 | _=>True
theorem qmp : ∀ {a b:List ByteArray},NI a->NI b->(∀ t u,a.getLast?=some t->b.head?=some u->qap qaq t=true->qap qau u=false)->NI (a++b)
 | [],b,_,hb,_=>hb
 | [t],[],_,_,_=>trivial
 | [t],u::b,_,hb,hj=>⟨hj t u rfl rfl,hb⟩
 | t::u::a,b,ha,hb,hj=>⟨ha.1,qmp (a:=u::a) ha.2 hb (fun x y hx hy=>hj x y (by rw[List.getLast?_cons_cons]; exact hx) hy)⟩
theorem qg1 (t:ByteArray):NI [t]:=trivial
theorem qcq {t:ByteArray} {b:List ByteArray} (h:qap qaq t=false) (hb:NI b):NI (t::b):=by
 cases b with
 | nil=>trivial
 | cons u b=>exact⟨fun h'=>(by rw[h] at h'; cases h'),hb⟩
theorem qiQ {t:ByteArray} {a b:List ByteArray} (ha:NI a) (h:qap qaq t=false) (h2:qap qau t=false) (hb:NI b):NI (a++t::b):=
 qmp ha (qcq h hb) (fun x y _ hy _=>by cases hy; exact h2)
theorem qf4 {t:ByteArray} {a:List ByteArray} (ha:NI a) (h2:qap qau t=false):NI (a++[t]):=
 qmp ha trivial (fun x y _ hy _=>by cases hy; exact h2)
theorem qcS : ∀ {l:List ByteArray} {ts r:List Tk},Hx l ts r -> ∀ t∈r,t∈ts
 | [],ts,r,h,t,ht=>by cases h; exact ht
 | x::l,ts,r,h,t,ht=>by
  obtain⟨u,q,rfl,_,_,h⟩:=h
  exact List.mem_cons_of_mem _ (qcS h t ht)
theorem qn4 : ∀ (l:List ByteArray) (n i:Nat) (b:List UInt8) (r:List Tk) (p:Bool),Hx l (qlm 12 2 6 n i b) r->NI l->(∀ u∈l,u.size≠0) ->
  (p=true -> ∀ u,l.head?=some u->qap qau u=true->0<qa8 false b)->(qah p l).length<=b.length
 | [],n,i,b,r,p,_,_,_,_=>by simp[qah]
 | u::l,n,i,b,r,p,hx,hn,hz,hp=>by
  have hu:=hz u (List.mem_cons_self ..)
  cases n with
  | zero=>
   obtain⟨t,q,e,h1,_⟩:=hx
   simp only[qlm,List.cons.injEq] at e
   rw[<- e.1] at h1
   exact absurd (by rw[<- h1]; rfl) hu
  | succ n=>
   rw[qlm] at hx
   generalize hb':b.drop (qa8 false b)=b' at hx
   have hlb:b'.length=b.length-qa8 false b:=by rw[<- hb',List.length_drop]
   have hsk:=qgu b false
   split at hx
   ·rename_i hc
    obtain⟨t,q,e,h1,h2,_⟩:=hx
    simp only[List.cons.injEq] at e
    rw[<- e.1] at h1 h2
    simp only at h1 h2
    rcases hc with hc | hc
    ·exact absurd h2 hc
    ·exact absurd (by rw[<- h1,qal]; exact hc) hu
   ·rename_i hc
    obtain⟨t,q,e,h1,h2,h3⟩:=hx
    simp only[List.cons.injEq] at e
    rw[<- e.1] at h1 h2
    rw[<- e.2] at h3
    simp only at h1 h2
    have hw:(tokL 12 2 6 b').1≠[]:=fun e0=>hu (by rw[<- h1,e0]; rfl)
    have htg:=qn0 b' h2 hw
    have hbyl:byl u=(tokL 12 2 6 b').1:=by rw[<- h1,qa2]
    have hwl:(tokL 12 2 6 b').1.length<=b'.length:=by
     cases b' with
     | nil=>simp[tokL]
     | cons c r=>
      simp only[tokL]
      split
      ·rw[qdz]; exact qd5 _ _
      split
      ·rw[qdz]; exact qd5 _ _
      split
      ·simp only[List.length_take]; omega
      split<;>simp
    have ih:=qn4 l n _ _ r (qbw p u) h3 (by
     cases l with
     | nil=>trivial
     | cons v l=>exact hn.2) (fun v hv=>hz v (List.mem_cons_of_mem _ hv)) (by
     intro hpe v hv hsv
     refine Nat.pos_of_ne_zero (fun h0=>?_)
     have hnd:qap qaq u=false:=by
      cases hd:qap qaq u with
      | false=>rfl
      | true=>
       cases l with
       | nil=>cases hv
       | cons v' l=>
        cases hv
        rw[hn.1 hd] at hsv
        cases hsv
     have hnext : ∃ c q,b'.drop (tokL 12 2 6 b').1.length=c::q/\qau c=true:=by
      cases l with
      | nil=>cases hv
      | cons v' l=>
       cases hv
       obtain⟨t2,q2,e2,g1,g2,_⟩:=h3
       cases n with
       | zero=>
        simp only[qlm,List.cons.injEq] at e2
        rw[<- e2.1] at g1
        have g3:v=⟨#[]⟩:=g1.symm
        rw[g3,qaK] at hsv
        exact absurd hsv (by decide)
       | succ n=>
        rw[qlm,h0,List.drop_zero] at e2
        have g3:v=bs (tokL 12 2 6 (b'.drop (tokL 12 2 6 b').1.length)).1:=by
         rw[<- g1]
         split at e2<;>(simp only[List.cons.injEq] at e2; rw[<- e2.1])
        rw[g3,qaK,qa2] at hsv
        cases hdr:b'.drop (tokL 12 2 6 b').1.length with
        | nil=>rw[hdr] at hsv; simp[tokL] at hsv
        | cons c q=>
         refine⟨c,q,rfl,?_⟩
         rw[hdr] at hsv
         have hh:(tokL 12 2 6 (c::q)).1.head?=some c:=by
          simp only[tokL]
          split
          ·rename_i hl; simp[qbd,qau,hl]
          split
          ·rename_i hl; simp[qbd,hl]
          split
          ·simp
          split<;>rfl
         rw[hh] at hsv
         exact hsv
     obtain⟨c,q,hcq,hcw⟩:=hnext
     cases b' with
     | nil=>simp at hcq
     | cons d rr=>
      by_cases hlet:qaU d=true
      ·have e:(tokL 12 2 6 (d::rr)).1=(d::rr).take (qbd qau (d::rr)):=by simp only[tokL,hlet,if_true]
       rw[e,qdz] at hcq
       have key : ∀ (m:List UInt8) c q,m.drop (qbd qau m)=c::q->qau c=false:=by
        intro m
        induction m with
        | nil=>intro c q h; simp at h
        | cons x m ih=>
         intro c q h
         by_cases hx:qau x=true
         ·simp only[qbd,hx,if_true,List.drop_succ_cons] at h; exact ih c q h
         ·simp only[qbd,hx,if_false,List.drop_zero,Bool.false_eq_true] at h
          cases h
          simpa using hx
       rw[key _ c q hcq] at hcw
       cases hcw
      ·by_cases hdig:qaq d=true
       ·have e:(tokL 12 2 6 (d::rr)).1=(d::rr).take (qbd qaq (d::rr)):=by simp only[tokL,hlet,hdig,if_true,Bool.false_eq_true,if_false]
        rw[qaK,hbyl,e] at hnd
        simp[qbd,hdig] at hnd
       ·have hend:qbw p u=false:=by
         rw[<- h1]
         apply qhX
         rcases htg with ⟨c1,r1,e1,hc1,_⟩ | ⟨c1,r1,e1,hc1,_⟩ | h | h
         ·exfalso
          have:(tokL 12 2 6 (d::rr)).1.head?=some d:=by
           simp only[tokL,hlet,hdig,Bool.false_eq_true,if_false]
           split
           ·simp
           split<;>rfl
          rw[e1] at this
          cases this
          exact hlet hc1
         ·exfalso
          have:(tokL 12 2 6 (d::rr)).1.head?=some d:=by
           simp only[tokL,hlet,hdig,Bool.false_eq_true,if_false]
           split
           ·simp
           split<;>rfl
          rw[e1] at this
          cases this
          exact hdig hc1
         ·exact .inl h
         ·exact .inr h
        rw[hend] at hpe
        cases hpe)
    have hgap:(gap p u).length<=qa8 false b:=by
     unfold gap
     split
     ·rename_i hg
      rw[Bool.and_eq_true] at hg
      have:=hp hg.1 u rfl hg.2
      simp
      omega
     ·simp
    simp only[qah,List.length_append]
    rw[hbyl]
    rw[List.length_drop] at ih
    omega
end Go.Pm
end SUc
section SUd
namespace Go.Pm
theorem qjR (e:E) (q:Nat) (hq:q<=8):e.tx false q=qa1 (decide (e.lev<q)) (e.tx false 1):=by
 have h8 : ¬ 8<q:=by omega
 cases e with
 | un f neg e=>cases neg<;>simp[E.tx,E.lev,qb9,qa1]
 | bin f o a b=>
  have h1 : ¬ o.prec<1:=by cases o<;>simp[Bop.prec]
  by_cases h2:o.prec<q<;>simp[E.tx,E.lev,qa1,h1,h2]
 | _=>simp[E.tx,E.lev,qa1,h8]
theorem qgC (e:E) (q:Nat) (hq:q<=8):e.nest false q=e.nest false 1+(if e.lev<q then 1 else 0):=by
 have h8 : ¬ 8<q:=by omega
 cases e with
 | un f neg e=>cases neg<;>simp[E.nest,E.lev,qb9]
 | bin f o a b=>
  have h1 : ¬ o.prec<1:=by cases o<;>simp[Bop.prec]
  by_cases h2:o.prec<q<;>simp[E.nest,E.lev,h1,h2]
 | _=>simp[E.nest,E.lev,h8]
theorem qhQ {l m:List ByteArray} {b c:Bool} (h:Red l (qa1 b m)) (hbc:c=true->b=true):Red l (qa1 c m):=by
 cases c with
 | true=>rw[hbc rfl] at h; exact h
 | false=>
  cases b with
  | false=>exact h
  | true=>
   refine qn3 h (.del (by decide) ?_)
   have:=qbV (qc9 m) (.del (t:=bs [41]) (by decide) .nil)
   rw[List.append_nil] at this
   exact this
def RE (e:E) (q lv:Nat) (ts r:List Tk):Prop:=e.good/\lv+e.nest false q<=20 /\ ∃ l,l≠[]/\Hx l ts r/\NI l/\Red l (e.tx false q)
theorem qol {e:E} {q q' lv:Nat} {ts r:List Tk} (h:RE e q lv ts r) (hq:q'<=q) (h8:q<=8):RE e q' lv ts r:=by
 obtain⟨h1,h2,l,h3,h4,h5,h6⟩:=h
 refine⟨h1,?_,l,h3,h4,h5,?_⟩
 ·rw[qgC e q h8] at h2
  rw[qgC e q' (by omega)]
  by_cases hl:e.lev<q'
  ·rw[if_pos hl]; rw[if_pos (by omega)] at h2; exact h2
  ·rw[if_neg hl]; omega
 ·rw[qjR e q h8] at h6
  rw[qjR e q' (by omega)]
  exact qhQ h6 (fun h=>by simp only[decide_eq_true_eq] at *; omega)
theorem qgD {ts:List Tk} {s:ByteArray} (h:nx ts=some s) : ∃ t r,ts=t::r/\t.s=s/\t.bad=0:=by
 cases ts with
 | nil=>cases h
 | cons t r=>
  simp only[nx] at h
  split at h
  ·rename_i hb; cases h; exact⟨t,r,rfl,rfl,hb⟩
  ·cases h
theorem qcm {α : Type} {c:Nat} {ts:List Tk} {a : α} {r:List Tk}:failP c ts ≠ .ok a r:=by
 cases ts<;>simp[failP]
theorem qdj {x:ByteArray} {ts r:List Tk} {u:Unit} (h:qat 12 x ts = .ok u r):Hx [x] ts r:=by
 cases ts with
 | nil=>exact absurd (show failP 12 [] = .ok u r from h) qcm
 | cons t q=>
  simp only[qat] at h
  split at h
  ·rename_i hc; cases h; exact⟨t,_,rfl,hc.2,hc.1,rfl⟩
  ·exact absurd h qcm
theorem qjS {x:ByteArray} {lv:Nat} {ts r:List Tk} {u:Unit} (h:qcv 12 2 x lv ts = .ok u r):Hx [x] ts r/\lv<=20:=by
 unfold qcv at h
 split at h
 ·exact absurd h qcm
 ·rename_i hc
  have hx:=qdj h
  refine⟨hx,Nat.not_lt.1 (fun hl=>hc ⟨?_,hl⟩)⟩
  obtain⟨t,q,e,h1,h2,_⟩:=hx
  rw[e,nx,if_pos h2,h1]
theorem qom {p:Nat} {s:ByteArray} {o:Bop} (h:qjJ p s=some o):o.prec=p/\o.str=s:=by
 unfold qjJ at h
 have h2:=List.find?_some h
 have h3:=List.mem_of_find?_eq_some h
 refine⟨?_,by simpa using h2⟩
 split at h3<;>simp at h3<;>(try rcases h3 with h3 | h3 | h3 | h3 | h3 | h3)<;>(try rcases h3 with h3 | h3)<;>subst_vars<;>rfl
theorem qrz (o:Bop):qap qaq o.str=false/\qap qau o.str=false:=by cases o<;>decide
theorem quU (b:Bool):qap qaq (ustr b)=false/\qap qau (ustr b)=false:=by cases b<;>decide
theorem qkY {s:ByteArray} (h:s∈fieldNames):qap qaq s=false:=by
 simp only[fieldNames,List.mem_cons,List.not_mem_nil,or_false] at h
 rcases h with h | h | h | h | h | h | h | h<;>rw[h]<;>decide
theorem qgE {p:UInt8->Bool} {s:ByteArray} (h:qap p s=true):s.size≠0:=by
 rw[qaK] at h
 intro h0
 have:byl s=[]:=List.eq_nil_of_length_eq_zero (by rw[qav,h0])
 rw[this] at h
 cases h
theorem qjT : ∀ (j n k:Nat),n<10 ^ (k+1)->(qit j n).length<=k+1
 | 0,n,k,_=>by simp[qit]
 | j+1,n,k,h=>by
  simp only[qit]
  split
  ·simp
  ·rename_i h10
   cases k with
   | zero=>simp at h; omega
   | succ k=>
    have:=qjT j (n / 10) k (by rw[Nat.pow_succ] at h; omega)
    rw[List.length_append]
    simp
    omega
theorem qss (l:List UInt8) (h : ∀ b∈l,qaq b=true):digV l<10 ^ l.length:=by
 have key : ∀ (m:List UInt8) (a:Nat),(∀ b∈m,qaq b=true)->m.foldl (fun v c=>10*v+(c.toNat-48)) a<(a+1)*10 ^ m.length:=by
  intro m
  induction m with
  | nil=>intro a _; simp
  | cons c m ih=>
   intro a hm
   have hc:=hm c (List.mem_cons_self ..)
   simp only[qaq,Bool.and_eq_true,decide_eq_true_eq] at hc
   have:=ih (10*a+(c.toNat-48)) (fun b hb=>hm b (List.mem_cons_of_mem _ hb))
   simp only[List.foldl_cons,List.length_cons]
   refine Nat.lt_of_lt_of_le this ?_
   rw[Nat.pow_succ,Nat.mul_comm (10 ^ m.length),<- Nat.mul_assoc]
   exact Nat.mul_le_mul_right _ (by omega)
 have:=key l 0 h
 simpa [digV] using this
theorem qst {s:ByteArray} (hd:qap qaq s=true) (hg:Tg (byl s)):digV s.toList<=2147483647/\Red [s] [bs (decB (digV s.toList))]:=by
 rw[ByteArray.toList_eq]
 have hall:(∀ b∈byl s,qaq b=true)/\digV (byl s)<=2147483647 /\ ∃ c r,byl s=c::r:=by
  rw[qaK] at hd
  rcases hg with ⟨c,r,e,hc,_⟩ | ⟨c,r,e,hc,hr,hv⟩ | h | ⟨c,e,hc⟩
  ·rw[e] at hd
   exfalso
   simp only[List.head?_cons,qaq,qaU,Bool.and_eq_true,decide_eq_true_eq] at hd hc
   omega
  ·refine⟨fun b hb=>?_,hv,c,r,e⟩
   rw[e] at hb
   rcases List.mem_cons.1 hb with rfl | hb
   ·exact hc
   ·exact hr b hb
  ·exfalso
   rcases pair_cases h with e | e | e | e | e | e<;>rw[e] at hd<;>revert hd<;>decide
  ·exfalso
   rw[e] at hd
   rcases qei hc with rfl | rfl | rfl | rfl | rfl | rfl | rfl | rfl | rfl | rfl | rfl | rfl | rfl | rfl | rfl | rfl<;>revert hd<;>decide
 obtain⟨h1,h2,c,r,e⟩:=hall
 refine⟨h2,?_⟩
 obtain⟨d1,d2,c',r',d3⟩:=qeY (n:=digV (byl s)) (by omega)
 have endW : ∀ (w:List UInt8),(∃ c r,w=c::r)->(∀ b∈w,qaq b=true) -> ∀ p,qbw p (bs w)=true:=fun w ⟨c,r,hw⟩ hb p=>by
  unfold qbw
  rw[qa2]
  cases hl:w.getLast? with
  | none=>rw[List.getLast?_eq_none_iff,hw] at hl; cases hl
  | some x=>exact qhq (hb x (List.mem_of_getLast? hl))
 have startW : ∀ (w:List UInt8),(∃ c r,w=c::r)->(∀ b∈w,qaq b=true)->qap qau (bs w)=true:=fun w ⟨c,r,hw⟩ hb=>by
  rw[qaK,qa2,hw]
  exact qhq (hb c (by rw[hw]; exact List.mem_cons_self ..))
 have es:s=bs (byl s):=(qcW s).symm
 refine .dig ?_ (fun p=>?_) ?_ .nil
 ·rw[qal]
  have hlt:=qss (byl s) h1
  have hl:(byl s).length=r.length+1:=by rw[e]; rfl
  rw[hl] at hlt
  have:=qjT 20 (digV (byl s)) r.length hlt
  rw[<- qav,hl]
  exact this
 ·rw[endW _ ⟨c',r',d3⟩ d2,es,endW _ ⟨c,r,e⟩ h1]
 ·rw[startW _ ⟨c',r',d3⟩ d2,es,startW _ ⟨c,r,e⟩ h1]
theorem qkZ (f:Bool) : ∀ n:Nat,
  (∀ prec lv ts e r,(∀ t∈ts,TkG t)->1<=prec->prec<=8->lv<=20->qan 12 2 f n prec lv ts=some (.ok e r)->RE e prec lv ts r) /\
  (∀ prec lv e ts e2 r2 ts0,(∀ t∈ts,TkG t)->1<=prec->prec<8->lv<=20->RE e (if prec=4 then 5 else prec) lv ts0 ts->qb1 12 2 f n prec lv e ts=some (.ok e2 r2)->RE e2 prec lv ts0 r2) /\
  (∀ lv ts e r,(∀ t∈ts,TkG t)->lv<=20->qbc 12 2 f n lv ts=some (.ok e r)->e.good/\lv+(e.nest false 1+1)<=20 /\ ∃ l,Hx (bs [91]::(l++[bs [93]])) ts r/\NI l/\Red l (e.tx false 1))
 | 0=>⟨fun p lv ts e r _ _ _ _ h=>by simp[qan] at h,fun p lv e ts e2 r2 ts0 _ _ _ _ _ h=>by simp[qb1] at h,fun lv ts e r _ _ h=>by simp[qbc] at h⟩
 | n+1=>by
  obtain⟨h1,h2,h3⟩:=qkZ f n
  refine⟨fun prec lv ts e r hg hp hp8 hlv h=>?_,fun prec lv e ts e2 r2 ts0 hg hp hp8 hlv he h=>?_,fun lv ts e r hg hlv h=>?_⟩
  ·rw[qan] at h
   split at h
   ·rename_i hc
    cases ho:qcv 12 2 (ustr (prec==7)) (lv+1) ts with
    | er i c=>rw[ho] at h; cases h
    | ok u r1=>
     rw[ho] at h
     simp only at h
     obtain⟨o1,o2⟩:=qjS ho
     cases hx:qan 12 2 f n prec (lv+1) r1 with
     | none=>rw[hx] at h; cases h
     | some y=>
      rw[hx] at h
      cases y with
      | er i c=>cases h
      | ok e1 r2=>
       simp only[Option.some.injEq,Rz.ok.injEq] at h
       obtain⟨rfl,rfl⟩:=h
       obtain⟨g1,g2,l,g3,g4,g5,g6⟩:=h1 prec (lv+1) r1 e1 r2 (fun t ht=>hg t (qcS o1 t ht)) hp hp8 o2 hx
       have hu:qb9 (prec==7)=prec:=by
        rcases hc with ⟨rfl,_⟩ | ⟨rfl,_⟩<;>rfl
       refine⟨g1,?_,ustr (prec==7)::l,by simp,?_,qcq (quU _).1 g5,?_⟩
       ·simp only[E.nest,hu,Bool.false_or,Nat.lt_irrefl,decide_false]
        simp
        omega
       ·obtain⟨t,q,e,a1,a2,a3⟩:=o1
        exact⟨t,q,e,a1,a2,by rw[show q=r1 from a3]; exact g4⟩
       ·simp only[E.tx,hu,Bool.false_or,Nat.lt_irrefl,decide_false]
        exact .keep g6
   split at h
   ·rename_i hp7
    cases hx:qan 12 2 f n (prec+1) lv ts with
    | none=>rw[hx] at h; cases h
    | some y=>
     rw[hx] at h
     cases y with
     | er i c=>cases h
     | ok e1 r1=>
      simp only at h
      have g:=h1 (prec+1) lv ts e1 r1 hg (by omega) (by omega) hlv hx
      have hsub : ∀ t∈r1,TkG t:=fun t ht=>by
       obtain⟨_,_,l,_,q,_⟩:=g
       exact hg t (qcS q t ht)
      refine h2 prec lv e1 r1 e r ts hsub hp hp7 hlv ?_ h
      split
      ·rename_i h4; rw[h4] at g; exact g
      ·exact qol g (by omega) (by omega)
   have hp8':prec=8:=by omega
   subst hp8'
   cases hn:nx ts with
   | none=>rw[hn] at h; simp only[Option.some.injEq] at h; exact absurd h qcm
   | some s=>
    rw[hn] at h
    simp only at h
    obtain⟨t,q,rfl,ts1,ts2⟩:=qgD hn
    have htg:=hg t (List.mem_cons_self ..) ts2
    rw[ts1] at htg
    have h1x:Hx [s] (t::q) q:=⟨t,q,rfl,ts1,ts2,rfl⟩
    split at h
    ·rename_i hd
     simp only[Option.some.injEq,Rz.ok.injEq,List.tail_cons] at h
     obtain⟨rfl,rfl⟩:=h
     obtain⟨n1,n2⟩:=qst hd (htg (qgE hd))
     exact⟨⟨by omega,by omega⟩,by simp only[E.nest]; omega,[s],by simp,h1x,qg1 s,by simp only[E.tx,Int.toNat_natCast]; exact n2⟩
    split at h
    ·rename_i hs
     simp only[Option.some.injEq,Rz.ok.injEq,List.tail_cons] at h
     obtain⟨rfl,rfl⟩:=h
     subst hs
     exact⟨.inr rfl,by simp only[E.nest]; omega,_,by simp,h1x,qg1 _,qc9 _⟩
    split at h
    ·rename_i hs
     simp only[Option.some.injEq,Rz.ok.injEq,List.tail_cons] at h
     obtain⟨rfl,rfl⟩:=h
     subst hs
     exact⟨.inl rfl,by simp only[E.nest]; omega,_,by simp,h1x,qg1 _,qc9 _⟩
    split at h
    ·rename_i hs
     simp only[Option.some.injEq,Rz.ok.injEq,List.tail_cons] at h
     obtain⟨rfl,rfl⟩:=h
     exact⟨hs,by simp only[E.nest]; omega,_,by simp,h1x,qg1 _,qc9 _⟩
    split at h
    ·rename_i hs
     cases hx:qbc 12 2 f n lv q with
     | none=>rw[List.tail_cons,hx] at h; cases h
     | some y=>
      rw[List.tail_cons,hx] at h
      cases y with
      | er i c=>cases h
      | ok e1 r1=>
       simp only[Option.some.injEq,Rz.ok.injEq] at h
       obtain⟨rfl,rfl⟩:=h
       obtain⟨g1,g2,l,g3,g4,g5⟩:=h3 lv q e1 r1 (fun x hx=>hg x (List.mem_cons_of_mem _ hx)) hlv hx
       refine⟨⟨hs,g1⟩,by simp only[E.nest]; omega,s::bs [91]::(l++[bs [93]]),by simp,⟨t,q,rfl,ts1,ts2,g3⟩,qcq (qkY hs) (qcq (by decide) (qf4 g4 (by decide))),?_⟩
       simp only[E.tx]
       exact .keep (.keep (qbV g5 (qc9 _)))
    split at h
    ·rename_i hnd _ _ _ hf hs
     simp only[Option.some.injEq,Rz.ok.injEq,List.tail_cons] at h
     obtain⟨rfl,rfl⟩:=h
     exact⟨⟨htg (qgE hs.1),hs.1,hf,hs.2⟩,by simp only[E.nest]; omega,_,by simp,h1x,qg1 _,qc9 _⟩
    cases ho:qcv 12 2 (bs [40]) (lv+1) (t::q) with
    | er i c=>rw[ho] at h; cases h
    | ok u r1=>
     rw[ho] at h
     simp only at h
     obtain⟨o1,o2⟩:=qjS ho
     cases hx:qan 12 2 f n 1 (lv+1) r1 with
     | none=>rw[hx] at h; cases h
     | some y=>
      rw[hx] at h
      cases y with
      | er i c=>cases h
      | ok e1 r2=>
       simp only at h
       cases hxp:qat 12 (bs [41]) r2 with
       | er i c=>rw[hxp] at h; cases h
       | ok u2 r3=>
        rw[hxp] at h
        simp only[Option.some.injEq,Rz.ok.injEq] at h
        obtain⟨rfl,rfl⟩:=h
        obtain⟨g1,g2,l,g3,g4,g5,g6⟩:=h1 1 (lv+1) r1 e1 r2 (fun t ht=>hg t (qcS o1 t ht)) (by omega) (by omega) o2 hx
        refine⟨g1,?_,bs [40]::(l++[bs [41]]),by simp,?_,qcq (by decide) (qf4 g5 (by decide)),?_⟩
        ·rw[qgC e1 8 (by omega)]
         split<;>omega
        ·exact hx_app (a:=[bs [40]]) |>.2 ⟨r1,o1,hx_app.2 ⟨r2,g4,qdj hxp⟩⟩
        ·rw[qjR e1 8 (by omega)]
         refine qhQ (b:=true) ?_ (fun _=>rfl)
         exact .keep (qbV g6 (qc9 _))
  ·rw[qb1] at h
   have hend:ts=ts->RE e prec lv ts0 ts:=fun _=>qol he (by split<;>omega) (by split<;>omega)
   cases hn:nx ts with
   | none=>
    rw[hn] at h
    simp only at h
    split at h
    ·simp only[Option.some.injEq,Rz.ok.injEq] at h
     obtain⟨rfl,rfl⟩:=h
     exact hend rfl
    ·simp only[Option.some.injEq] at h; exact absurd h qcm
   | some s=>
    rw[hn] at h
    simp only at h
    cases hop:qjJ prec s with
    | none=>
     rw[hop] at h
     simp only[Option.some.injEq,Rz.ok.injEq] at h
     obtain⟨rfl,rfl⟩:=h
     exact hend rfl
    | some o=>
     rw[hop] at h
     simp only at h
     obtain⟨op1,op2⟩:=qom hop
     obtain⟨t,q,rfl,ts1,ts2⟩:=qgD hn
     rw[List.tail_cons] at h
     cases hx:qan 12 2 f n (prec+1) lv q with
     | none=>rw[hx] at h; cases h
     | some y=>
      rw[hx] at h
      cases y with
      | er i c=>cases h
      | ok e' r1=>
       simp only at h
       obtain⟨a1,a2,la,a3,a4,a5,a6⟩:=he
       obtain⟨b1,b2,lb,b3,b4,b5,b6⟩:=h1 (prec+1) lv q e' r1 (fun x hx=>hg x (List.mem_cons_of_mem _ hx)) (by omega) (by omega) hlv hx
       have hleft:o.left=if prec=4 then 5 else prec:=by unfold Bop.left; rw[op1]
       have hb:RE (.bin f o e e') prec lv ts0 r1:=by
        refine⟨⟨a1,b1⟩,?_,la++o.str::lb,by simp,?_,qiQ a5 (qrz o).1 (qrz o).2 b5,?_⟩
        ·simp only[E.nest,hleft,op1,Bool.false_or,Nat.lt_irrefl,decide_false]
         simp
         omega
        ·exact hx_app.2 ⟨_,a4,⟨t,q,rfl,ts1.trans op2.symm,ts2,b4⟩⟩
        ·simp only[E.tx,hleft,op1,Bool.false_or,Nat.lt_irrefl,decide_false]
         exact qbV a6 (.keep b6)
       split at h
       ·simp only[Option.some.injEq,Rz.ok.injEq] at h
        obtain⟨rfl,rfl⟩:=h
        exact hb
       ·rename_i h4
        have hsub : ∀ t∈r1,TkG t:=fun x hxm=>hg x (List.mem_cons_of_mem _ (qcS b4 x hxm))
        exact h2 prec lv (.bin f o e e') r1 e2 r2 ts0 hsub hp hp8 hlv (by rw[if_neg h4]; exact hb) h
  ·rw[qbc] at h
   cases ho:qcv 12 2 (bs [91]) (lv+1) ts with
   | er i c=>rw[ho] at h; cases h
   | ok u r1=>
    rw[ho] at h
    simp only at h
    obtain⟨o1,o2⟩:=qjS ho
    cases hx:qan 12 2 f n 1 (lv+1) r1 with
    | none=>rw[hx] at h; cases h
    | some y=>
     rw[hx] at h
     cases y with
     | er i c=>cases h
     | ok e1 r2=>
      simp only at h
      cases hxp:qat 12 (bs [93]) r2 with
      | er i c=>rw[hxp] at h; cases h
      | ok u2 r3=>
       rw[hxp] at h
       simp only[Option.some.injEq,Rz.ok.injEq] at h
       obtain⟨rfl,rfl⟩:=h
       obtain⟨g1,g2,l,g3,g4,g5,g6⟩:=h1 1 (lv+1) r1 e1 r2 (fun t ht=>hg t (qcS o1 t ht)) (by omega) (by omega) o2 hx
       exact⟨g1,by omega,l,hx_app (a:=[bs [91]]) |>.2 ⟨r1,o1,hx_app.2 ⟨r2,g4,qdj hxp⟩⟩,g5,g6⟩
end Go.Pm
end SUd
section SUe
namespace Go.Pm
theorem qjh : ∀ {a:Ss} (b:Ss),a.good none->(a.app b).tx=a.tx++b.tx
 | .nil,b,_=>rfl
 | .assign _ s e r,b,h=>by simp[Ss.app,Ss.tx,qjh b h.2.2.2]
 | .store _ s x y r,b,h=>by simp[Ss.app,Ss.tx,qjh b h.2.2.2.2]
 | .effect _ x y r,b,h=>by simp[Ss.app,Ss.tx,qjh b h.2.2.2]
 | .stop r,b,h=>by simp[Ss.app,Ss.tx,qjh b h.2]
 | .cond w _ c q r,b,h=>by simp[Ss.app,Ss.tx,qjh b h.2.2.2]
 | .block _ q r,b,h=>by obtain⟨n,hn,_⟩:=h; cases hn
theorem qfs : ∀ {a:Ss} {b:Ss},a.good none->b.good none->(a.app b).good none
 | .nil,b,_,h=>h
 | .assign _ s e r,b,h,hb=>⟨rfl,h.2.1,h.2.2.1,qfs h.2.2.2 hb⟩
 | .store _ s x y r,b,h,hb=>⟨rfl,h.2.1,h.2.2.1,h.2.2.2.1,qfs h.2.2.2.2 hb⟩
 | .effect _ x y r,b,h,hb=>⟨rfl,h.2.1,h.2.2.1,qfs h.2.2.2 hb⟩
 | .stop r,b,h,hb=>⟨rfl,qfs h.2 hb⟩
 | .cond w _ c q r,b,h,hb=>⟨rfl,h.2.1,h.2.2.1,qfs h.2.2.2 hb⟩
 | .block _ q r,b,h,hb=>by obtain⟨n,hn,_⟩:=h; cases hn
theorem qq6 (a b:Ss):(a.app b).nest=max a.nest b.nest:=by
 induction a<;>simp_all [Ss.app,Ss.nest,Nat.max_assoc]
def NE (l:List ByteArray):Prop := ∀ t,l.getLast?=some t->qap qaq t=false
theorem qfF {l:List ByteArray} {t:ByteArray} (h:qap qaq t=false):NE (l++[t]):=fun x hx=>by
 rw[List.getLast?_concat] at hx
 cases hx
 exact h
theorem qkc {a b:List ByteArray} (ha:NI a) (he:NE a) (hb:NI b):NI (a++b):=qmp ha hb (fun t u ht _ hd=>by rw[he t ht] at hd; cases hd)
theorem qrN {a b:List ByteArray} (ha:NE a) (hb:NE b):NE (a++b):=fun t ht=>by
 rw[List.getLast?_append] at ht
 cases hl:b.getLast? with
 | none=>
  rw[hl] at ht
  exact ha t (by simpa using ht)
 | some x=>
  rw[hl] at ht
  simp at ht
  subst ht
  exact hb x hl
theorem qrO:NE []:=fun t h=>by cases h
def RS (b:Ss) (lv:Nat) (ts r:List Tk):Prop:=b.good none/\lv+b.nest<=20 /\ ∃ l,Hx l ts r/\NI l/\NE l/\Red l b.tx
theorem hx1 {t:Tk} {q:List Tk} {s:ByteArray} (h1:t.s=s) (h2:t.bad=0):Hx [s] (t::q) q:=⟨t,q,rfl,h1,h2,rfl⟩
theorem qbp {a b:List ByteArray} {ts m r:List Tk} (h1:Hx a ts m) (h2:Hx b m r):Hx (a++b) ts r:=hx_app.2 ⟨m,h1,h2⟩
theorem qgp {a b:Ss} {ts r:List Tk} (h:qa4 12 a ts = .ok b r):b=a/\Hx [bs [59]] ts r:=by
 unfold qa4 at h
 cases hx:qat 12 (bs [59]) ts with
 | er i c=>rw[hx] at h; cases h
 | ok u q=>rw[hx] at h; cases h; exact⟨rfl,qdj hx⟩
theorem qlj (f fi fb:Bool) : ∀ n:Nat,
  (∀ lv ts b r,(∀ t∈ts,TkG t)->lv<=20->qb8 12 2 f fi fb n lv ts=some (.ok b r)->RS b lv ts r) /\
  (∀ lv ts b r,(∀ t∈ts,TkG t)->qaR 12 2 f fi fb n lv ts=some (.ok b r)->lv<=20/\b.good none/\lv+b.nest<=20 /\ ∃ l,Hx (bs [123]::(l++[bs [125]])) ts r/\NI l/\NE l/\Red l b.tx) /\
  (∀ lv a ts b r ts0,(∀ t∈ts,TkG t)->lv<=20->RS a lv ts0 ts->qbL 12 2 f fi fb n lv a ts=some (.ok b r)->b.good none/\lv+b.nest<=20 /\ ∃ l,Hx (l++[bs [125]]) ts0 r/\NI l/\NE l/\Red l b.tx)
 | 0=>⟨fun lv ts b r _ _ h=>by simp[qb8] at h,fun lv ts b r _ h=>by simp[qaR] at h,fun lv a ts b r ts0 _ _ _ h=>by simp[qbL] at h⟩
 | n+1=>by
  obtain⟨h1,h2,h3⟩:=qlj f fi fb n
  obtain⟨x1,_,x3⟩:=qkZ f n
  refine⟨fun lv ts b r hg hlv h=>?_,fun lv ts b r hg h=>?_,fun lv a ts b r ts0 hg hlv ha h=>?_⟩
  ·rw[qb8] at h
   cases hn:nx ts with
   | none=>rw[hn] at h; simp only[Option.some.injEq] at h; exact absurd h qcm
   | some s=>
    rw[hn] at h
    simp only at h
    obtain⟨t,q,rfl,ts1,ts2⟩:=qgD hn
    have htg:=hg t (List.mem_cons_self ..) ts2
    rw[ts1] at htg
    have hq : ∀ t∈q,TkG t:=fun x hx=>hg x (List.mem_cons_of_mem _ hx)
    have hs1:=hx1 (q:=q) ts1 ts2
    rw[List.tail_cons] at h
    split at h
    ·rename_i hs
     subst hs
     cases hx:qan 12 2 f n 1 lv q with
     | none=>rw[hx] at h; cases h
     | some y=>
      rw[hx] at h
      cases y with
      | er i k=>cases h
      | ok c r1=>
       simp only at h
       obtain⟨c1,c2,lc,c3,c4,c5,c6⟩:=x1 1 lv q c r1 hq (by omega) (by omega) hlv hx
       have hr1 : ∀ t∈r1,TkG t:=fun x hm=>hq x (qcS c4 x hm)
       cases hy:qaR 12 2 f fi fb n (lv+1) r1 with
       | none=>rw[hy] at h; cases h
       | some y=>
        rw[hy] at h
        cases y with
        | er i k=>cases h
        | ok b1 r2=>
         simp only at h
         obtain⟨b0,b1g,b1n,lb,b3,b4,b5,b6⟩:=h2 (lv+1) r1 b1 r2 hr1 hy
         have hr2 : ∀ t∈r2,TkG t:=fun x hm=>hr1 x (qcS b3 x hm)
         have base:Hx (bs [105,102]::(lc++bs [123]::(lb++[bs [125]]))) (t::q) r2:=qbp (a:=[bs [105,102]]) hs1 (qbp c4 b3)
         have ni0:NI (bs [105,102]::(lc++bs [123]::(lb++[bs [125]]))):=qcq (by decide) (qiQ c5 (by decide) (by decide) (qf4 b4 (by decide)))
         cases hm:nx r2 with
         | none=>rw[hm] at h; simp only[Option.some.injEq] at h; exact absurd h qcm
         | some w=>
          rw[hm] at h
          simp only at h
          split at h
          ·rename_i hw
           subst hw
           obtain⟨t2,q2,rfl,t21,t22⟩:=qgD hm
           rw[List.tail_cons] at h
           cases hz:qaR 12 2 f fi fb n (lv+1) q2 with
           | none=>rw[hz] at h; cases h
           | some y=>
            rw[hz] at h
            cases y with
            | er i k=>cases h
            | ok b2 r3=>
             simp only[Option.some.injEq,Rz.ok.injEq] at h
             obtain⟨rfl,rfl⟩:=h
             obtain⟨d0,d1,d2,ld,d3,d4,d5,d6⟩:=h2 (lv+1) q2 b2 r3 (fun x hx=>hr2 x (List.mem_cons_of_mem _ hx)) hz
             refine⟨⟨rfl,c1,⟨1,rfl,b1g,⟨0,rfl,d1,.inr rfl⟩⟩,.inl rfl⟩,by simp only[Ss.nest]; omega,_,qbp base (qbp (hx1 t21 t22) d3),?_,?_,?_⟩
             ·refine qkc ni0 ?_ (qkc (qg1 _) (fun x hx=>by cases hx; decide) (qcq (by decide) (qf4 d4 (by decide))))
              have:bs [105,102]::(lc++bs [123]::(lb++[bs [125]]))=(bs [105,102]::(lc++bs [123]::lb))++[bs [125]]:=by simp
              rw[this]
              exact qfF (by decide)
             ·have : ∀ X:List ByteArray,X++([bs [101,108,115,101]]++bs [123]::(ld++[bs [125]]))=(X++(bs [101,108,115,101]::bs [123]::ld))++[bs [125]]:=fun X=>by simp
              rw[this]
              exact qfF (by decide)
             ·simp only[Ss.tx,List.append_nil,Bool.false_eq_true,if_false]
              rw[show bs [105,102]::(lc++bs [123]::(lb++[bs [125]]))++([bs [101,108,115,101]]++bs [123]::(ld++[bs [125]]))=bs [105,102]::(lc++(bs [123]::(lb++(bs [125]::bs [101,108,115,101]::bs [123]::(ld++[bs [125]]))))) by simp]
              refine .keep (qbV c6 (.keep (qbV b6 (.keep ?_))))
              split
              ·exact .keep (.keep (qbV d6 (.keep .nil)))
              ·rename_i he
               have hb2:b2 = .nil:=by cases b2<;>first | rfl | exact absurd rfl he
               subst hb2
               have hk:=qbV d6 (.del (t:=bs [125]) (by decide) .nil)
               exact .del (by decide) (.del (by decide) hk)
          ·simp only[Option.some.injEq,Rz.ok.injEq] at h
           obtain⟨rfl,rfl⟩:=h
           refine⟨⟨rfl,c1,⟨1,rfl,b1g,⟨0,rfl,.inl rfl,.inr rfl⟩⟩,.inl rfl⟩,by simp only[Ss.nest]; omega,_,base,ni0,?_,?_⟩
           ·have:bs [105,102]::(lc++bs [123]::(lb++[bs [125]]))=(bs [105,102]::(lc++bs [123]::lb))++[bs [125]]:=by simp
            rw[this]
            exact qfF (by decide)
           ·simp only[Ss.tx,qcR,List.append_nil,Bool.false_eq_true,if_false]
            exact .keep (qbV c6 (.keep (qbV b6 (.keep .nil))))
    split at h
    ·rename_i hs
     subst hs
     cases hx:qan 12 2 f n 1 lv q with
     | none=>rw[hx] at h; cases h
     | some y=>
      rw[hx] at h
      cases y with
      | er i k=>cases h
      | ok c r1=>
       simp only at h
       obtain⟨c1,c2,lc,c3,c4,c5,c6⟩:=x1 1 lv q c r1 hq (by omega) (by omega) hlv hx
       have hr1 : ∀ t∈r1,TkG t:=fun x hm=>hq x (qcS c4 x hm)
       cases hy:qaR 12 2 f fi fb n (lv+1) r1 with
       | none=>rw[hy] at h; cases h
       | some y=>
        rw[hy] at h
        cases y with
        | er i k=>cases h
        | ok b1 r2=>
         simp only[Option.some.injEq,Rz.ok.injEq] at h
         obtain⟨rfl,rfl⟩:=h
         obtain⟨b0,b1g,b1n,lb,b3,b4,b5,b6⟩:=h2 (lv+1) r1 b1 r2 hr1 hy
         refine⟨⟨rfl,c1,⟨0,rfl,b1g,.inr rfl⟩,.inl rfl⟩,by simp only[Ss.nest]; omega,_,qbp hs1 (qbp c4 b3),?_,?_,?_⟩
         ·exact qcq (by decide) (qiQ c5 (by decide) (by decide) (qf4 b4 (by decide)))
         ·have:[bs [119,104,105,108,101]]++(lc++bs [123]::(lb++[bs [125]]))=(bs [119,104,105,108,101]::(lc++bs [123]::lb))++[bs [125]]:=by simp
          rw[this]
          exact qfF (by decide)
         ·simp only[Ss.tx,qcR,List.append_nil,Bool.false_eq_true,if_false,if_true]
          rw[List.singleton_append]
          exact .keep (qbV c6 (.keep (qbV b6 (.keep .nil))))
    split at h
    ·rename_i hs
     subst hs
     cases hx:qan 12 2 f n 1 lv q with
     | none=>rw[hx] at h; cases h
     | some y=>
      rw[hx] at h
      cases y with
      | er i k=>cases h
      | ok c r1=>
       simp only at h
       obtain⟨c1,c2,lc,c3,c4,c5,c6⟩:=x1 1 lv q c r1 hq (by omega) (by omega) hlv hx
       have hr1 : ∀ t∈r1,TkG t:=fun x hm=>hq x (qcS c4 x hm)
       cases hy:qat 12 (bs [44]) r1 with
       | er i k=>rw[hy] at h; cases h
       | ok u r2=>
        rw[hy] at h
        simp only at h
        have k1:=qdj hy
        cases hz:qan 12 2 f n 1 lv r2 with
        | none=>rw[hz] at h; cases h
        | some y=>
         rw[hz] at h
         cases y with
         | er i k=>cases h
         | ok d r3=>
          simp only[Option.some.injEq] at h
          obtain⟨d1,d2,ld,d3,d4,d5,d6⟩:=x1 1 lv r2 d r3 (fun x hm=>hr1 x (qcS k1 x hm)) (by omega) (by omega) hlv hz
          obtain⟨rfl,k2⟩:=qgp h
          refine⟨⟨rfl,c1,d1,.inl rfl⟩,by simp only[Ss.nest]; omega,_,qbp hs1 (qbp c4 (qbp k1 (qbp d4 k2))),?_,?_,?_⟩
          ·exact qcq (by decide) (qiQ c5 (by decide) (by decide) (qf4 d5 (by decide)))
          ·have:[bs [101,102,102,101,99,116]]++(lc++([bs [44]]++(ld++[bs [59]])))=(bs [101,102,102,101,99,116]::(lc++bs [44]::ld))++[bs [59]]:=by simp
           rw[this]
           exact qfF (by decide)
          ·simp only[Ss.tx]
           simp only[List.cons_append,List.nil_append]
           exact .keep (qbV c6 (.keep (qbV d6 (.keep .nil))))
    split at h
    ·rename_i hs
     subst hs
     simp only[Option.some.injEq] at h
     obtain⟨rfl,k2⟩:=qgp h
     refine⟨⟨rfl,.inl rfl⟩,by simp only[Ss.nest]; omega,_,qbp hs1 k2,qcq (by decide) (qg1 _),qfF (l:=[bs [115,116,111,112]]) (by decide),qc9 _⟩
    split at h
    ·rename_i hs
     cases hx:qbc 12 2 f n lv q with
     | none=>rw[hx] at h; cases h
     | some y=>
      rw[hx] at h
      cases y with
      | er i k=>cases h
      | ok c r1=>
       simp only at h
       obtain⟨c1,c2,lc,c4,c5,c6⟩:=x3 lv q c r1 hq hlv hx
       have hr1 : ∀ t∈r1,TkG t:=fun x hm=>hq x (qcS c4 x hm)
       cases hy:qat 12 (bs [61]) r1 with
       | er i k=>rw[hy] at h; cases h
       | ok u r2=>
        rw[hy] at h
        simp only at h
        have k1:=qdj hy
        cases hz:qan 12 2 f n 1 lv r2 with
        | none=>rw[hz] at h; cases h
        | some y=>
         rw[hz] at h
         cases y with
         | er i k=>cases h
         | ok d r3=>
          simp only[Option.some.injEq] at h
          obtain⟨d1,d2,ld,d3,d4,d5,d6⟩:=x1 1 lv r2 d r3 (fun x hm=>hr1 x (qcS k1 x hm)) (by omega) (by omega) hlv hz
          obtain⟨rfl,k2⟩:=qgp h
          refine⟨⟨rfl,hs,c1,d1,.inl rfl⟩,by simp only[Ss.nest]; omega,_,qbp hs1 (qbp c4 (qbp k1 (qbp d4 k2))),?_,?_,?_⟩
          ·refine qcq (qkY hs) ?_
           have:bs [91]::(lc++[bs [93]])++([bs [61]]++(ld++[bs [59]]))=bs [91]::(lc++bs [93]::bs [61]::(ld++[bs [59]])):=by simp
           show NI (bs [91]::(lc++[bs [93]])++([bs [61]]++(ld++[bs [59]])))
           rw[this]
           exact qcq (by decide) (qiQ c5 (by decide) (by decide) (qcq (by decide) (qf4 d5 (by decide))))
          ·have:[s]++(bs [91]::(lc++[bs [93]])++([bs [61]]++(ld++[bs [59]])))=(s::bs [91]::(lc++bs [93]::bs [61]::ld))++[bs [59]]:=by simp
           rw[this]
           exact qfF (by decide)
          ·simp only[Ss.tx]
           have:[s]++(bs [91]::(lc++[bs [93]])++([bs [61]]++(ld++[bs [59]])))=s::bs [91]::(lc++bs [93]::bs [61]::(ld++[bs [59]])):=by simp
           rw[this]
           exact .keep (.keep (qbV c6 (.keep (.keep (qbV d6 (.keep .nil))))))
    split at h
    ·rename_i hf hs
     cases hy:qat 12 (bs [61]) q with
     | er i k=>rw[hy] at h; cases h
     | ok u r2=>
      rw[hy] at h
      simp only at h
      have k1:=qdj hy
      cases hz:qan 12 2 f n 1 lv r2 with
      | none=>rw[hz] at h; cases h
      | some y=>
       rw[hz] at h
       cases y with
       | er i k=>cases h
       | ok d r3=>
        simp only[Option.some.injEq] at h
        obtain⟨d1,d2,ld,d3,d4,d5,d6⟩:=x1 1 lv r2 d r3 (fun x hm=>hq x (qcS k1 x hm)) (by omega) (by omega) hlv hz
        obtain⟨rfl,k2⟩:=qgp h
        refine⟨⟨rfl,⟨htg (qgE hs.1),hs.1,hf,hs.2⟩,d1,.inl rfl⟩,by simp only[Ss.nest]; omega,_,qbp hs1 (qbp k1 (qbp d4 k2)),?_,?_,?_⟩
        ·exact qiQ (a:=[s]) (qg1 s) (by decide) (by decide) (qf4 d5 (by decide))
        ·have:[s]++([bs [61]]++(ld++[bs [59]]))=(s::bs [61]::ld)++[bs [59]]:=by simp
         rw[this]
         exact qfF (by decide)
        ·simp only[Ss.tx]
         simp only[List.cons_append,List.nil_append]
         exact .keep (.keep (qbV d6 (.keep .nil)))
    ·simp only[Option.some.injEq] at h; exact absurd h qcm
  ·rw[qaR] at h
   cases ho:qcv 12 2 (bs [123]) lv ts with
   | er i k=>rw[ho] at h; cases h
   | ok u r1=>
    rw[ho] at h
    simp only at h
    obtain⟨o1,o2⟩:=qjS ho
    obtain⟨g1,g2,l,g3,g4,g5,g6⟩:=h3 lv .nil r1 b r r1 (fun x hm=>hg x (qcS o1 x hm)) o2 ⟨.inl rfl,by simp only[Ss.nest]; omega,[],rfl,trivial,qrO,.nil⟩ h
    exact⟨o2,g1,g2,l,qbp (a:=[bs [123]]) o1 g3,g4,g5,g6⟩
  ·rw[qbL] at h
   cases hn:nx ts with
   | none=>rw[hn] at h; simp only[Option.some.injEq] at h; exact absurd h qcm
   | some s=>
    rw[hn] at h
    simp only at h
    obtain⟨t,q,rfl,ts1,ts2⟩:=qgD hn
    obtain⟨a1,a2,la,a3,a4,a5,a6⟩:=ha
    split at h
    ·rename_i hs
     subst hs
     simp only[Option.some.injEq,Rz.ok.injEq,List.tail_cons] at h
     obtain⟨rfl,rfl⟩:=h
     exact⟨a1,a2,la,qbp a3 (hx1 ts1 ts2),a4,a5,a6⟩
    ·cases hx:qb8 12 2 f fi fb n lv (t::q) with
     | none=>rw[hx] at h; cases h
     | some y=>
      rw[hx] at h
      cases y with
      | er i k=>cases h
      | ok b1 r1=>
       simp only at h
       obtain⟨b1g,b2,lb,b3,b4,b5,b6⟩:=h1 lv (t::q) b1 r1 hg hlv hx
       refine h3 lv (a.app b1) r1 b r ts0 (fun x hm=>hg x (qcS b3 x hm)) hlv ⟨qfs a1 b1g,by rw[qq6]; omega,la++lb,qbp a3 b3,qkc a4 a5 b4,qrN a5 b5,?_⟩ h
       rw[qjh b1 a1]
       exact qbV a6 b6
end Go.Pm
end SUe
section SYk
namespace Go.Pm
def qnS (g:List UInt8):Prop := ∀ r,qa8 false (g++r)=g.length+qa8 false r
theorem qkz:qnS []:=fun r=>by simp
theorem qnT {c:UInt8} (h:c.toNat=32\/c.toNat=9\/c.toNat=10):qnS [c]:=fun r=>by
 simp only[List.cons_append,List.nil_append,qa8,List.length_singleton]
 by_cases h10:c.toNat=10
 ·rw[if_pos h10]; omega
 ·rw[if_neg h10,if_pos (by rcases h with h | h | h; exact .inr (.inl h); exact .inr (.inr h); exact absurd h h10)]; omega
theorem qpE {w:List UInt8} (h:Tg w) (r:List UInt8):qa8 false (w++r)=0:=by
 obtain⟨c,q,hw,h1,h2,h3,h4⟩:=qfO h
 rw[hw]
 simp[qa8,h1,h2,h3,h4]
def qfw:List (List UInt8 × ByteArray)->List UInt8
 | []=>[]
 | (g,t)::r=>g++(byl t++qfw r)
def Sep (t:ByteArray) (g:List UInt8) (u:ByteArray):Prop:=(∃ c q,g=c::q/\(c.toNat=32\/c.toNat=10\/c.toNat=9\/c.toNat=35))\/(g=[]/\(qbw false t&&qap qau u)=false/\Adj t u)
def OkG:List (List UInt8 × ByteArray)->Prop
 | []=>True
 | (g,t)::r=>qnS g/\Tg (byl t)/\(∀ p,r.head?=some p->Sep t p.1 p.2)/\OkG r
theorem qkA {w:List UInt8} (h:Tg w) {c:UInt8} (hc:c.toNat=32\/c.toNat=10\/c.toNat=9\/c.toNat=35) (r:List UInt8):Fol w (c::r):=by
 have hw:qau c=false:=by
  simp only[qau,qaU,qaq,Bool.or_eq_false_iff,Bool.and_eq_false_iff,decide_eq_false_iff_not]
  omega
 have hd:qaq c=false:=by
  simp only[qaq,Bool.and_eq_false_iff,decide_eq_false_iff_not]
  omega
 obtain⟨a,q,rfl,-⟩:=qfO h
 simp only[Fol]
 split
 ·exact hw
 split
 ·exact hd
 ·intro _ hp
  rcases pair_cases hp with h | h | h | h | h | h<;>simp only[List.cons.injEq,and_true] at h<;>rw[h.2] at hc<;>exact absurd hc (by decide)
theorem qrX (w:List UInt8):Fol w []:=by cases w<;>trivial
theorem qpF {w:ByteArray} (h:Tg (byl w)) (p q:Bool):qbw p w=qbw q w:=by
 obtain⟨c,r,hw,-⟩:=qfO h
 unfold qbw
 rw[hw]
 cases hl:(c::r).getLast? with
 | none=>simp at hl
 | some b=>rfl
theorem qkB (eS eL eR:Nat) : ∀ (l:List (List UInt8 × ByteArray)) (n i:Nat) (tail:List UInt8),OkG l->(∀ p,l.getLast?=some p->Fol (byl p.2) tail)->l.length<=n ->
  ∃ ts,qlm eS eL eR n i (qfw l++tail)=ts++qlm eS eL eR (n-l.length) (i+(qfw l).length) tail /\ ∀ r,Hx (l.map (·.2)) (ts++r) r
 | [],n,i,tail,_,_,_=>⟨[],by simp[qfw],fun r=>rfl⟩
 | (g,t)::l,0,i,tail,_,_,h=>by simp at h
 | (g,t)::l,n+1,i,tail,ho,hl,h=>by
  obtain⟨hg,ht,ha,ho'⟩:=ho
  have hf:Fol (byl t) (qfw l++tail):=by
   cases l with
   | nil=>exact hl (g,t) rfl
   | cons u us=>
    obtain⟨g',u⟩:=u
    simp only[qfw,List.append_assoc]
    rcases ha (g',u) rfl with ⟨c,q,h1,h2⟩ | ⟨h1,h2,h3⟩
    ·simp only at h1
     rw[h1]
     exact qkA ht h2 _
    ·simp only at h1 h2 h3
     rw[h1]
     have:=qqJ (p:=false) ht ho'.2.1 h3 (qfw us++tail)
     rwa [gap,h2] at this
  have hsk:qa8 false (g++(byl t++(qfw l++tail)))=g.length:=by rw[hg,qpE ht]; omega
  have htk:=qoE eS eL eR ht hf
  have hne:(byl t).length≠0:=by
   obtain⟨c,w,hw,-⟩:=qfO ht
   rw[hw]; simp
  obtain⟨ts,e1,e2⟩:=qkB eS eL eR l n (i+g.length+t.size) tail ho' (fun u hu=>hl u (by
   cases l with
   | nil=>cases hu
   | cons v vs=>rw[List.getLast?_cons_cons]; exact hu)) (by simpa using h)
  refine⟨⟨i+g.length,t,0⟩::ts,?_,fun r=>⟨⟨i+g.length,t,0⟩,ts++r,rfl,rfl,rfl,e2 r⟩⟩
  simp only[qfw,List.append_assoc,qlm,hsk,List.drop_left,htk]
  rw[if_neg (by
   rintro (h | h)
   ·exact h rfl
   ·exact hne h)]
  rw[qcW,qav,e1]
  simp only[List.cons_append,List.length_append,List.length_cons,qav]
  congr 3<;>omega
theorem qm5 (eS eL eR:Nat) {l:List (List UInt8 × ByteArray)} {w:List UInt8} (ho:OkG l) (hw:qnS w) (hsep:w=[] \/ ∃ c q,w=c::q/\(c.toNat=32\/c.toNat=10\/c.toNat=9\/c.toNat=35)) {s:ByteArray} (hs:byl s=qfw l++w) :
  ∃ e,Hx (l.map (·.2)) (qb0 eS eL eR s (s.size+1) 0) [⟨e,⟨#[]⟩,0⟩]:=by
 have htgs : ∀ p∈l,Tg (byl p.2):=by
  induction l with
  | nil=>intro p hp; cases hp
  | cons q l ih=>
   intro p hp
   obtain⟨g,t⟩:=q
   rcases List.mem_cons.1 hp with rfl | hp
   ·exact ho.2.1
   ·have hl : ∀ (l:List (List UInt8 × ByteArray)),OkG l -> ∀ p∈l,Tg (byl p.2):=fun l=>by
     induction l with
     | nil=>intro _ p hp; cases hp
     | cons q l ih=>intro h p hp; rcases List.mem_cons.1 hp with rfl | hp; exact h.2.1; exact ih h.2.2.2 p hp
    exact hl l ho.2.2.2 p hp
 have hlen:l.length<=(qfw l).length:=by
  clear ho hs
  induction l with
  | nil=>simp
  | cons q l ih=>
   obtain⟨g,t⟩:=q
   have h1:=htgs (g,t) (List.mem_cons_self ..)
   obtain⟨c,w,hw,-⟩:=qfO h1
   have:=ih fun p hp=>htgs p (List.mem_cons_of_mem _ hp)
   simp only[qfw,List.length_append,List.length_cons]
   have h2:1<=(byl t).length:=by simp only at hw; rw[hw]; simp
   omega
 have hsz:s.size=(qfw l).length+w.length:=by rw[<- qav,hs,List.length_append]
 rw[qkk,List.drop_zero,hs]
 obtain⟨ts,e1,e2⟩:=qkB eS eL eR l (s.size+1) 0 w ho (fun p hp=>by
  have ht:=htgs p (List.mem_of_getLast? hp)
  rcases hsep with h | ⟨c,q,h1,h2⟩
  ·rw[h]; exact qrX _
  ·rw[h1]; exact qkA ht h2 _) (by omega)
 rw[e1]
 obtain⟨k,hk⟩ : ∃ k,s.size+1-l.length=k+1:=⟨s.size-l.length,by omega⟩
 have hend : ∀ j,qlm eS eL eR (k+1) j w=[⟨j+w.length,⟨#[]⟩,0⟩]:=fun j=>by
  have h1:qa8 false w=w.length:=by
   have:=hw []
   rw[List.append_nil] at this
   rw[this]; simp[qa8]
  simp only[qlm,h1,List.drop_length,tokL]
  rw[if_pos (.inr rfl)]
  rfl
 rw[hk,hend]
 exact⟨_,e2 _⟩
end Go.Pm
end SYk
section SUf
namespace Go.Pm
theorem qlq (p:Bool) (l:List ByteArray):qoD p (l++[bs [125]])=false:=by
 rw[qoD,List.foldl_append]
 show qbw (List.foldl qbw p l) (bs [125])=false
 exact qhX (.inr ⟨125,rfl,by decide⟩)
theorem qpn (k:Nat) (b:Ss):qeH k (some b)=(onS::qbS k::bs [123]::b.tx)++[bs [125]]:=by simp[qeH]
theorem qpo (k:Nat) (o:Option Ss) (r:List ByteArray):(qah false (qeH k o++r)).length=(qah false (qeH k o)).length+(qah false r).length:=by
 cases o with
 | none=>simp[qeH,qah]
 | some b=>rw[qfm,qpn,qlq,List.length_append]
theorem qkn (h:Nat->Option Ss):(qah false (qaJ h)).length=(qah false (qeH 0 (h 0))).length+((qah false (qeH 1 (h 1))).length+(qah false (qeH 2 (h 2))).length):=by
 rw[qaJ,qpo,qpo]
theorem qtR {h:Nat->Option Ss} {k:Nat} {b:Ss} (hk:k<3) (hh:h k=none):(qah false (qaJ fun i=>if i=k then some b else h i)).length=(qah false (qaJ h)).length+(qah false (qeH k (some b))).length:=by
 rw[qkn,qkn]
 have e0 : ∀ j,(qah false (qeH j none)).length=0:=fun j=>rfl
 obtain rfl | rfl | rfl:k=0\/k=1\/k=2:=by omega
 ·simp[hh,e0]; omega
 ·simp[hh,e0]; omega
 ·simp[hh,e0]; omega
theorem qlr {w:ByteArray} {k:Nat} (h:qbA w=some k):k<3/\w=qbS k:=by
 unfold qbA at h
 split at h
 ·cases h; exact⟨by omega,by assumption⟩
 split at h
 ·cases h; exact⟨by omega,by assumption⟩
 split at h
 ·cases h; exact⟨by omega,by assumption⟩
 ·cases h
theorem qpp (k:Nat):qap qaq (qbS k)=false:=by
 unfold qbS
 split<;>decide
theorem qls (f fi fb:Bool) : ∀ (n:Nat) (h:Nat->Option Ss) (ts:List Tk) (h':Nat->Option Ss) (r:List Tk),(∀ t∈ts,TkG t)->(∀ k,qcV (h k))->(∀ k,3<=k->h k=none)->qcw 12 2 4 f fi fb n h ts=some (.ok h' r) ->
  ∃ l,Hx l ts r/\NI l/\NE l/\(∀ k,qcV (h' k))/\(∀ k,3<=k->h' k=none)/\nx r=some ⟨#[]⟩/\(qah false (qaJ h')).length<=(qah false (qaJ h)).length+(qah false l).length
 | 0,h,ts,h',r,_,_,_,e=>by simp[qcw] at e
 | n+1,h,ts,h',r,hg,hh,h3,e=>by
  rw[qcw] at e
  cases hn:nx ts with
  | none=>rw[hn] at e; simp only[Option.some.injEq] at e; exact absurd e qcm
  | some s=>
   rw[hn] at e
   simp only at e
   split at e
   ·rename_i hs
    simp only[Option.some.injEq,Rz.ok.injEq] at e
    obtain⟨rfl,rfl⟩:=e
    have:s=⟨#[]⟩:=by
     apply qki
     have:(byl s).length=0:=by rw[qav,hs]
     rw[List.eq_nil_of_length_eq_zero this]
    rw[this] at hn
    exact⟨[],rfl,trivial,qrO,hh,h3,hn,by simp[qah]⟩
   ·cases hy:qat 12 (bs [111,110]) ts with
    | er i k=>rw[hy] at e; cases e
    | ok u r1=>
     rw[hy] at e
     simp only at e
     have k1:=qdj hy
     cases hm:nx r1 with
     | none=>rw[hm] at e; simp only[Option.some.injEq] at e; exact absurd e qcm
     | some w=>
      rw[hm] at e
      simp only at e
      cases hk:qbA w with
      | none=>rw[hk] at e; simp only[Option.some.injEq] at e; exact absurd e qcm
      | some k=>
       rw[hk] at e
       simp only at e
       obtain⟨hk3,rfl⟩:=qlr hk
       obtain⟨t,q,rfl,ts1,ts2⟩:=qgD hm
       split at e
       ·simp only[Option.some.injEq] at e; exact absurd e qcm
       ·rename_i hnone
        have hnone:h k=none:=by cases hq:h k with
         | none=>rfl
         | some x=>rw[hq] at hnone; exact absurd rfl hnone
        rw[List.tail_cons] at e
        have hq : ∀ t∈q,TkG t:=fun x hx=>hg x (qcS k1 x (List.mem_cons_of_mem _ hx))
        cases hb:qaR 12 2 f fi fb n 1 q with
        | none=>rw[hb] at e; cases e
        | some y=>
         rw[hb] at e
         cases y with
         | er i c=>cases e
         | ok b r2=>
          simp only at e
          obtain⟨_,b1,b2,lb,b3,b4,b5,b6⟩:=(qlj f fi fb n).2.1 1 q b r2 hq hb
          obtain⟨l,l1,l2,l3,l4,l5,l6,l7⟩:=qls f fi fb n _ r2 h' r (fun x hx=>hq x (qcS b3 x hx)) (fun j=>by
           show qcV (if j=k then some b else h j)
           split
           ·intro x hx; cases hx; exact⟨b1,by omega⟩
           ·exact hh j) (fun j hj=>by
           show (if j=k then some b else h j)=none
           rw[if_neg (by omega)]
           exact h3 j hj) e
          have hchunk:Hx ((onS::qbS k::bs [123]::lb)++[bs [125]]) ts r2:=by
           have:=qbp k1 (qbp (hx1 (q:=q) ts1 ts2) b3)
           exact this
          refine⟨(onS::qbS k::bs [123]::lb)++[bs [125]]++l,qbp hchunk l1,?_,qrN (qfF (by decide)) l3,l4,l5,l6,?_⟩
          ·refine qkc (qcq (by decide) (qcq (qpp k) (qcq (by decide) ?_))) (qfF (by decide)) l2
           exact qf4 b4 (by decide)
          ·rw[qtR hk3 hnone] at l7
           have hred:Red ((onS::qbS k::bs [123]::lb)++[bs [125]]) (qeH k (some b)):=by
            rw[qpn]
            exact qbV (.keep (.keep (.keep b6))) (qc9 _)
           have hle:=qpN hred false
           rw[qfm _ l,qlq,List.length_append]
           omega
theorem qvR : ∀ (l:List ByteArray) (n i:Nat) (b:List UInt8) (r:List Tk),Hx l (qlm 12 2 6 n i b) r->r≠[] -> ∀ u∈l,u.size≠0
 | [],n,i,b,r,_,_,u,hu=>by cases hu
 | x::l,0,i,b,r,h,hr,u,hu=>by
  obtain⟨t,q,e,_,_,h⟩:=h
  simp only[qlm,List.cons.injEq] at e
  rw[<- e.2] at h
  cases l with
  | nil=>exact absurd h.symm hr
  | cons y l=>obtain⟨_,_,e2,_⟩:=h; cases e2
 | x::l,n+1,i,b,r,h,hr,u,hu=>by
  rw[qlm] at h
  split at h
  ·obtain⟨t,q,e,_,_,h⟩:=h
   simp only[List.cons.injEq] at e
   rw[<- e.2] at h
   cases l with
   | nil=>exact absurd h.symm hr
   | cons y l=>obtain⟨_,_,e2,_⟩:=h; cases e2
  ·rename_i hc
   obtain⟨t,q,e,g1,_,h⟩:=h
   simp only[List.cons.injEq] at e
   rw[<- e.2] at h
   rw[<- e.1] at g1
   rcases List.mem_cons.1 hu with rfl | hu
   ·intro h0
    apply hc
    right
    have:=congrArg ByteArray.size g1
    simp only[qal] at this
    omega
   ·exact qvR l n _ _ r h hr u hu
theorem qjq {f fi fb:Bool} {s:ByteArray} {h:Nat->Option Ss} {r:List Tk} (hp:qbU f fi fb s = .ok h r):(∀ k,qcV (h k))/\(∀ k,3<=k->h k=none)/\(qah false (qaJ h)).length<=s.size/\s.size<=2000:=by
 by_cases hbig:2000<s.size
 ·rw[qbU,if_pos hbig] at hp; cases hp
 ·have hv:=qc5 (f:=f) (fi:=fi) (fb:=fb) hbig
  rw[hp] at hv
  obtain⟨l,l1,l2,_,l4,l5,l6,l7⟩:=qls f fi fb _ _ _ _ _ (qn1 s _ 0) (fun k x hx=>by cases hx) (fun k _=>rfl) hv
  refine⟨l4,l5,?_,by omega⟩
  have e:qic s=qlm 12 2 6 (s.size+1) 0 (byl s):=by
   show qb0 12 2 6 s (s.size+1) 0=_
   rw[qkk,List.drop_zero]
  have l1:Hx l (qic s) r:=l1
  rw[e] at l1
  have hr:r≠[]:=fun h0=>by rw[h0] at l6; cases l6
  have:=qn4 l _ _ _ _ false l1 l2 (qvR l _ _ _ _ l1 hr) (fun h=>by cases h)
  rw[qav] at this
  have h0:(qah false (qaJ fun _=>none)).length=0:=rfl
  omega
theorem qpq {f fi fb:Bool} {s:ByteArray} (hs : ¬ 2000<s.size) {y:Rz (Nat->Option Ss)} (h : ∃ n,qcw 12 2 4 f fi fb n (fun _=>none) (qic s)=some y):qbU f fi fb s=y:=by
 obtain⟨n,h⟩:=h
 have h1:=qgH h (Nat.le_max_left n (10*(qic s).length+10))
 have h2:=qgH (qc5 (f:=f) (fi:=fi) (fb:=fb) hs) (Nat.le_max_right n (10*(qic s).length+10))
 rw[h1] at h2
 exact (Option.some.inj h2).symm
theorem qnA {h:Nat->Option Ss} (hg : ∀ k,qcV (h k)) : ∃ e,Hx (qaJ h) (qic (bs (qah false (qaJ h)))) [⟨e,⟨#[]⟩,0⟩]:=by
 have hcl:=qsX hg
 obtain⟨l,hl,hm⟩ : ∃ l:List (List UInt8 × ByteArray),OkG l/\l.map (·.2)=qaJ h/\qfw l=qah false (qaJ h):=by
  have key : ∀ (ts:List ByteArray) (p:Bool),Ok2 ts -> ∃ l:List (List UInt8 × ByteArray),OkG l/\l.map (·.2)=ts/\qfw l=qah p ts/\(∀ q,l.head?=some q -> ∃ t,ts.head?=some t/\q=(gap p t,t)):=by
   intro ts
   induction ts with
   | nil=>intro p _; exact⟨[],trivial,rfl,rfl,fun q h=>by cases h⟩
   | cons t ts ih=>
    intro p ho
    obtain⟨l,l1,l2,l3,l4⟩:=ih (qbw p t) ho.2.2
    have hwg:qnS (gap p t):=by
     unfold gap
     split
     ·exact qnT (.inl rfl)
     ·exact qkz
    refine⟨(gap p t,t)::l,⟨hwg,ho.1,fun q hq=>?_,l1⟩,by simp[l2],by simp[qfw,qah,l3],fun q hq=>⟨t,rfl,by cases hq; rfl⟩⟩
    obtain⟨u,hu,rfl⟩:=l4 q hq
    have hadj:=ho.2.1 u hu
    simp only
    by_cases hgap:(qbw p t&&qap qau u)=true
    ·left
     exact⟨32,[],by simp[gap,hgap],.inl rfl⟩
    ·right
     have hgap':(qbw p t&&qap qau u)=false:=by simpa using hgap
     refine⟨by simp[gap,hgap'],?_,hadj⟩
     rw[qpF ho.1 false p]
     exact hgap'
  obtain⟨l,l1,l2,l3,_⟩:=key (qaJ h) false hcl.ok
  exact⟨l,l1,l2,l3⟩
 have:=qm5 12 2 6 hl qkz (.inl rfl) (s:=bs (qah false (qaJ h))) (by rw[qa2,hm.2,List.append_nil])
 rw[hm.1] at this
 exact this
theorem qin {f fi fb:Bool} {h:Nat->Option Ss} (hg : ∀ k,qcV (h k)) (hs:(qah false (qaJ h)).length<=2000) : ∃ r,qbU f fi fb (bs (qah false (qaJ h))) = .ok (fun k=>if k<3 then (h k).map (·.fl f fi fb) else none) r:=by
 obtain⟨e,hx⟩:=qnA hg
 exact⟨_,qpq (by rw[qal]; omega) (rbP hg hx rfl)⟩
end Go.Pm
end SUf
