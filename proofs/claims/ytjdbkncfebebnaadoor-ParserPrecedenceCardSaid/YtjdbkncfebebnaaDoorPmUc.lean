/- The rule language in plain Lean: texts of tokens; tokens left out; how long a source is. No program in sight. The rule language in plain Lean: what the parser makes of expressions is good, no deeper, no longer. No program in sight. The rule language in plain Lean: what the parser makes of statements and programs is good, no deeper, no longer. No program in sight. The rule language in plain Lean: tokens with white space and comments between them. No program in sight. The rule language in plain Lean: what Parse makes of a source is good and no longer; printed, it is read back. No program in sight. -/
import Derived.Test.YtjdbkncfebebnaaDoorPmYh
import Derived.Test.YtjdbkncfebebnaaDoorPmFx
set_option linter.unusedSimpArgs false
set_option linter.unusedVariables false
section SUc
namespace Go.Pm
def TkG (t:Tk):Prop:=t.bad=0->t.s.size≠0->Tg (byl t.s)
theorem qds (p:UInt8->Bool) (l:List UInt8):(l.take (qbc p l)).length=qbc p l:=by rw[List.length_take,Nat.min_eq_left (qdY p l)]
theorem qot (l:List UInt8) (h:(tokL 12 2 6 l).2=0) (h2:(tokL 12 2 6 l).1≠[]):Tg (tokL 12 2 6 l).1:=by
 cases l with
 | nil=>exact absurd rfl h2
 | cons c r=>
  by_cases hlet:qaW c=true
  ·have hw:qat c=true:=by simp[qat,hlet]
   have e:tokL 12 2 6 (c::r)=((c::r).take (qbc qat (c::r)),if 8<qbc qat (c::r)/\bs ((c::r).take (qbc qat (c::r)))∉fieldNames/\bs ((c::r).take (qbc qat (c::r)))∉wordNames then 2 else 0):=by simp only[tokL,hlet,if_true]
   rw[e] at h ⊢
   have hl:=qds qat (c::r)
   have ha:=qhj qat (c::r)
   have e2:(c::r).take (qbc qat (c::r))=c::r.take (qbc qat r):=by simp[qbc,hw]
   simp only at h ⊢
   rw[e2] at h hl ha ⊢
   refine .inl ⟨c,_,rfl,hlet,fun b hb=>ha b (List.mem_cons_of_mem _ hb),fun hbad=>?_⟩
   rw[hl] at hbad
   rw[if_pos hbad] at h
   cases h
  ·by_cases hdig:qam c=true
   ·have e:tokL 12 2 6 (c::r)=((c::r).take (qbc qam (c::r)),if 2147483647<digV ((c::r).take (qbc qam (c::r))) then 6 else 0):=by simp only[tokL,hlet,hdig,if_true,Bool.false_eq_true,if_false]
    rw[e] at h ⊢
    have ha:=qhj qam (c::r)
    have e2:(c::r).take (qbc qam (c::r))=c::r.take (qbc qam r):=by simp[qbc,hdig]
    simp only at h ⊢
    rw[e2] at h ha ⊢
    refine .inr (.inl ⟨c,_,rfl,hdig,fun b hb=>ha b (List.mem_cons_of_mem _ hb),?_⟩)
    split at h
    ·cases h
    ·rename_i hb
     exact Nat.not_lt.1 hb
   ·by_cases hp:bs ((c::r).take 2)∈qdT
    ·have e:tokL 12 2 6 (c::r)=((c::r).take 2,0):=by simp only[tokL,hlet,hdig,if_pos hp,Bool.false_eq_true,if_false]
     rw[e]
     exact .inr (.inr (.inl hp))
    ·by_cases hs:c.toNat∈qiK
     ·have e:tokL 12 2 6 (c::r)=([c],0):=by simp only[tokL,hlet,hdig,if_neg hp,if_pos hs,Bool.false_eq_true,if_false]
      rw[e]
      exact .inr (.inr (.inr ⟨c,rfl,hs⟩))
     ·have e:tokL 12 2 6 (c::r)=([c],12):=by simp only[tokL,hlet,hdig,if_neg hp,if_neg hs,Bool.false_eq_true,if_false]
      rw[e] at h
      cases h
theorem qmD (s:ByteArray) (j:Nat):TkG (tokAt 12 2 6 s j):=by
 intro hb hn
 rw[qdx] at hb hn ⊢
 simp only[qaY] at hb hn ⊢
 exact qot _ hb (fun e=>hn (by rw[e]; rfl))
theorem qou (s:ByteArray) : ∀ n i,∀ t∈qb1 12 2 6 s n i,TkG t
 | 0,i,t,h=>by
  simp only[qb1,List.mem_singleton] at h
  rw[h]
  intro _ h2
  exact absurd rfl h2
 | n+1,i,t,h=>by
  rw[qb1] at h
  split at h
  ·rw[List.mem_singleton.1 h]; exact qmD s _
  ·rcases List.mem_cons.1 h with h | h
   ·rw[h]; exact qmD s _
   ·exact qou s n _ t h
theorem qov : ∀ (l:List ByteArray) (p q:Bool),(qai p l).length<=(qai q l).length+1
 | [],p,q=>by simp[qai]
 | t::l,p,q=>by
  have hg : ∀ p,(gap p t).length<=1:=fun p=>by unfold gap; split<;>simp
  have hp:=hg p
  simp only[qai,List.length_append]
  cases hb:byl t with
  | nil=>
   have e : ∀ q,qby q t=q:=fun q=>by unfold qby; rw[hb]; rfl
   have hs:qal qat t=false:=by rw[qaL,hb]; rfl
   have g0 : ∀ p,gap p t=[]:=fun p=>by simp[gap,hs]
   rw[e,e,g0,g0]
   have:=qov l p q
   simp
   omega
  | cons c r=>
   have e:qby p t=qby q t:=by
    unfold qby
    cases hl:(byl t).getLast? with
    | none=>rw[List.getLast?_eq_none_iff] at hl; rw[hl] at hb; cases hb
    | some c=>rfl
   rw[e]
   omega
inductive Red:List ByteArray->List ByteArray->Prop
 | nil:Red [] []
 | keep {t:ByteArray} {l m:List ByteArray} (h:Red l m):Red (t::l) (t::m)
 | del {t:ByteArray} {l m:List ByteArray} (h0:t.size≠0) (h:Red l m):Red (t::l) m
 | dig {t u:ByteArray} {l m:List ByteArray} (h0:u.size<=t.size) (h1 : ∀ p,qby p u=qby p t) (h2:qal qat u=qal qat t) (h:Red l m):Red (t::l) (u::m)
theorem qc4 : ∀ l,Red l l
 | [] => .nil
 | t::l => .keep (qc4 l)
theorem qbT {a a' b b':List ByteArray} (h:Red a a') (h2:Red b b'):Red (a++b) (a'++b'):=by
 induction h with
 | nil=>exact h2
 | keep _ ih=>exact .keep ih
 | del h0 _ ih=>exact .del h0 ih
 | dig h0 h1 h2 _ ih=>exact .dig h0 h1 h2 ih
theorem qow {a b:List ByteArray} (h:Red a b) : ∀ {c},Red b c->Red a c:=by
 induction h with
 | nil=>intro c h; exact h
 | keep _ ih=>
  intro c h
  cases h with
  | keep h=>exact .keep (ih h)
  | del h0 h=>exact .del h0 (ih h)
  | dig h0 h1 h2 h=>exact .dig h0 h1 h2 (ih h)
 | del h0 _ ih=>intro c h; exact .del h0 (ih h)
 | dig h0 h1 h2 _ ih=>
  intro c h
  cases h with
  | keep h=>exact .dig h0 h1 h2 (ih h)
  | del h0' h=>exact .del (by omega) (ih h)
  | dig h0' h1' h2' h=>exact .dig (by omega) (fun p=>(h1' p).trans (h1 p)) (h2'.trans h2) (ih h)
theorem qqb {l m:List ByteArray} (h:Red l m) : ∀ p,(qai p m).length<=(qai p l).length:=by
 induction h with
 | nil=>intro p; exact Nat.le_refl _
 | keep _ ih=>
  intro p
  simp only[qai,List.length_append]
  have:=ih (qby p ‹_›)
  omega
 | @del t l m h0 _ ih=>
  intro p
  simp only[qai,List.length_append]
  have h1:=ih p
  have h2:=qov l p (qby p t)
  have h3:=qau t
  omega
 | @dig t u l m h0 h1 h2 _ ih=>
  intro p
  simp only[qai,List.length_append]
  have h3:=ih (qby p t)
  have e1:gap p u=gap p t:=by simp[gap,h2]
  have e2:=qau t
  have e3:=qau u
  rw[h1 p,e1]
  omega
def NI:List ByteArray->Prop
 | t::u::r=>(qal qam t=true->qal qat u=false)/\NI (u::r)
 | _=>True
theorem qmE : ∀ {a b:List ByteArray},NI a->NI b->(∀ t u,a.getLast?=some t->b.head?=some u->qal qam t=true->qal qat u=false)->NI (a++b)
 | [],b,_,hb,_=>hb
 | [t],[],_,_,_=>trivial
 | [t],u::b,_,hb,hj=>⟨hj t u rfl rfl,hb⟩
 | t::u::a,b,ha,hb,hj=>⟨ha.1,qmE (a:=u::a) ha.2 hb (fun x y hx hy=>hj x y (by rw[List.getLast?_cons_cons]; exact hx) hy)⟩
theorem qg1 (t:ByteArray):NI [t]:=trivial
theorem qco {t:ByteArray} {b:List ByteArray} (h:qal qam t=false) (hb:NI b):NI (t::b):=by
 cases b with
 | nil=>trivial
 | cons u b=>exact⟨fun h'=>(by rw[h] at h'; cases h'),hb⟩
theorem qiP {t:ByteArray} {a b:List ByteArray} (ha:NI a) (h:qal qam t=false) (h2:qal qat t=false) (hb:NI b):NI (a++t::b):=
 qmE ha (qco h hb) (fun x y _ hy _=>by cases hy; exact h2)
theorem qfZ {t:ByteArray} {a:List ByteArray} (ha:NI a) (h2:qal qat t=false):NI (a++[t]):=
 qmE ha trivial (fun x y _ hy _=>by cases hy; exact h2)
theorem qcN : ∀ {l:List ByteArray} {ts r:List Tk},Hx l ts r -> ∀ t∈r,t∈ts
 | [],ts,r,h,t,ht=>by cases h; exact ht
 | x::l,ts,r,h,t,ht=>by
  obtain⟨u,q,rfl,_,_,h⟩:=h
  exact List.mem_cons_of_mem _ (qcN h t ht)
theorem qox : ∀ (l:List ByteArray) (n i:Nat) (b:List UInt8) (r:List Tk) (p:Bool),Hx l (qlq 12 2 6 n i b) r->NI l->(∀ u∈l,u.size≠0) ->
  (p=true -> ∀ u,l.head?=some u->qal qat u=true->0<qa7 false b)->(qai p l).length<=b.length
 | [],n,i,b,r,p,_,_,_,_=>by simp[qai]
 | u::l,n,i,b,r,p,hx,hn,hz,hp=>by
  have hu:=hz u (List.mem_cons_self ..)
  cases n with
  | zero=>
   obtain⟨t,q,e,h1,_⟩:=hx
   simp only[qlq,List.cons.injEq] at e
   rw[<- e.1] at h1
   exact absurd (by rw[<- h1]; rfl) hu
  | succ n=>
   rw[qlq] at hx
   generalize hb':b.drop (qa7 false b)=b' at hx
   have hlb:b'.length=b.length-qa7 false b:=by rw[<- hb',List.length_drop]
   have hsk:=qgr b false
   split at hx
   ·rename_i hc
    obtain⟨t,q,e,h1,h2,_⟩:=hx
    simp only[List.cons.injEq] at e
    rw[<- e.1] at h1 h2
    simp only at h1 h2
    rcases hc with hc | hc
    ·exact absurd h2 hc
    ·exact absurd (by rw[<- h1,qao]; exact hc) hu
   ·rename_i hc
    obtain⟨t,q,e,h1,h2,h3⟩:=hx
    simp only[List.cons.injEq] at e
    rw[<- e.1] at h1 h2
    rw[<- e.2] at h3
    simp only at h1 h2
    have hw:(tokL 12 2 6 b').1≠[]:=fun e0=>hu (by rw[<- h1,e0]; rfl)
    have htg:=qot b' h2 hw
    have hbyl:byl u=(tokL 12 2 6 b').1:=by rw[<- h1,qaY]
    have hwl:(tokL 12 2 6 b').1.length<=b'.length:=by
     cases b' with
     | nil=>simp[tokL]
     | cons c r=>
      simp only[tokL]
      split
      ·rw[qds]; exact qdY _ _
      split
      ·rw[qds]; exact qdY _ _
      split
      ·simp only[List.length_take]; omega
      split<;>simp
    have ih:=qox l n _ _ r (qby p u) h3 (by
     cases l with
     | nil=>trivial
     | cons v l=>exact hn.2) (fun v hv=>hz v (List.mem_cons_of_mem _ hv)) (by
     intro hpe v hv hsv
     refine Nat.pos_of_ne_zero (fun h0=>?_)
     have hnd:qal qam u=false:=by
      cases hd:qal qam u with
      | false=>rfl
      | true=>
       cases l with
       | nil=>cases hv
       | cons v' l=>
        cases hv
        rw[hn.1 hd] at hsv
        cases hsv
     have hnext : ∃ c q,b'.drop (tokL 12 2 6 b').1.length=c::q/\qat c=true:=by
      cases l with
      | nil=>cases hv
      | cons v' l=>
       cases hv
       obtain⟨t2,q2,e2,g1,g2,_⟩:=h3
       cases n with
       | zero=>
        simp only[qlq,List.cons.injEq] at e2
        rw[<- e2.1] at g1
        have g3:v=⟨#[]⟩:=g1.symm
        rw[g3,qaL] at hsv
        exact absurd hsv (by decide)
       | succ n=>
        rw[qlq,h0,List.drop_zero] at e2
        have g3:v=bs (tokL 12 2 6 (b'.drop (tokL 12 2 6 b').1.length)).1:=by
         rw[<- g1]
         split at e2<;>(simp only[List.cons.injEq] at e2; rw[<- e2.1])
        rw[g3,qaL,qaY] at hsv
        cases hdr:b'.drop (tokL 12 2 6 b').1.length with
        | nil=>rw[hdr] at hsv; simp[tokL] at hsv
        | cons c q=>
         refine⟨c,q,rfl,?_⟩
         rw[hdr] at hsv
         have hh:(tokL 12 2 6 (c::q)).1.head?=some c:=by
          simp only[tokL]
          split
          ·rename_i hl; simp[qbc,qat,hl]
          split
          ·rename_i hl; simp[qbc,hl]
          split
          ·simp
          split<;>rfl
         rw[hh] at hsv
         exact hsv
     obtain⟨c,q,hcq,hcw⟩:=hnext
     cases b' with
     | nil=>simp at hcq
     | cons d rr=>
      by_cases hlet:qaW d=true
      ·have e:(tokL 12 2 6 (d::rr)).1=(d::rr).take (qbc qat (d::rr)):=by simp only[tokL,hlet,if_true]
       rw[e,qds] at hcq
       have key : ∀ (m:List UInt8) c q,m.drop (qbc qat m)=c::q->qat c=false:=by
        intro m
        induction m with
        | nil=>intro c q h; simp at h
        | cons x m ih=>
         intro c q h
         by_cases hx:qat x=true
         ·simp only[qbc,hx,if_true,List.drop_succ_cons] at h; exact ih c q h
         ·simp only[qbc,hx,if_false,List.drop_zero,Bool.false_eq_true] at h
          cases h
          simpa using hx
       rw[key _ c q hcq] at hcw
       cases hcw
      ·by_cases hdig:qam d=true
       ·have e:(tokL 12 2 6 (d::rr)).1=(d::rr).take (qbc qam (d::rr)):=by simp only[tokL,hlet,hdig,if_true,Bool.false_eq_true,if_false]
        rw[qaL,hbyl,e] at hnd
        simp[qbc,hdig] at hnd
       ·have hend:qby p u=false:=by
         rw[<- h1]
         apply qhY
         rcases htg with ⟨c1,r1,e1,hc1,_⟩ | ⟨c1,r1,e1,hc1,_⟩ | h | h
         ·exfalso
          have:(tokL 12 2 6 (d::rr)).1.head?=some d:=by
           simp only[tokL,hlet,hdig,Bool.false_eq_true,if_false]
           split
           ·simp
           split<;>rfl
          rw[e1] at this
          cases this
          exact hlet hc1
         ·exfalso
          have:(tokL 12 2 6 (d::rr)).1.head?=some d:=by
           simp only[tokL,hlet,hdig,Bool.false_eq_true,if_false]
           split
           ·simp
           split<;>rfl
          rw[e1] at this
          cases this
          exact hdig hc1
         ·exact .inl h
         ·exact .inr h
        rw[hend] at hpe
        cases hpe)
    have hgap:(gap p u).length<=qa7 false b:=by
     unfold gap
     split
     ·rename_i hg
      rw[Bool.and_eq_true] at hg
      have:=hp hg.1 u rfl hg.2
      simp
      omega
     ·simp
    simp only[qai,List.length_append]
    rw[hbyl]
    rw[List.length_drop] at ih
    omega
end Go.Pm
end SUc
section SUd
namespace Go.Pm
theorem qjS (e:E) (q:Nat) (hq:q<=8):e.tx false q=qbq (decide (e.lev<q)) (e.tx false 1):=by
 have h8 : ¬ 8<q:=by omega
 cases e with
 | un f neg e=>cases neg<;>simp[E.tx,E.lev,qcM,qbq]
 | bin f o a b=>
  have h1 : ¬ o.prec<1:=by cases o<;>simp[Bop.prec]
  by_cases h2:o.prec<q<;>simp[E.tx,E.lev,qbq,h1,h2]
 | _=>simp[E.tx,E.lev,qbq,h8]
theorem qgA (e:E) (q:Nat) (hq:q<=8):e.nest false q=e.nest false 1+(if e.lev<q then 1 else 0):=by
 have h8 : ¬ 8<q:=by omega
 cases e with
 | un f neg e=>cases neg<;>simp[E.nest,E.lev,qcM]
 | bin f o a b=>
  have h1 : ¬ o.prec<1:=by cases o<;>simp[Bop.prec]
  by_cases h2:o.prec<q<;>simp[E.nest,E.lev,h1,h2]
 | _=>simp[E.nest,E.lev,h8]
theorem qhS {l m:List ByteArray} {b c:Bool} (h:Red l (qbq b m)) (hbc:c=true->b=true):Red l (qbq c m):=by
 cases c with
 | true=>rw[hbc rfl] at h; exact h
 | false=>
  cases b with
  | false=>exact h
  | true=>
   refine qow h (.del (by decide) ?_)
   have:=qbT (qc4 m) (.del (t:=bs [41]) (by decide) .nil)
   rw[List.append_nil] at this
   exact this
def RE (e:E) (q lv:Nat) (ts r:List Tk):Prop:=e.good/\lv+e.nest false q<=20 /\ ∃ l,l≠[]/\Hx l ts r/\NI l/\Red l (e.tx false q)
theorem qoP {e:E} {q q' lv:Nat} {ts r:List Tk} (h:RE e q lv ts r) (hq:q'<=q) (h8:q<=8):RE e q' lv ts r:=by
 obtain⟨h1,h2,l,h3,h4,h5,h6⟩:=h
 refine⟨h1,?_,l,h3,h4,h5,?_⟩
 ·rw[qgA e q h8] at h2
  rw[qgA e q' (by omega)]
  by_cases hl:e.lev<q'
  ·rw[if_pos hl]; rw[if_pos (by omega)] at h2; exact h2
  ·rw[if_neg hl]; omega
 ·rw[qjS e q h8] at h6
  rw[qjS e q' (by omega)]
  exact qhS h6 (fun h=>by simp only[decide_eq_true_eq] at *; omega)
theorem qgB {ts:List Tk} {s:ByteArray} (h:nx ts=some s) : ∃ t r,ts=t::r/\t.s=s/\t.bad=0:=by
 cases ts with
 | nil=>cases h
 | cons t r=>
  simp only[nx] at h
  split at h
  ·rename_i hb; cases h; exact⟨t,r,rfl,rfl,hb⟩
  ·cases h
theorem qck {α : Type} {c:Nat} {ts:List Tk} {a : α} {r:List Tk}:failP c ts ≠ .ok a r:=by
 cases ts<;>simp[failP]
theorem qdc {x:ByteArray} {ts r:List Tk} {u:Unit} (h:qas 12 x ts = .ok u r):Hx [x] ts r:=by
 cases ts with
 | nil=>exact absurd (show failP 12 [] = .ok u r from h) qck
 | cons t q=>
  simp only[qas] at h
  split at h
  ·rename_i hc; cases h; exact⟨t,_,rfl,hc.2,hc.1,rfl⟩
  ·exact absurd h qck
theorem qjT {x:ByteArray} {lv:Nat} {ts r:List Tk} {u:Unit} (h:qct 12 2 x lv ts = .ok u r):Hx [x] ts r/\lv<=20:=by
 unfold qct at h
 split at h
 ·exact absurd h qck
 ·rename_i hc
  have hx:=qdc h
  refine⟨hx,Nat.not_lt.1 (fun hl=>hc ⟨?_,hl⟩)⟩
  obtain⟨t,q,e,h1,h2,_⟩:=hx
  rw[e,nx,if_pos h2,h1]
theorem qoQ {p:Nat} {s:ByteArray} {o:Bop} (h:qjK p s=some o):o.prec=p/\o.str=s:=by
 unfold qjK at h
 have h2:=List.find?_some h
 have h3:=List.mem_of_find?_eq_some h
 refine⟨?_,by simpa using h2⟩
 split at h3<;>simp at h3<;>(try rcases h3 with h3 | h3 | h3 | h3 | h3 | h3)<;>(try rcases h3 with h3 | h3)<;>subst_vars<;>rfl
theorem qrJ (o:Bop):qal qam o.str=false/\qal qat o.str=false:=by cases o<;>decide
theorem quX (b:Bool):qal qam (ustr b)=false/\qal qat (ustr b)=false:=by cases b<;>decide
theorem qk0 {s:ByteArray} (h:s∈fieldNames):qal qam s=false:=by
 simp only[fieldNames,List.mem_cons,List.not_mem_nil,or_false] at h
 rcases h with h | h | h | h | h | h | h | h<;>rw[h]<;>decide
theorem qgC {p:UInt8->Bool} {s:ByteArray} (h:qal p s=true):s.size≠0:=by
 rw[qaL] at h
 intro h0
 have:byl s=[]:=List.eq_nil_of_length_eq_zero (by rw[qau,h0])
 rw[this] at h
 cases h
theorem qjU : ∀ (j n k:Nat),n<10 ^ (k+1)->(qis j n).length<=k+1
 | 0,n,k,_=>by simp[qis]
 | j+1,n,k,h=>by
  simp only[qis]
  split
  ·simp
  ·rename_i h10
   cases k with
   | zero=>simp at h; omega
   | succ k=>
    have:=qjU j (n / 10) k (by rw[Nat.pow_succ] at h; omega)
    rw[List.length_append]
    simp
    omega
theorem qsF (l:List UInt8) (h : ∀ b∈l,qam b=true):digV l<10 ^ l.length:=by
 have key : ∀ (m:List UInt8) (a:Nat),(∀ b∈m,qam b=true)->m.foldl (fun v c=>10*v+(c.toNat-48)) a<(a+1)*10 ^ m.length:=by
  intro m
  induction m with
  | nil=>intro a _; simp
  | cons c m ih=>
   intro a hm
   have hc:=hm c (List.mem_cons_self ..)
   simp only[qam,Bool.and_eq_true,decide_eq_true_eq] at hc
   have:=ih (10*a+(c.toNat-48)) (fun b hb=>hm b (List.mem_cons_of_mem _ hb))
   simp only[List.foldl_cons,List.length_cons]
   refine Nat.lt_of_lt_of_le this ?_
   rw[Nat.pow_succ,Nat.mul_comm (10 ^ m.length),<- Nat.mul_assoc]
   exact Nat.mul_le_mul_right _ (by omega)
 have:=key l 0 h
 simpa [digV] using this
theorem qsG {s:ByteArray} (hd:qal qam s=true) (hg:Tg (byl s)):digV s.toList<=2147483647/\Red [s] [bs (decB (digV s.toList))]:=by
 rw[ByteArray.toList_eq]
 have hall:(∀ b∈byl s,qam b=true)/\digV (byl s)<=2147483647 /\ ∃ c r,byl s=c::r:=by
  rw[qaL] at hd
  rcases hg with ⟨c,r,e,hc,_⟩ | ⟨c,r,e,hc,hr,hv⟩ | h | ⟨c,e,hc⟩
  ·rw[e] at hd
   exfalso
   simp only[List.head?_cons,qam,qaW,Bool.and_eq_true,decide_eq_true_eq] at hd hc
   omega
  ·refine⟨fun b hb=>?_,hv,c,r,e⟩
   rw[e] at hb
   rcases List.mem_cons.1 hb with rfl | hb
   ·exact hc
   ·exact hr b hb
  ·exfalso
   rcases pair_cases h with e | e | e | e | e | e<;>rw[e] at hd<;>revert hd<;>decide
  ·exfalso
   rw[e] at hd
   rcases qed hc with rfl | rfl | rfl | rfl | rfl | rfl | rfl | rfl | rfl | rfl | rfl | rfl | rfl | rfl | rfl | rfl<;>revert hd<;>decide
 obtain⟨h1,h2,c,r,e⟩:=hall
 refine⟨h2,?_⟩
 obtain⟨d1,d2,c',r',d3⟩:=qeR (n:=digV (byl s)) (by omega)
 have endW : ∀ (w:List UInt8),(∃ c r,w=c::r)->(∀ b∈w,qam b=true) -> ∀ p,qby p (bs w)=true:=fun w ⟨c,r,hw⟩ hb p=>by
  unfold qby
  rw[qaY]
  cases hl:w.getLast? with
  | none=>rw[List.getLast?_eq_none_iff,hw] at hl; cases hl
  | some x=>exact qhr (hb x (List.mem_of_getLast? hl))
 have startW : ∀ (w:List UInt8),(∃ c r,w=c::r)->(∀ b∈w,qam b=true)->qal qat (bs w)=true:=fun w ⟨c,r,hw⟩ hb=>by
  rw[qaL,qaY,hw]
  exact qhr (hb c (by rw[hw]; exact List.mem_cons_self ..))
 have es:s=bs (byl s):=(qcS s).symm
 refine .dig ?_ (fun p=>?_) ?_ .nil
 ·rw[qao]
  have hlt:=qsF (byl s) h1
  have hl:(byl s).length=r.length+1:=by rw[e]; rfl
  rw[hl] at hlt
  have:=qjU 20 (digV (byl s)) r.length hlt
  rw[<- qau,hl]
  exact this
 ·rw[endW _ ⟨c',r',d3⟩ d2,es,endW _ ⟨c,r,e⟩ h1]
 ·rw[startW _ ⟨c',r',d3⟩ d2,es,startW _ ⟨c,r,e⟩ h1]
theorem qk1 (f:Bool) : ∀ n:Nat,
  (∀ prec lv ts e r,(∀ t∈ts,TkG t)->1<=prec->prec<=8->lv<=20->qak 12 2 f n prec lv ts=some (.ok e r)->RE e prec lv ts r) /\
  (∀ prec lv e ts e2 r2 ts0,(∀ t∈ts,TkG t)->1<=prec->prec<8->lv<=20->RE e (if prec=4 then 5 else prec) lv ts0 ts->qb2 12 2 f n prec lv e ts=some (.ok e2 r2)->RE e2 prec lv ts0 r2) /\
  (∀ lv ts e r,(∀ t∈ts,TkG t)->lv<=20->qbb 12 2 f n lv ts=some (.ok e r)->e.good/\lv+(e.nest false 1+1)<=20 /\ ∃ l,Hx (bs [91]::(l++[bs [93]])) ts r/\NI l/\Red l (e.tx false 1))
 | 0=>⟨fun p lv ts e r _ _ _ _ h=>by simp[qak] at h,fun p lv e ts e2 r2 ts0 _ _ _ _ _ h=>by simp[qb2] at h,fun lv ts e r _ _ h=>by simp[qbb] at h⟩
 | n+1=>by
  obtain⟨h1,h2,h3⟩:=qk1 f n
  refine⟨fun prec lv ts e r hg hp hp8 hlv h=>?_,fun prec lv e ts e2 r2 ts0 hg hp hp8 hlv he h=>?_,fun lv ts e r hg hlv h=>?_⟩
  ·rw[qak] at h
   split at h
   ·rename_i hc
    cases ho:qct 12 2 (ustr (prec==7)) (lv+1) ts with
    | er i c=>rw[ho] at h; cases h
    | ok u r1=>
     rw[ho] at h
     simp only at h
     obtain⟨o1,o2⟩:=qjT ho
     cases hx:qak 12 2 f n prec (lv+1) r1 with
     | none=>rw[hx] at h; cases h
     | some y=>
      rw[hx] at h
      cases y with
      | er i c=>cases h
      | ok e1 r2=>
       simp only[Option.some.injEq,Rz.ok.injEq] at h
       obtain⟨rfl,rfl⟩:=h
       obtain⟨g1,g2,l,g3,g4,g5,g6⟩:=h1 prec (lv+1) r1 e1 r2 (fun t ht=>hg t (qcN o1 t ht)) hp hp8 o2 hx
       have hu:qcM (prec==7)=prec:=by
        rcases hc with ⟨rfl,_⟩ | ⟨rfl,_⟩<;>rfl
       refine⟨g1,?_,ustr (prec==7)::l,by simp,?_,qco (quX _).1 g5,?_⟩
       ·simp only[E.nest,hu,Bool.false_or,Nat.lt_irrefl,decide_false]
        simp
        omega
       ·obtain⟨t,q,e,a1,a2,a3⟩:=o1
        exact⟨t,q,e,a1,a2,by rw[show q=r1 from a3]; exact g4⟩
       ·simp only[E.tx,hu,Bool.false_or,Nat.lt_irrefl,decide_false]
        exact .keep g6
   split at h
   ·rename_i hp7
    cases hx:qak 12 2 f n (prec+1) lv ts with
    | none=>rw[hx] at h; cases h
    | some y=>
     rw[hx] at h
     cases y with
     | er i c=>cases h
     | ok e1 r1=>
      simp only at h
      have g:=h1 (prec+1) lv ts e1 r1 hg (by omega) (by omega) hlv hx
      have hsub : ∀ t∈r1,TkG t:=fun t ht=>by
       obtain⟨_,_,l,_,q,_⟩:=g
       exact hg t (qcN q t ht)
      refine h2 prec lv e1 r1 e r ts hsub hp hp7 hlv ?_ h
      split
      ·rename_i h4; rw[h4] at g; exact g
      ·exact qoP g (by omega) (by omega)
   have hp8':prec=8:=by omega
   subst hp8'
   cases hn:nx ts with
   | none=>rw[hn] at h; simp only[Option.some.injEq] at h; exact absurd h qck
   | some s=>
    rw[hn] at h
    simp only at h
    obtain⟨t,q,rfl,ts1,ts2⟩:=qgB hn
    have htg:=hg t (List.mem_cons_self ..) ts2
    rw[ts1] at htg
    have h1x:Hx [s] (t::q) q:=⟨t,q,rfl,ts1,ts2,rfl⟩
    split at h
    ·rename_i hd
     simp only[Option.some.injEq,Rz.ok.injEq,List.tail_cons] at h
     obtain⟨rfl,rfl⟩:=h
     obtain⟨n1,n2⟩:=qsG hd (htg (qgC hd))
     exact⟨⟨by omega,by omega⟩,by simp only[E.nest]; omega,[s],by simp,h1x,qg1 s,by simp only[E.tx,Int.toNat_natCast]; exact n2⟩
    split at h
    ·rename_i hs
     simp only[Option.some.injEq,Rz.ok.injEq,List.tail_cons] at h
     obtain⟨rfl,rfl⟩:=h
     subst hs
     exact⟨.inr rfl,by simp only[E.nest]; omega,_,by simp,h1x,qg1 _,qc4 _⟩
    split at h
    ·rename_i hs
     simp only[Option.some.injEq,Rz.ok.injEq,List.tail_cons] at h
     obtain⟨rfl,rfl⟩:=h
     subst hs
     exact⟨.inl rfl,by simp only[E.nest]; omega,_,by simp,h1x,qg1 _,qc4 _⟩
    split at h
    ·rename_i hs
     simp only[Option.some.injEq,Rz.ok.injEq,List.tail_cons] at h
     obtain⟨rfl,rfl⟩:=h
     exact⟨hs,by simp only[E.nest]; omega,_,by simp,h1x,qg1 _,qc4 _⟩
    split at h
    ·rename_i hs
     cases hx:qbb 12 2 f n lv q with
     | none=>rw[List.tail_cons,hx] at h; cases h
     | some y=>
      rw[List.tail_cons,hx] at h
      cases y with
      | er i c=>cases h
      | ok e1 r1=>
       simp only[Option.some.injEq,Rz.ok.injEq] at h
       obtain⟨rfl,rfl⟩:=h
       obtain⟨g1,g2,l,g3,g4,g5⟩:=h3 lv q e1 r1 (fun x hx=>hg x (List.mem_cons_of_mem _ hx)) hlv hx
       refine⟨⟨hs,g1⟩,by simp only[E.nest]; omega,s::bs [91]::(l++[bs [93]]),by simp,⟨t,q,rfl,ts1,ts2,g3⟩,qco (qk0 hs) (qco (by decide) (qfZ g4 (by decide))),?_⟩
       simp only[E.tx]
       exact .keep (.keep (qbT g5 (qc4 _)))
    split at h
    ·rename_i hnd _ _ _ hf hs
     simp only[Option.some.injEq,Rz.ok.injEq,List.tail_cons] at h
     obtain⟨rfl,rfl⟩:=h
     exact⟨⟨htg (qgC hs.1),hs.1,hf,hs.2⟩,by simp only[E.nest]; omega,_,by simp,h1x,qg1 _,qc4 _⟩
    cases ho:qct 12 2 (bs [40]) (lv+1) (t::q) with
    | er i c=>rw[ho] at h; cases h
    | ok u r1=>
     rw[ho] at h
     simp only at h
     obtain⟨o1,o2⟩:=qjT ho
     cases hx:qak 12 2 f n 1 (lv+1) r1 with
     | none=>rw[hx] at h; cases h
     | some y=>
      rw[hx] at h
      cases y with
      | er i c=>cases h
      | ok e1 r2=>
       simp only at h
       cases hxp:qas 12 (bs [41]) r2 with
       | er i c=>rw[hxp] at h; cases h
       | ok u2 r3=>
        rw[hxp] at h
        simp only[Option.some.injEq,Rz.ok.injEq] at h
        obtain⟨rfl,rfl⟩:=h
        obtain⟨g1,g2,l,g3,g4,g5,g6⟩:=h1 1 (lv+1) r1 e1 r2 (fun t ht=>hg t (qcN o1 t ht)) (by omega) (by omega) o2 hx
        refine⟨g1,?_,bs [40]::(l++[bs [41]]),by simp,?_,qco (by decide) (qfZ g5 (by decide)),?_⟩
        ·rw[qgA e1 8 (by omega)]
         split<;>omega
        ·exact hx_app (a:=[bs [40]]) |>.2 ⟨r1,o1,hx_app.2 ⟨r2,g4,qdc hxp⟩⟩
        ·rw[qjS e1 8 (by omega)]
         refine qhS (b:=true) ?_ (fun _=>rfl)
         exact .keep (qbT g6 (qc4 _))
  ·rw[qb2] at h
   have hend:ts=ts->RE e prec lv ts0 ts:=fun _=>qoP he (by split<;>omega) (by split<;>omega)
   cases hn:nx ts with
   | none=>
    rw[hn] at h
    simp only at h
    split at h
    ·simp only[Option.some.injEq,Rz.ok.injEq] at h
     obtain⟨rfl,rfl⟩:=h
     exact hend rfl
    ·simp only[Option.some.injEq] at h; exact absurd h qck
   | some s=>
    rw[hn] at h
    simp only at h
    cases hop:qjK prec s with
    | none=>
     rw[hop] at h
     simp only[Option.some.injEq,Rz.ok.injEq] at h
     obtain⟨rfl,rfl⟩:=h
     exact hend rfl
    | some o=>
     rw[hop] at h
     simp only at h
     obtain⟨op1,op2⟩:=qoQ hop
     obtain⟨t,q,rfl,ts1,ts2⟩:=qgB hn
     rw[List.tail_cons] at h
     cases hx:qak 12 2 f n (prec+1) lv q with
     | none=>rw[hx] at h; cases h
     | some y=>
      rw[hx] at h
      cases y with
      | er i c=>cases h
      | ok e' r1=>
       simp only at h
       obtain⟨a1,a2,la,a3,a4,a5,a6⟩:=he
       obtain⟨b1,b2,lb,b3,b4,b5,b6⟩:=h1 (prec+1) lv q e' r1 (fun x hx=>hg x (List.mem_cons_of_mem _ hx)) (by omega) (by omega) hlv hx
       have hleft:o.left=if prec=4 then 5 else prec:=by unfold Bop.left; rw[op1]
       have hb:RE (.bin f o e e') prec lv ts0 r1:=by
        refine⟨⟨a1,b1⟩,?_,la++o.str::lb,by simp,?_,qiP a5 (qrJ o).1 (qrJ o).2 b5,?_⟩
        ·simp only[E.nest,hleft,op1,Bool.false_or,Nat.lt_irrefl,decide_false]
         simp
         omega
        ·exact hx_app.2 ⟨_,a4,⟨t,q,rfl,ts1.trans op2.symm,ts2,b4⟩⟩
        ·simp only[E.tx,hleft,op1,Bool.false_or,Nat.lt_irrefl,decide_false]
         exact qbT a6 (.keep b6)
       split at h
       ·simp only[Option.some.injEq,Rz.ok.injEq] at h
        obtain⟨rfl,rfl⟩:=h
        exact hb
       ·rename_i h4
        have hsub : ∀ t∈r1,TkG t:=fun x hxm=>hg x (List.mem_cons_of_mem _ (qcN b4 x hxm))
        exact h2 prec lv (.bin f o e e') r1 e2 r2 ts0 hsub hp hp8 hlv (by rw[if_neg h4]; exact hb) h
  ·rw[qbb] at h
   cases ho:qct 12 2 (bs [91]) (lv+1) ts with
   | er i c=>rw[ho] at h; cases h
   | ok u r1=>
    rw[ho] at h
    simp only at h
    obtain⟨o1,o2⟩:=qjT ho
    cases hx:qak 12 2 f n 1 (lv+1) r1 with
    | none=>rw[hx] at h; cases h
    | some y=>
     rw[hx] at h
     cases y with
     | er i c=>cases h
     | ok e1 r2=>
      simp only at h
      cases hxp:qas 12 (bs [93]) r2 with
      | er i c=>rw[hxp] at h; cases h
      | ok u2 r3=>
       rw[hxp] at h
       simp only[Option.some.injEq,Rz.ok.injEq] at h
       obtain⟨rfl,rfl⟩:=h
       obtain⟨g1,g2,l,g3,g4,g5,g6⟩:=h1 1 (lv+1) r1 e1 r2 (fun t ht=>hg t (qcN o1 t ht)) (by omega) (by omega) o2 hx
       exact⟨g1,by omega,l,hx_app (a:=[bs [91]]) |>.2 ⟨r1,o1,hx_app.2 ⟨r2,g4,qdc hxp⟩⟩,g5,g6⟩
end Go.Pm
end SUd
section SUe
namespace Go.Pm
theorem qjg : ∀ {a:Ss} (b:Ss),a.good none->(a.app b).tx=a.tx++b.tx
 | .nil,b,_=>rfl
 | .assign _ s e r,b,h=>by simp[Ss.app,Ss.tx,qjg b h.2.2.2]
 | .store _ s x y r,b,h=>by simp[Ss.app,Ss.tx,qjg b h.2.2.2.2]
 | .effect _ x y r,b,h=>by simp[Ss.app,Ss.tx,qjg b h.2.2.2]
 | .stop r,b,h=>by simp[Ss.app,Ss.tx,qjg b h.2]
 | .cond w _ c q r,b,h=>by simp[Ss.app,Ss.tx,qjg b h.2.2.2]
 | .block _ q r,b,h=>by obtain⟨n,hn,_⟩:=h; cases hn
theorem qfl : ∀ {a:Ss} {b:Ss},a.good none->b.good none->(a.app b).good none
 | .nil,b,_,h=>h
 | .assign _ s e r,b,h,hb=>⟨rfl,h.2.1,h.2.2.1,qfl h.2.2.2 hb⟩
 | .store _ s x y r,b,h,hb=>⟨rfl,h.2.1,h.2.2.1,h.2.2.2.1,qfl h.2.2.2.2 hb⟩
 | .effect _ x y r,b,h,hb=>⟨rfl,h.2.1,h.2.2.1,qfl h.2.2.2 hb⟩
 | .stop r,b,h,hb=>⟨rfl,qfl h.2 hb⟩
 | .cond w _ c q r,b,h,hb=>⟨rfl,h.2.1,h.2.2.1,qfl h.2.2.2 hb⟩
 | .block _ q r,b,h,hb=>by obtain⟨n,hn,_⟩:=h; cases hn
theorem qrd (a b:Ss):(a.app b).nest=max a.nest b.nest:=by
 induction a<;>simp_all [Ss.app,Ss.nest,Nat.max_assoc]
def NE (l:List ByteArray):Prop := ∀ t,l.getLast?=some t->qal qam t=false
theorem qfA {l:List ByteArray} {t:ByteArray} (h:qal qam t=false):NE (l++[t]):=fun x hx=>by
 rw[List.getLast?_concat] at hx
 cases hx
 exact h
theorem qke {a b:List ByteArray} (ha:NI a) (he:NE a) (hb:NI b):NI (a++b):=qmE ha hb (fun t u ht _ hd=>by rw[he t ht] at hd; cases hd)
theorem qr0 {a b:List ByteArray} (ha:NE a) (hb:NE b):NE (a++b):=fun t ht=>by
 rw[List.getLast?_append] at ht
 cases hl:b.getLast? with
 | none=>
  rw[hl] at ht
  exact ha t (by simpa using ht)
 | some x=>
  rw[hl] at ht
  simp at ht
  subst ht
  exact hb x hl
theorem qr1:NE []:=fun t h=>by cases h
def RS (b:Ss) (lv:Nat) (ts r:List Tk):Prop:=b.good none/\lv+b.nest<=20 /\ ∃ l,Hx l ts r/\NI l/\NE l/\Red l b.tx
theorem hx1 {t:Tk} {q:List Tk} {s:ByteArray} (h1:t.s=s) (h2:t.bad=0):Hx [s] (t::q) q:=⟨t,q,rfl,h1,h2,rfl⟩
theorem qbs {a b:List ByteArray} {ts m r:List Tk} (h1:Hx a ts m) (h2:Hx b m r):Hx (a++b) ts r:=hx_app.2 ⟨m,h1,h2⟩
theorem qgn {a b:Ss} {ts r:List Tk} (h:qa0 12 a ts = .ok b r):b=a/\Hx [bs [59]] ts r:=by
 unfold qa0 at h
 cases hx:qas 12 (bs [59]) ts with
 | er i c=>rw[hx] at h; cases h
 | ok u q=>rw[hx] at h; cases h; exact⟨rfl,qdc hx⟩
theorem qln (f fi fb:Bool) : ∀ n:Nat,
  (∀ lv ts b r,(∀ t∈ts,TkG t)->lv<=20->qbZ 12 2 f fi fb n lv ts=some (.ok b r)->RS b lv ts r) /\
  (∀ lv ts b r,(∀ t∈ts,TkG t)->qaP 12 2 f fi fb n lv ts=some (.ok b r)->lv<=20/\b.good none/\lv+b.nest<=20 /\ ∃ l,Hx (bs [123]::(l++[bs [125]])) ts r/\NI l/\NE l/\Red l b.tx) /\
  (∀ lv a ts b r ts0,(∀ t∈ts,TkG t)->lv<=20->RS a lv ts0 ts->qbx 12 2 f fi fb n lv a ts=some (.ok b r)->b.good none/\lv+b.nest<=20 /\ ∃ l,Hx (l++[bs [125]]) ts0 r/\NI l/\NE l/\Red l b.tx)
 | 0=>⟨fun lv ts b r _ _ h=>by simp[qbZ] at h,fun lv ts b r _ h=>by simp[qaP] at h,fun lv a ts b r ts0 _ _ _ h=>by simp[qbx] at h⟩
 | n+1=>by
  obtain⟨h1,h2,h3⟩:=qln f fi fb n
  obtain⟨x1,_,x3⟩:=qk1 f n
  refine⟨fun lv ts b r hg hlv h=>?_,fun lv ts b r hg h=>?_,fun lv a ts b r ts0 hg hlv ha h=>?_⟩
  ·rw[qbZ] at h
   cases hn:nx ts with
   | none=>rw[hn] at h; simp only[Option.some.injEq] at h; exact absurd h qck
   | some s=>
    rw[hn] at h
    simp only at h
    obtain⟨t,q,rfl,ts1,ts2⟩:=qgB hn
    have htg:=hg t (List.mem_cons_self ..) ts2
    rw[ts1] at htg
    have hq : ∀ t∈q,TkG t:=fun x hx=>hg x (List.mem_cons_of_mem _ hx)
    have hs1:=hx1 (q:=q) ts1 ts2
    rw[List.tail_cons] at h
    split at h
    ·rename_i hs
     subst hs
     cases hx:qak 12 2 f n 1 lv q with
     | none=>rw[hx] at h; cases h
     | some y=>
      rw[hx] at h
      cases y with
      | er i k=>cases h
      | ok c r1=>
       simp only at h
       obtain⟨c1,c2,lc,c3,c4,c5,c6⟩:=x1 1 lv q c r1 hq (by omega) (by omega) hlv hx
       have hr1 : ∀ t∈r1,TkG t:=fun x hm=>hq x (qcN c4 x hm)
       cases hy:qaP 12 2 f fi fb n (lv+1) r1 with
       | none=>rw[hy] at h; cases h
       | some y=>
        rw[hy] at h
        cases y with
        | er i k=>cases h
        | ok b1 r2=>
         simp only at h
         obtain⟨b0,b1g,b1n,lb,b3,b4,b5,b6⟩:=h2 (lv+1) r1 b1 r2 hr1 hy
         have hr2 : ∀ t∈r2,TkG t:=fun x hm=>hr1 x (qcN b3 x hm)
         have base:Hx (bs [105,102]::(lc++bs [123]::(lb++[bs [125]]))) (t::q) r2:=qbs (a:=[bs [105,102]]) hs1 (qbs c4 b3)
         have ni0:NI (bs [105,102]::(lc++bs [123]::(lb++[bs [125]]))):=qco (by decide) (qiP c5 (by decide) (by decide) (qfZ b4 (by decide)))
         cases hm:nx r2 with
         | none=>rw[hm] at h; simp only[Option.some.injEq] at h; exact absurd h qck
         | some w=>
          rw[hm] at h
          simp only at h
          split at h
          ·rename_i hw
           subst hw
           obtain⟨t2,q2,rfl,t21,t22⟩:=qgB hm
           rw[List.tail_cons] at h
           cases hz:qaP 12 2 f fi fb n (lv+1) q2 with
           | none=>rw[hz] at h; cases h
           | some y=>
            rw[hz] at h
            cases y with
            | er i k=>cases h
            | ok b2 r3=>
             simp only[Option.some.injEq,Rz.ok.injEq] at h
             obtain⟨rfl,rfl⟩:=h
             obtain⟨d0,d1,d2,ld,d3,d4,d5,d6⟩:=h2 (lv+1) q2 b2 r3 (fun x hx=>hr2 x (List.mem_cons_of_mem _ hx)) hz
             refine⟨⟨rfl,c1,⟨1,rfl,b1g,⟨0,rfl,d1,.inr rfl⟩⟩,.inl rfl⟩,by simp only[Ss.nest]; omega,_,qbs base (qbs (hx1 t21 t22) d3),?_,?_,?_⟩
             ·refine qke ni0 ?_ (qke (qg1 _) (fun x hx=>by cases hx; decide) (qco (by decide) (qfZ d4 (by decide))))
              have:bs [105,102]::(lc++bs [123]::(lb++[bs [125]]))=(bs [105,102]::(lc++bs [123]::lb))++[bs [125]]:=by simp
              rw[this]
              exact qfA (by decide)
             ·have : ∀ X:List ByteArray,X++([bs [101,108,115,101]]++bs [123]::(ld++[bs [125]]))=(X++(bs [101,108,115,101]::bs [123]::ld))++[bs [125]]:=fun X=>by simp
              rw[this]
              exact qfA (by decide)
             ·simp only[Ss.tx,List.append_nil,Bool.false_eq_true,if_false]
              rw[show bs [105,102]::(lc++bs [123]::(lb++[bs [125]]))++([bs [101,108,115,101]]++bs [123]::(ld++[bs [125]]))=bs [105,102]::(lc++(bs [123]::(lb++(bs [125]::bs [101,108,115,101]::bs [123]::(ld++[bs [125]]))))) by simp]
              refine .keep (qbT c6 (.keep (qbT b6 (.keep ?_))))
              split
              ·exact .keep (.keep (qbT d6 (.keep .nil)))
              ·rename_i he
               have hb2:b2 = .nil:=by cases b2<;>first | rfl | exact absurd rfl he
               subst hb2
               have hk:=qbT d6 (.del (t:=bs [125]) (by decide) .nil)
               exact .del (by decide) (.del (by decide) hk)
          ·simp only[Option.some.injEq,Rz.ok.injEq] at h
           obtain⟨rfl,rfl⟩:=h
           refine⟨⟨rfl,c1,⟨1,rfl,b1g,⟨0,rfl,.inl rfl,.inr rfl⟩⟩,.inl rfl⟩,by simp only[Ss.nest]; omega,_,base,ni0,?_,?_⟩
           ·have:bs [105,102]::(lc++bs [123]::(lb++[bs [125]]))=(bs [105,102]::(lc++bs [123]::lb))++[bs [125]]:=by simp
            rw[this]
            exact qfA (by decide)
           ·simp only[Ss.tx,qcF,List.append_nil,Bool.false_eq_true,if_false]
            exact .keep (qbT c6 (.keep (qbT b6 (.keep .nil))))
    split at h
    ·rename_i hs
     subst hs
     cases hx:qak 12 2 f n 1 lv q with
     | none=>rw[hx] at h; cases h
     | some y=>
      rw[hx] at h
      cases y with
      | er i k=>cases h
      | ok c r1=>
       simp only at h
       obtain⟨c1,c2,lc,c3,c4,c5,c6⟩:=x1 1 lv q c r1 hq (by omega) (by omega) hlv hx
       have hr1 : ∀ t∈r1,TkG t:=fun x hm=>hq x (qcN c4 x hm)
       cases hy:qaP 12 2 f fi fb n (lv+1) r1 with
       | none=>rw[hy] at h; cases h
       | some y=>
        rw[hy] at h
        cases y with
        | er i k=>cases h
        | ok b1 r2=>
         simp only[Option.some.injEq,Rz.ok.injEq] at h
         obtain⟨rfl,rfl⟩:=h
         obtain⟨b0,b1g,b1n,lb,b3,b4,b5,b6⟩:=h2 (lv+1) r1 b1 r2 hr1 hy
         refine⟨⟨rfl,c1,⟨0,rfl,b1g,.inr rfl⟩,.inl rfl⟩,by simp only[Ss.nest]; omega,_,qbs hs1 (qbs c4 b3),?_,?_,?_⟩
         ·exact qco (by decide) (qiP c5 (by decide) (by decide) (qfZ b4 (by decide)))
         ·have:[bs [119,104,105,108,101]]++(lc++bs [123]::(lb++[bs [125]]))=(bs [119,104,105,108,101]::(lc++bs [123]::lb))++[bs [125]]:=by simp
          rw[this]
          exact qfA (by decide)
         ·simp only[Ss.tx,qcF,List.append_nil,Bool.false_eq_true,if_false,if_true]
          rw[List.singleton_append]
          exact .keep (qbT c6 (.keep (qbT b6 (.keep .nil))))
    split at h
    ·rename_i hs
     subst hs
     cases hx:qak 12 2 f n 1 lv q with
     | none=>rw[hx] at h; cases h
     | some y=>
      rw[hx] at h
      cases y with
      | er i k=>cases h
      | ok c r1=>
       simp only at h
       obtain⟨c1,c2,lc,c3,c4,c5,c6⟩:=x1 1 lv q c r1 hq (by omega) (by omega) hlv hx
       have hr1 : ∀ t∈r1,TkG t:=fun x hm=>hq x (qcN c4 x hm)
       cases hy:qas 12 (bs [44]) r1 with
       | er i k=>rw[hy] at h; cases h
       | ok u r2=>
        rw[hy] at h
        simp only at h
        have k1:=qdc hy
        cases hz:qak 12 2 f n 1 lv r2 with
        | none=>rw[hz] at h; cases h
        | some y=>
         rw[hz] at h
         cases y with
         | er i k=>cases h
         | ok d r3=>
          simp only[Option.some.injEq] at h
          obtain⟨d1,d2,ld,d3,d4,d5,d6⟩:=x1 1 lv r2 d r3 (fun x hm=>hr1 x (qcN k1 x hm)) (by omega) (by omega) hlv hz
          obtain⟨rfl,k2⟩:=qgn h
          refine⟨⟨rfl,c1,d1,.inl rfl⟩,by simp only[Ss.nest]; omega,_,qbs hs1 (qbs c4 (qbs k1 (qbs d4 k2))),?_,?_,?_⟩
          ·exact qco (by decide) (qiP c5 (by decide) (by decide) (qfZ d5 (by decide)))
          ·have:[bs [101,102,102,101,99,116]]++(lc++([bs [44]]++(ld++[bs [59]])))=(bs [101,102,102,101,99,116]::(lc++bs [44]::ld))++[bs [59]]:=by simp
           rw[this]
           exact qfA (by decide)
          ·simp only[Ss.tx]
           simp only[List.cons_append,List.nil_append]
           exact .keep (qbT c6 (.keep (qbT d6 (.keep .nil))))
    split at h
    ·rename_i hs
     subst hs
     simp only[Option.some.injEq] at h
     obtain⟨rfl,k2⟩:=qgn h
     refine⟨⟨rfl,.inl rfl⟩,by simp only[Ss.nest]; omega,_,qbs hs1 k2,qco (by decide) (qg1 _),qfA (l:=[bs [115,116,111,112]]) (by decide),qc4 _⟩
    split at h
    ·rename_i hs
     cases hx:qbb 12 2 f n lv q with
     | none=>rw[hx] at h; cases h
     | some y=>
      rw[hx] at h
      cases y with
      | er i k=>cases h
      | ok c r1=>
       simp only at h
       obtain⟨c1,c2,lc,c4,c5,c6⟩:=x3 lv q c r1 hq hlv hx
       have hr1 : ∀ t∈r1,TkG t:=fun x hm=>hq x (qcN c4 x hm)
       cases hy:qas 12 (bs [61]) r1 with
       | er i k=>rw[hy] at h; cases h
       | ok u r2=>
        rw[hy] at h
        simp only at h
        have k1:=qdc hy
        cases hz:qak 12 2 f n 1 lv r2 with
        | none=>rw[hz] at h; cases h
        | some y=>
         rw[hz] at h
         cases y with
         | er i k=>cases h
         | ok d r3=>
          simp only[Option.some.injEq] at h
          obtain⟨d1,d2,ld,d3,d4,d5,d6⟩:=x1 1 lv r2 d r3 (fun x hm=>hr1 x (qcN k1 x hm)) (by omega) (by omega) hlv hz
          obtain⟨rfl,k2⟩:=qgn h
          refine⟨⟨rfl,hs,c1,d1,.inl rfl⟩,by simp only[Ss.nest]; omega,_,qbs hs1 (qbs c4 (qbs k1 (qbs d4 k2))),?_,?_,?_⟩
          ·refine qco (qk0 hs) ?_
           have:bs [91]::(lc++[bs [93]])++([bs [61]]++(ld++[bs [59]]))=bs [91]::(lc++bs [93]::bs [61]::(ld++[bs [59]])):=by simp
           show NI (bs [91]::(lc++[bs [93]])++([bs [61]]++(ld++[bs [59]])))
           rw[this]
           exact qco (by decide) (qiP c5 (by decide) (by decide) (qco (by decide) (qfZ d5 (by decide))))
          ·have:[s]++(bs [91]::(lc++[bs [93]])++([bs [61]]++(ld++[bs [59]])))=(s::bs [91]::(lc++bs [93]::bs [61]::ld))++[bs [59]]:=by simp
           rw[this]
           exact qfA (by decide)
          ·simp only[Ss.tx]
           have:[s]++(bs [91]::(lc++[bs [93]])++([bs [61]]++(ld++[bs [59]])))=s::bs [91]::(lc++bs [93]::bs [61]::(ld++[bs [59]])):=by simp
           rw[this]
           exact .keep (.keep (qbT c6 (.keep (.keep (qbT d6 (.keep .nil))))))
    split at h
    ·rename_i hf hs
     cases hy:qas 12 (bs [61]) q with
     | er i k=>rw[hy] at h; cases h
     | ok u r2=>
      rw[hy] at h
      simp only at h
      have k1:=qdc hy
      cases hz:qak 12 2 f n 1 lv r2 with
      | none=>rw[hz] at h; cases h
      | some y=>
       rw[hz] at h
       cases y with
       | er i k=>cases h
       | ok d r3=>
        simp only[Option.some.injEq] at h
        obtain⟨d1,d2,ld,d3,d4,d5,d6⟩:=x1 1 lv r2 d r3 (fun x hm=>hq x (qcN k1 x hm)) (by omega) (by omega) hlv hz
        obtain⟨rfl,k2⟩:=qgn h
        refine⟨⟨rfl,⟨htg (qgC hs.1),hs.1,hf,hs.2⟩,d1,.inl rfl⟩,by simp only[Ss.nest]; omega,_,qbs hs1 (qbs k1 (qbs d4 k2)),?_,?_,?_⟩
        ·exact qiP (a:=[s]) (qg1 s) (by decide) (by decide) (qfZ d5 (by decide))
        ·have:[s]++([bs [61]]++(ld++[bs [59]]))=(s::bs [61]::ld)++[bs [59]]:=by simp
         rw[this]
         exact qfA (by decide)
        ·simp only[Ss.tx]
         simp only[List.cons_append,List.nil_append]
         exact .keep (.keep (qbT d6 (.keep .nil)))
    ·simp only[Option.some.injEq] at h; exact absurd h qck
  ·rw[qaP] at h
   cases ho:qct 12 2 (bs [123]) lv ts with
   | er i k=>rw[ho] at h; cases h
   | ok u r1=>
    rw[ho] at h
    simp only at h
    obtain⟨o1,o2⟩:=qjT ho
    obtain⟨g1,g2,l,g3,g4,g5,g6⟩:=h3 lv .nil r1 b r r1 (fun x hm=>hg x (qcN o1 x hm)) o2 ⟨.inl rfl,by simp only[Ss.nest]; omega,[],rfl,trivial,qr1,.nil⟩ h
    exact⟨o2,g1,g2,l,qbs (a:=[bs [123]]) o1 g3,g4,g5,g6⟩
  ·rw[qbx] at h
   cases hn:nx ts with
   | none=>rw[hn] at h; simp only[Option.some.injEq] at h; exact absurd h qck
   | some s=>
    rw[hn] at h
    simp only at h
    obtain⟨t,q,rfl,ts1,ts2⟩:=qgB hn
    obtain⟨a1,a2,la,a3,a4,a5,a6⟩:=ha
    split at h
    ·rename_i hs
     subst hs
     simp only[Option.some.injEq,Rz.ok.injEq,List.tail_cons] at h
     obtain⟨rfl,rfl⟩:=h
     exact⟨a1,a2,la,qbs a3 (hx1 ts1 ts2),a4,a5,a6⟩
    ·cases hx:qbZ 12 2 f fi fb n lv (t::q) with
     | none=>rw[hx] at h; cases h
     | some y=>
      rw[hx] at h
      cases y with
      | er i k=>cases h
      | ok b1 r1=>
       simp only at h
       obtain⟨b1g,b2,lb,b3,b4,b5,b6⟩:=h1 lv (t::q) b1 r1 hg hlv hx
       refine h3 lv (a.app b1) r1 b r ts0 (fun x hm=>hg x (qcN b3 x hm)) hlv ⟨qfl a1 b1g,by rw[qrd]; omega,la++lb,qbs a3 b3,qke a4 a5 b4,qr0 a5 b5,?_⟩ h
       rw[qjg b1 a1]
       exact qbT a6 b6
end Go.Pm
end SUe
section SYk
namespace Go.Pm
def qol (g:List UInt8):Prop := ∀ r,qa7 false (g++r)=g.length+qa7 false r
theorem qkB:qol []:=fun r=>by simp
theorem qom {c:UInt8} (h:c.toNat=32\/c.toNat=9\/c.toNat=10):qol [c]:=fun r=>by
 simp only[List.cons_append,List.nil_append,qa7,List.length_singleton]
 by_cases h10:c.toNat=10
 ·rw[if_pos h10]; omega
 ·rw[if_neg h10,if_pos (by rcases h with h | h | h; exact .inr (.inl h); exact .inr (.inr h); exact absurd h h10)]; omega
theorem qp3 {w:List UInt8} (h:Tg w) (r:List UInt8):qa7 false (w++r)=0:=by
 obtain⟨c,q,hw,h1,h2,h3,h4⟩:=qfL h
 rw[hw]
 simp[qa7,h1,h2,h3,h4]
def qfq:List (List UInt8 × ByteArray)->List UInt8
 | []=>[]
 | (g,t)::r=>g++(byl t++qfq r)
def Sep (t:ByteArray) (g:List UInt8) (u:ByteArray):Prop:=(∃ c q,g=c::q/\(c.toNat=32\/c.toNat=10\/c.toNat=9\/c.toNat=35))\/(g=[]/\(qby false t&&qal qat u)=false/\Adj t u)
def OkG:List (List UInt8 × ByteArray)->Prop
 | []=>True
 | (g,t)::r=>qol g/\Tg (byl t)/\(∀ p,r.head?=some p->Sep t p.1 p.2)/\OkG r
theorem qkC {w:List UInt8} (h:Tg w) {c:UInt8} (hc:c.toNat=32\/c.toNat=10\/c.toNat=9\/c.toNat=35) (r:List UInt8):Fol w (c::r):=by
 have hw:qat c=false:=by
  simp only[qat,qaW,qam,Bool.or_eq_false_iff,Bool.and_eq_false_iff,decide_eq_false_iff_not]
  omega
 have hd:qam c=false:=by
  simp only[qam,Bool.and_eq_false_iff,decide_eq_false_iff_not]
  omega
 obtain⟨a,q,rfl,-⟩:=qfL h
 simp only[Fol]
 split
 ·exact hw
 split
 ·exact hd
 ·intro _ hp
  rcases pair_cases hp with h | h | h | h | h | h<;>simp only[List.cons.injEq,and_true] at h<;>rw[h.2] at hc<;>exact absurd hc (by decide)
theorem qsa (w:List UInt8):Fol w []:=by cases w<;>trivial
theorem qp4 {w:ByteArray} (h:Tg (byl w)) (p q:Bool):qby p w=qby q w:=by
 obtain⟨c,r,hw,-⟩:=qfL h
 unfold qby
 rw[hw]
 cases hl:(c::r).getLast? with
 | none=>simp at hl
 | some b=>rfl
theorem qkD (eS eL eR:Nat) : ∀ (l:List (List UInt8 × ByteArray)) (n i:Nat) (tail:List UInt8),OkG l->(∀ p,l.getLast?=some p->Fol (byl p.2) tail)->l.length<=n ->
  ∃ ts,qlq eS eL eR n i (qfq l++tail)=ts++qlq eS eL eR (n-l.length) (i+(qfq l).length) tail /\ ∀ r,Hx (l.map (·.2)) (ts++r) r
 | [],n,i,tail,_,_,_=>⟨[],by simp[qfq],fun r=>rfl⟩
 | (g,t)::l,0,i,tail,_,_,h=>by simp at h
 | (g,t)::l,n+1,i,tail,ho,hl,h=>by
  obtain⟨hg,ht,ha,ho'⟩:=ho
  have hf:Fol (byl t) (qfq l++tail):=by
   cases l with
   | nil=>exact hl (g,t) rfl
   | cons u us=>
    obtain⟨g',u⟩:=u
    simp only[qfq,List.append_assoc]
    rcases ha (g',u) rfl with ⟨c,q,h1,h2⟩ | ⟨h1,h2,h3⟩
    ·simp only at h1
     rw[h1]
     exact qkC ht h2 _
    ·simp only at h1 h2 h3
     rw[h1]
     have:=qqP (p:=false) ht ho'.2.1 h3 (qfq us++tail)
     rwa [gap,h2] at this
  have hsk:qa7 false (g++(byl t++(qfq l++tail)))=g.length:=by rw[hg,qp3 ht]; omega
  have htk:=qo7 eS eL eR ht hf
  have hne:(byl t).length≠0:=by
   obtain⟨c,w,hw,-⟩:=qfL ht
   rw[hw]; simp
  obtain⟨ts,e1,e2⟩:=qkD eS eL eR l n (i+g.length+t.size) tail ho' (fun u hu=>hl u (by
   cases l with
   | nil=>cases hu
   | cons v vs=>rw[List.getLast?_cons_cons]; exact hu)) (by simpa using h)
  refine⟨⟨i+g.length,t,0⟩::ts,?_,fun r=>⟨⟨i+g.length,t,0⟩,ts++r,rfl,rfl,rfl,e2 r⟩⟩
  simp only[qfq,List.append_assoc,qlq,hsk,List.drop_left,htk]
  rw[if_neg (by
   rintro (h | h)
   ·exact h rfl
   ·exact hne h)]
  rw[qcS,qau,e1]
  simp only[List.cons_append,List.length_append,List.length_cons,qau]
  congr 3<;>omega
theorem qns (eS eL eR:Nat) {l:List (List UInt8 × ByteArray)} {w:List UInt8} (ho:OkG l) (hw:qol w) (hsep:w=[] \/ ∃ c q,w=c::q/\(c.toNat=32\/c.toNat=10\/c.toNat=9\/c.toNat=35)) {s:ByteArray} (hs:byl s=qfq l++w) :
  ∃ e,Hx (l.map (·.2)) (qb1 eS eL eR s (s.size+1) 0) [⟨e,⟨#[]⟩,0⟩]:=by
 have htgs : ∀ p∈l,Tg (byl p.2):=by
  induction l with
  | nil=>intro p hp; cases hp
  | cons q l ih=>
   intro p hp
   obtain⟨g,t⟩:=q
   rcases List.mem_cons.1 hp with rfl | hp
   ·exact ho.2.1
   ·have hl : ∀ (l:List (List UInt8 × ByteArray)),OkG l -> ∀ p∈l,Tg (byl p.2):=fun l=>by
     induction l with
     | nil=>intro _ p hp; cases hp
     | cons q l ih=>intro h p hp; rcases List.mem_cons.1 hp with rfl | hp; exact h.2.1; exact ih h.2.2.2 p hp
    exact hl l ho.2.2.2 p hp
 have hlen:l.length<=(qfq l).length:=by
  clear ho hs
  induction l with
  | nil=>simp
  | cons q l ih=>
   obtain⟨g,t⟩:=q
   have h1:=htgs (g,t) (List.mem_cons_self ..)
   obtain⟨c,w,hw,-⟩:=qfL h1
   have:=ih fun p hp=>htgs p (List.mem_cons_of_mem _ hp)
   simp only[qfq,List.length_append,List.length_cons]
   have h2:1<=(byl t).length:=by simp only at hw; rw[hw]; simp
   omega
 have hsz:s.size=(qfq l).length+w.length:=by rw[<- qau,hs,List.length_append]
 rw[qkm,List.drop_zero,hs]
 obtain⟨ts,e1,e2⟩:=qkD eS eL eR l (s.size+1) 0 w ho (fun p hp=>by
  have ht:=htgs p (List.mem_of_getLast? hp)
  rcases hsep with h | ⟨c,q,h1,h2⟩
  ·rw[h]; exact qsa _
  ·rw[h1]; exact qkC ht h2 _) (by omega)
 rw[e1]
 obtain⟨k,hk⟩ : ∃ k,s.size+1-l.length=k+1:=⟨s.size-l.length,by omega⟩
 have hend : ∀ j,qlq eS eL eR (k+1) j w=[⟨j+w.length,⟨#[]⟩,0⟩]:=fun j=>by
  have h1:qa7 false w=w.length:=by
   have:=hw []
   rw[List.append_nil] at this
   rw[this]; simp[qa7]
  simp only[qlq,h1,List.drop_length,tokL]
  rw[if_pos (.inr rfl)]
  rfl
 rw[hk,hend]
 exact⟨_,e2 _⟩
end Go.Pm
end SYk
section SUf
namespace Go.Pm
theorem qlv (p:Bool) (l:List ByteArray):ql2 p (l++[bs [125]])=false:=by
 rw[ql2,List.foldl_append]
 show qby (List.foldl qby p l) (bs [125])=false
 exact qhY (.inr ⟨125,rfl,by decide⟩)
theorem qpM (k:Nat) (b:Ss):qec k (some b)=(onS::qb6 k::bs [123]::b.tx)++[bs [125]]:=by simp[qec]
theorem qpN (k:Nat) (o:Option Ss) (r:List ByteArray):(qai false (qec k o++r)).length=(qai false (qec k o)).length+(qai false r).length:=by
 cases o with
 | none=>simp[qec,qai]
 | some b=>rw[qdO,qpM,qlv,List.length_append]
theorem qkp (h:Nat->Option Ss):(qai false (qaX h)).length=(qai false (qec 0 (h 0))).length+((qai false (qec 1 (h 1))).length+(qai false (qec 2 (h 2))).length):=by
 rw[qaX,qpN,qpN]
theorem qtU {h:Nat->Option Ss} {k:Nat} {b:Ss} (hk:k<3) (hh:h k=none):(qai false (qaX fun i=>if i=k then some b else h i)).length=(qai false (qaX h)).length+(qai false (qec k (some b))).length:=by
 rw[qkp,qkp]
 have e0 : ∀ j,(qai false (qec j none)).length=0:=fun j=>rfl
 obtain rfl | rfl | rfl:k=0\/k=1\/k=2:=by omega
 ·simp[hh,e0]; omega
 ·simp[hh,e0]; omega
 ·simp[hh,e0]; omega
theorem qlw {w:ByteArray} {k:Nat} (h:qbo w=some k):k<3/\w=qb6 k:=by
 unfold qbo at h
 split at h
 ·cases h; exact⟨by omega,by assumption⟩
 split at h
 ·cases h; exact⟨by omega,by assumption⟩
 split at h
 ·cases h; exact⟨by omega,by assumption⟩
 ·cases h
theorem qpO (k:Nat):qal qam (qb6 k)=false:=by
 unfold qb6
 split<;>decide
theorem qlx (f fi fb:Bool) : ∀ (n:Nat) (h:Nat->Option Ss) (ts:List Tk) (h':Nat->Option Ss) (r:List Tk),(∀ t∈ts,TkG t)->(∀ k,qcR (h k))->(∀ k,3<=k->h k=none)->qcl 12 2 4 f fi fb n h ts=some (.ok h' r) ->
  ∃ l,Hx l ts r/\NI l/\NE l/\(∀ k,qcR (h' k))/\(∀ k,3<=k->h' k=none)/\nx r=some ⟨#[]⟩/\(qai false (qaX h')).length<=(qai false (qaX h)).length+(qai false l).length
 | 0,h,ts,h',r,_,_,_,e=>by simp[qcl] at e
 | n+1,h,ts,h',r,hg,hh,h3,e=>by
  rw[qcl] at e
  cases hn:nx ts with
  | none=>rw[hn] at e; simp only[Option.some.injEq] at e; exact absurd e qck
  | some s=>
   rw[hn] at e
   simp only at e
   split at e
   ·rename_i hs
    simp only[Option.some.injEq,Rz.ok.injEq] at e
    obtain⟨rfl,rfl⟩:=e
    have:s=⟨#[]⟩:=by
     apply qkk
     have:(byl s).length=0:=by rw[qau,hs]
     rw[List.eq_nil_of_length_eq_zero this]
    rw[this] at hn
    exact⟨[],rfl,trivial,qr1,hh,h3,hn,by simp[qai]⟩
   ·cases hy:qas 12 (bs [111,110]) ts with
    | er i k=>rw[hy] at e; cases e
    | ok u r1=>
     rw[hy] at e
     simp only at e
     have k1:=qdc hy
     cases hm:nx r1 with
     | none=>rw[hm] at e; simp only[Option.some.injEq] at e; exact absurd e qck
     | some w=>
      rw[hm] at e
      simp only at e
      cases hk:qbo w with
      | none=>rw[hk] at e; simp only[Option.some.injEq] at e; exact absurd e qck
      | some k=>
       rw[hk] at e
       simp only at e
       obtain⟨hk3,rfl⟩:=qlw hk
       obtain⟨t,q,rfl,ts1,ts2⟩:=qgB hm
       split at e
       ·simp only[Option.some.injEq] at e; exact absurd e qck
       ·rename_i hnone
        have hnone:h k=none:=by cases hq:h k with
         | none=>rfl
         | some x=>rw[hq] at hnone; exact absurd rfl hnone
        rw[List.tail_cons] at e
        have hq : ∀ t∈q,TkG t:=fun x hx=>hg x (qcN k1 x (List.mem_cons_of_mem _ hx))
        cases hb:qaP 12 2 f fi fb n 1 q with
        | none=>rw[hb] at e; cases e
        | some y=>
         rw[hb] at e
         cases y with
         | er i c=>cases e
         | ok b r2=>
          simp only at e
          obtain⟨_,b1,b2,lb,b3,b4,b5,b6⟩:=(qln f fi fb n).2.1 1 q b r2 hq hb
          obtain⟨l,l1,l2,l3,l4,l5,l6,l7⟩:=qlx f fi fb n _ r2 h' r (fun x hx=>hq x (qcN b3 x hx)) (fun j=>by
           show qcR (if j=k then some b else h j)
           split
           ·intro x hx; cases hx; exact⟨b1,by omega⟩
           ·exact hh j) (fun j hj=>by
           show (if j=k then some b else h j)=none
           rw[if_neg (by omega)]
           exact h3 j hj) e
          have hchunk:Hx ((onS::qb6 k::bs [123]::lb)++[bs [125]]) ts r2:=by
           have:=qbs k1 (qbs (hx1 (q:=q) ts1 ts2) b3)
           exact this
          refine⟨(onS::qb6 k::bs [123]::lb)++[bs [125]]++l,qbs hchunk l1,?_,qr0 (qfA (by decide)) l3,l4,l5,l6,?_⟩
          ·refine qke (qco (by decide) (qco (qpO k) (qco (by decide) ?_))) (qfA (by decide)) l2
           exact qfZ b4 (by decide)
          ·rw[qtU hk3 hnone] at l7
           have hred:Red ((onS::qb6 k::bs [123]::lb)++[bs [125]]) (qec k (some b)):=by
            rw[qpM]
            exact qbT (.keep (.keep (.keep b6))) (qc4 _)
           have hle:=qqb hred false
           rw[qdO _ l,qlv,List.length_append]
           omega
theorem qvU : ∀ (l:List ByteArray) (n i:Nat) (b:List UInt8) (r:List Tk),Hx l (qlq 12 2 6 n i b) r->r≠[] -> ∀ u∈l,u.size≠0
 | [],n,i,b,r,_,_,u,hu=>by cases hu
 | x::l,0,i,b,r,h,hr,u,hu=>by
  obtain⟨t,q,e,_,_,h⟩:=h
  simp only[qlq,List.cons.injEq] at e
  rw[<- e.2] at h
  cases l with
  | nil=>exact absurd h.symm hr
  | cons y l=>obtain⟨_,_,e2,_⟩:=h; cases e2
 | x::l,n+1,i,b,r,h,hr,u,hu=>by
  rw[qlq] at h
  split at h
  ·obtain⟨t,q,e,_,_,h⟩:=h
   simp only[List.cons.injEq] at e
   rw[<- e.2] at h
   cases l with
   | nil=>exact absurd h.symm hr
   | cons y l=>obtain⟨_,_,e2,_⟩:=h; cases e2
  ·rename_i hc
   obtain⟨t,q,e,g1,_,h⟩:=h
   simp only[List.cons.injEq] at e
   rw[<- e.2] at h
   rw[<- e.1] at g1
   rcases List.mem_cons.1 hu with rfl | hu
   ·intro h0
    apply hc
    right
    have:=congrArg ByteArray.size g1
    simp only[qao] at this
    omega
   ·exact qvU l n _ _ r h hr u hu
theorem qjr {f fi fb:Bool} {s:ByteArray} {h:Nat->Option Ss} {r:List Tk} (hp:qbQ f fi fb s = .ok h r):(∀ k,qcR (h k))/\(∀ k,3<=k->h k=none)/\(qai false (qaX h)).length<=s.size/\s.size<=2000:=by
 by_cases hbig:2000<s.size
 ·rw[qbQ,if_pos hbig] at hp; cases hp
 ·have hv:=qc0 (f:=f) (fi:=fi) (fb:=fb) hbig
  rw[hp] at hv
  obtain⟨l,l1,l2,_,l4,l5,l6,l7⟩:=qlx f fi fb _ _ _ _ _ (qou s _ 0) (fun k x hx=>by cases hx) (fun k _=>rfl) hv
  refine⟨l4,l5,?_,by omega⟩
  have e:toks s=qlq 12 2 6 (s.size+1) 0 (byl s):=by
   show qb1 12 2 6 s (s.size+1) 0=_
   rw[qkm,List.drop_zero]
  have l1:Hx l (toks s) r:=l1
  rw[e] at l1
  have hr:r≠[]:=fun h0=>by rw[h0] at l6; cases l6
  have:=qox l _ _ _ _ false l1 l2 (qvU l _ _ _ _ l1 hr) (fun h=>by cases h)
  rw[qau] at this
  have h0:(qai false (qaX fun _=>none)).length=0:=rfl
  omega
theorem qly {f fi fb:Bool} {s:ByteArray} (hs : ¬ 2000<s.size) {y:Rz (Nat->Option Ss)} (h : ∃ n,qcl 12 2 4 f fi fb n (fun _=>none) (toks s)=some y):qbQ f fi fb s=y:=by
 obtain⟨n,h⟩:=h
 have h1:=qgF h (Nat.le_max_left n (10*(toks s).length+10))
 have h2:=qgF (qc0 (f:=f) (fi:=fi) (fb:=fb) hs) (Nat.le_max_right n (10*(toks s).length+10))
 rw[h1] at h2
 exact (Option.some.inj h2).symm
theorem qlz {ts:List ByteArray} (hcl:Ok2 ts) : ∃ e,Hx ts (toks (bs (qai false ts))) [⟨e,⟨#[]⟩,0⟩]:=by
 obtain⟨l,hl,hm⟩ : ∃ l:List (List UInt8 × ByteArray),OkG l/\l.map (·.2)=ts/\qfq l=qai false ts:=by
  have key : ∀ (ts:List ByteArray) (p:Bool),Ok2 ts -> ∃ l:List (List UInt8 × ByteArray),OkG l/\l.map (·.2)=ts/\qfq l=qai p ts/\(∀ q,l.head?=some q -> ∃ t,ts.head?=some t/\q=(gap p t,t)):=by
   intro ts
   induction ts with
   | nil=>intro p _; exact⟨[],trivial,rfl,rfl,fun q h=>by cases h⟩
   | cons t ts ih=>
    intro p ho
    obtain⟨l,l1,l2,l3,l4⟩:=ih (qby p t) ho.2.2
    have hwg:qol (gap p t):=by
     unfold gap
     split
     ·exact qom (.inl rfl)
     ·exact qkB
    refine⟨(gap p t,t)::l,⟨hwg,ho.1,fun q hq=>?_,l1⟩,by simp[l2],by simp[qfq,qai,l3],fun q hq=>⟨t,rfl,by cases hq; rfl⟩⟩
    obtain⟨u,hu,rfl⟩:=l4 q hq
    have hadj:=ho.2.1 u hu
    simp only
    by_cases hgap:(qby p t&&qal qat u)=true
    ·left
     exact⟨32,[],by simp[gap,hgap],.inl rfl⟩
    ·right
     have hgap':(qby p t&&qal qat u)=false:=by simpa using hgap
     refine⟨by simp[gap,hgap'],?_,hadj⟩
     rw[qp4 ho.1 false p]
     exact hgap'
  obtain⟨l,l1,l2,l3,_⟩:=key ts false hcl
  exact⟨l,l1,l2,l3⟩
 have:=qns 12 2 6 hl qkB (.inl rfl) (s:=bs (qai false ts)) (by rw[qaY,hm.2,List.append_nil])
 rw[hm.1] at this
 exact this
theorem qn2 {h:Nat->Option Ss} (hg : ∀ k,qcR (h k)) : ∃ e,Hx (qaX h) (toks (bs (qai false (qaX h)))) [⟨e,⟨#[]⟩,0⟩]:=qlz (qs0 hg).ok
theorem qio {f fi fb:Bool} {h:Nat->Option Ss} (hg : ∀ k,qcR (h k)) (hs:(qai false (qaX h)).length<=2000) : ∃ r,qbQ f fi fb (bs (qai false (qaX h))) = .ok (fun k=>if k<3 then (h k).map (·.fl f fi fb) else none) r:=by
 obtain⟨e,hx⟩:=qn2 hg
 exact⟨_,qly (by rw[qao]; omega) (rbP hg hx rfl)⟩
end Go.Pm
end SUf
