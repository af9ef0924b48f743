/- The rule language in plain Lean: texts of tokens; tokens left out; how long a source is. No program in sight. -/
import Derived.Test.YtoccgneneplciaaGreatDoorPmAL
import Derived.Test.YtoccgneneplciaaGreatDoorPmEt
import Derived.Test.YtoccgneneplciaaGreatDoorPmF3
import Derived.Test.YtoccgneneplciaaGreatDoorPmJc
import Derived.Test.YtoccgneneplciaaGreatDoorPmR1
set_option linter.unusedSimpArgs false
set_option linter.unusedVariables false
namespace Go.Pm
section
def TkG(t:Tk):Prop:=t.bad=0->t.s.size≠0->Tg (byl t.s)
theorem qdx(p:UInt8->Bool)(l:List UInt8):(l.take (qa3 p l)).length=qa3 p l:=by rw[WV,YP (qdS p l)]
theorem qpW(l:List UInt8)(h:(tokL 12 2 6 l).2=0)(h2:(tokL 12 2 6 l).1≠[]):Tg (tokL 12 2 6 l).1:=by
 cases l with
 |nil=>exact absurd rfl h2
 |cons c r=>
  by_cases hlet:qaG c=true
  ·have hw:qaq c=true:=by simp[qaq,hlet]
   have e:tokL 12 2 6 (c::r)=((c::r).take (qa3 qaq (c::r)),if 8<qa3 qaq (c::r)/\bs ((c::r).take (qa3 qaq (c::r)))∉fieldNames/\bs ((c::r).take (qa3 qaq (c::r)))∉wordNames then 2 else 0):=by simp only[tokL,hlet,if_true]
   rw[e] at h ⊢
   have hl:=qdx qaq (c::r)
   have ha:=qgv qaq (c::r)
   have e2:(c::r).take (qa3 qaq (c::r))=c::r.take (qa3 qaq r):=by simp[qa3,hw]
   simp only at h ⊢
   rw[e2] at h hl ha ⊢
   refine .inl ⟨c,_,rfl,hlet,fun b hb=>ha b (Wy _ hb),fun hbad=>?_⟩
   rw[hl] at hbad
   rw[if_pos hbad] at h
   cases h
  ·by_cases hdig:qal c=true
   ·have e:tokL 12 2 6 (c::r)=((c::r).take (qa3 qal (c::r)),if 2147483647<digV ((c::r).take (qa3 qal (c::r))) then 6 else 0):=by simp only[tokL,hlet,hdig,if_true,Wm,if_false]
    rw[e] at h ⊢
    have ha:=qgv qal (c::r)
    have e2:(c::r).take (qa3 qal (c::r))=c::r.take (qa3 qal r):=by simp[qa3,hdig]
    simp only at h ⊢
    rw[e2] at h ha ⊢
    refine .inr (.inl ⟨c,_,rfl,hdig,fun b hb=>ha b (Wy _ hb),?_⟩)
    split at h
    ·cases h
    ·rename_i hb
     exact YC.1 hb
   ·by_cases hp:bs ((c::r).take 2)∈qdh
    ·have e:tokL 12 2 6 (c::r)=((c::r).take 2,0):=by simp only[tokL,hlet,hdig,if_pos hp,Wm,if_false]
     rw[e]
     exact .inr (.inr (.inl hp))
    ·by_cases hs:c.toNat∈symB
     ·have e:tokL 12 2 6 (c::r)=([c],0):=by simp only[tokL,hlet,hdig,if_neg hp,if_pos hs,Wm,if_false]
      rw[e]
      exact .inr (.inr (.inr ⟨c,rfl,hs⟩))
     ·have e:tokL 12 2 6 (c::r)=([c],12):=by simp only[tokL,hlet,hdig,if_neg hp,if_neg hs,Wm,if_false]
      rw[e] at h
      cases h
theorem qnT(s:ByteArray)(j:Nat):TkG (tokAt 12 2 6 s j):=by
 intro hb hn
 rw[qcB] at hb hn ⊢
 simp only[qbi] at hb hn ⊢
 exact qpW _ hb (fun e=>hn (by rw[e]; rfl))
theorem qpX(s:ByteArray) : ∀ n i,∀ t∈qbY 12 2 6 s n i,TkG t
 |0,i,t,h=>by
  simp only[qbY,Wk] at h
  rw[h]
  intro _ h2
  exact absurd rfl h2
 |n+1,i,t,h=>by
  rw[qbY] at h
  split at h
  ·rw[Wk.1 h]; exact qnT s _
  ·rcases Ws.1 h with h|h
   ·rw[h]; exact qnT s _
   ·exact qpX s n _ t h
theorem qpY : ∀ (l:List ByteArray) (p q:Bool),(qao p l).length<=(qao q l).length+1
 |[],p,q=>by simp[qao]
 |t::l,p,q=>by
  have hg : ∀ p,(gap p t).length<=1:=fun p=>by unfold gap; split<;>simp
  have hp:=hg p
  simp only[qao,Wr]
  cases hb:byl t with
  |nil=>
   have e : ∀ q,qbx q t=q:=fun q=>by unfold qbx; rw[hb]; rfl
   have hs:qaj qaq t=false:=by rw[qaS,hb]; rfl
   have g0 : ∀ p,gap p t=[]:=fun p=>by simp[gap,hs]
   rw[e,e,g0,g0]
   have:=qpY l p q
   simp
   omega
  |cons c r=>
   have e:qbx p t=qbx q t:=by
    unfold qbx
    cases hl:(byl t).getLast? with
    |none=>rw[Yg] at hl; rw[hl] at hb; cases hb
    |some c=>rfl
   rw[e]
   omega
inductive Red:List ByteArray->List ByteArray->Prop
 |nil:Red [] []
 |keep {t:ByteArray} {l m:List ByteArray} (h:Red l m):Red (t::l) (t::m)
 |del {t:ByteArray} {l m:List ByteArray} (h0:t.size≠0) (h:Red l m):Red (t::l) m
 |dig {t u:ByteArray} {l m:List ByteArray} (h0:u.size<=t.size) (h1 : ∀ p,qbx p u=qbx p t) (h2:qaj qaq u=qaj qaq t) (h:Red l m):Red (t::l) (u::m)
theorem qc9 : ∀ l,Red l l
 |[] => .nil
 |t::l => .keep (qc9 l)
theorem qb2{a a' b b':List ByteArray}(h:Red a a')(h2:Red b b'):Red (a++b) (a'++b'):=by
 induction h with
 |nil=>exact h2
 |keep _ ih=>exact .keep ih
 |del h0 _ ih=>exact .del h0 ih
 |dig h0 h1 h2 _ ih=>exact .dig h0 h1 h2 ih
theorem qpZ{a b:List ByteArray}(h:Red a b) : ∀ {c},Red b c->Red a c:=by
 induction h with
 |nil=>intro c h; exact h
 |keep _ ih=>
  intro c h
  cases h with
  |keep h=>exact .keep (ih h)
  |del h0 h=>exact .del h0 (ih h)
  |dig h0 h1 h2 h=>exact .dig h0 h1 h2 (ih h)
 |del h0 _ ih=>intro c h; exact .del h0 (ih h)
 |dig h0 h1 h2 _ ih=>
  intro c h
  cases h with
  |keep h=>exact .dig h0 h1 h2 (ih h)
  |del h0' h=>exact .del (by omega) (ih h)
  |dig h0' h1' h2' h=>exact .dig (by omega) (fun p=>(h1' p).trans (h1 p)) (h2'.trans h2) (ih h)
theorem qr2{l m:List ByteArray}(h:Red l m) : ∀ p,(qao p m).length<=(qao p l).length:=by
 induction h with
 |nil=>intro p; exact Wl _
 |keep _ ih=>
  intro p
  simp only[qao,Wr]
  have:=ih (qbx p ‹_›)
  omega
 | @del t l m h0 _ ih=>
  intro p
  simp only[qao,Wr]
  have h1:=ih p
  have h2:=qpY l p (qbx p t)
  have h3:=qat t
  omega
 | @dig t u l m h0 h1 h2 _ ih=>
  intro p
  simp only[qao,Wr]
  have h3:=ih (qbx p t)
  have e1:gap p u=gap p t:=by simp[gap,h2]
  have e2:=qat t
  have e3:=qat u
  rw[h1 p,e1]
  omega
def NI:List ByteArray->Prop
 |t::u::r=>(qaj qal t=true->qaj qaq u=false)/\NI (u::r)
 |_=>True
theorem qnU : ∀ {a b:List ByteArray},NI a->NI b->(∀ t u,a.getLast?=some t->b.head?=some u->qaj qal t=true->qaj qaq u=false)->NI (a++b)
 |[],b,_,hb,_=>hb
 |[t],[],_,_,_=>trivial
 |[t],u::b,_,hb,hj=>⟨hj t u rfl rfl,hb⟩
 |t::u::a,b,ha,hb,hj=>⟨ha.1,qnU (a:=u::a) ha.2 hb (fun x y hx hy=>hj x y (by rw[Yq]; exact hx) hy)⟩
theorem qhN(t:ByteArray):NI [t]:=trivial
theorem qcs{t:ByteArray}{b:List ByteArray}(h:qaj qal t=false)(hb:NI b):NI (t::b):=by
 cases b with
 |nil=>trivial
 |cons u b=>exact⟨fun h'=>(by rw[h] at h'; cases h'),hb⟩
theorem qjS{t:ByteArray}{a b:List ByteArray}(ha:NI a)(h:qaj qal t=false)(h2:qaj qaq t=false)(hb:NI b):NI (a++t::b):=
 qnU ha (qcs h hb) (fun x y _ hy _=>by cases hy; exact h2)
theorem qgw{t:ByteArray}{a:List ByteArray}(ha:NI a)(h2:qaj qaq t=false):NI (a++[t]):=
 qnU ha trivial (fun x y _ hy _=>by cases hy; exact h2)
theorem qcS : ∀ {l:List ByteArray} {ts r:List Tk},Hx l ts r -> ∀ t∈r,t∈ts
 |[],ts,r,h,t,ht=>by cases h; exact ht
 |x::l,ts,r,h,t,ht=>by
  obtain⟨u,q,rfl,_,_,h⟩:=h
  exact Wy _ (qcS h t ht)
theorem qp0 : ∀ (l:List ByteArray) (n i:Nat) (b:List UInt8) (r:List Tk) (p:Bool),Hx l (qmE 12 2 6 n i b) r->NI l->(∀ u∈l,u.size≠0) ->
  (p=true -> ∀ u,l.head?=some u->qaj qaq u=true->0<qaD false b)->(qao p l).length<=b.length
 |[],n,i,b,r,p,_,_,_,_=>by simp[qao]
 |u::l,n,i,b,r,p,hx,hn,hz,hp=>by
  have hu:=hz u (WQ ..)
  cases n with
  |zero=>
   obtain⟨t,q,e,h1,_⟩:=hx
   simp only[qmE,Ww] at e
   rw[<- e.1] at h1
   exact absurd (by rw[<- h1]; rfl) hu
  |succ n=>
   rw[qmE] at hx
   generalize hb':b.drop (qaD false b)=b' at hx
   have hlb:b'.length=b.length-qaD false b:=by rw[<- hb',WT]
   have hsk:=qfQ b false
   split at hx
   ·rename_i hc
    obtain⟨t,q,e,h1,h2,_⟩:=hx
    simp only[Ww] at e
    rw[<- e.1] at h1 h2
    simp only at h1 h2
    rcases hc with hc|hc
    ·exact absurd h2 hc
    ·exact absurd (by rw[<- h1,qav]; exact hc) hu
   ·rename_i hc
    obtain⟨t,q,e,h1,h2,h3⟩:=hx
    simp only[Ww] at e
    rw[<- e.1] at h1 h2
    rw[<- e.2] at h3
    simp only at h1 h2
    have hw:(tokL 12 2 6 b').1≠[]:=fun e0=>hu (by rw[<- h1,e0]; rfl)
    have htg:=qpW b' h2 hw
    have hbyl:byl u=(tokL 12 2 6 b').1:=by rw[<- h1,qbi]
    have hwl:(tokL 12 2 6 b').1.length<=b'.length:=by
     cases b' with
     |nil=>simp[tokL]
     |cons c r=>
      simp only[tokL]
      split
      ·rw[qdx]; exact qdS _ _
      split
      ·rw[qdx]; exact qdS _ _
      split
      ·simp only[WV]; omega
      split<;>simp
    have ih:=qp0 l n _ _ r (qbx p u) h3 (by
     cases l with
     |nil=>trivial
     |cons v l=>exact hn.2) (fun v hv=>hz v (Wy _ hv)) (by
     intro hpe v hv hsv
     refine Nat.pos_of_ne_zero (fun h0=>?_)
     have hnd:qaj qal u=false:=by
      cases hd:qaj qal u with
      |false=>rfl
      |true=>
       cases l with
       |nil=>cases hv
       |cons v' l=>
        cases hv
        rw[hn.1 hd] at hsv
        cases hsv
     have hnext : ∃ c q,b'.drop (tokL 12 2 6 b').1.length=c::q/\qaq c=true:=by
      cases l with
      |nil=>cases hv
      |cons v' l=>
       cases hv
       obtain⟨t2,q2,e2,g1,g2,_⟩:=h3
       cases n with
       |zero=>
        simp only[qmE,Ww] at e2
        rw[<- e2.1] at g1
        have g3:v=⟨#[]⟩:=g1.symm
        rw[g3,qaS] at hsv
        exact absurd hsv (by decide)
       |succ n=>
        rw[qmE,h0,WJ] at e2
        have g3:v=bs (tokL 12 2 6 (b'.drop (tokL 12 2 6 b').1.length)).1:=by
         rw[<- g1]
         split at e2<;>(simp only[List.cons.injEq] at e2; rw[<- e2.1])
        rw[g3,qaS,qbi] at hsv
        cases hdr:b'.drop (tokL 12 2 6 b').1.length with
        |nil=>rw[hdr] at hsv; simp[tokL] at hsv
        |cons c q=>
         refine⟨c,q,rfl,?_⟩
         rw[hdr] at hsv
         have hh:(tokL 12 2 6 (c::q)).1.head?=some c:=by
          simp only[tokL]
          split
          ·rename_i hl; simp[qa3,qaq,hl]
          split
          ·rename_i hl; simp[qa3,hl]
          split
          ·simp
          split<;>rfl
         rw[hh] at hsv
         exact hsv
     obtain⟨c,q,hcq,hcw⟩:=hnext
     cases b' with
     |nil=>simp at hcq
     |cons d rr=>
      by_cases hlet:qaG d=true
      ·have e:(tokL 12 2 6 (d::rr)).1=(d::rr).take (qa3 qaq (d::rr)):=by simp only[tokL,hlet,if_true]
       rw[e,qdx] at hcq
       have key : ∀ (m:List UInt8) c q,m.drop (qa3 qaq m)=c::q->qaq c=false:=by
        intro m
        induction m with
        |nil=>intro c q h; simp at h
        |cons x m ih=>
         intro c q h
         by_cases hx:qaq x=true
         ·simp only[qa3,hx,if_true,Yh] at h; exact ih c q h
         ·simp only[qa3,hx,if_false,WJ,Wm] at h
          cases h
          simpa using hx
       rw[key _ c q hcq] at hcw
       cases hcw
      ·by_cases hdig:qal d=true
       ·have e:(tokL 12 2 6 (d::rr)).1=(d::rr).take (qa3 qal (d::rr)):=by simp only[tokL,hlet,hdig,if_true,Wm,if_false]
        rw[qaS,hbyl,e] at hnd
        simp[qa3,hdig] at hnd
       ·have hend:qbx p u=false:=by
         rw[<- h1]
         apply qiT
         rcases htg with ⟨c1,r1,e1,hc1,_⟩|⟨c1,r1,e1,hc1,_⟩|h|h
         ·exfalso
          have:(tokL 12 2 6 (d::rr)).1.head?=some d:=by
           simp only[tokL,hlet,hdig,Wm,if_false]
           split
           ·simp
           split<;>rfl
          rw[e1] at this
          cases this
          exact hlet hc1
         ·exfalso
          have:(tokL 12 2 6 (d::rr)).1.head?=some d:=by
           simp only[tokL,hlet,hdig,Wm,if_false]
           split
           ·simp
           split<;>rfl
          rw[e1] at this
          cases this
          exact hdig hc1
         ·exact .inl h
         ·exact .inr h
        rw[hend] at hpe
        cases hpe)
    have hgap:(gap p u).length<=qaD false b:=by
     unfold gap
     split
     ·rename_i hg
      rw[Wt] at hg
      have:=hp hg.1 u rfl hg.2
      simp
      omega
     ·simp
    simp only[qao,Wr]
    rw[hbyl]
    rw[WT] at ih
    omega
end
section
theorem qkY(e:E)(q:Nat)(hq:q<=8):e.tx false q=qbB (decide (e.lev<q)) (e.tx false 1):=by
 have h8 : ¬ 8<q:=by omega
 cases e with
 |un f neg e=>cases neg<;>simp[E.tx,E.lev,qdc,qbB]
 |bin f o a b=>
  have h1 : ¬ o.prec<1:=by cases o<;>simp[Bop.prec]
  by_cases h2:o.prec<q<;>simp[E.tx,E.lev,qbB,h1,h2]
 |_=>simp[E.tx,E.lev,qbB,h8]
theorem qhf(e:E)(q:Nat)(hq:q<=8):e.nest false q=e.nest false 1+(if e.lev<q then 1 else 0):=by
 have h8 : ¬ 8<q:=by omega
 cases e with
 |un f neg e=>cases neg<;>simp[E.nest,E.lev,qdc]
 |bin f o a b=>
  have h1 : ¬ o.prec<1:=by cases o<;>simp[Bop.prec]
  by_cases h2:o.prec<q<;>simp[E.nest,E.lev,h1,h2]
 |_=>simp[E.nest,E.lev,h8]
theorem qiM{l m:List ByteArray}{b c:Bool}(h:Red l (qbB b m))(hbc:c=true->b=true):Red l (qbB c m):=by
 cases c with
 |true=>rw[hbc rfl] at h; exact h
 |false=>
  cases b with
  |false=>exact h
  |true=>
   refine qpZ h (.del (by decide) ?_)
   have:=qb2 (qc9 m) (.del (t:=bs [41]) (by decide) .nil)
   rw[Wp] at this
   exact this
def RE(e:E)(q lv:Nat)(ts r:List Tk):Prop:=e.good/\lv+e.nest false q<=20 /\ ∃ l,l≠[]/\Hx l ts r/\NI l/\Red l (e.tx false q)
theorem qqi{e:E}{q q' lv:Nat}{ts r:List Tk}(h:RE e q lv ts r)(hq:q'<=q)(h8:q<=8):RE e q' lv ts r:=by
 obtain⟨h1,h2,l,h3,h4,h5,h6⟩:=h
 refine⟨h1,?_,l,h3,h4,h5,?_⟩
 ·rw[qhf e q h8] at h2
  rw[qhf e q' (by omega)]
  by_cases hl:e.lev<q'
  ·rw[if_pos hl]; rw[if_pos (by omega)] at h2; exact h2
  ·rw[if_neg hl]; omega
 ·rw[qkY e q h8] at h6
  rw[qkY e q' (by omega)]
  exact qiM h6 (fun h=>by simp only[decide_eq_true_eq] at *; omega)
theorem qhg{ts:List Tk}{s:ByteArray}(h:nx ts=some s) : ∃ t r,ts=t::r/\t.s=s/\t.bad=0:=by
 cases ts with
 |nil=>cases h
 |cons t r=>
  simp only[nx] at h
  split at h
  ·rename_i hb; cases h; exact⟨t,r,rfl,rfl,hb⟩
  ·cases h
theorem qcq{α : Type}{c:Nat}{ts:List Tk}{a : α}{r:List Tk}:failP c ts ≠ .ok a r:=by
 cases ts<;>simp[failP]
theorem qdk{x:ByteArray}{ts r:List Tk}{u:Unit}(h:qam 12 x ts = .ok u r):Hx [x] ts r:=by
 cases ts with
 |nil=>exact absurd (show failP 12 [] = .ok u r from h) qcq
 |cons t q=>
  simp only[qam] at h
  split at h
  ·rename_i hc; cases h; exact⟨t,_,rfl,hc.2,hc.1,rfl⟩
  ·exact absurd h qcq
theorem qkZ{x:ByteArray}{lv:Nat}{ts r:List Tk}{u:Unit}(h:qbO 12 2 x lv ts = .ok u r):Hx [x] ts r/\lv<=20:=by
 unfold qbO at h
 split at h
 ·exact absurd h qcq
 ·rename_i hc
  have hx:=qdk h
  refine⟨hx,YC.1 (fun hl=>hc ⟨?_,hl⟩)⟩
  obtain⟨t,q,e,h1,h2,_⟩:=hx
  rw[e,nx,if_pos h2,h1]
theorem qqj{p:Nat}{s:ByteArray}{o:Bop}(h:qhL p s=some o):o.prec=p/\o.str=s:=by
 unfold qhL at h
 have h2:=List.find?_some h
 have h3:=List.mem_of_find?_eq_some h
 refine⟨?_,by simpa using h2⟩
 split at h3<;>simp at h3<;>(try rcases h3 with h3|h3|h3|h3|h3|h3)<;>(try rcases h3 with h3|h3)<;>subst_vars<;>rfl
theorem qtH(o:Bop):qaj qal o.str=false/\qaj qaq o.str=false:=by cases o<;>decide
theorem qw3(b:Bool):qaj qal (ustr b)=false/\qaj qaq (ustr b)=false:=by cases b<;>decide
theorem qmd{s:ByteArray}(h:s∈fieldNames):qaj qal s=false:=by
 simp only[fieldNames,Ws,WA,or_false] at h
 rcases h with h|h|h|h|h|h|h|h<;>rw[h]<;>decide
theorem qhh{p:UInt8->Bool}{s:ByteArray}(h:qaj p s=true):s.size≠0:=by
 rw[qaS] at h
 intro h0
 have:byl s=[]:=WH (by rw[qat,h0])
 rw[this] at h
 cases h
theorem qk0 : ∀ (j n k:Nat),n<10 ^ (k+1)->(qjs j n).length<=k+1
 |0,n,k,_=>by simp[qjs]
 |j+1,n,k,h=>by
  simp only[qjs]
  split
  ·simp
  ·rename_i h10
   cases k with
   |zero=>simp at h; omega
   |succ k=>
    have:=qk0 j (n / 10) k (by rw[YM] at h; omega)
    rw[Wr]
    simp
    omega
theorem quG(l:List UInt8)(h : ∀ b∈l,qal b=true):digV l<10 ^ l.length:=by
 have key : ∀ (m:List UInt8) (a:Nat),(∀ b∈m,qal b=true)->m.foldl (fun v c=>10*v+(c.toNat-48)) a<(a+1)*10 ^ m.length:=by
  intro m
  induction m with
  |nil=>intro a _; simp
  |cons c m ih=>
   intro a hm
   have hc:=hm c (WQ ..)
   simp only[qal,Wt,decide_eq_true_eq] at hc
   have:=ih (10*a+(c.toNat-48)) (fun b hb=>hm b (Wy _ hb))
   simp only[Yx,Wj]
   refine W5 this ?_
   rw[YM,Nat.mul_comm (10 ^ m.length),<- Nat.mul_assoc]
   exact WY _ (by omega)
 have:=key l 0 h
 simpa [digV] using this
theorem quH{s:ByteArray}(hd:qaj qal s=true)(hg:Tg (byl s)):digV s.toList<=2147483647/\Red [s] [bs (decB (digV s.toList))]:=by
 rw[ByteArray.toList_eq]
 have hall:(∀ b∈byl s,qal b=true)/\digV (byl s)<=2147483647 /\ ∃ c r,byl s=c::r:=by
  rw[qaS] at hd
  rcases hg with ⟨c,r,e,hc,_⟩|⟨c,r,e,hc,hr,hv⟩|h|⟨c,e,hc⟩
  ·rw[e] at hd
   exfalso
   simp only[YR,qal,qaG,Wt,decide_eq_true_eq] at hd hc
   omega
  ·refine⟨fun b hb=>?_,hv,c,r,e⟩
   rw[e] at hb
   rcases Ws.1 hb with rfl|hb
   ·exact hc
   ·exact hr b hb
  ·exfalso
   rcases pair_cases h with e|e|e|e|e|e<;>rw[e] at hd<;>revert hd<;>decide
  ·exfalso
   rw[e] at hd
   rcases qep hc with rfl|rfl|rfl|rfl|rfl|rfl|rfl|rfl|rfl|rfl|rfl|rfl|rfl|rfl|rfl|rfl<;>revert hd<;>decide
 obtain⟨h1,h2,c,r,e⟩:=hall
 refine⟨h2,?_⟩
 obtain⟨d1,d2,c',r',d3⟩:=qfc (n:=digV (byl s)) (by omega)
 have endW : ∀ (w:List UInt8),(∃ c r,w=c::r)->(∀ b∈w,qal b=true) -> ∀ p,qbx p (bs w)=true:=fun w ⟨c,r,hw⟩ hb p=>by
  unfold qbx
  rw[qbi]
  cases hl:w.getLast? with
  |none=>rw[Yg,hw] at hl; cases hl
  |some x=>exact qih (hb x (List.mem_of_getLast? hl))
 have startW : ∀ (w:List UInt8),(∃ c r,w=c::r)->(∀ b∈w,qal b=true)->qaj qaq (bs w)=true:=fun w ⟨c,r,hw⟩ hb=>by
  rw[qaS,qbi,hw]
  exact qih (hb c (by rw[hw]; exact WQ ..))
 have es:s=bs (byl s):=(qcW s).symm
 refine .dig ?_ (fun p=>?_) ?_ .nil
 ·rw[qav]
  have hlt:=quG (byl s) h1
  have hl:(byl s).length=r.length+1:=by rw[e]; rfl
  rw[hl] at hlt
  have:=qk0 20 (digV (byl s)) r.length hlt
  rw[<- qat,hl]
  exact this
 ·rw[endW _ ⟨c',r',d3⟩ d2,es,endW _ ⟨c,r,e⟩ h1]
 ·rw[startW _ ⟨c',r',d3⟩ d2,es,startW _ ⟨c,r,e⟩ h1]
theorem qme (f:Bool) : ∀ n:Nat,
  (∀ prec lv ts e r,(∀ t∈ts,TkG t)->1<=prec->prec<=8->lv<=20->qak 12 2 f n prec lv ts=some (.ok e r)->RE e prec lv ts r) /\
  (∀ prec lv e ts e2 r2 ts0,(∀ t∈ts,TkG t)->1<=prec->prec<8->lv<=20->RE e (if prec=4 then 5 else prec) lv ts0 ts->qbR 12 2 f n prec lv e ts=some (.ok e2 r2)->RE e2 prec lv ts0 r2) /\
  (∀ lv ts e r,(∀ t∈ts,TkG t)->lv<=20->qa6 12 2 f n lv ts=some (.ok e r)->e.good/\lv+(e.nest false 1+1)<=20 /\ ∃ l,Hx (bs [91]::(l++[bs [93]])) ts r/\NI l/\Red l (e.tx false 1))
 |0=>⟨fun p lv ts e r _ _ _ _ h=>by simp[qak] at h,fun p lv e ts e2 r2 ts0 _ _ _ _ _ h=>by simp[qbR] at h,fun lv ts e r _ _ h=>by simp[qa6] at h⟩
 |n+1=>by
  obtain⟨h1,h2,h3⟩:=qme f n
  refine⟨fun prec lv ts e r hg hp hp8 hlv h=>?_,fun prec lv e ts e2 r2 ts0 hg hp hp8 hlv he h=>?_,fun lv ts e r hg hlv h=>?_⟩
  ·rw[qak] at h
   split at h
   ·rename_i hc
    cases ho:qbO 12 2 (ustr (prec==7)) (lv+1) ts with
    |er i c=>rw[ho] at h; cases h
    |ok u r1=>
     rw[ho] at h
     simp only at h
     obtain⟨o1,o2⟩:=qkZ ho
     cases hx:qak 12 2 f n prec (lv+1) r1 with
     |none=>rw[hx] at h; cases h
     |some y=>
      rw[hx] at h
      cases y with
      |er i c=>cases h
      |ok e1 r2=>
       simp only[Wb,Rz.ok.injEq] at h
       obtain⟨rfl,rfl⟩:=h
       obtain⟨g1,g2,l,g3,g4,g5,g6⟩:=h1 prec (lv+1) r1 e1 r2 (fun t ht=>hg t (qcS o1 t ht)) hp hp8 o2 hx
       have hu:qdc (prec==7)=prec:=by
        rcases hc with ⟨rfl,_⟩|⟨rfl,_⟩<;>rfl
       refine⟨g1,?_,ustr (prec==7)::l,by simp,?_,qcs (qw3 _).1 g5,?_⟩
       ·simp only[E.nest,hu,YO,WW,decide_false]
        simp
        omega
       ·obtain⟨t,q,e,a1,a2,a3⟩:=o1
        exact⟨t,q,e,a1,a2,by rw[show q=r1 from a3]; exact g4⟩
       ·simp only[E.tx,hu,YO,WW,decide_false]
        exact .keep g6
   split at h
   ·rename_i hp7
    cases hx:qak 12 2 f n (prec+1) lv ts with
    |none=>rw[hx] at h; cases h
    |some y=>
     rw[hx] at h
     cases y with
     |er i c=>cases h
     |ok e1 r1=>
      simp only at h
      have g:=h1 (prec+1) lv ts e1 r1 hg (by omega) (by omega) hlv hx
      have hsub : ∀ t∈r1,TkG t:=fun t ht=>by
       obtain⟨_,_,l,_,q,_⟩:=g
       exact hg t (qcS q t ht)
      refine h2 prec lv e1 r1 e r ts hsub hp hp7 hlv ?_ h
      split
      ·rename_i h4; rw[h4] at g; exact g
      ·exact qqi g (by omega) (by omega)
   have hp8':prec=8:=by omega
   subst hp8'
   cases hn:nx ts with
   |none=>rw[hn] at h; simp only[Wb] at h; exact absurd h qcq
   |some s=>
    rw[hn] at h
    simp only at h
    obtain⟨t,q,rfl,ts1,ts2⟩:=qhg hn
    have htg:=hg t (WQ ..) ts2
    rw[ts1] at htg
    have h1x:Hx [s] (t::q) q:=⟨t,q,rfl,ts1,ts2,rfl⟩
    split at h
    ·rename_i hd
     simp only[Wb,Rz.ok.injEq,WR] at h
     obtain⟨rfl,rfl⟩:=h
     obtain⟨n1,n2⟩:=quH hd (htg (qhh hd))
     exact⟨⟨by omega,by omega⟩,by simp only[E.nest]; omega,[s],by simp,h1x,qhN s,by simp only[E.tx,Int.toNat_natCast]; exact n2⟩
    split at h
    ·rename_i hs
     simp only[Wb,Rz.ok.injEq,WR] at h
     obtain⟨rfl,rfl⟩:=h
     subst hs
     exact⟨.inr rfl,by simp only[E.nest]; omega,_,by simp,h1x,qhN _,qc9 _⟩
    split at h
    ·rename_i hs
     simp only[Wb,Rz.ok.injEq,WR] at h
     obtain⟨rfl,rfl⟩:=h
     subst hs
     exact⟨.inl rfl,by simp only[E.nest]; omega,_,by simp,h1x,qhN _,qc9 _⟩
    split at h
    ·rename_i hs
     simp only[Wb,Rz.ok.injEq,WR] at h
     obtain⟨rfl,rfl⟩:=h
     exact⟨hs,by simp only[E.nest]; omega,_,by simp,h1x,qhN _,qc9 _⟩
    split at h
    ·rename_i hs
     cases hx:qa6 12 2 f n lv q with
     |none=>rw[WR,hx] at h; cases h
     |some y=>
      rw[WR,hx] at h
      cases y with
      |er i c=>cases h
      |ok e1 r1=>
       simp only[Wb,Rz.ok.injEq] at h
       obtain⟨rfl,rfl⟩:=h
       obtain⟨g1,g2,l,g3,g4,g5⟩:=h3 lv q e1 r1 (fun x hx=>hg x (Wy _ hx)) hlv hx
       refine⟨⟨hs,g1⟩,by simp only[E.nest]; omega,s::bs [91]::(l++[bs [93]]),by simp,⟨t,q,rfl,ts1,ts2,g3⟩,qcs (qmd hs) (qcs (by decide) (qgw g4 (by decide))),?_⟩
       simp only[E.tx]
       exact .keep (.keep (qb2 g5 (qc9 _)))
    split at h
    ·rename_i hnd _ _ _ hf hs
     simp only[Wb,Rz.ok.injEq,WR] at h
     obtain⟨rfl,rfl⟩:=h
     exact⟨⟨htg (qhh hs.1),hs.1,hf,hs.2⟩,by simp only[E.nest]; omega,_,by simp,h1x,qhN _,qc9 _⟩
    cases ho:qbO 12 2 (bs [40]) (lv+1) (t::q) with
    |er i c=>rw[ho] at h; cases h
    |ok u r1=>
     rw[ho] at h
     simp only at h
     obtain⟨o1,o2⟩:=qkZ ho
     cases hx:qak 12 2 f n 1 (lv+1) r1 with
     |none=>rw[hx] at h; cases h
     |some y=>
      rw[hx] at h
      cases y with
      |er i c=>cases h
      |ok e1 r2=>
       simp only at h
       cases hxp:qam 12 (bs [41]) r2 with
       |er i c=>rw[hxp] at h; cases h
       |ok u2 r3=>
        rw[hxp] at h
        simp only[Wb,Rz.ok.injEq] at h
        obtain⟨rfl,rfl⟩:=h
        obtain⟨g1,g2,l,g3,g4,g5,g6⟩:=h1 1 (lv+1) r1 e1 r2 (fun t ht=>hg t (qcS o1 t ht)) (by omega) (by omega) o2 hx
        refine⟨g1,?_,bs [40]::(l++[bs [41]]),by simp,?_,qcs (by decide) (qgw g5 (by decide)),?_⟩
        ·rw[qhf e1 8 (by omega)]
         split<;>omega
        ·exact hx_app (a:=[bs [40]]) |>.2 ⟨r1,o1,hx_app.2 ⟨r2,g4,qdk hxp⟩⟩
        ·rw[qkY e1 8 (by omega)]
         refine qiM (b:=true) ?_ (fun _=>rfl)
         exact .keep (qb2 g6 (qc9 _))
  ·rw[qbR] at h
   have hend:ts=ts->RE e prec lv ts0 ts:=fun _=>qqi he (by split<;>omega) (by split<;>omega)
   cases hn:nx ts with
   |none=>
    rw[hn] at h
    simp only at h
    split at h
    ·simp only[Wb,Rz.ok.injEq] at h
     obtain⟨rfl,rfl⟩:=h
     exact hend rfl
    ·simp only[Wb] at h; exact absurd h qcq
   |some s=>
    rw[hn] at h
    simp only at h
    cases hop:qhL prec s with
    |none=>
     rw[hop] at h
     simp only[Wb,Rz.ok.injEq] at h
     obtain⟨rfl,rfl⟩:=h
     exact hend rfl
    |some o=>
     rw[hop] at h
     simp only at h
     obtain⟨op1,op2⟩:=qqj hop
     obtain⟨t,q,rfl,ts1,ts2⟩:=qhg hn
     rw[WR] at h
     cases hx:qak 12 2 f n (prec+1) lv q with
     |none=>rw[hx] at h; cases h
     |some y=>
      rw[hx] at h
      cases y with
      |er i c=>cases h
      |ok e' r1=>
       simp only at h
       obtain⟨a1,a2,la,a3,a4,a5,a6⟩:=he
       obtain⟨b1,b2,lb,b3,b4,b5,b6⟩:=h1 (prec+1) lv q e' r1 (fun x hx=>hg x (Wy _ hx)) (by omega) (by omega) hlv hx
       have hleft:o.left=if prec=4 then 5 else prec:=by unfold Bop.left; rw[op1]
       have hb:RE (.bin f o e e') prec lv ts0 r1:=by
        refine⟨⟨a1,b1⟩,?_,la++o.str::lb,by simp,?_,qjS a5 (qtH o).1 (qtH o).2 b5,?_⟩
        ·simp only[E.nest,hleft,op1,YO,WW,decide_false]
         simp
         omega
        ·exact hx_app.2 ⟨_,a4,⟨t,q,rfl,ts1.trans op2.symm,ts2,b4⟩⟩
        ·simp only[E.tx,hleft,op1,YO,WW,decide_false]
         exact qb2 a6 (.keep b6)
       split at h
       ·simp only[Wb,Rz.ok.injEq] at h
        obtain⟨rfl,rfl⟩:=h
        exact hb
       ·rename_i h4
        have hsub : ∀ t∈r1,TkG t:=fun x hxm=>hg x (Wy _ (qcS b4 x hxm))
        exact h2 prec lv (.bin f o e e') r1 e2 r2 ts0 hsub hp hp8 hlv (by rw[if_neg h4]; exact hb) h
  ·rw[qa6] at h
   cases ho:qbO 12 2 (bs [91]) (lv+1) ts with
   |er i c=>rw[ho] at h; cases h
   |ok u r1=>
    rw[ho] at h
    simp only at h
    obtain⟨o1,o2⟩:=qkZ ho
    cases hx:qak 12 2 f n 1 (lv+1) r1 with
    |none=>rw[hx] at h; cases h
    |some y=>
     rw[hx] at h
     cases y with
     |er i c=>cases h
     |ok e1 r2=>
      simp only at h
      cases hxp:qam 12 (bs [93]) r2 with
      |er i c=>rw[hxp] at h; cases h
      |ok u2 r3=>
       rw[hxp] at h
       simp only[Wb,Rz.ok.injEq] at h
       obtain⟨rfl,rfl⟩:=h
       obtain⟨g1,g2,l,g3,g4,g5,g6⟩:=h1 1 (lv+1) r1 e1 r2 (fun t ht=>hg t (qcS o1 t ht)) (by omega) (by omega) o2 hx
       exact⟨g1,by omega,l,hx_app (a:=[bs [91]]) |>.2 ⟨r1,o1,hx_app.2 ⟨r2,g4,qdk hxp⟩⟩,g5,g6⟩
end
section
theorem qkk : ∀ {a:Ss} (b:Ss),a.good none->(a.app b).tx=a.tx++b.tx
 |.nil,b,_=>rfl
 |.assign _ s e r,b,h=>by simp[Ss.app,Ss.tx,qkk b h.2.2.2]
 |.store _ s x y r,b,h=>by simp[Ss.app,Ss.tx,qkk b h.2.2.2.2]
 |.effect _ x y r,b,h=>by simp[Ss.app,Ss.tx,qkk b h.2.2.2]
 |.stop r,b,h=>by simp[Ss.app,Ss.tx,qkk b h.2]
 |.cond w _ c q r,b,h=>by simp[Ss.app,Ss.tx,qkk b h.2.2.2]
 |.block _ q r,b,h=>by obtain⟨n,hn,_⟩:=h; cases hn
theorem qfK : ∀ {a:Ss} {b:Ss},a.good none->b.good none->(a.app b).good none
 |.nil,b,_,h=>h
 |.assign _ s e r,b,h,hb=>⟨rfl,h.2.1,h.2.2.1,qfK h.2.2.2 hb⟩
 |.store _ s x y r,b,h,hb=>⟨rfl,h.2.1,h.2.2.1,h.2.2.2.1,qfK h.2.2.2.2 hb⟩
 |.effect _ x y r,b,h,hb=>⟨rfl,h.2.1,h.2.2.1,qfK h.2.2.2 hb⟩
 |.stop r,b,h,hb=>⟨rfl,qfK h.2 hb⟩
 |.cond w _ c q r,b,h,hb=>⟨rfl,h.2.1,h.2.2.1,qfK h.2.2.2 hb⟩
 |.block _ q r,b,h,hb=>by obtain⟨n,hn,_⟩:=h; cases hn
theorem qs7(a b:Ss):(a.app b).nest=max a.nest b.nest:=by
 induction a<;>simp_all [Ss.app,Ss.nest,Nat.max_assoc]
def NE(l:List ByteArray):Prop := ∀ t,l.getLast?=some t->qaj qal t=false
theorem qf3{l:List ByteArray}{t:ByteArray}(h:qaj qal t=false):NE (l++[t]):=fun x hx=>by
 rw[List.getLast?_concat] at hx
 cases hx
 exact h
theorem qln{a b:List ByteArray}(ha:NI a)(he:NE a)(hb:NI b):NI (a++b):=qnU ha hb (fun t u ht _ hd=>by rw[he t ht] at hd; cases hd)
theorem qtX{a b:List ByteArray}(ha:NE a)(hb:NE b):NE (a++b):=fun t ht=>by
 rw[YL] at ht
 cases hl:b.getLast? with
 |none=>
  rw[hl] at ht
  exact ha t (by simpa using ht)
 |some x=>
  rw[hl] at ht
  simp at ht
  subst ht
  exact hb x hl
theorem qtY:NE []:=fun t h=>by cases h
def RS(b:Ss)(lv:Nat)(ts r:List Tk):Prop:=b.good none/\lv+b.nest<=20 /\ ∃ l,Hx l ts r/\NI l/\NE l/\Red l b.tx
theorem hx1{t:Tk}{q:List Tk}{s:ByteArray}(h1:t.s=s)(h2:t.bad=0):Hx [s] (t::q) q:=⟨t,q,rfl,h1,h2,rfl⟩
theorem qbp{a b:List ByteArray}{ts m r:List Tk}(h1:Hx a ts m)(h2:Hx b m r):Hx (a++b) ts r:=hx_app.2 ⟨m,h1,h2⟩
theorem qgV{a b:Ss}{ts r:List Tk}(h:qa2 12 a ts = .ok b r):b=a/\Hx [bs [59]] ts r:=by
 unfold qa2 at h
 cases hx:qam 12 (bs [59]) ts with
 |er i c=>rw[hx] at h; cases h
 |ok u q=>rw[hx] at h; cases h; exact⟨rfl,qdk hx⟩
theorem qmC (f fi fb:Bool) : ∀ n:Nat,
  (∀ lv ts b r,(∀ t∈ts,TkG t)->lv<=20->qbT 12 2 f fi fb n lv ts=some (.ok b r)->RS b lv ts r) /\
  (∀ lv ts b r,(∀ t∈ts,TkG t)->qaN 12 2 f fi fb n lv ts=some (.ok b r)->lv<=20/\b.good none/\lv+b.nest<=20 /\ ∃ l,Hx (bs [123]::(l++[bs [125]])) ts r/\NI l/\NE l/\Red l b.tx) /\
  (∀ lv a ts b r ts0,(∀ t∈ts,TkG t)->lv<=20->RS a lv ts0 ts->qbw 12 2 f fi fb n lv a ts=some (.ok b r)->b.good none/\lv+b.nest<=20 /\ ∃ l,Hx (l++[bs [125]]) ts0 r/\NI l/\NE l/\Red l b.tx)
 |0=>⟨fun lv ts b r _ _ h=>by simp[qbT] at h,fun lv ts b r _ h=>by simp[qaN] at h,fun lv a ts b r ts0 _ _ _ h=>by simp[qbw] at h⟩
 |n+1=>by
  obtain⟨h1,h2,h3⟩:=qmC f fi fb n
  obtain⟨x1,_,x3⟩:=qme f n
  refine⟨fun lv ts b r hg hlv h=>?_,fun lv ts b r hg h=>?_,fun lv a ts b r ts0 hg hlv ha h=>?_⟩
  ·rw[qbT] at h
   cases hn:nx ts with
   |none=>rw[hn] at h; simp only[Wb] at h; exact absurd h qcq
   |some s=>
    rw[hn] at h
    simp only at h
    obtain⟨t,q,rfl,ts1,ts2⟩:=qhg hn
    have htg:=hg t (WQ ..) ts2
    rw[ts1] at htg
    have hq : ∀ t∈q,TkG t:=fun x hx=>hg x (Wy _ hx)
    have hs1:=hx1 (q:=q) ts1 ts2
    rw[WR] at h
    split at h
    ·rename_i hs
     subst hs
     cases hx:qak 12 2 f n 1 lv q with
     |none=>rw[hx] at h; cases h
     |some y=>
      rw[hx] at h
      cases y with
      |er i k=>cases h
      |ok c r1=>
       simp only at h
       obtain⟨c1,c2,lc,c3,c4,c5,c6⟩:=x1 1 lv q c r1 hq (by omega) (by omega) hlv hx
       have hr1 : ∀ t∈r1,TkG t:=fun x hm=>hq x (qcS c4 x hm)
       cases hy:qaN 12 2 f fi fb n (lv+1) r1 with
       |none=>rw[hy] at h; cases h
       |some y=>
        rw[hy] at h
        cases y with
        |er i k=>cases h
        |ok b1 r2=>
         simp only at h
         obtain⟨b0,b1g,b1n,lb,b3,b4,b5,b6⟩:=h2 (lv+1) r1 b1 r2 hr1 hy
         have hr2 : ∀ t∈r2,TkG t:=fun x hm=>hr1 x (qcS b3 x hm)
         have base:Hx (bs [105,102]::(lc++bs [123]::(lb++[bs [125]]))) (t::q) r2:=qbp (a:=[bs [105,102]]) hs1 (qbp c4 b3)
         have ni0:NI (bs [105,102]::(lc++bs [123]::(lb++[bs [125]]))):=qcs (by decide) (qjS c5 (by decide) (by decide) (qgw b4 (by decide)))
         cases hm:nx r2 with
         |none=>rw[hm] at h; simp only[Wb] at h; exact absurd h qcq
         |some w=>
          rw[hm] at h
          simp only at h
          split at h
          ·rename_i hw
           subst hw
           obtain⟨t2,q2,rfl,t21,t22⟩:=qhg hm
           rw[WR] at h
           cases hz:qaN 12 2 f fi fb n (lv+1) q2 with
           |none=>rw[hz] at h; cases h
           |some y=>
            rw[hz] at h
            cases y with
            |er i k=>cases h
            |ok b2 r3=>
             simp only[Wb,Rz.ok.injEq] at h
             obtain⟨rfl,rfl⟩:=h
             obtain⟨d0,d1,d2,ld,d3,d4,d5,d6⟩:=h2 (lv+1) q2 b2 r3 (fun x hx=>hr2 x (Wy _ hx)) hz
             refine⟨⟨rfl,c1,⟨1,rfl,b1g,⟨0,rfl,d1,.inr rfl⟩⟩,.inl rfl⟩,by simp only[Ss.nest]; omega,_,qbp base (qbp (hx1 t21 t22) d3),?_,?_,?_⟩
             ·refine qln ni0 ?_ (qln (qhN _) (fun x hx=>by cases hx; decide) (qcs (by decide) (qgw d4 (by decide))))
              have:bs [105,102]::(lc++bs [123]::(lb++[bs [125]]))=(bs [105,102]::(lc++bs [123]::lb))++[bs [125]]:=by simp
              rw[this]
              exact qf3 (by decide)
             ·have : ∀ X:List ByteArray,X++([bs [101,108,115,101]]++bs [123]::(ld++[bs [125]]))=(X++(bs [101,108,115,101]::bs [123]::ld))++[bs [125]]:=fun X=>by simp
              rw[this]
              exact qf3 (by decide)
             ·simp only[Ss.tx,Wp,Wm,if_false]
              rw[show bs [105,102]::(lc++bs [123]::(lb++[bs [125]]))++([bs [101,108,115,101]]++bs [123]::(ld++[bs [125]]))=bs [105,102]::(lc++(bs [123]::(lb++(bs [125]::bs [101,108,115,101]::bs [123]::(ld++[bs [125]]))))) by simp]
              refine .keep (qb2 c6 (.keep (qb2 b6 (.keep ?_))))
              split
              ·exact .keep (.keep (qb2 d6 (.keep .nil)))
              ·rename_i he
               have hb2:b2 = .nil:=by cases b2<;>first|rfl|exact absurd rfl he
               subst hb2
               have hk:=qb2 d6 (.del (t:=bs [125]) (by decide) .nil)
               exact .del (by decide) (.del (by decide) hk)
          ·simp only[Wb,Rz.ok.injEq] at h
           obtain⟨rfl,rfl⟩:=h
           refine⟨⟨rfl,c1,⟨1,rfl,b1g,⟨0,rfl,.inl rfl,.inr rfl⟩⟩,.inl rfl⟩,by simp only[Ss.nest]; omega,_,base,ni0,?_,?_⟩
           ·have:bs [105,102]::(lc++bs [123]::(lb++[bs [125]]))=(bs [105,102]::(lc++bs [123]::lb))++[bs [125]]:=by simp
            rw[this]
            exact qf3 (by decide)
           ·simp only[Ss.tx,qcx,Wp,Wm,if_false]
            exact .keep (qb2 c6 (.keep (qb2 b6 (.keep .nil))))
    split at h
    ·rename_i hs
     subst hs
     cases hx:qak 12 2 f n 1 lv q with
     |none=>rw[hx] at h; cases h
     |some y=>
      rw[hx] at h
      cases y with
      |er i k=>cases h
      |ok c r1=>
       simp only at h
       obtain⟨c1,c2,lc,c3,c4,c5,c6⟩:=x1 1 lv q c r1 hq (by omega) (by omega) hlv hx
       have hr1 : ∀ t∈r1,TkG t:=fun x hm=>hq x (qcS c4 x hm)
       cases hy:qaN 12 2 f fi fb n (lv+1) r1 with
       |none=>rw[hy] at h; cases h
       |some y=>
        rw[hy] at h
        cases y with
        |er i k=>cases h
        |ok b1 r2=>
         simp only[Wb,Rz.ok.injEq] at h
         obtain⟨rfl,rfl⟩:=h
         obtain⟨b0,b1g,b1n,lb,b3,b4,b5,b6⟩:=h2 (lv+1) r1 b1 r2 hr1 hy
         refine⟨⟨rfl,c1,⟨0,rfl,b1g,.inr rfl⟩,.inl rfl⟩,by simp only[Ss.nest]; omega,_,qbp hs1 (qbp c4 b3),?_,?_,?_⟩
         ·exact qcs (by decide) (qjS c5 (by decide) (by decide) (qgw b4 (by decide)))
         ·have:[bs [119,104,105,108,101]]++(lc++bs [123]::(lb++[bs [125]]))=(bs [119,104,105,108,101]::(lc++bs [123]::lb))++[bs [125]]:=by simp
          rw[this]
          exact qf3 (by decide)
         ·simp only[Ss.tx,qcx,Wp,Wm,if_false,if_true]
          rw[List.singleton_append]
          exact .keep (qb2 c6 (.keep (qb2 b6 (.keep .nil))))
    split at h
    ·rename_i hs
     subst hs
     cases hx:qak 12 2 f n 1 lv q with
     |none=>rw[hx] at h; cases h
     |some y=>
      rw[hx] at h
      cases y with
      |er i k=>cases h
      |ok c r1=>
       simp only at h
       obtain⟨c1,c2,lc,c3,c4,c5,c6⟩:=x1 1 lv q c r1 hq (by omega) (by omega) hlv hx
       have hr1 : ∀ t∈r1,TkG t:=fun x hm=>hq x (qcS c4 x hm)
       cases hy:qam 12 (bs [44]) r1 with
       |er i k=>rw[hy] at h; cases h
       |ok u r2=>
        rw[hy] at h
        simp only at h
        have k1:=qdk hy
        cases hz:qak 12 2 f n 1 lv r2 with
        |none=>rw[hz] at h; cases h
        |some y=>
         rw[hz] at h
         cases y with
         |er i k=>cases h
         |ok d r3=>
          simp only[Wb] at h
          obtain⟨d1,d2,ld,d3,d4,d5,d6⟩:=x1 1 lv r2 d r3 (fun x hm=>hr1 x (qcS k1 x hm)) (by omega) (by omega) hlv hz
          obtain⟨rfl,k2⟩:=qgV h
          refine⟨⟨rfl,c1,d1,.inl rfl⟩,by simp only[Ss.nest]; omega,_,qbp hs1 (qbp c4 (qbp k1 (qbp d4 k2))),?_,?_,?_⟩
          ·exact qcs (by decide) (qjS c5 (by decide) (by decide) (qgw d5 (by decide)))
          ·have:[bs [101,102,102,101,99,116]]++(lc++([bs [44]]++(ld++[bs [59]])))=(bs [101,102,102,101,99,116]::(lc++bs [44]::ld))++[bs [59]]:=by simp
           rw[this]
           exact qf3 (by decide)
          ·simp only[Ss.tx]
           simp only[Wf,Wc]
           exact .keep (qb2 c6 (.keep (qb2 d6 (.keep .nil))))
    split at h
    ·rename_i hs
     subst hs
     simp only[Wb] at h
     obtain⟨rfl,k2⟩:=qgV h
     refine⟨⟨rfl,.inl rfl⟩,by simp only[Ss.nest]; omega,_,qbp hs1 k2,qcs (by decide) (qhN _),qf3 (l:=[bs [115,116,111,112]]) (by decide),qc9 _⟩
    split at h
    ·rename_i hs
     cases hx:qa6 12 2 f n lv q with
     |none=>rw[hx] at h; cases h
     |some y=>
      rw[hx] at h
      cases y with
      |er i k=>cases h
      |ok c r1=>
       simp only at h
       obtain⟨c1,c2,lc,c4,c5,c6⟩:=x3 lv q c r1 hq hlv hx
       have hr1 : ∀ t∈r1,TkG t:=fun x hm=>hq x (qcS c4 x hm)
       cases hy:qam 12 (bs [61]) r1 with
       |er i k=>rw[hy] at h; cases h
       |ok u r2=>
        rw[hy] at h
        simp only at h
        have k1:=qdk hy
        cases hz:qak 12 2 f n 1 lv r2 with
        |none=>rw[hz] at h; cases h
        |some y=>
         rw[hz] at h
         cases y with
         |er i k=>cases h
         |ok d r3=>
          simp only[Wb] at h
          obtain⟨d1,d2,ld,d3,d4,d5,d6⟩:=x1 1 lv r2 d r3 (fun x hm=>hr1 x (qcS k1 x hm)) (by omega) (by omega) hlv hz
          obtain⟨rfl,k2⟩:=qgV h
          refine⟨⟨rfl,hs,c1,d1,.inl rfl⟩,by simp only[Ss.nest]; omega,_,qbp hs1 (qbp c4 (qbp k1 (qbp d4 k2))),?_,?_,?_⟩
          ·refine qcs (qmd hs) ?_
           have:bs [91]::(lc++[bs [93]])++([bs [61]]++(ld++[bs [59]]))=bs [91]::(lc++bs [93]::bs [61]::(ld++[bs [59]])):=by simp
           show NI (bs [91]::(lc++[bs [93]])++([bs [61]]++(ld++[bs [59]])))
           rw[this]
           exact qcs (by decide) (qjS c5 (by decide) (by decide) (qcs (by decide) (qgw d5 (by decide))))
          ·have:[s]++(bs [91]::(lc++[bs [93]])++([bs [61]]++(ld++[bs [59]])))=(s::bs [91]::(lc++bs [93]::bs [61]::ld))++[bs [59]]:=by simp
           rw[this]
           exact qf3 (by decide)
          ·simp only[Ss.tx]
           have:[s]++(bs [91]::(lc++[bs [93]])++([bs [61]]++(ld++[bs [59]])))=s::bs [91]::(lc++bs [93]::bs [61]::(ld++[bs [59]])):=by simp
           rw[this]
           exact .keep (.keep (qb2 c6 (.keep (.keep (qb2 d6 (.keep .nil))))))
    split at h
    ·rename_i hf hs
     cases hy:qam 12 (bs [61]) q with
     |er i k=>rw[hy] at h; cases h
     |ok u r2=>
      rw[hy] at h
      simp only at h
      have k1:=qdk hy
      cases hz:qak 12 2 f n 1 lv r2 with
      |none=>rw[hz] at h; cases h
      |some y=>
       rw[hz] at h
       cases y with
       |er i k=>cases h
       |ok d r3=>
        simp only[Wb] at h
        obtain⟨d1,d2,ld,d3,d4,d5,d6⟩:=x1 1 lv r2 d r3 (fun x hm=>hq x (qcS k1 x hm)) (by omega) (by omega) hlv hz
        obtain⟨rfl,k2⟩:=qgV h
        refine⟨⟨rfl,⟨htg (qhh hs.1),hs.1,hf,hs.2⟩,d1,.inl rfl⟩,by simp only[Ss.nest]; omega,_,qbp hs1 (qbp k1 (qbp d4 k2)),?_,?_,?_⟩
        ·exact qjS (a:=[s]) (qhN s) (by decide) (by decide) (qgw d5 (by decide))
        ·have:[s]++([bs [61]]++(ld++[bs [59]]))=(s::bs [61]::ld)++[bs [59]]:=by simp
         rw[this]
         exact qf3 (by decide)
        ·simp only[Ss.tx]
         simp only[Wf,Wc]
         exact .keep (.keep (qb2 d6 (.keep .nil)))
    ·simp only[Wb] at h; exact absurd h qcq
  ·rw[qaN] at h
   cases ho:qbO 12 2 (bs [123]) lv ts with
   |er i k=>rw[ho] at h; cases h
   |ok u r1=>
    rw[ho] at h
    simp only at h
    obtain⟨o1,o2⟩:=qkZ ho
    obtain⟨g1,g2,l,g3,g4,g5,g6⟩:=h3 lv .nil r1 b r r1 (fun x hm=>hg x (qcS o1 x hm)) o2 ⟨.inl rfl,by simp only[Ss.nest]; omega,[],rfl,trivial,qtY,.nil⟩ h
    exact⟨o2,g1,g2,l,qbp (a:=[bs [123]]) o1 g3,g4,g5,g6⟩
  ·rw[qbw] at h
   cases hn:nx ts with
   |none=>rw[hn] at h; simp only[Wb] at h; exact absurd h qcq
   |some s=>
    rw[hn] at h
    simp only at h
    obtain⟨t,q,rfl,ts1,ts2⟩:=qhg hn
    obtain⟨a1,a2,la,a3,a4,a5,a6⟩:=ha
    split at h
    ·rename_i hs
     subst hs
     simp only[Wb,Rz.ok.injEq,WR] at h
     obtain⟨rfl,rfl⟩:=h
     exact⟨a1,a2,la,qbp a3 (hx1 ts1 ts2),a4,a5,a6⟩
    ·cases hx:qbT 12 2 f fi fb n lv (t::q) with
     |none=>rw[hx] at h; cases h
     |some y=>
      rw[hx] at h
      cases y with
      |er i k=>cases h
      |ok b1 r1=>
       simp only at h
       obtain⟨b1g,b2,lb,b3,b4,b5,b6⟩:=h1 lv (t::q) b1 r1 hg hlv hx
       refine h3 lv (a.app b1) r1 b r ts0 (fun x hm=>hg x (qcS b3 x hm)) hlv ⟨qfK a1 b1g,by rw[qs7]; omega,la++lb,qbp a3 b3,qln a4 a5 b4,qtX a5 b5,?_⟩ h
       rw[qkk b1 a1]
       exact qb2 a6 b6
end
section
def qpJ(g:List UInt8):Prop := ∀ r,qaD false (g++r)=g.length+qaD false r
theorem qlM:qpJ []:=fun r=>by simp
theorem qpK{c:UInt8}(h:c.toNat=32\/c.toNat=9\/c.toNat=10):qpJ [c]:=fun r=>by
 simp only[Wf,Wc,qaD,Wh]
 by_cases h10:c.toNat=10
 ·rw[if_pos h10]; omega
 ·rw[if_neg h10,if_pos (by rcases h with h|h|h; exact .inr (.inl h); exact .inr (.inr h); exact absurd h h10)]; omega
theorem qrS{w:List UInt8}(h:Tg w)(r:List UInt8):qaD false (w++r)=0:=by
 obtain⟨c,q,hw,h1,h2,h3,h4⟩:=qgb h
 rw[hw]
 simp[qaD,h1,h2,h3,h4]
def qfS:List (List UInt8 × ByteArray)->List UInt8
 |[]=>[]
 | (g,t)::r=>g++(byl t++qfS r)
def Sep(t:ByteArray)(g:List UInt8)(u:ByteArray):Prop:=(∃ c q,g=c::q/\(c.toNat=32\/c.toNat=10\/c.toNat=9\/c.toNat=35))\/(g=[]/\(qbx false t&&qaj qaq u)=false/\Adj t u)
def OkG:List (List UInt8 × ByteArray)->Prop
 |[]=>True
 | (g,t)::r=>qpJ g/\Tg (byl t)/\(∀ p,r.head?=some p->Sep t p.1 p.2)/\OkG r
theorem qlN{w:List UInt8}(h:Tg w){c:UInt8}(hc:c.toNat=32\/c.toNat=10\/c.toNat=9\/c.toNat=35)(r:List UInt8):Fol w (c::r):=by
 have hw:qaq c=false:=by
  simp only[qaq,qaG,qal,Bool.or_eq_false_iff,Yn,decide_eq_false_iff_not]
  omega
 have hd:qal c=false:=by
  simp only[qal,Yn,decide_eq_false_iff_not]
  omega
 obtain⟨a,q,rfl,-⟩:=qgb h
 simp only[Fol]
 split
 ·exact hw
 split
 ·exact hd
 ·intro _ hp
  rcases pair_cases hp with h|h|h|h|h|h<;>simp only[Ww,and_true] at h<;>rw[h.2] at hc<;>exact absurd hc (by decide)
theorem qt8(w:List UInt8):Fol w []:=by cases w<;>trivial
theorem qrT{w:ByteArray}(h:Tg (byl w))(p q:Bool):qbx p w=qbx q w:=by
 obtain⟨c,r,hw,-⟩:=qgb h
 unfold qbx
 rw[hw]
 cases hl:(c::r).getLast? with
 |none=>simp at hl
 |some b=>rfl
theorem qlO (eS eL eR:Nat) : ∀ (l:List (List UInt8 × ByteArray)) (n i:Nat) (tail:List UInt8),OkG l->(∀ p,l.getLast?=some p->Fol (byl p.2) tail)->l.length<=n ->
  ∃ ts,qmE eS eL eR n i (qfS l++tail)=ts++qmE eS eL eR (n-l.length) (i+(qfS l).length) tail /\ ∀ r,Hx (l.map (·.2)) (ts++r) r
 |[],n,i,tail,_,_,_=>⟨[],by simp[qfS],fun r=>rfl⟩
 | (g,t)::l,0,i,tail,_,_,h=>by simp at h
 | (g,t)::l,n+1,i,tail,ho,hl,h=>by
  obtain⟨hg,ht,ha,ho'⟩:=ho
  have hf:Fol (byl t) (qfS l++tail):=by
   cases l with
   |nil=>exact hl (g,t) rfl
   |cons u us=>
    obtain⟨g',u⟩:=u
    simp only[qfS,Wg]
    rcases ha (g',u) rfl with ⟨c,q,h1,h2⟩|⟨h1,h2,h3⟩
    ·simp only at h1
     rw[h1]
     exact qlN ht h2 _
    ·simp only at h1 h2 h3
     rw[h1]
     have:=qsH (p:=false) ht ho'.2.1 h3 (qfS us++tail)
     rwa [gap,h2] at this
  have hsk:qaD false (g++(byl t++(qfS l++tail)))=g.length:=by rw[hg,qrS ht]; omega
  have htk:=qqG eS eL eR ht hf
  have hne:(byl t).length≠0:=by
   obtain⟨c,w,hw,-⟩:=qgb ht
   rw[hw]; simp
  obtain⟨ts,e1,e2⟩:=qlO eS eL eR l n (i+g.length+t.size) tail ho' (fun u hu=>hl u (by
   cases l with
   |nil=>cases hu
   |cons v vs=>rw[Yq]; exact hu)) (by simpa using h)
  refine⟨⟨i+g.length,t,0⟩::ts,?_,fun r=>⟨⟨i+g.length,t,0⟩,ts++r,rfl,rfl,rfl,e2 r⟩⟩
  simp only[qfS,Wg,qmE,hsk,List.drop_left,htk]
  rw[if_neg (by
   rintro (h|h)
   ·exact h rfl
   ·exact hne h)]
  rw[qcW,qat,e1]
  simp only[Wf,Wr,Wj,qat]
  congr 3<;>omega
theorem qoR (eS eL eR:Nat) {l:List (List UInt8 × ByteArray)} {w:List UInt8} (ho:OkG l) (hw:qpJ w) (hsep:w=[] \/ ∃ c q,w=c::q/\(c.toNat=32\/c.toNat=10\/c.toNat=9\/c.toNat=35)) {s:ByteArray} (hs:byl s=qfS l++w) :
  ∃ e,Hx (l.map (·.2)) (qbY eS eL eR s (s.size+1) 0) [⟨e,⟨#[]⟩,0⟩]:=by
 have htgs : ∀ p∈l,Tg (byl p.2):=by
  induction l with
  |nil=>intro p hp; cases hp
  |cons q l ih=>
   intro p hp
   obtain⟨g,t⟩:=q
   rcases Ws.1 hp with rfl|hp
   ·exact ho.2.1
   ·have hl : ∀ (l:List (List UInt8 × ByteArray)),OkG l -> ∀ p∈l,Tg (byl p.2):=fun l=>by
     induction l with
     |nil=>intro _ p hp; cases hp
     |cons q l ih=>intro h p hp; rcases Ws.1 hp with rfl|hp; exact h.2.1; exact ih h.2.2.2 p hp
    exact hl l ho.2.2.2 p hp
 have hlen:l.length<=(qfS l).length:=by
  clear ho hs
  induction l with
  |nil=>simp
  |cons q l ih=>
   obtain⟨g,t⟩:=q
   have h1:=htgs (g,t) (WQ ..)
   obtain⟨c,w,hw,-⟩:=qgb h1
   have:=ih fun p hp=>htgs p (Wy _ hp)
   simp only[qfS,Wr,Wj]
   have h2:1<=(byl t).length:=by simp only at hw; rw[hw]; simp
   omega
 have hsz:s.size=(qfS l).length+w.length:=by rw[<- qat,hs,Wr]
 rw[qlx,WJ,hs]
 obtain⟨ts,e1,e2⟩:=qlO eS eL eR l (s.size+1) 0 w ho (fun p hp=>by
  have ht:=htgs p (List.mem_of_getLast? hp)
  rcases hsep with h|⟨c,q,h1,h2⟩
  ·rw[h]; exact qt8 _
  ·rw[h1]; exact qlN ht h2 _) (by omega)
 rw[e1]
 obtain⟨k,hk⟩ : ∃ k,s.size+1-l.length=k+1:=⟨s.size-l.length,by omega⟩
 have hend : ∀ j,qmE eS eL eR (k+1) j w=[⟨j+w.length,⟨#[]⟩,0⟩]:=fun j=>by
  have h1:qaD false w=w.length:=by
   have:=hw []
   rw[Wp] at this
   rw[this]; simp[qaD]
  simp only[qmE,h1,List.drop_length,tokL]
  rw[if_pos (.inr rfl)]
  rfl
 rw[hk,hend]
 exact⟨_,e2 _⟩
end
section
theorem qmJ(p:Bool)(l:List ByteArray):qqF p (l++[bs [125]])=false:=by
 rw[qqF,List.foldl_append]
 show qbx (List.foldl qbx p l) (bs [125])=false
 exact qiT (.inr ⟨125,rfl,by decide⟩)
theorem qrv(k:Nat)(b:Ss):qdV k (some b)=(onS::qcb k::bs [123]::b.tx)++[bs [125]]:=by simp[qdV]
theorem qrw(k:Nat)(o:Option Ss)(r:List ByteArray):(qao false (qdV k o++r)).length=(qao false (qdV k o)).length+(qao false r).length:=by
 cases o with
 |none=>simp[qdV,qao]
 |some b=>rw[qfC,qrv,qmJ,Wr]
theorem qlA(h:Nat->Option Ss):(qao false (qa0 h)).length=(qao false (qdV 0 (h 0))).length+((qao false (qdV 1 (h 1))).length+(qao false (qdV 2 (h 2))).length):=by
 rw[qa0,qrw,qrw]
theorem qv0{h:Nat->Option Ss}{k:Nat}{b:Ss}(hk:k<3)(hh:h k=none):(qao false (qa0 fun i=>if i=k then some b else h i)).length=(qao false (qa0 h)).length+(qao false (qdV k (some b))).length:=by
 rw[qlA,qlA]
 have e0 : ∀ j,(qao false (qdV j none)).length=0:=fun j=>rfl
 obtain rfl|rfl|rfl:k=0\/k=1\/k=2:=by omega
 ·simp[hh,e0]; omega
 ·simp[hh,e0]; omega
 ·simp[hh,e0]; omega
theorem qmK{w:ByteArray}{k:Nat}(h:qaY w=some k):k<3/\w=qcb k:=by
 unfold qaY at h
 split at h
 ·cases h; exact⟨by omega,by assumption⟩
 split at h
 ·cases h; exact⟨by omega,by assumption⟩
 split at h
 ·cases h; exact⟨by omega,by assumption⟩
 ·cases h
theorem qrx(k:Nat):qaj qal (qcb k)=false:=by
 unfold qcb
 split<;>decide
theorem qmL (f fi fb:Bool) : ∀ (n:Nat) (h:Nat->Option Ss) (ts:List Tk) (h':Nat->Option Ss) (r:List Tk),(∀ t∈ts,TkG t)->(∀ k,qcI (h k))->(∀ k,3<=k->h k=none)->qcj 12 2 4 f fi fb n h ts=some (.ok h' r) ->
  ∃ l,Hx l ts r/\NI l/\NE l/\(∀ k,qcI (h' k))/\(∀ k,3<=k->h' k=none)/\nx r=some ⟨#[]⟩/\(qao false (qa0 h')).length<=(qao false (qa0 h)).length+(qao false l).length
 |0,h,ts,h',r,_,_,_,e=>by simp[qcj] at e
 |n+1,h,ts,h',r,hg,hh,h3,e=>by
  rw[qcj] at e
  cases hn:nx ts with
  |none=>rw[hn] at e; simp only[Wb] at e; exact absurd e qcq
  |some s=>
   rw[hn] at e
   simp only at e
   split at e
   ·rename_i hs
    simp only[Wb,Rz.ok.injEq] at e
    obtain⟨rfl,rfl⟩:=e
    have:s=⟨#[]⟩:=by
     apply qlw
     have:(byl s).length=0:=by rw[qat,hs]
     rw[WH this]
    rw[this] at hn
    exact⟨[],rfl,trivial,qtY,hh,h3,hn,by simp[qao]⟩
   ·cases hy:qam 12 (bs [111,110]) ts with
    |er i k=>rw[hy] at e; cases e
    |ok u r1=>
     rw[hy] at e
     simp only at e
     have k1:=qdk hy
     cases hm:nx r1 with
     |none=>rw[hm] at e; simp only[Wb] at e; exact absurd e qcq
     |some w=>
      rw[hm] at e
      simp only at e
      cases hk:qaY w with
      |none=>rw[hk] at e; simp only[Wb] at e; exact absurd e qcq
      |some k=>
       rw[hk] at e
       simp only at e
       obtain⟨hk3,rfl⟩:=qmK hk
       obtain⟨t,q,rfl,ts1,ts2⟩:=qhg hm
       split at e
       ·simp only[Wb] at e; exact absurd e qcq
       ·rename_i hnone
        have hnone:h k=none:=by cases hq:h k with
         |none=>rfl
         |some x=>rw[hq] at hnone; exact absurd rfl hnone
        rw[WR] at e
        have hq : ∀ t∈q,TkG t:=fun x hx=>hg x (qcS k1 x (Wy _ hx))
        cases hb:qaN 12 2 f fi fb n 1 q with
        |none=>rw[hb] at e; cases e
        |some y=>
         rw[hb] at e
         cases y with
         |er i c=>cases e
         |ok b r2=>
          simp only at e
          obtain⟨_,b1,b2,lb,b3,b4,b5,b6⟩:=(qmC f fi fb n).2.1 1 q b r2 hq hb
          obtain⟨l,l1,l2,l3,l4,l5,l6,l7⟩:=qmL f fi fb n _ r2 h' r (fun x hx=>hq x (qcS b3 x hx)) (fun j=>by
           show qcI (if j=k then some b else h j)
           split
           ·intro x hx; cases hx; exact⟨b1,by omega⟩
           ·exact hh j) (fun j hj=>by
           show (if j=k then some b else h j)=none
           rw[if_neg (by omega)]
           exact h3 j hj) e
          have hchunk:Hx ((onS::qcb k::bs [123]::lb)++[bs [125]]) ts r2:=by
           have:=qbp k1 (qbp (hx1 (q:=q) ts1 ts2) b3)
           exact this
          refine⟨(onS::qcb k::bs [123]::lb)++[bs [125]]++l,qbp hchunk l1,?_,qtX (qf3 (by decide)) l3,l4,l5,l6,?_⟩
          ·refine qln (qcs (by decide) (qcs (qrx k) (qcs (by decide) ?_))) (qf3 (by decide)) l2
           exact qgw b4 (by decide)
          ·rw[qv0 hk3 hnone] at l7
           have hred:Red ((onS::qcb k::bs [123]::lb)++[bs [125]]) (qdV k (some b)):=by
            rw[qrv]
            exact qb2 (.keep (.keep (.keep b6))) (qc9 _)
           have hle:=qr2 hred false
           rw[qfC _ l,qmJ,Wr]
           omega
theorem qx7 : ∀ (l:List ByteArray) (n i:Nat) (b:List UInt8) (r:List Tk),Hx l (qmE 12 2 6 n i b) r->r≠[] -> ∀ u∈l,u.size≠0
 |[],n,i,b,r,_,_,u,hu=>by cases hu
 |x::l,0,i,b,r,h,hr,u,hu=>by
  obtain⟨t,q,e,_,_,h⟩:=h
  simp only[qmE,Ww] at e
  rw[<- e.2] at h
  cases l with
  |nil=>exact absurd h.symm hr
  |cons y l=>obtain⟨_,_,e2,_⟩:=h; cases e2
 |x::l,n+1,i,b,r,h,hr,u,hu=>by
  rw[qmE] at h
  split at h
  ·obtain⟨t,q,e,_,_,h⟩:=h
   simp only[Ww] at e
   rw[<- e.2] at h
   cases l with
   |nil=>exact absurd h.symm hr
   |cons y l=>obtain⟨_,_,e2,_⟩:=h; cases e2
  ·rename_i hc
   obtain⟨t,q,e,g1,_,h⟩:=h
   simp only[Ww] at e
   rw[<- e.2] at h
   rw[<- e.1] at g1
   rcases Ws.1 hu with rfl|hu
   ·intro h0
    apply hc
    right
    have:=congrArg ByteArray.size g1
    simp only[qav] at this
    omega
   ·exact qx7 l n _ _ r h hr u hu
theorem qkw{f fi fb:Bool}{s:ByteArray}{h:Nat->Option Ss}{r:List Tk}(hp:qbK f fi fb s = .ok h r):(∀ k,qcI (h k))/\(∀ k,3<=k->h k=none)/\(qao false (qa0 h)).length<=s.size/\s.size<=2000:=by
 by_cases hbig:2000<s.size
 ·rw[qbK,if_pos hbig] at hp; cases hp
 ·have hv:=qcD (f:=f) (fi:=fi) (fb:=fb) hbig
  rw[hp] at hv
  obtain⟨l,l1,l2,_,l4,l5,l6,l7⟩:=qmL f fi fb _ _ _ _ _ (qpX s _ 0) (fun k x hx=>by cases hx) (fun k _=>rfl) hv
  refine⟨l4,l5,?_,by omega⟩
  have e:qh7 s=qmE 12 2 6 (s.size+1) 0 (byl s):=by
   show qbY 12 2 6 s (s.size+1) 0=_
   rw[qlx,WJ]
  have l1:Hx l (qh7 s) r:=l1
  rw[e] at l1
  have hr:r≠[]:=fun h0=>by rw[h0] at l6; cases l6
  have:=qp0 l _ _ _ _ false l1 l2 (qx7 l _ _ _ _ l1 hr) (fun h=>by cases h)
  rw[qat] at this
  have h0:(qao false (qa0 fun _=>none)).length=0:=rfl
  omega
theorem qry{f fi fb:Bool}{s:ByteArray}(hs : ¬ 2000<s.size){y:Rz (Nat->Option Ss)}(h : ∃ n,qcj 12 2 4 f fi fb n (fun _=>none) (qh7 s)=some y):qbK f fi fb s=y:=by
 obtain⟨n,h⟩:=h
 have h1:=qhp h (WG n (10*(qh7 s).length+10))
 have h2:=qhp (qcD (f:=f) (fi:=fi) (fb:=fb) hs) (WD n (10*(qh7 s).length+10))
 rw[h1] at h2
 exact (WC h2).symm
theorem qrz{ts:List ByteArray}(hcl:Ok2 ts) : ∃ e,Hx ts (qh7 (bs (qao false ts))) [⟨e,⟨#[]⟩,0⟩]:=by
 obtain⟨l,hl,hm⟩ : ∃ l:List (List UInt8 × ByteArray),OkG l/\l.map (·.2)=ts/\qfS l=qao false ts:=by
  have key : ∀ (ts:List ByteArray) (p:Bool),Ok2 ts -> ∃ l:List (List UInt8 × ByteArray),OkG l/\l.map (·.2)=ts/\qfS l=qao p ts/\(∀ q,l.head?=some q -> ∃ t,ts.head?=some t/\q=(gap p t,t)):=by
   intro ts
   induction ts with
   |nil=>intro p _; exact⟨[],trivial,rfl,rfl,fun q h=>by cases h⟩
   |cons t ts ih=>
    intro p ho
    obtain⟨l,l1,l2,l3,l4⟩:=ih (qbx p t) ho.2.2
    have hwg:qpJ (gap p t):=by
     unfold gap
     split
     ·exact qpK (.inl rfl)
     ·exact qlM
    refine⟨(gap p t,t)::l,⟨hwg,ho.1,fun q hq=>?_,l1⟩,by simp[l2],by simp[qfS,qao,l3],fun q hq=>⟨t,rfl,by cases hq; rfl⟩⟩
    obtain⟨u,hu,rfl⟩:=l4 q hq
    have hadj:=ho.2.1 u hu
    simp only
    by_cases hgap:(qbx p t&&qaj qaq u)=true
    ·left
     exact⟨32,[],by simp[gap,hgap],.inl rfl⟩
    ·right
     have hgap':(qbx p t&&qaj qaq u)=false:=by simpa using hgap
     refine⟨by simp[gap,hgap'],?_,hadj⟩
     rw[qrT ho.1 false p]
     exact hgap'
  obtain⟨l,l1,l2,l3,_⟩:=key ts false hcl
  exact⟨l,l1,l2,l3⟩
 have:=qoR 12 2 6 hl qlM (.inl rfl) (s:=bs (qao false ts)) (by rw[qbi,hm.2,Wp])
 rw[hm.1] at this
 exact this
theorem qpu{h:Nat->Option Ss}(hg : ∀ k,qcI (h k)) : ∃ e,Hx (qa0 h) (qh7 (bs (qao false (qa0 h)))) [⟨e,⟨#[]⟩,0⟩]:=qrz (qu2 hg).ok
theorem qnz{f fi fb:Bool}{h:Nat->Option Ss}(hg : ∀ k,qcI (h k))(hs:(qao false (qa0 h)).length<=2000) : ∃ r,qbK f fi fb (bs (qao false (qa0 h))) = .ok (fun k=>if k<3 then (h k).map (·.fl f fi fb) else none) r:=by
 obtain⟨e,hx⟩:=qpu hg
 exact⟨_,qry (by rw[qav]; omega) (rbP hg hx rfl)⟩
end
section
def NZ{α : Type}:Rz α -> Prop
 |.ok _ _=>True
 |.er _ c=>c≠0
def NZo{α : Type}:Option (Rz α)->Prop
 |some x=>NZ x
 |none=>True
theorem qdq{α : Type}{c:Nat}(h:c≠0)(ts:List Tk):NZ (failP c ts:Rz α):=by
 cases ts with
 |nil=>exact h
 |cons t r=>
  show (if t.bad=0 then c else t.bad)≠0
  split
  ·exact h
  ·assumption
theorem qec(x:ByteArray)(ts:List Tk):NZ (qam 12 x ts):=by
 cases ts with
 |nil=>exact (show (12:Nat)≠0 by omega)
 |cons t r=>
  simp only[qam]
  split
  ·trivial
  ·exact qdq (by omega) _
theorem qkB(x:ByteArray)(lv:Nat)(ts:List Tk):NZ (qbO 12 2 x lv ts):=by
 unfold qbO
 split
 ·exact qdq (by omega) _
 ·exact qec x ts
theorem qlK{α : Type}(a : α)(ts:List Tk):NZ (qa2 12 a ts):=by
 have h:=qec (bs [59]) ts
 unfold qa2
 cases hx:qam 12 (bs [59]) ts with
 |ok=>trivial
 |er i c=>rw[hx] at h; exact h
theorem qpD(f:Bool) : ∀ n:Nat,(∀ p lv ts,NZo (qak 12 2 f n p lv ts))/\(∀ p lv e ts,NZo (qbR 12 2 f n p lv e ts))/\(∀ lv ts,NZo (qa6 12 2 f n lv ts))
 |0=>⟨fun _ _ _=>by simp[qak,NZo],fun _ _ _ _=>by simp[qbR,NZo],fun _ _=>by simp[qa6,NZo]⟩
 |n+1=>by
  obtain⟨h1,h2,h3⟩:=qpD f n
  refine⟨fun p lv ts=>?_,fun p lv e ts=>?_,fun lv ts=>?_⟩
  ·simp only[qak]
   split
   ·have ho:=qkB (ustr (p==7)) (lv+1) ts
    split
    ·rename_i e; rw[e] at ho; exact ho
    ·rename_i r e
     have hx:=h1 p (lv+1) r
     split
     ·trivial
     ·exact hx
   split
   ·have hx:=h1 (p+1) lv ts
    split
    ·exact h2 _ _ _ _
    ·exact hx
   split
   ·exact qdq (by omega) _
   split
   ·trivial
   split
   ·trivial
   split
   ·trivial
   split
   ·trivial
   split
   ·have hx:=h3 lv ts.tail
    split
    ·trivial
    ·exact hx
   split
   ·trivial
   have ho:=qkB (bs [40]) (lv+1) ts
   split
   ·rename_i e; rw[e] at ho; exact ho
   ·rename_i r e
    have hx:=h1 1 (lv+1) r
    split
    ·rename_i r' _
     have hy:=qec (bs [41]) r'
     split
     ·trivial
     ·rename_i e; rw[e] at hy; exact hy
    ·exact hx
  ·simp only[qbR]
   split
   ·split
    ·trivial
    ·exact qdq (by omega) _
   ·split
    ·trivial
    ·have hx:=h1 (p+1) lv ts.tail
     split
     ·split
      ·trivial
      ·exact h2 _ _ _ _
     ·exact hx
  ·simp only[qa6]
   have ho:=qkB (bs [91]) (lv+1) ts
   split
   ·rename_i e; rw[e] at ho; exact ho
   ·rename_i r e
    have hx:=h1 1 (lv+1) r
    split
    ·rename_i r' _
     have hy:=qec (bs [93]) r'
     split
     ·trivial
     ·rename_i e; rw[e] at hy; exact hy
    ·exact hx
theorem qpE(f fi fb:Bool) : ∀ n:Nat,(∀ lv ts,NZo (qbT 12 2 f fi fb n lv ts))/\(∀ lv ts,NZo (qaN 12 2 f fi fb n lv ts))/\(∀ lv a ts,NZo (qbw 12 2 f fi fb n lv a ts))
 |0=>⟨fun _ _=>by simp[qbT,NZo],fun _ _=>by simp[qaN,NZo],fun _ _ _=>by simp[qbw,NZo]⟩
 |n+1=>by
  obtain⟨h1,h2,h3⟩:=qpE f fi fb n
  obtain⟨x1,_,x3⟩:=qpD f n
  have two : ∀ {g:E->Ss} (lv:Nat) (r:List Tk),NZo (match qak 12 2 f n 1 lv r with
    |some (.ok b r2)=>some (qa2 12 (g b) r2)
    |some (.er i k)=>some (.er i k)
    |none=>none):=fun {g} lv r=>by
   have hx:=x1 1 lv r
   split
   ·exact qlK _ _
   ·rename_i e; rw[e] at hx; exact hx
   ·trivial
  have three : ∀ {g:E->Ss} (x:ByteArray) (lv:Nat) (r:List Tk),NZo (match qam 12 x r with
    |.ok _ r1=>match qak 12 2 f n 1 lv r1 with
     |some (.ok b r2)=>some (qa2 12 (g b) r2)
     |some (.er i k)=>some (.er i k)
     |none=>none
    |.er i k=>some (.er i k)):=fun {g} x lv r=>by
   have hx:=qec x r
   split
   ·exact two _ _
   ·rename_i e; rw[e] at hx; exact hx
  refine⟨fun lv ts=>?_,fun lv ts=>?_,fun lv a ts=>?_⟩
  ·simp only[qbT]
   split
   ·exact qdq (by omega) _
   split
   ·have hx:=x1 1 lv ts.tail
    split
    ·rename_i c r _
     have hb:=h2 (lv+1) r
     split
     ·rename_i b r1 _
      split
      ·exact qdq (by omega) _
      ·split
       ·have hb2:=h2 (lv+1) r1.tail
        split
        ·trivial
        ·rename_i e; rw[e] at hb2; exact hb2
        ·trivial
       ·trivial
     ·rename_i e; rw[e] at hb; exact hb
     ·trivial
    ·rename_i e; rw[e] at hx; exact hx
    ·trivial
   split
   ·have hx:=x1 1 lv ts.tail
    split
    ·rename_i c r _
     have hb:=h2 (lv+1) r
     split
     ·trivial
     ·rename_i e; rw[e] at hb; exact hb
     ·trivial
    ·rename_i e; rw[e] at hx; exact hx
    ·trivial
   split
   ·have hx:=x1 1 lv ts.tail
    split
    ·exact three _ _ _
    ·rename_i e; rw[e] at hx; exact hx
    ·trivial
   split
   ·exact qlK _ _
   split
   ·have hx:=x3 lv ts.tail
    split
    ·exact three _ _ _
    ·rename_i e; rw[e] at hx; exact hx
    ·trivial
   split
   ·exact three _ _ _
   ·exact qdq (by omega) _
  ·simp only[qaN]
   have ho:=qkB (bs [123]) lv ts
   split
   ·rename_i e; rw[e] at ho; exact ho
   ·exact h3 _ _ _
  ·simp only[qbw]
   split
   ·exact qdq (by omega) _
   ·split
    ·trivial
    ·have hx:=h1 lv ts
     split
     ·exact h3 _ _ _
     ·rename_i e; rw[e] at hx; exact hx
     ·trivial
theorem qpF(f fi fb:Bool) : ∀ (n:Nat) h ts,NZo (qcj 12 2 4 f fi fb n h ts)
 |0,h,ts=>by simp[qcj,NZo]
 |n+1,h,ts=>by
  simp only[qcj]
  split
  ·exact qdq (by omega) _
  ·split
   ·trivial
   ·have hx:=qec (bs [111,110]) ts
    split
    ·rename_i e; rw[e] at hx; exact hx
    ·rename_i r _
     split
     ·exact qdq (by omega) _
     ·split
      ·exact qdq (by omega) _
      ·split
       ·exact qdq (by omega) _
       ·have hb:=(qpE f fi fb n).2.1 1 r.tail
        split
        ·exact qpF f fi fb n _ _
        ·rename_i e; rw[e] at hb; exact hb
        ·trivial
end
end Go.Pm
section
namespace Go.Pm.F
variable(C:Task->Option Res)(q:Nat)(fr:Fr)(σ : S)
@[simp] def F15a0x:PC:=(rn [jj 7 (.alloc [zN,zN,eN,sN]),st 4 7 18] [3,4,7])
def F15a0:PC:=F15a0x
@[simp] def F15b0x:PC:=(.block 3 (.seq (.seq (rn [fa 19 0 7,l1 20 19,bk 21 .neq 20 1,mv 22 21,jt 23 22 (.fieldAddr 0 (.t 7)),jt 24 22 (.load false 1 (.t 23)),jt 25 22 (.bin .neq (.t 24) (kk 10)),jj 26 (.pick (.t 22) (.t 25) kF)] [3,4,7,26]) (.cond (.t 26) (.exit 3) (.skip))) (.seq (rn [l1 28 4,fa 29 2 7,l1 30 29,jj 31 (.lookup .s zN (.t 28) (.t 30) true),mv 27 31,ex 32 27 0,ex 33 27 1,mv 8 32,mv 9 33] [3,4,7,9]) (.seq (rn [mv 34 9,jj 35 (.un .not (.t 34))] [3,4,7,35]) (.cond (.t 35) (.seq (rn [l1 36 4,fa 37 2 7,l1 38 37,l1 39 3,ls 40 39,jn (.mapset .s (.t 36) (.t 38) (.t 40))] [3,7]) (rn [l1 41 3,fa 42 2 7,l1 43 42,jj 44 (.bslice 1 [eN] [(0,1,(.t 43))]),jj 45 (.append 1 16 (.t 41) (.t 44)),st 1 3 45] [])) (.skip))))))
def F15b0:PC:=F15b0x
end Go.Pm.F
end
namespace Go.Pm
section
open F
inductive NmSt:S->V->S->Nat->List ByteArray->Ob->Prop
 |a (l:List ByteArray) (x:Ob):NmSt [] (.dat (qwn l)) [x] 0 l x
 |b (l:List ByteArray) (x:Ob) (m:Nat) (h:l≠[]):NmSt [] (.gsl (strC l) l.length 1 0) [.tip m,x] 1 l x
end
section
open F
attribute [local simp] dkey
def mapM:Nat->List ByteArray->List (Value × V)
 |_,[]=>[]
 |i,s::l=>(.string s,.int i)::mapM (i+1) l
theorem qi6 : ∀ (l:List ByteArray) (i:Nat),qiG (mapM i l)=[]
 |[],i=>rfl
 |x::l,i=>by simp[mapM,qi6 l]
theorem qle(r:Nat->Nat) : ∀ (l:List ByteArray) (i:Nat),qtA r (mapM i l)=mapM i l
 |[],i=>rfl
 |x::l,i=>by simp[mapM,qle r l]
attribute [local simp] qi6 qle dkey
end
section
open F
attribute [local simp] qi6 qle dkey
abbrev qAz(r:D)(i:Int):Ob := .loop ⟨[(3,.ptr 2 0),(4,.ptr 3 0),(12,.dat r),(13,.int i),(17,.fn 38 [] [.ptr 1 0])],[18],F15a0,F15b0,0,none⟩
abbrev T1(r:D)(j:Int)(bx:Ob)(l:List ByteArray):S:=[qAz r j,bx,.cells [.gsl (strC l) l.length 1 4],.cells [.mp 5],.tip l.length,.map (mapM 0 l)]
end
end Go.Pm
section
namespace Go.Pm.F
variable(C:Task->Option Res)(q:Nat)(fr:Fr)(σ : S)
def F17:PFun:=⟨2,[.tmp 4],.seq (rn [mx 4 (kk 0)] [0,1]) (.seq (.seq (rn [mv 5 0,bk 6 .lss 5 0] [0,1,6]) (.cond (.t 6) (rn [mv 7 0,bk 8 .add 7 1,jj 9 (.un .neg (.t 8)),mv 0 9] [0,1]) (.skip))) (.seq (rn [mv 10 0,mv 11 1,bn 12 .rem 10 11,mv 4 12] [4]) (.ret))),false,false,false⟩
@[simp] def F20l0x:PC:=(.seq (.seq (rn [mv 10 5,bk 11 .neq 10 0] [0,3,4,5,11]) (.cond (.t 11) (.skip) (.exit 0))) (.seq (.block 1 (.seq (rn [mv 14 5,bk 15 .rem 14 10,mv 6 15] [0,3,4,5,6]) (.seq (.seq (rn [mv 16 6,bk 17 .lss 16 0] [0,3,4,5,6,17]) (.cond (.t 17) (rn [mv 18 6,jj 19 (.un .neg (.t 18)),mv 6 19] [0,3,4,5,6]) (.skip))) (rn [mv 20 3,mv 21 6,mv 22 6,bk 23 .add 22 1,jj 24 (.sliceS (.t 20) (some (.t 21)) (some (.t 23))),mv 25 4,bn 26 .add 24 25,mv 4 26] [0,3,4,5])))) (rn [mv 12 5,bk 13 .quo 12 10,mv 5 13] [0,3,4,5])))
def F20l0:PC:=F20l0x
theorem qmG:run C q F20l0 fr σ = run C q F20l0x fr σ := rfl
def F20:PFun:=⟨1,[.tmp 2],.seq (rn [jj 2 (.mov (.c (.string ⟨#[]⟩)))] [0]) (.seq (.seq (rn [mv 7 0,bk 8 .eql 7 0] [0,8]) (.cond (.t 8) (.seq (rn [jj 2 (.mov (.c (.string ⟨#[48]⟩)))] [2]) (.ret)) (.skip))) (.seq (rn [jj 3 (.mov (.c (.string ⟨#[48,49,50,51,52,53,54,55,56,57]⟩)))] [0,3]) (.seq (rn [jj 4 (.mov (.c (.string ⟨#[]⟩)))] [0,3,4]) (.seq (.seq (rn [mv 9 0,mv 5 9] [0,3,4,5]) (.block 0 (.loop F20l0))) (.seq (.seq (rn [mv 27 0,bk 28 .lss 27 0] [4,28]) (.cond (.t 28) (.seq (rn [mv 29 4,jj 30 (.bin .add (.c (.string ⟨#[45]⟩)) (.t 29)),mv 2 30] [2]) (.ret)) (.skip))) (.seq (rn [mv 31 4,mv 2 31] [2]) (.ret))))))),false,false,false⟩
def F23:PFun:=⟨2,[.tmp 4],.seq (rn [jj 4 (.mov (.c (.slice none 0 0)))] [0,1]) (.seq (rn [jj 5 (.mov (.c (.slice none 0 0)))] [0,1,5]) (.seq (rn [mv 6 5,mv 7 0,mv 8 0,ls 9 8,mv 10 1,jj 11 (.min [(.t 9),(.t 10)]),jj 12 (.slice 1 (.t 7) none (some (.t 11))),jj 13 (.append 1 8 (.t 6) (.t 12)),mv 4 13] [4]) (.ret))),false,false,false⟩
end Go.Pm.F
end
section
namespace Go.Pm.F
variable(C:Task->Option Res)(q:Nat)(fr:Fr)(σ : S)
@[simp] def F123l0x:PC:=(.seq (.seq (rn [mv 10 5,bk 11 .lss 10 3] [2,3,4,5,11]) (.cond (.t 11) (.skip) (.exit 0))) (.seq (.block 1 (.seq (rn [mv 14 3,jj 15 (.call 136 [(.t 14),(kk 4)]),bk 16 .gtr 15 0] [2,3,4,5,16]) (.cond (.t 16) (rn [mv 17 5,mv 18 3,jj 19 (.call 137 [(.t 18),(kk 2),(kk 3)]),fa 20 0 4,jj 21 (.indexAddrA 3 4 (.t 20) (.t 17)),st 4 21 19] [2,3,4,5]) (.skip)))) (rn [mv 12 5,bk 13 .add 12 1,mv 5 13] [2,3,4,5])))
def F123l0:PC:=F123l0x
theorem qcX:run C q F123l0 fr σ = run C q F123l0x fr σ := rfl
def F123:PFun:=⟨1,[.cell 2 true 12],.seq (rn [jj 2 (.alloc [zN,zN,eN,sN,zN,zN,eN,sN,zN,zN,eN,sN])] [0,2]) (.seq (rn [mv 6 0,jj 7 (.call 23 [(.t 6),(kk 60)]),jj 8 (.build [sN,zN] [(0,1,(.t 7))]),bx 9 8,mv 3 9] [2,3]) (.seq (rn [jj 4 (.alloc [zN,zN,eN,sN,zN,zN,eN,sN,zN,zN,eN,sN])] [2,3,4]) (.seq (.seq (rn [mx 5 (kk 0)] [2,3,4,5]) (.block 0 (.loop F123l0))) (.seq (rn [la 22 12 4,st 12 2 22] [2]) (.ret))))),false,false,false⟩
def F136:PFun:=⟨2,[.tmp 4],.seq (rn [mx 4 (kk 0)] [0,1]) (.seq (.seq (.region (some []) [mv 6 0,nc 7 6,fa 8 1 7,l1 9 8,mv 10 0,nc 11 10,fa 12 0 11,l1 13 12,ls 14 13,bn 15 .geq 9 14] [0,1,15]) (.cond (.t 15) (.seq (rn [mx 4 (kk 0)] [4]) (.ret)) (.skip))) (.seq (.region (some []) [mv 16 0,nc 17 16,fa 18 0 17,l1 19 18,mv 20 0,nc 21 20,fa 22 1 21,l1 23 22,jj 24 (.indexAddr 1 (.t 19) (.t 23)),l1 25 24,jj 26 (.call 17 [(.t 25),(kk 1000000)]),mv 5 26] [0,1,5] [10]) (.seq (rn [mv 27 0,nc 28 27,fa 29 1 28,l1 30 29,bk 31 .add 30 1,nc 32 27,fa 33 1 32,st 1 33 31] [1,5]) (.seq (rn [mv 34 5,mv 35 1,bn 36 .rem 34 35,mv 4 36] [4]) (.ret))))),false,false,false⟩
@[simp] def F137l0x:PC:=(.seq (.seq (rn [mv 14 8,bk 15 .gtr 14 0] [0,1,6,7,8,15]) (.cond (.t 15) (.skip) (.exit 0))) (.seq (.block 1 (.region (some []) [fa 18 3 7,⟨some 19,.load false 1 (.t 18),none,[4]⟩,mv 20 0,mv 21 1,cl 22 162 [20,21],jj 23 (.bslice 1 [zN,zN,eN,sN] [(0,4,(.t 22))]),jj 24 (.append 4 56 (.t 19) (.t 23)),fa 25 3 7,st 1 25 24] [0,1,6,7,8] [4])) (rn [mv 16 8,bk 17 .sub 16 1,mv 8 17] [0,1,6,7,8])))
def F137l0:PC:=F137l0x
theorem qfs:run C q F137l0 fr σ = run C q F137l0x fr σ := rfl
def F137:PFun:=⟨3,[.cell 6 true 4],.seq (rn [jj 6 (.alloc [zN,zN,eN,sN])] [0,1,2,6]) (.seq (rn [jj 9 (.build [zN,zN,eN,sN] [(0,1,(kk 7))]),jj 7 (.alloc [zN,zN,eN,sN]),st 4 7 9] [0,1,2,6,7]) (.seq (.seq (rn [mv 10 0,mv 11 2,bk 12 .add 11 1,cl 13 136 [10,12],mv 8 13] [0,1,6,7,8]) (.block 0 (.loop F137l0))) (.seq (rn [la 26 4 7,st 4 6 26] [6]) (.ret)))),false,false,false⟩
def F162:PFun:=⟨2,[.cell 4 true 4],.seq (rn [jj 4 (.alloc [zN,zN,eN,sN])] [0,1,4]) (.seq (rn [mv 13 0,jj 14 (.call 136 [(.t 13),(kk 10)]),mv 5 14] [0,1,4,5]) (.seq (.seq (rn [mv 15 1,bk 16 .leq 15 0] [0,1,4,5,16]) (.cond (.t 16) (rn [mv 17 5,bk 18 .rem 17 7,mv 5 18] [0,1,4,5]) (.skip))) (.seq (.seq (rn [mv 19 5] [0,1,4,19]) (.block 0 (.seq (.seq (rn [bk 21 .eql 19 0,mv 20 21] [0,1,4,19,20]) (.cond (.t 20) (.skip) (rn [bk 22 .eql 19 1,mv 20 22] [0,1,4,19,20]))) (.cond (.t 20) (.seq (.region (some []) [jj 23 (.bslice 4 [eN,eN,eN,eN] [(0,1,(.c (.string ⟨#[105]⟩))),(1,1,(.c (.string ⟨#[110]⟩))),(2,1,(.c (.string ⟨#[115,117,109]⟩))),(3,1,(.c (.string ⟨#[118,51]⟩)))]),mv 24 0,jj 25 (.call 136 [(.t 24),(kk 4)]),jj 26 (.indexAddr 1 (.t 23) (.t 25)),⟨some 27,.load false 1 (.t 26),none,[6]⟩,mv 28 0,jj 29 (.call 177 [(.t 28),(kk 2)]),jj 30 (.call 176 [(kk 1),(.t 27),(.t 29)]),st 4 4 30] [4] [6,7]) (.ret)) (.seq (.seq (rn [bk 32 .eql 19 2,mv 31 32] [0,1,4,19,31]) (.cond (.t 31) (.skip) (.seq (rn [bk 33 .eql 19 3,mv 31 33] [0,1,4,19,31]) (.cond (.t 31) (.skip) (rn [bk 34 .eql 19 4,mv 31 34] [0,1,4,19,31]))))) (.cond (.t 31) (.seq (rn [jj 35 (.bslice 6 [eN,eN,eN,eN,eN,eN] [(0,1,(.c (.string ⟨#[120]⟩))),(1,1,(.c (.string ⟨#[121]⟩))),(2,1,(.c (.string ⟨#[118,120]⟩))),(3,1,(.c (.string ⟨#[118,121]⟩))),(4,1,(.c (.string ⟨#[97]⟩))),(5,1,(.c (.string ⟨#[98]⟩)))]),mv 36 0,jj 37 (.call 136 [(.t 36),(kk 6)]),jj 38 (.indexAddr 1 (.t 35) (.t 37)),l1 39 38,mv 6 39] [0,4,6]) (.seq (rn [mv 40 0,jj 41 (.call 177 [(.t 40),(kk 1)]),jj 7 (.alloc [zN,zN,eN,sN]),st 4 7 41] [0,4,6,7]) (.seq (.region (some []) [mv 42 6,⟨some 43,.load true 4 (.t 7),none,[3]⟩,mv 44 0,jj 45 (.call 177 [(.t 44),(kk 2)]),jj 46 (.call 178 [(kk 2),(.t 42),(.t 43),(.t 45)]),st 4 4 46] [4] [3,4]) (.ret)))) (.seq (rn [bk 48 .eql 19 5,mv 47 48] [0,1,4,19,47]) (.cond (.t 47) (.seq (rn [mv 49 0,jj 50 (.call 177 [(.t 49),(kk 0)]),jj 8 (.alloc [zN,zN,eN,sN]),st 4 8 50] [0,4,8]) (.seq (.region (some []) [⟨some 51,.load true 4 (.t 8),none,[2]⟩,mv 52 0,jj 53 (.call 177 [(.t 52),(kk 1)]),jj 54 (.call 178 [(kk 5),(.c (.string ⟨#[]⟩)),(.t 51),(.t 53)]),st 4 4 54] [4] [2,3]) (.ret))) (.seq (rn [bk 56 .eql 19 6,mv 55 56] [0,1,4,19,55]) (.cond (.t 55) (.seq (.seq (rn [mv 57 0,jj 58 (.call 136 [(.t 57),(kk 3)]),bk 59 .gtr 58 0] [0,4,59]) (.cond (.t 59) (.seq (rn [mv 60 0,jj 61 (.call 177 [(.t 60),(kk 1)]),jj 62 (.call 176 [(kk 1),(.c (.string ⟨#[110]⟩)),(.t 61)]),st 4 4 62] [4]) (.ret)) (.skip))) (.seq (rn [jj 63 (.build [zN,zN,eN,sN] [(0,1,(kk 6))]),st 4 4 63] [4]) (.ret))) (.seq (rn [bk 65 .eql 19 7,mv 64 65] [0,1,4,64]) (.cond (.t 64) (.seq (rn [mv 66 0,jj 67 (.call 179 [(.t 66),(kk 1)]),jj 9 (.alloc [zN,zN,eN,sN]),st 4 9 67] [0,1,4,9]) (.seq (.region (some []) [⟨some 68,.load true 4 (.t 9),none,[4]⟩,mv 69 0,mv 70 1,bk 71 .sub 70 1,jj 72 (.call 137 [(.t 69),(.t 71),(kk 2)]),jj 73 (.call 178 [(kk 4),(.c (.string ⟨#[]⟩)),(.t 68),(.t 72)]),st 4 4 73] [4] [4,5]) (.ret))) (.skip))))))))))))) (.seq (rn [mv 74 0,jj 75 (.call 179 [(.t 74),(kk 2)]),jj 10 (.alloc [zN,zN,eN,sN]),st 4 10 75] [0,1,4,10]) (.seq (rn [mv 76 0,mv 77 1,bk 78 .sub 77 1,jj 79 (.call 137 [(.t 76),(.t 78),(kk 2)]),jj 11 (.alloc [zN,zN,eN,sN]),st 4 11 79] [0,1,4,10,11]) (.seq (rn [jj 80 (.build [zN,zN,eN,sN] [(0,1,(kk 7))]),jj 12 (.alloc [zN,zN,eN,sN]),st 4 12 80] [0,1,4,10,11,12]) (.seq (.seq (rn [mv 81 0,jj 82 (.call 136 [(.t 81),(kk 2)]),bk 83 .eql 82 1] [0,1,4,10,11,12,83]) (.cond (.t 83) (rn [mv 84 0,mv 85 1,bk 86 .sub 85 1,jj 87 (.call 137 [(.t 84),(.t 86),(kk 2)]),st 4 12 87] [4,10,11,12]) (.skip))) (.seq (rn [la 88 4 10,la 89 4 11,la 90 4 12,jj 91 (.bslice 3 [zN,zN,eN,sN,zN,zN,eN,sN,zN,zN,eN,sN] [(0,4,(.t 88)),(4,4,(.t 89)),(8,4,(.t 90))]),jj 92 (.build [zN,zN,eN,sN] [(0,1,(kk 3)),(3,1,(.t 91))]),st 4 4 92] [4]) (.ret))))))))),false,false,false⟩
def F176:PFun:=⟨3,[.cell 6 true 4],.seq (rn [bx 5 2,jj 6 (.alloc [zN,zN,eN,sN])] [0,1,5,6]) (.seq (rn [mv 7 0,mv 8 1,la 9 4 5,jj 10 (.bslice 1 [zN,zN,eN,sN] [(0,4,(.t 9))]),jj 11 (.build [zN,zN,eN,sN] [(0,1,(.t 7)),(2,1,(.t 8)),(3,1,(.t 10))]),st 4 6 11] [6]) (.ret)),false,false,false⟩
def F177:PFun:=⟨2,[.cell 4 true 4],.seq (rn [jj 4 (.alloc [zN,zN,eN,sN])] [0,1,4]) (.seq (rn [mv 9 0,jj 10 (.call 136 [(.t 9),(kk 12)]),mv 5 10] [0,1,4,5]) (.seq (.seq (rn [mv 11 1,bk 12 .leq 11 0] [0,1,4,5,12]) (.cond (.t 12) (rn [mv 13 5,bk 14 .rem 13 6,mv 5 14] [0,1,4,5]) (.skip))) (.seq (.seq (rn [mv 15 5] [0,1,4,15]) (.block 0 (.seq (.seq (rn [bk 17 .eql 15 0,mv 16 17] [0,1,4,15,16]) (.cond (.t 16) (.skip) (rn [bk 18 .eql 15 1,mv 16 18] [0,1,4,15,16]))) (.cond (.t 16) (.seq (rn [jj 19 (.bslice 8 [zN,zN,zN,zN,zN,zN,zN,zN] [(0,1,(kk 0)),(1,1,(kk 1)),(2,1,(kk 2)),(3,1,(kk 3)),(4,1,(kk 7)),(5,1,(kk 100)),(6,1,(kk 1024)),(7,1,(kk 2147483647))]),mv 20 0,jj 21 (.call 136 [(.t 20),(kk 8)]),jj 22 (.indexAddr 1 (.t 19) (.t 21)),l1 23 22,jj 24 (.build [zN,zN,eN,sN] [(0,1,(kk 8)),(1,1,(.t 23))]),st 4 4 24] [4]) (.ret)) (.seq (.seq (rn [bk 26 .eql 15 2,mv 25 26] [0,1,4,15,25]) (.cond (.t 25) (.skip) (rn [bk 27 .eql 15 3,mv 25 27] [0,1,4,15,25]))) (.cond (.t 25) (.seq (rn [jj 28 (.bslice 4 [eN,eN,eN,eN] [(0,1,(.c (.string ⟨#[105]⟩))),(1,1,(.c (.string ⟨#[110]⟩))),(2,1,(.c (.string ⟨#[115,117,109]⟩))),(3,1,(.c (.string ⟨#[118,51]⟩)))]),mv 29 0,jj 30 (.call 136 [(.t 29),(kk 4)]),jj 31 (.indexAddr 1 (.t 28) (.t 30)),l1 32 31,jj 33 (.build [zN,zN,eN,sN] [(0,1,(kk 10)),(2,1,(.t 32))]),st 4 4 33] [4]) (.ret)) (.seq (.seq (rn [bk 35 .eql 15 4,mv 34 35] [0,1,4,15,34]) (.cond (.t 34) (.skip) (rn [bk 36 .eql 15 5,mv 34 36] [0,1,4,15,34]))) (.cond (.t 34) (.seq (rn [jj 37 (.bslice 3 [eN,eN,eN] [(0,1,(.c (.string ⟨#[115,101,108,102]⟩))),(1,1,(.c (.string ⟨#[111,116,104,101,114]⟩))),(2,1,(.c (.string ⟨#[116,105,99,107]⟩)))]),mv 38 0,jj 39 (.call 136 [(.t 38),(kk 3)]),jj 40 (.indexAddr 1 (.t 37) (.t 39)),l1 41 40,jj 42 (.build [zN,zN,eN,sN] [(0,1,(kk 12)),(2,1,(.t 41))]),st 4 4 42] [4]) (.ret)) (.seq (.seq (rn [bk 44 .eql 15 6,mv 43 44] [0,1,4,15,43]) (.cond (.t 43) (.skip) (rn [bk 45 .eql 15 7,mv 43 45] [0,1,4,15,43]))) (.cond (.t 43) (.seq (rn [jj 46 (.bslice 8 [eN,eN,eN,eN,eN,eN,eN,eN] [(0,1,(.c (.string ⟨#[120]⟩))),(1,1,(.c (.string ⟨#[121]⟩))),(2,1,(.c (.string ⟨#[118,120]⟩))),(3,1,(.c (.string ⟨#[118,121]⟩))),(4,1,(.c (.string ⟨#[97]⟩))),(5,1,(.c (.string ⟨#[98]⟩))),(6,1,(.c (.string ⟨#[104,105,116]⟩))),(7,1,(.c (.string ⟨#[115,116,105,108,108]⟩)))]),mv 47 0,jj 48 (.call 136 [(.t 47),(kk 8)]),jj 49 (.indexAddr 1 (.t 46) (.t 48)),l1 50 49,mv 6 50] [0,1,4,6]) (.seq (rn [mv 51 6,mv 52 0,mv 53 1,bk 54 .sub 53 1,cl 55 177 [52,54],jj 56 (.call 176 [(kk 11),(.t 51),(.t 55)]),st 4 4 56] [4]) (.ret))) (.seq (rn [bk 58 .eql 15 8,mv 57 58] [0,1,4,57]) (.cond (.t 57) (.seq (rn [mv 59 0,mv 60 1,bk 61 .sub 60 1,cl 62 177 [59,61],jj 63 (.call 176 [(kk 13),(.c (.string ⟨#[45]⟩)),(.t 62)]),st 4 4 63] [4]) (.ret)) (.skip))))))))))))) (.seq (rn [jj 64 (.bslice 4 [eN,eN,eN,eN] [(0,1,(.c (.string ⟨#[43]⟩))),(1,1,(.c (.string ⟨#[45]⟩))),(2,1,(.c (.string ⟨#[42]⟩))),(3,1,(.c (.string ⟨#[47]⟩)))]),mv 65 0,jj 66 (.call 136 [(.t 65),(kk 4)]),jj 67 (.indexAddr 1 (.t 64) (.t 66)),l1 68 67,mv 7 68] [0,1,4,7]) (.seq (rn [mv 69 0,mv 70 1,bk 71 .sub 70 1,cl 72 177 [69,71],jj 8 (.alloc [zN,zN,eN,sN]),st 4 8 72] [0,1,4,7,8]) (.seq (.region (some []) [mv 73 7,⟨some 74,.load true 4 (.t 8),none,[5]⟩,mv 75 0,mv 76 1,bk 77 .sub 76 1,cl 78 177 [75,77],jj 79 (.call 178 [(kk 14),(.t 73),(.t 74),(.t 78)]),st 4 4 79] [4] [5,6]) (.ret))))))),false,false,false⟩
def F178:PFun:=⟨4,[.cell 8 true 4],.seq (rn [bx 6 2,bx 7 3,jj 8 (.alloc [zN,zN,eN,sN])] [0,1,6,7,8]) (.seq (rn [mv 9 0,mv 10 1,la 11 4 6,la 12 4 7,jj 13 (.bslice 2 [zN,zN,eN,sN,zN,zN,eN,sN] [(0,4,(.t 11)),(4,4,(.t 12))]),jj 14 (.build [zN,zN,eN,sN] [(0,1,(.t 9)),(2,1,(.t 10)),(3,1,(.t 13))]),st 4 8 14] [8]) (.ret)),false,false,false⟩
def F179:PFun:=⟨2,[.cell 4 true 4],.seq (rn [jj 4 (.alloc [zN,zN,eN,sN])] [0,1,4]) (.seq (rn [mv 10 0,jj 11 (.call 136 [(.t 10),(kk 8)]),mv 5 11] [0,1,4,5]) (.seq (.seq (rn [mv 12 1,bk 13 .leq 12 0] [0,1,4,5,13]) (.cond (.t 13) (rn [mv 14 5,bk 15 .rem 14 4,mv 5 15] [0,1,4,5]) (.skip))) (.seq (.seq (rn [mv 16 5] [0,1,4,16]) (.block 0 (.seq (rn [bk 18 .eql 16 0,mv 17 18] [0,1,4,16,17]) (.cond (.t 17) (.seq (rn [mv 19 0,jj 20 (.call 136 [(.t 19),(kk 2)]),jj 21 (.build [zN,zN,eN,sN] [(0,1,(kk 9)),(1,1,(.t 20))]),st 4 4 21] [4]) (.ret)) (.seq (.seq (rn [bk 23 .eql 16 1,mv 22 23] [0,1,4,16,22]) (.cond (.t 22) (.skip) (.seq (rn [bk 24 .eql 16 2,mv 22 24] [0,1,4,16,22]) (.cond (.t 22) (.skip) (.seq (rn [bk 25 .eql 16 3,mv 22 25] [0,1,4,16,22]) (.cond (.t 22) (.skip) (rn [bk 26 .eql 16 4,mv 22 26] [0,1,4,16,22]))))))) (.cond (.t 22) (.seq (rn [jj 27 (.bslice 6 [eN,eN,eN,eN,eN,eN] [(0,1,(.c (.string ⟨#[60]⟩))),(1,1,(.c (.string ⟨#[60,61]⟩))),(2,1,(.c (.string ⟨#[62]⟩))),(3,1,(.c (.string ⟨#[62,61]⟩))),(4,1,(.c (.string ⟨#[61,61]⟩))),(5,1,(.c (.string ⟨#[33,61]⟩)))]),mv 28 0,jj 29 (.call 136 [(.t 28),(kk 6)]),jj 30 (.indexAddr 1 (.t 27) (.t 29)),l1 31 30,mv 6 31] [0,1,4,6]) (.seq (rn [mv 32 0,mv 33 1,bk 34 .sub 33 1,cl 35 177 [32,34],jj 7 (.alloc [zN,zN,eN,sN]),st 4 7 35] [0,1,4,6,7]) (.seq (.region (some []) [mv 36 6,⟨some 37,.load true 4 (.t 7),none,[5]⟩,mv 38 0,mv 39 1,bk 40 .sub 39 1,cl 41 177 [38,40],jj 42 (.call 178 [(kk 14),(.t 36),(.t 37),(.t 41)]),st 4 4 42] [4] [5,6]) (.ret)))) (.seq (rn [bk 44 .eql 16 5,mv 43 44] [0,1,4,43]) (.cond (.t 43) (.seq (rn [mv 45 0,mv 46 1,bk 47 .sub 46 1,cl 48 179 [45,47],jj 49 (.call 176 [(kk 13),(.c (.string ⟨#[33]⟩)),(.t 48)]),st 4 4 49] [4]) (.ret)) (.skip))))))))) (.seq (rn [jj 50 (.bslice 2 [eN,eN] [(0,1,(.c (.string ⟨#[38,38]⟩))),(1,1,(.c (.string ⟨#[124,124]⟩)))]),mv 51 0,jj 52 (.call 136 [(.t 51),(kk 2)]),jj 53 (.indexAddr 1 (.t 50) (.t 52)),l1 54 53,mv 8 54] [0,1,4,8]) (.seq (rn [mv 55 0,mv 56 1,bk 57 .sub 56 1,cl 58 179 [55,57],jj 9 (.alloc [zN,zN,eN,sN]),st 4 9 58] [0,1,4,8,9]) (.seq (.region (some []) [mv 59 8,⟨some 60,.load true 4 (.t 9),none,[5]⟩,mv 61 0,mv 62 1,bk 63 .sub 62 1,cl 64 179 [61,63],jj 65 (.call 178 [(kk 14),(.t 59),(.t 60),(.t 64)]),st 4 4 65] [4] [5,6]) (.ret))))))),false,false,false⟩
end Go.Pm.F
end
section
namespace Go.Pm.F
variable(C:Task->Option Res)(q:Nat)(fr:Fr)(σ : S)
def effRows15:List (List Int):=[[0,0],[0,1],[0,1],[1,0],[1,1],[2,0],[0,1],[0,1],[0,1],[2,1],[2,1],[2,1],[2,1],[1,1],[2,1],[2,1],[2,1],[1,1],[0,0],[1,0],[2,0],[0,0]]
def qjr:List D:=effRows15.flatten.map fun n => .lit (.int .i64 n)
end Go.Pm.F
end
section
namespace Go.Pm.F
def qby:Nat->Option PFun
 |17=>some F17
 |23=>some F23
 |123=>some F123
 |132=>some F132
 |136=>some F136
 |137=>some F137
 |149=>some F149
 |150=>some F150
 |151=>some F151
 |152=>some F152
 |153=>some F153
 |154=>some F154
 |155=>some F155
 |162=>some F162
 |170=>some F170
 |171=>some F171
 |172=>some F172
 |173=>some F173
 |176=>some F176
 |177=>some F177
 |178=>some F178
 |179=>some F179
 |192=>some F192
 |193=>some F193
 |194=>some F194
 |195=>some F195
 |196=>some F196
 |197=>some F197
 |198=>some F198
 |199=>some F199
 |202=>some F202
 |203=>some F203
 |_=>none
end Go.Pm.F
end
namespace Go.Pm
section
def E.cost:E->Nat
 |.int n=>(decB n.toNat).length+1
 |.bool n=>if n=0 then 6 else 5
 |.var s=>s.size+1
 |.name s=>s.size+1
 |.field _ s e=>s.size+5+e.cost
 |.un _ _ e=>6+e.cost
 |.bin _ o a b=>o.str.size+5+(a.cost+b.cost)
def Ss.cost:Ss->Nat
 |.nil=>0
 |.assign _ s e r=>s.size+5+e.cost+r.cost
 |.store _ s a b r=>s.size+9+(a.cost+b.cost)+r.cost
 |.effect _ a b r=>11+(a.cost+b.cost)+r.cost
 |.stop r=>7+r.cost
 |.cond w _ c b r=>(if w then 6 else 3)+c.cost+b.cost+r.cost
 |.block _ b r=>4+b.cost+((if qcx r then 5 else 0)+r.cost)
def Co(c0:Int)(cost:Nat)(xs:List Int)(i i':Int):Prop:=i<=i'/\(i'<=i\/i'<=xs.length)/\(cost:Int)<=c0+24*(i'-i)
end
section
open F
theorem qly{n m:Int}(h1:I64 n)(hm:1<=m):Z qby (.call 17 [.int n,.int m] [])=some (.ret (.int (qf1 n m)) []):=by
 refine Z_call (pf:=F17) rfl rfl ?_
 unfold qf1
 have hm0 : ¬ m=0:=by omega
 by_cases h:n<0
 ·have w1:IntKind.i64.wrap (n+1)=n+1:=qae _ (by unfold I64 at h1; omega)
  have w2:IntKind.i64.wrap (-(n+1)) = -(n+1):=qae _ (by unfold I64 at h1; omega)
  simp[F17,h,hm0,w1,w2]
 ·simp[F17,h,hm0]
abbrev qvU(v:D)(i:Int):S:=[.cells [.dat v,.int i]]
abbrev gst(xs:List Int)(i:Int):S:=qvU (qeB xs) i
def qaE(xs:List Int)(i m:Int):Int:=if (xs.length:Int)<=i then 0 else (qf1 (xs.getD i.toNat 0) 1000000).tmod m
def qaH(xs:List Int)(i:Int):Int:=if (xs.length:Int)<=i then i else i+1
structure Bnd(v:D)(xs:List Int)(B:Int):Prop where
 row:RowV v xs
 len:(xs.length:Int)<=B
 big:B<=9223372036854775807
theorem qpq(xs:List Int):RowV (qeB xs) xs:=by
 cases xs
 ·exact .inl ⟨_,rfl,rfl⟩
 ·exact .inr rfl
theorem qbC{xs:List Int}(h:xs.length<=100):Bnd (qeB xs) xs 100:=⟨qpq xs,by omega,by omega⟩
theorem qaz{v:D}{xs:List Int}{i B:Int}(h:0<=i/\i<=B)(hl:Bnd v xs B):0<=qaH xs i/\qaH xs i<=B:=by
 have:=hl.len
 unfold qaH; split<;>omega
theorem qaw(xs:List Int)(i:Int):(qaH xs i=i+1/\i<xs.length)\/(qaH xs i=i /\ ∀ m,qaE xs i m=0):=by
 unfold qaH qaE
 split
 ·exact .inr ⟨rfl,fun m=>rfl⟩
 ·exact .inl ⟨rfl,by omega⟩
theorem qbl{xs:List Int}{i m:Int}(hx : ∀ x∈xs,I64 x)(hm:1<=m):0<=qaE xs i m/\qaE xs i m<m:=by
 unfold qaE
 split
 ·omega
 ·have h0:I64 (xs.getD i.toNat 0):=by
   rw[List.getD_eq_getElem?_getD]
   cases h:xs[i.toNat]? with
   |none=>simp[I64]
   |some y=>exact hx _ (WU h)
  have:=qi8 (m:=1000000) h0 (by omega)
  exact qil this.1 hm
theorem qbs {v:D} {xs:List Int} {i m B:Int} (hx : ∀ x∈xs,I64 x) (hl:Bnd v xs B) (hi:0<=i/\i<=B) (hm:1<=m) :
  Z qby (.call 136 [.ptr 0 0,.int m] (qvU v i))=some (.ret (.int (qaE xs i m)) (qvU v (qaH xs i))):=by
 refine Z_call (pf:=F136) rfl rfl ?_
 have hm0:m≠0:=by omega
 have hb:=hl.len
 have hb2:=hl.big
 rcases hl.row with ⟨o,rfl,rfl⟩|rfl
 ·have h:(0:Int)<=i:=hi.1
  simp[F136,h,qaE,qaH,V.len]
 by_cases h:(xs.length:Int)<=i
 ·simp[F136,h,qaE,qaH,V.len]
 ·have a1:=qd5 (qcP xs) xs.length false i hi.1 (by omega)
  have hlt:i.toNat<xs.length:=by omega
  have a2:=ql1 xs i.toNat hlt
  have a3:=qly (n:=xs[i.toNat]) (m:=1000000) (hx _ (Yt hlt)) (by omega)
  have w1:=qae (i+1) (by omega)
  simp[F136,w1,h,qaE,qaH,V.len,a1,a2,a3,hm0,hlt]
section
variable(k:Int)(s:ByteArray)(a b a' b':Int)(t t':ByteArray)(d d':D)
theorem qro (h1:V.one (.dat d)=true) (h2:V.cells (.dat d)=[.dat d]) :
  Z qby (.call 176 [.int k,.str s,.dat (.agg [.lit (.int .i64 a),.lit (.int .i64 b),.lit (.string t),d])] []) =
   some (.ret (.dat (.agg [.lit (.int .i64 k),.lit (.int .i64 0),.lit (.string s),.sl [.lit (.int .i64 a),.lit (.int .i64 b),.lit (.string t),d] 1 true])) []):=by
 refine Z_call (pf:=F176) rfl rfl ?_
 simp[F176,h1,h2]
theorem qpr (h1:V.one (.dat d)=true) (h2:V.cells (.dat d)=[.dat d]) (h3:V.one (.dat d')=true) (h4:V.cells (.dat d')=[.dat d']) :
  Z qby (.call 178 [.int k,.str s,.dat (.agg [.lit (.int .i64 a),.lit (.int .i64 b),.lit (.string t),d]),.dat (.agg [.lit (.int .i64 a'),.lit (.int .i64 b'),.lit (.string t'),d'])] []) =
   some (.ret (.dat (.agg [.lit (.int .i64 k),.lit (.int .i64 0),.lit (.string s),.sl [.lit (.int .i64 a),.lit (.int .i64 b),.lit (.string t),d,.lit (.int .i64 a'),.lit (.int .i64 b'),.lit (.string t'),d'] 2 true])) []):=by
 refine Z_call (pf:=F178) rfl rfl ?_
 simp[F178,h1,h2,h3,h4,Wa]
end
def qps:List ByteArray:=[⟨#[105]⟩,⟨#[110]⟩,⟨#[115,117,109]⟩,⟨#[118,51]⟩]
def qx3:List ByteArray:=qps++[⟨#[118]⟩]
def qmF:List ByteArray:=[⟨#[115,101,108,102]⟩,⟨#[111,116,104,101,114]⟩,⟨#[116,105,99,107]⟩]
def qh8:List ByteArray:=[⟨#[120]⟩,⟨#[121]⟩,⟨#[118,120]⟩,⟨#[118,121]⟩,⟨#[97]⟩,⟨#[98]⟩]
def qgZ:List ByteArray:=qh8++[⟨#[104,105,116]⟩,⟨#[115,116,105,108,108]⟩]
def E.fine:E->Prop
 |.int n=>0<=n/\n<=2147483647
 |.bool n=>n=0\/n=1
 |.var s=>s∈qx3
 |.name s=>s∈qmF
 |.field _ s e=>s∈qgZ/\e.fine/\e.ty=1
 |.un _ neg e=>e.fine/\e.ty=if neg then 1 else 2
 |.bin _ o a b=>a.fine/\b.fine/\a.ty=o.opd/\b.ty=o.opd
def E.dp:E->Nat
 |.field _ _ e=>e.dp+1
 |.un _ _ e=>e.dp+1
 |.bin _ _ a b=>max a.dp b.dp+1
 |_=>0
def mxs:Nat->Nat
 |0=>1
 |n+1=>2*mxs n+1
theorem qjm(n:Nat):1<=mxs n:=by cases n<;>simp[mxs]
def GIb(B:Int)(v:D)(xs:List Int)(d i:Int):Prop := ∃ (e:E) (i':Int),(e.fine/\e.ty=1/\e.dp<=d.toNat/\e.size<=mxs d.toNat/\Co 2 e.cost xs i i')/\(0<=i'/\i'<=B) /\
 Z qby (.call 177 [.ptr 0 0,.int d] (qvU v i))=some (.ret e.node (qvU v i'))
def GBb(B:Int)(v:D)(xs:List Int)(d i:Int):Prop := ∃ (e:E) (i':Int),(e.fine/\e.ty=2/\e.dp<=d.toNat+1/\e.size<=mxs (d.toNat+1)/\Co 6 e.cost xs i i')/\(0<=i'/\i'<=B) /\
 Z qby (.call 179 [.ptr 0 0,.int d] (qvU v i))=some (.ret e.node (qvU v i'))
abbrev GI(xs:List Int):=GIb 100 (qeB xs) xs
abbrev GB(xs:List Int):=GBb 100 (qeB xs) xs
theorem qjn{l:List ByteArray}{p:Int}(h:0<=p/\p<l.length) : ∃ s∈l,cutCells (strC l) p.toNat 1=some [.lit (.string s)]:=
 ⟨_,Yt (by omega:p.toNat<l.length),qfN l p.toNat (by omega)⟩
def nums:List Int:=[0,1,2,3,7,100,1024,2147483647]
def qwp:List Bop:=[.add,.sub,.mul,.div]
theorem qvV{p:Int}(h:0<=p/\p<4) : ∃ o∈qwp,cutCells (strC [⟨#[43]⟩,⟨#[45]⟩,⟨#[42]⟩,⟨#[47]⟩]) p.toNat 1=some [.lit (.string (Bop.str o))]:=by
 obtain rfl|rfl|rfl|rfl:p=0\/p=1\/p=2\/p=3:=by omega
 ·exact⟨.add,by simp[qwp],rfl⟩
 ·exact⟨.sub,by simp[qwp],rfl⟩
 ·exact⟨.mul,by simp[qwp],rfl⟩
 ·exact⟨.div,by simp[qwp],rfl⟩
section
variable{v:D}{xs:List Int}{i d B:Int}(hx : ∀ x∈xs,I64 x)(hl:Bnd v xs B)(hi:0<=i/\i<=B)
include hx hl hi
def qks(xs:List Int)(d i:Int):Int:=if d<=0 then (qaE xs i 12).tmod 6 else qaE xs i 12
theorem qrp(h:qks xs d i=0\/qks xs d i=1):GIb B v xs d i:=by
 have n1:=qbs (i:=i) (m:=12) hx hl hi (by omega)
 have r1:=qaz hi hl
 have n2:=qbs (i:=qaH xs i) (m:=8) hx hl r1 (by omega)
 have r2:=qaz r1 hl
 have p:=qbl (i:=qaH xs i) (m:=8) hx (by omega)
 have hat:=qd5 (qcP nums) 8 true (qaE xs (qaH xs i) 8) p.1 (by omega)
 have hc:=ql1 nums (qaE xs (qaH xs i) 8).toNat (by simp[nums]; omega)
 have hm : ∀ n∈nums,0<=n/\n<=2147483647:=by decide
 have hn:=hm _ (Yt (l:=nums) (n:=(qaE xs (qaH xs i) 8).toNat) (by simp[nums]; omega))
 have hlen:(qaE xs (qaH xs i) 8).toNat<nums.length:=by simp[nums]; omega
 have hco:Co 2 (E.cost (.int (nums[(qaE xs (qaH xs i) 8).toNat]'hlen))) xs i (qaH xs (qaH xs i)):=by
  have hcs : ∀ n∈nums,E.cost (.int n)<=11:=by decide +kernel
  have h11:=hcs _ (Yt hlen)
  have h0 : ∀ (k:Nat) (hk:k<nums.length),k=0->E.cost (.int (nums[k]'hk))=2:=fun k hk e=>by subst e; exact (by decide +kernel:E.cost (.int 0)=2)
  have hz:=h0 _ hlen
  unfold Co
  rcases qaw xs i with ⟨e1,l1⟩|⟨e1,l1⟩
  ·rcases qaw xs (qaH xs i) with ⟨e2,l2⟩|⟨e2,l2⟩<;>omega
  ·have e3:qaE xs (qaH xs i) 8=0:=by rw[e1]; exact l1 8
   have e4:=hz (by rw[e3]; rfl)
   rcases qaw xs (qaH xs i) with ⟨e2,l2⟩|⟨e2,l2⟩<;>omega
 generalize nums[(qaE xs (qaH xs i) 8).toNat]'_=vv at hc hn hco
 simp only[nums,qcP,List.map] at hat hc
 refine⟨.int vv,_,⟨hn,rfl,WP _,qjm _,hco⟩,r2,?_⟩
 refine Z_call (pf:=F177) rfl rfl ?_
 unfold qks at h
 by_cases hd:d<=0
 ·rw[if_pos hd] at h
  rcases h with h|h<;>simp[F177,n1,n2,hd,h,hat,hc]
 ·rw[if_neg hd] at h
  rcases h with h|h<;>simp[F177,n1,n2,hd,h,hat,hc]
theorem qrq(h:qks xs d i=2\/qks xs d i=3):GIb B v xs d i:=by
 have n1:=qbs (i:=i) (m:=12) hx hl hi (by omega)
 have r1:=qaz hi hl
 have n2:=qbs (i:=qaH xs i) (m:=4) hx hl r1 (by omega)
 have r2:=qaz r1 hl
 have p:=qbl (i:=qaH xs i) (m:=4) hx (by omega)
 have hat:=qd5 (strC qps) 4 true (qaE xs (qaH xs i) 4) p.1 (by omega)
 obtain⟨s,hs,hc⟩:=qjn (l:=qps) (p:=qaE xs (qaH xs i) 4) (by simpa [qps] using p)
 simp only[qps,strC,List.map] at hat hc
 have hsel:qaE xs i 12≠0:=fun h0=>by
  unfold qks at h
  rw[h0] at h
  split at h<;>simp at h
 have hco:Co 2 (E.cost (.var s)) xs i (qaH xs (qaH xs i)):=by
  have hcs : ∀ s∈qps,s.size<=5:=by decide
  have h5:=hcs s hs
  show _/\_/\((s.size+1:Nat):Int)<=_
  rcases qaw xs i with ⟨e1,l1⟩|⟨e1,l1⟩
  ·rcases qaw xs (qaH xs i) with ⟨e2,l2⟩|⟨e2,l2⟩<;>omega
  ·exact absurd (l1 12) hsel
 refine⟨.var s,_,⟨YI _ hs,rfl,WP _,qjm _,hco⟩,r2,?_⟩
 refine Z_call (pf:=F177) rfl rfl ?_
 unfold qks at h
 by_cases hd:d<=0
 ·rw[if_pos hd] at h
  rcases h with h|h<;>simp[F177,n1,n2,hd,h,hat,hc]
 ·rw[if_neg hd] at h
  rcases h with h|h<;>simp[F177,n1,n2,hd,h,hat,hc]
theorem qoI(h:qks xs d i=4\/qks xs d i=5):GIb B v xs d i:=by
 have n1:=qbs (i:=i) (m:=12) hx hl hi (by omega)
 have r1:=qaz hi hl
 have n2:=qbs (i:=qaH xs i) (m:=3) hx hl r1 (by omega)
 have r2:=qaz r1 hl
 have p:=qbl (i:=qaH xs i) (m:=3) hx (by omega)
 have hat:=qd5 (strC qmF) 3 true (qaE xs (qaH xs i) 3) p.1 (by omega)
 obtain⟨s,hs,hc⟩:=qjn (l:=qmF) (p:=qaE xs (qaH xs i) 3) (by simpa [qmF] using p)
 simp only[qmF,strC,List.map] at hat hc
 have hsel:qaE xs i 12≠0:=fun h0=>by
  unfold qks at h
  rw[h0] at h
  split at h<;>simp at h
 have hco:Co 2 (E.cost (.name s)) xs i (qaH xs (qaH xs i)):=by
  have hcs : ∀ s∈qmF,s.size<=5:=by decide
  have h5:=hcs s hs
  show _/\_/\((s.size+1:Nat):Int)<=_
  rcases qaw xs i with ⟨e1,l1⟩|⟨e1,l1⟩
  ·rcases qaw xs (qaH xs i) with ⟨e2,l2⟩|⟨e2,l2⟩<;>omega
  ·exact absurd (l1 12) hsel
 refine⟨.name s,_,⟨hs,rfl,WP _,qjm _,hco⟩,r2,?_⟩
 refine Z_call (pf:=F177) rfl rfl ?_
 unfold qks at h
 by_cases hd:d<=0
 ·rw[if_pos hd] at h
  rcases h with h|h<;>simp[F177,n1,n2,hd,h,hat,hc]
 ·rw[if_neg hd] at h
  rcases h with h|h<;>simp[F177,n1,n2,hd,h,hat,hc]
theorem qrr(hd : ¬ d<=0)(hd2:d<=1000)(ih : ∀ j,0<=j/\j<=B->GIb B v xs (d-1) j)(h:qaE xs i 12=6\/qaE xs i 12=7):GIb B v xs d i:=by
 have n1:=qbs (i:=i) (m:=12) hx hl hi (by omega)
 have r1:=qaz hi hl
 have n2:=qbs (i:=qaH xs i) (m:=8) hx hl r1 (by omega)
 have r2:=qaz r1 hl
 have p:=qbl (i:=qaH xs i) (m:=8) hx (by omega)
 have hat:=qd5 (strC qgZ) 8 true (qaE xs (qaH xs i) 8) p.1 (by omega)
 obtain⟨s,hs,hc⟩:=qjn (l:=qgZ) (p:=qaE xs (qaH xs i) 8) (by simpa [qgZ,qh8] using p)
 simp only[qgZ,qh8,strC,List.map,Wf,Wc] at hat hc
 obtain⟨e,i',h1,h2,h3⟩:=ih _ r2
 have o:=qro 11 s e.kind e.num e.str e.kids (by simp) (by simp)
 have w1:=qae (d-1) (by omega)
 have ed:d.toNat=(d-1).toNat+1:=by omega
 have hco:Co 2 (E.cost (.field true s e)) xs i i':=by
  have hcs : ∀ s∈qgZ,s.size<=5:=by decide
  have h5:=hcs s hs
  obtain⟨q1,q2,q3⟩:=h1.2.2.2.2
  show _/\_/\((s.size+5+e.cost:Nat):Int)<=_
  rcases qaw xs i with ⟨e1,l1⟩|⟨e1,l1⟩
  ·rcases qaw xs (qaH xs i) with ⟨e2,l2⟩|⟨e2,l2⟩<;>omega
  ·exact absurd (l1 12) (by omega)
 refine⟨.field true s e,i',⟨⟨hs,h1.1,h1.2.1⟩,by simp[h1.2.1],by rw[ed]; simp only[E.dp]; omega,by rw[ed]; simp only[mxs,qkn]; omega,hco⟩,h2,?_⟩
 refine Z_call (pf:=F177) rfl rfl ?_
 rcases h with h|h<;>simp[F177,n1,n2,hd,h,hat,hc,h3,o,w1]
theorem qvW(hd : ¬ d<=0)(hd2:d<=1000)(ih : ∀ j,0<=j/\j<=B->GIb B v xs (d-1) j)(h:qaE xs i 12=8):GIb B v xs d i:=by
 have n1:=qbs (i:=i) (m:=12) hx hl hi (by omega)
 have r1:=qaz hi hl
 obtain⟨e,i',h1,h2,h3⟩:=ih _ r1
 have o:=qro 13 ⟨#[45]⟩ e.kind e.num e.str e.kids (by simp) (by simp)
 have w1:=qae (d-1) (by omega)
 have ed:d.toNat=(d-1).toNat+1:=by omega
 have hco:Co 2 (E.cost (.un true true e)) xs i i':=by
  obtain⟨q1,q2,q3⟩:=h1.2.2.2.2
  show _/\_/\((6+e.cost:Nat):Int)<=_
  rcases qaw xs i with ⟨e1,l1⟩|⟨e1,l1⟩
  ·omega
  ·exact absurd (l1 12) (by omega)
 refine⟨.un true true e,i',⟨⟨h1.1,h1.2.1⟩,by simp[h1.2.1],by rw[ed]; simp only[E.dp]; omega,by rw[ed]; simp only[mxs,qlu]; omega,hco⟩,h2,?_⟩
 refine Z_call (pf:=F177) rfl rfl ?_
 simp[F177,n1,hd,h,h3,o,w1,ustr]
theorem qvX(hd : ¬ d<=0)(hd2:d<=1000)(ih : ∀ j,0<=j/\j<=B->GIb B v xs (d-1) j)(h:9<=qaE xs i 12):GIb B v xs d i:=by
 have n1:=qbs (i:=i) (m:=12) hx hl hi (by omega)
 have r1:=qaz hi hl
 have n2:=qbs (i:=qaH xs i) (m:=4) hx hl r1 (by omega)
 have r2:=qaz r1 hl
 have p:=qbl (i:=qaH xs i) (m:=4) hx (by omega)
 have hat:=qd5 (strC [⟨#[43]⟩,⟨#[45]⟩,⟨#[42]⟩,⟨#[47]⟩]) 4 true (qaE xs (qaH xs i) 4) p.1 (by omega)
 obtain⟨o,ho,hc⟩:=qvV p
 simp only[strC,List.map] at hat hc
 obtain⟨a,i1,h1,h2,h3⟩:=ih _ r2
 obtain⟨b,i2,h4,h5,h6⟩:=ih _ h2
 have ot:=qpr 14 o.str a.kind a.num b.kind b.num a.str b.str a.kids b.kids (by simp) (by simp) (by simp) (by simp)
 have w1:=qae (d-1) (by omega)
 have ed:d.toNat=(d-1).toNat+1:=by omega
 have ho1:o.opd=1/\o.res=1:=by
  simp only[qwp,Ws,WA,or_false] at ho
  rcases ho with rfl|rfl|rfl|rfl<;>exact⟨rfl,rfl⟩
 have hco:Co 2 (E.cost (.bin true o a b)) xs i i2:=by
  have ho2:o.str.size<=2:=by cases o<;>decide
  obtain⟨q1,q2,q3⟩:=h1.2.2.2.2
  obtain⟨q4,q5,q6⟩:=h4.2.2.2.2
  show _/\_/\((o.str.size+5+(a.cost+b.cost):Nat):Int)<=_
  rcases qaw xs i with ⟨e1,l1⟩|⟨e1,l1⟩
  ·rcases qaw xs (qaH xs i) with ⟨e2,l2⟩|⟨e2,l2⟩<;>omega
  ·exact absurd (l1 12) (by omega)
 refine⟨.bin true o a b,i2,⟨⟨h1.1,h4.1,by rw[ho1.1]; exact h1.2.1,by rw[ho1.1]; exact h4.2.1⟩,by simp[h1.2.1,h4.2.1,ho1.1,ho1.2],by rw[ed]; simp only[E.dp]; omega,by rw[ed]; simp only[mxs,qgX]; omega,hco⟩,h5,?_⟩
 refine Z_call (pf:=F177) rfl rfl ?_
 have k0 : ¬ qaE xs i 12=0:=by omega
 have k1 : ¬ qaE xs i 12=1:=by omega
 have k2 : ¬ qaE xs i 12=2:=by omega
 have k3 : ¬ qaE xs i 12=3:=by omega
 have k4 : ¬ qaE xs i 12=4:=by omega
 have k5 : ¬ qaE xs i 12=5:=by omega
 have k6 : ¬ qaE xs i 12=6:=by omega
 have k7 : ¬ qaE xs i 12=7:=by omega
 have k8 : ¬ qaE xs i 12=8:=by omega
 simp[F177,n1,n2,hd,k0,k1,k2,k3,k4,k5,k6,k7,k8,hat,hc,h3,h6,ot,w1]
end
end
section
open F
theorem qql{v:D}{xs:List Int}{B:Int}(hx : ∀ x∈xs,I64 x)(hl:Bnd v xs B) : ∀ (n:Nat) (d i:Int),d<=n->n<=1000->(0<=i/\i<=B)->GIb B v xs d i
 |n,d,i,hd,hn,hi=>by
  have p:=qbl (i:=i) (m:=12) hx (by omega)
  by_cases h0:d<=0
  ·have q:=qil p.1 (m:=6) (by omega)
   have e:qks xs d i=(qaE xs i 12).tmod 6:=if_pos h0
   by_cases h1:qks xs d i<2
   ·exact qrp hx hl hi (by omega)
   by_cases h2:qks xs d i<4
   ·exact qrq hx hl hi (by omega)
   ·exact qoI hx hl hi (by omega)
  ·have e:qks xs d i=qaE xs i 12:=if_neg h0
   by_cases h1:qks xs d i<2
   ·exact qrp hx hl hi (by omega)
   by_cases h2:qks xs d i<4
   ·exact qrq hx hl hi (by omega)
   by_cases h3:qks xs d i<6
   ·exact qoI hx hl hi (by omega)
   cases n with
   |zero=>omega
   |succ n=>
    have ih : ∀ j,0<=j/\j<=B->GIb B v xs (d-1) j:=fun j hj=>qql hx hl n (d-1) j (by omega) (by omega) hj
    by_cases h4:qks xs d i<8
    ·exact qrr hx hl hi h0 (by omega) ih (by omega)
    by_cases h5:qks xs d i=8
    ·exact qvW hx hl hi h0 (by omega) ih (by omega)
    ·exact qvX hx hl hi h0 (by omega) ih (by omega)
def qtJ:List Bop:=[.lt,.le,.gt,.ge,.eq,.ne]
theorem quU{p:Int}(h:0<=p/\p<6) : ∃ o∈qtJ,cutCells (strC [⟨#[60]⟩,⟨#[60,61]⟩,⟨#[62]⟩,⟨#[62,61]⟩,⟨#[61,61]⟩,⟨#[33,61]⟩]) p.toNat 1=some [.lit (.string (Bop.str o))]:=by
 obtain rfl|rfl|rfl|rfl|rfl|rfl:p=0\/p=1\/p=2\/p=3\/p=4\/p=5:=by omega
 ·exact⟨.lt,by simp[qtJ],rfl⟩
 ·exact⟨.le,by simp[qtJ],rfl⟩
 ·exact⟨.gt,by simp[qtJ],rfl⟩
 ·exact⟨.ge,by simp[qtJ],rfl⟩
 ·exact⟨.eq,by simp[qtJ],rfl⟩
 ·exact⟨.ne,by simp[qtJ],rfl⟩
def qys:List Bop:=[.and,.or]
theorem quV{p:Int}(h:0<=p/\p<2) : ∃ o∈qys,cutCells (strC [⟨#[38,38]⟩,⟨#[124,124]⟩]) p.toNat 1=some [.lit (.string (Bop.str o))]:=by
 obtain rfl|rfl:p=0\/p=1:=by omega
 ·exact⟨.and,by simp[qys],rfl⟩
 ·exact⟨.or,by simp[qys],rfl⟩
def qqm(xs:List Int)(d i:Int):Int:=if d<=0 then (qaE xs i 8).tmod 4 else qaE xs i 8
section
variable{v:D}{xs:List Int}{i d B:Int}(hx : ∀ x∈xs,I64 x)(hl:Bnd v xs B)(hi:0<=i/\i<=B)
include hx hl hi
theorem qn7(h:qqm xs d i=0):GBb B v xs d i:=by
 have n1:=qbs (i:=i) (m:=8) hx hl hi (by omega)
 have r1:=qaz hi hl
 have n2:=qbs (i:=qaH xs i) (m:=2) hx hl r1 (by omega)
 have r2:=qaz r1 hl
 have p:=qbl (i:=qaH xs i) (m:=2) hx (by omega)
 have hco:Co 6 (E.cost (.bool (qaE xs (qaH xs i) 2))) xs i (qaH xs (qaH xs i)):=by
  have hb:E.cost (.bool (qaE xs (qaH xs i) 2))<=6:=by simp only[E.cost]; split<;>omega
  unfold Co
  rcases qaw xs i with ⟨e1,l1⟩|⟨e1,l1⟩<;>rcases qaw xs (qaH xs i) with ⟨e2,l2⟩|⟨e2,l2⟩<;>omega
 refine⟨.bool (qaE xs (qaH xs i) 2),_,⟨by show _\/_; omega,rfl,WP _,qjm _,hco⟩,r2,?_⟩
 refine Z_call (pf:=F179) rfl rfl ?_
 unfold qqm at h
 by_cases hd:d<=0
 ·rw[if_pos hd] at h
  simp[F179,n1,n2,hd,h]
 ·rw[if_neg hd] at h
  simp[F179,n1,n2,hd,h]
theorem qn8(hd2:d<=1000)(hd3 : -1000<=d)(ih : ∀ j,0<=j/\j<=B->GIb B v xs (d-1) j)(h:1<=qqm xs d i/\qqm xs d i<=4):GBb B v xs d i:=by
 have n1:=qbs (i:=i) (m:=8) hx hl hi (by omega)
 have r1:=qaz hi hl
 have n2:=qbs (i:=qaH xs i) (m:=6) hx hl r1 (by omega)
 have r2:=qaz r1 hl
 have p:=qbl (i:=qaH xs i) (m:=6) hx (by omega)
 have hat:=qd5 (strC [⟨#[60]⟩,⟨#[60,61]⟩,⟨#[62]⟩,⟨#[62,61]⟩,⟨#[61,61]⟩,⟨#[33,61]⟩]) 6 true (qaE xs (qaH xs i) 6) p.1 (by omega)
 obtain⟨o,ho,hc⟩:=quU p
 simp only[strC,List.map] at hat hc
 obtain⟨a,i1,h1,h2,h3⟩:=ih _ r2
 obtain⟨b,i2,h4,h5,h6⟩:=ih _ h2
 have ot:=qpr 14 o.str a.kind a.num b.kind b.num a.str b.str a.kids b.kids (by simp) (by simp) (by simp) (by simp)
 have w1:=qae (d-1) (by omega)
 have ed:(d-1).toNat<=d.toNat:=by omega
 have hm:mxs (d-1).toNat<=mxs d.toNat:=by
  by_cases h0:d<=0
  ·rw[show (d-1).toNat=0 by omega]; exact qjm _
  ·rw[show d.toNat=(d-1).toNat+1 by omega]; simp only[mxs]; omega
 have ho1:o.opd=1/\o.res=2:=by
  simp only[qtJ,Ws,WA,or_false] at ho
  rcases ho with rfl|rfl|rfl|rfl|rfl|rfl<;>exact⟨rfl,rfl⟩
 have hco:Co 6 (E.cost (.bin true o a b)) xs i i2:=by
  have ho2:o.str.size<=2:=by cases o<;>decide
  obtain⟨q1,q2,q3⟩:=h1.2.2.2.2
  obtain⟨q4,q5,q6⟩:=h4.2.2.2.2
  show _/\_/\((o.str.size+5+(a.cost+b.cost):Nat):Int)<=_
  rcases qaw xs i with ⟨e1,l1⟩|⟨e1,l1⟩
  ·rcases qaw xs (qaH xs i) with ⟨e2,l2⟩|⟨e2,l2⟩<;>omega
  ·exact absurd (l1 8) (fun h0=>by
    unfold qqm at h
    rw[h0] at h
    split at h<;>simp at h)
 refine⟨.bin true o a b,i2,⟨⟨h1.1,h4.1,by rw[ho1.1]; exact h1.2.1,by rw[ho1.1]; exact h4.2.1⟩,by simp[h1.2.1,h4.2.1,ho1.1,ho1.2],by simp only[E.dp]; omega,by simp only[mxs,qgX]; omega,hco⟩,h5,?_⟩
 refine Z_call (pf:=F179) rfl rfl ?_
 unfold qqm at h
 by_cases hd:d<=0
 ·rw[if_pos hd] at h
  obtain h'|h'|h'|h':(qaE xs i 8).tmod 4=1\/(qaE xs i 8).tmod 4=2\/(qaE xs i 8).tmod 4=3\/(qaE xs i 8).tmod 4=4:=by omega
  all_goals simp[F179,n1,n2,hd,h',hat,hc,h3,h6,ot,w1]
 ·rw[if_neg hd] at h
  obtain h'|h'|h'|h':qaE xs i 8=1\/qaE xs i 8=2\/qaE xs i 8=3\/qaE xs i 8=4:=by omega
  all_goals simp[F179,n1,n2,hd,h',hat,hc,h3,h6,ot,w1]
theorem qsv(hd : ¬ d<=0)(hd2:d<=1000)(ih : ∀ j,0<=j/\j<=B->GBb B v xs (d-1) j)(h:qaE xs i 8=5):GBb B v xs d i:=by
 have n1:=qbs (i:=i) (m:=8) hx hl hi (by omega)
 have r1:=qaz hi hl
 obtain⟨e,i',h1,h2,h3⟩:=ih _ r1
 have o:=qro 13 ⟨#[33]⟩ e.kind e.num e.str e.kids (by simp) (by simp)
 have w1:=qae (d-1) (by omega)
 have ed:d.toNat=(d-1).toNat+1:=by omega
 have hco:Co 6 (E.cost (.un true false e)) xs i i':=by
  obtain⟨q1,q2,q3⟩:=h1.2.2.2.2
  show _/\_/\((6+e.cost:Nat):Int)<=_
  rcases qaw xs i with ⟨e1,l1⟩|⟨e1,l1⟩
  ·omega
  ·exact absurd (l1 8) (by omega)
 refine⟨.un true false e,i',⟨⟨h1.1,h1.2.1⟩,by simp[h1.2.1],by rw[ed]; simp only[E.dp]; omega,by rw[ed]; have:=h1.2.2.2.1; simp only[mxs,qlu] at *; omega,hco⟩,h2,?_⟩
 refine Z_call (pf:=F179) rfl rfl ?_
 simp[F179,n1,hd,h,h3,o,w1,ustr]
theorem qsw(hd : ¬ d<=0)(hd2:d<=1000)(ih : ∀ j,0<=j/\j<=B->GBb B v xs (d-1) j)(h:qaE xs i 8=6\/qaE xs i 8=7):GBb B v xs d i:=by
 have n1:=qbs (i:=i) (m:=8) hx hl hi (by omega)
 have r1:=qaz hi hl
 have n2:=qbs (i:=qaH xs i) (m:=2) hx hl r1 (by omega)
 have r2:=qaz r1 hl
 have p:=qbl (i:=qaH xs i) (m:=2) hx (by omega)
 have hat:=qd5 (strC [⟨#[38,38]⟩,⟨#[124,124]⟩]) 2 true (qaE xs (qaH xs i) 2) p.1 (by omega)
 obtain⟨o,ho,hc⟩:=quV p
 simp only[strC,List.map] at hat hc
 obtain⟨a,i1,h1,h2,h3⟩:=ih _ r2
 obtain⟨b,i2,h4,h5,h6⟩:=ih _ h2
 have ot:=qpr 14 o.str a.kind a.num b.kind b.num a.str b.str a.kids b.kids (by simp) (by simp) (by simp) (by simp)
 have w1:=qae (d-1) (by omega)
 have ed:d.toNat=(d-1).toNat+1:=by omega
 have ho1:o.opd=2/\o.res=2:=by
  simp only[qys,Ws,WA,or_false] at ho
  rcases ho with rfl|rfl<;>exact⟨rfl,rfl⟩
 have hco:Co 6 (E.cost (.bin true o a b)) xs i i2:=by
  have ho2:o.str.size<=2:=by cases o<;>decide
  obtain⟨q1,q2,q3⟩:=h1.2.2.2.2
  obtain⟨q4,q5,q6⟩:=h4.2.2.2.2
  show _/\_/\((o.str.size+5+(a.cost+b.cost):Nat):Int)<=_
  rcases qaw xs i with ⟨e1,l1⟩|⟨e1,l1⟩
  ·rcases qaw xs (qaH xs i) with ⟨e2,l2⟩|⟨e2,l2⟩<;>omega
  ·exact absurd (l1 8) (by omega)
 refine⟨.bin true o a b,i2,⟨⟨h1.1,h4.1,by rw[ho1.1]; exact h1.2.1,by rw[ho1.1]; exact h4.2.1⟩,by simp[h1.2.1,h4.2.1,ho1.1,ho1.2],by rw[ed]; simp only[E.dp]; omega,by rw[ed]; have:=h1.2.2.2.1; have:=h4.2.2.2.1; simp only[mxs,qgX] at *; omega,hco⟩,h5,?_⟩
 refine Z_call (pf:=F179) rfl rfl ?_
 rcases h with h|h<;>simp[F179,n1,n2,hd,h,hat,hc,h3,h6,ot,w1]
end
theorem qqn{v:D}{xs:List Int}{B:Int}(hx : ∀ x∈xs,I64 x)(hl:Bnd v xs B) : ∀ (n:Nat) (d i:Int),d<=n -> -100<=d->n<=1000->(0<=i/\i<=B)->GBb B v xs d i
 |n,d,i,hd,hd',hn,hi=>by
  have p:=qbl (i:=i) (m:=8) hx (by omega)
  have ihI : ∀ j,0<=j/\j<=B->GIb B v xs (d-1) j:=fun j hj=>qql hx hl n (d-1) j (by omega) (by omega) hj
  by_cases h0:d<=0
  ·have q:=qil p.1 (m:=4) (by omega)
   have e:qqm xs d i=(qaE xs i 8).tmod 4:=if_pos h0
   by_cases h1:qqm xs d i=0
   ·exact qn7 hx hl hi h1
   ·exact qn8 hx hl hi (by omega) (by omega) ihI (by omega)
  ·have e:qqm xs d i=qaE xs i 8:=if_neg h0
   by_cases h1:qqm xs d i=0
   ·exact qn7 hx hl hi h1
   by_cases h2:qqm xs d i<=4
   ·exact qn8 hx hl hi (by omega) (by omega) ihI (by omega)
   cases n with
   |zero=>omega
   |succ n=>
    have ih : ∀ j,0<=j/\j<=B->GBb B v xs (d-1) j:=fun j hj=>qqn hx hl n (d-1) j (by omega) (by omega) (by omega) hj
    by_cases h4:qaE xs i 8=5
    ·exact qsv hx hl hi h0 (by omega) ih h4
    ·exact qsw hx hl hi h0 (by omega) ih (by omega)
theorem qo6{xs:List Int}(hx : ∀ x∈xs,I64 x)(hl:xs.length<=100)(n:Nat)(d i:Int)(hd:d<=n)(hn:n<=1000)(hi:0<=i/\i<=100):GI xs d i:=qql hx (qbC hl) n d i hd hn hi
theorem qtK{xs:List Int}(hx : ∀ x∈xs,I64 x)(hl:xs.length<=100)(n:Nat)(d i:Int)(hd:d<=n)(hd' : -100<=d)(hn:n<=1000)(hi:0<=i/\i<=100):GB xs d i:=qqn hx (qbC hl) n d i hd hd' hn hi
end
section
open F
def Ss.fine:Ss->Prop
 |.nil=>True
 |.assign _ s e r=>(s∈qx3/\e.fine/\e.ty=1)/\r.fine
 |.store _ s a b r=>(s∈qh8/\a.fine/\a.ty=1/\b.fine/\b.ty=1)/\r.fine
 |.effect _ a b r=>(a.fine/\a.ty=1/\b.fine/\b.ty=1)/\r.fine
 |.stop r=>r.fine
 |.cond false _ c (.block _ x (.block _ y .nil)) r=>(c.fine/\c.ty=2)/\x.fine/\y.fine/\r.fine
 |.cond true _ c (.block _ x .nil) r=>(c.fine/\c.ty=2)/\x.fine/\r.fine
 |_=>False
def Ss.dp:Ss->Nat
 |.nil=>0
 |.assign _ _ _ r=>r.dp
 |.store _ _ _ _ r=>r.dp
 |.effect _ _ _ r=>r.dp
 |.stop r=>r.dp
 |.cond _ _ _ b r=>max (b.dp+1) r.dp
 |.block _ b r=>max b.dp r.dp
def Ss.edp:Ss->Nat
 |.nil=>0
 |.assign _ _ e r=>max e.dp r.edp
 |.store _ _ a b r=>max (max a.dp b.dp) r.edp
 |.effect _ a b r=>max (max a.dp b.dp) r.edp
 |.stop r=>r.edp
 |.cond _ _ c b r=>max (max c.dp b.edp) r.edp
 |.block _ b r=>max b.edp r.edp
def ssz:Nat->Nat
 |0=>20
 |n+1=>20+4*ssz n
theorem qkU(n:Nat):20<=ssz n:=by cases n<;>simp[ssz]
def GS(xs:List Int)(d i:Int):Prop := ∃ (st:Ss) (k n:Int) (s:ByteArray) (f:Bool) (ks:Fo) (i':Int),st.fo = .cons k n s f ks .nil /\
 (st.fine/\st.dp<=d.toNat/\st.edp<=3/\st.fo.size<=ssz d.toNat/\Co 8 st.cost xs i i')/\(0<=i'/\i'<=100)/\Z qby (.call 162 [.ptr 0 0,.int d] (gst xs i))=some (.ret (nd k n s f ks) (gst xs i'))
def GK(xs:List Int)(d m i:Int):Prop := ∃ (b:Ss) (i':Int),(b.fine/\b.dp<=d.toNat/\b.edp<=3/\b.fo.size<=m.toNat*ssz d.toNat/\Co 0 b.cost xs i i')/\(0<=i'/\i'<=100) /\
 Z qby (.call 137 [.ptr 0 0,.int d,.int m] (gst xs i))=some (.ret (nd 7 0 ⟨#[]⟩ false b.fo) (gst xs i'))
def qh2(xs:List Int)(d i:Int):Int:=if d<=0 then (qaE xs i 10).tmod 7 else qaE xs i 10
section
variable{xs:List Int}{i d:Int}(hx : ∀ x∈xs,I64 x)(hl:xs.length<=100)(hi:0<=i/\i<=100)
include hx hl hi
theorem ql8(h:qh2 xs d i=0\/qh2 xs d i=1):GS xs d i:=by
 have n1:=qbs (i:=i) (m:=10) hx (qbC hl) hi (by omega)
 have r1:=qaz hi (qbC hl)
 have n2:=qbs (i:=qaH xs i) (m:=4) hx (qbC hl) r1 (by omega)
 have r2:=qaz r1 (qbC hl)
 have p:=qbl (i:=qaH xs i) (m:=4) hx (by omega)
 have hat:=qd5 (strC qps) 4 true (qaE xs (qaH xs i) 4) p.1 (by omega)
 obtain⟨s,hs,hc⟩:=qjn (l:=qps) (p:=qaE xs (qaH xs i) 4) (by simpa [qps] using p)
 simp only[qps,strC,List.map] at hat hc
 obtain⟨e,i',h1,h2,h3⟩:=qo6 hx hl 2 2 _ (by omega) (by omega) r2
 rw[show (2:Int).toNat=2 from rfl] at h1
 have o:=qro 1 s e.kind e.num e.str e.kids (by simp) (by simp)
 have hz:mxs 2=7:=rfl
 have hp:=qkU d.toNat
 have hco:Co 8 (Ss.cost (.assign true s e .nil)) xs i i':=by
  obtain⟨q1,q2,q3⟩:=h1.2.2.2.2
  have hcs : ∀ s∈qps,s.size<=3:=by decide
  have h5:=hcs s hs
  show _/\_/\((s.size+5+e.cost+0:Nat):Int)<=_
  rcases qaw xs i with ⟨e1,l1⟩|⟨e1,l1⟩
  ·rcases qaw xs (qaH xs i) with ⟨e2,l2⟩|⟨e2,l2⟩<;>omega
  ·have e3:qaE xs (qaH xs i) 4=0:=by rw[e1]; exact l1 4
   have hs1:s.size=1:=by
    rw[e3] at hc
    simp at hc
    rw[<- hc]
    rfl
   rcases qaw xs (qaH xs i) with ⟨e2,l2⟩|⟨e2,l2⟩<;>omega
 refine⟨.assign true s e .nil,1,0,s,true,e.fo .nil,i',rfl,⟨⟨⟨YI _ hs,h1.1,h1.2.1⟩,trivial⟩,WP _,by simp only[Ss.edp]; omega,by simp only[Ss.fo,qaT,qct,qa5]; omega,hco⟩,h2,?_⟩
 refine Z_call (pf:=F162) rfl rfl ?_
 unfold qh2 at h
 by_cases hd:d<=0
 ·rw[if_pos hd] at h
  rcases h with h|h<;>simp[F162,n1,n2,hd,h,hat,hc,h3,o]
 ·rw[if_neg hd] at h
  rcases h with h|h<;>simp[F162,n1,n2,hd,h,hat,hc,h3,o]
theorem qn1(h:qh2 xs d i=2\/qh2 xs d i=3\/qh2 xs d i=4):GS xs d i:=by
 have n1:=qbs (i:=i) (m:=10) hx (qbC hl) hi (by omega)
 have r1:=qaz hi (qbC hl)
 have n2:=qbs (i:=qaH xs i) (m:=6) hx (qbC hl) r1 (by omega)
 have r2:=qaz r1 (qbC hl)
 have p:=qbl (i:=qaH xs i) (m:=6) hx (by omega)
 have hat:=qd5 (strC qh8) 6 true (qaE xs (qaH xs i) 6) p.1 (by omega)
 obtain⟨s,hs,hc⟩:=qjn (l:=qh8) (p:=qaE xs (qaH xs i) 6) (by simpa [qh8] using p)
 simp only[qh8,strC,List.map] at hat hc
 obtain⟨a,i1,h1,h2,h3⟩:=qo6 hx hl 1 1 _ (by omega) (by omega) r2
 obtain⟨b,i2,h4,h5,h6⟩:=qo6 hx hl 2 2 _ (by omega) (by omega) h2
 rw[show (2:Int).toNat=2 from rfl] at h4
 rw[show (1:Int).toNat=1 from rfl] at h1
 have o:=qpr 2 s a.kind a.num b.kind b.num a.str b.str a.kids b.kids (by simp) (by simp) (by simp) (by simp)
 have hz:mxs 2=7:=rfl
 have hz1:mxs 1=3:=rfl
 have hp:=qkU d.toNat
 have hco:Co 8 (Ss.cost (.store true s a b .nil)) xs i i2:=by
  have hcs : ∀ s∈qh8,s.size<=2:=by decide
  have h55:=hcs s hs
  obtain⟨q1,q2,q3⟩:=h1.2.2.2.2
  obtain⟨u1,u2,u3⟩:=h4.2.2.2.2
  show _/\_/\((s.size+9+(a.cost+b.cost)+0:Nat):Int)<=_
  rcases qaw xs i with ⟨e1,l1⟩|⟨e1,l1⟩
  ·rcases qaw xs (qaH xs i) with ⟨e2,l2⟩|⟨e2,l2⟩<;>omega
  ·exact absurd (l1 10) (fun h0=>by
    unfold qh2 at h
    rw[h0] at h
    split at h<;>simp at h)
 refine⟨.store true s a b .nil,2,0,s,true,a.fo (b.fo .nil),i2,rfl,⟨⟨⟨hs,h1.1,h1.2.1,h4.1,h4.2.1⟩,trivial⟩,WP _,by simp only[Ss.edp]; omega,by simp only[Ss.fo,qaT,qct,qa5]; omega,hco⟩,h5,?_⟩
 refine Z_call (pf:=F162) rfl rfl ?_
 unfold qh2 at h
 by_cases hd:d<=0
 ·rw[if_pos hd] at h
  rcases h with h|h|h<;>simp[F162,n1,n2,hd,h,hat,hc,h3,h6,o]
 ·rw[if_neg hd] at h
  rcases h with h|h|h<;>simp[F162,n1,n2,hd,h,hat,hc,h3,h6,o]
theorem ql9(h:qh2 xs d i=5):GS xs d i:=by
 have n1:=qbs (i:=i) (m:=10) hx (qbC hl) hi (by omega)
 have r1:=qaz hi (qbC hl)
 obtain⟨a,i1,h1,h2,h3⟩:=qo6 hx hl 1 0 _ (by omega) (by omega) r1
 obtain⟨b,i2,h4,h5,h6⟩:=qo6 hx hl 1 1 _ (by omega) (by omega) h2
 rw[show (0:Int).toNat=0 from rfl] at h1
 rw[show (1:Int).toNat=1 from rfl] at h4
 have o:=qpr 5 ⟨#[]⟩ a.kind a.num b.kind b.num a.str b.str a.kids b.kids (by simp) (by simp) (by simp) (by simp)
 have hz:mxs 0=1:=rfl
 have hz1:mxs 1=3:=rfl
 have hp:=qkU d.toNat
 have hco:Co 8 (Ss.cost (.effect true a b .nil)) xs i i2:=by
  obtain⟨q1,q2,q3⟩:=h1.2.2.2.2
  obtain⟨u1,u2,u3⟩:=h4.2.2.2.2
  show _/\_/\((11+(a.cost+b.cost)+0:Nat):Int)<=_
  rcases qaw xs i with ⟨e1,l1⟩|⟨e1,l1⟩
  ·omega
  ·exact absurd (l1 10) (fun h0=>by
    unfold qh2 at h
    rw[h0] at h
    split at h<;>simp at h)
 refine⟨.effect true a b .nil,5,0,_,true,a.fo (b.fo .nil),i2,rfl,⟨⟨⟨h1.1,h1.2.1,h4.1,h4.2.1⟩,trivial⟩,WP _,by simp only[Ss.edp]; omega,by simp only[Ss.fo,qaT,qct,qa5]; omega,hco⟩,h5,?_⟩
 refine Z_call (pf:=F162) rfl rfl ?_
 unfold qh2 at h
 by_cases hd:d<=0
 ·rw[if_pos hd] at h
  simp[F162,n1,hd,h,h3,h6,o]
 ·rw[if_neg hd] at h
  simp[F162,n1,hd,h,h3,h6,o]
theorem qtE(h:qh2 xs d i=6):GS xs d i:=by
 have n1:=qbs (i:=i) (m:=10) hx (qbC hl) hi (by omega)
 have r1:=qaz hi (qbC hl)
 have n2:=qbs (i:=qaH xs i) (m:=3) hx (qbC hl) r1 (by omega)
 have r2:=qaz r1 (qbC hl)
 have p:=qbl (i:=qaH xs i) (m:=3) hx (by omega)
 have hp:=qkU d.toNat
 by_cases h0:0<qaE xs (qaH xs i) 3
 ·obtain⟨e,i',h1,h2,h3⟩:=qo6 hx hl 1 1 _ (by omega) (by omega) r2
  rw[show (1:Int).toNat=1 from rfl] at h1
  have o:=qro 1 ⟨#[110]⟩ e.kind e.num e.str e.kids (by simp) (by simp)
  have hz:mxs 1=3:=rfl
  have hco:Co 8 (Ss.cost (.assign true ⟨#[110]⟩ e .nil)) xs i i':=by
   obtain⟨q1,q2,q3⟩:=h1.2.2.2.2
   show _/\_/\((1+5+e.cost+0:Nat):Int)<=_
   rcases qaw xs i with ⟨e1,l1⟩|⟨e1,l1⟩
   ·rcases qaw xs (qaH xs i) with ⟨e2,l2⟩|⟨e2,l2⟩<;>omega
   ·exact absurd (l1 10) (fun h0=>by
     unfold qh2 at h
     rw[h0] at h
     split at h<;>simp at h)
  refine⟨.assign true ⟨#[110]⟩ e .nil,1,0,_,true,e.fo .nil,i',rfl,⟨⟨⟨by simp[qx3,qps],h1.1,h1.2.1⟩,trivial⟩,WP _,by simp only[Ss.edp]; omega,by simp only[Ss.fo,qaT,qct,qa5]; omega,hco⟩,h2,?_⟩
  refine Z_call (pf:=F162) rfl rfl ?_
  unfold qh2 at h
  by_cases hd:d<=0
  ·rw[if_pos hd] at h
   simp[F162,n1,n2,hd,h,h0,h3,o]
  ·rw[if_neg hd] at h
   simp[F162,n1,n2,hd,h,h0,h3,o]
 ·have hco:Co 8 (Ss.cost (.stop .nil)) xs i (qaH xs (qaH xs i)):=by
   show _/\_/\((7+0:Nat):Int)<=_
   rcases qaw xs i with ⟨e1,l1⟩|⟨e1,l1⟩<;>rcases qaw xs (qaH xs i) with ⟨e2,l2⟩|⟨e2,l2⟩<;>omega
  refine⟨.stop .nil,6,0,_,false,.nil,_,rfl,⟨trivial,WP _,WP _,by simp only[Ss.fo,qaT,qa5]; omega,hco⟩,r2,?_⟩
  refine Z_call (pf:=F162) rfl rfl ?_
  unfold qh2 at h
  by_cases hd:d<=0
  ·rw[if_pos hd] at h
   simp[F162,n1,n2,hd,h,h0]
  ·rw[if_neg hd] at h
   simp[F162,n1,n2,hd,h,h0]
theorem qr7(hd : ¬ d<=0)(hd2:d<=1000)(ih : ∀ j,0<=j/\j<=100->GK xs (d-1) 2 j)(h:qaE xs i 10=7):GS xs d i:=by
 have n1:=qbs (i:=i) (m:=10) hx (qbC hl) hi (by omega)
 have r1:=qaz hi (qbC hl)
 obtain⟨c,i1,h1,h2,h3⟩:=qtK hx hl 1 1 _ (by omega) (by omega) (by omega) r1
 obtain⟨b,i2,h4,h5,h6⟩:=ih _ h2
 rw[show (1:Int).toNat=1 from rfl] at h1
 have ed:d.toNat=(d-1).toNat+1:=by omega
 rw[show (2:Int).toNat=2 from rfl] at h4
 have hz:mxs (1+1)=7:=rfl
 have o:=qpr 4 ⟨#[]⟩ c.kind c.num 7 0 c.str ⟨#[]⟩ c.kids (kd false b.fo.len b.fo.cells) (by simp) (by simp) (by simp) (by simp)
 have w1:=qae (d-1) (by omega)
 have hco:Co 8 (Ss.cost (.cond true true c (.block false b .nil) .nil)) xs i i2:=by
  obtain⟨q1,q2,q3⟩:=h1.2.2.2.2
  obtain⟨u1,u2,u3⟩:=h4.2.2.2.2
  show _/\_/\((6+c.cost+(4+b.cost+(0+0))+0:Nat):Int)<=_
  rcases qaw xs i with ⟨e1,l1⟩|⟨e1,l1⟩
  ·omega
  ·exact absurd (l1 10) (by omega)
 refine⟨.cond true true c (.block false b .nil) .nil,4,0,_,true,c.fo (.cons 7 0 ⟨#[]⟩ false b.fo .nil),i2,rfl,⟨⟨⟨h1.1,h1.2.1⟩,h4.1,trivial⟩,by simp only[Ss.dp]; omega,by simp only[Ss.edp]; omega,by rw[ed]; simp only[Ss.fo,qaT,qct,qa5,ssz]; omega,hco⟩,h5,?_⟩
 refine Z_call (pf:=F162) rfl rfl ?_
 simp[F162,n1,hd,h,h3,h6,o,w1]
theorem qy8(hd : ¬ d<=0)(hd2:d<=1000)(ih : ∀ j,0<=j/\j<=100->GK xs (d-1) 2 j)(h:8<=qaE xs i 10):GS xs d i:=by
 have n1:=qbs (i:=i) (m:=10) hx (qbC hl) hi (by omega)
 have r1:=qaz hi (qbC hl)
 obtain⟨c,i1,h1,h2,h3⟩:=qtK hx hl 2 2 _ (by omega) (by omega) (by omega) r1
 obtain⟨a,i2,h4,h5,h6⟩:=ih _ h2
 have n2:=qbs (i:=i2) (m:=2) hx (qbC hl) h5 (by omega)
 have r2:=qaz h5 (qbC hl)
 obtain⟨b,i3,h7,h8,h9⟩:=ih _ r2
 rw[show (2:Int).toNat=2 from rfl] at h1 h4 h7
 have ed:d.toNat=(d-1).toNat+1:=by omega
 have hz:mxs (2+1)=15:=rfl
 have w1:=qae (d-1) (by omega)
 have k0 : ¬ qaE xs i 10=0:=by omega
 have k1 : ¬ qaE xs i 10=1:=by omega
 have k2 : ¬ qaE xs i 10=2:=by omega
 have k3 : ¬ qaE xs i 10=3:=by omega
 have k4 : ¬ qaE xs i 10=4:=by omega
 have k5 : ¬ qaE xs i 10=5:=by omega
 have k6 : ¬ qaE xs i 10=6:=by omega
 have k7 : ¬ qaE xs i 10=7:=by omega
 by_cases h0:qaE xs i2 2=1
 ·have hco:Co 8 (Ss.cost (.cond false true c (.block false a (.block false b .nil)) .nil)) xs i i3:=by
   have hl:(if qcx (.block false b .nil)=true then 5 else 0)<=5:=by split<;>omega
   obtain⟨q1,q2,q3⟩:=h1.2.2.2.2
   obtain⟨u1,u2,u3⟩:=h4.2.2.2.2
   obtain⟨v1,v2,v3⟩:=h7.2.2.2.2
   show _/\_/\((3+c.cost+(4+a.cost+((if qcx (.block false b .nil)=true then 5 else 0)+(4+b.cost+(0+0))))+0:Nat):Int)<=_
   rcases qaw xs i with ⟨e1,l1⟩|⟨e1,l1⟩
   ·rcases qaw xs i2 with ⟨e2,l2⟩|⟨e2,l2⟩<;>omega
   ·exact absurd (l1 10) (by omega)
  refine⟨.cond false true c (.block false a (.block false b .nil)) .nil,3,0,_,true,c.fo (.cons 7 0 ⟨#[]⟩ false a.fo (.cons 7 0 ⟨#[]⟩ false b.fo .nil)),i3,rfl,⟨⟨⟨h1.1,h1.2.1⟩,h4.1,h7.1,trivial⟩,by simp only[Ss.dp]; omega,by simp only[Ss.edp]; omega,by rw[ed]; simp only[Ss.fo,qaT,qct,qa5,ssz]; omega,hco⟩,h8,?_⟩
  refine Z_call (pf:=F162) rfl rfl ?_
  simp[F162,n1,n2,hd,h0,k0,k1,k2,k3,k4,k5,k6,k7,h3,h6,h9,w1,Wa]
 ·have hco:Co 8 (Ss.cost (.cond false true c (.block false a (.block false .nil .nil)) .nil)) xs i (qaH xs i2):=by
   obtain⟨q1,q2,q3⟩:=h1.2.2.2.2
   obtain⟨u1,u2,u3⟩:=h4.2.2.2.2
   show _/\_/\((3+c.cost+(4+a.cost+(0+(4+0+(0+0))))+0:Nat):Int)<=_
   rcases qaw xs i with ⟨e1,l1⟩|⟨e1,l1⟩
   ·rcases qaw xs i2 with ⟨e2,l2⟩|⟨e2,l2⟩<;>omega
   ·exact absurd (l1 10) (by omega)
  refine⟨.cond false true c (.block false a (.block false .nil .nil)) .nil,3,0,_,true,c.fo (.cons 7 0 ⟨#[]⟩ false a.fo (.cons 7 0 ⟨#[]⟩ false .nil .nil)),_,rfl,⟨⟨⟨h1.1,h1.2.1⟩,h4.1,trivial,trivial⟩,by simp only[Ss.dp]; omega,by simp only[Ss.edp]; omega,by rw[ed]; simp only[Ss.fo,qaT,qct,qa5,ssz]; omega,hco⟩,r2,?_⟩
  refine Z_call (pf:=F162) rfl rfl ?_
  simp[F162,n1,n2,hd,h0,k0,k1,k2,k3,k4,k5,k6,k7,h3,h6,w1,Wa]
end
end
section
open F
theorem qoo{a b:Ss}(ha:a.fine)(hb:b.fine):(a.app b).fine:=by
 fun_induction Ss.fine a with
 |case1=>exact hb
 |case2 _ _ _ _ ih=>exact⟨ha.1,ih ha.2⟩
 |case3 _ _ _ _ _ ih=>exact⟨ha.1,ih ha.2⟩
 |case4 _ _ _ _ ih=>exact⟨ha.1,ih ha.2⟩
 |case5 _ ih=>exact ih ha
 |case6 _ _ _ _ _ _ _ _ _ ih=>exact⟨ha.1,ha.2.1,ha.2.2.1,ih ha.2.2.2⟩
 |case7 _ _ _ _ _ _ ih=>exact⟨ha.1,ha.2.1,ih ha.2.2⟩
 |case8=>exact ha.elim
theorem qop{a:Ss}(b:Ss)(ha:a.fine):(a.app b).cost=a.cost+b.cost:=by
 fun_induction Ss.fine a with
 |case1=>simp[Ss.app,Ss.cost]
 |case2 _ _ _ _ ih=>simp only[Ss.app,Ss.cost,ih ha.2]; omega
 |case3 _ _ _ _ _ ih=>simp only[Ss.app,Ss.cost,ih ha.2]; omega
 |case4 _ _ _ _ ih=>simp only[Ss.app,Ss.cost,ih ha.2]; omega
 |case5 _ ih=>simp only[Ss.app,Ss.cost,ih ha]; omega
 |case6 _ _ _ _ _ _ _ _ _ ih=>simp only[Ss.app,Ss.cost,ih ha.2.2.2]; omega
 |case7 _ _ _ _ _ _ ih=>simp only[Ss.app,Ss.cost,ih ha.2.2]; omega
 |case8=>exact ha.elim
theorem qtU(a b:Ss):(a.app b).dp=max a.dp b.dp:=by
 induction a<;>simp_all [Ss.app,Ss.dp,Nat.max_assoc]
theorem qqS(a b:Ss):(a.app b).edp=max a.edp b.edp:=by
 induction a<;>simp_all [Ss.app,Ss.edp,Nat.max_assoc]
section
variable{xs:List Int}{i d c:Int}
abbrev z4O:Ob := .cells [.int 0,.int 0,.str ⟨#[]⟩,.dat (.lit (.slice none 0 0))]
abbrev B0(xs:List Int)(i:Int):S:=[.cells [.dat (qeB xs),.int i],z4O,.cells [.int 7,.int 0,.str ⟨#[]⟩,.dat (.lit (.slice none 0 0))]]
abbrev B1(xs:List Int)(i:Int)(pre:Fo):S:=[.cells [.dat (qeB xs),.int i],z4O,.cells [.int 7,.int 0,.str ⟨#[]⟩,.gsl pre.cells pre.len 4 3],.tip pre.cells.length]
abbrev bfr(d c:Int):Fr:=[(0,.ptr 0 0),(1,.int d),(6,.ptr 1 0),(7,.ptr 2 0),(8,.int c)]
theorem qxF:Z qby (.loop 1 F137l0 (bfr d 0) (B0 xs i))=some (.out (.exit 0) (bfr d 0++[(15,.bool false)]) (B0 xs i)):=by
 rw[qab]
 simp[qaa,qfs,Wa]
theorem qxG{pre:Fo}:Z qby (.loop 1 F137l0 (bfr d 0) (B1 xs i pre))=some (.out (.exit 0) (bfr d 0++[(15,.bool false)]) (B1 xs i pre)):=by
 rw[qab]
 simp[qaa,qfs,Wa]
theorem qvn {i':Int} {k n:Int} {s:ByteArray} {f:Bool} {ks:Fo} (hc:0<c) (hc':c<100) (h:Z qby (.call 162 [.ptr 0 0,.int d] (gst xs i))=some (.ret (nd k n s f ks) (gst xs i'))) :
  Z qby (.loop 1 F137l0 (bfr d c) (B0 xs i))=Z qby (.loop 1 F137l0 (bfr d (c-1)) (B1 xs i' (.cons k n s f ks .nil))):=by
 have w1:=qae (c-1) (by omega)
 conv=>lhs; rw[qab]
 simp[qaa,qfs,hc,h,w1,qbD,qjv,qaI,bfr,B1,z4O,Wa]
theorem qvo {i':Int} {k n:Int} {s:ByteArray} {f:Bool} {ks pre:Fo} (hp:pre.len<1000) (hc:0<c) (hc':c<100) (h:Z qby (.call 162 [.ptr 0 0,.int d] (gst xs i))=some (.ret (nd k n s f ks) (gst xs i'))) :
  Z qby (.loop 1 F137l0 (bfr d c) (B1 xs i pre))=Z qby (.loop 1 F137l0 (bfr d (c-1)) (B1 xs i' (pre.app (.cons k n s f ks .nil)))):=by
 have w1:=qae (c-1) (by omega)
 have r1:qaI (pre.len+1) 56=true:=by simp[qaI]; omega
 have hl:=qhZ pre
 have hl2:=qfl pre (.cons k n s f ks .nil)
 have hl3:=qc5 pre (.cons k n s f ks .nil)
 simp only[qaB,qaF,qaV,qaZ] at hl2 hl3
 conv=>lhs; rw[qab]
 simp[qaa,qfs,hc,h,w1,qbD,qjv,r1,hl,hl2,hl3,bfr,B1,z4O,Wa]
theorem qqT (hS : ∀ j,0<=j/\j<=100->GS xs d j) : ∀ (m:Nat) (j:Int) (pre:Fo),m<=3->(0<=j/\j<=100)->pre.len+m<1000->0<pre.len ->
  ∃ (b:Ss) (i':Int),(b.fine/\b.dp<=d.toNat/\b.edp<=3/\b.fo.size<=m*ssz d.toNat/\Co (8*m) b.cost xs j i')/\(0<=i'/\i'<=100)/\Z qby (.loop 1 F137l0 (bfr d m) (B1 xs j pre))=some (.out (.exit 0) (bfr d 0++[(15,.bool false)]) (B1 xs i' (pre.app b.fo)))
 |0,j,pre,_,h1,hp,hp0=>⟨.nil,j,⟨trivial,WP _,WP _,by simp[Ss.fo],by show _/\_/\((0:Nat):Int)<=_; omega⟩,h1,by rw[show pre.app Ss.nil.fo=pre from qvT pre]; exact qxG⟩
 |m+1,j,pre,hm,h1,hp,hp0=>by
  obtain⟨st,k,n,s,f,ks,i1,g1,g2,g3,g4⟩:=hS j h1
  obtain⟨b,i2,k1,k2,k3⟩:=qqT hS m i1 (pre.app (.cons k n s f ks .nil)) (by omega) g3 (by rw[qc5]; simp; omega) (by rw[qc5]; simp)
  have hstep:=qvo (d:=d) (c:=(m+1:Nat)) (by omega:pre.len<1000) (by omega) (by omega) g4
  rw[show ((m+1:Nat):Int)-1=m by omega] at hstep
  have hco:Co (8*((m+1:Nat):Int)) (st.app b).cost xs j i2:=by
   obtain⟨q1,q2,q3⟩:=g2.2.2.2.2
   obtain⟨u1,u2,u3⟩:=k1.2.2.2.2
   unfold Co
   rw[qop b g2.1]
   omega
  refine⟨st.app b,i2,⟨qoo g2.1 k1.1,by rw[qtU]; omega,by rw[qqS]; omega,by rw[qgY,qji,Nat.succ_mul]; omega,hco⟩,k2,?_⟩
  rw[hstep,k3,qgY,<- qrl,g1]
theorem qqU(hx : ∀ x∈xs,I64 x)(hl:xs.length<=100)(hi:0<=i/\i<=100){m:Int}(hm:0<=m)(hm4:m<=3)(hS : ∀ j,0<=j/\j<=100->GS xs d j):GK xs d m i:=by
 have n1:=qbs (i:=i) (m:=m+1) hx (qbC hl) hi (by omega)
 have l1:=qbl (i:=i) (m:=m+1) hx (by omega)
 have r1:=qaz hi (qbC hl)
 have w1:=qae (m+1) (by omega)
 by_cases h0:qaE xs i (m+1)=0
 ·refine⟨.nil,_,⟨trivial,WP _,WP _,by simp[Ss.fo],by show _/\_/\((0:Nat):Int)<=_; rcases qaw xs i with ⟨e1,l1⟩|⟨e1,l1⟩<;>omega⟩,r1,?_⟩
  have h:=qxF (xs:=xs) (i:=qaH xs i) (d:=d)
  refine Z_call (pf:=F137) rfl rfl ?_
  simp only[bfr,Wf,Wc] at h
  simp[F137,n1,w1,h0,h,Ss.fo,Wa]
 ·obtain⟨q,hq⟩ : ∃ q:Nat,qaE xs i (m+1)=((q+1:Nat):Int):=⟨(qaE xs i (m+1)-1).toNat,by omega⟩
  obtain⟨st,k,n,s,f,ks,i1,g1,g2,g3,g4⟩:=hS _ r1
  obtain⟨b,i2,k1,k2,k3⟩:=qqT hS q i1 (.cons k n s f ks .nil) (by omega) g3 (by simp; omega) (by simp)
  have hstep:=qvn (d:=d) (c:=(q+1:Nat)) (by omega) (by omega) g4
  rw[show ((q+1:Nat):Int)-1=q by omega,k3,<- g1,<- qgY,<- hq] at hstep
  have hmul:(q+1)*ssz d.toNat<=m.toNat*ssz d.toNat:=WY _ (by omega)
  rw[Nat.succ_mul] at hmul
  have hco:Co 0 (st.app b).cost xs i i2:=by
   obtain⟨q1,q2,q3⟩:=g2.2.2.2.2
   obtain⟨u1,u2,u3⟩:=k1.2.2.2.2
   unfold Co
   rw[qop b g2.1]
   rcases qaw xs i with ⟨e1,l1⟩|⟨e1,l1⟩
   ·omega
   ·exact absurd (l1 (m+1)) h0
  refine⟨st.app b,i2,⟨qoo g2.1 k1.1,by rw[qtU]; omega,by rw[qqS]; omega,by rw[qgY,qji]; omega,hco⟩,k2,?_⟩
  have hpos:(st.app b).fo.len≠0:=by rw[qgY,qc5,g1]; simp
  obtain⟨z,hz⟩ : ∃ z,(st.app b).fo.len=z+1:=⟨(st.app b).fo.len-1,by omega⟩
  have hg:=qhZ (st.app b).fo
  refine Z_call (pf:=F137) rfl rfl ?_
  simp only[bfr,Wf,Wc] at hstep
  generalize (st.app b).fo=fo at *
  simp[F137,n1,w1,hstep,hz,Wa]
theorem qyz(hx : ∀ x∈xs,I64 x)(hl:xs.length<=100) : ∀ (n:Nat),n<=50->(∀ j,0<=j/\j<=100->GS xs n j)/\(∀ j,0<=j/\j<=100 -> ∀ m,0<=m->m<=3->GK xs n m j)
 |0,_=>by
  have hs : ∀ j,0<=j/\j<=100->GS xs (0:Nat) j:=fun i hi=>by
   have p:=qbl (i:=i) (m:=10) hx (by omega)
   have q:=qil p.1 (m:=7) (by omega)
   have e:qh2 xs (0:Nat) i=(qaE xs i 10).tmod 7:=if_pos (by simp)
   by_cases h1:qh2 xs (0:Nat) i<2
   ·exact ql8 hx hl hi (by omega)
   by_cases h2:qh2 xs (0:Nat) i<5
   ·exact qn1 hx hl hi (by omega)
   by_cases h3:qh2 xs (0:Nat) i=5
   ·exact ql9 hx hl hi h3
   ·exact qtE hx hl hi (by omega)
  exact⟨hs,fun j hj m h0 h3=>qqU hx hl hj h0 h3 hs⟩
 |n+1,hn=>by
  have ih:=(qyz hx hl n (by omega)).2
  have hd : ¬ ((n+1:Nat):Int)<=0:=by omega
  have hs : ∀ j,0<=j/\j<=100->GS xs (n+1:Nat) j:=fun i hi=>by
   have p:=qbl (i:=i) (m:=10) hx (by omega)
   have e:qh2 xs (n+1:Nat) i=qaE xs i 10:=if_neg hd
   have ih' : ∀ j,0<=j/\j<=100->GK xs (((n+1:Nat):Int)-1) 2 j:=fun j hj=>by
    rw[show ((n+1:Nat):Int)-1=n by omega]; exact ih j hj 2 (by omega) (by omega)
   by_cases h1:qh2 xs (n+1:Nat) i<2
   ·exact ql8 hx hl hi (by omega)
   by_cases h2:qh2 xs (n+1:Nat) i<5
   ·exact qn1 hx hl hi (by omega)
   by_cases h3:qh2 xs (n+1:Nat) i=5
   ·exact ql9 hx hl hi h3
   by_cases h4:qh2 xs (n+1:Nat) i=6
   ·exact qtE hx hl hi h4
   by_cases h5:qh2 xs (n+1:Nat) i=7
   ·exact qr7 hx hl hi hd (by omega) ih' (by omega)
   ·exact qy8 hx hl hi hd (by omega) ih' (by omega)
  exact⟨hs,fun j hj m h0 h3=>qqU hx hl hj h0 h3 hs⟩
end
end
end Go.Pm
