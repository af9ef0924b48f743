/- The rule language in plain Lean: what the parser makes of expressions is good, no deeper, no longer. No program in sight. The rule language in plain Lean: what the parser makes of statements and programs is good, no deeper, no longer. No program in sight. The rule language in plain Lean: tokens with white space and comments between them. No program in sight. The rule language in plain Lean: what Parse makes of a source is good and no longer; printed, it is read back. No program in sight. The rule language in plain Lean: an error has a code that is not 0. No program in sight. The abstract machine's program, printed by a program of our own: group 4. The reference's names. The code's names: a round of the range. The code's Variables, first part. The abstract machine's program, printed by a program of our own: group 01. -/
import Derived.Test.YtjdbkncfebebnaaDoorPmFx
import Derived.Test.YtjdbkncfebebnaaDoorPmYh
import Derived.Test.YtjdbkncfebebnaaDoorPmEt
set_option linter.unusedSimpArgs false
set_option linter.unusedVariables false
section SUd
namespace Go.Pm
theorem qjd (e:E) (q:Nat) (hq:q<=8):e.tx false q=qb7 (decide (e.lev<q)) (e.tx false 1):=by
 have h8 : ¬ 8<q:=by omega
 cases e with
 | un f neg e=>cases neg<;>simp[E.tx,E.lev,qdI,qb7]
 | bin f o a b=>
  have h1 : ¬ o.prec<1:=by cases o<;>simp[Bop.prec]
  by_cases h2:o.prec<q<;>simp[E.tx,E.lev,qb7,h1,h2]
 | _=>simp[E.tx,E.lev,qb7,h8]
theorem qf1 (e:E) (q:Nat) (hq:q<=8):e.nest false q=e.nest false 1+(if e.lev<q then 1 else 0):=by
 have h8 : ¬ 8<q:=by omega
 cases e with
 | un f neg e=>cases neg<;>simp[E.nest,E.lev,qdI]
 | bin f o a b=>
  have h1 : ¬ o.prec<1:=by cases o<;>simp[Bop.prec]
  by_cases h2:o.prec<q<;>simp[E.nest,E.lev,h1,h2]
 | _=>simp[E.nest,E.lev,h8]
theorem qhf {l m:List ByteArray} {b c:Bool} (h:Red l (qb7 b m)) (hbc:c=true->b=true):Red l (qb7 c m):=by
 cases c with
 | true=>rw[hbc rfl] at h; exact h
 | false=>
  cases b with
  | false=>exact h
  | true=>
   refine qno h (.del (by decide) ?_)
   have:=qbI (qcL m) (.del (t:=bs [41]) (by decide) .nil)
   rw[List.append_nil] at this
   exact this
def RE (e:E) (q lv:Nat) (ts r:List Tk):Prop:=e.good/\lv+e.nest false q<=20 /\ ∃ l,l≠[]/\Hx l ts r/\NI l/\Red l (e.tx false q)
theorem qnG {e:E} {q q' lv:Nat} {ts r:List Tk} (h:RE e q lv ts r) (hq:q'<=q) (h8:q<=8):RE e q' lv ts r:=by
 obtain⟨h1,h2,l,h3,h4,h5,h6⟩:=h
 refine⟨h1,?_,l,h3,h4,h5,?_⟩
 ·rw[qf1 e q h8] at h2
  rw[qf1 e q' (by omega)]
  by_cases hl:e.lev<q'
  ·rw[if_pos hl]; rw[if_pos (by omega)] at h2; exact h2
  ·rw[if_neg hl]; omega
 ·rw[qjd e q h8] at h6
  rw[qjd e q' (by omega)]
  exact qhf h6 (fun h=>by simp only[decide_eq_true_eq] at *; omega)
theorem qf2 {ts:List Tk} {s:ByteArray} (h:nx ts=some s) : ∃ t r,ts=t::r/\t.s=s/\t.bad=0:=by
 cases ts with
 | nil=>cases h
 | cons t r=>
  simp only[nx] at h
  split at h
  ·rename_i hb; cases h; exact⟨t,r,rfl,rfl,hb⟩
  ·cases h
theorem qb5 {α : Type} {c:Nat} {ts:List Tk} {a : α} {r:List Tk}:failP c ts ≠ .ok a r:=by
 cases ts<;>simp[failP]
theorem qcU {x:ByteArray} {ts r:List Tk} {u:Unit} (h:qav 12 x ts = .ok u r):Hx [x] ts r:=by
 cases ts with
 | nil=>exact absurd (show failP 12 [] = .ok u r from h) qb5
 | cons t q=>
  simp only[qav] at h
  split at h
  ·rename_i hc; cases h; exact⟨t,_,rfl,hc.2,hc.1,rfl⟩
  ·exact absurd h qb5
theorem qje {x:ByteArray} {lv:Nat} {ts r:List Tk} {u:Unit} (h:qcv 12 2 x lv ts = .ok u r):Hx [x] ts r/\lv<=20:=by
 unfold qcv at h
 split at h
 ·exact absurd h qb5
 ·rename_i hc
  have hx:=qcU h
  refine⟨hx,Nat.not_lt.1 (fun hl=>hc ⟨?_,hl⟩)⟩
  obtain⟨t,q,e,h1,h2,_⟩:=hx
  rw[e,nx,if_pos h2,h1]
theorem qnH {p:Nat} {s:ByteArray} {o:Bop} (h:qjJ p s=some o):o.prec=p/\o.str=s:=by
 unfold qjJ at h
 have h2:=List.find?_some h
 have h3:=List.mem_of_find?_eq_some h
 refine⟨?_,by simpa using h2⟩
 split at h3<;>simp at h3<;>(try rcases h3 with h3 | h3 | h3 | h3 | h3 | h3)<;>(try rcases h3 with h3 | h3)<;>subst_vars<;>rfl
theorem qqe (o:Bop):qai qaj o.str=false/\qai qar o.str=false:=by cases o<;>decide
theorem qs4 (b:Bool):qai qaj (ustr b)=false/\qai qar (ustr b)=false:=by cases b<;>decide
theorem qkb {s:ByteArray} (h:s∈fieldNames):qai qaj s=false:=by
 simp only[fieldNames,List.mem_cons,List.not_mem_nil,or_false] at h
 rcases h with h | h | h | h | h | h | h | h<;>rw[h]<;>decide
theorem qf3 {p:UInt8->Bool} {s:ByteArray} (h:qai p s=true):s.size≠0:=by
 rw[qaH] at h
 intro h0
 have:byl s=[]:=List.eq_nil_of_length_eq_zero (by rw[qaG,h0])
 rw[this] at h
 cases h
theorem qlJ : ∀ (j n k:Nat),n<10 ^ (k+1)->(qjq j n).length<=k+1
 | 0,n,k,_=>by simp[qjq]
 | j+1,n,k,h=>by
  simp only[qjq]
  split
  ·simp
  ·rename_i h10
   cases k with
   | zero=>simp at h; omega
   | succ k=>
    have:=qlJ j (n / 10) k (by rw[Nat.pow_succ] at h; omega)
    rw[List.length_append]
    simp
    omega
theorem qq9 (l:List UInt8) (h : ∀ b∈l,qaj b=true):digV l<10 ^ l.length:=by
 have key : ∀ (m:List UInt8) (a:Nat),(∀ b∈m,qaj b=true)->m.foldl (fun v c=>10*v+(c.toNat-48)) a<(a+1)*10 ^ m.length:=by
  intro m
  induction m with
  | nil=>intro a _; simp
  | cons c m ih=>
   intro a hm
   have hc:=hm c (List.mem_cons_self ..)
   simp only[qaj,Bool.and_eq_true,decide_eq_true_eq] at hc
   have:=ih (10*a+(c.toNat-48)) (fun b hb=>hm b (List.mem_cons_of_mem _ hb))
   simp only[List.foldl_cons,List.length_cons]
   refine Nat.lt_of_lt_of_le this ?_
   rw[Nat.pow_succ,Nat.mul_comm (10 ^ m.length),<- Nat.mul_assoc]
   exact Nat.mul_le_mul_right _ (by omega)
 have:=key l 0 h
 simpa [digV] using this
theorem qra {s:ByteArray} (hd:qai qaj s=true) (hg:Tg (byl s)):digV s.toList<=2147483647/\Red [s] [bs (qiw (digV s.toList))]:=by
 rw[ByteArray.toList_eq]
 have hall:(∀ b∈byl s,qaj b=true)/\digV (byl s)<=2147483647 /\ ∃ c r,byl s=c::r:=by
  rw[qaH] at hd
  rcases hg with ⟨c,r,e,hc,_⟩ | ⟨c,r,e,hc,hr,hv⟩ | h | ⟨c,e,hc⟩
  ·rw[e] at hd
   exfalso
   simp only[List.head?_cons,qaj,qaO,Bool.and_eq_true,decide_eq_true_eq] at hd hc
   omega
  ·refine⟨fun b hb=>?_,hv,c,r,e⟩
   rw[e] at hb
   rcases List.mem_cons.1 hb with rfl | hb
   ·exact hc
   ·exact hr b hb
  ·exfalso
   rcases pair_cases h with e | e | e | e | e | e<;>rw[e] at hd<;>revert hd<;>decide
  ·exfalso
   rw[e] at hd
   rcases qdT hc with rfl | rfl | rfl | rfl | rfl | rfl | rfl | rfl | rfl | rfl | rfl | rfl | rfl | rfl | rfl | rfl<;>revert hd<;>decide
 obtain⟨h1,h2,c,r,e⟩:=hall
 refine⟨h2,?_⟩
 obtain⟨d1,d2,c',r',d3⟩:=qfN (n:=digV (byl s)) (by omega)
 have endW : ∀ (w:List UInt8),(∃ c r,w=c::r)->(∀ b∈w,qaj b=true) -> ∀ p,qbb p (bs w)=true:=fun w ⟨c,r,hw⟩ hb p=>by
  unfold qbb
  rw[qaP]
  cases hl:w.getLast? with
  | none=>rw[List.getLast?_eq_none_iff,hw] at hl; cases hl
  | some x=>exact qgM (hb x (List.mem_of_getLast? hl))
 have startW : ∀ (w:List UInt8),(∃ c r,w=c::r)->(∀ b∈w,qaj b=true)->qai qar (bs w)=true:=fun w ⟨c,r,hw⟩ hb=>by
  rw[qaH,qaP,hw]
  exact qgM (hb c (by rw[hw]; exact List.mem_cons_self ..))
 have es:s=bs (byl s):=(qcA s).symm
 refine .dig ?_ (fun p=>?_) ?_ .nil
 ·rw[qao]
  have hlt:=qq9 (byl s) h1
  have hl:(byl s).length=r.length+1:=by rw[e]; rfl
  rw[hl] at hlt
  have:=qlJ 20 (digV (byl s)) r.length hlt
  rw[<- qaG,hl]
  exact this
 ·rw[endW _ ⟨c',r',d3⟩ d2,es,endW _ ⟨c,r,e⟩ h1]
 ·rw[startW _ ⟨c',r',d3⟩ d2,es,startW _ ⟨c,r,e⟩ h1]
theorem qkc (f:Bool) : ∀ n:Nat,
  (∀ prec lv ts e r,(∀ t∈ts,TkG t)->1<=prec->prec<=8->lv<=20->qan 12 2 f n prec lv ts=some (.ok e r)->RE e prec lv ts r) /\
  (∀ prec lv e ts e2 r2 ts0,(∀ t∈ts,TkG t)->1<=prec->prec<8->lv<=20->RE e (if prec=4 then 5 else prec) lv ts0 ts->qcb 12 2 f n prec lv e ts=some (.ok e2 r2)->RE e2 prec lv ts0 r2) /\
  (∀ lv ts e r,(∀ t∈ts,TkG t)->lv<=20->qbs 12 2 f n lv ts=some (.ok e r)->e.good/\lv+(e.nest false 1+1)<=20 /\ ∃ l,Hx (bs [91]::(l++[bs [93]])) ts r/\NI l/\Red l (e.tx false 1))
 | 0=>⟨fun p lv ts e r _ _ _ _ h=>by simp[qan] at h,fun p lv e ts e2 r2 ts0 _ _ _ _ _ h=>by simp[qcb] at h,fun lv ts e r _ _ h=>by simp[qbs] at h⟩
 | n+1=>by
  obtain⟨h1,h2,h3⟩:=qkc f n
  refine⟨fun prec lv ts e r hg hp hp8 hlv h=>?_,fun prec lv e ts e2 r2 ts0 hg hp hp8 hlv he h=>?_,fun lv ts e r hg hlv h=>?_⟩
  ·rw[qan] at h
   split at h
   ·rename_i hc
    cases ho:qcv 12 2 (ustr (prec==7)) (lv+1) ts with
    | er i c=>rw[ho] at h; cases h
    | ok u r1=>
     rw[ho] at h
     simp only at h
     obtain⟨o1,o2⟩:=qje ho
     cases hx:qan 12 2 f n prec (lv+1) r1 with
     | none=>rw[hx] at h; cases h
     | some y=>
      rw[hx] at h
      cases y with
      | er i c=>cases h
      | ok e1 r2=>
       simp only[Option.some.injEq,Rz.ok.injEq] at h
       obtain⟨rfl,rfl⟩:=h
       obtain⟨g1,g2,l,g3,g4,g5,g6⟩:=h1 prec (lv+1) r1 e1 r2 (fun t ht=>hg t (qcy o1 t ht)) hp hp8 o2 hx
       have hu:qdI (prec==7)=prec:=by
        rcases hc with ⟨rfl,_⟩ | ⟨rfl,_⟩<;>rfl
       refine⟨g1,?_,ustr (prec==7)::l,by simp,?_,qcc (qs4 _).1 g5,?_⟩
       ·simp only[E.nest,hu,Bool.false_or,Nat.lt_irrefl,decide_false]
        simp
        omega
       ·obtain⟨t,q,e,a1,a2,a3⟩:=o1
        exact⟨t,q,e,a1,a2,by rw[show q=r1 from a3]; exact g4⟩
       ·simp only[E.tx,hu,Bool.false_or,Nat.lt_irrefl,decide_false]
        exact .keep g6
   split at h
   ·rename_i hp7
    cases hx:qan 12 2 f n (prec+1) lv ts with
    | none=>rw[hx] at h; cases h
    | some y=>
     rw[hx] at h
     cases y with
     | er i c=>cases h
     | ok e1 r1=>
      simp only at h
      have g:=h1 (prec+1) lv ts e1 r1 hg (by omega) (by omega) hlv hx
      have hsub : ∀ t∈r1,TkG t:=fun t ht=>by
       obtain⟨_,_,l,_,q,_⟩:=g
       exact hg t (qcy q t ht)
      refine h2 prec lv e1 r1 e r ts hsub hp hp7 hlv ?_ h
      split
      ·rename_i h4; rw[h4] at g; exact g
      ·exact qnG g (by omega) (by omega)
   have hp8':prec=8:=by omega
   subst hp8'
   cases hn:nx ts with
   | none=>rw[hn] at h; simp only[Option.some.injEq] at h; exact absurd h qb5
   | some s=>
    rw[hn] at h
    simp only at h
    obtain⟨t,q,rfl,ts1,ts2⟩:=qf2 hn
    have htg:=hg t (List.mem_cons_self ..) ts2
    rw[ts1] at htg
    have h1x:Hx [s] (t::q) q:=⟨t,q,rfl,ts1,ts2,rfl⟩
    split at h
    ·rename_i hd
     simp only[Option.some.injEq,Rz.ok.injEq,List.tail_cons] at h
     obtain⟨rfl,rfl⟩:=h
     obtain⟨n1,n2⟩:=qra hd (htg (qf3 hd))
     exact⟨⟨by omega,by omega⟩,by simp only[E.nest]; omega,[s],by simp,h1x,qgq s,by simp only[E.tx,Int.toNat_natCast]; exact n2⟩
    split at h
    ·rename_i hs
     simp only[Option.some.injEq,Rz.ok.injEq,List.tail_cons] at h
     obtain⟨rfl,rfl⟩:=h
     subst hs
     exact⟨.inr rfl,by simp only[E.nest]; omega,_,by simp,h1x,qgq _,qcL _⟩
    split at h
    ·rename_i hs
     simp only[Option.some.injEq,Rz.ok.injEq,List.tail_cons] at h
     obtain⟨rfl,rfl⟩:=h
     subst hs
     exact⟨.inl rfl,by simp only[E.nest]; omega,_,by simp,h1x,qgq _,qcL _⟩
    split at h
    ·rename_i hs
     simp only[Option.some.injEq,Rz.ok.injEq,List.tail_cons] at h
     obtain⟨rfl,rfl⟩:=h
     exact⟨hs,by simp only[E.nest]; omega,_,by simp,h1x,qgq _,qcL _⟩
    split at h
    ·rename_i hs
     cases hx:qbs 12 2 f n lv q with
     | none=>rw[List.tail_cons,hx] at h; cases h
     | some y=>
      rw[List.tail_cons,hx] at h
      cases y with
      | er i c=>cases h
      | ok e1 r1=>
       simp only[Option.some.injEq,Rz.ok.injEq] at h
       obtain⟨rfl,rfl⟩:=h
       obtain⟨g1,g2,l,g3,g4,g5⟩:=h3 lv q e1 r1 (fun x hx=>hg x (List.mem_cons_of_mem _ hx)) hlv hx
       refine⟨⟨hs,g1⟩,by simp only[E.nest]; omega,s::bs [91]::(l++[bs [93]]),by simp,⟨t,q,rfl,ts1,ts2,g3⟩,qcc (qkb hs) (qcc (by decide) (qfu g4 (by decide))),?_⟩
       simp only[E.tx]
       exact .keep (.keep (qbI g5 (qcL _)))
    split at h
    ·rename_i hnd _ _ _ hf hs
     simp only[Option.some.injEq,Rz.ok.injEq,List.tail_cons] at h
     obtain⟨rfl,rfl⟩:=h
     exact⟨⟨htg (qf3 hs.1),hs.1,hf,hs.2⟩,by simp only[E.nest]; omega,_,by simp,h1x,qgq _,qcL _⟩
    cases ho:qcv 12 2 (bs [40]) (lv+1) (t::q) with
    | er i c=>rw[ho] at h; cases h
    | ok u r1=>
     rw[ho] at h
     simp only at h
     obtain⟨o1,o2⟩:=qje ho
     cases hx:qan 12 2 f n 1 (lv+1) r1 with
     | none=>rw[hx] at h; cases h
     | some y=>
      rw[hx] at h
      cases y with
      | er i c=>cases h
      | ok e1 r2=>
       simp only at h
       cases hxp:qav 12 (bs [41]) r2 with
       | er i c=>rw[hxp] at h; cases h
       | ok u2 r3=>
        rw[hxp] at h
        simp only[Option.some.injEq,Rz.ok.injEq] at h
        obtain⟨rfl,rfl⟩:=h
        obtain⟨g1,g2,l,g3,g4,g5,g6⟩:=h1 1 (lv+1) r1 e1 r2 (fun t ht=>hg t (qcy o1 t ht)) (by omega) (by omega) o2 hx
        refine⟨g1,?_,bs [40]::(l++[bs [41]]),by simp,?_,qcc (by decide) (qfu g5 (by decide)),?_⟩
        ·rw[qf1 e1 8 (by omega)]
         split<;>omega
        ·exact hx_app (a:=[bs [40]]) |>.2 ⟨r1,o1,hx_app.2 ⟨r2,g4,qcU hxp⟩⟩
        ·rw[qjd e1 8 (by omega)]
         refine qhf (b:=true) ?_ (fun _=>rfl)
         exact .keep (qbI g6 (qcL _))
  ·rw[qcb] at h
   have hend:ts=ts->RE e prec lv ts0 ts:=fun _=>qnG he (by split<;>omega) (by split<;>omega)
   cases hn:nx ts with
   | none=>
    rw[hn] at h
    simp only at h
    split at h
    ·simp only[Option.some.injEq,Rz.ok.injEq] at h
     obtain⟨rfl,rfl⟩:=h
     exact hend rfl
    ·simp only[Option.some.injEq] at h; exact absurd h qb5
   | some s=>
    rw[hn] at h
    simp only at h
    cases hop:qjJ prec s with
    | none=>
     rw[hop] at h
     simp only[Option.some.injEq,Rz.ok.injEq] at h
     obtain⟨rfl,rfl⟩:=h
     exact hend rfl
    | some o=>
     rw[hop] at h
     simp only at h
     obtain⟨op1,op2⟩:=qnH hop
     obtain⟨t,q,rfl,ts1,ts2⟩:=qf2 hn
     rw[List.tail_cons] at h
     cases hx:qan 12 2 f n (prec+1) lv q with
     | none=>rw[hx] at h; cases h
     | some y=>
      rw[hx] at h
      cases y with
      | er i c=>cases h
      | ok e' r1=>
       simp only at h
       obtain⟨a1,a2,la,a3,a4,a5,a6⟩:=he
       obtain⟨b1,b2,lb,b3,b4,b5,b6⟩:=h1 (prec+1) lv q e' r1 (fun x hx=>hg x (List.mem_cons_of_mem _ hx)) (by omega) (by omega) hlv hx
       have hleft:o.left=if prec=4 then 5 else prec:=by unfold Bop.left; rw[op1]
       have hb:RE (.bin f o e e') prec lv ts0 r1:=by
        refine⟨⟨a1,b1⟩,?_,la++o.str::lb,by simp,?_,qif a5 (qqe o).1 (qqe o).2 b5,?_⟩
        ·simp only[E.nest,hleft,op1,Bool.false_or,Nat.lt_irrefl,decide_false]
         simp
         omega
        ·exact hx_app.2 ⟨_,a4,⟨t,q,rfl,ts1.trans op2.symm,ts2,b4⟩⟩
        ·simp only[E.tx,hleft,op1,Bool.false_or,Nat.lt_irrefl,decide_false]
         exact qbI a6 (.keep b6)
       split at h
       ·simp only[Option.some.injEq,Rz.ok.injEq] at h
        obtain⟨rfl,rfl⟩:=h
        exact hb
       ·rename_i h4
        have hsub : ∀ t∈r1,TkG t:=fun x hxm=>hg x (List.mem_cons_of_mem _ (qcy b4 x hxm))
        exact h2 prec lv (.bin f o e e') r1 e2 r2 ts0 hsub hp hp8 hlv (by rw[if_neg h4]; exact hb) h
  ·rw[qbs] at h
   cases ho:qcv 12 2 (bs [91]) (lv+1) ts with
   | er i c=>rw[ho] at h; cases h
   | ok u r1=>
    rw[ho] at h
    simp only at h
    obtain⟨o1,o2⟩:=qje ho
    cases hx:qan 12 2 f n 1 (lv+1) r1 with
    | none=>rw[hx] at h; cases h
    | some y=>
     rw[hx] at h
     cases y with
     | er i c=>cases h
     | ok e1 r2=>
      simp only at h
      cases hxp:qav 12 (bs [93]) r2 with
      | er i c=>rw[hxp] at h; cases h
      | ok u2 r3=>
       rw[hxp] at h
       simp only[Option.some.injEq,Rz.ok.injEq] at h
       obtain⟨rfl,rfl⟩:=h
       obtain⟨g1,g2,l,g3,g4,g5,g6⟩:=h1 1 (lv+1) r1 e1 r2 (fun t ht=>hg t (qcy o1 t ht)) (by omega) (by omega) o2 hx
       exact⟨g1,by omega,l,hx_app (a:=[bs [91]]) |>.2 ⟨r1,o1,hx_app.2 ⟨r2,g4,qcU hxp⟩⟩,g5,g6⟩
end Go.Pm
end SUd
section SUe
namespace Go.Pm
theorem qiD : ∀ {a:Ss} (b:Ss),a.good none->(a.app b).tx=a.tx++b.tx
 | .nil,b,_=>rfl
 | .assign _ s e r,b,h=>by simp[Ss.app,Ss.tx,qiD b h.2.2.2]
 | .store _ s x y r,b,h=>by simp[Ss.app,Ss.tx,qiD b h.2.2.2.2]
 | .effect _ x y r,b,h=>by simp[Ss.app,Ss.tx,qiD b h.2.2.2]
 | .stop r,b,h=>by simp[Ss.app,Ss.tx,qiD b h.2]
 | .cond w _ c q r,b,h=>by simp[Ss.app,Ss.tx,qiD b h.2.2.2]
 | .block _ q r,b,h=>by obtain⟨n,hn,_⟩:=h; cases hn
theorem qeW : ∀ {a:Ss} {b:Ss},a.good none->b.good none->(a.app b).good none
 | .nil,b,_,h=>h
 | .assign _ s e r,b,h,hb=>⟨rfl,h.2.1,h.2.2.1,qeW h.2.2.2 hb⟩
 | .store _ s x y r,b,h,hb=>⟨rfl,h.2.1,h.2.2.1,h.2.2.2.1,qeW h.2.2.2.2 hb⟩
 | .effect _ x y r,b,h,hb=>⟨rfl,h.2.1,h.2.2.1,qeW h.2.2.2 hb⟩
 | .stop r,b,h,hb=>⟨rfl,qeW h.2 hb⟩
 | .cond w _ c q r,b,h,hb=>⟨rfl,h.2.1,h.2.2.1,qeW h.2.2.2 hb⟩
 | .block _ q r,b,h,hb=>by obtain⟨n,hn,_⟩:=h; cases hn
theorem qpQ (a b:Ss):(a.app b).nest=max a.nest b.nest:=by
 induction a<;>simp_all [Ss.app,Ss.nest,Nat.max_assoc]
def NE (l:List ByteArray):Prop := ∀ t,l.getLast?=some t->qai qaj t=false
theorem qe7 {l:List ByteArray} {t:ByteArray} (h:qai qaj t=false):NE (l++[t]):=fun x hx=>by
 rw[List.getLast?_concat] at hx
 cases hx
 exact h
theorem qjy {a b:List ByteArray} (ha:NI a) (he:NE a) (hb:NI b):NI (a++b):=qlA ha hb (fun t u ht _ hd=>by rw[he t ht] at hd; cases hd)
theorem qqs {a b:List ByteArray} (ha:NE a) (hb:NE b):NE (a++b):=fun t ht=>by
 rw[List.getLast?_append] at ht
 cases hl:b.getLast? with
 | none=>
  rw[hl] at ht
  exact ha t (by simpa using ht)
 | some x=>
  rw[hl] at ht
  simp at ht
  subst ht
  exact hb x hl
theorem qqt:NE []:=fun t h=>by cases h
def RS (b:Ss) (lv:Nat) (ts r:List Tk):Prop:=b.good none/\lv+b.nest<=20 /\ ∃ l,Hx l ts r/\NI l/\NE l/\Red l b.tx
theorem hx1 {t:Tk} {q:List Tk} {s:ByteArray} (h1:t.s=s) (h2:t.bad=0):Hx [s] (t::q) q:=⟨t,q,rfl,h1,h2,rfl⟩
theorem qbh {a b:List ByteArray} {ts m r:List Tk} (h1:Hx a ts m) (h2:Hx b m r):Hx (a++b) ts r:=hx_app.2 ⟨m,h1,h2⟩
theorem qfP {a b:Ss} {ts r:List Tk} (h:qbe 12 a ts = .ok b r):b=a/\Hx [bs [59]] ts r:=by
 unfold qbe at h
 cases hx:qav 12 (bs [59]) ts with
 | er i c=>rw[hx] at h; cases h
 | ok u q=>rw[hx] at h; cases h; exact⟨rfl,qcU hx⟩
theorem qkv (f fi fb:Bool) : ∀ n:Nat,
  (∀ lv ts b r,(∀ t∈ts,TkG t)->lv<=20->qcl 12 2 f fi fb n lv ts=some (.ok b r)->RS b lv ts r) /\
  (∀ lv ts b r,(∀ t∈ts,TkG t)->qaR 12 2 f fi fb n lv ts=some (.ok b r)->lv<=20/\b.good none/\lv+b.nest<=20 /\ ∃ l,Hx (bs [123]::(l++[bs [125]])) ts r/\NI l/\NE l/\Red l b.tx) /\
  (∀ lv a ts b r ts0,(∀ t∈ts,TkG t)->lv<=20->RS a lv ts0 ts->qbR 12 2 f fi fb n lv a ts=some (.ok b r)->b.good none/\lv+b.nest<=20 /\ ∃ l,Hx (l++[bs [125]]) ts0 r/\NI l/\NE l/\Red l b.tx)
 | 0=>⟨fun lv ts b r _ _ h=>by simp[qcl] at h,fun lv ts b r _ h=>by simp[qaR] at h,fun lv a ts b r ts0 _ _ _ h=>by simp[qbR] at h⟩
 | n+1=>by
  obtain⟨h1,h2,h3⟩:=qkv f fi fb n
  obtain⟨x1,_,x3⟩:=qkc f n
  refine⟨fun lv ts b r hg hlv h=>?_,fun lv ts b r hg h=>?_,fun lv a ts b r ts0 hg hlv ha h=>?_⟩
  ·rw[qcl] at h
   cases hn:nx ts with
   | none=>rw[hn] at h; simp only[Option.some.injEq] at h; exact absurd h qb5
   | some s=>
    rw[hn] at h
    simp only at h
    obtain⟨t,q,rfl,ts1,ts2⟩:=qf2 hn
    have htg:=hg t (List.mem_cons_self ..) ts2
    rw[ts1] at htg
    have hq : ∀ t∈q,TkG t:=fun x hx=>hg x (List.mem_cons_of_mem _ hx)
    have hs1:=hx1 (q:=q) ts1 ts2
    rw[List.tail_cons] at h
    split at h
    ·rename_i hs
     subst hs
     cases hx:qan 12 2 f n 1 lv q with
     | none=>rw[hx] at h; cases h
     | some y=>
      rw[hx] at h
      cases y with
      | er i k=>cases h
      | ok c r1=>
       simp only at h
       obtain⟨c1,c2,lc,c3,c4,c5,c6⟩:=x1 1 lv q c r1 hq (by omega) (by omega) hlv hx
       have hr1 : ∀ t∈r1,TkG t:=fun x hm=>hq x (qcy c4 x hm)
       cases hy:qaR 12 2 f fi fb n (lv+1) r1 with
       | none=>rw[hy] at h; cases h
       | some y=>
        rw[hy] at h
        cases y with
        | er i k=>cases h
        | ok b1 r2=>
         simp only at h
         obtain⟨b0,b1g,b1n,lb,b3,b4,b5,b6⟩:=h2 (lv+1) r1 b1 r2 hr1 hy
         have hr2 : ∀ t∈r2,TkG t:=fun x hm=>hr1 x (qcy b3 x hm)
         have base:Hx (bs [105,102]::(lc++bs [123]::(lb++[bs [125]]))) (t::q) r2:=qbh (a:=[bs [105,102]]) hs1 (qbh c4 b3)
         have ni0:NI (bs [105,102]::(lc++bs [123]::(lb++[bs [125]]))):=qcc (by decide) (qif c5 (by decide) (by decide) (qfu b4 (by decide)))
         cases hm:nx r2 with
         | none=>rw[hm] at h; simp only[Option.some.injEq] at h; exact absurd h qb5
         | some w=>
          rw[hm] at h
          simp only at h
          split at h
          ·rename_i hw
           subst hw
           obtain⟨t2,q2,rfl,t21,t22⟩:=qf2 hm
           rw[List.tail_cons] at h
           cases hz:qaR 12 2 f fi fb n (lv+1) q2 with
           | none=>rw[hz] at h; cases h
           | some y=>
            rw[hz] at h
            cases y with
            | er i k=>cases h
            | ok b2 r3=>
             simp only[Option.some.injEq,Rz.ok.injEq] at h
             obtain⟨rfl,rfl⟩:=h
             obtain⟨d0,d1,d2,ld,d3,d4,d5,d6⟩:=h2 (lv+1) q2 b2 r3 (fun x hx=>hr2 x (List.mem_cons_of_mem _ hx)) hz
             refine⟨⟨rfl,c1,⟨1,rfl,b1g,⟨0,rfl,d1,.inr rfl⟩⟩,.inl rfl⟩,by simp only[Ss.nest]; omega,_,qbh base (qbh (hx1 t21 t22) d3),?_,?_,?_⟩
             ·refine qjy ni0 ?_ (qjy (qgq _) (fun x hx=>by cases hx; decide) (qcc (by decide) (qfu d4 (by decide))))
              have:bs [105,102]::(lc++bs [123]::(lb++[bs [125]]))=(bs [105,102]::(lc++bs [123]::lb))++[bs [125]]:=by simp
              rw[this]
              exact qe7 (by decide)
             ·have : ∀ X:List ByteArray,X++([bs [101,108,115,101]]++bs [123]::(ld++[bs [125]]))=(X++(bs [101,108,115,101]::bs [123]::ld))++[bs [125]]:=fun X=>by simp
              rw[this]
              exact qe7 (by decide)
             ·simp only[Ss.tx,List.append_nil,Bool.false_eq_true,if_false]
              rw[show bs [105,102]::(lc++bs [123]::(lb++[bs [125]]))++([bs [101,108,115,101]]++bs [123]::(ld++[bs [125]]))=bs [105,102]::(lc++(bs [123]::(lb++(bs [125]::bs [101,108,115,101]::bs [123]::(ld++[bs [125]]))))) by simp]
              refine .keep (qbI c6 (.keep (qbI b6 (.keep ?_))))
              split
              ·exact .keep (.keep (qbI d6 (.keep .nil)))
              ·rename_i he
               have hb2:b2 = .nil:=by cases b2<;>first | rfl | exact absurd rfl he
               subst hb2
               have hk:=qbI d6 (.del (t:=bs [125]) (by decide) .nil)
               exact .del (by decide) (.del (by decide) hk)
          ·simp only[Option.some.injEq,Rz.ok.injEq] at h
           obtain⟨rfl,rfl⟩:=h
           refine⟨⟨rfl,c1,⟨1,rfl,b1g,⟨0,rfl,.inl rfl,.inr rfl⟩⟩,.inl rfl⟩,by simp only[Ss.nest]; omega,_,base,ni0,?_,?_⟩
           ·have:bs [105,102]::(lc++bs [123]::(lb++[bs [125]]))=(bs [105,102]::(lc++bs [123]::lb))++[bs [125]]:=by simp
            rw[this]
            exact qe7 (by decide)
           ·simp only[Ss.tx,qdw,List.append_nil,Bool.false_eq_true,if_false]
            exact .keep (qbI c6 (.keep (qbI b6 (.keep .nil))))
    split at h
    ·rename_i hs
     subst hs
     cases hx:qan 12 2 f n 1 lv q with
     | none=>rw[hx] at h; cases h
     | some y=>
      rw[hx] at h
      cases y with
      | er i k=>cases h
      | ok c r1=>
       simp only at h
       obtain⟨c1,c2,lc,c3,c4,c5,c6⟩:=x1 1 lv q c r1 hq (by omega) (by omega) hlv hx
       have hr1 : ∀ t∈r1,TkG t:=fun x hm=>hq x (qcy c4 x hm)
       cases hy:qaR 12 2 f fi fb n (lv+1) r1 with
       | none=>rw[hy] at h; cases h
       | some y=>
        rw[hy] at h
        cases y with
        | er i k=>cases h
        | ok b1 r2=>
         simp only[Option.some.injEq,Rz.ok.injEq] at h
         obtain⟨rfl,rfl⟩:=h
         obtain⟨b0,b1g,b1n,lb,b3,b4,b5,b6⟩:=h2 (lv+1) r1 b1 r2 hr1 hy
         refine⟨⟨rfl,c1,⟨0,rfl,b1g,.inr rfl⟩,.inl rfl⟩,by simp only[Ss.nest]; omega,_,qbh hs1 (qbh c4 b3),?_,?_,?_⟩
         ·exact qcc (by decide) (qif c5 (by decide) (by decide) (qfu b4 (by decide)))
         ·have:[bs [119,104,105,108,101]]++(lc++bs [123]::(lb++[bs [125]]))=(bs [119,104,105,108,101]::(lc++bs [123]::lb))++[bs [125]]:=by simp
          rw[this]
          exact qe7 (by decide)
         ·simp only[Ss.tx,qdw,List.append_nil,Bool.false_eq_true,if_false,if_true]
          rw[List.singleton_append]
          exact .keep (qbI c6 (.keep (qbI b6 (.keep .nil))))
    split at h
    ·rename_i hs
     subst hs
     cases hx:qan 12 2 f n 1 lv q with
     | none=>rw[hx] at h; cases h
     | some y=>
      rw[hx] at h
      cases y with
      | er i k=>cases h
      | ok c r1=>
       simp only at h
       obtain⟨c1,c2,lc,c3,c4,c5,c6⟩:=x1 1 lv q c r1 hq (by omega) (by omega) hlv hx
       have hr1 : ∀ t∈r1,TkG t:=fun x hm=>hq x (qcy c4 x hm)
       cases hy:qav 12 (bs [44]) r1 with
       | er i k=>rw[hy] at h; cases h
       | ok u r2=>
        rw[hy] at h
        simp only at h
        have k1:=qcU hy
        cases hz:qan 12 2 f n 1 lv r2 with
        | none=>rw[hz] at h; cases h
        | some y=>
         rw[hz] at h
         cases y with
         | er i k=>cases h
         | ok d r3=>
          simp only[Option.some.injEq] at h
          obtain⟨d1,d2,ld,d3,d4,d5,d6⟩:=x1 1 lv r2 d r3 (fun x hm=>hr1 x (qcy k1 x hm)) (by omega) (by omega) hlv hz
          obtain⟨rfl,k2⟩:=qfP h
          refine⟨⟨rfl,c1,d1,.inl rfl⟩,by simp only[Ss.nest]; omega,_,qbh hs1 (qbh c4 (qbh k1 (qbh d4 k2))),?_,?_,?_⟩
          ·exact qcc (by decide) (qif c5 (by decide) (by decide) (qfu d5 (by decide)))
          ·have:[bs [101,102,102,101,99,116]]++(lc++([bs [44]]++(ld++[bs [59]])))=(bs [101,102,102,101,99,116]::(lc++bs [44]::ld))++[bs [59]]:=by simp
           rw[this]
           exact qe7 (by decide)
          ·simp only[Ss.tx]
           simp only[List.cons_append,List.nil_append]
           exact .keep (qbI c6 (.keep (qbI d6 (.keep .nil))))
    split at h
    ·rename_i hs
     subst hs
     simp only[Option.some.injEq] at h
     obtain⟨rfl,k2⟩:=qfP h
     refine⟨⟨rfl,.inl rfl⟩,by simp only[Ss.nest]; omega,_,qbh hs1 k2,qcc (by decide) (qgq _),qe7 (l:=[bs [115,116,111,112]]) (by decide),qcL _⟩
    split at h
    ·rename_i hs
     cases hx:qbs 12 2 f n lv q with
     | none=>rw[hx] at h; cases h
     | some y=>
      rw[hx] at h
      cases y with
      | er i k=>cases h
      | ok c r1=>
       simp only at h
       obtain⟨c1,c2,lc,c4,c5,c6⟩:=x3 lv q c r1 hq hlv hx
       have hr1 : ∀ t∈r1,TkG t:=fun x hm=>hq x (qcy c4 x hm)
       cases hy:qav 12 (bs [61]) r1 with
       | er i k=>rw[hy] at h; cases h
       | ok u r2=>
        rw[hy] at h
        simp only at h
        have k1:=qcU hy
        cases hz:qan 12 2 f n 1 lv r2 with
        | none=>rw[hz] at h; cases h
        | some y=>
         rw[hz] at h
         cases y with
         | er i k=>cases h
         | ok d r3=>
          simp only[Option.some.injEq] at h
          obtain⟨d1,d2,ld,d3,d4,d5,d6⟩:=x1 1 lv r2 d r3 (fun x hm=>hr1 x (qcy k1 x hm)) (by omega) (by omega) hlv hz
          obtain⟨rfl,k2⟩:=qfP h
          refine⟨⟨rfl,hs,c1,d1,.inl rfl⟩,by simp only[Ss.nest]; omega,_,qbh hs1 (qbh c4 (qbh k1 (qbh d4 k2))),?_,?_,?_⟩
          ·refine qcc (qkb hs) ?_
           have:bs [91]::(lc++[bs [93]])++([bs [61]]++(ld++[bs [59]]))=bs [91]::(lc++bs [93]::bs [61]::(ld++[bs [59]])):=by simp
           show NI (bs [91]::(lc++[bs [93]])++([bs [61]]++(ld++[bs [59]])))
           rw[this]
           exact qcc (by decide) (qif c5 (by decide) (by decide) (qcc (by decide) (qfu d5 (by decide))))
          ·have:[s]++(bs [91]::(lc++[bs [93]])++([bs [61]]++(ld++[bs [59]])))=(s::bs [91]::(lc++bs [93]::bs [61]::ld))++[bs [59]]:=by simp
           rw[this]
           exact qe7 (by decide)
          ·simp only[Ss.tx]
           have:[s]++(bs [91]::(lc++[bs [93]])++([bs [61]]++(ld++[bs [59]])))=s::bs [91]::(lc++bs [93]::bs [61]::(ld++[bs [59]])):=by simp
           rw[this]
           exact .keep (.keep (qbI c6 (.keep (.keep (qbI d6 (.keep .nil))))))
    split at h
    ·rename_i hf hs
     cases hy:qav 12 (bs [61]) q with
     | er i k=>rw[hy] at h; cases h
     | ok u r2=>
      rw[hy] at h
      simp only at h
      have k1:=qcU hy
      cases hz:qan 12 2 f n 1 lv r2 with
      | none=>rw[hz] at h; cases h
      | some y=>
       rw[hz] at h
       cases y with
       | er i k=>cases h
       | ok d r3=>
        simp only[Option.some.injEq] at h
        obtain⟨d1,d2,ld,d3,d4,d5,d6⟩:=x1 1 lv r2 d r3 (fun x hm=>hq x (qcy k1 x hm)) (by omega) (by omega) hlv hz
        obtain⟨rfl,k2⟩:=qfP h
        refine⟨⟨rfl,⟨htg (qf3 hs.1),hs.1,hf,hs.2⟩,d1,.inl rfl⟩,by simp only[Ss.nest]; omega,_,qbh hs1 (qbh k1 (qbh d4 k2)),?_,?_,?_⟩
        ·exact qif (a:=[s]) (qgq s) (by decide) (by decide) (qfu d5 (by decide))
        ·have:[s]++([bs [61]]++(ld++[bs [59]]))=(s::bs [61]::ld)++[bs [59]]:=by simp
         rw[this]
         exact qe7 (by decide)
        ·simp only[Ss.tx]
         simp only[List.cons_append,List.nil_append]
         exact .keep (.keep (qbI d6 (.keep .nil)))
    ·simp only[Option.some.injEq] at h; exact absurd h qb5
  ·rw[qaR] at h
   cases ho:qcv 12 2 (bs [123]) lv ts with
   | er i k=>rw[ho] at h; cases h
   | ok u r1=>
    rw[ho] at h
    simp only at h
    obtain⟨o1,o2⟩:=qje ho
    obtain⟨g1,g2,l,g3,g4,g5,g6⟩:=h3 lv .nil r1 b r r1 (fun x hm=>hg x (qcy o1 x hm)) o2 ⟨.inl rfl,by simp only[Ss.nest]; omega,[],rfl,trivial,qqt,.nil⟩ h
    exact⟨o2,g1,g2,l,qbh (a:=[bs [123]]) o1 g3,g4,g5,g6⟩
  ·rw[qbR] at h
   cases hn:nx ts with
   | none=>rw[hn] at h; simp only[Option.some.injEq] at h; exact absurd h qb5
   | some s=>
    rw[hn] at h
    simp only at h
    obtain⟨t,q,rfl,ts1,ts2⟩:=qf2 hn
    obtain⟨a1,a2,la,a3,a4,a5,a6⟩:=ha
    split at h
    ·rename_i hs
     subst hs
     simp only[Option.some.injEq,Rz.ok.injEq,List.tail_cons] at h
     obtain⟨rfl,rfl⟩:=h
     exact⟨a1,a2,la,qbh a3 (hx1 ts1 ts2),a4,a5,a6⟩
    ·cases hx:qcl 12 2 f fi fb n lv (t::q) with
     | none=>rw[hx] at h; cases h
     | some y=>
      rw[hx] at h
      cases y with
      | er i k=>cases h
      | ok b1 r1=>
       simp only at h
       obtain⟨b1g,b2,lb,b3,b4,b5,b6⟩:=h1 lv (t::q) b1 r1 hg hlv hx
       refine h3 lv (a.app b1) r1 b r ts0 (fun x hm=>hg x (qcy b3 x hm)) hlv ⟨qeW a1 b1g,by rw[qpQ]; omega,la++lb,qbh a3 b3,qjy a4 a5 b4,qqs a5 b5,?_⟩ h
       rw[qiD b1 a1]
       exact qbI a6 b6
end Go.Pm
end SUe
section SYk
namespace Go.Pm
def qmj (g:List UInt8):Prop := ∀ r,qaX false (g++r)=g.length+qaX false r
theorem qg0:qmj []:=fun r=>by simp
theorem qjO {c:UInt8} (h:c.toNat=32\/c.toNat=9\/c.toNat=10):qmj [c]:=fun r=>by
 simp only[List.cons_append,List.nil_append,qaX,List.length_singleton]
 by_cases h10:c.toNat=10
 ·rw[if_pos h10]; omega
 ·rw[if_neg h10,if_pos (by rcases h with h | h | h; exact .inr (.inl h); exact .inr (.inr h); exact absurd h h10)]; omega
theorem qoN {w:List UInt8} (h:Tg w) (r:List UInt8):qaX false (w++r)=0:=by
 obtain⟨c,q,hw,h1,h2,h3,h4⟩:=qfe h
 rw[hw]
 simp[qaX,h1,h2,h3,h4]
def qdM:List (List UInt8 × ByteArray)->List UInt8
 | []=>[]
 | (g,t)::r=>g++(byl t++qdM r)
def Sep (t:ByteArray) (g:List UInt8) (u:ByteArray):Prop:=(∃ c q,g=c::q/\(c.toNat=32\/c.toNat=10\/c.toNat=9\/c.toNat=35))\/(g=[]/\(qbb false t&&qai qar u)=false/\Adj t u)
def OkG:List (List UInt8 × ByteArray)->Prop
 | []=>True
 | (g,t)::r=>qmj g/\Tg (byl t)/\(∀ p,r.head?=some p->Sep t p.1 p.2)/\OkG r
theorem qjP {w:List UInt8} (h:Tg w) {c:UInt8} (hc:c.toNat=32\/c.toNat=10\/c.toNat=9\/c.toNat=35) (r:List UInt8):Fol w (c::r):=by
 have hw:qar c=false:=by
  simp only[qar,qaO,qaj,Bool.or_eq_false_iff,Bool.and_eq_false_iff,decide_eq_false_iff_not]
  omega
 have hd:qaj c=false:=by
  simp only[qaj,Bool.and_eq_false_iff,decide_eq_false_iff_not]
  omega
 obtain⟨a,q,rfl,-⟩:=qfe h
 simp only[Fol]
 split
 ·exact hw
 split
 ·exact hd
 ·intro _ hp
  rcases pair_cases hp with h | h | h | h | h | h<;>simp only[List.cons.injEq,and_true] at h<;>rw[h.2] at hc<;>exact absurd hc (by decide)
theorem qqC (w:List UInt8):Fol w []:=by cases w<;>trivial
theorem qlr {w:ByteArray} (h:Tg (byl w)) (p q:Bool):qbb p w=qbb q w:=by
 obtain⟨c,r,hw,-⟩:=qfe h
 unfold qbb
 rw[hw]
 cases hl:(c::r).getLast? with
 | none=>simp at hl
 | some b=>rfl
theorem qg1 (eS eL eR:Nat) : ∀ (l:List (List UInt8 × ByteArray)) (n i:Nat) (tail:List UInt8),OkG l->(∀ p,l.getLast?=some p->Fol (byl p.2) tail)->l.length<=n ->
  ∃ ts,qjE eS eL eR n i (qdM l++tail)=ts++qjE eS eL eR (n-l.length) (i+(qdM l).length) tail /\ ∀ r,Hx (l.map (·.2)) (ts++r) r
 | [],n,i,tail,_,_,_=>⟨[],by simp[qdM],fun r=>rfl⟩
 | (g,t)::l,0,i,tail,_,_,h=>by simp at h
 | (g,t)::l,n+1,i,tail,ho,hl,h=>by
  obtain⟨hg,ht,ha,ho'⟩:=ho
  have hf:Fol (byl t) (qdM l++tail):=by
   cases l with
   | nil=>exact hl (g,t) rfl
   | cons u us=>
    obtain⟨g',u⟩:=u
    simp only[qdM,List.append_assoc]
    rcases ha (g',u) rfl with ⟨c,q,h1,h2⟩ | ⟨h1,h2,h3⟩
    ·simp only at h1
     rw[h1]
     exact qjP ht h2 _
    ·simp only at h1 h2 h3
     rw[h1]
     have:=qpr (p:=false) ht ho'.2.1 h3 (qdM us++tail)
     rwa [gap,h2] at this
  have hsk:qaX false (g++(byl t++(qdM l++tail)))=g.length:=by rw[hg,qoN ht]; omega
  have htk:=qn1 eS eL eR ht hf
  have hne:(byl t).length≠0:=by
   obtain⟨c,w,hw,-⟩:=qfe ht
   rw[hw]; simp
  obtain⟨ts,e1,e2⟩:=qg1 eS eL eR l n (i+g.length+t.size) tail ho' (fun u hu=>hl u (by
   cases l with
   | nil=>cases hu
   | cons v vs=>rw[List.getLast?_cons_cons]; exact hu)) (by simpa using h)
  refine⟨⟨i+g.length,t,0⟩::ts,?_,fun r=>⟨⟨i+g.length,t,0⟩,ts++r,rfl,rfl,rfl,e2 r⟩⟩
  simp only[qdM,List.append_assoc,qjE,hsk,List.drop_left,htk]
  rw[if_neg (by
   rintro (h | h)
   ·exact h rfl
   ·exact hne h)]
  rw[qcA,qaG,e1]
  simp only[List.cons_append,List.length_append,List.length_cons,qaG]
  congr 3<;>omega
theorem qmk (eS eL eR:Nat) {l:List (List UInt8 × ByteArray)} {w:List UInt8} (ho:OkG l) (hw:qmj w) (hsep:w=[] \/ ∃ c q,w=c::q/\(c.toNat=32\/c.toNat=10\/c.toNat=9\/c.toNat=35)) {s:ByteArray} (hs:byl s=qdM l++w) :
  ∃ e,Hx (l.map (·.2)) (qbN eS eL eR s (s.size+1) 0) [⟨e,⟨#[]⟩,0⟩]:=by
 have htgs : ∀ p∈l,Tg (byl p.2):=by
  induction l with
  | nil=>intro p hp; cases hp
  | cons q l ih=>
   intro p hp
   obtain⟨g,t⟩:=q
   rcases List.mem_cons.1 hp with rfl | hp
   ·exact ho.2.1
   ·have hl : ∀ (l:List (List UInt8 × ByteArray)),OkG l -> ∀ p∈l,Tg (byl p.2):=fun l=>by
     induction l with
     | nil=>intro _ p hp; cases hp
     | cons q l ih=>intro h p hp; rcases List.mem_cons.1 hp with rfl | hp; exact h.2.1; exact ih h.2.2.2 p hp
    exact hl l ho.2.2.2 p hp
 have hlen:l.length<=(qdM l).length:=by
  clear ho hs
  induction l with
  | nil=>simp
  | cons q l ih=>
   obtain⟨g,t⟩:=q
   have h1:=htgs (g,t) (List.mem_cons_self ..)
   obtain⟨c,w,hw,-⟩:=qfe h1
   have:=ih fun p hp=>htgs p (List.mem_cons_of_mem _ hp)
   simp only[qdM,List.length_append,List.length_cons]
   have h2:1<=(byl t).length:=by simp only at hw; rw[hw]; simp
   omega
 have hsz:s.size=(qdM l).length+w.length:=by rw[<- qaG,hs,List.length_append]
 rw[qgQ,List.drop_zero,hs]
 obtain⟨ts,e1,e2⟩:=qg1 eS eL eR l (s.size+1) 0 w ho (fun p hp=>by
  have ht:=htgs p (List.mem_of_getLast? hp)
  rcases hsep with h | ⟨c,q,h1,h2⟩
  ·rw[h]; exact qqC _
  ·rw[h1]; exact qjP ht h2 _) (by omega)
 rw[e1]
 obtain⟨k,hk⟩ : ∃ k,s.size+1-l.length=k+1:=⟨s.size-l.length,by omega⟩
 have hend : ∀ j,qjE eS eL eR (k+1) j w=[⟨j+w.length,⟨#[]⟩,0⟩]:=fun j=>by
  have h1:qaX false w=w.length:=by
   have:=hw []
   rw[List.append_nil] at this
   rw[this]; simp[qaX]
  simp only[qjE,h1,List.drop_length,tokL]
  rw[if_pos (.inr rfl)]
  rfl
 rw[hk,hend]
 exact⟨_,e2 _⟩
end Go.Pm
end SYk
section SUf
namespace Go.Pm
theorem qhM (p:Bool) (l:List ByteArray):qmy p (l++[bs [125]])=false:=by
 rw[qmy,List.foldl_append]
 show qbb (List.foldl qbb p l) (bs [125])=false
 exact qho (.inr ⟨125,rfl,by decide⟩)
theorem qoD (k:Nat) (b:Ss):qb6 k (some b)=(onS::qca k::bs [123]::b.tx)++[bs [125]]:=by simp[qb6]
theorem qoE (k:Nat) (o:Option Ss) (r:List ByteArray):(qah false (qb6 k o++r)).length=(qah false (qb6 k o)).length+(qah false r).length:=by
 cases o with
 | none=>simp[qb6,qah]
 | some b=>rw[qd6,qoD,qhM,List.length_append]
theorem qgR (h:Nat->Option Ss):(qah false (qbZ h)).length=(qah false (qb6 0 (h 0))).length+((qah false (qb6 1 (h 1))).length+(qah false (qb6 2 (h 2))).length):=by
 rw[qbZ,qoE,qoE]
theorem qr6 {h:Nat->Option Ss} {k:Nat} {b:Ss} (hk:k<3) (hh:h k=none):(qah false (qbZ fun i=>if i=k then some b else h i)).length=(qah false (qbZ h)).length+(qah false (qb6 k (some b))).length:=by
 rw[qgR,qgR]
 have e0 : ∀ j,(qah false (qb6 j none)).length=0:=fun j=>rfl
 obtain rfl | rfl | rfl:k=0\/k=1\/k=2:=by omega
 ·simp[hh,e0]; omega
 ·simp[hh,e0]; omega
 ·simp[hh,e0]; omega
theorem qkC {w:ByteArray} {k:Nat} (h:qby w=some k):k<3/\w=qca k:=by
 unfold qby at h
 split at h
 ·cases h; exact⟨by omega,by assumption⟩
 split at h
 ·cases h; exact⟨by omega,by assumption⟩
 split at h
 ·cases h; exact⟨by omega,by assumption⟩
 ·cases h
theorem qoF (k:Nat):qai qaj (qca k)=false:=by
 unfold qca
 split<;>decide
theorem qkD (f fi fb:Bool) : ∀ (n:Nat) (h:Nat->Option Ss) (ts:List Tk) (h':Nat->Option Ss) (r:List Tk),(∀ t∈ts,TkG t)->(∀ k,qct (h k))->(∀ k,3<=k->h k=none)->qcm 12 2 4 f fi fb n h ts=some (.ok h' r) ->
  ∃ l,Hx l ts r/\NI l/\NE l/\(∀ k,qct (h' k))/\(∀ k,3<=k->h' k=none)/\nx r=some ⟨#[]⟩/\(qah false (qbZ h')).length<=(qah false (qbZ h)).length+(qah false l).length
 | 0,h,ts,h',r,_,_,_,e=>by simp[qcm] at e
 | n+1,h,ts,h',r,hg,hh,h3,e=>by
  rw[qcm] at e
  cases hn:nx ts with
  | none=>rw[hn] at e; simp only[Option.some.injEq] at e; exact absurd e qb5
  | some s=>
   rw[hn] at e
   simp only at e
   split at e
   ·rename_i hs
    simp only[Option.some.injEq,Rz.ok.injEq] at e
    obtain⟨rfl,rfl⟩:=e
    have:s=⟨#[]⟩:=by
     apply qjD
     have:(byl s).length=0:=by rw[qaG,hs]
     rw[List.eq_nil_of_length_eq_zero this]
    rw[this] at hn
    exact⟨[],rfl,trivial,qqt,hh,h3,hn,by simp[qah]⟩
   ·cases hy:qav 12 (bs [111,110]) ts with
    | er i k=>rw[hy] at e; cases e
    | ok u r1=>
     rw[hy] at e
     simp only at e
     have k1:=qcU hy
     cases hm:nx r1 with
     | none=>rw[hm] at e; simp only[Option.some.injEq] at e; exact absurd e qb5
     | some w=>
      rw[hm] at e
      simp only at e
      cases hk:qby w with
      | none=>rw[hk] at e; simp only[Option.some.injEq] at e; exact absurd e qb5
      | some k=>
       rw[hk] at e
       simp only at e
       obtain⟨hk3,rfl⟩:=qkC hk
       obtain⟨t,q,rfl,ts1,ts2⟩:=qf2 hm
       split at e
       ·simp only[Option.some.injEq] at e; exact absurd e qb5
       ·rename_i hnone
        have hnone:h k=none:=by cases hq:h k with
         | none=>rfl
         | some x=>rw[hq] at hnone; exact absurd rfl hnone
        rw[List.tail_cons] at e
        have hq : ∀ t∈q,TkG t:=fun x hx=>hg x (qcy k1 x (List.mem_cons_of_mem _ hx))
        cases hb:qaR 12 2 f fi fb n 1 q with
        | none=>rw[hb] at e; cases e
        | some y=>
         rw[hb] at e
         cases y with
         | er i c=>cases e
         | ok b r2=>
          simp only at e
          obtain⟨_,b1,b2,lb,b3,b4,b5,b6⟩:=(qkv f fi fb n).2.1 1 q b r2 hq hb
          obtain⟨l,l1,l2,l3,l4,l5,l6,l7⟩:=qkD f fi fb n _ r2 h' r (fun x hx=>hq x (qcy b3 x hx)) (fun j=>by
           show qct (if j=k then some b else h j)
           split
           ·intro x hx; cases hx; exact⟨b1,by omega⟩
           ·exact hh j) (fun j hj=>by
           show (if j=k then some b else h j)=none
           rw[if_neg (by omega)]
           exact h3 j hj) e
          have hchunk:Hx ((onS::qca k::bs [123]::lb)++[bs [125]]) ts r2:=by
           have:=qbh k1 (qbh (hx1 (q:=q) ts1 ts2) b3)
           exact this
          refine⟨(onS::qca k::bs [123]::lb)++[bs [125]]++l,qbh hchunk l1,?_,qqs (qe7 (by decide)) l3,l4,l5,l6,?_⟩
          ·refine qjy (qcc (by decide) (qcc (qoF k) (qcc (by decide) ?_))) (qe7 (by decide)) l2
           exact qfu b4 (by decide)
          ·rw[qr6 hk3 hnone] at l7
           have hred:Red ((onS::qca k::bs [123]::lb)++[bs [125]]) (qb6 k (some b)):=by
            rw[qoD]
            exact qbI (.keep (.keep (.keep b6))) (qcL _)
           have hle:=qoW hred false
           rw[qd6 _ l,qhM,List.length_append]
           omega
theorem qtV : ∀ (l:List ByteArray) (n i:Nat) (b:List UInt8) (r:List Tk),Hx l (qjE 12 2 6 n i b) r->r≠[] -> ∀ u∈l,u.size≠0
 | [],n,i,b,r,_,_,u,hu=>by cases hu
 | x::l,0,i,b,r,h,hr,u,hu=>by
  obtain⟨t,q,e,_,_,h⟩:=h
  simp only[qjE,List.cons.injEq] at e
  rw[<- e.2] at h
  cases l with
  | nil=>exact absurd h.symm hr
  | cons y l=>obtain⟨_,_,e2,_⟩:=h; cases e2
 | x::l,n+1,i,b,r,h,hr,u,hu=>by
  rw[qjE] at h
  split at h
  ·obtain⟨t,q,e,_,_,h⟩:=h
   simp only[List.cons.injEq] at e
   rw[<- e.2] at h
   cases l with
   | nil=>exact absurd h.symm hr
   | cons y l=>obtain⟨_,_,e2,_⟩:=h; cases e2
  ·rename_i hc
   obtain⟨t,q,e,g1,_,h⟩:=h
   simp only[List.cons.injEq] at e
   rw[<- e.2] at h
   rw[<- e.1] at g1
   rcases List.mem_cons.1 hu with rfl | hu
   ·intro h0
    apply hc
    right
    have:=congrArg ByteArray.size g1
    simp only[qao] at this
    omega
   ·exact qtV l n _ _ r h hr u hu
theorem qmU {f fi fb:Bool} {s:ByteArray} {h:Nat->Option Ss} {r:List Tk} (hp:qc7 f fi fb s = .ok h r):(∀ k,qct (h k))/\(∀ k,3<=k->h k=none)/\(qah false (qbZ h)).length<=s.size/\s.size<=2000:=by
 by_cases hbig:2000<s.size
 ·rw[qc7,if_pos hbig] at hp; cases hp
 ·have hv:=qed (f:=f) (fi:=fi) (fb:=fb) hbig
  rw[hp] at hv
  obtain⟨l,l1,l2,_,l4,l5,l6,l7⟩:=qkD f fi fb _ _ _ _ _ (qnm s _ 0) (fun k x hx=>by cases hx) (fun k _=>rfl) hv
  refine⟨l4,l5,?_,by omega⟩
  have e:qhR s=qjE 12 2 6 (s.size+1) 0 (byl s):=by
   show qbN 12 2 6 s (s.size+1) 0=_
   rw[qgQ,List.drop_zero]
  have l1:Hx l (qhR s) r:=l1
  rw[e] at l1
  have hr:r≠[]:=fun h0=>by rw[h0] at l6; cases l6
  have:=qnp l _ _ _ _ false l1 l2 (qtV l _ _ _ _ l1 hr) (fun h=>by cases h)
  rw[qaG] at this
  have h0:(qah false (qbZ fun _=>none)).length=0:=rfl
  omega
theorem qhN {f fi fb:Bool} {s:ByteArray} (hs : ¬ 2000<s.size) {y:Rz (Nat->Option Ss)} (h : ∃ n,qcm 12 2 4 f fi fb n (fun _=>none) (qhR s)=some y):qc7 f fi fb s=y:=by
 obtain⟨n,h⟩:=h
 have h1:=qf6 h (Nat.le_max_left n (10*(qhR s).length+10))
 have h2:=qf6 (qed (f:=f) (fi:=fi) (fb:=fb) hs) (Nat.le_max_right n (10*(qhR s).length+10))
 rw[h1] at h2
 exact (Option.some.inj h2).symm
theorem qkE {ts:List ByteArray} (hcl:Ok2 ts) : ∃ e,Hx ts (qhR (bs (qah false ts))) [⟨e,⟨#[]⟩,0⟩]:=by
 obtain⟨l,hl,hm⟩ : ∃ l:List (List UInt8 × ByteArray),OkG l/\l.map (·.2)=ts/\qdM l=qah false ts:=by
  have key : ∀ (ts:List ByteArray) (p:Bool),Ok2 ts -> ∃ l:List (List UInt8 × ByteArray),OkG l/\l.map (·.2)=ts/\qdM l=qah p ts/\(∀ q,l.head?=some q -> ∃ t,ts.head?=some t/\q=(gap p t,t)):=by
   intro ts
   induction ts with
   | nil=>intro p _; exact⟨[],trivial,rfl,rfl,fun q h=>by cases h⟩
   | cons t ts ih=>
    intro p ho
    obtain⟨l,l1,l2,l3,l4⟩:=ih (qbb p t) ho.2.2
    have hwg:qmj (gap p t):=by
     unfold gap
     split
     ·exact qjO (.inl rfl)
     ·exact qg0
    refine⟨(gap p t,t)::l,⟨hwg,ho.1,fun q hq=>?_,l1⟩,by simp[l2],by simp[qdM,qah,l3],fun q hq=>⟨t,rfl,by cases hq; rfl⟩⟩
    obtain⟨u,hu,rfl⟩:=l4 q hq
    have hadj:=ho.2.1 u hu
    simp only
    by_cases hgap:(qbb p t&&qai qar u)=true
    ·left
     exact⟨32,[],by simp[gap,hgap],.inl rfl⟩
    ·right
     have hgap':(qbb p t&&qai qar u)=false:=by simpa using hgap
     refine⟨by simp[gap,hgap'],?_,hadj⟩
     rw[qlr ho.1 false p]
     exact hgap'
  obtain⟨l,l1,l2,l3,_⟩:=key ts false hcl
  exact⟨l,l1,l2,l3⟩
 have:=qmk 12 2 6 hl qg0 (.inl rfl) (s:=bs (qah false ts)) (by rw[qaP,hm.2,List.append_nil])
 rw[hm.1] at this
 exact this
end Go.Pm
end SUf
section SUk
namespace Go.Pm
def NZ {α : Type}:Rz α -> Prop
 | .ok _ _=>True
 | .er _ c=>c≠0
def NZo {α : Type}:Option (Rz α)->Prop
 | some x=>NZ x
 | none=>True
theorem qcZ {α : Type} {c:Nat} (h:c≠0) (ts:List Tk):NZ (failP c ts:Rz α):=by
 cases ts with
 | nil=>exact h
 | cons t r=>
  show (if t.bad=0 then c else t.bad)≠0
  split
  ·exact h
  ·assumption
theorem qdK (x:ByteArray) (ts:List Tk):NZ (qav 12 x ts):=by
 cases ts with
 | nil=>exact (show (12:Nat)≠0 by omega)
 | cons t r=>
  simp only[qav]
  split
  ·trivial
  ·exact qcZ (by omega) _
theorem qiR (x:ByteArray) (lv:Nat) (ts:List Tk):NZ (qcv 12 2 x lv ts):=by
 unfold qcv
 split
 ·exact qcZ (by omega) _
 ·exact qdK x ts
theorem qjM {α : Type} (a : α) (ts:List Tk):NZ (qbe 12 a ts):=by
 have h:=qdK (bs [59]) ts
 unfold qbe
 cases hx:qav 12 (bs [59]) ts with
 | ok=>trivial
 | er i c=>rw[hx] at h; exact h
theorem qm4 (f:Bool) : ∀ n:Nat,(∀ p lv ts,NZo (qan 12 2 f n p lv ts))/\(∀ p lv e ts,NZo (qcb 12 2 f n p lv e ts))/\(∀ lv ts,NZo (qbs 12 2 f n lv ts))
 | 0=>⟨fun _ _ _=>by simp[qan,NZo],fun _ _ _ _=>by simp[qcb,NZo],fun _ _=>by simp[qbs,NZo]⟩
 | n+1=>by
  obtain⟨h1,h2,h3⟩:=qm4 f n
  refine⟨fun p lv ts=>?_,fun p lv e ts=>?_,fun lv ts=>?_⟩
  ·simp only[qan]
   split
   ·have ho:=qiR (ustr (p==7)) (lv+1) ts
    split
    ·rename_i e; rw[e] at ho; exact ho
    ·rename_i r e
     have hx:=h1 p (lv+1) r
     split
     ·trivial
     ·exact hx
   split
   ·have hx:=h1 (p+1) lv ts
    split
    ·exact h2 _ _ _ _
    ·exact hx
   split
   ·exact qcZ (by omega) _
   split
   ·trivial
   split
   ·trivial
   split
   ·trivial
   split
   ·trivial
   split
   ·have hx:=h3 lv ts.tail
    split
    ·trivial
    ·exact hx
   split
   ·trivial
   have ho:=qiR (bs [40]) (lv+1) ts
   split
   ·rename_i e; rw[e] at ho; exact ho
   ·rename_i r e
    have hx:=h1 1 (lv+1) r
    split
    ·rename_i r' _
     have hy:=qdK (bs [41]) r'
     split
     ·trivial
     ·rename_i e; rw[e] at hy; exact hy
    ·exact hx
  ·simp only[qcb]
   split
   ·split
    ·trivial
    ·exact qcZ (by omega) _
   ·split
    ·trivial
    ·have hx:=h1 (p+1) lv ts.tail
     split
     ·split
      ·trivial
      ·exact h2 _ _ _ _
     ·exact hx
  ·simp only[qbs]
   have ho:=qiR (bs [91]) (lv+1) ts
   split
   ·rename_i e; rw[e] at ho; exact ho
   ·rename_i r e
    have hx:=h1 1 (lv+1) r
    split
    ·rename_i r' _
     have hy:=qdK (bs [93]) r'
     split
     ·trivial
     ·rename_i e; rw[e] at hy; exact hy
    ·exact hx
theorem qm5 (f fi fb:Bool) : ∀ n:Nat,(∀ lv ts,NZo (qcl 12 2 f fi fb n lv ts))/\(∀ lv ts,NZo (qaR 12 2 f fi fb n lv ts))/\(∀ lv a ts,NZo (qbR 12 2 f fi fb n lv a ts))
 | 0=>⟨fun _ _=>by simp[qcl,NZo],fun _ _=>by simp[qaR,NZo],fun _ _ _=>by simp[qbR,NZo]⟩
 | n+1=>by
  obtain⟨h1,h2,h3⟩:=qm5 f fi fb n
  obtain⟨x1,_,x3⟩:=qm4 f n
  have two : ∀ {g:E->Ss} (lv:Nat) (r:List Tk),NZo (match qan 12 2 f n 1 lv r with
    | some (.ok b r2)=>some (qbe 12 (g b) r2)
    | some (.er i k)=>some (.er i k)
    | none=>none):=fun {g} lv r=>by
   have hx:=x1 1 lv r
   split
   ·exact qjM _ _
   ·rename_i e; rw[e] at hx; exact hx
   ·trivial
  have three : ∀ {g:E->Ss} (x:ByteArray) (lv:Nat) (r:List Tk),NZo (match qav 12 x r with
    | .ok _ r1=>match qan 12 2 f n 1 lv r1 with
     | some (.ok b r2)=>some (qbe 12 (g b) r2)
     | some (.er i k)=>some (.er i k)
     | none=>none
    | .er i k=>some (.er i k)):=fun {g} x lv r=>by
   have hx:=qdK x r
   split
   ·exact two _ _
   ·rename_i e; rw[e] at hx; exact hx
  refine⟨fun lv ts=>?_,fun lv ts=>?_,fun lv a ts=>?_⟩
  ·simp only[qcl]
   split
   ·exact qcZ (by omega) _
   split
   ·have hx:=x1 1 lv ts.tail
    split
    ·rename_i c r _
     have hb:=h2 (lv+1) r
     split
     ·rename_i b r1 _
      split
      ·exact qcZ (by omega) _
      ·split
       ·have hb2:=h2 (lv+1) r1.tail
        split
        ·trivial
        ·rename_i e; rw[e] at hb2; exact hb2
        ·trivial
       ·trivial
     ·rename_i e; rw[e] at hb; exact hb
     ·trivial
    ·rename_i e; rw[e] at hx; exact hx
    ·trivial
   split
   ·have hx:=x1 1 lv ts.tail
    split
    ·rename_i c r _
     have hb:=h2 (lv+1) r
     split
     ·trivial
     ·rename_i e; rw[e] at hb; exact hb
     ·trivial
    ·rename_i e; rw[e] at hx; exact hx
    ·trivial
   split
   ·have hx:=x1 1 lv ts.tail
    split
    ·exact three _ _ _
    ·rename_i e; rw[e] at hx; exact hx
    ·trivial
   split
   ·exact qjM _ _
   split
   ·have hx:=x3 lv ts.tail
    split
    ·exact three _ _ _
    ·rename_i e; rw[e] at hx; exact hx
    ·trivial
   split
   ·exact three _ _ _
   ·exact qcZ (by omega) _
  ·simp only[qaR]
   have ho:=qiR (bs [123]) lv ts
   split
   ·rename_i e; rw[e] at ho; exact ho
   ·exact h3 _ _ _
  ·simp only[qbR]
   split
   ·exact qcZ (by omega) _
   ·split
    ·trivial
    ·have hx:=h1 lv ts
     split
     ·exact h3 _ _ _
     ·rename_i e; rw[e] at hx; exact hx
     ·trivial
theorem qm6 (f fi fb:Bool) : ∀ (n:Nat) h ts,NZo (qcm 12 2 4 f fi fb n h ts)
 | 0,h,ts=>by simp[qcm,NZo]
 | n+1,h,ts=>by
  simp only[qcm]
  split
  ·exact qcZ (by omega) _
  ·split
   ·trivial
   ·have hx:=qdK (bs [111,110]) ts
    split
    ·rename_i e; rw[e] at hx; exact hx
    ·rename_i r _
     split
     ·exact qcZ (by omega) _
     ·split
      ·exact qcZ (by omega) _
      ·split
       ·exact qcZ (by omega) _
       ·have hb:=(qm5 f fi fb n).2.1 1 r.tail
        split
        ·exact qm6 f fi fb n _ _
        ·rename_i e; rw[e] at hb; exact hb
        ·trivial
end Go.Pm
end SUk
section SF4
namespace Go.Pm.F
variable (C:Task->Option Res) (q:Nat) (fr:Fr) (σ : S)
@[simp] def F15a0x:PC:=(rn [jj 7 (.alloc [zN,zN,eN,sN]),st 4 7 18] [3,4,7])
def F15a0:PC:=F15a0x
@[simp] def F15b0x:PC:=(.block 3 (.seq (.seq (rn [fa 19 0 7,l1 20 19,bk 21 .neq 20 1,mv 22 21,jt 23 22 (.fieldAddr 0 (.t 7)),jt 24 22 (.load false 1 (.t 23)),jt 25 22 (.bin .neq (.t 24) (kk 10)),jj 26 (.pick (.t 22) (.t 25) kF)] [3,4,7,26]) (.cond (.t 26) (.exit 3) (.skip))) (.seq (rn [l1 28 4,fa 29 2 7,l1 30 29,jj 31 (.lookup .s zN (.t 28) (.t 30) true),mv 27 31,ex 32 27 0,ex 33 27 1,mv 8 32,mv 9 33] [3,4,7,9]) (.seq (rn [mv 34 9,jj 35 (.un .not (.t 34))] [3,4,7,35]) (.cond (.t 35) (.seq (rn [l1 36 4,fa 37 2 7,l1 38 37,l1 39 3,ls 40 39,jn (.mapset .s (.t 36) (.t 38) (.t 40))] [3,7]) (rn [l1 41 3,fa 42 2 7,l1 43 42,jj 44 (.bslice 1 [eN] [(0,1,(.t 43))]),jj 45 (.append 1 16 (.t 41) (.t 44)),st 1 3 45] [])) (.skip))))))
def F15b0:PC:=F15b0x
end Go.Pm.F
end SF4
section SE3
namespace Go.Pm
open F
inductive NmSt:S->V->S->Nat->List ByteArray->Ob->Prop
 | a (l:List ByteArray) (x:Ob):NmSt [] (.dat (qsp l)) [x] 0 l x
 | b (l:List ByteArray) (x:Ob) (m:Nat) (h:l≠[]):NmSt [] (.gsl (qaW l) l.length 1 0) [.tip m,x] 1 l x
end Go.Pm
end SE3
section SE4
namespace Go.Pm
open F
attribute [local simp] dkey
def mapM:Nat->List ByteArray->List (Value × V)
 | _,[]=>[]
 | i,s::l=>(.string s,.int i)::mapM (i+1) l
theorem qhz : ∀ (l:List ByteArray) (i:Nat),qg9 (mapM i l)=[]
 | [],i=>rfl
 | x::l,i=>by simp[mapM,qhz l]
theorem qjs (r:Nat->Nat) : ∀ (l:List ByteArray) (i:Nat),qp9 r (mapM i l)=mapM i l
 | [],i=>rfl
 | x::l,i=>by simp[mapM,qjs r l]
attribute [local simp] qhz qjs dkey
end Go.Pm
end SE4
section SE6
namespace Go.Pm
open F
attribute [local simp] qhz qjs dkey
abbrev qwb (r:D) (i:Int):Ob := .loop ⟨[(3,.ptr 2 0),(4,.ptr 3 0),(12,.dat r),(13,.int i),(17,.fn 38 [] [.ptr 1 0])],[18],F15a0,F15b0,0,none⟩
abbrev T1 (r:D) (j:Int) (bx:Ob) (l:List ByteArray):S:=[qwb r j,bx,.cells [.gsl (qaW l) l.length 1 4],.cells [.mp 5],.tip l.length,.map (mapM 0 l)]
end Go.Pm
end SE6
section SF01
namespace Go.Pm.F
variable (C:Task->Option Res) (q:Nat) (fr:Fr) (σ : S)
def F17:PFun:=⟨2,[.tmp 4],.seq (rn [mx 4 (kk 0)] [0,1]) (.seq (.seq (rn [mv 5 0,bk 6 .lss 5 0] [0,1,6]) (.cond (.t 6) (rn [mv 7 0,bk 8 .add 7 1,jj 9 (.un .neg (.t 8)),mv 0 9] [0,1]) (.skip))) (.seq (rn [mv 10 0,mv 11 1,bn 12 .rem 10 11,mv 4 12] [4]) (.ret))),false,false,false⟩
@[simp] def F20l0x:PC:=(.seq (.seq (rn [mv 10 5,bk 11 .neq 10 0] [0,3,4,5,11]) (.cond (.t 11) (.skip) (.exit 0))) (.seq (.block 1 (.seq (rn [mv 14 5,bk 15 .rem 14 10,mv 6 15] [0,3,4,5,6]) (.seq (.seq (rn [mv 16 6,bk 17 .lss 16 0] [0,3,4,5,6,17]) (.cond (.t 17) (rn [mv 18 6,jj 19 (.un .neg (.t 18)),mv 6 19] [0,3,4,5,6]) (.skip))) (rn [mv 20 3,mv 21 6,mv 22 6,bk 23 .add 22 1,jj 24 (.sliceS (.t 20) (some (.t 21)) (some (.t 23))),mv 25 4,bn 26 .add 24 25,mv 4 26] [0,3,4,5])))) (rn [mv 12 5,bk 13 .quo 12 10,mv 5 13] [0,3,4,5])))
def F20l0:PC:=F20l0x
theorem qkz:run C q F20l0 fr σ = run C q F20l0x fr σ := rfl
def F20:PFun:=⟨1,[.tmp 2],.seq (rn [jj 2 (.mov (.c (.string ⟨#[]⟩)))] [0]) (.seq (.seq (rn [mv 7 0,bk 8 .eql 7 0] [0,8]) (.cond (.t 8) (.seq (rn [jj 2 (.mov (.c (.string ⟨#[48]⟩)))] [2]) (.ret)) (.skip))) (.seq (rn [jj 3 (.mov (.c (.string ⟨#[48,49,50,51,52,53,54,55,56,57]⟩)))] [0,3]) (.seq (rn [jj 4 (.mov (.c (.string ⟨#[]⟩)))] [0,3,4]) (.seq (.seq (rn [mv 9 0,mv 5 9] [0,3,4,5]) (.block 0 (.loop F20l0))) (.seq (.seq (rn [mv 27 0,bk 28 .lss 27 0] [4,28]) (.cond (.t 28) (.seq (rn [mv 29 4,jj 30 (.bin .add (.c (.string ⟨#[45]⟩)) (.t 29)),mv 2 30] [2]) (.ret)) (.skip))) (.seq (rn [mv 31 4,mv 2 31] [2]) (.ret))))))),false,false,false⟩
def F23:PFun:=⟨2,[.tmp 4],.seq (rn [jj 4 (.mov (.c (.slice none 0 0)))] [0,1]) (.seq (rn [jj 5 (.mov (.c (.slice none 0 0)))] [0,1,5]) (.seq (rn [mv 6 5,mv 7 0,mv 8 0,ls 9 8,mv 10 1,jj 11 (.min [(.t 9),(.t 10)]),jj 12 (.slice 1 (.t 7) none (some (.t 11))),jj 13 (.append 1 8 (.t 6) (.t 12)),mv 4 13] [4]) (.ret))),false,false,false⟩
end Go.Pm.F
end SF01
