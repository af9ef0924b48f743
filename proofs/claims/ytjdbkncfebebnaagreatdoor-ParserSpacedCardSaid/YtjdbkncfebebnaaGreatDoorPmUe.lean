/- The rule language in plain Lean: what the parser makes of statements and programs is good, no deeper, no longer. No program in sight. The rule language in plain Lean: tokens with white space and comments between them. No program in sight. The rule language in plain Lean: what Parse makes of a source is good and no longer; printed, it is read back. No program in sight. The abstract machine's program, printed by a program of our own: group 4. The reference's names. The code's names: a round of the range. The code's Variables, first part. The abstract machine's program, printed by a program of our own: group 01. The abstract machine's program, printed by a program of our own: group 3g. The abstract machine's program, printed by a program of our own: group 5. The abstract machine's programs: tables of functions. What a tree costs written down: bytes and tokens. No program in sight. -/
import Derived.Test.YtjdbkncfebebnaaGreatDoorPmJb
import Derived.Test.YtjdbkncfebebnaaGreatDoorPmYh
import Derived.Test.YtjdbkncfebebnaaGreatDoorPmEt
import Derived.Test.YtjdbkncfebebnaaGreatDoorPmFx
set_option linter.unusedSimpArgs false
set_option linter.unusedVariables false
section SUe
namespace Go.Pm
theorem qjn : ∀ {a:Ss} (b:Ss),a.good none->(a.app b).tx=a.tx++b.tx
 | .nil,b,_=>rfl
 | .assign _ s e r,b,h=>by simp[Ss.app,Ss.tx,qjn b h.2.2.2]
 | .store _ s x y r,b,h=>by simp[Ss.app,Ss.tx,qjn b h.2.2.2.2]
 | .effect _ x y r,b,h=>by simp[Ss.app,Ss.tx,qjn b h.2.2.2]
 | .stop r,b,h=>by simp[Ss.app,Ss.tx,qjn b h.2]
 | .cond w _ c q r,b,h=>by simp[Ss.app,Ss.tx,qjn b h.2.2.2]
 | .block _ q r,b,h=>by obtain⟨n,hn,_⟩:=h; cases hn
theorem qfi : ∀ {a:Ss} {b:Ss},a.good none->b.good none->(a.app b).good none
 | .nil,b,_,h=>h
 | .assign _ s e r,b,h,hb=>⟨rfl,h.2.1,h.2.2.1,qfi h.2.2.2 hb⟩
 | .store _ s x y r,b,h,hb=>⟨rfl,h.2.1,h.2.2.1,h.2.2.2.1,qfi h.2.2.2.2 hb⟩
 | .effect _ x y r,b,h,hb=>⟨rfl,h.2.1,h.2.2.1,qfi h.2.2.2 hb⟩
 | .stop r,b,h,hb=>⟨rfl,qfi h.2 hb⟩
 | .cond w _ c q r,b,h,hb=>⟨rfl,h.2.1,h.2.2.1,qfi h.2.2.2 hb⟩
 | .block _ q r,b,h,hb=>by obtain⟨n,hn,_⟩:=h; cases hn
theorem qrq (a b:Ss):(a.app b).nest=max a.nest b.nest:=by
 induction a<;>simp_all [Ss.app,Ss.nest,Nat.max_assoc]
def NE (l:List ByteArray):Prop := ∀ t,l.getLast?=some t->qak qaj t=false
theorem qfx {l:List ByteArray} {t:ByteArray} (h:qak qaj t=false):NE (l++[t]):=fun x hx=>by
 rw[List.getLast?_concat] at hx
 cases hx
 exact h
theorem qkj {a b:List ByteArray} (ha:NI a) (he:NE a) (hb:NI b):NI (a++b):=qmH ha hb (fun t u ht _ hd=>by rw[he t ht] at hd; cases hd)
theorem qr8 {a b:List ByteArray} (ha:NE a) (hb:NE b):NE (a++b):=fun t ht=>by
 rw[List.getLast?_append] at ht
 cases hl:b.getLast? with
 | none=>
  rw[hl] at ht
  exact ha t (by simpa using ht)
 | some x=>
  rw[hl] at ht
  simp at ht
  subst ht
  exact hb x hl
theorem qr9:NE []:=fun t h=>by cases h
def RS (b:Ss) (lv:Nat) (ts r:List Tk):Prop:=b.good none/\lv+b.nest<=20 /\ ∃ l,Hx l ts r/\NI l/\NE l/\Red l b.tx
theorem hx1 {t:Tk} {q:List Tk} {s:ByteArray} (h1:t.s=s) (h2:t.bad=0):Hx [s] (t::q) q:=⟨t,q,rfl,h1,h2,rfl⟩
theorem qbm {a b:List ByteArray} {ts m r:List Tk} (h1:Hx a ts m) (h2:Hx b m r):Hx (a++b) ts r:=hx_app.2 ⟨m,h1,h2⟩
theorem qgh {a b:Ss} {ts r:List Tk} (h:qbc 12 a ts = .ok b r):b=a/\Hx [bs [59]] ts r:=by
 unfold qbc at h
 cases hx:qau 12 (bs [59]) ts with
 | er i c=>rw[hx] at h; cases h
 | ok u q=>rw[hx] at h; cases h; exact⟨rfl,qc8 hx⟩
theorem qlq (f fi fb:Bool) : ∀ n:Nat,
  (∀ lv ts b r,(∀ t∈ts,TkG t)->lv<=20->qck 12 2 f fi fb n lv ts=some (.ok b r)->RS b lv ts r) /\
  (∀ lv ts b r,(∀ t∈ts,TkG t)->qaW 12 2 f fi fb n lv ts=some (.ok b r)->lv<=20/\b.good none/\lv+b.nest<=20 /\ ∃ l,Hx (bs [123]::(l++[bs [125]])) ts r/\NI l/\NE l/\Red l b.tx) /\
  (∀ lv a ts b r ts0,(∀ t∈ts,TkG t)->lv<=20->RS a lv ts0 ts->qbV 12 2 f fi fb n lv a ts=some (.ok b r)->b.good none/\lv+b.nest<=20 /\ ∃ l,Hx (l++[bs [125]]) ts0 r/\NI l/\NE l/\Red l b.tx)
 | 0=>⟨fun lv ts b r _ _ h=>by simp[qck] at h,fun lv ts b r _ h=>by simp[qaW] at h,fun lv a ts b r ts0 _ _ _ h=>by simp[qbV] at h⟩
 | n+1=>by
  obtain⟨h1,h2,h3⟩:=qlq f fi fb n
  obtain⟨x1,_,x3⟩:=qk4 f n
  refine⟨fun lv ts b r hg hlv h=>?_,fun lv ts b r hg h=>?_,fun lv a ts b r ts0 hg hlv ha h=>?_⟩
  ·rw[qck] at h
   cases hn:nx ts with
   | none=>rw[hn] at h; simp only[Option.some.injEq] at h; exact absurd h qcf
   | some s=>
    rw[hn] at h
    simp only at h
    obtain⟨t,q,rfl,ts1,ts2⟩:=qgx hn
    have htg:=hg t (List.mem_cons_self ..) ts2
    rw[ts1] at htg
    have hq : ∀ t∈q,TkG t:=fun x hx=>hg x (List.mem_cons_of_mem _ hx)
    have hs1:=hx1 (q:=q) ts1 ts2
    rw[List.tail_cons] at h
    split at h
    ·rename_i hs
     subst hs
     cases hx:qal 12 2 f n 1 lv q with
     | none=>rw[hx] at h; cases h
     | some y=>
      rw[hx] at h
      cases y with
      | er i k=>cases h
      | ok c r1=>
       simp only at h
       obtain⟨c1,c2,lc,c3,c4,c5,c6⟩:=x1 1 lv q c r1 hq (by omega) (by omega) hlv hx
       have hr1 : ∀ t∈r1,TkG t:=fun x hm=>hq x (qcI c4 x hm)
       cases hy:qaW 12 2 f fi fb n (lv+1) r1 with
       | none=>rw[hy] at h; cases h
       | some y=>
        rw[hy] at h
        cases y with
        | er i k=>cases h
        | ok b1 r2=>
         simp only at h
         obtain⟨b0,b1g,b1n,lb,b3,b4,b5,b6⟩:=h2 (lv+1) r1 b1 r2 hr1 hy
         have hr2 : ∀ t∈r2,TkG t:=fun x hm=>hr1 x (qcI b3 x hm)
         have base:Hx (bs [105,102]::(lc++bs [123]::(lb++[bs [125]]))) (t::q) r2:=qbm (a:=[bs [105,102]]) hs1 (qbm c4 b3)
         have ni0:NI (bs [105,102]::(lc++bs [123]::(lb++[bs [125]]))):=qcj (by decide) (qiV c5 (by decide) (by decide) (qfW b4 (by decide)))
         cases hm:nx r2 with
         | none=>rw[hm] at h; simp only[Option.some.injEq] at h; exact absurd h qcf
         | some w=>
          rw[hm] at h
          simp only at h
          split at h
          ·rename_i hw
           subst hw
           obtain⟨t2,q2,rfl,t21,t22⟩:=qgx hm
           rw[List.tail_cons] at h
           cases hz:qaW 12 2 f fi fb n (lv+1) q2 with
           | none=>rw[hz] at h; cases h
           | some y=>
            rw[hz] at h
            cases y with
            | er i k=>cases h
            | ok b2 r3=>
             simp only[Option.some.injEq,Rz.ok.injEq] at h
             obtain⟨rfl,rfl⟩:=h
             obtain⟨d0,d1,d2,ld,d3,d4,d5,d6⟩:=h2 (lv+1) q2 b2 r3 (fun x hx=>hr2 x (List.mem_cons_of_mem _ hx)) hz
             refine⟨⟨rfl,c1,⟨1,rfl,b1g,⟨0,rfl,d1,.inr rfl⟩⟩,.inl rfl⟩,by simp only[Ss.nest]; omega,_,qbm base (qbm (hx1 t21 t22) d3),?_,?_,?_⟩
             ·refine qkj ni0 ?_ (qkj (qgX _) (fun x hx=>by cases hx; decide) (qcj (by decide) (qfW d4 (by decide))))
              have:bs [105,102]::(lc++bs [123]::(lb++[bs [125]]))=(bs [105,102]::(lc++bs [123]::lb))++[bs [125]]:=by simp
              rw[this]
              exact qfx (by decide)
             ·have : ∀ X:List ByteArray,X++([bs [101,108,115,101]]++bs [123]::(ld++[bs [125]]))=(X++(bs [101,108,115,101]::bs [123]::ld))++[bs [125]]:=fun X=>by simp
              rw[this]
              exact qfx (by decide)
             ·simp only[Ss.tx,List.append_nil,Bool.false_eq_true,if_false]
              rw[show bs [105,102]::(lc++bs [123]::(lb++[bs [125]]))++([bs [101,108,115,101]]++bs [123]::(ld++[bs [125]]))=bs [105,102]::(lc++(bs [123]::(lb++(bs [125]::bs [101,108,115,101]::bs [123]::(ld++[bs [125]]))))) by simp]
              refine .keep (qbP c6 (.keep (qbP b6 (.keep ?_))))
              split
              ·exact .keep (.keep (qbP d6 (.keep .nil)))
              ·rename_i he
               have hb2:b2 = .nil:=by cases b2<;>first | rfl | exact absurd rfl he
               subst hb2
               have hk:=qbP d6 (.del (t:=bs [125]) (by decide) .nil)
               exact .del (by decide) (.del (by decide) hk)
          ·simp only[Option.some.injEq,Rz.ok.injEq] at h
           obtain⟨rfl,rfl⟩:=h
           refine⟨⟨rfl,c1,⟨1,rfl,b1g,⟨0,rfl,.inl rfl,.inr rfl⟩⟩,.inl rfl⟩,by simp only[Ss.nest]; omega,_,base,ni0,?_,?_⟩
           ·have:bs [105,102]::(lc++bs [123]::(lb++[bs [125]]))=(bs [105,102]::(lc++bs [123]::lb))++[bs [125]]:=by simp
            rw[this]
            exact qfx (by decide)
           ·simp only[Ss.tx,qcR,List.append_nil,Bool.false_eq_true,if_false]
            exact .keep (qbP c6 (.keep (qbP b6 (.keep .nil))))
    split at h
    ·rename_i hs
     subst hs
     cases hx:qal 12 2 f n 1 lv q with
     | none=>rw[hx] at h; cases h
     | some y=>
      rw[hx] at h
      cases y with
      | er i k=>cases h
      | ok c r1=>
       simp only at h
       obtain⟨c1,c2,lc,c3,c4,c5,c6⟩:=x1 1 lv q c r1 hq (by omega) (by omega) hlv hx
       have hr1 : ∀ t∈r1,TkG t:=fun x hm=>hq x (qcI c4 x hm)
       cases hy:qaW 12 2 f fi fb n (lv+1) r1 with
       | none=>rw[hy] at h; cases h
       | some y=>
        rw[hy] at h
        cases y with
        | er i k=>cases h
        | ok b1 r2=>
         simp only[Option.some.injEq,Rz.ok.injEq] at h
         obtain⟨rfl,rfl⟩:=h
         obtain⟨b0,b1g,b1n,lb,b3,b4,b5,b6⟩:=h2 (lv+1) r1 b1 r2 hr1 hy
         refine⟨⟨rfl,c1,⟨0,rfl,b1g,.inr rfl⟩,.inl rfl⟩,by simp only[Ss.nest]; omega,_,qbm hs1 (qbm c4 b3),?_,?_,?_⟩
         ·exact qcj (by decide) (qiV c5 (by decide) (by decide) (qfW b4 (by decide)))
         ·have:[bs [119,104,105,108,101]]++(lc++bs [123]::(lb++[bs [125]]))=(bs [119,104,105,108,101]::(lc++bs [123]::lb))++[bs [125]]:=by simp
          rw[this]
          exact qfx (by decide)
         ·simp only[Ss.tx,qcR,List.append_nil,Bool.false_eq_true,if_false,if_true]
          rw[List.singleton_append]
          exact .keep (qbP c6 (.keep (qbP b6 (.keep .nil))))
    split at h
    ·rename_i hs
     subst hs
     cases hx:qal 12 2 f n 1 lv q with
     | none=>rw[hx] at h; cases h
     | some y=>
      rw[hx] at h
      cases y with
      | er i k=>cases h
      | ok c r1=>
       simp only at h
       obtain⟨c1,c2,lc,c3,c4,c5,c6⟩:=x1 1 lv q c r1 hq (by omega) (by omega) hlv hx
       have hr1 : ∀ t∈r1,TkG t:=fun x hm=>hq x (qcI c4 x hm)
       cases hy:qau 12 (bs [44]) r1 with
       | er i k=>rw[hy] at h; cases h
       | ok u r2=>
        rw[hy] at h
        simp only at h
        have k1:=qc8 hy
        cases hz:qal 12 2 f n 1 lv r2 with
        | none=>rw[hz] at h; cases h
        | some y=>
         rw[hz] at h
         cases y with
         | er i k=>cases h
         | ok d r3=>
          simp only[Option.some.injEq] at h
          obtain⟨d1,d2,ld,d3,d4,d5,d6⟩:=x1 1 lv r2 d r3 (fun x hm=>hr1 x (qcI k1 x hm)) (by omega) (by omega) hlv hz
          obtain⟨rfl,k2⟩:=qgh h
          refine⟨⟨rfl,c1,d1,.inl rfl⟩,by simp only[Ss.nest]; omega,_,qbm hs1 (qbm c4 (qbm k1 (qbm d4 k2))),?_,?_,?_⟩
          ·exact qcj (by decide) (qiV c5 (by decide) (by decide) (qfW d5 (by decide)))
          ·have:[bs [101,102,102,101,99,116]]++(lc++([bs [44]]++(ld++[bs [59]])))=(bs [101,102,102,101,99,116]::(lc++bs [44]::ld))++[bs [59]]:=by simp
           rw[this]
           exact qfx (by decide)
          ·simp only[Ss.tx]
           simp only[List.cons_append,List.nil_append]
           exact .keep (qbP c6 (.keep (qbP d6 (.keep .nil))))
    split at h
    ·rename_i hs
     subst hs
     simp only[Option.some.injEq] at h
     obtain⟨rfl,k2⟩:=qgh h
     refine⟨⟨rfl,.inl rfl⟩,by simp only[Ss.nest]; omega,_,qbm hs1 k2,qcj (by decide) (qgX _),qfx (l:=[bs [115,116,111,112]]) (by decide),qcW _⟩
    split at h
    ·rename_i hs
     cases hx:qbe 12 2 f n lv q with
     | none=>rw[hx] at h; cases h
     | some y=>
      rw[hx] at h
      cases y with
      | er i k=>cases h
      | ok c r1=>
       simp only at h
       obtain⟨c1,c2,lc,c4,c5,c6⟩:=x3 lv q c r1 hq hlv hx
       have hr1 : ∀ t∈r1,TkG t:=fun x hm=>hq x (qcI c4 x hm)
       cases hy:qau 12 (bs [61]) r1 with
       | er i k=>rw[hy] at h; cases h
       | ok u r2=>
        rw[hy] at h
        simp only at h
        have k1:=qc8 hy
        cases hz:qal 12 2 f n 1 lv r2 with
        | none=>rw[hz] at h; cases h
        | some y=>
         rw[hz] at h
         cases y with
         | er i k=>cases h
         | ok d r3=>
          simp only[Option.some.injEq] at h
          obtain⟨d1,d2,ld,d3,d4,d5,d6⟩:=x1 1 lv r2 d r3 (fun x hm=>hr1 x (qcI k1 x hm)) (by omega) (by omega) hlv hz
          obtain⟨rfl,k2⟩:=qgh h
          refine⟨⟨rfl,hs,c1,d1,.inl rfl⟩,by simp only[Ss.nest]; omega,_,qbm hs1 (qbm c4 (qbm k1 (qbm d4 k2))),?_,?_,?_⟩
          ·refine qcj (qk3 hs) ?_
           have:bs [91]::(lc++[bs [93]])++([bs [61]]++(ld++[bs [59]]))=bs [91]::(lc++bs [93]::bs [61]::(ld++[bs [59]])):=by simp
           show NI (bs [91]::(lc++[bs [93]])++([bs [61]]++(ld++[bs [59]])))
           rw[this]
           exact qcj (by decide) (qiV c5 (by decide) (by decide) (qcj (by decide) (qfW d5 (by decide))))
          ·have:[s]++(bs [91]::(lc++[bs [93]])++([bs [61]]++(ld++[bs [59]])))=(s::bs [91]::(lc++bs [93]::bs [61]::ld))++[bs [59]]:=by simp
           rw[this]
           exact qfx (by decide)
          ·simp only[Ss.tx]
           have:[s]++(bs [91]::(lc++[bs [93]])++([bs [61]]++(ld++[bs [59]])))=s::bs [91]::(lc++bs [93]::bs [61]::(ld++[bs [59]])):=by simp
           rw[this]
           exact .keep (.keep (qbP c6 (.keep (.keep (qbP d6 (.keep .nil))))))
    split at h
    ·rename_i hf hs
     cases hy:qau 12 (bs [61]) q with
     | er i k=>rw[hy] at h; cases h
     | ok u r2=>
      rw[hy] at h
      simp only at h
      have k1:=qc8 hy
      cases hz:qal 12 2 f n 1 lv r2 with
      | none=>rw[hz] at h; cases h
      | some y=>
       rw[hz] at h
       cases y with
       | er i k=>cases h
       | ok d r3=>
        simp only[Option.some.injEq] at h
        obtain⟨d1,d2,ld,d3,d4,d5,d6⟩:=x1 1 lv r2 d r3 (fun x hm=>hq x (qcI k1 x hm)) (by omega) (by omega) hlv hz
        obtain⟨rfl,k2⟩:=qgh h
        refine⟨⟨rfl,⟨htg (qgy hs.1),hs.1,hf,hs.2⟩,d1,.inl rfl⟩,by simp only[Ss.nest]; omega,_,qbm hs1 (qbm k1 (qbm d4 k2)),?_,?_,?_⟩
        ·exact qiV (a:=[s]) (qgX s) (by decide) (by decide) (qfW d5 (by decide))
        ·have:[s]++([bs [61]]++(ld++[bs [59]]))=(s::bs [61]::ld)++[bs [59]]:=by simp
         rw[this]
         exact qfx (by decide)
        ·simp only[Ss.tx]
         simp only[List.cons_append,List.nil_append]
         exact .keep (.keep (qbP d6 (.keep .nil)))
    ·simp only[Option.some.injEq] at h; exact absurd h qcf
  ·rw[qaW] at h
   cases ho:qcA 12 2 (bs [123]) lv ts with
   | er i k=>rw[ho] at h; cases h
   | ok u r1=>
    rw[ho] at h
    simp only at h
    obtain⟨o1,o2⟩:=qjY ho
    obtain⟨g1,g2,l,g3,g4,g5,g6⟩:=h3 lv .nil r1 b r r1 (fun x hm=>hg x (qcI o1 x hm)) o2 ⟨.inl rfl,by simp only[Ss.nest]; omega,[],rfl,trivial,qr9,.nil⟩ h
    exact⟨o2,g1,g2,l,qbm (a:=[bs [123]]) o1 g3,g4,g5,g6⟩
  ·rw[qbV] at h
   cases hn:nx ts with
   | none=>rw[hn] at h; simp only[Option.some.injEq] at h; exact absurd h qcf
   | some s=>
    rw[hn] at h
    simp only at h
    obtain⟨t,q,rfl,ts1,ts2⟩:=qgx hn
    obtain⟨a1,a2,la,a3,a4,a5,a6⟩:=ha
    split at h
    ·rename_i hs
     subst hs
     simp only[Option.some.injEq,Rz.ok.injEq,List.tail_cons] at h
     obtain⟨rfl,rfl⟩:=h
     exact⟨a1,a2,la,qbm a3 (hx1 ts1 ts2),a4,a5,a6⟩
    ·cases hx:qck 12 2 f fi fb n lv (t::q) with
     | none=>rw[hx] at h; cases h
     | some y=>
      rw[hx] at h
      cases y with
      | er i k=>cases h
      | ok b1 r1=>
       simp only at h
       obtain⟨b1g,b2,lb,b3,b4,b5,b6⟩:=h1 lv (t::q) b1 r1 hg hlv hx
       refine h3 lv (a.app b1) r1 b r ts0 (fun x hm=>hg x (qcI b3 x hm)) hlv ⟨qfi a1 b1g,by rw[qrq]; omega,la++lb,qbm a3 b3,qkj a4 a5 b4,qr8 a5 b5,?_⟩ h
       rw[qjn b1 a1]
       exact qbP a6 b6
end Go.Pm
end SUe
section SYk
namespace Go.Pm
def White (g:List UInt8):Prop := ∀ r,qaD false (g++r)=g.length+qaD false r
theorem qkz:White []:=fun r=>by simp
theorem qoq {c:UInt8} (h:c.toNat=32\/c.toNat=9\/c.toNat=10):White [c]:=fun r=>by
 simp only[List.cons_append,List.nil_append,qaD,List.length_singleton]
 by_cases h10:c.toNat=10
 ·rw[if_pos h10]; omega
 ·rw[if_neg h10,if_pos (by rcases h with h | h | h; exact .inr (.inl h); exact .inr (.inr h); exact absurd h h10)]; omega
theorem qqe {w:List UInt8} (h:Tg w) (r:List UInt8):qaD false (w++r)=0:=by
 obtain⟨c,q,hw,h1,h2,h3,h4⟩:=qfG h
 rw[hw]
 simp[qaD,h1,h2,h3,h4]
def qc4:List (List UInt8 × ByteArray)->List UInt8
 | []=>[]
 | (g,t)::r=>g++(byl t++qc4 r)
def Sep (t:ByteArray) (g:List UInt8) (u:ByteArray):Prop:=(∃ c q,g=c::q/\(c.toNat=32\/c.toNat=10\/c.toNat=9\/c.toNat=35))\/(g=[]/\(qbu false t&&qak qao u)=false/\Adj t u)
def OkG:List (List UInt8 × ByteArray)->Prop
 | []=>True
 | (g,t)::r=>White g/\Tg (byl t)/\(∀ p,r.head?=some p->Sep t p.1 p.2)/\OkG r
theorem qkA {w:List UInt8} (h:Tg w) {c:UInt8} (hc:c.toNat=32\/c.toNat=10\/c.toNat=9\/c.toNat=35) (r:List UInt8):Fol w (c::r):=by
 have hw:qao c=false:=by
  simp only[qao,qaM,qaj,Bool.or_eq_false_iff,Bool.and_eq_false_iff,decide_eq_false_iff_not]
  omega
 have hd:qaj c=false:=by
  simp only[qaj,Bool.and_eq_false_iff,decide_eq_false_iff_not]
  omega
 obtain⟨a,q,rfl,-⟩:=qfG h
 simp only[Fol]
 split
 ·exact hw
 split
 ·exact hd
 ·intro _ hp
  rcases pair_cases hp with h | h | h | h | h | h<;>simp only[List.cons.injEq,and_true] at h<;>rw[h.2] at hc<;>exact absurd hc (by decide)
theorem qsh (w:List UInt8):Fol w []:=by cases w<;>trivial
theorem qqf {w:ByteArray} (h:Tg (byl w)) (p q:Bool):qbu p w=qbu q w:=by
 obtain⟨c,r,hw,-⟩:=qfG h
 unfold qbu
 rw[hw]
 cases hl:(c::r).getLast? with
 | none=>simp at hl
 | some b=>rfl
theorem qkB (eS eL eR:Nat) : ∀ (l:List (List UInt8 × ByteArray)) (n i:Nat) (tail:List UInt8),OkG l->(∀ p,l.getLast?=some p->Fol (byl p.2) tail)->l.length<=n ->
  ∃ ts,qls eS eL eR n i (qc4 l++tail)=ts++qls eS eL eR (n-l.length) (i+(qc4 l).length) tail /\ ∀ r,Hx (l.map (·.2)) (ts++r) r
 | [],n,i,tail,_,_,_=>⟨[],by simp[qc4],fun r=>rfl⟩
 | (g,t)::l,0,i,tail,_,_,h=>by simp at h
 | (g,t)::l,n+1,i,tail,ho,hl,h=>by
  obtain⟨hg,ht,ha,ho'⟩:=ho
  have hf:Fol (byl t) (qc4 l++tail):=by
   cases l with
   | nil=>exact hl (g,t) rfl
   | cons u us=>
    obtain⟨g',u⟩:=u
    simp only[qc4,List.append_assoc]
    rcases ha (g',u) rfl with ⟨c,q,h1,h2⟩ | ⟨h1,h2,h3⟩
    ·simp only at h1
     rw[h1]
     exact qkA ht h2 _
    ·simp only at h1 h2 h3
     rw[h1]
     have:=qq2 (p:=false) ht ho'.2.1 h3 (qc4 us++tail)
     rwa [gap,h2] at this
  have hsk:qaD false (g++(byl t++(qc4 l++tail)))=g.length:=by rw[hg,qqe ht]; omega
  have htk:=qpi eS eL eR ht hf
  have hne:(byl t).length≠0:=by
   obtain⟨c,w,hw,-⟩:=qfG ht
   rw[hw]; simp
  obtain⟨ts,e1,e2⟩:=qkB eS eL eR l n (i+g.length+t.size) tail ho' (fun u hu=>hl u (by
   cases l with
   | nil=>cases hu
   | cons v vs=>rw[List.getLast?_cons_cons]; exact hu)) (by simpa using h)
  refine⟨⟨i+g.length,t,0⟩::ts,?_,fun r=>⟨⟨i+g.length,t,0⟩,ts++r,rfl,rfl,rfl,e2 r⟩⟩
  simp only[qc4,List.append_assoc,qls,hsk,List.drop_left,htk]
  rw[if_neg (by
   rintro (h | h)
   ·exact h rfl
   ·exact hne h)]
  rw[qcL,qar,e1]
  simp only[List.cons_append,List.length_append,List.length_cons,qar]
  congr 3<;>omega
theorem qiO (eS eL eR:Nat) {l:List (List UInt8 × ByteArray)} {w:List UInt8} (ho:OkG l) (hw:White w) (hsep:w=[] \/ ∃ c q,w=c::q/\(c.toNat=32\/c.toNat=10\/c.toNat=9\/c.toNat=35)) {s:ByteArray} (hs:byl s=qc4 l++w) :
  ∃ e,Hx (l.map (·.2)) (qbM eS eL eR s (s.size+1) 0) [⟨e,⟨#[]⟩,0⟩]:=by
 have htgs : ∀ p∈l,Tg (byl p.2):=by
  induction l with
  | nil=>intro p hp; cases hp
  | cons q l ih=>
   intro p hp
   obtain⟨g,t⟩:=q
   rcases List.mem_cons.1 hp with rfl | hp
   ·exact ho.2.1
   ·have hl : ∀ (l:List (List UInt8 × ByteArray)),OkG l -> ∀ p∈l,Tg (byl p.2):=fun l=>by
     induction l with
     | nil=>intro _ p hp; cases hp
     | cons q l ih=>intro h p hp; rcases List.mem_cons.1 hp with rfl | hp; exact h.2.1; exact ih h.2.2.2 p hp
    exact hl l ho.2.2.2 p hp
 have hlen:l.length<=(qc4 l).length:=by
  clear ho hs
  induction l with
  | nil=>simp
  | cons q l ih=>
   obtain⟨g,t⟩:=q
   have h1:=htgs (g,t) (List.mem_cons_self ..)
   obtain⟨c,w,hw,-⟩:=qfG h1
   have:=ih fun p hp=>htgs p (List.mem_cons_of_mem _ hp)
   simp only[qc4,List.length_append,List.length_cons]
   have h2:1<=(byl t).length:=by simp only at hw; rw[hw]; simp
   omega
 have hsz:s.size=(qc4 l).length+w.length:=by rw[<- qar,hs,List.length_append]
 rw[qkp,List.drop_zero,hs]
 obtain⟨ts,e1,e2⟩:=qkB eS eL eR l (s.size+1) 0 w ho (fun p hp=>by
  have ht:=htgs p (List.mem_of_getLast? hp)
  rcases hsep with h | ⟨c,q,h1,h2⟩
  ·rw[h]; exact qsh _
  ·rw[h1]; exact qkA ht h2 _) (by omega)
 rw[e1]
 obtain⟨k,hk⟩ : ∃ k,s.size+1-l.length=k+1:=⟨s.size-l.length,by omega⟩
 have hend : ∀ j,qls eS eL eR (k+1) j w=[⟨j+w.length,⟨#[]⟩,0⟩]:=fun j=>by
  have h1:qaD false w=w.length:=by
   have:=hw []
   rw[List.append_nil] at this
   rw[this]; simp[qaD]
  simp only[qls,h1,List.drop_length,tokL]
  rw[if_pos (.inr rfl)]
  rfl
 rw[hk,hend]
 exact⟨_,e2 _⟩
end Go.Pm
end SYk
section SUf
namespace Go.Pm
theorem qlx (p:Bool) (l:List ByteArray):qph p (l++[bs [125]])=false:=by
 rw[qph,List.foldl_append]
 show qbu (List.foldl qbu p l) (bs [125])=false
 exact qhY (.inr ⟨125,rfl,by decide⟩)
theorem qpW (k:Nat) (b:Ss):qdH k (some b)=(onS::qb0 k::bs [123]::b.tx)++[bs [125]]:=by simp[qdH]
theorem qpX (k:Nat) (o:Option Ss) (r:List ByteArray):(qam false (qdH k o++r)).length=(qam false (qdH k o)).length+(qam false r).length:=by
 cases o with
 | none=>simp[qdH,qam]
 | some b=>rw[qfe,qpW,qlx,List.length_append]
theorem qkr (h:Nat->Option Ss):(qam false (qaG h)).length=(qam false (qdH 0 (h 0))).length+((qam false (qdH 1 (h 1))).length+(qam false (qdH 2 (h 2))).length):=by
 rw[qaG,qpX,qpX]
theorem qt4 {h:Nat->Option Ss} {k:Nat} {b:Ss} (hk:k<3) (hh:h k=none):(qam false (qaG fun i=>if i=k then some b else h i)).length=(qam false (qaG h)).length+(qam false (qdH k (some b))).length:=by
 rw[qkr,qkr]
 have e0 : ∀ j,(qam false (qdH j none)).length=0:=fun j=>rfl
 obtain rfl | rfl | rfl:k=0\/k=1\/k=2:=by omega
 ·simp[hh,e0]; omega
 ·simp[hh,e0]; omega
 ·simp[hh,e0]; omega
theorem qly {w:ByteArray} {k:Nat} (h:qby w=some k):k<3/\w=qb0 k:=by
 unfold qby at h
 split at h
 ·cases h; exact⟨by omega,by assumption⟩
 split at h
 ·cases h; exact⟨by omega,by assumption⟩
 split at h
 ·cases h; exact⟨by omega,by assumption⟩
 ·cases h
theorem qpY (k:Nat):qak qaj (qb0 k)=false:=by
 unfold qb0
 split<;>decide
theorem qlz (f fi fb:Bool) : ∀ (n:Nat) (h:Nat->Option Ss) (ts:List Tk) (h':Nat->Option Ss) (r:List Tk),(∀ t∈ts,TkG t)->(∀ k,qcD (h k))->(∀ k,3<=k->h k=none)->qcC 12 2 4 f fi fb n h ts=some (.ok h' r) ->
  ∃ l,Hx l ts r/\NI l/\NE l/\(∀ k,qcD (h' k))/\(∀ k,3<=k->h' k=none)/\nx r=some ⟨#[]⟩/\(qam false (qaG h')).length<=(qam false (qaG h)).length+(qam false l).length
 | 0,h,ts,h',r,_,_,_,e=>by simp[qcC] at e
 | n+1,h,ts,h',r,hg,hh,h3,e=>by
  rw[qcC] at e
  cases hn:nx ts with
  | none=>rw[hn] at e; simp only[Option.some.injEq] at e; exact absurd e qcf
  | some s=>
   rw[hn] at e
   simp only at e
   split at e
   ·rename_i hs
    simp only[Option.some.injEq,Rz.ok.injEq] at e
    obtain⟨rfl,rfl⟩:=e
    have:s=⟨#[]⟩:=by
     apply qko
     have:(byl s).length=0:=by rw[qar,hs]
     rw[List.eq_nil_of_length_eq_zero this]
    rw[this] at hn
    exact⟨[],rfl,trivial,qr9,hh,h3,hn,by simp[qam]⟩
   ·cases hy:qau 12 (bs [111,110]) ts with
    | er i k=>rw[hy] at e; cases e
    | ok u r1=>
     rw[hy] at e
     simp only at e
     have k1:=qc8 hy
     cases hm:nx r1 with
     | none=>rw[hm] at e; simp only[Option.some.injEq] at e; exact absurd e qcf
     | some w=>
      rw[hm] at e
      simp only at e
      cases hk:qby w with
      | none=>rw[hk] at e; simp only[Option.some.injEq] at e; exact absurd e qcf
      | some k=>
       rw[hk] at e
       simp only at e
       obtain⟨hk3,rfl⟩:=qly hk
       obtain⟨t,q,rfl,ts1,ts2⟩:=qgx hm
       split at e
       ·simp only[Option.some.injEq] at e; exact absurd e qcf
       ·rename_i hnone
        have hnone:h k=none:=by cases hq:h k with
         | none=>rfl
         | some x=>rw[hq] at hnone; exact absurd rfl hnone
        rw[List.tail_cons] at e
        have hq : ∀ t∈q,TkG t:=fun x hx=>hg x (qcI k1 x (List.mem_cons_of_mem _ hx))
        cases hb:qaW 12 2 f fi fb n 1 q with
        | none=>rw[hb] at e; cases e
        | some y=>
         rw[hb] at e
         cases y with
         | er i c=>cases e
         | ok b r2=>
          simp only at e
          obtain⟨_,b1,b2,lb,b3,b4,b5,b6⟩:=(qlq f fi fb n).2.1 1 q b r2 hq hb
          obtain⟨l,l1,l2,l3,l4,l5,l6,l7⟩:=qlz f fi fb n _ r2 h' r (fun x hx=>hq x (qcI b3 x hx)) (fun j=>by
           show qcD (if j=k then some b else h j)
           split
           ·intro x hx; cases hx; exact⟨b1,by omega⟩
           ·exact hh j) (fun j hj=>by
           show (if j=k then some b else h j)=none
           rw[if_neg (by omega)]
           exact h3 j hj) e
          have hchunk:Hx ((onS::qb0 k::bs [123]::lb)++[bs [125]]) ts r2:=by
           have:=qbm k1 (qbm (hx1 (q:=q) ts1 ts2) b3)
           exact this
          refine⟨(onS::qb0 k::bs [123]::lb)++[bs [125]]++l,qbm hchunk l1,?_,qr8 (qfx (by decide)) l3,l4,l5,l6,?_⟩
          ·refine qkj (qcj (by decide) (qcj (qpY k) (qcj (by decide) ?_))) (qfx (by decide)) l2
           exact qfW b4 (by decide)
          ·rw[qt4 hk3 hnone] at l7
           have hred:Red ((onS::qb0 k::bs [123]::lb)++[bs [125]]) (qdH k (some b)):=by
            rw[qpW]
            exact qbP (.keep (.keep (.keep b6))) (qcW _)
           have hle:=qqn hred false
           rw[qfe _ l,qlx,List.length_append]
           omega
theorem qv7 : ∀ (l:List ByteArray) (n i:Nat) (b:List UInt8) (r:List Tk),Hx l (qls 12 2 6 n i b) r->r≠[] -> ∀ u∈l,u.size≠0
 | [],n,i,b,r,_,_,u,hu=>by cases hu
 | x::l,0,i,b,r,h,hr,u,hu=>by
  obtain⟨t,q,e,_,_,h⟩:=h
  simp only[qls,List.cons.injEq] at e
  rw[<- e.2] at h
  cases l with
  | nil=>exact absurd h.symm hr
  | cons y l=>obtain⟨_,_,e2,_⟩:=h; cases e2
 | x::l,n+1,i,b,r,h,hr,u,hu=>by
  rw[qls] at h
  split at h
  ·obtain⟨t,q,e,_,_,h⟩:=h
   simp only[List.cons.injEq] at e
   rw[<- e.2] at h
   cases l with
   | nil=>exact absurd h.symm hr
   | cons y l=>obtain⟨_,_,e2,_⟩:=h; cases e2
  ·rename_i hc
   obtain⟨t,q,e,g1,_,h⟩:=h
   simp only[List.cons.injEq] at e
   rw[<- e.2] at h
   rw[<- e.1] at g1
   rcases List.mem_cons.1 hu with rfl | hu
   ·intro h0
    apply hc
    right
    have:=congrArg ByteArray.size g1
    simp only[qas] at this
    omega
   ·exact qv7 l n _ _ r h hr u hu
theorem qjw {f fi fb:Bool} {s:ByteArray} {h:Nat->Option Ss} {r:List Tk} (hp:qcz f fi fb s = .ok h r):(∀ k,qcD (h k))/\(∀ k,3<=k->h k=none)/\(qam false (qaG h)).length<=s.size/\s.size<=2000:=by
 by_cases hbig:2000<s.size
 ·rw[qcz,if_pos hbig] at hp; cases hp
 ·have hv:=qdK (f:=f) (fi:=fi) (fb:=fb) hbig
  rw[hp] at hv
  obtain⟨l,l1,l2,_,l4,l5,l6,l7⟩:=qlz f fi fb _ _ _ _ _ (qoy s _ 0) (fun k x hx=>by cases hx) (fun k _=>rfl) hv
  refine⟨l4,l5,?_,by omega⟩
  have e:qhh s=qls 12 2 6 (s.size+1) 0 (byl s):=by
   show qbM 12 2 6 s (s.size+1) 0=_
   rw[qkp,List.drop_zero]
  have l1:Hx l (qhh s) r:=l1
  rw[e] at l1
  have hr:r≠[]:=fun h0=>by rw[h0] at l6; cases l6
  have:=qoB l _ _ _ _ false l1 l2 (qv7 l _ _ _ _ l1 hr) (fun h=>by cases h)
  rw[qar] at this
  have h0:(qam false (qaG fun _=>none)).length=0:=rfl
  omega
theorem qlA {f fi fb:Bool} {s:ByteArray} (hs : ¬ 2000<s.size) {y:Rz (Nat->Option Ss)} (h : ∃ n,qcC 12 2 4 f fi fb n (fun _=>none) (qhh s)=some y):qcz f fi fb s=y:=by
 obtain⟨n,h⟩:=h
 have h1:=qgA h (Nat.le_max_left n (10*(qhh s).length+10))
 have h2:=qgA (qdK (f:=f) (fi:=fi) (fb:=fb) hs) (Nat.le_max_right n (10*(qhh s).length+10))
 rw[h1] at h2
 exact (Option.some.inj h2).symm
theorem qlB {ts:List ByteArray} (hcl:Ok2 ts) : ∃ e,Hx ts (qhh (bs (qam false ts))) [⟨e,⟨#[]⟩,0⟩]:=by
 obtain⟨l,hl,hm⟩ : ∃ l:List (List UInt8 × ByteArray),OkG l/\l.map (·.2)=ts/\qc4 l=qam false ts:=by
  have key : ∀ (ts:List ByteArray) (p:Bool),Ok2 ts -> ∃ l:List (List UInt8 × ByteArray),OkG l/\l.map (·.2)=ts/\qc4 l=qam p ts/\(∀ q,l.head?=some q -> ∃ t,ts.head?=some t/\q=(gap p t,t)):=by
   intro ts
   induction ts with
   | nil=>intro p _; exact⟨[],trivial,rfl,rfl,fun q h=>by cases h⟩
   | cons t ts ih=>
    intro p ho
    obtain⟨l,l1,l2,l3,l4⟩:=ih (qbu p t) ho.2.2
    have hwg:White (gap p t):=by
     unfold gap
     split
     ·exact qoq (.inl rfl)
     ·exact qkz
    refine⟨(gap p t,t)::l,⟨hwg,ho.1,fun q hq=>?_,l1⟩,by simp[l2],by simp[qc4,qam,l3],fun q hq=>⟨t,rfl,by cases hq; rfl⟩⟩
    obtain⟨u,hu,rfl⟩:=l4 q hq
    have hadj:=ho.2.1 u hu
    simp only
    by_cases hgap:(qbu p t&&qak qao u)=true
    ·left
     exact⟨32,[],by simp[gap,hgap],.inl rfl⟩
    ·right
     have hgap':(qbu p t&&qak qao u)=false:=by simpa using hgap
     refine⟨by simp[gap,hgap'],?_,hadj⟩
     rw[qqf ho.1 false p]
     exact hgap'
  obtain⟨l,l1,l2,l3,_⟩:=key ts false hcl
  exact⟨l,l1,l2,l3⟩
 have:=qiO 12 2 6 hl qkz (.inl rfl) (s:=bs (qam false ts)) (by rw[qa6,hm.2,List.append_nil])
 rw[hm.1] at this
 exact this
theorem qob {h:Nat->Option Ss} (hg : ∀ k,qcD (h k)) : ∃ e,Hx (qaG h) (qhh (bs (qam false (qaG h)))) [⟨e,⟨#[]⟩,0⟩]:=qlB (ql4 hg).ok
theorem qir {f fi fb:Bool} {h:Nat->Option Ss} (hg : ∀ k,qcD (h k)) (hs:(qam false (qaG h)).length<=2000) : ∃ r,qcz f fi fb (bs (qam false (qaG h))) = .ok (fun k=>if k<3 then (h k).map (·.fl f fi fb) else none) r:=by
 obtain⟨e,hx⟩:=qob hg
 exact⟨_,qlA (by rw[qas]; omega) (rbP hg hx rfl)⟩
end Go.Pm
end SUf
section SF4
namespace Go.Pm.F
variable (C:Task->Option Res) (q:Nat) (fr:Fr) (σ : S)
@[simp] def F15a0x:PC:=(rn [jj 7 (.alloc [zN,zN,eN,sN]),st 4 7 18] [3,4,7])
def F15a0:PC:=F15a0x
@[simp] def F15b0x:PC:=(.block 3 (.seq (.seq (rn [fa 19 0 7,l1 20 19,bk 21 .neq 20 1,mv 22 21,jt 23 22 (.fieldAddr 0 (.t 7)),jt 24 22 (.load false 1 (.t 23)),jt 25 22 (.bin .neq (.t 24) (kk 10)),jj 26 (.pick (.t 22) (.t 25) kF)] [3,4,7,26]) (.cond (.t 26) (.exit 3) (.skip))) (.seq (rn [l1 28 4,fa 29 2 7,l1 30 29,jj 31 (.lookup .s zN (.t 28) (.t 30) true),mv 27 31,ex 32 27 0,ex 33 27 1,mv 8 32,mv 9 33] [3,4,7,9]) (.seq (rn [mv 34 9,jj 35 (.un .not (.t 34))] [3,4,7,35]) (.cond (.t 35) (.seq (rn [l1 36 4,fa 37 2 7,l1 38 37,l1 39 3,ls 40 39,jn (.mapset .s (.t 36) (.t 38) (.t 40))] [3,7]) (rn [l1 41 3,fa 42 2 7,l1 43 42,jj 44 (.bslice 1 [eN] [(0,1,(.t 43))]),jj 45 (.append 1 16 (.t 41) (.t 44)),st 1 3 45] [])) (.skip))))))
def F15b0:PC:=F15b0x
end Go.Pm.F
end SF4
section SE3
namespace Go.Pm
open F
inductive NmSt:S->V->S->Nat->List ByteArray->Ob->Prop
 | a (l:List ByteArray) (x:Ob):NmSt [] (.dat (qur l)) [x] 0 l x
 | b (l:List ByteArray) (x:Ob) (m:Nat) (h:l≠[]):NmSt [] (.gsl (strC l) l.length 1 0) [.tip m,x] 1 l x
end Go.Pm
end SE3
section SE4
namespace Go.Pm
open F
attribute [local simp] dkey
def mapM:Nat->List ByteArray->List (Value × V)
 | _,[]=>[]
 | i,s::l=>(.string s,.int i)::mapM (i+1) l
theorem qia : ∀ (l:List ByteArray) (i:Nat),qhK (mapM i l)=[]
 | [],i=>rfl
 | x::l,i=>by simp[mapM,qia l]
theorem qka (r:Nat->Nat) : ∀ (l:List ByteArray) (i:Nat),qrN r (mapM i l)=mapM i l
 | [],i=>rfl
 | x::l,i=>by simp[mapM,qka r l]
attribute [local simp] qia qka dkey
end Go.Pm
end SE4
section SE6
namespace Go.Pm
open F
attribute [local simp] qia qka dkey
abbrev qyB (r:D) (i:Int):Ob := .loop ⟨[(3,.ptr 2 0),(4,.ptr 3 0),(12,.dat r),(13,.int i),(17,.fn 38 [] [.ptr 1 0])],[18],F15a0,F15b0,0,none⟩
abbrev T1 (r:D) (j:Int) (bx:Ob) (l:List ByteArray):S:=[qyB r j,bx,.cells [.gsl (strC l) l.length 1 4],.cells [.mp 5],.tip l.length,.map (mapM 0 l)]
end Go.Pm
end SE6
section SF01
namespace Go.Pm.F
variable (C:Task->Option Res) (q:Nat) (fr:Fr) (σ : S)
def F17:PFun:=⟨2,[.tmp 4],.seq (rn [mx 4 (kk 0)] [0,1]) (.seq (.seq (rn [mv 5 0,bk 6 .lss 5 0] [0,1,6]) (.cond (.t 6) (rn [mv 7 0,bk 8 .add 7 1,jj 9 (.un .neg (.t 8)),mv 0 9] [0,1]) (.skip))) (.seq (rn [mv 10 0,mv 11 1,bn 12 .rem 10 11,mv 4 12] [4]) (.ret))),false,false,false⟩
@[simp] def F20l0x:PC:=(.seq (.seq (rn [mv 10 5,bk 11 .neq 10 0] [0,3,4,5,11]) (.cond (.t 11) (.skip) (.exit 0))) (.seq (.block 1 (.seq (rn [mv 14 5,bk 15 .rem 14 10,mv 6 15] [0,3,4,5,6]) (.seq (.seq (rn [mv 16 6,bk 17 .lss 16 0] [0,3,4,5,6,17]) (.cond (.t 17) (rn [mv 18 6,jj 19 (.un .neg (.t 18)),mv 6 19] [0,3,4,5,6]) (.skip))) (rn [mv 20 3,mv 21 6,mv 22 6,bk 23 .add 22 1,jj 24 (.sliceS (.t 20) (some (.t 21)) (some (.t 23))),mv 25 4,bn 26 .add 24 25,mv 4 26] [0,3,4,5])))) (rn [mv 12 5,bk 13 .quo 12 10,mv 5 13] [0,3,4,5])))
def F20l0:PC:=F20l0x
theorem qlu:run C q F20l0 fr σ = run C q F20l0x fr σ := rfl
def F20:PFun:=⟨1,[.tmp 2],.seq (rn [jj 2 (.mov (.c (.string ⟨#[]⟩)))] [0]) (.seq (.seq (rn [mv 7 0,bk 8 .eql 7 0] [0,8]) (.cond (.t 8) (.seq (rn [jj 2 (.mov (.c (.string ⟨#[48]⟩)))] [2]) (.ret)) (.skip))) (.seq (rn [jj 3 (.mov (.c (.string ⟨#[48,49,50,51,52,53,54,55,56,57]⟩)))] [0,3]) (.seq (rn [jj 4 (.mov (.c (.string ⟨#[]⟩)))] [0,3,4]) (.seq (.seq (rn [mv 9 0,mv 5 9] [0,3,4,5]) (.block 0 (.loop F20l0))) (.seq (.seq (rn [mv 27 0,bk 28 .lss 27 0] [4,28]) (.cond (.t 28) (.seq (rn [mv 29 4,jj 30 (.bin .add (.c (.string ⟨#[45]⟩)) (.t 29)),mv 2 30] [2]) (.ret)) (.skip))) (.seq (rn [mv 31 4,mv 2 31] [2]) (.ret))))))),false,false,false⟩
def F23:PFun:=⟨2,[.tmp 4],.seq (rn [jj 4 (.mov (.c (.slice none 0 0)))] [0,1]) (.seq (rn [jj 5 (.mov (.c (.slice none 0 0)))] [0,1,5]) (.seq (rn [mv 6 5,mv 7 0,mv 8 0,ls 9 8,mv 10 1,jj 11 (.min [(.t 9),(.t 10)]),jj 12 (.slice 1 (.t 7) none (some (.t 11))),jj 13 (.append 1 8 (.t 6) (.t 12)),mv 4 13] [4]) (.ret))),false,false,false⟩
end Go.Pm.F
end SF01
section SF3g
namespace Go.Pm.F
variable (C:Task->Option Res) (q:Nat) (fr:Fr) (σ : S)
@[simp] def F123l0x:PC:=(.seq (.seq (rn [mv 10 5,bk 11 .lss 10 3] [2,3,4,5,11]) (.cond (.t 11) (.skip) (.exit 0))) (.seq (.block 1 (.seq (rn [mv 14 3,jj 15 (.call 136 [(.t 14),(kk 4)]),bk 16 .gtr 15 0] [2,3,4,5,16]) (.cond (.t 16) (rn [mv 17 5,mv 18 3,jj 19 (.call 137 [(.t 18),(kk 2),(kk 3)]),fa 20 0 4,jj 21 (.indexAddrA 3 4 (.t 20) (.t 17)),st 4 21 19] [2,3,4,5]) (.skip)))) (rn [mv 12 5,bk 13 .add 12 1,mv 5 13] [2,3,4,5])))
def F123l0:PC:=F123l0x
theorem qcM:run C q F123l0 fr σ = run C q F123l0x fr σ := rfl
def F123:PFun:=⟨1,[.cell 2 true 12],.seq (rn [jj 2 (.alloc [zN,zN,eN,sN,zN,zN,eN,sN,zN,zN,eN,sN])] [0,2]) (.seq (rn [mv 6 0,jj 7 (.call 23 [(.t 6),(kk 60)]),jj 8 (.build [sN,zN] [(0,1,(.t 7))]),bx 9 8,mv 3 9] [2,3]) (.seq (rn [jj 4 (.alloc [zN,zN,eN,sN,zN,zN,eN,sN,zN,zN,eN,sN])] [2,3,4]) (.seq (.seq (rn [mx 5 (kk 0)] [2,3,4,5]) (.block 0 (.loop F123l0))) (.seq (rn [la 22 12 4,st 12 2 22] [2]) (.ret))))),false,false,false⟩
def F136:PFun:=⟨2,[.tmp 4],.seq (rn [mx 4 (kk 0)] [0,1]) (.seq (.seq (.region (some []) [mv 6 0,nc 7 6,fa 8 1 7,l1 9 8,mv 10 0,nc 11 10,fa 12 0 11,l1 13 12,ls 14 13,bn 15 .geq 9 14] [0,1,15]) (.cond (.t 15) (.seq (rn [mx 4 (kk 0)] [4]) (.ret)) (.skip))) (.seq (.region (some []) [mv 16 0,nc 17 16,fa 18 0 17,l1 19 18,mv 20 0,nc 21 20,fa 22 1 21,l1 23 22,jj 24 (.indexAddr 1 (.t 19) (.t 23)),l1 25 24,jj 26 (.call 17 [(.t 25),(kk 1000000)]),mv 5 26] [0,1,5] [10]) (.seq (rn [mv 27 0,nc 28 27,fa 29 1 28,l1 30 29,bk 31 .add 30 1,nc 32 27,fa 33 1 32,st 1 33 31] [1,5]) (.seq (rn [mv 34 5,mv 35 1,bn 36 .rem 34 35,mv 4 36] [4]) (.ret))))),false,false,false⟩
@[simp] def F137l0x:PC:=(.seq (.seq (rn [mv 14 8,bk 15 .gtr 14 0] [0,1,6,7,8,15]) (.cond (.t 15) (.skip) (.exit 0))) (.seq (.block 1 (.region (some []) [fa 18 3 7,⟨some 19,.load false 1 (.t 18),none,[4]⟩,mv 20 0,mv 21 1,cl 22 162 [20,21],jj 23 (.bslice 1 [zN,zN,eN,sN] [(0,4,(.t 22))]),jj 24 (.append 4 56 (.t 19) (.t 23)),fa 25 3 7,st 1 25 24] [0,1,6,7,8] [4])) (rn [mv 16 8,bk 17 .sub 16 1,mv 8 17] [0,1,6,7,8])))
def F137l0:PC:=F137l0x
theorem qe3:run C q F137l0 fr σ = run C q F137l0x fr σ := rfl
def F137:PFun:=⟨3,[.cell 6 true 4],.seq (rn [jj 6 (.alloc [zN,zN,eN,sN])] [0,1,2,6]) (.seq (rn [jj 9 (.build [zN,zN,eN,sN] [(0,1,(kk 7))]),jj 7 (.alloc [zN,zN,eN,sN]),st 4 7 9] [0,1,2,6,7]) (.seq (.seq (rn [mv 10 0,mv 11 2,bk 12 .add 11 1,cl 13 136 [10,12],mv 8 13] [0,1,6,7,8]) (.block 0 (.loop F137l0))) (.seq (rn [la 26 4 7,st 4 6 26] [6]) (.ret)))),false,false,false⟩
def F162:PFun:=⟨2,[.cell 4 true 4],.seq (rn [jj 4 (.alloc [zN,zN,eN,sN])] [0,1,4]) (.seq (rn [mv 13 0,jj 14 (.call 136 [(.t 13),(kk 10)]),mv 5 14] [0,1,4,5]) (.seq (.seq (rn [mv 15 1,bk 16 .leq 15 0] [0,1,4,5,16]) (.cond (.t 16) (rn [mv 17 5,bk 18 .rem 17 7,mv 5 18] [0,1,4,5]) (.skip))) (.seq (.seq (rn [mv 19 5] [0,1,4,19]) (.block 0 (.seq (.seq (rn [bk 21 .eql 19 0,mv 20 21] [0,1,4,19,20]) (.cond (.t 20) (.skip) (rn [bk 22 .eql 19 1,mv 20 22] [0,1,4,19,20]))) (.cond (.t 20) (.seq (.region (some []) [jj 23 (.bslice 4 [eN,eN,eN,eN] [(0,1,(.c (.string ⟨#[105]⟩))),(1,1,(.c (.string ⟨#[110]⟩))),(2,1,(.c (.string ⟨#[115,117,109]⟩))),(3,1,(.c (.string ⟨#[118,51]⟩)))]),mv 24 0,jj 25 (.call 136 [(.t 24),(kk 4)]),jj 26 (.indexAddr 1 (.t 23) (.t 25)),⟨some 27,.load false 1 (.t 26),none,[6]⟩,mv 28 0,jj 29 (.call 177 [(.t 28),(kk 2)]),jj 30 (.call 176 [(kk 1),(.t 27),(.t 29)]),st 4 4 30] [4] [6,7]) (.ret)) (.seq (.seq (rn [bk 32 .eql 19 2,mv 31 32] [0,1,4,19,31]) (.cond (.t 31) (.skip) (.seq (rn [bk 33 .eql 19 3,mv 31 33] [0,1,4,19,31]) (.cond (.t 31) (.skip) (rn [bk 34 .eql 19 4,mv 31 34] [0,1,4,19,31]))))) (.cond (.t 31) (.seq (rn [jj 35 (.bslice 6 [eN,eN,eN,eN,eN,eN] [(0,1,(.c (.string ⟨#[120]⟩))),(1,1,(.c (.string ⟨#[121]⟩))),(2,1,(.c (.string ⟨#[118,120]⟩))),(3,1,(.c (.string ⟨#[118,121]⟩))),(4,1,(.c (.string ⟨#[97]⟩))),(5,1,(.c (.string ⟨#[98]⟩)))]),mv 36 0,jj 37 (.call 136 [(.t 36),(kk 6)]),jj 38 (.indexAddr 1 (.t 35) (.t 37)),l1 39 38,mv 6 39] [0,4,6]) (.seq (rn [mv 40 0,jj 41 (.call 177 [(.t 40),(kk 1)]),jj 7 (.alloc [zN,zN,eN,sN]),st 4 7 41] [0,4,6,7]) (.seq (.region (some []) [mv 42 6,⟨some 43,.load true 4 (.t 7),none,[3]⟩,mv 44 0,jj 45 (.call 177 [(.t 44),(kk 2)]),jj 46 (.call 178 [(kk 2),(.t 42),(.t 43),(.t 45)]),st 4 4 46] [4] [3,4]) (.ret)))) (.seq (rn [bk 48 .eql 19 5,mv 47 48] [0,1,4,19,47]) (.cond (.t 47) (.seq (rn [mv 49 0,jj 50 (.call 177 [(.t 49),(kk 0)]),jj 8 (.alloc [zN,zN,eN,sN]),st 4 8 50] [0,4,8]) (.seq (.region (some []) [⟨some 51,.load true 4 (.t 8),none,[2]⟩,mv 52 0,jj 53 (.call 177 [(.t 52),(kk 1)]),jj 54 (.call 178 [(kk 5),(.c (.string ⟨#[]⟩)),(.t 51),(.t 53)]),st 4 4 54] [4] [2,3]) (.ret))) (.seq (rn [bk 56 .eql 19 6,mv 55 56] [0,1,4,19,55]) (.cond (.t 55) (.seq (.seq (rn [mv 57 0,jj 58 (.call 136 [(.t 57),(kk 3)]),bk 59 .gtr 58 0] [0,4,59]) (.cond (.t 59) (.seq (rn [mv 60 0,jj 61 (.call 177 [(.t 60),(kk 1)]),jj 62 (.call 176 [(kk 1),(.c (.string ⟨#[110]⟩)),(.t 61)]),st 4 4 62] [4]) (.ret)) (.skip))) (.seq (rn [jj 63 (.build [zN,zN,eN,sN] [(0,1,(kk 6))]),st 4 4 63] [4]) (.ret))) (.seq (rn [bk 65 .eql 19 7,mv 64 65] [0,1,4,64]) (.cond (.t 64) (.seq (rn [mv 66 0,jj 67 (.call 179 [(.t 66),(kk 1)]),jj 9 (.alloc [zN,zN,eN,sN]),st 4 9 67] [0,1,4,9]) (.seq (.region (some []) [⟨some 68,.load true 4 (.t 9),none,[4]⟩,mv 69 0,mv 70 1,bk 71 .sub 70 1,jj 72 (.call 137 [(.t 69),(.t 71),(kk 2)]),jj 73 (.call 178 [(kk 4),(.c (.string ⟨#[]⟩)),(.t 68),(.t 72)]),st 4 4 73] [4] [4,5]) (.ret))) (.skip))))))))))))) (.seq (rn [mv 74 0,jj 75 (.call 179 [(.t 74),(kk 2)]),jj 10 (.alloc [zN,zN,eN,sN]),st 4 10 75] [0,1,4,10]) (.seq (rn [mv 76 0,mv 77 1,bk 78 .sub 77 1,jj 79 (.call 137 [(.t 76),(.t 78),(kk 2)]),jj 11 (.alloc [zN,zN,eN,sN]),st 4 11 79] [0,1,4,10,11]) (.seq (rn [jj 80 (.build [zN,zN,eN,sN] [(0,1,(kk 7))]),jj 12 (.alloc [zN,zN,eN,sN]),st 4 12 80] [0,1,4,10,11,12]) (.seq (.seq (rn [mv 81 0,jj 82 (.call 136 [(.t 81),(kk 2)]),bk 83 .eql 82 1] [0,1,4,10,11,12,83]) (.cond (.t 83) (rn [mv 84 0,mv 85 1,bk 86 .sub 85 1,jj 87 (.call 137 [(.t 84),(.t 86),(kk 2)]),st 4 12 87] [4,10,11,12]) (.skip))) (.seq (rn [la 88 4 10,la 89 4 11,la 90 4 12,jj 91 (.bslice 3 [zN,zN,eN,sN,zN,zN,eN,sN,zN,zN,eN,sN] [(0,4,(.t 88)),(4,4,(.t 89)),(8,4,(.t 90))]),jj 92 (.build [zN,zN,eN,sN] [(0,1,(kk 3)),(3,1,(.t 91))]),st 4 4 92] [4]) (.ret))))))))),false,false,false⟩
def F176:PFun:=⟨3,[.cell 6 true 4],.seq (rn [bx 5 2,jj 6 (.alloc [zN,zN,eN,sN])] [0,1,5,6]) (.seq (rn [mv 7 0,mv 8 1,la 9 4 5,jj 10 (.bslice 1 [zN,zN,eN,sN] [(0,4,(.t 9))]),jj 11 (.build [zN,zN,eN,sN] [(0,1,(.t 7)),(2,1,(.t 8)),(3,1,(.t 10))]),st 4 6 11] [6]) (.ret)),false,false,false⟩
def F177:PFun:=⟨2,[.cell 4 true 4],.seq (rn [jj 4 (.alloc [zN,zN,eN,sN])] [0,1,4]) (.seq (rn [mv 9 0,jj 10 (.call 136 [(.t 9),(kk 12)]),mv 5 10] [0,1,4,5]) (.seq (.seq (rn [mv 11 1,bk 12 .leq 11 0] [0,1,4,5,12]) (.cond (.t 12) (rn [mv 13 5,bk 14 .rem 13 6,mv 5 14] [0,1,4,5]) (.skip))) (.seq (.seq (rn [mv 15 5] [0,1,4,15]) (.block 0 (.seq (.seq (rn [bk 17 .eql 15 0,mv 16 17] [0,1,4,15,16]) (.cond (.t 16) (.skip) (rn [bk 18 .eql 15 1,mv 16 18] [0,1,4,15,16]))) (.cond (.t 16) (.seq (rn [jj 19 (.bslice 8 [zN,zN,zN,zN,zN,zN,zN,zN] [(0,1,(kk 0)),(1,1,(kk 1)),(2,1,(kk 2)),(3,1,(kk 3)),(4,1,(kk 7)),(5,1,(kk 100)),(6,1,(kk 1024)),(7,1,(kk 2147483647))]),mv 20 0,jj 21 (.call 136 [(.t 20),(kk 8)]),jj 22 (.indexAddr 1 (.t 19) (.t 21)),l1 23 22,jj 24 (.build [zN,zN,eN,sN] [(0,1,(kk 8)),(1,1,(.t 23))]),st 4 4 24] [4]) (.ret)) (.seq (.seq (rn [bk 26 .eql 15 2,mv 25 26] [0,1,4,15,25]) (.cond (.t 25) (.skip) (rn [bk 27 .eql 15 3,mv 25 27] [0,1,4,15,25]))) (.cond (.t 25) (.seq (rn [jj 28 (.bslice 4 [eN,eN,eN,eN] [(0,1,(.c (.string ⟨#[105]⟩))),(1,1,(.c (.string ⟨#[110]⟩))),(2,1,(.c (.string ⟨#[115,117,109]⟩))),(3,1,(.c (.string ⟨#[118,51]⟩)))]),mv 29 0,jj 30 (.call 136 [(.t 29),(kk 4)]),jj 31 (.indexAddr 1 (.t 28) (.t 30)),l1 32 31,jj 33 (.build [zN,zN,eN,sN] [(0,1,(kk 10)),(2,1,(.t 32))]),st 4 4 33] [4]) (.ret)) (.seq (.seq (rn [bk 35 .eql 15 4,mv 34 35] [0,1,4,15,34]) (.cond (.t 34) (.skip) (rn [bk 36 .eql 15 5,mv 34 36] [0,1,4,15,34]))) (.cond (.t 34) (.seq (rn [jj 37 (.bslice 3 [eN,eN,eN] [(0,1,(.c (.string ⟨#[115,101,108,102]⟩))),(1,1,(.c (.string ⟨#[111,116,104,101,114]⟩))),(2,1,(.c (.string ⟨#[116,105,99,107]⟩)))]),mv 38 0,jj 39 (.call 136 [(.t 38),(kk 3)]),jj 40 (.indexAddr 1 (.t 37) (.t 39)),l1 41 40,jj 42 (.build [zN,zN,eN,sN] [(0,1,(kk 12)),(2,1,(.t 41))]),st 4 4 42] [4]) (.ret)) (.seq (.seq (rn [bk 44 .eql 15 6,mv 43 44] [0,1,4,15,43]) (.cond (.t 43) (.skip) (rn [bk 45 .eql 15 7,mv 43 45] [0,1,4,15,43]))) (.cond (.t 43) (.seq (rn [jj 46 (.bslice 8 [eN,eN,eN,eN,eN,eN,eN,eN] [(0,1,(.c (.string ⟨#[120]⟩))),(1,1,(.c (.string ⟨#[121]⟩))),(2,1,(.c (.string ⟨#[118,120]⟩))),(3,1,(.c (.string ⟨#[118,121]⟩))),(4,1,(.c (.string ⟨#[97]⟩))),(5,1,(.c (.string ⟨#[98]⟩))),(6,1,(.c (.string ⟨#[104,105,116]⟩))),(7,1,(.c (.string ⟨#[115,116,105,108,108]⟩)))]),mv 47 0,jj 48 (.call 136 [(.t 47),(kk 8)]),jj 49 (.indexAddr 1 (.t 46) (.t 48)),l1 50 49,mv 6 50] [0,1,4,6]) (.seq (rn [mv 51 6,mv 52 0,mv 53 1,bk 54 .sub 53 1,cl 55 177 [52,54],jj 56 (.call 176 [(kk 11),(.t 51),(.t 55)]),st 4 4 56] [4]) (.ret))) (.seq (rn [bk 58 .eql 15 8,mv 57 58] [0,1,4,57]) (.cond (.t 57) (.seq (rn [mv 59 0,mv 60 1,bk 61 .sub 60 1,cl 62 177 [59,61],jj 63 (.call 176 [(kk 13),(.c (.string ⟨#[45]⟩)),(.t 62)]),st 4 4 63] [4]) (.ret)) (.skip))))))))))))) (.seq (rn [jj 64 (.bslice 4 [eN,eN,eN,eN] [(0,1,(.c (.string ⟨#[43]⟩))),(1,1,(.c (.string ⟨#[45]⟩))),(2,1,(.c (.string ⟨#[42]⟩))),(3,1,(.c (.string ⟨#[47]⟩)))]),mv 65 0,jj 66 (.call 136 [(.t 65),(kk 4)]),jj 67 (.indexAddr 1 (.t 64) (.t 66)),l1 68 67,mv 7 68] [0,1,4,7]) (.seq (rn [mv 69 0,mv 70 1,bk 71 .sub 70 1,cl 72 177 [69,71],jj 8 (.alloc [zN,zN,eN,sN]),st 4 8 72] [0,1,4,7,8]) (.seq (.region (some []) [mv 73 7,⟨some 74,.load true 4 (.t 8),none,[5]⟩,mv 75 0,mv 76 1,bk 77 .sub 76 1,cl 78 177 [75,77],jj 79 (.call 178 [(kk 14),(.t 73),(.t 74),(.t 78)]),st 4 4 79] [4] [5,6]) (.ret))))))),false,false,false⟩
def F178:PFun:=⟨4,[.cell 8 true 4],.seq (rn [bx 6 2,bx 7 3,jj 8 (.alloc [zN,zN,eN,sN])] [0,1,6,7,8]) (.seq (rn [mv 9 0,mv 10 1,la 11 4 6,la 12 4 7,jj 13 (.bslice 2 [zN,zN,eN,sN,zN,zN,eN,sN] [(0,4,(.t 11)),(4,4,(.t 12))]),jj 14 (.build [zN,zN,eN,sN] [(0,1,(.t 9)),(2,1,(.t 10)),(3,1,(.t 13))]),st 4 8 14] [8]) (.ret)),false,false,false⟩
def F179:PFun:=⟨2,[.cell 4 true 4],.seq (rn [jj 4 (.alloc [zN,zN,eN,sN])] [0,1,4]) (.seq (rn [mv 10 0,jj 11 (.call 136 [(.t 10),(kk 8)]),mv 5 11] [0,1,4,5]) (.seq (.seq (rn [mv 12 1,bk 13 .leq 12 0] [0,1,4,5,13]) (.cond (.t 13) (rn [mv 14 5,bk 15 .rem 14 4,mv 5 15] [0,1,4,5]) (.skip))) (.seq (.seq (rn [mv 16 5] [0,1,4,16]) (.block 0 (.seq (rn [bk 18 .eql 16 0,mv 17 18] [0,1,4,16,17]) (.cond (.t 17) (.seq (rn [mv 19 0,jj 20 (.call 136 [(.t 19),(kk 2)]),jj 21 (.build [zN,zN,eN,sN] [(0,1,(kk 9)),(1,1,(.t 20))]),st 4 4 21] [4]) (.ret)) (.seq (.seq (rn [bk 23 .eql 16 1,mv 22 23] [0,1,4,16,22]) (.cond (.t 22) (.skip) (.seq (rn [bk 24 .eql 16 2,mv 22 24] [0,1,4,16,22]) (.cond (.t 22) (.skip) (.seq (rn [bk 25 .eql 16 3,mv 22 25] [0,1,4,16,22]) (.cond (.t 22) (.skip) (rn [bk 26 .eql 16 4,mv 22 26] [0,1,4,16,22]))))))) (.cond (.t 22) (.seq (rn [jj 27 (.bslice 6 [eN,eN,eN,eN,eN,eN] [(0,1,(.c (.string ⟨#[60]⟩))),(1,1,(.c (.string ⟨#[60,61]⟩))),(2,1,(.c (.string ⟨#[62]⟩))),(3,1,(.c (.string ⟨#[62,61]⟩))),(4,1,(.c (.string ⟨#[61,61]⟩))),(5,1,(.c (.string ⟨#[33,61]⟩)))]),mv 28 0,jj 29 (.call 136 [(.t 28),(kk 6)]),jj 30 (.indexAddr 1 (.t 27) (.t 29)),l1 31 30,mv 6 31] [0,1,4,6]) (.seq (rn [mv 32 0,mv 33 1,bk 34 .sub 33 1,cl 35 177 [32,34],jj 7 (.alloc [zN,zN,eN,sN]),st 4 7 35] [0,1,4,6,7]) (.seq (.region (some []) [mv 36 6,⟨some 37,.load true 4 (.t 7),none,[5]⟩,mv 38 0,mv 39 1,bk 40 .sub 39 1,cl 41 177 [38,40],jj 42 (.call 178 [(kk 14),(.t 36),(.t 37),(.t 41)]),st 4 4 42] [4] [5,6]) (.ret)))) (.seq (rn [bk 44 .eql 16 5,mv 43 44] [0,1,4,43]) (.cond (.t 43) (.seq (rn [mv 45 0,mv 46 1,bk 47 .sub 46 1,cl 48 179 [45,47],jj 49 (.call 176 [(kk 13),(.c (.string ⟨#[33]⟩)),(.t 48)]),st 4 4 49] [4]) (.ret)) (.skip))))))))) (.seq (rn [jj 50 (.bslice 2 [eN,eN] [(0,1,(.c (.string ⟨#[38,38]⟩))),(1,1,(.c (.string ⟨#[124,124]⟩)))]),mv 51 0,jj 52 (.call 136 [(.t 51),(kk 2)]),jj 53 (.indexAddr 1 (.t 50) (.t 52)),l1 54 53,mv 8 54] [0,1,4,8]) (.seq (rn [mv 55 0,mv 56 1,bk 57 .sub 56 1,cl 58 179 [55,57],jj 9 (.alloc [zN,zN,eN,sN]),st 4 9 58] [0,1,4,8,9]) (.seq (.region (some []) [mv 59 8,⟨some 60,.load true 4 (.t 9),none,[5]⟩,mv 61 0,mv 62 1,bk 63 .sub 62 1,cl 64 179 [61,63],jj 65 (.call 178 [(kk 14),(.t 59),(.t 60),(.t 64)]),st 4 4 65] [4] [5,6]) (.ret))))))),false,false,false⟩
end Go.Pm.F
end SF3g
section SF5
namespace Go.Pm.F
variable (C:Task->Option Res) (q:Nat) (fr:Fr) (σ : S)
def effRows15:List (List Int):=[[0,0],[0,1],[0,1],[1,0],[1,1],[2,0],[0,1],[0,1],[0,1],[2,1],[2,1],[2,1],[2,1],[1,1],[2,1],[2,1],[2,1],[1,1],[0,0],[1,0],[2,0],[0,0]]
def qiv:List D:=effRows15.flatten.map fun n => .lit (.int .i64 n)
end Go.Pm.F
end SF5
section STb15
namespace Go.Pm.F
def qbv:Nat->Option PFun
 | 17=>some F17
 | 23=>some F23
 | 123=>some F123
 | 136=>some F136
 | 137=>some F137
 | 149=>some F149
 | 152=>some F152
 | 162=>some F162
 | 170=>some F170
 | 171=>some F171
 | 176=>some F176
 | 177=>some F177
 | 178=>some F178
 | 179=>some F179
 | 192=>some F192
 | 193=>some F193
 | 194=>some F194
 | 195=>some F195
 | 196=>some F196
 | 198=>some F198
 | _=>none
end Go.Pm.F
end STb15
section SGc
namespace Go.Pm
def E.cost:E->Nat
 | .int n=>(decB n.toNat).length+1
 | .bool n=>if n=0 then 6 else 5
 | .var s=>s.size+1
 | .name s=>s.size+1
 | .field _ s e=>s.size+5+e.cost
 | .un _ _ e=>6+e.cost
 | .bin _ o a b=>o.str.size+5+(a.cost+b.cost)
def Ss.cost:Ss->Nat
 | .nil=>0
 | .assign _ s e r=>s.size+5+e.cost+r.cost
 | .store _ s a b r=>s.size+9+(a.cost+b.cost)+r.cost
 | .effect _ a b r=>11+(a.cost+b.cost)+r.cost
 | .stop r=>7+r.cost
 | .cond w _ c b r=>(if w then 6 else 3)+c.cost+b.cost+r.cost
 | .block _ b r=>4+b.cost+((if qcR r then 5 else 0)+r.cost)
def Co (c0:Int) (cost:Nat) (xs:List Int) (i i':Int):Prop:=i<=i'/\(i'<=i\/i'<=xs.length)/\(cost:Int)<=c0+24*(i'-i)
end Go.Pm
end SGc
