/- The rule language in plain Lean: an error ahead of the end stays where it is whatever comes behind. No program in sight. The rule language in plain Lean: an error ahead of the end stays where it is: statements, programs. No program in sight. The rule language in plain Lean: a newline and more behind a source. No program in sight. Chapter 13's law ParserTail. The abstract machine's programs: tables of functions. Chapter 13's laws, over the whole table. Chapter 13's law ParserTail, over the whole table. -/
import Derived.Test.YtjdbkncfebebnaaDoorPmFx
import Derived.Test.YtjdbkncfebebnaaDoorPmKx
import Derived.Test.YtjdbkncfebebnaaDoorPmG5
import Derived.Test.YtjdbkncfebebnaaDoorPmYj
import Derived.Test.YtjdbkncfebebnaaDoorPmF3g
import Derived.Test.YtjdbkncfebebnaaDoorPmSd
import Derived.KernelRfl
set_option linter.unusedSimpArgs false
set_option linter.unusedVariables false
section SUn
namespace Go.Pm
section
variable (e:Tk) (X:List Tk) (f fi fb:Bool)
def AtE {α : Type} (y:Rz α):Prop:=(∃ c,y = .er e.at_ c) \/ ∃ a,y = .ok a [e]
def qjD {α : Type} (y:Rz α) (y':Option (Rz α)):Prop:=AtE e y\/(∃ i c,y = .er i c/\y'=some (.er i c)) \/ ∃ a A,A≠[]/\y = .ok a (A++[e])/\y'=some (.ok a (A++X))
variable {e X}
theorem qas {α : Type} {y:Rz α} {y':Option (Rz α)} (h:AtE e y):qjD e X y y' := .inl h
variable (he:e.s=⟨#[]⟩) (hb:e.bad=0)
include he hb
theorem qhS:nx [e]=some ⟨#[]⟩:=by simp[nx,he,hb]
omit he in
theorem qgq {α : Type} (c:Nat):(failP c [e]:Rz α) = .er e.at_ c:=by simp[failP,hb]
theorem qc5 {x:ByteArray} (hx:x≠⟨#[]⟩) : ∃ c,qax 12 x [e] = .er e.at_ c:=by
 refine⟨12,?_⟩
 simp only[qax]
 rw[if_neg (fun h=>hx (h.2.symm.trans he)),qgq hb]
theorem qgr {x:ByteArray} (hx:x≠⟨#[]⟩) (lv:Nat) : ∃ c,qcr 12 2 x lv [e] = .er e.at_ c:=by
 unfold qcr
 split
 ·exact⟨_,qgq hb _⟩
 ·exact qc5 he hb hx
omit he hb in
theorem qiF (p:UInt8->Bool):qaH p ⟨#[]⟩=false:=rfl
omit he hb in
theorem qsb (p:Nat):qlu p ⟨#[]⟩=none:=by
 unfold qlu
 rw[List.find?_eq_none]
 intro o _
 have:o.str≠⟨#[]⟩:=by cases o<;>decide
 simpa using this
theorem qfu : ∀ n:Nat,(∀ p lv y,qaq 12 2 f n p lv [e]=some y -> ∃ c,y = .er e.at_ c)/\(∀ p lv a y,qcZ 12 2 f n p lv a [e]=some y->y = .ok a [e])/\(∀ lv y,qbe 12 2 f n lv [e]=some y -> ∃ c,y = .er e.at_ c)
 | 0=>⟨fun _ _ _ h=>by simp[qaq] at h,fun _ _ _ _ h=>by simp[qcZ] at h,fun _ _ h=>by simp[qbe] at h⟩
 | n+1=>by
  obtain⟨h1,h2,h3⟩:=qfu n
  have hn:=qhS he hb
  refine⟨fun p lv y h=>?_,fun p lv a y h=>?_,fun lv y h=>?_⟩
  ·rw[qaq,hn] at h
   rw[if_neg (by
    rintro (⟨_,h⟩ | ⟨_,h⟩)<;>exact absurd (Option.some.inj h) (by decide))] at h
   split at h
   ·cases hx:qaq 12 2 f n (p+1) lv [e] with
    | none=>rw[hx] at h; cases h
    | some z=>
     obtain⟨c,rfl⟩:=h1 _ _ _ hx
     rw[hx] at h
     cases h
     exact⟨c,rfl⟩
   ·simp only at h
    rw[if_neg (by rw[qiF]; simp),if_neg (by decide),if_neg (by decide),if_neg (by decide),if_neg (by decide),if_neg (fun h=>by rw[qiF] at h; cases h.1)] at h
    obtain⟨c,hc⟩:=qgr he hb (x:=bs [40]) (by decide) (lv+1)
    rw[hc] at h
    cases h
    exact⟨c,rfl⟩
  ·rw[qcZ,hn] at h
   simp only at h
   rw[qsb] at h
   cases h
   rfl
  ·rw[qbe] at h
   obtain⟨c,hc⟩:=qgr he hb (x:=bs [91]) (by decide) (lv+1)
   rw[hc] at h
   cases h
   exact⟨c,rfl⟩
theorem qfv : ∀ n:Nat,(∀ lv y,qcm 12 2 f fi fb n lv [e]=some y -> ∃ c,y = .er e.at_ c)/\(∀ lv y,qaQ 12 2 f fi fb n lv [e]=some y -> ∃ c,y = .er e.at_ c)/\(∀ lv a y,qb5 12 2 f fi fb n lv a [e]=some y -> ∃ c,y = .er e.at_ c)
 | 0=>⟨fun _ _ h=>by simp[qcm] at h,fun _ _ h=>by simp[qaQ] at h,fun _ _ _ h=>by simp[qb5] at h⟩
 | n+1=>by
  obtain⟨h1,h2,h3⟩:=qfv n
  have hn:=qhS he hb
  refine⟨fun lv y h=>?_,fun lv y h=>?_,fun lv a y h=>?_⟩
  ·rw[qcm,hn] at h
   simp only at h
   rw[if_neg (by decide),if_neg (by decide),if_neg (by decide),if_neg (by decide),if_neg (by decide),if_neg (fun h=>by rw[qiF] at h; cases h.1)] at h
   cases h
   exact⟨_,qgq hb _⟩
  ·rw[qaQ] at h
   obtain⟨c,hc⟩:=qgr he hb (x:=bs [123]) (by decide) lv
   rw[hc] at h
   cases h
   exact⟨c,rfl⟩
  ·rw[qb5,hn] at h
   simp only at h
   rw[if_neg (by decide)] at h
   cases hx:qcm 12 2 f fi fb n lv [e] with
   | none=>rw[hx] at h; cases h
   | some z=>
    obtain⟨c,rfl⟩:=h1 _ _ hx
    rw[hx] at h
    cases h
    exact⟨c,rfl⟩
omit he hb in
theorem qce {α : Type} (c:Nat) (t:Tk) (A:List Tk):qjD e X (failP c (t::A++[e]):Rz α) (some (failP c (t::A++X))) := .inr (.inl ⟨_,_,rfl,rfl⟩)
theorem qcy {x:ByteArray} (hx:x≠⟨#[]⟩) (A:List Tk):qjD e X (qax 12 x (A++[e])) (some (qax 12 x (A++X))):=by
 cases A with
 | nil=>exact qas (.inl (qc5 he hb hx))
 | cons t A=>
  simp only[List.cons_append,qax]
  split
  ·cases A with
   | nil=>exact qas (.inr ⟨(),rfl⟩)
   | cons u A=>exact .inr (.inr ⟨(),u::A,by simp,rfl,rfl⟩)
  ·exact qce 12 t A
theorem sim_open {x:ByteArray} (hx:x≠⟨#[]⟩) (lv:Nat) (A:List Tk):qjD e X (qcr 12 2 x lv (A++[e])) (some (qcr 12 2 x lv (A++X))):=by
 cases A with
 | nil=>exact qas (.inl (qgr he hb hx lv))
 | cons t A=>
  have hn : ∀ B:List Tk,nx (t::A++B)=nx [t]:=fun B=>rfl
  unfold qcr
  rw[hn,hn]
  split
  ·exact qce 2 t A
  ·exact qcy he hb hx (t::A)
theorem qk1 : ∀ n:Nat,
  (∀ p lv A y,qaq 12 2 f n p lv (A++[e])=some y->qjD e X y (qaq 12 2 f n p lv (A++X))) /\
  (∀ p lv a A y,A≠[]->qcZ 12 2 f n p lv a (A++[e])=some y->qjD e X y (qcZ 12 2 f n p lv a (A++X))) /\
  (∀ lv A y,qbe 12 2 f n lv (A++[e])=some y->qjD e X y (qbe 12 2 f n lv (A++X)))
 | 0=>⟨fun _ _ _ _ h=>by simp[qaq] at h,fun _ _ _ _ _ _ h=>by simp[qcZ] at h,fun _ _ _ h=>by simp[qbe] at h⟩
 | n+1=>by
  obtain⟨h1,h2,h3⟩:=qk1 n
  obtain⟨e1,e2,e3⟩:=qfu f he hb n
  have E1 : ∀ p lv y,qaq 12 2 f (n+1) p lv [e]=some y->AtE e y:=fun p lv y h => .inl ((qfu f he hb (n+1)).1 p lv y h)
  have E3 : ∀ lv y,qbe 12 2 f (n+1) lv [e]=some y->AtE e y:=fun lv y h => .inl ((qfu f he hb (n+1)).2.2 lv y h)
  have closeE : ∀ (x:ByteArray),x≠⟨#[]⟩ -> ∀ (a:E) (z:Rz E),(match qax 12 x [e] with | .ok _ r''=>some (.ok a r'') | .er i c=>some (.er i c))=some z->AtE e z:=fun x hx a z hz=>by
   obtain⟨c,hc⟩:=qc5 he hb hx
   rw[hc] at hz; cases hz; exact .inl ⟨c,rfl⟩
  have closeS : ∀ (x:ByteArray),x≠⟨#[]⟩ -> ∀ (a:E) (A:List Tk) (z:Rz E),(match qax 12 x (A++[e]) with | .ok _ r''=>some (.ok a r'') | .er i c=>some (.er i c))=some z->qjD e X z (match qax 12 x (A++X) with | .ok _ r''=>some (.ok a r'') | .er i c=>some (.er i c)):=fun x hx a A z hz=>by
   rcases qcy he hb hx A (X:=X) with (⟨c,h⟩ | ⟨u,h⟩) | ⟨i,c,h,h'⟩ | ⟨u,B,hB,h,h'⟩
   ·rw[h] at hz; cases hz; exact qas (.inl ⟨c,rfl⟩)
   ·rw[h] at hz; cases hz; exact qas (.inr ⟨a,rfl⟩)
   ·rw[h] at hz; cases hz
    rw[Option.some.inj h']
    exact .inr (.inl ⟨i,c,rfl,rfl⟩)
   ·rw[h] at hz; cases hz
    rw[Option.some.inj h']
    exact .inr (.inr ⟨a,B,hB,rfl,rfl⟩)
  have fin : ∀ (a:E) (A:List Tk),qjD e X (.ok a (A++[e]):Rz E) (some (.ok a (A++X))):=fun a A=>by
   cases A with
   | nil=>exact qas (.inr ⟨a,rfl⟩)
   | cons u A=>exact .inr (.inr ⟨a,u::A,by simp,rfl,rfl⟩)
  have brack : ∀ (x w:ByteArray),x≠⟨#[]⟩->w≠⟨#[]⟩ -> ∀ (lv:Nat) (A:List Tk) (y:Rz E),
    (match qcr 12 2 x (lv+1) (A++[e]) with | .er i c=>some (.er i c) | .ok _ r=>match qaq 12 2 f n 1 (lv+1) r with | some (.ok a r')=>(match qax 12 w r' with | .ok _ r''=>some (.ok a r'') | .er i c=>some (.er i c)) | z=>z)=some y ->
    qjD e X y (match qcr 12 2 x (lv+1) (A++X) with | .er i c=>some (.er i c) | .ok _ r=>match qaq 12 2 f n 1 (lv+1) r with | some (.ok a r')=>(match qax 12 w r' with | .ok _ r''=>some (.ok a r'') | .er i c=>some (.er i c)) | z=>z):=by
   intro x w hx hw lv A y h
   rcases sim_open he hb hx (lv+1) A (X:=X) with (⟨c,k⟩ | ⟨u,k⟩) | ⟨i,c,k,k'⟩ | ⟨u,B,hB,k,k'⟩
   ·rw[k] at h; cases h; exact qas (.inl ⟨c,rfl⟩)
   ·rw[k] at h
    simp only at h
    cases hq:qaq 12 2 f n 1 (lv+1) [e] with
    | none=>rw[hq] at h; cases h
    | some z=>
     obtain⟨c,rfl⟩:=e1 _ _ _ hq
     rw[hq] at h
     cases h
     exact qas (.inl ⟨c,rfl⟩)
   ·rw[k] at h; cases h
    rw[Option.some.inj k']
    exact .inr (.inl ⟨i,c,rfl,rfl⟩)
   ·rw[k] at h
    rw[Option.some.inj k']
    simp only at h ⊢
    cases hq:qaq 12 2 f n 1 (lv+1) (B++[e]) with
    | none=>rw[hq] at h; cases h
    | some z=>
     rw[hq] at h
     rcases h1 1 (lv+1) B z hq with (⟨c,rfl⟩ | ⟨a,rfl⟩) | ⟨i,c,rfl,k2⟩ | ⟨a,C,hC,rfl,k2⟩
     ·cases h; exact qas (.inl ⟨c,rfl⟩)
     ·exact qas (closeE w hw a y h)
     ·cases h; rw[k2]; exact .inr (.inl ⟨i,c,rfl,rfl⟩)
     ·rw[k2]; exact closeS w hw a C y h
  refine⟨fun p lv A y h=>?_,fun p lv a A y hA h=>?_,fun lv A y h=>?_⟩
  ·cases A with
   | nil=>exact qas (E1 p lv y h)
   | cons t A=>
    have hn : ∀ B:List Tk,nx (t::A++B)=nx [t]:=fun B=>rfl
    have ht : ∀ B:List Tk,(t::A++B).tail=A++B:=fun B=>rfl
    rw[qaq,hn,ht] at h
    rw[qaq,hn,ht]
    split at h
    ·rename_i hc
     rw[if_pos hc]
     rcases sim_open he hb (x:=ustr (p==7)) (by cases (p==7)<;>decide) (lv+1) (t::A) (X:=X) with (⟨c,k⟩ | ⟨u,k⟩) | ⟨i,c,k,k'⟩ | ⟨u,B,hB,k,k'⟩
     ·rw[k] at h; cases h; exact qas (.inl ⟨c,rfl⟩)
     ·rw[k] at h
      simp only at h
      cases hq:qaq 12 2 f n p (lv+1) [e] with
      | none=>rw[hq] at h; cases h
      | some z=>
       obtain⟨c,rfl⟩:=e1 _ _ _ hq
       rw[hq] at h; cases h; exact qas (.inl ⟨c,rfl⟩)
     ·rw[k] at h; cases h
      rw[Option.some.inj k']
      exact .inr (.inl ⟨i,c,rfl,rfl⟩)
     ·rw[k] at h
      rw[Option.some.inj k']
      simp only at h ⊢
      cases hq:qaq 12 2 f n p (lv+1) (B++[e]) with
      | none=>rw[hq] at h; cases h
      | some z=>
       rw[hq] at h
       rcases h1 p (lv+1) B z hq with (⟨c,rfl⟩ | ⟨a,rfl⟩) | ⟨i,c,rfl,k2⟩ | ⟨a,C,hC,rfl,k2⟩
       ·cases h; exact qas (.inl ⟨c,rfl⟩)
       ·cases h; exact qas (.inr ⟨_,rfl⟩)
       ·cases h; rw[k2]; exact .inr (.inl ⟨i,c,rfl,rfl⟩)
       ·cases h; rw[k2]; exact .inr (.inr ⟨_,C,hC,rfl,rfl⟩)
    rename_i hc
    rw[if_neg hc]
    split at h
    ·rename_i hp
     rw[if_pos hp]
     cases hq:qaq 12 2 f n (p+1) lv (t::A++[e]) with
     | none=>rw[hq] at h; cases h
     | some z=>
      rw[hq] at h
      rcases h1 (p+1) lv (t::A) z hq with (⟨c,rfl⟩ | ⟨a,rfl⟩) | ⟨i,c,rfl,k2⟩ | ⟨a,C,hC,rfl,k2⟩
      ·cases h; exact qas (.inl ⟨c,rfl⟩)
      ·have:=e2 p lv a y h
       subst this
       exact qas (.inr ⟨a,rfl⟩)
      ·cases h; rw[k2]; exact .inr (.inl ⟨i,c,rfl,rfl⟩)
      ·rw[k2]; exact h2 p lv a C y hC h
    rename_i hp
    rw[if_neg hp]
    cases hs:nx [t] with
    | none=>rw[hs] at h; cases h; exact qce 12 t A
    | some s=>
     rw[hs] at h
     simp only at h ⊢
     split at h
     ·rename_i q; rw[if_pos q]; cases h; exact fin _ A
     rename_i q; rw[if_neg q]
     split at h
     ·rename_i q; rw[if_pos q]; cases h; exact fin _ A
     rename_i q; rw[if_neg q]
     split at h
     ·rename_i q; rw[if_pos q]; cases h; exact fin _ A
     rename_i q; rw[if_neg q]
     split at h
     ·rename_i q; rw[if_pos q]; cases h; exact fin _ A
     rename_i q; rw[if_neg q]
     split at h
     ·rename_i q; rw[if_pos q]
      cases hq:qbe 12 2 f n lv (A++[e]) with
      | none=>rw[hq] at h; cases h
      | some z=>
       rw[hq] at h
       rcases h3 lv A z hq with (⟨c,rfl⟩ | ⟨a,rfl⟩) | ⟨i,c,rfl,k2⟩ | ⟨a,C,hC,rfl,k2⟩
       ·cases h; exact qas (.inl ⟨c,rfl⟩)
       ·cases h; exact qas (.inr ⟨_,rfl⟩)
       ·cases h; rw[k2]; exact .inr (.inl ⟨i,c,rfl,rfl⟩)
       ·cases h; rw[k2]; exact .inr (.inr ⟨_,C,hC,rfl,rfl⟩)
     rename_i q; rw[if_neg q]
     split at h
     ·rename_i q; rw[if_pos q]; cases h; exact fin _ A
     rename_i q; rw[if_neg q]
     exact brack (bs [40]) (bs [41]) (by decide) (by decide) lv (t::A) y h
  ·cases A with
   | nil=>exact absurd rfl hA
   | cons t A=>
    have hn : ∀ B:List Tk,nx (t::A++B)=nx [t]:=fun B=>rfl
    have ht : ∀ B:List Tk,(t::A++B).tail=A++B:=fun B=>rfl
    rw[qcZ,hn,ht] at h
    rw[qcZ,hn,ht]
    cases hs:nx [t] with
    | none=>
     rw[hs] at h
     simp only at h ⊢
     split at h
     ·rename_i q; rw[if_pos q]; cases h; exact fin _ (t::A)
     ·rename_i q; rw[if_neg q]; cases h; exact qce 12 t A
    | some s=>
     rw[hs] at h
     simp only at h ⊢
     cases ho:qlu p s with
     | none=>rw[ho] at h; cases h; exact fin _ (t::A)
     | some o=>
      rw[ho] at h
      simp only at h ⊢
      cases hq:qaq 12 2 f n (p+1) lv (A++[e]) with
      | none=>rw[hq] at h; cases h
      | some z=>
       rw[hq] at h
       rcases h1 (p+1) lv A z hq with (⟨c,rfl⟩ | ⟨b,rfl⟩) | ⟨i,c,rfl,k2⟩ | ⟨b,C,hC,rfl,k2⟩
       ·cases h; exact qas (.inl ⟨c,rfl⟩)
       ·simp only at h
        split at h
        ·cases h; exact qas (.inr ⟨_,rfl⟩)
        ·have:=e2 p lv _ y h
         subst this
         exact qas (.inr ⟨_,rfl⟩)
       ·cases h; rw[k2]; exact .inr (.inl ⟨i,c,rfl,rfl⟩)
       ·rw[k2]
        simp only at h ⊢
        split at h
        ·rename_i q; rw[if_pos q]; cases h; exact .inr (.inr ⟨_,C,hC,rfl,rfl⟩)
        ·rename_i q; rw[if_neg q]; exact h2 p lv _ C y hC h
  ·cases A with
   | nil=>exact qas (E3 lv y h)
   | cons t A=>
    rw[qbe] at h
    rw[qbe]
    exact brack (bs [91]) (bs [93]) (by decide) (by decide) lv (t::A) y h
end
end Go.Pm
end SUn
section SUo
namespace Go.Pm
section
variable {e:Tk} {X:List Tk} (f fi fb:Bool) (he:e.s=⟨#[]⟩) (hb:e.bad=0)
include he hb
theorem qk2 : ∀ n:Nat,
  (∀ lv A y,qcm 12 2 f fi fb n lv (A++[e])=some y->qjD e X y (qcm 12 2 f fi fb n lv (A++X))) /\
  (∀ lv A y,qaQ 12 2 f fi fb n lv (A++[e])=some y->qjD e X y (qaQ 12 2 f fi fb n lv (A++X))) /\
  (∀ lv a A y,qb5 12 2 f fi fb n lv a (A++[e])=some y->qjD e X y (qb5 12 2 f fi fb n lv a (A++X)))
 | 0=>⟨fun _ _ _ h=>by simp[qcm] at h,fun _ _ _ h=>by simp[qaQ] at h,fun _ _ _ _ h=>by simp[qb5] at h⟩
 | n+1=>by
  obtain⟨h1,h2,h3⟩:=qk2 n
  obtain⟨x1,_,x3⟩:=qk1 f he hb (X:=X) n
  obtain⟨e1,_,e3⟩:=qfu f he hb n
  obtain⟨s1,s2,s3⟩:=qfv f fi fb he hb n
  have fin : ∀ (a:Ss) (A:List Tk),qjD e X (.ok a (A++[e]):Rz Ss) (some (.ok a (A++X))):=fun a A=>by
   cases A with
   | nil=>exact qas (.inr ⟨a,rfl⟩)
   | cons u A=>exact .inr (.inr ⟨a,u::A,by simp,rfl,rfl⟩)
  have closeE : ∀ (a:Ss) (z:Rz Ss),some (qa7 12 a [e])=some z->AtE e z:=fun a z hz=>by
   obtain⟨c,hc⟩:=qc5 he hb (x:=bs [59]) (by decide)
   unfold qa7 at hz
   rw[hc] at hz; cases hz; exact .inl ⟨c,rfl⟩
  have closeS : ∀ (a:Ss) (A:List Tk) (z:Rz Ss),some (qa7 12 a (A++[e]))=some z->qjD e X z (some (qa7 12 a (A++X))):=fun a A z hz=>by
   unfold qa7 at hz ⊢
   rcases qcy he hb (x:=bs [59]) (by decide) A (X:=X) with (⟨c,h⟩ | ⟨u,h⟩) | ⟨i,c,h,h'⟩ | ⟨u,B,hB,h,h'⟩
   ·rw[h] at hz; cases hz; exact qas (.inl ⟨c,rfl⟩)
   ·rw[h] at hz; cases hz; exact qas (.inr ⟨a,rfl⟩)
   ·rw[h] at hz; cases hz; rw[Option.some.inj h']; exact .inr (.inl ⟨i,c,rfl,rfl⟩)
   ·rw[h] at hz; cases hz; rw[Option.some.inj h']; exact .inr (.inr ⟨a,B,hB,rfl,rfl⟩)
  refine⟨fun lv A y h=>?_,fun lv A y h=>?_,fun lv a A y h=>?_⟩
  ·cases A with
   | nil=>exact qas (.inl ((qfv f fi fb he hb (n+1)).1 lv y h))
   | cons t A=>
    have hn : ∀ B:List Tk,nx (t::A++B)=nx [t]:=fun B=>rfl
    have ht : ∀ B:List Tk,(t::A++B).tail=A++B:=fun B=>rfl
    rw[qcm,hn,ht] at h
    rw[qcm,hn,ht]
    cases hs:nx [t] with
    | none=>rw[hs] at h; cases h; exact qce 12 t A
    | some s=>
     rw[hs] at h
     simp only at h ⊢
     split at h
     ·rename_i q0; rw[if_pos q0]
      cases q1:qaq 12 2 f n 1 lv (A++[e]) with
      | none=>rw[q1] at h; cases h
      | some z2=>
       rw[q1] at h
       rcases x1 1 lv A z2 q1 with (⟨c,rfl⟩ | ⟨a3,rfl⟩) | ⟨i,c,rfl,k5⟩ | ⟨a3,B4,hC,rfl,k5⟩
       ·cases h; exact qas (.inl ⟨c,rfl⟩)
       ·simp only at h
        cases q6:qaQ 12 2 f fi fb n (lv+1) [e] with
        | none=>rw[q6] at h; cases h
        | some z=>
         obtain⟨c,rfl⟩:=s2 _ _ q6
         rw[q6] at h; cases h; exact qas (.inl ⟨c,rfl⟩)
       ·cases h; rw[k5]; exact .inr (.inl ⟨i,c,rfl,rfl⟩)
       ·rw[k5]; simp only at h ⊢
        cases q7:qaQ 12 2 f fi fb n (lv+1) (B4++[e]) with
        | none=>rw[q7] at h; cases h
        | some z8=>
         rw[q7] at h
         rcases h2 (lv+1) B4 z8 q7 with (⟨c,rfl⟩ | ⟨a9,rfl⟩) | ⟨i,c,rfl,k11⟩ | ⟨a9,B10,hC,rfl,k11⟩
         ·cases h; exact qas (.inl ⟨c,rfl⟩)
         ·simp only at h
          rw[qhS he hb] at h; simp only at h; rw[if_neg (by decide)] at h; cases h; exact qas (.inr ⟨_,rfl⟩)
         ·cases h; rw[k11]; exact .inr (.inl ⟨i,c,rfl,rfl⟩)
         ·rw[k11]; simp only at h ⊢
          cases B10 with
          | nil=>exact absurd rfl hC
          | cons t2 B2=>
           have hn2 : ∀ C:List Tk,nx (t2::B2++C)=nx [t2]:=fun C=>rfl
           have ht2 : ∀ C:List Tk,(t2::B2++C).tail=B2++C:=fun C=>rfl
           rw[hn2,ht2] at h
           rw[hn2,ht2]
           cases hs2:nx [t2] with
           | none=>rw[hs2] at h; cases h; exact qce 12 t2 B2
           | some w2=>
            rw[hs2] at h
            simp only at h ⊢
            split at h
            ·rename_i q9; rw[if_pos q9]
             cases q12:qaQ 12 2 f fi fb n (lv+1) (B2++[e]) with
             | none=>rw[q12] at h; cases h
             | some z13=>
              rw[q12] at h
              rcases h2 (lv+1) B2 z13 q12 with (⟨c,rfl⟩ | ⟨a14,rfl⟩) | ⟨i,c,rfl,k16⟩ | ⟨a14,B15,hC,rfl,k16⟩
              ·cases h; exact qas (.inl ⟨c,rfl⟩)
              ·simp only at h
               cases h; exact qas (.inr ⟨_,rfl⟩)
              ·cases h; rw[k16]; exact .inr (.inl ⟨i,c,rfl,rfl⟩)
              ·rw[k16]; simp only at h ⊢
               cases h; exact fin _ B15
            ·rename_i q9; rw[if_neg q9]; cases h; exact fin _ (t2::B2)
     rename_i q0; rw[if_neg q0]
     split at h
     ·rename_i q0; rw[if_pos q0]
      cases q17:qaq 12 2 f n 1 lv (A++[e]) with
      | none=>rw[q17] at h; cases h
      | some z18=>
       rw[q17] at h
       rcases x1 1 lv A z18 q17 with (⟨c,rfl⟩ | ⟨a19,rfl⟩) | ⟨i,c,rfl,k21⟩ | ⟨a19,B20,hC,rfl,k21⟩
       ·cases h; exact qas (.inl ⟨c,rfl⟩)
       ·simp only at h
        cases q22:qaQ 12 2 f fi fb n (lv+1) [e] with
        | none=>rw[q22] at h; cases h
        | some z=>
         obtain⟨c,rfl⟩:=s2 _ _ q22
         rw[q22] at h; cases h; exact qas (.inl ⟨c,rfl⟩)
       ·cases h; rw[k21]; exact .inr (.inl ⟨i,c,rfl,rfl⟩)
       ·rw[k21]; simp only at h ⊢
        cases q23:qaQ 12 2 f fi fb n (lv+1) (B20++[e]) with
        | none=>rw[q23] at h; cases h
        | some z24=>
         rw[q23] at h
         rcases h2 (lv+1) B20 z24 q23 with (⟨c,rfl⟩ | ⟨a25,rfl⟩) | ⟨i,c,rfl,k27⟩ | ⟨a25,B26,hC,rfl,k27⟩
         ·cases h; exact qas (.inl ⟨c,rfl⟩)
         ·simp only at h
          cases h; exact qas (.inr ⟨_,rfl⟩)
         ·cases h; rw[k27]; exact .inr (.inl ⟨i,c,rfl,rfl⟩)
         ·rw[k27]; simp only at h ⊢
          cases h; exact fin _ B26
     rename_i q0; rw[if_neg q0]
     split at h
     ·rename_i q0; rw[if_pos q0]
      cases q28:qaq 12 2 f n 1 lv (A++[e]) with
      | none=>rw[q28] at h; cases h
      | some z29=>
       rw[q28] at h
       rcases x1 1 lv A z29 q28 with (⟨c,rfl⟩ | ⟨a30,rfl⟩) | ⟨i,c,rfl,k32⟩ | ⟨a30,B31,hC,rfl,k32⟩
       ·cases h; exact qas (.inl ⟨c,rfl⟩)
       ·simp only at h
        obtain⟨c,hc⟩:=qc5 he hb (x:=bs [44]) (by decide)
        rw[hc] at h; cases h; exact qas (.inl ⟨c,rfl⟩)
       ·cases h; rw[k32]; exact .inr (.inl ⟨i,c,rfl,rfl⟩)
       ·rw[k32]; simp only at h ⊢
        rcases qcy he hb (x:=bs [44]) (by decide) B31 (X:=X) with (⟨c,k⟩ | ⟨u,k⟩) | ⟨i,c,k,k'⟩ | ⟨u,B36,hB,k,k'⟩
        ·rw[k] at h; cases h; exact qas (.inl ⟨c,rfl⟩)
        ·rw[k] at h; simp only at h
         cases q38:qaq 12 2 f n 1 lv [e] with
         | none=>rw[q38] at h; cases h
         | some z=>
          obtain⟨c,rfl⟩:=e1 _ _ _ q38
          rw[q38] at h; cases h; exact qas (.inl ⟨c,rfl⟩)
        ·rw[k] at h; cases h; rw[Option.some.inj k']; exact .inr (.inl ⟨i,c,rfl,rfl⟩)
        ·rw[k] at h; rw[Option.some.inj k']; simp only at h ⊢
         cases q39:qaq 12 2 f n 1 lv (B36++[e]) with
         | none=>rw[q39] at h; cases h
         | some z40=>
          rw[q39] at h
          rcases x1 1 lv B36 z40 q39 with (⟨c,rfl⟩ | ⟨a41,rfl⟩) | ⟨i,c,rfl,k43⟩ | ⟨a41,B42,hC,rfl,k43⟩
          ·cases h; exact qas (.inl ⟨c,rfl⟩)
          ·simp only at h
           exact qas (closeE _ _ h)
          ·cases h; rw[k43]; exact .inr (.inl ⟨i,c,rfl,rfl⟩)
          ·rw[k43]; simp only at h ⊢
           exact closeS _ B42 _ h
     rename_i q0; rw[if_neg q0]
     split at h
     ·rename_i q0; rw[if_pos q0]
      exact closeS _ A _ h
     rename_i q0; rw[if_neg q0]
     split at h
     ·rename_i q0; rw[if_pos q0]
      cases q44:qbe 12 2 f n lv (A++[e]) with
      | none=>rw[q44] at h; cases h
      | some z45=>
       rw[q44] at h
       rcases x3 lv A z45 q44 with (⟨c,rfl⟩ | ⟨a46,rfl⟩) | ⟨i,c,rfl,k48⟩ | ⟨a46,B47,hC,rfl,k48⟩
       ·cases h; exact qas (.inl ⟨c,rfl⟩)
       ·simp only at h
        obtain⟨c,hc⟩:=qc5 he hb (x:=bs [61]) (by decide)
        rw[hc] at h; cases h; exact qas (.inl ⟨c,rfl⟩)
       ·cases h; rw[k48]; exact .inr (.inl ⟨i,c,rfl,rfl⟩)
       ·rw[k48]; simp only at h ⊢
        rcases qcy he hb (x:=bs [61]) (by decide) B47 (X:=X) with (⟨c,k⟩ | ⟨u,k⟩) | ⟨i,c,k,k'⟩ | ⟨u,B52,hB,k,k'⟩
        ·rw[k] at h; cases h; exact qas (.inl ⟨c,rfl⟩)
        ·rw[k] at h; simp only at h
         cases q54:qaq 12 2 f n 1 lv [e] with
         | none=>rw[q54] at h; cases h
         | some z=>
          obtain⟨c,rfl⟩:=e1 _ _ _ q54
          rw[q54] at h; cases h; exact qas (.inl ⟨c,rfl⟩)
        ·rw[k] at h; cases h; rw[Option.some.inj k']; exact .inr (.inl ⟨i,c,rfl,rfl⟩)
        ·rw[k] at h; rw[Option.some.inj k']; simp only at h ⊢
         cases q55:qaq 12 2 f n 1 lv (B52++[e]) with
         | none=>rw[q55] at h; cases h
         | some z56=>
          rw[q55] at h
          rcases x1 1 lv B52 z56 q55 with (⟨c,rfl⟩ | ⟨a57,rfl⟩) | ⟨i,c,rfl,k59⟩ | ⟨a57,B58,hC,rfl,k59⟩
          ·cases h; exact qas (.inl ⟨c,rfl⟩)
          ·simp only at h
           exact qas (closeE _ _ h)
          ·cases h; rw[k59]; exact .inr (.inl ⟨i,c,rfl,rfl⟩)
          ·rw[k59]; simp only at h ⊢
           exact closeS _ B58 _ h
     rename_i q0; rw[if_neg q0]
     split at h
     ·rename_i q0; rw[if_pos q0]
      rcases qcy he hb (x:=bs [61]) (by decide) A (X:=X) with (⟨c,k⟩ | ⟨u,k⟩) | ⟨i,c,k,k'⟩ | ⟨u,B63,hB,k,k'⟩
      ·rw[k] at h; cases h; exact qas (.inl ⟨c,rfl⟩)
      ·rw[k] at h; simp only at h
       cases q65:qaq 12 2 f n 1 lv [e] with
       | none=>rw[q65] at h; cases h
       | some z=>
        obtain⟨c,rfl⟩:=e1 _ _ _ q65
        rw[q65] at h; cases h; exact qas (.inl ⟨c,rfl⟩)
      ·rw[k] at h; cases h; rw[Option.some.inj k']; exact .inr (.inl ⟨i,c,rfl,rfl⟩)
      ·rw[k] at h; rw[Option.some.inj k']; simp only at h ⊢
       cases q66:qaq 12 2 f n 1 lv (B63++[e]) with
       | none=>rw[q66] at h; cases h
       | some z67=>
        rw[q66] at h
        rcases x1 1 lv B63 z67 q66 with (⟨c,rfl⟩ | ⟨a68,rfl⟩) | ⟨i,c,rfl,k70⟩ | ⟨a68,B69,hC,rfl,k70⟩
        ·cases h; exact qas (.inl ⟨c,rfl⟩)
        ·simp only at h
         exact qas (closeE _ _ h)
        ·cases h; rw[k70]; exact .inr (.inl ⟨i,c,rfl,rfl⟩)
        ·rw[k70]; simp only at h ⊢
         exact closeS _ B69 _ h
     rename_i q0; rw[if_neg q0]
     cases h; exact qce 12 t A
  ·cases A with
   | nil=>exact qas (.inl ((qfv f fi fb he hb (n+1)).2.1 lv y h))
   | cons t A=>
    rw[qaQ] at h
    rw[qaQ]
    rcases sim_open he hb (x:=bs [123]) (by decide) lv (t::A) (X:=X) with (⟨c,k⟩ | ⟨u,k⟩) | ⟨i,c,k,k'⟩ | ⟨u,B,hB,k,k'⟩
    ·rw[k] at h; cases h; exact qas (.inl ⟨c,rfl⟩)
    ·rw[k] at h
     simp only at h
     obtain⟨c,rfl⟩:=s3 _ _ _ h
     exact qas (.inl ⟨c,rfl⟩)
    ·rw[k] at h; cases h; rw[Option.some.inj k']; exact .inr (.inl ⟨i,c,rfl,rfl⟩)
    ·rw[k] at h; rw[Option.some.inj k']
     exact h3 lv .nil B y h
  ·cases A with
   | nil=>exact qas (.inl ((qfv f fi fb he hb (n+1)).2.2 lv a y h))
   | cons t A=>
    have hn : ∀ B:List Tk,nx (t::A++B)=nx [t]:=fun B=>rfl
    have ht : ∀ B:List Tk,(t::A++B).tail=A++B:=fun B=>rfl
    rw[qb5,hn,ht] at h
    rw[qb5,hn,ht]
    cases hs:nx [t] with
    | none=>rw[hs] at h; cases h; exact qce 12 t A
    | some s=>
     rw[hs] at h
     simp only at h ⊢
     split at h
     ·rename_i q0; rw[if_pos q0]; cases h; exact fin _ A
     ·rename_i q0; rw[if_neg q0]
      cases hq:qcm 12 2 f fi fb n lv (t::A++[e]) with
      | none=>rw[hq] at h; cases h
      | some z=>
       rw[hq] at h
       rcases h1 lv (t::A) z hq with (⟨c,rfl⟩ | ⟨b,rfl⟩) | ⟨i,c,rfl,k2⟩ | ⟨b,B,hC,rfl,k2⟩
       ·cases h; exact qas (.inl ⟨c,rfl⟩)
       ·simp only at h
        obtain⟨c,rfl⟩:=s3 _ _ _ h
        exact qas (.inl ⟨c,rfl⟩)
       ·cases h; rw[k2]; exact .inr (.inl ⟨i,c,rfl,rfl⟩)
       ·rw[k2]; exact h3 lv _ B y h
theorem qiG : ∀ (n:Nat) (h:Nat->Option Ss) (A:List Tk) (y:Rz (Nat->Option Ss)),qcJ 12 2 4 f fi fb n h (A++[e])=some y->qjD e X y (qcJ 12 2 4 f fi fb n h (A++X))
 | 0,h,A,y,k=>by simp[qcJ] at k
 | n+1,h,[],y,k=>by
  rw[List.nil_append,qcJ,qhS he hb] at k
  simp only at k
  rw[if_pos (by rfl)] at k
  cases k
  exact qas (.inr ⟨_,rfl⟩)
 | n+1,h,t::A,y,k=>by
  have hn : ∀ B:List Tk,nx (t::A++B)=nx [t]:=fun B=>rfl
  rw[qcJ,hn] at k
  rw[qcJ,hn]
  have fin : ∀ (a:Nat->Option Ss) (A:List Tk),qjD e X (.ok a (A++[e]):Rz (Nat->Option Ss)) (some (.ok a (A++X))):=fun a A=>by
   cases A with
   | nil=>exact qas (.inr ⟨a,rfl⟩)
   | cons u A=>exact .inr (.inr ⟨a,u::A,by simp,rfl,rfl⟩)
  cases hs:nx [t] with
  | none=>rw[hs] at k; cases k; exact qce 12 t A
  | some s=>
   rw[hs] at k
   simp only at k ⊢
   split at k
   ·rename_i q0; rw[if_pos q0]; cases k; exact fin _ (t::A)
   ·rename_i q0; rw[if_neg q0]
    rcases qcy he hb (x:=bs [111,110]) (by decide) (t::A) (X:=X) with (⟨c,k1⟩ | ⟨u,k1⟩) | ⟨i,c,k1,k'⟩ | ⟨u,B,hB,k1,k'⟩
    ·rw[k1] at k; cases k; exact qas (.inl ⟨c,rfl⟩)
    ·rw[k1] at k
     simp only at k
     rw[qhS he hb] at k
     simp only at k
     rw[show qbL ⟨#[]⟩=none from rfl] at k
     cases k
     exact qas (.inl ⟨_,qgq hb _⟩)
    ·rw[k1] at k; cases k; rw[Option.some.inj k']; exact .inr (.inl ⟨i,c,rfl,rfl⟩)
    ·rw[k1] at k
     rw[Option.some.inj k']
     simp only at k ⊢
     cases B with
     | nil=>exact absurd rfl hB
     | cons t2 B=>
      have hn2 : ∀ C:List Tk,nx (t2::B++C)=nx [t2]:=fun C=>rfl
      have ht2 : ∀ C:List Tk,(t2::B++C).tail=B++C:=fun C=>rfl
      rw[hn2,ht2] at k
      rw[hn2,ht2]
      cases hs2:nx [t2] with
      | none=>rw[hs2] at k; cases k; exact qce 12 t2 B
      | some w=>
       rw[hs2] at k
       simp only at k ⊢
       cases hw:qbL w with
       | none=>rw[hw] at k; cases k; exact qce 12 t2 B
       | some m=>
        rw[hw] at k
        simp only at k ⊢
        split at k
        ·rename_i q1; rw[if_pos q1]; cases k; exact qce 4 t2 B
        ·rename_i q1; rw[if_neg q1]
         cases hq:qaQ 12 2 f fi fb n 1 (B++[e]) with
         | none=>rw[hq] at k; cases k
         | some z=>
          rw[hq] at k
          rcases (qk2 f fi fb he hb n).2.1 1 B z hq with (⟨c,rfl⟩ | ⟨b,rfl⟩) | ⟨i,c,rfl,k2⟩ | ⟨b,C,hC,rfl,k2⟩
          ·cases k; exact qas (.inl ⟨c,rfl⟩)
          ·simp only at k
           have:=qiG n _ [] y k
           cases n with
           | zero=>simp[qcJ] at k
           | succ n=>
            rw[qcJ,qhS he hb] at k
            simp only at k
            rw[if_pos (by rfl)] at k
            cases k
            exact qas (.inr ⟨_,rfl⟩)
          ·cases k; rw[k2]; exact .inr (.inl ⟨i,c,rfl,rfl⟩)
          ·rw[k2]; exact qiG n _ C y k
end
end Go.Pm
end SUo
section SUp
namespace Go.Pm
theorem qka {p:UInt8->Bool} (hp:p 10=false) : ∀ (l x:List UInt8),qbo p (l++10::x)=qbo p l
 | [],x=>by simp[qbo,hp]
 | b::l,x=>by simp only[List.cons_append,qbo,qka hp l x]
theorem qjp (p:UInt8->Bool) (l x:List UInt8) (h:qbo p (l++x)=qbo p l):(l++x).take (qbo p (l++x))=l.take (qbo p l):=by
 rw[h,List.take_append_of_le_length (qdk p l)]
theorem qpS (c:UInt8) (r x:List UInt8):tokL 12 2 6 (c::r++10::x)=tokL 12 2 6 (c::r):=by
 have hw:=qka (p:=qaR) (by decide) (c::r) x
 have hd:=qka (p:=qaA) (by decide) (c::r) x
 have tw:=qjp qaR (c::r) (10::x) hw
 have td:=qjp qaA (c::r) (10::x) hd
 rw[hw] at tw
 rw[hd] at td
 simp only[List.cons_append] at hw hd tw td ⊢
 have hp:bs ((c::(r++10::x)).take 2)∈qds↔bs ((c::r).take 2)∈qds:=by
  cases r with
  | cons d r=>rfl
  | nil=>
   simp only[List.nil_append,List.take_succ_cons,List.take_zero,List.take_nil]
   constructor
   ·intro h; rcases qdI h with h | h | h | h | h | h<;>simp at h
   ·intro h; rcases qdI h with h | h | h | h | h | h<;>simp at h
 have t2:bs ((c::r).take 2)∈qds->(c::(r++10::x)).take 2=(c::r).take 2:=fun h=>by
  cases r with
  | cons d r=>rfl
  | nil=>rcases qdI h with h | h | h | h | h | h<;>simp at h
 simp only[tokL,hw,hd,tw,td]
 split
 ·rfl
 split
 ·rfl
 by_cases h:bs ((c::r).take 2)∈qds
 ·rw[if_pos h,if_pos (hp.2 h),t2 h]
 ·rw[if_neg h,if_neg (fun h'=>h (hp.1 h'))]
theorem qgl : ∀ (l:List UInt8) (c:Bool) (x:List UInt8),qaV c l<l.length->qaV c (l++x)=qaV c l
 | [],c,x,h=>by simp at h
 | b::l,c,x,h=>by
  simp only[qaV,List.cons_append,List.length_cons] at h ⊢
  split at h
  ·rename_i q; rw[if_pos q,if_pos q,qgl l false x (by omega)]
  ·rename_i q
   rw[if_neg q,if_neg q]
   split at h
   ·rename_i q; rw[if_pos q,if_pos q,qgl l c x (by omega)]
   ·rename_i q
    rw[if_neg q,if_neg q]
    split at h
    ·rename_i q; rw[if_pos q,if_pos q,qgl l true x (by omega)]
    ·rename_i q; rw[if_neg q,if_neg q]
theorem qpT (c:UInt8) (r:List UInt8):0<(tokL 12 2 6 (c::r)).1.length/\(tokL 12 2 6 (c::r)).1.length<=(c::r).length:=by
 simp only[tokL]
 split
 ·rename_i h
  rw[qfc]
  exact⟨by simp[qbo,qaR,h],qdk _ _⟩
 split
 ·rename_i h
  rw[qfc]
  exact⟨by simp[qbo,h],qdk _ _⟩
 split
 ·simp[List.length_take]; omega
 split<;>simp
theorem qo8 (x:List UInt8) : ∀ (k n m i:Nat) (b:List UInt8),b.length<=k->b.length<n->(b++10::x).length<m ->
  qlj 12 2 6 m i (b++10::x)=qlj 12 2 6 n i b \/ ∃ A X,X≠[]/\qlj 12 2 6 n i b=A++[⟨i+b.length,⟨#[]⟩,0⟩]/\qlj 12 2 6 m i (b++10::x)=A++X
 | k,0,m,i,b,_,h,_=>by omega
 | k,n+1,0,i,b,_,_,h=>by omega
 | k,n+1,m+1,i,b,hk,h1,h2=>by
  have hle:=qfz b false
  rcases Nat.lt_or_ge (qaV false b) b.length with hlt | hge
  ·have hs:=qgl b false (10::x) hlt
   have hdrop:(b++10::x).drop (qaV false b)=b.drop (qaV false b)++10::x:=List.drop_append_of_le_length hle
   have hlen:(b.drop (qaV false b)).length=b.length-qaV false b:=List.length_drop
   cases hb:b.drop (qaV false b) with
   | nil=>rw[hb] at hlen; simp at hlen; omega
   | cons c r=>
    have ht:=qpS c r x
    obtain⟨n1,n2⟩:=qpT c r
    rw[hb] at hdrop hlen
    rw[qlj,qlj,hs,hdrop,hb,ht]
    split
    ·left; rfl
    ·have hd2:(c::r++10::x).drop (tokL 12 2 6 (c::r)).1.length=(c::r).drop (tokL 12 2 6 (c::r)).1.length++10::x:=List.drop_append_of_le_length n2
     rw[hd2]
     have hl2:((c::r).drop (tokL 12 2 6 (c::r)).1.length).length=(c::r).length-(tokL 12 2 6 (c::r)).1.length:=List.length_drop
     cases k with
     | zero=>omega
     | succ k=>
      have hx:((c::r).drop (tokL 12 2 6 (c::r)).1.length++10::x).length<m:=by
       rw[List.length_append] at h2 ⊢
       omega
      rcases qo8 x k n m (i+qaV false b+(tokL 12 2 6 (c::r)).1.length) ((c::r).drop (tokL 12 2 6 (c::r)).1.length) (by omega) (by omega) hx with h | ⟨A,X,hX,h,h'⟩
      ·left; rw[h]
      ·right
       refine⟨⟨i+qaV false b,bs (tokL 12 2 6 (c::r)).1,(tokL 12 2 6 (c::r)).2⟩::A,X,hX,?_,?_⟩
       ·rw[h]
        have:i+qaV false b+(tokL 12 2 6 (c::r)).1.length+((c::r).drop (tokL 12 2 6 (c::r)).1.length).length=i+b.length:=by omega
        rw[this]
        rfl
       ·rw[h']
        rfl
  ·have he:qaV false b=b.length:=by omega
   right
   refine⟨[],qlj 12 2 6 (m+1) i (b++10::x),?_,?_,rfl⟩
   ·rw[qlj]; split<;>simp
   ·rw[qlj,he,List.drop_length]
    rw[if_pos (.inr rfl)]
    rfl
theorem qlB {f fi fb:Bool} {s t:ByteArray} {i c:Nat} (hp:qdj f fi fb s = .er i c) (hi:i<s.size) (hl : ¬ 2000<(s++⟨#[10]⟩++t).size):qdj f fi fb (s++⟨#[10]⟩++t) = .er i c:=by
 have hsz:(s++⟨#[10]⟩++t).size=s.size+1+t.size:=by rw[ByteArray.size_append,ByteArray.size_append]; rfl
 have hs : ¬ 2000<s.size:=by omega
 have hbyl:byl (s++⟨#[10]⟩++t)=byl s++10::byl t:=by simp[byl]
 have e1:qhZ s=qlj 12 2 6 (s.size+1) 0 (byl s):=by
  show qb1 12 2 6 s (s.size+1) 0=_
  rw[qiV,List.drop_zero]
 have e2:qhZ (s++⟨#[10]⟩++t)=qlj 12 2 6 ((s++⟨#[10]⟩++t).size+1) 0 (byl s++10::byl t):=by
  show qb1 12 2 6 (s++⟨#[10]⟩++t) ((s++⟨#[10]⟩++t).size+1) 0=_
  rw[qiV,List.drop_zero,hbyl]
 have hv:=qd0 (f:=f) (fi:=fi) (fb:=fb) hs
 rw[hp] at hv
 refine qnu hl ?_
 rcases qo8 (byl t) (byl s).length (s.size+1) ((s++⟨#[10]⟩++t).size+1) 0 (byl s) (Nat.le_refl _) (by rw[qaP]; omega) (by rw[List.length_append,List.length_cons,qaP,qaP]; omega) with h | ⟨A,X,hX,h,h'⟩
 ·rw[e2,h,<- e1]
  exact⟨_,hv⟩
 ·rw[<- e1] at h
  rw[h] at hv
  rcases qiG f fi fb (e:=⟨0+(byl s).length,⟨#[]⟩,0⟩) (X:=X) rfl rfl _ _ A _ hv with (⟨c',k⟩ | ⟨a,k⟩) | ⟨i',c',k,k'⟩ | ⟨a,B,_,k,_⟩
  ·simp only[Rz.er.injEq] at k
   have k1:=k.1
   rw[qaP] at k1
   omega
  ·cases k
  ·cases k
   rw[e2,h']
   exact⟨_,k'⟩
  ·cases k
end Go.Pm
end SUp
section SUq
namespace Go.Pm
open F
set_option maxHeartbeats 8000000
section
variable {prog:Nat->Option PFun} (H:Has prog)
include H
theorem qoZ {cs:List D} {s tl tk:ByteArray} {i:Nat} (hi:i<2) (hc:qaw cs i 1=some [.lit (.string s)]) (hs:s.size<2 ^ 29) (ht:tl.size<=40) (zt:Z prog (.call 225 [.str tk,.int 40] [])=some (.ret (.str tl) [])) :
  Z prog (.loop 0 F218l0 [(5,.str tk),(13,.dat (.sl cs 2 true)),(14,.int i)] [])=Z prog (.loop 0 F218l0 [(5,.str tk),(13,.dat (.sl cs 2 true)),(14,.int ((i+1:Nat):Int))] []):=by
 have w1:IntKind.i64.wrap ((i:Int)+1)=((i+1:Nat):Int):=by rw[qal _ (by omega)]; omega
 have hlt:(i:Int)<2:=by omega
 obtain⟨N,hN⟩ : ∃ v:ByteArray,v=⟨#[10]⟩:=⟨_,rfl⟩
 have hNs:N.size=1:=by rw[hN]; rfl
 have n1 : ¬ (9223372036854775807:Int)<(s.size:Int)+1:=by omega
 obtain⟨A,hA⟩ : ∃ v:ByteArray,v=s++N:=⟨_,rfl⟩
 have hAs:A.size=s.size+1:=by rw[hA,ByteArray.size_append,hNs]
 have n2 : ¬ (9223372036854775807:Int)<(s.size:Int)+1+(tl.size:Int):=by omega
 obtain⟨B,hB⟩ : ∃ v:ByteArray,v=A++tl:=⟨_,rfl⟩
 have hBs:B.size=s.size+1+tl.size:=by rw[hB,ByteArray.size_append,hAs]
 have hcat:s++⟨#[10]⟩=A:=by rw[hA,hN]
 have n10:(⟨#[10]⟩:ByteArray).size=1:=rfl
 have n10':((⟨#[10]⟩:ByteArray).size:Int)=1:=rfl
 cases hp:qdj true true false s with
 | ok h r=>
  obtain⟨P,Q,R,_,_,_,z1⟩:=qt8 H (by omega) hp
  simp only[ru] at z1
  conv=>lhs; rw[qae]
  generalize ((i+1:Nat):Int)=i1 at *
  simp -implicitDefEqProofs [qag,qdG,qah,qk4,V.len,hc,z1,zt,hcat,<- hB,hAs,n1,n2,n10,n10',w1,hlt,hi,List.range_succ]
  all_goals exact qbZ (by simp[gcF,List.range_succ])
 | er a c=>
  obtain⟨c0,z1⟩:=quy H (by omega) hp
  have c1 : ¬ (c:Int)=0:=by omega
  have nn:Hd.none.nd=⟨0,0,⟨#[]⟩,false,.nil⟩:=rfl
  simp only[nn,ru,Nd.d,qbk,qaT,qtb] at z1
  by_cases h1:a<s.size
  ·have g1 : ¬ (s.size:Int)<=a:=by omega
   by_cases h2:2000<B.size
   ·have g2:(2000:Int)<B.size:=by omega
    conv=>lhs; rw[qae]
    generalize ((i+1:Nat):Int)=i1 at *
    simp -implicitDefEqProofs [qag,qdG,qah,qk4,V.len,hc,z1,zt,hcat,<- hB,hAs,n1,n2,n10,n10',c0,c1,g1,g2,h1,h2,w1,hlt,hi,List.range_succ]
    all_goals exact qbZ (by simp[gcF,List.range_succ])
   ·have g2 : ¬ (2000:Int)<B.size:=by omega
    have hBe:B=s++⟨#[10]⟩++tl:=by rw[hB,hA,hN]
    have hp2:qdj true true false B = .er a c:=by rw[hBe]; exact qlB hp h1 (by rw[<- hBe]; exact h2)
    obtain⟨_,z2⟩:=quy H (by omega) hp2
    simp only[nn,ru,Nd.d,qbk,qaT,qtb] at z2
    conv=>lhs; rw[qae]
    generalize ((i+1:Nat):Int)=i1 at *
    simp -implicitDefEqProofs [qag,qdG,qah,qk4,V.len,hc,z1,z2,zt,hcat,<- hB,hAs,n1,n2,n10,n10',c0,c1,g1,g2,h1,h2,w1,hlt,hi,List.range_succ]
    all_goals exact qbZ (by simp[gcF,List.range_succ])
  ·have g1:(s.size:Int)<=a:=by omega
   have h1':s.size<=a:=by omega
   conv=>lhs; rw[qae]
   generalize ((i+1:Nat):Int)=i1 at *
   simp -implicitDefEqProofs [qag,qdG,qah,qk4,V.len,hc,z1,zt,hcat,<- hB,hAs,n1,n2,n10,n10',c0,c1,g1,h1',w1,hlt,hi,List.range_succ]
   all_goals exact qbZ (by simp[gcF,List.range_succ])
end
theorem qi2 {prog:Nat->Option PFun} (H:HasD prog) (raw:ByteArray) {v:D} {xs:List Int} (hv:RowV v xs) (hx : ∀ x∈xs,I64 x) {at_ how:Int} (ha:I64 at_) (hh:I64 how) {c:Nat} (hc:c<256) (tk:ByteArray) (zl:Z prog (.call 229 [] [])=some (.ret (.bool true) [])) :
  Z prog (.call 218 [.str raw,.dat v,.int at_,.int how,.dat (.lit (.int .u8 c)),.str tk] [])=some (.ret (.bool true) []):=by
 obtain⟨t0,h0,z0⟩:=qmn H.toHas raw (m:=300) (by omega)
 obtain⟨tl,hl0,zt⟩:=qmn H.toHas tk (m:=40) (by omega)
 obtain⟨a,b,d,ga,gb,gd,z1⟩:=qnJ H.toHas hv hx
 have hl:=qlf a b d
 have g1:=qeI ga
 have g2:=qeI gb
 have g3:=qeI gd
 obtain⟨t1,ht1⟩ : ∃ v,v=bs (qaj false (qdg (Hd.opts a b d))):=⟨_,rfl⟩
 have hs1:t1.size<=75900:=by rw[ht1,qam]; omega
 rw[<- ht1] at z1
 obtain⟨t2,h2,z2⟩:=qnI H.toHas (s:=t1) (by omega) ha hh hc
 simp only[Int.cast_ofNat_Int] at z0 zt
 have r0:=qoZ H.toHas (cs:=[.lit (.string t0),.lit (.string t2)]) (s:=t0) (i:=0) (by omega) (by simp) (by omega) hl0 zt
 have r1:=qoZ H.toHas (cs:=[.lit (.string t0),.lit (.string t2)]) (s:=t2) (i:=1) (by omega) (by simp) (by omega) hl0 zt
 have r3:Z prog (.loop 0 F218l0 [(5,.str tk),(13,.dat (.sl [.lit (.string t0),.lit (.string t2)] 2 true)),(14,.int ((1+1:Nat):Int))] [])=some (.out (.exit 0) [(5,.str tk),(13,.dat (.sl [.lit (.string t0),.lit (.string t2)] 2 true)),(14,.int 2),(33,.bool false)] []):=by
  rw[qae]
  simp[qag,qdG]
 have rr:=r0.trans (r1.trans r3)
 have k0:=hv.one
 have k1:=hv.cells
 simp only[Int.cast_ofNat_Int] at rr
 refine qaa (H.kd 218 F218 rfl) rfl ?_
 simp -implicitDefEqProofs [F218,z0,z1,z2,rr,zl,k0,k1]
end Go.Pm
end SUq
section STb13
namespace Go.Pm.F
def prog13d:Nat->Option PFun
 | 17=>some F17
 | 20=>some F20
 | 23=>some F23
 | 123=>some F123
 | 136=>some F136
 | 137=>some F137
 | 152=>some F152
 | 162=>some F162
 | 176=>some F176
 | 177=>some F177
 | 178=>some F178
 | 179=>some F179
 | 192=>some F192
 | 193=>some F193
 | 218=>some F218
 | 225=>some F225
 | 226=>some F226
 | 227=>some F227
 | 228=>some F228
 | 229=>some F229
 | 231=>some F231
 | 234=>some F234
 | 236=>some F236
 | 239=>some F239
 | 240=>some F240
 | 241=>some F241
 | 242=>some F242
 | 243=>some F243
 | 244=>some F244
 | 245=>some F245
 | 246=>some F246
 | 247=>some F247
 | 248=>some F248
 | 249=>some F249
 | 250=>some F250
 | 251=>some F251
 | 252=>some F252
 | 253=>some F253
 | 254=>some F254
 | 255=>some F255
 | 256=>some F256
 | 257=>some F257
 | 258=>some F258
 | 259=>some F259
 | 260=>some F260
 | 261=>some F261
 | 262=>some F262
 | 263=>some F263
 | 264=>some F264
 | 265=>some F265
 | 266=>some F266
 | 267=>some F267
 | 268=>some F268
 | 269=>some F269
 | 270=>some F270
 | 271=>some F271
 | 272=>some F272
 | 273=>some F273
 | 274=>some F274
 | 275=>some F275
 | 276=>some F276
 | 277=>some F277
 | 278=>some F278
 | 279=>some F279
 | 280=>some F280
 | 281=>some F281
 | 282=>some F282
 | 283=>some F283
 | 284=>some F284
 | 285=>some F285
 | 286=>some F286
 | 287=>some F287
 | 288=>some F288
 | 289=>some F289
 | 290=>some F290
 | 291=>some F291
 | 292=>some F292
 | 293=>some F293
 | 294=>some F294
 | 295=>some F295
 | 297=>some F297
 | 298=>some F298
 | 299=>some F299
 | 300=>some F300
 | 303=>some F303
 | 304=>some F304
 | 307=>some F307
 | 308=>some F308
 | 309=>some F309
 | _=>none
theorem qhi : ∀ f pf,tR f=some pf->prog13d f=some pf:=fun f pf h=>by
 unfold tR at h
 split at h<;>first | (cases h; rfl) | cases h
theorem qhj : ∀ f pf,tS f=some pf->prog13d f=some pf:=fun f pf h=>by
 unfold tS at h
 split at h<;>first | (cases h; rfl) | cases h
theorem qhk : ∀ f pf,tP f=some pf->prog13d f=some pf:=fun f pf h=>by
 unfold tP at h
 split at h<;>first | (cases h; rfl) | cases h
theorem qhl : ∀ f pf,tQ f=some pf->prog13d f=some pf:=fun f pf h=>by
 unfold tQ at h
 split at h<;>first | (cases h; rfl) | cases h
theorem qfd : ∀ f pf,qbf f=some pf->prog13d f=some pf:=fun f pf h=>by
 unfold qbf at h
 split at h<;>first | (cases h; rfl) | cases h
end Go.Pm.F
end STb13
section SUm
namespace Go.Pm
open F
theorem qhm:Sub tE prog13d:=fun f pf h=>by
 unfold tE at h
 split at h<;>first | (cases h; rfl) | cases h
theorem qhn:Sub tK prog13d:=fun f pf h=>by
 unfold tK at h
 split at h<;>first | (cases h; rfl) | cases h
theorem qgH:Sub tKd prog13d:=fun f pf h=>by
 unfold tKd at h
 split at h<;>first | (cases h; rfl) | cases h
theorem qrI:HasD prog13d:=⟨⟨qfd,qhi,qhj,qhk,qhl,qhm,qhn⟩,qgH⟩
end Go.Pm
end SUm
section SUt
namespace Go.Pm
open F
theorem qoO:Z prog13d (.call 229 [] [])=some (.ret (.bool true) []):=qnx (n:=3000) (by kernel_rfl)
theorem tailLaw_Z (raw:ByteArray) {v:D} {xs:List Int} (hv:RowV v xs) (hx : ∀ x∈xs,I64 x) {at_ how:Int} (ha:I64 at_) (hh:I64 how) {c:Nat} (hc:c<256) (tk:ByteArray) :
  Z prog13d (.call 218 [.str raw,.dat v,.int at_,.int how,.dat (.lit (.int .u8 c)),.str tk] [])=some (.ret (.bool true) []):=qi2 qrI raw hv hx ha hh hc tk qoO
end Go.Pm
end SUt
