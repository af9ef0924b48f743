/- Small stores: a part of a store renamed; a call's store laid back. -/
import Derived.Test.YtlllpifkcpijiaaGreatDoorPmJ
import Derived.DefersIn
set_option linter.unusedSimpArgs false
set_option linter.unusedVariables false
namespace Go.Pm
section
variable{fid:Fid}
structure Ren(r:Nat->Nat)(L:Nat->Prop)(Γ Γs:Ctx):Prop where
 F : Γs.F = Γ.F
 w : Γs.w = Γ.w
 μ : ∀ l,L l -> Γs.μ (r l) = Γ.μ l
 σ : ∀ l ob,L l -> Γ.σ[l]?=some ob -> Γs.σ[r l]?=some (ob.ren r)
theorem Ob.isTip_ren(r:Nat->Nat)(ob:Ob):(ob.ren r).isTip=ob.isTip:=by cases ob<;>rfl
theorem qa6(r:Nat->Nat) : ∀ vs,(qcw r vs).length=vs.length
 |[]=>rfl
 |v::vs=>by simp[qcw,qa6 r vs]
theorem qhZ(r:Nat->Nat) : ∀ ds:List D,qcw r (ds.map .dat)=ds.map .dat
 |[]=>rfl
 |d::ds=>by simp[qcw,V.ren,qhZ r ds]
theorem Ob.fz_ren(r:Nat->Nat)(ob:Ob):(ob.ren r).fz=ob.fz:=by cases ob<;>rfl
theorem Ob.rows_ren(r:Nat->Nat)(ob:Ob):(ob.ren r).rows=ob.rows.map (qcw r):=by
 cases ob<;>simp[Ob.ren,Ob.rows,qhZ]
theorem Ctx.fix.ren{r:Nat->Nat}{L:Nat->Prop}{Γ Γs:Ctx}(h:Ren r L Γ Γs){l:Nat}(hl:L l)(hf : Γ.fix l) : Γs.fix (r l):=by
 obtain⟨ob,h1,h2⟩:=hf
 exact⟨_,h.σ l ob hl h1,by rw[Ob.isTip_ren]; exact h2⟩
mutual
theorem Rep.ren{r:Nat->Nat}{L:Nat->Prop}{Γ Γs:Ctx}(h:Ren r L Γ Γs) : ∀ (v:V) (x:Value),(∀ l∈v.locs,L l)->Rep fid Γ v x->Rep fid Γs (v.ren r) x
 |.dat d,x,_,hr=>by simp only[Rep,V.ren] at hr ⊢; rw[h.F,h.w]; exact hr
 |.ptr l o,x,hl,hr=>by
  simp only[Rep,V.ren] at hr ⊢
  obtain⟨b,h1,h2,h3⟩:=hr
  have:=hl l (by simp[V.locs])
  exact⟨b,by rw[h.μ l this]; exact h1,h2,h3.ren h this⟩
 |.gsl cs n sz l,x,hl,hr=>by
  simp only[Rep,V.ren] at hr ⊢
  obtain⟨b,cap,vs,m,h1,h2,h3,h4,h5,h6,h7,h8,h9⟩:=hr
  have:=hl l (by simp[V.locs])
  rw[h.F,h.w,h.μ l this]
  exact⟨b,cap,vs,m,h1,h2,h3,h4,h5,h.σ l _ this h6,h7,h8,h9⟩
 |.msl l o n cap sz,x,hl,hr=>by
  simp only[Rep,V.ren] at hr ⊢
  obtain⟨b,h1,h2,h3,h4⟩:=hr
  have:=hl l (by simp[V.locs])
  exact⟨b,by rw[h.μ l this]; exact h1,h2,h3,h4.ren h this⟩
 |.own l n sz,x,hl,hr=>by
  simp only[Rep,V.ren] at hr ⊢
  obtain⟨a,cap,h1,h2,h0,⟨ob,h3,h4⟩,h5⟩:=hr
  have hl':=hl l (by simp[V.locs])
  have hσ := h.σ l ob hl' h3
  refine⟨a,cap,h1,h2,h0,⟨_,hσ,by rw[Ob.isTip_ren]; exact h4⟩,fun ob' cs' k1 k2=>?_⟩
  rw[hσ] at k1; cases k1
  rw[Ob.rows_ren,Option.map_eq_some_iff] at k2
  obtain⟨cs,k2,rfl⟩:=k2
  rw[qa6,h.w,h.F,h.μ l hl',Ob.fz_ren]
  exact h5 ob cs h3 k2
 |.eptr l n o,x,hl,hr=>by
  simp only[Rep,V.ren] at hr ⊢
  obtain⟨a,h1,⟨ob,h3,h4⟩,h5⟩:=hr
  have hl':=hl l (by simp[V.locs])
  have hσ := h.σ l ob hl' h3
  refine⟨a,h1,⟨_,hσ,by rw[Ob.isTip_ren]; exact h4⟩,fun ob' cs' k1 k2=>?_⟩
  rw[hσ] at k1; cases k1
  rw[Ob.rows_ren,Option.map_eq_some_iff] at k2
  obtain⟨cs,k2,rfl⟩:=k2
  rw[qa6,h.w,h.F,h.μ l hl',Ob.fz_ren]
  exact h5 ob cs h3 k2
 |.vw l n o k sz,x,hl,hr=>by
  simp only[Rep,V.ren] at hr ⊢
  obtain⟨a,cap,h1,h2,h0,⟨ob,h3,h4⟩,h5⟩:=hr
  have hl':=hl l (by simp[V.locs])
  have hσ := h.σ l ob hl' h3
  refine⟨a,cap,h1,h2,h0,⟨_,hσ,by rw[Ob.isTip_ren]; exact h4⟩,fun ob' cs' k1 k2=>?_⟩
  rw[hσ] at k1; cases k1
  rw[Ob.rows_ren,Option.map_eq_some_iff] at k2
  obtain⟨cs,k2,rfl⟩:=k2
  rw[qa6,h.w,h.F,h.μ l hl',Ob.fz_ren]
  exact h5 ob cs h3 k2
 |.rw cs n,x,hl,hr=>by
  simp only[Rep,V.ren] at hr ⊢
  obtain⟨b,o,cap,vs,h1,h2,h3,h4⟩:=hr
  exact⟨b,o,cap,vs,h1,h2,Reps.ren h cs vs (by simpa [V.locs] using hl) h3,by rw[h.F,h.w]; exact h4⟩
 |.bm g v,x,hl,hr=>by
  simp only[Rep,V.ren] at hr ⊢
  obtain⟨t,nm,y,h1,h2,h3⟩:=hr
  exact⟨t,nm,y,h1,h2,Rep.ren h v y (fun l hl'=>hl l (by simpa [V.locs] using hl')) h3⟩
 |.agg cs,x,hl,hr=>by
  simp only[Rep,V.ren] at hr ⊢
  obtain⟨vs,h1,h2⟩:=hr
  exact⟨vs,h1,Reps.ren h cs vs (fun l hl'=>hl l (by simpa [V.locs] using hl')) h2⟩
 |.fn f a b,x,hl,hr=>by
  simp only[Rep,V.ren] at hr ⊢
  obtain⟨as,bs,h1,h2,h3⟩:=hr
  exact⟨as,bs,h1,Reps.ren h a as (fun l hl'=>hl l (by simp[V.locs,hl'])) h2,Reps.ren h b bs (fun l hl'=>hl l (by simp[V.locs,hl'])) h3⟩
 |.mp l,x,hl,hr=>by
  simp only[Rep,V.ren] at hr ⊢
  obtain⟨b,h1,h2,h3⟩:=hr
  have:=hl l (by simp[V.locs])
  exact⟨b,by rw[h.μ l this]; exact h1,h2,h3.ren h this⟩
 |.iface t v,x,hl,hr=>by
  simp only[Rep,V.ren] at hr ⊢
  obtain⟨y,h1,h2⟩:=hr
  exact⟨y,h1,Rep.ren h v y (fun l hl'=>hl l (by simpa [V.locs] using hl')) h2⟩
 |.tup vs,x,hl,hr=>by
  simp only[Rep,V.ren] at hr ⊢
  obtain⟨xs,h1,h2⟩:=hr
  exact⟨xs,h1,Reps.ren h vs xs (fun l hl'=>hl l (by simpa [V.locs] using hl')) h2⟩
 |.yld l,x,hl,hr=>by
  simp only[Rep,V.ren] at hr ⊢
  obtain⟨b,h1,h2,h3⟩:=hr
  have:=hl l (by simp[V.locs])
  exact⟨b,by rw[h.μ l this]; exact h1,h2,h3.ren h this⟩
 |.pan _,x,hl,hr=>by simp only[Rep] at hr
theorem Reps.ren{r:Nat->Nat}{L:Nat->Prop}{Γ Γs:Ctx}(h:Ren r L Γ Γs) : ∀ (vs:List V) (xs:List Value),(∀ l∈qav vs,L l)->Reps fid Γ vs xs->Reps fid Γs (qcw r vs) xs
 |[],xs,_,hr=>by simpa only [Reps,qcw] using hr
 |d::ds,xs,hl,hr=>by
  simp only[Reps,qcw] at hr ⊢
  obtain⟨y,ys,h1,h2,h3⟩:=hr
  exact⟨y,ys,h1,Rep.ren h d y (fun l hl'=>hl l (by simp[qav,hl'])) h2,Reps.ren h ds ys (fun l hl'=>hl l (by simp[qav,hl'])) h3⟩
end
theorem RepE.ren{r:Nat->Nat}{L:Nat->Prop}{Γ Γs:Ctx}(h:Ren r L Γ Γs) : ∀ (es:List (Value × V)) (xs:List MapEntry),(∀ l∈qfo es,L l)->RepE fid Γ es xs->RepE fid Γs (qoZ r es) xs
 |[],xs,_,hr=>by simpa only [RepE,qoZ] using hr
 | (k,v)::es,xs,hl,hr=>by
  simp only[RepE,qoZ] at hr ⊢
  obtain⟨e,es',h1,h2,h3,h4⟩:=hr
  exact⟨e,es',h1,h2,Rep.ren h v e.val (fun l hl'=>hl l (by simp[qfo,hl'])) h3,RepE.ren h es es' (fun l hl'=>hl l (by simp[qfo,hl'])) h4⟩
theorem qh0{r:Nat->Nat} : ∀ {fr:Fr} {t:Nat} {v:V},(qhT r fr).get t=some v -> ∃ u,fr.get t=some u/\v=u.ren r /\ ∀ l∈u.locs,l∈qa9 fr
 |[],t,v,h=>by simp[qhT,Fr.get] at h
 | (k,u)::fr,t,v,h=>by
  simp only[qhT,Fr.get] at h ⊢
  split at h
  ·rename_i e
   cases h
   exact⟨u,by rw[if_pos e],rfl,fun l hl=>by simp[qa9,hl]⟩
  ·rename_i e
   obtain⟨u',h1,h2,h3⟩:=qh0 h
   exact⟨u',by rw[if_neg e]; exact h1,h2,fun l hl=>by simp[qa9,h3 l hl]⟩
mutual
theorem qeK{r:Nat->Nat} : ∀ {v:V} {l:Nat},l∈(v.ren r).locs -> ∃ l'∈v.locs,l=r l'
 |.dat _,l,h=>by simp[V.ren,V.locs] at h
 |.ptr l' o,l,h=>by simp[V.ren,V.locs] at h ⊢; exact h
 |.gsl _ _ _ l',l,h=>by simp[V.ren,V.locs] at h ⊢; exact h
 |.msl l' _ _ _ _,l,h=>by simp[V.ren,V.locs] at h ⊢; exact h
 |.own l' _ _,l,h=>by simp[V.ren,V.locs] at h ⊢; exact h
 |.eptr l' _ _,l,h=>by simp[V.ren,V.locs] at h ⊢; exact h
 |.vw l' _ _ _ _,l,h=>by simp[V.ren,V.locs] at h ⊢; exact h
 |.rw cs _,l,h=>by simp only[V.ren,V.locs] at h ⊢; exact qcV h
 |.bm _ v,l,h=>by simp only[V.ren,V.locs] at h ⊢; exact qeK h
 |.agg cs,l,h=>by simp only[V.ren,V.locs] at h ⊢; exact qcV h
 |.fn f a b,l,h=>by
  simp only[V.ren,V.locs,List.mem_append] at h ⊢
  rcases h with h|h
  ·obtain⟨l',h1,h2⟩:=qcV h; exact⟨l',.inl h1,h2⟩
  ·obtain⟨l',h1,h2⟩:=qcV h; exact⟨l',.inr h1,h2⟩
 |.mp l',l,h=>by simp[V.ren,V.locs] at h ⊢; exact h
 |.iface _ v,l,h=>by simp only[V.ren,V.locs] at h ⊢; exact qeK h
 |.tup vs,l,h=>by simp only[V.ren,V.locs] at h ⊢; exact qcV h
 |.yld l',l,h=>by simp[V.ren,V.locs] at h ⊢; exact h
 |.pan v,l,h=>by simp only[V.ren,V.locs] at h ⊢; exact qeK h
theorem qcV{r:Nat->Nat} : ∀ {vs:List V} {l:Nat},l∈qav (qcw r vs) -> ∃ l'∈qav vs,l=r l'
 |[],l,h=>by simp[qcw,qav] at h
 |v::vs,l,h=>by
  simp only[qcw,qav,List.mem_append] at h ⊢
  rcases h with h|h
  ·obtain⟨l',h1,h2⟩:=qeK h; exact⟨l',.inl h1,h2⟩
  ·obtain⟨l',h1,h2⟩:=qcV h; exact⟨l',.inr h1,h2⟩
end
theorem qjd{r:Nat->Nat} : ∀ {fr:Fr} {l:Nat},l∈qa9 (qhT r fr) -> ∃ l'∈qa9 fr,l=r l'
 |[],l,h=>by simp[qhT,qa9] at h
 | (_,v)::vs,l,h=>by
  simp only[qhT,qa9,List.mem_append] at h ⊢
  rcases h with h|h
  ·obtain⟨l',h1,h2⟩:=qeK h; exact⟨l',.inl h1,h2⟩
  ·obtain⟨l',h1,h2⟩:=qjd h; exact⟨l',.inr h1,h2⟩
theorem FrRep.ren{r:Nat->Nat}{L:Nat->Prop}{Γ Γs:Ctx}(h:Ren r L Γ Γs){N:Nat}{fr:Fr}{tmps:Array Value}(hl : ∀ l∈qa9 fr,L l)(hf:FrRep fid Γ N fr tmps):FrRep fid Γs N (qhT r fr) tmps:=by
 refine⟨hf.1,fun t v ht hv=>?_⟩
 obtain⟨u,h1,rfl,h3⟩:=qh0 hv
 exact Rep.ren h u _ (fun l hl'=>hl l (h3 l hl')) (hf.2 t u ht h1)
theorem RepOb.ren{r:Nat->Nat}{L:Nat->Prop}{Γ Γs:Ctx}(h:Ren r L Γ Γs){b:Nat} : ∀ (ob:Ob),(∀ l∈ob.locs,L l)->RepOb fid Γ b ob->RepOb fid Γs b (ob.ren r)
 |.cells cs,hl,hr=>by
  simp only[RepOb,Ob.ren] at hr ⊢
  obtain⟨h1,arr,e,h2,h3⟩:=hr
  exact⟨by rw[h.F]; exact h1,arr,e,by rw[h.w]; exact h2,Reps.ren h cs _ hl h3⟩
 |.map es,hl,hr=>by
  simp only[RepOb,Ob.ren] at hr ⊢
  obtain⟨h1,arr,e,h2,h3⟩:=hr
  exact⟨by rw[h.F]; exact h1,arr,e,by rw[h.w]; exact h2,RepE.ren h es _ hl h3⟩
 |.tip m,_,hr=>by
  simp only[RepOb,Ob.ren] at hr ⊢
  rw[h.F]; exact hr
 |.vec cs,hl,hr=>by
  simp only[RepOb,Ob.ren] at hr ⊢
  obtain⟨arr,e,h2,h3,h4,h5⟩:=hr
  rw[qa6,h.F]
  exact⟨arr,e,by rw[h.w]; exact h2,h3,Reps.ren h cs _ hl h4,h5⟩
 |.cellsT t cs,hl,hr=>by
  simp only[RepOb,Ob.ren] at hr ⊢
  obtain⟨h1,arr,h2,h3⟩:=hr
  exact⟨by rw[h.F]; exact h1,arr,by rw[h.w]; exact h2,Reps.ren h cs _ hl h3⟩
 |.vecT t cs,hl,hr=>by
  simp only[RepOb,Ob.ren] at hr ⊢
  obtain⟨h1,arr,h2,h3,h4,h5⟩:=hr
  rw[qa6]
  exact⟨by rw[h.F]; exact h1,arr,by rw[h.w]; exact h2,h3,Reps.ren h cs _ hl h4,h5⟩
 |.froz ds,hl,hr=>by
  simp only[RepOb,Ob.ren] at hr ⊢
  rw[h.F,h.w]; exact hr
 |.iter m,hl,hr=>by
  simp only[RepOb,Ob.ren] at hr ⊢
  obtain⟨h1,c,s,n,t,h2,h3,h4⟩:=hr
  have hm:=hl m (by simp[Ob.locs])
  exact⟨by rw[h.F]; exact h1,c,s,n,t,by rw[h.μ m hm]; exact h2,h3.ren h hm,by rw[h.w]; exact h4⟩
 |.dead,hl,hr=>by simp only[RepOb] at hr
 |.loop lp,hl,hr=>by
  simp only[RepOb,Ob.ren] at hr ⊢
  obtain⟨h1,M,h2,h3,h4,h5,N,h6,h7,h8,h9,h10⟩:=hr
  refine⟨by rw[h.F]; exact h1,M,by rw[h.w]; exact h2,h3,h4,h5,N,h6,h7,h8,FrRep.ren h hl h9,fun l hl'=>?_⟩
  obtain⟨l',hm,rfl⟩:=qjd hl'
  have:=h10 l' hm
  exact (List.getElem?_eq_some_iff.1 (h.σ l' (Γ.σ[l']'this) (hl l' hm) (by simp))).1
mutual
theorem Rep.lt{Γ : Ctx} : ∀ (v:V) (x:Value),Rep fid Γ v x -> ∀ l∈v.locs,l < Γ.σ.length
 |.dat d,x,_,l,hl=>by simp[V.locs] at hl
 |.ptr l' o,x,hr,l,hl=>by
  simp only[Rep] at hr
  obtain⟨b,h1,h2,ob,h3,_⟩:=hr
  simp[V.locs] at hl; subst hl
  exact (List.getElem?_eq_some_iff.1 h3).1
 |.gsl cs n sz l',x,hr,l,hl=>by
  simp only[Rep] at hr
  obtain⟨b,cap,vs,m,_,_,_,_,_,h6,_⟩:=hr
  simp[V.locs] at hl; subst hl
  exact (List.getElem?_eq_some_iff.1 h6).1
 |.msl l' o n cap sz,x,hr,l,hl=>by
  simp only[Rep] at hr
  obtain⟨b,h1,h2,_,ob,h3,_⟩:=hr
  simp[V.locs] at hl; subst hl
  exact (List.getElem?_eq_some_iff.1 h3).1
 |.own l' n sz,x,hr,l,hl=>by
  simp only[Rep] at hr
  obtain⟨a,cap,_,_,_,⟨ob,h3,_⟩,_⟩:=hr
  simp[V.locs] at hl; subst hl
  exact (List.getElem?_eq_some_iff.1 h3).1
 |.eptr l' n o,x,hr,l,hl=>by
  simp only[Rep] at hr
  obtain⟨a,_,⟨ob,h3,_⟩,_⟩:=hr
  simp[V.locs] at hl; subst hl
  exact (List.getElem?_eq_some_iff.1 h3).1
 |.vw l' n o k sz,x,hr,l,hl=>by
  simp only[Rep] at hr
  obtain⟨a,cap,_,_,_,⟨ob,h3,_⟩,_⟩:=hr
  simp[V.locs] at hl; subst hl
  exact (List.getElem?_eq_some_iff.1 h3).1
 |.rw cs n,x,hr,l,hl=>by
  simp only[Rep] at hr
  obtain⟨b,o,cap,vs,_,_,h,_⟩:=hr
  exact Reps.lt cs vs h l (by simpa [V.locs] using hl)
 |.bm g v,x,hr,l,hl=>by
  simp only[Rep] at hr
  obtain⟨t,nm,y,_,_,h⟩:=hr
  exact Rep.lt v y h l (by simpa [V.locs] using hl)
 |.agg cs,x,hr,l,hl=>by
  simp only[Rep] at hr
  obtain⟨vs,_,h⟩:=hr
  exact Reps.lt cs vs h l (by simpa [V.locs] using hl)
 |.fn f a b,x,hr,l,hl=>by
  simp only[Rep] at hr
  obtain⟨as,bs,_,h1,h2⟩:=hr
  simp only[V.locs,List.mem_append] at hl
  rcases hl with hl|hl
  ·exact Reps.lt a as h1 l hl
  ·exact Reps.lt b bs h2 l hl
 |.mp l',x,hr,l,hl=>by
  simp only[Rep] at hr
  obtain⟨b,h1,h2,ob,h3,_⟩:=hr
  simp[V.locs] at hl; subst hl
  exact (List.getElem?_eq_some_iff.1 h3).1
 |.iface t v,x,hr,l,hl=>by
  simp only[Rep] at hr
  obtain⟨y,_,h⟩:=hr
  exact Rep.lt v y h l (by simpa [V.locs] using hl)
 |.tup vs,x,hr,l,hl=>by
  simp only[Rep] at hr
  obtain⟨xs,_,h⟩:=hr
  exact Reps.lt vs xs h l (by simpa [V.locs] using hl)
 |.yld l',x,hr,l,hl=>by
  simp only[Rep] at hr
  obtain⟨b,h1,h2,ob,h3,_⟩:=hr
  simp[V.locs] at hl; subst hl
  exact (List.getElem?_eq_some_iff.1 h3).1
 |.pan _,x,hr,l,hl=>by simp only[Rep] at hr
theorem Reps.lt{Γ : Ctx} : ∀ (vs:List V) (xs:List Value),Reps fid Γ vs xs -> ∀ l∈qav vs,l < Γ.σ.length
 |[],xs,_,l,hl=>by simp[qav] at hl
 |d::ds,xs,hr,l,hl=>by
  simp only[Reps] at hr
  obtain⟨y,ys,_,h2,h3⟩:=hr
  simp only[qav,List.mem_append] at hl
  rcases hl with hl|hl
  ·exact Rep.lt d y h2 l hl
  ·exact Reps.lt ds ys h3 l hl
end
theorem RepE.lt{Γ : Ctx} : ∀ (es:List (Value × V)) (xs:List MapEntry),RepE fid Γ es xs -> ∀ l∈qfo es,l < Γ.σ.length
 |[],xs,_,l,hl=>by simp[qfo] at hl
 | (k,v)::es,xs,hr,l,hl=>by
  simp only[RepE] at hr
  obtain⟨e,es',_,_,h2,h3⟩:=hr
  simp only[qfo,List.mem_append] at hl
  rcases hl with hl|hl
  ·exact Rep.lt v _ h2 l hl
  ·exact RepE.lt es es' h3 l hl
theorem RepOb.lt{Γ : Ctx}{b:Nat} : ∀ (ob:Ob),RepOb fid Γ b ob -> ∀ l∈ob.locs,l < Γ.σ.length
 |.cells cs,hr,l,hl=>by simp only[RepOb] at hr; obtain⟨_,arr,e,_,h⟩:=hr; exact Reps.lt cs _ h l hl
 |.map es,hr,l,hl=>by simp only[RepOb] at hr; obtain⟨_,arr,e,_,h⟩:=hr; exact RepE.lt es _ h l hl
 |.tip m,_,l,hl=>by simp[Ob.locs] at hl
 |.vec cs,hr,l,hl=>by simp only[RepOb] at hr; obtain⟨arr,e,_,_,h,_⟩:=hr; exact Reps.lt cs _ h l hl
 |.cellsT t cs,hr,l,hl=>by simp only[RepOb] at hr; obtain⟨_,arr,_,h⟩:=hr; exact Reps.lt cs _ h l hl
 |.vecT t cs,hr,l,hl=>by simp only[RepOb] at hr; obtain⟨_,arr,_,_,h,_⟩:=hr; exact Reps.lt cs _ h l hl
 |.froz ds,_,l,hl=>by simp[Ob.locs] at hl
 |.dead,_,l,hl=>by simp[Ob.locs] at hl
 |.iter m,hr,l,hl=>by
  simp only[RepOb] at hr
  obtain⟨_,_,_,_,_,_,⟨ob,h3,_⟩,_⟩:=hr
  simp[Ob.locs] at hl; subst hl
  exact (List.getElem?_eq_some_iff.1 h3).1
 |.loop lp,hr,l,hl=>by simp only[RepOb] at hr; obtain⟨_,M,_,_,_,_,N,_,_,_,_,h⟩:=hr; exact h l hl
theorem qdF{L:List Nat} : ∀ {ks:List Nat},inL L ks=true -> ∀ k∈ks,k∈L
 |[],_,k,hk=>by cases hk
 |a::ks,h,k,hk=>by
  simp only[inL,Bool.and_eq_true,List.contains_eq_mem,decide_eq_true_eq] at h
  rcases List.mem_cons.1 hk with rfl|hk
  ·exact h.1
  ·exact qdF h.2 k hk
theorem qgk : ∀ {L:List Nat},qd2 L=true->L.Nodup
 |[],_=>List.nodup_nil
 |k::ks,h=>by
  simp only[qd2,Bool.and_eq_true,Bool.not_eq_true',List.contains_eq_mem,decide_eq_false_iff_not] at h
  exact List.nodup_cons.2 ⟨h.1,qgk h.2⟩
theorem qcF : ∀ {L:List Nat} {l:Nat},l∈L->L[idx L l]?=some l
 |k::ks,l,h=>by
  simp only[idx]
  by_cases e:k=l
  ·simp[e]
  ·rw[if_neg e]
   have:l∈ks:=by
    rcases List.mem_cons.1 h with rfl|h
    ·exact absurd rfl e
    ·exact h
   simpa using qcF this
theorem qcg : ∀ {L:List Nat} {i l:Nat},L.Nodup->L[i]?=some l->idx L l=i
 |[],i,l,_,h=>by simp at h
 |k::ks,i,l,hn,h=>by
  obtain⟨h1,h2⟩:=List.nodup_cons.1 hn
  cases i with
  |zero=>simp at h; simp[idx,h]
  |succ i=>
   have h':ks[i]?=some l:=by simpa using h
   have hm:l∈ks:=List.mem_of_getElem? h'
   simp only[idx]
   rw[if_neg (fun e=>h1 (by rw[e]; exact hm)),qcg h2 h']
theorem qgl{σ : S} : ∀ {L:List Nat} {obs:List Ob},qde σ L=some obs->obs.length=L.length /\ ∀ (i l:Nat),L[i]?=some l -> ∃ ob,obs[i]?=some ob /\ σ[l]?=some ob
 |[],obs,h=>by simp only[qde,Option.some.injEq] at h; subst h; simp
 |k::ks,obs,h=>by
  simp only[qde] at h
  split at h
  ·rename_i ob obs' h1 h2
   cases h
   obtain⟨h3,h4⟩:=qgl h2
   refine⟨by simp[h3],fun i l hi=>?_⟩
   cases i with
   |zero=>simp at hi; subst hi; exact⟨ob,rfl,h1⟩
   |succ i=>exact h4 i l (by simpa using hi)
  ·cases h
theorem qec{L:List Nat} : ∀ {obs:List Ob},closed L obs=true -> ∀ ob∈obs,∀ l∈ob.locs,l∈L
 |[],_,ob,hob=>by cases hob
 |o::obs,h,ob,hob=>by
  simp only[closed,Bool.and_eq_true] at h
  rcases List.mem_cons.1 hob with rfl|hob
  ·exact qdF h.1
  ·exact qec h.2 ob hob
def Ctx.part(Γ : Ctx)(L:List Nat)(σs:S):Ctx:=⟨σs,fun i=>(L[i]?).bind Γ.μ,Γ.F,Γ.w⟩
theorem qaI {Γ : Ctx} (hr:Real fid Γ) {L:List Nat} {vs vs':List V} {σs:S} (h:qaF L vs Γ.σ = some (vs',σs)) :
  L.Nodup /\ σs.length=L.length/\(∀ l∈L,l < Γ.σ.length)/\Ren (idx L) (· ∈ L) Γ (Γ.part L σs)/\Real fid (Γ.part L σs)/\(∀ xs,Reps fid Γ vs xs->Reps fid (Γ.part L σs) vs' xs):=by
 unfold qaF at h
 split at h
 ·rename_i obs hobs
  split at h
  ·rename_i hcond
   simp only[Bool.and_eq_true] at hcond
   obtain⟨h1,h2,h3⟩:=hcond
   cases h
   have hn:=qgk h1
   obtain⟨g1,g2⟩:=qgl hobs
   have hlt : ∀ l∈L,l < Γ.σ.length:=fun l hl=>by
    obtain⟨ob,_,h⟩:=g2 _ l (qcF hl)
    exact (List.getElem?_eq_some_iff.1 h).1
   have hren:Ren (idx L) (· ∈ L) Γ (Γ.part L (obs.map (Ob.ren (idx L)))):=by
    refine⟨rfl,rfl,fun l hl=>?_,fun l ob hl ho=>?_⟩
    ·simp only[Ctx.part,qcF hl,Option.bind_some]
    ·obtain⟨ob',h4,h5⟩:=g2 _ l (qcF hl)
     rw[ho] at h5; cases h5
     simp only[Ctx.part,List.getElem?_map,h4,Option.map_some]
   have hget : ∀ (i l:Nat) (ob:Ob),L[i]?=some l->(obs.map (Ob.ren (idx L)))[i]?=some ob -> ∃ ob',Γ.σ[l]?=some ob'/\ob'∈obs/\ob=ob'.ren (idx L):=fun i l ob hi ho=>by
    obtain⟨ob',h4,h5⟩:=g2 i l hi
    simp only[List.getElem?_map,h4,Option.map_some,Option.some.injEq] at ho
    exact⟨ob',h5,List.mem_of_getElem? h4,ho.symm⟩
   refine⟨hn,by simp[g1],hlt,hren,⟨fun i ob b ho hm=>?_,fun i b hm=>?_,fun i j b hi hj=>?_,hr.imm,hr.glb⟩,fun xs hx=>Reps.ren hren vs xs (qdF h2) hx⟩
   ·simp only[Ctx.part] at hm ho
    cases hl:L[i]? with
    |none=>rw[hl] at hm; cases hm
    |some l=>
     rw[hl] at hm
     obtain⟨ob',k1,k2,rfl⟩:=hget i l ob hl ho
     exact RepOb.ren hren ob' (qec h3 ob' k2) (hr.obs l ob' b k1 hm)
   ·simp only[Ctx.part] at hm ⊢
    cases hl:L[i]? with
    |none=>rw[hl] at hm; cases hm
    |some l=>
     rw[hl] at hm
     exact⟨by rw[List.length_map,g1]; exact (List.getElem?_eq_some_iff.1 hl).1,(hr.dom l b hm).2⟩
   ·simp only[Ctx.part] at hi hj
    cases hl:L[i]? with
    |none=>rw[hl] at hi; cases hi
    |some l=>
     cases hl':L[j]? with
     |none=>rw[hl'] at hj; cases hj
     |some l'=>
      rw[hl] at hi; rw[hl'] at hj
      have:=hr.inj l l' b hi hj
      subst this
      rw[<- qcg hn hl,<- qcg hn hl']
  ·cases h
 ·cases h
theorem qc8 : ∀ {L:List Nat} {σ : S} {obs:List Ob},L.Nodup->(∀ l∈L,l < σ.length)->L.length<=obs.length ->
  (qau σ L obs).length = σ.length+(obs.length-L.length)/\(∀ (i l:Nat),L[i]?=some l->(qau σ L obs)[l]?=obs[i]?) /\
  (∀ (l:Nat),l < σ.length->l∉L->(qau σ L obs)[l]? = σ[l]?) /\ ∀ (j:Nat),(qau σ L obs)[σ.length+j]?=obs[L.length+j]?
 |[],σ,obs,_,_,_=>by
  refine⟨by simp[qau],by simp,fun l hl _=>?_,fun j=>?_⟩
  ·simp only[qau]; rw[List.getElem?_append_left hl]
  ·simp only[qau]; rw[List.getElem?_append_right (by omega)]; simp
 |k::ks,σ,[],_,_,h=>by simp at h
 |k::ks,σ,ob::obs,hn,hlt,hle=>by
  obtain⟨h1,h2⟩:=List.nodup_cons.1 hn
  have hk:=hlt k (by simp)
  obtain⟨g1,g2,g3,g4⟩:=qc8 (L:=ks) (σ := σ.set k ob) (obs:=obs) h2 (fun l hl=>by simpa using hlt l (by simp[hl])) (by simpa using hle)
  simp only[List.length_set] at g1 g3 g4
  refine⟨by simp only[qau,g1,List.length_cons]; omega,fun i l hi=>?_,fun l hl hm=>?_,fun j=>?_⟩
  ·cases i with
   |zero=>
    simp at hi; subst hi
    simp only[qau]
    rw[g3 k hk h1]
    simp[hk]
   |succ i=>simp only[qau]; rw[g2 i l (by simpa using hi)]; simp
  ·simp only[qau]
   rw[g3 l hl (fun h=>hm (by simp[h])),List.getElem?_set_ne (fun e=>hm (by simp[e]))]
  ·simp only[qau]
   rw[g4 j]
   simp only[List.length_cons]
   rw[show ks.length+1+j=(ks.length+j)+1 from by omega]
   simp
theorem qeL {Γ : Ctx} (hr:Real fid Γ) {L:List Nat} {σs:S} (hn:L.Nodup) (hlt : ∀ l∈L,l < Γ.σ.length) (hren:Ren (idx L) (· ∈ L) Γ (Γ.part L σs)) (hlen : σs.length=L.length)
  {Γs':Ctx} (hr':Real fid Γs') (hst:Step (Γ.part L σs) Γs') :
  ∃ Γ':Ctx,Γ'.σ = qau Γ.σ L (Γs'.σ.map (Ob.ren (back L Γ.σ.length))) /\ Γ'.w = Γs'.w/\Real fid Γ'/\Step Γ Γ' /\ ∀ v x,Rep fid Γs' v x->Rep fid Γ' (v.ren (back L Γ.σ.length)) x:=by
 have hle:L.length <= Γs'.σ.length:=by have:=hst.ext.len; simp only[Ctx.part,hlen] at this; exact this
 obtain⟨g1,g2,g3,g4⟩:=qc8 (σ := Γ.σ) (obs := Γs'.σ.map (Ob.ren (back L Γ.σ.length))) hn hlt (by simpa using hle)
 simp only[List.length_map] at g1
 let Γ':Ctx:=⟨qau Γ.σ L (Γs'.σ.map (Ob.ren (back L Γ.σ.length))),fun l=>if l∈L then Γs'.μ (idx L l) else if l < Γ.σ.length then Γ.μ l else Γs'.μ (L.length+(l - Γ.σ.length)),Γs'.F,Γs'.w⟩
 have hback : ∀ i,i < Γs'.σ.length -> Γ'.μ (back L Γ.σ.length i) = Γs'.μ i /\ Γ'.σ[back L Γ.σ.length i]?=(Γs'.σ[i]?).map (Ob.ren (back L Γ.σ.length)):=fun i hi=>by
  unfold back
  cases hl:L[i]? with
  |some l=>
   have hm:=List.mem_of_getElem? hl
   refine⟨by simp only[Γ',hm,if_true,qcg hn hl],?_⟩
   simp only[Γ']
   rw[g2 i l hl,List.getElem?_map]
   rfl
  |none=>
   have hi':L.length<=i:=List.getElem?_eq_none_iff.1 hl
   have hnm : ¬ (Γ.σ.length+(i-L.length))∈L:=fun h=>by have:=hlt _ h; omega
   refine⟨?_,?_⟩
   ·simp only[Γ',hnm,if_false]
    rw[if_neg (by omega)]
    congr 1; omega
   ·simp only[Γ']
    rw[g4,List.getElem?_map,show L.length+(i-L.length)=i from by omega]
    rfl
 have hren':Ren (back L Γ.σ.length) (· < Γs'.σ.length) Γs' Γ':=⟨rfl,rfl,fun i hi=>(hback i hi).1,fun i ob hi ho=>by rw[(hback i hi).2,ho]; rfl⟩
 have hcase : ∀ l,l < Γ'.σ.length->(∃ i,i < Γs'.σ.length/\l=back L Γ.σ.length i)\/(l < Γ.σ.length/\l∉L):=fun l hl=>by
  by_cases hm:l∈L
  ·refine .inl ⟨idx L l,?_,?_⟩
   ·have:=(List.getElem?_eq_some_iff.1 (qcF hm)).1; omega
   ·simp only[back,qcF hm]
  ·by_cases h:l < Γ.σ.length
   ·exact .inr ⟨h,hm⟩
   ·have h2:l < Γ.σ.length+(Γs'.σ.length-L.length):=by rw[<- g1]; exact hl
    refine .inl ⟨L.length+(l - Γ.σ.length),by omega,?_⟩
    simp only[back]
    rw[List.getElem?_eq_none (by omega)]
    simp only; omega
 have hold : ∀ l,l < Γ.σ.length->l∉L -> Γ'.μ l = Γ.μ l /\ Γ'.σ[l]? = Γ.σ[l]?:=fun l hl hm=>by
  refine⟨by simp only[Γ',hm,if_false,hl,if_true],g3 l hl hm⟩
 have hpart : ∀ i b,(Γ.part L σs).μ i=some b -> ∃ l,L[i]?=some l /\ Γ.μ l=some b:=fun i b h=>by
  simp only[Ctx.part] at h
  cases hl:L[i]? with
  |none=>rw[hl] at h; cases h
  |some l=>rw[hl] at h; exact⟨l,rfl,h⟩
 have hheap : ∀ l b,l∉L -> Γ.μ l=some b -> Γs'.w.heap[b]? = Γ.w.heap[b]?:=fun l b hm hb=>by
  refine (hst.frm.same b (hr.dom l b hb).2 fun i hi=>?_).1
  obtain⟨l',hl',hm'⟩:=hpart i b hi
  have:=hr.inj l l' b hb hm'
  subst this
  exact hm (List.mem_of_getElem? hl')
 have hfree : ∀ l b,l∉L -> Γ.μ l=some b -> Γs'.F b = Γ.F b:=fun l b hm hb=>by
  refine (hst.frm.same b (hr.dom l b hb).2 fun i hi=>?_).2
  obtain⟨l',hl',hm'⟩:=hpart i b hi
  have:=hr.inj l l' b hb hm'
  subst this
  exact hm (List.mem_of_getElem? hl')
 have hext:Ext Γ Γ':=by
  refine⟨hst.ext.size,hst.ext.os,hst.ext.tape,hst.ext.output,hst.ext.mono,hst.ext.cell,hst.ext.arr,by simp only[Γ',g1]; omega,fun l ob ho ht=>?_,fun l m ho=>?_,fun l ob ho ht=>?_⟩
  ·have hl:=(List.getElem?_eq_some_iff.1 ho).1
   by_cases hm:l∈L
   ·have h1:=hren.σ l ob hm ho
    obtain⟨⟨ob',h2,h3⟩,h4⟩:=hst.ext.fix (idx L l) _ h1 (by rw[Ob.isTip_ren]; exact ht)
    have hi:=(List.getElem?_eq_some_iff.1 h2).1
    have hb:back L Γ.σ.length (idx L l)=l:=by simp only[back,qcF hm]
    obtain⟨k1,k2⟩:=hback _ hi
    rw[hb] at k1 k2
    refine⟨⟨ob'.ren (back L Γ.σ.length),by rw[k2,h2]; rfl,by rw[Ob.isTip_ren]; exact h3⟩,fun b hb'=>?_⟩
    rw[k1]
    exact h4 b (by rw[hren.μ l hm]; exact hb')
   ·obtain⟨k1,k2⟩:=hold l hl hm
    exact⟨⟨ob,by rw[k2]; exact ho,ht⟩,fun b hb=>by rw[k1]; exact hb⟩
  ·have hl:=(List.getElem?_eq_some_iff.1 ho).1
   by_cases hm:l∈L
   ·have h1:=hren.σ l _ hm ho
    obtain⟨m',h2,h3,h4,h5⟩:=hst.ext.tip (idx L l) m h1
    have hi:=(List.getElem?_eq_some_iff.1 h2).1
    have hb:back L Γ.σ.length (idx L l)=l:=by simp only[back,qcF hm]
    obtain⟨k1,k2⟩:=hback _ hi
    rw[hb] at k1 k2
    refine⟨m',by rw[k2,h2]; rfl,h3,fun hs=>?_,fun e b hb'=>?_⟩
    ·rw[k1]; exact h4 (by rw[hren.μ l hm]; exact hs)
    ·rw[k1]; exact h5 e b (by rw[hren.μ l hm]; exact hb')
   ·obtain⟨k1,k2⟩:=hold l hl hm
    exact⟨m,by rw[k2]; exact ho,Nat.le_refl _,fun hs=>by rw[k1]; exact hs,fun _ b hb=>by rw[k1]; exact hb⟩
  ·have hl:=(List.getElem?_eq_some_iff.1 ho).1
   by_cases hm:l∈L
   ·have h1:=hren.σ l ob hm ho
    obtain⟨ob',h2,h3,h4⟩:=hst.ext.row (idx L l) _ h1 (by rw[Ob.isTip_ren]; exact ht)
    have hi:=(List.getElem?_eq_some_iff.1 h2).1
    have hb:back L Γ.σ.length (idx L l)=l:=by simp only[back,qcF hm]
    obtain⟨k1,k2⟩:=hback _ hi
    rw[hb] at k1 k2
    refine⟨ob'.ren (back L Γ.σ.length),by rw[k2,h2]; rfl,by rw[Ob.isTip_ren]; exact h3,fun cs' hc=>?_⟩
    rw[Ob.rows_ren,Option.map_eq_some_iff] at hc
    obtain⟨cs1,hc,rfl⟩:=hc
    obtain⟨cs,c1,c2,c3⟩:=h4 cs1 hc
    rw[Ob.rows_ren,Option.map_eq_some_iff] at c1
    obtain⟨cs0,c1,rfl⟩:=c1
    rw[qa6] at c2 c3
    refine⟨cs0,c1,by rw[qa6]; exact c2,fun e b hb'=>?_⟩
    rw[qa6] at e
    obtain⟨e1,ef,e2⟩:=c3 e b (by rw[hren.μ l hm]; exact hb')
    rw[Ob.fz_ren] at ef
    exact⟨by rw[k1]; exact e1,by rw[Ob.fz_ren]; exact ef,e2⟩
   ·obtain⟨k1,k2⟩:=hold l hl hm
    exact⟨ob,by rw[k2]; exact ho,ht,fun cs hc=>⟨cs,hc,Nat.le_refl _,fun _ b hb=>⟨by rw[k1]; exact hb,by show Γs'.F b-_=_; rw[hfree l b hm hb],fun arr e ha=>⟨arr,by show Γs'.w.heap[b]?=_; rw[hheap l b hm hb]; exact ha,rfl⟩⟩⟩⟩
 have hsep : ∀ i l b,Γs'.μ i=some b->l < Γ.σ.length->l∉L -> Γ.μ l=some b->False:=fun i l b h1 h2 h3 h4=>by
  obtain⟨j,hj⟩:=hst.frm.new i b h1 (hr.dom l b h4).2
  obtain⟨l',hl',hm'⟩:=hpart j b hj
  have:=hr.inj l l' b h4 hm'
  subst this
  exact h3 (List.mem_of_getElem? hl')
 refine⟨Γ',rfl,rfl,⟨fun l ob b ho hm=>?_,fun l b hm=>?_,fun l l' b hm hm'=>?_,hr'.imm,hr'.glb⟩,⟨hext,⟨fun b hb hno=>?_,fun l b hm hb=>?_⟩,fun l hl hnone=>?_⟩,fun v x hx=>Rep.ren hren' v x (Rep.lt v x hx) hx⟩
 ·have hl:=(List.getElem?_eq_some_iff.1 ho).1
  rcases hcase l hl with ⟨i,hi,rfl⟩|⟨h1,h2⟩
  ·obtain⟨k1,k2⟩:=hback i hi
   rw[k1] at hm
   rw[k2] at ho
   cases hs : Γs'.σ[i]? with
   |none=>rw[hs] at ho; cases ho
   |some ob'=>
    rw[hs] at ho
    simp only[Option.map_some,Option.some.injEq] at ho
    subst ho
    have:=hr'.obs i ob' b hs hm
    exact RepOb.ren hren' ob' (RepOb.lt ob' this) this
  ·obtain⟨k1,k2⟩:=hold l h1 h2
   rw[k1] at hm
   rw[k2] at ho
   have hb:=(hr.dom l b hm).2
   obtain⟨s1,s2⟩:=hst.frm.same b hb (fun i hi=>by
    obtain⟨l',hl',hm'⟩:=hpart i b hi
    have:=hr.inj l l' b hm hm'
    subst this
    exact h2 (List.mem_of_getElem? hl'))
   exact RepOb.ext hext s1 s2 ob (hr.obs l ob b ho hm)
 ·by_cases hl:l < Γ'.σ.length
  ·rcases hcase l hl with ⟨i,hi,rfl⟩|⟨h1,h2⟩
   ·rw[(hback i hi).1] at hm
    exact⟨hl,(hr'.dom i b hm).2⟩
   ·rw[(hold l h1 h2).1] at hm
    exact⟨hl,Nat.lt_of_lt_of_le (hr.dom l b hm).2 hst.ext.size⟩
  ·exfalso
   simp only[Γ'] at hm
   have hlen' : Γ'.σ.length = Γ.σ.length+(Γs'.σ.length-L.length):=g1
   have h1 : ¬ l∈L:=fun h=>by have:=hlt l h; omega
   rw[if_neg h1,if_neg (by omega)] at hm
   have:=(hr'.dom _ b hm).1
   omega
 ·have bound : ∀ l b,Γ'.μ l=some b->(∃ i,i < Γs'.σ.length/\l=back L Γ.σ.length i /\ Γs'.μ i=some b)\/(l < Γ.σ.length/\l∉L /\ Γ.μ l=some b):=fun l b hm=>by
   by_cases hl:l < Γ'.σ.length
   ·rcases hcase l hl with ⟨i,hi,rfl⟩|⟨h1,h2⟩
    ·rw[(hback i hi).1] at hm; exact .inl ⟨i,hi,rfl,hm⟩
    ·rw[(hold l h1 h2).1] at hm; exact .inr ⟨h1,h2,hm⟩
   ·exfalso
    simp only[Γ'] at hm
    have hlen' : Γ'.σ.length = Γ.σ.length+(Γs'.σ.length-L.length):=g1
    have h1 : ¬ l∈L:=fun h=>by have:=hlt l h; omega
    rw[if_neg h1,if_neg (by omega)] at hm
    have:=(hr'.dom _ b hm).1
    omega
  rcases bound l b hm with ⟨i,hi,rfl,h1⟩|⟨h1,h2,h3⟩<;>rcases bound l' b hm' with ⟨j,hj,rfl,k1⟩|⟨k1,k2,k3⟩
  ·rw[hr'.inj i j b h1 k1]
  ·exact (hsep i l' b h1 k1 k2 k3).elim
  ·exact (hsep j l b k1 h1 h2 h3).elim
  ·exact hr.inj l l' b h3 k3
 ·exact hst.frm.same b hb (fun i hi=>by
   obtain⟨l,_,hm⟩:=hpart i b hi
   exact hno l hm)
 ·by_cases hl:l < Γ'.σ.length
  ·rcases hcase l hl with ⟨i,hi,rfl⟩|⟨h1,h2⟩
   ·rw[(hback i hi).1] at hm
    obtain⟨j,hj⟩:=hst.frm.new i b hm hb
    obtain⟨l',_,hm'⟩:=hpart j b hj
    exact⟨l',hm'⟩
   ·rw[(hold l h1 h2).1] at hm; exact⟨l,hm⟩
  ·exfalso
   simp only[Γ'] at hm
   have hlen' : Γ'.σ.length = Γ.σ.length+(Γs'.σ.length-L.length):=g1
   have h1 : ¬ l∈L:=fun h=>by have:=hlt l h; omega
   rw[if_neg h1,if_neg (by omega)] at hm
   have:=(hr'.dom _ b hm).1
   omega
 ·by_cases hm:l∈L
  ·have hi:=(List.getElem?_eq_some_iff.1 (qcF hm)).1
   have:=hst.non (idx L l) (by simp only[Ctx.part,hlen]; exact hi) (by rw[hren.μ l hm]; exact hnone)
   simp only[Γ',hm,if_true,this]
  ·rw[(hold l hl hm).1]; exact hnone
end
section
variable{P:Program}{ids:Ids}{fid:Fid}{N:Nat}
theorem qcH{Γ0 Γ1:Ctx}(h:Step Γ0 Γ1){L:List Nat}{σs:S}(hn:L.Nodup)(hlen : σs.length=L.length)(hren:Ren (idx L) (· ∈ L) Γ1 (Γ1.part L σs))(hpre : ∀ i,i < Γ0.σ.length->L[i]?=some i):Step Γ0 (Γ1.part L σs):=by
 have hμ : ∀ l,l < Γ0.σ.length->(Γ1.part L σs).μ l = Γ1.μ l:=fun l hl=>by simp only[Ctx.part,hpre l hl,Option.bind_some]
 have hσ : ∀ l ob,l < Γ0.σ.length -> Γ1.σ[l]?=some ob->(Γ1.part L σs).σ[l]?=some (ob.ren (idx L)):=fun l ob hl ho=>by
  have hm:=List.mem_of_getElem? (hpre l hl)
  have:=hren.σ l ob hm ho
  rw[qcg hn (hpre l hl)] at this
  exact this
 refine⟨⟨h.ext.size,h.ext.os,h.ext.tape,h.ext.output,h.ext.mono,h.ext.cell,h.ext.arr,?_,fun l ob ho ht=>?_,fun l m ho=>?_,fun l ob ho ht=>?_⟩,⟨h.frm.same,fun i b hi hb=>?_⟩,fun l hl hnn=>by rw[hμ l hl]; exact h.non l hl hnn⟩
 ·simp only[Ctx.part,hlen]
  rcases Nat.eq_zero_or_pos Γ0.σ.length with h0|h0
  ·omega
  ·have:=(List.getElem?_eq_some_iff.1 (hpre (Γ0.σ.length-1) (by omega))).1
   omega
 ·have hl:=(List.getElem?_eq_some_iff.1 ho).1
  obtain⟨⟨ob',h1,h2⟩,h3⟩:=h.ext.fix l ob ho ht
  exact⟨⟨_,hσ l ob' hl h1,by rw[Ob.isTip_ren]; exact h2⟩,fun b hb=>by rw[hμ l hl]; exact h3 b hb⟩
 ·have hl:=(List.getElem?_eq_some_iff.1 ho).1
  obtain⟨m',h1,h2,h3,h4⟩:=h.ext.tip l m ho
  exact⟨m',hσ l _ hl h1,h2,fun hs=>by rw[hμ l hl]; exact h3 hs,fun e b hb=>by rw[hμ l hl]; exact h4 e b hb⟩
 ·have hl:=(List.getElem?_eq_some_iff.1 ho).1
  obtain⟨ob',h1,h2,h3⟩:=h.ext.row l ob ho ht
  refine⟨_,hσ l ob' hl h1,by rw[Ob.isTip_ren]; exact h2,fun cs' hc=>?_⟩
  rw[Ob.rows_ren,Option.map_eq_some_iff] at hc
  obtain⟨cs1,hc,rfl⟩:=hc
  obtain⟨cs,c1,c2,c3⟩:=h3 cs1 hc
  rw[qa6]
  exact⟨cs,c1,c2,fun e b hb=>⟨by rw[hμ l hl]; exact (c3 e b hb).1,by rw[Ob.fz_ren]; exact (c3 e b hb).2.1,(c3 e b hb).2.2⟩⟩
 ·simp only[Ctx.part] at hi
  cases hl:L[i]? with
  |none=>rw[hl] at hi; cases hi
  |some l=>rw[hl] at hi; exact h.frm.new l b hi hb
theorem qeS(k:Nat)(ls:List Nat)(σ : S) : ∀ i,i<k->(gcL k ls σ)[i]?=some i:=fun i hi=>by
 unfold gcL
 rw[List.getElem?_append_left (by simpa using hi)]
 simp[hi]
theorem qmc {Γ0 Γ : Ctx} (hr:Real fid Γ) (hs:Step Γ0 Γ) {L:List Nat} {σs:S} (hrp:Real fid (Γ.part L σs)) (hsp:Step Γ0 (Γ.part L σs)) : ∀ ls:List Nat,(∀ l∈ls,l∉L /\ ∃ b arr e,Γ.μ l=some b /\ Γ.w.heap[b]?=some (.cells arr e (0,0))) ->
  ∃ F':Nat->Nat,Real fid ⟨σs,(Γ.part L σs).μ,F',Γ.w⟩/\Ext (Γ.part L σs) ⟨σs,(Γ.part L σs).μ,F',Γ.w⟩/\Step Γ0 ⟨σs,(Γ.part L σs).μ,F',Γ.w⟩ /\
   ∀ l∈ls,∀ b arr e,Γ.μ l=some b -> Γ.w.heap[b]?=some (.cells arr e (0,0))->arr.size<=F' b
 |[],_=>⟨Γ.F,hrp,.refl _,hsp,fun l h=>by cases h⟩
 |l::ls,h=>by
  obtain⟨F',h1,h2,h3,h4⟩:=qmc hr hs hrp hsp ls fun l' hl'=>h l' (List.mem_cons_of_mem _ hl')
  obtain⟨hL,b,arr,e,hm,ha⟩:=h l (by simp)
  have hno : ∀ i,(Γ.part L σs).μ i≠some b:=fun i hi=>by
   simp only[Ctx.part] at hi
   cases hl':L[i]? with
   |none=>rw[hl'] at hi; cases hi
   |some l'=>
    rw[hl'] at hi
    have:=hr.inj _ _ _ hi hm
    subst this
    exact hL (List.mem_of_getElem? hl')
  have hF:F' b<=arr.size:=by
   rcases Nat.eq_zero_or_pos (F' b) with h0|h0
   ·omega
   ·obtain⟨arr',e',fz,g1,g2⟩:=h1.imm b h0
    simp only at g1
    rw[ha] at g1; cases g1
    exact g2
  obtain⟨k1,k2,k3⟩:=qnp h1 (b:=b) (n:=arr.size) hF hno ha (Nat.le_refl _)
  refine⟨_,k1,h2.trans k2,k3 Γ0 h3 fun hb=>hs.frm.new l b hm hb,fun l' hl' b' arr' e' hm' ha'=>?_⟩
  simp only[grow]
  split
  ·rename_i eq
   subst eq
   rw[ha] at ha'; cases ha'; exact Nat.le_refl _
  ·rename_i hne
   rcases List.mem_cons.1 hl' with rfl|hl'
   ·rw[hm] at hm'; cases hm'; exact absurd rfl hne
   ·exact h4 l' hl' b' arr' e' hm' ha'
section
variable{Γ : Ctx}
theorem qfA(hr:Real fid Γ){k:Nat}{v:V}{x:Value}(h:Rep fid Γ v x) : ∀ l∈(outV k Γ.σ v).2,∃ b arr e,Γ.μ l=some b /\ Γ.w.heap[b]?=some (.cells arr e (0,0)):=by
 intro l hl
 unfold outV at hl
 split at hl
 ·rename_i l0 n sz
  simp only[Rep] at h
  obtain⟨ad,cap,hs,g2,g0,g3,g4⟩:=h
  split at hl
  ·split at hl
   ·rename_i cs hcs
    split at hl
    ·rename_i hlen
     split at hl
     ·simp only[List.mem_singleton] at hl; subst hl
      obtain⟨b,arr,e',q1,rfl,q2,q3⟩:=(g4 _ _ hcs rfl).2 hlen
      exact⟨b,arr,e',q1,q2⟩
     ·cases hl
    ·cases hl
   ·split at hl<;>cases hl
   ·cases hl
  ·cases hl
 ·rename_i l0 o n cap sz
  simp only[Rep] at h
  obtain⟨b,hm,hx,_⟩:=h
  split at hl
  ·split at hl
   ·rename_i cs hcs
    split at hl
    ·split at hl
     ·simp only[List.mem_singleton] at hl; subst hl
      obtain⟨_,arr,e,g2,_⟩:=hr.obs l _ b hcs hm
      exact⟨b,arr,e,hm,g2⟩
     ·cases hl
    ·cases hl
   ·cases hl
  ·cases hl
 ·cases hl
 ·cases hl
theorem qkp (hr:Real fid Γ) {k:Nat} {v:V} {x:Value} (h:Rep fid Γ v x) {r:Nat->Nat} {L:Nat->Prop} {Γp Γq:Ctx} (hren:Ren r L Γ Γp) (hpq:Ext Γp Γq) (hw : Γq.w = Γ.w) (hL : ∀ l∈((outV k Γ.σ v).1).locs,L l)
  (hF : ∀ l∈(outV k Γ.σ v).2,∀ b arr e,Γ.μ l=some b -> Γ.w.heap[b]?=some (.cells arr e (0,0))->arr.size <= Γq.F b):Rep fid Γq (((outV k Γ.σ v).1).ren r) x:=by
 have same : ∀ u:V,(∀ l∈u.locs,L l)->Rep fid Γ u x->Rep fid Γq (u.ren r) x:=fun u hl hu=>Rep.ext hpq _ _ (Rep.ren hren u x hl hu)
 have hDD : ∀ {ds:List D} {vs:List Value},RepDs Γ.F Γ.w ds vs->RepDs Γq.F Γq.w ds vs:=fun hd=>by
  have:=RepDs.ext hpq _ _ (by rw[hren.F,hren.w]; exact hd)
  exact this
 unfold outV at hL hF ⊢
 split
 ·rename_i l0 n sz
  split
  ·rename_i hk
   split
   ·rename_i cs hcs
    split
    ·rename_i hlen
     split
     ·rename_i ds hds
      simp only[hk,if_true,hcs,hlen,hds] at hF
      have hcd:=qcs hds
      simp only[Rep] at h
      obtain⟨ad,cap,hs,g2,g0,g3,g4⟩:=h
      obtain⟨b,arr,e',q1,rfl,q2,q3⟩:=(g4 _ _ hcs rfl).2 hlen
      obtain⟨olds,arr',e2,k1,k2,k3,k4,k5,k7⟩:=qcr hr hcs q1
      rw[q2] at k1; cases k1
      have hD:RepDs Γ.F Γ.w ds olds:=by rw[hcd] at k4; exact Reps_dat.1 k4
      simp only[V.ren,Rep,RepD]
      refine⟨b,_,cap,olds,hs,g2,by simp,hDD hD,fun j v hj=>?_,fun _=>?_,k5⟩
      ·rw[hw]; exact k7 j v hj
      ·have:=hF l0 (by simp) b arr e' q1 q2
       have hl:=hD.length
       have:ds.length=cs.length:=by rw[hcd]; simp
       simp only[Ob.fz]
       omega
     ·simp only[hk,if_true,hcs,hlen] at hL
      rename_i hno
      simp only[hno] at hL
      exact same _ hL h
    ·rename_i hlen
     simp only[hk,if_true,hcs,hlen,if_false] at hL
     exact same _ hL h
   ·rename_i ds hds
    split
    ·rename_i hlen
     simp only[Rep] at h
     obtain⟨ad,cap,hs,g2,g0,g3,g4⟩:=h
     obtain⟨b,arr,e',q1,rfl,q2,q3⟩:=(g4 _ _ hds rfl).2 (by simpa using hlen)
     obtain⟨vs,k1,k2⟩:=qfu hr hds q1
     have hgo:Rep fid Γ (.dat (.sl ds n false)) x:=by
      simp only[Rep,RepD]
      exact⟨b,_,cap,vs,hs,g2,by simp,k1,k2⟩
     exact same _ (by simp[V.locs]) hgo
    ·rename_i hlen
     simp only[hk,if_true,hds,hlen,if_false] at hL
     exact same _ hL h
   ·rename_i hne1 hne2
    have:((match Γ.σ[l0]? with
  |some (.vec cs)=>if cs.length=n*sz then (match qbf cs with
   |some ds=>((V.dat (.sl ds n false)),[l0])
   |none=>(.own l0 n sz,[])) else (.own l0 n sz,[])
  |some (.froz ds)=>if ds.length=n*sz then (.dat (.sl ds n false),[]) else (.own l0 n sz,[])
  | _=>(.own l0 n sz,[])).1:V) = .own l0 n sz:=by
     split
     ·rename_i h'; exact absurd h' (hne1 _)
     ·rename_i h'; exact absurd h' (hne2 _)
     ·rfl
    simp only[hk,if_true,this] at hL
    exact same _ hL h
  ·rename_i hk
   simp only[hk,if_false] at hL
   exact same _ hL h
 ·rename_i l0 o n cap sz
  split
  ·rename_i hk
   split
   ·rename_i cs hcs
    split
    ·rename_i ds hds
     split
     ·rename_i hcond
      simp only[hk,if_true,hcs,hds,hcond,and_self] at hF
      have hcd:=qcs hds
      simp only[Rep] at h
      obtain⟨b,hm,hs,g2,g3⟩:=h
      obtain⟨_,arr,e,k1,k2⟩:=hr.obs l0 _ b hcs hm
      have hD:RepDs Γ.F Γ.w ds arr.toList:=by rw[hcd] at k2; exact Reps_dat.1 k2
      have hal:arr.size=ds.length:=by have:=hD.length; simpa using this
      simp only[V.ren,Rep,RepD]
      refine⟨b,o,cap,(arr.toList.drop o).take (n*sz),hs,g2,by simp,hDD (qd0 (qdZ hD o) _),fun j v hj=>?_,fun _=>?_,fun v hv=>?_⟩
      ·rw[hw]
       simp only[World.cell?,k1]
       rw[List.getElem?_take] at hj
       split at hj
       ·rw[List.getElem?_drop] at hj
        simpa using hj
       ·cases hj
      ·have:=hF l0 (by simp) b arr e hm k1
       simp only[List.length_take,List.length_drop,Array.length_toList]
       omega
      ·have hv':v∈arr.toList:=List.mem_of_mem_drop (List.mem_of_mem_take hv)
       refine qbx (fid:=fid) (Γ := Γ) (vs:=ds.map .dat) (by rw[<- hcd]; exact k2) ?_ v hv'
       rw[List.all_eq_true]
       intro u hu
       obtain⟨d,hd,rfl⟩:=List.mem_map.1 hu
       exact List.all_eq_true.1 hcond.2 d hd
     ·rename_i hcond
      simp only[hk,if_true,hcs,hds,hcond,if_false] at hL
      exact same _ hL h
    ·rename_i hds
     simp only[hk,if_true,hcs,hds] at hL
     exact same _ hL h
   ·rename_i hne
    have:((match Γ.σ[l0]? with
  |some (.cells cs)=>match qbf cs with
   |some ds=>if o+n*sz<=ds.length/\(ds.all fun d=>V.one (.dat d))=true then ((V.dat (.sl ((ds.drop o).take (n*sz)) n false)),[l0]) else (.msl l0 o n cap sz,[])
   |none=>(.msl l0 o n cap sz,[])
  | _=>(.msl l0 o n cap sz,[])).1:V) = .msl l0 o n cap sz:=by
     split
     ·rename_i h'; exact absurd h' (hne _)
     ·rfl
    simp only[hk,if_true,this] at hL
    exact same _ hL h
  ·rename_i hk
   simp only[hk,if_false] at hL
   exact same _ hL h
 ·refine same _ (by simp[V.locs]) ?_
  simp only[Rep,RepD] at h ⊢
  obtain⟨b,cap,vs,m,h1,h2,h3,h4,_⟩:=h
  exact⟨b,0,cap,vs,h1,h2,by simp,h3,h4⟩
 ·rename_i h1 h2 h3
  exact same _ (by simpa using hL) h
theorem qfB(hr:Real fid Γ){k:Nat} : ∀ {vs:List V} {xs:List Value},Reps fid Γ vs xs -> ∀ l∈(qkG k Γ.σ vs).2,∃ b arr e,Γ.μ l=some b /\ Γ.w.heap[b]?=some (.cells arr e (0,0))
 |[],xs,h,l,hl=>by simp[qkG] at hl
 |v::vs,xs,h,l,hl=>by
  simp only[Reps] at h
  obtain⟨y,ys,rfl,h1,h2⟩:=h
  simp only[qkG,List.mem_append] at hl
  rcases hl with hl|hl
  ·exact qfA hr h1 l hl
  ·exact qfB hr h2 l hl
theorem qjD(hr:Real fid Γ){k:Nat}{v:V}{x:Value}(h:Rep fid Γ v x) : ∀ l∈(qnR k Γ.σ v).2,∃ b arr e,Γ.μ l=some b /\ Γ.w.heap[b]?=some (.cells arr e (0,0)):=by
 unfold qnR
 split
 ·simp only[Rep] at h
  obtain⟨vs,rfl,h⟩:=h
  exact qfB hr h
 ·exact qfA hr h
theorem qe7(hr:Real fid Γ){k:Nat} : ∀ {vs:List V} {xs:List Value},Reps fid Γ vs xs -> ∀ l∈(qcl k Γ.σ vs).2,∃ b arr e,Γ.μ l=some b /\ Γ.w.heap[b]?=some (.cells arr e (0,0))
 |[],xs,h,l,hl=>by simp[qcl] at hl
 |v::vs,xs,h,l,hl=>by
  simp only[Reps] at h
  obtain⟨y,ys,rfl,h1,h2⟩:=h
  simp only[qcl,List.mem_append] at hl
  rcases hl with hl|hl
  ·exact qjD hr h1 l hl
  ·exact qe7 hr h2 l hl
section
variable{r:Nat->Nat}{L:Nat->Prop}{Γp Γq:Ctx}(hr:Real fid Γ)(hren:Ren r L Γ Γp)(hpq:Ext Γp Γq)(hw : Γq.w = Γ.w)
include hr hren hpq hw
theorem qkq {k:Nat} : ∀ {vs:List V} {xs:List Value},Reps fid Γ vs xs->(∀ l∈qav (qkG k Γ.σ vs).1,L l) ->
  (∀ l∈(qkG k Γ.σ vs).2,∀ b arr e,Γ.μ l=some b -> Γ.w.heap[b]?=some (.cells arr e (0,0))->arr.size <= Γq.F b)->Reps fid Γq (qcw r (qkG k Γ.σ vs).1) xs
 |[],xs,h,_,_=>by simpa only [qkG,qcw,Reps] using h
 |v::vs,xs,h,hL,hF=>by
  simp only[Reps] at h
  obtain⟨y,ys,rfl,h1,h2⟩:=h
  simp only[qkG,qav,List.mem_append] at hL hF
  simp only[qkG,qcw,Reps]
  exact⟨_,_,rfl,qkp hr h1 hren hpq hw (fun l hl=>hL l (.inl hl)) (fun l hl=>hF l (.inl hl)),qkq h2 (fun l hl=>hL l (.inr hl)) (fun l hl=>hF l (.inr hl))⟩
theorem qnW {k:Nat} {v:V} {x:Value} (h:Rep fid Γ v x) (hL : ∀ l∈((qnR k Γ.σ v).1).locs,L l)
  (hF : ∀ l∈(qnR k Γ.σ v).2,∀ b arr e,Γ.μ l=some b -> Γ.w.heap[b]?=some (.cells arr e (0,0))->arr.size <= Γq.F b):Rep fid Γq (((qnR k Γ.σ v).1).ren r) x:=by
 have agg : ∀ us:List V,(qd9 us).ren r=qd9 (qcw r us)/\(qd9 us).locs=qav us:=fun us=>by
  unfold qd9
  cases hd:qbf us with
  |some ds=>
   have:=qcs hd
   subst this
   have e : ∀ ds:List D,qbf (ds.map .dat)=some ds:=fun ds=>by induction ds with
    |nil=>rfl
    |cons d ds ih=>simp[qbf,ih]
   have e2 : ∀ ds:List D,qav (ds.map .dat)=[]:=fun ds=>by induction ds with
    |nil=>rfl
    |cons d ds ih=>simp[qav,V.locs,ih]
   rw[qhZ,e,e2]
   simp[V.ren,V.locs]
  |none=>
   have:qbf (qcw r us)=none:=by
    revert hd
    induction us with
    |nil=>simp[qbf]
    |cons u us ih=>
     intro hd
     cases u<;>simp only[qcw,V.ren,qbf] at hd ⊢
     split at hd
     ·cases hd
     ·rename_i hn; rw[ih hn]
   rw[this]
   simp[V.ren,V.locs]
 cases v with
 |agg cs=>
  simp only[qnR] at hL hF ⊢
  simp only[Rep] at h
  obtain⟨vs,rfl,h⟩:=h
  simp only[(agg _).2] at hL
  rw[(agg _).1]
  exact qc0 (qkq hr hren hpq hw h hL hF)
 |_=>
  simp only[qnR] at hL hF ⊢
  exact qkp hr h hren hpq hw hL hF
theorem qil {k:Nat} : ∀ {vs:List V} {xs:List Value},Reps fid Γ vs xs->(∀ l∈qav (qcl k Γ.σ vs).1,L l) ->
  (∀ l∈(qcl k Γ.σ vs).2,∀ b arr e,Γ.μ l=some b -> Γ.w.heap[b]?=some (.cells arr e (0,0))->arr.size <= Γq.F b)->Reps fid Γq (qcw r (qcl k Γ.σ vs).1) xs
 |[],xs,h,_,_=>by simpa only [qcl,qcw,Reps] using h
 |v::vs,xs,h,hL,hF=>by
  simp only[Reps] at h
  obtain⟨y,ys,rfl,h1,h2⟩:=h
  simp only[qcl,qav,List.mem_append] at hL hF
  simp only[qcl,qcw,Reps]
  exact⟨_,_,rfl,qnW hr hren hpq hw h1 (fun l hl=>hL l (.inl hl)) (fun l hl=>hF l (.inl hl)),qil h2 (fun l hl=>hL l (.inr hl)) (fun l hl=>hF l (.inr hl))⟩
end
end
theorem qmd {Γ0 Γ : Ctx} (hr:Real fid Γ) (hs:Step Γ0 Γ) {k:Nat} {vs0 vs':List V} {ys:List Value} {L:List Nat} {σs:S} (hx:Reps fid Γ vs0 ys) (hres:qaF L (qcl k Γ.σ vs0).1 Γ.σ = some (vs',σs))
  (hno : ∀ l∈(qcl k Γ.σ vs0).2,l∉L) (hpre : ∀ i,i < Γ0.σ.length->L[i]?=some i) : ∃ Γ':Ctx,Γ'.σ = σs /\ Γ'.w = Γ.w/\Real fid Γ'/\Step Γ0 Γ'/\Reps fid Γ' vs' ys:=by
 obtain⟨t1,t2,t3,t4,t5,t6⟩:=qaI hr hres
 have hsp:=qcH hs t1 t2 t4 hpre
 obtain⟨F',a1,a2,a3,a4⟩:=qmc hr hs t5 hsp (qcl k Γ.σ vs0).2 fun l hl=>⟨hno l hl,qe7 hr hx l hl⟩
 refine⟨⟨σs,(Γ.part L σs).μ,F',Γ.w⟩,rfl,rfl,a1,a3,?_⟩
 have hv:vs'=qcw (idx L) (qcl k Γ.σ vs0).1 /\ ∀ l∈qav (qcl k Γ.σ vs0).1,l∈L:=by
  unfold qaF at hres
  split at hres
  ·split at hres
   ·rename_i hc
    cases hres
    simp only[Bool.and_eq_true] at hc
    exact⟨rfl,qdF hc.2.1⟩
   ·cases hres
  ·cases hres
 rw[hv.1]
 exact qil hr t4 a2 rfl hx hv.2 a4
end
section
variable{P:Program}{ids:Ids}{fid:Fid}{N:Nat}
abbrev FR(ro:Option Nat):Fence:={ Fence.wide with round:=ro }
def qe8(P:Program)(f:FuncId):Prop := ∃ fn,P.funcs[f]?=some fn/\(fn.name == "runtime.NumGoroutine")=false/\fn.body.isSome=true
def qtu(fid:Fid)(Γ':Ctx)(v:V)(e:Ending):Prop:=
 (∃ x,e = .returned x/\Rep fid Γ' v x) \/ ∃ u x,v = .pan u/\e = .panicked [{ v:=x,recovered:=false }]/\Rep fid Γ' u x
def qjK(P:Program)(fid:Fid)(f:Nat)(args:List V)(σ : S)(v:V)(σ':S):Prop:=
 qe8 P (fid f) /\ ∀ (Γ : Ctx) (xs:List Value),Γ.σ = σ -> Real fid Γ -> Reps fid Γ args xs ->
  CallsIn Fence.wide 0 P (fid f) xs.toArray Γ.w fun e w' => ∃ Γ',Γ'.w=w' /\ Γ'.σ = σ'/\Real fid Γ'/\Step Γ Γ'/\qtu fid Γ' v e
def qrt(P:Program)(fid:Fid)(f:Nat)(args:List V)(σ : S)(σ':S):Prop:=
 qe8 P (fid f) /\ ∀ (Γ : Ctx) (pv:V) (as:List V) (px:Value) (ys:List Value) (u:FrameMode),args=pv::as -> Γ.σ = σ -> Real fid Γ -> Rep fid Γ pv px->Reps fid Γ as ys ->
  (pv.isNilIf=true->u = .returning)->(pv.isNilIf=false->u = .panicking [{ v:=px,recovered:=false }]) ->
  CallsDIn Fence.wide 0 P (fid f) ys.toArray u Γ.w fun e u' w' => ∃ Γ' y,e = .returned y /\ Γ'.w=w' /\ Γ'.σ = σ'/\Real fid Γ'/\Step Γ Γ'/\settle u' = .returning
def qhH(P:Program)(fid:Fid)(args:List V)(σ : S)(v:V)(σ':S):Prop:=
 ∀ (Γ : Ctx) (xs:List Value),Γ.σ = σ -> Real fid Γ -> Reps fid Γ args xs -> ∃ l b ys fn tmps as bd,args.head?=some (.yld l)/\xs = .func (.yield b) #[] #[]::ys /\
  (Instr.yield b ys.toArray).run P Γ.w = .ok (.round b fn tmps as bd) Γ.w /\
  RoundIn Fence.wide 0 P b fn tmps as bd Γ.w fun e w' => ∃ Γ' x,e = .returned x /\ Γ'.w=w' /\ Γ'.σ = σ'/\Real fid Γ'/\Step Γ Γ'/\Rep fid Γ' v x
structure CSound(P:Program)(fid:Fid)(C:Task->Option Res):Prop where
 call : ∀ f args σ v σ',C (.call f args σ)=some (.ret v σ')->qjK P fid f args σ v σ'
 dcall : ∀ f args σ v σ',C (.dcall f args σ)=some (.ret v σ')->qrt P fid f args σ σ'
 round : ∀ args σ v σ',C (.round args σ)=some (.ret v σ')->qhH P fid args σ v σ'
theorem qek{Γ : Ctx}{a b:List V}{xs ys:List Value}(ha:Reps fid Γ a xs)(hb:Reps fid Γ b ys):Reps fid Γ (a++b) (xs++ys):=Reps_append.2 ⟨_,_,rfl,ha,hb⟩
theorem qtv{Γ : Ctx}{v:V}{x:Value}(h:Rep fid Γ v x):Rep fid Γ v.sealT x:=by
 unfold V.sealT
 split
 ·simp only[Rep] at h
  obtain⟨vs,rfl,h⟩:=h
  exact qc0 (qnC h)
 ·exact quY h
theorem qmp{Γ : Ctx} : ∀ {vs:List V} {xs:List Value},Reps fid Γ vs xs->Reps fid Γ (qgd vs) xs
 |[],xs,h=>by simpa only [qgd,Reps] using h
 |v::vs,xs,h=>by
  simp only[qgd,Reps] at h ⊢
  obtain⟨y,ys,h1,h2,h3⟩:=h
  exact⟨y,ys,h1,qtv h2,qmp h3⟩
theorem qgC {t e:TypeId} {i:TypeInfo} {name:String} {m:Method} {f:FuncId} (hi:P.info? t=some i) (hm:i.methods.find? (·.name==name)=some m) (hp:m.path = #[]) (hf:m.func=some (f,true)) (hu:P.underlying t=some (.pointer e)) (n:Nat) (v:Value) (w:World) :
  (method (n+1) t v name).run P w = .ok (f,v) w:=by
 unfold method
 simp only[Sem.run_bind,qaO hi,Result.andThen_ok,hm,hp,follow,Sem.run_pure,hf,receiverAt,qak hu,Place.get]
theorem run_callMethod_ptr {t e:TypeId} {i:TypeInfo} {name:String} {m:Method} {f:FuncId} (hi:P.info? t=some i) (hm:i.methods.find? (·.name==name)=some m) (hp:m.path = #[]) (hf:m.func=some (f,true)) (hu:P.underlying t=some (.pointer e)) (v:Value) (args:Array Value) (w:World) :
  (callMethod (.iface t v) name args).run P w=(callFunc f (#[v]++args)).run P w:=by
 unfold callMethod
 simp only[Sem.run_bind,run_program,Result.andThen_ok,qgC hi hm hp hf hu _ v w,Made.depth]
theorem qel{t:TypeId}{name:String}{f:FuncId}(h:methT P t name=some f)(v:Value)(args:Array Value)(w:World):(callMethod (.iface t v) name args).run P w=(callFunc f (#[v]++args)).run P w:=by
 unfold methT at h
 split at h
 ·rename_i i e hi hu
  split at h
  ·rename_i m hm
   split at h
   ·rename_i hp
    split at h
    ·rename_i f' hf
     cases h
     exact run_callMethod_ptr hi hm (Array.isEmpty_iff.1 hp) hf hu v args w
    ·cases h
   ·cases h
  ·cases h
 ·cases h
theorem qbh(hid:Ties P ids fid){name:String}{t g:Nat} : ∀ {ts:List Nat},(qii P ids name ts).lookup t=some g -> ∃ f,methT P (fid.ty t) name=some f/\ids f=some g
 |[],h=>by simp[qii] at h
 |s::r,h=>by
  simp only[qii] at h
  split at h
  ·rename_i u hu
   split at h
   ·rename_i f hf
    split at h
    ·rename_i g' hg
     rw[List.lookup_cons] at h
     split at h
     ·rename_i he
      cases h
      rw[beq_iff_eq.1 he,hid.ty _ _ hu]
      exact⟨f,hf,hg⟩
     ·exact qbh hid h
    ·exact qbh hid h
   ·exact qbh hid h
  ·exact qbh hid h
theorem qgN{Γ : Ctx}(hr:Real fid Γ)(f:Nat){vs:List V}{xs:List Value}(h:Reps fid Γ vs xs) : ∃ Γ':Ctx,Γ'.σ = (qb3 f vs Γ.σ).2 /\ Γ'.w = Γ.w/\Real fid Γ'/\Step Γ Γ'/\Reps fid Γ' (qb3 f vs Γ.σ).1 xs:=by
 unfold qb3
 split
 ·exact qgv hr h
 ·exact⟨Γ,rfl,rfl,hr,.refl _,h⟩
theorem qe9 {C:Task->Option Res} (hC:CSound P fid C) {Γ : Ctx} (hr:Real fid Γ) {f:Nat} {args:List V} {xs:List Value} {v:V} {σ':S} (ha:Reps fid Γ args xs) (h:qaW C (.call f) args Γ.σ = some (v,σ')) :
  qe8 P (fid f)/\CallsIn Fence.wide 0 P (fid f) xs.toArray Γ.w fun e w' => ∃ Γ' x,e = .returned x /\ Γ'.w=w' /\ Γ'.σ = σ'/\Real fid Γ'/\Step Γ Γ'/\Rep fid Γ' v x:=by
 unfold qaW at h
 simp only at h
 generalize reach Γ.σ 100000 (qav args) []=L at h
 split at h
 ·rename_i args' σs hres
  split at h
  ·cases h
  ·rename_i v' σs' hnp hcall
   cases h
   obtain⟨h1,h2,h3,h4,h5,h6⟩:=qaI hr hres
   obtain⟨he,hs⟩:=hC.call _ _ _ _ _ hcall
   refine⟨he,(hs (Γ.part L σs) xs rfl h5 (h6 xs ha)).mono ?_⟩
   rintro e w' ⟨Γs',hw,hσ,hr',hst,hx⟩
   obtain⟨Γ',k1,k2,k3,k4,k5⟩:=qeL hr h1 h3 h4 h2 hr' hst
   rcases hx with ⟨x,he,hx⟩|⟨u,x,rfl,_⟩
   ·exact⟨Γ',x,he,k2.trans hw,by rw[k1,hσ],k3,k4,k5 _ _ hx⟩
   ·exact (hnp _ rfl).elim
  ·cases h
 ·cases h
theorem qhI {C:Task->Option Res} (hC:CSound P fid C) {Γ : Ctx} (hr:Real fid Γ) {f:Nat} {args:List V} {xs:List Value} {v:V} {σ':S} (ha:Reps fid Γ args xs) (h:qba C (.call f) args Γ.σ = some (v,σ')) :
  qe8 P (fid f)/\CallsIn Fence.wide 0 P (fid f) xs.toArray Γ.w fun e w' => ∃ Γ' x,e = .panicked [{ v:=x,recovered:=false }] /\ Γ'.w=w' /\ Γ'.σ = σ'/\Real fid Γ'/\Step Γ Γ'/\Rep fid Γ' v x:=by
 unfold qba at h
 simp only at h
 generalize reach Γ.σ 100000 (qav args) []=L at h
 split at h
 ·rename_i args' σs hres
  split at h
  ·rename_i v' σs' hcall
   cases h
   obtain⟨h1,h2,h3,h4,h5,h6⟩:=qaI hr hres
   obtain⟨he,hs⟩:=hC.call _ _ _ _ _ hcall
   refine⟨he,(hs (Γ.part L σs) xs rfl h5 (h6 xs ha)).mono ?_⟩
   rintro e w' ⟨Γs',hw,hσ,hr',hst,hx⟩
   obtain⟨Γ',k1,k2,k3,k4,k5⟩:=qeL hr h1 h3 h4 h2 hr' hst
   rcases hx with ⟨x,_,hx⟩|⟨u,x,e1,e2,hx⟩
   ·simp only[Rep] at hx
   ·cases e1
    exact⟨Γ',x,e2,k2.trans hw,by rw[k1,hσ],k3,k4,k5 _ _ hx⟩
  ·cases h
 ·cases h
theorem qfN(r:Nat->Nat)(v:V):(v.ren r).isNilIf=v.isNilIf:=by cases v<;>rfl
theorem qem {C:Task->Option Res} (hC:CSound P fid C) {Γ : Ctx} (hr:Real fid Γ) {f:Nat} {pv:V} {as:List V} {px:Value} {ys:List Value} {v:V} {σ':S} {u:FrameMode} (hp:Rep fid Γ pv px) (ha:Reps fid Γ as ys)
  (hu:pv.isNilIf=true->u = .returning) (hu':pv.isNilIf=false->u = .panicking [{ v:=px,recovered:=false }]) (h:qaW C (.dcall f) (pv::as) Γ.σ = some (v,σ')) :
  qe8 P (fid f)/\CallsDIn Fence.wide 0 P (fid f) ys.toArray u Γ.w fun e u' w' => ∃ Γ' y,e = .returned y /\ Γ'.w=w' /\ Γ'.σ = σ'/\Real fid Γ'/\Step Γ Γ'/\settle u' = .returning:=by
 unfold qaW at h
 simp only at h
 generalize reach Γ.σ 100000 (qav (pv::as)) []=L at h
 split at h
 ·rename_i args' σs hres
  split at h
  ·cases h
  ·rename_i v' σs' hnp hcall
   cases h
   obtain⟨h1,h2,h3,h4,h5,h6⟩:=qaI hr hres
   obtain⟨he,hs⟩:=hC.dcall _ _ _ _ _ hcall
   have hargs:args'=pv.ren (idx L)::qcw (idx L) as:=by
    unfold qaF at hres
    split at hres
    ·split at hres
     ·cases hres; rfl
     ·cases hres
    ·cases hres
   have h7:=h6 (px::ys) ⟨_,_,rfl,hp,ha⟩
   rw[hargs] at h7
   simp only[Reps] at h7
   obtain⟨x,xs,e,q1,q2⟩:=h7
   cases e
   refine⟨he,CallsDIn.mono (hs (Γ.part L σs) _ _ px ys u hargs rfl h5 q1 q2 (by rw[qfN]; exact hu) (by rw[qfN]; exact hu')) ?_⟩
   rintro e u' w' ⟨Γs',y,he,hw,hσ,hr',hst,hx⟩
   obtain⟨Γ',k1,k2,k3,k4,k5⟩:=qeL hr h1 h3 h4 h2 hr' hst
   exact⟨Γ',y,he,k2.trans hw,by rw[k1,hσ],k3,k4,hx⟩
  ·cases h
 ·cases h
theorem qcd {C:Task->Option Res} (hC:CSound P fid C) {Γ : Ctx} (hr:Real fid Γ) {f:Nat} {pre args post:List V} {xs ys zs:List Value} {v:V} {σ':S} (hp:Reps fid Γ pre xs) (ha:Reps fid Γ args ys) (hq:Reps fid Γ post zs)
  (h:qaW C (.call f) (pre++(qb3 f args Γ.σ).1++post) (qb3 f args Γ.σ).2=some (v,σ')) :
  qe8 P (fid f)/\CallsIn Fence.wide 0 P (fid f) (xs++ys++zs).toArray Γ.w fun e w' => ∃ Γ' x,e = .returned x /\ Γ'.w=w' /\ Γ'.σ = σ'/\Real fid Γ'/\Step Γ Γ'/\Rep fid Γ' v x:=by
 obtain⟨Γ1,a1,a2,a3,a4,a5⟩:=qgN hr f ha
 rw[<- a1] at h
 obtain⟨k1,k2⟩:=qe9 hC a3 (qek (qek (Reps.ext a4.ext _ _ hp) a5) (Reps.ext a4.ext _ _ hq)) h
 rw[a2] at k2
 refine⟨k1,k2.mono ?_⟩
 rintro e w' ⟨Γ',x,h1,h2,h3,h4,h5,h6⟩
 exact⟨Γ',x,h1,h2,h3,h4,a4.trans h5,h6⟩
theorem qbV {C:Task->Option Res} (hC:CSound P fid C) {Γ : Ctx} (hr:Real fid Γ) {f:Nat} {pre args post:List V} {xs ys zs:List Value} {v:V} {σ':S} (hp:Reps fid Γ pre xs) (ha:Reps fid Γ args ys) (hq:Reps fid Γ post zs)
  (h:qba C (.call f) (pre++(qb3 f args Γ.σ).1++post) (qb3 f args Γ.σ).2=some (v,σ')) :
  qe8 P (fid f)/\CallsIn Fence.wide 0 P (fid f) (xs++ys++zs).toArray Γ.w fun e w' => ∃ Γ' x,e = .panicked [{ v:=x,recovered:=false }] /\ Γ'.w=w' /\ Γ'.σ = σ'/\Real fid Γ'/\Step Γ Γ'/\Rep fid Γ' v x:=by
 obtain⟨Γ1,a1,a2,a3,a4,a5⟩:=qgN hr f ha
 rw[<- a1] at h
 obtain⟨k1,k2⟩:=qhI hC a3 (qek (qek (Reps.ext a4.ext _ _ hp) a5) (Reps.ext a4.ext _ _ hq)) h
 rw[a2] at k2
 refine⟨k1,k2.mono ?_⟩
 rintro e w' ⟨Γ',x,h1,h2,h3,h4,h5,h6⟩
 exact⟨Γ',x,h1,h2,h3,h4,a4.trans h5,h6⟩
theorem qhJ {C:Task->Option Res} (hC:CSound P fid C) {Γ : Ctx} (hr:Real fid Γ) {args:List V} {xs:List Value} {v:V} {σ':S} (ha:Reps fid Γ args xs) (h:qaW C .round args Γ.σ = some (v,σ')) :
  ∃ b ys fn tmps as bd,xs = .func (.yield b) #[] #[]::ys/\(Instr.yield b ys.toArray).run P Γ.w = .ok (.round b fn tmps as bd) Γ.w /\
   RoundIn Fence.wide 0 P b fn tmps as bd Γ.w fun e w' => ∃ Γ' x,e = .returned x /\ Γ'.w=w' /\ Γ'.σ = σ'/\Real fid Γ'/\Step Γ Γ'/\Rep fid Γ' v x:=by
 unfold qaW at h
 simp only at h
 generalize reach Γ.σ 100000 (qav args) []=L at h
 split at h
 ·rename_i args' σs hres
  split at h
  ·cases h
  ·rename_i v' σs' hnp hcall
   cases h
   obtain⟨h1,h2,h3,h4,h5,h6⟩:=qaI hr hres
   obtain⟨l,b,ys,fn,tmps,as,bd,_,q1,q2,q3⟩:=hC.round _ _ _ _ hcall (Γ.part L σs) xs rfl h5 (h6 xs ha)
   refine⟨b,ys,fn,tmps,as,bd,q1,q2,q3.mono ?_⟩
   rintro e w' ⟨Γs',x,he,hw,hσ,hr',hst,hx⟩
   obtain⟨Γ',k1,k2,k3,k4,k5⟩:=qeL hr h1 h3 h4 h2 hr' hst
   exact⟨Γ',x,he,k2.trans hw,by rw[k1,hσ],k3,k4,k5 _ _ hx⟩
  ·cases h
 ·cases h
theorem qaR{f:FuncId}(h:qe8 P f)(args:Array Value)(w:World):(callFunc f args).run P w = .ok (.enter f args) w:=by
 obtain⟨fn,h1,h2,h3⟩:=h
 have h3':fn.body.isNone=false:=by cases hb:fn.body<;>simp_all
 simp only[callFunc,Sem.run_bind,run_program,Result.andThen_ok,h1,h2,h3',Bool.false_eq_true,if_false,Sem.run_pure]
section
variable{Γ : Ctx}{fr:Fr}{a:Act}{o:Oper}{v:V}{σ':S}{C:Task->Option Res}{ro:Option Nat}{K:Act->World->Prop}{Q:Exit->Act->World->Prop}
theorem qaU(hid:Ties P ids fid)(hr:Real fid Γ)(hf:FrRep fid Γ N fr a.tmps){x:Option Operand}{y:Option X}{u:Option V}(hc:cOX ids N x=some y)(hv:qbJ fr y=some u):qgB fid Γ a.eval u x:=by
 cases x with
 |none=>simp only[cOX,Option.some.injEq] at hc; subst hc; simp only[qbJ,Option.some.injEq] at hv; subst hv; exact trivial
 |some x=>
  simp only[cOX,Option.map_eq_some_iff] at hc
  obtain⟨z,hz,rfl⟩:=hc
  simp only[qbJ] at hv
  split at hv
  ·rename_i u' hu'; cases hv; exact qal hid hr hf hz hu'
  ·cases hv
theorem qhK {f:FuncId} {args:Array Value} {Γ₀ : Ctx} (hd : ∀ c,o.op ≠ .defer c) (h:(execOp a.eval o).run P Γ₀.w = .ok (.enter f args) Γ₀.w)
  (hcall:CallsIn Fence.wide 0 P f args Γ₀.w fun e w' => ∃ Γ' x,e = .returned x /\ Γ'.w=w' /\ Γ'.σ = σ'/\Real fid Γ'/\Step Γ₀ Γ'/\Rep fid Γ' v x)
  (hk : ∀ Γ' x,Γ'.σ = σ'->Real fid Γ'->Step Γ₀ Γ'->Rep fid Γ' v x->K (a.put o.dst x) Γ'.w):o.wpIn (FR ro) 0 P a Γ₀.w K Q:=by
 refine⟨fun f _=>trivial,?_⟩
 rw[Oper.semAt_eq _ _ _ hd,h]
 refine⟨fun h=>by simp[Fence.wide] at h,?_⟩
 refine CallsIn.mono (F:=FR ro) hcall ?_
 rintro e w' ⟨Γ',x,rfl,rfl,h1,h2,h3,h4⟩
 exact hk Γ' x h1 h2 h3 h4
theorem qft {f:FuncId} {args:Array Value} {Γ₀ : Ctx} (hd : ∀ c,o.op ≠ .defer c) (h:(execOp a.eval o).run P Γ₀.w = .ok (.enter f args) Γ₀.w)
  (hcall:CallsIn Fence.wide 0 P f args Γ₀.w fun e w' => ∃ Γ' x,e = .panicked [{ v:=x,recovered:=false }] /\ Γ'.w=w' /\ Γ'.σ = σ'/\Real fid Γ'/\Step Γ₀ Γ'/\Rep fid Γ' v x)
  (hk : ∀ Γ' x,Γ'.σ = σ'->Real fid Γ'->Step Γ₀ Γ'->Rep fid Γ' v x->Q (.panic [{ v:=x,recovered:=false }]) a Γ'.w):o.wpIn (FR ro) 0 P a Γ₀.w K Q:=by
 refine⟨fun f _=>trivial,?_⟩
 rw[Oper.semAt_eq _ _ _ hd,h]
 refine⟨fun h=>by simp[Fence.wide] at h,?_⟩
 refine CallsIn.mono (F:=FR ro) hcall ?_
 rintro e w' ⟨Γ',x,rfl,rfl,h1,h2,h3,h4⟩
 exact hk Γ' x h1 h2 h3 h4
theorem qn5 {b:Nat} {fn:FuncId} {tmps:Array Value} {as bd:Code} {Γ₀ : Ctx} (hd : ∀ c,o.op ≠ .defer c) (h:(execOp a.eval o).run P Γ₀.w = .ok (.round b fn tmps as bd) Γ₀.w)
  (hcall:RoundIn Fence.wide 0 P b fn tmps as bd Γ₀.w fun e w' => ∃ Γ' x,e = .returned x /\ Γ'.w=w' /\ Γ'.σ = σ'/\Real fid Γ'/\Step Γ₀ Γ'/\Rep fid Γ' v x)
  (hk : ∀ Γ' x,Γ'.σ = σ'->Real fid Γ'->Step Γ₀ Γ'->Rep fid Γ' v x->K (a.put o.dst x) Γ'.w):o.wpIn (FR ro) 0 P a Γ₀.w K Q:=by
 refine⟨fun f _=>trivial,?_⟩
 rw[Oper.semAt_eq _ _ _ hd,h]
 refine⟨fun h=>by simp[Fence.wide] at h,?_⟩
 refine RoundIn.mono (F:=FR ro) hcall ?_
 rintro e w' ⟨Γ',x,rfl,rfl,h1,h2,h3,h4⟩
 exact hk Γ' x h1 h2 h3 h4
theorem qmq (hid:Ties P ids fid) (hC:CSound P fid C) {op:O} (hc:qb7 P ids N o.op=some op) (hr:Real fid Γ) (hf:FrRep fid Γ N fr a.tmps) (h:qan C fr Γ.σ op=some (v,σ'))
  (hk : ∀ Γ' x,Γ'.σ = σ'->Real fid Γ'->Step Γ Γ'->Rep fid Γ' v x->K (a.put o.dst x) Γ'.w):o.wpIn (FR ro) 0 P a Γ.w K Q:=by
 have hF : ∀ f,(FR ro).fn f:=fun _=>trivial
 cases ho:o.op with
 |move x=>
  rw[ho] at hc
  simp only[qb7,Option.map_eq_some_iff] at hc
  obtain⟨y,hy,rfl⟩:=hc
  simp only[qan] at h
  split at h
  ·rename_i u hu; cases h
   exact (quS hr (.inl ho) (qal hid hr hf hy hu)).wp hF (by simp[ho]) hk
  ·cases h
 |assign x=>
  rw[ho] at hc
  simp only[qb7,Option.map_eq_some_iff] at hc
  obtain⟨y,hy,rfl⟩:=hc
  simp only[qan] at h
  split at h
  ·rename_i u hu; cases h
   exact (quS hr (.inr ho) (qal hid hr hf hy hu)).wp hF (by simp[ho]) hk
  ·cases h
 |pick c x y=>
  rw[ho] at hc
  simp only[qb7] at hc
  split at hc
  ·rename_i c' x' y' h1 h2 h3
   cases hc
   simp only[qan] at h
   split at h
   ·rename_i hcv
    split at h
    ·rename_i u hu; cases h
     have:=qpI (P:=P) (o:=o) (u:=v) (u':=v) hr ho (qal hid hr hf h1 hcv) (fun _=>qal hid hr hf h2 hu) (fun h=>by cases h)
     exact (by simpa using this:Comes P fid Γ a.eval o v Γ.σ).wp hF (by simp[ho]) hk
    ·cases h
   ·rename_i hcv
    split at h
    ·rename_i u hu; cases h
     have:=qpI (P:=P) (o:=o) (u:=v) (u':=v) hr ho (qal hid hr hf h1 hcv) (fun h=>by cases h) (fun _=>qal hid hr hf h3 hu)
     exact (by simpa using this:Comes P fid Γ a.eval o v Γ.σ).wp hF (by simp[ho]) hk
    ·cases h
   ·cases h
  ·cases hc
 |alloc t=>
  rw[ho] at hc
  simp only[qb7,Option.map_eq_some_iff] at hc
  obtain⟨z,hz,rfl⟩:=hc
  simp only[qan,Option.some.injEq,Prod.mk.injEq] at h
  obtain⟨rfl,rfl⟩:=h
  exact (qpV hr ho hz).wp hF (by simp[ho]) hk
 |makeInterface t x=>
  rw[ho] at hc
  simp only[qb7] at hc
  split at hc
  ·cases hc
  ·rename_i d hne ht
   split at hc
   ·rename_i k hk'
    simp only[Option.map_eq_some_iff] at hc
    obtain⟨x',h1,rfl⟩:=hc
    simp only[qan] at h
    split at h
    ·rename_i u hu; cases h
     exact (quV hr (hid.ty _ _ hk') ho ht (fun ms e=>hne ms e) (qal hid hr hf h1 hu)).wp hF (by simp[ho]) hk
    ·cases h
   ·cases hc
  ·cases hc
 |makeSlice t x y=>
  rw[ho] at hc
  simp only[qb7] at hc
  split at hc
  ·rename_i e x' y' ht h1 h2
   split at hc
   ·rename_i n z b hn hz hb
    split at hc
    ·rename_i hcond
     cases hc
     simp only[qan] at h
     split at h
     ·rename_i k l k' c hx hy
      split at h
      ·rename_i hlc
       have hboth:=qnr hr ho ht hz hn hb hcond.1 hcond.2 (qal hid hr hf h1 hx) (qal hid hr hf h2 hy) hlc
       split at h
       ·cases h; exact hboth.2.wp hF (by simp[ho]) hk
       ·cases h; exact hboth.1.wp hF (by simp[ho]) hk
      ·cases h
     ·cases h
    ·cases hc
   ·cases hc
  ·cases hc
 |box t x=>
  rw[ho] at hc
  simp only[qb7] at hc
  split at hc
  ·rename_i k hw hty
   simp only[Option.map_eq_some_iff] at hc
   obtain⟨y,hy,rfl⟩:=hc
   simp only[qan] at h
   split at h
   ·rename_i u hu
    split at h
    ·cases h
     exact (qtX hr ho (hid.ty _ _ hty) (qal hid hr hf hy hu)).wp hF (by simp[ho]) hk
    ·cases h
   ·cases h
  ·simp only[Option.map_eq_some_iff] at hc
   obtain⟨y,hy,rfl⟩:=hc
   simp only[qan] at h
   split at h
   ·rename_i u hu
    split at h
    ·cases h
     exact (qvx hr ho (qal hid hr hf hy hu)).wp hF (by simp[ho]) hk
    ·cases h
   ·cases h
 |build t parts=>
  rw[ho] at hc
  simp only[qb7] at hc
  split at hc
  ·rename_i fields z ht hz
   split at hc
   ·rename_i pl hpl
    simp only[Option.map_eq_some_iff] at hc
    obtain⟨ps,hps,rfl⟩:=hc
    simp only[qan] at h
    split at h
    ·rename_i vs hvs
     split at h
     ·rename_i cs hcs; cases h
      exact (qoC hr ho ht hz hpl (qbQ hid hr hf hps hvs) hcs).wp hF (by simp[ho]) hk
     ·cases h
    ·cases h
   ·cases hc
  ·rename_i len e z ht hz
   split at hc
   ·rename_i n hn
    simp only[Option.map_eq_some_iff] at hc
    obtain⟨ps,hps,rfl⟩:=hc
    simp only[qan] at h
    split at h
    ·rename_i vs hvs
     split at h
     ·rename_i cs hcs; cases h
      exact (qoD hr ho ht hz hn (qbQ hid hr hf hps hvs) hcs).wp hF (by simp[ho]) hk
     ·cases h
    ·cases h
   ·cases hc
  ·cases hc
 |buildSlice t len parts=>
  rw[ho] at hc
  simp only[qb7] at hc
  split at hc
  ·rename_i e ht
   split at hc
   ·rename_i n z hn hz
    split at hc
    ·rename_i hcond
     simp only[Option.map_eq_some_iff] at hc
     obtain⟨ps,hps,rfl⟩:=hc
     split at h
     ·simp only[qan] at h
      split at h
      ·rename_i vs hvs
       split at h
       ·rename_i cs hcs
        split at h
        ·rename_i ds hds; cases h
         exact (qnq hr ho ht hz hn hcond.1 hcond.2.1 hcond.2.2 (qbQ hid hr hf hps hvs) hcs hds).wp hF (by simp[ho]) hk
        ·cases h
       ·cases h
      ·cases h
     ·simp only[qan] at h
      split at h
      ·rename_i vs hvs
       split at h
       ·rename_i cs hcs
        split at h
        ·rename_i ds hds; cases h
         exact (qle hr ho ht hz hn hcond.1 hcond.2.1 hcond.2.2 (qbQ hid hr hf hps hvs) hcs (by rw[hds])).wp hF (by simp[ho]) hk
        ·rename_i hds; cases h
         exact (qle hr ho ht hz hn hcond.1 hcond.2.1 hcond.2.2 (qbQ hid hr hf hps hvs) hcs (by rw[hds])).wp hF (by simp[ho]) hk
       ·cases h
      ·cases h
    ·cases hc
   ·cases hc
  ·cases hc
 |load t x=>
  rw[ho] at hc
  simp only[qb7] at hc
  split at hc
  ·rename_i n y h1 h2 h3
   cases hc
   simp only[qan] at h
   split at h
   ·rename_i p hp
    split at h
    ·rename_i u hu; cases h
     exact (qoV hr ho (.inl ⟨rfl,h1,h2⟩) (qal hid hr hf h3 hp) hu).wp hF (by simp[ho]) hk
    ·cases h
   ·cases h
  ·rename_i y h1 h3
   cases hc
   simp only[qan] at h
   split at h
   ·rename_i p hp
    split at h
    ·rename_i u hu; cases h
     exact (qoV hr ho (.inr ⟨rfl,h1,rfl⟩) (qal hid hr hf h3 hp) hu).wp hF (by simp[ho]) hk
    ·cases h
   ·cases h
  ·cases hc
 |store t x y=>
  rw[ho] at hc
  simp only[qb7] at hc
  split at hc
  ·rename_i n x' y' h1 h2 h3
   cases hc
   simp only[qan] at h
   split at h
   ·rename_i p u hp hu
    split at h
    ·rename_i s hs; cases h
     exact (qpX hr ho h1 (qal hid hr hf h2 hp) (qal hid hr hf h3 hu) hs).wp hF (by simp[ho]) hk
    ·cases h
   ·cases h
  ·cases hc
 |nilCheck x=>
  rw[ho] at hc
  simp only[qb7,Option.map_eq_some_iff] at hc
  obtain⟨y,hy,rfl⟩:=hc
  simp only[qan] at h
  split at h
  ·rename_i l k hu; cases h
   exact (qib hr ho (qal hid hr hf hy hu) (.inl ⟨_,_,rfl⟩)).wp hF (by simp[ho]) hk
  ·rename_i l k hu; cases h
   exact (qib hr ho (qal hid hr hf hy hu) (.inr (.inl ⟨_,_,rfl⟩))).wp hF (by simp[ho]) hk
  ·rename_i l n k hu; cases h
   exact (qib hr ho (qal hid hr hf hy hu) (.inr (.inr ⟨_,_,_,rfl⟩))).wp hF (by simp[ho]) hk
  ·rename_i g l k hu; cases h
   exact (qnx hr hid.mt ho (qal hid hr hf hy hu)).wp hF (by simp[ho]) hk
  ·rename_i t u hu; cases h
   exact (qnw hr ho (qal hid hr hf hy hu)).wp hF (by simp[ho]) hk
  ·cases h
 |binOp op t x y t'=>
  rw[ho] at hc
  simp only[qb7] at hc
  split at hc
  ·rename_i ht
   simp only[Option.map_eq_some_iff] at hc
   obtain⟨x',h1,rfl⟩:=hc
   simp only[qan] at h
   split at h
   ·rename_i u hu
    split at h
    ·rename_i b hb; cases h
     exact (qia hr false false rfl ho rfl (.inl ⟨rfl,rfl,_,ht⟩) (qal hid hr hf h1 hu) hb).wp hF (by simp[ho]) hk
    ·cases h
   ·cases h
  ·rename_i ht
   simp only[Option.map_eq_some_iff] at hc
   obtain⟨x',h1,rfl⟩:=hc
   simp only[qan] at h
   split at h
   ·rename_i u hu
    split at h
    ·rename_i b hb; cases h
     exact (qia hr false true rfl ho rfl (.inl ⟨rfl,rfl,_,ht⟩) (qal hid hr hf h1 hu) hb).wp hF (by simp[ho]) hk
    ·cases h
   ·cases h
  ·rename_i ht
   simp only[Option.map_eq_some_iff] at hc
   obtain⟨x',h1,rfl⟩:=hc
   simp only[qan] at h
   split at h
   ·rename_i u hu
    split at h
    ·rename_i b hb; cases h
     exact (qia hr true false rfl ho rfl (.inr ⟨rfl,rfl,_,ht⟩) (qal hid hr hf h1 hu) hb).wp hF (by simp[ho]) hk
    ·cases h
   ·cases h
  ·rename_i ht
   simp only[Option.map_eq_some_iff] at hc
   obtain⟨x',h1,rfl⟩:=hc
   simp only[qan] at h
   split at h
   ·rename_i u hu
    split at h
    ·rename_i b hb; cases h
     exact (qia hr true true rfl ho rfl (.inr ⟨rfl,rfl,_,ht⟩) (qal hid hr hf h1 hu) hb).wp hF (by simp[ho]) hk
    ·cases h
   ·cases h
  ·rename_i ht
   simp only[Option.map_eq_some_iff] at hc
   obtain⟨x',h1,rfl⟩:=hc
   simp only[qan] at h
   split at h
   ·rename_i u hu
    split at h
    ·rename_i b hb; cases h
     exact (qlh hr false rfl ho rfl ht (qal hid hr hf h1 hu) hb).wp hF (by simp[ho]) hk
    ·cases h
   ·cases h
  ·rename_i ht
   simp only[Option.map_eq_some_iff] at hc
   obtain⟨x',h1,rfl⟩:=hc
   simp only[qan] at h
   split at h
   ·rename_i u hu
    split at h
    ·rename_i b hb; cases h
     exact (qlh hr true rfl ho rfl ht (qal hid hr hf h1 hu) hb).wp hF (by simp[ho]) hk
    ·cases h
   ·cases h
  ·split at hc
   ·rename_i x' y' h1 h2
    split at hc
    ·have ht:P.underlying t=some .bool:=by assumption
     cases hc
     simp only[qan] at h
     split at h
     ·rename_i A B hA hB
      cases h
      exact (quT hr false rfl ho ht (qal hid hr hf h1 hA) (qal hid hr hf h2 hB)).wp hF (by simp[ho]) hk
     ·cases h
    ·have ht:P.underlying t=some .bool:=by assumption
     cases hc
     simp only[qan] at h
     split at h
     ·rename_i A B hA hB
      cases h
      exact (quT hr true rfl ho ht (qal hid hr hf h1 hA) (qal hid hr hf h2 hB)).wp hF (by simp[ho]) hk
     ·cases h
    ·have ht:qaz P t=some true:=by
      have : ∃ f,P.underlying t=some (.struct f):=⟨_,by assumption⟩
      obtain⟨f,e⟩:=this
      simp[qaz,e]
     simp only[Option.map_eq_some_iff] at hc
     obtain⟨ks,hks,rfl⟩:=hc
     simp only[qan] at h
     split at h
     ·rename_i A B hA hB
      split at h
      ·rename_i r hr'; cases h
       exact (qn6 hr false rfl ho ht hks (qal hid hr hf h1 hA) (qal hid hr hf h2 hB) hr').wp hF (by simp[ho]) hk
      ·cases h
     ·cases h
    ·have ht:qaz P t=some true:=by
      have : ∃ f,P.underlying t=some (.struct f):=⟨_,by assumption⟩
      obtain⟨f,e⟩:=this
      simp[qaz,e]
     simp only[Option.map_eq_some_iff] at hc
     obtain⟨ks,hks,rfl⟩:=hc
     simp only[qan] at h
     split at h
     ·rename_i A B hA hB
      split at h
      ·rename_i r hr'; cases h
       exact (qn6 hr true rfl ho ht hks (qal hid hr hf h1 hA) (qal hid hr hf h2 hB) hr').wp hF (by simp[ho]) hk
      ·cases h
     ·cases h
    ·have ht:qaz P t=some true:=by
      have : ∃ n f,P.underlying t=some (.array n f):=⟨_,_,by assumption⟩
      obtain⟨n,f,e⟩:=this
      simp[qaz,e]
     simp only[Option.map_eq_some_iff] at hc
     obtain⟨ks,hks,rfl⟩:=hc
     simp only[qan] at h
     split at h
     ·rename_i A B hA hB
      split at h
      ·rename_i r hr'; cases h
       exact (qn6 hr false rfl ho ht hks (qal hid hr hf h1 hA) (qal hid hr hf h2 hB) hr').wp hF (by simp[ho]) hk
      ·cases h
     ·cases h
    ·have ht:qaz P t=some true:=by
      have : ∃ n f,P.underlying t=some (.array n f):=⟨_,_,by assumption⟩
      obtain⟨n,f,e⟩:=this
      simp[qaz,e]
     simp only[Option.map_eq_some_iff] at hc
     obtain⟨ks,hks,rfl⟩:=hc
     simp only[qan] at h
     split at h
     ·rename_i A B hA hB
      split at h
      ·rename_i r hr'; cases h
       exact (qn6 hr true rfl ho ht hks (qal hid hr hf h1 hA) (qal hid hr hf h2 hB) hr').wp hF (by simp[ho]) hk
      ·cases h
     ·cases h
    ·have ht : ∃ e',P.underlying t=some (.pointer e')/\(if qax P e'=none\/qax P e'=some 0 then none else some (O.peq false x' y'))=some op:=⟨_,by assumption,hc⟩
     obtain⟨e',ht,hc⟩:=ht
     split at hc
     ·cases hc
     ·rename_i hz
      cases hc
      simp only[qan] at h
      split at h
      ·rename_i l1 o1 l2 o2 hA hB
       split at h
       ·rename_i hlo
        obtain⟨rfl,rfl⟩:=hlo
        cases h
        cases hn:qax P e' with
        |none=>exact absurd (.inl hn) hz
        |some n=>exact (qtZ hr false rfl ho ht hn (fun h0=>hz (.inr (by rw[hn,h0]))) (qal hid hr hf h1 hA) (qal hid hr hf h2 hB)).wp hF (by simp[ho]) hk
       ·cases h
      ·cases h
    ·have ht : ∃ e',P.underlying t=some (.pointer e')/\(if qax P e'=none\/qax P e'=some 0 then none else some (O.peq true x' y'))=some op:=⟨_,by assumption,hc⟩
     obtain⟨e',ht,hc⟩:=ht
     split at hc
     ·cases hc
     ·rename_i hz
      cases hc
      simp only[qan] at h
      split at h
      ·rename_i l1 o1 l2 o2 hA hB
       split at h
       ·rename_i hlo
        obtain⟨rfl,rfl⟩:=hlo
        cases h
        cases hn:qax P e' with
        |none=>exact absurd (.inl hn) hz
        |some n=>exact (qtZ hr true rfl ho ht hn (fun h0=>hz (.inr (by rw[hn,h0]))) (qal hid hr hf h1 hA) (qal hid hr hf h2 hB)).wp hF (by simp[ho]) hk
       ·cases h
      ·cases h
    ·cases hc
     simp only[qan] at h
     split at h
     ·rename_i A B hA hB
      split at h
      ·rename_i r hr'; cases h
       exact (qvT hr ho (qal hid hr hf h1 hA) (qal hid hr hf h2 hB) hr').wp hF (by simp[ho]) hk
      ·cases h
     ·cases h
   ·cases hc
 |unOp op t x=>
  rw[ho] at hc
  simp only[qb7,Option.map_eq_some_iff] at hc
  obtain⟨y,hy,rfl⟩:=hc
  simp only[qan] at h
  split at h
  ·rename_i A hA
   split at h
   ·rename_i r hr'; cases h
    exact (qwg hr ho (qal hid hr hf hy hA) hr').wp hF (by simp[ho]) hk
   ·cases h
  ·cases h
 |convert s t x=>
  rw[ho] at hc
  simp only[qb7] at hc
  split at hc
  ·rename_i d k y h1 h2 h3
   cases hc
   simp only[qan] at h
   split at h
   ·rename_i A hA
    split at h
    ·rename_i r hr'; cases h
     exact (qnv hr ho (qal hid hr hf h3 hA) h1 (.inl ⟨_,rfl,h2⟩) hr').wp hF (by simp[ho]) hk
    ·cases h
   ·cases h
  ·rename_i k y h1 h2 h3
   cases hc
   simp only[qan] at h
   split at h
   ·rename_i A hA
    split at h
    ·rename_i r hr'; cases h
     exact (qnv hr ho (qal hid hr hf h3 hA) h1 (.inr (.inl ⟨rfl,h2⟩)) hr').wp hF (by simp[ho]) hk
    ·cases h
   ·cases h
  ·rename_i y h1 h2 h3
   cases hc
   simp only[qan] at h
   split at h
   ·rename_i A hA
    split at h
    ·rename_i r hr'; cases h
     exact (qnv hr ho (qal hid hr hf h3 hA) h1 (.inr (.inr ⟨rfl,h2⟩)) hr').wp hF (by simp[ho]) hk
    ·cases h
   ·cases h
  ·rename_i e y h1 h2 h3
   split at hc
   ·rename_i he hb
    cases hc
    simp only[qan] at h
    split at h
    ·rename_i A hA
     split at h
     ·cases h
      exact (qq2 hr ho (qal hid hr hf h3 hA) h1 h2 he).wp hF (by simp[ho]) hk
     ·cases h
    ·cases h
   ·cases hc
  ·rename_i e y h1 h2 h3
   split at hc
   ·rename_i he
    cases hc
    simp only[qan] at h
    split at h
    ·rename_i A hA
     split at h
     ·rename_i u hu
      cases h
      exact (qtW hr ho (qal hid hr hf h3 hA) h1 he h2 hu).wp hF (by simp[ho]) hk
     ·cases h
    ·cases h
   ·cases hc
  ·rename_i e y h1 h2 h3
   split at hc
   ·cases hc
   ·rename_i hz
    cases hc
    simp only[qan] at h
    split at h
    ·rename_i l off hA
     split at h
     ·rename_i k cs hcs
      split at h
      ·rename_i hlt
       cases h
       cases hn:qax P e with
       |none=>exact absurd (.inl hn) hz
       |some n=>exact (qwc hr ho h1 h2 hn (fun h0=>hz (.inr (by rw[hn,h0]))) (qal hid hr hf h3 hA) hcs hlt).wp hF (by simp[ho]) hk
      ·cases h
     ·cases h
    ·cases h
  ·rename_i e y h1 h2 h3
   split at hc
   ·cases hc
   ·rename_i hz
    cases hc
    simp only[qan] at h
    split at h
    ·rename_i l hA
     split at h
     ·rename_i k cs hcs
      split at h
      ·rename_i hlt
       cases h
       cases hn:qax P e with
       |none=>exact absurd (.inl hn) hz
       |some n=>exact (qtY hid hr ho h1 h2 hn (qal hid hr hf h3 hA) hcs hlt).wp hF (by simp[ho]) hk
      ·cases h
     ·cases h
    ·cases h
  ·cases hc
 |fieldAddr s x f=>
  rw[ho] at hc
  simp only[qb7] at hc
  split at hc
  ·rename_i fields y h1 h2
   split at hc
   ·rename_i fd hfd
    split at hc
    ·cases hc
    ·rename_i h0
     simp only[Option.map_eq_some_iff] at hc
     obtain⟨n,hn,rfl⟩:=hc
     simp only[qan] at h
     split at h
     ·rename_i p hp
      split at h
      ·rename_i u hu; cases h
       exact (qkg hr ho (qal hid hr hf h2 hp) h1 hfd hn (fun e=>h0 (by rw[hn,e])) hu).wp hF (by simp[ho]) hk
      ·cases h
     ·cases h
   ·cases hc
  ·cases hc
 |field t x f=>
  rw[ho] at hc
  simp only[qb7] at hc
  split at hc
  ·rename_i fields y h1 h2
   split at hc
   ·rename_i fd hfd
    split at hc
    ·rename_i n k1 k2
     cases hc
     simp only[qan] at h
     split at h
     ·rename_i p hp
      split at h
      ·rename_i cs hcs
       split at h
       ·rename_i vs hvs
        split at h
        ·rename_i u hu; cases h
         exact (qny hr ho (qal hid hr hf h2 hp) h1 hfd (.inl ⟨rfl,k1,k2⟩) hcs hvs hu).wp hF (by simp[ho]) hk
        ·cases h
       ·cases h
      ·cases h
     ·cases h
    ·rename_i k1
     cases hc
     simp only[qan] at h
     split at h
     ·rename_i p hp
      split at h
      ·rename_i cs hcs
       split at h
       ·rename_i vs hvs
        split at h
        ·rename_i u hu; cases h
         exact (qny hr ho (qal hid hr hf h2 hp) h1 hfd (.inr ⟨rfl,k1,rfl⟩) hcs hvs hu).wp hF (by simp[ho]) hk
        ·cases h
       ·cases h
      ·cases h
     ·cases h
    ·cases hc
   ·cases hc
  ·cases hc
 |indexAddr t x i=>
  rw[ho] at hc
  simp only[qb7] at hc
  split at hc
  ·rename_i e y j h1 h2 h3
   simp only[Option.map_eq_some_iff] at hc
   obtain⟨n,hn,rfl⟩:=hc
   simp only[qan] at h
   split at h
   ·rename_i s k m hs hm
    split at h
    ·rename_i u hu; cases h
     exact (qkh hr ho (qal hid hr hf h2 hs) (qal hid hr hf h3 hm) h1 hn hu).wp hF (by simp[ho]) hk
    ·cases h
   ·cases h
  ·rename_i len e y j h1 h2 h3
   simp only[Option.map_eq_some_iff] at hc
   obtain⟨n,hn,rfl⟩:=hc
   simp only[qan] at h
   split at h
   ·rename_i s k m hs hm
    split at h
    ·rename_i hj
     split at h
     ·rename_i u hu; cases h
      exact (qju hr ho (qal hid hr hf h2 hs) (qal hid hr hf h3 hm) h1 hn hj hu).wp hF (by simp[ho]) hk
     ·cases h
    ·cases h
   ·cases h
  ·cases hc
 |index t x i=>
  rw[ho] at hc
  simp only[qb7] at hc
  split at hc
  ·rename_i len e y j h1 h2 h3
   split at hc
   ·rename_i n k1 k2
    cases hc
    simp only[qan] at h
    split at h
    ·rename_i s k m hs hm
     split at h
     ·rename_i hj
      split at h
      ·rename_i cs hcs
       split at h
       ·rename_i vs hvs
        split at h
        ·rename_i u hu; cases h
         exact (qlj hr ho (qal hid hr hf h2 hs) (qal hid hr hf h3 hm) h1 (.inl ⟨rfl,k1,k2⟩) hj hcs hvs hu).wp hF (by simp[ho]) hk
        ·cases h
       ·cases h
      ·cases h
     ·cases h
    ·cases h
   ·rename_i n k1 k2
    split at hc
    ·rename_i hn1
     subst hn1
     cases hc
     simp only[qan] at h
     split at h
     ·rename_i s k m hs hm
      split at h
      ·rename_i hj
       split at h
       ·rename_i cs hcs
        split at h
        ·rename_i vs hvs
         split at h
         ·rename_i u hu; cases h
          exact (qlj hr ho (qal hid hr hf h2 hs) (qal hid hr hf h3 hm) h1 (.inr ⟨rfl,k1,rfl,k2⟩) hj hcs hvs hu).wp hF (by simp[ho]) hk
         ·cases h
        ·cases h
       ·cases h
      ·cases h
     ·cases h
    ·cases hc
   ·cases hc
  ·rename_i y j h1 h2 h3
   cases hc
   simp only[qan] at h
   split at h
   ·rename_i s k m hs hm
    split at h
    ·rename_i hj
     split at h
     ·rename_i u hu; cases h
      exact (qoJ hr ho (qal hid hr hf h2 hs) (qal hid hr hf h3 hm) h1 hj hu).wp hF (by simp[ho]) hk
     ·cases h
    ·cases h
   ·cases h
  ·cases hc
 |slice t x lo hi mx=>
  rw[ho] at hc
  simp only[qb7] at hc
  split at hc
  ·rename_i e y l u h1 h2 h3 h4
   simp only[Option.map_eq_some_iff] at hc
   obtain⟨n,hn,rfl⟩:=hc
   split at h
   ·simp only[qan] at h
    split at h
    ·rename_i p l' u' hp hl hu
     by_cases hpv:(ids.pv e&&(l.isNone&&u.isSome))=true
     ·rw[if_pos hpv] at hl
      simp only[Bool.and_eq_true,Option.isNone_iff_eq_none] at hpv
      obtain⟨_,rfl,_⟩:=hpv
      simp only[qbJ,X.ev,Option.map_some,Option.some.injEq] at hl
      subst hl
      exact (quX hr ho (qal hid hr hf h2 hp) h1 hn (lo0:=none) (qaU hid hr hf h3 rfl) (qaU hid hr hf h4 hu) (fun m=>by simp[bound]) h).wp hF (by simp[ho]) hk
     ·rw[if_neg hpv] at hl
      exact (quX hr ho (qal hid hr hf h2 hp) h1 hn (qaU hid hr hf h3 hl) (qaU hid hr hf h4 hu) (fun _=>rfl) h).wp hF (by simp[ho]) hk
    ·cases h
   ·simp only[qan] at h
    split at h
    ·rename_i p l' u' hp hl hu
     split at h
     ·rename_i r hr'; cases h
      exact (qnB hr ho (qal hid hr hf h2 hp) h1 hn (qaU hid hr hf h3 hl) (qaU hid hr hf h4 hu) hr').wp hF (by simp[ho]) hk
     ·cases h
    ·cases h
  ·rename_i y l u h1 h2 h3 h4
   cases hc
   simp only[qan] at h
   split at h
   ·rename_i p l' u' hp hl hu
    split at h
    ·rename_i r hr'; cases h
     exact (qoK hr ho (qal hid hr hf h2 hp) h1 (qaU hid hr hf h3 hl) (qaU hid hr hf h4 hu) hr').wp hF (by simp[ho]) hk
    ·cases h
   ·cases h
  ·rename_i len e y l u h1 h2 h3 h4
   simp only[Option.map_eq_some_iff] at hc
   obtain⟨n,hn,rfl⟩:=hc
   simp only[qan] at h
   split at h
   ·rename_i p l' u' hp hl hu
    split at h
    ·rename_i r hr'; cases h
     exact (qog hr ho (qal hid hr hf h2 hp) h1 hn (qaU hid hr hf h3 hl) (qaU hid hr hf h4 hu) hr').wp hF (by simp[ho]) hk
    ·cases h
   ·cases h
  ·rename_i m e y l u h1 h2 h3 h4
   split at hc
   ·rename_i n z hn hz
    cases hc
    simp only[qan] at h
    split at h
    ·rename_i p l' u' m' hp hl hu hm
     split at h
     ·rename_i r hr'; cases h
      exact (qnX hr ho (qal hid hr hf h2 hp) h1 hn (qaU hid hr hf h3 hl) (qaU hid hr hf h4 hu) (qal hid hr hf hz hm) hr').wp hF (by simp[ho]) hk
     ·cases h
    ·cases h
   ·cases hc
  ·cases hc
 |makeMap t r=>
  rw[ho] at hc
  simp only[qb7] at hc
  split at hc
  ·cases hc
   simp only[qan,Option.some.injEq,Prod.mk.injEq] at h
   obtain⟨rfl,rfl⟩:=h
   exact (qpW hr ho).wp hF (by simp[ho]) hk
  ·rename_i x kt e ht
   simp only[Option.map_eq_some_iff] at hc
   obtain⟨y,hy,rfl⟩:=hc
   simp only[qan] at h
   split at h
   ·rename_i k i hx; cases h
    exact (qnY hr ho ht (qal hid hr hf hy hx)).wp hF (by simp[ho]) hk
   ·cases h
  ·cases hc
 |range t x=>
  rw[ho] at hc
  simp only[qb7] at hc
  split at hc
  ·rename_i kt e ht
   simp only[Option.map_eq_some_iff] at hc
   obtain⟨y,hy,rfl⟩:=hc
   simp only[qan] at h
   split at h
   ·rename_i l hx
    split at h
    ·rename_i es hes; cases h
     exact (qn0 hr ho ht (qal hid hr hf hy hx) ⟨es,hes⟩).wp hF (by simp[ho]) hk
    ·cases h
   ·cases h
  ·cases hc
 |next x b=>
  rw[ho] at hc
  cases b with
  |true=>cases hc
  |false=>
   simp only[qb7,Option.map_eq_some_iff] at hc
   obtain⟨y,hy,rfl⟩:=hc
   simp only[qan] at h
   split at h
   ·rename_i l hx
    split at h
    ·rename_i m hi
     split at h
     ·rename_i hm; cases h
      exact (qpK hr ho (qal hid hr hf hy hx) hi hm).wp hF (by simp[ho]) hk
     ·cases h
    ·cases h
   ·cases h
 |mapUpdate t m k x=>
  rw[ho] at hc
  simp only[qb7] at hc
  split at hc
  ·rename_i kt e m' k' x' h1 h2 h3 h4
   simp only[Option.map_eq_some_iff] at hc
   obtain⟨kd,hkd,rfl⟩:=hc
   simp only[qan] at h
   split at h
   ·rename_i l key u hm hkey hu
    split at h
    ·rename_i es hes
     split at h
     ·split at h
      ·rename_i es' hes'; cases h
       exact (qlg hr (.inl ho) h1 hkd (qal hid hr hf h2 hm) (qal hid hr hf h3 hkey) (qal hid hr hf h4 hu) hes hes').wp hF (by simp[ho]) hk
      ·cases h
     ·cases h
    ·cases h
   ·cases h
  ·cases hc
 |insert t m k x=>
  rw[ho] at hc
  simp only[qb7] at hc
  split at hc
  ·rename_i kt e m' k' x' h1 h2 h3 h4
   simp only[Option.map_eq_some_iff] at hc
   obtain⟨kd,hkd,rfl⟩:=hc
   simp only[qan] at h
   split at h
   ·rename_i l key u hm hkey hu
    split at h
    ·rename_i es hes
     split at h
     ·split at h
      ·rename_i es' hes'; cases h
       exact (qlg hr (.inr ho) h1 hkd (qal hid hr hf h2 hm) (qal hid hr hf h3 hkey) (qal hid hr hf h4 hu) hes hes').wp hF (by simp[ho]) hk
      ·cases h
     ·cases h
    ·cases h
   ·cases h
  ·cases hc
 |lookup t m k ok=>
  rw[ho] at hc
  simp only[qb7] at hc
  split at hc
  ·rename_i kt e m' k' h1 h2 h3
   split at hc
   ·rename_i kd z hkd hz
    cases hc
    simp only[qan] at h
    split at h
    ·rename_i l key hm hkey
     split at h
     ·rename_i es hes
      split at h
      ·split at h
       ·rename_i u hu; cases h
        exact (qlf hr ho h1 hkd hz (qal hid hr hf h2 hm) (qal hid hr hf h3 hkey) hes hu).wp hF (by simp[ho]) hk
       ·rename_i hu; cases h
        exact (qlf hr ho h1 hkd hz (qal hid hr hf h2 hm) (qal hid hr hf h3 hkey) hes hu).wp hF (by simp[ho]) hk
       ·cases h
      ·cases h
     ·cases h
    ·cases h
   ·cases hc
  ·cases hc
 |makeFunc fn x y=>
  rw[ho] at hc
  cases fn with
  |func f=>
   simp only[qb7] at hc
   split at hc
   ·rename_i g as bs h1 h2 h3
    cases hc
    simp only[qan] at h
    split at h
    ·rename_i us ws hu hw; cases h
     exact (quW hr ho (hid.fn f g h1) (qaY hid hr hf h2 hu) (qaY hid hr hf h3 hw)).wp hF (by simp[ho]) hk
    ·cases h
   ·cases hc
  |method name=>
   simp only[qb7] at hc
   split at hc
   ·rename_i x1 hxs hys
    simp only[Option.map_eq_some_iff] at hc
    obtain⟨y1,h1,rfl⟩:=hc
    simp only[qan] at h
    split at h
    ·rename_i t v vs' hv
     split at h
     ·rename_i g hg
      cases h
      have e1:x = #[x1]:=by apply Array.ext'; simpa using hxs
      have e2:y = #[]:=by apply Array.ext'; simpa using hys
      obtain⟨fn,hm,hi⟩:=qbh hid hg
      exact (qoI hr (by rw[e2] at ho; exact ho) e1 (qal hid hr hf h1 hv) ((hid.mt _ _ _).2 ⟨fn,hm,hi⟩)).wp hF (by simp[ho]) hk
     ·cases h
    ·cases h
   ·cases hc
  |_=>simp[qb7] at hc
 |extract x i=>
  rw[ho] at hc
  simp only[qb7,Option.map_eq_some_iff] at hc
  obtain⟨y,hy,rfl⟩:=hc
  simp only[qan] at h
  split at h
  ·rename_i vs hvs
   split at h
   ·rename_i u hu; cases h
    exact (qnz hr ho (qal hid hr hf hy hvs) hu).wp hF (by simp[ho]) hk
   ·cases h
  ·cases h
 |call c=>
  rw[ho] at hc
  simp only[qb7,qko] at hc
  split at hc
  ·rename_i f hcal
   split at hc
   ·rename_i g xs h1 h2
    cases hc
    simp only[qan] at h
    split at h
    ·rename_i vs hvs
     have hargs:=qaY hid hr hf h2 hvs
     obtain⟨k1,k2⟩:=qcd (pre:=[]) (post:=[]) (xs:=[]) (zs:=[]) hC hr rfl hargs rfl (by simpa using h)
     rw[hid.fn f g h1] at k1 k2
     simp only[List.nil_append,List.append_nil] at k2
     refine qhK (by simp[ho]) ?_ k2 hk
     simp only[execOp,ho,resolve,hcal,Act.eval,Deferred.ofValue,Sem.run_bind,Sem.run_pure,Result.andThen_ok,invoke]
     rw[qaR k1]
     simp
     apply Array.ext'; simp
    ·cases h
   ·rename_i xs h1 h2
    split at hc
    ·rename_i y he
     cases hc
     simp only[qan] at h
     split at h
     ·rename_i u hu
      cases h
      obtain⟨p,q1,q2⟩:=qv5 h2
      exact (qt2 hr ho hcal he q1 rfl (qal hid hr hf q2 hu)).wp hF (by simp[ho]) hk
     ·cases h
    ·rename_i y z he
     cases hc
     simp only[qan] at h
     split at h
     ·rename_i s n hs hn
      cases h
      obtain⟨p,q,q1,q2,q3⟩:=qwd h2
      exact (qvL hr ho hcal he q1 rfl (qal hid hr hf q2 hs) (qal hid hr hf q3 hn)).wp hF (by simp[ho]) hk
     ·cases h
    ·cases hc
   ·cases hc
  ·rename_i x hx hcal
   split at hc
   ·rename_i g xs h1 h2
    cases hc
    simp only[qan] at h
    split at h
    ·rename_i id as bs vs hfn hvs
     have hargs:=qaY hid hr hf h2 hvs
     have hfv:=qal hid hr hf h1 hfn
     simp only[Rep] at hfv
     obtain⟨as',bs',e1,e2,e3⟩:=hfv
     obtain⟨k1,k2⟩:=qcd hC hr e2 hargs e3 h
     refine qhK (by simp[ho]) ?_ k2 hk
     simp only[execOp,ho,resolve,hcal,e1,Deferred.ofValue,Sem.run_bind,Sem.run_pure,Result.andThen_ok,invoke]
     rw[qaR k1]
     simp
    ·rename_i g' v' vs hfn hvs
     have hargs:=qaY hid hr hf h2 hvs
     have hfv:=qal hid hr hf h1 hfn
     simp only[Rep] at hfv
     obtain⟨t,nm,y,e1,e2,e3⟩:=hfv
     obtain⟨fn,hm,hi⟩:=(hid.mt _ _ _).1 e2
     have hall:Reps fid Γ (v'::vs) (y::c.args.toList.map a.eval):=by simp only[Reps]; exact⟨_,_,rfl,e3,hargs⟩
     obtain⟨k1,k2⟩:=qcd (pre:=[]) (post:=[]) (xs:=[]) (zs:=[]) hC hr rfl hall rfl (by simpa using h)
     rw[hid.fn fn g' hi] at k1 k2
     simp only[List.nil_append,List.append_nil] at k2
     refine qhK (by simp[ho]) ?_ k2 hk
     simp only[execOp,ho,resolve,hcal,e1,Deferred.ofValue,Sem.run_bind,Sem.run_pure,Result.andThen_ok,invoke]
     have q0:(#[Value.iface t y]++Array.map a.eval c.args)[0]?=some (.iface t y):=by
      rw[Array.getElem?_append_left (by show 0<1; omega)]; rfl
     have q1:(#[Value.iface t y]++Array.map a.eval c.args).extract 1 (#[Value.iface t y]++Array.map a.eval c.args).size=Array.map a.eval c.args:=by
      apply Array.ext'; simp; try exact List.take_of_length_le (by simp)
     simp only[q0,q1]
     rw[qel hm,qaR k1]
     try simp
     try (apply Array.ext'; simp)
    ·rename_i l vs hfn hvs
     have hargs:=qaY hid hr hf h2 hvs
     have hfv:=qal hid hr hf h1 hfn
     obtain⟨b,ys,fn,tmps,as,bd,q1,q2,q3⟩:=qhJ hC hr (args := .yld l::vs) (xs:=a.eval x::c.args.toList.map a.eval) ⟨_,_,rfl,hfv,hargs⟩ h
     simp only[List.cons.injEq] at q1
     obtain⟨q0,rfl⟩:=q1
     refine qn5 (by simp[ho]) ?_ q3 hk
     simp only[execOp,ho,resolve,hcal,q0,Deferred.ofValue,Sem.run_bind,Sem.run_pure,Result.andThen_ok,invoke]
     have e:(List.map a.eval c.args.toList).toArray=Array.map a.eval c.args:=by apply Array.ext'; simp
     rw[e] at q2
     simpa using q2
    ·cases h
   ·cases hc
  ·rename_i recv name hcal
   split at hc
   ·rename_i x xs h1 h2
    cases hc
    simp only[qan] at h
    split at h
    ·rename_i t v vs hv hvs
     split at h
     ·rename_i g hg
      have hargs:=qaY hid hr hf h2 hvs
      have hfv:=qal hid hr hf h1 hv
      simp only[Rep] at hfv
      obtain⟨y,e1,e2⟩:=hfv
      obtain⟨fn,hm,hi⟩:=qbh hid hg
      have hall:Reps fid Γ (v::vs) (y::c.args.toList.map a.eval):=by simp only[Reps]; exact⟨_,_,rfl,e2,hargs⟩
      obtain⟨k1,k2⟩:=qcd (pre:=[]) (post:=[]) (xs:=[]) (zs:=[]) hC hr rfl hall rfl (by simpa using h)
      rw[hid.fn fn g hi] at k1 k2
      simp only[List.nil_append,List.append_nil] at k2
      refine qhK (by simp[ho]) ?_ k2 hk
      simp only[execOp,ho,resolve,hcal,e1,Sem.run_bind,Sem.run_pure,Result.andThen_ok,invoke]
      have q0:(#[Value.iface (fid.ty t) y]++Array.map a.eval c.args)[0]?=some (.iface (fid.ty t) y):=by
       rw[Array.getElem?_append_left (by show 0<1; omega)]; rfl
      have q1:(#[Value.iface (fid.ty t) y]++Array.map a.eval c.args).extract 1 (#[Value.iface (fid.ty t) y]++Array.map a.eval c.args).size=Array.map a.eval c.args:=by
       apply Array.ext'; simp; try exact List.take_of_length_le (by simp)
      simp only[q0,q1]
      rw[qel hm,qaR k1]
      try simp
      try (apply Array.ext'; simp)
     ·cases h
    ·cases h
   ·cases hc
  ·rename_i b hcal
   split at hc
   ·rename_i x t hxs hts
    split at hc
    ·rename_i y h1 h2
     cases hc
     simp only[qan] at h
     split at h
     ·rename_i u hu
      split at h
      ·rename_i n hn; cases h
       exact (qq1 hr ho hcal hxs hts (qal hid hr hf h2 hu) (.inl ⟨rfl,h1⟩) hn).wp hF (by simp[ho]) hk
      ·cases h
     ·cases h
    ·rename_i e y h1 h2
     cases hc
     simp only[qan] at h
     split at h
     ·rename_i u hu
      split at h
      ·rename_i n hn; cases h
       exact (qq1 hr ho hcal hxs hts (qal hid hr hf h2 hu) (.inr (.inl ⟨rfl,_,h1⟩)) hn).wp hF (by simp[ho]) hk
      ·cases h
     ·cases h
    ·rename_i e e' y h1 h2
     cases hc
     simp only[qan] at h
     split at h
     ·rename_i u hu
      split at h
      ·rename_i n hn; cases h
       exact (qq1 hr ho hcal hxs hts (qal hid hr hf h2 hu) (.inr (.inr ⟨rfl,_,_,h1⟩)) hn).wp hF (by simp[ho]) hk
      ·cases h
     ·cases h
    ·cases hc
   ·rename_i xs ts
    simp only[Option.map_eq_some_iff] at hc
    obtain⟨ys,hys,rfl⟩:=hc
    simp only[qan] at h
    split at h
    ·rename_i vs hvs
     split at h
     ·rename_i y ys' hl
      split at h
      ·rename_i r hr'; cases h
       exact (qvU hr ho hcal (qaY hid hr hf hys hvs) hl hr').wp hF (by simp[ho]) hk
      ·cases h
     ·cases h
    ·cases h
   ·rename_i xs ts
    simp only[Option.map_eq_some_iff] at hc
    obtain⟨ys,hys,rfl⟩:=hc
    simp only[qan] at h
    split at h
    ·rename_i vs hvs
     split at h
     ·rename_i y ys' hl
      split at h
      ·rename_i r hr'; cases h
       exact (qvV hr ho hcal (qaY hid hr hf hys hvs) hl hr').wp hF (by simp[ho]) hk
      ·cases h
     ·cases h
    ·cases h
   ·rename_i s x ts tx hxs hts
    split at hc
    ·rename_i e ex s' x' h1 h2 h3 h4
     split at hc
     ·rename_i n b z hn hb hz
      split at hc
      ·rename_i hzn
       cases hc
       split at h
       ·split at h
        ·rename_i k hty
         simp only[qan] at h
         split at h
         ·rename_i p q hp hq
          exact (qjc hr ho hcal hxs hts h1 (.inl ⟨_,h2⟩) hn hb hz hzn (hid.ty _ _ hty) (qal hid hr hf h3 hp) (qal hid hr hf h4 hq) h).wp hF (by simp[ho]) hk
         ·cases h
        ·simp only[qan] at h
         split at h
         ·rename_i p q hp hq
          exact (qjv hr ho hcal hxs hts h1 (.inl ⟨_,h2⟩) hn hb hz hzn (qal hid hr hf h3 hp) (qal hid hr hf h4 hq) h).wp hF (by simp[ho]) hk
         ·cases h
       ·simp only[qan] at h
        split at h
        ·rename_i p q hp hq
         exact (qkI hr ho hcal hxs hts h1 (.inl ⟨_,h2⟩) hn hb hz hzn (qal hid hr hf h3 hp) (qal hid hr hf h4 hq) h).wp hF (by simp[ho]) hk
        ·cases h
      ·cases hc
     ·cases hc
    ·rename_i e s' x' h1 h2 h3 h4
     split at hc
     ·rename_i n b z hn hb hz
      split at hc
      ·rename_i hzn
       cases hc
       split at h
       ·split at h
        ·rename_i k hty
         simp only[qan] at h
         split at h
         ·rename_i p q hp hq
          exact (qjc hr ho hcal hxs hts h1 (.inr h2) hn hb hz hzn (hid.ty _ _ hty) (qal hid hr hf h3 hp) (qal hid hr hf h4 hq) h).wp hF (by simp[ho]) hk
         ·cases h
        ·simp only[qan] at h
         split at h
         ·rename_i p q hp hq
          exact (qjv hr ho hcal hxs hts h1 (.inr h2) hn hb hz hzn (qal hid hr hf h3 hp) (qal hid hr hf h4 hq) h).wp hF (by simp[ho]) hk
         ·cases h
       ·simp only[qan] at h
        split at h
        ·rename_i p q hp hq
         exact (qkI hr ho hcal hxs hts h1 (.inr h2) hn hb hz hzn (qal hid hr hf h3 hp) (qal hid hr hf h4 hq) h).wp hF (by simp[ho]) hk
        ·cases h
      ·cases hc
     ·cases hc
    ·rename_i e ik s' x' h1 h2 h3 h4
     split at hc
     ·rename_i n b z hn hb hz
      split at hc
      ·rename_i hzn
       cases hc
       simp only[qan] at h
       split at h
       ·rename_i k m hp hq
        split at h
        ·rename_i hcond
         cases h
         have hll:(qar z).length=n:=by simpa [qar] using hzn.1
         rw[hll] at hk
         exact (qme hr ho hcal hxs hts h1 h2 hn hb hz hzn.1 hzn.2 (qal hid hr hf h3 hp) (qal hid hr hf h4 hq) hcond.1 hcond.2.1 hcond.2.2).wp hF (by simp[ho]) hk
        ·cases h
       ·cases h
      ·cases hc
     ·cases hc
    ·cases hc
   ·rename_i x ts hxs
    simp only[Option.map_eq_some_iff] at hc
    obtain⟨y,hy,rfl⟩:=hc
    simp only[qan] at h
    split at h
    ·rename_i hu
     cases h
     exact (qt0 hr ho hcal hxs (qal hid hr hf hy hu) (.inl ⟨rfl,rfl⟩)).wp hF (by simp[ho]) hk
    ·rename_i l n sz hu
     split at h
     ·rename_i hc2
      obtain⟨hn0,rfl⟩:=hc2
      cases h
      exact (qt0 hr ho hcal hxs (qal hid hr hf hy hu) (.inr ⟨l,n,rfl,hn0,rfl⟩)).wp hF (by simp[ho]) hk
     ·cases h
    ·cases h
   ·rename_i x n tx ty hxs hts
    split at hc
    ·rename_i e A B h1 h2 h3
     split at hc
     ·rename_i u hty hu8
      split at hc
      ·rename_i hcond
       cases hc
       simp only[qan] at h
       split at h
       ·rename_i k kk hp hn
        split at h
        ·rename_i hk0
         subst hk0
         cases h
         exact (qqy hr ho hcal hxs hts (qal hid hr hf h2 hp) (qal hid hr hf h3 hn) rfl).wp hF (by simp[ho]) hk
        ·cases h
       ·rename_i l m off kk k hp hn
        split at h
        ·rename_i t cs hcs
         split at h
         ·rename_i hcond2
          split at h
          ·rename_i bs hbs
           cases h
           obtain⟨d1,d2,d3,d4,d5,d6⟩:=hcond2
           subst d2 d3 d5
           simp only[List.contains_cons,List.contains_nil,Bool.or_false,beq_iff_eq] at d1
           subst d1
           exact (qt1 hr ho hcal hxs hts h1 hcond.2.1 (hid.ty _ _ hty) (qal hid hr hf h2 hp) (qal hid hr hf h3 hn) rfl hcs d4 d6 hbs).wp hF (by simp[ho]) hk
          ·cases h
         ·cases h
        ·cases h
       ·cases h
      ·cases hc
     ·cases hc
    ·cases hc
   ·rename_i x t hxs hts
    split at hc
    ·rename_i e y h1 h2
     cases hc
     simp only[qan] at h
     split at h
     ·rename_i hp; cases h
      exact (qtq hr ho hcal hxs hts h1 (qal hid hr hf h2 hp)).wp hF (by simp[ho]) hk
     ·cases h
    ·cases hc
   ·rename_i x y t ts hxs hts
    split at hc
    ·rename_i e p q h1 h2 h3
     simp only[Option.map_eq_some_iff] at hc
     obtain⟨n,hn,rfl⟩:=hc
     simp only[qan] at h
     split at h
     ·rename_i u w hp hq
      split at h
      ·rename_i xs m k hs hl
       split at h
       ·rename_i hcond
        split at h
        ·rename_i σ1 hlay; cases h
         exact (qtp hr ho hcal hxs hts h1 hn (qal hid hr hf h2 hp) (qal hid hr hf h3 hq) hs hl hcond.1 hcond.2.1 hcond.2.2 hlay).wp hF (by simp[ho]) hk
        ·cases h
       ·cases h
      ·cases h
     ·cases h
    ·cases hc
   ·rename_i x t hxs hts
    split at hc
    ·rename_i e p h1 h2
     split at hc
     ·rename_i z hz
      split at hc
      ·rename_i hz0
       cases hc
       simp only[qan] at h
       split at h
       ·rename_i u hu
        split at h
        ·rename_i n hl
         split at h
         ·rename_i σ1 hlay; cases h
          exact (qvt hr ho hcal hxs hts h1 hz hz0 (qal hid hr hf h2 hu) hl hlay).wp hF (by simp[ho]) hk
         ·cases h
        ·cases h
       ·cases h
      ·cases hc
     ·cases hc
    ·cases hc
   ·rename_i m k t ts hxs hts
    split at hc
    ·rename_i kt e p q h1 h2 h3
     simp only[Option.map_eq_some_iff] at hc
     obtain⟨kd,hkd,rfl⟩:=hc
     simp only[qan] at h
     split at h
     ·rename_i l key hm hkey
      split at h
      ·rename_i es hes
       split at h
       ·split at h
        ·rename_i es' hes'; cases h
         exact (qnZ hr ho hcal hxs hts h1 hkd (qal hid hr hf h2 hm) (qal hid hr hf h3 hkey) hes hes').wp hF (by simp[ho]) hk
        ·cases h
       ·cases h
      ·cases h
     ·cases h
    ·cases hc
   ·cases hc
 |panic x=>
  rw[ho] at hc
  simp only[qb7,Option.map_eq_some_iff] at hc
  obtain⟨y,hy,rfl⟩:=hc
  simp[qan] at h
 |_=>rw[ho] at hc; simp[qb7] at hc
theorem qhL (hid:Ties P ids fid) (hC:CSound P fid C) {op:O} (hc:cOp P ids N o.op=some op) (hr:Real fid Γ) (hf:FrRep fid Γ N fr a.tmps) (h:qan C fr Γ.σ op=some (v,σ'))
  (hk : ∀ Γ' x,Γ'.σ = σ'->Real fid Γ'->Step Γ Γ'->Rep fid Γ' v x->K (a.put o.dst x) Γ'.w):o.wpIn (FR ro) 0 P a Γ.w K Q:=by
 unfold cOp at hc
 split at hc
 ·rename_i hc'; cases hc; exact qmq hid hC hc' hr hf h hk
 ·cases hc; cases h
theorem qlv (hid:Ties P ids fid) (hC:CSound P fid C) {op:O} (hc:qb7 P ids N o.op=some op) (hr:Real fid Γ) (hf:FrRep fid Γ N fr a.tmps) (h:qa3 C fr Γ.σ op=some (v,σ'))
  (hk : ∀ Γ' x,Γ'.σ = σ'->Real fid Γ'->Step Γ Γ'->Rep fid Γ' v x->Q (.panic [{ v:=x,recovered:=false }]) a Γ'.w):o.wpIn (FR ro) 0 P a Γ.w K Q:=by
 have other:op.calls=false->False:=fun hn=>by rw[qj5 hn] at h; cases h
 cases ho:o.op with
 |call c=>
  rw[ho] at hc
  simp only[qb7,qko] at hc
  split at hc
  ·rename_i f hcal
   split at hc
   ·rename_i g xs h1 h2
    cases hc
    simp only[qa3] at h
    split at h
    ·rename_i vs hvs
     have hargs:=qaY hid hr hf h2 hvs
     obtain⟨k1,k2⟩:=qbV (pre:=[]) (post:=[]) (xs:=[]) (zs:=[]) hC hr rfl hargs rfl (by simpa using h)
     rw[hid.fn f g h1] at k1 k2
     simp only[List.nil_append,List.append_nil] at k2
     refine qft (by simp[ho]) ?_ k2 hk
     simp only[execOp,ho,resolve,hcal,Act.eval,Deferred.ofValue,Sem.run_bind,Sem.run_pure,Result.andThen_ok,invoke]
     rw[qaR k1]
     simp
     apply Array.ext'; simp
    ·cases h
   ·exfalso
    split at hc
    ·cases hc; exact other rfl
    ·cases hc; exact other rfl
    ·cases hc
   ·cases hc
  ·rename_i x hx hcal
   split at hc
   ·rename_i g xs h1 h2
    cases hc
    simp only[qa3] at h
    split at h
    ·rename_i id as bs vs hfn hvs
     have hargs:=qaY hid hr hf h2 hvs
     have hfv:=qal hid hr hf h1 hfn
     simp only[Rep] at hfv
     obtain⟨as',bs',e1,e2,e3⟩:=hfv
     obtain⟨k1,k2⟩:=qbV hC hr e2 hargs e3 h
     refine qft (by simp[ho]) ?_ k2 hk
     simp only[execOp,ho,resolve,hcal,e1,Deferred.ofValue,Sem.run_bind,Sem.run_pure,Result.andThen_ok,invoke]
     rw[qaR k1]
     simp
    ·rename_i g' v' vs hfn hvs
     have hargs:=qaY hid hr hf h2 hvs
     have hfv:=qal hid hr hf h1 hfn
     simp only[Rep] at hfv
     obtain⟨t,nm,y,e1,e2,e3⟩:=hfv
     obtain⟨fn,hm,hi⟩:=(hid.mt _ _ _).1 e2
     have hall:Reps fid Γ (v'::vs) (y::c.args.toList.map a.eval):=by simp only[Reps]; exact⟨_,_,rfl,e3,hargs⟩
     obtain⟨k1,k2⟩:=qbV (pre:=[]) (post:=[]) (xs:=[]) (zs:=[]) hC hr rfl hall rfl (by simpa using h)
     rw[hid.fn fn g' hi] at k1 k2
     simp only[List.nil_append,List.append_nil] at k2
     refine qft (by simp[ho]) ?_ k2 hk
     simp only[execOp,ho,resolve,hcal,e1,Deferred.ofValue,Sem.run_bind,Sem.run_pure,Result.andThen_ok,invoke]
     have q0:(#[Value.iface t y]++Array.map a.eval c.args)[0]?=some (.iface t y):=by
      rw[Array.getElem?_append_left (by show 0<1; omega)]; rfl
     have q1:(#[Value.iface t y]++Array.map a.eval c.args).extract 1 (#[Value.iface t y]++Array.map a.eval c.args).size=Array.map a.eval c.args:=by
      apply Array.ext'; simp; try exact List.take_of_length_le (by simp)
     simp only[q0,q1]
     rw[qel hm,qaR k1]
     try simp
     try (apply Array.ext'; simp)
    ·cases h
   ·cases hc
  ·rename_i recv name hcal
   split at hc
   ·rename_i x xs h1 h2
    cases hc
    simp only[qa3] at h
    split at h
    ·rename_i t v vs hv hvs
     split at h
     ·rename_i g hg
      have hargs:=qaY hid hr hf h2 hvs
      have hfv:=qal hid hr hf h1 hv
      simp only[Rep] at hfv
      obtain⟨y,e1,e2⟩:=hfv
      obtain⟨fn,hm,hi⟩:=qbh hid hg
      have hall:Reps fid Γ (v::vs) (y::c.args.toList.map a.eval):=by simp only[Reps]; exact⟨_,_,rfl,e2,hargs⟩
      obtain⟨k1,k2⟩:=qbV (pre:=[]) (post:=[]) (xs:=[]) (zs:=[]) hC hr rfl hall rfl (by simpa using h)
      rw[hid.fn fn g hi] at k1 k2
      simp only[List.nil_append,List.append_nil] at k2
      refine qft (by simp[ho]) ?_ k2 hk
      simp only[execOp,ho,resolve,hcal,e1,Sem.run_bind,Sem.run_pure,Result.andThen_ok,invoke]
      have q0:(#[Value.iface (fid.ty t) y]++Array.map a.eval c.args)[0]?=some (.iface (fid.ty t) y):=by
       rw[Array.getElem?_append_left (by show 0<1; omega)]; rfl
      have q1:(#[Value.iface (fid.ty t) y]++Array.map a.eval c.args).extract 1 (#[Value.iface (fid.ty t) y]++Array.map a.eval c.args).size=Array.map a.eval c.args:=by
       apply Array.ext'; simp; try exact List.take_of_length_le (by simp)
      simp only[q0,q1]
      rw[qel hm,qaR k1]
      try simp
      try (apply Array.ext'; simp)
     ·cases h
    ·cases h
   ·cases hc
  ·refine (other ?_).elim
   clear h other
   repeat' (first
    | (cases hc; done)
    | (cases hc; rfl)
    | (cases hc; split<;>rfl)
    | (simp only[Option.map_eq_some_iff] at hc; obtain⟨_,_,rfl⟩:=hc; rfl)
    |split at hc)
 |panic x=>
  rw[ho] at hc
  simp only[qb7,Option.map_eq_some_iff] at hc
  obtain⟨y,hy,rfl⟩:=hc
  simp only[qa3] at h
  split at h
  ·rename_i t u hu
   cases h
   have hv:=qal hid hr hf hy hu
   refine⟨fun f _=>trivial,?_⟩
   rw[Oper.semAt_eq _ _ _ (by simp[ho])]
   have hrun:(execOp a.eval o).run P Γ.w = .halt (.panic (a.eval x)) Γ.w:=by
    have hv':=hv
    simp only[Rep] at hv'
    obtain⟨w,e,_⟩:=hv'
    simp only[execOp,ho,Instr.panic,e]
    rfl
   rw[hrun]
   exact hk Γ _ rfl hr (.refl _) hv
  ·cases h
 |next x b=>
  refine (other ?_).elim
  clear h other
  rw[ho] at hc
  cases b with
  |true=>cases hc
  |false=>
   simp only[qb7,Option.map_eq_some_iff] at hc
   obtain⟨_,_,rfl⟩:=hc
   rfl
 |makeFunc fn x y=>
  refine (other ?_).elim
  clear h other
  rw[ho] at hc
  cases fn<;>simp only[qb7] at hc
  all_goals repeat' (first
   | (cases hc; done)
   | (cases hc; rfl)
   | (simp only[Option.map_eq_some_iff] at hc; obtain⟨_,_,rfl⟩:=hc; rfl)
   |split at hc)
 |_=>
  refine (other ?_).elim
  clear h other
  rw[ho] at hc
  simp only[qb7] at hc
  repeat' (first
   | (cases hc; done)
   | (cases hc; rfl)
   | (simp only[Option.map_eq_some_iff] at hc; obtain⟨_,_,rfl⟩:=hc; rfl)
   | (simp only[Option.map_eq_some_iff] at hc; obtain⟨_,_,rfl⟩:=hc; split<;>rfl)
   |split at hc)
theorem qiq (hid:Ties P ids fid) (hC:CSound P fid C) {op:O} (hc:cOp P ids N o.op=some op) (hr:Real fid Γ) (hf:FrRep fid Γ N fr a.tmps) (h:qa3 C fr Γ.σ op=some (v,σ'))
  (hk : ∀ Γ' x,Γ'.σ = σ'->Real fid Γ'->Step Γ Γ'->Rep fid Γ' v x->Q (.panic [{ v:=x,recovered:=false }]) a Γ'.w):o.wpIn (FR ro) 0 P a Γ.w K Q:=by
 unfold cOp at hc
 split at hc
 ·rename_i hc'; cases hc; exact qlv hid hC hc' hr hf h hk
 ·cases hc; cases h
end
end
end Go.Pm
