/- Small stores: a part of a store renamed; a call's store laid back. -/
import Derived.Test.YtmigbfimahjacaaGreatDoorPmAL
import Derived.Test.YtmigbfimahjacaaGreatDoorPmJ2
set_option linter.unusedSimpArgs false
set_option linter.unusedVariables false
namespace Go.Pm
section
variable{fid:Fid}
structure Ren(r:Nat->Nat)(L:Nat->Prop)(Γ Γs:Ctx):Prop where
 F : Γs.F = Γ.F
 w : Γs.w = Γ.w
 μ : ∀ l,L l -> Γs.μ (r l) = Γ.μ l
 σ : ∀ l ob,L l -> Γ.σ[l]?=some ob -> Γs.σ[r l]?=some (ob.ren r)
theorem Ob.isTip_ren(r:Nat->Nat)(ob:Ob):(ob.ren r).isTip=ob.isTip:=by cases ob<;>rfl
theorem qbg(r:Nat->Nat) : ∀ vs,(qbl r vs).length=vs.length
 |[]=>rfl
 |v::vs=>by simp[qbl,qbg r vs]
theorem qhh(r:Nat->Nat) : ∀ ds:List D,qbl r (ds.map .dat)=ds.map .dat
 |[]=>rfl
 |d::ds=>by simp[qbl,V.ren,qhh r ds]
theorem Ob.fz_ren(r:Nat->Nat)(ob:Ob):(ob.ren r).fz=ob.fz:=by cases ob<;>rfl
theorem Ob.rows_ren(r:Nat->Nat)(ob:Ob):(ob.ren r).rows=ob.rows.map (qbl r):=by
 cases ob<;>simp[Ob.ren,Ob.rows,qhh]
theorem Ctx.fix.ren{r:Nat->Nat}{L:Nat->Prop}{Γ Γs:Ctx}(h:Ren r L Γ Γs){l:Nat}(hl:L l)(hf : Γ.fix l) : Γs.fix (r l):=by
 obtain⟨ob,h1,h2⟩:=hf
 exact⟨_,h.σ l ob hl h1,by rw[Ob.isTip_ren]; exact h2⟩
mutual
theorem Rep.ren{r:Nat->Nat}{L:Nat->Prop}{Γ Γs:Ctx}(h:Ren r L Γ Γs) : ∀ (v:V) (x:Value),(∀ l∈v.locs,L l)->Rep fid Γ v x->Rep fid Γs (v.ren r) x
 |.dat d,x,_,hr=>by simp only[Rep,V.ren] at hr ⊢; rw[h.F,h.w]; exact hr
 |.ptr l o,x,hl,hr=>by
  simp only[Rep,V.ren] at hr ⊢
  obtain⟨b,h1,h2,h3⟩:=hr
  have:=hl l (by simp[V.locs])
  exact⟨b,by rw[h.μ l this]; exact h1,h2,h3.ren h this⟩
 |.gsl cs n sz l,x,hl,hr=>by
  simp only[Rep,V.ren] at hr ⊢
  obtain⟨b,cap,vs,m,h1,h2,h3,h4,h5,h6,h7,h8,h9⟩:=hr
  have:=hl l (by simp[V.locs])
  rw[h.F,h.w,h.μ l this]
  exact⟨b,cap,vs,m,h1,h2,h3,h4,h5,h.σ l _ this h6,h7,h8,h9⟩
 |.msl l o n cap sz,x,hl,hr=>by
  simp only[Rep,V.ren] at hr ⊢
  obtain⟨b,h1,h2,h3,h4⟩:=hr
  have:=hl l (by simp[V.locs])
  exact⟨b,by rw[h.μ l this]; exact h1,h2,h3,h4.ren h this⟩
 |.own l n sz,x,hl,hr=>by
  simp only[Rep,V.ren] at hr ⊢
  obtain⟨a,cap,h1,h2,h0,⟨ob,h3,h4⟩,h5⟩:=hr
  have hl':=hl l (by simp[V.locs])
  have hσ := h.σ l ob hl' h3
  refine⟨a,cap,h1,h2,h0,⟨_,hσ,by rw[Ob.isTip_ren]; exact h4⟩,fun ob' cs' k1 k2=>?_⟩
  rw[hσ] at k1; cases k1
  rw[Ob.rows_ren,Wc] at k2
  obtain⟨cs,k2,rfl⟩:=k2
  rw[qbg,h.w,h.F,h.μ l hl',Ob.fz_ren]
  exact h5 ob cs h3 k2
 |.eptr l n o,x,hl,hr=>by
  simp only[Rep,V.ren] at hr ⊢
  obtain⟨a,h1,⟨ob,h3,h4⟩,h5⟩:=hr
  have hl':=hl l (by simp[V.locs])
  have hσ := h.σ l ob hl' h3
  refine⟨a,h1,⟨_,hσ,by rw[Ob.isTip_ren]; exact h4⟩,fun ob' cs' k1 k2=>?_⟩
  rw[hσ] at k1; cases k1
  rw[Ob.rows_ren,Wc] at k2
  obtain⟨cs,k2,rfl⟩:=k2
  rw[qbg,h.w,h.F,h.μ l hl',Ob.fz_ren]
  exact h5 ob cs h3 k2
 |.vw l n o k sz,x,hl,hr=>by
  simp only[Rep,V.ren] at hr ⊢
  obtain⟨a,cap,h1,h2,h0,⟨ob,h3,h4⟩,h5⟩:=hr
  have hl':=hl l (by simp[V.locs])
  have hσ := h.σ l ob hl' h3
  refine⟨a,cap,h1,h2,h0,⟨_,hσ,by rw[Ob.isTip_ren]; exact h4⟩,fun ob' cs' k1 k2=>?_⟩
  rw[hσ] at k1; cases k1
  rw[Ob.rows_ren,Wc] at k2
  obtain⟨cs,k2,rfl⟩:=k2
  rw[qbg,h.w,h.F,h.μ l hl',Ob.fz_ren]
  exact h5 ob cs h3 k2
 |.rw cs n,x,hl,hr=>by
  simp only[Rep,V.ren] at hr ⊢
  obtain⟨b,o,cap,vs,h1,h2,h3,h4⟩:=hr
  exact⟨b,o,cap,vs,h1,h2,Reps.ren h cs vs (by simpa [V.locs] using hl) h3,by rw[h.F,h.w]; exact h4⟩
 |.bm g v,x,hl,hr=>by
  simp only[Rep,V.ren] at hr ⊢
  obtain⟨t,nm,y,h1,h2,h3⟩:=hr
  exact⟨t,nm,y,h1,h2,Rep.ren h v y (fun l hl'=>hl l (by simpa [V.locs] using hl')) h3⟩
 |.agg cs,x,hl,hr=>by
  simp only[Rep,V.ren] at hr ⊢
  obtain⟨vs,h1,h2⟩:=hr
  exact⟨vs,h1,Reps.ren h cs vs (fun l hl'=>hl l (by simpa [V.locs] using hl')) h2⟩
 |.fn f a b,x,hl,hr=>by
  simp only[Rep,V.ren] at hr ⊢
  obtain⟨as,bs,h1,h2,h3⟩:=hr
  exact⟨as,bs,h1,Reps.ren h a as (fun l hl'=>hl l (by simp[V.locs,hl'])) h2,Reps.ren h b bs (fun l hl'=>hl l (by simp[V.locs,hl'])) h3⟩
 |.mp l,x,hl,hr=>by
  simp only[Rep,V.ren] at hr ⊢
  obtain⟨b,h1,h2,h3⟩:=hr
  have:=hl l (by simp[V.locs])
  exact⟨b,by rw[h.μ l this]; exact h1,h2,h3.ren h this⟩
 |.iface t v,x,hl,hr=>by
  simp only[Rep,V.ren] at hr ⊢
  obtain⟨y,h1,h2⟩:=hr
  exact⟨y,h1,Rep.ren h v y (fun l hl'=>hl l (by simpa [V.locs] using hl')) h2⟩
 |.tup vs,x,hl,hr=>by
  simp only[Rep,V.ren] at hr ⊢
  obtain⟨xs,h1,h2⟩:=hr
  exact⟨xs,h1,Reps.ren h vs xs (fun l hl'=>hl l (by simpa [V.locs] using hl')) h2⟩
 |.yld l,x,hl,hr=>by
  simp only[Rep,V.ren] at hr ⊢
  obtain⟨b,h1,h2,h3⟩:=hr
  have:=hl l (by simp[V.locs])
  exact⟨b,by rw[h.μ l this]; exact h1,h2,h3.ren h this⟩
 |.pan _,x,hl,hr=>by simp only[Rep] at hr
theorem Reps.ren{r:Nat->Nat}{L:Nat->Prop}{Γ Γs:Ctx}(h:Ren r L Γ Γs) : ∀ (vs:List V) (xs:List Value),(∀ l∈qau vs,L l)->Reps fid Γ vs xs->Reps fid Γs (qbl r vs) xs
 |[],xs,_,hr=>by simpa only [Reps,qbl] using hr
 |d::ds,xs,hl,hr=>by
  simp only[Reps,qbl] at hr ⊢
  obtain⟨y,ys,h1,h2,h3⟩:=hr
  exact⟨y,ys,h1,Rep.ren h d y (fun l hl'=>hl l (by simp[qau,hl'])) h2,Reps.ren h ds ys (fun l hl'=>hl l (by simp[qau,hl'])) h3⟩
end
theorem RepE.ren{r:Nat->Nat}{L:Nat->Prop}{Γ Γs:Ctx}(h:Ren r L Γ Γs) : ∀ (es:List (Value × V)) (xs:List MapEntry),(∀ l∈qc7 es,L l)->RepE fid Γ es xs->RepE fid Γs (qjW r es) xs
 |[],xs,_,hr=>by simpa only [RepE,qjW] using hr
 | (k,v)::es,xs,hl,hr=>by
  simp only[RepE,qjW] at hr ⊢
  obtain⟨e,es',h1,h2,h3,h4⟩:=hr
  exact⟨e,es',h1,h2,Rep.ren h v e.val (fun l hl'=>hl l (by simp[qc7,hl'])) h3,RepE.ren h es es' (fun l hl'=>hl l (by simp[qc7,hl'])) h4⟩
theorem qj1{r:Nat->Nat} : ∀ {fr:Fr} {t:Nat} {v:V},(qd8 r fr).get t=some v -> ∃ u,fr.get t=some u/\v=u.ren r /\ ∀ l∈u.locs,l∈qaR fr
 |[],t,v,h=>by simp[qd8,Fr.get] at h
 | (k,u)::fr,t,v,h=>by
  simp only[qd8,Fr.get] at h ⊢
  split at h
  ·rename_i e
   cases h
   exact⟨u,by rw[if_pos e],rfl,fun l hl=>by simp[qaR,hl]⟩
  ·rename_i e
   obtain⟨u',h1,h2,h3⟩:=qj1 h
   exact⟨u',by rw[if_neg e]; exact h1,h2,fun l hl=>by simp[qaR,h3 l hl]⟩
mutual
theorem qga{r:Nat->Nat} : ∀ {v:V} {l:Nat},l∈(v.ren r).locs -> ∃ l'∈v.locs,l=r l'
 |.dat _,l,h=>by simp[V.ren,V.locs] at h
 |.ptr l' o,l,h=>by simp[V.ren,V.locs] at h ⊢; exact h
 |.gsl _ _ _ l',l,h=>by simp[V.ren,V.locs] at h ⊢; exact h
 |.msl l' _ _ _ _,l,h=>by simp[V.ren,V.locs] at h ⊢; exact h
 |.own l' _ _,l,h=>by simp[V.ren,V.locs] at h ⊢; exact h
 |.eptr l' _ _,l,h=>by simp[V.ren,V.locs] at h ⊢; exact h
 |.vw l' _ _ _ _,l,h=>by simp[V.ren,V.locs] at h ⊢; exact h
 |.rw cs _,l,h=>by simp only[V.ren,V.locs] at h ⊢; exact qdS h
 |.bm _ v,l,h=>by simp only[V.ren,V.locs] at h ⊢; exact qga h
 |.agg cs,l,h=>by simp only[V.ren,V.locs] at h ⊢; exact qdS h
 |.fn f a b,l,h=>by
  simp only[V.ren,V.locs,We] at h ⊢
  rcases h with h|h
  ·obtain⟨l',h1,h2⟩:=qdS h; exact⟨l',.inl h1,h2⟩
  ·obtain⟨l',h1,h2⟩:=qdS h; exact⟨l',.inr h1,h2⟩
 |.mp l',l,h=>by simp[V.ren,V.locs] at h ⊢; exact h
 |.iface _ v,l,h=>by simp only[V.ren,V.locs] at h ⊢; exact qga h
 |.tup vs,l,h=>by simp only[V.ren,V.locs] at h ⊢; exact qdS h
 |.yld l',l,h=>by simp[V.ren,V.locs] at h ⊢; exact h
 |.pan v,l,h=>by simp only[V.ren,V.locs] at h ⊢; exact qga h
theorem qdS{r:Nat->Nat} : ∀ {vs:List V} {l:Nat},l∈qau (qbl r vs) -> ∃ l'∈qau vs,l=r l'
 |[],l,h=>by simp[qbl,qau] at h
 |v::vs,l,h=>by
  simp only[qbl,qau,We] at h ⊢
  rcases h with h|h
  ·obtain⟨l',h1,h2⟩:=qga h; exact⟨l',.inl h1,h2⟩
  ·obtain⟨l',h1,h2⟩:=qdS h; exact⟨l',.inr h1,h2⟩
end
theorem qls{r:Nat->Nat} : ∀ {fr:Fr} {l:Nat},l∈qaR (qd8 r fr) -> ∃ l'∈qaR fr,l=r l'
 |[],l,h=>by simp[qd8,qaR] at h
 | (_,v)::vs,l,h=>by
  simp only[qd8,qaR,We] at h ⊢
  rcases h with h|h
  ·obtain⟨l',h1,h2⟩:=qga h; exact⟨l',.inl h1,h2⟩
  ·obtain⟨l',h1,h2⟩:=qls h; exact⟨l',.inr h1,h2⟩
theorem FrRep.ren{r:Nat->Nat}{L:Nat->Prop}{Γ Γs:Ctx}(h:Ren r L Γ Γs){N:Nat}{fr:Fr}{tmps:Array Value}(hl : ∀ l∈qaR fr,L l)(hf:FrRep fid Γ N fr tmps):FrRep fid Γs N (qd8 r fr) tmps:=by
 refine⟨hf.1,fun t v ht hv=>?_⟩
 obtain⟨u,h1,rfl,h3⟩:=qj1 hv
 exact Rep.ren h u _ (fun l hl'=>hl l (h3 l hl')) (hf.2 t u ht h1)
theorem RepOb.ren{r:Nat->Nat}{L:Nat->Prop}{Γ Γs:Ctx}(h:Ren r L Γ Γs){b:Nat} : ∀ (ob:Ob),(∀ l∈ob.locs,L l)->RepOb fid Γ b ob->RepOb fid Γs b (ob.ren r)
 |.cells cs,hl,hr=>by
  simp only[RepOb,Ob.ren] at hr ⊢
  obtain⟨h1,arr,e,h2,h3⟩:=hr
  exact⟨by rw[h.F]; exact h1,arr,e,by rw[h.w]; exact h2,Reps.ren h cs _ hl h3⟩
 |.map es,hl,hr=>by
  simp only[RepOb,Ob.ren] at hr ⊢
  obtain⟨h1,arr,e,h2,h3⟩:=hr
  exact⟨by rw[h.F]; exact h1,arr,e,by rw[h.w]; exact h2,RepE.ren h es _ hl h3⟩
 |.tip m,_,hr=>by
  simp only[RepOb,Ob.ren] at hr ⊢
  rw[h.F]; exact hr
 |.vec cs,hl,hr=>by
  simp only[RepOb,Ob.ren] at hr ⊢
  obtain⟨arr,e,h2,h3,h4,h5⟩:=hr
  rw[qbg,h.F]
  exact⟨arr,e,by rw[h.w]; exact h2,h3,Reps.ren h cs _ hl h4,h5⟩
 |.cellsT t cs,hl,hr=>by
  simp only[RepOb,Ob.ren] at hr ⊢
  obtain⟨h1,arr,h2,h3⟩:=hr
  exact⟨by rw[h.F]; exact h1,arr,by rw[h.w]; exact h2,Reps.ren h cs _ hl h3⟩
 |.vecT t cs,hl,hr=>by
  simp only[RepOb,Ob.ren] at hr ⊢
  obtain⟨h1,arr,h2,h3,h4,h5⟩:=hr
  rw[qbg]
  exact⟨by rw[h.F]; exact h1,arr,by rw[h.w]; exact h2,h3,Reps.ren h cs _ hl h4,h5⟩
 |.froz ds,hl,hr=>by
  simp only[RepOb,Ob.ren] at hr ⊢
  rw[h.F,h.w]; exact hr
 |.iter m,hl,hr=>by
  simp only[RepOb,Ob.ren] at hr ⊢
  obtain⟨h1,c,s,n,t,h2,h3,h4⟩:=hr
  have hm:=hl m (by simp[Ob.locs])
  exact⟨by rw[h.F]; exact h1,c,s,n,t,by rw[h.μ m hm]; exact h2,h3.ren h hm,by rw[h.w]; exact h4⟩
 |.dead,hl,hr=>by simp only[RepOb] at hr
 |.loop lp,hl,hr=>by
  simp only[RepOb,Ob.ren] at hr ⊢
  obtain⟨h1,M,h2,h3,h4,h5,N,h6,h7,h8,h9,h10⟩:=hr
  refine⟨by rw[h.F]; exact h1,M,by rw[h.w]; exact h2,h3,h4,h5,N,h6,h7,h8,FrRep.ren h hl h9,fun l hl'=>?_⟩
  obtain⟨l',hm,rfl⟩:=qls hl'
  have:=h10 l' hm
  exact (Wb.1 (h.σ l' (Γ.σ[l']'this) (hl l' hm) (by simp))).1
mutual
theorem Rep.lt{Γ : Ctx} : ∀ (v:V) (x:Value),Rep fid Γ v x -> ∀ l∈v.locs,l < Γ.σ.length
 |.dat d,x,_,l,hl=>by simp[V.locs] at hl
 |.ptr l' o,x,hr,l,hl=>by
  simp only[Rep] at hr
  obtain⟨b,h1,h2,ob,h3,_⟩:=hr
  simp[V.locs] at hl; subst hl
  exact (Wb.1 h3).1
 |.gsl cs n sz l',x,hr,l,hl=>by
  simp only[Rep] at hr
  obtain⟨b,cap,vs,m,_,_,_,_,_,h6,_⟩:=hr
  simp[V.locs] at hl; subst hl
  exact (Wb.1 h6).1
 |.msl l' o n cap sz,x,hr,l,hl=>by
  simp only[Rep] at hr
  obtain⟨b,h1,h2,_,ob,h3,_⟩:=hr
  simp[V.locs] at hl; subst hl
  exact (Wb.1 h3).1
 |.own l' n sz,x,hr,l,hl=>by
  simp only[Rep] at hr
  obtain⟨a,cap,_,_,_,⟨ob,h3,_⟩,_⟩:=hr
  simp[V.locs] at hl; subst hl
  exact (Wb.1 h3).1
 |.eptr l' n o,x,hr,l,hl=>by
  simp only[Rep] at hr
  obtain⟨a,_,⟨ob,h3,_⟩,_⟩:=hr
  simp[V.locs] at hl; subst hl
  exact (Wb.1 h3).1
 |.vw l' n o k sz,x,hr,l,hl=>by
  simp only[Rep] at hr
  obtain⟨a,cap,_,_,_,⟨ob,h3,_⟩,_⟩:=hr
  simp[V.locs] at hl; subst hl
  exact (Wb.1 h3).1
 |.rw cs n,x,hr,l,hl=>by
  simp only[Rep] at hr
  obtain⟨b,o,cap,vs,_,_,h,_⟩:=hr
  exact Reps.lt cs vs h l (by simpa [V.locs] using hl)
 |.bm g v,x,hr,l,hl=>by
  simp only[Rep] at hr
  obtain⟨t,nm,y,_,_,h⟩:=hr
  exact Rep.lt v y h l (by simpa [V.locs] using hl)
 |.agg cs,x,hr,l,hl=>by
  simp only[Rep] at hr
  obtain⟨vs,_,h⟩:=hr
  exact Reps.lt cs vs h l (by simpa [V.locs] using hl)
 |.fn f a b,x,hr,l,hl=>by
  simp only[Rep] at hr
  obtain⟨as,bs,_,h1,h2⟩:=hr
  simp only[V.locs,We] at hl
  rcases hl with hl|hl
  ·exact Reps.lt a as h1 l hl
  ·exact Reps.lt b bs h2 l hl
 |.mp l',x,hr,l,hl=>by
  simp only[Rep] at hr
  obtain⟨b,h1,h2,ob,h3,_⟩:=hr
  simp[V.locs] at hl; subst hl
  exact (Wb.1 h3).1
 |.iface t v,x,hr,l,hl=>by
  simp only[Rep] at hr
  obtain⟨y,_,h⟩:=hr
  exact Rep.lt v y h l (by simpa [V.locs] using hl)
 |.tup vs,x,hr,l,hl=>by
  simp only[Rep] at hr
  obtain⟨xs,_,h⟩:=hr
  exact Reps.lt vs xs h l (by simpa [V.locs] using hl)
 |.yld l',x,hr,l,hl=>by
  simp only[Rep] at hr
  obtain⟨b,h1,h2,ob,h3,_⟩:=hr
  simp[V.locs] at hl; subst hl
  exact (Wb.1 h3).1
 |.pan _,x,hr,l,hl=>by simp only[Rep] at hr
theorem Reps.lt{Γ : Ctx} : ∀ (vs:List V) (xs:List Value),Reps fid Γ vs xs -> ∀ l∈qau vs,l < Γ.σ.length
 |[],xs,_,l,hl=>by simp[qau] at hl
 |d::ds,xs,hr,l,hl=>by
  simp only[Reps] at hr
  obtain⟨y,ys,_,h2,h3⟩:=hr
  simp only[qau,We] at hl
  rcases hl with hl|hl
  ·exact Rep.lt d y h2 l hl
  ·exact Reps.lt ds ys h3 l hl
end
theorem RepE.lt{Γ : Ctx} : ∀ (es:List (Value × V)) (xs:List MapEntry),RepE fid Γ es xs -> ∀ l∈qc7 es,l < Γ.σ.length
 |[],xs,_,l,hl=>by simp[qc7] at hl
 | (k,v)::es,xs,hr,l,hl=>by
  simp only[RepE] at hr
  obtain⟨e,es',_,_,h2,h3⟩:=hr
  simp only[qc7,We] at hl
  rcases hl with hl|hl
  ·exact Rep.lt v _ h2 l hl
  ·exact RepE.lt es es' h3 l hl
theorem RepOb.lt{Γ : Ctx}{b:Nat} : ∀ (ob:Ob),RepOb fid Γ b ob -> ∀ l∈ob.locs,l < Γ.σ.length
 |.cells cs,hr,l,hl=>by simp only[RepOb] at hr; obtain⟨_,arr,e,_,h⟩:=hr; exact Reps.lt cs _ h l hl
 |.map es,hr,l,hl=>by simp only[RepOb] at hr; obtain⟨_,arr,e,_,h⟩:=hr; exact RepE.lt es _ h l hl
 |.tip m,_,l,hl=>by simp[Ob.locs] at hl
 |.vec cs,hr,l,hl=>by simp only[RepOb] at hr; obtain⟨arr,e,_,_,h,_⟩:=hr; exact Reps.lt cs _ h l hl
 |.cellsT t cs,hr,l,hl=>by simp only[RepOb] at hr; obtain⟨_,arr,_,h⟩:=hr; exact Reps.lt cs _ h l hl
 |.vecT t cs,hr,l,hl=>by simp only[RepOb] at hr; obtain⟨_,arr,_,_,h,_⟩:=hr; exact Reps.lt cs _ h l hl
 |.froz ds,_,l,hl=>by simp[Ob.locs] at hl
 |.dead,_,l,hl=>by simp[Ob.locs] at hl
 |.iter m,hr,l,hl=>by
  simp only[RepOb] at hr
  obtain⟨_,_,_,_,_,_,⟨ob,h3,_⟩,_⟩:=hr
  simp[Ob.locs] at hl; subst hl
  exact (Wb.1 h3).1
 |.loop lp,hr,l,hl=>by simp only[RepOb] at hr; obtain⟨_,M,_,_,_,_,N,_,_,_,_,h⟩:=hr; exact h l hl
theorem qeb{L:List Nat} : ∀ {ks:List Nat},inL L ks=true -> ∀ k∈ks,k∈L
 |[],_,k,hk=>by cases hk
 |a::ks,h,k,hk=>by
  simp only[inL,Wh,Yo,decide_eq_true_eq] at h
  rcases Wq.1 hk with rfl|hk
  ·exact h.1
  ·exact qeb h.2 k hk
theorem qh8 : ∀ {L:List Nat},qeN L=true->L.Nodup
 |[],_=>List.nodup_nil
 |k::ks,h=>by
  simp only[qeN,Wh,Bool.not_eq_true',Yo,decide_eq_false_iff_not] at h
  exact W0.2 ⟨h.1,qh8 h.2⟩
theorem qbG : ∀ {L:List Nat} {l:Nat},l∈L->L[idx L l]?=some l
 |k::ks,l,h=>by
  simp only[idx]
  by_cases e:k=l
  ·simp[e]
  ·rw[if_neg e]
   have:l∈ks:=by
    rcases Wq.1 h with rfl|h
    ·exact absurd rfl e
    ·exact h
   simpa using qbG this
theorem qbN : ∀ {L:List Nat} {i l:Nat},L.Nodup->L[i]?=some l->idx L l=i
 |[],i,l,_,h=>by simp at h
 |k::ks,i,l,hn,h=>by
  obtain⟨h1,h2⟩:=W0.1 hn
  cases i with
  |zero=>simp at h; simp[idx,h]
  |succ i=>
   have h':ks[i]?=some l:=by simpa using h
   have hm:l∈ks:=Wv h'
   simp only[idx]
   rw[if_neg (fun e=>h1 (by rw[e]; exact hm)),qbN h2 h']
theorem qh9{σ : S} : ∀ {L:List Nat} {obs:List Ob},qc9 σ L=some obs->obs.length=L.length /\ ∀ (i l:Nat),L[i]?=some l -> ∃ ob,obs[i]?=some ob /\ σ[l]?=some ob
 |[],obs,h=>by simp only[qc9,Wd] at h; subst h; simp
 |k::ks,obs,h=>by
  simp only[qc9] at h
  split at h
  ·rename_i ob obs' h1 h2
   cases h
   obtain⟨h3,h4⟩:=qh9 h2
   refine⟨by simp[h3],fun i l hi=>?_⟩
   cases i with
   |zero=>simp at hi; subst hi; exact⟨ob,rfl,h1⟩
   |succ i=>exact h4 i l (by simpa using hi)
  ·cases h
theorem qec{L:List Nat} : ∀ {obs:List Ob},closed L obs=true -> ∀ ob∈obs,∀ l∈ob.locs,l∈L
 |[],_,ob,hob=>by cases hob
 |o::obs,h,ob,hob=>by
  simp only[closed,Wh] at h
  rcases Wq.1 hob with rfl|hob
  ·exact qeb h.1
  ·exact qec h.2 ob hob
def Ctx.part(Γ : Ctx)(L:List Nat)(σs:S):Ctx:=⟨σs,fun i=>(L[i]?).bind Γ.μ,Γ.F,Γ.w⟩
theorem qaW {Γ : Ctx} (hr:Real fid Γ) {L:List Nat} {vs vs':List V} {σs:S} (h:qaO L vs Γ.σ = some (vs',σs)) :
  L.Nodup /\ σs.length=L.length/\(∀ l∈L,l < Γ.σ.length)/\Ren (idx L) (· ∈ L) Γ (Γ.part L σs)/\Real fid (Γ.part L σs)/\(∀ xs,Reps fid Γ vs xs->Reps fid (Γ.part L σs) vs' xs):=by
 unfold qaO at h
 split at h
 ·rename_i obs hobs
  split at h
  ·rename_i hcond
   simp only[Wh] at hcond
   obtain⟨h1,h2,h3⟩:=hcond
   cases h
   have hn:=qh8 h1
   obtain⟨g1,g2⟩:=qh9 hobs
   have hlt : ∀ l∈L,l < Γ.σ.length:=fun l hl=>by
    obtain⟨ob,_,h⟩:=g2 _ l (qbG hl)
    exact (Wb.1 h).1
   have hren:Ren (idx L) (· ∈ L) Γ (Γ.part L (obs.map (Ob.ren (idx L)))):=by
    refine⟨rfl,rfl,fun l hl=>?_,fun l ob hl ho=>?_⟩
    ·simp only[Ctx.part,qbG hl,Option.bind_some]
    ·obtain⟨ob',h4,h5⟩:=g2 _ l (qbG hl)
     rw[ho] at h5; cases h5
     simp only[Ctx.part,WZ,h4,WO]
   have hget : ∀ (i l:Nat) (ob:Ob),L[i]?=some l->(obs.map (Ob.ren (idx L)))[i]?=some ob -> ∃ ob',Γ.σ[l]?=some ob'/\ob'∈obs/\ob=ob'.ren (idx L):=fun i l ob hi ho=>by
    obtain⟨ob',h4,h5⟩:=g2 i l hi
    simp only[WZ,h4,WO,Wd] at ho
    exact⟨ob',h5,Wv h4,ho.symm⟩
   refine⟨hn,by simp[g1],hlt,hren,⟨fun i ob b ho hm=>?_,fun i b hm=>?_,fun i j b hi hj=>?_,hr.imm,hr.glb⟩,fun xs hx=>Reps.ren hren vs xs (qeb h2) hx⟩
   ·simp only[Ctx.part] at hm ho
    cases hl:L[i]? with
    |none=>rw[hl] at hm; cases hm
    |some l=>
     rw[hl] at hm
     obtain⟨ob',k1,k2,rfl⟩:=hget i l ob hl ho
     exact RepOb.ren hren ob' (qec h3 ob' k2) (hr.obs l ob' b k1 hm)
   ·simp only[Ctx.part] at hm ⊢
    cases hl:L[i]? with
    |none=>rw[hl] at hm; cases hm
    |some l=>
     rw[hl] at hm
     exact⟨by rw[Wf,g1]; exact (Wb.1 hl).1,(hr.dom l b hm).2⟩
   ·simp only[Ctx.part] at hi hj
    cases hl:L[i]? with
    |none=>rw[hl] at hi; cases hi
    |some l=>
     cases hl':L[j]? with
     |none=>rw[hl'] at hj; cases hj
     |some l'=>
      rw[hl] at hi; rw[hl'] at hj
      have:=hr.inj l l' b hi hj
      subst this
      rw[<- qbN hn hl,<- qbN hn hl']
  ·cases h
 ·cases h
theorem qcS : ∀ {L:List Nat} {σ : S} {obs:List Ob},L.Nodup->(∀ l∈L,l < σ.length)->L.length<=obs.length ->
  (qaF σ L obs).length = σ.length+(obs.length-L.length)/\(∀ (i l:Nat),L[i]?=some l->(qaF σ L obs)[l]?=obs[i]?) /\
  (∀ (l:Nat),l < σ.length->l∉L->(qaF σ L obs)[l]? = σ[l]?) /\ ∀ (j:Nat),(qaF σ L obs)[σ.length+j]?=obs[L.length+j]?
 |[],σ,obs,_,_,_=>by
  refine⟨by simp[qaF],by simp,fun l hl _=>?_,fun j=>?_⟩
  ·simp only[qaF]; rw[Wo hl]
  ·simp only[qaF]; rw[WC (by omega)]; simp
 |k::ks,σ,[],_,_,h=>by simp at h
 |k::ks,σ,ob::obs,hn,hlt,hle=>by
  obtain⟨h1,h2⟩:=W0.1 hn
  have hk:=hlt k (by simp)
  obtain⟨g1,g2,g3,g4⟩:=qcS (L:=ks) (σ := σ.set k ob) (obs:=obs) h2 (fun l hl=>by simpa using hlt l (by simp[hl])) (by simpa using hle)
  simp only[List.length_set] at g1 g3 g4
  refine⟨by simp only[qaF,g1,WK]; omega,fun i l hi=>?_,fun l hl hm=>?_,fun j=>?_⟩
  ·cases i with
   |zero=>
    simp at hi; subst hi
    simp only[qaF]
    rw[g3 k hk h1]
    simp[hk]
   |succ i=>simp only[qaF]; rw[g2 i l (by simpa using hi)]; simp
  ·simp only[qaF]
   rw[g3 l hl (fun h=>hm (by simp[h])),Wj (fun e=>hm (by simp[e]))]
  ·simp only[qaF]
   rw[g4 j]
   simp only[WK]
   rw[show ks.length+1+j=(ks.length+j)+1 from by omega]
   simp
theorem qgb {Γ : Ctx} (hr:Real fid Γ) {L:List Nat} {σs:S} (hn:L.Nodup) (hlt : ∀ l∈L,l < Γ.σ.length) (hren:Ren (idx L) (· ∈ L) Γ (Γ.part L σs)) (hlen : σs.length=L.length)
  {Γs':Ctx} (hr':Real fid Γs') (hst:Step (Γ.part L σs) Γs') :
  ∃ Γ':Ctx,Γ'.σ = qaF Γ.σ L (Γs'.σ.map (Ob.ren (back L Γ.σ.length))) /\ Γ'.w = Γs'.w/\Real fid Γ'/\Step Γ Γ' /\ ∀ v x,Rep fid Γs' v x->Rep fid Γ' (v.ren (back L Γ.σ.length)) x:=by
 have hle:L.length <= Γs'.σ.length:=by have:=hst.ext.len; simp only[Ctx.part,hlen] at this; exact this
 obtain⟨g1,g2,g3,g4⟩:=qcS (σ := Γ.σ) (obs := Γs'.σ.map (Ob.ren (back L Γ.σ.length))) hn hlt (by simpa using hle)
 simp only[Wf] at g1
 let Γ':Ctx:=⟨qaF Γ.σ L (Γs'.σ.map (Ob.ren (back L Γ.σ.length))),fun l=>if l∈L then Γs'.μ (idx L l) else if l < Γ.σ.length then Γ.μ l else Γs'.μ (L.length+(l - Γ.σ.length)),Γs'.F,Γs'.w⟩
 have hback : ∀ i,i < Γs'.σ.length -> Γ'.μ (back L Γ.σ.length i) = Γs'.μ i /\ Γ'.σ[back L Γ.σ.length i]?=(Γs'.σ[i]?).map (Ob.ren (back L Γ.σ.length)):=fun i hi=>by
  unfold back
  cases hl:L[i]? with
  |some l=>
   have hm:=Wv hl
   refine⟨by simp only[Γ',hm,if_true,qbN hn hl],?_⟩
   simp only[Γ']
   rw[g2 i l hl,WZ]
   rfl
  |none=>
   have hi':L.length<=i:=List.getElem?_eq_none_iff.1 hl
   have hnm : ¬ (Γ.σ.length+(i-L.length))∈L:=fun h=>by have:=hlt _ h; omega
   refine⟨?_,?_⟩
   ·simp only[Γ',hnm,if_false]
    rw[if_neg (by omega)]
    congr 1; omega
   ·simp only[Γ']
    rw[g4,WZ,show L.length+(i-L.length)=i from by omega]
    rfl
 have hren':Ren (back L Γ.σ.length) (· < Γs'.σ.length) Γs' Γ':=⟨rfl,rfl,fun i hi=>(hback i hi).1,fun i ob hi ho=>by rw[(hback i hi).2,ho]; rfl⟩
 have hcase : ∀ l,l < Γ'.σ.length->(∃ i,i < Γs'.σ.length/\l=back L Γ.σ.length i)\/(l < Γ.σ.length/\l∉L):=fun l hl=>by
  by_cases hm:l∈L
  ·refine .inl ⟨idx L l,?_,?_⟩
   ·have:=(Wb.1 (qbG hm)).1; omega
   ·simp only[back,qbG hm]
  ·by_cases h:l < Γ.σ.length
   ·exact .inr ⟨h,hm⟩
   ·have h2:l < Γ.σ.length+(Γs'.σ.length-L.length):=by rw[<- g1]; exact hl
    refine .inl ⟨L.length+(l - Γ.σ.length),by omega,?_⟩
    simp only[back]
    rw[WX (by omega)]
    simp only; omega
 have hold : ∀ l,l < Γ.σ.length->l∉L -> Γ'.μ l = Γ.μ l /\ Γ'.σ[l]? = Γ.σ[l]?:=fun l hl hm=>by
  refine⟨by simp only[Γ',hm,if_false,hl,if_true],g3 l hl hm⟩
 have hpart : ∀ i b,(Γ.part L σs).μ i=some b -> ∃ l,L[i]?=some l /\ Γ.μ l=some b:=fun i b h=>by
  simp only[Ctx.part] at h
  cases hl:L[i]? with
  |none=>rw[hl] at h; cases h
  |some l=>rw[hl] at h; exact⟨l,rfl,h⟩
 have hheap : ∀ l b,l∉L -> Γ.μ l=some b -> Γs'.w.heap[b]? = Γ.w.heap[b]?:=fun l b hm hb=>by
  refine (hst.frm.same b (hr.dom l b hb).2 fun i hi=>?_).1
  obtain⟨l',hl',hm'⟩:=hpart i b hi
  have:=hr.inj l l' b hb hm'
  subst this
  exact hm (Wv hl')
 have hfree : ∀ l b,l∉L -> Γ.μ l=some b -> Γs'.F b = Γ.F b:=fun l b hm hb=>by
  refine (hst.frm.same b (hr.dom l b hb).2 fun i hi=>?_).2
  obtain⟨l',hl',hm'⟩:=hpart i b hi
  have:=hr.inj l l' b hb hm'
  subst this
  exact hm (Wv hl')
 have hext:Ext Γ Γ':=by
  refine⟨hst.ext.size,hst.ext.os,hst.ext.tape,hst.ext.output,hst.ext.mono,hst.ext.cell,hst.ext.arr,by simp only[Γ',g1]; omega,fun l ob ho ht=>?_,fun l m ho=>?_,fun l ob ho ht=>?_⟩
  ·have hl:=(Wb.1 ho).1
   by_cases hm:l∈L
   ·have h1:=hren.σ l ob hm ho
    obtain⟨⟨ob',h2,h3⟩,h4⟩:=hst.ext.fix (idx L l) _ h1 (by rw[Ob.isTip_ren]; exact ht)
    have hi:=(Wb.1 h2).1
    have hb:back L Γ.σ.length (idx L l)=l:=by simp only[back,qbG hm]
    obtain⟨k1,k2⟩:=hback _ hi
    rw[hb] at k1 k2
    refine⟨⟨ob'.ren (back L Γ.σ.length),by rw[k2,h2]; rfl,by rw[Ob.isTip_ren]; exact h3⟩,fun b hb'=>?_⟩
    rw[k1]
    exact h4 b (by rw[hren.μ l hm]; exact hb')
   ·obtain⟨k1,k2⟩:=hold l hl hm
    exact⟨⟨ob,by rw[k2]; exact ho,ht⟩,fun b hb=>by rw[k1]; exact hb⟩
  ·have hl:=(Wb.1 ho).1
   by_cases hm:l∈L
   ·have h1:=hren.σ l _ hm ho
    obtain⟨m',h2,h3,h4,h5⟩:=hst.ext.tip (idx L l) m h1
    have hi:=(Wb.1 h2).1
    have hb:back L Γ.σ.length (idx L l)=l:=by simp only[back,qbG hm]
    obtain⟨k1,k2⟩:=hback _ hi
    rw[hb] at k1 k2
    refine⟨m',by rw[k2,h2]; rfl,h3,fun hs=>?_,fun e b hb'=>?_⟩
    ·rw[k1]; exact h4 (by rw[hren.μ l hm]; exact hs)
    ·rw[k1]; exact h5 e b (by rw[hren.μ l hm]; exact hb')
   ·obtain⟨k1,k2⟩:=hold l hl hm
    exact⟨m,by rw[k2]; exact ho,Wg _,fun hs=>by rw[k1]; exact hs,fun _ b hb=>by rw[k1]; exact hb⟩
  ·have hl:=(Wb.1 ho).1
   by_cases hm:l∈L
   ·have h1:=hren.σ l ob hm ho
    obtain⟨ob',h2,h3,h4⟩:=hst.ext.row (idx L l) _ h1 (by rw[Ob.isTip_ren]; exact ht)
    have hi:=(Wb.1 h2).1
    have hb:back L Γ.σ.length (idx L l)=l:=by simp only[back,qbG hm]
    obtain⟨k1,k2⟩:=hback _ hi
    rw[hb] at k1 k2
    refine⟨ob'.ren (back L Γ.σ.length),by rw[k2,h2]; rfl,by rw[Ob.isTip_ren]; exact h3,fun cs' hc=>?_⟩
    rw[Ob.rows_ren,Wc] at hc
    obtain⟨cs1,hc,rfl⟩:=hc
    obtain⟨cs,c1,c2,c3⟩:=h4 cs1 hc
    rw[Ob.rows_ren,Wc] at c1
    obtain⟨cs0,c1,rfl⟩:=c1
    rw[qbg] at c2 c3
    refine⟨cs0,c1,by rw[qbg]; exact c2,fun e b hb'=>?_⟩
    rw[qbg] at e
    obtain⟨e1,ef,e2⟩:=c3 e b (by rw[hren.μ l hm]; exact hb')
    rw[Ob.fz_ren] at ef
    exact⟨by rw[k1]; exact e1,by rw[Ob.fz_ren]; exact ef,e2⟩
   ·obtain⟨k1,k2⟩:=hold l hl hm
    exact⟨ob,by rw[k2]; exact ho,ht,fun cs hc=>⟨cs,hc,Wg _,fun _ b hb=>⟨by rw[k1]; exact hb,by show Γs'.F b-_=_; rw[hfree l b hm hb],fun arr e ha=>⟨arr,by show Γs'.w.heap[b]?=_; rw[hheap l b hm hb]; exact ha,rfl⟩⟩⟩⟩
 have hsep : ∀ i l b,Γs'.μ i=some b->l < Γ.σ.length->l∉L -> Γ.μ l=some b->False:=fun i l b h1 h2 h3 h4=>by
  obtain⟨j,hj⟩:=hst.frm.new i b h1 (hr.dom l b h4).2
  obtain⟨l',hl',hm'⟩:=hpart j b hj
  have:=hr.inj l l' b h4 hm'
  subst this
  exact h3 (Wv hl')
 refine⟨Γ',rfl,rfl,⟨fun l ob b ho hm=>?_,fun l b hm=>?_,fun l l' b hm hm'=>?_,hr'.imm,hr'.glb⟩,⟨hext,⟨fun b hb hno=>?_,fun l b hm hb=>?_⟩,fun l hl hnone=>?_⟩,fun v x hx=>Rep.ren hren' v x (Rep.lt v x hx) hx⟩
 ·have hl:=(Wb.1 ho).1
  rcases hcase l hl with ⟨i,hi,rfl⟩|⟨h1,h2⟩
  ·obtain⟨k1,k2⟩:=hback i hi
   rw[k1] at hm
   rw[k2] at ho
   cases hs : Γs'.σ[i]? with
   |none=>rw[hs] at ho; cases ho
   |some ob'=>
    rw[hs] at ho
    simp only[WO,Wd] at ho
    subst ho
    have:=hr'.obs i ob' b hs hm
    exact RepOb.ren hren' ob' (RepOb.lt ob' this) this
  ·obtain⟨k1,k2⟩:=hold l h1 h2
   rw[k1] at hm
   rw[k2] at ho
   have hb:=(hr.dom l b hm).2
   obtain⟨s1,s2⟩:=hst.frm.same b hb (fun i hi=>by
    obtain⟨l',hl',hm'⟩:=hpart i b hi
    have:=hr.inj l l' b hm hm'
    subst this
    exact h2 (Wv hl'))
   exact RepOb.ext hext s1 s2 ob (hr.obs l ob b ho hm)
 ·by_cases hl:l < Γ'.σ.length
  ·rcases hcase l hl with ⟨i,hi,rfl⟩|⟨h1,h2⟩
   ·rw[(hback i hi).1] at hm
    exact⟨hl,(hr'.dom i b hm).2⟩
   ·rw[(hold l h1 h2).1] at hm
    exact⟨hl,W3 (hr.dom l b hm).2 hst.ext.size⟩
  ·exfalso
   simp only[Γ'] at hm
   have hlen' : Γ'.σ.length = Γ.σ.length+(Γs'.σ.length-L.length):=g1
   have h1 : ¬ l∈L:=fun h=>by have:=hlt l h; omega
   rw[if_neg h1,if_neg (by omega)] at hm
   have:=(hr'.dom _ b hm).1
   omega
 ·have bound : ∀ l b,Γ'.μ l=some b->(∃ i,i < Γs'.σ.length/\l=back L Γ.σ.length i /\ Γs'.μ i=some b)\/(l < Γ.σ.length/\l∉L /\ Γ.μ l=some b):=fun l b hm=>by
   by_cases hl:l < Γ'.σ.length
   ·rcases hcase l hl with ⟨i,hi,rfl⟩|⟨h1,h2⟩
    ·rw[(hback i hi).1] at hm; exact .inl ⟨i,hi,rfl,hm⟩
    ·rw[(hold l h1 h2).1] at hm; exact .inr ⟨h1,h2,hm⟩
   ·exfalso
    simp only[Γ'] at hm
    have hlen' : Γ'.σ.length = Γ.σ.length+(Γs'.σ.length-L.length):=g1
    have h1 : ¬ l∈L:=fun h=>by have:=hlt l h; omega
    rw[if_neg h1,if_neg (by omega)] at hm
    have:=(hr'.dom _ b hm).1
    omega
  rcases bound l b hm with ⟨i,hi,rfl,h1⟩|⟨h1,h2,h3⟩<;>rcases bound l' b hm' with ⟨j,hj,rfl,k1⟩|⟨k1,k2,k3⟩
  ·rw[hr'.inj i j b h1 k1]
  ·exact (hsep i l' b h1 k1 k2 k3).elim
  ·exact (hsep j l b k1 h1 h2 h3).elim
  ·exact hr.inj l l' b h3 k3
 ·exact hst.frm.same b hb (fun i hi=>by
   obtain⟨l,_,hm⟩:=hpart i b hi
   exact hno l hm)
 ·by_cases hl:l < Γ'.σ.length
  ·rcases hcase l hl with ⟨i,hi,rfl⟩|⟨h1,h2⟩
   ·rw[(hback i hi).1] at hm
    obtain⟨j,hj⟩:=hst.frm.new i b hm hb
    obtain⟨l',_,hm'⟩:=hpart j b hj
    exact⟨l',hm'⟩
   ·rw[(hold l h1 h2).1] at hm; exact⟨l,hm⟩
  ·exfalso
   simp only[Γ'] at hm
   have hlen' : Γ'.σ.length = Γ.σ.length+(Γs'.σ.length-L.length):=g1
   have h1 : ¬ l∈L:=fun h=>by have:=hlt l h; omega
   rw[if_neg h1,if_neg (by omega)] at hm
   have:=(hr'.dom _ b hm).1
   omega
 ·by_cases hm:l∈L
  ·have hi:=(Wb.1 (qbG hm)).1
   have:=hst.non (idx L l) (by simp only[Ctx.part,hlen]; exact hi) (by rw[hren.μ l hm]; exact hnone)
   simp only[Γ',hm,if_true,this]
  ·rw[(hold l hl hm).1]; exact hnone
end
section
variable{P:Program}{ids:Ids}{fid:Fid}{N:Nat}
theorem qdA{Γ0 Γ1:Ctx}(h:Step Γ0 Γ1){L:List Nat}{σs:S}(hn:L.Nodup)(hlen : σs.length=L.length)(hren:Ren (idx L) (· ∈ L) Γ1 (Γ1.part L σs))(hpre : ∀ i,i < Γ0.σ.length->L[i]?=some i):Step Γ0 (Γ1.part L σs):=by
 have hμ : ∀ l,l < Γ0.σ.length->(Γ1.part L σs).μ l = Γ1.μ l:=fun l hl=>by simp only[Ctx.part,hpre l hl,Option.bind_some]
 have hσ : ∀ l ob,l < Γ0.σ.length -> Γ1.σ[l]?=some ob->(Γ1.part L σs).σ[l]?=some (ob.ren (idx L)):=fun l ob hl ho=>by
  have hm:=Wv (hpre l hl)
  have:=hren.σ l ob hm ho
  rw[qbN hn (hpre l hl)] at this
  exact this
 refine⟨⟨h.ext.size,h.ext.os,h.ext.tape,h.ext.output,h.ext.mono,h.ext.cell,h.ext.arr,?_,fun l ob ho ht=>?_,fun l m ho=>?_,fun l ob ho ht=>?_⟩,⟨h.frm.same,fun i b hi hb=>?_⟩,fun l hl hnn=>by rw[hμ l hl]; exact h.non l hl hnn⟩
 ·simp only[Ctx.part,hlen]
  rcases W6 Γ0.σ.length with h0|h0
  ·omega
  ·have:=(Wb.1 (hpre (Γ0.σ.length-1) (by omega))).1
   omega
 ·have hl:=(Wb.1 ho).1
  obtain⟨⟨ob',h1,h2⟩,h3⟩:=h.ext.fix l ob ho ht
  exact⟨⟨_,hσ l ob' hl h1,by rw[Ob.isTip_ren]; exact h2⟩,fun b hb=>by rw[hμ l hl]; exact h3 b hb⟩
 ·have hl:=(Wb.1 ho).1
  obtain⟨m',h1,h2,h3,h4⟩:=h.ext.tip l m ho
  exact⟨m',hσ l _ hl h1,h2,fun hs=>by rw[hμ l hl]; exact h3 hs,fun e b hb=>by rw[hμ l hl]; exact h4 e b hb⟩
 ·have hl:=(Wb.1 ho).1
  obtain⟨ob',h1,h2,h3⟩:=h.ext.row l ob ho ht
  refine⟨_,hσ l ob' hl h1,by rw[Ob.isTip_ren]; exact h2,fun cs' hc=>?_⟩
  rw[Ob.rows_ren,Wc] at hc
  obtain⟨cs1,hc,rfl⟩:=hc
  obtain⟨cs,c1,c2,c3⟩:=h3 cs1 hc
  rw[qbg]
  exact⟨cs,c1,c2,fun e b hb=>⟨by rw[hμ l hl]; exact (c3 e b hb).1,by rw[Ob.fz_ren]; exact (c3 e b hb).2.1,(c3 e b hb).2.2⟩⟩
 ·simp only[Ctx.part] at hi
  cases hl:L[i]? with
  |none=>rw[hl] at hi; cases hi
  |some l=>rw[hl] at hi; exact h.frm.new l b hi hb
theorem qgp(k:Nat)(ls:List Nat)(σ : S) : ∀ i,i<k->(gcL k ls σ)[i]?=some i:=fun i hi=>by
 unfold gcL
 rw[Wo (by simpa using hi)]
 simp[hi]
theorem qoW {Γ0 Γ : Ctx} (hr:Real fid Γ) (hs:Step Γ0 Γ) {L:List Nat} {σs:S} (hrp:Real fid (Γ.part L σs)) (hsp:Step Γ0 (Γ.part L σs)) : ∀ ls:List Nat,(∀ l∈ls,l∉L /\ ∃ b arr e,Γ.μ l=some b /\ Γ.w.heap[b]?=some (.cells arr e (0,0))) ->
  ∃ F':Nat->Nat,Real fid ⟨σs,(Γ.part L σs).μ,F',Γ.w⟩/\Ext (Γ.part L σs) ⟨σs,(Γ.part L σs).μ,F',Γ.w⟩/\Step Γ0 ⟨σs,(Γ.part L σs).μ,F',Γ.w⟩ /\
   ∀ l∈ls,∀ b arr e,Γ.μ l=some b -> Γ.w.heap[b]?=some (.cells arr e (0,0))->arr.size<=F' b
 |[],_=>⟨Γ.F,hrp,.refl _,hsp,fun l h=>by cases h⟩
 |l::ls,h=>by
  obtain⟨F',h1,h2,h3,h4⟩:=qoW hr hs hrp hsp ls fun l' hl'=>h l' (WH _ hl')
  obtain⟨hL,b,arr,e,hm,ha⟩:=h l (by simp)
  have hno : ∀ i,(Γ.part L σs).μ i≠some b:=fun i hi=>by
   simp only[Ctx.part] at hi
   cases hl':L[i]? with
   |none=>rw[hl'] at hi; cases hi
   |some l'=>
    rw[hl'] at hi
    have:=hr.inj _ _ _ hi hm
    subst this
    exact hL (Wv hl')
  have hF:F' b<=arr.size:=by
   rcases W6 (F' b) with h0|h0
   ·omega
   ·obtain⟨arr',e',fz,g1,g2⟩:=h1.imm b h0
    simp only at g1
    rw[ha] at g1; cases g1
    exact g2
  obtain⟨k1,k2,k3⟩:=qqb h1 (b:=b) (n:=arr.size) hF hno ha (Wg _)
  refine⟨_,k1,h2.trans k2,k3 Γ0 h3 fun hb=>hs.frm.new l b hm hb,fun l' hl' b' arr' e' hm' ha'=>?_⟩
  simp only[grow]
  split
  ·rename_i eq
   subst eq
   rw[ha] at ha'; cases ha'; exact Wg _
  ·rename_i hne
   rcases Wq.1 hl' with rfl|hl'
   ·rw[hm] at hm'; cases hm'; exact absurd rfl hne
   ·exact h4 l' hl' b' arr' e' hm' ha'
section
variable{Γ : Ctx}
theorem qhm(hr:Real fid Γ){z:Bool}{k:Nat}{v:V}{x:Value}(h:Rep fid Γ v x) : ∀ l∈(outV z k Γ.σ v).2,∃ b arr e,Γ.μ l=some b /\ Γ.w.heap[b]?=some (.cells arr e (0,0)):=by
 intro l hl
 unfold outV at hl
 split at hl
 ·rename_i l0 o
  simp only[Rep] at h
  obtain⟨b,hm,hx,_⟩:=h
  split at hl
  ·split at hl
   ·rename_i cs hcs
    split at hl
    ·split at hl
     ·simp only[Wn] at hl; subst hl
      obtain⟨_,arr,e,g2,_⟩:=hr.obs l _ b hcs hm
      exact⟨b,arr,e,hm,g2⟩
     ·cases hl
    ·cases hl
   ·cases hl
  ·cases hl
 ·rename_i l0 n sz
  simp only[Rep] at h
  obtain⟨ad,cap,hs,g2,g0,g3,g4⟩:=h
  split at hl
  ·split at hl
   ·rename_i cs hcs
    split at hl
    ·rename_i hlen
     split at hl
     ·simp only[Wn] at hl; subst hl
      obtain⟨b,arr,e',q1,rfl,q2,q3⟩:=(g4 _ _ hcs rfl).2 hlen
      exact⟨b,arr,e',q1,q2⟩
     ·cases hl
    ·cases hl
   ·split at hl<;>cases hl
   ·cases hl
  ·cases hl
 ·rename_i l0 o n cap sz
  simp only[Rep] at h
  obtain⟨b,hm,hx,_⟩:=h
  split at hl
  ·split at hl
   ·rename_i cs hcs
    split at hl
    ·split at hl
     ·simp only[Wn] at hl; subst hl
      obtain⟨_,arr,e,g2,_⟩:=hr.obs l _ b hcs hm
      exact⟨b,arr,e,hm,g2⟩
     ·cases hl
    ·cases hl
   ·cases hl
  ·cases hl
 ·cases hl
 ·cases hl
theorem qmV (hr:Real fid Γ) {z:Bool} {k:Nat} {v:V} {x:Value} (h:Rep fid Γ v x) {r:Nat->Nat} {L:Nat->Prop} {Γp Γq:Ctx} (hren:Ren r L Γ Γp) (hpq:Ext Γp Γq) (hw : Γq.w = Γ.w) (hL : ∀ l∈((outV z k Γ.σ v).1).locs,L l)
  (hF : ∀ l∈(outV z k Γ.σ v).2,∀ b arr e,Γ.μ l=some b -> Γ.w.heap[b]?=some (.cells arr e (0,0))->arr.size <= Γq.F b):Rep fid Γq (((outV z k Γ.σ v).1).ren r) x:=by
 have same : ∀ u:V,(∀ l∈u.locs,L l)->Rep fid Γ u x->Rep fid Γq (u.ren r) x:=fun u hl hu=>Rep.ext hpq _ _ (Rep.ren hren u x hl hu)
 have hDD : ∀ {ds:List D} {vs:List Value},RepDs Γ.F Γ.w ds vs->RepDs Γq.F Γq.w ds vs:=fun hd=>by
  have:=RepDs.ext hpq _ _ (by rw[hren.F,hren.w]; exact hd)
  exact this
 unfold outV at hL hF ⊢
 split
 ·rename_i l0 o
  split
  ·rename_i hk
   split
   ·rename_i cs hcs
    split
    ·rename_i ds hds
     split
     ·rename_i hcond
      simp only[hk,if_true,hcs,hds,hcond,and_self] at hF
      have hcd:=qcH hds
      simp only[Rep] at h
      obtain⟨b,hm,hx,g3⟩:=h
      obtain⟨_,arr,e,k1,k2⟩:=hr.obs l0 _ b hcs hm
      have k3:Reps fid Γ (qdQ cs) arr.toList:=qnG k2
      have hD:RepDs Γ.F Γ.w ds arr.toList:=by rw[hcd] at k3; exact Reps_dat.1 k3
      have hal:arr.size=ds.length:=by have:=hD.length; simpa using this
      simp only[V.ren,Rep,RepD]
      refine⟨b,0,arr.toList,by simpa using hx,hDD hD,fun j v hj=>?_,fun _=>?_,fun v hv=>?_⟩
      ·rw[hw]
       simp only[World.cell?,k1]
       simpa using hj
      ·have:=hF l0 (by simp) b arr e hm k1
       simp only[Ww]
       omega
      ·refine qbP (fid:=fid) (Γ := Γ) (vs:=ds.map .dat) (by rw[<- hcd]; exact k3) ?_ v hv
       rw[Ws]
       intro u hu
       obtain⟨d,hd,rfl⟩:=Wm.1 hu
       exact Ws.1 hcond d hd
     ·rename_i hcond
      simp only[hk,if_true,hcs,hds,hcond,and_self] at hL
      exact same _ hL h
    ·rename_i hds
     simp only[hk,if_true,hcs,hds,and_self] at hL
     exact same _ hL h
   ·rename_i hne
    have:((match Γ.σ[l0]? with
  |some (.cells cs)=>match qaI (qdQ cs) with
   |some ds=>if (ds.all fun d=>V.one (.dat d))=true then ((V.dat (.imm ds o)),[l0]) else (.ptr l0 o,[])
   |none=>(.ptr l0 o,[])
  | _=>(.ptr l0 o,[])).1:V) = .ptr l0 o:=by
     split
     ·rename_i h'; exact absurd h' (hne _)
     ·rfl
    simp only[hk,if_true,this,and_self] at hL
    exact same _ hL h
  ·rename_i hk
   simp only[hk,if_false] at hL
   exact same _ hL h
 ·rename_i l0 n sz
  split
  ·rename_i hk
   split
   ·rename_i cs hcs
    split
    ·rename_i hlen
     split
     ·rename_i ds hds
      simp only[hk,if_true,hcs,hlen,hds] at hF
      have hcd:=qcH hds
      simp only[Rep] at h
      obtain⟨ad,cap,hs,g2,g0,g3,g4⟩:=h
      obtain⟨b,arr,e',q1,rfl,q2,q3⟩:=(g4 _ _ hcs rfl).2 hlen
      obtain⟨olds,arr',e2,k1,k2,k3,k4,k5,k7⟩:=qdg hr hcs q1
      rw[q2] at k1; cases k1
      have hD:RepDs Γ.F Γ.w ds olds:=by rw[hcd] at k4; exact Reps_dat.1 k4
      simp only[V.ren,Rep,RepD]
      refine⟨b,_,cap,olds,hs,g2,by simp,hDD hD,fun j v hj=>?_,fun _=>?_,k5⟩
      ·rw[hw]; exact k7 j v hj
      ·have:=hF l0 (by simp) b arr e' q1 q2
       have hl:=hD.length
       have:ds.length=cs.length:=by rw[hcd]; simp
       simp only[Ob.fz]
       omega
     ·simp only[hk,if_true,hcs,hlen] at hL
      rename_i hno
      simp only[hno] at hL
      exact same _ hL h
    ·rename_i hlen
     simp only[hk,if_true,hcs,hlen,if_false] at hL
     exact same _ hL h
   ·rename_i ds hds
    split
    ·rename_i hlen
     simp only[Rep] at h
     obtain⟨ad,cap,hs,g2,g0,g3,g4⟩:=h
     obtain⟨b,arr,e',q1,rfl,q2,q3⟩:=(g4 _ _ hds rfl).2 (by simpa using hlen)
     obtain⟨vs,k1,k2⟩:=qhf hr hds q1
     have hgo:Rep fid Γ (.dat (.sl ds n false)) x:=by
      simp only[Rep,RepD]
      exact⟨b,_,cap,vs,hs,g2,by simp,k1,k2⟩
     exact same _ (by simp[V.locs]) hgo
    ·rename_i hlen
     simp only[hk,if_true,hds,hlen,if_false] at hL
     exact same _ hL h
   ·rename_i hne1 hne2
    have:((match Γ.σ[l0]? with
  |some (.vec cs)=>if cs.length=n*sz then (match qaI cs with
   |some ds=>((V.dat (.sl ds n false)),[l0])
   |none=>(.own l0 n sz,[])) else (.own l0 n sz,[])
  |some (.froz ds)=>if ds.length=n*sz then (.dat (.sl ds n false),[]) else (.own l0 n sz,[])
  | _=>(.own l0 n sz,[])).1:V) = .own l0 n sz:=by
     split
     ·rename_i h'; exact absurd h' (hne1 _)
     ·rename_i h'; exact absurd h' (hne2 _)
     ·rfl
    simp only[hk,if_true,this] at hL
    exact same _ hL h
  ·rename_i hk
   simp only[hk,if_false] at hL
   exact same _ hL h
 ·rename_i l0 o n cap sz
  split
  ·rename_i hk
   split
   ·rename_i cs hcs
    split
    ·rename_i ds hds
     split
     ·rename_i hcond
      simp only[hk,if_true,hcs,hds,hcond,and_self] at hF
      have hcd:=qcH hds
      simp only[Rep] at h
      obtain⟨b,hm,hs,g2,g3⟩:=h
      obtain⟨_,arr,e,k1,k2⟩:=hr.obs l0 _ b hcs hm
      have hD:RepDs Γ.F Γ.w ds arr.toList:=by rw[hcd] at k2; exact Reps_dat.1 k2
      have hal:arr.size=ds.length:=by have:=hD.length; simpa using this
      simp only[V.ren,Rep,RepD]
      refine⟨b,o,cap,(arr.toList.drop o).take (n*sz),hs,g2,by simp,hDD (qff (qfe hD o) _),fun j v hj=>?_,fun _=>?_,fun v hv=>?_⟩
      ·rw[hw]
       simp only[World.cell?,k1]
       rw[WN] at hj
       split at hj
       ·rw[Yt] at hj
        simpa using hj
       ·cases hj
      ·have:=hF l0 (by simp) b arr e hm k1
       simp only[WR,Yf,Ww]
       omega
      ·have hv':v∈arr.toList:=Yx (W8 hv)
       refine qbP (fid:=fid) (Γ := Γ) (vs:=ds.map .dat) (by rw[<- hcd]; exact k2) ?_ v hv'
       rw[Ws]
       intro u hu
       obtain⟨d,hd,rfl⟩:=Wm.1 hu
       exact Ws.1 hcond.2 d hd
     ·rename_i hcond
      simp only[hk,if_true,hcs,hds,hcond,if_false] at hL
      exact same _ hL h
    ·rename_i hds
     simp only[hk,if_true,hcs,hds] at hL
     exact same _ hL h
   ·rename_i hne
    have:((match Γ.σ[l0]? with
  |some (.cells cs)=>match qaI cs with
   |some ds=>if o+n*sz<=ds.length/\(ds.all fun d=>V.one (.dat d))=true then ((V.dat (.sl ((ds.drop o).take (n*sz)) n false)),[l0]) else (.msl l0 o n cap sz,[])
   |none=>(.msl l0 o n cap sz,[])
  | _=>(.msl l0 o n cap sz,[])).1:V) = .msl l0 o n cap sz:=by
     split
     ·rename_i h'; exact absurd h' (hne _)
     ·rfl
    simp only[hk,if_true,this] at hL
    exact same _ hL h
  ·rename_i hk
   simp only[hk,if_false] at hL
   exact same _ hL h
 ·refine same _ (by simp[V.locs]) ?_
  simp only[Rep,RepD] at h ⊢
  obtain⟨b,cap,vs,m,h1,h2,h3,h4,_⟩:=h
  exact⟨b,0,cap,vs,h1,h2,by simp,h3,h4⟩
 ·rename_i h1 h2 h3
  exact same _ (by simpa using hL) h
theorem qhn(hr:Real fid Γ){z:Bool}{k:Nat} : ∀ {vs:List V} {xs:List Value},Reps fid Γ vs xs -> ∀ l∈(qiC z k Γ.σ vs).2,∃ b arr e,Γ.μ l=some b /\ Γ.w.heap[b]?=some (.cells arr e (0,0))
 |[],xs,h,l,hl=>by simp[qiC] at hl
 |v::vs,xs,h,l,hl=>by
  simp only[Reps] at h
  obtain⟨y,ys,rfl,h1,h2⟩:=h
  simp only[qiC,We] at hl
  rcases hl with hl|hl
  ·exact qhm hr h1 l hl
  ·exact qhn hr h2 l hl
theorem ql3(hr:Real fid Γ){z:Bool}{k:Nat}{v:V}{x:Value}(h:Rep fid Γ v x) : ∀ l∈(qre z k Γ.σ v).2,∃ b arr e,Γ.μ l=some b /\ Γ.w.heap[b]?=some (.cells arr e (0,0)):=by
 unfold qre
 split
 ·simp only[Rep] at h
  obtain⟨vs,rfl,h⟩:=h
  exact qhn hr h
 ·exact qhm hr h
theorem qgR(hr:Real fid Γ){z:Bool}{k:Nat} : ∀ {vs:List V} {xs:List Value},Reps fid Γ vs xs -> ∀ l∈(qc8 z k Γ.σ vs).2,∃ b arr e,Γ.μ l=some b /\ Γ.w.heap[b]?=some (.cells arr e (0,0))
 |[],xs,h,l,hl=>by simp[qc8] at hl
 |v::vs,xs,h,l,hl=>by
  simp only[Reps] at h
  obtain⟨y,ys,rfl,h1,h2⟩:=h
  simp only[qc8,We] at hl
  rcases hl with hl|hl
  ·exact ql3 hr h1 l hl
  ·exact qgR hr h2 l hl
section
variable{r:Nat->Nat}{L:Nat->Prop}{Γp Γq:Ctx}(hr:Real fid Γ)(hren:Ren r L Γ Γp)(hpq:Ext Γp Γq)(hw : Γq.w = Γ.w)
include hr hren hpq hw
theorem qmW {z:Bool} {k:Nat} : ∀ {vs:List V} {xs:List Value},Reps fid Γ vs xs->(∀ l∈qau (qiC z k Γ.σ vs).1,L l) ->
  (∀ l∈(qiC z k Γ.σ vs).2,∀ b arr e,Γ.μ l=some b -> Γ.w.heap[b]?=some (.cells arr e (0,0))->arr.size <= Γq.F b)->Reps fid Γq (qbl r (qiC z k Γ.σ vs).1) xs
 |[],xs,h,_,_=>by simpa only [qiC,qbl,Reps] using h
 |v::vs,xs,h,hL,hF=>by
  simp only[Reps] at h
  obtain⟨y,ys,rfl,h1,h2⟩:=h
  simp only[qiC,qau,We] at hL hF
  simp only[qiC,qbl,Reps]
  exact⟨_,_,rfl,qmV hr h1 hren hpq hw (fun l hl=>hL l (.inl hl)) (fun l hl=>hF l (.inl hl)),qmW h2 (fun l hl=>hL l (.inr hl)) (fun l hl=>hF l (.inr hl))⟩
theorem qrh {z:Bool} {k:Nat} {v:V} {x:Value} (h:Rep fid Γ v x) (hL : ∀ l∈((qre z k Γ.σ v).1).locs,L l)
  (hF : ∀ l∈(qre z k Γ.σ v).2,∀ b arr e,Γ.μ l=some b -> Γ.w.heap[b]?=some (.cells arr e (0,0))->arr.size <= Γq.F b):Rep fid Γq (((qre z k Γ.σ v).1).ren r) x:=by
 have agg : ∀ us:List V,(qc6 us).ren r=qc6 (qbl r us)/\(qc6 us).locs=qau us:=fun us=>by
  unfold qc6
  cases hd:qaI us with
  |some ds=>
   have:=qcH hd
   subst this
   have e : ∀ ds:List D,qaI (ds.map .dat)=some ds:=fun ds=>by induction ds with
    |nil=>rfl
    |cons d ds ih=>simp[qaI,ih]
   have e2 : ∀ ds:List D,qau (ds.map .dat)=[]:=fun ds=>by induction ds with
    |nil=>rfl
    |cons d ds ih=>simp[qau,V.locs,ih]
   rw[qhh,e,e2]
   simp[V.ren,V.locs]
  |none=>
   have:qaI (qbl r us)=none:=by
    revert hd
    induction us with
    |nil=>simp[qaI]
    |cons u us ih=>
     intro hd
     cases u<;>simp only[qbl,V.ren,qaI] at hd ⊢
     split at hd
     ·cases hd
     ·rename_i hn; rw[ih hn]
   rw[this]
   simp[V.ren,V.locs]
 cases v with
 |agg cs=>
  simp only[qre] at hL hF ⊢
  simp only[Rep] at h
  obtain⟨vs,rfl,h⟩:=h
  simp only[(agg _).2] at hL
  rw[(agg _).1]
  exact qdW (qmW hr hren hpq hw h hL hF)
 |_=>
  simp only[qre] at hL hF ⊢
  exact qmV hr h hren hpq hw hL hF
theorem qks {z:Bool} {k:Nat} : ∀ {vs:List V} {xs:List Value},Reps fid Γ vs xs->(∀ l∈qau (qc8 z k Γ.σ vs).1,L l) ->
  (∀ l∈(qc8 z k Γ.σ vs).2,∀ b arr e,Γ.μ l=some b -> Γ.w.heap[b]?=some (.cells arr e (0,0))->arr.size <= Γq.F b)->Reps fid Γq (qbl r (qc8 z k Γ.σ vs).1) xs
 |[],xs,h,_,_=>by simpa only [qc8,qbl,Reps] using h
 |v::vs,xs,h,hL,hF=>by
  simp only[Reps] at h
  obtain⟨y,ys,rfl,h1,h2⟩:=h
  simp only[qc8,qau,We] at hL hF
  simp only[qc8,qbl,Reps]
  exact⟨_,_,rfl,qrh hr hren hpq hw h1 (fun l hl=>hL l (.inl hl)) (fun l hl=>hF l (.inl hl)),qks h2 (fun l hl=>hL l (.inr hl)) (fun l hl=>hF l (.inr hl))⟩
end
end
theorem qoX {Γ0 Γ : Ctx} (hr:Real fid Γ) (hs:Step Γ0 Γ) {z:Bool} {k:Nat} {vs0 vs':List V} {ys:List Value} {L:List Nat} {σs:S} (hx:Reps fid Γ vs0 ys) (hres:qaO L (qc8 z k Γ.σ vs0).1 Γ.σ = some (vs',σs))
  (hno : ∀ l∈(qc8 z k Γ.σ vs0).2,l∉L) (hpre : ∀ i,i < Γ0.σ.length->L[i]?=some i) : ∃ Γ':Ctx,Γ'.σ = σs /\ Γ'.w = Γ.w/\Real fid Γ'/\Step Γ0 Γ'/\Reps fid Γ' vs' ys:=by
 obtain⟨t1,t2,t3,t4,t5,t6⟩:=qaW hr hres
 have hsp:=qdA hs t1 t2 t4 hpre
 obtain⟨F',a1,a2,a3,a4⟩:=qoW hr hs t5 hsp (qc8 z k Γ.σ vs0).2 fun l hl=>⟨hno l hl,qgR hr hx l hl⟩
 refine⟨⟨σs,(Γ.part L σs).μ,F',Γ.w⟩,rfl,rfl,a1,a3,?_⟩
 have hv:vs'=qbl (idx L) (qc8 z k Γ.σ vs0).1 /\ ∀ l∈qau (qc8 z k Γ.σ vs0).1,l∈L:=by
  unfold qaO at hres
  split at hres
  ·split at hres
   ·rename_i hc
    cases hres
    simp only[Wh] at hc
    exact⟨rfl,qeb hc.2.1⟩
   ·cases hres
  ·cases hres
 rw[hv.1]
 exact qks hr t4 a2 rfl hx hv.2 a4
end
end Go.Pm
