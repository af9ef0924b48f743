/- Rows of the program's own: grown, cut, handed on, handed back. -/
import Derived.Test.YtnagipbjopnfpaaGreatDoorPmAL
import Derived.Test.YtnagipbjopnfpaaGreatDoorPmE
import Derived.Laws.BytesString
import Derived.Lib.UnsafeStr
set_option linter.unusedSimpArgs false
set_option linter.unusedVariables false
namespace Go.Pm
section
variable{P:Program}{ids:Ids}{fid:Fid}{N:Nat}
section
variable{Γ : Ctx}{fr:Fr}{ρ : Operand->Value}{o:Oper}{v:V}{σ':S}
theorem qe1 (hr:Real fid Γ) {l b:Nat} {cs:List V} (ho : Γ.σ[l]?=some (.vec cs)) (hm : Γ.μ l=some b) :
  ∃ vs arr e,Γ.w.heap[b]?=some (.cells arr e (0,0))/\cs.length<=arr.size/\vs=arr.toList.take cs.length/\Reps fid Γ cs vs/\(∀ v∈vs,v.oneCell'=true) /\ Γ.F b=0 /\ ∀ j v,vs[j]?=some v -> Γ.w.cell? ⟨b,j,none⟩=some v:=by
 have:=hr.obs l _ b ho hm
 simp only[RepOb] at this
 obtain⟨h1,arr,e,h2,h3,h4,h5⟩:=this
 refine⟨_,arr,e,h2,h3,rfl,h4,h5,h1,fun j x hj=>?_⟩
 simp only[World.cell?,h2]
 simpa using qh5 hj
theorem srcO_row (hr:Real fid Γ) {u:V} {x:Value} {xs:List V} {m:Nat} (hu:Rep fid Γ u x) (h:qvh Γ.σ u=some (xs,m)) :
  (∃ a,x = .slice a 0 0/\xs=[]/\m=0)\/(∃ s,u = .dat (.lit (.string s))/\x = .string s/\xs=(qcu s).map .dat/\m=s.size) \/
  ∃ b off cap vs,x = .slice (some ⟨b,off,none⟩) m cap/\Reps fid Γ xs vs /\ ∀ j v,vs[j]?=some v -> Γ.w.cell? ⟨b,off+j,none⟩=some v:=by
 unfold qvh at h
 split at h
 ·rename_i a
  cases h
  exact .inl ⟨a,(qat hu).1,rfl,rfl⟩
 ·cases h
  simp only[Rep,RepD] at hu
  obtain⟨b,o',cap,vs,hx,_,_,h3,h4⟩:=hu
  exact .inr (.inr ⟨b,o',cap,vs,hx,Reps_dat.2 h3,h4.1⟩)
 ·cases h
  simp only[Rep] at hu
  obtain⟨b,cap,vs,k,hx,_,h3,h4,_⟩:=hu
  exact .inr (.inr ⟨b,0,cap,vs,hx,Reps_dat.2 h3,h4.1⟩)
 ·rename_i s
  cases h
  exact .inr (.inl ⟨s,rfl,(qat hu).1,rfl,rfl⟩)
 ·rename_i l n sz'
  simp only[Rep] at hu
  obtain⟨a,cap,hx,h2,h0,h3,h4⟩:=hu
  split at h
  ·rename_i cs hcs
   split at h
   ·rename_i hlen
    cases h
    obtain⟨b,arr,e,g1,rfl,g3,g4⟩:=(h4 _ _ hcs rfl).2 hlen
    obtain⟨vs,arr',e',k1,k2,k3,k4,k5,k6,k7⟩:=qe1 hr hcs g1
    exact .inr (.inr ⟨b,0,cap,vs,hx,k4,by simpa using k7⟩)
   ·cases h
  ·rename_i ds hds
   split at h
   ·rename_i hlen
    cases h
    obtain⟨b,arr,e,g1,rfl,g3,g4⟩:=(h4 _ _ hds rfl).2 (by simpa using hlen)
    obtain⟨vs,k1,k2⟩:=qh6 hr hds g1
    exact .inr (.inr ⟨b,0,cap,vs,hx,Reps_dat.2 k1,k2.1⟩)
   ·cases h
  ·cases h
 ·rename_i l off n cap sz'
  simp only[Rep] at hu
  obtain⟨b,hm,hx,h2,h3⟩:=hu
  split at h
  ·rename_i cs hcs
   split at h
   ·rename_i hle
    cases h
    obtain⟨_,arr,e,g2,g3⟩:=hr.obs l _ b hcs hm
    refine .inr (.inr ⟨b,off,cap,_,hx,qc0 (qdD g3 off) (m*sz'),fun j v hj=>?_⟩)
    simp only[World.cell?,g2]
    rw[W7] at hj
    split at hj
    ·rw[YK] at hj
     simpa using hj
    ·cases hj
   ·cases h
  ·cases h
 ·cases h
theorem qjW (hr:Real fid Γ) {u:V} {x:Value} {xs:List V} {m sz:Nat} (hu:Rep fid Γ u x) (h:qvh Γ.σ u=some (xs,m)) (hl:xs.length=m*sz) (h1:xs.all V.one=true) :
  ∃ vs,Reps fid Γ xs vs/\(∀ v∈vs,v.oneCell'=true)/\(∀ w',(Builtin.lenOf x).run P w' = .ok m w') /\
   ∀ w':World,(∀ b i,w'.cell? ⟨b,i,none⟩ = Γ.w.cell? ⟨b,i,none⟩)->(Builtin.firstCells sz m x).run P w' = .ok vs.toArray w':=by
 rcases srcO_row hr hu h with ⟨a,rfl,rfl,rfl⟩|⟨s,rfl,rfl,rfl,rfl⟩|⟨b,off,cap,vs,rfl,hv,hc⟩
 ·refine⟨[],by simp[Reps],by simp,fun w'=>by simp[Builtin.lenOf],fun w' _=>?_⟩
  cases a with
  |none=>simp[Builtin.firstCells]
  |some a=>simp[Builtin.firstCells,loadCells,loadCellsFrom]
 ·exact⟨_,Reps_dat.2 (qjD _ _ s),fun v hv=>by obtain⟨c,_,rfl⟩:=WV.1 hv; rfl,fun w'=>by simp[Builtin.lenOf],fun w' _=>qdN sz s w'⟩
 ·refine⟨vs,hv,qdd hv h1,fun w'=>by simp[Builtin.lenOf],fun w' hw=>?_⟩
  have:=qa5 (P:=P) (w:=w') (b:=b) (o:=off) (vs:=vs) (fun j v hj=>by rw[hw]; exact hc j v hj)
  rw[Reps.length hv,hl] at this
  simp only[Builtin.firstCells,this]
section
variable{ts tx e ex:TypeId}{s x:Operand}{c:Call}{sz bytes:Nat}{z:Value}
theorem qlR (hr:Real fid Γ) (ho:o.op = .call c) (hcal:c.callee = .builtin .append) (hargs:c.args.toList=[s,x]) (hats:c.argTypes.toList=[ts,tx])
  (hts:P.underlying ts=some (.slice e)) (htx:(∃ ex,P.underlying tx=some (.slice ex))\/P.underlying tx=some .string) (hsz:qaF P e=some sz) (hby:qfc P e=some bytes) (hz:qc1 P e=some z) (hzn:z.cells.size=sz)
  {a b u:V} (ha:Rep fid Γ a (ρ s)) (hb:Rep fid Γ b (ρ x)) (h:appendO Γ.σ sz bytes a b=some (u,σ')):Comes P fid Γ ρ o u σ':=by
 unfold appendO at h
 split at h
 ·cases h
 ·rename_i xs m hsrc
  split at h
  ·rename_i hcond
   obtain⟨hxl,hsz0,hone⟩:=hcond
   obtain⟨news,n1,n2,n3,n4⟩:=qjW (P:=P) hr hb hsrc hxl hone
   have hnl:news.length=m*sz:=by rw[Reps.length n1,hxl]
   split at h
   ·rename_i hm
    subst hm
    have hnews:news=[]:=by
     apply WL; rw[hnl]; simp
    have fin : ∀ base n cap,ρ s = .slice base n cap->n<=cap->(u=a /\ σ' = Γ.σ)->Comes P fid Γ ρ o u σ':=fun base n cap hs hle hu=>by
     obtain⟨rfl,rfl⟩:=hu
     refine .pure hr (x := ρ s) ?_ ha
     refine qbN ho hcal hargs hats ?_
     rw[hs]
     have:=qfm (P:=P) (o:=o) hts htx hsz (base:=base) (n3 Γ.w) (show n+0<=cap by omega) (n4 Γ.w fun _ _=>rfl) (w' := Γ.w) (by rw[hnews]; cases base<;>simp[storeCells])
     simpa using this
    split at h
    ·cases h
     exact fin _ _ _ (qat ha).1 (Wj _) ⟨rfl,rfl⟩
    ·cases h
     have ha':=ha
     simp only[Rep,RepD] at ha'
     obtain⟨b',o',cap,vs,hs,h2,_⟩:=ha'
     exact fin _ _ _ hs h2 ⟨rfl,rfl⟩
    ·cases h
     have ha':=ha
     simp only[Rep] at ha'
     obtain⟨b',cap,hs,h2,_⟩:=ha'
     exact fin _ _ _ hs h2 ⟨rfl,rfl⟩
    ·cases h
   ·rename_i hm
    have fresh : ∀ {olds:List Value} {cs:List V} {base:Option Addr} {n cap:Nat},ρ s = .slice base n cap->cap<n+m->qao (n+m) bytes=true->Reps fid Γ cs olds->cs.length=n*sz ->
      (∀ w':World,(∀ b i,w'.cell? ⟨b,i,none⟩ = Γ.w.cell? ⟨b,i,none⟩)->(Builtin.firstCells sz n (.slice base n cap)).run P w' = .ok olds.toArray w') ->
      ∃ (newCap:Nat) (rest:Array Value),n+m<=newCap/\(n+m)*sz+rest.size=newCap*sz/\(cs++xs).length=(n+m)*sz/\Reps fid Γ (cs++xs) (olds++news) /\
       (execOp ρ o).run P Γ.w = .ok (.value (.slice (some ⟨Γ.w.heap.size,0,none⟩) (n+m) newCap)) (Γ.w.drew.alloc (.cells ((olds++news).toArray++rest) e)):=by
     intro olds cs base n cap hs hlt hroom hd hcl hold
     obtain⟨newCap,rest,r1,r2,r3⟩:=qiE (P:=P) (o:=o) hts htx hsz hby hz n3 hlt hroom hold n4
     refine⟨newCap,rest,r1,?_,?_,Reps_append.2 ⟨_,_,rfl,hd,n1⟩,qbN ho hcal hargs hats (by rw[hs]; exact r3)⟩
     ·rw[r2,hzn,<- Nat.add_mul]; congr 1; omega
     ·rw[Wb,hcl,hxl,W3]
    obtain⟨d1,d2⟩:=qku hr
    have obok : ∀ {Γ':Ctx} {olds:List Value} {cs:List V} {rest:Array Value},Ext ⟨Γ.σ,Γ.μ,Γ.F,Γ.w.drew⟩ Γ' -> Γ'.w = Γ.w.drew.alloc (.cells ((olds++news).toArray++rest) e) -> Γ'.F Γ.w.heap.size=0 ->
      Reps fid Γ (cs++xs) (olds++news)->(∀ v∈olds,v.oneCell'=true)->RepOb fid Γ' Γ.w.heap.size (.vec (cs++xs)):=by
     intro Γ' olds cs rest hx hw hF g1 g2
     have hlen:=Reps.length g1
     have htk:((olds++news).toArray++rest).toList.take (cs++xs).length=olds++news:=by
      rw[<- hlen,Array.toList_append]; exact Yt rfl
     simp only[RepOb]
     refine⟨hF,_,e,by rw[hw]; exact qal Γ.w.drew _,by rw[<- hlen]; simp,?_,?_⟩
     ·rw[htk]; exact Reps.ext hx _ _ (Reps.ext d2.ext _ _ g1)
     ·rw[htk]
      intro v hv
      rcases Wp.1 hv with hv|hv
      ·exact g2 v hv
      ·exact n2 v hv
    have grown : ∀ {Γ':Ctx} {olds:List Value} {cs:List V} {rest:Array Value} {n newCap l:Nat},Γ'.w = Γ.w.drew.alloc (.cells ((olds++news).toArray++rest) e) ->
      Γ'.σ[l]?=some (.vec (cs++xs)) -> Γ'.μ l=some Γ.w.heap.size->n+m<=newCap->(n+m)*sz+rest.size=newCap*sz->(cs++xs).length=(n+m)*sz->Reps fid Γ (cs++xs) (olds++news) ->
      Rep fid Γ' (.own l (n+m) sz) (.slice (some ⟨Γ.w.heap.size,0,none⟩) (n+m) newCap):=by
     intro Γ' olds cs rest n newCap l hw hσ hμ g1 g2 g3 g5
     have hlen:=Reps.length g5
     simp only[Rep]
     refine⟨_,_,rfl,g1,hsz0,⟨_,hσ,rfl⟩,fun ob cs' k1 k2=>?_⟩
     rw[hσ] at k1; cases k1
     simp only[Ob.rows,Wh] at k2; subst k2
     refine⟨by rw[g3]; exact Wj _,fun _=>⟨Γ.w.heap.size,_,e,hμ,rfl,by rw[hw]; exact qal Γ.w.drew _,?_⟩⟩
     simp only[Yx,YE,hlen,g3]
     omega
    split at h
    ·split at h
     ·rename_i hroom
      cases h
      obtain⟨newCap,rest,f1,f2,f3,f5,f7⟩:=fresh (olds:=[]) (cs:=[]) (qat ha).1 (show 0<0+m by omega) (by simpa using hroom) (by simp[Reps]) (by simp)
       (fun w' _=>by simp[Builtin.firstCells])
      obtain⟨k1,k2⟩:=qcB d1 (.vec xs) (.cells (([]++news).toArray++rest) e) 0
       (fun Γ' e' hx=>by
        have:=obok (cs:=[]) (olds:=[]) (rest:=rest) hx (by subst e'; rfl) (by subst e'; simp[grow]) f5 (by simp)
        simpa using this) (fun h=>absurd h (WX _))
      refine⟨_,_,rfl,k1,d2.trans k2,?_,.inl f7⟩
      have:=grown (cs:=[]) (olds:=[]) (rest:=rest) (n:=0) (newCap:=newCap) (l := Γ.σ.length) (Γ':=⟨Γ.σ ++ [.vec xs],bind Γ.μ Γ.σ.length Γ.w.drew.heap.size,grow Γ.F Γ.w.drew.heap.size 0,Γ.w.drew.alloc (.cells (([]++news).toArray++rest) e)⟩) rfl (by simp) (by simp[bind]) f1 f2 f3 f5
      simpa using this
     ·cases h
    ·rename_i cs n
     split at h
     ·rename_i hcond
      obtain⟨hroom,hcl⟩:=hcond
      cases h
      have ha':=ha
      simp only[Rep,RepD] at ha'
      obtain⟨b',o',cap,olds,hs,h2,h3,h4,h5⟩:=ha'
      have hcap:=h3 trivial
      subst hcap
      obtain⟨newCap,rest,f1,f2,f3,f5,f7⟩:=fresh (cs:=cs.map .dat) hs (show cap<cap+m by omega) hroom (Reps_dat.2 h4) (by simpa using hcl) (fun w' hw=>by
       have:=qa5 (P:=P) (w:=w') (b:=b') (o:=o') (vs:=olds) (fun j v hj=>by rw[hw]; exact h5.1 j v hj)
       rw[h4.length,hcl] at this
       simp only[Builtin.firstCells,this])
      obtain⟨k1,k2⟩:=qcB d1 (.vec (cs.map .dat++xs)) (.cells ((olds++news).toArray++rest) e) 0
       (fun Γ' e' hx=>obok hx (by subst e'; rfl) (by subst e'; simp[grow]) f5 h5.2.2) (fun h=>absurd h (WX _))
      exact⟨_,_,rfl,k1,d2.trans k2,grown rfl (by simp) (by simp[bind]) f1 f2 f3 f5,.inl f7⟩
     ·cases h
    ·rename_i l n sz'
     split at h
     ·rename_i cs hcs
      split at h
      ·rename_i hcond
       obtain⟨hroom,hcl,rfl⟩:=hcond
       cases h
       have ha':=ha
       simp only[Rep] at ha'
       obtain⟨ad,cap,hs,h2,h0,h3,h4⟩:=ha'
       obtain⟨b',arr,e',q1,rfl,q2,q3⟩:=(h4 _ _ hcs rfl).2 hcl
       obtain⟨olds,arr',e2,k1,k2,k3,k4,k5,k6,k7⟩:=qe1 hr hcs q1
       rw[q2] at k1; cases k1
       have hol:olds.length=n*sz':=by rw[Reps.length k4,hcl]
       have hpos:0<m*sz':=Nat.mul_pos (by omega) hsz0
       by_cases hfit:n+m<=cap
       ·have hbd:(n+m)*sz'<=cap*sz':=WW _ hfit
        rw[W3] at hbd
        obtain⟨w',s1,s2,arr',s3,s4⟩:=qcf (P:=P) news 0 Γ.w b' (n*sz') arr e' q2 n2 (by rw[hnl]; omega)
        have hlen':arr'.size=arr.size:=by
         have:=congrArg List.length s4
         simp[hnl] at this
         omega
        have hnl2:(cs++xs).length=n*sz'+m*sz':=by rw[Wb,hcl,hxl]
        have htk:arr'.toList.take (cs++xs).length=olds++news:=by
         rw[s4,hnl2,k3,hcl,Yp,<- List.append_assoc]
         exact Yt (by simp[hnl]; omega)
        obtain⟨u1,u2⟩:=qug hr hcs q1 (cs':=cs++xs) (by simp) s2 q2 s3 hlen' (fun hx=>by
         simp only[RepOb]
         refine⟨k6,arr',e',s3,by rw[hnl2,hlen']; omega,?_,?_⟩
         ·rw[htk]; exact Reps.ext hx _ _ (Reps_append.2 ⟨_,_,rfl,k4,n1⟩)
         ·rw[htk]
          intro v hv
          rcases Wp.1 hv with hv|hv
          ·exact k5 v hv
          ·exact n2 v hv)
        refine⟨_,.slice (some ⟨b',0,none⟩) (n+m) cap,rfl,u1,u2,?_,.inl (qbN ho hcal hargs hats ?_)⟩
        ·simp only[Rep]
         refine⟨_,_,rfl,hfit,hsz0,⟨.vec (cs++xs),by simp[(Wd.1 hcs).1],rfl⟩,fun ob cs' j1 j2=>?_⟩
         have:ob = .vec (cs++xs):=by simpa [(Wd.1 hcs).1] using j1.symm
         subst this
         simp only[Ob.rows,Wh] at j2; subst j2
         exact⟨by rw[hnl2,W3]; exact Wj _,fun _=>⟨b',arr',e',q1,rfl,s3,by rw[hlen']; exact q3⟩⟩
        ·rw[hs]
         refine qfm (P:=P) (o:=o) hts htx hsz (n3 Γ.w) hfit (n4 Γ.w fun _ _=>rfl) ?_
         simp only[qbB,WG]
         exact s1
       ·obtain⟨newCap,rest,f1,f2,f3,f5,f7⟩:=fresh hs (show cap<n+m by omega) hroom k4 hcl (fun w' hw=>by
         have:=qa5 (P:=P) (w:=w') (b:=b') (o:=0) (vs:=olds) (fun j v hj=>by rw[hw,WG]; exact k7 j v hj)
         rw[hol] at this
         simp only[Builtin.firstCells,this])
        obtain⟨j1,j2⟩:=qv0 d1 hcs (by simp[q1]) (cs':=cs++xs) (by rw[Wb,hxl]; omega) ((olds++news).toArray++rest) e
         (fun hx=>obok hx rfl (by simp[grow]) f5 k5)
        exact⟨_,_,rfl,j1,d2.trans j2,grown rfl (by simp[(Wd.1 hcs).1]) (by simp[bind]) f1 f2 f3 f5,.inl f7⟩
      ·cases h
     ·cases h
    ·cases h
  ·cases h
end
theorem qB4 (hr:Real fid Γ) {t e:TypeId} {n:Nat} {x:Operand} {p u:V} {lo hi:Option V} {lx hx:Option Operand} (ho:o.op = .slice t x lx hx none) (hp:Rep fid Γ p (ρ x))
  (ht:P.underlying t=some (.slice e)) (hn:qaF P e=some n) (h1:qlQ fid Γ ρ lo lx) (h2:qlQ fid Γ ρ hi hx)
  (h:qyz Γ.σ n lo hi p=some (u,σ')):Comes P fid Γ ρ o u σ':=by
 unfold qyz at h
 split at h
 ·rename_i l len sz'
  split at h
  ·rename_i cs hcs
   split at h
   ·rename_i hh eh
    split at h
    ·rename_i el
     split at h
     ·rename_i hcond
      obtain⟨rfl,hcl⟩:=hcond
      cases h
      simp only[Rep] at hp
      obtain⟨ad,cap,hs,g2,g0,g3,g4⟩:=hp
      obtain⟨b,arr,e',q1,rfl,q2,q3⟩:=(g4 _ _ hcs rfl).2 hcl
      obtain⟨olds,arr',e2,k1,k2,k3,k4,k5,k6,k7⟩:=qe1 hr hcs q1
      rw[q2] at k1; cases k1
      have a2:hh<=len:=by rcases qbb h2 eh with ⟨_,rfl⟩|⟨_,_,i',_,_,i3,i4,rfl⟩<;>omega
      have hle:hh*sz'<=len*sz':=WW _ a2
      have hcl2:(cs.take (hh*sz')).length=hh*sz':=by simp; omega
      have htk:arr.toList.take (cs.take (hh*sz')).length=olds.take (hh*sz'):=by
       rw[hcl2,k3,YA]; congr 1; omega
      obtain⟨u1,u2⟩:=qze hr hcs q1 (cs':=cs.take (hh*sz')) (fun hx=>by
       simp only[RepOb]
       refine⟨k6,arr,e',q2,by rw[hcl2]; omega,?_,?_⟩
       ·rw[htk]; exact Reps.ext hx _ _ (qc0 k4 _)
       ·rw[htk]; intro v hv; exact k5 v (Yq hv))
      refine⟨_,.slice (some ⟨b,0,none⟩) hh cap,rfl,u1,u2,?_,.inl ?_⟩
      ·simp only[Rep]
       have hlast:(Γ.σ.set l .dead++[Ob.vec (cs.take (hh*sz'))])[Γ.σ.length]?=some (.vec (cs.take (hh*sz'))):=by
        rw[WZ (by simp)]; simp
       refine⟨_,_,rfl,by omega,g0,⟨_,hlast,rfl⟩,fun ob cs' j1 j2=>?_⟩
       rw[hlast] at j1; cases j1
       simp only[Ob.rows,Wh] at j2; subst j2
       exact⟨by rw[hcl2]; exact Wj _,fun _=>⟨b,arr,e',by simp[pass,q1],rfl,q2,q3⟩⟩
      ·have hb:=qcG (P:=P) (isSl:=true) h1 h2 g2 eh el Γ.w
       simp only[execOp,ho,Instr.sliceAt,Sem.run_bind,qag ht,Result.andThen_ok,Instr.slice,hs,YI,hb,qaK hn,Sem.run_pure]
       by_cases hc:cap=0
       ·simp[hc]
       ·simp[hc,qbB]
     ·cases h
    ·cases h
   ·cases h
  ·cases h
 ·split at h
  ·rename_i v hv
   cases h
   exact c_slice hr ho hp ht hn h1 h2 hv
  ·cases h
theorem qjX(hr:Real fid Γ){v:V}{x:Value}(h:Rep fid Γ v x) : ∃ Γ':Ctx,Γ'.σ = (qpC Γ.σ v).2 /\ Γ'.w = Γ.w/\Real fid Γ'/\Step Γ Γ'/\Rep fid Γ' (qpC Γ.σ v).1 x:=by
 unfold qpC
 split
 ·rename_i l n sz
  split
  ·rename_i cs hcs
   split
   ·rename_i hlen
    split
    ·rename_i ds hds
     have hcd:=qdE hds
     simp only[Rep] at h
     obtain⟨ad,cap,hs,g2,g0,g3,g4⟩:=h
     obtain⟨b,arr,e',q1,rfl,q2,q3⟩:=(g4 _ _ hcs rfl).2 hlen
     obtain⟨olds,arr',e2,k1,k2,k3,k4,k5,k6,k7⟩:=qe1 hr hcs q1
     rw[q2] at k1; cases k1
     have hl:ds.length=cs.length:=by rw[hcd]; simp
     have hD:RepDs Γ.F Γ.w ds olds:=by rw[hcd] at k4; exact Reps_dat.1 k4
     obtain⟨u1,u2⟩:=qqp hr hcs q1 hl (fun hx=>by
      simp only[RepOb]
      refine⟨by simp[grow],arr,e',q2,by omega,?_,?_⟩
      ·have e:arr.toList.take ds.length=olds:=by rw[hl,<- k3]
       rw[e]; exact RepDs.ext hx _ _ hD
      ·have e:arr.toList.take ds.length=olds:=by rw[hl,<- k3]
       rw[e]; exact k5)
     refine⟨⟨Γ.σ.set l (.froz ds),Γ.μ,grow Γ.F b ds.length,Γ.w⟩,rfl,rfl,u1,u2,?_⟩
     simp only[Rep,RepD]
     refine⟨b,0,cap,olds,hs,g2,by simp,RepDs.ext u2.ext _ _ hD,fun j v hj=>?_,fun _=>?_,k5⟩
     ·rw[WG]; exact k7 j v hj
     ·simp[grow,hD.length]
    ·exact⟨Γ,rfl,rfl,hr,.refl _,h⟩
   ·exact⟨Γ,rfl,rfl,hr,.refl _,h⟩
  ·rename_i ds hds
   split
   ·rename_i hlen
    refine⟨Γ,rfl,rfl,hr,.refl _,?_⟩
    simp only[Rep] at h
    obtain⟨ad,cap,hs,g2,g0,g3,g4⟩:=h
    obtain⟨b,arr,e',q1,rfl,q2,q3⟩:=(g4 _ _ hds rfl).2 (by simpa using hlen)
    obtain⟨vs,k1,k2⟩:=qh6 hr hds q1
    simp only[Rep,RepD]
    exact⟨b,0,cap,vs,hs,g2,by simp,k1,k2⟩
   ·exact⟨Γ,rfl,rfl,hr,.refl _,h⟩
  ·exact⟨Γ,rfl,rfl,hr,.refl _,h⟩
 ·refine⟨Γ,rfl,rfl,hr,.refl _,?_⟩
  simp only[Rep,RepD] at h ⊢
  obtain⟨b,cap,vs,m,h1,h2,h3,h4,_⟩:=h
  exact⟨b,0,cap,vs,h1,h2,by simp,h3,h4⟩
 ·exact⟨Γ,rfl,rfl,hr,.refl _,h⟩
end
theorem qjY : ∀ {vs:List V} {Γ : Ctx} {xs:List Value},Real fid Γ -> Reps fid Γ vs xs -> ∃ Γ':Ctx,Γ'.σ = (qpS Γ.σ vs).2 /\ Γ'.w = Γ.w/\Real fid Γ'/\Step Γ Γ'/\Reps fid Γ' (qpS Γ.σ vs).1 xs
 |[],Γ,xs,hr,h=>⟨Γ,rfl,rfl,hr,.refl _,by simpa only [qpS,Reps] using h⟩
 |v::vs,Γ,xs,hr,h=>by
  simp only[Reps] at h
  obtain⟨y,ys,rfl,h1,h2⟩:=h
  obtain⟨Γ1,a1,a2,a3,a4,a5⟩:=qjX hr h1
  obtain⟨Γ2,b1,b2,b3,b4,b5⟩:=qjY (vs:=vs) a3 (Reps.ext a4.ext _ _ h2)
  rw[a1] at b1 b5
  exact⟨Γ2,b1,b2.trans a2,b3,a4.trans b4,_,_,rfl,Rep.ext b4.ext _ _ a5,b5⟩
theorem qpc{Γ : Ctx}{v:V}{x:Value}(hr:Real fid Γ)(h:Rep fid Γ v x) : ∃ Γ':Ctx,Γ'.σ = (qpT Γ.σ v).2 /\ Γ'.w = Γ.w/\Real fid Γ'/\Step Γ Γ'/\Rep fid Γ' (qpT Γ.σ v).1 x:=by
 unfold qpT
 split
 ·simp only[Rep] at h
  obtain⟨vs,rfl,h⟩:=h
  obtain⟨Γ1,a1,a2,a3,a4,a5⟩:=qjY hr h
  exact⟨Γ1,a1,a2,a3,a4,qeh a5⟩
 ·exact qjX hr h
theorem qiX : ∀ {vs:List V} {Γ : Ctx} {xs:List Value},Real fid Γ -> Reps fid Γ vs xs -> ∃ Γ':Ctx,Γ'.σ = (qjd Γ.σ vs).2 /\ Γ'.w = Γ.w/\Real fid Γ'/\Step Γ Γ'/\Reps fid Γ' (qjd Γ.σ vs).1 xs
 |[],Γ,xs,hr,h=>⟨Γ,rfl,rfl,hr,.refl _,by simpa only [qjd,Reps] using h⟩
 |v::vs,Γ,xs,hr,h=>by
  simp only[Reps] at h
  obtain⟨y,ys,rfl,h1,h2⟩:=h
  obtain⟨Γ1,a1,a2,a3,a4,a5⟩:=qpc hr h1
  obtain⟨Γ2,b1,b2,b3,b4,b5⟩:=qiX (vs:=vs) a3 (Reps.ext a4.ext _ _ h2)
  rw[a1] at b1 b5
  exact⟨Γ2,b1,b2.trans a2,b3,a4.trans b4,_,_,rfl,Rep.ext b4.ext _ _ a5,b5⟩
end
section
theorem qvA {fid:Fid} {Γ : Ctx} (hr:Real fid Γ) {t l b:Nat} {cs cs':List V} {w':World} {arr arr':Array Value} {e:TypeId} (ho : Γ.σ[l]?=some (.vecT t cs)) (hm : Γ.μ l=some b) (hl:cs.length<=cs'.length)
  (hw:WOnly b Γ.w w') (ha : Γ.w.heap[b]?=some (.cells arr e (0,0))) (ha':w'.heap[b]?=some (.cells arr' e (0,0))) (hs:arr'.size=arr.size)
  (hn:Ext Γ ⟨Γ.σ.set l (.vecT t cs'),Γ.μ,Γ.F,w'⟩->RepOb fid ⟨Γ.σ.set l (.vecT t cs'),Γ.μ,Γ.F,w'⟩ b (.vecT t cs')) :
  Real fid ⟨Γ.σ.set l (.vecT t cs'),Γ.μ,Γ.F,w'⟩/\Step Γ ⟨Γ.σ.set l (.vecT t cs'),Γ.μ,Γ.F,w'⟩:=by
 have hF : Γ.F b=0:=by have:=hr.obs l _ b ho hm; simp only[RepOb] at this; exact this.1
 have hlt:l < Γ.σ.length:=(Wd.1 ho).1
 have hext:Ext Γ ⟨Γ.σ.set l (.vecT t cs'),Γ.μ,Γ.F,w'⟩:=by
  refine⟨YO hw.size.symm,hw.os,hw.tape,hw.output,fun _=>Wj _,fun k i v hi hv=>?_,fun k arr e hk ha=>⟨arr,?_,rfl⟩,by simp,fun j o hj hjt=>⟨⟨o,?_,hjt⟩,fun _ h=>h⟩,fun j m hj=>⟨m,?_,Wj _,fun h=>h,fun _ _ h=>h⟩,fun j o hj hjt=>?_⟩
  ·have:k≠b:=fun e=>by subst e; omega
   rw[cell?_of_block (hw.other k this)]; exact hv
  ·have:k≠b:=fun e=>by subst e; omega
   rw[hw.other k this]; exact ha
  ·have e:l≠j:=fun e=>by subst e; rw[ho] at hj; cases hj; cases hjt
   rw[Wr e]; exact hj
  ·grind
  ·by_cases e:l=j
   ·subst e
    rw[ho] at hj; cases hj
    refine⟨.vecT t cs',by simp[hlt],rfl,fun c hc=>?_⟩
    simp only[Ob.rows,Wh] at hc; subst hc
    refine⟨cs,rfl,hl,fun _ k hk=>⟨hk,fun a u h=>?_⟩⟩
    rw[hm] at hk; cases hk
    rw[ha] at h; cases h
    exact⟨arr',ha',hs⟩
   ·refine⟨o,by rw[Wr e]; exact hj,hjt,fun c hc=>⟨c,hc,Wj _,fun _ k hk=>⟨hk,fun a u h=>⟨a,?_,rfl⟩⟩⟩⟩
    have:k≠b:=fun e'=>by subst e'; exact e (hr.inj _ _ _ hm hk)
    rw[hw.other k this]; exact h
 refine⟨⟨fun j o k hj hk=>?_,fun j k hk=>?_,hr.inj,fun k hk=>?_,Glb.ext hext hr.glb⟩,hext,⟨fun k hk hno=>⟨hw.other k fun e=>by subst e; exact hno l hm,rfl⟩,fun j k hj _=>⟨j,hj⟩⟩,fun _ _ h=>h⟩
 ·by_cases e:l=j
  ·grind
  ·rw[Wr e] at hj
   have hb:k≠b:=fun e'=>by subst e'; exact e (hr.inj _ _ _ hm hk)
   exact RepOb.ext hext (hw.other k hb) rfl o (hr.obs j o k hj hk)
 ·have:=hr.dom j k hk
  exact⟨by simpa using this.1,by rw[hw.size]; exact this.2⟩
 ·obtain⟨arr,e,fz,h1,h2⟩:=hr.imm k hk
  have:k≠b:=fun e=>by subst e; simp only at hk; omega
  exact⟨arr,e,fz,by rw[hw.other k this]; exact h1,h2⟩
theorem qsh {fid:Fid} {Γ : Ctx} (hr:Real fid Γ) {t l:Nat} {cs cs':List V} (ho : Γ.σ[l]?=some (.vecT t cs)) (hsome:(Γ.μ l).isSome=true) (hl:cs.length<cs'.length) (arr:Array Value) (e:TypeId)
  (hn:Ext Γ ⟨Γ.σ.set l (.vecT t cs'),bind Γ.μ l Γ.w.heap.size,grow Γ.F Γ.w.heap.size 0,Γ.w.alloc (.cells arr e)⟩->RepOb fid ⟨Γ.σ.set l (.vecT t cs'),bind Γ.μ l Γ.w.heap.size,grow Γ.F Γ.w.heap.size 0,Γ.w.alloc (.cells arr e)⟩ Γ.w.heap.size (.vecT t cs')) :
  Real fid ⟨Γ.σ.set l (.vecT t cs'),bind Γ.μ l Γ.w.heap.size,grow Γ.F Γ.w.heap.size 0,Γ.w.alloc (.cells arr e)⟩ /\
  Step Γ ⟨Γ.σ.set l (.vecT t cs'),bind Γ.μ l Γ.w.heap.size,grow Γ.F Γ.w.heap.size 0,Γ.w.alloc (.cells arr e)⟩:=by
 have hlt:=(Wd.1 ho).1
 have hext:Ext Γ ⟨Γ.σ.set l (.vecT t cs'),bind Γ.μ l Γ.w.heap.size,grow Γ.F Γ.w.heap.size 0,Γ.w.alloc (.cells arr e)⟩:=by
  have hal : ∀ b,b < Γ.w.heap.size->(Γ.w.alloc (.cells arr e)).heap[b]? = Γ.w.heap[b]?:=fun b hb=>qaj _ _ hb
  refine⟨by simp,rfl,rfl,rfl,fun b=>?_,fun b i v hi hv=>?_,fun b a u hb ha=>⟨a,?_,rfl⟩,by simp,fun j o hj hjt=>?_,fun j m hj=>?_,fun j o hj hjt=>?_⟩
  ·simp only[grow]; split
   ·rename_i e; subst e; rw[hr.F_size]; exact Wj _
   ·exact Wj _
  ·rw[cell?_of_block (hal b (hr.F_lt (by omega)))]; exact hv
  ·rw[hal b (hr.F_lt hb)]; exact ha
  ·have e:l≠j:=fun e=>by subst e; rw[ho] at hj; cases hj; cases hjt
   exact⟨⟨o,by rw[Wr e]; exact hj,hjt⟩,fun b hb=>by simp only[bind]; rw[if_neg (Yj e)]; exact hb⟩
  ·have e:l≠j:=fun e=>by subst e; rw[ho] at hj; cases hj
   exact⟨m,by rw[Wr e]; exact hj,Wj _,fun hs=>by simp only[bind]; rw[if_neg (Yj e)]; exact hs,fun _ b hb=>by simp only[bind]; rw[if_neg (Yj e)]; exact hb⟩
  ·by_cases e:l=j
   ·subst e
    rw[ho] at hj; cases hj
    refine⟨.vecT t cs',by simp[hlt],rfl,fun c hc=>?_⟩
    simp only[Ob.rows,Wh] at hc; subst hc
    exact⟨cs,rfl,Nat.le_of_lt hl,fun h=>by omega⟩
   ·grind [bind]
 refine⟨⟨fun j ob' b h1 h2=>?_,fun j b h=>?_,fun j j' b h h'=>?_,fun b hb=>?_,Glb.ext hext hr.glb⟩,hext,⟨fun b hb hn=>⟨qaj _ _ hb,?_⟩,fun j b h hb=>?_⟩,fun j _ h=>by simp only[bind]; rw[if_neg (fun e=>by subst e; rw[h] at hsome; cases hsome)]; exact h⟩
 ·simp only[bind] at h2
  split at h2
  ·grind
  ·rename_i e'
   have hd:=hr.dom j b h2
   simp only at h1
   rw[Wr (Yj e')] at h1
   exact RepOb.ext hext (qaj _ _ hd.2) (by simp only[grow]; rw[if_neg (by omega)]) ob' (hr.obs j ob' b h1 h2)
 ·simp only[bind] at h
  split at h
  ·rename_i e'; subst e'; cases h; simp[hlt]
  ·have:=hr.dom j b h
   exact⟨by simpa using this.1,by simp; omega⟩
 ·simp only[bind] at h h'
  split at h<;>split at h'
  ·rename_i e e'; exact e.trans e'.symm
  ·cases h; have:=(hr.dom j' _ h').2; omega
  ·cases h'; have:=(hr.dom j _ h).2; omega
  ·exact hr.inj j j' b h h'
 ·simp only[grow] at hb ⊢
  split at hb
  ·omega
  ·rename_i e'
   obtain⟨a,u,fz,h1,h2⟩:=hr.imm b hb
   exact⟨a,u,fz,by rw[qaj _ _ (qc5 h1)]; exact h1,by simpa [e'] using h2⟩
 ·simp only[grow]; rw[if_neg (by omega)]
 ·grind [bind]
variable{P:Program}{ids:Ids}{fid:Fid}{N:Nat}
section
variable{Γ : Ctx}{fr:Fr}{ρ : Operand->Value}{o:Oper}{v:V}{σ':S}
theorem qjE (hr:Real fid Γ) {t l b:Nat} {cs:List V} (ho : Γ.σ[l]?=some (.vecT t cs)) (hm : Γ.μ l=some b) :
  ∃ vs arr,Γ.w.heap[b]?=some (.cells arr (fid.ty t) (0,0))/\cs.length<=arr.size/\vs=arr.toList.take cs.length/\Reps fid Γ cs vs/\(∀ v∈vs,v.oneCell'=true) /\ Γ.F b=0 /\ ∀ j v,vs[j]?=some v -> Γ.w.cell? ⟨b,j,none⟩=some v:=by
 have:=hr.obs l _ b ho hm
 simp only[RepOb] at this
 obtain⟨h1,arr,h2,h3,h4,h5⟩:=this
 refine⟨_,arr,h2,h3,rfl,h4,h5,h1,fun j x hj=>?_⟩
 simp only[World.cell?,h2]
 simpa using qh5 hj
section
variable{ts tx e ex:TypeId}{s x:Operand}{c:Call}{sz bytes:Nat}{z:Value}
theorem qlt (hr:Real fid Γ) (ho:o.op = .call c) (hcal:c.callee = .builtin .append) (hargs:c.args.toList=[s,x]) (hats:c.argTypes.toList=[ts,tx])
  (hts:P.underlying ts=some (.slice e)) (htx:(∃ ex,P.underlying tx=some (.slice ex))\/P.underlying tx=some .string) (hsz:qaF P e=some sz) (hby:qfc P e=some bytes) (hz:qc1 P e=some z) (hzn:z.cells.size=sz) {t:Nat} (hty:fid.ty t=e)
  {a b u:V} (ha:Rep fid Γ a (ρ s)) (hb:Rep fid Γ b (ρ x)) (h:appendT Γ.σ t sz bytes a b=some (u,σ')):Comes P fid Γ ρ o u σ':=by
 unfold appendT at h
 split at h
 ·cases h
 ·rename_i xs m hsrc
  split at h
  ·rename_i hcond
   obtain⟨hxl,hsz0,hone⟩:=hcond
   obtain⟨news,n1,n2,n3,n4⟩:=qjW (P:=P) hr hb hsrc hxl hone
   have hnl:news.length=m*sz:=by rw[Reps.length n1,hxl]
   split at h
   ·rename_i hm
    subst hm
    have hnews:news=[]:=by
     apply WL; rw[hnl]; simp
    have fin : ∀ base n cap,ρ s = .slice base n cap->n<=cap->(u=a /\ σ' = Γ.σ)->Comes P fid Γ ρ o u σ':=fun base n cap hs hle hu=>by
     obtain⟨rfl,rfl⟩:=hu
     refine .pure hr (x := ρ s) ?_ ha
     refine qbN ho hcal hargs hats ?_
     rw[hs]
     have:=qfm (P:=P) (o:=o) hts htx hsz (base:=base) (n3 Γ.w) (show n+0<=cap by omega) (n4 Γ.w fun _ _=>rfl) (w' := Γ.w) (by rw[hnews]; cases base<;>simp[storeCells])
     simpa using this
    split at h
    ·cases h
     exact fin _ _ _ (qat ha).1 (Wj _) ⟨rfl,rfl⟩
    ·grind [Rep,RepD]
    ·grind [Rep]
    ·cases h
   ·rename_i hm
    have fresh : ∀ {olds:List Value} {cs:List V} {base:Option Addr} {n cap:Nat},ρ s = .slice base n cap->cap<n+m->qao (n+m) bytes=true->Reps fid Γ cs olds->cs.length=n*sz ->
      (∀ w':World,(∀ b i,w'.cell? ⟨b,i,none⟩ = Γ.w.cell? ⟨b,i,none⟩)->(Builtin.firstCells sz n (.slice base n cap)).run P w' = .ok olds.toArray w') ->
      ∃ (newCap:Nat) (rest:Array Value),n+m<=newCap/\(n+m)*sz+rest.size=newCap*sz/\(cs++xs).length=(n+m)*sz/\Reps fid Γ (cs++xs) (olds++news) /\
       (execOp ρ o).run P Γ.w = .ok (.value (.slice (some ⟨Γ.w.heap.size,0,none⟩) (n+m) newCap)) (Γ.w.drew.alloc (.cells ((olds++news).toArray++rest) e)):=by
     intro olds cs base n cap hs hlt hroom hd hcl hold
     obtain⟨newCap,rest,r1,r2,r3⟩:=qiE (P:=P) (o:=o) hts htx hsz hby hz n3 hlt hroom hold n4
     refine⟨newCap,rest,r1,?_,?_,Reps_append.2 ⟨_,_,rfl,hd,n1⟩,qbN ho hcal hargs hats (by rw[hs]; exact r3)⟩
     ·rw[r2,hzn,<- Nat.add_mul]; congr 1; omega
     ·rw[Wb,hcl,hxl,W3]
    obtain⟨d1,d2⟩:=qku hr
    have obok : ∀ {Γ':Ctx} {olds:List Value} {cs:List V} {rest:Array Value},Ext ⟨Γ.σ,Γ.μ,Γ.F,Γ.w.drew⟩ Γ' -> Γ'.w = Γ.w.drew.alloc (.cells ((olds++news).toArray++rest) e) -> Γ'.F Γ.w.heap.size=0 ->
      Reps fid Γ (cs++xs) (olds++news)->(∀ v∈olds,v.oneCell'=true)->RepOb fid Γ' Γ.w.heap.size (.vecT t (cs++xs)):=by
     intro Γ' olds cs rest hx hw hF g1 g2
     have hlen:=Reps.length g1
     have htk:((olds++news).toArray++rest).toList.take (cs++xs).length=olds++news:=by
      rw[<- hlen,Array.toList_append]; exact Yt rfl
     simp only[RepOb]
     refine⟨hF,_,by rw[hw,hty]; exact qal Γ.w.drew _,by rw[<- hlen]; simp,?_,?_⟩
     ·rw[htk]; exact Reps.ext hx _ _ (Reps.ext d2.ext _ _ g1)
     ·grind
    have grown : ∀ {Γ':Ctx} {olds:List Value} {cs:List V} {rest:Array Value} {n newCap l:Nat},Γ'.w = Γ.w.drew.alloc (.cells ((olds++news).toArray++rest) e) ->
      Γ'.σ[l]?=some (.vecT t (cs++xs)) -> Γ'.μ l=some Γ.w.heap.size->n+m<=newCap->(n+m)*sz+rest.size=newCap*sz->(cs++xs).length=(n+m)*sz->Reps fid Γ (cs++xs) (olds++news) ->
      Rep fid Γ' (.own l (n+m) sz) (.slice (some ⟨Γ.w.heap.size,0,none⟩) (n+m) newCap):=by
     intro Γ' olds cs rest n newCap l hw hσ hμ g1 g2 g3 g5
     have hlen:=Reps.length g5
     simp only[Rep]
     refine⟨_,_,rfl,g1,hsz0,⟨_,hσ,rfl⟩,fun ob cs' k1 k2=>?_⟩
     rw[hσ] at k1; cases k1
     simp only[Ob.rows,Wh] at k2; subst k2
     refine⟨by rw[g3]; exact Wj _,fun _=>⟨Γ.w.heap.size,_,e,hμ,rfl,by rw[hw]; exact qal Γ.w.drew _,?_⟩⟩
     simp only[Yx,YE,hlen,g3]
     omega
    split at h
    ·split at h
     ·rename_i hroom
      cases h
      obtain⟨newCap,rest,f1,f2,f3,f5,f7⟩:=fresh (olds:=[]) (cs:=[]) (qat ha).1 (show 0<0+m by omega) (by simpa using hroom) (by simp[Reps]) (by simp)
       (fun w' _=>by simp[Builtin.firstCells])
      obtain⟨k1,k2⟩:=qcB d1 (.vecT t xs) (.cells (([]++news).toArray++rest) e) 0
       (fun Γ' e' hx=>by
        have:=obok (cs:=[]) (olds:=[]) (rest:=rest) hx (by subst e'; rfl) (by subst e'; simp[grow]) f5 (by simp)
        simpa using this) (fun h=>absurd h (WX _))
      refine⟨_,_,rfl,k1,d2.trans k2,?_,.inl f7⟩
      have:=grown (cs:=[]) (olds:=[]) (rest:=rest) (n:=0) (newCap:=newCap) (l := Γ.σ.length) (Γ':=⟨Γ.σ ++ [.vecT t xs],bind Γ.μ Γ.σ.length Γ.w.drew.heap.size,grow Γ.F Γ.w.drew.heap.size 0,Γ.w.drew.alloc (.cells (([]++news).toArray++rest) e)⟩) rfl (by simp) (by simp[bind]) f1 f2 f3 f5
      simpa using this
     ·cases h
    ·rename_i l n sz'
     split at h
     ·rename_i t' cs hcs
      split at h
      ·rename_i hcond
       obtain⟨hroom,hcl,rfl,htt⟩:=hcond; subst t'
       cases h
       have ha':=ha
       simp only[Rep] at ha'
       obtain⟨ad,cap,hs,h2,h0,h3,h4⟩:=ha'
       obtain⟨b',arr,e',q1,rfl,q2,q3⟩:=(h4 _ _ hcs rfl).2 hcl
       obtain⟨olds,arr',k1,k2,k3,k4,k5,k6,k7⟩:=qjE hr hcs q1
       rw[q2] at k1; cases k1
       have hol:olds.length=n*sz':=by rw[Reps.length k4,hcl]
       have hpos:0<m*sz':=Nat.mul_pos (by omega) hsz0
       by_cases hfit:n+m<=cap
       ·have hbd:(n+m)*sz'<=cap*sz':=WW _ hfit
        rw[W3] at hbd
        obtain⟨w',s1,s2,arr',s3,s4⟩:=qcf (P:=P) news 0 Γ.w b' (n*sz') arr _ q2 n2 (by rw[hnl]; omega)
        have hlen':arr'.size=arr.size:=by
         have:=congrArg List.length s4
         simp[hnl] at this
         omega
        have hnl2:(cs++xs).length=n*sz'+m*sz':=by rw[Wb,hcl,hxl]
        have htk:arr'.toList.take (cs++xs).length=olds++news:=by grind
        obtain⟨u1,u2⟩:=qvA hr hcs q1 (cs':=cs++xs) (by simp) s2 q2 s3 hlen' (fun hx=>by
         simp only[RepOb]
         refine⟨k6,arr',s3,by rw[hnl2,hlen']; omega,?_,?_⟩
         ·rw[htk]; exact Reps.ext hx _ _ (Reps_append.2 ⟨_,_,rfl,k4,n1⟩)
         ·rw[htk]
          intro v hv
          rcases Wp.1 hv with hv|hv
          ·exact k5 v hv
          ·exact n2 v hv)
        refine⟨_,.slice (some ⟨b',0,none⟩) (n+m) cap,rfl,u1,u2,?_,.inl (qbN ho hcal hargs hats ?_)⟩
        ·simp only[Rep]
         refine⟨_,_,rfl,hfit,hsz0,⟨.vecT t (cs++xs),by simp[(Wd.1 hcs).1],rfl⟩,fun ob cs' j1 j2=>?_⟩
         have:ob = .vecT t (cs++xs):=by simpa [(Wd.1 hcs).1] using j1.symm
         subst this
         simp only[Ob.rows,Wh] at j2; subst j2
         exact⟨by rw[hnl2,W3]; exact Wj _,fun _=>⟨b',arr',_,q1,rfl,s3,by rw[hlen']; exact q3⟩⟩
        ·simp_all [qfm,qbB]
       ·obtain⟨newCap,rest,f1,f2,f3,f5,f7⟩:=fresh hs (show cap<n+m by omega) hroom k4 hcl (fun w' hw=>by
         have:=qa5 (P:=P) (w:=w') (b:=b') (o:=0) (vs:=olds) (fun j v hj=>by rw[hw,WG]; exact k7 j v hj)
         rw[hol] at this
         simp only[Builtin.firstCells,this])
        obtain⟨j1,j2⟩:=qsh d1 hcs (by simp[q1]) (cs':=cs++xs) (by rw[Wb,hxl]; omega) ((olds++news).toArray++rest) e
         (fun hx=>obok hx rfl (by simp[grow]) f5 k5)
        exact⟨_,_,rfl,j1,d2.trans j2,grown rfl (by simp[(Wd.1 hcs).1]) (by simp[bind]) f1 f2 f3 f5,.inl f7⟩
      ·cases h
     ·cases h
    ·cases h
  ·cases h
end
theorem qeU{F:Nat->Nat} : ∀ {vs:List V} {xs:List Value} {bs:List UInt8},qc4 vs=some bs->Reps fid Γ vs xs->xs=bs.map fun b=>Value.int .u8 b.toNat
 |[],xs,bs,h,hr=>by
  cases h
  simp only[Reps] at hr
  simp[hr]
 |v::vs,xs,bs,h,hr=>by
  unfold qc4 at h
  split at h
  ·rename_i h0; cases h0
  ·rename_i n r h0
   cases h0
   split at h
   ·rename_i hn
    split at h
    ·rename_i cs hcs
     cases h
     simp only[Reps] at hr
     obtain⟨y,ys,rfl,h1,h2⟩:=hr
     rw[qeU (F:=F) hcs h2,(qat h1).1]
     simp only[Wv]
     congr 2
     have:(UInt8.ofNat n.toNat).toNat=n.toNat:=by simp_all
     rw[this]; omega
    ·cases h
   ·cases h
  ·cases h
theorem qfH : ∀ {vs:List V} {bs:List UInt8},qc4 vs=some bs->bs.length=vs.length
 |[],bs,h=>by cases h; rfl
 |v::vs,bs,h=>by
  unfold qc4 at h
  split at h
  ·rename_i h0; cases h0
  ·rename_i n r h0
   cases h0
   split at h
   ·split at h
    ·rename_i cs hcs
     cases h
     simp[qfH hcs]
    ·cases h
   ·cases h
  ·cases h
theorem qoP(l:List UInt8) : ∀ r:ByteArray,(l.map fun b=>(b.toNat:Int)).foldl (fun r n=>r.push (UInt8.ofNat n.toNat)) r=⟨r.data++l.toArray⟩:=by
 induction l with
 |nil=>intro r; simp
 |cons b l ih=>
  intro r
  simp only[Wv,Ya,ih]
  apply ByteArray.ext
  simp[ByteArray.push]
theorem qyG (hr:Real fid Γ) {s t e:TypeId} {x:Operand} {p u:V} (ho:o.op = .convert s t x) (hp:Rep fid Γ p (ρ x)) (hs:P.underlying s=some (.slice e)) (he:P.underlying e=some (.int .u8)) (ht:P.underlying t=some .string)
  (h:qr9 Γ.σ p=some u):Comes P fid Γ ρ o u Γ.σ:=by
 unfold qr9 at h
 split at h
 ·rename_i xs m hsrc
  split at h
  ·rename_i hcond
   obtain⟨hl,hns⟩:=hcond
   split at h
   ·rename_i bs hbs
    cases h
    rcases srcO_row hr hp hsrc with ⟨a,hx,rfl,rfl⟩|⟨s',rfl,_,_,_⟩|⟨b,off,cap,vs,hx,hv,hc⟩
    ·cases hbs
     refine .pure hr (x := .string ⟨#[]⟩) ?_ (by simp[Rep,RepD,qbC])
     simp only[execOp,ho,hx]
     rw[Sem.run_bind,run_convert_bytes_string Γ.w s t e a 0 0 hs he ht]
     cases a with
     |none=>simp[Conv.bytesToString]; rfl
     |some a=>
      rw[run_bytesToString Γ.w a 0 0 [] (by simp[loadCells,loadCellsFrom])]
      simp; rfl
    ·simp[V.isStr] at hns
    ·have hvs:=qeU (F := Γ.F) hbs hv
     have hlen:vs.length=m:=by rw[Reps.length hv,hl]
     refine .pure hr (x := .string ⟨bs.toArray⟩) ?_ (by simp[Rep,RepD,qbC])
     simp only[execOp,ho,hx]
     rw[Sem.run_bind,run_convert_bytes_string Γ.w s t e _ m cap hs he ht]
     have hload:=qa5 (P:=P) (w := Γ.w) (b:=b) (o:=off) (vs:=vs) hc
     rw[hlen] at hload
     rw[run_bytesToString Γ.w ⟨b,off,none⟩ m cap (bs.map fun b=>(b.toNat:Int)) (by rw[hload,hvs]; simp),qoP]
     simp
   ·cases h
  ·cases h
 ·cases h
theorem qsi (hr:Real fid Γ) {t e:TypeId} {len n:Nat} {x:Operand} {p u:V} {lo hi:Option V} {lx hx:Option Operand} (ho:o.op = .slice t x lx hx none) (hp:Rep fid Γ p (ρ x))
  (ht:P.underlying t=some (.array len e)) (hn:qaF P e=some n) (h1:qlQ fid Γ ρ lo lx) (h2:qlQ fid Γ ρ hi hx)
  (h:qks len n lo hi p=some u):Comes P fid Γ ρ o u Γ.σ:=by
 unfold qks at h
 split at h
 ·rename_i l off
  split at h
  ·rename_i hh eh
   split at h
   ·rename_i k el
    cases h
    simp only[Rep] at hp
    obtain⟨b,hm,hx',hfix⟩:=hp
    have hb:=qcG (P:=P) (isSl:=false) h1 h2 (Wj len) eh el Γ.w
    have a1:k<=hh:=by rcases qbb h1 el with ⟨_,rfl⟩|⟨_,_,i',_,_,i3,i4,rfl⟩<;>omega
    have a2:hh<=len:=by rcases qbb h2 eh with ⟨_,rfl⟩|⟨_,_,i',_,_,i3,i4,rfl⟩<;>omega
    refine .pure hr (x := .slice (some ⟨b,if len=k then off else off+k*n,none⟩) (hh-k) (len-k)) ?_ ?_
    ·simp only[execOp,ho,Instr.sliceAt,Sem.run_bind,qag ht,Result.andThen_ok,Instr.sureAddr,hx',YI,hb,qaK hn,Sem.run_pure]
     by_cases hc:len=k
     ·simp[hc]
     ·simp[hc,qbB]
    ·grind [Rep]
   ·cases h
  ·cases h
 ·cases h
theorem qyH(hr:Real fid Γ){t:TypeId}{k:Nat}{x:Operand}{u:V}(ho:o.op = .box t x)(hk:fid.ty k=t)(hu:Rep fid Γ u (ρ x)):Comes P fid Γ ρ o (.ptr Γ.σ.length 0) (Γ.σ ++ [.cellsT k u.cells]):=by
 obtain⟨h1,h2⟩:=qcB hr (.cellsT k u.cells) (.cells (ρ x).cells t) 0
  (fun Γ' e hx=>by
   subst e
   simp only[RepOb,grow,if_pos]
   exact⟨trivial,(ρ x).cells,by rw[hk]; exact qal _ _,Reps.ext hx _ _ (qei hu)⟩) (fun h=>absurd h (WX _))
 refine⟨_,.pointer (some ⟨Γ.w.heap.size,0,none⟩),rfl,h1,h2,?_,.inl ?_⟩
 ·simp only[Rep]
  exact⟨Γ.w.heap.size,by simp[bind],rfl,⟨.cellsT k u.cells,by simp,rfl⟩⟩
 ·simp only[execOp,ho,Instr.box,newVar,newRow]
  simp
theorem qfU{w:World}{b:Nat}{arr:Array Value}{e:TypeId}{fz:Nat × Nat}(h:w.heap[b]?=some (.cells arr e fz)):w.shape? b=some (e,arr.size):=by
 simp[World.shape?,h]
theorem qCU (hr:Real fid Γ) {s t e:TypeId} {x:Operand} {l off k:Nat} {cs:List V} (ho:o.op = .convert s t x) (hs:P.underlying s=some (.pointer e)) (ht:P.underlying t=some .unsafePointer) {n:Nat} (hn:qaF P e=some n) (hn0:n≠0)
  (hp:Rep fid Γ (.ptr l off) (ρ x)) (hσ : Γ.σ[l]?=some (.cellsT k cs)) (hlt:off<cs.length):Comes P fid Γ ρ o (.ptr l off) Γ.σ:=by
 have hp':=hp
 simp only[Rep] at hp'
 obtain⟨b,hm,hx,_⟩:=hp'
 obtain⟨_,arr,h2,h3⟩:=hr.obs l _ b hσ hm
 have hl:=Reps.length h3
 have hsh:=qfU h2
 refine .pure hr (x := ρ x) ?_ hp
 simp only[execOp,ho,hx,Sem.run_bind,convert,qag hs,qag ht,Result.andThen_ok,Conv.unsafePointer,Conv.seenAt,viewAt,run_shape,hsh,Option.isSome_some,if_true,Sem.run_pure,cellsIn]
 have h1 : ¬ arr.size<=off:=by rw[WC] at hl; omega
 simp[qaK hn,hn0,h1]
theorem qgq{u:TypeId}{k n:Nat} : ∀ {ts:List TypeId},(ql9 P ids u ts).contains (k,n)=true -> ∃ t,ids.ty t=some k/\n=P.cellsOf t/\liesAt P P.depth t (P.cellsOf t / P.cellsOf t) 0 u 1=true
 |[],h=>by simp[ql9] at h
 |t::ts,h=>by
  simp only[ql9] at h
  split at h
  ·rename_i m hm
   split at h
   ·rename_i hl
    simp only[List.contains_cons,Yl,beq_iff_eq,WH] at h
    rcases h with ⟨rfl,rfl⟩|h
    ·exact⟨t,hm,rfl,hl⟩
    ·exact qgq h
   ·exact qgq h
  ·exact qgq h
theorem qyI (hid:Ties P ids fid) (hr:Real fid Γ) {s t e:TypeId} {x:Operand} {l k:Nat} {cs:List V} (ho:o.op = .convert s t x) (hs:P.underlying s=some .unsafePointer) (ht:P.underlying t=some (.pointer e)) {n:Nat} (hn:qaF P e=some n)
  (hp:Rep fid Γ (.ptr l 0) (ρ x)) (hσ : Γ.σ[l]?=some (.cellsT k cs)) (hin:(ql9 P ids e (List.range P.types.size)).contains (k,cs.length)=true):Comes P fid Γ ρ o (.ptr l 0) Γ.σ:=by
 have hp':=hp
 simp only[Rep] at hp'
 obtain⟨b,hm,hx,_⟩:=hp'
 obtain⟨_,arr,h2,h3⟩:=hr.obs l _ b hσ hm
 have hl:=Reps.length h3
 rw[WC] at hl
 have hsh:=qfU h2
 obtain⟨T,q1,q2,q3⟩:=qgq hin
 rw[hid.ty T k q1,hl,q2] at hsh
 refine .pure hr (x := ρ x) ?_ hp
 simp only[execOp,ho,hx,Sem.run_bind,convert,qag hs,qag ht,Result.andThen_ok,Conv.unsafePointer,Conv.seenAt,viewAt,run_shape,hsh,Option.isSome_some,if_true,Sem.run_pure,qaK hn]
 by_cases hz:n=0
 ·simp[hz,variablesAt,hsh,q3]
 ·simp[hz,variablesAt,hsh,q3]
theorem qyJ (hr:Real fid Γ) {op:BinOp} {t t' e:TypeId} {x y:Operand} {l off:Nat} (neg:Bool) (hop:op=if neg then .neq else .eql) (ho:o.op = .binOp op t x y t') (ht:P.underlying t=some (.pointer e)) {n:Nat} (hn:qaF P e=some n) (hn0:n≠0)
  (hx:Rep fid Γ (.ptr l off) (ρ x)) (hy:Rep fid Γ (.ptr l off) (ρ y)):Comes P fid Γ ρ o (.bool (!neg)) Γ.σ:=by
 simp only[Rep] at hx hy
 obtain⟨b,hm,hx,_⟩:=hx
 obtain⟨b',hm',hy,_⟩:=hy
 rw[hm] at hm'; cases hm'
 refine .pure hr (x := .bool (!neg)) ?_ (by simp[Rep,RepD,qbC])
 have heq:(Op.equal t (.pointer (some ⟨b,off,none⟩)) (.pointer (some ⟨b,off,none⟩))).run P Γ.w = .ok true Γ.w:=by
  rw[show Op.equal t (.pointer (some ⟨b,off,none⟩)) (.pointer (some ⟨b,off,none⟩))=Op.equalIn (9999+1) t (.pointer (some ⟨b,off,none⟩)) (.pointer (some ⟨b,off,none⟩)) from rfl,Op.equalIn]
  simp only[Sem.run_bind,qag ht,Result.andThen_ok,qaK hn]
  simp[hn0,sameAddr]
 cases neg with
 |false=>
  simp only[Wn,if_false] at hop
  subst hop
  simp only[execOp,ho,hx,hy,Sem.run_bind,eqGuard,binOp]
  simp[heq]
 |true=>
  simp only[if_true] at hop
  subst hop
  simp only[execOp,ho,hx,hy,Sem.run_bind,eqGuard,binOp]
  simp[heq]
section
variable{c:Call}{x y:Operand}{tx:TypeId}
theorem qyK (hr:Real fid Γ) (ho:o.op = .call c) (hcal:c.callee = .builtin .unsafeSliceData) (hargs:c.args.toList=[x]) {u v:V} (hu:Rep fid Γ u (ρ x))
  (h:(u = .dat (.lit (.slice none 0 0))/\v = .dat (.lit (.pointer none))) \/ ∃ l n,u = .own l n 1/\0<n/\v = .eptr l n 0):Comes P fid Γ ρ o v Γ.σ:=by
 have ha:c.args = #[x]:=by apply WN; simpa using hargs
 have call : ∀ r,(Builtin.unsafeSliceData_ c.argTypes o.type #[ρ x]).run P Γ.w = .ok r Γ.w->(execOp ρ o).run P Γ.w = .ok (.value r) Γ.w:=fun r hr'=>by
  simp only[execOp,ho,resolve,hcal,ha,invoke,builtin,Sem.run_bind,Sem.run_pure,Result.andThen_ok]
  simp[hr']
 rcases h with ⟨rfl,rfl⟩|⟨l,n,rfl,hn,rfl⟩
 ·exact .pure hr (call _ (by rw[(qat hu).1]; exact Lib.run_unsafeSliceData_nil _ _ _ 0 0)) (by simp[Rep,RepD,qbC])
 ·simp only[Rep] at hu
  obtain⟨a,cap,hx,h2,_,h3,h4⟩:=hu
  refine .pure hr (call _ (by rw[hx]; exact Lib.run_unsafeSliceData_row _ _ _ a n cap (by omega))) ?_
  simp only[Rep]
  refine⟨a,rfl,h3,fun ob cs q1 q2=>?_⟩
  obtain⟨q3,q4⟩:=h4 ob cs q1 q2
  refine⟨by omega,fun hl=>?_⟩
  obtain⟨b,arr,e,k1,k2,k3,k4⟩:=q4 (by omega)
  exact⟨b,arr,e,k1,k2,k3,by omega⟩
end
def unb(μ : Nat->Option Nat)(l:Nat):Nat->Option Nat:=fun j=>if j=l then none else μ j
theorem qvB (hr:Real fid Γ) {t l b:Nat} {cs:List V} {w':World} (ho : Γ.σ[l]?=some (.vecT t cs)) (hm : Γ.μ l=some b) (hw:WOnly b Γ.w w') :
  Real fid ⟨Γ.σ.set l .dead,unb Γ.μ l,Γ.F,w'⟩/\Step Γ ⟨Γ.σ.set l .dead,unb Γ.μ l,Γ.F,w'⟩:=by
 have hF : Γ.F b=0:=by have:=hr.obs l _ b ho hm; simp only[RepOb] at this; exact this.1
 have hlt:l < Γ.σ.length:=(Wd.1 ho).1
 have hne : ∀ j,l≠j->unb Γ.μ l j = Γ.μ j:=fun j e=>by simp only[unb]; rw[if_neg (Yj e)]
 have hback : ∀ j k,unb Γ.μ l j=some k->j≠l /\ Γ.μ j=some k:=fun j k h=>by grind [unb]
 have hother : ∀ j k,j≠l -> Γ.μ j=some k->k≠b:=fun j k e hk e'=>by subst e'; exact e (hr.inj _ _ _ hk hm)
 have hext:Ext Γ ⟨Γ.σ.set l .dead,unb Γ.μ l,Γ.F,w'⟩:=by
  refine⟨YO hw.size.symm,hw.os,hw.tape,hw.output,fun _=>Wj _,fun k i v hi hv=>?_,fun k arr e hk ha=>⟨arr,?_,rfl⟩,by simp,fun j o hj hjt=>?_,fun j m hj=>?_,qeS fun j o hj hjt=>?_⟩
  ·have:k≠b:=fun e=>by subst e; omega
   rw[cell?_of_block (hw.other k this)]; exact hv
  ·have:k≠b:=fun e=>by subst e; omega
   rw[hw.other k this]; exact ha
  ·have e:l≠j:=fun e=>by subst e; rw[ho] at hj; cases hj; cases hjt
   exact⟨⟨o,by rw[Wr e]; exact hj,hjt⟩,fun k hk=>(hne j e).trans hk⟩
  ·have e:l≠j:=fun e=>by subst e; rw[ho] at hj; cases hj
   exact⟨m,by rw[Wr e]; exact hj,Wj _,fun h=>show (unb Γ.μ l j).isSome=true from by rw[hne j e]; exact h,fun _ k hk=>(hne j e).trans hk⟩
  ·by_cases e:l=j
   ·subst e; exact .inr ⟨.dead,by simp[hlt],rfl,rfl⟩
   ·exact .inl ⟨by rw[Wr e]; exact hj,fun k hk=>⟨(hne j e).trans hk,fun a u h=>by
     rw[hw.other k (hother j k (Yj e) hk)]; exact h⟩⟩
 refine⟨⟨fun j o k hj hk=>?_,fun j k hk=>?_,fun j j' k hk hk'=>?_,fun k hk=>?_,Glb.ext hext hr.glb⟩,hext,⟨fun k hk hno=>⟨hw.other k fun e=>by subst e; exact hno l hm,rfl⟩,fun j k hj _=>⟨j,(hback j k hj).2⟩⟩,fun j hj hn=>?_⟩
 ·obtain⟨h1,h2⟩:=hback j k hk
  simp only at hj
  rw[Wr (Yj h1)] at hj
  exact RepOb.ext hext (hw.other k (hother j k h1 h2)) rfl o (hr.obs j o k hj h2)
 ·obtain⟨h1,h2⟩:=hback j k hk
  have:=hr.dom j k h2
  exact⟨by simpa using this.1,by rw[hw.size]; exact this.2⟩
 ·exact hr.inj j j' k (hback j k hk).2 (hback j' k hk').2
 ·obtain⟨arr,e,fz,h1,h2⟩:=hr.imm k hk
  have:k≠b:=fun e=>by subst e; simp only at hk; omega
  exact⟨arr,e,fz,by rw[hw.other k this]; exact h1,h2⟩
 ·simp only[unb]
  split
  ·rfl
  ·exact hn
theorem qmw(w:World)(b n:Nat):WOnly b w (w.freeze ⟨b,0,none⟩ n):=by
 unfold World.freeze
 split
 ·exact .refl b w
 ·exact⟨rfl,rfl,rfl,by simp,fun k hk=>by
   simp only[Array.getElem?_modify]
   rw[if_neg (by simpa using Yj hk)]⟩
section
variable{c:Call}{x y:Operand}{tx ty:TypeId}
theorem qyL (hr:Real fid Γ) (ho:o.op = .call c) (hcal:c.callee = .builtin .unsafeString) (hargs:c.args.toList=[x,y]) (hats:c.argTypes.toList=[tx,ty]) {e:TypeId} {t l:Nat} {cs:List V} {k:IntKind} {bs:List UInt8}
  (htx:P.underlying tx=some (.pointer e)) (hce:P.cellsOf e=1) (hty:fid.ty t=e) (hx:Rep fid Γ (.eptr l cs.length 0) (ρ x)) (hy:Rep fid Γ (.dat (.lit (.int k cs.length))) (ρ y)) (hk:k = .i64)
  (hσ : Γ.σ[l]?=some (.vecT t cs)) (h0:0<cs.length) (h40:cs.length<=2 ^ 40) (hbs:qc4 cs=some bs):Comes P fid Γ ρ o (.str ⟨bs.toArray⟩) (Γ.σ.set l .dead):=by
 subst hk
 have ha:c.args = #[x,y]:=by apply WN; simpa using hargs
 have hb:c.argTypes = #[tx,ty]:=by apply WN; simpa using hats
 simp only[Rep] at hx
 obtain⟨a,hx,_,h4⟩:=hx
 obtain⟨b,arr',e',q1,q2,q3,q4⟩:=(h4 _ _ hσ rfl).2 rfl
 obtain⟨vs,arr,k1,k2,k3,k4,k5,k6,k7⟩:=qjE hr hσ q1
 subst q2
 have hvs:=qeU (F := Γ.F) hbs k4
 have hlen:=qfH hbs
 have hrun:=Lib.run_unsafeString_row (P:=P) Γ.w tx ty o.type e htx hce b arr.size (by rw[qfU k1,hty]) bs (by intro h; rw[h] at hlen; simp at hlen; omega) (by omega) (by omega) (fun j z hj=>by
  rw[qbB,WG]
  exact k7 j _ (by rw[hvs,Ys,hj]; rfl))
 obtain⟨u1,u2⟩:=qvB hr hσ q1 (qmw Γ.w b bs.length)
 refine⟨_,.string ⟨bs.toArray⟩,rfl,u1,u2,by simp[Rep,RepD,qbC],.inl ?_⟩
 simp only[execOp,ho,resolve,hcal,ha,hb,invoke,builtin,Sem.run_bind,Sem.run_pure,Result.andThen_ok]
 rw[hlen] at hrun
 simp[hx,(qat hy).1,hrun]
 simp[hlen]
theorem qvC (hr:Real fid Γ) (ho:o.op = .call c) (hcal:c.callee = .builtin .unsafeString) (hargs:c.args.toList=[x,y]) (hats:c.argTypes.toList=[tx,ty]) {k:IntKind}
  (hx:Rep fid Γ (.dat (.lit (.pointer none))) (ρ x)) (hy:Rep fid Γ (.dat (.lit (.int k 0))) (ρ y)) (hk:k = .i64):Comes P fid Γ ρ o (.str ⟨#[]⟩) Γ.σ:=by
 subst hk
 have ha:c.args = #[x,y]:=by apply WN; simpa using hargs
 have hb:c.argTypes = #[tx,ty]:=by apply WN; simpa using hats
 have hrun:=Lib.run_unsafeString_none (P:=P) Γ.w tx ty o.type none
 refine .pure hr (x := .string ⟨#[]⟩) ?_ (by simp[Rep,RepD,qbC])
 simp only[execOp,ho,resolve,hcal,ha,hb,invoke,builtin,Sem.run_bind,Sem.run_pure,Result.andThen_ok]
 simp[(qat hx).1,(qat hy).1,hrun]
 try rfl
theorem qqb(fn:Func)(h:fn.name = "internal/abi.NoEscape")(ho:fn.origin = ""):Extern.findNext fn=none/\Extern.find fn=some Extern.AbiNoEscape.same:=by
 have g1:Extern.allNextRows.lookup "internal/abi.NoEscape" = none:=by kernel_rfl
 have g2:Extern.allNextRows.lookup "" = none:=by kernel_rfl
 have g3:Extern.allGenericRows.lookup "internal/abi.NoEscape" = none:=by kernel_rfl
 have g4:Extern.allTypedRows.lookup "internal/abi.NoEscape" = none:=by kernel_rfl
 have g5:Extern.allRows.lookup "internal/abi.NoEscape" = some Extern.AbiNoEscape.same:=by kernel_rfl
 constructor
 ·simp only[Extern.findNext,h,ho,g1,g2]; rfl
 ·simp only[Extern.find,h,ho,g3,g4,g5]; rfl
theorem qsj(fn:Func)(h:fn.name = "internal/bytealg.IndexByteString")(ho:fn.origin = ""):Extern.findNext fn=none/\Extern.find fn=some Extern.BytealgIndexByte.indexByte:=by
 have g1:Extern.allNextRows.lookup "internal/bytealg.IndexByteString" = none:=by kernel_rfl
 have g2:Extern.allNextRows.lookup "" = none:=by kernel_rfl
 have g3:Extern.allGenericRows.lookup "internal/bytealg.IndexByteString" = none:=by kernel_rfl
 have g4:Extern.allTypedRows.lookup "internal/bytealg.IndexByteString" = none:=by kernel_rfl
 have g5:Extern.allRows.lookup "internal/bytealg.IndexByteString" = some Extern.BytealgIndexByte.indexByte:=by kernel_rfl
 constructor
 ·simp only[Extern.findNext,h,ho,g1,g2]; rfl
 ·simp only[Extern.find,h,ho,g3,g4,g5]; rfl
theorem qhH {f:FuncId} {b:Bool} (h:qhw P f=some b) : ∃ fn,P.funcs[f]?=some fn/\fn.body.isNone=true/\(fn.name == "runtime.NumGoroutine")=false/\Extern.findNext fn=none /\
  Extern.find fn=some (if b then Extern.BytealgIndexByte.indexByte else Extern.AbiNoEscape.same):=by
 unfold qhw at h
 split at h
 ·grind [qhw,qqb,qsj]
 ·cases h
theorem qCz{xs:List Operand}{y:X}(h:cXs ids N xs=some [y]) : ∃ x,xs=[x]/\cX ids N x=some y:=by
 cases xs with
 |nil=>simp[cXs] at h
 |cons x r=>
  simp only[cXs] at h
  split at h
  ·rename_i u us h1 h2
   simp only[Wh,WI] at h
   obtain⟨rfl,rfl⟩:=h
   cases r with
   |nil=>exact⟨x,rfl,h1⟩
   |cons z r=>
    simp only[cXs] at h2
    split at h2<;>cases h2
  ·cases h
theorem qCV{xs:List Operand}{y z:X}(h:cXs ids N xs=some [y,z]) : ∃ p q,xs=[p,q]/\cX ids N p=some y/\cX ids N q=some z:=by
 cases xs with
 |nil=>simp[cXs] at h
 |cons x r=>
  simp only[cXs] at h
  split at h
  ·grind [cXs,cX,qCz]
  ·cases h
theorem qyM(hr:Real fid Γ){f:FuncId}(ho:o.op = .call c)(hcal:c.callee = .value (.func f))(he:qhw P f=some false)(hargs:c.args.toList=[x]){u:V}(hf : ρ (.func f) = .func (.func f) #[] #[])(hu:Rep fid Γ u (ρ x)):Comes P fid Γ ρ o u Γ.σ:=by
 have ha:c.args = #[x]:=by apply WN; simpa using hargs
 obtain⟨fn,h1,h2,h3,h4,h5⟩:=qhH he
 simp only[Wn,if_false] at h5
 refine .pure hr (x := ρ x) ?_ hu
 simp only[execOp,ho,resolve,hcal,ha,hf,Deferred.ofValue,Sem.run_bind,Sem.run_pure,Result.andThen_ok,invoke]
 have:=run_callFunc_extern h1 h3 h2 h4 h5 #[ρ x] Γ.w
 have hs:(Extern.AbiNoEscape.same #[ρ x]).run P Γ.w = .ok (ρ x) Γ.w:=rfl
 simp[this,hs]
theorem qBq (hr:Real fid Γ) {f:FuncId} (ho:o.op = .call c) (hcal:c.callee = .value (.func f)) (he:qhw P f=some true) (hargs:c.args.toList=[x,y]) (hf : ρ (.func f) = .func (.func f) #[] #[]) {s:ByteArray} {n:Int} (hx:Rep fid Γ (.str s) (ρ x)) (hy:Rep fid Γ (.dat (.lit (.int .u8 n))) (ρ y)) :
  Comes P fid Γ ρ o (.int (firstIdx s n.toNat.toUInt8)) Γ.σ:=by
 have ha:c.args = #[x,y]:=by apply WN; simpa using hargs
 obtain⟨fn,h1,h2,h3,h4,h5⟩:=qhH he
 simp only[if_true] at h5
 refine .pure hr (x := .int .i64 (firstIdx s n.toNat.toUInt8)) ?_ (by simp[Rep,RepD,qbC])
 simp only[execOp,ho,resolve,hcal,ha,hf,Deferred.ofValue,Sem.run_bind,Sem.run_pure,Result.andThen_ok,invoke]
 have:=run_callFunc_extern h1 h3 h2 h4 h5 #[ρ x,ρ y] Γ.w
 rw[(qat hx).1,(qat hy).1] at this
 simp[(qat hx).1,(qat hy).1,this,run_indexByte_string]
end
end
end
section
variable{fid:Fid}
structure Ren(r:Nat->Nat)(L:Nat->Prop)(Γ Γs:Ctx):Prop where
 F : Γs.F = Γ.F
 w : Γs.w = Γ.w
 μ : ∀ l,L l -> Γs.μ (r l) = Γ.μ l
 σ : ∀ l ob,L l -> Γ.σ[l]?=some ob -> Γs.σ[r l]?=some (ob.ren r)
theorem Ob.isTip_ren(r:Nat->Nat)(ob:Ob):(ob.ren r).isTip=ob.isTip:=by cases ob<;>rfl
theorem qbO(r:Nat->Nat) : ∀ vs,(qdI r vs).length=vs.length
 |[]=>rfl
 |v::vs=>by simp[qdI,qbO r vs]
theorem qky(r:Nat->Nat) : ∀ ds:List D,qdI r (ds.map .dat)=ds.map .dat
 |[]=>rfl
 |d::ds=>by simp[qdI,V.ren,qky r ds]
theorem Ob.rows_ren(r:Nat->Nat)(ob:Ob):(ob.ren r).rows=ob.rows.map (qdI r):=by
 cases ob<;>simp[Ob.ren,Ob.rows,qky]
theorem Ctx.fix.ren{r:Nat->Nat}{L:Nat->Prop}{Γ Γs:Ctx}(h:Ren r L Γ Γs){l:Nat}(hl:L l)(hf : Γ.fix l) : Γs.fix (r l):=by
 obtain⟨ob,h1,h2⟩:=hf
 exact⟨_,h.σ l ob hl h1,by rw[Ob.isTip_ren]; exact h2⟩
mutual
theorem Rep.ren{r:Nat->Nat}{L:Nat->Prop}{Γ Γs:Ctx}(h:Ren r L Γ Γs) : ∀ (v:V) (x:Value),(∀ l∈v.locs,L l)->Rep fid Γ v x->Rep fid Γs (v.ren r) x
 |.dat d,x,_,hr=>by simp only[Rep,V.ren] at hr ⊢; rw[h.F,h.w]; exact hr
 |.ptr l o,x,hl,hr=>by
  simp only[Rep,V.ren] at hr ⊢
  obtain⟨b,h1,h2,h3⟩:=hr
  have:=hl l (by simp[V.locs])
  exact⟨b,by rw[h.μ l this]; exact h1,h2,h3.ren h this⟩
 |.gsl cs n sz l,x,hl,hr=>by
  simp only[Rep,V.ren] at hr ⊢
  obtain⟨b,cap,vs,m,h1,h2,h3,h4,h5,h6,h7,h8,h9⟩:=hr
  have:=hl l (by simp[V.locs])
  rw[h.F,h.w,h.μ l this]
  exact⟨b,cap,vs,m,h1,h2,h3,h4,h5,h.σ l _ this h6,h7,h8,h9⟩
 |.msl l o n cap sz,x,hl,hr=>by
  simp only[Rep,V.ren] at hr ⊢
  obtain⟨b,h1,h2,h3,h4⟩:=hr
  have:=hl l (by simp[V.locs])
  exact⟨b,by rw[h.μ l this]; exact h1,h2,h3,h4.ren h this⟩
 |.own l n sz,x,hl,hr=>by
  simp only[Rep,V.ren] at hr ⊢
  obtain⟨a,cap,h1,h2,h0,⟨ob,h3,h4⟩,h5⟩:=hr
  have hl':=hl l (by simp[V.locs])
  have hσ := h.σ l ob hl' h3
  refine⟨a,cap,h1,h2,h0,⟨_,hσ,by rw[Ob.isTip_ren]; exact h4⟩,fun ob' cs' k1 k2=>?_⟩
  rw[hσ] at k1; cases k1
  rw[Ob.rows_ren,Wi] at k2
  obtain⟨cs,k2,rfl⟩:=k2
  rw[qbO,h.w,h.μ l hl']
  exact h5 ob cs h3 k2
 |.eptr l n o,x,hl,hr=>by
  simp only[Rep,V.ren] at hr ⊢
  obtain⟨a,h1,⟨ob,h3,h4⟩,h5⟩:=hr
  have hl':=hl l (by simp[V.locs])
  have hσ := h.σ l ob hl' h3
  refine⟨a,h1,⟨_,hσ,by rw[Ob.isTip_ren]; exact h4⟩,fun ob' cs' k1 k2=>?_⟩
  rw[hσ] at k1; cases k1
  rw[Ob.rows_ren,Wi] at k2
  obtain⟨cs,k2,rfl⟩:=k2
  rw[qbO,h.w,h.μ l hl']
  exact h5 ob cs h3 k2
 |.bm g v,x,hl,hr=>by
  simp only[Rep,V.ren] at hr ⊢
  obtain⟨t,nm,y,h1,h2,h3⟩:=hr
  exact⟨t,nm,y,h1,h2,Rep.ren h v y (fun l hl'=>hl l (by simpa [V.locs] using hl')) h3⟩
 |.agg cs,x,hl,hr=>by
  simp only[Rep,V.ren] at hr ⊢
  obtain⟨vs,h1,h2⟩:=hr
  exact⟨vs,h1,Reps.ren h cs vs (fun l hl'=>hl l (by simpa [V.locs] using hl')) h2⟩
 |.fn f a b,x,hl,hr=>by
  simp only[Rep,V.ren] at hr ⊢
  obtain⟨as,bs,h1,h2,h3⟩:=hr
  exact⟨as,bs,h1,Reps.ren h a as (fun l hl'=>hl l (by simp[V.locs,hl'])) h2,Reps.ren h b bs (fun l hl'=>hl l (by simp[V.locs,hl'])) h3⟩
 |.mp l,x,hl,hr=>by
  simp only[Rep,V.ren] at hr ⊢
  obtain⟨b,h1,h2,h3⟩:=hr
  have:=hl l (by simp[V.locs])
  exact⟨b,by rw[h.μ l this]; exact h1,h2,h3.ren h this⟩
 |.iface t v,x,hl,hr=>by
  simp only[Rep,V.ren] at hr ⊢
  obtain⟨y,h1,h2⟩:=hr
  exact⟨y,h1,Rep.ren h v y (fun l hl'=>hl l (by simpa [V.locs] using hl')) h2⟩
 |.tup vs,x,hl,hr=>by
  simp only[Rep,V.ren] at hr ⊢
  obtain⟨xs,h1,h2⟩:=hr
  exact⟨xs,h1,Reps.ren h vs xs (fun l hl'=>hl l (by simpa [V.locs] using hl')) h2⟩
 |.yld l,x,hl,hr=>by
  simp only[Rep,V.ren] at hr ⊢
  obtain⟨b,h1,h2,h3⟩:=hr
  have:=hl l (by simp[V.locs])
  exact⟨b,by rw[h.μ l this]; exact h1,h2,h3.ren h this⟩
 |.pan _,x,hl,hr=>by simp only[Rep] at hr
theorem Reps.ren{r:Nat->Nat}{L:Nat->Prop}{Γ Γs:Ctx}(h:Ren r L Γ Γs) : ∀ (vs:List V) (xs:List Value),(∀ l∈qaG vs,L l)->Reps fid Γ vs xs->Reps fid Γs (qdI r vs) xs
 |[],xs,_,hr=>by simpa only [Reps,qdI] using hr
 |d::ds,xs,hl,hr=>by
  simp only[Reps,qdI] at hr ⊢
  obtain⟨y,ys,h1,h2,h3⟩:=hr
  exact⟨y,ys,h1,Rep.ren h d y (fun l hl'=>hl l (by simp[qaG,hl'])) h2,Reps.ren h ds ys (fun l hl'=>hl l (by simp[qaG,hl'])) h3⟩
end
theorem RepE.ren{r:Nat->Nat}{L:Nat->Prop}{Γ Γs:Ctx}(h:Ren r L Γ Γs) : ∀ (es:List (Value × V)) (xs:List MapEntry),(∀ l∈qhS es,L l)->RepE fid Γ es xs->RepE fid Γs (qr8 r es) xs
 |[],xs,_,hr=>by simpa only [RepE,qr8] using hr
 | (k,v)::es,xs,hl,hr=>by
  simp only[RepE,qr8] at hr ⊢
  obtain⟨e,es',h1,h2,h3,h4⟩:=hr
  exact⟨e,es',h1,h2,Rep.ren h v e.val (fun l hl'=>hl l (by simp[qhS,hl'])) h3,RepE.ren h es es' (fun l hl'=>hl l (by simp[qhS,hl'])) h4⟩
theorem qkz{r:Nat->Nat} : ∀ {fr:Fr} {t:Nat} {v:V},(qmr r fr).get t=some v -> ∃ u,fr.get t=some u/\v=u.ren r /\ ∀ l∈u.locs,l∈qct fr
 |[],t,v,h=>by simp[qmr,Fr.get] at h
 | (k,u)::fr,t,v,h=>by
  simp only[qmr,Fr.get] at h ⊢
  split at h
  ·rename_i e
   cases h
   exact⟨u,by rw[if_pos e],rfl,fun l hl=>by simp[qct,hl]⟩
  ·rename_i e
   obtain⟨u',h1,h2,h3⟩:=qkz h
   exact⟨u',by rw[if_neg e]; exact h1,h2,fun l hl=>by simp[qct,h3 l hl]⟩
mutual
theorem qgs{r:Nat->Nat} : ∀ {v:V} {l:Nat},l∈(v.ren r).locs -> ∃ l'∈v.locs,l=r l'
 |.dat _,l,h=>by simp[V.ren,V.locs] at h
 |.ptr l' o,l,h=>by simp[V.ren,V.locs] at h ⊢; exact h
 |.gsl _ _ _ l',l,h=>by simp[V.ren,V.locs] at h ⊢; exact h
 |.msl l' _ _ _ _,l,h=>by simp[V.ren,V.locs] at h ⊢; exact h
 |.own l' _ _,l,h=>by simp[V.ren,V.locs] at h ⊢; exact h
 |.eptr l' _ _,l,h=>by simp[V.ren,V.locs] at h ⊢; exact h
 |.bm _ v,l,h=>by simp only[V.ren,V.locs] at h ⊢; exact qgs h
 |.agg cs,l,h=>by simp only[V.ren,V.locs] at h ⊢; exact qeW h
 |.fn f a b,l,h=>by
  simp only[V.ren,V.locs,Wp] at h ⊢
  rcases h with h|h
  ·obtain⟨l',h1,h2⟩:=qeW h; exact⟨l',.inl h1,h2⟩
  ·obtain⟨l',h1,h2⟩:=qeW h; exact⟨l',.inr h1,h2⟩
 |.mp l',l,h=>by simp[V.ren,V.locs] at h ⊢; exact h
 |.iface _ v,l,h=>by simp only[V.ren,V.locs] at h ⊢; exact qgs h
 |.tup vs,l,h=>by simp only[V.ren,V.locs] at h ⊢; exact qeW h
 |.yld l',l,h=>by simp[V.ren,V.locs] at h ⊢; exact h
 |.pan v,l,h=>by simp only[V.ren,V.locs] at h ⊢; exact qgs h
theorem qeW{r:Nat->Nat} : ∀ {vs:List V} {l:Nat},l∈qaG (qdI r vs) -> ∃ l'∈qaG vs,l=r l'
 |[],l,h=>by simp[qdI,qaG] at h
 |v::vs,l,h=>by
  simp only[qdI,qaG,Wp] at h ⊢
  rcases h with h|h
  ·obtain⟨l',h1,h2⟩:=qgs h; exact⟨l',.inl h1,h2⟩
  ·obtain⟨l',h1,h2⟩:=qeW h; exact⟨l',.inr h1,h2⟩
end
theorem qlz{r:Nat->Nat} : ∀ {fr:Fr} {l:Nat},l∈qct (qmr r fr) -> ∃ l'∈qct fr,l=r l'
 |[],l,h=>by simp[qmr,qct] at h
 | (_,v)::vs,l,h=>by
  simp only[qmr,qct,Wp] at h ⊢
  rcases h with h|h
  ·obtain⟨l',h1,h2⟩:=qgs h; exact⟨l',.inl h1,h2⟩
  ·obtain⟨l',h1,h2⟩:=qlz h; exact⟨l',.inr h1,h2⟩
theorem FrRep.ren{r:Nat->Nat}{L:Nat->Prop}{Γ Γs:Ctx}(h:Ren r L Γ Γs){N:Nat}{fr:Fr}{tmps:Array Value}(hl : ∀ l∈qct fr,L l)(hf:FrRep fid Γ N fr tmps):FrRep fid Γs N (qmr r fr) tmps:=by
 refine⟨hf.1,fun t v ht hv=>?_⟩
 obtain⟨u,h1,rfl,h3⟩:=qkz hv
 exact Rep.ren h u _ (fun l hl'=>hl l (h3 l hl')) (hf.2 t u ht h1)
theorem RepOb.ren{r:Nat->Nat}{L:Nat->Prop}{Γ Γs:Ctx}(h:Ren r L Γ Γs){b:Nat} : ∀ (ob:Ob),(∀ l∈ob.locs,L l)->RepOb fid Γ b ob->RepOb fid Γs b (ob.ren r)
 |.cells cs,hl,hr=>by
  simp only[RepOb,Ob.ren] at hr ⊢
  obtain⟨h1,arr,e,h2,h3⟩:=hr
  exact⟨by rw[h.F]; exact h1,arr,e,by rw[h.w]; exact h2,Reps.ren h cs _ hl h3⟩
 |.map es,hl,hr=>by
  simp only[RepOb,Ob.ren] at hr ⊢
  obtain⟨h1,arr,e,h2,h3⟩:=hr
  exact⟨by rw[h.F]; exact h1,arr,e,by rw[h.w]; exact h2,RepE.ren h es _ hl h3⟩
 |.tip m,_,hr=>by
  simp only[RepOb,Ob.ren] at hr ⊢
  rw[h.F]; exact hr
 |.vec cs,hl,hr=>by
  simp only[RepOb,Ob.ren] at hr ⊢
  obtain⟨h1,arr,e,h2,h3,h4,h5⟩:=hr
  rw[qbO]
  exact⟨by rw[h.F]; exact h1,arr,e,by rw[h.w]; exact h2,h3,Reps.ren h cs _ hl h4,h5⟩
 |.cellsT t cs,hl,hr=>by
  simp only[RepOb,Ob.ren] at hr ⊢
  obtain⟨h1,arr,h2,h3⟩:=hr
  exact⟨by rw[h.F]; exact h1,arr,by rw[h.w]; exact h2,Reps.ren h cs _ hl h3⟩
 |.vecT t cs,hl,hr=>by
  simp only[RepOb,Ob.ren] at hr ⊢
  obtain⟨h1,arr,h2,h3,h4,h5⟩:=hr
  rw[qbO]
  exact⟨by rw[h.F]; exact h1,arr,by rw[h.w]; exact h2,h3,Reps.ren h cs _ hl h4,h5⟩
 |.froz ds,hl,hr=>by
  simp only[RepOb,Ob.ren] at hr ⊢
  rw[h.F,h.w]; exact hr
 |.dead,hl,hr=>by simp only[RepOb] at hr
 |.loop lp,hl,hr=>by
  simp only[RepOb,Ob.ren] at hr ⊢
  obtain⟨h1,M,h2,h3,h4,h5,N,h6,h7,h8,h9,h10⟩:=hr
  refine⟨by rw[h.F]; exact h1,M,by rw[h.w]; exact h2,h3,h4,h5,N,h6,h7,h8,FrRep.ren h hl h9,fun l hl'=>?_⟩
  obtain⟨l',hm,rfl⟩:=qlz hl'
  have:=h10 l' hm
  exact (Wd.1 (h.σ l' (Γ.σ[l']'this) (hl l' hm) (by simp))).1
mutual
theorem Rep.lt{Γ : Ctx} : ∀ (v:V) (x:Value),Rep fid Γ v x -> ∀ l∈v.locs,l < Γ.σ.length
 |.dat d,x,_,l,hl=>by simp[V.locs] at hl
 |.ptr l' o,x,hr,l,hl=>by
  simp only[Rep] at hr
  obtain⟨b,h1,h2,ob,h3,_⟩:=hr
  simp[V.locs] at hl; subst hl
  exact (Wd.1 h3).1
 |.gsl cs n sz l',x,hr,l,hl=>by
  simp only[Rep] at hr
  obtain⟨b,cap,vs,m,_,_,_,_,_,h6,_⟩:=hr
  simp[V.locs] at hl; subst hl
  exact (Wd.1 h6).1
 |.msl l' o n cap sz,x,hr,l,hl=>by
  simp only[Rep] at hr
  obtain⟨b,h1,h2,_,ob,h3,_⟩:=hr
  simp[V.locs] at hl; subst hl
  exact (Wd.1 h3).1
 |.own l' n sz,x,hr,l,hl=>by
  simp only[Rep] at hr
  obtain⟨a,cap,_,_,_,⟨ob,h3,_⟩,_⟩:=hr
  simp[V.locs] at hl; subst hl
  exact (Wd.1 h3).1
 |.eptr l' n o,x,hr,l,hl=>by
  simp only[Rep] at hr
  obtain⟨a,_,⟨ob,h3,_⟩,_⟩:=hr
  simp[V.locs] at hl; subst hl
  exact (Wd.1 h3).1
 |.bm g v,x,hr,l,hl=>by
  simp only[Rep] at hr
  obtain⟨t,nm,y,_,_,h⟩:=hr
  exact Rep.lt v y h l (by simpa [V.locs] using hl)
 |.agg cs,x,hr,l,hl=>by
  simp only[Rep] at hr
  obtain⟨vs,_,h⟩:=hr
  exact Reps.lt cs vs h l (by simpa [V.locs] using hl)
 |.fn f a b,x,hr,l,hl=>by
  simp only[Rep] at hr
  obtain⟨as,bs,_,h1,h2⟩:=hr
  simp only[V.locs,Wp] at hl
  rcases hl with hl|hl
  ·exact Reps.lt a as h1 l hl
  ·exact Reps.lt b bs h2 l hl
 |.mp l',x,hr,l,hl=>by
  simp only[Rep] at hr
  obtain⟨b,h1,h2,ob,h3,_⟩:=hr
  simp[V.locs] at hl; subst hl
  exact (Wd.1 h3).1
 |.iface t v,x,hr,l,hl=>by
  simp only[Rep] at hr
  obtain⟨y,_,h⟩:=hr
  exact Rep.lt v y h l (by simpa [V.locs] using hl)
 |.tup vs,x,hr,l,hl=>by
  simp only[Rep] at hr
  obtain⟨xs,_,h⟩:=hr
  exact Reps.lt vs xs h l (by simpa [V.locs] using hl)
 |.yld l',x,hr,l,hl=>by
  simp only[Rep] at hr
  obtain⟨b,h1,h2,ob,h3,_⟩:=hr
  simp[V.locs] at hl; subst hl
  exact (Wd.1 h3).1
 |.pan _,x,hr,l,hl=>by simp only[Rep] at hr
theorem Reps.lt{Γ : Ctx} : ∀ (vs:List V) (xs:List Value),Reps fid Γ vs xs -> ∀ l∈qaG vs,l < Γ.σ.length
 |[],xs,_,l,hl=>by simp[qaG] at hl
 |d::ds,xs,hr,l,hl=>by
  simp only[Reps] at hr
  obtain⟨y,ys,_,h2,h3⟩:=hr
  simp only[qaG,Wp] at hl
  rcases hl with hl|hl
  ·exact Rep.lt d y h2 l hl
  ·exact Reps.lt ds ys h3 l hl
end
theorem RepE.lt{Γ : Ctx} : ∀ (es:List (Value × V)) (xs:List MapEntry),RepE fid Γ es xs -> ∀ l∈qhS es,l < Γ.σ.length
 |[],xs,_,l,hl=>by simp[qhS] at hl
 | (k,v)::es,xs,hr,l,hl=>by
  simp only[RepE] at hr
  obtain⟨e,es',_,_,h2,h3⟩:=hr
  simp only[qhS,Wp] at hl
  rcases hl with hl|hl
  ·exact Rep.lt v _ h2 l hl
  ·exact RepE.lt es es' h3 l hl
theorem RepOb.lt{Γ : Ctx}{b:Nat} : ∀ (ob:Ob),RepOb fid Γ b ob -> ∀ l∈ob.locs,l < Γ.σ.length
 |.cells cs,hr,l,hl=>by simp only[RepOb] at hr; obtain⟨_,arr,e,_,h⟩:=hr; exact Reps.lt cs _ h l hl
 |.map es,hr,l,hl=>by simp only[RepOb] at hr; obtain⟨_,arr,e,_,h⟩:=hr; exact RepE.lt es _ h l hl
 |.tip m,_,l,hl=>by simp[Ob.locs] at hl
 |.vec cs,hr,l,hl=>by simp only[RepOb] at hr; obtain⟨_,arr,e,_,_,h,_⟩:=hr; exact Reps.lt cs _ h l hl
 |.cellsT t cs,hr,l,hl=>by simp only[RepOb] at hr; obtain⟨_,arr,_,h⟩:=hr; exact Reps.lt cs _ h l hl
 |.vecT t cs,hr,l,hl=>by simp only[RepOb] at hr; obtain⟨_,arr,_,_,h,_⟩:=hr; exact Reps.lt cs _ h l hl
 |.froz ds,_,l,hl=>by simp[Ob.locs] at hl
 |.dead,_,l,hl=>by simp[Ob.locs] at hl
 |.loop lp,hr,l,hl=>by simp only[RepOb] at hr; obtain⟨_,M,_,_,_,_,N,_,_,_,_,h⟩:=hr; exact h l hl
theorem qha{L:List Nat} : ∀ {ks:List Nat},inL L ks=true -> ∀ k∈ks,k∈L
 |[],_,k,hk=>by cases hk
 |a::ks,h,k,hk=>by
  simp only[inL,Wq,YF,decide_eq_true_eq] at h
  rcases Wo.1 hk with rfl|hk
  ·exact h.1
  ·exact qha h.2 k hk
theorem qiF : ∀ {L:List Nat},qlk L=true->L.Nodup
 |[],_=>List.nodup_nil
 |k::ks,h=>by
  simp only[qlk,Wq,Bool.not_eq_true',YF,decide_eq_false_iff_not] at h
  exact Yw.2 ⟨h.1,qiF h.2⟩
theorem qdY : ∀ {L:List Nat} {l:Nat},l∈L->L[idx L l]?=some l
 |k::ks,l,h=>by
  simp only[idx]
  by_cases e:k=l
  ·simp[e]
  ·rw[if_neg e]
   have:l∈ks:=by
    rcases Wo.1 h with rfl|h
    ·exact absurd rfl e
    ·exact h
   simpa using qdY this
theorem qeb : ∀ {L:List Nat} {i l:Nat},L.Nodup->L[i]?=some l->idx L l=i
 |[],i,l,_,h=>by simp at h
 |k::ks,i,l,hn,h=>by
  obtain⟨h1,h2⟩:=Yw.1 hn
  cases i with
  |zero=>simp at h; simp[idx,h]
  |succ i=>
   have h':ks[i]?=some l:=by simpa using h
   have hm:l∈ks:=WQ h'
   simp only[idx]
   rw[if_neg (fun e=>h1 (by rw[e]; exact hm)),qeb h2 h']
theorem qiG{σ : S} : ∀ {L:List Nat} {obs:List Ob},qjB σ L=some obs->obs.length=L.length /\ ∀ (i l:Nat),L[i]?=some l -> ∃ ob,obs[i]?=some ob /\ σ[l]?=some ob
 |[],obs,h=>by simp only[qjB,Wh] at h; subst h; simp
 |k::ks,obs,h=>by
  simp only[qjB] at h
  split at h
  ·rename_i ob obs' h1 h2
   cases h
   obtain⟨h3,h4⟩:=qiG h2
   refine⟨by simp[h3],fun i l hi=>?_⟩
   cases i with
   |zero=>simp at hi; subst hi; exact⟨ob,rfl,h1⟩
   |succ i=>exact h4 i l (by simpa using hi)
  ·cases h
theorem qiH{L:List Nat} : ∀ {obs:List Ob},qll L obs=true -> ∀ ob∈obs,∀ l∈ob.locs,l∈L
 |[],_,ob,hob=>by cases hob
 |o::obs,h,ob,hob=>by
  simp only[qll,Wq] at h
  rcases Wo.1 hob with rfl|hob
  ·exact qha h.1
  ·exact qiH h.2 ob hob
def Ctx.part(Γ : Ctx)(L:List Nat)(σs:S):Ctx:=⟨σs,fun i=>(L[i]?).bind Γ.μ,Γ.F,Γ.w⟩
theorem qaZ {Γ : Ctx} (hr:Real fid Γ) {L:List Nat} {vs vs':List V} {σs:S} (h:qby L vs Γ.σ = some (vs',σs)) :
  L.Nodup /\ σs.length=L.length/\(∀ l∈L,l < Γ.σ.length)/\Ren (idx L) (· ∈ L) Γ (Γ.part L σs)/\Real fid (Γ.part L σs)/\(∀ xs,Reps fid Γ vs xs->Reps fid (Γ.part L σs) vs' xs):=by
 unfold qby at h
 split at h
 ·rename_i obs hobs
  split at h
  ·rename_i hcond
   simp only[Wq] at hcond
   obtain⟨h1,h2,h3⟩:=hcond
   cases h
   have hn:=qiF h1
   obtain⟨g1,g2⟩:=qiG hobs
   have hlt : ∀ l∈L,l < Γ.σ.length:=fun l hl=>by
    obtain⟨ob,_,h⟩:=g2 _ l (qdY hl)
    exact (Wd.1 h).1
   have hren:Ren (idx L) (· ∈ L) Γ (Γ.part L (obs.map (Ob.ren (idx L)))):=by
    refine⟨rfl,rfl,fun l hl=>?_,fun l ob hl ho=>?_⟩
    ·simp only[Ctx.part,qdY hl,Option.bind_some]
    ·obtain⟨ob',h4,h5⟩:=g2 _ l (qdY hl)
     rw[ho] at h5; cases h5
     simp only[Ctx.part,Ys,h4,Ym]
   have hget : ∀ (i l:Nat) (ob:Ob),L[i]?=some l->(obs.map (Ob.ren (idx L)))[i]?=some ob -> ∃ ob',Γ.σ[l]?=some ob'/\ob'∈obs/\ob=ob'.ren (idx L):=fun i l ob hi ho=>by
    obtain⟨ob',h4,h5⟩:=g2 i l hi
    simp only[Ys,h4,Ym,Wh] at ho
    exact⟨ob',h5,WQ h4,ho.symm⟩
   refine⟨hn,by simp[g1],hlt,hren,⟨fun i ob b ho hm=>?_,fun i b hm=>?_,fun i j b hi hj=>?_,hr.imm,hr.glb⟩,fun xs hx=>Reps.ren hren vs xs (qha h2) hx⟩
   ·simp only[Ctx.part] at hm ho
    cases hl:L[i]? with
    |none=>rw[hl] at hm; cases hm
    |some l=>
     rw[hl] at hm
     obtain⟨ob',k1,k2,rfl⟩:=hget i l ob hl ho
     exact RepOb.ren hren ob' (qiH h3 ob' k2) (hr.obs l ob' b k1 hm)
   ·simp only[Ctx.part] at hm ⊢
    cases hl:L[i]? with
    |none=>rw[hl] at hm; cases hm
    |some l=>
     rw[hl] at hm
     exact⟨by rw[W5,g1]; exact (Wd.1 hl).1,(hr.dom l b hm).2⟩
   ·simp only[Ctx.part] at hi hj
    cases hl:L[i]? with
    |none=>rw[hl] at hi; cases hi
    |some l=>
     cases hl':L[j]? with
     |none=>rw[hl'] at hj; cases hj
     |some l'=>
      rw[hl] at hi; rw[hl'] at hj
      have:=hr.inj l l' b hi hj
      subst this
      rw[<- qeb hn hl,<- qeb hn hl']
  ·cases h
 ·cases h
theorem qgt : ∀ {L:List Nat} {σ : S} {obs:List Ob},L.Nodup->(∀ l∈L,l < σ.length)->L.length<=obs.length ->
  (qaH σ L obs).length = σ.length+(obs.length-L.length)/\(∀ (i l:Nat),L[i]?=some l->(qaH σ L obs)[l]?=obs[i]?) /\
  (∀ (l:Nat),l < σ.length->l∉L->(qaH σ L obs)[l]? = σ[l]?) /\ ∀ (j:Nat),(qaH σ L obs)[σ.length+j]?=obs[L.length+j]?
 |[],σ,obs,_,_,_=>by
  refine⟨by simp[qaH],by simp,fun l hl _=>?_,fun j=>?_⟩
  ·simp only[qaH]; rw[WF hl]
  ·simp only[qaH]; rw[WZ (by omega)]; simp
 |k::ks,σ,[],_,_,h=>by simp at h
 |k::ks,σ,ob::obs,hn,hlt,hle=>by
  obtain⟨h1,h2⟩:=Yw.1 hn
  have hk:=hlt k (by simp)
  obtain⟨g1,g2,g3,g4⟩:=qgt (L:=ks) (σ := σ.set k ob) (obs:=obs) h2 (fun l hl=>by simpa using hlt l (by simp[hl])) (by simpa using hle)
  simp only[List.length_set] at g1 g3 g4
  refine⟨by simp only[qaH,g1,We]; omega,fun i l hi=>?_,fun l hl hm=>?_,fun j=>?_⟩
  ·cases i with
   |zero=>
    simp at hi; subst hi
    simp only[qaH]
    rw[g3 k hk h1]
    simp[hk]
   |succ i=>simp only[qaH]; rw[g2 i l (by simpa using hi)]; simp
  ·simp only[qaH]
   rw[g3 l hl (fun h=>hm (by simp[h])),Wr (fun e=>hm (by simp[e]))]
  ·simp only[qaH]
   rw[g4 j]
   simp only[We]
   rw[show ks.length+1+j=(ks.length+j)+1 from by omega]
   simp
theorem qgu {Γ : Ctx} (hr:Real fid Γ) {L:List Nat} {σs:S} (hn:L.Nodup) (hlt : ∀ l∈L,l < Γ.σ.length) (hren:Ren (idx L) (· ∈ L) Γ (Γ.part L σs)) (hlen : σs.length=L.length)
  {Γs':Ctx} (hr':Real fid Γs') (hst:Step (Γ.part L σs) Γs') :
  ∃ Γ':Ctx,Γ'.σ = qaH Γ.σ L (Γs'.σ.map (Ob.ren (back L Γ.σ.length))) /\ Γ'.w = Γs'.w/\Real fid Γ'/\Step Γ Γ' /\ ∀ v x,Rep fid Γs' v x->Rep fid Γ' (v.ren (back L Γ.σ.length)) x:=by
 have hle:L.length <= Γs'.σ.length:=by have:=hst.ext.len; simp only[Ctx.part,hlen] at this; exact this
 obtain⟨g1,g2,g3,g4⟩:=qgt (σ := Γ.σ) (obs := Γs'.σ.map (Ob.ren (back L Γ.σ.length))) hn hlt (by simpa using hle)
 simp only[W5] at g1
 let Γ':Ctx:=⟨qaH Γ.σ L (Γs'.σ.map (Ob.ren (back L Γ.σ.length))),fun l=>if l∈L then Γs'.μ (idx L l) else if l < Γ.σ.length then Γ.μ l else Γs'.μ (L.length+(l - Γ.σ.length)),Γs'.F,Γs'.w⟩
 have hback : ∀ i,i < Γs'.σ.length -> Γ'.μ (back L Γ.σ.length i) = Γs'.μ i /\ Γ'.σ[back L Γ.σ.length i]?=(Γs'.σ[i]?).map (Ob.ren (back L Γ.σ.length)):=fun i hi=>by
  unfold back
  cases hl:L[i]? with
  |some l=>
   have hm:=WQ hl
   refine⟨by simp only[Γ',hm,if_true,qeb hn hl],?_⟩
   simp only[Γ']
   rw[g2 i l hl,Ys]
   rfl
  |none=>
   have hi':L.length<=i:=List.getElem?_eq_none_iff.1 hl
   have hnm : ¬ (Γ.σ.length+(i-L.length))∈L:=fun h=>by have:=hlt _ h; omega
   refine⟨?_,?_⟩
   ·simp only[Γ',hnm,if_false]
    rw[if_neg (by omega)]
    congr 1; omega
   ·simp only[Γ']
    rw[g4,Ys,show L.length+(i-L.length)=i from by omega]
    rfl
 have hren':Ren (back L Γ.σ.length) (· < Γs'.σ.length) Γs' Γ':=⟨rfl,rfl,fun i hi=>(hback i hi).1,fun i ob hi ho=>by rw[(hback i hi).2,ho]; rfl⟩
 have hcase : ∀ l,l < Γ'.σ.length->(∃ i,i < Γs'.σ.length/\l=back L Γ.σ.length i)\/(l < Γ.σ.length/\l∉L):=fun l hl=>by
  by_cases hm:l∈L
  ·refine .inl ⟨idx L l,?_,?_⟩
   ·have:=(Wd.1 (qdY hm)).1; omega
   ·simp only[back,qdY hm]
  ·by_cases h:l < Γ.σ.length
   ·exact .inr ⟨h,hm⟩
   ·have h2:l < Γ.σ.length+(Γs'.σ.length-L.length):=by rw[<- g1]; exact hl
    refine .inl ⟨L.length+(l - Γ.σ.length),by omega,?_⟩
    simp only[back]
    rw[Yg (by omega)]
    simp only; omega
 have hold : ∀ l,l < Γ.σ.length->l∉L -> Γ'.μ l = Γ.μ l /\ Γ'.σ[l]? = Γ.σ[l]?:=fun l hl hm=>by
  refine⟨by simp only[Γ',hm,if_false,hl,if_true],g3 l hl hm⟩
 have hpart : ∀ i b,(Γ.part L σs).μ i=some b -> ∃ l,L[i]?=some l /\ Γ.μ l=some b:=fun i b h=>by
  simp only[Ctx.part] at h
  cases hl:L[i]? with
  |none=>rw[hl] at h; cases h
  |some l=>rw[hl] at h; exact⟨l,rfl,h⟩
 have hheap : ∀ l b,l∉L -> Γ.μ l=some b -> Γs'.w.heap[b]? = Γ.w.heap[b]?:=fun l b hm hb=>by
  refine (hst.frm.same b (hr.dom l b hb).2 fun i hi=>?_).1
  obtain⟨l',hl',hm'⟩:=hpart i b hi
  have:=hr.inj l l' b hb hm'
  subst this
  exact hm (WQ hl')
 have hext:Ext Γ Γ':=by
  refine⟨hst.ext.size,hst.ext.os,hst.ext.tape,hst.ext.output,hst.ext.mono,hst.ext.cell,hst.ext.arr,by simp only[Γ',g1]; omega,fun l ob ho ht=>?_,fun l m ho=>?_,fun l ob ho ht=>?_⟩
  ·have hl:=(Wd.1 ho).1
   by_cases hm:l∈L
   ·have h1:=hren.σ l ob hm ho
    obtain⟨⟨ob',h2,h3⟩,h4⟩:=hst.ext.fix (idx L l) _ h1 (by rw[Ob.isTip_ren]; exact ht)
    have hi:=(Wd.1 h2).1
    have hb:back L Γ.σ.length (idx L l)=l:=by simp only[back,qdY hm]
    obtain⟨k1,k2⟩:=hback _ hi
    rw[hb] at k1 k2
    refine⟨⟨ob'.ren (back L Γ.σ.length),by rw[k2,h2]; rfl,by rw[Ob.isTip_ren]; exact h3⟩,fun b hb'=>?_⟩
    rw[k1]
    exact h4 b (by rw[hren.μ l hm]; exact hb')
   ·obtain⟨k1,k2⟩:=hold l hl hm
    exact⟨⟨ob,by rw[k2]; exact ho,ht⟩,fun b hb=>by rw[k1]; exact hb⟩
  ·have hl:=(Wd.1 ho).1
   by_cases hm:l∈L
   ·have h1:=hren.σ l _ hm ho
    obtain⟨m',h2,h3,h4,h5⟩:=hst.ext.tip (idx L l) m h1
    have hi:=(Wd.1 h2).1
    have hb:back L Γ.σ.length (idx L l)=l:=by simp only[back,qdY hm]
    obtain⟨k1,k2⟩:=hback _ hi
    rw[hb] at k1 k2
    refine⟨m',by rw[k2,h2]; rfl,h3,fun hs=>?_,fun e b hb'=>?_⟩
    ·rw[k1]; exact h4 (by rw[hren.μ l hm]; exact hs)
    ·rw[k1]; exact h5 e b (by rw[hren.μ l hm]; exact hb')
   ·obtain⟨k1,k2⟩:=hold l hl hm
    exact⟨m,by rw[k2]; exact ho,Wj _,fun hs=>by rw[k1]; exact hs,fun _ b hb=>by rw[k1]; exact hb⟩
  ·have hl:=(Wd.1 ho).1
   by_cases hm:l∈L
   ·have h1:=hren.σ l ob hm ho
    obtain⟨ob',h2,h3,h4⟩:=hst.ext.row (idx L l) _ h1 (by rw[Ob.isTip_ren]; exact ht)
    have hi:=(Wd.1 h2).1
    have hb:back L Γ.σ.length (idx L l)=l:=by simp only[back,qdY hm]
    obtain⟨k1,k2⟩:=hback _ hi
    rw[hb] at k1 k2
    refine⟨ob'.ren (back L Γ.σ.length),by rw[k2,h2]; rfl,by rw[Ob.isTip_ren]; exact h3,fun cs' hc=>?_⟩
    rw[Ob.rows_ren,Wi] at hc
    obtain⟨cs1,hc,rfl⟩:=hc
    obtain⟨cs,c1,c2,c3⟩:=h4 cs1 hc
    rw[Ob.rows_ren,Wi] at c1
    obtain⟨cs0,c1,rfl⟩:=c1
    rw[qbO] at c2 c3
    refine⟨cs0,c1,by rw[qbO]; exact c2,fun e b hb'=>?_⟩
    rw[qbO] at e
    obtain⟨e1,e2⟩:=c3 e b (by rw[hren.μ l hm]; exact hb')
    exact⟨by rw[k1]; exact e1,e2⟩
   ·obtain⟨k1,k2⟩:=hold l hl hm
    exact⟨ob,by rw[k2]; exact ho,ht,fun cs hc=>⟨cs,hc,Wj _,fun _ b hb=>⟨by rw[k1]; exact hb,fun arr e ha=>⟨arr,by show Γs'.w.heap[b]?=_; rw[hheap l b hm hb]; exact ha,rfl⟩⟩⟩⟩
 have hsep : ∀ i l b,Γs'.μ i=some b->l < Γ.σ.length->l∉L -> Γ.μ l=some b->False:=fun i l b h1 h2 h3 h4=>by
  obtain⟨j,hj⟩:=hst.frm.new i b h1 (hr.dom l b h4).2
  obtain⟨l',hl',hm'⟩:=hpart j b hj
  have:=hr.inj l l' b h4 hm'
  subst this
  exact h3 (WQ hl')
 refine⟨Γ',rfl,rfl,⟨fun l ob b ho hm=>?_,fun l b hm=>?_,fun l l' b hm hm'=>?_,hr'.imm,hr'.glb⟩,⟨hext,⟨fun b hb hno=>?_,fun l b hm hb=>?_⟩,fun l hl hnone=>?_⟩,fun v x hx=>Rep.ren hren' v x (Rep.lt v x hx) hx⟩
 ·have hl:=(Wd.1 ho).1
  rcases hcase l hl with ⟨i,hi,rfl⟩|⟨h1,h2⟩
  ·obtain⟨k1,k2⟩:=hback i hi
   rw[k1] at hm
   rw[k2] at ho
   cases hs : Γs'.σ[i]? with
   |none=>rw[hs] at ho; cases ho
   |some ob'=>
    rw[hs] at ho
    simp only[Ym,Wh] at ho
    subst ho
    have:=hr'.obs i ob' b hs hm
    exact RepOb.ren hren' ob' (RepOb.lt ob' this) this
  ·obtain⟨k1,k2⟩:=hold l h1 h2
   rw[k1] at hm
   rw[k2] at ho
   have hb:=(hr.dom l b hm).2
   obtain⟨s1,s2⟩:=hst.frm.same b hb (fun i hi=>by
    obtain⟨l',hl',hm'⟩:=hpart i b hi
    have:=hr.inj l l' b hm hm'
    subst this
    exact h2 (WQ hl'))
   exact RepOb.ext hext s1 s2 ob (hr.obs l ob b ho hm)
 ·by_cases hl:l < Γ'.σ.length
  ·rcases hcase l hl with ⟨i,hi,rfl⟩|⟨h1,h2⟩
   ·rw[(hback i hi).1] at hm
    exact⟨hl,(hr'.dom i b hm).2⟩
   ·rw[(hold l h1 h2).1] at hm
    exact⟨hl,W9 (hr.dom l b hm).2 hst.ext.size⟩
  ·exfalso
   simp only[Γ'] at hm
   have hlen' : Γ'.σ.length = Γ.σ.length+(Γs'.σ.length-L.length):=g1
   have h1 : ¬ l∈L:=fun h=>by have:=hlt l h; omega
   rw[if_neg h1,if_neg (by omega)] at hm
   have:=(hr'.dom _ b hm).1
   omega
 ·have bound : ∀ l b,Γ'.μ l=some b->(∃ i,i < Γs'.σ.length/\l=back L Γ.σ.length i /\ Γs'.μ i=some b)\/(l < Γ.σ.length/\l∉L /\ Γ.μ l=some b):=fun l b hm=>by
   by_cases hl:l < Γ'.σ.length
   ·rcases hcase l hl with ⟨i,hi,rfl⟩|⟨h1,h2⟩
    ·rw[(hback i hi).1] at hm; exact .inl ⟨i,hi,rfl,hm⟩
    ·rw[(hold l h1 h2).1] at hm; exact .inr ⟨h1,h2,hm⟩
   ·exfalso
    simp only[Γ'] at hm
    have hlen' : Γ'.σ.length = Γ.σ.length+(Γs'.σ.length-L.length):=g1
    have h1 : ¬ l∈L:=fun h=>by have:=hlt l h; omega
    rw[if_neg h1,if_neg (by omega)] at hm
    have:=(hr'.dom _ b hm).1
    omega
  rcases bound l b hm with ⟨i,hi,rfl,h1⟩|⟨h1,h2,h3⟩<;>rcases bound l' b hm' with ⟨j,hj,rfl,k1⟩|⟨k1,k2,k3⟩
  ·rw[hr'.inj i j b h1 k1]
  ·exact (hsep i l' b h1 k1 k2 k3).elim
  ·exact (hsep j l b k1 h1 h2 h3).elim
  ·exact hr.inj l l' b h3 k3
 ·exact hst.frm.same b hb (fun i hi=>by
   obtain⟨l,_,hm⟩:=hpart i b hi
   exact hno l hm)
 ·by_cases hl:l < Γ'.σ.length
  ·rcases hcase l hl with ⟨i,hi,rfl⟩|⟨h1,h2⟩
   ·rw[(hback i hi).1] at hm
    obtain⟨j,hj⟩:=hst.frm.new i b hm hb
    obtain⟨l',_,hm'⟩:=hpart j b hj
    exact⟨l',hm'⟩
   ·rw[(hold l h1 h2).1] at hm; exact⟨l,hm⟩
  ·exfalso
   simp only[Γ'] at hm
   have hlen' : Γ'.σ.length = Γ.σ.length+(Γs'.σ.length-L.length):=g1
   have h1 : ¬ l∈L:=fun h=>by have:=hlt l h; omega
   rw[if_neg h1,if_neg (by omega)] at hm
   have:=(hr'.dom _ b hm).1
   omega
 ·by_cases hm:l∈L
  ·have hi:=(Wd.1 (qdY hm)).1
   have:=hst.non (idx L l) (by simp only[Ctx.part,hlen]; exact hi) (by rw[hren.μ l hm]; exact hnone)
   simp only[Γ',hm,if_true,this]
  ·rw[(hold l hl hm).1]; exact hnone
end
section
variable{P:Program}{ids:Ids}{fid:Fid}{N:Nat}
theorem qd4{Γ0 Γ1:Ctx}(h:Step Γ0 Γ1){L:List Nat}{σs:S}(hn:L.Nodup)(hlen : σs.length=L.length)(hren:Ren (idx L) (· ∈ L) Γ1 (Γ1.part L σs))(hpre : ∀ i,i < Γ0.σ.length->L[i]?=some i):Step Γ0 (Γ1.part L σs):=by
 have hμ : ∀ l,l < Γ0.σ.length->(Γ1.part L σs).μ l = Γ1.μ l:=fun l hl=>by simp only[Ctx.part,hpre l hl,Option.bind_some]
 have hσ : ∀ l ob,l < Γ0.σ.length -> Γ1.σ[l]?=some ob->(Γ1.part L σs).σ[l]?=some (ob.ren (idx L)):=fun l ob hl ho=>by
  have hm:=WQ (hpre l hl)
  have:=hren.σ l ob hm ho
  rw[qeb hn (hpre l hl)] at this
  exact this
 refine⟨⟨h.ext.size,h.ext.os,h.ext.tape,h.ext.output,h.ext.mono,h.ext.cell,h.ext.arr,?_,fun l ob ho ht=>?_,fun l m ho=>?_,fun l ob ho ht=>?_⟩,⟨h.frm.same,fun i b hi hb=>?_⟩,fun l hl hnn=>by rw[hμ l hl]; exact h.non l hl hnn⟩
 ·simp only[Ctx.part,hlen]
  rcases YJ Γ0.σ.length with h0|h0
  ·omega
  ·have:=(Wd.1 (hpre (Γ0.σ.length-1) (by omega))).1
   omega
 ·have hl:=(Wd.1 ho).1
  obtain⟨⟨ob',h1,h2⟩,h3⟩:=h.ext.fix l ob ho ht
  exact⟨⟨_,hσ l ob' hl h1,by rw[Ob.isTip_ren]; exact h2⟩,fun b hb=>by rw[hμ l hl]; exact h3 b hb⟩
 ·have hl:=(Wd.1 ho).1
  obtain⟨m',h1,h2,h3,h4⟩:=h.ext.tip l m ho
  exact⟨m',hσ l _ hl h1,h2,fun hs=>by rw[hμ l hl]; exact h3 hs,fun e b hb=>by rw[hμ l hl]; exact h4 e b hb⟩
 ·have hl:=(Wd.1 ho).1
  obtain⟨ob',h1,h2,h3⟩:=h.ext.row l ob ho ht
  refine⟨_,hσ l ob' hl h1,by rw[Ob.isTip_ren]; exact h2,fun cs' hc=>?_⟩
  rw[Ob.rows_ren,Wi] at hc
  obtain⟨cs1,hc,rfl⟩:=hc
  obtain⟨cs,c1,c2,c3⟩:=h3 cs1 hc
  rw[qbO]
  exact⟨cs,c1,c2,fun e b hb=>⟨by rw[hμ l hl]; exact (c3 e b hb).1,(c3 e b hb).2⟩⟩
 ·simp only[Ctx.part] at hi
  cases hl:L[i]? with
  |none=>rw[hl] at hi; cases hi
  |some l=>rw[hl] at hi; exact h.frm.new l b hi hb
theorem qgQ(k:Nat)(ls:List Nat)(σ : S) : ∀ i,i<k->(gcL k ls σ)[i]?=some i:=fun i hi=>by
 unfold gcL
 rw[WF (by simpa using hi)]
 simp[hi]
theorem qpF {Γ0 Γ : Ctx} (hr:Real fid Γ) (hs:Step Γ0 Γ) {L:List Nat} {σs:S} (hrp:Real fid (Γ.part L σs)) (hsp:Step Γ0 (Γ.part L σs)) : ∀ ls:List Nat,(∀ l∈ls,l∉L /\ ∃ b arr e,Γ.μ l=some b /\ Γ.w.heap[b]?=some (.cells arr e (0,0))) ->
  ∃ F':Nat->Nat,Real fid ⟨σs,(Γ.part L σs).μ,F',Γ.w⟩/\Ext (Γ.part L σs) ⟨σs,(Γ.part L σs).μ,F',Γ.w⟩/\Step Γ0 ⟨σs,(Γ.part L σs).μ,F',Γ.w⟩ /\
   ∀ l∈ls,∀ b arr e,Γ.μ l=some b -> Γ.w.heap[b]?=some (.cells arr e (0,0))->arr.size<=F' b
 |[],_=>⟨Γ.F,hrp,.refl _,hsp,fun l h=>by cases h⟩
 |l::ls,h=>by
  obtain⟨F',h1,h2,h3,h4⟩:=qpF hr hs hrp hsp ls fun l' hl'=>h l' (WA _ hl')
  obtain⟨hL,b,arr,e,hm,ha⟩:=h l (by simp)
  have hno : ∀ i,(Γ.part L σs).μ i≠some b:=fun i hi=>by
   simp only[Ctx.part] at hi
   cases hl':L[i]? with
   |none=>rw[hl'] at hi; cases hi
   |some l'=>
    rw[hl'] at hi
    have:=hr.inj _ _ _ hi hm
    subst this
    exact hL (WQ hl')
  have hF:F' b<=arr.size:=by
   rcases YJ (F' b) with h0|h0
   ·omega
   ·obtain⟨arr',e',fz,g1,g2⟩:=h1.imm b h0
    simp only at g1
    rw[ha] at g1; cases g1
    exact g2
  obtain⟨k1,k2,k3⟩:=qqq h1 (b:=b) (n:=arr.size) hF hno ha (Wj _)
  refine⟨_,k1,h2.trans k2,k3 Γ0 h3 fun hb=>hs.frm.new l b hm hb,fun l' hl' b' arr' e' hm' ha'=>?_⟩
  simp only[grow]
  split
  ·rename_i eq
   subst eq
   rw[ha] at ha'; cases ha'; exact Wj _
  ·rename_i hne
   rcases Wo.1 hl' with rfl|hl'
   ·rw[hm] at hm'; cases hm'; exact absurd rfl hne
   ·exact h4 l' hl' b' arr' e' hm' ha'
section
variable{Γ : Ctx}
theorem qio(hr:Real fid Γ){k:Nat}{v:V}{x:Value}(h:Rep fid Γ v x) : ∀ l∈(outV k Γ.σ v).2,∃ b arr e,Γ.μ l=some b /\ Γ.w.heap[b]?=some (.cells arr e (0,0)):=by
 intro l hl
 unfold outV at hl
 split at hl
 ·rename_i l0 n sz
  simp only[Rep] at h
  obtain⟨ad,cap,hs,g2,g0,g3,g4⟩:=h
  split at hl
  ·split at hl
   ·rename_i cs hcs
    split at hl
    ·rename_i hlen
     split at hl
     ·simp only[Wm] at hl; subst hl
      obtain⟨b,arr,e',q1,rfl,q2,q3⟩:=(g4 _ _ hcs rfl).2 hlen
      exact⟨b,arr,e',q1,q2⟩
     ·cases hl
    ·cases hl
   ·split at hl<;>cases hl
   ·cases hl
  ·cases hl
 ·rename_i l0 o n cap sz
  simp only[Rep] at h
  obtain⟨b,hm,hx,_⟩:=h
  split at hl
  ·split at hl
   ·rename_i cs hcs
    split at hl
    ·split at hl
     ·simp only[Wm] at hl; subst hl
      obtain⟨_,arr,e,g2,_⟩:=hr.obs l _ b hcs hm
      exact⟨b,arr,e,hm,g2⟩
     ·cases hl
    ·cases hl
   ·cases hl
  ·cases hl
 ·cases hl
 ·cases hl
theorem qm9 (hr:Real fid Γ) {k:Nat} {v:V} {x:Value} (h:Rep fid Γ v x) {r:Nat->Nat} {L:Nat->Prop} {Γp Γq:Ctx} (hren:Ren r L Γ Γp) (hpq:Ext Γp Γq) (hw : Γq.w = Γ.w) (hL : ∀ l∈((outV k Γ.σ v).1).locs,L l)
  (hF : ∀ l∈(outV k Γ.σ v).2,∀ b arr e,Γ.μ l=some b -> Γ.w.heap[b]?=some (.cells arr e (0,0))->arr.size <= Γq.F b):Rep fid Γq (((outV k Γ.σ v).1).ren r) x:=by
 have same : ∀ u:V,(∀ l∈u.locs,L l)->Rep fid Γ u x->Rep fid Γq (u.ren r) x:=fun u hl hu=>Rep.ext hpq _ _ (Rep.ren hren u x hl hu)
 have hDD : ∀ {ds:List D} {vs:List Value},RepDs Γ.F Γ.w ds vs->RepDs Γq.F Γq.w ds vs:=fun hd=>by
  have:=RepDs.ext hpq _ _ (by rw[hren.F,hren.w]; exact hd)
  exact this
 unfold outV at hL hF ⊢
 split
 ·rename_i l0 n sz
  split
  ·rename_i hk
   split
   ·rename_i cs hcs
    split
    ·rename_i hlen
     split
     ·rename_i ds hds
      simp only[hk,if_true,hcs,hlen,hds] at hF
      have hcd:=qdE hds
      simp only[Rep] at h
      obtain⟨ad,cap,hs,g2,g0,g3,g4⟩:=h
      obtain⟨b,arr,e',q1,rfl,q2,q3⟩:=(g4 _ _ hcs rfl).2 hlen
      obtain⟨olds,arr',e2,k1,k2,k3,k4,k5,k6,k7⟩:=qe1 hr hcs q1
      rw[q2] at k1; cases k1
      have hD:RepDs Γ.F Γ.w ds olds:=by rw[hcd] at k4; exact Reps_dat.1 k4
      simp only[V.ren,Rep,RepD]
      refine⟨b,0,cap,olds,hs,g2,by simp,hDD hD,fun j v hj=>?_,fun _=>?_,k5⟩
      ·rw[WG,hw]; exact k7 j v hj
      ·have:=hF l0 (by simp) b arr e' q1 q2
       have hl:=hD.length
       have:ds.length=cs.length:=by rw[hcd]; simp
       omega
     ·simp only[hk,if_true,hcs,hlen] at hL
      rename_i hno
      simp only[hno] at hL
      exact same _ hL h
    ·rename_i hlen
     simp only[hk,if_true,hcs,hlen,if_false] at hL
     exact same _ hL h
   ·rename_i ds hds
    split
    ·rename_i hlen
     simp only[Rep] at h
     obtain⟨ad,cap,hs,g2,g0,g3,g4⟩:=h
     obtain⟨b,arr,e',q1,rfl,q2,q3⟩:=(g4 _ _ hds rfl).2 (by simpa using hlen)
     obtain⟨vs,k1,k2⟩:=qh6 hr hds q1
     have hgo:Rep fid Γ (.dat (.sl ds n false)) x:=by
      simp only[Rep,RepD]
      exact⟨b,0,cap,vs,hs,g2,by simp,k1,k2⟩
     exact same _ (by simp[V.locs]) hgo
    ·rename_i hlen
     simp only[hk,if_true,hds,hlen,if_false] at hL
     exact same _ hL h
   ·rename_i hne1 hne2
    have:((match Γ.σ[l0]? with
  |some (.vec cs)=>if cs.length=n*sz then (match qbx cs with
   |some ds=>((V.dat (.sl ds n false)),[l0])
   |none=>(.own l0 n sz,[])) else (.own l0 n sz,[])
  |some (.froz ds)=>if ds.length=n*sz then (.dat (.sl ds n false),[]) else (.own l0 n sz,[])
  | _=>(.own l0 n sz,[])).1:V) = .own l0 n sz:=by
     split
     ·rename_i h'; exact absurd h' (hne1 _)
     ·rename_i h'; exact absurd h' (hne2 _)
     ·rfl
    simp only[hk,if_true,this] at hL
    exact same _ hL h
  ·rename_i hk
   simp only[hk,if_false] at hL
   exact same _ hL h
 ·rename_i l0 o n cap sz
  split
  ·rename_i hk
   split
   ·rename_i cs hcs
    split
    ·rename_i ds hds
     split
     ·rename_i hcond
      simp only[hk,if_true,hcs,hds,hcond,and_self] at hF
      have hcd:=qdE hds
      simp only[Rep] at h
      obtain⟨b,hm,hs,g2,g3⟩:=h
      obtain⟨_,arr,e,k1,k2⟩:=hr.obs l0 _ b hcs hm
      have hD:RepDs Γ.F Γ.w ds arr.toList:=by rw[hcd] at k2; exact Reps_dat.1 k2
      have hal:arr.size=ds.length:=by have:=hD.length; simpa using this
      simp only[V.ren,Rep,RepD]
      refine⟨b,o,cap,(arr.toList.drop o).take (n*sz),hs,g2,by simp,hDD (qhi (qhh hD o) _),fun j v hj=>?_,fun _=>?_,fun v hv=>?_⟩
      ·rw[hw]
       simp only[World.cell?,k1]
       rw[W7] at hj
       split at hj
       ·rw[YK] at hj
        simpa using hj
       ·cases hj
      ·have:=hF l0 (by simp) b arr e hm k1
       simp only[WU,WY,WC]
       omega
      ·have hv':v∈arr.toList:=List.mem_of_mem_drop (Yq hv)
       refine qdd (fid:=fid) (Γ := Γ) (vs:=ds.map .dat) (by rw[<- hcd]; exact k2) ?_ v hv'
       rw[WD]
       intro u hu
       obtain⟨d,hd,rfl⟩:=WV.1 hu
       exact WD.1 hcond.2 d hd
     ·rename_i hcond
      simp only[hk,if_true,hcs,hds,hcond,if_false] at hL
      exact same _ hL h
    ·rename_i hds
     simp only[hk,if_true,hcs,hds] at hL
     exact same _ hL h
   ·rename_i hne
    have:((match Γ.σ[l0]? with
  |some (.cells cs)=>match qbx cs with
   |some ds=>if o+n*sz<=ds.length/\(ds.all fun d=>V.one (.dat d))=true then ((V.dat (.sl ((ds.drop o).take (n*sz)) n false)),[l0]) else (.msl l0 o n cap sz,[])
   |none=>(.msl l0 o n cap sz,[])
  | _=>(.msl l0 o n cap sz,[])).1:V) = .msl l0 o n cap sz:=by
     split
     ·rename_i h'; exact absurd h' (hne _)
     ·rfl
    simp only[hk,if_true,this] at hL
    exact same _ hL h
  ·rename_i hk
   simp only[hk,if_false] at hL
   exact same _ hL h
 ·refine same _ (by simp[V.locs]) ?_
  simp only[Rep,RepD] at h ⊢
  obtain⟨b,cap,vs,m,h1,h2,h3,h4,_⟩:=h
  exact⟨b,0,cap,vs,h1,h2,by simp,h3,h4⟩
 ·rename_i h1 h2 h3
  exact same _ (by simpa using hL) h
theorem qip(hr:Real fid Γ){k:Nat} : ∀ {vs:List V} {xs:List Value},Reps fid Γ vs xs -> ∀ l∈(qnp k Γ.σ vs).2,∃ b arr e,Γ.μ l=some b /\ Γ.w.heap[b]?=some (.cells arr e (0,0))
 |[],xs,h,l,hl=>by simp[qnp] at hl
 |v::vs,xs,h,l,hl=>by
  simp only[Reps] at h
  obtain⟨y,ys,rfl,h1,h2⟩:=h
  simp only[qnp,Wp] at hl
  rcases hl with hl|hl
  ·exact qio hr h1 l hl
  ·exact qip hr h2 l hl
theorem qme(hr:Real fid Γ){k:Nat}{v:V}{x:Value}(h:Rep fid Γ v x) : ∀ l∈(qrO k Γ.σ v).2,∃ b arr e,Γ.μ l=some b /\ Γ.w.heap[b]?=some (.cells arr e (0,0)):=by
 unfold qrO
 split
 ·simp only[Rep] at h
  obtain⟨vs,rfl,h⟩:=h
  exact qip hr h
 ·exact qio hr h
theorem qhx(hr:Real fid Γ){k:Nat} : ∀ {vs:List V} {xs:List Value},Reps fid Γ vs xs -> ∀ l∈(qd7 k Γ.σ vs).2,∃ b arr e,Γ.μ l=some b /\ Γ.w.heap[b]?=some (.cells arr e (0,0))
 |[],xs,h,l,hl=>by simp[qd7] at hl
 |v::vs,xs,h,l,hl=>by
  simp only[Reps] at h
  obtain⟨y,ys,rfl,h1,h2⟩:=h
  simp only[qd7,Wp] at hl
  rcases hl with hl|hl
  ·exact qme hr h1 l hl
  ·exact qhx hr h2 l hl
section
variable{r:Nat->Nat}{L:Nat->Prop}{Γp Γq:Ctx}(hr:Real fid Γ)(hren:Ren r L Γ Γp)(hpq:Ext Γp Γq)(hw : Γq.w = Γ.w)
include hr hren hpq hw
theorem qna {k:Nat} : ∀ {vs:List V} {xs:List Value},Reps fid Γ vs xs->(∀ l∈qaG (qnp k Γ.σ vs).1,L l) ->
  (∀ l∈(qnp k Γ.σ vs).2,∀ b arr e,Γ.μ l=some b -> Γ.w.heap[b]?=some (.cells arr e (0,0))->arr.size <= Γq.F b)->Reps fid Γq (qdI r (qnp k Γ.σ vs).1) xs
 |[],xs,h,_,_=>by simpa only [qnp,qdI,Reps] using h
 |v::vs,xs,h,hL,hF=>by
  simp only[Reps] at h
  obtain⟨y,ys,rfl,h1,h2⟩:=h
  simp only[qnp,qaG,Wp] at hL hF
  simp only[qnp,qdI,Reps]
  exact⟨_,_,rfl,qm9 hr h1 hren hpq hw (fun l hl=>hL l (.inl hl)) (fun l hl=>hF l (.inl hl)),qna h2 (fun l hl=>hL l (.inr hl)) (fun l hl=>hF l (.inr hl))⟩
theorem qrS {k:Nat} {v:V} {x:Value} (h:Rep fid Γ v x) (hL : ∀ l∈((qrO k Γ.σ v).1).locs,L l)
  (hF : ∀ l∈(qrO k Γ.σ v).2,∀ b arr e,Γ.μ l=some b -> Γ.w.heap[b]?=some (.cells arr e (0,0))->arr.size <= Γq.F b):Rep fid Γq (((qrO k Γ.σ v).1).ren r) x:=by
 have agg : ∀ us:List V,(qgi us).ren r=qgi (qdI r us)/\(qgi us).locs=qaG us:=fun us=>by
  unfold qgi
  cases hd:qbx us with
  |some ds=>
   have:=qdE hd
   subst this
   have e : ∀ ds:List D,qbx (ds.map .dat)=some ds:=fun ds=>by induction ds with
    |nil=>rfl
    |cons d ds ih=>simp[qbx,ih]
   have e2 : ∀ ds:List D,qaG (ds.map .dat)=[]:=fun ds=>by induction ds with
    |nil=>rfl
    |cons d ds ih=>simp[qaG,V.locs,ih]
   rw[qky,e,e2]
   simp[V.ren,V.locs]
  |none=>
   have:qbx (qdI r us)=none:=by
    revert hd
    induction us with
    |nil=>simp[qbx]
    |cons u us ih=>
     intro hd
     cases u<;>simp only[qdI,V.ren,qbx] at hd ⊢
     split at hd
     ·cases hd
     ·rename_i hn; rw[ih hn]
   rw[this]
   simp[V.ren,V.locs]
 cases v with
 |agg cs=>
  simp only[qrO] at hL hF ⊢
  simp only[Rep] at h
  obtain⟨vs,rfl,h⟩:=h
  simp only[(agg _).2] at hL
  rw[(agg _).1]
  exact qeh (qna hr hren hpq hw h hL hF)
 |_=>
  simp only[qrO] at hL hF ⊢
  exact qm9 hr h hren hpq hw hL hF
theorem qk4 {k:Nat} : ∀ {vs:List V} {xs:List Value},Reps fid Γ vs xs->(∀ l∈qaG (qd7 k Γ.σ vs).1,L l) ->
  (∀ l∈(qd7 k Γ.σ vs).2,∀ b arr e,Γ.μ l=some b -> Γ.w.heap[b]?=some (.cells arr e (0,0))->arr.size <= Γq.F b)->Reps fid Γq (qdI r (qd7 k Γ.σ vs).1) xs
 |[],xs,h,_,_=>by simpa only [qd7,qdI,Reps] using h
 |v::vs,xs,h,hL,hF=>by
  simp only[Reps] at h
  obtain⟨y,ys,rfl,h1,h2⟩:=h
  simp only[qd7,qaG,Wp] at hL hF
  simp only[qd7,qdI,Reps]
  exact⟨_,_,rfl,qrS hr hren hpq hw h1 (fun l hl=>hL l (.inl hl)) (fun l hl=>hF l (.inl hl)),qk4 h2 (fun l hl=>hL l (.inr hl)) (fun l hl=>hF l (.inr hl))⟩
end
end
theorem qpG {Γ0 Γ : Ctx} (hr:Real fid Γ) (hs:Step Γ0 Γ) {k:Nat} {vs0 vs':List V} {ys:List Value} {L:List Nat} {σs:S} (hx:Reps fid Γ vs0 ys) (hres:qby L (qd7 k Γ.σ vs0).1 Γ.σ = some (vs',σs))
  (hno : ∀ l∈(qd7 k Γ.σ vs0).2,l∉L) (hpre : ∀ i,i < Γ0.σ.length->L[i]?=some i) : ∃ Γ':Ctx,Γ'.σ = σs /\ Γ'.w = Γ.w/\Real fid Γ'/\Step Γ0 Γ'/\Reps fid Γ' vs' ys:=by
 obtain⟨t1,t2,t3,t4,t5,t6⟩:=qaZ hr hres
 have hsp:=qd4 hs t1 t2 t4 hpre
 obtain⟨F',a1,a2,a3,a4⟩:=qpF hr hs t5 hsp (qd7 k Γ.σ vs0).2 fun l hl=>⟨hno l hl,qhx hr hx l hl⟩
 refine⟨⟨σs,(Γ.part L σs).μ,F',Γ.w⟩,rfl,rfl,a1,a3,?_⟩
 have hv:vs'=qdI (idx L) (qd7 k Γ.σ vs0).1 /\ ∀ l∈qaG (qd7 k Γ.σ vs0).1,l∈L:=by
  unfold qby at hres
  split at hres
  ·split at hres
   ·rename_i hc
    cases hres
    simp only[Wq] at hc
    exact⟨rfl,qha hc.2.1⟩
   ·cases hres
  ·cases hres
 rw[hv.1]
 exact qk4 hr t4 a2 rfl hx hv.2 a4
end
end Go.Pm
