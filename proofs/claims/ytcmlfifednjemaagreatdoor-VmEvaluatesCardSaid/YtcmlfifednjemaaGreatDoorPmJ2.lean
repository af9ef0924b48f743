/- Rows of the program's own: grown, cut, handed on, handed back. -/
import Derived.Test.YtcmlfifednjemaaGreatDoorPmAL
import Derived.Test.YtcmlfifednjemaaGreatDoorPmE
import Derived.Laws.BytesString
import Derived.Lib.UnsafeStr
import Derived.DefersIn
set_option linter.unusedSimpArgs false
set_option linter.unusedVariables false
namespace Go.Pm
section
variable{P:Program}{ids:Ids}{fid:Fid}{N:Nat}
section
variable{Γ : Ctx}{fr:Fr}{ρ : Operand->Value}{o:Oper}{v:V}{σ':S}
theorem qeL (hr:Real fid Γ) {l b:Nat} {cs:List V} (ho : Γ.σ[l]?=some (.vec cs)) (hm : Γ.μ l=some b) :
  ∃ vs arr e,Γ.w.heap[b]?=some (.cells arr e (0,0))/\cs.length<=arr.size/\vs=arr.toList.take cs.length/\Reps fid Γ cs vs/\(∀ v∈vs,v.oneCell'=true) /\ Γ.F b=0 /\ ∀ j v,vs[j]?=some v -> Γ.w.cell? ⟨b,j,none⟩=some v:=by
 have:=hr.obs l _ b ho hm
 simp only[RepOb] at this
 obtain⟨h1,arr,e,h2,h3,h4,h5⟩:=this
 refine⟨_,arr,e,h2,h3,rfl,h4,h5,h1,fun j x hj=>?_⟩
 simp only[World.cell?,h2]
 simpa using qjw hj
theorem qrx (hr:Real fid Γ) {u:V} {x:Value} {xs:List V} {m:Nat} (hu:Rep fid Γ u x) (h:qv2 Γ.σ u=some (xs,m)) :
  (∃ a,x = .slice a 0 0/\xs=[]/\m=0)\/(∃ s,u = .dat (.lit (.string s))/\x = .string s/\xs=(qfk s).map .dat/\m=s.size) \/
  ∃ b off cap vs,x = .slice (some ⟨b,off,none⟩) m cap/\Reps fid Γ xs vs /\ ∀ j v,vs[j]?=some v -> Γ.w.cell? ⟨b,off+j,none⟩=some v:=by
 unfold qv2 at h
 split at h
 ·rename_i a
  cases h
  exact .inl ⟨a,(qas hu).1,rfl,rfl⟩
 ·cases h
  simp only[Rep,RepD] at hu
  obtain⟨b,o',cap,vs,hx,_,_,h3,h4⟩:=hu
  exact .inr (.inr ⟨b,o',cap,vs,hx,Reps_dat.2 h3,h4.1⟩)
 ·cases h
  simp only[Rep] at hu
  obtain⟨b,cap,vs,k,hx,_,h3,h4,_⟩:=hu
  exact .inr (.inr ⟨b,0,cap,vs,hx,Reps_dat.2 h3,h4.1⟩)
 ·rename_i s
  cases h
  exact .inr (.inl ⟨s,rfl,(qas hu).1,rfl,rfl⟩)
 ·rename_i l n sz'
  simp only[Rep] at hu
  obtain⟨a,cap,hx,h2,h0,h3,h4⟩:=hu
  split at h
  ·rename_i cs hcs
   split at h
   ·rename_i hlen
    cases h
    obtain⟨b,arr,e,g1,rfl,g3,g4⟩:=(h4 _ _ hcs rfl).2 hlen
    obtain⟨vs,arr',e',k1,k2,k3,k4,k5,k6,k7⟩:=qeL hr hcs g1
    exact .inr (.inr ⟨b,0,cap,vs,hx,k4,by simpa using k7⟩)
   ·cases h
  ·rename_i ds hds
   split at h
   ·rename_i hlen
    cases h
    obtain⟨b,arr,e,g1,rfl,g3,g4⟩:=(h4 _ _ hds rfl).2 (by simpa using hlen)
    obtain⟨vs,k1,k2⟩:=qhh hr hds g1
    exact .inr (.inr ⟨b,0,cap,vs,hx,Reps_dat.2 k1,k2.1⟩)
   ·cases h
  ·cases h
 ·rename_i l off n cap sz'
  simp only[Rep] at hu
  obtain⟨b,hm,hx,h2,h3⟩:=hu
  split at h
  ·rename_i cs hcs
   split at h
   ·rename_i hle
    cases h
    obtain⟨_,arr,e,g2,g3⟩:=hr.obs l _ b hcs hm
    refine .inr (.inr ⟨b,off,cap,_,hx,qc1 (qdw g3 off) (m*sz'),fun j v hj=>?_⟩)
    simp only[World.cell?,g2]
    rw[WS] at hj
    split at hj
    ·rw[YE] at hj
     simpa using hj
    ·cases hj
   ·cases h
  ·cases h
 ·cases h
theorem qnP (hr:Real fid Γ) {u:V} {x:Value} {xs:List V} {m sz:Nat} (hu:Rep fid Γ u x) (h:qv2 Γ.σ u=some (xs,m)) (hl:xs.length=m*sz) (h1:xs.all V.one=true) :
  ∃ vs,Reps fid Γ xs vs/\(∀ v∈vs,v.oneCell'=true)/\(∀ w',(Builtin.lenOf x).run P w' = .ok m w') /\
   ∀ w':World,(∀ b i,w'.cell? ⟨b,i,none⟩ = Γ.w.cell? ⟨b,i,none⟩)->(Builtin.firstCells sz m x).run P w' = .ok vs.toArray w':=by
 rcases qrx hr hu h with ⟨a,rfl,rfl,rfl⟩|⟨s,rfl,rfl,rfl,rfl⟩|⟨b,off,cap,vs,rfl,hv,hc⟩
 ·refine⟨[],by simp[Reps],by simp,fun w'=>by simp[Builtin.lenOf],fun w' _=>?_⟩
  cases a with
  |none=>simp[Builtin.firstCells]
  |some a=>simp[Builtin.firstCells,loadCells,loadCellsFrom]
 ·exact⟨_,Reps_dat.2 (qiK _ _ s),fun v hv=>by obtain⟨c,_,rfl⟩:=Ye.1 hv; rfl,fun w'=>by simp[Builtin.lenOf],fun w' _=>qdH sz s w'⟩
 ·refine⟨vs,hv,qda hv h1,fun w'=>by simp[Builtin.lenOf],fun w' hw=>?_⟩
  have:=qbx (P:=P) (w:=w') (b:=b) (o:=off) (vs:=vs) (fun j v hj=>by rw[hw]; exact hc j v hj)
  rw[Reps.length hv,hl] at this
  simp only[Builtin.firstCells,this]
section
variable{ts tx e ex:TypeId}{s x:Operand}{c:Call}{sz bytes:Nat}{z:Value}
theorem qk6 (hr:Real fid Γ) (ho:o.op = .call c) (hcal:c.callee = .builtin .append) (hargs:c.args.toList=[s,x]) (hats:c.argTypes.toList=[ts,tx])
  (hts:P.underlying ts=some (.slice e)) (htx:(∃ ex,P.underlying tx=some (.slice ex))\/P.underlying tx=some .string) (hsz:qaP P e=some sz) (hby:qfq P e=some bytes) (hz:qc5 P e=some z) (hzn:z.cells.size=sz)
  {a b u:V} (ha:Rep fid Γ a (ρ s)) (hb:Rep fid Γ b (ρ x)) (h:appendO Γ.σ sz bytes a b=some (u,σ')):Comes P fid Γ ρ o u σ':=by
 unfold appendO at h
 split at h
 ·cases h
 ·rename_i xs m hsrc
  split at h
  ·rename_i hcond
   obtain⟨hxl,hsz0,hone⟩:=hcond
   obtain⟨news,n1,n2,n3,n4⟩:=qnP (P:=P) hr hb hsrc hxl hone
   have hnl:news.length=m*sz:=by rw[Reps.length n1,hxl]
   split at h
   ·rename_i hm
    subst hm
    have hnews:news=[]:=by
     apply WP; rw[hnl]; simp
    have fin : ∀ base n cap,ρ s = .slice base n cap->n<=cap->(u=a /\ σ' = Γ.σ)->Comes P fid Γ ρ o u σ':=fun base n cap hs hle hu=>by
     obtain⟨rfl,rfl⟩:=hu
     refine .pure hr (x := ρ s) ?_ ha
     refine qcB ho hcal hargs hats ?_
     rw[hs]
     have:=qhj (P:=P) (o:=o) hts htx hsz (base:=base) (n3 Γ.w) (show n+0<=cap by omega) (n4 Γ.w fun _ _=>rfl) (w' := Γ.w) (by rw[hnews]; cases base<;>simp[storeCells])
     simpa using this
    split at h
    ·cases h
     exact fin _ _ _ (qas ha).1 (Wi _) ⟨rfl,rfl⟩
    ·cases h
     have ha':=ha
     simp only[Rep,RepD] at ha'
     obtain⟨b',o',cap,vs,hs,h2,_⟩:=ha'
     exact fin _ _ _ hs h2 ⟨rfl,rfl⟩
    ·cases h
     have ha':=ha
     simp only[Rep] at ha'
     obtain⟨b',cap,hs,h2,_⟩:=ha'
     exact fin _ _ _ hs h2 ⟨rfl,rfl⟩
    ·cases h
   ·rename_i hm
    have fresh : ∀ {olds:List Value} {cs:List V} {base:Option Addr} {n cap:Nat},ρ s = .slice base n cap->cap<n+m->qaC (n+m) bytes=true->Reps fid Γ cs olds->cs.length=n*sz ->
      (∀ w':World,(∀ b i,w'.cell? ⟨b,i,none⟩ = Γ.w.cell? ⟨b,i,none⟩)->(Builtin.firstCells sz n (.slice base n cap)).run P w' = .ok olds.toArray w') ->
      ∃ (newCap:Nat) (rest:Array Value),n+m<=newCap/\(n+m)*sz+rest.size=newCap*sz/\(cs++xs).length=(n+m)*sz/\Reps fid Γ (cs++xs) (olds++news) /\
       (execOp ρ o).run P Γ.w = .ok (.value (.slice (some ⟨Γ.w.heap.size,0,none⟩) (n+m) newCap)) (Γ.w.drew.alloc (.cells ((olds++news).toArray++rest) e)):=by
     intro olds cs base n cap hs hlt hroom hd hcl hold
     obtain⟨newCap,rest,r1,r2,r3⟩:=qkA (P:=P) (o:=o) hts htx hsz hby hz n3 hlt hroom hold n4
     refine⟨newCap,rest,r1,?_,?_,Reps_append.2 ⟨_,_,rfl,hd,n1⟩,qcB ho hcal hargs hats (by rw[hs]; exact r3)⟩
     ·rw[r2,hzn,<- Nat.add_mul]; congr 1; omega
     ·rw[Wb,hcl,hxl,W6]
    obtain⟨d1,d2⟩:=qmo hr
    have obok : ∀ {Γ':Ctx} {olds:List Value} {cs:List V} {rest:Array Value},Ext ⟨Γ.σ,Γ.μ,Γ.F,Γ.w.drew⟩ Γ' -> Γ'.w = Γ.w.drew.alloc (.cells ((olds++news).toArray++rest) e) -> Γ'.F Γ.w.heap.size=0 ->
      Reps fid Γ (cs++xs) (olds++news)->(∀ v∈olds,v.oneCell'=true)->RepOb fid Γ' Γ.w.heap.size (.vec (cs++xs)):=by
     intro Γ' olds cs rest hx hw hF g1 g2
     have hlen:=Reps.length g1
     have htk:((olds++news).toArray++rest).toList.take (cs++xs).length=olds++news:=by
      rw[<- hlen,Array.toList_append]; exact Yu rfl
     simp only[RepOb]
     refine⟨hF,_,e,by rw[hw]; exact qap Γ.w.drew _,by rw[<- hlen]; simp,?_,?_⟩
     ·rw[htk]; exact Reps.ext hx _ _ (Reps.ext d2.ext _ _ g1)
     ·rw[htk]
      intro v hv
      rcases Wl.1 hv with hv|hv
      ·exact g2 v hv
      ·exact n2 v hv
    have grown : ∀ {Γ':Ctx} {olds:List Value} {cs:List V} {rest:Array Value} {n newCap l:Nat},Γ'.w = Γ.w.drew.alloc (.cells ((olds++news).toArray++rest) e) ->
      Γ'.σ[l]?=some (.vec (cs++xs)) -> Γ'.μ l=some Γ.w.heap.size->n+m<=newCap->(n+m)*sz+rest.size=newCap*sz->(cs++xs).length=(n+m)*sz->Reps fid Γ (cs++xs) (olds++news) ->
      Rep fid Γ' (.own l (n+m) sz) (.slice (some ⟨Γ.w.heap.size,0,none⟩) (n+m) newCap):=by
     intro Γ' olds cs rest n newCap l hw hσ hμ g1 g2 g3 g5
     have hlen:=Reps.length g5
     simp only[Rep]
     refine⟨_,_,rfl,g1,hsz0,⟨_,hσ,rfl⟩,fun ob cs' k1 k2=>?_⟩
     rw[hσ] at k1; cases k1
     simp only[Ob.rows,We] at k2; subst k2
     refine⟨by rw[g3]; exact Wi _,fun _=>⟨Γ.w.heap.size,_,e,hμ,rfl,by rw[hw]; exact qap Γ.w.drew _,?_⟩⟩
     simp only[Yx,YG,hlen,g3]
     omega
    split at h
    ·split at h
     ·rename_i hroom
      cases h
      obtain⟨newCap,rest,f1,f2,f3,f5,f7⟩:=fresh (olds:=[]) (cs:=[]) (qas ha).1 (show 0<0+m by omega) (by simpa using hroom) (by simp[Reps]) (by simp)
       (fun w' _=>by simp[Builtin.firstCells])
      obtain⟨k1,k2⟩:=qdr d1 (.vec xs) (.cells (([]++news).toArray++rest) e) 0
       (fun Γ' e' hx=>by
        have:=obok (cs:=[]) (olds:=[]) (rest:=rest) hx (by subst e'; rfl) (by subst e'; simp[grow]) f5 (by simp)
        simpa using this) (fun h=>absurd h (WR _))
      refine⟨_,_,rfl,k1,d2.trans k2,?_,.inl f7⟩
      have:=grown (cs:=[]) (olds:=[]) (rest:=rest) (n:=0) (newCap:=newCap) (l := Γ.σ.length) (Γ':=⟨Γ.σ ++ [.vec xs],bind Γ.μ Γ.σ.length Γ.w.drew.heap.size,grow Γ.F Γ.w.drew.heap.size 0,Γ.w.drew.alloc (.cells (([]++news).toArray++rest) e)⟩) rfl (by simp) (by simp[bind]) f1 f2 f3 f5
      simpa using this
     ·cases h
    ·rename_i cs n
     split at h
     ·rename_i hcond
      obtain⟨hroom,hcl⟩:=hcond
      cases h
      have ha':=ha
      simp only[Rep,RepD] at ha'
      obtain⟨b',o',cap,olds,hs,h2,h3,h4,h5⟩:=ha'
      have hcap:=h3 trivial
      subst hcap
      obtain⟨newCap,rest,f1,f2,f3,f5,f7⟩:=fresh (cs:=cs.map .dat) hs (show cap<cap+m by omega) hroom (Reps_dat.2 h4) (by simpa using hcl) (fun w' hw=>by
       have:=qbx (P:=P) (w:=w') (b:=b') (o:=o') (vs:=olds) (fun j v hj=>by rw[hw]; exact h5.1 j v hj)
       rw[h4.length,hcl] at this
       simp only[Builtin.firstCells,this])
      obtain⟨k1,k2⟩:=qdr d1 (.vec (cs.map .dat++xs)) (.cells ((olds++news).toArray++rest) e) 0
       (fun Γ' e' hx=>obok hx (by subst e'; rfl) (by subst e'; simp[grow]) f5 h5.2.2) (fun h=>absurd h (WR _))
      exact⟨_,_,rfl,k1,d2.trans k2,grown rfl (by simp) (by simp[bind]) f1 f2 f3 f5,.inl f7⟩
     ·cases h
    ·rename_i l n sz'
     split at h
     ·rename_i cs hcs
      split at h
      ·rename_i hcond
       obtain⟨hroom,hcl,rfl⟩:=hcond
       cases h
       have ha':=ha
       simp only[Rep] at ha'
       obtain⟨ad,cap,hs,h2,h0,h3,h4⟩:=ha'
       obtain⟨b',arr,e',q1,rfl,q2,q3⟩:=(h4 _ _ hcs rfl).2 hcl
       obtain⟨olds,arr',e2,k1,k2,k3,k4,k5,k6,k7⟩:=qeL hr hcs q1
       rw[q2] at k1; cases k1
       have hol:olds.length=n*sz':=by rw[Reps.length k4,hcl]
       have hpos:0<m*sz':=Nat.mul_pos (by omega) hsz0
       by_cases hfit:n+m<=cap
       ·have hbd:(n+m)*sz'<=cap*sz':=Yc _ hfit
        rw[W6] at hbd
        obtain⟨w',s1,s2,arr',s3,s4⟩:=qcO (P:=P) news 0 Γ.w b' (n*sz') arr e' q2 n2 (by rw[hnl]; omega)
        have hlen':arr'.size=arr.size:=by
         have:=congrArg List.length s4
         simp[hnl] at this
         omega
        have hnl2:(cs++xs).length=n*sz'+m*sz':=by rw[Wb,hcl,hxl]
        have htk:arr'.toList.take (cs++xs).length=olds++news:=by
         rw[s4,hnl2,k3,hcl,Ys,<- List.append_assoc]
         exact Yu (by simp[hnl]; omega)
        obtain⟨u1,u2⟩:=qsq hr hcs q1 (cs':=cs++xs) (by simp) s2 q2 s3 hlen' (fun hx=>by
         simp only[RepOb]
         refine⟨k6,arr',e',s3,by rw[hnl2,hlen']; omega,?_,?_⟩
         ·rw[htk]; exact Reps.ext hx _ _ (Reps_append.2 ⟨_,_,rfl,k4,n1⟩)
         ·rw[htk]
          intro v hv
          rcases Wl.1 hv with hv|hv
          ·exact k5 v hv
          ·exact n2 v hv)
        refine⟨_,.slice (some ⟨b',0,none⟩) (n+m) cap,rfl,u1,u2,?_,.inl (qcB ho hcal hargs hats ?_)⟩
        ·simp only[Rep]
         refine⟨_,_,rfl,hfit,hsz0,⟨.vec (cs++xs),by simp[(Wc.1 hcs).1],rfl⟩,fun ob cs' j1 j2=>?_⟩
         have:ob = .vec (cs++xs):=by simpa [(Wc.1 hcs).1] using j1.symm
         subst this
         simp only[Ob.rows,We] at j2; subst j2
         exact⟨by rw[hnl2,W6]; exact Wi _,fun _=>⟨b',arr',e',q1,rfl,s3,by rw[hlen']; exact q3⟩⟩
        ·rw[hs]
         refine qhj (P:=P) (o:=o) hts htx hsz (n3 Γ.w) hfit (n4 Γ.w fun _ _=>rfl) ?_
         simp only[qbI,WJ]
         exact s1
       ·obtain⟨newCap,rest,f1,f2,f3,f5,f7⟩:=fresh hs (show cap<n+m by omega) hroom k4 hcl (fun w' hw=>by
         have:=qbx (P:=P) (w:=w') (b:=b') (o:=0) (vs:=olds) (fun j v hj=>by rw[hw,WJ]; exact k7 j v hj)
         rw[hol] at this
         simp only[Builtin.firstCells,this])
        obtain⟨j1,j2⟩:=qtL d1 hcs (by simp[q1]) (cs':=cs++xs) (by rw[Wb,hxl]; omega) ((olds++news).toArray++rest) e
         (fun hx=>obok hx rfl (by simp[grow]) f5 k5)
        exact⟨_,_,rfl,j1,d2.trans j2,grown rfl (by simp[(Wc.1 hcs).1]) (by simp[bind]) f1 f2 f3 f5,.inl f7⟩
      ·cases h
     ·cases h
    ·cases h
  ·cases h
end
theorem qze (hr:Real fid Γ) {t e:TypeId} {n:Nat} {x:Operand} {p u:V} {lo hi:Option V} {lx hx:Option Operand} (ho:o.op = .slice t x lx hx none) (hp:Rep fid Γ p (ρ x))
  (ht:P.underlying t=some (.slice e)) (hn:qaP P e=some n) (h1:qk5 fid Γ ρ lo lx) (h2:qk5 fid Γ ρ hi hx)
  (h:qv1 Γ.σ n lo hi p=some (u,σ')):Comes P fid Γ ρ o u σ':=by
 unfold qv1 at h
 split at h
 ·rename_i l len sz'
  split at h
  ·rename_i cs hcs
   split at h
   ·rename_i hh eh
    split at h
    ·rename_i el
     split at h
     ·rename_i hcond
      obtain⟨rfl,hcl⟩:=hcond
      cases h
      simp only[Rep] at hp
      obtain⟨ad,cap,hs,g2,g0,g3,g4⟩:=hp
      obtain⟨b,arr,e',q1,rfl,q2,q3⟩:=(g4 _ _ hcs rfl).2 hcl
      obtain⟨olds,arr',e2,k1,k2,k3,k4,k5,k6,k7⟩:=qeL hr hcs q1
      rw[q2] at k1; cases k1
      have a2:hh<=len:=by rcases qba h2 eh with ⟨_,rfl⟩|⟨_,_,i',_,_,i3,i4,rfl⟩<;>omega
      have hle:hh*sz'<=len*sz':=Yc _ a2
      have hcl2:(cs.take (hh*sz')).length=hh*sz':=by simp; omega
      have htk:arr.toList.take (cs.take (hh*sz')).length=olds.take (hh*sz'):=by
       rw[hcl2,k3,Yp]; congr 1; omega
      obtain⟨u1,u2⟩:=qws hr hcs q1 (cs':=cs.take (hh*sz')) (fun hx=>by
       simp only[RepOb]
       refine⟨k6,arr,e',q2,by rw[hcl2]; omega,?_,?_⟩
       ·rw[htk]; exact Reps.ext hx _ _ (qc1 k4 _)
       ·rw[htk]; intro v hv; exact k5 v (Yj hv))
      refine⟨_,.slice (some ⟨b,0,none⟩) hh cap,rfl,u1,u2,?_,.inl ?_⟩
      ·simp only[Rep]
       have hlast:(Γ.σ.set l .dead++[Ob.vec (cs.take (hh*sz'))])[Γ.σ.length]?=some (.vec (cs.take (hh*sz'))):=by
        rw[WO (by simp)]; simp
       refine⟨_,_,rfl,by omega,g0,⟨_,hlast,rfl⟩,fun ob cs' j1 j2=>?_⟩
       rw[hlast] at j1; cases j1
       simp only[Ob.rows,We] at j2; subst j2
       exact⟨by rw[hcl2]; exact Wi _,fun _=>⟨b,arr,e',by simp[pass,q1],rfl,q2,q3⟩⟩
      ·have hb:=qcH (P:=P) (isSl:=true) h1 h2 g2 eh el Γ.w
       simp only[execOp,ho,Instr.sliceAt,Sem.run_bind,qai ht,Result.andThen_ok,Instr.slice,hs,YC,hb,qaH hn,Sem.run_pure]
       by_cases hc:cap=0
       ·simp[hc]
       ·simp[hc,qbI]
     ·cases h
    ·cases h
   ·cases h
  ·cases h
 ·split at h
  ·rename_i v hv
   cases h
   exact c_slice hr ho hp ht hn h1 h2 hv
  ·cases h
theorem qiZ(hr:Real fid Γ){v:V}{x:Value}(h:Rep fid Γ v x) : ∃ Γ':Ctx,Γ'.σ = (qn2 Γ.σ v).2 /\ Γ'.w = Γ.w/\Real fid Γ'/\Step Γ Γ'/\Rep fid Γ' (qn2 Γ.σ v).1 x:=by
 unfold qn2
 split
 ·rename_i l n sz
  split
  ·rename_i cs hcs
   split
   ·rename_i hlen
    split
    ·rename_i ds hds
     have hcd:=qdx hds
     simp only[Rep] at h
     obtain⟨ad,cap,hs,g2,g0,g3,g4⟩:=h
     obtain⟨b,arr,e',q1,rfl,q2,q3⟩:=(g4 _ _ hcs rfl).2 hlen
     obtain⟨olds,arr',e2,k1,k2,k3,k4,k5,k6,k7⟩:=qeL hr hcs q1
     rw[q2] at k1; cases k1
     have hl:ds.length=cs.length:=by rw[hcd]; simp
     have hD:RepDs Γ.F Γ.w ds olds:=by rw[hcd] at k4; exact Reps_dat.1 k4
     obtain⟨u1,u2⟩:=qoQ hr hcs q1 hl (fun hx=>by
      simp only[RepOb]
      refine⟨by simp[grow],arr,e',q2,by omega,?_,?_⟩
      ·have e:arr.toList.take ds.length=olds:=by rw[hl,<- k3]
       rw[e]; exact RepDs.ext hx _ _ hD
      ·have e:arr.toList.take ds.length=olds:=by rw[hl,<- k3]
       rw[e]; exact k5)
     refine⟨⟨Γ.σ.set l (.froz ds),Γ.μ,grow Γ.F b ds.length,Γ.w⟩,rfl,rfl,u1,u2,?_⟩
     simp only[Rep,RepD]
     refine⟨b,0,cap,olds,hs,g2,by simp,RepDs.ext u2.ext _ _ hD,fun j v hj=>?_,fun _=>?_,k5⟩
     ·rw[WJ]; exact k7 j v hj
     ·simp[grow,hD.length]
    ·exact⟨Γ,rfl,rfl,hr,.refl _,h⟩
   ·exact⟨Γ,rfl,rfl,hr,.refl _,h⟩
  ·rename_i ds hds
   split
   ·rename_i hlen
    refine⟨Γ,rfl,rfl,hr,.refl _,?_⟩
    simp only[Rep] at h
    obtain⟨ad,cap,hs,g2,g0,g3,g4⟩:=h
    obtain⟨b,arr,e',q1,rfl,q2,q3⟩:=(g4 _ _ hds rfl).2 (by simpa using hlen)
    obtain⟨vs,k1,k2⟩:=qhh hr hds q1
    simp only[Rep,RepD]
    exact⟨b,0,cap,vs,hs,g2,by simp,k1,k2⟩
   ·exact⟨Γ,rfl,rfl,hr,.refl _,h⟩
  ·exact⟨Γ,rfl,rfl,hr,.refl _,h⟩
 ·refine⟨Γ,rfl,rfl,hr,.refl _,?_⟩
  simp only[Rep,RepD] at h ⊢
  obtain⟨b,cap,vs,m,h1,h2,h3,h4,_⟩:=h
  exact⟨b,0,cap,vs,h1,h2,by simp,h3,h4⟩
 ·exact⟨Γ,rfl,rfl,hr,.refl _,h⟩
end
theorem qi0 : ∀ {vs:List V} {Γ : Ctx} {xs:List Value},Real fid Γ -> Reps fid Γ vs xs -> ∃ Γ':Ctx,Γ'.σ = (qol Γ.σ vs).2 /\ Γ'.w = Γ.w/\Real fid Γ'/\Step Γ Γ'/\Reps fid Γ' (qol Γ.σ vs).1 xs
 |[],Γ,xs,hr,h=>⟨Γ,rfl,rfl,hr,.refl _,by simpa only [qol,Reps] using h⟩
 |v::vs,Γ,xs,hr,h=>by
  simp only[Reps] at h
  obtain⟨y,ys,rfl,h1,h2⟩:=h
  obtain⟨Γ1,a1,a2,a3,a4,a5⟩:=qiZ hr h1
  obtain⟨Γ2,b1,b2,b3,b4,b5⟩:=qi0 (vs:=vs) a3 (Reps.ext a4.ext _ _ h2)
  rw[a1] at b1 b5
  exact⟨Γ2,b1,b2.trans a2,b3,a4.trans b4,_,_,rfl,Rep.ext b4.ext _ _ a5,b5⟩
theorem qnQ{Γ : Ctx}{v:V}{x:Value}(hr:Real fid Γ)(h:Rep fid Γ v x) : ∃ Γ':Ctx,Γ'.σ = (qom Γ.σ v).2 /\ Γ'.w = Γ.w/\Real fid Γ'/\Step Γ Γ'/\Rep fid Γ' (qom Γ.σ v).1 x:=by
 unfold qom
 split
 ·simp only[Rep] at h
  obtain⟨vs,rfl,h⟩:=h
  obtain⟨Γ1,a1,a2,a3,a4,a5⟩:=qi0 hr h
  exact⟨Γ1,a1,a2,a3,a4,qd2 a5⟩
 ·exact qiZ hr h
theorem qh5 : ∀ {vs:List V} {Γ : Ctx} {xs:List Value},Real fid Γ -> Reps fid Γ vs xs -> ∃ Γ':Ctx,Γ'.σ = (qik Γ.σ vs).2 /\ Γ'.w = Γ.w/\Real fid Γ'/\Step Γ Γ'/\Reps fid Γ' (qik Γ.σ vs).1 xs
 |[],Γ,xs,hr,h=>⟨Γ,rfl,rfl,hr,.refl _,by simpa only [qik,Reps] using h⟩
 |v::vs,Γ,xs,hr,h=>by
  simp only[Reps] at h
  obtain⟨y,ys,rfl,h1,h2⟩:=h
  obtain⟨Γ1,a1,a2,a3,a4,a5⟩:=qnQ hr h1
  obtain⟨Γ2,b1,b2,b3,b4,b5⟩:=qh5 (vs:=vs) a3 (Reps.ext a4.ext _ _ h2)
  rw[a1] at b1 b5
  exact⟨Γ2,b1,b2.trans a2,b3,a4.trans b4,_,_,rfl,Rep.ext b4.ext _ _ a5,b5⟩
end
section
variable{P:Program}{ids:Ids}{fid:Fid}{N:Nat}
section
variable{Γ : Ctx}{fr:Fr}{ρ : Operand->Value}{o:Oper}{v:V}{σ':S}
theorem qqz (hr:Real fid Γ) {t e:TypeId} {len n:Nat} {x:Operand} {p u:V} {lo hi:Option V} {lx hx:Option Operand} (ho:o.op = .slice t x lx hx none) (hp:Rep fid Γ p (ρ x))
  (ht:P.underlying t=some (.array len e)) (hn:qaP P e=some n) (h1:qk5 fid Γ ρ lo lx) (h2:qk5 fid Γ ρ hi hx)
  (h:qjx len n lo hi p=some u):Comes P fid Γ ρ o u Γ.σ:=by
 unfold qjx at h
 split at h
 ·rename_i l off
  split at h
  ·rename_i hh eh
   split at h
   ·rename_i k el
    cases h
    simp only[Rep] at hp
    obtain⟨b,hm,hx',hfix⟩:=hp
    have hb:=qcH (P:=P) (isSl:=false) h1 h2 (Wi len) eh el Γ.w
    have a1:k<=hh:=by rcases qba h1 el with ⟨_,rfl⟩|⟨_,_,i',_,_,i3,i4,rfl⟩<;>omega
    have a2:hh<=len:=by rcases qba h2 eh with ⟨_,rfl⟩|⟨_,_,i',_,_,i3,i4,rfl⟩<;>omega
    refine .pure hr (x := .slice (some ⟨b,if len=k then off else off+k*n,none⟩) (hh-k) (len-k)) ?_ ?_
    ·simp only[execOp,ho,Instr.sliceAt,Sem.run_bind,qai ht,Result.andThen_ok,Instr.sureAddr,hx',YC,hb,qaH hn,Sem.run_pure]
     by_cases hc:len=k
     ·simp[hc]
     ·simp[hc,qbI]
    ·grind [Rep]
   ·cases h
  ·cases h
 ·cases h
section
variable{c:Call}{x y:Operand}{tx ty:TypeId}
theorem qoy(fn:Func)(h:fn.name = "internal/abi.NoEscape")(ho:fn.origin = ""):Extern.findNext fn=none/\Extern.find fn=some Extern.AbiNoEscape.same:=by
 have g1:Extern.allNextRows.lookup "internal/abi.NoEscape" = none:=by kernel_rfl
 have g2:Extern.allNextRows.lookup "" = none:=by kernel_rfl
 have g3:Extern.allGenericRows.lookup "internal/abi.NoEscape" = none:=by kernel_rfl
 have g4:Extern.allTypedRows.lookup "internal/abi.NoEscape" = none:=by kernel_rfl
 have g5:Extern.allRows.lookup "internal/abi.NoEscape" = some Extern.AbiNoEscape.same:=by kernel_rfl
 constructor
 ·simp only[Extern.findNext,h,ho,g1,g2]; rfl
 ·simp only[Extern.find,h,ho,g3,g4,g5]; rfl
theorem qqA(fn:Func)(h:fn.name = "internal/bytealg.IndexByteString")(ho:fn.origin = ""):Extern.findNext fn=none/\Extern.find fn=some Extern.BytealgIndexByte.indexByte:=by
 have g1:Extern.allNextRows.lookup "internal/bytealg.IndexByteString" = none:=by kernel_rfl
 have g2:Extern.allNextRows.lookup "" = none:=by kernel_rfl
 have g3:Extern.allGenericRows.lookup "internal/bytealg.IndexByteString" = none:=by kernel_rfl
 have g4:Extern.allTypedRows.lookup "internal/bytealg.IndexByteString" = none:=by kernel_rfl
 have g5:Extern.allRows.lookup "internal/bytealg.IndexByteString" = some Extern.BytealgIndexByte.indexByte:=by kernel_rfl
 constructor
 ·simp only[Extern.findNext,h,ho,g1,g2]; rfl
 ·simp only[Extern.find,h,ho,g3,g4,g5]; rfl
theorem qgW {f:FuncId} {b:Bool} (h:qgL P f=some b) : ∃ fn,P.funcs[f]?=some fn/\fn.body.isNone=true/\(fn.name == "runtime.NumGoroutine")=false/\Extern.findNext fn=none /\
  Extern.find fn=some (if b then Extern.BytealgIndexByte.indexByte else Extern.AbiNoEscape.same):=by
 unfold qgL at h
 split at h
 ·grind [qgL,qoy,qqA]
 ·cases h
theorem qzN{xs:List Operand}{y:X}(h:cXs ids N xs=some [y]) : ∃ x,xs=[x]/\cX ids N x=some y:=by
 cases xs with
 |nil=>simp[cXs] at h
 |cons x r=>
  simp only[cXs] at h
  split at h
  ·rename_i u us h1 h2
   simp only[We,WW] at h
   obtain⟨rfl,rfl⟩:=h
   cases r with
   |nil=>exact⟨x,rfl,h1⟩
   |cons z r=>
    simp only[cXs] at h2
    split at h2<;>cases h2
  ·cases h
theorem qAf{xs:List Operand}{y z:X}(h:cXs ids N xs=some [y,z]) : ∃ p q,xs=[p,q]/\cX ids N p=some y/\cX ids N q=some z:=by
 cases xs with
 |nil=>simp[cXs] at h
 |cons x r=>
  simp only[cXs] at h
  split at h
  ·grind [cXs,cX,qzN]
  ·cases h
theorem qv8(hr:Real fid Γ){f:FuncId}(ho:o.op = .call c)(hcal:c.callee = .value (.func f))(he:qgL P f=some false)(hargs:c.args.toList=[x]){u:V}(hf : ρ (.func f) = .func (.func f) #[] #[])(hu:Rep fid Γ u (ρ x)):Comes P fid Γ ρ o u Γ.σ:=by
 have ha:c.args = #[x]:=by apply WN; simpa using hargs
 obtain⟨fn,h1,h2,h3,h4,h5⟩:=qgW he
 simp only[Wm,if_false] at h5
 refine .pure hr (x := ρ x) ?_ hu
 simp only[execOp,ho,resolve,hcal,ha,hf,Deferred.ofValue,Sem.run_bind,Sem.run_pure,Result.andThen_ok,invoke]
 have:=run_callFunc_extern h1 h3 h2 h4 h5 #[ρ x] Γ.w
 have hs:(Extern.AbiNoEscape.same #[ρ x]).run P Γ.w = .ok (ρ x) Γ.w:=rfl
 simp[this,hs]
theorem qyu (hr:Real fid Γ) {f:FuncId} (ho:o.op = .call c) (hcal:c.callee = .value (.func f)) (he:qgL P f=some true) (hargs:c.args.toList=[x,y]) (hf : ρ (.func f) = .func (.func f) #[] #[]) {s:ByteArray} {n:Int} (hx:Rep fid Γ (.str s) (ρ x)) (hy:Rep fid Γ (.dat (.lit (.int .u8 n))) (ρ y)) :
  Comes P fid Γ ρ o (.int (firstIdx s n.toNat.toUInt8)) Γ.σ:=by
 have ha:c.args = #[x,y]:=by apply WN; simpa using hargs
 obtain⟨fn,h1,h2,h3,h4,h5⟩:=qgW he
 simp only[if_true] at h5
 refine .pure hr (x := .int .i64 (firstIdx s n.toNat.toUInt8)) ?_ (by simp[Rep,RepD,qbL])
 simp only[execOp,ho,resolve,hcal,ha,hf,Deferred.ofValue,Sem.run_bind,Sem.run_pure,Result.andThen_ok,invoke]
 have:=run_callFunc_extern h1 h3 h2 h4 h5 #[ρ x,ρ y] Γ.w
 rw[(qas hx).1,(qas hy).1] at this
 simp[(qas hx).1,(qas hy).1,this,run_indexByte_string]
end
end
end
section
variable{fid:Fid}
structure Ren(r:Nat->Nat)(L:Nat->Prop)(Γ Γs:Ctx):Prop where
 F : Γs.F = Γ.F
 w : Γs.w = Γ.w
 μ : ∀ l,L l -> Γs.μ (r l) = Γ.μ l
 σ : ∀ l ob,L l -> Γ.σ[l]?=some ob -> Γs.σ[r l]?=some (ob.ren r)
theorem Ob.isTip_ren(r:Nat->Nat)(ob:Ob):(ob.ren r).isTip=ob.isTip:=by cases ob<;>rfl
theorem qbF(r:Nat->Nat) : ∀ vs,(qd6 r vs).length=vs.length
 |[]=>rfl
 |v::vs=>by simp[qd6,qbF r vs]
theorem qjE(r:Nat->Nat) : ∀ ds:List D,qd6 r (ds.map .dat)=ds.map .dat
 |[]=>rfl
 |d::ds=>by simp[qd6,V.ren,qjE r ds]
theorem Ob.rows_ren(r:Nat->Nat)(ob:Ob):(ob.ren r).rows=ob.rows.map (qd6 r):=by
 cases ob<;>simp[Ob.ren,Ob.rows,qjE]
theorem Ctx.fix.ren{r:Nat->Nat}{L:Nat->Prop}{Γ Γs:Ctx}(h:Ren r L Γ Γs){l:Nat}(hl:L l)(hf : Γ.fix l) : Γs.fix (r l):=by
 obtain⟨ob,h1,h2⟩:=hf
 exact⟨_,h.σ l ob hl h1,by rw[Ob.isTip_ren]; exact h2⟩
mutual
theorem Rep.ren{r:Nat->Nat}{L:Nat->Prop}{Γ Γs:Ctx}(h:Ren r L Γ Γs) : ∀ (v:V) (x:Value),(∀ l∈v.locs,L l)->Rep fid Γ v x->Rep fid Γs (v.ren r) x
 |.dat d,x,_,hr=>by simp only[Rep,V.ren] at hr ⊢; rw[h.F,h.w]; exact hr
 |.ptr l o,x,hl,hr=>by
  simp only[Rep,V.ren] at hr ⊢
  obtain⟨b,h1,h2,h3⟩:=hr
  have:=hl l (by simp[V.locs])
  exact⟨b,by rw[h.μ l this]; exact h1,h2,h3.ren h this⟩
 |.gsl cs n sz l,x,hl,hr=>by
  simp only[Rep,V.ren] at hr ⊢
  obtain⟨b,cap,vs,m,h1,h2,h3,h4,h5,h6,h7,h8,h9⟩:=hr
  have:=hl l (by simp[V.locs])
  rw[h.F,h.w,h.μ l this]
  exact⟨b,cap,vs,m,h1,h2,h3,h4,h5,h.σ l _ this h6,h7,h8,h9⟩
 |.msl l o n cap sz,x,hl,hr=>by
  simp only[Rep,V.ren] at hr ⊢
  obtain⟨b,h1,h2,h3,h4⟩:=hr
  have:=hl l (by simp[V.locs])
  exact⟨b,by rw[h.μ l this]; exact h1,h2,h3,h4.ren h this⟩
 |.own l n sz,x,hl,hr=>by
  simp only[Rep,V.ren] at hr ⊢
  obtain⟨a,cap,h1,h2,h0,⟨ob,h3,h4⟩,h5⟩:=hr
  have hl':=hl l (by simp[V.locs])
  have hσ := h.σ l ob hl' h3
  refine⟨a,cap,h1,h2,h0,⟨_,hσ,by rw[Ob.isTip_ren]; exact h4⟩,fun ob' cs' k1 k2=>?_⟩
  rw[hσ] at k1; cases k1
  rw[Ob.rows_ren,Wf] at k2
  obtain⟨cs,k2,rfl⟩:=k2
  rw[qbF,h.w,h.μ l hl']
  exact h5 ob cs h3 k2
 |.eptr l n o,x,hl,hr=>by
  simp only[Rep,V.ren] at hr ⊢
  obtain⟨a,h1,⟨ob,h3,h4⟩,h5⟩:=hr
  have hl':=hl l (by simp[V.locs])
  have hσ := h.σ l ob hl' h3
  refine⟨a,h1,⟨_,hσ,by rw[Ob.isTip_ren]; exact h4⟩,fun ob' cs' k1 k2=>?_⟩
  rw[hσ] at k1; cases k1
  rw[Ob.rows_ren,Wf] at k2
  obtain⟨cs,k2,rfl⟩:=k2
  rw[qbF,h.w,h.μ l hl']
  exact h5 ob cs h3 k2
 |.bm g v,x,hl,hr=>by
  simp only[Rep,V.ren] at hr ⊢
  obtain⟨t,nm,y,h1,h2,h3⟩:=hr
  exact⟨t,nm,y,h1,h2,Rep.ren h v y (fun l hl'=>hl l (by simpa [V.locs] using hl')) h3⟩
 |.agg cs,x,hl,hr=>by
  simp only[Rep,V.ren] at hr ⊢
  obtain⟨vs,h1,h2⟩:=hr
  exact⟨vs,h1,Reps.ren h cs vs (fun l hl'=>hl l (by simpa [V.locs] using hl')) h2⟩
 |.fn f a b,x,hl,hr=>by
  simp only[Rep,V.ren] at hr ⊢
  obtain⟨as,bs,h1,h2,h3⟩:=hr
  exact⟨as,bs,h1,Reps.ren h a as (fun l hl'=>hl l (by simp[V.locs,hl'])) h2,Reps.ren h b bs (fun l hl'=>hl l (by simp[V.locs,hl'])) h3⟩
 |.mp l,x,hl,hr=>by
  simp only[Rep,V.ren] at hr ⊢
  obtain⟨b,h1,h2,h3⟩:=hr
  have:=hl l (by simp[V.locs])
  exact⟨b,by rw[h.μ l this]; exact h1,h2,h3.ren h this⟩
 |.iface t v,x,hl,hr=>by
  simp only[Rep,V.ren] at hr ⊢
  obtain⟨y,h1,h2⟩:=hr
  exact⟨y,h1,Rep.ren h v y (fun l hl'=>hl l (by simpa [V.locs] using hl')) h2⟩
 |.tup vs,x,hl,hr=>by
  simp only[Rep,V.ren] at hr ⊢
  obtain⟨xs,h1,h2⟩:=hr
  exact⟨xs,h1,Reps.ren h vs xs (fun l hl'=>hl l (by simpa [V.locs] using hl')) h2⟩
 |.yld l,x,hl,hr=>by
  simp only[Rep,V.ren] at hr ⊢
  obtain⟨b,h1,h2,h3⟩:=hr
  have:=hl l (by simp[V.locs])
  exact⟨b,by rw[h.μ l this]; exact h1,h2,h3.ren h this⟩
 |.pan _,x,hl,hr=>by simp only[Rep] at hr
theorem Reps.ren{r:Nat->Nat}{L:Nat->Prop}{Γ Γs:Ctx}(h:Ren r L Γ Γs) : ∀ (vs:List V) (xs:List Value),(∀ l∈qaz vs,L l)->Reps fid Γ vs xs->Reps fid Γs (qd6 r vs) xs
 |[],xs,_,hr=>by simpa only [Reps,qd6] using hr
 |d::ds,xs,hl,hr=>by
  simp only[Reps,qd6] at hr ⊢
  obtain⟨y,ys,h1,h2,h3⟩:=hr
  exact⟨y,ys,h1,Rep.ren h d y (fun l hl'=>hl l (by simp[qaz,hl'])) h2,Reps.ren h ds ys (fun l hl'=>hl l (by simp[qaz,hl'])) h3⟩
end
theorem RepE.ren{r:Nat->Nat}{L:Nat->Prop}{Γ Γs:Ctx}(h:Ren r L Γ Γs) : ∀ (es:List (Value × V)) (xs:List MapEntry),(∀ l∈qg6 es,L l)->RepE fid Γ es xs->RepE fid Γs (qqn r es) xs
 |[],xs,_,hr=>by simpa only [RepE,qqn] using hr
 | (k,v)::es,xs,hl,hr=>by
  simp only[RepE,qqn] at hr ⊢
  obtain⟨e,es',h1,h2,h3,h4⟩:=hr
  exact⟨e,es',h1,h2,Rep.ren h v e.val (fun l hl'=>hl l (by simp[qg6,hl'])) h3,RepE.ren h es es' (fun l hl'=>hl l (by simp[qg6,hl'])) h4⟩
theorem qjF{r:Nat->Nat} : ∀ {fr:Fr} {t:Nat} {v:V},(qlx r fr).get t=some v -> ∃ u,fr.get t=some u/\v=u.ren r /\ ∀ l∈u.locs,l∈qcs fr
 |[],t,v,h=>by simp[qlx,Fr.get] at h
 | (k,u)::fr,t,v,h=>by
  simp only[qlx,Fr.get] at h ⊢
  split at h
  ·rename_i e
   cases h
   exact⟨u,by rw[if_pos e],rfl,fun l hl=>by simp[qcs,hl]⟩
  ·rename_i e
   obtain⟨u',h1,h2,h3⟩:=qjF h
   exact⟨u',by rw[if_neg e]; exact h1,h2,fun l hl=>by simp[qcs,h3 l hl]⟩
mutual
theorem qfX{r:Nat->Nat} : ∀ {v:V} {l:Nat},l∈(v.ren r).locs -> ∃ l'∈v.locs,l=r l'
 |.dat _,l,h=>by simp[V.ren,V.locs] at h
 |.ptr l' o,l,h=>by simp[V.ren,V.locs] at h ⊢; exact h
 |.gsl _ _ _ l',l,h=>by simp[V.ren,V.locs] at h ⊢; exact h
 |.msl l' _ _ _ _,l,h=>by simp[V.ren,V.locs] at h ⊢; exact h
 |.own l' _ _,l,h=>by simp[V.ren,V.locs] at h ⊢; exact h
 |.eptr l' _ _,l,h=>by simp[V.ren,V.locs] at h ⊢; exact h
 |.bm _ v,l,h=>by simp only[V.ren,V.locs] at h ⊢; exact qfX h
 |.agg cs,l,h=>by simp only[V.ren,V.locs] at h ⊢; exact qeE h
 |.fn f a b,l,h=>by
  simp only[V.ren,V.locs,Wl] at h ⊢
  rcases h with h|h
  ·obtain⟨l',h1,h2⟩:=qeE h; exact⟨l',.inl h1,h2⟩
  ·obtain⟨l',h1,h2⟩:=qeE h; exact⟨l',.inr h1,h2⟩
 |.mp l',l,h=>by simp[V.ren,V.locs] at h ⊢; exact h
 |.iface _ v,l,h=>by simp only[V.ren,V.locs] at h ⊢; exact qfX h
 |.tup vs,l,h=>by simp only[V.ren,V.locs] at h ⊢; exact qeE h
 |.yld l',l,h=>by simp[V.ren,V.locs] at h ⊢; exact h
 |.pan v,l,h=>by simp only[V.ren,V.locs] at h ⊢; exact qfX h
theorem qeE{r:Nat->Nat} : ∀ {vs:List V} {l:Nat},l∈qaz (qd6 r vs) -> ∃ l'∈qaz vs,l=r l'
 |[],l,h=>by simp[qd6,qaz] at h
 |v::vs,l,h=>by
  simp only[qd6,qaz,Wl] at h ⊢
  rcases h with h|h
  ·obtain⟨l',h1,h2⟩:=qfX h; exact⟨l',.inl h1,h2⟩
  ·obtain⟨l',h1,h2⟩:=qeE h; exact⟨l',.inr h1,h2⟩
end
theorem qkD{r:Nat->Nat} : ∀ {fr:Fr} {l:Nat},l∈qcs (qlx r fr) -> ∃ l'∈qcs fr,l=r l'
 |[],l,h=>by simp[qlx,qcs] at h
 | (_,v)::vs,l,h=>by
  simp only[qlx,qcs,Wl] at h ⊢
  rcases h with h|h
  ·obtain⟨l',h1,h2⟩:=qfX h; exact⟨l',.inl h1,h2⟩
  ·obtain⟨l',h1,h2⟩:=qkD h; exact⟨l',.inr h1,h2⟩
theorem FrRep.ren{r:Nat->Nat}{L:Nat->Prop}{Γ Γs:Ctx}(h:Ren r L Γ Γs){N:Nat}{fr:Fr}{tmps:Array Value}(hl : ∀ l∈qcs fr,L l)(hf:FrRep fid Γ N fr tmps):FrRep fid Γs N (qlx r fr) tmps:=by
 refine⟨hf.1,fun t v ht hv=>?_⟩
 obtain⟨u,h1,rfl,h3⟩:=qjF hv
 exact Rep.ren h u _ (fun l hl'=>hl l (h3 l hl')) (hf.2 t u ht h1)
theorem RepOb.ren{r:Nat->Nat}{L:Nat->Prop}{Γ Γs:Ctx}(h:Ren r L Γ Γs){b:Nat} : ∀ (ob:Ob),(∀ l∈ob.locs,L l)->RepOb fid Γ b ob->RepOb fid Γs b (ob.ren r)
 |.cells cs,hl,hr=>by
  simp only[RepOb,Ob.ren] at hr ⊢
  obtain⟨h1,arr,e,h2,h3⟩:=hr
  exact⟨by rw[h.F]; exact h1,arr,e,by rw[h.w]; exact h2,Reps.ren h cs _ hl h3⟩
 |.map es,hl,hr=>by
  simp only[RepOb,Ob.ren] at hr ⊢
  obtain⟨h1,arr,e,h2,h3⟩:=hr
  exact⟨by rw[h.F]; exact h1,arr,e,by rw[h.w]; exact h2,RepE.ren h es _ hl h3⟩
 |.tip m,_,hr=>by
  simp only[RepOb,Ob.ren] at hr ⊢
  rw[h.F]; exact hr
 |.vec cs,hl,hr=>by
  simp only[RepOb,Ob.ren] at hr ⊢
  obtain⟨h1,arr,e,h2,h3,h4,h5⟩:=hr
  rw[qbF]
  exact⟨by rw[h.F]; exact h1,arr,e,by rw[h.w]; exact h2,h3,Reps.ren h cs _ hl h4,h5⟩
 |.cellsT t cs,hl,hr=>by
  simp only[RepOb,Ob.ren] at hr ⊢
  obtain⟨h1,arr,h2,h3⟩:=hr
  exact⟨by rw[h.F]; exact h1,arr,by rw[h.w]; exact h2,Reps.ren h cs _ hl h3⟩
 |.vecT t cs,hl,hr=>by
  simp only[RepOb,Ob.ren] at hr ⊢
  obtain⟨h1,arr,h2,h3,h4,h5⟩:=hr
  rw[qbF]
  exact⟨by rw[h.F]; exact h1,arr,by rw[h.w]; exact h2,h3,Reps.ren h cs _ hl h4,h5⟩
 |.froz ds,hl,hr=>by
  simp only[RepOb,Ob.ren] at hr ⊢
  rw[h.F,h.w]; exact hr
 |.dead,hl,hr=>by simp only[RepOb] at hr
 |.loop lp,hl,hr=>by
  simp only[RepOb,Ob.ren] at hr ⊢
  obtain⟨h1,M,h2,h3,h4,h5,N,h6,h7,h8,h9,h10⟩:=hr
  refine⟨by rw[h.F]; exact h1,M,by rw[h.w]; exact h2,h3,h4,h5,N,h6,h7,h8,FrRep.ren h hl h9,fun l hl'=>?_⟩
  obtain⟨l',hm,rfl⟩:=qkD hl'
  have:=h10 l' hm
  exact (Wc.1 (h.σ l' (Γ.σ[l']'this) (hl l' hm) (by simp))).1
mutual
theorem Rep.lt{Γ : Ctx} : ∀ (v:V) (x:Value),Rep fid Γ v x -> ∀ l∈v.locs,l < Γ.σ.length
 |.dat d,x,_,l,hl=>by simp[V.locs] at hl
 |.ptr l' o,x,hr,l,hl=>by
  simp only[Rep] at hr
  obtain⟨b,h1,h2,ob,h3,_⟩:=hr
  simp[V.locs] at hl; subst hl
  exact (Wc.1 h3).1
 |.gsl cs n sz l',x,hr,l,hl=>by
  simp only[Rep] at hr
  obtain⟨b,cap,vs,m,_,_,_,_,_,h6,_⟩:=hr
  simp[V.locs] at hl; subst hl
  exact (Wc.1 h6).1
 |.msl l' o n cap sz,x,hr,l,hl=>by
  simp only[Rep] at hr
  obtain⟨b,h1,h2,_,ob,h3,_⟩:=hr
  simp[V.locs] at hl; subst hl
  exact (Wc.1 h3).1
 |.own l' n sz,x,hr,l,hl=>by
  simp only[Rep] at hr
  obtain⟨a,cap,_,_,_,⟨ob,h3,_⟩,_⟩:=hr
  simp[V.locs] at hl; subst hl
  exact (Wc.1 h3).1
 |.eptr l' n o,x,hr,l,hl=>by
  simp only[Rep] at hr
  obtain⟨a,_,⟨ob,h3,_⟩,_⟩:=hr
  simp[V.locs] at hl; subst hl
  exact (Wc.1 h3).1
 |.bm g v,x,hr,l,hl=>by
  simp only[Rep] at hr
  obtain⟨t,nm,y,_,_,h⟩:=hr
  exact Rep.lt v y h l (by simpa [V.locs] using hl)
 |.agg cs,x,hr,l,hl=>by
  simp only[Rep] at hr
  obtain⟨vs,_,h⟩:=hr
  exact Reps.lt cs vs h l (by simpa [V.locs] using hl)
 |.fn f a b,x,hr,l,hl=>by
  simp only[Rep] at hr
  obtain⟨as,bs,_,h1,h2⟩:=hr
  simp only[V.locs,Wl] at hl
  rcases hl with hl|hl
  ·exact Reps.lt a as h1 l hl
  ·exact Reps.lt b bs h2 l hl
 |.mp l',x,hr,l,hl=>by
  simp only[Rep] at hr
  obtain⟨b,h1,h2,ob,h3,_⟩:=hr
  simp[V.locs] at hl; subst hl
  exact (Wc.1 h3).1
 |.iface t v,x,hr,l,hl=>by
  simp only[Rep] at hr
  obtain⟨y,_,h⟩:=hr
  exact Rep.lt v y h l (by simpa [V.locs] using hl)
 |.tup vs,x,hr,l,hl=>by
  simp only[Rep] at hr
  obtain⟨xs,_,h⟩:=hr
  exact Reps.lt vs xs h l (by simpa [V.locs] using hl)
 |.yld l',x,hr,l,hl=>by
  simp only[Rep] at hr
  obtain⟨b,h1,h2,ob,h3,_⟩:=hr
  simp[V.locs] at hl; subst hl
  exact (Wc.1 h3).1
 |.pan _,x,hr,l,hl=>by simp only[Rep] at hr
theorem Reps.lt{Γ : Ctx} : ∀ (vs:List V) (xs:List Value),Reps fid Γ vs xs -> ∀ l∈qaz vs,l < Γ.σ.length
 |[],xs,_,l,hl=>by simp[qaz] at hl
 |d::ds,xs,hr,l,hl=>by
  simp only[Reps] at hr
  obtain⟨y,ys,_,h2,h3⟩:=hr
  simp only[qaz,Wl] at hl
  rcases hl with hl|hl
  ·exact Rep.lt d y h2 l hl
  ·exact Reps.lt ds ys h3 l hl
end
theorem RepE.lt{Γ : Ctx} : ∀ (es:List (Value × V)) (xs:List MapEntry),RepE fid Γ es xs -> ∀ l∈qg6 es,l < Γ.σ.length
 |[],xs,_,l,hl=>by simp[qg6] at hl
 | (k,v)::es,xs,hr,l,hl=>by
  simp only[RepE] at hr
  obtain⟨e,es',_,_,h2,h3⟩:=hr
  simp only[qg6,Wl] at hl
  rcases hl with hl|hl
  ·exact Rep.lt v _ h2 l hl
  ·exact RepE.lt es es' h3 l hl
theorem RepOb.lt{Γ : Ctx}{b:Nat} : ∀ (ob:Ob),RepOb fid Γ b ob -> ∀ l∈ob.locs,l < Γ.σ.length
 |.cells cs,hr,l,hl=>by simp only[RepOb] at hr; obtain⟨_,arr,e,_,h⟩:=hr; exact Reps.lt cs _ h l hl
 |.map es,hr,l,hl=>by simp only[RepOb] at hr; obtain⟨_,arr,e,_,h⟩:=hr; exact RepE.lt es _ h l hl
 |.tip m,_,l,hl=>by simp[Ob.locs] at hl
 |.vec cs,hr,l,hl=>by simp only[RepOb] at hr; obtain⟨_,arr,e,_,_,h,_⟩:=hr; exact Reps.lt cs _ h l hl
 |.cellsT t cs,hr,l,hl=>by simp only[RepOb] at hr; obtain⟨_,arr,_,h⟩:=hr; exact Reps.lt cs _ h l hl
 |.vecT t cs,hr,l,hl=>by simp only[RepOb] at hr; obtain⟨_,arr,_,_,h,_⟩:=hr; exact Reps.lt cs _ h l hl
 |.froz ds,_,l,hl=>by simp[Ob.locs] at hl
 |.dead,_,l,hl=>by simp[Ob.locs] at hl
 |.loop lp,hr,l,hl=>by simp only[RepOb] at hr; obtain⟨_,M,_,_,_,_,N,_,_,_,_,h⟩:=hr; exact h l hl
theorem qgu{L:List Nat} : ∀ {ks:List Nat},inL L ks=true -> ∀ k∈ks,k∈L
 |[],_,k,hk=>by cases hk
 |a::ks,h,k,hk=>by
  simp only[inL,Wq,Yz,decide_eq_true_eq] at h
  rcases Wp.1 hk with rfl|hk
  ·exact h.1
  ·exact qgu h.2 k hk
theorem qhM : ∀ {L:List Nat},qkt L=true->L.Nodup
 |[],_=>List.nodup_nil
 |k::ks,h=>by
  simp only[qkt,Wq,Bool.not_eq_true',Yz,decide_eq_false_iff_not] at h
  exact Yi.2 ⟨h.1,qhM h.2⟩
theorem qdN : ∀ {L:List Nat} {l:Nat},l∈L->L[idx L l]?=some l
 |k::ks,l,h=>by
  simp only[idx]
  by_cases e:k=l
  ·simp[e]
  ·rw[if_neg e]
   have:l∈ks:=by
    rcases Wp.1 h with rfl|h
    ·exact absurd rfl e
    ·exact h
   simpa using qdN this
theorem qdX : ∀ {L:List Nat} {i l:Nat},L.Nodup->L[i]?=some l->idx L l=i
 |[],i,l,_,h=>by simp at h
 |k::ks,i,l,hn,h=>by
  obtain⟨h1,h2⟩:=Yi.1 hn
  cases i with
  |zero=>simp at h; simp[idx,h]
  |succ i=>
   have h':ks[i]?=some l:=by simpa using h
   have hm:l∈ks:=WK h'
   simp only[idx]
   rw[if_neg (fun e=>h1 (by rw[e]; exact hm)),qdX h2 h']
theorem qhN{σ : S} : ∀ {L:List Nat} {obs:List Ob},qiJ σ L=some obs->obs.length=L.length /\ ∀ (i l:Nat),L[i]?=some l -> ∃ ob,obs[i]?=some ob /\ σ[l]?=some ob
 |[],obs,h=>by simp only[qiJ,We] at h; subst h; simp
 |k::ks,obs,h=>by
  simp only[qiJ] at h
  split at h
  ·rename_i ob obs' h1 h2
   cases h
   obtain⟨h3,h4⟩:=qhN h2
   refine⟨by simp[h3],fun i l hi=>?_⟩
   cases i with
   |zero=>simp at hi; subst hi; exact⟨ob,rfl,h1⟩
   |succ i=>exact h4 i l (by simpa using hi)
  ·cases h
theorem qhO{L:List Nat} : ∀ {obs:List Ob},qku L obs=true -> ∀ ob∈obs,∀ l∈ob.locs,l∈L
 |[],_,ob,hob=>by cases hob
 |o::obs,h,ob,hob=>by
  simp only[qku,Wq] at h
  rcases Wp.1 hob with rfl|hob
  ·exact qgu h.1
  ·exact qhO h.2 ob hob
def Ctx.part(Γ : Ctx)(L:List Nat)(σs:S):Ctx:=⟨σs,fun i=>(L[i]?).bind Γ.μ,Γ.F,Γ.w⟩
theorem qaT {Γ : Ctx} (hr:Real fid Γ) {L:List Nat} {vs vs':List V} {σs:S} (h:qbs L vs Γ.σ = some (vs',σs)) :
  L.Nodup /\ σs.length=L.length/\(∀ l∈L,l < Γ.σ.length)/\Ren (idx L) (· ∈ L) Γ (Γ.part L σs)/\Real fid (Γ.part L σs)/\(∀ xs,Reps fid Γ vs xs->Reps fid (Γ.part L σs) vs' xs):=by
 unfold qbs at h
 split at h
 ·rename_i obs hobs
  split at h
  ·rename_i hcond
   simp only[Wq] at hcond
   obtain⟨h1,h2,h3⟩:=hcond
   cases h
   have hn:=qhM h1
   obtain⟨g1,g2⟩:=qhN hobs
   have hlt : ∀ l∈L,l < Γ.σ.length:=fun l hl=>by
    obtain⟨ob,_,h⟩:=g2 _ l (qdN hl)
    exact (Wc.1 h).1
   have hren:Ren (idx L) (· ∈ L) Γ (Γ.part L (obs.map (Ob.ren (idx L)))):=by
    refine⟨rfl,rfl,fun l hl=>?_,fun l ob hl ho=>?_⟩
    ·simp only[Ctx.part,qdN hl,Option.bind_some]
    ·obtain⟨ob',h4,h5⟩:=g2 _ l (qdN hl)
     rw[ho] at h5; cases h5
     simp only[Ctx.part,Yl,h4,W4]
   have hget : ∀ (i l:Nat) (ob:Ob),L[i]?=some l->(obs.map (Ob.ren (idx L)))[i]?=some ob -> ∃ ob',Γ.σ[l]?=some ob'/\ob'∈obs/\ob=ob'.ren (idx L):=fun i l ob hi ho=>by
    obtain⟨ob',h4,h5⟩:=g2 i l hi
    simp only[Yl,h4,W4,We] at ho
    exact⟨ob',h5,WK h4,ho.symm⟩
   refine⟨hn,by simp[g1],hlt,hren,⟨fun i ob b ho hm=>?_,fun i b hm=>?_,fun i j b hi hj=>?_,hr.imm,hr.glb⟩,fun xs hx=>Reps.ren hren vs xs (qgu h2) hx⟩
   ·simp only[Ctx.part] at hm ho
    cases hl:L[i]? with
    |none=>rw[hl] at hm; cases hm
    |some l=>
     rw[hl] at hm
     obtain⟨ob',k1,k2,rfl⟩:=hget i l ob hl ho
     exact RepOb.ren hren ob' (qhO h3 ob' k2) (hr.obs l ob' b k1 hm)
   ·simp only[Ctx.part] at hm ⊢
    cases hl:L[i]? with
    |none=>rw[hl] at hm; cases hm
    |some l=>
     rw[hl] at hm
     exact⟨by rw[Yd,g1]; exact (Wc.1 hl).1,(hr.dom l b hm).2⟩
   ·simp only[Ctx.part] at hi hj
    cases hl:L[i]? with
    |none=>rw[hl] at hi; cases hi
    |some l=>
     cases hl':L[j]? with
     |none=>rw[hl'] at hj; cases hj
     |some l'=>
      rw[hl] at hi; rw[hl'] at hj
      have:=hr.inj l l' b hi hj
      subst this
      rw[<- qdX hn hl,<- qdX hn hl']
  ·cases h
 ·cases h
theorem qfY : ∀ {L:List Nat} {σ : S} {obs:List Ob},L.Nodup->(∀ l∈L,l < σ.length)->L.length<=obs.length ->
  (qav σ L obs).length = σ.length+(obs.length-L.length)/\(∀ (i l:Nat),L[i]?=some l->(qav σ L obs)[l]?=obs[i]?) /\
  (∀ (l:Nat),l < σ.length->l∉L->(qav σ L obs)[l]? = σ[l]?) /\ ∀ (j:Nat),(qav σ L obs)[σ.length+j]?=obs[L.length+j]?
 |[],σ,obs,_,_,_=>by
  refine⟨by simp[qav],by simp,fun l hl _=>?_,fun j=>?_⟩
  ·simp only[qav]; rw[Wx hl]
  ·simp only[qav]; rw[WO (by omega)]; simp
 |k::ks,σ,[],_,_,h=>by simp at h
 |k::ks,σ,ob::obs,hn,hlt,hle=>by
  obtain⟨h1,h2⟩:=Yi.1 hn
  have hk:=hlt k (by simp)
  obtain⟨g1,g2,g3,g4⟩:=qfY (L:=ks) (σ := σ.set k ob) (obs:=obs) h2 (fun l hl=>by simpa using hlt l (by simp[hl])) (by simpa using hle)
  simp only[List.length_set] at g1 g3 g4
  refine⟨by simp only[qav,g1,Wd]; omega,fun i l hi=>?_,fun l hl hm=>?_,fun j=>?_⟩
  ·cases i with
   |zero=>
    simp at hi; subst hi
    simp only[qav]
    rw[g3 k hk h1]
    simp[hk]
   |succ i=>simp only[qav]; rw[g2 i l (by simpa using hi)]; simp
  ·simp only[qav]
   rw[g3 l hl (fun h=>hm (by simp[h])),Wt (fun e=>hm (by simp[e]))]
  ·simp only[qav]
   rw[g4 j]
   simp only[Wd]
   rw[show ks.length+1+j=(ks.length+j)+1 from by omega]
   simp
theorem qfZ {Γ : Ctx} (hr:Real fid Γ) {L:List Nat} {σs:S} (hn:L.Nodup) (hlt : ∀ l∈L,l < Γ.σ.length) (hren:Ren (idx L) (· ∈ L) Γ (Γ.part L σs)) (hlen : σs.length=L.length)
  {Γs':Ctx} (hr':Real fid Γs') (hst:Step (Γ.part L σs) Γs') :
  ∃ Γ':Ctx,Γ'.σ = qav Γ.σ L (Γs'.σ.map (Ob.ren (back L Γ.σ.length))) /\ Γ'.w = Γs'.w/\Real fid Γ'/\Step Γ Γ' /\ ∀ v x,Rep fid Γs' v x->Rep fid Γ' (v.ren (back L Γ.σ.length)) x:=by
 have hle:L.length <= Γs'.σ.length:=by have:=hst.ext.len; simp only[Ctx.part,hlen] at this; exact this
 obtain⟨g1,g2,g3,g4⟩:=qfY (σ := Γ.σ) (obs := Γs'.σ.map (Ob.ren (back L Γ.σ.length))) hn hlt (by simpa using hle)
 simp only[Yd] at g1
 let Γ':Ctx:=⟨qav Γ.σ L (Γs'.σ.map (Ob.ren (back L Γ.σ.length))),fun l=>if l∈L then Γs'.μ (idx L l) else if l < Γ.σ.length then Γ.μ l else Γs'.μ (L.length+(l - Γ.σ.length)),Γs'.F,Γs'.w⟩
 have hback : ∀ i,i < Γs'.σ.length -> Γ'.μ (back L Γ.σ.length i) = Γs'.μ i /\ Γ'.σ[back L Γ.σ.length i]?=(Γs'.σ[i]?).map (Ob.ren (back L Γ.σ.length)):=fun i hi=>by
  unfold back
  cases hl:L[i]? with
  |some l=>
   have hm:=WK hl
   refine⟨by simp only[Γ',hm,if_true,qdX hn hl],?_⟩
   simp only[Γ']
   rw[g2 i l hl,Yl]
   rfl
  |none=>
   have hi':L.length<=i:=List.getElem?_eq_none_iff.1 hl
   have hnm : ¬ (Γ.σ.length+(i-L.length))∈L:=fun h=>by have:=hlt _ h; omega
   refine⟨?_,?_⟩
   ·simp only[Γ',hnm,if_false]
    rw[if_neg (by omega)]
    congr 1; omega
   ·simp only[Γ']
    rw[g4,Yl,show L.length+(i-L.length)=i from by omega]
    rfl
 have hren':Ren (back L Γ.σ.length) (· < Γs'.σ.length) Γs' Γ':=⟨rfl,rfl,fun i hi=>(hback i hi).1,fun i ob hi ho=>by rw[(hback i hi).2,ho]; rfl⟩
 have hcase : ∀ l,l < Γ'.σ.length->(∃ i,i < Γs'.σ.length/\l=back L Γ.σ.length i)\/(l < Γ.σ.length/\l∉L):=fun l hl=>by
  by_cases hm:l∈L
  ·refine .inl ⟨idx L l,?_,?_⟩
   ·have:=(Wc.1 (qdN hm)).1; omega
   ·simp only[back,qdN hm]
  ·by_cases h:l < Γ.σ.length
   ·exact .inr ⟨h,hm⟩
   ·have h2:l < Γ.σ.length+(Γs'.σ.length-L.length):=by rw[<- g1]; exact hl
    refine .inl ⟨L.length+(l - Γ.σ.length),by omega,?_⟩
    simp only[back]
    rw[W0 (by omega)]
    simp only; omega
 have hold : ∀ l,l < Γ.σ.length->l∉L -> Γ'.μ l = Γ.μ l /\ Γ'.σ[l]? = Γ.σ[l]?:=fun l hl hm=>by
  refine⟨by simp only[Γ',hm,if_false,hl,if_true],g3 l hl hm⟩
 have hpart : ∀ i b,(Γ.part L σs).μ i=some b -> ∃ l,L[i]?=some l /\ Γ.μ l=some b:=fun i b h=>by
  simp only[Ctx.part] at h
  cases hl:L[i]? with
  |none=>rw[hl] at h; cases h
  |some l=>rw[hl] at h; exact⟨l,rfl,h⟩
 have hheap : ∀ l b,l∉L -> Γ.μ l=some b -> Γs'.w.heap[b]? = Γ.w.heap[b]?:=fun l b hm hb=>by
  refine (hst.frm.same b (hr.dom l b hb).2 fun i hi=>?_).1
  obtain⟨l',hl',hm'⟩:=hpart i b hi
  have:=hr.inj l l' b hb hm'
  subst this
  exact hm (WK hl')
 have hext:Ext Γ Γ':=by
  refine⟨hst.ext.size,hst.ext.os,hst.ext.tape,hst.ext.output,hst.ext.mono,hst.ext.cell,hst.ext.arr,by simp only[Γ',g1]; omega,fun l ob ho ht=>?_,fun l m ho=>?_,fun l ob ho ht=>?_⟩
  ·have hl:=(Wc.1 ho).1
   by_cases hm:l∈L
   ·have h1:=hren.σ l ob hm ho
    obtain⟨⟨ob',h2,h3⟩,h4⟩:=hst.ext.fix (idx L l) _ h1 (by rw[Ob.isTip_ren]; exact ht)
    have hi:=(Wc.1 h2).1
    have hb:back L Γ.σ.length (idx L l)=l:=by simp only[back,qdN hm]
    obtain⟨k1,k2⟩:=hback _ hi
    rw[hb] at k1 k2
    refine⟨⟨ob'.ren (back L Γ.σ.length),by rw[k2,h2]; rfl,by rw[Ob.isTip_ren]; exact h3⟩,fun b hb'=>?_⟩
    rw[k1]
    exact h4 b (by rw[hren.μ l hm]; exact hb')
   ·obtain⟨k1,k2⟩:=hold l hl hm
    exact⟨⟨ob,by rw[k2]; exact ho,ht⟩,fun b hb=>by rw[k1]; exact hb⟩
  ·have hl:=(Wc.1 ho).1
   by_cases hm:l∈L
   ·have h1:=hren.σ l _ hm ho
    obtain⟨m',h2,h3,h4,h5⟩:=hst.ext.tip (idx L l) m h1
    have hi:=(Wc.1 h2).1
    have hb:back L Γ.σ.length (idx L l)=l:=by simp only[back,qdN hm]
    obtain⟨k1,k2⟩:=hback _ hi
    rw[hb] at k1 k2
    refine⟨m',by rw[k2,h2]; rfl,h3,fun hs=>?_,fun e b hb'=>?_⟩
    ·rw[k1]; exact h4 (by rw[hren.μ l hm]; exact hs)
    ·rw[k1]; exact h5 e b (by rw[hren.μ l hm]; exact hb')
   ·obtain⟨k1,k2⟩:=hold l hl hm
    exact⟨m,by rw[k2]; exact ho,Wi _,fun hs=>by rw[k1]; exact hs,fun _ b hb=>by rw[k1]; exact hb⟩
  ·have hl:=(Wc.1 ho).1
   by_cases hm:l∈L
   ·have h1:=hren.σ l ob hm ho
    obtain⟨ob',h2,h3,h4⟩:=hst.ext.row (idx L l) _ h1 (by rw[Ob.isTip_ren]; exact ht)
    have hi:=(Wc.1 h2).1
    have hb:back L Γ.σ.length (idx L l)=l:=by simp only[back,qdN hm]
    obtain⟨k1,k2⟩:=hback _ hi
    rw[hb] at k1 k2
    refine⟨ob'.ren (back L Γ.σ.length),by rw[k2,h2]; rfl,by rw[Ob.isTip_ren]; exact h3,fun cs' hc=>?_⟩
    rw[Ob.rows_ren,Wf] at hc
    obtain⟨cs1,hc,rfl⟩:=hc
    obtain⟨cs,c1,c2,c3⟩:=h4 cs1 hc
    rw[Ob.rows_ren,Wf] at c1
    obtain⟨cs0,c1,rfl⟩:=c1
    rw[qbF] at c2 c3
    refine⟨cs0,c1,by rw[qbF]; exact c2,fun e b hb'=>?_⟩
    rw[qbF] at e
    obtain⟨e1,e2⟩:=c3 e b (by rw[hren.μ l hm]; exact hb')
    exact⟨by rw[k1]; exact e1,e2⟩
   ·obtain⟨k1,k2⟩:=hold l hl hm
    exact⟨ob,by rw[k2]; exact ho,ht,fun cs hc=>⟨cs,hc,Wi _,fun _ b hb=>⟨by rw[k1]; exact hb,fun arr e ha=>⟨arr,by show Γs'.w.heap[b]?=_; rw[hheap l b hm hb]; exact ha,rfl⟩⟩⟩⟩
 have hsep : ∀ i l b,Γs'.μ i=some b->l < Γ.σ.length->l∉L -> Γ.μ l=some b->False:=fun i l b h1 h2 h3 h4=>by
  obtain⟨j,hj⟩:=hst.frm.new i b h1 (hr.dom l b h4).2
  obtain⟨l',hl',hm'⟩:=hpart j b hj
  have:=hr.inj l l' b h4 hm'
  subst this
  exact h3 (WK hl')
 refine⟨Γ',rfl,rfl,⟨fun l ob b ho hm=>?_,fun l b hm=>?_,fun l l' b hm hm'=>?_,hr'.imm,hr'.glb⟩,⟨hext,⟨fun b hb hno=>?_,fun l b hm hb=>?_⟩,fun l hl hnone=>?_⟩,fun v x hx=>Rep.ren hren' v x (Rep.lt v x hx) hx⟩
 ·have hl:=(Wc.1 ho).1
  rcases hcase l hl with ⟨i,hi,rfl⟩|⟨h1,h2⟩
  ·obtain⟨k1,k2⟩:=hback i hi
   rw[k1] at hm
   rw[k2] at ho
   cases hs : Γs'.σ[i]? with
   |none=>rw[hs] at ho; cases ho
   |some ob'=>
    rw[hs] at ho
    simp only[W4,We] at ho
    subst ho
    have:=hr'.obs i ob' b hs hm
    exact RepOb.ren hren' ob' (RepOb.lt ob' this) this
  ·obtain⟨k1,k2⟩:=hold l h1 h2
   rw[k1] at hm
   rw[k2] at ho
   have hb:=(hr.dom l b hm).2
   obtain⟨s1,s2⟩:=hst.frm.same b hb (fun i hi=>by
    obtain⟨l',hl',hm'⟩:=hpart i b hi
    have:=hr.inj l l' b hm hm'
    subst this
    exact h2 (WK hl'))
   exact RepOb.ext hext s1 s2 ob (hr.obs l ob b ho hm)
 ·by_cases hl:l < Γ'.σ.length
  ·rcases hcase l hl with ⟨i,hi,rfl⟩|⟨h1,h2⟩
   ·rw[(hback i hi).1] at hm
    exact⟨hl,(hr'.dom i b hm).2⟩
   ·rw[(hold l h1 h2).1] at hm
    exact⟨hl,WV (hr.dom l b hm).2 hst.ext.size⟩
  ·exfalso
   simp only[Γ'] at hm
   have hlen' : Γ'.σ.length = Γ.σ.length+(Γs'.σ.length-L.length):=g1
   have h1 : ¬ l∈L:=fun h=>by have:=hlt l h; omega
   rw[if_neg h1,if_neg (by omega)] at hm
   have:=(hr'.dom _ b hm).1
   omega
 ·have bound : ∀ l b,Γ'.μ l=some b->(∃ i,i < Γs'.σ.length/\l=back L Γ.σ.length i /\ Γs'.μ i=some b)\/(l < Γ.σ.length/\l∉L /\ Γ.μ l=some b):=fun l b hm=>by
   by_cases hl:l < Γ'.σ.length
   ·rcases hcase l hl with ⟨i,hi,rfl⟩|⟨h1,h2⟩
    ·rw[(hback i hi).1] at hm; exact .inl ⟨i,hi,rfl,hm⟩
    ·rw[(hold l h1 h2).1] at hm; exact .inr ⟨h1,h2,hm⟩
   ·exfalso
    simp only[Γ'] at hm
    have hlen' : Γ'.σ.length = Γ.σ.length+(Γs'.σ.length-L.length):=g1
    have h1 : ¬ l∈L:=fun h=>by have:=hlt l h; omega
    rw[if_neg h1,if_neg (by omega)] at hm
    have:=(hr'.dom _ b hm).1
    omega
  rcases bound l b hm with ⟨i,hi,rfl,h1⟩|⟨h1,h2,h3⟩<;>rcases bound l' b hm' with ⟨j,hj,rfl,k1⟩|⟨k1,k2,k3⟩
  ·rw[hr'.inj i j b h1 k1]
  ·exact (hsep i l' b h1 k1 k2 k3).elim
  ·exact (hsep j l b k1 h1 h2 h3).elim
  ·exact hr.inj l l' b h3 k3
 ·exact hst.frm.same b hb (fun i hi=>by
   obtain⟨l,_,hm⟩:=hpart i b hi
   exact hno l hm)
 ·by_cases hl:l < Γ'.σ.length
  ·rcases hcase l hl with ⟨i,hi,rfl⟩|⟨h1,h2⟩
   ·rw[(hback i hi).1] at hm
    obtain⟨j,hj⟩:=hst.frm.new i b hm hb
    obtain⟨l',_,hm'⟩:=hpart j b hj
    exact⟨l',hm'⟩
   ·rw[(hold l h1 h2).1] at hm; exact⟨l,hm⟩
  ·exfalso
   simp only[Γ'] at hm
   have hlen' : Γ'.σ.length = Γ.σ.length+(Γs'.σ.length-L.length):=g1
   have h1 : ¬ l∈L:=fun h=>by have:=hlt l h; omega
   rw[if_neg h1,if_neg (by omega)] at hm
   have:=(hr'.dom _ b hm).1
   omega
 ·by_cases hm:l∈L
  ·have hi:=(Wc.1 (qdN hm)).1
   have:=hst.non (idx L l) (by simp only[Ctx.part,hlen]; exact hi) (by rw[hren.μ l hm]; exact hnone)
   simp only[Γ',hm,if_true,this]
  ·rw[(hold l hl hm).1]; exact hnone
end
section
variable{P:Program}{ids:Ids}{fid:Fid}{N:Nat}
theorem qdT{Γ0 Γ1:Ctx}(h:Step Γ0 Γ1){L:List Nat}{σs:S}(hn:L.Nodup)(hlen : σs.length=L.length)(hren:Ren (idx L) (· ∈ L) Γ1 (Γ1.part L σs))(hpre : ∀ i,i < Γ0.σ.length->L[i]?=some i):Step Γ0 (Γ1.part L σs):=by
 have hμ : ∀ l,l < Γ0.σ.length->(Γ1.part L σs).μ l = Γ1.μ l:=fun l hl=>by simp only[Ctx.part,hpre l hl,Option.bind_some]
 have hσ : ∀ l ob,l < Γ0.σ.length -> Γ1.σ[l]?=some ob->(Γ1.part L σs).σ[l]?=some (ob.ren (idx L)):=fun l ob hl ho=>by
  have hm:=WK (hpre l hl)
  have:=hren.σ l ob hm ho
  rw[qdX hn (hpre l hl)] at this
  exact this
 refine⟨⟨h.ext.size,h.ext.os,h.ext.tape,h.ext.output,h.ext.mono,h.ext.cell,h.ext.arr,?_,fun l ob ho ht=>?_,fun l m ho=>?_,fun l ob ho ht=>?_⟩,⟨h.frm.same,fun i b hi hb=>?_⟩,fun l hl hnn=>by rw[hμ l hl]; exact h.non l hl hnn⟩
 ·simp only[Ctx.part,hlen]
  rcases YD Γ0.σ.length with h0|h0
  ·omega
  ·have:=(Wc.1 (hpre (Γ0.σ.length-1) (by omega))).1
   omega
 ·have hl:=(Wc.1 ho).1
  obtain⟨⟨ob',h1,h2⟩,h3⟩:=h.ext.fix l ob ho ht
  exact⟨⟨_,hσ l ob' hl h1,by rw[Ob.isTip_ren]; exact h2⟩,fun b hb=>by rw[hμ l hl]; exact h3 b hb⟩
 ·have hl:=(Wc.1 ho).1
  obtain⟨m',h1,h2,h3,h4⟩:=h.ext.tip l m ho
  exact⟨m',hσ l _ hl h1,h2,fun hs=>by rw[hμ l hl]; exact h3 hs,fun e b hb=>by rw[hμ l hl]; exact h4 e b hb⟩
 ·have hl:=(Wc.1 ho).1
  obtain⟨ob',h1,h2,h3⟩:=h.ext.row l ob ho ht
  refine⟨_,hσ l ob' hl h1,by rw[Ob.isTip_ren]; exact h2,fun cs' hc=>?_⟩
  rw[Ob.rows_ren,Wf] at hc
  obtain⟨cs1,hc,rfl⟩:=hc
  obtain⟨cs,c1,c2,c3⟩:=h3 cs1 hc
  rw[qbF]
  exact⟨cs,c1,c2,fun e b hb=>⟨by rw[hμ l hl]; exact (c3 e b hb).1,(c3 e b hb).2⟩⟩
 ·simp only[Ctx.part] at hi
  cases hl:L[i]? with
  |none=>rw[hl] at hi; cases hi
  |some l=>rw[hl] at hi; exact h.frm.new l b hi hb
theorem qgj(k:Nat)(ls:List Nat)(σ : S) : ∀ i,i<k->(gcL k ls σ)[i]?=some i:=fun i hi=>by
 unfold gcL
 rw[Wx (by simpa using hi)]
 simp[hi]
theorem qn8 {Γ0 Γ : Ctx} (hr:Real fid Γ) (hs:Step Γ0 Γ) {L:List Nat} {σs:S} (hrp:Real fid (Γ.part L σs)) (hsp:Step Γ0 (Γ.part L σs)) : ∀ ls:List Nat,(∀ l∈ls,l∉L /\ ∃ b arr e,Γ.μ l=some b /\ Γ.w.heap[b]?=some (.cells arr e (0,0))) ->
  ∃ F':Nat->Nat,Real fid ⟨σs,(Γ.part L σs).μ,F',Γ.w⟩/\Ext (Γ.part L σs) ⟨σs,(Γ.part L σs).μ,F',Γ.w⟩/\Step Γ0 ⟨σs,(Γ.part L σs).μ,F',Γ.w⟩ /\
   ∀ l∈ls,∀ b arr e,Γ.μ l=some b -> Γ.w.heap[b]?=some (.cells arr e (0,0))->arr.size<=F' b
 |[],_=>⟨Γ.F,hrp,.refl _,hsp,fun l h=>by cases h⟩
 |l::ls,h=>by
  obtain⟨F',h1,h2,h3,h4⟩:=qn8 hr hs hrp hsp ls fun l' hl'=>h l' (Wz _ hl')
  obtain⟨hL,b,arr,e,hm,ha⟩:=h l (by simp)
  have hno : ∀ i,(Γ.part L σs).μ i≠some b:=fun i hi=>by
   simp only[Ctx.part] at hi
   cases hl':L[i]? with
   |none=>rw[hl'] at hi; cases hi
   |some l'=>
    rw[hl'] at hi
    have:=hr.inj _ _ _ hi hm
    subst this
    exact hL (WK hl')
  have hF:F' b<=arr.size:=by
   rcases YD (F' b) with h0|h0
   ·omega
   ·obtain⟨arr',e',fz,g1,g2⟩:=h1.imm b h0
    simp only at g1
    rw[ha] at g1; cases g1
    exact g2
  obtain⟨k1,k2,k3⟩:=qoR h1 (b:=b) (n:=arr.size) hF hno ha (Wi _)
  refine⟨_,k1,h2.trans k2,k3 Γ0 h3 fun hb=>hs.frm.new l b hm hb,fun l' hl' b' arr' e' hm' ha'=>?_⟩
  simp only[grow]
  split
  ·rename_i eq
   subst eq
   rw[ha] at ha'; cases ha'; exact Wi _
  ·rename_i hne
   rcases Wp.1 hl' with rfl|hl'
   ·rw[hm] at hm'; cases hm'; exact absurd rfl hne
   ·exact h4 l' hl' b' arr' e' hm' ha'
section
variable{Γ : Ctx}
theorem qht(hr:Real fid Γ){k:Nat}{v:V}{x:Value}(h:Rep fid Γ v x) : ∀ l∈(outV k Γ.σ v).2,∃ b arr e,Γ.μ l=some b /\ Γ.w.heap[b]?=some (.cells arr e (0,0)):=by
 intro l hl
 unfold outV at hl
 split at hl
 ·rename_i l0 n sz
  simp only[Rep] at h
  obtain⟨ad,cap,hs,g2,g0,g3,g4⟩:=h
  split at hl
  ·split at hl
   ·rename_i cs hcs
    split at hl
    ·rename_i hlen
     split at hl
     ·simp only[Wk] at hl; subst hl
      obtain⟨b,arr,e',q1,rfl,q2,q3⟩:=(g4 _ _ hcs rfl).2 hlen
      exact⟨b,arr,e',q1,q2⟩
     ·cases hl
    ·cases hl
   ·split at hl<;>cases hl
   ·cases hl
  ·cases hl
 ·rename_i l0 o n cap sz
  simp only[Rep] at h
  obtain⟨b,hm,hx,_⟩:=h
  split at hl
  ·split at hl
   ·rename_i cs hcs
    split at hl
    ·split at hl
     ·simp only[Wk] at hl; subst hl
      obtain⟨_,arr,e,g2,_⟩:=hr.obs l _ b hcs hm
      exact⟨b,arr,e,hm,g2⟩
     ·cases hl
    ·cases hl
   ·cases hl
  ·cases hl
 ·cases hl
 ·cases hl
theorem ql6 (hr:Real fid Γ) {k:Nat} {v:V} {x:Value} (h:Rep fid Γ v x) {r:Nat->Nat} {L:Nat->Prop} {Γp Γq:Ctx} (hren:Ren r L Γ Γp) (hpq:Ext Γp Γq) (hw : Γq.w = Γ.w) (hL : ∀ l∈((outV k Γ.σ v).1).locs,L l)
  (hF : ∀ l∈(outV k Γ.σ v).2,∀ b arr e,Γ.μ l=some b -> Γ.w.heap[b]?=some (.cells arr e (0,0))->arr.size <= Γq.F b):Rep fid Γq (((outV k Γ.σ v).1).ren r) x:=by
 have same : ∀ u:V,(∀ l∈u.locs,L l)->Rep fid Γ u x->Rep fid Γq (u.ren r) x:=fun u hl hu=>Rep.ext hpq _ _ (Rep.ren hren u x hl hu)
 have hDD : ∀ {ds:List D} {vs:List Value},RepDs Γ.F Γ.w ds vs->RepDs Γq.F Γq.w ds vs:=fun hd=>by
  have:=RepDs.ext hpq _ _ (by rw[hren.F,hren.w]; exact hd)
  exact this
 unfold outV at hL hF ⊢
 split
 ·rename_i l0 n sz
  split
  ·rename_i hk
   split
   ·rename_i cs hcs
    split
    ·rename_i hlen
     split
     ·rename_i ds hds
      simp only[hk,if_true,hcs,hlen,hds] at hF
      have hcd:=qdx hds
      simp only[Rep] at h
      obtain⟨ad,cap,hs,g2,g0,g3,g4⟩:=h
      obtain⟨b,arr,e',q1,rfl,q2,q3⟩:=(g4 _ _ hcs rfl).2 hlen
      obtain⟨olds,arr',e2,k1,k2,k3,k4,k5,k6,k7⟩:=qeL hr hcs q1
      rw[q2] at k1; cases k1
      have hD:RepDs Γ.F Γ.w ds olds:=by rw[hcd] at k4; exact Reps_dat.1 k4
      simp only[V.ren,Rep,RepD]
      refine⟨b,0,cap,olds,hs,g2,by simp,hDD hD,fun j v hj=>?_,fun _=>?_,k5⟩
      ·rw[WJ,hw]; exact k7 j v hj
      ·have:=hF l0 (by simp) b arr e' q1 q2
       have hl:=hD.length
       have:ds.length=cs.length:=by rw[hcd]; simp
       omega
     ·simp only[hk,if_true,hcs,hlen] at hL
      rename_i hno
      simp only[hno] at hL
      exact same _ hL h
    ·rename_i hlen
     simp only[hk,if_true,hcs,hlen,if_false] at hL
     exact same _ hL h
   ·rename_i ds hds
    split
    ·rename_i hlen
     simp only[Rep] at h
     obtain⟨ad,cap,hs,g2,g0,g3,g4⟩:=h
     obtain⟨b,arr,e',q1,rfl,q2,q3⟩:=(g4 _ _ hds rfl).2 (by simpa using hlen)
     obtain⟨vs,k1,k2⟩:=qhh hr hds q1
     have hgo:Rep fid Γ (.dat (.sl ds n false)) x:=by
      simp only[Rep,RepD]
      exact⟨b,0,cap,vs,hs,g2,by simp,k1,k2⟩
     exact same _ (by simp[V.locs]) hgo
    ·rename_i hlen
     simp only[hk,if_true,hds,hlen,if_false] at hL
     exact same _ hL h
   ·rename_i hne1 hne2
    have:((match Γ.σ[l0]? with
  |some (.vec cs)=>if cs.length=n*sz then (match qbC cs with
   |some ds=>((V.dat (.sl ds n false)),[l0])
   |none=>(.own l0 n sz,[])) else (.own l0 n sz,[])
  |some (.froz ds)=>if ds.length=n*sz then (.dat (.sl ds n false),[]) else (.own l0 n sz,[])
  | _=>(.own l0 n sz,[])).1:V) = .own l0 n sz:=by
     split
     ·rename_i h'; exact absurd h' (hne1 _)
     ·rename_i h'; exact absurd h' (hne2 _)
     ·rfl
    simp only[hk,if_true,this] at hL
    exact same _ hL h
  ·rename_i hk
   simp only[hk,if_false] at hL
   exact same _ hL h
 ·rename_i l0 o n cap sz
  split
  ·rename_i hk
   split
   ·rename_i cs hcs
    split
    ·rename_i ds hds
     split
     ·rename_i hcond
      simp only[hk,if_true,hcs,hds,hcond,and_self] at hF
      have hcd:=qdx hds
      simp only[Rep] at h
      obtain⟨b,hm,hs,g2,g3⟩:=h
      obtain⟨_,arr,e,k1,k2⟩:=hr.obs l0 _ b hcs hm
      have hD:RepDs Γ.F Γ.w ds arr.toList:=by rw[hcd] at k2; exact Reps_dat.1 k2
      have hal:arr.size=ds.length:=by have:=hD.length; simpa using this
      simp only[V.ren,Rep,RepD]
      refine⟨b,o,cap,(arr.toList.drop o).take (n*sz),hs,g2,by simp,hDD (qgD (qgC hD o) _),fun j v hj=>?_,fun _=>?_,fun v hv=>?_⟩
      ·rw[hw]
       simp only[World.cell?,k1]
       rw[WS] at hj
       split at hj
       ·rw[YE] at hj
        simpa using hj
       ·cases hj
      ·have:=hF l0 (by simp) b arr e hm k1
       simp only[WL,W5,WA]
       omega
      ·have hv':v∈arr.toList:=List.mem_of_mem_drop (Yj hv)
       refine qda (fid:=fid) (Γ := Γ) (vs:=ds.map .dat) (by rw[<- hcd]; exact k2) ?_ v hv'
       rw[Wy]
       intro u hu
       obtain⟨d,hd,rfl⟩:=Ye.1 hu
       exact Wy.1 hcond.2 d hd
     ·rename_i hcond
      simp only[hk,if_true,hcs,hds,hcond,if_false] at hL
      exact same _ hL h
    ·rename_i hds
     simp only[hk,if_true,hcs,hds] at hL
     exact same _ hL h
   ·rename_i hne
    have:((match Γ.σ[l0]? with
  |some (.cells cs)=>match qbC cs with
   |some ds=>if o+n*sz<=ds.length/\(ds.all fun d=>V.one (.dat d))=true then ((V.dat (.sl ((ds.drop o).take (n*sz)) n false)),[l0]) else (.msl l0 o n cap sz,[])
   |none=>(.msl l0 o n cap sz,[])
  | _=>(.msl l0 o n cap sz,[])).1:V) = .msl l0 o n cap sz:=by
     split
     ·rename_i h'; exact absurd h' (hne _)
     ·rfl
    simp only[hk,if_true,this] at hL
    exact same _ hL h
  ·rename_i hk
   simp only[hk,if_false] at hL
   exact same _ hL h
 ·refine same _ (by simp[V.locs]) ?_
  simp only[Rep,RepD] at h ⊢
  obtain⟨b,cap,vs,m,h1,h2,h3,h4,_⟩:=h
  exact⟨b,0,cap,vs,h1,h2,by simp,h3,h4⟩
 ·rename_i h1 h2 h3
  exact same _ (by simpa using hL) h
theorem qhu(hr:Real fid Γ){k:Nat} : ∀ {vs:List V} {xs:List Value},Reps fid Γ vs xs -> ∀ l∈(qmk k Γ.σ vs).2,∃ b arr e,Γ.μ l=some b /\ Γ.w.heap[b]?=some (.cells arr e (0,0))
 |[],xs,h,l,hl=>by simp[qmk] at hl
 |v::vs,xs,h,l,hl=>by
  simp only[Reps] at h
  obtain⟨y,ys,rfl,h1,h2⟩:=h
  simp only[qmk,Wl] at hl
  rcases hl with hl|hl
  ·exact qht hr h1 l hl
  ·exact qhu hr h2 l hl
theorem qlm(hr:Real fid Γ){k:Nat}{v:V}{x:Value}(h:Rep fid Γ v x) : ∀ l∈(qp7 k Γ.σ v).2,∃ b arr e,Γ.μ l=some b /\ Γ.w.heap[b]?=some (.cells arr e (0,0)):=by
 unfold qp7
 split
 ·simp only[Rep] at h
  obtain⟨vs,rfl,h⟩:=h
  exact qhu hr h
 ·exact qht hr h
theorem qgM(hr:Real fid Γ){k:Nat} : ∀ {vs:List V} {xs:List Value},Reps fid Γ vs xs -> ∀ l∈(qdV k Γ.σ vs).2,∃ b arr e,Γ.μ l=some b /\ Γ.w.heap[b]?=some (.cells arr e (0,0))
 |[],xs,h,l,hl=>by simp[qdV] at hl
 |v::vs,xs,h,l,hl=>by
  simp only[Reps] at h
  obtain⟨y,ys,rfl,h1,h2⟩:=h
  simp only[qdV,Wl] at hl
  rcases hl with hl|hl
  ·exact qlm hr h1 l hl
  ·exact qgM hr h2 l hl
section
variable{r:Nat->Nat}{L:Nat->Prop}{Γp Γq:Ctx}(hr:Real fid Γ)(hren:Ren r L Γ Γp)(hpq:Ext Γp Γq)(hw : Γq.w = Γ.w)
include hr hren hpq hw
theorem ql7 {k:Nat} : ∀ {vs:List V} {xs:List Value},Reps fid Γ vs xs->(∀ l∈qaz (qmk k Γ.σ vs).1,L l) ->
  (∀ l∈(qmk k Γ.σ vs).2,∀ b arr e,Γ.μ l=some b -> Γ.w.heap[b]?=some (.cells arr e (0,0))->arr.size <= Γq.F b)->Reps fid Γq (qd6 r (qmk k Γ.σ vs).1) xs
 |[],xs,h,_,_=>by simpa only [qmk,qd6,Reps] using h
 |v::vs,xs,h,hL,hF=>by
  simp only[Reps] at h
  obtain⟨y,ys,rfl,h1,h2⟩:=h
  simp only[qmk,qaz,Wl] at hL hF
  simp only[qmk,qd6,Reps]
  exact⟨_,_,rfl,ql6 hr h1 hren hpq hw (fun l hl=>hL l (.inl hl)) (fun l hl=>hF l (.inl hl)),ql7 h2 (fun l hl=>hL l (.inr hl)) (fun l hl=>hF l (.inr hl))⟩
theorem qqd {k:Nat} {v:V} {x:Value} (h:Rep fid Γ v x) (hL : ∀ l∈((qp7 k Γ.σ v).1).locs,L l)
  (hF : ∀ l∈(qp7 k Γ.σ v).2,∀ b arr e,Γ.μ l=some b -> Γ.w.heap[b]?=some (.cells arr e (0,0))->arr.size <= Γq.F b):Rep fid Γq (((qp7 k Γ.σ v).1).ren r) x:=by
 have agg : ∀ us:List V,(qfM us).ren r=qfM (qd6 r us)/\(qfM us).locs=qaz us:=fun us=>by
  unfold qfM
  cases hd:qbC us with
  |some ds=>
   have:=qdx hd
   subst this
   have e : ∀ ds:List D,qbC (ds.map .dat)=some ds:=fun ds=>by induction ds with
    |nil=>rfl
    |cons d ds ih=>simp[qbC,ih]
   have e2 : ∀ ds:List D,qaz (ds.map .dat)=[]:=fun ds=>by induction ds with
    |nil=>rfl
    |cons d ds ih=>simp[qaz,V.locs,ih]
   rw[qjE,e,e2]
   simp[V.ren,V.locs]
  |none=>
   have:qbC (qd6 r us)=none:=by
    revert hd
    induction us with
    |nil=>simp[qbC]
    |cons u us ih=>
     intro hd
     cases u<;>simp only[qd6,V.ren,qbC] at hd ⊢
     split at hd
     ·cases hd
     ·rename_i hn; rw[ih hn]
   rw[this]
   simp[V.ren,V.locs]
 cases v with
 |agg cs=>
  simp only[qp7] at hL hF ⊢
  simp only[Rep] at h
  obtain⟨vs,rfl,h⟩:=h
  simp only[(agg _).2] at hL
  rw[(agg _).1]
  exact qd2 (ql7 hr hren hpq hw h hL hF)
 |_=>
  simp only[qp7] at hL hF ⊢
  exact ql6 hr h hren hpq hw hL hF
theorem qke {k:Nat} : ∀ {vs:List V} {xs:List Value},Reps fid Γ vs xs->(∀ l∈qaz (qdV k Γ.σ vs).1,L l) ->
  (∀ l∈(qdV k Γ.σ vs).2,∀ b arr e,Γ.μ l=some b -> Γ.w.heap[b]?=some (.cells arr e (0,0))->arr.size <= Γq.F b)->Reps fid Γq (qd6 r (qdV k Γ.σ vs).1) xs
 |[],xs,h,_,_=>by simpa only [qdV,qd6,Reps] using h
 |v::vs,xs,h,hL,hF=>by
  simp only[Reps] at h
  obtain⟨y,ys,rfl,h1,h2⟩:=h
  simp only[qdV,qaz,Wl] at hL hF
  simp only[qdV,qd6,Reps]
  exact⟨_,_,rfl,qqd hr hren hpq hw h1 (fun l hl=>hL l (.inl hl)) (fun l hl=>hF l (.inl hl)),qke h2 (fun l hl=>hL l (.inr hl)) (fun l hl=>hF l (.inr hl))⟩
end
end
theorem qn9 {Γ0 Γ : Ctx} (hr:Real fid Γ) (hs:Step Γ0 Γ) {k:Nat} {vs0 vs':List V} {ys:List Value} {L:List Nat} {σs:S} (hx:Reps fid Γ vs0 ys) (hres:qbs L (qdV k Γ.σ vs0).1 Γ.σ = some (vs',σs))
  (hno : ∀ l∈(qdV k Γ.σ vs0).2,l∉L) (hpre : ∀ i,i < Γ0.σ.length->L[i]?=some i) : ∃ Γ':Ctx,Γ'.σ = σs /\ Γ'.w = Γ.w/\Real fid Γ'/\Step Γ0 Γ'/\Reps fid Γ' vs' ys:=by
 obtain⟨t1,t2,t3,t4,t5,t6⟩:=qaT hr hres
 have hsp:=qdT hs t1 t2 t4 hpre
 obtain⟨F',a1,a2,a3,a4⟩:=qn8 hr hs t5 hsp (qdV k Γ.σ vs0).2 fun l hl=>⟨hno l hl,qgM hr hx l hl⟩
 refine⟨⟨σs,(Γ.part L σs).μ,F',Γ.w⟩,rfl,rfl,a1,a3,?_⟩
 have hv:vs'=qd6 (idx L) (qdV k Γ.σ vs0).1 /\ ∀ l∈qaz (qdV k Γ.σ vs0).1,l∈L:=by
  unfold qbs at hres
  split at hres
  ·split at hres
   ·rename_i hc
    cases hres
    simp only[Wq] at hc
    exact⟨rfl,qgu hc.2.1⟩
   ·cases hres
  ·cases hres
 rw[hv.1]
 exact qke hr t4 a2 rfl hx hv.2 a4
end
section
variable{P:Program}{ids:Ids}{fid:Fid}{N:Nat}
abbrev FR(ro:Option Nat):Fence:={ Fence.wide with round:=ro }
def qgN(P:Program)(f:FuncId):Prop := ∃ fn,P.funcs[f]?=some fn/\(fn.name == "runtime.NumGoroutine")=false/\fn.body.isSome=true
def qvB(fid:Fid)(Γ':Ctx)(v:V)(e:Ending):Prop:=
 (∃ x,e = .returned x/\Rep fid Γ' v x) \/ ∃ u x,v = .pan u/\e = .panicked [{ v:=x,recovered:=false }]/\Rep fid Γ' u x
def qlq(P:Program)(fid:Fid)(f:Nat)(args:List V)(σ : S)(v:V)(σ':S):Prop:=
 qgN P (fid f) /\ ∀ (Γ : Ctx) (xs:List Value),Γ.σ = σ -> Real fid Γ -> Reps fid Γ args xs ->
  CallsIn Fence.wide 0 P (fid f) xs.toArray Γ.w fun e w' => ∃ Γ',Γ'.w=w' /\ Γ'.σ = σ'/\Real fid Γ'/\Step Γ Γ'/\qvB fid Γ' v e
def qvi(P:Program)(fid:Fid)(f:Nat)(args:List V)(σ : S)(σ':S):Prop:=
 qgN P (fid f) /\ ∀ (Γ : Ctx) (pv:V) (as:List V) (px:Value) (ys:List Value) (u:FrameMode),args=pv::as -> Γ.σ = σ -> Real fid Γ -> Rep fid Γ pv px->Reps fid Γ as ys ->
  (pv.isNilIf=true->u = .returning)->(pv.isNilIf=false->u = .panicking [{ v:=px,recovered:=false }]) ->
  CallsDIn Fence.wide 0 P (fid f) ys.toArray u Γ.w fun e u' w' => ∃ Γ' y,e = .returned y /\ Γ'.w=w' /\ Γ'.σ = σ'/\Real fid Γ'/\Step Γ Γ'/\settle u' = .returning
def qjo(P:Program)(fid:Fid)(args:List V)(σ : S)(v:V)(σ':S):Prop:=
 ∀ (Γ : Ctx) (xs:List Value),Γ.σ = σ -> Real fid Γ -> Reps fid Γ args xs -> ∃ l b ys fn tmps as bd,args.head?=some (.yld l)/\xs = .func (.yield b) #[] #[]::ys /\
  (Instr.yield b ys.toArray).run P Γ.w = .ok (.round b fn tmps as bd) Γ.w /\
  RoundIn Fence.wide 0 P b fn tmps as bd Γ.w fun e w' => ∃ Γ' x,e = .returned x /\ Γ'.w=w' /\ Γ'.σ = σ'/\Real fid Γ'/\Step Γ Γ'/\Rep fid Γ' v x
structure CSound(P:Program)(fid:Fid)(C:Task->Option Res):Prop where
 call : ∀ f args σ v σ',C (.call f args σ)=some (.ret v σ')->qlq P fid f args σ v σ'
 dcall : ∀ f args σ v σ',C (.dcall f args σ)=some (.ret v σ')->qvi P fid f args σ σ'
 round : ∀ args σ v σ',C (.round args σ)=some (.ret v σ')->qjo P fid args σ v σ'
theorem qfI{Γ : Ctx}{a b:List V}{xs ys:List Value}(ha:Reps fid Γ a xs)(hb:Reps fid Γ b ys):Reps fid Γ (a++b) (xs++ys):=Reps_append.2 ⟨_,_,rfl,ha,hb⟩
theorem qvC{Γ : Ctx}{v:V}{x:Value}(h:Rep fid Γ v x):Rep fid Γ v.sealv x:=by
 unfold V.sealv
 split
 ·simp only[Rep,RepD] at h ⊢
  obtain⟨b,cap,vs,m,h1,h2,h3,h4,_⟩:=h
  exact⟨b,0,cap,vs,h1,h2,by simp,h3,h4⟩
 ·exact h
theorem qse{Γ : Ctx} : ∀ {vs:List V} {xs:List Value},Reps fid Γ vs xs->Reps fid Γ (qnr vs) xs
 |[],xs,h=>by simpa only [qnr,Reps] using h
 |v::vs,xs,h=>by
  simp only[qnr,Reps] at h ⊢
  obtain⟨y,ys,h1,h2,h3⟩:=h
  exact⟨y,ys,h1,qvC h2,qse h3⟩
theorem qvD{Γ : Ctx}{v:V}{x:Value}(h:Rep fid Γ v x):Rep fid Γ v.sealT x:=by
 unfold V.sealT
 split
 ·simp only[Rep] at h
  obtain⟨vs,rfl,h⟩:=h
  exact qd2 (qse h)
 ·exact qvC h
theorem qoe{Γ : Ctx} : ∀ {vs:List V} {xs:List Value},Reps fid Γ vs xs->Reps fid Γ (qiI vs) xs
 |[],xs,h=>by simpa only [qiI,Reps] using h
 |v::vs,xs,h=>by
  simp only[qiI,Reps] at h ⊢
  obtain⟨y,ys,h1,h2,h3⟩:=h
  exact⟨y,ys,h1,qvD h2,qoe h3⟩
theorem qii {t e:TypeId} {i:TypeInfo} {name:String} {m:Method} {f:FuncId} (hi:P.info? t=some i) (hm:i.methods.find? (·.name==name)=some m) (hp:m.path = #[]) (hf:m.func=some (f,true)) (hu:P.underlying t=some (.pointer e)) (n:Nat) (v:Value) (w:World) :
  (method (n+1) t v name).run P w = .ok (f,v) w:=by
 unfold method
 simp only[Sem.run_bind,qbE hi,Result.andThen_ok,hm,hp,follow,Sem.run_pure,hf,receiverAt,qai hu,Place.get]
theorem run_callMethod_ptr {t e:TypeId} {i:TypeInfo} {name:String} {m:Method} {f:FuncId} (hi:P.info? t=some i) (hm:i.methods.find? (·.name==name)=some m) (hp:m.path = #[]) (hf:m.func=some (f,true)) (hu:P.underlying t=some (.pointer e)) (v:Value) (args:Array Value) (w:World) :
  (callMethod (.iface t v) name args).run P w=(callFunc f (#[v]++args)).run P w:=by
 unfold callMethod
 simp only[Sem.run_bind,run_program,Result.andThen_ok,qii hi hm hp hf hu _ v w,Made.depth]
theorem qfJ{t:TypeId}{name:String}{f:FuncId}(h:methT P t name=some f)(v:Value)(args:Array Value)(w:World):(callMethod (.iface t v) name args).run P w=(callFunc f (#[v]++args)).run P w:=by
 unfold methT at h
 split at h
 ·rename_i i e hi hu
  split at h
  ·rename_i m hm
   split at h
   ·rename_i hp
    split at h
    ·rename_i f' hf
     cases h
     exact run_callMethod_ptr hi hm (Array.isEmpty_iff.1 hp) hf hu v args w
    ·cases h
   ·cases h
  ·cases h
 ·cases h
theorem qb0(hid:Ties P ids fid){name:String}{t g:Nat} : ∀ {ts:List Nat},(qka P ids name ts).lookup t=some g -> ∃ f,methT P (fid.ty t) name=some f/\ids f=some g
 |[],h=>by simp[qka] at h
 |s::r,h=>by
  simp only[qka] at h
  split at h
  ·rename_i f hf
   split at h
   ·rename_i g' hg
    split at h
    ·rename_i u hu
     rw[List.lookup_cons] at h
     split at h
     ·rename_i he
      cases h
      rw[beq_iff_eq.1 he,hid.ty _ _ hu]
      exact⟨f,hf,hg⟩
     ·exact qb0 hid h
    ·exact qb0 hid h
   ·exact qb0 hid h
  ·exact qb0 hid h
theorem qiw{Γ : Ctx}(hr:Real fid Γ)(f:Nat){vs:List V}{xs:List Value}(h:Reps fid Γ vs xs) : ∃ Γ':Ctx,Γ'.σ = (qet f vs Γ.σ).2 /\ Γ'.w = Γ.w/\Real fid Γ'/\Step Γ Γ'/\Reps fid Γ' (qet f vs Γ.σ).1 xs:=by
 unfold qet
 split
 ·exact qh5 hr h
 ·exact⟨Γ,rfl,rfl,hr,.refl _,h⟩
theorem qgO {C:Task->Option Res} (hC:CSound P fid C) {Γ : Ctx} (hr:Real fid Γ) {f:Nat} {args:List V} {xs:List Value} {v:V} {σ':S} (ha:Reps fid Γ args xs) (h:qbB C (.call f) args Γ.σ = some (v,σ')) :
  qgN P (fid f)/\CallsIn Fence.wide 0 P (fid f) xs.toArray Γ.w fun e w' => ∃ Γ' x,e = .returned x /\ Γ'.w=w' /\ Γ'.σ = σ'/\Real fid Γ'/\Step Γ Γ'/\Rep fid Γ' v x:=by
 unfold qbB at h
 simp only at h
 generalize reach Γ.σ 100000 (qaz args) []=L at h
 split at h
 ·rename_i args' σs hres
  split at h
  ·cases h
  ·rename_i v' σs' hnp hcall
   cases h
   obtain⟨h1,h2,h3,h4,h5,h6⟩:=qaT hr hres
   obtain⟨he,hs⟩:=hC.call _ _ _ _ _ hcall
   refine⟨he,(hs (Γ.part L σs) xs rfl h5 (h6 xs ha)).mono ?_⟩
   rintro e w' ⟨Γs',hw,hσ,hr',hst,hx⟩
   obtain⟨Γ',k1,k2,k3,k4,k5⟩:=qfZ hr h1 h3 h4 h2 hr' hst
   rcases hx with ⟨x,he,hx⟩|⟨u,x,rfl,_⟩
   ·exact⟨Γ',x,he,k2.trans hw,by rw[k1,hσ],k3,k4,k5 _ _ hx⟩
   ·exact (hnp _ rfl).elim
  ·cases h
 ·cases h
theorem qjp {C:Task->Option Res} (hC:CSound P fid C) {Γ : Ctx} (hr:Real fid Γ) {f:Nat} {args:List V} {xs:List Value} {v:V} {σ':S} (ha:Reps fid Γ args xs) (h:qa8 C (.call f) args Γ.σ = some (v,σ')) :
  qgN P (fid f)/\CallsIn Fence.wide 0 P (fid f) xs.toArray Γ.w fun e w' => ∃ Γ' x,e = .panicked [{ v:=x,recovered:=false }] /\ Γ'.w=w' /\ Γ'.σ = σ'/\Real fid Γ'/\Step Γ Γ'/\Rep fid Γ' v x:=by
 unfold qa8 at h
 simp only at h
 generalize reach Γ.σ 100000 (qaz args) []=L at h
 split at h
 ·rename_i args' σs hres
  split at h
  ·rename_i v' σs' hcall
   cases h
   obtain⟨h1,h2,h3,h4,h5,h6⟩:=qaT hr hres
   obtain⟨he,hs⟩:=hC.call _ _ _ _ _ hcall
   refine⟨he,(hs (Γ.part L σs) xs rfl h5 (h6 xs ha)).mono ?_⟩
   rintro e w' ⟨Γs',hw,hσ,hr',hst,hx⟩
   obtain⟨Γ',k1,k2,k3,k4,k5⟩:=qfZ hr h1 h3 h4 h2 hr' hst
   rcases hx with ⟨x,_,hx⟩|⟨u,x,e1,e2,hx⟩
   ·simp only[Rep] at hx
   ·cases e1
    exact⟨Γ',x,e2,k2.trans hw,by rw[k1,hσ],k3,k4,k5 _ _ hx⟩
  ·cases h
 ·cases h
theorem qhA(r:Nat->Nat)(v:V):(v.ren r).isNilIf=v.isNilIf:=by cases v<;>rfl
theorem qfK {C:Task->Option Res} (hC:CSound P fid C) {Γ : Ctx} (hr:Real fid Γ) {f:Nat} {pv:V} {as:List V} {px:Value} {ys:List Value} {v:V} {σ':S} {u:FrameMode} (hp:Rep fid Γ pv px) (ha:Reps fid Γ as ys)
  (hu:pv.isNilIf=true->u = .returning) (hu':pv.isNilIf=false->u = .panicking [{ v:=px,recovered:=false }]) (h:qbB C (.dcall f) (pv::as) Γ.σ = some (v,σ')) :
  qgN P (fid f)/\CallsDIn Fence.wide 0 P (fid f) ys.toArray u Γ.w fun e u' w' => ∃ Γ' y,e = .returned y /\ Γ'.w=w' /\ Γ'.σ = σ'/\Real fid Γ'/\Step Γ Γ'/\settle u' = .returning:=by
 unfold qbB at h
 simp only at h
 generalize reach Γ.σ 100000 (qaz (pv::as)) []=L at h
 split at h
 ·rename_i args' σs hres
  split at h
  ·cases h
  ·rename_i v' σs' hnp hcall
   cases h
   obtain⟨h1,h2,h3,h4,h5,h6⟩:=qaT hr hres
   obtain⟨he,hs⟩:=hC.dcall _ _ _ _ _ hcall
   have hargs:args'=pv.ren (idx L)::qd6 (idx L) as:=by
    unfold qbs at hres
    split at hres
    ·split at hres
     ·cases hres; rfl
     ·cases hres
    ·cases hres
   have h7:=h6 (px::ys) ⟨_,_,rfl,hp,ha⟩
   rw[hargs] at h7
   simp only[Reps] at h7
   obtain⟨x,xs,e,q1,q2⟩:=h7
   cases e
   refine⟨he,CallsDIn.mono (hs (Γ.part L σs) _ _ px ys u hargs rfl h5 q1 q2 (by rw[qhA]; exact hu) (by rw[qhA]; exact hu')) ?_⟩
   rintro e u' w' ⟨Γs',y,he,hw,hσ,hr',hst,hx⟩
   obtain⟨Γ',k1,k2,k3,k4,k5⟩:=qfZ hr h1 h3 h4 h2 hr' hst
   exact⟨Γ',y,he,k2.trans hw,by rw[k1,hσ],k3,k4,hx⟩
  ·cases h
 ·cases h
theorem qc7 {C:Task->Option Res} (hC:CSound P fid C) {Γ : Ctx} (hr:Real fid Γ) {f:Nat} {pre args post:List V} {xs ys zs:List Value} {v:V} {σ':S} (hp:Reps fid Γ pre xs) (ha:Reps fid Γ args ys) (hq:Reps fid Γ post zs)
  (h:qbB C (.call f) (pre++(qet f args Γ.σ).1++post) (qet f args Γ.σ).2=some (v,σ')) :
  qgN P (fid f)/\CallsIn Fence.wide 0 P (fid f) (xs++ys++zs).toArray Γ.w fun e w' => ∃ Γ' x,e = .returned x /\ Γ'.w=w' /\ Γ'.σ = σ'/\Real fid Γ'/\Step Γ Γ'/\Rep fid Γ' v x:=by
 obtain⟨Γ1,a1,a2,a3,a4,a5⟩:=qiw hr f ha
 rw[<- a1] at h
 obtain⟨k1,k2⟩:=qgO hC a3 (qfI (qfI (Reps.ext a4.ext _ _ hp) a5) (Reps.ext a4.ext _ _ hq)) h
 rw[a2] at k2
 refine⟨k1,k2.mono ?_⟩
 rintro e w' ⟨Γ',x,h1,h2,h3,h4,h5,h6⟩
 exact⟨Γ',x,h1,h2,h3,h4,a4.trans h5,h6⟩
theorem qcM {C:Task->Option Res} (hC:CSound P fid C) {Γ : Ctx} (hr:Real fid Γ) {f:Nat} {pre args post:List V} {xs ys zs:List Value} {v:V} {σ':S} (hp:Reps fid Γ pre xs) (ha:Reps fid Γ args ys) (hq:Reps fid Γ post zs)
  (h:qa8 C (.call f) (pre++(qet f args Γ.σ).1++post) (qet f args Γ.σ).2=some (v,σ')) :
  qgN P (fid f)/\CallsIn Fence.wide 0 P (fid f) (xs++ys++zs).toArray Γ.w fun e w' => ∃ Γ' x,e = .panicked [{ v:=x,recovered:=false }] /\ Γ'.w=w' /\ Γ'.σ = σ'/\Real fid Γ'/\Step Γ Γ'/\Rep fid Γ' v x:=by
 obtain⟨Γ1,a1,a2,a3,a4,a5⟩:=qiw hr f ha
 rw[<- a1] at h
 obtain⟨k1,k2⟩:=qjp hC a3 (qfI (qfI (Reps.ext a4.ext _ _ hp) a5) (Reps.ext a4.ext _ _ hq)) h
 rw[a2] at k2
 refine⟨k1,k2.mono ?_⟩
 rintro e w' ⟨Γ',x,h1,h2,h3,h4,h5,h6⟩
 exact⟨Γ',x,h1,h2,h3,h4,a4.trans h5,h6⟩
theorem qjq {C:Task->Option Res} (hC:CSound P fid C) {Γ : Ctx} (hr:Real fid Γ) {args:List V} {xs:List Value} {v:V} {σ':S} (ha:Reps fid Γ args xs) (h:qbB C .round args Γ.σ = some (v,σ')) :
  ∃ b ys fn tmps as bd,xs = .func (.yield b) #[] #[]::ys/\(Instr.yield b ys.toArray).run P Γ.w = .ok (.round b fn tmps as bd) Γ.w /\
   RoundIn Fence.wide 0 P b fn tmps as bd Γ.w fun e w' => ∃ Γ' x,e = .returned x /\ Γ'.w=w' /\ Γ'.σ = σ'/\Real fid Γ'/\Step Γ Γ'/\Rep fid Γ' v x:=by
 unfold qbB at h
 simp only at h
 generalize reach Γ.σ 100000 (qaz args) []=L at h
 split at h
 ·rename_i args' σs hres
  split at h
  ·cases h
  ·rename_i v' σs' hnp hcall
   cases h
   obtain⟨h1,h2,h3,h4,h5,h6⟩:=qaT hr hres
   obtain⟨l,b,ys,fn,tmps,as,bd,_,q1,q2,q3⟩:=hC.round _ _ _ _ hcall (Γ.part L σs) xs rfl h5 (h6 xs ha)
   refine⟨b,ys,fn,tmps,as,bd,q1,q2,q3.mono ?_⟩
   rintro e w' ⟨Γs',x,he,hw,hσ,hr',hst,hx⟩
   obtain⟨Γ',k1,k2,k3,k4,k5⟩:=qfZ hr h1 h3 h4 h2 hr' hst
   exact⟨Γ',x,he,k2.trans hw,by rw[k1,hσ],k3,k4,k5 _ _ hx⟩
  ·cases h
 ·cases h
theorem qa5{f:FuncId}(h:qgN P f)(args:Array Value)(w:World):(callFunc f args).run P w = .ok (.enter f args) w:=by
 obtain⟨fn,h1,h2,h3⟩:=h
 have h3':fn.body.isNone=false:=by cases hb:fn.body<;>simp_all
 simp only[callFunc,Sem.run_bind,run_program,Result.andThen_ok,h1,h2,h3',Wm,if_false,Sem.run_pure]
section
variable{Γ : Ctx}{fr:Fr}{a:Act}{o:Oper}{v:V}{σ':S}{C:Task->Option Res}{ro:Option Nat}{K:Act->World->Prop}{Q:Exit->Act->World->Prop}
theorem qb1(hid:Ties P ids fid)(hr:Real fid Γ)(hf:FrRep fid Γ N fr a.tmps){x:Option Operand}{y:Option X}{u:Option V}(hc:cOX ids N x=some y)(hv:qfv fr y=some u):qk5 fid Γ a.eval u x:=by
 cases x with
 |none=>simp only[cOX,We] at hc; subst hc; simp only[qfv,We] at hv; subst hv; exact trivial
 |some x=>
  simp only[cOX,Wf] at hc
  obtain⟨z,hz,rfl⟩:=hc
  simp only[qfv] at hv
  split at hv
  ·rename_i u' hu'; cases hv; exact qah hid hr hf hz hu'
  ·cases hv
theorem qjr {f:FuncId} {args:Array Value} {Γ₀ : Ctx} (hd : ∀ c,o.op ≠ .defer c) (h:(execOp a.eval o).run P Γ₀.w = .ok (.enter f args) Γ₀.w)
  (hcall:CallsIn Fence.wide 0 P f args Γ₀.w fun e w' => ∃ Γ' x,e = .returned x /\ Γ'.w=w' /\ Γ'.σ = σ'/\Real fid Γ'/\Step Γ₀ Γ'/\Rep fid Γ' v x)
  (hk : ∀ Γ' x,Γ'.σ = σ'->Real fid Γ'->Step Γ₀ Γ'->Rep fid Γ' v x->K (a.put o.dst x) Γ'.w):o.wpIn (FR ro) 0 P a Γ₀.w K Q:=by
 refine⟨fun f _=>trivial,?_⟩
 rw[Oper.semAt_eq _ _ _ hd,h]
 refine⟨fun h=>by simp[Fence.wide] at h,?_⟩
 refine CallsIn.mono (F:=FR ro) hcall ?_
 rintro e w' ⟨Γ',x,rfl,rfl,h1,h2,h3,h4⟩
 exact hk Γ' x h1 h2 h3 h4
theorem qhe {f:FuncId} {args:Array Value} {Γ₀ : Ctx} (hd : ∀ c,o.op ≠ .defer c) (h:(execOp a.eval o).run P Γ₀.w = .ok (.enter f args) Γ₀.w)
  (hcall:CallsIn Fence.wide 0 P f args Γ₀.w fun e w' => ∃ Γ' x,e = .panicked [{ v:=x,recovered:=false }] /\ Γ'.w=w' /\ Γ'.σ = σ'/\Real fid Γ'/\Step Γ₀ Γ'/\Rep fid Γ' v x)
  (hk : ∀ Γ' x,Γ'.σ = σ'->Real fid Γ'->Step Γ₀ Γ'->Rep fid Γ' v x->Q (.panic [{ v:=x,recovered:=false }]) a Γ'.w):o.wpIn (FR ro) 0 P a Γ₀.w K Q:=by
 refine⟨fun f _=>trivial,?_⟩
 rw[Oper.semAt_eq _ _ _ hd,h]
 refine⟨fun h=>by simp[Fence.wide] at h,?_⟩
 refine CallsIn.mono (F:=FR ro) hcall ?_
 rintro e w' ⟨Γ',x,rfl,rfl,h1,h2,h3,h4⟩
 exact hk Γ' x h1 h2 h3 h4
theorem qqf {b:Nat} {fn:FuncId} {tmps:Array Value} {as bd:Code} {Γ₀ : Ctx} (hd : ∀ c,o.op ≠ .defer c) (h:(execOp a.eval o).run P Γ₀.w = .ok (.round b fn tmps as bd) Γ₀.w)
  (hcall:RoundIn Fence.wide 0 P b fn tmps as bd Γ₀.w fun e w' => ∃ Γ' x,e = .returned x /\ Γ'.w=w' /\ Γ'.σ = σ'/\Real fid Γ'/\Step Γ₀ Γ'/\Rep fid Γ' v x)
  (hk : ∀ Γ' x,Γ'.σ = σ'->Real fid Γ'->Step Γ₀ Γ'->Rep fid Γ' v x->K (a.put o.dst x) Γ'.w):o.wpIn (FR ro) 0 P a Γ₀.w K Q:=by
 refine⟨fun f _=>trivial,?_⟩
 rw[Oper.semAt_eq _ _ _ hd,h]
 refine⟨fun h=>by simp[Fence.wide] at h,?_⟩
 refine RoundIn.mono (F:=FR ro) hcall ?_
 rintro e w' ⟨Γ',x,rfl,rfl,h1,h2,h3,h4⟩
 exact hk Γ' x h1 h2 h3 h4
theorem qjs (hid:Ties P ids fid) (hC:CSound P fid C) {op:O} (hc:cOp P ids N o.op=some op) (hr:Real fid Γ) (hf:FrRep fid Γ N fr a.tmps) (h:qaA C fr Γ.σ op=some (v,σ'))
  (hk : ∀ Γ' x,Γ'.σ = σ'->Real fid Γ'->Step Γ Γ'->Rep fid Γ' v x->K (a.put o.dst x) Γ'.w):o.wpIn (FR ro) 0 P a Γ.w K Q:=by
 have hF : ∀ f,(FR ro).fn f:=fun _=>trivial
 cases ho:o.op with
 |move x=>
  rw[ho] at hc
  simp only[cOp,Wf] at hc
  obtain⟨y,hy,rfl⟩:=hc
  simp only[qaA] at h
  split at h
  ·rename_i u hu; cases h
   exact (qwW hr (.inl ho) (qah hid hr hf hy hu)).wp hF (by simp[ho]) hk
  ·cases h
 |assign x=>
  rw[ho] at hc
  simp only[cOp,Wf] at hc
  obtain⟨y,hy,rfl⟩:=hc
  simp only[qaA] at h
  split at h
  ·rename_i u hu; cases h
   exact (qwW hr (.inr ho) (qah hid hr hf hy hu)).wp hF (by simp[ho]) hk
  ·cases h
 |pick c x y=>
  rw[ho] at hc
  simp only[cOp] at hc
  split at hc
  ·rename_i c' x' y' h1 h2 h3
   cases hc
   simp only[qaA] at h
   split at h
   ·rename_i hcv
    split at h
    ·rename_i u hu; cases h
     have:=qsC (P:=P) (o:=o) (u:=v) (u':=v) hr ho (qah hid hr hf h1 hcv) (fun _=>qah hid hr hf h2 hu) (fun h=>by cases h)
     exact (by simpa using this:Comes P fid Γ a.eval o v Γ.σ).wp hF (by simp[ho]) hk
    ·cases h
   ·rename_i hcv
    split at h
    ·rename_i u hu; cases h
     have:=qsC (P:=P) (o:=o) (u:=v) (u':=v) hr ho (qah hid hr hf h1 hcv) (fun h=>by cases h) (fun _=>qah hid hr hf h3 hu)
     exact (by simpa using this:Comes P fid Γ a.eval o v Γ.σ).wp hF (by simp[ho]) hk
    ·cases h
   ·cases h
  ·cases hc
 |alloc t=>
  rw[ho] at hc
  simp only[cOp,Wf] at hc
  obtain⟨z,hz,rfl⟩:=hc
  simp only[qaA,We,WF] at h
  obtain⟨rfl,rfl⟩:=h
  exact (qs8 hr ho hz).wp hF (by simp[ho]) hk
 |makeInterface t x=>
  rw[ho] at hc
  simp only[cOp] at hc
  split at hc
  ·cases hc
  ·rename_i d hne ht
   split at hc
   ·rename_i k hk'
    simp only[Wf] at hc
    obtain⟨x',h1,rfl⟩:=hc
    simp only[qaA] at h
    split at h
    ·rename_i u hu; cases h
     exact (qwZ hr (hid.ty _ _ hk') ho ht (fun ms e=>hne ms e) (qah hid hr hf h1 hu)).wp hF (by simp[ho]) hk
    ·cases h
   ·cases hc
  ·cases hc
 |makeSlice t x y=>
  rw[ho] at hc
  simp only[cOp] at hc
  split at hc
  ·rename_i e x' y' ht h1 h2
   split at hc
   ·rename_i n z b hn hz hb
    split at hc
    ·rename_i hcond
     cases hc
     simp only[qaA] at h
     split at h
     ·rename_i k l k' c hx hy
      split at h
      ·rename_i hlc
       have hboth:=qoU hr ho ht hz hn hb hcond.1 hcond.2 (qah hid hr hf h1 hx) (qah hid hr hf h2 hy) hlc
       split at h
       ·cases h; exact hboth.2.wp hF (by simp[ho]) hk
       ·cases h; exact hboth.1.wp hF (by simp[ho]) hk
      ·cases h
     ·cases h
    ·cases hc
   ·cases hc
  ·cases hc
 |box t x=>
  rw[ho] at hc
  simp only[cOp] at hc
  simp only[Wf] at hc
  obtain⟨y,hy,rfl⟩:=hc
  simp only[qaA] at h
  split at h
  ·rename_i u hu
   split at h
   ·cases h
    exact (qyh hr ho (qah hid hr hf hy hu)).wp hF (by simp[ho]) hk
   ·cases h
  ·cases h
 |build t parts=>
  rw[ho] at hc
  simp only[cOp] at hc
  split at hc
  ·rename_i fields z ht hz
   split at hc
   ·rename_i pl hpl
    simp only[Wf] at hc
    obtain⟨ps,hps,rfl⟩:=hc
    simp only[qaA] at h
    split at h
    ·rename_i vs hvs
     split at h
     ·rename_i cs hcs; cases h
      exact (qq0 hr ho ht hz hpl (qdu hid hr hf hps hvs) hcs).wp hF (by simp[ho]) hk
     ·cases h
    ·cases h
   ·cases hc
  ·rename_i len e z ht hz
   split at hc
   ·rename_i n hn
    simp only[Wf] at hc
    obtain⟨ps,hps,rfl⟩:=hc
    simp only[qaA] at h
    split at h
    ·rename_i vs hvs
     split at h
     ·rename_i cs hcs; cases h
      exact (qq1 hr ho ht hz hn (qdu hid hr hf hps hvs) hcs).wp hF (by simp[ho]) hk
     ·cases h
    ·cases h
   ·cases hc
  ·cases hc
 |buildSlice t len parts=>
  rw[ho] at hc
  simp only[cOp] at hc
  split at hc
  ·rename_i e ht
   split at hc
   ·rename_i n z hn hz
    split at hc
    ·rename_i hcond
     simp only[Wf] at hc
     obtain⟨ps,hps,rfl⟩:=hc
     split at h
     ·simp only[qaA] at h
      split at h
      ·rename_i vs hvs
       split at h
       ·rename_i cs hcs
        split at h
        ·rename_i ds hds; cases h
         exact (qoT hr ho ht hz hn hcond.1 hcond.2.1 hcond.2.2 (qdu hid hr hf hps hvs) hcs hds).wp hF (by simp[ho]) hk
        ·cases h
       ·cases h
      ·cases h
     ·simp only[qaA] at h
      split at h
      ·rename_i vs hvs
       split at h
       ·rename_i cs hcs
        split at h
        ·rename_i ds hds; cases h
         exact (qq2 hr ho ht hz hn hcond.1 hcond.2.1 hcond.2.2 (qdu hid hr hf hps hvs) hcs hds).wp hF (by simp[ho]) hk
        ·cases h
       ·cases h
      ·cases h
    ·cases hc
   ·cases hc
  ·cases hc
 |load t x=>
  rw[ho] at hc
  simp only[cOp] at hc
  split at hc
  ·rename_i n y h1 h2 h3
   cases hc
   simp only[qaA] at h
   split at h
   ·rename_i p hp
    split at h
    ·rename_i u hu; cases h
     exact (qsi hr ho (.inl ⟨rfl,h1,h2⟩) (qah hid hr hf h3 hp) hu).wp hF (by simp[ho]) hk
    ·cases h
   ·cases h
  ·rename_i y h1 h3
   cases hc
   simp only[qaA] at h
   split at h
   ·rename_i p hp
    split at h
    ·rename_i u hu; cases h
     exact (qsi hr ho (.inr ⟨rfl,h1,rfl⟩) (qah hid hr hf h3 hp) hu).wp hF (by simp[ho]) hk
    ·cases h
   ·cases h
  ·cases hc
 |store t x y=>
  rw[ho] at hc
  simp only[cOp] at hc
  split at hc
  ·rename_i n x' y' h1 h2 h3
   cases hc
   simp only[qaA] at h
   split at h
   ·rename_i p u hp hu
    split at h
    ·rename_i s hs; cases h
     exact (qta hr ho h1 (qah hid hr hf h2 hp) (qah hid hr hf h3 hu) hs).wp hF (by simp[ho]) hk
    ·cases h
   ·cases h
  ·cases hc
 |nilCheck x=>
  rw[ho] at hc
  simp only[cOp,Wf] at hc
  obtain⟨y,hy,rfl⟩:=hc
  simp only[qaA] at h
  split at h
  ·rename_i l k hu; cases h
   exact (qjW hr ho (qah hid hr hf hy hu) (.inl ⟨_,_,rfl⟩)).wp hF (by simp[ho]) hk
  ·rename_i l k hu; cases h
   exact (qjW hr ho (qah hid hr hf hy hu) (.inr (.inl ⟨_,_,rfl⟩))).wp hF (by simp[ho]) hk
  ·rename_i l n k hu; cases h
   exact (qjW hr ho (qah hid hr hf hy hu) (.inr (.inr ⟨_,_,_,rfl⟩))).wp hF (by simp[ho]) hk
  ·rename_i g l k hu; cases h
   exact (qpk hr hid.mt ho (qah hid hr hf hy hu)).wp hF (by simp[ho]) hk
  ·cases h
 |binOp op t x y t'=>
  rw[ho] at hc
  simp only[cOp] at hc
  split at hc
  ·rename_i ht
   simp only[Wf] at hc
   obtain⟨x',h1,rfl⟩:=hc
   simp only[qaA] at h
   split at h
   ·rename_i u hu
    split at h
    ·rename_i b hb; cases h
     exact (qjV hr false false rfl ho rfl (.inl ⟨rfl,rfl,_,ht⟩) (qah hid hr hf h1 hu) hb).wp hF (by simp[ho]) hk
    ·cases h
   ·cases h
  ·rename_i ht
   simp only[Wf] at hc
   obtain⟨x',h1,rfl⟩:=hc
   simp only[qaA] at h
   split at h
   ·rename_i u hu
    split at h
    ·rename_i b hb; cases h
     exact (qjV hr false true rfl ho rfl (.inl ⟨rfl,rfl,_,ht⟩) (qah hid hr hf h1 hu) hb).wp hF (by simp[ho]) hk
    ·cases h
   ·cases h
  ·rename_i ht
   simp only[Wf] at hc
   obtain⟨x',h1,rfl⟩:=hc
   simp only[qaA] at h
   split at h
   ·rename_i u hu
    split at h
    ·rename_i b hb; cases h
     exact (qjV hr true false rfl ho rfl (.inr ⟨rfl,rfl,_,ht⟩) (qah hid hr hf h1 hu) hb).wp hF (by simp[ho]) hk
    ·cases h
   ·cases h
  ·rename_i ht
   simp only[Wf] at hc
   obtain⟨x',h1,rfl⟩:=hc
   simp only[qaA] at h
   split at h
   ·rename_i u hu
    split at h
    ·rename_i b hb; cases h
     exact (qjV hr true true rfl ho rfl (.inr ⟨rfl,rfl,_,ht⟩) (qah hid hr hf h1 hu) hb).wp hF (by simp[ho]) hk
    ·cases h
   ·cases h
  ·rename_i ht
   simp only[Wf] at hc
   obtain⟨x',h1,rfl⟩:=hc
   simp only[qaA] at h
   split at h
   ·rename_i u hu
    split at h
    ·rename_i b hb; cases h
     exact (qmN hr false rfl ho rfl ht (qah hid hr hf h1 hu) hb).wp hF (by simp[ho]) hk
    ·cases h
   ·cases h
  ·rename_i ht
   simp only[Wf] at hc
   obtain⟨x',h1,rfl⟩:=hc
   simp only[qaA] at h
   split at h
   ·rename_i u hu
    split at h
    ·rename_i b hb; cases h
     exact (qmN hr true rfl ho rfl ht (qah hid hr hf h1 hu) hb).wp hF (by simp[ho]) hk
    ·cases h
   ·cases h
  ·split at hc
   ·rename_i x' y' h1 h2
    split at hc
    ·have ht:P.underlying t=some .bool:=by assumption
     cases hc
     simp only[qaA] at h
     split at h
     ·rename_i A B hA hB
      cases h
      exact (qwX hr false rfl ho ht (qah hid hr hf h1 hA) (qah hid hr hf h2 hB)).wp hF (by simp[ho]) hk
     ·cases h
    ·have ht:P.underlying t=some .bool:=by assumption
     cases hc
     simp only[qaA] at h
     split at h
     ·rename_i A B hA hB
      cases h
      exact (qwX hr true rfl ho ht (qah hid hr hf h1 hA) (qah hid hr hf h2 hB)).wp hF (by simp[ho]) hk
     ·cases h
    ·have ht:qaw P t=some true:=by
      have : ∃ f,P.underlying t=some (.struct f):=⟨_,by assumption⟩
      obtain⟨f,e⟩:=this
      simp[qaw,e]
     simp only[Wf] at hc
     obtain⟨ks,hks,rfl⟩:=hc
     simp only[qaA] at h
     split at h
     ·rename_i A B hA hB
      split at h
      ·rename_i r hr'; cases h
       exact (qqg hr false rfl ho ht hks (qah hid hr hf h1 hA) (qah hid hr hf h2 hB) hr').wp hF (by simp[ho]) hk
      ·cases h
     ·cases h
    ·have ht:qaw P t=some true:=by
      have : ∃ f,P.underlying t=some (.struct f):=⟨_,by assumption⟩
      obtain⟨f,e⟩:=this
      simp[qaw,e]
     simp only[Wf] at hc
     obtain⟨ks,hks,rfl⟩:=hc
     simp only[qaA] at h
     split at h
     ·rename_i A B hA hB
      split at h
      ·rename_i r hr'; cases h
       exact (qqg hr true rfl ho ht hks (qah hid hr hf h1 hA) (qah hid hr hf h2 hB) hr').wp hF (by simp[ho]) hk
      ·cases h
     ·cases h
    ·have ht:qaw P t=some true:=by
      have : ∃ n f,P.underlying t=some (.array n f):=⟨_,_,by assumption⟩
      obtain⟨n,f,e⟩:=this
      simp[qaw,e]
     simp only[Wf] at hc
     obtain⟨ks,hks,rfl⟩:=hc
     simp only[qaA] at h
     split at h
     ·rename_i A B hA hB
      split at h
      ·rename_i r hr'; cases h
       exact (qqg hr false rfl ho ht hks (qah hid hr hf h1 hA) (qah hid hr hf h2 hB) hr').wp hF (by simp[ho]) hk
      ·cases h
     ·cases h
    ·have ht:qaw P t=some true:=by
      have : ∃ n f,P.underlying t=some (.array n f):=⟨_,_,by assumption⟩
      obtain⟨n,f,e⟩:=this
      simp[qaw,e]
     simp only[Wf] at hc
     obtain⟨ks,hks,rfl⟩:=hc
     simp only[qaA] at h
     split at h
     ·rename_i A B hA hB
      split at h
      ·rename_i r hr'; cases h
       exact (qqg hr true rfl ho ht hks (qah hid hr hf h1 hA) (qah hid hr hf h2 hB) hr').wp hF (by simp[ho]) hk
      ·cases h
     ·cases h
    ·cases hc
    ·cases hc
    ·cases hc
     simp only[qaA] at h
     split at h
     ·rename_i A B hA hB
      split at h
      ·rename_i r hr'; cases h
       exact (qy9 hr ho (qah hid hr hf h1 hA) (qah hid hr hf h2 hB) hr').wp hF (by simp[ho]) hk
      ·cases h
     ·cases h
   ·cases hc
 |unOp op t x=>
  rw[ho] at hc
  simp only[cOp,Wf] at hc
  obtain⟨y,hy,rfl⟩:=hc
  simp only[qaA] at h
  split at h
  ·rename_i A hA
   split at h
   ·rename_i r hr'; cases h
    exact (qAC hr ho (qah hid hr hf hy hA) hr').wp hF (by simp[ho]) hk
   ·cases h
  ·cases h
 |convert s t x=>
  rw[ho] at hc
  simp only[cOp] at hc
  split at hc
  ·rename_i d k y h1 h2 h3
   cases hc
   simp only[qaA] at h
   split at h
   ·rename_i A hA
    split at h
    ·rename_i r hr'; cases h
     exact (qpj hr ho (qah hid hr hf h3 hA) h1 (.inl ⟨_,rfl,h2⟩) hr').wp hF (by simp[ho]) hk
    ·cases h
   ·cases h
  ·rename_i k y h1 h2 h3
   cases hc
   simp only[qaA] at h
   split at h
   ·rename_i A hA
    split at h
    ·rename_i r hr'; cases h
     exact (qpj hr ho (qah hid hr hf h3 hA) h1 (.inr (.inl ⟨rfl,h2⟩)) hr').wp hF (by simp[ho]) hk
    ·cases h
   ·cases h
  ·rename_i y h1 h2 h3
   cases hc
   simp only[qaA] at h
   split at h
   ·rename_i A hA
    split at h
    ·rename_i r hr'; cases h
     exact (qpj hr ho (qah hid hr hf h3 hA) h1 (.inr (.inr ⟨rfl,h2⟩)) hr').wp hF (by simp[ho]) hk
    ·cases h
   ·cases h
  ·rename_i e y h1 h2 h3
   split at hc
   ·rename_i he hb
    cases hc
    simp only[qaA] at h
    split at h
    ·rename_i A hA
     split at h
     ·cases h
      exact (quq hr ho (qah hid hr hf h3 hA) h1 h2 he).wp hF (by simp[ho]) hk
     ·cases h
    ·cases h
   ·cases hc
  ·cases hc
 |fieldAddr s x f=>
  rw[ho] at hc
  simp only[cOp] at hc
  split at hc
  ·rename_i fields y h1 h2
   split at hc
   ·rename_i fd hfd
    split at hc
    ·cases hc
    ·rename_i h0
     simp only[Wf] at hc
     obtain⟨n,hn,rfl⟩:=hc
     simp only[qaA] at h
     split at h
     ·rename_i p hp
      split at h
      ·rename_i u hu; cases h
       exact (qlM hr ho (qah hid hr hf h2 hp) h1 hfd hn (fun e=>h0 (by rw[hn,e])) hu).wp hF (by simp[ho]) hk
      ·cases h
     ·cases h
   ·cases hc
  ·cases hc
 |field t x f=>
  rw[ho] at hc
  simp only[cOp] at hc
  split at hc
  ·rename_i fields y h1 h2
   split at hc
   ·rename_i fd hfd
    split at hc
    ·rename_i n k1 k2
     cases hc
     simp only[qaA] at h
     split at h
     ·rename_i p hp
      split at h
      ·rename_i cs hcs
       split at h
       ·rename_i vs hvs
        split at h
        ·rename_i u hu; cases h
         exact (qpl hr ho (qah hid hr hf h2 hp) h1 hfd (.inl ⟨rfl,k1,k2⟩) hcs hvs hu).wp hF (by simp[ho]) hk
        ·cases h
       ·cases h
      ·cases h
     ·cases h
    ·rename_i k1
     cases hc
     simp only[qaA] at h
     split at h
     ·rename_i p hp
      split at h
      ·rename_i cs hcs
       split at h
       ·rename_i vs hvs
        split at h
        ·rename_i u hu; cases h
         exact (qpl hr ho (qah hid hr hf h2 hp) h1 hfd (.inr ⟨rfl,k1,rfl⟩) hcs hvs hu).wp hF (by simp[ho]) hk
        ·cases h
       ·cases h
      ·cases h
     ·cases h
    ·cases hc
   ·cases hc
  ·cases hc
 |indexAddr t x i=>
  rw[ho] at hc
  simp only[cOp] at hc
  split at hc
  ·rename_i e y j h1 h2 h3
   simp only[Wf] at hc
   obtain⟨n,hn,rfl⟩:=hc
   simp only[qaA] at h
   split at h
   ·rename_i s k m hs hm
    split at h
    ·rename_i u hu; cases h
     exact (qlN hr ho (qah hid hr hf h2 hs) (qah hid hr hf h3 hm) h1 hn hu).wp hF (by simp[ho]) hk
    ·cases h
   ·cases h
  ·rename_i len e y j h1 h2 h3
   simp only[Wf] at hc
   obtain⟨n,hn,rfl⟩:=hc
   simp only[qaA] at h
   split at h
   ·rename_i s k m hs hm
    split at h
    ·rename_i hj
     split at h
     ·rename_i u hu; cases h
      exact (qk4 hr ho (qah hid hr hf h2 hs) (qah hid hr hf h3 hm) h1 hn hj hu).wp hF (by simp[ho]) hk
     ·cases h
    ·cases h
   ·cases h
  ·cases hc
 |index t x i=>
  rw[ho] at hc
  simp only[cOp] at hc
  split at hc
  ·rename_i len e y j h1 h2 h3
   split at hc
   ·rename_i n k1 k2
    cases hc
    simp only[qaA] at h
    split at h
    ·rename_i s k m hs hm
     split at h
     ·rename_i hj
      split at h
      ·rename_i cs hcs
       split at h
       ·rename_i vs hvs
        split at h
        ·rename_i u hu; cases h
         exact (qmP hr ho (qah hid hr hf h2 hs) (qah hid hr hf h3 hm) h1 (.inl ⟨rfl,k1,k2⟩) hj hcs hvs hu).wp hF (by simp[ho]) hk
        ·cases h
       ·cases h
      ·cases h
     ·cases h
    ·cases h
   ·rename_i n k1 k2
    split at hc
    ·rename_i hn1
     subst hn1
     cases hc
     simp only[qaA] at h
     split at h
     ·rename_i s k m hs hm
      split at h
      ·rename_i hj
       split at h
       ·rename_i cs hcs
        split at h
        ·rename_i vs hvs
         split at h
         ·rename_i u hu; cases h
          exact (qmP hr ho (qah hid hr hf h2 hs) (qah hid hr hf h3 hm) h1 (.inr ⟨rfl,k1,rfl,k2⟩) hj hcs hvs hu).wp hF (by simp[ho]) hk
         ·cases h
        ·cases h
       ·cases h
      ·cases h
     ·cases h
    ·cases hc
   ·cases hc
  ·rename_i y j h1 h2 h3
   cases hc
   simp only[qaA] at h
   split at h
   ·rename_i s k m hs hm
    split at h
    ·rename_i hj
     split at h
     ·rename_i u hu; cases h
      exact (qrs hr ho (qah hid hr hf h2 hs) (qah hid hr hf h3 hm) h1 hj hu).wp hF (by simp[ho]) hk
     ·cases h
    ·cases h
   ·cases h
  ·cases hc
 |slice t x lo hi mx=>
  rw[ho] at hc
  simp only[cOp] at hc
  split at hc
  ·rename_i e y l u h1 h2 h3 h4
   simp only[Wf] at hc
   obtain⟨n,hn,rfl⟩:=hc
   split at h
   ·simp only[qaA] at h
    split at h
    ·rename_i p l' u' hp hl hu
     exact (qze hr ho (qah hid hr hf h2 hp) h1 hn (qb1 hid hr hf h3 hl) (qb1 hid hr hf h4 hu) h).wp hF (by simp[ho]) hk
    ·cases h
   ·simp only[qaA] at h
    split at h
    ·rename_i p l' u' hp hl hu
     split at h
     ·rename_i r hr'; cases h
      exact (c_slice hr ho (qah hid hr hf h2 hp) h1 hn (qb1 hid hr hf h3 hl) (qb1 hid hr hf h4 hu) hr').wp hF (by simp[ho]) hk
     ·cases h
    ·cases h
  ·rename_i y l u h1 h2 h3 h4
   cases hc
   simp only[qaA] at h
   split at h
   ·rename_i p l' u' hp hl hu
    split at h
    ·rename_i r hr'; cases h
     exact (qrt hr ho (qah hid hr hf h2 hp) h1 (qb1 hid hr hf h3 hl) (qb1 hid hr hf h4 hu) hr').wp hF (by simp[ho]) hk
    ·cases h
   ·cases h
  ·rename_i len e y l u h1 h2 h3 h4
   simp only[Wf] at hc
   obtain⟨n,hn,rfl⟩:=hc
   simp only[qaA] at h
   split at h
   ·rename_i p l' u' hp hl hu
    split at h
    ·rename_i r hr'; cases h
     exact (qqz hr ho (qah hid hr hf h2 hp) h1 hn (qb1 hid hr hf h3 hl) (qb1 hid hr hf h4 hu) hr').wp hF (by simp[ho]) hk
    ·cases h
   ·cases h
  ·cases hc
 |makeMap t r=>
  rw[ho] at hc
  simp only[cOp] at hc
  split at hc
  ·cases hc
   simp only[qaA,We,WF] at h
   obtain⟨rfl,rfl⟩:=h
   exact (qs9 hr ho).wp hF (by simp[ho]) hk
  ·cases hc
 |mapUpdate t m k x=>
  rw[ho] at hc
  simp only[cOp] at hc
  split at hc
  ·rename_i kt e m' k' x' h1 h2 h3 h4
   simp only[Wf] at hc
   obtain⟨kd,hkd,rfl⟩:=hc
   simp only[qaA] at h
   split at h
   ·rename_i l key u hm hkey hu
    split at h
    ·rename_i es hes
     split at h
     ·split at h
      ·rename_i es' hes'; cases h
       exact (qmz hr (.inl ho) h1 hkd (qah hid hr hf h2 hm) (qah hid hr hf h3 hkey) (qah hid hr hf h4 hu) hes hes').wp hF (by simp[ho]) hk
      ·cases h
     ·cases h
    ·cases h
   ·cases h
  ·cases hc
 |insert t m k x=>
  rw[ho] at hc
  simp only[cOp] at hc
  split at hc
  ·rename_i kt e m' k' x' h1 h2 h3 h4
   simp only[Wf] at hc
   obtain⟨kd,hkd,rfl⟩:=hc
   simp only[qaA] at h
   split at h
   ·rename_i l key u hm hkey hu
    split at h
    ·rename_i es hes
     split at h
     ·split at h
      ·rename_i es' hes'; cases h
       exact (qmz hr (.inr ho) h1 hkd (qah hid hr hf h2 hm) (qah hid hr hf h3 hkey) (qah hid hr hf h4 hu) hes hes').wp hF (by simp[ho]) hk
      ·cases h
     ·cases h
    ·cases h
   ·cases h
  ·cases hc
 |lookup t m k ok=>
  rw[ho] at hc
  simp only[cOp] at hc
  split at hc
  ·rename_i kt e m' k' h1 h2 h3
   split at hc
   ·rename_i kd z hkd hz
    cases hc
    simp only[qaA] at h
    split at h
    ·rename_i l key hm hkey
     split at h
     ·rename_i es hes
      split at h
      ·split at h
       ·rename_i u hu; cases h
        exact (qmy hr ho h1 hkd hz (qah hid hr hf h2 hm) (qah hid hr hf h3 hkey) hes hu).wp hF (by simp[ho]) hk
       ·rename_i hu; cases h
        exact (qmy hr ho h1 hkd hz (qah hid hr hf h2 hm) (qah hid hr hf h3 hkey) hes hu).wp hF (by simp[ho]) hk
       ·cases h
      ·cases h
     ·cases h
    ·cases h
   ·cases hc
  ·cases hc
 |makeFunc fn x y=>
  rw[ho] at hc
  cases fn with
  |func f=>
   simp only[cOp] at hc
   split at hc
   ·rename_i g as bs h1 h2 h3
    cases hc
    simp only[qaA] at h
    split at h
    ·rename_i us ws hu hw; cases h
     exact (qw0 hr ho (hid.fn f g h1) (qbj hid hr hf h2 hu) (qbj hid hr hf h3 hw)).wp hF (by simp[ho]) hk
    ·cases h
   ·cases hc
  |method name=>
   simp only[cOp] at hc
   split at hc
   ·rename_i x1 hxs hys
    simp only[Wf] at hc
    obtain⟨y1,h1,rfl⟩:=hc
    simp only[qaA] at h
    split at h
    ·rename_i t v vs' hv
     split at h
     ·rename_i g hg
      cases h
      have e1:x = #[x1]:=by apply WN; simpa using hxs
      have e2:y = #[]:=by apply WN; simpa using hys
      obtain⟨fn,hm,hi⟩:=qb0 hid hg
      exact (qrr hr (by rw[e2] at ho; exact ho) e1 (qah hid hr hf h1 hv) ((hid.mt _ _ _).2 ⟨fn,hm,hi⟩)).wp hF (by simp[ho]) hk
     ·cases h
    ·cases h
   ·cases hc
  |_=>simp[cOp] at hc
 |extract x i=>
  rw[ho] at hc
  simp only[cOp,Wf] at hc
  obtain⟨y,hy,rfl⟩:=hc
  simp only[qaA] at h
  split at h
  ·rename_i vs hvs
   split at h
   ·rename_i u hu; cases h
    exact (qpm hr ho (qah hid hr hf hy hvs) hu).wp hF (by simp[ho]) hk
   ·cases h
  ·cases h
 |call c=>
  rw[ho] at hc
  simp only[cOp,qnY] at hc
  split at hc
  ·rename_i f hcal
   split at hc
   ·rename_i g xs h1 h2
    cases hc
    simp only[qaA] at h
    split at h
    ·rename_i vs hvs
     have hargs:=qbj hid hr hf h2 hvs
     obtain⟨k1,k2⟩:=qc7 (pre:=[]) (post:=[]) (xs:=[]) (zs:=[]) hC hr rfl hargs rfl (by simpa using h)
     rw[hid.fn f g h1] at k1 k2
     simp only[Wg,WD] at k2
     refine qjr (by simp[ho]) ?_ k2 hk
     simp only[execOp,ho,resolve,hcal,Act.eval,Deferred.ofValue,Sem.run_bind,Sem.run_pure,Result.andThen_ok,invoke]
     rw[qa5 k1]
     simp
     apply WN; simp
    ·cases h
   ·rename_i xs h1 h2
    split at hc
    ·rename_i y he
     cases hc
     simp only[qaA] at h
     split at h
     ·rename_i u hu
      cases h
      obtain⟨p,q1,q2⟩:=qzN h2
      exact (qv8 hr ho hcal he q1 rfl (qah hid hr hf q2 hu)).wp hF (by simp[ho]) hk
     ·cases h
    ·rename_i y z he
     cases hc
     simp only[qaA] at h
     split at h
     ·rename_i s n hs hn
      cases h
      obtain⟨p,q,q1,q2,q3⟩:=qAf h2
      exact (qyu hr ho hcal he q1 rfl (qah hid hr hf q2 hs) (qah hid hr hf q3 hn)).wp hF (by simp[ho]) hk
     ·cases h
    ·cases hc
   ·cases hc
  ·rename_i x hx hcal
   split at hc
   ·rename_i g xs h1 h2
    cases hc
    simp only[qaA] at h
    split at h
    ·rename_i id as bs vs hfn hvs
     have hargs:=qbj hid hr hf h2 hvs
     have hfv:=qah hid hr hf h1 hfn
     simp only[Rep] at hfv
     obtain⟨as',bs',e1,e2,e3⟩:=hfv
     obtain⟨k1,k2⟩:=qc7 hC hr e2 hargs e3 h
     refine qjr (by simp[ho]) ?_ k2 hk
     simp only[execOp,ho,resolve,hcal,e1,Deferred.ofValue,Sem.run_bind,Sem.run_pure,Result.andThen_ok,invoke]
     rw[qa5 k1]
     simp
    ·rename_i g' v' vs hfn hvs
     have hargs:=qbj hid hr hf h2 hvs
     have hfv:=qah hid hr hf h1 hfn
     simp only[Rep] at hfv
     obtain⟨t,nm,y,e1,e2,e3⟩:=hfv
     obtain⟨fn,hm,hi⟩:=(hid.mt _ _ _).1 e2
     have hall:Reps fid Γ (v'::vs) (y::c.args.toList.map a.eval):=by simp only[Reps]; exact⟨_,_,rfl,e3,hargs⟩
     obtain⟨k1,k2⟩:=qc7 (pre:=[]) (post:=[]) (xs:=[]) (zs:=[]) hC hr rfl hall rfl (by simpa using h)
     rw[hid.fn fn g' hi] at k1 k2
     simp only[Wg,WD] at k2
     refine qjr (by simp[ho]) ?_ k2 hk
     simp only[execOp,ho,resolve,hcal,e1,Deferred.ofValue,Sem.run_bind,Sem.run_pure,Result.andThen_ok,invoke]
     have q0:(#[Value.iface t y]++Array.map a.eval c.args)[0]?=some (.iface t y):=by
      rw[WU (by show 0<1; omega)]; rfl
     have q1:(#[Value.iface t y]++Array.map a.eval c.args).extract 1 (#[Value.iface t y]++Array.map a.eval c.args).size=Array.map a.eval c.args:=by
      apply WN; simp; try exact Ww (by simp)
     simp only[q0,q1]
     rw[qfJ hm,qa5 k1]
     try simp
     try (apply WN; simp)
    ·rename_i l vs hfn hvs
     have hargs:=qbj hid hr hf h2 hvs
     have hfv:=qah hid hr hf h1 hfn
     obtain⟨b,ys,fn,tmps,as,bd,q1,q2,q3⟩:=qjq hC hr (args := .yld l::vs) (xs:=a.eval x::c.args.toList.map a.eval) ⟨_,_,rfl,hfv,hargs⟩ h
     simp only[WW] at q1
     obtain⟨q0,rfl⟩:=q1
     refine qqf (by simp[ho]) ?_ q3 hk
     simp only[execOp,ho,resolve,hcal,q0,Deferred.ofValue,Sem.run_bind,Sem.run_pure,Result.andThen_ok,invoke]
     have e:(List.map a.eval c.args.toList).toArray=Array.map a.eval c.args:=by apply WN; simp
     rw[e] at q2
     simpa using q2
    ·cases h
   ·cases hc
  ·rename_i recv name hcal
   split at hc
   ·rename_i x xs h1 h2
    cases hc
    simp only[qaA] at h
    split at h
    ·rename_i t v vs hv hvs
     split at h
     ·rename_i g hg
      have hargs:=qbj hid hr hf h2 hvs
      have hfv:=qah hid hr hf h1 hv
      simp only[Rep] at hfv
      obtain⟨y,e1,e2⟩:=hfv
      obtain⟨fn,hm,hi⟩:=qb0 hid hg
      have hall:Reps fid Γ (v::vs) (y::c.args.toList.map a.eval):=by simp only[Reps]; exact⟨_,_,rfl,e2,hargs⟩
      obtain⟨k1,k2⟩:=qc7 (pre:=[]) (post:=[]) (xs:=[]) (zs:=[]) hC hr rfl hall rfl (by simpa using h)
      rw[hid.fn fn g hi] at k1 k2
      simp only[Wg,WD] at k2
      refine qjr (by simp[ho]) ?_ k2 hk
      simp only[execOp,ho,resolve,hcal,e1,Sem.run_bind,Sem.run_pure,Result.andThen_ok,invoke]
      have q0:(#[Value.iface (fid.ty t) y]++Array.map a.eval c.args)[0]?=some (.iface (fid.ty t) y):=by
       rw[WU (by show 0<1; omega)]; rfl
      have q1:(#[Value.iface (fid.ty t) y]++Array.map a.eval c.args).extract 1 (#[Value.iface (fid.ty t) y]++Array.map a.eval c.args).size=Array.map a.eval c.args:=by
       apply WN; simp; try exact Ww (by simp)
      simp only[q0,q1]
      rw[qfJ hm,qa5 k1]
      try simp
      try (apply WN; simp)
     ·cases h
    ·cases h
   ·cases hc
  ·rename_i b hcal
   split at hc
   ·rename_i x t hxs hts
    split at hc
    ·rename_i y h1 h2
     cases hc
     simp only[qaA] at h
     split at h
     ·rename_i u hu
      split at h
      ·rename_i n hn; cases h
       exact (qum hr ho hcal hxs hts (qah hid hr hf h2 hu) (.inl ⟨rfl,h1⟩) hn).wp hF (by simp[ho]) hk
      ·cases h
     ·cases h
    ·rename_i e y h1 h2
     cases hc
     simp only[qaA] at h
     split at h
     ·rename_i u hu
      split at h
      ·rename_i n hn; cases h
       exact (qum hr ho hcal hxs hts (qah hid hr hf h2 hu) (.inr (.inl ⟨rfl,_,h1⟩)) hn).wp hF (by simp[ho]) hk
      ·cases h
     ·cases h
    ·rename_i e e' y h1 h2
     cases hc
     simp only[qaA] at h
     split at h
     ·rename_i u hu
      split at h
      ·rename_i n hn; cases h
       exact (qum hr ho hcal hxs hts (qah hid hr hf h2 hu) (.inr (.inr ⟨rfl,_,_,h1⟩)) hn).wp hF (by simp[ho]) hk
      ·cases h
     ·cases h
    ·cases hc
   ·rename_i xs ts
    simp only[Wf] at hc
    obtain⟨ys,hys,rfl⟩:=hc
    simp only[qaA] at h
    split at h
    ·rename_i vs hvs
     split at h
     ·rename_i y ys' hl
      split at h
      ·rename_i r hr'; cases h
       exact (qza hr ho hcal (qbj hid hr hf hys hvs) hl hr').wp hF (by simp[ho]) hk
      ·cases h
     ·cases h
    ·cases h
   ·rename_i xs ts
    simp only[Wf] at hc
    obtain⟨ys,hys,rfl⟩:=hc
    simp only[qaA] at h
    split at h
    ·rename_i vs hvs
     split at h
     ·rename_i y ys' hl
      split at h
      ·rename_i r hr'; cases h
       exact (qzb hr ho hcal (qbj hid hr hf hys hvs) hl hr').wp hF (by simp[ho]) hk
      ·cases h
     ·cases h
    ·cases h
   ·rename_i s x ts tx hxs hts
    split at hc
    ·rename_i e ex s' x' h1 h2 h3 h4
     split at hc
     ·rename_i n b z hn hb hz
      split at hc
      ·rename_i hzn
       cases hc
       split at h
       ·simp only[qaA] at h
        split at h
        ·rename_i p q hp hq
         exact (qk6 hr ho hcal hxs hts h1 (.inl ⟨_,h2⟩) hn hb hz hzn (qah hid hr hf h3 hp) (qah hid hr hf h4 hq) h).wp hF (by simp[ho]) hk
        ·cases h
       ·simp only[qaA] at h
        split at h
        ·rename_i p q hp hq
         exact (qmp hr ho hcal hxs hts h1 (.inl ⟨_,h2⟩) hn hb hz hzn (qah hid hr hf h3 hp) (qah hid hr hf h4 hq) h).wp hF (by simp[ho]) hk
        ·cases h
      ·cases hc
     ·cases hc
    ·rename_i e s' x' h1 h2 h3 h4
     split at hc
     ·rename_i n b z hn hb hz
      split at hc
      ·rename_i hzn
       cases hc
       split at h
       ·simp only[qaA] at h
        split at h
        ·rename_i p q hp hq
         exact (qk6 hr ho hcal hxs hts h1 (.inr h2) hn hb hz hzn (qah hid hr hf h3 hp) (qah hid hr hf h4 hq) h).wp hF (by simp[ho]) hk
        ·cases h
       ·simp only[qaA] at h
        split at h
        ·rename_i p q hp hq
         exact (qmp hr ho hcal hxs hts h1 (.inr h2) hn hb hz hzn (qah hid hr hf h3 hp) (qah hid hr hf h4 hq) h).wp hF (by simp[ho]) hk
        ·cases h
      ·cases hc
     ·cases hc
    ·cases hc
   ·cases hc
 |panic x=>
  rw[ho] at hc
  simp only[cOp,Wf] at hc
  obtain⟨y,hy,rfl⟩:=hc
  simp[qaA] at h
 |_=>rw[ho] at hc; simp[cOp] at hc
theorem qki (hid:Ties P ids fid) (hC:CSound P fid C) {op:O} (hc:cOp P ids N o.op=some op) (hr:Real fid Γ) (hf:FrRep fid Γ N fr a.tmps) (h:qbD C fr Γ.σ op=some (v,σ'))
  (hk : ∀ Γ' x,Γ'.σ = σ'->Real fid Γ'->Step Γ Γ'->Rep fid Γ' v x->Q (.panic [{ v:=x,recovered:=false }]) a Γ'.w):o.wpIn (FR ro) 0 P a Γ.w K Q:=by
 have other:op.calls=false->False:=fun hn=>by rw[qly hn] at h; cases h
 cases ho:o.op with
 |call c=>
  rw[ho] at hc
  simp only[cOp,qnY] at hc
  split at hc
  ·rename_i f hcal
   split at hc
   ·rename_i g xs h1 h2
    cases hc
    simp only[qbD] at h
    split at h
    ·rename_i vs hvs
     have hargs:=qbj hid hr hf h2 hvs
     obtain⟨k1,k2⟩:=qcM (pre:=[]) (post:=[]) (xs:=[]) (zs:=[]) hC hr rfl hargs rfl (by simpa using h)
     rw[hid.fn f g h1] at k1 k2
     simp only[Wg,WD] at k2
     refine qhe (by simp[ho]) ?_ k2 hk
     simp only[execOp,ho,resolve,hcal,Act.eval,Deferred.ofValue,Sem.run_bind,Sem.run_pure,Result.andThen_ok,invoke]
     rw[qa5 k1]
     simp
     apply WN; simp
    ·cases h
   ·exfalso
    split at hc
    ·cases hc; exact other rfl
    ·cases hc; exact other rfl
    ·cases hc
   ·cases hc
  ·rename_i x hx hcal
   split at hc
   ·rename_i g xs h1 h2
    cases hc
    simp only[qbD] at h
    split at h
    ·rename_i id as bs vs hfn hvs
     have hargs:=qbj hid hr hf h2 hvs
     have hfv:=qah hid hr hf h1 hfn
     simp only[Rep] at hfv
     obtain⟨as',bs',e1,e2,e3⟩:=hfv
     obtain⟨k1,k2⟩:=qcM hC hr e2 hargs e3 h
     refine qhe (by simp[ho]) ?_ k2 hk
     simp only[execOp,ho,resolve,hcal,e1,Deferred.ofValue,Sem.run_bind,Sem.run_pure,Result.andThen_ok,invoke]
     rw[qa5 k1]
     simp
    ·rename_i g' v' vs hfn hvs
     have hargs:=qbj hid hr hf h2 hvs
     have hfv:=qah hid hr hf h1 hfn
     simp only[Rep] at hfv
     obtain⟨t,nm,y,e1,e2,e3⟩:=hfv
     obtain⟨fn,hm,hi⟩:=(hid.mt _ _ _).1 e2
     have hall:Reps fid Γ (v'::vs) (y::c.args.toList.map a.eval):=by simp only[Reps]; exact⟨_,_,rfl,e3,hargs⟩
     obtain⟨k1,k2⟩:=qcM (pre:=[]) (post:=[]) (xs:=[]) (zs:=[]) hC hr rfl hall rfl (by simpa using h)
     rw[hid.fn fn g' hi] at k1 k2
     simp only[Wg,WD] at k2
     refine qhe (by simp[ho]) ?_ k2 hk
     simp only[execOp,ho,resolve,hcal,e1,Deferred.ofValue,Sem.run_bind,Sem.run_pure,Result.andThen_ok,invoke]
     have q0:(#[Value.iface t y]++Array.map a.eval c.args)[0]?=some (.iface t y):=by
      rw[WU (by show 0<1; omega)]; rfl
     have q1:(#[Value.iface t y]++Array.map a.eval c.args).extract 1 (#[Value.iface t y]++Array.map a.eval c.args).size=Array.map a.eval c.args:=by
      apply WN; simp; try exact Ww (by simp)
     simp only[q0,q1]
     rw[qfJ hm,qa5 k1]
     try simp
     try (apply WN; simp)
    ·cases h
   ·cases hc
  ·rename_i recv name hcal
   split at hc
   ·rename_i x xs h1 h2
    cases hc
    simp only[qbD] at h
    split at h
    ·rename_i t v vs hv hvs
     split at h
     ·rename_i g hg
      have hargs:=qbj hid hr hf h2 hvs
      have hfv:=qah hid hr hf h1 hv
      simp only[Rep] at hfv
      obtain⟨y,e1,e2⟩:=hfv
      obtain⟨fn,hm,hi⟩:=qb0 hid hg
      have hall:Reps fid Γ (v::vs) (y::c.args.toList.map a.eval):=by simp only[Reps]; exact⟨_,_,rfl,e2,hargs⟩
      obtain⟨k1,k2⟩:=qcM (pre:=[]) (post:=[]) (xs:=[]) (zs:=[]) hC hr rfl hall rfl (by simpa using h)
      rw[hid.fn fn g hi] at k1 k2
      simp only[Wg,WD] at k2
      refine qhe (by simp[ho]) ?_ k2 hk
      simp only[execOp,ho,resolve,hcal,e1,Sem.run_bind,Sem.run_pure,Result.andThen_ok,invoke]
      have q0:(#[Value.iface (fid.ty t) y]++Array.map a.eval c.args)[0]?=some (.iface (fid.ty t) y):=by
       rw[WU (by show 0<1; omega)]; rfl
      have q1:(#[Value.iface (fid.ty t) y]++Array.map a.eval c.args).extract 1 (#[Value.iface (fid.ty t) y]++Array.map a.eval c.args).size=Array.map a.eval c.args:=by
       apply WN; simp; try exact Ww (by simp)
      simp only[q0,q1]
      rw[qfJ hm,qa5 k1]
      try simp
      try (apply WN; simp)
     ·cases h
    ·cases h
   ·cases hc
  ·refine (other ?_).elim
   clear h other
   repeat' (first
    | (cases hc; done)
    | (cases hc; rfl)
    | (cases hc; split<;>rfl)
    | (simp only[Wf] at hc; obtain⟨_,_,rfl⟩:=hc; rfl)
    |split at hc)
 |panic x=>
  rw[ho] at hc
  simp only[cOp,Wf] at hc
  obtain⟨y,hy,rfl⟩:=hc
  simp only[qbD] at h
  split at h
  ·rename_i t u hu
   cases h
   have hv:=qah hid hr hf hy hu
   refine⟨fun f _=>trivial,?_⟩
   rw[Oper.semAt_eq _ _ _ (by simp[ho])]
   have hrun:(execOp a.eval o).run P Γ.w = .halt (.panic (a.eval x)) Γ.w:=by
    have hv':=hv
    simp only[Rep] at hv'
    obtain⟨w,e,_⟩:=hv'
    simp only[execOp,ho,Instr.panic,e]
    rfl
   rw[hrun]
   exact hk Γ _ rfl hr (.refl _) hv
  ·cases h
 |makeFunc fn x y=>
  refine (other ?_).elim
  clear h other
  rw[ho] at hc
  cases fn<;>simp only[cOp] at hc
  all_goals repeat' (first
   | (cases hc; done)
   | (cases hc; rfl)
   | (simp only[Wf] at hc; obtain⟨_,_,rfl⟩:=hc; rfl)
   |split at hc)
 |_=>
  refine (other ?_).elim
  clear h other
  rw[ho] at hc
  simp only[cOp] at hc
  repeat' (first
   | (cases hc; done)
   | (cases hc; rfl)
   | (simp only[Wf] at hc; obtain⟨_,_,rfl⟩:=hc; rfl)
   | (simp only[Wf] at hc; obtain⟨_,_,rfl⟩:=hc; split<;>rfl)
   |split at hc)
end
end
end Go.Pm
