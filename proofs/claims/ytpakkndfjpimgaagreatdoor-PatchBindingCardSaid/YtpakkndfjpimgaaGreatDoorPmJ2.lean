/- Rows of the program's own: grown, cut, handed on, handed back. Rows and objects whose type is known; strings of rows; functions without a body. -/
import Derived.Test.YtpakkndfjpimgaaGreatDoorPmI
import Derived.Laws.BytesString
import Derived.Lib.UnsafeStr
set_option linter.unusedSimpArgs false
set_option linter.unusedVariables false
section SJ2
namespace Go.Pm
variable {P:Program} {ids:Ids} {fid:Fid} {N:Nat}
section
variable {Γ : Ctx} {fr:Fr} {ρ : Operand->Value} {o:Oper} {v:V} {σ':S}
theorem qcv (hr:Real fid Γ) {l b:Nat} {cs:List V} (ho : Γ.σ[l]?=some (.vec cs)) (hm : Γ.μ l=some b) :
  ∃ vs arr e,Γ.w.heap[b]?=some (.cells arr e (0,0))/\cs.length<=arr.size/\vs=arr.toList.take cs.length/\Reps fid Γ cs vs/\(∀ v∈vs,v.oneCell'=true) /\ Γ.F b=0 /\ ∀ j v,vs[j]?=some v -> Γ.w.cell? ⟨b,j,none⟩=some v:=by
 have:=hr.obs l _ b ho hm
 simp only[RepOb] at this
 obtain⟨h1,arr,e,h2,h3,h4,h5⟩:=this
 refine⟨_,arr,e,h2,h3,rfl,h4,h5,h1,fun j x hj=>?_⟩
 simp only[World.cell?,h2]
 simpa using qdX hj
theorem srcO_row (hr:Real fid Γ) {u:V} {x:Value} {xs:List V} {m:Nat} (hu:Rep fid Γ u x) (h:qjF Γ.σ u=some (xs,m)) :
  (∃ a,x = .slice a 0 0/\xs=[]/\m=0)\/(∃ s,u = .dat (.lit (.string s))/\x = .string s/\xs=(qcO s).map .dat/\m=s.size) \/
  ∃ b off cap vs,x = .slice (some ⟨b,off,none⟩) m cap/\Reps fid Γ xs vs /\ ∀ j v,vs[j]?=some v -> Γ.w.cell? ⟨b,off+j,none⟩=some v:=by
 unfold qjF at h
 split at h
 ·rename_i a
  cases h
  exact .inl ⟨a,(qaf hu).1,rfl,rfl⟩
 ·cases h
  simp only[Rep,RepD] at hu
  obtain⟨b,o',cap,vs,hx,_,_,h3,h4⟩:=hu
  exact .inr (.inr ⟨b,o',cap,vs,hx,Reps_dat.2 h3,h4.1⟩)
 ·cases h
  simp only[Rep] at hu
  obtain⟨b,cap,vs,k,hx,_,h3,h4,_⟩:=hu
  exact .inr (.inr ⟨b,0,cap,vs,hx,Reps_dat.2 h3,h4.1⟩)
 ·rename_i s
  cases h
  exact .inr (.inl ⟨s,rfl,(qaf hu).1,rfl,rfl⟩)
 ·rename_i l n sz'
  simp only[Rep] at hu
  obtain⟨a,cap,hx,h2,h0,h3,h4⟩:=hu
  split at h
  ·rename_i cs hcs
   split at h
   ·rename_i hlen
    cases h
    obtain⟨b,arr,e,g1,rfl,g3,g4⟩:=(h4 _ _ hcs rfl).2 hlen
    obtain⟨vs,arr',e',k1,k2,k3,k4,k5,k6,k7⟩:=qcv hr hcs g1
    exact .inr (.inr ⟨b,0,cap,vs,hx,k4,by simpa using k7⟩)
   ·cases h
  ·rename_i ds hds
   split at h
   ·rename_i hlen
    cases h
    obtain⟨b,arr,e,g1,rfl,g3,g4⟩:=(h4 _ _ hds rfl).2 (by simpa using hlen)
    obtain⟨vs,k1,k2⟩:=qdY hr hds g1
    exact .inr (.inr ⟨b,0,cap,vs,hx,Reps_dat.2 k1,k2.1⟩)
   ·cases h
  ·cases h
 ·rename_i l off n cap sz'
  simp only[Rep] at hu
  obtain⟨b,hm,hx,h2,h3⟩:=hu
  split at h
  ·rename_i cs hcs
   split at h
   ·rename_i hle
    cases h
    obtain⟨_,arr,e,g2,g3⟩:=hr.obs l _ b hcs hm
    refine .inr (.inr ⟨b,off,cap,_,hx,qbt (qbM g3 off) (m*sz'),fun j v hj=>?_⟩)
    simp only[World.cell?,g2]
    rw[List.getElem?_take] at hj
    split at hj
    ·rw[List.getElem?_drop] at hj
     simpa using hj
    ·cases hj
   ·cases h
  ·cases h
 ·cases h
theorem qeV (hr:Real fid Γ) {u:V} {x:Value} {xs:List V} {m sz:Nat} (hu:Rep fid Γ u x) (h:qjF Γ.σ u=some (xs,m)) (hl:xs.length=m*sz) (h1:xs.all V.one=true) :
  ∃ vs,Reps fid Γ xs vs/\(∀ v∈vs,v.oneCell'=true)/\(∀ w',(Builtin.lenOf x).run P w' = .ok m w') /\
   ∀ w':World,(∀ b i,w'.cell? ⟨b,i,none⟩ = Γ.w.cell? ⟨b,i,none⟩)->(Builtin.firstCells sz m x).run P w' = .ok vs.toArray w':=by
 rcases srcO_row hr hu h with ⟨a,rfl,rfl,rfl⟩ | ⟨s,rfl,rfl,rfl,rfl⟩ | ⟨b,off,cap,vs,rfl,hv,hc⟩
 ·refine⟨[],by simp[Reps],by simp,fun w'=>by simp[Builtin.lenOf],fun w' _=>?_⟩
  cases a with
  | none=>simp[Builtin.firstCells]
  | some a=>simp[Builtin.firstCells,loadCells,loadCellsFrom]
 ·exact⟨_,Reps_dat.2 (qeM _ _ s),fun v hv=>by obtain⟨c,_,rfl⟩:=List.mem_map.1 hv; rfl,fun w'=>by simp[Builtin.lenOf],fun w' _=>qbP sz s w'⟩
 ·refine⟨vs,hv,qbB hv h1,fun w'=>by simp[Builtin.lenOf],fun w' hw=>?_⟩
  have:=qau (P:=P) (w:=w') (b:=b) (o:=off) (vs:=vs) (fun j v hj=>by rw[hw]; exact hc j v hj)
  rw[Reps.length hv,hl] at this
  simp only[Builtin.firstCells,this]
section
variable {ts tx e ex:TypeId} {s x:Operand} {c:Call} {sz bytes:Nat} {z:Value}
theorem qf2 (hr:Real fid Γ) (ho:o.op = .call c) (hcal:c.callee = .builtin .append) (hargs:c.args.toList=[s,x]) (hats:c.argTypes.toList=[ts,tx])
  (hts:P.underlying ts=some (.slice e)) (htx:(∃ ex,P.underlying tx=some (.slice ex))\/P.underlying tx=some .string) (hsz:qak P e=some sz) (hby:qcB P e=some bytes) (hz:qbu P e=some z) (hzn:z.cells.size=sz)
  {a b u:V} (ha:Rep fid Γ a (ρ s)) (hb:Rep fid Γ b (ρ x)) (h:appendO Γ.σ sz bytes a b=some (u,σ')):Comes P fid Γ ρ o u σ':=by
 unfold appendO at h
 split at h
 ·cases h
 ·rename_i xs m hsrc
  split at h
  ·rename_i hcond
   obtain⟨hxl,hsz0,hone⟩:=hcond
   obtain⟨news,n1,n2,n3,n4⟩:=qeV (P:=P) hr hb hsrc hxl hone
   have hnl:news.length=m*sz:=by rw[Reps.length n1,hxl]
   split at h
   ·rename_i hm
    subst hm
    have hnews:news=[]:=by
     apply List.eq_nil_of_length_eq_zero; rw[hnl]; simp
    have fin : ∀ base n cap,ρ s = .slice base n cap->n<=cap->(u=a /\ σ' = Γ.σ)->Comes P fid Γ ρ o u σ':=fun base n cap hs hle hu=>by
     obtain⟨rfl,rfl⟩:=hu
     refine .pure hr (x := ρ s) ?_ ha
     refine qaS ho hcal hargs hats ?_
     rw[hs]
     have:=qcF (P:=P) (o:=o) hts htx hsz (base:=base) (n3 Γ.w) (show n+0<=cap by omega) (n4 Γ.w fun _ _=>rfl) (w' := Γ.w) (by rw[hnews]; cases base<;>simp[storeCells])
     simpa using this
    split at h
    ·cases h
     exact fin _ _ _ (qaf ha).1 (Nat.le_refl _) ⟨rfl,rfl⟩
    ·cases h
     have ha':=ha
     simp only[Rep,RepD] at ha'
     obtain⟨b',o',cap,vs,hs,h2,_⟩:=ha'
     exact fin _ _ _ hs h2 ⟨rfl,rfl⟩
    ·cases h
     have ha':=ha
     simp only[Rep] at ha'
     obtain⟨b',cap,hs,h2,_⟩:=ha'
     exact fin _ _ _ hs h2 ⟨rfl,rfl⟩
    ·cases h
   ·rename_i hm
    have fresh : ∀ {olds:List Value} {cs:List V} {base:Option Addr} {n cap:Nat},ρ s = .slice base n cap->cap<n+m->qas (n+m) bytes=true->Reps fid Γ cs olds->cs.length=n*sz ->
      (∀ w':World,(∀ b i,w'.cell? ⟨b,i,none⟩ = Γ.w.cell? ⟨b,i,none⟩)->(Builtin.firstCells sz n (.slice base n cap)).run P w' = .ok olds.toArray w') ->
      ∃ (newCap:Nat) (rest:Array Value),n+m<=newCap/\(n+m)*sz+rest.size=newCap*sz/\(cs++xs).length=(n+m)*sz/\Reps fid Γ (cs++xs) (olds++news) /\
       (execOp ρ o).run P Γ.w = .ok (.value (.slice (some ⟨Γ.w.heap.size,0,none⟩) (n+m) newCap)) (Γ.w.drew.alloc (.cells ((olds++news).toArray++rest) e)):=by
     intro olds cs base n cap hs hlt hroom hd hcl hold
     obtain⟨newCap,rest,r1,r2,r3⟩:=qef (P:=P) (o:=o) hts htx hsz hby hz n3 hlt hroom hold n4
     refine⟨newCap,rest,r1,?_,?_,Reps_append.2 ⟨_,_,rfl,hd,n1⟩,qaS ho hcal hargs hats (by rw[hs]; exact r3)⟩
     ·rw[r2,hzn,<- Nat.add_mul]; congr 1; omega
     ·rw[List.length_append,hcl,hxl,Nat.add_mul]
    obtain⟨d1,d2⟩:=qfj hr
    have obok : ∀ {Γ':Ctx} {olds:List Value} {cs:List V} {rest:Array Value},Ext ⟨Γ.σ,Γ.μ,Γ.F,Γ.w.drew⟩ Γ' -> Γ'.w = Γ.w.drew.alloc (.cells ((olds++news).toArray++rest) e) -> Γ'.F Γ.w.heap.size=0 ->
      Reps fid Γ (cs++xs) (olds++news)->(∀ v∈olds,v.oneCell'=true)->RepOb fid Γ' Γ.w.heap.size (.vec (cs++xs)):=by
     intro Γ' olds cs rest hx hw hF g1 g2
     have hlen:=Reps.length g1
     have htk:((olds++news).toArray++rest).toList.take (cs++xs).length=olds++news:=by
      rw[<- hlen,Array.toList_append]; exact List.take_left' rfl
     simp only[RepOb]
     refine⟨hF,_,e,by rw[hw]; exact qad Γ.w.drew _,by rw[<- hlen]; simp,?_,?_⟩
     ·rw[htk]; exact Reps.ext hx _ _ (Reps.ext d2.ext _ _ g1)
     ·rw[htk]
      intro v hv
      rcases List.mem_append.1 hv with hv | hv
      ·exact g2 v hv
      ·exact n2 v hv
    have grown : ∀ {Γ':Ctx} {olds:List Value} {cs:List V} {rest:Array Value} {n newCap l:Nat},Γ'.w = Γ.w.drew.alloc (.cells ((olds++news).toArray++rest) e) ->
      Γ'.σ[l]?=some (.vec (cs++xs)) -> Γ'.μ l=some Γ.w.heap.size->n+m<=newCap->(n+m)*sz+rest.size=newCap*sz->(cs++xs).length=(n+m)*sz->Reps fid Γ (cs++xs) (olds++news) ->
      Rep fid Γ' (.own l (n+m) sz) (.slice (some ⟨Γ.w.heap.size,0,none⟩) (n+m) newCap):=by
     intro Γ' olds cs rest n newCap l hw hσ hμ g1 g2 g3 g5
     have hlen:=Reps.length g5
     simp only[Rep]
     refine⟨_,_,rfl,g1,hsz0,⟨_,hσ,rfl⟩,fun ob cs' k1 k2=>?_⟩
     rw[hσ] at k1; cases k1
     simp only[Ob.rows,Option.some.injEq] at k2; subst k2
     refine⟨by rw[g3]; exact Nat.le_refl _,fun _=>⟨Γ.w.heap.size,_,e,hμ,rfl,by rw[hw]; exact qad Γ.w.drew _,?_⟩⟩
     simp only[Array.size_append,List.size_toArray,hlen,g3]
     omega
    split at h
    ·split at h
     ·rename_i hroom
      cases h
      obtain⟨newCap,rest,f1,f2,f3,f5,f7⟩:=fresh (olds:=[]) (cs:=[]) (qaf ha).1 (show 0<0+m by omega) (by simpa using hroom) (by simp[Reps]) (by simp)
       (fun w' _=>by simp[Builtin.firstCells])
      obtain⟨k1,k2⟩:=qbi d1 (.vec xs) (.cells (([]++news).toArray++rest) e) 0
       (fun Γ' e' hx=>by
        have:=obok (cs:=[]) (olds:=[]) (rest:=rest) hx (by subst e'; rfl) (by subst e'; simp[grow]) f5 (by simp)
        simpa using this) (fun h=>absurd h (Nat.lt_irrefl _))
      refine⟨_,_,rfl,k1,d2.trans k2,?_,.inl f7⟩
      have:=grown (cs:=[]) (olds:=[]) (rest:=rest) (n:=0) (newCap:=newCap) (l := Γ.σ.length) (Γ':=⟨Γ.σ ++ [.vec xs],bind Γ.μ Γ.σ.length Γ.w.drew.heap.size,grow Γ.F Γ.w.drew.heap.size 0,Γ.w.drew.alloc (.cells (([]++news).toArray++rest) e)⟩) rfl (by simp) (by simp[bind]) f1 f2 f3 f5
      simpa using this
     ·cases h
    ·rename_i cs n
     split at h
     ·rename_i hcond
      obtain⟨hroom,hcl⟩:=hcond
      cases h
      have ha':=ha
      simp only[Rep,RepD] at ha'
      obtain⟨b',o',cap,olds,hs,h2,h3,h4,h5⟩:=ha'
      have hcap:=h3 trivial
      subst hcap
      obtain⟨newCap,rest,f1,f2,f3,f5,f7⟩:=fresh (cs:=cs.map .dat) hs (show cap<cap+m by omega) hroom (Reps_dat.2 h4) (by simpa using hcl) (fun w' hw=>by
       have:=qau (P:=P) (w:=w') (b:=b') (o:=o') (vs:=olds) (fun j v hj=>by rw[hw]; exact h5.1 j v hj)
       rw[h4.length,hcl] at this
       simp only[Builtin.firstCells,this])
      obtain⟨k1,k2⟩:=qbi d1 (.vec (cs.map .dat++xs)) (.cells ((olds++news).toArray++rest) e) 0
       (fun Γ' e' hx=>obok hx (by subst e'; rfl) (by subst e'; simp[grow]) f5 h5.2.2) (fun h=>absurd h (Nat.lt_irrefl _))
      exact⟨_,_,rfl,k1,d2.trans k2,grown rfl (by simp) (by simp[bind]) f1 f2 f3 f5,.inl f7⟩
     ·cases h
    ·rename_i l n sz'
     split at h
     ·rename_i cs hcs
      split at h
      ·rename_i hcond
       obtain⟨hroom,hcl,rfl⟩:=hcond
       cases h
       have ha':=ha
       simp only[Rep] at ha'
       obtain⟨ad,cap,hs,h2,h0,h3,h4⟩:=ha'
       obtain⟨b',arr,e',q1,rfl,q2,q3⟩:=(h4 _ _ hcs rfl).2 hcl
       obtain⟨olds,arr',e2,k1,k2,k3,k4,k5,k6,k7⟩:=qcv hr hcs q1
       rw[q2] at k1; cases k1
       have hol:olds.length=n*sz':=by rw[Reps.length k4,hcl]
       have hpos:0<m*sz':=Nat.mul_pos (by omega) hsz0
       by_cases hfit:n+m<=cap
       ·have hbd:(n+m)*sz'<=cap*sz':=Nat.mul_le_mul_right _ hfit
        rw[Nat.add_mul] at hbd
        obtain⟨w',s1,s2,arr',s3,s4⟩:=qa9 (P:=P) news 0 Γ.w b' (n*sz') arr e' q2 n2 (by rw[hnl]; omega)
        have hlen':arr'.size=arr.size:=by
         have:=congrArg List.length s4
         simp[hnl] at this
         omega
        have hnl2:(cs++xs).length=n*sz'+m*sz':=by rw[List.length_append,hcl,hxl]
        have htk:arr'.toList.take (cs++xs).length=olds++news:=by
         rw[s4,hnl2,k3,hcl,Nat.add_zero,<- List.append_assoc]
         exact List.take_left' (by simp[hnl]; omega)
        obtain⟨u1,u2⟩:=qjm hr hcs q1 (cs':=cs++xs) (by simp) s2 q2 s3 hlen' (fun hx=>by
         simp only[RepOb]
         refine⟨k6,arr',e',s3,by rw[hnl2,hlen']; omega,?_,?_⟩
         ·rw[htk]; exact Reps.ext hx _ _ (Reps_append.2 ⟨_,_,rfl,k4,n1⟩)
         ·rw[htk]
          intro v hv
          rcases List.mem_append.1 hv with hv | hv
          ·exact k5 v hv
          ·exact n2 v hv)
        refine⟨_,.slice (some ⟨b',0,none⟩) (n+m) cap,rfl,u1,u2,?_,.inl (qaS ho hcal hargs hats ?_)⟩
        ·simp only[Rep]
         refine⟨_,_,rfl,hfit,hsz0,⟨.vec (cs++xs),by simp[(List.getElem?_eq_some_iff.1 hcs).1],rfl⟩,fun ob cs' j1 j2=>?_⟩
         have:ob = .vec (cs++xs):=by simpa [(List.getElem?_eq_some_iff.1 hcs).1] using j1.symm
         subst this
         simp only[Ob.rows,Option.some.injEq] at j2; subst j2
         exact⟨by rw[hnl2,Nat.add_mul]; exact Nat.le_refl _,fun _=>⟨b',arr',e',q1,rfl,s3,by rw[hlen']; exact q3⟩⟩
        ·rw[hs]
         refine qcF (P:=P) (o:=o) hts htx hsz (n3 Γ.w) hfit (n4 Γ.w fun _ _=>rfl) ?_
         simp only[qaI,Nat.zero_add]
         exact s1
       ·obtain⟨newCap,rest,f1,f2,f3,f5,f7⟩:=fresh hs (show cap<n+m by omega) hroom k4 hcl (fun w' hw=>by
         have:=qau (P:=P) (w:=w') (b:=b') (o:=0) (vs:=olds) (fun j v hj=>by rw[hw,Nat.zero_add]; exact k7 j v hj)
         rw[hol] at this
         simp only[Builtin.firstCells,this])
        obtain⟨j1,j2⟩:=qjQ d1 hcs (by simp[q1]) (cs':=cs++xs) (by rw[List.length_append,hxl]; omega) ((olds++news).toArray++rest) e
         (fun hx=>obok hx rfl (by simp[grow]) f5 k5)
        exact⟨_,_,rfl,j1,d2.trans j2,grown rfl (by simp[(List.getElem?_eq_some_iff.1 hcs).1]) (by simp[bind]) f1 f2 f3 f5,.inl f7⟩
      ·cases h
     ·cases h
    ·cases h
  ·cases h
end
theorem ql1 (hr:Real fid Γ) {t e:TypeId} {n:Nat} {x:Operand} {p u:V} {lo hi:Option V} {lx hx:Option Operand} (ho:o.op = .slice t x lx hx none) (hp:Rep fid Γ p (ρ x))
  (ht:P.underlying t=some (.slice e)) (hn:qak P e=some n) (h1:qf1 fid Γ ρ lo lx) (h2:qf1 fid Γ ρ hi hx)
  (h:qkW Γ.σ n lo hi p=some (u,σ')):Comes P fid Γ ρ o u σ':=by
 unfold qkW at h
 split at h
 ·rename_i l len sz'
  split at h
  ·rename_i cs hcs
   split at h
   ·rename_i hh eh
    split at h
    ·rename_i el
     split at h
     ·rename_i hcond
      obtain⟨rfl,hcl⟩:=hcond
      cases h
      simp only[Rep] at hp
      obtain⟨ad,cap,hs,g2,g0,g3,g4⟩:=hp
      obtain⟨b,arr,e',q1,rfl,q2,q3⟩:=(g4 _ _ hcs rfl).2 hcl
      obtain⟨olds,arr',e2,k1,k2,k3,k4,k5,k6,k7⟩:=qcv hr hcs q1
      rw[q2] at k1; cases k1
      have a2:hh<=len:=by rcases qay h2 eh with ⟨_,rfl⟩ | ⟨_,_,i',_,_,i3,i4,rfl⟩<;>omega
      have hle:hh*sz'<=len*sz':=Nat.mul_le_mul_right _ a2
      have hcl2:(cs.take (hh*sz')).length=hh*sz':=by simp; omega
      have htk:arr.toList.take (cs.take (hh*sz')).length=olds.take (hh*sz'):=by
       rw[hcl2,k3,List.take_take]; congr 1; omega
      obtain⟨u1,u2⟩:=qle hr hcs q1 (cs':=cs.take (hh*sz')) (fun hx=>by
       simp only[RepOb]
       refine⟨k6,arr,e',q2,by rw[hcl2]; omega,?_,?_⟩
       ·rw[htk]; exact Reps.ext hx _ _ (qbt k4 _)
       ·rw[htk]; intro v hv; exact k5 v (List.mem_of_mem_take hv))
      refine⟨_,.slice (some ⟨b,0,none⟩) hh cap,rfl,u1,u2,?_,.inl ?_⟩
      ·simp only[Rep]
       have hlast:(Γ.σ.set l .dead++[Ob.vec (cs.take (hh*sz'))])[Γ.σ.length]?=some (.vec (cs.take (hh*sz'))):=by
        rw[List.getElem?_append_right (by simp)]; simp
       refine⟨_,_,rfl,by omega,g0,⟨_,hlast,rfl⟩,fun ob cs' j1 j2=>?_⟩
       rw[hlast] at j1; cases j1
       simp only[Ob.rows,Option.some.injEq] at j2; subst j2
       exact⟨by rw[hcl2]; exact Nat.le_refl _,fun _=>⟨b,arr,e',by simp[pass,q1],rfl,q2,q3⟩⟩
      ·have hb:=qbj (P:=P) (isSl:=true) h1 h2 g2 eh el Γ.w
       simp only[execOp,ho,Instr.sliceAt,Sem.run_bind,qab ht,Result.andThen_ok,Instr.slice,hs,Option.map_none,hb,qan hn,Sem.run_pure]
       by_cases hc:cap=0
       ·simp[hc]
       ·simp[hc,qaI]
     ·cases h
    ·cases h
   ·cases h
  ·cases h
 ·split at h
  ·rename_i v hv
   cases h
   exact c_slice hr ho hp ht hn h1 h2 hv
  ·cases h
theorem qeW (hr:Real fid Γ) {v:V} {x:Value} (h:Rep fid Γ v x) : ∃ Γ':Ctx,Γ'.σ = (qht Γ.σ v).2 /\ Γ'.w = Γ.w/\Real fid Γ'/\Step Γ Γ'/\Rep fid Γ' (qht Γ.σ v).1 x:=by
 unfold qht
 split
 ·rename_i l n sz
  split
  ·rename_i cs hcs
   split
   ·rename_i hlen
    split
    ·rename_i ds hds
     have hcd:=qbN hds
     simp only[Rep] at h
     obtain⟨ad,cap,hs,g2,g0,g3,g4⟩:=h
     obtain⟨b,arr,e',q1,rfl,q2,q3⟩:=(g4 _ _ hcs rfl).2 hlen
     obtain⟨olds,arr',e2,k1,k2,k3,k4,k5,k6,k7⟩:=qcv hr hcs q1
     rw[q2] at k1; cases k1
     have hl:ds.length=cs.length:=by rw[hcd]; simp
     have hD:RepDs Γ.F Γ.w ds olds:=by rw[hcd] at k4; exact Reps_dat.1 k4
     obtain⟨u1,u2⟩:=qh6 hr hcs q1 hl (fun hx=>by
      simp only[RepOb]
      refine⟨by simp[grow],arr,e',q2,by omega,?_,?_⟩
      ·have e:arr.toList.take ds.length=olds:=by rw[hl,<- k3]
       rw[e]; exact RepDs.ext hx _ _ hD
      ·have e:arr.toList.take ds.length=olds:=by rw[hl,<- k3]
       rw[e]; exact k5)
     refine⟨⟨Γ.σ.set l (.froz ds),Γ.μ,grow Γ.F b ds.length,Γ.w⟩,rfl,rfl,u1,u2,?_⟩
     simp only[Rep,RepD]
     refine⟨b,0,cap,olds,hs,g2,by simp,RepDs.ext u2.ext _ _ hD,fun j v hj=>?_,fun _=>?_,k5⟩
     ·rw[Nat.zero_add]; exact k7 j v hj
     ·simp[grow,hD.length]
    ·exact⟨Γ,rfl,rfl,hr,.refl _,h⟩
   ·exact⟨Γ,rfl,rfl,hr,.refl _,h⟩
  ·rename_i ds hds
   split
   ·rename_i hlen
    refine⟨Γ,rfl,rfl,hr,.refl _,?_⟩
    simp only[Rep] at h
    obtain⟨ad,cap,hs,g2,g0,g3,g4⟩:=h
    obtain⟨b,arr,e',q1,rfl,q2,q3⟩:=(g4 _ _ hds rfl).2 (by simpa using hlen)
    obtain⟨vs,k1,k2⟩:=qdY hr hds q1
    simp only[Rep,RepD]
    exact⟨b,0,cap,vs,hs,g2,by simp,k1,k2⟩
   ·exact⟨Γ,rfl,rfl,hr,.refl _,h⟩
  ·exact⟨Γ,rfl,rfl,hr,.refl _,h⟩
 ·refine⟨Γ,rfl,rfl,hr,.refl _,?_⟩
  simp only[Rep,RepD] at h ⊢
  obtain⟨b,cap,vs,m,h1,h2,h3,h4,_⟩:=h
  exact⟨b,0,cap,vs,h1,h2,by simp,h3,h4⟩
 ·exact⟨Γ,rfl,rfl,hr,.refl _,h⟩
end
theorem qeX : ∀ {vs:List V} {Γ : Ctx} {xs:List Value},Real fid Γ -> Reps fid Γ vs xs -> ∃ Γ':Ctx,Γ'.σ = (qhK Γ.σ vs).2 /\ Γ'.w = Γ.w/\Real fid Γ'/\Step Γ Γ'/\Reps fid Γ' (qhK Γ.σ vs).1 xs
 | [],Γ,xs,hr,h=>⟨Γ,rfl,rfl,hr,.refl _,by simpa only [qhK,Reps] using h⟩
 | v::vs,Γ,xs,hr,h=>by
  simp only[Reps] at h
  obtain⟨y,ys,rfl,h1,h2⟩:=h
  obtain⟨Γ1,a1,a2,a3,a4,a5⟩:=qeW hr h1
  obtain⟨Γ2,b1,b2,b3,b4,b5⟩:=qeX (vs:=vs) a3 (Reps.ext a4.ext _ _ h2)
  rw[a1] at b1 b5
  exact⟨Γ2,b1,b2.trans a2,b3,a4.trans b4,_,_,rfl,Rep.ext b4.ext _ _ a5,b5⟩
theorem qhl {Γ : Ctx} {v:V} {x:Value} (hr:Real fid Γ) (h:Rep fid Γ v x) : ∃ Γ':Ctx,Γ'.σ = (qhL Γ.σ v).2 /\ Γ'.w = Γ.w/\Real fid Γ'/\Step Γ Γ'/\Rep fid Γ' (qhL Γ.σ v).1 x:=by
 unfold qhL
 split
 ·simp only[Rep] at h
  obtain⟨vs,rfl,h⟩:=h
  obtain⟨Γ1,a1,a2,a3,a4,a5⟩:=qeX hr h
  exact⟨Γ1,a1,a2,a3,a4,qb3 a5⟩
 ·exact qeW hr h
theorem qeq : ∀ {vs:List V} {Γ : Ctx} {xs:List Value},Real fid Γ -> Reps fid Γ vs xs -> ∃ Γ':Ctx,Γ'.σ = (qex Γ.σ vs).2 /\ Γ'.w = Γ.w/\Real fid Γ'/\Step Γ Γ'/\Reps fid Γ' (qex Γ.σ vs).1 xs
 | [],Γ,xs,hr,h=>⟨Γ,rfl,rfl,hr,.refl _,by simpa only [qex,Reps] using h⟩
 | v::vs,Γ,xs,hr,h=>by
  simp only[Reps] at h
  obtain⟨y,ys,rfl,h1,h2⟩:=h
  obtain⟨Γ1,a1,a2,a3,a4,a5⟩:=qhl hr h1
  obtain⟨Γ2,b1,b2,b3,b4,b5⟩:=qeq (vs:=vs) a3 (Reps.ext a4.ext _ _ h2)
  rw[a1] at b1 b5
  exact⟨Γ2,b1,b2.trans a2,b3,a4.trans b4,_,_,rfl,Rep.ext b4.ext _ _ a5,b5⟩
end Go.Pm
end SJ2
section SJ3
namespace Go.Pm
theorem qjN {fid:Fid} {Γ : Ctx} (hr:Real fid Γ) {t l b:Nat} {cs cs':List V} {w':World} {arr arr':Array Value} {e:TypeId} (ho : Γ.σ[l]?=some (.vecT t cs)) (hm : Γ.μ l=some b) (hl:cs.length<=cs'.length)
  (hw:WOnly b Γ.w w') (ha : Γ.w.heap[b]?=some (.cells arr e (0,0))) (ha':w'.heap[b]?=some (.cells arr' e (0,0))) (hs:arr'.size=arr.size)
  (hn:Ext Γ ⟨Γ.σ.set l (.vecT t cs'),Γ.μ,Γ.F,w'⟩->RepOb fid ⟨Γ.σ.set l (.vecT t cs'),Γ.μ,Γ.F,w'⟩ b (.vecT t cs')) :
  Real fid ⟨Γ.σ.set l (.vecT t cs'),Γ.μ,Γ.F,w'⟩/\Step Γ ⟨Γ.σ.set l (.vecT t cs'),Γ.μ,Γ.F,w'⟩:=by
 have hF : Γ.F b=0:=by have:=hr.obs l _ b ho hm; simp only[RepOb] at this; exact this.1
 have hlt:l < Γ.σ.length:=(List.getElem?_eq_some_iff.1 ho).1
 have hext:Ext Γ ⟨Γ.σ.set l (.vecT t cs'),Γ.μ,Γ.F,w'⟩:=by
  refine⟨Nat.le_of_eq hw.size.symm,hw.os,hw.tape,hw.output,fun _=>Nat.le_refl _,fun k i v hi hv=>?_,fun k arr e hk ha=>⟨arr,?_,rfl⟩,by simp,fun j o hj hjt=>⟨⟨o,?_,hjt⟩,fun _ h=>h⟩,fun j m hj=>⟨m,?_,Nat.le_refl _,fun h=>h,fun _ _ h=>h⟩,fun j o hj hjt=>?_⟩
  ·have:k≠b:=fun e=>by subst e; omega
   rw[cell?_of_block (hw.other k this)]; exact hv
  ·have:k≠b:=fun e=>by subst e; omega
   rw[hw.other k this]; exact ha
  ·have e:l≠j:=fun e=>by subst e; rw[ho] at hj; cases hj; cases hjt
   rw[List.getElem?_set_ne e]; exact hj
  ·grind
  ·by_cases e:l=j
   ·subst e
    rw[ho] at hj; cases hj
    refine⟨.vecT t cs',by simp[hlt],rfl,fun c hc=>?_⟩
    simp only[Ob.rows,Option.some.injEq] at hc; subst hc
    refine⟨cs,rfl,hl,fun _ k hk=>⟨hk,fun a u h=>?_⟩⟩
    rw[hm] at hk; cases hk
    rw[ha] at h; cases h
    exact⟨arr',ha',hs⟩
   ·refine⟨o,by rw[List.getElem?_set_ne e]; exact hj,hjt,fun c hc=>⟨c,hc,Nat.le_refl _,fun _ k hk=>⟨hk,fun a u h=>⟨a,?_,rfl⟩⟩⟩⟩
    have:k≠b:=fun e'=>by subst e'; exact e (hr.inj _ _ _ hm hk)
    rw[hw.other k this]; exact h
 refine⟨⟨fun j o k hj hk=>?_,fun j k hk=>?_,hr.inj,fun k hk=>?_,Glb.ext hext hr.glb⟩,hext,⟨fun k hk hno=>⟨hw.other k fun e=>by subst e; exact hno l hm,rfl⟩,fun j k hj _=>⟨j,hj⟩⟩,fun _ _ h=>h⟩
 ·by_cases e:l=j
  ·grind
  ·rw[List.getElem?_set_ne e] at hj
   have hb:k≠b:=fun e'=>by subst e'; exact e (hr.inj _ _ _ hm hk)
   exact RepOb.ext hext (hw.other k hb) rfl o (hr.obs j o k hj hk)
 ·have:=hr.dom j k hk
  exact⟨by simpa using this.1,by rw[hw.size]; exact this.2⟩
 ·obtain⟨arr,e,fz,h1,h2⟩:=hr.imm k hk
  have:k≠b:=fun e=>by subst e; simp only at hk; omega
  exact⟨arr,e,fz,by rw[hw.other k this]; exact h1,h2⟩
theorem qiJ {fid:Fid} {Γ : Ctx} (hr:Real fid Γ) {t l:Nat} {cs cs':List V} (ho : Γ.σ[l]?=some (.vecT t cs)) (hsome:(Γ.μ l).isSome=true) (hl:cs.length<cs'.length) (arr:Array Value) (e:TypeId)
  (hn:Ext Γ ⟨Γ.σ.set l (.vecT t cs'),bind Γ.μ l Γ.w.heap.size,grow Γ.F Γ.w.heap.size 0,Γ.w.alloc (.cells arr e)⟩->RepOb fid ⟨Γ.σ.set l (.vecT t cs'),bind Γ.μ l Γ.w.heap.size,grow Γ.F Γ.w.heap.size 0,Γ.w.alloc (.cells arr e)⟩ Γ.w.heap.size (.vecT t cs')) :
  Real fid ⟨Γ.σ.set l (.vecT t cs'),bind Γ.μ l Γ.w.heap.size,grow Γ.F Γ.w.heap.size 0,Γ.w.alloc (.cells arr e)⟩ /\
  Step Γ ⟨Γ.σ.set l (.vecT t cs'),bind Γ.μ l Γ.w.heap.size,grow Γ.F Γ.w.heap.size 0,Γ.w.alloc (.cells arr e)⟩:=by
 have hlt:=(List.getElem?_eq_some_iff.1 ho).1
 have hext:Ext Γ ⟨Γ.σ.set l (.vecT t cs'),bind Γ.μ l Γ.w.heap.size,grow Γ.F Γ.w.heap.size 0,Γ.w.alloc (.cells arr e)⟩:=by
  have hal : ∀ b,b < Γ.w.heap.size->(Γ.w.alloc (.cells arr e)).heap[b]? = Γ.w.heap[b]?:=fun b hb=>qac _ _ hb
  refine⟨by simp,rfl,rfl,rfl,fun b=>?_,fun b i v hi hv=>?_,fun b a u hb ha=>⟨a,?_,rfl⟩,by simp,fun j o hj hjt=>?_,fun j m hj=>?_,fun j o hj hjt=>?_⟩
  ·simp only[grow]; split
   ·rename_i e; subst e; rw[hr.F_size]; exact Nat.le_refl _
   ·exact Nat.le_refl _
  ·rw[cell?_of_block (hal b (hr.F_lt (by omega)))]; exact hv
  ·rw[hal b (hr.F_lt hb)]; exact ha
  ·have e:l≠j:=fun e=>by subst e; rw[ho] at hj; cases hj; cases hjt
   exact⟨⟨o,by rw[List.getElem?_set_ne e]; exact hj,hjt⟩,fun b hb=>by simp only[bind]; rw[if_neg (Ne.symm e)]; exact hb⟩
  ·have e:l≠j:=fun e=>by subst e; rw[ho] at hj; cases hj
   exact⟨m,by rw[List.getElem?_set_ne e]; exact hj,Nat.le_refl _,fun hs=>by simp only[bind]; rw[if_neg (Ne.symm e)]; exact hs,fun _ b hb=>by simp only[bind]; rw[if_neg (Ne.symm e)]; exact hb⟩
  ·by_cases e:l=j
   ·subst e
    rw[ho] at hj; cases hj
    refine⟨.vecT t cs',by simp[hlt],rfl,fun c hc=>?_⟩
    simp only[Ob.rows,Option.some.injEq] at hc; subst hc
    exact⟨cs,rfl,Nat.le_of_lt hl,fun h=>by omega⟩
   ·grind [bind]
 refine⟨⟨fun j ob' b h1 h2=>?_,fun j b h=>?_,fun j j' b h h'=>?_,fun b hb=>?_,Glb.ext hext hr.glb⟩,hext,⟨fun b hb hn=>⟨qac _ _ hb,?_⟩,fun j b h hb=>?_⟩,fun j _ h=>by simp only[bind]; rw[if_neg (fun e=>by subst e; rw[h] at hsome; cases hsome)]; exact h⟩
 ·simp only[bind] at h2
  split at h2
  ·grind
  ·rename_i e'
   have hd:=hr.dom j b h2
   simp only at h1
   rw[List.getElem?_set_ne (Ne.symm e')] at h1
   exact RepOb.ext hext (qac _ _ hd.2) (by simp only[grow]; rw[if_neg (by omega)]) ob' (hr.obs j ob' b h1 h2)
 ·simp only[bind] at h
  split at h
  ·rename_i e'; subst e'; cases h; simp[hlt]
  ·have:=hr.dom j b h
   exact⟨by simpa using this.1,by simp; omega⟩
 ·simp only[bind] at h h'
  split at h<;>split at h'
  ·rename_i e e'; exact e.trans e'.symm
  ·cases h; have:=(hr.dom j' _ h').2; omega
  ·cases h'; have:=(hr.dom j _ h).2; omega
  ·exact hr.inj j j' b h h'
 ·simp only[grow] at hb ⊢
  split at hb
  ·omega
  ·rename_i e'
   obtain⟨a,u,fz,h1,h2⟩:=hr.imm b hb
   exact⟨a,u,fz,by rw[qac _ _ (qbv h1)]; exact h1,by simpa [e'] using h2⟩
 ·simp only[grow]; rw[if_neg (by omega)]
 ·grind [bind]
variable {P:Program} {ids:Ids} {fid:Fid} {N:Nat}
section
variable {Γ : Ctx} {fr:Fr} {ρ : Operand->Value} {o:Oper} {v:V} {σ':S}
theorem qeN (hr:Real fid Γ) {t l b:Nat} {cs:List V} (ho : Γ.σ[l]?=some (.vecT t cs)) (hm : Γ.μ l=some b) :
  ∃ vs arr,Γ.w.heap[b]?=some (.cells arr (fid.ty t) (0,0))/\cs.length<=arr.size/\vs=arr.toList.take cs.length/\Reps fid Γ cs vs/\(∀ v∈vs,v.oneCell'=true) /\ Γ.F b=0 /\ ∀ j v,vs[j]?=some v -> Γ.w.cell? ⟨b,j,none⟩=some v:=by
 have:=hr.obs l _ b ho hm
 simp only[RepOb] at this
 obtain⟨h1,arr,h2,h3,h4,h5⟩:=this
 refine⟨_,arr,h2,h3,rfl,h4,h5,h1,fun j x hj=>?_⟩
 simp only[World.cell?,h2]
 simpa using qdX hj
section
variable {ts tx e ex:TypeId} {s x:Operand} {c:Call} {sz bytes:Nat} {z:Value}
theorem qfT (hr:Real fid Γ) (ho:o.op = .call c) (hcal:c.callee = .builtin .append) (hargs:c.args.toList=[s,x]) (hats:c.argTypes.toList=[ts,tx])
  (hts:P.underlying ts=some (.slice e)) (htx:(∃ ex,P.underlying tx=some (.slice ex))\/P.underlying tx=some .string) (hsz:qak P e=some sz) (hby:qcB P e=some bytes) (hz:qbu P e=some z) (hzn:z.cells.size=sz) {t:Nat} (hty:fid.ty t=e)
  {a b u:V} (ha:Rep fid Γ a (ρ s)) (hb:Rep fid Γ b (ρ x)) (h:appendT Γ.σ t sz bytes a b=some (u,σ')):Comes P fid Γ ρ o u σ':=by
 unfold appendT at h
 split at h
 ·cases h
 ·rename_i xs m hsrc
  split at h
  ·rename_i hcond
   obtain⟨hxl,hsz0,hone⟩:=hcond
   obtain⟨news,n1,n2,n3,n4⟩:=qeV (P:=P) hr hb hsrc hxl hone
   have hnl:news.length=m*sz:=by rw[Reps.length n1,hxl]
   split at h
   ·rename_i hm
    subst hm
    have hnews:news=[]:=by
     apply List.eq_nil_of_length_eq_zero; rw[hnl]; simp
    have fin : ∀ base n cap,ρ s = .slice base n cap->n<=cap->(u=a /\ σ' = Γ.σ)->Comes P fid Γ ρ o u σ':=fun base n cap hs hle hu=>by
     obtain⟨rfl,rfl⟩:=hu
     refine .pure hr (x := ρ s) ?_ ha
     refine qaS ho hcal hargs hats ?_
     rw[hs]
     have:=qcF (P:=P) (o:=o) hts htx hsz (base:=base) (n3 Γ.w) (show n+0<=cap by omega) (n4 Γ.w fun _ _=>rfl) (w' := Γ.w) (by rw[hnews]; cases base<;>simp[storeCells])
     simpa using this
    split at h
    ·cases h
     exact fin _ _ _ (qaf ha).1 (Nat.le_refl _) ⟨rfl,rfl⟩
    ·grind [Rep,RepD]
    ·grind [Rep]
    ·cases h
   ·rename_i hm
    have fresh : ∀ {olds:List Value} {cs:List V} {base:Option Addr} {n cap:Nat},ρ s = .slice base n cap->cap<n+m->qas (n+m) bytes=true->Reps fid Γ cs olds->cs.length=n*sz ->
      (∀ w':World,(∀ b i,w'.cell? ⟨b,i,none⟩ = Γ.w.cell? ⟨b,i,none⟩)->(Builtin.firstCells sz n (.slice base n cap)).run P w' = .ok olds.toArray w') ->
      ∃ (newCap:Nat) (rest:Array Value),n+m<=newCap/\(n+m)*sz+rest.size=newCap*sz/\(cs++xs).length=(n+m)*sz/\Reps fid Γ (cs++xs) (olds++news) /\
       (execOp ρ o).run P Γ.w = .ok (.value (.slice (some ⟨Γ.w.heap.size,0,none⟩) (n+m) newCap)) (Γ.w.drew.alloc (.cells ((olds++news).toArray++rest) e)):=by
     intro olds cs base n cap hs hlt hroom hd hcl hold
     obtain⟨newCap,rest,r1,r2,r3⟩:=qef (P:=P) (o:=o) hts htx hsz hby hz n3 hlt hroom hold n4
     refine⟨newCap,rest,r1,?_,?_,Reps_append.2 ⟨_,_,rfl,hd,n1⟩,qaS ho hcal hargs hats (by rw[hs]; exact r3)⟩
     ·rw[r2,hzn,<- Nat.add_mul]; congr 1; omega
     ·rw[List.length_append,hcl,hxl,Nat.add_mul]
    obtain⟨d1,d2⟩:=qfj hr
    have obok : ∀ {Γ':Ctx} {olds:List Value} {cs:List V} {rest:Array Value},Ext ⟨Γ.σ,Γ.μ,Γ.F,Γ.w.drew⟩ Γ' -> Γ'.w = Γ.w.drew.alloc (.cells ((olds++news).toArray++rest) e) -> Γ'.F Γ.w.heap.size=0 ->
      Reps fid Γ (cs++xs) (olds++news)->(∀ v∈olds,v.oneCell'=true)->RepOb fid Γ' Γ.w.heap.size (.vecT t (cs++xs)):=by
     intro Γ' olds cs rest hx hw hF g1 g2
     have hlen:=Reps.length g1
     have htk:((olds++news).toArray++rest).toList.take (cs++xs).length=olds++news:=by
      rw[<- hlen,Array.toList_append]; exact List.take_left' rfl
     simp only[RepOb]
     refine⟨hF,_,by rw[hw,hty]; exact qad Γ.w.drew _,by rw[<- hlen]; simp,?_,?_⟩
     ·rw[htk]; exact Reps.ext hx _ _ (Reps.ext d2.ext _ _ g1)
     ·grind
    have grown : ∀ {Γ':Ctx} {olds:List Value} {cs:List V} {rest:Array Value} {n newCap l:Nat},Γ'.w = Γ.w.drew.alloc (.cells ((olds++news).toArray++rest) e) ->
      Γ'.σ[l]?=some (.vecT t (cs++xs)) -> Γ'.μ l=some Γ.w.heap.size->n+m<=newCap->(n+m)*sz+rest.size=newCap*sz->(cs++xs).length=(n+m)*sz->Reps fid Γ (cs++xs) (olds++news) ->
      Rep fid Γ' (.own l (n+m) sz) (.slice (some ⟨Γ.w.heap.size,0,none⟩) (n+m) newCap):=by
     intro Γ' olds cs rest n newCap l hw hσ hμ g1 g2 g3 g5
     have hlen:=Reps.length g5
     simp only[Rep]
     refine⟨_,_,rfl,g1,hsz0,⟨_,hσ,rfl⟩,fun ob cs' k1 k2=>?_⟩
     rw[hσ] at k1; cases k1
     simp only[Ob.rows,Option.some.injEq] at k2; subst k2
     refine⟨by rw[g3]; exact Nat.le_refl _,fun _=>⟨Γ.w.heap.size,_,e,hμ,rfl,by rw[hw]; exact qad Γ.w.drew _,?_⟩⟩
     simp only[Array.size_append,List.size_toArray,hlen,g3]
     omega
    split at h
    ·split at h
     ·rename_i hroom
      cases h
      obtain⟨newCap,rest,f1,f2,f3,f5,f7⟩:=fresh (olds:=[]) (cs:=[]) (qaf ha).1 (show 0<0+m by omega) (by simpa using hroom) (by simp[Reps]) (by simp)
       (fun w' _=>by simp[Builtin.firstCells])
      obtain⟨k1,k2⟩:=qbi d1 (.vecT t xs) (.cells (([]++news).toArray++rest) e) 0
       (fun Γ' e' hx=>by
        have:=obok (cs:=[]) (olds:=[]) (rest:=rest) hx (by subst e'; rfl) (by subst e'; simp[grow]) f5 (by simp)
        simpa using this) (fun h=>absurd h (Nat.lt_irrefl _))
      refine⟨_,_,rfl,k1,d2.trans k2,?_,.inl f7⟩
      have:=grown (cs:=[]) (olds:=[]) (rest:=rest) (n:=0) (newCap:=newCap) (l := Γ.σ.length) (Γ':=⟨Γ.σ ++ [.vecT t xs],bind Γ.μ Γ.σ.length Γ.w.drew.heap.size,grow Γ.F Γ.w.drew.heap.size 0,Γ.w.drew.alloc (.cells (([]++news).toArray++rest) e)⟩) rfl (by simp) (by simp[bind]) f1 f2 f3 f5
      simpa using this
     ·cases h
    ·rename_i l n sz'
     split at h
     ·rename_i t' cs hcs
      split at h
      ·rename_i hcond
       obtain⟨hroom,hcl,rfl,htt⟩:=hcond; subst t'
       cases h
       have ha':=ha
       simp only[Rep] at ha'
       obtain⟨ad,cap,hs,h2,h0,h3,h4⟩:=ha'
       obtain⟨b',arr,e',q1,rfl,q2,q3⟩:=(h4 _ _ hcs rfl).2 hcl
       obtain⟨olds,arr',k1,k2,k3,k4,k5,k6,k7⟩:=qeN hr hcs q1
       rw[q2] at k1; cases k1
       have hol:olds.length=n*sz':=by rw[Reps.length k4,hcl]
       have hpos:0<m*sz':=Nat.mul_pos (by omega) hsz0
       by_cases hfit:n+m<=cap
       ·have hbd:(n+m)*sz'<=cap*sz':=Nat.mul_le_mul_right _ hfit
        rw[Nat.add_mul] at hbd
        obtain⟨w',s1,s2,arr',s3,s4⟩:=qa9 (P:=P) news 0 Γ.w b' (n*sz') arr _ q2 n2 (by rw[hnl]; omega)
        have hlen':arr'.size=arr.size:=by
         have:=congrArg List.length s4
         simp[hnl] at this
         omega
        have hnl2:(cs++xs).length=n*sz'+m*sz':=by rw[List.length_append,hcl,hxl]
        have htk:arr'.toList.take (cs++xs).length=olds++news:=by grind
        obtain⟨u1,u2⟩:=qjN hr hcs q1 (cs':=cs++xs) (by simp) s2 q2 s3 hlen' (fun hx=>by
         simp only[RepOb]
         refine⟨k6,arr',s3,by rw[hnl2,hlen']; omega,?_,?_⟩
         ·rw[htk]; exact Reps.ext hx _ _ (Reps_append.2 ⟨_,_,rfl,k4,n1⟩)
         ·rw[htk]
          intro v hv
          rcases List.mem_append.1 hv with hv | hv
          ·exact k5 v hv
          ·exact n2 v hv)
        refine⟨_,.slice (some ⟨b',0,none⟩) (n+m) cap,rfl,u1,u2,?_,.inl (qaS ho hcal hargs hats ?_)⟩
        ·simp only[Rep]
         refine⟨_,_,rfl,hfit,hsz0,⟨.vecT t (cs++xs),by simp[(List.getElem?_eq_some_iff.1 hcs).1],rfl⟩,fun ob cs' j1 j2=>?_⟩
         have:ob = .vecT t (cs++xs):=by simpa [(List.getElem?_eq_some_iff.1 hcs).1] using j1.symm
         subst this
         simp only[Ob.rows,Option.some.injEq] at j2; subst j2
         exact⟨by rw[hnl2,Nat.add_mul]; exact Nat.le_refl _,fun _=>⟨b',arr',_,q1,rfl,s3,by rw[hlen']; exact q3⟩⟩
        ·simp_all [qcF,qaI]
       ·obtain⟨newCap,rest,f1,f2,f3,f5,f7⟩:=fresh hs (show cap<n+m by omega) hroom k4 hcl (fun w' hw=>by
         have:=qau (P:=P) (w:=w') (b:=b') (o:=0) (vs:=olds) (fun j v hj=>by rw[hw,Nat.zero_add]; exact k7 j v hj)
         rw[hol] at this
         simp only[Builtin.firstCells,this])
        obtain⟨j1,j2⟩:=qiJ d1 hcs (by simp[q1]) (cs':=cs++xs) (by rw[List.length_append,hxl]; omega) ((olds++news).toArray++rest) e
         (fun hx=>obok hx rfl (by simp[grow]) f5 k5)
        exact⟨_,_,rfl,j1,d2.trans j2,grown rfl (by simp[(List.getElem?_eq_some_iff.1 hcs).1]) (by simp[bind]) f1 f2 f3 f5,.inl f7⟩
      ·cases h
     ·cases h
    ·cases h
  ·cases h
end
theorem qcs {F:Nat->Nat} : ∀ {vs:List V} {xs:List Value} {bs:List UInt8},qcp vs=some bs->Reps fid Γ vs xs->xs=bs.map fun b=>Value.int .u8 b.toNat
 | [],xs,bs,h,hr=>by
  cases h
  simp only[Reps] at hr
  simp[hr]
 | v::vs,xs,bs,h,hr=>by
  unfold qcp at h
  split at h
  ·rename_i h0; cases h0
  ·rename_i n r h0
   cases h0
   split at h
   ·rename_i hn
    split at h
    ·rename_i cs hcs
     cases h
     simp only[Reps] at hr
     obtain⟨y,ys,rfl,h1,h2⟩:=hr
     rw[qcs (F:=F) hcs h2,(qaf h1).1]
     simp only[List.map_cons]
     congr 2
     have:(UInt8.ofNat n.toNat).toNat=n.toNat:=by simp_all
     rw[this]; omega
    ·cases h
   ·cases h
  ·cases h
theorem qcR : ∀ {vs:List V} {bs:List UInt8},qcp vs=some bs->bs.length=vs.length
 | [],bs,h=>by cases h; rfl
 | v::vs,bs,h=>by
  unfold qcp at h
  split at h
  ·rename_i h0; cases h0
  ·rename_i n r h0
   cases h0
   split at h
   ·split at h
    ·rename_i cs hcs
     cases h
     simp[qcR hcs]
    ·cases h
   ·cases h
  ·cases h
theorem qhh (l:List UInt8) : ∀ r:ByteArray,(l.map fun b=>(b.toNat:Int)).foldl (fun r n=>r.push (UInt8.ofNat n.toNat)) r=⟨r.data++l.toArray⟩:=by
 induction l with
 | nil=>intro r; simp
 | cons b l ih=>
  intro r
  simp only[List.map_cons,List.foldl_cons,ih]
  apply ByteArray.ext
  simp[ByteArray.push]
theorem qk4 (hr:Real fid Γ) {s t e:TypeId} {x:Operand} {p u:V} (ho:o.op = .convert s t x) (hp:Rep fid Γ p (ρ x)) (hs:P.underlying s=some (.slice e)) (he:P.underlying e=some (.int .u8)) (ht:P.underlying t=some .string)
  (h:qiE Γ.σ p=some u):Comes P fid Γ ρ o u Γ.σ:=by
 unfold qiE at h
 split at h
 ·rename_i xs m hsrc
  split at h
  ·rename_i hcond
   obtain⟨hl,hns⟩:=hcond
   split at h
   ·rename_i bs hbs
    cases h
    rcases srcO_row hr hp hsrc with ⟨a,hx,rfl,rfl⟩ | ⟨s',rfl,_,_,_⟩ | ⟨b,off,cap,vs,hx,hv,hc⟩
    ·cases hbs
     refine .pure hr (x := .string ⟨#[]⟩) ?_ (by simp[Rep,RepD,qaJ])
     simp only[execOp,ho,hx]
     rw[Sem.run_bind,run_convert_bytes_string Γ.w s t e a 0 0 hs he ht]
     cases a with
     | none=>simp[Conv.bytesToString]; rfl
     | some a=>
      rw[run_bytesToString Γ.w a 0 0 [] (by simp[loadCells,loadCellsFrom])]
      simp; rfl
    ·simp[V.isStr] at hns
    ·have hvs:=qcs (F := Γ.F) hbs hv
     have hlen:vs.length=m:=by rw[Reps.length hv,hl]
     refine .pure hr (x := .string ⟨bs.toArray⟩) ?_ (by simp[Rep,RepD,qaJ])
     simp only[execOp,ho,hx]
     rw[Sem.run_bind,run_convert_bytes_string Γ.w s t e _ m cap hs he ht]
     have hload:=qau (P:=P) (w := Γ.w) (b:=b) (o:=off) (vs:=vs) hc
     rw[hlen] at hload
     rw[run_bytesToString Γ.w ⟨b,off,none⟩ m cap (bs.map fun b=>(b.toNat:Int)) (by rw[hload,hvs]; simp),qhh]
     simp
   ·cases h
  ·cases h
 ·cases h
theorem qiK (hr:Real fid Γ) {t e:TypeId} {len n:Nat} {x:Operand} {p u:V} {lo hi:Option V} {lx hx:Option Operand} (ho:o.op = .slice t x lx hx none) (hp:Rep fid Γ p (ρ x))
  (ht:P.underlying t=some (.array len e)) (hn:qak P e=some n) (h1:qf1 fid Γ ρ lo lx) (h2:qf1 fid Γ ρ hi hx)
  (h:qff len n lo hi p=some u):Comes P fid Γ ρ o u Γ.σ:=by
 unfold qff at h
 split at h
 ·rename_i l off
  split at h
  ·rename_i hh eh
   split at h
   ·rename_i k el
    cases h
    simp only[Rep] at hp
    obtain⟨b,hm,hx',hfix⟩:=hp
    have hb:=qbj (P:=P) (isSl:=false) h1 h2 (Nat.le_refl len) eh el Γ.w
    have a1:k<=hh:=by rcases qay h1 el with ⟨_,rfl⟩ | ⟨_,_,i',_,_,i3,i4,rfl⟩<;>omega
    have a2:hh<=len:=by rcases qay h2 eh with ⟨_,rfl⟩ | ⟨_,_,i',_,_,i3,i4,rfl⟩<;>omega
    refine .pure hr (x := .slice (some ⟨b,if len=k then off else off+k*n,none⟩) (hh-k) (len-k)) ?_ ?_
    ·simp only[execOp,ho,Instr.sliceAt,Sem.run_bind,qab ht,Result.andThen_ok,Instr.sureAddr,hx',Option.map_none,hb,qan hn,Sem.run_pure]
     by_cases hc:len=k
     ·simp[hc]
     ·simp[hc,qaI]
    ·grind [Rep]
   ·cases h
  ·cases h
 ·cases h
theorem qk5 (hr:Real fid Γ) {t:TypeId} {k:Nat} {x:Operand} {u:V} (ho:o.op = .box t x) (hk:fid.ty k=t) (hu:Rep fid Γ u (ρ x)):Comes P fid Γ ρ o (.ptr Γ.σ.length 0) (Γ.σ ++ [.cellsT k u.cells]):=by
 obtain⟨h1,h2⟩:=qbi hr (.cellsT k u.cells) (.cells (ρ x).cells t) 0
  (fun Γ' e hx=>by
   subst e
   simp only[RepOb,grow,if_pos]
   exact⟨trivial,(ρ x).cells,by rw[hk]; exact qad _ _,Reps.ext hx _ _ (qb4 hu)⟩) (fun h=>absurd h (Nat.lt_irrefl _))
 refine⟨_,.pointer (some ⟨Γ.w.heap.size,0,none⟩),rfl,h1,h2,?_,.inl ?_⟩
 ·simp only[Rep]
  exact⟨Γ.w.heap.size,by simp[bind],rfl,⟨.cellsT k u.cells,by simp,rfl⟩⟩
 ·simp only[execOp,ho,Instr.box,newVar,newRow]
  simp
theorem qc0 {w:World} {b:Nat} {arr:Array Value} {e:TypeId} {fz:Nat × Nat} (h:w.heap[b]?=some (.cells arr e fz)):w.shape? b=some (e,arr.size):=by
 simp[World.shape?,h]
theorem qnb (hr:Real fid Γ) {s t e:TypeId} {x:Operand} {l off k:Nat} {cs:List V} (ho:o.op = .convert s t x) (hs:P.underlying s=some (.pointer e)) (ht:P.underlying t=some .unsafePointer) {n:Nat} (hn:qak P e=some n) (hn0:n≠0)
  (hp:Rep fid Γ (.ptr l off) (ρ x)) (hσ : Γ.σ[l]?=some (.cellsT k cs)) (hlt:off<cs.length):Comes P fid Γ ρ o (.ptr l off) Γ.σ:=by
 have hp':=hp
 simp only[Rep] at hp'
 obtain⟨b,hm,hx,_⟩:=hp'
 obtain⟨_,arr,h2,h3⟩:=hr.obs l _ b hσ hm
 have hl:=Reps.length h3
 have hsh:=qc0 h2
 refine .pure hr (x := ρ x) ?_ hp
 simp only[execOp,ho,hx,Sem.run_bind,convert,qab hs,qab ht,Result.andThen_ok,Conv.unsafePointer,Conv.seenAt,viewAt,run_shape,hsh,Option.isSome_some,if_true,Sem.run_pure,cellsIn]
 have h1 : ¬ arr.size<=off:=by rw[Array.length_toList] at hl; omega
 simp[qan hn,hn0,h1]
theorem qdk {u:TypeId} {k n:Nat} : ∀ {ts:List TypeId},(qf5 P ids u ts).contains (k,n)=true -> ∃ t,ids.ty t=some k/\n=P.cellsOf t/\liesAt P P.depth t (P.cellsOf t / P.cellsOf t) 0 u 1=true
 | [],h=>by simp[qf5] at h
 | t::ts,h=>by
  simp only[qf5] at h
  split at h
  ·rename_i m hm
   split at h
   ·rename_i hl
    simp only[List.contains_cons,Bool.or_eq_true,beq_iff_eq,Prod.mk.injEq] at h
    rcases h with ⟨rfl,rfl⟩ | h
    ·exact⟨t,hm,rfl,hl⟩
    ·exact qdk h
   ·exact qdk h
  ·exact qdk h
theorem qk6 (hid:Ties P ids fid) (hr:Real fid Γ) {s t e:TypeId} {x:Operand} {l k:Nat} {cs:List V} (ho:o.op = .convert s t x) (hs:P.underlying s=some .unsafePointer) (ht:P.underlying t=some (.pointer e)) {n:Nat} (hn:qak P e=some n)
  (hp:Rep fid Γ (.ptr l 0) (ρ x)) (hσ : Γ.σ[l]?=some (.cellsT k cs)) (hin:(qf5 P ids e (List.range P.types.size)).contains (k,cs.length)=true):Comes P fid Γ ρ o (.ptr l 0) Γ.σ:=by
 have hp':=hp
 simp only[Rep] at hp'
 obtain⟨b,hm,hx,_⟩:=hp'
 obtain⟨_,arr,h2,h3⟩:=hr.obs l _ b hσ hm
 have hl:=Reps.length h3
 rw[Array.length_toList] at hl
 have hsh:=qc0 h2
 obtain⟨T,q1,q2,q3⟩:=qdk hin
 rw[hid.ty T k q1,hl,q2] at hsh
 refine .pure hr (x := ρ x) ?_ hp
 simp only[execOp,ho,hx,Sem.run_bind,convert,qab hs,qab ht,Result.andThen_ok,Conv.unsafePointer,Conv.seenAt,viewAt,run_shape,hsh,Option.isSome_some,if_true,Sem.run_pure,qan hn]
 by_cases hz:n=0
 ·simp[hz,variablesAt,hsh,q3]
 ·simp[hz,variablesAt,hsh,q3]
theorem qk7 (hr:Real fid Γ) {op:BinOp} {t t' e:TypeId} {x y:Operand} {l off:Nat} (neg:Bool) (hop:op=if neg then .neq else .eql) (ho:o.op = .binOp op t x y t') (ht:P.underlying t=some (.pointer e)) {n:Nat} (hn:qak P e=some n) (hn0:n≠0)
  (hx:Rep fid Γ (.ptr l off) (ρ x)) (hy:Rep fid Γ (.ptr l off) (ρ y)):Comes P fid Γ ρ o (.bool (!neg)) Γ.σ:=by
 simp only[Rep] at hx hy
 obtain⟨b,hm,hx,_⟩:=hx
 obtain⟨b',hm',hy,_⟩:=hy
 rw[hm] at hm'; cases hm'
 refine .pure hr (x := .bool (!neg)) ?_ (by simp[Rep,RepD,qaJ])
 have heq:(Op.equal t (.pointer (some ⟨b,off,none⟩)) (.pointer (some ⟨b,off,none⟩))).run P Γ.w = .ok true Γ.w:=by
  rw[show Op.equal t (.pointer (some ⟨b,off,none⟩)) (.pointer (some ⟨b,off,none⟩))=Op.equalIn (9999+1) t (.pointer (some ⟨b,off,none⟩)) (.pointer (some ⟨b,off,none⟩)) from rfl,Op.equalIn]
  simp only[Sem.run_bind,qab ht,Result.andThen_ok,qan hn]
  simp[hn0,sameAddr]
 cases neg with
 | false=>
  simp only[Bool.false_eq_true,if_false] at hop
  subst hop
  simp only[execOp,ho,hx,hy,Sem.run_bind,eqGuard,binOp]
  simp[heq]
 | true=>
  simp only[if_true] at hop
  subst hop
  simp only[execOp,ho,hx,hy,Sem.run_bind,eqGuard,binOp]
  simp[heq]
section
variable {c:Call} {x y:Operand} {tx:TypeId}
theorem qk8 (hr:Real fid Γ) (ho:o.op = .call c) (hcal:c.callee = .builtin .unsafeSliceData) (hargs:c.args.toList=[x]) {u v:V} (hu:Rep fid Γ u (ρ x))
  (h:(u = .dat (.lit (.slice none 0 0))/\v = .dat (.lit (.pointer none))) \/ ∃ l n,u = .own l n 1/\0<n/\v = .eptr l n 0):Comes P fid Γ ρ o v Γ.σ:=by
 have ha:c.args = #[x]:=by apply Array.ext'; simpa using hargs
 have call : ∀ r,(Builtin.unsafeSliceData_ c.argTypes o.type #[ρ x]).run P Γ.w = .ok r Γ.w->(execOp ρ o).run P Γ.w = .ok (.value r) Γ.w:=fun r hr'=>by
  simp only[execOp,ho,resolve,hcal,ha,invoke,builtin,Sem.run_bind,Sem.run_pure,Result.andThen_ok]
  simp[hr']
 rcases h with ⟨rfl,rfl⟩ | ⟨l,n,rfl,hn,rfl⟩
 ·exact .pure hr (call _ (by rw[(qaf hu).1]; exact Lib.run_unsafeSliceData_nil _ _ _ 0 0)) (by simp[Rep,RepD,qaJ])
 ·simp only[Rep] at hu
  obtain⟨a,cap,hx,h2,_,h3,h4⟩:=hu
  refine .pure hr (call _ (by rw[hx]; exact Lib.run_unsafeSliceData_row _ _ _ a n cap (by omega))) ?_
  simp only[Rep]
  refine⟨a,rfl,h3,fun ob cs q1 q2=>?_⟩
  obtain⟨q3,q4⟩:=h4 ob cs q1 q2
  refine⟨by omega,fun hl=>?_⟩
  obtain⟨b,arr,e,k1,k2,k3,k4⟩:=q4 (by omega)
  exact⟨b,arr,e,k1,k2,k3,by omega⟩
end
def unb (μ : Nat->Option Nat) (l:Nat):Nat->Option Nat:=fun j=>if j=l then none else μ j
theorem qjO (hr:Real fid Γ) {t l b:Nat} {cs:List V} {w':World} (ho : Γ.σ[l]?=some (.vecT t cs)) (hm : Γ.μ l=some b) (hw:WOnly b Γ.w w') :
  Real fid ⟨Γ.σ.set l .dead,unb Γ.μ l,Γ.F,w'⟩/\Step Γ ⟨Γ.σ.set l .dead,unb Γ.μ l,Γ.F,w'⟩:=by
 have hF : Γ.F b=0:=by have:=hr.obs l _ b ho hm; simp only[RepOb] at this; exact this.1
 have hlt:l < Γ.σ.length:=(List.getElem?_eq_some_iff.1 ho).1
 have hne : ∀ j,l≠j->unb Γ.μ l j = Γ.μ j:=fun j e=>by simp only[unb]; rw[if_neg (Ne.symm e)]
 have hback : ∀ j k,unb Γ.μ l j=some k->j≠l /\ Γ.μ j=some k:=fun j k h=>by grind [unb]
 have hother : ∀ j k,j≠l -> Γ.μ j=some k->k≠b:=fun j k e hk e'=>by subst e'; exact e (hr.inj _ _ _ hk hm)
 have hext:Ext Γ ⟨Γ.σ.set l .dead,unb Γ.μ l,Γ.F,w'⟩:=by
  refine⟨Nat.le_of_eq hw.size.symm,hw.os,hw.tape,hw.output,fun _=>Nat.le_refl _,fun k i v hi hv=>?_,fun k arr e hk ha=>⟨arr,?_,rfl⟩,by simp,fun j o hj hjt=>?_,fun j m hj=>?_,qcr fun j o hj hjt=>?_⟩
  ·have:k≠b:=fun e=>by subst e; omega
   rw[cell?_of_block (hw.other k this)]; exact hv
  ·have:k≠b:=fun e=>by subst e; omega
   rw[hw.other k this]; exact ha
  ·have e:l≠j:=fun e=>by subst e; rw[ho] at hj; cases hj; cases hjt
   exact⟨⟨o,by rw[List.getElem?_set_ne e]; exact hj,hjt⟩,fun k hk=>(hne j e).trans hk⟩
  ·have e:l≠j:=fun e=>by subst e; rw[ho] at hj; cases hj
   exact⟨m,by rw[List.getElem?_set_ne e]; exact hj,Nat.le_refl _,fun h=>show (unb Γ.μ l j).isSome=true from by rw[hne j e]; exact h,fun _ k hk=>(hne j e).trans hk⟩
  ·by_cases e:l=j
   ·subst e; exact .inr ⟨.dead,by simp[hlt],rfl,rfl⟩
   ·exact .inl ⟨by rw[List.getElem?_set_ne e]; exact hj,fun k hk=>⟨(hne j e).trans hk,fun a u h=>by
     rw[hw.other k (hother j k (Ne.symm e) hk)]; exact h⟩⟩
 refine⟨⟨fun j o k hj hk=>?_,fun j k hk=>?_,fun j j' k hk hk'=>?_,fun k hk=>?_,Glb.ext hext hr.glb⟩,hext,⟨fun k hk hno=>⟨hw.other k fun e=>by subst e; exact hno l hm,rfl⟩,fun j k hj _=>⟨j,(hback j k hj).2⟩⟩,fun j hj hn=>?_⟩
 ·obtain⟨h1,h2⟩:=hback j k hk
  simp only at hj
  rw[List.getElem?_set_ne (Ne.symm h1)] at hj
  exact RepOb.ext hext (hw.other k (hother j k h1 h2)) rfl o (hr.obs j o k hj h2)
 ·obtain⟨h1,h2⟩:=hback j k hk
  have:=hr.dom j k h2
  exact⟨by simpa using this.1,by rw[hw.size]; exact this.2⟩
 ·exact hr.inj j j' k (hback j k hk).2 (hback j' k hk').2
 ·obtain⟨arr,e,fz,h1,h2⟩:=hr.imm k hk
  have:k≠b:=fun e=>by subst e; simp only at hk; omega
  exact⟨arr,e,fz,by rw[hw.other k this]; exact h1,h2⟩
 ·simp only[unb]
  split
  ·rfl
  ·exact hn
theorem qgn (w:World) (b n:Nat):WOnly b w (w.freeze ⟨b,0,none⟩ n):=by
 unfold World.freeze
 split
 ·exact .refl b w
 ·exact⟨rfl,rfl,rfl,by simp,fun k hk=>by
   simp only[Array.getElem?_modify]
   rw[if_neg (by simpa using Ne.symm hk)]⟩
section
variable {c:Call} {x y:Operand} {tx ty:TypeId}
theorem qk9 (hr:Real fid Γ) (ho:o.op = .call c) (hcal:c.callee = .builtin .unsafeString) (hargs:c.args.toList=[x,y]) (hats:c.argTypes.toList=[tx,ty]) {e:TypeId} {t l:Nat} {cs:List V} {k:IntKind} {bs:List UInt8}
  (htx:P.underlying tx=some (.pointer e)) (hce:P.cellsOf e=1) (hty:fid.ty t=e) (hx:Rep fid Γ (.eptr l cs.length 0) (ρ x)) (hy:Rep fid Γ (.dat (.lit (.int k cs.length))) (ρ y)) (hk:k = .i64)
  (hσ : Γ.σ[l]?=some (.vecT t cs)) (h0:0<cs.length) (h40:cs.length<=2 ^ 40) (hbs:qcp cs=some bs):Comes P fid Γ ρ o (.str ⟨bs.toArray⟩) (Γ.σ.set l .dead):=by
 subst hk
 have ha:c.args = #[x,y]:=by apply Array.ext'; simpa using hargs
 have hb:c.argTypes = #[tx,ty]:=by apply Array.ext'; simpa using hats
 simp only[Rep] at hx
 obtain⟨a,hx,_,h4⟩:=hx
 obtain⟨b,arr',e',q1,q2,q3,q4⟩:=(h4 _ _ hσ rfl).2 rfl
 obtain⟨vs,arr,k1,k2,k3,k4,k5,k6,k7⟩:=qeN hr hσ q1
 subst q2
 have hvs:=qcs (F := Γ.F) hbs k4
 have hlen:=qcR hbs
 have hrun:=Lib.run_unsafeString_row (P:=P) Γ.w tx ty o.type e htx hce b arr.size (by rw[qc0 k1,hty]) bs (by intro h; rw[h] at hlen; simp at hlen; omega) (by omega) (by omega) (fun j z hj=>by
  rw[qaI,Nat.zero_add]
  exact k7 j _ (by rw[hvs,List.getElem?_map,hj]; rfl))
 obtain⟨u1,u2⟩:=qjO hr hσ q1 (qgn Γ.w b bs.length)
 refine⟨_,.string ⟨bs.toArray⟩,rfl,u1,u2,by simp[Rep,RepD,qaJ],.inl ?_⟩
 simp only[execOp,ho,resolve,hcal,ha,hb,invoke,builtin,Sem.run_bind,Sem.run_pure,Result.andThen_ok]
 rw[hlen] at hrun
 simp[hx,(qaf hy).1,hrun]
 simp[hlen]
theorem qjP (hr:Real fid Γ) (ho:o.op = .call c) (hcal:c.callee = .builtin .unsafeString) (hargs:c.args.toList=[x,y]) (hats:c.argTypes.toList=[tx,ty]) {k:IntKind}
  (hx:Rep fid Γ (.dat (.lit (.pointer none))) (ρ x)) (hy:Rep fid Γ (.dat (.lit (.int k 0))) (ρ y)) (hk:k = .i64):Comes P fid Γ ρ o (.str ⟨#[]⟩) Γ.σ:=by
 subst hk
 have ha:c.args = #[x,y]:=by apply Array.ext'; simpa using hargs
 have hb:c.argTypes = #[tx,ty]:=by apply Array.ext'; simpa using hats
 have hrun:=Lib.run_unsafeString_none (P:=P) Γ.w tx ty o.type none
 refine .pure hr (x := .string ⟨#[]⟩) ?_ (by simp[Rep,RepD,qaJ])
 simp only[execOp,ho,resolve,hcal,ha,hb,invoke,builtin,Sem.run_bind,Sem.run_pure,Result.andThen_ok]
 simp[(qaf hx).1,(qaf hy).1,hrun]
 try rfl
theorem qh1 (fn:Func) (h:fn.name = "internal/abi.NoEscape") (ho:fn.origin = ""):Extern.findNext fn=none/\Extern.find fn=some Extern.AbiNoEscape.same:=by
 have g1:Extern.allNextRows.lookup "internal/abi.NoEscape" = none:=by kernel_rfl
 have g2:Extern.allNextRows.lookup "" = none:=by kernel_rfl
 have g3:Extern.allGenericRows.lookup "internal/abi.NoEscape" = none:=by kernel_rfl
 have g4:Extern.allTypedRows.lookup "internal/abi.NoEscape" = none:=by kernel_rfl
 have g5:Extern.allRows.lookup "internal/abi.NoEscape" = some Extern.AbiNoEscape.same:=by kernel_rfl
 constructor
 ·simp only[Extern.findNext,h,ho,g1,g2]; rfl
 ·simp only[Extern.find,h,ho,g3,g4,g5]; rfl
theorem qiL (fn:Func) (h:fn.name = "internal/bytealg.IndexByteString") (ho:fn.origin = ""):Extern.findNext fn=none/\Extern.find fn=some Extern.BytealgIndexByte.indexByte:=by
 have g1:Extern.allNextRows.lookup "internal/bytealg.IndexByteString" = none:=by kernel_rfl
 have g2:Extern.allNextRows.lookup "" = none:=by kernel_rfl
 have g3:Extern.allGenericRows.lookup "internal/bytealg.IndexByteString" = none:=by kernel_rfl
 have g4:Extern.allTypedRows.lookup "internal/bytealg.IndexByteString" = none:=by kernel_rfl
 have g5:Extern.allRows.lookup "internal/bytealg.IndexByteString" = some Extern.BytealgIndexByte.indexByte:=by kernel_rfl
 constructor
 ·simp only[Extern.findNext,h,ho,g1,g2]; rfl
 ·simp only[Extern.find,h,ho,g3,g4,g5]; rfl
theorem qdR {f:FuncId} {b:Bool} (h:qdG P f=some b) : ∃ fn,P.funcs[f]?=some fn/\fn.body.isNone=true/\(fn.name == "runtime.NumGoroutine")=false/\Extern.findNext fn=none /\
  Extern.find fn=some (if b then Extern.BytealgIndexByte.indexByte else Extern.AbiNoEscape.same):=by
 unfold qdG at h
 split at h
 ·grind [qdG,qh1,qiL]
 ·cases h
theorem qmN {xs:List Operand} {y:X} (h:cXs ids N xs=some [y]) : ∃ x,xs=[x]/\cX ids N x=some y:=by
 cases xs with
 | nil=>simp[cXs] at h
 | cons x r=>
  simp only[cXs] at h
  split at h
  ·rename_i u us h1 h2
   simp only[Option.some.injEq,List.cons.injEq] at h
   obtain⟨rfl,rfl⟩:=h
   cases r with
   | nil=>exact⟨x,rfl,h1⟩
   | cons z r=>
    simp only[cXs] at h2
    split at h2<;>cases h2
  ·cases h
theorem qnc {xs:List Operand} {y z:X} (h:cXs ids N xs=some [y,z]) : ∃ p q,xs=[p,q]/\cX ids N p=some y/\cX ids N q=some z:=by
 cases xs with
 | nil=>simp[cXs] at h
 | cons x r=>
  simp only[cXs] at h
  split at h
  ·grind [cXs,cX,qmN]
  ·cases h
theorem qla (hr:Real fid Γ) {f:FuncId} (ho:o.op = .call c) (hcal:c.callee = .value (.func f)) (he:qdG P f=some false) (hargs:c.args.toList=[x]) {u:V} (hf : ρ (.func f) = .func (.func f) #[] #[]) (hu:Rep fid Γ u (ρ x)):Comes P fid Γ ρ o u Γ.σ:=by
 have ha:c.args = #[x]:=by apply Array.ext'; simpa using hargs
 obtain⟨fn,h1,h2,h3,h4,h5⟩:=qdR he
 simp only[Bool.false_eq_true,if_false] at h5
 refine .pure hr (x := ρ x) ?_ hu
 simp only[execOp,ho,resolve,hcal,ha,hf,Deferred.ofValue,Sem.run_bind,Sem.run_pure,Result.andThen_ok,invoke]
 have:=run_callFunc_extern h1 h3 h2 h4 h5 #[ρ x] Γ.w
 have hs:(Extern.AbiNoEscape.same #[ρ x]).run P Γ.w = .ok (ρ x) Γ.w:=rfl
 simp[this,hs]
theorem qlV (hr:Real fid Γ) {f:FuncId} (ho:o.op = .call c) (hcal:c.callee = .value (.func f)) (he:qdG P f=some true) (hargs:c.args.toList=[x,y]) (hf : ρ (.func f) = .func (.func f) #[] #[]) {s:ByteArray} {n:Int} (hx:Rep fid Γ (.str s) (ρ x)) (hy:Rep fid Γ (.dat (.lit (.int .u8 n))) (ρ y)) :
  Comes P fid Γ ρ o (.int (firstIdx s n.toNat.toUInt8)) Γ.σ:=by
 have ha:c.args = #[x,y]:=by apply Array.ext'; simpa using hargs
 obtain⟨fn,h1,h2,h3,h4,h5⟩:=qdR he
 simp only[if_true] at h5
 refine .pure hr (x := .int .i64 (firstIdx s n.toNat.toUInt8)) ?_ (by simp[Rep,RepD,qaJ])
 simp only[execOp,ho,resolve,hcal,ha,hf,Deferred.ofValue,Sem.run_bind,Sem.run_pure,Result.andThen_ok,invoke]
 have:=run_callFunc_extern h1 h3 h2 h4 h5 #[ρ x,ρ y] Γ.w
 rw[(qaf hx).1,(qaf hy).1] at this
 simp[(qaf hx).1,(qaf hy).1,this,run_indexByte_string]
end
end
end Go.Pm
end SJ3
