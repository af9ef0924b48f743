/- Rows of the program's own: grown, cut, handed on, handed back. -/
import Derived.Test.YtmigbfimahjacaaGreatDoorPmAL
import Derived.Test.YtmigbfimahjacaaGreatDoorPmH
import Derived.Laws.BytesString
import Derived.Lib.UnsafeStr
set_option linter.unusedSimpArgs false
set_option linter.unusedVariables false
namespace Go.Pm
section
variable{P:Program}{ids:Ids}{fid:Fid}{N:Nat}
section
variable{Γ : Ctx}{fr:Fr}{ρ : Operand->Value}{o:Oper}{v:V}{σ':S}
theorem qdg (hr:Real fid Γ) {l b:Nat} {cs:List V} (ho : Γ.σ[l]?=some (.vec cs)) (hm : Γ.μ l=some b) :
  ∃ vs arr e,Γ.w.heap[b]?=some (.cells arr e (0,0)) /\ Γ.F b+cs.length<=arr.size/\vs=(arr.toList.drop (Γ.F b)).take cs.length/\Reps fid Γ cs vs/\(∀ v∈vs,v.oneCell'=true) /\ ∀ j v,vs[j]?=some v -> Γ.w.cell? ⟨b,Γ.F b+j,none⟩=some v:=by
 have:=hr.obs l _ b ho hm
 simp only[RepOb] at this
 obtain⟨arr,e,h2,h3,h4,h5⟩:=this
 refine⟨_,arr,e,h2,h3,rfl,h4,h5,fun j x hj=>?_⟩
 simp only[World.cell?,h2]
 simpa using qjO hj
theorem srcO_row (hr:Real fid Γ) {u:V} {x:Value} {xs:List V} {m:Nat} (hu:Rep fid Γ u x) (h:qor Γ.σ u=some (xs,m)) :
  (∃ a,x = .slice a 0 0/\xs=[]/\m=0)\/(∃ s,u = .dat (.lit (.string s))/\x = .string s/\xs=(qeO s).map .dat/\m=s.size) \/
  ∃ b off cap vs,x = .slice (some ⟨b,off,none⟩) m cap/\Reps fid Γ xs vs /\ ∀ j v,vs[j]?=some v -> Γ.w.cell? ⟨b,off+j,none⟩=some v:=by
 unfold qor at h
 split at h
 ·rename_i a
  cases h
  exact .inl ⟨a,(qaC hu).1,rfl,rfl⟩
 ·cases h
  simp only[Rep,RepD] at hu
  obtain⟨b,o',cap,vs,hx,_,_,h3,h4⟩:=hu
  exact .inr (.inr ⟨b,o',cap,vs,hx,Reps_dat.2 h3,h4.1⟩)
 ·cases h
  simp only[Rep] at hu
  obtain⟨b,cap,vs,k,hx,_,h3,h4,_⟩:=hu
  exact .inr (.inr ⟨b,0,cap,vs,hx,Reps_dat.2 h3,h4.1⟩)
 ·rename_i s
  cases h
  exact .inr (.inl ⟨s,rfl,(qaC hu).1,rfl,rfl⟩)
 ·rename_i l n sz'
  simp only[Rep] at hu
  obtain⟨a,cap,hx,h2,h0,h3,h4⟩:=hu
  split at h
  ·rename_i cs hcs
   split at h
   ·rename_i hlen
    cases h
    obtain⟨b,arr,e,g1,rfl,g3,g4⟩:=(h4 _ _ hcs rfl).2 hlen
    obtain⟨vs,arr',e',k1,k2,k3,k4,k5,k7⟩:=qdg hr hcs g1
    exact .inr (.inr ⟨b,_,cap,vs,hx,k4,k7⟩)
   ·cases h
  ·rename_i ds hds
   split at h
   ·rename_i hlen
    cases h
    obtain⟨b,arr,e,g1,rfl,g3,g4⟩:=(h4 _ _ hds rfl).2 (by simpa using hlen)
    obtain⟨vs,k1,k2⟩:=qhf hr hds g1
    exact .inr (.inr ⟨b,_,cap,vs,hx,Reps_dat.2 k1,k2.1⟩)
   ·cases h
  ·cases h
 ·rename_i l off n cap sz'
  simp only[Rep] at hu
  obtain⟨b,hm,hx,h2,h3⟩:=hu
  split at h
  ·rename_i cs hcs
   split at h
   ·rename_i hle
    cases h
    obtain⟨_,arr,e,g2,g3⟩:=hr.obs l _ b hcs hm
    refine .inr (.inr ⟨b,off,cap,_,hx,qbI (qb1 g3 off) (m*sz'),fun j v hj=>?_⟩)
    simp only[World.cell?,g2]
    rw[WN] at hj
    split at hj
    ·rw[Yt] at hj
     simpa using hj
    ·cases hj
   ·cases h
  ·cases h
 ·rename_i l n off k sz'
  simp only[Rep] at hu
  obtain⟨a,cap,hx,h2,h0,h3,h4⟩:=hu
  split at h
  ·rename_i cs hcs
   split at h
   ·rename_i hlen
    cases h
    obtain⟨b,arr,e,g1,ga,g3,g4,g5,g6⟩:=(h4 _ _ hcs rfl).2 hlen.1
    obtain⟨vs,arr',e',k1,k2,k3,k4,k5,k7⟩:=qdg hr hcs g1
    rcases W6 cap with rfl|hc
    ·obtain rfl:m=0:=by omega
     exact .inl ⟨some a,hx,by simp,rfl⟩
    ·rw[ga hc] at hx
     refine .inr (.inr ⟨b,_,cap,_,hx,qbI (qb1 k4 off) (m*sz'),fun j v hj=>?_⟩)
     rw[WN] at hj
     split at hj
     ·rw[Yt] at hj
      have:=k7 _ _ hj
      rw[<- Nat.add_assoc] at this
      exact this
     ·cases hj
   ·cases h
  ·cases h
 ·cases h
  simp only[Rep] at hu
  obtain⟨b,o',cap,vs,hx,_,h3,h4⟩:=hu
  exact .inr (.inr ⟨b,o',cap,vs,hx,h3,h4.1⟩)
 ·cases h
theorem qjn (hr:Real fid Γ) {u:V} {x:Value} {xs:List V} {m sz:Nat} (hu:Rep fid Γ u x) (h:qor Γ.σ u=some (xs,m)) (hl:xs.length=m*sz) (h1:xs.all V.one=true) :
  ∃ vs,Reps fid Γ xs vs/\(∀ v∈vs,v.oneCell'=true)/\(∀ w',(Builtin.lenOf x).run P w' = .ok m w') /\
   ∀ w':World,(∀ b i,w'.cell? ⟨b,i,none⟩ = Γ.w.cell? ⟨b,i,none⟩)->(Builtin.firstCells sz m x).run P w' = .ok vs.toArray w':=by
 rcases srcO_row hr hu h with ⟨a,rfl,rfl,rfl⟩|⟨s,rfl,rfl,rfl,rfl⟩|⟨b,off,cap,vs,rfl,hv,hc⟩
 ·refine⟨[],by simp[Reps],by simp,fun w'=>by simp[Builtin.lenOf],fun w' _=>?_⟩
  cases a with
  |none=>simp[Builtin.firstCells]
  |some a=>simp[Builtin.firstCells,loadCells,loadCellsFrom]
 ·exact⟨_,Reps_dat.2 (qi4 _ _ s),fun v hv=>by obtain⟨c,_,rfl⟩:=Wm.1 hv; rfl,fun w'=>by simp[Builtin.lenOf],fun w' _=>qdn sz s w'⟩
 ·refine⟨vs,hv,qbP hv h1,fun w'=>by simp[Builtin.lenOf],fun w' hw=>?_⟩
  have:=qa0 (P:=P) (w:=w') (b:=b) (o:=off) (vs:=vs) (fun j v hj=>by rw[hw]; exact hc j v hj)
  rw[Reps.length hv,hl] at this
  simp only[Builtin.firstCells,this]
section
variable{ts tx e ex:TypeId}{s x:Operand}{c:Call}{sz bytes:Nat}{z:Value}
structure App(P:Program)(fid:Fid)(Γ : Ctx)(ρ : Operand->Value)(o:Oper)(s x:Operand)(e:TypeId)(sz m:Nat)(xs:List V)(news:List Value):Prop where
 n1:Reps fid Γ xs news
 n2 : ∀ v∈news,v.oneCell'=true
 xl:xs.length=m*sz
 pos:0<sz
 mpos:0<m
 new : ∀ {olds:List Value} {base:Option Addr} {n cap bytes:Nat},ρ s = .slice base n cap->cap<n+m->qaA (n+m) bytes=true->qcP P e=some bytes->olds.length=n*sz ->
  (∀ w':World,(∀ b i,w'.cell? ⟨b,i,none⟩ = Γ.w.cell? ⟨b,i,none⟩)->(Builtin.firstCells sz n (.slice base n cap)).run P w' = .ok olds.toArray w') ->
  ∃ (newCap:Nat) (rest:Array Value),n+m<=newCap/\(n+m)*sz+rest.size=newCap*sz /\
   (execOp ρ o).run P Γ.w = .ok (.value (.slice (some ⟨Γ.w.heap.size,0,none⟩) (n+m) newCap)) (Γ.w.drew.alloc (.cells ((olds++news).toArray++rest) e))
 fits : ∀ {base:Option Addr} {n cap:Nat} {w':World},ρ s = .slice base n cap->n+m<=cap->((match base with|some a=>storeCells (a.add (n*sz)) news|none=>pure ()):Sem Unit).run P Γ.w = .ok () w' ->
  (execOp ρ o).run P Γ.w = .ok (.value (.slice base (n+m) cap)) w'
theorem App.step{Γ':Ctx}{m:Nat}{xs:List V}{news:List Value}(h:App P fid Γ ρ o s x e sz m xs news)(hs:Step Γ Γ')(hw : Γ'.w = Γ.w):App P fid Γ' ρ o s x e sz m xs news:=
 ⟨Reps.ext hs.ext _ _ h.n1,h.n2,h.xl,h.pos,h.mpos,by rw[hw]; exact h.new,by rw[hw]; exact h.fits⟩
theorem App.ob {m:Nat} {xs:List V} {news:List Value} (h:App P fid Γ ρ o s x e sz m xs news) {Γ':Ctx} {olds:List Value} {cs:List V} {rest:Array Value} (hx:Ext Γ Γ') (hw : Γ'.w = Γ.w.drew.alloc (.cells ((olds++news).toArray++rest) e)) (hF : Γ'.F Γ.w.heap.size=0)
  (g1:Reps fid Γ cs olds) (g2 : ∀ v∈olds,v.oneCell'=true):RepOb fid Γ' Γ.w.heap.size (.vec (cs++xs)):=by
 have g3:Reps fid Γ (cs++xs) (olds++news):=Reps_append.2 ⟨_,_,rfl,g1,h.n1⟩
 have hlen:=Reps.length g3
 have htk:((olds++news).toArray++rest).toList.take (cs++xs).length=olds++news:=by
  rw[<- hlen,Array.toList_append]; exact Ym rfl
 simp only[RepOb,hF,WF,WE]
 refine⟨_,e,by rw[hw]; exact qav Γ.w.drew _,by rw[<- hlen]; simp,?_,?_⟩
 ·rw[htk]; exact Reps.ext hx _ _ g3
 ·rw[htk]
  intro v hv
  rcases We.1 hv with hv|hv
  ·exact g2 v hv
  ·exact h.n2 v hv
theorem App.rep {m:Nat} {xs:List V} {news:List Value} (h:App P fid Γ ρ o s x e sz m xs news) {Γ':Ctx} {olds:List Value} {cs:List V} {rest:Array Value} {n newCap l:Nat} (hw : Γ'.w = Γ.w.drew.alloc (.cells ((olds++news).toArray++rest) e)) (hF : Γ'.F Γ.w.heap.size=0)
  (hσ : Γ'.σ[l]?=some (.vec (cs++xs))) (hμ : Γ'.μ l=some Γ.w.heap.size) (g1:n+m<=newCap) (g2:(n+m)*sz+rest.size=newCap*sz) (g3:cs.length=n*sz) (g5:Reps fid Γ cs olds) :
  Rep fid Γ' (.own l (n+m) sz) (.slice (some ⟨Γ.w.heap.size,0,none⟩) (n+m) newCap):=by
 have hl:(cs++xs).length=(n+m)*sz:=by rw[Wt,g3,h.xl,WW]
 have hlen:=Reps.length (Reps_append.2 ⟨_,_,rfl,g5,h.n1⟩:Reps fid Γ (cs++xs) (olds++news))
 simp only[Rep]
 refine⟨_,_,rfl,g1,h.pos,⟨_,hσ,rfl⟩,fun ob cs' k1 k2=>?_⟩
 rw[hσ] at k1; cases k1
 simp only[Ob.rows,Wd] at k2; subst k2
 refine⟨by rw[hl]; exact Wg _,fun _=>⟨Γ.w.heap.size,_,e,hμ,by rw[hF]; rfl,by rw[hw]; exact qav Γ.w.drew _,?_⟩⟩
 simp only[hF,Ob.fz,Yg,Yw,hlen,hl]
 omega
theorem App.own {m:Nat} {xs:List V} {news:List Value} (h:App P fid Γ ρ o s x e sz m xs news) (hr:Real fid Γ) {l n cap b bytes:Nat} {cs:List V} {arr:Array Value} {e':TypeId} {ad:Addr} (hcs : Γ.σ[l]?=some (.vec cs)) (q1 : Γ.μ l=some b)
  (q2 : Γ.w.heap[b]?=some (.cells arr e' (0,0))) (hcl:cs.length=n*sz) (hs : ρ s = .slice (some ad) n cap) (hle:n<=cap) (had:0<cap->ad=⟨b,Γ.F b,none⟩) (q3 : Γ.F b+cap*sz<=arr.size) (hroom:qaA (n+m) bytes=true) (hby:qcP P e=some bytes) :
  Comes P fid Γ ρ o (.own l (n+m) sz) (Γ.σ.set l (.vec (cs++xs))):=by
 obtain⟨olds,arr',e2,k1,k2,k3,k4,k5,k7⟩:=qdg hr hcs q1
 rw[q2] at k1; cases k1
 have hol:olds.length=n*sz:=by rw[Reps.length k4,hcl]
 have hlt:=(Wb.1 hcs).1
 by_cases hfit:n+m<=cap
 ·have hbd:(n+m)*sz<=cap*sz:=WB _ hfit
  have hnl:=Reps.length h.n1
  rw[WW] at hbd
  have hxl:=h.xl
  obtain rfl:=had (by have:=h.mpos; omega)
  obtain⟨w',s1,s2,arr',s3,s4⟩:=qbe (P:=P) news 0 Γ.w b (Γ.F b+n*sz) arr e' q2 h.n2 (by omega)
  rw[W1] at s4
  obtain⟨hsz,u1,u2⟩:=qfN hr hcs q1 q2 h.n1 h.n2 (show n*sz<=cs.length by omega) (by omega) s2 s3 (by rw[s4])
  have e1:cs.take (n*sz)++(xs++cs.drop (n*sz+xs.length))=cs++xs:=by
   rw[Wl (by omega),Yu (by omega),Wp]
  rw[e1] at u1 u2
  refine⟨_,.slice (some ⟨b,Γ.F b,none⟩) (n+m) cap,rfl,u1,u2,?_,.inl (h.fits hs hfit ?_)⟩
  ·simp only[Rep]
   refine⟨_,_,rfl,hfit,h.pos,⟨.vec (cs++xs),by simp[hlt],rfl⟩,fun ob cs' j1 j2=>?_⟩
   have:ob = .vec (cs++xs):=by simpa [hlt] using j1.symm
   subst this
   simp only[Ob.rows,Wd] at j2; subst j2
   exact⟨by rw[Wt,hcl,hxl,WW]; exact Wg _,fun _=>⟨b,arr',e',q1,rfl,s3,by rw[hsz]; exact q3⟩⟩
  ·simp only[qa9]
   exact s1
 ·obtain⟨newCap,rest,f1,f2,f7⟩:=h.new hs (show cap<n+m by omega) hroom hby hol (fun w' hw=>by
   rcases W6 cap with rfl|hc
   ·obtain rfl:n=0:=by omega
    have:olds=[]:=WL (by omega)
    subst this
    simp[Builtin.firstCells,loadCells,loadCellsFrom]
   ·obtain rfl:=had hc
    have:=qa0 (P:=P) (w:=w') (b:=b) (o := Γ.F b) (vs:=olds) (fun j v hj=>by rw[hw]; exact k7 j v hj)
    rw[hol] at this
    simp only[Builtin.firstCells,this])
  obtain⟨d1,d2⟩:=qf7 hr
  have hx:=h.xl
  have:=YD h.mpos h.pos
  obtain⟨j1,j2⟩:=quh d1 hcs (by simp[q1]) (cs':=cs++xs) (by rw[Wt]; omega) ((olds++news).toArray++rest) e
   (fun hx=>h.ob (d2.ext.trans hx) rfl (by simp[grow]) k4 k5)
  exact⟨_,_,rfl,j1,d2.trans j2,h.rep rfl (by simp[grow]) (by simp[hlt]) (by simp[bind]) f1 f2 hcl k4,.inl f7⟩
theorem qlP (hr:Real fid Γ) (ho:o.op = .call c) (hcal:c.callee = .builtin .append) (hargs:c.args.toList=[s,x]) (hats:c.argTypes.toList=[ts,tx])
  (hts:P.underlying ts=some (.slice e)) (htx:(∃ ex,P.underlying tx=some (.slice ex))\/P.underlying tx=some .string) (hsz:qaH P e=some sz) (hby:qcP P e=some bytes) (hz:qcj P e=some z) (hzn:z.cells.size=sz)
  {a b u:V} (ha:Rep fid Γ a (ρ s)) (hb:Rep fid Γ b (ρ x)) (h:appendO Γ.σ sz bytes a b=some (u,σ')):Comes P fid Γ ρ o u σ':=by
 unfold appendO at h
 split at h
 ·cases h
 ·rename_i xs m hsrc
  split at h
  ·rename_i hcond
   obtain⟨hxl,hsz0,hone⟩:=hcond
   obtain⟨news,n1,n2,n3,n4⟩:=qjn (P:=P) hr hb hsrc hxl hone
   have hnl:news.length=m*sz:=by rw[Reps.length n1,hxl]
   split at h
   ·rename_i hm
    subst hm
    have hnews:news=[]:=by
     apply WL; rw[hnl]; simp
    have fin : ∀ base n cap,ρ s = .slice base n cap->n<=cap->(u=a /\ σ' = Γ.σ)->Comes P fid Γ ρ o u σ':=fun base n cap hs hle hu=>by
     obtain⟨rfl,rfl⟩:=hu
     refine .pure hr (x := ρ s) ?_ ha
     refine qbt ho hcal hargs hats ?_
     rw[hs]
     have:=qfb (P:=P) (o:=o) hts htx hsz (base:=base) (n3 Γ.w) (show n+0<=cap by omega) (n4 Γ.w fun _ _=>rfl) (w' := Γ.w) (by rw[hnews]; cases base<;>simp[storeCells])
     simpa using this
    split at h
    ·cases h
     exact fin _ _ _ (qaC ha).1 (Wg _) ⟨rfl,rfl⟩
    ·cases h
     have ha':=ha
     simp only[Rep,RepD] at ha'
     obtain⟨b',o',cap,vs,hs,h2,_⟩:=ha'
     exact fin _ _ _ hs h2 ⟨rfl,rfl⟩
    ·cases h
     have ha':=ha
     simp only[Rep] at ha'
     obtain⟨b',cap,hs,h2,_⟩:=ha'
     exact fin _ _ _ hs h2 ⟨rfl,rfl⟩
    ·cases h
     have ha':=ha
     simp only[Rep] at ha'
     obtain⟨b',cap,hs,h2,_⟩:=ha'
     exact fin _ _ _ hs h2 ⟨rfl,rfl⟩
    ·cases h
   ·rename_i hm
    have A:App P fid Γ ρ o s x e sz m xs news:=⟨n1,n2,hxl,hsz0,by omega,fun {olds base n cap bytes'} hs hlt hroom hby' hol hold=>by
      obtain⟨newCap,rest,r1,r2,r3⟩:=qh6 (P:=P) (o:=o) hts htx hsz hby' hz n3 hlt hroom hold n4
      refine⟨newCap,rest,r1,?_,qbt ho hcal hargs hats (by rw[hs]; exact r3)⟩
      rw[r2,hzn,<- Nat.add_mul]; congr 1; omega,
     fun {base n cap w'} hs hfit hst=>qbt ho hcal hargs hats (by rw[hs]; exact qfb (P:=P) (o:=o) hts htx hsz (n3 Γ.w) hfit (n4 Γ.w fun _ _=>rfl) hst)⟩
    obtain⟨d1,d2⟩:=qf7 hr
    split at h
    ·split at h
     ·rename_i hroom
      cases h
      obtain⟨newCap,rest,f1,f2,f7⟩:=A.new (olds:=[]) (qaC ha).1 (show 0<0+m by omega) (by simpa using hroom) hby (by simp)
       (fun w' _=>by simp[Builtin.firstCells])
      obtain⟨k1,k2⟩:=qbW d1 (.vec xs) (.cells (([]++news).toArray++rest) e) 0
       (fun Γ' e' hx=>by
        have:=A.ob (cs:=[]) (olds:=[]) (rest:=rest) (d2.ext.trans hx) (by subst e'; rfl) (by subst e'; simp[grow]) (by simp[Reps]) (by simp)
        simpa using this) (fun h=>absurd h (WP _))
      refine⟨_,_,rfl,k1,d2.trans k2,?_,.inl f7⟩
      have:=A.rep (cs:=[]) (olds:=[]) (rest:=rest) (n:=0) (newCap:=newCap) (l := Γ.σ.length) (Γ':=⟨Γ.σ ++ [.vec xs],bind Γ.μ Γ.σ.length Γ.w.drew.heap.size,grow Γ.F Γ.w.drew.heap.size 0,Γ.w.drew.alloc (.cells (([]++news).toArray++rest) e)⟩) rfl (by simp[grow]) (by simp) (by simp[bind]) f1 f2 (by simp) (by simp[Reps])
      simpa using this
     ·cases h
    ·rename_i cs n
     split at h
     ·rename_i hcond
      obtain⟨hroom,hcl⟩:=hcond
      cases h
      have ha':=ha
      simp only[Rep,RepD] at ha'
      obtain⟨b',o',cap,olds,hs,h2,h3,h4,h5⟩:=ha'
      have hcap:=h3 trivial
      subst hcap
      obtain⟨newCap,rest,f1,f2,f7⟩:=A.new hs (show cap<cap+m by omega) hroom hby (by rw[h4.length]; exact hcl) (fun w' hw=>by
       have:=qa0 (P:=P) (w:=w') (b:=b') (o:=o') (vs:=olds) (fun j v hj=>by rw[hw]; exact h5.1 j v hj)
       rw[h4.length,hcl] at this
       simp only[Builtin.firstCells,this])
      obtain⟨k1,k2⟩:=qbW d1 (.vec (cs.map .dat++xs)) (.cells ((olds++news).toArray++rest) e) 0
       (fun Γ' e' hx=>A.ob (d2.ext.trans hx) (by subst e'; rfl) (by subst e'; simp[grow]) (Reps_dat.2 h4) h5.2.2) (fun h=>absurd h (WP _))
      exact⟨_,_,rfl,k1,d2.trans k2,A.rep rfl (by simp[grow]) (by simp) (by simp[bind]) f1 f2 (by simpa using hcl) (Reps_dat.2 h4),.inl f7⟩
     ·cases h
    ·rename_i l n off k sz'
     split at h
     ·rename_i cs hcs
      split at h
      ·rename_i hcond
       obtain⟨hroom,hcl,rfl,hend⟩:=hcond
       cases h
       simp only[Rep] at ha
       obtain⟨ad,cap,hs,h2,h0,h3,h4⟩:=ha
       obtain⟨b',arr,e',q1,qa,q2,q4,q5,q6⟩:=(h4 _ _ hcs rfl).2 hcl
       simp only[Ob.fz,Nat.sub_zero] at qa q5 q6
       obtain⟨olds,arr',e2,k1,k2,k3,k4,k5,k7⟩:=qdg hr hcs q1
       rw[q2] at k1; cases k1
       have hlt:=(Wb.1 hcs).1
       have htk:(arr.toList.drop (Γ.F b'+off)).take (cs.drop off).length=olds.drop off:=by
        rw[k3,List.drop_take,List.drop_drop,Yf]
       obtain⟨u1,u2⟩:=qsT hr hcs q1 (n := Γ.F b'+off) (by omega) q2 (by omega) (cs':=cs.drop off) (fun hx=>by
        simp only[RepOb,grow,if_pos]
        refine⟨arr,e',q2,by rw[Yf]; omega,?_,?_⟩
        ·rw[htk]; exact Reps.ext hx _ _ (qb1 k4 _)
        ·rw[htk]; intro v hv; exact k5 v (Yx hv))
       have hlast:(Γ.σ.set l .dead++[Ob.vec (cs.drop off)])[Γ.σ.length]?=some (.vec (cs.drop off)):=by
        rw[WC (by simp)]; simp
       obtain⟨Γ',y,y1,y2,y3,y4,y5⟩:=(A.step u2 rfl).own u1 (ad:=ad) (cap:=cap) (n:=k) (b:=b') hlast (by simp[pass,q1]) q2 (by rw[Yf]; omega) hs h2
        (fun hc=>by rw[qa hc]; simp[grow]) (by simp only[grow,if_pos]; omega) hroom hby
       refine⟨Γ',y,?_,y2,u2.trans y3,y4,y5⟩
       rw[y1]
       show (Γ.σ.set l .dead++[Ob.vec (cs.drop off)]).set Γ.σ.length _=_
       rw[List.set_append_right _ _ (by simp)]
       simp
      ·cases h
     ·cases h
    ·rename_i l n sz'
     split at h
     ·rename_i cs hcs
      split at h
      ·rename_i hcond
       obtain⟨hroom,hcl,rfl⟩:=hcond
       cases h
       simp only[Rep] at ha
       obtain⟨ad,cap,hs,h2,h0,h3,h4⟩:=ha
       obtain⟨b',arr,e',q1,rfl,q2,q3⟩:=(h4 _ _ hcs rfl).2 hcl
       exact A.own hr hcs q1 q2 hcl hs h2 (fun _=>rfl) q3 hroom hby
      ·cases h
     ·cases h
    ·cases h
  ·cases h
end
theorem qw1 (hr:Real fid Γ) {t e:TypeId} {n:Nat} {x:Operand} {p u:V} {lo lo0 hi:Option V} {lx hx:Option Operand} (ho:o.op = .slice t x lx hx none) (hp:Rep fid Γ p (ρ x))
  (ht:P.underlying t=some (.slice e)) (hn:qaH P e=some n) (h1:qiy fid Γ ρ lo0 lx) (h2:qiy fid Γ ρ hi hx) (hlo : ∀ m,bound lo 0 m=bound lo0 0 m)
  (h:qvo Γ.σ n lo hi p=some (u,σ')):Comes P fid Γ ρ o u σ':=by
 unfold qvo at h
 split at h
 ·rename_i l len sz'
  split at h
  ·rename_i cs hcs
   simp only[Rep] at hp
   obtain⟨ad,cap,hs,g2,g0,g3,g4⟩:=hp
   simp only[hlo] at h
   split at h
   ·split at h
    ·rename_i hh eh
     split at h
     ·rename_i j el
      split at h
      ·rename_i hcond
       obtain⟨rfl,hcl⟩:=hcond
       cases h
       obtain⟨b,arr,e',q1,qa,q2,q3⟩:=(g4 _ _ hcs rfl).2 hcl
       have hb:=qbO (P:=P) (isSl:=true) h1 h2 g2 eh el Γ.w
       obtain⟨hle,hle2⟩:=qgi h1 h2 eh el
       refine .pure hr (x := .slice (if cap=j then some ad else (some ad).map (·.add (j*sz'))) (hh-j) (cap-j)) ?_ ?_
       ·simp only[execOp,ho,Instr.sliceAt,Sem.run_bind,qam ht,Result.andThen_ok,Instr.slice,hs,Yd,hb,qaG hn,Sem.run_pure]
       ·have e1:len*sz'<=cap*sz':=WB _ g2
        have:=qnD (fid:=fid) (Γ := Γ) (l:=l) (n:=len*sz') (off:=0) (len:=len) (sz:=sz') (ll:=j) (hh:=hh) (cap:=cap) (a:=ad) g2 g0 g3 (fun ob cs' k1 k2=>⟨(g4 ob cs' k1 k2).1,fun hl=>by
         obtain⟨b,arr,e',j1,j2,j3,j4⟩:=(g4 ob cs' k1 k2).2 hl
         exact⟨b,arr,e',j1,fun _=>j2,j3,by omega,by omega,by omega⟩⟩) hle hle2
        simpa using this
      ·cases h
     ·cases h
    ·cases h
   ·split at h
    ·rename_i hh eh
     split at h
     ·rename_i el
      split at h
      ·rename_i hcond
       obtain⟨rfl,hcl⟩:=hcond
       cases h
       obtain⟨b,arr,e',q1,rfl,q2,q3⟩:=(g4 _ _ hcs rfl).2 hcl
       obtain⟨olds,arr',e2,k1,k2,k3,k4,k5,k7⟩:=qdg hr hcs q1
       rw[q2] at k1; cases k1
       have a2:hh<=len:=by rcases qaP h2 eh with ⟨_,rfl⟩|⟨_,_,i',_,_,i3,i4,rfl⟩<;>omega
       have hle:hh*sz'<=len*sz':=WB _ a2
       have hcl2:(cs.take (hh*sz')).length=hh*sz':=by simp; omega
       have htk:(arr.toList.drop (Γ.F b)).take (cs.take (hh*sz')).length=olds.take (hh*sz'):=by
        rw[hcl2,k3,Yk]; congr 1; omega
       obtain⟨u1,u2⟩:=qsT hr hcs q1 (n := Γ.F b) (Wg _) q2 (by omega) (cs':=cs.take (hh*sz')) (fun hx=>by
        simp only[RepOb,grow,if_pos]
        refine⟨arr,e',q2,by rw[hcl2]; omega,?_,?_⟩
        ·rw[htk]; exact Reps.ext hx _ _ (qbI k4 _)
        ·rw[htk]; intro v hv; exact k5 v (W8 hv))
       refine⟨_,.slice (some ⟨b,Γ.F b-(Ob.vec cs).fz,none⟩) hh cap,rfl,u1,u2,?_,.inl ?_⟩
       ·simp only[Rep]
        have hlast:(Γ.σ.set l .dead++[Ob.vec (cs.take (hh*sz'))])[Γ.σ.length]?=some (.vec (cs.take (hh*sz'))):=by
         rw[WC (by simp)]; simp
        refine⟨_,_,rfl,by omega,g0,⟨_,hlast,rfl⟩,fun ob cs' j1 j2=>?_⟩
        rw[hlast] at j1; cases j1
        simp only[Ob.rows,Wd] at j2; subst j2
        exact⟨by rw[hcl2]; exact Wg _,fun _=>⟨b,arr,e',by simp[pass,q1],by simp[grow,Ob.fz],q2,by simpa [grow,Ob.fz] using q3⟩⟩
       ·have hb:=qbO (P:=P) (isSl:=true) h1 h2 g2 eh el Γ.w
        simp only[execOp,ho,Instr.sliceAt,Sem.run_bind,qam ht,Result.andThen_ok,Instr.slice,hs,Yd,hb,qaG hn,Sem.run_pure]
        by_cases hc:cap=0
        ·simp[hc]
        ·simp[hc,qa9]
      ·cases h
     ·cases h
    ·cases h
  ·cases h
 ·have e0 : ∀ q,qcL n lo hi q=qcL n lo0 hi q:=fun q=>by simp only[qcL,hlo]
  split at h
  ·rename_i v hv
   cases h
   rw[e0] at hv
   exact qqB hr ho hp ht hn h1 h2 hv
  ·cases h
theorem qjo(hr:Real fid Γ){v:V}{x:Value}(h:Rep fid Γ v x) : ∃ Γ':Ctx,Γ'.σ = (qi1 Γ.σ v).2 /\ Γ'.w = Γ.w/\Real fid Γ'/\Step Γ Γ'/\Rep fid Γ' (qi1 Γ.σ v).1 x:=by
 unfold qi1
 split
 ·rename_i l n sz
  split
  ·rename_i cs hcs
   split
   ·rename_i hlen
    split
    ·rename_i ds hds
     have hcd:=qcH hds
     simp only[Rep] at h
     obtain⟨ad,cap,hs,g2,g0,g3,g4⟩:=h
     obtain⟨b,arr,e',q1,rfl,q2,q3⟩:=(g4 _ _ hcs rfl).2 hlen
     obtain⟨olds,arr',e2,k1,k2,k3,k4,k5,k7⟩:=qdg hr hcs q1
     rw[q2] at k1; cases k1
     have hl:ds.length=cs.length:=by rw[hcd]; simp
     have hD:RepDs Γ.F Γ.w ds olds:=by rw[hcd] at k4; exact Reps_dat.1 k4
     have ho:(arr.toList.drop (Γ.F b+ds.length-ds.length)).take ds.length=olds:=by rw[Nat.add_sub_cancel,hl,<- k3]
     obtain⟨u1,u2⟩:=qqa hr hcs q1 hl (fun hx=>by
      simp only[RepOb,grow,if_pos]
      refine⟨by omega,arr,e',q2,by omega,?_,?_⟩
      ·rw[ho]; exact RepDs.ext hx _ _ hD
      ·rw[ho]; exact k5)
     refine⟨⟨Γ.σ.set l (.froz ds),Γ.μ,grow Γ.F b (Γ.F b+ds.length),Γ.w⟩,rfl,rfl,u1,u2,?_⟩
     simp only[Rep,RepD]
     refine⟨b,_,cap,olds,hs,g2,by simp,RepDs.ext u2.ext _ _ hD,fun j v hj=>k7 j v hj,fun _=>?_,k5⟩
     simp[grow,hD.length,Ob.fz]
    ·exact⟨Γ,rfl,rfl,hr,.refl _,h⟩
   ·exact⟨Γ,rfl,rfl,hr,.refl _,h⟩
  ·rename_i ds hds
   split
   ·rename_i hlen
    refine⟨Γ,rfl,rfl,hr,.refl _,?_⟩
    simp only[Rep] at h
    obtain⟨ad,cap,hs,g2,g0,g3,g4⟩:=h
    obtain⟨b,arr,e',q1,rfl,q2,q3⟩:=(g4 _ _ hds rfl).2 (by simpa using hlen)
    obtain⟨vs,k1,k2⟩:=qhf hr hds q1
    simp only[Rep,RepD]
    exact⟨b,_,cap,vs,hs,g2,by simp,k1,k2⟩
   ·exact⟨Γ,rfl,rfl,hr,.refl _,h⟩
  ·exact⟨Γ,rfl,rfl,hr,.refl _,h⟩
 ·refine⟨Γ,rfl,rfl,hr,.refl _,?_⟩
  simp only[Rep,RepD] at h ⊢
  obtain⟨b,cap,vs,m,h1,h2,h3,h4,_⟩:=h
  exact⟨b,0,cap,vs,h1,h2,by simp,h3,h4⟩
 ·exact⟨Γ,rfl,rfl,hr,.refl _,h⟩
end
theorem qjp : ∀ {vs:List V} {Γ : Ctx} {xs:List Value},Real fid Γ -> Reps fid Γ vs xs -> ∃ Γ':Ctx,Γ'.σ = (qnc Γ.σ vs).2 /\ Γ'.w = Γ.w/\Real fid Γ'/\Step Γ Γ'/\Reps fid Γ' (qnc Γ.σ vs).1 xs
 |[],Γ,xs,hr,h=>⟨Γ,rfl,rfl,hr,.refl _,by simpa only [qnc,Reps] using h⟩
 |v::vs,Γ,xs,hr,h=>by
  simp only[Reps] at h
  obtain⟨y,ys,rfl,h1,h2⟩:=h
  obtain⟨Γ1,a1,a2,a3,a4,a5⟩:=qjo hr h1
  obtain⟨Γ2,b1,b2,b3,b4,b5⟩:=qjp (vs:=vs) a3 (Reps.ext a4.ext _ _ h2)
  rw[a1] at b1 b5
  exact⟨Γ2,b1,b2.trans a2,b3,a4.trans b4,_,_,rfl,Rep.ext b4.ext _ _ a5,b5⟩
theorem qoG{Γ : Ctx}{v:V}{x:Value}(hr:Real fid Γ)(h:Rep fid Γ v x) : ∃ Γ':Ctx,Γ'.σ = (qoS Γ.σ v).2 /\ Γ'.w = Γ.w/\Real fid Γ'/\Step Γ Γ'/\Rep fid Γ' (qoS Γ.σ v).1 x:=by
 unfold qoS
 split
 ·simp only[Rep] at h
  obtain⟨vs,rfl,h⟩:=h
  obtain⟨Γ1,a1,a2,a3,a4,a5⟩:=qjp hr h
  exact⟨Γ1,a1,a2,a3,a4,qdW a5⟩
 ·exact qjo hr h
theorem qim : ∀ {vs:List V} {Γ : Ctx} {xs:List Value},Real fid Γ -> Reps fid Γ vs xs -> ∃ Γ':Ctx,Γ'.σ = (qh1 Γ.σ vs).2 /\ Γ'.w = Γ.w/\Real fid Γ'/\Step Γ Γ'/\Reps fid Γ' (qh1 Γ.σ vs).1 xs
 |[],Γ,xs,hr,h=>⟨Γ,rfl,rfl,hr,.refl _,by simpa only [qh1,Reps] using h⟩
 |v::vs,Γ,xs,hr,h=>by
  simp only[Reps] at h
  obtain⟨y,ys,rfl,h1,h2⟩:=h
  obtain⟨Γ1,a1,a2,a3,a4,a5⟩:=qoG hr h1
  obtain⟨Γ2,b1,b2,b3,b4,b5⟩:=qim (vs:=vs) a3 (Reps.ext a4.ext _ _ h2)
  rw[a1] at b1 b5
  exact⟨Γ2,b1,b2.trans a2,b3,a4.trans b4,_,_,rfl,Rep.ext b4.ext _ _ a5,b5⟩
end
section
theorem qt0 {fid:Fid} {Γ : Ctx} (hr:Real fid Γ) {t l b:Nat} {cs cs':List V} {w':World} {arr arr':Array Value} {e:TypeId} (ho : Γ.σ[l]?=some (.vecT t cs)) (hm : Γ.μ l=some b) (hl:cs.length<=cs'.length)
  (hw:WOnly b Γ.w w') (ha : Γ.w.heap[b]?=some (.cells arr e (0,0))) (ha':w'.heap[b]?=some (.cells arr' e (0,0))) (hs:arr'.size=arr.size)
  (hn:Ext Γ ⟨Γ.σ.set l (.vecT t cs'),Γ.μ,Γ.F,w'⟩->RepOb fid ⟨Γ.σ.set l (.vecT t cs'),Γ.μ,Γ.F,w'⟩ b (.vecT t cs')) :
  Real fid ⟨Γ.σ.set l (.vecT t cs'),Γ.μ,Γ.F,w'⟩/\Step Γ ⟨Γ.σ.set l (.vecT t cs'),Γ.μ,Γ.F,w'⟩:=by
 have hF : Γ.F b=0:=by have:=hr.obs l _ b ho hm; simp only[RepOb] at this; exact this.1
 have hlt:l < Γ.σ.length:=(Wb.1 ho).1
 have hext:Ext Γ ⟨Γ.σ.set l (.vecT t cs'),Γ.μ,Γ.F,w'⟩:=by
  refine⟨YE hw.size.symm,hw.os,hw.tape,hw.output,fun _=>Wg _,fun k i v hi hv=>?_,fun k arr e hk ha=>⟨arr,?_,rfl⟩,by simp,fun j o hj hjt=>⟨⟨o,?_,hjt⟩,fun _ h=>h⟩,fun j m hj=>⟨m,?_,Wg _,fun h=>h,fun _ _ h=>h⟩,fun j o hj hjt=>?_⟩
  ·have:k≠b:=fun e=>by subst e; omega
   rw[cell?_of_block (hw.other k this)]; exact hv
  ·have:k≠b:=fun e=>by subst e; omega
   rw[hw.other k this]; exact ha
  ·have e:l≠j:=fun e=>by subst e; rw[ho] at hj; cases hj; cases hjt
   rw[Wj e]; exact hj
  ·grind
  ·by_cases e:l=j
   ·subst e
    rw[ho] at hj; cases hj
    refine⟨.vecT t cs',by simp[hlt],rfl,fun c hc=>?_⟩
    simp only[Ob.rows,Wd] at hc; subst hc
    refine⟨cs,rfl,hl,fun _ k hk=>⟨hk,rfl,fun a u h=>?_⟩⟩
    rw[hm] at hk; cases hk
    rw[ha] at h; cases h
    exact⟨arr',ha',hs⟩
   ·refine⟨o,by rw[Wj e]; exact hj,hjt,fun c hc=>⟨c,hc,Wg _,fun _ k hk=>⟨hk,rfl,fun a u h=>⟨a,?_,rfl⟩⟩⟩⟩
    have:k≠b:=fun e'=>by subst e'; exact e (hr.inj _ _ _ hm hk)
    rw[hw.other k this]; exact h
 refine⟨⟨fun j o k hj hk=>?_,fun j k hk=>?_,hr.inj,fun k hk=>?_,Glb.ext hext hr.glb⟩,hext,⟨fun k hk hno=>⟨hw.other k fun e=>by subst e; exact hno l hm,rfl⟩,fun j k hj _=>⟨j,hj⟩⟩,fun _ _ h=>h⟩
 ·by_cases e:l=j
  ·grind
  ·rw[Wj e] at hj
   have hb:k≠b:=fun e'=>by subst e'; exact e (hr.inj _ _ _ hm hk)
   exact RepOb.ext hext (hw.other k hb) rfl o (hr.obs j o k hj hk)
 ·have:=hr.dom j k hk
  exact⟨by simpa using this.1,by rw[hw.size]; exact this.2⟩
 ·obtain⟨arr,e,fz,h1,h2⟩:=hr.imm k hk
  have:k≠b:=fun e=>by subst e; simp only at hk; omega
  exact⟨arr,e,fz,by rw[hw.other k this]; exact h1,h2⟩
theorem qrK {fid:Fid} {Γ : Ctx} (hr:Real fid Γ) {t l:Nat} {cs cs':List V} (ho : Γ.σ[l]?=some (.vecT t cs)) (hsome:(Γ.μ l).isSome=true) (hl:cs.length<cs'.length) (arr:Array Value) (e:TypeId)
  (hn:Ext Γ ⟨Γ.σ.set l (.vecT t cs'),bind Γ.μ l Γ.w.heap.size,grow Γ.F Γ.w.heap.size 0,Γ.w.alloc (.cells arr e)⟩->RepOb fid ⟨Γ.σ.set l (.vecT t cs'),bind Γ.μ l Γ.w.heap.size,grow Γ.F Γ.w.heap.size 0,Γ.w.alloc (.cells arr e)⟩ Γ.w.heap.size (.vecT t cs')) :
  Real fid ⟨Γ.σ.set l (.vecT t cs'),bind Γ.μ l Γ.w.heap.size,grow Γ.F Γ.w.heap.size 0,Γ.w.alloc (.cells arr e)⟩ /\
  Step Γ ⟨Γ.σ.set l (.vecT t cs'),bind Γ.μ l Γ.w.heap.size,grow Γ.F Γ.w.heap.size 0,Γ.w.alloc (.cells arr e)⟩:=by
 have hlt:=(Wb.1 ho).1
 have hext:Ext Γ ⟨Γ.σ.set l (.vecT t cs'),bind Γ.μ l Γ.w.heap.size,grow Γ.F Γ.w.heap.size 0,Γ.w.alloc (.cells arr e)⟩:=by
  have hal : ∀ b,b < Γ.w.heap.size->(Γ.w.alloc (.cells arr e)).heap[b]? = Γ.w.heap[b]?:=fun b hb=>qaw _ _ hb
  refine⟨by simp,rfl,rfl,rfl,fun b=>?_,fun b i v hi hv=>?_,fun b a u hb ha=>⟨a,?_,rfl⟩,by simp,fun j o hj hjt=>?_,fun j m hj=>?_,fun j o hj hjt=>?_⟩
  ·simp only[grow]; split
   ·rename_i e; subst e; rw[hr.F_size]; exact Wg _
   ·exact Wg _
  ·rw[cell?_of_block (hal b (hr.F_lt (by omega)))]; exact hv
  ·rw[hal b (hr.F_lt hb)]; exact ha
  ·have e:l≠j:=fun e=>by subst e; rw[ho] at hj; cases hj; cases hjt
   exact⟨⟨o,by rw[Wj e]; exact hj,hjt⟩,fun b hb=>by simp only[bind]; rw[if_neg (Yb e)]; exact hb⟩
  ·have e:l≠j:=fun e=>by subst e; rw[ho] at hj; cases hj
   exact⟨m,by rw[Wj e]; exact hj,Wg _,fun hs=>by simp only[bind]; rw[if_neg (Yb e)]; exact hs,fun _ b hb=>by simp only[bind]; rw[if_neg (Yb e)]; exact hb⟩
  ·by_cases e:l=j
   ·subst e
    rw[ho] at hj; cases hj
    refine⟨.vecT t cs',by simp[hlt],rfl,fun c hc=>?_⟩
    simp only[Ob.rows,Wd] at hc; subst hc
    exact⟨cs,rfl,YB hl,fun h=>by omega⟩
   ·refine⟨o,by rw[Wj e]; exact hj,hjt,fun c hc=>⟨c,hc,Wg _,fun _ k hk=>?_⟩⟩
    have hk':=(hr.dom j k hk).2
    exact⟨by simp only[bind]; rw[if_neg (Yb e)]; exact hk,by simp only[grow]; rw[if_neg (by omega)],fun a t h=>⟨a,(hal k hk').trans h,rfl⟩⟩
 refine⟨⟨fun j ob' b h1 h2=>?_,fun j b h=>?_,fun j j' b h h'=>?_,fun b hb=>?_,Glb.ext hext hr.glb⟩,hext,⟨fun b hb hn=>⟨qaw _ _ hb,?_⟩,fun j b h hb=>?_⟩,fun j _ h=>by simp only[bind]; rw[if_neg (fun e=>by subst e; rw[h] at hsome; cases hsome)]; exact h⟩
 ·simp only[bind] at h2
  split at h2
  ·grind
  ·rename_i e'
   have hd:=hr.dom j b h2
   simp only at h1
   rw[Wj (Yb e')] at h1
   exact RepOb.ext hext (qaw _ _ hd.2) (by simp only[grow]; rw[if_neg (by omega)]) ob' (hr.obs j ob' b h1 h2)
 ·simp only[bind] at h
  split at h
  ·rename_i e'; subst e'; cases h; simp[hlt]
  ·have:=hr.dom j b h
   exact⟨by simpa using this.1,by simp; omega⟩
 ·simp only[bind] at h h'
  split at h<;>split at h'
  ·rename_i e e'; exact e.trans e'.symm
  ·cases h; have:=(hr.dom j' _ h').2; omega
  ·cases h'; have:=(hr.dom j _ h).2; omega
  ·exact hr.inj j j' b h h'
 ·simp only[grow] at hb ⊢
  split at hb
  ·omega
  ·rename_i e'
   obtain⟨a,u,fz,h1,h2⟩:=hr.imm b hb
   exact⟨a,u,fz,by rw[qaw _ _ (qcp h1)]; exact h1,by simpa [e'] using h2⟩
 ·simp only[grow]; rw[if_neg (by omega)]
 ·grind [bind]
variable{P:Program}{ids:Ids}{fid:Fid}{N:Nat}
section
variable{Γ : Ctx}{fr:Fr}{ρ : Operand->Value}{o:Oper}{v:V}{σ':S}
theorem qi5 (hr:Real fid Γ) {t l b:Nat} {cs:List V} (ho : Γ.σ[l]?=some (.vecT t cs)) (hm : Γ.μ l=some b) :
  ∃ vs arr,Γ.w.heap[b]?=some (.cells arr (fid.ty t) (0,0))/\cs.length<=arr.size/\vs=arr.toList.take cs.length/\Reps fid Γ cs vs/\(∀ v∈vs,v.oneCell'=true) /\ Γ.F b=0 /\ ∀ j v,vs[j]?=some v -> Γ.w.cell? ⟨b,j,none⟩=some v:=by
 have:=hr.obs l _ b ho hm
 simp only[RepOb] at this
 obtain⟨h1,arr,h2,h3,h4,h5⟩:=this
 refine⟨_,arr,h2,h3,rfl,h4,h5,h1,fun j x hj=>?_⟩
 simp only[World.cell?,h2]
 simpa using qrx hj
section
variable{ts tx e ex:TypeId}{s x:Operand}{c:Call}{sz bytes:Nat}{z:Value}
theorem qlq (hr:Real fid Γ) (ho:o.op = .call c) (hcal:c.callee = .builtin .append) (hargs:c.args.toList=[s,x]) (hats:c.argTypes.toList=[ts,tx])
  (hts:P.underlying ts=some (.slice e)) (htx:(∃ ex,P.underlying tx=some (.slice ex))\/P.underlying tx=some .string) (hsz:qaH P e=some sz) (hby:qcP P e=some bytes) (hz:qcj P e=some z) (hzn:z.cells.size=sz) {t:Nat} (hty:fid.ty t=e)
  {a b u:V} (ha:Rep fid Γ a (ρ s)) (hb:Rep fid Γ b (ρ x)) (h:appendT Γ.σ t sz bytes a b=some (u,σ')):Comes P fid Γ ρ o u σ':=by
 unfold appendT at h
 split at h
 ·cases h
 ·rename_i xs m hsrc
  split at h
  ·rename_i hcond
   obtain⟨hxl,hsz0,hone⟩:=hcond
   obtain⟨news,n1,n2,n3,n4⟩:=qjn (P:=P) hr hb hsrc hxl hone
   have hnl:news.length=m*sz:=by rw[Reps.length n1,hxl]
   split at h
   ·rename_i hm
    subst hm
    have hnews:news=[]:=by
     apply WL; rw[hnl]; simp
    have fin : ∀ base n cap,ρ s = .slice base n cap->n<=cap->(u=a /\ σ' = Γ.σ)->Comes P fid Γ ρ o u σ':=fun base n cap hs hle hu=>by
     obtain⟨rfl,rfl⟩:=hu
     refine .pure hr (x := ρ s) ?_ ha
     refine qbt ho hcal hargs hats ?_
     rw[hs]
     have:=qfb (P:=P) (o:=o) hts htx hsz (base:=base) (n3 Γ.w) (show n+0<=cap by omega) (n4 Γ.w fun _ _=>rfl) (w' := Γ.w) (by rw[hnews]; cases base<;>simp[storeCells])
     simpa using this
    split at h
    ·cases h
     exact fin _ _ _ (qaC ha).1 (Wg _) ⟨rfl,rfl⟩
    ·grind [Rep,RepD]
    ·grind [Rep]
    ·cases h
   ·rename_i hm
    have fresh : ∀ {olds:List Value} {cs:List V} {base:Option Addr} {n cap:Nat},ρ s = .slice base n cap->cap<n+m->qaA (n+m) bytes=true->Reps fid Γ cs olds->cs.length=n*sz ->
      (∀ w':World,(∀ b i,w'.cell? ⟨b,i,none⟩ = Γ.w.cell? ⟨b,i,none⟩)->(Builtin.firstCells sz n (.slice base n cap)).run P w' = .ok olds.toArray w') ->
      ∃ (newCap:Nat) (rest:Array Value),n+m<=newCap/\(n+m)*sz+rest.size=newCap*sz/\(cs++xs).length=(n+m)*sz/\Reps fid Γ (cs++xs) (olds++news) /\
       (execOp ρ o).run P Γ.w = .ok (.value (.slice (some ⟨Γ.w.heap.size,0,none⟩) (n+m) newCap)) (Γ.w.drew.alloc (.cells ((olds++news).toArray++rest) e)):=by
     intro olds cs base n cap hs hlt hroom hd hcl hold
     obtain⟨newCap,rest,r1,r2,r3⟩:=qh6 (P:=P) (o:=o) hts htx hsz hby hz n3 hlt hroom hold n4
     refine⟨newCap,rest,r1,?_,?_,Reps_append.2 ⟨_,_,rfl,hd,n1⟩,qbt ho hcal hargs hats (by rw[hs]; exact r3)⟩
     ·rw[r2,hzn,<- Nat.add_mul]; congr 1; omega
     ·rw[Wt,hcl,hxl,WW]
    obtain⟨d1,d2⟩:=qf7 hr
    have obok : ∀ {Γ':Ctx} {olds:List Value} {cs:List V} {rest:Array Value},Ext ⟨Γ.σ,Γ.μ,Γ.F,Γ.w.drew⟩ Γ' -> Γ'.w = Γ.w.drew.alloc (.cells ((olds++news).toArray++rest) e) -> Γ'.F Γ.w.heap.size=0 ->
      Reps fid Γ (cs++xs) (olds++news)->(∀ v∈olds,v.oneCell'=true)->RepOb fid Γ' Γ.w.heap.size (.vecT t (cs++xs)):=by
     intro Γ' olds cs rest hx hw hF g1 g2
     have hlen:=Reps.length g1
     have htk:((olds++news).toArray++rest).toList.take (cs++xs).length=olds++news:=by
      rw[<- hlen,Array.toList_append]; exact Ym rfl
     simp only[RepOb]
     refine⟨hF,_,by rw[hw,hty]; exact qav Γ.w.drew _,by rw[<- hlen]; simp,?_,?_⟩
     ·rw[htk]; exact Reps.ext hx _ _ (Reps.ext d2.ext _ _ g1)
     ·grind
    have grown : ∀ {Γ':Ctx} {olds:List Value} {cs:List V} {rest:Array Value} {n newCap l:Nat},Γ'.w = Γ.w.drew.alloc (.cells ((olds++news).toArray++rest) e) -> Γ'.F Γ.w.heap.size=0 ->
      Γ'.σ[l]?=some (.vecT t (cs++xs)) -> Γ'.μ l=some Γ.w.heap.size->n+m<=newCap->(n+m)*sz+rest.size=newCap*sz->(cs++xs).length=(n+m)*sz->Reps fid Γ (cs++xs) (olds++news) ->
      Rep fid Γ' (.own l (n+m) sz) (.slice (some ⟨Γ.w.heap.size,0,none⟩) (n+m) newCap):=by
     intro Γ' olds cs rest n newCap l hw hF hσ hμ g1 g2 g3 g5
     have hlen:=Reps.length g5
     simp only[Rep]
     refine⟨_,_,rfl,g1,hsz0,⟨_,hσ,rfl⟩,fun ob cs' k1 k2=>?_⟩
     rw[hσ] at k1; cases k1
     simp only[Ob.rows,Wd] at k2; subst k2
     refine⟨by rw[g3]; exact Wg _,fun _=>⟨Γ.w.heap.size,_,e,hμ,by simp[hF,Ob.fz],by rw[hw]; exact qav Γ.w.drew _,?_⟩⟩
     simp only[hF,Ob.fz,Yg,Yw,hlen,g3]
     omega
    split at h
    ·split at h
     ·rename_i hroom
      cases h
      obtain⟨newCap,rest,f1,f2,f3,f5,f7⟩:=fresh (olds:=[]) (cs:=[]) (qaC ha).1 (show 0<0+m by omega) (by simpa using hroom) (by simp[Reps]) (by simp)
       (fun w' _=>by simp[Builtin.firstCells])
      obtain⟨k1,k2⟩:=qbW d1 (.vecT t xs) (.cells (([]++news).toArray++rest) e) 0
       (fun Γ' e' hx=>by
        have:=obok (cs:=[]) (olds:=[]) (rest:=rest) hx (by subst e'; rfl) (by subst e'; simp[grow]) f5 (by simp)
        simpa using this) (fun h=>absurd h (WP _))
      refine⟨_,_,rfl,k1,d2.trans k2,?_,.inl f7⟩
      have:=grown (cs:=[]) (olds:=[]) (rest:=rest) (n:=0) (newCap:=newCap) (l := Γ.σ.length) (Γ':=⟨Γ.σ ++ [.vecT t xs],bind Γ.μ Γ.σ.length Γ.w.drew.heap.size,grow Γ.F Γ.w.drew.heap.size 0,Γ.w.drew.alloc (.cells (([]++news).toArray++rest) e)⟩) rfl (by simp[grow]) (by simp) (by simp[bind]) f1 f2 f3 f5
      simpa using this
     ·cases h
    ·rename_i l n sz'
     split at h
     ·rename_i t' cs hcs
      split at h
      ·rename_i hcond
       obtain⟨hroom,hcl,rfl,htt⟩:=hcond; subst t'
       cases h
       have ha':=ha
       simp only[Rep] at ha'
       obtain⟨ad,cap,hs,h2,h0,h3,h4⟩:=ha'
       obtain⟨b',arr,e',q1,rfl,q2,q3⟩:=(h4 _ _ hcs rfl).2 hcl
       obtain⟨olds,arr',k1,k2,k3,k4,k5,k6,k7⟩:=qi5 hr hcs q1
       rw[q2] at k1; cases k1
       have hz0 : Γ.F b'-(Ob.vecT t cs).fz=0:=by rw[k6]; rfl
       rw[hz0] at hs q3
       rw[WF] at q3
       have hol:olds.length=n*sz':=by rw[Reps.length k4,hcl]
       have hpos:0<m*sz':=YD (by omega) hsz0
       by_cases hfit:n+m<=cap
       ·have hbd:(n+m)*sz'<=cap*sz':=WB _ hfit
        rw[WW] at hbd
        obtain⟨w',s1,s2,arr',s3,s4⟩:=qbe (P:=P) news 0 Γ.w b' (n*sz') arr _ q2 n2 (by rw[hnl]; omega)
        have hlen':arr'.size=arr.size:=by
         have:=congrArg List.length s4
         simp[hnl] at this
         omega
        have hnl2:(cs++xs).length=n*sz'+m*sz':=by rw[Wt,hcl,hxl]
        have htk:arr'.toList.take (cs++xs).length=olds++news:=by grind
        obtain⟨u1,u2⟩:=qt0 hr hcs q1 (cs':=cs++xs) (by simp) s2 q2 s3 hlen' (fun hx=>by
         simp only[RepOb]
         refine⟨k6,arr',s3,by rw[hnl2,hlen']; omega,?_,?_⟩
         ·rw[htk]; exact Reps.ext hx _ _ (Reps_append.2 ⟨_,_,rfl,k4,n1⟩)
         ·rw[htk]
          intro v hv
          rcases We.1 hv with hv|hv
          ·exact k5 v hv
          ·exact n2 v hv)
        refine⟨_,.slice (some ⟨b',0,none⟩) (n+m) cap,rfl,u1,u2,?_,.inl (qbt ho hcal hargs hats ?_)⟩
        ·simp only[Rep]
         refine⟨_,_,rfl,hfit,hsz0,⟨.vecT t (cs++xs),by simp[(Wb.1 hcs).1],rfl⟩,fun ob cs' j1 j2=>?_⟩
         have:ob = .vecT t (cs++xs):=by simpa [(Wb.1 hcs).1] using j1.symm
         subst this
         simp only[Ob.rows,Wd] at j2; subst j2
         exact⟨by rw[hnl2,WW]; exact Wg _,fun _=>⟨b',arr',_,q1,by simp[Ob.fz,k6],s3,by rw[hlen']; simpa [Ob.fz,k6] using q3⟩⟩
        ·simp_all [qfb,qa9]
       ·obtain⟨newCap,rest,f1,f2,f3,f5,f7⟩:=fresh hs (show cap<n+m by omega) hroom k4 hcl (fun w' hw=>by
         have:=qa0 (P:=P) (w:=w') (b:=b') (o:=0) (vs:=olds) (fun j v hj=>by rw[hw,WF]; exact k7 j v hj)
         rw[hol] at this
         simp only[Builtin.firstCells,this])
        obtain⟨j1,j2⟩:=qrK d1 hcs (by simp[q1]) (cs':=cs++xs) (by rw[Wt,hxl]; omega) ((olds++news).toArray++rest) e
         (fun hx=>obok hx rfl (by simp[grow]) f5 k5)
        exact⟨_,_,rfl,j1,d2.trans j2,grown rfl (by simp[grow]) (by simp[(Wb.1 hcs).1]) (by simp[bind]) f1 f2 f3 f5,.inl f7⟩
      ·cases h
     ·cases h
    ·cases h
  ·cases h
end
theorem qeS{F:Nat->Nat} : ∀ {vs:List V} {xs:List Value} {bs:List UInt8},qd9 vs=some bs->Reps fid Γ vs xs->xs=bs.map fun b=>Value.int .u8 b.toNat
 |[],xs,bs,h,hr=>by
  cases h
  simp only[Reps] at hr
  simp[hr]
 |v::vs,xs,bs,h,hr=>by
  unfold qd9 at h
  split at h
  ·rename_i h0; cases h0
  ·rename_i n r h0
   cases h0
   split at h
   ·rename_i hn
    split at h
    ·rename_i cs hcs
     cases h
     simp only[Reps] at hr
     obtain⟨y,ys,rfl,h1,h2⟩:=hr
     rw[qeS (F:=F) hcs h2,(qaC h1).1]
     simp only[Wi]
     congr 2
     have:(UInt8.ofNat n.toNat).toNat=n.toNat:=by simp_all
     rw[this]; omega
    ·cases h
   ·cases h
  ·cases h
theorem qfl : ∀ {vs:List V} {bs:List UInt8},qd9 vs=some bs->bs.length=vs.length
 |[],bs,h=>by cases h; rfl
 |v::vs,bs,h=>by
  unfold qd9 at h
  split at h
  ·rename_i h0; cases h0
  ·rename_i n r h0
   cases h0
   split at h
   ·split at h
    ·rename_i cs hcs
     cases h
     simp[qfl hcs]
    ·cases h
   ·cases h
  ·cases h
theorem qov(l:List UInt8) : ∀ r:ByteArray,(l.map fun b=>(b.toNat:Int)).foldl (fun r n=>r.push (UInt8.ofNat n.toNat)) r=⟨r.data++l.toArray⟩:=by
 induction l with
 |nil=>intro r; simp
 |cons b l ih=>
  intro r
  simp only[Wi,List.foldl_cons,ih]
  apply ByteArray.ext
  simp[ByteArray.push]
theorem qwi (hr:Real fid Γ) {s t e:TypeId} {x:Operand} {p u:V} (ho:o.op = .convert s t x) (hp:Rep fid Γ p (ρ x)) (hs:P.underlying s=some (.slice e)) (he:P.underlying e=some (.int .u8)) (ht:P.underlying t=some .string)
  (h:qpL Γ.σ p=some u):Comes P fid Γ ρ o u Γ.σ:=by
 unfold qpL at h
 split at h
 ·rename_i xs m hsrc
  split at h
  ·rename_i hcond
   obtain⟨hl,hns⟩:=hcond
   split at h
   ·rename_i bs hbs
    cases h
    rcases srcO_row hr hp hsrc with ⟨a,hx,rfl,rfl⟩|⟨s',rfl,_,_,_⟩|⟨b,off,cap,vs,hx,hv,hc⟩
    ·cases hbs
     refine .pure hr (x := .string ⟨#[]⟩) ?_ (by simp[Rep,RepD,qbo])
     simp only[execOp,ho,hx]
     rw[Sem.run_bind,run_convert_bytes_string Γ.w s t e a 0 0 hs he ht]
     cases a with
     |none=>simp[Conv.bytesToString]; rfl
     |some a=>
      rw[run_bytesToString Γ.w a 0 0 [] (by simp[loadCells,loadCellsFrom])]
      simp; rfl
    ·simp[V.isStr] at hns
    ·have hvs:=qeS (F := Γ.F) hbs hv
     have hlen:vs.length=m:=by rw[Reps.length hv,hl]
     refine .pure hr (x := .string ⟨bs.toArray⟩) ?_ (by simp[Rep,RepD,qbo])
     simp only[execOp,ho,hx]
     rw[Sem.run_bind,run_convert_bytes_string Γ.w s t e _ m cap hs he ht]
     have hload:=qa0 (P:=P) (w := Γ.w) (b:=b) (o:=off) (vs:=vs) hc
     rw[hlen] at hload
     rw[run_bytesToString Γ.w ⟨b,off,none⟩ m cap (bs.map fun b=>(b.toNat:Int)) (by rw[hload,hvs]; simp),qov]
     simp
   ·cases h
  ·cases h
 ·cases h
theorem qrL (hr:Real fid Γ) {t e:TypeId} {len n:Nat} {x:Operand} {p u:V} {lo hi:Option V} {lx hx:Option Operand} (ho:o.op = .slice t x lx hx none) (hp:Rep fid Γ p (ρ x))
  (ht:P.underlying t=some (.array len e)) (hn:qaH P e=some n) (h1:qiy fid Γ ρ lo lx) (h2:qiy fid Γ ρ hi hx)
  (h:qh2 len n lo hi p=some u):Comes P fid Γ ρ o u Γ.σ:=by
 unfold qh2 at h
 split at h
 ·rename_i l off
  split at h
  ·rename_i hh eh
   split at h
   ·rename_i k el
    cases h
    simp only[Rep] at hp
    obtain⟨b,hm,hx',hfix⟩:=hp
    have hb:=qbO (P:=P) (isSl:=false) h1 h2 (Wg len) eh el Γ.w
    have a1:k<=hh:=by rcases qaP h1 el with ⟨_,rfl⟩|⟨_,_,i',_,_,i3,i4,rfl⟩<;>omega
    have a2:hh<=len:=by rcases qaP h2 eh with ⟨_,rfl⟩|⟨_,_,i',_,_,i3,i4,rfl⟩<;>omega
    refine .pure hr (x := .slice (some ⟨b,if len=k then off else off+k*n,none⟩) (hh-k) (len-k)) ?_ ?_
    ·simp only[execOp,ho,Instr.sliceAt,Sem.run_bind,qam ht,Result.andThen_ok,Instr.sureAddr,hx',Yd,hb,qaG hn,Sem.run_pure]
     by_cases hc:len=k
     ·simp[hc]
     ·simp[hc,qa9]
    ·grind [Rep]
   ·cases h
  ·cases h
 ·cases h
theorem qwj(hr:Real fid Γ){t:TypeId}{k:Nat}{x:Operand}{u:V}(ho:o.op = .box t x)(hk:fid.ty k=t)(hu:Rep fid Γ u (ρ x)):Comes P fid Γ ρ o (.ptr Γ.σ.length 0) (Γ.σ ++ [.cellsT k u.cells]):=by
 obtain⟨h1,h2⟩:=qbW hr (.cellsT k u.cells) (.cells (ρ x).cells t) 0
  (fun Γ' e hx=>by
   subst e
   simp only[RepOb,grow,if_pos]
   exact⟨trivial,(ρ x).cells,by rw[hk]; exact qav _ _,Reps.ext hx _ _ (qdX hu)⟩) (fun h=>absurd h (WP _))
 refine⟨_,.pointer (some ⟨Γ.w.heap.size,0,none⟩),rfl,h1,h2,?_,.inl ?_⟩
 ·simp only[Rep]
  exact⟨Γ.w.heap.size,by simp[bind],rfl,⟨.cellsT k u.cells,by simp,rfl⟩⟩
 ·simp only[execOp,ho,Instr.box,newVar,newRow]
  simp
theorem qft{w:World}{b:Nat}{arr:Array Value}{e:TypeId}{fz:Nat × Nat}(h:w.heap[b]?=some (.cells arr e fz)):w.shape? b=some (e,arr.size):=by
 simp[World.shape?,h]
theorem qzA (hr:Real fid Γ) {s t e:TypeId} {x:Operand} {l off k:Nat} {cs:List V} (ho:o.op = .convert s t x) (hs:P.underlying s=some (.pointer e)) (ht:P.underlying t=some .unsafePointer) {n:Nat} (hn:qaH P e=some n) (hn0:n≠0)
  (hp:Rep fid Γ (.ptr l off) (ρ x)) (hσ : Γ.σ[l]?=some (.cellsT k cs)) (hlt:off<cs.length):Comes P fid Γ ρ o (.ptr l off) Γ.σ:=by
 have hp':=hp
 simp only[Rep] at hp'
 obtain⟨b,hm,hx,_⟩:=hp'
 obtain⟨_,arr,h2,h3⟩:=hr.obs l _ b hσ hm
 have hl:=Reps.length h3
 have hsh:=qft h2
 refine .pure hr (x := ρ x) ?_ hp
 simp only[execOp,ho,hx,Sem.run_bind,convert,qam hs,qam ht,Result.andThen_ok,Conv.unsafePointer,Conv.seenAt,viewAt,run_shape,hsh,Option.isSome_some,if_true,Sem.run_pure,cellsIn]
 have h1 : ¬ arr.size<=off:=by rw[Ww] at hl; omega
 simp[qaG hn,hn0,h1]
theorem qf9{u:TypeId}{k n:Nat} : ∀ {ts:List TypeId},(qlZ P ids u ts).contains (k,n)=true -> ∃ t,ids.ty t=some k/\n=P.cellsOf t/\liesAt P P.depth t (P.cellsOf t / P.cellsOf t) 0 u 1=true
 |[],h=>by simp[qlZ] at h
 |t::ts,h=>by
  simp only[qlZ] at h
  split at h
  ·rename_i m hm
   split at h
   ·rename_i hl
    simp only[List.contains_cons,Bool.or_eq_true,beq_iff_eq,Wx] at h
    rcases h with ⟨rfl,rfl⟩|h
    ·exact⟨t,hm,rfl,hl⟩
    ·exact qf9 h
   ·exact qf9 h
  ·exact qf9 h
theorem qwk (hid:Ties P ids fid) (hr:Real fid Γ) {s t e:TypeId} {x:Operand} {l k:Nat} {cs:List V} (ho:o.op = .convert s t x) (hs:P.underlying s=some .unsafePointer) (ht:P.underlying t=some (.pointer e)) {n:Nat} (hn:qaH P e=some n)
  (hp:Rep fid Γ (.ptr l 0) (ρ x)) (hσ : Γ.σ[l]?=some (.cellsT k cs)) (hin:(qlZ P ids e (List.range P.types.size)).contains (k,cs.length)=true):Comes P fid Γ ρ o (.ptr l 0) Γ.σ:=by
 have hp':=hp
 simp only[Rep] at hp'
 obtain⟨b,hm,hx,_⟩:=hp'
 obtain⟨_,arr,h2,h3⟩:=hr.obs l _ b hσ hm
 have hl:=Reps.length h3
 rw[Ww] at hl
 have hsh:=qft h2
 obtain⟨T,q1,q2,q3⟩:=qf9 hin
 rw[hid.ty T k q1,hl,q2] at hsh
 refine .pure hr (x := ρ x) ?_ hp
 simp only[execOp,ho,hx,Sem.run_bind,convert,qam hs,qam ht,Result.andThen_ok,Conv.unsafePointer,Conv.seenAt,viewAt,run_shape,hsh,Option.isSome_some,if_true,Sem.run_pure,qaG hn]
 by_cases hz:n=0
 ·simp[hz,variablesAt,hsh,q3]
 ·simp[hz,variablesAt,hsh,q3]
theorem qwl (hr:Real fid Γ) {op:BinOp} {t t' e:TypeId} {x y:Operand} {l off:Nat} (neg:Bool) (hop:op=if neg then .neq else .eql) (ho:o.op = .binOp op t x y t') (ht:P.underlying t=some (.pointer e)) {n:Nat} (hn:qaH P e=some n) (hn0:n≠0)
  (hx:Rep fid Γ (.ptr l off) (ρ x)) (hy:Rep fid Γ (.ptr l off) (ρ y)):Comes P fid Γ ρ o (.bool (!neg)) Γ.σ:=by
 simp only[Rep] at hx hy
 obtain⟨b,hm,hx,_⟩:=hx
 obtain⟨b',hm',hy,_⟩:=hy
 rw[hm] at hm'; cases hm'
 refine .pure hr (x := .bool (!neg)) ?_ (by simp[Rep,RepD,qbo])
 have heq:(Op.equal t (.pointer (some ⟨b,off,none⟩)) (.pointer (some ⟨b,off,none⟩))).run P Γ.w = .ok true Γ.w:=by
  rw[show Op.equal t (.pointer (some ⟨b,off,none⟩)) (.pointer (some ⟨b,off,none⟩))=Op.equalIn (9999+1) t (.pointer (some ⟨b,off,none⟩)) (.pointer (some ⟨b,off,none⟩)) from rfl,Op.equalIn]
  simp only[Sem.run_bind,qam ht,Result.andThen_ok,qaG hn]
  simp[hn0,sameAddr]
 cases neg with
 |false=>
  simp only[Wz,if_false] at hop
  subst hop
  simp only[execOp,ho,hx,hy,Sem.run_bind,eqGuard,binOp]
  simp[heq]
 |true=>
  simp only[if_true] at hop
  subst hop
  simp only[execOp,ho,hx,hy,Sem.run_bind,eqGuard,binOp]
  simp[heq]
section
variable{c:Call}{x y:Operand}{tx:TypeId}
theorem qwm (hr:Real fid Γ) (ho:o.op = .call c) (hcal:c.callee = .builtin .unsafeSliceData) (hargs:c.args.toList=[x]) {u v:V} (hu:Rep fid Γ u (ρ x))
  (h:(u = .dat (.lit (.slice none 0 0))/\v = .dat (.lit (.pointer none))) \/ ∃ l n,u = .own l n 1/\0<n/\v = .eptr l n 0):Comes P fid Γ ρ o v Γ.σ:=by
 have ha:c.args = #[x]:=by apply WG; simpa using hargs
 have call : ∀ r,(Builtin.unsafeSliceData_ c.argTypes o.type #[ρ x]).run P Γ.w = .ok r Γ.w->(execOp ρ o).run P Γ.w = .ok (.value r) Γ.w:=fun r hr'=>by
  simp only[execOp,ho,resolve,hcal,ha,invoke,builtin,Sem.run_bind,Sem.run_pure,Result.andThen_ok]
  simp[hr']
 rcases h with ⟨rfl,rfl⟩|⟨l,n,rfl,hn,rfl⟩
 ·exact .pure hr (call _ (by rw[(qaC hu).1]; exact Lib.run_unsafeSliceData_nil _ _ _ 0 0)) (by simp[Rep,RepD,qbo])
 ·simp only[Rep] at hu
  obtain⟨a,cap,hx,h2,_,h3,h4⟩:=hu
  refine .pure hr (call _ (by rw[hx]; exact Lib.run_unsafeSliceData_row _ _ _ a n cap (by omega))) ?_
  simp only[Rep]
  refine⟨a,rfl,h3,fun ob cs q1 q2=>?_⟩
  obtain⟨q3,q4⟩:=h4 ob cs q1 q2
  refine⟨by omega,fun hl=>?_⟩
  obtain⟨b,arr,e,k1,k2,k3,k4⟩:=q4 (by omega)
  exact⟨b,arr,e,k1,by rw[k2,W1],k3,by omega⟩
end
def unb(μ : Nat->Option Nat)(l:Nat):Nat->Option Nat:=fun j=>if j=l then none else μ j
theorem qt1 (hr:Real fid Γ) {t l b:Nat} {cs:List V} {w':World} (ho : Γ.σ[l]?=some (.vecT t cs)) (hm : Γ.μ l=some b) (hw:WOnly b Γ.w w') :
  Real fid ⟨Γ.σ.set l .dead,unb Γ.μ l,Γ.F,w'⟩/\Step Γ ⟨Γ.σ.set l .dead,unb Γ.μ l,Γ.F,w'⟩:=by
 have hF : Γ.F b=0:=by have:=hr.obs l _ b ho hm; simp only[RepOb] at this; exact this.1
 have hlt:l < Γ.σ.length:=(Wb.1 ho).1
 have hne : ∀ j,l≠j->unb Γ.μ l j = Γ.μ j:=fun j e=>by simp only[unb]; rw[if_neg (Yb e)]
 have hback : ∀ j k,unb Γ.μ l j=some k->j≠l /\ Γ.μ j=some k:=fun j k h=>by grind [unb]
 have hother : ∀ j k,j≠l -> Γ.μ j=some k->k≠b:=fun j k e hk e'=>by subst e'; exact e (hr.inj _ _ _ hk hm)
 have hext:Ext Γ ⟨Γ.σ.set l .dead,unb Γ.μ l,Γ.F,w'⟩:=by
  refine⟨YE hw.size.symm,hw.os,hw.tape,hw.output,fun _=>Wg _,fun k i v hi hv=>?_,fun k arr e hk ha=>⟨arr,?_,rfl⟩,by simp,fun j o hj hjt=>?_,fun j m hj=>?_,qeQ fun j o hj hjt=>?_⟩
  ·have:k≠b:=fun e=>by subst e; omega
   rw[cell?_of_block (hw.other k this)]; exact hv
  ·have:k≠b:=fun e=>by subst e; omega
   rw[hw.other k this]; exact ha
  ·have e:l≠j:=fun e=>by subst e; rw[ho] at hj; cases hj; cases hjt
   exact⟨⟨o,by rw[Wj e]; exact hj,hjt⟩,fun k hk=>(hne j e).trans hk⟩
  ·have e:l≠j:=fun e=>by subst e; rw[ho] at hj; cases hj
   exact⟨m,by rw[Wj e]; exact hj,Wg _,fun h=>show (unb Γ.μ l j).isSome=true from by rw[hne j e]; exact h,fun _ k hk=>(hne j e).trans hk⟩
  ·by_cases e:l=j
   ·subst e; exact .inr ⟨.dead,by simp[hlt],rfl,rfl⟩
   ·exact .inl ⟨by rw[Wj e]; exact hj,fun k hk=>⟨(hne j e).trans hk,rfl,fun a u h=>by
     rw[hw.other k (hother j k (Yb e) hk)]; exact h⟩⟩
 refine⟨⟨fun j o k hj hk=>?_,fun j k hk=>?_,fun j j' k hk hk'=>?_,fun k hk=>?_,Glb.ext hext hr.glb⟩,hext,⟨fun k hk hno=>⟨hw.other k fun e=>by subst e; exact hno l hm,rfl⟩,fun j k hj _=>⟨j,(hback j k hj).2⟩⟩,fun j hj hn=>?_⟩
 ·obtain⟨h1,h2⟩:=hback j k hk
  simp only at hj
  rw[Wj (Yb h1)] at hj
  exact RepOb.ext hext (hw.other k (hother j k h1 h2)) rfl o (hr.obs j o k hj h2)
 ·obtain⟨h1,h2⟩:=hback j k hk
  have:=hr.dom j k h2
  exact⟨by simpa using this.1,by rw[hw.size]; exact this.2⟩
 ·exact hr.inj j j' k (hback j k hk).2 (hback j' k hk').2
 ·obtain⟨arr,e,fz,h1,h2⟩:=hr.imm k hk
  have:k≠b:=fun e=>by subst e; simp only at hk; omega
  exact⟨arr,e,fz,by rw[hw.other k this]; exact h1,h2⟩
 ·simp only[unb]
  split
  ·rfl
  ·exact hn
theorem qmB(w:World)(b n:Nat):WOnly b w (w.freeze ⟨b,0,none⟩ n):=by
 unfold World.freeze
 split
 ·exact .refl b w
 ·exact⟨rfl,rfl,rfl,by simp,fun k hk=>by
   simp only[Array.getElem?_modify]
   rw[if_neg (by simpa using Yb hk)]⟩
section
variable{c:Call}{x y:Operand}{tx ty:TypeId}
theorem qwn (hr:Real fid Γ) (ho:o.op = .call c) (hcal:c.callee = .builtin .unsafeString) (hargs:c.args.toList=[x,y]) (hats:c.argTypes.toList=[tx,ty]) {e:TypeId} {t l:Nat} {cs:List V} {k:IntKind} {bs:List UInt8}
  (htx:P.underlying tx=some (.pointer e)) (hce:P.cellsOf e=1) (hty:fid.ty t=e) (hx:Rep fid Γ (.eptr l cs.length 0) (ρ x)) (hy:Rep fid Γ (.dat (.lit (.int k cs.length))) (ρ y)) (hk:k = .i64)
  (hσ : Γ.σ[l]?=some (.vecT t cs)) (h0:0<cs.length) (h40:cs.length<=2 ^ 40) (hbs:qd9 cs=some bs):Comes P fid Γ ρ o (.str ⟨bs.toArray⟩) (Γ.σ.set l .dead):=by
 subst hk
 have ha:c.args = #[x,y]:=by apply WG; simpa using hargs
 have hb:c.argTypes = #[tx,ty]:=by apply WG; simpa using hats
 simp only[Rep] at hx
 obtain⟨a,hx,_,h4⟩:=hx
 obtain⟨b,arr',e',q1,q2,q3,q4⟩:=(h4 _ _ hσ rfl).2 rfl
 obtain⟨vs,arr,k1,k2,k3,k4,k5,k6,k7⟩:=qi5 hr hσ q1
 have hz0 : Γ.F b-(Ob.vecT t cs).fz+0=0:=by rw[k6]; rfl
 rw[hz0] at q2
 subst q2
 have hvs:=qeS (F := Γ.F) hbs k4
 have hlen:=qfl hbs
 have hrun:=Lib.run_unsafeString_row (P:=P) Γ.w tx ty o.type e htx hce b arr.size (by rw[qft k1,hty]) bs (by intro h; rw[h] at hlen; simp at hlen; omega) (by omega) (by omega) (fun j z hj=>by
  rw[qa9,WF]
  exact k7 j _ (by rw[hvs,WZ,hj]; rfl))
 obtain⟨u1,u2⟩:=qt1 hr hσ q1 (qmB Γ.w b bs.length)
 refine⟨_,.string ⟨bs.toArray⟩,rfl,u1,u2,by simp[Rep,RepD,qbo],.inl ?_⟩
 simp only[execOp,ho,resolve,hcal,ha,hb,invoke,builtin,Sem.run_bind,Sem.run_pure,Result.andThen_ok]
 rw[hlen] at hrun
 simp[hx,(qaC hy).1,hrun]
 simp[hlen]
theorem qt2 (hr:Real fid Γ) (ho:o.op = .call c) (hcal:c.callee = .builtin .unsafeString) (hargs:c.args.toList=[x,y]) (hats:c.argTypes.toList=[tx,ty]) {k:IntKind}
  (hx:Rep fid Γ (.dat (.lit (.pointer none))) (ρ x)) (hy:Rep fid Γ (.dat (.lit (.int k 0))) (ρ y)) (hk:k = .i64):Comes P fid Γ ρ o (.str ⟨#[]⟩) Γ.σ:=by
 subst hk
 have ha:c.args = #[x,y]:=by apply WG; simpa using hargs
 have hb:c.argTypes = #[tx,ty]:=by apply WG; simpa using hats
 have hrun:=Lib.run_unsafeString_none (P:=P) Γ.w tx ty o.type none
 refine .pure hr (x := .string ⟨#[]⟩) ?_ (by simp[Rep,RepD,qbo])
 simp only[execOp,ho,resolve,hcal,ha,hb,invoke,builtin,Sem.run_bind,Sem.run_pure,Result.andThen_ok]
 simp[(qaC hx).1,(qaC hy).1,hrun]
 try rfl
theorem qpX(fn:Func)(h:fn.name = "internal/abi.NoEscape")(ho:fn.origin = ""):Extern.findNext fn=none/\Extern.find fn=some Extern.AbiNoEscape.same:=by
 have g1:Extern.allNextRows.lookup "internal/abi.NoEscape" = none:=by kernel_rfl
 have g2:Extern.allNextRows.lookup "" = none:=by kernel_rfl
 have g3:Extern.allGenericRows.lookup "internal/abi.NoEscape" = none:=by kernel_rfl
 have g4:Extern.allTypedRows.lookup "internal/abi.NoEscape" = none:=by kernel_rfl
 have g5:Extern.allRows.lookup "internal/abi.NoEscape" = some Extern.AbiNoEscape.same:=by kernel_rfl
 constructor
 ·simp only[Extern.findNext,h,ho,g1,g2]; rfl
 ·simp only[Extern.find,h,ho,g3,g4,g5]; rfl
theorem qrM(fn:Func)(h:fn.name = "internal/bytealg.IndexByteString")(ho:fn.origin = ""):Extern.findNext fn=none/\Extern.find fn=some Extern.BytealgIndexByte.indexByte:=by
 have g1:Extern.allNextRows.lookup "internal/bytealg.IndexByteString" = none:=by kernel_rfl
 have g2:Extern.allNextRows.lookup "" = none:=by kernel_rfl
 have g3:Extern.allGenericRows.lookup "internal/bytealg.IndexByteString" = none:=by kernel_rfl
 have g4:Extern.allTypedRows.lookup "internal/bytealg.IndexByteString" = none:=by kernel_rfl
 have g5:Extern.allRows.lookup "internal/bytealg.IndexByteString" = some Extern.BytealgIndexByte.indexByte:=by kernel_rfl
 constructor
 ·simp only[Extern.findNext,h,ho,g1,g2]; rfl
 ·simp only[Extern.find,h,ho,g3,g4,g5]; rfl
theorem qg1 {f:FuncId} {b:Bool} (h:qgQ P f=some b) : ∃ fn,P.funcs[f]?=some fn/\fn.body.isNone=true/\(fn.name == "runtime.NumGoroutine")=false/\Extern.findNext fn=none /\
  Extern.find fn=some (if b then Extern.BytealgIndexByte.indexByte else Extern.AbiNoEscape.same):=by
 unfold qgQ at h
 split at h
 ·grind [qgQ,qpX,qrM]
 ·cases h
theorem qzl{xs:List Operand}{y:X}(h:cXs ids N xs=some [y]) : ∃ x,xs=[x]/\cX ids N x=some y:=by
 cases xs with
 |nil=>simp[cXs] at h
 |cons x r=>
  simp only[cXs] at h
  split at h
  ·rename_i u us h1 h2
   simp only[Wd,Yh] at h
   obtain⟨rfl,rfl⟩:=h
   cases r with
   |nil=>exact⟨x,rfl,h1⟩
   |cons z r=>
    simp only[cXs] at h2
    split at h2<;>cases h2
  ·cases h
theorem qzB{xs:List Operand}{y z:X}(h:cXs ids N xs=some [y,z]) : ∃ p q,xs=[p,q]/\cX ids N p=some y/\cX ids N q=some z:=by
 cases xs with
 |nil=>simp[cXs] at h
 |cons x r=>
  simp only[cXs] at h
  split at h
  ·grind [cXs,cX,qzl]
  ·cases h
theorem qwo(hr:Real fid Γ){f:FuncId}(ho:o.op = .call c)(hcal:c.callee = .value (.func f))(he:qgQ P f=some false)(hargs:c.args.toList=[x]){u:V}(hf : ρ (.func f) = .func (.func f) #[] #[])(hu:Rep fid Γ u (ρ x)):Comes P fid Γ ρ o u Γ.σ:=by
 have ha:c.args = #[x]:=by apply WG; simpa using hargs
 obtain⟨fn,h1,h2,h3,h4,h5⟩:=qg1 he
 simp only[Wz,if_false] at h5
 refine .pure hr (x := ρ x) ?_ hu
 simp only[execOp,ho,resolve,hcal,ha,hf,Deferred.ofValue,Sem.run_bind,Sem.run_pure,Result.andThen_ok,invoke]
 have:=run_callFunc_extern h1 h3 h2 h4 h5 #[ρ x] Γ.w
 have hs:(Extern.AbiNoEscape.same #[ρ x]).run P Γ.w = .ok (ρ x) Γ.w:=rfl
 simp[this,hs]
theorem qyM (hr:Real fid Γ) {f:FuncId} (ho:o.op = .call c) (hcal:c.callee = .value (.func f)) (he:qgQ P f=some true) (hargs:c.args.toList=[x,y]) (hf : ρ (.func f) = .func (.func f) #[] #[]) {s:ByteArray} {n:Int} (hx:Rep fid Γ (.str s) (ρ x)) (hy:Rep fid Γ (.dat (.lit (.int .u8 n))) (ρ y)) :
  Comes P fid Γ ρ o (.int (firstIdx s n.toNat.toUInt8)) Γ.σ:=by
 have ha:c.args = #[x,y]:=by apply WG; simpa using hargs
 obtain⟨fn,h1,h2,h3,h4,h5⟩:=qg1 he
 simp only[if_true] at h5
 refine .pure hr (x := .int .i64 (firstIdx s n.toNat.toUInt8)) ?_ (by simp[Rep,RepD,qbo])
 simp only[execOp,ho,resolve,hcal,ha,hf,Deferred.ofValue,Sem.run_bind,Sem.run_pure,Result.andThen_ok,invoke]
 have:=run_callFunc_extern h1 h3 h2 h4 h5 #[ρ x,ρ y] Γ.w
 rw[(qaC hx).1,(qaC hy).1] at this
 simp[(qaC hx).1,(qaC hy).1,this,run_indexByte_string]
end
end
end
section
variable{P:Program}{ids:Ids}{fid:Fid}{N:Nat}
section
variable{Γ : Ctx}{fr:Fr}{ρ : Operand->Value}{o:Oper}{v:V}{σ':S}{c:Call}
theorem qcA {b:Builtin} {xs:List Operand} {ts:List TypeId} (ho:o.op = .call c) (hcal:c.callee = .builtin b) (hargs:c.args.toList=xs) (hats:c.argTypes.toList=ts) {w w':World} {r:Next}
  (h : ∀ cs,(builtin b ts.toArray o.type cs (xs.map ρ).toArray).run P w = .ok r w'):(execOp ρ o).run P w = .ok r w':=by
 have ha:c.args=xs.toArray:=by apply WG; simpa using hargs
 have hb:c.argTypes=ts.toArray:=by apply WG; simpa using hats
 simp only[execOp,ho,resolve,hcal,ha,hb,invoke,Sem.run_bind,Sem.run_pure,Result.andThen_ok]
 simpa using h _
theorem qhp{u:V}{x:Value}{n:Int}{base:Option Addr}{m cap:Nat}(hu:Rep fid Γ u x)(h:V.len Γ.σ .sl u=some n)(hx:x = .slice base m cap):n=m:=by
 unfold V.len at h
 split at h
 ·cases h; have:=(qaC hu).1; rw[this] at hx; cases hx; rfl
 ·exact LK.noConfusion ‹LK.sl=LK.str›
 ·cases h; simp only[Rep,RepD] at hu; obtain⟨_,_,_,_,h,_⟩:=hu; rw[h] at hx; cases hx; rfl
 ·cases h; simp only[Rep] at hu; obtain⟨_,_,_,_,h,_⟩:=hu; rw[h] at hx; cases hx; rfl
 ·cases h; simp only[Rep] at hu; obtain⟨_,_,h,_⟩:=hu; rw[h] at hx; cases hx; rfl
 ·cases h; simp only[Rep] at hu; obtain⟨_,_,h,_⟩:=hu; rw[h] at hx; cases hx; rfl
 ·cases h; simp only[Rep] at hu; obtain⟨_,_,h,_⟩:=hu; rw[h] at hx; cases hx; rfl
 ·exact LK.noConfusion ‹LK.sl=LK.mp›
 ·cases h
theorem qri (hr:Real fid Γ) {t e:TypeId} {n:Nat} {x mm:Operand} {p u h0 m0:V} {lo:Option V} {lx hx:Option Operand} (ho:o.op = .slice t x lx hx (some mm)) (hp:Rep fid Γ p (ρ x))
  (ht:P.underlying t=some (.slice e)) (hn:qaH P e=some n) (h1:qiy fid Γ ρ lo lx) (h2:qiy fid Γ ρ (some h0) hx) (h3:Rep fid Γ m0 (ρ mm))
  (h:qjZ Γ.σ n lo h0 m0 p=some u):Comes P fid Γ ρ o u Γ.σ:=by
 unfold qjZ at h
 split at h
 ·rename_i k hk
  split at h
  ·rename_i hh hh' eh em
   split at h
   ·rename_i ll el
    split at h
    ·rename_i heq
     subst heq
     have fin : ∀ {a len cap},ρ x = .slice a len cap->len<=cap ->
       (ll<=hh->hh<=len->Rep fid Γ u (.slice (if hh=ll then a else a.map (·.add (ll*n))) (hh-ll) (hh-ll)))->Comes P fid Γ ρ o u Γ.σ := fun {a len cap} ha hle hc=>by
      have hkl:=qhp hp hk ha
      subst hkl
      simp only[Int.toNat_natCast] at eh em
      obtain⟨b1,b2⟩:=qgi h1 h2 eh el
      refine .pure hr ?_ (hc b1 b2)
      simp only[execOp,ho,Instr.sliceAt,Sem.run_bind,qam ht,Result.andThen_ok,Instr.slice,ha]
      rcases qaP h2 eh with ⟨h',_⟩|⟨y,kd,i,rfl,e1,e2,e3,e4⟩
      ·subst h'; exact h2.elim
      rcases qaP (show qiy fid Γ ρ (some m0) (some mm) from h3) em with ⟨h',_⟩|⟨y2,kd2,i2,hy2,g1,g2,g3,g4⟩
      ·cases h'
      cases hy2
      have hb:(Instr.sliceBounds true len cap (lx.map ρ) ((some y).map ρ) ((some mm).map ρ)).run P Γ.w = .ok (ll,hh,hh) Γ.w:=by
       rcases qaP h1 el with ⟨rfl,rfl⟩|⟨y',kd',i',rfl,f1,f2,f3,rfl⟩
       ·simp only[Instr.sliceBounds,WO,Yd,Instr.sliceBound,e1,g1,asIntOf,Sem.run_bind,Sem.run_pure,Result.andThen_ok]
        rw[if_pos ⟨g2,by omega⟩]
        simp only[Sem.run_pure,Result.andThen_ok]
        rw[if_pos ⟨e2,by omega⟩]
        simp only[Sem.run_pure,Result.andThen_ok]
        rw[<- e4,<- g4]
       ·simp only[Instr.sliceBounds,WO,Yd,Instr.sliceBound,e1,f1,g1,asIntOf,Sem.run_bind,Sem.run_pure,Result.andThen_ok]
        rw[if_pos ⟨g2,by omega⟩]
        simp only[Sem.run_pure,Result.andThen_ok]
        rw[if_pos ⟨e2,by omega⟩]
        simp only[Sem.run_pure,Result.andThen_ok]
        rw[if_pos ⟨f2,by omega⟩]
        simp only[Sem.run_pure,Result.andThen_ok]
        rw[<- e4,<- g4]
      simp only[hb,Result.andThen_ok,qaG hn,Sem.run_pure]
     have cut : ∀ {cs:List D} {len b off:Nat} {vs:List Value},RepDs Γ.F Γ.w cs vs->Row Γ.F Γ.w b off vs ->
       Rep fid Γ (.dat (.sl ((cs.drop (ll*n)).take ((hh-ll)*n)) (hh-ll) true)) (.slice (if hh=ll then some ⟨b,off,none⟩ else (some (⟨b,off,none⟩:Addr)).map (·.add (ll*n))) (hh-ll) (hh-ll)):=by
      intro cs len b off vs g1 g2
      simp only[Rep,RepD]
      by_cases hc:hh=ll
      ·have:hh-ll=0:=by omega
       rw[this]
       exact⟨b,off,0,[],by simp[hc],by omega,by simp,by simp[RepDs],qmK⟩
      ·exact⟨b,off+ll*n,hh-ll,((vs.drop (ll*n)).take ((hh-ll)*n)),by simp[hc,qa9],by omega,by simp,qff (qfe g1 _) _,qqA g2 _ _⟩
     have non : ∀ {b off:Nat},hh=ll->Rep fid Γ (.dat (.sl [] 0 true)) (.slice (if hh=ll then some ⟨b,off,none⟩ else (some (⟨b,off,none⟩:Addr)).map (·.add (ll*n))) (hh-ll) (hh-ll)):=fun {b off} hc=>by
      subst hc
      simp only[Rep,RepD,if_true,Nat.sub_self]
      exact⟨b,off,0,[],rfl,Wg _,by simp,by simp[RepDs],qmK⟩
     unfold qzj at h
     split at h
     ·cases h
      refine fin (qaC hp).1 (Wg _) fun b1 b2=>?_
      obtain rfl:hh=0:=by omega
      obtain rfl:ll=0:=by omega
      exact qdf rfl
     ·split at h
      ·cases h
       have hp':=hp
       simp only[Rep,RepD] at hp'
       obtain⟨b,off,cap,vs,hx',g2,g3,g4,g5⟩:=hp'
       exact fin hx' g2 fun _ _=>cut (len:=0) g4 g5
      ·cases h
     ·split at h
      ·cases h
       have hp':=hp
       simp only[Rep] at hp'
       obtain⟨b,cap,vs,m,hx',g2,g4,g5,_⟩:=hp'
       exact fin hx' g2 fun _ _=>cut (len:=0) g4 g5
      ·cases h
     ·split at h
      ·rename_i cs hcs
       split at h
       ·rename_i hc
        cases h
        have hp':=hp
        simp only[Rep] at hp'
        obtain⟨ad,cap,hx',g2,g0,g3,g4⟩:=hp'
        obtain⟨b,arr,e',q1,rfl,q2,q3⟩:=(g4 _ _ hcs rfl).2 hc.1
        exact fin hx' g2 fun _ _=>non hc.2.symm
       ·cases h
      ·cases h
     ·split at h
      ·rename_i hc
       cases h
       have hp':=hp
       simp only[Rep] at hp'
       obtain⟨b,hm,hx',g2,g3⟩:=hp'
       exact fin hx' g2 fun _ _=>non hc.symm
      ·cases h
     ·cases h
    ·cases h
   ·cases h
  ·cases h
 ·cases h
theorem qkv (hr:Real fid Γ) {u:V} {x:Value} {xs:List V} {news:List Value} (hu:Rep fid Γ u x) (hn:Reps fid Γ xs news) (h1 : ∀ v∈news,v.oneCell'=true) (h:qrg Γ.σ xs u=some σ') :
  ∃ base n cap Γ',x = .slice base n cap /\ Γ'.σ = σ'/\Real fid Γ'/\Step Γ Γ'/\((match base with|some a=>storeCells a news|none=>pure ()):Sem Unit).run P Γ.w = .ok () Γ'.w:=by
 have hlen:=Reps.length hn
 unfold qrg at h
 split at h
 ·split at h
  ·rename_i h0
   cases h
   exact⟨_,_,_,Γ,(qaC hu).1,rfl,hr,.refl _,by simp⟩
  ·cases h
 ·split at h
  ·rename_i h0
   cases h
   simp only[Rep,RepD] at hu
   obtain⟨b,o',cap,vs,hx,_⟩:=hu
   have:news=[]:=WL (by omega)
   subst this
   exact⟨_,_,_,Γ,hx,rfl,hr,.refl _,by simp[storeCells]⟩
  ·cases h
 ·rename_i l off n cap sz
  simp only[Rep] at hu
  obtain⟨b,hm,hx,_⟩:=hu
  split at h
  ·rename_i cs hcs
   split at h
   ·rename_i hc
    cases h
    obtain⟨hF,arr,e,h2,h3⟩:=hr.obs l _ b hcs hm
    have hl3:=Reps.length h3
    rw[Ww] at hl3
    obtain⟨w',s1,s2,arr',s3,s4⟩:=qbe (P:=P) news 0 Γ.w b off arr e h2 h1 (by omega)
    obtain⟨u1,u2⟩:=upd hr hcs rfl (ob' := .cells (cs.take off++(xs++cs.drop (off+xs.length)))) rfl hm s2 (fun hx=>by
     simp only[RepOb]
     refine⟨hF,arr',e,s3,?_⟩
     rw[s4,W1,hlen]
     exact Reps_append.2 ⟨_,_,rfl,Reps.ext hx _ _ (qbI h3 off),Reps_append.2 ⟨_,_,rfl,Reps.ext hx _ _ hn,Reps.ext hx _ _ (qb1 h3 _)⟩⟩)
    exact⟨_,_,_,_,hx,rfl,u1,u2,s1⟩
   ·cases h
  ·cases h
 ·rename_i l n sz
  simp only[Rep] at hu
  obtain⟨a,cap,hx,h2,h0,h3,h4⟩:=hu
  split at h
  ·rename_i cs hcs
   split at h
   ·rename_i hc
    cases h
    obtain⟨b,arr,e,q1,rfl,q2,q3⟩:=(h4 _ _ hcs rfl).2 hc.2.1
    have:=WB sz h2
    simp only[Ob.fz] at q3
    obtain⟨w',s1,s2,arr',s3,s4⟩:=qbe (P:=P) news 0 Γ.w b (Γ.F b-(Ob.vec cs).fz) arr e q2 h1 (by simp only[Ob.fz]; omega)
    simp only[Ob.fz,Nat.sub_zero,W1] at s4
    obtain⟨_,u1,u2⟩:=qfN hr hcs q1 q2 hn h1 (YC _) (by omega) s2 s3 (by rw[W1]; exact s4)
    refine⟨_,_,_,_,hx,?_,u1,u2,s1⟩
    simp
   ·cases h
  ·cases h
 ·rename_i l n off k sz
  simp only[Rep] at hu
  obtain⟨a,cap,hx,h2,h0,h3,h4⟩:=hu
  split at h
  ·rename_i cs hcs
   split at h
   ·rename_i hc
    cases h
    obtain⟨b,arr,e,q1,qa,q2,q4,q5,q6⟩:=(h4 _ _ hcs rfl).2 hc.2.1
    simp only[Ob.fz,Nat.sub_zero] at qa q5 q6
    rcases W6 cap with rfl|hcap
    ·obtain rfl:k=0:=by omega
     have e1:xs=[]:=WL (by have:=hc.1; omega)
     subst e1
     have e2:news=[]:=WL (by simpa using hlen)
     subst e2
     refine⟨_,_,_,Γ,hx,?_,hr,.refl _,by simp[storeCells]⟩
     simp only[W4,W1,Wk,WU]
     obtain⟨hlt,he⟩:=Wb.1 hcs
     rw[<- he,List.set_getElem_self]
    ·obtain rfl:=qa hcap
     obtain⟨w',s1,s2,arr',s3,s4⟩:=qbe (P:=P) news 0 Γ.w b (Γ.F b+off) arr e q2 h1 (by omega)
     rw[W1] at s4
     obtain⟨_,u1,u2⟩:=qfN hr hcs q1 q2 hn h1 (k:=off) (by omega) (by omega) s2 s3 s4
     exact⟨_,_,_,_,hx,rfl,u1,u2,s1⟩
   ·cases h
  ·cases h
 ·cases h
theorem qvu (hr:Real fid Γ) {x y:Operand} {t e:TypeId} {ts:List TypeId} {sz m:Nat} {n:Int} {a b:V} {xs:List V} (ho:o.op = .call c) (hcal:c.callee = .builtin .copy) (hargs:c.args.toList=[x,y]) (hats:c.argTypes.toList=t::ts)
  (ht:P.underlying t=some (.slice e)) (hsz:qaH P e=some sz) (ha:Rep fid Γ a (ρ x)) (hb:Rep fid Γ b (ρ y)) (hs:qor Γ.σ b=some (xs,m)) (hl:V.len Γ.σ .sl a=some n) (hxl:xs.length=m*sz) (hstr:b.isStr=false) (h1:xs.all V.one=true)
  (h:qrg Γ.σ (xs.take (min n.toNat m*sz)) a=some σ'):Comes P fid Γ ρ o (.int (min n.toNat m)) σ':=by
 have key : ∃ vs,Reps fid Γ xs vs/\(Builtin.lenOf (ρ y)).run P Γ.w = .ok m Γ.w /\ ∀ k,k<=m->(Builtin.firstCells sz k (ρ y)).run P Γ.w = .ok (vs.take (k*sz)).toArray Γ.w:=by
  rcases srcO_row hr hb hs with ⟨a,hy,rfl,rfl⟩|⟨s,rfl,_⟩|⟨b',off,cap,vs,hy,hv,hc⟩
  ·refine⟨[],by simp[Reps],by rw[hy]; simp[Builtin.lenOf],fun k hk=>?_⟩
   obtain rfl:k=0:=by omega
   rw[hy]
   cases a<;>simp[Builtin.firstCells,loadCells,loadCellsFrom]
  ·simp[V.isStr] at hstr
  ·refine⟨vs,hv,by rw[hy]; simp[Builtin.lenOf],fun k hk=>?_⟩
   have hlv:=Reps.length hv
   have hks:=WB sz hk
   have:=qa0 (P:=P) (w := Γ.w) (b:=b') (o:=off) (vs:=vs.take (k*sz)) (fun j v hj=>hc j v (by rw[WN] at hj; split at hj; exact hj; cases hj))
   rw[WR,hlv,hxl,Nat.min_eq_left hks] at this
   rw[hy]
   simp only[Builtin.firstCells,this]
 obtain⟨vs,k1,k2,k3⟩:=key
 obtain⟨base,n',cap,Γ',hx,g1,g2,g3,g4⟩:=qkv (P:=P) hr ha (qbI k1 (min n.toNat m*sz)) (fun v hv=>qbP k1 h1 v (W8 hv)) h
 have hn:=qhp ha hl hx
 subst hn
 refine⟨Γ',.int .i64 (min n' m),g1,g2,g3,by simpa using qdf (fid:=fid) (Γ := Γ') (v := .int .i64 (min n' m)) rfl,.inl (qcA ho hcal hargs hats fun cs=>?_)⟩
 simp only[builtin,Builtin.copy_,Wi,Wr,WV,WT,W9,Sem.run_bind,qam ht,Result.andThen_ok,hx,k2,qaG hsz,Sem.run_pure]
 have e1:Nat.min m n'=min n' m:=by rw[Nat.min_comm]
 rw[e1,k3 _ (Nat.min_le_right _ _)]
 simp only[Result.andThen_ok]
 cases base with
 |none=>
  have hw : Γ'.w = Γ.w:=by simpa using g4.symm
  simp[goInt,hw]
  omega
 |some ad=>
  simp only[Int.toNat_natCast] at g4
  simp only[Sem.run_bind,g4]
  simp[goInt]
  omega
theorem qyr (hr:Real fid Γ) {x:Operand} {t e:TypeId} {n:Int} {a:V} {z:Value} (ho:o.op = .call c) (hcal:c.callee = .builtin .clear) (hargs:c.args.toList=[x]) (hats:c.argTypes.toList=[t])
  (ht:P.underlying t=some (.slice e)) (hz:qcj P e=some z) (hz0:0<z.cells.size) (ha:Rep fid Γ a (ρ x)) (hl:V.len Γ.σ .sl a=some n)
  (h:qrg Γ.σ ((qbU n.toNat (qaz z)).map .dat) a=some σ'):Comes P fid Γ ρ o (.tup []) σ':=by
 have hrep:Reps fid Γ ((qbU n.toNat (qaz z)).map .dat) (qbU n.toNat z.cells.toList):=Reps_dat.2 (qcb (qaS (qbh hz)) _)
 obtain⟨base,n',cap,Γ',hx,g1,g2,g3,g4⟩:=qkv (P:=P) hr ha hrep (qbP hrep (qhj (qbh hz) _)) h
 have hn:=qhp ha hl hx
 subst hn
 refine⟨Γ',.tuple #[],g1,g2,g3,by simp[Rep,Reps],.inl (qcA ho hcal hargs hats fun cs=>?_)⟩
 simp only[Int.toNat_natCast] at g4
 have hzc:(Builtin.zeroCells z.cells n').toList=qbU n' z.cells.toList:=by
  unfold Builtin.zeroCells
  exact qcs _ _ hz0
 simp only[builtin,Builtin.clear_,Wi,Wr,WV,WT,Sem.run_bind,qam ht,Result.andThen_ok,hx]
 cases base with
 |none=>
  have hw : Γ'.w = Γ.w:=by simpa using g4.symm
  simp[hw]
 |some ad=>
  cases n' with
  |zero=>
   have hw : Γ'.w = Γ.w:=by simpa [qbU,storeCells] using g4.symm
   simp[hw]
  |succ k=>simp[qaZ hz,hzc,g4]
theorem qrj (hr:Real fid Γ) {t kt e:TypeId} {x:Operand} {k:IntKind} {i:Int} (ho:o.op = .makeMap t (some x)) (ht:P.underlying t=some (.map kt e)) (hx:Rep fid Γ (.dat (.lit (.int k i))) (ρ x)) :
  Comes P fid Γ ρ o (.mp Γ.σ.length) (Γ.σ ++ [.map []]):=by
 obtain⟨h1,h2⟩:=qbW hr (.map []) (.map #[] 0) 0
  (fun Γ' e hx=>by
   subst e
   simp only[RepOb,grow,if_pos]
   exact⟨trivial,#[],0,qav _ _,rfl⟩) (fun h=>absurd h (WP _))
 refine⟨_,.map (some Γ.w.heap.size),rfl,h1,h2,?_,.inl ?_⟩
 ·simp only[Rep]
  refine⟨Γ.w.heap.size,by simp[bind],rfl,⟨.map [],by simp,rfl⟩⟩
 ·simp only[execOp,ho,Instr.makeMap,WO,(qaC hx).1,Sem.run_bind,qam ht,Result.andThen_ok]
  simp[asInt,asIntOf]
theorem del_sound {kd:KD} {kt:TypeId} {d:TypeDesc} (hk:kdT P kt=some kd) (hu:P.underlying kt=some d) {key:Value} : ∀ {es es':List (Value × V)} {xs:List MapEntry} (i:Nat),RepE fid Γ es xs->qtR kd key es=some es' ->
  (Instr.findNow d key xs i=some none/\RepE fid Γ es' xs) \/ ∃ j y,Instr.findNow d key xs i=some (some (i+j,y))/\j<xs.length/\RepE fid Γ es' (xs.eraseIdx j)
 |[],es',xs,i,hx,h=>by
  simp only[qtR,Wd] at h; subst h
  simp only[RepE] at hx; subst hx
  exact .inl ⟨rfl,rfl⟩
 | (k,v)::es,es',xs,i,hx,h=>by
  simp only[RepE] at hx
  obtain⟨e,xs',rfl,h1,h2,h3⟩:=hx
  simp only[qtR] at h
  split at h
  ·rename_i hs
   cases h
   obtain⟨d',hd,hs'⟩:=qc1 hk hs
   rw[hu] at hd; cases hd
   exact .inr ⟨0,e.val,by simp only[Instr.findNow,h1,hs',W1],by simp,by simpa using h3⟩
  ·rename_i hs
   obtain⟨d',hd,hs'⟩:=qc1 hk hs
   rw[hu] at hd; cases hd
   split at h
   ·rename_i r' hr'
    cases h
    rcases del_sound hk hu (i+1) h3 hr' with ⟨h4,h5⟩|⟨j,y,h4,h5,h6⟩
    ·exact .inl ⟨by simp only[Instr.findNow,h1,hs',h4],e,xs',rfl,h1,h2,h5⟩
    ·exact .inr ⟨j+1,y,by simp only[Instr.findNow,h1,hs',h4]; congr 3; omega,by simpa using h5,e,_,rfl,h1,h2,h6⟩
   ·cases h
  ·cases h
theorem qrk (hr:Real fid Γ) {t kt e:TypeId} {ts:List TypeId} {kd:KD} {m k:Operand} {l:Nat} {key:Value} {es es':List (Value × V)} (ho:o.op = .call c) (hcal:c.callee = .builtin .delete) (hargs:c.args.toList=[m,k]) (hats:c.argTypes.toList=t::ts)
  (ht:P.underlying t=some (.map kt e)) (hk:kdT P kt=some kd) (hm:Rep fid Γ (.mp l) (ρ m)) (hkey:Rep fid Γ (.dat (.lit key)) (ρ k)) (hes : Γ.σ[l]?=some (.map es)) (h:qtR kd key es=some es') :
  Comes P fid Γ ρ o (.tup []) (Γ.σ.set l (.map es')):=by
 simp only[Rep] at hm
 obtain⟨b,hb,hmx,_⟩:=hm
 obtain⟨hF,ents,clock,h1,h2⟩:=hr.obs l _ b hes hb
 obtain⟨d,hu⟩:=qj7 hk
 have hfk : ∀ x,Instr.findNow d key ents.toList 0=some x->(Instr.findKey kt key ents.toList).run P Γ.w = .ok x Γ.w:=fun x hx=>by
  simp only[Instr.findKey,Sem.run_bind,qam hu,Result.andThen_ok,hx]
  rfl
 have hblt:=qcp h1
 have fin : ∀ ents':Array MapEntry,(Builtin.delete_ (t::ts).toArray o.type #[.map (some b),key]).run P Γ.w = .ok (.tuple #[]) { Γ.w with heap := Γ.w.heap.setIfInBounds b (.map ents' clock) }->RepE fid Γ es' ents'.toList ->
   Comes P fid Γ ρ o (.tup []) (Γ.σ.set l (.map es')):=fun ents' hrun hrep=>by
  obtain⟨u1,u2⟩:=upd hr hes rfl (ob' := .map es') rfl hb (w':={ Γ.w with heap := Γ.w.heap.setIfInBounds b (.map ents' clock) })
   ⟨rfl,rfl,rfl,by simp,fun k hk=>by simp[Yq (Yb hk)]⟩ (fun hx=>by
    simp only[RepOb]
    exact⟨hF,ents',clock,by simp[hblt],RepE.ext hx _ _ hrep⟩)
  refine⟨_,.tuple #[],rfl,u1,u2,by simp[Rep,Reps],.inl (qcA ho hcal hargs hats fun cs=>?_)⟩
  simp only[builtin,Wi,Wr,hmx,(qaC hkey).1,Sem.run_bind,hrun,Result.andThen_ok,Sem.run_pure]
 have hc:=fun e=>qdo (P:=P) hk e 9999 key Γ.w
 rcases del_sound hk hu 0 h2 h with ⟨h4,h5⟩|⟨j,y,h4,h5,h6⟩
 ·refine fin ents ?_ h5
  simp only[Builtin.delete_,WV,WT,W9,Sem.run_bind,qam ht,Result.andThen_ok,getObj,Sem.run,h1,hc,hfk _ h4,setObj]
  rfl
 ·refine fin (ents.eraseIdxIfInBounds j) ?_ ?_
  ·simp only[Builtin.delete_,WV,WT,W9,Sem.run_bind,qam ht,Result.andThen_ok,getObj,Sem.run,h1,hc,hfk _ h4,setObj,WF]
   rfl
  ·have:(ents.eraseIdxIfInBounds j).toList=ents.toList.eraseIdx j:=by
    simp[Array.eraseIdxIfInBounds,show j<ents.size from by simpa using h5]
   rw[this]; exact h6
theorem qrl (hr:Real fid Γ) {t kt e:TypeId} {x:Operand} {l:Nat} (ho:o.op = .range t x) (ht:P.underlying t=some (.map kt e)) (hx:Rep fid Γ (.mp l) (ρ x)) (hm : ∃ es,Γ.σ[l]?=some (.map es)) :
  Comes P fid Γ ρ o (.ptr Γ.σ.length 0) (Γ.σ ++ [.iter l]):=by
 simp only[Rep] at hx
 obtain⟨b,hb,hmx,hfix⟩:=hx
 obtain⟨es,hes⟩:=hm
 obtain⟨hF,ents,clock,h1,h2⟩:=hr.obs l _ b hes hb
 have hll:=(hr.dom l b hb).1
 obtain⟨u1,u2⟩:=qbW hr (.iter l) (.mapIter (some b) clock #[] clock) 0
  (fun Γ' e hx=>by
   have hf:=hfix.ext hx
   subst e
   simp only[RepOb,grow,if_pos]
   exact⟨trivial,b,clock,#[],clock,by simp only[bind]; rw[if_neg (by omega)]; exact hb,hf,qav _ _⟩) (fun h=>absurd h (WP _))
 refine⟨_,.pointer (some ⟨Γ.w.heap.size,0,none⟩),rfl,u1,u2,?_,.inl ?_⟩
 ·simp only[Rep]
  exact⟨Γ.w.heap.size,by simp[bind],rfl,⟨.iter l,by simp,rfl⟩⟩
 ·simp only[execOp,ho,hmx,Instr.range,Sem.run_bind,qam ht,Result.andThen_ok,getObj,Sem.run,h1,Sem.run_pure]
  simp[newObj,Sem.run]
theorem qtf (hr:Real fid Γ) {x:Operand} {l m:Nat} (ho:o.op = .next x false) (hx:Rep fid Γ (.ptr l 0) (ρ x)) (hi : Γ.σ[l]?=some (.iter m)) (hm : Γ.σ[m]?=some (.map [])) :
  Comes P fid Γ ρ o (.tup [.bool false]) Γ.σ:=by
 simp only[Rep] at hx
 obtain⟨b,hb,hbx,_⟩:=hx
 obtain⟨_,c,since,seen,last,h2,h3,h4⟩:=hr.obs l _ b hi hb
 obtain⟨_,ents,clock,h5,h6⟩:=hr.obs m _ c hm h2
 simp only[RepE] at h6
 have he:ents = #[]:=by apply WG; simpa using h6
 subst he
 refine .pure hr (x := .tuple #[.bool false]) ?_ (by simp[Rep,Reps,RepD,qbo])
 simp only[execOp,ho,hbx,Instr.next,Sem.run_bind,getObj,Sem.run,h4,Result.andThen_ok,h5]
 simp[Question.forced,show ∀ p:MapEntry->Bool,Array.filter p #[] 0 0 = #[] from fun _=>rfl]
theorem qvv (hr:Real fid Γ) {x:Operand} {t e:TypeId} (ho:o.op = .call c) (hcal:c.callee = .builtin .cap) (hargs:c.args.toList=[x]) (hats:c.argTypes.toList=[t]) (ht:P.underlying t=some (.slice e)) (hx:Rep fid Γ (.dat (.lit (.slice none 0 0))) (ρ x)) :
  Comes P fid Γ ρ o (.int 0) Γ.σ:=by
 refine .pure hr (x := .int .i64 0) (qcA ho hcal hargs hats fun cs=>?_) (qdf rfl)
 simp only[builtin,Builtin.cap_,Wi,Wr,WV,WT,Sem.run_bind,qam ht,Result.andThen_ok,(qaC hx).1]
 simp[goInt]
theorem qo4 (hr:Real fid Γ) {x y:Operand} {ts tx e:TypeId} {ik k:IntKind} {m:Int} {bytes sz:Nat} {z:Value} (ho:o.op = .call c) (hcal:c.callee = .builtin .append) (hargs:c.args.toList=[x,y]) (hats:c.argTypes.toList=[ts,tx])
  (hts:P.underlying ts=some (.slice e)) (htx:P.underlying tx=some (.int ik)) (hsz:qaH P e=some sz) (hby:qcP P e=some bytes) (hz:qcj P e=some z) (hzn:z.cells.size=sz) (h0:0<sz)
  (hx:Rep fid Γ (.dat (.lit (.slice none 0 0))) (ρ x)) (hy:Rep fid Γ (.dat (.lit (.int k m))) (ρ y)) (hm0:0<m) (hm:m<=2 ^ 40) (hroom:qaA m.toNat bytes=true) :
  Comes P fid Γ ρ o (.own Γ.σ.length m.toNat sz) (Γ.σ ++ [.vec ((qbU m.toNat (qaz z)).map .dat)]):=by
 obtain⟨n,rfl⟩ : ∃ n:Nat,m=n:=⟨m.toNat,by omega⟩
 simp only[Int.toNat_natCast] at *
 have hinfo : ∃ i,P.info? e=some i/\i.bytes=bytes:=by
  unfold qcP at hby
  cases hi:P.info? e with
  |none=>rw[hi] at hby; cases hby
  |some i=>rw[hi] at hby; simp at hby; exact⟨i,rfl,hby⟩
 obtain⟨i,hi,hib⟩:=hinfo
 simp only[qaA,decide_eq_true_eq] at hroom
 have hn:=qeR (show 0<n by omega)
 have r1:(2*n+192)*(bytes+1)=(2*n+192)*bytes+(2*n+192):=by rw[Nat.mul_add,Nat.mul_one]
 have r2:Builtin.nextslicecap n 0*bytes<=(2*n+192)*bytes:=WB _ hn
 have r3:n*bytes<=(2*n+192)*bytes:=WB _ (by omega)
 have hmax:IntKind.max .i64=9223372036854775807:=by decide
 have hwr:IntKind.i64.wrap n=n:=by rw[IntKind.wrap_i64]; omega
 obtain⟨d1,d2⟩:=qf7 hr
 have hzc:(Builtin.zeroCells z.cells n).toList=qbU n z.cells.toList:=by
  unfold Builtin.zeroCells
  exact qcs _ _ (by omega)
 have hrep:Reps fid Γ ((qbU n (qaz z)).map .dat) (qbU n z.cells.toList):=Reps_dat.2 (qcb (qaS (qbh hz)) _)
 have hl:((qbU n (qaz z)).map V.dat).length=n*sz:=by rw[<- Reps.length hrep,qb4,Ww,hzn]
 generalize hcap:n + Γ.w.tape Γ.w.drawn (.appendCap n 0 e) % (2 ^ 63-n)=newCap
 have hlc:n<=newCap:=by omega
 have hsz2:(Builtin.zeroCells z.cells n++Builtin.zeroCells z.cells (newCap-n)).size=newCap*sz:=by
  simp only[Yg,Builtin.zeroCells,Array.size_map,Array.size_range,hzn,<- Nat.add_mul]
  congr 1; omega
 have htk:(Builtin.zeroCells z.cells n++Builtin.zeroCells z.cells (newCap-n)).toList.take (n*sz)=qbU n z.cells.toList:=by
  rw[Array.toList_append,hzc]
  exact Ym (by rw[qb4,Ww,hzn])
 have hle2:n*sz<=newCap*sz:=WB _ hlc
 obtain⟨k1,k2⟩:=qbW d1 (.vec ((qbU n (qaz z)).map .dat)) (.cells (Builtin.zeroCells z.cells n++Builtin.zeroCells z.cells (newCap-n)) e) 0
  (fun Γ' e' hx'=>by
   subst e'
   simp only[RepOb,grow,if_pos,WF,WE,hl,htk]
   exact⟨_,e,qav _ _,by rw[hsz2]; exact hle2,by rw[htk]; exact Reps.ext (d2.ext.trans hx') _ _ hrep,by rw[htk]; exact qbP hrep (qhj (qbh hz) _)⟩) (fun h=>absurd h (WP _))
 refine⟨_,.slice (some ⟨Γ.w.heap.size,0,none⟩) n newCap,rfl,k1,d2.trans k2,?_,.inl (qcA ho hcal hargs hats fun cs=>?_)⟩
 ·simp only[Rep]
  refine⟨_,_,rfl,hlc,h0,⟨.vec ((qbU n (qaz z)).map .dat),by simp,rfl⟩,fun ob cs j1 j2=>?_⟩
  have:ob = .vec ((qbU n (qaz z)).map .dat):=by simpa using j1.symm
  subst this
  simp only[Ob.rows,Wd] at j2; subst j2
  refine⟨by rw[hl]; exact Wg _,fun _=>⟨Γ.w.heap.size,_,e,by simp[bind],by simp[grow,Ob.fz],qav Γ.w.drew _,?_⟩⟩
  rw[hsz2]
  simp[grow,Ob.fz]
 ·simp only[builtin,Wi,Wr,(qaC hx).1,(qaC hy).1]
  have hint:(asInt (Value.int k n)).run P Γ.w = .ok (n:Int) Γ.w:=by simp[asInt,asIntOf]
  have c1 : ¬ ((n:Int)<0):=by omega
  have c2 : ¬ ((n:Int)*(bytes:Int) > 2 ^ 48):=by
   have:((n*bytes:Nat):Int)<=2 ^ 48:=by omega
   rw[Int.natCast_mul] at this
   omega
  have c3 : ¬ (0+n<=0):=by omega
  have c4 : ¬ (((0+n:Nat):Int) > IntKind.i64.max/\(True\/bytes=0)):=by rw[hmax]; omega
  have c5 : ¬ (Builtin.nextslicecap (0+n) 0*bytes > 2 ^ 48):=by rw[WF]; omega
  have c6 : ¬ (n*sz=0):=by have:=YD (show 0<n by omega) h0; omega
  simp only[Builtin.append_,WV,WT,W9,Sem.run_bind,qam hts,Result.andThen_ok,qaG hsz,qam htx,Sem.run_pure,if_true,hint,hwr]
  rw[Sem.run_ite,if_neg c1]
  simp only[Sem.run_bind,qa2 hi,Result.andThen_ok,hib]
  rw[Sem.run_ite,if_neg c2]
  simp only[Sem.run_bind,Sem.run_pure,Result.andThen_ok,Int.toNat_natCast]
  rw[Sem.run_ite,if_neg c3]
  simp only[Sem.run_bind,qa2 hi,Result.andThen_ok,hib]
  rw[Sem.run_ite,if_neg c4]
  simp only[Sem.run_bind,qa2 hi,Result.andThen_ok,hib]
  rw[Sem.run_ite,if_neg c5]
  simp only[Sem.run_bind,run_choose,Question.forced,Wz,if_false,Question.cut,Result.andThen_ok,run_askRoom,World.drew_eq,Builtin.firstCells,Bool.not_true,Sem.run_pure,if_neg c6,WF]
  rw[hcap]
  simp only[qa2 hi,Result.andThen_ok,qaZ hz,newRow,Sem.run_bind,run_newObj,Sem.run_pure]
  simp
  rfl
end
end
end Go.Pm
