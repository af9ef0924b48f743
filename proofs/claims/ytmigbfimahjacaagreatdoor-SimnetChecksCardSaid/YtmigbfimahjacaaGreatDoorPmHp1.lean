/- Stores: what is reached, parts, renaming; no program in sight. -/
import Derived.Test.YtmigbfimahjacaaGreatDoorPmAL
import Derived.Test.YtmigbfimahjacaaGreatDoorPmR
import Derived.Test.YtmigbfimahjacaaGreatDoorPmKb
import Derived.Test.YtmigbfimahjacaaGreatDoorPmCq
import Derived.Test.YtmigbfimahjacaaGreatDoorPmCo
set_option linter.unusedSimpArgs false
set_option linter.unusedVariables false
set_option maxHeartbeats 4000000
namespace Go.Pm
section
mutual
theorem V.locs_map{r:Nat->Nat} : ∀ (v:V),(v.ren r).locs=v.locs.map r
 |.dat d=>rfl
 |.ptr l o=>rfl
 |.gsl cs n sz l=>rfl
 |.msl l o n cap sz=>rfl
 |.own l n sz=>rfl
 |.eptr l n o=>rfl
 |.vw l n o k sz=>rfl
 |.rw cs n=>by simp only[V.ren,V.locs,qdc cs]
 |.bm g v=>by simp only[V.ren,V.locs,V.locs_map v]
 |.agg cs=>by simp only[V.ren,V.locs,qdc cs]
 |.fn f a b=>by simp only[V.ren,V.locs,qdc a,qdc b,List.map_append]
 |.mp l=>rfl
 |.iface t v=>by simp only[V.ren,V.locs,V.locs_map v]
 |.tup vs=>by simp only[V.ren,V.locs,qdc vs]
 |.yld l=>rfl
 |.pan v=>by simp only[V.ren,V.locs,V.locs_map v]
theorem qdc{r:Nat->Nat} : ∀ (vs:List V),qau (qbl r vs)=(qau vs).map r
 |[]=>rfl
 |v::vs=>by simp only[qbl,qau,V.locs_map v,qdc vs,List.map_append]
end
theorem qlE{r:Nat->Nat} : ∀ (es:List (Value × V)),qc7 (qjW r es)=(qc7 es).map r
 |[]=>rfl
 | (k,v)::es=>by simp only[qjW,qc7,V.locs_map v,qlE es,List.map_append]
theorem qlF{r:Nat->Nat} : ∀ (es:Fr),qaR (qd8 r es)=(qaR es).map r
 |[]=>rfl
 | (k,v)::es=>by simp only[qd8,qaR,V.locs_map v,qlF es,List.map_append]
theorem Ob.locs_map{r:Nat->Nat}(o:Ob):(o.ren r).locs=o.locs.map r:=by
 cases o<;>simp only[Ob.ren,Ob.locs,qdc,qlE,qlF,Wr,Wi]
mutual
theorem V.ren_comp{r s:Nat->Nat} : ∀ (v:V),(v.ren r).ren s=v.ren (fun l=>s (r l))
 |.dat d=>rfl
 |.ptr l o=>rfl
 |.gsl cs n sz l=>rfl
 |.msl l o n cap sz=>rfl
 |.own l n sz=>rfl
 |.eptr l n o=>rfl
 |.vw l n o k sz=>rfl
 |.rw cs n=>by simp only[V.ren,qdd cs]
 |.bm g v=>by simp only[V.ren,V.ren_comp v]
 |.agg cs=>by simp only[V.ren,qdd cs]
 |.fn f a b=>by simp only[V.ren,qdd a,qdd b]
 |.mp l=>rfl
 |.iface t v=>by simp only[V.ren,V.ren_comp v]
 |.tup vs=>by simp only[V.ren,qdd vs]
 |.yld l=>rfl
 |.pan v=>by simp only[V.ren,V.ren_comp v]
theorem qdd{r s:Nat->Nat} : ∀ (vs:List V),qbl s (qbl r vs)=qbl (fun l=>s (r l)) vs
 |[]=>rfl
 |v::vs=>by simp only[qbl,V.ren_comp v,qdd vs]
end
theorem qlG{r s:Nat->Nat} : ∀ (es:List (Value × V)),qjW s (qjW r es)=qjW (fun l=>s (r l)) es
 |[]=>rfl
 | (k,v)::es=>by simp only[qjW,V.ren_comp v,qlG es]
theorem qlH{r s:Nat->Nat} : ∀ (es:Fr),qd8 s (qd8 r es)=qd8 (fun l=>s (r l)) es
 |[]=>rfl
 | (k,v)::es=>by simp only[qd8,V.ren_comp v,qlH es]
theorem Ob.ren_comp{r s:Nat->Nat}(o:Ob):(o.ren r).ren s=o.ren (fun l=>s (r l)):=by
 cases o<;>simp only[Ob.ren,qdd,qlG,qlH]
mutual
theorem V.ren_congr{r s:Nat->Nat} : ∀ (v:V),(∀ l∈v.locs,r l=s l)->v.ren r=v.ren s
 |.dat d,_=>rfl
 |.ptr l o,h=>by simp only[V.ren]; rw[h l (by simp[V.locs])]
 |.gsl cs n sz l,h=>by simp only[V.ren]; rw[h l (by simp[V.locs])]
 |.msl l o n cap sz,h=>by simp only[V.ren]; rw[h l (by simp[V.locs])]
 |.own l n sz,h=>by simp only[V.ren]; rw[h l (by simp[V.locs])]
 |.eptr l n o,h=>by simp only[V.ren]; rw[h l (by simp[V.locs])]
 |.vw l n o k sz,h=>by simp only[V.ren]; rw[h l (by simp[V.locs])]
 |.rw cs n,h=>by simp only[V.ren]; rw[qbx cs (by simpa only [V.locs] using h)]
 |.bm g v,h=>by simp only[V.ren]; rw[V.ren_congr v (by simpa only [V.locs] using h)]
 |.agg cs,h=>by simp only[V.ren]; rw[qbx cs (by simpa only [V.locs] using h)]
 |.fn f a b,h=>by
  simp only[V.locs,We] at h
  simp only[V.ren]; rw[qbx a fun l hl=>h l (.inl hl),qbx b fun l hl=>h l (.inr hl)]
 |.mp l,h=>by simp only[V.ren]; rw[h l (by simp[V.locs])]
 |.iface t v,h=>by simp only[V.ren]; rw[V.ren_congr v (by simpa only [V.locs] using h)]
 |.tup vs,h=>by simp only[V.ren]; rw[qbx vs (by simpa only [V.locs] using h)]
 |.yld l,h=>by simp only[V.ren]; rw[h l (by simp[V.locs])]
 |.pan v,h=>by simp only[V.ren]; rw[V.ren_congr v (by simpa only [V.locs] using h)]
theorem qbx{r s:Nat->Nat} : ∀ (vs:List V),(∀ l∈qau vs,r l=s l)->qbl r vs=qbl s vs
 |[],_=>rfl
 |v::vs,h=>by
  simp only[qau,We] at h
  simp only[qbl]; rw[V.ren_congr v fun l hl=>h l (.inl hl),qbx vs fun l hl=>h l (.inr hl)]
end
theorem qjf{r s:Nat->Nat} : ∀ (es:List (Value × V)),(∀ l∈qc7 es,r l=s l)->qjW r es=qjW s es
 |[],_=>rfl
 | (k,v)::es,h=>by
  simp only[qc7,We] at h
  simp only[qjW]; rw[V.ren_congr v fun l hl=>h l (.inl hl),qjf es fun l hl=>h l (.inr hl)]
theorem qjg{r s:Nat->Nat} : ∀ (es:Fr),(∀ l∈qaR es,r l=s l)->qd8 r es=qd8 s es
 |[],_=>rfl
 | (k,v)::es,h=>by
  simp only[qaR,We] at h
  simp only[qd8]; rw[V.ren_congr v fun l hl=>h l (.inl hl),qjg es fun l hl=>h l (.inr hl)]
theorem Ob.ren_congr{r s:Nat->Nat}(o:Ob)(h : ∀ l∈o.locs,r l=s l):o.ren r=o.ren s:=by
 cases o with
 |cells cs=>simp only[Ob.ren,qbx cs h]
 |map es=>simp only[Ob.ren,qjf es h]
 |tip n=>rfl
 |loop lp=>simp only[Ob.ren,qjg lp.fr h]
 |vec cs=>simp only[Ob.ren,qbx cs h]
 |cellsT t cs=>simp only[Ob.ren,qbx cs h]
 |vecT t cs=>simp only[Ob.ren,qbx cs h]
 |froz cs=>rfl
 |dead=>rfl
 |iter l=>simp only[Ob.ren]; rw[h l (by simp[Ob.locs])]
def lo(σ : S)(l:Nat):List Nat:=match σ[l]? with|some ob=>ob.locs|none=>[]
theorem qij(σ : S)(n l:Nat)(todo seen:List Nat):reach σ (n+1) (l::todo) seen=if seen.contains l then reach σ (n+1) todo seen else reach σ n (todo++lo σ l) (seen++[l]):=rfl
def Clo(σ : S)(U:Nat->Prop):Prop := ∀ l,U l -> ∃ ob,σ[l]?=some ob /\ ∀ m∈ob.locs,U m
theorem Clo.lo{σ : S}{U:Nat->Prop}(h:Clo σ U){l m:Nat}(hl:U l)(hm:m∈lo σ l):U m:=by
 obtain⟨ob,h1,h2⟩:=h l hl
 simp only[Pm.lo,h1] at hm
 exact h2 m hm
theorem Clo.lt{σ : S}{U:Nat->Prop}(h:Clo σ U){l:Nat}(hl:U l):l < σ.length:=by
 obtain⟨ob,h1,_⟩:=h l hl
 exact (Wb.1 h1).1
theorem qnl : ∀ {L B:List Nat},L.Nodup->(∀ l∈L,l∈B)->L.length<=B.length
 |[],B,_,_=>by simp
 |a::L,B,hn,hs=>by
  obtain⟨h1,h2⟩:=W0.1 hn
  have ha:=hs a (by simp)
  have:=qnl (L:=L) (B:=B.erase a) h2 fun l hl=>(List.mem_erase_of_ne fun e=>h1 (by rw[<- e]; exact hl)).2 (hs l (by simp[hl]))
  rw[List.length_erase_of_mem ha] at this
  have:=List.length_pos_of_mem ha
  simp only[WK]; omega
theorem qut{L B:List Nat}(hn:L.Nodup)(hs : ∀ l∈L,l∈B)(hle:B.length<=L.length) : ∀ l∈B,l∈L:=fun l hl=>by
 by_cases hm:l∈L
 ·exact hm
 ·have:=qnl (L:=l::L) (B:=B) (W0.2 ⟨hm,hn⟩) (by simpa using ⟨hl,hs⟩)
  simp at this; omega
theorem qeU{σ : S}{U:Nat->Prop}(hU:Clo σ U) : ∀ (n:Nat) (todo seen:List Nat),(∀ l∈todo,U l)->(∀ l∈seen,U l) -> ∀ l∈reach σ n todo seen,U l
 |0,_,_,_,hs=>hs
 |n+1,[],_,_,hs=>hs
 |n+1,l::todo,seen,ht,hs=>by
  rw[qij]
  split
  ·exact qeU hU (n+1) todo seen (fun m hm=>ht m (by simp[hm])) hs
  ·refine qeU hU n _ _ (fun m hm=>?_) fun m hm=>?_
   ·rcases We.1 hm with hm|hm
    ·exact ht m (by simp[hm])
    ·exact hU.lo (ht l (by simp)) hm
   ·rcases We.1 hm with hm|hm
    ·exact hs m hm
    ·simp at hm; subst hm; exact ht _ (by simp)
theorem qgJ {σ : S} {B:List Nat} (hB:Clo σ (· ∈ B)) : ∀ (n:Nat) (todo seen:List Nat),(∀ l∈todo,l∈B)->(∀ l∈seen,l∈B)->seen.Nodup->(∀ l∈seen,∀ m∈lo σ l,m∈seen\/m∈todo)->B.length<=n+seen.length ->
  (reach σ n todo seen).Nodup/\(∀ l∈seen,l∈reach σ n todo seen)/\(∀ l∈todo,l∈reach σ n todo seen) /\ ∀ l∈reach σ n todo seen,∀ m∈lo σ l,m∈reach σ n todo seen
 |0,todo,seen,ht,hs,hn,hc,hle=>by
  have hf:=qut hn hs (by omega)
  rw[qi2]
  exact⟨hn,fun l hl=>hl,fun l hl=>hf l (ht l hl),fun l hl m hm=>(hc l hl m hm).elim id fun h=>hf m (ht m h)⟩
 |n+1,[],seen,_,_,hn,hc,_=>by
  rw[qeM]
  exact⟨hn,fun l hl=>hl,fun l hl=>(by cases hl),fun l hl m hm=>(hc l hl m hm).elim id fun h=>(by cases h)⟩
 |n+1,l::todo,seen,ht,hs,hn,hc,hle=>by
  rw[qij]
  split
  ·rename_i hm
   have hm:l∈seen:=by simpa using hm
   obtain⟨a1,a2,a3,a4⟩:=qgJ hB (n+1) todo seen (fun m hm=>ht m (by simp[hm])) hs hn (fun a ha m hm'=>(hc a ha m hm').elim .inl fun h=>by
    rcases Wq.1 h with rfl|h
    ·exact .inl hm
    ·exact .inr h) hle
   exact⟨a1,a2,fun a ha=>by
    rcases Wq.1 ha with rfl|ha
    ·exact a2 _ hm
    ·exact a3 a ha,a4⟩
  ·rename_i hm
   have hm:l∉seen:=by simpa using hm
   obtain⟨a1,a2,a3,a4⟩:=qgJ hB n (todo++lo σ l) (seen++[l]) (fun m hm=>by
     rcases We.1 hm with hm|hm
     ·exact ht m (by simp[hm])
     ·exact hB.lo (ht l (by simp)) hm) (fun m hm=>by
     rcases We.1 hm with hm|hm
     ·exact hs m hm
     ·simp at hm; subst hm; exact ht _ (by simp)) (List.nodup_append.2 ⟨hn,by simp,fun a ha b hb e=>by simp at hb; subst hb; subst e; exact hm ha⟩) (fun a ha m hm'=>by
     rcases We.1 ha with ha|ha
     ·rcases hc a ha m hm' with h|h
      ·exact .inl (by simp[h])
      ·rcases Wq.1 h with rfl|h
       ·exact .inl (by simp)
       ·exact .inr (by simp[h])
     ·simp at ha; subst ha; exact .inr (by simp[hm'])) (by simp; omega)
   exact⟨a1,fun a ha=>a2 a (by simp[ha]),fun a ha=>by
    rcases Wq.1 ha with rfl|ha
    ·exact a2 _ (by simp)
    ·exact a3 a (by simp[ha]),a4⟩
def Cl(σ : S):Prop := ∀ (l:Nat) (ob:Ob),σ[l]?=some ob -> ∀ m∈ob.locs,m < σ.length
theorem Cl.clo{σ : S}(h:Cl σ):Clo σ (· ∈ List.range σ.length):=fun l hl=>by
 have hl:l < σ.length:=by simpa using hl
 exact⟨σ[l],by simp[hl],fun m hm=>by simpa using h l _ (by simp[hl]) m hm⟩
theorem qj9{σ : S}(h:Cl σ){ls:List Nat}(hl : ∀ l∈ls,l < σ.length):(reach σ σ.length ls []).Nodup/\(∀ l∈ls,l∈reach σ σ.length ls [])/\(∀ l∈reach σ σ.length ls [],l < σ.length) /\ ∀ l∈reach σ σ.length ls [],∀ m∈lo σ l,m∈reach σ σ.length ls []:=by
 obtain⟨a1,a2,a3,a4⟩:=qgJ h.clo σ.length ls [] (fun l h'=>by simpa using hl l h') (fun l h'=>by cases h') List.nodup_nil (fun l h'=>by cases h') (by simp)
 exact⟨a1,a3,fun l hl'=>by simpa using qeU h.clo σ.length ls [] (fun l h'=>by simpa using hl l h') (fun l h'=>by cases h') l hl',a4⟩
def part(σ : S)(L:List Nat):S:=L.map fun l=>((σ[l]?).getD .dead).ren (idx L)
@[simp] theorem qfv(σ : S)(L:List Nat):(part σ L).length=L.length:=by simp[part]
theorem qnm{σ : S}{L:List Nat}{i l:Nat}{ob:Ob}(h:L[i]?=some l)(ho : σ[l]?=some ob):(part σ L)[i]?=some (ob.ren (idx L)):=by simp[part,h,ho]
theorem qr8{σ : S}{L:List Nat}{l:Nat}(h:l∈L)(hl:l < σ.length):(part σ L)[idx L l]?=(σ[l]?).map (Ob.ren (idx L)):=by
 rw[qnm (qbG h) (Wy hl),Wy hl]; rfl
theorem qnn{L:List Nat} : ∀ {ks:List Nat},(∀ k∈ks,k∈L)->inL L ks=true
 |[],_=>rfl
 |k::ks,h=>by
  simp only[inL,Wh,Yo,decide_eq_true_eq]
  exact⟨h k (by simp),qnn fun m hm=>h m (by simp[hm])⟩
theorem qlI{L:List Nat} : ∀ {obs:List Ob},(∀ ob∈obs,∀ l∈ob.locs,l∈L)->closed L obs=true
 |[],_=>rfl
 |o::obs,h=>by
  simp only[closed,Wh]
  exact⟨qnn (h o (by simp)),qlI fun m hm=>h m (by simp[hm])⟩
theorem qlJ{σ : S} : ∀ {L:List Nat},(∀ l∈L,l < σ.length)->qc9 σ L=some (L.map fun l=>(σ[l]?).getD .dead)
 |[],_=>rfl
 |l::L,h=>by
  have hl:=h l (by simp)
  have ih:=qlJ (σ := σ) (L:=L) fun m hm=>h m (WH _ hm)
  simp only[qc9,Wy hl,ih,Wi,Option.getD_some]
theorem qik{σ : S}{L:List Nat}{vs:List V}(hn:L.Nodup)(hc:Clo σ (· ∈ L))(hv : ∀ l∈qau vs,l∈L):qaO L vs σ = some (qbl (idx L) vs,part σ L):=by
 unfold qaO
 rw[qlJ fun l hl=>hc.lt hl]
 simp only
 rw[qlw hn,qnn hv,qlI (fun ob hob l hl=>?_)]
 ·simp only[Bool.and_self,if_true,part,List.map_map]
  rfl
 ·obtain⟨a,ha,rfl⟩:=Wm.1 hob
  obtain⟨o,h1,h2⟩:=hc a ha
  rw[h1] at hl
  exact h2 l hl
theorem qql{σ : S}(h:Cl σ){ls:List Nat}(hl : ∀ l∈ls,l < σ.length):Clo σ (· ∈ reach σ σ.length ls []):=fun l hm=>by
 obtain⟨_,_,a3,a4⟩:=qj9 h hl
 have:=a3 l hm
 refine⟨σ[l],by simp[this],fun m hm'=>a4 l hm m ?_⟩
 simp only[lo,Wy this]; exact hm'
theorem qqm{σ : S}{L:List Nat}(hc:Clo σ (· ∈ L)):Cl (part σ L):=fun i ob ho m hm=>by
 rw[qfv]
 have hi:i<L.length:=by have:=(Wb.1 ho).1; simpa using this
 have h1:L[i]?=some L[i]:=by simp[hi]
 obtain⟨o,h2,h3⟩:=hc L[i] (Yr hi)
 rw[qnm h1 h2] at ho
 cases ho
 rw[Ob.locs_map] at hm
 obtain⟨a,ha,rfl⟩:=Wm.1 hm
 have:=qbG (h3 a ha)
 exact (Wb.1 this).1
theorem quu{L:List Nat}{a b:Nat}(ha:a∈L)(hb:b∈L)(h:idx L a=idx L b):a=b:=by
 have h1:=qbG ha
 rw[h,qbG hb] at h1
 exact (Yz h1).symm
theorem qdp{L:List Nat}{n i l:Nat}(h:L[i]?=some l):back L n i=l:=by simp[back,h]
theorem qei{L:List Nat}{n i:Nat}(h:L.length<=i):back L n i=n+(i-L.length):=by
 unfold back
 rw[WX h]
theorem qno{L:List Nat}{n:Nat}(hn:L.Nodup)(hlt : ∀ l∈L,l<n){i j:Nat}(h:back L n i=back L n j):i=j:=by
 by_cases hi:i<L.length
 ·have e1:L[i]?=some L[i]:=by simp[hi]
  have b1:=qdp (n:=n) e1
  have l1:=hlt _ (Yr hi)
  by_cases hj:j<L.length
  ·have e2:L[j]?=some L[j]:=by simp[hj]
   have b2:=qdp (n:=n) e2
   rw[<- qbN hn e1,<- qbN hn e2,<- b1,<- b2,h]
  ·have b2:=qei (n:=n) (L:=L) (i:=j) (by omega)
   omega
 ·have b1:=qei (n:=n) (L:=L) (i:=i) (by omega)
  by_cases hj:j<L.length
  ·have e2:L[j]?=some L[j]:=by simp[hj]
   have b2:=qdp (n:=n) e2
   have l2:=hlt _ (Yr hj)
   omega
  ·have b2:=qei (n:=n) (L:=L) (i:=j) (by omega)
   omega
def after(σ : S)(L:List Nat)(τ : S):S:=qaF σ L (τ.map (Ob.ren (back L σ.length)))
theorem qjh {σ : S} {L:List Nat} {τ : S} (hn:L.Nodup) (hlt : ∀ l∈L,l < σ.length) (hle:L.length <= τ.length) :
  (after σ L τ).length = σ.length+(τ.length-L.length)/\(∀ i,i < τ.length->(after σ L τ)[back L σ.length i]?=(τ[i]?).map (Ob.ren (back L σ.length)))/\(∀ l,l < σ.length->l∉L->(after σ L τ)[l]? = σ[l]?):=by
 obtain⟨g1,g2,g3,g4⟩:=qcS (σ := σ) (obs := τ.map (Ob.ren (back L σ.length))) hn hlt (by simpa using hle)
 refine⟨by simpa [after] using g1,fun i hi=>?_,g3⟩
 by_cases hL:i<L.length
 ·have e:L[i]?=some L[i]:=by simp[hL]
  rw[qdp e,after,g2 i _ e,WZ]
 ·rw[qei (by omega),after,g4,WZ,show L.length+(i-L.length)=i by omega]
theorem qr9{σ : S}{L:List Nat}{τ : S}(hσ : Cl σ)(hτ : Cl τ)(hn:L.Nodup)(hlt : ∀ l∈L,l < σ.length)(hle:L.length <= τ.length):Cl (after σ L τ):=fun l ob ho m hm=>by
 obtain⟨g1,g2,g3⟩:=qjh hn hlt hle
 have hl:=(Wb.1 ho).1
 have key : ∀ i,i < τ.length->back L σ.length i=l->m<(after σ L τ).length:=fun i hi e=>by
  have:=g2 i hi
  rw[e,ho] at this
  obtain⟨o,h1,h2⟩:=Wc.1 this.symm
  rw[<- h2,Ob.locs_map] at hm
  obtain⟨a,ha,rfl⟩:=Wm.1 hm
  have ha:=hτ i o h1 a ha
  by_cases hL:a<L.length
  ·rw[qdp (l:=L[a]) (by simp[hL]),g1]
   have:=hlt _ (Yr hL)
   omega
  ·rw[qei (by omega),g1]; omega
 by_cases h:l < σ.length
 ·by_cases hL:l∈L
  ·have e:=qbG hL
   have:=(Wb.1 e).1
   exact key (idx L l) (by omega) (qdp e)
  ·rw[g3 l h hL] at ho
   have:=hσ l ob ho m hm
   omega
 ·exact key (L.length+(l - σ.length)) (by omega) (by rw[qei (by omega)]; omega)
end
section
mutual
inductive HV where
 |dat (d:D)
 |nd (w:V) (o:HO)
 |lf (w:V) (τ : S)
 |agg (hs:List HV)
 |fn (f:Nat) (a b:List HV)
inductive HO where
 |cells (hs:List HV)
 |vec (hs:List HV)
 |map (ks:List Value) (hs:List HV)
 |tip (n:Nat)
end
def at0(L:List Nat)(i:Nat):Nat:=L.getD i 0
mutual
def Has(σ : S):HV->V->List Nat->Prop
 |.dat d,v,L=>v = .dat d/\L=[]
 |.nd w o,v,L => ∃ l M,w.locs=[0]/\v=w.ren (fun _=>l)/\L=l::M/\qgH σ o l M
 |.lf w τ,v,L=>L.Nodup/\L.length = τ.length/\v=w.ren (at0 L)/\(∀ i ob,τ[i]?=some ob -> σ[at0 L i]?=some (ob.ren (at0 L)))/\Cl τ /\ (∀ l∈w.locs,l < τ.length)/\reach τ τ.length w.locs []=List.range τ.length
 |.agg hs,v,L => ∃ vs,v = .agg vs/\qgd σ hs vs L
 |.fn f a b,v,L => ∃ va vb La Lb,v = .fn f va vb/\L=La++Lb/\qgd σ a va La/\qgd σ b vb Lb
def qgH(σ : S):HO->Nat->List Nat->Prop
 |.cells hs,l,L => ∃ vs,σ[l]?=some (.cells vs)/\qgd σ hs vs L
 |.vec hs,l,L => ∃ vs,σ[l]?=some (.vec vs)/\qgd σ hs vs L
 |.map ks hs,l,L => ∃ vs,σ[l]?=some (.map (ks.zip vs))/\ks.length=vs.length/\qgd σ hs vs L
 |.tip n,l,L => σ[l]?=some (.tip n)/\L=[]
def qgd(σ : S):List HV->List V->List Nat->Prop
 |[],vs,L=>vs=[]/\L=[]
 |h::hs,vs,L => ∃ v vs' L1 L2,vs=v::vs'/\L=L1++L2/\Has σ h v L1/\qgd σ hs vs' L2
end
theorem qed{σ : S} : ∀ {hs:List HV} {vs:List V} {L:List Nat},qgd σ hs vs L->hs.length=vs.length
 |[],vs,L,h=>by simp only[qgd] at h; rw[h.1]; rfl
 |x::hs,vs,L,h=>by
  simp only[qgd] at h
  obtain⟨v,vs',L1,L2,rfl,_,_,h⟩:=h
  simp[qed h]
theorem qsU{L:List Nat}{i:Nat}(h:i<L.length):L[i]?=some (at0 L i):=by simp[at0,h]
theorem qj3{L:List Nat}{i:Nat}(h:i<L.length):at0 L i∈L:=Wv (qsU h)
theorem qj4{L:List Nat}{i:Nat}(r:Nat->Nat)(h:i<L.length):at0 (L.map r) i=r (at0 L i):=by simp[at0,h]
theorem qi8{L:List Nat}{l:Nat}(h:l∈L) : ∃ i,i<L.length/\at0 L i=l:=by
 have h1:=qbG h
 have h2:=(Wb.1 h1).1
 refine⟨idx L l,h2,?_⟩
 have:=qsU h2
 rw[h1] at this
 exact (Yz this).symm
mutual
theorem qlx{σ σ':S} : ∀ (h:HV) {v:V} {L:List Nat},Has σ h v L->(∀ l∈L,σ'[l]? = σ[l]?)->Has σ' h v L
 |.dat d,v,L,h,_=>h
 |.nd w o,v,L,h,hf=>by
  simp only[Has] at h ⊢
  obtain⟨l,M,h1,h2,rfl,h3⟩:=h
  exact⟨l,M,h1,h2,rfl,qoz o h3 (fun m hm=>hf m (by simpa using hm))⟩
 |.lf w τ,v,L,h,hf=>by
  simp only[Has] at h ⊢
  obtain⟨h1,h2,h3,h4,h5,h6,h7⟩:=h
  refine⟨h1,h2,h3,fun i ob ho=>?_,h5,h6,h7⟩
  rw[hf _ (qj3 (by rw[h2]; exact (Wb.1 ho).1))]
  exact h4 i ob ho
 |.agg hs,v,L,h,hf=>by
  simp only[Has] at h ⊢
  obtain⟨vs,h1,h2⟩:=h
  exact⟨vs,h1,qcq hs h2 hf⟩
 |.fn f a b,v,L,h,hf=>by
  simp only[Has] at h ⊢
  obtain⟨va,vb,La,Lb,h1,rfl,h2,h3⟩:=h
  exact⟨va,vb,La,Lb,h1,rfl,qcq a h2 fun l hl=>hf l (by simp[hl]),qcq b h3 fun l hl=>hf l (by simp[hl])⟩
theorem qoz{σ σ':S} : ∀ (o:HO) {l:Nat} {L:List Nat},qgH σ o l L->(∀ m,m=l\/m∈L -> σ'[m]? = σ[m]?)->qgH σ' o l L
 |.cells hs,l,L,h,hf=>by
  simp only[qgH] at h ⊢
  obtain⟨vs,h1,h2⟩:=h
  exact⟨vs,by rw[hf l (.inl rfl)]; exact h1,qcq hs h2 fun m hm=>hf m (.inr hm)⟩
 |.vec hs,l,L,h,hf=>by
  simp only[qgH] at h ⊢
  obtain⟨vs,h1,h2⟩:=h
  exact⟨vs,by rw[hf l (.inl rfl)]; exact h1,qcq hs h2 fun m hm=>hf m (.inr hm)⟩
 |.map ks hs,l,L,h,hf=>by
  simp only[qgH] at h ⊢
  obtain⟨vs,h1,h2,h3⟩:=h
  exact⟨vs,by rw[hf l (.inl rfl)]; exact h1,h2,qcq hs h3 fun m hm=>hf m (.inr hm)⟩
 |.tip n,l,L,h,hf=>by
  simp only[qgH] at h ⊢
  exact⟨by rw[hf l (.inl rfl)]; exact h.1,h.2⟩
theorem qcq{σ σ':S} : ∀ (hs:List HV) {vs:List V} {L:List Nat},qgd σ hs vs L->(∀ l∈L,σ'[l]? = σ[l]?)->qgd σ' hs vs L
 |[],vs,L,h,_=>h
 |x::hs,vs,L,h,hf=>by
  simp only[qgd] at h ⊢
  obtain⟨v,vs',L1,L2,h1,rfl,h2,h3⟩:=h
  exact⟨v,vs',L1,L2,h1,rfl,qlx x h2 fun l hl=>hf l (by simp[hl]),qcq hs h3 fun l hl=>hf l (by simp[hl])⟩
end
mutual
theorem qqc{σ σ':S}{r:Nat->Nat} : ∀ (h:HV) {v:V} {L:List Nat},Has σ h v L->(∀ a∈L,∀ b∈L,r a=r b->a=b)->(∀ l∈L,σ'[r l]?=(σ[l]?).map (Ob.ren r))->Has σ' h (v.ren r) (L.map r)
 |.dat d,v,L,h,_,_=>by
  simp only[Has] at h ⊢
  obtain⟨rfl,rfl⟩:=h
  exact⟨rfl,rfl⟩
 |.nd w o,v,L,h,hi,hf=>by
  simp only[Has] at h ⊢
  obtain⟨l,M,h1,rfl,rfl,h3⟩:=h
  exact⟨r l,M.map r,h1,V.ren_comp w,rfl,qrY o h3 (fun a ha b hb=>hi a (by simpa using ha) b (by simpa using hb)) (fun m hm=>hf m (by simpa using hm))⟩
 |.lf w τ,v,L,h,hi,hf=>by
  simp only[Has] at h ⊢
  obtain⟨h1,h2,rfl,h4,h5,h6,h7⟩:=h
  refine⟨?_,by simpa using h2,?_,fun i ob ho=>?_,h5,h6,h7⟩
  ·rw[List.Nodup,List.pairwise_map]
   exact List.Pairwise.imp_of_mem (fun {a b} ha hb (hab:a≠b) e=>hab (hi a ha b hb e)) h1
  ·rw[V.ren_comp]
   exact V.ren_congr w fun l hl=>(qj4 r (by rw[h2]; exact h6 l hl)).symm
  ·have hlt:=(Wb.1 ho).1
   have hm:at0 L i∈L:=qj3 (by omega)
   rw[qj4 r (by omega),hf _ hm,h4 i ob ho,WO,Ob.ren_comp]
   congr 1
   exact Ob.ren_congr ob fun l hl=>(qj4 r (by have:=h5 i ob ho l hl; omega)).symm
 |.agg hs,v,L,h,hi,hf=>by
  simp only[Has] at h ⊢
  obtain⟨vs,rfl,h2⟩:=h
  exact⟨qbl r vs,rfl,qee hs h2 hi hf⟩
 |.fn f a b,v,L,h,hi,hf=>by
  simp only[Has] at h ⊢
  obtain⟨va,vb,La,Lb,rfl,rfl,h2,h3⟩:=h
  exact⟨qbl r va,qbl r vb,La.map r,Lb.map r,rfl,by simp,qee a h2 (fun x hx y hy=>hi x (by simp[hx]) y (by simp[hy])) fun l hl=>hf l (by simp[hl]),qee b h3 (fun x hx y hy=>hi x (by simp[hx]) y (by simp[hy])) fun l hl=>hf l (by simp[hl])⟩
theorem qrY{σ σ':S}{r:Nat->Nat} : ∀ (o:HO) {l:Nat} {L:List Nat},qgH σ o l L->(∀ a,a=l\/a∈L -> ∀ b,b=l\/b∈L->r a=r b->a=b)->(∀ m,m=l\/m∈L -> σ'[r m]?=(σ[m]?).map (Ob.ren r))->qgH σ' o (r l) (L.map r)
 |.cells hs,l,L,h,hi,hf=>by
  simp only[qgH] at h ⊢
  obtain⟨vs,h1,h2⟩:=h
  exact⟨qbl r vs,by rw[hf l (.inl rfl),h1]; rfl,qee hs h2 (fun a ha b hb=>hi a (.inr ha) b (.inr hb)) fun m hm=>hf m (.inr hm)⟩
 |.vec hs,l,L,h,hi,hf=>by
  simp only[qgH] at h ⊢
  obtain⟨vs,h1,h2⟩:=h
  exact⟨qbl r vs,by rw[hf l (.inl rfl),h1]; rfl,qee hs h2 (fun a ha b hb=>hi a (.inr ha) b (.inr hb)) fun m hm=>hf m (.inr hm)⟩
 |.map ks hs,l,L,h,hi,hf=>by
  simp only[qgH] at h ⊢
  obtain⟨vs,h1,h2,h3⟩:=h
  refine⟨qbl r vs,?_,by rw[qbg]; exact h2,qee hs h3 (fun a ha b hb=>hi a (.inr ha) b (.inr hb)) fun m hm=>hf m (.inr hm)⟩
  rw[hf l (.inl rfl),h1,WO,Ob.ren]
  have : ∀ (ks:List Value) (vs:List V),qjW r (ks.zip vs)=ks.zip (qbl r vs):=fun ks=>by
   induction ks with
   |nil=>intro vs; rfl
   |cons k ks ih=>intro vs; cases vs with
    |nil=>rfl
    |cons v vs=>simp only[List.zip_cons_cons,qjW,qbl,ih vs]
  rw[this]
 |.tip n,l,L,h,hi,hf=>by
  simp only[qgH] at h ⊢
  obtain⟨h1,rfl⟩:=h
  exact⟨by rw[hf l (.inl rfl),h1]; rfl,rfl⟩
theorem qee{σ σ':S}{r:Nat->Nat} : ∀ (hs:List HV) {vs:List V} {L:List Nat},qgd σ hs vs L->(∀ a∈L,∀ b∈L,r a=r b->a=b)->(∀ l∈L,σ'[r l]?=(σ[l]?).map (Ob.ren r))->qgd σ' hs (qbl r vs) (L.map r)
 |[],vs,L,h,_,_=>by
  simp only[qgd] at h ⊢
  obtain⟨rfl,rfl⟩:=h
  exact⟨rfl,rfl⟩
 |x::hs,vs,L,h,hi,hf=>by
  simp only[qgd] at h ⊢
  obtain⟨v,vs',L1,L2,rfl,rfl,h2,h3⟩:=h
  exact⟨v.ren r,qbl r vs',L1.map r,L2.map r,rfl,by simp,qqc x h2 (fun a ha b hb=>hi a (by simp[ha]) b (by simp[hb])) fun l hl=>hf l (by simp[hl]),qee hs h3 (fun a ha b hb=>hi a (by simp[ha]) b (by simp[hb])) fun l hl=>hf l (by simp[hl])⟩
end
mutual
theorem qng{σ : S} : ∀ (h:HV) {v:V} {L:List Nat},Has σ h v L -> ∀ l∈v.locs,l∈L
 |.dat d,v,L,h,l,hl=>by simp only[Has] at h; rw[h.1] at hl; cases hl
 |.nd w o,v,L,h,l,hl=>by
  simp only[Has] at h
  obtain⟨m,M,h1,rfl,rfl,h3⟩:=h
  rw[V.locs_map,h1] at hl
  simp at hl; simp[hl]
 |.lf w τ,v,L,h,l,hl=>by
  simp only[Has] at h
  obtain⟨h1,h2,rfl,h4,h5,h6,h7⟩:=h
  rw[V.locs_map] at hl
  obtain⟨a,ha,rfl⟩:=Wm.1 hl
  exact qj3 (by rw[h2]; exact h6 a ha)
 |.agg hs,v,L,h,l,hl=>by
  simp only[Has] at h
  obtain⟨vs,rfl,h2⟩:=h
  exact qdb hs h2 l (by simpa only [V.locs] using hl)
 |.fn f a b,v,L,h,l,hl=>by
  simp only[Has] at h
  obtain⟨va,vb,La,Lb,rfl,rfl,h2,h3⟩:=h
  simp only[V.locs,We] at hl ⊢
  exact hl.imp (qdb a h2 l) (qdb b h3 l)
theorem qdb{σ : S} : ∀ (hs:List HV) {vs:List V} {L:List Nat},qgd σ hs vs L -> ∀ l∈qau vs,l∈L
 |[],vs,L,h,l,hl=>by simp only[qgd] at h; rw[h.1] at hl; cases hl
 |x::hs,vs,L,h,l,hl=>by
  simp only[qgd] at h
  obtain⟨v,vs',L1,L2,rfl,rfl,h2,h3⟩:=h
  simp only[qau,We] at hl ⊢
  exact hl.imp (qng x h2 l) (qdb hs h3 l)
end
theorem qly : ∀ (ks:List Value) (vs:List V),∀ l∈qc7 (ks.zip vs),l∈qau vs
 |[],_,l,hl=>by simp[qc7] at hl
 |_::_,[],l,hl=>by simp[qc7] at hl
 |k::ks,v::vs,l,hl=>by
  simp only[List.zip_cons_cons,qc7,qau,We] at hl ⊢
  exact hl.imp id (qly ks vs l)
theorem qi9 : ∀ (ks:List Value) (vs:List V),ks.length=vs.length->qc7 (ks.zip vs)=qau vs
 |[],[],_=>rfl
 |[],_::_,h=>by simp at h
 |_::_,[],h=>by simp at h
 |k::ks,v::vs,h=>by
  simp only[List.zip_cons_cons,qc7,qau,qi9 ks vs (by simpa using h)]
mutual
theorem qqd{σ : S} : ∀ (h:HV) {v:V} {L:List Nat},Has σ h v L->Clo σ (· ∈ L)
 |.dat d,v,L,h,l,hl=>by simp only[Has] at h; rw[h.2] at hl; cases hl
 |.nd w o,v,L,h,l,hl=>by
  simp only[Has] at h
  obtain⟨m,M,h1,rfl,rfl,h3⟩:=h
  obtain⟨ob,g1,g2,g3⟩:=qnh o h3
  rcases Wq.1 hl with rfl|hl
  ·exact⟨ob,g1,fun a ha=>by simp[g2 a ha]⟩
  ·obtain⟨ob',k1,k2⟩:=g3 l hl
   exact⟨ob',k1,fun a ha=>by simp[k2 a ha]⟩
 |.lf w τ,v,L,h,l,hl=>by
  simp only[Has] at h
  obtain⟨h1,h2,rfl,h4,h5,h6,h7⟩:=h
  obtain⟨i,hi,rfl⟩:=qi8 hl
  have e : τ[i]?=some τ[i]:=by simp[show i < τ.length by omega]
  refine⟨_,h4 i _ e,fun a ha=>?_⟩
  rw[Ob.locs_map] at ha
  obtain⟨b,hb,rfl⟩:=Wm.1 ha
  exact qj3 (by have:=h5 i _ e b hb; omega)
 |.agg hs,v,L,h,l,hl=>by
  simp only[Has] at h
  obtain⟨vs,rfl,h2⟩:=h
  exact qef hs h2 l hl
 |.fn f a b,v,L,h,l,hl=>by
  simp only[Has] at h
  obtain⟨va,vb,La,Lb,rfl,rfl,h2,h3⟩:=h
  rcases We.1 hl with hl|hl
  ·obtain⟨ob,k1,k2⟩:=qef a h2 l hl
   exact⟨ob,k1,fun m hm=>by simp[k2 m hm]⟩
  ·obtain⟨ob,k1,k2⟩:=qef b h3 l hl
   exact⟨ob,k1,fun m hm=>by simp[k2 m hm]⟩
theorem qnh{σ : S} : ∀ (o:HO) {l:Nat} {L:List Nat},qgH σ o l L -> ∃ ob,σ[l]?=some ob/\(∀ m∈ob.locs,m∈L)/\Clo σ (· ∈ L)
 |.cells hs,l,L,h=>by
  simp only[qgH] at h
  obtain⟨vs,h1,h2⟩:=h
  exact⟨_,h1,qdb hs h2,qef hs h2⟩
 |.vec hs,l,L,h=>by
  simp only[qgH] at h
  obtain⟨vs,h1,h2⟩:=h
  exact⟨_,h1,qdb hs h2,qef hs h2⟩
 |.map ks hs,l,L,h=>by
  simp only[qgH] at h
  obtain⟨vs,h1,h2,h3⟩:=h
  exact⟨_,h1,fun m hm=>qdb hs h3 m (qly ks vs m hm),qef hs h3⟩
 |.tip n,l,L,h=>by
  simp only[qgH] at h
  obtain⟨h1,rfl⟩:=h
  exact⟨_,h1,fun m hm=>(by cases hm),fun m hm=>(by cases hm)⟩
theorem qef{σ : S} : ∀ (hs:List HV) {vs:List V} {L:List Nat},qgd σ hs vs L->Clo σ (· ∈ L)
 |[],vs,L,h,l,hl=>by simp only[qgd] at h; rw[h.2] at hl; cases hl
 |x::hs,vs,L,h,l,hl=>by
  simp only[qgd] at h
  obtain⟨v,vs',L1,L2,rfl,rfl,h2,h3⟩:=h
  rcases We.1 hl with hl|hl
  ·obtain⟨ob,k1,k2⟩:=qqd x h2 l hl
   exact⟨ob,k1,fun m hm=>by simp[k2 m hm]⟩
  ·obtain⟨ob,k1,k2⟩:=qef hs h3 l hl
   exact⟨ob,k1,fun m hm=>by simp[k2 m hm]⟩
end
def Up(σ : S)(U:Nat->Prop):Prop := ∀ l,U l -> ∀ m∈lo σ l,U m
mutual
theorem qsV{σ : S}{U:Nat->Prop}(hU:Up σ U) : ∀ (h:HV) {v:V} {L:List Nat},Has σ h v L->(∀ l∈v.locs,U l) -> ∀ l∈L,U l
 |.dat d,v,L,h,_,l,hl=>by simp only[Has] at h; rw[h.2] at hl; cases hl
 |.nd w o,v,L,h,hv,l,hl=>by
  simp only[Has] at h
  obtain⟨m,M,h1,rfl,rfl,h3⟩:=h
  have hm:U m:=hv m (by rw[V.locs_map,h1]; simp)
  rcases Wq.1 hl with rfl|hl
  ·exact hm
  ·exact qui hU o h3 hm l hl
 |.lf w τ,v,L,h,hv,l,hl=>by
  simp only[Has] at h
  obtain⟨h1,h2,rfl,h4,h5,h6,h7⟩:=h
  obtain⟨i,hi,rfl⟩:=qi8 hl
  have hc:Clo τ (fun i=>i < τ.length/\U (at0 L i)):=fun i ⟨hi,hu⟩=>by
   have e : τ[i]?=some τ[i]:=by simp[hi]
   refine⟨_,e,fun m hm=>⟨h5 i _ e m hm,hU _ hu _ ?_⟩⟩
   simp only[lo,h4 i _ e,Ob.locs_map]
   exact Wm.2 ⟨m,hm,rfl⟩
  have:=qeU hc τ.length w.locs [] (fun m hm=>⟨h6 m hm,hv _ (by rw[V.locs_map]; exact Wm.2 ⟨m,hm,rfl⟩)⟩) (fun m hm=>by cases hm) i (by rw[h7]; simpa using (by omega:i < τ.length))
  exact this.2
 |.agg hs,v,L,h,hv,l,hl=>by
  simp only[Has] at h
  obtain⟨vs,rfl,h2⟩:=h
  exact qfu hU hs h2 (by simpa only [V.locs] using hv) l hl
 |.fn f a b,v,L,h,hv,l,hl=>by
  simp only[Has] at h
  obtain⟨va,vb,La,Lb,rfl,rfl,h2,h3⟩:=h
  simp only[V.locs,We] at hv
  rcases We.1 hl with hl|hl
  ·exact qfu hU a h2 (fun m hm=>hv m (.inl hm)) l hl
  ·exact qfu hU b h3 (fun m hm=>hv m (.inr hm)) l hl
theorem qui{σ : S}{U:Nat->Prop}(hU:Up σ U) : ∀ (o:HO) {l:Nat} {L:List Nat},qgH σ o l L->U l -> ∀ m∈L,U m
 |.cells hs,l,L,h,hl,m,hm=>by
  simp only[qgH] at h
  obtain⟨vs,h1,h2⟩:=h
  exact qfu hU hs h2 (fun a ha=>hU l hl a (by simp only[lo,h1]; exact ha)) m hm
 |.vec hs,l,L,h,hl,m,hm=>by
  simp only[qgH] at h
  obtain⟨vs,h1,h2⟩:=h
  exact qfu hU hs h2 (fun a ha=>hU l hl a (by simp only[lo,h1]; exact ha)) m hm
 |.map ks hs,l,L,h,hl,m,hm=>by
  simp only[qgH] at h
  obtain⟨vs,h1,h2,h3⟩:=h
  exact qfu hU hs h3 (fun a ha=>hU l hl a (by simp only[lo,h1,Ob.locs,qi9 ks vs h2]; exact ha)) m hm
 |.tip n,l,L,h,hl,m,hm=>by simp only[qgH] at h; rw[h.2] at hm; cases hm
theorem qfu{σ : S}{U:Nat->Prop}(hU:Up σ U) : ∀ (hs:List HV) {vs:List V} {L:List Nat},qgd σ hs vs L->(∀ l∈qau vs,U l) -> ∀ l∈L,U l
 |[],vs,L,h,_,l,hl=>by simp only[qgd] at h; rw[h.2] at hl; cases hl
 |x::hs,vs,L,h,hv,l,hl=>by
  simp only[qgd] at h
  obtain⟨v,vs',L1,L2,rfl,rfl,h2,h3⟩:=h
  simp only[qau,We] at hv
  rcases We.1 hl with hl|hl
  ·exact qsV hU x h2 (fun m hm=>hv m (.inl hm)) l hl
  ·exact qfu hU hs h3 (fun m hm=>hv m (.inr hm)) l hl
end
end
section
def qfC(σ : S):List (HV × V)->List Nat->Prop
 |[],L=>L=[]
 |p::ps,L => ∃ L1 L2,L=L1++L2/\Has σ p.1 p.2 L1/\qfC σ ps L2
theorem qdB{σ σ':S} : ∀ {ps:List (HV × V)} {L:List Nat},qfC σ ps L->(∀ l∈L,σ'[l]? = σ[l]?)->qfC σ' ps L
 |[],L,h,_=>h
 |p::ps,L,h,hf=>by
  simp only[qfC] at h ⊢
  obtain⟨L1,L2,rfl,h2,h3⟩:=h
  exact⟨L1,L2,rfl,qlx p.1 h2 fun l hl=>hf l (by simp[hl]),qdB h3 fun l hl=>hf l (by simp[hl])⟩
def qtb(r:Nat->Nat)(ps:List (HV × V)):List (HV × V):=ps.map fun p=>(p.1,p.2.ren r)
theorem qjA{σ σ':S}{r:Nat->Nat} : ∀ {ps:List (HV × V)} {L:List Nat},qfC σ ps L->(∀ a∈L,∀ b∈L,r a=r b->a=b)->(∀ l∈L,σ'[r l]?=(σ[l]?).map (Ob.ren r))->qfC σ' (qtb r ps) (L.map r)
 |[],L,h,_,_=>by simp only[qfC] at h; subst h; rfl
 |p::ps,L,h,hi,hf=>by
  simp only[qfC,qtb,Wi] at h ⊢
  obtain⟨L1,L2,rfl,h2,h3⟩:=h
  exact⟨L1.map r,L2.map r,by simp,qqc p.1 h2 (fun a ha b hb=>hi a (by simp[ha]) b (by simp[hb])) fun l hl=>hf l (by simp[hl]),qjA h3 (fun a ha b hb=>hi a (by simp[ha]) b (by simp[hb])) fun l hl=>hf l (by simp[hl])⟩
theorem qho{σ : S} : ∀ {ps:List (HV × V)} {L:List Nat},qfC σ ps L -> ∀ p∈ps,∀ l∈p.2.locs,l∈L
 |[],L,h,p,hp,_,_=>by cases hp
 |q::ps,L,h,p,hp,l,hl=>by
  simp only[qfC] at h
  obtain⟨L1,L2,rfl,h2,h3⟩:=h
  rcases Wq.1 hp with rfl|hp
  ·simp[qng _ h2 l hl]
  ·simp[qho h3 p hp l hl]
theorem qbK{σ : S} : ∀ {ps:List (HV × V)} {L:List Nat},qfC σ ps L->Clo σ (· ∈ L)
 |[],L,h,l,hl=>by simp only[qfC] at h; rw[h] at hl; cases hl
 |q::ps,L,h,l,hl=>by
  simp only[qfC] at h
  obtain⟨L1,L2,rfl,h2,h3⟩:=h
  rcases We.1 hl with hl|hl
  ·obtain⟨ob,k1,k2⟩:=qqd q.1 h2 l hl
   exact⟨ob,k1,fun m hm=>by simp[k2 m hm]⟩
  ·obtain⟨ob,k1,k2⟩:=qbK h3 l hl
   exact⟨ob,k1,fun m hm=>by simp[k2 m hm]⟩
theorem qoY{σ : S}{U:Nat->Prop}(hU:Up σ U) : ∀ {ps:List (HV × V)} {L:List Nat},qfC σ ps L->(∀ p∈ps,∀ l∈p.2.locs,U l) -> ∀ l∈L,U l
 |[],L,h,_,l,hl=>by simp only[qfC] at h; rw[h] at hl; cases hl
 |q::ps,L,h,hv,l,hl=>by
  simp only[qfC] at h
  obtain⟨L1,L2,rfl,h2,h3⟩:=h
  rcases We.1 hl with hl|hl
  ·exact qsV hU q.1 h2 (hv q (by simp)) l hl
  ·exact qoY hU h3 (fun p hp=>hv p (by simp[hp])) l hl
theorem hasP_append{σ : S} : ∀ {ps qs:List (HV × V)} {L:List Nat},qfC σ (ps++qs) L ↔ ∃ L1 L2,L=L1++L2/\qfC σ ps L1/\qfC σ qs L2
 |[],qs,L=>by
  simp only[Wk,qfC]
  exact⟨fun h=>⟨[],L,rfl,rfl,h⟩,fun ⟨L1,L2,h1,h2,h3⟩=>by subst h2; subst h1; exact h3⟩
 |p::ps,qs,L=>by
  simp only[Wu,qfC,hasP_append (ps:=ps)]
  constructor
  ·rintro ⟨L1,L2,rfl,h2,M1,M2,rfl,h3,h4⟩
   exact⟨L1++M1,M2,by simp,⟨L1,M1,rfl,h2,h3⟩,h4⟩
  ·rintro ⟨L1,L2,rfl,⟨M1,M2,rfl,h2,h3⟩,h4⟩
   exact⟨M1,M2++L2,by simp,h2,M2,L2,rfl,h3,h4⟩
theorem qdj{σ : S} : ∀ {hs:List HV} {vs:List V} {L:List Nat},hs.length=vs.length->(qfC σ (hs.zip vs) L↔qgd σ hs vs L)
 |[],[],L,_=>by simp[qfC,qgd]
 |[],_::_,_,h=>by simp at h
 |_::_,[],_,h=>by simp at h
 |h::hs,v::vs,L,e=>by
  simp only[List.zip_cons_cons,qfC,qgd,qdj (hs:=hs) (vs:=vs) (by simpa using e)]
  constructor
  ·rintro ⟨L1,L2,rfl,h2,h3⟩
   exact⟨v,vs,L1,L2,rfl,rfl,h2,h3⟩
  ·rintro ⟨v',vs',L1,L2,he,rfl,h2,h3⟩
   cases he
   exact⟨L1,L2,rfl,h2,h3⟩
theorem qoZ{σ : S}{ps qs:List (HV × V)}(h:ps.Perm qs) : ∀ {L:List Nat},qfC σ ps L -> ∃ L',qfC σ qs L'/\L.Perm L':=by
 induction h with
 |nil=>exact fun {L} h=>⟨L,h,.refl _⟩
 |cons x _ ih=>
  rintro L ⟨L1,L2,rfl,h2,h3⟩
  obtain⟨L',h4,h5⟩:=ih h3
  exact⟨L1++L',⟨L1,L',rfl,h2,h4⟩,h5.append_left L1⟩
 |swap x y l=>
  rintro L ⟨L1,L2,rfl,h2,L3,L4,rfl,h3,h4⟩
  refine⟨L3++(L1++L4),⟨L3,_,rfl,h3,L1,L4,rfl,h2,h4⟩,?_⟩
  rw[<- List.append_assoc,<- List.append_assoc]
  exact List.perm_append_comm.append_right L4
 |trans _ _ ih1 ih2=>
  intro L h
  obtain⟨L1,h1,p1⟩:=ih1 h
  obtain⟨L2,h2,p2⟩:=ih2 h1
  exact⟨L2,h2,p1.trans p2⟩
def Own(σ : S)(os:List Nat)(ps:List (HV × V)):Prop := ∃ L,qfC σ ps L/\(os++L).Nodup /\ ∀ l∈os,l < σ.length
section
variable{σ σ':S}{os:List Nat}{ps qs:List (HV × V)}{p:HV × V}{l:Nat}
theorem qcd(h:Own σ os ps)(e:ps.Perm qs):Own σ os qs:=by
 obtain⟨L,h1,h2,h3⟩:=h
 obtain⟨L',h4,h5⟩:=qoZ e h1
 exact⟨L',h4,(h5.append_left os).nodup_iff.1 h2,h3⟩
theorem qsB(h:Own σ os ps){os':List Nat}(e:os.Perm os'):Own σ os' ps:=by
 obtain⟨L,h1,h2,h3⟩:=h
 exact⟨L,h1,(e.append_right L).nodup_iff.1 h2,fun l hl=>h3 l (e.mem_iff.2 hl)⟩
theorem qkt(h:Own σ os ps)(hle : σ.length <= σ'.length)(hf : ∀ l,l∉os->l < σ.length -> σ'[l]? = σ[l]?):Own σ' os ps:=by
 obtain⟨L,h1,h2,h3⟩:=h
 exact⟨L,qdB h1 fun l hl=>hf l (fun ho=>(List.nodup_append.1 h2).2.2 l ho l hl rfl) ((qbK h1).lt hl),h2,fun l hl=>by have:=h3 l hl; omega⟩
theorem qbi(h:Own σ os ps)(hl:l∈os)(ob:Ob):Own (σ.set l ob) os ps:=
 qkt h (by simp) fun m hm _=>Wj fun e=>hm (by rw[<- e]; exact hl)
theorem qtc(h:Own σ os ps)(τ : S):Own (σ ++ τ) os ps:=
 qkt h (by simp) fun m _ hm=>Wo hm
theorem qtd(h:Own σ os ps)(ob:Ob):Own (σ ++ [ob]) (σ.length::os) ps:=by
 obtain⟨L,h1,h2,h3⟩:=qtc h [ob]
 obtain⟨M,g1,g2,g3⟩:=h
 refine⟨M,qdB g1 fun l hl=>Wo ((qbK g1).lt hl),?_,fun l hl=>?_⟩
 ·rw[Wu,W0]
  refine⟨fun hm=>?_,g2⟩
  rcases We.1 hm with hm|hm
  ·have:=g3 _ hm; omega
  ·have:=(qbK g1).lt hm; omega
 ·rcases Wq.1 hl with rfl|hl
  ·simp
  ·have:=g3 l hl; simp; omega
theorem qd1(h:Own σ os (p::ps)):Own σ os ps:=by
 obtain⟨L,⟨L1,L2,rfl,h2,h3⟩,h4,h5⟩:=h
 refine⟨L2,h3,?_,h5⟩
 obtain⟨a1,a2,a3⟩:=List.nodup_append.1 h4
 obtain⟨b1,b2,b3⟩:=List.nodup_append.1 a2
 exact List.nodup_append.2 ⟨a1,b2,fun a ha b hb=>a3 a ha b (by simp[hb])⟩
theorem qfD(h:Own σ (l::os) ps):Own σ os ps:=by
 obtain⟨L,h1,h2,h3⟩:=h
 exact⟨L,h1,(W0.1 h2).2,fun m hm=>h3 m (by simp[hm])⟩
theorem qgq(h:Own σ os ps)(d:D):Own σ os ((.dat d,.dat d)::ps):=by
 obtain⟨L,h1,h2,h3⟩:=h
 exact⟨L,⟨[],L,rfl,⟨rfl,rfl⟩,h1⟩,h2,h3⟩
theorem qfn{d:D}{v:V}(h:Own σ os ((.dat d,v)::ps)):v = .dat d/\Own σ os ps:=by
 refine⟨?_,qd1 h⟩
 obtain⟨L,⟨L1,L2,rfl,h2,h3⟩,h4,h5⟩:=h
 exact h2.1
theorem qo0(h:Own σ os ps) : ∀ p∈ps,∀ l∈p.2.locs,l < σ.length:=fun p hp l hl=>by
 obtain⟨L,h1,h2,h3⟩:=h
 exact (qbK h1).lt (qho h1 p hp l hl)
theorem qo1(h:Own σ os ps) : ∀ l∈os,l < σ.length:=fun l hl=>by
 obtain⟨L,h1,h2,h3⟩:=h
 exact h3 l hl
theorem qbS(h:Own σ os ps):os.Nodup:=by
 obtain⟨L,h1,h2,h3⟩:=h
 exact (List.nodup_append.1 h2).1
theorem qku{w v:V}{o:HO}(h:Own σ os ((.nd w o,v)::ps)) : ∃ l M,w.locs=[0]/\v=w.ren (fun _=>l)/\l < σ.length/\qgH σ o l M /\ ∃ L,qfC σ ps L/\((l::os)++(M++L)).Nodup /\ ∀ m∈l::os,m < σ.length:=by
 obtain⟨L,⟨L1,L2,rfl,h2,h3⟩,h4,h5⟩:=h
 simp only[Has] at h2
 obtain⟨l,M,g1,g2,rfl,g3⟩:=h2
 obtain⟨ob,k1,_,_⟩:=qnh o g3
 have hl:=(Wb.1 k1).1
 refine⟨l,M,g1,g2,hl,g3,L2,h3,?_,fun m hm=>?_⟩
 ·have:(os++(l::M++L2)).Perm ((l::os)++(M++L2)):=by
   rw[Wu,Wu]
   exact List.perm_middle
  exact this.nodup_iff.1 h4
 ·rcases Wq.1 hm with rfl|hm
  ·exact hl
  ·exact h5 m hm
theorem qgr{w:V}{o:HO}{M L:List Nat}(hw:w.locs=[0])(ho:qgH σ o l M)(hp:qfC σ ps L)(hn:((l::os)++(M++L)).Nodup)(hlt : ∀ m∈l::os,m < σ.length):Own σ os ((.nd w o,w.ren (fun _=>l))::ps):=by
 refine⟨l::M++L,⟨l::M,L,rfl,?_,hp⟩,?_,fun m hm=>hlt m (by simp[hm])⟩
 ·simp only[Has]
  exact⟨l,M,hw,rfl,rfl,ho⟩
 ·have:(os++(l::M++L)).Perm ((l::os)++(M++L)):=by
   rw[Wu,Wu]
   exact List.perm_middle
  exact this.nodup_iff.2 hn
theorem qhc{w v:V}{hs:List HV}(h:Own σ os ((.nd w (.cells hs),v)::ps)) : ∃ l vs,v=w.ren (fun _=>l) /\ σ[l]?=some (.cells vs)/\hs.length=vs.length/\Own σ (l::os) (hs.zip vs++ps):=by
 obtain⟨l,M,h1,h2,h3,h4,L,h5,h6,h7⟩:=qku h
 simp only[qgH] at h4
 obtain⟨vs,g1,g2⟩:=h4
 exact⟨l,vs,h2,g1,qed g2,M++L,hasP_append.2 ⟨M,L,rfl,(qdj (qed g2)).2 g2,h5⟩,h6,h7⟩
theorem qc2{w:V}{hs:List HV}{vs:List V}(h:Own σ (l::os) (hs.zip vs++ps))(hw:w.locs=[0])(hl:hs.length=vs.length)(ho : σ[l]?=some (.cells vs)):Own σ os ((.nd w (.cells hs),w.ren (fun _=>l))::ps):=by
 obtain⟨L,h1,h2,h3⟩:=h
 obtain⟨M,L,rfl,h4,h5⟩:=hasP_append.1 h1
 exact qgr hw ⟨vs,ho,(qdj hl).1 h4⟩ h5 h2 h3
theorem qdC{w v:V}{hs:List HV}(h:Own σ os ((.nd w (.vec hs),v)::ps)) : ∃ l vs,v=w.ren (fun _=>l) /\ σ[l]?=some (.vec vs)/\hs.length=vs.length/\Own σ (l::os) (hs.zip vs++ps):=by
 obtain⟨l,M,h1,h2,h3,h4,L,h5,h6,h7⟩:=qku h
 simp only[qgH] at h4
 obtain⟨vs,g1,g2⟩:=h4
 exact⟨l,vs,h2,g1,qed g2,M++L,hasP_append.2 ⟨M,L,rfl,(qdj (qed g2)).2 g2,h5⟩,h6,h7⟩
theorem qcm{w:V}{hs:List HV}{vs:List V}(h:Own σ (l::os) (hs.zip vs++ps))(hw:w.locs=[0])(hl:hs.length=vs.length)(ho : σ[l]?=some (.vec vs)):Own σ os ((.nd w (.vec hs),w.ren (fun _=>l))::ps):=by
 obtain⟨L,h1,h2,h3⟩:=h
 obtain⟨M,L,rfl,h4,h5⟩:=hasP_append.1 h1
 exact qgr hw ⟨vs,ho,(qdj hl).1 h4⟩ h5 h2 h3
theorem qnT{w:V}{ks:List Value}{hs:List HV}{vs:List V}(h:Own σ (l::os) (hs.zip vs++ps))(hw:w.locs=[0])(hk:ks.length=vs.length)(hl:hs.length=vs.length)(ho : σ[l]?=some (.map (ks.zip vs))):Own σ os ((.nd w (.map ks hs),w.ren (fun _=>l))::ps):=by
 obtain⟨L,h1,h2,h3⟩:=h
 obtain⟨M,L,rfl,h4,h5⟩:=hasP_append.1 h1
 exact qgr hw ⟨vs,ho,hk,(qdj hl).1 h4⟩ h5 h2 h3
theorem qte{hs:List HV}{v:V}(h:Own σ os ((.agg hs,v)::ps)) : ∃ vs,v = .agg vs/\hs.length=vs.length/\Own σ os (hs.zip vs++ps):=by
 obtain⟨L,⟨L1,L2,rfl,h2,h3⟩,h4,h5⟩:=h
 simp only[Has] at h2
 obtain⟨vs,g1,g2⟩:=h2
 exact⟨vs,g1,qed g2,L1++L2,hasP_append.2 ⟨L1,L2,rfl,(qdj (qed g2)).2 g2,h3⟩,h4,h5⟩
theorem qo2{hs:List HV}{vs:List V}(h:Own σ os (hs.zip vs++ps))(hl:hs.length=vs.length):Own σ os ((.agg hs,.agg vs)::ps):=by
 obtain⟨L,h1,h4,h5⟩:=h
 obtain⟨L1,L2,rfl,h2,h3⟩:=hasP_append.1 h1
 exact⟨L1++L2,⟨L1,L2,rfl,⟨vs,rfl,(qdj hl).1 h2⟩,h3⟩,h4,h5⟩
end
theorem qfE{L:List Nat}{r:Nat->Nat}(hn:L.Nodup)(hi : ∀ a∈L,∀ b∈L,r a=r b->a=b):(L.map r).Nodup:=by
 rw[List.Nodup,List.pairwise_map]
 exact List.Pairwise.imp_of_mem (fun {a b} ha hb (hab:a≠b) e=>hab (hi a ha b hb e)) hn
theorem qmX{σ : S}{ps qs:List (HV × V)}{os:List Nat}(hσ : Cl σ)(ho:Own σ os (ps++qs)){R:List Nat}(hn:R.Nodup)(hc:Clo σ (· ∈ R))(hv : ∀ p∈ps,∀ l∈p.2.locs,l∈R):Own (part σ R) [] (qtb (idx R) ps):=by
 obtain⟨L,h1,h2,h3⟩:=ho
 obtain⟨L1,L2,rfl,h4,h5⟩:=hasP_append.1 h1
 have hU:Up σ (· ∈ R):=fun l hl m hm=>hc.lo hl hm
 have hsub:=qoY hU h4 hv
 have hi : ∀ a∈L1,∀ b∈L1,idx R a=idx R b->a=b:=fun a ha b hb e=>quu (hsub a ha) (hsub b hb) e
 refine⟨L1.map (idx R),qjA h4 hi fun l hl=>qr8 (hsub l hl) ((qbK h4).lt hl),?_,by simp⟩
 have:=(List.nodup_append.1 (List.nodup_append.1 h2).2.1).1
 simpa using qfE this hi
def qsC(v:V):Prop := ∀ u,v ≠ .pan u
theorem qo3 {σ τ : S} {os:List Nat} {as ps qs:List (HV × V)} (hσ : Cl σ) (ho:Own σ os (as++ps)) {R:List Nat} (hR:R=reach σ σ.length (qau (as.map (·.2))) []) (hτ : Cl τ) (hle:R.length <= τ.length) (hq:Own τ [] qs) :
  Cl (after σ R τ) /\ σ.length<=(after σ R τ).length/\Own (after σ R τ) os (qtb (back R σ.length) qs++ps)/\(∀ l∈os,(after σ R τ)[l]? = σ[l]?) /\ ∀ p∈as,∀ l∈p.2.locs,back R σ.length (idx R l)=l:=by
 obtain⟨L,h1,h2,h3⟩:=ho
 obtain⟨L1,L2,rfl,h4,h5⟩:=hasP_append.1 h1
 have hmem : ∀ l∈qau (as.map (·.2)),∃ p∈as,l∈p.2.locs:=fun l hl=>by
  clear hR h1 h4 h2
  induction as with
  |nil=>cases hl
  |cons a as ih=>
   simp only[Wi,qau,We] at hl
   rcases hl with hl|hl
   ·exact⟨a,by simp,hl⟩
   ·obtain⟨p,hp,h⟩:=ih hl
    exact⟨p,by simp[hp],h⟩
 have hmem' : ∀ p∈as,∀ l∈p.2.locs,l∈qau (as.map (·.2)):=fun p hp l hl=>by
  clear hR h1 h4 h2 hmem
  induction as with
  |nil=>cases hp
  |cons a as ih=>
   simp only[Wi,qau,We]
   rcases Wq.1 hp with rfl|hp
   ·exact .inl hl
   ·exact .inr (ih hp)
 have hls : ∀ l∈qau (as.map (·.2)),l∈L1:=fun l hl=>by
  obtain⟨p,hp,h⟩:=hmem l hl
  exact qho h4 p hp l h
 have hlt : ∀ l∈qau (as.map (·.2)),l < σ.length:=fun l hl=>(qbK h4).lt (hls l hl)
 obtain⟨r1,r2,r3,r4⟩:=qj9 hσ hlt
 rw[<- hR] at r1 r2 r3 r4
 have hRL : ∀ l∈R,l∈L1:=fun l hl=>by
  rw[hR] at hl
  exact qeU (qbK h4) σ.length _ [] hls (fun m hm=>by cases hm) l hl
 obtain⟨g1,g2,g3⟩:=qjh (σ := σ) (τ := τ) r1 r3 hle
 obtain⟨M,q1,q2,q3⟩:=hq
 have hnd:=List.nodup_append.1 h2
 have hnd2:=List.nodup_append.1 hnd.2.1
 have hout : ∀ l∈os,(after σ R τ)[l]? = σ[l]?:=fun l hl=>g3 l (h3 l hl) fun hm=>hnd.2.2 l hl l (by simp[hRL l hm]) rfl
 refine⟨qr9 hσ hτ r1 r3 hle,by omega,⟨M.map (back R σ.length)++L2,hasP_append.2 ⟨_,L2,rfl,qjA q1 (fun a _ b _ e=>qno r1 r3 e) fun l hl=>g2 l ((qbK q1).lt hl),?_⟩,?_,fun l hl=>by have:=h3 l hl; omega⟩,hout,fun p hp l hl=>?_⟩
 ·exact qdB h5 fun l hl=>g3 l ((qbK h5).lt hl) fun hm=>hnd2.2.2 l (hRL l hm) l hl rfl
 ·have hM : ∀ l∈M.map (back R σ.length),l∈R \/ σ.length<=l:=fun l hl=>by
   obtain⟨i,_,rfl⟩:=Wm.1 hl
   by_cases hi:i<R.length
   ·left
    rw[qdp (l:=R[i]) (by simp[hi])]
    exact Yr hi
   ·right
    rw[qei (by omega)]; omega
  have hMn:(M.map (back R σ.length)).Nodup:=qfE (by simpa using q2) fun a _ b _ e=>qno r1 r3 e
  refine List.nodup_append.2 ⟨hnd.1,List.nodup_append.2 ⟨hMn,hnd2.2.1,fun a ha b hb e=>?_⟩,fun a ha b hb e=>?_⟩
  ·subst e
   rcases hM a ha with h|h
   ·exact hnd2.2.2 a (hRL a h) a hb rfl
   ·have:=(qbK h5).lt hb; omega
  ·subst e
   rcases We.1 hb with hb|hb
   ·rcases hM a hb with h|h
    ·exact hnd.2.2 a ha a (by simp[hRL a h]) rfl
    ·have:=h3 a ha; omega
   ·exact hnd.2.2 a ha a (by simp[hb]) rfl
 ·exact qdp (qbG (r2 l (hmem' p hp l hl)))
end
section
theorem qa1(ds:List D):qau (ds.map .dat)=[]:=by
 induction ds with
 |nil=>rfl
 |cons d ds ih=>simpa [qau,V.locs] using ih
theorem qqK(r:Nat->Nat)(ds:List D):qbl r (ds.map .dat)=ds.map .dat:=qhh r ds
theorem qnM {k:Nat} {ls:List Nat} {σ : S} (hσ : Cl σ) (hk:k <= σ.length) (hl : ∀ l∈ls,l < σ.length) :
  (gcL k ls σ).Nodup/\Clo σ (· ∈ gcL k ls σ)/\(∀ l∈ls,l∈gcL k ls σ)/\(∀ i,i<k->i∈gcL k ls σ)/\(∀ i,i<k->idx (gcL k ls σ) i=i)/\k<=(gcL k ls σ).length:=by
 have hlt : ∀ l∈List.range k++ls,l < σ.length:=fun l h=>by
  rcases We.1 h with h|h
  ·have:=List.mem_range.1 h; omega
  ·exact hl l h
 obtain⟨a1,a2,a3,a4⟩:=qj9 hσ hlt
 have hmem : ∀ l,l∈gcL k ls σ ↔ l∈reach σ σ.length (List.range k++ls) []:=fun l=>by
  unfold gcL
  simp only[We,List.mem_range,List.mem_filter,decide_eq_true_eq]
  constructor
  ·rintro (h|h)
   ·exact a2 l (by simp[h])
   ·exact h.1
  ·intro h
   by_cases hk:l<k
   ·exact .inl hk
   ·exact .inr ⟨h,by omega⟩
 have hn:(gcL k ls σ).Nodup:=by
  unfold gcL
  refine List.nodup_append.2 ⟨List.nodup_range,a1.filter _,fun a ha b hb e=>?_⟩
  subst e
  have:=List.mem_range.1 ha
  have:=(List.mem_filter.1 hb).2
  simp at this; omega
 have hget : ∀ i,i<k->(gcL k ls σ)[i]?=some i:=fun i hi=>by
  unfold gcL
  rw[Wo (by simpa using hi)]
  simp[hi]
 refine⟨hn,fun l hl=>?_,fun l h=>(hmem l).2 (a2 l (by simp[h])),fun i hi=>Wv (hget i hi),fun i hi=>qbN hn (hget i hi),?_⟩
 ·obtain⟨ob,k1,k2⟩:=qql hσ hlt l ((hmem l).1 hl)
  exact⟨ob,k1,fun m hm=>(hmem m).2 (k2 m hm)⟩
 ·unfold gcL; simp
theorem qfx {k:Nat} {fr:Fr} {σ : S} {ps:List (HV × V)} (hσ : Cl σ) (hk:k <= σ.length) (hf : ∀ l∈qaR fr,l < σ.length) (ho:Own σ [] ps) (hp : ∀ p∈ps,∀ l∈p.2.locs,l<k\/l∈qaR fr) :
  ∃ r σ',gcF k fr σ = some (qd8 r fr,σ')/\Cl σ'/\k <= σ'.length/\(∀ i,i<k->r i=i)/\Own σ' [] (qtb r ps):=by
 obtain⟨g1,g2,g3,g4,g5,g6⟩:=qnM hσ hk hf
 refine⟨idx (gcL k (qaR fr) σ),part σ (gcL k (qaR fr) σ),?_,qqm g2,by rw[qfv]; exact g6,g5,?_⟩
 ·have e:=qik (vs:=[]) g1 g2 (fun l h=>by simp[qau] at h)
  simp only[gcF,e,qnn g3,if_true]
 ·refine qmX (qs:=[]) hσ (by simpa using ho) g1 g2 fun p hp' l hl=>?_
  rcases hp p hp' l hl with h|h
  ·exact g4 l h
  ·exact g3 l h
theorem qio {k:Nat} {vs:List V} {σ : S} {ps:List (HV × V)} (hσ : Cl σ) (hk:k <= σ.length) (hf : ∀ l∈qau vs,l < σ.length) (ho:Own σ [] ps) (hp : ∀ p∈ps,∀ l∈p.2.locs,l<k\/l∈qau vs) :
  ∃ r σ',finishV k vs σ = some (.ret (one (qbl r vs)) σ')/\Cl σ'/\k <= σ'.length/\(∀ i,i<k->r i=i)/\Own σ' [] (qtb r ps):=by
 obtain⟨g1,g2,g3,g4,g5,g6⟩:=qnM hσ hk hf
 refine⟨idx (gcL k (qau vs) σ),part σ (gcL k (qau vs) σ),?_,qqm g2,by rw[qfv]; exact g6,g5,?_⟩
 ·unfold finishV
  rw[qik g1 g2 g3]
 ·refine qmX (qs:=[]) hσ (by simpa using ho) g1 g2 fun p hp' l hl=>?_
  rcases hp p hp' l hl with h|h
  ·exact g4 l h
  ·exact g3 l h
theorem qer{σ : S}{l:Nat}{ob:Ob}(h:Cl σ)(ho : ∀ m∈ob.locs,m < σ.length):Cl (σ.set l ob):=fun i o hi m hm=>by
 rw[List.length_set]
 rw[List.getElem?_set] at hi
 split at hi
 ·split at hi
  ·cases hi; exact ho m hm
  ·cases hi
 ·exact h i o hi m hm
theorem qjr{σ : S}{ob:Ob}(h:Cl σ)(ho : ∀ m∈ob.locs,m <= σ.length):Cl (σ ++ [ob]):=fun i o hi m hm=>by
 rw[Wt,Ye]
 by_cases hl:i < σ.length
 ·rw[Wo hl] at hi
  have:=h i o hi m hm; omega
 ·rw[WC (by omega)] at hi
  have:i - σ.length=0:=by have:=(Wb.1 hi).1; simp at this; omega
  rw[this] at hi
  simp at hi; subst hi
  have:=ho m hm; omega
end
section
def up_(n:Nat)(i:Nat):Nat:=n+i
def shift(n:Nat)(τ : S):S := τ.map (Ob.ren (up_ n))
@[simp] theorem qli(n:Nat)(τ : S):(shift n τ).length = τ.length:=by simp[shift]
theorem qjV(n:Nat):back [] n=up_ n:=by funext i; simp[back,up_]
theorem qcn {C:Task->Option Res} {mk:List V->S->Task} {ds:List D} {σ τ : S} {v:V} (h:C (mk (ds.map .dat) [])=some (.ret v τ)) (hv:qsC v) :
  qaE C mk (ds.map .dat) σ = some (v.ren (up_ σ.length),σ ++ shift σ.length τ):=by
 have e:reach σ σ.length [] []=[]:=qeM _ _ _
 simp only[qaE,qa1,e,qaO,qc9,qeN,inL,closed,Bool.and_self,if_true,qqK,Wr,h,qjV]
 have e2 : ∀ obs:S,qaF σ [] obs = σ ++ obs:=fun obs=>by cases obs<;>rfl
 cases v with
 |pan u=>exact absurd rfl (hv u)
 |_=>simp only[e2,shift]
theorem qrF{σ τ : S}(h:Cl σ)(hτ : Cl τ):Cl (σ ++ shift σ.length τ):=fun i o hi m hm=>by
 rw[Wt,qli]
 by_cases hl:i < σ.length
 ·rw[Wo hl] at hi
  have:=h i o hi m hm; omega
 ·rw[WC (by omega),shift,WZ] at hi
  obtain⟨ob,h1,h2⟩:=Wc.1 hi
  rw[<- h2,Ob.locs_map] at hm
  obtain⟨a,ha,rfl⟩:=Wm.1 hm
  have:=hτ _ ob h1 a ha
  simp only[up_]; omega
structure Canon(w:V)(τ : S):Prop where
 cl:Cl τ
 lt : ∀ l∈w.locs,l < τ.length
 rc:reach τ τ.length w.locs []=List.range τ.length
theorem qpJ{σ τ : S}{w:V}{os:List Nat}{ps:List (HV × V)}(h:Own σ os ps)(hc:Canon w τ):Own (σ ++ shift σ.length τ) os ((.lf w τ,w.ren (up_ σ.length))::ps):=by
 obtain⟨L,h1,h2,h3⟩:=h
 have ha : ∀ i,i < τ.length->at0 ((List.range τ.length).map (up_ σ.length)) i=up_ σ.length i:=fun i hi=>by
  rw[qj4 _ (by simpa using hi)]; simp[at0,hi]
 refine⟨(List.range τ.length).map (up_ σ.length)++L,⟨_,L,rfl,?_,qdB h1 fun l hl=>Wo ((qbK h1).lt hl)⟩,?_,fun l hl=>by have:=h3 l hl; simp; omega⟩
 ·simp only[Has]
  refine⟨qfE List.nodup_range fun a _ b _ e=>by simp only[up_] at e; omega,by simp,?_,fun i ob ho=>?_,hc.cl,hc.lt,hc.rc⟩
  ·exact V.ren_congr w fun l hl=>(ha l (hc.lt l hl)).symm
  ·have hi:=(Wb.1 ho).1
   rw[ha i hi,WC (by simp only[up_]; omega),show up_ σ.length i - σ.length=i by simp only[up_]; omega,shift,WZ,ho,WO]
   congr 1
   exact Ob.ren_congr ob fun l hl=>(ha l (hc.cl i ob ho l hl)).symm
 ·have hge : ∀ l∈(List.range τ.length).map (up_ σ.length),σ.length<=l:=fun l hl=>by
   obtain⟨i,_,rfl⟩:=Wm.1 hl
   simp only[up_]; omega
  obtain⟨a1,a2,a3⟩:=List.nodup_append.1 h2
  refine List.nodup_append.2 ⟨a1,List.nodup_append.2 ⟨qfE List.nodup_range fun a _ b _ e=>by simp only[up_] at e; omega,a2,fun a ha b hb e=>?_⟩,fun a ha b hb e=>?_⟩
  ·subst e
   have:=hge a ha
   have:=(qbK h1).lt hb
   omega
  ·subst e
   rcases We.1 hb with hb|hb
   ·have:=hge a hb
    have:=h3 a ha
    omega
   ·exact a3 a ha a hb rfl
theorem qbj{σ : S}{l:Nat}{ob:Ob}(h : σ[l]?=some ob)(τ : S):(σ ++ τ)[l]?=some ob:=by
 rw[Wo (Wb.1 h).1]; exact h
theorem qd7{σ : S}{l m:Nat}{ob:Ob}(hne:l≠m)(ob':Ob)(h : σ[m]?=some ob):(σ.set l ob')[m]?=some ob:=by
 rw[Wj hne]; exact h
theorem qaN{σ : S}{l:Nat}(h:l < σ.length)(ob:Ob):(σ.set l ob)[l]?=some ob:=by simp[h]
theorem qf5(σ : S)(ob:Ob):(σ ++ [ob])[σ.length]?=some ob:=by simp
theorem qgF{σ : S}{os:List Nat}{ps:List (HV × V)}(h:Own σ os ps)(ob:Ob):Own (σ ++ [ob]) (σ.length::os) ps:=qtd h ob
end
section
theorem qcU : ∀ (a b:List V),qau (a++b)=qau a++qau b:=fun a b=>by
 induction a with
 |nil=>rfl
 |cons x a ih=>simp[qau,ih]
def qch(n sz:Nat)(hs:List HV):HV:=if n=0 then .dat (.lit (.slice none 0 0)) else .nd (.own 0 n sz) (.vec hs)
theorem qgL{α β : Type} : ∀ {a:List α} {b:List β} {a':List α} {b':List β},a.length=b.length->(a++a').zip (b++b')=a.zip b++a'.zip b'
 |[],[],_,_,_=>rfl
 |[],_::_,_,_,h=>by simp at h
 |_::_,[],_,_,h=>by simp at h
 |x::a,y::b,a',b',h=>by
  simp only[Wu,List.zip_cons_cons,qgL (a:=a) (b:=b) (by simpa using h)]
theorem qbQ {σ : S} {os:List Nat} {ps:List (HV × V)} {n sz bytes:Nat} {hs hx:List HV} {v x:V} {xs:List V} (ho:Own σ os ((qch n sz hs,v)::(hx.zip xs++ps))) (hl:hs.length=n*sz) (hxl:hx.length=xs.length)
  (hsrc:qor σ x=some (xs,1)) (hxs:xs.length=sz) (h0:0<sz) (hone:xs.all V.one=true) (hr:qaA (n+1) bytes=true) (hc:Cl σ) (hxlt : ∀ l∈qau xs,l < σ.length) :
  ∃ l σ',appendO σ sz bytes v x=some (.own l (n+1) sz,σ')/\Own σ' os ((qch (n+1) sz (hs++hx),.own l (n+1) sz)::ps)/\Cl σ' /\ σ.length <= σ'.length /\ ∀ l∈os,σ'[l]? = σ[l]?:=by
 have hcond:xs.length=1*sz/\0<sz/\xs.all V.one=true:=⟨by omega,h0,hone⟩
 have e2:qch (n+1) sz (hs++hx) = .nd (.own 0 (n+1) sz) (.vec (hs++hx)):=by unfold qch; rw[if_neg (by omega)]
 by_cases hn:n=0
 ·subst hn
  have e1:qch 0 sz hs = .dat (.lit (.slice none 0 0)):=rfl
  rw[e1] at ho
  obtain⟨hv,ho2⟩:=qfn ho
  subst hv
  have:hs=[]:=List.length_eq_zero_iff.1 (by omega)
  subst this
  refine⟨σ.length,σ ++ [.vec xs],?_,?_,qjr (ob := .vec xs) hc (fun m hm=>YB (hxlt m hm)),by simp,fun l hl=>Wo (qo1 ho2 l hl)⟩
  ·simp only[appendO,hsrc]
   rw[if_pos hcond,if_neg (by omega)]
   simp only[WF] at hr
   simp only[hr,if_true,WF]
  ·rw[e2]
   exact qcm (w := .own 0 (0+1) sz) (qgF ho2 _) rfl (by simpa using hxl) (qf5 σ _)
 ·have e1:qch n sz hs = .nd (.own 0 n sz) (.vec hs):=by unfold qch; rw[if_neg hn]
  rw[e1] at ho
  obtain⟨l,vs,rfl,h1,h2,h3⟩:=qdC ho
  have hlt:=(Wb.1 h1).1
  refine⟨l,σ.set l (.vec (vs++xs)),?_,?_,qer hc fun m hm=>?_,by simp,fun m hm=>Wj fun e=>(W0.1 (qbS h3)).1 (by rw[e]; exact hm)⟩
  ·simp only[appendO,hsrc]
   rw[if_pos hcond,if_neg (by omega)]
   simp only[V.ren,h1]
   rw[if_pos ⟨hr,by omega,trivial⟩]
  ·rw[e2]
   have:=qbi h3 (by simp:l∈l::os) (.vec (vs++xs))
   refine qcm (w := .own 0 (n+1) sz) (hs:=hs++hx) (vs:=vs++xs) ?_ rfl (by simp; omega) (qaN hlt _)
   rw[qgL h2,WA]
   exact this
  ·simp only[Ob.locs,qcU] at hm
   rcases We.1 hm with hm|hm
   ·exact hc l _ h1 m hm
   ·exact hxlt m hm
theorem qbR{σ : S}{os:List Nat}{p q:HV × V}{ps:List (HV × V)}(h:Own σ os (p::q::ps)):Own σ os (q::p::ps):=qcd h (.swap q p ps)
theorem qaT{σ : S}{os:List Nat}{as ps:List (HV × V)}{p:HV × V}(h:Own σ os (as++p::ps)):Own σ os (p::(as++ps)):=qcd h List.perm_middle
theorem qbn{σ : S}{os:List Nat}{as ps:List (HV × V)}{p:HV × V}(h:Own σ os (p::(as++ps))):Own σ os (as++p::ps):=qcd h List.perm_middle.symm
theorem qcV{σ : S}{os:List Nat} : ∀ {ds:List D} {vs:List V} {ps:List (HV × V)},ds.length=vs.length->Own σ os ((ds.map HV.dat).zip vs++ps)->vs=ds.map .dat/\Own σ os ps
 |[],[],ps,_,h=>⟨rfl,h⟩
 |[],_::_,_,e,_=>by simp at e
 |_::_,[],_,e,_=>by simp at e
 |d::ds,v::vs,ps,e,h=>by
  rw[Wi,List.zip_cons_cons,Wu] at h
  obtain⟨h1,h2⟩:=qfn h
  obtain⟨h3,h4⟩:=qcV (by simpa using e) h2
  exact⟨by rw[h1,h3]; rfl,h4⟩
theorem qbJ{σ : S}{os:List Nat}{ps:List (HV × V)}(h:Own σ os ps) : ∀ ds:List D,Own σ os ((ds.map HV.dat).zip (ds.map V.dat)++ps)
 |[]=>h
 |d::ds=>by
  rw[Wi,Wi,List.zip_cons_cons,Wu]
  exact qgq (qbJ h ds) d
theorem qke{σ τ : S}{os L:List Nat}{w:V}{ps:List (HV × V)}(h:Own σ (L++os) ps)(hc:Canon w τ)(hl:L.length = τ.length)(hf : ∀ i ob,τ[i]?=some ob -> σ[at0 L i]?=some (ob.ren (at0 L))):Own σ os ((.lf w τ,w.ren (at0 L))::ps):=by
 obtain⟨M,h1,h2,h3⟩:=h
 have hn:=List.nodup_append.1 h2
 have hn1:=List.nodup_append.1 hn.1
 refine⟨L++M,⟨L,M,rfl,?_,h1⟩,?_,fun l hl=>h3 l (by simp[hl])⟩
 ·simp only[Has]
  exact⟨hn1.1,hl,trivial,hf,hc.cl,hc.lt,hc.rc⟩
 ·have:(os++(L++M)).Perm (L++os++M):=by
   rw[<- List.append_assoc]
   exact List.perm_append_comm.append_right M
  exact this.nodup_iff.2 h2
theorem qmN{σ : S}:Own σ (List.range σ.length) []:=⟨[],rfl,by simpa using List.nodup_range,fun l hl=>by simpa using hl⟩
end
section
open F
set_option maxRecDepth 100000
attribute [local simp] V.len qai
theorem qgo{τ : S}(h:closed (List.range τ.length) τ = true):Cl τ := fun l ob ho m hm=>by
 simpa using qec h ob (Wv ho) m hm
theorem qdr{w:V}{τ : S}(h1:closed (List.range τ.length) τ = true)(h2:inL (List.range τ.length) w.locs=true)(h3:reach τ τ.length w.locs []=List.range τ.length):Canon w τ:=
 ⟨qgo h1,fun l hl=>by simpa using qeb h2 l hl,h3⟩
theorem qiv{σ : S}{os:List Nat}{w v:V}{ds:List D}{hs:List HV}{ps:List (HV × V)}(h:Own σ os ((.nd w (.cells (ds.map .dat++hs)),v)::ps)) : ∃ l vs,v=w.ren (fun _=>l) /\ σ[l]?=some (.cells (ds.map .dat++vs))/\hs.length=vs.length/\Own σ (l::os) (hs.zip vs++ps):=by
 obtain⟨l,us,h1,h2,h3,h4⟩:=qhc h
 have e:us=us.take ds.length++us.drop ds.length:=(WU ..).symm
 have hl:(us.take ds.length).length=ds.length:=by simp at h3 ⊢; omega
 rw[e,qgL (by simp[hl]),WA] at h4
 obtain⟨h5,h6⟩:=qcV hl.symm h4
 refine⟨l,us.drop ds.length,h1,?_,by simp at h3 ⊢; omega,h6⟩
 rw[h2,<- h5,<- e]
theorem qdZ{σ : S}{os:List Nat}{l:Nat}{w:V}{ds:List D}{hs:List HV}{vs:List V}{ps:List (HV × V)}(h:Own σ (l::os) (hs.zip vs++ps))(hw:w.locs=[0])(hl:hs.length=vs.length)(ho : σ[l]?=some (.cells (ds.map .dat++vs))):Own σ os ((.nd w (.cells (ds.map .dat++hs)),w.ren (fun _=>l))::ps):=by
 refine qc2 (hs:=ds.map .dat++hs) (vs:=ds.map .dat++vs) ?_ hw (by simp[hl]) ho
 rw[qgL (by simp),WA]
 exact qbJ h ds
theorem qd0 {C:Task->Option Res} {mk:List V->S->Task} {ds:List D} {σ τ : S} {v w:V} {os:List Nat} {ps:List (HV × V)} (hσ : Cl σ) (ho:Own σ os ps) (h:C (mk (ds.map .dat) [])=some (.ret v τ)) (hv:qsC v) (hc:Canon w τ) :
  ∃ σ1,qaE C mk (ds.map .dat) σ = some (v.ren (up_ σ.length),σ1)/\Cl σ1 /\ σ.length <= σ1.length/\Own σ1 os ((.lf w τ,w.ren (up_ σ.length))::ps) /\ ∀ (m:Nat) (ob:Ob),σ[m]?=some ob -> σ1[m]?=some ob:=
 ⟨_,qcn h hv,qrF hσ hc.cl,by simp,qpJ ho hc,fun m ob hm=>qbj hm _⟩
theorem qbz{C:Task->Option Res}{mk:List V->S->Task}{ds:List D}{σ : S}{d:D}(h:C (mk (ds.map .dat) [])=some (.ret (.dat d) [])):qaE C mk (ds.map .dat) σ = some (.dat d,σ):=by
 have:=qcn (σ := σ) h (fun u (e:V.dat d = .pan u)=>by cases e)
 simpa [V.ren,shift] using this
def qzw:S:=[.cells (vs [0,0,0,0,0,0,0,0,0,0,0,0,0,0,0,0,0,0])]
def qzx:S:=[.cells [.mp 1,vi 0],.map []]
def qzb:S:=[.cells [vi 16,vi 0,.mp 1],.map []]
def qvc(x:Lnk):S:=[.cells [.int 0,.int 0,.fn 430 [] [.ptr 1 0]],.cells (x.c.map .dat)]
theorem qq8:Canon (.ptr 0 0) qzw:=qdr rfl rfl rfl
theorem qq9:Canon (.ptr 0 0) qzx:=qdr rfl rfl rfl
theorem qlY:Canon (.ptr 0 0) qzb:=qdr rfl rfl rfl
theorem qra(x:Lnk):Canon (.ptr 0 0) (qvc x):=qdr rfl rfl rfl
theorem qoL{s:Sup}{K:List D}{p:Int}:Canon (.ptr 0 0) (peerS s K p (initZ s)):=by
 have hi:Dats ((initZ s).map V.int):=IntL.dats ⟨_,rfl⟩
 have hG:=(qa4 (qas (s.c (Flg.cl s))) (m:=16) rfl).l
 unfold peerS
 generalize (s.c (Flg.cl s)).map V.dat=G at *
 generalize (initZ s).map V.int=J at *
 generalize (initZ s).length=N at *
 refine qdr ?_ rfl ?_
 ·simp[closed,inL,Ob.locs,V.locs,qau,hG,hi.l,Wa]
 ·simp[Ob.locs,V.locs,qau,hG,hi.l,Wa]
def pl0(pe:S)(d:D):HV := .nd (.ptr 0 0) (.cells [.lf (.ptr 0 0) pe,.lf (.ptr 0 0) qzw,.lf (.ptr 0 0) qzx,.dat (di 0),.dat (di 0),.dat qcO,.dat (di 0),.dat (di 0),.dat (di 0),.dat d,.dat qcO,.dat qcO,.dat qcO])
def lk0(x:Lnk):HV := .lf (.ptr 0 0) (qvc x)
def qoV(A K:List D)(now:Int)(hs:List HV):HV := .nd (.ptr 0 0) (.cells ((A++[.imm K 0,di now]).map .dat++hs))
def qxT(A:List D):HV := .nd (.ptr 0 0) (.cells (A.map .dat))
theorem qzy{α : Type}{l:List α}(h:8=l.length) : ∃ a b c d e f g i,l=[a,b,c,d,e,f,g,i]:=by
 match l,h with
 |[a,b,c,d,e,f,g,i],_=>exact⟨a,b,c,d,e,f,g,i,rfl⟩
section
variable{s:Scr}{r:Rws}{u:Sup}{f:Flg}{K:List D}
def qxU(s:Scr)(u:Sup)(K:List D)(p:Nat)(h:HV):Prop := ∃ (d:D) (ls:List Cmd),RowD 5 d (ls.map Cmd.c)/\ls.Perm (s.com.filter (qoT p))/\h=pl0 (peerS u K p (initZ u)) d
theorem qsy{σ : S}{os:List Nat}{a b c:HV × V}{ps:List (HV × V)}(h:Own σ os (c::b::a::ps)):Own σ os (a::b::c::ps):=qcd h ((List.reverse_perm [a,b,c]).append_right ps)
theorem qcz{σ : S}{os:List Nat}{as ps:List (HV × V)}(h:Own σ os (as++ps))(ds:List D):Own σ os (as++((ds.map HV.dat).zip (ds.map V.dat)++ps)):=by
 refine qcd (qbJ h ds) ?_
 rw[<- List.append_assoc,<- List.append_assoc]
 exact List.perm_append_comm.append_right ps
theorem qat{σ : S}{os:List Nat}{ps:List (HV × V)}{p:HV × V}(h:Own σ os ps)(i:Nat)(hp:ps[i]?=some p) : ∀ l∈p.2.locs,l < σ.length:=qo0 h p (Wv hp)
theorem qoM (h:s.Is r) (ho:s.over u f) (hr:1<=u.rnd/\u.rnd<=4) (hl:s.lnk.length=u.n) (hcm:s.com.length<=19) {k:Nat} (hk:k<u.n) {σ : S} {l sl:Nat} {q g lg ac wt mp:HV} {pls lks:List HV} (hpl:pls.length=k) (hlk:lks.length=k) {now:Int}
  (hσ : Cl σ) (hown:Own σ [] [(qoV (s.c r) K now [q,g,lg,ac,qch k 1 pls,wt,qch k 1 lks,mp],.ptr l 0),(qxT (s.c r),.ptr sl 0)]) :
  ∃ hp hl σ',qxU s u K k hp/\run (Z prX) 0 F363l0 [(1,.ptr sl 0),(5,.dat (.imm K 0)),(7,.ptr l 0),(59,.int u.n),(60,.int k)] σ = some (.normal,[(1,.ptr sl 0),(5,.dat (.imm K 0)),(7,.ptr l 0),(59,.int u.n),(60,.int ((k+1:Nat):Int))],σ')/\Cl σ' /\
   (∃ x,s.lnk[k]?=some x/\hl=lk0 x)/\Own σ' [] [(qoV (s.c r) K now [q,g,lg,ac,qch (k+1) 1 (pls++[hp]),wt,qch (k+1) 1 (lks++[hl]),mp],.ptr l 0),(qxT (s.c r),.ptr sl 0)]:=by
 obtain⟨hu,hS,hn⟩:=ho
 have hn3:=hu.n3
 obtain⟨x,hx⟩ : ∃ x,s.lnk[k]?=some x:=⟨s.lnk[k],Wy (by omega)⟩
 obtain⟨d',ls',hd1,hd2,hd3⟩:=qyN h hcm k
 have hS16:qad ((s.c r).map V.dat) 0 16=some ((u.c f).map V.dat):=qcv V.dat (by rw[Scr.c,qbw (by rw[h.S16]; omega),hS]; rfl)
 have hrd:=h.rd
 have i1:=h.lnk.at (i:=k) (by simp; omega)
 have i2:=h.lnk.cut (i:=k) (x:=x.c) (by simp[hx])
 have hal:=qaL (s.c r)
 have hal16:=qaL (u.c f)
 obtain⟨sl',vs0,e1,g0,hs0,own⟩:=qhc (qbR hown)
 simp only[V.ren,V.ptr.injEq,and_true] at e1
 subst e1
 obtain⟨ev0,own1⟩:=qcV (by simpa using hs0) own
 subst ev0
 clear own
 obtain⟨l',vs1,e1,g1,hs1,own⟩:=qiv own1
 clear own1
 simp only[V.ren,V.ptr.injEq,and_true] at e1
 subst e1
 obtain⟨vq,vg,vlg,vac,vpl,vwt,vlk,vmp,rfl⟩:=qzy hs1
 have hne:l≠sl:=fun e=>by
  have:=qbS own
  rw[e] at this
  simp at this
 have hll:=(Wb.1 g1).1
 have hls:=(Wb.1 g0).1
 simp only[List.zip_cons_cons,List.zip_nil_left,Wp] at own
 have z1:=qwC (f:=f) hu hr hk (K:=K)
 obtain⟨σ1,d1,c1,n1,o1,f1⟩:=qd0 (mk:=Task.call 379) (ds:=[.agg (u.c f),.imm K 0,di k,di 12]) hσ own z1 (fun u (e:V.tup _ = .pan u)=>by cases e) qoL
 obtain⟨σ2,d2,c2,n2,o2,f2⟩:=qd0 (mk:=Task.call 380) (ds:=[]) c1 o1 qrN (fun u (e:V.ptr _ _ = .pan u)=>by cases e) qq8
 obtain⟨σ3,d3,c3,n3,o3,f3⟩:=qd0 (mk:=Task.call 381) (ds:=[]) c2 o2 qt4 (fun u (e:V.ptr _ _ = .pan u)=>by cases e) qq9
 have d4:=qbz (C:=Z prX) (mk:=Task.call 382) (ds:=[.agg (s.c r),di k]) (σ := σ3) hd3
 simp only[V.ren,qbl,di,Wi,Wr] at d1 d2 d3 d4 o3
 generalize up_ σ.length 0=pe at *
 generalize up_ σ1.length 0=es at *
 generalize up_ σ2.length 0=br at *
 have o3':=qsy o3
 have pe3:pe < σ3.length:=qat o3' 0 rfl pe (by simp[V.locs])
 have es3:es < σ3.length:=qat o3' 1 rfl es (by simp[V.locs])
 have br3:br < σ3.length:=qat o3' 2 rfl br (by simp[V.locs])
 obtain⟨pc,hpc⟩ : ∃ pc,pc=[V.ptr pe 0,.ptr es 0,.ptr br 0,.int 0,.int 0,qax,.int 0,.int 0,.int 0,.dat d',qax,qax,qax]:=⟨_,rfl⟩
 have o4:Own (σ3++[.cells pc]) [l,sl] ((pl0 (peerS u K k (initZ u)) d',.ptr σ3.length 0)::[(q,vq),(g,vg),(lg,vlg),(ac,vac),(qch k 1 pls,vpl),(wt,vwt),(qch k 1 lks,vlk),(mp,vmp)]):=by
  have:=qcz (as:=[_,_,_]) (qgF o3' (.cells pc)) [di 0,di 0,qcO,di 0,di 0,di 0,d',qcO,qcO,qcO]
  refine qc2 (w := .ptr 0 0) (vs:=pc) ?_ rfl (by rw[hpc]; rfl) (qf5 _ _)
  rw[hpc] at this ⊢; exact this
 have c4:Cl (σ3++[.cells pc]):=qjr c3 fun m hm=>by
  rw[hpc] at hm
  simp[Ob.locs,qau,V.locs] at hm
  omega
 have n4 : σ3.length<(σ3++[Ob.cells pc]).length:=by simp
 have f4 : ∀ (m:Nat) (ob:Ob),σ3[m]?=some ob->(σ3++[Ob.cells pc])[m]?=some ob:=fun m ob hm=>qbj hm _
 have hob:qar (Z prX) [] σ3 (.box (.c (.int .i64 0)))=some (.ptr σ3.length 0,σ3++[.cells [.int 0]]):=by simp[Value.oneCell']
 obtain⟨σ4,hσ4⟩ : ∃ σ4,σ4 = σ3++[Ob.cells pc]:=⟨_,rfl⟩
 rw[<- hσ4] at o4 c4 n4 f4
 have o4':=qbR (qaT (as:=[_]) (qcd o4 (by
  show List.Perm _ ([(pl0 (peerS u K k (initZ u)) d',V.ptr σ3.length 0)]++(qch k 1 pls,vpl)::[(q,vq),(g,vg),(lg,vlg),(ac,vac),(wt,vwt),(qch k 1 lks,vlk),(mp,vmp)])
  exact (List.perm_middle (l₁ := [(q,vq),(g,vg),(lg,vlg),(ac,vac)])).cons _)))
 obtain⟨lr,σ5,a5,o5,c5,n5,f5⟩:=qbQ (bytes:=8) (hx:=[_]) (xs:=[_]) (x := .rw [.ptr σ3.length 0] 1) (qbR o4') (by rw[hpl]; omega) rfl rfl rfl (by omega) rfl (by unfold qaA; exact decide_eq_true (by omega)) c4 (by simp[qau,V.locs]; omega)
 have f5l:=f5 l (by simp)
 have f5s:=f5 sl (by simp)
 have g3:=f3 _ _ (f2 _ _ (f1 _ _ g0))
 have g31:=f3 _ _ (f2 _ _ (f1 _ _ g1))
 have h1l:=f1 _ _ g1
 have g5:=f5l.trans (f4 _ _ g31)
 have g5s:=f5s.trans (f4 _ _ g3)
 obtain⟨A,hA⟩ : ∃ A,A=(s.c r).map V.dat:=⟨_,rfl⟩
 have hAl:A.length=23:=by rw[hA]; exact hrd.len
 have hAd:Dats A:=by rw[hA]; exact qas _
 have ep : ∀ xs:List V,(s.c r++[D.imm K 0,di now]).map V.dat++xs=A++(.dat (.imm K 0) :: .int now::xs):=fun xs=>by rw[hA]; simp[di]
 rw[ep] at g1 g31 h1l g5
 rw[<- hA] at g0 g3 g5s
 have pre:=qa4 hAd hAl
 have hl5:l < σ5.length:=(Wb.1 g5).1
 obtain⟨σ6,hσ6⟩ : ∃ σ6,σ6 = σ5.set l (.cells (A++[.dat (.imm K 0),.int now,vq,vg,vlg,vac,.own lr (k+1) 1,vwt,vlk,vmp])):=⟨_,rfl⟩
 have o6:Own σ6 [l,sl] [(qch (k+1) 1 (pls++[pl0 (peerS u K k (initZ u)) d']),.own lr (k+1) 1),(q,vq),(g,vg),(lg,vlg),(ac,vac),(wt,vwt),(qch k 1 lks,vlk),(mp,vmp)]:=by rw[hσ6]; exact qbi o5 (by simp) _
 have g6 : σ6[l]?=some (.cells (A++[.dat (.imm K 0),.int now,vq,vg,vlg,vac,.own lr (k+1) 1,vwt,vlk,vmp])):=by rw[hσ6]; exact qaN hl5 _
 have g6s : σ6[sl]?=some (.cells A):=by rw[hσ6]; exact qd7 hne _ g5s
 have lt6:lr < σ5.length:=qat o5 0 rfl lr (by simp[V.locs])
 have c6:Cl σ6:=by
  rw[hσ6]
  refine qer c5 fun m hm=>?_
  simp only[Ob.locs,pre.l] at hm
  simp only[qau,V.locs,Wk,Wp,We,Wn] at hm
  have:=fun (i:Nat) (p:HV × V) (hp:_)=>qat o5 i (p:=p) hp
  rcases hm with hm|hm|hm|hm|hm|hm|hm|hm
  ·exact qat o5 1 rfl m hm
  ·exact qat o5 2 rfl m hm
  ·exact qat o5 3 rfl m hm
  ·exact qat o5 4 rfl m hm
  ·omega
  ·exact qat o5 5 rfl m hm
  ·exact qat o5 6 rfl m hm
  ·exact qat o5 7 rfl m hm
 obtain⟨σ7,d7,c7,n7,o7,f7⟩:=qd0 (mk:=Task.call 383) (ds:=[.agg x.c]) c6 o6 (qwS x) (fun u (e:V.ptr _ _ = .pan u)=>by cases e) (qra x)
 simp only[V.ren,qbl,Wi,Wr] at d7 o7
 generalize up_ σ6.length 0=lk at *
 have o7':=qbR (qaT (as:=[_]) (qcd o7 (by
  show List.Perm _ ([(HV.lf (V.ptr 0 0) (qvc x),V.ptr lk 0)]++(qch k 1 lks,vlk)::[(qch (k+1) 1 (pls++[pl0 (peerS u K k (initZ u)) d']),.own lr (k+1) 1),(q,vq),(g,vg),(lg,vlg),(ac,vac),(wt,vwt),(mp,vmp)])
  exact (List.perm_middle (l₁ := [(qch (k+1) 1 (pls++[pl0 (peerS u K k (initZ u)) d']),.own lr (k+1) 1),(q,vq),(g,vg),(lg,vlg),(ac,vac),(wt,vwt)])).cons _)))
 have lk7:lk < σ7.length:=qat o7 0 rfl lk (by simp[V.locs])
 obtain⟨lr2,σ8,a8,o8,c8,n8,f8⟩:=qbQ (bytes:=8) (hx:=[_]) (xs:=[_]) (x := .rw [.ptr lk 0] 1) (qbR o7') (by rw[hlk]; omega) rfl rfl rfl (by omega) rfl (by unfold qaA; exact decide_eq_true (by omega)) c7 (by simp[qau,V.locs]; omega)
 have g8:=(f8 l (by simp)).trans (f7 _ _ g6)
 have g8s:=(f8 sl (by simp)).trans (f7 _ _ g6s)
 have hl8:l < σ8.length:=(Wb.1 g8).1
 have lt8:lr2 < σ8.length:=qat o8 0 rfl lr2 (by simp[V.locs])
 have lt8':lr < σ8.length:=qat o8 1 rfl lr (by simp[V.locs])
 refine⟨_,_,σ8.set l (.cells (A++[.dat (.imm K 0),.int now,vq,vg,vlg,vac,.own lr (k+1) 1,vwt,.own lr2 (k+1) 1,vmp])),⟨d',ls',hd1,hd2,rfl⟩,?_,?_,⟨x,hx,rfl⟩,?_⟩
 ·have q29:=fun B=>pre.c B 6 1
  have q31:=fun B=>pre.c B 8 1
  have t29:=fun B=>pre.t B 6
  have t31:=fun B=>pre.t B 8
  have d30:=fun B=>pre.d B 7
  have d32:=fun B=>pre.d B 9
  simp only[show 23+6=29 from rfl,show 23+8=31 from rfl,show 23+7=30 from rfl,show 23+9=32 from rfl] at q29 q31 t29 t31 d30 d32
  rw[<- hA] at hS16 hal hrd
  have b18:=hrd.b18
  have hA23:qad A 0 23=some A:=by unfold qad; rw[WE,Wl (by omega)]; simp[hAl]
  have h4':=hσ4.symm
  have h6':=hσ6.symm
  rw[hpc] at h4'
  have hl1:l < σ1.length:=by omega
  have hl2:l < σ2.length:=by omega
  have hl3:l < σ3.length:=by omega
  have hs1':sl < σ1.length:=by omega
  have hs2:sl < σ2.length:=by omega
  have hs3:sl < σ3.length:=by omega
  have hs12:=eq_true (And.intro hs1' hs2)
  have oc:=hd1.one
  have cc:=hd1.cells
  have hk0:(k:Int)<u.n:=by omega
  have w1:IntKind.i64.wrap ((k:Int)+1)=((k+1:Nat):Int):=by rw[qay _ (by omega)]; omega
  clear o1 o2 o3 o3' o4 o4' o5 o6 o7 o7' o8 own hown c1 c2 c3 c4 c5 c6 c7 c8 f1 f2 f3 f4 f5 f7 f8 h z1
  generalize peerS u K k (initZ u)=P at *
  generalize u.c f=U at *
  generalize s.c r=C at *
  generalize u.n=un at *
  generalize k+1=k' at *
  generalize x.c=X at *
  generalize (List.map Lnk.c s.lnk).flatten=Y at *
  simp -implicitDefEqProofs [qiS,hk0,g0,hS16,hal16,d1,d2,d3,d4,h1l,q29,q31,g3,hA23,hal,oc,cc,h4',a5,g5,t29,d30,hAl,h6',g6,g6s,b18,i1,i2,d7,a8,g8,t31,d32,w1,hs12,Wa,-qaE,-appendO,-qai,-V.len]
 ·refine qer c8 fun m hm=>?_
  simp only[Ob.locs,pre.l] at hm
  simp only[qau,V.locs,Wk,Wp,We,Wn] at hm
  rcases hm with hm|hm|hm|hm|hm|hm|hm|hm
  ·exact qat o8 2 rfl m hm
  ·exact qat o8 3 rfl m hm
  ·exact qat o8 4 rfl m hm
  ·exact qat o8 5 rfl m hm
  ·omega
  ·exact qat o8 6 rfl m hm
  ·omega
  ·exact qat o8 7 rfl m hm
 ·have o9:=qbi o8 (by simp:l∈[l,sl]) (.cells (A++[.dat (.imm K 0),.int now,vq,vg,vlg,vac,.own lr (k+1) 1,vwt,.own lr2 (k+1) 1,vmp]))
  have g9:=qaN hl8 (.cells (A++[.dat (.imm K 0),.int now,vq,vg,vlg,vac,.own lr (k+1) 1,vwt,.own lr2 (k+1) 1,vmp]))
  have g9s:=qd7 hne (.cells (A++[.dat (.imm K 0),.int now,vq,vg,vlg,vac,.own lr (k+1) 1,vwt,.own lr2 (k+1) 1,vmp])) g8s
  have o10:=qcd o9 (qs:=[(q,vq),(g,vg),(lg,vlg),(ac,vac),(qch (k+1) 1 (pls++[pl0 (peerS u K k (initZ u)) d']),.own lr (k+1) 1),(wt,vwt),(qch (k+1) 1 (lks++[.lf (.ptr 0 0) (qvc x)]),.own lr2 (k+1) 1),(mp,vmp)]) (by
   refine List.Perm.trans (List.perm_middle (l₁ := [_,_,_,_,_,_]) (a:=(qch (k+1) 1 (lks++[.lf (.ptr 0 0) (qvc x)]),V.own lr2 (k+1) 1)) (l₂ := [(mp,vmp)])).symm ?_
   exact (List.perm_middle (l₁ := [_,_,_,_]) (l₂ := [_,_,_])).symm)
  have o11:=qdZ (l:=l) (os:=[sl]) (w := .ptr 0 0) (ds:=s.c r++[.imm K 0,di now]) (hs:=[q,g,lg,ac,qch (k+1) 1 (pls++[pl0 (peerS u K k (initZ u)) d']),wt,qch (k+1) 1 (lks++[.lf (.ptr 0 0) (qvc x)]),mp]) (vs:=[vq,vg,vlg,vac,.own lr (k+1) 1,vwt,.own lr2 (k+1) 1,vmp]) (ps:=[]) o10 rfl rfl (by rw[ep]; exact g9)
  have o12:=qc2 (l:=sl) (os:=[]) (w := .ptr 0 0) (hs:=(s.c r).map .dat) (vs:=(s.c r).map .dat) (ps:=[(qoV (s.c r) K now [q,g,lg,ac,qch (k+1) 1 (pls++[pl0 (peerS u K k (initZ u)) d']),wt,qch (k+1) 1 (lks++[.lf (.ptr 0 0) (qvc x)]),mp],.ptr l 0)]) (qbJ o11 (s.c r)) rfl (by simp) (by rw[<- hA]; exact g9s)
  exact qbR o12
end
end
section
open F
set_option maxRecDepth 100000
attribute [local simp] V.len qai
section
variable{s:Scr}{r:Rws}{u:Sup}{f:Flg}{K:List D}
def qtI(s:Scr)(u:Sup)(K:List D)(pls:List HV):Prop := ∀ (i:Nat) (h:HV),pls[i]?=some h->qxU s u K i h
def qtJ(s:Scr)(lks:List HV):Prop := ∀ (i:Nat) (h:HV),lks[i]?=some h -> ∃ x,s.lnk[i]?=some x/\h=lk0 x
theorem qpG{P:Nat->HV->Prop}{l:List HV}{h:HV}(hl : ∀ i x,l[i]?=some x->P i x)(hh:P l.length h) : ∀ i x,(l++[h])[i]?=some x->P i x:=fun i x hx=>by
 by_cases hi:i<l.length
 ·rw[Wo hi] at hx
  exact hl i x hx
 ·rw[WC (by omega)] at hx
  have:i-l.length=0:=by have:=(Wb.1 hx).1; simp at this; omega
  rw[this] at hx
  simp at hx; subst hx
  rw[show i=l.length by omega]; exact hh
theorem qsK (h:s.Is r) (ho:s.over u f) (hr:1<=u.rnd/\u.rnd<=4) (hl:s.lnk.length=u.n) (hcm:s.com.length<=19) {q g lg ac wt mp:HV} {now:Int} : ∀ (j k:Nat) (σ : S) (l sl:Nat) (pls lks:List HV),k+j=u.n->pls.length=k->lks.length=k->qtI s u K pls->qtJ s lks ->
  Cl σ -> Own σ [] [(qoV (s.c r) K now [q,g,lg,ac,qch k 1 pls,wt,qch k 1 lks,mp],.ptr l 0),(qxT (s.c r),.ptr sl 0)] ->
  ∃ pls' lks' l' sl' σ',pls'.length=u.n/\lks'.length=u.n/\qtI s u K pls'/\qtJ s lks'/\Z prX (.loop 0 F363l0 [(1,.ptr sl 0),(5,.dat (.imm K 0)),(7,.ptr l 0),(59,.int u.n),(60,.int k)] σ)=some (.out (.exit 0) [(1,.ptr sl' 0),(5,.dat (.imm K 0)),(7,.ptr l' 0),(59,.int u.n),(60,.int u.n),(61,.bool false)] σ') /\
   Cl σ'/\Own σ' [] [(qoV (s.c r) K now [q,g,lg,ac,qch u.n 1 pls',wt,qch u.n 1 lks',mp],.ptr l' 0),(qxT (s.c r),.ptr sl' 0)]
 |0,k,σ,l,sl,pls,lks,e,h1,h2,h3,h4,hσ,hown=>by
  obtain rfl:k=u.n:=by omega
  have hlt:=qo0 hown
  obtain⟨ρ,σ0,g1,g2,g3,g4,g5⟩:=qfx (k:=0) (fr:=[(1,.ptr sl 0),(5,.dat (.imm K 0)),(7,.ptr l 0),(59,.int u.n),(60,.int u.n)]) hσ (by omega) (fun m hm=>by
   simp only[qaR,V.locs,Wk,Wp,We,Wn] at hm
   rcases hm with rfl|rfl
   ·exact qat hown 1 rfl _ (by simp[V.locs])
   ·exact qat hown 0 rfl _ (by simp[V.locs])) hown (fun p hp m hm=>by
   right
   simp only[Wq,WD,or_false] at hp
   rcases hp with rfl|rfl
   ·simp only[V.locs,Wn] at hm; subst hm; simp[qaR,V.locs]
   ·simp only[V.locs,Wn] at hm; subst hm; simp[qaR,V.locs])
  refine⟨pls,lks,ρ l,ρ sl,σ0,h1,h2,h3,h4,?_,g2,g5⟩
  rw[qap,g1]
  generalize u.n=n at *
  simp[qao,qiS,qd8]
 |j+1,k,σ,l,sl,pls,lks,e,h1,h2,h3,h4,hσ,hown=>by
  obtain⟨ρ,σ0,g1,g2,g3,g4,g5⟩:=qfx (k:=0) (fr:=[(1,.ptr sl 0),(5,.dat (.imm K 0)),(7,.ptr l 0),(59,.int u.n),(60,.int k)]) hσ (by omega) (fun m hm=>by
   simp only[qaR,V.locs,Wk,Wp,We,Wn] at hm
   rcases hm with rfl|rfl
   ·exact qat hown 1 rfl _ (by simp[V.locs])
   ·exact qat hown 0 rfl _ (by simp[V.locs])) hown (fun p hp m hm=>by
   right
   simp only[Wq,WD,or_false] at hp
   rcases hp with rfl|rfl
   ·simp only[V.locs,Wn] at hm; subst hm; simp[qaR,V.locs]
   ·simp only[V.locs,Wn] at hm; subst hm; simp[qaR,V.locs])
  obtain⟨hp,hl',σ1,r1,r2,r3,r4,r5⟩:=qoM h ho hr hl hcm (k:=k) (by omega) h1 h2 g2 g5
  obtain⟨pls',lks',l',sl',σ',q1,q2,q3,q4,q5,q6,q7⟩:=qsK h ho hr hl hcm j (k+1) σ1 (ρ l) (ρ sl) (pls++[hp]) (lks++[hl']) (by omega) (by simp[h1]) (by simp[h2]) (qpG h3 (by rw[h1]; exact r1)) (qpG h4 (by rw[h2]; exact r4)) r3 r5
  refine⟨pls',lks',l',sl',σ',q1,q2,q3,q4,?_,q6,q7⟩
  rw[<- q5,qap,g1]
  simp only[qd8,V.ren,qao]
  rw[r2]
def wt0(p:Int):HV := .nd (.ptr 0 0) (.cells [.dat (di p),.lf (.ptr 0 0) qzb,.lf (.ptr 0 0) qzb,.dat qcO])
theorem qon (h:s.Is r) {k:Nat} {p:Int} (hp:s.wat[k]?=some p) {σ : S} {l:Nat} {q g lg ac pl lk mp:HV} {wts:List HV} (hwt:wts.length=k) {now:Int}
  (hσ : Cl σ) (hown:Own σ [] [(qoV (s.c r) K now [q,g,lg,ac,pl,qch k 1 wts,lk,mp],.ptr l 0)]) :
  ∃ σ',run (Z prX) 0 F363l1 [(7,.ptr l 0),(108,.dat r.wat),(109,.int s.wat.length),(110,.int k)] σ = some (.normal,[(7,.ptr l 0),(108,.dat r.wat),(109,.int s.wat.length),(110,.int ((k+1:Nat):Int))],σ')/\Cl σ' /\
   Own σ' [] [(qoV (s.c r) K now [q,g,lg,ac,pl,qch (k+1) 1 (wts++[wt0 p]),lk,mp],.ptr l 0)]:=by
 have hk:k<s.wat.length:=(Wb.1 hp).1
 have hl6:=h.l6
 have i1:=h.wat.at (i:=k) (by simpa using hk)
 have i2:=h.wat.cut (i:=k) (x:=qbm p) (by simp[hp])
 rw[Nat.mul_one] at i1 i2
 have hrd:=h.rd
 obtain⟨l',vs1,e1,g1,hs1,own⟩:=qiv hown
 simp only[V.ren,V.ptr.injEq,and_true] at e1
 subst e1
 obtain⟨vq,vg,vlg,vac,vpl,vwt,vlk,vmp,rfl⟩:=qzy hs1
 have hll:=(Wb.1 g1).1
 simp only[List.zip_cons_cons,List.zip_nil_left,Wp] at own
 obtain⟨σ1,d1,c1,n1,o1,f1⟩:=qd0 (mk:=Task.call 384) (ds:=[di 16]) hσ own qrO (fun u (e:V.ptr _ _ = .pan u)=>by cases e) qlY
 obtain⟨σ2,d2,c2,n2,o2,f2⟩:=qd0 (mk:=Task.call 385) (ds:=[di 16]) c1 o1 qow (fun u (e:V.ptr _ _ = .pan u)=>by cases e) qlY
 simp only[V.ren,qbl,di,Wi,Wr] at d1 d2 o2
 generalize up_ σ.length 0=se at *
 generalize up_ σ1.length 0=re at *
 have o3:=qbR o2
 have se2:se < σ2.length:=qat o3 0 rfl se (by simp[V.locs])
 have re2:re < σ2.length:=qat o3 1 rfl re (by simp[V.locs])
 obtain⟨pc,hpc⟩ : ∃ pc,pc=[V.int p,.ptr se 0,.ptr re 0,qax]:=⟨_,rfl⟩
 have o4:Own (σ2++[.cells pc]) [l] ((wt0 p,.ptr σ2.length 0)::[(q,vq),(g,vg),(lg,vlg),(ac,vac),(pl,vpl),(qch k 1 wts,vwt),(lk,vlk),(mp,vmp)]):=by
  have:=qgq (qcz (as:=[_,_]) (qgF o3 (.cells pc)) [qcO]) (di p)
  refine qc2 (w := .ptr 0 0) (vs:=pc) ?_ rfl (by rw[hpc]; rfl) (qf5 _ _)
  rw[hpc] at this ⊢; exact this
 have c4:Cl (σ2++[.cells pc]):=qjr c2 fun m hm=>by
  rw[hpc] at hm
  simp[Ob.locs,qau,V.locs] at hm
  omega
 have f4 : ∀ (m:Nat) (ob:Ob),σ2[m]?=some ob->(σ2++[Ob.cells pc])[m]?=some ob:=fun m ob hm=>qbj hm _
 have n4 : σ2.length<(σ2++[Ob.cells pc]).length:=by simp
 obtain⟨σ4,hσ4⟩ : ∃ σ4,σ4 = σ2++[Ob.cells pc]:=⟨_,rfl⟩
 rw[<- hσ4] at o4 c4 n4 f4
 have o4':=qbR (qaT (as:=[_]) (qcd o4 (by
  show List.Perm _ ([(wt0 p,V.ptr σ2.length 0)]++(qch k 1 wts,vwt)::[(q,vq),(g,vg),(lg,vlg),(ac,vac),(pl,vpl),(lk,vlk),(mp,vmp)])
  exact (List.perm_middle (l₁ := [(q,vq),(g,vg),(lg,vlg),(ac,vac),(pl,vpl)])).cons _)))
 obtain⟨lr,σ5,a5,o5,c5,n5,f5⟩:=qbQ (bytes:=8) (hx:=[_]) (xs:=[_]) (x := .rw [.ptr σ2.length 0] 1) (qbR o4') (by rw[hwt]; omega) rfl rfl rfl (by omega) rfl (by unfold qaA; exact decide_eq_true (by omega)) c4 (by simp[qau,V.locs]; omega)
 have h1l:=f1 _ _ g1
 have g5:=(f5 l (by simp)).trans (f4 _ _ (f2 _ _ (f1 _ _ g1)))
 obtain⟨A,hA⟩ : ∃ A,A=(s.c r).map V.dat:=⟨_,rfl⟩
 have hAl:A.length=23:=by rw[hA]; exact hrd.len
 have hAd:Dats A:=by rw[hA]; exact qas _
 have ep : ∀ xs:List V,(s.c r++[D.imm K 0,di now]).map V.dat++xs=A++(.dat (.imm K 0) :: .int now::xs):=fun xs=>by rw[hA]; simp[di]
 rw[ep] at g1 h1l g5
 have pre:=qa4 hAd hAl
 have hl5:l < σ5.length:=(Wb.1 g5).1
 have lt5:lr < σ5.length:=qat o5 0 rfl lr (by simp[V.locs])
 refine⟨σ5.set l (.cells (A++[.dat (.imm K 0),.int now,vq,vg,vlg,vac,vpl,.own lr (k+1) 1,vlk,vmp])),?_,?_,?_⟩
 ·have q30:=fun B=>pre.c B 7 1
  have t30:=fun B=>pre.t B 7
  have d31:=fun B=>pre.d B 8
  simp only[show 23+7=30 from rfl,show 23+8=31 from rfl] at q30 t30 d31
  have h4':=hσ4.symm
  rw[hpc] at h4'
  have hk0:(k:Int)<s.wat.length:=by omega
  have w1:IntKind.i64.wrap ((k:Int)+1)=((k+1:Nat):Int):=by rw[qay _ (by omega)]; omega
  simp only[qbm,di] at i2
  clear o1 o2 o3 o4 o4' o5 own hown c1 c2 c4 c5 f1 f2 f4 f5 h
  generalize s.wat.length=m at *
  generalize (List.map qbm s.wat).flatten=Y at *
  generalize r.wat=dw at *
  generalize k+1=k' at *
  simp -implicitDefEqProofs [qiT,hk0,i1,i2,d1,d2,g1,h1l,q30,h4',a5,g5,t30,d31,hAl,w1,Wa,-qaE,-appendO,-qai,-V.len]
 ·refine qer c5 fun m hm=>?_
  simp only[Ob.locs,pre.l] at hm
  simp only[qau,V.locs,Wk,Wp,We,Wn] at hm
  rcases hm with hm|hm|hm|hm|hm|hm|hm|hm
  ·exact qat o5 1 rfl m hm
  ·exact qat o5 2 rfl m hm
  ·exact qat o5 3 rfl m hm
  ·exact qat o5 4 rfl m hm
  ·exact qat o5 5 rfl m hm
  ·omega
  ·exact qat o5 6 rfl m hm
  ·exact qat o5 7 rfl m hm
 ·have o9:=qbi o5 (by simp:l∈[l]) (.cells (A++[.dat (.imm K 0),.int now,vq,vg,vlg,vac,vpl,.own lr (k+1) 1,vlk,vmp]))
  have g9:=qaN hl5 (.cells (A++[.dat (.imm K 0),.int now,vq,vg,vlg,vac,vpl,.own lr (k+1) 1,vlk,vmp]))
  have o10:=qcd o9 (qs:=[(q,vq),(g,vg),(lg,vlg),(ac,vac),(pl,vpl),(qch (k+1) 1 (wts++[wt0 p]),.own lr (k+1) 1),(lk,vlk),(mp,vmp)]) (List.perm_middle (l₁ := [_,_,_,_,_]) (l₂ := [_,_])).symm
  exact qdZ (l:=l) (os:=[]) (w := .ptr 0 0) (ds:=s.c r++[.imm K 0,di now]) (hs:=[q,g,lg,ac,pl,qch (k+1) 1 (wts++[wt0 p]),lk,mp]) (vs:=[vq,vg,vlg,vac,vpl,.own lr (k+1) 1,vlk,vmp]) (ps:=[]) o10 rfl rfl (by rw[ep]; exact g9)
theorem qsL (h:s.Is r) {q g lg ac pl lk mp:HV} {now:Int} : ∀ (j k:Nat) (σ : S) (l:Nat) (wts:List HV),k+j=s.wat.length->wts=(s.wat.take k).map wt0 ->
  Cl σ -> Own σ [] [(qoV (s.c r) K now [q,g,lg,ac,pl,qch k 1 wts,lk,mp],.ptr l 0)] ->
  ∃ l' σ',Z prX (.loop 0 F363l1 [(7,.ptr l 0),(108,.dat r.wat),(109,.int s.wat.length),(110,.int k)] σ)=some (.out (.exit 2) [(7,.ptr l' 0),(108,.dat r.wat),(109,.int s.wat.length),(110,.int s.wat.length),(111,.bool false)] σ') /\
   Cl σ'/\Own σ' [] [(qoV (s.c r) K now [q,g,lg,ac,pl,qch s.wat.length 1 (s.wat.map wt0),lk,mp],.ptr l' 0)]
 |0,k,σ,l,wts,e,h1,hσ,hown=>by
  obtain rfl:k=s.wat.length:=by omega
  obtain⟨ρ,σ0,g1,g2,g3,g4,g5⟩:=qfx (k:=0) (fr:=[(7,.ptr l 0),(108,.dat r.wat),(109,.int s.wat.length),(110,.int s.wat.length)]) hσ (by omega) (fun m hm=>by
   simp only[qaR,V.locs,Wk,Wp,We,Wn] at hm
   subst hm
   exact qat hown 0 rfl _ (by simp[V.locs])) hown (fun p hp m hm=>by
   right
   simp only[Wn] at hp
   subst hp
   simp only[V.locs,Wn] at hm; subst hm; simp[qaR,V.locs])
  rw[Ys] at h1
  subst h1
  refine⟨ρ l,σ0,?_,g2,g5⟩
  rw[qap,g1]
  generalize s.wat.length=n at *
  simp[qao,qiT,qd8]
 |j+1,k,σ,l,wts,e,h1,hσ,hown=>by
  have hk:k<s.wat.length:=by omega
  obtain⟨p,hp⟩ : ∃ p,s.wat[k]?=some p:=⟨s.wat[k],by simp[hk]⟩
  obtain⟨ρ,σ0,g1,g2,g3,g4,g5⟩:=qfx (k:=0) (fr:=[(7,.ptr l 0),(108,.dat r.wat),(109,.int s.wat.length),(110,.int k)]) hσ (by omega) (fun m hm=>by
   simp only[qaR,V.locs,Wk,Wp,We,Wn] at hm
   subst hm
   exact qat hown 0 rfl _ (by simp[V.locs])) hown (fun p hp m hm=>by
   right
   simp only[Wn] at hp
   subst hp
   simp only[V.locs,Wn] at hm; subst hm; simp[qaR,V.locs])
  obtain⟨σ1,r2,r3,r5⟩:=qon h hp (by rw[h1]; simp; omega) g2 g5
  obtain⟨l',σ',q5,q6,q7⟩:=qsL h j (k+1) σ1 (ρ l) (wts++[wt0 p]) (by omega) (by rw[h1,List.take_add_one,hp]; simp) r3 r5
  refine⟨l',σ',?_,q6,q7⟩
  rw[<- q5,qap,g1]
  simp only[qd8,V.ren,qao]
  rw[r2]
end
end
section
open F
set_option maxRecDepth 100000
attribute [local simp] V.len qai
section
variable{s:Scr}{r:Rws}{u:Sup}{f:Flg}{K:List D}
theorem qrT(h:s.Is r)(ho:s.over u f)(hr : ¬ (1<=u.rnd/\u.rnd<=4)):Z prX (.call 363 [.dat (.agg (s.c r))] [])=some (.ret (.tup [qjj,.int 11]) []):=by
 obtain⟨hu,hS,hn⟩:=ho
 have a1:=qfg (f:=f) hu
 simp only[qsq,if_neg hr] at a1
 have hrd:=h.rd
 have hS16:qad ((s.c r).map V.dat) 0 16=some ((u.c f).map V.dat):=qcv V.dat (by rw[Scr.c,qbw (by rw[h.S16]; omega),hS]; rfl)
 have hal:=qaL (u.c f)
 generalize hcs:(s.c r).map V.dat=cs at *
 obtain⟨hd,hone,hlen,b0,b16,b17,b18,b19,b20,b21,b22⟩:=hrd
 have ho':=eq_true hone
 generalize u.c f=U at *
 generalize s.c r=C at *
 refine qaD (pf:=F363) rfl rfl ?_
 simp -implicitDefEqProofs [F363,hcs,ho',hS16,hal,a1,hd.l,hd.r,Wa]
theorem qrU(h:s.Is r)(ho:s.over u f)(hr:1<=u.rnd/\u.rnd<=4)(hb:(s.fits&&s.rng)=false):Z prX (.call 363 [.dat (.agg (s.c r))] [])=some (.ret (.tup [qjj,.int 1]) []):=by
 obtain⟨hu,hS,hn⟩:=ho
 have a1:=qfg (f:=f) hu
 simp only[qsq,if_pos hr] at a1
 have a2:=qs5 h
 have a3:=qqZ h
 have hrd:=h.rd
 have hS16:qad ((s.c r).map V.dat) 0 16=some ((u.c f).map V.dat):=qcv V.dat (by rw[Scr.c,qbw (by rw[h.S16]; omega),hS]; rfl)
 have hal:=qaL (u.c f)
 have hal2:=qaL (s.c r)
 generalize hcs:(s.c r).map V.dat=cs at *
 obtain⟨hd,hone,hlen,b0,b16,b17,b18,b19,b20,b21,b22⟩:=hrd
 have ho':=eq_true hone
 have hA23:qad cs 0 23=some cs:=by unfold qad; rw[WE,Wl (by omega)]; simp[hlen]
 generalize u.c f=U at *
 generalize s.c r=C at *
 refine qaD (pf:=F363) rfl rfl ?_
 cases hf:s.fits with
 |false=>
  rw[hf] at a2
  simp -implicitDefEqProofs [F363,hcs,ho',hS16,hal,hal2,hA23,a1,a2,hd.l,hd.r,Wa]
 |true=>
  have hg:s.rng=false:=by rw[hf] at hb; exact hb
  rw[hf] at a2; rw[hg] at a3
  simp -implicitDefEqProofs [F363,hcs,ho',hS16,hal,hal2,hA23,a1,a2,a3,hd.l,hd.r,Wa]
def qyO(n:Nat)(w:Int):S:=[.cells [.int n,.int w,.mp 1,qax],.map []]
def qyP:S:=[.cells [qax,qax]]
def qwp(n:Nat)(w:Int):HV := .lf (.ptr 0 0) (qyO n w)
def qwq(u:Sup)(K:List D)(z:List Int):HV := .lf (.ptr 0 0) (qlt u K 0 z)
def qwr:HV := .lf (.ptr 0 0) qyP
def qws(n:Nat):HV := .nd (.msl 0 0 n n 1) (.cells ((List.replicate n (di 0)).map .dat))
def qwt:HV := .nd (.mp 0) (.map [] [])
def qzC(s:Scr)(r:Rws)(u:Sup)(K:List D)(pls lks:List HV):HV:=
 qoV (s.c r) K 0 [qwp u.n s.wait,qwq u K (initZ u),qwr,qws u.n,qch u.n 1 pls,qch s.wat.length 1 (s.wat.map wt0),qch u.n 1 lks,qwt]
theorem qp4(n:Nat)(w:Int):Canon (.ptr 0 0) (qyO n w):=qdr rfl rfl rfl
theorem qp5:Canon (.ptr 0 0) qyP:=qdr rfl rfl rfl
theorem qp6{u:Sup}{K:List D}:Canon (.ptr 0 0) (qlt u K 0 (initZ u)):=by
 have hi:Dats ((initZ u).map V.int):=IntL.dats ⟨_,rfl⟩
 have hG:=(qa4 (qas (u.c (Flg.cl u))) (m:=16) rfl).l
 unfold qlt
 generalize (u.c (Flg.cl u)).map V.dat=G at *
 generalize (initZ u).map V.int=J at *
 generalize (initZ u).length=N at *
 refine qdr ?_ rfl ?_
 ·simp[closed,inL,Ob.locs,V.locs,qau,hG,hi.l,Wa]
 ·simp[Ob.locs,V.locs,qau,hG,hi.l,Wa]
def st0(A:List V)(K:List D)(n:Nat)(w:Int)(G J:List V)(N:Nat):S:=
 [.cells A,.map [],.cells (A++[.dat (.imm K 0),.int 0,.ptr 4 0,.ptr 5 0,.ptr 3 0,.msl 6 0 n n 1,qax,qax,qax,.mp 1]),.cells [qax,qax],
  .cells [.int n,.int w,.mp 7,qax],.cells (G++[.dat (.imm K 0),.ptr 8 0]),.cells (List.replicate n (.int 0)),.map [],.cells [.msl 9 0 N N 1,qax,.int 0],.cells J]
theorem qub {C:List D} {w:Int} (hu1:u.n<=3) :
  Cl (st0 (C.map .dat) K u.n w ((u.c (Flg.cl u)).map .dat) ((initZ u).map V.int) (initZ u).length)/\Own (st0 (C.map .dat) K u.n w ((u.c (Flg.cl u)).map .dat) ((initZ u).map V.int) (initZ u).length) [] [(qoV C K 0 [qwp u.n w,qwq u K (initZ u),qwr,qws u.n,qch 0 1 [],qch 0 1 [],qch 0 1 [],qwt],.ptr 2 0),(qxT C,.ptr 0 0)]:=by
 have hi:Dats ((initZ u).map V.int):=IntL.dats ⟨_,rfl⟩
 have hC:=qas C
 have hCl : ∀ B,qau (C.map V.dat++B)=qau B:=(qa4 hC (m:=C.length) (by simp)).l
 have hG:=(qa4 (qas (u.c (Flg.cl u))) (m:=16) rfl).l
 have hGr:=(qa4 (qas (u.c (Flg.cl u))) (m:=16) rfl).r
 have hz:qau (List.replicate u.n (V.int 0))=[]:=by
  have:List.replicate u.n (V.int 0)=(List.replicate u.n (di 0)).map .dat:=by simp[di]
  rw[this]; exact (qas _).l
 refine⟨?_,?_⟩
 ·unfold st0
  generalize (u.c (Flg.cl u)).map V.dat=G at *
  generalize (initZ u).map V.int=J at *
  generalize (initZ u).length=N at *
  generalize List.replicate u.n (V.int 0)=Z at *
  refine qgo ?_
  generalize C.map V.dat=A at *
  simp[closed,inL,Ob.locs,V.locs,qau,hG,hCl,hC.l,hi.l,hz,Wa]
 ·have o0:Own (st0 (C.map .dat) K u.n w ((u.c (Flg.cl u)).map .dat) ((initZ u).map V.int) (initZ u).length) ([4,7]++([5,8,9]++([3]++[6,1,2,0]))) []:=
   qsB qmN (by show List.Perm [0,1,2,3,4,5,6,7,8,9] [4,7,5,8,9,3,6,1,2,0]; decide)
  have hjr:=hi.r
  have o1:=qke o0 (qp4 u.n w) rfl (fun i ob ho=>by
   match i,ho with
   |0,ho=>cases ho; rfl
   |1,ho=>cases ho; rfl
   |i+2,ho=>simp[qyO] at ho)
  have o2:=qke o1 (qp6 (u:=u) (K:=K)) rfl (fun i ob ho=>by
   match i,ho with
   |0,ho=>
    cases ho
    show some (Ob.cells _)=some (Ob.cells (qbl _ _))
    rw[hGr]; rfl
   |1,ho=>cases ho; rfl
   |2,ho=>
    cases ho
    show some (Ob.cells _)=some (Ob.cells (qbl _ _))
    rw[hjr]
   |i+3,ho=>simp[qlt] at ho)
  have o3:=qke o2 qp5 rfl (fun i ob ho=>by
   match i,ho with
   |0,ho=>cases ho; rfl
   |i+1,ho=>simp[qyP] at ho)
  have hrep:List.replicate u.n (V.int 0)=(List.replicate u.n (di 0)).map .dat:=by simp[di]
  have o4:=qc2 (l:=6) (w := .msl 0 0 u.n u.n 1) (hs:=(List.replicate u.n (di 0)).map .dat) (vs:=(List.replicate u.n (di 0)).map .dat) (qbJ o3 _) rfl (by simp) (by rw[<- hrep]; rfl)
  have o5:=qnT (l:=1) (w := .mp 0) (ks:=[]) (hs:=[]) (vs:=[]) o4 rfl rfl rfl rfl
  have o6:=qcd o5 (qs:=[(qwp u.n w,.ptr 4 0),(qwq u K (initZ u),.ptr 5 0),(qwr,.ptr 3 0),(qws u.n,.msl 6 0 u.n u.n 1),(qwt,.mp 1)]) (List.reverse_perm _).symm
  have o7:=qcz (as:=[_,_,_,_]) o6 [qcO,qcO,qcO]
  have o8:=qdZ (l:=2) (os:=[0]) (w := .ptr 0 0) (ds:=C++[.imm K 0,di 0]) (hs:=[qwp u.n w,qwq u K (initZ u),qwr,qws u.n,qch 0 1 [],qch 0 1 [],qch 0 1 [],qwt]) (vs:=[.ptr 4 0,.ptr 5 0,.ptr 3 0,.msl 6 0 u.n u.n 1,qax,qax,qax,.mp 1]) (ps:=[]) o7 rfl rfl (by
   show some (Ob.cells _)=_
   simp[di])
  have o9:=qc2 (l:=0) (os:=[]) (w := .ptr 0 0) (hs:=C.map .dat) (vs:=C.map .dat) (ps:=[(qoV C K 0 [qwp u.n w,qwq u K (initZ u),qwr,qws u.n,qch 0 1 [],qch 0 1 [],qch 0 1 [],qwt],.ptr 2 0)]) (qbJ o8 C) rfl (by simp) rfl
  exact qbR o9
theorem qwu (h:s.Is r) (ho:s.over u f) (hr:1<=u.rnd/\u.rnd<=4) (hb:(s.fits&&s.rng)=true) (hcm:s.com.length<=19)
  (hB : ∀ r',({ s with S:=u.c (Flg.cl u) }:Scr).Is r'->Z prX (.call 376 [.dat (.agg (({ s with S:=u.c (Flg.cl u) }:Scr).c r'))] [])=some (.ret (.tup [.dat (.imm K 0),.int 0]) [])) :
  ∃ r' pls lks l σ,({ s with S:=u.c (Flg.cl u) }:Scr).Is r'/\pls.length=u.n/\lks.length=u.n/\qtI { s with S:=u.c (Flg.cl u) } u K pls/\qtJ s lks/\Z prX (.call 363 [.dat (.agg (s.c r))] [])=some (.ret (.tup [.ptr l 0,.int 0]) σ)/\Cl σ /\ Own σ [] [(qzC { s with S:=u.c (Flg.cl u) } r' u K pls lks,.ptr l 0)]:=by
 obtain⟨r',hs1,hs2,hcz⟩:=qso h ho
 obtain⟨hu,hS,hn⟩:=ho
 have hf:s.fits=true:=by cases e:s.fits<;>simp_all
 have hg:s.rng=true:=by cases e:s.rng<;>simp_all
 obtain⟨s',hs'⟩ : ∃ s':Scr,s'={ s with S:=u.c (Flg.cl u) }:=⟨_,rfl⟩
 have ew:s'.wait=s.wait:=by rw[hs']
 have el:s'.lnk=s.lnk:=by rw[hs']
 have ewt:s'.wat=s.wat:=by rw[hs']
 have ec:s'.com=s.com:=by rw[hs']
 have en:s'.n=s.n:=by rw[hs']
 have eS:s'.S=u.c (Flg.cl u):=by rw[hs']
 rw[<- hs'] at hs2 hcz hB ⊢
 have hov:s'.over u (Flg.cl u):=⟨hu,eS,by rw[en,hn]⟩
 have hw:0<=s'.wait/\s'.wait<=8:=by
  rw[ew]
  simp only[Scr.rng,Wh,decide_eq_true_eq] at hg
  exact hg.2.2.2.2
 have hlk:s'.lnk.length=u.n:=by
  rw[el]
  simp only[Scr.fits,decide_eq_true_eq] at hf
  rw[hf.2,hn]
 have hB:=hB r' hs2
 have hst:=quF hs2 hov hr hw (K:=K)
 obtain⟨w1,w2⟩:=qub (u:=u) (K:=K) (C:=s'.c r') (w:=s'.wait) hu.n3
 obtain⟨pls,lks,l1,sl1,σ1,q1,q2,q3,q4,q5,q6,q7⟩:=qsK hs2 hov hr hlk (by rw[ec]; exact hcm) u.n 0 _ 2 0 [] [] (by omega) rfl rfl (fun i h hi=>by simp at hi) (fun i h hi=>by simp at hi) w1 w2
 obtain⟨l2,σ2,y5,y6,y7⟩:=qsL hs2 s'.wat.length 0 σ1 l1 [] (by omega) rfl q6 (qd1 (qbR q7))
 obtain⟨ρ,σ3,z1,z2,z3,z4,z5⟩:=qio (k:=0) (vs:=[.ptr l2 0,.int 0]) y6 (by omega) (fun m hm=>by
  simp only[qau,V.locs,Wp,Wn] at hm
  subst hm
  exact qat y7 0 rfl _ (by simp[V.locs])) y7 (fun p hp m hm=>by
  right
  simp only[Wn] at hp
  subst hp
  simp only[V.locs,Wn] at hm; subst hm; simp[qau,V.locs])
 have gs : σ1[sl1]?=some (.cells ((s'.c r').map .dat)):=by
  obtain⟨m,vs,e1,g0,hs0,own⟩:=qhc (qbR q7)
  simp only[V.ren,V.ptr.injEq,and_true] at e1
  subst e1
  obtain⟨ev,_⟩:=qcV (by simpa using hs0) own
  rw[g0,ev]
 refine⟨r',pls,lks,ρ l2,σ3,hs2,q1,q2,q3,?_,?_,z2,?_⟩
 ·intro i h hi
  obtain⟨x,e1,e2⟩:=q4 i h hi
  exact⟨x,by rw[<- el]; exact e1,e2⟩
 ·have a1:=qfg (f:=f) hu
  simp only[qsq,if_pos hr] at a1
  have a2:=qs5 h
  have a3:=qqZ h
  rw[hf] at a2; rw[hg] at a3
  have hrd:=h.rd
  have hrd':=hs2.rd
  have hS16:qad ((s.c r).map V.dat) 0 16=some ((u.c f).map V.dat):=qcv V.dat (by rw[Scr.c,qbw (by rw[h.S16]; omega),hS]; rfl)
  have hal:=qaL (u.c f)
  have hal2:=qaL (s.c r)
  have hal3:=qaL (s'.c r')
  have gw:=hs2.wat.len
  rw[Wf] at gw
  generalize hcs:(s.c r).map V.dat=cs at *
  obtain⟨hd,hone,hlen,b0,b16,b17,b18,b19,b20,b21,b22⟩:=hrd
  have ho':=eq_true hone
  have hA23:qad cs 0 23=some cs:=by unfold qad; rw[WE,Wl (by omega)]; simp[hlen]
  have ht23:cs.drop 23=[]:=Yu (by omega)
  unfold qyj at hst
  unfold st0 at q5
  generalize hcs2:(s'.c r').map V.dat=A at *
  obtain⟨hd2,hone2,hlen2,b0',b16',b17',b18',b19',b20',b21',b22'⟩:=hrd'
  have ho2:=eq_true hone2
  have hB23:qad A 0 23=some A:=by unfold qad; rw[WE,Wl (by omega)]; simp[hlen2]
  have pre:=qa4 hd2 hlen2
  have t23:=fun B=>pre.t B 0
  have t32:=fun B=>pre.t B 9
  have d24:=fun B=>pre.d B 1
  have d33:=fun B=>pre.d B 10
  simp only[show 23+0=23 from rfl,show 23+9=32 from rfl,show 23+1=24 from rfl,show 23+10=33 from rfl] at t23 t32 d24 d33
  have hAn : ∀ B:List V,qaI B=none->qaI (A++B)=none:=fun B hB=>by
   have : ∀ A:List V,qaI (A++B)=none:=fun A=>by
    induction A with
    |nil=>exact hB
    |cons a A ih=>cases a<;>simp[qaI,ih]
   exact this A
  have hAn2:qaI (A++[V.dat (.imm K 0),.int 0,qjj,qjj,qjj,qax,qax,qax,qax,V.mp 1])=none:=hAn _ rfl
  have hprl:=pre.l
  have hprr:=pre.r
  have hz : ∀ n:Nat,List.replicate n (V.int 0)=(List.replicate n (di 0)).map .dat:=fun n=>by simp[di]
  have hzd:Dats (List.replicate u.n (V.int 0)):=by rw[hz]; exact qas _
  have hG:=(qa4 (qas (u.c (Flg.cl u))) (m:=16) rfl)
  have hGl:=hG.l
  have hGr:=hG.r
  have hi:Dats ((initZ u).map V.int):=IntL.dats ⟨_,rfl⟩
  rw[en,hn] at b0'
  simp only[WI,Int.ofNat_zero] at q5 y5
  have e0:qch 0 1 []=HV.dat qcO:=rfl
  clear q7 w2 q3 q4
  generalize u.c f=U at *
  generalize (u.c (Flg.cl u)).map V.dat=G at *
  generalize (initZ u).map V.int=J at *
  generalize (initZ u).length=N at *
  generalize List.replicate u.n (V.int 0)=Zs at *
  generalize s.c r=C at *
  generalize s'.c r'=C' at *
  generalize s'.wat.length=nw at *
  generalize u.n=n at *
  refine qaD (pf:=F363) rfl rfl ?_
  simp -implicitDefEqProofs [F363,hcs,ho',hS16,hal,hal2,hal3,hA23,hlen,ht23,a1,a2,a3,hcz,hB,qt3,hst,q5,y5,z1,gw,hprl,hprr,hB23,hcs2,hlen2,ho2,t23,t32,d24,d33,hAn2,gs,b0',b21',hd.l,hd.r,hd2.l,hd2.r,hzd.l,hzd.r,hGl,hGr,hi.l,hi.r,Wa,-finishV,-qai,-V.len]
 ·exact z5
end
end
section
open F
set_option maxRecDepth 100000
attribute [local simp] V.len qai
def qaM(sz:Nat)(ls:List (List D)):HV:=qch ls.length sz (ls.flatten.map .dat)
def scT(S:List D)(hs:List HV)(w:Int):HV := .nd (.ptr 0 0) (.cells (S.map .dat++(hs++[.dat (di w)])))
def ksT(ks:List Int):HV := .nd (.own 0 40 1) (.vec ((intsC ks).map .dat))
def zrT:HV := .nd (.ptr 0 0) (.cells ([di 0,qcO,di 0,di 0,di 0,di 0,qcO,qcO,di 0,di 0,di 0,di 0,di 0,di 0,di 0,di 0,qcO,qcO,qcO,qcO,qcO,qcO,di 0].map .dat))
theorem quY{n:Int}(h:Dn n) : ∃ (x:Lnk) (j3 j4:Int),x.ok=true/\n.tmod 6=x.d/\(IntKind.i64.wrap (n.tdiv 6)).tmod 4=x.j/\(IntKind.i64.wrap (n.tdiv 24)).tmod 4=j3/\(IntKind.i64.wrap (n.tdiv 96)).tmod 4=j4/\(0<=j3/\j3<4)/\(0<=j4/\j4<4)/\qad [di 0,di 0,di 3,di 4] j3.toNat 1=some [di x.l]/\qad [di 0,di 0,di 2,di 5] j4.toNat 1=some [di x.p]/\x.d+x.j<=8/\(x.l=0\/2<=x.l):=by
 have m1:=qbb h.1 (m:=6) (by omega)
 obtain⟨d2,w2⟩:=qbC h (m:=6) (by omega)
 have m2:=qbb d2.1 (m:=4) (by omega)
 obtain⟨d3,w3⟩:=qbC h (m:=24) (by omega)
 have m3:=qbb d3.1 (m:=4) (by omega)
 obtain⟨d4,w4⟩:=qbC h (m:=96) (by omega)
 have m4:=qbb d4.1 (m:=4) (by omega)
 rw[w2,w3,w4]
 generalize (n.tdiv 24).tmod 4=j3 at *
 generalize (n.tdiv 96).tmod 4=j4 at *
 generalize (n.tdiv 6).tmod 4=j2 at *
 generalize n.tmod 6=j1 at *
 obtain⟨l,hl1,hl2⟩ : ∃ l:Int,qad [di 0,di 0,di 3,di 4] j3.toNat 1=some [di l]/\(l=0\/l=3\/l=4):=by
  have e:j3=0\/j3=1\/j3=2\/j3=3:=by omega
  rcases e with rfl|rfl|rfl|rfl
  ·exact⟨0,rfl,by omega⟩
  ·exact⟨0,rfl,by omega⟩
  ·exact⟨3,rfl,by omega⟩
  ·exact⟨4,rfl,by omega⟩
 obtain⟨p,hp1,hp2⟩ : ∃ p:Int,qad [di 0,di 0,di 2,di 5] j4.toNat 1=some [di p]/\(p=0\/p=2\/p=5):=by
  have e:j4=0\/j4=1\/j4=2\/j4=3:=by omega
  rcases e with rfl|rfl|rfl|rfl
  ·exact⟨0,rfl,by omega⟩
  ·exact⟨0,rfl,by omega⟩
  ·exact⟨2,rfl,by omega⟩
  ·exact⟨5,rfl,by omega⟩
 refine⟨⟨j1,j2,l,p⟩,j3,j4,?_,rfl,rfl,rfl,rfl,by omega,by omega,hl1,hp1,by dsimp; omega,by dsimp; omega⟩
 simp only[Lnk.ok,qd3,Wh,decide_eq_true_eq]
 omega
def rws(src pat lnk com cra wat:List (List D)):List HV:=[qaM 1 src,qaM 1 pat,qaM 4 lnk,qaM 5 com,qaM 1 cra,qaM 1 wat]
theorem qzs{α : Type}{l:List α}(h:7=l.length) : ∃ a b c d e f g,l=[a,b,c,d,e,f,g]:=by
 match l,h with
 |[a,b,c,d,e,f,g],_=>exact⟨a,b,c,d,e,f,g,rfl⟩
section
variable{ks:List Int}{S:List D}{n:Nat}
structure Open(σ : Pm.S)(ks:List Int)(S:List D)(src pat lnk com cra wat:List (List D))(w:Int)(kl l:Nat)(z:V)(v1 v2 v3 v4 v5 v6:V):Prop where
 cl:Cl σ
 own:Own σ [l,kl] [(qaM 1 src,v1),(qaM 1 pat,v2),(qaM 4 lnk,v3),(qaM 5 com,v4),(qaM 1 cra,v5),(qaM 1 wat,v6),(zrT,z)]
 gk : σ[kl]?=some (.vec (ints ks))
 gl : σ[l]?=some (.cells (S.map .dat++[v1,v2,v3,v4,v5,v6,.int w]))
theorem qkh(ks:List Int):ints ks=(intsC ks).map .dat:=by simp[ints,intsC]
theorem qdy {σ : Pm.S} {src pat lnk com cra wat:List (List D)} {w:Int} {kv lv z:V} (hσ : Cl σ) (h:Own σ [] [(ksT ks,kv),(scT S (rws src pat lnk com cra wat) w,lv),(zrT,z)]) :
  ∃ kl l v1 v2 v3 v4 v5 v6,kv = .own kl 40 1/\lv = .ptr l 0/\Open σ ks S src pat lnk com cra wat w kl l z v1 v2 v3 v4 v5 v6:=by
 obtain⟨kl,vs0,e1,g0,hs0,o1⟩:=qdC h
 obtain⟨ev,o2⟩:=qcV (by simpa using hs0) o1
 obtain⟨l,vs1,e2,g1,hs1,o3⟩:=qiv o2
 obtain⟨v1,v2,v3,v4,v5,v6,v7,rfl⟩:=qzs hs1
 have o4:=qaT (as:=[_,_,_,_,_,_]) (by simpa only [rws,Wu,Wk,List.zip_cons_cons,List.zip_nil_left] using o3)
 obtain⟨e7,o5⟩:=qfn o4
 subst e7 ev
 exact⟨kl,l,v1,v2,v3,v4,v5,v6,e1,e2,hσ,o5,by rw[g0,qkh],g1⟩
theorem qel {σ : Pm.S} {src pat lnk com cra wat:List (List D)} {w:Int} {kl l:Nat} {z v1 v2 v3 v4 v5 v6:V} (h:Open σ ks S src pat lnk com cra wat w kl l z v1 v2 v3 v4 v5 v6) :
  Own σ [] [(ksT ks,.own kl 40 1),(scT S (rws src pat lnk com cra wat) w,.ptr l 0),(zrT,z)]:=by
 have o1:=qbn (as:=[_,_,_,_,_,_]) (qgq h.own (di w))
 have o2:=qdZ (l:=l) (os:=[kl]) (w := .ptr 0 0) (ds:=S) (hs:=rws src pat lnk com cra wat++[.dat (di w)]) (vs:=[v1,v2,v3,v4,v5,v6,.int w]) (ps:=[(zrT,z)]) o1 rfl rfl h.gl
 exact qcm (l:=kl) (os:=[]) (w := .own 0 40 1) (hs:=(intsC ks).map .dat) (vs:=(intsC ks).map .dat) (qbJ o2 _) rfl (by simp) (by rw[<- qkh]; exact h.gk)
end
end
end Go.Pm
