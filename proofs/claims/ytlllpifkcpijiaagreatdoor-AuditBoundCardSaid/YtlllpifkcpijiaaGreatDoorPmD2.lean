/- Rows of the program's own: written to, grown, cut, handed on. -/
import Derived.Test.YtlllpifkcpijiaaGreatDoorPmA
import Derived.Laws.Small
import Derived.Lib.ConvBytes
import Derived.Laws.StructEq
import Derived.ChangeKeysEq
import Derived.IntWalk
set_option linter.unusedSimpArgs false
set_option linter.unusedVariables false
namespace Go.Pm
section
theorem quL {fid:Fid} {Γ : Ctx} (hr:Real fid Γ) {l b:Nat} {cs cs':List V} {w':World} {arr arr':Array Value} {e:TypeId} (ho : Γ.σ[l]?=some (.vec cs)) (hm : Γ.μ l=some b) (hl:cs.length<=cs'.length)
  (hw:WOnly b Γ.w w') (ha : Γ.w.heap[b]?=some (.cells arr e (0,0))) (ha':w'.heap[b]?=some (.cells arr' e (0,0))) (hs:arr'.size=arr.size)
  (hp : ∀ i v,i < Γ.F b -> Γ.w.cell? ⟨b,i,none⟩=some v->w'.cell? ⟨b,i,none⟩=some v)
  (hn:Ext Γ ⟨Γ.σ.set l (.vec cs'),Γ.μ,Γ.F,w'⟩->RepOb fid ⟨Γ.σ.set l (.vec cs'),Γ.μ,Γ.F,w'⟩ b (.vec cs')) :
  Real fid ⟨Γ.σ.set l (.vec cs'),Γ.μ,Γ.F,w'⟩/\Step Γ ⟨Γ.σ.set l (.vec cs'),Γ.μ,Γ.F,w'⟩:=by
 have hlt:l < Γ.σ.length:=(List.getElem?_eq_some_iff.1 ho).1
 have hext:Ext Γ ⟨Γ.σ.set l (.vec cs'),Γ.μ,Γ.F,w'⟩:=by
  refine⟨Nat.le_of_eq hw.size.symm,hw.os,hw.tape,hw.output,fun _=>Nat.le_refl _,fun k i v hi hv=>?_,fun k a2 e2 hk h2=>?_,by simp,fun j o hj hjt=>⟨⟨o,?_,hjt⟩,fun _ h=>h⟩,fun j m hj=>⟨m,?_,Nat.le_refl _,fun h=>h,fun _ _ h=>h⟩,fun j o hj hjt=>?_⟩
  ·by_cases e:k=b
   ·subst e; exact hp i v hi hv
   ·rw[cell?_of_block (hw.other k e)]; exact hv
  ·by_cases e:k=b
   ·subst e; rw[ha] at h2; cases h2; exact⟨arr',ha',hs⟩
   ·exact⟨a2,by rw[hw.other k e]; exact h2,rfl⟩
  ·have e:l≠j:=fun e=>by subst e; rw[ho] at hj; cases hj; cases hjt
   rw[List.getElem?_set_ne e]; exact hj
  ·grind
  ·by_cases e:l=j
   ·subst e
    rw[ho] at hj; cases hj
    refine⟨.vec cs',by simp[hlt],rfl,fun c hc=>?_⟩
    simp only[Ob.rows,Option.some.injEq] at hc; subst hc
    refine⟨cs,rfl,hl,fun _ k hk=>⟨hk,rfl,fun a t h=>?_⟩⟩
    rw[hm] at hk; cases hk
    rw[ha] at h; cases h
    exact⟨arr',ha',hs⟩
   ·refine⟨o,by rw[List.getElem?_set_ne e]; exact hj,hjt,fun c hc=>⟨c,hc,Nat.le_refl _,fun _ k hk=>⟨hk,rfl,fun a t h=>⟨a,?_,rfl⟩⟩⟩⟩
    have:k≠b:=fun e'=>by subst e'; exact e (hr.inj _ _ _ hm hk)
    rw[hw.other k this]; exact h
 refine⟨⟨fun j o k hj hk=>?_,fun j k hk=>?_,hr.inj,fun k hk=>?_,Glb.ext hext hr.glb⟩,hext,⟨fun k hk hno=>⟨hw.other k fun e=>by subst e; exact hno l hm,rfl⟩,fun j k hj _=>⟨j,hj⟩⟩,fun _ _ h=>h⟩
 ·by_cases e:l=j
  ·grind
  ·rw[List.getElem?_set_ne e] at hj
   have hb:k≠b:=fun e'=>by subst e'; exact e (hr.inj _ _ _ hm hk)
   exact RepOb.ext hext (hw.other k hb) rfl o (hr.obs j o k hj hk)
 ·have:=hr.dom j k hk
  exact⟨by simpa using this.1,by rw[hw.size]; exact this.2⟩
 ·obtain⟨a1,e1,fz,h1,h2⟩:=hr.imm k hk
  by_cases e':k=b
  ·subst e'
   rw[ha] at h1; cases h1
   exact⟨arr',e,_,ha',by rw[hs]; exact h2⟩
  ·exact⟨a1,e1,fz,by rw[hw.other k e']; exact h1,h2⟩
theorem qqS {fid:Fid} {Γ : Ctx} (hr:Real fid Γ) {l:Nat} {cs cs':List V} (ho : Γ.σ[l]?=some (.vec cs)) (hsome:(Γ.μ l).isSome=true) (hl:cs.length<cs'.length) (arr:Array Value) (e:TypeId)
  (hn:Ext Γ ⟨Γ.σ.set l (.vec cs'),bind Γ.μ l Γ.w.heap.size,grow Γ.F Γ.w.heap.size 0,Γ.w.alloc (.cells arr e)⟩->RepOb fid ⟨Γ.σ.set l (.vec cs'),bind Γ.μ l Γ.w.heap.size,grow Γ.F Γ.w.heap.size 0,Γ.w.alloc (.cells arr e)⟩ Γ.w.heap.size (.vec cs')) :
  Real fid ⟨Γ.σ.set l (.vec cs'),bind Γ.μ l Γ.w.heap.size,grow Γ.F Γ.w.heap.size 0,Γ.w.alloc (.cells arr e)⟩ /\
  Step Γ ⟨Γ.σ.set l (.vec cs'),bind Γ.μ l Γ.w.heap.size,grow Γ.F Γ.w.heap.size 0,Γ.w.alloc (.cells arr e)⟩:=by
 have hlt:=(List.getElem?_eq_some_iff.1 ho).1
 have hext:Ext Γ ⟨Γ.σ.set l (.vec cs'),bind Γ.μ l Γ.w.heap.size,grow Γ.F Γ.w.heap.size 0,Γ.w.alloc (.cells arr e)⟩:=by
  have hal : ∀ b,b < Γ.w.heap.size->(Γ.w.alloc (.cells arr e)).heap[b]? = Γ.w.heap[b]?:=fun b hb=>qap _ _ hb
  refine⟨by simp,rfl,rfl,rfl,fun b=>?_,fun b i v hi hv=>?_,fun b a t hb ha=>⟨a,?_,rfl⟩,by simp,fun j o hj hjt=>?_,fun j m hj=>?_,fun j o hj hjt=>?_⟩
  ·simp only[grow]; split
   ·rename_i e; subst e; rw[hr.F_size]; exact Nat.le_refl _
   ·exact Nat.le_refl _
  ·rw[cell?_of_block (hal b (hr.F_lt (by omega)))]; exact hv
  ·rw[hal b (hr.F_lt hb)]; exact ha
  ·have e:l≠j:=fun e=>by subst e; rw[ho] at hj; cases hj; cases hjt
   exact⟨⟨o,by rw[List.getElem?_set_ne e]; exact hj,hjt⟩,fun b hb=>by simp only[bind]; rw[if_neg (Ne.symm e)]; exact hb⟩
  ·have e:l≠j:=fun e=>by subst e; rw[ho] at hj; cases hj
   exact⟨m,by rw[List.getElem?_set_ne e]; exact hj,Nat.le_refl _,fun hs=>by simp only[bind]; rw[if_neg (Ne.symm e)]; exact hs,fun _ b hb=>by simp only[bind]; rw[if_neg (Ne.symm e)]; exact hb⟩
  ·by_cases e:l=j
   ·subst e
    rw[ho] at hj; cases hj
    refine⟨.vec cs',by simp[hlt],rfl,fun c hc=>?_⟩
    simp only[Ob.rows,Option.some.injEq] at hc; subst hc
    exact⟨cs,rfl,Nat.le_of_lt hl,fun h=>by omega⟩
   ·refine⟨o,by rw[List.getElem?_set_ne e]; exact hj,hjt,fun c hc=>⟨c,hc,Nat.le_refl _,fun _ k hk=>?_⟩⟩
    have hk':=(hr.dom j k hk).2
    exact⟨by simp only[bind]; rw[if_neg (Ne.symm e)]; exact hk,by simp only[grow]; rw[if_neg (by omega)],fun a t h=>⟨a,(hal k hk').trans h,rfl⟩⟩
 refine⟨⟨fun j ob' b h1 h2=>?_,fun j b h=>?_,fun j j' b h h'=>?_,fun b hb=>?_,Glb.ext hext hr.glb⟩,hext,⟨fun b hb hn=>⟨qap _ _ hb,?_⟩,fun j b h hb=>?_⟩,fun j _ h=>by simp only[bind]; rw[if_neg (fun e=>by subst e; rw[h] at hsome; cases hsome)]; exact h⟩
 ·simp only[bind] at h2
  split at h2
  ·grind
  ·rename_i e'
   have hd:=hr.dom j b h2
   simp only at h1
   rw[List.getElem?_set_ne (Ne.symm e')] at h1
   exact RepOb.ext hext (qap _ _ hd.2) (by simp only[grow]; rw[if_neg (by omega)]) ob' (hr.obs j ob' b h1 h2)
 ·simp only[bind] at h
  split at h
  ·rename_i e'; subst e'; cases h; simp[hlt]
  ·have:=hr.dom j b h
   exact⟨by simpa using this.1,by simp; omega⟩
 ·simp only[bind] at h h'
  split at h<;>split at h'
  ·rename_i e e'; exact e.trans e'.symm
  ·cases h; have:=(hr.dom j' _ h').2; omega
  ·cases h'; have:=(hr.dom j _ h).2; omega
  ·exact hr.inj j j' b h h'
 ·simp only[grow] at hb ⊢
  split at hb
  ·omega
  ·rename_i e'
   obtain⟨a,t,fz,h1,h2⟩:=hr.imm b hb
   exact⟨a,t,fz,by rw[qap _ _ (qbP h1)]; exact h1,by simpa [e'] using h2⟩
 ·simp only[grow]; rw[if_neg (by omega)]
 ·grind [bind]
theorem qno {fid:Fid} {Γ : Ctx} (hr:Real fid Γ) {l b:Nat} {cs:List V} {ds:List D} (ho : Γ.σ[l]?=some (.vec cs)) (hm : Γ.μ l=some b) (hl:ds.length=cs.length)
  (hn:Ext Γ ⟨Γ.σ.set l (.froz ds),Γ.μ,grow Γ.F b (Γ.F b+ds.length),Γ.w⟩->RepOb fid ⟨Γ.σ.set l (.froz ds),Γ.μ,grow Γ.F b (Γ.F b+ds.length),Γ.w⟩ b (.froz ds)) :
  Real fid ⟨Γ.σ.set l (.froz ds),Γ.μ,grow Γ.F b (Γ.F b+ds.length),Γ.w⟩/\Step Γ ⟨Γ.σ.set l (.froz ds),Γ.μ,grow Γ.F b (Γ.F b+ds.length),Γ.w⟩:=by
 have hob:=hr.obs l _ b ho hm
 simp only[RepOb] at hob
 obtain⟨arr,e,ha,hle,_,_⟩:=hob
 have hlt:l < Γ.σ.length:=(List.getElem?_eq_some_iff.1 ho).1
 have hext:Ext Γ ⟨Γ.σ.set l (.froz ds),Γ.μ,grow Γ.F b (Γ.F b+ds.length),Γ.w⟩:=by
  refine⟨Nat.le_refl _,rfl,rfl,rfl,fun k=>?_,fun k i v hi hv=>hv,fun k arr e hk ha=>⟨arr,ha,rfl⟩,by simp,fun j o hj hjt=>⟨⟨o,?_,hjt⟩,fun _ h=>h⟩,fun j m hj=>⟨m,?_,Nat.le_refl _,fun h=>h,fun _ _ h=>h⟩,fun j o hj hjt=>?_⟩
  ·grind [grow]
  ·have e:l≠j:=fun e=>by subst e; rw[ho] at hj; cases hj; cases hjt
   rw[List.getElem?_set_ne e]; exact hj
  ·grind
  ·by_cases e:l=j
   ·subst e
    rw[ho] at hj; cases hj
    refine⟨.froz ds,by simp[hlt],rfl,fun c hc=>?_⟩
    simp only[Ob.rows,Option.some.injEq] at hc; subst hc
    refine⟨cs,rfl,by simp[hl],fun _ k hk=>⟨hk,?_,fun a t h=>⟨a,h,rfl⟩⟩⟩
    rw[hm] at hk; cases hk
    simp[grow,Ob.fz]
   ·refine⟨o,by rw[List.getElem?_set_ne e]; exact hj,hjt,fun c hc=>⟨c,hc,Nat.le_refl _,fun _ k hk=>⟨hk,?_,fun a t h=>⟨a,h,rfl⟩⟩⟩⟩
    have:k≠b:=fun e'=>by subst e'; exact e (hr.inj _ _ _ hm hk)
    simp only[grow]; rw[if_neg this]
 refine⟨⟨fun j o k hj hk=>?_,fun j k hk=>?_,hr.inj,fun k hk=>?_,Glb.ext hext hr.glb⟩,hext,⟨fun k hk hno=>⟨rfl,?_⟩,fun j k hj _=>⟨j,hj⟩⟩,fun _ _ h=>h⟩
 ·by_cases e:l=j
  ·grind
  ·rw[List.getElem?_set_ne e] at hj
   have hb:k≠b:=fun e'=>by subst e'; exact e (hr.inj _ _ _ hm hk)
   exact RepOb.ext hext rfl (by simp only[grow]; rw[if_neg hb]) o (hr.obs j o k hj hk)
 ·have:=hr.dom j k hk
  exact⟨by simpa using this.1,this.2⟩
 ·simp only[grow] at hk ⊢
  split at hk
  ·grind
  ·rename_i e'
   obtain⟨a,t,fz,h1,h2⟩:=hr.imm k hk
   exact⟨a,t,fz,h1,by simpa [e'] using h2⟩
 ·grind [grow]
def pass(μ : Nat->Option Nat)(l n:Nat):Nat->Option Nat:=fun j=>if j=n then μ l else if j=l then none else μ j
theorem qpC {fid:Fid} {Γ : Ctx} (hr:Real fid Γ) {l b:Nat} {cs cs':List V} (ho : Γ.σ[l]?=some (.vec cs)) (hm : Γ.μ l=some b) {n:Nat} (hnF : Γ.F b<=n) {arr:Array Value} {e:TypeId} (ha : Γ.w.heap[b]?=some (.cells arr e (0,0))) (hna:n<=arr.size)
  (hn:Ext Γ ⟨Γ.σ.set l .dead++[.vec cs'],pass Γ.μ l Γ.σ.length,grow Γ.F b n,Γ.w⟩->RepOb fid ⟨Γ.σ.set l .dead++[.vec cs'],pass Γ.μ l Γ.σ.length,grow Γ.F b n,Γ.w⟩ b (.vec cs')) :
  Real fid ⟨Γ.σ.set l .dead++[.vec cs'],pass Γ.μ l Γ.σ.length,grow Γ.F b n,Γ.w⟩/\Step Γ ⟨Γ.σ.set l .dead++[.vec cs'],pass Γ.μ l Γ.σ.length,grow Γ.F b n,Γ.w⟩:=by
 have hlt:l < Γ.σ.length:=(List.getElem?_eq_some_iff.1 ho).1
 have hget : ∀ j,j < Γ.σ.length->l≠j->(Γ.σ.set l .dead++[Ob.vec cs'])[j]? = Γ.σ[j]?:=fun j hj e=>by grind
 have hself:(Γ.σ.set l .dead++[Ob.vec cs'])[l]?=some .dead:=by grind
 have hlast:(Γ.σ.set l .dead++[Ob.vec cs'])[Γ.σ.length]?=some (.vec cs'):=by
  rw[List.getElem?_append_right (by simp)]; simp
 have hμ : ∀ j,j < Γ.σ.length->l≠j->pass Γ.μ l Γ.σ.length j = Γ.μ j:=fun j hj e=>by grind [pass]
 have hext:Ext Γ ⟨Γ.σ.set l .dead++[.vec cs'],pass Γ.μ l Γ.σ.length,grow Γ.F b n,Γ.w⟩:=by
  refine⟨Nat.le_refl _,rfl,rfl,rfl,fun k=>by grind [grow],fun k i v hi hv=>hv,fun k arr e hk ha=>⟨arr,ha,rfl⟩,by simp,fun j o hj hjt=>?_,fun j m hj=>?_,qdC fun j o hj hjt=>?_⟩
  ·have e:l≠j:=fun e=>by subst e; rw[ho] at hj; cases hj; cases hjt
   have hj':=(List.getElem?_eq_some_iff.1 hj).1
   exact⟨⟨o,by rw[hget j hj' e]; exact hj,hjt⟩,fun k hk=>(hμ j hj' e).trans hk⟩
  ·have e:l≠j:=fun e=>by subst e; rw[ho] at hj; cases hj
   have hj':=(List.getElem?_eq_some_iff.1 hj).1
   exact⟨m,by rw[hget j hj' e]; exact hj,Nat.le_refl _,fun h=>show (pass Γ.μ l Γ.σ.length j).isSome=true from by rw[hμ j hj' e]; exact h,fun _ k hk=>(hμ j hj' e).trans hk⟩
  ·have hj':=(List.getElem?_eq_some_iff.1 hj).1
   by_cases e:l=j
   ·subst e; exact .inr ⟨.dead,hself,rfl,rfl⟩
   ·refine .inl ⟨by rw[hget j hj' e]; exact hj,fun k hk=>⟨(hμ j hj' e).trans hk,?_,fun _ _ h=>h⟩⟩
    have:k≠b:=fun e'=>by subst e'; exact e (hr.inj _ _ _ hm hk)
    simp only[grow]; rw[if_neg this]
 have hback : ∀ j k,pass Γ.μ l Γ.σ.length j=some k->(j = Γ.σ.length/\k=b)\/(j≠l/\j < Γ.σ.length /\ Γ.μ j=some k):=fun j k hk=>by
  simp only[pass] at hk
  split at hk
  ·rename_i e; rw[hm] at hk; cases hk; exact .inl ⟨e,rfl⟩
  ·split at hk
   ·cases hk
   ·rename_i h1 h2; exact .inr ⟨h2,(hr.dom j k hk).1,hk⟩
 refine⟨⟨fun j o k hj hk=>?_,fun j k hk=>?_,fun j j' k hk hk'=>?_,fun k hk=>?_,Glb.ext hext hr.glb⟩,hext,⟨fun k hk hno=>⟨rfl,by simp only[grow]; rw[if_neg (fun e'=>by subst e'; exact hno l hm)]⟩,fun j k hj _=>?_⟩,fun j hj hn=>?_⟩
 ·rcases hback j k hk with ⟨rfl,rfl⟩|⟨h1,h2,h3⟩
  ·rw[hlast] at hj; cases hj
   exact hn hext
  ·simp only at hj
   rw[hget j h2 (Ne.symm h1)] at hj
   have hb:k≠b:=fun e'=>by subst e'; exact h1 (hr.inj _ _ _ h3 hm)
   exact RepOb.ext hext rfl (by simp only[grow]; rw[if_neg hb]) o (hr.obs j o k hj h3)
 ·rcases hback j k hk with ⟨rfl,rfl⟩|⟨h1,h2,h3⟩
  ·exact⟨by simp,(hr.dom l _ hm).2⟩
  ·exact⟨by simp; omega,(hr.dom j k h3).2⟩
 ·rcases hback j k hk with ⟨rfl,rfl⟩|⟨h1,h2,h3⟩<;>rcases hback j' k hk' with ⟨k1,k2⟩|⟨k1,k2,k3⟩
  ·exact k1.symm
  ·exact absurd (hr.inj _ _ _ k3 hm) k1
  ·subst k2; exact absurd (hr.inj _ _ _ h3 hm) h1
  ·exact hr.inj j j' k h3 k3
 ·simp only[grow] at hk ⊢
  split at hk
  ·rename_i e'; subst e'; exact⟨arr,e,_,ha,by simpa using hna⟩
  ·rename_i e'
   obtain⟨a,t,fz,h1,h2⟩:=hr.imm k hk
   exact⟨a,t,fz,h1,by simpa [e'] using h2⟩
 ·grind
 ·grind
theorem qnp {fid:Fid} {Γ : Ctx} (hr:Real fid Γ) {b n:Nat} (hF : Γ.F b<=n) (hno : ∀ l,Γ.μ l≠some b) {arr:Array Value} {e:TypeId} (ha : Γ.w.heap[b]?=some (.cells arr e (0,0))) (hle:n<=arr.size) :
  Real fid ⟨Γ.σ,Γ.μ,grow Γ.F b n,Γ.w⟩/\Ext Γ ⟨Γ.σ,Γ.μ,grow Γ.F b n,Γ.w⟩ /\
  ∀ Γ0,Step Γ0 Γ -> (b < Γ0.w.heap.size -> ∃ l,Γ0.μ l=some b)->Step Γ0 ⟨Γ.σ,Γ.μ,grow Γ.F b n,Γ.w⟩:=by
 have hext:Ext Γ ⟨Γ.σ,Γ.μ,grow Γ.F b n,Γ.w⟩:=by
  refine⟨Nat.le_refl _,rfl,rfl,rfl,fun k=>?_,fun k i v hi hv=>hv,fun k arr e hk ha=>⟨arr,ha,rfl⟩,Nat.le_refl _,fun j o hj hjt=>⟨⟨o,hj,hjt⟩,fun _ h=>h⟩,fun j m hj=>⟨m,hj,Nat.le_refl _,fun h=>h,fun _ _ h=>h⟩,
   qdC fun j o hj hjt => .inl ⟨hj,fun k hk=>⟨hk,by simp only[grow]; rw[if_neg (fun e'=>by subst e'; exact hno j hk)],fun _ _ h=>h⟩⟩⟩
  simp only[grow]; split
  ·rename_i e; subst e; omega
  ·exact Nat.le_refl _
 refine⟨⟨fun j o k hj hk=>?_,hr.dom,hr.inj,fun k hk=>?_,Glb.ext hext hr.glb⟩,hext,fun Γ0 hs hb0=>⟨hs.ext.trans hext,⟨fun k hk hn=>?_,hs.frm.new⟩,hs.non⟩⟩
 ·have hb:k≠b:=fun e'=>by subst e'; exact hno j hk
  exact RepOb.ext hext rfl (by simp only[grow]; rw[if_neg hb]) o (hr.obs j o k hj hk)
 ·simp only[grow] at hk ⊢
  split at hk
  ·grind
  ·rename_i e'
   obtain⟨a,t,fz,h1,h2⟩:=hr.imm k hk
   exact⟨a,t,fz,h1,by simpa [e'] using h2⟩
 ·have hb:k≠b:=fun e'=>by
   subst e'
   obtain⟨l,hl⟩:=hb0 hk
   exact hn l hl
  obtain⟨h1,h2⟩:=hs.frm.same k hk hn
  exact⟨h1,by simp only[grow]; rw[if_neg hb]; exact h2⟩
end
section
variable{P:Program}
theorem qak{t:TypeId}{d:TypeDesc}(h:P.underlying t=some d)(w:World):(underlying t).run P w = .ok d w:=by
 simp[underlying,h]
theorem qaO{t:TypeId}{i:TypeInfo}(h:P.info? t=some i)(w:World):(typeInfo t).run P w = .ok i w:=by
 simp[typeInfo,h]
theorem qaw{t:TypeId}{n:Nat}(h:qax P t=some n)(w:World):(sizeOf t).run P w = .ok n w:=by
 unfold qax at h
 cases hi:P.info? t with
 |none=>rw[hi] at h; cases h
 |some i=>rw[hi] at h; cases h; simp[sizeOf,qaO hi]
theorem qaL{t:TypeId}{z:Value}(h:qbK P t=some z)(w:World):(zeroValue t).run P w = .ok z w:=by
 unfold qbK at h
 cases hi:P.info? t with
 |none=>rw[hi] at h; cases h
 |some i=>
  rw[hi] at h
  simp only[Option.bind_some] at h
  cases hz:i.zero with
  |none=>rw[hz] at h; cases h
  |some z'=>
   rw[hz] at h
   simp only at h
   split at h
   ·cases h; simp[zeroValue,qaO hi,hz]
   ·cases h
theorem qa1{t:TypeId}{z:Value}(h:qbK P t=some z):qdd z=true:=by
 unfold qbK at h
 split at h
 ·split at h
  ·rename_i hz; cases h; exact hz
  ·cases h
 ·cases h
theorem qb2{t:TypeId}{b:Bool}(h:qaz P t=some b)(w:World):(isAgg t).run P w = .ok b w:=by
 unfold qaz at h
 cases hu:P.underlying t with
 |none=>rw[hu] at h; cases h
 |some d=>
  rw[hu] at h
  simp only[isAgg,Sem.run_bind,qak hu,Result.andThen_ok]
  cases d<;>simp_all
theorem qaT(b o i:Nat):(⟨b,o,none⟩:Addr).add i=⟨b,o+i,none⟩:=by
 unfold Addr.add
 split
 ·rename_i h; subst h; rfl
 ·rfl
theorem qic{a:Addr}{v:Value}{w:World}(h:w.cell? a=some v):(load a).run P w = .ok v w:=by
 simp[h]
theorem qcZ (w:World) (b o:Nat) : ∀ (vs:List Value) (i:Nat) (acc:Array Value),
  (∀ j v,vs[j]?=some v->w.cell? ⟨b,o+(i+j),none⟩=some v) ->
  (loadCellsFrom ⟨b,o,none⟩ i vs.length acc).run P w = .ok (acc++vs.toArray) w
 |[],i,acc,_=>by simp[loadCellsFrom]
 |v::vs,i,acc,h=>by
  have h0:=h 0 v (by simp)
  have ih:=qcZ w b o vs (i+1) (acc.push v) (fun j u hj=>by
   have:=h (j+1) u (by simpa using hj)
   rw[show i+1+j=i+(j+1) from by omega]; exact this)
  simp only[List.length_cons,loadCellsFrom,Sem.run_bind,qaT]
  rw[qic (by simpa using h0)]
  simp only[Result.andThen_ok,ih]
  congr 1
  apply Array.ext'
  simp
theorem qaM {w:World} {b o:Nat} {vs:List Value} (h : ∀ j v,vs[j]?=some v->w.cell? ⟨b,o+j,none⟩=some v) :
  (loadCells ⟨b,o,none⟩ vs.length).run P w = .ok vs.toArray w:=by
 have:=qcZ (P:=P) w b o vs 0 #[] (by simpa using h)
 simpa [loadCells] using this
theorem qdH {t:TypeId} {w:World} {b o:Nat} {vs:List Value} (ha:qaz P t=some true) (hs:qax P t=some vs.length)
  (h : ∀ j v,vs[j]?=some v->w.cell? ⟨b,o+j,none⟩=some v):(loadVar t ⟨b,o,none⟩).run P w = .ok (.agg vs.toArray) w:=by
 simp[loadVar,qb2 ha,qaw hs,qaM h]
theorem qdI {t:TypeId} {w:World} {a:Addr} {v:Value} (ha:qaz P t=some false) (h:w.cell? a=some v) :
  (loadVar t a).run P w = .ok v w:=by
 simp only[loadVar,Sem.run_bind,qb2 ha,Result.andThen_ok]
 simp[h]
theorem qaX : ∀ (vs:List Value) (i:Nat) (w:World) (b o:Nat) (arr:Array Value) (e:TypeId),
  w.heap[b]?=some (.cells arr e (0,0))->(∀ v∈vs,v.oneCell'=true)->o+i+vs.length<=arr.size ->
  ∃ w',(storeCells ⟨b,o,none⟩ vs i).run P w = .ok () w'/\WOnly b w w' /\
   ∃ arr',w'.heap[b]?=some (.cells arr' e (0,0))/\arr'.toList=arr.toList.take (o+i)++(vs++arr.toList.drop (o+i+vs.length))
 |[],i,w,b,o,arr,e,hb,_,_=>⟨w,by simp[storeCells],.refl _ _,arr,hb,by simp⟩
 |v::vs,i,w,b,o,arr,e,hb,h1,hlen=>by
  simp only[List.length_cons] at hlen
  have hcell : ∃ u,w.cell? ⟨b,o+i,none⟩=some u:=by
   refine⟨arr[o+i]'(by omega),?_⟩
   simp only[World.cell?,hb]
   simp
  obtain⟨u,hu⟩:=hcell
  have hfz:w.frozen? ⟨b,o+i,none⟩=false:=by simp[World.frozen?,hb]
  have hb':(w.setCell ⟨b,o+i,none⟩ v).heap[b]?=some (.cells (arr.setIfInBounds (o+i) v) e (0,0)):=by
   simp only[World.setCell,Array.getElem?_modify,hb]
   simp
  have hw:WOnly b w (w.setCell ⟨b,o+i,none⟩ v):=⟨rfl,rfl,rfl,by simp,fun k hk=>by simp only[World.setCell,Array.getElem?_modify]; rw[if_neg (Ne.symm hk)]⟩
  obtain⟨w',hr,hw',arr',ha',hl⟩:=qaX vs (i+1) (w.setCell ⟨b,o+i,none⟩ v) b o (arr.setIfInBounds (o+i) v) e hb'
   (fun x hx=>h1 x (List.mem_cons_of_mem _ hx)) (by simp; omega)
  refine⟨w',?_,hw.trans hw',arr',ha',?_⟩
  ·simp only[storeCells,Sem.run_bind,qaT]
   rw[run_store P w _ v .plain (h1 v (by simp)),hu]
   simp[hfz,hr]
  ·rw[hl,Array.toList_setIfInBounds]
   have hlt:o+i<arr.toList.length:=by rw[Array.length_toList]; omega
   rw[show o+(i+1)=o+i+1 from by omega]
   rw[List.take_succ_eq_append_getElem (by simpa using hlt),List.getElem_set_self,List.take_set_of_le (Nat.le_refl _),List.drop_set_of_lt (by omega)]
   simp
   try omega
theorem qdJ {t:TypeId} {x:Value} {n:Nat} {w:World} {b o:Nat} {arr:Array Value} {e:TypeId} (hs:qax P t=some n) (hx:x.cells.size=n)
  (hb:w.heap[b]?=some (.cells arr e (0,0))) (h1 : ∀ v∈x.cells.toList,v.oneCell'=true) (hlen:o+n<=arr.size) :
  ∃ w',(storeVar t ⟨b,o,none⟩ x).run P w = .ok () w'/\WOnly b w w' /\
   ∃ arr',w'.heap[b]?=some (.cells arr' e (0,0))/\arr'.toList=arr.toList.take o++(x.cells.toList++arr.toList.drop (o+n)):=by
 obtain⟨w',h1,h2,arr',h3,h4⟩:=qaX (P:=P) x.cells.toList 0 w b o arr e hb h1 (by simp[hx]; omega)
 refine⟨w',?_,h2,arr',h3,by simpa [hx] using h4⟩
 simp only[storeVar,Sem.run_bind,qaw hs,Result.andThen_ok]
 simp[hx,h1]
theorem RepDs_append{F:Nat->Nat}{w:World} : ∀ {a b:List D} {xs:List Value},RepDs F w (a++b) xs ↔ ∃ ys zs,xs=ys++zs/\RepDs F w a ys/\RepDs F w b zs
 |[],b,xs=>by
  simp only[List.nil_append,RepDs]
  exact⟨fun h=>⟨[],xs,rfl,rfl,h⟩,fun ⟨ys,zs,h1,h2,h3⟩=>by subst h2; simpa [h1] using h3⟩
 |d::a,b,xs=>by
  simp only[List.cons_append,RepDs,RepDs_append (a:=a) (b:=b)]
  constructor
  ·rintro ⟨x,ys,rfl,h1,y,z,rfl,h2,h3⟩
   exact⟨x::y,z,rfl,⟨x,y,rfl,h1,h2⟩,h3⟩
  ·rintro ⟨ys,zs,rfl,⟨x,y,rfl,h1,h2⟩,h3⟩
   exact⟨x,y++zs,rfl,h1,y,zs,rfl,h2,h3⟩
theorem Reps_append{fid:Fid}{Γ : Ctx} : ∀ {a b:List V} {xs:List Value},Reps fid Γ (a++b) xs ↔ ∃ ys zs,xs=ys++zs/\Reps fid Γ a ys/\Reps fid Γ b zs
 |[],b,xs=>by
  simp only[List.nil_append,Reps]
  exact⟨fun h=>⟨[],xs,rfl,rfl,h⟩,fun ⟨ys,zs,h1,h2,h3⟩=>by subst h2; simpa [h1] using h3⟩
 |d::a,b,xs=>by
  simp only[List.cons_append,Reps,Reps_append (a:=a) (b:=b)]
  constructor
  ·rintro ⟨x,ys,rfl,h1,y,z,rfl,h2,h3⟩
   exact⟨x::y,z,rfl,⟨x,y,rfl,h1,h2⟩,h3⟩
  ·rintro ⟨ys,zs,rfl,⟨x,y,rfl,h1,h2⟩,h3⟩
   exact⟨x,y++zs,rfl,h1,y,zs,rfl,h2,h3⟩
theorem qdZ{F:Nat->Nat}{w:World}{ds:List D}{xs:List Value}(h:RepDs F w ds xs)(n:Nat):RepDs F w (ds.drop n) (xs.drop n):=by
 by_cases hn:n<=ds.length
 ·obtain⟨a,b,rfl,rfl⟩ : ∃ a b,ds=a++b/\a.length=n:=⟨ds.take n,ds.drop n,(List.take_append_drop n ds).symm,by simp; omega⟩
  obtain⟨ys,zs,rfl,h1,h2⟩:=RepDs_append.1 h
  have:=h1.length
  rw[List.drop_left' rfl,List.drop_left' (by omega)]
  exact h2
 ·rw[List.drop_of_length_le (by omega),List.drop_of_length_le (by have:=h.length; omega)]
  simp[RepDs]
theorem qd0{F:Nat->Nat}{w:World}{ds:List D}{xs:List Value}(h:RepDs F w ds xs)(n:Nat):RepDs F w (ds.take n) (xs.take n):=by
 by_cases hn:n<=ds.length
 ·obtain⟨a,b,rfl,rfl⟩ : ∃ a b,ds=a++b/\a.length=n:=⟨ds.take n,ds.drop n,(List.take_append_drop n ds).symm,by simp; omega⟩
  obtain⟨ys,zs,rfl,h1,h2⟩:=RepDs_append.1 h
  have:=h1.length
  rw[List.take_left' rfl,List.take_left' (by omega)]
  exact h1
 ·rw[List.take_of_length_le (by omega),List.take_of_length_le (by have:=h.length; omega)]
  exact h
theorem qbw{fid:Fid}{Γ : Ctx}{ds:List V}{xs:List Value}(h:Reps fid Γ ds xs)(n:Nat):Reps fid Γ (ds.drop n) (xs.drop n):=by
 by_cases hn:n<=ds.length
 ·obtain⟨a,b,rfl,rfl⟩ : ∃ a b,ds=a++b/\a.length=n:=⟨ds.take n,ds.drop n,(List.take_append_drop n ds).symm,by simp; omega⟩
  obtain⟨ys,zs,rfl,h1,h2⟩:=Reps_append.1 h
  have:=h1.length
  rw[List.drop_left' rfl,List.drop_left' (by omega)]
  exact h2
 ·rw[List.drop_of_length_le (by omega),List.drop_of_length_le (by have:=h.length; omega)]
  simp[Reps]
theorem qbk{fid:Fid}{Γ : Ctx}{ds:List V}{xs:List Value}(h:Reps fid Γ ds xs)(n:Nat):Reps fid Γ (ds.take n) (xs.take n):=by
 by_cases hn:n<=ds.length
 ·obtain⟨a,b,rfl,rfl⟩ : ∃ a b,ds=a++b/\a.length=n:=⟨ds.take n,ds.drop n,(List.take_append_drop n ds).symm,by simp; omega⟩
  obtain⟨ys,zs,rfl,h1,h2⟩:=Reps_append.1 h
  have:=h1.length
  rw[List.take_left' rfl,List.take_left' (by omega)]
  exact h1
 ·rw[List.take_of_length_le (by omega),List.take_of_length_le (by have:=h.length; omega)]
  exact h
theorem Reps_dat{fid:Fid}{Γ : Ctx} : ∀ {ds:List D} {xs:List Value},Reps fid Γ (ds.map .dat) xs↔RepDs Γ.F Γ.w ds xs
 |[],xs=>by simp[Reps,RepDs]
 |d::ds,xs=>by simp[Reps,RepDs,Rep,Reps_dat]
theorem qcs : ∀ {vs:List V} {ds:List D},qbf vs=some ds->vs=ds.map .dat
 |[],ds,h=>by simp[qbf] at h; subst h; rfl
 |v::vs,ds,h=>by
  cases v with
  |dat d=>
   simp only[qbf] at h
   split at h
   ·rename_i ds' h'
    cases h
    rw[qcs h']; rfl
   ·cases h
  |_=>simp[qbf] at h
theorem qc0{fid:Fid}{Γ : Ctx}{vs:List V}{xs:List Value}(h:Reps fid Γ vs xs):Rep fid Γ (qd9 vs) (.agg xs.toArray):=by
 unfold qd9
 split
 ·rename_i ds hd
  have:=qcs hd
  subst this
  simp only[Rep,RepD]
  exact⟨xs,rfl,Reps_dat.1 h⟩
 ·simp only[Rep]
  exact⟨xs,rfl,h⟩
theorem qkj{x:Value}(h:qa4 x=true):x.cells = #[x]:=by
 cases x<;>simp_all [qa4,Value.cells]
theorem qc1{fid:Fid}{Γ : Ctx}{v:V}{x:Value}(h:Rep fid Γ v x):Reps fid Γ v.cells x.cells.toList:=by
 have single : ∀ u,qa4 x=true->v=u->v.cells=[u]->Reps fid Γ v.cells x.cells.toList:=fun u hx hv hc=>by
  rw[hc,qkj hx,<- hv]
  simp[Reps,h]
 cases v with
 |dat d=>
  cases d with
  |lit v=>simp only[Rep,RepD] at h; exact single _ (by rw[h.1]; exact h.2) rfl rfl
  |sl cs n f=>simp only[Rep,RepD] at h; obtain⟨b,o,cap,vs,rfl,_⟩:=h; exact single _ rfl rfl rfl
  |imm cs o=>simp only[Rep,RepD] at h; obtain⟨b,o,vs,rfl,_⟩:=h; exact single _ rfl rfl rfl
  |agg cs=>
   simp only[Rep,RepD] at h
   obtain⟨vs,rfl,h⟩:=h
   simpa [V.cells,Value.cells] using Reps_dat.2 h
  |iface t d=>simp only[Rep,RepD] at h
 |ptr l o=>simp only[Rep] at h; obtain⟨b,_,rfl,_⟩:=h; exact single _ rfl rfl rfl
 |gsl cs n sz l=>simp only[Rep] at h; obtain⟨b,cap,vs,m,rfl,_⟩:=h; exact single _ rfl rfl rfl
 |msl l o n cap sz=>simp only[Rep] at h; obtain⟨b,_,rfl,_⟩:=h; exact single _ rfl rfl rfl
 |own l n sz=>simp only[Rep] at h; obtain⟨a,cap,rfl,_⟩:=h; exact single _ rfl rfl rfl
 |eptr l n o=>simp only[Rep] at h; obtain⟨a,rfl,_⟩:=h; exact single _ rfl rfl rfl
 |vw l n o k sz=>simp only[Rep] at h; obtain⟨a,cap,rfl,_⟩:=h; exact single _ rfl rfl rfl
 |rw cs n=>simp only[Rep] at h; obtain⟨b,o,cap,vs,rfl,_⟩:=h; exact single _ rfl rfl rfl
 |bm g v=>simp only[Rep] at h; obtain⟨t,nm,y,rfl,_⟩:=h; exact single _ rfl rfl rfl
 |agg cs=>
  simp only[Rep] at h
  obtain⟨vs,rfl,h⟩:=h
  simpa [V.cells,Value.cells] using h
 |fn f a b=>simp only[Rep] at h; obtain⟨as,bs,rfl,_⟩:=h; exact single _ rfl rfl rfl
 |mp l=>simp only[Rep] at h; obtain⟨b,_,rfl,_⟩:=h; exact single _ rfl rfl rfl
 |iface t v=>simp only[Rep] at h; obtain⟨y,rfl,_⟩:=h; exact single _ rfl rfl rfl
 |tup vs=>simp only[Rep] at h; obtain⟨xs,rfl,_⟩:=h; exact single _ rfl rfl rfl
 |yld l=>simp only[Rep] at h; obtain⟨b,_,rfl,_⟩:=h; exact single _ rfl rfl rfl
 |pan v=>simp only[Rep] at h
theorem qq4{fid:Fid}{Γ : Ctx}{v:V}{x:Value}(h:Rep fid Γ v x)(h1:v.one=true):x.oneCell'=true:=by
 cases v with
 |dat d=>
  cases d with
  |lit v=>simp only[Rep,RepD] at h; rw[h.1]; exact h1
  |sl cs n f=>simp only[Rep,RepD] at h; obtain⟨b,o,cap,vs,rfl,_⟩:=h; rfl
  |imm cs o=>simp only[Rep,RepD] at h; obtain⟨b,o,vs,rfl,_⟩:=h; rfl
  |agg cs=>simp[V.one] at h1
  |iface t d=>simp only[Rep,RepD] at h
 |ptr l o=>simp only[Rep] at h; obtain⟨b,_,rfl,_⟩:=h; rfl
 |gsl cs n sz l=>simp only[Rep] at h; obtain⟨b,cap,vs,m,rfl,_⟩:=h; rfl
 |msl l o n cap sz=>simp only[Rep] at h; obtain⟨b,_,rfl,_⟩:=h; rfl
 |own l n sz=>simp only[Rep] at h; obtain⟨a,cap,rfl,_⟩:=h; rfl
 |eptr l n o=>simp only[Rep] at h; obtain⟨a,rfl,_⟩:=h; rfl
 |vw l n o k sz=>simp only[Rep] at h; obtain⟨a,cap,rfl,_⟩:=h; rfl
 |rw cs n=>simp only[Rep] at h; obtain⟨b,o,cap,vs,rfl,_⟩:=h; rfl
 |bm g v=>simp only[Rep] at h; obtain⟨t,nm,y,rfl,_⟩:=h; rfl
 |agg cs=>simp[V.one] at h1
 |fn f a b=>simp only[Rep] at h; obtain⟨as,bs,rfl,_⟩:=h; rfl
 |mp l=>simp only[Rep] at h; obtain⟨b,_,rfl,_⟩:=h; rfl
 |iface t v=>simp only[Rep] at h; obtain⟨y,rfl,_⟩:=h; rfl
 |tup vs=>simp[V.one] at h1
 |yld l=>simp only[Rep] at h; obtain⟨b,_,rfl,_⟩:=h; rfl
 |pan v=>simp only[Rep] at h
theorem qbx{fid:Fid}{Γ : Ctx} : ∀ {vs:List V} {xs:List Value},Reps fid Γ vs xs->vs.all V.one=true -> ∀ x∈xs,x.oneCell'=true
 |[],xs,h,_,x,hx=>by simp only[Reps] at h; subst h; cases hx
 |v::vs,xs,h,ha,x,hx=>by
  simp only[Reps] at h
  obtain⟨y,ys,rfl,h1,h2⟩:=h
  simp only[List.all_cons,Bool.and_eq_true] at ha
  rcases List.mem_cons.1 hx with rfl|hx
  ·exact qq4 h1 ha.1
  ·exact qbx h2 ha.2 x hx
theorem qcA {fid:Fid} {Γ : Ctx} {agg:Bool} {vs:List V} {xs:List Value} {v:V} (h:Reps fid Γ vs xs) (ho:qbm agg vs=some v) :
  (agg=true/\Rep fid Γ v (.agg xs.toArray))\/(agg=false /\ ∃ x,xs=[x]/\Rep fid Γ v x):=by
 unfold qbm at ho
 split at ho
 ·rename_i ha
  cases ho
  exact .inl ⟨by simpa using ha,qc0 h⟩
 ·rename_i ha
  split at ho
  ·cases ho
   simp only[Reps] at h
   obtain⟨x,ys,rfl,h1,rfl⟩:=h
   exact .inr ⟨by simpa using ha,x,rfl,h1⟩
  ·cases ho
theorem qee{α : Type}{cs r:List α}{o n:Nat}(h:qay cs o n=some r):r=(cs.drop o).take n/\r.length=n/\(0<n->o+n<=cs.length):=by
 unfold qay at h
 simp only at h
 split at h
 ·rename_i hl
  cases h
  refine⟨rfl,hl,fun hn=>?_⟩
  simp at hl
  omega
 ·cases h
theorem qdK{F:Nat->Nat}{w:World} : ∀ {xs:List Value},(∀ x∈xs,qa4 x=true)->RepDs F w (xs.map .lit) xs
 |[],_=>by simp[RepDs]
 |x::xs,h=>by
  simp only[List.map_cons,RepDs,RepD]
  exact⟨x,xs,rfl,⟨rfl,h x (by simp)⟩,qdK fun y hy=>h y (List.mem_cons_of_mem _ hy)⟩
theorem qaG{F:Nat->Nat}{w:World}{z:Value}(h:qdd z=true):RepDs F w (qar z) z.cells.toList:=by
 unfold qar
 refine qdK fun x hx=>?_
 simp only[qdd,List.all_eq_true,Bool.and_eq_true] at h
 exact (h x hx).1
theorem qlo{F:Nat->Nat}{w:World}{z:Value}(h:qdd z=true):RepD F w (toD z) z:=by
 cases z with
 |agg cs=>
  simp only[toD,RepD]
  refine⟨cs.toList,by simp,qdK fun x hx=>?_⟩
  simp only[qdd,Value.cells,List.all_eq_true,Bool.and_eq_true] at h
  exact (h x hx).1
 |_=>simp[toD,RepD,qa4]
theorem quY{fid:Fid}{Γ : Ctx}{v:V}{x:Value}(h:Rep fid Γ v x):Rep fid Γ v.sealv x:=by
 unfold V.sealv
 split
 ·simp only[Rep,RepD] at h ⊢
  obtain⟨b,cap,vs,m,h1,h2,h3,h4,_⟩:=h
  exact⟨b,0,cap,vs,h1,h2,by simp,h3,h4⟩
 ·exact h
theorem qnC{fid:Fid}{Γ : Ctx} : ∀ {vs:List V} {xs:List Value},Reps fid Γ vs xs->Reps fid Γ (qfp vs) xs
 |[],xs,h=>by simpa only [qfp,Reps] using h
 |v::vs,xs,h=>by
  simp only[qfp,Reps] at h ⊢
  obtain⟨y,ys,h1,h2,h3⟩:=h
  exact⟨y,ys,h1,quY h2,qnC h3⟩
end
section
variable{P:Program}{ids:Ids}{fid:Fid}{N:Nat}
structure Ties(P:Program)(ids:Ids)(fid:Fid):Prop where
 fn : ∀ f g,ids.fn f=some g->fid g=f
 ty : ∀ t u,ids.ty t=some u->fid.ty u=t
 mt : ∀ g t nm,fid.mt g t nm ↔ ∃ f,methT P t nm=some f/\ids.fn f=some g
 gl : ∀ g cs,ids.gl g=some cs->fid.gl g=some cs
theorem qal (hid:Ties P ids fid) {Γ : Ctx} (hreal:Real fid Γ) {fr:Fr} {a:Act} (hf:FrRep fid Γ N fr a.tmps) {x:Operand} {y:X} {v:V}
  (hc:cX ids N x=some y) (hv:y.ev fr=some v):Rep fid Γ v (a.eval x):=by
 cases x with
 |tmp t=>
  simp only[cX] at hc
  split at hc
  ·rename_i ht
   cases hc
   exact hf.2 t v ht hv
  ·cases hc
 |const c=>
  simp only[cX] at hc
  split at hc
  ·rename_i hn
   cases hc
   simp only[X.ev,Option.some.injEq] at hv
   subst hv
   simp[Rep,RepD,Act.eval,hn]
  ·cases hc
 |global g=>
  simp only[cX,Option.map_eq_some_iff] at hc
  obtain⟨cs,hcs,rfl⟩:=hc
  simp only[X.ev,Option.some.injEq] at hv
  subst hv
  obtain⟨vs,h1,h2⟩:=hreal.glb g cs (hid.gl g cs hcs)
  simp only[Rep,RepD,Act.eval]
  exact⟨g,0,vs,rfl,h1,h2⟩
 |func f=>
  simp only[cX,Option.map_eq_some_iff] at hc
  obtain⟨g,hg,rfl⟩:=hc
  simp only[X.ev,Option.some.injEq] at hv
  subst hv
  simp only[Rep,Act.eval,hid.fn f g hg]
  exact⟨[],[],rfl,rfl,rfl⟩
theorem qaY (hid:Ties P ids fid) {Γ : Ctx} (hreal:Real fid Γ) {fr:Fr} {a:Act} (hf:FrRep fid Γ N fr a.tmps) : ∀ {xs:List Operand} {ys:List X} {vs:List V},
  cXs ids N xs=some ys->evs fr ys=some vs->Reps fid Γ vs (xs.map a.eval)
 |[],ys,vs,hc,hv=>by
  simp only[cXs,Option.some.injEq] at hc; subst hc
  simp only[evs,Option.some.injEq] at hv; subst hv
  simp[Reps]
 |x::xs,ys,vs,hc,hv=>by
  simp only[cXs] at hc
  split at hc
  ·rename_i y ys' h1 h2
   cases hc
   simp only[evs] at hv
   split at hv
   ·rename_i v vs' h3 h4
    cases hv
    simp only[List.map_cons,Reps]
    exact⟨_,_,rfl,qal hid hreal hf h1 h3,qaY hid hreal hf h2 h4⟩
   ·cases hv
  ·cases hc
theorem qkC {F:Fence} {n:Nat} {o:Oper} {a:Act} {w w':World} {K:Act->World->Prop} {Q:Exit->Act->World->Prop} {x:Value} (hF : ∀ f,F.fn f)
  (hd : ∀ c,o.op ≠ .defer c) (h:(execOp a.eval o).run P w = .ok (.value x) w') (hk:K (a.put o.dst x) w'):o.wpIn F n P a w K Q:=
 ⟨fun f _=>hF f,by rw[Oper.semAt_eq _ _ _ hd,h]; exact hk⟩
theorem qlw {F:Fence} {n:Nat} {o:Oper} {a:Act} {w w':World} {K:Act->World->Prop} {Q:Exit->Act->World->Prop} (hF : ∀ f,F.fn f)
  (hd : ∀ c,o.op ≠ .defer c) (h:(execOp a.eval o).run P w = .ok .skip w') (hk:K (a.put o.dst undef) w'):o.wpIn F n P a w K Q:=
 ⟨fun f _=>hF f,by rw[Oper.semAt_eq _ _ _ hd,h]; exact hk⟩
def Comes(P:Program)(fid:Fid)(Γ : Ctx)(ρ : Operand->Value)(o:Oper)(v:V)(σ':S):Prop:=
 ∃ (Γ':Ctx) (x:Value),Γ'.σ = σ'/\Real fid Γ'/\Step Γ Γ'/\Rep fid Γ' v x /\
  ((execOp ρ o).run P Γ.w = .ok (.value x) Γ'.w\/((execOp ρ o).run P Γ.w = .ok .skip Γ'.w/\x=undef))
theorem Comes.wp {F:Fence} {n:Nat} {o:Oper} {a:Act} {K:Act->World->Prop} {Q:Exit->Act->World->Prop} {Γ : Ctx} {v:V} {σ':S} (hF : ∀ f,F.fn f)
  (hd : ∀ c,o.op ≠ .defer c) (h:Comes P fid Γ a.eval o v σ')
  (hk : ∀ Γ' x,Γ'.σ = σ'->Real fid Γ'->Step Γ Γ'->Rep fid Γ' v x->K (a.put o.dst x) Γ'.w):o.wpIn F n P a Γ.w K Q:=by
 obtain⟨Γ',x,h1,h2,h3,h4,h5⟩:=h
 rcases h5 with h5|⟨h5,rfl⟩
 ·exact qkC hF hd h5 (hk Γ' x h1 h2 h3 h4)
 ·exact qlw hF hd h5 (hk Γ' _ h1 h2 h3 h4)
theorem Comes.pure {Γ : Ctx} (hr:Real fid Γ) {ρ : Operand->Value} {o:Oper} {v:V} {x:Value} (h:(execOp ρ o).run P Γ.w = .ok (.value x) Γ.w) (hx:Rep fid Γ v x) :
  Comes P fid Γ ρ o v Γ.σ := ⟨Γ,x,rfl,hr,.refl _,hx,.inl h⟩
section
variable{Γ : Ctx}{fr:Fr}{ρ : Operand->Value}{o:Oper}{v:V}{σ':S}{C:Task->Option Res}
theorem qvx(hr:Real fid Γ){t:TypeId}{x:Operand}{u:V}(ho:o.op = .box t x)(hu:Rep fid Γ u (ρ x)):Comes P fid Γ ρ o (.ptr Γ.σ.length 0) (Γ.σ ++ [.cells u.cells]):=by
 obtain⟨h1,h2⟩:=qbn hr (.cells u.cells) (.cells (ρ x).cells t) 0
  (fun Γ' e hx=>by
   subst e
   simp only[RepOb,grow,if_pos]
   exact⟨trivial,(ρ x).cells,t,qao _ _,Reps.ext hx _ _ (qc1 hu)⟩) (fun h=>absurd h (Nat.lt_irrefl _))
 refine⟨_,.pointer (some ⟨Γ.w.heap.size,0,none⟩),rfl,h1,h2,?_,.inl ?_⟩
 ·simp only[Rep]
  refine⟨Γ.w.heap.size,by simp[bind],rfl,⟨.cells u.cells,by simp,rfl⟩⟩
 ·simp only[execOp,ho,Instr.box,newVar,newRow]
  simp
theorem qpV(hr:Real fid Γ){t:TypeId}{z:Value}(ho:o.op = .alloc t)(hz:qbK P t=some z):Comes P fid Γ ρ o (.ptr Γ.σ.length 0) (Γ.σ ++ [.cells ((qar z).map .dat)]):=by
 obtain⟨h1,h2⟩:=qbn hr (.cells ((qar z).map .dat)) (.cells z.cells t) 0
  (fun Γ' e hx=>by
   subst e
   simp only[RepOb,grow,if_pos]
   exact⟨trivial,z.cells,t,qao _ _,Reps_dat.2 (qaG (qa1 hz))⟩) (fun h=>absurd h (Nat.lt_irrefl _))
 refine⟨_,.pointer (some ⟨Γ.w.heap.size,0,none⟩),rfl,h1,h2,?_,.inl ?_⟩
 ·simp only[Rep]
  refine⟨Γ.w.heap.size,by simp[bind],rfl,⟨.cells ((qar z).map .dat),by simp,rfl⟩⟩
 ·simp only[execOp,ho,Instr.alloc,newVar,newRow]
  simp[qaL hz]
theorem qpW(hr:Real fid Γ){t:TypeId}(ho:o.op = .makeMap t none):Comes P fid Γ ρ o (.mp Γ.σ.length) (Γ.σ ++ [.map []]):=by
 obtain⟨h1,h2⟩:=qbn hr (.map []) (.map #[] 0) 0
  (fun Γ' e hx=>by
   subst e
   simp only[RepOb,grow,if_pos]
   exact⟨trivial,#[],0,qao _ _,rfl⟩) (fun h=>absurd h (Nat.lt_irrefl _))
 refine⟨_,.map (some Γ.w.heap.size),rfl,h1,h2,?_,.inl ?_⟩
 ·simp only[Rep]
  refine⟨Γ.w.heap.size,by simp[bind],rfl,⟨.map [],by simp,rfl⟩⟩
 ·simp only[execOp,ho,Instr.makeMap,Option.map_none]
  simp
theorem qfO {t:TypeId} {agg:Bool} {n off f b:Nat} {cs vs:List V} {xs:List Value} {u:V} {arr:Array Value} {e:TypeId} (hs:(agg=true/\qaz P t=some true/\qax P t=some n)\/(agg=false/\qaz P t=some false/\n=1))
  (h2 : Γ.w.heap[b]?=some (.cells arr e (0,0))) (h3:Reps fid Γ cs xs) (hpre : ∀ (j:Nat) x,xs[j]?=some x->arr[f+j]?=some x) (hc:qay cs off n=some vs) (hu:qbm agg vs=some u) :
  ∃ x,(loadVar t ⟨b,f+off,none⟩).run P Γ.w = .ok x Γ.w/\Rep fid Γ u x:=by
 obtain⟨c1,c2,c3⟩:=qee hc
 have h4:Reps fid Γ vs ((xs.drop off).take n):=by rw[c1]; exact qbk (qbw h3 off) n
 have hlen:=Reps.length h3
 have hcell : ∀ j x,((xs.drop off).take n)[j]?=some x -> Γ.w.cell? ⟨b,f+off+j,none⟩=some x:=fun j x hj=>by
  simp only[World.cell?,h2]
  rw[List.getElem?_take] at hj
  split at hj
  ·rw[List.getElem?_drop] at hj
   simpa [Nat.add_assoc] using hpre _ _ hj
  ·cases hj
 have hl:((xs.drop off).take n).length=n:=by rw[Reps.length h4,c2]
 rcases hs with ⟨rfl,ha,hsz⟩|⟨rfl,ha,rfl⟩
 ·rcases qcA h4 hu with ⟨_,h5⟩|⟨h5,_⟩
  ·exact⟨_,qdH ha (by rw[hl]; exact hsz) hcell,h5⟩
  ·cases h5
 ·rcases qcA h4 hu with ⟨h5,_⟩|⟨_,x,hx,h5⟩
  ·cases h5
  ·exact⟨x,qdI ha (by have:=hcell 0 x (by rw[hx]; rfl); simpa using this),h5⟩
theorem qfb {t:TypeId} {agg:Bool} {n off b:Nat} {cs vs:List V} {xs:List Value} {u:V} {arr:Array Value} {e:TypeId} (hs:(agg=true/\qaz P t=some true/\qax P t=some n)\/(agg=false/\qaz P t=some false/\n=1))
  (h2 : Γ.w.heap[b]?=some (.cells arr e (0,0))) (h3:Reps fid Γ cs xs) (hpre : ∀ (j:Nat) x,xs[j]?=some x->arr[j]?=some x) (hc:qay cs off n=some vs) (hu:qbm agg vs=some u) :
  ∃ x,(loadVar t ⟨b,off,none⟩).run P Γ.w = .ok x Γ.w/\Rep fid Γ u x:=by
 simpa using qfO (f:=0) hs h2 h3 (by simpa using hpre) hc hu
theorem qit (hr:Real fid Γ) {t:TypeId} {agg:Bool} {n l off b:Nat} {cs vs:List V} {u:V} (hs:(agg=true/\qaz P t=some true/\qax P t=some n)\/(agg=false/\qaz P t=some false/\n=1))
  (ho : Γ.σ[l]?=some (.cells cs)) (hm : Γ.μ l=some b) (hc:qay cs off n=some vs) (hu:qbm agg vs=some u) :
  ∃ x,(loadVar t ⟨b,off,none⟩).run P Γ.w = .ok x Γ.w/\Rep fid Γ u x:=by
 obtain⟨_,arr,e,h2,h3⟩:=hr.obs l _ b ho hm
 exact qfb hs h2 h3 (fun j x h=>by simpa using h) hc hu
theorem qn7{arr:Array Value}{k j:Nat}{x:Value}(h:(arr.toList.take k)[j]?=some x):arr[j]?=some x:=by
 rw[List.getElem?_take] at h
 split at h
 ·simpa using h
 ·cases h
theorem qhM{arr:Array Value}{f k j:Nat}{x:Value}(h:((arr.toList.drop f).take k)[j]?=some x):arr[f+j]?=some x:=by
 rw[List.getElem?_take] at h
 split at h
 ·simpa using h
 ·cases h
theorem qfu(hr:Real fid Γ){l b:Nat}{ds:List D}(ho : Γ.σ[l]?=some (.froz ds))(hm : Γ.μ l=some b) : ∃ vs,RepDs Γ.F Γ.w ds vs/\Row Γ.F Γ.w b (Γ.F b-ds.length) vs:=by
 have:=hr.obs l _ b ho hm
 simp only[RepOb] at this
 obtain⟨h1,arr,e,h2,h3,h4,h5⟩:=this
 refine⟨_,h4,fun j x hj=>?_,fun _=>by have:=h4.length; omega,h5⟩
 simp only[World.cell?,h2]
 simpa using qhM hj
theorem qeo (hr:Real fid Γ) {l b:Nat} {cs vs:List V} {news:List Value} {arr arr':Array Value} {e:TypeId} {w':World} {k:Nat} (ho : Γ.σ[l]?=some (.vec cs)) (hm : Γ.μ l=some b)
  (ha : Γ.w.heap[b]?=some (.cells arr e (0,0))) (hn:Reps fid Γ vs news) (h1 : ∀ v∈news,v.oneCell'=true) (hk:k<=cs.length) (hle : Γ.F b+(k+vs.length)<=arr.size)
  (hw:WOnly b Γ.w w') (k3:w'.heap[b]?=some (.cells arr' e (0,0))) (k4:arr'.toList=arr.toList.take (Γ.F b+k)++(news++arr.toList.drop (Γ.F b+k+news.length))) :
  arr'.size=arr.size/\Real fid ⟨Γ.σ.set l (.vec (cs.take k++(vs++cs.drop (k+vs.length)))),Γ.μ,Γ.F,w'⟩/\Step Γ ⟨Γ.σ.set l (.vec (cs.take k++(vs++cs.drop (k+vs.length)))),Γ.μ,Γ.F,w'⟩:=by
 have hob:=hr.obs l _ b ho hm
 simp only[RepOb] at hob
 obtain⟨arr0,e0,h2',hlc,h3,h3'⟩:=hob
 rw[ha] at h2'; cases h2'
 have hlen:=Reps.length hn
 have hsz:arr'.size=arr.size:=by
  have:=congrArg List.length k4
  simp only[Array.length_toList,List.length_append,List.length_take,List.length_drop] at this
  omega
 have htake:(arr'.toList.drop (Γ.F b)).take (cs.take k++(vs++cs.drop (k+vs.length))).length=((arr.toList.drop (Γ.F b)).take cs.length).take k++(news++((arr.toList.drop (Γ.F b)).take cs.length).drop (k+vs.length)):=by
  have hA:arr'.toList.drop (Γ.F b)=(arr.toList.drop (Γ.F b)).take k++(news++(arr.toList.drop (Γ.F b)).drop (k+vs.length)):=by
   rw[k4,List.drop_append,List.drop_take,List.drop_drop,hlen]
   simp only[List.length_take,Array.length_toList]
   rw[show Γ.F b-min (Γ.F b+k) arr.size=0 from by omega,List.drop_zero,show Γ.F b+k - Γ.F b=k from by omega,Nat.add_assoc]
  have hl2:((arr.toList.drop (Γ.F b)).take k).length=k:=by simp; omega
  rw[hA]
  rw[List.take_append,List.take_append,hl2,hlen,List.drop_take,List.take_take,List.take_take]
  have e1:(cs.take k++(vs++cs.drop (k+vs.length))).length=k+(vs.length+(cs.length-(k+vs.length))):=by simp; omega
  rw[e1,show min (k+(vs.length+(cs.length-(k+vs.length)))) k=k from by omega,show min k cs.length=k from by omega,
   show k+(vs.length+(cs.length-(k+vs.length)))-k=vs.length+(cs.length-(k+vs.length)) from by omega,
   show vs.length+(cs.length-(k+vs.length))-vs.length=cs.length-(k+vs.length) from by omega,
   List.take_of_length_le (l:=news) (by omega)]
 obtain⟨u1,u2⟩:=quL hr ho hm (cs':=cs.take k++(vs++cs.drop (k+vs.length))) (by simp; omega) hw ha k3 hsz (fun i v hi hv=>by
   simp only[World.cell?,ha,k3] at hv ⊢
   have hv':arr[i]?=some v:=by simpa using hv
   have:arr'.toList[i]?=some v:=by
    rw[k4,List.getElem?_append_left (by simp; have:=(Array.getElem?_eq_some_iff.1 hv').1; omega),List.getElem?_take,if_pos (by omega)]
    simpa using hv'
   simpa using this) (fun hx=>by
  simp only[RepOb]
  refine⟨arr',e,k3,by rw[hsz]; simp; omega,?_,?_⟩
  ·rw[htake]
   exact Reps_append.2 ⟨_,_,rfl,Reps.ext hx _ _ (qbk h3 k),Reps_append.2 ⟨_,_,rfl,Reps.ext hx _ _ hn,Reps.ext hx _ _ (qbw h3 _)⟩⟩
  ·rw[htake]
   intro v hv
   rcases List.mem_append.1 hv with hv|hv
   ·exact h3' v (List.mem_of_mem_take hv)
   ·rcases List.mem_append.1 hv with hv|hv
    ·exact h1 v hv
    ·exact h3' v (List.mem_of_mem_drop hv))
 exact⟨hsz,u1,u2⟩
theorem qfc {t:TypeId} {agg:Bool} {n off b o':Nat} {cs ds:List D} {xs:List Value} {u:V} (hs:(agg=true/\qaz P t=some true/\qax P t=some n)\/(agg=false/\qaz P t=some false/\n=1))
  (h3:RepDs Γ.F Γ.w cs xs) (h4:Row Γ.F Γ.w b o' xs) (hc:qay cs off n=some ds) (hu:qth agg ds=some u) :
  ∃ x,(loadVar t ⟨b,o'+off,none⟩).run P Γ.w = .ok x Γ.w/\Rep fid Γ u x:=by
 obtain⟨c1,c2,c3⟩:=qee hc
 have h5:RepDs Γ.F Γ.w ds ((xs.drop off).take n):=by rw[c1]; exact qd0 (qdZ h3 off) n
 have hcell : ∀ j x,((xs.drop off).take n)[j]?=some x -> Γ.w.cell? ⟨b,o'+off+j,none⟩=some x:=fun j x hj=>by
  rw[List.getElem?_take] at hj
  split at hj
  ·rw[List.getElem?_drop] at hj
   rw[Nat.add_assoc]
   exact h4.1 _ _ hj
  ·cases hj
 have hl:((xs.drop off).take n).length=n:=by rw[RepDs.length h5,c2]
 rcases hs with ⟨rfl,ha,hsz⟩|⟨rfl,ha,rfl⟩
 ·simp[qth] at hu; subst hu
  refine⟨_,qdH ha (by rw[hl]; exact hsz) hcell,?_⟩
  simp only[Rep,RepD]
  exact⟨_,rfl,h5⟩
 ·simp only[qth,Bool.false_eq_true,if_false] at hu
  split at hu
  ·cases hu
   simp only[RepDs] at h5
   obtain⟨x,ys,h6,h7,rfl⟩:=h5
   exact⟨x,qdI ha (by have:=hcell 0 x (by rw[h6]; rfl); simpa using this),by simpa [Rep] using h7⟩
  ·cases hu
theorem qiu (hr:Real fid Γ) {t:TypeId} {agg:Bool} {n:Nat} {p u:V} {x:Value} (hs:(agg=true/\qaz P t=some true/\qax P t=some n)\/(agg=false/\qaz P t=some false/\n=1))
  (hp:Rep fid Γ p x) (hl:qbO Γ.σ agg n p=some u) : ∃ ad y,x = .pointer (some ad)/\(loadVar t ad).run P Γ.w = .ok y Γ.w/\Rep fid Γ u y:=by
 unfold qbO at hl
 split at hl
 ·rename_i l off
  simp only[Rep] at hp
  obtain⟨b,hm,rfl,_⟩:=hp
  split at hl
  ·rename_i cs hcs
   split at hl
   ·rename_i vs hvs
    obtain⟨y,h1,h2⟩:=qit hr hs hcs hm hvs hl
    exact⟨_,y,rfl,h1,h2⟩
   ·cases hl
  ·rename_i t' cs hcs
   split at hl
   ·rename_i vs hvs
    obtain⟨_,arr,h2,h3⟩:=hr.obs l _ b hcs hm
    obtain⟨y,h1,h2⟩:=qfb hs h2 h3 (fun j x h=>by simpa using h) hvs hl
    exact⟨_,y,rfl,h1,h2⟩
   ·cases hl
  ·cases hl
 ·rename_i cs off
  simp only[Rep,RepD] at hp
  obtain⟨b,o',xs,rfl,h3,h4⟩:=hp
  split at hl
  ·rename_i ds hds
   obtain⟨y,h1,h2⟩:=qfc hs h3 h4 hds hl
   exact⟨_,y,rfl,h1,h2⟩
  ·cases hl
 ·rename_i l m off
  simp only[Rep] at hp
  obtain⟨a,rfl,_,hp⟩:=hp
  split at hl
  ·rename_i cs hcs
   split at hl
   ·rename_i hlen
    obtain⟨b,arr,e,hm,rfl,ha,_⟩:=(hp _ cs hcs rfl).2 hlen
    split at hl
    ·rename_i vs hvs
     have hob:=hr.obs l _ b hcs hm
     simp only[RepOb] at hob
     obtain⟨arr',e',h2,h3,h4,_⟩:=hob
     obtain⟨y,h1,h2⟩:=qfO hs h2 h4 (fun j x h=>qhM h) hvs hl
     exact⟨_,y,rfl,h1,h2⟩
    ·cases hl
   ·cases hl
  ·rename_i ds hds
   split at hl
   ·rename_i hlen
    obtain⟨b,arr,e,hm,rfl,ha,_⟩:=(hp _ _ hds rfl).2 (by simpa using hlen)
    split at hl
    ·rename_i vs hvs
     obtain⟨xs,h3,h4⟩:=qfu hr hds hm
     obtain⟨y,h1,h2⟩:=qfc hs h3 h4 hvs hl
     exact⟨_,y,rfl,h1,h2⟩
    ·cases hl
   ·cases hl
  ·cases hl
 ·cases hl
theorem qoV (hr:Real fid Γ) {t:TypeId} {agg:Bool} {n:Nat} {x:Operand} {p u:V} (ho:o.op = .load t x) (hs:(agg=true/\qaz P t=some true/\qax P t=some n)\/(agg=false/\qaz P t=some false/\n=1))
  (hp:Rep fid Γ p (ρ x)) (hl:qbO Γ.σ agg n p=some u):Comes P fid Γ ρ o u Γ.σ:=by
 obtain⟨ad,y,h1,h2,h3⟩:=qiu hr hs hp hl
 refine .pure hr (x:=y) ?_ h3
 simp only[execOp,ho,Instr.loadAt,h1,Instr.sureAddr]
 simp[h2]
theorem qpX (hr:Real fid Γ) {t:TypeId} {n:Nat} {x y:Operand} {p u:V} (ho:o.op = .store t x y) (hs:qax P t=some n)
  (hp:Rep fid Γ p (ρ x)) (hu:Rep fid Γ u (ρ y)) (hl:storeV Γ.σ n p u=some σ'):Comes P fid Γ ρ o (.dat (.lit undef)) σ':=by
 unfold storeV at hl
 split at hl
 ·rename_i l off
  simp only[Rep] at hp
  obtain⟨b,hm,hx,_⟩:=hp
  split at hl
  ·rename_i cs hcs
   simp only at hl
   split at hl
   ·rename_i hcond
    obtain⟨c1,c2,c3⟩:=hcond
    cases hl
    obtain⟨hF,arr,e,h2,h3⟩:=hr.obs l _ b hcs hm
    have hcells:=qc1 hu
    have hlen:=Reps.length h3
    have hlen':=Reps.length hcells
    obtain⟨w',k1,k2,arr',k3,k4⟩:=qdJ (P:=P) (o:=off) hs (by simpa [c1] using hlen') h2 (qbx hcells c3) (by rw[Array.length_toList] at hlen; omega)
    obtain⟨u1,u2⟩:=upd hr hcs rfl (ob' := .cells (cs.take off++(u.cells++cs.drop (off+n)))) rfl hm k2 (fun hx=>by
     simp only[RepOb]
     refine⟨hF,arr',e,k3,?_⟩
     rw[k4]
     refine Reps_append.2 ⟨_,_,rfl,Reps.ext hx _ _ (qbk h3 off),Reps_append.2 ⟨_,_,rfl,Reps.ext hx _ _ hcells,Reps.ext hx _ _ (qbw h3 _)⟩⟩)
    refine⟨_,undef,rfl,u1,u2,by simp[Rep,RepD,qa4,undef],.inr ⟨?_,rfl⟩⟩
    simp only[execOp,ho,Instr.storeAt,hx,Instr.sureAddr]
    simp[k1]
   ·cases hl
  ·rename_i t' cs hcs
   simp only at hl
   split at hl
   ·rename_i hcond
    obtain⟨c1,c2,c3⟩:=hcond
    cases hl
    obtain⟨hF,arr,h2,h3⟩:=hr.obs l _ b hcs hm
    have hcells:=qc1 hu
    have hlen:=Reps.length h3
    have hlen':=Reps.length hcells
    obtain⟨w',k1,k2,arr',k3,k4⟩:=qdJ (P:=P) (o:=off) hs (by simpa [c1] using hlen') h2 (qbx hcells c3) (by rw[Array.length_toList] at hlen; omega)
    obtain⟨u1,u2⟩:=upd hr hcs rfl (ob' := .cellsT t' (cs.take off++(u.cells++cs.drop (off+n)))) rfl hm k2 (fun hx=>by
     simp only[RepOb]
     refine⟨hF,arr',k3,?_⟩
     rw[k4]
     refine Reps_append.2 ⟨_,_,rfl,Reps.ext hx _ _ (qbk h3 off),Reps_append.2 ⟨_,_,rfl,Reps.ext hx _ _ hcells,Reps.ext hx _ _ (qbw h3 _)⟩⟩)
    refine⟨_,undef,rfl,u1,u2,by simp[Rep,RepD,qa4,undef],.inr ⟨?_,rfl⟩⟩
    simp only[execOp,ho,Instr.storeAt,hx,Instr.sureAddr]
    simp[k1]
   ·cases hl
  ·cases hl
 ·rename_i l m off
  simp only[Rep] at hp
  obtain⟨a,hx,_,hp⟩:=hp
  split at hl
  ·rename_i cs hcs
   simp only at hl
   split at hl
   ·rename_i hcond
    obtain⟨c0,c1,c2,c3⟩:=hcond
    cases hl
    obtain⟨b,arr,e,hm,rfl,h2,_⟩:=(hp _ cs hcs rfl).2 c0
    have hob:=hr.obs l _ b hcs hm
    simp only[RepOb] at hob
    obtain⟨arr0,e0,h2',hle,h3,h3'⟩:=hob
    rw[h2] at h2'; cases h2'
    have hcells:=qc1 hu
    have hlen':=Reps.length hcells
    obtain⟨w',k1,k2,arr',k3,k4⟩:=qdJ (P:=P) (o := Γ.F b-(Ob.vec cs).fz+off) hs (by simpa [c1] using hlen') h2 (qbx hcells c3) (by simp only[Ob.fz]; omega)
    simp only[Ob.fz,Nat.sub_zero] at k4 ⊢
    obtain⟨_,u1,u2⟩:=qeo hr hcs hm h2 hcells (qbx hcells c3) (show off<=cs.length by omega) (by omega) k2 k3 (by rw[k4,hlen',c1])
    rw[c1] at u1 u2
    refine⟨_,undef,rfl,u1,u2,by simp[Rep,RepD,qa4,undef],.inr ⟨?_,rfl⟩⟩
    simp only[execOp,ho,Instr.storeAt,hx,Instr.sureAddr]
    simp[k1]
   ·cases hl
  ·cases hl
 ·cases hl
end
end
section
variable{P:Program}{ids:Ids}{fid:Fid}{N:Nat}
section
variable{Γ : Ctx}{fr:Fr}{ρ : Operand->Value}{o:Oper}{v:V}{σ':S}{C:Task->Option Res}
theorem qat{v x:Value}(h:Rep fid Γ (.dat (.lit v)) x):x=v/\qa4 v=true:=by simpa [Rep,RepD] using h
theorem qcq{v:Value}(h:qa4 v=true):Rep fid Γ (.dat (.lit v)) v:=by simp[Rep,RepD,h]
theorem quS(hr:Real fid Γ){x:Operand}{u:V}(ho:o.op = .move x\/o.op = .assign x)(hu:Rep fid Γ u (ρ x)):Comes P fid Γ ρ o u Γ.σ:=by
 refine .pure hr (x := ρ x) ?_ hu
 rcases ho with ho|ho<;>simp[execOp,ho]
theorem qpI (hr:Real fid Γ) {c x y:Operand} {u u':V} {b:Bool} (ho:o.op = .pick c x y) (hc:Rep fid Γ (.dat (.lit (.bool b))) (ρ c)) (hu:b=true->Rep fid Γ u (ρ x)) (hu':b=false->Rep fid Γ u' (ρ y)) :
  Comes P fid Γ ρ o (if b then u else u') Γ.σ:=by
 have h:=(qat hc).1
 cases b with
 |true=>exact .pure hr (x := ρ x) (by simp[execOp,ho,h,asBool]) (hu rfl)
 |false=>exact .pure hr (x := ρ y) (by simp[execOp,ho,h,asBool]) (hu' rfl)
theorem qoH {op:BinOp} {t:TypeId} {x y:Operand} {A B r:Value} (h:qnS op A B=some r) (w:World) :
  (do eqGuard op t x y A B; binOp op t A B:Sem Value).run P w = .ok r w/\qa4 r=true:=by
 cases A with
 |int k a=>
  cases B with
  |int k' b=>
   simp only[qnS] at h
   split at h
   ·rename_i hk
    subst hk
    cases op<;>simp only at h<;>first
     | (cases h; done)
     | (split at h
        ·cases h
        ·rename_i hb; cases h
         first
         | (simp[eqGuard,binOp,Op.intDiv,hb,qa4]; done)
         | (simp[eqGuard,binOp,Op.shift,hb,qa4,qvm,qtf]; done))
     | (cases h; simp[eqGuard,binOp,Op.intArith,Op.intCmp,qa4]; done)
     | (cases h; simp[eqGuard,binOp,Op.intArith,Op.intCmp,qa4,eqI,bne]; done)
     | (cases h; simp[eqGuard,binOp,Op.intBits,qa4,qql]; done)
   ·cases op<;>simp only at h<;>first
     | (cases h; done)
     | (split at h
        ·cases h
        ·rename_i hb; cases h
         simp[eqGuard,binOp,Op.shift,hb,qa4,qvm,qtf])
  |_=>simp[qnS] at h
 |string a=>
  cases B with
  |string b=>
   cases op<;>simp only[qnS] at h<;>first
    | (cases h; done)
    | (split at h
       ·cases h
       ·rename_i hb; cases h
        simp only[eqGuard,binOp,Op.stringOp,if_neg hb]
        simp[qa4])
    | (cases h; simp[eqGuard,binOp,Op.stringOp,qa4]; done)
    | (cases h; simp[eqGuard,binOp,Op.stringOp,qa4,eqS]; done)
  |_=>simp[qnS] at h
 |_=>simp[qnS] at h
theorem qvT (hr:Real fid Γ) {op:BinOp} {t t':TypeId} {x y:Operand} {A B r:Value} (ho:o.op = .binOp op t x y t') (hx:Rep fid Γ (.dat (.lit A)) (ρ x)) (hy:Rep fid Γ (.dat (.lit B)) (ρ y))
  (h:qnS op A B=some r):Comes P fid Γ ρ o (.dat (.lit r)) Γ.σ:=by
 obtain⟨h1,h2⟩:=qoH (P:=P) (t:=t) (x:=x) (y:=y) h Γ.w
 refine .pure hr (x:=r) ?_ (qcq h2)
 simp only[execOp,ho,(qat hx).1,(qat hy).1]
 rw[Sem.run_bind,h1]
 simp
theorem quT (hr:Real fid Γ) {op:BinOp} {t t':TypeId} {x y:Operand} {a b:Bool} (neg:Bool) (hop:op=if neg then .neq else .eql) (ho:o.op = .binOp op t x y t') (ht:P.underlying t=some .bool)
  (hx:Rep fid Γ (.dat (.lit (.bool a))) (ρ x)) (hy:Rep fid Γ (.dat (.lit (.bool b))) (ρ y)):Comes P fid Γ ρ o (.bool (if neg then !(a==b) else a==b)) Γ.σ:=by
 refine .pure hr (x := .bool (if neg then !(a==b) else a==b)) ?_ (qcq rfl)
 simp only[execOp,ho,(qat hx).1,(qat hy).1]
 subst hop
 cases neg
 ·simp only[Bool.false_eq_true,if_false,eqGuard,binOp,Sem.run_bind,run_equal_bool _ t a b ht,Result.andThen_ok]
  simp
 ·simp only[if_true,eqGuard,binOp,Sem.run_bind,run_equal_bool _ t a b ht,Result.andThen_ok]
  simp
theorem qjt(d:Nat){t:TypeId}{ms}(ht:P.underlying t=some (.interface ms))(a:TypeId)(b:Value)(w:World):(Op.equalIn (d+1) t (.iface a b) .nilIface).run P w = .ok false w:=by
 unfold Op.equalIn
 simp only[Sem.run_bind,qak ht,Result.andThen_ok,Sem.run_pure]
theorem ql3(d:Nat){t:TypeId}{ms}(ht:P.underlying t=some (.interface ms))(w:World):(Op.equalIn (d+1) t .nilIface .nilIface).run P w = .ok true w:=by
 unfold Op.equalIn
 simp only[Sem.run_bind,qak ht,Result.andThen_ok,Sem.run_pure]
theorem qhn(d:Nat){t e:TypeId}(ht:P.underlying t=some (.pointer e))(a:Addr)(w:World):(Op.equalIn (d+1) t (.pointer (some a)) (.pointer none)).run P w = .ok false w:=by
 unfold Op.equalIn
 simp only[Sem.run_bind,qak ht,Result.andThen_ok,Sem.run_pure]
theorem qkf(d:Nat){t e:TypeId}(ht:P.underlying t=some (.pointer e))(w:World):(Op.equalIn (d+1) t (.pointer none) (.pointer none)).run P w = .ok true w:=by
 unfold Op.equalIn
 simp only[Sem.run_bind,qak ht,Result.andThen_ok,Sem.run_pure]
 rfl
theorem qho {p b:Bool} {v:V} {x nv:Value} {t:TypeId} (hx:Rep fid Γ v x) (h:qtg p v=some b)
  (ht:(p=false/\nv = .nilIface /\ ∃ ms,P.underlying t=some (.interface ms))\/(p=true/\nv = .pointer none /\ ∃ e,P.underlying t=some (.pointer e))) (w:World) :
  (Op.equal t x nv).run P w = .ok b w/\((∃ a c,x = .iface a c/\nv = .nilIface)\/(x = .nilIface/\nv = .nilIface)\/(∃ a,x = .pointer a/\nv = .pointer none)):=by
 unfold qtg at h
 split at h<;>cases h
 ·rcases ht with ⟨h1,_⟩|⟨_,rfl,e,he⟩
  ·cases h1
  ·simp only[Rep] at hx; obtain⟨b,_,rfl,_⟩:=hx
   exact⟨qhn 9999 he _ w,.inr (.inr ⟨_,rfl,rfl⟩)⟩
 ·rcases ht with ⟨h1,_⟩|⟨_,rfl,e,he⟩
  ·cases h1
  ·simp only[Rep,RepD] at hx; obtain⟨b,_,_,rfl,_⟩:=hx
   exact⟨qhn 9999 he _ w,.inr (.inr ⟨_,rfl,rfl⟩)⟩
 ·rcases ht with ⟨h1,_⟩|⟨_,rfl,e,he⟩
  ·cases h1
  ·obtain rfl:=(qat hx).1
   exact⟨qkf 9999 he w,.inr (.inr ⟨_,rfl,rfl⟩)⟩
 ·rcases ht with ⟨_,rfl,e,he⟩|⟨h1,_⟩
  ·simp only[Rep] at hx; obtain⟨y,rfl,_⟩:=hx
   exact⟨qjt 9999 he _ _ w,.inl ⟨_,_,rfl,rfl⟩⟩
  ·cases h1
 ·rcases ht with ⟨_,rfl,e,he⟩|⟨h1,_⟩
  ·obtain rfl:=(qat hx).1
   exact⟨ql3 9999 he w,.inr (.inl ⟨rfl,rfl⟩)⟩
  ·cases h1
theorem qia (hr:Real fid Γ) {op:BinOp} {t t':TypeId} {x:Operand} {nv:Value} {v:V} {b:Bool} (p neg:Bool) (hop:op=if neg then .neq else .eql) (ho:o.op = .binOp op t x (.const nv) t') (hρ : ρ (.const nv)=nv)
  (ht:(p=false/\nv = .nilIface /\ ∃ ms,P.underlying t=some (.interface ms))\/(p=true/\nv = .pointer none /\ ∃ e,P.underlying t=some (.pointer e)))
  (hx:Rep fid Γ v (ρ x)) (h:qtg p v=some b):Comes P fid Γ ρ o (.bool (if neg then !b else b)) Γ.σ:=by
 obtain⟨h1,h2⟩:=qho hx h ht Γ.w
 refine .pure hr (x := .bool (if neg then !b else b)) ?_ (qcq rfl)
 simp only[execOp,ho,hρ]
 generalize ρ x=y at *
 subst hop
 rcases h2 with ⟨a,c,rfl,rfl⟩|⟨rfl,rfl⟩|⟨a,rfl,rfl⟩<;>cases neg<;>simp[eqGuard,binOp,h1]
theorem quU(d:Nat){t e:TypeId}(ht:P.underlying t=some (.slice e))(a:Option Addr)(n c:Nat)(w:World):(Op.equalIn (d+1) t (.slice a n c) (.slice none 0 0)).run P w = .ok a.isNone w:=by
 unfold Op.equalIn
 cases a<;>simp only[Sem.run_bind,qak ht,Result.andThen_ok,Sem.run_pure]<;>rfl
theorem qlh (hr:Real fid Γ) {op:BinOp} {t t' e:TypeId} {x:Operand} {v:V} {b:Bool} (neg:Bool) (hop:op=if neg then .neq else .eql) (ho:o.op = .binOp op t x (.const (.slice none 0 0)) t') (hρ : ρ (.const (.slice none 0 0)) = .slice none 0 0)
  (ht:P.underlying t=some (.slice e)) (hx:Rep fid Γ v (ρ x)) (h:qtT v=some b):Comes P fid Γ ρ o (.bool (if neg then !b else b)) Γ.σ:=by
 have key : ∃ a n c,ρ x = .slice a n c/\a.isNone=b:=by
  unfold qtT at h
  split at h<;>cases h
  ·exact⟨_,_,_,(qat hx).1,rfl⟩
  ·simp only[Rep,RepD] at hx
   obtain⟨_,_,_,_,h,_⟩:=hx
   exact⟨_,_,_,h,rfl⟩
  ·simp only[Rep] at hx
   obtain⟨_,_,_,_,h,_⟩:=hx
   exact⟨_,_,_,h,rfl⟩
  ·simp only[Rep] at hx
   obtain⟨_,_,h,_⟩:=hx
   exact⟨_,_,_,h,rfl⟩
  ·simp only[Rep] at hx
   obtain⟨_,_,h,_⟩:=hx
   exact⟨_,_,_,h,rfl⟩
  ·simp only[Rep] at hx
   obtain⟨_,_,h,_⟩:=hx
   exact⟨_,_,_,h,rfl⟩
 obtain⟨a,n,c,hy,rfl⟩:=key
 have h1:(Op.equal t (.slice a n c) (.slice none 0 0)).run P Γ.w = .ok a.isNone Γ.w:=quU 9999 ht a n c Γ.w
 refine .pure hr (x := .bool (if neg then !a.isNone else a.isNone)) ?_ (qcq rfl)
 simp only[execOp,ho,hρ,hy]
 subst hop
 cases neg<;>simp[eqGuard,binOp,h1]
theorem quV(hr:Real fid Γ){t:TypeId}{u:Nat}(hty:fid.ty u=t){x:Operand}{v:V}{d:TypeDesc}(ho:o.op = .makeInterface t x)(ht:P.underlying t=some d)(hd : ∀ ms,d ≠ .interface ms)(hx:Rep fid Γ v (ρ x)):Comes P fid Γ ρ o (.iface u v) Γ.σ:=by
 refine .pure hr (x := .iface t (ρ x)) ?_ ?_
 ·simp only[execOp,ho,Instr.makeInterface,Sem.run_bind,qak ht,Result.andThen_ok]
  cases d<;>first | (exact absurd rfl (hd _)) | simp
 ·simp only[Rep]; exact⟨_,by rw[hty],hx⟩
theorem qoI(hr:Real fid Γ){name:String}{xs:Array Operand}{x:Operand}{u g:Nat}{v:V}(ho:o.op = .makeFunc (.method name) xs #[])(hxs:xs = #[x])(hx:Rep fid Γ (.iface u v) (ρ x))(hm:fid.mt g (fid.ty u) name):Comes P fid Γ ρ o (.bm g v) Γ.σ:=by
 simp only[Rep] at hx
 obtain⟨y,h1,h2⟩:=hx
 subst hxs
 refine .pure hr (x := .func (.method name) #[.iface (fid.ty u) y] #[]) ?_ ?_
 ·simp[execOp,ho,Instr.makeFunc,h1]
 ·simp only[Rep]
  exact⟨_,_,_,rfl,hm,h2⟩
theorem qwg (hr:Real fid Γ) {op:UnOp} {t:TypeId} {x:Operand} {A r:Value} (ho:o.op = .unOp op t x) (hx:Rep fid Γ (.dat (.lit A)) (ρ x))
  (h:unV op A=some r):Comes P fid Γ ρ o (.dat (.lit r)) Γ.σ:=by
 have key:(Op.unary op A).run P Γ.w = .ok r Γ.w/\qa4 r=true:=by
  cases A<;>cases op<;>simp only[unV] at h<;>first
   | (cases h; done)
   | (cases h; simp[Op.unary,Op.intArith,qa4]; done)
   | (cases h; simp[Op.unary,Op.intBits,qa4,qql]; done)
 refine .pure hr (x:=r) ?_ (qcq key.2)
 simp only[execOp,ho,(qat hx).1]
 rw[Sem.run_bind,key.1]
 simp
theorem qnv (hr:Real fid Γ) {k:CK} {s t:TypeId} {x:Operand} {A r:Value} {d:TypeDesc} (ho:o.op = .convert s t x) (hx:Rep fid Γ (.dat (.lit A)) (ρ x))
  (hs:P.underlying s=some d) (ht:(∃ j,k = .int j/\P.underlying t=some (.int j))\/(k = .intStr/\P.underlying t=some .string)\/(k = .strStr/\P.underlying t=some .string))
  (h:qmL k A=some r):Comes P fid Γ ρ o (.dat (.lit r)) Γ.σ:=by
 have key:(convert s t A).run P Γ.w = .ok r Γ.w/\qa4 r=true:=by
  rcases ht with ⟨j,rfl,ht⟩|⟨rfl,ht⟩|⟨rfl,ht⟩<;>cases A<;>simp only[qmL] at h<;>first
   | (cases h; done)
   | (cases h
      simp only[convert,Sem.run_bind,qak hs,qak ht,Result.andThen_ok]
      simp[Conv.intToInt,Conv.intToString,qa4])
 refine .pure hr (x:=r) ?_ (qcq key.2)
 simp only[execOp,ho,(qat hx).1]
 rw[Sem.run_bind,key.1]
 simp
theorem qib(hr:Real fid Γ){x:Operand}{u:V}(ho:o.op = .nilCheck x)(hu:Rep fid Γ u (ρ x))(h:(∃ l k,u = .ptr l k)\/(∃ cs k,u = .dat (.imm cs k)) \/ ∃ l n k,u = .eptr l n k):Comes P fid Γ ρ o u Γ.σ:=by
 have : ∃ a,ρ x = .pointer (some a):=by grind [Rep,RepD]
 obtain⟨a,ha⟩:=this
 refine .pure hr (x := ρ x) ?_ hu
 simp[execOp,ho,ha]
theorem qnw(hr:Real fid Γ){x:Operand}{t:Nat}{u:V}(ho:o.op = .nilCheck x)(hu:Rep fid Γ (.iface t u) (ρ x)):Comes P fid Γ ρ o (.iface t u) Γ.σ:=by
 refine .pure hr (x := ρ x) ?_ hu
 simp only[Rep] at hu
 obtain⟨y,h1,_⟩:=hu
 simp[execOp,ho,h1]
theorem qfr {t e:TypeId} {i:TypeInfo} {name:String} {m:Method} {f:FuncId} (hi:P.info? t=some i) (hm:i.methods.find? (·.name==name)=some m) (hp:m.path = #[]) (hf:m.func=some (f,true)) (n:Nat) (v:Value) (w:World) :
  (nilAhead (n+1) t v name).run P w = .ok (some false) w:=by
 unfold nilAhead
 simp only[Sem.run_bind,qaO hi,Result.andThen_ok,hm,hp,followBlind,Sem.run_pure,hf]
theorem qnx(hr:Real fid Γ)(hmt : ∀ g t nm,fid.mt g t nm ↔ ∃ f,methT P t nm=some f/\ids.fn f=some g){x:Operand}{g:Nat}{u:V}(ho:o.op = .nilCheck x)(hu:Rep fid Γ (.bm g u) (ρ x)):Comes P fid Γ ρ o (.bm g u) Γ.σ:=by
 refine .pure hr (x := ρ x) ?_ hu
 simp only[Rep] at hu
 obtain⟨t,nm,y,h1,h2,h3⟩:=hu
 obtain⟨f,hf,_⟩:=(hmt _ _ _).1 h2
 unfold methT at hf
 split at hf
 ·rename_i i e hi hu
  split at hf
  ·rename_i m hm
   split at hf
   ·rename_i hp
    split at hf
    ·rename_i f' hf'
     simp only[execOp,ho,h1,Sem.run_bind,run_program,Result.andThen_ok]
     have:(#[Value.iface t y]:Array Value)[0]?=some (.iface t y):=rfl
     simp only[this,Sem.run_bind,run_program,Result.andThen_ok,Made.depth,qfr (e:=e) hi hm (Array.isEmpty_iff.1 hp) hf']
     simp
    ·cases hf
   ·cases hf
  ·cases hf
 ·cases hf
theorem qeQ{k:Nat}{p q:V}{x:Value}(hp:Rep fid Γ p x)(h:qb4 k p=some q) : ∃ a,x = .pointer (some a)/\Rep fid Γ q (.pointer (some (a.add k))):=by
 unfold qb4 at h
 split at h
 ·grind [Rep,qb4,qaT]
 ·grind [Rep,RepD,qb4,qaT]
 ·grind [Rep,qb4,qaT]
 ·cases h
theorem qkg (hr:Real fid Γ) {s:TypeId} {f:Nat} {x:Operand} {p q:V} {fields:Array Field} {fd:Field} {n:Nat} (ho:o.op = .fieldAddr s x f) (hp:Rep fid Γ p (ρ x))
  (hs:P.underlying s=some (.struct fields)) (hf:fields[f]?=some fd) (hn:qax P fd.type=some n) (h0:n≠0) (h:qb4 fd.offset p=some q):Comes P fid Γ ρ o q Γ.σ:=by
 obtain⟨a,h1,h2⟩:=qeQ hp h
 refine .pure hr ?_ h2
 simp only[execOp,ho,Instr.fieldAt,h1,Instr.sureAddr,Sem.run_bind,qak hs,Result.andThen_ok,hf,fieldPlace,qaw hn]
 simp[h0]
theorem qd5{u:V}{x:Value}{cs:List V}(hu:Rep fid Γ u x)(h:u.aggCells=some cs) : ∃ xs,x = .agg xs.toArray/\Reps fid Γ cs xs:=by
 unfold V.aggCells at h
 split at h
 ·cases h
  simp only[Rep,RepD] at hu
  obtain⟨vs,rfl,h⟩:=hu
  exact⟨vs,rfl,Reps_dat.2 h⟩
 ·cases h
  simpa only [Rep] using hu
 ·cases h
theorem qli {t:TypeId} {agg:Bool} {off n:Nat} {xs:List Value} {cs vs:List V} {u:V} (hs:(agg=true/\qaz P t=some true/\qax P t=some n)\/(agg=false/\qaz P t=some false/\n=1))
  (hx:Reps fid Γ cs xs) (hc:qay cs off n=some vs) (hu:qbm agg vs=some u) (w:World) : ∃ y,(part t xs.toArray off).run P w = .ok y w/\Rep fid Γ u y:=by
 obtain⟨c1,c2,c3⟩:=qee hc
 have h4:Reps fid Γ vs ((xs.drop off).take n):=by rw[c1]; exact qbk (qbw hx off) n
 rcases hs with ⟨rfl,ha,hsz⟩|⟨rfl,ha,rfl⟩
 ·rcases qcA h4 hu with ⟨_,h5⟩|⟨h5,_⟩
  ·refine⟨_,?_,h5⟩
   simp only[part,Sem.run_bind,qb2 ha,Result.andThen_ok,if_true,qaw hsz,Sem.run_pure]
   congr 2
   apply Array.ext'
   simp[List.take_drop]
  ·cases h5
 ·rcases qcA h4 hu with ⟨h5,_⟩|⟨_,x,hx',h5⟩
  ·cases h5
  ·refine⟨x,?_,h5⟩
   have:xs[off]?=some x:=by
    have:((xs.drop off).take 1)[0]?=some x:=by rw[hx']; rfl
    simpa using this
   simp only[part,Sem.run_bind,qb2 ha,Result.andThen_ok]
   simp[this]
theorem qny (hr:Real fid Γ) {s:TypeId} {f:Nat} {x:Operand} {p u:V} {agg:Bool} {n:Nat} {fields:Array Field} {fd:Field} {cs vs:List V} (ho:o.op = .field s x f) (hp:Rep fid Γ p (ρ x))
  (hs:P.underlying s=some (.struct fields)) (hf:fields[f]?=some fd) (hn:(agg=true/\qaz P fd.type=some true/\qax P fd.type=some n)\/(agg=false/\qaz P fd.type=some false/\n=1))
  (ha:p.aggCells=some cs) (hc:qay cs fd.offset n=some vs) (hu:qbm agg vs=some u):Comes P fid Γ ρ o u Γ.σ:=by
 obtain⟨xs,h1,h2⟩:=qd5 hp ha
 obtain⟨y,h3,h4⟩:=qli hn h2 hc hu Γ.w
 refine .pure hr ?_ h4
 simp only[execOp,ho,Instr.field,h1,asAgg,Sem.run_bind,qak hs,Result.andThen_ok,hf]
 simp[h3]
theorem qkh (hr:Real fid Γ) {t e:TypeId} {n:Nat} {x i:Operand} {p q:V} {k:IntKind} {j:Int} (ho:o.op = .indexAddr t x i) (hp:Rep fid Γ p (ρ x)) (hi:Rep fid Γ (.dat (.lit (.int k j))) (ρ i))
  (ht:P.underlying t=some (.slice e)) (hn:qax P e=some n) (h:qbr n p j=some q):Comes P fid Γ ρ o q Γ.σ:=by
 have key : ∃ a len cap,ρ x = .slice (some a) len cap/\0<=j/\j<len/\Rep fid Γ q (.pointer (some (a.add (j.toNat*n)))):=by
  unfold qbr at h
  split at h
  ·grind [Rep,RepD,qax,qbr,Comes,qaT]
  ·grind [Rep,RepD,qax,qbr,Comes,qaT]
  ·grind [Rep,qax,qbr,Comes,qaT]
  ·split at h
   ·rename_i hj
    cases h
    simp only[Rep] at hp ⊢
    obtain⟨a,cap,hx,h2,h0,h3,h4⟩:=hp
    obtain⟨hj1,hj2,rfl⟩:=hj
    refine⟨_,_,_,hx,hj1,hj2,_,rfl,h3,fun ob cs k1 k2=>⟨(h4 ob cs k1 k2).1,fun hl=>?_⟩⟩
    obtain⟨b,arr,e,g1,rfl,g3,g4⟩:=(h4 ob cs k1 k2).2 hl
    exact⟨b,arr,e,g1,by rw[qaT],g3,Nat.le_trans (Nat.add_le_add_left (Nat.mul_le_mul_right _ h2) _) g4⟩
   ·cases h
  ·split at h
   ·rename_i hj
    cases h
    simp only[Rep] at hp ⊢
    obtain⟨a,cap,hx,h2,h0,h3,h4⟩:=hp
    obtain⟨hj1,hj2,rfl⟩:=hj
    refine⟨_,_,_,hx,hj1,hj2,_,rfl,h3,fun ob cs k1 k2=>⟨(h4 ob cs k1 k2).1,fun hl=>?_⟩⟩
    obtain⟨b,arr,e,g1,ga,g3,g4,g5,g6⟩:=(h4 ob cs k1 k2).2 hl
    exact⟨b,arr,e,g1,by rw[ga (by omega),qaT,Nat.add_assoc],g3,g5⟩
   ·cases h
  ·cases h
 obtain⟨a,len,cap,h1,h2,h3,h4⟩:=key
 refine .pure hr ?_ h4
 simp only[execOp,ho,Instr.indexAt,(qat hi).1,asIntOf,h1,Sem.run_bind,Sem.run_pure,Result.andThen_ok,qak ht]
 simp[qaw hn,h2,h3]
theorem qju (hr:Real fid Γ) {t e:TypeId} {n len:Nat} {x i:Operand} {p q:V} {k:IntKind} {j:Int} (ho:o.op = .indexAddr t x i) (hp:Rep fid Γ p (ρ x)) (hi:Rep fid Γ (.dat (.lit (.int k j))) (ρ i))
  (ht:P.underlying t=some (.array len e)) (hn:qax P e=some n) (hj:0<=j/\j<len) (h:qb4 (j.toNat*n) p=some q):Comes P fid Γ ρ o q Γ.σ:=by
 obtain⟨a,h1,h2⟩:=qeQ hp h
 refine .pure hr ?_ h2
 simp only[execOp,ho,Instr.indexAt,(qat hi).1,asIntOf,h1,Instr.sureAddr,Sem.run_bind,Sem.run_pure,Result.andThen_ok,qak ht]
 simp[qaw hn,hj.1,hj.2]
theorem qlj (hr:Real fid Γ) {t e:TypeId} {agg:Bool} {n len:Nat} {x i:Operand} {p u:V} {k:IntKind} {j:Int} {cs vs:List V} (ho:o.op = .index t x i) (hp:Rep fid Γ p (ρ x)) (hi:Rep fid Γ (.dat (.lit (.int k j))) (ρ i))
  (ht:P.underlying t=some (.array len e)) (hn:(agg=true/\qaz P e=some true/\qax P e=some n)\/(agg=false/\qaz P e=some false/\n=1/\qax P e=some 1)) (hj:0<=j/\j<len)
  (ha:p.aggCells=some cs) (hc:qay cs (j.toNat*n) n=some vs) (hu:qbm agg vs=some u):Comes P fid Γ ρ o u Γ.σ:=by
 obtain⟨xs,h1,h2⟩:=qd5 hp ha
 obtain⟨y,h3,h4⟩:=qli (P:=P) (t:=e) (by rcases hn with h|⟨a,b,c,_⟩; exact .inl h; exact .inr ⟨a,b,c⟩) h2 hc hu Γ.w
 have hsz:qax P e=some n:=by rcases hn with ⟨_,_,h⟩|⟨_,_,rfl,h⟩<;>exact h
 refine .pure hr ?_ h4
 simp only[execOp,ho,Instr.index,(qat hi).1,asIntOf,h1,Sem.run_bind,Sem.run_pure,Result.andThen_ok,qak ht]
 simp[qaw hsz,hj.1,hj.2,h3]
theorem qoJ (hr:Real fid Γ) {t:TypeId} {x i:Operand} {k:IntKind} {j:Int} {s:ByteArray} {c:UInt8} (ho:o.op = .index t x i) (hp:Rep fid Γ (.dat (.lit (.string s))) (ρ x)) (hi:Rep fid Γ (.dat (.lit (.int k j))) (ρ i))
  (ht:P.underlying t=some .string) (hj:0<=j) (hs:s[j.toNat]?=some c):Comes P fid Γ ρ o (.dat (.lit (.int .u8 c.toNat))) Γ.σ:=by
 refine .pure hr ?_ (qcq rfl)
 simp only[execOp,ho,Instr.index,(qat hi).1,(qat hp).1,asIntOf,Sem.run_bind,Sem.run_pure,Result.andThen_ok,qak ht]
 simp[hj,hs]
theorem qq1 (hr:Real fid Γ) {k:LK} {t:TypeId} {x:Operand} {p:V} {n:Int} {c:Call} (ho:o.op = .call c) (hcal:c.callee = .builtin .len) (hargs:c.args.toList=[x]) (hts:c.argTypes.toList=[t]) (hp:Rep fid Γ p (ρ x))
  (ht:(k = .str/\P.underlying t=some .string)\/(k = .sl /\ ∃ e,P.underlying t=some (.slice e))\/(k = .mp /\ ∃ a b,P.underlying t=some (.map a b))) (h:p.len Γ.σ k=some n):Comes P fid Γ ρ o (.dat (.lit (.int .i64 n))) Γ.σ:=by
 have ha:c.args = #[x]:=by apply Array.ext'; simpa using hargs
 have hb:c.argTypes = #[t]:=by apply Array.ext'; simpa using hts
 have key:(Builtin.len_ #[t] o.type #[ρ x]).run P Γ.w = .ok (.int .i64 n) Γ.w:=by
  unfold V.len at h
  simp only[Builtin.len_]
  split at h
  ·cases h
   rcases ht with ⟨h,_⟩|⟨_,e,ht⟩|⟨h,_⟩<;>first|cases h; done|skip
   rw[(qat hp).1]
   simp[qak ht,goInt]
  ·cases h
   rcases ht with ⟨_,ht⟩|⟨h,_⟩|⟨h,_⟩<;>first|cases h; done|skip
   rw[(qat hp).1]
   simp[qak ht,goInt]
  ·cases h
   rcases ht with ⟨h,_⟩|⟨_,e,ht⟩|⟨h,_⟩<;>first|cases h; done|skip
   simp only[Rep,RepD] at hp
   obtain⟨b,o',cap,vs,hx,_⟩:=hp
   rw[hx]
   simp[qak ht,goInt]
  ·cases h
   rcases ht with ⟨h,_⟩|⟨_,e,ht⟩|⟨h,_⟩<;>first|cases h; done|skip
   simp only[Rep] at hp
   obtain⟨b,cap,vs,m,hx,_⟩:=hp
   rw[hx]
   simp[qak ht,goInt]
  ·cases h
   rcases ht with ⟨h,_⟩|⟨_,e,ht⟩|⟨h,_⟩<;>first|cases h; done|skip
   simp only[Rep] at hp
   obtain⟨b,_,hx,_⟩:=hp
   rw[hx]
   simp[qak ht,goInt]
  ·cases h
   rcases ht with ⟨h,_⟩|⟨_,e,ht⟩|⟨h,_⟩<;>first|cases h; done|skip
   simp only[Rep] at hp
   obtain⟨a,cap,hx,_⟩:=hp
   rw[hx]
   simp[qak ht,goInt]
  ·cases h
   rcases ht with ⟨h,_⟩|⟨_,e,ht⟩|⟨h,_⟩<;>first|cases h; done|skip
   simp only[Rep] at hp
   obtain⟨a,cap,hx,_⟩:=hp
   rw[hx]
   simp[qak ht,goInt]
  ·split at h
   ·rename_i es hes
    cases h
    rcases ht with ⟨h,_⟩|⟨h,_⟩|⟨_,a,b,ht⟩<;>first|cases h; done|skip
    simp only[Rep] at hp
    obtain⟨b,hm,hx,_⟩:=hp
    obtain⟨_,ents,clock,h2,h3⟩:=hr.obs _ _ b hes hm
    rw[hx]
    have hl : ∀ {es:List (Value × V)} {xs:List MapEntry},RepE fid Γ es xs->xs.length=es.length:=by
     intro es
     induction es with
     |nil=>intro xs h; simp only[RepE] at h; simp[h]
     |cons a r ih=>intro xs h; obtain⟨k,v⟩:=a; simp only[RepE] at h; obtain⟨e,es',rfl,_,_,h⟩:=h; simp[ih h]
    have:=hl h3
    simp only[Array.length_toList] at this
    simp[qak ht,goInt,getObj,Sem.run,h2,this]
   ·cases h
  ·cases h
 refine .pure hr (x := .int .i64 n) ?_ (qcq rfl)
 simp only[execOp,ho,resolve,hcal,ha,hb,invoke,builtin,Sem.run_bind,Sem.run_pure,Result.andThen_ok]
 simp[key]
theorem qlk : ∀ {ys:List Value} {y r:Value},qqn y ys=some r->qa4 y=true->(ys.foldlM Builtin.min2 y).run P Γ.w = .ok r Γ.w/\qa4 r=true
 |[],y,r,h,hy=>by simp_all [qqn]
 |z::ys,y,r,h,hy=>by
  cases y<;>cases z<;>simp only[qqn] at h<;>first | (cases h; done) | skip
  have:=qlk (ys:=ys) h rfl
  simp only[List.foldlM_cons,Sem.run_bind,Builtin.min2,Sem.run_pure,Result.andThen_ok]
  exact this
theorem qe0 : ∀ {vs:List V} {ys xs:List Value},qma vs=some ys->Reps fid Γ vs xs->xs=ys /\ ∀ y∈ys,qa4 y=true
 |[],ys,xs,h,hx=>by grind [qma,Reps]
 |v::vs,ys,xs,h,hx=>by
  simp only[Reps] at hx
  obtain⟨x,xs',rfl,h1,h2⟩:=hx
  cases v with
  |dat d=>
   cases d with
   |lit u=>
    simp only[qma] at h
    split at h
    ·rename_i us hus
     cases h
     obtain⟨h3,h4⟩:=qe0 hus h2
     obtain⟨h5,h6⟩:=qat h1
     subst h3; subst h5
     exact⟨rfl,by simpa [h6] using h4⟩
    ·cases h
   |_=>simp[qma] at h
  |_=>simp[qma] at h
theorem qvU (hr:Real fid Γ) {c:Call} {vs:List V} {y r:Value} {ys:List Value} (ho:o.op = .call c) (hcal:c.callee = .builtin .min) (hp:Reps fid Γ vs (c.args.toList.map ρ))
  (hl:qma vs=some (y::ys)) (h:qqn y ys=some r):Comes P fid Γ ρ o (.dat (.lit r)) Γ.σ:=by
 obtain⟨h1,h2⟩:=qe0 hl hp
 obtain⟨h3,h4⟩:=qlk (P:=P) (Γ := Γ) h (h2 y (by simp))
 refine .pure hr (x:=r) ?_ (qcq h4)
 simp only[execOp,ho,resolve,hcal,invoke,builtin,Sem.run_bind,Sem.run_pure,Result.andThen_ok,Builtin.min_,Array.toList_map,h1,h3]
theorem qll : ∀ {ys:List Value} {y r:Value},qqo y ys=some r->qa4 y=true->(ys.foldlM Builtin.max2 y).run P Γ.w = .ok r Γ.w/\qa4 r=true
 |[],y,r,h,hy=>by simp_all [qqo]
 |z::ys,y,r,h,hy=>by
  cases y<;>cases z<;>simp only[qqo] at h<;>first | (cases h; done) | skip
  have:=qll (ys:=ys) h rfl
  simp only[List.foldlM_cons,Sem.run_bind,Builtin.max2,Sem.run_pure,Result.andThen_ok]
  exact this
theorem qvV (hr:Real fid Γ) {c:Call} {vs:List V} {y r:Value} {ys:List Value} (ho:o.op = .call c) (hcal:c.callee = .builtin .max) (hp:Reps fid Γ vs (c.args.toList.map ρ))
  (hl:qma vs=some (y::ys)) (h:qqo y ys=some r):Comes P fid Γ ρ o (.dat (.lit r)) Γ.σ:=by
 obtain⟨h1,h2⟩:=qe0 hl hp
 obtain⟨h3,h4⟩:=qll (P:=P) (Γ := Γ) h (h2 y (by simp))
 refine .pure hr (x:=r) ?_ (qcq h4)
 simp only[execOp,ho,resolve,hcal,invoke,builtin,Sem.run_bind,Sem.run_pure,Result.andThen_ok,Builtin.max_,Array.toList_map,h1,h3]
theorem quW (hr:Real fid Γ) {f:FuncId} {g:Nat} {xs ys:Array Operand} {as bs:List V} (ho:o.op = .makeFunc (.func f) xs ys) (hg:fid g=f) (ha:Reps fid Γ as (xs.toList.map ρ)) (hb:Reps fid Γ bs (ys.toList.map ρ)) :
  Comes P fid Γ ρ o (.fn g as bs) Γ.σ:=by
 refine .pure hr (x := .func (.func f) (xs.map ρ) (ys.map ρ)) ?_ ?_
 ·simp[execOp,ho,Instr.makeFunc]
 ·simp only[Rep]
  exact⟨_,_,by rw[hg]; simp[<- Array.toList_map],ha,hb⟩
theorem qlm{vs:List V}{xs:List Value}(h:Reps fid Γ vs xs){i:Nat}{v:V}(hv:vs[i]?=some v) : ∃ x,xs[i]?=some x/\Rep fid Γ v x:=by
 induction vs generalizing xs i with
 |nil=>simp at hv
 |cons u vs ih=>
  simp only[Reps] at h
  obtain⟨x,xs',rfl,h1,h2⟩:=h
  cases i with
  |zero=>simp at hv; subst hv; exact⟨x,rfl,h1⟩
  |succ i=>exact ih h2 (by simpa using hv)
theorem qnz(hr:Real fid Γ){x:Operand}{i:Nat}{vs:List V}{u:V}(ho:o.op = .extract x i)(hp:Rep fid Γ (.tup vs) (ρ x))(h:vs[i]?=some u):Comes P fid Γ ρ o u Γ.σ:=by
 simp only[Rep] at hp
 obtain⟨xs,hx,h1⟩:=hp
 obtain⟨y,h2,h3⟩:=qlm h1 h
 refine .pure hr ?_ h3
 simp[execOp,ho,hx,Instr.extract,h2]
def qgB(fid:Fid)(Γ : Ctx)(ρ : Operand->Value):Option V->Option Operand->Prop
 |none,none=>True
 |some v,some y=>Rep fid Γ v (ρ y)
 |_,_=>False
theorem qaB {x:Option V} {xo:Option Operand} {d most k:Nat} (hx:qgB fid Γ ρ x xo) (h:bound x d most=some k) :
  (xo=none/\k=d) \/ ∃ y kd i,xo=some y /\ ρ y = .int kd i/\0<=i/\i<=most/\k=i.toNat:=by
 cases x with
 |none=>
  cases xo with
  |none=>simp only[bound,Option.some.injEq] at h; exact .inl ⟨rfl,h.symm⟩
  |some y=>exact hx.elim
 |some v=>
  cases xo with
  |none=>exact hx.elim
  |some y=>
   unfold bound at h
   split at h
   ·rename_i e; cases e
   ·rename_i kd i e
    cases e
    split at h
    ·rename_i hi
     cases h
     exact .inr ⟨y,kd,i,rfl,(qat (fid:=fid) (Γ := Γ) hx).1,hi.1,hi.2,rfl⟩
    ·cases h
   ·cases h
theorem qbl {lo hi:Option V} {lx hx:Option Operand} {isSl:Bool} {n cap h l:Nat}
  (h1:qgB fid Γ ρ lo lx) (h2:qgB fid Γ ρ hi hx)
  (hn:n<=cap) (hh:bound hi n n=some h) (hl:bound lo 0 h=some l) (w:World) :
  (Instr.sliceBounds isSl n cap (lx.map ρ) (hx.map ρ) none).run P w = .ok (l,h,cap) w:=by
 rcases qaB h2 hh with ⟨rfl,rfl⟩|⟨y,kd,i,rfl,e1,e2,e3,rfl⟩<;>rcases qaB h1 hl with ⟨rfl,rfl⟩|⟨y',kd',i',rfl,f1,f2,f3,rfl⟩
 ·simp[Instr.sliceBounds]
 ·simp[Instr.sliceBounds,Instr.sliceBound,f1,asIntOf,f2,f3]
 ·simp[Instr.sliceBounds,Instr.sliceBound,e1,asIntOf,e2,show i<=(cap:Int) from by omega]
 ·simp[Instr.sliceBounds,Instr.sliceBound,e1,f1,asIntOf,e2,f2,show i<=(cap:Int) from by omega]
  omega
theorem qnA{F:Nat->Nat}{w:World}{b o:Nat}{vs:List Value}(h:Row F w b o vs)(l n:Nat):Row F w b (o+l) ((vs.drop l).take n):=by grind [Row]
theorem qki{F:Nat->Nat}{w:World}{b o:Nat}:Row F w b o []:=⟨fun i v h=>by simp at h,fun h=>absurd h (Nat.lt_irrefl _),fun v h=>by simp at h⟩
theorem qeR{lo hi:Option V}{lx hx:Option Operand}{n ll hh:Nat}(h1:qgB fid Γ ρ lo lx)(h2:qgB fid Γ ρ hi hx)(eh:bound hi n n=some hh)(el:bound lo 0 hh=some ll):ll<=hh/\hh<=n:=by
 constructor
 ·rcases qaB h1 el with ⟨_,rfl⟩|⟨_,_,i',_,_,i3,i4,rfl⟩<;>omega
 ·rcases qaB h2 eh with ⟨_,rfl⟩|⟨_,_,i',_,_,i3,i4,rfl⟩<;>omega
theorem qln {l n off len sz ll hh cap:Nat} {a:Addr} (g2:len<=cap) (g0:0<sz) (g3 : ∃ ob,Γ.σ[l]?=some ob/\ob.isTip=true)
  (g4 : ∀ ob cs,Γ.σ[l]?=some ob->ob.rows=some cs->n<=cs.length/\(cs.length=n -> ∃ b arr e,Γ.μ l=some b/\(0<cap->a=⟨b,Γ.F b-ob.fz+off,none⟩) /\ Γ.w.heap[b]?=some (.cells arr e (0,0))/\off+len*sz<=n /\ Γ.F b-ob.fz+n<=arr.size /\ Γ.F b-ob.fz+(off+cap*sz)<=arr.size))
  (a1:ll<=hh) (a2:hh<=len):Rep fid Γ (.vw l n (off+ll*sz) (hh-ll) sz) (.slice (if cap=ll then some a else (some a).map (·.add (ll*sz))) (hh-ll) (cap-ll)):=by
 have e1:hh*sz<=len*sz:=Nat.mul_le_mul_right _ a2
 have e2:ll*sz<=hh*sz:=Nat.mul_le_mul_right _ a1
 have e3:(hh-ll)*sz=hh*sz-ll*sz:=Nat.sub_mul _ _ _
 have e4:(cap-ll)*sz=cap*sz-ll*sz:=Nat.sub_mul _ _ _
 have e5:hh*sz<=cap*sz:=Nat.mul_le_mul_right _ (by omega)
 simp only[Rep]
 refine⟨if cap=ll then a else a.add (ll*sz),cap-ll,by split<;>simp,by omega,g0,g3,fun ob cs k1 k2=>⟨(g4 ob cs k1 k2).1,fun hl=>?_⟩⟩
 obtain⟨b,arr,e,j1,j2,j3,j4,j5,j6⟩:=(g4 ob cs k1 k2).2 hl
 refine⟨b,arr,e,j1,fun hc=>?_,j3,by omega,j5,by omega⟩
 rw[if_neg (by omega),j2 (by omega),qaT,Nat.add_assoc]
theorem qnB (hr:Real fid Γ) {t e:TypeId} {n:Nat} {x:Operand} {p u:V} {lo hi:Option V} {lx hx:Option Operand} (ho:o.op = .slice t x lx hx none) (hp:Rep fid Γ p (ρ x))
  (ht:P.underlying t=some (.slice e)) (hn:qax P e=some n)
  (h1:qgB fid Γ ρ lo lx) (h2:qgB fid Γ ρ hi hx)
  (h:qcS n lo hi p=some u):Comes P fid Γ ρ o u Γ.σ:=by
 have fin : ∀ {a len cap l h},ρ x = .slice a len cap->(Instr.sliceBounds true len cap (lx.map ρ) (hx.map ρ) none).run P Γ.w = .ok (l,h,cap) Γ.w ->
   Rep fid Γ u (.slice (if cap=l then a else a.map (·.add (l*n))) (h-l) (cap-l))->Comes P fid Γ ρ o u Γ.σ := fun ha hb hc=>by
  refine .pure hr ?_ hc
  simp only[execOp,ho,Instr.sliceAt,Sem.run_bind,qak ht,Result.andThen_ok,Instr.slice,ha,Option.map_none,hb,qaw hn,Sem.run_pure]
 have cut : ∀ {cs:List D} {len full':Nat} {b off cap:Nat} {vs:List Value} {l h:Nat},RepDs Γ.F Γ.w cs vs->Row Γ.F Γ.w b off vs->cs.length=len*n->len<=cap->l<=h->h<=len ->
   Rep fid Γ (.dat (.sl ((cs.drop (l*n)).take ((h-l)*n)) (h-l) false)) (.slice (if cap=l then some ⟨b,off,none⟩ else (some (⟨b,off,none⟩:Addr)).map (·.add (l*n))) (h-l) (cap-l)):=by
  intro cs len _ b off cap vs l h g1 g2 g3 g4 g5 g6
  simp only[Rep,RepD]
  by_cases hc:cap=l
  ·have:h-l=0:=by omega
   rw[this]
   refine⟨b,off,cap-l,[],by simp[hc],by omega,by simp,by simp[RepDs],qki⟩
  ·refine⟨b,off+l*n,cap-l,((vs.drop (l*n)).take ((h-l)*n)),by simp[hc,qaT],by omega,by simp,qd0 (qdZ g1 _) _,qnA g2 _ _⟩
 unfold qcS at h
 split at h
 ·split at h
  ·rename_i hh eh
   split at h
   ·rename_i ll el
    cases h
    have hb:=qbl (P:=P) (isSl:=true) h1 h2 (Nat.le_refl 0) eh el Γ.w
    refine fin (qat hp).1 hb ?_
    have:ll=0/\hh=0:=by grind [Rep,qax,qgB,qcS,Comes,qaB]
    obtain⟨rfl,rfl⟩:=this
    simp only[if_true]
    exact qcq rfl
   ·cases h
  ·cases h
 ·rename_i cs len full
  split at h
  ·rename_i hh eh
   split at h
   ·rename_i ll el
    split at h
    ·rename_i hlen
     cases h
     simp only[Rep,RepD] at hp
     obtain⟨b,off,cap,vs,hx',g2,g3,g4,g5⟩:=hp
     refine fin hx' (qbl (P:=P) (isSl:=true) h1 h2 g2 eh el Γ.w) (cut (full':=0) g4 g5 hlen g2 ?_ ?_)
     ·grind [Rep,qax,qgB,qcS,Comes,qaB]
     ·grind [Rep,qax,qgB,qcS,Comes,qaB]
    ·cases h
   ·cases h
  ·cases h
 ·rename_i cs len sz l0
  split at h
  ·rename_i hh eh
   split at h
   ·rename_i ll el
    split at h
    ·rename_i hlen
     cases h
     simp only[Rep] at hp
     obtain⟨b,cap,vs,m,hx',g2,g4,g5,_⟩:=hp
     refine fin hx' (qbl (P:=P) (isSl:=true) h1 h2 g2 eh el Γ.w) (cut (full':=0) g4 g5 hlen g2 ?_ ?_)
     ·grind [Rep,qax,qgB,qcS,Comes,qaB]
     ·grind [Rep,qax,qgB,qcS,Comes,qaB]
    ·cases h
   ·cases h
  ·cases h
 ·rename_i l0 off len cap sz'
  split at h
  ·rename_i hh eh
   split at h
   ·rename_i ll el
    split at h
    ·rename_i hsz
     subst hsz
     cases h
     simp only[Rep] at hp
     obtain⟨b,hm,hx',g2,g3⟩:=hp
     refine fin hx' (qbl (P:=P) (isSl:=true) h1 h2 g2 eh el Γ.w) ?_
     have a1:ll<=hh:=by rcases qaB h1 el with ⟨_,rfl⟩|⟨_,_,i',_,_,i3,i4,rfl⟩<;>omega
     have a2:hh<=len:=by rcases qaB h2 eh with ⟨_,rfl⟩|⟨_,_,i',_,_,i3,i4,rfl⟩<;>omega
     simp only[Rep]
     refine⟨b,hm,?_,by omega,g3⟩
     by_cases hc:cap=ll
     ·simp[hc]
     ·simp[hc,qaT]
    ·cases h
   ·cases h
  ·cases h
 ·rename_i l0 m0 off len sz'
  split at h
  ·rename_i hh eh
   split at h
   ·rename_i ll el
    split at h
    ·rename_i hsz
     subst hsz
     cases h
     simp only[Rep] at hp
     obtain⟨a,cap,hx',g2,g0,g3,g4⟩:=hp
     refine fin hx' (qbl (P:=P) (isSl:=true) h1 h2 g2 eh el Γ.w) ?_
     exact qln g2 g0 g3 g4 (qeR h1 h2 eh el).1 (qeR h1 h2 eh el).2
    ·cases h
   ·cases h
  ·cases h
 ·cases h
theorem qq2 (hr:Real fid Γ) {s t e:TypeId} {x:Operand} {b:ByteArray} {d:TypeDesc} (ho:o.op = .convert s t x) (hx:Rep fid Γ (.dat (.lit (.string b))) (ρ x)) (hs:P.underlying s=some d) (ht:P.underlying t=some (.slice e)) (he:P.underlying e=some (.int .u8)) :
  Comes P fid Γ ρ o (.dat (.sl (qdA b) b.size false)) Γ.σ:=by
 have hrun:=Lib.run_convert_string_bytes (P:=P) Γ.w s t e b hs ht he
 have hsz:=Lib.bytesWorld_size Γ.w e b
 have hold:=fun j hj=>Lib.bytesWorld_at_old Γ.w e b j hj
 have hnew:=Lib.bytesWorld_at_new Γ.w e b
 have hcell:=fun j hj=>Lib.bytesWorld_cell Γ.w e b j hj
 have hcap:b.size<=grownCap Γ.w b.size 0 e:=by simp only[grownCap,Question.cut]; omega
 have hasz:b.size<=(Lib.bytesCells Γ.w e b).size:=by show b.data.size<=_; simp only[Lib.bytesCells,Array.size_append,Array.size_map]; omega
 have hw:(Lib.bytesWorld Γ.w e b).os = Γ.w.os/\(Lib.bytesWorld Γ.w e b).tape = Γ.w.tape/\(Lib.bytesWorld Γ.w e b).output = Γ.w.output:=by
  unfold Lib.bytesWorld World.freeze
  simp only[Nat.one_ne_zero,if_false]
  exact⟨rfl,rfl,rfl⟩
 generalize Lib.bytesWorld Γ.w e b=w' at *
 have hext:Ext Γ ⟨Γ.σ,Γ.μ,grow Γ.F Γ.w.heap.size b.size,w'⟩:=by
  refine⟨by simp; omega,hw.1,hw.2.1,hw.2.2,fun k=>?_,fun k i v hi hv=>?_,fun k arr t hb ha=>⟨arr,?_,rfl⟩,Nat.le_refl _,fun _ ob h ht=>⟨⟨ob,h,ht⟩,fun _ h=>h⟩,fun _ m h=>⟨m,h,Nat.le_refl _,fun h=>h,fun _ _ h=>h⟩,
   qdC fun l ob h _ => .inl ⟨h,fun k hk=>⟨hk,by simp only[grow]; rw[if_neg (by have:=(hr.dom l k hk).2; omega)],fun _ _ ha=>by show w'.heap[k]?=_; rw[hold k (hr.dom l k hk).2]; exact ha⟩⟩⟩
  ·simp only[grow]; split
   ·rename_i e; subst e; rw[hr.F_size]; exact Nat.zero_le _
   ·exact Nat.le_refl _
  ·rw[cell?_of_block (hold k (hr.F_lt (by omega)))]; exact hv
  ·rw[hold k (hr.F_lt hb)]; exact ha
 refine⟨⟨Γ.σ,Γ.μ,grow Γ.F Γ.w.heap.size b.size,w'⟩,_,rfl,⟨fun l ob k h1 h2=>?_,fun l k h=>?_,hr.inj,fun k hk=>?_,Glb.ext hext hr.glb⟩,⟨hext,⟨fun k hk hn=>⟨hold k hk,?_⟩,fun l k h _=>⟨l,h⟩⟩,fun _ _ h=>h⟩,?_,.inl (by
  simp only[execOp,ho,(qat hx).1]; rw[Sem.run_bind,hrun]; simp; rfl)⟩
 ·have hb:=(hr.dom l k h2).2
  exact RepOb.ext hext (hold k hb) (by simp only[grow]; rw[if_neg (by omega)]) ob (hr.obs l ob k h1 h2)
 ·have:=hr.dom l k h
  exact⟨this.1,by simp; omega⟩
 ·simp only[grow] at hk ⊢
  split at hk
  ·grind
  ·rename_i e'
   obtain⟨a,t,fz,h1,h2⟩:=hr.imm k hk
   exact⟨a,t,fz,by rw[hold k (qbP h1)]; exact h1,by simpa [e'] using h2⟩
 ·simp only[grow]; rw[if_neg (by omega)]
 ·simp only[Rep,RepD]
  refine⟨Γ.w.heap.size,0,_,b.data.toList.map fun c => .int .u8 c.toNat,rfl,hcap,by simp,?_,⟨fun i v hi=>?_,fun _=>?_,?_⟩⟩
  ·have:qdA b=(b.data.toList.map fun c=>Value.int .u8 c.toNat).map .lit:=by simp[qdA]
   rw[this]
   exact qdK fun v hv=>by obtain⟨c,_,rfl⟩:=List.mem_map.1 hv; rfl
  ·have hi':i<b.size:=by have:=(List.getElem?_eq_some_iff.1 hi).1; rw[List.length_map,Array.length_toList] at this; exact this
   have:=hcell i hi'
   rw[Nat.zero_add,this]
   rw[List.getElem?_map] at hi
   cases hg:b.data.toList[i]? with
   |none=>rw[hg] at hi; cases hi
   |some c=>rw[hg] at hi; simp at hi; subst hi; simp[List.getD,hg]
  ·simp_all [grow]
  ·intro v hv
   obtain⟨c,_,rfl⟩:=List.mem_map.1 hv
   rfl
theorem qoK (hr:Real fid Γ) {t:TypeId} {x:Operand} {p u:V} {lo hi:Option V} {lx hx:Option Operand} (ho:o.op = .slice t x lx hx none) (hp:Rep fid Γ p (ρ x))
  (ht:P.underlying t=some .string)
  (h1:qgB fid Γ ρ lo lx) (h2:qgB fid Γ ρ hi hx)
  (h:qhV lo hi p=some u):Comes P fid Γ ρ o u Γ.σ:=by
 unfold qhV at h
 split at h
 ·split at h
  ·rename_i hh eh
   split at h
   ·rename_i ll el
    cases h
    refine .pure hr ?_ (qcq rfl)
    have hb:=qbl (P:=P) (isSl:=false) h1 h2 (Nat.le_refl _) eh el Γ.w
    simp only[execOp,ho,Instr.sliceAt,Sem.run_bind,qak ht,Result.andThen_ok,Instr.slice,(qat hp).1,Option.map_none,Sem.run_pure]
    simp[hb]
   ·cases h
  ·cases h
 ·cases h
end
end
section
variable{P:Program}{fid:Fid}
theorem qkB{α : Type}(l:List α) : ∀ n,(qbq n l).length=n*l.length
 |0=>by simp[qbq]
 |n+1=>by simp[qbq,qkB l n,Nat.add_mul]; omega
def qbi:List KD->List Value->List Value->Option Bool
 |[],[],[]=>some true
 |k::ks,a::as,b::bs=>match qlL k a b,qbi ks as bs with
  |some x,some y=>some (x&&y)
  |_,_=>none
 |_,_,_=>none
theorem qir : ∀ {ks:List KD} {as bs:List D} {xs ys:List Value} {F:Nat->Nat} {w:World} {b:Bool},qd3 ks as bs=some b->RepDs F w as xs->RepDs F w bs ys->qbi ks xs ys=some b
 |[],as,bs,xs,ys,F,w,b,h,hx,hy=>by grind [qd3,RepDs,qbi]
 |k::ks,as,bs,xs,ys,F,w,b,h,hx,hy=>by
  cases as with
  |nil=>cases bs<;>simp[qd3] at h
  |cons a as=>
   cases bs with
   |nil=>cases a<;>simp[qd3] at h
   |cons c bs=>
    cases a<;>cases c<;>simp only[qd3] at h<;>first | (cases h; done) | skip
    rename_i u v
    simp only[RepDs,RepD] at hx hy
    obtain⟨x,xs',rfl,⟨rfl,_⟩,h1⟩:=hx
    obtain⟨y,ys',rfl,⟨rfl,_⟩,h2⟩:=hy
    split at h
    ·rename_i p q hp hq
     simp only[qbi,hp,qir hq h1 h2]
     exact h
    ·cases h
theorem qdR : ∀ {ks:List KD} {xs ys:List Value} {b:Bool},qbi ks xs ys=some b->xs.length=ks.length/\ys.length=ks.length
 |[],xs,ys,b,h=>by cases xs<;>cases ys<;>simp[qbi] at h ⊢
 |k::ks,xs,ys,b,h=>by
  cases xs<;>cases ys<;>simp only[qbi] at h<;>first | (cases h; done) | skip
  split at h
  ·rename_i p q hp hq
   have:=qdR hq
   simp[this.1,this.2]
  ·cases h
theorem qdj : ∀ {k1 k2:List KD} {xs ys:List Value} {b:Bool},qbi (k1++k2) xs ys=some b ->
  ∃ b1 b2,qbi k1 (xs.take k1.length) (ys.take k1.length)=some b1/\qbi k2 (xs.drop k1.length) (ys.drop k1.length)=some b2/\b=(b1&&b2)
 |[],k2,xs,ys,b,h=>⟨true,b,by simp[qbi],by simpa using h,by simp⟩
 |k::k1,k2,xs,ys,b,h=>by
  cases xs<;>cases ys<;>simp only[List.cons_append,qbi] at h<;>first | (cases h; done) | skip
  split at h
  ·rename_i p q hp hq
   obtain⟨b1,b2,h1,h2,rfl⟩:=qdj hq
   cases h
   refine⟨p&&b1,b2,?_,by simpa using h2,by rw[Bool.and_assoc]⟩
   simp only[List.length_cons,List.take_succ_cons,qbi,hp,h1]
  ·cases h
def EqV(P:Program)(D:Nat)(t:TypeId)(ks:List KD):Prop := ∀ (w:World) (x y:Value) (b:Bool),
 ((qaz P t=some true /\ ∃ xs ys:List Value,x = .agg xs.toArray/\y = .agg ys.toArray/\qbi ks xs ys=some b)\/(qaz P t=some false/\qbi ks [x] [y]=some b))->(Op.equalIn D t x y).run P w = .ok b w
theorem qis {t:TypeId} {ks:List KD} (hsz:qax P t=some ks.length) (hag:qaz P t=some true\/(qaz P t=some false/\ks.length=1)) {xs ys:List Value} {off:Nat} {b:Bool} {D:Nat} (hE:EqV P D t ks)
  (h:qbi ks ((xs.drop off).take ks.length) ((ys.drop off).take ks.length)=some b) (w:World) :
  ∃ x y,(part t xs.toArray off).run P w = .ok x w/\(part t ys.toArray off).run P w = .ok y w/\(Op.equalIn D t x y).run P w = .ok b w:=by
 rcases hag with ha|⟨ha,h1⟩
 ·refine⟨_,_,?_,?_,hE w _ _ b (.inl ⟨ha,(xs.drop off).take ks.length,(ys.drop off).take ks.length,rfl,rfl,h⟩)⟩
  ·simp only[part,Sem.run_bind,qb2 ha,Result.andThen_ok,if_true,qaw hsz,Sem.run_pure]
   congr 2
   apply Array.ext'
   simp[List.take_drop]
  ·simp only[part,Sem.run_bind,qb2 ha,Result.andThen_ok,if_true,qaw hsz,Sem.run_pure]
   congr 2
   apply Array.ext'
   simp[List.take_drop]
 ·rw[h1] at h
  obtain⟨l1,l2⟩:=qdR h
  rw[h1] at l1 l2
  obtain⟨x,hx⟩:=List.length_eq_one_iff.1 l1
  obtain⟨y,hy⟩:=List.length_eq_one_iff.1 l2
  rw[hx,hy] at h
  have g1:xs[off]?=some x:=by
   have:((xs.drop off).take 1)[0]?=some x:=by rw[hx]; rfl
   simpa using this
  have g2:ys[off]?=some y:=by
   have:((ys.drop off).take 1)[0]?=some y:=by rw[hy]; rfl
   simpa using this
  refine⟨x,y,?_,?_,hE w x y b (.inr ⟨ha,h⟩)⟩
  ·simp only[part,Sem.run_bind,qb2 ha,Result.andThen_ok]
   simp[g1]
  ·simp only[part,Sem.run_bind,qb2 ha,Result.andThen_ok]
   simp[g2]
theorem qd6{t:TypeId}{o:Option (List KD)}{ks:List KD}(h:qnO P t o=some ks):o=some ks/\qax P t=some ks.length:=by
 unfold qnO at h
 split at h
 ·grind
 ·cases h
theorem qgO{d:Nat}{t:TypeId}{ks:List KD}(h:qdh P d t=some ks):qax P t=some ks.length/\(qaz P t=some true\/(qaz P t=some false/\ks.length=1)):=by
 cases d with
 |zero=>simp[qdh] at h
 |succ d=>
  simp only[qdh] at h
  obtain⟨h1,h2⟩:=qd6 h
  refine⟨h2,?_⟩
  unfold qaz
  split at h1<;>rename_i hu<;>first | (cases h1; done) | (rw[hu]; first | (cases h1; exact .inr ⟨rfl,rfl⟩) | exact .inl rfl)
theorem qen {D:Nat} {rec:TypeId->Option (List KD)} (hrec : ∀ t ks,rec t=some ks->qax P t=some ks.length/\(qaz P t=some true\/(qaz P t=some false/\ks.length=1))/\EqV P D t ks)
  (xs ys:List Value) (w:World) : ∀ (fs:List Field) (off:Nat) (ks:List KD) (b:Bool),qbT rec off fs=some ks->qbi ks ((xs.drop off).take ks.length) ((ys.drop off).take ks.length)=some b ->
   (Op.eqFields D xs.toArray ys.toArray fs).run P w = .ok b w
 |[],off,ks,b,h,he=>by
  simp only[qbT,Option.some.injEq] at h; subst h
  simp[qbi] at he; subst he
  simp[Op.eqFields]
 |f::fs,off,ks,b,h,he=>by
  simp only[qbT] at h
  split at h
  ·rename_i hc
   split at h
   ·rename_i k1 hk1
    split at h
    ·rename_i k2 hk2
     cases h
     obtain⟨b1,b2,e1,e2,rfl⟩:=qdj he
     obtain⟨s1,s2,s3⟩:=hrec _ _ hk1
     rw[List.take_take,List.take_take,Nat.min_eq_left (by simp)] at e1
     have hd : ∀ l:List Value,((l.drop off).take (k1++k2).length).drop k1.length=(l.drop (off+k1.length)).take k2.length:=fun l=>by
      rw[List.drop_take,List.drop_drop]; congr 1; simp
     rw[hd,hd] at e2
     obtain⟨x,y,p1,p2,p3⟩:=qis s1 s2 s3 e1 w
     have ih:=qen hrec xs ys w fs _ _ _ hk2 e2
     rw[<- hc.1] at p1 p2
     simp only[Op.eqFields,hc.2,ne_eq,not_false_eq_true,if_true,Sem.run_bind,p1,p2,p3,Result.andThen_ok]
     cases b1
     ·simp
     ·simpa using ih
    ·cases h
   ·cases h
  ·cases h
theorem qfa {D:Nat} {t:TypeId} {k1:List KD} (s1:qax P t=some k1.length) (s2:qaz P t=some true\/(qaz P t=some false/\k1.length=1)) (s3:EqV P D t k1)
  (xs ys:List Value) (w:World) : ∀ (n i:Nat) (b:Bool),qbi (qbq n k1) ((xs.drop (i*k1.length)).take (n*k1.length)) ((ys.drop (i*k1.length)).take (n*k1.length))=some b ->
   (Op.eqItems D t k1.length xs.toArray ys.toArray (List.range' i n)).run P w = .ok b w
 |0,i,b,he=>by
  simp[qbi,qbq] at he; subst he
  simp[Op.eqItems]
 |n+1,i,b,he=>by
  simp only[qbq] at he
  obtain⟨b1,b2,e1,e2,rfl⟩:=qdj he
  rw[List.take_take,List.take_take,Nat.min_eq_left (by rw[Nat.add_mul]; omega)] at e1
  have hd : ∀ l:List Value,((l.drop (i*k1.length)).take ((n+1)*k1.length)).drop k1.length=(l.drop ((i+1)*k1.length)).take (n*k1.length):=fun l=>by
   rw[List.drop_take,List.drop_drop,Nat.add_mul,Nat.one_mul,Nat.add_mul,Nat.one_mul]; congr 1; omega
  rw[hd,hd] at e2
  obtain⟨x,y,p1,p2,p3⟩:=qis s1 s2 s3 e1 w
  have ih:=qfa s1 s2 s3 xs ys w n (i+1) _ e2
  simp only[List.range'_succ,Op.eqItems,Sem.run_bind,p1,p2,p3,Result.andThen_ok]
  cases b1
  ·simp
  ·simpa using ih
theorem qmr : ∀ (d:Nat) (t:TypeId) (ks:List KD),qdh P d t=some ks -> ∀ D,d<=D->EqV P D t ks
 |0,t,ks,h,D,hD=>by simp[qdh] at h
 |d+1,t,ks,h,D,hD=>by
  obtain⟨D,rfl⟩ : ∃ D',D=D'+1:=⟨D-1,by omega⟩
  simp only[qdh] at h
  obtain⟨h1,h2⟩:=qd6 h
  intro w x y b hxy
  have hrec : ∀ t ks,qdh P d t=some ks->qax P t=some ks.length/\(qaz P t=some true\/(qaz P t=some false/\ks.length=1))/\EqV P D t ks:=fun t ks hk=>
   ⟨(qgO hk).1,(qgO hk).2,qmr d t ks hk D (by omega)⟩
  split at h1
  ·rename_i hu
   cases h1
   rcases hxy with ⟨ha,_⟩|⟨_,he⟩
   ·simp[qaz,hu] at ha
   ·simp only[qbi] at he
    cases x<;>cases y<;>simp only[qlL] at he<;>first | (cases he; done) | skip
    simp at he; subst he
    exact run_equalIn_bool w D t _ _ hu
  ·rename_i k hu
   cases h1
   rcases hxy with ⟨ha,_⟩|⟨_,he⟩
   ·simp[qaz,hu] at ha
   ·simp only[qbi] at he
    cases x<;>cases y<;>simp only[qlL] at he<;>first | (cases he; done) | skip
    rename_i k1 a k2 c
    by_cases hk:k1=k2
    ·subst hk
     simp[eqI] at he; subst he
     have:=run_equalIn_int (P:=P) w D t k1 k a c hu
     simpa using this
    ·rw[if_neg hk] at he; cases he
  ·rename_i hu
   cases h1
   rcases hxy with ⟨ha,_⟩|⟨_,he⟩
   ·simp[qaz,hu] at ha
   ·simp only[qbi] at he
    cases x<;>cases y<;>simp only[qlL] at he<;>first | (cases he; done) | skip
    rename_i a c
    simp[eqS] at he; subst he
    have:=run_equalIn_string (P:=P) w D t a c hu
    simpa using this
  ·rename_i fs hu
   split at h1
   ·cases h1
   ·rename_i hst
    have hst':P.stoodInHeld t=false:=by simpa using hst
    rcases hxy with ⟨_,xs,ys,rfl,rfl,he⟩|⟨ha,_⟩
    ·obtain⟨l1,l2⟩:=qdR he
     have hf:P.fieldsOf t=fs:=by simp[Program.fieldsOf,hu]
     rw[run_equalIn_struct w D t _ _ (by rw[hf]; exact hu) hst',hf]
     refine qen hrec xs ys w fs.toList 0 ks b h1 ?_
     rw[List.drop_zero,List.drop_zero,List.take_of_length_le (by omega),List.take_of_length_le (by omega)]
     exact he
    ·simp[qaz,hu] at ha
  ·rename_i len e hu
   simp only[Option.map_eq_some_iff] at h1
   obtain⟨k1,hk1,rfl⟩:=h1
   rcases hxy with ⟨_,xs,ys,rfl,rfl,he⟩|⟨ha,_⟩
   ·obtain⟨l1,l2⟩:=qdR he
    obtain⟨s1,s2,s3⟩:=hrec _ _ hk1
    have hi : ∃ i,P.info? e=some i/\i.size=k1.length:=by simp_all [qax]
    obtain⟨i,hi,his⟩:=hi
    have hc:P.cellsOf e=k1.length:=by simp[Program.cellsOf,hi,his]
    rw[run_equalIn_array w D _ _ hu hi,hc,List.range_eq_range']
    have hl:(qbq len k1).length=len*k1.length:=qkB k1 len
    refine qfa s1 s2 s3 xs ys w len 0 b ?_
    rw[Nat.zero_mul,List.drop_zero,List.drop_zero,List.take_of_length_le (by omega),List.take_of_length_le (by omega)]
    exact he
   ·simp[qaz,hu] at ha
  ·cases h1
theorem qeW : ∀ (d:Nat) (t:TypeId) (ks:List KD),qdh P d t=some ks -> ∀ k,d<=k->P.eqGuardType k t=false
 |0,t,ks,h,k,_=>by simp[qdh] at h
 |d+1,t,ks,h,k,hk=>by
  obtain⟨k,rfl⟩ : ∃ k',k=k'+1:=⟨k-1,by omega⟩
  simp only[qdh] at h
  obtain⟨h1,h2⟩:=qd6 h
  unfold Program.eqGuardType
  split at h1<;>rename_i hu<;>first | (cases h1; done) | skip
  ·rw[hu]
  ·rw[hu]
  ·rw[hu]
  ·rename_i fs
   rw[hu]
   split at h1
   ·cases h1
   ·have key : ∀ (l:List Field) (off:Nat) (ks:List KD),qbT (qdh P d) off l=some ks -> ∀ f∈l,P.eqGuardType k f.type=false:=by
     intro l
     induction l with
     |nil=>intro _ _ _ f hf; cases hf
     |cons g l ih=>
      intro off ks h f hf
      simp only[qbT] at h
      split at h
      ·split at h
       ·rename_i k1 hk1
        split at h
        ·rename_i k2 hk2
         rcases List.mem_cons.1 hf with rfl|hf
         ·exact qeW d _ _ hk1 k (by omega)
         ·exact ih _ _ hk2 f hf
        ·cases h
       ·cases h
      ·cases h
    simp only[Array.any_eq_false']
    intro f hf
    have:=key _ _ _ h1 f (by simpa using hf)
    simp[this]
  ·rw[hu]
   simp only[Option.map_eq_some_iff] at h1
   obtain⟨k1,hk1,rfl⟩:=h1
   exact qeW d _ _ hk1 k (by omega)
section
variable{Γ : Ctx}{ρ : Operand->Value}{o:Oper}
theorem qn6 (hr:Real fid Γ) {op:BinOp} {t t':TypeId} {x y:Operand} {as bs:List D} {ks:List KD} {b:Bool} (neg:Bool) (hop:op=if neg then .neq else .eql) (ho:o.op = .binOp op t x y t') (ht:qaz P t=some true) (hk:qdh P 20 t=some ks)
  (hx:Rep fid Γ (.dat (.agg as)) (ρ x)) (hy:Rep fid Γ (.dat (.agg bs)) (ρ y)) (h:qd3 ks as bs=some b):Comes P fid Γ ρ o (.bool (if neg then !b else b)) Γ.σ:=by
 simp only[Rep,RepD] at hx hy
 obtain⟨xs,hx,h1⟩:=hx
 obtain⟨ys,hy,h2⟩:=hy
 have he:=qir h h1 h2
 have hq:(Op.equal t (.agg xs.toArray) (.agg ys.toArray)).run P Γ.w = .ok b Γ.w:=qmr 20 t ks hk 10000 (by omega) Γ.w _ _ b (.inl ⟨ht,xs,ys,rfl,rfl,he⟩)
 have hg : ∀ op,(eqGuard op t x y (.agg xs.toArray) (.agg ys.toArray)).run P Γ.w = .ok () Γ.w:=fun op=>run_eqGuard_agg Γ.w op t x y _ _ (qeW 20 t ks hk _ (by unfold Program.depth Made.depth; omega))
 refine .pure hr (x := .bool (if neg then !b else b)) ?_ (qcq rfl)
 simp only[execOp,ho,hx,hy,Sem.run_bind,hg,Result.andThen_ok]
 subst hop
 cases neg<;>simp[binOp,hq]
end
end
section
variable{P:Program}{ids:Ids}{fid:Fid}{N:Nat}
section
variable{Γ : Ctx}{fr:Fr}{ρ : Operand->Value}{o:Oper}{v:V}{σ':S}{C:Task->Option Res}
inductive PartsRep(fid:Fid)(Γ : Ctx)(place:Nat->Option (Nat × Nat)):List (Nat × Nat × V)->List (Nat × Value)->Prop
 |nil:PartsRep fid Γ place [] []
 | cons {i off n:Nat} {v:V} {x:Value} {ps:List (Nat × Nat × V)} {xs:List (Nat × Value)} (hp:place i=some (off,n)) (hv:Rep fid Γ v x) (h:PartsRep fid Γ place ps xs) :
   PartsRep fid Γ place ((off,n,v)::ps) ((i,x)::xs)
theorem qbQ (hid:Ties P ids fid) (hr:Real fid Γ) {a:Act} (hf:FrRep fid Γ N fr a.tmps) {place:Nat->Option (Nat × Nat)} : ∀ {xs:List (Nat × Operand)} {ys:List (Nat × Nat × X)} {ps:List (Nat × Nat × V)},
  qgz ids N place xs=some ys->qbF fr ys=some ps->PartsRep fid Γ place ps (xs.map fun (i,x)=>(i,a.eval x))
 |[],ys,ps,hc,hv=>by
  simp only[qgz,Option.some.injEq] at hc; subst hc
  simp only[qbF,Option.some.injEq] at hv; subst hv
  exact .nil
 | (i,x)::xs,ys,ps,hc,hv=>by
  simp only[qgz] at hc
  split at hc
  ·rename_i off n y ys' h1 h2 h3
   cases hc
   simp only[qbF] at hv
   split at hv
   ·rename_i u us h4 h5
    cases hv
    exact .cons h1 (qal hid hr hf h2 h4) (qbQ hid hr hf h3 h5)
   ·cases hv
  ·cases hc
theorem qjp : ∀ (xs:List Value) (cs:Array Value) (off k:Nat),off+k+xs.length<=cs.size ->
  ((xs.zipIdx k).foldl (fun cs (c,j)=>cs.setIfInBounds (off+j) c) cs).toList=cs.toList.take (off+k)++(xs++cs.toList.drop (off+k+xs.length))
 |[],cs,off,k,_=>by simp
 |x::xs,cs,off,k,h=>by
  simp only[List.length_cons] at h
  simp only[List.zipIdx_cons,List.foldl_cons]
  rw[qjp xs _ off (k+1) (by simp; omega)]
  have hlt:off+k<cs.toList.length:=by rw[Array.length_toList]; omega
  rw[Array.toList_setIfInBounds,show off+(k+1)=off+k+1 from by omega]
  rw[List.take_succ_eq_append_getElem (by simpa using hlt),List.getElem_set_self,List.take_set_of_le (Nat.le_refl _),List.drop_set_of_lt (by omega)]
  simp
  omega
theorem qdX {place:Nat->Option (Nat × Nat)} {ps:List (Nat × Nat × V)} {xs:List (Nat × Value)} (h:PartsRep fid Γ place ps xs) : ∀ {cs:List V} {arr:Array Value} {r:List V},
  Reps fid Γ cs arr.toList->qcD cs ps=some r -> ∃ arr',Instr.fill place arr xs=some arr'/\Reps fid Γ r arr'.toList:=by
 induction h with
 |nil=>intro cs arr r hc hr; simp only[qcD,Option.some.injEq] at hr; subst hr; exact⟨arr,rfl,hc⟩
 | @cons i off n v x ps xs hp hv h ih=>
  intro cs arr r hc hr
  simp only[qcD] at hr
  split at hr
  ·rename_i hcond
   obtain⟨c1,c2,c3⟩:=hcond
   have hcells:=qc1 hv
   have hl1:=Reps.length hcells
   have hl2:=Reps.length hc
   simp only[Array.length_toList] at hl1 hl2
   have hfold:=qjp x.cells.toList arr off 0 (by simp; omega)
   have hfold':(x.cells.zipIdx.foldl (fun cs (c,j)=>cs.setIfInBounds (off+j) c) arr).toList=arr.toList.take off++(x.cells.toList++arr.toList.drop (off+n)):=by
    rw[<- Array.foldl_toList,Array.toList_zipIdx,hfold]
    simp[hl1,c1]
   obtain⟨arr',h1,h2⟩:=ih (cs:=cs.take off++(v.cells++cs.drop (off+n))) (arr:=x.cells.zipIdx.foldl (fun cs (c,j)=>cs.setIfInBounds (off+j) c) arr)
    (by rw[hfold']; exact Reps_append.2 ⟨_,_,rfl,qbk hc off,Reps_append.2 ⟨_,_,rfl,hcells,qbw hc _⟩⟩) hr
   refine⟨arr',?_,h2⟩
   simp only[Instr.fill,hp]
   rw[if_neg (by simp; omega)]
   exact h1
  ·cases hr
theorem qhi(w:World) : ∀ {fs:List Field} {ps:List (Nat × Nat)},qe5 P fs=some ps->(fs.mapM fun f=>do pure (f.offset,<- sizeOf f.type):Sem (List (Nat × Nat))).run P w = .ok ps w
 |[],ps,h=>by simp only[qe5,Option.some.injEq] at h; subst h; simp
 |f::fs,ps,h=>by
  simp only[qe5] at h
  split at h
  ·rename_i n ps' h1 h2
   cases h
   simp only[List.mapM_cons,Sem.run_bind,qaw h1,Result.andThen_ok,Sem.run_pure]
   rw[qhi w h2]
   simp
  ·cases h
theorem qoC (hr:Real fid Γ) {t:TypeId} {parts:Array (Nat × Operand)} {fields:Array Field} {z:Value} {pl:List (Nat × Nat)} {ps:List (Nat × Nat × V)} {cs:List V}
  (ho:o.op = .build t parts) (ht:P.underlying t=some (.struct fields)) (hz:qbK P t=some z) (hpl:qe5 P fields.toList=some pl)
  (hps:PartsRep fid Γ (fun i=>pl[i]?) ps (parts.toList.map fun (i,x)=>(i,ρ x))) (h:qcD ((qar z).map .dat) ps=some cs):Comes P fid Γ ρ o (qd9 cs) Γ.σ:=by
 obtain⟨arr',h1,h2⟩:=qdX hps (Reps_dat.2 (qaG (qa1 hz))) h
 refine .pure hr (x := .agg arr') ?_ (by have:=qc0 h2; simpa using this)
 simp only[execOp,ho,Instr.build,Sem.run_bind,qaL hz,Result.andThen_ok,qak ht,Array.mapM_eq_mapM_toList]
 have:=qhi (P:=P) Γ.w hpl
 simp only[Sem.run_map] at this ⊢
 rw[this]
 simp only[Result.andThen_ok,Array.toList_map,List.getElem?_toArray]
 have e:(parts.toList.map fun x=>match x with | (i,x)=>(i,ρ x))=parts.toList.map fun (i,x)=>(i,ρ x):=rfl
 rw[h1]
 simp
theorem qoD (hr:Real fid Γ) {t e:TypeId} {parts:Array (Nat × Operand)} {len n:Nat} {z:Value} {ps:List (Nat × Nat × V)} {cs:List V}
  (ho:o.op = .build t parts) (ht:P.underlying t=some (.array len e)) (hz:qbK P t=some z) (hn:qax P e=some n)
  (hps:PartsRep fid Γ (fun i=>some (i*n,n)) ps (parts.toList.map fun (i,x)=>(i,ρ x))) (h:qcD ((qar z).map .dat) ps=some cs):Comes P fid Γ ρ o (qd9 cs) Γ.σ:=by
 obtain⟨arr',h1,h2⟩:=qdX hps (Reps_dat.2 (qaG (qa1 hz))) h
 refine .pure hr (x := .agg arr') ?_ (by have:=qc0 h2; simpa using this)
 simp only[execOp,ho,Instr.build,Sem.run_bind,qaL hz,Result.andThen_ok,qak ht,qaw hn,Array.toList_map]
 rw[h1]
 simp
theorem qby{α : Type}(l:List α) : ∀ n,(qbq n l).length=n*l.length
 |0=>by simp[qbq]
 |n+1=>by simp[qbq,qby l n,Nat.add_mul]; omega
theorem qfw{α : Type}(l:List α) : ∀ (n j:Nat),j<n*l.length->(qbq n l)[j]?=l[j % l.length]?
 |0,j,h=>by simp at h
 |n+1,j,h=>by
  simp only[qbq]
  by_cases hj:j<l.length
  ·rw[List.getElem?_append_left hj,Nat.mod_eq_of_lt hj]
  ·rw[List.getElem?_append_right (by omega),qfw l n (j-l.length) (by rw[Nat.add_mul] at h; omega)]
   congr 1
   rw[<- Nat.mod_eq_sub_mod (by omega)]
theorem qoE{α β : Type}(f : α -> β)(l:List α) : ∀ n,(qbq n l).map f=qbq n (l.map f)
 |0=>rfl
 |n+1=>by simp[qbq,qoE f l n]
theorem qbR(zs:Array Value)(n:Nat)(hz:0<zs.size):((Array.range (n*zs.size)).map (zs[· % zs.size]!)).toList=qbq n zs.toList:=by
 apply List.ext_getElem?
 intro j
 by_cases hj:j<n*zs.size
 ·rw[qfw _ _ _ (by simpa using hj)]
  simp[hj,Array.getElem!_eq_getD,Array.getD,Nat.mod_lt j hz]
 ·rw[List.getElem?_eq_none (by simp; omega),List.getElem?_eq_none (by rw[qby]; simp; omega)]
theorem qbD{F:Nat->Nat}{w:World}{ds:List D}{xs:List Value}(h:RepDs F w ds xs) : ∀ n,RepDs F w (qbq n ds) (qbq n xs)
 |0=>by simp[qbq,RepDs]
 |n+1=>RepDs_append.2 ⟨_,_,rfl,h,qbD h n⟩
theorem qjq (hr:Real fid Γ) {ds:List D} {arr:Array Value} (e:TypeId) (hd:RepDs Γ.F Γ.w ds arr.toList) (h1' : ∀ v∈arr.toList,v.oneCell'=true) (n cap:Nat) (full:Bool) (hc:n<=cap) (hf:full=true->cap=n) :
  ∃ Γ':Ctx,Γ'.σ = Γ.σ /\ Real fid Γ'/\Step Γ Γ' /\ Γ'.w = Γ.w.alloc (.cells arr e)/\Rep fid Γ' (.dat (.sl ds n full)) (.slice (some ⟨Γ.w.heap.size,0,none⟩) n cap):=by
 obtain⟨h1,h2⟩:=qkH hr arr e arr.size (Nat.le_refl _)
 refine⟨⟨Γ.σ,Γ.μ,grow Γ.F Γ.w.heap.size arr.size,Γ.w.alloc (.cells arr e)⟩,rfl,h1,h2,rfl,?_⟩
 simp only[Rep,RepD]
 refine⟨Γ.w.heap.size,0,cap,arr.toList,rfl,hc,hf,RepDs.ext h2.ext _ _ hd,fun i v hi=>?_,fun _=>by simp[grow],h1'⟩
 simp only[World.cell?,qao]
 simpa using hi
theorem fillV_one : ∀ {ps:List (Nat × Nat × V)} {cs r:List V},qcD cs ps=some r->cs.all V.one=true->r.all V.one=true
 |[],cs,r,h,hc=>by simp only[qcD,Option.some.injEq] at h; subst h; exact hc
 | (off,n,v)::ps,cs,r,h,hc=>by
  simp only[qcD] at h
  split at h
  ·rename_i hcond
   refine fillV_one h ?_
   rw[List.all_eq_true] at hc ⊢
   intro x hx
   rcases List.mem_append.1 hx with hx|hx
   ·exact hc x (List.mem_of_mem_take hx)
   ·rcases List.mem_append.1 hx with hx|hx
    ·exact List.all_eq_true.1 hcond.2.2 x hx
    ·exact hc x (List.mem_of_mem_drop hx)
  ·cases h
theorem qh4{α : Type}{x : α}{l:List α} : ∀ {n:Nat},x∈qbq n l->x∈l
 |0,h=>by simp[qbq] at h
 |n+1,h=>by
  simp only[qbq] at h
  rcases List.mem_append.1 h with h|h
  ·exact h
  ·exact qh4 h
theorem qfx{z:Value}(h:qdd z=true)(n:Nat):((qbq n (qar z)).map V.dat).all V.one=true:=by
 rw[List.all_eq_true]
 intro x hx
 obtain⟨d,hd,rfl⟩:=List.mem_map.1 hx
 have:=qh4 hd
 unfold qar at this
 obtain⟨v,hv,rfl⟩:=List.mem_map.1 this
 simp only[qdd,List.all_eq_true,Bool.and_eq_true] at h
 exact (h v hv).2
theorem qh5 (hr:Real fid Γ) {cs:List V} {arr:Array Value} (e:TypeId) (hd:Reps fid Γ cs arr.toList) (h1 : ∀ v∈arr.toList,v.oneCell'=true) (n:Nat) :
  ∃ Γ':Ctx,Γ'.σ = Γ.σ /\ Real fid Γ'/\Step Γ Γ' /\ Γ'.w = Γ.w.alloc (.cells arr e)/\Rep fid Γ' (.rw cs n) (.slice (some ⟨Γ.w.heap.size,0,none⟩) n n):=by
 obtain⟨k1,k2⟩:=qkH hr arr e arr.size (Nat.le_refl _)
 refine⟨⟨Γ.σ,Γ.μ,grow Γ.F Γ.w.heap.size arr.size,Γ.w.alloc (.cells arr e)⟩,rfl,k1,k2,rfl,?_⟩
 simp only[Rep]
 refine⟨Γ.w.heap.size,0,n,arr.toList,rfl,Nat.le_refl _,Reps.ext k2.ext _ _ hd,fun j v hj=>?_,fun _=>?_,h1⟩
 ·simp only[World.cell?,qao]
  simpa using hj
 ·simp[grow]
theorem qle (hr:Real fid Γ) {t e:TypeId} {parts:Array (Nat × Operand)} {len n:Nat} {z:Value} {ps:List (Nat × Nat × V)} {cs:List V} {u:V}
  (ho:o.op = .buildSlice t len parts) (ht:P.underlying t=some (.slice e)) (hz:qbK P e=some z) (hn:qax P e=some n) (hlen:len*n<=2 ^ 24) (hzn:z.cells.size=n) (h0:0<n)
  (hps:PartsRep fid Γ (fun i=>some (i*n,n)) ps (parts.toList.map fun (i,x)=>(i,ρ x))) (h:qcD ((qbq len (qar z)).map .dat) ps=some cs) (hd:(match qbf (qfp cs) with|some ds => .dat (.sl ds len true) | none => .rw (qfp cs) len)=u) :
  Comes P fid Γ ρ o u Γ.σ:=by
 have hzero:Reps fid Γ ((qbq len (qar z)).map .dat) ((Array.range (len*n)).map (z.cells[· % z.cells.size]!)).toList:=by
  subst hzn
  rw[qbR _ _ h0]
  exact Reps_dat.2 (qbD (qaG (qa1 hz)) len)
 obtain⟨arr',h1,h2⟩:=qdX hps hzero h
 have h3:=qnC h2
 have hone:=qbx h2 (fillV_one h (qfx (qa1 hz) len))
 have key : ∃ Γ':Ctx,Γ'.σ = Γ.σ /\ Real fid Γ'/\Step Γ Γ' /\ Γ'.w = Γ.w.alloc (.cells arr' e)/\Rep fid Γ' u (.slice (some ⟨Γ.w.heap.size,0,none⟩) len len):=by
  subst hd
  split
  ·rename_i ds hds
   rw[qcs hds] at h3
   exact qjq hr e (Reps_dat.1 h3) hone len len true (Nat.le_refl _) (fun _=>rfl)
  ·exact qh5 hr e h3 hone len
 obtain⟨Γ',k1,k2,k3,k4,k5⟩:=key
 refine⟨Γ',_,k1,k2,k3,k5,.inl ?_⟩
 rw[k4]
 simp only[execOp,ho,Instr.buildSlice,Sem.run_bind,qak ht,Result.andThen_ok,qaw hn,if_neg (show ¬ len*n > 2 ^ 24 by omega)]
 by_cases hl:len*n=0
 ·simp only[hl,if_true,Sem.run_bind,Result.andThen_ok,Sem.run_pure]
  have e0 : ∀ f:Nat->Value,Array.map f (Array.range 0) = #[]:=fun f=>by simp
  rw[hl,e0] at h1
  rw[Array.toList_map,e0,h1]
  simp[newRow]
 ·simp only[hl,if_false,Sem.run_bind,qaL hz,Result.andThen_ok,Sem.run_pure]
  rw[Array.toList_map,h1]
  simp[newRow]
theorem qfm : ∀ {ps:List (Nat × Nat × V)} {cs r:List V},qcD cs ps=some r->r.length=cs.length
 |[],cs,r,h=>by simp only[qcD,Option.some.injEq] at h; subst h; rfl
 | (off,n,v)::ps,cs,r,h=>by
  simp only[qcD] at h
  split at h
  ·rename_i hcond
   rw[qfm h]
   simp only[List.length_append,List.length_take,List.length_drop,hcond.1]
   have:=hcond.2.1
   omega
  ·cases h
theorem qnq (hr:Real fid Γ) {t e:TypeId} {parts:Array (Nat × Operand)} {len n:Nat} {z:Value} {ps:List (Nat × Nat × V)} {cs:List V} {ds:List D}
  (ho:o.op = .buildSlice t len parts) (ht:P.underlying t=some (.slice e)) (hz:qbK P e=some z) (hn:qax P e=some n) (hlen:len*n<=2 ^ 24) (hzn:z.cells.size=n) (h0:0<n)
  (hps:PartsRep fid Γ (fun i=>some (i*n,n)) ps (parts.toList.map fun (i,x)=>(i,ρ x))) (h:qcD ((qbq len (qar z)).map .dat) ps=some cs) (hd:qbf cs=some ds) :
  Comes P fid Γ ρ o (.own Γ.σ.length len n) (Γ.σ ++ [.vec cs]):=by
 have hzero:Reps fid Γ ((qbq len (qar z)).map .dat) ((Array.range (len*n)).map (z.cells[· % z.cells.size]!)).toList:=by
  subst hzn
  rw[qbR _ _ h0]
  exact Reps_dat.2 (qbD (qaG (qa1 hz)) len)
 obtain⟨arr',h1,h2⟩:=qdX hps hzero h
 have hone:=qbx h2 (fillV_one h (qfx (qa1 hz) len))
 have hlen2:arr'.toList.length=cs.length:=Reps.length h2
 have hcl:cs.length=len*n:=by
  rw[qfm h,List.length_map,qby]
  unfold qar
  rw[List.length_map,Array.length_toList,hzn]
 have hsz:arr'.size=cs.length:=by rw[<- hlen2,Array.length_toList]
 obtain⟨k1,k2⟩:=qbn hr (.vec cs) (.cells arr' e) 0
  (fun Γ' e' hx'=>by
   subst e'
   simp only[RepOb,grow,if_pos,Nat.zero_add,List.drop_zero]
   have htk:arr'.toList.take cs.length=arr'.toList:=List.take_of_length_le (by omega)
   refine⟨_,e,qao _ _,by rw[hsz]; exact Nat.le_refl _,?_,?_⟩
   ·rw[htk]; exact Reps.ext hx' _ _ h2
   ·rw[htk]; exact hone) (fun h=>absurd h (Nat.lt_irrefl _))
 have hrun:(execOp ρ o).run P Γ.w = .ok (.value (.slice (some ⟨Γ.w.heap.size,0,none⟩) len len)) (Γ.w.alloc (.cells arr' e)):=by
  simp only[execOp,ho,Instr.buildSlice,Sem.run_bind,qak ht,Result.andThen_ok,qaw hn,if_neg (show ¬ len*n > 2 ^ 24 by omega)]
  by_cases hl:len*n=0
  ·simp only[hl,if_true,Sem.run_bind,Result.andThen_ok,Sem.run_pure]
   have e0 : ∀ f:Nat->Value,Array.map f (Array.range 0) = #[]:=fun f=>by simp
   rw[hl,e0] at h1
   rw[Array.toList_map,e0,h1]
   simp[newRow]
  ·simp only[hl,if_false,Sem.run_bind,qaL hz,Result.andThen_ok,Sem.run_pure]
   rw[Array.toList_map,h1]
   simp[newRow]
 refine⟨_,.slice (some ⟨Γ.w.heap.size,0,none⟩) len len,rfl,k1,k2,?_,.inl hrun⟩
 simp only[Rep]
 refine⟨_,_,rfl,Nat.le_refl _,h0,⟨.vec cs,by simp,rfl⟩,fun ob cs' q1 q2=>?_⟩
 have:ob = .vec cs:=by simpa using q1.symm
 subst this
 simp only[Ob.rows,Option.some.injEq] at q2; subst q2
 refine⟨by rw[hcl]; exact Nat.le_refl _,fun _=>⟨Γ.w.heap.size,_,e,by simp[bind],by simp[grow,Ob.fz],qao _ _,?_⟩⟩
 simp[grow,Ob.fz,hsz,hcl]
theorem qnr (hr:Real fid Γ) {t e:TypeId} {x y:Operand} {k k':IntKind} {l c:Int} {n b:Nat} {z:Value} (ho:o.op = .makeSlice t x y) (ht:P.underlying t=some (.slice e)) (hz:qbK P e=some z) (hn:qax P e=some n) (hb:qca P e=some b)
  (hzn:z.cells.size=n) (h0:0<n) (hx:Rep fid Γ (.dat (.lit (.int k l))) (ρ x)) (hy:Rep fid Γ (.dat (.lit (.int k' c))) (ρ y)) (hc:0<=l/\l<=c/\c<=2 ^ 40/\b*c<=2 ^ 48) :
  Comes P fid Γ ρ o (.msl Γ.σ.length 0 l.toNat c.toNat (qar z).length) (Γ.σ ++ [.cells ((qbq c.toNat (qar z)).map .dat)]) /\
  Comes P fid Γ ρ o (.own Γ.σ.length l.toNat (qar z).length) (Γ.σ ++ [.vec ((qbq l.toNat (qar z)).map .dat)]):=by
 have hzl:(qar z).length=n:=by simp[qar,hzn]
 have hzero:Reps fid Γ ((qbq c.toNat (qar z)).map .dat) ((Array.range (c.toNat*n)).map (z.cells[· % z.cells.size]!)).toList:=by
  subst hzn
  rw[qbR _ _ h0]
  exact Reps_dat.2 (qbD (qaG (qa1 hz)) c.toNat)
 obtain⟨i,hi,hib⟩ : ∃ i,P.info? e=some i/\i.bytes=b:=by
  unfold qca at hb
  cases hi:P.info? e with
  |none=>rw[hi] at hb; cases hb
  |some i=>rw[hi] at hb; simp at hb; exact⟨i,rfl,hb⟩
 obtain⟨h1,h2⟩:=qbn hr (.cells ((qbq c.toNat (qar z)).map .dat)) (.cells ((Array.range (c.toNat*n)).map (z.cells[· % z.cells.size]!)) e) 0
  (fun Γ' e' hx'=>by
   subst e'
   simp only[RepOb,grow,if_pos]
   refine⟨trivial,_,e,qao _ _,?_⟩
   rw[Reps_dat] at hzero ⊢
   subst hzn
   rw[qbR _ _ h0]
   exact qbD (qaG (qa1 hz)) c.toNat) (fun h=>absurd h (Nat.lt_irrefl _))
 have hrun:(execOp ρ o).run P Γ.w = .ok (.value (.slice (some ⟨Γ.w.heap.size,0,none⟩) l.toNat c.toNat)) (Γ.w.alloc (.cells ((Array.range (c.toNat*n)).map (z.cells[· % z.cells.size]!)) e)):=by
  have w1:IntKind.i64.wrap l=l:=by rw[IntKind.wrap_i64]; omega
  have w2:IntKind.i64.wrap c=c:=by rw[IntKind.wrap_i64]; omega
  simp only[execOp,ho,(qat hx).1,(qat hy).1,Instr.makeSlice,Sem.run_bind,qak ht,Result.andThen_ok,asInt,Sem.run_pure,qaO hi,w1,w2,hib]
  have c1 : ¬ (c<0):=by omega
  have c2 : ¬ ((b:Int)*c > 2 ^ 48):=by omega
  have c3 : ¬ (l<0):=by omega
  have c4 : ¬ (l > c):=by omega
  simp only[asIntOf,Sem.run_pure,Result.andThen_ok,w1,w2,c1,c2,c3,c4,decide_false,Bool.or_false,Bool.false_or,Bool.false_eq_true,if_false,or_false,Sem.run_bind,run_askRoom,Result.andThen_ok,qaw hn]
  by_cases hl:c.toNat*n=0
  ·simp only[hl,if_true,Sem.run_bind,Result.andThen_ok,Sem.run_pure]
   have e0 : ∀ f:Nat->Value,Array.map f (Array.range 0) = #[]:=fun f=>by simp
   rw[e0,e0]
   simp[newRow]
  ·simp only[hl,if_false,Sem.run_bind,qaL hz,Result.andThen_ok,Sem.run_pure]
   simp[newRow]
 refine⟨⟨_,_,rfl,h1,h2,?_,.inl hrun⟩,?_⟩
 ·simp only[Rep]
  exact⟨Γ.w.heap.size,by simp[bind],rfl,by omega,⟨.cells ((qbq c.toNat (qar z)).map .dat),by simp,rfl⟩⟩
 ·have hle:l.toNat*n<=c.toNat*n:=Nat.mul_le_mul_right _ (by omega)
  have hrl:((qbq l.toNat (qar z)).map V.dat).length=l.toNat*n:=by rw[List.length_map,qby,hzl]
  have hsz:((Array.range (c.toNat*n)).map (z.cells[· % z.cells.size]!)).size=c.toNat*n:=by simp
  have hl':((Array.range (c.toNat*n)).map (z.cells[· % z.cells.size]!)).toList=qbq c.toNat z.cells.toList:=by subst hzn; rw[qbR _ _ h0]
  have htake:(qbq c.toNat z.cells.toList).take (l.toNat*n)=qbq l.toNat z.cells.toList:=by
   have hz':z.cells.toList.length=n:=by simpa using hzn
   apply List.ext_getElem?
   intro j
   by_cases hj:j<l.toNat*n
   ·rw[List.getElem?_take_of_lt hj,qfw _ _ _ (by rw[hz']; omega),qfw _ _ _ (by rw[hz']; omega)]
   ·rw[List.getElem?_take,if_neg hj,List.getElem?_eq_none (by rw[qby,hz']; omega)]
  obtain⟨h1,h2⟩:=qbn hr (.vec ((qbq l.toNat (qar z)).map .dat)) (.cells ((Array.range (c.toNat*n)).map (z.cells[· % z.cells.size]!)) e) 0
   (fun Γ' e' hx'=>by
    subst e'
    simp only[RepOb,grow,if_pos,Nat.zero_add,List.drop_zero]
    refine⟨_,e,qao _ _,by rw[hrl,hsz]; exact hle,?_,?_⟩
    ·rw[hrl,hl',htake]
     exact Reps_dat.2 (qbD (qaG (qa1 hz)) l.toNat)
    ·rw[hrl,hl',htake]
     intro v hv
     have:=qh4 hv
     have hok:=qa1 hz
     simp only[qdd,List.all_eq_true,Bool.and_eq_true] at hok
     exact (hok v this).2) (fun h=>absurd h (Nat.lt_irrefl _))
  refine⟨_,.slice (some ⟨Γ.w.heap.size,0,none⟩) l.toNat c.toNat,rfl,h1,h2,?_,.inl hrun⟩
  simp only[Rep]
  refine⟨_,_,rfl,by omega,by rw[hzl]; exact h0,⟨.vec ((qbq l.toNat (qar z)).map .dat),by simp,rfl⟩,fun ob cs k1 k2=>?_⟩
  have:ob = .vec ((qbq l.toNat (qar z)).map .dat):=by simpa using k1.symm
  subst this
  simp only[Ob.rows,Option.some.injEq] at k2; subst k2
  refine⟨by rw[hrl,hzl]; exact Nat.le_refl _,fun _=>⟨Γ.w.heap.size,_,e,by simp[bind],by simp[grow,Ob.fz],qao _ _,?_⟩⟩
  rw[hzl,hsz]; simp[grow,Ob.fz]
theorem qch{kd:KD}{kt:TypeId}(hk:kdT P kt=some kd){a b:Value}{r:Bool}(h:qcE kd a b=some r) : ∃ d,P.underlying kt=some d/\Instr.sameNow d a b=some r:=by
 unfold kdT at hk
 split at hk
 ·rename_i hu; cases hk
  refine⟨_,hu,?_⟩
  cases a<;>cases b<;>simp_all [qcE,Instr.sameNow]
 ·rename_i hu; cases hk
  refine⟨_,hu,?_⟩
  cases a<;>cases b<;>simp_all [qcE,Instr.sameNow]
 ·rename_i hu; cases hk
  refine⟨_,hu,?_⟩
  cases a<;>cases b<;>simp_all [qcE,Instr.sameNow]
 ·cases hk
theorem qcz{kd:KD}{kt:TypeId}(hk:kdT P kt=some kd)(e:Bool)(n:Nat)(key:Value)(w:World):(Instr.checkKey e (n+1) kt key).run P w = .ok () w:=by
 unfold kdT at hk
 split at hk
 ·rename_i hu; simp only[Instr.checkKey,Sem.run_bind,qak hu,Result.andThen_ok]; rfl
 ·rename_i hu; simp only[Instr.checkKey,Sem.run_bind,qak hu,Result.andThen_ok]; rfl
 ·rename_i hu; simp only[Instr.checkKey,Sem.run_bind,qak hu,Result.andThen_ok]; rfl
 ·cases hk
theorem qh6{kd:KD}{kt:TypeId}(hk:kdT P kt=some kd) : ∃ d,P.underlying kt=some d:=by
 unfold kdT at hk
 split at hk
 ·rename_i hu; exact⟨_,hu⟩
 ·rename_i hu; exact⟨_,hu⟩
 ·rename_i hu; exact⟨_,hu⟩
 ·cases hk
theorem qhj {kd:KD} {kt:TypeId} {d:TypeDesc} (hk:kdT P kt=some kd) (hu:P.underlying kt=some d) {key:Value} : ∀ {es:List (Value × V)} {xs:List MapEntry} {r:Option V} (i:Nat),RepE fid Γ es xs->qj4 kd key es=some r ->
  (r=none/\Instr.findNow d key xs i=some none) \/ ∃ u j x,r=some u/\Instr.findNow d key xs i=some (some (i+j,x))/\Rep fid Γ u x/\j<xs.length
 |[],xs,r,i,hx,h=>by
  simp only[qj4,Option.some.injEq] at h; subst h
  simp only[RepE] at hx; subst hx
  exact .inl ⟨rfl,rfl⟩
 | (k,v)::es,xs,r,i,hx,h=>by
  simp only[RepE] at hx
  obtain⟨e,xs',rfl,h1,h2,h3⟩:=hx
  simp only[qj4] at h
  split at h
  ·rename_i hs
   cases h
   obtain⟨d',hd,hs'⟩:=qch hk hs
   rw[hu] at hd; cases hd
   refine .inr ⟨v,0,e.val,rfl,?_,h2,by simp⟩
   simp only[Instr.findNow,h1,hs',Nat.add_zero]
  ·rename_i hs
   obtain⟨d',hd,hs'⟩:=qch hk hs
   rw[hu] at hd; cases hd
   rcases qhj hk hu (i+1) h3 h with ⟨rfl,h4⟩|⟨u,j,x,rfl,h4,h5,h6⟩
   ·exact .inl ⟨rfl,by simp only[Instr.findNow,h1,hs',h4]⟩
   ·exact .inr ⟨u,j+1,x,rfl,by simp only[Instr.findNow,h1,hs',h4]; congr 3; omega,h5,by simp; omega⟩
  ·cases h
theorem qlf (hr:Real fid Γ) {t kt e:TypeId} {kd:KD} {m k:Operand} {ok:Bool} {l:Nat} {key z:Value} {es:List (Value × V)} {r:Option V} (ho:o.op = .lookup t m k ok)
  (ht:P.underlying t=some (.map kt e)) (hk:kdT P kt=some kd) (hz:qbK P e=some z) (hm:Rep fid Γ (.mp l) (ρ m)) (hkey:Rep fid Γ (.dat (.lit key)) (ρ k)) (hes : Γ.σ[l]?=some (.map es)) (h:qj4 kd key es=some r) :
  Comes P fid Γ ρ o (match r with|some u=>if ok then .tup [u,.bool true] else u|none=>if ok then .tup [.dat (toD z),.bool false] else .dat (toD z)) Γ.σ:=by
 simp only[Rep] at hm
 obtain⟨b,hb,hmx,_⟩:=hm
 obtain⟨hF,ents,clock,h1,h2⟩:=hr.obs l _ b hes hb
 obtain⟨d,hu⟩:=qh6 hk
 have hrun : ∀ x,(Instr.findKey kt key ents.toList).run P Γ.w = .ok x Γ.w->(Instr.lookup t (.map (some b)) key ok).run P Γ.w=(match x with
   |some (_,v)=>Result.ok (if ok then .tuple #[v,.bool true] else v) Γ.w
   |none=>Result.ok (if ok then .tuple #[z,.bool false] else z) Γ.w):=fun x hx=>by
  simp only[Instr.lookup,Sem.run_bind,qak ht,Result.andThen_ok,getObj,Sem.run,h1,Sem.run_pure,qcz hk,hx]
  cases x with
  |none=>simp[qaL hz]
  |some p=>simp
 have hfk : ∀ x,Instr.findNow d key ents.toList 0=some x->(Instr.findKey kt key ents.toList).run P Γ.w = .ok x Γ.w:=fun x hx=>by
  simp only[Instr.findKey,Sem.run_bind,qak hu,Result.andThen_ok,hx]
  rfl
 rcases qhj hk hu 0 h2 h with ⟨rfl,h4⟩|⟨u,j,x,rfl,h4,h5,_⟩
 ·refine .pure hr (x:=if ok then .tuple #[z,.bool false] else z) ?_ ?_
  ·simp only[execOp,ho,hmx,(qat hkey).1,Sem.run_bind,hrun _ (hfk _ h4),Result.andThen_ok,Sem.run_pure]
  ·cases ok
   ·simpa [Rep] using qlo (qa1 hz)
   ·simp only[if_true,Rep]
    exact⟨[z,.bool false],rfl,z,_,rfl,by simpa [Rep] using qlo (qa1 hz),_,_,rfl,qcq rfl,rfl⟩
 ·refine .pure hr (x:=if ok then .tuple #[x,.bool true] else x) ?_ ?_
  ·simp only[execOp,ho,hmx,(qat hkey).1,Sem.run_bind,hrun _ (hfk _ h4),Result.andThen_ok,Sem.run_pure]
  ·cases ok
   ·simpa using h5
   ·simp only[if_true,Rep]
    exact⟨[x,.bool true],rfl,x,_,rfl,h5,_,_,rfl,qcq rfl,rfl⟩
theorem set_sound {kd:KD} {kt:TypeId} {d:TypeDesc} (hk:kdT P kt=some kd) (hu:P.underlying kt=some d) {key:Value} {u:V} {x:Value} (hx:Rep fid Γ u x) : ∀ {es es':List (Value × V)} {xs:List MapEntry} (i clock:Nat),RepE fid Γ es xs->qqm kd key u es=some es' ->
  (Instr.findNow d key xs i=some none/\RepE fid Γ es' (xs++[⟨key,x,clock⟩])) \/ ∃ j y old,Instr.findNow d key xs i=some (some (i+j,y))/\xs[j]?=some old/\qcE kd key old.key=some true /\
   ∀ f:MapEntry->MapEntry,(∀ e,(f e).key=key/\(f e).val=x)->RepE fid Γ es' (xs.modify j f)
 |[],es',xs,i,clock,hxs,h=>by
  simp only[qqm,Option.some.injEq] at h; subst h
  simp only[RepE] at hxs; subst hxs
  exact .inl ⟨rfl,⟨key,x,clock⟩,[],rfl,rfl,hx,rfl⟩
 | (k,v)::es,es',xs,i,clock,hxs,h=>by
  simp only[RepE] at hxs
  obtain⟨e,xs',rfl,h1,h2,h3⟩:=hxs
  simp only[qqm] at h
  split at h
  ·rename_i hs
   cases h
   obtain⟨d',hd,hs'⟩:=qch hk hs
   rw[hu] at hd; cases hd
   refine .inr ⟨0,e.val,e,?_,by simp,by rw[h1]; exact hs,fun f hf=>?_⟩
   ·simp only[Instr.findNow,h1,hs',Nat.add_zero]
   ·rw[List.modify_zero_cons]
    simp only[RepE]
    exact⟨f e,xs',rfl,(hf e).1,by rw[(hf e).2]; exact hx,h3⟩
  ·rename_i hs
   obtain⟨d',hd,hs'⟩:=qch hk hs
   rw[hu] at hd; cases hd
   split at h
   ·rename_i r' hr'
    cases h
    rcases set_sound hk hu hx (i+1) clock h3 hr' with ⟨h4,h5⟩|⟨j,y,old,h4,h5,h6,h7⟩
    ·refine .inl ⟨by simp only[Instr.findNow,h1,hs',h4],?_⟩
     simp only[List.cons_append,RepE]
     exact⟨e,_,rfl,h1,h2,h5⟩
    ·refine .inr ⟨j+1,y,old,by simp only[Instr.findNow,h1,hs',h4]; congr 3; omega,by simpa using h5,h6,fun f hf=>?_⟩
     rw[List.modify_succ_cons]
     simp only[RepE]
     exact⟨e,_,rfl,h1,h2,h7 f hf⟩
   ·cases h
  ·cases h
theorem qns(x y:ByteArray):(x==y)=decide (x=y):=by
 have h:(x==y)=(x.data==y.data):=rfl
 rw[h,Bool.eq_iff_iff]
 simp only[beq_iff_eq,decide_eq_true_eq]
 exact⟨fun h=>by cases x; cases y; simp only at h; rw[h],fun h=>by rw[h]⟩
theorem qkc{kd:KD}{a b:Value}(h:qcE kd a b=some true)(n:Nat):Instr.sameBits n b a=true:=by
 cases kd<;>cases a<;>cases b<;>simp_all [qcE,Instr.sameBits]
 simp only[qns,decide_eq_true_eq] at h ⊢
 exact h.symm
theorem qlg (hr:Real fid Γ) {t kt e:TypeId} {kd:KD} {m k x:Operand} {l:Nat} {key:Value} {u:V} {es es':List (Value × V)} (ho:o.op = .mapUpdate t m k x\/o.op = .insert t m k x)
  (ht:P.underlying t=some (.map kt e)) (hk:kdT P kt=some kd) (hm:Rep fid Γ (.mp l) (ρ m)) (hkey:Rep fid Γ (.dat (.lit key)) (ρ k)) (hx:Rep fid Γ u (ρ x)) (hes : Γ.σ[l]?=some (.map es)) (h:qqm kd key u es=some es') :
  Comes P fid Γ ρ o (.dat (.lit undef)) (Γ.σ.set l (.map es')):=by
 simp only[Rep] at hm
 obtain⟨b,hb,hmx,_⟩:=hm
 obtain⟨hF,ents,clock,h1,h2⟩:=hr.obs l _ b hes hb
 obtain⟨d,hu⟩:=qh6 hk
 have hfk : ∀ x,Instr.findNow d key ents.toList 0=some x->(Instr.findKey kt key ents.toList).run P Γ.w = .ok x Γ.w:=fun x hx=>by
  simp only[Instr.findKey,Sem.run_bind,qak hu,Result.andThen_ok,hx]
  rfl
 have hblt:=qbP h1
 have fin : ∀ ents' clock',(Instr.mapUpdate t (.map (some b)) key (ρ x)).run P Γ.w = .ok () { Γ.w with heap := Γ.w.heap.setIfInBounds b (.map ents' clock') }->RepE fid Γ es' ents'.toList ->
   Comes P fid Γ ρ o (.dat (.lit undef)) (Γ.σ.set l (.map es')):=fun ents' clock' hrun hrep=>by
  obtain⟨u1,u2⟩:=upd hr hes rfl (ob' := .map es') rfl hb (w':={ Γ.w with heap := Γ.w.heap.setIfInBounds b (.map ents' clock') })
   ⟨rfl,rfl,rfl,by simp,fun k hk=>by simp[Array.getElem?_setIfInBounds_ne (Ne.symm hk)]⟩ (fun hx=>by
    simp only[RepOb]
    exact⟨hF,ents',clock',by simp[hblt],RepE.ext hx _ _ hrep⟩)
  refine⟨_,undef,rfl,u1,u2,qcq rfl,.inr ⟨?_,rfl⟩⟩
  rcases ho with ho|ho<;>simp only[execOp,ho,hmx,(qat hkey).1,Sem.run_bind,hrun,Result.andThen_ok,Sem.run_pure]
 rcases set_sound hk hu hx 0 clock h2 h with ⟨h4,h5⟩|⟨j,y,old,h4,h5,h6,h7⟩
 ·refine fin (ents.push ⟨key,ρ x,clock⟩) (clock+1) ?_ (by simpa using h5)
  simp only[Instr.mapUpdate,Sem.run_bind,qak ht,Result.andThen_ok,getObj,Sem.run,h1,qcz hk,hfk _ h4,setObj]
 ·refine fin (ents.modify j fun e=>{ e with key,val := ρ x }) clock ?_ (by
   have:=h7 (fun e=>{ e with key,val := ρ x }) (fun e=>⟨rfl,rfl⟩)
   rw[Array.toList_modify]; exact this)
  have hold:ents[j]?=some old:=by simpa using h5
  simp only[Instr.mapUpdate,Sem.run_bind,qak ht,Result.andThen_ok,getObj,Sem.run,h1,qcz hk,hfk _ h4,setObj,Nat.zero_add,hold,Option.map_some,Option.getD_some,Instr.keyThatStays,qkc h6,if_true,Sem.run_pure]
end
end
end Go.Pm
