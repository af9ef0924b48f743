/- Rows of the program's own: written to, grown, cut, handed on. The given operations' runs, where the abstract ones go through. Each operation but the calls: where the abstract one goes through, the given one does, and they agree. -/
import Derived.Test.YtpakkndfjpimgaaGreatDoorPmB
set_option linter.unusedSimpArgs false
set_option linter.unusedVariables false
section SD2
namespace Go.Pm
theorem qjm {fid:Fid} {Γ : Ctx} (hr:Real fid Γ) {l b:Nat} {cs cs':List V} {w':World} {arr arr':Array Value} {e:TypeId} (ho : Γ.σ[l]?=some (.vec cs)) (hm : Γ.μ l=some b) (hl:cs.length<=cs'.length)
  (hw:WOnly b Γ.w w') (ha : Γ.w.heap[b]?=some (.cells arr e (0,0))) (ha':w'.heap[b]?=some (.cells arr' e (0,0))) (hs:arr'.size=arr.size)
  (hn:Ext Γ ⟨Γ.σ.set l (.vec cs'),Γ.μ,Γ.F,w'⟩->RepOb fid ⟨Γ.σ.set l (.vec cs'),Γ.μ,Γ.F,w'⟩ b (.vec cs')) :
  Real fid ⟨Γ.σ.set l (.vec cs'),Γ.μ,Γ.F,w'⟩/\Step Γ ⟨Γ.σ.set l (.vec cs'),Γ.μ,Γ.F,w'⟩:=by
 have hF : Γ.F b=0:=by have:=hr.obs l _ b ho hm; simp only[RepOb] at this; exact this.1
 have hlt:l < Γ.σ.length:=(List.getElem?_eq_some_iff.1 ho).1
 have hext:Ext Γ ⟨Γ.σ.set l (.vec cs'),Γ.μ,Γ.F,w'⟩:=by
  refine⟨Nat.le_of_eq hw.size.symm,hw.os,hw.tape,hw.output,fun _=>Nat.le_refl _,fun k i v hi hv=>?_,fun k arr e hk ha=>⟨arr,?_,rfl⟩,by simp,fun j o hj hjt=>⟨⟨o,?_,hjt⟩,fun _ h=>h⟩,fun j m hj=>⟨m,?_,Nat.le_refl _,fun h=>h,fun _ _ h=>h⟩,fun j o hj hjt=>?_⟩
  ·have:k≠b:=fun e=>by subst e; omega
   rw[cell?_of_block (hw.other k this)]; exact hv
  ·have:k≠b:=fun e=>by subst e; omega
   rw[hw.other k this]; exact ha
  ·have e:l≠j:=fun e=>by subst e; rw[ho] at hj; cases hj; cases hjt
   rw[List.getElem?_set_ne e]; exact hj
  ·grind
  ·by_cases e:l=j
   ·subst e
    rw[ho] at hj; cases hj
    refine⟨.vec cs',by simp[hlt],rfl,fun c hc=>?_⟩
    simp only[Ob.rows,Option.some.injEq] at hc; subst hc
    refine⟨cs,rfl,hl,fun _ k hk=>⟨hk,fun a t h=>?_⟩⟩
    rw[hm] at hk; cases hk
    rw[ha] at h; cases h
    exact⟨arr',ha',hs⟩
   ·refine⟨o,by rw[List.getElem?_set_ne e]; exact hj,hjt,fun c hc=>⟨c,hc,Nat.le_refl _,fun _ k hk=>⟨hk,fun a t h=>⟨a,?_,rfl⟩⟩⟩⟩
    have:k≠b:=fun e'=>by subst e'; exact e (hr.inj _ _ _ hm hk)
    rw[hw.other k this]; exact h
 refine⟨⟨fun j o k hj hk=>?_,fun j k hk=>?_,hr.inj,fun k hk=>?_,Glb.ext hext hr.glb⟩,hext,⟨fun k hk hno=>⟨hw.other k fun e=>by subst e; exact hno l hm,rfl⟩,fun j k hj _=>⟨j,hj⟩⟩,fun _ _ h=>h⟩
 ·by_cases e:l=j
  ·grind
  ·rw[List.getElem?_set_ne e] at hj
   have hb:k≠b:=fun e'=>by subst e'; exact e (hr.inj _ _ _ hm hk)
   exact RepOb.ext hext (hw.other k hb) rfl o (hr.obs j o k hj hk)
 ·have:=hr.dom j k hk
  exact⟨by simpa using this.1,by rw[hw.size]; exact this.2⟩
 ·obtain⟨arr,e,fz,h1,h2⟩:=hr.imm k hk
  have:k≠b:=fun e=>by subst e; simp only at hk; omega
  exact⟨arr,e,fz,by rw[hw.other k this]; exact h1,h2⟩
theorem qjQ {fid:Fid} {Γ : Ctx} (hr:Real fid Γ) {l:Nat} {cs cs':List V} (ho : Γ.σ[l]?=some (.vec cs)) (hsome:(Γ.μ l).isSome=true) (hl:cs.length<cs'.length) (arr:Array Value) (e:TypeId)
  (hn:Ext Γ ⟨Γ.σ.set l (.vec cs'),bind Γ.μ l Γ.w.heap.size,grow Γ.F Γ.w.heap.size 0,Γ.w.alloc (.cells arr e)⟩->RepOb fid ⟨Γ.σ.set l (.vec cs'),bind Γ.μ l Γ.w.heap.size,grow Γ.F Γ.w.heap.size 0,Γ.w.alloc (.cells arr e)⟩ Γ.w.heap.size (.vec cs')) :
  Real fid ⟨Γ.σ.set l (.vec cs'),bind Γ.μ l Γ.w.heap.size,grow Γ.F Γ.w.heap.size 0,Γ.w.alloc (.cells arr e)⟩ /\
  Step Γ ⟨Γ.σ.set l (.vec cs'),bind Γ.μ l Γ.w.heap.size,grow Γ.F Γ.w.heap.size 0,Γ.w.alloc (.cells arr e)⟩:=by
 have hlt:=(List.getElem?_eq_some_iff.1 ho).1
 have hext:Ext Γ ⟨Γ.σ.set l (.vec cs'),bind Γ.μ l Γ.w.heap.size,grow Γ.F Γ.w.heap.size 0,Γ.w.alloc (.cells arr e)⟩:=by
  have hal : ∀ b,b < Γ.w.heap.size->(Γ.w.alloc (.cells arr e)).heap[b]? = Γ.w.heap[b]?:=fun b hb=>qac _ _ hb
  refine⟨by simp,rfl,rfl,rfl,fun b=>?_,fun b i v hi hv=>?_,fun b a t hb ha=>⟨a,?_,rfl⟩,by simp,fun j o hj hjt=>?_,fun j m hj=>?_,fun j o hj hjt=>?_⟩
  ·simp only[grow]; split
   ·rename_i e; subst e; rw[hr.F_size]; exact Nat.le_refl _
   ·exact Nat.le_refl _
  ·rw[cell?_of_block (hal b (hr.F_lt (by omega)))]; exact hv
  ·rw[hal b (hr.F_lt hb)]; exact ha
  ·have e:l≠j:=fun e=>by subst e; rw[ho] at hj; cases hj; cases hjt
   exact⟨⟨o,by rw[List.getElem?_set_ne e]; exact hj,hjt⟩,fun b hb=>by simp only[bind]; rw[if_neg (Ne.symm e)]; exact hb⟩
  ·have e:l≠j:=fun e=>by subst e; rw[ho] at hj; cases hj
   exact⟨m,by rw[List.getElem?_set_ne e]; exact hj,Nat.le_refl _,fun hs=>by simp only[bind]; rw[if_neg (Ne.symm e)]; exact hs,fun _ b hb=>by simp only[bind]; rw[if_neg (Ne.symm e)]; exact hb⟩
  ·by_cases e:l=j
   ·subst e
    rw[ho] at hj; cases hj
    refine⟨.vec cs',by simp[hlt],rfl,fun c hc=>?_⟩
    simp only[Ob.rows,Option.some.injEq] at hc; subst hc
    exact⟨cs,rfl,Nat.le_of_lt hl,fun h=>by omega⟩
   ·grind [bind]
 refine⟨⟨fun j ob' b h1 h2=>?_,fun j b h=>?_,fun j j' b h h'=>?_,fun b hb=>?_,Glb.ext hext hr.glb⟩,hext,⟨fun b hb hn=>⟨qac _ _ hb,?_⟩,fun j b h hb=>?_⟩,fun j _ h=>by simp only[bind]; rw[if_neg (fun e=>by subst e; rw[h] at hsome; cases hsome)]; exact h⟩
 ·simp only[bind] at h2
  split at h2
  ·grind
  ·rename_i e'
   have hd:=hr.dom j b h2
   simp only at h1
   rw[List.getElem?_set_ne (Ne.symm e')] at h1
   exact RepOb.ext hext (qac _ _ hd.2) (by simp only[grow]; rw[if_neg (by omega)]) ob' (hr.obs j ob' b h1 h2)
 ·simp only[bind] at h
  split at h
  ·rename_i e'; subst e'; cases h; simp[hlt]
  ·have:=hr.dom j b h
   exact⟨by simpa using this.1,by simp; omega⟩
 ·simp only[bind] at h h'
  split at h<;>split at h'
  ·rename_i e e'; exact e.trans e'.symm
  ·cases h; have:=(hr.dom j' _ h').2; omega
  ·cases h'; have:=(hr.dom j _ h).2; omega
  ·exact hr.inj j j' b h h'
 ·simp only[grow] at hb ⊢
  split at hb
  ·omega
  ·rename_i e'
   obtain⟨a,t,fz,h1,h2⟩:=hr.imm b hb
   exact⟨a,t,fz,by rw[qac _ _ (qbv h1)]; exact h1,by simpa [e'] using h2⟩
 ·simp only[grow]; rw[if_neg (by omega)]
 ·grind [bind]
theorem qh6 {fid:Fid} {Γ : Ctx} (hr:Real fid Γ) {l b:Nat} {cs:List V} {ds:List D} (ho : Γ.σ[l]?=some (.vec cs)) (hm : Γ.μ l=some b) (hl:ds.length=cs.length)
  (hn:Ext Γ ⟨Γ.σ.set l (.froz ds),Γ.μ,grow Γ.F b ds.length,Γ.w⟩->RepOb fid ⟨Γ.σ.set l (.froz ds),Γ.μ,grow Γ.F b ds.length,Γ.w⟩ b (.froz ds)) :
  Real fid ⟨Γ.σ.set l (.froz ds),Γ.μ,grow Γ.F b ds.length,Γ.w⟩/\Step Γ ⟨Γ.σ.set l (.froz ds),Γ.μ,grow Γ.F b ds.length,Γ.w⟩:=by
 have hob:=hr.obs l _ b ho hm
 simp only[RepOb] at hob
 obtain⟨hF,arr,e,ha,hle,_,_⟩:=hob
 have hlt:l < Γ.σ.length:=(List.getElem?_eq_some_iff.1 ho).1
 have hext:Ext Γ ⟨Γ.σ.set l (.froz ds),Γ.μ,grow Γ.F b ds.length,Γ.w⟩:=by
  refine⟨Nat.le_refl _,rfl,rfl,rfl,fun k=>?_,fun k i v hi hv=>hv,fun k arr e hk ha=>⟨arr,ha,rfl⟩,by simp,fun j o hj hjt=>⟨⟨o,?_,hjt⟩,fun _ h=>h⟩,fun j m hj=>⟨m,?_,Nat.le_refl _,fun h=>h,fun _ _ h=>h⟩,fun j o hj hjt=>?_⟩
  ·grind [grow]
  ·have e:l≠j:=fun e=>by subst e; rw[ho] at hj; cases hj; cases hjt
   rw[List.getElem?_set_ne e]; exact hj
  ·grind
  ·by_cases e:l=j
   ·subst e
    rw[ho] at hj; cases hj
    refine⟨.froz ds,by simp[hlt],rfl,fun c hc=>?_⟩
    simp only[Ob.rows,Option.some.injEq] at hc; subst hc
    exact⟨cs,rfl,by simp[hl],fun _ k hk=>⟨hk,fun a t h=>⟨a,h,rfl⟩⟩⟩
   ·grind
 refine⟨⟨fun j o k hj hk=>?_,fun j k hk=>?_,hr.inj,fun k hk=>?_,Glb.ext hext hr.glb⟩,hext,⟨fun k hk hno=>⟨rfl,?_⟩,fun j k hj _=>⟨j,hj⟩⟩,fun _ _ h=>h⟩
 ·by_cases e:l=j
  ·grind
  ·rw[List.getElem?_set_ne e] at hj
   have hb:k≠b:=fun e'=>by subst e'; exact e (hr.inj _ _ _ hm hk)
   exact RepOb.ext hext rfl (by simp only[grow]; rw[if_neg hb]) o (hr.obs j o k hj hk)
 ·have:=hr.dom j k hk
  exact⟨by simpa using this.1,this.2⟩
 ·simp only[grow] at hk ⊢
  split at hk
  ·grind
  ·rename_i e'
   obtain⟨a,t,fz,h1,h2⟩:=hr.imm k hk
   exact⟨a,t,fz,h1,by simpa [e'] using h2⟩
 ·grind [grow]
def pass (μ : Nat->Option Nat) (l n:Nat):Nat->Option Nat:=fun j=>if j=n then μ l else if j=l then none else μ j
theorem qle {fid:Fid} {Γ : Ctx} (hr:Real fid Γ) {l b:Nat} {cs cs':List V} (ho : Γ.σ[l]?=some (.vec cs)) (hm : Γ.μ l=some b)
  (hn:Ext Γ ⟨Γ.σ.set l .dead++[.vec cs'],pass Γ.μ l Γ.σ.length,Γ.F,Γ.w⟩->RepOb fid ⟨Γ.σ.set l .dead++[.vec cs'],pass Γ.μ l Γ.σ.length,Γ.F,Γ.w⟩ b (.vec cs')) :
  Real fid ⟨Γ.σ.set l .dead++[.vec cs'],pass Γ.μ l Γ.σ.length,Γ.F,Γ.w⟩/\Step Γ ⟨Γ.σ.set l .dead++[.vec cs'],pass Γ.μ l Γ.σ.length,Γ.F,Γ.w⟩:=by
 have hlt:l < Γ.σ.length:=(List.getElem?_eq_some_iff.1 ho).1
 have hget : ∀ j,j < Γ.σ.length->l≠j->(Γ.σ.set l .dead++[Ob.vec cs'])[j]? = Γ.σ[j]?:=fun j hj e=>by grind
 have hself:(Γ.σ.set l .dead++[Ob.vec cs'])[l]?=some .dead:=by grind
 have hlast:(Γ.σ.set l .dead++[Ob.vec cs'])[Γ.σ.length]?=some (.vec cs'):=by
  rw[List.getElem?_append_right (by simp)]; simp
 have hμ : ∀ j,j < Γ.σ.length->l≠j->pass Γ.μ l Γ.σ.length j = Γ.μ j:=fun j hj e=>by grind [pass]
 have hext:Ext Γ ⟨Γ.σ.set l .dead++[.vec cs'],pass Γ.μ l Γ.σ.length,Γ.F,Γ.w⟩:=by
  refine⟨Nat.le_refl _,rfl,rfl,rfl,fun _=>Nat.le_refl _,fun k i v hi hv=>hv,fun k arr e hk ha=>⟨arr,ha,rfl⟩,by simp,fun j o hj hjt=>?_,fun j m hj=>?_,qcr fun j o hj hjt=>?_⟩
  ·have e:l≠j:=fun e=>by subst e; rw[ho] at hj; cases hj; cases hjt
   have hj':=(List.getElem?_eq_some_iff.1 hj).1
   exact⟨⟨o,by rw[hget j hj' e]; exact hj,hjt⟩,fun k hk=>(hμ j hj' e).trans hk⟩
  ·have e:l≠j:=fun e=>by subst e; rw[ho] at hj; cases hj
   have hj':=(List.getElem?_eq_some_iff.1 hj).1
   exact⟨m,by rw[hget j hj' e]; exact hj,Nat.le_refl _,fun h=>show (pass Γ.μ l Γ.σ.length j).isSome=true from by rw[hμ j hj' e]; exact h,fun _ k hk=>(hμ j hj' e).trans hk⟩
  ·have hj':=(List.getElem?_eq_some_iff.1 hj).1
   by_cases e:l=j
   ·subst e; exact .inr ⟨.dead,hself,rfl,rfl⟩
   ·grind
 have hback : ∀ j k,pass Γ.μ l Γ.σ.length j=some k->(j = Γ.σ.length/\k=b)\/(j≠l/\j < Γ.σ.length /\ Γ.μ j=some k):=fun j k hk=>by
  simp only[pass] at hk
  split at hk
  ·rename_i e; rw[hm] at hk; cases hk; exact .inl ⟨e,rfl⟩
  ·split at hk
   ·cases hk
   ·rename_i h1 h2; exact .inr ⟨h2,(hr.dom j k hk).1,hk⟩
 refine⟨⟨fun j o k hj hk=>?_,fun j k hk=>?_,fun j j' k hk hk'=>?_,hr.imm,Glb.ext hext hr.glb⟩,hext,⟨fun k hk hno=>⟨rfl,rfl⟩,fun j k hj _=>?_⟩,fun j hj hn=>?_⟩
 ·rcases hback j k hk with ⟨rfl,rfl⟩ | ⟨h1,h2,h3⟩
  ·rw[hlast] at hj; cases hj
   exact hn hext
  ·simp only at hj
   rw[hget j h2 (Ne.symm h1)] at hj
   exact RepOb.ext hext rfl rfl o (hr.obs j o k hj h3)
 ·rcases hback j k hk with ⟨rfl,rfl⟩ | ⟨h1,h2,h3⟩
  ·exact⟨by simp,(hr.dom l _ hm).2⟩
  ·exact⟨by simp; omega,(hr.dom j k h3).2⟩
 ·rcases hback j k hk with ⟨rfl,rfl⟩ | ⟨h1,h2,h3⟩<;>rcases hback j' k hk' with ⟨k1,k2⟩ | ⟨k1,k2,k3⟩
  ·exact k1.symm
  ·exact absurd (hr.inj _ _ _ k3 hm) k1
  ·subst k2; exact absurd (hr.inj _ _ _ h3 hm) h1
  ·exact hr.inj j j' k h3 k3
 ·grind
 ·grind
theorem qh7 {fid:Fid} {Γ : Ctx} (hr:Real fid Γ) {b n:Nat} (hF : Γ.F b<=n) (hno : ∀ l,Γ.μ l≠some b) {arr:Array Value} {e:TypeId} (ha : Γ.w.heap[b]?=some (.cells arr e (0,0))) (hle:n<=arr.size) :
  Real fid ⟨Γ.σ,Γ.μ,grow Γ.F b n,Γ.w⟩/\Ext Γ ⟨Γ.σ,Γ.μ,grow Γ.F b n,Γ.w⟩ /\
  ∀ Γ0,Step Γ0 Γ -> (b < Γ0.w.heap.size -> ∃ l,Γ0.μ l=some b)->Step Γ0 ⟨Γ.σ,Γ.μ,grow Γ.F b n,Γ.w⟩:=by
 have hext:Ext Γ ⟨Γ.σ,Γ.μ,grow Γ.F b n,Γ.w⟩:=by
  refine⟨Nat.le_refl _,rfl,rfl,rfl,fun k=>?_,fun k i v hi hv=>hv,fun k arr e hk ha=>⟨arr,ha,rfl⟩,Nat.le_refl _,fun j o hj hjt=>⟨⟨o,hj,hjt⟩,fun _ h=>h⟩,fun j m hj=>⟨m,hj,Nat.le_refl _,fun h=>h,fun _ _ h=>h⟩,
   qcr fun j o hj hjt => .inl ⟨hj,fun k hk=>⟨hk,fun _ _ h=>h⟩⟩⟩
  simp only[grow]; split
  ·rename_i e; subst e; omega
  ·exact Nat.le_refl _
 refine⟨⟨fun j o k hj hk=>?_,hr.dom,hr.inj,fun k hk=>?_,Glb.ext hext hr.glb⟩,hext,fun Γ0 hs hb0=>⟨hs.ext.trans hext,⟨fun k hk hn=>?_,hs.frm.new⟩,hs.non⟩⟩
 ·have hb:k≠b:=fun e'=>by subst e'; exact hno j hk
  exact RepOb.ext hext rfl (by simp only[grow]; rw[if_neg hb]) o (hr.obs j o k hj hk)
 ·simp only[grow] at hk ⊢
  split at hk
  ·grind
  ·rename_i e'
   obtain⟨a,t,fz,h1,h2⟩:=hr.imm k hk
   exact⟨a,t,fz,h1,by simpa [e'] using h2⟩
 ·have hb:k≠b:=fun e'=>by
   subst e'
   obtain⟨l,hl⟩:=hb0 hk
   exact hn l hl
  obtain⟨h1,h2⟩:=hs.frm.same k hk hn
  exact⟨h1,by simp only[grow]; rw[if_neg hb]; exact h2⟩
end Go.Pm
end SD2
section SE
namespace Go.Pm
variable {P:Program}
theorem qab {t:TypeId} {d:TypeDesc} (h:P.underlying t=some d) (w:World):(underlying t).run P w = .ok d w:=by
 simp[underlying,h]
theorem qaQ {t:TypeId} {i:TypeInfo} (h:P.info? t=some i) (w:World):(typeInfo t).run P w = .ok i w:=by
 simp[typeInfo,h]
theorem qan {t:TypeId} {n:Nat} (h:qak P t=some n) (w:World):(sizeOf t).run P w = .ok n w:=by
 unfold qak at h
 cases hi:P.info? t with
 | none=>rw[hi] at h; cases h
 | some i=>rw[hi] at h; cases h; simp[sizeOf,qaQ hi]
theorem qaA {t:TypeId} {z:Value} (h:qbu P t=some z) (w:World):(zeroValue t).run P w = .ok z w:=by
 unfold qbu at h
 cases hi:P.info? t with
 | none=>rw[hi] at h; cases h
 | some i=>
  rw[hi] at h
  simp only[Option.bind_some] at h
  cases hz:i.zero with
  | none=>rw[hz] at h; cases h
  | some z'=>
   rw[hz] at h
   simp only at h
   split at h
   ·cases h; simp[zeroValue,qaQ hi,hz]
   ·cases h
theorem qaV {t:TypeId} {z:Value} (h:qbu P t=some z):qcg z=true:=by
 unfold qbu at h
 split at h
 ·split at h
  ·rename_i hz; cases h; exact hz
  ·cases h
 ·cases h
theorem qbs {t:TypeId} {b:Bool} (h:qam P t=some b) (w:World):(isAgg t).run P w = .ok b w:=by
 unfold qam at h
 cases hu:P.underlying t with
 | none=>rw[hu] at h; cases h
 | some d=>
  rw[hu] at h
  simp only[isAgg,Sem.run_bind,qab hu,Result.andThen_ok]
  cases d<;>simp_all
theorem qaI (b o i:Nat):(⟨b,o,none⟩:Addr).add i=⟨b,o+i,none⟩:=by
 unfold Addr.add
 split
 ·rename_i h; subst h; rfl
 ·rfl
theorem qfv {a:Addr} {v:Value} {w:World} (h:w.cell? a=some v):(load a).run P w = .ok v w:=by
 simp[h]
theorem qb2 (w:World) (b o:Nat) : ∀ (vs:List Value) (i:Nat) (acc:Array Value),
  (∀ j v,vs[j]?=some v->w.cell? ⟨b,o+(i+j),none⟩=some v) ->
  (loadCellsFrom ⟨b,o,none⟩ i vs.length acc).run P w = .ok (acc++vs.toArray) w
 | [],i,acc,_=>by simp[loadCellsFrom]
 | v::vs,i,acc,h=>by
  have h0:=h 0 v (by simp)
  have ih:=qb2 w b o vs (i+1) (acc.push v) (fun j u hj=>by
   have:=h (j+1) u (by simpa using hj)
   rw[show i+1+j=i+(j+1) from by omega]; exact this)
  simp only[List.length_cons,loadCellsFrom,Sem.run_bind,qaI]
  rw[qfv (by simpa using h0)]
  simp only[Result.andThen_ok,ih]
  congr 1
  apply Array.ext'
  simp
theorem qau {w:World} {b o:Nat} {vs:List Value} (h : ∀ j v,vs[j]?=some v->w.cell? ⟨b,o+j,none⟩=some v) :
  (loadCells ⟨b,o,none⟩ vs.length).run P w = .ok vs.toArray w:=by
 have:=qb2 (P:=P) w b o vs 0 #[] (by simpa using h)
 simpa [loadCells] using this
theorem qcw {t:TypeId} {w:World} {b o:Nat} {vs:List Value} (ha:qam P t=some true) (hs:qak P t=some vs.length)
  (h : ∀ j v,vs[j]?=some v->w.cell? ⟨b,o+j,none⟩=some v):(loadVar t ⟨b,o,none⟩).run P w = .ok (.agg vs.toArray) w:=by
 simp[loadVar,qbs ha,qan hs,qau h]
theorem qcx {t:TypeId} {w:World} {a:Addr} {v:Value} (ha:qam P t=some false) (h:w.cell? a=some v) :
  (loadVar t a).run P w = .ok v w:=by
 simp only[loadVar,Sem.run_bind,qbs ha,Result.andThen_ok]
 simp[h]
theorem qa9 : ∀ (vs:List Value) (i:Nat) (w:World) (b o:Nat) (arr:Array Value) (e:TypeId),
  w.heap[b]?=some (.cells arr e (0,0))->(∀ v∈vs,v.oneCell'=true)->o+i+vs.length<=arr.size ->
  ∃ w',(storeCells ⟨b,o,none⟩ vs i).run P w = .ok () w'/\WOnly b w w' /\
   ∃ arr',w'.heap[b]?=some (.cells arr' e (0,0))/\arr'.toList=arr.toList.take (o+i)++(vs++arr.toList.drop (o+i+vs.length))
 | [],i,w,b,o,arr,e,hb,_,_=>⟨w,by simp[storeCells],.refl _ _,arr,hb,by simp⟩
 | v::vs,i,w,b,o,arr,e,hb,h1,hlen=>by
  simp only[List.length_cons] at hlen
  have hcell : ∃ u,w.cell? ⟨b,o+i,none⟩=some u:=by
   refine⟨arr[o+i]'(by omega),?_⟩
   simp only[World.cell?,hb]
   simp
  obtain⟨u,hu⟩:=hcell
  have hfz:w.frozen? ⟨b,o+i,none⟩=false:=by simp[World.frozen?,hb]
  have hb':(w.setCell ⟨b,o+i,none⟩ v).heap[b]?=some (.cells (arr.setIfInBounds (o+i) v) e (0,0)):=by
   simp only[World.setCell,Array.getElem?_modify,hb]
   simp
  have hw:WOnly b w (w.setCell ⟨b,o+i,none⟩ v):=⟨rfl,rfl,rfl,by simp,fun k hk=>by simp only[World.setCell,Array.getElem?_modify]; rw[if_neg (Ne.symm hk)]⟩
  obtain⟨w',hr,hw',arr',ha',hl⟩:=qa9 vs (i+1) (w.setCell ⟨b,o+i,none⟩ v) b o (arr.setIfInBounds (o+i) v) e hb'
   (fun x hx=>h1 x (List.mem_cons_of_mem _ hx)) (by simp; omega)
  refine⟨w',?_,hw.trans hw',arr',ha',?_⟩
  ·simp only[storeCells,Sem.run_bind,qaI]
   rw[run_store P w _ v .plain (h1 v (by simp)),hu]
   simp[hfz,hr]
  ·rw[hl,Array.toList_setIfInBounds]
   have hlt:o+i<arr.toList.length:=by rw[Array.length_toList]; omega
   rw[show o+(i+1)=o+i+1 from by omega]
   rw[List.take_succ_eq_append_getElem (by simpa using hlt),List.getElem_set_self,List.take_set_of_le (Nat.le_refl _),List.drop_set_of_lt (by omega)]
   simp
   try omega
theorem qcy {t:TypeId} {x:Value} {n:Nat} {w:World} {b o:Nat} {arr:Array Value} {e:TypeId} (hs:qak P t=some n) (hx:x.cells.size=n)
  (hb:w.heap[b]?=some (.cells arr e (0,0))) (h1 : ∀ v∈x.cells.toList,v.oneCell'=true) (hlen:o+n<=arr.size) :
  ∃ w',(storeVar t ⟨b,o,none⟩ x).run P w = .ok () w'/\WOnly b w w' /\
   ∃ arr',w'.heap[b]?=some (.cells arr' e (0,0))/\arr'.toList=arr.toList.take o++(x.cells.toList++arr.toList.drop (o+n)):=by
 obtain⟨w',h1,h2,arr',h3,h4⟩:=qa9 (P:=P) x.cells.toList 0 w b o arr e hb h1 (by simp[hx]; omega)
 refine⟨w',?_,h2,arr',h3,by simpa [hx] using h4⟩
 simp only[storeVar,Sem.run_bind,qan hs,Result.andThen_ok]
 simp[hx,h1]
theorem RepDs_append {F:Nat->Nat} {w:World} : ∀ {a b:List D} {xs:List Value},RepDs F w (a++b) xs ↔ ∃ ys zs,xs=ys++zs/\RepDs F w a ys/\RepDs F w b zs
 | [],b,xs=>by
  simp only[List.nil_append,RepDs]
  exact⟨fun h=>⟨[],xs,rfl,rfl,h⟩,fun ⟨ys,zs,h1,h2,h3⟩=>by subst h2; simpa [h1] using h3⟩
 | d::a,b,xs=>by
  simp only[List.cons_append,RepDs,RepDs_append (a:=a) (b:=b)]
  constructor
  ·rintro ⟨x,ys,rfl,h1,y,z,rfl,h2,h3⟩
   exact⟨x::y,z,rfl,⟨x,y,rfl,h1,h2⟩,h3⟩
  ·rintro ⟨ys,zs,rfl,⟨x,y,rfl,h1,h2⟩,h3⟩
   exact⟨x,y++zs,rfl,h1,y,zs,rfl,h2,h3⟩
theorem Reps_append {fid:Fid} {Γ : Ctx} : ∀ {a b:List V} {xs:List Value},Reps fid Γ (a++b) xs ↔ ∃ ys zs,xs=ys++zs/\Reps fid Γ a ys/\Reps fid Γ b zs
 | [],b,xs=>by
  simp only[List.nil_append,Reps]
  exact⟨fun h=>⟨[],xs,rfl,rfl,h⟩,fun ⟨ys,zs,h1,h2,h3⟩=>by subst h2; simpa [h1] using h3⟩
 | d::a,b,xs=>by
  simp only[List.cons_append,Reps,Reps_append (a:=a) (b:=b)]
  constructor
  ·rintro ⟨x,ys,rfl,h1,y,z,rfl,h2,h3⟩
   exact⟨x::y,z,rfl,⟨x,y,rfl,h1,h2⟩,h3⟩
  ·rintro ⟨ys,zs,rfl,⟨x,y,rfl,h1,h2⟩,h3⟩
   exact⟨x,y++zs,rfl,h1,y,zs,rfl,h2,h3⟩
theorem qdz {F:Nat->Nat} {w:World} {ds:List D} {xs:List Value} (h:RepDs F w ds xs) (n:Nat):RepDs F w (ds.drop n) (xs.drop n):=by
 by_cases hn:n<=ds.length
 ·obtain⟨a,b,rfl,rfl⟩ : ∃ a b,ds=a++b/\a.length=n:=⟨ds.take n,ds.drop n,(List.take_append_drop n ds).symm,by simp; omega⟩
  obtain⟨ys,zs,rfl,h1,h2⟩:=RepDs_append.1 h
  have:=h1.length
  rw[List.drop_left' rfl,List.drop_left' (by omega)]
  exact h2
 ·rw[List.drop_of_length_le (by omega),List.drop_of_length_le (by have:=h.length; omega)]
  simp[RepDs]
theorem qdA {F:Nat->Nat} {w:World} {ds:List D} {xs:List Value} (h:RepDs F w ds xs) (n:Nat):RepDs F w (ds.take n) (xs.take n):=by
 by_cases hn:n<=ds.length
 ·obtain⟨a,b,rfl,rfl⟩ : ∃ a b,ds=a++b/\a.length=n:=⟨ds.take n,ds.drop n,(List.take_append_drop n ds).symm,by simp; omega⟩
  obtain⟨ys,zs,rfl,h1,h2⟩:=RepDs_append.1 h
  have:=h1.length
  rw[List.take_left' rfl,List.take_left' (by omega)]
  exact h1
 ·rw[List.take_of_length_le (by omega),List.take_of_length_le (by have:=h.length; omega)]
  exact h
theorem qbM {fid:Fid} {Γ : Ctx} {ds:List V} {xs:List Value} (h:Reps fid Γ ds xs) (n:Nat):Reps fid Γ (ds.drop n) (xs.drop n):=by
 by_cases hn:n<=ds.length
 ·obtain⟨a,b,rfl,rfl⟩ : ∃ a b,ds=a++b/\a.length=n:=⟨ds.take n,ds.drop n,(List.take_append_drop n ds).symm,by simp; omega⟩
  obtain⟨ys,zs,rfl,h1,h2⟩:=Reps_append.1 h
  have:=h1.length
  rw[List.drop_left' rfl,List.drop_left' (by omega)]
  exact h2
 ·rw[List.drop_of_length_le (by omega),List.drop_of_length_le (by have:=h.length; omega)]
  simp[Reps]
theorem qbt {fid:Fid} {Γ : Ctx} {ds:List V} {xs:List Value} (h:Reps fid Γ ds xs) (n:Nat):Reps fid Γ (ds.take n) (xs.take n):=by
 by_cases hn:n<=ds.length
 ·obtain⟨a,b,rfl,rfl⟩ : ∃ a b,ds=a++b/\a.length=n:=⟨ds.take n,ds.drop n,(List.take_append_drop n ds).symm,by simp; omega⟩
  obtain⟨ys,zs,rfl,h1,h2⟩:=Reps_append.1 h
  have:=h1.length
  rw[List.take_left' rfl,List.take_left' (by omega)]
  exact h1
 ·rw[List.take_of_length_le (by omega),List.take_of_length_le (by have:=h.length; omega)]
  exact h
theorem Reps_dat {fid:Fid} {Γ : Ctx} : ∀ {ds:List D} {xs:List Value},Reps fid Γ (ds.map .dat) xs↔RepDs Γ.F Γ.w ds xs
 | [],xs=>by simp[Reps,RepDs]
 | d::ds,xs=>by simp[Reps,RepDs,Rep,Reps_dat]
theorem qbN : ∀ {vs:List V} {ds:List D},qaN vs=some ds->vs=ds.map .dat
 | [],ds,h=>by simp[qaN] at h; subst h; rfl
 | v::vs,ds,h=>by
  cases v with
  | dat d=>
   simp only[qaN] at h
   split at h
   ·rename_i ds' h'
    cases h
    rw[qbN h']; rfl
   ·cases h
  | _=>simp[qaN] at h
theorem qb3 {fid:Fid} {Γ : Ctx} {vs:List V} {xs:List Value} (h:Reps fid Γ vs xs):Rep fid Γ (qdd vs) (.agg xs.toArray):=by
 unfold qdd
 split
 ·rename_i ds hd
  have:=qbN hd
  subst this
  simp only[Rep,RepD]
  exact⟨xs,rfl,Reps_dat.1 h⟩
 ·simp only[Rep]
  exact⟨xs,rfl,h⟩
theorem qgv {x:Value} (h:qaJ x=true):x.cells = #[x]:=by
 cases x<;>simp_all [qaJ,Value.cells]
theorem qb4 {fid:Fid} {Γ : Ctx} {v:V} {x:Value} (h:Rep fid Γ v x):Reps fid Γ v.cells x.cells.toList:=by
 have single : ∀ u,qaJ x=true->v=u->v.cells=[u]->Reps fid Γ v.cells x.cells.toList:=fun u hx hv hc=>by
  rw[hc,qgv hx,<- hv]
  simp[Reps,h]
 cases v with
 | dat d=>
  cases d with
  | lit v=>simp only[Rep,RepD] at h; exact single _ (by rw[h.1]; exact h.2) rfl rfl
  | sl cs n f=>simp only[Rep,RepD] at h; obtain⟨b,o,cap,vs,rfl,_⟩:=h; exact single _ rfl rfl rfl
  | imm cs o=>simp only[Rep,RepD] at h; obtain⟨b,o,vs,rfl,_⟩:=h; exact single _ rfl rfl rfl
  | agg cs=>
   simp only[Rep,RepD] at h
   obtain⟨vs,rfl,h⟩:=h
   simpa [V.cells,Value.cells] using Reps_dat.2 h
  | iface t d=>simp only[Rep,RepD] at h
 | ptr l o=>simp only[Rep] at h; obtain⟨b,_,rfl,_⟩:=h; exact single _ rfl rfl rfl
 | gsl cs n sz l=>simp only[Rep] at h; obtain⟨b,cap,vs,m,rfl,_⟩:=h; exact single _ rfl rfl rfl
 | msl l o n cap sz=>simp only[Rep] at h; obtain⟨b,_,rfl,_⟩:=h; exact single _ rfl rfl rfl
 | own l n sz=>simp only[Rep] at h; obtain⟨a,cap,rfl,_⟩:=h; exact single _ rfl rfl rfl
 | eptr l n o=>simp only[Rep] at h; obtain⟨a,rfl,_⟩:=h; exact single _ rfl rfl rfl
 | bm g v=>simp only[Rep] at h; obtain⟨t,nm,y,rfl,_⟩:=h; exact single _ rfl rfl rfl
 | agg cs=>
  simp only[Rep] at h
  obtain⟨vs,rfl,h⟩:=h
  simpa [V.cells,Value.cells] using h
 | fn f a b=>simp only[Rep] at h; obtain⟨as,bs,rfl,_⟩:=h; exact single _ rfl rfl rfl
 | mp l=>simp only[Rep] at h; obtain⟨b,_,rfl,_⟩:=h; exact single _ rfl rfl rfl
 | iface t v=>simp only[Rep] at h; obtain⟨y,rfl,_⟩:=h; exact single _ rfl rfl rfl
 | tup vs=>simp only[Rep] at h; obtain⟨xs,rfl,_⟩:=h; exact single _ rfl rfl rfl
 | yld l=>simp only[Rep] at h; obtain⟨b,_,rfl,_⟩:=h; exact single _ rfl rfl rfl
 | pan v=>simp only[Rep] at h
theorem qj4 {fid:Fid} {Γ : Ctx} {v:V} {x:Value} (h:Rep fid Γ v x) (h1:v.one=true):x.oneCell'=true:=by
 cases v with
 | dat d=>
  cases d with
  | lit v=>simp only[Rep,RepD] at h; rw[h.1]; exact h1
  | sl cs n f=>simp only[Rep,RepD] at h; obtain⟨b,o,cap,vs,rfl,_⟩:=h; rfl
  | imm cs o=>simp only[Rep,RepD] at h; obtain⟨b,o,vs,rfl,_⟩:=h; rfl
  | agg cs=>simp[V.one] at h1
  | iface t d=>simp only[Rep,RepD] at h
 | ptr l o=>simp only[Rep] at h; obtain⟨b,_,rfl,_⟩:=h; rfl
 | gsl cs n sz l=>simp only[Rep] at h; obtain⟨b,cap,vs,m,rfl,_⟩:=h; rfl
 | msl l o n cap sz=>simp only[Rep] at h; obtain⟨b,_,rfl,_⟩:=h; rfl
 | own l n sz=>simp only[Rep] at h; obtain⟨a,cap,rfl,_⟩:=h; rfl
 | eptr l n o=>simp only[Rep] at h; obtain⟨a,rfl,_⟩:=h; rfl
 | bm g v=>simp only[Rep] at h; obtain⟨t,nm,y,rfl,_⟩:=h; rfl
 | agg cs=>simp[V.one] at h1
 | fn f a b=>simp only[Rep] at h; obtain⟨as,bs,rfl,_⟩:=h; rfl
 | mp l=>simp only[Rep] at h; obtain⟨b,_,rfl,_⟩:=h; rfl
 | iface t v=>simp only[Rep] at h; obtain⟨y,rfl,_⟩:=h; rfl
 | tup vs=>simp[V.one] at h1
 | yld l=>simp only[Rep] at h; obtain⟨b,_,rfl,_⟩:=h; rfl
 | pan v=>simp only[Rep] at h
theorem qbB {fid:Fid} {Γ : Ctx} : ∀ {vs:List V} {xs:List Value},Reps fid Γ vs xs->vs.all V.one=true -> ∀ x∈xs,x.oneCell'=true
 | [],xs,h,_,x,hx=>by simp only[Reps] at h; subst h; cases hx
 | v::vs,xs,h,ha,x,hx=>by
  simp only[Reps] at h
  obtain⟨y,ys,rfl,h1,h2⟩:=h
  simp only[List.all_cons,Bool.and_eq_true] at ha
  rcases List.mem_cons.1 hx with rfl | hx
  ·exact qj4 h1 ha.1
  ·exact qbB h2 ha.2 x hx
theorem qbQ {fid:Fid} {Γ : Ctx} {agg:Bool} {vs:List V} {xs:List Value} {v:V} (h:Reps fid Γ vs xs) (ho:qbh agg vs=some v) :
  (agg=true/\Rep fid Γ v (.agg xs.toArray))\/(agg=false /\ ∃ x,xs=[x]/\Rep fid Γ v x):=by
 unfold qbh at ho
 split at ho
 ·rename_i ha
  cases ho
  exact .inl ⟨by simpa using ha,qb3 h⟩
 ·rename_i ha
  split at ho
  ·cases ho
   simp only[Reps] at h
   obtain⟨x,ys,rfl,h1,rfl⟩:=h
   exact .inr ⟨by simpa using ha,x,rfl,h1⟩
  ·cases ho
theorem qc2 {α : Type} {cs r:List α} {o n:Nat} (h:qae cs o n=some r):r=(cs.drop o).take n/\r.length=n/\(0<n->o+n<=cs.length):=by
 unfold qae at h
 simp only at h
 split at h
 ·rename_i hl
  cases h
  refine⟨rfl,hl,fun hn=>?_⟩
  simp at hl
  omega
 ·cases h
theorem qcz {F:Nat->Nat} {w:World} : ∀ {xs:List Value},(∀ x∈xs,qaJ x=true)->RepDs F w (xs.map .lit) xs
 | [],_=>by simp[RepDs]
 | x::xs,h=>by
  simp only[List.map_cons,RepDs,RepD]
  exact⟨x,xs,rfl,⟨rfl,h x (by simp)⟩,qcz fun y hy=>h y (List.mem_cons_of_mem _ hy)⟩
theorem qav {F:Nat->Nat} {w:World} {z:Value} (h:qcg z=true):RepDs F w (qag z) z.cells.toList:=by
 unfold qag
 refine qcz fun x hx=>?_
 simp only[qcg,List.all_eq_true,Bool.and_eq_true] at h
 exact (h x hx).1
theorem qg3 {F:Nat->Nat} {w:World} {z:Value} (h:qcg z=true):RepD F w (toD z) z:=by
 cases z with
 | agg cs=>
  simp only[toD,RepD]
  refine⟨cs.toList,by simp,qcz fun x hx=>?_⟩
  simp only[qcg,Value.cells,List.all_eq_true,Bool.and_eq_true] at h
  exact (h x hx).1
 | _=>simp[toD,RepD,qaJ]
end Go.Pm
end SE
section SG
namespace Go.Pm
variable {P:Program} {ids:Ids} {fid:Fid} {N:Nat}
structure Ties (P:Program) (ids:Ids) (fid:Fid):Prop where
 fn : ∀ f g,ids.fn f=some g->fid g=f
 ty : ∀ t u,ids.ty t=some u->fid.ty u=t
 mt : ∀ g t nm,fid.mt g t nm ↔ ∃ f,methT P t nm=some f/\ids.fn f=some g
 gl : ∀ g cs,ids.gl g=some cs->fid.gl g=some cs
theorem qaa (hid:Ties P ids fid) {Γ : Ctx} (hreal:Real fid Γ) {fr:Fr} {a:Act} (hf:FrRep fid Γ N fr a.tmps) {x:Operand} {y:X} {v:V}
  (hc:cX ids N x=some y) (hv:y.ev fr=some v):Rep fid Γ v (a.eval x):=by
 cases x with
 | tmp t=>
  simp only[cX] at hc
  split at hc
  ·rename_i ht
   cases hc
   exact hf.2 t v ht hv
  ·cases hc
 | const c=>
  simp only[cX] at hc
  split at hc
  ·rename_i hn
   cases hc
   simp only[X.ev,Option.some.injEq] at hv
   subst hv
   simp[Rep,RepD,Act.eval,hn]
  ·cases hc
 | global g=>
  simp only[cX,Option.map_eq_some_iff] at hc
  obtain⟨cs,hcs,rfl⟩:=hc
  simp only[X.ev,Option.some.injEq] at hv
  subst hv
  obtain⟨vs,h1,h2⟩:=hreal.glb g cs (hid.gl g cs hcs)
  simp only[Rep,RepD,Act.eval]
  exact⟨g,0,vs,rfl,h1,h2⟩
 | func f=>
  simp only[cX,Option.map_eq_some_iff] at hc
  obtain⟨g,hg,rfl⟩:=hc
  simp only[X.ev,Option.some.injEq] at hv
  subst hv
  simp only[Rep,Act.eval,hid.fn f g hg]
  exact⟨[],[],rfl,rfl,rfl⟩
theorem qaC (hid:Ties P ids fid) {Γ : Ctx} (hreal:Real fid Γ) {fr:Fr} {a:Act} (hf:FrRep fid Γ N fr a.tmps) : ∀ {xs:List Operand} {ys:List X} {vs:List V},
  cXs ids N xs=some ys->evs fr ys=some vs->Reps fid Γ vs (xs.map a.eval)
 | [],ys,vs,hc,hv=>by
  simp only[cXs,Option.some.injEq] at hc; subst hc
  simp only[evs,Option.some.injEq] at hv; subst hv
  simp[Reps]
 | x::xs,ys,vs,hc,hv=>by
  simp only[cXs] at hc
  split at hc
  ·rename_i y ys' h1 h2
   cases hc
   simp only[evs] at hv
   split at hv
   ·rename_i v vs' h3 h4
    cases hv
    simp only[List.map_cons,Reps]
    exact⟨_,_,rfl,qaa hid hreal hf h1 h3,qaC hid hreal hf h2 h4⟩
   ·cases hv
  ·cases hc
theorem qgJ {F:Fence} {n:Nat} {o:Oper} {a:Act} {w w':World} {K:Act->World->Prop} {Q:Exit->Act->World->Prop} {x:Value} (hF : ∀ f,F.fn f)
  (hd : ∀ c,o.op ≠ .defer c) (h:(execOp a.eval o).run P w = .ok (.value x) w') (hk:K (a.put o.dst x) w'):o.wpIn F n P a w K Q:=
 ⟨fun f _=>hF f,by rw[Oper.semAt_eq _ _ _ hd,h]; exact hk⟩
theorem qg9 {F:Fence} {n:Nat} {o:Oper} {a:Act} {w w':World} {K:Act->World->Prop} {Q:Exit->Act->World->Prop} (hF : ∀ f,F.fn f)
  (hd : ∀ c,o.op ≠ .defer c) (h:(execOp a.eval o).run P w = .ok .skip w') (hk:K (a.put o.dst undef) w'):o.wpIn F n P a w K Q:=
 ⟨fun f _=>hF f,by rw[Oper.semAt_eq _ _ _ hd,h]; exact hk⟩
def Comes (P:Program) (fid:Fid) (Γ : Ctx) (ρ : Operand->Value) (o:Oper) (v:V) (σ':S):Prop:=
 ∃ (Γ':Ctx) (x:Value),Γ'.σ = σ'/\Real fid Γ'/\Step Γ Γ'/\Rep fid Γ' v x /\
  ((execOp ρ o).run P Γ.w = .ok (.value x) Γ'.w\/((execOp ρ o).run P Γ.w = .ok .skip Γ'.w/\x=undef))
theorem Comes.wp {F:Fence} {n:Nat} {o:Oper} {a:Act} {K:Act->World->Prop} {Q:Exit->Act->World->Prop} {Γ : Ctx} {v:V} {σ':S} (hF : ∀ f,F.fn f)
  (hd : ∀ c,o.op ≠ .defer c) (h:Comes P fid Γ a.eval o v σ')
  (hk : ∀ Γ' x,Γ'.σ = σ'->Real fid Γ'->Step Γ Γ'->Rep fid Γ' v x->K (a.put o.dst x) Γ'.w):o.wpIn F n P a Γ.w K Q:=by
 obtain⟨Γ',x,h1,h2,h3,h4,h5⟩:=h
 rcases h5 with h5 | ⟨h5,rfl⟩
 ·exact qgJ hF hd h5 (hk Γ' x h1 h2 h3 h4)
 ·exact qg9 hF hd h5 (hk Γ' _ h1 h2 h3 h4)
theorem Comes.pure {Γ : Ctx} (hr:Real fid Γ) {ρ : Operand->Value} {o:Oper} {v:V} {x:Value} (h:(execOp ρ o).run P Γ.w = .ok (.value x) Γ.w) (hx:Rep fid Γ v x) :
  Comes P fid Γ ρ o v Γ.σ := ⟨Γ,x,rfl,hr,.refl _,hx,.inl h⟩
section
variable {Γ : Ctx} {fr:Fr} {ρ : Operand->Value} {o:Oper} {v:V} {σ':S} {C:Task->Option Res}
theorem qlK (hr:Real fid Γ) {t:TypeId} {x:Operand} {u:V} (ho:o.op = .box t x) (hu:Rep fid Γ u (ρ x)):Comes P fid Γ ρ o (.ptr Γ.σ.length 0) (Γ.σ ++ [.cells u.cells]):=by
 obtain⟨h1,h2⟩:=qbi hr (.cells u.cells) (.cells (ρ x).cells t) 0
  (fun Γ' e hx=>by
   subst e
   simp only[RepOb,grow,if_pos]
   exact⟨trivial,(ρ x).cells,t,qad _ _,Reps.ext hx _ _ (qb4 hu)⟩) (fun h=>absurd h (Nat.lt_irrefl _))
 refine⟨_,.pointer (some ⟨Γ.w.heap.size,0,none⟩),rfl,h1,h2,?_,.inl ?_⟩
 ·simp only[Rep]
  refine⟨Γ.w.heap.size,by simp[bind],rfl,⟨.cells u.cells,by simp,rfl⟩⟩
 ·simp only[execOp,ho,Instr.box,newVar,newRow]
  simp
theorem qjy (hr:Real fid Γ) {t:TypeId} {z:Value} (ho:o.op = .alloc t) (hz:qbu P t=some z):Comes P fid Γ ρ o (.ptr Γ.σ.length 0) (Γ.σ ++ [.cells ((qag z).map .dat)]):=by
 obtain⟨h1,h2⟩:=qbi hr (.cells ((qag z).map .dat)) (.cells z.cells t) 0
  (fun Γ' e hx=>by
   subst e
   simp only[RepOb,grow,if_pos]
   exact⟨trivial,z.cells,t,qad _ _,Reps_dat.2 (qav (qaV hz))⟩) (fun h=>absurd h (Nat.lt_irrefl _))
 refine⟨_,.pointer (some ⟨Γ.w.heap.size,0,none⟩),rfl,h1,h2,?_,.inl ?_⟩
 ·simp only[Rep]
  refine⟨Γ.w.heap.size,by simp[bind],rfl,⟨.cells ((qag z).map .dat),by simp,rfl⟩⟩
 ·simp only[execOp,ho,Instr.alloc,newVar,newRow]
  simp[qaA hz]
theorem qjz (hr:Real fid Γ) {t:TypeId} (ho:o.op = .makeMap t none):Comes P fid Γ ρ o (.mp Γ.σ.length) (Γ.σ ++ [.map []]):=by
 obtain⟨h1,h2⟩:=qbi hr (.map []) (.map #[] 0) 0
  (fun Γ' e hx=>by
   subst e
   simp only[RepOb,grow,if_pos]
   exact⟨trivial,#[],0,qad _ _,rfl⟩) (fun h=>absurd h (Nat.lt_irrefl _))
 refine⟨_,.map (some Γ.w.heap.size),rfl,h1,h2,?_,.inl ?_⟩
 ·simp only[Rep]
  refine⟨Γ.w.heap.size,by simp[bind],rfl,⟨.map [],by simp,rfl⟩⟩
 ·simp only[execOp,ho,Instr.makeMap,Option.map_none]
  simp
theorem qco {t:TypeId} {agg:Bool} {n off b:Nat} {cs vs:List V} {xs:List Value} {u:V} {arr:Array Value} {e:TypeId} (hs:(agg=true/\qam P t=some true/\qak P t=some n)\/(agg=false/\qam P t=some false/\n=1))
  (h2 : Γ.w.heap[b]?=some (.cells arr e (0,0))) (h3:Reps fid Γ cs xs) (hpre : ∀ (j:Nat) x,xs[j]?=some x->arr[j]?=some x) (hc:qae cs off n=some vs) (hu:qbh agg vs=some u) :
  ∃ x,(loadVar t ⟨b,off,none⟩).run P Γ.w = .ok x Γ.w/\Rep fid Γ u x:=by
 obtain⟨c1,c2,c3⟩:=qc2 hc
 have h4:Reps fid Γ vs ((xs.drop off).take n):=by rw[c1]; exact qbt (qbM h3 off) n
 have hlen:=Reps.length h3
 have hcell : ∀ j x,((xs.drop off).take n)[j]?=some x -> Γ.w.cell? ⟨b,off+j,none⟩=some x:=fun j x hj=>by
  simp only[World.cell?,h2]
  rw[List.getElem?_take] at hj
  split at hj
  ·rw[List.getElem?_drop] at hj
   simpa using hpre _ _ hj
  ·cases hj
 have hl:((xs.drop off).take n).length=n:=by rw[Reps.length h4,c2]
 rcases hs with ⟨rfl,ha,hsz⟩ | ⟨rfl,ha,rfl⟩
 ·rcases qbQ h4 hu with ⟨_,h5⟩ | ⟨h5,_⟩
  ·exact⟨_,qcw ha (by rw[hl]; exact hsz) hcell,h5⟩
  ·cases h5
 ·rcases qbQ h4 hu with ⟨h5,_⟩ | ⟨_,x,hx,h5⟩
  ·cases h5
  ·exact⟨x,qcx ha (by have:=hcell 0 x (by rw[hx]; rfl); simpa using this),h5⟩
theorem qfH (hr:Real fid Γ) {t:TypeId} {agg:Bool} {n l off b:Nat} {cs vs:List V} {u:V} (hs:(agg=true/\qam P t=some true/\qak P t=some n)\/(agg=false/\qam P t=some false/\n=1))
  (ho : Γ.σ[l]?=some (.cells cs)) (hm : Γ.μ l=some b) (hc:qae cs off n=some vs) (hu:qbh agg vs=some u) :
  ∃ x,(loadVar t ⟨b,off,none⟩).run P Γ.w = .ok x Γ.w/\Rep fid Γ u x:=by
 obtain⟨_,arr,e,h2,h3⟩:=hr.obs l _ b ho hm
 exact qco hs h2 h3 (fun j x h=>by simpa using h) hc hu
theorem qdX {arr:Array Value} {k j:Nat} {x:Value} (h:(arr.toList.take k)[j]?=some x):arr[j]?=some x:=by
 rw[List.getElem?_take] at h
 split at h
 ·simpa using h
 ·cases h
theorem qdY (hr:Real fid Γ) {l b:Nat} {ds:List D} (ho : Γ.σ[l]?=some (.froz ds)) (hm : Γ.μ l=some b) : ∃ vs,RepDs Γ.F Γ.w ds vs/\Row Γ.F Γ.w b 0 vs:=by
 have:=hr.obs l _ b ho hm
 simp only[RepOb] at this
 obtain⟨h1,arr,e,h2,h3,h4,h5⟩:=this
 refine⟨_,h4,fun j x hj=>?_,fun _=>by have:=h4.length; omega,h5⟩
 simp only[World.cell?,h2,Nat.zero_add]
 simpa using qdX hj
theorem qdL {t:TypeId} {agg:Bool} {n off b o':Nat} {cs ds:List D} {xs:List Value} {u:V} (hs:(agg=true/\qam P t=some true/\qak P t=some n)\/(agg=false/\qam P t=some false/\n=1))
  (h3:RepDs Γ.F Γ.w cs xs) (h4:Row Γ.F Γ.w b o' xs) (hc:qae cs off n=some ds) (hu:qkl agg ds=some u) :
  ∃ x,(loadVar t ⟨b,o'+off,none⟩).run P Γ.w = .ok x Γ.w/\Rep fid Γ u x:=by
 obtain⟨c1,c2,c3⟩:=qc2 hc
 have h5:RepDs Γ.F Γ.w ds ((xs.drop off).take n):=by rw[c1]; exact qdA (qdz h3 off) n
 have hcell : ∀ j x,((xs.drop off).take n)[j]?=some x -> Γ.w.cell? ⟨b,o'+off+j,none⟩=some x:=fun j x hj=>by
  rw[List.getElem?_take] at hj
  split at hj
  ·rw[List.getElem?_drop] at hj
   rw[Nat.add_assoc]
   exact h4.1 _ _ hj
  ·cases hj
 have hl:((xs.drop off).take n).length=n:=by rw[RepDs.length h5,c2]
 rcases hs with ⟨rfl,ha,hsz⟩ | ⟨rfl,ha,rfl⟩
 ·simp[qkl] at hu; subst hu
  refine⟨_,qcw ha (by rw[hl]; exact hsz) hcell,?_⟩
  simp only[Rep,RepD]
  exact⟨_,rfl,h5⟩
 ·simp only[qkl,Bool.false_eq_true,if_false] at hu
  split at hu
  ·cases hu
   simp only[RepDs] at h5
   obtain⟨x,ys,h6,h7,rfl⟩:=h5
   exact⟨x,qcx ha (by have:=hcell 0 x (by rw[h6]; rfl); simpa using this),by simpa [Rep] using h7⟩
  ·cases hu
theorem qfI (hr:Real fid Γ) {t:TypeId} {agg:Bool} {n:Nat} {p u:V} {x:Value} (hs:(agg=true/\qam P t=some true/\qak P t=some n)\/(agg=false/\qam P t=some false/\n=1))
  (hp:Rep fid Γ p x) (hl:qbp Γ.σ agg n p=some u) : ∃ ad y,x = .pointer (some ad)/\(loadVar t ad).run P Γ.w = .ok y Γ.w/\Rep fid Γ u y:=by
 unfold qbp at hl
 split at hl
 ·rename_i l off
  simp only[Rep] at hp
  obtain⟨b,hm,rfl,_⟩:=hp
  split at hl
  ·rename_i cs hcs
   split at hl
   ·rename_i vs hvs
    obtain⟨y,h1,h2⟩:=qfH hr hs hcs hm hvs hl
    exact⟨_,y,rfl,h1,h2⟩
   ·cases hl
  ·rename_i t' cs hcs
   split at hl
   ·rename_i vs hvs
    obtain⟨_,arr,h2,h3⟩:=hr.obs l _ b hcs hm
    obtain⟨y,h1,h2⟩:=qco hs h2 h3 (fun j x h=>by simpa using h) hvs hl
    exact⟨_,y,rfl,h1,h2⟩
   ·cases hl
  ·cases hl
 ·rename_i cs off
  simp only[Rep,RepD] at hp
  obtain⟨b,o',xs,rfl,h3,h4⟩:=hp
  split at hl
  ·rename_i ds hds
   obtain⟨y,h1,h2⟩:=qdL hs h3 h4 hds hl
   exact⟨_,y,rfl,h1,h2⟩
  ·cases hl
 ·rename_i l m off
  simp only[Rep] at hp
  obtain⟨a,rfl,_,hp⟩:=hp
  split at hl
  ·rename_i cs hcs
   split at hl
   ·rename_i hlen
    obtain⟨b,arr,e,hm,rfl,ha,_⟩:=(hp _ cs hcs rfl).2 hlen
    split at hl
    ·rename_i vs hvs
     have hob:=hr.obs l _ b hcs hm
     simp only[RepOb] at hob
     obtain⟨_,arr',e',h2,h3,h4,_⟩:=hob
     obtain⟨y,h1,h2⟩:=qco hs h2 h4 (fun j x h=>qdX h) hvs hl
     exact⟨_,y,rfl,h1,h2⟩
    ·cases hl
   ·cases hl
  ·rename_i ds hds
   split at hl
   ·rename_i hlen
    obtain⟨b,arr,e,hm,rfl,ha,_⟩:=(hp _ _ hds rfl).2 (by simpa using hlen)
    split at hl
    ·rename_i vs hvs
     obtain⟨xs,h3,h4⟩:=qdY hr hds hm
     obtain⟨y,h1,h2⟩:=qdL hs h3 h4 hvs hl
     exact⟨_,y,rfl,by simpa using h1,h2⟩
    ·cases hl
   ·cases hl
  ·cases hl
 ·cases hl
theorem qjd (hr:Real fid Γ) {t:TypeId} {agg:Bool} {n:Nat} {x:Operand} {p u:V} (ho:o.op = .load t x) (hs:(agg=true/\qam P t=some true/\qak P t=some n)\/(agg=false/\qam P t=some false/\n=1))
  (hp:Rep fid Γ p (ρ x)) (hl:qbp Γ.σ agg n p=some u):Comes P fid Γ ρ o u Γ.σ:=by
 obtain⟨ad,y,h1,h2,h3⟩:=qfI hr hs hp hl
 refine .pure hr (x:=y) ?_ h3
 simp only[execOp,ho,Instr.loadAt,h1,Instr.sureAddr]
 simp[h2]
theorem qjA (hr:Real fid Γ) {t:TypeId} {n:Nat} {x y:Operand} {p u:V} (ho:o.op = .store t x y) (hs:qak P t=some n)
  (hp:Rep fid Γ p (ρ x)) (hu:Rep fid Γ u (ρ y)) (hl:storeV Γ.σ n p u=some σ'):Comes P fid Γ ρ o (.dat (.lit undef)) σ':=by
 unfold storeV at hl
 split at hl
 ·rename_i l off
  simp only[Rep] at hp
  obtain⟨b,hm,hx,_⟩:=hp
  split at hl
  ·rename_i cs hcs
   simp only at hl
   split at hl
   ·rename_i hcond
    obtain⟨c1,c2,c3⟩:=hcond
    cases hl
    obtain⟨hF,arr,e,h2,h3⟩:=hr.obs l _ b hcs hm
    have hcells:=qb4 hu
    have hlen:=Reps.length h3
    have hlen':=Reps.length hcells
    obtain⟨w',k1,k2,arr',k3,k4⟩:=qcy (P:=P) (o:=off) hs (by simpa [c1] using hlen') h2 (qbB hcells c3) (by rw[Array.length_toList] at hlen; omega)
    obtain⟨u1,u2⟩:=upd hr hcs rfl (ob' := .cells (cs.take off++(u.cells++cs.drop (off+n)))) rfl hm k2 (fun hx=>by
     simp only[RepOb]
     refine⟨hF,arr',e,k3,?_⟩
     rw[k4]
     refine Reps_append.2 ⟨_,_,rfl,Reps.ext hx _ _ (qbt h3 off),Reps_append.2 ⟨_,_,rfl,Reps.ext hx _ _ hcells,Reps.ext hx _ _ (qbM h3 _)⟩⟩)
    refine⟨_,undef,rfl,u1,u2,by simp[Rep,RepD,qaJ,undef],.inr ⟨?_,rfl⟩⟩
    simp only[execOp,ho,Instr.storeAt,hx,Instr.sureAddr]
    simp[k1]
   ·cases hl
  ·rename_i t' cs hcs
   simp only at hl
   split at hl
   ·rename_i hcond
    obtain⟨c1,c2,c3⟩:=hcond
    cases hl
    obtain⟨hF,arr,h2,h3⟩:=hr.obs l _ b hcs hm
    have hcells:=qb4 hu
    have hlen:=Reps.length h3
    have hlen':=Reps.length hcells
    obtain⟨w',k1,k2,arr',k3,k4⟩:=qcy (P:=P) (o:=off) hs (by simpa [c1] using hlen') h2 (qbB hcells c3) (by rw[Array.length_toList] at hlen; omega)
    obtain⟨u1,u2⟩:=upd hr hcs rfl (ob' := .cellsT t' (cs.take off++(u.cells++cs.drop (off+n)))) rfl hm k2 (fun hx=>by
     simp only[RepOb]
     refine⟨hF,arr',k3,?_⟩
     rw[k4]
     refine Reps_append.2 ⟨_,_,rfl,Reps.ext hx _ _ (qbt h3 off),Reps_append.2 ⟨_,_,rfl,Reps.ext hx _ _ hcells,Reps.ext hx _ _ (qbM h3 _)⟩⟩)
    refine⟨_,undef,rfl,u1,u2,by simp[Rep,RepD,qaJ,undef],.inr ⟨?_,rfl⟩⟩
    simp only[execOp,ho,Instr.storeAt,hx,Instr.sureAddr]
    simp[k1]
   ·cases hl
  ·cases hl
 ·rename_i l m off
  simp only[Rep] at hp
  obtain⟨a,hx,_,hp⟩:=hp
  split at hl
  ·rename_i cs hcs
   simp only at hl
   split at hl
   ·rename_i hcond
    obtain⟨c0,c1,c2,c3⟩:=hcond
    cases hl
    obtain⟨b,arr,e,hm,rfl,h2,_⟩:=(hp _ cs hcs rfl).2 c0
    have hob:=hr.obs l _ b hcs hm
    simp only[RepOb] at hob
    obtain⟨hF,arr0,e0,h2',hle,h3,h3'⟩:=hob
    rw[h2] at h2'; cases h2'
    have hcells:=qb4 hu
    have hlen:=Reps.length h3
    have hlen':=Reps.length hcells
    obtain⟨w',k1,k2,arr',k3,k4⟩:=qcy (P:=P) (o:=off) hs (by simpa [c1] using hlen') h2 (qbB hcells c3) (by omega)
    have hsz:arr'.size=arr.size:=by
     have:=congrArg List.length k4
     simp at this
     simp at hlen'
     omega
    have hnl:(cs.take off++(u.cells++cs.drop (off+n))).length=cs.length:=by simp[c1]; omega
    have htake:arr'.toList.take cs.length=(arr.toList.take cs.length).take off++((ρ y).cells.toList++(arr.toList.take cs.length).drop (off+n)):=by
     rw[k4,List.take_append,List.take_append]
     simp only[List.length_take,Array.length_toList]
     have e1:min off arr.size=off:=by omega
     have e2:(ρ y).cells.size=n:=by rw[<- Array.length_toList,hlen',c1]
     rw[e1,e2]
     congr 1
     ·rw[List.take_take,List.take_take,Nat.min_comm]
     ·congr 1
      ·rw[List.take_of_length_le (by simp; omega)]
      ·rw[List.take_drop,show off+n+(cs.length-off-n)=cs.length from by omega]
    obtain⟨u1,u2⟩:=qjm hr hcs hm (cs':=cs.take off++(u.cells++cs.drop (off+n))) (by rw[hnl]; exact Nat.le_refl _) k2 h2 k3 hsz (fun hx=>by
     simp only[RepOb]
     refine⟨hF,arr',e,k3,by rw[hnl,hsz]; exact hle,?_,?_⟩
     ·rw[hnl,htake]
      refine Reps_append.2 ⟨_,_,rfl,Reps.ext hx _ _ (qbt h3 off),Reps_append.2 ⟨_,_,rfl,Reps.ext hx _ _ hcells,Reps.ext hx _ _ (qbM h3 _)⟩⟩
     ·rw[hnl,htake]
      intro v hv
      rcases List.mem_append.1 hv with hv | hv
      ·exact h3' v (List.mem_of_mem_take hv)
      ·rcases List.mem_append.1 hv with hv | hv
       ·exact qbB hcells c3 v hv
       ·exact h3' v (List.mem_of_mem_drop hv))
    refine⟨_,undef,rfl,u1,u2,by simp[Rep,RepD,qaJ,undef],.inr ⟨?_,rfl⟩⟩
    simp only[execOp,ho,Instr.storeAt,hx,Instr.sureAddr]
    simp[k1]
   ·cases hl
  ·cases hl
 ·cases hl
end
end Go.Pm
end SG
