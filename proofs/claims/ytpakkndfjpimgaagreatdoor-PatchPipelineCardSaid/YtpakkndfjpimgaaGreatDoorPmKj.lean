/- Chapter 13's parser: words and symbols that it asks for. -/
import Derived.Test.YtpakkndfjpimgaaGreatDoorPmAL
import Derived.Test.YtpakkndfjpimgaaGreatDoorPmUf
import Derived.Test.YtpakkndfjpimgaaGreatDoorPmF4
set_option linter.unusedSimpArgs false
set_option linter.unusedVariables false
set_option maxHeartbeats 4000000
namespace Go.Pm
section
open F
attribute [local simp] qbj qb4 dkey
def Out{α : Type}(s:ByteArray)(T:List Tk)(res:Option Res)(x:Rz α)(f : α -> V):Prop:=match x with
 |.ok e r => ∃ i',T.drop i'=r/\r≠[]/\res=some (.ret (f e) (PS s T i' 0 12))
 |.er a c => ∃ i':Nat,res=some (.ret (qbq c) (PS s T i' a c))
def WfQ(T:List Tk):Prop := ∀ i t,T.drop i=[t]->t.bad≠0\/t.s=⟨#[]⟩
theorem qrf(s:ByteArray) : ∀ n i,WfQ (qcl 12 2 6 s n i)
 |0,i,k,t,h=>by
  simp only[qcl] at h
  rcases k with _|k
  ·simp only[WT,WU,and_true] at h
   rw[<- h]; exact .inr rfl
  ·simp at h
 |n+1,i,k,t,h=>by
  rw[qcl] at h
  try simp only at h
  generalize tokAt 12 2 6 s (qil s (s.size-i) false i)=u at h
  split at h
  ·rename_i hu
   rcases k with _|k
   ·simp only[WT,WU,and_true] at h
    rw[<- h]
    rcases hu with hu|hu
    ·exact .inl hu
    ·exact .inr (by
      have hb:byl u.s=[]:=WL (by rw[qaU]; exact hu)
      have:=qdg u.s
      rw[hb] at this
      exact this.symm)
   ·simp at h
  ·rcases k with _|k
   ·simp only[WT,WU] at h
    have hne:qcl 12 2 6 s n (u.at_+u.s.size)≠[]:=by
     cases n<;>simp only[qcl]
     ·simp
     ·split<;>simp
    exact absurd h.2 hne
   ·rw[Yu] at h
    exact qrf s n _ k t h
section
variable{s:ByteArray}{T:List Tk}{i:Nat}{a c:Int}{t:Tk}{r:List Tk}
theorem WfQ.next(hw:WfQ T)(h:T.drop i=t::r)(hb:t.bad=0)(hs:t.s≠⟨#[]⟩):T.drop (i+1)=r/\r≠[]:=by
 refine⟨by rw[<- List.drop_drop,h]; rfl,?_⟩
 rintro rfl
 rcases hw i t h with h1|h1
 ·exact h1 hb
 ·exact hs h1
theorem qeu(hb:t.bad=0):(kindT t=0)=(t.s=⟨#[]⟩):=by
 have:=qgK t
 apply propext
 constructor
 ·intro h
  rcases this.1 (.inl h) with h1|h1
  ·exact absurd hb h1
  ·have hbl:byl t.s=[]:=WL (by rw[qaU]; exact h1)
   have:=qdg t.s
   rw[hbl] at this
   exact this.symm
 ·intro h
  unfold kindT
  rw[if_neg (by simp[hb]),if_pos h]
theorem qaP(h:T.drop i=t::r)(hb:t.bad=0){d:D}{l:List ByteArray}(hd:RowS d l)(hl:l.length<2 ^ 40)(hn:(⟨#[]⟩:ByteArray)∉l):Z tP (.call 269 [.ptr 0 0,.dat d] (PS s T i a c))=some (.ret (.bool (decide (t.s∈l))) (PS s T i a c)):=by
 have zp:=qax (s:=s) (a:=a) (c:=c) h hb
 have zc:=qoS hd hl t.s
 have ho:=hd.one
 have hcl:=hd.cells
 have ht:=qan hb
 have hk:=qeu hb
 simp only[PS,pO,ptk,ptD,ht] at zp
 refine qab (pf:=F269) rfl rfl ?_
 by_cases h0:t.s=⟨#[]⟩
 ·have hk0:decide (kindT t=0)=true:=decide_eq_true (hk.mpr h0)
  have hm:t.s∉l:=by rw[h0]; exact hn
  simp[F269,zp,zc,ho,hcl,hk0,hm,Wa]
 ·have hk0:decide (kindT t=0)=false:=decide_eq_false (fun e=>h0 (hk.mp e))
  simp[F269,zp,zc,ho,hcl,hk0,Wa]
theorem qf9(h:T.drop i=t::r)(hb:t.bad≠0){d:D}{l:List ByteArray}(hd:RowS d l):Z tP (.call 269 [.ptr 0 0,.dat d] (PS s T i a c))=some (.ret (qbq t.bad) (PS s T i t.at_ t.bad)):=by
 have zp:=qe0 (s:=s) (a:=a) (c:=c) h hb
 have ho:=hd.one
 have hcl:=hd.cells
 simp only[PS,pO] at zp
 refine qab (pf:=F269) rfl rfl ?_
 simp[F269,zp,ho,hcl,qak,Wa]
theorem qaO(h:T.drop i=t::r)(hb:t.bad=0)(hl:T.length<2 ^ 40):Z tP (.call 277 [.ptr 0 0] (PS s T i a c))=some (.ret (ptk t) (PS s T ((i+1:Nat):Int) a c)):=by
 have zp:=qax (s:=s) (a:=a) (c:=c) h hb
 have hlt:=qjp h
 have w1:=qai ((i:Int)+1) (by omega)
 simp only[PS,pO,ptk,ptD] at zp
 refine qab (pf:=F277) rfl rfl ?_
 simp[F277,zp,w1,Wa]
theorem qha(h:T.drop i=t::r)(hb:t.bad=0)(hl:T.length<2 ^ 40)(hx:t.s≠⟨#[]⟩):Z tP (.call 253 [.ptr 0 0,.str t.s] (PS s T i a c))=some (.ret (.tup []) (PS s T ((i+1:Nat):Int) a c)):=by
 have zi:=qaP (s:=s) (a:=a) (c:=c) h hb (qal [t.s] true) (by simp) (by simp; exact fun e=>hx e.symm)
 have hlt:=qjp h
 have w1:=qai ((i:Int)+1) (by omega)
 simp only[PS,pO,qaV,Wl,Wq,Wh,Wg,decide_true] at zi
 refine qab (pf:=F253) rfl rfl ?_
 simp[F253,zi,w1,Wa]
theorem qpi(h:T.drop i=t::r)(hb:t.bad=0){x:ByteArray}(hx:x≠⟨#[]⟩)(hne:t.s≠x):Z tP (.call 253 [.ptr 0 0,.str x] (PS s T i a c))=some (.ret (qbq 12) (PS s T i t.at_ 12)):=by
 have zi:=qaP (s:=s) (a:=a) (c:=c) h hb (qal [x] true) (by simp) (by simp; exact fun e=>hx e.symm)
 have zp:=qax (s:=s) (a:=a) (c:=c) h hb
 have zf:=qgS (s:=s) (T:=T) (i:=i) (a:=a) (c:=c) (k:=kindT t) (x:=qfM t) (at_:=t.at_) (v:=valT t) (e:=t.bad) (c':=12)
 simp only[PS,pO,qaV,Wl,Wq,Wh,Wg,hne,decide_false] at zi
 simp only[PS,pO,ptk,ptD] at zp zf
 refine qab (pf:=F253) rfl rfl ?_
 simp[F253,zi,zp,zf,qak,Wa]
theorem qmY(h:T.drop i=t::r)(hb:t.bad≠0){x:ByteArray}:Z tP (.call 253 [.ptr 0 0,.str x] (PS s T i a c))=some (.ret (qbq t.bad) (PS s T i t.at_ t.bad)):=by
 have zi:=qf9 (s:=s) (a:=a) (c:=c) h hb (qal [x] true)
 simp only[PS,pO,qaV,Wl,Wq,Wh] at zi
 refine qab (pf:=F253) rfl rfl ?_
 simp[F253,zi,qak,Wa]
end
end
section
open F
attribute [local simp] qbj qb4 dkey
section
variable{s:ByteArray}{T:List Tk}{i:Nat}{t:Tk}{r:List Tk}
theorem qcB(hw:WfQ T)(hl:T.length<2 ^ 40)(h:T.drop i=t::r){x:ByteArray}(hx:x≠⟨#[]⟩):Out s T (Z tP (.call 253 [.ptr 0 0,.str x] (PS s T i 0 12))) (qaS 12 x (t::r)) (fun _ => .tup []):=by
 simp only[qaS]
 by_cases hb:t.bad=0
 ·by_cases he:t.s=x
  ·rw[if_pos ⟨hb,he⟩]
   subst he
   obtain⟨n1,n2⟩:=hw.next h hb hx
   exact⟨i+1,n1,n2,qha h hb hl hx⟩
  ·rw[if_neg (fun e=>he e.2)]
   simp only[qct,if_pos hb]
   exact⟨i,qpi h hb hx he⟩
 ·rw[if_neg (fun e=>hb e.1)]
  simp only[qct,if_neg hb]
  exact⟨i,qmY h hb⟩
theorem qhY(hw:WfQ T)(hl:T.length<2 ^ 40)(h:T.drop i=t::r){x:ByteArray}(hx:x≠⟨#[]⟩){lv:Nat}:Out s T (Z tP (.call 270 [.ptr 0 0,.str x,.int lv] (PS s T i 0 12))) (qeh 12 2 x lv (t::r)) (fun _ => .tup []):=by
 have he:=qcB (s:=s) hw hl h hx
 simp only[qeh]
 by_cases hb:t.bad=0
 ·have zi:=qaP (s:=s) (a:=0) (c:=12) h hb (qal [x] true) (by simp) (by simp; exact fun e=>hx e.symm)
  simp only[PS,pO,qaV,Wl,Wq,Wh,Wg] at zi
  have hnx:nx (t::r)=some t.s:=if_pos hb
  by_cases hxx:t.s=x
  ·by_cases h20:20<lv
   ·rw[if_pos ⟨by rw[hnx,hxx],h20⟩]
    simp only[qct,if_pos hb]
    have zp:=qax (s:=s) (a:=0) (c:=12) h hb
    have zf:=qgS (s:=s) (T:=T) (i:=i) (a:=0) (c:=12) (k:=kindT t) (x:=qfM t) (at_:=t.at_) (v:=valT t) (e:=t.bad) (c':=2)
    simp only[PS,pO,ptk,ptD] at zp zf
    have h20':(20:Int)<lv:=by omega
    simp only[hxx,decide_true] at zi
    refine⟨i,?_⟩
    refine qab (pf:=F270) rfl rfl ?_
    simp[F270,zi,zp,zf,h20',qak,Wa]
   ·rw[if_neg (fun e=>h20 e.2)]
    have h20' : ¬ (20:Int)<lv:=by omega
    simp only[hxx,decide_true] at zi
    cases hr:qaS 12 x (t::r) with
    |ok u q=>
     rw[hr] at he
     obtain⟨i',a1,a2,z⟩:=he
     refine⟨i',a1,a2,?_⟩
     simp only[PS,pO] at z
     refine qab (pf:=F270) rfl rfl ?_
     simp[F270,zi,z,h20',Wa]
    |er a c=>
     rw[hr] at he
     obtain⟨i',z⟩:=he
     refine⟨i',?_⟩
     simp only[PS,pO] at z
     refine qab (pf:=F270) rfl rfl ?_
     simp[F270,zi,z,h20',qak,Wa]
  ·rw[if_neg (fun e=>hxx (WD (hnx.symm.trans e.1)))]
   simp only[hxx,decide_false] at zi
   cases hr:qaS 12 x (t::r) with
   |ok u q=>
    rw[hr] at he
    obtain⟨i',a1,a2,z⟩:=he
    refine⟨i',a1,a2,?_⟩
    simp only[PS,pO] at z
    refine qab (pf:=F270) rfl rfl ?_
    simp[F270,zi,z,Wa]
   |er a c=>
    rw[hr] at he
    obtain⟨i',z⟩:=he
    refine⟨i',?_⟩
    simp only[PS,pO] at z
    refine qab (pf:=F270) rfl rfl ?_
    simp[F270,zi,z,qak,Wa]
 ·have hnx:nx (t::r)=none:=if_neg hb
  rw[if_neg (fun e=>(by rw[hnx] at e; cases e.1))]
  have zi:=qf9 (s:=s) (a:=0) (c:=12) h hb (qal [x] true)
  simp only[PS,pO,qaV,Wl,Wq,Wh] at zi
  simp only[qaS]
  rw[if_neg (fun e=>hb e.1)]
  simp only[qct,if_neg hb]
  refine⟨i,?_⟩
  refine qab (pf:=F270) rfl rfl ?_
  simp[F270,zi,qak,Wa]
end
end
section
open F
attribute [local simp] qbj qb4 dkey
def fnP:Nat->Nat
 |1=>279|2=>287|3=>290|4=>292|5=>297|6=>304|7=>308|_=>309
def clF:Nat->Nat
 |1=>286|2=>289|5=>303|_=>307
def qgN:Nat->List ByteArray
 |1=>[⟨#[124,124]⟩] | 2=>[⟨#[38,38]⟩] | 5=>[⟨#[43]⟩,⟨#[45]⟩] | _=>[⟨#[42]⟩,⟨#[47]⟩]
def qkH(p:Nat):Prop:=p=1\/p=2\/p=5\/p=6
abbrev CS(s:ByteArray)(T:List Tk)(lv:Int)(i a c:Int):S:=[.cells [.ptr 2 0],.cells [.int lv],pO s 3 (.gsl (ptC T) T.length 5 4) i a c,.map kwM,.tip (ptC T).length]
abbrev BS(s:ByteArray)(T:List Tk)(lv:Int)(i a c:Int):S:=[pO s 3 (.gsl (ptC T) T.length 5 4) i a c,.cells [.ptr 0 0],.cells [.int lv],.map kwM,.tip (ptC T).length]
abbrev ndO(e:E):Ob := .cells [.int e.kind,.int e.num,.str e.str,.dat e.kids]
abbrev nd0:Ob := .cells [.int 0,.int 0,.str ⟨#[]⟩,.dat (.lit (.slice none 0 0))]
abbrev BL(s:ByteArray)(T:List Tk)(lv:Int)(i a c:Int)(e:E):S:=[pO s 3 (.gsl (ptC T) T.length 5 4) i a c,.cells [.ptr 0 0],.cells [.int lv],.map kwM,.tip (ptC T).length,nd0,ndO e]
abbrev bqF(g:Nat)(d:D):Fr:=[(0,.ptr 0 0),(1,.fn g [] [.ptr 1 0,.ptr 2 0]),(2,.dat d),(6,.ptr 5 0),(7,.ptr 6 0)]
section
variable{s:ByteArray}{T:List Tk}{i i':Nat}{lv:Int}{t:Tk}{r:List Tk}{p:Nat}
theorem qqC(hp:qkH p){e:E}(z:Z tP (.call (fnP (p+1)) [.ptr 0 0,.int lv] (PS s T i 0 12))=some (.ret e.node (PS s T i' 0 12))):Z tP (.call (clF p) [.ptr 0 0,.ptr 1 0] (CS s T lv i 0 12))=some (.ret e.node (CS s T lv i' 0 12)):=by
 simp only[PS,pO] at z
 rcases hp with rfl|rfl|rfl|rfl
 ·refine qab (pf:=F286) rfl rfl ?_
  simp only[fnP] at z
  simp[F286,z,Wa]
 ·refine qab (pf:=F289) rfl rfl ?_
  simp only[fnP] at z
  simp[F289,z,Wa]
 ·refine qab (pf:=F303) rfl rfl ?_
  simp only[fnP] at z
  simp[F303,z,Wa]
 ·refine qab (pf:=F307) rfl rfl ?_
  simp only[fnP] at z
  simp[F307,z,Wa]
theorem qnL(hp:qkH p){a c:Int}(z:Z tP (.call (fnP (p+1)) [.ptr 0 0,.int lv] (PS s T i 0 12))=some (.ret (qbq c) (PS s T i' a c))):Z tP (.call (clF p) [.ptr 0 0,.ptr 1 0] (CS s T lv i 0 12))=some (.ret (qbq c) (CS s T lv i' a c)):=by
 simp only[PS,pO] at z
 rcases hp with rfl|rfl|rfl|rfl
 ·refine qab (pf:=F286) rfl rfl ?_
  simp only[fnP] at z
  simp[F286,z,qak,Wa]
 ·refine qab (pf:=F289) rfl rfl ?_
  simp only[fnP] at z
  simp[F289,z,qak,Wa]
 ·refine qab (pf:=F303) rfl rfl ?_
  simp only[fnP] at z
  simp[F303,z,qak,Wa]
 ·refine qab (pf:=F307) rfl rfl ?_
  simp only[fnP] at z
  simp[F307,z,qak,Wa]
theorem qsL{g:Nat}{d:D}{l:List ByteArray}(hd:RowS d l)(hl:l.length<2 ^ 40)(hn:(⟨#[]⟩:ByteArray)∉l)(h:T.drop i=t::r)(hb:t.bad=0)(hm:t.s∉l)(e:E):Z tP (.loop 5 F285l0 (bqF g d) (BL s T lv i 0 12 e))=some (.out (.exit 0) (bqF g d++[(13,.bool false)]) (BL s T lv i 0 12 e)):=by
 have zi:=qaP (s:=s) (a:=0) (c:=12) h hb hd hl hn
 have ho:=hd.one
 have hcl:=hd.cells
 simp only[PS,pO,hm,decide_false] at zi
 rw[qaa]
 simp[qac,qfu,zi,ho,hcl,Wa]
theorem qsM{g:Nat}{d:D}{l:List ByteArray}(hd:RowS d l)(h:T.drop i=t::r)(hb:t.bad≠0)(e:E):Z tP (.loop 5 F285l0 (bqF g d) (BL s T lv i 0 12 e))=some (.out (.pan (.iface 1 (.int t.bad))) ((12,.dat d)::(11,.ptr 0 0)::bqF g d) (BL s T lv i t.at_ t.bad e)):=by
 have zi:=qf9 (s:=s) (a:=0) (c:=12) h hb hd
 have ho:=hd.one
 have hcl:=hd.cells
 simp only[PS,pO] at zi
 rw[qaa]
 simp[qac,qfu,zi,ho,hcl,qak,Wa]
theorem qqD {g:Nat} {d:D} {l:List ByteArray} (hd:RowS d l) (hl:l.length<2 ^ 40) (hT:T.length<2 ^ 40) (hn:(⟨#[]⟩:ByteArray)∉l) (h:T.drop i=t::r) (hb:t.bad=0) (hm:t.s∈l) {o:Bop} (ho':t.s=o.str) (e e':E)
  (z:Z tP (.call g [.ptr 0 0,.ptr 1 0] (CS s T lv ((i+1:Nat):Int) 0 12))=some (.ret e'.node (CS s T lv i' 0 12))):Z tP (.loop 5 F285l0 (bqF g d) (BL s T lv i 0 12 e))=Z tP (.loop 5 F285l0 (bqF g d) (BL s T lv i' 0 12 (.bin true o e e'))):=by
 have zi:=qaP (s:=s) (a:=0) (c:=12) h hb hd hl hn
 have zt:=qaO (s:=s) (a:=0) (c:=12) h hb hT
 have ho:=hd.one
 have hcl:=hd.cells
 have htx:=qan hb
 simp only[PS,pO,hm,decide_true] at zi
 simp only[PS,pO,ptk,ptD,htx,ho'] at zt
 simp only[CS,pO] at z
 simp only[Wt,Wn] at z zt
 conv=>lhs; rw[qaa]
 simp[qac,qfu,zi,zt,z,ho,hcl,qbN,qaF,qbB,qb2,qbh,still,V.same,Wa]
 rfl
theorem qsN {g:Nat} {d:D} {l:List ByteArray} (hd:RowS d l) (hl:l.length<2 ^ 40) (hT:T.length<2 ^ 40) (hn:(⟨#[]⟩:ByteArray)∉l) (h:T.drop i=t::r) (hb:t.bad=0) (hm:t.s∈l) (e:E) {a c:Int}
  (z:Z tP (.call g [.ptr 0 0,.ptr 1 0] (CS s T lv ((i+1:Nat):Int) 0 12))=some (.ret (qbq c) (CS s T lv i' a c))):Z tP (.loop 5 F285l0 (bqF g d) (BL s T lv i 0 12 e))=some (.out (.pan (.iface 1 (.int c))) [] (BL s T lv i' a c e)):=by
 have zi:=qaP (s:=s) (a:=0) (c:=12) h hb hd hl hn
 have zt:=qaO (s:=s) (a:=0) (c:=12) h hb hT
 have ho:=hd.one
 have hcl:=hd.cells
 simp only[PS,pO,hm,decide_true] at zi
 simp only[PS,pO,ptk,ptD] at zt
 simp only[CS,pO] at z
 simp only[Wt,Wn] at z zt
 rw[qaa]
 simp[qac,qfu,zi,zt,z,ho,hcl,qak,qaI,qbN,qaF,qbB,qb2,qbh,still,V.same,Wa]
end
end
section
open F
attribute [local simp] qbj qb4 dkey
theorem qxj{p:Nat}(hp:qkH p){y:ByteArray}{o:Bop}(h:qmu p y=some o):y=o.str/\y∈qgN p:=by
 have h1:o.str=y:=by have:=List.find?_some h; simpa using this
 have h2:=List.mem_of_find?_eq_some h
 subst h1
 refine⟨rfl,?_⟩
 rcases hp with rfl|rfl|rfl|rfl<;>simp only[Wu,Ww,or_false] at h2
 ·subst h2; decide
 ·subst h2; decide
 ·rcases h2 with rfl|rfl<;>decide
 ·rcases h2 with rfl|rfl<;>decide
theorem qxk{p:Nat}(hp:qkH p){y:ByteArray}(h:qmu p y=none):y∉qgN p:=by
 have h2:=YL.1 h
 rcases hp with rfl|rfl|rfl|rfl<;>simp only[Wu,Ww,or_false] at h2
 ·intro hm
  exact h2 .or rfl (by simpa [qgN,Bop.str,eq_comm] using hm)
 ·intro hm
  exact h2 .and rfl (by simpa [qgN,Bop.str,eq_comm] using hm)
 ·intro hm
  simp only[qgN,Wu,Ww,or_false] at hm
  rcases hm with rfl|rfl
  ·exact h2 .add (.inl rfl) (by decide)
  ·exact h2 .sub (.inr rfl) (by decide)
 ·intro hm
  simp only[qgN,Wu,Ww,or_false] at hm
  rcases hm with rfl|rfl
  ·exact h2 .mul (.inl rfl) (by decide)
  ·exact h2 .div (.inr rfl) (by decide)
theorem qzK{p:Nat}(hp:qkH p):(⟨#[]⟩:ByteArray)∉qgN p/\(qgN p).length<2 ^ 40:=by
 rcases hp with rfl|rfl|rfl|rfl<;>exact⟨by decide,by decide⟩
section
variable(s:ByteArray)(T:List Tk)
def ExK(n:Nat):Prop := ∀ (p lv i:Nat) (t:Tk) (r:List Tk) (x:Rz E),1<=p->p<=8->lv<=20->T.drop i=t::r->qat 12 2 true n p lv (t::r)=some x->Out s T (Z tP (.call (fnP p) [.ptr 0 0,.int lv] (PS s T i 0 12))) x E.node
def LoK(n:Nat):Prop := ∀ (p lv i:Nat) (t:Tk) (r:List Tk) (e:E) (x:Rz E),qkH p->lv<=20->T.drop i=t::r->qcP 12 2 true n p lv e (t::r)=some x->match x with
 |.ok e' r' => ∃ i',T.drop i'=r'/\r'≠[]/\Z tP (.loop 5 F285l0 (bqF (clF p) (.sl (qaV (qgN p)) (qgN p).length true)) (BL s T lv i 0 12 e))=some (.out (.exit 0) (bqF (clF p) (.sl (qaV (qgN p)) (qgN p).length true)++[(13,.bool false)]) (BL s T lv i' 0 12 e'))
 |.er a c => ∃ (i':Nat) (fr:Fr) (e':E),fr.get 1000000=none/\Z tP (.loop 5 F285l0 (bqF (clF p) (.sl (qaV (qgN p)) (qgN p).length true)) (BL s T lv i 0 12 e))=some (.out (.pan (.iface 1 (.int c))) fr (BL s T lv i' a c e'))
variable{s:ByteArray}{T:List Tk}
theorem qxl(hw:WfQ T)(hT:T.length<2 ^ 40){n:Nat}(ihe:ExK s T n)(ihl:LoK s T n):LoK s T (n+1):=by
 intro p lv i t r e x hp hlv h hx
 obtain⟨on,ol⟩:=qzK hp
 have hd:=qal (qgN p) true
 have hp2:p≠3/\p≠4/\p≠7/\1<=p/\p<=6:=by rcases hp with rfl|rfl|rfl|rfl<;>omega
 rw[qcP] at hx
 by_cases hb:t.bad=0
 ·have hnx:nx (t::r)=some t.s:=if_pos hb
  rw[hnx] at hx
  simp only at hx
  cases ho:qmu p t.s with
  |none=>
   rw[ho] at hx
   cases hx
   exact⟨i,h,by simp,qsL hd ol on h hb (qxk hp ho) e⟩
  |some o=>
   rw[ho] at hx
   simp only[Yy] at hx
   obtain⟨q1,q2⟩:=qxj hp ho
   have hne:t.s≠⟨#[]⟩:=fun e=>on (e ▸ q2)
   obtain⟨n1,n2⟩:=hw.next h hb hne
   obtain⟨t',r',hr⟩ : ∃ t' r',r=t'::r':=by cases r with
    |nil=>exact absurd rfl n2
    |cons a b=>exact⟨a,b,rfl⟩
   subst hr
   cases hq:qat 12 2 true n (p+1) lv (t'::r') with
   |none=>rw[hq] at hx; cases hx
   |some y=>
    rw[hq] at hx
    have ho':=ihe (p+1) lv (i+1) t' r' y (by omega) (by omega) hlv n1 hq
    cases y with
    |er a c=>
     simp only[Wb] at hx
     subst hx
     obtain⟨i',z⟩:=ho'
     exact⟨i',_,e,rfl,qsN hd ol hT on h hb q2 e (qnL hp z)⟩
    |ok e' r''=>
     simp only[if_neg hp2.2.1] at hx
     obtain⟨i',a1,a2,z⟩:=ho'
     have zs:=qqD hd ol hT on h hb q2 q1 e e' (qqC hp z)
     obtain⟨t2,r2,hr2⟩ : ∃ t2 r2,r''=t2::r2:=by cases r'' with
      |nil=>exact absurd rfl a2
      |cons a b=>exact⟨a,b,rfl⟩
     subst hr2
     have:=ihl p lv i' t2 r2 (.bin true o e e') x hp hlv a1 hx
     cases x with
     |ok e3 r3=>
      obtain⟨i3,b1,b2,b3⟩:=this
      exact⟨i3,b1,b2,zs.trans b3⟩
     |er a c=>
      obtain⟨i3,fr,e3,b1,b2⟩:=this
      exact⟨i3,fr,e3,b1,zs.trans b2⟩
 ·have hnx:nx (t::r)=none:=if_neg hb
  rw[hnx] at hx
  simp only at hx
  rw[if_neg (by omega)] at hx
  simp only[qct,if_neg hb,Wb] at hx
  subst hx
  exact⟨i,_,e,rfl,qsM hd h hb e⟩
end
end
section
open F
attribute [local simp] qbj qb4 dkey
section
variable{s:ByteArray}{T:List Tk}{lv i i' i2:Nat}{g:Nat}{d:D}{e e':E}{a c:Int}
theorem qCD (ho:V.one (.dat d)=true) (hc:V.cells (.dat d)=[.dat d])
  (z:Z tP (.call g [.ptr 0 0,.ptr 1 0] (CS s T lv i 0 12))=some (.ret e.node (CS s T lv i' 0 12)))
  (zl:Z tP (.loop 5 F285l0 (bqF g d) (BL s T lv i' 0 12 e))=some (.out (.exit 0) (bqF g d++[(13,.bool false)]) (BL s T lv i2 0 12 e'))) :
  Z tP (.call 285 [.ptr 0 0,.fn g [] [.ptr 1 0,.ptr 2 0],.dat d] (BS s T lv i 0 12))=some (.ret e'.node (BS s T lv i2 0 12)):=by
 simp only[CS,BL,pO,ndO] at z zl
 refine qab (pf:=F285) rfl rfl ?_
 simp[F285,z,zl,ho,hc,Wa]
theorem qzG (ho:V.one (.dat d)=true) (hc:V.cells (.dat d)=[.dat d])
  (z:Z tP (.call g [.ptr 0 0,.ptr 1 0] (CS s T lv i 0 12))=some (.ret (qbq c) (CS s T lv i' a c))) :
  Z tP (.call 285 [.ptr 0 0,.fn g [] [.ptr 1 0,.ptr 2 0],.dat d] (BS s T lv i 0 12))=some (.ret (qbq c) (BS s T lv i' a c)):=by
 simp only[CS,pO] at z
 refine qab (pf:=F285) rfl rfl ?_
 simp[F285,z,ho,hc,qak,Wa]
theorem qzH (ho:V.one (.dat d)=true) (hc:V.cells (.dat d)=[.dat d]) {fr:Fr} (hf:fr.get 1000000=none)
  (z:Z tP (.call g [.ptr 0 0,.ptr 1 0] (CS s T lv i 0 12))=some (.ret e.node (CS s T lv i' 0 12)))
  (zl:Z tP (.loop 5 F285l0 (bqF g d) (BL s T lv i' 0 12 e))=some (.out (.pan (.iface 1 (.int c))) fr (BL s T lv i2 a c e'))) :
  Z tP (.call 285 [.ptr 0 0,.fn g [] [.ptr 1 0,.ptr 2 0],.dat d] (BS s T lv i 0 12))=some (.ret (qbq c) (BS s T lv i2 a c)):=by
 simp only[CS,BL,pO,ndO] at z zl
 refine qab (pf:=F285) rfl rfl ?_
 simp[F285,z,zl,ho,hc,hf,Wa]
theorem qCE {p:Nat} (hp:qkH p) (z:Z tP (.call 285 [.ptr 0 0,.fn (clF p) [] [.ptr 1 0,.ptr 2 0],.dat (.sl (qaV (qgN p)) (qgN p).length true)] (BS s T lv i 0 12))=some (.ret e.node (BS s T lv i' 0 12))) :
  Z tP (.call (fnP p) [.ptr 0 0,.int lv] (PS s T i 0 12))=some (.ret e.node (PS s T i' 0 12)):=by
 simp only[BS,pO] at z
 rcases hp with rfl|rfl|rfl|rfl
 ·refine qab (pf:=F279) rfl rfl ?_
  simp only[clF,qgN,qaV,Wl,Wq,Wf,Wm] at z
  simp[F279,z,Wa]
 ·refine qab (pf:=F287) rfl rfl ?_
  simp only[clF,qgN,qaV,Wl,Wq,Wf,Wm] at z
  simp[F287,z,Wa]
 ·refine qab (pf:=F297) rfl rfl ?_
  simp only[clF,qgN,qaV,Wl,Wq,Wf,Wm] at z
  simp[F297,z,Wa]
 ·refine qab (pf:=F304) rfl rfl ?_
  simp only[clF,qgN,qaV,Wl,Wq,Wf,Wm] at z
  simp[F304,z,Wa]
theorem qzI {p:Nat} (hp:qkH p) (z:Z tP (.call 285 [.ptr 0 0,.fn (clF p) [] [.ptr 1 0,.ptr 2 0],.dat (.sl (qaV (qgN p)) (qgN p).length true)] (BS s T lv i 0 12))=some (.ret (qbq c) (BS s T lv i' a c))) :
  Z tP (.call (fnP p) [.ptr 0 0,.int lv] (PS s T i 0 12))=some (.ret (qbq c) (PS s T i' a c)):=by
 simp only[BS,pO] at z
 rcases hp with rfl|rfl|rfl|rfl
 ·refine qab (pf:=F279) rfl rfl ?_
  simp only[clF,qgN,qaV,Wl,Wq,Wf,Wm] at z
  simp[F279,z,qak,Wa]
 ·refine qab (pf:=F287) rfl rfl ?_
  simp only[clF,qgN,qaV,Wl,Wq,Wf,Wm] at z
  simp[F287,z,qak,Wa]
 ·refine qab (pf:=F297) rfl rfl ?_
  simp only[clF,qgN,qaV,Wl,Wq,Wf,Wm] at z
  simp[F297,z,qak,Wa]
 ·refine qab (pf:=F304) rfl rfl ?_
  simp only[clF,qgN,qaV,Wl,Wq,Wf,Wm] at z
  simp[F304,z,qak,Wa]
end
section
variable{s:ByteArray}{T:List Tk}
theorem qoj{n:Nat}(ihe:ExK s T n)(ihl:LoK s T n){p lv i:Nat}{t:Tk}{r:List Tk}{x:Rz E}(hp:qkH p)(hlv:lv<=20)(h:T.drop i=t::r)(hx:qat 12 2 true (n+1) p lv (t::r)=some x):Out s T (Z tP (.call (fnP p) [.ptr 0 0,.int lv] (PS s T i 0 12))) x E.node:=by
 have hp2:p≠3/\p≠7/\1<=p/\p<8/\p+1<=8:=by rcases hp with rfl|rfl|rfl|rfl<;>omega
 have hd:=qal (qgN p) true
 rw[qat,if_neg (by rintro (h|h); exact hp2.1 h.1; exact hp2.2.1 h.1),if_pos hp2.2.2.2.1] at hx
 cases hq:qat 12 2 true n (p+1) lv (t::r) with
 |none=>rw[hq] at hx; cases hx
 |some y=>
  rw[hq] at hx
  have ho:=ihe (p+1) lv i t r y (by omega) hp2.2.2.2.2 hlv h hq
  cases y with
  |er a c=>
   simp only[Wb] at hx
   subst hx
   obtain⟨i',z⟩:=ho
   exact⟨i',qzI hp (qzG hd.one hd.cells (qnL hp z))⟩
  |ok e r'=>
   simp only at hx
   obtain⟨i',a1,a2,z⟩:=ho
   have zc:=qqC hp z
   obtain⟨t2,r2,hr2⟩ : ∃ t2 r2,r'=t2::r2:=by cases r' with
    |nil=>exact absurd rfl a2
    |cons a b=>exact⟨a,b,rfl⟩
   subst hr2
   have hl:=ihl p lv i' t2 r2 e x hp hlv a1 hx
   cases x with
   |ok e3 r3=>
    obtain⟨i3,b1,b2,b3⟩:=hl
    exact⟨i3,b1,b2,qCE hp (qCD hd.one hd.cells zc b3)⟩
   |er a c=>
    obtain⟨i3,fr,e3,b1,b2⟩:=hl
    exact⟨i3,qzI hp (qzH hd.one hd.cells b1 zc b2)⟩
end
end
section
open F
attribute [local simp] qbj qb4 dkey
def qn8:List ByteArray:=[⟨#[60]⟩,⟨#[60,61]⟩,⟨#[62]⟩,⟨#[62,61]⟩,⟨#[61,61]⟩,⟨#[33,61]⟩]
theorem qtg{y:ByteArray}{o:Bop}(h:qmu 4 y=some o):y=o.str/\y∈qn8:=by
 have h1:o.str=y:=by have:=List.find?_some h; simpa using this
 have h2:=List.mem_of_find?_eq_some h
 subst h1
 refine⟨rfl,?_⟩
 simp only[Wu,Ww,or_false] at h2
 rcases h2 with rfl|rfl|rfl|rfl|rfl|rfl<;>decide
theorem qth{y:ByteArray}(h:qmu 4 y=none):y∉qn8:=by
 have h2:=YL.1 h
 intro hm
 simp only[qn8,Wu,Ww,or_false] at hm
 simp only[Wu,Ww,or_false] at h2
 rcases hm with rfl|rfl|rfl|rfl|rfl|rfl
 ·exact h2 .lt (by simp) (by decide)
 ·exact h2 .le (by simp) (by decide)
 ·exact h2 .gt (by simp) (by decide)
 ·exact h2 .ge (by simp) (by decide)
 ·exact h2 .eq (by simp) (by decide)
 ·exact h2 .ne (by simp) (by decide)
section
variable{s:ByteArray}{T:List Tk}{lv i i' i2:Nat}{e e':E}{a c:Int}{t:Tk}{r:List Tk}
theorem qzq(z:Z tP (.call 297 [.ptr 0 0,.int lv] (PS s T i 0 12))=some (.ret (qbq c) (PS s T i' a c))):Z tP (.call 292 [.ptr 0 0,.int lv] (PS s T i 0 12))=some (.ret (qbq c) (PS s T i' a c)):=by
 simp only[PS,pO] at z
 refine qab (pf:=F292) rfl rfl ?_
 simp[F292,z,qak,Wa]
theorem qBw(z:Z tP (.call 297 [.ptr 0 0,.int lv] (PS s T i 0 12))=some (.ret e.node (PS s T i' 0 12)))(h:T.drop i'=t::r)(hb:t.bad=0)(hm:t.s∉qn8):Z tP (.call 292 [.ptr 0 0,.int lv] (PS s T i 0 12))=some (.ret e.node (PS s T i' 0 12)):=by
 have zi:=qaP (s:=s) (a:=0) (c:=12) h hb (qal qn8 true) (by decide) (by decide)
 simp only[PS,pO] at z
 simp only[hm,decide_false] at zi
 simp only[PS,pO,qn8,qaV,Wl,Wq,Wf,Wm] at zi
 refine qab (pf:=F292) rfl rfl ?_
 simp[F292,z,zi,Wa]
theorem qBx(z:Z tP (.call 297 [.ptr 0 0,.int lv] (PS s T i 0 12))=some (.ret e.node (PS s T i' 0 12)))(h:T.drop i'=t::r)(hb:t.bad≠0):Z tP (.call 292 [.ptr 0 0,.int lv] (PS s T i 0 12))=some (.ret (qbq t.bad) (PS s T i' t.at_ t.bad)):=by
 have zi:=qf9 (s:=s) (a:=0) (c:=12) h hb (qal qn8 true)
 simp only[PS,pO] at z
 simp only[PS,pO,qn8,qaV,Wl,Wq,Wf,Wm] at zi
 refine qab (pf:=F292) rfl rfl ?_
 simp[F292,z,zi,qak,Wa]
theorem qCx (hT:T.length<2 ^ 40) (z:Z tP (.call 297 [.ptr 0 0,.int lv] (PS s T i 0 12))=some (.ret e.node (PS s T i' 0 12))) (h:T.drop i'=t::r) (hb:t.bad=0) (hm:t.s∈qn8) {o:Bop} (hs:t.s=o.str)
  (z2:Z tP (.call 297 [.ptr 0 0,.int lv] (PS s T ((i'+1:Nat):Int) 0 12))=some (.ret e'.node (PS s T i2 0 12))):Z tP (.call 292 [.ptr 0 0,.int lv] (PS s T i 0 12))=some (.ret (E.bin true o e e').node (PS s T i2 0 12)):=by
 have zi:=qaP (s:=s) (a:=0) (c:=12) h hb (qal qn8 true) (by decide) (by decide)
 have zt:=qaO (s:=s) (a:=0) (c:=12) h hb hT
 have htx:=qan hb
 simp only[PS,pO] at z z2
 simp only[hm,decide_true] at zi
 simp only[PS,pO,qn8,qaV,Wl,Wq,Wf,Wm] at zi
 simp only[PS,pO,ptk,ptD,htx,hs] at zt
 simp only[Wt,Wn] at z2 zt
 refine qab (pf:=F292) rfl rfl ?_
 simp[F292,z,zi,zt,z2,qbN,qaF,qbB,qb2,qbh,still,V.same,Wa]
 try rfl
theorem qzr (hT:T.length<2 ^ 40) (z:Z tP (.call 297 [.ptr 0 0,.int lv] (PS s T i 0 12))=some (.ret e.node (PS s T i' 0 12))) (h:T.drop i'=t::r) (hb:t.bad=0) (hm:t.s∈qn8)
  (z2:Z tP (.call 297 [.ptr 0 0,.int lv] (PS s T ((i'+1:Nat):Int) 0 12))=some (.ret (qbq c) (PS s T i2 a c))):Z tP (.call 292 [.ptr 0 0,.int lv] (PS s T i 0 12))=some (.ret (qbq c) (PS s T i2 a c)):=by
 have zi:=qaP (s:=s) (a:=0) (c:=12) h hb (qal qn8 true) (by decide) (by decide)
 have zt:=qaO (s:=s) (a:=0) (c:=12) h hb hT
 simp only[PS,pO] at z z2
 simp only[hm,decide_true] at zi
 simp only[PS,pO,qn8,qaV,Wl,Wq,Wf,Wm] at zi
 simp only[PS,pO,ptk,ptD] at zt
 simp only[Wt,Wn] at z2 zt
 refine qab (pf:=F292) rfl rfl ?_
 simp[F292,z,zi,zt,z2,qak,qaI,qbN,qaF,qbB,qb2,qbh,still,V.same,Wa]
theorem qzs(hw:WfQ T)(hT:T.length<2 ^ 40){n:Nat}(ihe:ExK s T n){x:Rz E}(hlv:lv<=20)(h:T.drop i=t::r)(hx:qat 12 2 true (n+1) 4 lv (t::r)=some x):Out s T (Z tP (.call 292 [.ptr 0 0,.int lv] (PS s T i 0 12))) x E.node:=by
 rw[qat,if_neg (by rintro (h|h); exact absurd h.1 (by decide); exact absurd h.1 (by decide)),if_pos (by decide)] at hx
 cases hq:qat 12 2 true n 5 lv (t::r) with
 |none=>rw[hq] at hx; cases hx
 |some y=>
  rw[hq] at hx
  have ho:=ihe 5 lv i t r y (by omega) (by omega) hlv h hq
  cases y with
  |er a c=>
   simp only[Wb] at hx
   subst hx
   obtain⟨i',z⟩:=ho
   exact⟨i',qzq z⟩
  |ok e r'=>
   simp only at hx
   obtain⟨i',a1,a2,z⟩:=ho
   obtain⟨t2,r2,hr2⟩ : ∃ t2 r2,r'=t2::r2:=by cases r' with
    |nil=>exact absurd rfl a2
    |cons a b=>exact⟨a,b,rfl⟩
   subst hr2
   cases n with
   |zero=>simp only[qat] at hq; cases hq
   |succ m=>
    rw[qcP] at hx
    by_cases hb:t2.bad=0
    ·have hnx:nx (t2::r2)=some t2.s:=if_pos hb
     rw[hnx] at hx
     simp only at hx
     cases hop:qmu 4 t2.s with
     |none=>
      rw[hop] at hx
      cases hx
      exact⟨i',a1,a2,qBw z a1 hb (qth hop)⟩
     |some o=>
      rw[hop] at hx
      simp only[Yy,if_true] at hx
      obtain⟨q1,q2⟩:=qtg hop
      have hne:t2.s≠⟨#[]⟩:=fun e=>absurd (e ▸ q2) (by decide)
      obtain⟨n1,n2⟩:=hw.next a1 hb hne
      obtain⟨t3,r3,hr3⟩ : ∃ t3 r3,r2=t3::r3:=by cases r2 with
       |nil=>exact absurd rfl n2
       |cons a b=>exact⟨a,b,rfl⟩
      subst hr3
      cases hq2:qat 12 2 true m 5 lv (t3::r3) with
      |none=>rw[hq2] at hx; cases hx
      |some y2=>
       rw[hq2] at hx
       have ho2:=ihe 5 lv (i'+1) t3 r3 y2 (by omega) (by omega) hlv n1 (qbf hq2 (by omega))
       cases y2 with
       |er a c=>
        simp only[Wb] at hx
        subst hx
        obtain⟨i2,z2⟩:=ho2
        exact⟨i2,qzr hT z a1 hb q2 z2⟩
       |ok e2 r4=>
        simp only[Wb] at hx
        subst hx
        obtain⟨i2,d1,d2,z2⟩:=ho2
        exact⟨i2,d1,d2,qCx hT z a1 hb q2 q1 z2⟩
    ·have hnx:nx (t2::r2)=none:=if_neg hb
     rw[hnx] at hx
     simp only at hx
     rw[if_neg (by decide)] at hx
     simp only[qct,if_neg hb,Wb] at hx
     subst hx
     exact⟨i',qBx z a1 hb⟩
end
end
section
open F
attribute [local simp] qbj qb4 dkey
theorem qqK{t:Tk}(hb:t.bad≠0)(r:List Tk) : ∀ (n p lv:Nat) (x:Rz E),qat 12 2 true n p lv (t::r)=some x->x = .er t.at_ t.bad
 |0,p,lv,x,h=>by simp[qat] at h
 |n+1,p,lv,x,h=>by
  have hnx:nx (t::r)=none:=if_neg hb
  rw[qat,hnx,if_neg (by rintro (h|h); cases h.2; cases h.2)] at h
  by_cases hp:p<8
  ·rw[if_pos hp] at h
   cases hq:qat 12 2 true n (p+1) lv (t::r) with
   |none=>rw[hq] at h; cases h
   |some y=>
    have:=qqK hb r n (p+1) lv y hq
    rw[hq,this] at h
    simpa using h.symm
  ·rw[if_neg hp] at h
   simp only[qct,if_neg hb,Wb] at h
   exact h.symm
def unF(neg:Bool):Nat:=if neg then 308 else 290
def unG(neg:Bool):Nat:=if neg then 309 else 292
section
variable{s:ByteArray}{T:List Tk}{lv i i' i2:Nat}{e e':E}{a c:Int}{t:Tk}{r:List Tk}{neg:Bool}
theorem qCu(h:T.drop i=t::r)(hb:t.bad=0)(hm:t.s≠ustr neg)(z:Z tP (.call (unG neg) [.ptr 0 0,.int lv] (PS s T i 0 12))=some (.ret e.node (PS s T i' 0 12))):Z tP (.call (unF neg) [.ptr 0 0,.int lv] (PS s T i 0 12))=some (.ret e.node (PS s T i' 0 12)):=by
 have zi:=qaP (s:=s) (a:=0) (c:=12) h hb (qal [ustr neg] true) (by simp) (by cases neg<;>decide)
 simp only[Wg,hm,decide_false] at zi
 simp only[PS,pO] at z
 cases neg
 ·simp only[unG,Wo,if_false] at z
  simp only[PS,pO,ustr,qaV,Wl,Wq,Wh,Wo,if_false] at zi
  refine qab (pf:=F290) rfl rfl ?_
  simp[F290,z,zi,Wa]
 ·simp only[unG,if_true] at z
  simp only[PS,pO,ustr,qaV,Wl,Wq,Wh,if_true] at zi
  refine qab (pf:=F308) rfl rfl ?_
  simp[F308,z,zi,Wa]
theorem qwk(h:T.drop i=t::r)(hb:t.bad=0)(hm:t.s≠ustr neg)(z:Z tP (.call (unG neg) [.ptr 0 0,.int lv] (PS s T i 0 12))=some (.ret (qbq c) (PS s T i' a c))):Z tP (.call (unF neg) [.ptr 0 0,.int lv] (PS s T i 0 12))=some (.ret (qbq c) (PS s T i' a c)):=by
 have zi:=qaP (s:=s) (a:=0) (c:=12) h hb (qal [ustr neg] true) (by simp) (by cases neg<;>decide)
 simp only[Wg,hm,decide_false] at zi
 simp only[PS,pO] at z
 cases neg
 ·simp only[unG,Wo,if_false] at z
  simp only[PS,pO,ustr,qaV,Wl,Wq,Wh,Wo,if_false] at zi
  refine qab (pf:=F290) rfl rfl ?_
  simp[F290,z,zi,qak,Wa]
 ·simp only[unG,if_true] at z
  simp only[PS,pO,ustr,qaV,Wl,Wq,Wh,if_true] at zi
  refine qab (pf:=F308) rfl rfl ?_
  simp[F308,z,zi,qak,Wa]
theorem qBk(h:T.drop i=t::r)(hb:t.bad≠0):Z tP (.call (unF neg) [.ptr 0 0,.int lv] (PS s T i 0 12))=some (.ret (qbq t.bad) (PS s T i t.at_ t.bad)):=by
 have zi:=qf9 (s:=s) (a:=0) (c:=12) h hb (qal [ustr neg] true)
 cases neg
 ·simp only[PS,pO,ustr,qaV,Wl,Wq,Wh,Wo,if_false] at zi
  refine qab (pf:=F290) rfl rfl ?_
  simp[F290,zi,qak,Wa]
 ·simp only[PS,pO,ustr,qaV,Wl,Wq,Wh,if_true] at zi
  refine qab (pf:=F308) rfl rfl ?_
  simp[F308,zi,qak,Wa]
theorem qyY(hlv:lv<=20)(h:T.drop i=t::r)(hb:t.bad=0)(hm:t.s=ustr neg)(zo:Z tP (.call 270 [.ptr 0 0,.str (ustr neg),.int ((lv+1:Nat):Int)] (PS s T i 0 12))=some (.ret (qbq c) (PS s T i' a c))):Z tP (.call (unF neg) [.ptr 0 0,.int lv] (PS s T i 0 12))=some (.ret (qbq c) (PS s T i' a c)):=by
 have zi:=qaP (s:=s) (a:=0) (c:=12) h hb (qal [ustr neg] true) (by simp) (by cases neg<;>decide)
 have w1:=qai ((lv:Int)+1) (by omega)
 simp only[Wg,hm,decide_true] at zi
 simp only[PS,pO] at zo
 simp only[Wt,Wn] at zo
 cases neg
 ·simp only[PS,pO,ustr,qaV,Wl,Wq,Wh,Wo,if_false] at zi zo
  refine qab (pf:=F290) rfl rfl ?_
  simp[F290,zo,zi,w1,qak,Wa]
 ·simp only[PS,pO,ustr,qaV,Wl,Wq,Wh,if_true] at zi zo
  refine qab (pf:=F308) rfl rfl ?_
  simp[F308,zo,zi,w1,qak,Wa]
theorem qBl (hlv:lv<=20) (h:T.drop i=t::r) (hb:t.bad=0) (hm:t.s=ustr neg) (zo:Z tP (.call 270 [.ptr 0 0,.str (ustr neg),.int ((lv+1:Nat):Int)] (PS s T i 0 12))=some (.ret (.tup []) (PS s T i' 0 12)))
  (z:Z tP (.call (unF neg) [.ptr 0 0,.int ((lv+1:Nat):Int)] (PS s T i' 0 12))=some (.ret (qbq c) (PS s T i2 a c))):Z tP (.call (unF neg) [.ptr 0 0,.int lv] (PS s T i 0 12))=some (.ret (qbq c) (PS s T i2 a c)):=by
 have zi:=qaP (s:=s) (a:=0) (c:=12) h hb (qal [ustr neg] true) (by simp) (by cases neg<;>decide)
 have w1:=qai ((lv:Int)+1) (by omega)
 simp only[Wg,hm,decide_true] at zi
 simp only[PS,pO] at zo z
 simp only[Wt,Wn] at zo z
 cases neg
 ·simp only[PS,pO,unF,ustr,qaV,Wl,Wq,Wh,Wo,if_false] at zi zo z
  refine qab (pf:=F290) rfl rfl ?_
  simp[F290,zo,zi,z,w1,qak,Wa]
 ·simp only[PS,pO,unF,ustr,qaV,Wl,Wq,Wh,if_true] at zi zo z
  refine qab (pf:=F308) rfl rfl ?_
  simp[F308,zo,zi,z,w1,qak,Wa]
theorem qCv (hlv:lv<=20) (h:T.drop i=t::r) (hb:t.bad=0) (hm:t.s=ustr neg) (zo:Z tP (.call 270 [.ptr 0 0,.str (ustr neg),.int ((lv+1:Nat):Int)] (PS s T i 0 12))=some (.ret (.tup []) (PS s T i' 0 12)))
  (z:Z tP (.call (unF neg) [.ptr 0 0,.int ((lv+1:Nat):Int)] (PS s T i' 0 12))=some (.ret e.node (PS s T i2 0 12))):Z tP (.call (unF neg) [.ptr 0 0,.int lv] (PS s T i 0 12))=some (.ret (E.un true neg e).node (PS s T i2 0 12)):=by
 have zi:=qaP (s:=s) (a:=0) (c:=12) h hb (qal [ustr neg] true) (by simp) (by cases neg<;>decide)
 have w1:=qai ((lv:Int)+1) (by omega)
 simp only[Wg,hm,decide_true] at zi
 simp only[PS,pO] at zo z
 simp only[Wt,Wn] at zo z
 cases neg
 ·simp only[PS,pO,unF,ustr,qaV,Wl,Wq,Wh,Wo,if_false] at zi zo z
  refine qab (pf:=F290) rfl rfl ?_
  simp[F290,zo,zi,z,w1,Wa]
  rfl
 ·simp only[PS,pO,unF,ustr,qaV,Wl,Wq,Wh,if_true] at zi zo z
  refine qab (pf:=F308) rfl rfl ?_
  simp[F308,zo,zi,z,w1,Wa]
  rfl
end
end
section
open F
theorem qku{α : Type}{c:Nat}{ts:List Tk}{a : α}{r:List Tk}(h:qct (α := α) c ts = .ok a r):False:=by
 cases ts<;>simp[qct] at h
theorem qkv{x:ByteArray}{lv:Nat}{ts r:List Tk}{u:Unit}(h:qeh 12 2 x lv ts = .ok u r):lv<=20:=by
 by_cases h20:20<lv
 ·rw[qeh] at h
  by_cases hn:nx ts=some x
  ·rw[if_pos ⟨hn,h20⟩] at h
   exact (qku h).elim
  ·rw[if_neg (fun e=>hn e.1)] at h
   cases ts with
   |nil=>rw[qaS] at h; exact (qku h).elim
   |cons t r'=>
    simp only[qaS] at h
    by_cases hc:t.bad=0/\t.s=x
    ·exact absurd (show nx (t::r')=some x by rw[nx,if_pos hc.1,hc.2]) hn
    ·rw[if_neg hc] at h
     exact (qku h).elim
 ·omega
section
variable{s:ByteArray}{T:List Tk}{lv i:Nat}{t:Tk}{r:List Tk}
theorem qa3{α : Type}{l:List α}(h:l≠[]) : ∃ a r,l=a::r:=by
 cases l with
 |nil=>exact absurd rfl h
 |cons a b=>exact⟨a,b,rfl⟩
theorem qyq(hw:WfQ T)(hT:T.length<2 ^ 40){n:Nat}(ihe:ExK s T n){p:Nat}{neg:Bool}(hp:p=3/\neg=false\/p=7/\neg=true){x:Rz E}(hlv:lv<=20)(h:T.drop i=t::r)(hx:qat 12 2 true (n+1) p lv (t::r)=some x):Out s T (Z tP (.call (unF neg) [.ptr 0 0,.int lv] (PS s T i 0 12))) x E.node:=by
 have hF:fnP p=unF neg:=by rcases hp with ⟨rfl,rfl⟩|⟨rfl,rfl⟩<;>rfl
 have hG:fnP (p+1)=unG neg:=by rcases hp with ⟨rfl,rfl⟩|⟨rfl,rfl⟩<;>rfl
 have hp8:p<8/\1<=p:=by rcases hp with ⟨rfl,_⟩|⟨rfl,_⟩<;>omega
 by_cases hb:t.bad=0
 ·have hnx:nx (t::r)=some t.s:=if_pos hb
  by_cases hm:t.s=ustr neg
  ·have hcond:p=3/\nx (t::r)=some (ustr false)\/p=7/\nx (t::r)=some (ustr true):=by
    rw[hnx,hm]
    rcases hp with ⟨rfl,rfl⟩|⟨rfl,rfl⟩
    ·exact .inl ⟨rfl,rfl⟩
    ·exact .inr ⟨rfl,rfl⟩
   have h7:(p==7)=neg:=by rcases hp with ⟨rfl,rfl⟩|⟨rfl,rfl⟩<;>rfl
   rw[qat,if_pos hcond,h7] at hx
   have ho:=qhY (s:=s) hw hT h (x:=ustr neg) (by cases neg<;>decide) (lv:=lv+1)
   cases hq:qeh 12 2 (ustr neg) (lv+1) (t::r) with
   |er a c=>
    rw[hq] at hx ho
    simp only[Wb] at hx
    subst hx
    obtain⟨i',z⟩:=ho
    exact⟨i',qyY hlv h hb hm z⟩
   |ok u r1=>
    have hl1:=qkv hq
    rw[hq] at hx ho
    simp only at hx
    obtain⟨i',a1,a2,z⟩:=ho
    obtain⟨t1,r2,rfl⟩:=qa3 a2
    cases hq2:qat 12 2 true n p (lv+1) (t1::r2) with
    |none=>rw[hq2] at hx; cases hx
    |some y=>
     rw[hq2] at hx
     have h2:=ihe p (lv+1) i' t1 r2 y hp8.2 (by omega) hl1 a1 hq2
     rw[hF] at h2
     cases y with
     |er a c=>
      simp only[Wb] at hx
      subst hx
      obtain⟨i2,z2⟩:=h2
      exact⟨i2,qBl hlv h hb hm z z2⟩
     |ok e r3=>
      simp only[Wb] at hx
      subst hx
      obtain⟨i2,b1,b2,z2⟩:=h2
      exact⟨i2,b1,b2,qCv hlv h hb hm z z2⟩
  ·have hcond : ¬ (p=3/\nx (t::r)=some (ustr false)\/p=7/\nx (t::r)=some (ustr true)):=by
    rw[hnx]
    rcases hp with ⟨rfl,rfl⟩|⟨rfl,rfl⟩
    ·rintro (⟨_,h⟩|⟨h,_⟩)
     ·exact hm (WD h)
     ·cases h
    ·rintro (⟨h,_⟩|⟨_,h⟩)
     ·cases h
     ·exact hm (WD h)
   rw[qat,if_neg hcond,if_pos hp8.1] at hx
   cases hq:qat 12 2 true n (p+1) lv (t::r) with
   |none=>rw[hq] at hx; cases hx
   |some y=>
    rw[hq] at hx
    have h2:=ihe (p+1) lv i t r y (by omega) (by omega) hlv h hq
    rw[hG] at h2
    cases y with
    |er a c=>
     simp only[Wb] at hx
     subst hx
     obtain⟨i2,z2⟩:=h2
     exact⟨i2,qwk h hb hm z2⟩
    |ok e r3=>
     simp only at hx
     obtain⟨i2,b1,b2,z2⟩:=h2
     cases n with
     |zero=>simp only[qat] at hq; cases hq
     |succ m=>
      have hxx:x = .ok e r3:=by
       rw[qcP] at hx
       cases hn3:nx r3 with
       |none=>
        rw[hn3] at hx
        simp only at hx
        rw[if_pos (by rcases hp with ⟨rfl,_⟩|⟨rfl,_⟩; exact .inl rfl; exact .inr rfl)] at hx
        exact (WD hx).symm
       |some y=>
        rw[hn3] at hx
        have hop:qmu p y=none:=by rcases hp with ⟨rfl,_⟩|⟨rfl,_⟩<;>rfl
        simp only[hop] at hx
        exact (WD hx).symm
      subst hxx
      exact⟨i2,b1,b2,qCu h hb hm z2⟩
 ·have:=qqK hb r (n+1) p lv x hx
  subst this
  exact⟨i,qBk h hb⟩
end
end
section
open F
attribute [local simp] qbj qb4 dkey
def qd4:ByteArray:=⟨#[116,114,117,101]⟩
def qcE:ByteArray:=⟨#[102,97,108,115,101]⟩
def qef:List ByteArray:=[⟨#[115,101,108,102]⟩,⟨#[111,116,104,101,114]⟩,⟨#[116,105,99,107]⟩]
section
variable{s:ByteArray}{T:List Tk}{lv i i' i2 i3:Nat}{e e':E}{a c:Int}{t:Tk}{r:List Tk}
theorem qAC(h:T.drop i=t::r)(hb:t.bad≠0):Z tP (.call 309 [.ptr 0 0,.int lv] (PS s T i 0 12))=some (.ret (qbq t.bad) (PS s T i t.at_ t.bad)):=by
 have zp:=qe0 (s:=s) (a:=0) (c:=12) h hb
 simp only[PS,pO] at zp
 refine qab (pf:=F309) rfl rfl ?_
 simp[F309,zp,qak,Wa]
theorem qAD(hT:T.length<2 ^ 40)(h:T.drop i=t::r)(hb:t.bad=0)(hk:kindT t=4):Z tP (.call 309 [.ptr 0 0,.int lv] (PS s T i 0 12))=some (.ret (E.int (valT t)).node (PS s T ((i+1:Nat):Int) 0 12)):=by
 have zp:=qax (s:=s) (a:=0) (c:=12) h hb
 have zt:=qaO (s:=s) (a:=0) (c:=12) h hb hT
 simp only[PS,pO,ptk,ptD,hk] at zp zt
 refine qab (pf:=F309) rfl rfl ?_
 simp[F309,zp,zt,Wa]
 try rfl
theorem qAE(hT:T.length<2 ^ 40)(h:T.drop i=t::r)(hb:t.bad=0)(hk:kindT t=1):Z tP (.call 309 [.ptr 0 0,.int lv] (PS s T i 0 12))=some (.ret (E.var t.s).node (PS s T ((i+1:Nat):Int) 0 12)):=by
 have zp:=qax (s:=s) (a:=0) (c:=12) h hb
 have zt:=qaO (s:=s) (a:=0) (c:=12) h hb hT
 simp only[PS,pO,ptk,ptD,hk,qan hb] at zp zt
 refine qab (pf:=F309) rfl rfl ?_
 simp[F309,zp,zt,Wa]
 try rfl
theorem qAF(h:T.drop i=t::r)(hb:t.bad=0)(hk:kindT t=3)(z:Z tP (.call 280 [.ptr 0 0,.int lv] (PS s T i 0 12))=some (.ret e.node (PS s T i' 0 12))):Z tP (.call 309 [.ptr 0 0,.int lv] (PS s T i 0 12))=some (.ret (E.field true t.s e).node (PS s T i' 0 12)):=by
 have zp:=qax (s:=s) (a:=0) (c:=12) h hb
 simp only[PS,pO,ptk,ptD,hk,qan hb] at zp z
 refine qab (pf:=F309) rfl rfl ?_
 simp[F309,zp,z,qbN,qaF,qbB,qb2,qbh,still,V.same,Wa]
 try rfl
theorem qr1(h:T.drop i=t::r)(hb:t.bad=0)(hk:kindT t=3)(z:Z tP (.call 280 [.ptr 0 0,.int lv] (PS s T i 0 12))=some (.ret (qbq c) (PS s T i' a c))):Z tP (.call 309 [.ptr 0 0,.int lv] (PS s T i 0 12))=some (.ret (qbq c) (PS s T i' a c)):=by
 have zp:=qax (s:=s) (a:=0) (c:=12) h hb
 simp only[PS,pO,ptk,ptD,hk,qan hb] at zp z
 refine qab (pf:=F309) rfl rfl ?_
 simp[F309,zp,z,qak,qaI,qbN,qaF,qbB,qb2,qbh,still,V.same,Wa]
theorem qxP(hT:T.length<2 ^ 40)(h:T.drop i=t::r)(hb:t.bad=0)(hk:kindT t=2)(hm:t.s=qd4):Z tP (.call 309 [.ptr 0 0,.int lv] (PS s T i 0 12))=some (.ret (E.bool 1).node (PS s T ((i+1:Nat):Int) 0 12)):=by
 have zp:=qax (s:=s) (a:=0) (c:=12) h hb
 have zt:=qaO (s:=s) (a:=0) (c:=12) h hb hT
 have z1:=qaP (s:=s) (a:=0) (c:=12) h hb (qal [qd4] true) (by simp) (by decide)
 simp only[hm,Wg,decide_true] at z1
 simp only[PS,pO,ptk,ptD,hk] at zp zt
 simp only[PS,pO,qd4,qaV,Wl,Wq,Wh] at z1
 refine qab (pf:=F309) rfl rfl ?_
 simp[F309,zp,zt,z1,Wa]
 try rfl
theorem quK(hT:T.length<2 ^ 40)(h:T.drop i=t::r)(hb:t.bad=0)(hk:kindT t=2)(hm:t.s=qcE):Z tP (.call 309 [.ptr 0 0,.int lv] (PS s T i 0 12))=some (.ret (E.bool 0).node (PS s T ((i+1:Nat):Int) 0 12)):=by
 have zp:=qax (s:=s) (a:=0) (c:=12) h hb
 have zt:=qaO (s:=s) (a:=0) (c:=12) h hb hT
 have z1:=qaP (s:=s) (a:=0) (c:=12) h hb (qal [qd4] true) (by simp) (by decide)
 have z2:=qaP (s:=s) (a:=0) (c:=12) h hb (qal [qcE] true) (by simp) (by decide)
 have hne:qcE≠qd4:=by decide
 simp only[hm,Wg,hne,decide_false,decide_true] at z1 z2
 simp only[PS,pO,ptk,ptD,hk] at zp zt
 simp only[PS,pO,qd4,qcE,qaV,Wl,Wq,Wh] at z1 z2
 refine qab (pf:=F309) rfl rfl ?_
 simp[F309,zp,zt,z1,z2,Wa]
 try rfl
theorem qxQ(hT:T.length<2 ^ 40)(h:T.drop i=t::r)(hb:t.bad=0)(hk:kindT t=2)(hm:t.s∈qef):Z tP (.call 309 [.ptr 0 0,.int lv] (PS s T i 0 12))=some (.ret (E.name t.s).node (PS s T ((i+1:Nat):Int) 0 12)):=by
 have zp:=qax (s:=s) (a:=0) (c:=12) h hb
 have zt:=qaO (s:=s) (a:=0) (c:=12) h hb hT
 have z1:=qaP (s:=s) (a:=0) (c:=12) h hb (qal [qd4] true) (by simp) (by decide)
 have z2:=qaP (s:=s) (a:=0) (c:=12) h hb (qal [qcE] true) (by simp) (by decide)
 have z3:=qaP (s:=s) (a:=0) (c:=12) h hb (qal qef true) (by decide) (by decide)
 have n1:t.s≠qd4:=fun e=>absurd (e ▸ hm) (by decide)
 have n2:t.s≠qcE:=fun e=>absurd (e ▸ hm) (by decide)
 simp only[hm,Wg,n1,n2,decide_false,decide_true] at z1 z2 z3
 simp only[PS,pO,ptk,ptD,hk,qan hb] at zp zt
 simp only[PS,pO,qd4,qcE,qef,qaV,Wl,Wq,Wf,Wm] at z1 z2 z3
 refine qab (pf:=F309) rfl rfl ?_
 simp[F309,zp,zt,z1,z2,z3,Wa]
 try rfl
end
end
section
open F
attribute [local simp] qbj qb4 dkey
section
variable{s:ByteArray}{T:List Tk}{lv i i' i2 i3:Nat}{e:E}{a c:Int}{t:Tk}{r:List Tk}
theorem qvT (hlv:lv<=20) (h:T.drop i=t::r) (hb:t.bad=0) (h4:decide (kindT t=4)=false) (h1:decide (kindT t=1)=false) (h3:decide (kindT t=3)=false) (n1:t.s≠qd4) (n2:t.s≠qcE) (n3:t.s∉qef)
  (zo:Z tP (.call 270 [.ptr 0 0,.str ⟨#[40]⟩,.int ((lv+1:Nat):Int)] (PS s T i 0 12))=some (.ret (qbq c) (PS s T i' a c))):Z tP (.call 309 [.ptr 0 0,.int lv] (PS s T i 0 12))=some (.ret (qbq c) (PS s T i' a c)):=by
 have w1:=qai ((lv:Int)+1) (by omega)
 have zp:=qax (s:=s) (a:=0) (c:=12) h hb
 have z1:=qaP (s:=s) (a:=0) (c:=12) h hb (qal [qd4] true) (by simp) (by decide)
 have z2:=qaP (s:=s) (a:=0) (c:=12) h hb (qal [qcE] true) (by simp) (by decide)
 have z3:=qaP (s:=s) (a:=0) (c:=12) h hb (qal qef true) (by decide) (by decide)
 simp only[Wg,n1,n2,n3,decide_false] at z1 z2 z3
 simp only[PS,pO,ptk,ptD,qan hb] at zp
 simp only[PS,pO,qd4,qcE,qef,qaV,Wl,Wq,Wf,Wm] at z1 z2 z3
 simp only[PS,pO] at zo
 simp only[Wt,Wn] at zo
 refine qab (pf:=F309) rfl rfl ?_
 simp[F309,zp,z1,z2,z3,h4,h1,h3,w1,zo,qak,Wa]
theorem qvU (hlv:lv<=20) (h:T.drop i=t::r) (hb:t.bad=0) (h4:decide (kindT t=4)=false) (h1:decide (kindT t=1)=false) (h3:decide (kindT t=3)=false) (n1:t.s≠qd4) (n2:t.s≠qcE) (n3:t.s∉qef)
  (zo:Z tP (.call 270 [.ptr 0 0,.str ⟨#[40]⟩,.int ((lv+1:Nat):Int)] (PS s T i 0 12))=some (.ret (.tup []) (PS s T i' 0 12)))
  (ze:Z tP (.call 279 [.ptr 0 0,.int ((lv+1:Nat):Int)] (PS s T i' 0 12))=some (.ret (qbq c) (PS s T i2 a c))):Z tP (.call 309 [.ptr 0 0,.int lv] (PS s T i 0 12))=some (.ret (qbq c) (PS s T i2 a c)):=by
 have w1:=qai ((lv:Int)+1) (by omega)
 have zp:=qax (s:=s) (a:=0) (c:=12) h hb
 have z1:=qaP (s:=s) (a:=0) (c:=12) h hb (qal [qd4] true) (by simp) (by decide)
 have z2:=qaP (s:=s) (a:=0) (c:=12) h hb (qal [qcE] true) (by simp) (by decide)
 have z3:=qaP (s:=s) (a:=0) (c:=12) h hb (qal qef true) (by decide) (by decide)
 simp only[Wg,n1,n2,n3,decide_false] at z1 z2 z3
 simp only[PS,pO,ptk,ptD,qan hb] at zp
 simp only[PS,pO,qd4,qcE,qef,qaV,Wl,Wq,Wf,Wm] at z1 z2 z3
 simp only[PS,pO] at zo ze
 simp only[Wt,Wn] at zo ze
 refine qab (pf:=F309) rfl rfl ?_
 simp[F309,zp,z1,z2,z3,h4,h1,h3,w1,zo,ze,qak,Wa]
theorem qvV (hlv:lv<=20) (h:T.drop i=t::r) (hb:t.bad=0) (h4:decide (kindT t=4)=false) (h1:decide (kindT t=1)=false) (h3:decide (kindT t=3)=false) (n1:t.s≠qd4) (n2:t.s≠qcE) (n3:t.s∉qef)
  (zo:Z tP (.call 270 [.ptr 0 0,.str ⟨#[40]⟩,.int ((lv+1:Nat):Int)] (PS s T i 0 12))=some (.ret (.tup []) (PS s T i' 0 12)))
  (ze:Z tP (.call 279 [.ptr 0 0,.int ((lv+1:Nat):Int)] (PS s T i' 0 12))=some (.ret e.node (PS s T i2 0 12)))
  (zc:Z tP (.call 253 [.ptr 0 0,.str ⟨#[41]⟩] (PS s T i2 0 12))=some (.ret (qbq c) (PS s T i3 a c))):Z tP (.call 309 [.ptr 0 0,.int lv] (PS s T i 0 12))=some (.ret (qbq c) (PS s T i3 a c)):=by
 have w1:=qai ((lv:Int)+1) (by omega)
 have zp:=qax (s:=s) (a:=0) (c:=12) h hb
 have z1:=qaP (s:=s) (a:=0) (c:=12) h hb (qal [qd4] true) (by simp) (by decide)
 have z2:=qaP (s:=s) (a:=0) (c:=12) h hb (qal [qcE] true) (by simp) (by decide)
 have z3:=qaP (s:=s) (a:=0) (c:=12) h hb (qal qef true) (by decide) (by decide)
 simp only[Wg,n1,n2,n3,decide_false] at z1 z2 z3
 simp only[PS,pO,ptk,ptD,qan hb] at zp
 simp only[PS,pO,qd4,qcE,qef,qaV,Wl,Wq,Wf,Wm] at z1 z2 z3
 simp only[PS,pO] at zo ze zc
 simp only[Wt,Wn] at zo ze
 refine qab (pf:=F309) rfl rfl ?_
 simp[F309,zp,z1,z2,z3,h4,h1,h3,w1,zo,ze,zc,qak,Wa]
theorem qA7 (hlv:lv<=20) (h:T.drop i=t::r) (hb:t.bad=0) (h4:decide (kindT t=4)=false) (h1:decide (kindT t=1)=false) (h3:decide (kindT t=3)=false) (n1:t.s≠qd4) (n2:t.s≠qcE) (n3:t.s∉qef)
  (zo:Z tP (.call 270 [.ptr 0 0,.str ⟨#[40]⟩,.int ((lv+1:Nat):Int)] (PS s T i 0 12))=some (.ret (.tup []) (PS s T i' 0 12)))
  (ze:Z tP (.call 279 [.ptr 0 0,.int ((lv+1:Nat):Int)] (PS s T i' 0 12))=some (.ret e.node (PS s T i2 0 12)))
  (zc:Z tP (.call 253 [.ptr 0 0,.str ⟨#[41]⟩] (PS s T i2 0 12))=some (.ret (.tup []) (PS s T i3 0 12))):Z tP (.call 309 [.ptr 0 0,.int lv] (PS s T i 0 12))=some (.ret e.node (PS s T i3 0 12)):=by
 have w1:=qai ((lv:Int)+1) (by omega)
 have zp:=qax (s:=s) (a:=0) (c:=12) h hb
 have z1:=qaP (s:=s) (a:=0) (c:=12) h hb (qal [qd4] true) (by simp) (by decide)
 have z2:=qaP (s:=s) (a:=0) (c:=12) h hb (qal [qcE] true) (by simp) (by decide)
 have z3:=qaP (s:=s) (a:=0) (c:=12) h hb (qal qef true) (by decide) (by decide)
 simp only[Wg,n1,n2,n3,decide_false] at z1 z2 z3
 simp only[PS,pO,ptk,ptD,qan hb] at zp
 simp only[PS,pO,qd4,qcE,qef,qaV,Wl,Wq,Wf,Wm] at z1 z2 z3
 simp only[PS,pO] at zo ze zc
 simp only[Wt,Wn] at zo ze
 refine qab (pf:=F309) rfl rfl ?_
 simp[F309,zp,z1,z2,z3,h4,h1,h3,w1,zo,ze,zc,qak,Wa]
theorem qvW (hlv:lv<=20) (hT:T.length<2 ^ 40) (h:T.drop i=t::r) (hb:t.bad=0)
  (zo:Z tP (.call 270 [.ptr 0 0,.str ⟨#[91]⟩,.int ((lv+1:Nat):Int)] (PS s T ((i+1:Nat):Int) 0 12))=some (.ret (qbq c) (PS s T i' a c))):Z tP (.call 280 [.ptr 0 0,.int lv] (PS s T i 0 12))=some (.ret (qbq c) (PS s T i' a c)):=by
 have w1:=qai ((lv:Int)+1) (by omega)
 have zt:=qaO (s:=s) (a:=0) (c:=12) h hb hT
 simp only[PS,pO,ptk,ptD] at zt
 simp only[Wt,Wn] at zt
 simp only[PS,pO] at zo
 simp only[Wt,Wn] at zo
 refine qab (pf:=F280) rfl rfl ?_
 simp[F280,zt,w1,zo,qak,Wa]
theorem qvX (hlv:lv<=20) (hT:T.length<2 ^ 40) (h:T.drop i=t::r) (hb:t.bad=0)
  (zo:Z tP (.call 270 [.ptr 0 0,.str ⟨#[91]⟩,.int ((lv+1:Nat):Int)] (PS s T ((i+1:Nat):Int) 0 12))=some (.ret (.tup []) (PS s T i' 0 12)))
  (ze:Z tP (.call 279 [.ptr 0 0,.int ((lv+1:Nat):Int)] (PS s T i' 0 12))=some (.ret (qbq c) (PS s T i2 a c))):Z tP (.call 280 [.ptr 0 0,.int lv] (PS s T i 0 12))=some (.ret (qbq c) (PS s T i2 a c)):=by
 have w1:=qai ((lv:Int)+1) (by omega)
 have zt:=qaO (s:=s) (a:=0) (c:=12) h hb hT
 simp only[PS,pO,ptk,ptD] at zt
 simp only[Wt,Wn] at zt
 simp only[PS,pO] at zo ze
 simp only[Wt,Wn] at zo ze
 refine qab (pf:=F280) rfl rfl ?_
 simp[F280,zt,w1,zo,ze,qak,Wa]
theorem qvY (hlv:lv<=20) (hT:T.length<2 ^ 40) (h:T.drop i=t::r) (hb:t.bad=0)
  (zo:Z tP (.call 270 [.ptr 0 0,.str ⟨#[91]⟩,.int ((lv+1:Nat):Int)] (PS s T ((i+1:Nat):Int) 0 12))=some (.ret (.tup []) (PS s T i' 0 12)))
  (ze:Z tP (.call 279 [.ptr 0 0,.int ((lv+1:Nat):Int)] (PS s T i' 0 12))=some (.ret e.node (PS s T i2 0 12)))
  (zc:Z tP (.call 253 [.ptr 0 0,.str ⟨#[93]⟩] (PS s T i2 0 12))=some (.ret (qbq c) (PS s T i3 a c))):Z tP (.call 280 [.ptr 0 0,.int lv] (PS s T i 0 12))=some (.ret (qbq c) (PS s T i3 a c)):=by
 have w1:=qai ((lv:Int)+1) (by omega)
 have zt:=qaO (s:=s) (a:=0) (c:=12) h hb hT
 simp only[PS,pO,ptk,ptD] at zt
 simp only[Wt,Wn] at zt
 simp only[PS,pO] at zo ze zc
 simp only[Wt,Wn] at zo ze
 refine qab (pf:=F280) rfl rfl ?_
 simp[F280,zt,w1,zo,ze,zc,qak,Wa]
theorem qA8 (hlv:lv<=20) (hT:T.length<2 ^ 40) (h:T.drop i=t::r) (hb:t.bad=0)
  (zo:Z tP (.call 270 [.ptr 0 0,.str ⟨#[91]⟩,.int ((lv+1:Nat):Int)] (PS s T ((i+1:Nat):Int) 0 12))=some (.ret (.tup []) (PS s T i' 0 12)))
  (ze:Z tP (.call 279 [.ptr 0 0,.int ((lv+1:Nat):Int)] (PS s T i' 0 12))=some (.ret e.node (PS s T i2 0 12)))
  (zc:Z tP (.call 253 [.ptr 0 0,.str ⟨#[93]⟩] (PS s T i2 0 12))=some (.ret (.tup []) (PS s T i3 0 12))):Z tP (.call 280 [.ptr 0 0,.int lv] (PS s T i 0 12))=some (.ret e.node (PS s T i3 0 12)):=by
 have w1:=qai ((lv:Int)+1) (by omega)
 have zt:=qaO (s:=s) (a:=0) (c:=12) h hb hT
 simp only[PS,pO,ptk,ptD] at zt
 simp only[Wt,Wn] at zt
 simp only[PS,pO] at zo ze zc
 simp only[Wt,Wn] at zo ze
 refine qab (pf:=F280) rfl rfl ?_
 simp[F280,zt,w1,zo,ze,zc,qak,Wa]
end
end
section
open F
def qiu(w:ByteArray):Int:=if w=⟨#[]⟩ then 0 else if qaD qaZ w then (if w∈fieldNames then 3 else if w∈wordNames then 2 else 1) else if qaD qau w then 4 else 5
theorem qci{t:Tk}(hb:t.bad=0):kindT t=qiu t.s:=by unfold kindT qiu; rw[if_neg (by simp[hb])]
theorem qp7(w:ByteArray):qaD qau w=true->w≠⟨#[]⟩/\qaD qaZ w=false:=by
 rw[qbe,qbe]
 intro h
 refine⟨?_,?_⟩
 ·rintro rfl
  exact absurd h (by decide)
 ·cases hh:(byl w).head? with
  |none=>rfl
  |some c=>
   rw[hh] at h
   simp only at h ⊢
   by_cases hl:qaZ c=true
   ·rw[qpV hl] at h; cases h
   ·simpa using hl
theorem qgw{w:ByteArray}(h:qaD qaZ w=true):w≠⟨#[]⟩:=by
 rintro rfl
 exact absurd h (by decide)
section
variable(s:ByteArray)(T:List Tk)
def IdK(n:Nat):Prop := ∀ (lv i:Nat) (t:Tk) (r:List Tk) (x:Rz E),lv<=20->T.drop i=t::r->t.bad=0->t.s≠⟨#[]⟩->qck 12 2 true n lv r=some x->Out s T (Z tP (.call 280 [.ptr 0 0,.int lv] (PS s T i 0 12))) x E.node
variable{s:ByteArray}{T:List Tk}
theorem qvj(hw:WfQ T)(hT:T.length<2 ^ 40){n:Nat}(ihe:ExK s T n):IdK s T (n+1):=by
 intro lv i t r x hlv h hb hs hx
 obtain⟨n1,n2⟩:=hw.next h hb hs
 obtain⟨t1,r1,rfl⟩:=qa3 n2
 rw[qck] at hx
 have ho:=qhY (s:=s) hw hT n1 (x:=bs [91]) (by decide) (lv:=lv+1)
 cases hq:qeh 12 2 (bs [91]) (lv+1) (t1::r1) with
 |er a c=>
  rw[hq] at hx ho
  simp only[Wb] at hx
  subst hx
  obtain⟨i',z⟩:=ho
  exact⟨i',qvW hlv hT h hb z⟩
 |ok u r2=>
  have hl1:=qkv hq
  rw[hq] at hx ho
  simp only at hx
  obtain⟨i',a1,a2,z⟩:=ho
  obtain⟨t2,r3,rfl⟩:=qa3 a2
  cases hq2:qat 12 2 true n 1 (lv+1) (t2::r3) with
  |none=>rw[hq2] at hx; cases hx
  |some y=>
   rw[hq2] at hx
   have h2:=ihe 1 (lv+1) i' t2 r3 y (by omega) (by omega) hl1 a1 hq2
   cases y with
   |er a c=>
    simp only[Wb] at hx
    subst hx
    obtain⟨i2,z2⟩:=h2
    exact⟨i2,qvX hlv hT h hb z z2⟩
   |ok e r4=>
    simp only at hx
    obtain⟨i2,b1,b2,z2⟩:=h2
    obtain⟨t3,r5,rfl⟩:=qa3 b2
    have hc:=qcB (s:=s) hw hT b1 (x:=bs [93]) (by decide)
    cases hq3:qaS 12 (bs [93]) (t3::r5) with
    |er a c=>
     rw[hq3] at hx hc
     simp only[Wb] at hx
     subst hx
     obtain⟨i3,z3⟩:=hc
     exact⟨i3,qvY hlv hT h hb z z2 z3⟩
    |ok u2 r6=>
     rw[hq3] at hx hc
     simp only[Wb] at hx
     subst hx
     obtain⟨i3,c1,c2,z3⟩:=hc
     exact⟨i3,c1,c2,qA8 hlv hT h hb z z2 z3⟩
theorem qvk(hw:WfQ T)(hT:T.length<2 ^ 40)(hP : ∀ t∈T,TokP t){n:Nat}(ihe:ExK s T n)(ihi:IdK s T n){lv i:Nat}{t:Tk}{r:List Tk}{x:Rz E}(hlv:lv<=20)(h:T.drop i=t::r)(hx:qat 12 2 true (n+1) 8 lv (t::r)=some x):Out s T (Z tP (.call 309 [.ptr 0 0,.int lv] (PS s T i 0 12))) x E.node:=by
 by_cases hb:t.bad=0
 case neg=>
  have:=qqK hb r (n+1) 8 lv x hx
  subst this
  exact⟨i,qAC h hb⟩
 have hnx:nx (t::r)=some t.s:=if_pos hb
 have hmem:t∈T:=YF (by rw[h]; exact WQ ..)
 have hk:=qci hb
 rw[qat,if_neg (by rintro (h|h); exact absurd h.1 (by decide); exact absurd h.1 (by decide)),if_neg (by decide),hnx] at hx
 simp only[Yy] at hx
 have good : ∀ {e:E},t.s≠⟨#[]⟩->x = .ok e r->Z tP (.call 309 [.ptr 0 0,.int lv] (PS s T i 0 12))=some (.ret e.node (PS s T ((i+1:Nat):Int) 0 12))->Out s T (Z tP (.call 309 [.ptr 0 0,.int lv] (PS s T i 0 12))) x E.node:=fun hne hx z=>by
  subst hx
  obtain⟨n1,n2⟩:=hw.next h hb hne
  exact⟨i+1,n1,n2,z⟩
 by_cases hd:qaD qau t.s=true
 ·rw[if_pos hd] at hx
  obtain⟨d1,d2⟩:=qp7 t.s hd
  have hv:=((hP t hmem).dig hb hd).2.1
  have hval:(valT t:Int)=digV t.s.toList:=by
   unfold valT
   rw[if_pos hd,ByteArray.toList_eq,byl]
   omega
  refine good d1 (WD hx).symm ?_
  rw[<- hval]
  exact qAD hT h hb (by rw[hk,qiu,if_neg d1,d2,if_neg (by decide),if_pos hd])
 rw[if_neg hd] at hx
 by_cases h1:t.s=bs [116,114,117,101]
 ·rw[if_pos h1] at hx
  refine good (by rw[h1]; decide) (WD hx).symm (qxP hT h hb ?_ h1)
  rw[hk,h1]; decide
 rw[if_neg h1] at hx
 by_cases h2:t.s=bs [102,97,108,115,101]
 ·rw[if_pos h2] at hx
  refine good (by rw[h2]; decide) (WD hx).symm (quK hT h hb ?_ h2)
  rw[hk,h2]; decide
 rw[if_neg h2] at hx
 by_cases h3:t.s=bs [115,101,108,102]\/t.s=bs [111,116,104,101,114]\/t.s=bs [116,105,99,107]
 ·rw[if_pos h3] at hx
  have hm:t.s∈qef:=by
   simp only[qef,Wu,Ww,or_false]
   exact h3
  have hall : ∀ w∈qef,qiu w=2/\w≠⟨#[]⟩:=by decide
  exact good (hall _ hm).2 (WD hx).symm (qxQ hT h hb (by rw[hk]; exact (hall _ hm).1) hm)
 rw[if_neg h3] at hx
 have n3:t.s∉qef:=fun hm=>h3 (by
  simp only[qef,Wu,Ww,or_false] at hm
  exact hm)
 by_cases hf:t.s∈fieldNames
 ·rw[if_pos hf] at hx
  have hall : ∀ w∈fieldNames,qiu w=3/\w≠⟨#[]⟩:=by decide
  have hk3:kindT t=3:=by rw[hk]; exact (hall _ hf).1
  cases hq:qck 12 2 true n lv r with
  |none=>rw[hq] at hx; cases hx
  |some y=>
   rw[hq] at hx
   have hi:=ihi lv i t r y hlv h hb (hall _ hf).2 hq
   cases y with
   |er a c=>
    simp only[Wb] at hx
    subst hx
    obtain⟨i',z⟩:=hi
    exact⟨i',qr1 h hb hk3 z⟩
   |ok e r'=>
    simp only[Wb] at hx
    subst hx
    obtain⟨i',a1,a2,z⟩:=hi
    exact⟨i',a1,a2,qAF h hb hk3 z⟩
 rw[if_neg hf] at hx
 by_cases hv:qaD qaZ t.s=true/\t.s∉wordNames
 ·rw[if_pos hv] at hx
  have hne:=qgw hv.1
  exact good hne (WD hx).symm (qAE hT h hb (by rw[hk,qiu,if_neg hne,if_pos hv.1,if_neg hf,if_neg hv.2]))
 rw[if_neg hv] at hx
 have hk5:kindT t=0\/kindT t=2\/kindT t=5:=by
  rw[hk,qiu]
  by_cases a1:t.s=⟨#[]⟩
  ·exact .inl (if_pos a1)
  ·rw[if_neg a1]
   by_cases a2:qaD qaZ t.s=true
   ·rw[if_pos a2,if_neg hf]
    by_cases a3:t.s∈wordNames
    ·rw[if_pos a3]; exact .inr (.inl rfl)
    ·exact absurd ⟨a2,a3⟩ hv
   ·rw[if_neg a2,if_neg hd]; exact .inr (.inr rfl)
 have d4:decide (kindT t=4)=false:=decide_eq_false (by omega)
 have d1:decide (kindT t=1)=false:=decide_eq_false (by omega)
 have d3:decide (kindT t=3)=false:=decide_eq_false (by omega)
 have ho:=qhY (s:=s) hw hT h (x:=bs [40]) (by decide) (lv:=lv+1)
 cases hq:qeh 12 2 (bs [40]) (lv+1) (t::r) with
 |er a c=>
  rw[hq] at hx ho
  simp only[Wb] at hx
  subst hx
  obtain⟨i',z⟩:=ho
  exact⟨i',qvT hlv h hb d4 d1 d3 h1 h2 n3 z⟩
 |ok u r2=>
  have hl1:=qkv hq
  rw[hq] at hx ho
  simp only at hx
  obtain⟨i',a1,a2,z⟩:=ho
  obtain⟨t2,r3,rfl⟩:=qa3 a2
  cases hq2:qat 12 2 true n 1 (lv+1) (t2::r3) with
  |none=>rw[hq2] at hx; cases hx
  |some y=>
   rw[hq2] at hx
   have h2':=ihe 1 (lv+1) i' t2 r3 y (by omega) (by omega) hl1 a1 hq2
   cases y with
   |er a c=>
    simp only[Wb] at hx
    subst hx
    obtain⟨i2,z2⟩:=h2'
    exact⟨i2,qvU hlv h hb d4 d1 d3 h1 h2 n3 z z2⟩
   |ok e r4=>
    simp only at hx
    obtain⟨i2,b1,b2,z2⟩:=h2'
    obtain⟨t3,r5,rfl⟩:=qa3 b2
    have hc:=qcB (s:=s) hw hT b1 (x:=bs [41]) (by decide)
    cases hq3:qaS 12 (bs [41]) (t3::r5) with
    |er a c=>
     rw[hq3] at hx hc
     simp only[Wb] at hx
     subst hx
     obtain⟨i3,z3⟩:=hc
     exact⟨i3,qvV hlv h hb d4 d1 d3 h1 h2 n3 z z2 z3⟩
    |ok u2 r6=>
     rw[hq3] at hx hc
     simp only[Wb] at hx
     subst hx
     obtain⟨i3,c1,c2,z3⟩:=hc
     exact⟨i3,c1,c2,qA7 hlv h hb d4 d1 d3 h1 h2 n3 z z2 z3⟩
theorem qp8(hw:WfQ T)(hT:T.length<2 ^ 40)(hP : ∀ t∈T,TokP t) : ∀ n,ExK s T n/\LoK s T n/\IdK s T n
 |0=>⟨fun p lv i t r x _ _ _ _ hx=>by simp[qat] at hx,fun p lv i t r e x _ _ _ hx=>by simp[qcP] at hx,fun lv i t r x _ _ _ _ hx=>by simp[qck] at hx⟩
 |n+1=>by
  obtain⟨ihe,ihl,ihi⟩:=qp8 hw hT hP n
  refine⟨fun p lv i t r x p1 p8 hlv h hx=>?_,qxl hw hT ihe ihl,qvj hw hT ihe⟩
  obtain rfl|rfl|rfl|rfl|rfl|rfl|rfl|rfl:p=1\/p=2\/p=3\/p=4\/p=5\/p=6\/p=7\/p=8:=by omega
  ·exact qoj ihe ihl (.inl rfl) hlv h hx
  ·exact qoj ihe ihl (.inr (.inl rfl)) hlv h hx
  ·exact qyq hw hT ihe (neg:=false) (.inl ⟨rfl,rfl⟩) hlv h hx
  ·exact qzs hw hT ihe hlv h hx
  ·exact qoj ihe ihl (.inr (.inr (.inl rfl))) hlv h hx
  ·exact qoj ihe ihl (.inr (.inr (.inr rfl))) hlv h hx
  ·exact qyq hw hT ihe (neg:=true) (.inr ⟨rfl,rfl⟩) hlv h hx
  ·exact qvk hw hT hP ihe ihi hlv h hx
end
end
section
open F
attribute [local simp] qbj qb4 dkey
def ifT:ByteArray:=⟨#[105,102]⟩
def qa7:ByteArray:=⟨#[119,104,105,108,101]⟩
def qaQ:ByteArray:=⟨#[101,102,102,101,99,116]⟩
def qfK:ByteArray:=⟨#[115,116,111,112]⟩
abbrev nv(k:Int)(x:ByteArray)(d:D):V := .dat (.agg [.lit (.int .i64 k),.lit (.int .i64 0),.lit (.string x),d])
abbrev cE(e:E):List D:=[.lit (.int .i64 e.kind),.lit (.int .i64 e.num),.lit (.string e.str),e.kids]
section
variable{s:ByteArray}{T:List Tk}{lv i i1 i2 i3 i4:Nat}{e e':E}{a c:Int}{t:Tk}{r:List Tk}{d:D}
theorem qAz{k:Int}{x:ByteArray}(o:V.one (.dat d)=true)(oc:V.cells (.dat d)=[.dat d])(z:Z tP (.call 253 [.ptr 0 0,.str ⟨#[59]⟩] (PS s T i 0 12))=some (.ret (.tup []) (PS s T i1 0 12))):Z tP (.call 278 [.ptr 0 0,nv k x d] (PS s T i 0 12))=some (.ret (nv k x d) (PS s T i1 0 12)):=by
 simp only[PS,pO] at z
 refine qab (pf:=F278) rfl rfl ?_
 simp[F278,z,o,oc,Wa]
theorem qxM{k:Int}{x:ByteArray}(o:V.one (.dat d)=true)(oc:V.cells (.dat d)=[.dat d])(z:Z tP (.call 253 [.ptr 0 0,.str ⟨#[59]⟩] (PS s T i 0 12))=some (.ret (qbq c) (PS s T i1 a c))):Z tP (.call 278 [.ptr 0 0,nv k x d] (PS s T i 0 12))=some (.ret (qbq c) (PS s T i1 a c)):=by
 simp only[PS,pO] at z
 refine qab (pf:=F278) rfl rfl ?_
 simp[F278,z,o,oc,qak,Wa]
theorem qkh (hlv:lv<=20) (hT:T.length<2 ^ 40) (h:T.drop i=t::r) (hb:t.bad=0) (hk:kindT t=1)
  (z1:Z tP (.call 253 [.ptr 0 0,.str ⟨#[61]⟩] (PS s T ((i+1:Nat):Int) 0 12))=some (.ret (qbq c) (PS s T i1 a c))):Z tP (.call 271 [.ptr 0 0,.int lv] (PS s T i 0 12))=some (.ret (qbq c) (PS s T i1 a c)):=by
 have w1:=qai ((lv:Int)+1) (by omega)
 have zp:=qax (s:=s) (a:=0) (c:=12) h hb
 have zt:=qaO (s:=s) (a:=0) (c:=12) h hb hT
 simp only[PS,pO,ptk,ptD,hk,qan hb] at zp zt
 simp only[PS,pO,cE,nv,Wi,Wc] at z1
 try simp only[Wt,Wn] at zt z1
 refine qab (pf:=F271) rfl rfl ?_
 simp[F271,zp,zt,w1,z1,qak,qaI,qbN,qaF,qbB,qb2,qbh,still,V.same,Wa]
theorem qki (hlv:lv<=20) (hT:T.length<2 ^ 40) (h:T.drop i=t::r) (hb:t.bad=0) (hk:kindT t=1)
  (z1:Z tP (.call 253 [.ptr 0 0,.str ⟨#[61]⟩] (PS s T ((i+1:Nat):Int) 0 12))=some (.ret (.tup []) (PS s T i1 0 12)))
  (z2:Z tP (.call 279 [.ptr 0 0,.int lv] (PS s T i1 0 12))=some (.ret (qbq c) (PS s T i2 a c))):Z tP (.call 271 [.ptr 0 0,.int lv] (PS s T i 0 12))=some (.ret (qbq c) (PS s T i2 a c)):=by
 have w1:=qai ((lv:Int)+1) (by omega)
 have zp:=qax (s:=s) (a:=0) (c:=12) h hb
 have zt:=qaO (s:=s) (a:=0) (c:=12) h hb hT
 simp only[PS,pO,ptk,ptD,hk,qan hb] at zp zt
 simp only[PS,pO,cE,nv,Wi,Wc] at z1 z2
 try simp only[Wt,Wn] at zt z1 z2
 refine qab (pf:=F271) rfl rfl ?_
 simp[F271,zp,zt,w1,z1,z2,qak,qaI,qbN,qaF,qbB,qb2,qbh,still,V.same,Wa]
theorem qkj (hlv:lv<=20) (hT:T.length<2 ^ 40) (h:T.drop i=t::r) (hb:t.bad=0) (hk:kindT t=1)
  (z1:Z tP (.call 253 [.ptr 0 0,.str ⟨#[61]⟩] (PS s T ((i+1:Nat):Int) 0 12))=some (.ret (.tup []) (PS s T i1 0 12)))
  (z2:Z tP (.call 279 [.ptr 0 0,.int lv] (PS s T i1 0 12))=some (.ret (e).node (PS s T i2 0 12)))
  (z3:Z tP (.call 278 [.ptr 0 0,nv 1 t.s (.sl (cE e) 1 true)] (PS s T i2 0 12))=some (.ret (qbq c) (PS s T i3 a c))):Z tP (.call 271 [.ptr 0 0,.int lv] (PS s T i 0 12))=some (.ret (qbq c) (PS s T i3 a c)):=by
 have w1:=qai ((lv:Int)+1) (by omega)
 have zp:=qax (s:=s) (a:=0) (c:=12) h hb
 have zt:=qaO (s:=s) (a:=0) (c:=12) h hb hT
 simp only[PS,pO,ptk,ptD,hk,qan hb] at zp zt
 simp only[PS,pO,cE,nv,Wi,Wc] at z1 z2 z3
 try simp only[Wt,Wn] at zt z1 z2 z3
 refine qab (pf:=F271) rfl rfl ?_
 simp[F271,zp,zt,w1,z1,z2,z3,qak,qaI,qbN,qaF,qbB,qb2,qbh,still,V.same,Wa]
theorem qmr (hlv:lv<=20) (hT:T.length<2 ^ 40) (h:T.drop i=t::r) (hb:t.bad=0) (hk:kindT t=1)
  (z1:Z tP (.call 253 [.ptr 0 0,.str ⟨#[61]⟩] (PS s T ((i+1:Nat):Int) 0 12))=some (.ret (.tup []) (PS s T i1 0 12)))
  (z2:Z tP (.call 279 [.ptr 0 0,.int lv] (PS s T i1 0 12))=some (.ret (e).node (PS s T i2 0 12)))
  (z3:Z tP (.call 278 [.ptr 0 0,nv 1 t.s (.sl (cE e) 1 true)] (PS s T i2 0 12))=some (.ret (nv 1 t.s (.sl (cE e) 1 true)) (PS s T i3 0 12))):Z tP (.call 271 [.ptr 0 0,.int lv] (PS s T i 0 12))=some (.ret (nv 1 t.s (.sl (cE e) 1 true)) (PS s T i3 0 12)):=by
 have w1:=qai ((lv:Int)+1) (by omega)
 have zp:=qax (s:=s) (a:=0) (c:=12) h hb
 have zt:=qaO (s:=s) (a:=0) (c:=12) h hb hT
 simp only[PS,pO,ptk,ptD,hk,qan hb] at zp zt
 simp only[PS,pO,cE,nv,Wi,Wc] at z1 z2 z3
 try simp only[Wt,Wn] at zt z1 z2 z3
 refine qab (pf:=F271) rfl rfl ?_
 simp[F271,zp,zt,w1,z1,z2,z3,qak,qaI,qbN,qaF,qbB,qb2,qbh,still,V.same,Wa]
theorem qlf (hlv:lv<=20) (hT:T.length<2 ^ 40) (h:T.drop i=t::r) (hb:t.bad=0) (hk:kindT t=3)
  (z1:Z tP (.call 280 [.ptr 0 0,.int lv] (PS s T i 0 12))=some (.ret (qbq c) (PS s T i1 a c))):Z tP (.call 271 [.ptr 0 0,.int lv] (PS s T i 0 12))=some (.ret (qbq c) (PS s T i1 a c)):=by
 have w1:=qai ((lv:Int)+1) (by omega)
 have zp:=qax (s:=s) (a:=0) (c:=12) h hb
 have zt:=qaO (s:=s) (a:=0) (c:=12) h hb hT
 simp only[PS,pO,ptk,ptD,hk,qan hb] at zp zt
 simp only[PS,pO,cE,nv,Wi,Wc] at z1
 try simp only[Wt,Wn] at zt z1
 refine qab (pf:=F271) rfl rfl ?_
 simp[F271,zp,zt,w1,z1,qak,qaI,qbN,qaF,qbB,qb2,qbh,still,V.same,Wa]
theorem qlg (hlv:lv<=20) (hT:T.length<2 ^ 40) (h:T.drop i=t::r) (hb:t.bad=0) (hk:kindT t=3)
  (z1:Z tP (.call 280 [.ptr 0 0,.int lv] (PS s T i 0 12))=some (.ret e.node (PS s T i1 0 12)))
  (z2:Z tP (.call 253 [.ptr 0 0,.str ⟨#[61]⟩] (PS s T i1 0 12))=some (.ret (qbq c) (PS s T i2 a c))):Z tP (.call 271 [.ptr 0 0,.int lv] (PS s T i 0 12))=some (.ret (qbq c) (PS s T i2 a c)):=by
 have w1:=qai ((lv:Int)+1) (by omega)
 have zp:=qax (s:=s) (a:=0) (c:=12) h hb
 have zt:=qaO (s:=s) (a:=0) (c:=12) h hb hT
 simp only[PS,pO,ptk,ptD,hk,qan hb] at zp zt
 simp only[PS,pO,cE,nv,Wi,Wc] at z1 z2
 try simp only[Wt,Wn] at zt z1 z2
 refine qab (pf:=F271) rfl rfl ?_
 simp[F271,zp,zt,w1,z1,z2,qak,qaI,qbN,qaF,qbB,qb2,qbh,still,V.same,Wa]
theorem qlh (hlv:lv<=20) (hT:T.length<2 ^ 40) (h:T.drop i=t::r) (hb:t.bad=0) (hk:kindT t=3)
  (z1:Z tP (.call 280 [.ptr 0 0,.int lv] (PS s T i 0 12))=some (.ret e.node (PS s T i1 0 12)))
  (z2:Z tP (.call 253 [.ptr 0 0,.str ⟨#[61]⟩] (PS s T i1 0 12))=some (.ret (.tup []) (PS s T i2 0 12)))
  (z3:Z tP (.call 279 [.ptr 0 0,.int lv] (PS s T i2 0 12))=some (.ret (qbq c) (PS s T i3 a c))):Z tP (.call 271 [.ptr 0 0,.int lv] (PS s T i 0 12))=some (.ret (qbq c) (PS s T i3 a c)):=by
 have w1:=qai ((lv:Int)+1) (by omega)
 have zp:=qax (s:=s) (a:=0) (c:=12) h hb
 have zt:=qaO (s:=s) (a:=0) (c:=12) h hb hT
 simp only[PS,pO,ptk,ptD,hk,qan hb] at zp zt
 simp only[PS,pO,cE,nv,Wi,Wc] at z1 z2 z3
 try simp only[Wt,Wn] at zt z1 z2 z3
 refine qab (pf:=F271) rfl rfl ?_
 simp[F271,zp,zt,w1,z1,z2,z3,qak,qaI,qbN,qaF,qbB,qb2,qbh,still,V.same,Wa]
theorem qli (hlv:lv<=20) (hT:T.length<2 ^ 40) (h:T.drop i=t::r) (hb:t.bad=0) (hk:kindT t=3)
  (z1:Z tP (.call 280 [.ptr 0 0,.int lv] (PS s T i 0 12))=some (.ret e.node (PS s T i1 0 12)))
  (z2:Z tP (.call 253 [.ptr 0 0,.str ⟨#[61]⟩] (PS s T i1 0 12))=some (.ret (.tup []) (PS s T i2 0 12)))
  (z3:Z tP (.call 279 [.ptr 0 0,.int lv] (PS s T i2 0 12))=some (.ret (e').node (PS s T i3 0 12)))
  (z4:Z tP (.call 278 [.ptr 0 0,nv 2 t.s (.sl (cE e++cE e') 2 true)] (PS s T i3 0 12))=some (.ret (qbq c) (PS s T i4 a c))):Z tP (.call 271 [.ptr 0 0,.int lv] (PS s T i 0 12))=some (.ret (qbq c) (PS s T i4 a c)):=by
 have w1:=qai ((lv:Int)+1) (by omega)
 have zp:=qax (s:=s) (a:=0) (c:=12) h hb
 have zt:=qaO (s:=s) (a:=0) (c:=12) h hb hT
 simp only[PS,pO,ptk,ptD,hk,qan hb] at zp zt
 simp only[PS,pO,cE,nv,Wi,Wc] at z1 z2 z3 z4
 try simp only[Wt,Wn] at zt z1 z2 z3 z4
 refine qab (pf:=F271) rfl rfl ?_
 simp[F271,zp,zt,w1,z1,z2,z3,z4,qak,qaI,qbN,qaF,qbB,qb2,qbh,still,V.same,Wa]
theorem qow (hlv:lv<=20) (hT:T.length<2 ^ 40) (h:T.drop i=t::r) (hb:t.bad=0) (hk:kindT t=3)
  (z1:Z tP (.call 280 [.ptr 0 0,.int lv] (PS s T i 0 12))=some (.ret e.node (PS s T i1 0 12)))
  (z2:Z tP (.call 253 [.ptr 0 0,.str ⟨#[61]⟩] (PS s T i1 0 12))=some (.ret (.tup []) (PS s T i2 0 12)))
  (z3:Z tP (.call 279 [.ptr 0 0,.int lv] (PS s T i2 0 12))=some (.ret (e').node (PS s T i3 0 12)))
  (z4:Z tP (.call 278 [.ptr 0 0,nv 2 t.s (.sl (cE e++cE e') 2 true)] (PS s T i3 0 12))=some (.ret (nv 2 t.s (.sl (cE e++cE e') 2 true)) (PS s T i4 0 12))):Z tP (.call 271 [.ptr 0 0,.int lv] (PS s T i 0 12))=some (.ret (nv 2 t.s (.sl (cE e++cE e') 2 true)) (PS s T i4 0 12)):=by
 have w1:=qai ((lv:Int)+1) (by omega)
 have zp:=qax (s:=s) (a:=0) (c:=12) h hb
 have zt:=qaO (s:=s) (a:=0) (c:=12) h hb hT
 simp only[PS,pO,ptk,ptD,hk,qan hb] at zp zt
 simp only[PS,pO,cE,nv,Wi,Wc] at z1 z2 z3 z4
 try simp only[Wt,Wn] at zt z1 z2 z3 z4
 refine qab (pf:=F271) rfl rfl ?_
 simp[F271,zp,zt,w1,z1,z2,z3,z4,qak,qaI,qbN,qaF,qbB,qb2,qbh,still,V.same,Wa]
theorem qpI (hlv:lv<=20) (hT:T.length<2 ^ 40) (h:T.drop i=t::r) (hb:t.bad=0) (h1:decide (kindT t=1)=false) (h3:decide (kindT t=3)=false) (hm:t.s=ifT) (od:V.one (.dat d)=true) (oc:V.cells (.dat d)=[.dat d])
  (z1:Z tP (.call 281 [.ptr 0 0,.int lv] (PS s T i 0 12))=some (.ret (qbq c) (PS s T i1 a c))):Z tP (.call 271 [.ptr 0 0,.int lv] (PS s T i 0 12))=some (.ret (qbq c) (PS s T i1 a c)):=by
 have w1:=qai ((lv:Int)+1) (by omega)
 have zp:=qax (s:=s) (a:=0) (c:=12) h hb
 have zt:=qaO (s:=s) (a:=0) (c:=12) h hb hT
 simp only[PS,pO,ptk,ptD,qan hb] at zp zt
 have y0:=qaP (s:=s) (a:=0) (c:=12) h hb (qal [ifT] true) (by simp) (by decide)
 simp only[hm,Wg,decide_true] at y0
 simp only[PS,pO,ifT,qaV,Wl,Wq,Wh] at y0
 simp only[PS,pO,cE,nv,Wi,Wc] at z1
 try simp only[Wt,Wn] at zt z1
 refine qab (pf:=F271) rfl rfl ?_
 simp[F271,zp,zt,w1,h1,h3,y0,od,oc,z1,qak,qaI,qbN,qaF,qbB,qb2,qbh,still,V.same,Wa]
theorem quI (hlv:lv<=20) (hT:T.length<2 ^ 40) (h:T.drop i=t::r) (hb:t.bad=0) (h1:decide (kindT t=1)=false) (h3:decide (kindT t=3)=false) (hm:t.s=ifT) (od:V.one (.dat d)=true) (oc:V.cells (.dat d)=[.dat d])
  (z1:Z tP (.call 281 [.ptr 0 0,.int lv] (PS s T i 0 12))=some (.ret (nv 3 ⟨#[]⟩ d) (PS s T i1 0 12))):Z tP (.call 271 [.ptr 0 0,.int lv] (PS s T i 0 12))=some (.ret (nv 3 ⟨#[]⟩ d) (PS s T i1 0 12)):=by
 have w1:=qai ((lv:Int)+1) (by omega)
 have zp:=qax (s:=s) (a:=0) (c:=12) h hb
 have zt:=qaO (s:=s) (a:=0) (c:=12) h hb hT
 simp only[PS,pO,ptk,ptD,qan hb] at zp zt
 have y0:=qaP (s:=s) (a:=0) (c:=12) h hb (qal [ifT] true) (by simp) (by decide)
 simp only[hm,Wg,decide_true] at y0
 simp only[PS,pO,ifT,qaV,Wl,Wq,Wh] at y0
 simp only[PS,pO,cE,nv,Wi,Wc] at z1
 try simp only[Wt,Wn] at zt z1
 refine qab (pf:=F271) rfl rfl ?_
 simp[F271,zp,zt,w1,h1,h3,y0,od,oc,z1,qak,qaI,qbN,qaF,qbB,qb2,qbh,still,V.same,Wa]
theorem qlj (hlv:lv<=20) (hT:T.length<2 ^ 40) (h:T.drop i=t::r) (hb:t.bad=0) (h1:decide (kindT t=1)=false) (h3:decide (kindT t=3)=false) (hm:t.s=qa7) (od:V.one (.dat d)=true) (oc:V.cells (.dat d)=[.dat d])
  (z1:Z tP (.call 279 [.ptr 0 0,.int lv] (PS s T ((i+1:Nat):Int) 0 12))=some (.ret (qbq c) (PS s T i1 a c))):Z tP (.call 271 [.ptr 0 0,.int lv] (PS s T i 0 12))=some (.ret (qbq c) (PS s T i1 a c)):=by
 have w1:=qai ((lv:Int)+1) (by omega)
 have zp:=qax (s:=s) (a:=0) (c:=12) h hb
 have zt:=qaO (s:=s) (a:=0) (c:=12) h hb hT
 simp only[PS,pO,ptk,ptD,qan hb] at zp zt
 have y0:=qaP (s:=s) (a:=0) (c:=12) h hb (qal [ifT] true) (by simp) (by decide)
 have q0:qa7≠ifT:=by decide
 simp only[hm,Wg,q0,decide_false] at y0
 simp only[PS,pO,ifT,qaV,Wl,Wq,Wh] at y0
 have y1:=qaP (s:=s) (a:=0) (c:=12) h hb (qal [qa7] true) (by simp) (by decide)
 simp only[hm,Wg,decide_true] at y1
 simp only[PS,pO,qa7,qaV,Wl,Wq,Wh] at y1
 simp only[PS,pO,cE,nv,Wi,Wc] at z1
 try simp only[Wt,Wn] at zt z1
 refine qab (pf:=F271) rfl rfl ?_
 simp[F271,zp,zt,w1,h1,h3,y0,y1,od,oc,z1,qak,qaI,qbN,qaF,qbB,qb2,qbh,still,V.same,Wa]
theorem qlk (hlv:lv<=20) (hT:T.length<2 ^ 40) (h:T.drop i=t::r) (hb:t.bad=0) (h1:decide (kindT t=1)=false) (h3:decide (kindT t=3)=false) (hm:t.s=qa7) (od:V.one (.dat d)=true) (oc:V.cells (.dat d)=[.dat d])
  (z1:Z tP (.call 279 [.ptr 0 0,.int lv] (PS s T ((i+1:Nat):Int) 0 12))=some (.ret (e).node (PS s T i1 0 12)))
  (z2:Z tP (.call 256 [.ptr 0 0,.int ((lv+1:Nat):Int)] (PS s T i1 0 12))=some (.ret (qbq c) (PS s T i2 a c))):Z tP (.call 271 [.ptr 0 0,.int lv] (PS s T i 0 12))=some (.ret (qbq c) (PS s T i2 a c)):=by
 have w1:=qai ((lv:Int)+1) (by omega)
 have zp:=qax (s:=s) (a:=0) (c:=12) h hb
 have zt:=qaO (s:=s) (a:=0) (c:=12) h hb hT
 simp only[PS,pO,ptk,ptD,qan hb] at zp zt
 have y0:=qaP (s:=s) (a:=0) (c:=12) h hb (qal [ifT] true) (by simp) (by decide)
 have q0:qa7≠ifT:=by decide
 simp only[hm,Wg,q0,decide_false] at y0
 simp only[PS,pO,ifT,qaV,Wl,Wq,Wh] at y0
 have y1:=qaP (s:=s) (a:=0) (c:=12) h hb (qal [qa7] true) (by simp) (by decide)
 simp only[hm,Wg,decide_true] at y1
 simp only[PS,pO,qa7,qaV,Wl,Wq,Wh] at y1
 simp only[PS,pO,cE,nv,Wi,Wc] at z1 z2
 try simp only[Wt,Wn] at zt z1 z2
 refine qab (pf:=F271) rfl rfl ?_
 simp[F271,zp,zt,w1,h1,h3,y0,y1,od,oc,z1,z2,qak,qaI,qbN,qaF,qbB,qb2,qbh,still,V.same,Wa]
theorem qox (hlv:lv<=20) (hT:T.length<2 ^ 40) (h:T.drop i=t::r) (hb:t.bad=0) (h1:decide (kindT t=1)=false) (h3:decide (kindT t=3)=false) (hm:t.s=qa7) (od:V.one (.dat d)=true) (oc:V.cells (.dat d)=[.dat d])
  (z1:Z tP (.call 279 [.ptr 0 0,.int lv] (PS s T ((i+1:Nat):Int) 0 12))=some (.ret (e).node (PS s T i1 0 12)))
  (z2:Z tP (.call 256 [.ptr 0 0,.int ((lv+1:Nat):Int)] (PS s T i1 0 12))=some (.ret (nv 7 ⟨#[]⟩ d) (PS s T i2 0 12))):Z tP (.call 271 [.ptr 0 0,.int lv] (PS s T i 0 12))=some (.ret (nv 4 ⟨#[]⟩ (.sl (cE e++[.lit (.int .i64 7),.lit (.int .i64 0),.lit (.string ⟨#[]⟩),d]) 2 true)) (PS s T i2 0 12)):=by
 have w1:=qai ((lv:Int)+1) (by omega)
 have zp:=qax (s:=s) (a:=0) (c:=12) h hb
 have zt:=qaO (s:=s) (a:=0) (c:=12) h hb hT
 simp only[PS,pO,ptk,ptD,qan hb] at zp zt
 have y0:=qaP (s:=s) (a:=0) (c:=12) h hb (qal [ifT] true) (by simp) (by decide)
 have q0:qa7≠ifT:=by decide
 simp only[hm,Wg,q0,decide_false] at y0
 simp only[PS,pO,ifT,qaV,Wl,Wq,Wh] at y0
 have y1:=qaP (s:=s) (a:=0) (c:=12) h hb (qal [qa7] true) (by simp) (by decide)
 simp only[hm,Wg,decide_true] at y1
 simp only[PS,pO,qa7,qaV,Wl,Wq,Wh] at y1
 simp only[PS,pO,cE,nv,Wi,Wc] at z1 z2
 try simp only[Wt,Wn] at zt z1 z2
 refine qab (pf:=F271) rfl rfl ?_
 simp[F271,zp,zt,w1,h1,h3,y0,y1,od,oc,z1,z2,qak,qaI,qbN,qaF,qbB,qb2,qbh,still,V.same,Wa]
theorem qkk (hlv:lv<=20) (hT:T.length<2 ^ 40) (h:T.drop i=t::r) (hb:t.bad=0) (h1:decide (kindT t=1)=false) (h3:decide (kindT t=3)=false) (hm:t.s=qaQ)
  (z1:Z tP (.call 279 [.ptr 0 0,.int lv] (PS s T ((i+1:Nat):Int) 0 12))=some (.ret (qbq c) (PS s T i1 a c))):Z tP (.call 271 [.ptr 0 0,.int lv] (PS s T i 0 12))=some (.ret (qbq c) (PS s T i1 a c)):=by
 have w1:=qai ((lv:Int)+1) (by omega)
 have zp:=qax (s:=s) (a:=0) (c:=12) h hb
 have zt:=qaO (s:=s) (a:=0) (c:=12) h hb hT
 simp only[PS,pO,ptk,ptD,qan hb] at zp zt
 have y0:=qaP (s:=s) (a:=0) (c:=12) h hb (qal [ifT] true) (by simp) (by decide)
 have q0:qaQ≠ifT:=by decide
 simp only[hm,Wg,q0,decide_false] at y0
 simp only[PS,pO,ifT,qaV,Wl,Wq,Wh] at y0
 have y1:=qaP (s:=s) (a:=0) (c:=12) h hb (qal [qa7] true) (by simp) (by decide)
 have q1:qaQ≠qa7:=by decide
 simp only[hm,Wg,q1,decide_false] at y1
 simp only[PS,pO,qa7,qaV,Wl,Wq,Wh] at y1
 have y2:=qaP (s:=s) (a:=0) (c:=12) h hb (qal [qaQ] true) (by simp) (by decide)
 simp only[hm,Wg,decide_true] at y2
 simp only[PS,pO,qaQ,qaV,Wl,Wq,Wh] at y2
 simp only[PS,pO,cE,nv,Wi,Wc] at z1
 try simp only[Wt,Wn] at zt z1
 refine qab (pf:=F271) rfl rfl ?_
 simp[F271,zp,zt,w1,h1,h3,y0,y1,y2,z1,qak,qaI,qbN,qaF,qbB,qb2,qbh,still,V.same,Wa]
theorem qkl (hlv:lv<=20) (hT:T.length<2 ^ 40) (h:T.drop i=t::r) (hb:t.bad=0) (h1:decide (kindT t=1)=false) (h3:decide (kindT t=3)=false) (hm:t.s=qaQ)
  (z1:Z tP (.call 279 [.ptr 0 0,.int lv] (PS s T ((i+1:Nat):Int) 0 12))=some (.ret (e).node (PS s T i1 0 12)))
  (z2:Z tP (.call 253 [.ptr 0 0,.str ⟨#[44]⟩] (PS s T i1 0 12))=some (.ret (qbq c) (PS s T i2 a c))):Z tP (.call 271 [.ptr 0 0,.int lv] (PS s T i 0 12))=some (.ret (qbq c) (PS s T i2 a c)):=by
 have w1:=qai ((lv:Int)+1) (by omega)
 have zp:=qax (s:=s) (a:=0) (c:=12) h hb
 have zt:=qaO (s:=s) (a:=0) (c:=12) h hb hT
 simp only[PS,pO,ptk,ptD,qan hb] at zp zt
 have y0:=qaP (s:=s) (a:=0) (c:=12) h hb (qal [ifT] true) (by simp) (by decide)
 have q0:qaQ≠ifT:=by decide
 simp only[hm,Wg,q0,decide_false] at y0
 simp only[PS,pO,ifT,qaV,Wl,Wq,Wh] at y0
 have y1:=qaP (s:=s) (a:=0) (c:=12) h hb (qal [qa7] true) (by simp) (by decide)
 have q1:qaQ≠qa7:=by decide
 simp only[hm,Wg,q1,decide_false] at y1
 simp only[PS,pO,qa7,qaV,Wl,Wq,Wh] at y1
 have y2:=qaP (s:=s) (a:=0) (c:=12) h hb (qal [qaQ] true) (by simp) (by decide)
 simp only[hm,Wg,decide_true] at y2
 simp only[PS,pO,qaQ,qaV,Wl,Wq,Wh] at y2
 simp only[PS,pO,cE,nv,Wi,Wc] at z1 z2
 try simp only[Wt,Wn] at zt z1 z2
 refine qab (pf:=F271) rfl rfl ?_
 simp[F271,zp,zt,w1,h1,h3,y0,y1,y2,z1,z2,qak,qaI,qbN,qaF,qbB,qb2,qbh,still,V.same,Wa]
theorem qkm (hlv:lv<=20) (hT:T.length<2 ^ 40) (h:T.drop i=t::r) (hb:t.bad=0) (h1:decide (kindT t=1)=false) (h3:decide (kindT t=3)=false) (hm:t.s=qaQ)
  (z1:Z tP (.call 279 [.ptr 0 0,.int lv] (PS s T ((i+1:Nat):Int) 0 12))=some (.ret (e).node (PS s T i1 0 12)))
  (z2:Z tP (.call 253 [.ptr 0 0,.str ⟨#[44]⟩] (PS s T i1 0 12))=some (.ret (.tup []) (PS s T i2 0 12)))
  (z3:Z tP (.call 279 [.ptr 0 0,.int lv] (PS s T i2 0 12))=some (.ret (qbq c) (PS s T i3 a c))):Z tP (.call 271 [.ptr 0 0,.int lv] (PS s T i 0 12))=some (.ret (qbq c) (PS s T i3 a c)):=by
 have w1:=qai ((lv:Int)+1) (by omega)
 have zp:=qax (s:=s) (a:=0) (c:=12) h hb
 have zt:=qaO (s:=s) (a:=0) (c:=12) h hb hT
 simp only[PS,pO,ptk,ptD,qan hb] at zp zt
 have y0:=qaP (s:=s) (a:=0) (c:=12) h hb (qal [ifT] true) (by simp) (by decide)
 have q0:qaQ≠ifT:=by decide
 simp only[hm,Wg,q0,decide_false] at y0
 simp only[PS,pO,ifT,qaV,Wl,Wq,Wh] at y0
 have y1:=qaP (s:=s) (a:=0) (c:=12) h hb (qal [qa7] true) (by simp) (by decide)
 have q1:qaQ≠qa7:=by decide
 simp only[hm,Wg,q1,decide_false] at y1
 simp only[PS,pO,qa7,qaV,Wl,Wq,Wh] at y1
 have y2:=qaP (s:=s) (a:=0) (c:=12) h hb (qal [qaQ] true) (by simp) (by decide)
 simp only[hm,Wg,decide_true] at y2
 simp only[PS,pO,qaQ,qaV,Wl,Wq,Wh] at y2
 simp only[PS,pO,cE,nv,Wi,Wc] at z1 z2 z3
 try simp only[Wt,Wn] at zt z1 z2 z3
 refine qab (pf:=F271) rfl rfl ?_
 simp[F271,zp,zt,w1,h1,h3,y0,y1,y2,z1,z2,z3,qak,qaI,qbN,qaF,qbB,qb2,qbh,still,V.same,Wa]
theorem qkn (hlv:lv<=20) (hT:T.length<2 ^ 40) (h:T.drop i=t::r) (hb:t.bad=0) (h1:decide (kindT t=1)=false) (h3:decide (kindT t=3)=false) (hm:t.s=qaQ)
  (z1:Z tP (.call 279 [.ptr 0 0,.int lv] (PS s T ((i+1:Nat):Int) 0 12))=some (.ret (e).node (PS s T i1 0 12)))
  (z2:Z tP (.call 253 [.ptr 0 0,.str ⟨#[44]⟩] (PS s T i1 0 12))=some (.ret (.tup []) (PS s T i2 0 12)))
  (z3:Z tP (.call 279 [.ptr 0 0,.int lv] (PS s T i2 0 12))=some (.ret (e').node (PS s T i3 0 12)))
  (z4:Z tP (.call 278 [.ptr 0 0,nv 5 ⟨#[]⟩ (.sl (cE e++cE e') 2 true)] (PS s T i3 0 12))=some (.ret (qbq c) (PS s T i4 a c))):Z tP (.call 271 [.ptr 0 0,.int lv] (PS s T i 0 12))=some (.ret (qbq c) (PS s T i4 a c)):=by
 have w1:=qai ((lv:Int)+1) (by omega)
 have zp:=qax (s:=s) (a:=0) (c:=12) h hb
 have zt:=qaO (s:=s) (a:=0) (c:=12) h hb hT
 simp only[PS,pO,ptk,ptD,qan hb] at zp zt
 have y0:=qaP (s:=s) (a:=0) (c:=12) h hb (qal [ifT] true) (by simp) (by decide)
 have q0:qaQ≠ifT:=by decide
 simp only[hm,Wg,q0,decide_false] at y0
 simp only[PS,pO,ifT,qaV,Wl,Wq,Wh] at y0
 have y1:=qaP (s:=s) (a:=0) (c:=12) h hb (qal [qa7] true) (by simp) (by decide)
 have q1:qaQ≠qa7:=by decide
 simp only[hm,Wg,q1,decide_false] at y1
 simp only[PS,pO,qa7,qaV,Wl,Wq,Wh] at y1
 have y2:=qaP (s:=s) (a:=0) (c:=12) h hb (qal [qaQ] true) (by simp) (by decide)
 simp only[hm,Wg,decide_true] at y2
 simp only[PS,pO,qaQ,qaV,Wl,Wq,Wh] at y2
 simp only[PS,pO,cE,nv,Wi,Wc] at z1 z2 z3 z4
 try simp only[Wt,Wn] at zt z1 z2 z3 z4
 refine qab (pf:=F271) rfl rfl ?_
 simp[F271,zp,zt,w1,h1,h3,y0,y1,y2,z1,z2,z3,z4,qak,qaI,qbN,qaF,qbB,qb2,qbh,still,V.same,Wa]
theorem qms (hlv:lv<=20) (hT:T.length<2 ^ 40) (h:T.drop i=t::r) (hb:t.bad=0) (h1:decide (kindT t=1)=false) (h3:decide (kindT t=3)=false) (hm:t.s=qaQ)
  (z1:Z tP (.call 279 [.ptr 0 0,.int lv] (PS s T ((i+1:Nat):Int) 0 12))=some (.ret (e).node (PS s T i1 0 12)))
  (z2:Z tP (.call 253 [.ptr 0 0,.str ⟨#[44]⟩] (PS s T i1 0 12))=some (.ret (.tup []) (PS s T i2 0 12)))
  (z3:Z tP (.call 279 [.ptr 0 0,.int lv] (PS s T i2 0 12))=some (.ret (e').node (PS s T i3 0 12)))
  (z4:Z tP (.call 278 [.ptr 0 0,nv 5 ⟨#[]⟩ (.sl (cE e++cE e') 2 true)] (PS s T i3 0 12))=some (.ret (nv 5 ⟨#[]⟩ (.sl (cE e++cE e') 2 true)) (PS s T i4 0 12))):Z tP (.call 271 [.ptr 0 0,.int lv] (PS s T i 0 12))=some (.ret (nv 5 ⟨#[]⟩ (.sl (cE e++cE e') 2 true)) (PS s T i4 0 12)):=by
 have w1:=qai ((lv:Int)+1) (by omega)
 have zp:=qax (s:=s) (a:=0) (c:=12) h hb
 have zt:=qaO (s:=s) (a:=0) (c:=12) h hb hT
 simp only[PS,pO,ptk,ptD,qan hb] at zp zt
 have y0:=qaP (s:=s) (a:=0) (c:=12) h hb (qal [ifT] true) (by simp) (by decide)
 have q0:qaQ≠ifT:=by decide
 simp only[hm,Wg,q0,decide_false] at y0
 simp only[PS,pO,ifT,qaV,Wl,Wq,Wh] at y0
 have y1:=qaP (s:=s) (a:=0) (c:=12) h hb (qal [qa7] true) (by simp) (by decide)
 have q1:qaQ≠qa7:=by decide
 simp only[hm,Wg,q1,decide_false] at y1
 simp only[PS,pO,qa7,qaV,Wl,Wq,Wh] at y1
 have y2:=qaP (s:=s) (a:=0) (c:=12) h hb (qal [qaQ] true) (by simp) (by decide)
 simp only[hm,Wg,decide_true] at y2
 simp only[PS,pO,qaQ,qaV,Wl,Wq,Wh] at y2
 simp only[PS,pO,cE,nv,Wi,Wc] at z1 z2 z3 z4
 try simp only[Wt,Wn] at zt z1 z2 z3 z4
 refine qab (pf:=F271) rfl rfl ?_
 simp[F271,zp,zt,w1,h1,h3,y0,y1,y2,z1,z2,z3,z4,qak,qaI,qbN,qaF,qbB,qb2,qbh,still,V.same,Wa]
theorem qmt (hlv:lv<=20) (hT:T.length<2 ^ 40) (h:T.drop i=t::r) (hb:t.bad=0) (h1:decide (kindT t=1)=false) (h3:decide (kindT t=3)=false) (hm:t.s=qfK)
  (z1:Z tP (.call 278 [.ptr 0 0,nv 6 ⟨#[]⟩ (.lit (.slice none 0 0))] (PS s T ((i+1:Nat):Int) 0 12))=some (.ret (qbq c) (PS s T i1 a c))):Z tP (.call 271 [.ptr 0 0,.int lv] (PS s T i 0 12))=some (.ret (qbq c) (PS s T i1 a c)):=by
 have w1:=qai ((lv:Int)+1) (by omega)
 have zp:=qax (s:=s) (a:=0) (c:=12) h hb
 have zt:=qaO (s:=s) (a:=0) (c:=12) h hb hT
 simp only[PS,pO,ptk,ptD,qan hb] at zp zt
 have y0:=qaP (s:=s) (a:=0) (c:=12) h hb (qal [ifT] true) (by simp) (by decide)
 have q0:qfK≠ifT:=by decide
 simp only[hm,Wg,q0,decide_false] at y0
 simp only[PS,pO,ifT,qaV,Wl,Wq,Wh] at y0
 have y1:=qaP (s:=s) (a:=0) (c:=12) h hb (qal [qa7] true) (by simp) (by decide)
 have q1:qfK≠qa7:=by decide
 simp only[hm,Wg,q1,decide_false] at y1
 simp only[PS,pO,qa7,qaV,Wl,Wq,Wh] at y1
 have y2:=qaP (s:=s) (a:=0) (c:=12) h hb (qal [qaQ] true) (by simp) (by decide)
 have q2:qfK≠qaQ:=by decide
 simp only[hm,Wg,q2,decide_false] at y2
 simp only[PS,pO,qaQ,qaV,Wl,Wq,Wh] at y2
 have y3:=qaP (s:=s) (a:=0) (c:=12) h hb (qal [qfK] true) (by simp) (by decide)
 simp only[hm,Wg,decide_true] at y3
 simp only[PS,pO,qfK,qaV,Wl,Wq,Wh] at y3
 simp only[PS,pO,cE,nv,Wi,Wc] at z1
 try simp only[Wt,Wn] at zt z1
 refine qab (pf:=F271) rfl rfl ?_
 simp[F271,zp,zt,w1,h1,h3,y0,y1,y2,y3,z1,qak,qaI,qbN,qaF,qbB,qb2,qbh,still,V.same,Wa]
theorem qpJ (hlv:lv<=20) (hT:T.length<2 ^ 40) (h:T.drop i=t::r) (hb:t.bad=0) (h1:decide (kindT t=1)=false) (h3:decide (kindT t=3)=false) (hm:t.s=qfK)
  (z1:Z tP (.call 278 [.ptr 0 0,nv 6 ⟨#[]⟩ (.lit (.slice none 0 0))] (PS s T ((i+1:Nat):Int) 0 12))=some (.ret (nv 6 ⟨#[]⟩ (.lit (.slice none 0 0))) (PS s T i1 0 12))):Z tP (.call 271 [.ptr 0 0,.int lv] (PS s T i 0 12))=some (.ret (nv 6 ⟨#[]⟩ (.lit (.slice none 0 0))) (PS s T i1 0 12)):=by
 have w1:=qai ((lv:Int)+1) (by omega)
 have zp:=qax (s:=s) (a:=0) (c:=12) h hb
 have zt:=qaO (s:=s) (a:=0) (c:=12) h hb hT
 simp only[PS,pO,ptk,ptD,qan hb] at zp zt
 have y0:=qaP (s:=s) (a:=0) (c:=12) h hb (qal [ifT] true) (by simp) (by decide)
 have q0:qfK≠ifT:=by decide
 simp only[hm,Wg,q0,decide_false] at y0
 simp only[PS,pO,ifT,qaV,Wl,Wq,Wh] at y0
 have y1:=qaP (s:=s) (a:=0) (c:=12) h hb (qal [qa7] true) (by simp) (by decide)
 have q1:qfK≠qa7:=by decide
 simp only[hm,Wg,q1,decide_false] at y1
 simp only[PS,pO,qa7,qaV,Wl,Wq,Wh] at y1
 have y2:=qaP (s:=s) (a:=0) (c:=12) h hb (qal [qaQ] true) (by simp) (by decide)
 have q2:qfK≠qaQ:=by decide
 simp only[hm,Wg,q2,decide_false] at y2
 simp only[PS,pO,qaQ,qaV,Wl,Wq,Wh] at y2
 have y3:=qaP (s:=s) (a:=0) (c:=12) h hb (qal [qfK] true) (by simp) (by decide)
 simp only[hm,Wg,decide_true] at y3
 simp only[PS,pO,qfK,qaV,Wl,Wq,Wh] at y3
 simp only[PS,pO,cE,nv,Wi,Wc] at z1
 try simp only[Wt,Wn] at zt z1
 refine qab (pf:=F271) rfl rfl ?_
 simp[F271,zp,zt,w1,h1,h3,y0,y1,y2,y3,z1,qak,qaI,qbN,qaF,qbB,qb2,qbh,still,V.same,Wa]
theorem qxN(hlv:lv<=20)(hT:T.length<2 ^ 40)(h:T.drop i=t::r)(hb:t.bad=0)(h1:decide (kindT t=1)=false)(h3:decide (kindT t=3)=false)(n0:t.s≠ifT)(n1:t.s≠qa7)(n2:t.s≠qaQ)(n3:t.s≠qfK):Z tP (.call 271 [.ptr 0 0,.int lv] (PS s T i 0 12))=some (.ret (qbq 12) (PS s T i t.at_ 12)):=by
 have w1:=qai ((lv:Int)+1) (by omega)
 have zp:=qax (s:=s) (a:=0) (c:=12) h hb
 have zt:=qaO (s:=s) (a:=0) (c:=12) h hb hT
 simp only[PS,pO,ptk,ptD,qan hb] at zp zt
 have y0:=qaP (s:=s) (a:=0) (c:=12) h hb (qal [ifT] true) (by simp) (by decide)
 simp only[Wg,n0,decide_false] at y0
 simp only[PS,pO,ifT,qaV,Wl,Wq,Wh] at y0
 have y1:=qaP (s:=s) (a:=0) (c:=12) h hb (qal [qa7] true) (by simp) (by decide)
 simp only[Wg,n1,decide_false] at y1
 simp only[PS,pO,qa7,qaV,Wl,Wq,Wh] at y1
 have y2:=qaP (s:=s) (a:=0) (c:=12) h hb (qal [qaQ] true) (by simp) (by decide)
 simp only[Wg,n2,decide_false] at y2
 simp only[PS,pO,qaQ,qaV,Wl,Wq,Wh] at y2
 have y3:=qaP (s:=s) (a:=0) (c:=12) h hb (qal [qfK] true) (by simp) (by decide)
 simp only[Wg,n3,decide_false] at y3
 simp only[PS,pO,qfK,qaV,Wl,Wq,Wh] at y3
 have zf:=qgS (s:=s) (T:=T) (i:=i) (a:=0) (c:=12) (k:=kindT t) (x:=t.s) (at_:=t.at_) (v:=valT t) (e:=t.bad) (c':=12)
 simp only[PS,pO,ptD] at zf
 refine qab (pf:=F271) rfl rfl ?_
 simp[F271,zp,zt,w1,h1,h3,y0,y1,y2,y3,zf,qak,Wa]
theorem qAA(h:T.drop i=t::r)(hb:t.bad≠0):Z tP (.call 271 [.ptr 0 0,.int lv] (PS s T i 0 12))=some (.ret (qbq t.bad) (PS s T i t.at_ t.bad)):=by
 have zp:=qe0 (s:=s) (a:=0) (c:=12) h hb
 simp only[PS,pO] at zp
 refine qab (pf:=F271) rfl rfl ?_
 simp[F271,zp,qak,Wa]
end
end
section
open F
attribute [local simp] qbj qb4 dkey
def qiN:ByteArray:=⟨#[101,108,115,101]⟩
abbrev cB(d:D):List D:=[.lit (.int .i64 7),.lit (.int .i64 0),.lit (.string ⟨#[]⟩),d]
section
variable{s:ByteArray}{T:List Tk}{lv i i1 i2 i3 i4:Nat}{e:E}{a c:Int}{t:Tk}{r:List Tk}{d d':D}
theorem qyI (hlv:lv<=20)
  (z1:Z tP (.call 253 [.ptr 0 0,.str ifT] (PS s T i 0 12))=some (.ret (.tup []) (PS s T i1 0 12)))
  (z2:Z tP (.call 279 [.ptr 0 0,.int lv] (PS s T i1 0 12))=some (.ret (qbq c) (PS s T i2 a c))):Z tP (.call 281 [.ptr 0 0,.int lv] (PS s T i 0 12))=some (.ret (qbq c) (PS s T i2 a c)):=by
 have w1:=qai ((lv:Int)+1) (by omega)
 simp only[PS,pO,nv,ifT] at z1 z2
 try simp only[Wt,Wn] at z1 z2
 refine qab (pf:=F281) rfl rfl ?_
 simp[F281,w1,z1,z2,qak,Wa]
theorem qyJ (hlv:lv<=20)
  (z1:Z tP (.call 253 [.ptr 0 0,.str ifT] (PS s T i 0 12))=some (.ret (.tup []) (PS s T i1 0 12)))
  (z2:Z tP (.call 279 [.ptr 0 0,.int lv] (PS s T i1 0 12))=some (.ret e.node (PS s T i2 0 12)))
  (z3:Z tP (.call 256 [.ptr 0 0,.int ((lv+1:Nat):Int)] (PS s T i2 0 12))=some (.ret (qbq c) (PS s T i3 a c))):Z tP (.call 281 [.ptr 0 0,.int lv] (PS s T i 0 12))=some (.ret (qbq c) (PS s T i3 a c)):=by
 have w1:=qai ((lv:Int)+1) (by omega)
 simp only[PS,pO,nv,ifT] at z1 z2 z3
 try simp only[Wt,Wn] at z1 z2 z3
 refine qab (pf:=F281) rfl rfl ?_
 simp[F281,w1,z1,z2,z3,qak,Wa]
theorem qA9 (hlv:lv<=20) (od:V.one (.dat d)=true) (oc:V.cells (.dat d)=[.dat d])
  (z1:Z tP (.call 253 [.ptr 0 0,.str ifT] (PS s T i 0 12))=some (.ret (.tup []) (PS s T i1 0 12)))
  (z2:Z tP (.call 279 [.ptr 0 0,.int lv] (PS s T i1 0 12))=some (.ret e.node (PS s T i2 0 12)))
  (z3:Z tP (.call 256 [.ptr 0 0,.int ((lv+1:Nat):Int)] (PS s T i2 0 12))=some (.ret (nv 7 ⟨#[]⟩ d) (PS s T i3 0 12))) (h:T.drop i3=t::r) (hb:t.bad≠0):Z tP (.call 281 [.ptr 0 0,.int lv] (PS s T i 0 12))=some (.ret (qbq t.bad) (PS s T i3 t.at_ t.bad)):=by
 have w1:=qai ((lv:Int)+1) (by omega)
 simp only[PS,pO,nv,ifT] at z1 z2 z3
 try simp only[Wt,Wn] at z1 z2 z3
 have y:=qf9 (s:=s) (a:=0) (c:=12) h hb (qal [qiN] true)
 simp only[PS,pO,qiN,qaV,Wl,Wq,Wh] at y
 refine qab (pf:=F281) rfl rfl ?_
 simp[F281,w1,z1,z2,z3,y,od,oc,qak,Wa]
theorem qBa (hlv:lv<=20) (od:V.one (.dat d)=true) (oc:V.cells (.dat d)=[.dat d])
  (z1:Z tP (.call 253 [.ptr 0 0,.str ifT] (PS s T i 0 12))=some (.ret (.tup []) (PS s T i1 0 12)))
  (z2:Z tP (.call 279 [.ptr 0 0,.int lv] (PS s T i1 0 12))=some (.ret e.node (PS s T i2 0 12)))
  (z3:Z tP (.call 256 [.ptr 0 0,.int ((lv+1:Nat):Int)] (PS s T i2 0 12))=some (.ret (nv 7 ⟨#[]⟩ d) (PS s T i3 0 12))) (h:T.drop i3=t::r) (hb:t.bad=0) (hm:t.s≠qiN):Z tP (.call 281 [.ptr 0 0,.int lv] (PS s T i 0 12))=some (.ret (nv 3 ⟨#[]⟩ (.sl (cE e++cB d++cB (.lit (.slice none 0 0))) 3 true)) (PS s T i3 0 12)):=by
 have w1:=qai ((lv:Int)+1) (by omega)
 simp only[PS,pO,nv,ifT] at z1 z2 z3
 try simp only[Wt,Wn] at z1 z2 z3
 have y:=qaP (s:=s) (a:=0) (c:=12) h hb (qal [qiN] true) (by simp) (by decide)
 simp only[Wg,hm,decide_false] at y
 simp only[PS,pO,qiN,qaV,Wl,Wq,Wh] at y
 refine qab (pf:=F281) rfl rfl ?_
 simp[F281,w1,z1,z2,z3,y,od,oc,qak,Wa]
theorem qyK (hlv:lv<=20) (od:V.one (.dat d)=true) (oc:V.cells (.dat d)=[.dat d])
  (z1:Z tP (.call 253 [.ptr 0 0,.str ifT] (PS s T i 0 12))=some (.ret (.tup []) (PS s T i1 0 12)))
  (z2:Z tP (.call 279 [.ptr 0 0,.int lv] (PS s T i1 0 12))=some (.ret e.node (PS s T i2 0 12)))
  (z3:Z tP (.call 256 [.ptr 0 0,.int ((lv+1:Nat):Int)] (PS s T i2 0 12))=some (.ret (nv 7 ⟨#[]⟩ d) (PS s T i3 0 12))) (hT:T.length<2 ^ 40) (h:T.drop i3=t::r) (hb:t.bad=0) (hm:t.s=qiN)
  (z4:Z tP (.call 256 [.ptr 0 0,.int ((lv+1:Nat):Int)] (PS s T ((i3+1:Nat):Int) 0 12))=some (.ret (qbq c) (PS s T i4 a c))):Z tP (.call 281 [.ptr 0 0,.int lv] (PS s T i 0 12))=some (.ret (qbq c) (PS s T i4 a c)):=by
 have w1:=qai ((lv:Int)+1) (by omega)
 simp only[PS,pO,nv,ifT] at z1 z2 z3
 try simp only[Wt,Wn] at z1 z2 z3
 have y:=qaP (s:=s) (a:=0) (c:=12) h hb (qal [qiN] true) (by simp) (by decide)
 simp only[Wg,hm,decide_true] at y
 simp only[PS,pO,qiN,qaV,Wl,Wq,Wh] at y
 have zt:=qaO (s:=s) (a:=0) (c:=12) h hb hT
 simp only[PS,pO,ptk,ptD] at zt
 simp only[PS,pO,nv] at z4
 simp only[Wt,Wn] at zt z4
 refine qab (pf:=F281) rfl rfl ?_
 simp[F281,w1,z1,z2,z3,y,zt,z4,od,oc,qak,Wa]
theorem qBb (hlv:lv<=20) (od:V.one (.dat d)=true) (oc:V.cells (.dat d)=[.dat d])
  (z1:Z tP (.call 253 [.ptr 0 0,.str ifT] (PS s T i 0 12))=some (.ret (.tup []) (PS s T i1 0 12)))
  (z2:Z tP (.call 279 [.ptr 0 0,.int lv] (PS s T i1 0 12))=some (.ret e.node (PS s T i2 0 12)))
  (z3:Z tP (.call 256 [.ptr 0 0,.int ((lv+1:Nat):Int)] (PS s T i2 0 12))=some (.ret (nv 7 ⟨#[]⟩ d) (PS s T i3 0 12))) (od':V.one (.dat d')=true) (oc':V.cells (.dat d')=[.dat d']) (hT:T.length<2 ^ 40) (h:T.drop i3=t::r) (hb:t.bad=0) (hm:t.s=qiN)
  (z4:Z tP (.call 256 [.ptr 0 0,.int ((lv+1:Nat):Int)] (PS s T ((i3+1:Nat):Int) 0 12))=some (.ret (nv 7 ⟨#[]⟩ d') (PS s T i4 0 12))):Z tP (.call 281 [.ptr 0 0,.int lv] (PS s T i 0 12))=some (.ret (nv 3 ⟨#[]⟩ (.sl (cE e++cB d++cB d') 3 true)) (PS s T i4 0 12)):=by
 have w1:=qai ((lv:Int)+1) (by omega)
 simp only[PS,pO,nv,ifT] at z1 z2 z3
 try simp only[Wt,Wn] at z1 z2 z3
 have y:=qaP (s:=s) (a:=0) (c:=12) h hb (qal [qiN] true) (by simp) (by decide)
 simp only[Wg,hm,decide_true] at y
 simp only[PS,pO,qiN,qaV,Wl,Wq,Wh] at y
 have zt:=qaO (s:=s) (a:=0) (c:=12) h hb hT
 simp only[PS,pO,ptk,ptD] at zt
 simp only[PS,pO,nv] at z4
 simp only[Wt,Wn] at zt z4
 refine qab (pf:=F281) rfl rfl ?_
 simp[F281,w1,z1,z2,z3,y,zt,z4,od',oc',od,oc,qak,Wa]
end
end
section
open F
attribute [local simp] qbj qb4 dkey
def qs8(v:V)(σt:S)(cs:List D)(n:Nat):Prop:=(n=0/\cs=[]/\v = .dat (.lit (.slice none 0 0)) /\ σt=[])\/(n≠0/\cs.length=n*4/\v = .gsl cs n 4 5 /\ σt=[.tip cs.length])
abbrev bzF(lv:Nat):Fr:=[(0,.ptr 0 0),(1,.int lv),(4,.ptr 3 0),(5,.ptr 4 0)]
abbrev bzS(s:ByteArray)(T:List Tk)(i a c:Int)(v:V)(σt:S):S:=PS s T i a c++(nd0 :: .cells [.int 7,.int 0,.str ⟨#[]⟩,v] :: σt)
def qn1:ByteArray:=⟨#[125]⟩
section
variable{s:ByteArray}{T:List Tk}{lv i i' i1 i2:Nat}{a c:Int}{t:Tk}{r:List Tk}{d:D}{v:V}{σt:S}{cs:List D}{n:Nat}
theorem qzc(h:T.drop i=t::r)(hb:t.bad=0)(hm:t.s=qn1)(hr:qs8 v σt cs n):Z tP (.loop 3 F256l0 (bzF lv) (bzS s T i 0 12 v σt))=some (.out (.exit 0) (bzF lv++[(13,.bool false)]) (bzS s T i 0 12 v σt)):=by
 have y:=qaP (s:=s) (a:=0) (c:=12) h hb (qal [qn1] true) (by simp) (by decide)
 simp only[Wg,hm,decide_true] at y
 simp only[PS,pO,qn1,qaV,Wl,Wq,Wh] at y
 rw[qaa]
 rcases hr with ⟨rfl,rfl,rfl,rfl⟩|⟨h0,h1,rfl,rfl⟩<;>simp[qac,qei,y,Wa]
theorem qzd(h:T.drop i=t::r)(hb:t.bad≠0)(hr:qs8 v σt cs n) : ∃ fr,fr.get 1000000=none/\Z tP (.loop 3 F256l0 (bzF lv) (bzS s T i 0 12 v σt))=some (.out (.pan (.iface 1 (.int t.bad))) fr (bzS s T i t.at_ t.bad v σt)):=by
 have y:=qf9 (s:=s) (a:=0) (c:=12) h hb (qal [qn1] true)
 simp only[PS,pO,qn1,qaV,Wl,Wq,Wh] at y
 refine⟨(11,.dat (.sl [.lit (.string ⟨#[125]⟩)] 1 true))::(10,.ptr 0 0)::bzF lv,by simp[Fr.get],?_⟩
 rw[qaa]
 rcases hr with ⟨rfl,rfl,rfl,rfl⟩|⟨h0,h1,rfl,rfl⟩<;>simp[qac,qei,y,qak,Wa]
theorem qs9 (h:T.drop i=t::r) (hb:t.bad=0) (hm:t.s≠qn1) (hr:qs8 v σt cs n) (hn:n<=2 ^ 40) {k:Int} {x:ByteArray} (od:V.one (.dat d)=true) (oc:V.cells (.dat d)=[.dat d])
  (z:Z tP (.call 271 [.ptr 0 0,.int lv] (PS s T i 0 12))=some (.ret (nv k x d) (PS s T i' 0 12))) :
  ∃ v' σt',qs8 v' σt' (cs++[.lit (.int .i64 k),.lit (.int .i64 0),.lit (.string x),d]) (n+1)/\Z tP (.loop 3 F256l0 (bzF lv) (bzS s T i 0 12 v σt))=Z tP (.loop 3 F256l0 (bzF lv) (bzS s T i' 0 12 v' σt')):=by
 have y:=qaP (s:=s) (a:=0) (c:=12) h hb (qal [qn1] true) (by simp) (by decide)
 have hroom:qay (n+1) 56=true:=by simp only[qay,decide_eq_true_eq]; omega
 simp only[Wg,hm,decide_false] at y
 simp only[PS,pO,qn1,qaV,Wl,Wq,Wh] at y
 simp only[PS,pO,nv] at z
 refine⟨.gsl (cs++[.lit (.int .i64 k),.lit (.int .i64 0),.lit (.string x),d]) (n+1) 4 5,[.tip (cs++[.lit (.int .i64 k),.lit (.int .i64 0),.lit (.string x),d]).length],.inr ⟨by omega,?_,rfl,rfl⟩,?_⟩
 ·rcases hr with ⟨rfl,rfl,_,_⟩|⟨_,h1,_,_⟩
  ·simp
  ·simp[h1]; omega
 ·conv=>lhs; rw[qaa]
  rcases hr with ⟨rfl,rfl,rfl,rfl⟩|⟨h0,h1,rfl,rfl⟩
  ·have hr1:qay 1 56=true:=by decide
   simp[qac,qei,y,z,od,oc,hr1,qb1,qlv,qbN,qaF,qbB,qb2,qbh,still,V.same,Wa]
   try exact qag (by simp[Wa])
  ·simp[qac,qei,y,z,od,oc,hroom,h0,h1,qb1,qlv,qbN,qaF,qbB,qb2,qbh,still,V.same,Wa]
   try exact qag (by simp[Wa])
theorem qze (h:T.drop i=t::r) (hb:t.bad=0) (hm:t.s≠qn1) (hr:qs8 v σt cs n)
  (z:Z tP (.call 271 [.ptr 0 0,.int lv] (PS s T i 0 12))=some (.ret (qbq c) (PS s T i' a c))) :
  Z tP (.loop 3 F256l0 (bzF lv) (bzS s T i 0 12 v σt))=some (.out (.pan (.iface 1 (.int c))) [] (bzS s T i' a c v σt)):=by
 have y:=qaP (s:=s) (a:=0) (c:=12) h hb (qal [qn1] true) (by simp) (by decide)
 simp only[Wg,hm,decide_false] at y
 simp only[PS,pO,qn1,qaV,Wl,Wq,Wh] at y
 simp only[PS,pO] at z
 rw[qaa]
 rcases hr with ⟨rfl,rfl,rfl,rfl⟩|⟨h0,h1,rfl,rfl⟩<;>simp[qac,qei,y,z,qak,qaI,qbN,qaF,qbB,qb2,qbh,still,V.same,Wa]
theorem qwy(zo:Z tP (.call 270 [.ptr 0 0,.str ⟨#[123]⟩,.int lv] (PS s T i 0 12))=some (.ret (qbq c) (PS s T i1 a c))):Z tP (.call 256 [.ptr 0 0,.int lv] (PS s T i 0 12))=some (.ret (qbq c) (PS s T i1 a c)):=by
 simp only[PS,pO] at zo
 refine qab (pf:=F256) rfl rfl ?_
 simp[F256,zo,qak,Wa]
theorem qzf (zo:Z tP (.call 270 [.ptr 0 0,.str ⟨#[123]⟩,.int lv] (PS s T i 0 12))=some (.ret (.tup []) (PS s T i1 0 12))) {fr:Fr} (hf:fr.get 1000000=none)
  (zl:Z tP (.loop 3 F256l0 (bzF lv) (bzS s T i1 0 12 (.dat (.lit (.slice none 0 0))) []))=some (.out (.pan (.iface 1 (.int c))) fr (bzS s T i2 a c v σt))):Z tP (.call 256 [.ptr 0 0,.int lv] (PS s T i 0 12))=some (.ret (qbq c) (PS s T i2 a c)):=by
 simp only[PS,pO,bzS,Wi,Wc] at zo zl
 refine qab (pf:=F256) rfl rfl ?_
 simp[F256,zo,zl,hf,qak,Wa]
theorem qBs (hT:T.length<2 ^ 40) (zo:Z tP (.call 270 [.ptr 0 0,.str ⟨#[123]⟩,.int lv] (PS s T i 0 12))=some (.ret (.tup []) (PS s T i1 0 12))) (hr:qs8 v σt cs n)
  (zl:Z tP (.loop 3 F256l0 (bzF lv) (bzS s T i1 0 12 (.dat (.lit (.slice none 0 0))) []))=some (.out (.exit 0) (bzF lv++[(13,.bool false)]) (bzS s T i2 0 12 v σt)))
  (h:T.drop i2=t::r) (hb:t.bad=0) (hm:t.s=qn1):Z tP (.call 256 [.ptr 0 0,.int lv] (PS s T i 0 12))=some (.ret (nv 7 ⟨#[]⟩ (kd false n cs)) (PS s T ((i2+1:Nat):Int) 0 12)):=by
 have zx:=qha (s:=s) (a:=0) (c:=12) h hb hT (by rw[hm]; decide)
 rw[hm] at zx
 simp only[PS,pO,qn1,Wt,Wn] at zx
 simp only[PS,pO,bzS,Wi,Wc] at zo zl
 refine qab (pf:=F256) rfl rfl ?_
 rcases hr with ⟨rfl,rfl,rfl,rfl⟩|⟨h0,h1,rfl,rfl⟩
 ·simp[F256,zo,zl,zx,Wa]
 ·obtain⟨m,rfl⟩ : ∃ m,n=m+1:=⟨n-1,by omega⟩
  simp[F256,zo,zl,zx,Wa]
end
end
section
open F
def qsS(s:ByteArray)(T:List Tk)(res:Option Res)(x:Rz Ss):Prop:=match x with
 |.ok b r => ∃ (i':Nat) (k:Int) (y:ByteArray) (d:D),T.drop i'=r/\r≠[]/\res=some (.ret (nv k y d) (PS s T i' 0 12))/\V.one (.dat d)=true/\V.cells (.dat d)=[.dat d]/\b.fo.cells=[.lit (.int .i64 k),.lit (.int .i64 0),.lit (.string y),d]/\b.fo.len=1
 |.er a c => ∃ i':Nat,res=some (.ret (qbq c) (PS s T i' a c))
def qCt(s:ByteArray)(T:List Tk)(res:Option Res)(x:Rz Ss):Prop:=match x with
 |.ok b r => ∃ i':Nat,T.drop i'=r/\r≠[]/\res=some (.ret (nv 7 ⟨#[]⟩ (kd false b.fo.len b.fo.cells)) (PS s T i' 0 12))
 |.er a c => ∃ i':Nat,res=some (.ret (qbq c) (PS s T i' a c))
section
variable(s:ByteArray)(T:List Tk)
def StK(n:Nat):Prop := ∀ (lv i:Nat) (t:Tk) (r:List Tk) (x:Rz Ss),lv<=20->T.drop i=t::r->qdo 12 2 true true false n lv (t::r)=some x->qsS s T (Z tP (.call 271 [.ptr 0 0,.int lv] (PS s T i 0 12))) x
def BkK(n:Nat):Prop := ∀ (lv i:Nat) (t:Tk) (r:List Tk) (x:Rz Ss),T.drop i=t::r->qbz 12 2 true true false n lv (t::r)=some x->qCt s T (Z tP (.call 256 [.ptr 0 0,.int lv] (PS s T i 0 12))) x
variable{s:ByteArray}{T:List Tk}
theorem qfB (hw:WfQ T) (hT:T.length<2 ^ 40) {i:Nat} {t:Tk} {r:List Tk} (h:T.drop i=t::r) {k:Int} {y:ByteArray} {d:D} (od:V.one (.dat d)=true) (oc:V.cells (.dat d)=[.dat d]) (b:Ss) :
  (∃ r' i',qb3 12 b (t::r) = .ok b r'/\T.drop i'=r'/\r'≠[]/\Z tP (.call 278 [.ptr 0 0,nv k y d] (PS s T i 0 12))=some (.ret (nv k y d) (PS s T i' 0 12))) \/
  (∃ a c,qb3 12 b (t::r) = .er a c /\ ∃ i':Nat,Z tP (.call 278 [.ptr 0 0,nv k y d] (PS s T i 0 12))=some (.ret (qbq c) (PS s T i' a c))):=by
 have he:=qcB (s:=s) hw hT h (x:=bs [59]) (by decide)
 unfold qb3
 cases hq:qaS 12 (bs [59]) (t::r) with
 |ok u r'=>
  rw[hq] at he
  obtain⟨i',a1,a2,z⟩:=he
  exact .inl ⟨r',i',rfl,a1,a2,qAz od oc z⟩
 |er a c=>
  rw[hq] at he
  obtain⟨i',z⟩:=he
  exact .inr ⟨a,c,rfl,i',qxM od oc z⟩
theorem qoX(hw:WfQ T)(hT:T.length<2 ^ 40)(hP : ∀ t∈T,TokP t){n lv i:Nat}{t:Tk}{r:List Tk}{x:Rz E}(hlv:lv<=20)(h:T.drop i=t::r)(hx:qat 12 2 true n 1 lv (t::r)=some x):Out s T (Z tP (.call 279 [.ptr 0 0,.int lv] (PS s T i 0 12))) x E.node:=
 (qp8 hw hT hP n).1 1 lv i t r x (by omega) (by omega) hlv h hx
theorem qv7(hw:WfQ T)(hT:T.length<2 ^ 40){lv i:Nat}{t:Tk}{r:List Tk}{x:Rz Ss}(hlv:lv<=20)(h:T.drop i=t::r)(hb:t.bad=0)(hm:t.s=qfK)(hx:qb3 12 (Ss.stop .nil) r=x):qsS s T (Z tP (.call 271 [.ptr 0 0,.int lv] (PS s T i 0 12))) x:=by
 have hk:kindT t=2:=by rw[qci hb,hm]; decide
 obtain⟨n1,n2⟩:=hw.next h hb (by rw[hm]; decide)
 obtain⟨t1,r1,rfl⟩:=qa3 n2
 have d1:decide (kindT t=1)=false:=decide_eq_false (by omega)
 have d3:decide (kindT t=3)=false:=decide_eq_false (by omega)
 rcases qfB (s:=s) hw hT n1 (k:=6) (y:=⟨#[]⟩) (d := .lit (.slice none 0 0)) rfl rfl (Ss.stop .nil) with ⟨r',i',e1,e2,e3,z⟩|⟨a,c,e1,i',z⟩
 ·rw[e1] at hx; subst hx
  exact⟨i',6,⟨#[]⟩,.lit (.slice none 0 0),e2,e3,qpJ hlv hT h hb d1 d3 hm z,rfl,rfl,by simp[Ss.fo],by simp[Ss.fo]⟩
 ·rw[e1] at hx; subst hx
  exact⟨i',qmt hlv hT h hb d1 d3 hm z⟩
theorem qqH (hw:WfQ T) (hT:T.length<2 ^ 40) (hP : ∀ t∈T,TokP t) {n lv i:Nat} {t:Tk} {r:List Tk} {x:Rz Ss} (hlv:lv<=20) (h:T.drop i=t::r) (hb:t.bad=0) (hm:t.s=qaQ)
  (hx:(match qat 12 2 true n 1 lv r with
    |some (.ok a r)=>match qaS 12 (bs [44]) r with
     |.ok _ r1=>match qat 12 2 true n 1 lv r1 with
      |some (.ok b r2)=>some (qb3 12 (.effect true a b .nil) r2)
      |some (.er i k)=>some (.er i k)
      |none=>none
     |.er i k=>some (.er i k)
    |some (.er i k)=>some (.er i k)
    |none=>none)=some x):qsS s T (Z tP (.call 271 [.ptr 0 0,.int lv] (PS s T i 0 12))) x:=by
 have hk:kindT t=2:=by rw[qci hb,hm]; decide
 obtain⟨n1,n2⟩:=hw.next h hb (by rw[hm]; decide)
 obtain⟨t1,r1,rfl⟩:=qa3 n2
 have d1:decide (kindT t=1)=false:=decide_eq_false (by omega)
 have d3:decide (kindT t=3)=false:=decide_eq_false (by omega)
 cases hq:qat 12 2 true n 1 lv (t1::r1) with
 |none=>rw[hq] at hx; cases hx
 |some y=>
  rw[hq] at hx
  have h1:=qoX (s:=s) hw hT hP hlv n1 hq
  cases y with
  |er a c=>
   simp only[Wb] at hx
   subst hx
   obtain⟨i1,z1⟩:=h1
   exact⟨i1,qkk hlv hT h hb d1 d3 hm z1⟩
  |ok e r2=>
   simp only at hx
   obtain⟨i1,a1,a2,z1⟩:=h1
   obtain⟨t2,r3,rfl⟩:=qa3 a2
   have h2:=qcB (s:=s) hw hT a1 (x:=bs [44]) (by decide)
   cases hq2:qaS 12 (bs [44]) (t2::r3) with
   |er a c=>
    rw[hq2] at hx h2
    simp only[Wb] at hx
    subst hx
    obtain⟨i2,z2⟩:=h2
    exact⟨i2,qkl hlv hT h hb d1 d3 hm z1 z2⟩
   |ok u r4=>
    rw[hq2] at hx h2
    simp only at hx
    obtain⟨i2,b1,b2,z2⟩:=h2
    obtain⟨t3,r5,rfl⟩:=qa3 b2
    cases hq3:qat 12 2 true n 1 lv (t3::r5) with
    |none=>rw[hq3] at hx; cases hx
    |some y=>
     rw[hq3] at hx
     have h3:=qoX (s:=s) hw hT hP hlv b1 hq3
     cases y with
     |er a c=>
      simp only[Wb] at hx
      subst hx
      obtain⟨i3,z3⟩:=h3
      exact⟨i3,qkm hlv hT h hb d1 d3 hm z1 z2 z3⟩
     |ok e' r6=>
      simp only[Wb] at hx
      obtain⟨i3,c1,c2,z3⟩:=h3
      obtain⟨t4,r7,rfl⟩:=qa3 c2
      rcases qfB (s:=s) hw hT c1 (k:=5) (y:=⟨#[]⟩) (d := .sl (cE e++cE e') 2 true) rfl rfl (Ss.effect true e e' .nil) with ⟨r',i',e1,e2,e3,z⟩|⟨a,c,e1,i',z⟩
      ·rw[e1] at hx; subst hx
       exact⟨i',5,⟨#[]⟩,.sl (cE e++cE e') 2 true,e2,e3,qms hlv hT h hb d1 d3 hm z1 z2 z3 z,rfl,rfl,by simp[Ss.fo],by simp[Ss.fo]⟩
      ·rw[e1] at hx; subst hx
       exact⟨i',qkn hlv hT h hb d1 d3 hm z1 z2 z3 z⟩
end
end
section
open F
section
variable{s:ByteArray}{T:List Tk}
theorem qrm (hw:WfQ T) (hT:T.length<2 ^ 40) (hP : ∀ t∈T,TokP t) {n lv i:Nat} {t:Tk} {r:List Tk} {x:Rz Ss} (hlv:lv<=20) (h:T.drop i=t::r) (hb:t.bad=0) (hl:qaD qaZ t.s=true) (hf:t.s∉fieldNames) (hwd:t.s∉wordNames)
  (hx:(match qaS 12 (bs [61]) r with
    |.ok _ r1=>match qat 12 2 true n 1 lv r1 with
     |some (.ok b r2)=>some (qb3 12 (.assign true t.s b .nil) r2)
     |some (.er i k)=>some (.er i k)
     |none=>none
    |.er i k=>some (.er i k))=some x):qsS s T (Z tP (.call 271 [.ptr 0 0,.int lv] (PS s T i 0 12))) x:=by
 have hne:=qgw hl
 have hk:kindT t=1:=by rw[qci hb,qiu,if_neg hne,if_pos hl,if_neg hf,if_neg hwd]
 obtain⟨n1,n2⟩:=hw.next h hb hne
 obtain⟨t2,r3,rfl⟩:=qa3 n2
 have h2:=qcB (s:=s) hw hT n1 (x:=bs [61]) (by decide)
 cases hq2:qaS 12 (bs [61]) (t2::r3) with
 |er a c=>
  rw[hq2] at hx h2
  simp only[Wb] at hx
  subst hx
  obtain⟨i2,z2⟩:=h2
  exact⟨i2,qkh hlv hT h hb hk z2⟩
 |ok u r4=>
  rw[hq2] at hx h2
  simp only at hx
  obtain⟨i2,b1,b2,z2⟩:=h2
  obtain⟨t3,r5,rfl⟩:=qa3 b2
  cases hq3:qat 12 2 true n 1 lv (t3::r5) with
  |none=>rw[hq3] at hx; cases hx
  |some y=>
   rw[hq3] at hx
   have h3:=qoX (s:=s) hw hT hP hlv b1 hq3
   cases y with
   |er a c=>
    simp only[Wb] at hx
    subst hx
    obtain⟨i3,z3⟩:=h3
    exact⟨i3,qki hlv hT h hb hk z2 z3⟩
   |ok e r6=>
    simp only[Wb] at hx
    obtain⟨i3,c1,c2,z3⟩:=h3
    obtain⟨t4,r7,rfl⟩:=qa3 c2
    rcases qfB (s:=s) hw hT c1 (k:=1) (y:=t.s) (d := .sl (cE e) 1 true) rfl rfl (Ss.assign true t.s e .nil) with ⟨r',i',e1,e2,e3,z⟩|⟨a,c,e1,i',z⟩
    ·rw[e1] at hx; subst hx
     exact⟨i',1,t.s,.sl (cE e) 1 true,e2,e3,qmr hlv hT h hb hk z2 z3 z,rfl,rfl,by simp[Ss.fo],by simp[Ss.fo]⟩
    ·rw[e1] at hx; subst hx
     exact⟨i',qkj hlv hT h hb hk z2 z3 z⟩
theorem qtn (hw:WfQ T) (hT:T.length<2 ^ 40) (hP : ∀ t∈T,TokP t) {n lv i:Nat} {t:Tk} {r:List Tk} {x:Rz Ss} (hlv:lv<=20) (h:T.drop i=t::r) (hb:t.bad=0) (hf:t.s∈fieldNames)
  (hx:(match qck 12 2 true n lv r with
    |some (.ok a r)=>match qaS 12 (bs [61]) r with
     |.ok _ r1=>match qat 12 2 true n 1 lv r1 with
      |some (.ok b r2)=>some (qb3 12 (.store true t.s a b .nil) r2)
      |some (.er i k)=>some (.er i k)
      |none=>none
     |.er i k=>some (.er i k)
    |some (.er i k)=>some (.er i k)
    |none=>none)=some x):qsS s T (Z tP (.call 271 [.ptr 0 0,.int lv] (PS s T i 0 12))) x:=by
 have hall : ∀ w∈fieldNames,qiu w=3/\w≠⟨#[]⟩:=by decide
 have hk:kindT t=3:=by rw[qci hb]; exact (hall _ hf).1
 cases hq:qck 12 2 true n lv r with
 |none=>rw[hq] at hx; cases hx
 |some y=>
  rw[hq] at hx
  have h1:=(qp8 (s:=s) hw hT hP n).2.2 lv i t r y hlv h hb (hall _ hf).2 hq
  cases y with
  |er a c=>
   simp only[Wb] at hx
   subst hx
   obtain⟨i1,z1⟩:=h1
   exact⟨i1,qlf hlv hT h hb hk z1⟩
  |ok e r2=>
   simp only at hx
   obtain⟨i1,a1,a2,z1⟩:=h1
   obtain⟨t2,r3,rfl⟩:=qa3 a2
   have h2:=qcB (s:=s) hw hT a1 (x:=bs [61]) (by decide)
   cases hq2:qaS 12 (bs [61]) (t2::r3) with
   |er a c=>
    rw[hq2] at hx h2
    simp only[Wb] at hx
    subst hx
    obtain⟨i2,z2⟩:=h2
    exact⟨i2,qlg hlv hT h hb hk z1 z2⟩
   |ok u r4=>
    rw[hq2] at hx h2
    simp only at hx
    obtain⟨i2,b1,b2,z2⟩:=h2
    obtain⟨t3,r5,rfl⟩:=qa3 b2
    cases hq3:qat 12 2 true n 1 lv (t3::r5) with
    |none=>rw[hq3] at hx; cases hx
    |some y=>
     rw[hq3] at hx
     have h3:=qoX (s:=s) hw hT hP hlv b1 hq3
     cases y with
     |er a c=>
      simp only[Wb] at hx
      subst hx
      obtain⟨i3,z3⟩:=h3
      exact⟨i3,qlh hlv hT h hb hk z1 z2 z3⟩
     |ok e' r6=>
      simp only[Wb] at hx
      obtain⟨i3,c1,c2,z3⟩:=h3
      obtain⟨t4,r7,rfl⟩:=qa3 c2
      rcases qfB (s:=s) hw hT c1 (k:=2) (y:=t.s) (d := .sl (cE e++cE e') 2 true) rfl rfl (Ss.store true t.s e e' .nil) with ⟨r',i',e1,e2,e3,z⟩|⟨a,c,e1,i',z⟩
      ·rw[e1] at hx; subst hx
       exact⟨i',2,t.s,.sl (cE e++cE e') 2 true,e2,e3,qow hlv hT h hb hk z1 z2 z3 z,rfl,rfl,by simp[Ss.fo],by simp[Ss.fo]⟩
      ·rw[e1] at hx; subst hx
       exact⟨i',qli hlv hT h hb hk z1 z2 z3 z⟩
theorem qto (hw:WfQ T) (hT:T.length<2 ^ 40) (hP : ∀ t∈T,TokP t) {n lv i:Nat} (ihb:BkK s T n) {t:Tk} {r:List Tk} {x:Rz Ss} (hlv:lv<=20) (h:T.drop i=t::r) (hb:t.bad=0) (hm:t.s=qa7)
  (hx:(match qat 12 2 true n 1 lv r with
    |some (.ok c r)=>match qbz 12 2 true true false n (lv+1) r with
     |some (.ok b r1)=>some (.ok (.cond true true c (.block false b .nil) .nil) r1)
     |some (.er i k)=>some (.er i k)
     |none=>none
    |some (.er i k)=>some (.er i k)
    |none=>none)=some x):qsS s T (Z tP (.call 271 [.ptr 0 0,.int lv] (PS s T i 0 12))) x:=by
 have hk:kindT t=2:=by rw[qci hb,hm]; decide
 obtain⟨n1,n2⟩:=hw.next h hb (by rw[hm]; decide)
 obtain⟨t1,r1,rfl⟩:=qa3 n2
 have d1:decide (kindT t=1)=false:=decide_eq_false (by omega)
 have d3:decide (kindT t=3)=false:=decide_eq_false (by omega)
 cases hq:qat 12 2 true n 1 lv (t1::r1) with
 |none=>rw[hq] at hx; cases hx
 |some y=>
  rw[hq] at hx
  have h1:=qoX (s:=s) hw hT hP hlv n1 hq
  cases y with
  |er a c=>
   simp only[Wb] at hx
   subst hx
   obtain⟨i1,z1⟩:=h1
   exact⟨i1,qlj (d := .lit (.bool true)) hlv hT h hb d1 d3 hm rfl rfl z1⟩
  |ok e r2=>
   simp only at hx
   obtain⟨i1,a1,a2,z1⟩:=h1
   obtain⟨t2,r3,rfl⟩:=qa3 a2
   cases hq2:qbz 12 2 true true false n (lv+1) (t2::r3) with
   |none=>rw[hq2] at hx; cases hx
   |some y=>
    rw[hq2] at hx
    have h2:=ihb (lv+1) i1 t2 r3 y a1 hq2
    cases y with
    |er a c=>
     simp only[Wb] at hx
     subst hx
     obtain⟨i2,z2⟩:=h2
     exact⟨i2,qlk (d := .lit (.bool true)) hlv hT h hb d1 d3 hm rfl rfl z1 z2⟩
    |ok b r4=>
     simp only[Wb] at hx
     subst hx
     obtain⟨i2,b1,b2,z2⟩:=h2
     refine⟨i2,4,⟨#[]⟩,_,b1,b2,qox hlv hT h hb d1 d3 hm (by simp) (by simp) z1 z2,rfl,rfl,?_,?_⟩<;>simp[Ss.fo]
end
end
section
open F
section
variable{s:ByteArray}{T:List Tk}
theorem qBu (hw:WfQ T) (hT:T.length<2 ^ 40) (hP : ∀ t∈T,TokP t) {n lv i:Nat} (ihb:BkK s T n) {t:Tk} {r:List Tk} {x:Rz Ss} (hlv:lv<=20) (h:T.drop i=t::r) (hb:t.bad=0) (hm:t.s=ifT)
  (hx:(match qat 12 2 true n 1 lv r with
    |some (.ok c r)=>match qbz 12 2 true true false n (lv+1) r with
     |some (.ok b r1)=>match nx r1 with
      |none=>some (qct 12 r1)
      | some w=>if w=bs [101,108,115,101] then match qbz 12 2 true true false n (lv+1) r1.tail with
        |some (.ok b2 r2)=>some (.ok (.cond false true c (.block false b (.block false b2 .nil)) .nil) r2)
        |some (.er i k)=>some (.er i k)
        |none=>none
       else some (.ok (.cond false true c (.block false b (.block false .nil .nil)) .nil) r1)
     |some (.er i k)=>some (.er i k)
     |none=>none
    |some (.er i k)=>some (.er i k)
    |none=>none)=some x):qsS s T (Z tP (.call 271 [.ptr 0 0,.int lv] (PS s T i 0 12))) x:=by
 have hk:kindT t=2:=by rw[qci hb,hm]; decide
 obtain⟨n1,n2⟩:=hw.next h hb (by rw[hm]; decide)
 obtain⟨t1,r1,rfl⟩:=qa3 n2
 have d1:decide (kindT t=1)=false:=decide_eq_false (by omega)
 have d3:decide (kindT t=3)=false:=decide_eq_false (by omega)
 have z0:=qha (s:=s) (a:=0) (c:=12) h hb hT (by rw[hm]; decide)
 rw[hm] at z0
 have pan : ∀ {i' a c:Nat},Z tP (.call 281 [.ptr 0 0,.int lv] (PS s T i 0 12))=some (.ret (qbq c) (PS s T i' a c))->qsS s T (Z tP (.call 271 [.ptr 0 0,.int lv] (PS s T i 0 12))) (.er a c):=fun z=>
  ⟨_,qpI (d := .lit (.bool true)) hlv hT h hb d1 d3 hm rfl rfl z⟩
 have fin : ∀ {i':Nat} {d:D} {b:Ss} {r':List Tk},T.drop i'=r'->r'≠[]->V.one (.dat d)=true->V.cells (.dat d)=[.dat d]->b.fo.cells=[.lit (.int .i64 3),.lit (.int .i64 0),.lit (.string ⟨#[]⟩),d]->b.fo.len=1->Z tP (.call 281 [.ptr 0 0,.int lv] (PS s T i 0 12))=some (.ret (nv 3 ⟨#[]⟩ d) (PS s T i' 0 12))->qsS s T (Z tP (.call 271 [.ptr 0 0,.int lv] (PS s T i 0 12))) (.ok b r'):=fun q1 q2 o1 o2 q3 q4 z=>
  ⟨_,3,⟨#[]⟩,_,q1,q2,quI hlv hT h hb d1 d3 hm o1 o2 z,o1,o2,q3,q4⟩
 cases hq:qat 12 2 true n 1 lv (t1::r1) with
 |none=>rw[hq] at hx; cases hx
 |some y=>
  rw[hq] at hx
  have h1:=qoX (s:=s) hw hT hP hlv n1 hq
  cases y with
  |er a c=>
   simp only[Wb] at hx
   subst hx
   obtain⟨i1,z1⟩:=h1
   exact pan (qyI hlv z0 z1)
  |ok e r2=>
   simp only at hx
   obtain⟨i1,a1,a2,z1⟩:=h1
   obtain⟨t2,r3,rfl⟩:=qa3 a2
   cases hq2:qbz 12 2 true true false n (lv+1) (t2::r3) with
   |none=>rw[hq2] at hx; cases hx
   |some y=>
    rw[hq2] at hx
    have h2:=ihb (lv+1) i1 t2 r3 y a1 hq2
    cases y with
    |er a c=>
     simp only[Wb] at hx
     subst hx
     obtain⟨i2,z2⟩:=h2
     exact pan (qyJ hlv z0 z1 z2)
    |ok b r4=>
     simp only at hx
     obtain⟨i2,b1,b2,z2⟩:=h2
     obtain⟨t3,r5,rfl⟩:=qa3 b2
     by_cases hb3:t3.bad=0
     ·have hnx:nx (t3::r5)=some t3.s:=if_pos hb3
      rw[hnx] at hx
      simp only[Yy] at hx
      by_cases hel:t3.s=bs [101,108,115,101]
      ·rw[if_pos hel] at hx
       obtain⟨m1,m2⟩:=hw.next b1 hb3 (by rw[hel]; decide)
       obtain⟨t4,r6,rfl⟩:=qa3 m2
       cases hq3:qbz 12 2 true true false n (lv+1) (t4::r6) with
       |none=>rw[hq3] at hx; cases hx
       |some y=>
        rw[hq3] at hx
        have h3:=ihb (lv+1) (i2+1) t4 r6 y m1 hq3
        cases y with
        |er a c=>
         simp only[Wb] at hx
         subst hx
         obtain⟨i3,z3⟩:=h3
         exact pan (qyK hlv (by simp) (by simp) z0 z1 z2 hT b1 hb3 hel z3)
        |ok b' r7=>
         simp only[Wb] at hx
         subst hx
         obtain⟨i3,c1,c2,z3⟩:=h3
         exact fin c1 c2 rfl rfl (by simp[Ss.fo]) (by simp[Ss.fo]) (qBb hlv (by simp) (by simp) z0 z1 z2 (by simp) (by simp) hT b1 hb3 hel z3)
      ·rw[if_neg hel] at hx
       simp only[Wb] at hx
       subst hx
       exact fin b1 (by simp) rfl rfl (by simp[Ss.fo]) (by simp[Ss.fo]) (qBa hlv (by simp) (by simp) z0 z1 z2 b1 hb3 hel)
     ·have hnx:nx (t3::r5)=none:=if_neg hb3
      rw[hnx] at hx
      simp only[qct,if_neg hb3,Wb] at hx
      subst hx
      exact pan (qA9 hlv (by simp) (by simp) z0 z1 z2 b1 hb3)
theorem qwL(hw:WfQ T)(hT:T.length<2 ^ 40)(hP : ∀ t∈T,TokP t){n:Nat}(ihb:BkK s T n):StK s T (n+1):=by
 intro lv i t r x hlv h hx
 by_cases hb:t.bad=0
 case neg=>
  have hnx:nx (t::r)=none:=if_neg hb
  rw[qdo,hnx] at hx
  simp only[qct,if_neg hb,Wb] at hx
  subst hx
  exact⟨i,qAA h hb⟩
 have hnx:nx (t::r)=some t.s:=if_pos hb
 rw[qdo,hnx] at hx
 simp only[Yy] at hx
 by_cases h1:t.s=bs [105,102]
 ·rw[if_pos h1] at hx
  exact qBu hw hT hP ihb hlv h hb h1 hx
 rw[if_neg h1] at hx
 by_cases h2:t.s=bs [119,104,105,108,101]
 ·rw[if_pos h2] at hx
  exact qto hw hT hP ihb hlv h hb h2 hx
 rw[if_neg h2] at hx
 by_cases h3:t.s=bs [101,102,102,101,99,116]
 ·rw[if_pos h3] at hx
  exact qqH hw hT hP hlv h hb h3 hx
 rw[if_neg h3] at hx
 by_cases h4:t.s=bs [115,116,111,112]
 ·rw[if_pos h4] at hx
  exact qv7 hw hT hlv h hb h4 (WD hx)
 rw[if_neg h4] at hx
 by_cases hf:t.s∈fieldNames
 ·rw[if_pos hf] at hx
  exact qtn hw hT hP hlv h hb hf hx
 rw[if_neg hf] at hx
 by_cases hv:qaD qaZ t.s=true/\t.s∉wordNames
 ·rw[if_pos hv] at hx
  exact qrm hw hT hP hlv h hb hv.1 hf hv.2 hx
 rw[if_neg hv] at hx
 simp only[qct,if_pos hb,Wb] at hx
 subst hx
 have hk5:kindT t≠1/\kindT t≠3:=by
  rw[qci hb,qiu]
  by_cases a1:t.s=⟨#[]⟩
  ·rw[if_pos a1]; decide
  ·rw[if_neg a1]
   by_cases a2:qaD qaZ t.s=true
   ·rw[if_pos a2,if_neg hf]
    by_cases a3:t.s∈wordNames
    ·rw[if_pos a3]; decide
    ·exact absurd ⟨a2,a3⟩ hv
   ·rw[if_neg a2]
    split<;>decide
 exact⟨i,qxN hlv hT h hb (decide_eq_false hk5.1) (decide_eq_false hk5.2) h1 h2 h3 h4⟩
end
end
section
open F
section
variable(s:ByteArray)(T:List Tk)
def SsK(n:Nat):Prop := ∀ (lv i:Nat) (t:Tk) (r:List Tk) (a:Ss) (v:V) (σt:S) (x:Rz Ss),lv<=20->T.drop i=t::r->a.fo.len+(t::r).length<=2 ^ 40->qs8 v σt a.fo.cells a.fo.len->qcK 12 2 true true false n lv a (t::r)=some x->match x with
 |.ok b r' => ∃ (i':Nat) (t':Tk) (v':V) (σt':S),T.drop i'=t'::r'/\t'.bad=0/\t'.s=qn1/\qs8 v' σt' b.fo.cells b.fo.len/\Z tP (.loop 3 F256l0 (bzF lv) (bzS s T i 0 12 v σt))=some (.out (.exit 0) (bzF lv++[(13,.bool false)]) (bzS s T i' 0 12 v' σt'))
 |.er a c => ∃ (i':Nat) (fr:Fr) (v':V) (σt':S),fr.get 1000000=none/\Z tP (.loop 3 F256l0 (bzF lv) (bzS s T i 0 12 v σt))=some (.out (.pan (.iface 1 (.int c))) fr (bzS s T i' a c v' σt'))
variable{s:ByteArray}{T:List Tk}
theorem qpQ{n lv:Nat}{ts r:List Tk}{b:Ss}(h:qdo 12 2 true true false n lv ts=some (.ok b r)):r.length<=ts.length-1:=by
 have h1:=qjI h (WF n (10*ts.length+1))
 obtain⟨y,h2,h3⟩:=(qib 12 2 true true false (max n (10*ts.length+1))).1 lv ts (WC _ _)
 rw[h1] at h2
 cases h2
 exact h3 b r rfl
theorem qu2{n:Nat}(ihs:StK s T n)(ihl:SsK s T n):SsK s T (n+1):=by
 intro lv i t r a v σt x hlv h hlen hr hx
 rw[qcK] at hx
 by_cases hb:t.bad=0
 case neg=>
  have hnx:nx (t::r)=none:=if_neg hb
  rw[hnx] at hx
  simp only[qct,if_neg hb,Wb] at hx
  subst hx
  obtain⟨fr,f1,f2⟩:=qzd (s:=s) (lv:=lv) h hb hr
  exact⟨i,fr,v,σt,f1,f2⟩
 have hnx:nx (t::r)=some t.s:=if_pos hb
 rw[hnx] at hx
 simp only[Yy] at hx
 by_cases he:t.s=bs [125]
 ·rw[if_pos he] at hx
  simp only[Wb] at hx
  subst hx
  exact⟨i,t,v,σt,h,hb,he,hr,qzc h hb he hr⟩
 rw[if_neg he] at hx
 cases hq:qdo 12 2 true true false n lv (t::r) with
 |none=>rw[hq] at hx; cases hx
 |some y=>
  rw[hq] at hx
  have hs:=ihs lv i t r y hlv h hq
  cases y with
  |er p c=>
   simp only[Wb] at hx
   subst hx
   obtain⟨i',z⟩:=hs
   exact⟨i',[],v,σt,rfl,qze h hb he hr z⟩
  |ok b r'=>
   simp only at hx
   obtain⟨i',k,y,d,a1,a2,z,o1,o2,c1,c2⟩:=hs
   have hl:=qpQ hq
   simp only[Wf] at hl hlen
   obtain⟨v',σt',r1,r2⟩:=qs9 h hb he hr (by omega) o1 o2 z
   obtain⟨t2,r2',rfl⟩:=qa3 a2
   have hr':qs8 v' σt' (a.app b).fo.cells (a.app b).fo.len:=by
    rw[qi1,qhI,qdC,c1,c2]; exact r1
   have hlen':(a.app b).fo.len+(t2::r2').length<=2 ^ 40:=by
    rw[qi1,qdC,c2]
    simp only[Wf] at hl ⊢
    omega
   have:=ihl lv i' t2 r2' (a.app b) v' σt' x hlv a1 hlen' hr' hx
   cases x with
   |ok b3 r3=>
    obtain⟨i3,t3,v3,σ3,e1,e2,e3,e4,e5⟩:=this
    exact⟨i3,t3,v3,σ3,e1,e2,e3,e4,r2.trans e5⟩
   |er p c=>
    obtain⟨i3,fr,v3,σ3,e1,e2⟩:=this
    exact⟨i3,fr,v3,σ3,e1,r2.trans e2⟩
theorem qu3(hw:WfQ T)(hT:T.length<2 ^ 30){n:Nat}(ihl:SsK s T n):BkK s T (n+1):=by
 intro lv i t r x h hx
 rw[qbz] at hx
 have ho:=qhY (s:=s) hw (by omega) h (x:=bs [123]) (by decide) (lv:=lv)
 cases hq:qeh 12 2 (bs [123]) lv (t::r) with
 |er a c=>
  rw[hq] at hx ho
  simp only[Wb] at hx
  subst hx
  obtain⟨i',z⟩:=ho
  exact⟨i',qwy z⟩
 |ok u r1=>
  have hl1:=qkv hq
  rw[hq] at hx ho
  simp only at hx
  obtain⟨i1,a1,a2,z1⟩:=ho
  obtain⟨t1,r2,rfl⟩:=qa3 a2
  have hlen:(t1::r2).length<=T.length:=by rw[<- a1,W5]; omega
  have hl:=ihl lv i1 t1 r2 .nil (.dat (.lit (.slice none 0 0))) [] x hl1 a1 (by show 0+_<=_; omega) (.inl ⟨rfl,rfl,rfl,rfl⟩) hx
  cases x with
  |er p c=>
   obtain⟨i3,fr,v3,σ3,e1,e2⟩:=hl
   exact⟨i3,qzf z1 e1 e2⟩
  |ok b r3=>
   obtain⟨i3,t3,v3,σ3,e1,e2,e3,e4,e5⟩:=hl
   obtain⟨n1,n2⟩:=hw.next e1 e2 (by rw[e3]; decide)
   exact⟨i3+1,n1,n2,qBs (by omega) z1 e4 e5 e1 e2 e3⟩
theorem qtY(hw:WfQ T)(hT:T.length<2 ^ 30)(hP : ∀ t∈T,TokP t) : ∀ n,StK s T n/\BkK s T n/\SsK s T n
 |0=>⟨fun lv i t r x _ _ hx=>by simp[qdo] at hx,fun lv i t r x _ hx=>by simp[qbz] at hx,fun lv i t r a v σt x _ _ _ _ hx=>by simp[qcK] at hx⟩
 |n+1=>by
  obtain⟨ihs,ihb,ihl⟩:=qtY hw hT hP n
  exact⟨qwL hw (by omega) hP ihb,qu3 hw hT ihl,qu2 ihs ihl⟩
end
end
section
open F
attribute [local simp] qbj qb4 dkey
section
variable{s:ByteArray}{T:List Tk}{i:Nat}{t:Tk}{r:List Tk}{a c:Int}
theorem qhi{k:Nat}(h:T.drop i=t::r)(hb:t.bad=0)(hk:qb6 t.s=some k):Z tP (.call 254 [.ptr 0 0] (PS s T i 0 12))=some (.ret (.int k) (PS s T i 0 12)):=by
 have zp:=qax (s:=s) (a:=0) (c:=12) h hb
 simp only[PS,pO,ptk,ptD,qan hb] at zp
 generalize t.s=w at zp hk
 unfold qb6 at hk
 by_cases h1:w=bs [97,99,116]
 ·subst h1
  simp only[if_true,Wb] at hk
  subst hk
  simp only[bs] at zp
  refine qab (pf:=F254) rfl rfl ?_
  simp[F254,zp,qbd,Wa]
 rw[if_neg h1] at hk
 by_cases h2:w=bs [116,105,99,107]
 ·subst h2
  simp only[if_true,Wb] at hk
  subst hk
  simp only[bs] at zp
  refine qab (pf:=F254) rfl rfl ?_
  simp[F254,zp,qbd,Wa]
 rw[if_neg h2] at hk
 by_cases h3:w=qod
 ·subst h3
  simp only[if_true,Wb] at hk
  subst hk
  simp only[qod] at zp
  refine qab (pf:=F254) rfl rfl ?_
  simp[F254,zp,qbd,Wa]
 ·rw[if_neg h3] at hk; cases hk
theorem qpp(h:T.drop i=t::r)(hb:t.bad=0)(hk:qb6 t.s=none):Z tP (.call 254 [.ptr 0 0] (PS s T i 0 12))=some (.ret (qbq 12) (PS s T i t.at_ 12)):=by
 have zp:=qax (s:=s) (a:=0) (c:=12) h hb
 have zf:=qgS (s:=s) (T:=T) (i:=i) (a:=0) (c:=12) (k:=kindT t) (x:=t.s) (at_:=t.at_) (v:=valT t) (e:=t.bad) (c':=12)
 simp only[PS,pO,ptk,ptD,qan hb] at zp zf
 unfold qb6 at hk
 by_cases h1:t.s=bs [97,99,116]
 ·rw[if_pos h1] at hk; cases hk
 rw[if_neg h1] at hk
 by_cases h2:t.s=bs [116,105,99,107]
 ·rw[if_pos h2] at hk; cases hk
 rw[if_neg h2] at hk
 by_cases h3:t.s=qod
 ·rw[if_pos h3] at hk; cases hk
 simp only[bs] at h1 h2
 simp only[qod] at h3
 refine qab (pf:=F254) rfl rfl ?_
 simp[F254,zp,zf,h1,h2,h3,qbd,qak,Wa]
theorem qm4(h:T.drop i=t::r)(hb:t.bad≠0):Z tP (.call 254 [.ptr 0 0] (PS s T i 0 12))=some (.ret (qbq t.bad) (PS s T i t.at_ t.bad)):=by
 have zp:=qe0 (s:=s) (a:=0) (c:=12) h hb
 simp only[PS,pO] at zp
 refine qab (pf:=F254) rfl rfl ?_
 simp[F254,zp,qak,Wa]
theorem qfm{w:ByteArray}{k:Nat}(h:qb6 w=some k):k=0\/k=1\/k=2:=by
 unfold qb6 at h
 split at h
 ·cases h; omega
 split at h
 ·cases h; omega
 split at h
 ·cases h; omega
 ·cases h
end
end
section
open F
attribute [local simp] qbj qb4 dkey
abbrev pgF:Fr:=[(0,.ptr 0 0),(2,.ptr 3 0),(3,.ptr 4 0)]
abbrev pgS(s:ByteArray)(T:List Tk)(i a c:Int)(q:Nat->N4):S:=PS s T i a c++[qxx,rob q]
section
variable{s:ByteArray}{T:List Tk}{i i' i2:Nat}{t:Tk}{r:List Tk}{a c:Int}{q:Nat->N4}
theorem qyw(h:T.drop i=t::r)(hb:t.bad=0)(hs:t.s=⟨#[]⟩):Z tP (.loop 3 F242l0 pgF (pgS s T i 0 12 q))=some (.out (.exit 0) (pgF++[(8,.bool false)]) (pgS s T i 0 12 q)):=by
 have zp:=qax (s:=s) (a:=0) (c:=12) h hb
 have hk:kindT t=0:=by rw[qci hb,qiu,if_pos hs]
 have k0:=(q 0).one
 have k1:=(q 1).one
 have k2:=(q 2).one
 have c0:=(q 0).cl
 have c1:=(q 1).cl
 have c2:=(q 2).cl
 simp only[PS,pO,ptk,ptD,hk] at zp
 rw[qaa]
 simp[qac,qcR,zp,k0,k1,k2,c0,c1,c2,Wa]
theorem qyx(h:T.drop i=t::r)(hb:t.bad≠0) : ∃ fr,fr.get 1000000=none/\Z tP (.loop 3 F242l0 pgF (pgS s T i 0 12 q))=some (.out (.pan (.iface 1 (.int t.bad))) fr (pgS s T i t.at_ t.bad q)):=by
 have zp:=qe0 (s:=s) (a:=0) (c:=12) h hb
 simp only[PS,pO] at zp
 refine⟨(5,.ptr 0 0)::pgF,by simp[Fr.get],?_⟩
 rw[qaa]
 simp[qac,qcR,zp,qak,Wa]
theorem qA0(h:T.drop i=t::r)(hb:t.bad=0)(hs:t.s≠⟨#[]⟩)(z:Z tP (.call 253 [.ptr 0 0,.str ⟨#[111,110]⟩] (PS s T i 0 12))=some (.ret (qbq c) (PS s T i' a c))) : ∃ fr,fr.get 1000000=none/\Z tP (.loop 3 F242l0 pgF (pgS s T i 0 12 q))=some (.out (.pan (.iface 1 (.int c))) fr (pgS s T i' a c q)):=by
 have zp:=qax (s:=s) (a:=0) (c:=12) h hb
 have hk:decide (kindT t=0)=false:=decide_eq_false (fun e=>hs ((qeu hb).mp e))
 simp only[PS,pO,ptk,ptD] at zp z
 refine⟨(9,.ptr 0 0)::(pgF++[(8,.bool true)]),by simp[Fr.get],?_⟩
 rw[qaa]
 simp[qac,qcR,zp,z,hk,qak,Wa]
theorem qqh (h:T.drop i=t::r) (hb:t.bad=0) (hs:t.s≠⟨#[]⟩) (z:Z tP (.call 253 [.ptr 0 0,.str ⟨#[111,110]⟩] (PS s T i 0 12))=some (.ret (.tup []) (PS s T i' 0 12)))
  (zh:Z tP (.call 254 [.ptr 0 0] (PS s T i' 0 12))=some (.ret (qbq c) (PS s T i2 a c))) : ∃ fr,fr.get 1000000=none/\Z tP (.loop 3 F242l0 pgF (pgS s T i 0 12 q))=some (.out (.pan (.iface 1 (.int c))) fr (pgS s T i2 a c q)):=by
 have zp:=qax (s:=s) (a:=0) (c:=12) h hb
 have hk:decide (kindT t=0)=false:=decide_eq_false (fun e=>hs ((qeu hb).mp e))
 simp only[PS,pO,ptk,ptD] at zp z zh
 refine⟨(11,.ptr 0 0)::pgF,by simp[Fr.get],?_⟩
 rw[qaa]
 simp[qac,qcR,zp,z,zh,hk,qak,Wa]
theorem qyy {t2:Tk} {r2:List Tk} {k:Nat} (h:T.drop i=t::r) (hb:t.bad=0) (hs:t.s≠⟨#[]⟩) (z:Z tP (.call 253 [.ptr 0 0,.str ⟨#[111,110]⟩] (PS s T i 0 12))=some (.ret (.tup []) (PS s T i' 0 12)))
  (h2:T.drop i'=t2::r2) (hb2:t2.bad=0) (hh:qb6 t2.s=some k) (hq:decide ((q k).k=0)=false) : ∃ fr,fr.get 1000000=none/\Z tP (.loop 3 F242l0 pgF (pgS s T i 0 12 q))=some (.out (.pan (.iface 1 (.int 4))) fr (pgS s T i' t2.at_ 4 q)):=by
 have zp:=qax (s:=s) (a:=0) (c:=12) h hb
 have zp2:=qax (s:=s) (a:=0) (c:=12) h2 hb2
 have zh:=qhi (s:=s) h2 hb2 hh
 have zf:=qgS (s:=s) (T:=T) (i:=i') (a:=0) (c:=12) (k:=kindT t2) (x:=qfM t2) (at_:=t2.at_) (v:=valT t2) (e:=t2.bad) (c':=4)
 have hk:decide (kindT t=0)=false:=decide_eq_false (fun e=>hs ((qeu hb).mp e))
 simp only[PS,pO,ptk,ptD] at zp zp2 z zh zf
 have k0:=(q 0).one
 have k1:=(q 1).one
 have k2:=(q 2).one
 have c0:=(q 0).cl
 have c1:=(q 1).cl
 have c2:=(q 2).cl
 refine⟨(21,ptk t2)::(20,.ptr 0 0)::(19,.ptr 0 0)::(pgF++[(4,.int k),(18,.bool true)]),by simp[Fr.get],?_⟩
 rw[qaa]
 rcases qfm hh with rfl|rfl|rfl<;>simp[qac,qcR,zp,zp2,z,zh,zf,hk,hq,k0,k1,k2,c0,c1,c2,qak,Wa]
theorem qyz {t2:Tk} {r2:List Tk} {k:Nat} (hT:T.length<2 ^ 40) (h:T.drop i=t::r) (hb:t.bad=0) (hs:t.s≠⟨#[]⟩) (z:Z tP (.call 253 [.ptr 0 0,.str ⟨#[111,110]⟩] (PS s T i 0 12))=some (.ret (.tup []) (PS s T i' 0 12)))
  (h2:T.drop i'=t2::r2) (hb2:t2.bad=0) (hh:qb6 t2.s=some k) (hq:decide ((q k).k=0)=true) (zb:Z tP (.call 256 [.ptr 0 0,.int 1] (PS s T ((i'+1:Nat):Int) 0 12))=some (.ret (qbq c) (PS s T i2 a c))) : ∃ fr,fr.get 1000000=none/\Z tP (.loop 3 F242l0 pgF (pgS s T i 0 12 q))=some (.out (.pan (.iface 1 (.int c))) fr (pgS s T i2 a c q)):=by
 have zp:=qax (s:=s) (a:=0) (c:=12) h hb
 have zh:=qhi (s:=s) h2 hb2 hh
 have hlt:=qjp h2
 have w1:=qai ((i':Int)+1) (by omega)
 have hk:decide (kindT t=0)=false:=decide_eq_false (fun e=>hs ((qeu hb).mp e))
 simp only[PS,pO,ptk,ptD] at zp z zh zb
 simp only[Wt,Wn] at zb
 have k0:=(q 0).one
 have k1:=(q 1).one
 have k2:=(q 2).one
 have c0:=(q 0).cl
 have c1:=(q 1).cl
 have c2:=(q 2).cl
 refine⟨(31,.ptr 0 0)::(30,.int k)::(pgF++[(4,.int k)]),by simp[Fr.get],?_⟩
 rw[qaa]
 rcases qfm hh with rfl|rfl|rfl<;>simp[qac,qcR,zp,z,zh,zb,w1,hk,hq,k0,k1,k2,c0,c1,c2,qak,Wa]
theorem qA1 {t2:Tk} {r2:List Tk} {k:Nat} {d:D} (hT:T.length<2 ^ 40) (h:T.drop i=t::r) (hb:t.bad=0) (hs:t.s≠⟨#[]⟩) (z:Z tP (.call 253 [.ptr 0 0,.str ⟨#[111,110]⟩] (PS s T i 0 12))=some (.ret (.tup []) (PS s T i' 0 12)))
  (h2:T.drop i'=t2::r2) (hb2:t2.bad=0) (hh:qb6 t2.s=some k) (hq:decide ((q k).k=0)=true) (od:V.one (.dat d)=true) (oc:V.cells (.dat d)=[.dat d]) (zb:Z tP (.call 256 [.ptr 0 0,.int 1] (PS s T ((i'+1:Nat):Int) 0 12))=some (.ret (nv 7 ⟨#[]⟩ d) (PS s T i2 0 12))):Z tP (.loop 3 F242l0 pgF (pgS s T i 0 12 q))=Z tP (.loop 3 F242l0 pgF (pgS s T i2 0 12 (qzX q k ⟨7,0,⟨#[]⟩,d,od,oc⟩))):=by
 have zp:=qax (s:=s) (a:=0) (c:=12) h hb
 have zh:=qhi (s:=s) h2 hb2 hh
 have hlt:=qjp h2
 have w1:=qai ((i':Int)+1) (by omega)
 have hk:decide (kindT t=0)=false:=decide_eq_false (fun e=>hs ((qeu hb).mp e))
 simp only[PS,pO,ptk,ptD] at zp z zh
 simp only[PS,pO,nv] at zb
 simp only[Wt,Wn] at zb
 have k0:=(q 0).one
 have k1:=(q 1).one
 have k2:=(q 2).one
 have c0:=(q 0).cl
 have c1:=(q 1).cl
 have c2:=(q 2).cl
 conv=>lhs; rw[qaa]
 rcases qfm hh with rfl|rfl|rfl<;>simp[qac,qcR,zp,z,zh,zb,od,oc,w1,hk,hq,k0,k1,k2,c0,c1,c2,qzX,Wa]<;>rfl
end
end
end Go.Pm
