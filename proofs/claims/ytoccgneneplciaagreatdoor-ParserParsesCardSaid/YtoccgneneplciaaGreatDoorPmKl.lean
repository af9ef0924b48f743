/- Chapter 13's parser: operators between operands: a round. -/
import Derived.Test.YtoccgneneplciaaGreatDoorPmAL
import Derived.Test.YtoccgneneplciaaGreatDoorPmOj
import Derived.Test.YtoccgneneplciaaGreatDoorPmEt
set_option linter.unusedSimpArgs false
set_option linter.unusedVariables false
set_option maxHeartbeats 4000000
namespace Go.Pm
section
open F
attribute [local simp] qbm qca dkey
def fnP:Nat->Nat
 |1=>279|2=>287|3=>290|4=>292|5=>297|6=>304|7=>308|_=>309
def clF:Nat->Nat
 |1=>286|2=>289|5=>303|_=>307
def qg1:Nat->List ByteArray
 |1=>[⟨#[124,124]⟩] | 2=>[⟨#[38,38]⟩] | 5=>[⟨#[43]⟩,⟨#[45]⟩] | _=>[⟨#[42]⟩,⟨#[47]⟩]
def qlb(p:Nat):Prop:=p=1\/p=2\/p=5\/p=6
abbrev CS(s:ByteArray)(T:List Tk)(lv:Int)(i a c:Int):S:=[.cells [.ptr 2 0],.cells [.int lv],pO s 3 (.gsl (ptC T) T.length 5 4) i a c,.map kwM,.tip (ptC T).length]
abbrev BS(s:ByteArray)(T:List Tk)(lv:Int)(i a c:Int):S:=[pO s 3 (.gsl (ptC T) T.length 5 4) i a c,.cells [.ptr 0 0],.cells [.int lv],.map kwM,.tip (ptC T).length]
abbrev ndO(e:E):Ob := .cells [.int e.kind,.int e.num,.str e.str,.dat e.kids]
abbrev nd0:Ob := .cells [.int 0,.int 0,.str ⟨#[]⟩,.dat (.lit (.slice none 0 0))]
abbrev BL(s:ByteArray)(T:List Tk)(lv:Int)(i a c:Int)(e:E):S:=[pO s 3 (.gsl (ptC T) T.length 5 4) i a c,.cells [.ptr 0 0],.cells [.int lv],.map kwM,.tip (ptC T).length,nd0,ndO e]
abbrev bqF(g:Nat)(d:D):Fr:=[(0,.ptr 0 0),(1,.fn g [] [.ptr 1 0,.ptr 2 0]),(2,.dat d),(6,.ptr 5 0),(7,.ptr 6 0)]
section
variable{s:ByteArray}{T:List Tk}{i i':Nat}{lv:Int}{t:Tk}{r:List Tk}{p:Nat}
theorem qqH(hp:qlb p){e:E}(z:Z tP (.call (fnP (p+1)) [.ptr 0 0,.int lv] (PS s T i 0 12))=some (.ret e.node (PS s T i' 0 12))):Z tP (.call (clF p) [.ptr 0 0,.ptr 1 0] (CS s T lv i 0 12))=some (.ret e.node (CS s T lv i' 0 12)):=by
 simp only[PS,pO] at z
 rcases hp with rfl|rfl|rfl|rfl
 ·refine Z_call (pf:=F286) rfl rfl ?_
  simp only[fnP] at z
  simp[F286,z,Wa]
 ·refine Z_call (pf:=F289) rfl rfl ?_
  simp only[fnP] at z
  simp[F289,z,Wa]
 ·refine Z_call (pf:=F303) rfl rfl ?_
  simp only[fnP] at z
  simp[F303,z,Wa]
 ·refine Z_call (pf:=F307) rfl rfl ?_
  simp only[fnP] at z
  simp[F307,z,Wa]
theorem qoi(hp:qlb p){a c:Int}(z:Z tP (.call (fnP (p+1)) [.ptr 0 0,.int lv] (PS s T i 0 12))=some (.ret (qbt c) (PS s T i' a c))):Z tP (.call (clF p) [.ptr 0 0,.ptr 1 0] (CS s T lv i 0 12))=some (.ret (qbt c) (CS s T lv i' a c)):=by
 simp only[PS,pO] at z
 rcases hp with rfl|rfl|rfl|rfl
 ·refine Z_call (pf:=F286) rfl rfl ?_
  simp only[fnP] at z
  simp[F286,z,qaf,Wa]
 ·refine Z_call (pf:=F289) rfl rfl ?_
  simp only[fnP] at z
  simp[F289,z,qaf,Wa]
 ·refine Z_call (pf:=F303) rfl rfl ?_
  simp only[fnP] at z
  simp[F303,z,qaf,Wa]
 ·refine Z_call (pf:=F307) rfl rfl ?_
  simp only[fnP] at z
  simp[F307,z,qaf,Wa]
theorem qsJ{g:Nat}{d:D}{l:List ByteArray}(hd:RowS d l)(hl:l.length<2 ^ 40)(hn:(⟨#[]⟩:ByteArray)∉l)(h:T.drop i=t::r)(hb:t.bad=0)(hm:t.s∉l)(e:E):Z tP (.loop 5 F285l0 (bqF g d) (BL s T lv i 0 12 e))=some (.out (.exit 0) (bqF g d++[(13,.bool false)]) (BL s T lv i 0 12 e)):=by
 have zi:=qaW (s:=s) (a:=0) (c:=12) h hb hd hl hn
 have ho:=hd.one
 have hcl:=hd.cells
 simp only[PS,pO,hm,decide_false] at zi
 rw[qab]
 simp[qaa,qfv,zi,ho,hcl,Wa]
theorem qsK{g:Nat}{d:D}{l:List ByteArray}(hd:RowS d l)(h:T.drop i=t::r)(hb:t.bad≠0)(e:E):Z tP (.loop 5 F285l0 (bqF g d) (BL s T lv i 0 12 e))=some (.out (.pan (.iface 1 (.int t.bad))) ((12,.dat d)::(11,.ptr 0 0)::bqF g d) (BL s T lv i t.at_ t.bad e)):=by
 have zi:=qgi (s:=s) (a:=0) (c:=12) h hb hd
 have ho:=hd.one
 have hcl:=hd.cells
 simp only[PS,pO] at zi
 rw[qab]
 simp[qaa,qfv,zi,ho,hcl,qaf,Wa]
theorem qqI {g:Nat} {d:D} {l:List ByteArray} (hd:RowS d l) (hl:l.length<2 ^ 40) (hT:T.length<2 ^ 40) (hn:(⟨#[]⟩:ByteArray)∉l) (h:T.drop i=t::r) (hb:t.bad=0) (hm:t.s∈l) {o:Bop} (ho':t.s=o.str) (e e':E)
  (z:Z tP (.call g [.ptr 0 0,.ptr 1 0] (CS s T lv ((i+1:Nat):Int) 0 12))=some (.ret e'.node (CS s T lv i' 0 12))):Z tP (.loop 5 F285l0 (bqF g d) (BL s T lv i 0 12 e))=Z tP (.loop 5 F285l0 (bqF g d) (BL s T lv i' 0 12 (.bin true o e e'))):=by
 have zi:=qaW (s:=s) (a:=0) (c:=12) h hb hd hl hn
 have zt:=qaU (s:=s) (a:=0) (c:=12) h hb hT
 have ho:=hd.one
 have hcl:=hd.cells
 have htx:=qas hb
 simp only[PS,pO,hm,decide_true] at zi
 simp only[PS,pO,ptk,ptD,htx,ho'] at zt
 simp only[CS,pO] at z
 simp only[Wn,Wd] at z zt
 conv=>lhs; rw[qab]
 simp[qaa,qfv,zi,zt,z,ho,hcl,qbX,qaO,qbE,qb9,qbk,still,V.same,Wa]
 rfl
theorem qsL {g:Nat} {d:D} {l:List ByteArray} (hd:RowS d l) (hl:l.length<2 ^ 40) (hT:T.length<2 ^ 40) (hn:(⟨#[]⟩:ByteArray)∉l) (h:T.drop i=t::r) (hb:t.bad=0) (hm:t.s∈l) (e:E) {a c:Int}
  (z:Z tP (.call g [.ptr 0 0,.ptr 1 0] (CS s T lv ((i+1:Nat):Int) 0 12))=some (.ret (qbt c) (CS s T lv i' a c))):Z tP (.loop 5 F285l0 (bqF g d) (BL s T lv i 0 12 e))=some (.out (.pan (.iface 1 (.int c))) [] (BL s T lv i' a c e)):=by
 have zi:=qaW (s:=s) (a:=0) (c:=12) h hb hd hl hn
 have zt:=qaU (s:=s) (a:=0) (c:=12) h hb hT
 have ho:=hd.one
 have hcl:=hd.cells
 simp only[PS,pO,hm,decide_true] at zi
 simp only[PS,pO,ptk,ptD] at zt
 simp only[CS,pO] at z
 simp only[Wn,Wd] at z zt
 rw[qab]
 simp[qaa,qfv,zi,zt,z,ho,hcl,qaf,qaM,qbX,qaO,qbE,qb9,qbk,still,V.same,Wa]
end
end
section
open F
attribute [local simp] qbm qca dkey
theorem qv5{p:Nat}(hp:qlb p){y:ByteArray}{o:Bop}(h:qhL p y=some o):y=o.str/\y∈qg1 p:=by
 have h1:o.str=y:=by have:=List.find?_some h; simpa using this
 have h2:=List.mem_of_find?_eq_some h
 subst h1
 refine⟨rfl,?_⟩
 rcases hp with rfl|rfl|rfl|rfl<;>simp only[Ws,WA,or_false] at h2
 ·subst h2; decide
 ·subst h2; decide
 ·rcases h2 with rfl|rfl<;>decide
 ·rcases h2 with rfl|rfl<;>decide
theorem qv6{p:Nat}(hp:qlb p){y:ByteArray}(h:qhL p y=none):y∉qg1 p:=by
 have h2:=YB.1 h
 rcases hp with rfl|rfl|rfl|rfl<;>simp only[Ws,WA,or_false] at h2
 ·intro hm
  exact h2 .or rfl (by simpa [qg1,Bop.str,eq_comm] using hm)
 ·intro hm
  exact h2 .and rfl (by simpa [qg1,Bop.str,eq_comm] using hm)
 ·intro hm
  simp only[qg1,Ws,WA,or_false] at hm
  rcases hm with rfl|rfl
  ·exact h2 .add (.inl rfl) (by decide)
  ·exact h2 .sub (.inr rfl) (by decide)
 ·intro hm
  simp only[qg1,Ws,WA,or_false] at hm
  rcases hm with rfl|rfl
  ·exact h2 .mul (.inl rfl) (by decide)
  ·exact h2 .div (.inr rfl) (by decide)
theorem qyd{p:Nat}(hp:qlb p):(⟨#[]⟩:ByteArray)∉qg1 p/\(qg1 p).length<2 ^ 40:=by
 rcases hp with rfl|rfl|rfl|rfl<;>exact⟨by decide,by decide⟩
section
variable(s:ByteArray)(T:List Tk)
def ExK(n:Nat):Prop := ∀ (p lv i:Nat) (t:Tk) (r:List Tk) (x:Rz E),1<=p->p<=8->lv<=20->T.drop i=t::r->qak 12 2 true n p lv (t::r)=some x->Out s T (Z tP (.call (fnP p) [.ptr 0 0,.int lv] (PS s T i 0 12))) x E.node
def LoK(n:Nat):Prop := ∀ (p lv i:Nat) (t:Tk) (r:List Tk) (e:E) (x:Rz E),qlb p->lv<=20->T.drop i=t::r->qbR 12 2 true n p lv e (t::r)=some x->match x with
 |.ok e' r' => ∃ i',T.drop i'=r'/\r'≠[]/\Z tP (.loop 5 F285l0 (bqF (clF p) (.sl (strC (qg1 p)) (qg1 p).length true)) (BL s T lv i 0 12 e))=some (.out (.exit 0) (bqF (clF p) (.sl (strC (qg1 p)) (qg1 p).length true)++[(13,.bool false)]) (BL s T lv i' 0 12 e'))
 |.er a c => ∃ (i':Nat) (fr:Fr) (e':E),fr.get 1000000=none/\Z tP (.loop 5 F285l0 (bqF (clF p) (.sl (strC (qg1 p)) (qg1 p).length true)) (BL s T lv i 0 12 e))=some (.out (.pan (.iface 1 (.int c))) fr (BL s T lv i' a c e'))
variable{s:ByteArray}{T:List Tk}
theorem qv7(hw:WfQ T)(hT:T.length<2 ^ 40){n:Nat}(ihe:ExK s T n)(ihl:LoK s T n):LoK s T (n+1):=by
 intro p lv i t r e x hp hlv h hx
 obtain⟨on,ol⟩:=qyd hp
 have hd:=qai (qg1 p) true
 have hp2:p≠3/\p≠4/\p≠7/\1<=p/\p<=6:=by rcases hp with rfl|rfl|rfl|rfl<;>omega
 rw[qbR] at hx
 by_cases hb:t.bad=0
 ·have hnx:nx (t::r)=some t.s:=if_pos hb
  rw[hnx] at hx
  simp only at hx
  cases ho:qhL p t.s with
  |none=>
   rw[ho] at hx
   cases hx
   exact⟨i,h,by simp,qsJ hd ol on h hb (qv6 hp ho) e⟩
  |some o=>
   rw[ho] at hx
   simp only[WR] at hx
   obtain⟨q1,q2⟩:=qv5 hp ho
   have hne:t.s≠⟨#[]⟩:=fun e=>on (e ▸ q2)
   obtain⟨n1,n2⟩:=hw.next h hb hne
   obtain⟨t',r',hr⟩ : ∃ t' r',r=t'::r':=by cases r with
    |nil=>exact absurd rfl n2
    |cons a b=>exact⟨a,b,rfl⟩
   subst hr
   cases hq:qak 12 2 true n (p+1) lv (t'::r') with
   |none=>rw[hq] at hx; cases hx
   |some y=>
    rw[hq] at hx
    have ho':=ihe (p+1) lv (i+1) t' r' y (by omega) (by omega) hlv n1 hq
    cases y with
    |er a c=>
     simp only[Wb] at hx
     subst hx
     obtain⟨i',z⟩:=ho'
     exact⟨i',_,e,rfl,qsL hd ol hT on h hb q2 e (qoi hp z)⟩
    |ok e' r''=>
     simp only[if_neg hp2.2.1] at hx
     obtain⟨i',a1,a2,z⟩:=ho'
     have zs:=qqI hd ol hT on h hb q2 q1 e e' (qqH hp z)
     obtain⟨t2,r2,hr2⟩ : ∃ t2 r2,r''=t2::r2:=by cases r'' with
      |nil=>exact absurd rfl a2
      |cons a b=>exact⟨a,b,rfl⟩
     subst hr2
     have:=ihl p lv i' t2 r2 (.bin true o e e') x hp hlv a1 hx
     cases x with
     |ok e3 r3=>
      obtain⟨i3,b1,b2,b3⟩:=this
      exact⟨i3,b1,b2,zs.trans b3⟩
     |er a c=>
      obtain⟨i3,fr,e3,b1,b2⟩:=this
      exact⟨i3,fr,e3,b1,zs.trans b2⟩
 ·have hnx:nx (t::r)=none:=if_neg hb
  rw[hnx] at hx
  simp only at hx
  rw[if_neg (by omega)] at hx
  simp only[failP,if_neg hb,Wb] at hx
  subst hx
  exact⟨i,_,e,rfl,qsK hd h hb e⟩
end
end
section
open F
attribute [local simp] qbm qca dkey
section
variable{s:ByteArray}{T:List Tk}{lv i i' i2:Nat}{g:Nat}{d:D}{e e':E}{a c:Int}
theorem qAK (ho:V.one (.dat d)=true) (hc:V.cells (.dat d)=[.dat d])
  (z:Z tP (.call g [.ptr 0 0,.ptr 1 0] (CS s T lv i 0 12))=some (.ret e.node (CS s T lv i' 0 12)))
  (zl:Z tP (.loop 5 F285l0 (bqF g d) (BL s T lv i' 0 12 e))=some (.out (.exit 0) (bqF g d++[(13,.bool false)]) (BL s T lv i2 0 12 e'))) :
  Z tP (.call 285 [.ptr 0 0,.fn g [] [.ptr 1 0,.ptr 2 0],.dat d] (BS s T lv i 0 12))=some (.ret e'.node (BS s T lv i2 0 12)):=by
 simp only[CS,BL,pO,ndO] at z zl
 refine Z_call (pf:=F285) rfl rfl ?_
 simp[F285,z,zl,ho,hc,Wa]
theorem qx4 (ho:V.one (.dat d)=true) (hc:V.cells (.dat d)=[.dat d])
  (z:Z tP (.call g [.ptr 0 0,.ptr 1 0] (CS s T lv i 0 12))=some (.ret (qbt c) (CS s T lv i' a c))) :
  Z tP (.call 285 [.ptr 0 0,.fn g [] [.ptr 1 0,.ptr 2 0],.dat d] (BS s T lv i 0 12))=some (.ret (qbt c) (BS s T lv i' a c)):=by
 simp only[CS,pO] at z
 refine Z_call (pf:=F285) rfl rfl ?_
 simp[F285,z,ho,hc,qaf,Wa]
theorem qx5 (ho:V.one (.dat d)=true) (hc:V.cells (.dat d)=[.dat d]) {fr:Fr} (hf:fr.get 1000000=none)
  (z:Z tP (.call g [.ptr 0 0,.ptr 1 0] (CS s T lv i 0 12))=some (.ret e.node (CS s T lv i' 0 12)))
  (zl:Z tP (.loop 5 F285l0 (bqF g d) (BL s T lv i' 0 12 e))=some (.out (.pan (.iface 1 (.int c))) fr (BL s T lv i2 a c e'))) :
  Z tP (.call 285 [.ptr 0 0,.fn g [] [.ptr 1 0,.ptr 2 0],.dat d] (BS s T lv i 0 12))=some (.ret (qbt c) (BS s T lv i2 a c)):=by
 simp only[CS,BL,pO,ndO] at z zl
 refine Z_call (pf:=F285) rfl rfl ?_
 simp[F285,z,zl,ho,hc,hf,Wa]
theorem qAL {p:Nat} (hp:qlb p) (z:Z tP (.call 285 [.ptr 0 0,.fn (clF p) [] [.ptr 1 0,.ptr 2 0],.dat (.sl (strC (qg1 p)) (qg1 p).length true)] (BS s T lv i 0 12))=some (.ret e.node (BS s T lv i' 0 12))) :
  Z tP (.call (fnP p) [.ptr 0 0,.int lv] (PS s T i 0 12))=some (.ret e.node (PS s T i' 0 12)):=by
 simp only[BS,pO] at z
 rcases hp with rfl|rfl|rfl|rfl
 ·refine Z_call (pf:=F279) rfl rfl ?_
  simp only[clF,qg1,strC,Wo,Wq,Wj,Wu] at z
  simp[F279,z,Wa]
 ·refine Z_call (pf:=F287) rfl rfl ?_
  simp only[clF,qg1,strC,Wo,Wq,Wj,Wu] at z
  simp[F287,z,Wa]
 ·refine Z_call (pf:=F297) rfl rfl ?_
  simp only[clF,qg1,strC,Wo,Wq,Wj,Wu] at z
  simp[F297,z,Wa]
 ·refine Z_call (pf:=F304) rfl rfl ?_
  simp only[clF,qg1,strC,Wo,Wq,Wj,Wu] at z
  simp[F304,z,Wa]
theorem qx6 {p:Nat} (hp:qlb p) (z:Z tP (.call 285 [.ptr 0 0,.fn (clF p) [] [.ptr 1 0,.ptr 2 0],.dat (.sl (strC (qg1 p)) (qg1 p).length true)] (BS s T lv i 0 12))=some (.ret (qbt c) (BS s T lv i' a c))) :
  Z tP (.call (fnP p) [.ptr 0 0,.int lv] (PS s T i 0 12))=some (.ret (qbt c) (PS s T i' a c)):=by
 simp only[BS,pO] at z
 rcases hp with rfl|rfl|rfl|rfl
 ·refine Z_call (pf:=F279) rfl rfl ?_
  simp only[clF,qg1,strC,Wo,Wq,Wj,Wu] at z
  simp[F279,z,qaf,Wa]
 ·refine Z_call (pf:=F287) rfl rfl ?_
  simp only[clF,qg1,strC,Wo,Wq,Wj,Wu] at z
  simp[F287,z,qaf,Wa]
 ·refine Z_call (pf:=F297) rfl rfl ?_
  simp only[clF,qg1,strC,Wo,Wq,Wj,Wu] at z
  simp[F297,z,qaf,Wa]
 ·refine Z_call (pf:=F304) rfl rfl ?_
  simp only[clF,qg1,strC,Wo,Wq,Wj,Wu] at z
  simp[F304,z,qaf,Wa]
end
section
variable{s:ByteArray}{T:List Tk}
theorem qoJ{n:Nat}(ihe:ExK s T n)(ihl:LoK s T n){p lv i:Nat}{t:Tk}{r:List Tk}{x:Rz E}(hp:qlb p)(hlv:lv<=20)(h:T.drop i=t::r)(hx:qak 12 2 true (n+1) p lv (t::r)=some x):Out s T (Z tP (.call (fnP p) [.ptr 0 0,.int lv] (PS s T i 0 12))) x E.node:=by
 have hp2:p≠3/\p≠7/\1<=p/\p<8/\p+1<=8:=by rcases hp with rfl|rfl|rfl|rfl<;>omega
 have hd:=qai (qg1 p) true
 rw[qak,if_neg (by rintro (h|h); exact hp2.1 h.1; exact hp2.2.1 h.1),if_pos hp2.2.2.2.1] at hx
 cases hq:qak 12 2 true n (p+1) lv (t::r) with
 |none=>rw[hq] at hx; cases hx
 |some y=>
  rw[hq] at hx
  have ho:=ihe (p+1) lv i t r y (by omega) hp2.2.2.2.2 hlv h hq
  cases y with
  |er a c=>
   simp only[Wb] at hx
   subst hx
   obtain⟨i',z⟩:=ho
   exact⟨i',qx6 hp (qx4 hd.one hd.cells (qoi hp z))⟩
  |ok e r'=>
   simp only at hx
   obtain⟨i',a1,a2,z⟩:=ho
   have zc:=qqH hp z
   obtain⟨t2,r2,hr2⟩ : ∃ t2 r2,r'=t2::r2:=by cases r' with
    |nil=>exact absurd rfl a2
    |cons a b=>exact⟨a,b,rfl⟩
   subst hr2
   have hl:=ihl p lv i' t2 r2 e x hp hlv a1 hx
   cases x with
   |ok e3 r3=>
    obtain⟨i3,b1,b2,b3⟩:=hl
    exact⟨i3,b1,b2,qAL hp (qAK hd.one hd.cells zc b3)⟩
   |er a c=>
    obtain⟨i3,fr,e3,b1,b2⟩:=hl
    exact⟨i3,qx6 hp (qx5 hd.one hd.cells b1 zc b2)⟩
end
end
section
open F
attribute [local simp] qbm qca dkey
def qoD:List ByteArray:=[⟨#[60]⟩,⟨#[60,61]⟩,⟨#[62]⟩,⟨#[62,61]⟩,⟨#[61,61]⟩,⟨#[33,61]⟩]
theorem qtb{y:ByteArray}{o:Bop}(h:qhL 4 y=some o):y=o.str/\y∈qoD:=by
 have h1:o.str=y:=by have:=List.find?_some h; simpa using this
 have h2:=List.mem_of_find?_eq_some h
 subst h1
 refine⟨rfl,?_⟩
 simp only[Ws,WA,or_false] at h2
 rcases h2 with rfl|rfl|rfl|rfl|rfl|rfl<;>decide
theorem qtc{y:ByteArray}(h:qhL 4 y=none):y∉qoD:=by
 have h2:=YB.1 h
 intro hm
 simp only[qoD,Ws,WA,or_false] at hm
 simp only[Ws,WA,or_false] at h2
 rcases hm with rfl|rfl|rfl|rfl|rfl|rfl
 ·exact h2 .lt (by simp) (by decide)
 ·exact h2 .le (by simp) (by decide)
 ·exact h2 .gt (by simp) (by decide)
 ·exact h2 .ge (by simp) (by decide)
 ·exact h2 .eq (by simp) (by decide)
 ·exact h2 .ne (by simp) (by decide)
section
variable{s:ByteArray}{T:List Tk}{lv i i' i2:Nat}{e e':E}{a c:Int}{t:Tk}{r:List Tk}
theorem qxT(z:Z tP (.call 297 [.ptr 0 0,.int lv] (PS s T i 0 12))=some (.ret (qbt c) (PS s T i' a c))):Z tP (.call 292 [.ptr 0 0,.int lv] (PS s T i 0 12))=some (.ret (qbt c) (PS s T i' a c)):=by
 simp only[PS,pO] at z
 refine Z_call (pf:=F292) rfl rfl ?_
 simp[F292,z,qaf,Wa]
theorem qzJ(z:Z tP (.call 297 [.ptr 0 0,.int lv] (PS s T i 0 12))=some (.ret e.node (PS s T i' 0 12)))(h:T.drop i'=t::r)(hb:t.bad=0)(hm:t.s∉qoD):Z tP (.call 292 [.ptr 0 0,.int lv] (PS s T i 0 12))=some (.ret e.node (PS s T i' 0 12)):=by
 have zi:=qaW (s:=s) (a:=0) (c:=12) h hb (qai qoD true) (by decide) (by decide)
 simp only[PS,pO] at z
 simp only[hm,decide_false] at zi
 simp only[PS,pO,qoD,strC,Wo,Wq,Wj,Wu] at zi
 refine Z_call (pf:=F292) rfl rfl ?_
 simp[F292,z,zi,Wa]
theorem qzK(z:Z tP (.call 297 [.ptr 0 0,.int lv] (PS s T i 0 12))=some (.ret e.node (PS s T i' 0 12)))(h:T.drop i'=t::r)(hb:t.bad≠0):Z tP (.call 292 [.ptr 0 0,.int lv] (PS s T i 0 12))=some (.ret (qbt t.bad) (PS s T i' t.at_ t.bad)):=by
 have zi:=qgi (s:=s) (a:=0) (c:=12) h hb (qai qoD true)
 simp only[PS,pO] at z
 simp only[PS,pO,qoD,strC,Wo,Wq,Wj,Wu] at zi
 refine Z_call (pf:=F292) rfl rfl ?_
 simp[F292,z,zi,qaf,Wa]
theorem qAA (hT:T.length<2 ^ 40) (z:Z tP (.call 297 [.ptr 0 0,.int lv] (PS s T i 0 12))=some (.ret e.node (PS s T i' 0 12))) (h:T.drop i'=t::r) (hb:t.bad=0) (hm:t.s∈qoD) {o:Bop} (hs:t.s=o.str)
  (z2:Z tP (.call 297 [.ptr 0 0,.int lv] (PS s T ((i'+1:Nat):Int) 0 12))=some (.ret e'.node (PS s T i2 0 12))):Z tP (.call 292 [.ptr 0 0,.int lv] (PS s T i 0 12))=some (.ret (E.bin true o e e').node (PS s T i2 0 12)):=by
 have zi:=qaW (s:=s) (a:=0) (c:=12) h hb (qai qoD true) (by decide) (by decide)
 have zt:=qaU (s:=s) (a:=0) (c:=12) h hb hT
 have htx:=qas hb
 simp only[PS,pO] at z z2
 simp only[hm,decide_true] at zi
 simp only[PS,pO,qoD,strC,Wo,Wq,Wj,Wu] at zi
 simp only[PS,pO,ptk,ptD,htx,hs] at zt
 simp only[Wn,Wd] at z2 zt
 refine Z_call (pf:=F292) rfl rfl ?_
 simp[F292,z,zi,zt,z2,qbX,qaO,qbE,qb9,qbk,still,V.same,Wa]
 try rfl
theorem qxU (hT:T.length<2 ^ 40) (z:Z tP (.call 297 [.ptr 0 0,.int lv] (PS s T i 0 12))=some (.ret e.node (PS s T i' 0 12))) (h:T.drop i'=t::r) (hb:t.bad=0) (hm:t.s∈qoD)
  (z2:Z tP (.call 297 [.ptr 0 0,.int lv] (PS s T ((i'+1:Nat):Int) 0 12))=some (.ret (qbt c) (PS s T i2 a c))):Z tP (.call 292 [.ptr 0 0,.int lv] (PS s T i 0 12))=some (.ret (qbt c) (PS s T i2 a c)):=by
 have zi:=qaW (s:=s) (a:=0) (c:=12) h hb (qai qoD true) (by decide) (by decide)
 have zt:=qaU (s:=s) (a:=0) (c:=12) h hb hT
 simp only[PS,pO] at z z2
 simp only[hm,decide_true] at zi
 simp only[PS,pO,qoD,strC,Wo,Wq,Wj,Wu] at zi
 simp only[PS,pO,ptk,ptD] at zt
 simp only[Wn,Wd] at z2 zt
 refine Z_call (pf:=F292) rfl rfl ?_
 simp[F292,z,zi,zt,z2,qaf,qaM,qbX,qaO,qbE,qb9,qbk,still,V.same,Wa]
theorem qxV(hw:WfQ T)(hT:T.length<2 ^ 40){n:Nat}(ihe:ExK s T n){x:Rz E}(hlv:lv<=20)(h:T.drop i=t::r)(hx:qak 12 2 true (n+1) 4 lv (t::r)=some x):Out s T (Z tP (.call 292 [.ptr 0 0,.int lv] (PS s T i 0 12))) x E.node:=by
 rw[qak,if_neg (by rintro (h|h); exact absurd h.1 (by decide); exact absurd h.1 (by decide)),if_pos (by decide)] at hx
 cases hq:qak 12 2 true n 5 lv (t::r) with
 |none=>rw[hq] at hx; cases hx
 |some y=>
  rw[hq] at hx
  have ho:=ihe 5 lv i t r y (by omega) (by omega) hlv h hq
  cases y with
  |er a c=>
   simp only[Wb] at hx
   subst hx
   obtain⟨i',z⟩:=ho
   exact⟨i',qxT z⟩
  |ok e r'=>
   simp only at hx
   obtain⟨i',a1,a2,z⟩:=ho
   obtain⟨t2,r2,hr2⟩ : ∃ t2 r2,r'=t2::r2:=by cases r' with
    |nil=>exact absurd rfl a2
    |cons a b=>exact⟨a,b,rfl⟩
   subst hr2
   cases n with
   |zero=>simp only[qak] at hq; cases hq
   |succ m=>
    rw[qbR] at hx
    by_cases hb:t2.bad=0
    ·have hnx:nx (t2::r2)=some t2.s:=if_pos hb
     rw[hnx] at hx
     simp only at hx
     cases hop:qhL 4 t2.s with
     |none=>
      rw[hop] at hx
      cases hx
      exact⟨i',a1,a2,qzJ z a1 hb (qtc hop)⟩
     |some o=>
      rw[hop] at hx
      simp only[WR,if_true] at hx
      obtain⟨q1,q2⟩:=qtb hop
      have hne:t2.s≠⟨#[]⟩:=fun e=>absurd (e ▸ q2) (by decide)
      obtain⟨n1,n2⟩:=hw.next a1 hb hne
      obtain⟨t3,r3,hr3⟩ : ∃ t3 r3,r2=t3::r3:=by cases r2 with
       |nil=>exact absurd rfl n2
       |cons a b=>exact⟨a,b,rfl⟩
      subst hr3
      cases hq2:qak 12 2 true m 5 lv (t3::r3) with
      |none=>rw[hq2] at hx; cases hx
      |some y2=>
       rw[hq2] at hx
       have ho2:=ihe 5 lv (i'+1) t3 r3 y2 (by omega) (by omega) hlv n1 (qbh hq2 (by omega))
       cases y2 with
       |er a c=>
        simp only[Wb] at hx
        subst hx
        obtain⟨i2,z2⟩:=ho2
        exact⟨i2,qxU hT z a1 hb q2 z2⟩
       |ok e2 r4=>
        simp only[Wb] at hx
        subst hx
        obtain⟨i2,d1,d2,z2⟩:=ho2
        exact⟨i2,d1,d2,qAA hT z a1 hb q2 q1 z2⟩
    ·have hnx:nx (t2::r2)=none:=if_neg hb
     rw[hnx] at hx
     simp only at hx
     rw[if_neg (by decide)] at hx
     simp only[failP,if_neg hb,Wb] at hx
     subst hx
     exact⟨i',qzK z a1 hb⟩
end
end
section
open F
attribute [local simp] qbm qca dkey
theorem qqN{t:Tk}(hb:t.bad≠0)(r:List Tk) : ∀ (n p lv:Nat) (x:Rz E),qak 12 2 true n p lv (t::r)=some x->x = .er t.at_ t.bad
 |0,p,lv,x,h=>by simp[qak] at h
 |n+1,p,lv,x,h=>by
  have hnx:nx (t::r)=none:=if_neg hb
  rw[qak,hnx,if_neg (by rintro (h|h); cases h.2; cases h.2)] at h
  by_cases hp:p<8
  ·rw[if_pos hp] at h
   cases hq:qak 12 2 true n (p+1) lv (t::r) with
   |none=>rw[hq] at h; cases h
   |some y=>
    have:=qqN hb r n (p+1) lv y hq
    rw[hq,this] at h
    simpa using h.symm
  ·rw[if_neg hp] at h
   simp only[failP,if_neg hb,Wb] at h
   exact h.symm
def unF(neg:Bool):Nat:=if neg then 308 else 290
def unG(neg:Bool):Nat:=if neg then 309 else 292
section
variable{s:ByteArray}{T:List Tk}{lv i i' i2:Nat}{e e':E}{a c:Int}{t:Tk}{r:List Tk}{neg:Bool}
theorem qAw(h:T.drop i=t::r)(hb:t.bad=0)(hm:t.s≠ustr neg)(z:Z tP (.call (unG neg) [.ptr 0 0,.int lv] (PS s T i 0 12))=some (.ret e.node (PS s T i' 0 12))):Z tP (.call (unF neg) [.ptr 0 0,.int lv] (PS s T i 0 12))=some (.ret e.node (PS s T i' 0 12)):=by
 have zi:=qaW (s:=s) (a:=0) (c:=12) h hb (qai [ustr neg] true) (by simp) (by cases neg<;>decide)
 simp only[Wk,hm,decide_false] at zi
 simp only[PS,pO] at z
 cases neg
 ·simp only[unG,Wm,if_false] at z
  simp only[PS,pO,ustr,strC,Wo,Wq,Wh,Wm,if_false] at zi
  refine Z_call (pf:=F290) rfl rfl ?_
  simp[F290,z,zi,Wa]
 ·simp only[unG,if_true] at z
  simp only[PS,pO,ustr,strC,Wo,Wq,Wh,if_true] at zi
  refine Z_call (pf:=F308) rfl rfl ?_
  simp[F308,z,zi,Wa]
theorem qvi(h:T.drop i=t::r)(hb:t.bad=0)(hm:t.s≠ustr neg)(z:Z tP (.call (unG neg) [.ptr 0 0,.int lv] (PS s T i 0 12))=some (.ret (qbt c) (PS s T i' a c))):Z tP (.call (unF neg) [.ptr 0 0,.int lv] (PS s T i 0 12))=some (.ret (qbt c) (PS s T i' a c)):=by
 have zi:=qaW (s:=s) (a:=0) (c:=12) h hb (qai [ustr neg] true) (by simp) (by cases neg<;>decide)
 simp only[Wk,hm,decide_false] at zi
 simp only[PS,pO] at z
 cases neg
 ·simp only[unG,Wm,if_false] at z
  simp only[PS,pO,ustr,strC,Wo,Wq,Wh,Wm,if_false] at zi
  refine Z_call (pf:=F290) rfl rfl ?_
  simp[F290,z,zi,qaf,Wa]
 ·simp only[unG,if_true] at z
  simp only[PS,pO,ustr,strC,Wo,Wq,Wh,if_true] at zi
  refine Z_call (pf:=F308) rfl rfl ?_
  simp[F308,z,zi,qaf,Wa]
theorem qzy(h:T.drop i=t::r)(hb:t.bad≠0):Z tP (.call (unF neg) [.ptr 0 0,.int lv] (PS s T i 0 12))=some (.ret (qbt t.bad) (PS s T i t.at_ t.bad)):=by
 have zi:=qgi (s:=s) (a:=0) (c:=12) h hb (qai [ustr neg] true)
 cases neg
 ·simp only[PS,pO,ustr,strC,Wo,Wq,Wh,Wm,if_false] at zi
  refine Z_call (pf:=F290) rfl rfl ?_
  simp[F290,zi,qaf,Wa]
 ·simp only[PS,pO,ustr,strC,Wo,Wq,Wh,if_true] at zi
  refine Z_call (pf:=F308) rfl rfl ?_
  simp[F308,zi,qaf,Wa]
theorem qxB(hlv:lv<=20)(h:T.drop i=t::r)(hb:t.bad=0)(hm:t.s=ustr neg)(zo:Z tP (.call 270 [.ptr 0 0,.str (ustr neg),.int ((lv+1:Nat):Int)] (PS s T i 0 12))=some (.ret (qbt c) (PS s T i' a c))):Z tP (.call (unF neg) [.ptr 0 0,.int lv] (PS s T i 0 12))=some (.ret (qbt c) (PS s T i' a c)):=by
 have zi:=qaW (s:=s) (a:=0) (c:=12) h hb (qai [ustr neg] true) (by simp) (by cases neg<;>decide)
 have w1:=qae ((lv:Int)+1) (by omega)
 simp only[Wk,hm,decide_true] at zi
 simp only[PS,pO] at zo
 simp only[Wn,Wd] at zo
 cases neg
 ·simp only[PS,pO,ustr,strC,Wo,Wq,Wh,Wm,if_false] at zi zo
  refine Z_call (pf:=F290) rfl rfl ?_
  simp[F290,zo,zi,w1,qaf,Wa]
 ·simp only[PS,pO,ustr,strC,Wo,Wq,Wh,if_true] at zi zo
  refine Z_call (pf:=F308) rfl rfl ?_
  simp[F308,zo,zi,w1,qaf,Wa]
theorem qzz (hlv:lv<=20) (h:T.drop i=t::r) (hb:t.bad=0) (hm:t.s=ustr neg) (zo:Z tP (.call 270 [.ptr 0 0,.str (ustr neg),.int ((lv+1:Nat):Int)] (PS s T i 0 12))=some (.ret (.tup []) (PS s T i' 0 12)))
  (z:Z tP (.call (unF neg) [.ptr 0 0,.int ((lv+1:Nat):Int)] (PS s T i' 0 12))=some (.ret (qbt c) (PS s T i2 a c))):Z tP (.call (unF neg) [.ptr 0 0,.int lv] (PS s T i 0 12))=some (.ret (qbt c) (PS s T i2 a c)):=by
 have zi:=qaW (s:=s) (a:=0) (c:=12) h hb (qai [ustr neg] true) (by simp) (by cases neg<;>decide)
 have w1:=qae ((lv:Int)+1) (by omega)
 simp only[Wk,hm,decide_true] at zi
 simp only[PS,pO] at zo z
 simp only[Wn,Wd] at zo z
 cases neg
 ·simp only[PS,pO,unF,ustr,strC,Wo,Wq,Wh,Wm,if_false] at zi zo z
  refine Z_call (pf:=F290) rfl rfl ?_
  simp[F290,zo,zi,z,w1,qaf,Wa]
 ·simp only[PS,pO,unF,ustr,strC,Wo,Wq,Wh,if_true] at zi zo z
  refine Z_call (pf:=F308) rfl rfl ?_
  simp[F308,zo,zi,z,w1,qaf,Wa]
theorem qAx (hlv:lv<=20) (h:T.drop i=t::r) (hb:t.bad=0) (hm:t.s=ustr neg) (zo:Z tP (.call 270 [.ptr 0 0,.str (ustr neg),.int ((lv+1:Nat):Int)] (PS s T i 0 12))=some (.ret (.tup []) (PS s T i' 0 12)))
  (z:Z tP (.call (unF neg) [.ptr 0 0,.int ((lv+1:Nat):Int)] (PS s T i' 0 12))=some (.ret e.node (PS s T i2 0 12))):Z tP (.call (unF neg) [.ptr 0 0,.int lv] (PS s T i 0 12))=some (.ret (E.un true neg e).node (PS s T i2 0 12)):=by
 have zi:=qaW (s:=s) (a:=0) (c:=12) h hb (qai [ustr neg] true) (by simp) (by cases neg<;>decide)
 have w1:=qae ((lv:Int)+1) (by omega)
 simp only[Wk,hm,decide_true] at zi
 simp only[PS,pO] at zo z
 simp only[Wn,Wd] at zo z
 cases neg
 ·simp only[PS,pO,unF,ustr,strC,Wo,Wq,Wh,Wm,if_false] at zi zo z
  refine Z_call (pf:=F290) rfl rfl ?_
  simp[F290,zo,zi,z,w1,Wa]
  rfl
 ·simp only[PS,pO,unF,ustr,strC,Wo,Wq,Wh,if_true] at zi zo z
  refine Z_call (pf:=F308) rfl rfl ?_
  simp[F308,zo,zi,z,w1,Wa]
  rfl
end
end
section
open F
theorem qk1{α : Type}{c:Nat}{ts:List Tk}{a : α}{r:List Tk}(h:failP (α := α) c ts = .ok a r):False:=by
 cases ts<;>simp[failP] at h
theorem qk2{x:ByteArray}{lv:Nat}{ts r:List Tk}{u:Unit}(h:qbO 12 2 x lv ts = .ok u r):lv<=20:=by
 by_cases h20:20<lv
 ·rw[qbO] at h
  by_cases hn:nx ts=some x
  ·rw[if_pos ⟨hn,h20⟩] at h
   exact (qk1 h).elim
  ·rw[if_neg (fun e=>hn e.1)] at h
   cases ts with
   |nil=>rw[qam] at h; exact (qk1 h).elim
   |cons t r'=>
    simp only[qam] at h
    by_cases hc:t.bad=0/\t.s=x
    ·exact absurd (show nx (t::r')=some x by rw[nx,if_pos hc.1,hc.2]) hn
    ·rw[if_neg hc] at h
     exact (qk1 h).elim
 ·omega
section
variable{s:ByteArray}{T:List Tk}{lv i:Nat}{t:Tk}{r:List Tk}
theorem qbb{α : Type}{l:List α}(h:l≠[]) : ∃ a r,l=a::r:=by
 cases l with
 |nil=>exact absurd rfl h
 |cons a b=>exact⟨a,b,rfl⟩
theorem qxd(hw:WfQ T)(hT:T.length<2 ^ 40){n:Nat}(ihe:ExK s T n){p:Nat}{neg:Bool}(hp:p=3/\neg=false\/p=7/\neg=true){x:Rz E}(hlv:lv<=20)(h:T.drop i=t::r)(hx:qak 12 2 true (n+1) p lv (t::r)=some x):Out s T (Z tP (.call (unF neg) [.ptr 0 0,.int lv] (PS s T i 0 12))) x E.node:=by
 have hF:fnP p=unF neg:=by rcases hp with ⟨rfl,rfl⟩|⟨rfl,rfl⟩<;>rfl
 have hG:fnP (p+1)=unG neg:=by rcases hp with ⟨rfl,rfl⟩|⟨rfl,rfl⟩<;>rfl
 have hp8:p<8/\1<=p:=by rcases hp with ⟨rfl,_⟩|⟨rfl,_⟩<;>omega
 by_cases hb:t.bad=0
 ·have hnx:nx (t::r)=some t.s:=if_pos hb
  by_cases hm:t.s=ustr neg
  ·have hcond:p=3/\nx (t::r)=some (ustr false)\/p=7/\nx (t::r)=some (ustr true):=by
    rw[hnx,hm]
    rcases hp with ⟨rfl,rfl⟩|⟨rfl,rfl⟩
    ·exact .inl ⟨rfl,rfl⟩
    ·exact .inr ⟨rfl,rfl⟩
   have h7:(p==7)=neg:=by rcases hp with ⟨rfl,rfl⟩|⟨rfl,rfl⟩<;>rfl
   rw[qak,if_pos hcond,h7] at hx
   have ho:=qif (s:=s) hw hT h (x:=ustr neg) (by cases neg<;>decide) (lv:=lv+1)
   cases hq:qbO 12 2 (ustr neg) (lv+1) (t::r) with
   |er a c=>
    rw[hq] at hx ho
    simp only[Wb] at hx
    subst hx
    obtain⟨i',z⟩:=ho
    exact⟨i',qxB hlv h hb hm z⟩
   |ok u r1=>
    have hl1:=qk2 hq
    rw[hq] at hx ho
    simp only at hx
    obtain⟨i',a1,a2,z⟩:=ho
    obtain⟨t1,r2,rfl⟩:=qbb a2
    cases hq2:qak 12 2 true n p (lv+1) (t1::r2) with
    |none=>rw[hq2] at hx; cases hx
    |some y=>
     rw[hq2] at hx
     have h2:=ihe p (lv+1) i' t1 r2 y hp8.2 (by omega) hl1 a1 hq2
     rw[hF] at h2
     cases y with
     |er a c=>
      simp only[Wb] at hx
      subst hx
      obtain⟨i2,z2⟩:=h2
      exact⟨i2,qzz hlv h hb hm z z2⟩
     |ok e r3=>
      simp only[Wb] at hx
      subst hx
      obtain⟨i2,b1,b2,z2⟩:=h2
      exact⟨i2,b1,b2,qAx hlv h hb hm z z2⟩
  ·have hcond : ¬ (p=3/\nx (t::r)=some (ustr false)\/p=7/\nx (t::r)=some (ustr true)):=by
    rw[hnx]
    rcases hp with ⟨rfl,rfl⟩|⟨rfl,rfl⟩
    ·rintro (⟨_,h⟩|⟨h,_⟩)
     ·exact hm (WC h)
     ·cases h
    ·rintro (⟨h,_⟩|⟨_,h⟩)
     ·cases h
     ·exact hm (WC h)
   rw[qak,if_neg hcond,if_pos hp8.1] at hx
   cases hq:qak 12 2 true n (p+1) lv (t::r) with
   |none=>rw[hq] at hx; cases hx
   |some y=>
    rw[hq] at hx
    have h2:=ihe (p+1) lv i t r y (by omega) (by omega) hlv h hq
    rw[hG] at h2
    cases y with
    |er a c=>
     simp only[Wb] at hx
     subst hx
     obtain⟨i2,z2⟩:=h2
     exact⟨i2,qvi h hb hm z2⟩
    |ok e r3=>
     simp only at hx
     obtain⟨i2,b1,b2,z2⟩:=h2
     cases n with
     |zero=>simp only[qak] at hq; cases hq
     |succ m=>
      have hxx:x = .ok e r3:=by
       rw[qbR] at hx
       cases hn3:nx r3 with
       |none=>
        rw[hn3] at hx
        simp only at hx
        rw[if_pos (by rcases hp with ⟨rfl,_⟩|⟨rfl,_⟩; exact .inl rfl; exact .inr rfl)] at hx
        exact (WC hx).symm
       |some y=>
        rw[hn3] at hx
        have hop:qhL p y=none:=by rcases hp with ⟨rfl,_⟩|⟨rfl,_⟩<;>rfl
        simp only[hop] at hx
        exact (WC hx).symm
      subst hxx
      exact⟨i2,b1,b2,qAw h hb hm z2⟩
 ·have:=qqN hb r (n+1) p lv x hx
  subst this
  exact⟨i,qzy h hb⟩
end
end
section
open F
attribute [local simp] qbm qca dkey
def qd1:ByteArray:=⟨#[116,114,117,101]⟩
def qcJ:ByteArray:=⟨#[102,97,108,115,101]⟩
def qee:List ByteArray:=[⟨#[115,101,108,102]⟩,⟨#[111,116,104,101,114]⟩,⟨#[116,105,99,107]⟩]
section
variable{s:ByteArray}{T:List Tk}{lv i i' i2 i3:Nat}{e e':E}{a c:Int}{t:Tk}{r:List Tk}
theorem qyS(h:T.drop i=t::r)(hb:t.bad≠0):Z tP (.call 309 [.ptr 0 0,.int lv] (PS s T i 0 12))=some (.ret (qbt t.bad) (PS s T i t.at_ t.bad)):=by
 have zp:=qe2 (s:=s) (a:=0) (c:=12) h hb
 simp only[PS,pO] at zp
 refine Z_call (pf:=F309) rfl rfl ?_
 simp[F309,zp,qaf,Wa]
theorem qyT(hT:T.length<2 ^ 40)(h:T.drop i=t::r)(hb:t.bad=0)(hk:kindT t=4):Z tP (.call 309 [.ptr 0 0,.int lv] (PS s T i 0 12))=some (.ret (E.int (valT t)).node (PS s T ((i+1:Nat):Int) 0 12)):=by
 have zp:=qaC (s:=s) (a:=0) (c:=12) h hb
 have zt:=qaU (s:=s) (a:=0) (c:=12) h hb hT
 simp only[PS,pO,ptk,ptD,hk] at zp zt
 refine Z_call (pf:=F309) rfl rfl ?_
 simp[F309,zp,zt,Wa]
 try rfl
theorem qyU(hT:T.length<2 ^ 40)(h:T.drop i=t::r)(hb:t.bad=0)(hk:kindT t=1):Z tP (.call 309 [.ptr 0 0,.int lv] (PS s T i 0 12))=some (.ret (E.var t.s).node (PS s T ((i+1:Nat):Int) 0 12)):=by
 have zp:=qaC (s:=s) (a:=0) (c:=12) h hb
 have zt:=qaU (s:=s) (a:=0) (c:=12) h hb hT
 simp only[PS,pO,ptk,ptD,hk,qas hb] at zp zt
 refine Z_call (pf:=F309) rfl rfl ?_
 simp[F309,zp,zt,Wa]
 try rfl
theorem qyV(h:T.drop i=t::r)(hb:t.bad=0)(hk:kindT t=3)(z:Z tP (.call 280 [.ptr 0 0,.int lv] (PS s T i 0 12))=some (.ret e.node (PS s T i' 0 12))):Z tP (.call 309 [.ptr 0 0,.int lv] (PS s T i 0 12))=some (.ret (E.field true t.s e).node (PS s T i' 0 12)):=by
 have zp:=qaC (s:=s) (a:=0) (c:=12) h hb
 simp only[PS,pO,ptk,ptD,hk,qas hb] at zp z
 refine Z_call (pf:=F309) rfl rfl ?_
 simp[F309,zp,z,qbX,qaO,qbE,qb9,qbk,still,V.same,Wa]
 try rfl
theorem qrW(h:T.drop i=t::r)(hb:t.bad=0)(hk:kindT t=3)(z:Z tP (.call 280 [.ptr 0 0,.int lv] (PS s T i 0 12))=some (.ret (qbt c) (PS s T i' a c))):Z tP (.call 309 [.ptr 0 0,.int lv] (PS s T i 0 12))=some (.ret (qbt c) (PS s T i' a c)):=by
 have zp:=qaC (s:=s) (a:=0) (c:=12) h hb
 simp only[PS,pO,ptk,ptD,hk,qas hb] at zp z
 refine Z_call (pf:=F309) rfl rfl ?_
 simp[F309,zp,z,qaf,qaM,qbX,qaO,qbE,qb9,qbk,still,V.same,Wa]
theorem qww(hT:T.length<2 ^ 40)(h:T.drop i=t::r)(hb:t.bad=0)(hk:kindT t=2)(hm:t.s=qd1):Z tP (.call 309 [.ptr 0 0,.int lv] (PS s T i 0 12))=some (.ret (E.bool 1).node (PS s T ((i+1:Nat):Int) 0 12)):=by
 have zp:=qaC (s:=s) (a:=0) (c:=12) h hb
 have zt:=qaU (s:=s) (a:=0) (c:=12) h hb hT
 have z1:=qaW (s:=s) (a:=0) (c:=12) h hb (qai [qd1] true) (by simp) (by decide)
 simp only[hm,Wk,decide_true] at z1
 simp only[PS,pO,ptk,ptD,hk] at zp zt
 simp only[PS,pO,qd1,strC,Wo,Wq,Wh] at z1
 refine Z_call (pf:=F309) rfl rfl ?_
 simp[F309,zp,zt,z1,Wa]
 try rfl
theorem qua(hT:T.length<2 ^ 40)(h:T.drop i=t::r)(hb:t.bad=0)(hk:kindT t=2)(hm:t.s=qcJ):Z tP (.call 309 [.ptr 0 0,.int lv] (PS s T i 0 12))=some (.ret (E.bool 0).node (PS s T ((i+1:Nat):Int) 0 12)):=by
 have zp:=qaC (s:=s) (a:=0) (c:=12) h hb
 have zt:=qaU (s:=s) (a:=0) (c:=12) h hb hT
 have z1:=qaW (s:=s) (a:=0) (c:=12) h hb (qai [qd1] true) (by simp) (by decide)
 have z2:=qaW (s:=s) (a:=0) (c:=12) h hb (qai [qcJ] true) (by simp) (by decide)
 have hne:qcJ≠qd1:=by decide
 simp only[hm,Wk,hne,decide_false,decide_true] at z1 z2
 simp only[PS,pO,ptk,ptD,hk] at zp zt
 simp only[PS,pO,qd1,qcJ,strC,Wo,Wq,Wh] at z1 z2
 refine Z_call (pf:=F309) rfl rfl ?_
 simp[F309,zp,zt,z1,z2,Wa]
 try rfl
theorem qwx(hT:T.length<2 ^ 40)(h:T.drop i=t::r)(hb:t.bad=0)(hk:kindT t=2)(hm:t.s∈qee):Z tP (.call 309 [.ptr 0 0,.int lv] (PS s T i 0 12))=some (.ret (E.name t.s).node (PS s T ((i+1:Nat):Int) 0 12)):=by
 have zp:=qaC (s:=s) (a:=0) (c:=12) h hb
 have zt:=qaU (s:=s) (a:=0) (c:=12) h hb hT
 have z1:=qaW (s:=s) (a:=0) (c:=12) h hb (qai [qd1] true) (by simp) (by decide)
 have z2:=qaW (s:=s) (a:=0) (c:=12) h hb (qai [qcJ] true) (by simp) (by decide)
 have z3:=qaW (s:=s) (a:=0) (c:=12) h hb (qai qee true) (by decide) (by decide)
 have n1:t.s≠qd1:=fun e=>absurd (e ▸ hm) (by decide)
 have n2:t.s≠qcJ:=fun e=>absurd (e ▸ hm) (by decide)
 simp only[hm,Wk,n1,n2,decide_false,decide_true] at z1 z2 z3
 simp only[PS,pO,ptk,ptD,hk,qas hb] at zp zt
 simp only[PS,pO,qd1,qcJ,qee,strC,Wo,Wq,Wj,Wu] at z1 z2 z3
 refine Z_call (pf:=F309) rfl rfl ?_
 simp[F309,zp,zt,z1,z2,z3,Wa]
 try rfl
end
end
section
open F
attribute [local simp] qbm qca dkey
section
variable{s:ByteArray}{T:List Tk}{lv i i' i2 i3:Nat}{e:E}{a c:Int}{t:Tk}{r:List Tk}
theorem qu4 (hlv:lv<=20) (h:T.drop i=t::r) (hb:t.bad=0) (h4:decide (kindT t=4)=false) (h1:decide (kindT t=1)=false) (h3:decide (kindT t=3)=false) (n1:t.s≠qd1) (n2:t.s≠qcJ) (n3:t.s∉qee)
  (zo:Z tP (.call 270 [.ptr 0 0,.str ⟨#[40]⟩,.int ((lv+1:Nat):Int)] (PS s T i 0 12))=some (.ret (qbt c) (PS s T i' a c))):Z tP (.call 309 [.ptr 0 0,.int lv] (PS s T i 0 12))=some (.ret (qbt c) (PS s T i' a c)):=by
 have w1:=qae ((lv:Int)+1) (by omega)
 have zp:=qaC (s:=s) (a:=0) (c:=12) h hb
 have z1:=qaW (s:=s) (a:=0) (c:=12) h hb (qai [qd1] true) (by simp) (by decide)
 have z2:=qaW (s:=s) (a:=0) (c:=12) h hb (qai [qcJ] true) (by simp) (by decide)
 have z3:=qaW (s:=s) (a:=0) (c:=12) h hb (qai qee true) (by decide) (by decide)
 simp only[Wk,n1,n2,n3,decide_false] at z1 z2 z3
 simp only[PS,pO,ptk,ptD,qas hb] at zp
 simp only[PS,pO,qd1,qcJ,qee,strC,Wo,Wq,Wj,Wu] at z1 z2 z3
 simp only[PS,pO] at zo
 simp only[Wn,Wd] at zo
 refine Z_call (pf:=F309) rfl rfl ?_
 simp[F309,zp,z1,z2,z3,h4,h1,h3,w1,zo,qaf,Wa]
theorem qu5 (hlv:lv<=20) (h:T.drop i=t::r) (hb:t.bad=0) (h4:decide (kindT t=4)=false) (h1:decide (kindT t=1)=false) (h3:decide (kindT t=3)=false) (n1:t.s≠qd1) (n2:t.s≠qcJ) (n3:t.s∉qee)
  (zo:Z tP (.call 270 [.ptr 0 0,.str ⟨#[40]⟩,.int ((lv+1:Nat):Int)] (PS s T i 0 12))=some (.ret (.tup []) (PS s T i' 0 12)))
  (ze:Z tP (.call 279 [.ptr 0 0,.int ((lv+1:Nat):Int)] (PS s T i' 0 12))=some (.ret (qbt c) (PS s T i2 a c))):Z tP (.call 309 [.ptr 0 0,.int lv] (PS s T i 0 12))=some (.ret (qbt c) (PS s T i2 a c)):=by
 have w1:=qae ((lv:Int)+1) (by omega)
 have zp:=qaC (s:=s) (a:=0) (c:=12) h hb
 have z1:=qaW (s:=s) (a:=0) (c:=12) h hb (qai [qd1] true) (by simp) (by decide)
 have z2:=qaW (s:=s) (a:=0) (c:=12) h hb (qai [qcJ] true) (by simp) (by decide)
 have z3:=qaW (s:=s) (a:=0) (c:=12) h hb (qai qee true) (by decide) (by decide)
 simp only[Wk,n1,n2,n3,decide_false] at z1 z2 z3
 simp only[PS,pO,ptk,ptD,qas hb] at zp
 simp only[PS,pO,qd1,qcJ,qee,strC,Wo,Wq,Wj,Wu] at z1 z2 z3
 simp only[PS,pO] at zo ze
 simp only[Wn,Wd] at zo ze
 refine Z_call (pf:=F309) rfl rfl ?_
 simp[F309,zp,z1,z2,z3,h4,h1,h3,w1,zo,ze,qaf,Wa]
theorem qu6 (hlv:lv<=20) (h:T.drop i=t::r) (hb:t.bad=0) (h4:decide (kindT t=4)=false) (h1:decide (kindT t=1)=false) (h3:decide (kindT t=3)=false) (n1:t.s≠qd1) (n2:t.s≠qcJ) (n3:t.s∉qee)
  (zo:Z tP (.call 270 [.ptr 0 0,.str ⟨#[40]⟩,.int ((lv+1:Nat):Int)] (PS s T i 0 12))=some (.ret (.tup []) (PS s T i' 0 12)))
  (ze:Z tP (.call 279 [.ptr 0 0,.int ((lv+1:Nat):Int)] (PS s T i' 0 12))=some (.ret e.node (PS s T i2 0 12)))
  (zc:Z tP (.call 253 [.ptr 0 0,.str ⟨#[41]⟩] (PS s T i2 0 12))=some (.ret (qbt c) (PS s T i3 a c))):Z tP (.call 309 [.ptr 0 0,.int lv] (PS s T i 0 12))=some (.ret (qbt c) (PS s T i3 a c)):=by
 have w1:=qae ((lv:Int)+1) (by omega)
 have zp:=qaC (s:=s) (a:=0) (c:=12) h hb
 have z1:=qaW (s:=s) (a:=0) (c:=12) h hb (qai [qd1] true) (by simp) (by decide)
 have z2:=qaW (s:=s) (a:=0) (c:=12) h hb (qai [qcJ] true) (by simp) (by decide)
 have z3:=qaW (s:=s) (a:=0) (c:=12) h hb (qai qee true) (by decide) (by decide)
 simp only[Wk,n1,n2,n3,decide_false] at z1 z2 z3
 simp only[PS,pO,ptk,ptD,qas hb] at zp
 simp only[PS,pO,qd1,qcJ,qee,strC,Wo,Wq,Wj,Wu] at z1 z2 z3
 simp only[PS,pO] at zo ze zc
 simp only[Wn,Wd] at zo ze
 refine Z_call (pf:=F309) rfl rfl ?_
 simp[F309,zp,z1,z2,z3,h4,h1,h3,w1,zo,ze,zc,qaf,Wa]
theorem qzr (hlv:lv<=20) (h:T.drop i=t::r) (hb:t.bad=0) (h4:decide (kindT t=4)=false) (h1:decide (kindT t=1)=false) (h3:decide (kindT t=3)=false) (n1:t.s≠qd1) (n2:t.s≠qcJ) (n3:t.s∉qee)
  (zo:Z tP (.call 270 [.ptr 0 0,.str ⟨#[40]⟩,.int ((lv+1:Nat):Int)] (PS s T i 0 12))=some (.ret (.tup []) (PS s T i' 0 12)))
  (ze:Z tP (.call 279 [.ptr 0 0,.int ((lv+1:Nat):Int)] (PS s T i' 0 12))=some (.ret e.node (PS s T i2 0 12)))
  (zc:Z tP (.call 253 [.ptr 0 0,.str ⟨#[41]⟩] (PS s T i2 0 12))=some (.ret (.tup []) (PS s T i3 0 12))):Z tP (.call 309 [.ptr 0 0,.int lv] (PS s T i 0 12))=some (.ret e.node (PS s T i3 0 12)):=by
 have w1:=qae ((lv:Int)+1) (by omega)
 have zp:=qaC (s:=s) (a:=0) (c:=12) h hb
 have z1:=qaW (s:=s) (a:=0) (c:=12) h hb (qai [qd1] true) (by simp) (by decide)
 have z2:=qaW (s:=s) (a:=0) (c:=12) h hb (qai [qcJ] true) (by simp) (by decide)
 have z3:=qaW (s:=s) (a:=0) (c:=12) h hb (qai qee true) (by decide) (by decide)
 simp only[Wk,n1,n2,n3,decide_false] at z1 z2 z3
 simp only[PS,pO,ptk,ptD,qas hb] at zp
 simp only[PS,pO,qd1,qcJ,qee,strC,Wo,Wq,Wj,Wu] at z1 z2 z3
 simp only[PS,pO] at zo ze zc
 simp only[Wn,Wd] at zo ze
 refine Z_call (pf:=F309) rfl rfl ?_
 simp[F309,zp,z1,z2,z3,h4,h1,h3,w1,zo,ze,zc,qaf,Wa]
theorem qu7 (hlv:lv<=20) (hT:T.length<2 ^ 40) (h:T.drop i=t::r) (hb:t.bad=0)
  (zo:Z tP (.call 270 [.ptr 0 0,.str ⟨#[91]⟩,.int ((lv+1:Nat):Int)] (PS s T ((i+1:Nat):Int) 0 12))=some (.ret (qbt c) (PS s T i' a c))):Z tP (.call 280 [.ptr 0 0,.int lv] (PS s T i 0 12))=some (.ret (qbt c) (PS s T i' a c)):=by
 have w1:=qae ((lv:Int)+1) (by omega)
 have zt:=qaU (s:=s) (a:=0) (c:=12) h hb hT
 simp only[PS,pO,ptk,ptD] at zt
 simp only[Wn,Wd] at zt
 simp only[PS,pO] at zo
 simp only[Wn,Wd] at zo
 refine Z_call (pf:=F280) rfl rfl ?_
 simp[F280,zt,w1,zo,qaf,Wa]
theorem qu8 (hlv:lv<=20) (hT:T.length<2 ^ 40) (h:T.drop i=t::r) (hb:t.bad=0)
  (zo:Z tP (.call 270 [.ptr 0 0,.str ⟨#[91]⟩,.int ((lv+1:Nat):Int)] (PS s T ((i+1:Nat):Int) 0 12))=some (.ret (.tup []) (PS s T i' 0 12)))
  (ze:Z tP (.call 279 [.ptr 0 0,.int ((lv+1:Nat):Int)] (PS s T i' 0 12))=some (.ret (qbt c) (PS s T i2 a c))):Z tP (.call 280 [.ptr 0 0,.int lv] (PS s T i 0 12))=some (.ret (qbt c) (PS s T i2 a c)):=by
 have w1:=qae ((lv:Int)+1) (by omega)
 have zt:=qaU (s:=s) (a:=0) (c:=12) h hb hT
 simp only[PS,pO,ptk,ptD] at zt
 simp only[Wn,Wd] at zt
 simp only[PS,pO] at zo ze
 simp only[Wn,Wd] at zo ze
 refine Z_call (pf:=F280) rfl rfl ?_
 simp[F280,zt,w1,zo,ze,qaf,Wa]
theorem qu9 (hlv:lv<=20) (hT:T.length<2 ^ 40) (h:T.drop i=t::r) (hb:t.bad=0)
  (zo:Z tP (.call 270 [.ptr 0 0,.str ⟨#[91]⟩,.int ((lv+1:Nat):Int)] (PS s T ((i+1:Nat):Int) 0 12))=some (.ret (.tup []) (PS s T i' 0 12)))
  (ze:Z tP (.call 279 [.ptr 0 0,.int ((lv+1:Nat):Int)] (PS s T i' 0 12))=some (.ret e.node (PS s T i2 0 12)))
  (zc:Z tP (.call 253 [.ptr 0 0,.str ⟨#[93]⟩] (PS s T i2 0 12))=some (.ret (qbt c) (PS s T i3 a c))):Z tP (.call 280 [.ptr 0 0,.int lv] (PS s T i 0 12))=some (.ret (qbt c) (PS s T i3 a c)):=by
 have w1:=qae ((lv:Int)+1) (by omega)
 have zt:=qaU (s:=s) (a:=0) (c:=12) h hb hT
 simp only[PS,pO,ptk,ptD] at zt
 simp only[Wn,Wd] at zt
 simp only[PS,pO] at zo ze zc
 simp only[Wn,Wd] at zo ze
 refine Z_call (pf:=F280) rfl rfl ?_
 simp[F280,zt,w1,zo,ze,zc,qaf,Wa]
theorem qzs (hlv:lv<=20) (hT:T.length<2 ^ 40) (h:T.drop i=t::r) (hb:t.bad=0)
  (zo:Z tP (.call 270 [.ptr 0 0,.str ⟨#[91]⟩,.int ((lv+1:Nat):Int)] (PS s T ((i+1:Nat):Int) 0 12))=some (.ret (.tup []) (PS s T i' 0 12)))
  (ze:Z tP (.call 279 [.ptr 0 0,.int ((lv+1:Nat):Int)] (PS s T i' 0 12))=some (.ret e.node (PS s T i2 0 12)))
  (zc:Z tP (.call 253 [.ptr 0 0,.str ⟨#[93]⟩] (PS s T i2 0 12))=some (.ret (.tup []) (PS s T i3 0 12))):Z tP (.call 280 [.ptr 0 0,.int lv] (PS s T i 0 12))=some (.ret e.node (PS s T i3 0 12)):=by
 have w1:=qae ((lv:Int)+1) (by omega)
 have zt:=qaU (s:=s) (a:=0) (c:=12) h hb hT
 simp only[PS,pO,ptk,ptD] at zt
 simp only[Wn,Wd] at zt
 simp only[PS,pO] at zo ze zc
 simp only[Wn,Wd] at zo ze
 refine Z_call (pf:=F280) rfl rfl ?_
 simp[F280,zt,w1,zo,ze,zc,qaf,Wa]
end
end
section
open F
def qiL(w:ByteArray):Int:=if w=⟨#[]⟩ then 0 else if qaj qaG w then (if w∈fieldNames then 3 else if w∈wordNames then 2 else 1) else if qaj qal w then 4 else 5
theorem qcp{t:Tk}(hb:t.bad=0):kindT t=qiL t.s:=by unfold kindT qiL; rw[if_neg (by simp[hb])]
theorem qqg(w:ByteArray):qaj qal w=true->w≠⟨#[]⟩/\qaj qaG w=false:=by
 rw[qaS,qaS]
 intro h
 refine⟨?_,?_⟩
 ·rintro rfl
  exact absurd h (by decide)
 ·cases hh:(byl w).head? with
  |none=>rfl
  |some c=>
   rw[hh] at h
   simp only at h ⊢
   by_cases hl:qaG c=true
   ·rw[qqa hl] at h; cases h
   ·simpa using hl
theorem qgE{w:ByteArray}(h:qaj qaG w=true):w≠⟨#[]⟩:=by
 rintro rfl
 exact absurd h (by decide)
section
variable(s:ByteArray)(T:List Tk)
def IdK(n:Nat):Prop := ∀ (lv i:Nat) (t:Tk) (r:List Tk) (x:Rz E),lv<=20->T.drop i=t::r->t.bad=0->t.s≠⟨#[]⟩->qa6 12 2 true n lv r=some x->Out s T (Z tP (.call 280 [.ptr 0 0,.int lv] (PS s T i 0 12))) x E.node
variable{s:ByteArray}{T:List Tk}
theorem quE(hw:WfQ T)(hT:T.length<2 ^ 40){n:Nat}(ihe:ExK s T n):IdK s T (n+1):=by
 intro lv i t r x hlv h hb hs hx
 obtain⟨n1,n2⟩:=hw.next h hb hs
 obtain⟨t1,r1,rfl⟩:=qbb n2
 rw[qa6] at hx
 have ho:=qif (s:=s) hw hT n1 (x:=bs [91]) (by decide) (lv:=lv+1)
 cases hq:qbO 12 2 (bs [91]) (lv+1) (t1::r1) with
 |er a c=>
  rw[hq] at hx ho
  simp only[Wb] at hx
  subst hx
  obtain⟨i',z⟩:=ho
  exact⟨i',qu7 hlv hT h hb z⟩
 |ok u r2=>
  have hl1:=qk2 hq
  rw[hq] at hx ho
  simp only at hx
  obtain⟨i',a1,a2,z⟩:=ho
  obtain⟨t2,r3,rfl⟩:=qbb a2
  cases hq2:qak 12 2 true n 1 (lv+1) (t2::r3) with
  |none=>rw[hq2] at hx; cases hx
  |some y=>
   rw[hq2] at hx
   have h2:=ihe 1 (lv+1) i' t2 r3 y (by omega) (by omega) hl1 a1 hq2
   cases y with
   |er a c=>
    simp only[Wb] at hx
    subst hx
    obtain⟨i2,z2⟩:=h2
    exact⟨i2,qu8 hlv hT h hb z z2⟩
   |ok e r4=>
    simp only at hx
    obtain⟨i2,b1,b2,z2⟩:=h2
    obtain⟨t3,r5,rfl⟩:=qbb b2
    have hc:=qcH (s:=s) hw hT b1 (x:=bs [93]) (by decide)
    cases hq3:qam 12 (bs [93]) (t3::r5) with
    |er a c=>
     rw[hq3] at hx hc
     simp only[Wb] at hx
     subst hx
     obtain⟨i3,z3⟩:=hc
     exact⟨i3,qu9 hlv hT h hb z z2 z3⟩
    |ok u2 r6=>
     rw[hq3] at hx hc
     simp only[Wb] at hx
     subst hx
     obtain⟨i3,c1,c2,z3⟩:=hc
     exact⟨i3,c1,c2,qzs hlv hT h hb z z2 z3⟩
theorem quF(hw:WfQ T)(hT:T.length<2 ^ 40)(hP : ∀ t∈T,TokP t){n:Nat}(ihe:ExK s T n)(ihi:IdK s T n){lv i:Nat}{t:Tk}{r:List Tk}{x:Rz E}(hlv:lv<=20)(h:T.drop i=t::r)(hx:qak 12 2 true (n+1) 8 lv (t::r)=some x):Out s T (Z tP (.call 309 [.ptr 0 0,.int lv] (PS s T i 0 12))) x E.node:=by
 by_cases hb:t.bad=0
 case neg=>
  have:=qqN hb r (n+1) 8 lv x hx
  subst this
  exact⟨i,qyS h hb⟩
 have hnx:nx (t::r)=some t.s:=if_pos hb
 have hmem:t∈T:=YH (by rw[h]; exact WQ ..)
 have hk:=qcp hb
 rw[qak,if_neg (by rintro (h|h); exact absurd h.1 (by decide); exact absurd h.1 (by decide)),if_neg (by decide),hnx] at hx
 simp only[WR] at hx
 have good : ∀ {e:E},t.s≠⟨#[]⟩->x = .ok e r->Z tP (.call 309 [.ptr 0 0,.int lv] (PS s T i 0 12))=some (.ret e.node (PS s T ((i+1:Nat):Int) 0 12))->Out s T (Z tP (.call 309 [.ptr 0 0,.int lv] (PS s T i 0 12))) x E.node:=fun hne hx z=>by
  subst hx
  obtain⟨n1,n2⟩:=hw.next h hb hne
  exact⟨i+1,n1,n2,z⟩
 by_cases hd:qaj qal t.s=true
 ·rw[if_pos hd] at hx
  obtain⟨d1,d2⟩:=qqg t.s hd
  have hv:=((hP t hmem).dig hb hd).2.1
  have hval:(valT t:Int)=digV t.s.toList:=by
   unfold valT
   rw[if_pos hd,ByteArray.toList_eq,byl]
   omega
  refine good d1 (WC hx).symm ?_
  rw[<- hval]
  exact qyT hT h hb (by rw[hk,qiL,if_neg d1,d2,if_neg (by decide),if_pos hd])
 rw[if_neg hd] at hx
 by_cases h1:t.s=bs [116,114,117,101]
 ·rw[if_pos h1] at hx
  refine good (by rw[h1]; decide) (WC hx).symm (qww hT h hb ?_ h1)
  rw[hk,h1]; decide
 rw[if_neg h1] at hx
 by_cases h2:t.s=bs [102,97,108,115,101]
 ·rw[if_pos h2] at hx
  refine good (by rw[h2]; decide) (WC hx).symm (qua hT h hb ?_ h2)
  rw[hk,h2]; decide
 rw[if_neg h2] at hx
 by_cases h3:t.s=bs [115,101,108,102]\/t.s=bs [111,116,104,101,114]\/t.s=bs [116,105,99,107]
 ·rw[if_pos h3] at hx
  have hm:t.s∈qee:=by
   simp only[qee,Ws,WA,or_false]
   exact h3
  have hall : ∀ w∈qee,qiL w=2/\w≠⟨#[]⟩:=by decide
  exact good (hall _ hm).2 (WC hx).symm (qwx hT h hb (by rw[hk]; exact (hall _ hm).1) hm)
 rw[if_neg h3] at hx
 have n3:t.s∉qee:=fun hm=>h3 (by
  simp only[qee,Ws,WA,or_false] at hm
  exact hm)
 by_cases hf:t.s∈fieldNames
 ·rw[if_pos hf] at hx
  have hall : ∀ w∈fieldNames,qiL w=3/\w≠⟨#[]⟩:=by decide
  have hk3:kindT t=3:=by rw[hk]; exact (hall _ hf).1
  cases hq:qa6 12 2 true n lv r with
  |none=>rw[hq] at hx; cases hx
  |some y=>
   rw[hq] at hx
   have hi:=ihi lv i t r y hlv h hb (hall _ hf).2 hq
   cases y with
   |er a c=>
    simp only[Wb] at hx
    subst hx
    obtain⟨i',z⟩:=hi
    exact⟨i',qrW h hb hk3 z⟩
   |ok e r'=>
    simp only[Wb] at hx
    subst hx
    obtain⟨i',a1,a2,z⟩:=hi
    exact⟨i',a1,a2,qyV h hb hk3 z⟩
 rw[if_neg hf] at hx
 by_cases hv:qaj qaG t.s=true/\t.s∉wordNames
 ·rw[if_pos hv] at hx
  have hne:=qgE hv.1
  exact good hne (WC hx).symm (qyU hT h hb (by rw[hk,qiL,if_neg hne,if_pos hv.1,if_neg hf,if_neg hv.2]))
 rw[if_neg hv] at hx
 have hk5:kindT t=0\/kindT t=2\/kindT t=5:=by
  rw[hk,qiL]
  by_cases a1:t.s=⟨#[]⟩
  ·exact .inl (if_pos a1)
  ·rw[if_neg a1]
   by_cases a2:qaj qaG t.s=true
   ·rw[if_pos a2,if_neg hf]
    by_cases a3:t.s∈wordNames
    ·rw[if_pos a3]; exact .inr (.inl rfl)
    ·exact absurd ⟨a2,a3⟩ hv
   ·rw[if_neg a2,if_neg hd]; exact .inr (.inr rfl)
 have d4:decide (kindT t=4)=false:=decide_eq_false (by omega)
 have d1:decide (kindT t=1)=false:=decide_eq_false (by omega)
 have d3:decide (kindT t=3)=false:=decide_eq_false (by omega)
 have ho:=qif (s:=s) hw hT h (x:=bs [40]) (by decide) (lv:=lv+1)
 cases hq:qbO 12 2 (bs [40]) (lv+1) (t::r) with
 |er a c=>
  rw[hq] at hx ho
  simp only[Wb] at hx
  subst hx
  obtain⟨i',z⟩:=ho
  exact⟨i',qu4 hlv h hb d4 d1 d3 h1 h2 n3 z⟩
 |ok u r2=>
  have hl1:=qk2 hq
  rw[hq] at hx ho
  simp only at hx
  obtain⟨i',a1,a2,z⟩:=ho
  obtain⟨t2,r3,rfl⟩:=qbb a2
  cases hq2:qak 12 2 true n 1 (lv+1) (t2::r3) with
  |none=>rw[hq2] at hx; cases hx
  |some y=>
   rw[hq2] at hx
   have h2':=ihe 1 (lv+1) i' t2 r3 y (by omega) (by omega) hl1 a1 hq2
   cases y with
   |er a c=>
    simp only[Wb] at hx
    subst hx
    obtain⟨i2,z2⟩:=h2'
    exact⟨i2,qu5 hlv h hb d4 d1 d3 h1 h2 n3 z z2⟩
   |ok e r4=>
    simp only at hx
    obtain⟨i2,b1,b2,z2⟩:=h2'
    obtain⟨t3,r5,rfl⟩:=qbb b2
    have hc:=qcH (s:=s) hw hT b1 (x:=bs [41]) (by decide)
    cases hq3:qam 12 (bs [41]) (t3::r5) with
    |er a c=>
     rw[hq3] at hx hc
     simp only[Wb] at hx
     subst hx
     obtain⟨i3,z3⟩:=hc
     exact⟨i3,qu6 hlv h hb d4 d1 d3 h1 h2 n3 z z2 z3⟩
    |ok u2 r6=>
     rw[hq3] at hx hc
     simp only[Wb] at hx
     subst hx
     obtain⟨i3,c1,c2,z3⟩:=hc
     exact⟨i3,c1,c2,qzr hlv h hb d4 d1 d3 h1 h2 n3 z z2 z3⟩
theorem qqh(hw:WfQ T)(hT:T.length<2 ^ 40)(hP : ∀ t∈T,TokP t) : ∀ n,ExK s T n/\LoK s T n/\IdK s T n
 |0=>⟨fun p lv i t r x _ _ _ _ hx=>by simp[qak] at hx,fun p lv i t r e x _ _ _ hx=>by simp[qbR] at hx,fun lv i t r x _ _ _ _ hx=>by simp[qa6] at hx⟩
 |n+1=>by
  obtain⟨ihe,ihl,ihi⟩:=qqh hw hT hP n
  refine⟨fun p lv i t r x p1 p8 hlv h hx=>?_,qv7 hw hT ihe ihl,quE hw hT ihe⟩
  obtain rfl|rfl|rfl|rfl|rfl|rfl|rfl|rfl:p=1\/p=2\/p=3\/p=4\/p=5\/p=6\/p=7\/p=8:=by omega
  ·exact qoJ ihe ihl (.inl rfl) hlv h hx
  ·exact qoJ ihe ihl (.inr (.inl rfl)) hlv h hx
  ·exact qxd hw hT ihe (neg:=false) (.inl ⟨rfl,rfl⟩) hlv h hx
  ·exact qxV hw hT ihe hlv h hx
  ·exact qoJ ihe ihl (.inr (.inr (.inl rfl))) hlv h hx
  ·exact qoJ ihe ihl (.inr (.inr (.inr rfl))) hlv h hx
  ·exact qxd hw hT ihe (neg:=true) (.inr ⟨rfl,rfl⟩) hlv h hx
  ·exact quF hw hT hP ihe ihi hlv h hx
end
end
section
open F
attribute [local simp] qbm qca dkey
def ifT:ByteArray:=⟨#[105,102]⟩
def qbd:ByteArray:=⟨#[119,104,105,108,101]⟩
def qaX:ByteArray:=⟨#[101,102,102,101,99,116]⟩
def qfT:ByteArray:=⟨#[115,116,111,112]⟩
abbrev nv(k:Int)(x:ByteArray)(d:D):V := .dat (.agg [.lit (.int .i64 k),.lit (.int .i64 0),.lit (.string x),d])
abbrev cE(e:E):List D:=[.lit (.int .i64 e.kind),.lit (.int .i64 e.num),.lit (.string e.str),e.kids]
section
variable{s:ByteArray}{T:List Tk}{lv i i1 i2 i3 i4:Nat}{e e':E}{a c:Int}{t:Tk}{r:List Tk}{d:D}
theorem qyQ{k:Int}{x:ByteArray}(o:V.one (.dat d)=true)(oc:V.cells (.dat d)=[.dat d])(z:Z tP (.call 253 [.ptr 0 0,.str ⟨#[59]⟩] (PS s T i 0 12))=some (.ret (.tup []) (PS s T i1 0 12))):Z tP (.call 278 [.ptr 0 0,nv k x d] (PS s T i 0 12))=some (.ret (nv k x d) (PS s T i1 0 12)):=by
 simp only[PS,pO] at z
 refine Z_call (pf:=F278) rfl rfl ?_
 simp[F278,z,o,oc,Wa]
theorem qwu{k:Int}{x:ByteArray}(o:V.one (.dat d)=true)(oc:V.cells (.dat d)=[.dat d])(z:Z tP (.call 253 [.ptr 0 0,.str ⟨#[59]⟩] (PS s T i 0 12))=some (.ret (qbt c) (PS s T i1 a c))):Z tP (.call 278 [.ptr 0 0,nv k x d] (PS s T i 0 12))=some (.ret (qbt c) (PS s T i1 a c)):=by
 simp only[PS,pO] at z
 refine Z_call (pf:=F278) rfl rfl ?_
 simp[F278,z,o,oc,qaf,Wa]
theorem qkJ (hlv:lv<=20) (hT:T.length<2 ^ 40) (h:T.drop i=t::r) (hb:t.bad=0) (hk:kindT t=1)
  (z1:Z tP (.call 253 [.ptr 0 0,.str ⟨#[61]⟩] (PS s T ((i+1:Nat):Int) 0 12))=some (.ret (qbt c) (PS s T i1 a c))):Z tP (.call 271 [.ptr 0 0,.int lv] (PS s T i 0 12))=some (.ret (qbt c) (PS s T i1 a c)):=by
 have w1:=qae ((lv:Int)+1) (by omega)
 have zp:=qaC (s:=s) (a:=0) (c:=12) h hb
 have zt:=qaU (s:=s) (a:=0) (c:=12) h hb hT
 simp only[PS,pO,ptk,ptD,hk,qas hb] at zp zt
 simp only[PS,pO,cE,nv,Wf,Wc] at z1
 try simp only[Wn,Wd] at zt z1
 refine Z_call (pf:=F271) rfl rfl ?_
 simp[F271,zp,zt,w1,z1,qaf,qaM,qbX,qaO,qbE,qb9,qbk,still,V.same,Wa]
theorem qkK (hlv:lv<=20) (hT:T.length<2 ^ 40) (h:T.drop i=t::r) (hb:t.bad=0) (hk:kindT t=1)
  (z1:Z tP (.call 253 [.ptr 0 0,.str ⟨#[61]⟩] (PS s T ((i+1:Nat):Int) 0 12))=some (.ret (.tup []) (PS s T i1 0 12)))
  (z2:Z tP (.call 279 [.ptr 0 0,.int lv] (PS s T i1 0 12))=some (.ret (qbt c) (PS s T i2 a c))):Z tP (.call 271 [.ptr 0 0,.int lv] (PS s T i 0 12))=some (.ret (qbt c) (PS s T i2 a c)):=by
 have w1:=qae ((lv:Int)+1) (by omega)
 have zp:=qaC (s:=s) (a:=0) (c:=12) h hb
 have zt:=qaU (s:=s) (a:=0) (c:=12) h hb hT
 simp only[PS,pO,ptk,ptD,hk,qas hb] at zp zt
 simp only[PS,pO,cE,nv,Wf,Wc] at z1 z2
 try simp only[Wn,Wd] at zt z1 z2
 refine Z_call (pf:=F271) rfl rfl ?_
 simp[F271,zp,zt,w1,z1,z2,qaf,qaM,qbX,qaO,qbE,qb9,qbk,still,V.same,Wa]
theorem qkL (hlv:lv<=20) (hT:T.length<2 ^ 40) (h:T.drop i=t::r) (hb:t.bad=0) (hk:kindT t=1)
  (z1:Z tP (.call 253 [.ptr 0 0,.str ⟨#[61]⟩] (PS s T ((i+1:Nat):Int) 0 12))=some (.ret (.tup []) (PS s T i1 0 12)))
  (z2:Z tP (.call 279 [.ptr 0 0,.int lv] (PS s T i1 0 12))=some (.ret (e).node (PS s T i2 0 12)))
  (z3:Z tP (.call 278 [.ptr 0 0,nv 1 t.s (.sl (cE e) 1 true)] (PS s T i2 0 12))=some (.ret (qbt c) (PS s T i3 a c))):Z tP (.call 271 [.ptr 0 0,.int lv] (PS s T i 0 12))=some (.ret (qbt c) (PS s T i3 a c)):=by
 have w1:=qae ((lv:Int)+1) (by omega)
 have zp:=qaC (s:=s) (a:=0) (c:=12) h hb
 have zt:=qaU (s:=s) (a:=0) (c:=12) h hb hT
 simp only[PS,pO,ptk,ptD,hk,qas hb] at zp zt
 simp only[PS,pO,cE,nv,Wf,Wc] at z1 z2 z3
 try simp only[Wn,Wd] at zt z1 z2 z3
 refine Z_call (pf:=F271) rfl rfl ?_
 simp[F271,zp,zt,w1,z1,z2,z3,qaf,qaM,qbX,qaO,qbE,qb9,qbk,still,V.same,Wa]
theorem qmX (hlv:lv<=20) (hT:T.length<2 ^ 40) (h:T.drop i=t::r) (hb:t.bad=0) (hk:kindT t=1)
  (z1:Z tP (.call 253 [.ptr 0 0,.str ⟨#[61]⟩] (PS s T ((i+1:Nat):Int) 0 12))=some (.ret (.tup []) (PS s T i1 0 12)))
  (z2:Z tP (.call 279 [.ptr 0 0,.int lv] (PS s T i1 0 12))=some (.ret (e).node (PS s T i2 0 12)))
  (z3:Z tP (.call 278 [.ptr 0 0,nv 1 t.s (.sl (cE e) 1 true)] (PS s T i2 0 12))=some (.ret (nv 1 t.s (.sl (cE e) 1 true)) (PS s T i3 0 12))):Z tP (.call 271 [.ptr 0 0,.int lv] (PS s T i 0 12))=some (.ret (nv 1 t.s (.sl (cE e) 1 true)) (PS s T i3 0 12)):=by
 have w1:=qae ((lv:Int)+1) (by omega)
 have zp:=qaC (s:=s) (a:=0) (c:=12) h hb
 have zt:=qaU (s:=s) (a:=0) (c:=12) h hb hT
 simp only[PS,pO,ptk,ptD,hk,qas hb] at zp zt
 simp only[PS,pO,cE,nv,Wf,Wc] at z1 z2 z3
 try simp only[Wn,Wd] at zt z1 z2 z3
 refine Z_call (pf:=F271) rfl rfl ?_
 simp[F271,zp,zt,w1,z1,z2,z3,qaf,qaM,qbX,qaO,qbE,qb9,qbk,still,V.same,Wa]
theorem qlQ (hlv:lv<=20) (hT:T.length<2 ^ 40) (h:T.drop i=t::r) (hb:t.bad=0) (hk:kindT t=3)
  (z1:Z tP (.call 280 [.ptr 0 0,.int lv] (PS s T i 0 12))=some (.ret (qbt c) (PS s T i1 a c))):Z tP (.call 271 [.ptr 0 0,.int lv] (PS s T i 0 12))=some (.ret (qbt c) (PS s T i1 a c)):=by
 have w1:=qae ((lv:Int)+1) (by omega)
 have zp:=qaC (s:=s) (a:=0) (c:=12) h hb
 have zt:=qaU (s:=s) (a:=0) (c:=12) h hb hT
 simp only[PS,pO,ptk,ptD,hk,qas hb] at zp zt
 simp only[PS,pO,cE,nv,Wf,Wc] at z1
 try simp only[Wn,Wd] at zt z1
 refine Z_call (pf:=F271) rfl rfl ?_
 simp[F271,zp,zt,w1,z1,qaf,qaM,qbX,qaO,qbE,qb9,qbk,still,V.same,Wa]
theorem qlR (hlv:lv<=20) (hT:T.length<2 ^ 40) (h:T.drop i=t::r) (hb:t.bad=0) (hk:kindT t=3)
  (z1:Z tP (.call 280 [.ptr 0 0,.int lv] (PS s T i 0 12))=some (.ret e.node (PS s T i1 0 12)))
  (z2:Z tP (.call 253 [.ptr 0 0,.str ⟨#[61]⟩] (PS s T i1 0 12))=some (.ret (qbt c) (PS s T i2 a c))):Z tP (.call 271 [.ptr 0 0,.int lv] (PS s T i 0 12))=some (.ret (qbt c) (PS s T i2 a c)):=by
 have w1:=qae ((lv:Int)+1) (by omega)
 have zp:=qaC (s:=s) (a:=0) (c:=12) h hb
 have zt:=qaU (s:=s) (a:=0) (c:=12) h hb hT
 simp only[PS,pO,ptk,ptD,hk,qas hb] at zp zt
 simp only[PS,pO,cE,nv,Wf,Wc] at z1 z2
 try simp only[Wn,Wd] at zt z1 z2
 refine Z_call (pf:=F271) rfl rfl ?_
 simp[F271,zp,zt,w1,z1,z2,qaf,qaM,qbX,qaO,qbE,qb9,qbk,still,V.same,Wa]
theorem qlS (hlv:lv<=20) (hT:T.length<2 ^ 40) (h:T.drop i=t::r) (hb:t.bad=0) (hk:kindT t=3)
  (z1:Z tP (.call 280 [.ptr 0 0,.int lv] (PS s T i 0 12))=some (.ret e.node (PS s T i1 0 12)))
  (z2:Z tP (.call 253 [.ptr 0 0,.str ⟨#[61]⟩] (PS s T i1 0 12))=some (.ret (.tup []) (PS s T i2 0 12)))
  (z3:Z tP (.call 279 [.ptr 0 0,.int lv] (PS s T i2 0 12))=some (.ret (qbt c) (PS s T i3 a c))):Z tP (.call 271 [.ptr 0 0,.int lv] (PS s T i 0 12))=some (.ret (qbt c) (PS s T i3 a c)):=by
 have w1:=qae ((lv:Int)+1) (by omega)
 have zp:=qaC (s:=s) (a:=0) (c:=12) h hb
 have zt:=qaU (s:=s) (a:=0) (c:=12) h hb hT
 simp only[PS,pO,ptk,ptD,hk,qas hb] at zp zt
 simp only[PS,pO,cE,nv,Wf,Wc] at z1 z2 z3
 try simp only[Wn,Wd] at zt z1 z2 z3
 refine Z_call (pf:=F271) rfl rfl ?_
 simp[F271,zp,zt,w1,z1,z2,z3,qaf,qaM,qbX,qaO,qbE,qb9,qbk,still,V.same,Wa]
theorem qlT (hlv:lv<=20) (hT:T.length<2 ^ 40) (h:T.drop i=t::r) (hb:t.bad=0) (hk:kindT t=3)
  (z1:Z tP (.call 280 [.ptr 0 0,.int lv] (PS s T i 0 12))=some (.ret e.node (PS s T i1 0 12)))
  (z2:Z tP (.call 253 [.ptr 0 0,.str ⟨#[61]⟩] (PS s T i1 0 12))=some (.ret (.tup []) (PS s T i2 0 12)))
  (z3:Z tP (.call 279 [.ptr 0 0,.int lv] (PS s T i2 0 12))=some (.ret (e').node (PS s T i3 0 12)))
  (z4:Z tP (.call 278 [.ptr 0 0,nv 2 t.s (.sl (cE e++cE e') 2 true)] (PS s T i3 0 12))=some (.ret (qbt c) (PS s T i4 a c))):Z tP (.call 271 [.ptr 0 0,.int lv] (PS s T i 0 12))=some (.ret (qbt c) (PS s T i4 a c)):=by
 have w1:=qae ((lv:Int)+1) (by omega)
 have zp:=qaC (s:=s) (a:=0) (c:=12) h hb
 have zt:=qaU (s:=s) (a:=0) (c:=12) h hb hT
 simp only[PS,pO,ptk,ptD,hk,qas hb] at zp zt
 simp only[PS,pO,cE,nv,Wf,Wc] at z1 z2 z3 z4
 try simp only[Wn,Wd] at zt z1 z2 z3 z4
 refine Z_call (pf:=F271) rfl rfl ?_
 simp[F271,zp,zt,w1,z1,z2,z3,z4,qaf,qaM,qbX,qaO,qbE,qb9,qbk,still,V.same,Wa]
theorem qoS (hlv:lv<=20) (hT:T.length<2 ^ 40) (h:T.drop i=t::r) (hb:t.bad=0) (hk:kindT t=3)
  (z1:Z tP (.call 280 [.ptr 0 0,.int lv] (PS s T i 0 12))=some (.ret e.node (PS s T i1 0 12)))
  (z2:Z tP (.call 253 [.ptr 0 0,.str ⟨#[61]⟩] (PS s T i1 0 12))=some (.ret (.tup []) (PS s T i2 0 12)))
  (z3:Z tP (.call 279 [.ptr 0 0,.int lv] (PS s T i2 0 12))=some (.ret (e').node (PS s T i3 0 12)))
  (z4:Z tP (.call 278 [.ptr 0 0,nv 2 t.s (.sl (cE e++cE e') 2 true)] (PS s T i3 0 12))=some (.ret (nv 2 t.s (.sl (cE e++cE e') 2 true)) (PS s T i4 0 12))):Z tP (.call 271 [.ptr 0 0,.int lv] (PS s T i 0 12))=some (.ret (nv 2 t.s (.sl (cE e++cE e') 2 true)) (PS s T i4 0 12)):=by
 have w1:=qae ((lv:Int)+1) (by omega)
 have zp:=qaC (s:=s) (a:=0) (c:=12) h hb
 have zt:=qaU (s:=s) (a:=0) (c:=12) h hb hT
 simp only[PS,pO,ptk,ptD,hk,qas hb] at zp zt
 simp only[PS,pO,cE,nv,Wf,Wc] at z1 z2 z3 z4
 try simp only[Wn,Wd] at zt z1 z2 z3 z4
 refine Z_call (pf:=F271) rfl rfl ?_
 simp[F271,zp,zt,w1,z1,z2,z3,z4,qaf,qaM,qbX,qaO,qbE,qb9,qbk,still,V.same,Wa]
theorem qpM (hlv:lv<=20) (hT:T.length<2 ^ 40) (h:T.drop i=t::r) (hb:t.bad=0) (h1:decide (kindT t=1)=false) (h3:decide (kindT t=3)=false) (hm:t.s=ifT) (od:V.one (.dat d)=true) (oc:V.cells (.dat d)=[.dat d])
  (z1:Z tP (.call 281 [.ptr 0 0,.int lv] (PS s T i 0 12))=some (.ret (qbt c) (PS s T i1 a c))):Z tP (.call 271 [.ptr 0 0,.int lv] (PS s T i 0 12))=some (.ret (qbt c) (PS s T i1 a c)):=by
 have w1:=qae ((lv:Int)+1) (by omega)
 have zp:=qaC (s:=s) (a:=0) (c:=12) h hb
 have zt:=qaU (s:=s) (a:=0) (c:=12) h hb hT
 simp only[PS,pO,ptk,ptD,qas hb] at zp zt
 have y0:=qaW (s:=s) (a:=0) (c:=12) h hb (qai [ifT] true) (by simp) (by decide)
 simp only[hm,Wk,decide_true] at y0
 simp only[PS,pO,ifT,strC,Wo,Wq,Wh] at y0
 simp only[PS,pO,cE,nv,Wf,Wc] at z1
 try simp only[Wn,Wd] at zt z1
 refine Z_call (pf:=F271) rfl rfl ?_
 simp[F271,zp,zt,w1,h1,h3,y0,od,oc,z1,qaf,qaM,qbX,qaO,qbE,qb9,qbk,still,V.same,Wa]
theorem qt9 (hlv:lv<=20) (hT:T.length<2 ^ 40) (h:T.drop i=t::r) (hb:t.bad=0) (h1:decide (kindT t=1)=false) (h3:decide (kindT t=3)=false) (hm:t.s=ifT) (od:V.one (.dat d)=true) (oc:V.cells (.dat d)=[.dat d])
  (z1:Z tP (.call 281 [.ptr 0 0,.int lv] (PS s T i 0 12))=some (.ret (nv 3 ⟨#[]⟩ d) (PS s T i1 0 12))):Z tP (.call 271 [.ptr 0 0,.int lv] (PS s T i 0 12))=some (.ret (nv 3 ⟨#[]⟩ d) (PS s T i1 0 12)):=by
 have w1:=qae ((lv:Int)+1) (by omega)
 have zp:=qaC (s:=s) (a:=0) (c:=12) h hb
 have zt:=qaU (s:=s) (a:=0) (c:=12) h hb hT
 simp only[PS,pO,ptk,ptD,qas hb] at zp zt
 have y0:=qaW (s:=s) (a:=0) (c:=12) h hb (qai [ifT] true) (by simp) (by decide)
 simp only[hm,Wk,decide_true] at y0
 simp only[PS,pO,ifT,strC,Wo,Wq,Wh] at y0
 simp only[PS,pO,cE,nv,Wf,Wc] at z1
 try simp only[Wn,Wd] at zt z1
 refine Z_call (pf:=F271) rfl rfl ?_
 simp[F271,zp,zt,w1,h1,h3,y0,od,oc,z1,qaf,qaM,qbX,qaO,qbE,qb9,qbk,still,V.same,Wa]
theorem qlU (hlv:lv<=20) (hT:T.length<2 ^ 40) (h:T.drop i=t::r) (hb:t.bad=0) (h1:decide (kindT t=1)=false) (h3:decide (kindT t=3)=false) (hm:t.s=qbd) (od:V.one (.dat d)=true) (oc:V.cells (.dat d)=[.dat d])
  (z1:Z tP (.call 279 [.ptr 0 0,.int lv] (PS s T ((i+1:Nat):Int) 0 12))=some (.ret (qbt c) (PS s T i1 a c))):Z tP (.call 271 [.ptr 0 0,.int lv] (PS s T i 0 12))=some (.ret (qbt c) (PS s T i1 a c)):=by
 have w1:=qae ((lv:Int)+1) (by omega)
 have zp:=qaC (s:=s) (a:=0) (c:=12) h hb
 have zt:=qaU (s:=s) (a:=0) (c:=12) h hb hT
 simp only[PS,pO,ptk,ptD,qas hb] at zp zt
 have y0:=qaW (s:=s) (a:=0) (c:=12) h hb (qai [ifT] true) (by simp) (by decide)
 have q0:qbd≠ifT:=by decide
 simp only[hm,Wk,q0,decide_false] at y0
 simp only[PS,pO,ifT,strC,Wo,Wq,Wh] at y0
 have y1:=qaW (s:=s) (a:=0) (c:=12) h hb (qai [qbd] true) (by simp) (by decide)
 simp only[hm,Wk,decide_true] at y1
 simp only[PS,pO,qbd,strC,Wo,Wq,Wh] at y1
 simp only[PS,pO,cE,nv,Wf,Wc] at z1
 try simp only[Wn,Wd] at zt z1
 refine Z_call (pf:=F271) rfl rfl ?_
 simp[F271,zp,zt,w1,h1,h3,y0,y1,od,oc,z1,qaf,qaM,qbX,qaO,qbE,qb9,qbk,still,V.same,Wa]
theorem qlV (hlv:lv<=20) (hT:T.length<2 ^ 40) (h:T.drop i=t::r) (hb:t.bad=0) (h1:decide (kindT t=1)=false) (h3:decide (kindT t=3)=false) (hm:t.s=qbd) (od:V.one (.dat d)=true) (oc:V.cells (.dat d)=[.dat d])
  (z1:Z tP (.call 279 [.ptr 0 0,.int lv] (PS s T ((i+1:Nat):Int) 0 12))=some (.ret (e).node (PS s T i1 0 12)))
  (z2:Z tP (.call 256 [.ptr 0 0,.int ((lv+1:Nat):Int)] (PS s T i1 0 12))=some (.ret (qbt c) (PS s T i2 a c))):Z tP (.call 271 [.ptr 0 0,.int lv] (PS s T i 0 12))=some (.ret (qbt c) (PS s T i2 a c)):=by
 have w1:=qae ((lv:Int)+1) (by omega)
 have zp:=qaC (s:=s) (a:=0) (c:=12) h hb
 have zt:=qaU (s:=s) (a:=0) (c:=12) h hb hT
 simp only[PS,pO,ptk,ptD,qas hb] at zp zt
 have y0:=qaW (s:=s) (a:=0) (c:=12) h hb (qai [ifT] true) (by simp) (by decide)
 have q0:qbd≠ifT:=by decide
 simp only[hm,Wk,q0,decide_false] at y0
 simp only[PS,pO,ifT,strC,Wo,Wq,Wh] at y0
 have y1:=qaW (s:=s) (a:=0) (c:=12) h hb (qai [qbd] true) (by simp) (by decide)
 simp only[hm,Wk,decide_true] at y1
 simp only[PS,pO,qbd,strC,Wo,Wq,Wh] at y1
 simp only[PS,pO,cE,nv,Wf,Wc] at z1 z2
 try simp only[Wn,Wd] at zt z1 z2
 refine Z_call (pf:=F271) rfl rfl ?_
 simp[F271,zp,zt,w1,h1,h3,y0,y1,od,oc,z1,z2,qaf,qaM,qbX,qaO,qbE,qb9,qbk,still,V.same,Wa]
theorem qoT (hlv:lv<=20) (hT:T.length<2 ^ 40) (h:T.drop i=t::r) (hb:t.bad=0) (h1:decide (kindT t=1)=false) (h3:decide (kindT t=3)=false) (hm:t.s=qbd) (od:V.one (.dat d)=true) (oc:V.cells (.dat d)=[.dat d])
  (z1:Z tP (.call 279 [.ptr 0 0,.int lv] (PS s T ((i+1:Nat):Int) 0 12))=some (.ret (e).node (PS s T i1 0 12)))
  (z2:Z tP (.call 256 [.ptr 0 0,.int ((lv+1:Nat):Int)] (PS s T i1 0 12))=some (.ret (nv 7 ⟨#[]⟩ d) (PS s T i2 0 12))):Z tP (.call 271 [.ptr 0 0,.int lv] (PS s T i 0 12))=some (.ret (nv 4 ⟨#[]⟩ (.sl (cE e++[.lit (.int .i64 7),.lit (.int .i64 0),.lit (.string ⟨#[]⟩),d]) 2 true)) (PS s T i2 0 12)):=by
 have w1:=qae ((lv:Int)+1) (by omega)
 have zp:=qaC (s:=s) (a:=0) (c:=12) h hb
 have zt:=qaU (s:=s) (a:=0) (c:=12) h hb hT
 simp only[PS,pO,ptk,ptD,qas hb] at zp zt
 have y0:=qaW (s:=s) (a:=0) (c:=12) h hb (qai [ifT] true) (by simp) (by decide)
 have q0:qbd≠ifT:=by decide
 simp only[hm,Wk,q0,decide_false] at y0
 simp only[PS,pO,ifT,strC,Wo,Wq,Wh] at y0
 have y1:=qaW (s:=s) (a:=0) (c:=12) h hb (qai [qbd] true) (by simp) (by decide)
 simp only[hm,Wk,decide_true] at y1
 simp only[PS,pO,qbd,strC,Wo,Wq,Wh] at y1
 simp only[PS,pO,cE,nv,Wf,Wc] at z1 z2
 try simp only[Wn,Wd] at zt z1 z2
 refine Z_call (pf:=F271) rfl rfl ?_
 simp[F271,zp,zt,w1,h1,h3,y0,y1,od,oc,z1,z2,qaf,qaM,qbX,qaO,qbE,qb9,qbk,still,V.same,Wa]
theorem qkM (hlv:lv<=20) (hT:T.length<2 ^ 40) (h:T.drop i=t::r) (hb:t.bad=0) (h1:decide (kindT t=1)=false) (h3:decide (kindT t=3)=false) (hm:t.s=qaX)
  (z1:Z tP (.call 279 [.ptr 0 0,.int lv] (PS s T ((i+1:Nat):Int) 0 12))=some (.ret (qbt c) (PS s T i1 a c))):Z tP (.call 271 [.ptr 0 0,.int lv] (PS s T i 0 12))=some (.ret (qbt c) (PS s T i1 a c)):=by
 have w1:=qae ((lv:Int)+1) (by omega)
 have zp:=qaC (s:=s) (a:=0) (c:=12) h hb
 have zt:=qaU (s:=s) (a:=0) (c:=12) h hb hT
 simp only[PS,pO,ptk,ptD,qas hb] at zp zt
 have y0:=qaW (s:=s) (a:=0) (c:=12) h hb (qai [ifT] true) (by simp) (by decide)
 have q0:qaX≠ifT:=by decide
 simp only[hm,Wk,q0,decide_false] at y0
 simp only[PS,pO,ifT,strC,Wo,Wq,Wh] at y0
 have y1:=qaW (s:=s) (a:=0) (c:=12) h hb (qai [qbd] true) (by simp) (by decide)
 have q1:qaX≠qbd:=by decide
 simp only[hm,Wk,q1,decide_false] at y1
 simp only[PS,pO,qbd,strC,Wo,Wq,Wh] at y1
 have y2:=qaW (s:=s) (a:=0) (c:=12) h hb (qai [qaX] true) (by simp) (by decide)
 simp only[hm,Wk,decide_true] at y2
 simp only[PS,pO,qaX,strC,Wo,Wq,Wh] at y2
 simp only[PS,pO,cE,nv,Wf,Wc] at z1
 try simp only[Wn,Wd] at zt z1
 refine Z_call (pf:=F271) rfl rfl ?_
 simp[F271,zp,zt,w1,h1,h3,y0,y1,y2,z1,qaf,qaM,qbX,qaO,qbE,qb9,qbk,still,V.same,Wa]
theorem qkN (hlv:lv<=20) (hT:T.length<2 ^ 40) (h:T.drop i=t::r) (hb:t.bad=0) (h1:decide (kindT t=1)=false) (h3:decide (kindT t=3)=false) (hm:t.s=qaX)
  (z1:Z tP (.call 279 [.ptr 0 0,.int lv] (PS s T ((i+1:Nat):Int) 0 12))=some (.ret (e).node (PS s T i1 0 12)))
  (z2:Z tP (.call 253 [.ptr 0 0,.str ⟨#[44]⟩] (PS s T i1 0 12))=some (.ret (qbt c) (PS s T i2 a c))):Z tP (.call 271 [.ptr 0 0,.int lv] (PS s T i 0 12))=some (.ret (qbt c) (PS s T i2 a c)):=by
 have w1:=qae ((lv:Int)+1) (by omega)
 have zp:=qaC (s:=s) (a:=0) (c:=12) h hb
 have zt:=qaU (s:=s) (a:=0) (c:=12) h hb hT
 simp only[PS,pO,ptk,ptD,qas hb] at zp zt
 have y0:=qaW (s:=s) (a:=0) (c:=12) h hb (qai [ifT] true) (by simp) (by decide)
 have q0:qaX≠ifT:=by decide
 simp only[hm,Wk,q0,decide_false] at y0
 simp only[PS,pO,ifT,strC,Wo,Wq,Wh] at y0
 have y1:=qaW (s:=s) (a:=0) (c:=12) h hb (qai [qbd] true) (by simp) (by decide)
 have q1:qaX≠qbd:=by decide
 simp only[hm,Wk,q1,decide_false] at y1
 simp only[PS,pO,qbd,strC,Wo,Wq,Wh] at y1
 have y2:=qaW (s:=s) (a:=0) (c:=12) h hb (qai [qaX] true) (by simp) (by decide)
 simp only[hm,Wk,decide_true] at y2
 simp only[PS,pO,qaX,strC,Wo,Wq,Wh] at y2
 simp only[PS,pO,cE,nv,Wf,Wc] at z1 z2
 try simp only[Wn,Wd] at zt z1 z2
 refine Z_call (pf:=F271) rfl rfl ?_
 simp[F271,zp,zt,w1,h1,h3,y0,y1,y2,z1,z2,qaf,qaM,qbX,qaO,qbE,qb9,qbk,still,V.same,Wa]
theorem qkO (hlv:lv<=20) (hT:T.length<2 ^ 40) (h:T.drop i=t::r) (hb:t.bad=0) (h1:decide (kindT t=1)=false) (h3:decide (kindT t=3)=false) (hm:t.s=qaX)
  (z1:Z tP (.call 279 [.ptr 0 0,.int lv] (PS s T ((i+1:Nat):Int) 0 12))=some (.ret (e).node (PS s T i1 0 12)))
  (z2:Z tP (.call 253 [.ptr 0 0,.str ⟨#[44]⟩] (PS s T i1 0 12))=some (.ret (.tup []) (PS s T i2 0 12)))
  (z3:Z tP (.call 279 [.ptr 0 0,.int lv] (PS s T i2 0 12))=some (.ret (qbt c) (PS s T i3 a c))):Z tP (.call 271 [.ptr 0 0,.int lv] (PS s T i 0 12))=some (.ret (qbt c) (PS s T i3 a c)):=by
 have w1:=qae ((lv:Int)+1) (by omega)
 have zp:=qaC (s:=s) (a:=0) (c:=12) h hb
 have zt:=qaU (s:=s) (a:=0) (c:=12) h hb hT
 simp only[PS,pO,ptk,ptD,qas hb] at zp zt
 have y0:=qaW (s:=s) (a:=0) (c:=12) h hb (qai [ifT] true) (by simp) (by decide)
 have q0:qaX≠ifT:=by decide
 simp only[hm,Wk,q0,decide_false] at y0
 simp only[PS,pO,ifT,strC,Wo,Wq,Wh] at y0
 have y1:=qaW (s:=s) (a:=0) (c:=12) h hb (qai [qbd] true) (by simp) (by decide)
 have q1:qaX≠qbd:=by decide
 simp only[hm,Wk,q1,decide_false] at y1
 simp only[PS,pO,qbd,strC,Wo,Wq,Wh] at y1
 have y2:=qaW (s:=s) (a:=0) (c:=12) h hb (qai [qaX] true) (by simp) (by decide)
 simp only[hm,Wk,decide_true] at y2
 simp only[PS,pO,qaX,strC,Wo,Wq,Wh] at y2
 simp only[PS,pO,cE,nv,Wf,Wc] at z1 z2 z3
 try simp only[Wn,Wd] at zt z1 z2 z3
 refine Z_call (pf:=F271) rfl rfl ?_
 simp[F271,zp,zt,w1,h1,h3,y0,y1,y2,z1,z2,z3,qaf,qaM,qbX,qaO,qbE,qb9,qbk,still,V.same,Wa]
theorem qkP (hlv:lv<=20) (hT:T.length<2 ^ 40) (h:T.drop i=t::r) (hb:t.bad=0) (h1:decide (kindT t=1)=false) (h3:decide (kindT t=3)=false) (hm:t.s=qaX)
  (z1:Z tP (.call 279 [.ptr 0 0,.int lv] (PS s T ((i+1:Nat):Int) 0 12))=some (.ret (e).node (PS s T i1 0 12)))
  (z2:Z tP (.call 253 [.ptr 0 0,.str ⟨#[44]⟩] (PS s T i1 0 12))=some (.ret (.tup []) (PS s T i2 0 12)))
  (z3:Z tP (.call 279 [.ptr 0 0,.int lv] (PS s T i2 0 12))=some (.ret (e').node (PS s T i3 0 12)))
  (z4:Z tP (.call 278 [.ptr 0 0,nv 5 ⟨#[]⟩ (.sl (cE e++cE e') 2 true)] (PS s T i3 0 12))=some (.ret (qbt c) (PS s T i4 a c))):Z tP (.call 271 [.ptr 0 0,.int lv] (PS s T i 0 12))=some (.ret (qbt c) (PS s T i4 a c)):=by
 have w1:=qae ((lv:Int)+1) (by omega)
 have zp:=qaC (s:=s) (a:=0) (c:=12) h hb
 have zt:=qaU (s:=s) (a:=0) (c:=12) h hb hT
 simp only[PS,pO,ptk,ptD,qas hb] at zp zt
 have y0:=qaW (s:=s) (a:=0) (c:=12) h hb (qai [ifT] true) (by simp) (by decide)
 have q0:qaX≠ifT:=by decide
 simp only[hm,Wk,q0,decide_false] at y0
 simp only[PS,pO,ifT,strC,Wo,Wq,Wh] at y0
 have y1:=qaW (s:=s) (a:=0) (c:=12) h hb (qai [qbd] true) (by simp) (by decide)
 have q1:qaX≠qbd:=by decide
 simp only[hm,Wk,q1,decide_false] at y1
 simp only[PS,pO,qbd,strC,Wo,Wq,Wh] at y1
 have y2:=qaW (s:=s) (a:=0) (c:=12) h hb (qai [qaX] true) (by simp) (by decide)
 simp only[hm,Wk,decide_true] at y2
 simp only[PS,pO,qaX,strC,Wo,Wq,Wh] at y2
 simp only[PS,pO,cE,nv,Wf,Wc] at z1 z2 z3 z4
 try simp only[Wn,Wd] at zt z1 z2 z3 z4
 refine Z_call (pf:=F271) rfl rfl ?_
 simp[F271,zp,zt,w1,h1,h3,y0,y1,y2,z1,z2,z3,z4,qaf,qaM,qbX,qaO,qbE,qb9,qbk,still,V.same,Wa]
theorem qmY (hlv:lv<=20) (hT:T.length<2 ^ 40) (h:T.drop i=t::r) (hb:t.bad=0) (h1:decide (kindT t=1)=false) (h3:decide (kindT t=3)=false) (hm:t.s=qaX)
  (z1:Z tP (.call 279 [.ptr 0 0,.int lv] (PS s T ((i+1:Nat):Int) 0 12))=some (.ret (e).node (PS s T i1 0 12)))
  (z2:Z tP (.call 253 [.ptr 0 0,.str ⟨#[44]⟩] (PS s T i1 0 12))=some (.ret (.tup []) (PS s T i2 0 12)))
  (z3:Z tP (.call 279 [.ptr 0 0,.int lv] (PS s T i2 0 12))=some (.ret (e').node (PS s T i3 0 12)))
  (z4:Z tP (.call 278 [.ptr 0 0,nv 5 ⟨#[]⟩ (.sl (cE e++cE e') 2 true)] (PS s T i3 0 12))=some (.ret (nv 5 ⟨#[]⟩ (.sl (cE e++cE e') 2 true)) (PS s T i4 0 12))):Z tP (.call 271 [.ptr 0 0,.int lv] (PS s T i 0 12))=some (.ret (nv 5 ⟨#[]⟩ (.sl (cE e++cE e') 2 true)) (PS s T i4 0 12)):=by
 have w1:=qae ((lv:Int)+1) (by omega)
 have zp:=qaC (s:=s) (a:=0) (c:=12) h hb
 have zt:=qaU (s:=s) (a:=0) (c:=12) h hb hT
 simp only[PS,pO,ptk,ptD,qas hb] at zp zt
 have y0:=qaW (s:=s) (a:=0) (c:=12) h hb (qai [ifT] true) (by simp) (by decide)
 have q0:qaX≠ifT:=by decide
 simp only[hm,Wk,q0,decide_false] at y0
 simp only[PS,pO,ifT,strC,Wo,Wq,Wh] at y0
 have y1:=qaW (s:=s) (a:=0) (c:=12) h hb (qai [qbd] true) (by simp) (by decide)
 have q1:qaX≠qbd:=by decide
 simp only[hm,Wk,q1,decide_false] at y1
 simp only[PS,pO,qbd,strC,Wo,Wq,Wh] at y1
 have y2:=qaW (s:=s) (a:=0) (c:=12) h hb (qai [qaX] true) (by simp) (by decide)
 simp only[hm,Wk,decide_true] at y2
 simp only[PS,pO,qaX,strC,Wo,Wq,Wh] at y2
 simp only[PS,pO,cE,nv,Wf,Wc] at z1 z2 z3 z4
 try simp only[Wn,Wd] at zt z1 z2 z3 z4
 refine Z_call (pf:=F271) rfl rfl ?_
 simp[F271,zp,zt,w1,h1,h3,y0,y1,y2,z1,z2,z3,z4,qaf,qaM,qbX,qaO,qbE,qb9,qbk,still,V.same,Wa]
theorem qmZ (hlv:lv<=20) (hT:T.length<2 ^ 40) (h:T.drop i=t::r) (hb:t.bad=0) (h1:decide (kindT t=1)=false) (h3:decide (kindT t=3)=false) (hm:t.s=qfT)
  (z1:Z tP (.call 278 [.ptr 0 0,nv 6 ⟨#[]⟩ (.lit (.slice none 0 0))] (PS s T ((i+1:Nat):Int) 0 12))=some (.ret (qbt c) (PS s T i1 a c))):Z tP (.call 271 [.ptr 0 0,.int lv] (PS s T i 0 12))=some (.ret (qbt c) (PS s T i1 a c)):=by
 have w1:=qae ((lv:Int)+1) (by omega)
 have zp:=qaC (s:=s) (a:=0) (c:=12) h hb
 have zt:=qaU (s:=s) (a:=0) (c:=12) h hb hT
 simp only[PS,pO,ptk,ptD,qas hb] at zp zt
 have y0:=qaW (s:=s) (a:=0) (c:=12) h hb (qai [ifT] true) (by simp) (by decide)
 have q0:qfT≠ifT:=by decide
 simp only[hm,Wk,q0,decide_false] at y0
 simp only[PS,pO,ifT,strC,Wo,Wq,Wh] at y0
 have y1:=qaW (s:=s) (a:=0) (c:=12) h hb (qai [qbd] true) (by simp) (by decide)
 have q1:qfT≠qbd:=by decide
 simp only[hm,Wk,q1,decide_false] at y1
 simp only[PS,pO,qbd,strC,Wo,Wq,Wh] at y1
 have y2:=qaW (s:=s) (a:=0) (c:=12) h hb (qai [qaX] true) (by simp) (by decide)
 have q2:qfT≠qaX:=by decide
 simp only[hm,Wk,q2,decide_false] at y2
 simp only[PS,pO,qaX,strC,Wo,Wq,Wh] at y2
 have y3:=qaW (s:=s) (a:=0) (c:=12) h hb (qai [qfT] true) (by simp) (by decide)
 simp only[hm,Wk,decide_true] at y3
 simp only[PS,pO,qfT,strC,Wo,Wq,Wh] at y3
 simp only[PS,pO,cE,nv,Wf,Wc] at z1
 try simp only[Wn,Wd] at zt z1
 refine Z_call (pf:=F271) rfl rfl ?_
 simp[F271,zp,zt,w1,h1,h3,y0,y1,y2,y3,z1,qaf,qaM,qbX,qaO,qbE,qb9,qbk,still,V.same,Wa]
theorem qpN (hlv:lv<=20) (hT:T.length<2 ^ 40) (h:T.drop i=t::r) (hb:t.bad=0) (h1:decide (kindT t=1)=false) (h3:decide (kindT t=3)=false) (hm:t.s=qfT)
  (z1:Z tP (.call 278 [.ptr 0 0,nv 6 ⟨#[]⟩ (.lit (.slice none 0 0))] (PS s T ((i+1:Nat):Int) 0 12))=some (.ret (nv 6 ⟨#[]⟩ (.lit (.slice none 0 0))) (PS s T i1 0 12))):Z tP (.call 271 [.ptr 0 0,.int lv] (PS s T i 0 12))=some (.ret (nv 6 ⟨#[]⟩ (.lit (.slice none 0 0))) (PS s T i1 0 12)):=by
 have w1:=qae ((lv:Int)+1) (by omega)
 have zp:=qaC (s:=s) (a:=0) (c:=12) h hb
 have zt:=qaU (s:=s) (a:=0) (c:=12) h hb hT
 simp only[PS,pO,ptk,ptD,qas hb] at zp zt
 have y0:=qaW (s:=s) (a:=0) (c:=12) h hb (qai [ifT] true) (by simp) (by decide)
 have q0:qfT≠ifT:=by decide
 simp only[hm,Wk,q0,decide_false] at y0
 simp only[PS,pO,ifT,strC,Wo,Wq,Wh] at y0
 have y1:=qaW (s:=s) (a:=0) (c:=12) h hb (qai [qbd] true) (by simp) (by decide)
 have q1:qfT≠qbd:=by decide
 simp only[hm,Wk,q1,decide_false] at y1
 simp only[PS,pO,qbd,strC,Wo,Wq,Wh] at y1
 have y2:=qaW (s:=s) (a:=0) (c:=12) h hb (qai [qaX] true) (by simp) (by decide)
 have q2:qfT≠qaX:=by decide
 simp only[hm,Wk,q2,decide_false] at y2
 simp only[PS,pO,qaX,strC,Wo,Wq,Wh] at y2
 have y3:=qaW (s:=s) (a:=0) (c:=12) h hb (qai [qfT] true) (by simp) (by decide)
 simp only[hm,Wk,decide_true] at y3
 simp only[PS,pO,qfT,strC,Wo,Wq,Wh] at y3
 simp only[PS,pO,cE,nv,Wf,Wc] at z1
 try simp only[Wn,Wd] at zt z1
 refine Z_call (pf:=F271) rfl rfl ?_
 simp[F271,zp,zt,w1,h1,h3,y0,y1,y2,y3,z1,qaf,qaM,qbX,qaO,qbE,qb9,qbk,still,V.same,Wa]
theorem qwv(hlv:lv<=20)(hT:T.length<2 ^ 40)(h:T.drop i=t::r)(hb:t.bad=0)(h1:decide (kindT t=1)=false)(h3:decide (kindT t=3)=false)(n0:t.s≠ifT)(n1:t.s≠qbd)(n2:t.s≠qaX)(n3:t.s≠qfT):Z tP (.call 271 [.ptr 0 0,.int lv] (PS s T i 0 12))=some (.ret (qbt 12) (PS s T i t.at_ 12)):=by
 have w1:=qae ((lv:Int)+1) (by omega)
 have zp:=qaC (s:=s) (a:=0) (c:=12) h hb
 have zt:=qaU (s:=s) (a:=0) (c:=12) h hb hT
 simp only[PS,pO,ptk,ptD,qas hb] at zp zt
 have y0:=qaW (s:=s) (a:=0) (c:=12) h hb (qai [ifT] true) (by simp) (by decide)
 simp only[Wk,n0,decide_false] at y0
 simp only[PS,pO,ifT,strC,Wo,Wq,Wh] at y0
 have y1:=qaW (s:=s) (a:=0) (c:=12) h hb (qai [qbd] true) (by simp) (by decide)
 simp only[Wk,n1,decide_false] at y1
 simp only[PS,pO,qbd,strC,Wo,Wq,Wh] at y1
 have y2:=qaW (s:=s) (a:=0) (c:=12) h hb (qai [qaX] true) (by simp) (by decide)
 simp only[Wk,n2,decide_false] at y2
 simp only[PS,pO,qaX,strC,Wo,Wq,Wh] at y2
 have y3:=qaW (s:=s) (a:=0) (c:=12) h hb (qai [qfT] true) (by simp) (by decide)
 simp only[Wk,n3,decide_false] at y3
 simp only[PS,pO,qfT,strC,Wo,Wq,Wh] at y3
 have zf:=qg5 (s:=s) (T:=T) (i:=i) (a:=0) (c:=12) (k:=kindT t) (x:=t.s) (at_:=t.at_) (v:=valT t) (e:=t.bad) (c':=12)
 simp only[PS,pO,ptD] at zf
 refine Z_call (pf:=F271) rfl rfl ?_
 simp[F271,zp,zt,w1,h1,h3,y0,y1,y2,y3,zf,qaf,Wa]
theorem qyR(h:T.drop i=t::r)(hb:t.bad≠0):Z tP (.call 271 [.ptr 0 0,.int lv] (PS s T i 0 12))=some (.ret (qbt t.bad) (PS s T i t.at_ t.bad)):=by
 have zp:=qe2 (s:=s) (a:=0) (c:=12) h hb
 simp only[PS,pO] at zp
 refine Z_call (pf:=F271) rfl rfl ?_
 simp[F271,zp,qaf,Wa]
end
end
section
open F
attribute [local simp] qbm qca dkey
def qi2:ByteArray:=⟨#[101,108,115,101]⟩
abbrev cB(d:D):List D:=[.lit (.int .i64 7),.lit (.int .i64 0),.lit (.string ⟨#[]⟩),d]
section
variable{s:ByteArray}{T:List Tk}{lv i i1 i2 i3 i4:Nat}{e:E}{a c:Int}{t:Tk}{r:List Tk}{d d':D}
theorem qxr (hlv:lv<=20)
  (z1:Z tP (.call 253 [.ptr 0 0,.str ifT] (PS s T i 0 12))=some (.ret (.tup []) (PS s T i1 0 12)))
  (z2:Z tP (.call 279 [.ptr 0 0,.int lv] (PS s T i1 0 12))=some (.ret (qbt c) (PS s T i2 a c))):Z tP (.call 281 [.ptr 0 0,.int lv] (PS s T i 0 12))=some (.ret (qbt c) (PS s T i2 a c)):=by
 have w1:=qae ((lv:Int)+1) (by omega)
 simp only[PS,pO,nv,ifT] at z1 z2
 try simp only[Wn,Wd] at z1 z2
 refine Z_call (pf:=F281) rfl rfl ?_
 simp[F281,w1,z1,z2,qaf,Wa]
theorem qxs (hlv:lv<=20)
  (z1:Z tP (.call 253 [.ptr 0 0,.str ifT] (PS s T i 0 12))=some (.ret (.tup []) (PS s T i1 0 12)))
  (z2:Z tP (.call 279 [.ptr 0 0,.int lv] (PS s T i1 0 12))=some (.ret e.node (PS s T i2 0 12)))
  (z3:Z tP (.call 256 [.ptr 0 0,.int ((lv+1:Nat):Int)] (PS s T i2 0 12))=some (.ret (qbt c) (PS s T i3 a c))):Z tP (.call 281 [.ptr 0 0,.int lv] (PS s T i 0 12))=some (.ret (qbt c) (PS s T i3 a c)):=by
 have w1:=qae ((lv:Int)+1) (by omega)
 simp only[PS,pO,nv,ifT] at z1 z2 z3
 try simp only[Wn,Wd] at z1 z2 z3
 refine Z_call (pf:=F281) rfl rfl ?_
 simp[F281,w1,z1,z2,z3,qaf,Wa]
theorem qzt (hlv:lv<=20) (od:V.one (.dat d)=true) (oc:V.cells (.dat d)=[.dat d])
  (z1:Z tP (.call 253 [.ptr 0 0,.str ifT] (PS s T i 0 12))=some (.ret (.tup []) (PS s T i1 0 12)))
  (z2:Z tP (.call 279 [.ptr 0 0,.int lv] (PS s T i1 0 12))=some (.ret e.node (PS s T i2 0 12)))
  (z3:Z tP (.call 256 [.ptr 0 0,.int ((lv+1:Nat):Int)] (PS s T i2 0 12))=some (.ret (nv 7 ⟨#[]⟩ d) (PS s T i3 0 12))) (h:T.drop i3=t::r) (hb:t.bad≠0):Z tP (.call 281 [.ptr 0 0,.int lv] (PS s T i 0 12))=some (.ret (qbt t.bad) (PS s T i3 t.at_ t.bad)):=by
 have w1:=qae ((lv:Int)+1) (by omega)
 simp only[PS,pO,nv,ifT] at z1 z2 z3
 try simp only[Wn,Wd] at z1 z2 z3
 have y:=qgi (s:=s) (a:=0) (c:=12) h hb (qai [qi2] true)
 simp only[PS,pO,qi2,strC,Wo,Wq,Wh] at y
 refine Z_call (pf:=F281) rfl rfl ?_
 simp[F281,w1,z1,z2,z3,y,od,oc,qaf,Wa]
theorem qzu (hlv:lv<=20) (od:V.one (.dat d)=true) (oc:V.cells (.dat d)=[.dat d])
  (z1:Z tP (.call 253 [.ptr 0 0,.str ifT] (PS s T i 0 12))=some (.ret (.tup []) (PS s T i1 0 12)))
  (z2:Z tP (.call 279 [.ptr 0 0,.int lv] (PS s T i1 0 12))=some (.ret e.node (PS s T i2 0 12)))
  (z3:Z tP (.call 256 [.ptr 0 0,.int ((lv+1:Nat):Int)] (PS s T i2 0 12))=some (.ret (nv 7 ⟨#[]⟩ d) (PS s T i3 0 12))) (h:T.drop i3=t::r) (hb:t.bad=0) (hm:t.s≠qi2):Z tP (.call 281 [.ptr 0 0,.int lv] (PS s T i 0 12))=some (.ret (nv 3 ⟨#[]⟩ (.sl (cE e++cB d++cB (.lit (.slice none 0 0))) 3 true)) (PS s T i3 0 12)):=by
 have w1:=qae ((lv:Int)+1) (by omega)
 simp only[PS,pO,nv,ifT] at z1 z2 z3
 try simp only[Wn,Wd] at z1 z2 z3
 have y:=qaW (s:=s) (a:=0) (c:=12) h hb (qai [qi2] true) (by simp) (by decide)
 simp only[Wk,hm,decide_false] at y
 simp only[PS,pO,qi2,strC,Wo,Wq,Wh] at y
 refine Z_call (pf:=F281) rfl rfl ?_
 simp[F281,w1,z1,z2,z3,y,od,oc,qaf,Wa]
theorem qxt (hlv:lv<=20) (od:V.one (.dat d)=true) (oc:V.cells (.dat d)=[.dat d])
  (z1:Z tP (.call 253 [.ptr 0 0,.str ifT] (PS s T i 0 12))=some (.ret (.tup []) (PS s T i1 0 12)))
  (z2:Z tP (.call 279 [.ptr 0 0,.int lv] (PS s T i1 0 12))=some (.ret e.node (PS s T i2 0 12)))
  (z3:Z tP (.call 256 [.ptr 0 0,.int ((lv+1:Nat):Int)] (PS s T i2 0 12))=some (.ret (nv 7 ⟨#[]⟩ d) (PS s T i3 0 12))) (hT:T.length<2 ^ 40) (h:T.drop i3=t::r) (hb:t.bad=0) (hm:t.s=qi2)
  (z4:Z tP (.call 256 [.ptr 0 0,.int ((lv+1:Nat):Int)] (PS s T ((i3+1:Nat):Int) 0 12))=some (.ret (qbt c) (PS s T i4 a c))):Z tP (.call 281 [.ptr 0 0,.int lv] (PS s T i 0 12))=some (.ret (qbt c) (PS s T i4 a c)):=by
 have w1:=qae ((lv:Int)+1) (by omega)
 simp only[PS,pO,nv,ifT] at z1 z2 z3
 try simp only[Wn,Wd] at z1 z2 z3
 have y:=qaW (s:=s) (a:=0) (c:=12) h hb (qai [qi2] true) (by simp) (by decide)
 simp only[Wk,hm,decide_true] at y
 simp only[PS,pO,qi2,strC,Wo,Wq,Wh] at y
 have zt:=qaU (s:=s) (a:=0) (c:=12) h hb hT
 simp only[PS,pO,ptk,ptD] at zt
 simp only[PS,pO,nv] at z4
 simp only[Wn,Wd] at zt z4
 refine Z_call (pf:=F281) rfl rfl ?_
 simp[F281,w1,z1,z2,z3,y,zt,z4,od,oc,qaf,Wa]
theorem qzv (hlv:lv<=20) (od:V.one (.dat d)=true) (oc:V.cells (.dat d)=[.dat d])
  (z1:Z tP (.call 253 [.ptr 0 0,.str ifT] (PS s T i 0 12))=some (.ret (.tup []) (PS s T i1 0 12)))
  (z2:Z tP (.call 279 [.ptr 0 0,.int lv] (PS s T i1 0 12))=some (.ret e.node (PS s T i2 0 12)))
  (z3:Z tP (.call 256 [.ptr 0 0,.int ((lv+1:Nat):Int)] (PS s T i2 0 12))=some (.ret (nv 7 ⟨#[]⟩ d) (PS s T i3 0 12))) (od':V.one (.dat d')=true) (oc':V.cells (.dat d')=[.dat d']) (hT:T.length<2 ^ 40) (h:T.drop i3=t::r) (hb:t.bad=0) (hm:t.s=qi2)
  (z4:Z tP (.call 256 [.ptr 0 0,.int ((lv+1:Nat):Int)] (PS s T ((i3+1:Nat):Int) 0 12))=some (.ret (nv 7 ⟨#[]⟩ d') (PS s T i4 0 12))):Z tP (.call 281 [.ptr 0 0,.int lv] (PS s T i 0 12))=some (.ret (nv 3 ⟨#[]⟩ (.sl (cE e++cB d++cB d') 3 true)) (PS s T i4 0 12)):=by
 have w1:=qae ((lv:Int)+1) (by omega)
 simp only[PS,pO,nv,ifT] at z1 z2 z3
 try simp only[Wn,Wd] at z1 z2 z3
 have y:=qaW (s:=s) (a:=0) (c:=12) h hb (qai [qi2] true) (by simp) (by decide)
 simp only[Wk,hm,decide_true] at y
 simp only[PS,pO,qi2,strC,Wo,Wq,Wh] at y
 have zt:=qaU (s:=s) (a:=0) (c:=12) h hb hT
 simp only[PS,pO,ptk,ptD] at zt
 simp only[PS,pO,nv] at z4
 simp only[Wn,Wd] at zt z4
 refine Z_call (pf:=F281) rfl rfl ?_
 simp[F281,w1,z1,z2,z3,y,zt,z4,od',oc',od,oc,qaf,Wa]
end
end
section
open F
attribute [local simp] qbm qca dkey
def qs2(v:V)(σt:S)(cs:List D)(n:Nat):Prop:=(n=0/\cs=[]/\v = .dat (.lit (.slice none 0 0)) /\ σt=[])\/(n≠0/\cs.length=n*4/\v = .gsl cs n 4 5 /\ σt=[.tip cs.length])
abbrev bzF(lv:Nat):Fr:=[(0,.ptr 0 0),(1,.int lv),(4,.ptr 3 0),(5,.ptr 4 0)]
abbrev bzS(s:ByteArray)(T:List Tk)(i a c:Int)(v:V)(σt:S):S:=PS s T i a c++(nd0 :: .cells [.int 7,.int 0,.str ⟨#[]⟩,v] :: σt)
def qow:ByteArray:=⟨#[125]⟩
section
variable{s:ByteArray}{T:List Tk}{lv i i' i1 i2:Nat}{a c:Int}{t:Tk}{r:List Tk}{d:D}{v:V}{σt:S}{cs:List D}{n:Nat}
theorem qxN(h:T.drop i=t::r)(hb:t.bad=0)(hm:t.s=qow)(hr:qs2 v σt cs n):Z tP (.loop 3 F256l0 (bzF lv) (bzS s T i 0 12 v σt))=some (.out (.exit 0) (bzF lv++[(13,.bool false)]) (bzS s T i 0 12 v σt)):=by
 have y:=qaW (s:=s) (a:=0) (c:=12) h hb (qai [qow] true) (by simp) (by decide)
 simp only[Wk,hm,decide_true] at y
 simp only[PS,pO,qow,strC,Wo,Wq,Wh] at y
 rw[qab]
 rcases hr with ⟨rfl,rfl,rfl,rfl⟩|⟨h0,h1,rfl,rfl⟩<;>simp[qaa,qeh,y,Wa]
theorem qxO(h:T.drop i=t::r)(hb:t.bad≠0)(hr:qs2 v σt cs n) : ∃ fr,fr.get 1000000=none/\Z tP (.loop 3 F256l0 (bzF lv) (bzS s T i 0 12 v σt))=some (.out (.pan (.iface 1 (.int t.bad))) fr (bzS s T i t.at_ t.bad v σt)):=by
 have y:=qgi (s:=s) (a:=0) (c:=12) h hb (qai [qow] true)
 simp only[PS,pO,qow,strC,Wo,Wq,Wh] at y
 refine⟨(11,.dat (.sl [.lit (.string ⟨#[125]⟩)] 1 true))::(10,.ptr 0 0)::bzF lv,by simp[Fr.get],?_⟩
 rw[qab]
 rcases hr with ⟨rfl,rfl,rfl,rfl⟩|⟨h0,h1,rfl,rfl⟩<;>simp[qaa,qeh,y,qaf,Wa]
theorem qs3 (h:T.drop i=t::r) (hb:t.bad=0) (hm:t.s≠qow) (hr:qs2 v σt cs n) (hn:n<=2 ^ 40) {k:Int} {x:ByteArray} (od:V.one (.dat d)=true) (oc:V.cells (.dat d)=[.dat d])
  (z:Z tP (.call 271 [.ptr 0 0,.int lv] (PS s T i 0 12))=some (.ret (nv k x d) (PS s T i' 0 12))) :
  ∃ v' σt',qs2 v' σt' (cs++[.lit (.int .i64 k),.lit (.int .i64 0),.lit (.string x),d]) (n+1)/\Z tP (.loop 3 F256l0 (bzF lv) (bzS s T i 0 12 v σt))=Z tP (.loop 3 F256l0 (bzF lv) (bzS s T i' 0 12 v' σt')):=by
 have y:=qaW (s:=s) (a:=0) (c:=12) h hb (qai [qow] true) (by simp) (by decide)
 have hroom:qaI (n+1) 56=true:=by simp only[qaI,decide_eq_true_eq]; omega
 simp only[Wk,hm,decide_false] at y
 simp only[PS,pO,qow,strC,Wo,Wq,Wh] at y
 simp only[PS,pO,nv] at z
 refine⟨.gsl (cs++[.lit (.int .i64 k),.lit (.int .i64 0),.lit (.string x),d]) (n+1) 4 5,[.tip (cs++[.lit (.int .i64 k),.lit (.int .i64 0),.lit (.string x),d]).length],.inr ⟨by omega,?_,rfl,rfl⟩,?_⟩
 ·rcases hr with ⟨rfl,rfl,_,_⟩|⟨_,h1,_,_⟩
  ·simp
  ·simp[h1]; omega
 ·conv=>lhs; rw[qab]
  rcases hr with ⟨rfl,rfl,rfl,rfl⟩|⟨h0,h1,rfl,rfl⟩
  ·have hr1:qaI 1 56=true:=by decide
   simp[qaa,qeh,y,z,od,oc,hr1,qbD,qjv,qbX,qaO,qbE,qb9,qbk,still,V.same,Wa]
   try exact qbP (by simp[Wa])
  ·simp[qaa,qeh,y,z,od,oc,hroom,h0,h1,qbD,qjv,qbX,qaO,qbE,qb9,qbk,still,V.same,Wa]
   try exact qbP (by simp[Wa])
theorem qxP (h:T.drop i=t::r) (hb:t.bad=0) (hm:t.s≠qow) (hr:qs2 v σt cs n)
  (z:Z tP (.call 271 [.ptr 0 0,.int lv] (PS s T i 0 12))=some (.ret (qbt c) (PS s T i' a c))) :
  Z tP (.loop 3 F256l0 (bzF lv) (bzS s T i 0 12 v σt))=some (.out (.pan (.iface 1 (.int c))) [] (bzS s T i' a c v σt)):=by
 have y:=qaW (s:=s) (a:=0) (c:=12) h hb (qai [qow] true) (by simp) (by decide)
 simp only[Wk,hm,decide_false] at y
 simp only[PS,pO,qow,strC,Wo,Wq,Wh] at y
 simp only[PS,pO] at z
 rw[qab]
 rcases hr with ⟨rfl,rfl,rfl,rfl⟩|⟨h0,h1,rfl,rfl⟩<;>simp[qaa,qeh,y,z,qaf,qaM,qbX,qaO,qbE,qb9,qbk,still,V.same,Wa]
theorem qvB(zo:Z tP (.call 270 [.ptr 0 0,.str ⟨#[123]⟩,.int lv] (PS s T i 0 12))=some (.ret (qbt c) (PS s T i1 a c))):Z tP (.call 256 [.ptr 0 0,.int lv] (PS s T i 0 12))=some (.ret (qbt c) (PS s T i1 a c)):=by
 simp only[PS,pO] at zo
 refine Z_call (pf:=F256) rfl rfl ?_
 simp[F256,zo,qaf,Wa]
theorem qxQ (zo:Z tP (.call 270 [.ptr 0 0,.str ⟨#[123]⟩,.int lv] (PS s T i 0 12))=some (.ret (.tup []) (PS s T i1 0 12))) {fr:Fr} (hf:fr.get 1000000=none)
  (zl:Z tP (.loop 3 F256l0 (bzF lv) (bzS s T i1 0 12 (.dat (.lit (.slice none 0 0))) []))=some (.out (.pan (.iface 1 (.int c))) fr (bzS s T i2 a c v σt))):Z tP (.call 256 [.ptr 0 0,.int lv] (PS s T i 0 12))=some (.ret (qbt c) (PS s T i2 a c)):=by
 simp only[PS,pO,bzS,Wf,Wc] at zo zl
 refine Z_call (pf:=F256) rfl rfl ?_
 simp[F256,zo,zl,hf,qaf,Wa]
theorem qzE (hT:T.length<2 ^ 40) (zo:Z tP (.call 270 [.ptr 0 0,.str ⟨#[123]⟩,.int lv] (PS s T i 0 12))=some (.ret (.tup []) (PS s T i1 0 12))) (hr:qs2 v σt cs n)
  (zl:Z tP (.loop 3 F256l0 (bzF lv) (bzS s T i1 0 12 (.dat (.lit (.slice none 0 0))) []))=some (.out (.exit 0) (bzF lv++[(13,.bool false)]) (bzS s T i2 0 12 v σt)))
  (h:T.drop i2=t::r) (hb:t.bad=0) (hm:t.s=qow):Z tP (.call 256 [.ptr 0 0,.int lv] (PS s T i 0 12))=some (.ret (nv 7 ⟨#[]⟩ (kd false n cs)) (PS s T ((i2+1:Nat):Int) 0 12)):=by
 have zx:=qhv (s:=s) (a:=0) (c:=12) h hb hT (by rw[hm]; decide)
 rw[hm] at zx
 simp only[PS,pO,qow,Wn,Wd] at zx
 simp only[PS,pO,bzS,Wf,Wc] at zo zl
 refine Z_call (pf:=F256) rfl rfl ?_
 rcases hr with ⟨rfl,rfl,rfl,rfl⟩|⟨h0,h1,rfl,rfl⟩
 ·simp[F256,zo,zl,zx,Wa]
 ·obtain⟨m,rfl⟩ : ∃ m,n=m+1:=⟨n-1,by omega⟩
  simp[F256,zo,zl,zx,Wa]
end
end
section
open F
def qsP(s:ByteArray)(T:List Tk)(res:Option Res)(x:Rz Ss):Prop:=match x with
 |.ok b r => ∃ (i':Nat) (k:Int) (y:ByteArray) (d:D),T.drop i'=r/\r≠[]/\res=some (.ret (nv k y d) (PS s T i' 0 12))/\V.one (.dat d)=true/\V.cells (.dat d)=[.dat d]/\b.fo.cells=[.lit (.int .i64 k),.lit (.int .i64 0),.lit (.string y),d]/\b.fo.len=1
 |.er a c => ∃ i':Nat,res=some (.ret (qbt c) (PS s T i' a c))
def qAv(s:ByteArray)(T:List Tk)(res:Option Res)(x:Rz Ss):Prop:=match x with
 |.ok b r => ∃ i':Nat,T.drop i'=r/\r≠[]/\res=some (.ret (nv 7 ⟨#[]⟩ (kd false b.fo.len b.fo.cells)) (PS s T i' 0 12))
 |.er a c => ∃ i':Nat,res=some (.ret (qbt c) (PS s T i' a c))
section
variable(s:ByteArray)(T:List Tk)
def StK(n:Nat):Prop := ∀ (lv i:Nat) (t:Tk) (r:List Tk) (x:Rz Ss),lv<=20->T.drop i=t::r->qbT 12 2 true true false n lv (t::r)=some x->qsP s T (Z tP (.call 271 [.ptr 0 0,.int lv] (PS s T i 0 12))) x
def BkK(n:Nat):Prop := ∀ (lv i:Nat) (t:Tk) (r:List Tk) (x:Rz Ss),T.drop i=t::r->qaN 12 2 true true false n lv (t::r)=some x->qAv s T (Z tP (.call 256 [.ptr 0 0,.int lv] (PS s T i 0 12))) x
variable{s:ByteArray}{T:List Tk}
theorem qfE (hw:WfQ T) (hT:T.length<2 ^ 40) {i:Nat} {t:Tk} {r:List Tk} (h:T.drop i=t::r) {k:Int} {y:ByteArray} {d:D} (od:V.one (.dat d)=true) (oc:V.cells (.dat d)=[.dat d]) (b:Ss) :
  (∃ r' i',qa2 12 b (t::r) = .ok b r'/\T.drop i'=r'/\r'≠[]/\Z tP (.call 278 [.ptr 0 0,nv k y d] (PS s T i 0 12))=some (.ret (nv k y d) (PS s T i' 0 12))) \/
  (∃ a c,qa2 12 b (t::r) = .er a c /\ ∃ i':Nat,Z tP (.call 278 [.ptr 0 0,nv k y d] (PS s T i 0 12))=some (.ret (qbt c) (PS s T i' a c))):=by
 have he:=qcH (s:=s) hw hT h (x:=bs [59]) (by decide)
 unfold qa2
 cases hq:qam 12 (bs [59]) (t::r) with
 |ok u r'=>
  rw[hq] at he
  obtain⟨i',a1,a2,z⟩:=he
  exact .inl ⟨r',i',rfl,a1,a2,qyQ od oc z⟩
 |er a c=>
  rw[hq] at he
  obtain⟨i',z⟩:=he
  exact .inr ⟨a,c,rfl,i',qwu od oc z⟩
theorem qpd(hw:WfQ T)(hT:T.length<2 ^ 40)(hP : ∀ t∈T,TokP t){n lv i:Nat}{t:Tk}{r:List Tk}{x:Rz E}(hlv:lv<=20)(h:T.drop i=t::r)(hx:qak 12 2 true n 1 lv (t::r)=some x):Out s T (Z tP (.call 279 [.ptr 0 0,.int lv] (PS s T i 0 12))) x E.node:=
 (qqh hw hT hP n).1 1 lv i t r x (by omega) (by omega) hlv h hx
theorem qvf(hw:WfQ T)(hT:T.length<2 ^ 40){lv i:Nat}{t:Tk}{r:List Tk}{x:Rz Ss}(hlv:lv<=20)(h:T.drop i=t::r)(hb:t.bad=0)(hm:t.s=qfT)(hx:qa2 12 (Ss.stop .nil) r=x):qsP s T (Z tP (.call 271 [.ptr 0 0,.int lv] (PS s T i 0 12))) x:=by
 have hk:kindT t=2:=by rw[qcp hb,hm]; decide
 obtain⟨n1,n2⟩:=hw.next h hb (by rw[hm]; decide)
 obtain⟨t1,r1,rfl⟩:=qbb n2
 have d1:decide (kindT t=1)=false:=decide_eq_false (by omega)
 have d3:decide (kindT t=3)=false:=decide_eq_false (by omega)
 rcases qfE (s:=s) hw hT n1 (k:=6) (y:=⟨#[]⟩) (d := .lit (.slice none 0 0)) rfl rfl (Ss.stop .nil) with ⟨r',i',e1,e2,e3,z⟩|⟨a,c,e1,i',z⟩
 ·rw[e1] at hx; subst hx
  exact⟨i',6,⟨#[]⟩,.lit (.slice none 0 0),e2,e3,qpN hlv hT h hb d1 d3 hm z,rfl,rfl,by simp[Ss.fo],by simp[Ss.fo]⟩
 ·rw[e1] at hx; subst hx
  exact⟨i',qmZ hlv hT h hb d1 d3 hm z⟩
theorem qqL (hw:WfQ T) (hT:T.length<2 ^ 40) (hP : ∀ t∈T,TokP t) {n lv i:Nat} {t:Tk} {r:List Tk} {x:Rz Ss} (hlv:lv<=20) (h:T.drop i=t::r) (hb:t.bad=0) (hm:t.s=qaX)
  (hx:(match qak 12 2 true n 1 lv r with
    |some (.ok a r)=>match qam 12 (bs [44]) r with
     |.ok _ r1=>match qak 12 2 true n 1 lv r1 with
      |some (.ok b r2)=>some (qa2 12 (.effect true a b .nil) r2)
      |some (.er i k)=>some (.er i k)
      |none=>none
     |.er i k=>some (.er i k)
    |some (.er i k)=>some (.er i k)
    |none=>none)=some x):qsP s T (Z tP (.call 271 [.ptr 0 0,.int lv] (PS s T i 0 12))) x:=by
 have hk:kindT t=2:=by rw[qcp hb,hm]; decide
 obtain⟨n1,n2⟩:=hw.next h hb (by rw[hm]; decide)
 obtain⟨t1,r1,rfl⟩:=qbb n2
 have d1:decide (kindT t=1)=false:=decide_eq_false (by omega)
 have d3:decide (kindT t=3)=false:=decide_eq_false (by omega)
 cases hq:qak 12 2 true n 1 lv (t1::r1) with
 |none=>rw[hq] at hx; cases hx
 |some y=>
  rw[hq] at hx
  have h1:=qpd (s:=s) hw hT hP hlv n1 hq
  cases y with
  |er a c=>
   simp only[Wb] at hx
   subst hx
   obtain⟨i1,z1⟩:=h1
   exact⟨i1,qkM hlv hT h hb d1 d3 hm z1⟩
  |ok e r2=>
   simp only at hx
   obtain⟨i1,a1,a2,z1⟩:=h1
   obtain⟨t2,r3,rfl⟩:=qbb a2
   have h2:=qcH (s:=s) hw hT a1 (x:=bs [44]) (by decide)
   cases hq2:qam 12 (bs [44]) (t2::r3) with
   |er a c=>
    rw[hq2] at hx h2
    simp only[Wb] at hx
    subst hx
    obtain⟨i2,z2⟩:=h2
    exact⟨i2,qkN hlv hT h hb d1 d3 hm z1 z2⟩
   |ok u r4=>
    rw[hq2] at hx h2
    simp only at hx
    obtain⟨i2,b1,b2,z2⟩:=h2
    obtain⟨t3,r5,rfl⟩:=qbb b2
    cases hq3:qak 12 2 true n 1 lv (t3::r5) with
    |none=>rw[hq3] at hx; cases hx
    |some y=>
     rw[hq3] at hx
     have h3:=qpd (s:=s) hw hT hP hlv b1 hq3
     cases y with
     |er a c=>
      simp only[Wb] at hx
      subst hx
      obtain⟨i3,z3⟩:=h3
      exact⟨i3,qkO hlv hT h hb d1 d3 hm z1 z2 z3⟩
     |ok e' r6=>
      simp only[Wb] at hx
      obtain⟨i3,c1,c2,z3⟩:=h3
      obtain⟨t4,r7,rfl⟩:=qbb c2
      rcases qfE (s:=s) hw hT c1 (k:=5) (y:=⟨#[]⟩) (d := .sl (cE e++cE e') 2 true) rfl rfl (Ss.effect true e e' .nil) with ⟨r',i',e1,e2,e3,z⟩|⟨a,c,e1,i',z⟩
      ·rw[e1] at hx; subst hx
       exact⟨i',5,⟨#[]⟩,.sl (cE e++cE e') 2 true,e2,e3,qmY hlv hT h hb d1 d3 hm z1 z2 z3 z,rfl,rfl,by simp[Ss.fo],by simp[Ss.fo]⟩
      ·rw[e1] at hx; subst hx
       exact⟨i',qkP hlv hT h hb d1 d3 hm z1 z2 z3 z⟩
end
end
section
open F
section
variable{s:ByteArray}{T:List Tk}
theorem qrh (hw:WfQ T) (hT:T.length<2 ^ 40) (hP : ∀ t∈T,TokP t) {n lv i:Nat} {t:Tk} {r:List Tk} {x:Rz Ss} (hlv:lv<=20) (h:T.drop i=t::r) (hb:t.bad=0) (hl:qaj qaG t.s=true) (hf:t.s∉fieldNames) (hwd:t.s∉wordNames)
  (hx:(match qam 12 (bs [61]) r with
    |.ok _ r1=>match qak 12 2 true n 1 lv r1 with
     |some (.ok b r2)=>some (qa2 12 (.assign true t.s b .nil) r2)
     |some (.er i k)=>some (.er i k)
     |none=>none
    |.er i k=>some (.er i k))=some x):qsP s T (Z tP (.call 271 [.ptr 0 0,.int lv] (PS s T i 0 12))) x:=by
 have hne:=qgE hl
 have hk:kindT t=1:=by rw[qcp hb,qiL,if_neg hne,if_pos hl,if_neg hf,if_neg hwd]
 obtain⟨n1,n2⟩:=hw.next h hb hne
 obtain⟨t2,r3,rfl⟩:=qbb n2
 have h2:=qcH (s:=s) hw hT n1 (x:=bs [61]) (by decide)
 cases hq2:qam 12 (bs [61]) (t2::r3) with
 |er a c=>
  rw[hq2] at hx h2
  simp only[Wb] at hx
  subst hx
  obtain⟨i2,z2⟩:=h2
  exact⟨i2,qkJ hlv hT h hb hk z2⟩
 |ok u r4=>
  rw[hq2] at hx h2
  simp only at hx
  obtain⟨i2,b1,b2,z2⟩:=h2
  obtain⟨t3,r5,rfl⟩:=qbb b2
  cases hq3:qak 12 2 true n 1 lv (t3::r5) with
  |none=>rw[hq3] at hx; cases hx
  |some y=>
   rw[hq3] at hx
   have h3:=qpd (s:=s) hw hT hP hlv b1 hq3
   cases y with
   |er a c=>
    simp only[Wb] at hx
    subst hx
    obtain⟨i3,z3⟩:=h3
    exact⟨i3,qkK hlv hT h hb hk z2 z3⟩
   |ok e r6=>
    simp only[Wb] at hx
    obtain⟨i3,c1,c2,z3⟩:=h3
    obtain⟨t4,r7,rfl⟩:=qbb c2
    rcases qfE (s:=s) hw hT c1 (k:=1) (y:=t.s) (d := .sl (cE e) 1 true) rfl rfl (Ss.assign true t.s e .nil) with ⟨r',i',e1,e2,e3,z⟩|⟨a,c,e1,i',z⟩
    ·rw[e1] at hx; subst hx
     exact⟨i',1,t.s,.sl (cE e) 1 true,e2,e3,qmX hlv hT h hb hk z2 z3 z,rfl,rfl,by simp[Ss.fo],by simp[Ss.fo]⟩
    ·rw[e1] at hx; subst hx
     exact⟨i',qkL hlv hT h hb hk z2 z3 z⟩
theorem qtg (hw:WfQ T) (hT:T.length<2 ^ 40) (hP : ∀ t∈T,TokP t) {n lv i:Nat} {t:Tk} {r:List Tk} {x:Rz Ss} (hlv:lv<=20) (h:T.drop i=t::r) (hb:t.bad=0) (hf:t.s∈fieldNames)
  (hx:(match qa6 12 2 true n lv r with
    |some (.ok a r)=>match qam 12 (bs [61]) r with
     |.ok _ r1=>match qak 12 2 true n 1 lv r1 with
      |some (.ok b r2)=>some (qa2 12 (.store true t.s a b .nil) r2)
      |some (.er i k)=>some (.er i k)
      |none=>none
     |.er i k=>some (.er i k)
    |some (.er i k)=>some (.er i k)
    |none=>none)=some x):qsP s T (Z tP (.call 271 [.ptr 0 0,.int lv] (PS s T i 0 12))) x:=by
 have hall : ∀ w∈fieldNames,qiL w=3/\w≠⟨#[]⟩:=by decide
 have hk:kindT t=3:=by rw[qcp hb]; exact (hall _ hf).1
 cases hq:qa6 12 2 true n lv r with
 |none=>rw[hq] at hx; cases hx
 |some y=>
  rw[hq] at hx
  have h1:=(qqh (s:=s) hw hT hP n).2.2 lv i t r y hlv h hb (hall _ hf).2 hq
  cases y with
  |er a c=>
   simp only[Wb] at hx
   subst hx
   obtain⟨i1,z1⟩:=h1
   exact⟨i1,qlQ hlv hT h hb hk z1⟩
  |ok e r2=>
   simp only at hx
   obtain⟨i1,a1,a2,z1⟩:=h1
   obtain⟨t2,r3,rfl⟩:=qbb a2
   have h2:=qcH (s:=s) hw hT a1 (x:=bs [61]) (by decide)
   cases hq2:qam 12 (bs [61]) (t2::r3) with
   |er a c=>
    rw[hq2] at hx h2
    simp only[Wb] at hx
    subst hx
    obtain⟨i2,z2⟩:=h2
    exact⟨i2,qlR hlv hT h hb hk z1 z2⟩
   |ok u r4=>
    rw[hq2] at hx h2
    simp only at hx
    obtain⟨i2,b1,b2,z2⟩:=h2
    obtain⟨t3,r5,rfl⟩:=qbb b2
    cases hq3:qak 12 2 true n 1 lv (t3::r5) with
    |none=>rw[hq3] at hx; cases hx
    |some y=>
     rw[hq3] at hx
     have h3:=qpd (s:=s) hw hT hP hlv b1 hq3
     cases y with
     |er a c=>
      simp only[Wb] at hx
      subst hx
      obtain⟨i3,z3⟩:=h3
      exact⟨i3,qlS hlv hT h hb hk z1 z2 z3⟩
     |ok e' r6=>
      simp only[Wb] at hx
      obtain⟨i3,c1,c2,z3⟩:=h3
      obtain⟨t4,r7,rfl⟩:=qbb c2
      rcases qfE (s:=s) hw hT c1 (k:=2) (y:=t.s) (d := .sl (cE e++cE e') 2 true) rfl rfl (Ss.store true t.s e e' .nil) with ⟨r',i',e1,e2,e3,z⟩|⟨a,c,e1,i',z⟩
      ·rw[e1] at hx; subst hx
       exact⟨i',2,t.s,.sl (cE e++cE e') 2 true,e2,e3,qoS hlv hT h hb hk z1 z2 z3 z,rfl,rfl,by simp[Ss.fo],by simp[Ss.fo]⟩
      ·rw[e1] at hx; subst hx
       exact⟨i',qlT hlv hT h hb hk z1 z2 z3 z⟩
theorem qth (hw:WfQ T) (hT:T.length<2 ^ 40) (hP : ∀ t∈T,TokP t) {n lv i:Nat} (ihb:BkK s T n) {t:Tk} {r:List Tk} {x:Rz Ss} (hlv:lv<=20) (h:T.drop i=t::r) (hb:t.bad=0) (hm:t.s=qbd)
  (hx:(match qak 12 2 true n 1 lv r with
    |some (.ok c r)=>match qaN 12 2 true true false n (lv+1) r with
     |some (.ok b r1)=>some (.ok (.cond true true c (.block false b .nil) .nil) r1)
     |some (.er i k)=>some (.er i k)
     |none=>none
    |some (.er i k)=>some (.er i k)
    |none=>none)=some x):qsP s T (Z tP (.call 271 [.ptr 0 0,.int lv] (PS s T i 0 12))) x:=by
 have hk:kindT t=2:=by rw[qcp hb,hm]; decide
 obtain⟨n1,n2⟩:=hw.next h hb (by rw[hm]; decide)
 obtain⟨t1,r1,rfl⟩:=qbb n2
 have d1:decide (kindT t=1)=false:=decide_eq_false (by omega)
 have d3:decide (kindT t=3)=false:=decide_eq_false (by omega)
 cases hq:qak 12 2 true n 1 lv (t1::r1) with
 |none=>rw[hq] at hx; cases hx
 |some y=>
  rw[hq] at hx
  have h1:=qpd (s:=s) hw hT hP hlv n1 hq
  cases y with
  |er a c=>
   simp only[Wb] at hx
   subst hx
   obtain⟨i1,z1⟩:=h1
   exact⟨i1,qlU (d := .lit (.bool true)) hlv hT h hb d1 d3 hm rfl rfl z1⟩
  |ok e r2=>
   simp only at hx
   obtain⟨i1,a1,a2,z1⟩:=h1
   obtain⟨t2,r3,rfl⟩:=qbb a2
   cases hq2:qaN 12 2 true true false n (lv+1) (t2::r3) with
   |none=>rw[hq2] at hx; cases hx
   |some y=>
    rw[hq2] at hx
    have h2:=ihb (lv+1) i1 t2 r3 y a1 hq2
    cases y with
    |er a c=>
     simp only[Wb] at hx
     subst hx
     obtain⟨i2,z2⟩:=h2
     exact⟨i2,qlV (d := .lit (.bool true)) hlv hT h hb d1 d3 hm rfl rfl z1 z2⟩
    |ok b r4=>
     simp only[Wb] at hx
     subst hx
     obtain⟨i2,b1,b2,z2⟩:=h2
     refine⟨i2,4,⟨#[]⟩,_,b1,b2,qoT hlv hT h hb d1 d3 hm (by simp) (by simp) z1 z2,rfl,rfl,?_,?_⟩<;>simp[Ss.fo]
end
end
section
open F
section
variable{s:ByteArray}{T:List Tk}
theorem qzH (hw:WfQ T) (hT:T.length<2 ^ 40) (hP : ∀ t∈T,TokP t) {n lv i:Nat} (ihb:BkK s T n) {t:Tk} {r:List Tk} {x:Rz Ss} (hlv:lv<=20) (h:T.drop i=t::r) (hb:t.bad=0) (hm:t.s=ifT)
  (hx:(match qak 12 2 true n 1 lv r with
    |some (.ok c r)=>match qaN 12 2 true true false n (lv+1) r with
     |some (.ok b r1)=>match nx r1 with
      |none=>some (failP 12 r1)
      | some w=>if w=bs [101,108,115,101] then match qaN 12 2 true true false n (lv+1) r1.tail with
        |some (.ok b2 r2)=>some (.ok (.cond false true c (.block false b (.block false b2 .nil)) .nil) r2)
        |some (.er i k)=>some (.er i k)
        |none=>none
       else some (.ok (.cond false true c (.block false b (.block false .nil .nil)) .nil) r1)
     |some (.er i k)=>some (.er i k)
     |none=>none
    |some (.er i k)=>some (.er i k)
    |none=>none)=some x):qsP s T (Z tP (.call 271 [.ptr 0 0,.int lv] (PS s T i 0 12))) x:=by
 have hk:kindT t=2:=by rw[qcp hb,hm]; decide
 obtain⟨n1,n2⟩:=hw.next h hb (by rw[hm]; decide)
 obtain⟨t1,r1,rfl⟩:=qbb n2
 have d1:decide (kindT t=1)=false:=decide_eq_false (by omega)
 have d3:decide (kindT t=3)=false:=decide_eq_false (by omega)
 have z0:=qhv (s:=s) (a:=0) (c:=12) h hb hT (by rw[hm]; decide)
 rw[hm] at z0
 have pan : ∀ {i' a c:Nat},Z tP (.call 281 [.ptr 0 0,.int lv] (PS s T i 0 12))=some (.ret (qbt c) (PS s T i' a c))->qsP s T (Z tP (.call 271 [.ptr 0 0,.int lv] (PS s T i 0 12))) (.er a c):=fun z=>
  ⟨_,qpM (d := .lit (.bool true)) hlv hT h hb d1 d3 hm rfl rfl z⟩
 have fin : ∀ {i':Nat} {d:D} {b:Ss} {r':List Tk},T.drop i'=r'->r'≠[]->V.one (.dat d)=true->V.cells (.dat d)=[.dat d]->b.fo.cells=[.lit (.int .i64 3),.lit (.int .i64 0),.lit (.string ⟨#[]⟩),d]->b.fo.len=1->Z tP (.call 281 [.ptr 0 0,.int lv] (PS s T i 0 12))=some (.ret (nv 3 ⟨#[]⟩ d) (PS s T i' 0 12))->qsP s T (Z tP (.call 271 [.ptr 0 0,.int lv] (PS s T i 0 12))) (.ok b r'):=fun q1 q2 o1 o2 q3 q4 z=>
  ⟨_,3,⟨#[]⟩,_,q1,q2,qt9 hlv hT h hb d1 d3 hm o1 o2 z,o1,o2,q3,q4⟩
 cases hq:qak 12 2 true n 1 lv (t1::r1) with
 |none=>rw[hq] at hx; cases hx
 |some y=>
  rw[hq] at hx
  have h1:=qpd (s:=s) hw hT hP hlv n1 hq
  cases y with
  |er a c=>
   simp only[Wb] at hx
   subst hx
   obtain⟨i1,z1⟩:=h1
   exact pan (qxr hlv z0 z1)
  |ok e r2=>
   simp only at hx
   obtain⟨i1,a1,a2,z1⟩:=h1
   obtain⟨t2,r3,rfl⟩:=qbb a2
   cases hq2:qaN 12 2 true true false n (lv+1) (t2::r3) with
   |none=>rw[hq2] at hx; cases hx
   |some y=>
    rw[hq2] at hx
    have h2:=ihb (lv+1) i1 t2 r3 y a1 hq2
    cases y with
    |er a c=>
     simp only[Wb] at hx
     subst hx
     obtain⟨i2,z2⟩:=h2
     exact pan (qxs hlv z0 z1 z2)
    |ok b r4=>
     simp only at hx
     obtain⟨i2,b1,b2,z2⟩:=h2
     obtain⟨t3,r5,rfl⟩:=qbb b2
     by_cases hb3:t3.bad=0
     ·have hnx:nx (t3::r5)=some t3.s:=if_pos hb3
      rw[hnx] at hx
      simp only[WR] at hx
      by_cases hel:t3.s=bs [101,108,115,101]
      ·rw[if_pos hel] at hx
       obtain⟨m1,m2⟩:=hw.next b1 hb3 (by rw[hel]; decide)
       obtain⟨t4,r6,rfl⟩:=qbb m2
       cases hq3:qaN 12 2 true true false n (lv+1) (t4::r6) with
       |none=>rw[hq3] at hx; cases hx
       |some y=>
        rw[hq3] at hx
        have h3:=ihb (lv+1) (i2+1) t4 r6 y m1 hq3
        cases y with
        |er a c=>
         simp only[Wb] at hx
         subst hx
         obtain⟨i3,z3⟩:=h3
         exact pan (qxt hlv (by simp) (by simp) z0 z1 z2 hT b1 hb3 hel z3)
        |ok b' r7=>
         simp only[Wb] at hx
         subst hx
         obtain⟨i3,c1,c2,z3⟩:=h3
         exact fin c1 c2 rfl rfl (by simp[Ss.fo]) (by simp[Ss.fo]) (qzv hlv (by simp) (by simp) z0 z1 z2 (by simp) (by simp) hT b1 hb3 hel z3)
      ·rw[if_neg hel] at hx
       simp only[Wb] at hx
       subst hx
       exact fin b1 (by simp) rfl rfl (by simp[Ss.fo]) (by simp[Ss.fo]) (qzu hlv (by simp) (by simp) z0 z1 z2 b1 hb3 hel)
     ·have hnx:nx (t3::r5)=none:=if_neg hb3
      rw[hnx] at hx
      simp only[failP,if_neg hb3,Wb] at hx
      subst hx
      exact pan (qzt hlv (by simp) (by simp) z0 z1 z2 b1 hb3)
theorem qvG(hw:WfQ T)(hT:T.length<2 ^ 40)(hP : ∀ t∈T,TokP t){n:Nat}(ihb:BkK s T n):StK s T (n+1):=by
 intro lv i t r x hlv h hx
 by_cases hb:t.bad=0
 case neg=>
  have hnx:nx (t::r)=none:=if_neg hb
  rw[qbT,hnx] at hx
  simp only[failP,if_neg hb,Wb] at hx
  subst hx
  exact⟨i,qyR h hb⟩
 have hnx:nx (t::r)=some t.s:=if_pos hb
 rw[qbT,hnx] at hx
 simp only[WR] at hx
 by_cases h1:t.s=bs [105,102]
 ·rw[if_pos h1] at hx
  exact qzH hw hT hP ihb hlv h hb h1 hx
 rw[if_neg h1] at hx
 by_cases h2:t.s=bs [119,104,105,108,101]
 ·rw[if_pos h2] at hx
  exact qth hw hT hP ihb hlv h hb h2 hx
 rw[if_neg h2] at hx
 by_cases h3:t.s=bs [101,102,102,101,99,116]
 ·rw[if_pos h3] at hx
  exact qqL hw hT hP hlv h hb h3 hx
 rw[if_neg h3] at hx
 by_cases h4:t.s=bs [115,116,111,112]
 ·rw[if_pos h4] at hx
  exact qvf hw hT hlv h hb h4 (WC hx)
 rw[if_neg h4] at hx
 by_cases hf:t.s∈fieldNames
 ·rw[if_pos hf] at hx
  exact qtg hw hT hP hlv h hb hf hx
 rw[if_neg hf] at hx
 by_cases hv:qaj qaG t.s=true/\t.s∉wordNames
 ·rw[if_pos hv] at hx
  exact qrh hw hT hP hlv h hb hv.1 hf hv.2 hx
 rw[if_neg hv] at hx
 simp only[failP,if_pos hb,Wb] at hx
 subst hx
 have hk5:kindT t≠1/\kindT t≠3:=by
  rw[qcp hb,qiL]
  by_cases a1:t.s=⟨#[]⟩
  ·rw[if_pos a1]; decide
  ·rw[if_neg a1]
   by_cases a2:qaj qaG t.s=true
   ·rw[if_pos a2,if_neg hf]
    by_cases a3:t.s∈wordNames
    ·rw[if_pos a3]; decide
    ·exact absurd ⟨a2,a3⟩ hv
   ·rw[if_neg a2]
    split<;>decide
 exact⟨i,qwv hlv hT h hb (decide_eq_false hk5.1) (decide_eq_false hk5.2) h1 h2 h3 h4⟩
end
end
section
open F
section
variable(s:ByteArray)(T:List Tk)
def SsK(n:Nat):Prop := ∀ (lv i:Nat) (t:Tk) (r:List Tk) (a:Ss) (v:V) (σt:S) (x:Rz Ss),lv<=20->T.drop i=t::r->a.fo.len+(t::r).length<=2 ^ 40->qs2 v σt a.fo.cells a.fo.len->qbw 12 2 true true false n lv a (t::r)=some x->match x with
 |.ok b r' => ∃ (i':Nat) (t':Tk) (v':V) (σt':S),T.drop i'=t'::r'/\t'.bad=0/\t'.s=qow/\qs2 v' σt' b.fo.cells b.fo.len/\Z tP (.loop 3 F256l0 (bzF lv) (bzS s T i 0 12 v σt))=some (.out (.exit 0) (bzF lv++[(13,.bool false)]) (bzS s T i' 0 12 v' σt'))
 |.er a c => ∃ (i':Nat) (fr:Fr) (v':V) (σt':S),fr.get 1000000=none/\Z tP (.loop 3 F256l0 (bzF lv) (bzS s T i 0 12 v σt))=some (.out (.pan (.iface 1 (.int c))) fr (bzS s T i' a c v' σt'))
variable{s:ByteArray}{T:List Tk}
theorem qp5{n lv:Nat}{ts r:List Tk}{b:Ss}(h:qbT 12 2 true true false n lv ts=some (.ok b r)):r.length<=ts.length-1:=by
 have h1:=qho h (WG n (10*ts.length+1))
 obtain⟨y,h2,h3⟩:=(qgn 12 2 true true false (max n (10*ts.length+1))).1 lv ts (WD _ _)
 rw[h1] at h2
 cases h2
 exact h3 b r rfl
theorem quq{n:Nat}(ihs:StK s T n)(ihl:SsK s T n):SsK s T (n+1):=by
 intro lv i t r a v σt x hlv h hlen hr hx
 rw[qbw] at hx
 by_cases hb:t.bad=0
 case neg=>
  have hnx:nx (t::r)=none:=if_neg hb
  rw[hnx] at hx
  simp only[failP,if_neg hb,Wb] at hx
  subst hx
  obtain⟨fr,f1,f2⟩:=qxO (s:=s) (lv:=lv) h hb hr
  exact⟨i,fr,v,σt,f1,f2⟩
 have hnx:nx (t::r)=some t.s:=if_pos hb
 rw[hnx] at hx
 simp only[WR] at hx
 by_cases he:t.s=bs [125]
 ·rw[if_pos he] at hx
  simp only[Wb] at hx
  subst hx
  exact⟨i,t,v,σt,h,hb,he,hr,qxN h hb he hr⟩
 rw[if_neg he] at hx
 cases hq:qbT 12 2 true true false n lv (t::r) with
 |none=>rw[hq] at hx; cases hx
 |some y=>
  rw[hq] at hx
  have hs:=ihs lv i t r y hlv h hq
  cases y with
  |er p c=>
   simp only[Wb] at hx
   subst hx
   obtain⟨i',z⟩:=hs
   exact⟨i',[],v,σt,rfl,qxP h hb he hr z⟩
  |ok b r'=>
   simp only at hx
   obtain⟨i',k,y,d,a1,a2,z,o1,o2,c1,c2⟩:=hs
   have hl:=qp5 hq
   simp only[Wj] at hl hlen
   obtain⟨v',σt',r1,r2⟩:=qs3 h hb he hr (by omega) o1 o2 z
   obtain⟨t2,r2',rfl⟩:=qbb a2
   have hr':qs2 v' σt' (a.app b).fo.cells (a.app b).fo.len:=by
    rw[qgY,qfl,qc5,c1,c2]; exact r1
   have hlen':(a.app b).fo.len+(t2::r2').length<=2 ^ 40:=by
    rw[qgY,qc5,c2]
    simp only[Wj] at hl ⊢
    omega
   have:=ihl lv i' t2 r2' (a.app b) v' σt' x hlv a1 hlen' hr' hx
   cases x with
   |ok b3 r3=>
    obtain⟨i3,t3,v3,σ3,e1,e2,e3,e4,e5⟩:=this
    exact⟨i3,t3,v3,σ3,e1,e2,e3,e4,r2.trans e5⟩
   |er p c=>
    obtain⟨i3,fr,v3,σ3,e1,e2⟩:=this
    exact⟨i3,fr,v3,σ3,e1,r2.trans e2⟩
theorem qur(hw:WfQ T)(hT:T.length<2 ^ 30){n:Nat}(ihl:SsK s T n):BkK s T (n+1):=by
 intro lv i t r x h hx
 rw[qaN] at hx
 have ho:=qif (s:=s) hw (by omega) h (x:=bs [123]) (by decide) (lv:=lv)
 cases hq:qbO 12 2 (bs [123]) lv (t::r) with
 |er a c=>
  rw[hq] at hx ho
  simp only[Wb] at hx
  subst hx
  obtain⟨i',z⟩:=ho
  exact⟨i',qvB z⟩
 |ok u r1=>
  have hl1:=qk2 hq
  rw[hq] at hx ho
  simp only at hx
  obtain⟨i1,a1,a2,z1⟩:=ho
  obtain⟨t1,r2,rfl⟩:=qbb a2
  have hlen:(t1::r2).length<=T.length:=by rw[<- a1,WT]; omega
  have hl:=ihl lv i1 t1 r2 .nil (.dat (.lit (.slice none 0 0))) [] x hl1 a1 (by show 0+_<=_; omega) (.inl ⟨rfl,rfl,rfl,rfl⟩) hx
  cases x with
  |er p c=>
   obtain⟨i3,fr,v3,σ3,e1,e2⟩:=hl
   exact⟨i3,qxQ z1 e1 e2⟩
  |ok b r3=>
   obtain⟨i3,t3,v3,σ3,e1,e2,e3,e4,e5⟩:=hl
   obtain⟨n1,n2⟩:=hw.next e1 e2 (by rw[e3]; decide)
   exact⟨i3+1,n1,n2,qzE (by omega) z1 e4 e5 e1 e2 e3⟩
theorem qtz(hw:WfQ T)(hT:T.length<2 ^ 30)(hP : ∀ t∈T,TokP t) : ∀ n,StK s T n/\BkK s T n/\SsK s T n
 |0=>⟨fun lv i t r x _ _ hx=>by simp[qbT] at hx,fun lv i t r x _ hx=>by simp[qaN] at hx,fun lv i t r a v σt x _ _ _ _ hx=>by simp[qbw] at hx⟩
 |n+1=>by
  obtain⟨ihs,ihb,ihl⟩:=qtz hw hT hP n
  exact⟨qvG hw (by omega) hP ihb,qur hw hT ihl,quq ihs ihl⟩
end
end
section
open F
attribute [local simp] qbm qca dkey
section
variable{s:ByteArray}{T:List Tk}{i:Nat}{t:Tk}{r:List Tk}{a c:Int}
theorem qhB{k:Nat}(h:T.drop i=t::r)(hb:t.bad=0)(hk:qaY t.s=some k):Z tP (.call 254 [.ptr 0 0] (PS s T i 0 12))=some (.ret (.int k) (PS s T i 0 12)):=by
 have zp:=qaC (s:=s) (a:=0) (c:=12) h hb
 simp only[PS,pO,ptk,ptD,qas hb] at zp
 generalize t.s=w at zp hk
 unfold qaY at hk
 by_cases h1:w=bs [97,99,116]
 ·subst h1
  simp only[if_true,Wb] at hk
  subst hk
  simp only[bs] at zp
  refine Z_call (pf:=F254) rfl rfl ?_
  simp[F254,zp,qah,Wa]
 rw[if_neg h1] at hk
 by_cases h2:w=bs [116,105,99,107]
 ·subst h2
  simp only[if_true,Wb] at hk
  subst hk
  simp only[bs] at zp
  refine Z_call (pf:=F254) rfl rfl ?_
  simp[F254,zp,qah,Wa]
 rw[if_neg h2] at hk
 by_cases h3:w=qfM
 ·subst h3
  simp only[if_true,Wb] at hk
  subst hk
  simp only[qfM] at zp
  refine Z_call (pf:=F254) rfl rfl ?_
  simp[F254,zp,qah,Wa]
 ·rw[if_neg h3] at hk; cases hk
theorem qpt(h:T.drop i=t::r)(hb:t.bad=0)(hk:qaY t.s=none):Z tP (.call 254 [.ptr 0 0] (PS s T i 0 12))=some (.ret (qbt 12) (PS s T i t.at_ 12)):=by
 have zp:=qaC (s:=s) (a:=0) (c:=12) h hb
 have zf:=qg5 (s:=s) (T:=T) (i:=i) (a:=0) (c:=12) (k:=kindT t) (x:=t.s) (at_:=t.at_) (v:=valT t) (e:=t.bad) (c':=12)
 simp only[PS,pO,ptk,ptD,qas hb] at zp zf
 unfold qaY at hk
 by_cases h1:t.s=bs [97,99,116]
 ·rw[if_pos h1] at hk; cases hk
 rw[if_neg h1] at hk
 by_cases h2:t.s=bs [116,105,99,107]
 ·rw[if_pos h2] at hk; cases hk
 rw[if_neg h2] at hk
 by_cases h3:t.s=qfM
 ·rw[if_pos h3] at hk; cases hk
 simp only[bs] at h1 h2
 simp only[qfM] at h3
 refine Z_call (pf:=F254) rfl rfl ?_
 simp[F254,zp,zf,h1,h2,h3,qah,qaf,Wa]
theorem qnw(h:T.drop i=t::r)(hb:t.bad≠0):Z tP (.call 254 [.ptr 0 0] (PS s T i 0 12))=some (.ret (qbt t.bad) (PS s T i t.at_ t.bad)):=by
 have zp:=qe2 (s:=s) (a:=0) (c:=12) h hb
 simp only[PS,pO] at zp
 refine Z_call (pf:=F254) rfl rfl ?_
 simp[F254,zp,qaf,Wa]
theorem qfm{w:ByteArray}{k:Nat}(h:qaY w=some k):k=0\/k=1\/k=2:=by
 unfold qaY at h
 split at h
 ·cases h; omega
 split at h
 ·cases h; omega
 split at h
 ·cases h; omega
 ·cases h
end
end
section
open F
attribute [local simp] qbm qca dkey
abbrev pgF:Fr:=[(0,.ptr 0 0),(2,.ptr 3 0),(3,.ptr 4 0)]
abbrev pgS(s:ByteArray)(T:List Tk)(i a c:Int)(q:Nat->N4):S:=PS s T i a c++[qr1,rob q]
section
variable{s:ByteArray}{T:List Tk}{i i' i2:Nat}{t:Tk}{r:List Tk}{a c:Int}{q:Nat->N4}
theorem qxi(h:T.drop i=t::r)(hb:t.bad=0)(hs:t.s=⟨#[]⟩):Z tP (.loop 3 F242l0 pgF (pgS s T i 0 12 q))=some (.out (.exit 0) (pgF++[(8,.bool false)]) (pgS s T i 0 12 q)):=by
 have zp:=qaC (s:=s) (a:=0) (c:=12) h hb
 have hk:kindT t=0:=by rw[qcp hb,qiL,if_pos hs]
 have k0:=(q 0).one
 have k1:=(q 1).one
 have k2:=(q 2).one
 have c0:=(q 0).cl
 have c1:=(q 1).cl
 have c2:=(q 2).cl
 simp only[PS,pO,ptk,ptD,hk] at zp
 rw[qab]
 simp[qaa,qcY,zp,k0,k1,k2,c0,c1,c2,Wa]
theorem qxj(h:T.drop i=t::r)(hb:t.bad≠0) : ∃ fr,fr.get 1000000=none/\Z tP (.loop 3 F242l0 pgF (pgS s T i 0 12 q))=some (.out (.pan (.iface 1 (.int t.bad))) fr (pgS s T i t.at_ t.bad q)):=by
 have zp:=qe2 (s:=s) (a:=0) (c:=12) h hb
 simp only[PS,pO] at zp
 refine⟨(5,.ptr 0 0)::pgF,by simp[Fr.get],?_⟩
 rw[qab]
 simp[qaa,qcY,zp,qaf,Wa]
theorem qzf(h:T.drop i=t::r)(hb:t.bad=0)(hs:t.s≠⟨#[]⟩)(z:Z tP (.call 253 [.ptr 0 0,.str ⟨#[111,110]⟩] (PS s T i 0 12))=some (.ret (qbt c) (PS s T i' a c))) : ∃ fr,fr.get 1000000=none/\Z tP (.loop 3 F242l0 pgF (pgS s T i 0 12 q))=some (.out (.pan (.iface 1 (.int c))) fr (pgS s T i' a c q)):=by
 have zp:=qaC (s:=s) (a:=0) (c:=12) h hb
 have hk:decide (kindT t=0)=false:=decide_eq_false (fun e=>hs ((qew hb).mp e))
 simp only[PS,pO,ptk,ptD] at zp z
 refine⟨(9,.ptr 0 0)::(pgF++[(8,.bool true)]),by simp[Fr.get],?_⟩
 rw[qab]
 simp[qaa,qcY,zp,z,hk,qaf,Wa]
theorem qqq (h:T.drop i=t::r) (hb:t.bad=0) (hs:t.s≠⟨#[]⟩) (z:Z tP (.call 253 [.ptr 0 0,.str ⟨#[111,110]⟩] (PS s T i 0 12))=some (.ret (.tup []) (PS s T i' 0 12)))
  (zh:Z tP (.call 254 [.ptr 0 0] (PS s T i' 0 12))=some (.ret (qbt c) (PS s T i2 a c))) : ∃ fr,fr.get 1000000=none/\Z tP (.loop 3 F242l0 pgF (pgS s T i 0 12 q))=some (.out (.pan (.iface 1 (.int c))) fr (pgS s T i2 a c q)):=by
 have zp:=qaC (s:=s) (a:=0) (c:=12) h hb
 have hk:decide (kindT t=0)=false:=decide_eq_false (fun e=>hs ((qew hb).mp e))
 simp only[PS,pO,ptk,ptD] at zp z zh
 refine⟨(11,.ptr 0 0)::pgF,by simp[Fr.get],?_⟩
 rw[qab]
 simp[qaa,qcY,zp,z,zh,hk,qaf,Wa]
theorem qxk {t2:Tk} {r2:List Tk} {k:Nat} (h:T.drop i=t::r) (hb:t.bad=0) (hs:t.s≠⟨#[]⟩) (z:Z tP (.call 253 [.ptr 0 0,.str ⟨#[111,110]⟩] (PS s T i 0 12))=some (.ret (.tup []) (PS s T i' 0 12)))
  (h2:T.drop i'=t2::r2) (hb2:t2.bad=0) (hh:qaY t2.s=some k) (hq:decide ((q k).k=0)=false) : ∃ fr,fr.get 1000000=none/\Z tP (.loop 3 F242l0 pgF (pgS s T i 0 12 q))=some (.out (.pan (.iface 1 (.int 4))) fr (pgS s T i' t2.at_ 4 q)):=by
 have zp:=qaC (s:=s) (a:=0) (c:=12) h hb
 have zp2:=qaC (s:=s) (a:=0) (c:=12) h2 hb2
 have zh:=qhB (s:=s) h2 hb2 hh
 have zf:=qg5 (s:=s) (T:=T) (i:=i') (a:=0) (c:=12) (k:=kindT t2) (x:=qfV t2) (at_:=t2.at_) (v:=valT t2) (e:=t2.bad) (c':=4)
 have hk:decide (kindT t=0)=false:=decide_eq_false (fun e=>hs ((qew hb).mp e))
 simp only[PS,pO,ptk,ptD] at zp zp2 z zh zf
 have k0:=(q 0).one
 have k1:=(q 1).one
 have k2:=(q 2).one
 have c0:=(q 0).cl
 have c1:=(q 1).cl
 have c2:=(q 2).cl
 refine⟨(21,ptk t2)::(20,.ptr 0 0)::(19,.ptr 0 0)::(pgF++[(4,.int k),(18,.bool true)]),by simp[Fr.get],?_⟩
 rw[qab]
 rcases qfm hh with rfl|rfl|rfl<;>simp[qaa,qcY,zp,zp2,z,zh,zf,hk,hq,k0,k1,k2,c0,c1,c2,qaf,Wa]
theorem qxl {t2:Tk} {r2:List Tk} {k:Nat} (hT:T.length<2 ^ 40) (h:T.drop i=t::r) (hb:t.bad=0) (hs:t.s≠⟨#[]⟩) (z:Z tP (.call 253 [.ptr 0 0,.str ⟨#[111,110]⟩] (PS s T i 0 12))=some (.ret (.tup []) (PS s T i' 0 12)))
  (h2:T.drop i'=t2::r2) (hb2:t2.bad=0) (hh:qaY t2.s=some k) (hq:decide ((q k).k=0)=true) (zb:Z tP (.call 256 [.ptr 0 0,.int 1] (PS s T ((i'+1:Nat):Int) 0 12))=some (.ret (qbt c) (PS s T i2 a c))) : ∃ fr,fr.get 1000000=none/\Z tP (.loop 3 F242l0 pgF (pgS s T i 0 12 q))=some (.out (.pan (.iface 1 (.int c))) fr (pgS s T i2 a c q)):=by
 have zp:=qaC (s:=s) (a:=0) (c:=12) h hb
 have zh:=qhB (s:=s) h2 hb2 hh
 have hlt:=qjO h2
 have w1:=qae ((i':Int)+1) (by omega)
 have hk:decide (kindT t=0)=false:=decide_eq_false (fun e=>hs ((qew hb).mp e))
 simp only[PS,pO,ptk,ptD] at zp z zh zb
 simp only[Wn,Wd] at zb
 have k0:=(q 0).one
 have k1:=(q 1).one
 have k2:=(q 2).one
 have c0:=(q 0).cl
 have c1:=(q 1).cl
 have c2:=(q 2).cl
 refine⟨(31,.ptr 0 0)::(30,.int k)::(pgF++[(4,.int k)]),by simp[Fr.get],?_⟩
 rw[qab]
 rcases qfm hh with rfl|rfl|rfl<;>simp[qaa,qcY,zp,z,zh,zb,w1,hk,hq,k0,k1,k2,c0,c1,c2,qaf,Wa]
theorem qzg {t2:Tk} {r2:List Tk} {k:Nat} {d:D} (hT:T.length<2 ^ 40) (h:T.drop i=t::r) (hb:t.bad=0) (hs:t.s≠⟨#[]⟩) (z:Z tP (.call 253 [.ptr 0 0,.str ⟨#[111,110]⟩] (PS s T i 0 12))=some (.ret (.tup []) (PS s T i' 0 12)))
  (h2:T.drop i'=t2::r2) (hb2:t2.bad=0) (hh:qaY t2.s=some k) (hq:decide ((q k).k=0)=true) (od:V.one (.dat d)=true) (oc:V.cells (.dat d)=[.dat d]) (zb:Z tP (.call 256 [.ptr 0 0,.int 1] (PS s T ((i'+1:Nat):Int) 0 12))=some (.ret (nv 7 ⟨#[]⟩ d) (PS s T i2 0 12))):Z tP (.loop 3 F242l0 pgF (pgS s T i 0 12 q))=Z tP (.loop 3 F242l0 pgF (pgS s T i2 0 12 (qpR q k ⟨7,0,⟨#[]⟩,d,od,oc⟩))):=by
 have zp:=qaC (s:=s) (a:=0) (c:=12) h hb
 have zh:=qhB (s:=s) h2 hb2 hh
 have hlt:=qjO h2
 have w1:=qae ((i':Int)+1) (by omega)
 have hk:decide (kindT t=0)=false:=decide_eq_false (fun e=>hs ((qew hb).mp e))
 simp only[PS,pO,ptk,ptD] at zp z zh
 simp only[PS,pO,nv] at zb
 simp only[Wn,Wd] at zb
 have k0:=(q 0).one
 have k1:=(q 1).one
 have k2:=(q 2).one
 have c0:=(q 0).cl
 have c1:=(q 1).cl
 have c2:=(q 2).cl
 conv=>lhs; rw[qab]
 rcases qfm hh with rfl|rfl|rfl<;>simp[qaa,qcY,zp,z,zh,zb,od,oc,w1,hk,hq,k0,k1,k2,c0,c1,c2,qpR,Wa]<;>rfl
end
end
section
open F
theorem qzh{w:ByteArray}(h:w.size=0):w=⟨#[]⟩:=by
 have hb:byl w=[]:=WH (by rw[qat]; exact h)
 have:=qcW w
 rw[hb] at this
 exact this.symm
section
variable{s:ByteArray}{T:List Tk}
theorem qmm (hw:WfQ T) (hT:T.length<2 ^ 30) (hP : ∀ t∈T,TokP t) : ∀ (n:Nat) (hh:Nat->Option Ss) (i:Nat) (t:Tk) (r:List Tk) (x:Rz (Nat->Option Ss)),T.drop i=t::r->qcj 12 2 4 true true false n hh (t::r)=some x->match x with
  |.ok h' _ => ∃ i':Nat,Z tP (.loop 3 F242l0 pgF (pgS s T i 0 12 fun k=>qcR (hh k)))=some (.out (.exit 0) (pgF++[(8,.bool false)]) (pgS s T i' 0 12 fun k=>qcR (h' k)))
  |.er a c => ∃ (i':Nat) (fr:Fr) (q':Nat->N4),fr.get 1000000=none/\Z tP (.loop 3 F242l0 pgF (pgS s T i 0 12 fun k=>qcR (hh k)))=some (.out (.pan (.iface 1 (.int c))) fr (pgS s T i' a c q'))
 |0,hh,i,t,r,x,_,hx=>by simp[qcj] at hx
 |n+1,hh,i,t,r,x,h,hx=>by
  rw[qcj] at hx
  by_cases hb:t.bad=0
  case neg=>
   have hnx:nx (t::r)=none:=if_neg hb
   rw[hnx] at hx
   simp only[failP,if_neg hb,Wb] at hx
   subst hx
   obtain⟨fr,f1,f2⟩:=qxj (s:=s) (q:=fun k=>qcR (hh k)) h hb
   exact⟨i,fr,_,f1,f2⟩
  have hnx:nx (t::r)=some t.s:=if_pos hb
  rw[hnx] at hx
  simp only at hx
  by_cases h0:t.s.size=0
  ·rw[if_pos h0] at hx
   simp only[Wb] at hx
   subst hx
   exact⟨i,qxi h hb (qzh h0)⟩
  rw[if_neg h0] at hx
  have hne:t.s≠⟨#[]⟩:=fun e=>h0 (by rw[e]; rfl)
  have ho:=qcH (s:=s) hw (by omega) h (x:=bs [111,110]) (by decide)
  cases hq:qam 12 (bs [111,110]) (t::r) with
  |er a c=>
   rw[hq] at hx ho
   simp only[Wb] at hx
   subst hx
   obtain⟨i',z⟩:=ho
   obtain⟨fr,f1,f2⟩:=qzf (q:=fun k=>qcR (hh k)) h hb hne z
   exact⟨i',fr,_,f1,f2⟩
  |ok u r1=>
   rw[hq] at hx ho
   simp only at hx
   obtain⟨i1,a1,a2,z⟩:=ho
   obtain⟨t2,r2,rfl⟩:=qbb a2
   by_cases hb2:t2.bad=0
   case neg=>
    have hnx2:nx (t2::r2)=none:=if_neg hb2
    rw[hnx2] at hx
    simp only[failP,if_neg hb2,Wb] at hx
    subst hx
    obtain⟨fr,f1,f2⟩:=qqq (q:=fun k=>qcR (hh k)) h hb hne z (qnw a1 hb2)
    exact⟨i1,fr,_,f1,f2⟩
   have hnx2:nx (t2::r2)=some t2.s:=if_pos hb2
   rw[hnx2] at hx
   simp only at hx
   cases hk:qaY t2.s with
   |none=>
    rw[hk] at hx
    simp only[failP,if_pos hb2,Wb] at hx
    subst hx
    obtain⟨fr,f1,f2⟩:=qqq (q:=fun k=>qcR (hh k)) h hb hne z (qpt a1 hb2 hk)
    exact⟨i1,fr,_,f1,f2⟩
   |some k=>
    rw[hk] at hx
    simp only at hx
    by_cases hd:(hh k).isSome=true
    ·rw[if_pos hd] at hx
     simp only[failP,if_pos hb2,Wb] at hx
     subst hx
     obtain⟨b,hbb⟩:=Option.isSome_iff_exists.1 hd
     obtain⟨fr,f1,f2⟩:=qxk (s:=s) (q:=fun k=>qcR (hh k)) h hb hne z a1 hb2 hk (decide_eq_false (by simp only[hbb,qcR]; decide))
     exact⟨i1,fr,_,f1,f2⟩
    ·rw[if_neg hd] at hx
     have hno:hh k=none:=by simpa using hd
     have hq0:decide ((qcR (hh k)).k=0)=true:=decide_eq_true (by rw[hno]; rfl)
     obtain⟨n1,n2⟩:=hw.next a1 hb2 (fun e=>by rw[e,show qaY ⟨#[]⟩=none by decide] at hk; cases hk)
     obtain⟨t3,r3,rfl⟩:=qbb n2
     simp only[WR] at hx
     cases hq3:qaN 12 2 true true false n 1 (t3::r3) with
     |none=>rw[hq3] at hx; cases hx
     |some y=>
      rw[hq3] at hx
      have hbk:=(qtz (s:=s) hw hT hP n).2.1 1 (i1+1) t3 r3 y n1 hq3
      cases y with
      |er a c=>
       simp only[Wb] at hx
       subst hx
       obtain⟨i2,z2⟩:=hbk
       obtain⟨fr,f1,f2⟩:=qxl (q:=fun k=>qcR (hh k)) (by omega) h hb hne z a1 hb2 hk hq0 z2
       exact⟨i2,fr,_,f1,f2⟩
      |ok b r4=>
       simp only at hx
       obtain⟨i2,b1,b2,z2⟩:=hbk
       obtain⟨t4,r5,rfl⟩:=qbb b2
       have zs:=qzg (q:=fun k=>qcR (hh k)) (by omega) h hb hne z a1 hb2 hk hq0 (by simp) (by simp) z2
       have hu:qpR (fun k=>qcR (hh k)) k ⟨7,0,⟨#[]⟩,kd false b.fo.len b.fo.cells,by simp,by simp⟩=fun j=>qcR (if j=k then some b else hh j):=by
        funext j
        unfold qpR
        split<;>rfl
       rw[hu] at zs
       have:=qmm hw hT hP n (fun j=>if j=k then some b else hh j) i2 t4 r5 x b1 hx
       cases x with
       |ok h' q=>
        obtain⟨i3,e1⟩:=this
        exact⟨i3,zs.trans e1⟩
       |er a c=>
        obtain⟨i3,fr,q',e1,e2⟩:=this
        exact⟨i3,fr,q',e1,zs.trans e2⟩
end
end
section
open F
attribute [local simp] qbm qca dkey
section
variable{s:ByteArray}{T:List Tk}{i':Nat}{q:Nat->N4}{a c:Int}
theorem qo7(z:Z tP (.loop 3 F242l0 pgF (pgS s T 0 0 12 fun k=>qcR none))=some (.out (.exit 0) (pgF++[(8,.bool false)]) (pgS s T i' 0 12 q))):Z tP (.call 242 [.ptr 0 0] (PS s T 0 0 12))=some (.ret (qq9 q) (PS s T i' 0 12)):=by
 have k0:=(q 0).one
 have k1:=(q 1).one
 have k2:=(q 2).one
 have c0:=(q 0).cl
 have c1:=(q 1).cl
 have c2:=(q 2).cl
 simp only[pgS,PS,pO,rob,qcR,Wf,Wc] at z
 refine Z_call (pf:=F242) rfl rfl ?_
 simp[F242,z,k0,k1,k2,c0,c1,c2,Wa]
theorem qnf{fr:Fr}(hf:fr.get 1000000=none)(z:Z tP (.loop 3 F242l0 pgF (pgS s T 0 0 12 fun k=>qcR none))=some (.out (.pan (.iface 1 (.int c))) fr (pgS s T i' a c q))):Z tP (.call 242 [.ptr 0 0] (PS s T 0 0 12))=some (.ret (qbt c) (PS s T i' a c)):=by
 simp only[pgS,PS,pO,rob,qcR,Wf,Wc] at z
 refine Z_call (pf:=F242) rfl rfl ?_
 simp[F242,z,hf,Wa]
end
end
section
open F
attribute [local simp] qbm qca dkey
section
variable{s:ByteArray}{T:List Tk}{i':Nat}{q:Nat->N4}{a c:Int}
theorem qrb(h:(2000:Int)<s.size):Z tP (.call 228 [.str s] [])=some (.ret (.tup [qq9 fun _=>qcR none,.int 2000,.int 2]) []):=by
 refine Z_call (pf:=F228) rfl rfl ?_
 simp[F228,h,V.len,qcR,Wa]
abbrev dS(s:ByteArray)(T:List Tk)(q:Nat->N4)(x y:Int)(i a c:Int):S:=[.cells [.ptr 4 0],rob q,.cells [.int x],.cells [.int y],pO s 5 (.gsl (ptC T) T.length 5 6) i a c,.map kwM,.tip (ptC T).length]
theorem qrc{x y i a c:Int}:Z tP (.dcall 240 [.dat (.lit .nilIface),.ptr 0 0,.ptr 1 0,.ptr 2 0,.ptr 3 0] (dS s T q x y i a c))=some (.ret (.dat (.lit undef)) (dS s T q x y i a c)):=by
 have k0:=(q 0).one
 have k1:=(q 1).one
 have k2:=(q 2).one
 have c0:=(q 0).cl
 have c1:=(q 1).cl
 have c2:=(q 2).cl
 refine qmU (pf:=F240) rfl ?_
 have hfl:F240.body.flat=true:=rfl
 simp only[qa7]
 rw[if_pos ⟨rfl,rfl,rfl,hfl,.inl rfl⟩]
 simp[F240,qjZ,k0,k1,k2,c0,c1,c2,Wa]
theorem qtd (h : ¬ (2000:Int)<s.size) (zt:Z tP (.call 249 [.yld 0,.ptr 1 0] (TT0 s))=some (.ret (.tup []) (TT1 s (ptC T) T.length)))
  (z:Z tP (.call 242 [.ptr 0 0] (PS s T 0 0 12))=some (.ret (qq9 q) (PS s T i' 0 12))):Z tP (.call 228 [.str s] [])=some (.ret (.tup [qq9 q,.int 0,.int 0]) []):=by
 have z1:=qjP s
 have z2:=qmi s
 have k0:=(q 0).one
 have k1:=(q 1).one
 have k2:=(q 2).one
 have c0:=(q 0).cl
 have c1:=(q 1).cl
 have c2:=(q 2).cl
 simp only[pO] at z2
 simp only[TT0,TT1,pO] at zt
 simp only[PS,pO] at z
 have zd:=qrc (s:=s) (T:=T) (q:=q) (x:=0) (y:=0) (i:=i') (a:=0) (c:=12)
 simp only[dS,pO,rob] at zd
 refine Z_call (pf:=F228) rfl rfl ?_
 simp[F228,z1,z2,zt,z,zd,h,V.len,k0,k1,k2,c0,c1,c2,Wa]
end
end
end Go.Pm
