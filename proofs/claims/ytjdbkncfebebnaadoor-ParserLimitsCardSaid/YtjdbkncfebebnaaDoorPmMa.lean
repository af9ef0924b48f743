/- Chapter 13's parser: blocks are the plain ones. Chapter 13's parser: handlers. Chapter 13's parser: a whole program: the walks. Chapter 13's parser: whole programs are the plain ones. Chapter 13's parser: program. Chapter 13's parser: Parse is the plain one. Chapter 13's parser: Parse behind an error. Chapter 13's parser: Parse, whole. What the laws of chapter 13 call, over any table that has it: Short, Broken, Source, Parse, Print, equal. Chapter 13's law ParserRound. Chapter 13's law ParserLimits: the sources, by the kernel. Chapter 13's law ParserLimits: repeat, and the walk. The abstract machine's programs: tables of functions. Chapter 13's laws, over the whole table. Chapter 13's law ParserTail, over the whole table. Chapter 13's law ParserLimits, over the whole table. -/
import Derived.Test.YtjdbkncfebebnaaDoorPmKu
import Derived.Test.YtjdbkncfebebnaaDoorPmFx
import Derived.Test.YtjdbkncfebebnaaDoorPmYh
import Derived.KernelRfl
import Derived.Test.YtjdbkncfebebnaaDoorPmF3
set_option linter.unusedSimpArgs false
set_option linter.unusedVariables false
section SMa
namespace Go.Pm
open F
set_option maxHeartbeats 2000000
section
variable (s:ByteArray) (T:List Tk)
def SsK (n:Nat):Prop := ∀ (lv i:Nat) (t:Tk) (r:List Tk) (a:Ss) (v:V) (σt:S) (x:Rz Ss),lv<=20->T.drop i=t::r->a.fo.len+(t::r).length<=2 ^ 40->qmp v σt a.fo.cells a.fo.len->qbV 12 2 true true false n lv a (t::r)=some x->match x with
 | .ok b r' => ∃ (i':Nat) (t':Tk) (v':V) (σt':S),T.drop i'=t'::r'/\t'.bad=0/\t'.s=qjB/\qmp v' σt' b.fo.cells b.fo.len/\Z tP (.loop 3 F256l0 (bzF lv) (bzS s T i 0 12 v σt))=some (.out (.exit 0) (bzF lv++[(13,.bool false)]) (bzS s T i' 0 12 v' σt'))
 | .er a c => ∃ (i':Nat) (fr:Fr) (v':V) (σt':S),fr.get 1000000=none/\Z tP (.loop 3 F256l0 (bzF lv) (bzS s T i 0 12 v σt))=some (.out (.pan (.iface 1 (.int c))) fr (bzS s T i' a c v' σt'))
variable {s:ByteArray} {T:List Tk}
theorem qkE {n lv:Nat} {ts r:List Tk} {b:Ss} (h:qcq 12 2 true true false n lv ts=some (.ok b r)):r.length<=ts.length-1:=by
 have h1:=qgL h (Nat.le_max_left n (10*ts.length+1))
 obtain⟨y,h2,h3⟩:=(qfx 12 2 true true false (max n (10*ts.length+1))).1 lv ts (Nat.le_max_right _ _)
 rw[h1] at h2
 cases h2
 exact h3 b r rfl
theorem qnj {n:Nat} (ihs:StK s T n) (ihl:SsK s T n):SsK s T (n+1):=by
 intro lv i t r a v σt x hlv h hlen hr hx
 rw[qbV] at hx
 by_cases hb:t.bad=0
 case neg=>
  have hnx:nx (t::r)=none:=if_neg hb
  rw[hnx] at hx
  simp only[qbG,if_neg hb,Option.some.injEq] at hx
  subst hx
  obtain⟨fr,f1,f2⟩:=qpS (s:=s) (lv:=lv) h hb hr
  exact⟨i,fr,v,σt,f1,f2⟩
 have hnx:nx (t::r)=some t.s:=if_pos hb
 rw[hnx] at hx
 simp only[List.tail_cons] at hx
 by_cases he:t.s=bs [125]
 ·rw[if_pos he] at hx
  simp only[Option.some.injEq] at hx
  subst hx
  exact⟨i,t,v,σt,h,hb,he,hr,qpR h hb he hr⟩
 rw[if_neg he] at hx
 cases hq:qcq 12 2 true true false n lv (t::r) with
 | none=>rw[hq] at hx; cases hx
 | some y=>
  rw[hq] at hx
  have hs:=ihs lv i t r y hlv h hq
  cases y with
  | er p c=>
   simp only[Option.some.injEq] at hx
   subst hx
   obtain⟨i',z⟩:=hs
   exact⟨i',[],v,σt,rfl,qpT h hb he hr z⟩
  | ok b r'=>
   simp only at hx
   obtain⟨i',k,y,d,a1,a2,z,o1,o2,c1,c2⟩:=hs
   have hl:=qkE hq
   simp only[List.length_cons] at hl hlen
   obtain⟨v',σt',r1,r2⟩:=qmq h hb he hr (by omega) o1 o2 z
   obtain⟨t2,r2',rfl⟩:=qaI a2
   have hr':qmp v' σt' (a.app b).fo.cells (a.app b).fo.len:=by
    rw[qmY,qil,qgU,c1,c2]; exact r1
   have hlen':(a.app b).fo.len+(t2::r2').length<=2 ^ 40:=by
    rw[qmY,qgU,c2]
    simp only[List.length_cons] at hl ⊢
    omega
   have:=ihl lv i' t2 r2' (a.app b) v' σt' x hlv a1 hlen' hr' hx
   cases x with
   | ok b3 r3=>
    obtain⟨i3,t3,v3,σ3,e1,e2,e3,e4,e5⟩:=this
    exact⟨i3,t3,v3,σ3,e1,e2,e3,e4,r2.trans e5⟩
   | er p c=>
    obtain⟨i3,fr,v3,σ3,e1,e2⟩:=this
    exact⟨i3,fr,v3,σ3,e1,r2.trans e2⟩
theorem qnk (hw:WfQ T) (hT:T.length<2 ^ 30) {n:Nat} (ihl:SsK s T n):BkK s T (n+1):=by
 intro lv i t r x h hx
 rw[qa4] at hx
 have ho:=qfr (s:=s) hw (by omega) h (x:=bs [123]) (by decide) (lv:=lv)
 cases hq:qcT 12 2 (bs [123]) lv (t::r) with
 | er a c=>
  rw[hq] at hx ho
  simp only[Option.some.injEq] at hx
  subst hx
  obtain⟨i',z⟩:=ho
  exact⟨i',qn7 z⟩
 | ok u r1=>
  have hl1:=qhk hq
  rw[hq] at hx ho
  simp only at hx
  obtain⟨i1,a1,a2,z1⟩:=ho
  obtain⟨t1,r2,rfl⟩:=qaI a2
  have hlen:(t1::r2).length<=T.length:=by rw[<- a1,List.length_drop]; omega
  have hl:=ihl lv i1 t1 r2 .nil (.dat (.lit (.slice none 0 0))) [] x hl1 a1 (by show 0+_<=_; omega) (.inl ⟨rfl,rfl,rfl,rfl⟩) hx
  cases x with
  | er p c=>
   obtain⟨i3,fr,v3,σ3,e1,e2⟩:=hl
   exact⟨i3,qpU z1 e1 e2⟩
  | ok b r3=>
   obtain⟨i3,t3,v3,σ3,e1,e2,e3,e4,e5⟩:=hl
   obtain⟨n1,n2⟩:=hw.next e1 e2 (by rw[e3]; decide)
   exact⟨i3+1,n1,n2,qro (by omega) z1 e4 e5 e1 e2 e3⟩
theorem qmI (hw:WfQ T) (hT:T.length<2 ^ 30) (hP : ∀ t∈T,TokP t) : ∀ n,StK s T n/\BkK s T n/\SsK s T n
 | 0=>⟨fun lv i t r x _ _ hx=>by simp[qcq] at hx,fun lv i t r x _ hx=>by simp[qa4] at hx,fun lv i t r a v σt x _ _ _ _ hx=>by simp[qbV] at hx⟩
 | n+1=>by
  obtain⟨ihs,ihb,ihl⟩:=qmI hw hT hP n
  exact⟨qoa hw (by omega) hP ihb,qnk hw hT ihl,qnj ihs ihl⟩
end
end Go.Pm
end SMa
section SMb
namespace Go.Pm
open F
set_option maxHeartbeats 4000000
attribute [local simp] qaU qbo dkey
section
variable {s:ByteArray} {T:List Tk} {i:Nat} {t:Tk} {r:List Tk} {a c:Int}
theorem qe5 {k:Nat} (h:T.drop i=t::r) (hb:t.bad=0) (hk:qbp t.s=some k):Z tP (.call 254 [.ptr 0 0] (PS s T i 0 12))=some (.ret (.int k) (PS s T i 0 12)):=by
 have zp:=qao (s:=s) (a:=0) (c:=12) h hb
 simp only[PS,pO,ptk,ptD,qah hb] at zp
 generalize t.s=w at zp hk
 unfold qbp at hk
 by_cases h1:w=bs [97,99,116]
 ·subst h1
  simp only[if_true,Option.some.injEq] at hk
  subst hk
  simp only[bs] at zp
  refine qac (pf:=F254) rfl rfl ?_
  simp[F254,zp,qck,List.range_succ]
 rw[if_neg h1] at hk
 by_cases h2:w=bs [116,105,99,107]
 ·subst h2
  simp only[if_true,Option.some.injEq] at hk
  subst hk
  simp only[bs] at zp
  refine qac (pf:=F254) rfl rfl ?_
  simp[F254,zp,qck,List.range_succ]
 rw[if_neg h2] at hk
 by_cases h3:w=qkl
 ·subst h3
  simp only[if_true,Option.some.injEq] at hk
  subst hk
  simp only[qkl] at zp
  refine qac (pf:=F254) rfl rfl ?_
  simp[F254,zp,qck,List.range_succ]
 ·rw[if_neg h3] at hk; cases hk
theorem qkd (h:T.drop i=t::r) (hb:t.bad=0) (hk:qbp t.s=none):Z tP (.call 254 [.ptr 0 0] (PS s T i 0 12))=some (.ret (qaX 12) (PS s T i t.at_ 12)):=by
 have zp:=qao (s:=s) (a:=0) (c:=12) h hb
 have zf:=qeQ (s:=s) (T:=T) (i:=i) (a:=0) (c:=12) (k:=kindT t) (x:=t.s) (at_:=t.at_) (v:=valT t) (e:=t.bad) (c':=12)
 simp only[PS,pO,ptk,ptD,qah hb] at zp zf
 unfold qbp at hk
 by_cases h1:t.s=bs [97,99,116]
 ·rw[if_pos h1] at hk; cases hk
 rw[if_neg h1] at hk
 by_cases h2:t.s=bs [116,105,99,107]
 ·rw[if_pos h2] at hk; cases hk
 rw[if_neg h2] at hk
 by_cases h3:t.s=qkl
 ·rw[if_pos h3] at hk; cases hk
 simp only[bs] at h1 h2
 simp only[qkl] at h3
 refine qac (pf:=F254) rfl rfl ?_
 simp[F254,zp,zf,h1,h2,h3,qck,qad,List.range_succ]
theorem qiV (h:T.drop i=t::r) (hb:t.bad≠0):Z tP (.call 254 [.ptr 0 0] (PS s T i 0 12))=some (.ret (qaX t.bad) (PS s T i t.at_ t.bad)):=by
 have zp:=qdq (s:=s) (a:=0) (c:=12) h hb
 simp only[PS,pO] at zp
 refine qac (pf:=F254) rfl rfl ?_
 simp[F254,zp,qad,List.range_succ]
theorem qdJ {w:ByteArray} {k:Nat} (h:qbp w=some k):k=0\/k=1\/k=2:=by
 unfold qbp at h
 split at h
 ·cases h; omega
 split at h
 ·cases h; omega
 split at h
 ·cases h; omega
 ·cases h
end
end Go.Pm
end SMb
section SMc
namespace Go.Pm
open F
set_option maxHeartbeats 4000000
attribute [local simp] qaU qbo dkey
abbrev pgF:Fr:=[(0,.ptr 0 0),(2,.ptr 3 0),(3,.ptr 4 0)]
abbrev pgS (s:ByteArray) (T:List Tk) (i a c:Int) (q:Nat->N4):S:=PS s T i a c++[qor,rob q]
section
variable {s:ByteArray} {T:List Tk} {i i' i2:Nat} {t:Tk} {r:List Tk} {a c:Int} {q:Nat->N4}
theorem qpm (h:T.drop i=t::r) (hb:t.bad=0) (hs:t.s=⟨#[]⟩):Z tP (.loop 3 F242l0 pgF (pgS s T i 0 12 q))=some (.out (.exit 0) (pgF++[(8,.bool false)]) (pgS s T i 0 12 q)):=by
 have zp:=qao (s:=s) (a:=0) (c:=12) h hb
 have hk:kindT t=0:=by rw[qbz hb,qfP,if_pos hs]
 have k0:=(q 0).one
 have k1:=(q 1).one
 have k2:=(q 2).one
 have c0:=(q 0).cl
 have c1:=(q 1).cl
 have c2:=(q 2).cl
 simp only[PS,pO,ptk,ptD,hk] at zp
 rw[qai]
 simp[qaj,qbY,zp,k0,k1,k2,c0,c1,c2,List.range_succ]
theorem qpn (h:T.drop i=t::r) (hb:t.bad≠0) : ∃ fr,fr.get 1000000=none/\Z tP (.loop 3 F242l0 pgF (pgS s T i 0 12 q))=some (.out (.pan (.iface 1 (.int t.bad))) fr (pgS s T i t.at_ t.bad q)):=by
 have zp:=qdq (s:=s) (a:=0) (c:=12) h hb
 simp only[PS,pO] at zp
 refine⟨(5,.ptr 0 0)::pgF,by simp[Fr.get],?_⟩
 rw[qai]
 simp[qaj,qbY,zp,qad,List.range_succ]
theorem qq6 (h:T.drop i=t::r) (hb:t.bad=0) (hs:t.s≠⟨#[]⟩) (z:Z tP (.call 253 [.ptr 0 0,.str ⟨#[111,110]⟩] (PS s T i 0 12))=some (.ret (qaX c) (PS s T i' a c))) : ∃ fr,fr.get 1000000=none/\Z tP (.loop 3 F242l0 pgF (pgS s T i 0 12 q))=some (.out (.pan (.iface 1 (.int c))) fr (pgS s T i' a c q)):=by
 have zp:=qao (s:=s) (a:=0) (c:=12) h hb
 have hk:decide (kindT t=0)=false:=decide_eq_false (fun e=>hs ((qc3 hb).mp e))
 simp only[PS,pO,ptk,ptD] at zp z
 refine⟨(9,.ptr 0 0)::(pgF++[(8,.bool true)]),by simp[Fr.get],?_⟩
 rw[qai]
 simp[qaj,qbY,zp,z,hk,qad,List.range_succ]
theorem qkU (h:T.drop i=t::r) (hb:t.bad=0) (hs:t.s≠⟨#[]⟩) (z:Z tP (.call 253 [.ptr 0 0,.str ⟨#[111,110]⟩] (PS s T i 0 12))=some (.ret (.tup []) (PS s T i' 0 12)))
  (zh:Z tP (.call 254 [.ptr 0 0] (PS s T i' 0 12))=some (.ret (qaX c) (PS s T i2 a c))) : ∃ fr,fr.get 1000000=none/\Z tP (.loop 3 F242l0 pgF (pgS s T i 0 12 q))=some (.out (.pan (.iface 1 (.int c))) fr (pgS s T i2 a c q)):=by
 have zp:=qao (s:=s) (a:=0) (c:=12) h hb
 have hk:decide (kindT t=0)=false:=decide_eq_false (fun e=>hs ((qc3 hb).mp e))
 simp only[PS,pO,ptk,ptD] at zp z zh
 refine⟨(11,.ptr 0 0)::pgF,by simp[Fr.get],?_⟩
 rw[qai]
 simp[qaj,qbY,zp,z,zh,hk,qad,List.range_succ]
theorem qpo {t2:Tk} {r2:List Tk} {k:Nat} (h:T.drop i=t::r) (hb:t.bad=0) (hs:t.s≠⟨#[]⟩) (z:Z tP (.call 253 [.ptr 0 0,.str ⟨#[111,110]⟩] (PS s T i 0 12))=some (.ret (.tup []) (PS s T i' 0 12)))
  (h2:T.drop i'=t2::r2) (hb2:t2.bad=0) (hh:qbp t2.s=some k) (hq:decide ((q k).k=0)=false) : ∃ fr,fr.get 1000000=none/\Z tP (.loop 3 F242l0 pgF (pgS s T i 0 12 q))=some (.out (.pan (.iface 1 (.int 4))) fr (pgS s T i' t2.at_ 4 q)):=by
 have zp:=qao (s:=s) (a:=0) (c:=12) h hb
 have zp2:=qao (s:=s) (a:=0) (c:=12) h2 hb2
 have zh:=qe5 (s:=s) h2 hb2 hh
 have zf:=qeQ (s:=s) (T:=T) (i:=i') (a:=0) (c:=12) (k:=kindT t2) (x:=qdZ t2) (at_:=t2.at_) (v:=valT t2) (e:=t2.bad) (c':=4)
 have hk:decide (kindT t=0)=false:=decide_eq_false (fun e=>hs ((qc3 hb).mp e))
 simp only[PS,pO,ptk,ptD] at zp zp2 z zh zf
 have k0:=(q 0).one
 have k1:=(q 1).one
 have k2:=(q 2).one
 have c0:=(q 0).cl
 have c1:=(q 1).cl
 have c2:=(q 2).cl
 refine⟨(21,ptk t2)::(20,.ptr 0 0)::(19,.ptr 0 0)::(pgF++[(4,.int k),(18,.bool true)]),by simp[Fr.get],?_⟩
 rw[qai]
 rcases qdJ hh with rfl | rfl | rfl<;>simp[qaj,qbY,zp,zp2,z,zh,zf,hk,hq,k0,k1,k2,c0,c1,c2,qad,List.range_succ]
theorem qpp {t2:Tk} {r2:List Tk} {k:Nat} (hT:T.length<2 ^ 40) (h:T.drop i=t::r) (hb:t.bad=0) (hs:t.s≠⟨#[]⟩) (z:Z tP (.call 253 [.ptr 0 0,.str ⟨#[111,110]⟩] (PS s T i 0 12))=some (.ret (.tup []) (PS s T i' 0 12)))
  (h2:T.drop i'=t2::r2) (hb2:t2.bad=0) (hh:qbp t2.s=some k) (hq:decide ((q k).k=0)=true) (zb:Z tP (.call 256 [.ptr 0 0,.int 1] (PS s T ((i'+1:Nat):Int) 0 12))=some (.ret (qaX c) (PS s T i2 a c))) : ∃ fr,fr.get 1000000=none/\Z tP (.loop 3 F242l0 pgF (pgS s T i 0 12 q))=some (.out (.pan (.iface 1 (.int c))) fr (pgS s T i2 a c q)):=by
 have zp:=qao (s:=s) (a:=0) (c:=12) h hb
 have zh:=qe5 (s:=s) h2 hb2 hh
 have hlt:=qgv h2
 have w1:=qak ((i':Int)+1) (by omega)
 have hk:decide (kindT t=0)=false:=decide_eq_false (fun e=>hs ((qc3 hb).mp e))
 simp only[PS,pO,ptk,ptD] at zp z zh zb
 simp only[Int.natCast_add,Int.cast_ofNat_Int] at zb
 have k0:=(q 0).one
 have k1:=(q 1).one
 have k2:=(q 2).one
 have c0:=(q 0).cl
 have c1:=(q 1).cl
 have c2:=(q 2).cl
 refine⟨(31,.ptr 0 0)::(30,.int k)::(pgF++[(4,.int k)]),by simp[Fr.get],?_⟩
 rw[qai]
 rcases qdJ hh with rfl | rfl | rfl<;>simp[qaj,qbY,zp,z,zh,zb,w1,hk,hq,k0,k1,k2,c0,c1,c2,qad,List.range_succ]
theorem qq7 {t2:Tk} {r2:List Tk} {k:Nat} {d:D} (hT:T.length<2 ^ 40) (h:T.drop i=t::r) (hb:t.bad=0) (hs:t.s≠⟨#[]⟩) (z:Z tP (.call 253 [.ptr 0 0,.str ⟨#[111,110]⟩] (PS s T i 0 12))=some (.ret (.tup []) (PS s T i' 0 12)))
  (h2:T.drop i'=t2::r2) (hb2:t2.bad=0) (hh:qbp t2.s=some k) (hq:decide ((q k).k=0)=true) (od:V.one (.dat d)=true) (oc:V.cells (.dat d)=[.dat d]) (zb:Z tP (.call 256 [.ptr 0 0,.int 1] (PS s T ((i'+1:Nat):Int) 0 12))=some (.ret (nv 7 ⟨#[]⟩ d) (PS s T i2 0 12))):Z tP (.loop 3 F242l0 pgF (pgS s T i 0 12 q))=Z tP (.loop 3 F242l0 pgF (pgS s T i2 0 12 (qqo q k ⟨7,0,⟨#[]⟩,d,od,oc⟩))):=by
 have zp:=qao (s:=s) (a:=0) (c:=12) h hb
 have zh:=qe5 (s:=s) h2 hb2 hh
 have hlt:=qgv h2
 have w1:=qak ((i':Int)+1) (by omega)
 have hk:decide (kindT t=0)=false:=decide_eq_false (fun e=>hs ((qc3 hb).mp e))
 simp only[PS,pO,ptk,ptD] at zp z zh
 simp only[PS,pO,nv] at zb
 simp only[Int.natCast_add,Int.cast_ofNat_Int] at zb
 have k0:=(q 0).one
 have k1:=(q 1).one
 have k2:=(q 2).one
 have c0:=(q 0).cl
 have c1:=(q 1).cl
 have c2:=(q 2).cl
 conv=>lhs; rw[qai]
 rcases qdJ hh with rfl | rfl | rfl<;>simp[qaj,qbY,zp,z,zh,zb,od,oc,w1,hk,hq,k0,k1,k2,c0,c1,c2,qqo,List.range_succ]<;>rfl
end
end Go.Pm
end SMc
section SMd
namespace Go.Pm
open F
set_option maxHeartbeats 2000000
theorem qq8 {w:ByteArray} (h:w.size=0):w=⟨#[]⟩:=by
 have hb:byl w=[]:=List.eq_nil_of_length_eq_zero (by rw[qa1]; exact h)
 have:=qd5 w
 rw[hb] at this
 exact this.symm
section
variable {s:ByteArray} {T:List Tk}
theorem qh7 (hw:WfQ T) (hT:T.length<2 ^ 30) (hP : ∀ t∈T,TokP t) : ∀ (n:Nat) (hh:Nat->Option Ss) (i:Nat) (t:Tk) (r:List Tk) (x:Rz (Nat->Option Ss)),T.drop i=t::r->qcF 12 2 4 true true false n hh (t::r)=some x->match x with
  | .ok h' _ => ∃ i':Nat,Z tP (.loop 3 F242l0 pgF (pgS s T i 0 12 fun k=>qel (hh k)))=some (.out (.exit 0) (pgF++[(8,.bool false)]) (pgS s T i' 0 12 fun k=>qel (h' k)))
  | .er a c => ∃ (i':Nat) (fr:Fr) (q':Nat->N4),fr.get 1000000=none/\Z tP (.loop 3 F242l0 pgF (pgS s T i 0 12 fun k=>qel (hh k)))=some (.out (.pan (.iface 1 (.int c))) fr (pgS s T i' a c q'))
 | 0,hh,i,t,r,x,_,hx=>by simp[qcF] at hx
 | n+1,hh,i,t,r,x,h,hx=>by
  rw[qcF] at hx
  by_cases hb:t.bad=0
  case neg=>
   have hnx:nx (t::r)=none:=if_neg hb
   rw[hnx] at hx
   simp only[qbG,if_neg hb,Option.some.injEq] at hx
   subst hx
   obtain⟨fr,f1,f2⟩:=qpn (s:=s) (q:=fun k=>qel (hh k)) h hb
   exact⟨i,fr,_,f1,f2⟩
  have hnx:nx (t::r)=some t.s:=if_pos hb
  rw[hnx] at hx
  simp only at hx
  by_cases h0:t.s.size=0
  ·rw[if_pos h0] at hx
   simp only[Option.some.injEq] at hx
   subst hx
   exact⟨i,qpm h hb (qq8 h0)⟩
  rw[if_neg h0] at hx
  have hne:t.s≠⟨#[]⟩:=fun e=>h0 (by rw[e]; rfl)
  have ho:=qbQ (s:=s) hw (by omega) h (x:=bs [111,110]) (by decide)
  cases hq:qaB 12 (bs [111,110]) (t::r) with
  | er a c=>
   rw[hq] at hx ho
   simp only[Option.some.injEq] at hx
   subst hx
   obtain⟨i',z⟩:=ho
   obtain⟨fr,f1,f2⟩:=qq6 (q:=fun k=>qel (hh k)) h hb hne z
   exact⟨i',fr,_,f1,f2⟩
  | ok u r1=>
   rw[hq] at hx ho
   simp only at hx
   obtain⟨i1,a1,a2,z⟩:=ho
   obtain⟨t2,r2,rfl⟩:=qaI a2
   by_cases hb2:t2.bad=0
   case neg=>
    have hnx2:nx (t2::r2)=none:=if_neg hb2
    rw[hnx2] at hx
    simp only[qbG,if_neg hb2,Option.some.injEq] at hx
    subst hx
    obtain⟨fr,f1,f2⟩:=qkU (q:=fun k=>qel (hh k)) h hb hne z (qiV a1 hb2)
    exact⟨i1,fr,_,f1,f2⟩
   have hnx2:nx (t2::r2)=some t2.s:=if_pos hb2
   rw[hnx2] at hx
   simp only at hx
   cases hk:qbp t2.s with
   | none=>
    rw[hk] at hx
    simp only[qbG,if_pos hb2,Option.some.injEq] at hx
    subst hx
    obtain⟨fr,f1,f2⟩:=qkU (q:=fun k=>qel (hh k)) h hb hne z (qkd a1 hb2 hk)
    exact⟨i1,fr,_,f1,f2⟩
   | some k=>
    rw[hk] at hx
    simp only at hx
    by_cases hd:(hh k).isSome=true
    ·rw[if_pos hd] at hx
     simp only[qbG,if_pos hb2,Option.some.injEq] at hx
     subst hx
     obtain⟨b,hbb⟩:=Option.isSome_iff_exists.1 hd
     obtain⟨fr,f1,f2⟩:=qpo (s:=s) (q:=fun k=>qel (hh k)) h hb hne z a1 hb2 hk (decide_eq_false (by simp only[hbb,qel]; decide))
     exact⟨i1,fr,_,f1,f2⟩
    ·rw[if_neg hd] at hx
     have hno:hh k=none:=by simpa using hd
     have hq0:decide ((qel (hh k)).k=0)=true:=decide_eq_true (by rw[hno]; rfl)
     obtain⟨n1,n2⟩:=hw.next a1 hb2 (fun e=>by rw[e,show qbp ⟨#[]⟩=none by decide] at hk; cases hk)
     obtain⟨t3,r3,rfl⟩:=qaI n2
     simp only[List.tail_cons] at hx
     cases hq3:qa4 12 2 true true false n 1 (t3::r3) with
     | none=>rw[hq3] at hx; cases hx
     | some y=>
      rw[hq3] at hx
      have hbk:=(qmI (s:=s) hw hT hP n).2.1 1 (i1+1) t3 r3 y n1 hq3
      cases y with
      | er a c=>
       simp only[Option.some.injEq] at hx
       subst hx
       obtain⟨i2,z2⟩:=hbk
       obtain⟨fr,f1,f2⟩:=qpp (q:=fun k=>qel (hh k)) (by omega) h hb hne z a1 hb2 hk hq0 z2
       exact⟨i2,fr,_,f1,f2⟩
      | ok b r4=>
       simp only at hx
       obtain⟨i2,b1,b2,z2⟩:=hbk
       obtain⟨t4,r5,rfl⟩:=qaI b2
       have zs:=qq7 (q:=fun k=>qel (hh k)) (by omega) h hb hne z a1 hb2 hk hq0 (by simp) (by simp) z2
       have hu:qqo (fun k=>qel (hh k)) k ⟨7,0,⟨#[]⟩,kd false b.fo.len b.fo.cells,by simp,by simp⟩=fun j=>qel (if j=k then some b else hh j):=by
        funext j
        unfold qqo
        split<;>rfl
       rw[hu] at zs
       have:=qh7 hw hT hP n (fun j=>if j=k then some b else hh j) i2 t4 r5 x b1 hx
       cases x with
       | ok h' q=>
        obtain⟨i3,e1⟩:=this
        exact⟨i3,zs.trans e1⟩
       | er a c=>
        obtain⟨i3,fr,q',e1,e2⟩:=this
        exact⟨i3,fr,q',e1,zs.trans e2⟩
end
end Go.Pm
end SMd
section SMe
namespace Go.Pm
open F
set_option maxHeartbeats 4000000
attribute [local simp] qaU qbo dkey
section
variable {s:ByteArray} {T:List Tk} {i':Nat} {q:Nat->N4} {a c:Int}
theorem qjZ (z:Z tP (.loop 3 F242l0 pgF (pgS s T 0 0 12 fun k=>qel none))=some (.out (.exit 0) (pgF++[(8,.bool false)]) (pgS s T i' 0 12 q))):Z tP (.call 242 [.ptr 0 0] (PS s T 0 0 12))=some (.ret (qiv q) (PS s T i' 0 12)):=by
 have k0:=(q 0).one
 have k1:=(q 1).one
 have k2:=(q 2).one
 have c0:=(q 0).cl
 have c1:=(q 1).cl
 have c2:=(q 2).cl
 simp only[pgS,PS,pO,rob,qel,List.cons_append,List.nil_append] at z
 refine qac (pf:=F242) rfl rfl ?_
 simp[F242,z,k0,k1,k2,c0,c1,c2,List.range_succ]
theorem qiL {fr:Fr} (hf:fr.get 1000000=none) (z:Z tP (.loop 3 F242l0 pgF (pgS s T 0 0 12 fun k=>qel none))=some (.out (.pan (.iface 1 (.int c))) fr (pgS s T i' a c q))):Z tP (.call 242 [.ptr 0 0] (PS s T 0 0 12))=some (.ret (qaX c) (PS s T i' a c)):=by
 simp only[pgS,PS,pO,rob,qel,List.cons_append,List.nil_append] at z
 refine qac (pf:=F242) rfl rfl ?_
 simp[F242,z,hf,List.range_succ]
end
end Go.Pm
end SMe
section SMf
namespace Go.Pm
open F
set_option maxHeartbeats 4000000
attribute [local simp] qaU qbo dkey
section
variable {s:ByteArray} {T:List Tk} {i':Nat} {q:Nat->N4} {a c:Int}
theorem qlm (h:(2000:Int)<s.size):Z tP (.call 228 [.str s] [])=some (.ret (.tup [qiv fun _=>qel none,.int 2000,.int 2]) []):=by
 refine qac (pf:=F228) rfl rfl ?_
 simp[F228,h,V.len,qel,List.range_succ]
abbrev dS (s:ByteArray) (T:List Tk) (q:Nat->N4) (x y:Int) (i a c:Int):S:=[.cells [.ptr 4 0],rob q,.cells [.int x],.cells [.int y],pO s 5 (.gsl (ptC T) T.length 5 6) i a c,.map kwM,.tip (ptC T).length]
theorem qln {x y i a c:Int}:Z tP (.dcall 240 [.dat (.lit .nilIface),.ptr 0 0,.ptr 1 0,.ptr 2 0,.ptr 3 0] (dS s T q x y i a c))=some (.ret (.dat (.lit undef)) (dS s T q x y i a c)):=by
 have k0:=(q 0).one
 have k1:=(q 1).one
 have k2:=(q 2).one
 have c0:=(q 0).cl
 have c1:=(q 1).cl
 have c2:=(q 2).cl
 refine qkp (pf:=F240) rfl ?_
 have hfl:F240.body.flat=true:=rfl
 simp only[qa0]
 rw[if_pos ⟨rfl,rfl,rfl,hfl,.inl rfl⟩]
 simp[F240,qhe,k0,k1,k2,c0,c1,c2,List.range_succ]
theorem qmt (h : ¬ (2000:Int)<s.size) (zt:Z tP (.call 249 [.yld 0,.ptr 1 0] (TT0 s))=some (.ret (.tup []) (TT1 s (ptC T) T.length)))
  (z:Z tP (.call 242 [.ptr 0 0] (PS s T 0 0 12))=some (.ret (qiv q) (PS s T i' 0 12))):Z tP (.call 228 [.str s] [])=some (.ret (.tup [qiv q,.int 0,.int 0]) []):=by
 have z1:=qgw s
 have z2:=qh4 s
 have k0:=(q 0).one
 have k1:=(q 1).one
 have k2:=(q 2).one
 have c0:=(q 0).cl
 have c1:=(q 1).cl
 have c2:=(q 2).cl
 simp only[pO] at z2
 simp only[TT0,TT1,pO] at zt
 simp only[PS,pO] at z
 have zd:=qln (s:=s) (T:=T) (q:=q) (x:=0) (y:=0) (i:=i') (a:=0) (c:=12)
 simp only[dS,pO,rob] at zd
 refine qac (pf:=F228) rfl rfl ?_
 simp[F228,z1,z2,zt,z,zd,h,V.len,k0,k1,k2,c0,c1,c2,List.range_succ]
end
end Go.Pm
end SMf
section SMg
namespace Go.Pm
open F
set_option maxHeartbeats 4000000
attribute [local simp] qaU qbo dkey
section
variable {s:ByteArray} {T:List Tk} {i':Nat} {a c:Int}
abbrev q0:Nat->N4:=fun _=>qel none
theorem qkB {i a c:Int}:Z tP (.dcall 240 [.iface 1 (.int c),.ptr 0 0,.ptr 1 0,.ptr 2 0,.ptr 3 0] (dS s T q0 0 0 i a c))=some (.ret (.dat (.lit undef)) (dS s T q0 a c i a c)):=by
 refine qkp (pf:=F240) rfl ?_
 have hfl:F240.body.flat=true:=rfl
 simp only[qa0]
 rw[if_pos ⟨rfl,rfl,rfl,hfl,.inl rfl⟩]
 simp[F240,qhe,qel,qco,qaS,List.range_succ]
theorem qkC (h : ¬ (2000:Int)<s.size) (zt:Z tP (.call 249 [.yld 0,.ptr 1 0] (TT0 s))=some (.ret (.tup []) (TT1 s (ptC T) T.length)))
  (z:Z tP (.call 242 [.ptr 0 0] (PS s T 0 0 12))=some (.ret (qaX c) (PS s T i' a c))):Z tP (.call 228 [.str s] [])=some (.ret (.tup [qiv fun _=>qel none,.int a,.int c]) []):=by
 have z1:=qgw s
 have z2:=qh4 s
 simp only[pO] at z2
 simp only[TT0,TT1,pO] at zt
 simp only[PS,pO] at z
 have zd:=qkB (s:=s) (T:=T) (i:=i') (a:=a) (c:=c)
 simp only[dS,pO,rob,q0,qel] at zd
 refine qac (pf:=F228) rfl rfl ?_
 simp[F228,z1,z2,zt,z,zd,h,V.len,qel,qad,V.isNilIf,List.range_succ]
end
end Go.Pm
end SMg
section SMh
namespace Go.Pm
open F
set_option maxHeartbeats 1000000
theorem qh6 (s:ByteArray) : ∀ n i,(qbD 12 2 6 s n i).length<=n+1
 | 0,i=>by simp[qbD]
 | n+1,i=>by
  rw[qbD]
  have:=qh6 s n
  split
  ·simp
  ·simp only[List.length_cons]; have:=this ((tokAt 12 2 6 s (qfF s (s.size-i) false i)).at_+(tokAt 12 2 6 s (qfF s (s.size-i) false i)).s.size); omega
theorem ql1 (s:ByteArray) : ∀ n i,qbD 12 2 6 s n i≠[]
 | 0,i=>by simp[qbD]
 | n+1,i=>by rw[qbD]; split<;>simp
theorem qkS (s:ByteArray) (hP : ∀ t∈qiu s,TokP t):Z tP (.call 228 [.str s] [])=some (.ret (qik true true false s) []):=by
 unfold qik
 by_cases hbig:2000<s.size
 ·have:qbJ true true false s = .er 2000 2:=by rw[qbJ,if_pos hbig]
  rw[this]
  exact qlm (by omega)
 ·have hlen:=qh6 s (s.size+1) 0
  have hT:(qiu s).length<2 ^ 30:=by show (qbD 12 2 6 s (s.size+1) 0).length<_; omega
  have hw:WfQ (qiu s):=qlo s _ 0
  have zt:=qlp s (by omega)
  obtain⟨t,r,htr⟩:=qaI (show qiu s≠[] from ql1 s _ 0)
  have hv:=qf7 (f:=true) (fi:=true) (fb:=false) hbig
  have hp:=hv
  rw[htr] at hp
  have:=qh7 (s:=s) hw hT hP _ (fun _=>none) 0 t r _ (by rw[List.drop_zero]; exact htr) hp
  cases hx:qbJ true true false s with
  | ok h' ts=>
   rw[hx] at this
   obtain⟨i',z⟩:=this
   exact qmt (by omega) zt (qjZ z)
  | er a c=>
   rw[hx] at this
   obtain⟨i',fr,q',f1,z⟩:=this
   exact qkC (by omega) zt (qiL f1 z)
theorem qkT (s:ByteArray) (hl:s.size<2 ^ 30) : ∀ n i,∀ t∈qbD 12 2 6 s n i,TokP t
 | 0,i,t,h=>by
  simp only[qbD,List.mem_singleton] at h
  rw[h]
  exact⟨fun _=>show (⟨#[]⟩:ByteArray)≠qS by decide,fun _ h=>(by cases h)⟩
 | n+1,i,t,h=>by
  have one : ∀ j,TokP (tokAt 12 2 6 s j):=fun j=>by
   by_cases hj:j<s.size
   ·exact qob hl hj
   ·have hd:(byl s).drop j=[]:=List.drop_eq_nil_of_le (by rw[qa1]; omega)
    rw[qcJ,hd]
    exact⟨fun _=>show (⟨#[]⟩:ByteArray)≠qS by decide,fun _ h=>(by cases h)⟩
  rw[qbD] at h
  split at h
  ·rw[List.mem_singleton.1 h]; exact one _
  ·rcases List.mem_cons.1 h with h | h
   ·rw[h]; exact one _
   ·exact qkT s hl n _ t h
theorem ql2 (s:ByteArray) (hl:s.size<2 ^ 30):Z tP (.call 228 [.str s] [])=some (.ret (qik true true false s) []):=qkS s (qkT s hl _ 0)
end Go.Pm
end SMh
section SUh
namespace Go.Pm
open F
set_option maxHeartbeats 4000000
abbrev Sub (p q:Nat->Option PFun):Prop := ∀ f pf,p f=some pf->q f=some pf
structure Has (prog:Nat->Option PFun):Prop where
 b:Sub qjD prog
 r:Sub tR prog
 s:Sub tS prog
 p:Sub tP prog
 q:Sub tQ prog
 e:Sub tE prog
 k:Sub tK prog
section
variable {prog:Nat->Option PFun} (H:Has prog)
include H
theorem qlK (s:ByteArray) (hl:s.size<2 ^ 30):Z prog (.call 228 [.str s] [])=some (.ret (qik true true false s) []):=qm2 H.p (ql2 s hl)
end
end Go.Pm
end SUh
section SUj
namespace Go.Pm
open F
set_option maxHeartbeats 8000000
structure HasD (prog:Nat->Option PFun):Prop extends Has prog where
 kd:Sub tKd prog
end Go.Pm
end SUj
section SUw
namespace Go.Pm
def repB (s:ByteArray):Nat->ByteArray
 | 0=>⟨#[]⟩
 | n+1=>repB s n++s
def qkh:Nat->ByteArray
 | 0=>⟨#[40]⟩
 | 1=>⟨#[97,91]⟩
 | 2=>⟨#[45]⟩
 | _=>⟨#[33]⟩
def qlz:Nat->ByteArray
 | 0=>⟨#[41]⟩
 | 1=>⟨#[93]⟩
 | _=>⟨#[]⟩
def qos (how d:Nat):ByteArray:=⟨#[111,110,32,116,105,99,107,123,118,61]⟩++repB (qkh how) d++⟨#[49]⟩++repB (qlz how) d++⟨#[59,125]⟩
def qot (k:Nat):ByteArray:=⟨#[111,110,32,97,99,116,123]⟩++repB ⟨#[113]⟩ k++⟨#[61,49,59,125]⟩
def qou (n:Nat):ByteArray:=⟨#[111,110,32,97,99,116,123,118,61]⟩++bs (qit n)++⟨#[59,125]⟩
def qlA (m:Nat):ByteArray:=⟨#[111,110,32,104,105,116,123,125]⟩++repB ⟨#[32]⟩ (m-8)
def qrN:Option Ss->Bool
 | some b=>decide (b.fo.len=1)
 | none=>false
def qiH (how d:Nat):Bool:=match qbJ true true false (qos how d) with
 | .ok _ _=>decide (d<=19)
 | .er a c=>decide (19<d)&&(decide (c=2)&&decide (a=9+20*(qkh how).size))
def qo1 (k:Nat):Bool:=match qbJ true true false (qot k) with
 | .ok _ _=>decide (k<=8)
 | .er a c=>decide (8<k)&&(decide (c=2)&&decide (a=7))
def qo2 (j:Nat):Bool:=match qbJ true true false (qou (2147483643+j)) with
 | .ok h _=>decide (j<=4)&&qrN (h 0)
 | .er a c=>decide (4<j)&&(decide (c=6)&&decide (a=9))
theorem qnf:(List.range 12).all (fun j=>qo1 (1+j))=true:=by kernel_rfl
theorem qng:(List.range 9).all qo2=true:=by kernel_rfl
theorem qo3:(List.range 26).all (qiH 0)=true:=by kernel_rfl
theorem qo4:(List.range 26).all (qiH 1)=true:=by kernel_rfl
theorem qo5:(List.range 26).all (qiH 2)=true:=by kernel_rfl
theorem qo6:(List.range 26).all (qiH 3)=true:=by kernel_rfl
theorem qnh {how:Nat} (h:how<4) {d:Nat} (hd:d<26):qiH how d=true:=by
 have:(List.range 26).all (qiH how)=true:=by
  match how,h with
  | 0,_=>exact qo3
  | 1,_=>exact qo4
  | 2,_=>exact qo5
  | 3,_=>exact qo6
 exact List.all_eq_true.1 this d (List.mem_range.2 hd)
theorem qjb (s:ByteArray) : ∀ n,byl (repB s n)=(List.replicate n (byl s)).flatten
 | 0=>rfl
 | n+1=>by
  rw[List.replicate_succ',List.flatten_append,repB]
  simp only[byl,ByteArray.data_append,Array.toList_append]
  rw[show (repB s n).data.toList=byl (repB s n) from rfl,qjb s n]
  simp[byl]
theorem qca (s:ByteArray) : ∀ n,(repB s n).size=n*s.size
 | 0=>by simp[repB]; rfl
 | n+1=>by rw[repB,ByteArray.size_append,qca s n,Nat.succ_mul]
def qq4:Nat->Option Ss:=fun k=>if k=2 then some .nil else none
theorem qni {m:Nat} (h8:8<=m) (h:m<=2000) : ∃ h r,qbJ true true false (qlA m) = .ok h r:=by
 have hw : ∀ n,qhI ((List.replicate n (byl ⟨#[32]⟩)).flatten):=fun n=>by
  induction n with
  | zero=>exact qeo
  | succ n ih=>rw[List.replicate_succ,List.flatten_cons]; exact qkt (qhJ (.inl rfl)) ih
 have hg : ∀ k,qmR (qq4 k):=fun k b hb=>by
  unfold qq4 at hb
  split at hb
  ·cases hb; exact⟨.inl rfl,by decide⟩
  ·cases hb
 have hok:OkG [([],bs [111,110]),([32],qkl),([],bs [123]),([],bs [125])]:=by
  have t1:Tg (byl (bs [111,110])):=qk7 (by decide) (by decide) (by decide)
  have t2:Tg (byl qkl):=qk7 (c:=104) (r:=[105,116]) (by decide) (by decide) (by decide)
  refine⟨qeo,t1,?_,qhJ (.inl rfl),t2,?_,qeo,qmP (by decide),?_,qeo,qmP (by decide),?_,trivial⟩
  ·intro p hp; cases hp; exact .inl ⟨32,[],rfl,.inl rfl⟩
  ·intro p hp; cases hp; exact .inr ⟨rfl,by decide,.inl (by decide)⟩
  ·intro p hp; cases hp; exact .inr ⟨rfl,by decide,.inl (by decide)⟩
  ·intro p hp; cases hp
 obtain⟨e,hx⟩:=qjN 12 2 6 hok (hw (m-8)) (by
  cases m-8 with
  | zero=>exact .inl rfl
  | succ n=>exact .inr ⟨32,_,rfl,.inl rfl⟩) (s:=qlA m) (by
  show byl (_++_)=_
  simp only[byl,ByteArray.data_append,Array.toList_append]
  rw[show (repB ⟨#[32]⟩ (m-8)).data.toList=byl (repB ⟨#[32]⟩ (m-8)) from rfl,qjb]
  rfl)
 have hs : ¬ 2000<(qlA m).size:=by
  rw[qlA,ByteArray.size_append,qca]
  show ¬ 2000<8+(m-8)*1
  omega
 exact⟨_,_,qlv hs (rbP (h:=qq4) hg hx rfl)⟩
theorem qlL {m:Nat} (h:2000<m):qbJ true true false (qlA m) = .er 2000 2:=by
 have hs:2000<(qlA m).size:=by
  rw[qlA,ByteArray.size_append,qca]
  show 2000<8+(m-8)*1
  omega
 rw[qbJ,if_pos hs]
end Go.Pm
end SUw
section SUx
namespace Go.Pm
open F
set_option maxHeartbeats 4000000
theorem qkV : ∀ k n,(qhs k n).length<=k:=fun k=>by
 induction k with
 | zero=>intro n; simp[qhs]
 | succ k ih=>intro n; simp only[qhs]; split; (· simp); (· have:=ih (n / 10); simp; omega)
section
variable {prog:Nat->Option PFun} (H:HasD prog)
theorem qjh (s:ByteArray) (n:Nat) (hn:n*s.size<2 ^ 60) (hs:s.size<2 ^ 30) (hn2:n<2 ^ 30) : ∀ k i,i+k=n ->
  Z prog (.loop 0 F230l0 [(0,.str s),(1,.int n),(5,.str (repB s i)),(6,.int i)] [])=some (.out (.exit 0) [(0,.str s),(1,.int n),(5,.str (repB s n)),(6,.int n),(9,.bool false)] [])
 | 0,i,h=>by
  obtain rfl:i=n:=by omega
  rw[qai]
  simp[qaj,qgH]
 | k+1,i,h=>by
  have ih:=qjh s n hn hs hn2 k (i+1) (by omega)
  have hlt:(i:Int)<n:=by omega
  have w1:IntKind.i64.wrap ((i:Int)+1)=((i+1:Nat):Int):=by rw[qak _ (by omega)]; omega
  have hm:(i+1)*s.size<=n*s.size:=Nat.mul_le_mul_right _ (by omega)
  have hz:(repB s i).size+s.size=(i+1)*s.size:=by rw[qca,Nat.succ_mul]
  have n1 : ¬ (9223372036854775807:Int)<((repB s i).size:Int)+s.size:=by omega
  have e:repB s i++s=repB s (i+1):=rfl
  rw[<- ih]
  conv=>lhs; rw[qai]
  generalize repB s (i+1)=r1 at *
  generalize repB s i=r0 at *
  generalize ((i+1:Nat):Int)=i1 at *
  simp[qaj,qgH,hlt,w1,n1,e]
include H
theorem qfs (s:ByteArray) (n:Nat) (hn:n*s.size<2 ^ 60) (hs:s.size<2 ^ 30) (hn2:n<2 ^ 30):Z prog (.call 230 [.str s,.int n] [])=some (.ret (.str (repB s n)) []):=by
 refine qac (H.kd 230 F230 rfl) rfl ?_
 have z:=qjh (prog:=prog) s n hn hs hn2 n 0 (by omega)
 simp only[repB,Int.cast_ofNat_Int] at z
 simp[F230,z]
theorem qkW {n m:Int} (h1:I64 n) (hm:1<=m):Z prog (.call 17 [.int n,.int m] [])=some (.ret (.int (qd3 n m)) []):=qm2 H.b (qmA h1 hm)
end
def qnA:PC:=(rn [mx 10 kF] [0,1,2,3,4])
def qnB:PC:=(rn [mv 22 0,jj 23 (.call 17 [(.t 22),(kk 26)]),mv 11 23] [1,2,3,4,11])
def qjX:PC:=(rn [jj 24 (.bslice 4 [eN,eN,eN,eN] [(0,1,(.c (.string ⟨#[40]⟩))),(1,1,(.c (.string ⟨#[97,91]⟩))),(2,1,(.c (.string ⟨#[45]⟩))),(3,1,(.c (.string ⟨#[33]⟩)))]),mv 25 1,jj 26 (.call 17 [(.t 25),(kk 4)]),jj 27 (.indexAddr 1 (.t 24) (.t 26)),l1 28 27,mv 12 28] [1,2,3,4,11,12])
def qjY:PC:=(rn [jj 29 (.bslice 4 [eN,eN,eN,eN] [(0,1,(.c (.string ⟨#[41]⟩))),(1,1,(.c (.string ⟨#[93]⟩))),(2,1,(.c (.string ⟨#[]⟩))),(3,1,(.c (.string ⟨#[]⟩)))]),mv 30 1,jj 31 (.call 17 [(.t 30),(kk 4)]),jj 32 (.indexAddr 1 (.t 29) (.t 31)),l1 33 32,mv 13 33] [2,3,4,11,12,13])
def qnC:PC:=(rn [mv 34 12,mv 35 11,cl 36 230 [34,35],jj 37 (.bin .add (.c (.string ⟨#[111,110,32,116,105,99,107,123,118,61]⟩)) (.t 36)),jj 38 (.bin .add (.t 37) (.c (.string ⟨#[49]⟩))),mv 39 13,mv 40 11,cl 41 230 [39,40],bn 42 .add 38 41,jj 43 (.bin .add (.t 42) (.c (.string ⟨#[59,125]⟩))),mv 14 43] [2,3,4,11,12,14])
def qnD:PC:=(rn [mv 45 14,cl 46 228 [45],mv 44 46,ex 47 44 0,ex 48 44 1,ex 49 44 2,jj 15 (.alloc [zN,zN,eN,sN,zN,zN,eN,sN,zN,zN,eN,sN]),st 12 15 47,mv 16 48,mv 17 49] [2,3,4,11,12,16,17])
def ql3:PC:=(.seq (rn [mv 50 11,bk 51 .leq 50 19,mv 52 51,jt 53 52 (.mov (.t 17)),jt 54 52 (.bin .neq (.t 53) (kk 0)),jj 55 (.pick (.t 52) (.t 54) kF),mv 56 55,jf 57 56 (.mov (.t 11)),jf 58 56 (.bin .gtr (.t 57) (kk 19)),jf 59 56 (.mov (.t 58)),jt 60 59 (.mov (.t 17)),jt 61 59 (.bin .neq (.t 60) (kk 2)),jt 62 59 (.mov (.t 61)),jf 63 62 (.mov (.t 16)),jf 64 62 (.mov (.t 12)),jf 65 62 (.len .str (.t 64)),jf 66 62 (.bin .mul (kk 20) (.t 65)),jf 67 62 (.bin .add (kk 10) (.t 66)),jf 68 62 (.bin .sub (.t 67) (kk 1)),jf 69 62 (.bin .neq (.t 63) (.t 68)),jt 70 59 (.pick (.t 62) kT (.t 69)),jf 71 56 (.pick (.t 59) (.t 70) kF),jj 72 (.pick (.t 56) kT (.t 71))] [2,3,4,72]) (.cond (.t 72) (.seq (rn [mx 10 kF] [10]) (.ret)) (.skip)))
def qnE:PC:=(rn [mv 73 2,jj 74 (.call 17 [(.t 73),(kk 12)]),jj 75 (.bin .add (kk 1) (.t 74)),mv 18 75] [3,4,18])
def qnF:PC:=(rn [mv 77 18,jj 78 (.call 230 [(.c (.string ⟨#[113]⟩)),(.t 77)]),jj 79 (.bin .add (.c (.string ⟨#[111,110,32,97,99,116,123]⟩)) (.t 78)),jj 80 (.bin .add (.t 79) (.c (.string ⟨#[61,49,59,125]⟩))),cl 81 228 [80],mv 76 81,ex 82 76 0,ex 83 76 1,ex 84 76 2,mv 16 83,mv 17 84] [3,4,16,17,18])
def ql4:PC:=(.seq (rn [mv 85 18,bk 86 .leq 85 8,mv 87 86,jt 88 87 (.mov (.t 17)),jt 89 87 (.bin .neq (.t 88) (kk 0)),jj 90 (.pick (.t 87) (.t 89) kF),mv 91 90,jf 92 91 (.mov (.t 18)),jf 93 91 (.bin .gtr (.t 92) (kk 8)),jf 94 91 (.mov (.t 93)),jt 95 94 (.mov (.t 17)),jt 96 94 (.bin .neq (.t 95) (kk 2)),jt 97 94 (.mov (.t 96)),jf 98 97 (.mov (.t 16)),jf 99 97 (.bin .neq (.t 98) (kk 7)),jt 100 94 (.pick (.t 97) kT (.t 99)),jf 101 91 (.pick (.t 94) (.t 100) kF),jj 102 (.pick (.t 91) kT (.t 101))] [3,4,102]) (.cond (.t 102) (.seq (rn [mx 10 kF] [10]) (.ret)) (.skip)))
def qkX:PC:=(rn [mv 103 3,jj 104 (.call 17 [(.t 103),(kk 9)]),jj 105 (.bin .add (kk 2147483647) (.t 104)),bk 106 .sub 105 4,mv 19 106] [4,19])
def qkY:PC:=(rn [mv 108 19,cl 109 20 [108],jj 110 (.bin .add (.c (.string ⟨#[111,110,32,97,99,116,123,118,61]⟩)) (.t 109)),jj 111 (.bin .add (.t 110) (.c (.string ⟨#[59,125]⟩))),cl 112 228 [111],mv 107 112,ex 113 107 0,ex 114 107 1,ex 115 107 2,jj 20 (.alloc [zN,zN,eN,sN,zN,zN,eN,sN,zN,zN,eN,sN]),st 12 20 113,mv 16 114,mv 17 115] [4,16,17,19,20])
def qji:PC:=(.seq (rn [mv 116 19,bk 117 .leq 116 2147483647,mv 118 117,jt 119 118 (.mov (.t 17)),jt 120 118 (.bin .neq (.t 119) (kk 0)),jt 121 118 (.mov (.t 120)),jf 122 121 (.fieldAddr 0 (.t 20)),jf 123 121 (.indexAddrA 3 4 (.t 122) (kk 0)),jf 124 121 (.fieldAddr 3 (.t 123)),jf 125 121 (.load false 1 (.t 124)),jf 126 121 (.len .sl (.t 125)),jf 127 121 (.bin .neq (.t 126) (kk 1)),jt 128 118 (.pick (.t 121) kT (.t 127)),jj 129 (.pick (.t 118) (.t 128) kF),mv 130 129,jf 131 130 (.mov (.t 19)),jf 132 130 (.bin .gtr (.t 131) (kk 2147483647)),jf 133 130 (.mov (.t 132)),jt 134 133 (.mov (.t 17)),jt 135 133 (.bin .neq (.t 134) (kk 6)),jt 136 133 (.mov (.t 135)),jf 137 136 (.mov (.t 16)),jf 138 136 (.bin .neq (.t 137) (kk 9)),jt 139 133 (.pick (.t 136) kT (.t 138)),jf 140 130 (.pick (.t 133) (.t 139) kF),jj 141 (.pick (.t 130) kT (.t 140))] [4,141]) (.cond (.t 141) (.seq (rn [mx 10 kF] [10]) (.ret)) (.skip)))
def qkZ:PC:=(rn [mv 142 4,jj 143 (.call 17 [(.t 142),(kk 21)]),jj 144 (.bin .add (kk 1990) (.t 143)),mv 21 144] [21])
def qk0:PC:=(rn [mv 146 21,bk 147 .sub 146 8,jj 148 (.call 230 [(.c (.string ⟨#[32]⟩)),(.t 147)]),jj 149 (.bin .add (.c (.string ⟨#[111,110,32,104,105,116,123,125]⟩)) (.t 148)),cl 150 228 [149],mv 145 150,ex 151 145 0,ex 152 145 1,ex 153 145 2,mv 16 152,mv 17 153] [16,17,21])
def qjj:PC:=(rn [mv 154 21,bk 155 .leq 154 2000,mv 156 155,jt 157 156 (.mov (.t 17)),jt 158 156 (.bin .eql (.t 157) (kk 0)),jj 159 (.pick (.t 156) (.t 158) kF),mv 160 159,jf 161 160 (.mov (.t 21)),jf 162 160 (.bin .gtr (.t 161) (kk 2000)),jf 163 160 (.mov (.t 162)),jt 164 163 (.mov (.t 17)),jt 165 163 (.bin .eql (.t 164) (kk 2)),jf 166 160 (.pick (.t 163) (.t 165) kF),jf 167 160 (.mov (.t 166)),jt 168 167 (.mov (.t 16)),jt 169 167 (.bin .eql (.t 168) (kk 2000)),jf 170 160 (.pick (.t 167) (.t 169) kF),jj 171 (.pick (.t 160) kT (.t 170)),mv 172 171,jt 173 172 (.call 229 []),jj 174 (.pick (.t 172) (.t 173) kF),mv 10 174] [10])
def qmN:PC:=(.ret)
def limF:PFun:=⟨5,[.tmp 10],.seq qnA (.seq qnB (.seq qjX (.seq qjY (.seq qnC (.seq qnD (.seq ql3 (.seq qnE (.seq qnF (.seq ql4 (.seq qkX (.seq qkY (.seq qji (.seq qkZ (.seq qk0 (.seq qjj qmN))))))))))))))),false,false,false⟩
theorem qnG:F219=limF:=rfl
section
variable {prog:Nat->Option PFun}
theorem qpq {v2 v3 v4:V} {n k a:Int} {o:ByteArray} (σ : S) (ho:o.size<=2) (h1:n<=19->k=0) (h2:19<n->k=2/\a=9+20*(o.size:Int)) (q:Nat) :
  run (Z prog) q ql3 [(2,v2),(3,v3),(4,v4),(11,.int n),(12,.str o),(16,.int a),(17,.int k)] σ = some (.normal,[(2,v2),(3,v3),(4,v4),(72,.bool false)],σ):=by
 by_cases h:n<=19
 ·have:=h1 h
  subst this
  have g : ¬ 19<n:=by omega
  simp[ql3,h,g]
 ·have g:19<n:=by omega
  obtain⟨hk,ha⟩:=h2 g
  have w1:IntKind.i64.wrap (20*(o.size:Int))=20*(o.size:Int):=qak _ (by omega)
  have w2:IntKind.i64.wrap (10+20*(o.size:Int))=10+20*(o.size:Int):=qak _ (by omega)
  have w3:IntKind.i64.wrap (10+20*(o.size:Int)-1)=a:=by rw[qak _ (by omega)]; omega
  subst hk
  simp[ql3,h,g,w1,w2,w3,V.len]
theorem qpr {v3 v4:V} {n k a:Int} (σ : S) (h1:n<=8->k=0) (h2:8<n->k=2/\a=7) (q:Nat) :
  run (Z prog) q ql4 [(3,v3),(4,v4),(16,.int a),(17,.int k),(18,.int n)] σ = some (.normal,[(3,v3),(4,v4),(102,.bool false)],σ):=by
 by_cases h:n<=8
 ·have:=h1 h
  subst this
  have g : ¬ 8<n:=by omega
  simp[ql4,h,g]
 ·have g:8<n:=by omega
  obtain⟨hk,ha⟩:=h2 g
  subst hk ha
  simp[ql4,h,g]
theorem qbe {C:Task->Option Res} {k:Nat} {a b:PC} {fr fr':Fr} {σ σ':S} (h:run C k a fr σ = some (.normal,fr',σ')):run C k (.seq a b) fr σ = run C k b fr' σ':=by simp[h]
theorem qps {b:Int} {v2 v3 v4 v11:V} {i:Nat} (hi:i<4) (y1:Z prog (.call 17 [.int b,.int 4] [])=some (.ret (.int i) [])) :
  run (Z prog) 0 qjX [(1,.int b),(2,v2),(3,v3),(4,v4),(11,v11)] []=some (.normal,[(1,.int b),(2,v2),(3,v3),(4,v4),(11,v11),(12,.str (qkh i))],[]):=by
 match i,hi with
 | 0,_=>simp only[qkh,Int.cast_ofNat_Int] at *; simp[qjX,y1,qaP]
 | 1,_=>simp only[qkh,Int.cast_ofNat_Int] at *; simp[qjX,y1,qaP]
 | 2,_=>simp only[qkh,Int.cast_ofNat_Int] at *; simp[qjX,y1,qaP]
 | 3,_=>simp only[qkh,Int.cast_ofNat_Int] at *; simp[qjX,y1,qaP]
theorem qpt {b:Int} {v2 v3 v4 v11 v12:V} {i:Nat} (hi:i<4) (y1:Z prog (.call 17 [.int b,.int 4] [])=some (.ret (.int i) [])) :
  run (Z prog) 0 qjY [(1,.int b),(2,v2),(3,v3),(4,v4),(11,v11),(12,v12)] []=some (.normal,[(2,v2),(3,v3),(4,v4),(11,v11),(12,v12),(13,.str (qlz i))],[]):=by
 match i,hi with
 | 0,_=>simp only[qlz,Int.cast_ofNat_Int] at *; simp[qjY,y1,qaP]
 | 1,_=>simp only[qlz,Int.cast_ofNat_Int] at *; simp[qjY,y1,qaP]
 | 2,_=>simp only[qlz,Int.cast_ofNat_Int] at *; simp[qjY,y1,qaP]
 | 3,_=>simp only[qlz,Int.cast_ofNat_Int] at *; simp[qjY,y1,qaP]
abbrev qjk (r:Nat->N4):Ob := .cells [.int (r 0).k,.int (r 0).n,.str (r 0).s,.dat (r 0).d,.int (r 1).k,.int (r 1).n,.str (r 1).s,.dat (r 1).d,.int (r 2).k,.int (r 2).n,.str (r 2).s,.dat (r 2).d]
theorem qpu {s:ByteArray} {v2 v3 v4 v11 v12:V} {r:Nat->N4} {a c:Int} (z:Z prog (.call 228 [.str s] [])=some (.ret (.tup [qiv r,.int a,.int c]) [])) :
  run (Z prog) 0 qnD [(2,v2),(3,v3),(4,v4),(11,v11),(12,v12),(14,.str s)] []=some (.normal,[(2,v2),(3,v3),(4,v4),(11,v11),(12,v12),(16,.int a),(17,.int c)],[qjk r]):=by
 simp only[qiv] at z
 have o0:=(r 0).one
 have o1:=(r 1).one
 have o2:=(r 2).one
 have k0:=(r 0).cl
 have k1:=(r 1).cl
 have k2:=(r 2).cl
 simp -implicitDefEqProofs [qnD,z,o0,o1,o2,k0,k1,k2]
theorem qpv {c:Int} {v3 v4:V} {j:Nat} (b:V) (σ : S) (hj:j<12) (y:Z prog (.call 17 [.int c,.int 12] [])=some (.ret (.int j) [])) :
  run (Z prog) 0 qnE [(2,.int c),(3,v3),(4,v4),(72,b)] σ = some (.normal,[(3,v3),(4,v4),(18,.int ((1+j:Nat):Int))],σ):=by
 have w:IntKind.i64.wrap (1+(j:Int))=((1+j:Nat):Int):=by rw[qak _ (by omega)]; omega
 generalize ((1+j:Nat):Int)=w1 at *
 simp[qnE,y,w]
theorem qpw {v3 v4:V} {k:Int} {t A B:ByteArray} (σ : S) {r:Nat->N4} {a c:Int} (y:Z prog (.call 230 [.str ⟨#[113]⟩,.int k] [])=some (.ret (.str t) []))
  (q1:⟨#[111,110,32,97,99,116,123]⟩++t=A) (q2:A++⟨#[61,49,59,125]⟩=B) (n1:t.size<=1000)
  (z:Z prog (.call 228 [.str B] [])=some (.ret (.tup [qiv r,.int a,.int c]) [])) :
  run (Z prog) 0 qnF [(3,v3),(4,v4),(18,.int k)] σ = some (.normal,[(3,v3),(4,v4),(16,.int a),(17,.int c),(18,.int k)],σ):=by
 have e1:(⟨#[111,110,32,97,99,116,123]⟩:ByteArray).size=7:=rfl
 have e2:(⟨#[61,49,59,125]⟩:ByteArray).size=4:=rfl
 have e3:A.size=7+t.size:=by rw[<- q1,ByteArray.size_append,e1]
 have g1 : ¬ (9223372036854775807:Int)<7+(t.size:Int):=by omega
 have g2 : ¬ (9223372036854775807:Int)<7+(t.size:Int)+4:=by omega
 simp only[qiv] at z
 simp -implicitDefEqProofs [qnF,y,z,q1,q2,e1,e2,e3,g1,g2]
theorem qnH {c:Int} {v4:V} {j:Nat} (b:V) (σ : S) (hj:j<9) (y:Z prog (.call 17 [.int c,.int 9] [])=some (.ret (.int j) [])) :
  run (Z prog) 0 qkX [(3,.int c),(4,v4),(102,b)] σ = some (.normal,[(4,v4),(19,.int ((2147483643+j:Nat):Int))],σ):=by
 have w:IntKind.i64.wrap (2147483647+(j:Int))=2147483647+(j:Int):=by rw[qak _ (by omega)]
 have w2:IntKind.i64.wrap (2147483647+(j:Int)-4)=((2147483643+j:Nat):Int):=by rw[qak _ (by omega)]; omega
 generalize ((2147483643+j:Nat):Int)=w1 at *
 simp[qkX,y,w,w2]
theorem qpx {v2 v3 v4:V} {n:Int} {o c t0 t1 A B C D:ByteArray} (σ : S) (p1:Z prog (.call 230 [.str o,.int n] [])=some (.ret (.str t0) [])) (p2:Z prog (.call 230 [.str c,.int n] [])=some (.ret (.str t1) []))
  (q1:⟨#[111,110,32,116,105,99,107,123,118,61]⟩++t0=A) (q2:A++⟨#[49]⟩=B) (q3:B++t1=C) (q4:C++⟨#[59,125]⟩=D) (n1:t0.size<=1000) (n2:t1.size<=1000) :
  run (Z prog) 0 qnC [(2,v2),(3,v3),(4,v4),(11,.int n),(12,.str o),(13,.str c)] σ = some (.normal,[(2,v2),(3,v3),(4,v4),(11,.int n),(12,.str o),(14,.str D)],σ):=by
 have k1:(⟨#[111,110,32,116,105,99,107,123,118,61]⟩:ByteArray).size=10:=rfl
 have k2:(⟨#[49]⟩:ByteArray).size=1:=rfl
 have k3:(⟨#[59,125]⟩:ByteArray).size=2:=rfl
 have e1:A.size=10+t0.size:=by rw[<- q1,ByteArray.size_append,k1]
 have e2:B.size=11+t0.size:=by rw[<- q2,ByteArray.size_append,k2]; omega
 have e3:C.size=11+t0.size+t1.size:=by rw[<- q3,ByteArray.size_append,e2]
 have g1 : ¬ (9223372036854775807:Int)<10+(t0.size:Int):=by omega
 have g2 : ¬ (9223372036854775807:Int)<(A.size:Int)+1:=by omega
 have g3 : ¬ (9223372036854775807:Int)<(B.size:Int)+(t1.size:Int):=by omega
 have g4 : ¬ (9223372036854775807:Int)<(C.size:Int)+2:=by omega
 clear e1 e2 e3
 simp -implicitDefEqProofs [qnC,p1,p2,q1,q2,q3,q4,k1,k2,k3,g1,g2,g3,g4]
theorem qnI {v4:V} {k:Int} {t A B:ByteArray} {r0 r:Nat->N4} {a c:Int} (y:Z prog (.call 20 [.int k] [])=some (.ret (.str t) []))
  (q1:⟨#[111,110,32,97,99,116,123,118,61]⟩++t=A) (q2:A++⟨#[59,125]⟩=B) (n1:t.size<=1000)
  (z:Z prog (.call 228 [.str B] [])=some (.ret (.tup [qiv r,.int a,.int c]) [])) :
  run (Z prog) 0 qkY [(4,v4),(19,.int k)] [qjk r0]=some (.normal,[(4,v4),(16,.int a),(17,.int c),(19,.int k),(20,.ptr 1 0)],[qjk r0,qjk r]):=by
 have e1:(⟨#[111,110,32,97,99,116,123,118,61]⟩:ByteArray).size=9:=rfl
 have e2:(⟨#[59,125]⟩:ByteArray).size=2:=rfl
 have e3:A.size=9+t.size:=by rw[<- q1,ByteArray.size_append,e1]
 have g1 : ¬ (9223372036854775807:Int)<9+(t.size:Int):=by omega
 have g2 : ¬ (9223372036854775807:Int)<9+(t.size:Int)+2:=by omega
 have o0:=(r 0).one
 have o1:=(r 1).one
 have o2:=(r 2).one
 have k0:=(r 0).cl
 have k1:=(r 1).cl
 have k2:=(r 2).cl
 simp only[qiv] at z
 simp -implicitDefEqProofs [qkY,y,z,q1,q2,e1,e2,e3,g1,g2,o0,o1,o2,k0,k1,k2]
theorem qnJ {v4:V} {n a k:Int} {r0 r:Nat->N4} (h1:n<=2147483647->k=0 /\ ∀ σ,V.len σ .sl (.dat (r 0).d)=some 1) (h2:2147483647<n->k=6/\a=9) :
  run (Z prog) 0 qji [(4,v4),(16,.int a),(17,.int k),(19,.int n),(20,.ptr 1 0)] [qjk r0,qjk r]=some (.normal,[(4,v4),(141,.bool false)],[qjk r0,qjk r]):=by
 by_cases h:n<=2147483647
 ·obtain⟨hk,hl⟩:=h1 h
  subst hk
  have g : ¬ 2147483647<n:=by omega
  simp -implicitDefEqProofs [qji,h,g,hl]
 ·have g:2147483647<n:=by omega
  obtain⟨hk,ha⟩:=h2 g
  subst hk ha
  simp -implicitDefEqProofs [qji,h,g]
theorem qnK {c:Int} {j:Nat} (b:V) (σ : S) (hj:j<21) (y:Z prog (.call 17 [.int c,.int 21] [])=some (.ret (.int j) [])) :
  run (Z prog) 0 qkZ [(4,.int c),(141,b)] σ = some (.normal,[(21,.int ((1990+j:Nat):Int))],σ):=by
 have w:IntKind.i64.wrap (1990+(j:Int))=((1990+j:Nat):Int):=by rw[qak _ (by omega)]; omega
 generalize ((1990+j:Nat):Int)=w1 at *
 simp[qkZ,y,w]
theorem qnL {m:Nat} {t A:ByteArray} (σ : S) {r:Nat->N4} {a c:Int} (h8:8<=m) (h:m<=3000) (y:Z prog (.call 230 [.str ⟨#[32]⟩,.int ((m-8:Nat):Int)] [])=some (.ret (.str t) []))
  (q1:⟨#[111,110,32,104,105,116,123,125]⟩++t=A) (n1:t.size<=3000)
  (z:Z prog (.call 228 [.str A] [])=some (.ret (.tup [qiv r,.int a,.int c]) [])) :
  run (Z prog) 0 qk0 [(21,.int m)] σ = some (.normal,[(16,.int a),(17,.int c),(21,.int m)],σ):=by
 have e1:(⟨#[111,110,32,104,105,116,123,125]⟩:ByteArray).size=8:=rfl
 have w:IntKind.i64.wrap ((m:Int)-8)=((m-8:Nat):Int):=by rw[qak _ (by omega)]; omega
 have g1 : ¬ (9223372036854775807:Int)<8+(t.size:Int):=by omega
 simp only[qiv] at z
 generalize ((m-8:Nat):Int)=w1 at *
 simp -implicitDefEqProofs [qk0,y,z,q1,e1,g1,w]
theorem qnM {n k a:Int} (σ : S) (zl:Z prog (.call 229 [] [])=some (.ret (.bool true) [])) (h1:n<=2000->k=0) (h2:2000<n->k=2/\a=2000) :
  run (Z prog) 0 qjj [(16,.int a),(17,.int k),(21,.int n)] σ = some (.normal,[(10,.bool true)],σ):=by
 by_cases h:n<=2000
 ·have:=h1 h
  subst this
  have g : ¬ 2000<n:=by omega
  simp -implicitDefEqProofs [qjj,h,g,zl]
 ·have g:2000<n:=by omega
  obtain⟨hk,ha⟩:=h2 g
  subst hk ha
  simp -implicitDefEqProofs [qjj,h,g,zl]
theorem qcY (H:HasD prog) {n m:Int} (h1:I64 n) (hm:1<=m) : ∃ j:Nat,(j:Int)<m/\Z prog (.call 17 [.int n,.int m] [])=some (.ret (.int j) []):=by
 obtain⟨g1,g2⟩:=qlg h1 hm
 refine⟨(qd3 n m).toNat,by omega,?_⟩
 rw[show (((qd3 n m).toNat:Nat):Int)=qd3 n m by omega]
 exact qkW H h1 hm
theorem ql5 (H:HasD prog) (s:ByteArray) (hs:s.size<2 ^ 30) : ∃ (r:Nat->N4) (a c:Int),Z prog (.call 228 [.str s] [])=some (.ret (.tup [qiv r,.int a,.int c]) []) /\
  (match qbJ true true false s with
   | .ok h _=>c=0/\r=fun k=>qel (h k)
   | .er a' c'=>a=a'/\c=c'):=by
 have z:=qlK H.toHas s hs
 unfold qik at z
 cases hp:qbJ true true false s with
 | ok h ts=>rw[hp] at z; exact⟨_,_,_,z,rfl,rfl⟩
 | er a c=>rw[hp] at z; exact⟨_,_,_,z,rfl,rfl⟩
theorem qgn (H:HasD prog) (zl:Z prog (.call 229 [] [])=some (.ret (.bool true) [])) {a b c d e:Int} (ha:I64 a) (hb:I64 b) (hc:I64 c) (hd:I64 d) (he:I64 e) :
  Z prog (.call 219 [.int a,.int b,.int c,.int d,.int e] [])=some (.ret (.bool true) []):=by
 obtain⟨v,hv,yv⟩:=qcY H ha (m:=26) (by omega)
 obtain⟨i,hi,yi⟩:=qcY H hb (m:=4) (by omega)
 obtain⟨j,hj,yj⟩:=qcY H hc (m:=12) (by omega)
 obtain⟨k,hk,yk⟩:=qcY H hd (m:=9) (by omega)
 obtain⟨l,hl,yl⟩:=qcY H he (m:=21) (by omega)
 have hi4:i<4:=by omega
 have so:(qkh i).size<=2:=by match i,hi4 with | 0,_=>decide | 1,_=>decide | 2,_=>decide | 3,_=>decide
 have se:(qlz i).size<=2:=by match i,hi4 with | 0,_=>decide | 1,_=>decide | 2,_=>decide | 3,_=>decide
 have m1:v*(qkh i).size<=v*2:=Nat.mul_le_mul_left _ so
 have m2:v*(qlz i).size<=v*2:=Nat.mul_le_mul_left _ se
 have p1:=qfs H (qkh i) v (by omega) (by omega) (by omega)
 have p2:=qfs H (qlz i) v (by omega) (by omega) (by omega)
 have z1:=qca (qkh i) v
 have z2:=qca (qlz i) v
 obtain⟨r1,a1,c1,f1,g1⟩:=ql5 H (qos i v) (by
  simp only[qos,ByteArray.size_append,z1,z2]
  show 10+_+1+_+2<_
  omega)
 have w1:=qnh hi4 (show v<26 by omega)
 unfold qiH at w1
 have p3:=qfs H ⟨#[113]⟩ (1+j) (by show (1+j)*1<_; omega) (by decide) (by omega)
 have z3:=qca ⟨#[113]⟩ (1+j)
 have z3':(repB ⟨#[113]⟩ (1+j)).size=(1+j)*1:=z3
 obtain⟨r2,a2,c2,f2,g2⟩:=ql5 H (qot (1+j)) (by
  simp only[qot,ByteArray.size_append,z3']
  show 7+_+4<_
  omega)
 have w2:=List.all_eq_true.1 qnf j (List.mem_range.2 (by omega))
 unfold qo1 at w2
 have p4:Z prog (.call 20 [.int ((2147483643+k:Nat):Int)] [])=some (.ret (.str (bs (qit (2147483643+k)))) []):=qm2 H.s (qk4 (by omega))
 have z4:(bs (qit (2147483643+k))).size<=20:=by rw[qcl]; exact qkV 20 _
 obtain⟨r3,a3,c3,f3,g3⟩:=ql5 H (qou (2147483643+k)) (by
  simp only[qou,ByteArray.size_append]
  show 9+_+2<_
  omega)
 have w3:=List.all_eq_true.1 qng k (List.mem_range.2 (by omega))
 unfold qo2 at w3
 have p5:=qfs H ⟨#[32]⟩ (1990+l-8) (by show (1990+l-8)*1<_; omega) (by decide) (by omega)
 have z5:(repB ⟨#[32]⟩ (1990+l-8)).size=(1990+l-8)*1:=qca _ _
 obtain⟨r4,a4,c4,f4,g4⟩:=ql5 H (qlA (1990+l)) (by
  simp only[qlA,ByteArray.size_append,z5]
  show 8+_<_
  omega)
 have s1:=qpq (prog:=prog) (v2 := .int c) (v3 := .int d) (v4 := .int e) (n:=v) (k:=c1) (a:=a1) (o:=qkh i) [qjk r1] so (by
  intro hle
  cases hp:qbJ true true false (qos i v) with
  | ok h ts=>rw[hp] at g1; exact g1.1
  | er a c=>rw[hp] at w1; simp at w1; omega) (by
  intro hle
  cases hp:qbJ true true false (qos i v) with
  | ok h ts=>rw[hp] at w1; simp at w1; omega
  | er a c=>rw[hp] at w1 g1; simp at w1 g1; omega) 0
 have s2:=qpr (prog:=prog) (v3 := .int d) (v4 := .int e) (n:=((1+j:Nat):Int)) (k:=c2) (a:=a2) [qjk r1] (by
  intro hle
  cases hp:qbJ true true false (qot (1+j)) with
  | ok h ts=>rw[hp] at g2; exact g2.1
  | er a c=>rw[hp] at w2; simp at w2; omega) (by
  intro hle
  cases hp:qbJ true true false (qot (1+j)) with
  | ok h ts=>rw[hp] at w2; simp at w2; omega
  | er a c=>rw[hp] at w2 g2; simp at w2 g2; omega) 0
 have s3:=qnJ (prog:=prog) (v4 := .int e) (n:=((2147483643+k:Nat):Int)) (k:=c3) (a:=a3) (r0:=r1) (r:=r3) (by
  intro hle
  cases hp:qbJ true true false (qou (2147483643+k)) with
  | ok h ts=>
   rw[hp] at g3 w3
   obtain⟨e1,e2⟩:=g3
   subst e2
   refine⟨e1,fun σ => ?_⟩
   simp only[Bool.and_eq_true] at w3
   have w:=w3.2
   cases h0:h 0 with
   | none=>rw[h0] at w; exact absurd w (by simp[qrN])
   | some B=>
    rw[h0] at w
    have hl1:B.fo.len=1:=of_decide_eq_true w
    show V.len σ .sl (.dat (qel (h 0)).d)=some 1
    rw[show (qel (h 0)).d=kd false B.fo.len B.fo.cells by rw[h0]; rfl,hl1]
    rfl
  | er a c=>rw[hp] at w3; simp at w3; omega) (by
  intro hle
  cases hp:qbJ true true false (qou (2147483643+k)) with
  | ok h ts=>rw[hp] at w3; simp at w3; omega
  | er a c=>rw[hp] at w3 g3; simp at w3 g3; omega)
 have s4:=qnM (prog:=prog) (n:=((1990+l:Nat):Int)) (k:=c4) (a:=a4) [qjk r1,qjk r3] zl (by
  intro hle
  obtain⟨h,ts,hp⟩:=qni (m:=1990+l) (by omega) (by omega)
  rw[hp] at g4
  exact g4.1) (by
  intro hle
  rw[qlL (by omega)] at g4
  exact⟨g4.2,g4.1⟩)
 refine qac (H.kd 219 F219 rfl) rfl ?_
 rw[qnG]
 have t0:run (Z prog) 0 qnA [(0,.int a),(1,.int b),(2,.int c),(3,.int d),(4,.int e)] []=some (.normal,[(0,.int a),(1,.int b),(2,.int c),(3,.int d),(4,.int e)],[]):=by simp[qnA]
 have t1:run (Z prog) 0 qnB [(0,.int a),(1,.int b),(2,.int c),(3,.int d),(4,.int e)] []=some (.normal,[(1,.int b),(2,.int c),(3,.int d),(4,.int e),(11,.int v)],[]):=by simp[qnB,yv]
 have hb:run (Z prog) 0 limF.body [(0,.int a),(1,.int b),(2,.int c),(3,.int d),(4,.int e)] []=some (.ret,[(10,.bool true)],[qjk r1,qjk r3]):=by
  unfold limF
  simp only[]
  rw[qbe t0,qbe t1,qbe (qps hi4 yi),qbe (qpt hi4 yi),qbe (qpx (D:=qos i v) [] p1 p2 rfl rfl rfl rfl (by omega) (by omega)),qbe (qpu f1),qbe s1,
   qbe (qpv _ _ (by omega) yj),qbe (qpw (B:=qot (1+j)) _ p3 rfl rfl (by omega) f2),qbe s2,qbe (qnH _ _ (by omega) yk),qbe (qnI (B:=qou (2147483643+k)) p4 rfl rfl (by omega) f3),qbe s3,
   qbe (qnK _ _ (by omega) yl),qbe (qnL _ (by omega) (by omega) p5 (A:=qlA (1990+l)) rfl (by omega) f4),qbe s4]
  simp[qmN]
 have np:limF.np=5:=rfl
 have df:limF.df=false:=rfl
 have rs:limF.results=[.tmp 10]:=rfl
 have ns:limF.noseal=false:=rfl
 simp[hb,np,df,rs,ns]
end
end Go.Pm
end SUx
section STb13
namespace Go.Pm.F
def prog13d:Nat->Option PFun
 | 17=>some F17
 | 20=>some F20
 | 219=>some F219
 | 228=>some F228
 | 229=>some F229
 | 230=>some F230
 | 231=>some F231
 | 239=>some F239
 | 240=>some F240
 | 241=>some F241
 | 242=>some F242
 | 243=>some F243
 | 244=>some F244
 | 245=>some F245
 | 249=>some F249
 | 250=>some F250
 | 251=>some F251
 | 252=>some F252
 | 253=>some F253
 | 254=>some F254
 | 255=>some F255
 | 256=>some F256
 | 257=>some F257
 | 258=>some F258
 | 259=>some F259
 | 260=>some F260
 | 264=>some F264
 | 265=>some F265
 | 266=>some F266
 | 267=>some F267
 | 268=>some F268
 | 269=>some F269
 | 270=>some F270
 | 271=>some F271
 | 272=>some F272
 | 273=>some F273
 | 274=>some F274
 | 275=>some F275
 | 276=>some F276
 | 277=>some F277
 | 278=>some F278
 | 279=>some F279
 | 280=>some F280
 | 281=>some F281
 | 282=>some F282
 | 283=>some F283
 | 284=>some F284
 | 285=>some F285
 | 286=>some F286
 | 287=>some F287
 | 288=>some F288
 | 289=>some F289
 | 290=>some F290
 | 291=>some F291
 | 292=>some F292
 | 293=>some F293
 | 294=>some F294
 | 295=>some F295
 | 297=>some F297
 | 298=>some F298
 | 299=>some F299
 | 300=>some F300
 | 303=>some F303
 | 304=>some F304
 | 307=>some F307
 | 308=>some F308
 | 309=>some F309
 | _=>none
theorem qgf : ∀ f pf,tR f=some pf->prog13d f=some pf:=fun f pf h=>by
 unfold tR at h
 split at h<;>first | (cases h; rfl) | cases h
theorem qgg : ∀ f pf,tS f=some pf->prog13d f=some pf:=fun f pf h=>by
 unfold tS at h
 split at h<;>first | (cases h; rfl) | cases h
theorem qgh : ∀ f pf,tP f=some pf->prog13d f=some pf:=fun f pf h=>by
 unfold tP at h
 split at h<;>first | (cases h; rfl) | cases h
theorem qgi : ∀ f pf,tQ f=some pf->prog13d f=some pf:=fun f pf h=>by
 unfold tQ at h
 split at h<;>first | (cases h; rfl) | cases h
theorem qet : ∀ f pf,qjD f=some pf->prog13d f=some pf:=fun f pf h=>by
 unfold qjD at h
 split at h<;>first | (cases h; rfl) | cases h
end Go.Pm.F
end STb13
section SUm
namespace Go.Pm
open F
theorem qgj:Sub tE prog13d:=fun f pf h=>by
 unfold tE at h
 split at h<;>first | (cases h; rfl) | cases h
theorem qgk:Sub tK prog13d:=fun f pf h=>by
 unfold tK at h
 split at h<;>first | (cases h; rfl) | cases h
theorem qfI:Sub tKd prog13d:=fun f pf h=>by
 unfold tKd at h
 split at h<;>first | (cases h; rfl) | cases h
theorem qo7:HasD prog13d:=⟨⟨qet,qgf,qgg,qgh,qgi,qgj,qgk⟩,qfI⟩
end Go.Pm
end SUm
section SUt
namespace Go.Pm
open F
theorem qmu:Z prog13d (.call 229 [] [])=some (.ret (.bool true) []):=qly (n:=3000) (by kernel_rfl)
end Go.Pm
end SUt
section SUy
namespace Go.Pm
open F
theorem limitsLaw_Z {a b c d e:Int} (ha:I64 a) (hb:I64 b) (hc:I64 c) (hd:I64 d) (he:I64 e) :
  Z prog13d (.call 219 [.int a,.int b,.int c,.int d,.int e] [])=some (.ret (.bool true) []):=qgn qo7 qmu ha hb hc hd he
end Go.Pm
end SUy
