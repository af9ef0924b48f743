/- Chapter 13's parser: blocks are the plain ones. Chapter 13's parser: handlers. Chapter 13's parser: a whole program: the walks. Chapter 13's parser: whole programs are the plain ones. Chapter 13's parser: program. Chapter 13's parser: Parse is the plain one. Chapter 13's parser: Parse behind an error. Chapter 13's parser: Parse, whole. What the laws of chapter 13 call, over any table that has it: Short, Broken, Source, Parse, Print, equal. Chapter 13's law ParserRound. The rule language in plain Lean: one assignment of an expression, printed either way, and read back. No program in sight. The rule language in plain Lean: the handlers in another order, and one of them twice. No program in sight. Chapter 13's law ParserOrder. The abstract machine's programs: tables of functions. Chapter 13's laws, over the whole table. Chapter 13's law ParserTail, over the whole table. Chapter 13's law ParserOrder, over the whole table. -/
import Derived.Test.YtjdbkncfebebnaaDoorPmKu
import Derived.Test.YtjdbkncfebebnaaDoorPmG5
import Derived.Test.YtjdbkncfebebnaaDoorPmFx
import Derived.Test.YtjdbkncfebebnaaDoorPmYh
import Derived.Test.YtjdbkncfebebnaaDoorPmSb
import Derived.Test.YtjdbkncfebebnaaDoorPmUd
import Derived.Test.YtjdbkncfebebnaaDoorPmF3
import Derived.Test.YtjdbkncfebebnaaDoorPmF3g
import Derived.KernelRfl
set_option linter.unusedSimpArgs false
set_option linter.unusedVariables false
section SMa
namespace Go.Pm
open F
set_option maxHeartbeats 2000000
section
variable (s:ByteArray) (T:List Tk)
def SsK (n:Nat):Prop := ∀ (lv i:Nat) (t:Tk) (r:List Tk) (a:Ss) (v:V) (σt:S) (x:Rz Ss),lv<=20->T.drop i=t::r->a.fo.len+(t::r).length<=2 ^ 40->qpN v σt a.fo.cells a.fo.len->qbR 12 2 true true false n lv a (t::r)=some x->match x with
 | .ok b r' => ∃ (i':Nat) (t':Tk) (v':V) (σt':S),T.drop i'=t'::r'/\t'.bad=0/\t'.s=ql4/\qpN v' σt' b.fo.cells b.fo.len/\Z tP (.loop 3 F256l0 (bzF lv) (bzS s T i 0 12 v σt))=some (.out (.exit 0) (bzF lv++[(13,.bool false)]) (bzS s T i' 0 12 v' σt'))
 | .er a c => ∃ (i':Nat) (fr:Fr) (v':V) (σt':S),fr.get 1000000=none/\Z tP (.loop 3 F256l0 (bzF lv) (bzS s T i 0 12 v σt))=some (.out (.pan (.iface 1 (.int c))) fr (bzS s T i' a c v' σt'))
variable {s:ByteArray} {T:List Tk}
theorem qnt {n lv:Nat} {ts r:List Tk} {b:Ss} (h:qcl 12 2 true true false n lv ts=some (.ok b r)):r.length<=ts.length-1:=by
 have h1:=qis h (Nat.le_max_left n (10*ts.length+1))
 obtain⟨y,h2,h3⟩:=(qgT 12 2 true true false (max n (10*ts.length+1))).1 lv ts (Nat.le_max_right _ _)
 rw[h1] at h2
 cases h2
 exact h3 b r rfl
theorem qqV {n:Nat} (ihs:StK s T n) (ihl:SsK s T n):SsK s T (n+1):=by
 intro lv i t r a v σt x hlv h hlen hr hx
 rw[qbR] at hx
 by_cases hb:t.bad=0
 case neg=>
  have hnx:nx (t::r)=none:=if_neg hb
  rw[hnx] at hx
  simp only[failP,if_neg hb,Option.some.injEq] at hx
  subst hx
  obtain⟨fr,f1,f2⟩:=qtB (s:=s) (lv:=lv) h hb hr
  exact⟨i,fr,v,σt,f1,f2⟩
 have hnx:nx (t::r)=some t.s:=if_pos hb
 rw[hnx] at hx
 simp only[List.tail_cons] at hx
 by_cases he:t.s=bs [125]
 ·rw[if_pos he] at hx
  simp only[Option.some.injEq] at hx
  subst hx
  exact⟨i,t,v,σt,h,hb,he,hr,qtA h hb he hr⟩
 rw[if_neg he] at hx
 cases hq:qcl 12 2 true true false n lv (t::r) with
 | none=>rw[hq] at hx; cases hx
 | some y=>
  rw[hq] at hx
  have hs:=ihs lv i t r y hlv h hq
  cases y with
  | er p c=>
   simp only[Option.some.injEq] at hx
   subst hx
   obtain⟨i',z⟩:=hs
   exact⟨i',[],v,σt,rfl,qtC h hb he hr z⟩
  | ok b r'=>
   simp only at hx
   obtain⟨i',k,y,d,a1,a2,z,o1,o2,c1,c2⟩:=hs
   have hl:=qnt hq
   simp only[List.length_cons] at hl hlen
   obtain⟨v',σt',r1,r2⟩:=qpO h hb he hr (by omega) o1 o2 z
   obtain⟨t2,r2',rfl⟩:=qaU a2
   have hr':qpN v' σt' (a.app b).fo.cells (a.app b).fo.len:=by
    rw[qhG,qgB,qdj,c1,c2]; exact r1
   have hlen':(a.app b).fo.len+(t2::r2').length<=2 ^ 40:=by
    rw[qhG,qdj,c2]
    simp only[List.length_cons] at hl ⊢
    omega
   have:=ihl lv i' t2 r2' (a.app b) v' σt' x hlv a1 hlen' hr' hx
   cases x with
   | ok b3 r3=>
    obtain⟨i3,t3,v3,σ3,e1,e2,e3,e4,e5⟩:=this
    exact⟨i3,t3,v3,σ3,e1,e2,e3,e4,r2.trans e5⟩
   | er p c=>
    obtain⟨i3,fr,v3,σ3,e1,e2⟩:=this
    exact⟨i3,fr,v3,σ3,e1,r2.trans e2⟩
theorem qqW (hw:WfQ T) (hT:T.length<2 ^ 30) {n:Nat} (ihl:SsK s T n):BkK s T (n+1):=by
 intro lv i t r x h hx
 rw[qaR] at hx
 have ho:=qgK (s:=s) hw (by omega) h (x:=bs [123]) (by decide) (lv:=lv)
 cases hq:qcv 12 2 (bs [123]) lv (t::r) with
 | er a c=>
  rw[hq] at hx ho
  simp only[Option.some.injEq] at hx
  subst hx
  obtain⟨i',z⟩:=ho
  exact⟨i',qrK z⟩
 | ok u r1=>
  have hl1:=qjh hq
  rw[hq] at hx ho
  simp only at hx
  obtain⟨i1,a1,a2,z1⟩:=ho
  obtain⟨t1,r2,rfl⟩:=qaU a2
  have hlen:(t1::r2).length<=T.length:=by rw[<- a1,List.length_drop]; omega
  have hl:=ihl lv i1 t1 r2 .nil (.dat (.lit (.slice none 0 0))) [] x hl1 a1 (by show 0+_<=_; omega) (.inl ⟨rfl,rfl,rfl,rfl⟩) hx
  cases x with
  | er p c=>
   obtain⟨i3,fr,v3,σ3,e1,e2⟩:=hl
   exact⟨i3,qtD z1 e1 e2⟩
  | ok b r3=>
   obtain⟨i3,t3,v3,σ3,e1,e2,e3,e4,e5⟩:=hl
   obtain⟨n1,n2⟩:=hw.next e1 e2 (by rw[e3]; decide)
   exact⟨i3+1,n1,n2,qvh (by omega) z1 e4 e5 e1 e2 e3⟩
theorem qp8 (hw:WfQ T) (hT:T.length<2 ^ 30) (hP : ∀ t∈T,TokP t) : ∀ n,StK s T n/\BkK s T n/\SsK s T n
 | 0=>⟨fun lv i t r x _ _ hx=>by simp[qcl] at hx,fun lv i t r x _ hx=>by simp[qaR] at hx,fun lv i t r a v σt x _ _ _ _ hx=>by simp[qbR] at hx⟩
 | n+1=>by
  obtain⟨ihs,ihb,ihl⟩:=qp8 hw hT hP n
  exact⟨qrO hw (by omega) hP ihb,qqW hw hT ihl,qqV ihs ihl⟩
end
end Go.Pm
end SMa
section SMb
namespace Go.Pm
open F
set_option maxHeartbeats 4000000
attribute [local simp] qbd qbQ dkey
section
variable {s:ByteArray} {T:List Tk} {i:Nat} {t:Tk} {r:List Tk} {a c:Int}
theorem qgh {k:Nat} (h:T.drop i=t::r) (hb:t.bad=0) (hk:qby t.s=some k):Z tP (.call 254 [.ptr 0 0] (PS s T i 0 12))=some (.ret (.int k) (PS s T i 0 12)):=by
 have zp:=qax (s:=s) (a:=0) (c:=12) h hb
 simp only[PS,pO,ptk,ptD,qam hb] at zp
 generalize t.s=w at zp hk
 unfold qby at hk
 by_cases h1:w=bs [97,99,116]
 ·subst h1
  simp only[if_true,Option.some.injEq] at hk
  subst hk
  simp only[bs] at zp
  refine Z_call (pf:=F254) rfl rfl ?_
  simp[F254,zp,qa7,List.range_succ]
 rw[if_neg h1] at hk
 by_cases h2:w=bs [116,105,99,107]
 ·subst h2
  simp only[if_true,Option.some.injEq] at hk
  subst hk
  simp only[bs] at zp
  refine Z_call (pf:=F254) rfl rfl ?_
  simp[F254,zp,qa7,List.range_succ]
 rw[if_neg h2] at hk
 by_cases h3:w=qm1
 ·subst h3
  simp only[if_true,Option.some.injEq] at hk
  subst hk
  simp only[qm1] at zp
  refine Z_call (pf:=F254) rfl rfl ?_
  simp[F254,zp,qa7,List.range_succ]
 ·rw[if_neg h3] at hk; cases hk
theorem qmS (h:T.drop i=t::r) (hb:t.bad=0) (hk:qby t.s=none):Z tP (.call 254 [.ptr 0 0] (PS s T i 0 12))=some (.ret (qbk 12) (PS s T i t.at_ 12)):=by
 have zp:=qax (s:=s) (a:=0) (c:=12) h hb
 have zf:=qfZ (s:=s) (T:=T) (i:=i) (a:=0) (c:=12) (k:=kindT t) (x:=t.s) (at_:=t.at_) (v:=valT t) (e:=t.bad) (c':=12)
 simp only[PS,pO,ptk,ptD,qam hb] at zp zf
 unfold qby at hk
 by_cases h1:t.s=bs [97,99,116]
 ·rw[if_pos h1] at hk; cases hk
 rw[if_neg h1] at hk
 by_cases h2:t.s=bs [116,105,99,107]
 ·rw[if_pos h2] at hk; cases hk
 rw[if_neg h2] at hk
 by_cases h3:t.s=qm1
 ·rw[if_pos h3] at hk; cases hk
 simp only[bs] at h1 h2
 simp only[qm1] at h3
 refine Z_call (pf:=F254) rfl rfl ?_
 simp[F254,zp,zf,h1,h2,h3,qa7,qad,List.range_succ]
theorem qlg (h:T.drop i=t::r) (hb:t.bad≠0):Z tP (.call 254 [.ptr 0 0] (PS s T i 0 12))=some (.ret (qbk t.bad) (PS s T i t.at_ t.bad)):=by
 have zp:=qem (s:=s) (a:=0) (c:=12) h hb
 simp only[PS,pO] at zp
 refine Z_call (pf:=F254) rfl rfl ?_
 simp[F254,zp,qad,List.range_succ]
theorem qeE {w:ByteArray} {k:Nat} (h:qby w=some k):k=0\/k=1\/k=2:=by
 unfold qby at h
 split at h
 ·cases h; omega
 split at h
 ·cases h; omega
 split at h
 ·cases h; omega
 ·cases h
end
end Go.Pm
end SMb
section SMc
namespace Go.Pm
open F
set_option maxHeartbeats 4000000
attribute [local simp] qbd qbQ dkey
abbrev pgF:Fr:=[(0,.ptr 0 0),(2,.ptr 3 0),(3,.ptr 4 0)]
abbrev pgS (s:ByteArray) (T:List Tk) (i a c:Int) (q:Nat->N4):S:=PS s T i a c++[qsf,rob q]
section
variable {s:ByteArray} {T:List Tk} {i i' i2:Nat} {t:Tk} {r:List Tk} {a c:Int} {q:Nat->N4}
theorem qtd (h:T.drop i=t::r) (hb:t.bad=0) (hs:t.s=⟨#[]⟩):Z tP (.loop 3 F242l0 pgF (pgS s T i 0 12 q))=some (.out (.exit 0) (pgF++[(8,.bool false)]) (pgS s T i 0 12 q)):=by
 have zp:=qax (s:=s) (a:=0) (c:=12) h hb
 have hk:kindT t=0:=by rw[qb4 hb,qhe,if_pos hs]
 have k0:=(q 0).one
 have k1:=(q 1).one
 have k2:=(q 2).one
 have c0:=(q 0).cl
 have c1:=(q 1).cl
 have c2:=(q 2).cl
 simp only[PS,pO,ptk,ptD,hk] at zp
 rw[qac]
 simp[qae,qcC,zp,k0,k1,k2,c0,c1,c2,List.range_succ]
theorem qte (h:T.drop i=t::r) (hb:t.bad≠0) : ∃ fr,fr.get 1000000=none/\Z tP (.loop 3 F242l0 pgF (pgS s T i 0 12 q))=some (.out (.pan (.iface 1 (.int t.bad))) fr (pgS s T i t.at_ t.bad q)):=by
 have zp:=qem (s:=s) (a:=0) (c:=12) h hb
 simp only[PS,pO] at zp
 refine⟨(5,.ptr 0 0)::pgF,by simp[Fr.get],?_⟩
 rw[qac]
 simp[qae,qcC,zp,qad,List.range_succ]
theorem quX (h:T.drop i=t::r) (hb:t.bad=0) (hs:t.s≠⟨#[]⟩) (z:Z tP (.call 253 [.ptr 0 0,.str ⟨#[111,110]⟩] (PS s T i 0 12))=some (.ret (qbk c) (PS s T i' a c))) : ∃ fr,fr.get 1000000=none/\Z tP (.loop 3 F242l0 pgF (pgS s T i 0 12 q))=some (.out (.pan (.iface 1 (.int c))) fr (pgS s T i' a c q)):=by
 have zp:=qax (s:=s) (a:=0) (c:=12) h hb
 have hk:decide (kindT t=0)=false:=decide_eq_false (fun e=>hs ((qdX hb).mp e))
 simp only[PS,pO,ptk,ptD] at zp z
 refine⟨(9,.ptr 0 0)::(pgF++[(8,.bool true)]),by simp[Fr.get],?_⟩
 rw[qac]
 simp[qae,qcC,zp,z,hk,qad,List.range_succ]
theorem qnN (h:T.drop i=t::r) (hb:t.bad=0) (hs:t.s≠⟨#[]⟩) (z:Z tP (.call 253 [.ptr 0 0,.str ⟨#[111,110]⟩] (PS s T i 0 12))=some (.ret (.tup []) (PS s T i' 0 12)))
  (zh:Z tP (.call 254 [.ptr 0 0] (PS s T i' 0 12))=some (.ret (qbk c) (PS s T i2 a c))) : ∃ fr,fr.get 1000000=none/\Z tP (.loop 3 F242l0 pgF (pgS s T i 0 12 q))=some (.out (.pan (.iface 1 (.int c))) fr (pgS s T i2 a c q)):=by
 have zp:=qax (s:=s) (a:=0) (c:=12) h hb
 have hk:decide (kindT t=0)=false:=decide_eq_false (fun e=>hs ((qdX hb).mp e))
 simp only[PS,pO,ptk,ptD] at zp z zh
 refine⟨(11,.ptr 0 0)::pgF,by simp[Fr.get],?_⟩
 rw[qac]
 simp[qae,qcC,zp,z,zh,hk,qad,List.range_succ]
theorem qtf {t2:Tk} {r2:List Tk} {k:Nat} (h:T.drop i=t::r) (hb:t.bad=0) (hs:t.s≠⟨#[]⟩) (z:Z tP (.call 253 [.ptr 0 0,.str ⟨#[111,110]⟩] (PS s T i 0 12))=some (.ret (.tup []) (PS s T i' 0 12)))
  (h2:T.drop i'=t2::r2) (hb2:t2.bad=0) (hh:qby t2.s=some k) (hq:decide ((q k).k=0)=false) : ∃ fr,fr.get 1000000=none/\Z tP (.loop 3 F242l0 pgF (pgS s T i 0 12 q))=some (.out (.pan (.iface 1 (.int 4))) fr (pgS s T i' t2.at_ 4 q)):=by
 have zp:=qax (s:=s) (a:=0) (c:=12) h hb
 have zp2:=qax (s:=s) (a:=0) (c:=12) h2 hb2
 have zh:=qgh (s:=s) h2 hb2 hh
 have zf:=qfZ (s:=s) (T:=T) (i:=i') (a:=0) (c:=12) (k:=kindT t2) (x:=qe1 t2) (at_:=t2.at_) (v:=valT t2) (e:=t2.bad) (c':=4)
 have hk:decide (kindT t=0)=false:=decide_eq_false (fun e=>hs ((qdX hb).mp e))
 simp only[PS,pO,ptk,ptD] at zp zp2 z zh zf
 have k0:=(q 0).one
 have k1:=(q 1).one
 have k2:=(q 2).one
 have c0:=(q 0).cl
 have c1:=(q 1).cl
 have c2:=(q 2).cl
 refine⟨(21,ptk t2)::(20,.ptr 0 0)::(19,.ptr 0 0)::(pgF++[(4,.int k),(18,.bool true)]),by simp[Fr.get],?_⟩
 rw[qac]
 rcases qeE hh with rfl | rfl | rfl<;>simp[qae,qcC,zp,zp2,z,zh,zf,hk,hq,k0,k1,k2,c0,c1,c2,qad,List.range_succ]
theorem qtg {t2:Tk} {r2:List Tk} {k:Nat} (hT:T.length<2 ^ 40) (h:T.drop i=t::r) (hb:t.bad=0) (hs:t.s≠⟨#[]⟩) (z:Z tP (.call 253 [.ptr 0 0,.str ⟨#[111,110]⟩] (PS s T i 0 12))=some (.ret (.tup []) (PS s T i' 0 12)))
  (h2:T.drop i'=t2::r2) (hb2:t2.bad=0) (hh:qby t2.s=some k) (hq:decide ((q k).k=0)=true) (zb:Z tP (.call 256 [.ptr 0 0,.int 1] (PS s T ((i'+1:Nat):Int) 0 12))=some (.ret (qbk c) (PS s T i2 a c))) : ∃ fr,fr.get 1000000=none/\Z tP (.loop 3 F242l0 pgF (pgS s T i 0 12 q))=some (.out (.pan (.iface 1 (.int c))) fr (pgS s T i2 a c q)):=by
 have zp:=qax (s:=s) (a:=0) (c:=12) h hb
 have zh:=qgh (s:=s) h2 hb2 hh
 have hlt:=qib h2
 have w1:=qal ((i':Int)+1) (by omega)
 have hk:decide (kindT t=0)=false:=decide_eq_false (fun e=>hs ((qdX hb).mp e))
 simp only[PS,pO,ptk,ptD] at zp z zh zb
 simp only[Int.natCast_add,Int.cast_ofNat_Int] at zb
 have k0:=(q 0).one
 have k1:=(q 1).one
 have k2:=(q 2).one
 have c0:=(q 0).cl
 have c1:=(q 1).cl
 have c2:=(q 2).cl
 refine⟨(31,.ptr 0 0)::(30,.int k)::(pgF++[(4,.int k)]),by simp[Fr.get],?_⟩
 rw[qac]
 rcases qeE hh with rfl | rfl | rfl<;>simp[qae,qcC,zp,z,zh,zb,w1,hk,hq,k0,k1,k2,c0,c1,c2,qad,List.range_succ]
theorem quY {t2:Tk} {r2:List Tk} {k:Nat} {d:D} (hT:T.length<2 ^ 40) (h:T.drop i=t::r) (hb:t.bad=0) (hs:t.s≠⟨#[]⟩) (z:Z tP (.call 253 [.ptr 0 0,.str ⟨#[111,110]⟩] (PS s T i 0 12))=some (.ret (.tup []) (PS s T i' 0 12)))
  (h2:T.drop i'=t2::r2) (hb2:t2.bad=0) (hh:qby t2.s=some k) (hq:decide ((q k).k=0)=true) (od:V.one (.dat d)=true) (oc:V.cells (.dat d)=[.dat d]) (zb:Z tP (.call 256 [.ptr 0 0,.int 1] (PS s T ((i'+1:Nat):Int) 0 12))=some (.ret (nv 7 ⟨#[]⟩ d) (PS s T i2 0 12))):Z tP (.loop 3 F242l0 pgF (pgS s T i 0 12 q))=Z tP (.loop 3 F242l0 pgF (pgS s T i2 0 12 (qub q k ⟨7,0,⟨#[]⟩,d,od,oc⟩))):=by
 have zp:=qax (s:=s) (a:=0) (c:=12) h hb
 have zh:=qgh (s:=s) h2 hb2 hh
 have hlt:=qib h2
 have w1:=qal ((i':Int)+1) (by omega)
 have hk:decide (kindT t=0)=false:=decide_eq_false (fun e=>hs ((qdX hb).mp e))
 simp only[PS,pO,ptk,ptD] at zp z zh
 simp only[PS,pO,nv] at zb
 simp only[Int.natCast_add,Int.cast_ofNat_Int] at zb
 have k0:=(q 0).one
 have k1:=(q 1).one
 have k2:=(q 2).one
 have c0:=(q 0).cl
 have c1:=(q 1).cl
 have c2:=(q 2).cl
 conv=>lhs; rw[qac]
 rcases qeE hh with rfl | rfl | rfl<;>simp[qae,qcC,zp,z,zh,zb,od,oc,w1,hk,hq,k0,k1,k2,c0,c1,c2,qub,List.range_succ]<;>rfl
end
end Go.Pm
end SMc
section SMd
namespace Go.Pm
open F
set_option maxHeartbeats 2000000
theorem quZ {w:ByteArray} (h:w.size=0):w=⟨#[]⟩:=by
 have hb:byl w=[]:=List.eq_nil_of_length_eq_zero (by rw[qaG]; exact h)
 have:=qcA w
 rw[hb] at this
 exact this.symm
section
variable {s:ByteArray} {T:List Tk}
theorem qkh (hw:WfQ T) (hT:T.length<2 ^ 30) (hP : ∀ t∈T,TokP t) : ∀ (n:Nat) (hh:Nat->Option Ss) (i:Nat) (t:Tk) (r:List Tk) (x:Rz (Nat->Option Ss)),T.drop i=t::r->qcm 12 2 4 true true false n hh (t::r)=some x->match x with
  | .ok h' _ => ∃ i':Nat,Z tP (.loop 3 F242l0 pgF (pgS s T i 0 12 fun k=>qe3 (hh k)))=some (.out (.exit 0) (pgF++[(8,.bool false)]) (pgS s T i' 0 12 fun k=>qe3 (h' k)))
  | .er a c => ∃ (i':Nat) (fr:Fr) (q':Nat->N4),fr.get 1000000=none/\Z tP (.loop 3 F242l0 pgF (pgS s T i 0 12 fun k=>qe3 (hh k)))=some (.out (.pan (.iface 1 (.int c))) fr (pgS s T i' a c q'))
 | 0,hh,i,t,r,x,_,hx=>by simp[qcm] at hx
 | n+1,hh,i,t,r,x,h,hx=>by
  rw[qcm] at hx
  by_cases hb:t.bad=0
  case neg=>
   have hnx:nx (t::r)=none:=if_neg hb
   rw[hnx] at hx
   simp only[failP,if_neg hb,Option.some.injEq] at hx
   subst hx
   obtain⟨fr,f1,f2⟩:=qte (s:=s) (q:=fun k=>qe3 (hh k)) h hb
   exact⟨i,fr,_,f1,f2⟩
  have hnx:nx (t::r)=some t.s:=if_pos hb
  rw[hnx] at hx
  simp only at hx
  by_cases h0:t.s.size=0
  ·rw[if_pos h0] at hx
   simp only[Option.some.injEq] at hx
   subst hx
   exact⟨i,qtd h hb (quZ h0)⟩
  rw[if_neg h0] at hx
  have hne:t.s≠⟨#[]⟩:=fun e=>h0 (by rw[e]; rfl)
  have ho:=qcq (s:=s) hw (by omega) h (x:=bs [111,110]) (by decide)
  cases hq:qav 12 (bs [111,110]) (t::r) with
  | er a c=>
   rw[hq] at hx ho
   simp only[Option.some.injEq] at hx
   subst hx
   obtain⟨i',z⟩:=ho
   obtain⟨fr,f1,f2⟩:=quX (q:=fun k=>qe3 (hh k)) h hb hne z
   exact⟨i',fr,_,f1,f2⟩
  | ok u r1=>
   rw[hq] at hx ho
   simp only at hx
   obtain⟨i1,a1,a2,z⟩:=ho
   obtain⟨t2,r2,rfl⟩:=qaU a2
   by_cases hb2:t2.bad=0
   case neg=>
    have hnx2:nx (t2::r2)=none:=if_neg hb2
    rw[hnx2] at hx
    simp only[failP,if_neg hb2,Option.some.injEq] at hx
    subst hx
    obtain⟨fr,f1,f2⟩:=qnN (q:=fun k=>qe3 (hh k)) h hb hne z (qlg a1 hb2)
    exact⟨i1,fr,_,f1,f2⟩
   have hnx2:nx (t2::r2)=some t2.s:=if_pos hb2
   rw[hnx2] at hx
   simp only at hx
   cases hk:qby t2.s with
   | none=>
    rw[hk] at hx
    simp only[failP,if_pos hb2,Option.some.injEq] at hx
    subst hx
    obtain⟨fr,f1,f2⟩:=qnN (q:=fun k=>qe3 (hh k)) h hb hne z (qmS a1 hb2 hk)
    exact⟨i1,fr,_,f1,f2⟩
   | some k=>
    rw[hk] at hx
    simp only at hx
    by_cases hd:(hh k).isSome=true
    ·rw[if_pos hd] at hx
     simp only[failP,if_pos hb2,Option.some.injEq] at hx
     subst hx
     obtain⟨b,hbb⟩:=Option.isSome_iff_exists.1 hd
     obtain⟨fr,f1,f2⟩:=qtf (s:=s) (q:=fun k=>qe3 (hh k)) h hb hne z a1 hb2 hk (decide_eq_false (by simp only[hbb,qe3]; decide))
     exact⟨i1,fr,_,f1,f2⟩
    ·rw[if_neg hd] at hx
     have hno:hh k=none:=by simpa using hd
     have hq0:decide ((qe3 (hh k)).k=0)=true:=decide_eq_true (by rw[hno]; rfl)
     obtain⟨n1,n2⟩:=hw.next a1 hb2 (fun e=>by rw[e,show qby ⟨#[]⟩=none by decide] at hk; cases hk)
     obtain⟨t3,r3,rfl⟩:=qaU n2
     simp only[List.tail_cons] at hx
     cases hq3:qaR 12 2 true true false n 1 (t3::r3) with
     | none=>rw[hq3] at hx; cases hx
     | some y=>
      rw[hq3] at hx
      have hbk:=(qp8 (s:=s) hw hT hP n).2.1 1 (i1+1) t3 r3 y n1 hq3
      cases y with
      | er a c=>
       simp only[Option.some.injEq] at hx
       subst hx
       obtain⟨i2,z2⟩:=hbk
       obtain⟨fr,f1,f2⟩:=qtg (q:=fun k=>qe3 (hh k)) (by omega) h hb hne z a1 hb2 hk hq0 z2
       exact⟨i2,fr,_,f1,f2⟩
      | ok b r4=>
       simp only at hx
       obtain⟨i2,b1,b2,z2⟩:=hbk
       obtain⟨t4,r5,rfl⟩:=qaU b2
       have zs:=quY (q:=fun k=>qe3 (hh k)) (by omega) h hb hne z a1 hb2 hk hq0 (by simp) (by simp) z2
       have hu:qub (fun k=>qe3 (hh k)) k ⟨7,0,⟨#[]⟩,kd false b.fo.len b.fo.cells,by simp,by simp⟩=fun j=>qe3 (if j=k then some b else hh j):=by
        funext j
        unfold qub
        split<;>rfl
       rw[hu] at zs
       have:=qkh hw hT hP n (fun j=>if j=k then some b else hh j) i2 t4 r5 x b1 hx
       cases x with
       | ok h' q=>
        obtain⟨i3,e1⟩:=this
        exact⟨i3,zs.trans e1⟩
       | er a c=>
        obtain⟨i3,fr,q',e1,e2⟩:=this
        exact⟨i3,fr,q',e1,zs.trans e2⟩
end
end Go.Pm
end SMd
section SMe
namespace Go.Pm
open F
set_option maxHeartbeats 4000000
attribute [local simp] qbd qbQ dkey
section
variable {s:ByteArray} {T:List Tk} {i':Nat} {q:Nat->N4} {a c:Int}
theorem qmw (z:Z tP (.loop 3 F242l0 pgF (pgS s T 0 0 12 fun k=>qe3 none))=some (.out (.exit 0) (pgF++[(8,.bool false)]) (pgS s T i' 0 12 q))):Z tP (.call 242 [.ptr 0 0] (PS s T 0 0 12))=some (.ret (qpR q) (PS s T i' 0 12)):=by
 have k0:=(q 0).one
 have k1:=(q 1).one
 have k2:=(q 2).one
 have c0:=(q 0).cl
 have c1:=(q 1).cl
 have c2:=(q 2).cl
 simp only[pgS,PS,pO,rob,qe3,List.cons_append,List.nil_append] at z
 refine Z_call (pf:=F242) rfl rfl ?_
 simp[F242,z,k0,k1,k2,c0,c1,c2,List.range_succ]
theorem qk0 {fr:Fr} (hf:fr.get 1000000=none) (z:Z tP (.loop 3 F242l0 pgF (pgS s T 0 0 12 fun k=>qe3 none))=some (.out (.pan (.iface 1 (.int c))) fr (pgS s T i' a c q))):Z tP (.call 242 [.ptr 0 0] (PS s T 0 0 12))=some (.ret (qbk c) (PS s T i' a c)):=by
 simp only[pgS,PS,pO,rob,qe3,List.cons_append,List.nil_append] at z
 refine Z_call (pf:=F242) rfl rfl ?_
 simp[F242,z,hf,List.range_succ]
end
end Go.Pm
end SMe
section SMf
namespace Go.Pm
open F
set_option maxHeartbeats 4000000
attribute [local simp] qbd qbQ dkey
section
variable {s:ByteArray} {T:List Tk} {i':Nat} {q:Nat->N4} {a c:Int}
theorem qop (h:(2000:Int)<s.size):Z tP (.call 228 [.str s] [])=some (.ret (.tup [qpR fun _=>qe3 none,.int 2000,.int 2]) []):=by
 refine Z_call (pf:=F228) rfl rfl ?_
 simp[F228,h,V.len,qe3,List.range_succ]
abbrev dS (s:ByteArray) (T:List Tk) (q:Nat->N4) (x y:Int) (i a c:Int):S:=[.cells [.ptr 4 0],rob q,.cells [.int x],.cells [.int y],pO s 5 (.gsl (ptC T) T.length 5 6) i a c,.map kwM,.tip (ptC T).length]
theorem qoq {x y i a c:Int}:Z tP (.dcall 240 [.dat (.lit .nilIface),.ptr 0 0,.ptr 1 0,.ptr 2 0,.ptr 3 0] (dS s T q x y i a c))=some (.ret (.dat (.lit undef)) (dS s T q x y i a c)):=by
 have k0:=(q 0).one
 have k1:=(q 1).one
 have k2:=(q 2).one
 have c0:=(q 0).cl
 have c1:=(q 1).cl
 have c2:=(q 2).cl
 refine qm8 (pf:=F240) rfl ?_
 have hfl:F240.body.flat=true:=rfl
 simp only[qbn]
 rw[if_pos ⟨rfl,rfl,rfl,hfl,.inl rfl⟩]
 simp[F240,qi6,k0,k1,k2,c0,c1,c2,List.range_succ]
theorem qpU (h : ¬ (2000:Int)<s.size) (zt:Z tP (.call 249 [.yld 0,.ptr 1 0] (TT0 s))=some (.ret (.tup []) (TT1 s (ptC T) T.length)))
  (z:Z tP (.call 242 [.ptr 0 0] (PS s T 0 0 12))=some (.ret (qpR q) (PS s T i' 0 12))):Z tP (.call 228 [.str s] [])=some (.ret (.tup [qpR q,.int 0,.int 0]) []):=by
 have z1:=qic s
 have z2:=qkd s
 have k0:=(q 0).one
 have k1:=(q 1).one
 have k2:=(q 2).one
 have c0:=(q 0).cl
 have c1:=(q 1).cl
 have c2:=(q 2).cl
 simp only[pO] at z2
 simp only[TT0,TT1,pO] at zt
 simp only[PS,pO] at z
 have zd:=qoq (s:=s) (T:=T) (q:=q) (x:=0) (y:=0) (i:=i') (a:=0) (c:=12)
 simp only[dS,pO,rob] at zd
 refine Z_call (pf:=F228) rfl rfl ?_
 simp[F228,z1,z2,zt,z,zd,h,V.len,k0,k1,k2,c0,c1,c2,List.range_succ]
end
end Go.Pm
end SMf
section SMg
namespace Go.Pm
open F
set_option maxHeartbeats 4000000
attribute [local simp] qbd qbQ dkey
section
variable {s:ByteArray} {T:List Tk} {i':Nat} {a c:Int}
abbrev q0:Nat->N4:=fun _=>qe3 none
theorem qnq {i a c:Int}:Z tP (.dcall 240 [.iface 1 (.int c),.ptr 0 0,.ptr 1 0,.ptr 2 0,.ptr 3 0] (dS s T q0 0 0 i a c))=some (.ret (.dat (.lit undef)) (dS s T q0 a c i a c)):=by
 refine qm8 (pf:=F240) rfl ?_
 have hfl:F240.body.flat=true:=rfl
 simp only[qbn]
 rw[if_pos ⟨rfl,rfl,rfl,hfl,.inl rfl⟩]
 simp[F240,qi6,qe3,qc6,qa8,List.range_succ]
theorem qnr (h : ¬ (2000:Int)<s.size) (zt:Z tP (.call 249 [.yld 0,.ptr 1 0] (TT0 s))=some (.ret (.tup []) (TT1 s (ptC T) T.length)))
  (z:Z tP (.call 242 [.ptr 0 0] (PS s T 0 0 12))=some (.ret (qbk c) (PS s T i' a c))):Z tP (.call 228 [.str s] [])=some (.ret (.tup [qpR fun _=>qe3 none,.int a,.int c]) []):=by
 have z1:=qic s
 have z2:=qkd s
 simp only[pO] at z2
 simp only[TT0,TT1,pO] at zt
 simp only[PS,pO] at z
 have zd:=qnq (s:=s) (T:=T) (i:=i') (a:=a) (c:=c)
 simp only[dS,pO,rob,q0,qe3] at zd
 refine Z_call (pf:=F228) rfl rfl ?_
 simp[F228,z1,z2,zt,z,zd,h,V.len,qe3,qad,V.isNilIf,List.range_succ]
end
end Go.Pm
end SMg
section SMh
namespace Go.Pm
open F
set_option maxHeartbeats 1000000
theorem qkg (s:ByteArray) : ∀ n i,(qbN 12 2 6 s n i).length<=n+1
 | 0,i=>by simp[qbN]
 | n+1,i=>by
  rw[qbN]
  have:=qkg s n
  split
  ·simp
  ·simp only[List.length_cons]; have:=this ((tokAt 12 2 6 s (qg3 s (s.size-i) false i)).at_+(tokAt 12 2 6 s (qg3 s (s.size-i) false i)).s.size); omega
theorem qpm (s:ByteArray) : ∀ n i,qbN 12 2 6 s n i≠[]
 | 0,i=>by simp[qbN]
 | n+1,i=>by rw[qbN]; split<;>simp
theorem qnL (s:ByteArray) (hP : ∀ t∈qhR s,TokP t):Z tP (.call 228 [.str s] [])=some (.ret (qiE true true false s) []):=by
 unfold qiE
 by_cases hbig:2000<s.size
 ·have:qc7 true true false s = .er 2000 2:=by rw[qc7,if_pos hbig]
  rw[this]
  exact qop (by omega)
 ·have hlen:=qkg s (s.size+1) 0
  have hT:(qhR s).length<2 ^ 30:=by show (qbN 12 2 6 s (s.size+1) 0).length<_; omega
  have hw:WfQ (qhR s):=qor s _ 0
  have zt:=qos s (by omega)
  obtain⟨t,r,htr⟩:=qaU (show qhR s≠[] from qpm s _ 0)
  have hv:=qed (f:=true) (fi:=true) (fb:=false) hbig
  have hp:=hv
  rw[htr] at hp
  have:=qkh (s:=s) hw hT hP _ (fun _=>none) 0 t r _ (by rw[List.drop_zero]; exact htr) hp
  cases hx:qc7 true true false s with
  | ok h' ts=>
   rw[hx] at this
   obtain⟨i',z⟩:=this
   exact qpU (by omega) zt (qmw z)
  | er a c=>
   rw[hx] at this
   obtain⟨i',fr,q',f1,z⟩:=this
   exact qnr (by omega) zt (qk0 f1 z)
theorem qnM (s:ByteArray) (hl:s.size<2 ^ 30) : ∀ n i,∀ t∈qbN 12 2 6 s n i,TokP t
 | 0,i,t,h=>by
  simp only[qbN,List.mem_singleton] at h
  rw[h]
  exact⟨fun _=>show (⟨#[]⟩:ByteArray)≠qS by decide,fun _ h=>(by cases h)⟩
 | n+1,i,t,h=>by
  have one : ∀ j,TokP (tokAt 12 2 6 s j):=fun j=>by
   by_cases hj:j<s.size
   ·exact qrP hl hj
   ·have hd:(byl s).drop j=[]:=List.drop_eq_nil_of_le (by rw[qaG]; omega)
    rw[qdg,hd]
    exact⟨fun _=>show (⟨#[]⟩:ByteArray)≠qS by decide,fun _ h=>(by cases h)⟩
  rw[qbN] at h
  split at h
  ·rw[List.mem_singleton.1 h]; exact one _
  ·rcases List.mem_cons.1 h with h | h
   ·rw[h]; exact one _
   ·exact qnM s hl n _ t h
theorem qpn (s:ByteArray) (hl:s.size<2 ^ 30):Z tP (.call 228 [.str s] [])=some (.ret (qiE true true false s) []):=qnL s (qnM s hl _ 0)
end Go.Pm
end SMh
section SUh
namespace Go.Pm
open F
set_option maxHeartbeats 4000000
abbrev Sub (p q:Nat->Option PFun):Prop := ∀ f pf,p f=some pf->q f=some pf
structure Has (prog:Nat->Option PFun):Prop where
 b:Sub qbo prog
 r:Sub tR prog
 s:Sub tS prog
 p:Sub tP prog
 q:Sub tQ prog
 e:Sub tE prog
 k:Sub tK prog
section
variable {prog:Nat->Option PFun} (H:Has prog)
include H
theorem qlC (s:ByteArray) (hl:s.size<2 ^ 30):Z prog (.call 228 [.str s] [])=some (.ret (qiE true true false s) []):=qmi H.p (qpn s hl)
end
def hdO:Option Ss->Hd
 | none => .none
 | some b => .some false b
theorem qqS (o:Option Ss):(qe3 o).k=(hdO o).nd.k/\(qe3 o).n=(hdO o).nd.n/\(qe3 o).s=(hdO o).nd.s/\(qe3 o).d=(hdO o).nd.d:=by cases o<;>exact⟨rfl,rfl,rfl,rfl⟩
theorem qqT (h:Nat->Option Ss):qpR (fun k=>qe3 (h k)) = .dat (ru (hdO (h 0)).nd (hdO (h 1)).nd (hdO (h 2)).nd):=by
 obtain⟨a1,a2,a3,a4⟩:=qqS (h 0)
 obtain⟨b1,b2,b3,b4⟩:=qqS (h 1)
 obtain⟨c1,c2,c3,c4⟩:=qqS (h 2)
 simp only[qpR,ru,a1,a2,a3,a4,b1,b2,b3,b4,c1,c2,c3,c4]
theorem qcM (full:Bool) : ∀ (e:E) p,e.size<=(e.tx full p).length
 | .int n,p | .bool n,p | .var s,p | .name s,p=>by simp[E.tx]
 | .field _ s e,p=>by have:=qcM full e 1; simp[E.tx]; omega
 | .un _ neg e,p=>by
  have:=qcM full e (qdI neg)
  have h : ∀ b l,l.length<=(qb7 b l).length:=fun b l=>by cases b<;>simp[qb7]; omega
  have h2:=h (full||decide (qdI neg<p)) (ustr neg::e.tx full (qdI neg))
  simp only[E.tx,qlf]
  simp only[List.length_cons] at h2
  omega
 | .bin _ o a b,p=>by
  have h1:=qcM full a o.left
  have h3:=qcM full b (o.prec+1)
  have h : ∀ b l,l.length<=(qb7 b l).length:=fun b l=>by cases b<;>simp[qb7]; omega
  have h2:=h (full||decide (o.prec<p)) (a.tx full o.left++o.str::b.tx full (o.prec+1))
  simp only[E.tx,qgP]
  simp only[List.length_append,List.length_cons] at h2
  omega
theorem qda : ∀ s:Ss,(s.good none\/s.good (some 1)\/s.good (some 2))->s.fo.size<=s.tx.length
 | .nil,_=>by simp[Ss.fo]
 | .assign _ s e r,h=>by
  have hr:r.good none:=by rcases h with h | h | h<;>simp[Ss.good] at h<;>exact h.2.2
  have h1:=qda r (.inl hr); have h2:=qcM false e 1
  simp[Ss.fo,Ss.tx,qdv]; omega
 | .store _ s a b r,h=>by
  have hr:r.good none:=by rcases h with h | h | h<;>simp[Ss.good] at h<;>exact h.2.2.2
  have h1:=qda r (.inl hr); have h2:=qcM false a 1; have h3:=qcM false b 1
  simp[Ss.fo,Ss.tx,qdv]; omega
 | .effect _ a b r,h=>by
  have hr:r.good none:=by rcases h with h | h | h<;>simp[Ss.good] at h<;>exact h.2.2
  have h1:=qda r (.inl hr); have h2:=qcM false a 1; have h3:=qcM false b 1
  simp[Ss.fo,Ss.tx,qdv]; omega
 | .stop r,h=>by
  have hr:r.good none:=by rcases h with h | h | h<;>simp[Ss.good] at h<;>exact h
  have h1:=qda r (.inl hr)
  simp[Ss.fo,Ss.tx]; omega
 | .cond w _ c b r,h=>by
  have hr:b.good (some (if w then 1 else 2))/\r.good none:=by rcases h with h | h | h<;>simp[Ss.good] at h<;>exact h.2
  have h1:=qda r (.inl hr.2); have h2:=qcM false c 1
  have h3:=qda b (by cases w; exact .inr (.inr hr.1); exact .inr (.inl hr.1))
  simp[Ss.fo,Ss.tx,qdv]; omega
 | .block _ b r,h=>by
  have key:b.good none/\(r.good (some 0)\/r.good (some 1)):=by
   rcases h with h | h | h
   ·obtain⟨n,hn,_⟩:=h; cases hn
   ·obtain⟨n,hn,h1,h2⟩:=h; simp at hn; subst hn; exact⟨h1,.inl h2⟩
   ·obtain⟨n,hn,h1,h2⟩:=h; simp at hn; subst hn; exact⟨h1,.inr h2⟩
  obtain⟨hb,hr⟩:=key
  have h1:=qda b (.inl hb)
  have hr0:qdw r=false->r.fo.size<=1:=fun he=>by
   rcases hr with hr | hr
   ·cases r with
    | nil=>simp[Ss.fo]
    | block _ _ _=>obtain⟨n,hn,_⟩:=hr; simp at hn
    | _=>simp[Ss.good] at hr
   ·obtain⟨fb,b1,rfl,_⟩:=qld hr
    cases b1<;>simp[qdw] at he
    simp[Ss.fo]
  have hr1:qdw r=true->r.fo.size<=r.tx.length:=fun he=>by
   rcases hr with hr | hr
   ·cases r with
    | nil=>simp[qdw] at he
    | block _ _ _=>obtain⟨n,hn,_⟩:=hr; simp at hn
    | _=>simp[Ss.good] at hr
   ·exact qda r (.inr (.inl hr))
  cases he:qdw r with
  | true=>
   have:=hr1 he
   simp[Ss.fo,Ss.tx,he]; omega
  | false=>
   have:=hr0 he
   simp[Ss.fo,Ss.tx,he]; omega
theorem qqU {h:Nat->Option Ss} (hg : ∀ k,qct (h k)) (hl:(qah false (qbZ h)).length<=2000) : ∀ k,k<3->(hdO (h k)).nd.ks.size<=2000:=by
 intro k hk
 cases hb:h k with
 | none=>simp[hdO,Hd.ks]
 | some b=>
  have hgood:=(hg k b hb).1
  have h1:=qda b (.inl hgood)
  have h2:=qeX (qb6 k (some b)) false (fun t ht=>by
   have hcl:=(qn0 (k:=k) (h:=some b) (fun x hx=>by cases hx; exact hg k b hb)).ok
   exact qfQ (qiF hcl t ht))
  have h3:=qgR h
  have h4:(qah false (qb6 k (some b))).length<=(qah false (qbZ h)).length:=by
   rw[h3]
   obtain rfl | rfl | rfl:k=0\/k=1\/k=2:=by omega
   all_goals rw[hb]; omega
  have h5:b.tx.length<=(qb6 k (some b)).length:=by simp[qb6]; omega
  show b.fo.size<=2000
  omega
end Go.Pm
end SUh
section SUj
namespace Go.Pm
open F
set_option maxHeartbeats 8000000
structure HasD (prog:Nat->Option PFun):Prop extends Has prog where
 kd:Sub tKd prog
section
variable {prog:Nat->Option PFun} (H:Has prog)
include H
theorem qtZ {s:ByteArray} (hs:s.size<2 ^ 30) {h:Nat->Option Ss} {r:List Tk} (hp:qc7 true true false s = .ok h r) : ∃ (A B C:Nd),A=(hdO (h 0)).nd/\B=(hdO (h 1)).nd/\C=(hdO (h 2)).nd/\Z prog (.call 228 [.str s] [])=some (.ret (.tup [.dat (ru A B C),.int 0,.int 0]) []):=by
 refine⟨_,_,_,rfl,rfl,rfl,?_⟩
 have z:=qlC H s hs
 rw[qiE,hp] at z
 simp only[qqT] at z
 exact z
theorem qwq {s:ByteArray} (hs:s.size<2 ^ 30) {a c:Nat} (hp:qc7 true true false s = .er a c):c≠0/\Z prog (.call 228 [.str s] [])=some (.ret (.tup [.dat (ru Hd.none.nd Hd.none.nd Hd.none.nd),.int a,.int c]) []):=by
 refine⟨qku hp,?_⟩
 have z:=qlC H s hs
 rw[qiE,hp] at z
 exact z
end
end Go.Pm
end SUj
section SWa
namespace Go.Pm
theorem qcP (f:Bool) : ∀ (e:E) {r r':Fo},r.eqv r'=true->((e.fl f).fo r).eqv (e.fo r')=true
 | .int n,r,r',h=>by simp[E.fl,E.fo,Fo.eqv,h]
 | .bool n,r,r',h=>by simp[E.fl,E.fo,Fo.eqv,h]
 | .var s,r,r',h=>by simp[E.fl,E.fo,Fo.eqv,h]
 | .name s,r,r',h=>by simp[E.fl,E.fo,Fo.eqv,h]
 | .field _ s e,r,r',h=>by simp[E.fl,E.fo,Fo.eqv,h,qcP f e (r := .nil) (r' := .nil) rfl]
 | .un _ n e,r,r',h=>by simp[E.fl,E.fo,Fo.eqv,h,qcP f e (r := .nil) (r' := .nil) rfl]
 | .bin _ o a b,r,r',h=>by simp[E.fl,E.fo,Fo.eqv,h,qcP f a (qcP f b (r := .nil) (r' := .nil) rfl)]
end Go.Pm
end SWa
section SWd
namespace Go.Pm
theorem qoR (k:Nat) (h:Option Ss):qmy false (qb6 k h)=false:=by
 cases h with
 | none=>rfl
 | some b=>exact qhM false (onS::qca k::bs [123]::b.tx)
theorem qft (k:Nat) (h:Option Ss) (r:List ByteArray):qah false (qb6 k h++r)=qah false (qb6 k h)++qah false r:=by rw[qd6,qoR]
def qbT (h:Nat->Option Ss):List ByteArray:=qb6 2 (h 2)++(qb6 1 (h 1)++qb6 0 (h 0))
theorem qlw {h:Nat->Option Ss} (hg : ∀ k,qct (h k)):Cl (qbT h):=qba (qn0 (hg 2)) (qba (qn0 (hg 1)) (qn0 (hg 0)))
theorem qi5 (h:Nat->Option Ss):qah false (qbT h)=qah false (qb6 2 (h 2))++(qah false (qb6 1 (h 1))++qah false (qb6 0 (h 0))):=by rw[qbT,qft,qft]
theorem qoS (h:Nat->Option Ss) (t:ByteArray) (ht:(qbT h).getLast?=some t):t=bs [125]:=by
 have key : ∀ (k:Nat) (o:Option Ss) (l:List ByteArray),(∀ u,l.getLast?=some u->u=bs [125]) -> ∀ u,(l++qb6 k o).getLast?=some u->u=bs [125]:=by
  intro k o l hl u hu
  cases o with
  | none=>exact hl u (by simpa [qb6] using hu)
  | some b=>
   rw[show l++qb6 k (some b)=(l++onS::qca k::bs [123]::b.tx)++[bs [125]] by simp[qb6],List.getLast?_concat] at hu
   exact (Option.some.inj hu).symm
 rw[qbT,<- List.append_assoc] at ht
 refine key 0 (h 0) _ (key 1 (h 1) _ (key 2 (h 2) [] (fun u hu=>by cases hu))) t ?_
 simpa using ht
theorem qsD : ∀ (ts:List ByteArray) (p:Bool),Ok2 ts -> ∃ l:List (List UInt8 × ByteArray),OkG l/\l.map (·.2)=ts/\qdM l=qah p ts/\(∀ q,l.head?=some q -> ∃ t,ts.head?=some t/\q=(gap p t,t)):=by
 intro ts
 induction ts with
 | nil=>intro p _; exact⟨[],trivial,rfl,rfl,fun q h=>by cases h⟩
 | cons t ts ih=>
  intro p ho
  obtain⟨l,l1,l2,l3,l4⟩:=ih (qbb p t) ho.2.2
  have hwg:qmj (gap p t):=by
   unfold gap
   split
   ·exact qjO (.inl rfl)
   ·exact qg0
  refine⟨(gap p t,t)::l,⟨hwg,ho.1,fun q hq=>?_,l1⟩,by simp[l2],by simp[qdM,qah,l3],fun q hq=>⟨t,rfl,by cases hq; rfl⟩⟩
  obtain⟨u,hu,rfl⟩:=l4 q hq
  have hadj:=ho.2.1 u hu
  simp only
  by_cases hgap:(qbb p t&&qai qar u)=true
  ·left
   exact⟨32,[],by simp[gap,hgap],.inl rfl⟩
  ·right
   have hgap':(qbb p t&&qai qar u)=false:=by simpa using hgap
   refine⟨by simp[gap,hgap'],?_,hadj⟩
   rw[qlr ho.1 false p]
   exact hgap'
theorem qoT {h:Nat->Option Ss} (hg : ∀ k,qct (h k)) (tail:List UInt8) (ht : ∀ d r,tail=d::r->d=111) (hne:2<=tail.length) :
  ∃ (A:List Tk) (m:Nat),qhR (bs (qah false (qbT h)++tail))=A++qjE 12 2 6 (m+tail.length+1) (qah false (qbT h)).length tail /\ ∀ r,Hx (qbT h) (A++r) r:=by
 obtain⟨l,l1,l2,l3,-⟩:=qsD (qbT h) false (qlw hg).ok
 have hlen:l.length<=(qdM l).length:=by
  have hpos : ∀ t∈qbT h,t.size≠0:=fun t ht=>qfQ (qiF (qlw hg).ok t ht)
  have:=qeX (qbT h) false hpos
  rw[l3,show l.length=(qbT h).length by rw[<- l2,List.length_map]]
  exact this
 obtain⟨A,e1,e2⟩:=qg1 12 2 6 l ((qah false (qbT h)++tail).length+1) 0 tail l1 (fun p hp=>by
  have hb:p.2=bs [125]:=qoS h p.2 (by rw[<- l2,List.getLast?_map,hp]; rfl)
  rw[hb,qaP]
  cases tail with
  | nil=>trivial
  | cons d r=>
   obtain rfl:=ht d r rfl
   intro _
   decide) (by rw[<- l3,List.length_append]; omega)
 refine⟨A,(qdM l).length-l.length,?_,by rw[<- l2]; exact e2⟩
 show qbN 12 2 6 _ _ 0=_
 rw[qgQ,List.drop_zero,qaP,qao,<- l3]
 rw[<- l3] at e1
 rw[e1]
 congr 2
 ·rw[List.length_append]; omega
 ·omega
section
variable {f fi fb:Bool}
theorem qlx {k:Nat} {o:Option Ss} {h0:Nat->Option Ss} (hk:k<3) (h0k:h0 k=none) (hgk:qct o) {ts m:List Tk} (hx:Hx (qb6 k o) ts m) {y} (hy : ∃ n,qcm 12 2 4 f fi fb n (fun i=>if i=k then o.map (·.fl f fi fb) else h0 i) m=some y) :
  ∃ n,qcm 12 2 4 f fi fb n h0 ts=some y:=by
 cases o with
 | none=>
  cases hx
  obtain⟨n,hn⟩:=hy
  refine⟨n,?_⟩
  rw[<- hn]
  congr 1
  funext i
  split
  ·rename_i e; rw[e,h0k]; rfl
  ·rfl
 | some b=>exact rbH hk h0k (hgk b rfl).1 (hgk b rfl).2 hx hy
def qt1 (f fi fb:Bool) (h:Nat->Option Ss):Nat->Option Ss:=fun i=>if i=0 then (h 0).map (·.fl f fi fb) else if i=1 then (h 1).map (·.fl f fi fb) else if i=2 then (h 2).map (·.fl f fi fb) else none
theorem qnh {h:Nat->Option Ss} (hg : ∀ k,qct (h k)) {ts mid:List Tk} (hx:Hx (qbT h) ts mid) {y} (hy : ∃ n,qcm 12 2 4 f fi fb n (qt1 f fi fb h) mid=some y) :
  ∃ n,qcm 12 2 4 f fi fb n (fun _=>none) ts=some y:=by
 obtain⟨m1,x1,hx⟩:=hx_app.1 hx
 obtain⟨m2,x2,x3⟩:=hx_app.1 hx
 exact qlx (by omega) rfl (hg 2) x1 (qlx (by omega) (by simp) (hg 1) x2 (qlx (by omega) (by simp) (hg 0) x3 hy))
theorem qsE (i n:Nat) : ∀ k,k<3 -> ∃ t r,qjE 12 2 6 (n+3) i (qah false (qb6 k (some (.stop .nil))))=⟨i,onS,0⟩::⟨i+3,qca k,0⟩::t::r
 | 0,_=>⟨_,_,rfl⟩
 | 1,_=>⟨_,_,rfl⟩
 | 2,_=>⟨_,_,rfl⟩
 | _+3,h=>by omega
theorem qqI {h:Nat->Option Ss} (hg : ∀ k,qct (h k)) {k:Nat} (hk:k<3) (hs:(h k).isSome) (hsz:(qah false (qbT h)).length<=1900) :
  qc7 f fi fb (bs (qah false (qbT h)++qah false (qb6 k (some (.stop .nil))))) = .er ((qah false (qbT h)).length+3) 4:=by
 have hl:(qah false (qb6 k (some (.stop .nil)))).length<=20/\2<=(qah false (qb6 k (some (.stop .nil)))).length /\ ∀ d r,qah false (qb6 k (some (.stop .nil)))=d::r->d=111:=by
  obtain rfl | rfl | rfl:k=0\/k=1\/k=2:=by omega
  all_goals exact⟨by decide,by decide,fun d r e=>(List.cons.inj e).1.symm⟩
 obtain⟨A,m,e1,e2⟩:=qoT hg _ hl.2.2 hl.2.1
 refine qhN (by rw[qao,List.length_append]; omega) ?_
 rw[e1]
 refine qnh hg (e2 _) ⟨1,?_⟩
 obtain⟨j,hj⟩ : ∃ j,m+(qah false (qb6 k (some (.stop .nil)))).length+1=j+3:=⟨m+(qah false (qb6 k (some (.stop .nil)))).length-2,by omega⟩
 rw[hj]
 obtain⟨t,r,hlx⟩:=qsE (qah false (qbT h)).length j k hk
 rw[hlx,qcm]
 simp only[nx,if_true]
 rw[if_neg (by decide),show qav 12 (bs [111,110]) (⟨(qah false (qbT h)).length,onS,0⟩::⟨(qah false (qbT h)).length+3,qca k,0⟩::t::r) = .ok () (⟨(qah false (qbT h)).length+3,qca k,0⟩::t::r) from rfl]
 simp only[nx,if_true,qfK hk]
 rw[if_pos (by
  unfold qt1
  obtain rfl | rfl | rfl:k=0\/k=1\/k=2:=by omega
  all_goals simpa using hs)]
 rfl
theorem qni {h:Nat->Option Ss} {e:Nat} : ∃ n,qcm 12 2 4 f fi fb n h [⟨e,⟨#[]⟩,0⟩]=some (.ok h [⟨e,⟨#[]⟩,0⟩]):=⟨1,by rw[qcm]; rfl⟩
theorem qnj {h:Nat->Option Ss} (hg : ∀ k,qct (h k)) (hsz:(qah false (qbT h)).length<=1900) : ∃ r,qc7 f fi fb (bs (qah false (qbT h))) = .ok (qt1 f fi fb h) r:=by
 obtain⟨e,hx⟩:=qkE (qlw hg).ok
 exact⟨_,qhN (by rw[qao]; omega) (qnh hg hx qni)⟩
theorem qqJ {h:Nat->Option Ss} (hg : ∀ k,qct (h k)) {k:Nat} (hk:k<3) (hs:h k=none) (hsz:(qah false (qbT h)).length<=1900) :
  ∃ h' r,qc7 f fi fb (bs (qah false (qbT h)++qah false (qb6 k (some (.stop .nil))))) = .ok h' r:=by
 have hgs:qct (some (Ss.stop .nil)):=fun b hb=>by cases hb; exact⟨⟨rfl,.inl rfl⟩,Nat.zero_le _⟩
 have hl:(qah false (qb6 k (some (.stop .nil)))).length<=20:=by
  obtain rfl | rfl | rfl:k=0\/k=1\/k=2:=by omega
  all_goals decide
 have e0:qah false (qbT h)++qah false (qb6 k (some (.stop .nil)))=qah false (qbT h++qb6 k (some (.stop .nil))):=by
  rw[qi5,qbT,List.append_assoc,List.append_assoc,List.append_assoc,List.append_assoc,qft,qft,qft]
 obtain⟨e,hx⟩:=qkE (qba (qlw hg) (qn0 hgs)).ok
 rw[e0]
 obtain⟨mid,x1,x2⟩:=hx_app.1 hx
 refine⟨_,_,qhN (by rw[qao,<- e0,List.length_append]; omega) (qnh hg x1 (qlx hk ?_ hgs x2 qni))⟩
 unfold qt1
 obtain rfl | rfl | rfl:k=0\/k=1\/k=2:=by omega
 all_goals simp[hs]
end
end Go.Pm
end SWd
section SWe
namespace Go.Pm
open F
set_option maxHeartbeats 8000000
theorem qdc (f fi fb:Bool) : ∀ (s:Ss),((s.fl f fi fb).fo).eqv s.fo=true
 | .nil=>rfl
 | .assign _ s e r=>by simp[Ss.fl,Ss.fo,Fo.eqv,qcP f e (r := .nil) (r' := .nil) rfl,qdc f fi fb r]
 | .store _ s a b r=>by simp[Ss.fl,Ss.fo,Fo.eqv,qcP f a (qcP f b (r := .nil) (r' := .nil) rfl),qdc f fi fb r]
 | .effect _ a b r=>by simp[Ss.fl,Ss.fo,Fo.eqv,qcP f a (qcP f b (r := .nil) (r' := .nil) rfl),qdc f fi fb r]
 | .stop r=>by simp[Ss.fl,Ss.fo,Fo.eqv,qdc f fi fb r]
 | .cond w _ c b r=>by cases w<;>simp[Ss.fl,Ss.fo,Fo.eqv,qcP f c (qdc f fi fb b),qdc f fi fb r]
 | .block _ b r=>by simp[Ss.fl,Ss.fo,Fo.eqv,qdc f fi fb b,qdc f fi fb r]
theorem qth (f fi fb:Bool) (h:Hd):ndEq (hdO (h.opt.map (·.fl f fi fb))).nd.k (hdO (h.opt.map (·.fl f fi fb))).nd.n (hdO (h.opt.map (·.fl f fi fb))).nd.s (hdO (h.opt.map (·.fl f fi fb))).nd.ks h.nd.k h.nd.n h.nd.s h.nd.ks=true:=by
 cases h with
 | none=>simp[hdO,Hd.opt,ndEq,Hd.ks,Hd.k,Fo.eqv]
 | some f' b=>simp[hdO,Hd.opt,ndEq,Hd.ks,Hd.k,qdc]
@[local simp] theorem qwr:IntKind.i64.wrap (-1) = -1:=rfl
@[local simp] theorem qws:IntKind.i64.wrap 0=0:=rfl
@[local simp] theorem qwt:IntKind.i64.wrap 1=1:=rfl
@[local simp] theorem qwu:IntKind.i64.wrap 2=2:=rfl
@[local simp] theorem qwv:IntKind.i64.wrap 3=3:=rfl
def qki:Nat->ByteArray
 | 0=>⟨#[97,99,116]⟩
 | 1=>⟨#[116,105,99,107]⟩
 | _=>⟨#[104,105,116]⟩
section
variable {prog:Nat->Option PFun} (H:HasD prog)
include H
omit H in
theorem qnO {A B C:Nd} {i:Nat} (hi:i<3) {i0 i1:Int} (e0:i0=i) (e1:i1=i0-1) {s P:ByteArray} {d:D} (hd:d=ru (if i=0 then A else Hd.none.nd) (if i=1 then B else Hd.none.nd) (if i=2 then C else Hd.none.nd))
  (zP:Z prog (.call 236 [.dat d] [])=some (.ret (.str P) [])) (hs:s.size<=100000) (hP:P.size<=100000) :
  Z prog (.loop 0 F222l0 [(3,.ptr 0 0),(4,.str s),(5,.int i0)] [qfk A B C])=Z prog (.loop 0 F222l0 [(3,.ptr 0 0),(4,.str (s++P)),(5,.int i1)] [qfk A B C]):=by
 have y1 : ¬ (9223372036854775807:Int)<(s.size:Int)+P.size:=by omega
 have nn:Hd.none.nd=⟨0,0,⟨#[]⟩,false,.nil⟩:=rfl
 subst hd e1 e0
 obtain rfl | rfl | rfl:i=0\/i=1\/i=2:=by omega
 all_goals
  simp[nn,ru,Nd.d,qbv,qaY,qtQ] at zP
  conv=>lhs; rw[qac]
  simp -implicitDefEqProofs [qae,qio,qfk,zP,y1,List.range_succ]
  all_goals first | rfl | exact qb2 (by simp[gcF,List.range_succ])
omit H in
theorem qu0 {A B C:Nd} {s:ByteArray}:Z prog (.loop 0 F222l0 [(3,.ptr 0 0),(4,.str s),(5,.int (-1))] [qfk A B C])=some (.out (.exit 0) [(3,.ptr 0 0),(4,.str s),(5,.int (-1)),(18,.bool false)] [qfk A B C]):=by
 rw[qac]
 simp[qae,qio]
omit H in
theorem qqi {A B C:Nd} {i:Nat} (hi:i<3) {i0 i1:Int} (e0:i0=i) (e1:i1=i0+1) {s T:ByteArray} (hT:T=s++⟨#[111,110,32]⟩++qki i++⟨#[123,115,116,111,112,59,125]⟩) (hs:s.size<=100000) {A' B' C':Nd} {a c:Nat} {K:Int} (hK:K=(if i=0 then A else if i=1 then B else C).k)
  (zp:Z prog (.call 228 [.str T] [])=some (.ret (.tup [.dat (ru A' B' C'),.int a,.int c]) [])) (h0:K=0->c=0) (h1:K≠0->c=4/\a=s.size+3) :
  Z prog (.loop 0 F222l1 [(3,.ptr 0 0),(4,.str s),(10,.int i0)] [qfk A B C])=Z prog (.loop 0 F222l1 [(3,.ptr 0 0),(4,.str s),(10,.int i1)] [qfk A B C]):=by
 obtain⟨T1,q1⟩ : ∃ v,s++⟨#[111,110,32]⟩=v:=⟨_,rfl⟩
 rw[q1] at hT
 obtain⟨T2,q2⟩ : ∃ v,T1++qki i=v:=⟨_,rfl⟩
 rw[q2] at hT
 have f1:(⟨#[111,110,32]⟩:ByteArray).size=3:=rfl
 have f2:(⟨#[123,115,116,111,112,59,125]⟩:ByteArray).size=7:=rfl
 have s1:T1.size=s.size+3:=by rw[<- q1,ByteArray.size_append,f1]
 have hw:(qki i).size<=4:=by
  obtain rfl | rfl | rfl:i=0\/i=1\/i=2:=by omega
  all_goals decide
 have s2:T2.size=T1.size+(qki i).size:=by rw[<- q2,ByteArray.size_append]
 have g1 : ¬ (9223372036854775807:Int)<(s.size:Int)+3:=by omega
 have g2 : ¬ (9223372036854775807:Int)<(T1.size:Int)+(qki i).size:=by omega
 have g3 : ¬ (9223372036854775807:Int)<(T2.size:Int)+7:=by omega
 have w3:IntKind.i64.wrap ((s.size:Int)+3)=(s.size:Int)+3:=qal _ (by omega)
 clear s1 s2 hw
 subst e1 e0
 have f3:(⟨#[97,99,116]⟩:ByteArray).size=3:=rfl
 have f4:(⟨#[116,105,99,107]⟩:ByteArray).size=4:=rfl
 have f5:(⟨#[104,105,116]⟩:ByteArray).size=3:=rfl
 simp only[ru] at zp
 by_cases hk:K=0
 ·obtain rfl:=h0 hk
  obtain rfl | rfl | rfl:i=0\/i=1\/i=2:=by omega
  all_goals
   simp only[qki,f3,f4,f5,Int.cast_ofNat_Int] at q2 g2
   rw[hK] at hk
   simp at hk
   conv=>lhs; rw[qac]
   simp -implicitDefEqProofs [qae,qf5,qfk,qaq,V.len,q1,q2,<- hT,f1,f2,f3,f4,f5,g1,g2,g3,zp,hk,w3,List.range_succ]
   all_goals first | rfl | exact qb2 (by simp[gcF,List.range_succ])
 ·obtain⟨rfl,rfl⟩:=h1 hk
  obtain rfl | rfl | rfl:i=0\/i=1\/i=2:=by omega
  all_goals
   simp only[qki,f3,f4,f5,Int.cast_ofNat_Int] at q2 g2
   rw[hK] at hk
   simp at hk
   conv=>lhs; rw[qac]
   simp -implicitDefEqProofs [qae,qf5,qfk,qaq,V.len,q1,q2,<- hT,f1,f2,f3,f4,f5,g1,g2,g3,zp,hk,w3,List.range_succ]
   all_goals first | rfl | exact qb2 (by simp[gcF,List.range_succ])
omit H in
theorem qu1 {A B C:Nd} {s:ByteArray}:Z prog (.loop 0 F222l1 [(3,.ptr 0 0),(4,.str s),(10,.int 3)] [qfk A B C])=some (.out (.exit 2) [(3,.ptr 0 0),(4,.str s),(10,.int 3),(47,.bool false)] [qfk A B C]):=by
 rw[qac]
 simp[qae,qf5]
omit H in
theorem qnP (h:Hd):h.k=0↔h.opt=none:=by cases h<;>simp[Hd.k,Hd.opt]
omit H in
theorem qnQ {k:Nat} (hk:k<3) (l:List UInt8):bs (l++qah false (qb6 k (some (.stop .nil))))=bs l++⟨#[111,110,32]⟩++qki k++⟨#[123,115,116,111,112,59,125]⟩:=by
 rw[qco,qco (bs l++_),qco (bs l),qaP,qaP,qaP,List.append_assoc,List.append_assoc]
 obtain rfl | rfl | rfl:k=0\/k=1\/k=2:=by omega
 all_goals rfl
theorem qk1 {a b c:Hd} (hg : ∀ k,qct (Hd.opts a b c k)) (hsz:(qah false (qbT (Hd.opts a b c))).length<=1900) {k:Nat} (hk:k<3) {i0 i1:Int} (e0:i0=k) (e1:i1=i0+1) {S:ByteArray} (hS:S=bs (qah false (qbT (Hd.opts a b c)))) :
  Z prog (.loop 0 F222l1 [(3,.ptr 0 0),(4,.str S),(10,.int i0)] [qfk a.nd b.nd c.nd])=Z prog (.loop 0 F222l1 [(3,.ptr 0 0),(4,.str S),(10,.int i1)] [qfk a.nd b.nd c.nd]):=by
 have hSs:S.size=(qah false (qbT (Hd.opts a b c))).length:=by rw[hS,qao]
 have hT:=qnQ hk (qah false (qbT (Hd.opts a b c)))
 rw[<- hS] at hT
 have hK:(if k=0 then a.nd else if k=1 then b.nd else c.nd).k=0↔Hd.opts a b c k=none:=by
  obtain rfl | rfl | rfl:k=0\/k=1\/k=2:=by omega
  ·exact qnP a
  ·exact qnP b
  ·exact qnP c
 have hTs:(bs (qah false (qbT (Hd.opts a b c))++qah false (qb6 k (some (.stop .nil))))).size<2 ^ 30:=by
  have hl:(qah false (qb6 k (some (.stop .nil)))).length<=20:=by
   obtain rfl | rfl | rfl:k=0\/k=1\/k=2:=by omega
   all_goals decide
  rw[qao,List.length_append]
  omega
 cases hko:Hd.opts a b c k with
 | none=>
  obtain⟨h',r,hp⟩:=qqJ (f:=true) (fi:=true) (fb:=false) hg hk hko hsz
  obtain⟨A',B',C',_,_,_,zp⟩:=qtZ H.toHas hTs hp
  exact qqi hk e0 e1 hT (by omega) (a:=0) (c:=0) rfl zp (fun _=>rfl) (fun h=>absurd (hK.2 hko) h)
 | some q=>
  have hp:=qqI (f:=true) (fi:=true) (fb:=false) hg hk (by rw[hko]; rfl) hsz
  obtain⟨_,zp⟩:=qwq H.toHas hTs hp
  exact qqi hk e0 e1 hT (by omega) (c:=4) rfl zp (fun h=>absurd (hK.1 h) (by rw[hko]; simp)) (fun _=>⟨rfl,by rw[hSs]⟩)
theorem qjk (zl:Z prog (.call 229 [] [])=some (.ret (.bool true) [])) {v:D} {xs:List Int} (hv:RowV v xs) (hx : ∀ x∈xs,I64 x) :
  Z prog (.call 222 [.dat v] [])=some (.ret (.bool true) []):=by
 obtain⟨a,b,c,ha,hb,⟨hc,hco⟩,zP⟩:=qmL hv hx
 have zP:=qmi H.b zP
 have hg:=qon ha hb hc
 have hlen:=qpP a b c
 have hpl:=qgR (Hd.opts a b c)
 have hol:(qah false (qbT (Hd.opts a b c))).length=(qah false (qbZ (Hd.opts a b c))).length:=by
  rw[qi5,hpl]
  simp only[List.length_append]
  omega
 have hsz:(qah false (qbT (Hd.opts a b c))).length<=1900:=by omega
 have hn:qct none:=fun b hb=>by cases hb
 have t2:qbZ (Hd.opts .none .none c)=qb6 2 (Hd.opts a b c 2):=rfl
 have t1:qbZ (Hd.opts .none b .none)=qb6 1 (Hd.opts a b c 1):=by simp[qbZ,Hd.opts,Hd.opt,qb6]
 have t0:qbZ (Hd.opts a .none .none)=qb6 0 (Hd.opts a b c 0):=by simp[qbZ,Hd.opts,Hd.opt,qb6]
 have p2:=qmi H.s (qjf (a := .none) (b := .none) (c:=c) (fun | 0=>hn | 1=>hn | _+2=>qeV hc) (by rw[t2]; omega))
 have p1:=qmi H.s (qjf (a := .none) (b:=b) (c := .none) (fun | 0=>hn | 1=>qeV hb | _+2=>hn) (by rw[t1]; omega))
 have p0:=qmi H.s (qjf (a:=a) (b := .none) (c := .none) (fun | 0=>qeV ha | 1=>hn | _+2=>hn) (by rw[t0]; omega))
 rw[t2] at p2
 rw[t1] at p1
 rw[t0] at p0
 obtain⟨S,hS⟩ : ∃ S,S=bs (qah false (qbT (Hd.opts a b c))):=⟨_,rfl⟩
 have hSs:S.size<=1900:=by rw[hS,qao]; exact hsz
 obtain⟨P2,hP2⟩ : ∃ S,S=bs (qah false (qb6 2 (Hd.opts a b c 2))):=⟨_,rfl⟩
 obtain⟨P1,hP1⟩ : ∃ S,S=bs (qah false (qb6 1 (Hd.opts a b c 1))):=⟨_,rfl⟩
 obtain⟨P0,hP0⟩ : ∃ S,S=bs (qah false (qb6 0 (Hd.opts a b c 0))):=⟨_,rfl⟩
 have hSe:(⟨#[]⟩++P2)++P1++P0=S:=by
  rw[hS,hP0,hP1,hP2,qi5,qco,qco (⟨#[]⟩++_),qco ⟨#[]⟩,qaP,qaP,qaP,qaP,qaP]
  simp[byl]
 rw[<- hP2] at p2
 rw[<- hP1] at p1
 rw[<- hP0] at p0
 have l2:P2.size<=1900:=by rw[hP2,qao]; omega
 have l1:P1.size<=1900:=by rw[hP1,qao]; omega
 have l0:P0.size<=1900:=by rw[hP0,qao]; omega
 have x2:=qnO (A:=a.nd) (B:=b.nd) (C:=c.nd) (i:=2) (by omega) (i0:=2) (i1:=1) rfl rfl (s:=⟨#[]⟩) rfl p2 (by decide) (by omega)
 have x1:=qnO (A:=a.nd) (B:=b.nd) (C:=c.nd) (i:=1) (by omega) (i0:=1) (i1:=0) rfl rfl (s:=⟨#[]⟩++P2) rfl p1 (by rw[ByteArray.size_append]; show 0+_<=_; omega) (by omega)
 have x0:=qnO (A:=a.nd) (B:=b.nd) (C:=c.nd) (i:=0) (by omega) (i0:=0) (i1 := -1) rfl rfl (s:=⟨#[]⟩++P2++P1) rfl p0 (by rw[ByteArray.size_append,ByteArray.size_append]; show 0+_+_<=_; omega) (by omega)
 rw[hSe] at x0
 have xx:=x2.trans (x1.trans (x0.trans qu0))
 obtain⟨ra,hpa⟩:=qnj (f:=true) (fi:=true) (fb:=false) hg hsz
 obtain⟨hg',_,hl',hb'⟩:=qmU hpa
 have hsi:=qqU hg' (by omega)
 obtain⟨A',B',C',hA',hB',hC',zp⟩:=qtZ H.toHas (s:=S) (by omega) (by rw[hS]; exact hpa)
 have ze:=qmi H.e (qo2 (a:=A') (b:=B') (c:=C') (a':=a.nd) (b':=b.nd) (c':=c.nd)
  (by rw[hA']; have:=hsi 0 (by omega); omega) (by rw[hB']; have:=hsi 1 (by omega); omega) (by rw[hC']; have:=hsi 2 (by omega); omega))
 have he : ∀ {N:Nd} {h:Hd} {o:Option Ss},N=(hdO o).nd->o=h.opt.map (·.fl true true false)->ndEq N.k N.n N.s N.ks h.nd.k h.nd.n h.nd.s h.nd.ks=true:=fun e1 e2=>by
  subst e1 e2
  exact qth true true false _
 rw[he hA' rfl,he hB' rfl,he hC' rfl] at ze
 have y0:=qk1 H hg hsz (k:=0) (by omega) (i0:=0) (i1:=1) rfl rfl hS
 have y1:=qk1 H hg hsz (k:=1) (by omega) (i0:=1) (i1:=2) rfl rfl hS
 have y2:=qk1 H hg hsz (k:=2) (by omega) (i0:=2) (i1:=3) rfl rfl hS
 have yy:=y0.trans (y1.trans (y2.trans qu1))
 have yz:Z prog (.loop 0 F222l1 [(3,.ptr 0 0),(4,.str S),(10,.int 0)] [qfk a.nd b.nd c.nd,qfk A' B' C'])=_:=(qb2 (by simp[gcF,List.range_succ])).trans yy
 have k0:=hv.one
 have k1:=hv.cells
 clear hA' hB' hC' hP0 hP1 hP2 hS y0 y1 y2 yy x0 x1 x2 p0 p1 p2 hpa hg hg' hsi he hSe hlen hpl hol hsz ha hb hc hco
 generalize a.nd=A at *
 generalize b.nd=B at *
 generalize c.nd=C at *
 simp only[ru,qfk] at zP xx zp ze yz
 refine Z_call (H.kd 222 F222 rfl) rfl ?_
 simp -implicitDefEqProofs [F222,k0,k1,zP,xx,zp,ze,yz,zl,List.range_succ]
end
end Go.Pm
end SWe
section STb13
namespace Go.Pm.F
def prog13d:Nat->Option PFun
 | 17=>some F17
 | 20=>some F20
 | 23=>some F23
 | 123=>some F123
 | 136=>some F136
 | 137=>some F137
 | 152=>some F152
 | 162=>some F162
 | 176=>some F176
 | 177=>some F177
 | 178=>some F178
 | 179=>some F179
 | 192=>some F192
 | 193=>some F193
 | 222=>some F222
 | 228=>some F228
 | 229=>some F229
 | 231=>some F231
 | 232=>some F232
 | 234=>some F234
 | 235=>some F235
 | 236=>some F236
 | 239=>some F239
 | 240=>some F240
 | 241=>some F241
 | 242=>some F242
 | 243=>some F243
 | 244=>some F244
 | 245=>some F245
 | 246=>some F246
 | 247=>some F247
 | 248=>some F248
 | 249=>some F249
 | 250=>some F250
 | 251=>some F251
 | 252=>some F252
 | 253=>some F253
 | 254=>some F254
 | 255=>some F255
 | 256=>some F256
 | 257=>some F257
 | 258=>some F258
 | 259=>some F259
 | 260=>some F260
 | 261=>some F261
 | 262=>some F262
 | 263=>some F263
 | 264=>some F264
 | 265=>some F265
 | 266=>some F266
 | 267=>some F267
 | 268=>some F268
 | 269=>some F269
 | 270=>some F270
 | 271=>some F271
 | 272=>some F272
 | 273=>some F273
 | 274=>some F274
 | 275=>some F275
 | 276=>some F276
 | 277=>some F277
 | 278=>some F278
 | 279=>some F279
 | 280=>some F280
 | 281=>some F281
 | 282=>some F282
 | 283=>some F283
 | 284=>some F284
 | 285=>some F285
 | 286=>some F286
 | 287=>some F287
 | 288=>some F288
 | 289=>some F289
 | 290=>some F290
 | 291=>some F291
 | 292=>some F292
 | 293=>some F293
 | 294=>some F294
 | 295=>some F295
 | 297=>some F297
 | 298=>some F298
 | 299=>some F299
 | 300=>some F300
 | 303=>some F303
 | 304=>some F304
 | 307=>some F307
 | 308=>some F308
 | 309=>some F309
 | _=>none
theorem qhT : ∀ f pf,tR f=some pf->prog13d f=some pf:=fun f pf h=>by
 unfold tR at h
 split at h<;>first | (cases h; rfl) | cases h
theorem qhU : ∀ f pf,tS f=some pf->prog13d f=some pf:=fun f pf h=>by
 unfold tS at h
 split at h<;>first | (cases h; rfl) | cases h
theorem qhV : ∀ f pf,tP f=some pf->prog13d f=some pf:=fun f pf h=>by
 unfold tP at h
 split at h<;>first | (cases h; rfl) | cases h
theorem qhW : ∀ f pf,tQ f=some pf->prog13d f=some pf:=fun f pf h=>by
 unfold tQ at h
 split at h<;>first | (cases h; rfl) | cases h
theorem qfv : ∀ f pf,qbo f=some pf->prog13d f=some pf:=fun f pf h=>by
 unfold qbo at h
 split at h<;>first | (cases h; rfl) | cases h
end Go.Pm.F
end STb13
section SUm
namespace Go.Pm
open F
theorem qhX:Sub tE prog13d:=fun f pf h=>by
 unfold tE at h
 split at h<;>first | (cases h; rfl) | cases h
theorem qhY:Sub tK prog13d:=fun f pf h=>by
 unfold tK at h
 split at h<;>first | (cases h; rfl) | cases h
theorem qg6:Sub tKd prog13d:=fun f pf h=>by
 unfold tKd at h
 split at h<;>first | (cases h; rfl) | cases h
theorem qsR:HasD prog13d:=⟨⟨qfv,qhT,qhU,qhV,qhW,qhX,qhY⟩,qg6⟩
end Go.Pm
end SUm
section SUt
namespace Go.Pm
open F
theorem qpV:Z prog13d (.call 229 [] [])=some (.ret (.bool true) []):=qoJ (n:=3000) (by kernel_rfl)
end Go.Pm
end SUt
section SWj
namespace Go.Pm
open F
theorem orderLaw_Z {v:D} {xs:List Int} (hv:RowV v xs) (hx : ∀ x∈xs,I64 x) :
  Z prog13d (.call 222 [.dat v] [])=some (.ret (.bool true) []):=qjk qsR qpV hv hx
end Go.Pm
end SWj
