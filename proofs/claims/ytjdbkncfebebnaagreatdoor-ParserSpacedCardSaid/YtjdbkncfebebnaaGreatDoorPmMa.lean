/- Chapter 13's parser: blocks are the plain ones. Chapter 13's parser: handlers. Chapter 13's parser: a whole program: the walks. Chapter 13's parser: whole programs are the plain ones. Chapter 13's parser: program. Chapter 13's parser: Parse is the plain one. Chapter 13's parser: Parse behind an error. Chapter 13's parser: Parse, whole. What the laws of chapter 13 call, over any table that has it: Short, Broken, Source, Parse, Print, equal. Chapter 13's law ParserRound. Chapter 13's law ParserParses. The rule language in plain Lean: white space between all tokens. No program in sight. Chapter 13's law ParserSpaced. The abstract machine's programs: tables of functions. Chapter 13's law ParserParses, over the whole table. Chapter 13's law ParserSpaced, over the whole table. -/
import Derived.Test.YtjdbkncfebebnaaGreatDoorPmKu
import Derived.Test.YtjdbkncfebebnaaGreatDoorPmG1
import Derived.Test.YtjdbkncfebebnaaGreatDoorPmF3q
import Derived.Test.YtjdbkncfebebnaaGreatDoorPmOg
import Derived.Test.YtjdbkncfebebnaaGreatDoorPmJr
import Derived.Test.YtjdbkncfebebnaaGreatDoorPmUe
import Derived.Test.YtjdbkncfebebnaaGreatDoorPmJb
import Derived.Test.YtjdbkncfebebnaaGreatDoorPmYh
import Derived.Test.YtjdbkncfebebnaaGreatDoorPmF3
import Derived.Test.YtjdbkncfebebnaaGreatDoorPmFx
import Derived.KernelRfl
set_option linter.unusedSimpArgs false
set_option linter.unusedVariables false
section SMa
namespace Go.Pm
open F
set_option maxHeartbeats 2000000
section
variable (s:ByteArray) (T:List Tk)
def SsK (n:Nat):Prop := ∀ (lv i:Nat) (t:Tk) (r:List Tk) (a:Ss) (v:V) (σt:S) (x:Rz Ss),lv<=20->T.drop i=t::r->a.fo.len+(t::r).length<=2 ^ 40->qrm v σt a.fo.cells a.fo.len->qbV 12 2 true true false n lv a (t::r)=some x->match x with
 | .ok b r' => ∃ (i':Nat) (t':Tk) (v':V) (σt':S),T.drop i'=t'::r'/\t'.bad=0/\t'.s=qnc/\qrm v' σt' b.fo.cells b.fo.len/\Z tP (.loop 3 F256l0 (bzF lv) (bzS s T i 0 12 v σt))=some (.out (.exit 0) (bzF lv++[(13,.bool false)]) (bzS s T i' 0 12 v' σt'))
 | .er a c => ∃ (i':Nat) (fr:Fr) (v':V) (σt':S),fr.get 1000000=none/\Z tP (.loop 3 F256l0 (bzF lv) (bzS s T i 0 12 v σt))=some (.out (.pan (.iface 1 (.int c))) fr (bzS s T i' a c v' σt'))
variable {s:ByteArray} {T:List Tk}
theorem qoG {n lv:Nat} {ts r:List Tk} {b:Ss} (h:qck 12 2 true true false n lv ts=some (.ok b r)):r.length<=ts.length-1:=by
 have h1:=qi9 h (Nat.le_max_left n (10*ts.length+1))
 obtain⟨y,h2,h3⟩:=(qhx 12 2 true true false (max n (10*ts.length+1))).1 lv ts (Nat.le_max_right _ _)
 rw[h1] at h2
 cases h2
 exact h3 b r rfl
theorem qsx {n:Nat} (ihs:StK s T n) (ihl:SsK s T n):SsK s T (n+1):=by
 intro lv i t r a v σt x hlv h hlen hr hx
 rw[qbV] at hx
 by_cases hb:t.bad=0
 case neg=>
  have hnx:nx (t::r)=none:=if_neg hb
  rw[hnx] at hx
  simp only[failP,if_neg hb,Option.some.injEq] at hx
  subst hx
  obtain⟨fr,f1,f2⟩:=qvN (s:=s) (lv:=lv) h hb hr
  exact⟨i,fr,v,σt,f1,f2⟩
 have hnx:nx (t::r)=some t.s:=if_pos hb
 rw[hnx] at hx
 simp only[List.tail_cons] at hx
 by_cases he:t.s=bs [125]
 ·rw[if_pos he] at hx
  simp only[Option.some.injEq] at hx
  subst hx
  exact⟨i,t,v,σt,h,hb,he,hr,qvM h hb he hr⟩
 rw[if_neg he] at hx
 cases hq:qck 12 2 true true false n lv (t::r) with
 | none=>rw[hq] at hx; cases hx
 | some y=>
  rw[hq] at hx
  have hs:=ihs lv i t r y hlv h hq
  cases y with
  | er p c=>
   simp only[Option.some.injEq] at hx
   subst hx
   obtain⟨i',z⟩:=hs
   exact⟨i',[],v,σt,rfl,qvO h hb he hr z⟩
  | ok b r'=>
   simp only at hx
   obtain⟨i',k,y,d,a1,a2,z,o1,o2,c1,c2⟩:=hs
   have hl:=qoG hq
   simp only[List.length_cons] at hl hlen
   obtain⟨v',σt',r1,r2⟩:=qrn h hb he hr (by omega) o1 o2 z
   obtain⟨t2,r2',rfl⟩:=qa4 a2
   have hr':qrm v' σt' (a.app b).fo.cells (a.app b).fo.len:=by
    rw[qil,qg8,qdw,c1,c2]; exact r1
   have hlen':(a.app b).fo.len+(t2::r2').length<=2 ^ 40:=by
    rw[qil,qdw,c2]
    simp only[List.length_cons] at hl ⊢
    omega
   have:=ihl lv i' t2 r2' (a.app b) v' σt' x hlv a1 hlen' hr' hx
   cases x with
   | ok b3 r3=>
    obtain⟨i3,t3,v3,σ3,e1,e2,e3,e4,e5⟩:=this
    exact⟨i3,t3,v3,σ3,e1,e2,e3,e4,r2.trans e5⟩
   | er p c=>
    obtain⟨i3,fr,v3,σ3,e1,e2⟩:=this
    exact⟨i3,fr,v3,σ3,e1,r2.trans e2⟩
theorem qsy (hw:WfQ T) (hT:T.length<2 ^ 30) {n:Nat} (ihl:SsK s T n):BkK s T (n+1):=by
 intro lv i t r x h hx
 rw[qaW] at hx
 have ho:=qhn (s:=s) hw (by omega) h (x:=bs [123]) (by decide) (lv:=lv)
 cases hq:qcA 12 2 (bs [123]) lv (t::r) with
 | er a c=>
  rw[hq] at hx ho
  simp only[Option.some.injEq] at hx
  subst hx
  obtain⟨i',z⟩:=ho
  exact⟨i',qtJ z⟩
 | ok u r1=>
  have hl1:=qj0 hq
  rw[hq] at hx ho
  simp only at hx
  obtain⟨i1,a1,a2,z1⟩:=ho
  obtain⟨t1,r2,rfl⟩:=qa4 a2
  have hlen:(t1::r2).length<=T.length:=by rw[<- a1,List.length_drop]; omega
  have hl:=ihl lv i1 t1 r2 .nil (.dat (.lit (.slice none 0 0))) [] x hl1 a1 (by show 0+_<=_; omega) (.inl ⟨rfl,rfl,rfl,rfl⟩) hx
  cases x with
  | er p c=>
   obtain⟨i3,fr,v3,σ3,e1,e2⟩:=hl
   exact⟨i3,qvP z1 e1 e2⟩
  | ok b r3=>
   obtain⟨i3,t3,v3,σ3,e1,e2,e3,e4,e5⟩:=hl
   obtain⟨n1,n2⟩:=hw.next e1 e2 (by rw[e3]; decide)
   exact⟨i3+1,n1,n2,qxK (by omega) z1 e4 e5 e1 e2 e3⟩
theorem qrM (hw:WfQ T) (hT:T.length<2 ^ 30) (hP : ∀ t∈T,TokP t) : ∀ n,StK s T n/\BkK s T n/\SsK s T n
 | 0=>⟨fun lv i t r x _ _ hx=>by simp[qck] at hx,fun lv i t r x _ hx=>by simp[qaW] at hx,fun lv i t r a v σt x _ _ _ _ hx=>by simp[qbV] at hx⟩
 | n+1=>by
  obtain⟨ihs,ihb,ihl⟩:=qrM hw hT hP n
  exact⟨qtN hw (by omega) hP ihb,qsy hw hT ihl,qsx ihs ihl⟩
end
end Go.Pm
end SMa
section SMb
namespace Go.Pm
open F
set_option maxHeartbeats 4000000
attribute [local simp] qbj qbX dkey
section
variable {s:ByteArray} {T:List Tk} {i:Nat} {t:Tk} {r:List Tk} {a c:Int}
theorem qgO {k:Nat} (h:T.drop i=t::r) (hb:t.bad=0) (hk:qby t.s=some k):Z tP (.call 254 [.ptr 0 0] (PS s T i 0 12))=some (.ret (.int k) (PS s T i 0 12)):=by
 have zp:=qaA (s:=s) (a:=0) (c:=12) h hb
 simp only[PS,pO,ptk,ptD,qaq hb] at zp
 generalize t.s=w at zp hk
 unfold qby at hk
 by_cases h1:w=bs [97,99,116]
 ·subst h1
  simp only[if_true,Option.some.injEq] at hk
  subst hk
  simp only[bs] at zp
  refine Z_call (pf:=F254) rfl rfl ?_
  simp[F254,zp,qaX,List.range_succ]
 rw[if_neg h1] at hk
 by_cases h2:w=bs [116,105,99,107]
 ·subst h2
  simp only[if_true,Option.some.injEq] at hk
  subst hk
  simp only[bs] at zp
  refine Z_call (pf:=F254) rfl rfl ?_
  simp[F254,zp,qaX,List.range_succ]
 rw[if_neg h2] at hk
 by_cases h3:w=qik
 ·subst h3
  simp only[if_true,Option.some.injEq] at hk
  subst hk
  simp only[qik] at zp
  refine Z_call (pf:=F254) rfl rfl ?_
  simp[F254,zp,qaX,List.range_succ]
 ·rw[if_neg h3] at hk; cases hk
theorem qn9 (h:T.drop i=t::r) (hb:t.bad=0) (hk:qby t.s=none):Z tP (.call 254 [.ptr 0 0] (PS s T i 0 12))=some (.ret (qbr 12) (PS s T i t.at_ 12)):=by
 have zp:=qaA (s:=s) (a:=0) (c:=12) h hb
 have zf:=qgo (s:=s) (T:=T) (i:=i) (a:=0) (c:=12) (k:=kindT t) (x:=t.s) (at_:=t.at_) (v:=valT t) (e:=t.bad) (c':=12)
 simp only[PS,pO,ptk,ptD,qaq hb] at zp zf
 unfold qby at hk
 by_cases h1:t.s=bs [97,99,116]
 ·rw[if_pos h1] at hk; cases hk
 rw[if_neg h1] at hk
 by_cases h2:t.s=bs [116,105,99,107]
 ·rw[if_pos h2] at hk; cases hk
 rw[if_neg h2] at hk
 by_cases h3:t.s=qik
 ·rw[if_pos h3] at hk; cases hk
 simp only[bs] at h1 h2
 simp only[qik] at h3
 refine Z_call (pf:=F254) rfl rfl ?_
 simp[F254,zp,zf,h1,h2,h3,qaX,qae,List.range_succ]
theorem qmj (h:T.drop i=t::r) (hb:t.bad≠0):Z tP (.call 254 [.ptr 0 0] (PS s T i 0 12))=some (.ret (qbr t.bad) (PS s T i t.at_ t.bad)):=by
 have zp:=qeF (s:=s) (a:=0) (c:=12) h hb
 simp only[PS,pO] at zp
 refine Z_call (pf:=F254) rfl rfl ?_
 simp[F254,zp,qae,List.range_succ]
theorem qeX {w:ByteArray} {k:Nat} (h:qby w=some k):k=0\/k=1\/k=2:=by
 unfold qby at h
 split at h
 ·cases h; omega
 split at h
 ·cases h; omega
 split at h
 ·cases h; omega
 ·cases h
end
end Go.Pm
end SMb
section SMc
namespace Go.Pm
open F
set_option maxHeartbeats 4000000
attribute [local simp] qbj qbX dkey
abbrev pgF:Fr:=[(0,.ptr 0 0),(2,.ptr 3 0),(3,.ptr 4 0)]
abbrev pgS (s:ByteArray) (T:List Tk) (i a c:Int) (q:Nat->N4):S:=PS s T i a c++[quf,rob q]
section
variable {s:ByteArray} {T:List Tk} {i i' i2:Nat} {t:Tk} {r:List Tk} {a c:Int} {q:Nat->N4}
theorem qvi (h:T.drop i=t::r) (hb:t.bad=0) (hs:t.s=⟨#[]⟩):Z tP (.loop 3 F242l0 pgF (pgS s T i 0 12 q))=some (.out (.exit 0) (pgF++[(8,.bool false)]) (pgS s T i 0 12 q)):=by
 have zp:=qaA (s:=s) (a:=0) (c:=12) h hb
 have hk:kindT t=0:=by rw[qce hb,qhP,if_pos hs]
 have k0:=(q 0).one
 have k1:=(q 1).one
 have k2:=(q 2).one
 have c0:=(q 0).cl
 have c1:=(q 1).cl
 have c2:=(q 2).cl
 simp only[PS,pO,ptk,ptD,hk] at zp
 rw[qaa]
 simp[qac,qcN,zp,k0,k1,k2,c0,c1,c2,List.range_succ]
theorem qvj (h:T.drop i=t::r) (hb:t.bad≠0) : ∃ fr,fr.get 1000000=none/\Z tP (.loop 3 F242l0 pgF (pgS s T i 0 12 q))=some (.out (.pan (.iface 1 (.int t.bad))) fr (pgS s T i t.at_ t.bad q)):=by
 have zp:=qeF (s:=s) (a:=0) (c:=12) h hb
 simp only[PS,pO] at zp
 refine⟨(5,.ptr 0 0)::pgF,by simp[Fr.get],?_⟩
 rw[qaa]
 simp[qac,qcN,zp,qae,List.range_succ]
theorem qxe (h:T.drop i=t::r) (hb:t.bad=0) (hs:t.s≠⟨#[]⟩) (z:Z tP (.call 253 [.ptr 0 0,.str ⟨#[111,110]⟩] (PS s T i 0 12))=some (.ret (qbr c) (PS s T i' a c))) : ∃ fr,fr.get 1000000=none/\Z tP (.loop 3 F242l0 pgF (pgS s T i 0 12 q))=some (.out (.pan (.iface 1 (.int c))) fr (pgS s T i' a c q)):=by
 have zp:=qaA (s:=s) (a:=0) (c:=12) h hb
 have hk:decide (kindT t=0)=false:=decide_eq_false (fun e=>hs ((qef hb).mp e))
 simp only[PS,pO,ptk,ptD] at zp z
 refine⟨(9,.ptr 0 0)::(pgF++[(8,.bool true)]),by simp[Fr.get],?_⟩
 rw[qaa]
 simp[qac,qcN,zp,z,hk,qae,List.range_succ]
theorem qo6 (h:T.drop i=t::r) (hb:t.bad=0) (hs:t.s≠⟨#[]⟩) (z:Z tP (.call 253 [.ptr 0 0,.str ⟨#[111,110]⟩] (PS s T i 0 12))=some (.ret (.tup []) (PS s T i' 0 12)))
  (zh:Z tP (.call 254 [.ptr 0 0] (PS s T i' 0 12))=some (.ret (qbr c) (PS s T i2 a c))) : ∃ fr,fr.get 1000000=none/\Z tP (.loop 3 F242l0 pgF (pgS s T i 0 12 q))=some (.out (.pan (.iface 1 (.int c))) fr (pgS s T i2 a c q)):=by
 have zp:=qaA (s:=s) (a:=0) (c:=12) h hb
 have hk:decide (kindT t=0)=false:=decide_eq_false (fun e=>hs ((qef hb).mp e))
 simp only[PS,pO,ptk,ptD] at zp z zh
 refine⟨(11,.ptr 0 0)::pgF,by simp[Fr.get],?_⟩
 rw[qaa]
 simp[qac,qcN,zp,z,zh,hk,qae,List.range_succ]
theorem qvk {t2:Tk} {r2:List Tk} {k:Nat} (h:T.drop i=t::r) (hb:t.bad=0) (hs:t.s≠⟨#[]⟩) (z:Z tP (.call 253 [.ptr 0 0,.str ⟨#[111,110]⟩] (PS s T i 0 12))=some (.ret (.tup []) (PS s T i' 0 12)))
  (h2:T.drop i'=t2::r2) (hb2:t2.bad=0) (hh:qby t2.s=some k) (hq:decide ((q k).k=0)=false) : ∃ fr,fr.get 1000000=none/\Z tP (.loop 3 F242l0 pgF (pgS s T i 0 12 q))=some (.out (.pan (.iface 1 (.int 4))) fr (pgS s T i' t2.at_ 4 q)):=by
 have zp:=qaA (s:=s) (a:=0) (c:=12) h hb
 have zp2:=qaA (s:=s) (a:=0) (c:=12) h2 hb2
 have zh:=qgO (s:=s) h2 hb2 hh
 have zf:=qgo (s:=s) (T:=T) (i:=i') (a:=0) (c:=12) (k:=kindT t2) (x:=qfq t2) (at_:=t2.at_) (v:=valT t2) (e:=t2.bad) (c':=4)
 have hk:decide (kindT t=0)=false:=decide_eq_false (fun e=>hs ((qef hb).mp e))
 simp only[PS,pO,ptk,ptD] at zp zp2 z zh zf
 have k0:=(q 0).one
 have k1:=(q 1).one
 have k2:=(q 2).one
 have c0:=(q 0).cl
 have c1:=(q 1).cl
 have c2:=(q 2).cl
 refine⟨(21,ptk t2)::(20,.ptr 0 0)::(19,.ptr 0 0)::(pgF++[(4,.int k),(18,.bool true)]),by simp[Fr.get],?_⟩
 rw[qaa]
 rcases qeX hh with rfl | rfl | rfl<;>simp[qac,qcN,zp,zp2,z,zh,zf,hk,hq,k0,k1,k2,c0,c1,c2,qae,List.range_succ]
theorem qvl {t2:Tk} {r2:List Tk} {k:Nat} (hT:T.length<2 ^ 40) (h:T.drop i=t::r) (hb:t.bad=0) (hs:t.s≠⟨#[]⟩) (z:Z tP (.call 253 [.ptr 0 0,.str ⟨#[111,110]⟩] (PS s T i 0 12))=some (.ret (.tup []) (PS s T i' 0 12)))
  (h2:T.drop i'=t2::r2) (hb2:t2.bad=0) (hh:qby t2.s=some k) (hq:decide ((q k).k=0)=true) (zb:Z tP (.call 256 [.ptr 0 0,.int 1] (PS s T ((i'+1:Nat):Int) 0 12))=some (.ret (qbr c) (PS s T i2 a c))) : ∃ fr,fr.get 1000000=none/\Z tP (.loop 3 F242l0 pgF (pgS s T i 0 12 q))=some (.out (.pan (.iface 1 (.int c))) fr (pgS s T i2 a c q)):=by
 have zp:=qaA (s:=s) (a:=0) (c:=12) h hb
 have zh:=qgO (s:=s) h2 hb2 hh
 have hlt:=qiR h2
 have w1:=qaf ((i':Int)+1) (by omega)
 have hk:decide (kindT t=0)=false:=decide_eq_false (fun e=>hs ((qef hb).mp e))
 simp only[PS,pO,ptk,ptD] at zp z zh zb
 simp only[Int.natCast_add,Int.cast_ofNat_Int] at zb
 have k0:=(q 0).one
 have k1:=(q 1).one
 have k2:=(q 2).one
 have c0:=(q 0).cl
 have c1:=(q 1).cl
 have c2:=(q 2).cl
 refine⟨(31,.ptr 0 0)::(30,.int k)::(pgF++[(4,.int k)]),by simp[Fr.get],?_⟩
 rw[qaa]
 rcases qeX hh with rfl | rfl | rfl<;>simp[qac,qcN,zp,z,zh,zb,w1,hk,hq,k0,k1,k2,c0,c1,c2,qae,List.range_succ]
theorem qxf {t2:Tk} {r2:List Tk} {k:Nat} {d:D} (hT:T.length<2 ^ 40) (h:T.drop i=t::r) (hb:t.bad=0) (hs:t.s≠⟨#[]⟩) (z:Z tP (.call 253 [.ptr 0 0,.str ⟨#[111,110]⟩] (PS s T i 0 12))=some (.ret (.tup []) (PS s T i' 0 12)))
  (h2:T.drop i'=t2::r2) (hb2:t2.bad=0) (hh:qby t2.s=some k) (hq:decide ((q k).k=0)=true) (od:V.one (.dat d)=true) (oc:V.cells (.dat d)=[.dat d]) (zb:Z tP (.call 256 [.ptr 0 0,.int 1] (PS s T ((i'+1:Nat):Int) 0 12))=some (.ret (nv 7 ⟨#[]⟩ d) (PS s T i2 0 12))):Z tP (.loop 3 F242l0 pgF (pgS s T i 0 12 q))=Z tP (.loop 3 F242l0 pgF (pgS s T i2 0 12 (qwp q k ⟨7,0,⟨#[]⟩,d,od,oc⟩))):=by
 have zp:=qaA (s:=s) (a:=0) (c:=12) h hb
 have zh:=qgO (s:=s) h2 hb2 hh
 have hlt:=qiR h2
 have w1:=qaf ((i':Int)+1) (by omega)
 have hk:decide (kindT t=0)=false:=decide_eq_false (fun e=>hs ((qef hb).mp e))
 simp only[PS,pO,ptk,ptD] at zp z zh
 simp only[PS,pO,nv] at zb
 simp only[Int.natCast_add,Int.cast_ofNat_Int] at zb
 have k0:=(q 0).one
 have k1:=(q 1).one
 have k2:=(q 2).one
 have c0:=(q 0).cl
 have c1:=(q 1).cl
 have c2:=(q 2).cl
 conv=>lhs; rw[qaa]
 rcases qeX hh with rfl | rfl | rfl<;>simp[qac,qcN,zp,z,zh,zb,od,oc,w1,hk,hq,k0,k1,k2,c0,c1,c2,qwp,List.range_succ]<;>rfl
end
end Go.Pm
end SMc
section SMd
namespace Go.Pm
open F
set_option maxHeartbeats 2000000
theorem qxg {w:ByteArray} (h:w.size=0):w=⟨#[]⟩:=by
 have hb:byl w=[]:=List.eq_nil_of_length_eq_zero (by rw[qar]; exact h)
 have:=qcL w
 rw[hb] at this
 exact this.symm
section
variable {s:ByteArray} {T:List Tk}
theorem qlc (hw:WfQ T) (hT:T.length<2 ^ 30) (hP : ∀ t∈T,TokP t) : ∀ (n:Nat) (hh:Nat->Option Ss) (i:Nat) (t:Tk) (r:List Tk) (x:Rz (Nat->Option Ss)),T.drop i=t::r->qcC 12 2 4 true true false n hh (t::r)=some x->match x with
  | .ok h' _ => ∃ i':Nat,Z tP (.loop 3 F242l0 pgF (pgS s T i 0 12 fun k=>qfs (hh k)))=some (.out (.exit 0) (pgF++[(8,.bool false)]) (pgS s T i' 0 12 fun k=>qfs (h' k)))
  | .er a c => ∃ (i':Nat) (fr:Fr) (q':Nat->N4),fr.get 1000000=none/\Z tP (.loop 3 F242l0 pgF (pgS s T i 0 12 fun k=>qfs (hh k)))=some (.out (.pan (.iface 1 (.int c))) fr (pgS s T i' a c q'))
 | 0,hh,i,t,r,x,_,hx=>by simp[qcC] at hx
 | n+1,hh,i,t,r,x,h,hx=>by
  rw[qcC] at hx
  by_cases hb:t.bad=0
  case neg=>
   have hnx:nx (t::r)=none:=if_neg hb
   rw[hnx] at hx
   simp only[failP,if_neg hb,Option.some.injEq] at hx
   subst hx
   obtain⟨fr,f1,f2⟩:=qvj (s:=s) (q:=fun k=>qfs (hh k)) h hb
   exact⟨i,fr,_,f1,f2⟩
  have hnx:nx (t::r)=some t.s:=if_pos hb
  rw[hnx] at hx
  simp only at hx
  by_cases h0:t.s.size=0
  ·rw[if_pos h0] at hx
   simp only[Option.some.injEq] at hx
   subst hx
   exact⟨i,qvi h hb (qxg h0)⟩
  rw[if_neg h0] at hx
  have hne:t.s≠⟨#[]⟩:=fun e=>h0 (by rw[e]; rfl)
  have ho:=qcy (s:=s) hw (by omega) h (x:=bs [111,110]) (by decide)
  cases hq:qau 12 (bs [111,110]) (t::r) with
  | er a c=>
   rw[hq] at hx ho
   simp only[Option.some.injEq] at hx
   subst hx
   obtain⟨i',z⟩:=ho
   obtain⟨fr,f1,f2⟩:=qxe (q:=fun k=>qfs (hh k)) h hb hne z
   exact⟨i',fr,_,f1,f2⟩
  | ok u r1=>
   rw[hq] at hx ho
   simp only at hx
   obtain⟨i1,a1,a2,z⟩:=ho
   obtain⟨t2,r2,rfl⟩:=qa4 a2
   by_cases hb2:t2.bad=0
   case neg=>
    have hnx2:nx (t2::r2)=none:=if_neg hb2
    rw[hnx2] at hx
    simp only[failP,if_neg hb2,Option.some.injEq] at hx
    subst hx
    obtain⟨fr,f1,f2⟩:=qo6 (q:=fun k=>qfs (hh k)) h hb hne z (qmj a1 hb2)
    exact⟨i1,fr,_,f1,f2⟩
   have hnx2:nx (t2::r2)=some t2.s:=if_pos hb2
   rw[hnx2] at hx
   simp only at hx
   cases hk:qby t2.s with
   | none=>
    rw[hk] at hx
    simp only[failP,if_pos hb2,Option.some.injEq] at hx
    subst hx
    obtain⟨fr,f1,f2⟩:=qo6 (q:=fun k=>qfs (hh k)) h hb hne z (qn9 a1 hb2 hk)
    exact⟨i1,fr,_,f1,f2⟩
   | some k=>
    rw[hk] at hx
    simp only at hx
    by_cases hd:(hh k).isSome=true
    ·rw[if_pos hd] at hx
     simp only[failP,if_pos hb2,Option.some.injEq] at hx
     subst hx
     obtain⟨b,hbb⟩:=Option.isSome_iff_exists.1 hd
     obtain⟨fr,f1,f2⟩:=qvk (s:=s) (q:=fun k=>qfs (hh k)) h hb hne z a1 hb2 hk (decide_eq_false (by simp only[hbb,qfs]; decide))
     exact⟨i1,fr,_,f1,f2⟩
    ·rw[if_neg hd] at hx
     have hno:hh k=none:=by simpa using hd
     have hq0:decide ((qfs (hh k)).k=0)=true:=decide_eq_true (by rw[hno]; rfl)
     obtain⟨n1,n2⟩:=hw.next a1 hb2 (fun e=>by rw[e,show qby ⟨#[]⟩=none by decide] at hk; cases hk)
     obtain⟨t3,r3,rfl⟩:=qa4 n2
     simp only[List.tail_cons] at hx
     cases hq3:qaW 12 2 true true false n 1 (t3::r3) with
     | none=>rw[hq3] at hx; cases hx
     | some y=>
      rw[hq3] at hx
      have hbk:=(qrM (s:=s) hw hT hP n).2.1 1 (i1+1) t3 r3 y n1 hq3
      cases y with
      | er a c=>
       simp only[Option.some.injEq] at hx
       subst hx
       obtain⟨i2,z2⟩:=hbk
       obtain⟨fr,f1,f2⟩:=qvl (q:=fun k=>qfs (hh k)) (by omega) h hb hne z a1 hb2 hk hq0 z2
       exact⟨i2,fr,_,f1,f2⟩
      | ok b r4=>
       simp only at hx
       obtain⟨i2,b1,b2,z2⟩:=hbk
       obtain⟨t4,r5,rfl⟩:=qa4 b2
       have zs:=qxf (q:=fun k=>qfs (hh k)) (by omega) h hb hne z a1 hb2 hk hq0 (by simp) (by simp) z2
       have hu:qwp (fun k=>qfs (hh k)) k ⟨7,0,⟨#[]⟩,kd false b.fo.len b.fo.cells,by simp,by simp⟩=fun j=>qfs (if j=k then some b else hh j):=by
        funext j
        unfold qwp
        split<;>rfl
       rw[hu] at zs
       have:=qlc hw hT hP n (fun j=>if j=k then some b else hh j) i2 t4 r5 x b1 hx
       cases x with
       | ok h' q=>
        obtain⟨i3,e1⟩:=this
        exact⟨i3,zs.trans e1⟩
       | er a c=>
        obtain⟨i3,fr,q',e1,e2⟩:=this
        exact⟨i3,fr,q',e1,zs.trans e2⟩
end
end Go.Pm
end SMd
section SMe
namespace Go.Pm
open F
set_option maxHeartbeats 4000000
attribute [local simp] qbj qbX dkey
section
variable {s:ByteArray} {T:List Tk} {i':Nat} {q:Nat->N4} {a c:Int}
theorem qnK (z:Z tP (.loop 3 F242l0 pgF (pgS s T 0 0 12 fun k=>qfs none))=some (.out (.exit 0) (pgF++[(8,.bool false)]) (pgS s T i' 0 12 q))):Z tP (.call 242 [.ptr 0 0] (PS s T 0 0 12))=some (.ret (qrr q) (PS s T i' 0 12)):=by
 have k0:=(q 0).one
 have k1:=(q 1).one
 have k2:=(q 2).one
 have c0:=(q 0).cl
 have c1:=(q 1).cl
 have c2:=(q 2).cl
 simp only[pgS,PS,pO,rob,qfs,List.cons_append,List.nil_append] at z
 refine Z_call (pf:=F242) rfl rfl ?_
 simp[F242,z,k0,k1,k2,c0,c1,c2,List.range_succ]
theorem ql1 {fr:Fr} (hf:fr.get 1000000=none) (z:Z tP (.loop 3 F242l0 pgF (pgS s T 0 0 12 fun k=>qfs none))=some (.out (.pan (.iface 1 (.int c))) fr (pgS s T i' a c q))):Z tP (.call 242 [.ptr 0 0] (PS s T 0 0 12))=some (.ret (qbr c) (PS s T i' a c)):=by
 simp only[pgS,PS,pO,rob,qfs,List.cons_append,List.nil_append] at z
 refine Z_call (pf:=F242) rfl rfl ?_
 simp[F242,z,hf,List.range_succ]
end
end Go.Pm
end SMe
section SMf
namespace Go.Pm
open F
set_option maxHeartbeats 4000000
attribute [local simp] qbj qbX dkey
section
variable {s:ByteArray} {T:List Tk} {i':Nat} {q:Nat->N4} {a c:Int}
theorem qpH (h:(2000:Int)<s.size):Z tP (.call 228 [.str s] [])=some (.ret (.tup [qrr fun _=>qfs none,.int 2000,.int 2]) []):=by
 refine Z_call (pf:=F228) rfl rfl ?_
 simp[F228,h,V.len,qfs,List.range_succ]
abbrev dS (s:ByteArray) (T:List Tk) (q:Nat->N4) (x y:Int) (i a c:Int):S:=[.cells [.ptr 4 0],rob q,.cells [.int x],.cells [.int y],pO s 5 (.gsl (ptC T) T.length 5 6) i a c,.map kwM,.tip (ptC T).length]
theorem qpI {x y i a c:Int}:Z tP (.dcall 240 [.dat (.lit .nilIface),.ptr 0 0,.ptr 1 0,.ptr 2 0,.ptr 3 0] (dS s T q x y i a c))=some (.ret (.dat (.lit undef)) (dS s T q x y i a c)):=by
 have k0:=(q 0).one
 have k1:=(q 1).one
 have k2:=(q 2).one
 have c0:=(q 0).cl
 have c1:=(q 1).cl
 have c2:=(q 2).cl
 refine qlK (pf:=F240) rfl ?_
 have hfl:F240.body.flat=true:=rfl
 simp only[qbh]
 rw[if_pos ⟨rfl,rfl,rfl,hfl,.inl rfl⟩]
 simp[F240,qi2,k0,k1,k2,c0,c1,c2,List.range_succ]
theorem qru (h : ¬ (2000:Int)<s.size) (zt:Z tP (.call 249 [.yld 0,.ptr 1 0] (TT0 s))=some (.ret (.tup []) (TT1 s (ptC T) T.length)))
  (z:Z tP (.call 242 [.ptr 0 0] (PS s T 0 0 12))=some (.ret (qrr q) (PS s T i' 0 12))):Z tP (.call 228 [.str s] [])=some (.ret (.tup [qrr q,.int 0,.int 0]) []):=by
 have z1:=qiS s
 have z2:=qk8 s
 have k0:=(q 0).one
 have k1:=(q 1).one
 have k2:=(q 2).one
 have c0:=(q 0).cl
 have c1:=(q 1).cl
 have c2:=(q 2).cl
 simp only[pO] at z2
 simp only[TT0,TT1,pO] at zt
 simp only[PS,pO] at z
 have zd:=qpI (s:=s) (T:=T) (q:=q) (x:=0) (y:=0) (i:=i') (a:=0) (c:=12)
 simp only[dS,pO,rob] at zd
 refine Z_call (pf:=F228) rfl rfl ?_
 simp[F228,z1,z2,zt,z,zd,h,V.len,k0,k1,k2,c0,c1,c2,List.range_succ]
end
end Go.Pm
end SMf
section SMg
namespace Go.Pm
open F
set_option maxHeartbeats 4000000
attribute [local simp] qbj qbX dkey
section
variable {s:ByteArray} {T:List Tk} {i':Nat} {a c:Int}
abbrev q0:Nat->N4:=fun _=>qfs none
theorem qoC {i a c:Int}:Z tP (.dcall 240 [.iface 1 (.int c),.ptr 0 0,.ptr 1 0,.ptr 2 0,.ptr 3 0] (dS s T q0 0 0 i a c))=some (.ret (.dat (.lit undef)) (dS s T q0 a c i a c)):=by
 refine qlK (pf:=F240) rfl ?_
 have hfl:F240.body.flat=true:=rfl
 simp only[qbh]
 rw[if_pos ⟨rfl,rfl,rfl,hfl,.inl rfl⟩]
 simp[F240,qi2,qfs,qdl,qbf,List.range_succ]
theorem qoD (h : ¬ (2000:Int)<s.size) (zt:Z tP (.call 249 [.yld 0,.ptr 1 0] (TT0 s))=some (.ret (.tup []) (TT1 s (ptC T) T.length)))
  (z:Z tP (.call 242 [.ptr 0 0] (PS s T 0 0 12))=some (.ret (qbr c) (PS s T i' a c))):Z tP (.call 228 [.str s] [])=some (.ret (.tup [qrr fun _=>qfs none,.int a,.int c]) []):=by
 have z1:=qiS s
 have z2:=qk8 s
 simp only[pO] at z2
 simp only[TT0,TT1,pO] at zt
 simp only[PS,pO] at z
 have zd:=qoC (s:=s) (T:=T) (i:=i') (a:=a) (c:=c)
 simp only[dS,pO,rob,q0,qfs] at zd
 refine Z_call (pf:=F228) rfl rfl ?_
 simp[F228,z1,z2,zt,z,zd,h,V.len,qfs,qae,V.isNilIf,List.range_succ]
end
end Go.Pm
end SMg
section SMh
namespace Go.Pm
open F
set_option maxHeartbeats 1000000
theorem qlb (s:ByteArray) : ∀ n i,(qbM 12 2 6 s n i).length<=n+1
 | 0,i=>by simp[qbM]
 | n+1,i=>by
  rw[qbM]
  have:=qlb s n
  split
  ·simp
  ·simp only[List.length_cons]; have:=this ((tokAt 12 2 6 s (qhb s (s.size-i) false i)).at_+(tokAt 12 2 6 s (qhb s (s.size-i) false i)).s.size); omega
theorem qqU (s:ByteArray) : ∀ n i,qbM 12 2 6 s n i≠[]
 | 0,i=>by simp[qbM]
 | n+1,i=>by rw[qbM]; split<;>simp
theorem qo4 (s:ByteArray) (hP : ∀ t∈qhh s,TokP t):Z tP (.call 228 [.str s] [])=some (.ret (qif true true false s) []):=by
 unfold qif
 by_cases hbig:2000<s.size
 ·have:qcz true true false s = .er 2000 2:=by rw[qcz,if_pos hbig]
  rw[this]
  exact qpH (by omega)
 ·have hlen:=qlb s (s.size+1) 0
  have hT:(qhh s).length<2 ^ 30:=by show (qbM 12 2 6 s (s.size+1) 0).length<_; omega
  have hw:WfQ (qhh s):=qpJ s _ 0
  have zt:=qpK s (by omega)
  obtain⟨t,r,htr⟩:=qa4 (show qhh s≠[] from qqU s _ 0)
  have hv:=qdK (f:=true) (fi:=true) (fb:=false) hbig
  have hp:=hv
  rw[htr] at hp
  have:=qlc (s:=s) hw hT hP _ (fun _=>none) 0 t r _ (by rw[List.drop_zero]; exact htr) hp
  cases hx:qcz true true false s with
  | ok h' ts=>
   rw[hx] at this
   obtain⟨i',z⟩:=this
   exact qru (by omega) zt (qnK z)
  | er a c=>
   rw[hx] at this
   obtain⟨i',fr,q',f1,z⟩:=this
   exact qoD (by omega) zt (ql1 f1 z)
theorem qo5 (s:ByteArray) (hl:s.size<2 ^ 30) : ∀ n i,∀ t∈qbM 12 2 6 s n i,TokP t
 | 0,i,t,h=>by
  simp only[qbM,List.mem_singleton] at h
  rw[h]
  exact⟨fun _=>show (⟨#[]⟩:ByteArray)≠qS by decide,fun _ h=>(by cases h)⟩
 | n+1,i,t,h=>by
  have one : ∀ j,TokP (tokAt 12 2 6 s j):=fun j=>by
   by_cases hj:j<s.size
   ·exact qtO hl hj
   ·have hd:(byl s).drop j=[]:=List.drop_eq_nil_of_le (by rw[qar]; omega)
    rw[qct,hd]
    exact⟨fun _=>show (⟨#[]⟩:ByteArray)≠qS by decide,fun _ h=>(by cases h)⟩
  rw[qbM] at h
  split at h
  ·rw[List.mem_singleton.1 h]; exact one _
  ·rcases List.mem_cons.1 h with h | h
   ·rw[h]; exact one _
   ·exact qo5 s hl n _ t h
theorem qqV (s:ByteArray) (hl:s.size<2 ^ 30):Z tP (.call 228 [.str s] [])=some (.ret (qif true true false s) []):=qo4 s (qo5 s hl _ 0)
end Go.Pm
end SMh
section SUh
namespace Go.Pm
open F
set_option maxHeartbeats 4000000
abbrev Sub (p q:Nat->Option PFun):Prop := ∀ f pf,p f=some pf->q f=some pf
structure Has (prog:Nat->Option PFun):Prop where
 b:Sub qbv prog
 r:Sub tR prog
 s:Sub tS prog
 p:Sub tP prog
 q:Sub tQ prog
 e:Sub tE prog
 k:Sub tK prog
section
variable {prog:Nat->Option PFun} (H:Has prog)
include H
theorem qoF {v:D} {xs:List Int} (h:RowV v xs) (hx : ∀ x∈xs,I64 x) : ∃ a b c:Hd,a.gen/\b.gen/\c.gen/\a.cost+(b.cost+c.cost)<=1440/\Z prog (.call 227 [.dat v] [])=some (.ret (.str (bs (qam false (qaG (Hd.opts a b c))))) []):=by
 obtain⟨a,b,c,ha,hb,⟨hc,hco⟩,zp⟩:=qn1 h hx
 refine⟨a,b,c,ha,hb,hc,hco,?_⟩
 have hl:=qro a b c
 have zs:=qlM H.s (qqH (qlo ha hb hc) (by omega))
 have zp':=qlM H.b zp
 have k0:=h.one
 have k1:=h.cells
 refine Z_call (H.k 227 F227 rfl) rfl ?_
 generalize bs (qam false (qaG (Hd.opts a b c)))=R at *
 generalize ru a.nd b.nd c.nd=r at *
 simp -implicitDefEqProofs [F227,zp',zs]
theorem qjP (s:ByteArray) (hl:s.size<2 ^ 30):Z prog (.call 228 [.str s] [])=some (.ret (qif true true false s) []):=qlM H.p (qqV s hl)
end
def hdO:Option Ss->Hd
 | none => .none
 | some b => .some false b
theorem qjQ (o:Option Ss):(hdO o).opt=o:=by cases o<;>rfl
theorem qsv (o:Option Ss):(qfs o).k=(hdO o).nd.k/\(qfs o).n=(hdO o).nd.n/\(qfs o).s=(hdO o).nd.s/\(qfs o).d=(hdO o).nd.d:=by cases o<;>exact⟨rfl,rfl,rfl,rfl⟩
theorem qlU (h:Nat->Option Ss):qrr (fun k=>qfs (h k)) = .dat (ru (hdO (h 0)).nd (hdO (h 1)).nd (hdO (h 2)).nd):=by
 obtain⟨a1,a2,a3,a4⟩:=qsv (h 0)
 obtain⟨b1,b2,b3,b4⟩:=qsv (h 1)
 obtain⟨c1,c2,c3,c4⟩:=qsv (h 2)
 simp only[qrr,ru,a1,a2,a3,a4,b1,b2,b3,b4,c1,c2,c3,c4]
theorem qkS (h:Nat->Option Ss):qaG (Hd.opts (hdO (h 0)) (hdO (h 1)) (hdO (h 2)))=qaG h:=by
 unfold qaG
 simp only[Hd.opts,qjQ]
theorem qqp {h:Nat->Option Ss} (hg : ∀ k,qcD (h k)) : ∀ k,qcD (Hd.opts (hdO (h 0)) (hdO (h 1)) (hdO (h 2)) k)
 | 0=>by rw[Hd.opts,qjQ]; exact hg 0
 | 1=>by rw[Hd.opts,qjQ]; exact hg 1
 | _+2=>by show qcD (hdO (h 2)).opt; rw[qjQ]; exact hg 2
theorem qcX (full:Bool) : ∀ (e:E) p,e.size<=(e.tx full p).length
 | .int n,p | .bool n,p | .var s,p | .name s,p=>by simp[E.tx]
 | .field _ s e,p=>by have:=qcX full e 1; simp[E.tx]; omega
 | .un _ neg e,p=>by
  have:=qcX full e (qcZ neg)
  have h : ∀ b l,l.length<=(qbz b l).length:=fun b l=>by cases b<;>simp[qbz]; omega
  have h2:=h (full||decide (qcZ neg<p)) (ustr neg::e.tx full (qcZ neg))
  simp only[E.tx,qmh]
  simp only[List.length_cons] at h2
  omega
 | .bin _ o a b,p=>by
  have h1:=qcX full a o.left
  have h3:=qcX full b (o.prec+1)
  have h : ∀ b l,l.length<=(qbz b l).length:=fun b l=>by cases b<;>simp[qbz]; omega
  have h2:=h (full||decide (o.prec<p)) (a.tx full o.left++o.str::b.tx full (o.prec+1))
  simp only[E.tx,qhu]
  simp only[List.length_append,List.length_cons] at h2
  omega
theorem qdp : ∀ s:Ss,(s.good none\/s.good (some 1)\/s.good (some 2))->s.fo.size<=s.tx.length
 | .nil,_=>by simp[Ss.fo]
 | .assign _ s e r,h=>by
  have hr:r.good none:=by rcases h with h | h | h<;>simp[Ss.good] at h<;>exact h.2.2
  have h1:=qdp r (.inl hr); have h2:=qcX false e 1
  simp[Ss.fo,Ss.tx,qdL]; omega
 | .store _ s a b r,h=>by
  have hr:r.good none:=by rcases h with h | h | h<;>simp[Ss.good] at h<;>exact h.2.2.2
  have h1:=qdp r (.inl hr); have h2:=qcX false a 1; have h3:=qcX false b 1
  simp[Ss.fo,Ss.tx,qdL]; omega
 | .effect _ a b r,h=>by
  have hr:r.good none:=by rcases h with h | h | h<;>simp[Ss.good] at h<;>exact h.2.2
  have h1:=qdp r (.inl hr); have h2:=qcX false a 1; have h3:=qcX false b 1
  simp[Ss.fo,Ss.tx,qdL]; omega
 | .stop r,h=>by
  have hr:r.good none:=by rcases h with h | h | h<;>simp[Ss.good] at h<;>exact h
  have h1:=qdp r (.inl hr)
  simp[Ss.fo,Ss.tx]; omega
 | .cond w _ c b r,h=>by
  have hr:b.good (some (if w then 1 else 2))/\r.good none:=by rcases h with h | h | h<;>simp[Ss.good] at h<;>exact h.2
  have h1:=qdp r (.inl hr.2); have h2:=qcX false c 1
  have h3:=qdp b (by cases w; exact .inr (.inr hr.1); exact .inr (.inl hr.1))
  simp[Ss.fo,Ss.tx,qdL]; omega
 | .block _ b r,h=>by
  have key:b.good none/\(r.good (some 0)\/r.good (some 1)):=by
   rcases h with h | h | h
   ·obtain⟨n,hn,_⟩:=h; cases hn
   ·obtain⟨n,hn,h1,h2⟩:=h; simp at hn; subst hn; exact⟨h1,.inl h2⟩
   ·obtain⟨n,hn,h1,h2⟩:=h; simp at hn; subst hn; exact⟨h1,.inr h2⟩
  obtain⟨hb,hr⟩:=key
  have h1:=qdp b (.inl hb)
  have hr0:qcR r=false->r.fo.size<=1:=fun he=>by
   rcases hr with hr | hr
   ·cases r with
    | nil=>simp[Ss.fo]
    | block _ _ _=>obtain⟨n,hn,_⟩:=hr; simp at hn
    | _=>simp[Ss.good] at hr
   ·obtain⟨fb,b1,rfl,_⟩:=qkl hr
    cases b1<;>simp[qcR] at he
    simp[Ss.fo]
  have hr1:qcR r=true->r.fo.size<=r.tx.length:=fun he=>by
   rcases hr with hr | hr
   ·cases r with
    | nil=>simp[qcR] at he
    | block _ _ _=>obtain⟨n,hn,_⟩:=hr; simp at hn
    | _=>simp[Ss.good] at hr
   ·exact qdp r (.inr (.inl hr))
  cases he:qcR r with
  | true=>
   have:=hr1 he
   simp[Ss.fo,Ss.tx,he]; omega
  | false=>
   have:=hr0 he
   simp[Ss.fo,Ss.tx,he]; omega
theorem qsw {h:Nat->Option Ss} (hg : ∀ k,qcD (h k)) (hl:(qam false (qaG h)).length<=2000) : ∀ k,k<3->(hdO (h k)).nd.ks.size<=2000:=by
 intro k hk
 cases hb:h k with
 | none=>simp[hdO,Hd.ks]
 | some b=>
  have hgood:=(hg k b hb).1
  have h1:=qdp b (.inl hgood)
  have h2:=qfj (qdH k (some b)) false (fun t ht=>by
   have hcl:=(qq0 (k:=k) (h:=some b) (fun x hx=>by cases hx; exact hg k b hb)).ok
   exact qev (qig hcl t ht))
  have h3:=qkr h
  have h4:(qam false (qdH k (some b))).length<=(qam false (qaG h)).length:=by
   rw[h3]
   obtain rfl | rfl | rfl:k=0\/k=1\/k=2:=by omega
   all_goals rw[hb]; omega
  have h5:b.tx.length<=(qdH k (some b)).length:=by simp[qdH]; omega
  show b.fo.size<=2000
  omega
end Go.Pm
end SUh
section SUj
namespace Go.Pm
open F
set_option maxHeartbeats 8000000
theorem qog {f fi fb:Bool} {s:ByteArray} {h:Nat->Option Ss} {r:List Tk} (hp:qcz f fi fb s = .ok h r) (k:Nat):(h k).map (·.fl f fi fb)=h k:=by
 have e:=qpB f fi fb f fi fb s
 rw[hp] at e
 simp only[Rz.map,Rz.ok.injEq,and_true] at e
 exact (congrFun e k).symm
theorem qmt {f fi fb:Bool} {s:ByteArray} {h:Nat->Option Ss} {r:List Tk} (hp:qcz f fi fb s = .ok h r) : ∃ r',qcz f fi fb (bs (qam false (qaG h))) = .ok h r':=by
 obtain⟨hg,h3,hl,hs⟩:=qjw hp
 obtain⟨r',e⟩:=qir (f:=f) (fi:=fi) (fb:=fb) hg (by omega)
 refine⟨r',?_⟩
 rw[e]
 congr 1
 funext k
 by_cases hk:k<3
 ·rw[if_pos hk,qog hp k]
 ·rw[if_neg hk,h3 k (by omega)]
theorem qiu (A:Nd):ndEq A.k A.n A.s A.ks A.k A.n A.s A.ks=true:=by simp[ndEq,qkt]
structure HasD (prog:Nat->Option PFun):Prop extends Has prog where
 kd:Sub tKd prog
section
variable {prog:Nat->Option PFun} (H:Has prog)
include H
theorem qyQ {s:ByteArray} (hs:s.size<2 ^ 30) {h:Nat->Option Ss} {r:List Tk} (hp:qcz true true false s = .ok h r) : ∃ (A B C:Nd) (S:ByteArray),S=bs (qam false (qaG h))/\S.size<=s.size/\S.size<=2000/\A=(hdO (h 0)).nd/\B=(hdO (h 1)).nd/\C=(hdO (h 2)).nd /\
  Z prog (.call 228 [.str s] [])=some (.ret (.tup [.dat (ru A B C),.int 0,.int 0]) [])/\Z prog (.call 231 [.dat (ru A B C)] [])=some (.ret (.str S) []) /\
  Z prog (.call 228 [.str S] [])=some (.ret (.tup [.dat (ru A B C),.int 0,.int 0]) [])/\Z prog (.call 232 [.dat (ru A B C),.dat (ru A B C)] [])=some (.ret (.bool true) []):=by
 obtain⟨hg,h3,hl,hb⟩:=qjw hp
 obtain⟨r',h2⟩:=qmt hp
 have hsz:=qsw hg (by omega)
 refine⟨_,_,_,_,rfl,by rw[qas]; exact hl,by rw[qas]; omega,rfl,rfl,rfl,?_,?_,?_,?_⟩
 ·have z:=qjP H s hs
  rw[qif,hp] at z
  simp only[qlU] at z
  exact z
 ·have z:=qlM H.q (qtI (qqp hg) (by rw[qkS]; omega))
  rw[qkS] at z
  exact z
 ·have z:=qjP H (bs (qam false (qaG h))) (by rw[qas]; omega)
  rw[qif,h2] at z
  simp only[qlU] at z
  exact z
 ·have z:=qlM H.e (qqt (a:=(hdO (h 0)).nd) (b:=(hdO (h 1)).nd) (c:=(hdO (h 2)).nd) (a':=(hdO (h 0)).nd) (b':=(hdO (h 1)).nd) (c':=(hdO (h 2)).nd) (by have:=hsz 0 (by omega); omega) (by have:=hsz 1 (by omega); omega) (by have:=hsz 2 (by omega); omega))
  rw[qiu,qiu,qiu] at z
  exact z
theorem qx4 {s:ByteArray} (hs:s.size<2 ^ 30) {h:Nat->Option Ss} {r:List Tk} (hp:qcz true true false s = .ok h r) : ∃ (A B C:Nd),A=(hdO (h 0)).nd/\B=(hdO (h 1)).nd/\C=(hdO (h 2)).nd/\Z prog (.call 228 [.str s] [])=some (.ret (.tup [.dat (ru A B C),.int 0,.int 0]) []):=by
 refine⟨_,_,_,rfl,rfl,rfl,?_⟩
 have z:=qjP H s hs
 rw[qif,hp] at z
 simp only[qlU] at z
 exact z
end
end Go.Pm
end SUj
section SUr
namespace Go.Pm
open F
set_option maxHeartbeats 8000000
structure HasZ (prog:Nat->Option PFun):Prop extends Has prog where
 ez:Sub tEz prog
 kz:Sub tKz prog
theorem qnU (f fi fb:Bool) (h:Nat->Option Ss):qaG (qqc f fi fb h)=qaG h:=by
 have e : ∀ k,qdH k (qqc f fi fb h k)=qdH k (h k):=fun k=>by
  unfold qqc
  cases h k with
  | none=>rfl
  | some b=>simp[qdH,qha]
 simp only[qaG,e]
end Go.Pm
end SUr
section SWf
namespace Go.Pm
theorem qoL : ∀ {l:List ByteArray} {ts r:List Tk},Hx l ts r -> ∃ A,ts=A++r/\A.map (·.s)=l /\ ∀ t∈A,t.bad=0
 | [],ts,r,h=>⟨[],h,rfl,fun t ht=>by cases ht⟩
 | x::l,ts,r,h=>by
  obtain⟨t,q,rfl,h1,h2,h3⟩:=h
  obtain⟨A,a1,a2,a3⟩:=qoL h3
  refine⟨t::A,by rw[a1]; rfl,by simp[a2,h1],fun u hu=>?_⟩
  rcases List.mem_cons.1 hu with rfl | hu
  ·exact h2
  ·exact a3 u hu
theorem qoM (s:ByteArray) : ∀ (n j:Nat),∀ t∈allT s n j,t.s.size≠0
 | 0,j,t,h=>by simp[allT] at h
 | n+1,j,t,h=>by
  rw[allT] at h
  split at h
  ·rename_i hlt
   rcases List.mem_cons.1 h with rfl | h
   ·have:=(qeY hlt 12 2 6).1
    omega
   ·exact qoM s n _ t h
  ·cases h
theorem qkV : ∀ (l:List Tk) (e:Tk),(∀ t∈l,t.s.size≠0)->(∀ t∈qoc (l++[e]),t.bad=0)->qoc (l++[e])=l++[e]
 | [],e,_,_=>by simp[qoc]
 | t::l,e,h,hb=>by
  rw[List.cons_append,qoc] at hb ⊢
  have h1:=h t (List.mem_cons_self ..)
  by_cases hc:t.bad≠0\/t.s.size=0
  ·rw[if_pos hc] at hb
   have:=hb t (by simp)
   rcases hc with hc | hc
   ·exact absurd this hc
   ·exact absurd hc h1
  ·rw[if_neg hc] at hb ⊢
   rw[qkV l e (fun u hu=>h u (List.mem_cons_of_mem _ hu)) (fun u hu=>hb u (List.mem_cons_of_mem _ hu))]
theorem qsB {s:ByteArray} {l:List ByteArray} {e:Nat} (hx:Hx l (qhh s) [⟨e,⟨#[]⟩,0⟩]):(refT s).map (·.s)=l++[⟨#[]⟩]:=by
 obtain⟨A,a1,a2,a3⟩:=qoL hx
 have h1:qoc (refT s)=qhh s:=qrE s
 have h2:qoc (refT s)=refT s:=qkV _ _ (qoM s _ _) (by
  have:qoc (allT s (s.size+1) (qaD false (byl s))++[⟨s.size,⟨#[]⟩,0⟩])=qhh s:=h1
  rw[this,a1]
  intro t ht
  rcases List.mem_append.1 ht with ht | ht
  ·exact a3 t ht
  ·rw[List.mem_singleton.1 ht])
 rw[<- h2,h1,a1,List.map_append,a2]
 rfl
def GapOk (g:List UInt8):Prop:=White g/\g.length<=8 /\ ∃ c q,g=c::q/\(c.toNat=32\/c.toNat=10\/c.toNat=9\/c.toNat=35)
theorem qmL : ∀ {l:List (List UInt8 × ByteArray)},(∀ p∈l,GapOk p.1/\Tg (byl p.2))->OkG l
 | [],_=>trivial
 | (g,t)::l,h=>by
  obtain⟨⟨h1,_,h2⟩,h3⟩:=h (g,t) (List.mem_cons_self ..)
  refine⟨h1,h3,fun p hp=>?_,qmL fun p hp=>h p (List.mem_cons_of_mem _ hp)⟩
  obtain⟨⟨_,_,h4⟩,_⟩:=h p (List.mem_cons_of_mem _ (List.mem_of_mem_head? hp))
  exact .inl h4
theorem qkW {f fi fb:Bool} {h:Nat->Option Ss} (hg : ∀ k,qcD (h k)) {l:List (List UInt8 × ByteArray)} {w:List UInt8} (hl:l.map (·.2)=qaG h) (hgap : ∀ p∈l,GapOk p.1) (hw:GapOk w) {s:ByteArray} (hs:byl s=qc4 l++w) (hsz:s.size<=2000) :
  ∃ r,qcz f fi fb s = .ok (fun k=>if k<3 then (h k).map (·.fl f fi fb) else none) r:=by
 obtain⟨e,hx⟩:=qiO 12 2 6 (qmL fun p hp=>⟨hgap p hp,qig (ql4 hg).ok _ (by rw[<- hl]; exact List.mem_map_of_mem hp)⟩) hw.1 (.inr hw.2.2) hs
 rw[hl] at hx
 exact⟨_,qlA (by omega) (rbP hg hx rfl)⟩
theorem qkX : ∀ (a b:List (List UInt8 × ByteArray)),qc4 (a++b)=qc4 a++qc4 b
 | [],b=>rfl
 | (g,t)::a,b=>by simp[qc4,qkX a b]
theorem qoN : ∀ g∈([[32],[10],[32,32,9],[35,97,123,10],[10,35,32,111,110,10,32],[32]]:List (List UInt8)),GapOk g:=by
 have hw : ∀ g∈([[32],[10],[32,32,9],[35,97,123,10],[10,35,32,111,110,10,32],[32]]:List (List UInt8)),White g:=by
  intro g hg r
  simp only[List.mem_cons,List.not_mem_nil,or_false] at hg
  rcases hg with rfl | rfl | rfl | rfl | rfl | rfl<;>simp[qaD]<;>omega
 intro g hg
 refine⟨hw g hg,?_⟩
 simp only[List.mem_cons,List.not_mem_nil,or_false] at hg
 rcases hg with rfl | rfl | rfl | rfl | rfl | rfl<;>exact⟨by decide,_,_,rfl,by decide⟩
end Go.Pm
end SWf
section SWg
namespace Go.Pm
open F
set_option maxHeartbeats 8000000
def gapL:List (List UInt8):=[[32],[10],[32,32,9],[35,97,123,10],[10,35,32,111,110,10,32],[32]]
def qwt:List ByteArray:=[⟨#[32]⟩,⟨#[10]⟩,⟨#[32,32,9]⟩,⟨#[35,97,123,10]⟩,⟨#[10,35,32,111,110,10,32]⟩,⟨#[32]⟩]
abbrev gfr (v:D) (T:List Tk) (out:ByteArray) (i:Int):Fr:=[(1,.dat v),(5,.dat (.sl (tkC T) T.length false)),(6,.str out),(7,.int i)]
section
variable {prog:Nat->Option PFun} (H:HasZ prog)
include H
theorem qpg {T:List Tk} {i:Nat} (hi:i<T.length) (hT:T.length<=2 ^ 30) {v:D} {xs:List Int} (hv:RowV v xs) (hx : ∀ x∈xs,I64 x) {out:ByteArray} (ho:out.size+(qk0 T i).s.size<2 ^ 40) {i1:Int} (e1:i1=i+1) :
  ∃ g∈gapL,Z prog (.loop 0 F314l0 (gfr v T out i) [])=Z prog (.loop 0 F314l0 (gfr v T (out++bs g++(qk0 T i).s) i1) []):=by
 have w1:IntKind.i64.wrap ((i:Int)+1)=i1:=by rw[qaf _ (by omega)]; omega
 have hlt:(i:Int)<T.length:=by omega
 have a1:=qw7 T hi
 have a2:=qsE hi
 have l1:=qg7 ([]:S) (tkC T) T.length false
 have k0:=hv.one
 have k1:=hv.cells
 obtain⟨n,hn0,hn,hL,hnum⟩ : ∃ n:Int,0<=n/\n<6/\(∀ σ,V.len σ .sl (.dat v)=some (xs.length:Int))/\((n=0 /\ ¬ (i:Int)<xs.length)\/((i:Int)<xs.length /\ ∃ c,qah 1 (.dat v) (i:Int)=some (.dat (.imm (qcu xs) i))/\cutCells (qcu xs) i 1=some [.lit (.int .i64 c)]/\Z prog (.call 17 [.int c,.int 6] [])=some (.ret (.int n) []))):=by
  rcases hv with ⟨o,rfl,rfl⟩ | rfl
  ·exact⟨0,by omega,by omega,fun σ => rfl,.inl ⟨rfl,by simp⟩⟩
  ·by_cases h:(i:Int)<xs.length
   ·have hlt2:i<xs.length:=by omega
    have hI:=hx _ (List.getElem_mem hlt2)
    have z:=qlM H.b (qnl hI (m:=6) (by omega))
    have r:=qlk hI (m:=6) (by omega)
    exact⟨_,r.1,r.2,fun σ => rfl,.inr ⟨h,xs[i],qdi (qcu xs) xs.length false i (by omega) (by omega),qhF xs i hlt2,z⟩⟩
   ·exact⟨0,by omega,by omega,fun σ => rfl,.inl ⟨rfl,h⟩⟩
 have hat:=qdi (strC qwt) 6 true n hn0 (by omega)
 obtain⟨s,hs,hc⟩:=qgN (l:=qwt) (p:=n) ⟨hn0,hn⟩
 have hs7:s.size<=7:=by
  have : ∀ s∈qwt,s.size<=7:=by decide
  exact this s hs
 have hs2:s∈gapL.map bs:=hs
 obtain⟨g,hg,hgs⟩:=List.mem_map.1 hs2
 refine⟨g,hg,?_⟩
 rw[hgs]
 simp only[qwt,strC,List.map] at hat hc
 generalize (qk0 T i).s=t at *
 obtain⟨o1,q1⟩ : ∃ o1,out++s=o1:=⟨_,rfl⟩
 have z1:o1.size=out.size+s.size:=by rw[<- q1,ByteArray.size_append]
 obtain⟨o2,q2⟩ : ∃ o2,o1++t=o2:=⟨_,rfl⟩
 rw[q1,q2]
 have g1 : ¬ (9223372036854775807:Int)<(out.size:Int)+s.size:=by omega
 have g2 : ¬ (9223372036854775807:Int)<(o1.size:Int)+t.size:=by omega
 conv=>lhs; rw[qaa]
 clear z1 hs2 hgs hg hs hv hx
 rcases hnum with ⟨rfl,hge⟩ | ⟨hlt2,c,c1,c2,c3⟩
 ·have hs0:s=⟨#[32]⟩:=by simpa using hc.symm
  have f1:(⟨#[32]⟩:ByteArray).size=1:=rfl
  rw[hs0] at q1
  have g1 : ¬ (9223372036854775807:Int)<(out.size:Int)+1:=by omega
  simp -implicitDefEqProofs [qac,qgK,f1,hL,hlt,hge,l1,w1,k0,k1,hat,hc,a1,a2,q1,q2,g1,g2,List.range_succ]
 ·simp -implicitDefEqProofs [qac,qgK,hL,hlt,hlt2,c1,c2,c3,l1,w1,k0,k1,hat,hc,a1,a2,q1,q2,g1,g2,List.range_succ]
theorem qmZ {T:List Tk} (hT:T.length<=2 ^ 30) {v:D} {xs:List Int} (hv:RowV v xs) (hx : ∀ x∈xs,I64 x) : ∀ (k i:Nat),i+k=T.length -> ∀ (out:ByteArray),out.size+8*wt ((T.drop i).map (·.s))<2 ^ 40 ->
  ∃ (L:List (List UInt8 × ByteArray)) (out':ByteArray) (b:V),L.map (·.2)=(T.drop i).map (·.s)/\(∀ p∈L,p.1∈gapL)/\byl out'=byl out++qc4 L/\Z prog (.loop 0 F314l0 (gfr v T out i) [])=some (.out (.exit 0) [(1,.dat v),(5,.dat (.sl (tkC T) T.length false)),(6,.str out'),(7,.int T.length),(14,.bool false)] [])
 | 0,i,h,out,_=>by
  obtain rfl:i=T.length:=by omega
  refine⟨[],out,.int 0,by simp,by simp,by simp[qc4],?_⟩
  have k0:=hv.one
  have k1:=hv.cells
  have l1:=qg7 ([]:S) (tkC T) T.length false
  rw[qaa]
  simp[qac,qgK,l1,k0,k1]
 | k+1,i,h,out,ho=>by
  have hi:i<T.length:=by omega
  have hd:T.drop i=qk0 T i::T.drop (i+1):=by rw[List.drop_eq_getElem_cons hi,qoQ hi]
  rw[hd,List.map_cons,wt] at ho
  obtain⟨g,hg,z⟩:=qpg H hi hT hv hx (out:=out) (by omega) (i1:=((i+1:Nat):Int)) (by omega)
  have hg7:g.length<=7:=by
   have : ∀ g∈gapL,g.length<=7:=by decide
   exact this g hg
  obtain⟨L,out',b,h1,h2,h3,h4⟩:=qmZ hT hv hx k (i+1) (by omega) (out++bs g++(qk0 T i).s) (by rw[ByteArray.size_append,ByteArray.size_append,qas]; omega)
  refine⟨(g,(qk0 T i).s)::L,out',b,by rw[hd]; simp[h1],?_,?_,z.trans h4⟩
  ·intro p hp
   rcases List.mem_cons.1 hp with rfl | hp
   ·exact hg
   ·exact h2 p hp
  ·rw[h3,qdO,qa6,qdO,qa6,qa6]
   simp[qc4]
theorem qq1 {h:Nat->Option Ss} (hg : ∀ k,qcD (h k)) (hw:wt (qaG h)<=2000) {v:D} {xs:List Int} (hv:RowV v xs) (hx : ∀ x∈xs,I64 x) :
  ∃ (l:List (List UInt8 × ByteArray)) (w:List UInt8) (S:ByteArray),l.map (·.2)=qaG h/\(∀ p∈l,GapOk p.1)/\GapOk w/\byl S=qc4 l++w/\Z prog (.call 314 [.str (bs (qam false (qaG h))),.dat v] [])=some (.ret (.str S) []):=by
 have hlen:=qkf (qaG h) false
 obtain⟨e,hx1⟩:=qlB (ql4 hg).ok
 have hT:=qsB hx1
 obtain⟨z1,z2⟩:=qrD (bs (qam false (qaG h))) (by rw[qas]; omega)
 have z1:=qlM H.r z1
 rw[qas] at z2
 generalize refT (bs (qam false (qaG h)))=T at *
 obtain⟨L,out',b,h1,h2,h3,h4⟩:=qmZ H (T:=T) (by omega) hv hx T.length 0 (by omega) ⟨#[]⟩ (by
  rw[List.drop_zero,hT,qdU]
  show 0+8*(_+(0+1+0))<_
  omega)
 rw[List.drop_zero,hT] at h1
 obtain⟨l,q,rfl⟩ : ∃ l q,L=l++[q]:=by
  rcases List.eq_nil_or_concat L with rfl | ⟨l,q,rfl⟩
  ·simp at h1
  ·exact⟨l,q,by simp⟩
 rw[List.map_append,List.map_cons,List.map_nil] at h1
 have h5:=List.append_inj' h1 rfl
 have hq:q.2=⟨#[]⟩:=by have:=h5.2; simpa using this
 refine⟨l,q.1,out',h5.1,fun p hp=>qoN _ (h2 p (List.mem_append_left _ hp)),qoN _ (h2 q (by simp)),?_,?_⟩
 ·rw[h3,qkX]
  simp[qc4,hq,byl]
 ·have k0:=hv.one
  have k1:=hv.cells
  have h4':Z prog (.loop 0 F314l0 (gfr v T ⟨#[]⟩ 0) [])=_:=h4
  refine Z_call (H.kz 314 F314 rfl) rfl ?_
  simp -implicitDefEqProofs [F314,k0,k1,z1,h4']
theorem qiE (zl:Z prog (.call 229 [] [])=some (.ret (.bool true) [])) {v u:D} {xs ys:List Int} (hv:RowV v xs) (hx : ∀ x∈xs,I64 x) (hu:RowV u ys) (hy : ∀ x∈ys,I64 x) :
  Z prog (.call 311 [.dat v,.dat u] [])=some (.ret (.bool true) []):=by
 obtain⟨a,b,c,ha,hb,hc,hco,zs⟩:=qoF H.toHas hv hx
 have hg:=qlo ha hb hc
 have hw:wt (qaG (Hd.opts a b c))<=1440:=by
  have h0:=qnY 0 a
  have h1:=qnY 1 b
  have h2:=qnY 2 c
  have:qaG (Hd.opts a b c)=qdH 0 a.opt++(qdH 1 b.opt++qdH 2 c.opt):=rfl
  rw[this,qdU,qdU]
  omega
 obtain⟨l,w,S,s1,s2,s3,s4,zp⟩:=qq1 H hg (by omega) hu hy
 have hlen:=qkf (qaG (Hd.opts a b c)) false
 obtain⟨r1,p1⟩:=qir (f:=true) (fi:=true) (fb:=false) hg (by omega)
 obtain⟨P,hP⟩ : ∃ P,P=bs (qam false (qaG (Hd.opts a b c))):=⟨_,rfl⟩
 have hPs:P.size<=1440:=by rw[hP,qas]; omega
 rw[<- hP] at zs zp p1
 obtain⟨A,B,C,Q,q1,_,_,e1,e2,e3,z1,z2,_,z4⟩:=qyQ H.toHas (s:=P) (by omega) p1
 have hQ:Q=P:=by
  rw[q1,hP]
  congr 2
  rw[<- qnU true true false (Hd.opts a b c)]
  rfl
 rw[hQ] at z2
 have k0:=hv.one
 have k1:=hv.cells
 have k2:=hu.one
 have k3:=hu.cells
 have es:eqS P P=true:=by rw[qaX]; simp
 by_cases hbig:2000<S.size
 ·have hb1:(2000:Int)<S.size:=by omega
  simp only[ru] at z1
  refine Z_call (H.kz 311 F311 rfl) rfl ?_
  simp -implicitDefEqProofs [F311,k0,k1,k2,k3,zs,zp,z1,hb1,zl,V.len,List.range_succ]
 ·have hb1 : ¬ (2000:Int)<S.size:=by omega
  obtain⟨r2,p2⟩:=qkW (f:=true) (fi:=true) (fb:=false) hg s1 s2 s3 s4 (by omega)
  obtain⟨A',B',C',e1',e2',e3',z5⟩:=qx4 H.toHas (s:=S) (by omega) p2
  rw[e1',e2',e3',<- e1,<- e2,<- e3] at z5
  simp only[ru] at z1 z2 z4 z5
  refine Z_call (H.kz 311 F311 rfl) rfl ?_
  simp -implicitDefEqProofs [F311,k0,k1,k2,k3,zs,zp,z1,z2,z4,z5,es,hb1,zl,V.len,List.range_succ]
end
end Go.Pm
end SWg
section STb13z
namespace Go.Pm.F
def prog13z:Nat->Option PFun
 | 17=>some F17
 | 20=>some F20
 | 23=>some F23
 | 123=>some F123
 | 136=>some F136
 | 137=>some F137
 | 149=>some F149
 | 152=>some F152
 | 162=>some F162
 | 170=>some F170
 | 171=>some F171
 | 176=>some F176
 | 177=>some F177
 | 178=>some F178
 | 179=>some F179
 | 192=>some F192
 | 193=>some F193
 | 194=>some F194
 | 195=>some F195
 | 196=>some F196
 | 198=>some F198
 | 227=>some F227
 | 228=>some F228
 | 229=>some F229
 | 231=>some F231
 | 232=>some F232
 | 234=>some F234
 | 235=>some F235
 | 236=>some F236
 | 239=>some F239
 | 240=>some F240
 | 241=>some F241
 | 242=>some F242
 | 243=>some F243
 | 244=>some F244
 | 245=>some F245
 | 246=>some F246
 | 247=>some F247
 | 248=>some F248
 | 249=>some F249
 | 250=>some F250
 | 251=>some F251
 | 252=>some F252
 | 253=>some F253
 | 254=>some F254
 | 255=>some F255
 | 256=>some F256
 | 257=>some F257
 | 258=>some F258
 | 259=>some F259
 | 260=>some F260
 | 261=>some F261
 | 262=>some F262
 | 263=>some F263
 | 264=>some F264
 | 265=>some F265
 | 266=>some F266
 | 267=>some F267
 | 268=>some F268
 | 269=>some F269
 | 270=>some F270
 | 271=>some F271
 | 272=>some F272
 | 273=>some F273
 | 274=>some F274
 | 275=>some F275
 | 276=>some F276
 | 277=>some F277
 | 278=>some F278
 | 279=>some F279
 | 280=>some F280
 | 281=>some F281
 | 282=>some F282
 | 283=>some F283
 | 284=>some F284
 | 285=>some F285
 | 286=>some F286
 | 287=>some F287
 | 288=>some F288
 | 289=>some F289
 | 290=>some F290
 | 291=>some F291
 | 292=>some F292
 | 293=>some F293
 | 294=>some F294
 | 295=>some F295
 | 297=>some F297
 | 298=>some F298
 | 299=>some F299
 | 300=>some F300
 | 303=>some F303
 | 304=>some F304
 | 307=>some F307
 | 308=>some F308
 | 309=>some F309
 | 311=>some F311
 | 314=>some F314
 | _=>none
theorem qiA : ∀ f pf,tR f=some pf->prog13z f=some pf:=fun f pf h=>by
 unfold tR at h
 split at h<;>first | (cases h; rfl) | cases h
theorem qiB : ∀ f pf,tS f=some pf->prog13z f=some pf:=fun f pf h=>by
 unfold tS at h
 split at h<;>first | (cases h; rfl) | cases h
theorem qiC : ∀ f pf,tP f=some pf->prog13z f=some pf:=fun f pf h=>by
 unfold tP at h
 split at h<;>first | (cases h; rfl) | cases h
theorem qiD : ∀ f pf,tQ f=some pf->prog13z f=some pf:=fun f pf h=>by
 unfold tQ at h
 split at h<;>first | (cases h; rfl) | cases h
theorem qgb : ∀ f pf,qbv f=some pf->prog13z f=some pf:=fun f pf h=>by
 unfold qbv at h
 split at h<;>first | (cases h; rfl) | cases h
end Go.Pm.F
end STb13z
section SUv
namespace Go.Pm
open F
theorem qeQ:Sub tEz prog13z:=fun f pf h=>by
 unfold tEz at h
 split at h<;>first | (cases h; rfl) | cases h
theorem qid:Sub tKz prog13z:=fun f pf h=>by
 unfold tKz at h
 split at h<;>first | (cases h; rfl) | cases h
theorem qiH:Sub tE prog13z:=fun f pf h=>qeQ f pf (qnS f pf h)
theorem qiI:Sub tK prog13z:=fun f pf h=>by
 unfold tK at h
 split at h<;>first | (cases h; rfl) | cases h
theorem qvH:HasZ prog13z:=⟨⟨qgb,qiA,qiB,qiC,qiD,qiH,qiI⟩,qeQ,qid⟩
end Go.Pm
end SUv
section SWm
namespace Go.Pm
open F
theorem qqM:Z prog13z (.call 229 [] [])=some (.ret (.bool true) []):=qqa (n:=3000) (by kernel_rfl)
theorem spacedLaw_Z {v u:D} {xs ys:List Int} (hv:RowV v xs) (hx : ∀ x∈xs,I64 x) (hu:RowV u ys) (hy : ∀ x∈ys,I64 x) :
  Z prog13z (.call 311 [.dat v,.dat u] [])=some (.ret (.bool true) []):=qiE qvH qqM hv hx hu hy
end Go.Pm
end SWm
