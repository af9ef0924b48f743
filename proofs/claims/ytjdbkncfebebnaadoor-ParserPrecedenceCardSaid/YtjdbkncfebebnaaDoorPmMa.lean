/- Chapter 13's parser: blocks are the plain ones. Chapter 13's parser: handlers. Chapter 13's parser: a whole program: the walks. Chapter 13's parser: whole programs are the plain ones. Chapter 13's parser: program. Chapter 13's parser: Parse is the plain one. Chapter 13's parser: Parse behind an error. Chapter 13's parser: Parse, whole. What the laws of chapter 13 call, over any table that has it: Short, Broken, Source, Parse, Print, equal. Chapter 13's law: lives. Chapter 13's law ParserRound. Chapter 13's reference printer: expressions with all parentheses. The rule language in plain Lean: one assignment of an expression, printed either way, and read back. No program in sight. -/
import Derived.Test.YtjdbkncfebebnaaDoorPmKu
import Derived.Test.YtjdbkncfebebnaaDoorPmG3
import Derived.Test.YtjdbkncfebebnaaDoorPmUb
import Derived.Test.YtjdbkncfebebnaaDoorPmOg
import Derived.Test.YtjdbkncfebebnaaDoorPmJr
import Derived.Test.YtjdbkncfebebnaaDoorPmUc
set_option linter.unusedSimpArgs false
set_option linter.unusedVariables false
section SMa
namespace Go.Pm
open F
set_option maxHeartbeats 2000000
section
variable (s:ByteArray) (T:List Tk)
def SsK (n:Nat):Prop := ∀ (lv i:Nat) (t:Tk) (r:List Tk) (a:Ss) (v:V) (σt:S) (x:Rz Ss),lv<=20->T.drop i=t::r->a.fo.len+(t::r).length<=2 ^ 40->qra v σt a.fo.cells a.fo.len->qbx 12 2 true true false n lv a (t::r)=some x->match x with
 | .ok b r' => ∃ (i':Nat) (t':Tk) (v':V) (σt':S),T.drop i'=t'::r'/\t'.bad=0/\t'.s=qnd/\qra v' σt' b.fo.cells b.fo.len/\Z tP (.loop 3 F256l0 (bzF lv) (bzS s T i 0 12 v σt))=some (.out (.exit 0) (bzF lv++[(13,.bool false)]) (bzS s T i' 0 12 v' σt'))
 | .er a c => ∃ (i':Nat) (fr:Fr) (v':V) (σt':S),fr.get 1000000=none/\Z tP (.loop 3 F256l0 (bzF lv) (bzS s T i 0 12 v σt))=some (.out (.pan (.iface 1 (.int c))) fr (bzS s T i' a c v' σt'))
variable {s:ByteArray} {T:List Tk}
theorem qoC {n lv:Nat} {ts r:List Tk} {b:Ss} (h:qbZ 12 2 true true false n lv ts=some (.ok b r)):r.length<=ts.length-1:=by
 have h1:=qi3 h (Nat.le_max_left n (10*ts.length+1))
 obtain⟨y,h2,h3⟩:=(qhy 12 2 true true false (max n (10*ts.length+1))).1 lv ts (Nat.le_max_right _ _)
 rw[h1] at h2
 cases h2
 exact h3 b r rfl
theorem qsr {n:Nat} (ihs:StK s T n) (ihl:SsK s T n):SsK s T (n+1):=by
 intro lv i t r a v σt x hlv h hlen hr hx
 rw[qbx] at hx
 by_cases hb:t.bad=0
 case neg=>
  have hnx:nx (t::r)=none:=if_neg hb
  rw[hnx] at hx
  simp only[failP,if_neg hb,Option.some.injEq] at hx
  subst hx
  obtain⟨fr,f1,f2⟩:=qvD (s:=s) (lv:=lv) h hb hr
  exact⟨i,fr,v,σt,f1,f2⟩
 have hnx:nx (t::r)=some t.s:=if_pos hb
 rw[hnx] at hx
 simp only[List.tail_cons] at hx
 by_cases he:t.s=bs [125]
 ·rw[if_pos he] at hx
  simp only[Option.some.injEq] at hx
  subst hx
  exact⟨i,t,v,σt,h,hb,he,hr,qvC h hb he hr⟩
 rw[if_neg he] at hx
 cases hq:qbZ 12 2 true true false n lv (t::r) with
 | none=>rw[hq] at hx; cases hx
 | some y=>
  rw[hq] at hx
  have hs:=ihs lv i t r y hlv h hq
  cases y with
  | er p c=>
   simp only[Option.some.injEq] at hx
   subst hx
   obtain⟨i',z⟩:=hs
   exact⟨i',[],v,σt,rfl,qvE h hb he hr z⟩
  | ok b r'=>
   simp only at hx
   obtain⟨i',k,y,d,a1,a2,z,o1,o2,c1,c2⟩:=hs
   have hl:=qoC hq
   simp only[List.length_cons] at hl hlen
   obtain⟨v',σt',r1,r2⟩:=qrb h hb he hr (by omega) o1 o2 z
   obtain⟨t2,r2',rfl⟩:=qa6 a2
   have hr':qra v' σt' (a.app b).fo.cells (a.app b).fo.len:=by
    rw[qij,qha,qdA,c1,c2]; exact r1
   have hlen':(a.app b).fo.len+(t2::r2').length<=2 ^ 40:=by
    rw[qij,qdA,c2]
    simp only[List.length_cons] at hl ⊢
    omega
   have:=ihl lv i' t2 r2' (a.app b) v' σt' x hlv a1 hlen' hr' hx
   cases x with
   | ok b3 r3=>
    obtain⟨i3,t3,v3,σ3,e1,e2,e3,e4,e5⟩:=this
    exact⟨i3,t3,v3,σ3,e1,e2,e3,e4,r2.trans e5⟩
   | er p c=>
    obtain⟨i3,fr,v3,σ3,e1,e2⟩:=this
    exact⟨i3,fr,v3,σ3,e1,r2.trans e2⟩
theorem qss (hw:WfQ T) (hT:T.length<2 ^ 30) {n:Nat} (ihl:SsK s T n):BkK s T (n+1):=by
 intro lv i t r x h hx
 rw[qaP] at hx
 have ho:=qhp (s:=s) hw (by omega) h (x:=bs [123]) (by decide) (lv:=lv)
 cases hq:qct 12 2 (bs [123]) lv (t::r) with
 | er a c=>
  rw[hq] at hx ho
  simp only[Option.some.injEq] at hx
  subst hx
  obtain⟨i',z⟩:=ho
  exact⟨i',qty z⟩
 | ok u r1=>
  have hl1:=qjW hq
  rw[hq] at hx ho
  simp only at hx
  obtain⟨i1,a1,a2,z1⟩:=ho
  obtain⟨t1,r2,rfl⟩:=qa6 a2
  have hlen:(t1::r2).length<=T.length:=by rw[<- a1,List.length_drop]; omega
  have hl:=ihl lv i1 t1 r2 .nil (.dat (.lit (.slice none 0 0))) [] x hl1 a1 (by show 0+_<=_; omega) (.inl ⟨rfl,rfl,rfl,rfl⟩) hx
  cases x with
  | er p c=>
   obtain⟨i3,fr,v3,σ3,e1,e2⟩:=hl
   exact⟨i3,qvF z1 e1 e2⟩
  | ok b r3=>
   obtain⟨i3,t3,v3,σ3,e1,e2,e3,e4,e5⟩:=hl
   obtain⟨n1,n2⟩:=hw.next e1 e2 (by rw[e3]; decide)
   exact⟨i3+1,n1,n2,qxq (by omega) z1 e4 e5 e1 e2 e3⟩
theorem qrC (hw:WfQ T) (hT:T.length<2 ^ 30) (hP : ∀ t∈T,TokP t) : ∀ n,StK s T n/\BkK s T n/\SsK s T n
 | 0=>⟨fun lv i t r x _ _ hx=>by simp[qbZ] at hx,fun lv i t r x _ hx=>by simp[qaP] at hx,fun lv i t r a v σt x _ _ _ _ hx=>by simp[qbx] at hx⟩
 | n+1=>by
  obtain⟨ihs,ihb,ihl⟩:=qrC hw hT hP n
  exact⟨qtC hw (by omega) hP ihb,qss hw hT ihl,qsr ihs ihl⟩
end
end Go.Pm
end SMa
section SMb
namespace Go.Pm
open F
set_option maxHeartbeats 4000000
attribute [local simp] qbn qb3 dkey
section
variable {s:ByteArray} {T:List Tk} {i:Nat} {t:Tk} {r:List Tk} {a c:Int}
theorem qgS {k:Nat} (h:T.drop i=t::r) (hb:t.bad=0) (hk:qbo t.s=some k):Z tP (.call 254 [.ptr 0 0] (PS s T i 0 12))=some (.ret (.int k) (PS s T i 0 12)):=by
 have zp:=qaC (s:=s) (a:=0) (c:=12) h hb
 simp only[PS,pO,ptk,ptD,qar hb] at zp
 generalize t.s=w at zp hk
 unfold qbo at hk
 by_cases h1:w=bs [97,99,116]
 ·subst h1
  simp only[if_true,Option.some.injEq] at hk
  subst hk
  simp only[bs] at zp
  refine Z_call (pf:=F254) rfl rfl ?_
  simp[F254,zp,qa2,List.range_succ]
 rw[if_neg h1] at hk
 by_cases h2:w=bs [116,105,99,107]
 ·subst h2
  simp only[if_true,Option.some.injEq] at hk
  subst hk
  simp only[bs] at zp
  refine Z_call (pf:=F254) rfl rfl ?_
  simp[F254,zp,qa2,List.range_succ]
 rw[if_neg h2] at hk
 by_cases h3:w=qgN
 ·subst h3
  simp only[if_true,Option.some.injEq] at hk
  subst hk
  simp only[qgN] at zp
  refine Z_call (pf:=F254) rfl rfl ?_
  simp[F254,zp,qa2,List.range_succ]
 ·rw[if_neg h3] at hk; cases hk
theorem qn0 (h:T.drop i=t::r) (hb:t.bad=0) (hk:qbo t.s=none):Z tP (.call 254 [.ptr 0 0] (PS s T i 0 12))=some (.ret (qbu 12) (PS s T i t.at_ 12)):=by
 have zp:=qaC (s:=s) (a:=0) (c:=12) h hb
 have zf:=qgx (s:=s) (T:=T) (i:=i) (a:=0) (c:=12) (k:=kindT t) (x:=t.s) (at_:=t.at_) (v:=valT t) (e:=t.bad) (c':=12)
 simp only[PS,pO,ptk,ptD,qar hb] at zp zf
 unfold qbo at hk
 by_cases h1:t.s=bs [97,99,116]
 ·rw[if_pos h1] at hk; cases hk
 rw[if_neg h1] at hk
 by_cases h2:t.s=bs [116,105,99,107]
 ·rw[if_pos h2] at hk; cases hk
 rw[if_neg h2] at hk
 by_cases h3:t.s=qgN
 ·rw[if_pos h3] at hk; cases hk
 simp only[bs] at h1 h2
 simp only[qgN] at h3
 refine Z_call (pf:=F254) rfl rfl ?_
 simp[F254,zp,zf,h1,h2,h3,qa2,qae,List.range_succ]
theorem qmi (h:T.drop i=t::r) (hb:t.bad≠0):Z tP (.call 254 [.ptr 0 0] (PS s T i 0 12))=some (.ret (qbu t.bad) (PS s T i t.at_ t.bad)):=by
 have zp:=qeH (s:=s) (a:=0) (c:=12) h hb
 simp only[PS,pO] at zp
 refine Z_call (pf:=F254) rfl rfl ?_
 simp[F254,zp,qae,List.range_succ]
theorem qe0 {w:ByteArray} {k:Nat} (h:qbo w=some k):k=0\/k=1\/k=2:=by
 unfold qbo at h
 split at h
 ·cases h; omega
 split at h
 ·cases h; omega
 split at h
 ·cases h; omega
 ·cases h
end
end Go.Pm
end SMb
section SMc
namespace Go.Pm
open F
set_option maxHeartbeats 4000000
attribute [local simp] qbn qb3 dkey
abbrev pgF:Fr:=[(0,.ptr 0 0),(2,.ptr 3 0),(3,.ptr 4 0)]
abbrev pgS (s:ByteArray) (T:List Tk) (i a c:Int) (q:Nat->N4):S:=PS s T i a c++[qt7,rob q]
section
variable {s:ByteArray} {T:List Tk} {i i' i2:Nat} {t:Tk} {r:List Tk} {a c:Int} {q:Nat->N4}
theorem qva (h:T.drop i=t::r) (hb:t.bad=0) (hs:t.s=⟨#[]⟩):Z tP (.loop 3 F242l0 pgF (pgS s T i 0 12 q))=some (.out (.exit 0) (pgF++[(8,.bool false)]) (pgS s T i 0 12 q)):=by
 have zp:=qaC (s:=s) (a:=0) (c:=12) h hb
 have hk:kindT t=0:=by rw[qcj hb,qhR,if_pos hs]
 have k0:=(q 0).one
 have k1:=(q 1).one
 have k2:=(q 2).one
 have c0:=(q 0).cl
 have c1:=(q 1).cl
 have c2:=(q 2).cl
 simp only[PS,pO,ptk,ptD,hk] at zp
 rw[qac]
 simp[qad,qcU,zp,k0,k1,k2,c0,c1,c2,List.range_succ]
theorem qvb (h:T.drop i=t::r) (hb:t.bad≠0) : ∃ fr,fr.get 1000000=none/\Z tP (.loop 3 F242l0 pgF (pgS s T i 0 12 q))=some (.out (.pan (.iface 1 (.int t.bad))) fr (pgS s T i t.at_ t.bad q)):=by
 have zp:=qeH (s:=s) (a:=0) (c:=12) h hb
 simp only[PS,pO] at zp
 refine⟨(5,.ptr 0 0)::pgF,by simp[Fr.get],?_⟩
 rw[qac]
 simp[qad,qcU,zp,qae,List.range_succ]
theorem qwU (h:T.drop i=t::r) (hb:t.bad=0) (hs:t.s≠⟨#[]⟩) (z:Z tP (.call 253 [.ptr 0 0,.str ⟨#[111,110]⟩] (PS s T i 0 12))=some (.ret (qbu c) (PS s T i' a c))) : ∃ fr,fr.get 1000000=none/\Z tP (.loop 3 F242l0 pgF (pgS s T i 0 12 q))=some (.out (.pan (.iface 1 (.int c))) fr (pgS s T i' a c q)):=by
 have zp:=qaC (s:=s) (a:=0) (c:=12) h hb
 have hk:decide (kindT t=0)=false:=decide_eq_false (fun e=>hs ((qei hb).mp e))
 simp only[PS,pO,ptk,ptD] at zp z
 refine⟨(9,.ptr 0 0)::(pgF++[(8,.bool true)]),by simp[Fr.get],?_⟩
 rw[qac]
 simp[qad,qcU,zp,z,hk,qae,List.range_succ]
theorem qoX (h:T.drop i=t::r) (hb:t.bad=0) (hs:t.s≠⟨#[]⟩) (z:Z tP (.call 253 [.ptr 0 0,.str ⟨#[111,110]⟩] (PS s T i 0 12))=some (.ret (.tup []) (PS s T i' 0 12)))
  (zh:Z tP (.call 254 [.ptr 0 0] (PS s T i' 0 12))=some (.ret (qbu c) (PS s T i2 a c))) : ∃ fr,fr.get 1000000=none/\Z tP (.loop 3 F242l0 pgF (pgS s T i 0 12 q))=some (.out (.pan (.iface 1 (.int c))) fr (pgS s T i2 a c q)):=by
 have zp:=qaC (s:=s) (a:=0) (c:=12) h hb
 have hk:decide (kindT t=0)=false:=decide_eq_false (fun e=>hs ((qei hb).mp e))
 simp only[PS,pO,ptk,ptD] at zp z zh
 refine⟨(11,.ptr 0 0)::pgF,by simp[Fr.get],?_⟩
 rw[qac]
 simp[qad,qcU,zp,z,zh,hk,qae,List.range_succ]
theorem qvc {t2:Tk} {r2:List Tk} {k:Nat} (h:T.drop i=t::r) (hb:t.bad=0) (hs:t.s≠⟨#[]⟩) (z:Z tP (.call 253 [.ptr 0 0,.str ⟨#[111,110]⟩] (PS s T i 0 12))=some (.ret (.tup []) (PS s T i' 0 12)))
  (h2:T.drop i'=t2::r2) (hb2:t2.bad=0) (hh:qbo t2.s=some k) (hq:decide ((q k).k=0)=false) : ∃ fr,fr.get 1000000=none/\Z tP (.loop 3 F242l0 pgF (pgS s T i 0 12 q))=some (.out (.pan (.iface 1 (.int 4))) fr (pgS s T i' t2.at_ 4 q)):=by
 have zp:=qaC (s:=s) (a:=0) (c:=12) h hb
 have zp2:=qaC (s:=s) (a:=0) (c:=12) h2 hb2
 have zh:=qgS (s:=s) h2 hb2 hh
 have zf:=qgx (s:=s) (T:=T) (i:=i') (a:=0) (c:=12) (k:=kindT t2) (x:=qft t2) (at_:=t2.at_) (v:=valT t2) (e:=t2.bad) (c':=4)
 have hk:decide (kindT t=0)=false:=decide_eq_false (fun e=>hs ((qei hb).mp e))
 simp only[PS,pO,ptk,ptD] at zp zp2 z zh zf
 have k0:=(q 0).one
 have k1:=(q 1).one
 have k2:=(q 2).one
 have c0:=(q 0).cl
 have c1:=(q 1).cl
 have c2:=(q 2).cl
 refine⟨(21,ptk t2)::(20,.ptr 0 0)::(19,.ptr 0 0)::(pgF++[(4,.int k),(18,.bool true)]),by simp[Fr.get],?_⟩
 rw[qac]
 rcases qe0 hh with rfl | rfl | rfl<;>simp[qad,qcU,zp,zp2,z,zh,zf,hk,hq,k0,k1,k2,c0,c1,c2,qae,List.range_succ]
theorem qvd {t2:Tk} {r2:List Tk} {k:Nat} (hT:T.length<2 ^ 40) (h:T.drop i=t::r) (hb:t.bad=0) (hs:t.s≠⟨#[]⟩) (z:Z tP (.call 253 [.ptr 0 0,.str ⟨#[111,110]⟩] (PS s T i 0 12))=some (.ret (.tup []) (PS s T i' 0 12)))
  (h2:T.drop i'=t2::r2) (hb2:t2.bad=0) (hh:qbo t2.s=some k) (hq:decide ((q k).k=0)=true) (zb:Z tP (.call 256 [.ptr 0 0,.int 1] (PS s T ((i'+1:Nat):Int) 0 12))=some (.ret (qbu c) (PS s T i2 a c))) : ∃ fr,fr.get 1000000=none/\Z tP (.loop 3 F242l0 pgF (pgS s T i 0 12 q))=some (.out (.pan (.iface 1 (.int c))) fr (pgS s T i2 a c q)):=by
 have zp:=qaC (s:=s) (a:=0) (c:=12) h hb
 have zh:=qgS (s:=s) h2 hb2 hh
 have hlt:=qiL h2
 have w1:=qag ((i':Int)+1) (by omega)
 have hk:decide (kindT t=0)=false:=decide_eq_false (fun e=>hs ((qei hb).mp e))
 simp only[PS,pO,ptk,ptD] at zp z zh zb
 simp only[Int.natCast_add,Int.cast_ofNat_Int] at zb
 have k0:=(q 0).one
 have k1:=(q 1).one
 have k2:=(q 2).one
 have c0:=(q 0).cl
 have c1:=(q 1).cl
 have c2:=(q 2).cl
 refine⟨(31,.ptr 0 0)::(30,.int k)::(pgF++[(4,.int k)]),by simp[Fr.get],?_⟩
 rw[qac]
 rcases qe0 hh with rfl | rfl | rfl<;>simp[qad,qcU,zp,z,zh,zb,w1,hk,hq,k0,k1,k2,c0,c1,c2,qae,List.range_succ]
theorem qwV {t2:Tk} {r2:List Tk} {k:Nat} {d:D} (hT:T.length<2 ^ 40) (h:T.drop i=t::r) (hb:t.bad=0) (hs:t.s≠⟨#[]⟩) (z:Z tP (.call 253 [.ptr 0 0,.str ⟨#[111,110]⟩] (PS s T i 0 12))=some (.ret (.tup []) (PS s T i' 0 12)))
  (h2:T.drop i'=t2::r2) (hb2:t2.bad=0) (hh:qbo t2.s=some k) (hq:decide ((q k).k=0)=true) (od:V.one (.dat d)=true) (oc:V.cells (.dat d)=[.dat d]) (zb:Z tP (.call 256 [.ptr 0 0,.int 1] (PS s T ((i'+1:Nat):Int) 0 12))=some (.ret (nv 7 ⟨#[]⟩ d) (PS s T i2 0 12))):Z tP (.loop 3 F242l0 pgF (pgS s T i 0 12 q))=Z tP (.loop 3 F242l0 pgF (pgS s T i2 0 12 (qwa q k ⟨7,0,⟨#[]⟩,d,od,oc⟩))):=by
 have zp:=qaC (s:=s) (a:=0) (c:=12) h hb
 have zh:=qgS (s:=s) h2 hb2 hh
 have hlt:=qiL h2
 have w1:=qag ((i':Int)+1) (by omega)
 have hk:decide (kindT t=0)=false:=decide_eq_false (fun e=>hs ((qei hb).mp e))
 simp only[PS,pO,ptk,ptD] at zp z zh
 simp only[PS,pO,nv] at zb
 simp only[Int.natCast_add,Int.cast_ofNat_Int] at zb
 have k0:=(q 0).one
 have k1:=(q 1).one
 have k2:=(q 2).one
 have c0:=(q 0).cl
 have c1:=(q 1).cl
 have c2:=(q 2).cl
 conv=>lhs; rw[qac]
 rcases qe0 hh with rfl | rfl | rfl<;>simp[qad,qcU,zp,z,zh,zb,od,oc,w1,hk,hq,k0,k1,k2,c0,c1,c2,qwa,List.range_succ]<;>rfl
end
end Go.Pm
end SMc
section SMd
namespace Go.Pm
open F
set_option maxHeartbeats 2000000
theorem qwW {w:ByteArray} (h:w.size=0):w=⟨#[]⟩:=by
 have hb:byl w=[]:=List.eq_nil_of_length_eq_zero (by rw[qau]; exact h)
 have:=qcS w
 rw[hb] at this
 exact this.symm
section
variable {s:ByteArray} {T:List Tk}
theorem qla (hw:WfQ T) (hT:T.length<2 ^ 30) (hP : ∀ t∈T,TokP t) : ∀ (n:Nat) (hh:Nat->Option Ss) (i:Nat) (t:Tk) (r:List Tk) (x:Rz (Nat->Option Ss)),T.drop i=t::r->qcl 12 2 4 true true false n hh (t::r)=some x->match x with
  | .ok h' _ => ∃ i':Nat,Z tP (.loop 3 F242l0 pgF (pgS s T i 0 12 fun k=>qe6 (hh k)))=some (.out (.exit 0) (pgF++[(8,.bool false)]) (pgS s T i' 0 12 fun k=>qe6 (h' k)))
  | .er a c => ∃ (i':Nat) (fr:Fr) (q':Nat->N4),fr.get 1000000=none/\Z tP (.loop 3 F242l0 pgF (pgS s T i 0 12 fun k=>qe6 (hh k)))=some (.out (.pan (.iface 1 (.int c))) fr (pgS s T i' a c q'))
 | 0,hh,i,t,r,x,_,hx=>by simp[qcl] at hx
 | n+1,hh,i,t,r,x,h,hx=>by
  rw[qcl] at hx
  by_cases hb:t.bad=0
  case neg=>
   have hnx:nx (t::r)=none:=if_neg hb
   rw[hnx] at hx
   simp only[failP,if_neg hb,Option.some.injEq] at hx
   subst hx
   obtain⟨fr,f1,f2⟩:=qvb (s:=s) (q:=fun k=>qe6 (hh k)) h hb
   exact⟨i,fr,_,f1,f2⟩
  have hnx:nx (t::r)=some t.s:=if_pos hb
  rw[hnx] at hx
  simp only at hx
  by_cases h0:t.s.size=0
  ·rw[if_pos h0] at hx
   simp only[Option.some.injEq] at hx
   subst hx
   exact⟨i,qva h hb (qwW h0)⟩
  rw[if_neg h0] at hx
  have hne:t.s≠⟨#[]⟩:=fun e=>h0 (by rw[e]; rfl)
  have ho:=qcD (s:=s) hw (by omega) h (x:=bs [111,110]) (by decide)
  cases hq:qas 12 (bs [111,110]) (t::r) with
  | er a c=>
   rw[hq] at hx ho
   simp only[Option.some.injEq] at hx
   subst hx
   obtain⟨i',z⟩:=ho
   obtain⟨fr,f1,f2⟩:=qwU (q:=fun k=>qe6 (hh k)) h hb hne z
   exact⟨i',fr,_,f1,f2⟩
  | ok u r1=>
   rw[hq] at hx ho
   simp only at hx
   obtain⟨i1,a1,a2,z⟩:=ho
   obtain⟨t2,r2,rfl⟩:=qa6 a2
   by_cases hb2:t2.bad=0
   case neg=>
    have hnx2:nx (t2::r2)=none:=if_neg hb2
    rw[hnx2] at hx
    simp only[failP,if_neg hb2,Option.some.injEq] at hx
    subst hx
    obtain⟨fr,f1,f2⟩:=qoX (q:=fun k=>qe6 (hh k)) h hb hne z (qmi a1 hb2)
    exact⟨i1,fr,_,f1,f2⟩
   have hnx2:nx (t2::r2)=some t2.s:=if_pos hb2
   rw[hnx2] at hx
   simp only at hx
   cases hk:qbo t2.s with
   | none=>
    rw[hk] at hx
    simp only[failP,if_pos hb2,Option.some.injEq] at hx
    subst hx
    obtain⟨fr,f1,f2⟩:=qoX (q:=fun k=>qe6 (hh k)) h hb hne z (qn0 a1 hb2 hk)
    exact⟨i1,fr,_,f1,f2⟩
   | some k=>
    rw[hk] at hx
    simp only at hx
    by_cases hd:(hh k).isSome=true
    ·rw[if_pos hd] at hx
     simp only[failP,if_pos hb2,Option.some.injEq] at hx
     subst hx
     obtain⟨b,hbb⟩:=Option.isSome_iff_exists.1 hd
     obtain⟨fr,f1,f2⟩:=qvc (s:=s) (q:=fun k=>qe6 (hh k)) h hb hne z a1 hb2 hk (decide_eq_false (by simp only[hbb,qe6]; decide))
     exact⟨i1,fr,_,f1,f2⟩
    ·rw[if_neg hd] at hx
     have hno:hh k=none:=by simpa using hd
     have hq0:decide ((qe6 (hh k)).k=0)=true:=decide_eq_true (by rw[hno]; rfl)
     obtain⟨n1,n2⟩:=hw.next a1 hb2 (fun e=>by rw[e,show qbo ⟨#[]⟩=none by decide] at hk; cases hk)
     obtain⟨t3,r3,rfl⟩:=qa6 n2
     simp only[List.tail_cons] at hx
     cases hq3:qaP 12 2 true true false n 1 (t3::r3) with
     | none=>rw[hq3] at hx; cases hx
     | some y=>
      rw[hq3] at hx
      have hbk:=(qrC (s:=s) hw hT hP n).2.1 1 (i1+1) t3 r3 y n1 hq3
      cases y with
      | er a c=>
       simp only[Option.some.injEq] at hx
       subst hx
       obtain⟨i2,z2⟩:=hbk
       obtain⟨fr,f1,f2⟩:=qvd (q:=fun k=>qe6 (hh k)) (by omega) h hb hne z a1 hb2 hk hq0 z2
       exact⟨i2,fr,_,f1,f2⟩
      | ok b r4=>
       simp only at hx
       obtain⟨i2,b1,b2,z2⟩:=hbk
       obtain⟨t4,r5,rfl⟩:=qa6 b2
       have zs:=qwV (q:=fun k=>qe6 (hh k)) (by omega) h hb hne z a1 hb2 hk hq0 (by simp) (by simp) z2
       have hu:qwa (fun k=>qe6 (hh k)) k ⟨7,0,⟨#[]⟩,kd false b.fo.len b.fo.cells,by simp,by simp⟩=fun j=>qe6 (if j=k then some b else hh j):=by
        funext j
        unfold qwa
        split<;>rfl
       rw[hu] at zs
       have:=qla hw hT hP n (fun j=>if j=k then some b else hh j) i2 t4 r5 x b1 hx
       cases x with
       | ok h' q=>
        obtain⟨i3,e1⟩:=this
        exact⟨i3,zs.trans e1⟩
       | er a c=>
        obtain⟨i3,fr,q',e1,e2⟩:=this
        exact⟨i3,fr,q',e1,zs.trans e2⟩
end
end Go.Pm
end SMd
section SMe
namespace Go.Pm
open F
set_option maxHeartbeats 4000000
attribute [local simp] qbn qb3 dkey
section
variable {s:ByteArray} {T:List Tk} {i':Nat} {q:Nat->N4} {a c:Int}
theorem qnF (z:Z tP (.loop 3 F242l0 pgF (pgS s T 0 0 12 fun k=>qe6 none))=some (.out (.exit 0) (pgF++[(8,.bool false)]) (pgS s T i' 0 12 q))):Z tP (.call 242 [.ptr 0 0] (PS s T 0 0 12))=some (.ret (qpt q) (PS s T i' 0 12)):=by
 have k0:=(q 0).one
 have k1:=(q 1).one
 have k2:=(q 2).one
 have c0:=(q 0).cl
 have c1:=(q 1).cl
 have c2:=(q 2).cl
 simp only[pgS,PS,pO,rob,qe6,List.cons_append,List.nil_append] at z
 refine Z_call (pf:=F242) rfl rfl ?_
 simp[F242,z,k0,k1,k2,c0,c1,c2,List.range_succ]
theorem qlY {fr:Fr} (hf:fr.get 1000000=none) (z:Z tP (.loop 3 F242l0 pgF (pgS s T 0 0 12 fun k=>qe6 none))=some (.out (.pan (.iface 1 (.int c))) fr (pgS s T i' a c q))):Z tP (.call 242 [.ptr 0 0] (PS s T 0 0 12))=some (.ret (qbu c) (PS s T i' a c)):=by
 simp only[pgS,PS,pO,rob,qe6,List.cons_append,List.nil_append] at z
 refine Z_call (pf:=F242) rfl rfl ?_
 simp[F242,z,hf,List.range_succ]
end
end Go.Pm
end SMe
section SMf
namespace Go.Pm
open F
set_option maxHeartbeats 4000000
attribute [local simp] qbn qb3 dkey
section
variable {s:ByteArray} {T:List Tk} {i':Nat} {q:Nat->N4} {a c:Int}
theorem qpv (h:(2000:Int)<s.size):Z tP (.call 228 [.str s] [])=some (.ret (.tup [qpt fun _=>qe6 none,.int 2000,.int 2]) []):=by
 refine Z_call (pf:=F228) rfl rfl ?_
 simp[F228,h,V.len,qe6,List.range_succ]
abbrev dS (s:ByteArray) (T:List Tk) (q:Nat->N4) (x y:Int) (i a c:Int):S:=[.cells [.ptr 4 0],rob q,.cells [.int x],.cells [.int y],pO s 5 (.gsl (ptC T) T.length 5 6) i a c,.map kwM,.tip (ptC T).length]
theorem qpw {x y i a c:Int}:Z tP (.dcall 240 [.dat (.lit .nilIface),.ptr 0 0,.ptr 1 0,.ptr 2 0,.ptr 3 0] (dS s T q x y i a c))=some (.ret (.dat (.lit undef)) (dS s T q x y i a c)):=by
 have k0:=(q 0).one
 have k1:=(q 1).one
 have k2:=(q 2).one
 have c0:=(q 0).cl
 have c1:=(q 1).cl
 have c2:=(q 2).cl
 refine qlI (pf:=F240) rfl ?_
 have hfl:F240.body.flat=true:=rfl
 simp only[qbl]
 rw[if_pos ⟨rfl,rfl,rfl,hfl,.inl rfl⟩]
 simp[F240,qiW,k0,k1,k2,c0,c1,c2,List.range_succ]
theorem qrg (h : ¬ (2000:Int)<s.size) (zt:Z tP (.call 249 [.yld 0,.ptr 1 0] (TT0 s))=some (.ret (.tup []) (TT1 s (ptC T) T.length)))
  (z:Z tP (.call 242 [.ptr 0 0] (PS s T 0 0 12))=some (.ret (qpt q) (PS s T i' 0 12))):Z tP (.call 228 [.str s] [])=some (.ret (.tup [qpt q,.int 0,.int 0]) []):=by
 have z1:=qiM s
 have z2:=qk5 s
 have k0:=(q 0).one
 have k1:=(q 1).one
 have k2:=(q 2).one
 have c0:=(q 0).cl
 have c1:=(q 1).cl
 have c2:=(q 2).cl
 simp only[pO] at z2
 simp only[TT0,TT1,pO] at zt
 simp only[PS,pO] at z
 have zd:=qpw (s:=s) (T:=T) (q:=q) (x:=0) (y:=0) (i:=i') (a:=0) (c:=12)
 simp only[dS,pO,rob] at zd
 refine Z_call (pf:=F228) rfl rfl ?_
 simp[F228,z1,z2,zt,z,zd,h,V.len,k0,k1,k2,c0,c1,c2,List.range_succ]
end
end Go.Pm
end SMf
section SMg
namespace Go.Pm
open F
set_option maxHeartbeats 4000000
attribute [local simp] qbn qb3 dkey
section
variable {s:ByteArray} {T:List Tk} {i':Nat} {a c:Int}
abbrev q0:Nat->N4:=fun _=>qe6 none
theorem qoy {i a c:Int}:Z tP (.dcall 240 [.iface 1 (.int c),.ptr 0 0,.ptr 1 0,.ptr 2 0,.ptr 3 0] (dS s T q0 0 0 i a c))=some (.ret (.dat (.lit undef)) (dS s T q0 a c i a c)):=by
 refine qlI (pf:=F240) rfl ?_
 have hfl:F240.body.flat=true:=rfl
 simp only[qbl]
 rw[if_pos ⟨rfl,rfl,rfl,hfl,.inl rfl⟩]
 simp[F240,qiW,qe6,qdp,qbj,List.range_succ]
theorem qoz (h : ¬ (2000:Int)<s.size) (zt:Z tP (.call 249 [.yld 0,.ptr 1 0] (TT0 s))=some (.ret (.tup []) (TT1 s (ptC T) T.length)))
  (z:Z tP (.call 242 [.ptr 0 0] (PS s T 0 0 12))=some (.ret (qbu c) (PS s T i' a c))):Z tP (.call 228 [.str s] [])=some (.ret (.tup [qpt fun _=>qe6 none,.int a,.int c]) []):=by
 have z1:=qiM s
 have z2:=qk5 s
 simp only[pO] at z2
 simp only[TT0,TT1,pO] at zt
 simp only[PS,pO] at z
 have zd:=qoy (s:=s) (T:=T) (i:=i') (a:=a) (c:=c)
 simp only[dS,pO,rob,q0,qe6] at zd
 refine Z_call (pf:=F228) rfl rfl ?_
 simp[F228,z1,z2,zt,z,zd,h,V.len,qe6,qae,V.isNilIf,List.range_succ]
end
end Go.Pm
end SMg
section SMh
namespace Go.Pm
open F
set_option maxHeartbeats 1000000
theorem qk9 (s:ByteArray) : ∀ n i,(qb1 12 2 6 s n i).length<=n+1
 | 0,i=>by simp[qb1]
 | n+1,i=>by
  rw[qb1]
  have:=qk9 s n
  split
  ·simp
  ·simp only[List.length_cons]; have:=this ((tokAt 12 2 6 s (qhG s (s.size-i) false i)).at_+(tokAt 12 2 6 s (qhG s (s.size-i) false i)).s.size); omega
theorem qqH (s:ByteArray) : ∀ n i,qb1 12 2 6 s n i≠[]
 | 0,i=>by simp[qb1]
 | n+1,i=>by rw[qb1]; split<;>simp
theorem qoV (s:ByteArray) (hP : ∀ t∈toks s,TokP t):Z tP (.call 228 [.str s] [])=some (.ret (qfB true true false s) []):=by
 unfold qfB
 by_cases hbig:2000<s.size
 ·have:qbQ true true false s = .er 2000 2:=by rw[qbQ,if_pos hbig]
  rw[this]
  exact qpv (by omega)
 ·have hlen:=qk9 s (s.size+1) 0
  have hT:(toks s).length<2 ^ 30:=by show (qb1 12 2 6 s (s.size+1) 0).length<_; omega
  have hw:WfQ (toks s):=qpz s _ 0
  have zt:=qpA s (by omega)
  obtain⟨t,r,htr⟩:=qa6 (show toks s≠[] from qqH s _ 0)
  have hv:=qc0 (f:=true) (fi:=true) (fb:=false) hbig
  have hp:=hv
  rw[htr] at hp
  have:=qla (s:=s) hw hT hP _ (fun _=>none) 0 t r _ (by rw[List.drop_zero]; exact htr) hp
  cases hx:qbQ true true false s with
  | ok h' ts=>
   rw[hx] at this
   obtain⟨i',z⟩:=this
   exact qrg (by omega) zt (qnF z)
  | er a c=>
   rw[hx] at this
   obtain⟨i',fr,q',f1,z⟩:=this
   exact qoz (by omega) zt (qlY f1 z)
theorem qoW (s:ByteArray) (hl:s.size<2 ^ 30) : ∀ n i,∀ t∈qb1 12 2 6 s n i,TokP t
 | 0,i,t,h=>by
  simp only[qb1,List.mem_singleton] at h
  rw[h]
  exact⟨fun _=>show (⟨#[]⟩:ByteArray)≠qS by decide,fun _ h=>(by cases h)⟩
 | n+1,i,t,h=>by
  have one : ∀ j,TokP (tokAt 12 2 6 s j):=fun j=>by
   by_cases hj:j<s.size
   ·exact qtD hl hj
   ·have hd:(byl s).drop j=[]:=List.drop_eq_nil_of_le (by rw[qau]; omega)
    rw[qdx,hd]
    exact⟨fun _=>show (⟨#[]⟩:ByteArray)≠qS by decide,fun _ h=>(by cases h)⟩
  rw[qb1] at h
  split at h
  ·rw[List.mem_singleton.1 h]; exact one _
  ·rcases List.mem_cons.1 h with h | h
   ·rw[h]; exact one _
   ·exact qoW s hl n _ t h
theorem qqI (s:ByteArray) (hl:s.size<2 ^ 30):Z tP (.call 228 [.str s] [])=some (.ret (qfB true true false s) []):=qoV s (qoW s hl _ 0)
end Go.Pm
end SMh
section SUh
namespace Go.Pm
open F
set_option maxHeartbeats 4000000
abbrev Sub (p q:Nat->Option PFun):Prop := ∀ f pf,p f=some pf->q f=some pf
structure Has (prog:Nat->Option PFun):Prop where
 b:Sub qbz prog
 r:Sub tR prog
 s:Sub tS prog
 p:Sub tP prog
 q:Sub tQ prog
 e:Sub tE prog
 k:Sub tK prog
section
variable {prog:Nat->Option PFun} (H:Has prog)
include H
theorem qso (s:ByteArray) {m:Nat} (hm:m<=1000) : ∃ t:ByteArray,t.size<=m/\Z prog (.call 225 [.str s,.int m] [])=some (.ret (.str t) []):=by
 by_cases h:m<s.size
 ·refine⟨s.extract 0 m,by rw[ByteArray.size_extract]; omega,?_⟩
  have h1:(m:Int)<s.size:=by omega
  have h2:(m:Int)<=s.size:=by omega
  refine Z_call (H.k 225 F225 rfl) rfl ?_
  simp[F225,V.len,h,h1,h2,qbD,bound]
 ·refine⟨s,by omega,?_⟩
  have h1 : ¬ (m:Int)<s.size:=by omega
  refine Z_call (H.k 225 F225 rfl) rfl ?_
  simp[F225,V.len,h,h1]
theorem qqd {s:ByteArray} (hs:s.size<2 ^ 30) {at_ how:Int} {c:Nat} (ha:I64 at_) (hh:I64 how) (hc:c<256) :
  ∃ t:ByteArray,t.size<=s.size+1/\Z prog (.call 226 [.str s,.int at_,.int how,.dat (.lit (.int .u8 c))] [])=some (.ret (.str t) []):=by
 have z1:=qfD H.b (qkn ha (m:=(s.size:Int)+1) (by omega))
 have z2:=qfD H.b (qkn hh (m:=4) (by omega))
 have r1:=qib ha (m:=(s.size:Int)+1) (by omega)
 have r2:=qib hh (m:=4) (by omega)
 obtain⟨k,hk⟩ : ∃ k:Nat,around at_ ((s.size:Int)+1)=k:=⟨(around at_ ((s.size:Int)+1)).toNat,by omega⟩
 rw[hk] at z1 r1
 have w1:=qag ((s.size:Int)+1) (by omega)
 have c0:(0:Int)<=c:=by omega
 have c1:(c:Int)<256:=by omega
 obtain⟨C,hC⟩ : ∃ v:ByteArray,v=⟨#[UInt8.ofNat c]⟩:=⟨_,rfl⟩
 have hCs:C.size=1:=by rw[hC]; rfl
 have hb : ∀ (bs:List UInt8),bs=[UInt8.ofNat c]->(⟨bs.toArray⟩:ByteArray)=C:=fun bs h=>by rw[h,hC]
 have hb1:=hb _ rfl
 by_cases hlen:k=s.size
 ·subst hlen
  refine⟨s++C,by rw[ByteArray.size_append]; omega,?_⟩
  have n1 : ¬ (9223372036854775807:Int)<(s.size:Int)+C.size:=by omega
  refine Z_call (H.k 226 F226 rfl) rfl ?_
  simp -implicitDefEqProofs [F226,V.len,w1,z1,c0,c1,hCs,qcp,hb1,show ¬ (9223372036854775807:Int)<(s.size:Int)+1 by omega]
 ·have hlt:k<s.size:=by omega
  have w2:IntKind.i64.wrap ((k:Int)+1)=((k+1:Nat):Int):=by rw[qag _ (by omega)]; omega
  obtain⟨k1,hk1⟩ : ∃ v:Nat,v=k+1:=⟨_,rfl⟩
  rw[<- hk1] at w2
  have b1:(k:Int)<=s.size:=by omega
  have b2:(k1:Int)<=s.size:=by omega
  have hne : ¬ (k:Int)=s.size:=by omega
  obtain⟨A,hA⟩ : ∃ v,v=s.extract 0 k:=⟨_,rfl⟩
  obtain⟨B,hB⟩ : ∃ v,v=s.extract k1 s.size:=⟨_,rfl⟩
  obtain⟨B',hB'⟩ : ∃ v,v=s.extract k s.size:=⟨_,rfl⟩
  have sA:A.size=k:=by rw[hA,ByteArray.size_extract]; omega
  have sB:B.size=s.size-k1:=by rw[hB,ByteArray.size_extract]; omega
  have sB':B'.size=s.size-k:=by rw[hB',ByteArray.size_extract]; omega
  have sAC:(A++C).size=A.size+1:=by rw[ByteArray.size_append,hCs]
  have q1 : ¬ (9223372036854775807:Int)<(k:Int)+1:=by omega
  have q2 : ∀ n:Nat,n<=s.size -> ¬ (9223372036854775807:Int)<(k:Int)+1+(n:Int):=fun n hn=>by omega
  have q3:=q2 (s.size-k1) (by omega)
  have q4:=q2 (s.size-k) (by omega)
  have q5 : ¬ (9223372036854775807:Int)<(k:Int)+((s.size-k1:Nat):Int):=by omega
  obtain⟨g,hg⟩ : ∃ v,v=around how 4:=⟨_,rfl⟩
  rw[<- hg] at z2 r2
  obtain h0 | h0 | h0 | h0:g=0\/g=1\/g=2\/g=3:=by omega
  ·refine⟨A++C++B,by rw[ByteArray.size_append,sAC]; omega,?_⟩
   rw[h0] at z2
   refine Z_call (H.k 226 F226 rfl) rfl ?_
   simp -implicitDefEqProofs [F226,V.len,w1,w2,z1,z2,c0,c1,hne,hlen,qbD,bound,b1,b2,<- hA,<- hB,sA,sB,hCs,sAC,qcp,hb1,q1,q3]
  ·refine⟨A++B,by rw[ByteArray.size_append]; omega,?_⟩
   rw[h0] at z2
   refine Z_call (H.k 226 F226 rfl) rfl ?_
   simp -implicitDefEqProofs [F226,V.len,w1,w2,z1,z2,c0,c1,hne,hlen,qbD,bound,b1,b2,<- hA,<- hB,sA,sB,hCs,sAC,qcp,hb1,q5]
  ·refine⟨A,by omega,?_⟩
   rw[h0] at z2
   refine Z_call (H.k 226 F226 rfl) rfl ?_
   simp -implicitDefEqProofs [F226,V.len,w1,w2,z1,z2,c0,c1,hne,hlen,qbD,bound,b1,b2,<- hA,<- hB,sA,sB,hCs,sAC,qcp,hb1]
  ·refine⟨A++C++B',by rw[ByteArray.size_append,sAC]; omega,?_⟩
   rw[h0] at z2
   refine Z_call (H.k 226 F226 rfl) rfl ?_
   simp -implicitDefEqProofs [F226,V.len,w1,w2,z1,z2,c0,c1,hne,hlen,qbD,bound,b1,b2,<- hA,<- hB',sA,sB',hCs,sAC,qcp,hb1,q1,q4]
theorem qoB {v:D} {xs:List Int} (h:RowV v xs) (hx : ∀ x∈xs,I64 x) : ∃ a b c:Hd,a.gen/\b.gen/\c.gen/\a.cost+(b.cost+c.cost)<=1440/\Z prog (.call 227 [.dat v] [])=some (.ret (.str (bs (qai false (qaX (Hd.opts a b c))))) []):=by
 obtain⟨a,b,c,ha,hb,⟨hc,hco⟩,zp⟩:=qnT h hx
 refine⟨a,b,c,ha,hb,hc,hco,?_⟩
 have hl:=qng a b c
 have zs:=qfD H.s (qqx (qps ha hb hc) (by omega))
 have zp':=qfD H.b zp
 have k0:=h.one
 have k1:=h.cells
 refine Z_call (H.k 227 F227 rfl) rfl ?_
 generalize bs (qai false (qaX (Hd.opts a b c)))=R at *
 generalize ru a.nd b.nd c.nd=r at *
 simp -implicitDefEqProofs [F227,zp',zs]
theorem qqe {v:D} {xs:List Int} (h:RowV v xs) (hx : ∀ x∈xs,I64 x) : ∃ a b c:Hd,a.gen/\b.gen/\c.gen/\Z prog (.call 227 [.dat v] [])=some (.ret (.str (bs (qai false (qaX (Hd.opts a b c))))) []):=by
 obtain⟨a,b,c,ha,hb,hc,_,z⟩:=qoB H h hx
 exact⟨a,b,c,ha,hb,hc,z⟩
theorem qe8 (s:ByteArray) (hl:s.size<2 ^ 30):Z prog (.call 228 [.str s] [])=some (.ret (qfB true true false s) []):=qfD H.p (qqI s hl)
end
def hdO:Option Ss->Hd
 | none => .none
 | some b => .some false b
theorem qjL (o:Option Ss):(hdO o).opt=o:=by cases o<;>rfl
theorem qsp (o:Option Ss):(qe6 o).k=(hdO o).nd.k/\(qe6 o).n=(hdO o).nd.n/\(qe6 o).s=(hdO o).nd.s/\(qe6 o).d=(hdO o).nd.d:=by cases o<;>exact⟨rfl,rfl,rfl,rfl⟩
theorem qjM (h:Nat->Option Ss):qpt (fun k=>qe6 (h k)) = .dat (ru (hdO (h 0)).nd (hdO (h 1)).nd (hdO (h 2)).nd):=by
 obtain⟨a1,a2,a3,a4⟩:=qsp (h 0)
 obtain⟨b1,b2,b3,b4⟩:=qsp (h 1)
 obtain⟨c1,c2,c3,c4⟩:=qsp (h 2)
 simp only[qpt,ru,a1,a2,a3,a4,b1,b2,b3,b4,c1,c2,c3,c4]
theorem qkU (h:Nat->Option Ss):qaX (Hd.opts (hdO (h 0)) (hdO (h 1)) (hdO (h 2)))=qaX h:=by
 unfold qaX
 simp only[Hd.opts,qjL]
theorem qqf {h:Nat->Option Ss} (hg : ∀ k,qcR (h k)) : ∀ k,qcR (Hd.opts (hdO (h 0)) (hdO (h 1)) (hdO (h 2)) k)
 | 0=>by rw[Hd.opts,qjL]; exact hg 0
 | 1=>by rw[Hd.opts,qjL]; exact hg 1
 | _+2=>by show qcR (hdO (h 2)).opt; rw[qjL]; exact hg 2
theorem qc5 (full:Bool) : ∀ (e:E) p,e.size<=(e.tx full p).length
 | .int n,p | .bool n,p | .var s,p | .name s,p=>by simp[E.tx]
 | .field _ s e,p=>by have:=qc5 full e 1; simp[E.tx]; omega
 | .un _ neg e,p=>by
  have:=qc5 full e (qcM neg)
  have h : ∀ b l,l.length<=(qbq b l).length:=fun b l=>by cases b<;>simp[qbq]; omega
  have h2:=h (full||decide (qcM neg<p)) (ustr neg::e.tx full (qcM neg))
  simp only[E.tx,qkj]
  simp only[List.length_cons] at h2
  omega
 | .bin _ o a b,p=>by
  have h1:=qc5 full a o.left
  have h3:=qc5 full b (o.prec+1)
  have h : ∀ b l,l.length<=(qbq b l).length:=fun b l=>by cases b<;>simp[qbq]; omega
  have h2:=h (full||decide (o.prec<p)) (a.tx full o.left++o.str::b.tx full (o.prec+1))
  simp only[E.tx,qgp]
  simp only[List.length_append,List.length_cons] at h2
  omega
theorem qdt : ∀ s:Ss,(s.good none\/s.good (some 1)\/s.good (some 2))->s.fo.size<=s.tx.length
 | .nil,_=>by simp[Ss.fo]
 | .assign _ s e r,h=>by
  have hr:r.good none:=by rcases h with h | h | h<;>simp[Ss.good] at h<;>exact h.2.2
  have h1:=qdt r (.inl hr); have h2:=qc5 false e 1
  simp[Ss.fo,Ss.tx,qbX]; omega
 | .store _ s a b r,h=>by
  have hr:r.good none:=by rcases h with h | h | h<;>simp[Ss.good] at h<;>exact h.2.2.2
  have h1:=qdt r (.inl hr); have h2:=qc5 false a 1; have h3:=qc5 false b 1
  simp[Ss.fo,Ss.tx,qbX]; omega
 | .effect _ a b r,h=>by
  have hr:r.good none:=by rcases h with h | h | h<;>simp[Ss.good] at h<;>exact h.2.2
  have h1:=qdt r (.inl hr); have h2:=qc5 false a 1; have h3:=qc5 false b 1
  simp[Ss.fo,Ss.tx,qbX]; omega
 | .stop r,h=>by
  have hr:r.good none:=by rcases h with h | h | h<;>simp[Ss.good] at h<;>exact h
  have h1:=qdt r (.inl hr)
  simp[Ss.fo,Ss.tx]; omega
 | .cond w _ c b r,h=>by
  have hr:b.good (some (if w then 1 else 2))/\r.good none:=by rcases h with h | h | h<;>simp[Ss.good] at h<;>exact h.2
  have h1:=qdt r (.inl hr.2); have h2:=qc5 false c 1
  have h3:=qdt b (by cases w; exact .inr (.inr hr.1); exact .inr (.inl hr.1))
  simp[Ss.fo,Ss.tx,qbX]; omega
 | .block _ b r,h=>by
  have key:b.good none/\(r.good (some 0)\/r.good (some 1)):=by
   rcases h with h | h | h
   ·obtain⟨n,hn,_⟩:=h; cases hn
   ·obtain⟨n,hn,h1,h2⟩:=h; simp at hn; subst hn; exact⟨h1,.inl h2⟩
   ·obtain⟨n,hn,h1,h2⟩:=h; simp at hn; subst hn; exact⟨h1,.inr h2⟩
  obtain⟨hb,hr⟩:=key
  have h1:=qdt b (.inl hb)
  have hr0:qcF r=false->r.fo.size<=1:=fun he=>by
   rcases hr with hr | hr
   ·cases r with
    | nil=>simp[Ss.fo]
    | block _ _ _=>obtain⟨n,hn,_⟩:=hr; simp at hn
    | _=>simp[Ss.good] at hr
   ·obtain⟨fb,b1,rfl,_⟩:=qkg hr
    cases b1<;>simp[qcF] at he
    simp[Ss.fo]
  have hr1:qcF r=true->r.fo.size<=r.tx.length:=fun he=>by
   rcases hr with hr | hr
   ·cases r with
    | nil=>simp[qcF] at he
    | block _ _ _=>obtain⟨n,hn,_⟩:=hr; simp at hn
    | _=>simp[Ss.good] at hr
   ·exact qdt r (.inr (.inl hr))
  cases he:qcF r with
  | true=>
   have:=hr1 he
   simp[Ss.fo,Ss.tx,he]; omega
  | false=>
   have:=hr0 he
   simp[Ss.fo,Ss.tx,he]; omega
theorem qsq {h:Nat->Option Ss} (hg : ∀ k,qcR (h k)) (hl:(qai false (qaX h)).length<=2000) : ∀ k,k<3->(hdO (h k)).nd.ks.size<=2000:=by
 intro k hk
 cases hb:h k with
 | none=>simp[hdO,Hd.ks]
 | some b=>
  have hgood:=(hg k b hb).1
  have h1:=qdt b (.inl hgood)
  have h2:=qfm (qec k (some b)) false (fun t ht=>by
   have hcl:=(qqO (k:=k) (h:=some b) (fun x hx=>by cases hx; exact hg k b hb)).ok
   exact qey (qjh hcl t ht))
  have h3:=qkp h
  have h4:(qai false (qec k (some b))).length<=(qai false (qaX h)).length:=by
   rw[h3]
   obtain rfl | rfl | rfl:k=0\/k=1\/k=2:=by omega
   all_goals rw[hb]; omega
  have h5:b.tx.length<=(qec k (some b)).length:=by simp[qec]; omega
  show b.fo.size<=2000
  omega
end Go.Pm
end SUh
section SUi
namespace Go.Pm
open F
set_option maxHeartbeats 4000000
def qme:ByteArray:=⟨#[111,110,32,116,105,99,107,123,120,91,48,93,61,49,43,50,42,118,59,125]⟩
def qpx:ByteArray:=⟨#[111,110,32,97,99,116,32,123,32,115,116,111,112,32,125]⟩
def liveB:Ss := .store true (bs [120]) (.int 0) (.bin true .add (.int 1) (.bin true .mul (.int 2) (.var (bs [118])))) .nil
def liveH:Nat->Option Ss:=fun k=>if k=1 then some liveB else none
theorem qig : ∀ k,qcR (liveH k):=by
 intro k b hb
 unfold liveH at hb
 split at hb
 ·cases hb
  refine⟨⟨rfl,by decide,⟨by decide,by decide⟩,⟨⟨by decide,by decide⟩,⟨⟨by decide,by decide⟩,?_,by decide,by decide,by decide⟩⟩,.inl rfl⟩,by decide⟩
  exact ql1 (by decide) (by decide) (by decide)
 ·cases hb
theorem qlo:bs (qai false (qaX liveH))=qme:=by decide +kernel
theorem qtJ:(fun k=>if k<3 then (liveH k).map (·.fl true true false) else none)=liveH:=by
 funext k
 unfold liveH
 by_cases h:k=1
 ·subst h; rfl
 ·simp[h]
theorem qnU : ∃ r,qbQ true true false qme = .ok liveH r:=by
 obtain⟨r,h⟩:=qio (f:=true) (fi:=true) (fb:=false) qig (by
  have:=congrArg ByteArray.size qlo
  rw[qao] at this
  rw[this]
  decide)
 rw[qlo,qtJ] at h
 exact⟨r,h⟩
theorem qri:qbQ true true false qpx = .er 14 12:=by
 have h:(match qbQ true true false qpx with
  | .er a c=>decide (a=14)&&decide (c=12)
  | .ok _ _=>false)=true:=by decide +kernel
 cases hv:qbQ true true false qpx with
 | ok x r=>rw[hv] at h; cases h
 | er a c=>
  rw[hv] at h
  simp only[Bool.and_eq_true,decide_eq_true_eq] at h
  rw[h.1,h.2]
theorem qpy {prog:Nat->Option PFun} (H:Has prog):Z prog (.call 229 [] [])=some (.ret (.bool true) []):=by
 obtain⟨r,hp⟩:=qnU
 have z1:=qe8 H qme (by decide)
 have z2:=qe8 H qpx (by decide)
 have hgood:=qig
 have z3:=qfD H.q (qpq (a := .none) (b := .some false liveB) (c := .none) (fun k=>by
  have:Hd.opts .none (.some false liveB) .none k=liveH k:=by
   match k with
   | 0=>rfl
   | 1=>rfl
   | k+2=>unfold liveH; rw[if_neg (by omega)]; rfl
  rw[this]
  exact qig k) (by decide +kernel))
 have e:bs (qai false (qaX (Hd.opts .none (.some false liveB) .none)))=qme:=by decide +kernel
 rw[e] at z3
 rw[qfB,hp] at z1
 rw[qfB,qri] at z2
 have e1:(qpt fun k=>qe6 (liveH k)) = .dat (ru Hd.none.nd (Hd.some false liveB).nd Hd.none.nd):=qjM liveH
 simp only[e1] at z1
 have c:liveB.fo = .cons 2 0 (bs [120]) true (E.fo (.int 0) (E.fo (.bin true .add (.int 1) (.bin true .mul (.int 2) (.var (bs [118])))) .nil)) .nil:=rfl
 generalize E.fo (.int 0) (E.fo (.bin true .add (.int 1) (.bin true .mul (.int 2) (.var (bs [118])))) .nil)=ks at c
 have hk:=qjl true ks.len ks.cells
 have hk2:=qrp true ks.len ks.cells
 have n1:(Hd.some false liveB).nd=⟨7,0,⟨#[]⟩,false,liveB.fo⟩:=rfl
 have n0:Hd.none.nd=⟨0,0,⟨#[]⟩,false,.nil⟩:=rfl
 simp only[n1,n0,c,ru,Nd.d,qaG,qaN,qaw,qaz,qlF,qrq] at z1 z3
 have m4:qe6 none=⟨0,0,⟨#[]⟩,.lit (.slice none 0 0),rfl,rfl⟩:=rfl
 simp only[qpt,m4] at z2
 generalize kd true ks.len ks.cells=kk at *
 have es:eqS qme qme=true:=by rw[qa2]; simp
 refine Z_call (H.k 229 F229 rfl) rfl ?_
 simp only[qme] at z1 z3 es
 simp only[qpx] at z2
 simp -implicitDefEqProofs [F229,z1,z2,z3,es,hk,hk2,qgl,qaf,List.range_succ]
end Go.Pm
end SUi
section SUj
namespace Go.Pm
open F
set_option maxHeartbeats 8000000
theorem qn7 {f fi fb:Bool} {s:ByteArray} {h:Nat->Option Ss} {r:List Tk} (hp:qbQ f fi fb s = .ok h r) (k:Nat):(h k).map (·.fl f fi fb)=h k:=by
 have e:=qpr f fi fb f fi fb s
 rw[hp] at e
 simp only[Rz.map,Rz.ok.injEq,and_true] at e
 exact (congrFun e k).symm
theorem qmq {f fi fb:Bool} {s:ByteArray} {h:Nat->Option Ss} {r:List Tk} (hp:qbQ f fi fb s = .ok h r) : ∃ r',qbQ f fi fb (bs (qai false (qaX h))) = .ok h r':=by
 obtain⟨hg,h3,hl,hs⟩:=qjr hp
 obtain⟨r',e⟩:=qio (f:=f) (fi:=fi) (fb:=fb) hg (by omega)
 refine⟨r',?_⟩
 rw[e]
 congr 1
 funext k
 by_cases hk:k<3
 ·rw[if_pos hk,qn7 hp k]
 ·rw[if_neg hk,h3 k (by omega)]
theorem qe2 (A:Nd):ndEq A.k A.n A.s A.ks A.k A.n A.s A.ks=true:=by simp[ndEq,qkr]
structure HasD (prog:Nat->Option PFun):Prop extends Has prog where
 kd:Sub tKd prog
section
variable {prog:Nat->Option PFun} (H:Has prog)
include H
theorem qyw {s:ByteArray} (hs:s.size<2 ^ 30) {h:Nat->Option Ss} {r:List Tk} (hp:qbQ true true false s = .ok h r) : ∃ (A B C:Nd) (S:ByteArray),S=bs (qai false (qaX h))/\S.size<=s.size/\S.size<=2000/\A=(hdO (h 0)).nd/\B=(hdO (h 1)).nd/\C=(hdO (h 2)).nd /\
  Z prog (.call 228 [.str s] [])=some (.ret (.tup [.dat (ru A B C),.int 0,.int 0]) [])/\Z prog (.call 231 [.dat (ru A B C)] [])=some (.ret (.str S) []) /\
  Z prog (.call 228 [.str S] [])=some (.ret (.tup [.dat (ru A B C),.int 0,.int 0]) [])/\Z prog (.call 232 [.dat (ru A B C),.dat (ru A B C)] [])=some (.ret (.bool true) []):=by
 obtain⟨hg,h3,hl,hb⟩:=qjr hp
 obtain⟨r',h2⟩:=qmq hp
 have hsz:=qsq hg (by omega)
 refine⟨_,_,_,_,rfl,by rw[qao]; exact hl,by rw[qao]; omega,rfl,rfl,rfl,?_,?_,?_,?_⟩
 ·have z:=qe8 H s hs
  rw[qfB,hp] at z
  simp only[qjM] at z
  exact z
 ·have z:=qfD H.q (qpq (qqf hg) (by rw[qkU]; omega))
  rw[qkU] at z
  exact z
 ·have z:=qe8 H (bs (qai false (qaX h))) (by rw[qao]; omega)
  rw[qfB,h2] at z
  simp only[qjM] at z
  exact z
 ·have z:=qfD H.e (qmK (a:=(hdO (h 0)).nd) (b:=(hdO (h 1)).nd) (c:=(hdO (h 2)).nd) (a':=(hdO (h 0)).nd) (b':=(hdO (h 1)).nd) (c':=(hdO (h 2)).nd) (by have:=hsz 0 (by omega); omega) (by have:=hsz 1 (by omega); omega) (by have:=hsz 2 (by omega); omega))
  rw[qe2,qe2,qe2] at z
  exact z
theorem qyx {s:ByteArray} (hs:s.size<2 ^ 30) {a c:Nat} (hp:qbQ true true false s = .er a c):c≠0/\Z prog (.call 228 [.str s] [])=some (.ret (.tup [.dat (ru Hd.none.nd Hd.none.nd Hd.none.nd),.int a,.int c]) []):=by
 refine⟨qll hp,?_⟩
 have z:=qe8 H s hs
 rw[qfB,hp] at z
 exact z
theorem qmr {cs:List D} {s:ByteArray} {i:Nat} (hi:i<3) (hc:cutCells cs i 1=some [.lit (.string s)]) (hs:s.size<2 ^ 30) :
  Z prog (.loop 0 F220l0 [(11,.dat (.sl cs 3 true)),(12,.int i)] [])=Z prog (.loop 0 F220l0 [(11,.dat (.sl cs 3 true)),(12,.int ((i+1:Nat):Int))] []):=by
 have w1:IntKind.i64.wrap ((i:Int)+1)=((i+1:Nat):Int):=by rw[qag _ (by omega)]; omega
 have hlt:(i:Int)<3:=by omega
 cases hp:qbQ true true false s with
 | er a c=>
  obtain⟨c0,z1⟩:=qyx H hs hp
  have c1 : ¬ (c:Int)=0:=by omega
  have n0:Hd.none.nd=⟨0,0,⟨#[]⟩,false,.nil⟩:=rfl
  simp only[n0,ru,Nd.d,qaN,qaz,qrq] at z1
  conv=>lhs; rw[qac]
  generalize ((i+1:Nat):Int)=i1 at *
  simp -implicitDefEqProofs [qad,qgE,qaf,qgl,hc,z1,c0,c1,w1,hlt,hi,List.range_succ]
  all_goals exact qcg (by simp[gcF,List.range_succ])
 | ok h r=>
  obtain⟨A,B,C,S,_,hS1,hS2,_,_,_,z1,z2,z3,z4⟩:=qyw H hs hp
  have hle : ¬ (s.size:Int)<S.size:=by omega
  have es:eqS S S=true:=by rw[qa2]; simp
  simp only[ru] at z1 z2 z3 z4
  conv=>lhs; rw[qac]
  generalize ((i+1:Nat):Int)=i1 at *
  simp -implicitDefEqProofs [qad,qgE,qaf,qgl,V.len,hc,z1,z2,z3,z4,hle,es,w1,hlt,hi,List.range_succ]
  all_goals exact qcg (by simp[gcF,List.range_succ])
end
theorem qkw {prog:Nat->Option PFun} (H:HasD prog) (raw:ByteArray) {v:D} {xs:List Int} (hv:RowV v xs) (hx : ∀ x∈xs,I64 x) {at_ how:Int} (ha:I64 at_) (hh:I64 how) {c:Nat} (hc:c<256) :
  Z prog (.call 220 [.str raw,.dat v,.int at_,.int how,.dat (.lit (.int .u8 c))] [])=some (.ret (.bool true) []):=by
 obtain⟨t0,h0,z0⟩:=qso H.toHas raw (m:=300) (by omega)
 obtain⟨a,b,d,ga,gb,gd,z1⟩:=qqe H.toHas hv hx
 have hl:=qng a b d
 have g1:=qkd ga
 have g2:=qkd gb
 have g3:=qkd gd
 obtain⟨t1,ht1⟩ : ∃ v,v=bs (qai false (qaX (Hd.opts a b d))):=⟨_,rfl⟩
 have hs1:t1.size<=75900:=by rw[ht1,qao]; omega
 rw[<- ht1] at z1
 obtain⟨t2,h2,z2⟩:=qqd H.toHas (s:=t1) (by omega) ha hh hc
 have r0:=qmr H.toHas (cs:=[.lit (.string t0),.lit (.string t1),.lit (.string t2)]) (s:=t0) (i:=0) (by omega) (by simp) (by omega)
 have r1:=qmr H.toHas (cs:=[.lit (.string t0),.lit (.string t1),.lit (.string t2)]) (s:=t1) (i:=1) (by omega) (by simp) (by omega)
 have r2:=qmr H.toHas (cs:=[.lit (.string t0),.lit (.string t1),.lit (.string t2)]) (s:=t2) (i:=2) (by omega) (by simp) (by omega)
 have r3:Z prog (.loop 0 F220l0 [(11,.dat (.sl [.lit (.string t0),.lit (.string t1),.lit (.string t2)] 3 true)),(12,.int ((2+1:Nat):Int))] [])=some (.out (.exit 0) [(11,.dat (.sl [.lit (.string t0),.lit (.string t1),.lit (.string t2)] 3 true)),(12,.int 3),(32,.bool false)] []):=by
  rw[qac]
  simp[qad,qgE]
 have rr:=r0.trans (r1.trans (r2.trans r3))
 have zl:=qpy H.toHas
 have k0:=hv.one
 have k1:=hv.cells
 simp only[Int.cast_ofNat_Int] at z0 rr
 refine Z_call (H.kd 220 F220 rfl) rfl ?_
 simp -implicitDefEqProofs [F220,z0,z1,z2,rr,zl,k0,k1]
end Go.Pm
end SUj
section SSf
namespace Go.Pm
open F
set_option maxHeartbeats 8000000
theorem qu6 {f neg:Bool} {e:E} {L:Nat} (hL:L=qcM neg) (ge:e.good) (he:qcq e true L L) {p:Nat} {i:Int} (hi:i=p)  : qcq (E.un f neg e) true p i:=by
 intro hsz
 have zl:Z tS (.call 261 [.dat (.agg [.lit (.int .i64 13),.lit (.int .i64 0),.lit (.string (ustr neg)),.sl [.lit (.int .i64 e.kind),.lit (.int .i64 e.num),.lit (.string e.str),e.kids] 1 f])] [])=some (.ret (.int L) []):=by
  have:=qdH (.un f neg e)
  rw[show E.lev (.un f neg e)=L from hL.symm] at this
  exact this
 have h8:(L:Int)<8:=by rw[hL]; cases neg<;>decide
 obtain⟨inn,hinn⟩ : ∃ v,v=[(ustr neg)]++(e.tx true L++[]):=⟨_,rfl⟩
 have htx:(E.un f neg e).tx true p=bs [40]::(inn++[bs [41]]):=by
  rw[hinn]
  simp[E.tx,qbq,bs,hL.symm]
 rw[htx] at hsz ⊢
 rw[qea] at hsz ⊢
 have hin:(qai false inn).length<2 ^ 40:=by simp at hsz; omega
 have hin2:(qai false inn).length+2<2 ^ 40:=by simp at hsz; omega
 have z1:=he (Nat.lt_of_le_of_lt (by
  have:=qan ([(ustr neg)]) (e.tx true L) ([]) false
  try simp only[List.append_assoc,List.nil_append] at this
  rw[hinn]
  exact this) hin)
 have hP:Parts [(ustr neg),bs (qai false (e.tx true L))] inn:=by rw[hinn]; exact (.tok (.sub (qbi true ge L) .nil))
 obtain⟨R,hR⟩ : ∃ v,v=bs (qai false inn):=⟨_,rfl⟩
 have hRs:R.size<2 ^ 40:=by rw[hR,qao]; exact hin
 have za:Z tS (.call 247 [.dat (.sl [.lit (.string (ustr neg)),.lit (.string (bs (qai false (e.tx true L))))] 2 true)] [])=some (.ret (.str R) []):=qcP hP hR (by simp) hRs
 generalize bs (qai false (e.tx true L))=r1 at *
 have hfin:bs (40::(qai false inn++[41]))=⟨#[40]⟩++R++⟨#[41]⟩:=by
  rw[qch,qch ⟨#[40]⟩,qaY,hR,qaY]
  simp[byl]
 rw[hfin]
 have hRl:R.size+2<2 ^ 40:=by rw[hR,qao]; exact hin2
 have y1:((⟨#[40]⟩:ByteArray).size:Int)=1:=rfl
 have y2:((⟨#[41]⟩:ByteArray).size:Int)=1:=rfl
 have y3:(⟨#[40]⟩:ByteArray).size=1:=rfl
 have y4:(⟨#[41]⟩:ByteArray).size=1:=rfl
 have y5 : ¬ (9223372036854775807:Int)<1+(R.size:Int):=by omega
 have y6 : ¬ (9223372036854775807:Int)<1+(R.size:Int)+1:=by omega
 have y7:(⟨#[40]⟩++R:ByteArray).size=1+R.size:=by rw[ByteArray.size_append]; rfl
 clear hP hR hinn htx hsz hin hin2 hfin
 refine Z_call (pf:=F246) rfl rfl ?_
 by_cases hc:(L:Int)<i<;>simp[F246,qaf,hc,zl,y1,y2,y3,y4,y5,y6,y7,z1,za,h8]
theorem qsQ {f:Bool} {o:Bop} {a b:E} {L:Nat} (hl:o.prec=L) (h4:L≠4) (ga:a.good) (gb:b.good) (ha:qcq a true L L) (hb:qcq b true (L+1) ((L:Int)+1)) {p:Nat} {i:Int} (hi:i=p)  : qcq (E.bin f o a b) true p i:=by
 intro hsz
 have zl:Z tS (.call 261 [.dat (.agg [.lit (.int .i64 14),.lit (.int .i64 0),.lit (.string o.str),.sl [.lit (.int .i64 a.kind),.lit (.int .i64 a.num),.lit (.string a.str),a.kids,.lit (.int .i64 b.kind),.lit (.int .i64 b.num),.lit (.string b.str),b.kids] 2 f])] [])=some (.ret (.int L) []):=by
  have:=qdH (.bin f o a b)
  rw[show E.lev (.bin f o a b)=L from hl] at this
  exact this
 have hlf:o.left=L:=by have:=qaM o; omega
 have h4' : ¬ (L:Int)=4:=by omega
 have h8:(L:Int)<8:=by have:=qaM o; omega
 have w1:=qag ((L:Int)+1) (by omega)
 obtain⟨inn,hinn⟩ : ∃ v,v=a.tx true L++([o.str]++(b.tx true (L+1)++[])):=⟨_,rfl⟩
 have htx:(E.bin f o a b).tx true p=bs [40]::(inn++[bs [41]]):=by
  rw[hinn]
  simp[E.tx,qbq,bs,hl,hlf]
 rw[htx] at hsz ⊢
 rw[qea] at hsz ⊢
 have hin:(qai false inn).length<2 ^ 40:=by simp at hsz; omega
 have hin2:(qai false inn).length+2<2 ^ 40:=by simp at hsz; omega
 have z0:=ha (Nat.lt_of_le_of_lt (by
  have:=qan ([]) (a.tx true L) ([o.str]++(b.tx true (L+1)++[])) false
  try simp only[List.append_assoc,List.nil_append] at this
  rw[hinn]
  exact this) hin)
 have z2:=hb (Nat.lt_of_le_of_lt (by
  have:=qan (a.tx true L++([o.str])) (b.tx true (L+1)) ([]) false
  try simp only[List.append_assoc,List.nil_append] at this
  rw[hinn]
  exact this) hin)
 have hP:Parts [bs (qai false (a.tx true L)),o.str,bs (qai false (b.tx true (L+1)))] inn:=by rw[hinn]; exact (.sub (qbi true ga L) (.tok (.sub (qbi true gb (L+1)) .nil)))
 obtain⟨R,hR⟩ : ∃ v,v=bs (qai false inn):=⟨_,rfl⟩
 have hRs:R.size<2 ^ 40:=by rw[hR,qao]; exact hin
 have za:Z tS (.call 247 [.dat (.sl [.lit (.string (bs (qai false (a.tx true L)))),.lit (.string o.str),.lit (.string (bs (qai false (b.tx true (L+1)))))] 3 true)] [])=some (.ret (.str R) []):=qcP hP hR (by simp) hRs
 generalize bs (qai false (a.tx true L))=r0 at *
 generalize bs (qai false (b.tx true (L+1)))=r2 at *
 have hfin:bs (40::(qai false inn++[41]))=⟨#[40]⟩++R++⟨#[41]⟩:=by
  rw[qch,qch ⟨#[40]⟩,qaY,hR,qaY]
  simp[byl]
 rw[hfin]
 have hRl:R.size+2<2 ^ 40:=by rw[hR,qao]; exact hin2
 have y1:((⟨#[40]⟩:ByteArray).size:Int)=1:=rfl
 have y2:((⟨#[41]⟩:ByteArray).size:Int)=1:=rfl
 have y3:(⟨#[40]⟩:ByteArray).size=1:=rfl
 have y4:(⟨#[41]⟩:ByteArray).size=1:=rfl
 have y5 : ¬ (9223372036854775807:Int)<1+(R.size:Int):=by omega
 have y6 : ¬ (9223372036854775807:Int)<1+(R.size:Int)+1:=by omega
 have y7:(⟨#[40]⟩++R:ByteArray).size=1+R.size:=by rw[ByteArray.size_append]; rfl
 clear hP hR hinn htx hsz hin hin2 hfin
 refine Z_call (pf:=F246) rfl rfl ?_
 by_cases hc:(L:Int)<i<;>simp[F246,qaf,hc,zl,y1,y2,y3,y4,y5,y6,y7,z0,z2,za,h4',h8,w1]
theorem qqC {f:Bool} {o:Bop} {a b:E} (hl:o.prec=4) (ga:a.good) (gb:b.good) (ha:qcq a true 5 5) (hb:qcq b true 5 5) {p:Nat} {i:Int} (hi:i=p)  : qcq (E.bin f o a b) true p i:=by
 intro hsz
 have zl:Z tS (.call 261 [.dat (.agg [.lit (.int .i64 14),.lit (.int .i64 0),.lit (.string o.str),.sl [.lit (.int .i64 a.kind),.lit (.int .i64 a.num),.lit (.string a.str),a.kids,.lit (.int .i64 b.kind),.lit (.int .i64 b.num),.lit (.string b.str),b.kids] 2 f])] [])=some (.ret (.int 4) []):=by
  have:=qdH (.bin f o a b)
  rw[show E.lev (.bin f o a b)=4 from hl] at this
  exact this
 have hlf:o.left=5:=by have:=qaM o; omega
 obtain⟨inn,hinn⟩ : ∃ v,v=a.tx true 5++([o.str]++(b.tx true 5++[])):=⟨_,rfl⟩
 have htx:(E.bin f o a b).tx true p=bs [40]::(inn++[bs [41]]):=by
  rw[hinn]
  simp[E.tx,qbq,bs,hl,hlf]
 rw[htx] at hsz ⊢
 rw[qea] at hsz ⊢
 have hin:(qai false inn).length<2 ^ 40:=by simp at hsz; omega
 have hin2:(qai false inn).length+2<2 ^ 40:=by simp at hsz; omega
 have z0:=ha (Nat.lt_of_le_of_lt (by
  have:=qan ([]) (a.tx true 5) ([o.str]++(b.tx true 5++[])) false
  try simp only[List.append_assoc,List.nil_append] at this
  rw[hinn]
  exact this) hin)
 have z2:=hb (Nat.lt_of_le_of_lt (by
  have:=qan (a.tx true 5++([o.str])) (b.tx true 5) ([]) false
  try simp only[List.append_assoc,List.nil_append] at this
  rw[hinn]
  exact this) hin)
 have hP:Parts [bs (qai false (a.tx true 5)),o.str,bs (qai false (b.tx true 5))] inn:=by rw[hinn]; exact (.sub (qbi true ga 5) (.tok (.sub (qbi true gb 5) .nil)))
 obtain⟨R,hR⟩ : ∃ v,v=bs (qai false inn):=⟨_,rfl⟩
 have hRs:R.size<2 ^ 40:=by rw[hR,qao]; exact hin
 have za:Z tS (.call 247 [.dat (.sl [.lit (.string (bs (qai false (a.tx true 5)))),.lit (.string o.str),.lit (.string (bs (qai false (b.tx true 5))))] 3 true)] [])=some (.ret (.str R) []):=qcP hP hR (by simp) hRs
 generalize bs (qai false (a.tx true 5))=r0 at *
 generalize bs (qai false (b.tx true 5))=r2 at *
 have hfin:bs (40::(qai false inn++[41]))=⟨#[40]⟩++R++⟨#[41]⟩:=by
  rw[qch,qch ⟨#[40]⟩,qaY,hR,qaY]
  simp[byl]
 rw[hfin]
 have hRl:R.size+2<2 ^ 40:=by rw[hR,qao]; exact hin2
 have y1:((⟨#[40]⟩:ByteArray).size:Int)=1:=rfl
 have y2:((⟨#[41]⟩:ByteArray).size:Int)=1:=rfl
 have y3:(⟨#[40]⟩:ByteArray).size=1:=rfl
 have y4:(⟨#[41]⟩:ByteArray).size=1:=rfl
 have y5 : ¬ (9223372036854775807:Int)<1+(R.size:Int):=by omega
 have y6 : ¬ (9223372036854775807:Int)<1+(R.size:Int)+1:=by omega
 have y7:(⟨#[40]⟩++R:ByteArray).size=1+R.size:=by rw[ByteArray.size_append]; rfl
 clear hP hR hinn htx hsz hin hin2 hfin
 refine Z_call (pf:=F246) rfl rfl ?_
 by_cases hc:(4:Int)<i<;>simp[F246,qaf,hc,zl,y1,y2,y3,y4,y5,y6,y7,z0,z2,za,qag 5 (by omega)]
theorem qk7 : ∀ e:E,e.good -> ∀ p i,i=((p:Nat):Int)->p<=8->qcq e true p i
 | .int n,h,p,i,hi,hp=>qrL h.1 h.2 hi hp
 | .bool n,h,p,i,hi,hp=>by
  rcases h with rfl | rfl
  ·exact qmN hi hp
  ·exact qmO hi hp
 | .var s,h,p,i,hi,hp=>qrM hi hp
 | .name s,h,p,i,hi,hp=>qoT hi hp
 | .field f s e,h,p,i,hi,hp=>qmP h.2 (qk7 e h.2 1 1 rfl (by omega)) hi hp
 | .un f neg e,h,p,i,hi,hp=>qu6 (e:=e) rfl h (qk7 e h (qcM neg) (qcM neg) rfl (by cases neg<;>decide)) hi
 | .bin f o a b,h,p,i,hi,hp=>by
  have hr:=qaM o
  have A:=qk7 a h.1 o.left o.left rfl (by omega)
  have B:=qk7 b h.2 (o.prec+1) ((o.prec:Int)+1) (by omega) (by omega)
  by_cases h4:o.prec=4
  ·rw[show o.left=5 by omega] at A
   rw[h4] at B
   exact qqC h4 h.1 h.2 A B hi
  ·rw[show o.left=o.prec by omega] at A
   exact qsQ rfl h4 h.1 h.2 A B hi
theorem qu7 {e:E} (h:e.good) (hsz:(qai false (e.tx true 1)).length<2 ^ 40):Z tSf (.call 233 [e.node] [])=some (.ret (.str (bs (qai false (e.tx true 1)))) []):=by
 have z:=qfD qn6 (qk7 e h 1 1 rfl (by omega) hsz)
 generalize bs (qai false (e.tx true 1))=R at *
 refine Z_call (pf:=F233) rfl rfl ?_
 simp[F233,z]
end Go.Pm
end SSf
section SWa
namespace Go.Pm
def qks (full:Bool) (e:E):List ByteArray:=onS::qgN::bs [123]::bs [118]::bs [61]::(e.tx full 1++[bs [59],bs [125]])
theorem qpV (full:Bool) {e:E} (h:e.good):Cl (qks full e):=by
 refine qa9 (a:=[onS]) (clw (by decide)) (qa9 (a:=[qgN]) (clw (by decide)) (qa9 (a:=[bs [123]]) (cls (by decide) (by decide) (by decide)) ?_))
 exact qqN (a:=[bs [118]]) (x:=bs [61]) (qmZ (by decide)) (qo5 (ql1 (by decide) (by decide) (by decide)) (.inl (by decide)))
  (qa9 (qhd full e h 1) (qa9 (a:=[bs [59]]) (cls (by decide) (by decide) (by decide)) (cls (by decide) (by decide) (by decide)))) (by simp) (by simp)
theorem qnn (full:Bool) (e:E):qai false (qks full e)=[111,110,32,104,105,116,123,118,61]++(qai false (e.tx full 1)++[59,125]):=by
 have g2 : ∀ q,gap q (bs [59])=[]:=fun q=>by cases q<;>decide
 have g3 : ∀ q,gap q (bs [125])=[]:=fun q=>by cases q<;>decide
 have e1:qai false (qks full e)=qai false [onS,qgN,bs [123],bs [118],bs [61]]++qai (ql2 false [onS,qgN,bs [123],bs [118],bs [61]]) (e.tx full 1++[bs [59],bs [125]]):=qdO [onS,qgN,bs [123],bs [118],bs [61]] _ false
 rw[e1,show qai false [onS,qgN,bs [123],bs [118],bs [61]]=[111,110,32,104,105,116,123,118,61] by decide,show ql2 false [onS,qgN,bs [123],bs [118],bs [61]]=false by decide,qdO,qai,qai,qai,g2,g3]
 simp[qaY]
theorem qpW {f fi fb:Bool} (full:Bool) {e:E} (hg:e.good) (hn:e.nest full 1<=19) (hs:(qai false (qks full e)).length<=2000) :
  ∃ r,qbQ f fi fb (bs (qai false (qks full e))) = .ok (fun k=>if k=2 then some (.assign f (bs [118]) (e.fl f) .nil) else none) r:=by
 obtain⟨e0,hx⟩:=qlz (qpV full hg).ok
 refine⟨_,qly (by rw[qao]; omega) (y := .ok _ [⟨e0,⟨#[]⟩,0⟩]) ?_⟩
 generalize toks (bs (qai false (qks full e)))=ts at hx
 obtain⟨h1,h2⟩:=qbP hx
 obtain⟨h3,h4⟩:=qbP h2
 obtain⟨h5,h6⟩:=qbP h4
 obtain⟨h7,h8⟩:=qbP h6
 obtain⟨h9,h10⟩:=qbP h8
 obtain⟨mid,m1,m2⟩:=hx_app.1 h10
 obtain⟨m3,m4⟩:=qbP m2
 obtain⟨m5,m6⟩:=qbP m4
 obtain⟨n,hn1⟩:=(rb (eS:=12) (eL:=2) (f:=f) full e hg).1 1 1 _ mid (by omega) (by omega) m1 (by omega) (qrT _ (by intro o; cases o<;>decide) m2)
 have hend:mid.tail.tail=[⟨e0,⟨#[]⟩,0⟩]:=m6
 have hst:qbZ 12 2 f fi fb (n+1) 1 ts.tail.tail.tail=some (.ok (.assign f (bs [118]) (e.fl f) .nil) mid.tail):=by
  rw[qbZ,h7]
  simp only
  rw[if_neg (by decide),if_neg (by decide),if_neg (by decide),if_neg (by decide),if_neg (by decide),if_pos (by decide),show qas 12 (bs [61]) ts.tail.tail.tail.tail = .ok () ts.tail.tail.tail.tail.tail from qb0 h8]
  simp only[hn1,qa0,qb0 m2]
 have hss:qbx 12 2 f fi fb (n+2) 1 .nil ts.tail.tail.tail=some (.ok (.assign f (bs [118]) (e.fl f) .nil) [⟨e0,⟨#[]⟩,0⟩]):=by
  rw[qbx,h7]
  simp only
  rw[if_neg (by decide),hst]
  simp only[Ss.app]
  rw[qbx,m5]
  simp only
  rw[if_pos trivial,hend]
 have hbl:qaP 12 2 f fi fb (n+3) 1 ts.tail.tail=some (.ok (.assign f (bs [118]) (e.fl f) .nil) [⟨e0,⟨#[]⟩,0⟩]):=by
  rw[qaP,qeS h4 (by omega)]
  exact hss
 refine⟨n+4,?_⟩
 rw[qcl,h1]
 simp only
 rw[if_neg (by decide),show qas 12 (bs [111,110]) ts = .ok () ts.tail from qb0 hx]
 simp only[h3,show qbo qgN=some 2 from rfl]
 rw[if_neg (by simp),hbl]
 simp only
 exact (show qcl 12 2 4 f fi fb (n+3) _ [⟨e0,⟨#[]⟩,0⟩]=_ from rfl)
theorem qfp (f:Bool) : ∀ (e:E) {r r':Fo},r.eqv r'=true->((e.fl f).fo r).eqv (e.fo r')=true
 | .int n,r,r',h=>by simp[E.fl,E.fo,Fo.eqv,h]
 | .bool n,r,r',h=>by simp[E.fl,E.fo,Fo.eqv,h]
 | .var s,r,r',h=>by simp[E.fl,E.fo,Fo.eqv,h]
 | .name s,r,r',h=>by simp[E.fl,E.fo,Fo.eqv,h]
 | .field _ s e,r,r',h=>by simp[E.fl,E.fo,Fo.eqv,h,qfp f e (r := .nil) (r' := .nil) rfl]
 | .un _ n e,r,r',h=>by simp[E.fl,E.fo,Fo.eqv,h,qfp f e (r := .nil) (r' := .nil) rfl]
 | .bin _ o a b,r,r',h=>by simp[E.fl,E.fo,Fo.eqv,h,qfp f a (qfp f b (r := .nil) (r' := .nil) rfl)]
theorem qkt : ∀ {a b:Fo},a.eqv b=true->a.size=b.size
 | .nil,.nil,_=>rfl
 | .cons ..,.cons ..,h=>by
  simp only[Fo.eqv,Bool.and_eq_true] at h
  simp only[Fo.size,qkt h.2.1,qkt h.2.2]
 | .nil,.cons ..,h=>by cases h
 | .cons ..,.nil,h=>by cases h
theorem qtY {e e':E} (h:(e.fo .nil).eqv (e'.fo .nil)=true):ndEq e.kind e.num e.str e.kfo e'.kind e'.num e'.str e'.kfo=true:=by
 rw[qfu,qfu] at h
 simp only[Fo.eqv,Bool.and_true] at h
 exact h
end Go.Pm
end SWa
