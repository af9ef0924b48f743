/- Chapter 13's parser: a whole program: the walks. -/
import Derived.Test.YtoccgneneplciaaGreatDoorPmAL
import Derived.Test.YtoccgneneplciaaGreatDoorPmKi
import Derived.Test.YtoccgneneplciaaGreatDoorPmYj
import Derived.Test.YtoccgneneplciaaGreatDoorPmOd
import Derived.Test.YtoccgneneplciaaGreatDoorPmF5
import Derived.Test.YtoccgneneplciaaGreatDoorPmDc
import Derived.Test.YtoccgneneplciaaGreatDoorPmG2
import Derived.Test.YtoccgneneplciaaGreatDoorPmEt
import Derived.KernelRfl
set_option linter.unusedSimpArgs false
set_option linter.unusedVariables false
set_option maxHeartbeats 4000000
namespace Go.Pm
section
open F
attribute [local simp] qbd qbY dkey
abbrev pgF:Fr:=[(0,.ptr 0 0),(2,.ptr 3 0),(3,.ptr 4 0)]
abbrev pgS(s:ByteArray)(T:List Tk)(i a c:Int)(q:Nat->N4):S:=PS s T i a c++[qvW,rob q]
section
variable{s:ByteArray}{T:List Tk}{i i' i2:Nat}{t:Tk}{r:List Tk}{a c:Int}{q:Nat->N4}
theorem qwR(h:T.drop i=t::r)(hb:t.bad=0)(hs:t.s=⟨#[]⟩):Z tP (.loop 3 F242l0 pgF (pgS s T i 0 12 q))=some (.out (.exit 0) (pgF++[(8,.bool false)]) (pgS s T i 0 12 q)):=by
 have zp:=qax (s:=s) (a:=0) (c:=12) h hb
 have hk:kindT t=0:=by rw[qcc hb,qig,if_pos hs]
 have k0:=(q 0).one
 have k1:=(q 1).one
 have k2:=(q 2).one
 have c0:=(q 0).cl
 have c1:=(q 1).cl
 have c2:=(q 2).cl
 simp only[PS,pO,ptk,ptD,hk] at zp
 rw[qab]
 simp[qac,qcP,zp,k0,k1,k2,c0,c1,c2,Wa]
theorem qwS(h:T.drop i=t::r)(hb:t.bad≠0) : ∃ fr,fr.get 1000000=none/\Z tP (.loop 3 F242l0 pgF (pgS s T i 0 12 q))=some (.out (.pan (.iface 1 (.int t.bad))) fr (pgS s T i t.at_ t.bad q)):=by
 have zp:=qeT (s:=s) (a:=0) (c:=12) h hb
 simp only[PS,pO] at zp
 refine⟨(5,.ptr 0 0)::pgF,by simp[Fr.get],?_⟩
 rw[qab]
 simp[qac,qcP,zp,qag,Wa]
theorem qze(h:T.drop i=t::r)(hb:t.bad=0)(hs:t.s≠⟨#[]⟩)(z:Z tP (.call 253 [.ptr 0 0,.str ⟨#[111,110]⟩] (PS s T i 0 12))=some (.ret (qbm c) (PS s T i' a c))) : ∃ fr,fr.get 1000000=none/\Z tP (.loop 3 F242l0 pgF (pgS s T i 0 12 q))=some (.out (.pan (.iface 1 (.int c))) fr (pgS s T i' a c q)):=by
 have zp:=qax (s:=s) (a:=0) (c:=12) h hb
 have hk:decide (kindT t=0)=false:=decide_eq_false (fun e=>hs ((qen hb).mp e))
 simp only[PS,pO,ptk,ptD] at zp z
 refine⟨(9,.ptr 0 0)::(pgF++[(8,.bool true)]),by simp[Fr.get],?_⟩
 rw[qab]
 simp[qac,qcP,zp,z,hk,qag,Wa]
theorem qpo (h:T.drop i=t::r) (hb:t.bad=0) (hs:t.s≠⟨#[]⟩) (z:Z tP (.call 253 [.ptr 0 0,.str ⟨#[111,110]⟩] (PS s T i 0 12))=some (.ret (.tup []) (PS s T i' 0 12)))
  (zh:Z tP (.call 254 [.ptr 0 0] (PS s T i' 0 12))=some (.ret (qbm c) (PS s T i2 a c))) : ∃ fr,fr.get 1000000=none/\Z tP (.loop 3 F242l0 pgF (pgS s T i 0 12 q))=some (.out (.pan (.iface 1 (.int c))) fr (pgS s T i2 a c q)):=by
 have zp:=qax (s:=s) (a:=0) (c:=12) h hb
 have hk:decide (kindT t=0)=false:=decide_eq_false (fun e=>hs ((qen hb).mp e))
 simp only[PS,pO,ptk,ptD] at zp z zh
 refine⟨(11,.ptr 0 0)::pgF,by simp[Fr.get],?_⟩
 rw[qab]
 simp[qac,qcP,zp,z,zh,hk,qag,Wa]
theorem qwT {t2:Tk} {r2:List Tk} {k:Nat} (h:T.drop i=t::r) (hb:t.bad=0) (hs:t.s≠⟨#[]⟩) (z:Z tP (.call 253 [.ptr 0 0,.str ⟨#[111,110]⟩] (PS s T i 0 12))=some (.ret (.tup []) (PS s T i' 0 12)))
  (h2:T.drop i'=t2::r2) (hb2:t2.bad=0) (hh:qbZ t2.s=some k) (hq:decide ((q k).k=0)=false) : ∃ fr,fr.get 1000000=none/\Z tP (.loop 3 F242l0 pgF (pgS s T i 0 12 q))=some (.out (.pan (.iface 1 (.int 4))) fr (pgS s T i' t2.at_ 4 q)):=by
 have zp:=qax (s:=s) (a:=0) (c:=12) h hb
 have zp2:=qax (s:=s) (a:=0) (c:=12) h2 hb2
 have zh:=qg7 (s:=s) h2 hb2 hh
 have zf:=qgN (s:=s) (T:=T) (i:=i') (a:=0) (c:=12) (k:=kindT t2) (x:=qfB t2) (at_:=t2.at_) (v:=valT t2) (e:=t2.bad) (c':=4)
 have hk:decide (kindT t=0)=false:=decide_eq_false (fun e=>hs ((qen hb).mp e))
 simp only[PS,pO,ptk,ptD] at zp zp2 z zh zf
 have k0:=(q 0).one
 have k1:=(q 1).one
 have k2:=(q 2).one
 have c0:=(q 0).cl
 have c1:=(q 1).cl
 have c2:=(q 2).cl
 refine⟨(21,ptk t2)::(20,.ptr 0 0)::(19,.ptr 0 0)::(pgF++[(4,.int k),(18,.bool true)]),by simp[Fr.get],?_⟩
 rw[qab]
 rcases qff hh with rfl|rfl|rfl<;>simp[qac,qcP,zp,zp2,z,zh,zf,hk,hq,k0,k1,k2,c0,c1,c2,qag,Wa]
theorem qwU {t2:Tk} {r2:List Tk} {k:Nat} (hT:T.length<2 ^ 40) (h:T.drop i=t::r) (hb:t.bad=0) (hs:t.s≠⟨#[]⟩) (z:Z tP (.call 253 [.ptr 0 0,.str ⟨#[111,110]⟩] (PS s T i 0 12))=some (.ret (.tup []) (PS s T i' 0 12)))
  (h2:T.drop i'=t2::r2) (hb2:t2.bad=0) (hh:qbZ t2.s=some k) (hq:decide ((q k).k=0)=true) (zb:Z tP (.call 256 [.ptr 0 0,.int 1] (PS s T ((i'+1:Nat):Int) 0 12))=some (.ret (qbm c) (PS s T i2 a c))) : ∃ fr,fr.get 1000000=none/\Z tP (.loop 3 F242l0 pgF (pgS s T i 0 12 q))=some (.out (.pan (.iface 1 (.int c))) fr (pgS s T i2 a c q)):=by
 have zp:=qax (s:=s) (a:=0) (c:=12) h hb
 have zh:=qg7 (s:=s) h2 hb2 hh
 have hlt:=qi1 h2
 have w1:=qah ((i':Int)+1) (by omega)
 have hk:decide (kindT t=0)=false:=decide_eq_false (fun e=>hs ((qen hb).mp e))
 simp only[PS,pO,ptk,ptD] at zp z zh zb
 simp only[Ws,Wn] at zb
 have k0:=(q 0).one
 have k1:=(q 1).one
 have k2:=(q 2).one
 have c0:=(q 0).cl
 have c1:=(q 1).cl
 have c2:=(q 2).cl
 refine⟨(31,.ptr 0 0)::(30,.int k)::(pgF++[(4,.int k)]),by simp[Fr.get],?_⟩
 rw[qab]
 rcases qff hh with rfl|rfl|rfl<;>simp[qac,qcP,zp,z,zh,zb,w1,hk,hq,k0,k1,k2,c0,c1,c2,qag,Wa]
theorem qzf {t2:Tk} {r2:List Tk} {k:Nat} {d:D} (hT:T.length<2 ^ 40) (h:T.drop i=t::r) (hb:t.bad=0) (hs:t.s≠⟨#[]⟩) (z:Z tP (.call 253 [.ptr 0 0,.str ⟨#[111,110]⟩] (PS s T i 0 12))=some (.ret (.tup []) (PS s T i' 0 12)))
  (h2:T.drop i'=t2::r2) (hb2:t2.bad=0) (hh:qbZ t2.s=some k) (hq:decide ((q k).k=0)=true) (od:V.one (.dat d)=true) (oc:V.cells (.dat d)=[.dat d]) (zb:Z tP (.call 256 [.ptr 0 0,.int 1] (PS s T ((i'+1:Nat):Int) 0 12))=some (.ret (nv 7 ⟨#[]⟩ d) (PS s T i2 0 12))):Z tP (.loop 3 F242l0 pgF (pgS s T i 0 12 q))=Z tP (.loop 3 F242l0 pgF (pgS s T i2 0 12 (qyl q k ⟨7,0,⟨#[]⟩,d,od,oc⟩))):=by
 have zp:=qax (s:=s) (a:=0) (c:=12) h hb
 have zh:=qg7 (s:=s) h2 hb2 hh
 have hlt:=qi1 h2
 have w1:=qah ((i':Int)+1) (by omega)
 have hk:decide (kindT t=0)=false:=decide_eq_false (fun e=>hs ((qen hb).mp e))
 simp only[PS,pO,ptk,ptD] at zp z zh
 simp only[PS,pO,nv] at zb
 simp only[Ws,Wn] at zb
 have k0:=(q 0).one
 have k1:=(q 1).one
 have k2:=(q 2).one
 have c0:=(q 0).cl
 have c1:=(q 1).cl
 have c2:=(q 2).cl
 conv=>lhs; rw[qab]
 rcases qff hh with rfl|rfl|rfl<;>simp[qac,qcP,zp,z,zh,zb,od,oc,w1,hk,hq,k0,k1,k2,c0,c1,c2,qyl,Wa]<;>rfl
end
end
section
open F
theorem qzg{w:ByteArray}(h:w.size=0):w=⟨#[]⟩:=by
 have hb:byl w=[]:=WH (by rw[qaA]; exact h)
 have:=qfM w
 rw[hb] at this
 exact this.symm
section
variable{s:ByteArray}{T:List Tk}
theorem qlg (hw:WfQ T) (hT:T.length<2 ^ 30) (hP : ∀ t∈T,TokP t) : ∀ (n:Nat) (hh:Nat->Option Ss) (i:Nat) (t:Tk) (r:List Tk) (x:Rz (Nat->Option Ss)),T.drop i=t::r->qdO 12 2 4 true true false n hh (t::r)=some x->match x with
  |.ok h' _ => ∃ i':Nat,Z tP (.loop 3 F242l0 pgF (pgS s T i 0 12 fun k=>qfD (hh k)))=some (.out (.exit 0) (pgF++[(8,.bool false)]) (pgS s T i' 0 12 fun k=>qfD (h' k)))
  |.er a c => ∃ (i':Nat) (fr:Fr) (q':Nat->N4),fr.get 1000000=none/\Z tP (.loop 3 F242l0 pgF (pgS s T i 0 12 fun k=>qfD (hh k)))=some (.out (.pan (.iface 1 (.int c))) fr (pgS s T i' a c q'))
 |0,hh,i,t,r,x,_,hx=>by simp[qdO] at hx
 |n+1,hh,i,t,r,x,h,hx=>by
  rw[qdO] at hx
  by_cases hb:t.bad=0
  case neg=>
   have hnx:nx (t::r)=none:=if_neg hb
   rw[hnx] at hx
   simp only[qcn,if_neg hb,Wb] at hx
   subst hx
   obtain⟨fr,f1,f2⟩:=qwS (s:=s) (q:=fun k=>qfD (hh k)) h hb
   exact⟨i,fr,_,f1,f2⟩
  have hnx:nx (t::r)=some t.s:=if_pos hb
  rw[hnx] at hx
  simp only at hx
  by_cases h0:t.s.size=0
  ·rw[if_pos h0] at hx
   simp only[Wb] at hx
   subst hx
   exact⟨i,qwR h hb (qzg h0)⟩
  rw[if_neg h0] at hx
  have hne:t.s≠⟨#[]⟩:=fun e=>h0 (by rw[e]; rfl)
  have ho:=qcy (s:=s) hw (by omega) h (x:=bs [111,110]) (by decide)
  cases hq:qaQ 12 (bs [111,110]) (t::r) with
  |er a c=>
   rw[hq] at hx ho
   simp only[Wb] at hx
   subst hx
   obtain⟨i',z⟩:=ho
   obtain⟨fr,f1,f2⟩:=qze (q:=fun k=>qfD (hh k)) h hb hne z
   exact⟨i',fr,_,f1,f2⟩
  |ok u r1=>
   rw[hq] at hx ho
   simp only at hx
   obtain⟨i1,a1,a2,z⟩:=ho
   obtain⟨t2,r2,rfl⟩:=qaX a2
   by_cases hb2:t2.bad=0
   case neg=>
    have hnx2:nx (t2::r2)=none:=if_neg hb2
    rw[hnx2] at hx
    simp only[qcn,if_neg hb2,Wb] at hx
    subst hx
    obtain⟨fr,f1,f2⟩:=qpo (q:=fun k=>qfD (hh k)) h hb hne z (qmv a1 hb2)
    exact⟨i1,fr,_,f1,f2⟩
   have hnx2:nx (t2::r2)=some t2.s:=if_pos hb2
   rw[hnx2] at hx
   simp only at hx
   cases hk:qbZ t2.s with
   |none=>
    rw[hk] at hx
    simp only[qcn,if_pos hb2,Wb] at hx
    subst hx
    obtain⟨fr,f1,f2⟩:=qpo (q:=fun k=>qfD (hh k)) h hb hne z (qoC a1 hb2 hk)
    exact⟨i1,fr,_,f1,f2⟩
   |some k=>
    rw[hk] at hx
    simp only at hx
    by_cases hd:(hh k).isSome=true
    ·rw[if_pos hd] at hx
     simp only[qcn,if_pos hb2,Wb] at hx
     subst hx
     obtain⟨b,hbb⟩:=Option.isSome_iff_exists.1 hd
     obtain⟨fr,f1,f2⟩:=qwT (s:=s) (q:=fun k=>qfD (hh k)) h hb hne z a1 hb2 hk (decide_eq_false (by simp only[hbb,qfD]; decide))
     exact⟨i1,fr,_,f1,f2⟩
    ·rw[if_neg hd] at hx
     have hno:hh k=none:=by simpa using hd
     have hq0:decide ((qfD (hh k)).k=0)=true:=decide_eq_true (by rw[hno]; rfl)
     obtain⟨n1,n2⟩:=hw.next a1 hb2 (fun e=>by rw[e,show qbZ ⟨#[]⟩=none by decide] at hk; cases hk)
     obtain⟨t3,r3,rfl⟩:=qaX n2
     simp only[Ym] at hx
     cases hq3:qbu 12 2 true true false n 1 (t3::r3) with
     |none=>rw[hq3] at hx; cases hx
     |some y=>
      rw[hq3] at hx
      have hbk:=(qsz (s:=s) hw hT hP n).2.1 1 (i1+1) t3 r3 y n1 hq3
      cases y with
      |er a c=>
       simp only[Wb] at hx
       subst hx
       obtain⟨i2,z2⟩:=hbk
       obtain⟨fr,f1,f2⟩:=qwU (q:=fun k=>qfD (hh k)) (by omega) h hb hne z a1 hb2 hk hq0 z2
       exact⟨i2,fr,_,f1,f2⟩
      |ok b r4=>
       simp only at hx
       obtain⟨i2,b1,b2,z2⟩:=hbk
       obtain⟨t4,r5,rfl⟩:=qaX b2
       have zs:=qzf (q:=fun k=>qfD (hh k)) (by omega) h hb hne z a1 hb2 hk hq0 (by simp) (by simp) z2
       have hu:qyl (fun k=>qfD (hh k)) k ⟨7,0,⟨#[]⟩,kd false b.fo.len b.fo.cells,by simp,by simp⟩=fun j=>qfD (if j=k then some b else hh j):=by
        funext j
        unfold qyl
        split<;>rfl
       rw[hu] at zs
       have:=qlg hw hT hP n (fun j=>if j=k then some b else hh j) i2 t4 r5 x b1 hx
       cases x with
       |ok h' q=>
        obtain⟨i3,e1⟩:=this
        exact⟨i3,zs.trans e1⟩
       |er a c=>
        obtain⟨i3,fr,q',e1,e2⟩:=this
        exact⟨i3,fr,q',e1,zs.trans e2⟩
end
end
section
open F
attribute [local simp] qbd qbY dkey
section
variable{s:ByteArray}{T:List Tk}{i':Nat}{q:Nat->N4}{a c:Int}
theorem qn6(z:Z tP (.loop 3 F242l0 pgF (pgS s T 0 0 12 fun k=>qfD none))=some (.out (.exit 0) (pgF++[(8,.bool false)]) (pgS s T i' 0 12 q))):Z tP (.call 242 [.ptr 0 0] (PS s T 0 0 12))=some (.ret (qr0 q) (PS s T i' 0 12)):=by
 have k0:=(q 0).one
 have k1:=(q 1).one
 have k2:=(q 2).one
 have c0:=(q 0).cl
 have c1:=(q 1).cl
 have c2:=(q 2).cl
 simp only[pgS,PS,pO,rob,qfD,Wh,Wf] at z
 refine qaa (pf:=F242) rfl rfl ?_
 simp[F242,z,k0,k1,k2,c0,c1,c2,Wa]
theorem ql9{fr:Fr}(hf:fr.get 1000000=none)(z:Z tP (.loop 3 F242l0 pgF (pgS s T 0 0 12 fun k=>qfD none))=some (.out (.pan (.iface 1 (.int c))) fr (pgS s T i' a c q))):Z tP (.call 242 [.ptr 0 0] (PS s T 0 0 12))=some (.ret (qbm c) (PS s T i' a c)):=by
 simp only[pgS,PS,pO,rob,qfD,Wh,Wf] at z
 refine qaa (pf:=F242) rfl rfl ?_
 simp[F242,z,hf,Wa]
end
end
section
open F
attribute [local simp] qbd qbY dkey
section
variable{s:ByteArray}{T:List Tk}{i':Nat}{q:Nat->N4}{a c:Int}
theorem qqb(h:(2000:Int)<s.size):Z tP (.call 228 [.str s] [])=some (.ret (.tup [qr0 fun _=>qfD none,.int 2000,.int 2]) []):=by
 refine qaa (pf:=F228) rfl rfl ?_
 simp[F228,h,V.len,qfD,Wa]
abbrev dS(s:ByteArray)(T:List Tk)(q:Nat->N4)(x y:Int)(i a c:Int):S:=[.cells [.ptr 4 0],rob q,.cells [.int x],.cells [.int y],pO s 5 (.gsl (ptC T) T.length 5 6) i a c,.map kwM,.tip (ptC T).length]
theorem qqc{x y i a c:Int}:Z tP (.dcall 240 [.dat (.lit .nilIface),.ptr 0 0,.ptr 1 0,.ptr 2 0,.ptr 3 0] (dS s T q x y i a c))=some (.ret (.dat (.lit undef)) (dS s T q x y i a c)):=by
 have k0:=(q 0).one
 have k1:=(q 1).one
 have k2:=(q 2).one
 have c0:=(q 0).cl
 have c1:=(q 1).cl
 have c2:=(q 2).cl
 refine qjO (pf:=F240) rfl ?_
 have hfl:F240.body.flat=true:=rfl
 simp only[qaR]
 rw[if_pos ⟨rfl,rfl,rfl,hfl,.inl rfl⟩]
 simp[F240,qfR,k0,k1,k2,c0,c1,c2,Wa]
theorem qr6 (h : ¬ (2000:Int)<s.size) (zt:Z tP (.call 249 [.yld 0,.ptr 1 0] (TT0 s))=some (.ret (.tup []) (TT1 s (ptC T) T.length)))
  (z:Z tP (.call 242 [.ptr 0 0] (PS s T 0 0 12))=some (.ret (qr0 q) (PS s T i' 0 12))):Z tP (.call 228 [.str s] [])=some (.ret (.tup [qr0 q,.int 0,.int 0]) []):=by
 have z1:=qi2 s
 have z2:=qld s
 have k0:=(q 0).one
 have k1:=(q 1).one
 have k2:=(q 2).one
 have c0:=(q 0).cl
 have c1:=(q 1).cl
 have c2:=(q 2).cl
 simp only[pO] at z2
 simp only[TT0,TT1,pO] at zt
 simp only[PS,pO] at z
 have zd:=qqc (s:=s) (T:=T) (q:=q) (x:=0) (y:=0) (i:=i') (a:=0) (c:=12)
 simp only[dS,pO,rob] at zd
 refine qaa (pf:=F228) rfl rfl ?_
 simp[F228,z1,z2,zt,z,zd,h,V.len,k0,k1,k2,c0,c1,c2,Wa]
end
end
section
open F
attribute [local simp] qbd qbY dkey
section
variable{s:ByteArray}{T:List Tk}{i':Nat}{a c:Int}
abbrev q0:Nat->N4:=fun _=>qfD none
theorem qo1{i a c:Int}:Z tP (.dcall 240 [.iface 1 (.int c),.ptr 0 0,.ptr 1 0,.ptr 2 0,.ptr 3 0] (dS s T q0 0 0 i a c))=some (.ret (.dat (.lit undef)) (dS s T q0 a c i a c)):=by
 refine qjO (pf:=F240) rfl ?_
 have hfl:F240.body.flat=true:=rfl
 simp only[qaR]
 rw[if_pos ⟨rfl,rfl,rfl,hfl,.inl rfl⟩]
 simp[F240,qfR,qfD,qbH,qaz,Wa]
theorem qo2 (h : ¬ (2000:Int)<s.size) (zt:Z tP (.call 249 [.yld 0,.ptr 1 0] (TT0 s))=some (.ret (.tup []) (TT1 s (ptC T) T.length)))
  (z:Z tP (.call 242 [.ptr 0 0] (PS s T 0 0 12))=some (.ret (qbm c) (PS s T i' a c))):Z tP (.call 228 [.str s] [])=some (.ret (.tup [qr0 fun _=>qfD none,.int a,.int c]) []):=by
 have z1:=qi2 s
 have z2:=qld s
 simp only[pO] at z2
 simp only[TT0,TT1,pO] at zt
 simp only[PS,pO] at z
 have zd:=qo1 (s:=s) (T:=T) (i:=i') (a:=a) (c:=c)
 simp only[dS,pO,rob,q0,qfD] at zd
 refine qaa (pf:=F228) rfl rfl ?_
 simp[F228,z1,z2,zt,z,zd,h,V.len,qfD,qag,V.isNilIf,Wa]
end
end
section
open F
theorem qlf(s:ByteArray) : ∀ n i,(qcf 12 2 6 s n i).length<=n+1
 |0,i=>by simp[qcf]
 |n+1,i=>by
  rw[qcf]
  have:=qlf s n
  split
  ·simp
  ·simp only[We]; have:=this ((tokAt 12 2 6 s (qh6 s (s.size-i) false i)).at_+(tokAt 12 2 6 s (qh6 s (s.size-i) false i)).s.size); omega
theorem qrp(s:ByteArray) : ∀ n i,qcf 12 2 6 s n i≠[]
 |0,i=>by simp[qcf]
 |n+1,i=>by rw[qcf]; split<;>simp
theorem qpm(s:ByteArray)(hP : ∀ t∈qkE s,TokP t):Z tP (.call 228 [.str s] [])=some (.ret (qnv true true false s) []):=by
 unfold qnv
 by_cases hbig:2000<s.size
 ·have:qhs true true false s = .er 2000 2:=by rw[qhs,if_pos hbig]
  rw[this]
  exact qqb (by omega)
 ·have hlen:=qlf s (s.size+1) 0
  have hT:(qkE s).length<2 ^ 30:=by show (qcf 12 2 6 s (s.size+1) 0).length<_; omega
  have hw:WfQ (qkE s):=qqd s _ 0
  have zt:=qql s (by omega)
  obtain⟨t,r,htr⟩:=qaX (show qkE s≠[] from qrp s _ 0)
  have hv:=qiC (f:=true) (fi:=true) (fb:=false) hbig
  have hp:=hv
  rw[htr] at hp
  have:=qlg (s:=s) hw hT hP _ (fun _=>none) 0 t r _ (by rw[WO]; exact htr) hp
  cases hx:qhs true true false s with
  |ok h' ts=>
   rw[hx] at this
   obtain⟨i',z⟩:=this
   exact qr6 (by omega) zt (qn6 z)
  |er a c=>
   rw[hx] at this
   obtain⟨i',fr,q',f1,z⟩:=this
   exact qo2 (by omega) zt (ql9 f1 z)
theorem qpn(s:ByteArray)(hl:s.size<2 ^ 30) : ∀ n i,∀ t∈qcf 12 2 6 s n i,TokP t
 |0,i,t,h=>by
  simp only[qcf,Wg] at h
  rw[h]
  exact⟨fun _=>show (⟨#[]⟩:ByteArray)≠qS by decide,fun _ h=>(by cases h)⟩
 |n+1,i,t,h=>by
  have one : ∀ j,TokP (tokAt 12 2 6 s j):=fun j=>by
   by_cases hj:j<s.size
   ·exact qvh hl hj
   ·have hd:(byl s).drop j=[]:=WX (by rw[qaA]; omega)
    rw[qdV,hd]
    exact⟨fun _=>show (⟨#[]⟩:ByteArray)≠qS by decide,fun _ h=>(by cases h)⟩
  rw[qcf] at h
  split at h
  ·rw[Wg.1 h]; exact one _
  ·rcases Wq.1 h with h|h
   ·rw[h]; exact one _
   ·exact qpn s hl n _ t h
theorem qrq(s:ByteArray)(hl:s.size<2 ^ 30):Z tP (.call 228 [.str s] [])=some (.ret (qnv true true false s) []):=qpm s (qpn s hl _ 0)
end
section
open F
abbrev Sub(p q:Nat->Option PFun):Prop := ∀ f pf,p f=some pf->q f=some pf
structure Has(prog:Nat->Option PFun):Prop where
 b:Sub qad prog
 r:Sub tR prog
 s:Sub tS prog
 p:Sub tP prog
 q:Sub tQ prog
 e:Sub tE prog
 k:Sub tK prog
def hdO:Option Ss->Hd
 |none => .none
 |some b => .some false b
theorem qtv(o:Option Ss):(qfD o).k=(hdO o).nd.k/\(qfD o).n=(hdO o).nd.n/\(qfD o).s=(hdO o).nd.s/\(qfD o).d=(hdO o).nd.d:=by cases o<;>exact⟨rfl,rfl,rfl,rfl⟩
theorem qtw(h:Nat->Option Ss):qr0 (fun k=>qfD (h k)) = .dat (ru (hdO (h 0)).nd (hdO (h 1)).nd (hdO (h 2)).nd):=by
 obtain⟨a1,a2,a3,a4⟩:=qtv (h 0)
 obtain⟨b1,b2,b3,b4⟩:=qtv (h 1)
 obtain⟨c1,c2,c3,c4⟩:=qtv (h 2)
 simp only[qr0,ru,a1,a2,a3,a4,b1,b2,b3,b4,c1,c2,c3,c4]
end
section
open F Gr
set_option maxHeartbeats 4000000
theorem qqe{c:Cd}{e:Nat}(D:Nat->Int) : ∀ k:Nat,∃ m:Int,0<=m/\(∀ i,i<k->Gr.Reach c e i->aft c i (D i)<=m)/\(m=0 \/ ∃ i,Gr.Reach c e i/\m=aft c i (D i))
 |0=>⟨0,by omega,fun i h=>by omega,.inl rfl⟩
 |k+1=>by
  obtain⟨m,h0,h1,h2⟩:=qqe D k
  by_cases hr:Gr.Reach c e k/\m<aft c k (D k)
  ·refine⟨aft c k (D k),by omega,fun i hi h=>?_,.inr ⟨k,hr.1,rfl⟩⟩
   by_cases hik:i=k
   ·subst hik; omega
   ·have:=h1 i (by omega) h
    omega
  ·refine⟨m,h0,fun i hi h=>?_,h2⟩
   by_cases hik:i=k
   ·subst hik
    exact Int.not_lt.1 fun h'=>hr ⟨h,h'⟩
   ·exact h1 i (by omega) h
theorem qqf{c:Cd}{e:Int}(he:0<=e->e.toNat<c.length) : ∃ m,DepIs c e m:=by
 by_cases h0:e<0
 ·exact⟨0,fun _=>rfl,fun h=>by omega⟩
 ·by_cases hD : ∃ D,CF c e.toNat D
  ·obtain⟨D,hD⟩:=hD
   obtain⟨m,a,b,d⟩:=qqe (c:=c) (e:=e.toNat) D c.length
   exact⟨m,fun h=>absurd h h0,fun _ D' hD'=>Most.of_eq hD hD' ⟨a,fun i hi=>b i (hi.lt (he (by omega))) hi,d⟩⟩
  ·exact⟨0,fun h=>absurd h h0,fun _ D' hD'=>absurd ⟨D',hD'⟩ hD⟩
theorem qhS(vs:List ByteArray)(f:Bool) : ∀ e:E,qc9 vs (e.fl f)=qc9 vs e
 |.int n | .bool n | .var s | .name s=>rfl
 |.field _ s e | .un _ n e=>by simp only[E.fl,qc9,qhS vs f e]
 |.bin _ o a b=>by simp only[E.fl,qc9,qhS vs f a,qhS vs f b]
theorem qr7(f:Bool)(e:E):(e.fl f).ty=e.ty:=by induction e<;>simp_all [E.fl,E.ty]
theorem qgE(f:Bool) : ∀ e:E,e.fine->(e.fl f).fine
 |.int n,h | .bool n,h | .var s,h | .name s,h=>h
 |.field _ s e,h=>by simp only[E.fl,E.fine] at h ⊢; simp_all [qgE f e,qr7]
 |.un _ n e,h=>by simp only[E.fl,E.fine] at h ⊢; simp_all [qgE f e,qr7]
 |.bin _ o a b,h=>by simp only[E.fl,E.fine] at h ⊢; simp_all [qgE f a,qgE f b,qr7]
theorem qnx(vs:List ByteArray)(f fi fb:Bool)(b:Ss)(h:b.fine):codeS vs (b.fl f fi fb)=codeS vs b/\(b.fl f fi fb).fine:=by
 fun_induction Ss.fine b with
 |case1=>exact⟨rfl,trivial⟩
 |case8=>exact absurd h id
 |_=>simp_all [Ss.fl,codeS,Ss.fine,qhS,qgE,qr7]
def Hd.rf(h:Hd):Hd:=hdO (h.opt.map (·.fl true true false))
theorem qms{h:Hd}(hf:h.fine):h.rf.fine:=by
 cases h with
 |none=>exact hf
 | some f b=>exact⟨(qnx [] true true false b hf.fine).2,by
   have e:(b.fl true true false).fo.size=b.fo.size:=qkA (qc1 true true false b)
   have:=hf.size
   show (b.fl true true false).fo.size<=2000
   rw[e]
   exact this⟩
theorem qqg : ∀ {a b:Fo},a.eqv b=true->a.vars=b.vars
 |.nil,.nil,_=>rfl
 |.cons ..,.cons ..,h=>by
  simp only[Fo.eqv,Wu,decide_eq_true_eq] at h
  simp only[Fo.vars,qqg h.2.1,qqg h.2.2,h.1.1,h.1.2.2]
 |.nil,.cons ..,h=>by cases h
 |.cons ..,.nil,h=>by cases h
theorem qmt(h:Hd):h.rf.nd.vars=h.nd.vars:=by
 cases h with
 |none=>rfl
 |some f b=>
  have:=qqg (qc1 true true false b)
  simp only[Hd.rf,Hd.opt,Yc,hdO,Nd.vars,qyL,qyM,qqq,Hd.k,Hd.ks,this]
  rfl
theorem qqh(vs:List ByteArray){h:Hd}(hf:h.fine):hdC vs h.rf=hdC vs h:=by
 cases h with
 |none=>rfl
 |some f b=>show snC (codeS vs (b.fl true true false)) (21,0)=_; rw[(qnx vs true true false b hf.fine).1]; rfl
theorem qvp(h:Hd)(p:Int):qkD h.rf p=qkD h p:=by cases h<;>rfl
theorem qxQ{a b c:Hd}(fa:a.fine)(fb:b.fine)(fc:c.fine):rvars a.rf.nd b.rf.nd c.rf.nd=rvars a.nd b.nd c.nd /\ ∀ vs,qdZ vs a.rf b.rf c.rf=qdZ vs a b c/\qhM a.rf=qhM a/\qhA vs a.rf b.rf=qhA vs a b/\qhN vs a.rf b.rf c.rf=qhN vs a b c:=by
 refine⟨by rw[rvars,rvars,qmt,qmt,qmt],fun vs=>?_⟩
 simp only[qdZ,qhM,qhA,qhN,qqh vs fa,qqh vs fb,qqh vs fc,qvp,and_self]
theorem qmu{a b c:Hd}(fa:a.fine)(fb:b.fine)(fc:c.fine) : ∃ (C:Cd) (e0 e1 e2 m0 m1 m2:Int),C.length<=30000/\Z qad (.call 131 [.dat (ru a.nd b.nd c.nd)] [])=some (.ret (qoE C e0 e1 e2 m0 m1 m2) [])/\Z qad (.call 131 [.dat (ru a.rf.nd b.rf.nd c.rf.nd)] [])=some (.ret (qoE C e0 e1 e2 m0 m1 m2) []):=by
 have l4:=qjh fa.fine fb.fine fc.fine
 obtain⟨ia,ib,ic⟩:=qmV (a:=a) (b:=b) (c:=c)
 obtain⟨n,D,g,p0,p1,p2⟩:=qlo (vs:=rvars a.nd b.nd c.nd) (by omega) fa.fine fb.fine fc.fine ia ib ic
 have hn:(qdZ (rvars a.nd b.nd c.nd) a b c).length=n:=g.ln 0
 obtain⟨m0,d0⟩:=qqf (c:=qdZ (rvars a.nd b.nd c.nd) a b c) (e:=qhM a) (by rcases p0 with p|⟨x,y,z⟩<;>omega)
 obtain⟨m1,d1⟩:=qqf (c:=qdZ (rvars a.nd b.nd c.nd) a b c) (e:=qhA (rvars a.nd b.nd c.nd) a b) (by rcases p1 with p|⟨x,y,z⟩<;>omega)
 obtain⟨m2,d2⟩:=qqf (c:=qdZ (rvars a.nd b.nd c.nd) a b c) (e:=qhN (rvars a.nd b.nd c.nd) a b c) (by rcases p2 with p|⟨x,y,z⟩<;>omega)
 have zc:=qln fa fb fc d0 d1 d2
 obtain⟨er,hr⟩:=qxQ fa fb fc
 obtain⟨h1,h2,h3,h4⟩:=hr (rvars a.nd b.nd c.nd)
 have zr:=qln (qms fa) (qms fb) (qms fc) (m0:=m0) (m1:=m1) (m2:=m2) (by rw[er,h1,h2]; exact d0) (by rw[er,h1,h3]; exact d1) (by rw[er,h1,h4]; exact d2)
 rw[er,h1,h2,h3,h4] at zr
 exact⟨_,_,_,_,_,_,_,qlK fa fb fc,zc,zr⟩
end
section
open F Gr
set_option maxHeartbeats 4000000
theorem qlI(c:Cd)(hn:c≠[])(hl:c.length<2 ^ 30)(e0 e1 e2:Int) : ∀ m i,i+m=c.length -> ∃ ex,Z qad (.loop 0 F133l0 [(2,.ptr 0 0),(3,.ptr 1 0),(5,.int i)] [.cells [.dat (codeD c),.int e0,.int e1,.int e2],.cells [.dat (codeD c),.int e0,.int e1,.int e2]])=some (.out (.exit 0) ([(2,.ptr 0 0),(3,.ptr 1 0),(5,.int c.length)]++ex) [.cells [.dat (codeD c),.int e0,.int e1,.int e2],.cells [.dat (codeD c),.int e0,.int e1,.int e2]])
 |0,i,h=>by
  obtain rfl:i=c.length:=by omega
  have hd:=(qeF c).len
  refine⟨[(24,.bool false)],?_⟩
  rw[qab]
  simp[qac,qgT,hd,Wa]
 |m+1,i,h=>by
  obtain⟨ex,z⟩:=qlI c hn hl e0 e1 e2 m (i+1) (by omega)
  refine⟨ex,?_⟩
  rw[<- z]
  have w1:=qah ((i:Int)+1) (by omega)
  have hi:(i:Int)<c.length:=by omega
  have hd:=qnI hn
  have ha:=(qeF c).at_ i (by omega) hi
  rw[hd] at ha
  have hc:=qne c i (by omega)
  have e2:(i:Int).toNat*2=i*2:=by omega
  rw[e2] at ha
  conv=>lhs; rw[qab]
  simp[qac,qgT,hd,hi,ha,hc,w1,V.len,Wa]
end
end Go.Pm
section
namespace Go.Pm.F
variable(C:Task->Option Res)(q:Nat)(fr:Fr)(σ : S)
def F312:PFun:=⟨1,[.tmp 2],.seq (rn [mx 2 kF] [0]) (.seq (rn [mv 11 0,cl 12 123 [11],jj 3 (.alloc [zN,zN,eN,sN,zN,zN,eN,sN,zN,zN,eN,sN]),st 12 3 12] [3]) (.seq (rn [la 14 12 3,cl 15 131 [14],mv 13 15,ex 16 13 0,ex 17 13 1,jj 4 (.alloc [sN,zN,zN,zN]),st 4 4 16,mv 5 17] [3,4,5]) (.seq (rn [la 19 12 3,cl 20 231 [19],cl 21 228 [20],mv 18 21,ex 22 18 0,ex 23 18 1,ex 24 18 2,jj 6 (.alloc [zN,zN,eN,sN,zN,zN,eN,sN,zN,zN,eN,sN]),st 12 6 22,mv 7 23,mv 8 24] [4,5,6,8]) (.seq (.seq (rn [mv 25 8,bk 26 .neq 25 0] [4,5,6,26]) (.cond (.t 26) (.seq (rn [mx 2 kF] [2]) (.ret)) (.skip))) (.seq (rn [la 28 12 6,cl 29 131 [28],mv 27 29,ex 30 27 0,ex 31 27 1,jj 9 (.alloc [sN,zN,zN,zN]),st 4 9 30,mv 10 31] [4,5,9,10]) (.seq (rn [mv 32 5,mv 33 10,bn 34 .eql 32 33,mv 35 34,jt 36 35 (.load true 4 (.t 4)),jt 37 35 (.load true 4 (.t 9)),jt 38 35 (.call 133 [(.t 36),(.t 37)]),jj 39 (.pick (.t 35) (.t 38) kF),mv 40 39,jt 41 40 (.call 127 []),jj 42 (.pick (.t 40) (.t 41) kF),mv 2 42] [2]) (.ret))))))),false,false,false⟩
end Go.Pm.F
end
namespace Go.Pm
section
open F Gr
set_option maxHeartbeats 8000000
theorem qj7(c:Cd)(hl:c.length<2 ^ 30)(e0 e1 e2:Int):Z qad (.call 133 [pgD (codeD c) e0 e1 e2,pgD (codeD c) e0 e1 e2] [])=some (.ret (.bool true) []):=by
 by_cases hn:c=[]
 ·subst hn
  have z0:Z qad (.loop 0 F133l0 [(2,.ptr 0 0),(3,.ptr 1 0),(5,.int 0)] [.cells [.dat (.lit (.slice none 0 0)),.int e0,.int e1,.int e2],.cells [.dat (.lit (.slice none 0 0)),.int e0,.int e1,.int e2]])=some (.out (.exit 0) [(2,.ptr 0 0),(3,.ptr 1 0),(5,.int 0),(24,.bool false)] [.cells [.dat (.lit (.slice none 0 0)),.int e0,.int e1,.int e2],.cells [.dat (.lit (.slice none 0 0)),.int e0,.int e1,.int e2]]):=by
   rw[qab]
   simp[qac,qgT,V.len,Wa]
  refine qaa (pf:=F133) rfl rfl ?_
  simp[F133,codeD,pgD,V.len,z0,qbH,qaz,Wa]
 ·obtain⟨ex,z⟩:=qlI c hn hl e0 e1 e2 c.length 0 (by omega)
  have hd:=(qeF c).len
  have ho:=(qeF c).one
  have hc:=(qeF c).cells
  rw[show ((0:Nat):Int)=0 from rfl] at z
  refine qaa (pf:=F133) rfl rfl ?_
  generalize codeD c=D at *
  simp[F133,pgD,hd,ho,hc,z,qbH,qaz,Wa]
theorem qpe{C:Cd}(hl:C.length<=30000)(e0 e1 e2 m0 m1 m2:Int) : ∃ (d:D) (x0 x1 x2 e:Int),V.one (.dat d)=true/\V.cells (.dat d)=[.dat d]/\qoE C e0 e1 e2 m0 m1 m2 = .tup [pgD d x0 x1 x2,.int e]/\Z qad (.call 133 [pgD d x0 x1 x2,pgD d x0 x1 x2] [])=some (.ret (.bool true) []):=by
 unfold qoE
 split
 ·exact⟨_,_,_,_,_,rfl,rfl,rfl,qj7 [] (by simp) 0 0 0⟩
 ·split
  ·exact⟨_,_,_,_,_,rfl,rfl,rfl,qj7 [] (by simp) 0 0 0⟩
  ·exact⟨_,_,_,_,_,(qeF C).one,(qeF C).cells,rfl,qj7 C (by omega) e0 e1 e2⟩
theorem qhz {prog:Nat->Option PFun} (sb:Sub qad prog) (sp:Sub tP prog) (sq:Sub tQ prog) (hF:prog 312=some F312) (zl:Z prog (.call 127 [] [])=some (.ret (.bool true) []))
  {v:D} {xs:List Int} (hv:RowV v xs) (hx : ∀ x∈xs,I64 x):Z prog (.call 312 [.dat v] [])=some (.ret (.bool true) []):=by
 obtain⟨a,b,c,ga,gb,⟨gc,hco⟩,zt⟩:=qov hv hx
 have zt:=qlU sb zt
 have hg:=qp6 ga gb gc
 have hl:=qrY a b c
 have zp:=qlU sq (qu1 hg (by omega))
 obtain⟨r1,p1⟩:=qmz (f:=true) (fi:=true) (fb:=false) hg (by omega)
 have z1:=qlU sp (qrq (bs (qfI false (qco (Hd.opts a b c)))) (by rw[qbq]; omega))
 rw[qnv,p1] at z1
 simp only[qtw] at z1
 obtain⟨A,f1⟩ : ∃ A,A=a.rf.nd:=⟨_,rfl⟩
 obtain⟨B,f2⟩ : ∃ B,B=b.rf.nd:=⟨_,rfl⟩
 obtain⟨C,f3⟩ : ∃ C,C=c.rf.nd:=⟨_,rfl⟩
 have z1:Z prog (.call 228 [.str (bs (qfI false (qco (Hd.opts a b c))))] [])=some (.ret (.tup [.dat (ru A B C),.int 0,.int 0]) []):=by
  rw[f1,f2,f3]
  exact z1
 obtain⟨K,e0,e1,e2,m0,m1,m2,hK,zc,zr⟩:=qmu ga.tofine gb.tofine gc.tofine
 obtain⟨d,x0,x1,x2,e,o,cl,hcv,zs⟩:=qpe hK e0 e1 e2 m0 m1 m2
 rw[hcv] at zc zr
 have zc:=qlU sb zc
 have zr:=qlU sb zr
 have zs:=qlU sb zs
 have k0:=hv.one
 have k1:=hv.cells
 rw[<- f1,<- f2,<- f3] at zr
 clear f1 f2 f3 p1 hl hco hg ga gb gc hcv hK
 generalize bs (qfI false (qco (Hd.opts a b c)))=P at *
 generalize a.nd=A' at *
 generalize b.nd=B' at *
 generalize c.nd=C' at *
 simp only[ru,pgD] at zt zp z1 zc zr zs
 refine qaa hF rfl ?_
 simp -implicitDefEqProofs [F312,k0,k1,zt,zp,z1,zc,zr,zs,zl,o,cl,V.len,Wa]
end
end Go.Pm
section
namespace Go.Pm.F
def prog13z:Nat->Option PFun
 |15=>some F15
 |17=>some F17
 |23=>some F23
 |32=>some F32
 |38=>some F38
 |39=>some F39
 |123=>some F123
 |125=>some F125
 |127=>some F127
 |128=>some F128
 |131=>some F131
 |132=>some F132
 |133=>some F133
 |134=>some F134
 |136=>some F136
 |137=>some F137
 |138=>some F138
 |139=>some F139
 |140=>some F140
 |147=>some F147
 |148=>some F148
 |149=>some F149
 |150=>some F150
 |151=>some F151
 |152=>some F152
 |153=>some F153
 |154=>some F154
 |155=>some F155
 |162=>some F162
 |163=>some F163
 |164=>some F164
 |165=>some F165
 |166=>some F166
 |167=>some F167
 |168=>some F168
 |169=>some F169
 |170=>some F170
 |171=>some F171
 |172=>some F172
 |173=>some F173
 |176=>some F176
 |177=>some F177
 |178=>some F178
 |179=>some F179
 |180=>some F180
 |181=>some F181
 |182=>some F182
 |183=>some F183
 |184=>some F184
 |185=>some F185
 |186=>some F186
 |187=>some F187
 |188=>some F188
 |189=>some F189
 |190=>some F190
 |191=>some F191
 |192=>some F192
 |193=>some F193
 |194=>some F194
 |195=>some F195
 |196=>some F196
 |197=>some F197
 |198=>some F198
 |199=>some F199
 |200=>some F200
 |201=>some F201
 |202=>some F202
 |203=>some F203
 |204=>some F204
 |228=>some F228
 |231=>some F231
 |239=>some F239
 |240=>some F240
 |241=>some F241
 |242=>some F242
 |243=>some F243
 |244=>some F244
 |245=>some F245
 |249=>some F249
 |250=>some F250
 |251=>some F251
 |252=>some F252
 |253=>some F253
 |254=>some F254
 |255=>some F255
 |256=>some F256
 |257=>some F257
 |258=>some F258
 |259=>some F259
 |260=>some F260
 |264=>some F264
 |265=>some F265
 |266=>some F266
 |267=>some F267
 |268=>some F268
 |269=>some F269
 |270=>some F270
 |271=>some F271
 |272=>some F272
 |273=>some F273
 |274=>some F274
 |275=>some F275
 |276=>some F276
 |277=>some F277
 |278=>some F278
 |279=>some F279
 |280=>some F280
 |281=>some F281
 |282=>some F282
 |283=>some F283
 |284=>some F284
 |285=>some F285
 |286=>some F286
 |287=>some F287
 |288=>some F288
 |289=>some F289
 |290=>some F290
 |291=>some F291
 |292=>some F292
 |293=>some F293
 |294=>some F294
 |295=>some F295
 |297=>some F297
 |298=>some F298
 |299=>some F299
 |300=>some F300
 |303=>some F303
 |304=>some F304
 |307=>some F307
 |308=>some F308
 |309=>some F309
 |312=>some F312
 |_=>none
theorem qiQ : ∀ f pf,tP f=some pf->prog13z f=some pf:=fun f pf h=>by
 unfold tP at h
 split at h<;>first | (cases h; rfl) | cases h
theorem qiR : ∀ f pf,tQ f=some pf->prog13z f=some pf:=fun f pf h=>by
 unfold tQ at h
 split at h<;>first | (cases h; rfl) | cases h
theorem qgx : ∀ f pf,qad f=some pf->prog13z f=some pf:=fun f pf h=>by
 unfold qad at h
 split at h<;>first | (cases h; rfl) | cases h
end Go.Pm.F
end
namespace Go.Pm
section
open F
theorem qon:Z prog13z (.call 127 [] [])=some (.ret (.bool true) []):=qoI (n:=3000) (by kernel_rfl)
theorem printedC_Z{v:D}{xs:List Int}(hv:RowV v xs)(hx : ∀ x∈xs,I64 x):Z prog13z (.call 312 [.dat v] [])=some (.ret (.bool true) []):=
 qhz qgx qiQ qiR rfl qon hv hx
end
end Go.Pm
