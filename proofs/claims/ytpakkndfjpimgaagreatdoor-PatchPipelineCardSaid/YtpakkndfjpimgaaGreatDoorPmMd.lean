/- Chapter 13's parser: whole programs are the plain ones. -/
import Derived.Test.YtpakkndfjpimgaaGreatDoorPmAL
import Derived.Test.YtpakkndfjpimgaaGreatDoorPmKj
import Derived.Test.YtpakkndfjpimgaaGreatDoorPmUf
import Derived.Test.YtpakkndfjpimgaaGreatDoorPmDh
import Derived.Test.YtpakkndfjpimgaaGreatDoorPmYh
import Derived.Test.YtpakkndfjpimgaaGreatDoorPmR
import Derived.Test.YtpakkndfjpimgaaGreatDoorPmF4
import Derived.KernelRfl
import Derived.Test.YtpakkndfjpimgaaGreatDoorPmN5
set_option linter.unusedSimpArgs false
set_option linter.unusedVariables false
set_option maxHeartbeats 4000000
namespace Go.Pm
section
open F
theorem qA2{w:ByteArray}(h:w.size=0):w=⟨#[]⟩:=by
 have hb:byl w=[]:=WL (by rw[qaU]; exact h)
 have:=qdg w
 rw[hb] at this
 exact this.symm
section
variable{s:ByteArray}{T:List Tk}
theorem qlF (hw:WfQ T) (hT:T.length<2 ^ 30) (hP : ∀ t∈T,TokP t) : ∀ (n:Nat) (hh:Nat->Option Ss) (i:Nat) (t:Tk) (r:List Tk) (x:Rz (Nat->Option Ss)),T.drop i=t::r->qdX 12 2 4 true true false n hh (t::r)=some x->match x with
  |.ok h' _ => ∃ i':Nat,Z tP (.loop 3 F242l0 pgF (pgS s T i 0 12 fun k=>qfO (hh k)))=some (.out (.exit 0) (pgF++[(8,.bool false)]) (pgS s T i' 0 12 fun k=>qfO (h' k)))
  |.er a c => ∃ (i':Nat) (fr:Fr) (q':Nat->N4),fr.get 1000000=none/\Z tP (.loop 3 F242l0 pgF (pgS s T i 0 12 fun k=>qfO (hh k)))=some (.out (.pan (.iface 1 (.int c))) fr (pgS s T i' a c q'))
 |0,hh,i,t,r,x,_,hx=>by simp[qdX] at hx
 |n+1,hh,i,t,r,x,h,hx=>by
  rw[qdX] at hx
  by_cases hb:t.bad=0
  case neg=>
   have hnx:nx (t::r)=none:=if_neg hb
   rw[hnx] at hx
   simp only[qct,if_neg hb,Wb] at hx
   subst hx
   obtain⟨fr,f1,f2⟩:=qyx (s:=s) (q:=fun k=>qfO (hh k)) h hb
   exact⟨i,fr,_,f1,f2⟩
  have hnx:nx (t::r)=some t.s:=if_pos hb
  rw[hnx] at hx
  simp only at hx
  by_cases h0:t.s.size=0
  ·rw[if_pos h0] at hx
   simp only[Wb] at hx
   subst hx
   exact⟨i,qyw h hb (qA2 h0)⟩
  rw[if_neg h0] at hx
  have hne:t.s≠⟨#[]⟩:=fun e=>h0 (by rw[e]; rfl)
  have ho:=qcB (s:=s) hw (by omega) h (x:=bs [111,110]) (by decide)
  cases hq:qaS 12 (bs [111,110]) (t::r) with
  |er a c=>
   rw[hq] at hx ho
   simp only[Wb] at hx
   subst hx
   obtain⟨i',z⟩:=ho
   obtain⟨fr,f1,f2⟩:=qA0 (q:=fun k=>qfO (hh k)) h hb hne z
   exact⟨i',fr,_,f1,f2⟩
  |ok u r1=>
   rw[hq] at hx ho
   simp only at hx
   obtain⟨i1,a1,a2,z⟩:=ho
   obtain⟨t2,r2,rfl⟩:=qa3 a2
   by_cases hb2:t2.bad=0
   case neg=>
    have hnx2:nx (t2::r2)=none:=if_neg hb2
    rw[hnx2] at hx
    simp only[qct,if_neg hb2,Wb] at hx
    subst hx
    obtain⟨fr,f1,f2⟩:=qqh (q:=fun k=>qfO (hh k)) h hb hne z (qm4 a1 hb2)
    exact⟨i1,fr,_,f1,f2⟩
   have hnx2:nx (t2::r2)=some t2.s:=if_pos hb2
   rw[hnx2] at hx
   simp only at hx
   cases hk:qb6 t2.s with
   |none=>
    rw[hk] at hx
    simp only[qct,if_pos hb2,Wb] at hx
    subst hx
    obtain⟨fr,f1,f2⟩:=qqh (q:=fun k=>qfO (hh k)) h hb hne z (qpp a1 hb2 hk)
    exact⟨i1,fr,_,f1,f2⟩
   |some k=>
    rw[hk] at hx
    simp only at hx
    by_cases hd:(hh k).isSome=true
    ·rw[if_pos hd] at hx
     simp only[qct,if_pos hb2,Wb] at hx
     subst hx
     obtain⟨b,hbb⟩:=Option.isSome_iff_exists.1 hd
     obtain⟨fr,f1,f2⟩:=qyy (s:=s) (q:=fun k=>qfO (hh k)) h hb hne z a1 hb2 hk (decide_eq_false (by simp only[hbb,qfO]; decide))
     exact⟨i1,fr,_,f1,f2⟩
    ·rw[if_neg hd] at hx
     have hno:hh k=none:=by simpa using hd
     have hq0:decide ((qfO (hh k)).k=0)=true:=decide_eq_true (by rw[hno]; rfl)
     obtain⟨n1,n2⟩:=hw.next a1 hb2 (fun e=>by rw[e,show qb6 ⟨#[]⟩=none by decide] at hk; cases hk)
     obtain⟨t3,r3,rfl⟩:=qa3 n2
     simp only[Yy] at hx
     cases hq3:qbz 12 2 true true false n 1 (t3::r3) with
     |none=>rw[hq3] at hx; cases hx
     |some y=>
      rw[hq3] at hx
      have hbk:=(qtY (s:=s) hw hT hP n).2.1 1 (i1+1) t3 r3 y n1 hq3
      cases y with
      |er a c=>
       simp only[Wb] at hx
       subst hx
       obtain⟨i2,z2⟩:=hbk
       obtain⟨fr,f1,f2⟩:=qyz (q:=fun k=>qfO (hh k)) (by omega) h hb hne z a1 hb2 hk hq0 z2
       exact⟨i2,fr,_,f1,f2⟩
      |ok b r4=>
       simp only at hx
       obtain⟨i2,b1,b2,z2⟩:=hbk
       obtain⟨t4,r5,rfl⟩:=qa3 b2
       have zs:=qA1 (q:=fun k=>qfO (hh k)) (by omega) h hb hne z a1 hb2 hk hq0 (by simp) (by simp) z2
       have hu:qzX (fun k=>qfO (hh k)) k ⟨7,0,⟨#[]⟩,kd false b.fo.len b.fo.cells,by simp,by simp⟩=fun j=>qfO (if j=k then some b else hh j):=by
        funext j
        unfold qzX
        split<;>rfl
       rw[hu] at zs
       have:=qlF hw hT hP n (fun j=>if j=k then some b else hh j) i2 t4 r5 x b1 hx
       cases x with
       |ok h' q=>
        obtain⟨i3,e1⟩:=this
        exact⟨i3,zs.trans e1⟩
       |er a c=>
        obtain⟨i3,fr,q',e1,e2⟩:=this
        exact⟨i3,fr,q',e1,zs.trans e2⟩
end
end
section
open F
attribute [local simp] qbj qb4 dkey
section
variable{s:ByteArray}{T:List Tk}{i':Nat}{q:Nat->N4}{a c:Int}
theorem qoP(z:Z tP (.loop 3 F242l0 pgF (pgS s T 0 0 12 fun k=>qfO none))=some (.out (.exit 0) (pgF++[(8,.bool false)]) (pgS s T i' 0 12 q))):Z tP (.call 242 [.ptr 0 0] (PS s T 0 0 12))=some (.ret (qtd q) (PS s T i' 0 12)):=by
 have k0:=(q 0).one
 have k1:=(q 1).one
 have k2:=(q 2).one
 have c0:=(q 0).cl
 have c1:=(q 1).cl
 have c2:=(q 2).cl
 simp only[pgS,PS,pO,rob,qfO,Wi,Wc] at z
 refine qab (pf:=F242) rfl rfl ?_
 simp[F242,z,k0,k1,k2,c0,c1,c2,Wa]
theorem qmG{fr:Fr}(hf:fr.get 1000000=none)(z:Z tP (.loop 3 F242l0 pgF (pgS s T 0 0 12 fun k=>qfO none))=some (.out (.pan (.iface 1 (.int c))) fr (pgS s T i' a c q))):Z tP (.call 242 [.ptr 0 0] (PS s T 0 0 12))=some (.ret (qbq c) (PS s T i' a c)):=by
 simp only[pgS,PS,pO,rob,qfO,Wi,Wc] at z
 refine qab (pf:=F242) rfl rfl ?_
 simp[F242,z,hf,Wa]
end
end
section
open F
attribute [local simp] qbj qb4 dkey
section
variable{s:ByteArray}{T:List Tk}{i':Nat}{q:Nat->N4}{a c:Int}
theorem qrd(h:(2000:Int)<s.size):Z tP (.call 228 [.str s] [])=some (.ret (.tup [qtd fun _=>qfO none,.int 2000,.int 2]) []):=by
 refine qab (pf:=F228) rfl rfl ?_
 simp[F228,h,V.len,qfO,Wa]
abbrev dS(s:ByteArray)(T:List Tk)(q:Nat->N4)(x y:Int)(i a c:Int):S:=[.cells [.ptr 4 0],rob q,.cells [.int x],.cells [.int y],pO s 5 (.gsl (ptC T) T.length 5 6) i a c,.map kwM,.tip (ptC T).length]
theorem qre{x y i a c:Int}:Z tP (.dcall 240 [.dat (.lit .nilIface),.ptr 0 0,.ptr 1 0,.ptr 2 0,.ptr 3 0] (dS s T q x y i a c))=some (.ret (.dat (.lit undef)) (dS s T q x y i a c)):=by
 have k0:=(q 0).one
 have k1:=(q 1).one
 have k2:=(q 2).one
 have c0:=(q 0).cl
 have c1:=(q 1).cl
 have c2:=(q 2).cl
 refine qmo (pf:=F240) rfl ?_
 have hfl:F240.body.flat=true:=rfl
 simp only[qa0]
 rw[if_pos ⟨rfl,rfl,rfl,hfl,.inl rfl⟩]
 simp[F240,qgh,k0,k1,k2,c0,c1,c2,Wa]
theorem qtj (h : ¬ (2000:Int)<s.size) (zt:Z tP (.call 249 [.yld 0,.ptr 1 0] (TT0 s))=some (.ret (.tup []) (TT1 s (ptC T) T.length)))
  (z:Z tP (.call 242 [.ptr 0 0] (PS s T 0 0 12))=some (.ret (qtd q) (PS s T i' 0 12))):Z tP (.call 228 [.str s] [])=some (.ret (.tup [qtd q,.int 0,.int 0]) []):=by
 have z1:=qjq s
 have z2:=qlB s
 have k0:=(q 0).one
 have k1:=(q 1).one
 have k2:=(q 2).one
 have c0:=(q 0).cl
 have c1:=(q 1).cl
 have c2:=(q 2).cl
 simp only[pO] at z2
 simp only[TT0,TT1,pO] at zt
 simp only[PS,pO] at z
 have zd:=qre (s:=s) (T:=T) (q:=q) (x:=0) (y:=0) (i:=i') (a:=0) (c:=12)
 simp only[dS,pO,rob] at zd
 refine qab (pf:=F228) rfl rfl ?_
 simp[F228,z1,z2,zt,z,zd,h,V.len,k0,k1,k2,c0,c1,c2,Wa]
end
end
section
open F
attribute [local simp] qbj qb4 dkey
section
variable{s:ByteArray}{T:List Tk}{i':Nat}{a c:Int}
abbrev q0:Nat->N4:=fun _=>qfO none
theorem qpN{i a c:Int}:Z tP (.dcall 240 [.iface 1 (.int c),.ptr 0 0,.ptr 1 0,.ptr 2 0,.ptr 3 0] (dS s T q0 0 0 i a c))=some (.ret (.dat (.lit undef)) (dS s T q0 a c i a c)):=by
 refine qmo (pf:=F240) rfl ?_
 have hfl:F240.body.flat=true:=rfl
 simp only[qa0]
 rw[if_pos ⟨rfl,rfl,rfl,hfl,.inl rfl⟩]
 simp[F240,qgh,qfO,qbN,qaF,Wa]
theorem qpO (h : ¬ (2000:Int)<s.size) (zt:Z tP (.call 249 [.yld 0,.ptr 1 0] (TT0 s))=some (.ret (.tup []) (TT1 s (ptC T) T.length)))
  (z:Z tP (.call 242 [.ptr 0 0] (PS s T 0 0 12))=some (.ret (qbq c) (PS s T i' a c))):Z tP (.call 228 [.str s] [])=some (.ret (.tup [qtd fun _=>qfO none,.int a,.int c]) []):=by
 have z1:=qjq s
 have z2:=qlB s
 simp only[pO] at z2
 simp only[TT0,TT1,pO] at zt
 simp only[PS,pO] at z
 have zd:=qpN (s:=s) (T:=T) (i:=i') (a:=a) (c:=c)
 simp only[dS,pO,rob,q0,qfO] at zd
 refine qab (pf:=F228) rfl rfl ?_
 simp[F228,z1,z2,zt,z,zd,h,V.len,qfO,qak,V.isNilIf,Wa]
end
end
section
open F
theorem qlE(s:ByteArray) : ∀ n i,(qcl 12 2 6 s n i).length<=n+1
 |0,i=>by simp[qcl]
 |n+1,i=>by
  rw[qcl]
  have:=qlE s n
  split
  ·simp
  ·simp only[Wf]; have:=this ((tokAt 12 2 6 s (qil s (s.size-i) false i)).at_+(tokAt 12 2 6 s (qil s (s.size-i) false i)).s.size); omega
theorem qsz(s:ByteArray) : ∀ n i,qcl 12 2 6 s n i≠[]
 |0,i=>by simp[qcl]
 |n+1,i=>by rw[qcl]; split<;>simp
theorem qqf(s:ByteArray)(hP : ∀ t∈qk6 s,TokP t):Z tP (.call 228 [.str s] [])=some (.ret (qn7 true true false s) []):=by
 unfold qn7
 by_cases hbig:2000<s.size
 ·have:qhE true true false s = .er 2000 2:=by rw[qhE,if_pos hbig]
  rw[this]
  exact qrd (by omega)
 ·have hlen:=qlE s (s.size+1) 0
  have hT:(qk6 s).length<2 ^ 30:=by show (qcl 12 2 6 s (s.size+1) 0).length<_; omega
  have hw:WfQ (qk6 s):=qrf s _ 0
  have zt:=qrl s (by omega)
  obtain⟨t,r,htr⟩:=qa3 (show qk6 s≠[] from qsz s _ 0)
  have hv:=qiW (f:=true) (fi:=true) (fb:=false) hbig
  have hp:=hv
  rw[htr] at hp
  have:=qlF (s:=s) hw hT hP _ (fun _=>none) 0 t r _ (by rw[WT]; exact htr) hp
  cases hx:qhE true true false s with
  |ok h' ts=>
   rw[hx] at this
   obtain⟨i',z⟩:=this
   exact qtj (by omega) zt (qoP z)
  |er a c=>
   rw[hx] at this
   obtain⟨i',fr,q',f1,z⟩:=this
   exact qpO (by omega) zt (qmG f1 z)
theorem qqg(s:ByteArray)(hl:s.size<2 ^ 30) : ∀ n i,∀ t∈qcl 12 2 6 s n i,TokP t
 |0,i,t,h=>by
  simp only[qcl,Wg] at h
  rw[h]
  exact⟨fun _=>show (⟨#[]⟩:ByteArray)≠qS by decide,fun _ h=>(by cases h)⟩
 |n+1,i,t,h=>by
  have one : ∀ j,TokP (tokAt 12 2 6 s j):=fun j=>by
   by_cases hj:j<s.size
   ·exact qwN hl hj
   ·have hd:(byl s).drop j=[]:=WW (by rw[qaU]; omega)
    rw[qd3,hd]
    exact⟨fun _=>show (⟨#[]⟩:ByteArray)≠qS by decide,fun _ h=>(by cases h)⟩
  rw[qcl] at h
  split at h
  ·rw[Wg.1 h]; exact one _
  ·rcases Wu.1 h with h|h
   ·rw[h]; exact one _
   ·exact qqg s hl n _ t h
theorem qsA(s:ByteArray)(hl:s.size<2 ^ 30):Z tP (.call 228 [.str s] [])=some (.ret (qn7 true true false s) []):=qqf s (qqg s hl _ 0)
end
section
open F
abbrev Sub(p q:Nat->Option PFun):Prop := ∀ f pf,p f=some pf->q f=some pf
structure Has(prog:Nat->Option PFun):Prop where
 b:Sub qad prog
 r:Sub tR prog
 s:Sub tS prog
 p:Sub tP prog
 q:Sub tQ prog
 e:Sub tE prog
 k:Sub tK prog
def hdO:Option Ss->Hd
 |none => .none
 |some b => .some false b
theorem qu0(o:Option Ss):(qfO o).k=(hdO o).nd.k/\(qfO o).n=(hdO o).nd.n/\(qfO o).s=(hdO o).nd.s/\(qfO o).d=(hdO o).nd.d:=by cases o<;>exact⟨rfl,rfl,rfl,rfl⟩
theorem qu1(h:Nat->Option Ss):qtd (fun k=>qfO (h k)) = .dat (ru (hdO (h 0)).nd (hdO (h 1)).nd (hdO (h 2)).nd):=by
 obtain⟨a1,a2,a3,a4⟩:=qu0 (h 0)
 obtain⟨b1,b2,b3,b4⟩:=qu0 (h 1)
 obtain⟨c1,c2,c3,c4⟩:=qu0 (h 2)
 simp only[qtd,ru,a1,a2,a3,a4,b1,b2,b3,b4,c1,c2,c3,c4]
end
section
open F Gr
set_option maxHeartbeats 4000000
theorem qrg{c:Cd}{e:Nat}(D:Nat->Int) : ∀ k:Nat,∃ m:Int,0<=m/\(∀ i,i<k->Gr.Reach c e i->aft c i (D i)<=m)/\(m=0 \/ ∃ i,Gr.Reach c e i/\m=aft c i (D i))
 |0=>⟨0,by omega,fun i h=>by omega,.inl rfl⟩
 |k+1=>by
  obtain⟨m,h0,h1,h2⟩:=qrg D k
  by_cases hr:Gr.Reach c e k/\m<aft c k (D k)
  ·refine⟨aft c k (D k),by omega,fun i hi h=>?_,.inr ⟨k,hr.1,rfl⟩⟩
   by_cases hik:i=k
   ·subst hik; omega
   ·have:=h1 i (by omega) h
    omega
  ·refine⟨m,h0,fun i hi h=>?_,h2⟩
   by_cases hik:i=k
   ·subst hik
    exact Int.not_lt.1 fun h'=>hr ⟨h,h'⟩
   ·exact h1 i (by omega) h
theorem qrh{c:Cd}{e:Int}(he:0<=e->e.toNat<c.length) : ∃ m,DepIs c e m:=by
 by_cases h0:e<0
 ·exact⟨0,fun _=>rfl,fun h=>by omega⟩
 ·by_cases hD : ∃ D,CF c e.toNat D
  ·obtain⟨D,hD⟩:=hD
   obtain⟨m,a,b,d⟩:=qrg (c:=c) (e:=e.toNat) D c.length
   exact⟨m,fun h=>absurd h h0,fun _ D' hD'=>Most.of_eq hD hD' ⟨a,fun i hi=>b i (hi.lt (he (by omega))) hi,d⟩⟩
  ·exact⟨0,fun h=>absurd h h0,fun _ D' hD'=>absurd ⟨D',hD'⟩ hD⟩
theorem qh4(vs:List ByteArray)(f:Bool) : ∀ e:E,qdd vs (e.fl f)=qdd vs e
 |.int n | .bool n | .var s | .name s=>rfl
 |.field _ s e | .un _ n e=>by simp only[E.fl,qdd,qh4 vs f e]
 |.bin _ o a b=>by simp only[E.fl,qdd,qh4 vs f a,qh4 vs f b]
theorem qtk(f:Bool)(e:E):(e.fl f).ty=e.ty:=by induction e<;>simp_all [E.fl,E.ty]
theorem qgJ(f:Bool) : ∀ e:E,e.fine->(e.fl f).fine
 |.int n,h | .bool n,h | .var s,h | .name s,h=>h
 |.field _ s e,h=>by simp only[E.fl,E.fine] at h ⊢; simp_all [qgJ f e,qtk]
 |.un _ n e,h=>by simp only[E.fl,E.fine] at h ⊢; simp_all [qgJ f e,qtk]
 |.bin _ o a b,h=>by simp only[E.fl,E.fine] at h ⊢; simp_all [qgJ f a,qgJ f b,qtk]
theorem qtl(vs:List ByteArray)(f fi fb:Bool)(b:Ss)(h:b.fine):codeS vs (b.fl f fi fb)=codeS vs b/\(b.fl f fi fb).fine:=by
 fun_induction Ss.fine b with
 |case1=>exact⟨rfl,trivial⟩
 |case8=>exact absurd h id
 |_=>simp_all [Ss.fl,codeS,Ss.fine,qh4,qgJ,qtk]
def Hd.rf(h:Hd):Hd:=hdO (h.opt.map (·.fl true true false))
theorem qmZ{h:Hd}(hf:h.fine):h.rf.fine:=by
 cases h with
 |none=>exact hf
 | some f b=>exact⟨(qtl [] true true false b hf.fine).2,by
   have e:(b.fl true true false).fo.size=b.fo.size:=qk3 (qdu true true false b)
   have:=hf.size
   show (b.fl true true false).fo.size<=2000
   rw[e]
   exact this⟩
end
end Go.Pm
section
namespace Go.Pm.F
variable(C:Task->Option Res)(q:Nat)(fr:Fr)(σ : S)
def F317:PFun:=⟨1,[.tmp 2,.tmp 3],.seq (rn [jj 2 (.mov (.c (.pointer none))),mx 3 (kk 0)] [0]) (.seq (rn [mv 7 0,cl 8 322 [7],mv 6 8,ex 9 6 0,ex 10 6 1,jj 4 (.alloc [sN,zN,zN,zN]),st 4 4 9,mv 5 10] [4,5]) (.seq (.seq (rn [mv 11 5,bk 12 .neq 11 0] [4,5,12]) (.cond (.t 12) (.seq (rn [mv 13 5,jj 2 (.mov (.c (.pointer none))),mv 3 13] [2,3]) (.ret)) (.skip))) (.seq (rn [la 14 4 4,jj 15 (.build [zN,sN,zN,zN,zN] [(0,1,(kk 0)),(1,4,(.t 14))]),jj 16 (.bslice 1 [zN,sN,zN,zN,zN] [(0,5,(.t 15))]),jj 17 (.build [sN] [(0,1,(.t 16))]),bx 18 17,mv 2 18,mx 3 (kk 0)] [2,3]) (.ret)))),false,false,false⟩
def F318:PFun:=⟨3,[.tmp 6],.seq (rn [mx 6 (kk 0)] [0,1,2]) (.seq (.seq (rn [mv 9 0,nc 10 9,fa 11 0 10,l1 12 11,ls 13 12,bk 14 .gtr 13 8] [0,1,2,14]) (.cond (.t 14) (.seq (rn [mx 6 (kk 2)] [6]) (.ret)) (.skip))) (.seq (.seq (.region (some []) [mv 15 1,mv 16 0,nc 17 16,fa 18 0 17,l1 19 18,mv 20 0,nc 21 20,fa 22 0 21,l1 23 22,ls 24 23,bk 25 .sub 24 1,jj 26 (.indexAddr 5 (.t 19) (.t 25)),fa 27 0 26,l1 28 27,bn 29 .leq 15 28] [0,1,2,29]) (.cond (.t 29) (.seq (rn [mx 6 (kk 5)] [6]) (.ret)) (.skip))) (.seq (rn [mv 31 2,cl 32 322 [31],mv 30 32,ex 33 30 0,ex 34 30 1,jj 7 (.alloc [sN,zN,zN,zN]),st 4 7 33,mv 8 34] [0,1,7,8]) (.seq (.seq (rn [mv 35 8,bk 36 .neq 35 0] [0,1,7,8,36]) (.cond (.t 36) (.seq (rn [mv 37 8,mv 6 37] [6]) (.ret)) (.skip))) (.seq (.region (some []) [mv 38 0,mv 39 0,nc 40 39,fa 41 0 40,l1 42 41,mv 43 1,la 44 4 7,jj 45 (.build [zN,sN,zN,zN,zN] [(0,1,(.t 43)),(1,4,(.t 44))]),jj 46 (.bslice 1 [zN,sN,zN,zN,zN] [(0,5,(.t 45))]),jj 47 (.append 5 56 (.t 42) (.t 46)),nc 48 38,fa 49 0 48,st 1 49 47] []) (.seq (rn [mx 6 (kk 0)] [6]) (.ret))))))),false,false,false⟩
@[simp] def F320l0x:PC:=(.seq (rn [bn 18 .lss 17 16] [3,15,16,17,18]) (.seq (.cond (.t 18) (.skip) (.exit 0)) (.seq (.block 1 (.seq (rn [mv 19 17,jj 20 (.indexAddr 5 (.t 15) (.t 17)),la 21 5 20,jj 5 (.alloc [zN,sN,zN,zN,zN]),mv 4 19,st 5 5 21] [3,4,5,15,16,17]) (rn [mv 22 3,mv 23 4,fa 24 0 5,l1 25 24,jj 26 (.indexAddr 1 (.t 22) (.t 23)),st 1 26 25] [3,15,16,17]))) (rn [bk 27 .add 17 1,mv 17 27] [3,15,16,17]))))
def F320l0:PC:=F320l0x
def F320:PFun:=⟨1,[.tmp 2],.seq (rn [jj 2 (.mov (.c (.slice none 0 0)))] [0]) (.seq (rn [mv 6 0,nc 7 6,fa 8 0 7,l1 9 8,ls 10 9,jj 11 (.mkslice false [zN] 8 (.t 10) (.t 10)),mv 3 11] [0,3]) (.seq (.seq (rn [mv 12 0,nc 13 12,fa 14 0 13,l1 15 14,ls 16 15,mx 17 (kk 0)] [3,15,16,17]) (.block 0 (.loop F320l0))) (.seq (rn [mv 28 3,mv 2 28] [2]) (.ret)))),false,false,false⟩
def F322:PFun:=⟨1,[.cell 2 true 4,.tmp 3],.seq (rn [jj 2 (.alloc [sN,zN,zN,zN]),mx 3 (kk 0)] [0,2]) (.seq (rn [mv 8 0,jj 9 (.call 324 [(.t 8),(kk 0),(.f 325)]),mv 7 9,ex 10 7 0,ex 11 7 1,jj 4 (.alloc [zN,zN,eN,sN,zN,zN,eN,sN,zN,zN,eN,sN]),st 12 4 10,mv 5 11] [2,4,5]) (.seq (rn [la 13 12 4,mv 14 5,jj 15 (.call 326 [(.t 13),(.t 14),(.f 327)]),mv 12 15,ex 16 12 0,ex 17 12 1,jj 6 (.alloc [zN,zN,eN,sN,zN,zN,eN,sN,zN,zN,eN,sN]),st 12 6 16,mv 5 17] [2,5,6]) (.seq (rn [la 18 12 6,mv 19 5,jj 20 (.call 328 [(.t 18),(.t 19),(.f 131)]),ex 21 20 0,ex 22 20 1,st 4 2 21,mv 3 22] [2,3]) (.ret)))),false,false,false⟩
def F323:PFun:=⟨2,[.tmp 4,.cell 5 true 4],.seq (rn [bx 2 0,bx 3 1,mx 4 (kk 0),jj 5 (.alloc [sN,zN,zN,zN])] [2,3,5]) (.seq (rn [l1 9 2,nc 10 9,fa 11 0 10,l1 12 11,ls 13 12,jj 14 (.mkfn 330 [] [(.t 2),(.t 3)]),cl 15 329 [13,14],mv 6 15] [2,5,6]) (.seq (rn [mv 16 6,bk 17 .sub 16 1,jj 18 (.max [(.t 17),(kk 0)]),mv 7 18] [2,5,7]) (.seq (rn [l1 19 2,nc 20 19,fa 21 0 20,l1 22 21,mv 23 7,jj 24 (.indexAddr 5 (.t 22) (.t 23)),fa 25 1 24,la 26 4 25,jj 8 (.alloc [sN,zN,zN,zN]),st 4 8 26] [5,7,8]) (.seq (.region (some []) [mv 27 7,fa 28 0 8,l1 29 28,cl 30 331 [29],fa 31 1 8,⟨some 32,.load true 3 (.t 31),none,[3]⟩,jj 33 (.build [sN,zN,zN,zN] [(0,1,(.t 30)),(1,3,(.t 32))]),mv 4 27,st 4 5 33] [4,5]) (.ret))))),false,false,false⟩
def F324:PFun:=⟨3,[.cell 6 true 12,.tmp 7],.seq (rn [jj 6 (.alloc [zN,zN,eN,sN,zN,zN,eN,sN,zN,zN,eN,sN]),mx 7 (kk 0)] [0,1,2,6]) (.seq (.seq (rn [mv 9 1,bk 10 .neq 9 0] [0,1,2,6,10]) (.cond (.t 10) (.seq (rn [jj 8 (.alloc [zN,zN,eN,sN,zN,zN,eN,sN,zN,zN,eN,sN])] [1,6,8]) (.seq (rn [la 11 12 8,mv 12 1,st 12 6 11,mv 7 12] [6,7]) (.ret))) (.skip))) (.seq (rn [mv 13 2,mv 14 0,jj 15 (.callv (.t 13) [(.t 14)]),ex 16 15 0,ex 17 15 1,st 12 6 16,mv 7 17] [6,7]) (.ret))),false,false,false⟩
def F325:PFun:=⟨1,[.cell 2 true 12,.tmp 3],.seq (rn [jj 2 (.alloc [zN,zN,eN,sN,zN,zN,eN,sN,zN,zN,eN,sN]),mx 3 (kk 0)] [0,2]) (.seq (rn [mv 8 0,cl 9 228 [8],mv 7 9,ex 10 7 0,ex 11 7 1,ex 12 7 2,jj 4 (.alloc [zN,zN,eN,sN,zN,zN,eN,sN,zN,zN,eN,sN]),st 12 4 10,mv 5 11,mv 6 12] [2,4,6]) (.seq (rn [la 13 12 4,mv 14 6,st 12 2 13,mv 3 14] [2,3]) (.ret))),false,false,false⟩
def F326:PFun:=⟨3,[.cell 6 true 12,.tmp 7],.seq (rn [bx 3 0,jj 6 (.alloc [zN,zN,eN,sN,zN,zN,eN,sN,zN,zN,eN,sN]),mx 7 (kk 0)] [1,2,3,6]) (.seq (.seq (rn [mv 9 1,bk 10 .neq 9 0] [1,2,3,6,10]) (.cond (.t 10) (.seq (rn [jj 8 (.alloc [zN,zN,eN,sN,zN,zN,eN,sN,zN,zN,eN,sN])] [1,6,8]) (.seq (rn [la 11 12 8,mv 12 1,st 12 6 11,mv 7 12] [6,7]) (.ret))) (.skip))) (.seq (rn [mv 13 2,la 14 12 3,jj 15 (.callv (.t 13) [(.t 14)]),ex 16 15 0,ex 17 15 1,st 12 6 16,mv 7 17] [6,7]) (.ret))),false,false,false⟩
def F327:PFun:=⟨1,[.cell 2 true 12,.tmp 3],.seq (rn [bx 1 0,jj 2 (.alloc [zN,zN,eN,sN,zN,zN,eN,sN,zN,zN,eN,sN]),mx 3 (kk 0)] [1,2]) (.seq (.region (some []) [⟨some 4,.load true 12 (.t 1),none,[2]⟩,la 5 12 1,cl 6 12 [5],st 12 2 4,mv 3 6] [2,3] [2]) (.ret)),false,false,false⟩
def F328:PFun:=⟨3,[.cell 6 true 4,.tmp 7],.seq (rn [bx 3 0,jj 6 (.alloc [sN,zN,zN,zN]),mx 7 (kk 0)] [1,2,3,6]) (.seq (.seq (rn [mv 9 1,bk 10 .neq 9 0] [1,2,3,6,10]) (.cond (.t 10) (.seq (rn [jj 8 (.alloc [sN,zN,zN,zN])] [1,6,8]) (.seq (rn [la 11 4 8,mv 12 1,st 4 6 11,mv 7 12] [6,7]) (.ret))) (.skip))) (.seq (rn [mv 13 2,la 14 12 3,jj 15 (.callv (.t 13) [(.t 14)]),ex 16 15 0,ex 17 15 1,st 4 6 16,mv 7 17] [6,7]) (.ret))),false,false,false⟩
def F330:PFun:=⟨3,[.tmp 4],.seq (rn [mx 4 kF] [0,1,2]) (.seq (.region (some []) [l1 5 1,nc 6 5,fa 7 0 6,l1 8 7,mv 9 0,jj 10 (.indexAddr 5 (.t 8) (.t 9)),fa 11 0 10,l1 12 11,l1 13 2,bn 14 .gtr 12 13,mv 4 14] [4]) (.ret)),false,false,false⟩
@[simp] def F343l0x:PC:=(.seq (rn [bn 19 .lss 18 17] [3,16,17,18,19]) (.seq (.cond (.t 19) (.skip) (.exit 0)) (.seq (.block 1 (.seq (rn [jj 20 (.indexAddr 5 (.t 16) (.t 18)),la 21 5 20,jj 5 (.alloc [zN,sN,zN,zN,zN]),st 5 5 21] [3,5,16,17,18]) (.region (some []) [mv 22 3,fa 23 0 5,⟨some 24,.load false 1 (.t 23),none,[5]⟩,fa 25 1 5,la 26 4 25,cl 27 353 [26],jj 28 (.conv (.int .i64) (.t 27)),jj 29 (.bslice 2 [zN,zN] [(0,1,(.t 24)),(1,1,(.t 28))]),jj 30 (.appendO 1 8 (.t 22) (.t 29)),mv 3 30] [3,16,17,18] [5]))) (rn [bk 31 .add 18 1,mv 18 31] [3,16,17,18]))))
def F343l0:PC:=F343l0x
theorem qfw:run C q F343l0 fr σ = run C q F343l0x fr σ := rfl
def F343:PFun:=⟨1,[.tmp 2],.seq (rn [jj 2 (.mov (.c (.int .u64 0)))] [0]) (.seq (rn [mv 6 0,nc 7 6,fa 8 0 7,l1 9 8,ls 10 9,jj 11 (.bin .mul (kk 2) (.t 10)),jj 12 (.mkslice true [zN] 8 (kk 0) (.t 11)),mv 3 12] [0,3]) (.seq (.seq (rn [mv 13 0,nc 14 13,fa 15 0 14,l1 16 15,ls 17 16,mx 18 (kk 0)] [3,16,17,18]) (.block 0 (.loop F343l0))) (.seq (rn [mv 32 3,jj 33 (.call 109 [(.c (.string ⟨#[98,111,111,107]⟩)),(.t 32)]),mv 2 33] [2]) (.ret)))),false,false,false⟩
@[simp] def F353l0x:PC:=(.seq (rn [bn 20 .lss 19 18] [3,17,18,19,20]) (.seq (.cond (.t 20) (.skip) (.exit 0)) (.seq (.block 1 (.seq (rn [jj 21 (.indexAddr 2 (.t 17) (.t 19)),la 22 2 21,jj 5 (.alloc [zN,zN]),st 2 5 22] [3,5,17,18,19]) (rn [mv 23 3,fa 24 0 5,l1 25 24,fa 26 1 5,l1 27 26,jj 28 (.bslice 2 [zN,zN] [(0,1,(.t 25)),(1,1,(.t 27))]),jj 29 (.appendO 1 8 (.t 23) (.t 28)),mv 3 29] [3,17,18,19]))) (rn [bk 30 .add 19 1,mv 19 30] [3,17,18,19]))))
def F353l0:PC:=F353l0x
theorem qgY:run C q F353l0 fr σ = run C q F353l0x fr σ := rfl
def F353:PFun:=⟨1,[.tmp 2],.seq (rn [bx 1 0,jj 2 (.mov (.c (.int .u64 0)))] [1]) (.seq (rn [fa 6 0 1,l1 7 6,ls 8 7,jj 9 (.bin .mul (kk 2) (.t 8)),jj 10 (.bin .add (kk 3) (.t 9)),jj 11 (.mkslice true [zN] 8 (kk 0) (.t 10)),mv 3 11] [1,3]) (.seq (rn [mv 12 3,fa 13 1 1,jj 14 (.sliceA 3 1 (.t 13) none none),jj 15 (.appendO 1 8 (.t 12) (.t 14)),mv 3 15] [1,3]) (.seq (.seq (rn [fa 16 0 1,l1 17 16,ls 18 17,mx 19 (kk 0)] [3,17,18,19]) (.block 0 (.loop F353l0))) (.seq (rn [mv 31 3,jj 32 (.call 109 [(.c (.string ⟨#[112,114,111,103,114,97,109]⟩)),(.t 31)]),mv 2 32] [2]) (.ret))))),false,false,false⟩
end Go.Pm.F
end
section
namespace Go.Pm.F
variable(C:Task->Option Res)(q:Nat)(fr:Fr)(σ : S)
@[simp] def F329l0x:PC:=(.seq (.seq (rn [mv 9 5,mv 10 6,bn 11 .lss 9 10] [1,5,6,11]) (.cond (.t 11) (.skip) (.exit 0))) (.block 1 (.seq (rn [mv 12 5,mv 13 6,bn 14 .add 12 13,jj 15 (.conv (.int .u64) (.t 14)),jj 16 (.bin .shr (.t 15) (.c (.int .u64 1))),jj 17 (.conv (.int .i64) (.t 16)),mv 7 17] [1,5,6,7]) (.seq (rn [mv 18 1,mv 19 7,jj 20 (.callv (.t 18) [(.t 19)]),jj 21 (.un .not (.t 20))] [1,5,6,7,21]) (.cond (.t 21) (rn [mv 22 7,bk 23 .add 22 1,mv 5 23] [1,5,6]) (rn [mv 24 7,mv 6 24] [1,5,6]))))))
def F329l0:PC:=F329l0x
theorem qfE:run C q F329l0 fr σ = run C q F329l0x fr σ := rfl
def F329:PFun:=⟨2,[.tmp 4],.seq (rn [mx 4 (kk 0)] [0,1]) (.seq (rn [mv 8 0,mx 5 (kk 0),mv 6 8] [1,5,6]) (.seq (.block 0 (.loop F329l0)) (.seq (rn [mv 25 5,mv 4 25] [4]) (.ret)))),false,false,false⟩
def F331:PFun:=⟨1,[.tmp 2],.seq (rn [jj 2 (.mov (.c (.slice none 0 0)))] [0]) (.seq (.seq (rn [mv 3 0,jj 4 (.isnils false (.t 3))] [0,4]) (.cond (.t 4) (.seq (rn [jj 2 (.mov (.c (.slice none 0 0)))] [2]) (.ret)) (.skip))) (.seq (rn [jj 5 (.bslice 0 [] []),mv 6 0,jj 7 (.append 2 16 (.t 5) (.t 6)),mv 2 7] [2]) (.ret))),false,false,false⟩
end Go.Pm.F
end
namespace Go.Pm
section
open F Gr
set_option maxHeartbeats 4000000
section
variable{prog:Nat->Option PFun}{s:ByteArray}{A B C:Nd}{q e x0 x1 x2:Int}{d:D}
theorem qyj(h:prog 325=some F325)(zP:Z prog (.call 228 [.str s] [])=some (.ret (.tup [.dat (ru A B C),.int 0,.int 0]) [])):Z prog (.call 325 [.str s] [])=some (.ret (.tup [.dat (ru A B C),.int 0]) []):=by
 refine qab h rfl ?_
 simp only[ru] at zP ⊢
 simp[F325,zP,Wa]
theorem qyk(h:prog 324=some F324)(z:Z prog (.call 325 [.str s] [])=some (.ret (.tup [.dat (ru A B C),.int 0]) [])):Z prog (.call 324 [.str s,.int 0,.fn 325 [] []] [])=some (.ret (.tup [.dat (ru A B C),.int 0]) []):=by
 refine qab h rfl ?_
 simp only[ru] at z ⊢
 simp[F324,z,Wa]
theorem qyl(h:prog 327=some F327)(zC:Z prog (.call 12 [.dat (ru A B C)] [])=some (.ret (.int q) [])):Z prog (.call 327 [.dat (ru A B C)] [])=some (.ret (.tup [.dat (ru A B C),.int q]) []):=by
 refine qab h rfl ?_
 simp only[ru] at zC ⊢
 simp[F327,zC,Wa]
theorem qym(h:prog 326=some F326)(z:Z prog (.call 327 [.dat (ru A B C)] [])=some (.ret (.tup [.dat (ru A B C),.int q]) [])):Z prog (.call 326 [.dat (ru A B C),.int 0,.fn 327 [] []] [])=some (.ret (.tup [.dat (ru A B C),.int q]) []):=by
 refine qab h rfl ?_
 simp only[ru] at z ⊢
 simp[F326,z,Wa]
theorem qsl(h:prog 328=some F328)(hq:q≠0):Z prog (.call 328 [.dat (ru A B C),.int q,.fn 131 [] []] [])=some (.ret (.tup [pgD (.lit (.slice none 0 0)) 0 0 0,.int q]) []):=by
 refine qab h rfl ?_
 simp only[ru,pgD]
 simp[F328,hq,Wa]
theorem qp9(h:prog 328=some F328)(o:V.one (.dat d)=true)(c:V.cells (.dat d)=[.dat d])(z:Z prog (.call 131 [.dat (ru A B C)] [])=some (.ret (.tup [pgD d x0 x1 x2,.int e]) [])):Z prog (.call 328 [.dat (ru A B C),.int 0,.fn 131 [] []] [])=some (.ret (.tup [pgD d x0 x1 x2,.int e]) []):=by
 refine qab h rfl ?_
 simp only[ru,pgD] at z ⊢
 simp[F328,z,o,c,Wa]
theorem qqa(h:prog 322=some F322)(o:V.one (.dat d)=true)(c:V.cells (.dat d)=[.dat d])(z1:Z prog (.call 324 [.str s,.int 0,.fn 325 [] []] [])=some (.ret (.tup [.dat (ru A B C),.int 0]) []))(z2:Z prog (.call 326 [.dat (ru A B C),.int 0,.fn 327 [] []] [])=some (.ret (.tup [.dat (ru A B C),.int q]) []))(z3:Z prog (.call 328 [.dat (ru A B C),.int q,.fn 131 [] []] [])=some (.ret (.tup [pgD d x0 x1 x2,.int e]) [])):Z prog (.call 322 [.str s] [])=some (.ret (.tup [pgD d x0 x1 x2,.int e]) []):=by
 refine qab h rfl ?_
 simp only[ru,pgD] at z1 z2 z3 ⊢
 simp[F322,z1,z2,z3,o,c,Wa]
end
end
end Go.Pm
section
namespace Go.Pm.F
variable(C:Task->Option Res)(q:Nat)(fr:Fr)(σ : S)
def F321:PFun:=⟨0,[.tmp 0],.seq (rn [mx 0 kF] []) (.seq (rn [jj 9 (.call 317 [(.c (.string ⟨#[]⟩))]),mv 8 9,ex 10 8 0,ex 11 8 1,mv 1 10,mv 2 11] [1,2]) (.seq (.seq (rn [mv 12 1,jj 13 (.isnil true false (.t 12)),mv 14 13,jf 15 14 (.mov (.t 2)),jf 16 14 (.bin .neq (.t 15) (kk 0)),jj 17 (.pick (.t 14) kT (.t 16))] [1,17]) (.cond (.t 17) (.seq (rn [mx 0 kF] [0]) (.ret)) (.skip))) (.seq (rn [mv 18 1,jj 19 (.call 318 [(.t 18),(kk 10),(.c (.string ⟨#[111,110,32,116,105,99,107,32,123,32,97,49,32,61,32,49,59,32,125]⟩))]),mv 3 19] [1,3]) (.seq (rn [mv 21 1,jj 22 (.call 323 [(.t 21),(kk 9)]),mv 20 22,ex 23 20 0,ex 24 20 1,jj 5 (.alloc [sN,zN,zN,zN]),mv 4 23,st 4 5 24] [1,3,4,5]) (.seq (rn [mv 26 1,jj 27 (.call 323 [(.t 26),(kk 10)]),mv 25 27,ex 28 25 0,ex 29 25 1,jj 7 (.alloc [sN,zN,zN,zN]),mv 6 28,st 4 7 29] [1,3,4,5,6,7]) (.seq (rn [mv 30 3,bk 31 .eql 30 0,mv 32 31,jt 33 32 (.mov (.t 4)),jt 34 32 (.bin .eql (.t 33) (kk 0)),jj 35 (.pick (.t 32) (.t 34) kF),mv 36 35,jt 37 36 (.mov (.t 6)),jt 38 36 (.bin .eql (.t 37) (kk 1)),jj 39 (.pick (.t 36) (.t 38) kF),mv 40 39,jt 41 40 (.fieldAddr 0 (.t 5)),jt 42 40 (.load false 1 (.t 41)),jt 43 40 (.len .sl (.t 42)),jt 44 40 (.bin .eql (.t 43) (kk 0)),jj 45 (.pick (.t 40) (.t 44) kF),mv 46 45,jt 47 46 (.fieldAddr 0 (.t 7)),jt 48 46 (.load false 1 (.t 47)),jt 49 46 (.len .sl (.t 48)),jt 50 46 (.bin .gtr (.t 49) (kk 0)),jj 51 (.pick (.t 46) (.t 50) kF),mv 52 51,jt 53 52 (.mov (.t 1)),jt 54 52 (.call 320 [(.t 53)]),jt 55 52 (.bslice 2 [zN,zN] [(0,1,(kk 0)),(1,1,(kk 10))]),jt 56 52 (.call 58 [(.t 54),(.t 55)]),jj 57 (.pick (.t 52) (.t 56) kF),mv 0 57] [0]) (.ret))))))),false,false,false⟩
def F336:PFun:=⟨1,[.tmp 2],.seq (rn [mx 2 kF] [0]) (.seq (rn [mv 13 0,cl 14 227 [13],mv 3 14] [3]) (.seq (rn [mv 16 3,cl 17 317 [16],mv 15 17,ex 18 15 0,ex 19 15 1,mv 4 18,mv 5 19] [3,4,5]) (.seq (rn [mv 21 3,cl 22 228 [21],mv 20 22,ex 23 20 0,ex 24 20 1,ex 25 20 2,jj 6 (.alloc [zN,zN,eN,sN,zN,zN,eN,sN,zN,zN,eN,sN]),st 12 6 23,mv 7 24,mv 8 25] [4,5,6,8]) (.seq (.seq (rn [mv 26 4,jj 27 (.isnil true false (.t 26))] [4,5,6,8,27]) (.cond (.t 27) (.seq (rn [mv 28 5,bk 29 .neq 28 0,mv 30 29,jt 31 30 (.mov (.t 8)),jt 32 30 (.bin .neq (.t 31) (kk 0)),jt 33 30 (.mov (.t 32)),jf 34 33 (.load true 12 (.t 6)),jf 35 33 (.call 12 [(.t 34)]),jf 36 33 (.bin .neq (.t 35) (kk 0)),jt 37 30 (.pick (.t 33) kT (.t 36)),jt 38 30 (.mov (.t 37)),jf 39 38 (.load true 12 (.t 6)),jf 40 38 (.call 348 [(.t 39)]),jf 41 38 (.un .not (.t 40)),jt 42 30 (.pick (.t 38) kT (.t 41)),jj 43 (.pick (.t 30) (.t 42) kF),mv 44 43,jt 45 44 (.call 321 []),jj 46 (.pick (.t 44) (.t 45) kF),mv 2 46] [2]) (.ret)) (.skip))) (.seq (rn [la 48 12 6,cl 49 131 [48],mv 47 49,ex 50 47 0,ex 51 47 1,jj 9 (.alloc [sN,zN,zN,zN]),st 4 9 50,mv 10 51] [4,5,6,8,9,10]) (.seq (rn [mv 53 4,jj 54 (.call 323 [(.t 53),(kk 5)]),mv 52 54,ex 55 52 0,ex 56 52 1,jj 12 (.alloc [sN,zN,zN,zN]),mv 11 55,st 4 12 56] [4,5,6,8,9,10,12]) (.seq (.seq (rn [mv 57 5,bk 58 .neq 57 0,mv 59 58,jf 60 59 (.mov (.t 8)),jf 61 59 (.bin .neq (.t 60) (kk 0)),jj 62 (.pick (.t 59) kT (.t 61)),mv 63 62,jf 64 63 (.mov (.t 10)),jf 65 63 (.bin .neq (.t 64) (kk 0)),jj 66 (.pick (.t 63) kT (.t 65)),mv 67 66,jf 68 67 (.load true 12 (.t 6)),jf 69 67 (.call 12 [(.t 68)]),jf 70 67 (.bin .neq (.t 69) (kk 0)),jj 71 (.pick (.t 67) kT (.t 70)),mv 72 71,jf 73 72 (.load true 4 (.t 9)),jf 74 72 (.load true 4 (.t 12)),jf 75 72 (.call 346 [(.t 73),(.t 74)]),jf 76 72 (.un .not (.t 75)),jj 77 (.pick (.t 72) kT (.t 76)),mv 78 77,jf 79 78 (.load true 4 (.t 12)),jf 80 78 (.call 125 [(.t 79)]),jf 81 78 (.bin .neq (.t 80) (kk 0)),jj 82 (.pick (.t 78) kT (.t 81))] [4,12,82]) (.cond (.t 82) (.seq (rn [mx 2 kF] [2]) (.ret)) (.skip))) (.seq (.region (some []) [mv 83 4,cl 84 343 [83],⟨some 85,.load true 4 (.t 12),none,[1]⟩,cl 86 349 [85],jj 87 (.bslice 2 [zN,zN] [(0,1,(kk 0)),(1,1,(.t 86))]),jj 88 (.call 109 [(.c (.string ⟨#[98,111,111,107]⟩)),(.t 87)]),bn 89 .eql 84 88,mv 90 89,jt 91 90 (.call 321 []),jj 92 (.pick (.t 90) (.t 91) kF),mv 2 92] [2] [3,5,8]) (.ret))))))))),false,false,false⟩
def F348:PFun:=⟨1,[.tmp 2],.seq (rn [bx 1 0,mx 2 kF] [1]) (.seq (rn [la 6 12 1,cl 7 131 [6],mv 5 7,ex 8 5 0,ex 9 5 1,jj 3 (.alloc [sN,zN,zN,zN]),st 4 3 8,mv 4 9] [4]) (.seq (rn [mv 10 4,bk 11 .eql 10 0,mv 2 11] [2]) (.ret))),false,false,false⟩
end Go.Pm.F
end
namespace Go.Pm
section
open F
def F336t:PC:=(.seq (.region (some []) [mv 83 4,cl 84 343 [83],⟨some 85,.load true 4 (.t 12),none,[1]⟩,cl 86 349 [85],jj 87 (.bslice 2 [zN,zN] [(0,1,(kk 0)),(1,1,(.t 86))]),jj 88 (.call 109 [(.c (.string ⟨#[98,111,111,107]⟩)),(.t 87)]),bn 89 .eql 84 88,mv 90 89,jt 91 90 (.call 321 []),jj 92 (.pick (.t 90) (.t 91) kF),mv 2 92] [2] [3,5,8]) (.ret))
theorem F336_t:F336=⟨1,[.tmp 2],.seq (rn [mx 2 kF] [0]) (.seq (rn [mv 13 0,cl 14 227 [13],mv 3 14] [3]) (.seq (rn [mv 16 3,cl 17 317 [16],mv 15 17,ex 18 15 0,ex 19 15 1,mv 4 18,mv 5 19] [3,4,5]) (.seq (rn [mv 21 3,cl 22 228 [21],mv 20 22,ex 23 20 0,ex 24 20 1,ex 25 20 2,jj 6 (.alloc [zN,zN,eN,sN,zN,zN,eN,sN,zN,zN,eN,sN]),st 12 6 23,mv 7 24,mv 8 25] [4,5,6,8]) (.seq (.seq (rn [mv 26 4,jj 27 (.isnil true false (.t 26))] [4,5,6,8,27]) (.cond (.t 27) (.seq (rn [mv 28 5,bk 29 .neq 28 0,mv 30 29,jt 31 30 (.mov (.t 8)),jt 32 30 (.bin .neq (.t 31) (kk 0)),jt 33 30 (.mov (.t 32)),jf 34 33 (.load true 12 (.t 6)),jf 35 33 (.call 12 [(.t 34)]),jf 36 33 (.bin .neq (.t 35) (kk 0)),jt 37 30 (.pick (.t 33) kT (.t 36)),jt 38 30 (.mov (.t 37)),jf 39 38 (.load true 12 (.t 6)),jf 40 38 (.call 348 [(.t 39)]),jf 41 38 (.un .not (.t 40)),jt 42 30 (.pick (.t 38) kT (.t 41)),jj 43 (.pick (.t 30) (.t 42) kF),mv 44 43,jt 45 44 (.call 321 []),jj 46 (.pick (.t 44) (.t 45) kF),mv 2 46] [2]) (.ret)) (.skip))) (.seq (rn [la 48 12 6,cl 49 131 [48],mv 47 49,ex 50 47 0,ex 51 47 1,jj 9 (.alloc [sN,zN,zN,zN]),st 4 9 50,mv 10 51] [4,5,6,8,9,10]) (.seq (rn [mv 53 4,jj 54 (.call 323 [(.t 53),(kk 5)]),mv 52 54,ex 55 52 0,ex 56 52 1,jj 12 (.alloc [sN,zN,zN,zN]),mv 11 55,st 4 12 56] [4,5,6,8,9,10,12]) (.seq (.seq (rn [mv 57 5,bk 58 .neq 57 0,mv 59 58,jf 60 59 (.mov (.t 8)),jf 61 59 (.bin .neq (.t 60) (kk 0)),jj 62 (.pick (.t 59) kT (.t 61)),mv 63 62,jf 64 63 (.mov (.t 10)),jf 65 63 (.bin .neq (.t 64) (kk 0)),jj 66 (.pick (.t 63) kT (.t 65)),mv 67 66,jf 68 67 (.load true 12 (.t 6)),jf 69 67 (.call 12 [(.t 68)]),jf 70 67 (.bin .neq (.t 69) (kk 0)),jj 71 (.pick (.t 67) kT (.t 70)),mv 72 71,jf 73 72 (.load true 4 (.t 9)),jf 74 72 (.load true 4 (.t 12)),jf 75 72 (.call 346 [(.t 73),(.t 74)]),jf 76 72 (.un .not (.t 75)),jj 77 (.pick (.t 72) kT (.t 76)),mv 78 77,jf 79 78 (.load true 4 (.t 12)),jf 80 78 (.call 125 [(.t 79)]),jf 81 78 (.bin .neq (.t 80) (kk 0)),jj 82 (.pick (.t 78) kT (.t 81))] [4,12,82]) (.cond (.t 82) (.seq (rn [mx 2 kF] [2]) (.ret)) (.skip))) F336t))))))),false,false,false⟩:=rfl
end
section
open F Gr
set_option maxHeartbeats 4000000
section
variable{prog:Nat->Option PFun}{s:ByteArray}{A B C:Nd}{q e x0 x1 x2:Int}{d dv:D}
theorem qq8(h:prog 317=some F317)(o:V.one (.dat d)=true)(c:V.cells (.dat d)=[.dat d])(he:e≠0)(z:Z prog (.call 322 [.str s] [])=some (.ret (.tup [pgD d x0 x1 x2,.int e]) [])):Z prog (.call 317 [.str s] [])=some (.ret (.tup [.dat (.lit (.pointer none)),.int e]) []):=by
 refine qab h rfl ?_
 simp only[pgD] at z
 simp[F317,z,o,c,he,Wa]
theorem qpf(h:prog 348=some F348)(o:V.one (.dat d)=true)(c:V.cells (.dat d)=[.dat d])(z:Z prog (.call 131 [.dat (ru A B C)] [])=some (.ret (.tup [pgD d x0 x1 x2,.int e]) [])):Z prog (.call 348 [.dat (ru A B C)] [])=some (.ret (.bool (decide (e=0))) []):=by
 refine qab h rfl ?_
 simp only[ru,pgD] at z ⊢
 simp[F348,z,o,c,Wa]
variable(h:prog 336=some F336)(hv:Z prog (.call 321 [] [])=some (.ret (.bool true) []))
 (zS:Z prog (.call 227 [.dat dv] [])=some (.ret (.str s) []))
 (zP:Z prog (.call 228 [.str s] [])=some (.ret (.tup [.dat (ru A B C),.int 0,.int 0]) []))
 (zC:Z prog (.call 12 [.dat (ru A B C)] [])=some (.ret (.int q) []))
include h hv zS zP zC
theorem qzm(hq:q≠0)(zN:Z prog (.call 317 [.str s] [])=some (.ret (.tup [.dat (.lit (.pointer none)),.int q]) [])):Z prog (.call 336 [.dat dv] [])=some (.ret (.bool true) []):=by
 refine qab h rfl ?_
 simp only[ru] at zP zC
 simp -implicitDefEqProofs [F336_t,zS,zN,zP,zC,hq,hv,Wa]
theorem qzn(hq:q=0)(he:e≠0)(zN:Z prog (.call 317 [.str s] [])=some (.ret (.tup [.dat (.lit (.pointer none)),.int e]) []))(zK:Z prog (.call 348 [.dat (ru A B C)] [])=some (.ret (.bool false) [])):Z prog (.call 336 [.dat dv] [])=some (.ret (.bool true) []):=by
 subst hq
 refine qab h rfl ?_
 simp only[ru] at zP zC zK
 simp -implicitDefEqProofs [F336_t,zS,zN,zP,zC,zK,he,hv,Wa]
omit h zS zP zC in
theorem qzo {w:List D} {R hw:Int} (X Y:Ob) (o:V.one (.dat d)=true) (c:V.cells (.dat d)=[.dat d])
  (zr:Z prog (.call 343 [.ptr 0 0] [.cells [.dat (.sl w 1 true)]])=some (.ret (.dat (.lit (.int .u64 R))) [.cells [.dat (.sl w 1 true)]])) (zH:Z prog (.call 349 [pgD d x0 x1 x2] [])=some (.ret (.int hw) []))
  (zh:Z prog (.call 109 [.str ⟨#[98,111,111,107]⟩,.dat (.sl [.lit (.int .i64 0),.lit (.int .i64 hw)] 2 true)] [])=some (.ret (.dat (.lit (.int .u64 R))) [])) (b:Bool) :
  run (Z prog) 0 F336t [(4,.ptr 0 0),(12,.ptr 3 0),(82,.bool b)] [.cells [.dat (.sl w 1 true)],X,Y,.cells [.dat d,.int x0,.int x1,.int x2]]=some (.ret,[(2,.bool true)],[.cells [.dat (.sl w 1 true)],X,Y,.cells [.dat d,.int x0,.int x1,.int x2]]):=by
 simp only[pgD] at zH
 simp -implicitDefEqProofs [F336t,zr,zH,zh,hv,o,c,Wa]
theorem qwM {w:List D} {R hw:Int} (hq:q=0) (o:V.one (.dat d)=true) (c:V.cells (.dat d)=[.dat d])
  (zN:Z prog (.call 317 [.str s] [])=some (.ret (.tup [.ptr 0 0,.int 0]) [.cells [.dat (.sl w 1 true)]]))
  (zK:Z prog (.call 131 [.dat (ru A B C)] [])=some (.ret (.tup [pgD d x0 x1 x2,.int 0]) []))
  (zA:Z prog (.call 323 [.ptr 0 0,.int 5] [.cells [.dat (.sl w 1 true)]])=some (.ret (.tup [.int 0,pgD d x0 x1 x2]) [.cells [.dat (.sl w 1 true)]]))
  (zs:Z prog (.call 346 [pgD d x0 x1 x2,pgD d x0 x1 x2] [])=some (.ret (.bool true) []))
  (zV:Z prog (.call 125 [pgD d x0 x1 x2] [])=some (.ret (.int 0) []))
  (zr:Z prog (.call 343 [.ptr 0 0] [.cells [.dat (.sl w 1 true)]])=some (.ret (.dat (.lit (.int .u64 R))) [.cells [.dat (.sl w 1 true)]])) (zH:Z prog (.call 349 [pgD d x0 x1 x2] [])=some (.ret (.int hw) []))
  (zh:Z prog (.call 109 [.str ⟨#[98,111,111,107]⟩,.dat (.sl [.lit (.int .i64 0),.lit (.int .i64 hw)] 2 true)] [])=some (.ret (.dat (.lit (.int .u64 R))) [])):Z prog (.call 336 [.dat dv] [])=some (.ret (.bool true) []):=by
 subst hq
 have zt:=fun X Y=>qzo hv X Y o c zr zH zh false
 refine qab h rfl ?_
 simp only[ru] at zP zC zK
 simp only[pgD] at zK zA zs zV
 simp -implicitDefEqProofs [F336_t,zS,zN,zP,zC,zK,zA,zs,zV,zt,o,c,Wa]
end
end
end Go.Pm
section
namespace Go.Pm.F
def tB:Nat->Option PFun
 |12=>some F12
 |15=>some F15
 |26=>some F26
 |27=>some F27
 |30=>some F30
 |32=>some F32
 |35=>some F35
 |37=>some F37
 |38=>some F38
 |39=>some F39
 |131=>some F131
 |134=>some F134
 |139=>some F139
 |140=>some F140
 |147=>some F147
 |148=>some F148
 |164=>some F164
 |165=>some F165
 |166=>some F166
 |167=>some F167
 |168=>some F168
 |169=>some F169
 |180=>some F180
 |181=>some F181
 |182=>some F182
 |183=>some F183
 |184=>some F184
 |185=>some F185
 |186=>some F186
 |187=>some F187
 |188=>some F188
 |189=>some F189
 |190=>some F190
 |191=>some F191
 |200=>some F200
 |201=>some F201
 |204=>some F204
 |228=>some F228
 |239=>some F239
 |240=>some F240
 |241=>some F241
 |242=>some F242
 |249=>some F249
 |250=>some F250
 |251=>some F251
 |252=>some F252
 |253=>some F253
 |254=>some F254
 |255=>some F255
 |256=>some F256
 |264=>some F264
 |265=>some F265
 |266=>some F266
 |267=>some F267
 |268=>some F268
 |269=>some F269
 |270=>some F270
 |271=>some F271
 |275=>some F275
 |276=>some F276
 |277=>some F277
 |278=>some F278
 |279=>some F279
 |280=>some F280
 |281=>some F281
 |284=>some F284
 |285=>some F285
 |286=>some F286
 |287=>some F287
 |289=>some F289
 |290=>some F290
 |292=>some F292
 |297=>some F297
 |303=>some F303
 |304=>some F304
 |307=>some F307
 |308=>some F308
 |309=>some F309
 |317=>some F317
 |318=>some F318
 |320=>some F320
 |322=>some F322
 |324=>some F324
 |325=>some F325
 |326=>some F326
 |327=>some F327
 |328=>some F328
 |_=>none
end Go.Pm.F
end
namespace Go.Pm
section
open F
def qmi(l:List Int):D:=match l with
 |[] => .lit (.slice none 0 0)
 |x::r => .sl (intsC (x::r)) ((x::r).length / 2) false
end
section
open F
structure Vr where
 t:Int
 c:D
 a:Int
 b:Int
 e:Int
 one:V.one (.dat c)=true
 cl:V.cells (.dat c)=[.dat c]
def vrC:List Vr->List D
 |[]=>[]
 |v::r => .lit (.int .i64 v.t)::v.c :: .lit (.int .i64 v.a) :: .lit (.int .i64 v.b) :: .lit (.int .i64 v.e)::vrC r
theorem qhQ : ∀ (L:List Vr) (i:Nat),(vrC L).drop (i*5)=vrC (L.drop i)
 |L,0=>by simp
 |[],i+1=>by simp[vrC]
 |v::L,i+1=>by
  rw[show (i+1)*5=i*5+1+1+1+1+1 by omega]
  simp only[vrC,Yu,qhQ L i]
theorem qrW{L:List Vr}{i:Nat}(h:i<L.length):qaj (vrC L) (i*5) 1=some [.lit (.int .i64 L[i].t)]:=by
 unfold qaj
 rw[qhQ,Wy h]
 simp[vrC]
def qie(L:List Vr):S:=if L.length=1 then [.cells [.dat (.sl (vrC L) 1 true)]] else [.cells [.gsl (vrC L) L.length 5 1],.tip (vrC L).length]
theorem qtQ(v:Vr):qie [v]=[.cells [.dat (.sl (vrC [v]) 1 true)]]:=rfl
theorem qtR{L:List Vr}(h:2<=L.length):qie L=[.cells [.gsl (vrC L) L.length 5 1],.tip (vrC L).length]:=if_neg (by omega)
def qAx(prog:Nat->Option PFun)(s:ByteArray)(v:Vr):Prop:=Z prog (.call 322 [.str s] [])=some (.ret (.tup [.dat (.agg [v.c,.lit (.int .i64 v.a),.lit (.int .i64 v.b),.lit (.int .i64 v.e)]),.int 0]) [])
section
variable{prog:Nat->Option PFun}(h7 : ∀ k pf,tB k=some pf->prog k=some pf)
include h7
theorem qAy{s:ByteArray}{v:Vr}(hp:qAx prog s v)(h0:v.t=0):Z prog (.call 317 [.str s] [])=some (.ret (.tup [.ptr 0 0,.int 0]) (qie [v])):=by
 have o:=v.one
 have c:=v.cl
 unfold qAx at hp
 refine qab (h7 317 F317 rfl) rfl ?_
 simp[F317,hp,o,c,h0,qtQ,vrC,Wa]
end
end
section
open F
theorem qgZ : ∀ l:List D,qbD (l.map .dat)=some l
 |[]=>rfl
 |d::l=>by simp[qbD,qgZ l]
theorem qp5{L:List Vr}{i:Nat}(h:i<L.length):qaj (vrC L) (i*5) 5=some [.lit (.int .i64 L[i].t),L[i].c,.lit (.int .i64 L[i].a),.lit (.int .i64 L[i].b),.lit (.int .i64 L[i].e)]:=by
 unfold qaj
 rw[qhQ,Wy h]
 simp[vrC]
end
section
open F
def atB(L:List Vr):S:=if L.length=1 then [.cells [.dat (.sl (vrC L) 1 true)]] else [.cells [.gsl (vrC L) L.length 5 3],.tip (vrC L).length]
def atS(L:List Vr)(tick:Int):S := .cells [.ptr 2 0] :: .cells [.int tick]::atB L
theorem qBL{L:List Vr}(h:2<=L.length):atB L=[.cells [.gsl (vrC L) L.length 5 3],.tip (vrC L).length]:=if_neg (by omega)
theorem qr2(L:List Vr):(∃ C,atB L=[.cells [.dat (.sl C 1 true)]]) \/ ∃ C n m,atB L=[.cells [.gsl C n 5 3],.tip m]:=by
 unfold atB
 split
 ·exact .inl ⟨_,rfl⟩
 ·exact .inr ⟨_,_,_,rfl⟩
abbrev atF:V := .fn 330 [] [.ptr 0 0,.ptr 1 0]
theorem qCf{n:Nat}:qu4 .u64 (n:Int) 1=((n / 2:Nat):Int):=by
 show Int.fdiv _ (2 ^ min (1:Int).toNat IntKind.u64.bits)=_
 rw[Int.fdiv_eq_ediv_of_nonneg _ (by decide)]
 rfl
theorem qr3{L:List Vr}{i:Nat}(h:i<L.length):qaj (vrC L) (i*5+1) 4=some [L[i].c,.lit (.int .i64 L[i].a),.lit (.int .i64 L[i].b),.lit (.int .i64 L[i].e)]:=by
 unfold qaj
 rw[<- List.drop_drop,qhQ,Wy h]
 simp[vrC]
section
variable{prog:Nat->Option PFun}(h29:prog 329=some F329)(h30:prog 330=some F330)
include h30
theorem quL{L:List Vr}{tick:Int}{k:Nat}(hk:k<L.length)(hl:L.length<=1000):Z prog (.call 330 [.int k,.ptr 0 0,.ptr 1 0] (atS L tick))=some (.ret (.bool (decide (tick<L[k].t))) (atS L tick)):=by
 have hc:=qrW hk
 have hlt:(k:Int)<L.length:=by omega
 refine qab h30 rfl ?_
 unfold atS
 by_cases h1:L.length=1
 ·have e:atB L=[.cells [.dat (.sl (vrC L) 1 true)]]:=if_pos h1
  obtain rfl:k=0:=by omega
  rw[e]
  generalize L[0]=v at *
  generalize vrC L=C at *
  simp at hc
  simp[F330,V.len,qae,hc,Wa]
 ·rw[qBL (by omega)]
  generalize L[k]=v at *
  generalize vrC L=C at *
  generalize L.length=n at *
  simp[F330,V.len,qae,hc,hlt,hk,Wa]
omit h30 in
theorem qBM{n:Nat}(h:n<2 ^ 40):IntKind.u64.wrap (n:Int)=n:=by
 have:IntKind.u64.wrap (n:Int)=(n:Int) % 18446744073709551616:=by simp[IntKind.wrap,IntKind.bits,IntKind.signed]
 rw[this]; omega
theorem qez {L:List Vr} {tick:Int} {r:Nat} (hl:L.length<=1000) (hr:r<=L.length) (hlo : ∀ m (h:m<L.length),m<r->L[m].t<=tick) (hhi : ∀ m (h:m<L.length),r<=m->tick<L[m].t) : ∀ (d i j:Nat),j-i<=d->i<=r->r<=j->j<=L.length ->
  ∃ fr,Z prog (.loop (atS L tick).length F329l0 [(1,atF),(5,.int i),(6,.int j)] (atS L tick))=some (.out (.exit 0) ((1,atF)::(5,.int r)::fr) (atS L tick))
 |0,i,j,h,h1,h2,h3=>by
  obtain rfl:i=r:=by omega
  obtain rfl:j=i:=by omega
  refine⟨[(6,.int j),(11,.bool false)],?_⟩
  rw[qaa]
  unfold atS
  rcases qr2 L with ⟨C,e⟩|⟨C,n,m,e⟩
  ·rw[e]; simp[qac,qfE,Wa]
  ·rw[e]; simp[qac,qfE,Wa]
 |d+1,i,j,h,h1,h2,h3=>by
  by_cases hij:i<j
  ·obtain⟨q,hq⟩ : ∃ q,q=(i+j) / 2:=⟨_,rfl⟩
   have hql:q<L.length:=by omega
   have z:=quL h30 (tick:=tick) hql hl
   have w1:IntKind.i64.wrap ((i:Int)+j)=((i+j:Nat):Int):=by rw[qai _ (by omega)]; omega
   have w2:=qBM (n:=i+j) (by omega)
   have w3:qu4 .u64 ((i+j:Nat):Int) 1=(q:Int):=by rw[qCf,hq]
   have w4:IntKind.i64.wrap (q:Int)=q:=qai _ (by omega)
   have w5:IntKind.i64.wrap ((q:Int)+1)=((q+1:Nat):Int):=by rw[qai _ (by omega)]; omega
   have w6:=qBM (n:=q) (by omega)
   have hlt:(i:Int)<j:=by omega
   by_cases hg:tick<L[q].t
   ·have hrq:r<=q:=by
     rcases Yc q r with h4|h4
     ·exact absurd (hlo q hql h4) (by omega)
     ·exact h4
    obtain⟨fr,e⟩:=qez hl hr hlo hhi d i q (by omega) h1 hrq (by omega)
    refine⟨fr,?_⟩
    rw[<- e]
    simp only[hg,decide_true] at z
    conv=>lhs; rw[qaa]
    unfold atS at z ⊢
    generalize ((i+j:Nat):Int)=ij at *
    rcases qr2 L with ⟨C,e⟩|⟨C,n,m,e⟩<;>rw[e] at z ⊢ <;> simp[qac,qfE,hlt,w1,w2,w3,w4,w6,z,Wa]
   ·have hrq:q+1<=r:=by
     rcases Yc q r with h4|h4
     ·exact h4
     ·exact absurd (hhi q hql h4) hg
    obtain⟨fr,e⟩:=qez hl hr hlo hhi d (q+1) j (by omega) hrq h2 h3
    refine⟨fr,?_⟩
    rw[<- e]
    simp only[hg,decide_false] at z
    conv=>lhs; rw[qaa]
    unfold atS at z ⊢
    generalize ((i+j:Nat):Int)=ij at *
    generalize ((q+1:Nat):Int)=q1 at *
    rcases qr2 L with ⟨C,e⟩|⟨C,n,m,e⟩<;>rw[e] at z ⊢ <;> simp[qac,qfE,hlt,w1,w2,w3,w4,w5,w6,z,Wa]
  ·exact qez hl hr hlo hhi d i j (by omega) h1 h2 h3
include h29
theorem qr4 {L:List Vr} {tick:Int} {r:Nat} (hl:L.length<=1000) (hr:r<=L.length) (hlo : ∀ m (h:m<L.length),m<r->L[m].t<=tick) (hhi : ∀ m (h:m<L.length),r<=m->tick<L[m].t) :
  Z prog (.call 329 [.int L.length,atF] (atS L tick))=some (.ret (.int r) (atS L tick)):=by
 obtain⟨fr,z⟩:=qez h30 hl hr hlo hhi L.length 0 L.length (by omega) (by omega) hr (by omega)
 refine qab h29 rfl ?_
 rw[show ((0:Nat):Int)=0 from rfl] at z
 unfold atS at z ⊢
 rcases qr2 L with ⟨C,e⟩|⟨C,n,m,e⟩<;>rw[e] at z ⊢ <;> simp only[Wf,Wm,Nat.reduceAdd] at z<;>simp[F329,z,Wa]
theorem qCg (h23:prog 323=some F323) {L:List Vr} {tick:Int} {r k:Nat} (hl:L.length<=1000) (h0:0<L.length) (hr:r<=L.length) (hlo : ∀ m (h:m<L.length),m<r->L[m].t<=tick) (hhi : ∀ m (h:m<L.length),r<=m->tick<L[m].t)
  (hk:k=r-1) (hkl:k<L.length) (zc:Z prog (.call 331 [.dat L[k].c] [])=some (.ret (.dat L[k].c) [])) :
  Z prog (.call 323 [.ptr 0 0,.int tick] (qie L))=some (.ret (.tup [.int k,.dat (.agg [L[k].c,.lit (.int .i64 L[k].a),.lit (.int .i64 L[k].b),.lit (.int .i64 L[k].e)])]) (qie L)):=by
 have z:=qr4 h29 h30 (tick:=tick) hl hr hlo hhi
 have hc:=qr3 hkl
 have o:=L[k].one
 have c:=L[k].cl
 have w1:IntKind.i64.wrap ((r:Int)-1)=(r:Int)-1:=qai _ (by omega)
 have hmax:(if (r:Int)-1<0 then (0:Int) else (r:Int)-1)=(k:Int):=by split<;>omega
 have hlt:(k:Int)<L.length:=by omega
 refine qab h23 rfl ?_
 unfold atS at z
 by_cases h1:L.length=1
 ·have e:qie L=[.cells [.dat (.sl (vrC L) 1 true)]]:=if_pos h1
  have e':atB L=[.cells [.dat (.sl (vrC L) 1 true)]]:=if_pos h1
  rw[e'] at z
  rw[e]
  obtain rfl:k=0:=by omega
  rw[h1] at z
  clear hlo hhi
  generalize L[0]=v at *
  generalize vrC L=C at *
  rw[show ((1:Nat):Int)=1 from rfl] at z
  rw[show ((0:Nat):Int)=0 from rfl] at hmax
  simp at hc
  simp[F323,V.len,qae,qno,qi8,z,zc,hc,o,c,w1,hmax,Wa]
  done
 ·rw[qBL (by omega)] at z
  rw[qtR (by omega)]
  clear hlo hhi
  generalize L[k]=v at *
  generalize vrC L=C at *
  generalize L.length=n at *
  simp[F323,V.len,qae,qno,qi8,z,zc,hc,o,c,w1,hmax,hlt,hkl,Wa]
  done
end
end
end Go.Pm
section
namespace Go.Pm.F
variable(C:Task->Option Res)(q:Nat)(fr:Fr)(σ : S)
@[simp] def F70l0x:PC:=(.seq (.seq (rn [mv 12 7,mv 13 6,ls 14 13,bn 15 .lss 12 14] [0,1,5,6,7,15]) (.cond (.t 15) (.skip) (.exit 0))) (.seq (.block 1 (rn [mv 18 5,mv 19 6,mv 20 7,jj 21 (.indexAddr 1 (.t 19) (.t 20)),l1 22 21,cl 23 80 [18,22],mv 5 23] [0,1,5,6,7])) (rn [mv 16 7,bk 17 .add 16 1,mv 7 17] [0,1,5,6,7])))
def F70l0:PC:=F70l0x
theorem qlO:run C q F70l0 fr σ = run C q F70l0x fr σ := rfl
@[simp] def F70l1x:PC:=(.seq (.seq (rn [mv 34 8,mv 35 1,ls 36 35,bn 37 .lss 34 36] [1,5,8,37]) (.cond (.t 37) (.skip) (.exit 2))) (.seq (.block 3 (rn [mv 40 5,mv 41 1,mv 42 8,jj 43 (.indexAddr 1 (.t 41) (.t 42)),l1 44 43,jj 45 (.conv (.int .u64) (.t 44)),cl 46 80 [40,45],mv 5 46] [1,5,8])) (rn [mv 38 8,bk 39 .add 38 1,mv 8 39] [1,5,8])))
def F70l1:PC:=F70l1x
theorem qlP:run C q F70l1 fr σ = run C q F70l1x fr σ := rfl
def F70:PFun:=⟨2,[.tmp 4],.seq (rn [jj 4 (.mov (.c (.int .u64 0)))] [0,1]) (.seq (rn [jj 5 (.mov (.c (.int .u64 0)))] [0,1,5]) (.seq (rn [mv 9 0,jj 10 (.bytes (.t 9)),cl 11 79 [10],mv 6 11] [0,1,5,6]) (.seq (.seq (rn [mx 7 (kk 0)] [0,1,5,6,7]) (.block 0 (.loop F70l0))) (.seq (rn [mv 24 5,mv 25 0,lz 26 25,jj 27 (.conv (.int .u64) (.t 26)),cl 28 80 [24,27],mv 5 28] [1,5]) (.seq (rn [mv 29 5,mv 30 1,ls 31 30,jj 32 (.conv (.int .u64) (.t 31)),cl 33 80 [29,32],mv 5 33] [1,5]) (.seq (.seq (rn [mx 8 (kk 0)] [1,5,8]) (.block 2 (.loop F70l1))) (.seq (rn [mv 47 5,jj 48 (.call 80 [(.t 47),(.c (.int .u64 0))]),mv 4 48] [4]) (.ret)))))))),false,false,false⟩
@[simp] def F79l1x:PC:=(.seq (.seq (rn [mv 19 6,mv 20 4,bn 21 .geq 19 20] [0,3,4,5,6,21]) (.cond (.t 21) (.skip) (.exit 2))) (.seq (.block 3 (rn [mv 24 5,jj 25 (.bin .mul (.c (.int .u64 256)) (.t 24)),mv 26 0,mv 27 6,jj 28 (.indexAddr 1 (.t 26) (.t 27)),l1 29 28,jj 30 (.conv (.int .u64) (.t 29)),bn 31 .add 25 30,mv 5 31] [0,3,4,5,6])) (rn [mv 22 6,bk 23 .sub 22 1,mv 6 23] [0,3,4,5,6])))
def F79l1:PC:=F79l1x
@[simp] def F79l0x:PC:=(.seq (.seq (rn [mv 7 4,mv 8 0,ls 9 8,bn 10 .lss 7 9] [0,3,4,10]) (.cond (.t 10) (.skip) (.exit 0))) (.seq (.block 1 (.seq (rn [jj 5 (.mov (.c (.int .u64 0)))] [0,3,4,5]) (.seq (.seq (rn [mv 13 4,bk 14 .add 13 8,mv 15 0,ls 16 15,jj 17 (.min [(.t 14),(.t 16)]),bk 18 .sub 17 1,mv 6 18] [0,3,4,5,6]) (.block 2 (.loop F79l1))) (rn [mv 32 3,mv 33 5,jj 34 (.bslice 1 [(.lit (.int .u64 0))] [(0,1,(.t 33))]),jj 35 (.append 1 8 (.t 32) (.t 34)),mv 3 35] [0,3,4])))) (rn [mv 11 4,bk 12 .add 11 8,mv 4 12] [0,3,4])))
def F79l0:PC:=F79l0x
def F79:PFun:=⟨1,[.tmp 2],.seq (rn [jj 2 (.mov (.c (.slice none 0 0)))] [0]) (.seq (rn [jj 3 (.mov (.c (.slice none 0 0)))] [0,3]) (.seq (.seq (rn [mx 4 (kk 0)] [0,3,4]) (.block 0 (.loop F79l0))) (.seq (rn [mv 36 3,mv 2 36] [2]) (.ret)))),false,false,false⟩
def F80:PFun:=⟨2,[.tmp 4],.seq (rn [jj 4 (.mov (.c (.int .u64 0)))] [0,1]) (.seq (rn [mv 6 0,mv 7 1,bn 8 .xor 6 7,jj 9 (.bin .mul (.t 8) (.c (.int .u64 11400714819323198485))),mv 5 9] [5]) (.seq (rn [mv 10 5,mv 11 5,jj 12 (.bin .quo (.t 11) (.c (.int .u64 4294967296))),bn 13 .xor 10 12,mv 4 13] [4]) (.ret))),false,false,false⟩
@[simp] def F109l0x:PC:=(.seq (rn [bn 15 .lss 14 13] [5,12,13,14,15]) (.seq (.cond (.t 15) (.skip) (.exit 0)) (.seq (.block 1 (.seq (rn [jj 16 (.indexAddr 1 (.t 12) (.t 14)),l1 17 16,mv 7 17] [5,7,12,13,14]) (rn [mv 18 5,mv 19 7,jj 20 (.conv (.int .u64) (.t 19)),cl 21 111 [18,20],mv 5 21] [5,12,13,14]))) (rn [bk 22 .add 14 1,mv 14 22] [5,12,13,14]))))
def F109l0:PC:=F109l0x
theorem qjM:run C q F109l0 fr σ = run C q F109l0x fr σ := rfl
def F109:PFun:=⟨2,[.tmp 4],.seq (rn [jj 4 (.mov (.c (.int .u64 0)))] [0,1]) (.seq (rn [mv 8 0,mv 9 1,ls 10 9,cl 11 110 [8,10],mv 5 11] [1,5]) (.seq (.seq (rn [mv 12 1,ls 13 12,mx 14 (kk 0)] [5,12,13,14]) (.block 0 (.loop F109l0))) (.seq (rn [mv 23 5,jj 24 (.call 111 [(.t 23),(.c (.int .u64 0))]),mv 4 24] [4]) (.ret)))),false,false,false⟩
@[simp] def F110a0x:PC:=(rn [mv 6 9] [5,6])
def F110a0:PC:=F110a0x
@[simp] def F110b0x:PC:=(.block 1 (rn [l1 10 5,mv 11 6,cl 12 111 [10,11],st 1 5 12] []))
def F110b0:PC:=F110b0x
def F110:PFun:=⟨2,[.tmp 4],.seq (rn [jj 4 (.mov (.c (.int .u64 0)))] [0,1]) (.seq (rn [jj 5 (.alloc [(.lit (.int .u64 0))])] [0,1,5]) (.seq (.seq (rn [mv 7 0,cl 8 112 [7]] [0,1,5,8]) (.block 0 (.range (.t 8) [9] F110a0 F110b0))) (.seq (rn [l1 13 5,mv 14 0,lz 15 14,jj 16 (.conv (.int .u64) (.t 15)),cl 17 111 [13,16],mv 18 1,jj 19 (.conv (.int .u64) (.t 18)),cl 20 111 [17,19],mv 4 20] [4]) (.ret)))),false,false,false⟩
def F111:PFun:=⟨2,[.tmp 4],.seq (rn [jj 4 (.mov (.c (.int .u64 0)))] [0,1]) (.seq (rn [mv 6 0,mv 7 1,bn 8 .xor 6 7,jj 9 (.bin .mul (.t 8) (.c (.int .u64 11400714819323198485))),mv 5 9] [5]) (.seq (rn [mv 10 5,mv 11 5,jj 12 (.bin .shr (.t 11) (.c (.int .u64 32))),bn 13 .xor 10 12,mv 4 13] [4]) (.ret))),false,false,false⟩
def F112:PFun:=⟨1,[.tmp 2],.seq (rn [bx 1 0,jj 2 (.mov (.c .nilFunc))] [1]) (.seq (rn [jj 3 (.mkfn 113 [] [(.t 1)]),mv 2 3] [2]) (.ret)),false,false,false⟩
@[simp] def F113l1x:PC:=(.seq (.seq (rn [mv 12 5,bk 13 .lss 12 8,mv 14 13,jt 15 14 (.mov (.t 3)),jt 16 14 (.mov (.t 5)),jt 17 14 (.bin .add (.t 15) (.t 16)),jt 18 14 (.load false 1 (.t 1)),jt 19 14 (.len .str (.t 18)),jt 20 14 (.bin .lss (.t 17) (.t 19)),jj 21 (.pick (.t 14) (.t 20) kF)] [0,1,3,4,5,21]) (.cond (.t 21) (.skip) (.exit 2))) (.seq (.block 3 (rn [mv 24 4,l1 25 1,mv 26 3,mv 27 5,bn 28 .add 26 27,jj 29 (.indexS (.t 25) (.t 28)),jj 30 (.conv (.int .u64) (.t 29)),mv 31 5,jj 32 (.bin .mul (kk 8) (.t 31)),bn 33 .shl 30 32,bn 34 .or 24 33,mv 4 34] [0,1,3,4,5])) (rn [mv 22 5,bk 23 .add 22 1,mv 5 23] [0,1,3,4,5])))
def F113l1:PC:=F113l1x
@[simp] def F113l0x:PC:=(.seq (.seq (rn [mv 6 3,l1 7 1,lz 8 7,bn 9 .lss 6 8] [0,1,3,9]) (.cond (.t 9) (.skip) (.exit 0))) (.seq (.block 1 (.seq (rn [jj 4 (.mov (.c (.int .u64 0)))] [0,1,3,4]) (.seq (.seq (rn [mx 5 (kk 0)] [0,1,3,4,5]) (.block 2 (.loop F113l1))) (.seq (rn [mv 35 0,mv 36 4,jj 37 (.callv (.t 35) [(.t 36)]),jj 38 (.un .not (.t 37))] [0,1,3,38]) (.cond (.t 38) (.ret) (.skip)))))) (rn [mv 10 3,bk 11 .add 10 8,mv 3 11] [0,1,3])))
def F113l0:PC:=F113l0x
def F113:PFun:=⟨2,[],.seq (rn [mx 3 (kk 0)] [0,1,3]) (.block 0 (.loop F113l0)),false,false,false⟩
end Go.Pm.F
end
namespace Go.Pm
section
open F
def qhF(s w:Int):Int:=
 let m:=IntKind.u64.wrap (qoJ .u64 (· ^^^ ·) s w*11400714819323198485)
 qoJ .u64 (· ^^^ ·) m (m.tdiv 4294967296)
theorem qjj(n:Int):0<=IntKind.u64.wrap n/\IntKind.u64.wrap n<18446744073709551616:=by
 have:IntKind.u64.wrap n=n % 18446744073709551616:=by simp[IntKind.wrap,IntKind.bits,IntKind.signed]
 rw[this]; omega
theorem qm0(n:Int)(h:0<=n/\n<18446744073709551616):IntKind.u64.wrap n=n:=by
 have:IntKind.u64.wrap n=n % 18446744073709551616:=by simp[IntKind.wrap,IntKind.bits,IntKind.signed]
 rw[this]; omega
theorem qwY(m:Int)(h:0<=m/\m<18446744073709551616):IntKind.u64.wrap (m.tdiv 4294967296)=m.tdiv 4294967296:=by
 apply qm0
 have:=Int.tdiv_eq_ediv_of_nonneg h.1 (b:=4294967296)
 omega
theorem qzy(m:Int)(h:0<=m/\m<18446744073709551616):qu4 .u64 m 32=m.tdiv 4294967296:=by
 rw[Int.tdiv_eq_ediv_of_nonneg h.1 (b:=4294967296)]
 show Int.fdiv _ (2 ^ min (32:Int).toNat IntKind.u64.bits)=_
 rw[Int.fdiv_eq_ediv_of_nonneg _ (by decide)]
 rfl
def qrn(s w:Int):Int:=IntKind.u64.wrap (qoJ .u64 (· ^^^ ·) s w*11400714819323198485)
theorem qjX(s w:Int):0<=qrn s w/\qrn s w<18446744073709551616:=qjj _
theorem qro(s w:Int):qhF s w=qoJ .u64 (· ^^^ ·) (qrn s w) ((qrn s w).tdiv 4294967296):=by
 unfold qhF qrn
 exact rfl
theorem qkX(a b:Int):qir .xor (.int .u64 a) (.int .u64 b)=some (.int .u64 (qoJ .u64 (· ^^^ ·) a b)):=by simp
theorem qrp(a b:Int):qir .mul (.int .u64 (qoJ .u64 (· ^^^ ·) a b)) (.int .u64 11400714819323198485)=some (.int .u64 (qrn a b)):=by simp[qrn]
theorem qwZ(a b:Int):qir .quo (.int .u64 (qrn a b)) (.int .u64 4294967296)=some (.int .u64 ((qrn a b).tdiv 4294967296)):=by simp[qwY _ (qjX a b)]
theorem qw0(a b:Int):qir .shr (.int .u64 (qrn a b)) (.int .u64 32)=some (.int .u64 ((qrn a b).tdiv 4294967296)):=by simp[qzy _ (qjX a b)]
def F80K(K Q:Int):PFun:=⟨2,[.tmp 4],
 .seq (.region none [⟨some 4,.mov (.c (.int .u64 0)),none,[]⟩] [0,1])
 (.seq (.region none [⟨some 6,.mov (.t 0),none,[]⟩,
  ⟨some 7,.mov (.t 1),none,[]⟩,
  ⟨some 8,.bin .xor (.t 6) (.t 7),none,[]⟩,
  ⟨some 9,.bin .mul (.t 8) (.c (.int .u64 K)),none,[]⟩,
  ⟨some 5,.mov (.t 9),none,[]⟩] [5])
 (.seq (.region none [⟨some 10,.mov (.t 5),none,[]⟩,
  ⟨some 11,.mov (.t 5),none,[]⟩,
  ⟨some 12,.bin .quo (.t 11) (.c (.int .u64 Q)),none,[]⟩,
  ⟨some 13,.bin .xor (.t 10) (.t 12),none,[]⟩,
  ⟨some 4,.mov (.t 13),none,[]⟩] [4])
 (.ret))),false,false,false⟩
theorem qw1 (C:Task->Option Res) {K Q s w x m z y:Int} (h1:qir .xor (.int .u64 s) (.int .u64 w)=some (.int .u64 x)) (h2:qir .mul (.int .u64 x) (.int .u64 K)=some (.int .u64 m)) (h3:qir .quo (.int .u64 m) (.int .u64 Q)=some (.int .u64 z)) (h4:qir .xor (.int .u64 m) (.int .u64 z)=some (.int .u64 y)) :
  qb5 C (F80K K Q) [.dat (.lit (.int .u64 s)),.dat (.lit (.int .u64 w))] []=some (.ret (.dat (.lit (.int .u64 y))) []):=by
 simp[F80K,-qir,h1,h2,h3,h4]
theorem F80_K:F80=F80K 11400714819323198485 4294967296:=rfl
theorem ql0{prog:Nat->Option PFun}(h80:prog 80=some F80)(s w:Int):Z prog (.call 80 [.dat (.lit (.int .u64 s)),.dat (.lit (.int .u64 w))] [])=some (.ret (.dat (.lit (.int .u64 (qhF s w)))) []):=by
 refine qab h80 rfl ?_
 rw[qro,F80_K]
 exact qw1 _ (qkX s w) (qrp s w) (qwZ s w) (qkX _ _)
def F111K(K Q:Int):PFun:=⟨2,[.tmp 4],
 .seq (.region none [⟨some 4,.mov (.c (.int .u64 0)),none,[]⟩] [0,1])
 (.seq (.region none [⟨some 6,.mov (.t 0),none,[]⟩,
  ⟨some 7,.mov (.t 1),none,[]⟩,
  ⟨some 8,.bin .xor (.t 6) (.t 7),none,[]⟩,
  ⟨some 9,.bin .mul (.t 8) (.c (.int .u64 K)),none,[]⟩,
  ⟨some 5,.mov (.t 9),none,[]⟩] [5])
 (.seq (.region none [⟨some 10,.mov (.t 5),none,[]⟩,
  ⟨some 11,.mov (.t 5),none,[]⟩,
  ⟨some 12,.bin .shr (.t 11) (.c (.int .u64 Q)),none,[]⟩,
  ⟨some 13,.bin .xor (.t 10) (.t 12),none,[]⟩,
  ⟨some 4,.mov (.t 13),none,[]⟩] [4])
 (.ret))),false,false,false⟩
theorem qtp (C:Task->Option Res) {K Q s w x m z y:Int} (h1:qir .xor (.int .u64 s) (.int .u64 w)=some (.int .u64 x)) (h2:qir .mul (.int .u64 x) (.int .u64 K)=some (.int .u64 m)) (h3:qir .shr (.int .u64 m) (.int .u64 Q)=some (.int .u64 z)) (h4:qir .xor (.int .u64 m) (.int .u64 z)=some (.int .u64 y)) :
  qb5 C (F111K K Q) [.dat (.lit (.int .u64 s)),.dat (.lit (.int .u64 w))] []=some (.ret (.dat (.lit (.int .u64 y))) []):=by
 simp[F111K,-qir,h1,h2,h3,h4]
theorem F111_K:F111=F111K 11400714819323198485 32:=rfl
theorem qob{prog:Nat->Option PFun}(h111:prog 111=some F111)(s w:Int):Z prog (.call 111 [.dat (.lit (.int .u64 s)),.dat (.lit (.int .u64 w))] [])=some (.ret (.dat (.lit (.int .u64 (qhF s w)))) []):=by
 refine qab h111 rfl ?_
 rw[qro,F111_K]
 exact qtp _ (qkX s w) (qrp s w) (qw0 s w) (qkX _ _)
def foldI(B:Int)(ws:List Int):Int:=ws.foldl (fun s w=>qhF s (IntKind.u64.wrap w)) B
def sumI(B:Int)(ws:List Int):Int:=qhF (foldI B ws) 0
theorem qjY{B:Int}{ws:List Int}{i:Nat}(h:i<ws.length):qhF (foldI B (ws.take i)) (IntKind.u64.wrap ws[i])=foldI B (ws.take (i+1)):=by
 unfold foldI
 rw[WJ h,List.foldl_append]
 rfl
section
variable{prog:Nat->Option PFun}(h111:prog 111=some F111)
include h111
theorem quu {ws:List Int} {B:Int} (f:Bool) (hl:ws.length<=100000) : ∀ (k i:Nat),i+k=ws.length -> ∃ fr,Z prog (.loop 0 F109l0 [(5,.dat (.lit (.int .u64 (foldI B (ws.take i))))),(12,.dat (.sl (intsC ws) ws.length f)),(13,.int ws.length),(14,.int i)] []) =
  some (.out (.exit 0) ((5,.dat (.lit (.int .u64 (foldI B ws))))::fr) [])
 |0,i,h=>by
  obtain rfl:i=ws.length:=by omega
  rw[Yn]
  exact⟨_,by rw[qaa]; simp[qac,qjM,Wa]; rfl⟩
 |k+1,i,h=>by
  have hi:i<ws.length:=by omega
  obtain⟨fr,e⟩:=quu f hl k (i+1) (by omega)
  refine⟨fr,?_⟩
  rw[<- e]
  have m:=qob h111 (foldI B (ws.take i)) (IntKind.u64.wrap ws[i])
  rw[qjY hi] at m
  have hc:qaj (intsC ws) i 1=some [.lit (.int .i64 ws[i])]:=by
   unfold qaj intsC
   rw[<- List.map_drop,Wy hi,Wl]
   rfl
  have w1:IntKind.i64.wrap ((i:Int)+1)=((i+1:Nat):Int):=by rw[qai _ (by omega)]; omega
  have hlt:(i:Int)<ws.length:=by omega
  generalize ((i+1:Nat):Int)=i1 at *
  generalize foldI B (ws.take i)=s0 at *
  generalize foldI B (ws.take (i+1))=s1 at *
  generalize ws[i]=w at *
  generalize intsC ws=C at *
  generalize ws.length=n at *
  conv=>lhs; rw[qaa]
  simp[qac,qjM,V.len,qae,hlt,hi,hc,w1,m,Wa]
theorem qrq (h109:prog 109=some F109) {s:ByteArray} {ws:List Int} {B:Int} {f:Bool} (hl:ws.length<=100000) (hB:Z prog (.call 110 [.str s,.int ws.length] [])=some (.ret (.dat (.lit (.int .u64 B))) [])) :
  Z prog (.call 109 [.str s,.dat (.sl (intsC ws) ws.length f)] [])=some (.ret (.dat (.lit (.int .u64 (sumI B ws)))) []):=by
 obtain⟨fr,e⟩:=quu h111 (B:=B) f hl ws.length 0 (by omega)
 have m:=qob h111 (foldI B ws) 0
 rw[show qhF (foldI B ws) 0=sumI B ws from rfl] at m
 rw[List.take_zero,show foldI B []=B from rfl,show ((0:Nat):Int)=0 from rfl] at e
 refine qab h109 rfl ?_
 generalize foldI B ws=s1 at *
 generalize sumI B ws=s2 at *
 generalize intsC ws=C at *
 generalize ws.length=n at *
 simp[F109,V.len,hB,e,m,Wa]
end
def tH:Nat->Option PFun
 |70=>some F70
 |79=>some F79
 |80=>some F80
 |109=>some F109
 |110=>some F110
 |111=>some F111
 |112=>some F112
 |113=>some F113
 |_=>none
def qtq:ByteArray:=⟨#[98,111,111,107]⟩
def qrU:ByteArray:=⟨#[112,114,111,103,114,97,109]⟩
def qiX(s:ByteArray)(n W:Int):S:=[.loop { fr:=[(0,.str s),(1,.int n),(5,.ptr 2 0),(8,.fn 113 [] [.ptr 1 0])],ps:=[9],assign:=F110a0,body:=F110b0,st:=0,pend:=none },.cells [.str s],.cells [.dat (.lit (.int .u64 W))]]
theorem qoc(n:Int):Z tH (.call 113 [.yld 0,.ptr 1 0] (qiX qtq n 0))=some (.ret (.tup []) (qiX qtq n 17196531580303950166)):=qmh (n:=40) (by kernel_rfl)
theorem qtr(n:Int):Z tH (.call 113 [.yld 0,.ptr 1 0] (qiX qrU n 0))=some (.ret (.tup []) (qiX qrU n (qhF 0 30787916450984560))):=qmh (n:=40) (by kernel_rfl)
theorem qrr:Z tH (.call 79 [.dat (.sl (qek qrU) 7 false)] [])=some (.ret (.dat (.sl [.lit (.int .u64 30787916450984560)] 1 false)) []):=qmh (n:=40) (by kernel_rfl)
section
variable{prog:Nat->Option PFun}(hH : ∀ k pf,tH k=some pf->prog k=some pf)
include hH
theorem qm1 {s:ByteArray} {n W x y:Int} (hw:Z prog (.call 113 [.yld 0,.ptr 1 0] (qiX s n 0))=some (.ret (.tup []) (qiX s n W))) {m:Nat} (hm:s.size=m) (hx:qhF W (IntKind.u64.wrap m)=x) (hy:qhF x (IntKind.u64.wrap n)=y) :
  Z prog (.call 110 [.str s,.int n] [])=some (.ret (.dat (.lit (.int .u64 y))) []):=by
 have z112:Z prog (.call 112 [.str s] [])=some (.ret (.fn 113 [] [.ptr 0 0]) [.cells [.str s]]):=by
  refine qab (hH 112 F112 rfl) rfl ?_
  simp[F112,Wa]
 have m1:=qob (hH 111 F111 rfl) W (IntKind.u64.wrap m)
 have m2:=qob (hH 111 F111 rfl) x (IntKind.u64.wrap n)
 rw[hx] at m1
 rw[hy] at m2
 unfold qiX at hw
 refine qab (hH 110 F110 rfl) rfl ?_
 simp[F110,z112,hw,m1,m2,hm,V.len,Wa]
theorem quv {ws:List Int} {B:Int} {f:Bool} (hl:ws.length<=100000) : ∀ (k i:Nat),i+k=ws.length -> ∃ fr,Z prog (.loop 0 F70l1 [(1,.dat (.sl (intsC ws) ws.length f)),(5,.dat (.lit (.int .u64 (foldI B (ws.take i))))),(8,.int i)] []) =
  some (.out (.exit 2) ((1,.dat (.sl (intsC ws) ws.length f))::(5,.dat (.lit (.int .u64 (foldI B ws))))::fr) [])
 |0,i,h=>by
  obtain rfl:i=ws.length:=by omega
  rw[Yn]
  exact⟨_,by rw[qaa]; simp[qac,qlP,V.len,Wa]; rfl⟩
 |k+1,i,h=>by
  have hi:i<ws.length:=by omega
  obtain⟨fr,e⟩:=quv (f:=f) hl k (i+1) (by omega)
  refine⟨fr,?_⟩
  rw[<- e]
  have m:=ql0 (hH 80 F80 rfl) (foldI B (ws.take i)) (IntKind.u64.wrap ws[i])
  rw[qjY hi] at m
  have hc:qaj (intsC ws) i 1=some [.lit (.int .i64 ws[i])]:=by
   unfold qaj intsC
   rw[<- List.map_drop,Wy hi,Wl]
   rfl
  have w1:IntKind.i64.wrap ((i:Int)+1)=((i+1:Nat):Int):=by rw[qai _ (by omega)]; omega
  have hlt:(i:Int)<ws.length:=by omega
  generalize ((i+1:Nat):Int)=i1 at *
  generalize foldI B (ws.take i)=s0 at *
  generalize foldI B (ws.take (i+1))=s1 at *
  generalize ws[i]=w at *
  generalize intsC ws=C at *
  generalize ws.length=n at *
  conv=>lhs; rw[qaa]
  simp[qac,qlP,V.len,qae,hlt,hi,hc,w1,m,Wa]
theorem quw {s:ByteArray} {ws:List Int} {W x y z:Int} {f:Bool} {m:Nat} (hm:s.size=m) (hmm:m<=100) (hl:ws.length<=100000) (hw:Z prog (.call 79 [.dat (.sl (qek s) m false)] [])=some (.ret (.dat (.sl [.lit (.int .u64 W)] 1 false)) [])) (hz:qhF 0 W=z) (hx:qhF z (IntKind.u64.wrap m)=x) (hy:qhF x (IntKind.u64.wrap ws.length)=y) :
  Z prog (.call 70 [.str s,.dat (.sl (intsC ws) ws.length f)] [])=some (.ret (.dat (.lit (.int .u64 (sumI y ws)))) []):=by
 have m0:=ql0 (hH 80 F80 rfl) 0 W
 have m1:=ql0 (hH 80 F80 rfl) z (IntKind.u64.wrap m)
 have m2:=ql0 (hH 80 F80 rfl) x (IntKind.u64.wrap ws.length)
 have m3:=ql0 (hH 80 F80 rfl) (foldI y ws) 0
 rw[hz] at m0
 rw[hx] at m1
 rw[hy] at m2
 rw[show qhF (foldI y ws) 0=sumI y ws from rfl] at m3
 obtain⟨fr,e⟩:=quv hH (B:=y) (f:=f) hl ws.length 0 (by omega)
 rw[List.take_zero,show foldI y []=y from rfl,show ((0:Nat):Int)=0 from rfl] at e
 refine qab (hH 70 F70 rfl) rfl ?_
 generalize foldI y ws=s1 at *
 generalize sumI y ws=s2 at *
 generalize intsC ws=C at *
 generalize ws.length=n at *
 have e1:Z prog (.loop 0 F70l0 [(0,.str s),(1,.dat (.sl C n f)),(5,.dat (.lit (.int .u64 z))),(6,.dat (.sl [.lit (.int .u64 W)] 1 false)),(7,.int 1)] [])=some (.out (.exit 0) [(0,.str s),(1,.dat (.sl C n f)),(5,.dat (.lit (.int .u64 z))),(6,.dat (.sl [.lit (.int .u64 W)] 1 false)),(7,.int 1),(15,.bool false)] []):=by
  rw[qaa]
  simp[qlO,qac,V.len,Wa]
  done
 have e0:Z prog (.loop 0 F70l0 [(0,.str s),(1,.dat (.sl C n f)),(5,.dat (.lit (.int .u64 0))),(6,.dat (.sl [.lit (.int .u64 W)] 1 false)),(7,.int 0)] [])=some (.out (.exit 0) [(0,.str s),(1,.dat (.sl C n f)),(5,.dat (.lit (.int .u64 z))),(6,.dat (.sl [.lit (.int .u64 W)] 1 false)),(7,.int 1),(15,.bool false)] []):=by
  rw[<- e1]
  conv=>lhs; rw[qaa]
  simp[qlO,qac,V.len,qae,qai,m0,Wa]
  done
 have hm1:(m:Int)<=1099511627776:=by omega
 simp[F70,V.len,qae,hm,hm1,hw,e,e0,m1,m2,m3,Wa]
end
end
section
open F
def hwD(a b e:Int)(l:List Int)(i:Nat):List V:=(intsC ([a,b,e]++l.take (2*i))).map .dat
theorem qvP{a b e:Int}{l:List Int}{i:Nat}(h:2*i<=l.length):(hwD a b e l i).length=3+2*i:=by simp[hwD,intsC]; omega
theorem qvQ{a b e:Int}{l:List Int}{i:Nat}(h:2*i+1<l.length):hwD a b e l i++[.int l[2*i],.int l[2*i+1]]=hwD a b e l (i+1):=by
 have e1:l.take (2*(i+1))=l.take (2*i)++[l[2*i],l[2*i+1]]:=by
  rw[show 2*(i+1)=2*i+1+1 by omega,WJ h,WJ (by omega),Wj]
  rfl
 unfold hwD
 rw[e1]
 simp[intsC]
theorem qnH{l:List Int}{i:Nat}(h:2*i+1<l.length):qaj (intsC l) (i*2) 2=some [.lit (.int .i64 l[2*i]),.lit (.int .i64 l[2*i+1])]:=by
 unfold qaj intsC
 rw[<- List.map_drop,show i*2=2*i by omega,Wy (by omega),Wy h]
 rfl
theorem qh0(a b e:Int)(l:List Int)(i:Nat):qaG (hwD a b e l i)=[]:=by
 have h : ∀ (l:List V),(∀ v∈l,v.locs=[])->qaG l=[]:=by
  intro l
  induction l with
  |nil=>intro _; rfl
  |cons v l ih=>intro h; simp[qaG,h v (by simp),ih fun u hu=>h u (by simp[hu])]
 refine h _ fun v hv=>?_
 obtain⟨x,_,rfl⟩:=W7.1 hv
 rfl
theorem qkE(r:Nat->Nat)(a b e:Int)(l:List Int)(i:Nat):qdV r (hwD a b e l i)=hwD a b e l i:=by
 have h : ∀ (l:List V),(∀ v∈l,v.ren r=v)->qdV r l=l:=by
  intro l
  induction l with
  |nil=>intro _; rfl
  |cons v l ih=>intro h; simp[qdV,h v (by simp),ih fun u hu=>h u (by simp[hu])]
 refine h _ fun v hv=>?_
 obtain⟨x,_,rfl⟩:=W7.1 hv
 rfl
section
variable{prog:Nat->Option PFun}(hH : ∀ k pf,tH k=some pf->prog k=some pf)(h353:prog 353=some F353)
theorem qyG {l:List Int} {n:Nat} {a b e:Int} (hn:l.length=2*n) (hl:n<=10000) : ∀ (k i:Nat),i+k=n -> ∃ fr,Z prog (.loop 0 F353l0 [(3,.own 0 (3+2*i) 1),(17,.dat (.sl (intsC l) n false)),(18,.int n),(19,.int i)] [.vec (hwD a b e l i)]) =
  some (.out (.exit 0) ((3,.own 0 (3+2*n) 1)::fr) [.vec (hwD a b e l n)])
 |0,i,h=>by
  obtain rfl:i=n:=by omega
  have l1:=qh0 a b e l i
  have r1:=fun r=>qkE r a b e l i
  exact⟨_,by rw[qaa]; simp[qac,qgY,V.len,l1,r1,Wa]; rfl⟩
 |k+1,i,h=>by
  have hi:2*i+1<l.length:=by omega
  obtain⟨fr,z⟩:=qyG (a:=a) (b:=b) (e:=e) hn hl k (i+1) (by omega)
  refine⟨fr,?_⟩
  rw[<- z]
  have hc:=qnH hi
  have hw:=qvQ (a:=a) (b:=b) (e:=e) hi
  have w1:IntKind.i64.wrap ((i:Int)+1)=((i+1:Nat):Int):=by rw[qai _ (by omega)]; omega
  have hlt:(i:Int)<n:=by omega
  have hin:i<n:=by omega
  have hl1:=qvP (a:=a) (b:=b) (e:=e) (l:=l) (i:=i) (by omega)
  have l1:=qh0 a b e l i
  have r1:=fun r=>qkE r a b e l i
  have l2:=qh0 a b e l (i+1)
  have r2:=fun r=>qkE r a b e l (i+1)
  have e3:3+2*(i+1)=3+2*i+2:=by omega
  have rm:qay (3+2*i+2) 8:=by simp[qay]; omega
  rw[e3]
  generalize ((i+1:Nat):Int)=i1 at *
  generalize l[2*i]=x at *
  generalize l[2*i+1]=y at *
  generalize hwD a b e l i=W at *
  generalize hwD a b e l (i+1)=W' at *
  generalize intsC l=C at *
  generalize 3+2*i=m at *
  conv=>lhs; rw[qaa]
  simp[qac,qgY,V.len,qae,hlt,hin,hc,w1,hl1,hw,l1,r1,l2,r2,rm,Wa]
  all_goals exact qag (by simp[gcF,l1,l2,r1,r2,Wa])
include hH h353
theorem qsG {l:List Int} {n:Nat} {a b e:Int} (hn:l.length=2*n) (hl:n<=10000) {y:Int} (hy:qhF (qhF (qhF 0 30787916450984560) 7) (IntKind.u64.wrap ((3+2*n:Nat):Int))=y) :
  Z prog (.call 353 [.dat (.agg [qmi l,.lit (.int .i64 a),.lit (.int .i64 b),.lit (.int .i64 e)])] [])=some (.ret (.dat (.lit (.int .u64 (sumI y ([a,b,e]++l))))) []):=by
 have hlen:([a,b,e]++l).length=3+2*n:=by simp; omega
 have z:=qrq (hH 111 F111 rfl) (hH 109 F109 rfl) (f:=false) (s:=qrU) (ws:=[a,b,e]++l) (B:=y) (by omega) (qm1 hH (qhJ hH (qtr _)) (m:=7) rfl rfl (by rw[hlen]; exact hy))
 rw[hlen] at z
 have hd:=qgZ (intsC ([a,b,e]++l))
 have hl1:(intsC ([a,b,e]++l)).length=3+2*n:=by simp[intsC]; omega
 have hone:((intsC ([a,b,e]++l)).all fun d=>V.one (.dat d))=true:=by simp[intsC]
 obtain⟨fr,zl⟩:=qyG (prog:=prog) (a:=a) (b:=b) (e:=e) hn hl n 0 (by omega)
 have l1:=qh0 a b e l n
 have r1:=fun r=>qkE r a b e l n
 have hall:hwD a b e l n=(intsC ([a,b,e]++l)).map .dat:=by unfold hwD; rw[Wz (by omega)]
 have h0:hwD a b e l 0=[.int a,.int b,.int e]:=by simp[hwD,intsC]
 have w1:IntKind.i64.wrap (2*(n:Int))=((2*n:Nat):Int):=by rw[qai _ (by omega)]; omega
 have w2:IntKind.i64.wrap (3+((2*n:Nat):Int))=((3+2*n:Nat):Int):=by rw[qai _ (by omega)]; omega
 have c1:((3+2*n:Nat):Int)<=1099511627776:=by omega
 have c2:(8:Int)*((3+2*n:Nat):Int)<=281474976710656:=by omega
 have c3:(0:Int)<=((3+2*n:Nat):Int):=by omega
 rw[h0,show ((0:Nat):Int)=0 from rfl] at zl
 rw[hall] at zl l1 r1
 refine qab h353 rfl ?_
 unfold qrU at z
 cases l with
 |nil=>
  obtain rfl:n=0:=by simp at hn; omega
  simp only[qmi,intsC,Wq,Wr,Wl,Nat.mul_zero,Yg] at z ⊢
  generalize sumI y [a,b,e]=s1 at *
  have z0:Z prog (.loop 0 F353l0 [(3,.own 0 3 1),(17,.dat (.lit (.slice none 0 0))),(18,.int 0),(19,.int 0)] [.vec [.int a,.int b,.int e]])=some (.out (.exit 0) [(3,.own 0 3 1),(17,.dat (.lit (.slice none 0 0))),(18,.int 0),(19,.int 0),(20,.bool false)] [.vec [.int a,.int b,.int e]]):=by
   rw[qaa]
   simp[qgY,qac,Wa]
  have z1:Z prog (.loop 0 F353l0 [(3,.own 1 3 1),(17,.dat (.lit (.slice none 0 0))),(18,.int 0),(19,.int 0)] [.cells [.dat (.lit (.slice none 0 0)),.int a,.int b,.int e],.vec [.int a,.int b,.int e]])=_:=(qag (by simp[gcF,Wa])).trans z0
  simp[F353,V.len,qae,bound,qai,z,z1,qay,qdy,Wa]
  done
 |cons x l=>
  have hq:(x::l).length / 2=n:=by omega
  simp only[qmi,hq] at zl ⊢
  simp only[Nat.mul_zero,Yg] at zl
  generalize sumI y ([a,b,e]++x::l)=s1 at *
  generalize ((3+2*n:Nat):Int)=mI at *
  generalize 3+2*n=m at *
  generalize ((2*n:Nat):Int)=nI at *
  generalize intsC (x::l)=C at *
  generalize intsC ([a,b,e]++x::l)=C' at *
  have z1:Z prog (.loop 0 F353l0 [(3,.own 1 3 1),(17,.dat (.sl C n false)),(18,.int n),(19,.int 0)] [.cells [.dat (.sl C n false),.int a,.int b,.int e],.vec [.int a,.int b,.int e]])=_:=(qag (by simp[gcF,Wa])).trans zl
  simp[F353,V.len,qae,bound,z1,w1,w2,c1,c2,c3,z,zl,l1,r1,hd,hl1,hone,qay,qdy,Wa]
  done
end
end
end Go.Pm
section
namespace Go.Pm.F
variable(C:Task->Option Res)(q:Nat)(fr:Fr)(σ : S)
@[simp] def F346l0x:PC:=(.seq (.seq (rn [mv 20 5,fa 21 0 2,l1 22 21,ls 23 22,bn 24 .lss 20 23] [2,3,5,24]) (.cond (.t 24) (.skip) (.exit 0))) (.seq (.block 1 (.seq (.region (some []) [fa 27 0 2,l1 28 27,mv 29 5,jj 30 (.indexAddr 2 (.t 28) (.t 29)),la 31 2 30,fa 32 0 3,l1 33 32,mv 34 5,jj 35 (.indexAddr 2 (.t 33) (.t 34)),la 36 2 35,jj 37 (.eqa true [.i,.i] (.t 31) (.t 36))] [2,3,5,37]) (.cond (.t 37) (.seq (rn [mx 4 kF] [4]) (.ret)) (.skip)))) (rn [mv 25 5,bk 26 .add 25 1,mv 5 26] [2,3,5])))
def F346l0:PC:=F346l0x
theorem qgW:run C q F346l0 fr σ = run C q F346l0x fr σ := rfl
def F346:PFun:=⟨2,[.tmp 4],.seq (rn [bx 2 0,bx 3 1,mx 4 kF] [2,3]) (.seq (.seq (rn [fa 6 1 2,la 7 3 6,fa 8 1 3,la 9 3 8,jj 10 (.eqa true [.i,.i,.i] (.t 7) (.t 9)),mv 11 10,jf 12 11 (.fieldAddr 0 (.t 2)),jf 13 11 (.load false 1 (.t 12)),jf 14 11 (.len .sl (.t 13)),jf 15 11 (.fieldAddr 0 (.t 3)),jf 16 11 (.load false 1 (.t 15)),jf 17 11 (.len .sl (.t 16)),jf 18 11 (.bin .neq (.t 14) (.t 17)),jj 19 (.pick (.t 11) kT (.t 18))] [2,3,19]) (.cond (.t 19) (.seq (rn [mx 4 kF] [4]) (.ret)) (.skip))) (.seq (.seq (rn [mx 5 (kk 0)] [2,3,5]) (.block 0 (.loop F346l0))) (.seq (rn [mx 4 kT] [4]) (.ret)))),false,false,false⟩
@[simp] def F349l0x:PC:=(.seq (.seq (rn [mv 15 4,fa 16 0 1,l1 17 16,ls 18 17,bn 19 .lss 15 18] [1,3,4,19]) (.cond (.t 19) (.skip) (.exit 0))) (.seq (.block 1 (.region (some []) [mv 22 3,fa 23 0 1,l1 24 23,mv 25 4,jj 26 (.indexAddr 2 (.t 24) (.t 25)),fa 27 0 26,l1 28 27,jj 29 (.bslice 1 [zN] [(0,1,(.t 28))]),jj 30 (.append 1 8 (.t 22) (.t 29)),fa 31 0 1,⟨some 32,.load false 1 (.t 31),none,[8]⟩,mv 33 4,jj 34 (.indexAddr 2 (.t 32) (.t 33)),fa 35 1 34,⟨some 36,.load false 1 (.t 35),none,[8]⟩,jj 37 (.bslice 1 [zN] [(0,1,(.t 36))]),jj 38 (.append 1 8 (.t 30) (.t 37)),mv 3 38] [1,3,4])) (rn [mv 20 4,bk 21 .add 20 1,mv 4 21] [1,3,4])))
def F349l0:PC:=F349l0x
theorem qfv:run C q F349l0 fr σ = run C q F349l0x fr σ := rfl
def F349:PFun:=⟨1,[.tmp 2],.seq (rn [bx 1 0,mx 2 (kk 0)] [1]) (.seq (rn [fa 5 1 1,jj 6 (.indexAddrA 3 1 (.t 5) (kk 0)),l1 7 6,fa 8 1 1,jj 9 (.indexAddrA 3 1 (.t 8) (kk 1)),l1 10 9,fa 11 1 1,jj 12 (.indexAddrA 3 1 (.t 11) (kk 2)),l1 13 12,jj 14 (.bslice 3 [zN,zN,zN] [(0,1,(.t 7)),(1,1,(.t 10)),(2,1,(.t 13))]),mv 3 14] [1,3]) (.seq (.seq (rn [mx 4 (kk 0)] [1,3,4]) (.block 0 (.loop F349l0))) (.seq (rn [mv 39 3,jj 40 (.call 70 [(.c (.string ⟨#[112,114,111,103,114,97,109]⟩)),(.t 39)]),jj 41 (.conv (.int .i64) (.t 40)),mv 2 41] [2]) (.ret)))),false,false,false⟩
end Go.Pm.F
end
namespace Go.Pm
section
open F
def rwD(a b e:Int)(l:List Int)(i:Nat):List D:=intsC ([a,b,e]++l.take (2*i))
theorem qk2{a b e:Int}{l:List Int}{i:Nat}(h:2*i<=l.length):(rwD a b e l i).length=3+2*i:=by simp[rwD,intsC]; omega
theorem qrK{a b e:Int}{l:List Int}{i:Nat}(h:2*i+1<l.length):rwD a b e l i++[.lit (.int .i64 l[2*i])]++[.lit (.int .i64 l[2*i+1])]=rwD a b e l (i+1):=by
 have e1:l.take (2*(i+1))=l.take (2*i)++[l[2*i],l[2*i+1]]:=by
  rw[show 2*(i+1)=2*i+1+1 by omega,WJ h,WJ (by omega),Wj]
  rfl
 unfold rwD
 rw[e1]
 simp[intsC]
theorem quz{l:List Int}{i:Nat}(h:2*i+1<l.length):qaj (intsC l) (i*2) 1=some [.lit (.int .i64 l[2*i])]:=by
 unfold qaj intsC
 rw[<- List.map_drop,show i*2=2*i by omega,Wy (by omega)]
 rfl
theorem quA{l:List Int}{i:Nat}(h:2*i+1<l.length):qaj (intsC l) (i*2+1) 1=some [.lit (.int .i64 l[2*i+1])]:=by
 unfold qaj intsC
 rw[<- List.map_drop,show i*2=2*i by omega,Wy (by omega)]
 rfl
section
variable{prog:Nat->Option PFun}
theorem qxg {l:List Int} {n i:Nat} {a b e:Int} (hn:l.length=2*n) (hl:n<=10000) (h:i<n) (h0:0<i) :
  Z prog (.loop 0 F349l0 [(1,.ptr 0 0),(3,.gsl (rwD a b e l i) (3+2*i) 1 1),(4,.int i)] [.cells [.dat (.sl (intsC l) n false),.int a,.int b,.int e],.tip (3+2*i)]) =
  Z prog (.loop 0 F349l0 [(1,.ptr 0 0),(3,.gsl (rwD a b e l (i+1)) (3+2*(i+1)) 1 1),(4,.int (i+1:Nat))] [.cells [.dat (.sl (intsC l) n false),.int a,.int b,.int e],.tip (3+2*(i+1))]):=by
 have hi:2*i+1<l.length:=by omega
 have h1:=quz hi
 have h2:=quA hi
 have hw:=qrK (a:=a) (b:=b) (e:=e) hi
 have w1:IntKind.i64.wrap ((i:Int)+1)=((i+1:Nat):Int):=by rw[qai _ (by omega)]; omega
 have hlt:(i:Int)<n:=by omega
 have hl1:=qk2 (a:=a) (b:=b) (e:=e) (l:=l) (i:=i) (by omega)
 have hl2:=qk2 (a:=a) (b:=b) (e:=e) (l:=l) (i:=i+1) (by omega)
 have e3:3+2*(i+1)=3+2*i+1+1:=by omega
 have rm1:qay (3+2*i+1) 8:=by simp[qay]; omega
 have rm2:qay (3+2*i+1+1) 8:=by simp[qay]; omega
 rw[e3] at hl2 ⊢
 generalize ((i+1:Nat):Int)=i1 at *
 generalize l[2*i]=x at *
 generalize l[2*i+1]=y at *
 generalize rwD a b e l i=W at *
 generalize rwD a b e l (i+1)=W' at *
 generalize intsC l=C at *
 generalize 3+2*i=m at *
 subst hw
 conv=>lhs; rw[qaa]
 simp[qac,qfv,V.len,qae,qb1,qlv,hlt,h,h1,h2,w1,hl1,hl2,rm1,rm2,Wa]
theorem qxh {l:List Int} {n:Nat} {a b e:Int} (hn:l.length=2*n) (hl:n<=10000) (h:0<n) :
  Z prog (.loop 0 F349l0 [(1,.ptr 0 0),(3,.dat (.sl (rwD a b e l 0) 3 true)),(4,.int 0)] [.cells [.dat (.sl (intsC l) n false),.int a,.int b,.int e]]) =
  Z prog (.loop 0 F349l0 [(1,.ptr 0 0),(3,.gsl (rwD a b e l 1) 5 1 1),(4,.int 1)] [.cells [.dat (.sl (intsC l) n false),.int a,.int b,.int e],.tip 5]):=by
 have hi:2*0+1<l.length:=by omega
 have h1:=quz hi
 have h2:=quA hi
 have hw:=qrK (a:=a) (b:=b) (e:=e) hi
 have hlt:(0:Int)<n:=by omega
 have hl1:=qk2 (a:=a) (b:=b) (e:=e) (l:=l) (i:=0) (by omega)
 have hl2:=qk2 (a:=a) (b:=b) (e:=e) (l:=l) (i:=1) (by omega)
 simp only[Nat.zero_mul,WO,Nat.mul_zero,Nat.reduceAdd,Nat.mul_one] at h1 h2 hw hl1 hl2
 generalize l[0]=x at *
 generalize l[1]=y at *
 generalize rwD a b e l 0=W at *
 generalize rwD a b e l 1=W' at *
 generalize intsC l=C at *
 subst hw
 conv=>lhs; rw[qaa]
 simp[qac,qfv,V.len,qae,qb1,qlv,qay,qai,hlt,h,h1,h2,hl1,hl2,Wa]
theorem qrL {l:List Int} {n:Nat} {a b e:Int} (hn:l.length=2*n) (hl:n<=10000) : ∀ (k i:Nat),i+k=n->0<i->Z prog (.loop 0 F349l0 [(1,.ptr 0 0),(3,.gsl (rwD a b e l i) (3+2*i) 1 1),(4,.int i)] [.cells [.dat (.sl (intsC l) n false),.int a,.int b,.int e],.tip (3+2*i)]) =
  some (.out (.exit 0) [(1,.ptr 0 0),(3,.gsl (rwD a b e l n) (3+2*n) 1 1),(4,.int n),(19,.bool false)] [.cells [.dat (.sl (intsC l) n false),.int a,.int b,.int e],.tip (3+2*n)])
 |0,i,h,h0=>by
  obtain rfl:i=n:=by omega
  rw[qaa]
  simp[qac,qfv,V.len,Wa]
 |k+1,i,h,h0=>by
  rw[qxg hn hl (by omega) h0]
  exact qrL hn hl k (i+1) (by omega) (by omega)
theorem qxi (hH : ∀ k pf,tH k=some pf->prog k=some pf) (h349:prog 349=some F349) {l:List Int} {n:Nat} {a b e:Int} (hn:l.length=2*n) (hl:n<=10000) {y:Int} (hy:qhF (qhF (qhF 0 30787916450984560) 7) (IntKind.u64.wrap ((3+2*n:Nat):Int))=y) :
  Z prog (.call 349 [.dat (.agg [qmi l,.lit (.int .i64 a),.lit (.int .i64 b),.lit (.int .i64 e)])] [])=some (.ret (.int (IntKind.i64.wrap (sumI y ([a,b,e]++l)))) []):=by
 have hlen:([a,b,e]++l).length=3+2*n:=by simp; omega
 have hw7:Z prog (.call 79 [.dat (.sl (qek qrU) 7 false)] [])=_:=qhJ hH qrr
 cases l with
 |nil=>
  obtain rfl:n=0:=by simp at hn; omega
  have z:=quw hH (s:=qrU) (ws:=[a,b,e]) (y:=y) (f:=true) (m:=7) rfl (by omega) (by simp) hw7 rfl rfl hy
  simp only[qmi,intsC,Wq,Wr,Wl,Nat.mul_zero,Yg,Wf,Wm,WO,Nat.reduceAdd] at z ⊢
  unfold qrU at z
  generalize sumI y [a,b,e]=s1 at *
  have z0:Z prog (.loop 0 F349l0 [(1,.ptr 0 0),(3,.dat (.sl [.lit (.int .i64 a),.lit (.int .i64 b),.lit (.int .i64 e)] 3 true)),(4,.int 0)] [.cells [.dat (.lit (.slice none 0 0)),.int a,.int b,.int e]])=some (.out (.exit 0) [(1,.ptr 0 0),(3,.dat (.sl [.lit (.int .i64 a),.lit (.int .i64 b),.lit (.int .i64 e)] 3 true)),(4,.int 0),(19,.bool false)] [.cells [.dat (.lit (.slice none 0 0)),.int a,.int b,.int e]]):=by
   rw[qaa]
   simp[qfv,qac,V.len,Wa]
  refine qab h349 rfl ?_
  simp[F349,V.len,qae,z,z0,Wa]
  done
 |cons x l=>
  have hn1:0<n:=by simp at hn; omega
  have hq:(x::l).length / 2=n:=by omega
  have z:=quw hH (s:=qrU) (ws:=[a,b,e]++x::l) (y:=y) (f:=false) (m:=7) rfl (by omega) (by omega) hw7 rfl rfl (by rw[hlen]; exact hy)
  rw[hlen] at z
  unfold qrU at z
  have zl:=(qxh (prog:=prog) (a:=a) (b:=b) (e:=e) hn hl hn1).trans (qrL hn hl (n-1) 1 (by omega) (by omega))
  have hall:rwD a b e (x::l) n=intsC ([a,b,e]++x::l):=by unfold rwD; rw[Wz (by omega)]
  have h0:rwD a b e (x::l) 0=[.lit (.int .i64 a),.lit (.int .i64 b),.lit (.int .i64 e)]:=by simp[rwD,intsC]
  rw[hall,h0] at zl
  simp only[qmi,hq] at zl ⊢
  have hl1:(intsC ([a,b,e]++x::l)).length=3+2*n:=by simp[intsC] at hn ⊢; omega
  generalize sumI y ([a,b,e]++x::l)=s1 at *
  generalize 3+2*n=m at *
  generalize intsC (x::l)=C at *
  generalize intsC ([a,b,e]++x::l)=C' at *
  refine qab h349 rfl ?_
  simp[F349,V.len,qae,z,zl,hl1,Wa]
  done
end
end
section
open F
def wdB(H:Vr->Int)(L:List Vr):List Int:=L.flatMap fun v=>[v.t,IntKind.i64.wrap (H v)]
theorem qmA(H:Vr->Int) : ∀ L:List Vr,(wdB H L).length=2*L.length
 |[]=>rfl
 |v::L=>by
  have:=qmA H L
  simp[wdB] at this ⊢
  omega
def bwD(H:Vr->Int)(L:List Vr)(i:Nat):List V:=(intsC (wdB H (L.take i))).map .dat
theorem qp0{H:Vr->Int}{L:List Vr}{i:Nat}(h:i<=L.length):(bwD H L i).length=2*i:=by
 have:=qmA H (L.take i)
 simp[bwD,intsC]
 simp at this
 omega
theorem qp1{H:Vr->Int}{L:List Vr}{i:Nat}(h:i<L.length):bwD H L i++[.int L[i].t,.int (IntKind.i64.wrap (H L[i]))]=bwD H L (i+1):=by
 unfold bwD wdB
 rw[WJ h,List.flatMap_append]
 simp[intsC]
theorem qeE(H:Vr->Int)(L:List Vr)(i:Nat):qaG (bwD H L i)=[]:=by
 have h : ∀ (l:List V),(∀ v∈l,v.locs=[])->qaG l=[]:=by
  intro l
  induction l with
  |nil=>intro _; rfl
  |cons v l ih=>intro h; simp[qaG,h v (by simp),ih fun u hu=>h u (by simp[hu])]
 refine h _ fun v hv=>?_
 obtain⟨x,_,rfl⟩:=W7.1 hv
 rfl
theorem qf0(H:Vr->Int)(r:Nat->Nat)(L:List Vr)(i:Nat):qdV r (bwD H L i)=bwD H L i:=by
 have h : ∀ (l:List V),(∀ v∈l,v.ren r=v)->qdV r l=l:=by
  intro l
  induction l with
  |nil=>intro _; rfl
  |cons v l ih=>intro h; simp[qdV,h v (by simp),ih fun u hu=>h u (by simp[hu])]
 refine h _ fun v hv=>?_
 obtain⟨x,_,rfl⟩:=W7.1 hv
 rfl
section
variable{prog:Nat->Option PFun}
def qmB(prog:Nat->Option PFun)(H:Vr->Int)(v:Vr):Prop:=Z prog (.call 353 [.dat (.agg [v.c,.lit (.int .i64 v.a),.lit (.int .i64 v.b),.lit (.int .i64 v.e)])] [])=some (.ret (.dat (.lit (.int .u64 (H v)))) [])
theorem qvg {H:Vr->Int} {L:List Vr} {i:Nat} (h:i<L.length) (hl:L.length<=1000) (hh:qmB prog H L[i]) (g:Bool) :
  Z prog (.loop 1 F343l0 [(3,.own 1 (2*i) 1),(16,.dat (.sl (vrC L) L.length g)),(17,.int L.length),(18,.int i)] [.cells [.dat (.sl (vrC L) L.length g)],.vec (bwD H L i)]) =
  Z prog (.loop 1 F343l0 [(3,.own 1 (2*(i+1)) 1),(16,.dat (.sl (vrC L) L.length g)),(17,.int L.length),(18,.int (i+1:Nat))] [.cells [.dat (.sl (vrC L) L.length g)],.vec (bwD H L (i+1))]):=by
 have hc:=qp5 h
 have o:=L[i].one
 have c:=L[i].cl
 unfold qmB at hh
 have hs:=qp1 (H:=H) h
 have hw:=qp0 (H:=H) (L:=L) (i:=i) (by omega)
 have w1:IntKind.i64.wrap ((i:Int)+1)=((i+1:Nat):Int):=by rw[qai _ (by omega)]; omega
 have hlt:(i:Int)<L.length:=by omega
 have e3:2*(i+1)=2*i+2:=by omega
 have rm:qay (2*i+2) 8:=by simp[qay]; omega
 have l1:=qeE H L i
 have l2:=qeE H L (i+1)
 have r1:=fun r=>qf0 H r L i
 have r2:=fun r=>qf0 H r L (i+1)
 rw[e3]
 generalize ((i+1:Nat):Int)=i1 at *
 generalize H L[i]=hv at *
 obtain⟨u,hu⟩ : ∃ u,IntKind.i64.wrap hv=u:=⟨_,rfl⟩
 rw[hu] at hs
 generalize L[i]=v at *
 generalize vrC L=C at *
 generalize bwD H L i=W at *
 generalize bwD H L (i+1)=W' at *
 generalize L.length=n at *
 generalize 2*i=m at *
 conv=>lhs; rw[qaa]
 simp[qac,qfw,V.len,qae,hlt,h,hc,hh,hu,o,c,hw,hs,w1,rm,l1,l2,r1,r2,Wa]
 all_goals exact qag (by simp[gcF,l1,l2,r1,r2,Wa])
theorem qvh {H:Vr->Int} {L:List Vr} {i:Nat} (h:i<L.length) (hl:L.length<=1000) (hh:qmB prog H L[i]) (m0:Nat) :
  Z prog (.loop 2 F343l0 [(3,.own 2 (2*i) 1),(16,.gsl (vrC L) L.length 5 1),(17,.int L.length),(18,.int i)] [.cells [.gsl (vrC L) L.length 5 1],.tip m0,.vec (bwD H L i)]) =
  Z prog (.loop 2 F343l0 [(3,.own 2 (2*(i+1)) 1),(16,.gsl (vrC L) L.length 5 1),(17,.int L.length),(18,.int (i+1:Nat))] [.cells [.gsl (vrC L) L.length 5 1],.tip m0,.vec (bwD H L (i+1))]):=by
 have hc:=qp5 h
 have o:=L[i].one
 have c:=L[i].cl
 unfold qmB at hh
 have hs:=qp1 (H:=H) h
 have hw:=qp0 (H:=H) (L:=L) (i:=i) (by omega)
 have w1:IntKind.i64.wrap ((i:Int)+1)=((i+1:Nat):Int):=by rw[qai _ (by omega)]; omega
 have hlt:(i:Int)<L.length:=by omega
 have e3:2*(i+1)=2*i+2:=by omega
 have rm:qay (2*i+2) 8:=by simp[qay]; omega
 have l1:=qeE H L i
 have l2:=qeE H L (i+1)
 have r1:=fun r=>qf0 H r L i
 have r2:=fun r=>qf0 H r L (i+1)
 rw[e3]
 generalize ((i+1:Nat):Int)=i1 at *
 generalize H L[i]=hv at *
 obtain⟨u,hu⟩ : ∃ u,IntKind.i64.wrap hv=u:=⟨_,rfl⟩
 rw[hu] at hs
 generalize L[i]=v at *
 generalize vrC L=C at *
 generalize bwD H L i=W at *
 generalize bwD H L (i+1)=W' at *
 generalize L.length=n at *
 generalize 2*i=m at *
 conv=>lhs; rw[qaa]
 simp[qac,qfw,V.len,qae,hlt,h,hc,hh,hu,o,c,hw,hs,w1,rm,l1,l2,r1,r2,Wa]
 all_goals exact qag (by simp[gcF,l1,l2,r1,r2,Wa])
theorem qp2 {H:Vr->Int} {L:List Vr} (hl:L.length<=1000) (hh : ∀ i (h:i<L.length),qmB prog H L[i]) (g:Bool) : ∀ (k i:Nat),i+k=L.length->Z prog (.loop 1 F343l0 [(3,.own 1 (2*i) 1),(16,.dat (.sl (vrC L) L.length g)),(17,.int L.length),(18,.int i)] [.cells [.dat (.sl (vrC L) L.length g)],.vec (bwD H L i)]) =
  some (.out (.exit 0) [(3,.own 1 (2*L.length) 1),(16,.dat (.sl (vrC L) L.length g)),(17,.int L.length),(18,.int L.length),(19,.bool false)] [.cells [.dat (.sl (vrC L) L.length g)],.vec (bwD H L L.length)])
 |0,i,h=>by
  obtain rfl:i=L.length:=by omega
  have l1:=qeE H L L.length
  have r1:=fun r=>qf0 H r L L.length
  rw[qaa]
  simp[qac,qfw,l1,r1,Wa]
 |k+1,i,h=>by
  rw[qvg (by omega) hl (hh i (by omega))]
  exact qp2 hl hh g k (i+1) (by omega)
theorem qp3 {H:Vr->Int} {L:List Vr} (hl:L.length<=1000) (hh : ∀ i (h:i<L.length),qmB prog H L[i]) (m0:Nat) : ∀ (k i:Nat),i+k=L.length->Z prog (.loop 2 F343l0 [(3,.own 2 (2*i) 1),(16,.gsl (vrC L) L.length 5 1),(17,.int L.length),(18,.int i)] [.cells [.gsl (vrC L) L.length 5 1],.tip m0,.vec (bwD H L i)]) =
  some (.out (.exit 0) [(3,.own 2 (2*L.length) 1),(16,.gsl (vrC L) L.length 5 1),(17,.int L.length),(18,.int L.length),(19,.bool false)] [.cells [.gsl (vrC L) L.length 5 1],.tip m0,.vec (bwD H L L.length)])
 |0,i,h=>by
  obtain rfl:i=L.length:=by omega
  have l1:=qeE H L L.length
  have r1:=fun r=>qf0 H r L L.length
  rw[qaa]
  simp[qac,qfw,l1,r1,Wa]
 |k+1,i,h=>by
  rw[qvh (by omega) hl (hh i (by omega))]
  exact qp3 hl hh m0 k (i+1) (by omega)
theorem qyh (hH : ∀ k pf,tH k=some pf->prog k=some pf) (h343:prog 343=some F343) {H:Vr->Int} {L:List Vr} (h0:0<L.length) (hl:L.length<=1000) (hh : ∀ i (h:i<L.length),qmB prog H L[i]) {y:Int} (hy:qhF (qhF 17196531580303950166 4) (IntKind.u64.wrap ((2*L.length:Nat):Int))=y) :
  Z prog (.call 343 [.ptr 0 0] (qie L))=some (.ret (.dat (.lit (.int .u64 (sumI y (wdB H L))))) (qie L)):=by
 have hlen:=qmA H L
 have z:=qrq (hH 111 F111 rfl) (hH 109 F109 rfl) (f:=false) (s:=qtq) (ws:=wdB H L) (B:=y) (by omega) (qm1 hH (qhJ hH (qoc _)) (m:=4) rfl rfl (by rw[hlen]; exact hy))
 rw[hlen] at z
 unfold qtq at z
 have hd:=qgZ (intsC (wdB H L))
 have hl1:(intsC (wdB H L)).length=2*L.length:=by simp[intsC,hlen]
 have hone:((intsC (wdB H L)).all fun d=>V.one (.dat d))=true:=by simp[intsC]
 have hall:bwD H L L.length=(intsC (wdB H L)).map .dat:=by unfold bwD; rw[Yn]
 have hz:bwD H L 0=[]:=rfl
 have l1:=qeE H L L.length
 have r1:=fun r=>qf0 H r L L.length
 have w1:IntKind.i64.wrap (2*(L.length:Int))=((2*L.length:Nat):Int):=by rw[qai _ (by omega)]; omega
 have c1:((2*L.length:Nat):Int)<=1099511627776:=by omega
 have c2:(8:Int)*((2*L.length:Nat):Int)<=281474976710656:=by omega
 have c3:(0:Int)<=((2*L.length:Nat):Int):=by omega
 rw[hall] at l1 r1
 refine qab h343 rfl ?_
 by_cases h1:L.length=1
 ·have e:qie L=[.cells [.dat (.sl (vrC L) 1 true)]]:=if_pos h1
  have zl:=qp2 hl hh true L.length 0 (by omega)
  rw[hz,hall,show ((0:Nat):Int)=0 from rfl] at zl
  rw[e]
  simp only[h1,Nat.mul_one,Nat.mul_zero,show ((1:Nat):Int)=1 from rfl,show ((2:Nat):Int)=2 from rfl] at z zl hl1
  generalize sumI y (wdB H L)=s1 at *
  generalize intsC (wdB H L)=C' at *
  generalize vrC L=C at *
  simp[F343,V.len,qae,qai,z,zl,l1,r1,hd,hl1,hone,qay,qdy,Wa]
  done
 ·have zl:=qp3 hl hh (vrC L).length L.length 0 (by omega)
  rw[hz,hall,show ((0:Nat):Int)=0 from rfl,Nat.mul_zero] at zl
  rw[qtR (by omega)]
  clear hh
  generalize sumI y (wdB H L)=s1 at *
  generalize intsC (wdB H L)=C' at *
  generalize vrC L=C at *
  generalize ((2*L.length:Nat):Int)=mI at *
  generalize 2*L.length=m at *
  generalize L.length=n at *
  simp[F343,V.len,qae,w1,c1,c2,c3,z,zl,l1,r1,hd,hl1,hone,qay,qdy,Wa]
  done
end
end
section
open F
section
variable{prog:Nat->Option PFun}
theorem quF(h331:prog 331=some F331){l:List Int}{n:Nat}(hn:l.length=2*n)(hl:n<=10000):Z prog (.call 331 [.dat (qmi l)] [])=some (.ret (.dat (qmi l)) []):=by
 refine qab h331 rfl ?_
 cases l with
 |nil=>simp[F331,qmi,V.len,Wa]
 |cons x l=>
  have hq:(x::l).length / 2=n:=by omega
  have h0:0<n:=by simp at hn; omega
  have hl1:(intsC (x::l)).length=n*2:=by simp[intsC] at hn ⊢; omega
  have hn0:n≠0:=by omega
  have rm:qay n 16:=by simp[qay]; omega
  have hone:((intsC (x::l)).all fun d=>V.one (.dat d))=true:=by simp[intsC]
  simp only[qmi,hq]
  generalize intsC (x::l)=C at *
  simp[F331,V.len,qb1,qlv,rm,hn0,hl1,hone,Wa]
  done
theorem qtS {l:List Int} {n:Nat} {a b e:Int} (hn:l.length=2*n) (hl:n<=10000) : ∀ (k i:Nat),i+k=n->Z prog (.loop 0 F346l0 [(2,.ptr 0 0),(3,.ptr 1 0),(5,.int i)] [.cells [.dat (.sl (intsC l) n false),.int a,.int b,.int e],.cells [.dat (.sl (intsC l) n false),.int a,.int b,.int e]]) =
  some (.out (.exit 0) [(2,.ptr 0 0),(3,.ptr 1 0),(5,.int n),(24,.bool false)] [.cells [.dat (.sl (intsC l) n false),.int a,.int b,.int e],.cells [.dat (.sl (intsC l) n false),.int a,.int b,.int e]])
 |0,i,h=>by
  obtain rfl:i=n:=by omega
  rw[qaa]
  simp[qac,qgW,V.len,Wa]
 |k+1,i,h=>by
  rw[<- qtS hn hl k (i+1) (by omega)]
  have hc:=qnH (l:=l) (i:=i) (by omega)
  have w1:IntKind.i64.wrap ((i:Int)+1)=((i+1:Nat):Int):=by rw[qai _ (by omega)]; omega
  have hlt:(i:Int)<n:=by omega
  have hin:i<n:=by omega
  have hi:2*i+1<l.length:=by omega
  generalize ((i+1:Nat):Int)=i1 at *
  generalize l[2*i]=x at *
  generalize l[2*i+1]=y at *
  generalize intsC l=C at *
  conv=>lhs; rw[qaa]
  simp[qac,qgW,V.len,qae,hlt,hin,hc,w1,Wa]
  done
theorem qxI (h346:prog 346=some F346) {l:List Int} {n:Nat} {a b e:Int} (hn:l.length=2*n) (hl:n<=10000) :
  Z prog (.call 346 [.dat (.agg [qmi l,.lit (.int .i64 a),.lit (.int .i64 b),.lit (.int .i64 e)]),.dat (.agg [qmi l,.lit (.int .i64 a),.lit (.int .i64 b),.lit (.int .i64 e)])] [])=some (.ret (.bool true) []):=by
 refine qab h346 rfl ?_
 cases l with
 |nil=>
  have z0:Z prog (.loop 0 F346l0 [(2,.ptr 0 0),(3,.ptr 1 0),(5,.int 0)] [.cells [.dat (.lit (.slice none 0 0)),.int a,.int b,.int e],.cells [.dat (.lit (.slice none 0 0)),.int a,.int b,.int e]])=some (.out (.exit 0) [(2,.ptr 0 0),(3,.ptr 1 0),(5,.int 0),(24,.bool false)] [.cells [.dat (.lit (.slice none 0 0)),.int a,.int b,.int e],.cells [.dat (.lit (.slice none 0 0)),.int a,.int b,.int e]]):=by
   rw[qaa]
   simp[qgW,qac,V.len,Wa]
  simp[F346,qmi,V.len,z0,Wa]
  done
 |cons x l=>
  have hq:(x::l).length / 2=n:=by omega
  have zl:=qtS (prog:=prog) (a:=a) (b:=b) (e:=e) hn hl n 0 (by omega)
  rw[show ((0:Nat):Int)=0 from rfl] at zl
  simp only[qmi,hq]
  generalize intsC (x::l)=C at *
  simp[F346,V.len,zl,Wa]
  done
end
end
section
open Gr
section
variable{C:Int->Cd}{n:Nat}{D:Nat->Int}
theorem qo8(g:Hg C n D){e m:Int}(h0:0<=e)(h1:e<n)(hD:D e.toNat=0)(hm:DepIs (C 0) e m):qhN (C 0) e=decide (m<=16):=by
 have hcf:=g.cf (e:=e.toNat) (by omega) hD
 have hmm:=hm.2 h0 D hcf
 unfold qhN
 rw[Bool.eq_iff_iff]
 simp only[decide_eq_true_eq]
 constructor
 ·rintro ⟨D',m',c',k',l'⟩
  have:=Most.unique (Most.of_eq c' hcf k') hmm
  omega
 ·exact fun h=>⟨D,m,hcf,hmm,h⟩
theorem qmX(g:Hg C n D){e:Int}(h0:0<=e)(h1:e<n):qdM (C 0) e=false:=by
 unfold qdM
 rw[Bool.eq_false_iff]
 simp only[ne_eq,decide_eq_true_eq]
 exact g.nofall (by omega)
theorem qlY (g:Hg C n D) (hn:n<=400) {e0 e1 e2 m0 m1 m2:Int} (p0:e0 = -1\/(0<=e0/\e0<n/\D e0.toNat=0)) (p1:e1 = -1\/(0<=e1/\e1<n/\D e1.toNat=0)) (p2:e2 = -1\/(0<=e2/\e2<n/\D e2.toNat=0))
  (d0:DepIs (C 0) e0 m0) (d1:DepIs (C 0) e1 m1) (d2:DepIs (C 0) e2 m2) (h0:m0<=16) (h1:m1<=16) (h2:m2<=16):qiv (C 0) e0 e1 e2=0:=by
 have hl:=g.ln 0
 have key : ∀ e m:Int,(e = -1\/(0<=e/\e<n/\D e.toNat=0))->DepIs (C 0) e m->m<=16->okE (C 0) e=true /\ ∀ r,qpx (C 0) (e::r) 0=qpx (C 0) r 0:=fun e m p d h=>by
  rcases p with rfl|⟨x,y,z⟩
  ·refine⟨by unfold okE; simp; omega,fun r=>by rw[qe4,if_pos (by omega)]⟩
  ·refine⟨by unfold okE; simp; omega,fun r=>?_⟩
   rw[qe4,if_neg (by omega),qmX g x y,qo8 g x y z d,decide_eq_true h]
   simp
 obtain⟨a0,b0⟩:=key e0 m0 p0 d0 h0
 obtain⟨a1,b1⟩:=key e1 m1 p1 d1 h1
 obtain⟨a2,b2⟩:=key e2 m2 p2 d2 h2
 unfold qiv
 rw[if_neg (by omega),if_pos (by rw[g.okC,a0,a1,a2]; rfl),b0,b1,b2]
 rfl
end
structure Sl(C:Int->Cd)(n:Nat)(k M:Int)(D:Nat->Int):Prop where
 ln:Ln C n
 op : ∀ p i,i<n->opA (C p) i≠18/\opA (C p) i≠19/\opA (C p) i≠21
 beg:D 0=0
 fin:D n=k
 step : ∀ p i,i<n->D (i+1)=D i+(qd7 (opA (C p) i)-qfL (opA (C p) i))
 le : ∀ i,i<n->D (i+1)<=M
 at_ : ∃ i,i<n/\D (i+1)=M
end
section
open F
def qcJ:List (Value × V):=[(.string ⟨#[43]⟩,.dat (.agg [.lit (.int .i64 1),.lit (.int .i64 1)])),(.string ⟨#[45]⟩,.dat (.agg [.lit (.int .i64 1),.lit (.int .i64 1)])),(.string ⟨#[42]⟩,.dat (.agg [.lit (.int .i64 1),.lit (.int .i64 1)])),(.string ⟨#[47]⟩,.dat (.agg [.lit (.int .i64 1),.lit (.int .i64 1)])),
 (.string ⟨#[60]⟩,.dat (.agg [.lit (.int .i64 1),.lit (.int .i64 2)])),(.string ⟨#[60,61]⟩,.dat (.agg [.lit (.int .i64 1),.lit (.int .i64 2)])),(.string ⟨#[62]⟩,.dat (.agg [.lit (.int .i64 1),.lit (.int .i64 2)])),(.string ⟨#[62,61]⟩,.dat (.agg [.lit (.int .i64 1),.lit (.int .i64 2)])),
 (.string ⟨#[61,61]⟩,.dat (.agg [.lit (.int .i64 1),.lit (.int .i64 2)])),(.string ⟨#[33,61]⟩,.dat (.agg [.lit (.int .i64 1),.lit (.int .i64 2)])),(.string ⟨#[38,38]⟩,.dat (.agg [.lit (.int .i64 2),.lit (.int .i64 2)])),(.string ⟨#[124,124]⟩,.dat (.agg [.lit (.int .i64 2),.lit (.int .i64 2)]))]
@[simp] theorem qz0:qhL qcJ=[]:=rfl
@[simp] theorem qAT(r:Nat->Nat):qr9 r qcJ=qcJ:=rfl
theorem qe2:Z qaN (.call 26 [] [])=some (.ret (.agg [.mp 0]) [.map qcJ]):=qmh (n:=2) (by kernel_rfl)
def qz1(o:Bop):V := .dat (.agg [.lit (.int .i64 o.opd),.lit (.int .i64 o.res)])
theorem qsh(o:Bop):qem .s (.string o.str) qcJ=some (some (qz1 o)):=by cases o<;>kernel_rfl
theorem qgX (k n:Int) (s:ByteArray) (f:Bool) (e:E) :
  Z qaN (.call 35 [.dat (.agg [.lit (.int .i64 k),.lit (.int .i64 n),.lit (.string s),.sl [.lit (.int .i64 e.kind),.lit (.int .i64 e.num),.lit (.string e.str),e.kids] 1 f])] [])=some (.ret (.tup [e.node,qw3]) []):=by
 refine qab (pf:=F35) rfl rfl ?_
 simp[F35,V.len,qae]
theorem qmC (k n:Int) (s:ByteArray) (f:Bool) (a b:E) :
  Z qaN (.call 35 [.dat (.agg [.lit (.int .i64 k),.lit (.int .i64 n),.lit (.string s),.sl [.lit (.int .i64 a.kind),.lit (.int .i64 a.num),.lit (.string a.str),a.kids,.lit (.int .i64 b.kind),.lit (.int .i64 b.num),.lit (.string b.str),b.kids] 2 f])] [])=some (.ret (.tup [a.node,b.node]) []):=by
 refine qab (pf:=F35) rfl rfl ?_
 simp[F35,V.len,qae]
theorem qhW(k n:Int)(s:ByteArray):Z qaN (.call 35 [.dat (.agg [.lit (.int .i64 k),.lit (.int .i64 n),.lit (.string s),.lit (.slice none 0 0)])] [])=some (.ret (.tup [qw3,qw3]) []):=by
 refine qab (pf:=F35) rfl rfl ?_
 simp[F35,V.len]
@[simp] theorem qBS:eqS ⟨#[33]⟩ ⟨#[45]⟩=false:=by kernel_rfl
@[simp] theorem qBT:eqS ⟨#[45]⟩ ⟨#[45]⟩=true:=by kernel_rfl
@[simp] theorem qBU:ustr true=⟨#[45]⟩:=rfl
@[simp] theorem qBV:ustr false=⟨#[33]⟩:=rfl
section
variable{e a b:E}{f:Bool}{s:ByteArray}
theorem qvi (ih:Z qaN (.call 27 [.agg [.mp 0],e.node] [.map qcJ])=some (.ret (.int e.ty) [.map qcJ])) :
  Z qaN (.call 27 [.agg [.mp 0],(E.field f s e).node] [.map qcJ])=some (.ret (.int (E.field f s e).ty) [.map qcJ]):=by
 refine qab (pf:=F27) rfl rfl ?_
 by_cases h:e.ty=1
 ·simp[F27,qgX,ih,h]
 ·simp[F27,qgX,ih,h]
theorem qCh (neg:Bool) (ih:Z qaN (.call 27 [.agg [.mp 0],e.node] [.map qcJ])=some (.ret (.int e.ty) [.map qcJ])) :
  Z qaN (.call 27 [.agg [.mp 0],(E.un f neg e).node] [.map qcJ])=some (.ret (.int (E.un f neg e).ty) [.map qcJ]):=by
 refine qab (pf:=F27) rfl rfl ?_
 cases neg
 ·by_cases h:e.ty=2
  ·simp[F27,qgX,ih,h]
  ·simp[F27,qgX,ih,h]
 ·by_cases h:e.ty=1
  ·simp[F27,qgX,ih,h]
  ·simp[F27,qgX,ih,h]
set_option maxHeartbeats 1000000 in
theorem qAU (o:Bop) (iha:Z qaN (.call 27 [.agg [.mp 0],a.node] [.map qcJ])=some (.ret (.int a.ty) [.map qcJ])) (ihb:Z qaN (.call 27 [.agg [.mp 0],b.node] [.map qcJ])=some (.ret (.int b.ty) [.map qcJ])) :
  Z qaN (.call 27 [.agg [.mp 0],(E.bin f o a b).node] [.map qcJ])=some (.ret (.int (E.bin f o a b).ty) [.map qcJ]):=by
 have hf:=qsh o
 refine qab (pf:=F27) rfl rfl ?_
 by_cases h:a.ty=o.opd
 ·by_cases h':b.ty=o.opd
  ·simp[F27,qmC,iha,ihb,h,h',hf,qz1,qd6]
  ·simp[F27,qmC,iha,ihb,h,h',hf,qz1,qd6]
 ·simp[F27,qmC,iha,ihb,h,hf,qz1,qd6]
theorem qc1 : ∀ e:E,Z qaN (.call 27 [.agg [.mp 0],e.node] [.map qcJ])=some (.ret (.int e.ty) [.map qcJ])
 |.int n=>by
  refine qab (pf:=F27) rfl rfl ?_
  simp[F27,qhW]
 |.bool n=>by
  refine qab (pf:=F27) rfl rfl ?_
  simp[F27,qhW]
 |.var s=>by
  refine qab (pf:=F27) rfl rfl ?_
  simp[F27,qhW]
 |.name s=>by
  refine qab (pf:=F27) rfl rfl ?_
  simp[F27,qhW]
 |.field f s e=>qvi (qc1 e)
 |.un f neg e=>qCh neg (qc1 e)
 |.bin f o a b=>qAU o (qc1 a) (qc1 b)
end
end
section
open F
@[simp] theorem qz4:eqS ⟨#[33]⟩ ⟨#[33]⟩=true:=by kernel_rfl
@[simp] theorem qz5:eqS ⟨#[45]⟩ ⟨#[33]⟩=false:=by kernel_rfl
attribute [local simp] qac qaa V.len qae
section
variable{e a b:E}{f:Bool}{s:ByteArray}
set_option maxHeartbeats 1000000 in
end
end
section
open F
theorem qj5(k n:Int)(s:ByteArray)(f:Bool)(ks:Fo):Z qaN (.call 35 [nd k n s f ks] [])=some (.ret (.tup [ks.hd,ks.tl.hd]) []):=by
 refine qab (pf:=F35) rfl rfl ?_
 cases ks with
 |nil=>simp[F35,V.len,Fo.hk,Fo.hn,Fo.hs,Fo.hf,Fo.hks,Fo.tl]
 |cons k1 n1 s1 f1 ks1 r=>cases r with
  |nil=>simp[F35,V.len,qae,Fo.hk,Fo.hn,Fo.hs,Fo.hf,Fo.hks,Fo.tl]
  |cons k2 n2 s2 f2 ks2 r=>
   have h:(1:Int)<(r.len:Int)+1+1:=by omega
   have h':(0:Int)<(r.len:Int)+1+1:=by omega
   have h0:0<r.len+1+1:=by omega
   have h1:1<r.len+1+1:=by omega
   simp[F35,V.len,qae,Fo.hk,Fo.hn,Fo.hs,Fo.hf,Fo.hks,Fo.tl,h,h',h0,h1]
section
abbrev qma(i:Nat)(N:Nat)(s:D):Fr:=[(2,.ptr 1 0),(7,.dat s),(8,.int N),(9,.int i)]
def qtG(N:Nat)(s:D)(b:Bool)(g:Ob):Option Res:=
 some (if b then .out (.exit 0) [(2,.ptr 1 0),(7,.dat s),(8,.int N),(9,.int N),(10,.bool false)] [.map qcJ,.cells [.mp 0]]
  else .out .ret [(4,.bool false)] [.map qcJ,.cells [.mp 0],g])
theorem qrI(N:Nat)(s:D) : ∃ g,Z qaN (.loop 1 F37l0 (qma N N s) [.map qcJ,.cells [.mp 0]])=qtG N s true g:=by
 refine⟨.tip 0,?_⟩
 rw[qaa]
 simp[qac,qh9,qtG]
theorem qfI {k n:Int} {s:ByteArray} {f:Bool} {ks:Fo} {w wr:Bool} (hw:Z qaN (.call 30 [.agg [.mp 0],nd k n s f ks] [.map qcJ])=some (.ret (.bool w) [.map qcJ]))
  {i N:Nat} {cs r:List D} {fl:Bool} (hc:cs.drop (i*4) = .lit (.int .i64 k) :: .lit (.int .i64 n) :: .lit (.string s)::kd f ks.len ks.cells::r) (hi:i<N) (hN:N<2^40)
  (ih:w=true -> ∃ g,Z qaN (.loop 1 F37l0 (qma (i+1) N (.sl cs N fl)) [.map qcJ,.cells [.mp 0]])=qtG N (.sl cs N fl) wr g) :
  ∃ g,Z qaN (.loop 1 F37l0 (qma i N (.sl cs N fl)) [.map qcJ,.cells [.mp 0]])=qtG N (.sl cs N fl) (w&&wr) g:=by
 have h4:=qzF hc
 have w1:=qai ((i:Int)+1) (by omega)
 have hi':(i:Int)<N:=by omega
 cases w with
 |true=>
  obtain⟨g,hg⟩:=ih rfl
  refine⟨g,?_⟩
  rw[qaa]
  rw[Bool.true_and,<- hg]
  simp[qac,qh9,hi,hi',qae,h4,hw,w1]
  exact qag (by simp[qma])
 |false=>
  refine⟨.cells [.int k,.int n,.str s,.dat (kd f ks.len ks.cells)],?_⟩
  rw[qaa]
  simp[qac,qh9,hi,hi',qae,h4,hw,w1,qtG]
theorem qge {N:Nat} {cs:List D} {f:Bool} {b:Bool} (h : ∃ g,Z qaN (.loop 1 F37l0 (qma 0 N (.sl cs N f)) [.map qcJ,.cells [.mp 0]])=qtG N (.sl cs N f) b g) :
  Z qaN (.call 37 [.agg [.mp 0],.dat (.sl cs N f)] [.map qcJ])=some (.ret (.bool b) [.map qcJ]):=by
 obtain⟨g,hg⟩:=h
 refine qab (pf:=F37) rfl rfl ?_
 simp only[qma,qtG] at hg
 cases b<;>simp at hg<;>simp[F37,V.len,hg]
theorem qrJ:Z qaN (.call 37 [.agg [.mp 0],.dat (.lit (.slice none 0 0))] [.map qcJ])=some (.ret (.bool true) [.map qcJ]):=by
 obtain⟨g,hg⟩:=qrI 0 (.lit (.slice none 0 0))
 refine qab (pf:=F37) rfl rfl ?_
 simp[qma,qtG] at hg
 simp[F37,V.len,hg]
end
end
section
open F
section
variable{e a b c:E}{f:Bool}{s:ByteArray}
theorem qqA:Z qaN (.call 30 [.agg [.mp 0],nd 1 0 s f (e.fo .nil)] [.map qcJ])=some (.ret (.bool (decide (e.ty=1))) [.map qcJ]):=by
 have hk:=qj5 1 0 s f (e.fo .nil)
 have h1:=qc1 e
 refine qab (pf:=F30) rfl rfl ?_
 simp[nd,Fo.hd] at hk
 simp[F30,hk,h1]
theorem qqB:Z qaN (.call 30 [.agg [.mp 0],nd 5 0 s f (a.fo (b.fo .nil))] [.map qcJ])=some (.ret (.bool (decide (a.ty=1)&&decide (b.ty=1))) [.map qcJ]):=by
 have hk:=qj5 5 0 s f (a.fo (b.fo .nil))
 have h1:=qc1 a
 have h2:=qc1 b
 refine qab (pf:=F30) rfl rfl ?_
 simp[nd,Fo.hd] at hk
 by_cases h:a.ty=1
 ·simp[F30,hk,h1,h2,h]
 ·simp[F30,hk,h1,h2,h]
theorem qsK:Z qaN (.call 30 [.agg [.mp 0],nd 2 0 s f (a.fo (b.fo .nil))] [.map qcJ])=some (.ret (.bool (!(eqS s qod||eqS s qoe)&&(decide (a.ty=1)&&decide (b.ty=1)))) [.map qcJ]):=by
 have hk:=qj5 2 0 s f (a.fo (b.fo .nil))
 have h1:=qc1 a
 have h2:=qc1 b
 refine qab (pf:=F30) rfl rfl ?_
 simp[nd,Fo.hd] at hk
 unfold qod qoe
 cases hh:eqS s ⟨#[104,105,116]⟩ with
 |true=>simp[F30,hk,h1,h2,hh]
 |false=>cases hs:eqS s ⟨#[115,116,105,108,108]⟩ with
  |true=>simp[F30,hk,h1,h2,hh,hs]
  |false=>
   by_cases h:a.ty=1
   ·simp[F30,hk,h1,h2,h,hh,hs]
   ·simp[F30,hk,h1,h2,h,hh,hs]
theorem qvZ:Z qaN (.call 30 [.agg [.mp 0],nd 6 0 s f .nil] [.map qcJ])=some (.ret (.bool true) [.map qcJ]):=by
 have hk:=qj5 6 0 s f .nil
 refine qab (pf:=F30) rfl rfl ?_
 simp[nd,Fo.hd] at hk
 simp[F30,hk]
theorem qv0(w:Bool){r:Fo}{z:Bool}(hr:Z qaN (.call 37 [.agg [.mp 0],.dat (.sl r.cells r.len false)] [.map qcJ])=some (.ret (.bool z) [.map qcJ])):Z qaN (.call 30 [.agg [.mp 0],nd (if w then 4 else 3) 0 s f (c.fo r)] [.map qcJ])=some (.ret (.bool (decide (c.ty=2)&&z)) [.map qcJ]):=by
 have hk:=qj5 (if w then 4 else 3) 0 s f (c.fo r)
 have h1:=qc1 c
 have hl:=qfl r
 have e1:(1:Int)<=(r.len:Int)+1:=by omega
 have e2:r.len*4+1+1+1+1=(r.len+1)*4:=by omega
 have e3:List.take (r.len*4) r.cells=r.cells:=Wz (by omega)
 refine qab (pf:=F30) rfl rfl ?_
 cases w<;>simp[nd,Fo.hd] at hk<;>by_cases h:c.ty=2<;>simp[F30,hk,h1,h,hr,qel,bound,V.len,hl,e1,e2,e3]
theorem qnK{r:Fo}{z:Bool}(hr:Z qaN (.call 37 [.agg [.mp 0],.dat (kd f r.len r.cells)] [.map qcJ])=some (.ret (.bool z) [.map qcJ])):Z qaN (.call 30 [.agg [.mp 0],nd 7 0 s f r] [.map qcJ])=some (.ret (.bool z) [.map qcJ]):=by
 have hk:=qj5 7 0 s f r
 refine qab (pf:=F30) rfl rfl ?_
 simp[nd,Fo.hd] at hk
 simp[F30,hk,hr]
end
end
section
open F
theorem qgG : ∀ (ss:Ss) (i:Nat) (cs:List D) (N:Nat) (fl:Bool),cs.drop (i*4)=ss.fo.cells->N=i+ss.fo.len->i+ss.fo.size<2^40 ->
  ∃ g,Z qaN (.loop 1 F37l0 (qma i N (.sl cs N fl)) [.map qcJ,.cells [.mp 0]])=qtG N (.sl cs N fl) ss.well g
 |.nil,i,cs,N,fl,hc,hN,hb=>by
  simp only[Ss.fo,qbs,Yg] at hN
  subst hN
  exact qrI _ _
 |.assign f s e r,i,cs,N,fl,hc,hN,hb=>by
  simp only[Ss.fo,qaC,qaR,qam] at hc hN hb
  have:=qbv r.fo
  exact qfI qqA hc (by omega) (by omega) fun _=>qgG r (i+1) cs N fl (qcv hc) (by omega) (by omega)
 |.store f s a b r,i,cs,N,fl,hc,hN,hb=>by
  simp only[Ss.fo,qaC,qaR,qam] at hc hN hb
  have:=qbv r.fo
  exact qfI qsK hc (by omega) (by omega) fun _=>qgG r (i+1) cs N fl (qcv hc) (by omega) (by omega)
 |.effect f a b r,i,cs,N,fl,hc,hN,hb=>by
  simp only[Ss.fo,qaC,qaR,qam] at hc hN hb
  have:=qbv r.fo
  exact qfI qqB hc (by omega) (by omega) fun _=>qgG r (i+1) cs N fl (qcv hc) (by omega) (by omega)
 |.stop r,i,cs,N,fl,hc,hN,hb=>by
  simp only[Ss.fo,qaC,qaR,qam] at hc hN hb
  have:=qbv r.fo
  have h:=qfI (wr:=r.well) qvZ hc (by omega) (by omega) fun _=>qgG r (i+1) cs N fl (qcv hc) (by omega) (by omega)
  rw[Bool.true_and] at h
  exact h
 |.cond w f c b r,i,cs,N,fl,hc,hN,hb=>by
  simp only[Ss.fo,qaC,qaR,qam,qcz] at hc hN hb
  have:=qbv r.fo
  have hw:=qv0 (c:=c) (f:=f) (s:=⟨#[]⟩) w (qge (f:=false) (qgG b 0 b.fo.cells b.fo.len false rfl (by omega) (by omega)))
  exact qfI hw hc (by omega) (by omega) fun _=>qgG r (i+1) cs N fl (qcv hc) (by omega) (by omega)
 |.block f b r,i,cs,N,fl,hc,hN,hb=>by
  simp only[Ss.fo,qaC,qaR,qam] at hc hN hb
  have:=qbv r.fo
  have hw:Z qaN (.call 30 [.agg [.mp 0],nd 7 0 ⟨#[]⟩ f b.fo] [.map qcJ])=some (.ret (.bool b.well) [.map qcJ]):=by
   refine qnK ?_
   have h:=qge (f:=f) (qgG b 0 b.fo.cells b.fo.len f rfl (by omega) (by omega))
   cases hb:b.fo.len with
   |zero=>
    have hn:b = .nil:=by cases b<;>simp[Ss.fo] at hb; rfl
    subst hn
    exact qrJ
   |succ n=>rw[qkZ,<- hb]; exact h
  exact qfI hw hc (by omega) (by omega) fun _=>qgG r (i+1) cs N fl (qcv hc) (by omega) (by omega)
theorem qcV(f:Bool)(b:Ss)(h:b.fo.size<2^40):Z qaN (.call 30 [.agg [.mp 0],nd 7 0 ⟨#[]⟩ f b.fo] [.map qcJ])=some (.ret (.bool b.well) [.map qcJ]):=by
 refine qnK ?_
 have h:=qge (f:=f) (qgG b 0 b.fo.cells b.fo.len f rfl (by omega) (by omega))
 cases hb:b.fo.len with
 |zero=>
  have hn:=qhd hb
  subst hn
  exact qrJ
 |succ n=>rw[qkZ,<- hb]; exact h
section
variable{e a b c:E}{f:Bool}{s:ByteArray}
attribute [local simp] qac qaa V.len qae
end
end
section
open F
abbrev cfr(r:D)(i:Int):Fr:=[(1,.ptr 0 0),(3,.ptr 1 0),(8,.dat r),(9,.int i)]
abbrev qjB(a b c:Nd):S:=[qgO a b c,.cells [.mp 2],.map qcJ]
section
variable{a b c:Nd}
theorem qyc{h:Hd}(hb:h.ks.size<2^25)(hw:h.well=true):Z qaN (.loop 0 F12l0 (cfr (ru h.nd b c) 0) (qjB h.nd b c))=Z qaN (.loop 0 F12l0 (cfr (ru h.nd b c) 1) (qjB h.nd b c)):=by
 have w1:=qai 1 (by omega)
 conv=>lhs; rw[qaa]
 cases h with
 |none=>
  simp[qac,qcp,w1,Hd.k,Hd.f,Hd.ks,Nd.d]
  exact qag (by simp[Hd.k,Hd.f,Hd.ks,Nd.d])
 |some f q=>
  have h1:=qcV f q (by simp only[Hd.ks] at hb; omega)
  simp only[Hd.well] at hw
  simp only[hw] at h1
  simp[qac,qcp,w1,Hd.k,Hd.f,Hd.ks,Nd.d,h1]
  exact qag (by simp[Hd.k,Hd.f,Hd.ks,Nd.d])
theorem qva{h:Hd}(hb:h.ks.size<2^25)(hw:h.well=false) : ∃ g,Z qaN (.loop 0 F12l0 (cfr (ru h.nd b c) 0) (qjB h.nd b c))=some (.out .ret [(2,.int 13)] (qjB h.nd b c++[g])):=by
 cases h with
 |none=>simp[Hd.well] at hw
 |some f q=>
  have h1:=qcV f q (by simp only[Hd.ks] at hb; omega)
  simp only[Hd.well] at hw
  simp only[hw] at h1
  refine⟨.cells [.int 7,.int 0,.str ⟨#[]⟩,.dat (kd f q.fo.len q.fo.cells)],?_⟩
  rw[qaa]
  simp[qac,qcp,Hd.k,Hd.f,Hd.ks,Nd.d,h1]
theorem qyd{h:Hd}(hb:h.ks.size<2^25)(hw:h.well=true):Z qaN (.loop 0 F12l0 (cfr (ru a h.nd c) 1) (qjB a h.nd c))=Z qaN (.loop 0 F12l0 (cfr (ru a h.nd c) 2) (qjB a h.nd c)):=by
 have w1:=qai 2 (by omega)
 conv=>lhs; rw[qaa]
 cases h with
 |none=>
  simp[qac,qcp,w1,Hd.k,Hd.f,Hd.ks,Nd.d]
  exact qag (by simp[Hd.k,Hd.f,Hd.ks,Nd.d])
 |some f q=>
  have h1:=qcV f q (by simp only[Hd.ks] at hb; omega)
  simp only[Hd.well] at hw
  simp only[hw] at h1
  simp[qac,qcp,w1,Hd.k,Hd.f,Hd.ks,Nd.d,h1]
  exact qag (by simp[Hd.k,Hd.f,Hd.ks,Nd.d])
theorem qvb{h:Hd}(hb:h.ks.size<2^25)(hw:h.well=false) : ∃ g,Z qaN (.loop 0 F12l0 (cfr (ru a h.nd c) 1) (qjB a h.nd c))=some (.out .ret [(2,.int 13)] (qjB a h.nd c++[g])):=by
 cases h with
 |none=>simp[Hd.well] at hw
 |some f q=>
  have h1:=qcV f q (by simp only[Hd.ks] at hb; omega)
  simp only[Hd.well] at hw
  simp only[hw] at h1
  refine⟨.cells [.int 7,.int 0,.str ⟨#[]⟩,.dat (kd f q.fo.len q.fo.cells)],?_⟩
  rw[qaa]
  simp[qac,qcp,Hd.k,Hd.f,Hd.ks,Nd.d,h1]
theorem qye{h:Hd}(hb:h.ks.size<2^25)(hw:h.well=true):Z qaN (.loop 0 F12l0 (cfr (ru a b h.nd) 2) (qjB a b h.nd))=Z qaN (.loop 0 F12l0 (cfr (ru a b h.nd) 3) (qjB a b h.nd)):=by
 have w1:=qai 3 (by omega)
 conv=>lhs; rw[qaa]
 cases h with
 |none=>
  simp[qac,qcp,w1,Hd.k,Hd.f,Hd.ks,Nd.d]
  exact qag (by simp[Hd.k,Hd.f,Hd.ks,Nd.d])
 |some f q=>
  have h1:=qcV f q (by simp only[Hd.ks] at hb; omega)
  simp only[Hd.well] at hw
  simp only[hw] at h1
  simp[qac,qcp,w1,Hd.k,Hd.f,Hd.ks,Nd.d,h1]
  exact qag (by simp[Hd.k,Hd.f,Hd.ks,Nd.d])
theorem qvc{h:Hd}(hb:h.ks.size<2^25)(hw:h.well=false) : ∃ g,Z qaN (.loop 0 F12l0 (cfr (ru a b h.nd) 2) (qjB a b h.nd))=some (.out .ret [(2,.int 13)] (qjB a b h.nd++[g])):=by
 cases h with
 |none=>simp[Hd.well] at hw
 |some f q=>
  have h1:=qcV f q (by simp only[Hd.ks] at hb; omega)
  simp only[Hd.well] at hw
  simp only[hw] at h1
  refine⟨.cells [.int 7,.int 0,.str ⟨#[]⟩,.dat (kd f q.fo.len q.fo.cells)],?_⟩
  rw[qaa]
  simp[qac,qcp,Hd.k,Hd.f,Hd.ks,Nd.d,h1]
theorem qyf:Z qaN (.loop 0 F12l0 (cfr (ru a b c) 3) (qjB a b c))=some (.out (.exit 0) [(1,.ptr 0 0),(3,.ptr 1 0),(8,.dat (ru a b c)),(9,.int 3),(10,.bool false)] (qjB a b c)):=by
 rw[qaa]
 simp[qac,qcp]
end
def chk(a b c:Hd):Int:=if (a.well&&(b.well&&c.well))=true then (if 16<(rvars a.nd b.nd c.nd).length then 2 else 0) else 13
section
variable{a b c:Hd}
theorem qvd (ha:a.ks.size<2^25) (hb:b.ks.size<2^25) (hc:c.ks.size<2^25):if (a.well&&(b.well&&c.well))=true then Z qaN (.loop 0 F12l0 (cfr (ru a.nd b.nd c.nd) 0) (qjB a.nd b.nd c.nd))=some (.out (.exit 0) [(1,.ptr 0 0),(3,.ptr 1 0),(8,.dat (ru a.nd b.nd c.nd)),(9,.int 3),(10,.bool false)] (qjB a.nd b.nd c.nd))
  else∃g,Z qaN (.loop 0 F12l0 (cfr (ru a.nd b.nd c.nd) 0) (qjB a.nd b.nd c.nd))=some (.out .ret [(2,.int 13)] (qjB a.nd b.nd c.nd++[g])):=by
 cases wa:a.well with
 |false=>simpa using qva ha wa
 |true=>
  rw[qyc ha wa]
  cases wb:b.well with
  |false=>simpa using qvb hb wb
  |true=>
   rw[qyd hb wb]
   cases wc:c.well with
   |false=>simpa using qvc hc wc
   |true=>rw[qye hc wc]; simpa using qyf
theorem qve(ha:a.ks.size<2^25)(hb:b.ks.size<2^25)(hc:c.ks.size<2^25):Z qaN (.call 12 [.dat (ru a.nd b.nd c.nd)] [])=some (.ret (.int (chk a b c)) []):=by
 have h:=qvd ha hb hc
 have hv:=qhJ qgD (qi4 (a:=a.nd) (b:=b.nd) (c:=c.nd) ha hb hc)
 have hg:Z qaN (.loop 0 F12l0 [(1,.ptr 0 0),(3,.ptr 2 0),(8,.dat (ru a.nd b.nd c.nd)),(9,.int 0)] [qgO a.nd b.nd c.nd,.map qcJ,.cells [.mp 1]])=Z qaN (.loop 0 F12l0 (cfr (ru a.nd b.nd c.nd) 0) (qjB a.nd b.nd c.nd)):=qag (by simp[Nd.d,Hd.k,Hd.f,Hd.ks])
 rw[<- hg] at h
 refine qab (pf:=F12) rfl rfl ?_
 unfold chk
 simp only[cfr,qjB,qgO,ru,Nd.d,qAr,qAs,qAt,qAu,qpk,Wi,Wc] at h hv
 cases hw:(a.well&&(b.well&&c.well)) with
 |false=>
  rw[hw] at h
  obtain⟨g,h⟩:=h
  simp[F12,ru,Nd.d,h,qe2]
 |true=>
  rw[hw,if_pos rfl] at h
  rw[if_pos rfl]
  by_cases h16:16<(rvars a.nd b.nd c.nd).length
  ·have h16':(16:Int)<(rvars a.nd b.nd c.nd).length:=by omega
   simp[F12,ru,Nd.d,h,qe2,hv,h16,h16']
  ·have h16' : ¬ (16:Int)<(rvars a.nd b.nd c.nd).length:=by omega
   simp[F12,ru,Nd.d,h,qe2,hv,h16,h16']
end
end
section
open F Gr
set_option maxHeartbeats 4000000
def qm2(c:Cd):List Int:=c.flatMap fun x=>[x.1,x.2]
theorem ql1(c:Cd):(qm2 c).length=2*c.length:=by
 induction c with
 |nil=>rfl
 |cons x c ih=>simp only[qm2,List.flatMap_cons,Wd,Wf,Wm] at ih ⊢; omega
theorem qts(c:Cd):icC c=intsC (qm2 c):=by
 induction c with
 |nil=>rfl
 |cons x c ih=>
  have e:icC (x::c)=[.lit (.int .i64 x.1),.lit (.int .i64 x.2)]++icC c:=rfl
  rw[e,ih]
  rfl
theorem qfG(c:Cd):codeD c=qmi (qm2 c):=by
 cases c with
 |nil=>rfl
 |cons x c=>
  have hl:=ql1 (x::c)
  have e:qm2 (x::c)=x.1::x.2::qm2 c:=rfl
  show D.sl (icC (x::c)) (x::c).length false=_
  rw[qts]
  rw[e] at hl ⊢
  unfold qmi
  simp only
  rw[hl]
  congr 1
  omega
theorem qw2{a b c:Hd}(fa:a.fine)(fb:b.fine)(fc:c.fine) : ∃ (K:Cd) (e0 e1 e2 m0 m1 m2:Int),K.length<=30000/\Z qad (.call 131 [.dat (ru a.nd b.nd c.nd)] [])=some (.ret (qtK K e0 e1 e2 m0 m1 m2) [])/\(K.length<=400->m0<=16->m1<=16->m2<=16->qiv K e0 e1 e2=0):=by
 have l4:=qjE fa.fine fb.fine fc.fine
 obtain⟨ia,ib,ic⟩:=qnu (a:=a) (b:=b) (c:=c)
 obtain⟨n,D,g,p0,p1,p2⟩:=qlM (vs:=rvars a.nd b.nd c.nd) (by omega) fa.fine fb.fine fc.fine ia ib ic
 have hn:(qeS (rvars a.nd b.nd c.nd) a b c).length=n:=g.ln 0
 obtain⟨m0,d0⟩:=qrh (c:=qeS (rvars a.nd b.nd c.nd) a b c) (e:=qjd a) (by rcases p0 with p|⟨x,y,z⟩<;>omega)
 obtain⟨m1,d1⟩:=qrh (c:=qeS (rvars a.nd b.nd c.nd) a b c) (e:=qi9 (rvars a.nd b.nd c.nd) a b) (by rcases p1 with p|⟨x,y,z⟩<;>omega)
 obtain⟨m2,d2⟩:=qrh (c:=qeS (rvars a.nd b.nd c.nd) a b c) (e:=qje (rvars a.nd b.nd c.nd) a b c) (by rcases p2 with p|⟨x,y,z⟩<;>omega)
 exact⟨_,_,_,_,m0,m1,m2,qmc fa fb fc,qqx fa fb fc d0 d1 d2,fun h4 h0 h1 h2=>qlY g (by omega) p0 p1 p2 d0 d1 d2 h0 h1 h2⟩
section
variable{prog:Nat->Option PFun}(hb:Sub qad prog)(h14:Sub qaN prog)(sp:Sub tP prog)(ss:Sub tS prog)(h7 : ∀ k pf,tB k=some pf->prog k=some pf)(hH : ∀ k pf,tH k=some pf->prog k=some pf)
include hb ss in
theorem qtt(h227:prog 227=some F227){v:D}{xs:List Int}(h:RowV v xs)(hx : ∀ x∈xs,I64 x) : ∃ a b c:Hd,a.gen/\b.gen/\c.gen/\a.cost+(b.cost+c.cost)<=1440/\Z prog (.call 227 [.dat v] [])=some (.ret (.str (bs (qar false (qcM (Hd.opts a b c))))) []):=by
 obtain⟨a,b,c,ha,hb',⟨hc,hco⟩,zp⟩:=qph h hx
 refine⟨a,b,c,ha,hb',hc,hco,?_⟩
 have hl:=qn6 a b c
 have zs:=qhJ ss (qsm (qlZ ha hb' hc) (by omega))
 have zp':=qhJ hb zp
 have k0:=h.one
 have k1:=h.cells
 refine qab h227 rfl ?_
 generalize bs (qar false (qcM (Hd.opts a b c)))=R at *
 generalize ru a.nd b.nd c.nd=r at *
 simp -implicitDefEqProofs [F227,zp',zs]
theorem qtu{H:Vr->Int}{v:Vr}(h0:v.t=0):wdB H [v]=[0,IntKind.i64.wrap (H v)]:=by simp[wdB,h0]
include hb h14 sp ss h7 hH
theorem qiY (hF:prog 336=some F336) (h227:prog 227=some F227) (h23:prog 323=some F323) (h24:prog 324=some F324) (h25:prog 325=some F325) (h26:prog 326=some F326) (h27:prog 327=some F327) (h28:prog 328=some F328) (h22:prog 322=some F322) (h29:prog 329=some F329) (h30:prog 330=some F330) (h331:prog 331=some F331) (h343:prog 343=some F343) (h346:prog 346=some F346) (h348:prog 348=some F348) (h349:prog 349=some F349) (h353:prog 353=some F353)
  (hs : ∀ (hw:Int) {B:Int},Z prog (.call 110 [.str ⟨#[98,111,111,107]⟩,.int 2] [])=some (.ret (.dat (.lit (.int .u64 B))) [])->Z prog (.call 109 [.str ⟨#[98,111,111,107]⟩,.dat (.sl [.lit (.int .i64 0),.lit (.int .i64 hw)] 2 true)] [])=some (.ret (.dat (.lit (.int .u64 (sumI B [0,hw])))) []))
  (hv:Z prog (.call 321 [] [])=some (.ret (.bool true) [])) {v:D} {xs:List Int} (hr:RowV v xs) (hx : ∀ x∈xs,I64 x):Z prog (.call 336 [.dat v] [])=some (.ret (.bool true) []):=by
 obtain⟨a,b,c,ga,gb,gc,hco,zS⟩:=qtt hb ss h227 hr hx
 have hg:=qlZ ga gb gc
 have hl:=qn6 a b c
 obtain⟨r1,p1⟩:=qm7 (f:=true) (fi:=true) (fb:=false) hg (by omega)
 have zP:=qhJ sp (qsA (bs (qar false (qcM (Hd.opts a b c)))) (by rw[qaz]; omega))
 rw[qn7,p1] at zP
 simp only[qu1] at zP
 have zP:Z prog (.call 228 [.str (bs (qar false (qcM (Hd.opts a b c))))] [])=some (.ret (.tup [.dat (ru a.rf.nd b.rf.nd c.rf.nd),.int 0,.int 0]) []):=zP
 have fa:=qmZ ga.tofine
 have fb:=qmZ gb.tofine
 have fc:=qmZ gc.tofine
 have sa:=qpr a.rf fa
 have sb:=qpr b.rf fb
 have sc:=qpr c.rf fc
 rw[qpk] at sa sb sc
 have zC:=qhJ h14 (qve (a:=a.rf) (b:=b.rf) (c:=c.rf) (by omega) (by omega) (by omega))
 obtain⟨K,e0,e1,e2,m0,m1,m2,hK,zK,hver⟩:=qw2 fa fb fc
 have zK:=qhJ hb zK
 generalize bs (qar false (qcM (Hd.opts a b c)))=S at *
 generalize a.rf.nd=A at *
 generalize b.rf.nd=B at *
 generalize c.rf.nd=C at *
 generalize chk a.rf b.rf c.rf=q at *
 clear hg hl p1 fa fb fc sa sb sc ga gb gc hco
 have z5:=qyk h24 (qyj h25 zP)
 have z6:=qym h26 (qyl h27 zC)
 by_cases hq:q=0
 ·have z6':=z6
  rw[hq] at z6'
  have bad : ∀ e:Int,e≠0->Z prog (.call 131 [.dat (ru A B C)] [])=some (.ret (.tup [pgD (.lit (.slice none 0 0)) 0 0 0,.int e]) [])->Z prog (.call 336 [.dat v] [])=some (.ret (.bool true) []):=fun e he zK=>by
   have zc:=qpf h348 rfl rfl zK
   rw[decide_eq_false he] at zc
   exact qzn hF hv zS zP zC hq he (qq8 (h7 317 F317 rfl) rfl rfl he (qqa h22 rfl rfl z5 z6' (qp9 h28 rfl rfl zK))) zc
  unfold qtK at zK
  by_cases h4:400<K.length
  ·rw[if_pos h4] at zK
   exact bad 2 (by omega) zK
  ·rw[if_neg h4] at zK
   by_cases h16:16<m0\/16<m1\/16<m2
   ·rw[if_pos h16] at zK
    exact bad 15 (by omega) zK
   ·rw[if_neg h16] at zK
    have hv0:=hver (by omega) (by omega) (by omega) (by omega)
    have hd:=qtI K
    have zp:=qqa h22 hd.one hd.cells z5 z6' (qp9 h28 hd.one hd.cells zK)
    obtain⟨w,hw⟩ : ∃ w:Vr,w=⟨0,codeD K,e0,e1,e2,hd.one,hd.cells⟩:=⟨_,rfl⟩
    have wt:w.t=0:=by rw[hw]
    have wc:w.c=codeD K:=by rw[hw]
    have wa:w.a=e0:=by rw[hw]
    have wb:w.b=e1:=by rw[hw]
    have we:w.e=e2:=by rw[hw]
    have hlen:=ql1 K
    have zN:=qAy h7 (s:=S) (v:=w) (by unfold qAx; rw[wc,wa,wb,we]; exact zp) wt
    have zcl:Z prog (.call 331 [.dat (codeD K)] [])=some (.ret (.dat (codeD K)) []):=by rw[qfG]; exact quF h331 hlen (by omega)
    have hlo : ∀ m (h:m<[w].length),m<1->[w][m].t<=5:=fun m h hm=>by
     obtain rfl:m=0:=by omega
     show w.t<=5
     omega
    have hhi : ∀ m (h:m<[w].length),1<=m->5<[w][m].t:=fun m h hm=>by
     simp at h
     omega
    have zA:=qCg h29 h30 h23 (L:=[w]) (tick:=5) (r:=1) (k:=0) (by simp) (by simp) (by simp) hlo hhi rfl (by simp) (by show Z prog (.call 331 [.dat w.c] [])=some (.ret (.dat w.c) []); rw[wc]; exact zcl)
    have zA:Z prog (.call 323 [.ptr 0 0,.int 5] (qie [w]))=some (.ret (.tup [.int 0,pgD (codeD K) e0 e1 e2]) (qie [w])):=by
     have e:([w]:List Vr)[0]=w:=rfl
     rw[e,wc,wa,wb,we] at zA
     exact zA
    have zs:Z prog (.call 346 [pgD (codeD K) e0 e1 e2,pgD (codeD K) e0 e1 e2] [])=some (.ret (.bool true) []):=by rw[qfG]; exact qxI h346 hlen (by omega)
    have zV:=qhJ hb (qsr (e0:=e0) (e1:=e1) (e2:=e2) hd (by omega))
    rw[hv0] at zV
    have zh1:=qsG hH h353 (a:=e0) (b:=e1) (e:=e2) hlen (by omega) rfl
    have zh2:=qxi hH h349 (a:=e0) (b:=e1) (e:=e2) hlen (by omega) rfl
    generalize hhh:sumI (qhF (qhF (qhF 0 30787916450984560) 7) (IntKind.u64.wrap ((3+2*K.length:Nat):Int))) ([e0,e1,e2]++qm2 K)=hh at *
    have zr:=qyh (prog:=prog) hH h343 (H:=fun _=>hh) (L:=[w]) (by simp) (by simp) (fun i hi=>by
     have:i=0:=by simp at hi; omega
     subst this
     show Z prog (.call 353 [.dat (.agg [w.c,.lit (.int .i64 w.a),.lit (.int .i64 w.b),.lit (.int .i64 w.e)])] [])=_
     rw[wc,wa,wb,we,qfG]
     exact zh1) rfl
    rw[qtu wt] at zr
    have zb:=qm1 hH (qhJ hH (qoc 2)) (m:=4) (n:=2) rfl rfl rfl
    have zg:=hs (IntKind.i64.wrap hh) zb
    have zh2:Z prog (.call 349 [pgD (codeD K) e0 e1 e2] [])=some (.ret (.int (IntKind.i64.wrap hh)) []):=by rw[qfG]; exact zh2
    rw[qtQ] at zN zA zr
    exact qwM hF hv zS zP zC hq hd.one hd.cells zN zK zA zs zV zr zh2 zg
 ·exact qzm hF hv zS zP zC hq (qq8 (h7 317 F317 rfl) rfl rfl hq (qqa h22 rfl rfl z5 z6 (qsl h28 hq)))
end
end
end Go.Pm
section
namespace Go.Pm.F
variable(C:Task->Option Res)(q:Nat)(fr:Fr)(σ : S)
@[simp] def F46l0x:PC:=(.seq (rn [bn 13 .lss 12 11] [0,3,11,12,13]) (.seq (.cond (.t 13) (.skip) (.exit 0)) (.seq (.block 1 (.seq (rn [mv 14 12,mv 4 14] [0,3,4,11,12]) (.region (some []) [mv 15 3,nc 16 15,fa 17 0 16,l1 18 17,mv 19 4,mv 20 0,mv 21 4,jj 22 (.indexAddr 1 (.t 20) (.t 21)),l1 23 22,jj 24 (.indexAddr 1 (.t 18) (.t 19)),st 1 24 23] [0,3,11,12]))) (rn [bk 25 .add 12 1,mv 12 25] [0,3,11,12]))))
@[simp] def F59l0x:PC:=(.seq (rn [bn 11 .lss 10 9] [0,3,9,10,11]) (.seq (.cond (.t 11) (.skip) (.exit 0)) (.seq (.block 1 (.seq (rn [mv 12 10,mv 4 12] [0,3,4,9,10]) (rn [mv 13 3,mv 14 4,mv 15 0,mv 16 4,cl 17 51 [15,16],jj 18 (.indexAddr 1 (.t 13) (.t 14)),st 1 18 17] [0,3,9,10]))) (rn [bk 19 .add 10 1,mv 10 19] [0,3,9,10]))))
end Go.Pm.F
end
section
namespace Go.Pm.F
def prog17p:Nat->Option PFun
 |12=>some F12
 |15=>some F15
 |17=>some F17
 |20=>some F20
 |23=>some F23
 |26=>some F26
 |27=>some F27
 |30=>some F30
 |32=>some F32
 |35=>some F35
 |37=>some F37
 |38=>some F38
 |39=>some F39
 |58=>some F58
 |70=>some F70
 |79=>some F79
 |80=>some F80
 |109=>some F109
 |110=>some F110
 |111=>some F111
 |112=>some F112
 |113=>some F113
 |123=>some F123
 |125=>some F125
 |131=>some F131
 |134=>some F134
 |136=>some F136
 |137=>some F137
 |138=>some F138
 |139=>some F139
 |140=>some F140
 |147=>some F147
 |148=>some F148
 |152=>some F152
 |162=>some F162
 |163=>some F163
 |164=>some F164
 |165=>some F165
 |166=>some F166
 |167=>some F167
 |168=>some F168
 |169=>some F169
 |176=>some F176
 |177=>some F177
 |178=>some F178
 |179=>some F179
 |180=>some F180
 |181=>some F181
 |182=>some F182
 |183=>some F183
 |184=>some F184
 |185=>some F185
 |186=>some F186
 |187=>some F187
 |188=>some F188
 |189=>some F189
 |190=>some F190
 |191=>some F191
 |192=>some F192
 |193=>some F193
 |200=>some F200
 |201=>some F201
 |204=>some F204
 |227=>some F227
 |228=>some F228
 |234=>some F234
 |236=>some F236
 |239=>some F239
 |240=>some F240
 |241=>some F241
 |242=>some F242
 |246=>some F246
 |247=>some F247
 |248=>some F248
 |249=>some F249
 |250=>some F250
 |251=>some F251
 |252=>some F252
 |253=>some F253
 |254=>some F254
 |255=>some F255
 |256=>some F256
 |261=>some F261
 |262=>some F262
 |263=>some F263
 |264=>some F264
 |265=>some F265
 |266=>some F266
 |267=>some F267
 |268=>some F268
 |269=>some F269
 |270=>some F270
 |271=>some F271
 |275=>some F275
 |276=>some F276
 |277=>some F277
 |278=>some F278
 |279=>some F279
 |280=>some F280
 |281=>some F281
 |284=>some F284
 |285=>some F285
 |286=>some F286
 |287=>some F287
 |289=>some F289
 |290=>some F290
 |292=>some F292
 |297=>some F297
 |303=>some F303
 |304=>some F304
 |307=>some F307
 |308=>some F308
 |309=>some F309
 |317=>some F317
 |318=>some F318
 |320=>some F320
 |321=>some F321
 |322=>some F322
 |323=>some F323
 |324=>some F324
 |325=>some F325
 |326=>some F326
 |327=>some F327
 |328=>some F328
 |329=>some F329
 |330=>some F330
 |331=>some F331
 |336=>some F336
 |343=>some F343
 |346=>some F346
 |348=>some F348
 |349=>some F349
 |353=>some F353
 |_=>none
end Go.Pm.F
end
