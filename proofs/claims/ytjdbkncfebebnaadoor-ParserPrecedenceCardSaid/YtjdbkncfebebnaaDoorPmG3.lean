/- Chapter 13's generator: statements. Chapter 13's generator: blocks and whole programs. Chapter 13's generator: whole programs. Parse with other marks; its errors have a code; generated trees are good and not long. No program in sight. The abstract machine's program, printed by a program of our own: group 3q. The abstract machine's program, printed by a program of our own: group Law13. The abstract machine's programs: tables of functions. -/
import Derived.Test.YtjdbkncfebebnaaDoorPmUk
import Derived.Test.YtjdbkncfebebnaaDoorPmUc
import Derived.Test.YtjdbkncfebebnaaDoorPmYh
import Derived.Test.YtjdbkncfebebnaaDoorPmF3
set_option linter.unusedSimpArgs false
set_option linter.unusedVariables false
section SG3
namespace Go.Pm
open F
def Ss.fine:Ss->Prop
 | .nil=>True
 | .assign _ s e r=>(s∈qvQ/\e.fine/\e.ty=1)/\r.fine
 | .store _ s a b r=>(s∈qhh/\a.fine/\a.ty=1/\b.fine/\b.ty=1)/\r.fine
 | .effect _ a b r=>(a.fine/\a.ty=1/\b.fine/\b.ty=1)/\r.fine
 | .stop r=>r.fine
 | .cond false _ c (.block _ x (.block _ y .nil)) r=>(c.fine/\c.ty=2)/\x.fine/\y.fine/\r.fine
 | .cond true _ c (.block _ x .nil) r=>(c.fine/\c.ty=2)/\x.fine/\r.fine
 | _=>False
def Ss.dp:Ss->Nat
 | .nil=>0
 | .assign _ _ _ r=>r.dp
 | .store _ _ _ _ r=>r.dp
 | .effect _ _ _ r=>r.dp
 | .stop r=>r.dp
 | .cond _ _ _ b r=>max (b.dp+1) r.dp
 | .block _ b r=>max b.dp r.dp
def Ss.edp:Ss->Nat
 | .nil=>0
 | .assign _ _ e r=>max e.dp r.edp
 | .store _ _ a b r=>max (max a.dp b.dp) r.edp
 | .effect _ a b r=>max (max a.dp b.dp) r.edp
 | .stop r=>r.edp
 | .cond _ _ c b r=>max (max c.dp b.edp) r.edp
 | .block _ b r=>max b.edp r.edp
def ssz:Nat->Nat
 | 0=>20
 | n+1=>20+4*ssz n
theorem qjP (n:Nat):20<=ssz n:=by cases n<;>simp[ssz]
def GS (xs:List Int) (d i:Int):Prop := ∃ (st:Ss) (k n:Int) (s:ByteArray) (f:Bool) (ks:Fo) (i':Int),st.fo = .cons k n s f ks .nil /\
 (st.fine/\st.dp<=d.toNat/\st.edp<=3/\st.fo.size<=ssz d.toNat/\Co 8 st.cost xs i i')/\(0<=i'/\i'<=100)/\Z qbz (.call 162 [.ptr 0 0,.int d] (gst xs i))=some (.ret (nd k n s f ks) (gst xs i'))
def GK (xs:List Int) (d m i:Int):Prop := ∃ (b:Ss) (i':Int),(b.fine/\b.dp<=d.toNat/\b.edp<=3/\b.fo.size<=m.toNat*ssz d.toNat/\Co 0 b.cost xs i i')/\(0<=i'/\i'<=100) /\
 Z qbz (.call 137 [.ptr 0 0,.int d,.int m] (gst xs i))=some (.ret (nd 7 0 ⟨#[]⟩ false b.fo) (gst xs i'))
def qhc (xs:List Int) (d i:Int):Int:=if d<=0 then (qaD xs i 10).tmod 7 else qaD xs i 10
section
variable {xs:List Int} {i d:Int} (hx : ∀ x∈xs,I64 x) (hl:xs.length<=100) (hi:0<=i/\i<=100)
include hx hl hi
theorem qkW (h:qhc xs d i=0\/qhc xs d i=1):GS xs d i:=by
 have n1:=qbt (i:=i) (m:=10) hx (qbC hl) hi (by omega)
 have r1:=qaA hi (qbC hl)
 have n2:=qbt (i:=qaE xs i) (m:=4) hx (qbC hl) r1 (by omega)
 have r2:=qaA r1 (qbC hl)
 have p:=qbm (i:=qaE xs i) (m:=4) hx (by omega)
 have hat:=qdW (strC qnZ) 4 true (qaD xs (qaE xs i) 4) p.1 (by omega)
 obtain⟨s,hs,hc⟩:=qil (l:=qnZ) (p:=qaD xs (qaE xs i) 4) (by simpa [qnZ] using p)
 simp only[qnZ,strC,List.map] at hat hc
 obtain⟨e,i',h1,h2,h3⟩:=qnE hx hl 2 2 _ (by omega) (by omega) r2
 rw[show (2:Int).toNat=2 from rfl] at h1
 have o:=qpG 1 s e.kind e.num e.str e.kids (by simp) (by simp)
 have hz:mxs 2=7:=rfl
 have hp:=qjP d.toNat
 have hco:Co 8 (Ss.cost (.assign true s e .nil)) xs i i':=by
  obtain⟨q1,q2,q3⟩:=h1.2.2.2.2
  have hcs : ∀ s∈qnZ,s.size<=3:=by decide
  have h5:=hcs s hs
  show _/\_/\((s.size+5+e.cost+0:Nat):Int)<=_
  rcases qav xs i with ⟨e1,l1⟩ | ⟨e1,l1⟩
  ·rcases qav xs (qaE xs i) with ⟨e2,l2⟩ | ⟨e2,l2⟩<;>omega
  ·have e3:qaD xs (qaE xs i) 4=0:=by rw[e1]; exact l1 4
   have hs1:s.size=1:=by
    rw[e3] at hc
    simp at hc
    rw[<- hc]
    rfl
   rcases qav xs (qaE xs i) with ⟨e2,l2⟩ | ⟨e2,l2⟩<;>omega
 refine⟨.assign true s e .nil,1,0,s,true,e.fo .nil,i',rfl,⟨⟨⟨List.mem_append_left _ hs,h1.1,h1.2.1⟩,trivial⟩,Nat.zero_le _,by simp only[Ss.edp]; omega,by simp only[Ss.fo,qaQ,qbX,qa1]; omega,hco⟩,h2,?_⟩
 refine Z_call (pf:=F162) rfl rfl ?_
 unfold qhc at h
 by_cases hd:d<=0
 ·rw[if_pos hd] at h
  rcases h with h | h<;>simp[F162,n1,n2,hd,h,hat,hc,h3,o]
 ·rw[if_neg hd] at h
  rcases h with h | h<;>simp[F162,n1,n2,hd,h,hat,hc,h3,o]
theorem qmJ (h:qhc xs d i=2\/qhc xs d i=3\/qhc xs d i=4):GS xs d i:=by
 have n1:=qbt (i:=i) (m:=10) hx (qbC hl) hi (by omega)
 have r1:=qaA hi (qbC hl)
 have n2:=qbt (i:=qaE xs i) (m:=6) hx (qbC hl) r1 (by omega)
 have r2:=qaA r1 (qbC hl)
 have p:=qbm (i:=qaE xs i) (m:=6) hx (by omega)
 have hat:=qdW (strC qhh) 6 true (qaD xs (qaE xs i) 6) p.1 (by omega)
 obtain⟨s,hs,hc⟩:=qil (l:=qhh) (p:=qaD xs (qaE xs i) 6) (by simpa [qhh] using p)
 simp only[qhh,strC,List.map] at hat hc
 obtain⟨a,i1,h1,h2,h3⟩:=qnE hx hl 1 1 _ (by omega) (by omega) r2
 obtain⟨b,i2,h4,h5,h6⟩:=qnE hx hl 2 2 _ (by omega) (by omega) h2
 rw[show (2:Int).toNat=2 from rfl] at h4
 rw[show (1:Int).toNat=1 from rfl] at h1
 have o:=qnY 2 s a.kind a.num b.kind b.num a.str b.str a.kids b.kids (by simp) (by simp) (by simp) (by simp)
 have hz:mxs 2=7:=rfl
 have hz1:mxs 1=3:=rfl
 have hp:=qjP d.toNat
 have hco:Co 8 (Ss.cost (.store true s a b .nil)) xs i i2:=by
  have hcs : ∀ s∈qhh,s.size<=2:=by decide
  have h55:=hcs s hs
  obtain⟨q1,q2,q3⟩:=h1.2.2.2.2
  obtain⟨u1,u2,u3⟩:=h4.2.2.2.2
  show _/\_/\((s.size+9+(a.cost+b.cost)+0:Nat):Int)<=_
  rcases qav xs i with ⟨e1,l1⟩ | ⟨e1,l1⟩
  ·rcases qav xs (qaE xs i) with ⟨e2,l2⟩ | ⟨e2,l2⟩<;>omega
  ·exact absurd (l1 10) (fun h0=>by
    unfold qhc at h
    rw[h0] at h
    split at h<;>simp at h)
 refine⟨.store true s a b .nil,2,0,s,true,a.fo (b.fo .nil),i2,rfl,⟨⟨⟨hs,h1.1,h1.2.1,h4.1,h4.2.1⟩,trivial⟩,Nat.zero_le _,by simp only[Ss.edp]; omega,by simp only[Ss.fo,qaQ,qbX,qa1]; omega,hco⟩,h5,?_⟩
 refine Z_call (pf:=F162) rfl rfl ?_
 unfold qhc at h
 by_cases hd:d<=0
 ·rw[if_pos hd] at h
  rcases h with h | h | h<;>simp[F162,n1,n2,hd,h,hat,hc,h3,h6,o]
 ·rw[if_neg hd] at h
  rcases h with h | h | h<;>simp[F162,n1,n2,hd,h,hat,hc,h3,h6,o]
theorem qkX (h:qhc xs d i=5):GS xs d i:=by
 have n1:=qbt (i:=i) (m:=10) hx (qbC hl) hi (by omega)
 have r1:=qaA hi (qbC hl)
 obtain⟨a,i1,h1,h2,h3⟩:=qnE hx hl 1 0 _ (by omega) (by omega) r1
 obtain⟨b,i2,h4,h5,h6⟩:=qnE hx hl 1 1 _ (by omega) (by omega) h2
 rw[show (0:Int).toNat=0 from rfl] at h1
 rw[show (1:Int).toNat=1 from rfl] at h4
 have o:=qnY 5 ⟨#[]⟩ a.kind a.num b.kind b.num a.str b.str a.kids b.kids (by simp) (by simp) (by simp) (by simp)
 have hz:mxs 0=1:=rfl
 have hz1:mxs 1=3:=rfl
 have hp:=qjP d.toNat
 have hco:Co 8 (Ss.cost (.effect true a b .nil)) xs i i2:=by
  obtain⟨q1,q2,q3⟩:=h1.2.2.2.2
  obtain⟨u1,u2,u3⟩:=h4.2.2.2.2
  show _/\_/\((11+(a.cost+b.cost)+0:Nat):Int)<=_
  rcases qav xs i with ⟨e1,l1⟩ | ⟨e1,l1⟩
  ·omega
  ·exact absurd (l1 10) (fun h0=>by
    unfold qhc at h
    rw[h0] at h
    split at h<;>simp at h)
 refine⟨.effect true a b .nil,5,0,_,true,a.fo (b.fo .nil),i2,rfl,⟨⟨⟨h1.1,h1.2.1,h4.1,h4.2.1⟩,trivial⟩,Nat.zero_le _,by simp only[Ss.edp]; omega,by simp only[Ss.fo,qaQ,qbX,qa1]; omega,hco⟩,h5,?_⟩
 refine Z_call (pf:=F162) rfl rfl ?_
 unfold qhc at h
 by_cases hd:d<=0
 ·rw[if_pos hd] at h
  simp[F162,n1,hd,h,h3,h6,o]
 ·rw[if_neg hd] at h
  simp[F162,n1,hd,h,h3,h6,o]
theorem qrH (h:qhc xs d i=6):GS xs d i:=by
 have n1:=qbt (i:=i) (m:=10) hx (qbC hl) hi (by omega)
 have r1:=qaA hi (qbC hl)
 have n2:=qbt (i:=qaE xs i) (m:=3) hx (qbC hl) r1 (by omega)
 have r2:=qaA r1 (qbC hl)
 have p:=qbm (i:=qaE xs i) (m:=3) hx (by omega)
 have hp:=qjP d.toNat
 by_cases h0:0<qaD xs (qaE xs i) 3
 ·obtain⟨e,i',h1,h2,h3⟩:=qnE hx hl 1 1 _ (by omega) (by omega) r2
  rw[show (1:Int).toNat=1 from rfl] at h1
  have o:=qpG 1 ⟨#[110]⟩ e.kind e.num e.str e.kids (by simp) (by simp)
  have hz:mxs 1=3:=rfl
  have hco:Co 8 (Ss.cost (.assign true ⟨#[110]⟩ e .nil)) xs i i':=by
   obtain⟨q1,q2,q3⟩:=h1.2.2.2.2
   show _/\_/\((1+5+e.cost+0:Nat):Int)<=_
   rcases qav xs i with ⟨e1,l1⟩ | ⟨e1,l1⟩
   ·rcases qav xs (qaE xs i) with ⟨e2,l2⟩ | ⟨e2,l2⟩<;>omega
   ·exact absurd (l1 10) (fun h0=>by
     unfold qhc at h
     rw[h0] at h
     split at h<;>simp at h)
  refine⟨.assign true ⟨#[110]⟩ e .nil,1,0,_,true,e.fo .nil,i',rfl,⟨⟨⟨by simp[qvQ,qnZ],h1.1,h1.2.1⟩,trivial⟩,Nat.zero_le _,by simp only[Ss.edp]; omega,by simp only[Ss.fo,qaQ,qbX,qa1]; omega,hco⟩,h2,?_⟩
  refine Z_call (pf:=F162) rfl rfl ?_
  unfold qhc at h
  by_cases hd:d<=0
  ·rw[if_pos hd] at h
   simp[F162,n1,n2,hd,h,h0,h3,o]
  ·rw[if_neg hd] at h
   simp[F162,n1,n2,hd,h,h0,h3,o]
 ·have hco:Co 8 (Ss.cost (.stop .nil)) xs i (qaE xs (qaE xs i)):=by
   show _/\_/\((7+0:Nat):Int)<=_
   rcases qav xs i with ⟨e1,l1⟩ | ⟨e1,l1⟩<;>rcases qav xs (qaE xs i) with ⟨e2,l2⟩ | ⟨e2,l2⟩<;>omega
  refine⟨.stop .nil,6,0,_,false,.nil,_,rfl,⟨trivial,Nat.zero_le _,Nat.zero_le _,by simp only[Ss.fo,qaQ,qa1]; omega,hco⟩,r2,?_⟩
  refine Z_call (pf:=F162) rfl rfl ?_
  unfold qhc at h
  by_cases hd:d<=0
  ·rw[if_pos hd] at h
   simp[F162,n1,n2,hd,h,h0]
  ·rw[if_neg hd] at h
   simp[F162,n1,n2,hd,h,h0]
theorem qqj (hd : ¬ d<=0) (hd2:d<=1000) (ih : ∀ j,0<=j/\j<=100->GK xs (d-1) 2 j) (h:qaD xs i 10=7):GS xs d i:=by
 have n1:=qbt (i:=i) (m:=10) hx (qbC hl) hi (by omega)
 have r1:=qaA hi (qbC hl)
 obtain⟨c,i1,h1,h2,h3⟩:=qrO hx hl 1 1 _ (by omega) (by omega) (by omega) r1
 obtain⟨b,i2,h4,h5,h6⟩:=ih _ h2
 rw[show (1:Int).toNat=1 from rfl] at h1
 have ed:d.toNat=(d-1).toNat+1:=by omega
 rw[show (2:Int).toNat=2 from rfl] at h4
 have hz:mxs (1+1)=7:=rfl
 have o:=qnY 4 ⟨#[]⟩ c.kind c.num 7 0 c.str ⟨#[]⟩ c.kids (kd false b.fo.len b.fo.cells) (by simp) (by simp) (by simp) (by simp)
 have w1:=qag (d-1) (by omega)
 have hco:Co 8 (Ss.cost (.cond true true c (.block false b .nil) .nil)) xs i i2:=by
  obtain⟨q1,q2,q3⟩:=h1.2.2.2.2
  obtain⟨u1,u2,u3⟩:=h4.2.2.2.2
  show _/\_/\((6+c.cost+(4+b.cost+(0+0))+0:Nat):Int)<=_
  rcases qav xs i with ⟨e1,l1⟩ | ⟨e1,l1⟩
  ·omega
  ·exact absurd (l1 10) (by omega)
 refine⟨.cond true true c (.block false b .nil) .nil,4,0,_,true,c.fo (.cons 7 0 ⟨#[]⟩ false b.fo .nil),i2,rfl,⟨⟨⟨h1.1,h1.2.1⟩,h4.1,trivial⟩,by simp only[Ss.dp]; omega,by simp only[Ss.edp]; omega,by rw[ed]; simp only[Ss.fo,qaQ,qbX,qa1,ssz]; omega,hco⟩,h5,?_⟩
 refine Z_call (pf:=F162) rfl rfl ?_
 simp[F162,n1,hd,h,h3,h6,o,w1]
theorem qwN (hd : ¬ d<=0) (hd2:d<=1000) (ih : ∀ j,0<=j/\j<=100->GK xs (d-1) 2 j) (h:8<=qaD xs i 10):GS xs d i:=by
 have n1:=qbt (i:=i) (m:=10) hx (qbC hl) hi (by omega)
 have r1:=qaA hi (qbC hl)
 obtain⟨c,i1,h1,h2,h3⟩:=qrO hx hl 2 2 _ (by omega) (by omega) (by omega) r1
 obtain⟨a,i2,h4,h5,h6⟩:=ih _ h2
 have n2:=qbt (i:=i2) (m:=2) hx (qbC hl) h5 (by omega)
 have r2:=qaA h5 (qbC hl)
 obtain⟨b,i3,h7,h8,h9⟩:=ih _ r2
 rw[show (2:Int).toNat=2 from rfl] at h1 h4 h7
 have ed:d.toNat=(d-1).toNat+1:=by omega
 have hz:mxs (2+1)=15:=rfl
 have w1:=qag (d-1) (by omega)
 have k0 : ¬ qaD xs i 10=0:=by omega
 have k1 : ¬ qaD xs i 10=1:=by omega
 have k2 : ¬ qaD xs i 10=2:=by omega
 have k3 : ¬ qaD xs i 10=3:=by omega
 have k4 : ¬ qaD xs i 10=4:=by omega
 have k5 : ¬ qaD xs i 10=5:=by omega
 have k6 : ¬ qaD xs i 10=6:=by omega
 have k7 : ¬ qaD xs i 10=7:=by omega
 by_cases h0:qaD xs i2 2=1
 ·have hco:Co 8 (Ss.cost (.cond false true c (.block false a (.block false b .nil)) .nil)) xs i i3:=by
   have hl:(if qcF (.block false b .nil)=true then 5 else 0)<=5:=by split<;>omega
   obtain⟨q1,q2,q3⟩:=h1.2.2.2.2
   obtain⟨u1,u2,u3⟩:=h4.2.2.2.2
   obtain⟨v1,v2,v3⟩:=h7.2.2.2.2
   show _/\_/\((3+c.cost+(4+a.cost+((if qcF (.block false b .nil)=true then 5 else 0)+(4+b.cost+(0+0))))+0:Nat):Int)<=_
   rcases qav xs i with ⟨e1,l1⟩ | ⟨e1,l1⟩
   ·rcases qav xs i2 with ⟨e2,l2⟩ | ⟨e2,l2⟩<;>omega
   ·exact absurd (l1 10) (by omega)
  refine⟨.cond false true c (.block false a (.block false b .nil)) .nil,3,0,_,true,c.fo (.cons 7 0 ⟨#[]⟩ false a.fo (.cons 7 0 ⟨#[]⟩ false b.fo .nil)),i3,rfl,⟨⟨⟨h1.1,h1.2.1⟩,h4.1,h7.1,trivial⟩,by simp only[Ss.dp]; omega,by simp only[Ss.edp]; omega,by rw[ed]; simp only[Ss.fo,qaQ,qbX,qa1,ssz]; omega,hco⟩,h8,?_⟩
  refine Z_call (pf:=F162) rfl rfl ?_
  simp[F162,n1,n2,hd,h0,k0,k1,k2,k3,k4,k5,k6,k7,h3,h6,h9,w1,List.range_succ]
 ·have hco:Co 8 (Ss.cost (.cond false true c (.block false a (.block false .nil .nil)) .nil)) xs i (qaE xs i2):=by
   obtain⟨q1,q2,q3⟩:=h1.2.2.2.2
   obtain⟨u1,u2,u3⟩:=h4.2.2.2.2
   show _/\_/\((3+c.cost+(4+a.cost+(0+(4+0+(0+0))))+0:Nat):Int)<=_
   rcases qav xs i with ⟨e1,l1⟩ | ⟨e1,l1⟩
   ·rcases qav xs i2 with ⟨e2,l2⟩ | ⟨e2,l2⟩<;>omega
   ·exact absurd (l1 10) (by omega)
  refine⟨.cond false true c (.block false a (.block false .nil .nil)) .nil,3,0,_,true,c.fo (.cons 7 0 ⟨#[]⟩ false a.fo (.cons 7 0 ⟨#[]⟩ false .nil .nil)),_,rfl,⟨⟨⟨h1.1,h1.2.1⟩,h4.1,trivial,trivial⟩,by simp only[Ss.dp]; omega,by simp only[Ss.edp]; omega,by rw[ed]; simp only[Ss.fo,qaQ,qbX,qa1,ssz]; omega,hco⟩,r2,?_⟩
  refine Z_call (pf:=F162) rfl rfl ?_
  simp[F162,n1,n2,hd,h0,k0,k1,k2,k3,k4,k5,k6,k7,h3,h6,w1,List.range_succ]
end
end Go.Pm
end SG3
section SG4
namespace Go.Pm
open F
theorem qm6 {a b:Ss} (ha:a.fine) (hb:b.fine):(a.app b).fine:=by
 fun_induction Ss.fine a with
 | case1=>exact hb
 | case2 _ _ _ _ ih=>exact⟨ha.1,ih ha.2⟩
 | case3 _ _ _ _ _ ih=>exact⟨ha.1,ih ha.2⟩
 | case4 _ _ _ _ ih=>exact⟨ha.1,ih ha.2⟩
 | case5 _ ih=>exact ih ha
 | case6 _ _ _ _ _ _ _ _ _ ih=>exact⟨ha.1,ha.2.1,ha.2.2.1,ih ha.2.2.2⟩
 | case7 _ _ _ _ _ _ ih=>exact⟨ha.1,ha.2.1,ih ha.2.2⟩
 | case8=>exact ha.elim
theorem qm7 {a:Ss} (b:Ss) (ha:a.fine):(a.app b).cost=a.cost+b.cost:=by
 fun_induction Ss.fine a with
 | case1=>simp[Ss.app,Ss.cost]
 | case2 _ _ _ _ ih=>simp only[Ss.app,Ss.cost,ih ha.2]; omega
 | case3 _ _ _ _ _ ih=>simp only[Ss.app,Ss.cost,ih ha.2]; omega
 | case4 _ _ _ _ ih=>simp only[Ss.app,Ss.cost,ih ha.2]; omega
 | case5 _ ih=>simp only[Ss.app,Ss.cost,ih ha]; omega
 | case6 _ _ _ _ _ _ _ _ _ ih=>simp only[Ss.app,Ss.cost,ih ha.2.2.2]; omega
 | case7 _ _ _ _ _ _ ih=>simp only[Ss.app,Ss.cost,ih ha.2.2]; omega
 | case8=>exact ha.elim
theorem qrY (a b:Ss):(a.app b).dp=max a.dp b.dp:=by
 induction a<;>simp_all [Ss.app,Ss.dp,Nat.max_assoc]
theorem qpi (a b:Ss):(a.app b).edp=max a.edp b.edp:=by
 induction a<;>simp_all [Ss.app,Ss.edp,Nat.max_assoc]
section
variable {xs:List Int} {i d c:Int}
abbrev z4O:Ob := .cells [.int 0,.int 0,.str ⟨#[]⟩,.dat (.lit (.slice none 0 0))]
abbrev B0 (xs:List Int) (i:Int):S:=[.cells [.dat (qem xs),.int i],z4O,.cells [.int 7,.int 0,.str ⟨#[]⟩,.dat (.lit (.slice none 0 0))]]
abbrev B1 (xs:List Int) (i:Int) (pre:Fo):S:=[.cells [.dat (qem xs),.int i],z4O,.cells [.int 7,.int 0,.str ⟨#[]⟩,.gsl pre.cells pre.len 4 3],.tip pre.cells.length]
abbrev bfr (d c:Int):Fr:=[(0,.ptr 0 0),(1,.int d),(6,.ptr 1 0),(7,.ptr 2 0),(8,.int c)]
theorem qvw:Z qbz (.loop 1 F137l0 (bfr d 0) (B0 xs i))=some (.out (.exit 0) (bfr d 0++[(15,.bool false)]) (B0 xs i)):=by
 rw[qac]
 simp[qad,qe7,List.range_succ]
theorem qvx {pre:Fo}:Z qbz (.loop 1 F137l0 (bfr d 0) (B1 xs i pre))=some (.out (.exit 0) (bfr d 0++[(15,.bool false)]) (B1 xs i pre)):=by
 rw[qac]
 simp[qad,qe7,List.range_succ]
theorem qtk {i':Int} {k n:Int} {s:ByteArray} {f:Bool} {ks:Fo} (hc:0<c) (hc':c<100) (h:Z qbz (.call 162 [.ptr 0 0,.int d] (gst xs i))=some (.ret (nd k n s f ks) (gst xs i'))) :
  Z qbz (.loop 1 F137l0 (bfr d c) (B0 xs i))=Z qbz (.loop 1 F137l0 (bfr d (c-1)) (B1 xs i' (.cons k n s f ks .nil))):=by
 have w1:=qag (c-1) (by omega)
 conv=>lhs; rw[qac]
 simp[qad,qe7,hc,h,w1,qcW,qn9,qaZ,bfr,B1,z4O,List.range_succ]
theorem qtl {i':Int} {k n:Int} {s:ByteArray} {f:Bool} {ks pre:Fo} (hp:pre.len<1000) (hc:0<c) (hc':c<100) (h:Z qbz (.call 162 [.ptr 0 0,.int d] (gst xs i))=some (.ret (nd k n s f ks) (gst xs i'))) :
  Z qbz (.loop 1 F137l0 (bfr d c) (B1 xs i pre))=Z qbz (.loop 1 F137l0 (bfr d (c-1)) (B1 xs i' (pre.app (.cons k n s f ks .nil)))):=by
 have w1:=qag (c-1) (by omega)
 have r1:qaZ (pre.len+1) 56=true:=by simp[qaZ]; omega
 have hl:=qhb pre
 have hl2:=qha pre (.cons k n s f ks .nil)
 have hl3:=qdA pre (.cons k n s f ks .nil)
 simp only[qaw,qaz,qaG,qaN] at hl2 hl3
 conv=>lhs; rw[qac]
 simp[qad,qe7,hc,h,w1,qcW,qn9,r1,hl,hl2,hl3,bfr,B1,z4O,List.range_succ]
theorem qpj (hS : ∀ j,0<=j/\j<=100->GS xs d j) : ∀ (m:Nat) (j:Int) (pre:Fo),m<=3->(0<=j/\j<=100)->pre.len+m<1000->0<pre.len ->
  ∃ (b:Ss) (i':Int),(b.fine/\b.dp<=d.toNat/\b.edp<=3/\b.fo.size<=m*ssz d.toNat/\Co (8*m) b.cost xs j i')/\(0<=i'/\i'<=100)/\Z qbz (.loop 1 F137l0 (bfr d m) (B1 xs j pre))=some (.out (.exit 0) (bfr d 0++[(15,.bool false)]) (B1 xs i' (pre.app b.fo)))
 | 0,j,pre,_,h1,hp,hp0=>⟨.nil,j,⟨trivial,Nat.zero_le _,Nat.zero_le _,by simp[Ss.fo],by show _/\_/\((0:Nat):Int)<=_; omega⟩,h1,by rw[show pre.app Ss.nil.fo=pre from qtO pre]; exact qvx⟩
 | m+1,j,pre,hm,h1,hp,hp0=>by
  obtain⟨st,k,n,s,f,ks,i1,g1,g2,g3,g4⟩:=hS j h1
  obtain⟨b,i2,k1,k2,k3⟩:=qpj hS m i1 (pre.app (.cons k n s f ks .nil)) (by omega) g3 (by rw[qdA]; simp; omega) (by rw[qdA]; simp)
  have hstep:=qtl (d:=d) (c:=(m+1:Nat)) (by omega:pre.len<1000) (by omega) (by omega) g4
  rw[show ((m+1:Nat):Int)-1=m by omega] at hstep
  have hco:Co (8*((m+1:Nat):Int)) (st.app b).cost xs j i2:=by
   obtain⟨q1,q2,q3⟩:=g2.2.2.2.2
   obtain⟨u1,u2,u3⟩:=k1.2.2.2.2
   unfold Co
   rw[qm7 b g2.1]
   omega
  refine⟨st.app b,i2,⟨qm6 g2.1 k1.1,by rw[qrY]; omega,by rw[qpi]; omega,by rw[qij,qih,Nat.succ_mul]; omega,hco⟩,k2,?_⟩
  rw[hstep,k3,qij,<- qpE,g1]
theorem qpk (hx : ∀ x∈xs,I64 x) (hl:xs.length<=100) (hi:0<=i/\i<=100) {m:Int} (hm:0<=m) (hm4:m<=3) (hS : ∀ j,0<=j/\j<=100->GS xs d j):GK xs d m i:=by
 have n1:=qbt (i:=i) (m:=m+1) hx (qbC hl) hi (by omega)
 have l1:=qbm (i:=i) (m:=m+1) hx (by omega)
 have r1:=qaA hi (qbC hl)
 have w1:=qag (m+1) (by omega)
 by_cases h0:qaD xs i (m+1)=0
 ·refine⟨.nil,_,⟨trivial,Nat.zero_le _,Nat.zero_le _,by simp[Ss.fo],by show _/\_/\((0:Nat):Int)<=_; rcases qav xs i with ⟨e1,l1⟩ | ⟨e1,l1⟩<;>omega⟩,r1,?_⟩
  have h:=qvw (xs:=xs) (i:=qaE xs i) (d:=d)
  refine Z_call (pf:=F137) rfl rfl ?_
  simp only[bfr,List.cons_append,List.nil_append] at h
  simp[F137,n1,w1,h0,h,Ss.fo,List.range_succ]
 ·obtain⟨q,hq⟩ : ∃ q:Nat,qaD xs i (m+1)=((q+1:Nat):Int):=⟨(qaD xs i (m+1)-1).toNat,by omega⟩
  obtain⟨st,k,n,s,f,ks,i1,g1,g2,g3,g4⟩:=hS _ r1
  obtain⟨b,i2,k1,k2,k3⟩:=qpj hS q i1 (.cons k n s f ks .nil) (by omega) g3 (by simp; omega) (by simp)
  have hstep:=qtk (d:=d) (c:=(q+1:Nat)) (by omega) (by omega) g4
  rw[show ((q+1:Nat):Int)-1=q by omega,k3,<- g1,<- qij,<- hq] at hstep
  have hmul:(q+1)*ssz d.toNat<=m.toNat*ssz d.toNat:=Nat.mul_le_mul_right _ (by omega)
  rw[Nat.succ_mul] at hmul
  have hco:Co 0 (st.app b).cost xs i i2:=by
   obtain⟨q1,q2,q3⟩:=g2.2.2.2.2
   obtain⟨u1,u2,u3⟩:=k1.2.2.2.2
   unfold Co
   rw[qm7 b g2.1]
   rcases qav xs i with ⟨e1,l1⟩ | ⟨e1,l1⟩
   ·omega
   ·exact absurd (l1 (m+1)) h0
  refine⟨st.app b,i2,⟨qm6 g2.1 k1.1,by rw[qrY]; omega,by rw[qpi]; omega,by rw[qij,qih]; omega,hco⟩,k2,?_⟩
  have hpos:(st.app b).fo.len≠0:=by rw[qij,qdA,g1]; simp
  obtain⟨z,hz⟩ : ∃ z,(st.app b).fo.len=z+1:=⟨(st.app b).fo.len-1,by omega⟩
  have hg:=qhb (st.app b).fo
  refine Z_call (pf:=F137) rfl rfl ?_
  simp only[bfr,List.cons_append,List.nil_append] at hstep
  generalize (st.app b).fo=fo at *
  simp[F137,n1,w1,hstep,hz,List.range_succ]
theorem qwf (hx : ∀ x∈xs,I64 x) (hl:xs.length<=100) : ∀ (n:Nat),n<=50->(∀ j,0<=j/\j<=100->GS xs n j)/\(∀ j,0<=j/\j<=100 -> ∀ m,0<=m->m<=3->GK xs n m j)
 | 0,_=>by
  have hs : ∀ j,0<=j/\j<=100->GS xs (0:Nat) j:=fun i hi=>by
   have p:=qbm (i:=i) (m:=10) hx (by omega)
   have q:=qhv p.1 (m:=7) (by omega)
   have e:qhc xs (0:Nat) i=(qaD xs i 10).tmod 7:=if_pos (by simp)
   by_cases h1:qhc xs (0:Nat) i<2
   ·exact qkW hx hl hi (by omega)
   by_cases h2:qhc xs (0:Nat) i<5
   ·exact qmJ hx hl hi (by omega)
   by_cases h3:qhc xs (0:Nat) i=5
   ·exact qkX hx hl hi h3
   ·exact qrH hx hl hi (by omega)
  exact⟨hs,fun j hj m h0 h3=>qpk hx hl hj h0 h3 hs⟩
 | n+1,hn=>by
  have ih:=(qwf hx hl n (by omega)).2
  have hd : ¬ ((n+1:Nat):Int)<=0:=by omega
  have hs : ∀ j,0<=j/\j<=100->GS xs (n+1:Nat) j:=fun i hi=>by
   have p:=qbm (i:=i) (m:=10) hx (by omega)
   have e:qhc xs (n+1:Nat) i=qaD xs i 10:=if_neg hd
   have ih' : ∀ j,0<=j/\j<=100->GK xs (((n+1:Nat):Int)-1) 2 j:=fun j hj=>by
    rw[show ((n+1:Nat):Int)-1=n by omega]; exact ih j hj 2 (by omega) (by omega)
   by_cases h1:qhc xs (n+1:Nat) i<2
   ·exact qkW hx hl hi (by omega)
   by_cases h2:qhc xs (n+1:Nat) i<5
   ·exact qmJ hx hl hi (by omega)
   by_cases h3:qhc xs (n+1:Nat) i=5
   ·exact qkX hx hl hi h3
   by_cases h4:qhc xs (n+1:Nat) i=6
   ·exact qrH hx hl hi h4
   by_cases h5:qhc xs (n+1:Nat) i=7
   ·exact qqj hx hl hi hd (by omega) ih' (by omega)
   ·exact qwN hx hl hi hd (by omega) ih' (by omega)
  exact⟨hs,fun j hj m h0 h3=>qpk hx hl hj h0 h3 hs⟩
end
end Go.Pm
end SG4
section SG5
namespace Go.Pm
open F
theorem qtE (o:Option Addr) (m:Int) (hm:0<=m):Z qbz (.call 23 [.dat (.lit (.slice o 0 0)),.int m] [])=some (.ret (.dat (qem [])) []):=by
 refine Z_call (pf:=F23) rfl rfl ?_
 have h : ¬ m<0:=by omega
 simp[F23,V.len,qp1,qmI,h,qhN,bound,qcW,qn9,qem]
theorem qnS (xs:List Int) (k:Nat):(qcK xs).take k=qcK (xs.take k):=by simp[qcK,List.map_take]
theorem qtF (xs:List Int) (k:Nat) (hk:k<=1000):Z qbz (.call 23 [.dat (.sl (qcK xs) xs.length false),.int k] [])=some (.ret (.dat (qem (xs.take k))) []):=by
 refine Z_call (pf:=F23) rfl rfl ?_
 have hl:(qcK xs).length=xs.length:=by simp[qcK]
 have key : ∃ m:Nat,(if k<xs.length then (k:Int) else (xs.length:Int))=(m:Int)/\m<=xs.length/\m<=1000/\xs.take k=xs.take m/\(xs.take m).length=m:=by
  by_cases h:k<xs.length
  ·exact⟨k,by simp[h],by omega,hk,rfl,by simp; omega⟩
  ·exact⟨xs.length,by simp[h],Nat.le_refl _,by omega,by rw[List.take_of_length_le (by omega),List.take_of_length_le (Nat.le_refl _)],by simp⟩
 obtain⟨m,e1,e2,e3,e4,e5⟩:=key
 rw[e4]
 cases hm:xs.take m with
 | nil=>
  rw[hm] at e5
  simp at e5
  subst e5
  simp[F23,V.len,qp1,qmI,e1,qhN,bound,qcW,qn9,qem,hl]
 | cons y ys=>
  have hm':=e5
  rw[hm] at hm'
  simp only[List.length_cons] at hm'
  have hne:m≠0:=by omega
  have hr:qaZ m 8=true:=by simp[qaZ]; omega
  have ht:(qcK xs).take m=qcK (y::ys):=by rw[qnS,hm]
  have hlen:(qcK (y::ys)).length=m:=by simp[qcK]; omega
  simp[F23,V.len,qp1,qmI,e1,qhN,bound,qcW,qn9,qem,hl,e2,ht,hlen,hne,hr,hm']
theorem qvJ {v:D} {xs:List Int} (h:RowV v xs) (k:Nat) (hk:k<=1000):Z qbz (.call 23 [.dat v,.int k] [])=some (.ret (.dat (qem (xs.take k))) []):=by
 rcases h with ⟨o,rfl,rfl⟩ | rfl
 ·simpa using qtE o k (by omega)
 ·exact qtF xs k hk
def Hd.ss:Hd->Ss
 | .none => .nil
 | .some _ b=>b
structure Hd.fine (h:Hd):Prop where
 fine:h.ss.fine
 size:h.ss.fo.size<=2000
def Hd.cost:Hd->Nat
 | .none=>0
 | .some _ b=>12+b.cost
structure Hd.gen (h:Hd):Prop extends h.fine where
 f:h.f=false
 dp:h.ss.dp<=2
 edp:h.ss.edp<=3
 gsize:h.ss.fo.size<=1260
theorem qkf:Hd.none.gen:=⟨⟨trivial,Nat.zero_le _⟩,rfl,Nat.zero_le _,Nat.zero_le _,Nat.zero_le _⟩
abbrev z12:Ob := .cells [.int 0,.int 0,.str ⟨#[]⟩,.dat (.lit (.slice none 0 0)),.int 0,.int 0,.str ⟨#[]⟩,.dat (.lit (.slice none 0 0)),.int 0,.int 0,.str ⟨#[]⟩,.dat (.lit (.slice none 0 0))]
abbrev tst (xs:List Int) (i:Int) (a b c:Nd):S:=[z12,.cells [.dat (qem xs),.int i],qmh a b c]
abbrev tfr (h:Int):Fr:=[(2,.ptr 0 0),(3,.ptr 1 0),(4,.ptr 2 0),(5,.int h)]
section
variable {xs:List Int} {i:Int} {a b c:Nd}
theorem qxv:Z qbz (.loop 0 F123l0 (tfr 3) (tst xs i a b c))=some (.out (.exit 0) (tfr 3++[(11,.bool false)]) (tst xs i a b c)):=by
 rw[qac]
 simp[qad,qcT,List.range_succ]
theorem qtG (hx : ∀ x∈xs,I64 x) (hl:xs.length<=100) (hi:0<=i/\i<=100) : ∃ (g:Hd) (i':Int),g.gen/\(0<=i'/\i'<=100)/\Co 0 g.cost xs i i'/\Z qbz (.loop 0 F123l0 (tfr 0) (tst xs i Hd.none.nd b c))=Z qbz (.loop 0 F123l0 (tfr 1) (tst xs i' g.nd b c)):=by
 have n1:=qbt (i:=i) (m:=4) hx (qbC hl) hi (by omega)
 have r1:=qaA hi (qbC hl)
 have w1:=qag 1 (by omega)
 by_cases h2:0<qaD xs i 4
 ·obtain⟨q,i',k1,k2,k3⟩:=(qwf hx hl 2 (by omega)).2 _ r1 3 (by omega) (by omega)
  have hs:ssz 2=420:=rfl
  rw[show ((2:Nat):Int).toNat=2 from rfl,show (3:Int).toNat=3 from rfl,hs] at k1
  have hco:Co 0 (Hd.cost (.some false q)) xs i i':=by
   obtain⟨u1,u2,u3⟩:=k1.2.2.2.2
   show _/\_/\((12+q.cost:Nat):Int)<=_
   rcases qav xs i with ⟨e1,l1⟩ | ⟨e1,l1⟩
   ·omega
   ·exact absurd (l1 4) (by omega)
  refine⟨.some false q,i',⟨⟨k1.1,by show q.fo.size<=2000; have:=k1.2.2.2.1; omega⟩,rfl,k1.2.1,k1.2.2.1,k1.2.2.2.1⟩,k2,hco,?_⟩
  simp at k3
  conv=>lhs; rw[qac]
  simp[qad,qcT,n1,h2,k3,w1,Nd.d,Hd.k,Hd.f,Hd.ks,tfr,tst,qmh,List.range_succ]
 ·have hco:Co 0 (Hd.cost .none) xs i (qaE xs i):=by
   show _/\_/\((0:Nat):Int)<=_
   rcases qav xs i with ⟨e1,l1⟩ | ⟨e1,l1⟩<;>omega
  refine⟨.none,_,qkf,r1,hco,?_⟩
  conv=>lhs; rw[qac]
  simp[qad,qcT,n1,h2,w1,Nd.d,Hd.k,Hd.f,Hd.ks,tfr,tst,qmh,List.range_succ]
theorem qtH (hx : ∀ x∈xs,I64 x) (hl:xs.length<=100) (hi:0<=i/\i<=100) : ∃ (g:Hd) (i':Int),g.gen/\(0<=i'/\i'<=100)/\Co 0 g.cost xs i i'/\Z qbz (.loop 0 F123l0 (tfr 1) (tst xs i a Hd.none.nd c))=Z qbz (.loop 0 F123l0 (tfr 2) (tst xs i' a g.nd c)):=by
 have n1:=qbt (i:=i) (m:=4) hx (qbC hl) hi (by omega)
 have r1:=qaA hi (qbC hl)
 have w1:=qag 2 (by omega)
 by_cases h2:0<qaD xs i 4
 ·obtain⟨q,i',k1,k2,k3⟩:=(qwf hx hl 2 (by omega)).2 _ r1 3 (by omega) (by omega)
  have hs:ssz 2=420:=rfl
  rw[show ((2:Nat):Int).toNat=2 from rfl,show (3:Int).toNat=3 from rfl,hs] at k1
  have hco:Co 0 (Hd.cost (.some false q)) xs i i':=by
   obtain⟨u1,u2,u3⟩:=k1.2.2.2.2
   show _/\_/\((12+q.cost:Nat):Int)<=_
   rcases qav xs i with ⟨e1,l1⟩ | ⟨e1,l1⟩
   ·omega
   ·exact absurd (l1 4) (by omega)
  refine⟨.some false q,i',⟨⟨k1.1,by show q.fo.size<=2000; have:=k1.2.2.2.1; omega⟩,rfl,k1.2.1,k1.2.2.1,k1.2.2.2.1⟩,k2,hco,?_⟩
  simp at k3
  conv=>lhs; rw[qac]
  simp[qad,qcT,n1,h2,k3,w1,Nd.d,Hd.k,Hd.f,Hd.ks,tfr,tst,qmh,List.range_succ]
 ·have hco:Co 0 (Hd.cost .none) xs i (qaE xs i):=by
   show _/\_/\((0:Nat):Int)<=_
   rcases qav xs i with ⟨e1,l1⟩ | ⟨e1,l1⟩<;>omega
  refine⟨.none,_,qkf,r1,hco,?_⟩
  conv=>lhs; rw[qac]
  simp[qad,qcT,n1,h2,w1,Nd.d,Hd.k,Hd.f,Hd.ks,tfr,tst,qmh,List.range_succ]
theorem qtI (hx : ∀ x∈xs,I64 x) (hl:xs.length<=100) (hi:0<=i/\i<=100) : ∃ (g:Hd) (i':Int),g.gen/\(0<=i'/\i'<=100)/\Co 0 g.cost xs i i'/\Z qbz (.loop 0 F123l0 (tfr 2) (tst xs i a b Hd.none.nd))=Z qbz (.loop 0 F123l0 (tfr 3) (tst xs i' a b g.nd)):=by
 have n1:=qbt (i:=i) (m:=4) hx (qbC hl) hi (by omega)
 have r1:=qaA hi (qbC hl)
 have w1:=qag 3 (by omega)
 by_cases h2:0<qaD xs i 4
 ·obtain⟨q,i',k1,k2,k3⟩:=(qwf hx hl 2 (by omega)).2 _ r1 3 (by omega) (by omega)
  have hs:ssz 2=420:=rfl
  rw[show ((2:Nat):Int).toNat=2 from rfl,show (3:Int).toNat=3 from rfl,hs] at k1
  have hco:Co 0 (Hd.cost (.some false q)) xs i i':=by
   obtain⟨u1,u2,u3⟩:=k1.2.2.2.2
   show _/\_/\((12+q.cost:Nat):Int)<=_
   rcases qav xs i with ⟨e1,l1⟩ | ⟨e1,l1⟩
   ·omega
   ·exact absurd (l1 4) (by omega)
  refine⟨.some false q,i',⟨⟨k1.1,by show q.fo.size<=2000; have:=k1.2.2.2.1; omega⟩,rfl,k1.2.1,k1.2.2.1,k1.2.2.2.1⟩,k2,hco,?_⟩
  simp at k3
  conv=>lhs; rw[qac]
  simp[qad,qcT,n1,h2,k3,w1,Nd.d,Hd.k,Hd.f,Hd.ks,tfr,tst,qmh,List.range_succ]
 ·have hco:Co 0 (Hd.cost .none) xs i (qaE xs i):=by
   show _/\_/\((0:Nat):Int)<=_
   rcases qav xs i with ⟨e1,l1⟩ | ⟨e1,l1⟩<;>omega
  refine⟨.none,_,qkf,r1,hco,?_⟩
  conv=>lhs; rw[qac]
  simp[qad,qcT,n1,h2,w1,Nd.d,Hd.k,Hd.f,Hd.ks,tfr,tst,qmh,List.range_succ]
end
theorem qnT {v:D} {xs:List Int} (h:RowV v xs) (hx : ∀ x∈xs,I64 x) : ∃ a b c:Hd,a.gen/\b.gen/\(c.gen/\a.cost+(b.cost+c.cost)<=1440)/\Z qbz (.call 123 [.dat v] [])=some (.ret (.dat (ru a.nd b.nd c.nd)) []):=by
 have hx' : ∀ x∈xs.take 60,I64 x:=fun x hm=>hx x (List.mem_of_mem_take hm)
 have hl':(xs.take 60).length<=100:=by simp; omega
 have n0:=qvJ h 60 (by omega)
 obtain⟨a,i1,a1,a2,a3,a4⟩:=qtG (i:=0) (b:=Hd.none.nd) (c:=Hd.none.nd) hx' hl' (by omega)
 obtain⟨b,i2,b1,b2,b3,b4⟩:=qtH (i:=i1) (a:=a.nd) (c:=Hd.none.nd) hx' hl' a2
 obtain⟨c,i3,c1,c2,c3,c4⟩:=qtI (i:=i2) (a:=a.nd) (b:=b.nd) hx' hl' b2
 have hl:=a4.trans (b4.trans (c4.trans qxv))
 have hcost:a.cost+(b.cost+c.cost)<=1440:=by
  obtain⟨p1,p2,p3⟩:=a3
  obtain⟨q1,q2,q3⟩:=b3
  obtain⟨r1,r2,r3⟩:=c3
  have:(xs.take 60).length<=60:=by simp; omega
  omega
 refine⟨a,b,c,a1,b1,⟨c1,hcost⟩,?_⟩
 refine Z_call (pf:=F123) rfl rfl ?_
 simp only[tfr,tst,qmh,Nd.d,qyo,qyp,qyq,qyr,qxG,List.cons_append,List.nil_append,show Hd.k .none=0 from rfl,show Hd.f .none=false from rfl,show Hd.ks .none = .nil from rfl,z12,qaN,qaz,qrq] at hl
 simp at n0 hl
 simp[F123,n0,hl,ru,Nd.d,List.range_succ]
end Go.Pm
end SG5
section SUg
namespace Go.Pm
theorem qpr (f fi fb g gi gb:Bool) (s:ByteArray):qbQ f fi fb s=(qbQ g gi gb s).map (qtX f fi fb):=by
 by_cases hbig:2000<s.size
 ·rw[qbQ,if_pos hbig,qbQ,if_pos hbig]; rfl
 ·have h1:=qc0 (f:=f) (fi:=fi) (fb:=fb) hbig
  have h2:=qc0 (f:=g) (fi:=gi) (fb:=gb) hbig
  have h3:=qpU 12 2 f g fi fb gi gb 4 (10*(toks s).length+10) (fun _=>none) (toks s)
  rw[show qtX f fi fb (fun _=>none)=fun _=>none from rfl,h1,h2] at h3
  simpa using h3
theorem qll {f fi fb:Bool} {s:ByteArray} {a c:Nat} (h:qbQ f fi fb s = .er a c):c≠0:=by
 by_cases hbig:2000<s.size
 ·rw[qbQ,if_pos hbig] at h; cases h; omega
 ·have hn:=qog f fi fb (10*(toks s).length+10) (fun _=>none) (toks s)
  rw[qc0 hbig,h] at hn
  exact hn
def wt:List ByteArray->Nat
 | []=>0
 | t::l=>t.size+1+wt l
theorem qeY (a b:List ByteArray):wt (a++b)=wt a+wt b:=by
 induction a with
 | nil=>simp[wt]
 | cons t a ih=>simp only[List.cons_append,wt,ih]; omega
theorem qmd : ∀ (l:List ByteArray) (p:Bool),(qai p l).length<=wt l
 | [],p=>by simp[qai,wt]
 | t::l,p=>by
  have h1:=qmd l (qby p t)
  have h2:=qau t
  have h3:(gap p t).length<=1:=by unfold gap; split<;>simp
  simp only[qai,List.length_append,wt]
  omega
theorem qnf (b:Bool) (l:List ByteArray):wt (qbq b l)<=wt l+4:=by
 cases b with
 | false=>simp[qbq]
 | true=>
  have:wt (qbq true l)=2+(wt l+2):=by
   show wt (bs [40]::(l++[bs [41]]))=_
   rw[wt,qeY]
   rfl
  omega
theorem qif (full:Bool) : ∀ (e:E) p,wt (e.tx full p)<=e.cost
 | .int n,p=>by simp[E.tx,wt,E.cost,qao]
 | .bool n,p=>by
  simp only[E.tx,wt,E.cost]
  split<;>simp[qdQ,qgj,qao]
 | .var s,p=>by simp[E.tx,wt,E.cost]
 | .name s,p=>by simp[E.tx,wt,E.cost]
 | .field _ s e,p=>by
  have:=qif full e 1
  simp only[E.tx,wt,qeY,E.cost,qao,List.length_cons,List.length_nil]
  omega
 | .un _ neg e,p=>by
  have h1:=qif full e (qcM neg)
  have h2:=qnf (full||decide (qcM neg<p)) (ustr neg::e.tx full (qcM neg))
  have h3:(ustr neg).size=1:=by cases neg<;>rfl
  simp only[E.tx,E.cost]
  rw[wt,h3] at h2
  omega
 | .bin _ o a b,p=>by
  have h1:=qif full a o.left
  have h2:=qif full b (o.prec+1)
  have h3:=qnf (full||decide (o.prec<p)) (a.tx full o.left++o.str::b.tx full (o.prec+1))
  simp only[E.tx,E.cost]
  rw[qeY,wt] at h3
  omega
theorem qkb : ∀ s:Ss,wt s.tx<=s.cost
 | .nil=>Nat.le_refl _
 | .assign _ s e r=>by
  have h1:=qif false e 1
  have h2:=qkb r
  simp only[Ss.tx,wt,qeY,Ss.cost,qao,List.length_cons,List.length_nil]
  omega
 | .store _ s a b r=>by
  have h1:=qif false a 1
  have h3:=qif false b 1
  have h2:=qkb r
  simp only[Ss.tx,wt,qeY,Ss.cost,qao,List.length_cons,List.length_nil]
  omega
 | .effect _ a b r=>by
  have h1:=qif false a 1
  have h3:=qif false b 1
  have h2:=qkb r
  simp only[Ss.tx,wt,qeY,Ss.cost,ql6,qao,List.length_cons,List.length_nil]
  omega
 | .stop r=>by
  have h2:=qkb r
  simp only[Ss.tx,wt,qeY,Ss.cost,qta,qao,List.length_cons,List.length_nil]
  omega
 | .cond w _ c b r=>by
  have h1:=qif false c 1
  have h3:=qkb b
  have h2:=qkb r
  cases w<;>simp only[Ss.tx,wt,qeY,Ss.cost,qpb,ifS,qao,List.length_cons,List.length_nil,if_true,Bool.false_eq_true,if_false]<;>omega
 | .block _ b r=>by
  have h3:=qkb b
  have h2:=qkb r
  simp only[Ss.tx,wt,qeY,Ss.cost,qao,List.length_cons,List.length_nil]
  split
  ·simp only[wt,qj4,qao,List.length_cons,List.length_nil]; omega
  ·simp only[wt]; omega
theorem qhw {s:ByteArray} (h:s∈qvQ):qqW s/\s.size<=3:=by
 simp only[qvQ,qnZ,List.cons_append,List.nil_append,List.mem_cons,List.not_mem_nil,or_false] at h
 have key : ∀ (c:UInt8) (r:List UInt8),qaW c=true->(∀ b∈r,qat b=true)->(c::r).length<=8->Tg (byl (bs (c::r))):=fun c r h1 h2 h3=>ql1 h1 h2 h3
 rcases h with rfl | rfl | rfl | rfl | rfl
 ·exact⟨⟨key 105 [] (by decide) (by decide) (by decide),by decide,by decide,by decide⟩,by decide⟩
 ·exact⟨⟨key 110 [] (by decide) (by decide) (by decide),by decide,by decide,by decide⟩,by decide⟩
 ·exact⟨⟨key 115 [117,109] (by decide) (by decide) (by decide),by decide,by decide,by decide⟩,by decide⟩
 ·exact⟨⟨key 118 [51] (by decide) (by decide) (by decide),by decide,by decide,by decide⟩,by decide⟩
 ·exact⟨⟨key 118 [] (by decide) (by decide) (by decide),by decide,by decide,by decide⟩,by decide⟩
theorem qlm {s:ByteArray} (h:s∈qlr):(s=qvr\/s=qrU\/s=qh8)/\s.size<=5:=by
 simp only[qlr,List.mem_cons,List.not_mem_nil,or_false] at h
 rcases h with rfl | rfl | rfl
 ·exact⟨.inl rfl,by decide⟩
 ·exact⟨.inr (.inl rfl),by decide⟩
 ·exact⟨.inr (.inr rfl),by decide⟩
theorem qfk {s:ByteArray} (h:s∈qgs):s∈fieldNames/\s.size<=5:=by
 simp only[qgs,qhh,List.cons_append,List.nil_append,List.mem_cons,List.not_mem_nil,or_false] at h
 rcases h with rfl | rfl | rfl | rfl | rfl | rfl | rfl | rfl<;>exact⟨by decide,by decide⟩
theorem qrc {n:Nat} (h:n<=2147483647):(decB n).length<=10:=qjU 20 n 9 (by omega)
theorem qbF : ∀ e:E,e.fine->e.good
 | .int n,h=>h
 | .bool n,h=>h
 | .var s,h=>(qhw h).1
 | .name s,h=>(qlm h).1
 | .field _ s e,h=>⟨(qfk h.1).1,qbF e h.2.1⟩
 | .un _ neg e,h=>qbF e h.1
 | .bin _ o a b,h=>⟨qbF a h.1,qbF b h.2.1⟩
theorem qcI (full:Bool) : ∀ (e:E) p,e.nest full p<=2*e.dp
 | .int n,p | .bool n,p | .var s,p | .name s,p=>by simp[E.nest]
 | .field _ s e,p=>by have:=qcI full e 1; simp only[E.nest,E.dp]; omega
 | .un _ neg e,p=>by have:=qcI full e (qcM neg); simp only[E.nest,E.dp]; split<;>omega
 | .bin _ o a b,p=>by have h1:=qcI full a o.left; have h2:=qcI full b (o.prec+1); simp only[E.nest,E.dp]; split<;>omega
theorem qbG : ∀ e:E,e.fine->e.cost<=12*e.size
 | .int n,h=>by have:=qrc (n:=n.toNat) (by have:=h.2; omega); simp only[E.cost,qrm]; omega
 | .bool n,h=>by simp only[E.cost,qpC]; split<;>omega
 | .var s,h=>by have:=(qhw h).2; simp only[E.cost,qrn]; omega
 | .name s,h=>by have:=(qlm h).2; simp only[E.cost,qpD]; omega
 | .field _ s e,h=>by have h1:=(qfk h.1).2; have h2:=qbG e h.2.1; simp only[E.cost,qjk]; omega
 | .un _ neg e,h=>by have h2:=qbG e h.1; simp only[E.cost,qkj]; omega
 | .bin _ o a b,h=>by
  have h1:=qbG a h.1
  have h2:=qbG b h.2.1
  have h3:o.str.size<=2:=by cases o<;>decide
  simp only[E.cost,qgp]
  omega
theorem qjf {s:ByteArray} (h:s∈qhh):s∈qgs:=List.mem_append_left _ h
theorem qnP (s:Ss):s.fine->s.good none:=by
 fun_induction Ss.fine s with
 | case1=>intro _; exact .inl rfl
 | case2 _ s e r ih=>intro h; exact⟨rfl,(qhw h.1.1).1,qbF e h.1.2.1,ih h.2⟩
 | case3 _ s a b r ih=>intro h; exact⟨rfl,(qfk (qjf h.1.1)).1,qbF a h.1.2.1,qbF b h.1.2.2.2.1,ih h.2⟩
 | case4 _ a b r ih=>intro h; exact⟨rfl,qbF a h.1.1,qbF b h.1.2.2.1,ih h.2⟩
 | case5 r ih=>intro h; exact⟨rfl,ih h⟩
 | case6 _ c _ x _ y r ih1 ih2 ih3=>intro h; exact⟨rfl,qbF c h.1.1,⟨1,rfl,ih1 h.2.1,⟨0,rfl,ih2 h.2.2.1,.inr rfl⟩⟩,ih3 h.2.2.2⟩
 | case7 _ c _ x r ih1 ih2=>intro h; exact⟨rfl,qbF c h.1.1,⟨0,rfl,ih1 h.2.1,.inr rfl⟩,ih2 h.2.2⟩
 | case8=>intro h; exact h.elim
theorem qdw : ∀ s:Ss,s.nest<=2*s.edp+1+s.dp
 | .nil=>by simp[Ss.nest]
 | .assign _ s e r=>by have h1:=qcI false e 1; have h2:=qdw r; simp only[Ss.nest,Ss.edp,Ss.dp]; omega
 | .store _ s a b r=>by have h1:=qcI false a 1; have h3:=qcI false b 1; have h2:=qdw r; simp only[Ss.nest,Ss.edp,Ss.dp]; omega
 | .effect _ a b r=>by have h1:=qcI false a 1; have h3:=qcI false b 1; have h2:=qdw r; simp only[Ss.nest,Ss.edp,Ss.dp]; omega
 | .stop r=>by have h2:=qdw r; simp only[Ss.nest,Ss.edp,Ss.dp]; omega
 | .cond _ _ c b r=>by have h1:=qcI false c 1; have h3:=qdw b; have h2:=qdw r; simp only[Ss.nest,Ss.edp,Ss.dp]; omega
 | .block _ b r=>by have h3:=qdw b; have h2:=qdw r; simp only[Ss.nest,Ss.edp,Ss.dp]; omega
theorem qnQ (s:Ss):s.fine->s.cost<=20*s.fo.size:=by
 have hsz : ∀ {s:ByteArray},s∈qhh->s.size<=5:=fun h=>(qfk (qjf h)).2
 fun_induction Ss.fine s with
 | case1=>intro _; simp[Ss.cost]
 | case2 _ s e r ih=>
  intro h
  have h1:=ih h.2; have h2:=qbG e h.1.2.1; have h3:=(qhw h.1.1).2
  simp only[Ss.cost,Ss.fo,qaQ,qbX,qa1]; omega
 | case3 _ s a b r ih=>
  intro h
  have h1:=ih h.2; have h2:=qbG a h.1.2.1; have h4:=qbG b h.1.2.2.2.1; have h3:=hsz h.1.1
  simp only[Ss.cost,Ss.fo,qaQ,qbX,qa1]; omega
 | case4 _ a b r ih=>
  intro h
  have h1:=ih h.2; have h2:=qbG a h.1.1; have h4:=qbG b h.1.2.2.1
  simp only[Ss.cost,Ss.fo,qaQ,qbX,qa1]; omega
 | case5 r ih=>
  intro h
  have h1:=ih h
  simp only[Ss.cost,Ss.fo,qaQ,qa1]; omega
 | case6 _ c _ x _ y r ih1 ih2 ih3=>
  intro h
  have h1:=ih1 h.2.1; have h2:=ih2 h.2.2.1; have h3:=ih3 h.2.2.2; have h4:=qbG c h.1.1
  have h5 : ∀ q:Bool,(if q=true then 5 else 0)<=5:=fun q=>by cases q<;>simp
  have h6:=h5 (qcF (.block ‹Bool› y .nil))
  have h7:qcF .nil=false:=rfl
  simp only[Ss.cost,Ss.fo,qaQ,qbX,qa1,Bool.false_eq_true,if_false,h7]
  have h8 : ∀ q,qcF (.block q y .nil)=qcF (.block false y .nil):=fun q=>by cases y<;>rfl
  simp only[h8] at h6 ⊢
  omega
 | case7 _ c _ x r ih1 ih2=>
  intro h
  have h1:=ih1 h.2.1; have h2:=ih2 h.2.2; have h4:=qbG c h.1.1
  simp only[Ss.cost,Ss.fo,qaQ,qbX,qa1,if_true,qcF,Bool.false_eq_true,if_false]
  omega
 | case8=>intro h; exact h.elim
theorem qkc {h:Hd} (hg:h.gen):qcR h.opt:=by
 cases h with
 | none=>intro b hb; cases hb
 | some f b=>
  intro x hx
  cases hx
  have h1:=hg.dp
  have h2:=hg.edp
  have h3:=qdw b
  simp only[Hd.ss] at h1 h2
  exact⟨qnP b hg.fine,by omega⟩
theorem qps {a b c:Hd} (ha:a.gen) (hb:b.gen) (hc:c.gen) : ∀ k,qcR (Hd.opts a b c k)
 | 0=>qkc ha
 | 1=>qkc hb
 | _+2=>qkc hc
theorem qtA (k:Nat) (h:Hd):wt (qec k h.opt)<=h.cost:=by
 cases h with
 | none=>simp[Hd.opt,qec,wt]
 | some f b=>
  have:=qkb b
  have hk:(qb6 k).size<=4:=by unfold qb6; split<;>decide
  simp only[Hd.opt,qec,wt,qeY,Hd.cost,onS,qao,List.length_cons,List.length_nil]
  omega
theorem qng (a b c:Hd):(qai false (qaX (Hd.opts a b c))).length<=a.cost+(b.cost+c.cost):=by
 refine Nat.le_trans (qmd (qaX (Hd.opts a b c)) false) ?_
 simp only[qaX,qeY]
 exact Nat.add_le_add (qtA 0 a) (Nat.add_le_add (qtA 1 b) (qtA 2 c))
theorem qkd {h:Hd} (hg:h.gen):h.cost<=25300:=by
 cases h with
 | none=>simp[Hd.cost]
 | some f b=>
  have h1:=hg.gsize
  have h2:=qnQ b hg.fine
  simp only[Hd.ss] at h1
  simp only[Hd.cost]
  omega
end Go.Pm
end SUg
section SF3q
namespace Go.Pm.F
variable (C:Task->Option Res) (q:Nat) (fr:Fr) (σ : S)
def F226:PFun:=⟨4,[.tmp 8],.seq (rn [jj 8 (.mov (.c (.string ⟨#[]⟩)))] [0,1,2,3]) (.seq (rn [mv 10 1,mv 11 0,lz 12 11,bk 13 .add 12 1,cl 14 17 [10,13],mv 9 14] [0,2,3,9]) (.seq (.seq (rn [mv 15 9,mv 16 0,lz 17 16,bn 18 .eql 15 17] [0,2,3,9,18]) (.cond (.t 18) (.seq (rn [mv 19 0,mv 20 3,jj 21 (.bslice 1 [(.lit (.int .u8 0))] [(0,1,(.t 20))]),jj 22 (.bstr (.t 21)),bn 23 .add 19 22,mv 8 23] [8]) (.ret)) (.skip))) (.seq (.seq (rn [mv 24 2,jj 25 (.call 17 [(.t 24),(kk 4)])] [0,3,9,25]) (.block 0 (.seq (rn [bk 27 .eql 25 0,mv 26 27] [0,3,9,25,26]) (.cond (.t 26) (.seq (.region (some []) [mv 28 0,mv 29 9,jj 30 (.sliceS (.t 28) none (some (.t 29))),mv 31 3,jj 32 (.bslice 1 [(.lit (.int .u8 0))] [(0,1,(.t 31))]),jj 33 (.bstr (.t 32)),bn 34 .add 30 33,mv 35 0,mv 36 9,bk 37 .add 36 1,jj 38 (.sliceS (.t 35) (some (.t 37)) none),bn 39 .add 34 38,mv 8 39] [8]) (.ret)) (.seq (rn [bk 41 .eql 25 1,mv 40 41] [0,3,9,25,40]) (.cond (.t 40) (.seq (.region (some []) [mv 42 0,mv 43 9,jj 44 (.sliceS (.t 42) none (some (.t 43))),mv 45 0,mv 46 9,bk 47 .add 46 1,jj 48 (.sliceS (.t 45) (some (.t 47)) none),bn 49 .add 44 48,mv 8 49] [8]) (.ret)) (.seq (rn [bk 51 .eql 25 2,mv 50 51] [0,3,9,50]) (.cond (.t 50) (.seq (rn [mv 52 0,mv 53 9,jj 54 (.sliceS (.t 52) none (some (.t 53))),mv 8 54] [8]) (.ret)) (.skip))))))))) (.seq (.region (some []) [mv 55 0,mv 56 9,jj 57 (.sliceS (.t 55) none (some (.t 56))),mv 58 3,jj 59 (.bslice 1 [(.lit (.int .u8 0))] [(0,1,(.t 58))]),jj 60 (.bstr (.t 59)),bn 61 .add 57 60,mv 62 0,mv 63 9,jj 64 (.sliceS (.t 62) (some (.t 63)) none),bn 65 .add 61 64,mv 8 65] [8]) (.ret))))),false,false,false⟩
def F227:PFun:=⟨1,[.tmp 2],.seq (rn [jj 2 (.mov (.c (.string ⟨#[]⟩)))] [0]) (.seq (rn [mv 3 0,cl 4 123 [3],cl 5 236 [4],mv 2 5] [2]) (.ret)),false,false,false⟩
def F233:PFun:=⟨1,[.tmp 2],.seq (rn [bx 1 0,jj 2 (.mov (.c (.string ⟨#[]⟩)))] [1]) (.seq (rn [la 3 4 1,jj 4 (.call 246 [(.t 3),(kk 1),kT]),mv 2 4] [2]) (.ret)),false,false,false⟩
def F234:PFun:=⟨1,[.tmp 2],.seq (rn [bx 1 0,jj 2 (.mov (.c (.string ⟨#[]⟩)))] [1]) (.seq (rn [la 3 4 1,jj 4 (.call 246 [(.t 3),(kk 1),kF]),mv 2 4] [2]) (.ret)),false,false,false⟩
@[simp] def F236l0x:PC:=(.seq (.seq (rn [mv 5 4,bk 6 .lss 5 3] [1,3,4,6]) (.cond (.t 6) (.skip) (.exit 0))) (.seq (.block 1 (.seq (rn [mv 9 4,fa 10 0 1,jj 11 (.indexAddrA 3 4 (.t 10) (.t 9)),fa 12 0 11,l1 13 12,bk 14 .neq 13 0] [1,3,4,14]) (.cond (.t 14) (.region (some []) [mv 15 3,jj 16 (.call 152 []),mv 17 4,jj 18 (.indexAddr 1 (.t 16) (.t 17)),⟨some 19,.load false 1 (.t 18),none,[9]⟩,mv 20 4,fa 21 0 1,jj 22 (.indexAddrA 3 4 (.t 21) (.t 20)),⟨some 23,.load true 4 (.t 22),none,[1]⟩,cl 24 248 [23],jj 25 (.bslice 4 [eN,eN,eN,eN] [(0,1,(.t 15)),(1,1,(.c (.string ⟨#[111,110]⟩))),(2,1,(.t 19)),(3,1,(.t 24))]),cl 26 247 [25],mv 3 26] [1,3,4] [9,11]) (.skip)))) (rn [mv 7 4,bk 8 .add 7 1,mv 4 8] [1,3,4])))
def F236l0:PC:=F236l0x
theorem qgP:run C q F236l0 fr σ = run C q F236l0x fr σ := rfl
def F236:PFun:=⟨1,[.tmp 2],.seq (rn [bx 1 0,jj 2 (.mov (.c (.string ⟨#[]⟩)))] [1]) (.seq (rn [jj 3 (.mov (.c (.string ⟨#[]⟩)))] [1,3]) (.seq (.seq (rn [mx 4 (kk 0)] [1,3,4]) (.block 0 (.loop F236l0))) (.seq (rn [mv 27 3,mv 2 27] [2]) (.ret)))),false,false,false⟩
def F246:PFun:=⟨3,[.tmp 6],.seq (rn [bx 3 0,jj 6 (.mov (.c (.string ⟨#[]⟩)))] [1,2,3]) (.seq (rn [la 10 4 3,cl 11 261 [10],mv 7 11] [1,2,3,7]) (.seq (rn [fa 12 2 3,l1 13 12,mv 8 13] [1,2,3,7,8]) (.seq (.seq (rn [fa 14 0 3,l1 15 14,bk 16 .eql 15 8] [1,2,3,7,8,16]) (.cond (.t 16) (rn [fa 17 1 3,l1 18 17,cl 19 20 [18],mv 8 19] [1,2,3,7,8]) (.skip))) (.seq (.seq (rn [fa 20 0 3,l1 21 20,bk 22 .eql 21 9] [1,2,3,7,8,22]) (.cond (.t 22) (.seq (rn [jj 8 (.mov (.c (.string ⟨#[102,97,108,115,101]⟩)))] [1,2,3,7,8]) (.seq (rn [fa 23 1 3,l1 24 23,bk 25 .eql 24 1] [1,2,3,7,8,25]) (.cond (.t 25) (rn [jj 8 (.mov (.c (.string ⟨#[116,114,117,101]⟩)))] [1,2,3,7,8]) (.skip)))) (.skip))) (.seq (.seq (rn [fa 26 0 3,l1 27 26,bk 28 .eql 27 11] [1,2,3,7,8,28]) (.cond (.t 28) (.region (some []) [fa 29 2 3,⟨some 30,.load false 1 (.t 29),none,[7]⟩,fa 31 3 3,l1 32 31,jj 33 (.indexAddr 4 (.t 32) (kk 0)),la 34 4 33,mv 35 2,jj 36 (.call 246 [(.t 34),(kk 1),(.t 35)]),jj 37 (.bslice 4 [eN,eN,eN,eN] [(0,1,(.t 30)),(1,1,(.c (.string ⟨#[91]⟩))),(2,1,(.t 36)),(3,1,(.c (.string ⟨#[93]⟩)))]),cl 38 247 [37],mv 8 38] [1,2,3,7,8] [7,9]) (.skip))) (.seq (.seq (rn [fa 39 0 3,l1 40 39,bk 41 .eql 40 13] [1,2,3,7,8,41]) (.cond (.t 41) (.region (some []) [fa 42 2 3,⟨some 43,.load false 1 (.t 42),none,[8]⟩,fa 44 3 3,l1 45 44,jj 46 (.indexAddr 4 (.t 45) (kk 0)),la 47 4 46,mv 48 7,mv 49 2,cl 50 246 [47,48,49],jj 51 (.bslice 2 [eN,eN] [(0,1,(.t 43)),(1,1,(.t 50))]),cl 52 247 [51],mv 8 52] [1,2,3,7,8] [8,10]) (.skip))) (.seq (.seq (rn [fa 53 0 3,l1 54 53,bk 55 .eql 54 14] [1,2,3,7,8,55]) (.cond (.t 55) (.seq (rn [mv 56 7,mv 9 56] [1,2,3,7,9]) (.seq (.seq (rn [mv 57 7,bk 58 .eql 57 4] [1,2,3,7,9,58]) (.cond (.t 58) (rn [mx 9 (kk 5)] [1,2,3,7,9]) (.skip))) (.region (some []) [fa 59 3 3,l1 60 59,jj 61 (.indexAddr 4 (.t 60) (kk 0)),la 62 4 61,mv 63 9,mv 64 2,cl 65 246 [62,63,64],fa 66 2 3,⟨some 67,.load false 1 (.t 66),none,[6,16]⟩,fa 68 3 3,⟨some 69,.load false 1 (.t 68),none,[6]⟩,jj 70 (.indexAddr 4 (.t 69) (kk 1)),⟨some 71,.load true 4 (.t 70),none,[6]⟩,mv 72 7,bk 73 .add 72 1,mv 74 2,cl 75 246 [71,73,74],jj 76 (.bslice 3 [eN,eN,eN] [(0,1,(.t 65)),(1,1,(.t 67)),(2,1,(.t 75))]),cl 77 247 [76],mv 8 77] [1,2,7,8] [16,18]))) (.skip))) (.seq (.seq (rn [mv 78 7,mv 79 1,bn 80 .lss 78 79,mv 81 80,jf 82 81 (.mov (.t 2)),jf 83 81 (.mov (.t 82)),jt 84 83 (.mov (.t 7)),jt 85 83 (.bin .lss (.t 84) (kk 8)),jf 86 81 (.pick (.t 83) (.t 85) kF),jj 87 (.pick (.t 81) kT (.t 86))] [8,87]) (.cond (.t 87) (.seq (rn [mv 88 8,jj 89 (.bin .add (.c (.string ⟨#[40]⟩)) (.t 88)),jj 90 (.bin .add (.t 89) (.c (.string ⟨#[41]⟩))),mv 6 90] [6]) (.ret)) (.skip))) (.seq (rn [mv 91 8,mv 6 91] [6]) (.ret)))))))))),false,false,false⟩
@[simp] def F247l0x:PC:=(.seq (.seq (rn [mv 5 4,mv 6 0,ls 7 6,bn 8 .lss 5 7] [0,3,4,8]) (.cond (.t 8) (.skip) (.exit 0))) (.seq (.block 1 (rn [mv 11 3,mv 12 0,mv 13 4,jj 14 (.indexAddr 1 (.t 12) (.t 13)),l1 15 14,cl 16 262 [11,15],mv 3 16] [0,3,4])) (rn [mv 9 4,bk 10 .add 9 1,mv 4 10] [0,3,4])))
def F247l0:PC:=F247l0x
theorem qjm:run C q F247l0 fr σ = run C q F247l0x fr σ := rfl
def F247:PFun:=⟨1,[.tmp 2],.seq (rn [jj 2 (.mov (.c (.string ⟨#[]⟩)))] [0]) (.seq (rn [jj 3 (.mov (.c (.string ⟨#[]⟩)))] [0,3]) (.seq (.seq (rn [mx 4 (kk 0)] [0,3,4]) (.block 0 (.loop F247l0))) (.seq (rn [mv 17 3,mv 2 17] [2]) (.ret)))),false,false,false⟩
@[simp] def F248l0x:PC:=(.seq (.seq (rn [mv 5 4,fa 6 3 1,l1 7 6,ls 8 7,bn 9 .lss 5 8] [1,3,4,9]) (.cond (.t 9) (.skip) (.exit 0))) (.seq (.block 1 (rn [mv 12 3,fa 13 3 1,l1 14 13,mv 15 4,jj 16 (.indexAddr 4 (.t 14) (.t 15)),la 17 4 16,cl 18 263 [17],cl 19 262 [12,18],mv 3 19] [1,3,4])) (rn [mv 10 4,bk 11 .add 10 1,mv 4 11] [1,3,4])))
def F248l0:PC:=F248l0x
theorem qgQ:run C q F248l0 fr σ = run C q F248l0x fr σ := rfl
def F248:PFun:=⟨1,[.tmp 2],.seq (rn [bx 1 0,jj 2 (.mov (.c (.string ⟨#[]⟩)))] [1]) (.seq (rn [jj 3 (.mov (.c (.string ⟨#[123]⟩)))] [1,3]) (.seq (.seq (rn [mx 4 (kk 0)] [1,3,4]) (.block 0 (.loop F248l0))) (.seq (rn [mv 20 3,jj 21 (.bin .add (.t 20) (.c (.string ⟨#[125]⟩))),mv 2 21] [2]) (.ret)))),false,false,false⟩
def F261:PFun:=⟨1,[.tmp 2],.seq (rn [bx 1 0,mx 2 (kk 0)] [1]) (.seq (.seq (rn [fa 3 0 1,l1 4 3,bk 5 .eql 4 13] [1,5]) (.cond (.t 5) (.seq (.seq (rn [fa 6 2 1,l1 7 6,jj 8 (.bin .eql (.t 7) (.c (.string ⟨#[33]⟩)))] [8]) (.cond (.t 8) (.seq (rn [mx 2 (kk 3)] [2]) (.ret)) (.skip))) (.seq (rn [mx 2 (kk 7)] [2]) (.ret))) (.skip))) (.seq (.seq (rn [fa 9 0 1,l1 10 9,bk 11 .neq 10 14] [1,11]) (.cond (.t 11) (.seq (rn [mx 2 (kk 8)] [2]) (.ret)) (.skip))) (.seq (.seq (rn [fa 12 2 1,l1 13 12,jj 14 (.bin .eql (.t 13) (.c (.string ⟨#[124,124]⟩)))] [1,14]) (.cond (.t 14) (.seq (rn [mx 2 (kk 1)] [2]) (.ret)) (.skip))) (.seq (.seq (rn [fa 15 2 1,l1 16 15,jj 17 (.bin .eql (.t 16) (.c (.string ⟨#[38,38]⟩)))] [1,17]) (.cond (.t 17) (.seq (rn [mx 2 (kk 2)] [2]) (.ret)) (.skip))) (.seq (.seq (rn [fa 18 2 1,l1 19 18,jj 20 (.bin .eql (.t 19) (.c (.string ⟨#[43]⟩))),mv 21 20,jf 22 21 (.fieldAddr 2 (.t 1)),jf 23 21 (.load false 1 (.t 22)),jf 24 21 (.bin .eql (.t 23) (.c (.string ⟨#[45]⟩))),jj 25 (.pick (.t 21) kT (.t 24))] [1,25]) (.cond (.t 25) (.seq (rn [mx 2 (kk 5)] [2]) (.ret)) (.skip))) (.seq (.seq (rn [fa 26 2 1,l1 27 26,jj 28 (.bin .eql (.t 27) (.c (.string ⟨#[42]⟩))),mv 29 28,jf 30 29 (.fieldAddr 2 (.t 1)),jf 31 29 (.load false 1 (.t 30)),jf 32 29 (.bin .eql (.t 31) (.c (.string ⟨#[47]⟩))),jj 33 (.pick (.t 29) kT (.t 32))] [33]) (.cond (.t 33) (.seq (rn [mx 2 (kk 6)] [2]) (.ret)) (.skip))) (.seq (rn [mx 2 (kk 4)] [2]) (.ret)))))))),false,false,false⟩
def F262:PFun:=⟨2,[.tmp 4],.seq (rn [jj 4 (.mov (.c (.string ⟨#[]⟩)))] [0,1]) (.seq (.seq (rn [mv 7 0,jj 8 (.bin .neq (.t 7) (.c (.string ⟨#[]⟩))),mv 9 8,jt 10 9 (.mov (.t 1)),jt 11 9 (.bin .neq (.t 10) (.c (.string ⟨#[]⟩))),jj 12 (.pick (.t 9) (.t 11) kF)] [0,1,12]) (.cond (.t 12) (.seq (rn [mv 13 0,mv 14 0,lz 15 14,bk 16 .sub 15 1,jj 17 (.indexS (.t 13) (.t 16)),mv 5 17] [0,1,5]) (.seq (rn [mv 18 1,jj 19 (.indexS (.t 18) (kk 0)),mv 6 19] [0,1,5,6]) (.seq (rn [mv 20 5,cl 21 192 [20],mv 22 21,jf 23 22 (.mov (.t 5)),jf 24 22 (.call 193 [(.t 23)]),jj 25 (.pick (.t 22) kT (.t 24)),mv 26 25,jt 27 26 (.mov (.t 6)),jt 28 26 (.call 192 [(.t 27)]),jt 29 26 (.mov (.t 28)),jf 30 29 (.mov (.t 6)),jf 31 29 (.call 193 [(.t 30)]),jt 32 26 (.pick (.t 29) kT (.t 31)),jj 33 (.pick (.t 26) (.t 32) kF)] [0,1,33]) (.cond (.t 33) (.seq (rn [mv 34 0,jj 35 (.bin .add (.t 34) (.c (.string ⟨#[32]⟩))),mv 36 1,bn 37 .add 35 36,mv 4 37] [4]) (.ret)) (.skip))))) (.skip))) (.seq (rn [mv 38 0,mv 39 1,bn 40 .add 38 39,mv 4 40] [4]) (.ret))),false,false,false⟩
def F263:PFun:=⟨1,[.tmp 2],.seq (rn [bx 1 0,jj 2 (.mov (.c (.string ⟨#[]⟩)))] [1]) (.seq (.seq (rn [fa 4 0 1,l1 5 4] [1,5]) (.block 0 (.seq (rn [bk 7 .eql 5 1,mv 6 7] [1,5,6]) (.cond (.t 6) (.seq (.region (some []) [fa 8 2 1,⟨some 9,.load false 1 (.t 8),none,[6]⟩,fa 10 3 1,l1 11 10,jj 12 (.indexAddr 4 (.t 11) (kk 0)),la 13 4 12,cl 14 234 [13],jj 15 (.bslice 4 [eN,eN,eN,eN] [(0,1,(.t 9)),(1,1,(.c (.string ⟨#[61]⟩))),(2,1,(.t 14)),(3,1,(.c (.string ⟨#[59]⟩)))]),cl 16 247 [15],mv 2 16] [2] [6,8]) (.ret)) (.seq (rn [bk 18 .eql 5 2,mv 17 18] [1,5,17]) (.cond (.t 17) (.seq (.region (some []) [fa 19 2 1,⟨some 20,.load false 1 (.t 19),none,[6,11]⟩,fa 21 3 1,l1 22 21,jj 23 (.indexAddr 4 (.t 22) (kk 0)),la 24 4 23,cl 25 234 [24],fa 26 3 1,⟨some 27,.load false 1 (.t 26),none,[6]⟩,jj 28 (.indexAddr 4 (.t 27) (kk 1)),⟨some 29,.load true 4 (.t 28),none,[6]⟩,cl 30 234 [29],jj 31 (.bslice 7 [eN,eN,eN,eN,eN,eN,eN] [(0,1,(.t 20)),(1,1,(.c (.string ⟨#[91]⟩))),(2,1,(.t 25)),(3,1,(.c (.string ⟨#[93]⟩))),(4,1,(.c (.string ⟨#[61]⟩))),(5,1,(.t 30)),(6,1,(.c (.string ⟨#[59]⟩)))]),cl 32 247 [31],mv 2 32] [2] [11,13]) (.ret)) (.seq (rn [bk 34 .eql 5 5,mv 33 34] [1,5,33]) (.cond (.t 33) (.seq (.region (some []) [fa 35 3 1,l1 36 35,jj 37 (.indexAddr 4 (.t 36) (kk 0)),la 38 4 37,cl 39 234 [38],fa 40 3 1,⟨some 41,.load false 1 (.t 40),none,[4]⟩,jj 42 (.indexAddr 4 (.t 41) (kk 1)),⟨some 43,.load true 4 (.t 42),none,[4]⟩,cl 44 234 [43],jj 45 (.bslice 5 [eN,eN,eN,eN,eN] [(0,1,(.c (.string ⟨#[101,102,102,101,99,116]⟩))),(1,1,(.t 39)),(2,1,(.c (.string ⟨#[44]⟩))),(3,1,(.t 44)),(4,1,(.c (.string ⟨#[59]⟩)))]),cl 46 247 [45],mv 2 46] [2] [9,11]) (.ret)) (.seq (rn [bk 48 .eql 5 6,mv 47 48] [1,5,47]) (.cond (.t 47) (.seq (rn [jj 2 (.mov (.c (.string ⟨#[115,116,111,112,59]⟩)))] [2]) (.ret)) (.seq (rn [bk 50 .eql 5 4,mv 49 50] [1,49]) (.cond (.t 49) (.seq (.region (some []) [fa 51 3 1,l1 52 51,jj 53 (.indexAddr 4 (.t 52) (kk 0)),la 54 4 53,cl 55 234 [54],fa 56 3 1,⟨some 57,.load false 1 (.t 56),none,[4]⟩,jj 58 (.indexAddr 4 (.t 57) (kk 1)),⟨some 59,.load true 4 (.t 58),none,[4]⟩,cl 60 248 [59],jj 61 (.bslice 3 [eN,eN,eN] [(0,1,(.c (.string ⟨#[119,104,105,108,101]⟩))),(1,1,(.t 55)),(2,1,(.t 60))]),cl 62 247 [61],mv 2 62] [2] [9,11]) (.ret)) (.skip))))))))))))) (.seq (.region (some []) [fa 63 3 1,l1 64 63,jj 65 (.indexAddr 4 (.t 64) (kk 0)),la 66 4 65,cl 67 234 [66],fa 68 3 1,⟨some 69,.load false 1 (.t 68),none,[4]⟩,jj 70 (.indexAddr 4 (.t 69) (kk 1)),⟨some 71,.load true 4 (.t 70),none,[4]⟩,cl 72 248 [71],jj 73 (.bslice 3 [eN,eN,eN] [(0,1,(.c (.string ⟨#[105,102]⟩))),(1,1,(.t 67)),(2,1,(.t 72))]),cl 74 247 [73],mv 3 74] [1,3] [9,11]) (.seq (.seq (rn [fa 75 3 1,l1 76 75,jj 77 (.indexAddr 4 (.t 76) (kk 2)),fa 78 3 77,l1 79 78,ls 80 79,bk 81 .gtr 80 0] [1,3,81]) (.cond (.t 81) (rn [mv 82 3,fa 83 3 1,l1 84 83,jj 85 (.indexAddr 4 (.t 84) (kk 2)),la 86 4 85,cl 87 248 [86],jj 88 (.bslice 3 [eN,eN,eN] [(0,1,(.t 82)),(1,1,(.c (.string ⟨#[101,108,115,101]⟩))),(2,1,(.t 87))]),cl 89 247 [88],mv 3 89] [3]) (.skip))) (.seq (rn [mv 90 3,mv 2 90] [2]) (.ret))))),false,false,false⟩
end Go.Pm.F
end SF3q
section SFLaw13
namespace Go.Pm.F
variable (C:Task->Option Res) (q:Nat) (fr:Fr) (σ : S)
@[simp] def F220l0x:PC:=(.seq (.seq (rn [mv 31 12,bk 32 .lss 31 3] [11,12,32]) (.cond (.t 32) (.skip) (.exit 0))) (.seq (.block 1 (.seq (rn [mv 36 11,mv 37 12,jj 38 (.indexAddr 1 (.t 36) (.t 37)),l1 39 38,cl 40 228 [39],mv 35 40,ex 41 35 0,ex 42 35 1,ex 43 35 2,jj 13 (.alloc [zN,zN,eN,sN,zN,zN,eN,sN,zN,zN,eN,sN]),st 12 13 41,mv 14 42,mv 15 43] [11,12,13,15]) (.seq (.seq (rn [mv 44 15,bk 45 .neq 44 0] [11,12,13,45]) (.cond (.t 45) (.exit 1) (.skip))) (.seq (rn [la 46 12 13,cl 47 231 [46],mv 16 47] [11,12,13,16]) (.seq (rn [mv 49 16,cl 50 228 [49],mv 48 50,ex 51 48 0,ex 52 48 1,ex 53 48 2,jj 17 (.alloc [zN,zN,eN,sN,zN,zN,eN,sN,zN,zN,eN,sN]),st 12 17 51,mv 18 52,mv 19 53] [11,12,13,16,17,18,19]) (.seq (rn [mv 54 19,bk 55 .neq 54 0,mv 56 55,jf 57 56 (.mov (.t 18)),jf 58 56 (.bin .neq (.t 57) (kk 0)),jj 59 (.pick (.t 56) kT (.t 58)),mv 60 59,jf 61 60 (.load true 12 (.t 13)),jf 62 60 (.load true 12 (.t 17)),jf 63 60 (.call 232 [(.t 61),(.t 62)]),jf 64 60 (.un .not (.t 63)),jj 65 (.pick (.t 60) kT (.t 64)),mv 66 65,jf 67 66 (.mov (.t 16)),jf 68 66 (.len .str (.t 67)),jf 69 66 (.mov (.t 11)),jf 70 66 (.mov (.t 12)),jf 71 66 (.indexAddr 1 (.t 69) (.t 70)),jf 72 66 (.load false 1 (.t 71)),jf 73 66 (.len .str (.t 72)),jf 74 66 (.bin .gtr (.t 68) (.t 73)),jj 75 (.pick (.t 66) kT (.t 74)),mv 76 75,jf 77 76 (.load true 12 (.t 17)),jf 78 76 (.call 231 [(.t 77)]),jf 79 76 (.mov (.t 16)),jf 80 76 (.bin .neq (.t 78) (.t 79)),jj 81 (.pick (.t 76) kT (.t 80))] [11,12,81]) (.cond (.t 81) (.seq (rn [mx 10 kF] [10]) (.ret)) (.skip)))))))) (rn [mv 33 12,bk 34 .add 33 1,mv 12 34] [11,12])))
def F220l0:PC:=F220l0x
theorem qgE:run C q F220l0 fr σ = run C q F220l0x fr σ := rfl
def F220:PFun:=⟨5,[.tmp 10],.seq (rn [mx 10 kF] [0,1,2,3,4]) (.seq (rn [mv 20 0,jj 21 (.call 225 [(.t 20),(kk 300)]),mv 22 1,cl 23 227 [22],mv 24 1,cl 25 227 [24],mv 26 2,mv 27 3,mv 28 4,cl 29 226 [25,26,27,28],jj 30 (.bslice 3 [eN,eN,eN] [(0,1,(.t 21)),(1,1,(.t 23)),(2,1,(.t 29))]),mv 11 30] [11]) (.seq (.seq (rn [mx 12 (kk 0)] [11,12]) (.block 0 (.loop F220l0))) (.seq (rn [jj 82 (.call 229 []),mv 10 82] [10]) (.ret)))),false,false,false⟩
def F221:PFun:=⟨2,[.tmp 4],.seq (rn [mx 4 kF] [0,1]) (.seq (rn [mv 13 0,jj 14 (.build [sN,zN] [(0,1,(.t 13))]),bx 15 14,mv 5 15] [1,5]) (.seq (rn [mv 16 5,jj 17 (.call 177 [(.t 16),(kk 4)]),jj 6 (.alloc [zN,zN,eN,sN]),st 4 6 17] [1,5,6]) (.seq (.seq (rn [mv 18 1] [5,6,18]) (.cond (.t 18) (rn [mv 19 5,jj 20 (.call 179 [(.t 19),(kk 4)]),st 4 6 20] [6]) (.skip))) (.seq (rn [la 22 4 6,cl 23 233 [22],jj 24 (.bin .add (.c (.string ⟨#[111,110,32,104,105,116,123,118,61]⟩)) (.t 23)),jj 25 (.bin .add (.t 24) (.c (.string ⟨#[59,125]⟩))),cl 26 228 [25],mv 21 26,ex 27 21 0,ex 28 21 1,ex 29 21 2,jj 7 (.alloc [zN,zN,eN,sN,zN,zN,eN,sN,zN,zN,eN,sN]),st 12 7 27,mv 8 28,mv 9 29] [6,7,9]) (.seq (rn [la 31 4 6,cl 32 234 [31],jj 33 (.bin .add (.c (.string ⟨#[111,110,32,104,105,116,123,118,61]⟩)) (.t 32)),jj 34 (.bin .add (.t 33) (.c (.string ⟨#[59,125]⟩))),cl 35 228 [34],mv 30 35,ex 36 30 0,ex 37 30 1,ex 38 30 2,jj 10 (.alloc [zN,zN,eN,sN,zN,zN,eN,sN,zN,zN,eN,sN]),st 12 10 36,mv 11 37,mv 12 38] [6,7,9,10,12]) (.seq (.seq (rn [mv 39 9,bk 40 .neq 39 0,mv 41 40,jf 42 41 (.mov (.t 12)),jf 43 41 (.bin .neq (.t 42) (kk 0)),jj 44 (.pick (.t 41) kT (.t 43)),mv 45 44,jf 46 45 (.fieldAddr 0 (.t 7)),jf 47 45 (.indexAddrA 3 4 (.t 46) (kk 2)),jf 48 45 (.fieldAddr 3 (.t 47)),jf 49 45 (.load false 1 (.t 48)),jf 50 45 (.len .sl (.t 49)),jf 51 45 (.bin .neq (.t 50) (kk 1)),jj 52 (.pick (.t 45) kT (.t 51))] [6,7,10,52]) (.cond (.t 52) (.seq (rn [mx 4 kF] [4]) (.ret)) (.skip))) (.seq (.region (some []) [la 53 12 7,la 54 12 10,cl 55 232 [53,54],mv 56 55,jt 57 56 (.fieldAddr 0 (.t 7)),jt 58 56 (.indexAddrA 3 4 (.t 57) (kk 2)),jt 59 56 (.fieldAddr 3 (.t 58)),jt 60 56 (.load false 1 (.t 59)),jt 61 56 (.indexAddr 4 (.t 60) (kk 0)),jt 62 56 (.fieldAddr 3 (.t 61)),jt 63 56 (.load false 1 (.t 62)),jt 64 56 (.len .sl (.t 63)),jt 65 56 (.bin .eql (.t 64) (kk 1)),jj 66 (.pick (.t 56) (.t 65) kF),mv 67 66,jt 68 67 (.fieldAddr 0 (.t 7)),jt 69 67 (.indexAddrA 3 4 (.t 68) (kk 2)),jt 70 67 (.fieldAddr 3 (.t 69)),jt 71 67 (.load false 1 (.t 70)),jt 72 67 (.indexAddr 4 (.t 71) (kk 0)),jt 73 67 (.fieldAddr 3 (.t 72)),jt 74 67 (.load false 1 (.t 73)),jt 75 67 (.indexAddr 4 (.t 74) (kk 0)),jt 76 67 (.load true 4 (.t 75)),jt 77 67 (.load true 4 (.t 6)),jt 78 67 (.call 235 [(.t 76),(.t 77)]),jj 79 (.pick (.t 67) (.t 78) kF),mv 80 79,jt 81 80 (.call 229 []),jj 82 (.pick (.t 80) (.t 81) kF),mv 4 82] [4] [2,25,28]) (.ret)))))))),false,false,false⟩
def F229:PFun:=⟨0,[.tmp 0],.seq (rn [mx 0 kF] []) (.seq (rn [jj 8 (.call 228 [(.c (.string ⟨#[111,110,32,116,105,99,107,123,120,91,48,93,61,49,43,50,42,118,59,125]⟩))]),mv 7 8,ex 9 7 0,ex 10 7 1,ex 11 7 2,jj 1 (.alloc [zN,zN,eN,sN,zN,zN,eN,sN,zN,zN,eN,sN]),st 12 1 9,mv 2 10,mv 3 11] [1,2,3]) (.seq (rn [jj 13 (.call 228 [(.c (.string ⟨#[111,110,32,97,99,116,32,123,32,115,116,111,112,32,125]⟩))]),mv 12 13,ex 14 12 0,ex 15 12 1,ex 16 12 2,jj 4 (.alloc [zN,zN,eN,sN,zN,zN,eN,sN,zN,zN,eN,sN]),st 12 4 14,mv 5 15,mv 6 16] [1,2,3,5,6]) (.seq (.seq (rn [fa 17 0 1,jj 18 (.indexAddrA 3 4 (.t 17) (kk 1)),fa 19 3 18,l1 20 19,ls 21 20,bk 22 .neq 21 1] [1,2,3,5,6,22]) (.cond (.t 22) (.seq (rn [mx 0 kF] [0]) (.ret)) (.skip))) (.seq (rn [mv 23 2,bk 24 .eql 23 0,mv 25 24,jt 26 25 (.mov (.t 3)),jt 27 25 (.bin .eql (.t 26) (kk 0)),jj 28 (.pick (.t 25) (.t 27) kF),mv 29 28,jt 30 29 (.fieldAddr 0 (.t 1)),jt 31 29 (.indexAddrA 3 4 (.t 30) (kk 1)),jt 32 29 (.fieldAddr 3 (.t 31)),jt 33 29 (.load false 1 (.t 32)),jt 34 29 (.indexAddr 4 (.t 33) (kk 0)),jt 35 29 (.fieldAddr 0 (.t 34)),jt 36 29 (.load false 1 (.t 35)),jt 37 29 (.bin .eql (.t 36) (kk 2)),jj 38 (.pick (.t 29) (.t 37) kF),mv 39 38,jt 40 39 (.load true 12 (.t 1)),jt 41 39 (.call 231 [(.t 40)]),jt 42 39 (.bin .eql (.t 41) (.c (.string ⟨#[111,110,32,116,105,99,107,123,120,91,48,93,61,49,43,50,42,118,59,125]⟩))),jj 43 (.pick (.t 39) (.t 42) kF),mv 44 43,jt 45 44 (.mov (.t 5)),jt 46 44 (.bin .eql (.t 45) (kk 14)),jj 47 (.pick (.t 44) (.t 46) kF),mv 48 47,jt 49 48 (.mov (.t 6)),jt 50 48 (.bin .eql (.t 49) (kk 12)),jj 51 (.pick (.t 48) (.t 50) kF),mv 0 51] [0]) (.ret))))),false,false,false⟩
def F232:PFun:=⟨2,[.tmp 4],.seq (rn [bx 2 0,bx 3 1,mx 4 kF] [2,3]) (.seq (rn [fa 5 0 2,jj 6 (.indexAddrA 3 4 (.t 5) (kk 0)),la 7 4 6,fa 8 0 3,jj 9 (.indexAddrA 3 4 (.t 8) (kk 0)),la 10 4 9,cl 11 235 [7,10],mv 12 11,jt 13 12 (.fieldAddr 0 (.t 2)),jt 14 12 (.indexAddrA 3 4 (.t 13) (kk 1)),jt 15 12 (.load true 4 (.t 14)),jt 16 12 (.fieldAddr 0 (.t 3)),jt 17 12 (.indexAddrA 3 4 (.t 16) (kk 1)),jt 18 12 (.load true 4 (.t 17)),jt 19 12 (.call 235 [(.t 15),(.t 18)]),jj 20 (.pick (.t 12) (.t 19) kF),mv 21 20,jt 22 21 (.fieldAddr 0 (.t 2)),jt 23 21 (.indexAddrA 3 4 (.t 22) (kk 2)),jt 24 21 (.load true 4 (.t 23)),jt 25 21 (.fieldAddr 0 (.t 3)),jt 26 21 (.indexAddrA 3 4 (.t 25) (kk 2)),jt 27 21 (.load true 4 (.t 26)),jt 28 21 (.call 235 [(.t 24),(.t 27)]),jj 29 (.pick (.t 21) (.t 28) kF),mv 4 29] [4]) (.ret)),false,false,false⟩
end Go.Pm.F
end SFLaw13
section STE
namespace Go.Pm.F
def tE:Nat->Option PFun
 | 232=>some F232
 | 235=>some F235
 | _=>none
end Go.Pm.F
end STE
