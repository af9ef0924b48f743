/- Chapter 16: the law VmRuns: the handlers, walked. Printed by hv.py. -/
import Derived.Test.YtebnoobfoajkbaaGreatDoorPmAL
import Derived.Test.YtebnoobfoajkbaaGreatDoorPmVp11
import Derived.Test.YtebnoobfoajkbaaGreatDoorPmR
import Derived.Laws.Strings
import Derived.KernelRfl
import Init
set_option linter.unusedSimpArgs false
set_option linter.unusedVariables false
set_option maxHeartbeats 4000000
namespace Go.Pm
section
open F
theorem qoY(C:Task->Option Res)(q:Nat)(fr:Fr)(σ : S):run C q F338l0 fr σ = run C q (.seq (.seq (rn [mv 48 18,bk 49 .lss 48 3] [3,4,5,13,14,16,17,18,49]) (.cond (.t 49) (.skip) (.exit 0))) (.seq (.block 1 (.seq (rn [mv 52 3,jj 53 (.call 17 [(.t 52),(kk 6)]),mv 19 53] [3,4,5,13,14,16,17,18,19]) (.seq (rn [mv 54 4,jj 55 (.call 17 [(.t 54),(kk 6)]),bk 56 .sub 55 1,mv 20 56] [3,4,5,13,14,16,17,18,19,20]) (.seq (rn [mv 57 5,jj 58 (.call 17 [(.t 57),(kk 120)]),mv 21 58] [3,4,5,13,14,16,17,18,19,20,21]) (.seq (rn [mv 60 16,la 61 4 14,mv 62 18,mv 63 19,mv 64 20,mv 65 21,cl 66 56 [60,61,62,63,64,65],mv 59 66,ex 67 59 0,ex 68 59 1,mv 22 67,mv 23 68] [3,4,5,13,14,17,18,19,20,21,22,23]) (.seq (rn [mv 69 22,mv 16 69] [3,4,5,13,14,16,17,18,19,20,21,23]) (.seq (.seq (rn [mv 70 17,jj 71 (.mkif 0 (.t 70)),la 72 4 14,mv 73 18,mv 74 19,mv 75 20,mv 76 21,cl 77 49 [71,72,73,74,75,76],mv 78 23,jj 79 (.eqb true (.t 77) (.t 78))] [3,4,5,13,14,16,17,18,21,23,79]) (.cond (.t 79) (.seq (rn [mx 12 kF] [12]) (.ret)) (.skip))) (.seq (.seq (rn [mx 24 (kk 0)] [3,4,5,13,14,16,17,18,21,23,24]) (.block 2 (.loop F338l1))) vrR)))))))) (rn [mv 50 18,bk 51 .add 50 1,mv 18 51] [3,4,5,13,14,16,17,18]))) fr σ := rfl
section
variable{s:Su}{c:List (Nat × Int)}{e0 e1 e2 a b f h:Int}{N:Nat}(hs:s.ok)(hn:N=s.n)(hc : ∀ x∈c,1<=x.1/\x.1<=21)(hcl:c.length<2 ^ 30)
include hs hn hc hcl
theorem qto {F:Int} (hF:F<1000) : ∀ (m i:Nat) (cs:List Int) (M:Option (List D × Nat)) (B:Nat),(i:Int)+m=F+1->cs.length=N->okM M B->B+6*m<10000 ->
  ∃ fr σ cs' M',Z qaa (.loop 0 F338l1 (vrF a b f cs N h F true i) (sS s c e0 e1 e2 cs N M))=some (.out (.exit 2) fr σ)/\qms s c e0 e1 e2 a b f h N fr σ cs' M'/\cs'.length=N/\okM M' (B+6*m)
 |0,i,cs,M,B,hi,hN,hM,hB=>by
  have hp:=hs.p3; have hq:=hs.b5
  have hN1:48<=N/\N<1000:=by rw[hn]; unfold Su.n; omega
  obtain⟨fr,σ,z,v⟩:=qt5 (s:=s) (c:=c) (e0:=e0) (e1:=e1) (e2:=e2) (a:=a) (b:=b) (f:=f) (h:=h) (F:=F) (M:=M) (i:=i) (st:=true) hN hN1.2 (.inr (by omega))
  exact⟨fr,σ,cs,M,z,v,hN,hM⟩
 |m+1,i,cs,M,B,hi,hN,hM,hB=>by
  have hp:=hs.p3; have hq:=hs.b5
  have hN1:48<=N/\N<1000:=by rw[hn]; unfold Su.n; omega
  obtain⟨x1,x2,x3,x4,hx⟩:=qoI s c cs
  have hlen:(qcH s c cs).cs.length=N:=by rw[qlj]; exact hN
  have hr:=qu8 (f:=false) (e0:=e0) (e1:=e1) (e2:=e2) hs hN hn hc
  rw[qAv,hx] at hr
  obtain⟨M',m1,m2,m3⟩ : ∃ M',(M.isSome=true->M'.isSome=true)/\okM M' (B+6)/\Z qaa (.call 52 [.iface 0 (.ptr 0 0),s.d,qaq false c e0 e1 e2] (qqC cs N M))=some (.ret (qcH s c cs).v (qqC (qcH s c cs).cs N M')):=by
   cases M with
   |none=>
    rcases qCE s c false e0 e1 e2 cs N hs hN hn hc hcl with ⟨h1,h2⟩|⟨lg',k',h1,h2,h3⟩
    ·have hcs:(qcH s c cs).cs=cs:=by rw[h1]
     exact⟨none,id,trivial,by rw[hcs]; exact h2⟩
    ·exact⟨some (lg',k'),fun _=>rfl,⟨h1,by omega⟩,h3⟩
   |some q=>
    obtain⟨lg,k⟩:=q
    obtain⟨q1,q2⟩:=hM
    obtain⟨lg',k',h1,h2,h3⟩:=qCD s c false e0 e1 e2 cs N lg k q1 (by omega) hs hN hn hc hcl
    exact⟨some (lg',k'),fun _=>rfl,⟨h1,by omega⟩,h3⟩
  rw[StR.v,hx] at m3
  have mon : ∀ {M:Option (List D × Nat)} {x y:Nat},okM M x->x<=y->okM M y:=fun {M} {x y} h1 h2=>by
   cases M with
   |none=>trivial
   |some q=>exact⟨h1.1,by have:=h1.2; omega⟩
  cases hend:(qcH s c cs).ended with
  |true=>
   rw[hend] at hr m3
   obtain⟨fr,σ,z,v⟩:=qwm (a:=a) (b:=b) (f:=f) (h:=h) (F:=F) (i:=i) hlen hN1.2 m1 (by omega) hr m3
   exact⟨fr,σ,_,M',z,v,hlen,mon m2 (by omega)⟩
  |false=>
   rw[hend] at hr m3
   have z:=qA3 (a:=a) (b:=b) (f:=f) (h:=h) (F:=F) (i:=i) m1 (by omega) hF hr m3
   obtain⟨fr,σ,cs',M2,g1,g2,g3,g4⟩:=qto hF m (i+1) _ M' (B+6) (by omega) hlen m2 (by omega)
   exact⟨fr,σ,cs',M2,z.trans g1,g2,g3,mon g4 (by omega)⟩
theorem qjP (ha:I64 a) (hb:I64 b) (hf:I64 f) (h0:0<=h) (h3:h<3) {h1:Int} (e1':h1=h+1) {cs:List Int} {M:Option (List D × Nat)} {B:Nat} (hN:cs.length=N) (hM:okM M B) (hB:B<=3000) :
  ∃ cs' M',Z qaa (.loop 0 F338l0 (orF a b f cs N h) (sS s c e0 e1 e2 cs N M))=Z qaa (.loop 0 F338l0 (orF a b f cs' N h1) (sS s c e0 e1 e2 cs' N M'))/\cs'.length=N/\okM M' (B+1000):=by
 have hp:=hs.p3; have hq:=hs.b5
 have hN1:48<=N/\N<1000:=by rw[hn]; unfold Su.n; omega
 have za:=qdl ha (m:=6) (by omega)
 have zb:=qdl hb (m:=6) (by omega)
 have zf:=qdl hf (m:=120) (by omega)
 have rA:=around_lt ha (m:=6) (by omega)
 have rB:=around_lt hb (m:=6) (by omega)
 have rF:=around_lt hf (m:=120) (by omega)
 generalize around a 6=A at *
 generalize around b 6=B0 at *
 generalize around f 120=F at *
 obtain⟨Bo,hBo⟩ : ∃ x,x=B0-1:=⟨_,rfl⟩
 have w1:IntKind.i64.wrap (B0-1)=Bo:=by rw[hBo]; exact qag _ (by omega)
 have w2:IntKind.i64.wrap (h+1)=h1:=by rw[e1']; exact qag _ (by omega)
 obtain⟨st,cs1,M1,n1,s1,s2,s3,s4⟩ : ∃ (st:Bool) (cs1:List Int) (M1:Option (List D × Nat)),cs1.length=N/\(M.isSome=true->M1.isSome=true)/\okM M1 (B+5) /\
   Z qaa (.call 56 [.dat (.sl (qal cs) N false),qaq false c e0 e1 e2,.int h,.int A,.int Bo,.int F] [])=some (.ret (.tup [.dat (.sl (qal cs1) N false),.bool st]) []) /\
   Z qaa (.call 49 [.iface 0 (.ptr 0 0),qaq false c e0 e1 e2,.int h,.int A,.int Bo,.int F] (qqC cs N M))=some (.ret (.bool st) (qqC cs1 N M1)):=by
  by_cases hst:h<0\/3<=h\/qcG e0 e1 e2 h<0
  ·have zr:=qqO (cs:=cs) (N:=N) (c:=c) (f:=false) (self:=A) (other:=Bo) (fuel:=F) hst
   cases M with
   |none=>exact⟨false,cs,none,hN,id,trivial,zr,qrP (c:=c) (f:=false) (cs:=cs) (N:=N) hst⟩
   |some q=>exact⟨false,cs,some q,hN,id,⟨hM.1,by have:=hM.2; omega⟩,zr,qrU (c:=c) (f:=false) (cs:=cs) (N:=N) (lg:=q.1) (k:=q.2) (t:=q.2*2) hst⟩
  ·have zr:=qoK (cs:=cs) (N:=N) (c:=c) (f:=false) (self:=A) (other:=Bo) (fuel:=F) hN hN1.1 hN1.2 hst
   cases M with
   |none=>
    obtain⟨lg,k,a1,a2,a3⟩:=qra c false e0 e1 e2 h A Bo F cs N hN hN1.1 hst
    exact⟨true,_,some (lg,k),by simp[hN],fun _=>rfl,⟨a1,by omega⟩,zr,a3⟩
   |some q=>
    obtain⟨lg,k,a1,a2,a3⟩:=qrb c false e0 e1 e2 h A Bo F cs N q.1 q.2 hM.1 (by have:=hM.2; omega) hN hN1.1 hst
    exact⟨true,_,some (lg,k),by simp[hN],fun _=>rfl,⟨a1,by have:=hM.2; omega⟩,zr,a3⟩
 obtain⟨fr,σ,cs',M',l1,⟨l2,l3⟩,l4,l5⟩ : ∃ fr σ cs' M',Z qaa (.loop 0 F338l1 (vrF a b f cs1 N h F st (0:Nat)) (sS s c e0 e1 e2 cs1 N M1))=some (.out (.exit 2) fr σ)/\qms s c e0 e1 e2 a b f h N fr σ cs' M'/\cs'.length=N/\okM M' (B+1000):=by
  cases st with
  |false=>
   obtain⟨fr,σ,z,v⟩:=qt5 (s:=s) (c:=c) (e0:=e0) (e1:=e1) (e2:=e2) (a:=a) (b:=b) (f:=f) (h:=h) (F:=F) (M:=M1) (i:=0) (st:=false) n1 hN1.2 (.inl rfl)
   exact⟨fr,σ,cs1,M1,z,v,n1,by cases M1 with|none=>trivial|some q=>exact⟨s2.1,by have:=s2.2; omega⟩⟩
  |true=>
   obtain⟨m,hm⟩ : ∃ m:Nat,F=m:=⟨F.toNat,by omega⟩
   obtain⟨fr,σ,cs',M',g1,g2,g3,g4⟩:=qto (e0:=e0) (e1:=e1) (e2:=e2) (a:=a) (b:=b) (f:=f) (h:=h) hs hn hc hcl (F:=F) (by omega) (m+1) 0 cs1 M1 (B+5) (by omega) n1 s2 (by omega)
   exact⟨fr,σ,cs',M',g1,g2,g3,by cases M' with|none=>trivial|some q=>exact⟨g4.1,by have:=g4.2; omega⟩⟩
 refine⟨cs',M',?_,l4,l5⟩
 have l3':=l3 h1
 clear l3 l5 s2 hM
 rcases M with _|⟨lg,k⟩<;>rcases M1 with _|⟨lg',k'⟩
 all_goals first | (cases (s1 rfl); done) | skip
 all_goals
  simp only[vrF,sS,qhL,qqC,qaA,qai,qaq,Su.d,Su.c,List.map,Yt] at *
  conv=>lhs; rw[qac]
  simp -implicitDefEqProofs [qad,qoY,Wa,h3,za,zb,zf,w1,w2,s3,s4,l1,l2]
  exact qam l3'
end
end
section
inductive Bop where
 |add|sub|mul|div|lt|le|gt|ge|eq|ne|and|or
def Bop.str:Bop->ByteArray
 |.add=>⟨#[43]⟩ | .sub=>⟨#[45]⟩ | .mul=>⟨#[42]⟩ | .div=>⟨#[47]⟩
 |.lt=>⟨#[60]⟩ | .le=>⟨#[60,61]⟩ | .gt=>⟨#[62]⟩ | .ge=>⟨#[62,61]⟩ | .eq=>⟨#[61,61]⟩ | .ne=>⟨#[33,61]⟩
 |.and=>⟨#[38,38]⟩ | .or=>⟨#[124,124]⟩
def Bop.opd:Bop->Int
 |.and | .or=>2
 |_=>1
def Bop.res:Bop->Int
 |.add | .sub | .mul | .div=>1
 |_=>2
def ustr(neg:Bool):ByteArray:=if neg then ⟨#[45]⟩ else ⟨#[33]⟩
inductive E where
 |int (n:Int)
 |bool (n:Int)
 |var (s:ByteArray)
 |name (s:ByteArray)
 |field (f:Bool) (s:ByteArray) (e:E)
 |un (f:Bool) (neg:Bool) (e:E)
 |bin (f:Bool) (o:Bop) (a b:E)
def E.kind:E->Int
 |.int _=>8 | .bool _=>9 | .var _=>10 | .field .. => 11 | .name _=>12 | .un .. => 13 | .bin .. => 14
def E.num:E->Int
 |.int n=>n | .bool n=>n|_=>0
def E.str:E->ByteArray
 |.var s=>s | .name s=>s | .field _ s _=>s | .un _ neg _=>ustr neg | .bin _ o _ _=>o.str|_=>⟨#[]⟩
def E.kids:E->D
 |.field f _ e => .sl [.lit (.int .i64 e.kind),.lit (.int .i64 e.num),.lit (.string e.str),e.kids] 1 f
 |.un f _ e => .sl [.lit (.int .i64 e.kind),.lit (.int .i64 e.num),.lit (.string e.str),e.kids] 1 f
 |.bin f _ a b => .sl [.lit (.int .i64 a.kind),.lit (.int .i64 a.num),.lit (.string a.str),a.kids,.lit (.int .i64 b.kind),.lit (.int .i64 b.num),.lit (.string b.str),b.kids] 2 f
 |_ => .lit (.slice none 0 0)
@[simp] theorem qzt(e:E):V.one (.dat e.kids)=true:=by cases e<;>rfl
@[simp] theorem qw1(e:E):V.cells (.dat e.kids)=[.dat e.kids]:=by cases e<;>rfl
abbrev E.node(e:E):V := .dat (.agg [.lit (.int .i64 e.kind),.lit (.int .i64 e.num),.lit (.string e.str),e.kids])
def E.size:E->Nat
 |.field _ _ e=>e.size+1
 |.un _ _ e=>e.size+1
 |.bin _ _ a b=>a.size+b.size+1
 |_=>1
@[simp] theorem qzu(n:Int):E.size (.int n)=1:=rfl
@[simp] theorem qyS(n:Int):E.size (.bool n)=1:=rfl
@[simp] theorem qzv(s:ByteArray):E.size (.var s)=1:=rfl
@[simp] theorem qyT(s:ByteArray):E.size (.name s)=1:=rfl
@[simp] theorem qoD(f:Bool)(s:ByteArray)(e:E):E.size (.field f s e)=e.size+1:=rfl
@[simp] theorem qqD(f neg:Bool)(e:E):E.size (.un f neg e)=e.size+1:=rfl
@[simp] theorem qky(f:Bool)(o:Bop)(a b:E):E.size (.bin f o a b)=a.size+b.size+1:=rfl
def E.ok:E->Prop
 |.var s=>s.size<=100
 |.field _ _ e=>e.ok
 |.un _ _ e=>e.ok
 |.bin _ _ a b=>a.ok/\b.ok
 |_=>True
def E.ty:E->Int
 |.int _ | .var _ | .name _=>1
 |.bool _=>2
 |.field _ _ e=>if e.ty=1 then 1 else 0
 |.un _ neg e=>if e.ty=(if neg then 1 else 2) then (if neg then 1 else 2) else 0
 |.bin _ o a b=>if a.ty=o.opd/\b.ty=o.opd then o.res else 0
@[simp] theorem qzw(n:Int):E.kind (.int n)=8:=rfl
@[simp] theorem qA4(n:Int):E.num (.int n)=n:=rfl
@[simp] theorem qA5(n:Int):E.str (.int n)=⟨#[]⟩:=rfl
@[simp] theorem qzx(n:Int):E.kids (.int n) = .lit (.slice none 0 0):=rfl
@[simp] theorem qBI(n:Int):E.ty (.int n)=1:=rfl
@[simp] theorem qyU(n:Int):E.kind (.bool n)=9:=rfl
@[simp] theorem qzy(n:Int):E.num (.bool n)=n:=rfl
@[simp] theorem qzz(n:Int):E.str (.bool n)=⟨#[]⟩:=rfl
@[simp] theorem qyV(n:Int):E.kids (.bool n) = .lit (.slice none 0 0):=rfl
@[simp] theorem qA6(n:Int):E.ty (.bool n)=2:=rfl
@[simp] theorem qzA(s:ByteArray):E.kind (.var s)=10:=rfl
@[simp] theorem qA7(s:ByteArray):E.num (.var s)=0:=rfl
@[simp] theorem qA8(s:ByteArray):E.str (.var s)=s:=rfl
@[simp] theorem qzB(s:ByteArray):E.kids (.var s) = .lit (.slice none 0 0):=rfl
@[simp] theorem qBJ(s:ByteArray):E.ty (.var s)=1:=rfl
@[simp] theorem qyW(s:ByteArray):E.kind (.name s)=12:=rfl
@[simp] theorem qzC(s:ByteArray):E.num (.name s)=0:=rfl
@[simp] theorem qzD(s:ByteArray):E.str (.name s)=s:=rfl
@[simp] theorem qyX(s:ByteArray):E.kids (.name s) = .lit (.slice none 0 0):=rfl
@[simp] theorem qA9(s:ByteArray):E.ty (.name s)=1:=rfl
@[simp] theorem qjE(f:Bool)(s:ByteArray)(e:E):E.kind (.field f s e)=11:=rfl
@[simp] theorem qlA(f:Bool)(s:ByteArray)(e:E):E.num (.field f s e)=0:=rfl
@[simp] theorem qlB(f:Bool)(s:ByteArray)(e:E):E.str (.field f s e)=s:=rfl
@[simp] theorem qgY(f:Bool)(s:ByteArray)(e:E):E.kids (.field f s e) = .sl [.lit (.int .i64 e.kind),.lit (.int .i64 e.num),.lit (.string e.str),e.kids] 1 f:=rfl
@[simp] theorem qzE(f:Bool)(s:ByteArray)(e:E):E.ty (.field f s e)=if e.ty=1 then 1 else 0:=rfl
@[simp] theorem qfe(f:Bool)(neg:Bool)(e:E):E.kind (.un f neg e)=13:=rfl
@[simp] theorem qhp(f:Bool)(neg:Bool)(e:E):E.num (.un f neg e)=0:=rfl
@[simp] theorem qhq(f:Bool)(neg:Bool)(e:E):E.str (.un f neg e)=ustr neg:=rfl
@[simp] theorem qex(f:Bool)(neg:Bool)(e:E):E.kids (.un f neg e) = .sl [.lit (.int .i64 e.kind),.lit (.int .i64 e.num),.lit (.string e.str),e.kids] 1 f:=rfl
@[simp] theorem qCr(f:Bool)(neg:Bool)(e:E):E.ty (.un f neg e)=if e.ty=(if neg then 1 else 2) then (if neg then 1 else 2) else 0:=rfl
@[simp] theorem qd2(f:Bool)(o:Bop)(a b:E):E.kind (.bin f o a b)=14:=rfl
@[simp] theorem qff(f:Bool)(o:Bop)(a b:E):E.num (.bin f o a b)=0:=rfl
@[simp] theorem qfg(f:Bool)(o:Bop)(a b:E):E.str (.bin f o a b)=o.str:=rfl
@[simp] theorem qdq(f:Bool)(o:Bop)(a b:E):E.kids (.bin f o a b) = .sl [.lit (.int .i64 a.kind),.lit (.int .i64 a.num),.lit (.string a.str),a.kids,.lit (.int .i64 b.kind),.lit (.int .i64 b.num),.lit (.string b.str),b.kids] 2 f:=rfl
@[simp] theorem qBK(f:Bool)(o:Bop)(a b:E):E.ty (.bin f o a b)=if a.ty=o.opd/\b.ty=o.opd then o.res else 0:=rfl
def kd(f:Bool):Nat->List D->D
 |0,_ => .lit (.slice none 0 0)
 |n+1,cs => .sl cs (n+1) f
@[simp] theorem qBL(f:Bool)(n:Nat)(cs:List D):V.one (.dat (kd f n cs))=true:=by cases n<;>rfl
@[simp] theorem qzF(f:Bool)(n:Nat)(cs:List D):V.cells (.dat (kd f n cs))=[.dat (kd f n cs)]:=by cases n<;>rfl
@[simp] theorem qBM(σ : S)(f:Bool)(n:Nat)(cs:List D):V.len σ .sl (.dat (kd f n cs))=some n:=by cases n<;>simp[kd,V.len]
@[simp] theorem qzG(f:Bool)(cs:List D):kd f 0 cs = .lit (.slice none 0 0):=rfl
@[simp] theorem qlC(f:Bool)(n:Nat)(cs:List D):kd f (n+1) cs = .sl cs (n+1) f:=rfl
inductive Fo where
 |nil
 |cons (k n:Int) (s:ByteArray) (f:Bool) (kids rest:Fo)
def Fo.len:Fo->Nat
 |.nil=>0
 |.cons _ _ _ _ _ r=>r.len+1
def Fo.cells:Fo->List D
 |.nil=>[]
 |.cons k n s f ks r => .lit (.int .i64 k) :: .lit (.int .i64 n) :: .lit (.string s)::kd f ks.len ks.cells::r.cells
def Fo.app:Fo->Fo->Fo
 |.nil,b=>b
 |.cons k n s f ks r,b => .cons k n s f ks (r.app b)
def Fo.size:Fo->Nat
 |.nil=>0
 |.cons _ _ _ _ ks r=>ks.size+r.size+1
@[simp] theorem qbH:Fo.len .nil=0:=rfl
@[simp] theorem qby(k n:Int)(s:ByteArray)(f:Bool)(ks r:Fo):(Fo.cons k n s f ks r).len=r.len+1:=rfl
@[simp] theorem qbf:Fo.cells .nil=[]:=rfl
@[simp] theorem qa5(k n:Int)(s:ByteArray)(f:Bool)(ks r:Fo):(Fo.cons k n s f ks r).cells = .lit (.int .i64 k) :: .lit (.int .i64 n) :: .lit (.string s)::kd f ks.len ks.cells::r.cells:=rfl
@[simp] theorem qaV:Fo.size .nil=0:=rfl
@[simp] theorem qau(k n:Int)(s:ByteArray)(f:Bool)(ks r:Fo):(Fo.cons k n s f ks r).size=ks.size+r.size+1:=rfl
@[simp] theorem qw2(b:Fo):Fo.app .nil b=b:=rfl
@[simp] theorem qwn(k n:Int)(s:ByteArray)(f:Bool)(ks r b:Fo):(Fo.cons k n s f ks r).app b = .cons k n s f ks (r.app b):=rfl
theorem qdy(a b:Fo):(a.app b).len=a.len+b.len:=by induction a with
 |nil=>simp
 |cons k n s f ks r _ ih=>simp[ih]; omega
theorem qhr(a b:Fo):(a.app b).cells=a.cells++b.cells:=by induction a with
 |nil=>simp
 |cons k n s f ks r _ ih=>simp[ih]
theorem qiB(a b:Fo):(a.app b).size=a.size+b.size:=by induction a with
 |nil=>simp
 |cons k n s f ks r _ ih=>simp[ih]; omega
theorem qhs(a:Fo):a.cells.length=a.len*4:=by induction a with
 |nil=>simp
 |cons k n s f ks r _ ih=>simp[ih]; omega
theorem qdQ(a:Fo):a.len<=a.size:=by induction a with
 |nil=>simp
 |cons k n s f ks r _ ih=>simp; omega
abbrev nd(k n:Int)(s:ByteArray)(f:Bool)(ks:Fo):V := .dat (.agg [.lit (.int .i64 k),.lit (.int .i64 n),.lit (.string s),kd f ks.len ks.cells])
def Fo.hk:Fo->Int
 |.nil=>0
 |.cons k _ _ _ _ _=>k
def Fo.hn:Fo->Int
 |.nil=>0
 |.cons _ n _ _ _ _=>n
def Fo.hs:Fo->ByteArray
 |.nil=>⟨#[]⟩
 |.cons _ _ s _ _ _=>s
def Fo.hf:Fo->Bool
 |.nil=>false
 |.cons _ _ _ f _ _=>f
def Fo.hks:Fo->Fo
 |.nil => .nil
 |.cons _ _ _ _ ks _=>ks
def Fo.tl:Fo->Fo
 |.nil => .nil
 |.cons _ _ _ _ _ r=>r
abbrev Fo.hd(a:Fo):V:=nd a.hk a.hn a.hs a.hf a.hks
def E.flag:E->Bool
 |.field f _ _=>f | .un f _ _=>f | .bin f _ _ _=>f|_=>false
def E.fo:E->Fo->Fo
 |.int n,r => .cons 8 n ⟨#[]⟩ false .nil r
 |.bool n,r => .cons 9 n ⟨#[]⟩ false .nil r
 |.var s,r => .cons 10 0 s false .nil r
 |.name s,r => .cons 12 0 s false .nil r
 |.field f s e,r => .cons 11 0 s f (e.fo .nil) r
 |.un f neg e,r => .cons 13 0 (ustr neg) f (e.fo .nil) r
 |.bin f o a b,r => .cons 14 0 o.str f (a.fo (b.fo .nil)) r
def E.kfo:E->Fo
 |.field _ _ e=>e.fo .nil | .un _ _ e=>e.fo .nil | .bin _ _ a b=>a.fo (b.fo .nil) | _ => .nil
theorem qiC(e:E)(r:Fo):e.fo r = .cons e.kind e.num e.str e.flag e.kfo r:=by cases e<;>rfl
theorem qqE(e:E):e.kids=kd e.flag e.kfo.len e.kfo.cells:=by
 induction e with
 |field f s e ih=>
  show (E.field f s e).kids=kd f (e.fo .nil).len (e.fo .nil).cells
  rw[qiC]
  simp only[qgY,qby,qbH,qlC,qa5,qbf,<- ih]
 |un f neg e ih=>
  show (E.un f neg e).kids=kd f (e.fo .nil).len (e.fo .nil).cells
  rw[qiC]
  simp only[qex,qby,qbH,qlC,qa5,qbf,<- ih]
 |bin f o a b iha ihb=>
  show (E.bin f o a b).kids=kd f (a.fo (b.fo .nil)).len (a.fo (b.fo .nil)).cells
  rw[qiC,qiC]
  simp only[qdq,qby,qbH,qlC,qa5,qbf,<- iha,<- ihb]
 |_=>rfl
theorem qcE(e:E)(r:Fo):(e.fo r).size=e.size+r.size:=by
 induction e generalizing r<;>simp only[E.fo,E.size,qau,qaV, *]<;>omega
@[simp] theorem qCs(e:E)(r:Fo):(e.fo r).tl=r:=by rw[qiC]; rfl
inductive Ss where
 |nil
 |assign (f:Bool) (s:ByteArray) (e:E) (r:Ss)
 |store (f:Bool) (s:ByteArray) (a b:E) (r:Ss)
 |effect (f:Bool) (a b:E) (r:Ss)
 |stop (r:Ss)
 |cond (w:Bool) (f:Bool) (c:E) (b:Ss) (r:Ss)
 |block (f:Bool) (b:Ss) (r:Ss)
def qq8:ByteArray:=⟨#[104,105,116]⟩
def qt6:ByteArray:=⟨#[115,116,105,108,108]⟩
def Ss.well:Ss->Bool
 |.nil=>true
 |.assign _ _ e r=>decide (e.ty=1)&&r.well
 |.store _ s a b r=>(!(eqS s qq8||eqS s qt6)&&(decide (a.ty=1)&&decide (b.ty=1)))&&r.well
 |.effect _ a b r=>(decide (a.ty=1)&&decide (b.ty=1))&&r.well
 |.stop r=>r.well
 |.cond _ _ c b r=>(decide (c.ty=2)&&b.well)&&r.well
 |.block _ b r=>b.well&&r.well
def Ss.ok:Ss->Prop
 |.nil=>True
 |.assign _ s e r=>s.size<=100/\e.ok/\r.ok
 |.store _ _ a b r=>a.ok/\b.ok/\r.ok
 |.effect _ a b r=>a.ok/\b.ok/\r.ok
 |.stop r=>r.ok
 |.cond _ _ c b r=>c.ok/\b.ok/\r.ok
 |.block _ b r=>b.ok/\r.ok
def Ss.fo:Ss->Fo
 |.nil => .nil
 |.assign f s e r => .cons 1 0 s f (e.fo .nil) r.fo
 |.store f s a b r => .cons 2 0 s f (a.fo (b.fo .nil)) r.fo
 |.effect f a b r => .cons 5 0 ⟨#[]⟩ f (a.fo (b.fo .nil)) r.fo
 |.stop r => .cons 6 0 ⟨#[]⟩ false .nil r.fo
 |.cond w f c b r => .cons (if w then 4 else 3) 0 ⟨#[]⟩ f (c.fo b.fo) r.fo
 |.block f b r => .cons 7 0 ⟨#[]⟩ f b.fo r.fo
theorem qzH{cs r:List D}{o:Nat}{a b c d:D}(h:cs.drop o=a::b::c::d::r):qah cs o 4=some [a,b,c,d]:=by
 unfold qah
 rw[h]
 simp
@[simp] theorem qCt(e:E)(r:Fo):(e.fo r).hk=e.kind:=by rw[qiC]; rfl
@[simp] theorem qCu(e:E)(r:Fo):(e.fo r).hn=e.num:=by rw[qiC]; rfl
@[simp] theorem qCv(e:E)(r:Fo):(e.fo r).hs=e.str:=by rw[qiC]; rfl
@[simp] theorem qBN(e:E)(r:Fo):kd (e.fo r).hf (e.fo r).hks.len (e.fo r).hks.cells=e.kids:=by rw[qiC,qqE]; rfl
@[simp] theorem qlD(e:E)(r:Fo):(e.fo r).len=r.len+1:=by rw[qiC]; rfl
@[simp] theorem qgA(e:E)(r:Fo):(e.fo r).cells = .lit (.int .i64 e.kind) :: .lit (.int .i64 e.num) :: .lit (.string e.str)::e.kids::r.cells:=by rw[qiC,qqE]; rfl
@[simp] theorem qBO:Fo.hk .nil=0:=rfl
@[simp] theorem qBP:Fo.hn .nil=0:=rfl
@[simp] theorem qBQ:Fo.hs .nil=⟨#[]⟩:=rfl
@[simp] theorem qBR:Fo.hf .nil=false:=rfl
@[simp] theorem qBa:Fo.hks .nil = .nil:=rfl
def qb3(ss:List ByteArray):List D:=ss.map fun s => .lit (.string s)
theorem qhT(ss:List ByteArray)(i:Nat)(h:i<ss.length):qah (qb3 ss) i 1=some [.lit (.string ss[i])]:=by
 unfold qah qb3
 rw[WF (by simpa using h)]
 simp
theorem qbk(a b:ByteArray):eqS a b=decide (a=b):=by
 rw[Bool.eq_iff_iff]
 simp only[eqS,beq_iff_eq,decide_eq_true_eq,ByteArray.toList_eq]
 exact⟨fun h=>by cases a; cases b; simp only[Array.toList_inj] at h; rw[h],fun h=>by rw[h]⟩
instance:LawfulBEq ByteArray where
 eq_of_beq h:=by rw[qeg] at h; exact of_decide_eq_true h
 rfl:=by intro a; rw[qeg]; exact decide_eq_true rfl
def qmt:List ByteArray->D
 |[] => .lit (.slice none 0 0)
 |s::l => .sl (qb3 (s::l)) (l.length+1) false
@[simp] theorem qzI(l:List ByteArray):V.one (.dat (qmt l))=true:=by cases l<;>rfl
@[simp] theorem qw3(l:List ByteArray):V.cells (.dat (qmt l))=[.dat (qmt l)]:=by cases l<;>rfl
@[simp] theorem qzJ(σ : S)(l:List ByteArray):V.len σ .sl (.dat (qmt l))=some l.length:=by cases l<;>simp[qmt,V.len]
@[simp] theorem qzK(l:List ByteArray):(qb3 l).length=l.length:=by simp[qb3]
def Fo.vars:Fo->List ByteArray
 |.nil=>[]
 |.cons k _ s _ ks r=>(if k=1\/k=10 then [s] else [])++(ks.vars++r.vars)
def qqF(l:List ByteArray)(s:ByteArray):List ByteArray:=if s∈l then l else l++[s]
def addAll(l:List ByteArray)(xs:List ByteArray):List ByteArray:=xs.foldl qqF l
theorem qcU(l a b:List ByteArray):addAll l (a++b)=addAll (addAll l a) b:=by simp[addAll,List.foldl_append]
theorem qs6(l:List ByteArray)(s:ByteArray):l.length<=(qqF l s).length/\(qqF l s).length<=l.length+1:=by
 unfold qqF
 split<;>simp
theorem qcB(xs:List ByteArray) : ∀ l,l.length<=(addAll l xs).length/\(addAll l xs).length<=l.length+xs.length:=by
 induction xs with
 |nil=>intro l; simp[addAll]
 |cons x xs ih=>
  intro l
  have:=ih (qqF l x)
  have h2:=qs6 l x
  simp only[addAll,W6,We] at this ⊢
  omega
theorem qhU(a:Fo):a.vars.length<=a.size:=by
 induction a with
 |nil=>simp[Fo.vars]
 |cons k n s f ks r ih1 ih2=>
  simp only[Fo.vars,Wb,qau]
  split<;>simp<;>omega
theorem qgB{cs r:List D}{i:Nat}{a b c d:D}(h:cs.drop (i*4)=a::b::c::d::r):cs.drop ((i+1)*4)=r:=by
 rw[show (i+1)*4=i*4+4 by omega,<- List.drop_drop,h]
 rfl
theorem qjF{b:Ss}(hb:b.fo.len=0):b = .nil:=by cases b<;>simp[Ss.fo] at hb; rfl
theorem qwo{l:List ByteArray}(h:l≠[]):qmt l = .sl (qb3 l) l.length false:=by
 cases l with
 |nil=>exact absurd rfl h
 |cons s l=>rfl
theorem qnz(s:ByteArray):qb3 [s]=[.lit (.string s)]:=rfl
theorem qs7(a b:List ByteArray):qb3 (a++b)=qb3 a++qb3 b:=by simp[qb3]
structure Nd where
 k:Int
 n:Int
 s:ByteArray
 f:Bool
 ks:Fo
abbrev Nd.v(a:Nd):V:=nd a.k a.n a.s a.f a.ks
def Nd.vars(a:Nd):List ByteArray:=(if a.k=1\/a.k=10 then [a.s] else [])++a.ks.vars
abbrev Nd.d(a:Nd):D:=kd a.f a.ks.len a.ks.cells
theorem qey(a:Nd):a.vars.length<=a.ks.size+1:=by
 have h:=qhU a.ks
 unfold Nd.vars
 rw[Wb]
 split<;>simp<;>omega
abbrev ru(a b c:Nd):D := .agg [.lit (.int .i64 a.k),.lit (.int .i64 a.n),.lit (.string a.s),a.d,.lit (.int .i64 b.k),.lit (.int .i64 b.n),.lit (.string b.s),b.d,.lit (.int .i64 c.k),.lit (.int .i64 c.n),.lit (.string c.s),c.d]
def rvars(a b c:Nd):List ByteArray:=addAll [] (a.vars++(b.vars++c.vars))
inductive Hd where
 |none
 |some (f:Bool) (b:Ss)
def Hd.k:Hd->Int
 |.none=>0
 |.some _ _=>7
def Hd.f:Hd->Bool
 |.none=>false
 |.some f _=>f
def Hd.ks:Hd->Fo
 |.none => .nil
 |.some _ b=>b.fo
def Hd.nd(h:Hd):Nd:=⟨h.k,0,⟨#[]⟩,h.f,h.ks⟩
@[simp] theorem qBb(h:Hd):h.nd.k=h.k:=rfl
@[simp] theorem qBc(h:Hd):h.nd.n=0:=rfl
@[simp] theorem qBd(h:Hd):h.nd.s=⟨#[]⟩:=rfl
@[simp] theorem qBe(h:Hd):h.nd.f=h.f:=rfl
@[simp] theorem qs8(h:Hd):h.nd.ks=h.ks:=rfl
def Hd.well:Hd->Bool
 |.none=>true
 |.some _ b=>b.well
abbrev qhD(a b c:Nd):Ob := .cells [.int a.k,.int a.n,.str a.s,.dat a.d,.int b.k,.int b.n,.str b.s,.dat b.d,.int c.k,.int c.n,.str c.s,.dat c.d]
def Ss.app:Ss->Ss->Ss
 |.nil,b=>b
 |.assign f s e r,b => .assign f s e (r.app b)
 |.store f s x y r,b => .store f s x y (r.app b)
 |.effect f x y r,b => .effect f x y (r.app b)
 |.stop r,b => .stop (r.app b)
 |.cond w f c q r,b => .cond w f c q (r.app b)
 |.block f q r,b => .block f q (r.app b)
theorem qiD(a b:Ss):(a.app b).fo=a.fo.app b.fo:=by
 induction a<;>simp_all [Ss.app,Ss.fo]
theorem qqG(a b c:Fo):(a.app b).app c=a.app (b.app c):=by
 induction a<;>simp_all
theorem qwp(a:Fo):a.app .nil=a:=by
 induction a<;>simp_all
end
end Go.Pm
section
namespace Go.Pm.Gr
abbrev Cd:=List (Int × Int)
def qeU(op:Int):Int:=if op=3\/op=4\/op=13\/op=17\/op=19 then 1 else if op=5\/op=9\/op=10\/op=11\/op=12\/op=14\/op=15\/op=16\/op=20 then 2 else 0
def qdF(op:Int):Int:=if op=3\/op=5\/op=18\/op=19\/op=20\/op=21 then 0 else 1
theorem qmU(op:Int):0<=qeU op/\qeU op<=2:=by unfold qeU; split<;>(try split)<;>omega
theorem qge(op:Int):0<=qdF op/\qdF op<=1:=by unfold qdF; split<;>omega
def opA(c:Cd)(i:Nat):Int:=(c.getD i (0,0)).1
def nA(c:Cd)(i:Nat):Int:=(c.getD i (0,0)).2
def qgC(c:Cd)(i:Nat):List Int:=if opA c i=21 then [] else if opA c i=18 then [nA c i] else if opA c i=19 then [(i:Int)+1,nA c i] else [(i:Int)+1]
def qwX(c:Cd):Prop := ∀ i,i<c.length -> ∀ j∈qgC c i,0<=j/\j<=c.length
def aft(c:Cd)(i:Nat)(d:Int):Int:=d+(qdF (opA c i)-qeU (opA c i))
inductive Reach(c:Cd)(e:Nat):Nat->Prop
 |here:Reach c e e
 |go {i j:Nat}:Reach c e i->i<c.length->(j:Int)∈qgC c i->j<c.length->Reach c e j
theorem Reach.lt{c:Cd}{e i:Nat}(he:e<c.length)(h:Reach c e i):i<c.length:=by
 cases h with
 |here=>exact he
 |go _ _ _ h=>exact h
structure CF(c:Cd)(e:Nat)(D:Nat->Int):Prop where
 zero:D e=0
 pops : ∀ i,Reach c e i->qeU (opA c i)<=D i
 step : ∀ i,Reach c e i -> ∀ j:Nat,(j:Int)∈qgC c i->j<c.length->D j=aft c i (D i)
def quM(c:Cd)(e:Nat):Prop := ∃ i,Reach c e i/\(c.length:Int)∈qgC c i
structure Most(c:Cd)(e:Nat)(D:Nat->Int)(m:Int):Prop where
 nonneg:0<=m
 le : ∀ i,Reach c e i->aft c i (D i)<=m
 at_:m=0 \/ ∃ i,Reach c e i/\m=aft c i (D i)
theorem Most.unique{c:Cd}{e:Nat}{D:Nat->Int}{m m':Int}(h:Most c e D m)(h':Most c e D m'):m=m':=by
 have a:m<=m':=by
  rcases h.at_ with h0|⟨i,hi,h0⟩
  ·have:=h'.nonneg; omega
  ·have:=h'.le i hi; omega
 have b:m'<=m:=by
  rcases h'.at_ with h0|⟨i,hi,h0⟩
  ·have:=h.nonneg; omega
  ·have:=h.le i hi; omega
 omega
theorem CF.unique{c:Cd}{e:Nat}{D D':Nat->Int}(h:CF c e D)(h':CF c e D'){i:Nat}(hi:Reach c e i):D i=D' i:=by
 induction hi with
 |here=>rw[h.zero,h'.zero]
 |go hi hl hj hjl ih=>rw[h.step _ hi _ hj hjl,h'.step _ hi _ hj hjl,ih]
theorem Most.of_eq{c:Cd}{e:Nat}{D D':Nat->Int}{m:Int}(h:CF c e D)(h':CF c e D')(hm:Most c e D m):Most c e D' m:=by
 refine⟨hm.nonneg,fun i hi=>?_,?_⟩
 ·rw[<- CF.unique h h' hi]; exact hm.le i hi
 ·rcases hm.at_ with h0|⟨i,hi,h0⟩
  ·exact .inl h0
  ·exact .inr ⟨i,hi,by rw[<- CF.unique h h' hi]; exact h0⟩
structure An where
 falls:Bool
 breaks:Bool
 depth:Int
 ds:List Int
 op:List Nat
def gD(l:List Int)(i:Nat):Int:=l.getD i 0
def one(n:Nat)(d:Int)(a:An)(j:Int):An:=
 if j=n then { a with falls:=true }
 else if gD a.ds j.toNat=0 then { a with ds:=a.ds.set j.toNat (max d 0+1),op:=a.op++[j.toNat] }
 else if gD a.ds j.toNat≠d+1 then { a with breaks:=true }
 else a
def stp(c:Cd)(a:An)(i:Nat)(r:List Nat):An:=
 let d:=gD a.ds i-1
 let d':=aft c i d
 (qgC c i).foldl (one c.length d') { a with breaks:=a.breaks||decide (d<qeU (opA c i)),depth:=max a.depth d',op:=r }
theorem qgf{l:List Int}{i:Nat}{v:Int}(h:i<l.length):gD (l.set i v) i=v:=by
 simp[gD,Wn,h]
theorem qgg{l:List Int}{i j:Nat}{v:Int}(h:i≠j):gD (l.set i v) j=gD l j:=by
 simp only[gD,Wn]
 rw[Ww h]
structure Inv(c:Cd)(e:Nat)(cur:Option Nat)(pre:List Int)(a:An):Prop where
 len:a.ds.length=c.length
 nodup:a.op.Nodup
 opn : ∀ i∈a.op,i<c.length/\gD a.ds i≠0
 pos : ∀ i,i<c.length->gD a.ds i≠0->1<=gD a.ds i/\Reach c e i
 ent:gD a.ds e=1
 cur_ : ∀ i,cur=some i->i<c.length/\gD a.ds i≠0/\i∉a.op
 done : ∀ i,i<c.length->gD a.ds i≠0->i∉a.op -> ∀ j∈(if cur=some i then pre else qgC c i),(j=c.length->a.falls=true)/\(j<c.length->gD a.ds j.toNat≠0)
 fal:a.falls=true->quM c e
 brk:a.breaks=false -> ∀ i,i<c.length->gD a.ds i≠0->i∉a.op->qeU (opA c i)<=gD a.ds i-1 /\ ∀ j∈(if cur=some i then pre else qgC c i),j<c.length->gD a.ds j.toNat=aft c i (gD a.ds i-1)+1
 cf : ∀ D,CF c e D->a.breaks=false /\ ∀ i,i<c.length->gD a.ds i≠0->gD a.ds i=D i+1
 dle:0<=a.depth /\ ∀ i,i<c.length->gD a.ds i≠0->i∉a.op->aft c i (gD a.ds i-1)<=a.depth
 dat:a.depth=0 \/ ∃ i,i<c.length/\gD a.ds i≠0/\i∉a.op/\a.depth=aft c i (gD a.ds i-1)
theorem quN {c:Cd} {e i:Nat} {pre:List Int} {j:Int} {a:An} (h:Inv c e (some i) pre a) (hs:j∈qgC c i) (hj:0<=j/\j<=c.length) :
  Inv c e (some i) (pre++[j]) (one c.length (aft c i (gD a.ds i-1)) a j)/\gD (one c.length (aft c i (gD a.ds i-1)) a j).ds i=gD a.ds i:=by
 obtain⟨hi1,hi2,hi3⟩:=h.cur_ i rfl
 obtain⟨hp1,hp2⟩:=h.pos i hi1 hi2
 unfold one
 by_cases hn:j=c.length
 ·rw[if_pos hn]
  refine⟨⟨h.len,h.nodup,h.opn,h.pos,h.ent,h.cur_,?_,fun _=>⟨i,hp2,by rw[<- hn]; exact hs⟩,?_,h.cf,h.dle,h.dat⟩,rfl⟩
  ·intro k k1 k2 k3 x hx
   have:=h.done k k1 k2 k3
   by_cases hk:some i=some k
   ·rw[if_pos hk] at hx this
    rcases Wo.1 hx with hx|hx
    ·exact⟨fun _=>rfl,(this x hx).2⟩
    ·simp only[Wl] at hx
     exact⟨fun _=>rfl,fun hl=>by omega⟩
   ·rw[if_neg hk] at hx this
    exact⟨fun _=>rfl,(this x hx).2⟩
  ·intro hb k k1 k2 k3
   have:=h.brk hb k k1 k2 k3
   refine⟨this.1,fun x hx hl=>?_⟩
   by_cases hk:some i=some k
   ·rw[if_pos hk] at hx
    rw[if_pos hk] at this
    rcases Wo.1 hx with hx|hx
    ·exact this.2 x hx hl
    ·simp only[Wl] at hx; omega
   ·rw[if_neg hk] at hx this
    exact this.2 x hx hl
 ·rw[if_neg hn]
  have hjl:j.toNat<c.length:=by omega
  have hjs:((j.toNat:Nat):Int)∈qgC c i:=by rw[show ((j.toNat:Nat):Int)=j by omega]; exact hs
  have hjr:Reach c e j.toNat:=Reach.go hp2 hi1 hjs hjl
  by_cases h0:gD a.ds j.toNat=0
  ·rw[if_pos h0]
   have hij:j.toNat≠i:=fun hh=>hi2 (by rw[<- hh]; exact h0)
   have hjo:j.toNat∉a.op:=fun hh=>(h.opn _ hh).2 h0
   have hnew:gD (a.ds.set j.toNat (max (aft c i (gD a.ds i-1)) 0+1)) j.toNat=max (aft c i (gD a.ds i-1)) 0+1:=qgf (by rw[h.len]; exact hjl)
   have hold : ∀ k,k≠j.toNat->gD (a.ds.set j.toNat (max (aft c i (gD a.ds i-1)) 0+1)) k=gD a.ds k:=fun k hk=>qgg (YB hk)
   have hge : ∀ k,gD a.ds k≠0->gD (a.ds.set j.toNat (max (aft c i (gD a.ds i-1)) 0+1)) k=gD a.ds k:=fun k hk=>hold k (fun hh=>hk (by rw[hh]; exact h0))
   generalize hV:a.ds.set j.toNat (max (aft c i (gD a.ds i-1)) 0+1)=V at *
   have back : ∀ k,gD V k≠0->k∉a.op++[j.toNat]->gD a.ds k≠0/\k∉a.op/\gD V k=gD a.ds k:=fun k k2 k3=>by
    have hk:k≠j.toNat:=fun hh=>k3 (by rw[hh]; simp)
    rw[hold k hk] at k2
    exact⟨k2,fun hh=>k3 (by simp[hh]),hold k hk⟩
   refine⟨⟨by simp only; rw[<- hV]; simp[h.len],?_,?_,?_,?_,?_,?_,h.fal,?_,?_,?_,?_⟩,hold i (YB hij)⟩
   ·simp only
    rw[List.nodup_append]
    exact⟨h.nodup,by simp,fun x hx y hy=>by simp only[Wl] at hy; rw[hy]; exact fun hh=>hjo (by rw[<- hh]; exact hx)⟩
   ·intro k hk
    simp only at hk ⊢
    rcases Wo.1 hk with hk|hk
    ·have:=h.opn k hk
     exact⟨this.1,by rw[hge k this.2]; exact this.2⟩
    ·simp only[Wl] at hk
     rw[hk,hnew]
     exact⟨hjl,by omega⟩
   ·intro k k1 k2
    simp only at k2 ⊢
    by_cases hk:k=j.toNat
    ·rw[hk,hnew]; exact⟨by omega,hjr⟩
    ·rw[hold k hk] at k2 ⊢; exact h.pos k k1 k2
   ·simp only; rw[hge e (by rw[h.ent]; omega)]; exact h.ent
   ·intro k hk
    have:=h.cur_ k hk
    simp only
    refine⟨this.1,by rw[hge k this.2.1]; exact this.2.1,?_⟩
    rw[Wo,not_or]
    refine⟨this.2.2,?_⟩
    simp only[Wl]
    intro hh
    exact this.2.1 (by rw[hh]; exact h0)
   ·intro k k1 k2 k3 x hx
    simp only at k2 k3 ⊢
    obtain⟨b1,b2,b3⟩:=back k k2 k3
    have:=h.done k k1 b1 b2
    by_cases hk:some i=some k
    ·rw[if_pos hk] at hx this
     rcases Wo.1 hx with hx|hx
     ·exact⟨(this x hx).1,fun hl=>by rw[hge _ ((this x hx).2 hl)]; exact (this x hx).2 hl⟩
     ·simp only[Wl] at hx
      exact⟨fun hh=>absurd (hx ▸ hh) hn,fun _=>by rw[hx,hnew]; omega⟩
    ·rw[if_neg hk] at hx this
     exact⟨(this x hx).1,fun hl=>by rw[hge _ ((this x hx).2 hl)]; exact (this x hx).2 hl⟩
   ·intro hb k k1 k2 k3
    simp only at hb k2 k3 ⊢
    obtain⟨b1,b2,b3⟩:=back k k2 k3
    have hbr:=h.brk hb k k1 b1 b2
    have hdo:=h.done k k1 b1 b2
    rw[b3]
    refine⟨hbr.1,fun x hx hl=>?_⟩
    by_cases hk:some i=some k
    ·rw[if_pos hk] at hx hbr hdo
     rcases Wo.1 hx with hx|hx
     ·rw[hge _ ((hdo x hx).2 hl)]; exact hbr.2 x hx hl
     ·simp only[Wl] at hx
      have hik:i=k:=WY hk
      subst hik
      have:=qge (opA c i)
      rw[hx,hnew]
      have hh:=hbr.1
      unfold aft
      omega
    ·rw[if_neg hk] at hx hbr hdo
     rw[hge _ ((hdo x hx).2 hl)]; exact hbr.2 x hx hl
   ·intro D hD
    obtain⟨c1,c2⟩:=h.cf D hD
    refine⟨c1,fun k k1 k2=>?_⟩
    simp only at k2 ⊢
    by_cases hk:k=j.toNat
    ·rw[hk,hnew,hD.step i hp2 j.toNat hjs hjl]
     have hDi:gD a.ds i=D i+1:=c2 i hi1 hi2
     rw[show gD a.ds i-1=D i by omega]
     have:=hD.pops i hp2
     have:=qge (opA c i)
     unfold aft
     omega
    ·rw[hold k hk] at k2 ⊢; exact c2 k k1 k2
   ·refine⟨h.dle.1,fun k k1 k2 k3=>?_⟩
    simp only at k2 k3 ⊢
    obtain⟨b1,b2,b3⟩:=back k k2 k3
    rw[b3]; exact h.dle.2 k k1 b1 b2
   ·rcases h.dat with hd|⟨k,k1,k2,k3,k4⟩
    ·exact .inl hd
    ·refine .inr ⟨k,k1,by simp only; rw[hge k k2]; exact k2,?_,by simp only; rw[hge k k2]; exact k4⟩
     simp only
     rw[Wo,not_or]
     refine⟨k3,?_⟩
     simp only[Wl]
     intro hh
     exact k2 (by rw[hh]; exact h0)
  ·rw[if_neg h0]
   by_cases hd:gD a.ds j.toNat≠aft c i (gD a.ds i-1)+1
   ·rw[if_pos hd]
    refine⟨⟨h.len,h.nodup,h.opn,h.pos,h.ent,h.cur_,?_,h.fal,fun hb=>by simp at hb,?_,h.dle,h.dat⟩,rfl⟩
    ·intro k k1 k2 k3 x hx
     have:=h.done k k1 k2 k3
     by_cases hk:some i=some k
     ·rw[if_pos hk] at hx this
      rcases Wo.1 hx with hx|hx
      ·exact this x hx
      ·simp only[Wl] at hx
       exact⟨fun hh=>absurd (hx ▸ hh) hn,fun _=>by rw[hx]; exact h0⟩
     ·rw[if_neg hk] at hx this
      exact this x hx
    ·intro D hD
     exfalso
     obtain⟨c1,c2⟩:=h.cf D hD
     apply hd
     rw[c2 j.toNat hjl h0,hD.step i hp2 j.toNat hjs hjl,c2 i hi1 hi2,show D i+1-1=D i by omega]
   ·rw[if_neg hd]
    have hd':gD a.ds j.toNat=aft c i (gD a.ds i-1)+1:=by omega
    refine⟨⟨h.len,h.nodup,h.opn,h.pos,h.ent,h.cur_,?_,h.fal,?_,h.cf,h.dle,h.dat⟩,rfl⟩
    ·intro k k1 k2 k3 x hx
     have:=h.done k k1 k2 k3
     by_cases hk:some i=some k
     ·rw[if_pos hk] at hx this
      rcases Wo.1 hx with hx|hx
      ·exact this x hx
      ·simp only[Wl] at hx
       exact⟨fun hh=>absurd (hx ▸ hh) hn,fun _=>by rw[hx]; exact h0⟩
     ·rw[if_neg hk] at hx this
      exact this x hx
    ·intro hb k k1 k2 k3
     have:=h.brk hb k k1 k2 k3
     refine⟨this.1,fun x hx hl=>?_⟩
     by_cases hk:some i=some k
     ·rw[if_pos hk] at hx
      rw[if_pos hk] at this
      rcases Wo.1 hx with hx|hx
      ·exact this.2 x hx hl
      ·simp only[Wl] at hx
       have hik:i=k:=WY hk
       subst hik
       rw[hx]; exact hd'
     ·rw[if_neg hk] at hx this
      exact this.2 x hx hl
end Go.Pm.Gr
end
namespace Go.Pm
section
open Gr
def ixI:List ByteArray->ByteArray->Int
 |[],_ => -1
 |x::l,s=>if x=s then 0 else if ixI l s<0 then -1 else ixI l s+1
def qvK:List ByteArray:=[⟨#[120]⟩,⟨#[121]⟩,⟨#[118,120]⟩,⟨#[118,121]⟩,⟨#[97]⟩,⟨#[98]⟩,⟨#[104,105,116]⟩,⟨#[115,116,105,108,108]⟩]
def fieldI(s:ByteArray):Int:=ixI qvK s
def nameI(s:ByteArray):Int:=if s=⟨#[115,101,108,102]⟩ then 6 else if s=⟨#[111,116,104,101,114]⟩ then 7 else 8
def opI:Bop->Int
 |.add=>9 | .sub=>10 | .mul=>11 | .div=>12
 |.lt=>14 | .gt=>14 | .le=>15 | .ge=>15
 |_=>16
def sq(a b:Int->Cd)(at_:Int):Cd:=a at_++b (at_+(a at_).length)
def brC(c a b:Int->Cd)(at_:Int):Cd:=
 c at_++((19,at_+(c at_).length+1+(a (at_+(c at_).length+1)).length+1)::(a (at_+(c at_).length+1) ++
  ((18,at_+(c at_).length+1+(a (at_+(c at_).length+1)).length+1+(b (at_+(c at_).length+1+(a (at_+(c at_).length+1)).length+1)).length) ::
    b (at_+(c at_).length+1+(a (at_+(c at_).length+1)).length+1))))
def whC(c a:Int->Cd)(at_:Int):Cd:=
 c at_++((19,at_+(c at_).length+1+(a (at_+(c at_).length+1)).length+1)::(a (at_+(c at_).length+1)++[(18,at_)]))
def snC(c:Int->Cd)(i:Int × Int)(at_:Int):Cd:=c at_++[i]
def binC(o:Bop)(a b:Int->Cd):Int->Cd:=
 match o with
 |.and=>brC a b (fun _=>[(1,0)])
 |.or=>brC a (fun _=>[(1,1)]) b
 |.gt=>snC (sq b a) (14,0)
 |.ge=>snC (sq b a) (15,0)
 |.ne=>snC (snC (sq a b) (16,0)) (17,0)
 |o=>snC (sq a b) (opI o,0)
def qcR(vs:List ByteArray):E->Int->Cd
 |.int n=>fun _=>[(1,n)]
 |.bool n=>fun _=>[(1,n)]
 |.var s=>fun _=>[(2,ixI vs s)]
 |.name s=>fun _=>[(nameI s,0)]
 |.field _ s e=>snC (qcR vs e) (4,fieldI s)
 |.un _ neg e=>snC (qcR vs e) (if neg then 13 else 17,0)
 |.bin _ o a b=>binC o (qcR vs a) (qcR vs b)
def codeS(vs:List ByteArray):Ss->Int->Cd
 |.nil=>fun _=>[]
 |.assign _ s e r=>sq (snC (qcR vs e) (3,ixI vs s)) (codeS vs r)
 |.store _ s a b r=>sq (snC (sq (qcR vs a) (qcR vs b)) (5,fieldI s)) (codeS vs r)
 |.effect _ a b r=>sq (snC (sq (qcR vs a) (qcR vs b)) (20,0)) (codeS vs r)
 |.stop r=>sq (fun _=>[(21,0)]) (codeS vs r)
 |.cond false _ c (.block _ x (.block _ y .nil)) r=>sq (brC (qcR vs c) (codeS vs x) (codeS vs y)) (codeS vs r)
 |.cond true _ c (.block _ x .nil) r=>sq (whC (qcR vs c) (codeS vs x)) (codeS vs r)
 |_=>fun _=>[]
def Ln(C:Int->Cd)(n:Nat):Prop := ∀ p,(C p).length=n
theorem qa9{a b:Int->Cd}{n m:Nat}(ha:Ln a n)(hb:Ln b m):Ln (sq a b) (n+m):=fun p=>by simp[sq,ha p,hb _]
theorem qbL{c:Int->Cd}{i:Int × Int}{n:Nat}(h:Ln c n):Ln (snC c i) (n+1):=fun p=>by simp[snC,h p]
theorem qiT{c a b:Int->Cd}{n m k:Nat}(hc:Ln c n)(ha:Ln a m)(hb:Ln b k):Ln (brC c a b) (n+m+k+2):=fun p=>by simp[brC,hc p,ha _,hb _]; omega
theorem qsu{c a:Int->Cd}{n m:Nat}(hc:Ln c n)(ha:Ln a m):Ln (whC c a) (n+m+2):=fun p=>by simp[whC,hc p,ha _]; omega
theorem qym{o:Bop}{a b:Int->Cd}{n m:Nat}(ha:Ln a n)(hb:Ln b m) : ∃ k,Ln (binC o a b) k/\n+m+1<=k/\k<=n+m+3/\0<k:=by
 cases o
 case and=>
  have h1:Ln (fun _=>[((1:Int),(0:Int))]) 1:=fun _=>rfl
  exact⟨_,qiT ha hb h1,by omega,by omega,by omega⟩
 case or=>
  have h1:Ln (fun _=>[((1:Int),(1:Int))]) 1:=fun _=>rfl
  exact⟨_,qiT ha h1 hb,by omega,by omega,by omega⟩
 case gt=>exact⟨_,qbL (qa9 hb ha),by omega,by omega,by omega⟩
 case ge=>exact⟨_,qbL (qa9 hb ha),by omega,by omega,by omega⟩
 case ne=>exact⟨_,qbL (qbL (qa9 ha hb)),by omega,by omega,by omega⟩
 all_goals exact⟨_,qbL (qa9 ha hb),by omega,by omega,by omega⟩
theorem qp4(vs:List ByteArray) : ∀ e:E,∃ n,Ln (qcR vs e) n/\0<n/\n<=4*e.size
 |.int _=>⟨1,fun _=>rfl,by omega,by simp⟩
 |.bool _=>⟨1,fun _=>rfl,by omega,by simp⟩
 |.var _=>⟨1,fun _=>rfl,by omega,by simp⟩
 |.name _=>⟨1,fun _=>rfl,by omega,by simp⟩
 |.field _ s e=>by
  obtain⟨n,h,h0,h1⟩:=qp4 vs e
  exact⟨n+1,qbL h,by omega,by simp; omega⟩
 |.un _ neg e=>by
  obtain⟨n,h,h0,h1⟩:=qp4 vs e
  exact⟨n+1,qbL h,by omega,by simp; omega⟩
 |.bin _ o a b=>by
  obtain⟨n,h,h0,h1⟩:=qp4 vs a
  obtain⟨m,g,g0,g1⟩:=qp4 vs b
  obtain⟨k,k1,k2,k3,k4⟩:=qym (o:=o) h g
  exact⟨k,k1,k4,by simp; omega⟩
theorem qAR(vs:List ByteArray)(b:Ss) : ∃ n,Ln (codeS vs b) n/\n<=4*b.fo.size:=by
 fun_induction codeS vs b with
 |case1=>exact⟨0,fun _=>rfl,by omega⟩
 |case2 _ s e r ih=>
  obtain⟨n,h,h0,h1⟩:=qp4 vs e
  obtain⟨m,g,g1⟩:=ih
  exact⟨_,qa9 (qbL h) g,by simp only[Ss.fo,qau,qcE,qaV]; omega⟩
 |case3 _ s a b r ih=>
  obtain⟨n,h,h0,h1⟩:=qp4 vs a
  obtain⟨n',h',h0',h1'⟩:=qp4 vs b
  obtain⟨m,g,g1⟩:=ih
  exact⟨_,qa9 (qbL (qa9 h h')) g,by simp only[Ss.fo,qau,qcE,qaV]; omega⟩
 |case4 _ a b r ih=>
  obtain⟨n,h,h0,h1⟩:=qp4 vs a
  obtain⟨n',h',h0',h1'⟩:=qp4 vs b
  obtain⟨m,g,g1⟩:=ih
  exact⟨_,qa9 (qbL (qa9 h h')) g,by simp only[Ss.fo,qau,qcE,qaV]; omega⟩
 |case5 r ih=>
  obtain⟨m,g,g1⟩:=ih
  exact⟨_,qa9 (n:=1) (fun _=>rfl) g,by simp only[Ss.fo,qau,qaV]; omega⟩
 |case6 _ c _ x _ y r ih1 ih2 ih3=>
  obtain⟨n,h,h0,h1⟩:=qp4 vs c
  obtain⟨m1,g1,k1⟩:=ih1
  obtain⟨m2,g2,k2⟩:=ih2
  obtain⟨m3,g3,k3⟩:=ih3
  exact⟨_,qa9 (qiT h g1 g2) g3,by simp only[Ss.fo,qau,qcE,qaV]; omega⟩
 |case7 _ c _ x r ih1 ih2=>
  obtain⟨n,h,h0,h1⟩:=qp4 vs c
  obtain⟨m1,g1,k1⟩:=ih1
  obtain⟨m2,g2,k2⟩:=ih2
  exact⟨_,qa9 (qsu h g1) g2,by simp only[Ss.fo,qau,qcE,qaV]; omega⟩
 |case8=>exact⟨0,fun _=>rfl,by omega⟩
end
end Go.Pm
section
namespace Go.Pm.F
variable(C:Task->Option Res)(q:Nat)(fr:Fr)(σ : S)
@[simp] def F15a0x:PC:=(rn [jj 7 (.alloc [zN,zN,eN,sN]),st 4 7 18] [3,4,7])
def F15a0:PC:=F15a0x
theorem qeK:run C q F15a0 fr σ = run C q F15a0x fr σ := rfl
@[simp] def F15b0x:PC:=(.block 3 (.seq (sr [fa 19 0 7,l1 20 19,bk 21 .neq 20 1,mv 22 21,jt 23 22 (.fieldAddr 0 (.t 7)),jt 24 22 (.load false 1 (.t 23)),jt 25 22 (.bin .neq (.t 24) (kk 10)),jj 26 (.pick (.t 22) (.t 25) kF)] [3,4,7,26] (cs 26 (.exit 3))) (sr [l1 28 4,fa 29 2 7,l1 30 29,jj 31 (.lookup .s zN (.t 28) (.t 30) true),mv 27 31,ex 32 27 0,ex 33 27 1,mv 8 32,mv 9 33] [3,4,7,9] (sr [mv 34 9,jj 35 (.un .not (.t 34))] [3,4,7,35] (cs 35 (sr [l1 36 4,fa 37 2 7,l1 38 37,l1 39 3,ls 40 39,jn (.mapset .s (.t 36) (.t 38) (.t 40))] [3,7] (rn [l1 41 3,fa 42 2 7,l1 43 42,jj 44 (.bslice 1 [eN] [(0,1,(.t 43))]),jj 45 (.append 1 16 (.t 41) (.t 44)),st 1 3 45] [])))))))
def F15b0:PC:=F15b0x
theorem qeL:run C q F15b0 fr σ = run C q F15b0x fr σ := rfl
@[simp] def F15l0x:PC:=(sr [bk 14 .lss 13 3] [3,4,12,13,14] (.seq (.cond (.t 14) .skip (.exit 0)) (.seq (.block 1 (sr [jj 15 (.indexA true 3 4 (.t 12) (.t 13)),jj 6 (.alloc [zN,zN,eN,sN]),st 4 6 15] [3,4,6,12,13] (sr [la 16 4 6,cl 17 32 [16]] [3,4,12,13,17] (.block 2 (.range (.t 17) [18] F15a0 F15b0))))) (rn [bk 46 .add 13 1,mv 13 46] [3,4,12,13]))))
def F15l0:PC:=F15l0x
theorem qcq:run C q F15l0 fr σ = run C q F15l0x fr σ := rfl
theorem qbs:F15a0.flat=true:=rfl
theorem qbt:F15b0.flat=true:=rfl
def F15:PFun:=pf 1 [.tmp 2] (sr [bx 1 0,jj 2 (.mov (.c (.slice none 0 0)))] [1] (sr [jj 3 (.alloc [sN])] [1,3] (sr [jj 10 (.mkmap),jj 4 (.alloc [(.lit (.map none))]),st 1 4 10] [1,3,4] (.seq (sr [fa 11 0 1,la 12 12 11,mx 13 (kk 0)] [3,4,12,13] (.block 0 (.loop F15l0))) (sr [l1 47 3,mv 2 47] [2] .ret)))))
def F32:PFun:=pf 1 [.tmp 2] (sr [bx 1 0,jj 2 (.mov (.c .nilFunc))] [1] (sr [jj 3 (.mkfn 38 [] [(.t 1)]),mv 2 3] [2] .ret))
def F38:PFun:=pf 2 [] (rn [la 3 4 1,mv 4 0,cl 5 39 [3,4]] [])
@[simp] def F39l0x:PC:=(sr [bn 15 .lss 14 13] [1,12,13,14,15] (.seq (.cond (.t 15) .skip (.exit 0)) (.seq (.block 1 (sr [jj 16 (.indexAddr 4 (.t 12) (.t 14)),la 17 4 16,jj 6 (.alloc [zN,zN,eN,sN]),st 4 6 17] [1,6,12,13,14] (sr [la 18 4 6,mv 19 1,cl 20 39 [18,19],jj 21 (.un .not (.t 20))] [1,12,13,14,21] (cs 21 (sr [mx 4 kF] [4] .ret))))) (rn [bk 22 .add 14 1,mv 14 22] [1,12,13,14]))))
def F39l0:PC:=F39l0x
theorem qdz:run C q F39l0 fr σ = run C q F39l0x fr σ := rfl
def F39:PFun:=pf 2 [.tmp 4] (sr [bx 2 0,mx 4 kF] [1,2] (.seq (sr [mv 7 1,la 8 4 2,jj 9 (.callv (.t 7) [(.t 8)]),jj 10 (.un .not (.t 9))] [1,2,10] (cs 10 (sr [mx 4 kF] [4] .ret))) (.seq (sr [fa 11 3 2,l1 12 11,ls 13 12,mx 14 (kk 0)] [1,12,13,14] (.block 0 (.loop F39l0))) (sr [mx 4 kT] [4] .ret))))
end Go.Pm.F
end
section
namespace Go.Pm.F
def qaN:Nat->Option PFun
 |15=>some F15
 |32=>some F32
 |38=>some F38
 |39=>some F39
 |_=>none
def qx3:Nat->Option PFun
 |15=>some F15
 |32=>some F32
 |38=>some F38
 |39=>some F39
 |_=>none
end Go.Pm.F
end
namespace Go.Pm
section
open F
inductive NmSt:S->V->S->Nat->List ByteArray->Ob->Prop
 |a (l:List ByteArray) (x:Ob):NmSt [] (.dat (qmt l)) [x] 0 l x
 |b (l:List ByteArray) (x:Ob) (m:Nat) (h:l≠[]):NmSt [] (.gsl (qb3 l) l.length 1 0) [.tip m,x] 1 l x
abbrev qbJ(k n:Int)(s:ByteArray)(d:D):Ob := .cells [.int k,.int n,.str s,.dat d]
end
section
open F
attribute [local simp] dkey
def mapM:Nat->List ByteArray->List (Value × V)
 |_,[]=>[]
 |i,s::l=>(.string s,.int i)::mapM (i+1) l
theorem qiw(s:ByteArray) : ∀ (l:List ByteArray) (i:Nat),(s∉l->qes .s (.string s) (mapM i l)=some none)/\(s∈l -> ∃ j:Nat,qes .s (.string s) (mapM i l)=some (some (.int j)))
 |[],i=>by simp[mapM,qes]
 |x::l,i=>by
  have ih:=qiw s l (i+1)
  by_cases h:s=x
  ·subst h
   exact⟨fun hn=>absurd (WN ..) hn,fun _=>⟨i,by simp[mapM,qes,qco]⟩⟩
  ·have hb:(s==x)=false:=by rw[qeg]; exact decide_eq_false h
   refine⟨fun hn=>?_,fun hm=>?_⟩
   ·have:=ih.1 (fun hm=>hn (Wz _ hm))
    simp[mapM,qes,qco,hb,this]
   ·obtain⟨j,hj⟩:=ih.2 ((Wr.1 hm).resolve_left h)
    exact⟨j,by simp[mapM,qes,qco,hb,hj]⟩
theorem qkh(s:ByteArray) : ∀ (l:List ByteArray) (i:Nat),s∉l->qq5 .s (.string s) (.int (i+l.length:Nat)) (mapM i l)=some (mapM i (l++[s]))
 |[],i,_=>by simp[mapM,qq5]
 |x::l,i,hn=>by
  have h:s≠x:=fun h=>hn (h ▸ WN ..)
  have hb:(s==x)=false:=by rw[qeg]; exact decide_eq_false h
  have ih:=qkh s l (i+1) (fun hm=>hn (Wz _ hm))
  rw[show i+1+l.length=i+(l.length+1) by omega] at ih
  simp only[We,Wi,mapM,qq5,qco,hb,ih]
theorem qbe : ∀ (l:List ByteArray) (i:Nat),qhu (mapM i l)=[]
 |[],i=>rfl
 |x::l,i=>by simp[mapM,qbe l]
theorem qbK(r:Nat->Nat) : ∀ (l:List ByteArray) (i:Nat),qrl r (mapM i l)=mapM i l
 |[],i=>rfl
 |x::l,i=>by simp[mapM,qbK r l]
attribute [local simp] qbe qbK dkey
abbrev lpO(r:D)(i:Int):Ob := .loop ⟨[(3,.ptr 1 0),(4,.ptr 2 0),(12,.dat r),(13,.int i),(17,.fn 38 [] [.ptr 3 0])],[18],F15a0,F15b0,0,none⟩
abbrev S0(r:D)(j:Int)(bx:Ob):S:=[lpO r j,.cells [.dat (.lit (.slice none 0 0))],.cells [.mp 4],bx,.map []]
abbrev S01(r:D)(j:Int)(bx:Ob)(l:List ByteArray):S:=[lpO r j,.cells [.gsl (qb3 l) l.length 1 5],.cells [.mp 4],bx,.map (mapM 0 l),.tip l.length]
abbrev S1(r:D)(j:Int)(bx:Ob)(l:List ByteArray):S:=[lpO r j,.cells [.gsl (qb3 l) l.length 1 4],.cells [.mp 5],bx,.tip l.length,.map (mapM 0 l)]
section
variable{k n k0 n0:Int}{s s0:ByteArray}{f f0:Bool}{ks:Fo}{d0:D}{r:D}{j:Int}{l:List ByteArray}
theorem qss(h1:k≠1)(h2:k≠10):Z qaN (.round [.yld 0,nd k n s f ks] (S0 r j (qbJ k0 n0 s0 d0)))=some (.ret (.bool true) (S0 r j (qbJ k0 n0 s0 d0))):=by
 rw[qcJ]
 simp[qbB,qbs,qbt,qeK,qeL,qc7,h1,h2,Lp.ended,Ex.isNormal,qbJ,Wa]
theorem qst(h1:k≠1)(h2:k≠10):Z qaN (.round [.yld 0,nd k n s f ks] (S1 r j (qbJ k0 n0 s0 d0) l))=some (.ret (.bool true) (S1 r j (qbJ k0 n0 s0 d0) l)):=by
 rw[qcJ]
 simp[qbB,qbs,qbt,qeK,qeL,qc7,h1,h2,Lp.ended,Ex.isNormal,qbJ,Wa]
theorem qvH(hk:k=1\/k=10)(hs:s∈l):Z qaN (.round [.yld 0,nd k n s f ks] (S1 r j (qbJ k0 n0 s0 d0) l))=some (.ret (.bool true) (S1 r j (qbJ k0 n0 s0 d0) l)):=by
 obtain⟨q,hq⟩:=(qiw s l 0).2 hs
 rw[qcJ]
 rcases hk with rfl|rfl<;>simp[qbB,qbs,qbt,qeK,qeL,qc7,hq,qeF,Lp.ended,Ex.isNormal,qbJ,Wa]
theorem qvI(hk:k=1\/k=10):Z qaN (.round [.yld 0,nd k n s f ks] (S0 r j (qbJ k0 n0 s0 d0)))=some (.ret (.bool true) (S01 r j (qbJ k0 n0 s0 d0) [s])):=by
 rw[qcJ]
 rcases hk with rfl|rfl<;>simp[qbB,qbs,qbt,qeK,qeL,qc7,qes,qq5,mapM,qnz,qeF,Lp.ended,Ex.isNormal,qbJ,Wa,V.len,qbw,qiL,qay]
theorem qvJ(hk:k=1\/k=10)(hs:s∉l)(h0:l≠[])(hl:l.length<2^30):Z qaN (.round [.yld 0,nd k n s f ks] (S1 r j (qbJ k0 n0 s0 d0) l))=some (.ret (.bool true) (S1 r j (qbJ k0 n0 s0 d0) (l++[s]))):=by
 have hq:=(qiw s l 0).1 hs
 have hs':=qkh s l 0 hs
 rw[WQ] at hs'
 have r2:qay (l.length+1) 16=true:=by simp[qay]; omega
 rw[qcJ]
 rcases hk with rfl|rfl<;>simp[qbB,qbs,qbt,qeK,qeL,qc7,hq,hs',qs7,qnz,qeF,Lp.ended,Ex.isNormal,qbJ,Wa,V.len,qbw,qiL,r2]
theorem rd0 : ∃ S',Z qaN (.round [.yld 0,nd k n s f ks] (S0 r j (qbJ k0 n0 s0 d0)))=some (.ret (.bool true) S') /\
  ((addAll [] (if k=1\/k=10 then [s] else [])=[]/\S'=S0 r j (qbJ k0 n0 s0 d0))\/(addAll [] (if k=1\/k=10 then [s] else [])≠[]/\S'=S01 r j (qbJ k0 n0 s0 d0) (addAll [] (if k=1\/k=10 then [s] else [])))):=by
 by_cases hk:k=1\/k=10
 ·simp only[if_pos hk]
  exact⟨_,qvI hk,.inr ⟨by simp[addAll,qqF],rfl⟩⟩
 ·simp only[if_neg hk]
  exact⟨_,qss (by omega) (by omega),.inl ⟨rfl,rfl⟩⟩
theorem rd1(h0:l≠[])(hl:l.length<2^30):Z qaN (.round [.yld 0,nd k n s f ks] (S1 r j (qbJ k0 n0 s0 d0) l))=some (.ret (.bool true) (S1 r j (qbJ k0 n0 s0 d0) (addAll l (if k=1\/k=10 then [s] else [])))):=by
 by_cases hk:k=1\/k=10
 ·simp only[if_pos hk,addAll,W6,List.foldl_nil,qqF]
  by_cases hs:s∈l
  ·rw[if_pos hs]; exact qvH hk hs
  ·rw[if_neg hs]; exact qvJ hk hs h0 hl
 ·simp only[if_neg hk]
  exact qst (by omega) (by omega)
end
end
section
open F
attribute [local simp] qbe qbK dkey
section
variable{k n k0 n0:Int}{s s0:ByteArray}{f fl:Bool}{ks:Fo}{d0 d:D}{r:D}{j:Int}{l l1 l2:List ByteArray}{i N:Nat}{cs c4:List D}
abbrev qoU(d:D)(N i:Nat):Fr:=[(1,.yld 0),(12,.dat d),(13,.int N),(14,.int i)]
abbrev qj8(d:D)(N:Nat)(S':S):Option Res:=some (.out (.exit 0) [(1,.yld 0),(12,.dat d),(13,.int N),(14,.int N),(15,.bool false)] S')
def Got(r:D)(j:Int)(bx:Ob)(l:List ByteArray)(S':S):Prop:=(l=[]/\S'=S0 r j bx)\/(l≠[]/\S'=S01 r j bx l)
theorem qu4(h1:V.one (.dat d)=true)(h2:V.cells (.dat d)=[.dat d]):Z qaN (.loop 5 F39l0 (qoU d N N) (S0 r j (qbJ k0 n0 s0 d0)))=qj8 d N (S0 r j (qbJ k0 n0 s0 d0)):=by
 rw[qac]
 simp[qad,qdz,qbJ,Wa]
theorem qu5(h1:V.one (.dat d)=true)(h2:V.cells (.dat d)=[.dat d]):Z qaN (.loop 5 F39l0 (qoU d N N) (S01 r j (qbJ k0 n0 s0 d0) l))=qj8 d N (S01 r j (qbJ k0 n0 s0 d0) l):=by
 rw[qac]
 simp[qad,qdz,qbJ,Wa]
theorem qu6(h1:V.one (.dat d)=true)(h2:V.cells (.dat d)=[.dat d]):Z qaN (.loop 6 F39l0 (qoU d N N) (S1 r j (qbJ k0 n0 s0 d0) l))=qj8 d N (S1 r j (qbJ k0 n0 s0 d0) l):=by
 rw[qac]
 simp[qad,qdz,qbJ,Wa]
def qpB(r:D)(j:Int)(bx:Ob)(nv:V)(xs:List ByteArray):Prop:=
 (∃ S',Z qaN (.call 39 [nv,.yld 0] (S0 r j bx))=some (.ret (.bool true) S')/\Got r j bx (addAll [] xs) S') /\
 ∀ l,l≠[]->l.length+xs.length<2^29->Z qaN (.call 39 [nv,.yld 0] (S1 r j bx l))=some (.ret (.bool true) (S1 r j bx (addAll l xs)))
def qgP(r:D)(j:Int)(bx:Ob)(d:D)(N i:Nat)(xs:List ByteArray):Prop:=
 (∃ S',Z qaN (.loop 5 F39l0 (qoU d N i) (S0 r j bx))=qj8 d N S'/\Got r j bx (addAll [] xs) S') /\
 (∀ l,l≠[]->l.length+xs.length<2^29->Z qaN (.loop 5 F39l0 (qoU d N i) (S01 r j bx l))=qj8 d N (S01 r j bx (addAll l xs))) /\
 (∀ l,l≠[]->l.length+xs.length<2^29->Z qaN (.loop 6 F39l0 (qoU d N i) (S1 r j bx l))=qj8 d N (S1 r j bx (addAll l xs)))
theorem qc8(xs:List ByteArray)(h:l≠[]):addAll l xs≠[]:=by
 have h1:=(qcB xs l).1
 intro he
 rw[he] at h1
 exact h (WP (Nat.le_zero.1 h1))
theorem qr5 (hc:cs.drop (i*4) = .lit (.int .i64 k) :: .lit (.int .i64 n) :: .lit (.string s)::kd f ks.len ks.cells::c4) (hi:i<N) (hN:N<2^40) {xs ys:List ByteArray} (hx:xs.length+ys.length<2^28)
  (hw:qpB r j (qbJ k0 n0 s0 d0) (nd k n s f ks) xs) (ih:qgP r j (qbJ k0 n0 s0 d0) (.sl cs N fl) N (i+1) ys):qgP r j (qbJ k0 n0 s0 d0) (.sl cs N fl) N i (xs++ys):=by
 have h4:=qzH hc
 have w1:=qag ((i:Int)+1) (by omega)
 have hi':(i:Int)<N:=by omega
 obtain⟨⟨S',hw0,hg⟩,hw1⟩:=hw
 obtain⟨⟨T,ha,hT⟩,hb,hc'⟩:=ih
 have hlen:=qcB xs []
 simp only[Wk,WQ] at hlen
 refine⟨?_,fun l hl hb'=>?_,fun l hl hb'=>?_⟩
 ·rw[qcU]
  rcases hg with ⟨he,rfl⟩|⟨he,rfl⟩
  ·rw[he]
   refine⟨T,?_,hT⟩
   rw[qac,<- ha]
   simp only[qbJ,S0,S01] at hw0
   simp[qad,qdz,hi,hi',qae,h4,hw0,w1,V.len,qbJ,Wa]
   exact qam (by simp[Wa])
  ·refine⟨_,?_,.inr ⟨qc8 _ he,rfl⟩⟩
   have hb1:=hb (addAll [] xs) he (by omega)
   rw[qac,<- hb1]
   simp only[qbJ,S0,S01] at hw0
   simp[qad,qdz,hi,hi',qae,h4,hw0,w1,V.len,qbJ,Wa]
   exact qam (by simp[Wa])
 ·rw[Wb] at hb'
  have hl2:=qcB xs l
  have hb1:=hb (addAll l xs) (qc8 _ hl) (by omega)
  have hw2:=hw1 l hl (by omega)
  rw[qcU,qac,<- hb1]
  simp only[qbJ,S1] at hw2
  simp[qad,qdz,hi,hi',qae,h4,hw2,w1,V.len,qbJ,Wa]
  exact qam (by simp[Wa])
 ·rw[Wb] at hb'
  have hl2:=qcB xs l
  have hb1:=hc' (addAll l xs) (qc8 _ hl) (by omega)
  have hw2:=hw1 l hl (by omega)
  rw[qcU,qac,<- hb1]
  simp only[qbJ,S1] at hw2
  simp[qad,qdz,hi,hi',qae,h4,hw2,w1,V.len,qbJ,Wa]
  exact qam (by simp[Wa])
theorem qm0(hx:ks.vars.length<2^28)(h:qgP r j (qbJ k0 n0 s0 d0) (kd f ks.len ks.cells) ks.len 0 ks.vars):qpB r j (qbJ k0 n0 s0 d0) (nd k n s f ks) ((if k=1\/k=10 then [s] else [])++ks.vars):=by
 obtain⟨⟨T,ha,hT⟩,hb,hc⟩:=h
 have h4:(if k=1\/k=10 then [s] else []).length<=1:=by split<;>simp
 refine⟨?_,fun l hl hb'=>?_⟩
 ·obtain⟨S',hr,hS⟩:=rd0 (k:=k) (n:=n) (s:=s) (f:=f) (ks:=ks) (r:=r) (j:=j) (k0:=k0) (n0:=n0) (s0:=s0) (d0:=d0)
  have hlen:=qcB (if k=1\/k=10 then [s] else []) []
  simp only[Wk,WQ] at hlen
  rw[qcU]
  rcases hS with ⟨he,rfl⟩|⟨he,rfl⟩
  ·rw[he]
   refine⟨T,?_,hT⟩
   refine qab (pf:=F39) rfl rfl ?_
   have ha':=(qam (k:=5) (b:=F39l0) (fr:=qoU (kd f ks.len ks.cells) ks.len 0) (σ := S0 r j (qbJ k0 n0 s0 d0)++[qbJ k n s (kd f ks.len ks.cells)]) (by simp[qbJ,Wa])).trans ha
   simp only[qbJ,qoU,qj8,lpO,S0,S01,S1,Wi,Wc,show ((0:Nat):Int)=0 from rfl] at hr ha'
   rcases hT with ⟨hT,rfl⟩|⟨hT,rfl⟩<;>simp[F39,hr,ha',qbJ,S0,S01,lpO,Wa]
  ·refine⟨S01 r j (qbJ k0 n0 s0 d0) (addAll (addAll [] (if k=1\/k=10 then [s] else [])) ks.vars),?_,.inr ⟨qc8 _ he,rfl⟩⟩
   generalize addAll [] (if k=1\/k=10 then [s] else [])=l at *
   have hb1:=hb l he (by omega)
   refine qab (pf:=F39) rfl rfl ?_
   have ha':=(qam (k:=5) (b:=F39l0) (fr:=qoU (kd f ks.len ks.cells) ks.len 0) (σ := [lpO r j,.cells [.gsl (qb3 l) l.length 1 6],.cells [.mp 4],qbJ k0 n0 s0 d0,.map (mapM 0 l),qbJ k n s (kd f ks.len ks.cells),.tip l.length]) (by simp[qbJ,Wa])).trans hb1
   simp only[qbJ,qoU,qj8,lpO,S0,S01,S1,Wi,Wc,show ((0:Nat):Int)=0 from rfl] at hr ha'
   simp[F39,hr,ha',qbJ,S0,S01,lpO,Wa]
 ·rw[Wb] at hb'
  have hl2:=qcB (if k=1\/k=10 then [s] else []) l
  have hr:=rd1 (k:=k) (n:=n) (s:=s) (f:=f) (ks:=ks) (r:=r) (j:=j) (k0:=k0) (n0:=n0) (s0:=s0) (d0:=d0) hl (by omega)
  have he:=qc8 (if k=1\/k=10 then [s] else []) hl
  rw[qcU]
  generalize addAll l (if k=1\/k=10 then [s] else [])=l' at *
  have hc1:=hc l' he (by omega)
  refine qab (pf:=F39) rfl rfl ?_
  have ha':=(qam (k:=6) (b:=F39l0) (fr:=qoU (kd f ks.len ks.cells) ks.len 0) (σ := S1 r j (qbJ k0 n0 s0 d0) l'++[qbJ k n s (kd f ks.len ks.cells)]) (by simp[qbJ,Wa])).trans hc1
  simp only[qbJ,qoU,qj8,lpO,S0,S01,S1,Wi,Wc,show ((0:Nat):Int)=0 from rfl] at hr ha'
  simp[F39,hr,ha',qbJ,S0,S01,lpO,Wa]
end
end
section
open F
attribute [local simp] qbe qbK dkey
theorem qfU{r:D}{j k0 n0:Int}{s0:ByteArray}{d0 d:D}{N:Nat}(h1:V.one (.dat d)=true)(h2:V.cells (.dat d)=[.dat d]):qgP r j (qbJ k0 n0 s0 d0) d N N []:=
 ⟨⟨_,qu4 h1 h2,.inl ⟨rfl,rfl⟩⟩,fun _ _ _=>qu5 h1 h2,fun _ _ _=>qu6 h1 h2⟩
theorem qql {r:D} {j k0 n0:Int} {s0:ByteArray} {d0:D} : ∀ (a:Fo) (i:Nat) (cs:List D) (N:Nat) (fl:Bool),cs.drop (i*4)=a.cells->N=i+a.len->i+2*a.size<2^27 ->
  qgP r j (qbJ k0 n0 s0 d0) (.sl cs N fl) N i a.vars
 |.nil,i,cs,N,fl,hc,hN,hb=>by
  simp only[qbH,Yy] at hN
  subst hN
  exact qfU rfl rfl
 |.cons k n s f ks rr,i,cs,N,fl,hc,hN,hb=>by
  simp only[qa5,qby,qau] at hc hN hb
  have h1:=qdQ rr
  have h2:=qhU ks
  have h3:=qhU rr
  have h4:(if k=1\/k=10 then [s] else []).length<=1:=by split<;>simp
  have hk:qgP r j (qbJ k0 n0 s0 d0) (kd f ks.len ks.cells) ks.len 0 ks.vars:=by
   cases hz:ks.len with
   |zero=>
    have hn:ks = .nil:=by cases ks<;>simp at hz; rfl
    subst hn
    exact qfU (by simp) (by simp)
   |succ m=>
    rw[qlC,<- hz]
    exact qql ks 0 ks.cells ks.len f rfl (by omega) (by omega)
  have e:(Fo.cons k n s f ks rr).vars=((if k=1\/k=10 then [s] else [])++ks.vars)++rr.vars:=by rw[Fo.vars,Wf]
  rw[e]
  exact qr5 hc (by omega) (by omega) (by rw[Wb]; omega) (qm0 (by omega) hk) (qql rr (i+1) cs N fl (qgB hc) (by omega) (by omega))
theorem qqm{r:D}{j k0 n0:Int}{s0:ByteArray}{d0:D}(k n:Int)(s:ByteArray)(f:Bool)(ks:Fo)(hb:ks.size<2^25):qpB r j (qbJ k0 n0 s0 d0) (nd k n s f ks) ((if k=1\/k=10 then [s] else [])++ks.vars):=by
 have h2:=qhU ks
 refine qm0 (by omega) ?_
 cases hz:ks.len with
 |zero=>
  have hn:ks = .nil:=by cases ks<;>simp at hz; rfl
  subst hn
  exact qfU (by simp) (by simp)
 |succ m=>
  rw[qlC,<- hz]
  exact qql ks 0 ks.cells ks.len f rfl (by omega) (by omega)
abbrev qlQ(r:D)(i:Int):Ob := .loop ⟨[(3,.ptr 2 0),(4,.ptr 3 0),(12,.dat r),(13,.int i),(17,.fn 38 [] [.ptr 1 0])],[18],F15a0,F15b0,0,none⟩
abbrev T0(r:D)(j:Int)(bx:Ob):S:=[qlQ r j,bx,.cells [.dat (.lit (.slice none 0 0))],.cells [.mp 4],.map []]
abbrev T01(r:D)(j:Int)(bx:Ob)(l:List ByteArray):S:=[qlQ r j,bx,.cells [.gsl (qb3 l) l.length 1 5],.cells [.mp 4],.map (mapM 0 l),.tip l.length]
abbrev T1(r:D)(j:Int)(bx:Ob)(l:List ByteArray):S:=[qlQ r j,bx,.cells [.gsl (qb3 l) l.length 1 4],.cells [.mp 5],.tip l.length,.map (mapM 0 l)]
section
variable{r:D}{j:Int}{k n:Int}{s:ByteArray}{f:Bool}{ks:Fo}{xs:List ByteArray}
theorem qv2 (h:qpB r j (qbJ k n s (kd f ks.len ks.cells)) (nd k n s f ks) xs) : ∃ S',Z qaN (.call 38 [.yld 0,.ptr 1 0] (T0 r j (qbJ k n s (kd f ks.len ks.cells))))=some (.ret (.tup []) S') /\
  ((addAll [] xs=[]/\S'=T0 r j (qbJ k n s (kd f ks.len ks.cells)))\/(addAll [] xs≠[]/\S'=T01 r j (qbJ k n s (kd f ks.len ks.cells)) (addAll [] xs))):=by
 obtain⟨⟨S',h1,hg⟩,-⟩:=h
 simp only[qbJ,S0,lpO] at h1
 rcases hg with ⟨he,rfl⟩|⟨he,rfl⟩
 ·refine⟨_,?_,.inl ⟨he,rfl⟩⟩
  refine qab (pf:=F38) rfl rfl ?_
  simp[F38,h1,qbJ,S0,lpO,Wa]
 ·refine⟨_,?_,.inr ⟨he,rfl⟩⟩
  refine qab (pf:=F38) rfl rfl ?_
  simp[F38,h1,qbJ,S01,lpO,Wa]
theorem qyF(h:qpB r j (qbJ k n s (kd f ks.len ks.cells)) (nd k n s f ks) xs){l:List ByteArray}(hl:l≠[])(hb:l.length+xs.length<2^29):Z qaN (.call 38 [.yld 0,.ptr 1 0] (T1 r j (qbJ k n s (kd f ks.len ks.cells)) l))=some (.ret (.tup []) (T1 r j (qbJ k n s (kd f ks.len ks.cells)) (addAll l xs))):=by
 have h1:=h.2 l hl hb
 simp only[qbJ,S1,lpO] at h1
 refine qab (pf:=F38) rfl rfl ?_
 simp[F38,h1,qbJ,S1,lpO,Wa]
theorem qqn:Z qaN (.call 32 [nd k n s f ks] [])=some (.ret (.fn 38 [] [.ptr 0 0]) [qbJ k n s (kd f ks.len ks.cells)]):=by
 refine qab (pf:=F32) rfl rfl ?_
 simp[F32,qbJ]
end
end
section
open F
attribute [local simp] qbe qbK dkey Ex.isPan
abbrev vfr(r:D)(i:Int):Fr:=[(3,.ptr 0 0),(4,.ptr 1 0),(12,.dat r),(13,.int i)]
abbrev U0:S:=[.cells [.dat (.lit (.slice none 0 0))],.cells [.mp 2],.map []]
abbrev U1(l:List ByteArray):S:=[.cells [.gsl (qb3 l) l.length 1 2],.cells [.mp 3],.tip l.length,.map (mapM 0 l)]
section
variable{a b c:Nd}
theorem qtc(hb:a.ks.size<2^25):Z qaN (.loop 0 F15l0 (vfr (ru a b c) 0) U0)=if addAll [] a.vars=[] then Z qaN (.loop 0 F15l0 (vfr (ru a b c) 1) U0) else Z qaN (.loop 0 F15l0 (vfr (ru a b c) 1) (U1 (addAll [] a.vars))):=by
 have hv:=qqm (r:=ru a b c) (j:=0) (k0:=a.k) (n0:=a.n) (s0:=a.s) (d0:=a.d) a.k a.n a.s a.f a.ks hb
 obtain⟨S',h1,h2⟩:=qv2 hv
 have h3:=qqn (k:=a.k) (n:=a.n) (s:=a.s) (f:=a.f) (ks:=a.ks)
 have w1:=qag 1 (by omega)
 rw[show (if a.k=1\/a.k=10 then [a.s] else [])++a.ks.vars=a.vars from rfl] at h2
 simp only[qbJ,T0,qlQ,ru,Nd.d] at h1 h3
 conv=>lhs; rw[qac]
 rcases h2 with ⟨he,rfl⟩|⟨he,rfl⟩
 ·rw[if_pos he]
  simp[qad,qcq,h3,h1,w1,qbs,qbt,qbJ,T0,qlQ,Wa]
  refine qam ?_
  simp[Wa]
 ·rw[if_neg he]
  simp[qad,qcq,h3,h1,w1,qbs,qbt,qbJ,T01,qlQ,Wa]
  refine qam ?_
  simp[Wa]
theorem qtd(hb:b.ks.size<2^25):Z qaN (.loop 0 F15l0 (vfr (ru a b c) 1) U0)=if addAll [] b.vars=[] then Z qaN (.loop 0 F15l0 (vfr (ru a b c) 2) U0) else Z qaN (.loop 0 F15l0 (vfr (ru a b c) 2) (U1 (addAll [] b.vars))):=by
 have hv:=qqm (r:=ru a b c) (j:=1) (k0:=b.k) (n0:=b.n) (s0:=b.s) (d0:=b.d) b.k b.n b.s b.f b.ks hb
 obtain⟨S',h1,h2⟩:=qv2 hv
 have h3:=qqn (k:=b.k) (n:=b.n) (s:=b.s) (f:=b.f) (ks:=b.ks)
 have w1:=qag 2 (by omega)
 rw[show (if b.k=1\/b.k=10 then [b.s] else [])++b.ks.vars=b.vars from rfl] at h2
 simp only[qbJ,T0,qlQ,ru,Nd.d] at h1 h3
 conv=>lhs; rw[qac]
 rcases h2 with ⟨he,rfl⟩|⟨he,rfl⟩
 ·rw[if_pos he]
  simp[qad,qcq,h3,h1,w1,qbs,qbt,qbJ,T0,qlQ,Wa]
  refine qam ?_
  simp[Wa]
 ·rw[if_neg he]
  simp[qad,qcq,h3,h1,w1,qbs,qbt,qbJ,T01,qlQ,Wa]
  refine qam ?_
  simp[Wa]
theorem qte{l:List ByteArray}(hb:b.ks.size<2^25)(hl:l≠[])(hl':l.length<2^27):Z qaN (.loop 0 F15l0 (vfr (ru a b c) 1) (U1 l))=Z qaN (.loop 0 F15l0 (vfr (ru a b c) 2) (U1 (addAll l b.vars))):=by
 have hv:=qqm (r:=ru a b c) (j:=1) (k0:=b.k) (n0:=b.n) (s0:=b.s) (d0:=b.d) b.k b.n b.s b.f b.ks hb
 have hx:=qey b
 have h1:=qyF hv hl (by rw[show (if b.k=1\/b.k=10 then [b.s] else [])++b.ks.vars=b.vars from rfl]; omega)
 rw[show (if b.k=1\/b.k=10 then [b.s] else [])++b.ks.vars=b.vars from rfl] at h1
 have h3:=qqn (k:=b.k) (n:=b.n) (s:=b.s) (f:=b.f) (ks:=b.ks)
 have w1:=qag 2 (by omega)
 simp only[qbJ,T1,qlQ,ru,Nd.d] at h1 h3
 conv=>lhs; rw[qac]
 simp[qad,qcq,h3,h1,w1,qbs,qbt,qbJ,T1,qlQ,Wa]
 refine qam ?_
 simp[Wa]
theorem qtf(hb:c.ks.size<2^25):Z qaN (.loop 0 F15l0 (vfr (ru a b c) 2) U0)=if addAll [] c.vars=[] then Z qaN (.loop 0 F15l0 (vfr (ru a b c) 3) U0) else Z qaN (.loop 0 F15l0 (vfr (ru a b c) 3) (U1 (addAll [] c.vars))):=by
 have hv:=qqm (r:=ru a b c) (j:=2) (k0:=c.k) (n0:=c.n) (s0:=c.s) (d0:=c.d) c.k c.n c.s c.f c.ks hb
 obtain⟨S',h1,h2⟩:=qv2 hv
 have h3:=qqn (k:=c.k) (n:=c.n) (s:=c.s) (f:=c.f) (ks:=c.ks)
 have w1:=qag 3 (by omega)
 rw[show (if c.k=1\/c.k=10 then [c.s] else [])++c.ks.vars=c.vars from rfl] at h2
 simp only[qbJ,T0,qlQ,ru,Nd.d] at h1 h3
 conv=>lhs; rw[qac]
 rcases h2 with ⟨he,rfl⟩|⟨he,rfl⟩
 ·rw[if_pos he]
  simp[qad,qcq,h3,h1,w1,qbs,qbt,qbJ,T0,qlQ,Wa]
  refine qam ?_
  simp[Wa]
 ·rw[if_neg he]
  simp[qad,qcq,h3,h1,w1,qbs,qbt,qbJ,T01,qlQ,Wa]
  refine qam ?_
  simp[Wa]
theorem qnD{l:List ByteArray}(hb:c.ks.size<2^25)(hl:l≠[])(hl':l.length<2^27):Z qaN (.loop 0 F15l0 (vfr (ru a b c) 2) (U1 l))=Z qaN (.loop 0 F15l0 (vfr (ru a b c) 3) (U1 (addAll l c.vars))):=by
 have hv:=qqm (r:=ru a b c) (j:=2) (k0:=c.k) (n0:=c.n) (s0:=c.s) (d0:=c.d) c.k c.n c.s c.f c.ks hb
 have hx:=qey c
 have h1:=qyF hv hl (by rw[show (if c.k=1\/c.k=10 then [c.s] else [])++c.ks.vars=c.vars from rfl]; omega)
 rw[show (if c.k=1\/c.k=10 then [c.s] else [])++c.ks.vars=c.vars from rfl] at h1
 have h3:=qqn (k:=c.k) (n:=c.n) (s:=c.s) (f:=c.f) (ks:=c.ks)
 have w1:=qag 3 (by omega)
 simp only[qbJ,T1,qlQ,ru,Nd.d] at h1 h3
 conv=>lhs; rw[qac]
 simp[qad,qcq,h3,h1,w1,qbs,qbt,qbJ,T1,qlQ,Wa]
 refine qam ?_
 simp[Wa]
theorem qy0{r:D}:Z qaN (.loop 0 F15l0 [(3,.ptr 0 0),(4,.ptr 1 0),(12,.dat r),(13,.int 3)] U0)=some (.out (.exit 0) [(3,.ptr 0 0),(4,.ptr 1 0),(12,.dat r),(13,.int 3),(14,.bool false)] U0):=by
 rw[qac]
 simp[qad,qcq]
theorem qqP{r:D}{l:List ByteArray}:Z qaN (.loop 0 F15l0 [(3,.ptr 0 0),(4,.ptr 1 0),(12,.dat r),(13,.int 3)] (U1 l))=some (.out (.exit 0) [(3,.ptr 0 0),(4,.ptr 1 0),(12,.dat r),(13,.int 3),(14,.bool false)] (U1 l)):=by
 rw[qac]
 simp[qad,qcq]
theorem qqQ (ha:a.ks.size<2^25) (hb:b.ks.size<2^25) (hc:c.ks.size<2^25):Z qaN (.loop 0 F15l0 (vfr (ru a b c) 0) U0) =
  some (.out (.exit 0) [(3,.ptr 0 0),(4,.ptr 1 0),(12,.dat (ru a b c)),(13,.int 3),(14,.bool false)] (if rvars a b c=[] then U0 else U1 (rvars a b c))):=by
 have la:=qey a
 have lb:=qey b
 have l1:=qcB a.vars []
 have l2:=qcB b.vars (addAll [] a.vars)
 have e:rvars a b c=addAll (addAll (addAll [] a.vars) b.vars) c.vars:=by unfold rvars; rw[qcU,qcU]
 simp only[Wk] at l1
 rw[e,qtc ha]
 by_cases h1:addAll [] a.vars=[]
 ·rw[if_pos h1,h1,qtd hb]
  by_cases h2:addAll [] b.vars=[]
  ·rw[if_pos h2,h2,qtf hc]
   by_cases h3:addAll [] c.vars=[]
   ·rw[if_pos h3,if_pos h3]; exact qy0
   ·rw[if_neg h3,if_neg h3]; exact qqP
  ·rw[h1] at l2
   rw[if_neg h2,qnD hc h2 (by simp only[Wk] at l2; omega),if_neg (qc8 _ h2)]
   exact qqP
 ·have n2:addAll (addAll [] a.vars) b.vars≠[]:=qc8 _ h1
  rw[if_neg h1,qte hb h1 (by omega),qnD hc n2 (by omega),if_neg (qc8 _ n2)]
  exact qqP
theorem qmy(ha:a.ks.size<2^25)(hb:b.ks.size<2^25)(hc:c.ks.size<2^25):Z qaN (.call 15 [.dat (ru a b c)] [])=some (.ret (.dat (qmt (rvars a b c))) []):=by
 have h:=qqQ ha hb hc
 refine qab (pf:=F15) rfl rfl ?_
 have h':=(qam (k:=0) (b:=F15l0) (fr:=[(3,.ptr 1 0),(4,.ptr 3 0),(12,.dat (ru a b c)),(13,.int 0)]) (σ := [.cells [.int a.k,.int a.n,.str a.s,.dat a.d,.int b.k,.int b.n,.str b.s,.dat b.d,.int c.k,.int c.n,.str c.s,.dat c.d],.cells [.dat (.lit (.slice none 0 0))],.map [],.cells [.mp 2]]) (by simp[vfr,U0])).trans h
 simp only[ru,Nd.d] at h'
 by_cases hn:rvars a b c=[]
 ·rw[if_pos hn] at h'
  rw[hn]
  simp[F15,h',qmt]
 ·rw[if_neg hn] at h'
  rw[qwo hn]
  simp[F15,h']
end
end
end Go.Pm
section
namespace Go.Pm.F
variable(C:Task->Option Res)(q:Nat)(fr:Fr)(σ : S)
@[simp] def F123l0x:PC:=(.seq (sr [mv 10 5,bk 11 .lss 10 3] [2,3,4,5,11] (.cond (.t 11) .skip (.exit 0))) (.seq (.block 1 (sr [mv 14 3,jj 15 (.call 136 [(.t 14),(kk 4)]),bk 16 .gtr 15 0] [2,3,4,5,16] (cs 16 (rn [mv 17 5,mv 18 3,jj 19 (.call 137 [(.t 18),(kk 2),(kk 3)]),fa 20 0 4,jj 21 (.indexAddrA 3 4 (.t 20) (.t 17)),st 4 21 19] [2,3,4,5])))) (rn [mv 12 5,bk 13 .add 12 1,mv 5 13] [2,3,4,5])))
def F123l0:PC:=F123l0x
theorem qcL:run C q F123l0 fr σ = run C q F123l0x fr σ := rfl
def F123:PFun:=pf 1 [.cell 2 true 12] (sr [jj 2 (.alloc [zN,zN,eN,sN,zN,zN,eN,sN,zN,zN,eN,sN])] [0,2] (sr [mv 6 0,jj 7 (.call 23 [(.t 6),(kk 60)]),jj 8 (.build [sN,zN] [(0,1,(.t 7))]),bx 9 8,mv 3 9] [2,3] (sr [jj 4 (.alloc [zN,zN,eN,sN,zN,zN,eN,sN,zN,zN,eN,sN])] [2,3,4] (.seq (sr [mx 5 (kk 0)] [2,3,4,5] (.block 0 (.loop F123l0))) (sr [la 22 12 4,st 12 2 22] [2] .ret)))))
def F136:PFun:=pf 2 [.tmp 4] (sr [mx 4 (kk 0)] [0,1] (.seq (.seq (.region (some []) [mv 6 0,nc 7 6,fa 8 1 7,l1 9 8,mv 10 0,nc 11 10,fa 12 0 11,l1 13 12,ls 14 13,bn 15 .geq 9 14] [0,1,15]) (cs 15 (sr [mx 4 (kk 0)] [4] .ret))) (.seq (.region (some []) [mv 16 0,nc 17 16,fa 18 0 17,l1 19 18,mv 20 0,nc 21 20,fa 22 1 21,l1 23 22,jj 24 (.indexAddr 1 (.t 19) (.t 23)),l1 25 24,jj 26 (.call 17 [(.t 25),(kk 1000000)]),mv 5 26] [0,1,5] [10]) (sr [mv 27 0,nc 28 27,fa 29 1 28,l1 30 29,bk 31 .add 30 1,nc 32 27,fa 33 1 32,st 1 33 31] [1,5] (sr [mv 34 5,mv 35 1,bn 36 .rem 34 35,mv 4 36] [4] .ret)))))
@[simp] def F137l0x:PC:=(.seq (sr [mv 14 8,bk 15 .gtr 14 0] [0,1,6,7,8,15] (.cond (.t 15) .skip (.exit 0))) (.seq (.block 1 (.region (some []) [fa 18 3 7,⟨some 19,.load false 1 (.t 18),none,[4]⟩,mv 20 0,mv 21 1,cl 22 162 [20,21],jj 23 (.bslice 1 [zN,zN,eN,sN] [(0,4,(.t 22))]),jj 24 (.append 4 56 (.t 19) (.t 23)),fa 25 3 7,st 1 25 24] [0,1,6,7,8] [4])) (rn [mv 16 8,bk 17 .sub 16 1,mv 8 17] [0,1,6,7,8])))
def F137l0:PC:=F137l0x
theorem qfk:run C q F137l0 fr σ = run C q F137l0x fr σ := rfl
def F137:PFun:=pf 3 [.cell 6 true 4] (sr [jj 6 (.alloc [zN,zN,eN,sN])] [0,1,2,6] (sr [jj 9 (.build [zN,zN,eN,sN] [(0,1,(kk 7))]),jj 7 (.alloc [zN,zN,eN,sN]),st 4 7 9] [0,1,2,6,7] (.seq (sr [mv 10 0,mv 11 2,bk 12 .add 11 1,cl 13 136 [10,12],mv 8 13] [0,1,6,7,8] (.block 0 (.loop F137l0))) (sr [la 26 4 7,st 4 6 26] [6] .ret))))
def F162:PFun:=pf 2 [.cell 4 true 4] (sr [jj 4 (.alloc [zN,zN,eN,sN])] [0,1,4] (sr [mv 13 0,jj 14 (.call 136 [(.t 13),(kk 10)]),mv 5 14] [0,1,4,5] (.seq (sr [mv 15 1,bk 16 .leq 15 0] [0,1,4,5,16] (cs 16 (rn [mv 17 5,bk 18 .rem 17 7,mv 5 18] [0,1,4,5]))) (.seq (sr [mv 19 5] [0,1,4,19] (.block 0 (.seq (sr [bk 21 .eql 19 0,mv 20 21] [0,1,4,19,20] (.cond (.t 20) .skip (rn [bk 22 .eql 19 1,mv 20 22] [0,1,4,19,20]))) (.cond (.t 20) (.seq (.region (some []) [jj 23 (.bslice 4 [eN,eN,eN,eN] [(0,1,(ks [105])),(1,1,(ks [110])),(2,1,(ks [115,117,109])),(3,1,(ks [118,51]))]),mv 24 0,jj 25 (.call 136 [(.t 24),(kk 4)]),jj 26 (.indexAddr 1 (.t 23) (.t 25)),⟨some 27,.load false 1 (.t 26),none,[6]⟩,mv 28 0,jj 29 (.call 177 [(.t 28),(kk 2)]),jj 30 (.call 176 [(kk 1),(.t 27),(.t 29)]),st 4 4 30] [4] [6,7]) .ret) (.seq (sr [bk 32 .eql 19 2,mv 31 32] [0,1,4,19,31] (.cond (.t 31) .skip (sr [bk 33 .eql 19 3,mv 31 33] [0,1,4,19,31] (.cond (.t 31) .skip (rn [bk 34 .eql 19 4,mv 31 34] [0,1,4,19,31]))))) (.cond (.t 31) (sr [jj 35 (.bslice 6 [eN,eN,eN,eN,eN,eN] [(0,1,(ks [120])),(1,1,(ks [121])),(2,1,(ks [118,120])),(3,1,(ks [118,121])),(4,1,(ks [97])),(5,1,(ks [98]))]),mv 36 0,jj 37 (.call 136 [(.t 36),(kk 6)]),jj 38 (.indexAddr 1 (.t 35) (.t 37)),l1 39 38,mv 6 39] [0,4,6] (sr [mv 40 0,jj 41 (.call 177 [(.t 40),(kk 1)]),jj 7 (.alloc [zN,zN,eN,sN]),st 4 7 41] [0,4,6,7] (.seq (.region (some []) [mv 42 6,⟨some 43,.load true 4 (.t 7),none,[3]⟩,mv 44 0,jj 45 (.call 177 [(.t 44),(kk 2)]),jj 46 (.call 178 [(kk 2),(.t 42),(.t 43),(.t 45)]),st 4 4 46] [4] [3,4]) .ret))) (sr [bk 48 .eql 19 5,mv 47 48] [0,1,4,19,47] (.cond (.t 47) (sr [mv 49 0,jj 50 (.call 177 [(.t 49),(kk 0)]),jj 8 (.alloc [zN,zN,eN,sN]),st 4 8 50] [0,4,8] (.seq (.region (some []) [⟨some 51,.load true 4 (.t 8),none,[2]⟩,mv 52 0,jj 53 (.call 177 [(.t 52),(kk 1)]),jj 54 (.call 178 [(kk 5),(ks []),(.t 51),(.t 53)]),st 4 4 54] [4] [2,3]) .ret)) (sr [bk 56 .eql 19 6,mv 55 56] [0,1,4,19,55] (.cond (.t 55) (.seq (sr [mv 57 0,jj 58 (.call 136 [(.t 57),(kk 3)]),bk 59 .gtr 58 0] [0,4,59] (cs 59 (sr [mv 60 0,jj 61 (.call 177 [(.t 60),(kk 1)]),jj 62 (.call 176 [(kk 1),(ks [110]),(.t 61)]),st 4 4 62] [4] .ret))) (sr [jj 63 (.build [zN,zN,eN,sN] [(0,1,(kk 6))]),st 4 4 63] [4] .ret)) (sr [bk 65 .eql 19 7,mv 64 65] [0,1,4,64] (cs 64 (sr [mv 66 0,jj 67 (.call 179 [(.t 66),(kk 1)]),jj 9 (.alloc [zN,zN,eN,sN]),st 4 9 67] [0,1,4,9] (.seq (.region (some []) [⟨some 68,.load true 4 (.t 9),none,[4]⟩,mv 69 0,mv 70 1,bk 71 .sub 70 1,jj 72 (.call 137 [(.t 69),(.t 71),(kk 2)]),jj 73 (.call 178 [(kk 4),(ks []),(.t 68),(.t 72)]),st 4 4 73] [4] [4,5]) .ret)))))))))))))) (sr [mv 74 0,jj 75 (.call 179 [(.t 74),(kk 2)]),jj 10 (.alloc [zN,zN,eN,sN]),st 4 10 75] [0,1,4,10] (sr [mv 76 0,mv 77 1,bk 78 .sub 77 1,jj 79 (.call 137 [(.t 76),(.t 78),(kk 2)]),jj 11 (.alloc [zN,zN,eN,sN]),st 4 11 79] [0,1,4,10,11] (sr [jj 80 (.build [zN,zN,eN,sN] [(0,1,(kk 7))]),jj 12 (.alloc [zN,zN,eN,sN]),st 4 12 80] [0,1,4,10,11,12] (.seq (sr [mv 81 0,jj 82 (.call 136 [(.t 81),(kk 2)]),bk 83 .eql 82 1] [0,1,4,10,11,12,83] (cs 83 (rn [mv 84 0,mv 85 1,bk 86 .sub 85 1,jj 87 (.call 137 [(.t 84),(.t 86),(kk 2)]),st 4 12 87] [4,10,11,12]))) (sr [la 88 4 10,la 89 4 11,la 90 4 12,jj 91 (.bslice 3 [zN,zN,eN,sN,zN,zN,eN,sN,zN,zN,eN,sN] [(0,4,(.t 88)),(4,4,(.t 89)),(8,4,(.t 90))]),jj 92 (.build [zN,zN,eN,sN] [(0,1,(kk 3)),(3,1,(.t 91))]),st 4 4 92] [4] .ret)))))))))
def F176:PFun:=pf 3 [.cell 6 true 4] (sr [bx 5 2,jj 6 (.alloc [zN,zN,eN,sN])] [0,1,5,6] (sr [mv 7 0,mv 8 1,la 9 4 5,jj 10 (.bslice 1 [zN,zN,eN,sN] [(0,4,(.t 9))]),jj 11 (.build [zN,zN,eN,sN] [(0,1,(.t 7)),(2,1,(.t 8)),(3,1,(.t 10))]),st 4 6 11] [6] .ret))
def F177:PFun:=pf 2 [.cell 4 true 4] (sr [jj 4 (.alloc [zN,zN,eN,sN])] [0,1,4] (sr [mv 9 0,jj 10 (.call 136 [(.t 9),(kk 12)]),mv 5 10] [0,1,4,5] (.seq (sr [mv 11 1,bk 12 .leq 11 0] [0,1,4,5,12] (cs 12 (rn [mv 13 5,bk 14 .rem 13 6,mv 5 14] [0,1,4,5]))) (.seq (sr [mv 15 5] [0,1,4,15] (.block 0 (.seq (sr [bk 17 .eql 15 0,mv 16 17] [0,1,4,15,16] (.cond (.t 16) .skip (rn [bk 18 .eql 15 1,mv 16 18] [0,1,4,15,16]))) (.cond (.t 16) (sr [jj 19 (.bslice 8 [zN,zN,zN,zN,zN,zN,zN,zN] [(0,1,(kk 0)),(1,1,(kk 1)),(2,1,(kk 2)),(3,1,(kk 3)),(4,1,(kk 7)),(5,1,(kk 100)),(6,1,(kk 1024)),(7,1,(kk 2147483647))]),mv 20 0,jj 21 (.call 136 [(.t 20),(kk 8)]),jj 22 (.indexAddr 1 (.t 19) (.t 21)),l1 23 22,jj 24 (.build [zN,zN,eN,sN] [(0,1,(kk 8)),(1,1,(.t 23))]),st 4 4 24] [4] .ret) (.seq (sr [bk 26 .eql 15 2,mv 25 26] [0,1,4,15,25] (.cond (.t 25) .skip (rn [bk 27 .eql 15 3,mv 25 27] [0,1,4,15,25]))) (.cond (.t 25) (sr [jj 28 (.bslice 4 [eN,eN,eN,eN] [(0,1,(ks [105])),(1,1,(ks [110])),(2,1,(ks [115,117,109])),(3,1,(ks [118,51]))]),mv 29 0,jj 30 (.call 136 [(.t 29),(kk 4)]),jj 31 (.indexAddr 1 (.t 28) (.t 30)),l1 32 31,jj 33 (.build [zN,zN,eN,sN] [(0,1,(kk 10)),(2,1,(.t 32))]),st 4 4 33] [4] .ret) (.seq (sr [bk 35 .eql 15 4,mv 34 35] [0,1,4,15,34] (.cond (.t 34) .skip (rn [bk 36 .eql 15 5,mv 34 36] [0,1,4,15,34]))) (.cond (.t 34) (sr [jj 37 (.bslice 3 [eN,eN,eN] [(0,1,(ks [115,101,108,102])),(1,1,(ks [111,116,104,101,114])),(2,1,(ks [116,105,99,107]))]),mv 38 0,jj 39 (.call 136 [(.t 38),(kk 3)]),jj 40 (.indexAddr 1 (.t 37) (.t 39)),l1 41 40,jj 42 (.build [zN,zN,eN,sN] [(0,1,(kk 12)),(2,1,(.t 41))]),st 4 4 42] [4] .ret) (.seq (sr [bk 44 .eql 15 6,mv 43 44] [0,1,4,15,43] (.cond (.t 43) .skip (rn [bk 45 .eql 15 7,mv 43 45] [0,1,4,15,43]))) (.cond (.t 43) (sr [jj 46 (.bslice 8 [eN,eN,eN,eN,eN,eN,eN,eN] [(0,1,(ks [120])),(1,1,(ks [121])),(2,1,(ks [118,120])),(3,1,(ks [118,121])),(4,1,(ks [97])),(5,1,(ks [98])),(6,1,(ks [104,105,116])),(7,1,(ks [115,116,105,108,108]))]),mv 47 0,jj 48 (.call 136 [(.t 47),(kk 8)]),jj 49 (.indexAddr 1 (.t 46) (.t 48)),l1 50 49,mv 6 50] [0,1,4,6] (sr [mv 51 6,mv 52 0,mv 53 1,bk 54 .sub 53 1,cl 55 177 [52,54],jj 56 (.call 176 [(kk 11),(.t 51),(.t 55)]),st 4 4 56] [4] .ret)) (sr [bk 58 .eql 15 8,mv 57 58] [0,1,4,57] (cs 57 (sr [mv 59 0,mv 60 1,bk 61 .sub 60 1,cl 62 177 [59,61],jj 63 (.call 176 [(kk 13),(ks [45]),(.t 62)]),st 4 4 63] [4] .ret))))))))))))) (sr [jj 64 (.bslice 4 [eN,eN,eN,eN] [(0,1,(ks [43])),(1,1,(ks [45])),(2,1,(ks [42])),(3,1,(ks [47]))]),mv 65 0,jj 66 (.call 136 [(.t 65),(kk 4)]),jj 67 (.indexAddr 1 (.t 64) (.t 66)),l1 68 67,mv 7 68] [0,1,4,7] (sr [mv 69 0,mv 70 1,bk 71 .sub 70 1,cl 72 177 [69,71],jj 8 (.alloc [zN,zN,eN,sN]),st 4 8 72] [0,1,4,7,8] (.seq (.region (some []) [mv 73 7,⟨some 74,.load true 4 (.t 8),none,[5]⟩,mv 75 0,mv 76 1,bk 77 .sub 76 1,cl 78 177 [75,77],jj 79 (.call 178 [(kk 14),(.t 73),(.t 74),(.t 78)]),st 4 4 79] [4] [5,6]) .ret)))))))
def F178:PFun:=pf 4 [.cell 8 true 4] (sr [bx 6 2,bx 7 3,jj 8 (.alloc [zN,zN,eN,sN])] [0,1,6,7,8] (sr [mv 9 0,mv 10 1,la 11 4 6,la 12 4 7,jj 13 (.bslice 2 [zN,zN,eN,sN,zN,zN,eN,sN] [(0,4,(.t 11)),(4,4,(.t 12))]),jj 14 (.build [zN,zN,eN,sN] [(0,1,(.t 9)),(2,1,(.t 10)),(3,1,(.t 13))]),st 4 8 14] [8] .ret))
def F179:PFun:=pf 2 [.cell 4 true 4] (sr [jj 4 (.alloc [zN,zN,eN,sN])] [0,1,4] (sr [mv 10 0,jj 11 (.call 136 [(.t 10),(kk 8)]),mv 5 11] [0,1,4,5] (.seq (sr [mv 12 1,bk 13 .leq 12 0] [0,1,4,5,13] (cs 13 (rn [mv 14 5,bk 15 .rem 14 4,mv 5 15] [0,1,4,5]))) (.seq (sr [mv 16 5] [0,1,4,16] (.block 0 (sr [bk 18 .eql 16 0,mv 17 18] [0,1,4,16,17] (.cond (.t 17) (sr [mv 19 0,jj 20 (.call 136 [(.t 19),(kk 2)]),jj 21 (.build [zN,zN,eN,sN] [(0,1,(kk 9)),(1,1,(.t 20))]),st 4 4 21] [4] .ret) (.seq (sr [bk 23 .eql 16 1,mv 22 23] [0,1,4,16,22] (.cond (.t 22) .skip (sr [bk 24 .eql 16 2,mv 22 24] [0,1,4,16,22] (.cond (.t 22) .skip (sr [bk 25 .eql 16 3,mv 22 25] [0,1,4,16,22] (.cond (.t 22) .skip (rn [bk 26 .eql 16 4,mv 22 26] [0,1,4,16,22]))))))) (.cond (.t 22) (sr [jj 27 (.bslice 6 [eN,eN,eN,eN,eN,eN] [(0,1,(ks [60])),(1,1,(ks [60,61])),(2,1,(ks [62])),(3,1,(ks [62,61])),(4,1,(ks [61,61])),(5,1,(ks [33,61]))]),mv 28 0,jj 29 (.call 136 [(.t 28),(kk 6)]),jj 30 (.indexAddr 1 (.t 27) (.t 29)),l1 31 30,mv 6 31] [0,1,4,6] (sr [mv 32 0,mv 33 1,bk 34 .sub 33 1,cl 35 177 [32,34],jj 7 (.alloc [zN,zN,eN,sN]),st 4 7 35] [0,1,4,6,7] (.seq (.region (some []) [mv 36 6,⟨some 37,.load true 4 (.t 7),none,[5]⟩,mv 38 0,mv 39 1,bk 40 .sub 39 1,cl 41 177 [38,40],jj 42 (.call 178 [(kk 14),(.t 36),(.t 37),(.t 41)]),st 4 4 42] [4] [5,6]) .ret))) (sr [bk 44 .eql 16 5,mv 43 44] [0,1,4,43] (cs 43 (sr [mv 45 0,mv 46 1,bk 47 .sub 46 1,cl 48 179 [45,47],jj 49 (.call 176 [(kk 13),(ks [33]),(.t 48)]),st 4 4 49] [4] .ret))))))))) (sr [jj 50 (.bslice 2 [eN,eN] [(0,1,(ks [38,38])),(1,1,(ks [124,124]))]),mv 51 0,jj 52 (.call 136 [(.t 51),(kk 2)]),jj 53 (.indexAddr 1 (.t 50) (.t 52)),l1 54 53,mv 8 54] [0,1,4,8] (sr [mv 55 0,mv 56 1,bk 57 .sub 56 1,cl 58 179 [55,57],jj 9 (.alloc [zN,zN,eN,sN]),st 4 9 58] [0,1,4,8,9] (.seq (.region (some []) [mv 59 8,⟨some 60,.load true 4 (.t 9),none,[5]⟩,mv 61 0,mv 62 1,bk 63 .sub 62 1,cl 64 179 [61,63],jj 65 (.call 178 [(kk 14),(.t 59),(.t 60),(.t 64)]),st 4 4 65] [4] [5,6]) .ret)))))))
end Go.Pm.F
end
section
namespace Go.Pm.F
variable(C:Task->Option Res)(q:Nat)(fr:Fr)(σ : S)
def F152:PFun:=pf 0 [.tmp 0] (sr [jj 0 (.mov (.c (.slice none 0 0)))] [] (sr [jj 1 (.bslice 3 [eN,eN,eN] [(0,1,(ks [97,99,116])),(1,1,(ks [116,105,99,107])),(2,1,(ks [104,105,116]))]),mv 0 1] [0] .ret))
def F192:PFun:=pf 1 [.tmp 2] (sr [mx 2 kF] [0] (sr [mv 3 0,jj 4 (.bin .geq (.t 3) (.c (.int .u8 97))),mv 5 4,jt 6 5 (.mov (.t 0)),jt 7 5 (.bin .leq (.t 6) (.c (.int .u8 122))),jj 8 (.pick (.t 5) (.t 7) kF),mv 2 8] [2] .ret))
def F193:PFun:=pf 1 [.tmp 2] (sr [mx 2 kF] [0] (sr [mv 3 0,jj 4 (.bin .geq (.t 3) (.c (.int .u8 48))),mv 5 4,jt 6 5 (.mov (.t 0)),jt 7 5 (.bin .leq (.t 6) (.c (.int .u8 57))),jj 8 (.pick (.t 5) (.t 7) kF),mv 2 8] [2] .ret))
end Go.Pm.F
end
section
namespace Go.Pm.F
variable(C:Task->Option Res)(q:Nat)(fr:Fr)(σ : S)
def effRows15:List (List Int):=[[0,0],[0,1],[0,1],[1,0],[1,1],[2,0],[0,1],[0,1],[0,1],[2,1],[2,1],[2,1],[2,1],[1,1],[2,1],[2,1],[2,1],[1,1],[0,0],[1,0],[2,0],[0,0]]
def G_arenanet_compile_effects:List D:=effRows15.flatten.map fun n => .lit (.int .i64 n)
@[simp] def F131l0x:PC:=(sr [bn 20 .lss 19 18] [1,2,4,17,18,19,20] (.seq (.cond (.t 20) .skip (.exit 0)) (.seq (.block 1 (sr [mv 21 19,jj 22 (.indexAddr 1 (.t 17) (.t 19)),l1 23 22,mv 5 21,mv 6 23] [1,2,4,5,6,17,18,19] (rn [mv 24 4,nc 25 24,fa 26 0 25,fa 27 1 26,l1 28 27,mv 29 6,mv 30 5,jn (.mapset .s (.t 28) (.t 29) (.t 30))] [1,2,4,17,18,19]))) (rn [bk 31 .add 19 1,mv 19 31] [1,2,4,17,18,19]))))
def F131l0:PC:=F131l0x
theorem qi5:run C q F131l0 fr σ = run C q F131l0x fr σ := rfl
@[simp] def F131l1x:PC:=(sr [bk 35 .lss 34 3] [2,4,33,34,35] (.seq (.cond (.t 35) .skip (.exit 2)) (.seq (.block 3 (sr [mv 36 34,jj 37 (.indexA true 3 4 (.t 33) (.t 34)),jj 8 (.alloc [zN,zN,eN,sN]),mv 7 36,st 4 8 37] [2,4,7,8,33,34] (sr [mv 38 4,mv 39 7,nc 40 38,fa 41 2 40,jj 42 (.indexAddrA 3 1 (.t 41) (.t 39)),jn (.store 1 (.t 42) (kk (-1)))] [2,4,7,8,33,34] (sr [fa 43 0 8,l1 44 43,bk 45 .neq 44 0] [2,4,7,8,33,34,45] (cs 45 (.seq (.region (some []) [mv 46 4,mv 47 7,mv 48 4,nc 49 48,fa 50 0 49,fa 51 0 50,l1 52 51,ls 53 52,nc 54 46,fa 55 2 54,jj 56 (.indexAddrA 3 1 (.t 55) (.t 47)),st 1 56 53] [2,4,8,33,34]) (.seq (.region (some []) [mv 57 4,nc 58 57,fa 59 0 58,la 60 4 8,cl 61 147 [59,60]] [2,4,33,34] [4]) (rn [mv 62 4,nc 63 62,fa 64 0 63,jj 65 (.call 148 [(.t 64),(kk 21),(kk 0)])] [2,4,33,34])))))))) (rn [bk 66 .add 34 1,mv 34 66] [2,4,33,34]))))
def F131l1:PC:=F131l1x
theorem qa6:run C q F131l1 fr σ = run C q F131l1x fr σ := rfl
@[simp] def F131l2x:PC:=(sr [bk 88 .lss 87 3] [2,9,86,87,88] (.seq (.cond (.t 88) .skip (.exit 4)) (.seq (.block 5 (sr [jj 89 (.indexA false 3 1 (.t 86) (.t 87)),mv 11 89] [2,9,11,86,87] (sr [mv 90 11,bk 91 .geq 90 0,mv 92 91,jt 93 92 (.load true 4 (.t 9)),jt 94 92 (.mov (.t 11)),jt 95 92 (.call 139 [(.t 93),(.t 94)]),jt 96 92 (.call 140 [(.t 95)]),jt 97 92 (.un .not (.t 96)),jj 98 (.pick (.t 92) (.t 97) kF)] [2,9,86,87,98] (cs 98 (sr [jj 99 (.build [sN,zN,zN,zN] []),st 4 2 99,mx 3 (kk 15)] [2,3] .ret))))) (rn [bk 100 .add 87 1,mv 87 100] [2,9,86,87]))))
def F131l2:PC:=F131l2x
theorem qa7:run C q F131l2 fr σ = run C q F131l2x fr σ := rfl
def F131:PFun:=pf 1 [.cell 2 true 4,.tmp 3] (sr [bx 1 0,jj 2 (.alloc [sN,zN,zN,zN]),mx 3 (kk 0)] [1,2] (sr [jj 12 (.mkmap),jj 13 (.build [sN,(.lit (.map none))] [(1,1,(.t 12))]),jj 14 (.build [sN,(.lit (.map none)),zN,zN,zN] [(0,2,(.t 13))]),bx 15 14,mv 4 15] [1,2,4] (.seq (sr [la 16 12 1,cl 17 15 [16],ls 18 17,mx 19 (kk 0)] [1,2,4,17,18,19] (.block 0 (.loop F131l0))) (.seq (sr [fa 32 0 1,la 33 12 32,mx 34 (kk 0)] [2,4,33,34] (.block 2 (.loop F131l1))) (.seq (sr [mv 67 4,nc 68 67,fa 69 0 68,fa 70 0 69,l1 71 70,ls 72 71,bk 73 .gtr 72 400] [2,4,73] (cs 73 (sr [jj 74 (.build [sN,zN,zN,zN] []),st 4 2 74,mx 3 (kk 2)] [2,3] .ret))) (.seq (.region (some [(111,[sN,zN,zN,zN])]) [mv 75 4,nc 76 75,fa 77 0 76,fa 78 0 77,l1 79 78,mv 80 4,nc 81 80,fa 82 2 81,la 83 3 82,jj 84 (.build [sN,zN,zN,zN] [(0,1,(.t 79)),(1,3,(.t 83))]),jj 9 (.fill 111),st 4 9 84] [2,9]) (.seq (sr [fa 85 1 9,la 86 3 85,mx 87 (kk 0)] [2,9,86,87] (.block 4 (.loop F131l2))) (sr [la 101 4 9,st 4 2 101,mx 3 (kk 0)] [2,3] .ret))))))))
def F134:PFun:=pf 1 [.tmp 2] (sr [mx 2 (kk 0)] [0] (sr [jj 6 (.mkmap),jn (.mapset .s (.t 6) (ks [120]) (kk 0)),jn (.mapset .s (.t 6) (ks [121]) (kk 1)),jn (.mapset .s (.t 6) (ks [118,120]) (kk 2)),jn (.mapset .s (.t 6) (ks [118,121]) (kk 3)),jn (.mapset .s (.t 6) (ks [97]) (kk 4)),jn (.mapset .s (.t 6) (ks [98]) (kk 5)),jn (.mapset .s (.t 6) (ks [104,105,116]) (kk 6)),jn (.mapset .s (.t 6) (ks [115,116,105,108,108]) (kk 7)),mv 7 6,mv 3 7] [0,3] (.seq (sr [mv 9 3,mv 10 0,jj 11 (.lookup .s zN (.t 9) (.t 10) true),mv 8 11,ex 12 8 0,ex 13 8 1,mv 4 12,mv 5 13] [4,5] (sr [mv 14 5] [4,14] (cs 14 (sr [mv 15 4,mv 2 15] [2] .ret)))) (sr [mx 2 (kk (-1))] [2] .ret))))
@[simp] def F139l1x:PC:=(sr [bn 71 .lss 70 69] [2,4,5,6,7,10,68,69,70,71] (.seq (.cond (.t 71) .skip (.exit 2)) (.seq (.block 3 (sr [jj 72 (.indexAddr 1 (.t 68) (.t 70)),l1 73 72,mv 12 73] [2,4,5,6,7,10,12,68,69,70] (.block 4 (sr [mv 75 12,fa 76 0 2,l1 77 76,ls 78 77,bn 79 .eql 75 78,mv 74 79] [2,4,5,6,7,10,12,68,69,70,74] (.cond (.t 74) (rn [fa 80 0 5,jn (.store 1 (.t 80) kT)] [2,4,5,6,7,10,68,69,70]) (sr [mv 82 6,mv 83 12,jj 84 (.indexAddr 1 (.t 82) (.t 83)),l1 85 84,bk 86 .eql 85 0,mv 81 86] [2,4,5,6,7,10,12,68,69,70,81] (.cond (.t 81) (sr [mv 87 6,mv 88 12,mv 89 10,jj 90 (.max [(.t 89),(kk 0)]),bk 91 .add 90 1,jj 92 (.indexAddr 1 (.t 87) (.t 88)),st 1 92 91] [2,4,5,6,7,10,12,68,69,70] (rn [mv 93 7,mv 94 12,jj 95 (.bsliceO 1 1 [zN] [(0,1,(.t 94))]),jj 96 (.appendO 1 8 (.t 93) (.t 95)),mv 7 96] [2,4,5,6,7,10,68,69,70])) (sr [mv 98 6,mv 99 12,jj 100 (.indexAddr 1 (.t 98) (.t 99)),l1 101 100,mv 102 10,bk 103 .add 102 1,bn 104 .neq 101 103,mv 97 104] [2,4,5,6,7,10,68,69,70,97] (cs 97 (rn [fa 105 1 5,jn (.store 1 (.t 105) kT)] [2,4,5,6,7,10,68,69,70])))))))))) (rn [bk 106 .add 70 1,mv 70 106] [2,4,5,6,7,10,68,69,70]))))
def F139l1:PC:=F139l1x
theorem qds:run C q F139l1 fr σ = run C q F139l1x fr σ := rfl
@[simp] def F139l0x:PC:=(.seq (sr [mv 22 7,ls 23 22,bk 24 .gtr 23 0] [2,4,5,6,7,24] (.cond (.t 24) .skip (.exit 0))) (.block 1 (sr [mv 25 7,mv 26 7,ls 27 26,bk 28 .sub 27 1,jj 29 (.indexAddr 1 (.t 25) (.t 28)),l1 30 29,mv 8 30] [2,4,5,6,7,8] (sr [mv 31 7,mv 32 7,ls 33 32,bk 34 .sub 33 1,jj 35 (.cut 1 (.t 31) none (some (.t 34))),mv 7 35] [2,4,5,6,7,8] (sr [fa 36 0 2,l1 37 36,mv 38 8,jj 39 (.indexAddr 2 (.t 37) (.t 38)),fa 40 0 39,l1 41 40,jj 42 (.indexAddrA 22 2 (.g G_arenanet_compile_effects) (.t 41)),la 43 2 42,jj 9 (.alloc [zN,zN]),st 2 9 43] [2,4,5,6,7,8,9] (sr [mv 44 6,mv 45 8,jj 46 (.indexAddr 1 (.t 44) (.t 45)),l1 47 46,bk 48 .sub 47 1,mv 10 48] [2,4,5,6,7,8,9,10] (.seq (sr [mv 49 10,fa 50 0 9,l1 51 50,bn 52 .lss 49 51] [2,4,5,6,7,8,9,10,52] (cs 52 (rn [fa 53 1 5,jn (.store 1 (.t 53) kT)] [2,4,5,6,7,8,9,10]))) (sr [mv 54 10,fa 55 1 9,l1 56 55,fa 57 0 9,l1 58 57,bn 59 .sub 56 58,bn 60 .add 54 59,mv 10 60] [2,4,5,6,7,8,10] (sr [fa 61 2 5,l1 62 61,mv 63 10,jj 64 (.max [(.t 62),(.t 63)]),fa 65 2 5,st 1 65 64] [2,4,5,6,7,8,10] (sr [la 66 4 2,mv 67 8,cl 68 164 [66,67],ls 69 68,mx 70 (kk 0)] [2,4,5,6,7,10,68,69,70] (.block 2 (.loop F139l1))))))))))))
def F139l0:PC:=F139l0x
theorem qfl:run C q F139l0 fr σ = run C q F139l0x fr σ := rfl
def F139:PFun:=pf 2 [.cell 4 true 3] (sr [bx 2 0,jj 4 (.alloc [(.lit (.bool false)),(.lit (.bool false)),zN])] [1,2,4] (sr [jj 5 (.alloc [(.lit (.bool false)),(.lit (.bool false)),zN])] [1,2,4,5] (sr [fa 13 0 2,l1 14 13,ls 15 14,jj 16 (.mkslice false [zN] 8 (.t 15) (.t 15)),mv 6 16] [1,2,4,5,6] (sr [mv 17 6,mv 18 1,jj 19 (.indexAddr 1 (.t 17) (.t 18)),jn (.store 1 (.t 19) (kk 1))] [1,2,4,5,6] (.seq (sr [mv 20 1,jj 21 (.bsliceO 1 1 [zN] [(0,1,(.t 20))]),mv 7 21] [2,4,5,6,7] (.block 0 (.loop F139l0))) (sr [la 107 3 5,st 3 4 107] [4] .ret))))))
def F140:PFun:=pf 1 [.tmp 2] (sr [bx 1 0,mx 2 kF] [1] (sr [fa 3 1 1,l1 4 3,jj 5 (.un .not (.t 4)),mv 6 5,jt 7 6 (.fieldAddr 2 (.t 1)),jt 8 6 (.load false 1 (.t 7)),jt 9 6 (.bin .leq (.t 8) (kk 16)),jj 10 (.pick (.t 6) (.t 9) kF),mv 2 10] [2] .ret))
def F147:PFun:=pf 2 [] (sr [bx 3 1] [0,3] (sr [fa 4 0 3,l1 5 4] [0,3,5] (.block 0 (.seq (sr [bk 10 .eql 5 8,mv 9 10] [0,3,5,9] (.cond (.t 9) .skip (rn [bk 11 .eql 5 9,mv 9 11] [0,3,5,9]))) (.cond (.t 9) (rn [mv 12 0,fa 13 1 3,l1 14 13,jj 15 (.call 148 [(.t 12),(kk 1),(.t 14)])] []) (sr [bk 17 .eql 5 10,mv 16 17] [0,3,5,16] (.cond (.t 16) (.region (some []) [mv 18 0,mv 19 0,nc 20 19,fa 21 1 20,l1 22 21,fa 23 2 3,l1 24 23,jj 25 (.lookup .s zN (.t 22) (.t 24) false),jj 26 (.call 148 [(.t 18),(kk 2),(.t 25)])] [] [8]) (sr [bk 28 .eql 5 11,mv 27 28] [0,3,5,27] (.cond (.t 27) (sr [mv 29 0,la 30 4 3,jj 31 (.call 165 [(.t 29),(.t 30),(kk 0)])] [0,3] (rn [mv 32 0,fa 33 2 3,l1 34 33,cl 35 134 [34],jj 36 (.call 148 [(.t 32),(kk 4),(.t 35)])] [])) (sr [bk 38 .eql 5 12,mv 37 38] [0,3,5,37] (.cond (.t 37) (rn [mv 39 0,la 40 4 3,cl 41 166 [39,40]] []) (sr [bk 43 .eql 5 13,mv 42 43] [0,3,5,42] (.cond (.t 42) (rn [mv 44 0,la 45 4 3,cl 46 167 [44,45]] []) (sr [bk 48 .eql 5 14,mv 47 48] [0,3,47] (.cond (.t 47) (rn [mv 49 0,la 50 4 3,cl 51 168 [49,50]] []) (rn [mv 6 0,la 7 4 3,cl 8 169 [6,7]] []))))))))))))))))
def F148:PFun:=pf 3 [.tmp 6] (sr [mx 6 (kk 0)] [0,1,2] (sr [mv 7 0,mv 8 0,nc 9 8,fa 10 0 9,l1 11 10,mv 12 1,mv 13 2,jj 14 (.build [zN,zN] [(0,1,(.t 12)),(1,1,(.t 13))]),jj 15 (.bsliceO 1 2 [zN,zN] [(0,2,(.t 14))]),jj 16 (.appendO 2 16 (.t 11) (.t 15)),nc 17 7,fa 18 0 17,st 1 18 16] [0] (sr [mv 19 0,nc 20 19,fa 21 0 20,l1 22 21,ls 23 22,bk 24 .sub 23 1,mv 6 24] [6] .ret)))
def F164:PFun:=pf 2 [.tmp 4] (sr [bx 2 0,jj 4 (.mov (.c (.slice none 0 0)))] [1,2] (.seq (sr [fa 6 0 2,l1 7 6,mv 8 1,jj 9 (.indexAddr 2 (.t 7) (.t 8)),la 10 2 9,jj 5 (.alloc [zN,zN]),st 2 5 10] [1,5] (sr [fa 11 0 5,l1 12 11] [1,5,12] (.block 0 (sr [bk 14 .eql 12 21,mv 13 14] [1,5,12,13] (.cond (.t 13) (sr [jj 4 (.mov (.c (.slice none 0 0)))] [4] .ret) (sr [bk 16 .eql 12 18,mv 15 16] [1,5,12,15] (.cond (.t 15) (sr [fa 17 1 5,l1 18 17,jj 19 (.bslice 1 [zN] [(0,1,(.t 18))]),mv 4 19] [4] .ret) (sr [bk 21 .eql 12 19,mv 20 21] [1,5,20] (cs 20 (sr [mv 22 1,bk 23 .add 22 1,fa 24 1 5,l1 25 24,jj 26 (.bslice 2 [zN,zN] [(0,1,(.t 23)),(1,1,(.t 25))]),mv 4 26] [4] .ret)))))))))) (sr [mv 27 1,bk 28 .add 27 1,jj 29 (.bslice 1 [zN] [(0,1,(.t 28))]),mv 4 29] [4] .ret)))
def F165:PFun:=pf 3 [] (sr [bx 4 1] [0,2,4] (sr [mv 6 2,fa 7 3 4,l1 8 7,ls 9 8,bn 10 .lss 6 9] [0,2,4,10] (cs 10 (rn [mv 11 0,fa 12 3 4,l1 13 12,mv 14 2,jj 15 (.indexAddr 4 (.t 13) (.t 14)),la 16 4 15,cl 17 147 [11,16]] []))))
def F166:PFun:=pf 2 [] (sr [bx 3 1] [0,3] (sr [fa 4 2 3,l1 5 4] [0,5] (.block 0 (sr [jj 9 (.bin .eql (.t 5) (ks [115,101,108,102])),mv 8 9] [0,5,8] (.cond (.t 8) (rn [mv 10 0,jj 11 (.call 148 [(.t 10),(kk 6),(kk 0)])] []) (sr [jj 13 (.bin .eql (.t 5) (ks [111,116,104,101,114])),mv 12 13] [0,12] (.cond (.t 12) (rn [mv 14 0,jj 15 (.call 148 [(.t 14),(kk 7),(kk 0)])] []) (rn [mv 6 0,jj 7 (.call 148 [(.t 6),(kk 8),(kk 0)])] []))))))))
def F167:PFun:=pf 2 [] (sr [bx 3 1] [0,3] (sr [mv 4 0,la 5 4 3,jj 6 (.call 165 [(.t 4),(.t 5),(kk 0)])] [0,3] (sr [fa 7 2 3,l1 8 7,jj 9 (.bin .eql (.t 8) (ks [45]))] [0,9] (.cond (.t 9) (rn [mv 10 0,jj 11 (.call 148 [(.t 10),(kk 13),(kk 0)])] []) (rn [mv 12 0,jj 13 (.call 148 [(.t 12),(kk 17),(kk 0)])] [])))))
def F168:PFun:=pf 2 [] (sr [bx 2 0,bx 3 1] [2,3] (sr [fa 4 2 3,l1 5 4] [2,3,5] (.block 0 (sr [jj 18 (.bin .eql (.t 5) (ks [38,38])),mv 17 18] [2,3,5,17] (.cond (.t 17) (rn [l1 19 2,jj 20 (.mkfn 181 [] [(.t 2),(.t 3)]),jj 21 (.mkfn 182 [] [(.t 2),(.t 3)]),jj 22 (.mkfn 183 [] [(.t 2)]),cl 23 180 [19,20,21,22]] []) (sr [jj 25 (.bin .eql (.t 5) (ks [124,124])),mv 24 25] [2,3,5,24] (.cond (.t 24) (rn [l1 26 2,jj 27 (.mkfn 184 [] [(.t 2),(.t 3)]),jj 28 (.mkfn 185 [] [(.t 2)]),jj 29 (.mkfn 186 [] [(.t 2),(.t 3)]),cl 30 180 [26,27,28,29]] []) (.seq (sr [jj 32 (.bin .eql (.t 5) (ks [62])),mv 31 32] [2,3,5,31] (.cond (.t 31) .skip (rn [jj 33 (.bin .eql (.t 5) (ks [62,61])),mv 31 33] [2,3,5,31]))) (.cond (.t 31) (sr [l1 34 2,la 35 4 3,jj 36 (.call 165 [(.t 34),(.t 35),(kk 1)])] [2,3] (sr [l1 37 2,la 38 4 3,jj 39 (.call 165 [(.t 37),(.t 38),(kk 0)])] [2,3] (.region (some []) [⟨some 40,.load false 1 (.t 2),none,[3]⟩,fa 41 2 3,l1 42 41,cl 43 187 [42],jj 44 (.call 148 [(.t 40),(.t 43),(kk 0)])] [] [3,4]))) (sr [jj 46 (.bin .eql (.t 5) (ks [33,61])),mv 45 46] [2,3,45] (.cond (.t 45) (sr [l1 47 2,la 48 4 3,jj 49 (.call 165 [(.t 47),(.t 48),(kk 0)])] [2,3] (sr [l1 50 2,la 51 4 3,jj 52 (.call 165 [(.t 50),(.t 51),(kk 1)])] [2] (sr [l1 53 2,jj 54 (.call 148 [(.t 53),(kk 16),(kk 0)])] [2] (rn [l1 55 2,jj 56 (.call 148 [(.t 55),(kk 17),(kk 0)])] [])))) (sr [l1 6 2,la 7 4 3,jj 8 (.call 165 [(.t 6),(.t 7),(kk 0)])] [2,3] (sr [l1 9 2,la 10 4 3,jj 11 (.call 165 [(.t 9),(.t 10),(kk 1)])] [2,3] (.region (some []) [⟨some 12,.load false 1 (.t 2),none,[3]⟩,fa 13 2 3,l1 14 13,cl 15 187 [14],jj 16 (.call 148 [(.t 12),(.t 15),(kk 0)])] [] [3,4]))))))))))))))
@[simp] def F169l0x:PC:=(sr [bn 66 .lss 65 64] [2,3,64,65,66] (.seq (.cond (.t 66) .skip (.exit 1)) (.seq (.block 2 (sr [mv 67 65,mv 4 67] [2,3,4,64,65] (rn [l1 68 2,la 69 4 3,mv 70 4,cl 71 165 [68,69,70]] [2,3,64,65]))) (rn [bk 72 .add 65 1,mv 65 72] [2,3,64,65]))))
def F169l0:PC:=F169l0x
theorem qdt:run C q F169l0 fr σ = run C q F169l0x fr σ := rfl
def F169:PFun:=pf 2 [] (sr [bx 2 0,bx 3 1] [2,3] (sr [fa 5 0 3,l1 6 5] [2,3,6] (.block 0 (sr [bk 8 .eql 6 1,mv 7 8] [2,3,6,7] (.cond (.t 7) (sr [l1 9 2,la 10 4 3,jj 11 (.call 165 [(.t 9),(.t 10),(kk 0)])] [2,3] (.region (some []) [l1 12 2,l1 13 2,nc 14 13,fa 15 1 14,l1 16 15,fa 17 2 3,l1 18 17,jj 19 (.lookup .s zN (.t 16) (.t 18) false),jj 20 (.call 148 [(.t 12),(kk 3),(.t 19)])] [] [8])) (sr [bk 22 .eql 6 2,mv 21 22] [2,3,6,21] (.cond (.t 21) (sr [l1 23 2,la 24 4 3,jj 25 (.call 165 [(.t 23),(.t 24),(kk 0)])] [2,3] (sr [l1 26 2,la 27 4 3,jj 28 (.call 165 [(.t 26),(.t 27),(kk 1)])] [2,3] (.region (some []) [⟨some 29,.load false 1 (.t 2),none,[3]⟩,fa 30 2 3,l1 31 30,cl 32 134 [31],jj 33 (.call 148 [(.t 29),(kk 5),(.t 32)])] [] [3,4]))) (sr [bk 35 .eql 6 3,mv 34 35] [2,3,6,34] (.cond (.t 34) (rn [l1 36 2,jj 37 (.mkfn 188 [] [(.t 2),(.t 3)]),jj 38 (.mkfn 189 [] [(.t 2),(.t 3)]),jj 39 (.mkfn 190 [] [(.t 2),(.t 3)]),cl 40 180 [36,37,38,39]] []) (sr [bk 42 .eql 6 4,mv 41 42] [2,3,6,41] (.cond (.t 41) (rn [l1 43 2,la 44 4 3,cl 45 191 [43,44]] []) (sr [bk 47 .eql 6 5,mv 46 47] [2,3,6,46] (.cond (.t 46) (sr [l1 48 2,la 49 4 3,jj 50 (.call 165 [(.t 48),(.t 49),(kk 0)])] [2,3] (sr [l1 51 2,la 52 4 3,jj 53 (.call 165 [(.t 51),(.t 52),(kk 1)])] [2] (rn [l1 54 2,jj 55 (.call 148 [(.t 54),(kk 20),(kk 0)])] []))) (sr [bk 57 .eql 6 6,mv 56 57] [2,3,6,56] (.cond (.t 56) (rn [l1 58 2,jj 59 (.call 148 [(.t 58),(kk 21),(kk 0)])] []) (sr [bk 61 .eql 6 7,mv 60 61] [2,3,60] (cs 60 (sr [fa 62 3 3,l1 63 62,ls 64 63,mx 65 (kk 0)] [2,3,64,65] (.block 1 (.loop F169l0))))))))))))))))))))
def F180:PFun:=⟨4,[],sr [mv 8 1,jj 9 (.callv (.t 8) [])] [1000000,0,2,3] (sr [mv 10 0,mv 11 2,cl 12 200 [10,11],jj 1000000 (.defer (.t 12) [])] [1000000,3] (rn [mv 13 3,jj 14 (.callv (.t 13) [])] [1000000])),false,true,false⟩
def F181:PFun:=pf 2 [] (rn [l1 2 0,la 3 4 1,jj 4 (.call 165 [(.t 2),(.t 3),(kk 0)])] [])
def F182:PFun:=pf 2 [] (rn [l1 2 0,la 3 4 1,jj 4 (.call 165 [(.t 2),(.t 3),(kk 1)])] [])
def F183:PFun:=pf 1 [] (rn [l1 1 0,jj 2 (.call 148 [(.t 1),(kk 1),(kk 0)])] [])
def F184:PFun:=pf 2 [] (rn [l1 2 0,la 3 4 1,jj 4 (.call 165 [(.t 2),(.t 3),(kk 0)])] [])
def F185:PFun:=pf 1 [] (rn [l1 1 0,jj 2 (.call 148 [(.t 1),(kk 1),(kk 1)])] [])
def F186:PFun:=pf 2 [] (rn [l1 2 0,la 3 4 1,jj 4 (.call 165 [(.t 2),(.t 3),(kk 1)])] [])
def F187:PFun:=pf 1 [.tmp 2] (sr [mx 2 (kk 0)] [0] (.seq (sr [mv 3 0] [3] (.block 0 (sr [jj 5 (.bin .eql (.t 3) (ks [43])),mv 4 5] [3,4] (.cond (.t 4) (sr [mx 2 (kk 9)] [2] .ret) (sr [jj 7 (.bin .eql (.t 3) (ks [45])),mv 6 7] [3,6] (.cond (.t 6) (sr [mx 2 (kk 10)] [2] .ret) (sr [jj 9 (.bin .eql (.t 3) (ks [42])),mv 8 9] [3,8] (.cond (.t 8) (sr [mx 2 (kk 11)] [2] .ret) (sr [jj 11 (.bin .eql (.t 3) (ks [47])),mv 10 11] [3,10] (.cond (.t 10) (sr [mx 2 (kk 12)] [2] .ret) (.seq (sr [jj 13 (.bin .eql (.t 3) (ks [60])),mv 12 13] [3,12] (.cond (.t 12) .skip (rn [jj 14 (.bin .eql (.t 3) (ks [62])),mv 12 14] [3,12]))) (.cond (.t 12) (sr [mx 2 (kk 14)] [2] .ret) (.seq (sr [jj 16 (.bin .eql (.t 3) (ks [60,61])),mv 15 16] [3,15] (.cond (.t 15) .skip (rn [jj 17 (.bin .eql (.t 3) (ks [62,61])),mv 15 17] [15]))) (cs 15 (sr [mx 2 (kk 15)] [2] .ret))))))))))))))) (sr [mx 2 (kk 16)] [2] .ret)))
def F188:PFun:=pf 2 [] (rn [l1 2 0,la 3 4 1,jj 4 (.call 165 [(.t 2),(.t 3),(kk 0)])] [])
def F189:PFun:=pf 2 [] (rn [l1 2 0,la 3 4 1,jj 4 (.call 165 [(.t 2),(.t 3),(kk 1)])] [])
def F190:PFun:=pf 2 [] (rn [l1 2 0,la 3 4 1,jj 4 (.call 165 [(.t 2),(.t 3),(kk 2)])] [])
def F191:PFun:=⟨2,[],sr [bx 3 1] [1000000,0,3] (sr [mv 5 0,nc 6 5,fa 7 0 6,l1 8 7,ls 9 8,mv 4 9] [1000000,0,3,4] (sr [mv 10 0,la 11 4 3,jj 12 (.call 165 [(.t 10),(.t 11),(kk 0)])] [1000000,0,3,4] (sr [mv 13 0,jj 14 (.call 201 [(.t 13),(kk 19)]),jj 1000000 (.defer (.t 14) [])] [1000000,0,3,4] (sr [mv 15 0,la 16 4 3,jj 17 (.call 165 [(.t 15),(.t 16),(kk 1)])] [1000000,0,4] (rn [mv 18 0,mv 19 4,jj 20 (.call 148 [(.t 18),(kk 18),(.t 19)])] [1000000]))))),false,true,false⟩
def F200:PFun:=⟨2,[.tmp 4],sr [jj 4 (.mov (.c .nilFunc))] [1000000,0,1] (sr [mv 6 0,jj 7 (.call 201 [(.t 6),(kk 19)]),mv 5 7] [1000000,0,1,5] (sr [mv 8 5,jj 1000000 (.defer (.t 8) [])] [1000000,0,1] (sr [mv 9 1,jj 10 (.callv (.t 9) [])] [1000000,0] (sr [mv 11 0,jj 12 (.call 201 [(.t 11),(kk 18)]),mv 4 12] [1000000,4] .ret)))),false,true,false⟩
def F201:PFun:=pf 2 [.tmp 4] (sr [bx 2 0,jj 4 (.mov (.c .nilFunc))] [1,2] (sr [l1 6 2,mv 7 1,jj 8 (.call 148 [(.t 6),(.t 7),(kk 0)]),jj 5 (.alloc [zN]),st 1 5 8] [2,5] (sr [jj 9 (.mkfn 204 [] [(.t 2),(.t 5)]),mv 4 9] [4] .ret)))
def F204:PFun:=pf 2 [] (.region (some []) [l1 2 0,nc 3 2,fa 4 0 3,l1 5 4,l1 6 1,l1 7 0,nc 8 7,fa 9 0 8,l1 10 9,ls 11 10,jj 12 (.indexAddr 2 (.t 5) (.t 6)),fa 13 1 12,st 1 13 11] [])
end Go.Pm.F
end
section
namespace Go.Pm.F
def qaf:Nat->Option PFun
 |15=>some F15
 |17=>some F17
 |23=>some F23
 |32=>some F32
 |38=>some F38
 |39=>some F39
 |123=>some F123
 |131=>some F131
 |134=>some F134
 |136=>some F136
 |137=>some F137
 |139=>some F139
 |140=>some F140
 |147=>some F147
 |148=>some F148
 |152=>some F152
 |162=>some F162
 |164=>some F164
 |165=>some F165
 |166=>some F166
 |167=>some F167
 |168=>some F168
 |169=>some F169
 |176=>some F176
 |177=>some F177
 |178=>some F178
 |179=>some F179
 |180=>some F180
 |181=>some F181
 |182=>some F182
 |183=>some F183
 |184=>some F184
 |185=>some F185
 |186=>some F186
 |187=>some F187
 |188=>some F188
 |189=>some F189
 |190=>some F190
 |191=>some F191
 |192=>some F192
 |193=>some F193
 |200=>some F200
 |201=>some F201
 |204=>some F204
 |_=>none
theorem qgx : ∀ f pf,qaN f=some pf->qaf f=some pf:=fun f pf h=>by
 unfold qaN at h
 split at h<;>first | (cases h; rfl) | cases h
end Go.Pm.F
end
namespace Go.Pm
section
def qbg(c:UInt8):Bool:=decide (97<=c.toNat)&&decide (c.toNat<=122)
def qaF(c:UInt8):Bool:=decide (48<=c.toNat)&&decide (c.toNat<=57)
def qiP(s:ByteArray):Nat->Bool->Nat->Nat
 |0,_,i=>i
 |n+1,c,i=>match s[i]? with
  |none=>i
  |some b=>if b.toNat=10 then qiP s n false (i+1) else if c=true\/b.toNat=32\/b.toNat=9 then qiP s n c (i+1) else if b.toNat=35 then qiP s n true (i+1) else i
def qup(p:UInt8->Bool)(s:ByteArray):Nat->Nat->Nat
 |0,i=>i
 |n+1,i=>match s[i]? with
  |none=>i
  |some b=>if p b then qup p s n (i+1) else i
def qaM(c:UInt8):Bool:=qbg c||qaF c
def digV(l:List UInt8):Nat:=l.foldl (fun v c=>10*v+(c.toNat-48)) 0
structure Tk where
 at_:Nat
 s:ByteArray
 bad:Nat
def bs(l:List UInt8):ByteArray:=⟨l.toArray⟩
def fieldNames:List ByteArray:=[bs [120],bs [121],bs [118,120],bs [118,121],bs [97],bs [98],qq8,qt6]
def wordNames:List ByteArray:=[bs [111,110],bs [97,99,116],bs [116,105,99,107],qq8,bs [105,102],bs [101,108,115,101],bs [119,104,105,108,101],bs [101,102,102,101,99,116],bs [115,116,111,112],bs [116,114,117,101],bs [102,97,108,115,101],bs [115,101,108,102],bs [111,116,104,101,114]]
def qeD:List ByteArray:=[bs [124,124],bs [38,38],bs [60,61],bs [62,61],bs [61,61],bs [33,61]]
def qkG:List Nat:=[123,125,91,93,40,41,61,59,44,60,62,43,45,42,47,33]
def qgH(eS eL eR:Nat)(s:ByteArray)(i:Nat):Tk:=match s[i]? with
 |none=>⟨i,⟨#[]⟩,0⟩
 |some c=>
  if qbg c then
   let w:=s.extract i (qup qaM s (s.size-i) i)
   ⟨i,w,if 8<w.size/\w∉fieldNames/\w∉wordNames then eL else 0⟩
  else if qaF c then
   let w:=s.extract i (qup qaF s (s.size-i) i)
   ⟨i,w,if 2147483647<digV w.toList then eR else 0⟩
  else if i+2<=s.size/\s.extract i (i+2)∈qeD then ⟨i,s.extract i (i+2),0⟩
  else if c.toNat∈qkG then ⟨i,s.extract i (i+1),0⟩
  else ⟨i,s.extract i (i+1),eS⟩
def qdU(eS eL eR:Nat)(s:ByteArray):Nat->Nat->List Tk
 |0,i=>[⟨i,⟨#[]⟩,0⟩]
 |n+1,i=>
  let t:=qgH eS eL eR s (qiP s (s.size-i) false i)
  if t.bad≠0\/t.s.size=0 then [t] else t::qdU eS eL eR s n (t.at_+t.s.size)
inductive Rz(α : Type) where
 |ok (a : α) (r:List Tk)
 |er (i c:Nat)
def nx:List Tk->Option ByteArray
 |t::_=>if t.bad=0 then some t.s else none
 |[]=>none
def Rz.bind{α β : Type}:Rz α -> (α -> List Tk->Rz β)->Rz β
 |.ok a r,k=>k a r
 |.er i c,_ => .er i c
def qq3(prec:Nat)(s:ByteArray):Option Bop:=
 let l:List Bop:=match prec with
  |1=>[.or] | 2=>[.and] | 4=>[.lt,.le,.gt,.ge,.eq,.ne] | 5=>[.add,.sub] | 6=>[.mul,.div] | _=>[]
 l.find? fun o=>decide (o.str=s)
def qaY(p:UInt8->Bool)(s:ByteArray):Bool:=match s[0]? with
 |some c=>p c
 |none=>false
end
section
def qfp(s:ByteArray):Option Nat:=
 if s=bs [97,99,116] then some 0 else if s=bs [116,105,99,107] then some 1 else if s=qq8 then some 2 else none
end
section
def Fin{α : Type}(m:Nat)(x:Option (Rz α)):Prop := ∃ y,x=some y /\ ∀ a r,y = .ok a r->r.length<=m
end
section
abbrev byl(s:ByteArray):List UInt8:=s.data.toList
theorem qbX(l:List UInt8):byl (bs l)=l:=by simp[byl,bs]
theorem qdR(s:ByteArray):bs (byl s)=s:=by cases s; simp[bs,byl]
theorem qaZ(s:ByteArray):(byl s).length=s.size:=WC
theorem qaB(l:List UInt8):(bs l).size=l.length:=rfl
theorem qt9{a b:List UInt8}(h:bs a=bs b):a=b:=by rw[<- qbX a,h,qbX]
theorem qmx{a b:ByteArray}(h:byl a=byl b):a=b:=by rw[<- qdR a,h,qdR]
theorem qg1(s:ByteArray)(i:Nat):s[i]?=((byl s).drop i).head?:=by
 rw[List.head?_drop]
 by_cases h:i<s.size
 ·rw[getElem?_pos s i h,WH (by rw[qaZ]; exact h)]
  simp[byl,ByteArray.getElem_eq_getElem_data]
 ·rw[getElem?_neg s i h,W4 (by rw[qaZ]; omega)]
theorem qcC(s:ByteArray)(i k:Nat):s.extract i (i+k)=bs (((byl s).drop i).take k):=by
 apply qmx
 rw[qbX]
 simp only[byl,ByteArray.data_extract,Array.toList_extract,List.extract_eq_take_drop]
 rw[show i+k-i=k by omega]
def qbc:Bool->List UInt8->Nat
 |_,[]=>0
 |c,b::r=>if b.toNat=10 then qbc false r+1 else if c=true\/b.toNat=32\/b.toNat=9 then qbc c r+1 else if b.toNat=35 then qbc true r+1 else 0
def qb9(p:UInt8->Bool):List UInt8->Nat
 |[]=>0
 |b::r=>if p b then qb9 p r+1 else 0
theorem qhV : ∀ (l:List UInt8) (c:Bool),qbc c l<=l.length
 |[],c=>by simp[qbc]
 |b::r,c=>by
  have h1:=qhV r false
  have h2:=qhV r c
  have h3:=qhV r true
  simp only[qbc,We]
  split
  ·omega
  split
  ·omega
  split<;>omega
theorem qfY(p:UInt8->Bool) : ∀ l:List UInt8,qb9 p l<=l.length
 |[]=>by simp[qb9]
 |b::r=>by
  have h1:=qfY p r
  simp only[qb9,We]
  split<;>omega
def tokL(eS eL eR:Nat):List UInt8->List UInt8 × Nat
 |[]=>([],0)
 |c::r=>
  if qbg c then ((c::r).take (qb9 qaM (c::r)),if 8<qb9 qaM (c::r)/\bs ((c::r).take (qb9 qaM (c::r)))∉fieldNames/\bs ((c::r).take (qb9 qaM (c::r)))∉wordNames then eL else 0)
  else if qaF c then ((c::r).take (qb9 qaF (c::r)),if 2147483647<digV ((c::r).take (qb9 qaF (c::r))) then eR else 0)
  else if bs ((c::r).take 2)∈qeD then ((c::r).take 2,0)
  else if c.toNat∈qkG then ([c],0)
  else ([c],eS)
def qua(eS eL eR:Nat):Nat->Nat->List UInt8->List Tk
 |0,i,_=>[⟨i,⟨#[]⟩,0⟩]
 |n+1,i,l=>
  if (tokL eS eL eR (l.drop (qbc false l))).2≠0\/(tokL eS eL eR (l.drop (qbc false l))).1.length=0 then [⟨i+qbc false l,bs (tokL eS eL eR (l.drop (qbc false l))).1,(tokL eS eL eR (l.drop (qbc false l))).2⟩]
  else ⟨i+qbc false l,bs (tokL eS eL eR (l.drop (qbc false l))).1,(tokL eS eL eR (l.drop (qbc false l))).2⟩::qua eS eL eR n (i+qbc false l+(tokL eS eL eR (l.drop (qbc false l))).1.length) ((l.drop (qbc false l)).drop (tokL eS eL eR (l.drop (qbc false l))).1.length)
theorem qkB(s:ByteArray) : ∀ (n:Nat) (c:Bool) (i:Nat),s.size-i<=n->qiP s n c i=i+qbc c ((byl s).drop i)
 |0,c,i,h=>by
  have:(byl s).drop i=[]:=WZ (by rw[qaZ]; omega)
  rw[this]
  simp[qiP,qbc]
 |n+1,c,i,h=>by
  rw[qiP,qg1]
  cases hd:(byl s).drop i with
  |nil=>simp[qbc]
  |cons b r=>
   have hr:(byl s).drop (i+1)=r:=by rw[<- List.drop_drop,hd]; rfl
   have ih:=fun c=>qkB s n c (i+1) (by omega)
   simp only[List.head?_cons,qbc,ih,hr]
   split
   ·omega
   split
   ·omega
   split<;>omega
theorem qqH(p:UInt8->Bool)(s:ByteArray) : ∀ (n i:Nat),s.size-i<=n->qup p s n i=i+qb9 p ((byl s).drop i)
 |0,i,h=>by
  have:(byl s).drop i=[]:=WZ (by rw[qaZ]; omega)
  rw[this]
  simp[qup,qb9]
 |n+1,i,h=>by
  rw[qup,qg1]
  cases hd:(byl s).drop i with
  |nil=>simp[qb9]
  |cons b r=>
   have hr:(byl s).drop (i+1)=r:=by rw[<- List.drop_drop,hd]; rfl
   have ih:=qqH p s n (i+1) (by omega)
   simp only[List.head?_cons,qb9,ih,hr]
   split<;>omega
theorem qfA{w:ByteArray}(h:w∈qeD):w.size=2:=by
 simp only[qeD,Wr,Wt,or_false] at h
 rcases h with h|h|h|h|h|h<;>rw[h]<;>rfl
theorem qfB(eS eL eR:Nat)(s:ByteArray)(i:Nat):qgH eS eL eR s i=⟨i,bs (tokL eS eL eR ((byl s).drop i)).1,(tokL eS eL eR ((byl s).drop i)).2⟩:=by
 unfold qgH
 rw[qg1]
 cases hd:(byl s).drop i with
 |nil=>rfl
 |cons c r=>
  have hlen:s.size-i=r.length+1:=by
   have:=congrArg List.length hd
   rw[W7,qaZ,We] at this
   exact this
  have e1 : ∀ p,s.extract i (qup p s (s.size-i) i)=bs ((c::r).take (qb9 p (c::r))):=fun p=>by
   rw[qqH p s _ i (Wj _),qcC,hd]
  have e2:s.extract i (i+2)=bs ((c::r).take 2):=by rw[qcC,hd]
  have e3:s.extract i (i+1)=bs [c]:=by rw[qcC,hd]; rfl
  have hw : ∀ p,((c::r).take (qb9 p (c::r))).length=qb9 p (c::r):=fun p=>by
   rw[WL,Nat.min_eq_left (qfY p _)]
  simp only[List.head?_cons,e1,e2,e3,tokL,qaB,hw,qbX,ByteArray.toList_eq]
  split
  ·rfl
  split
  ·simp[bs]
  have e4:(i+2<=s.size/\bs ((c::r).take 2)∈qeD)↔bs ((c::r).take 2)∈qeD:=by
   refine⟨fun h=>h.2,fun h=>⟨?_,h⟩⟩
   have:=qfA h
   rw[qaB,WL,We] at this
   omega
  simp only[e4]
  split
  ·rfl
  split<;>rfl
theorem qnB(eS eL eR:Nat)(s:ByteArray) : ∀ (n i:Nat),qdU eS eL eR s n i=qua eS eL eR n i ((byl s).drop i)
 |0,i=>rfl
 |n+1,i=>by
  rw[qdU,qua]
  simp only[qkB s _ false i (Wj _),qfB,qaB,<- List.drop_drop,qnB eS eL eR s n,List.drop_drop]
end
section
def qcp(p:Bool)(t:ByteArray):Bool:=match (byl t).getLast? with
 |some c=>qaM c
 |none=>p
def gap(p:Bool)(t:ByteArray):List UInt8:=if p&&qaY qaM t then [32] else []
def qav:Bool->List ByteArray->List UInt8
 |_,[]=>[]
 |p,t::ts=>gap p t++(byl t++qav (qcp p t) ts)
def qvk(p:Bool)(ts:List ByteArray):Bool:=ts.foldl qcp p
theorem qhN : ∀ (a b:List ByteArray) (p:Bool),qav p (a++b)=qav p a++qav (qvk p a) b
 |[],b,p=>rfl
 |t::a,b,p=>by simp only[Wi,qav,qhN a b,Wf,qvk,W6]
theorem qbG(p:UInt8->Bool)(t:ByteArray):qaY p t=match (byl t).head? with|some c=>p c|none=>false:=by
 unfold qaY
 rw[qg1,W5]
 all_goals (cases (byl t).head?<;>rfl)
def Tg(w:List UInt8):Prop:=
 (∃ c r,w=c::r/\qbg c=true/\(∀ b∈r,qaM b=true) /\ ¬ (8<w.length/\bs w∉fieldNames/\bs w∉wordNames)) \/
 (∃ c r,w=c::r/\qaF c=true/\(∀ b∈r,qaF b=true)/\digV w<=2147483647) \/
 bs w∈qeD \/ ∃ c,w=[c]/\c.toNat∈qkG
def Fol:List UInt8->List UInt8->Prop
 |c::r,d::_=>if qbg c then qaM d=false else if qaF c then qaF d=false else r=[]->bs [c,d]∉qeD
 |_,_=>True
theorem qkb(p:UInt8->Bool) : ∀ (w r:List UInt8),(∀ b∈w,p b=true)->(∀ d,r.head?=some d->p d=false)->qb9 p (w++r)=w.length
 |[],[],_,_=>rfl
 |[],d::r,_,h=>by simp[qb9,h d rfl]
 |b::w,r,h,h2=>by
  simp only[Wi,qb9,h b (WN ..),if_true,We]
  rw[qkb p w r (fun x hx=>h x (Wz _ hx)) h2]
theorem qnc{c:UInt8}(h:qbg c=true):qaM c=true:=by simp[qaM,h]
theorem qnd{c:UInt8}(h:qaF c=true):qaM c=true:=by simp[qaM,h]
theorem pair_cases{w:List UInt8}(h:bs w∈qeD):w=[124,124]\/w=[38,38]\/w=[60,61]\/w=[62,61]\/w=[61,61]\/w=[33,61]:=by
 simp only[qeD,Wr,Wt,or_false] at h
 rcases h with h|h|h|h|h|h<;>have:=qt9 h<;>simp[this]
theorem qe1{c:UInt8}(h:c.toNat∈qkG):c=123\/c=125\/c=91\/c=93\/c=40\/c=41\/c=61\/c=59\/c=44\/c=60\/c=62\/c=43\/c=45\/c=42\/c=47\/c=33:=by
 simp only[qkG,Wr,Wt,or_false] at h
 simp only[<- UInt8.toNat_inj]
 exact h
theorem qpR(eS eL eR:Nat){w rest:List UInt8}(h:Tg w)(hf:Fol w rest):tokL eS eL eR (w++rest)=(w,0):=by
 have take_len : ∀ k,k=w.length->(w++rest).take k=w:=fun k hk=>by rw[hk,List.take_left]
 rcases h with ⟨c,r,rfl,hc,hr,hb⟩|⟨c,r,rfl,hc,hr,hb⟩|hp|⟨c,rfl,hc⟩
 ·have hrun:qb9 qaM (c::r++rest)=(c::r).length:=by
   apply qkb
   ·intro b hb'
    rcases Wr.1 hb' with rfl|hb'
    ·exact qnc hc
    ·exact hr b hb'
   ·intro d hd
    cases rest with
    |nil=>cases hd
    |cons e rest=>
     cases hd
     simp only[Fol,hc,if_true] at hf
     exact hf
  have ht:=take_len _ rfl
  simp only[Wi] at hrun ht ⊢
  simp only[tokL,hc,if_true,hrun,ht,if_neg hb]
 ·have hnl:qbg c=false:=by
   simp only[qaF,qbg,Wq,decide_eq_true_eq,W3,decide_eq_false_iff_not] at hc ⊢
   omega
  have hrun:qb9 qaF (c::r++rest)=(c::r).length:=by
   apply qkb
   ·intro b hb'
    rcases Wr.1 hb' with rfl|hb'
    ·exact hc
    ·exact hr b hb'
   ·intro d hd
    cases rest with
    |nil=>cases hd
    |cons e rest=>
     cases hd
     simp only[Fol,hc,hnl,if_true] at hf
     exact hf
  have ht:=take_len _ hrun
  simp only[Wi] at hrun ht ⊢
  simp only[tokL,hc,hnl,if_true,ht,if_neg (Nat.not_lt.2 hb)]
  simp
 ·rcases pair_cases hp with rfl|rfl|rfl|rfl|rfl|rfl<;>simp[tokL,qbg,qaF,hp]
 ·have h2:bs ((c::rest).take 2)∉qeD:=by
   cases rest with
   |nil=>intro h; have:=qfA h; rw[qaB] at this; simp at this
   |cons d rest=>
    have hl:qbg c=false/\qaF c=false:=by rcases qe1 hc with rfl|rfl|rfl|rfl|rfl|rfl|rfl|rfl|rfl|rfl|rfl|rfl|rfl|rfl|rfl|rfl<;>exact⟨rfl,rfl⟩
    simp only[Fol,hl.1,hl.2] at hf
    simpa using hf
  have hl:qbg c=false/\qaF c=false:=by rcases qe1 hc with rfl|rfl|rfl|rfl|rfl|rfl|rfl|rfl|rfl|rfl|rfl|rfl|rfl|rfl|rfl|rfl<;>exact⟨rfl,rfl⟩
  simp only[Wi,Wc,tokL,hl.1,hl.2,if_neg h2,if_pos hc,Wp,if_false]
theorem qe2{w:List UInt8}(h:Tg w) : ∃ c r,w=c::r/\c.toNat≠10/\c.toNat≠32/\c.toNat≠9/\c.toNat≠35:=by
 rcases h with ⟨c,r,rfl,hc,hr,hb⟩|⟨c,r,rfl,hc,hr,hb⟩|hp|⟨c,rfl,hc⟩
 ·simp only[qbg,Wq,decide_eq_true_eq] at hc
  exact⟨c,r,rfl,by omega,by omega,by omega,by omega⟩
 ·simp only[qaF,Wq,decide_eq_true_eq] at hc
  exact⟨c,r,rfl,by omega,by omega,by omega,by omega⟩
 ·rcases pair_cases hp with rfl|rfl|rfl|rfl|rfl|rfl<;>exact⟨_,_,rfl,by decide,by decide,by decide,by decide⟩
 ·rcases qe1 hc with rfl|rfl|rfl|rfl|rfl|rfl|rfl|rfl|rfl|rfl|rfl|rfl|rfl|rfl|rfl|rfl<;>exact⟨_,_,rfl,by decide,by decide,by decide,by decide⟩
def Adj(t u:ByteArray):Prop:=(t≠bs [60]/\t≠bs [62]/\t≠bs [61]/\t≠bs [33])\/(byl u).head?≠some 61
def Ok2:List ByteArray->Prop
 |[]=>True
 |t::r=>Tg (byl t)/\(∀ u,r.head?=some u->Adj t u)/\Ok2 r
theorem qpS{w:List UInt8}{p:Bool}(h:bs w∈qeD \/ ∃ c,w=[c]/\c.toNat∈qkG):qcp p (bs w)=false:=by
 unfold qcp
 rw[qbX]
 rcases h with hp|⟨c,rfl,hc⟩
 ·rcases pair_cases hp with rfl|rfl|rfl|rfl|rfl|rfl<;>rfl
 ·rcases qe1 hc with rfl|rfl|rfl|rfl|rfl|rfl|rfl|rfl|rfl|rfl|rfl|rfl|rfl|rfl|rfl|rfl<;>rfl
theorem qod{w:List UInt8}{p:Bool}(h : ∃ c r,w=c::r/\qaM c=true /\ ∀ b∈r,qaM b=true):qcp p (bs w)=true:=by
 obtain⟨c,r,rfl,hc,hr⟩:=h
 unfold qcp
 rw[qbX]
 cases hl:(c::r).getLast? with
 |none=>simp at hl
 |some b=>
  have:=List.mem_of_getLast? hl
  rcases Wr.1 this with rfl|h
  ·exact hc
  ·exact hr b h
theorem qse{p:Bool}{t u:ByteArray}(ht:Tg (byl t))(hu:Tg (byl u))(ha:Adj t u)(r:List UInt8):Fol (byl t) (gap (qcp p t) u++(byl u++r)):=by
 obtain⟨d,w,hd,-⟩:=qe2 hu
 have hs:qaY qaM u=qaM d:=by rw[qbG,hd]; rfl
 have hword:(∃ c r,byl t=c::r/\qaM c=true /\ ∀ b∈r,qaM b=true) -> ∀ e q,gap (qcp p t) u++(byl u++r)=e::q->qaM e=false:=fun h e q he=>by
  have h1:qcp p t=true:=by
   have:=qod (p:=p) h
   rwa [qdR] at this
  rw[h1,gap,hs,hd] at he
  cases hwd:qaM d with
  |true=>simp[hwd] at he; rw[<- he.1]; rfl
  |false=>simp[hwd] at he; rw[<- he.1]; exact hwd
 cases he:gap (qcp p t) u++(byl u++r) with
 |nil=>cases byl t<;>trivial
 |cons e q=>
  rcases ht with ⟨c,r',hw,hc,hr,hb⟩|⟨c,r',hw,hc,hr,hb⟩|hp|⟨c,hw,hc⟩
  ·have:=hword ⟨c,r',hw,qnc hc,hr⟩ e q he
   rw[hw]
   simp only[Fol,hc,if_true]
   exact this
  ·have:=hword ⟨c,r',hw,qnd hc,fun b h=>qnd (hr b h)⟩ e q he
   rw[hw]
   have hnl:qbg c=false:=by
    simp only[qaF,qbg,Wq,decide_eq_true_eq,W3,decide_eq_false_iff_not] at hc ⊢
    omega
   simp only[Fol,hc,hnl,if_true]
   simp only[qaM,W8] at this
   exact this.2
  ·rcases pair_cases hp with h|h|h|h|h|h<;>rw[h]<;>simp[Fol,qbg,qaF]
  ·have h1:qcp p t=false:=by
    have:=qpS (p:=p) (.inr ⟨c,hw,hc⟩)
    rwa [qdR] at this
   rw[h1,gap,hd] at he
   simp at he
   have hed:e=d:=he.1.symm
   rw[hw]
   have hl:qbg c=false/\qaF c=false:=by rcases qe1 hc with rfl|rfl|rfl|rfl|rfl|rfl|rfl|rfl|rfl|rfl|rfl|rfl|rfl|rfl|rfl|rfl<;>exact⟨rfl,rfl⟩
   simp only[Fol,hl.1,hl.2]
   simp only[Wp,if_false]
   intro _ hpr
   have htb:t=bs [c]:=by rw[<- qdR t,hw]
   rw[hed] at hpr
   rcases ha with ⟨a1,a2,a3,a4⟩|ha
   ·rcases pair_cases hpr with h|h|h|h|h|h<;>simp only[WX,and_true] at h
    ·rw[h.1] at hc; simp[qkG] at hc
    ·rw[h.1] at hc; simp[qkG] at hc
    ·exact a1 (by rw[htb,h.1])
    ·exact a2 (by rw[htb,h.1])
    ·exact a3 (by rw[htb,h.1])
    ·exact a4 (by rw[htb,h.1])
   ·rw[hd] at ha
    simp only[List.head?_cons] at ha
    rcases pair_cases hpr with h|h|h|h|h|h<;>simp only[WX,and_true] at h
    ·rw[h.1] at hc; simp[qkG] at hc
    ·rw[h.1] at hc; simp[qkG] at hc
    ·exact ha (by rw[h.2])
    ·exact ha (by rw[h.2])
    ·exact ha (by rw[h.2])
    ·exact ha (by rw[h.2])
end
section
def qlP:Nat->Nat->List UInt8
 |0,_=>[]
 |k+1,n=>if n<10 then [(48+n).toUInt8] else qlP k (n / 10)++[(48+n % 10).toUInt8]
def qmh(n:Nat):List UInt8:=qlP 20 n
theorem qBF : ∀ d,d<10->((48+d).toUInt8).toNat=48+d:=by decide
theorem qsn(l:List UInt8)(c:UInt8):digV (l++[c])=10*digV l+(c.toNat-48):=by simp[digV]
theorem qlk : ∀ k n,n<10 ^ k->1<=k->digV (qlP k n)=n/\(∀ b∈qlP k n,qaF b=true) /\ ∃ c r,qlP k n=c::r
 |0,n,_,h=>by omega
 |k+1,n,h,_=>by
  rw[qlP]
  split
  ·rename_i hn
   have h1:=qBF n hn
   refine⟨by simp only[digV,W6,List.foldl_nil,h1]; omega,fun b hb=>?_,_,_,rfl⟩
   rw[Wl.1 hb]
   simp only[qaF,h1,Wq,decide_eq_true_eq]
   omega
  ·rename_i hn
   have h1:=qBF (n % 10) (by omega)
   have hk:1<=k:=by
    rcases k with _|k
    ·simp at h; omega
    ·omega
   obtain⟨i1,i2,c,r,i3⟩:=qlk k (n / 10) (by rw[Nat.pow_succ] at h; omega) hk
   refine⟨by rw[qsn,i1,h1]; omega,fun b hb=>?_,c,r++[(48+n % 10).toUInt8],by rw[i3]; rfl⟩
   rcases Wo.1 hb with hb|hb
   ·exact i2 b hb
   ·rw[Wl.1 hb]
    simp only[qaF,h1,Wq,decide_eq_true_eq]
    omega
theorem qgv{n:Nat}(h:n<10 ^ 20):digV (qmh n)=n/\(∀ b∈qmh n,qaF b=true) /\ ∃ c r,qmh n=c::r:=qlk 20 n h (by omega)
theorem qvy{n:Nat}(h:n<=2147483647):Tg (qmh n):=by
 obtain⟨h1,h2,c,r,h3⟩:=qgv (n:=n) (by omega)
 rw[h3] at h1 h2 ⊢
 exact .inr (.inl ⟨c,r,rfl,h2 c (WN ..),fun b hb=>h2 b (Wz _ hb),by omega⟩)
theorem qhR{n:Nat}(h:n<=2147483647):qaY qaF (bs (qmh n))=true:=by
 obtain⟨h1,h2,c,r,h3⟩:=qgv (n:=n) (by omega)
 rw[qbG,qbX,h3]
 rw[h3] at h2
 exact h2 c (WN ..)
def qll:ByteArray:=bs [116,114,117,101]
def qhn:ByteArray:=bs [102,97,108,115,101]
def qyj:ByteArray:=bs [115,101,108,102]
def qtM:ByteArray:=bs [111,116,104,101,114]
def qso:ByteArray:=bs [116,105,99,107]
def Bop.prec:Bop->Nat
 |.or=>1 | .and=>2 | .lt | .le | .gt | .ge | .eq | .ne=>4 | .add | .sub=>5 | .mul | .div=>6
def qfD(neg:Bool):Nat:=if neg then 7 else 3
def qda(b:Bool)(l:List ByteArray):List ByteArray:=if b then bs [40]::(l++[bs [41]]) else l
def Bop.left(o:Bop):Nat:=if o.prec=4 then 5 else o.prec
def E.tx(full:Bool):E->Nat->List ByteArray
 |.int n,_=>[bs (qmh n.toNat)]
 |.bool n,_=>[if n=0 then qhn else qll]
 |.var s,_=>[s]
 |.name s,_=>[s]
 |.field _ s e,_=>s::bs [91]::(e.tx full 1++[bs [93]])
 |.un _ neg e,p=>qda (full||decide (qfD neg<p)) (ustr neg::e.tx full (qfD neg))
 |.bin _ o a b,p=>qda (full||decide (o.prec<p)) (a.tx full o.left++o.str::b.tx full (o.prec+1))
def E.nest(full:Bool):E->Nat->Nat
 |.field _ _ e,_=>e.nest full 1+1
 |.un _ neg e,p=>e.nest full (qfD neg)+1+if (full||decide (qfD neg<p))=true then 1 else 0
 |.bin _ o a b,p=>max (a.nest full o.left) (b.nest full (o.prec+1))+if (full||decide (o.prec<p))=true then 1 else 0
 |_,_=>0
def E.good:E->Prop
 |.int n=>0<=n/\n<=2147483647
 |.bool n=>n=0\/n=1
 |.var s=>Tg (byl s)/\qaY qbg s=true/\s∉fieldNames/\s∉wordNames
 |.name s=>s=qyj\/s=qtM\/s=qso
 |.field _ s e=>s∈fieldNames/\e.good
 |.un _ _ e=>e.good
 |.bin _ _ a b=>a.good/\b.good
def E.fl(f:Bool):E->E
 |.int n => .int n
 |.bool n => .bool n
 |.var s => .var s
 |.name s => .name s
 |.field _ s e => .field f s (e.fl f)
 |.un _ neg e => .un f neg (e.fl f)
 |.bin _ o a b => .bin f o (a.fl f) (b.fl f)
theorem qb8(o:Bop):(o.prec=1/\o.left=1)\/(o.prec=2/\o.left=2)\/(o.prec=4/\o.left=5)\/(o.prec=5/\o.left=5)\/(o.prec=6/\o.left=6):=by cases o<;>simp[Bop.prec,Bop.left]
def Hx:List ByteArray->List Tk->List Tk->Prop
 |[],ts,r=>ts=r
 |x::l,ts,r => ∃ t q,ts=t::q/\t.s=x/\t.bad=0/\Hx l q r
theorem hx_app : ∀ {a b:List ByteArray} {ts r:List Tk},Hx (a++b) ts r ↔ ∃ m,Hx a ts m/\Hx b m r
 |[],b,ts,r=>⟨fun h=>⟨ts,rfl,h⟩,fun ⟨m,h1,h2⟩=>by cases h1; exact h2⟩
 |x::a,b,ts,r=>by
  simp only[Wi,Hx]
  constructor
  ·rintro ⟨t,q,h1,h2,h3,h4⟩
   obtain⟨m,h5,h6⟩:=hx_app.1 h4
   exact⟨m,⟨t,q,h1,h2,h3,h5⟩,h6⟩
  ·rintro ⟨m,⟨t,q,h1,h2,h3,h5⟩,h6⟩
   exact⟨t,q,h1,h2,h3,hx_app.2 ⟨m,h5,h6⟩⟩
theorem qcQ{x:ByteArray}{l:List ByteArray}{ts r:List Tk}(h:Hx (x::l) ts r):nx ts=some x/\Hx l ts.tail r:=by
 obtain⟨t,q,h1,h2,h3,h4⟩:=h
 subst h1
 simp[nx,h3,h2]
 exact h4
def Stops(p:Nat)(r:List Tk):Prop := ∃ s,nx r=some s /\ ∀ q,p<=q->qq3 q s=none
theorem Stops.mono{p q:Nat}{r:List Tk}(h:Stops p r)(hq:p<=q):Stops q r:=by
 obtain⟨s,h1,h2⟩:=h
 exact⟨s,h1,fun k hk=>h2 k (by omega)⟩
theorem qng(o:Bop):qq3 o.prec o.str=some o:=by cases o<;>rfl
theorem qok(o:Bop)(q:Nat)(h:q≠o.prec):qq3 q o.str=none:=by
 rcases q with _|_|_|_|_|_|_|q
 all_goals first|rfl|skip
 all_goals cases o<;>first|rfl|exact absurd rfl h
theorem qmi(full:Bool) : ∀ (e:E),e.good -> ∀ p,∃ x l,e.tx full p=x::l/\(x=ustr false->p<=3)/\(x=ustr true->p<=7)
 |.int n,h,p=>by
  have hd:=qhR (n:=n.toNat) (by have:=h.1; have:=h.2; omega)
  refine⟨_,_,rfl,fun hx=>?_,fun hx=>?_⟩
  all_goals
   rw[hx] at hd
   exact absurd hd (by decide)
 |.bool n,h,p=>by
  refine⟨_,_,rfl,fun hx=>?_,fun hx=>?_⟩
  all_goals split at hx<;>exact absurd hx (by decide)
 |.var s,h,p=>by
  refine⟨_,_,rfl,fun hx=>?_,fun hx=>?_⟩
  all_goals
   have:=h.2.1
   rw[hx] at this
   exact absurd this (by decide)
 |.name s,h,p=>by
  refine⟨_,_,rfl,fun hx=>?_,fun hx=>?_⟩
  all_goals rcases h with rfl|rfl|rfl<;>exact absurd hx (by decide)
 |.field f s e,h,p=>by
  refine⟨_,_,rfl,fun hx=>?_,fun hx=>?_⟩
  all_goals
   have:=h.1
   rw[hx] at this
   exact absurd this (by decide)
 |.un f neg e,h,p=>by
  simp only[E.tx,qda]
  split
  ·exact⟨_,_,rfl,fun hx=>absurd hx (by decide),fun hx=>absurd hx (by decide)⟩
  ·rename_i hc
   simp only[Yz,not_or,decide_eq_true_eq,Nat.not_lt] at hc
   refine⟨_,_,rfl,fun hx=>?_,fun hx=>?_⟩
   ·cases neg with
    |true=>exact absurd hx (by decide)
    |false=>exact hc.2
   ·cases neg with
    |true=>exact hc.2
    |false=>exact absurd hx (by decide)
 |.bin f o a b,h,p=>by
  simp only[E.tx,qda]
  split
  ·exact⟨_,_,rfl,fun hx=>absurd hx (by decide),fun hx=>absurd hx (by decide)⟩
  ·rename_i hc
   simp only[Yz,not_or,decide_eq_true_eq,Nat.not_lt] at hc
   obtain⟨x,l,h1,h2,h3⟩:=qmi full a h.1 o.left
   refine⟨x,l++o.str::b.tx full (o.prec+1),by rw[h1]; rfl,fun hx=>?_,fun hx=>?_⟩
   ·have:=h2 hx; have:=hc.2
    rcases qb8 o with h|h|h|h|h<;>omega
   ·have:=h3 hx; have:=hc.2
    rcases qb8 o with h|h|h|h|h<;>omega
section
variable{eS eL:Nat}{f:Bool}
theorem qfS(x:ByteArray)(hx : ∀ q,qq3 q x=none){p:Nat}{l:List ByteArray}{ts r:List Tk}(h:Hx (x::l) ts r):Stops p ts:=⟨x,(qcQ h).1,fun q _=>hx q⟩
theorem qiv(x:ByteArray)(h : ∀ o:Bop,o.str≠x)(q:Nat):qq3 q x=none:=by
 unfold qq3
 rw[YI]
 intro o _
 simp[h o]
end
end
section
def ifS:ByteArray:=bs [105,102]
def qkd:ByteArray:=bs [101,108,115,101]
def qnf:ByteArray:=bs [119,104,105,108,101]
def qke:ByteArray:=bs [101,102,102,101,99,116]
def qsm:ByteArray:=bs [115,116,111,112]
def onS:ByteArray:=bs [111,110]
def qiu:Ss->Bool
 |.block _ .nil _=>false
 |.block _ _ _=>true
 |_=>false
def Ss.tx:Ss->List ByteArray
 |.nil=>[]
 |.assign _ s e r=>s::bs [61]::(e.tx false 1++(bs [59]::r.tx))
 |.store _ s a b r=>s::bs [91]::(a.tx false 1++(bs [93]::bs [61]::(b.tx false 1++(bs [59]::r.tx))))
 |.effect _ a b r=>qke::(a.tx false 1++(bs [44]::(b.tx false 1++(bs [59]::r.tx))))
 |.stop r=>qsm::bs [59]::r.tx
 |.cond w _ c b r=>(if w then qnf else ifS)::(c.tx false 1++(b.tx++r.tx))
 |.block _ b r=>bs [123]::(b.tx++(bs [125]::(if qiu r then qkd::r.tx else [])))
def qpZ(s:ByteArray):Prop:=Tg (byl s)/\qaY qbg s=true/\s∉fieldNames/\s∉wordNames
def Ss.good:Ss->Option Nat->Prop
 |.nil,m=>m=none\/m=some 0
 |.assign _ s e r,m=>m=none/\qpZ s/\e.good/\r.good none
 |.store _ s a b r,m=>m=none/\s∈fieldNames/\a.good/\b.good/\r.good none
 |.effect _ a b r,m=>m=none/\a.good/\b.good/\r.good none
 |.stop r,m=>m=none/\r.good none
 |.cond w _ c b r,m=>m=none/\c.good/\b.good (some (if w then 1 else 2))/\r.good none
 |.block _ b r,m => ∃ n,m=some (n+1)/\b.good none/\r.good (some n)
def Ss.nest:Ss->Nat
 |.nil=>0
 |.assign _ _ e r=>max (e.nest false 1) r.nest
 |.store _ _ a b r=>max (a.nest false 1+1) (max (b.nest false 1) r.nest)
 |.effect _ a b r=>max (a.nest false 1) (max (b.nest false 1) r.nest)
 |.stop r=>r.nest
 |.cond _ _ c b r=>max (c.nest false 1) (max (b.nest+1) r.nest)
 |.block _ b r=>max b.nest r.nest
def Ss.fl(f fi fb:Bool):Ss->Ss
 |.nil => .nil
 |.assign _ s e r => .assign f s (e.fl f) (r.fl f fi fb)
 |.store _ s a b r => .store f s (a.fl f) (b.fl f) (r.fl f fi fb)
 |.effect _ a b r => .effect f (a.fl f) (b.fl f) (r.fl f fi fb)
 |.stop r => .stop (r.fl f fi fb)
 |.cond w _ c b r => .cond w (if w then f else fi) (c.fl f) (b.fl f fi fb) (r.fl f fi fb)
 |.block _ b r => .block fb (b.fl f fi fb) (r.fl f fi fb)
theorem qoi(a:Ss):a.app .nil=a:=by induction a<;>simp_all [Ss.app]
theorem qcA(a b c:Ss):(a.app b).app c=a.app (b.app c):=by induction a<;>simp_all [Ss.app]
theorem qmf{s x:ByteArray}(h:qpZ s)(hx:x∈fieldNames\/x∈wordNames\/qaY qbg x=false):s≠x:=by
 rintro rfl
 rcases hx with hx|hx|hx
 ·exact h.2.2.1 hx
 ·exact h.2.2.2 hx
 ·rw[h.2.1] at hx; cases hx
theorem qkf{s x:ByteArray}(h:s∈fieldNames)(hx:x∉fieldNames):s≠x:=fun e=>hx (e ▸ h)
theorem qvp : ∀ (s:Ss),s.good none -> ∃ x l,s.tx++[bs [125]]=x::l/\x≠qkd/\(s ≠ .nil->x≠bs [125])
 |.nil,_=>⟨_,_,rfl,by decide,fun h=>absurd rfl h⟩
 |.assign f s e r,h=>⟨_,_,rfl,qmf h.2.1 (.inr (.inl (by decide))),fun _=>qmf h.2.1 (.inr (.inr (by decide)))⟩
 |.store f s a b r,h=>⟨_,_,rfl,qkf h.2.1 (by decide),fun _=>qkf h.2.1 (by decide)⟩
 |.effect f a b r,h=>⟨_,_,rfl,by decide,fun _=>by decide⟩
 |.stop r,h=>⟨_,_,rfl,by decide,fun _=>by decide⟩
 |.cond w f c b r,h=>by
  refine⟨_,_,rfl,?_,fun _=>?_⟩<;>cases w<;>decide
 |.block f b r,h=>by obtain⟨n,hn,_⟩:=h; cases hn
section
variable{eS eL:Nat}{f fi fb:Bool}
theorem qyb(x:ByteArray)(hx : ∀ o:Bop,o.str≠x){l:List ByteArray}{ts r:List Tk}(h:Hx (x::l) ts r):Stops 1 ts:=qfS x (qiv x hx) h
end
end
section
def Bop.w:Bop->Nat
 |.and | .or=>11
 |.lt | .le | .gt | .ge | .eq | .ne=>7
 |_=>5
def E.cost:E->Nat
 |.int n=>(qmh n.toNat).length+1
 |.bool n=>if n=0 then 6 else 5
 |.var s=>s.size+1
 |.name s=>s.size+1
 |.field _ s e=>s.size+5+e.cost
 |.un _ _ e=>6+e.cost
 |.bin _ o a b=>o.str.size+o.w+(a.cost+b.cost)
def Ss.cost:Ss->Nat
 |.nil=>0
 |.assign _ s e r=>s.size+5+e.cost+r.cost
 |.store _ s a b r=>s.size+9+(a.cost+b.cost)+r.cost
 |.effect _ a b r=>11+(a.cost+b.cost)+r.cost
 |.stop r=>7+r.cost
 |.cond w _ c b r=>(if w then 6 else 3)+c.cost+b.cost+r.cost
 |.block _ b r=>4+b.cost+((if qiu r then 5 else 0)+r.cost)
def Co(c0:Int)(cost:Nat)(xs:List Int)(i i':Int):Prop:=i<=i'/\(i'<=i\/i'<=xs.length)/\(cost:Int)<=c0+24*(i'-i)
end
end Go.Pm
