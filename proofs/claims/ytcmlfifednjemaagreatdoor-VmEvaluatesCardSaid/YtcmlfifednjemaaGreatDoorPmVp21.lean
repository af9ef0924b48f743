/- Chapter 16: the cells at the beginning. -/
import Derived.Test.YtcmlfifednjemaaGreatDoorPmAL
import Derived.Test.YtcmlfifednjemaaGreatDoorPmF6r
import Derived.Test.YtcmlfifednjemaaGreatDoorPmR
import Derived.Laws.Strings
import Derived.KernelRfl
set_option linter.unusedSimpArgs false
set_option linter.unusedVariables false
set_option maxHeartbeats 4000000
namespace Go.Pm
section
open F
theorem qqx(n:Nat):Low (List.replicate n 0):=by
 intro j _
 simp only[getN,Wn,List.getElem?_replicate]
 split<;>rfl
theorem qot(s:Su)(hs:s.ok)(bs:List Bo)(hb:s.bs=boC bs)(hl:bs.length=s.nb) : ∃ w,w.length=s.n/\Low w/\Z qab (.call 55 [s.d] [])=some (.ret (.dat (.sl (qan w) s.n false)) []):=by
 obtain⟨w,h1,h2,h3⟩:=qyQ s hs bs hb hl s.nb (List.replicate s.n 0) 0 (by omega) (by simp) (qqx _)
 refine⟨w,h1,h2,?_⟩
 refine qaa (pf:=F55) rfl rfl ?_
 have hp:=hs.p3; have hq:=hs.b5
 have hN:s.n<1000:=by unfold Su.n; omega
 have hz:=qxn s hs
 have k1:(s.n:Int)<=1099511627776/\8*(s.n:Int)<=281474976710656:=by omega
 have k2:8*s.n<=281474976710656:=by omega
 have k3:=qio w s.n (by omega)
 rw[show ((0:Nat):Int)=0 from rfl] at h3
 simp only[iFr,qhk,Su.c,List.map] at h3
 simp only[Su.d,Su.c] at hz ⊢
 simp[F55,qh2,k1,k2,k3,hz,h1,h3,Wa]
end
section
open F
def tb7:List D:=[.lit (.int .i64 2147483647),.lit (.int .i64 (-2147483647)),.lit (.int .i64 65536),.lit (.int .i64 46341),.lit (.int .i64 (-46341)),.lit (.int .i64 1048577),.lit (.int .i64 16385)]
def tb5:List D:=[.lit (.int .i64 0),.lit (.int .i64 1),.lit (.int .i64 39),.lit (.int .i64 40),.lit (.int .i64 41)]
theorem qu4(i:Nat)(h:i<7) : ∃ v,I64 v/\qaj tb7 i 1=some [.lit (.int .i64 v)]:=by
 match i,h with
 |0,_=>exact⟨_,by unfold I64; omega,rfl⟩
 |1,_=>exact⟨_,by unfold I64; omega,rfl⟩
 |2,_=>exact⟨_,by unfold I64; omega,rfl⟩
 |3,_=>exact⟨_,by unfold I64; omega,rfl⟩
 |4,_=>exact⟨_,by unfold I64; omega,rfl⟩
 |5,_=>exact⟨_,by unfold I64; omega,rfl⟩
 |6,_=>exact⟨_,by unfold I64; omega,rfl⟩
theorem qu5(i:Nat)(h:i<5) : ∃ v,qaj tb5 i 1=some [.lit (.int .i64 v)]:=by
 match i,h with
 |0,_=>exact⟨_,rfl⟩
 |1,_=>exact⟨_,rfl⟩
 |2,_=>exact⟨_,rfl⟩
 |3,_=>exact⟨_,rfl⟩
 |4,_=>exact⟨_,rfl⟩
def qih(d:D)(N:Nat)(i:Int):Fr:=[(1,.dat d),(5,.own 0 N 1),(6,.int i)]
theorem qzx {d:D} {xs:List Int} (hd:IsRow d xs) (hx : ∀ x∈xs,I64 x) (N:Nat) (hN0:48<=N) (hN1:N<1000) (w:List Int) (hw:w.length=N) (i:Nat) (h1:i+1<xs.length) (h2:i<40) :
  ∃ w',w'.length=N/\Z qab (.loop 0 F47l0 (qih d N i) [.vec (qbz w)])=Z qab (.loop 0 F47l0 (qih d N (i+2:Nat)) [.vec (qbz w')]):=by
 have m0:=hx _ (qcN (xs:=xs) (i:=i) (by omega))
 have m1:=hx _ (qcN (xs:=xs) (i:=i+1) (by omega))
 have a0:=qed m0 (m:=N) (by omega)
 have a1:=qed m1 (m:=100000) (by omega)
 have b0:=around_lt m0 (m:=N) (by omega)
 have b1:=around_lt m1 (m:=100000) (by omega)
 have c0:=qaB xs i (by omega)
 have c1:=qaB xs (i+1) (by omega)
 have e0:=hd.at_ i (by omega) (by omega)
 have e1:=hd.at_ ((i:Int)+1) (by omega) (by omega)
 rw[show ((i:Int)).toNat=i by omega] at e0
 rw[show ((i:Int)+1).toNat=i+1 by omega] at e1
 generalize around (getN xs i) N=at' at a0 b0
 generalize around (getN xs (i+1)) 100000=n at a1 b1
 generalize getN xs i=x0 at *
 generalize getN xs (i+1)=x1 at *
 have r1:=qaL b1.1 (m:=41) (by omega)
 have q7:=qbw b1.1 (m:=7) (by omega)
 have r7:=qaL q7.1 (m:=7) (by omega)
 have r5:=qaL b1.1 (m:=5) (by omega)
 have w1:=qaf ((i:Int)+1) (by omega)
 have w2:=qaf ((i:Int)+2) (by omega)
 have w3:=qaf (n.tmod 41-20) (by omega)
 have w4:=qaf (n.tdiv 7) (by omega)
 obtain⟨v7,i7,hv7⟩:=qu4 ((n.tdiv 7).tmod 7).toNat (by omega)
 obtain⟨v5,hv5⟩:=qu5 (n.tmod 5).toNat (by omega)
 have f7:=qcG tb7 7 true _ r7.1 r7.2
 have f5:=qcG tb5 5 true _ r5.1 r5.2
 have fo:=qk1 0 N at' b0.1 b0.2
 have l1:(i:Int)+1<xs.length:=by omega
 have l2:(i:Int)<40:=by omega
 have hat:at'.toNat+1<=N:=by omega
 have fin : ∀ v,(qbz w).take at'.toNat++(V.int v::(qbz w).drop (at'.toNat+1))=qbz (w.set at'.toNat v):=fun v=>qbH w at'.toNat v (by omega)
 have g : ∀ v,I64 v -> ∃ u,Z qab (.call 17 [.int v,.int 24] [])=some (.ret (.int u) []):=fun v hv=>⟨_,qed hv (by omega)⟩
 obtain⟨u1,hu1⟩:=g (n.tmod 41-20) (by unfold I64; omega)
 obtain⟨u7,hu7⟩:=g v7 i7
 have key : ∃ v,Z qab (.loop 0 F47l0 (qih d N i) [.vec (qbz w)])=Z qab (.loop 0 F47l0 (qih d N (i+2:Nat)) [.vec (qbz (w.set at'.toNat v))]):=by
  rw[qac]
  simp only[tb7,tb5] at f7 f5 hv7 hv5
  have b00:=b0.1
  have b01:=b0.2
  rcases (by omega:at'=11\/at'=6\/at'=7\/at'=8\/(¬ at'=11 /\ ¬ at'=6 /\ ¬ at'=7 /\ ¬ at'=8)) with rfl|rfl|rfl|rfl|⟨k11,k6,k70,k8⟩
  ·simp only[Int.reduceToNat,Nat.reduceAdd] at fo hat fin
   by_cases k7:n.tmod 7=0
   ·refine⟨v5,?_⟩
    simp[qad,qbM,qih,Wa,hd.len,qbS,l1,l2,e0,e1,c0,c1,a0,a1,w1,w2,w3,w4,k7,f7,f5,hv7,hv5,fo,hat,fin,hw]
   ·refine⟨v5,?_⟩
    simp[qad,qbM,qih,Wa,hd.len,qbS,l1,l2,e0,e1,c0,c1,a0,a1,w1,w2,w3,w4,k7,f7,f5,hv7,hv5,fo,hat,fin,hw]
  ·simp only[Int.reduceToNat,Nat.reduceAdd] at fo hat fin
   by_cases k7:n.tmod 7=0
   ·refine⟨u7,?_⟩
    simp[qad,qbM,qih,Wa,hd.len,qbS,l1,l2,e0,e1,c0,c1,a0,a1,w1,w2,w3,w4,k7,f7,f5,hv7,hv5,fo,hat,fin,hw,hu7]
   ·refine⟨u1,?_⟩
    simp[qad,qbM,qih,Wa,hd.len,qbS,l1,l2,e0,e1,c0,c1,a0,a1,w1,w2,w3,w4,k7,f7,f5,hv7,hv5,fo,hat,fin,hw,hu1]
  ·simp only[Int.reduceToNat,Nat.reduceAdd] at fo hat fin
   by_cases k7:n.tmod 7=0
   ·refine⟨u7,?_⟩
    simp[qad,qbM,qih,Wa,hd.len,qbS,l1,l2,e0,e1,c0,c1,a0,a1,w1,w2,w3,w4,k7,f7,f5,hv7,hv5,fo,hat,fin,hw,hu7]
   ·refine⟨u1,?_⟩
    simp[qad,qbM,qih,Wa,hd.len,qbS,l1,l2,e0,e1,c0,c1,a0,a1,w1,w2,w3,w4,k7,f7,f5,hv7,hv5,fo,hat,fin,hw,hu1]
  ·simp only[Int.reduceToNat,Nat.reduceAdd] at fo hat fin
   by_cases k7:n.tmod 7=0
   ·refine⟨u7,?_⟩
    simp[qad,qbM,qih,Wa,hd.len,qbS,l1,l2,e0,e1,c0,c1,a0,a1,w1,w2,w3,w4,k7,f7,f5,hv7,hv5,fo,hat,fin,hw,hu7]
   ·refine⟨u1,?_⟩
    simp[qad,qbM,qih,Wa,hd.len,qbS,l1,l2,e0,e1,c0,c1,a0,a1,w1,w2,w3,w4,k7,f7,f5,hv7,hv5,fo,hat,fin,hw,hu1]
  ·by_cases k7:n.tmod 7=0
   ·refine⟨v7,?_⟩
    simp[qad,qbM,qih,Wa,hd.len,qbS,l1,l2,e0,e1,c0,c1,a0,a1,w1,w2,w3,w4,k7,f7,f5,hv7,hv5,fo,hat,fin,hw,k11,k6,k70,k8]
   ·refine⟨n.tmod 41-20,?_⟩
    simp[qad,qbM,qih,Wa,hd.len,qbS,l1,l2,e0,e1,c0,c1,a0,a1,w1,w2,w3,w4,k7,f7,f5,hv7,hv5,fo,hat,fin,hw,k11,k6,k70,k8]
 obtain⟨v,e⟩:=key
 exact⟨w.set at'.toNat v,by simp[hw],e⟩
theorem qxs {d:D} {xs:List Int} (hd:IsRow d xs) (N:Nat) (w:List Int) (i:Nat) (h : ¬ (i+1<xs.length/\i<40)) (hi:i<2^60) :
  Z qab (.loop 0 F47l0 (qih d N i) [.vec (qbz w)])=some (.out (.exit 0) (qih d N i++[(22,.bool false)]) [.vec (qbz w)]):=by
 have w1:=qaf ((i:Int)+1) (by omega)
 rw[qac]
 by_cases h1:(i:Int)+1<xs.length
 ·have h2 : ¬ (i:Int)<40:=by omega
  simp[qad,qbM,qih,Wa,hd.len,qbS,w1,h1,h2]
 ·simp[qad,qbM,qih,Wa,hd.len,qbS,w1,h1]
theorem qzy {d:D} {xs:List Int} (hd:IsRow d xs) (hx : ∀ x∈xs,I64 x) (N:Nat) (hN0:48<=N) (hN1:N<1000) (m:Nat) : ∀ (w:List Int) (i:Nat),w.length=N->42<=i+m->i<50 ->
  ∃ w' i',w'.length=N/\Z qab (.loop 0 F47l0 (qih d N i) [.vec (qbz w)])=some (.out (.exit 0) (qih d N (i':Nat)++[(22,.bool false)]) [.vec (qbz w')]):=by
 induction m with
 |zero=>intro w i hw hi hi2; exact⟨w,i,hw,qxs hd N w i (by omega) (by omega)⟩
 |succ m ih=>
  intro w i hw hi hi2
  by_cases h:i+1<xs.length/\i<40
  ·obtain⟨w',a1,a2⟩:=qzx hd hx N hN0 hN1 w hw i h.1 h.2
   obtain⟨w2,i2,b1,b2⟩:=ih w' (i+2) a1 (by omega) (by omega)
   exact⟨w2,i2,b1,by rw[a2]; exact b2⟩
  ·exact⟨w,i,hw,qxs hd N w i h (by omega)⟩
end
section
open F
def qwV:Ob := .cells [.dat (.lit (.slice none 0 0)),.int 0,.int 0,.int 0]
@[simp] theorem qsB(a:List (Nat × Int)):(qcu a).length=a.length*2:=by
 induction a with
 |nil=>rfl
 |cons x a ih=>simp only[qcu,List.flatMap_cons,Wb,Wd,Wj] at ih ⊢; omega
end
section
open F
def eS(e0 e1 e2:Int):List (Nat × Int)->S
 |[]=>[qwV,.cells [.dat (.lit (.slice none 0 0)),.int e0,.int e1,.int e2]]
 |x::c=>[qwV,.cells [.gsl (qcu (x::c)) (c.length+1) 2 2,.int e0,.int e1,.int e2],.tip ((c.length+1)*2)]
end
section
open F
theorem qjc(s:Su)(c:List (Nat × Int))(cs:List Int) : ∃ x1 x2 x3 x4,(qbY s c cs).e=[x1,x2,x3,x4]:=by
 unfold qbY
 split
 ·exact qmI _ _ _ _
 ·exact⟨_,_,_,_,rfl⟩
end
section
open F
structure Rg(cs:List Int)(N:Nat)(pc sp fuel v0 v1:Int):Prop where
 len:cs.length=N
 pc:getN cs 6=pc
 sp:getN cs 7=sp
 fu:getN cs 8=fuel
 v0:getN cs 16=v0
 v1:getN cs 17=v1
end
section
open F
structure Ef(cs:List Int)(cnt h:Int):Prop where
 t:getN cs 0=0
 c:getN cs 11=cnt
 h:getN cs 12=h
section
variable{s:Su}{d:D}{xs:List Int}{cs cs1 cs':List Int}{N:Nat}{lg lg1 lg':List D}{k k1 k' i:Nat}{K kind hash hash' v:Int}
set_option maxHeartbeats 8000000
end
end
section
open F
def rL(cs:List Int)(p:Int):List Int:=qaK (qaK (qaK cs 8 (wr (getN cs 8-1))) 6 (wr (getN cs 6+1))) 7 (getN cs 7-p)
@[simp] theorem qvM(cs:List Int)(p:Int):(rL cs p).length=cs.length:=by simp[rL]
set_option maxHeartbeats 8000000
end
section
inductive Bop where
 |add|sub|mul|div|lt|le|gt|ge|eq|ne|and|or
def Bop.str:Bop->ByteArray
 |.add=>⟨#[43]⟩ | .sub=>⟨#[45]⟩ | .mul=>⟨#[42]⟩ | .div=>⟨#[47]⟩
 |.lt=>⟨#[60]⟩ | .le=>⟨#[60,61]⟩ | .gt=>⟨#[62]⟩ | .ge=>⟨#[62,61]⟩ | .eq=>⟨#[61,61]⟩ | .ne=>⟨#[33,61]⟩
 |.and=>⟨#[38,38]⟩ | .or=>⟨#[124,124]⟩
def Bop.opd:Bop->Int
 |.and | .or=>2
 |_=>1
def Bop.res:Bop->Int
 |.add | .sub | .mul | .div=>1
 |_=>2
def ustr(neg:Bool):ByteArray:=if neg then ⟨#[45]⟩ else ⟨#[33]⟩
inductive E where
 |int (n:Int)
 |bool (n:Int)
 |var (s:ByteArray)
 |name (s:ByteArray)
 |field (f:Bool) (s:ByteArray) (e:E)
 |un (f:Bool) (neg:Bool) (e:E)
 |bin (f:Bool) (o:Bop) (a b:E)
def E.kind:E->Int
 |.int _=>8 | .bool _=>9 | .var _=>10 | .field .. => 11 | .name _=>12 | .un .. => 13 | .bin .. => 14
def E.num:E->Int
 |.int n=>n | .bool n=>n|_=>0
def E.str:E->ByteArray
 |.var s=>s | .name s=>s | .field _ s _=>s | .un _ neg _=>ustr neg | .bin _ o _ _=>o.str|_=>⟨#[]⟩
def E.kids:E->D
 |.field f _ e => .sl [.lit (.int .i64 e.kind),.lit (.int .i64 e.num),.lit (.string e.str),e.kids] 1 f
 |.un f _ e => .sl [.lit (.int .i64 e.kind),.lit (.int .i64 e.num),.lit (.string e.str),e.kids] 1 f
 |.bin f _ a b => .sl [.lit (.int .i64 a.kind),.lit (.int .i64 a.num),.lit (.string a.str),a.kids,.lit (.int .i64 b.kind),.lit (.int .i64 b.num),.lit (.string b.str),b.kids] 2 f
 |_ => .lit (.slice none 0 0)
@[simp] theorem qgd(e:E):V.one (.dat e.kids)=true:=by cases e<;>rfl
@[simp] theorem qd3(e:E):V.cells (.dat e.kids)=[.dat e.kids]:=by cases e<;>rfl
abbrev E.node(e:E):V := .dat (.agg [.lit (.int .i64 e.kind),.lit (.int .i64 e.num),.lit (.string e.str),e.kids])
def E.size:E->Nat
 |.field _ _ e=>e.size+1
 |.un _ _ e=>e.size+1
 |.bin _ _ a b=>a.size+b.size+1
 |_=>1
@[simp] theorem qrS(n:Int):E.size (.int n)=1:=rfl
@[simp] theorem qpF(n:Int):E.size (.bool n)=1:=rfl
@[simp] theorem qrT(s:ByteArray):E.size (.var s)=1:=rfl
@[simp] theorem qpG(s:ByteArray):E.size (.name s)=1:=rfl
@[simp] theorem qi7(f:Bool)(s:ByteArray)(e:E):E.size (.field f s e)=e.size+1:=rfl
@[simp] theorem qlV(f neg:Bool)(e:E):E.size (.un f neg e)=e.size+1:=rfl
@[simp] theorem qhp(f:Bool)(o:Bop)(a b:E):E.size (.bin f o a b)=a.size+b.size+1:=rfl
def E.ok:E->Prop
 |.var s=>s.size<=100
 |.field _ _ e=>e.ok
 |.un _ _ e=>e.ok
 |.bin _ _ a b=>a.ok/\b.ok
 |_=>True
def E.ty:E->Int
 |.int _ | .var _ | .name _=>1
 |.bool _=>2
 |.field _ _ e=>if e.ty=1 then 1 else 0
 |.un _ neg e=>if e.ty=(if neg then 1 else 2) then (if neg then 1 else 2) else 0
 |.bin _ o a b=>if a.ty=o.opd/\b.ty=o.opd then o.res else 0
@[simp] theorem qxV(n:Int):E.kind (.int n)=8:=rfl
@[simp] theorem qzj(n:Int):E.num (.int n)=n:=rfl
@[simp] theorem qzk(n:Int):E.str (.int n)=⟨#[]⟩:=rfl
@[simp] theorem qxW(n:Int):E.kids (.int n) = .lit (.slice none 0 0):=rfl
@[simp] theorem qzX(n:Int):E.ty (.int n)=1:=rfl
@[simp] theorem qxj(n:Int):E.kind (.bool n)=9:=rfl
@[simp] theorem qxX(n:Int):E.num (.bool n)=n:=rfl
@[simp] theorem qxY(n:Int):E.str (.bool n)=⟨#[]⟩:=rfl
@[simp] theorem qxk(n:Int):E.kids (.bool n) = .lit (.slice none 0 0):=rfl
@[simp] theorem qzl(n:Int):E.ty (.bool n)=2:=rfl
@[simp] theorem qxZ(s:ByteArray):E.kind (.var s)=10:=rfl
@[simp] theorem qzm(s:ByteArray):E.num (.var s)=0:=rfl
@[simp] theorem qzn(s:ByteArray):E.str (.var s)=s:=rfl
@[simp] theorem qx0(s:ByteArray):E.kids (.var s) = .lit (.slice none 0 0):=rfl
@[simp] theorem qzY(s:ByteArray):E.ty (.var s)=1:=rfl
@[simp] theorem qxl(s:ByteArray):E.kind (.name s)=12:=rfl
@[simp] theorem qx1(s:ByteArray):E.num (.name s)=0:=rfl
@[simp] theorem qx2(s:ByteArray):E.str (.name s)=s:=rfl
@[simp] theorem qxm(s:ByteArray):E.kids (.name s) = .lit (.slice none 0 0):=rfl
@[simp] theorem qzo(s:ByteArray):E.ty (.name s)=1:=rfl
@[simp] theorem qi8(f:Bool)(s:ByteArray)(e:E):E.kind (.field f s e)=11:=rfl
@[simp] theorem qk9(f:Bool)(s:ByteArray)(e:E):E.num (.field f s e)=0:=rfl
@[simp] theorem qla(f:Bool)(s:ByteArray)(e:E):E.str (.field f s e)=s:=rfl
@[simp] theorem qgG(f:Bool)(s:ByteArray)(e:E):E.kids (.field f s e) = .sl [.lit (.int .i64 e.kind),.lit (.int .i64 e.num),.lit (.string e.str),e.kids] 1 f:=rfl
@[simp] theorem qx3(f:Bool)(s:ByteArray)(e:E):E.ty (.field f s e)=if e.ty=1 then 1 else 0:=rfl
@[simp] theorem qeU(f:Bool)(neg:Bool)(e:E):E.kind (.un f neg e)=13:=rfl
@[simp] theorem qg3(f:Bool)(neg:Bool)(e:E):E.num (.un f neg e)=0:=rfl
@[simp] theorem qg4(f:Bool)(neg:Bool)(e:E):E.str (.un f neg e)=ustr neg:=rfl
@[simp] theorem qeh(f:Bool)(neg:Bool)(e:E):E.kids (.un f neg e) = .sl [.lit (.int .i64 e.kind),.lit (.int .i64 e.num),.lit (.string e.str),e.kids] 1 f:=rfl
@[simp] theorem qAE(f:Bool)(neg:Bool)(e:E):E.ty (.un f neg e)=if e.ty=(if neg then 1 else 2) then (if neg then 1 else 2) else 0:=rfl
@[simp] theorem qdK(f:Bool)(o:Bop)(a b:E):E.kind (.bin f o a b)=14:=rfl
@[simp] theorem qeV(f:Bool)(o:Bop)(a b:E):E.num (.bin f o a b)=0:=rfl
@[simp] theorem qeW(f:Bool)(o:Bop)(a b:E):E.str (.bin f o a b)=o.str:=rfl
@[simp] theorem qdb(f:Bool)(o:Bop)(a b:E):E.kids (.bin f o a b) = .sl [.lit (.int .i64 a.kind),.lit (.int .i64 a.num),.lit (.string a.str),a.kids,.lit (.int .i64 b.kind),.lit (.int .i64 b.num),.lit (.string b.str),b.kids] 2 f:=rfl
@[simp] theorem qzZ(f:Bool)(o:Bop)(a b:E):E.ty (.bin f o a b)=if a.ty=o.opd/\b.ty=o.opd then o.res else 0:=rfl
def kd(f:Bool):Nat->List D->D
 |0,_ => .lit (.slice none 0 0)
 |n+1,cs => .sl cs (n+1) f
@[simp] theorem qz0(f:Bool)(n:Nat)(cs:List D):V.one (.dat (kd f n cs))=true:=by cases n<;>rfl
@[simp] theorem qx4(f:Bool)(n:Nat)(cs:List D):V.cells (.dat (kd f n cs))=[.dat (kd f n cs)]:=by cases n<;>rfl
@[simp] theorem qz1(σ : S)(f:Bool)(n:Nat)(cs:List D):V.len σ .sl (.dat (kd f n cs))=some n:=by cases n<;>simp[kd,V.len]
@[simp] theorem qz2(f:Bool)(cs:List D):kd f 0 cs = .lit (.slice none 0 0):=rfl
@[simp] theorem qn7(f:Bool)(n:Nat)(cs:List D):kd f (n+1) cs = .sl cs (n+1) f:=rfl
inductive Fo where
 |nil
 |cons (k n:Int) (s:ByteArray) (f:Bool) (kids rest:Fo)
def Fo.len:Fo->Nat
 |.nil=>0
 |.cons _ _ _ _ _ r=>r.len+1
def Fo.cells:Fo->List D
 |.nil=>[]
 |.cons k n s f ks r => .lit (.int .i64 k) :: .lit (.int .i64 n) :: .lit (.string s)::kd f ks.len ks.cells::r.cells
def Fo.app:Fo->Fo->Fo
 |.nil,b=>b
 |.cons k n s f ks r,b => .cons k n s f ks (r.app b)
def Fo.size:Fo->Nat
 |.nil=>0
 |.cons _ _ _ _ ks r=>ks.size+r.size+1
@[simp] theorem qfe:Fo.len .nil=0:=rfl
@[simp] theorem qei(k n:Int)(s:ByteArray)(f:Bool)(ks r:Fo):(Fo.cons k n s f ks r).len=r.len+1:=rfl
@[simp] theorem qeX:Fo.cells .nil=[]:=rfl
@[simp] theorem qdc(k n:Int)(s:ByteArray)(f:Bool)(ks r:Fo):(Fo.cons k n s f ks r).cells = .lit (.int .i64 k) :: .lit (.int .i64 n) :: .lit (.string s)::kd f ks.len ks.cells::r.cells:=rfl
@[simp] theorem qcj:Fo.size .nil=0:=rfl
@[simp] theorem qaE(k n:Int)(s:ByteArray)(f:Bool)(ks r:Fo):(Fo.cons k n s f ks r).size=ks.size+r.size+1:=rfl
@[simp] theorem qvv(b:Fo):Fo.app .nil b=b:=rfl
@[simp] theorem quN(k n:Int)(s:ByteArray)(f:Bool)(ks r b:Fo):(Fo.cons k n s f ks r).app b = .cons k n s f ks (r.app b):=rfl
theorem qi9(a b:Fo):(a.app b).len=a.len+b.len:=by induction a with
 |nil=>simp
 |cons k n s f ks r _ ih=>simp[ih]; omega
theorem qlb(a b:Fo):(a.app b).cells=a.cells++b.cells:=by induction a with
 |nil=>simp
 |cons k n s f ks r _ ih=>simp[ih]
theorem qdy(a:Fo):a.len<=a.size:=by induction a with
 |nil=>simp
 |cons k n s f ks r _ ih=>simp; omega
abbrev nd(k n:Int)(s:ByteArray)(f:Bool)(ks:Fo):V := .dat (.agg [.lit (.int .i64 k),.lit (.int .i64 n),.lit (.string s),kd f ks.len ks.cells])
def Fo.hk:Fo->Int
 |.nil=>0
 |.cons k _ _ _ _ _=>k
def Fo.hn:Fo->Int
 |.nil=>0
 |.cons _ n _ _ _ _=>n
def Fo.hs:Fo->ByteArray
 |.nil=>⟨#[]⟩
 |.cons _ _ s _ _ _=>s
def Fo.hf:Fo->Bool
 |.nil=>false
 |.cons _ _ _ f _ _=>f
def Fo.hks:Fo->Fo
 |.nil => .nil
 |.cons _ _ _ _ ks _=>ks
def Fo.tl:Fo->Fo
 |.nil => .nil
 |.cons _ _ _ _ _ r=>r
abbrev Fo.hd(a:Fo):V:=nd a.hk a.hn a.hs a.hf a.hks
def E.flag:E->Bool
 |.field f _ _=>f | .un f _ _=>f | .bin f _ _ _=>f|_=>false
def E.fo:E->Fo->Fo
 |.int n,r => .cons 8 n ⟨#[]⟩ false .nil r
 |.bool n,r => .cons 9 n ⟨#[]⟩ false .nil r
 |.var s,r => .cons 10 0 s false .nil r
 |.name s,r => .cons 12 0 s false .nil r
 |.field f s e,r => .cons 11 0 s f (e.fo .nil) r
 |.un f neg e,r => .cons 13 0 (ustr neg) f (e.fo .nil) r
 |.bin f o a b,r => .cons 14 0 o.str f (a.fo (b.fo .nil)) r
def E.kfo:E->Fo
 |.field _ _ e=>e.fo .nil | .un _ _ e=>e.fo .nil | .bin _ _ a b=>a.fo (b.fo .nil) | _ => .nil
theorem qia(e:E)(r:Fo):e.fo r = .cons e.kind e.num e.str e.flag e.kfo r:=by cases e<;>rfl
theorem qpH(e:E):e.kids=kd e.flag e.kfo.len e.kfo.cells:=by
 induction e with
 |field f s e ih=>
  show (E.field f s e).kids=kd f (e.fo .nil).len (e.fo .nil).cells
  rw[qia]
  simp only[qgG,qei,qfe,qn7,qdc,qeX,<- ih]
 |un f neg e ih=>
  show (E.un f neg e).kids=kd f (e.fo .nil).len (e.fo .nil).cells
  rw[qia]
  simp only[qeh,qei,qfe,qn7,qdc,qeX,<- ih]
 |bin f o a b iha ihb=>
  show (E.bin f o a b).kids=kd f (a.fo (b.fo .nil)).len (a.fo (b.fo .nil)).cells
  rw[qia,qia]
  simp only[qdb,qei,qfe,qn7,qdc,qeX,<- iha,<- ihb]
 |_=>rfl
theorem qej(e:E)(r:Fo):(e.fo r).size=e.size+r.size:=by
 induction e generalizing r<;>simp only[E.fo,E.size,qaE,qcj, *]<;>omega
@[simp] theorem qAF(e:E)(r:Fo):(e.fo r).tl=r:=by rw[qia]; rfl
inductive Ss where
 |nil
 |assign (f:Bool) (s:ByteArray) (e:E) (r:Ss)
 |store (f:Bool) (s:ByteArray) (a b:E) (r:Ss)
 |effect (f:Bool) (a b:E) (r:Ss)
 |stop (r:Ss)
 |cond (w:Bool) (f:Bool) (c:E) (b:Ss) (r:Ss)
 |block (f:Bool) (b:Ss) (r:Ss)
def qrU:ByteArray:=⟨#[104,105,116]⟩
def qsQ:ByteArray:=⟨#[115,116,105,108,108]⟩
def Ss.well:Ss->Bool
 |.nil=>true
 |.assign _ _ e r=>decide (e.ty=1)&&r.well
 |.store _ s a b r=>(!(eqS s qrU||eqS s qsQ)&&(decide (a.ty=1)&&decide (b.ty=1)))&&r.well
 |.effect _ a b r=>(decide (a.ty=1)&&decide (b.ty=1))&&r.well
 |.stop r=>r.well
 |.cond _ _ c b r=>(decide (c.ty=2)&&b.well)&&r.well
 |.block _ b r=>b.well&&r.well
def Ss.ok:Ss->Prop
 |.nil=>True
 |.assign _ s e r=>s.size<=100/\e.ok/\r.ok
 |.store _ _ a b r=>a.ok/\b.ok/\r.ok
 |.effect _ a b r=>a.ok/\b.ok/\r.ok
 |.stop r=>r.ok
 |.cond _ _ c b r=>c.ok/\b.ok/\r.ok
 |.block _ b r=>b.ok/\r.ok
def Ss.fo:Ss->Fo
 |.nil => .nil
 |.assign f s e r => .cons 1 0 s f (e.fo .nil) r.fo
 |.store f s a b r => .cons 2 0 s f (a.fo (b.fo .nil)) r.fo
 |.effect f a b r => .cons 5 0 ⟨#[]⟩ f (a.fo (b.fo .nil)) r.fo
 |.stop r => .cons 6 0 ⟨#[]⟩ false .nil r.fo
 |.cond w f c b r => .cons (if w then 4 else 3) 0 ⟨#[]⟩ f (c.fo b.fo) r.fo
 |.block f b r => .cons 7 0 ⟨#[]⟩ f b.fo r.fo
theorem qzp{cs r:List D}{o:Nat}{a b c d:D}(h:cs.drop o=a::b::c::d::r):qaj cs o 4=some [a,b,c,d]:=by
 unfold qaj
 rw[h]
 simp
@[simp] theorem qAG(e:E)(r:Fo):(e.fo r).hk=e.kind:=by rw[qia]; rfl
@[simp] theorem qAH(e:E)(r:Fo):(e.fo r).hn=e.num:=by rw[qia]; rfl
@[simp] theorem qAI(e:E)(r:Fo):(e.fo r).hs=e.str:=by rw[qia]; rfl
@[simp] theorem qz3(e:E)(r:Fo):kd (e.fo r).hf (e.fo r).hks.len (e.fo r).hks.cells=e.kids:=by rw[qia,qpH]; rfl
@[simp] theorem qz4(e:E)(r:Fo):(e.fo r).len=r.len+1:=by rw[qia]; rfl
@[simp] theorem qx5(e:E)(r:Fo):(e.fo r).cells = .lit (.int .i64 e.kind) :: .lit (.int .i64 e.num) :: .lit (.string e.str)::e.kids::r.cells:=by rw[qia,qpH]; rfl
@[simp] theorem qz5:Fo.hk .nil=0:=rfl
@[simp] theorem qz6:Fo.hn .nil=0:=rfl
@[simp] theorem qz7:Fo.hs .nil=⟨#[]⟩:=rfl
@[simp] theorem qz8:Fo.hf .nil=false:=rfl
@[simp] theorem qzq:Fo.hks .nil = .nil:=rfl
def qbJ(ss:List ByteArray):List D:=ss.map fun s => .lit (.string s)
theorem qge(ss:List ByteArray)(i:Nat)(h:i<ss.length):qaj (qbJ ss) i 1=some [.lit (.string ss[i])]:=by
 unfold qaj qbJ
 rw[WC (by simpa using h)]
 simp
theorem qaF(a b:ByteArray):eqS a b=decide (a=b):=by
 rw[Bool.eq_iff_iff]
 simp only[eqS,beq_iff_eq,decide_eq_true_eq,ByteArray.toList_eq]
 exact⟨fun h=>by cases a; cases b; simp only[Array.toList_inj] at h; rw[h],fun h=>by rw[h]⟩
instance:LawfulBEq ByteArray where
 eq_of_beq h:=by rw[qdZ] at h; exact of_decide_eq_true h
 rfl:=by intro a; rw[qdZ]; exact decide_eq_true rfl
def qlW:List ByteArray->D
 |[] => .lit (.slice none 0 0)
 |s::l => .sl (qbJ (s::l)) (l.length+1) false
@[simp] theorem qx6(l:List ByteArray):V.one (.dat (qlW l))=true:=by cases l<;>rfl
@[simp] theorem qvw(l:List ByteArray):V.cells (.dat (qlW l))=[.dat (qlW l)]:=by cases l<;>rfl
@[simp] theorem qx7(σ : S)(l:List ByteArray):V.len σ .sl (.dat (qlW l))=some l.length:=by cases l<;>simp[qlW,V.len]
@[simp] theorem qx8(l:List ByteArray):(qbJ l).length=l.length:=by simp[qbJ]
def Fo.vars:Fo->List ByteArray
 |.nil=>[]
 |.cons k _ s _ ks r=>(if k=1\/k=10 then [s] else [])++(ks.vars++r.vars)
def qpI(l:List ByteArray)(s:ByteArray):List ByteArray:=if s∈l then l else l++[s]
def addAll(l:List ByteArray)(xs:List ByteArray):List ByteArray:=xs.foldl qpI l
theorem qcI(l a b:List ByteArray):addAll l (a++b)=addAll (addAll l a) b:=by simp[addAll,List.foldl_append]
theorem qrV(l:List ByteArray)(s:ByteArray):l.length<=(qpI l s).length/\(qpI l s).length<=l.length+1:=by
 unfold qpI
 split<;>simp
theorem qcn(xs:List ByteArray) : ∀ l,l.length<=(addAll l xs).length/\(addAll l xs).length<=l.length+xs.length:=by
 induction xs with
 |nil=>intro l; simp[addAll]
 |cons x xs ih=>
  intro l
  have:=ih (qpI l x)
  have h2:=qrV l x
  simp only[addAll,W3,Wd] at this ⊢
  omega
theorem qhq(a:Fo):a.vars.length<=a.size:=by
 induction a with
 |nil=>simp[Fo.vars]
 |cons k n s f ks r ih1 ih2=>
  simp only[Fo.vars,Wb,qaE]
  split<;>simp<;>omega
theorem qib{cs r:List D}{i:Nat}{a b c d:D}(h:cs.drop (i*4)=a::b::c::d::r):cs.drop ((i+1)*4)=r:=by
 rw[show (i+1)*4=i*4+4 by omega,<- List.drop_drop,h]
 rfl
theorem quO{l:List ByteArray}(h:l≠[]):qlW l = .sl (qbJ l) l.length false:=by
 cases l with
 |nil=>exact absurd rfl h
 |cons s l=>rfl
theorem qmY(s:ByteArray):qbJ [s]=[.lit (.string s)]:=rfl
theorem qrW(a b:List ByteArray):qbJ (a++b)=qbJ a++qbJ b:=by simp[qbJ]
structure Nd where
 k:Int
 n:Int
 s:ByteArray
 f:Bool
 ks:Fo
abbrev Nd.v(a:Nd):V:=nd a.k a.n a.s a.f a.ks
def Nd.vars(a:Nd):List ByteArray:=(if a.k=1\/a.k=10 then [a.s] else [])++a.ks.vars
abbrev Nd.d(a:Nd):D:=kd a.f a.ks.len a.ks.cells
theorem qek(a:Nd):a.vars.length<=a.ks.size+1:=by
 have h:=qhq a.ks
 unfold Nd.vars
 rw[Wb]
 split<;>simp<;>omega
abbrev ru(a b c:Nd):D := .agg [.lit (.int .i64 a.k),.lit (.int .i64 a.n),.lit (.string a.s),a.d,.lit (.int .i64 b.k),.lit (.int .i64 b.n),.lit (.string b.s),b.d,.lit (.int .i64 c.k),.lit (.int .i64 c.n),.lit (.string c.s),c.d]
def rvars(a b c:Nd):List ByteArray:=addAll [] (a.vars++(b.vars++c.vars))
inductive Hd where
 |none
 |some (f:Bool) (b:Ss)
def Hd.k:Hd->Int
 |.none=>0
 |.some _ _=>7
def Hd.f:Hd->Bool
 |.none=>false
 |.some f _=>f
def Hd.ks:Hd->Fo
 |.none => .nil
 |.some _ b=>b.fo
def Hd.nd(h:Hd):Nd:=⟨h.k,0,⟨#[]⟩,h.f,h.ks⟩
@[simp] theorem qzr(h:Hd):h.nd.k=h.k:=rfl
@[simp] theorem qz9(h:Hd):h.nd.n=0:=rfl
@[simp] theorem qzs(h:Hd):h.nd.s=⟨#[]⟩:=rfl
@[simp] theorem qAa(h:Hd):h.nd.f=h.f:=rfl
@[simp] theorem qrX(h:Hd):h.nd.ks=h.ks:=rfl
def Hd.well:Hd->Bool
 |.none=>true
 |.some _ b=>b.well
abbrev qpJ(a b c:Nd):Ob := .cells [.int a.k,.int a.n,.str a.s,.dat a.d,.int b.k,.int b.n,.str b.s,.dat b.d,.int c.k,.int c.n,.str c.s,.dat c.d]
def Ss.app:Ss->Ss->Ss
 |.nil,b=>b
 |.assign f s e r,b => .assign f s e (r.app b)
 |.store f s x y r,b => .store f s x y (r.app b)
 |.effect f x y r,b => .effect f x y (r.app b)
 |.stop r,b => .stop (r.app b)
 |.cond w f c q r,b => .cond w f c q (r.app b)
 |.block f q r,b => .block f q (r.app b)
theorem qsR(a b:Ss):(a.app b).fo=a.fo.app b.fo:=by
 induction a<;>simp_all [Ss.app,Ss.fo]
end
section
def qa7(c:UInt8):Bool:=decide (97<=c.toNat)&&decide (c.toNat<=122)
def qau(c:UInt8):Bool:=decide (48<=c.toNat)&&decide (c.toNat<=57)
def qij(s:ByteArray):Nat->Bool->Nat->Nat
 |0,_,i=>i
 |n+1,c,i=>match s[i]? with
  |none=>i
  |some b=>if b.toNat=10 then qij s n false (i+1) else if c=true\/b.toNat=32\/b.toNat=9 then qij s n c (i+1) else if b.toNat=35 then qij s n true (i+1) else i
def qs3(p:UInt8->Bool)(s:ByteArray):Nat->Nat->Nat
 |0,i=>i
 |n+1,i=>match s[i]? with
  |none=>i
  |some b=>if p b then qs3 p s n (i+1) else i
def qay(c:UInt8):Bool:=qa7 c||qau c
def digV(l:List UInt8):Nat:=l.foldl (fun v c=>10*v+(c.toNat-48)) 0
structure Tk where
 at_:Nat
 s:ByteArray
 bad:Nat
def bs(l:List UInt8):ByteArray:=⟨l.toArray⟩
def fieldNames:List ByteArray:=[bs [120],bs [121],bs [118,120],bs [118,121],bs [97],bs [98],qrU,qsQ]
def wordNames:List ByteArray:=[bs [111,110],bs [97,99,116],bs [116,105,99,107],qrU,bs [105,102],bs [101,108,115,101],bs [119,104,105,108,101],bs [101,102,102,101,99,116],bs [115,116,111,112],bs [116,114,117,101],bs [102,97,108,115,101],bs [115,101,108,102],bs [111,116,104,101,114]]
def qen:List ByteArray:=[bs [124,124],bs [38,38],bs [60,61],bs [62,61],bs [61,61],bs [33,61]]
def qkb:List Nat:=[123,125,91,93,40,41,61,59,44,60,62,43,45,42,47,33]
def qgn(eS eL eR:Nat)(s:ByteArray)(i:Nat):Tk:=match s[i]? with
 |none=>⟨i,⟨#[]⟩,0⟩
 |some c=>
  if qa7 c then
   let w:=s.extract i (qs3 qay s (s.size-i) i)
   ⟨i,w,if 8<w.size/\w∉fieldNames/\w∉wordNames then eL else 0⟩
  else if qau c then
   let w:=s.extract i (qs3 qau s (s.size-i) i)
   ⟨i,w,if 2147483647<digV w.toList then eR else 0⟩
  else if i+2<=s.size/\s.extract i (i+2)∈qen then ⟨i,s.extract i (i+2),0⟩
  else if c.toNat∈qkb then ⟨i,s.extract i (i+1),0⟩
  else ⟨i,s.extract i (i+1),eS⟩
def qdC(eS eL eR:Nat)(s:ByteArray):Nat->Nat->List Tk
 |0,i=>[⟨i,⟨#[]⟩,0⟩]
 |n+1,i=>
  let t:=qgn eS eL eR s (qij s (s.size-i) false i)
  if t.bad≠0\/t.s.size=0 then [t] else t::qdC eS eL eR s n (t.at_+t.s.size)
inductive Rz(α : Type) where
 |ok (a : α) (r:List Tk)
 |er (i c:Nat)
def nx:List Tk->Option ByteArray
 |t::_=>if t.bad=0 then some t.s else none
 |[]=>none
def Rz.bind{α β : Type}:Rz α -> (α -> List Tk->Rz β)->Rz β
 |.ok a r,k=>k a r
 |.er i c,_ => .er i c
def qp6(prec:Nat)(s:ByteArray):Option Bop:=
 let l:List Bop:=match prec with
  |1=>[.or] | 2=>[.and] | 4=>[.lt,.le,.gt,.ge,.eq,.ne] | 5=>[.add,.sub] | 6=>[.mul,.div] | _=>[]
 l.find? fun o=>decide (o.str=s)
def qaJ(p:UInt8->Bool)(s:ByteArray):Bool:=match s[0]? with
 |some c=>p c
 |none=>false
end
section
def qe6(s:ByteArray):Option Nat:=
 if s=bs [97,99,116] then some 0 else if s=bs [116,105,99,107] then some 1 else if s=qrU then some 2 else none
end
section
def Fin{α : Type}(m:Nat)(x:Option (Rz α)):Prop := ∃ y,x=some y /\ ∀ a r,y = .ok a r->r.length<=m
end
section
abbrev byl(s:ByteArray):List UInt8:=s.data.toList
theorem qbg(l:List UInt8):byl (bs l)=l:=by simp[byl,bs]
theorem qdz(s:ByteArray):bs (byl s)=s:=by cases s; simp[bs,byl]
theorem qaW(s:ByteArray):(byl s).length=s.size:=WA
theorem qa1(l:List UInt8):(bs l).size=l.length:=rfl
theorem qsS{a b:List UInt8}(h:bs a=bs b):a=b:=by rw[<- qbg a,h,qbg]
theorem qlX{a b:ByteArray}(h:byl a=byl b):a=b:=by rw[<- qdz a,h,qdz]
theorem qgH(s:ByteArray)(i:Nat):s[i]?=((byl s).drop i).head?:=by
 rw[List.head?_drop]
 by_cases h:i<s.size
 ·rw[getElem?_pos s i h,WG (by rw[qaW]; exact h)]
  simp[byl,ByteArray.getElem_eq_getElem_data]
 ·rw[getElem?_neg s i h,W0 (by rw[qaW]; omega)]
theorem qco(s:ByteArray)(i k:Nat):s.extract i (i+k)=bs (((byl s).drop i).take k):=by
 apply qlX
 rw[qbg]
 simp only[byl,ByteArray.data_extract,Array.toList_extract,List.extract_eq_take_drop]
 rw[show i+k-i=k by omega]
def qa4:Bool->List UInt8->Nat
 |_,[]=>0
 |c,b::r=>if b.toNat=10 then qa4 false r+1 else if c=true\/b.toNat=32\/b.toNat=9 then qa4 c r+1 else if b.toNat=35 then qa4 true r+1 else 0
def qbO(p:UInt8->Bool):List UInt8->Nat
 |[]=>0
 |b::r=>if p b then qbO p r+1 else 0
theorem qhr : ∀ (l:List UInt8) (c:Bool),qa4 c l<=l.length
 |[],c=>by simp[qa4]
 |b::r,c=>by
  have h1:=qhr r false
  have h2:=qhr r c
  have h3:=qhr r true
  simp only[qa4,Wd]
  split
  ·omega
  split
  ·omega
  split<;>omega
theorem qfD(p:UInt8->Bool) : ∀ l:List UInt8,qbO p l<=l.length
 |[]=>by simp[qbO]
 |b::r=>by
  have h1:=qfD p r
  simp only[qbO,Wd]
  split<;>omega
def tokL(eS eL eR:Nat):List UInt8->List UInt8 × Nat
 |[]=>([],0)
 |c::r=>
  if qa7 c then ((c::r).take (qbO qay (c::r)),if 8<qbO qay (c::r)/\bs ((c::r).take (qbO qay (c::r)))∉fieldNames/\bs ((c::r).take (qbO qay (c::r)))∉wordNames then eL else 0)
  else if qau c then ((c::r).take (qbO qau (c::r)),if 2147483647<digV ((c::r).take (qbO qau (c::r))) then eR else 0)
  else if bs ((c::r).take 2)∈qen then ((c::r).take 2,0)
  else if c.toNat∈qkb then ([c],0)
  else ([c],eS)
def qsT(eS eL eR:Nat):Nat->Nat->List UInt8->List Tk
 |0,i,_=>[⟨i,⟨#[]⟩,0⟩]
 |n+1,i,l=>
  if (tokL eS eL eR (l.drop (qa4 false l))).2≠0\/(tokL eS eL eR (l.drop (qa4 false l))).1.length=0 then [⟨i+qa4 false l,bs (tokL eS eL eR (l.drop (qa4 false l))).1,(tokL eS eL eR (l.drop (qa4 false l))).2⟩]
  else ⟨i+qa4 false l,bs (tokL eS eL eR (l.drop (qa4 false l))).1,(tokL eS eL eR (l.drop (qa4 false l))).2⟩::qsT eS eL eR n (i+qa4 false l+(tokL eS eL eR (l.drop (qa4 false l))).1.length) ((l.drop (qa4 false l)).drop (tokL eS eL eR (l.drop (qa4 false l))).1.length)
theorem qj6(s:ByteArray) : ∀ (n:Nat) (c:Bool) (i:Nat),s.size-i<=n->qij s n c i=i+qa4 c ((byl s).drop i)
 |0,c,i,h=>by
  have:(byl s).drop i=[]:=WY (by rw[qaW]; omega)
  rw[this]
  simp[qij,qa4]
 |n+1,c,i,h=>by
  rw[qij,qgH]
  cases hd:(byl s).drop i with
  |nil=>simp[qa4]
  |cons b r=>
   have hr:(byl s).drop (i+1)=r:=by rw[<- List.drop_drop,hd]; rfl
   have ih:=fun c=>qj6 s n c (i+1) (by omega)
   simp only[List.head?_cons,qa4,ih,hr]
   split
   ·omega
   split
   ·omega
   split<;>omega
theorem qpN(p:UInt8->Bool)(s:ByteArray) : ∀ (n i:Nat),s.size-i<=n->qs3 p s n i=i+qbO p ((byl s).drop i)
 |0,i,h=>by
  have:(byl s).drop i=[]:=WY (by rw[qaW]; omega)
  rw[this]
  simp[qs3,qbO]
 |n+1,i,h=>by
  rw[qs3,qgH]
  cases hd:(byl s).drop i with
  |nil=>simp[qbO]
  |cons b r=>
   have hr:(byl s).drop (i+1)=r:=by rw[<- List.drop_drop,hd]; rfl
   have ih:=qpN p s n (i+1) (by omega)
   simp only[List.head?_cons,qbO,ih,hr]
   split<;>omega
theorem qff{w:ByteArray}(h:w∈qen):w.size=2:=by
 simp only[qen,Wp,Ws,or_false] at h
 rcases h with h|h|h|h|h|h<;>rw[h]<;>rfl
theorem qfg(eS eL eR:Nat)(s:ByteArray)(i:Nat):qgn eS eL eR s i=⟨i,bs (tokL eS eL eR ((byl s).drop i)).1,(tokL eS eL eR ((byl s).drop i)).2⟩:=by
 unfold qgn
 rw[qgH]
 cases hd:(byl s).drop i with
 |nil=>rfl
 |cons c r=>
  have hlen:s.size-i=r.length+1:=by
   have:=congrArg List.length hd
   rw[W5,qaW,Wd] at this
   exact this
  have e1 : ∀ p,s.extract i (qs3 p s (s.size-i) i)=bs ((c::r).take (qbO p (c::r))):=fun p=>by
   rw[qpN p s _ i (Wi _),qco,hd]
  have e2:s.extract i (i+2)=bs ((c::r).take 2):=by rw[qco,hd]
  have e3:s.extract i (i+1)=bs [c]:=by rw[qco,hd]; rfl
  have hw : ∀ p,((c::r).take (qbO p (c::r))).length=qbO p (c::r):=fun p=>by
   rw[WL,Nat.min_eq_left (qfD p _)]
  simp only[List.head?_cons,e1,e2,e3,tokL,qa1,hw,qbg,ByteArray.toList_eq]
  split
  ·rfl
  split
  ·simp[bs]
  have e4:(i+2<=s.size/\bs ((c::r).take 2)∈qen)↔bs ((c::r).take 2)∈qen:=by
   refine⟨fun h=>h.2,fun h=>⟨?_,h⟩⟩
   have:=qff h
   rw[qa1,WL,Wd] at this
   omega
  simp only[e4]
  split
  ·rfl
  split<;>rfl
theorem qm0(eS eL eR:Nat)(s:ByteArray) : ∀ (n i:Nat),qdC eS eL eR s n i=qsT eS eL eR n i ((byl s).drop i)
 |0,i=>rfl
 |n+1,i=>by
  rw[qdC,qsT]
  simp only[qj6 s _ false i (Wi _),qfg,qa1,<- List.drop_drop,qm0 eS eL eR s n,List.drop_drop]
end
section
def qb3(p:Bool)(t:ByteArray):Bool:=match (byl t).getLast? with
 |some c=>qay c
 |none=>p
def gap(p:Bool)(t:ByteArray):List UInt8:=if p&&qaJ qay t then [32] else []
def qaI:Bool->List ByteArray->List UInt8
 |_,[]=>[]
 |p,t::ts=>gap p t++(byl t++qaI (qb3 p t) ts)
def qq4(p:Bool)(ts:List ByteArray):Bool:=ts.foldl qb3 p
theorem qee : ∀ (a b:List ByteArray) (p:Bool),qaI p (a++b)=qaI p a++qaI (qq4 p a) b
 |[],b,p=>rfl
 |t::a,b,p=>by simp only[Wh,qaI,qee a b,Wo,qq4,W3]
theorem qbr(p:UInt8->Bool)(t:ByteArray):qaJ p t=match (byl t).head? with|some c=>p c|none=>false:=by
 unfold qaJ
 rw[qgH,WT]
 all_goals (cases (byl t).head?<;>rfl)
def Tg(w:List UInt8):Prop:=
 (∃ c r,w=c::r/\qa7 c=true/\(∀ b∈r,qay b=true) /\ ¬ (8<w.length/\bs w∉fieldNames/\bs w∉wordNames)) \/
 (∃ c r,w=c::r/\qau c=true/\(∀ b∈r,qau b=true)/\digV w<=2147483647) \/
 bs w∈qen \/ ∃ c,w=[c]/\c.toNat∈qkb
def Fol:List UInt8->List UInt8->Prop
 |c::r,d::_=>if qa7 c then qay d=false else if qau c then qau d=false else r=[]->bs [c,d]∉qen
 |_,_=>True
theorem qjO(p:UInt8->Bool) : ∀ (w r:List UInt8),(∀ b∈w,p b=true)->(∀ d,r.head?=some d->p d=false)->qbO p (w++r)=w.length
 |[],[],_,_=>rfl
 |[],d::r,_,h=>by simp[qbO,h d rfl]
 |b::w,r,h,h2=>by
  simp only[Wh,qbO,h b (WQ ..),if_true,Wd]
  rw[qjO p w r (fun x hx=>h x (Wz _ hx)) h2]
theorem qmD{c:UInt8}(h:qa7 c=true):qay c=true:=by simp[qay,h]
theorem qmE{c:UInt8}(h:qau c=true):qay c=true:=by simp[qay,h]
theorem pair_cases{w:List UInt8}(h:bs w∈qen):w=[124,124]\/w=[38,38]\/w=[60,61]\/w=[62,61]\/w=[61,61]\/w=[33,61]:=by
 simp only[qen,Wp,Ws,or_false] at h
 rcases h with h|h|h|h|h|h<;>have:=qsS h<;>simp[this]
theorem qeI{c:UInt8}(h:c.toNat∈qkb):c=123\/c=125\/c=91\/c=93\/c=40\/c=41\/c=61\/c=59\/c=44\/c=60\/c=62\/c=43\/c=45\/c=42\/c=47\/c=33:=by
 simp only[qkb,Wp,Ws,or_false] at h
 simp only[<- UInt8.toNat_inj]
 exact h
theorem qo2(eS eL eR:Nat){w rest:List UInt8}(h:Tg w)(hf:Fol w rest):tokL eS eL eR (w++rest)=(w,0):=by
 have take_len : ∀ k,k=w.length->(w++rest).take k=w:=fun k hk=>by rw[hk,List.take_left]
 rcases h with ⟨c,r,rfl,hc,hr,hb⟩|⟨c,r,rfl,hc,hr,hb⟩|hp|⟨c,rfl,hc⟩
 ·have hrun:qbO qay (c::r++rest)=(c::r).length:=by
   apply qjO
   ·intro b hb'
    rcases Wp.1 hb' with rfl|hb'
    ·exact qmD hc
    ·exact hr b hb'
   ·intro d hd
    cases rest with
    |nil=>cases hd
    |cons e rest=>
     cases hd
     simp only[Fol,hc,if_true] at hf
     exact hf
  have ht:=take_len _ rfl
  simp only[Wh] at hrun ht ⊢
  simp only[tokL,hc,if_true,hrun,ht,if_neg hb]
 ·have hnl:qa7 c=false:=by
   simp only[qau,qa7,Wq,decide_eq_true_eq,WZ,decide_eq_false_iff_not] at hc ⊢
   omega
  have hrun:qbO qau (c::r++rest)=(c::r).length:=by
   apply qjO
   ·intro b hb'
    rcases Wp.1 hb' with rfl|hb'
    ·exact hc
    ·exact hr b hb'
   ·intro d hd
    cases rest with
    |nil=>cases hd
    |cons e rest=>
     cases hd
     simp only[Fol,hc,hnl,if_true] at hf
     exact hf
  have ht:=take_len _ hrun
  simp only[Wh] at hrun ht ⊢
  simp only[tokL,hc,hnl,if_true,ht,if_neg (Nat.not_lt.2 hb)]
  simp
 ·rcases pair_cases hp with rfl|rfl|rfl|rfl|rfl|rfl<;>simp[tokL,qa7,qau,hp]
 ·have h2:bs ((c::rest).take 2)∉qen:=by
   cases rest with
   |nil=>intro h; have:=qff h; rw[qa1] at this; simp at this
   |cons d rest=>
    have hl:qa7 c=false/\qau c=false:=by rcases qeI hc with rfl|rfl|rfl|rfl|rfl|rfl|rfl|rfl|rfl|rfl|rfl|rfl|rfl|rfl|rfl|rfl<;>exact⟨rfl,rfl⟩
    simp only[Fol,hl.1,hl.2] at hf
    simpa using hf
  have hl:qa7 c=false/\qau c=false:=by rcases qeI hc with rfl|rfl|rfl|rfl|rfl|rfl|rfl|rfl|rfl|rfl|rfl|rfl|rfl|rfl|rfl|rfl<;>exact⟨rfl,rfl⟩
  simp only[Wh,Wg,tokL,hl.1,hl.2,if_neg h2,if_pos hc,Wm,if_false]
theorem qeJ{w:List UInt8}(h:Tg w) : ∃ c r,w=c::r/\c.toNat≠10/\c.toNat≠32/\c.toNat≠9/\c.toNat≠35:=by
 rcases h with ⟨c,r,rfl,hc,hr,hb⟩|⟨c,r,rfl,hc,hr,hb⟩|hp|⟨c,rfl,hc⟩
 ·simp only[qa7,Wq,decide_eq_true_eq] at hc
  exact⟨c,r,rfl,by omega,by omega,by omega,by omega⟩
 ·simp only[qau,Wq,decide_eq_true_eq] at hc
  exact⟨c,r,rfl,by omega,by omega,by omega,by omega⟩
 ·rcases pair_cases hp with rfl|rfl|rfl|rfl|rfl|rfl<;>exact⟨_,_,rfl,by decide,by decide,by decide,by decide⟩
 ·rcases qeI hc with rfl|rfl|rfl|rfl|rfl|rfl|rfl|rfl|rfl|rfl|rfl|rfl|rfl|rfl|rfl|rfl<;>exact⟨_,_,rfl,by decide,by decide,by decide,by decide⟩
def Adj(t u:ByteArray):Prop:=(t≠bs [60]/\t≠bs [62]/\t≠bs [61]/\t≠bs [33])\/(byl u).head?≠some 61
def Ok2:List ByteArray->Prop
 |[]=>True
 |t::r=>Tg (byl t)/\(∀ u,r.head?=some u->Adj t u)/\Ok2 r
theorem qo3{w:List UInt8}{p:Bool}(h:bs w∈qen \/ ∃ c,w=[c]/\c.toNat∈qkb):qb3 p (bs w)=false:=by
 unfold qb3
 rw[qbg]
 rcases h with hp|⟨c,rfl,hc⟩
 ·rcases pair_cases hp with rfl|rfl|rfl|rfl|rfl|rfl<;>rfl
 ·rcases qeI hc with rfl|rfl|rfl|rfl|rfl|rfl|rfl|rfl|rfl|rfl|rfl|rfl|rfl|rfl|rfl|rfl<;>rfl
theorem qnB{w:List UInt8}{p:Bool}(h : ∃ c r,w=c::r/\qay c=true /\ ∀ b∈r,qay b=true):qb3 p (bs w)=true:=by
 obtain⟨c,r,rfl,hc,hr⟩:=h
 unfold qb3
 rw[qbg]
 cases hl:(c::r).getLast? with
 |none=>simp at hl
 |some b=>
  have:=List.mem_of_getLast? hl
  rcases Wp.1 this with rfl|h
  ·exact hc
  ·exact hr b h
theorem qq5{p:Bool}{t u:ByteArray}(ht:Tg (byl t))(hu:Tg (byl u))(ha:Adj t u)(r:List UInt8):Fol (byl t) (gap (qb3 p t) u++(byl u++r)):=by
 obtain⟨d,w,hd,-⟩:=qeJ hu
 have hs:qaJ qay u=qay d:=by rw[qbr,hd]; rfl
 have hword:(∃ c r,byl t=c::r/\qay c=true /\ ∀ b∈r,qay b=true) -> ∀ e q,gap (qb3 p t) u++(byl u++r)=e::q->qay e=false:=fun h e q he=>by
  have h1:qb3 p t=true:=by
   have:=qnB (p:=p) h
   rwa [qdz] at this
  rw[h1,gap,hs,hd] at he
  cases hwd:qay d with
  |true=>simp[hwd] at he; rw[<- he.1]; rfl
  |false=>simp[hwd] at he; rw[<- he.1]; exact hwd
 cases he:gap (qb3 p t) u++(byl u++r) with
 |nil=>cases byl t<;>trivial
 |cons e q=>
  rcases ht with ⟨c,r',hw,hc,hr,hb⟩|⟨c,r',hw,hc,hr,hb⟩|hp|⟨c,hw,hc⟩
  ·have:=hword ⟨c,r',hw,qmD hc,hr⟩ e q he
   rw[hw]
   simp only[Fol,hc,if_true]
   exact this
  ·have:=hword ⟨c,r',hw,qmE hc,fun b h=>qmE (hr b h)⟩ e q he
   rw[hw]
   have hnl:qa7 c=false:=by
    simp only[qau,qa7,Wq,decide_eq_true_eq,WZ,decide_eq_false_iff_not] at hc ⊢
    omega
   simp only[Fol,hc,hnl,if_true]
   simp only[qay,Yy] at this
   exact this.2
  ·rcases pair_cases hp with h|h|h|h|h|h<;>rw[h]<;>simp[Fol,qa7,qau]
  ·have h1:qb3 p t=false:=by
    have:=qo3 (p:=p) (.inr ⟨c,hw,hc⟩)
    rwa [qdz] at this
   rw[h1,gap,hd] at he
   simp at he
   have hed:e=d:=he.1.symm
   rw[hw]
   have hl:qa7 c=false/\qau c=false:=by rcases qeI hc with rfl|rfl|rfl|rfl|rfl|rfl|rfl|rfl|rfl|rfl|rfl|rfl|rfl|rfl|rfl|rfl<;>exact⟨rfl,rfl⟩
   simp only[Fol,hl.1,hl.2]
   simp only[Wm,if_false]
   intro _ hpr
   have htb:t=bs [c]:=by rw[<- qdz t,hw]
   rw[hed] at hpr
   rcases ha with ⟨a1,a2,a3,a4⟩|ha
   ·rcases pair_cases hpr with h|h|h|h|h|h<;>simp only[WW,and_true] at h
    ·rw[h.1] at hc; simp[qkb] at hc
    ·rw[h.1] at hc; simp[qkb] at hc
    ·exact a1 (by rw[htb,h.1])
    ·exact a2 (by rw[htb,h.1])
    ·exact a3 (by rw[htb,h.1])
    ·exact a4 (by rw[htb,h.1])
   ·rw[hd] at ha
    simp only[List.head?_cons] at ha
    rcases pair_cases hpr with h|h|h|h|h|h<;>simp only[WW,and_true] at h
    ·rw[h.1] at hc; simp[qkb] at hc
    ·rw[h.1] at hc; simp[qkb] at hc
    ·exact ha (by rw[h.2])
    ·exact ha (by rw[h.2])
    ·exact ha (by rw[h.2])
    ·exact ha (by rw[h.2])
end
section
def qjT:Nat->Nat->List UInt8
 |0,_=>[]
 |k+1,n=>if n<10 then [(48+n).toUInt8] else qjT k (n / 10)++[(48+n % 10).toUInt8]
def qhZ(n:Nat):List UInt8:=qjT 20 n
theorem qzU : ∀ d,d<10->((48+d).toUInt8).toNat=48+d:=by decide
theorem qrg(l:List UInt8)(c:UInt8):digV (l++[c])=10*digV l+(c.toNat-48):=by simp[digV]
theorem qkT : ∀ k n,n<10 ^ k->1<=k->digV (qjT k n)=n/\(∀ b∈qjT k n,qau b=true) /\ ∃ c r,qjT k n=c::r
 |0,n,_,h=>by omega
 |k+1,n,h,_=>by
  rw[qjT]
  split
  ·rename_i hn
   have h1:=qzU n hn
   refine⟨by simp only[digV,W3,List.foldl_nil,h1]; omega,fun b hb=>?_,_,_,rfl⟩
   rw[Wk.1 hb]
   simp only[qau,h1,Wq,decide_eq_true_eq]
   omega
  ·rename_i hn
   have h1:=qzU (n % 10) (by omega)
   have hk:1<=k:=by
    rcases k with _|k
    ·simp at h; omega
    ·omega
   obtain⟨i1,i2,c,r,i3⟩:=qkT k (n / 10) (by rw[Nat.pow_succ] at h; omega) hk
   refine⟨by rw[qrg,i1,h1]; omega,fun b hb=>?_,c,r++[(48+n % 10).toUInt8],by rw[i3]; rfl⟩
   rcases Wl.1 hb with hb|hb
   ·exact i2 b hb
   ·rw[Wk.1 hb]
    simp only[qau,h1,Wq,decide_eq_true_eq]
    omega
theorem qf6{n:Nat}(h:n<10 ^ 20):digV (qhZ n)=n/\(∀ b∈qhZ n,qau b=true) /\ ∃ c r,qhZ n=c::r:=qkT 20 n h (by omega)
theorem qt6{n:Nat}(h:n<=2147483647):Tg (qhZ n):=by
 obtain⟨h1,h2,c,r,h3⟩:=qf6 (n:=n) (by omega)
 rw[h3] at h1 h2 ⊢
 exact .inr (.inl ⟨c,r,rfl,h2 c (WQ ..),fun b hb=>h2 b (Wz _ hb),by omega⟩)
theorem qhn{n:Nat}(h:n<=2147483647):qaJ qau (bs (qhZ n))=true:=by
 obtain⟨h1,h2,c,r,h3⟩:=qf6 (n:=n) (by omega)
 rw[qbr,qbg,h3]
 rw[h3] at h2
 exact h2 c (WQ ..)
def qkU:ByteArray:=bs [116,114,117,101]
def qg2:ByteArray:=bs [102,97,108,115,101]
def qwP:ByteArray:=bs [115,101,108,102]
def qsx:ByteArray:=bs [111,116,104,101,114]
def qhc:ByteArray:=bs [116,105,99,107]
def Bop.prec:Bop->Nat
 |.or=>1 | .and=>2 | .lt | .le | .gt | .ge | .eq | .ne=>4 | .add | .sub=>5 | .mul | .div=>6
def qfh(neg:Bool):Nat:=if neg then 7 else 3
def qcZ(b:Bool)(l:List ByteArray):List ByteArray:=if b then bs [40]::(l++[bs [41]]) else l
def Bop.left(o:Bop):Nat:=if o.prec=4 then 5 else o.prec
def E.tx(full:Bool):E->Nat->List ByteArray
 |.int n,_=>[bs (qhZ n.toNat)]
 |.bool n,_=>[if n=0 then qg2 else qkU]
 |.var s,_=>[s]
 |.name s,_=>[s]
 |.field _ s e,_=>s::bs [91]::(e.tx full 1++[bs [93]])
 |.un _ neg e,p=>qcZ (full||decide (qfh neg<p)) (ustr neg::e.tx full (qfh neg))
 |.bin _ o a b,p=>qcZ (full||decide (o.prec<p)) (a.tx full o.left++o.str::b.tx full (o.prec+1))
def E.nest(full:Bool):E->Nat->Nat
 |.field _ _ e,_=>e.nest full 1+1
 |.un _ neg e,p=>e.nest full (qfh neg)+1+if (full||decide (qfh neg<p))=true then 1 else 0
 |.bin _ o a b,p=>max (a.nest full o.left) (b.nest full (o.prec+1))+if (full||decide (o.prec<p))=true then 1 else 0
 |_,_=>0
def E.good:E->Prop
 |.int n=>0<=n/\n<=2147483647
 |.bool n=>n=0\/n=1
 |.var s=>Tg (byl s)/\qaJ qa7 s=true/\s∉fieldNames/\s∉wordNames
 |.name s=>s=qwP\/s=qsx\/s=qhc
 |.field _ s e=>s∈fieldNames/\e.good
 |.un _ _ e=>e.good
 |.bin _ _ a b=>a.good/\b.good
def E.fl(f:Bool):E->E
 |.int n => .int n
 |.bool n => .bool n
 |.var s => .var s
 |.name s => .name s
 |.field _ s e => .field f s (e.fl f)
 |.un _ neg e => .un f neg (e.fl f)
 |.bin _ o a b => .bin f o (a.fl f) (b.fl f)
theorem qbN(o:Bop):(o.prec=1/\o.left=1)\/(o.prec=2/\o.left=2)\/(o.prec=4/\o.left=5)\/(o.prec=5/\o.left=5)\/(o.prec=6/\o.left=6):=by cases o<;>simp[Bop.prec,Bop.left]
def Hx:List ByteArray->List Tk->List Tk->Prop
 |[],ts,r=>ts=r
 |x::l,ts,r => ∃ t q,ts=t::q/\t.s=x/\t.bad=0/\Hx l q r
theorem hx_app : ∀ {a b:List ByteArray} {ts r:List Tk},Hx (a++b) ts r ↔ ∃ m,Hx a ts m/\Hx b m r
 |[],b,ts,r=>⟨fun h=>⟨ts,rfl,h⟩,fun ⟨m,h1,h2⟩=>by cases h1; exact h2⟩
 |x::a,b,ts,r=>by
  simp only[Wh,Hx]
  constructor
  ·rintro ⟨t,q,h1,h2,h3,h4⟩
   obtain⟨m,h5,h6⟩:=hx_app.1 h4
   exact⟨m,⟨t,q,h1,h2,h3,h5⟩,h6⟩
  ·rintro ⟨m,⟨t,q,h1,h2,h3,h5⟩,h6⟩
   exact⟨t,q,h1,h2,h3,hx_app.2 ⟨m,h5,h6⟩⟩
theorem qcF{x:ByteArray}{l:List ByteArray}{ts r:List Tk}(h:Hx (x::l) ts r):nx ts=some x/\Hx l ts.tail r:=by
 obtain⟨t,q,h1,h2,h3,h4⟩:=h
 subst h1
 simp[nx,h3,h2]
 exact h4
def Stops(p:Nat)(r:List Tk):Prop := ∃ s,nx r=some s /\ ∀ q,p<=q->qp6 q s=none
theorem Stops.mono{p q:Nat}{r:List Tk}(h:Stops p r)(hq:p<=q):Stops q r:=by
 obtain⟨s,h1,h2⟩:=h
 exact⟨s,h1,fun k hk=>h2 k (by omega)⟩
theorem qmJ(o:Bop):qp6 o.prec o.str=some o:=by cases o<;>rfl
theorem qnH(o:Bop)(q:Nat)(h:q≠o.prec):qp6 q o.str=none:=by
 rcases q with _|_|_|_|_|_|_|q
 all_goals first|rfl|skip
 all_goals cases o<;>first|rfl|exact absurd rfl h
theorem qlK(full:Bool) : ∀ (e:E),e.good -> ∀ p,∃ x l,e.tx full p=x::l/\(x=ustr false->p<=3)/\(x=ustr true->p<=7)
 |.int n,h,p=>by
  have hd:=qhn (n:=n.toNat) (by have:=h.1; have:=h.2; omega)
  refine⟨_,_,rfl,fun hx=>?_,fun hx=>?_⟩
  all_goals
   rw[hx] at hd
   exact absurd hd (by decide)
 |.bool n,h,p=>by
  refine⟨_,_,rfl,fun hx=>?_,fun hx=>?_⟩
  all_goals split at hx<;>exact absurd hx (by decide)
 |.var s,h,p=>by
  refine⟨_,_,rfl,fun hx=>?_,fun hx=>?_⟩
  all_goals
   have:=h.2.1
   rw[hx] at this
   exact absurd this (by decide)
 |.name s,h,p=>by
  refine⟨_,_,rfl,fun hx=>?_,fun hx=>?_⟩
  all_goals rcases h with rfl|rfl|rfl<;>exact absurd hx (by decide)
 |.field f s e,h,p=>by
  refine⟨_,_,rfl,fun hx=>?_,fun hx=>?_⟩
  all_goals
   have:=h.1
   rw[hx] at this
   exact absurd this (by decide)
 |.un f neg e,h,p=>by
  simp only[E.tx,qcZ]
  split
  ·exact⟨_,_,rfl,fun hx=>absurd hx (by decide),fun hx=>absurd hx (by decide)⟩
  ·rename_i hc
   simp only[Yt,not_or,decide_eq_true_eq,Nat.not_lt] at hc
   refine⟨_,_,rfl,fun hx=>?_,fun hx=>?_⟩
   ·cases neg with
    |true=>exact absurd hx (by decide)
    |false=>exact hc.2
   ·cases neg with
    |true=>exact hc.2
    |false=>exact absurd hx (by decide)
 |.bin f o a b,h,p=>by
  simp only[E.tx,qcZ]
  split
  ·exact⟨_,_,rfl,fun hx=>absurd hx (by decide),fun hx=>absurd hx (by decide)⟩
  ·rename_i hc
   simp only[Yt,not_or,decide_eq_true_eq,Nat.not_lt] at hc
   obtain⟨x,l,h1,h2,h3⟩:=qlK full a h.1 o.left
   refine⟨x,l++o.str::b.tx full (o.prec+1),by rw[h1]; rfl,fun hx=>?_,fun hx=>?_⟩
   ·have:=h2 hx; have:=hc.2
    rcases qbN o with h|h|h|h|h<;>omega
   ·have:=h3 hx; have:=hc.2
    rcases qbN o with h|h|h|h|h<;>omega
section
variable{eS eL:Nat}{f:Bool}
theorem qfx(x:ByteArray)(hx : ∀ q,qp6 q x=none){p:Nat}{l:List ByteArray}{ts r:List Tk}(h:Hx (x::l) ts r):Stops p ts:=⟨x,(qcF h).1,fun q _=>hx q⟩
theorem qh0(x:ByteArray)(h : ∀ o:Bop,o.str≠x)(q:Nat):qp6 q x=none:=by
 unfold qp6
 rw[YF]
 intro o _
 simp[h o]
end
end
section
def ifS:ByteArray:=bs [105,102]
def qjR:ByteArray:=bs [101,108,115,101]
def qpb:ByteArray:=bs [119,104,105,108,101]
def qlG:ByteArray:=bs [101,102,102,101,99,116]
def qt0:ByteArray:=bs [115,116,111,112]
def onS:ByteArray:=bs [111,110]
def qlH:Ss->Bool
 |.block _ .nil _=>false
 |.block _ _ _=>true
 |_=>false
def Ss.tx:Ss->List ByteArray
 |.nil=>[]
 |.assign _ s e r=>s::bs [61]::(e.tx false 1++(bs [59]::r.tx))
 |.store _ s a b r=>s::bs [91]::(a.tx false 1++(bs [93]::bs [61]::(b.tx false 1++(bs [59]::r.tx))))
 |.effect _ a b r=>qlG::(a.tx false 1++(bs [44]::(b.tx false 1++(bs [59]::r.tx))))
 |.stop r=>qt0::bs [59]::r.tx
 |.cond w _ c b r=>(if w then qpb else ifS)::(c.tx false 1++(b.tx++r.tx))
 |.block _ b r=>bs [123]::(b.tx++(bs [125]::(if qlH r then qjR::r.tx else [])))
def qpc(s:ByteArray):Prop:=Tg (byl s)/\qaJ qa7 s=true/\s∉fieldNames/\s∉wordNames
def Ss.good:Ss->Option Nat->Prop
 |.nil,m=>m=none\/m=some 0
 |.assign _ s e r,m=>m=none/\qpc s/\e.good/\r.good none
 |.store _ s a b r,m=>m=none/\s∈fieldNames/\a.good/\b.good/\r.good none
 |.effect _ a b r,m=>m=none/\a.good/\b.good/\r.good none
 |.stop r,m=>m=none/\r.good none
 |.cond w _ c b r,m=>m=none/\c.good/\b.good (some (if w then 1 else 2))/\r.good none
 |.block _ b r,m => ∃ n,m=some (n+1)/\b.good none/\r.good (some n)
def Ss.nest:Ss->Nat
 |.nil=>0
 |.assign _ _ e r=>max (e.nest false 1) r.nest
 |.store _ _ a b r=>max (a.nest false 1+1) (max (b.nest false 1) r.nest)
 |.effect _ a b r=>max (a.nest false 1) (max (b.nest false 1) r.nest)
 |.stop r=>r.nest
 |.cond _ _ c b r=>max (c.nest false 1) (max (b.nest+1) r.nest)
 |.block _ b r=>max b.nest r.nest
def Ss.fl(f fi fb:Bool):Ss->Ss
 |.nil => .nil
 |.assign _ s e r => .assign f s (e.fl f) (r.fl f fi fb)
 |.store _ s a b r => .store f s (a.fl f) (b.fl f) (r.fl f fi fb)
 |.effect _ a b r => .effect f (a.fl f) (b.fl f) (r.fl f fi fb)
 |.stop r => .stop (r.fl f fi fb)
 |.cond w _ c b r => .cond w (if w then f else fi) (c.fl f) (b.fl f fi fb) (r.fl f fi fb)
 |.block _ b r => .block fb (b.fl f fi fb) (r.fl f fi fb)
theorem qnF(a:Ss):a.app .nil=a:=by induction a<;>simp_all [Ss.app]
theorem qcl(a b c:Ss):(a.app b).app c=a.app (b.app c):=by induction a<;>simp_all [Ss.app]
theorem qlI{s x:ByteArray}(h:qpc s)(hx:x∈fieldNames\/x∈wordNames\/qaJ qa7 x=false):s≠x:=by
 rintro rfl
 rcases hx with hx|hx|hx
 ·exact h.2.2.1 hx
 ·exact h.2.2.2 hx
 ·rw[h.2.1] at hx; cases hx
theorem qjS{s x:ByteArray}(h:s∈fieldNames)(hx:x∉fieldNames):s≠x:=fun e=>hx (e ▸ h)
theorem qt1 : ∀ (s:Ss),s.good none -> ∃ x l,s.tx++[bs [125]]=x::l/\x≠qjR/\(s ≠ .nil->x≠bs [125])
 |.nil,_=>⟨_,_,rfl,by decide,fun h=>absurd rfl h⟩
 |.assign f s e r,h=>⟨_,_,rfl,qlI h.2.1 (.inr (.inl (by decide))),fun _=>qlI h.2.1 (.inr (.inr (by decide)))⟩
 |.store f s a b r,h=>⟨_,_,rfl,qjS h.2.1 (by decide),fun _=>qjS h.2.1 (by decide)⟩
 |.effect f a b r,h=>⟨_,_,rfl,by decide,fun _=>by decide⟩
 |.stop r,h=>⟨_,_,rfl,by decide,fun _=>by decide⟩
 |.cond w f c b r,h=>by
  refine⟨_,_,rfl,?_,fun _=>?_⟩<;>cases w<;>decide
 |.block f b r,h=>by obtain⟨n,hn,_⟩:=h; cases hn
section
variable{eS eL:Nat}{f fi fb:Bool}
theorem qwH(x:ByteArray)(hx : ∀ o:Bop,o.str≠x){l:List ByteArray}{ts r:List Tk}(h:Hx (x::l) ts r):Stops 1 ts:=qfx x (qh0 x hx) h
end
end
section
def qtN(u:ByteArray):Prop:=(byl u).head?≠some 61
def qxT(t:ByteArray):Prop:=t≠bs [60]/\t≠bs [62]/\t≠bs [61]/\t≠bs [33]
theorem qlD : ∀ {a b:List ByteArray},Ok2 a->Ok2 b->(∀ t u,a.getLast?=some t->b.head?=some u->Adj t u)->Ok2 (a++b)
 |[],b,_,hb,_=>hb
 |t::a,b,ha,hb,h=>by
  refine⟨ha.1,fun u hu=>?_,qlD ha.2.2 hb fun t' u h1 h2=>?_⟩
  ·cases a with
   |nil=>exact h t u rfl hu
   |cons v a=>exact ha.2.1 u hu
  ·cases a with
   |nil=>cases h1
   |cons v a=>exact h t' u (by rw[Yo]; exact h1) h2
structure Cl(l:List ByteArray):Prop where
 ok:Ok2 l
 st : ∀ u,l.head?=some u->qtN u
 en : ∀ t,l.getLast?=some t->qxT t
theorem qoV:Cl []:=⟨trivial,fun u h=>(by cases h),fun t h=>(by cases h)⟩
theorem qmB{x:ByteArray}(h:Tg (byl x))(h1:qtN x)(h2:qxT x):Cl [x]:=⟨⟨h,fun u hu=>(by cases hu),trivial⟩,fun u hu=>(by cases hu; exact h1),fun t ht=>(by cases ht; exact h2)⟩
theorem qbf{a b:List ByteArray}(ha:Cl a)(hb:Cl b):Cl (a++b):=by
 refine⟨qlD ha.ok hb.ok fun t u h1 _ => .inl (ha.en t h1),fun u hu=>?_,fun t ht=>?_⟩
 ·cases a with
  |nil=>exact hb.st u hu
  |cons v a=>exact ha.st u hu
 ·rw[List.getLast?_append] at ht
  cases hbl:b.getLast? with
  |none=>rw[hbl] at ht; exact ha.en t ht
  |some v=>rw[hbl] at ht; exact hb.en t (hbl.trans ht)
theorem qtO{x:ByteArray}{a b:List ByteArray}(h:Tg (byl x))(ha:Cl a)(hb:Cl b)(na:a≠[])(nb:b≠[]):Cl (a++x::b):=by
 have hxb:Ok2 (x::b):=⟨h,fun u hu => .inr (hb.st u hu),hb.ok⟩
 refine⟨qlD ha.ok hxb fun t u h1 _ => .inl (ha.en t h1),fun u hu=>?_,fun t ht=>?_⟩
 ·cases a with
  |nil=>exact absurd rfl na
  |cons v a=>exact ha.st u hu
 ·cases b with
  |nil=>exact absurd rfl nb
  |cons v b=>
   rw[List.getLast?_append,Yo] at ht
   cases hbl:(v::b).getLast? with
   |none=>simp at hbl
   |some w=>rw[hbl] at ht; exact hb.en t (hbl.trans ht)
theorem qwu{x:ByteArray}{b:List ByteArray}(h:Tg (byl x))(h1:qtN x)(hb:Cl b)(nb:b≠[]):Cl (x::b):=by
 refine⟨⟨h,fun u hu => .inr (hb.st u hu),hb.ok⟩,fun u hu=>(by cases hu; exact h1),fun t ht=>?_⟩
 cases b with
 |nil=>exact absurd rfl nb
 |cons v b=>rw[Yo] at ht; exact hb.en t ht
theorem qoW{c:UInt8}(h:c.toNat∈qkb):Tg (byl (bs [c])):=by rw[qbg]; exact .inr (.inr (.inr ⟨c,rfl,h⟩))
theorem qyT(o:Bop):Tg (byl o.str):=by
 cases o
 all_goals first
  |exact .inr (.inr (.inr ⟨_,rfl,by decide⟩))
  |exact .inr (.inr (.inl (by decide)))
theorem qyU(neg:Bool):Tg (byl (ustr neg)):=by
 cases neg<;>exact .inr (.inr (.inr ⟨_,rfl,by decide⟩))
theorem qtP{c:UInt8}{r:List UInt8}(h:qa7 c=true)(h2 : ∀ b∈r,qay b=true)(h3:(c::r).length<=8):Tg (byl (bs (c::r))):=by
 rw[qbg]
 exact .inl ⟨c,r,rfl,h,h2,fun h=>by omega⟩
theorem clf{x:ByteArray}(h:x∈fieldNames):Cl [x]:=by
 simp only[fieldNames,Wp,Ws,or_false] at h
 rcases h with h|h|h|h|h|h|h|h<;>rw[h]
 all_goals exact qmB (.inl ⟨_,_,rfl,by decide,by decide,by decide⟩) (by unfold qtN; decide) (by unfold qxT; decide)
theorem clw{x:ByteArray}(h:x∈wordNames):Cl [x]:=by
 simp only[wordNames,Wp,Ws,or_false] at h
 rcases h with h|h|h|h|h|h|h|h|h|h|h|h|h<;>rw[h]
 all_goals exact qmB (.inl ⟨_,_,rfl,by decide,by decide,by decide⟩) (by unfold qtN; decide) (by unfold qxT; decide)
theorem qsr{x:ByteArray}(h:Tg (byl x))(hs:qaJ qa7 x=true\/qaJ qau x=true):Cl [x]:=by
 refine qmB h ?_ ⟨?_,?_,?_,?_⟩
 ·intro h1
  rw[qbr,qbr,h1] at hs
  exact absurd hs (by decide)
 all_goals rintro rfl; exact absurd hs (by decide)
theorem qoX{x:ByteArray}(h:qpc x):Cl [x]:=qsr h.1 (.inl h.2.1)
theorem cls{c:UInt8}(h:c.toNat∈qkb)(h1:c≠61)(h2:c≠60/\c≠62/\c≠33):Cl [bs [c]]:=by
 refine qmB (qoW h) (by rw[qtN,qbg]; simpa using h1) ⟨?_,?_,?_,?_⟩
 all_goals
  intro h
  have:=qsS h
  simp only[WW,and_true] at this
  simp_all
theorem qoY(full:Bool){e:E}(h:e.good)(p:Nat):e.tx full p≠[]:=by
 obtain⟨x,l,h1,_⟩:=qlK full e h p
 rw[h1]; simp
theorem qmC{b:Bool}{l:List ByteArray}(h:Cl l):Cl (qcZ b l):=by
 unfold qcZ
 split
 ·exact qbf (a:=[bs [40]]) (cls (by decide) (by decide) (by decide)) (qbf h (cls (by decide) (by decide) (by decide)))
 ·exact h
theorem qhS(full:Bool) : ∀ e:E,e.good -> ∀ p,Cl (e.tx full p)
 |.int n,h,p=>qsr (by rw[qbg]; exact qt6 (by have:=h.1; have:=h.2; omega)) (.inr (qhn (by have:=h.1; have:=h.2; omega)))
 |.bool n,h,p=>by
  simp only[E.tx]
  split<;>exact clw (by decide)
 |.var s,h,p=>qoX h
 |.name s,h,p=>by
  refine clw ?_
  rcases h with rfl|rfl|rfl<;>decide
 |.field g s e,h,p=>qbf (clf h.1) (qbf (a:=[bs [91]]) (cls (by decide) (by decide) (by decide)) (qbf (qhS full e h.2 1) (cls (by decide) (by decide) (by decide))))
 |.un g neg e,h,p=>qmC (qwu (qyU neg) (by unfold qtN; cases neg<;>decide) (qhS full e h _) (qoY full (e:=e) h _))
 |.bin g o a b,h,p=>qmC (qtO (qyT o) (qhS full a h.1 _) (qhS full b h.2 _) (qoY full h.1 _) (qoY full h.2 _))
theorem qjM : ∀ (s:Ss) m,s.good m->Cl s.tx
 |.nil,m,h=>qoV
 |.assign g s e r,m,h=>qtO (a:=[s]) (qoW (by decide)) (qoX h.2.1) (qbf (qhS false e h.2.2.1 1) (qbf (a:=[bs [59]]) (cls (by decide) (by decide) (by decide)) (qjM r _ h.2.2.2))) (by simp) (by simp)
 |.store g s a b r,m,h=>by
  have h1:Cl (s::bs [91]::(a.tx false 1++[bs [93]])):=qbf (clf h.2.1) (qbf (a:=[bs [91]]) (cls (by decide) (by decide) (by decide)) (qbf (qhS false a h.2.2.1 1) (cls (by decide) (by decide) (by decide))))
  have h2:Cl (b.tx false 1++(bs [59]::r.tx)):=qbf (qhS false b h.2.2.2.1 1) (qbf (a:=[bs [59]]) (cls (by decide) (by decide) (by decide)) (qjM r _ h.2.2.2.2))
  have:=qtO (x:=bs [61]) (qoW (by decide)) h1 h2 (by simp) (by simp)
  simpa [Ss.tx] using this
 |.effect g a b r,m,h=>qbf (a:=[qlG]) (clw (by decide)) (qbf (qhS false a h.2.1 1) (qbf (a:=[bs [44]]) (cls (by decide) (by decide) (by decide)) (qbf (qhS false b h.2.2.1 1) (qbf (a:=[bs [59]]) (cls (by decide) (by decide) (by decide)) (qjM r _ h.2.2.2)))))
 |.stop r,m,h=>qbf (a:=[qt0]) (clw (by decide)) (qbf (a:=[bs [59]]) (cls (by decide) (by decide) (by decide)) (qjM r _ h.2))
 |.cond w g c b r,m,h=>qbf (a:=[if w then qpb else ifS]) (clw (by cases w<;>decide)) (qbf (qhS false c h.2.1 1) (qbf (qjM b _ h.2.2.1) (qjM r _ h.2.2.2)))
 |.block g b r,m,h=>by
  obtain⟨n,_,h1,h2⟩:=h
  have hlast:Cl (if qlH r then qjR::r.tx else []):=?_
  ·exact qbf (a:=[bs [123]]) (cls (by decide) (by decide) (by decide)) (qbf (qjM b _ h1) (qbf (a:=[bs [125]]) (cls (by decide) (by decide) (by decide)) hlast))
  split
  ·exact qbf (a:=[qjR]) (clw (by decide)) (qjM r _ h2)
  ·exact qoV
def qkO(k:Nat):ByteArray:=match k with|0=>bs [97,99,116] | 1=>qhc|_=>qrU
def qq3(k:Nat):Option Ss->List ByteArray
 |none=>[]
 |some b=>onS::qkO k::bs [123]::(b.tx++[bs [125]])
def qkP(h:Option Ss):Prop := ∀ b,h=some b->b.good none/\b.nest<=19
theorem qtQ{k:Nat}{h:Option Ss}(hg:qkP h):Cl (qq3 k h):=by
 cases h with
 |none=>exact qoV
 |some b=>
  refine qbf (a:=[onS]) (clw (by decide)) (qbf (a:=[qkO k]) (clw ?_) (qbf (a:=[bs [123]]) (cls (by decide) (by decide) (by decide)) (qbf (qjM b _ (hg b rfl).1) (cls (by decide) (by decide) (by decide)))))
  rcases k with _|_|k
  ·decide
  ·decide
  ·show qrU∈wordNames; decide
def qf1(h:Nat->Option Ss):List ByteArray:=qq3 0 (h 0)++(qq3 1 (h 1)++qq3 2 (h 2))
theorem qtR{h:Nat->Option Ss}(hg : ∀ k,qkP (h k)):Cl (qf1 h):=qbf (qtQ (hg 0)) (qbf (qtQ (hg 1)) (qtQ (hg 2)))
theorem qjN{k:Nat}(h:k<3):qe6 (qkO k)=some k:=by
 rcases k with _|_|_|k
 ·rfl
 ·rfl
 ·rfl
 ·omega
end
section
def Fo.eqv:Fo->Fo->Bool
 |.nil,.nil=>true
 |.cons k n s _ ks r,.cons k' n' s' _ ks' r'=>(decide (k=k')&&(decide (n=n')&&decide (s=s')))&&(ks.eqv ks'&&r.eqv r')
 |_,_=>false
def Rz.map{α β : Type}(k : α -> β):Rz α -> Rz β
 |.ok a r => .ok (k a) r
 |.er i c => .er i c
end
end Go.Pm
section
namespace Go.Pm.F
variable(C:Task->Option Res)(q:Nat)(fr:Fr)(σ : S)
@[simp] def F228a0x:PC:=(rn [jj 6 (.alloc [zN,eN,zN,zN,zN]),st 5 6 20] [1000000,5,6])
def F228a0:PC:=F228a0x
theorem qiE:run C q F228a0 fr σ = run C q F228a0x fr σ := rfl
@[simp] def F228b0x:PC:=(.block 1 (.region (some []) [⟨some 21,.load false 1 (.t 5),none,[7]⟩,l1 22 5,nc 23 22,fa 24 2 23,l1 25 24,la 26 5 6,jj 27 (.bslice 1 [zN,eN,zN,zN,zN] [(0,5,(.t 26))]),jj 28 (.append 5 48 (.t 25) (.t 27)),nc 29 21,fa 30 2 29,st 1 30 28] [1000000]))
def F228b0:PC:=F228b0x
theorem qiF:run C q F228b0 fr σ = run C q F228b0x fr σ := rfl
theorem qhF:F228a0.flat=true:=rfl
theorem qhG:F228b0.flat=true:=rfl
def F228:PFun:=⟨1,[.cell 2 true 12,.cell 3 false 1,.cell 4 false 1],sr [jj 2 (.alloc [zN,zN,eN,sN,zN,zN,eN,sN,zN,zN,eN,sN]),jj 3 (.alloc [zN]),jj 4 (.alloc [zN])] [1000000,0,2,3,4] (.seq (sr [mv 7 0,lz 8 7,bk 9 .gtr 8 2000] [1000000,0,2,3,4,9] (cs 9 (sr [jj 10 (.build [zN,zN,eN,sN,zN,zN,eN,sN,zN,zN,eN,sN] []),st 12 2 10,jn (.store 1 (.t 3) (kk 2000)),jn (.store 1 (.t 4) (kk 2))] [1000000,2,3,4] .ret))) (sr [mv 11 0,cl 12 239 [11],jj 13 (.build [eN,(.lit (.map none)),sN,zN,zN,zN] [(0,2,(.t 12)),(5,1,(kk 12))]),bx 14 13,jj 5 (.alloc [(.lit (.pointer none))]),st 1 5 14] [1000000,2,3,4,5] (sr [jj 15 (.mkfn 240 [] [(.t 5),(.t 2),(.t 3),(.t 4)]),jj 1000000 (.defer (.t 15) [])] [1000000,2,3,4,5] (.seq (sr [l1 16 5,nc 17 16,fa 18 0 17,cl 19 241 [18]] [1000000,2,3,4,5,19] (.block 0 (.range (.t 19) [20] F228a0 F228b0))) (sr [l1 31 5,cl 32 242 [31],st 12 2 32,jn (.store 1 (.t 3) (kk 0)),jn (.store 1 (.t 4) (kk 0))] [1000000,2,3,4] .ret))))),false,true,false⟩
def F239:PFun:=pf 1 [.cell 2 true 2] (sr [jj 2 (.alloc [eN,(.lit (.map none))])] [0,2] (sr [mv 3 0,jj 4 (.mkmap),jn (.mapset .s (.t 4) (ks [111,110]) (kk 2)),jn (.mapset .s (.t 4) (ks [97,99,116]) (kk 2)),jn (.mapset .s (.t 4) (ks [116,105,99,107]) (kk 2)),jn (.mapset .s (.t 4) (ks [105,102]) (kk 2)),jn (.mapset .s (.t 4) (ks [101,108,115,101]) (kk 2)),jn (.mapset .s (.t 4) (ks [119,104,105,108,101]) (kk 2)),jn (.mapset .s (.t 4) (ks [101,102,102,101,99,116]) (kk 2)),jn (.mapset .s (.t 4) (ks [115,116,111,112]) (kk 2)),jn (.mapset .s (.t 4) (ks [116,114,117,101]) (kk 2)),jn (.mapset .s (.t 4) (ks [102,97,108,115,101]) (kk 2)),jn (.mapset .s (.t 4) (ks [115,101,108,102]) (kk 2)),jn (.mapset .s (.t 4) (ks [111,116,104,101,114]) (kk 2)),jn (.mapset .s (.t 4) (ks [120]) (kk 3)),jn (.mapset .s (.t 4) (ks [121]) (kk 3)),jn (.mapset .s (.t 4) (ks [118,120]) (kk 3)),jn (.mapset .s (.t 4) (ks [118,121]) (kk 3)),jn (.mapset .s (.t 4) (ks [97]) (kk 3)),jn (.mapset .s (.t 4) (ks [98]) (kk 3)),jn (.mapset .s (.t 4) (ks [104,105,116]) (kk 3)),jn (.mapset .s (.t 4) (ks [115,116,105,108,108]) (kk 3)),mv 5 4,jj 6 (.build [eN,(.lit (.map none))] [(0,1,(.t 3)),(1,1,(.t 5))]),st 2 2 6] [2] .ret))
def F240:PFun:=⟨4,[],sr [jj 4 (.recov),jj 5 (.isnil false true (.t 4))] [0,1,2,3,5] (cs 5 (.region (some []) [jj 6 (.build [zN,zN,eN,sN,zN,zN,eN,sN,zN,zN,eN,sN] []),l1 7 0,nc 8 7,fa 9 4 8,l1 10 9,l1 11 0,nc 12 11,fa 13 5 12,l1 14 13,st 12 1 6,st 1 2 10,st 1 3 14] [])),false,false,true⟩
def F241:PFun:=pf 1 [.tmp 2] (sr [bx 1 0,jj 2 (.mov (.c .nilFunc))] [1] (sr [jj 3 (.mkfn 249 [] [(.t 1)]),mv 2 3] [2] .ret))
@[simp] def F242l0x:PC:=(.seq (sr [mv 5 0,cl 6 252 [5],jj 7 (.field false 0 1 (.t 6)),bk 8 .neq 7 0] [0,2,3,8] (.cond (.t 8) .skip (.exit 0))) (.block 1 (sr [mv 9 0,jj 10 (.call 253 [(.t 9),(ks [111,110])])] [0,2,3] (sr [mv 11 0,cl 12 254 [11],mv 4 12] [0,2,3,4] (.seq (sr [mv 13 4,fa 14 0 3,jj 15 (.indexAddrA 3 4 (.t 14) (.t 13)),fa 16 0 15,l1 17 16,bk 18 .neq 17 0] [0,2,3,4,18] (cs 18 (rn [mv 19 0,mv 20 0,cl 21 252 [20],jj 22 (.call 255 [(.t 19),(.t 21),(kk 4)])] [0,2,3,4]))) (sr [mv 23 0,nc 24 23,fa 25 3 24,l1 26 25,bk 27 .add 26 1,nc 28 23,fa 29 3 28,st 1 29 27] [0,2,3,4] (rn [mv 30 4,mv 31 0,jj 32 (.call 256 [(.t 31),(kk 1)]),fa 33 0 3,jj 34 (.indexAddrA 3 4 (.t 33) (.t 30)),st 4 34 32] [0,2,3])))))))
def F242l0:PC:=F242l0x
theorem qiG:run C q F242l0 fr σ = run C q F242l0x fr σ := rfl
def F242:PFun:=pf 1 [.cell 2 true 12] (sr [jj 2 (.alloc [zN,zN,eN,sN,zN,zN,eN,sN,zN,zN,eN,sN])] [0,2] (sr [jj 3 (.alloc [zN,zN,eN,sN,zN,zN,eN,sN,zN,zN,eN,sN])] [0,2,3] (.seq (.block 0 (.loop F242l0)) (sr [la 35 12 3,st 12 2 35] [2] .ret))))
@[simp] def F249l0x:PC:=(.block 1 (.seq (.region (some [(34,[zN,eN,zN,zN,zN])]) [⟨some 5,.load false 1 (.t 1),none,[3]⟩,l1 6 1,mv 7 3,cl 8 251 [6,7],cl 9 250 [5,8],⟨some 4,.fill 34,none,[3,4]⟩,st 5 4 9] [0,1,4]) (.seq (sr [mv 10 0,la 11 5 4,jj 12 (.callv (.t 10) [(.t 11)]),jj 13 (.un .not (.t 12)),mv 14 13,jf 15 14 (.fieldAddr 0 (.t 4)),jf 16 14 (.load false 1 (.t 15)),jf 17 14 (.bin .eql (.t 16) (kk 0)),jj 18 (.pick (.t 14) kT (.t 17)),mv 19 18,jf 20 19 (.fieldAddr 0 (.t 4)),jf 21 19 (.load false 1 (.t 20)),jf 22 19 (.bin .eql (.t 21) (kk 6)),jj 23 (.pick (.t 19) kT (.t 22))] [0,1,4,23] (cs 23 .ret)) (rn [fa 24 2 4,l1 25 24,fa 26 1 4,l1 27 26,lz 28 27,bn 29 .add 25 28,mv 3 29] [0,1,3]))))
def F249l0:PC:=F249l0x
theorem qe3:run C q F249l0 fr σ = run C q F249l0x fr σ := rfl
def F249:PFun:=pf 2 [] (sr [mx 3 (kk 0)] [0,1,3] (.block 0 (.loop F249l0)))
def F250:PFun:=pf 2 [.cell 4 true 5] (sr [jj 4 (.alloc [zN,eN,zN,zN,zN])] [0,1,4] (.seq (sr [mv 7 1,mv 8 0,nc 9 8,fa 10 0 9,l1 11 10,lz 12 11,bn 13 .eql 7 12] [0,1,4,13] (cs 13 (sr [mv 14 1,jj 15 (.build [zN,eN,zN,zN,zN] [(0,1,(kk 0)),(2,1,(.t 14))]),st 5 4 15] [4] .ret))) (.seq (sr [mv 16 0,nc 17 16,fa 18 0 17,l1 19 18,mv 20 1,jj 21 (.indexS (.t 19) (.t 20)),mv 5 21] [0,1,4,5] (.block 0 (sr [mv 23 5,cl 24 264 [23],mv 22 24] [0,1,4,5,22] (.cond (.t 22) (sr [mv 25 0,mv 26 1,cl 27 265 [25,26],st 5 4 27] [4] .ret) (sr [mv 29 5,cl 30 266 [29],mv 28 30] [0,1,4,28] (cs 28 (sr [mv 31 0,mv 32 1,cl 33 267 [31,32],st 5 4 33] [4] .ret))))))) (.seq (sr [mv 34 1,bk 35 .add 34 2,mv 36 0,nc 37 36,fa 38 0 37,l1 39 38,lz 40 39,bn 41 .leq 35 40] [0,1,4,41] (cs 41 (sr [mv 42 0,nc 43 42,fa 44 0 43,l1 45 44,mv 46 1,mv 47 1,bk 48 .add 47 2,jj 49 (.sliceS (.t 45) (some (.t 46)) (some (.t 48))),mv 6 49] [0,1,4,6] (sr [mv 50 6] [0,1,4,6,50] (.block 1 (.seq (sr [jj 52 (.bin .eql (.t 50) (ks [124,124])),mv 51 52] [0,1,4,6,50,51] (.cond (.t 51) .skip (sr [jj 53 (.bin .eql (.t 50) (ks [38,38])),mv 51 53] [0,1,4,6,50,51] (.cond (.t 51) .skip (sr [jj 54 (.bin .eql (.t 50) (ks [60,61])),mv 51 54] [0,1,4,6,50,51] (.cond (.t 51) .skip (sr [jj 55 (.bin .eql (.t 50) (ks [62,61])),mv 51 55] [0,1,4,6,50,51] (.cond (.t 51) .skip (sr [jj 56 (.bin .eql (.t 50) (ks [61,61])),mv 51 56] [0,1,4,6,50,51] (.cond (.t 51) .skip (rn [jj 57 (.bin .eql (.t 50) (ks [33,61])),mv 51 57] [0,1,4,6,51]))))))))))) (cs 51 (sr [mv 58 6,mv 59 1,jj 60 (.build [zN,eN,zN,zN,zN] [(0,1,(kk 5)),(1,1,(.t 58)),(2,1,(.t 59))]),st 5 4 60] [4] .ret)))))))) (.seq (sr [mv 61 0,nc 62 61,fa 63 0 62,l1 64 63,mv 65 1,jj 66 (.indexS (.t 64) (.t 65)),jj 67 (.call 268 [(ks [123,125,91,93,40,41,61,59,44,60,62,43,45,42,47,33]),(.t 66)]),bk 68 .geq 67 0] [0,1,4,68] (cs 68 (sr [mv 69 0,nc 70 69,fa 71 0 70,l1 72 71,mv 73 1,mv 74 1,bk 75 .add 74 1,jj 76 (.sliceS (.t 72) (some (.t 73)) (some (.t 75))),mv 77 1,jj 78 (.build [zN,eN,zN,zN,zN] [(0,1,(kk 5)),(1,1,(.t 76)),(2,1,(.t 77))]),st 5 4 78] [4] .ret))) (sr [mv 79 1,jj 80 (.build [zN,eN,zN,zN,zN] [(0,1,(kk 6)),(2,1,(.t 79)),(4,1,(kk 12))]),st 5 4 80] [4] .ret))))))
@[simp] def F251l0x:PC:=(.seq (sr [mv 7 1,mv 8 0,nc 9 8,fa 10 0 9,l1 11 10,lz 12 11,bn 13 .lss 7 12] [0,1,5,13] (.cond (.t 13) .skip (.exit 0))) (.seq (.block 1 (sr [mv 16 0,nc 17 16,fa 18 0 17,l1 19 18,mv 20 1,jj 21 (.indexS (.t 19) (.t 20)),mv 6 21] [0,1,5,6] (.block 2 (sr [mv 24 6,jj 25 (.bin .eql (.t 24) (.c (.int .u8 10))),mv 23 25] [0,1,5,6,23] (.cond (.t 23) (rn [mx 5 kF] [0,1,5]) (sr [mv 27 5,mv 28 27,jf 29 28 (.mov (.t 6)),jf 30 28 (.bin .eql (.t 29) (.c (.int .u8 32))),jj 31 (.pick (.t 28) kT (.t 30)),mv 32 31,jf 33 32 (.mov (.t 6)),jf 34 32 (.bin .eql (.t 33) (.c (.int .u8 9))),jj 35 (.pick (.t 32) kT (.t 34)),mv 26 35] [0,1,5,6,26] (.cond (.t 26) .skip (sr [mv 37 6,jj 38 (.bin .eql (.t 37) (.c (.int .u8 35))),mv 36 38] [0,1,36] (.cond (.t 36) (rn [mx 5 kT] [0,1,5]) (sr [mv 22 1,mv 4 22] [4] .ret)))))))))) (rn [mv 14 1,bk 15 .add 14 1,mv 1 15] [0,1,5])))
def F251l0:PC:=F251l0x
theorem qdf:run C q F251l0 fr σ = run C q F251l0x fr σ := rfl
def F251:PFun:=pf 2 [.tmp 4] (sr [mx 4 (kk 0)] [0,1] (.seq (sr [mx 5 kF] [0,1,5] (.block 0 (.loop F251l0))) (sr [mv 39 1,mv 4 39] [4] .ret)))
def F252:PFun:=pf 1 [.cell 2 true 5] (sr [jj 2 (.alloc [zN,eN,zN,zN,zN])] [0,2] (.seq (.region (some [(26,[zN,eN,zN,zN,zN])]) [mv 4 0,nc 5 4,fa 6 2 5,l1 7 6,mv 8 0,nc 9 8,fa 10 3 9,l1 11 10,jj 12 (.indexAddr 5 (.t 7) (.t 11)),la 13 5 12,jj 3 (.fill 26),st 5 3 13] [0,2,3]) (.seq (sr [fa 14 0 3,l1 15 14,bk 16 .eql 15 6] [0,2,3,16] (cs 16 (rn [mv 17 0,la 18 5 3,fa 19 4 3,l1 20 19,cl 21 255 [17,18,20]] [2,3]))) (sr [la 22 5 3,st 5 2 22] [2] .ret))))
def F253:PFun:=pf 2 [] (.seq (sr [mv 4 0,mv 5 1,jj 6 (.bslice 1 [eN] [(0,1,(.t 5))]),cl 7 269 [4,6],jj 8 (.un .not (.t 7))] [0,8] (cs 8 (rn [mv 9 0,mv 10 0,cl 11 252 [10],jj 12 (.call 255 [(.t 9),(.t 11),(kk 12)])] [0]))) (rn [mv 13 0,nc 14 13,fa 15 3 14,l1 16 15,bk 17 .add 16 1,nc 18 13,fa 19 3 18,st 1 19 17] []))
def F254:PFun:=pf 1 [.tmp 2] (sr [mx 2 (kk 0)] [0] (sr [mv 4 0,cl 5 252 [4],jj 3 (.alloc [zN,eN,zN,zN,zN]),st 5 3 5] [0,3] (.seq (sr [fa 6 1 3,l1 7 6] [0,3,7] (.block 0 (sr [jj 9 (.bin .eql (.t 7) (ks [97,99,116])),mv 8 9] [0,3,7,8] (.cond (.t 8) (sr [mx 2 (kk 0)] [2] .ret) (sr [jj 11 (.bin .eql (.t 7) (ks [116,105,99,107])),mv 10 11] [0,3,7,10] (.cond (.t 10) (sr [mx 2 (kk 1)] [2] .ret) (sr [jj 13 (.bin .eql (.t 7) (ks [104,105,116])),mv 12 13] [0,3,12] (cs 12 (sr [mx 2 (kk 2)] [2] .ret))))))))) (sr [mv 14 0,la 15 5 3,jj 16 (.call 255 [(.t 14),(.t 15),(kk 12)])] [] (sr [mx 2 (kk (-1))] [2] .ret)))))
def F255:PFun:=pf 3 [] (sr [bx 4 1] [0,2,4] (sr [mv 6 0,mv 7 0,fa 8 2 4,l1 9 8,mv 10 2,nc 11 6,fa 12 4 11,st 1 12 9,nc 13 7,fa 14 5 13,st 1 14 10] [2] (rn [mv 15 2,jj 16 (.mkif 1 (.t 15)),jn (.panic (.t 16))] [])))
@[simp] def F256l0x:PC:=(.seq (sr [mv 10 0,jj 11 (.bslice 1 [eN] [(0,1,(ks [125]))]),cl 12 269 [10,11],jj 13 (.un .not (.t 12))] [0,1,4,5,13] (.cond (.t 13) .skip (.exit 0))) (.block 1 (.region (some []) [fa 14 3 5,⟨some 15,.load false 1 (.t 14),none,[4]⟩,mv 16 0,mv 17 1,cl 18 271 [16,17],jj 19 (.bslice 1 [zN,zN,eN,sN] [(0,4,(.t 18))]),jj 20 (.append 4 56 (.t 15) (.t 19)),fa 21 3 5,st 1 21 20] [0,1,4,5] [4])))
def F256l0:PC:=F256l0x
theorem qgo:run C q F256l0 fr σ = run C q F256l0x fr σ := rfl
def F256:PFun:=pf 2 [.cell 4 true 4] (sr [jj 4 (.alloc [zN,zN,eN,sN])] [0,1,4] (sr [mv 6 0,mv 7 1,jj 8 (.call 270 [(.t 6),(ks [123]),(.t 7)])] [0,1,4] (sr [jj 9 (.build [zN,zN,eN,sN] [(0,1,(kk 7))]),jj 5 (.alloc [zN,zN,eN,sN]),st 4 5 9] [0,1,4,5] (.seq (.block 0 (.loop F256l0)) (sr [mv 22 0,jj 23 (.call 253 [(.t 22),(ks [125])])] [4,5] (sr [la 24 4 5,st 4 4 24] [4] .ret))))))
def F264:PFun:=pf 1 [.tmp 2] (sr [mx 2 kF] [0] (sr [mv 3 0,jj 4 (.bin .leq (.c (.int .u8 97)) (.t 3)),mv 5 4,jt 6 5 (.mov (.t 0)),jt 7 5 (.bin .leq (.t 6) (.c (.int .u8 122))),jj 8 (.pick (.t 5) (.t 7) kF),mv 2 8] [2] .ret))
@[simp] def F265l0x:PC:=(.seq (sr [mv 10 5,mv 11 0,nc 12 11,fa 13 0 12,l1 14 13,lz 15 14,bn 16 .lss 10 15,mv 17 16,jt 18 17 (.mov (.t 0)),jt 19 17 (.nilchk (.t 18)),jt 20 17 (.fieldAddr 0 (.t 19)),jt 21 17 (.load false 1 (.t 20)),jt 22 17 (.mov (.t 5)),jt 23 17 (.indexS (.t 21) (.t 22)),jt 24 17 (.call 264 [(.t 23)]),jt 25 17 (.mov (.t 24)),jf 26 25 (.mov (.t 0)),jf 27 25 (.nilchk (.t 26)),jf 28 25 (.fieldAddr 0 (.t 27)),jf 29 25 (.load false 1 (.t 28)),jf 30 25 (.mov (.t 5)),jf 31 25 (.indexS (.t 29) (.t 30)),jf 32 25 (.call 266 [(.t 31)]),jt 33 17 (.pick (.t 25) kT (.t 32)),jj 34 (.pick (.t 17) (.t 33) kF)] [0,1,4,5,34] (.cond (.t 34) .skip (.exit 0))) (.block 1 (rn [mv 35 5,bk 36 .add 35 1,mv 5 36] [0,1,4,5])))
def F265l0:PC:=F265l0x
theorem qe4:run C q F265l0 fr σ = run C q F265l0x fr σ := rfl
def F265:PFun:=pf 2 [.cell 4 true 5] (sr [jj 4 (.alloc [zN,eN,zN,zN,zN])] [0,1,4] (sr [mv 9 1,mv 5 9] [0,1,4,5] (.seq (.block 0 (.loop F265l0)) (sr [mv 37 0,nc 38 37,fa 39 0 38,l1 40 39,mv 41 1,mv 42 5,jj 43 (.sliceS (.t 40) (some (.t 41)) (some (.t 42))),mv 44 1,jj 45 (.build [zN,eN,zN,zN,zN] [(0,1,(kk 1)),(1,1,(.t 43)),(2,1,(.t 44))]),jj 6 (.alloc [zN,eN,zN,zN,zN]),st 5 6 45] [0,4,6] (.seq (.seq (.region (some []) [mv 47 0,nc 48 47,fa 49 1 48,l1 50 49,fa 51 1 6,l1 52 51,jj 53 (.lookup .s zN (.t 50) (.t 52) true),mv 46 53,ex 54 46 0,ex 55 46 1,mv 7 54,mv 8 55] [4,6,7,8]) (sr [mv 56 8] [4,6,7,56] (.cond (.t 56) (rn [mv 57 7,fa 58 0 6,st 1 58 57] [4,6]) (sr [fa 59 1 6,l1 60 59,lz 61 60,bk 62 .gtr 61 8] [4,6,62] (cs 62 (rn [fa 63 0 6,jn (.store 1 (.t 63) (kk 6)),fa 64 4 6,jn (.store 1 (.t 64) (kk 2))] [4,6])))))) (sr [la 65 5 6,st 5 4 65] [4] .ret))))))
def F266:PFun:=pf 1 [.tmp 2] (sr [mx 2 kF] [0] (sr [mv 3 0,jj 4 (.bin .leq (.c (.int .u8 48)) (.t 3)),mv 5 4,jt 6 5 (.mov (.t 0)),jt 7 5 (.bin .leq (.t 6) (.c (.int .u8 57))),jj 8 (.pick (.t 5) (.t 7) kF),mv 2 8] [2] .ret))
@[simp] def F267l0x:PC:=(.seq (sr [mv 9 5,mv 10 0,nc 11 10,fa 12 0 11,l1 13 12,lz 14 13,bn 15 .lss 9 14,mv 16 15,jt 17 16 (.mov (.t 0)),jt 18 16 (.nilchk (.t 17)),jt 19 16 (.fieldAddr 0 (.t 18)),jt 20 16 (.load false 1 (.t 19)),jt 21 16 (.mov (.t 5)),jt 22 16 (.indexS (.t 20) (.t 21)),jt 23 16 (.call 266 [(.t 22)]),jj 24 (.pick (.t 16) (.t 23) kF)] [0,1,4,5,6,24] (.cond (.t 24) .skip (.exit 0))) (.block 1 (sr [mv 25 6,jj 26 (.bin .mul (kk 10) (.t 25)),mv 27 0,nc 28 27,fa 29 0 28,l1 30 29,mv 31 5,jj 32 (.indexS (.t 30) (.t 31)),jj 33 (.bin .sub (.t 32) (.c (.int .u8 48))),jj 34 (.conv (.int .i64) (.t 33)),bn 35 .add 26 34,jj 36 (.min [(.t 35),(kk 2147483648)]),mv 6 36] [0,1,4,5,6] (rn [mv 37 5,bk 38 .add 37 1,mv 5 38] [0,1,4,5,6]))))
def F267l0:PC:=F267l0x
theorem qgp:run C q F267l0 fr σ = run C q F267l0x fr σ := rfl
def F267:PFun:=pf 2 [.cell 4 true 5] (sr [jj 4 (.alloc [zN,eN,zN,zN,zN])] [0,1,4] (sr [mv 8 1,mv 5 8,mx 6 (kk 0)] [0,1,4,5,6] (.seq (.block 0 (.loop F267l0)) (sr [mv 39 0,nc 40 39,fa 41 0 40,l1 42 41,mv 43 1,mv 44 5,jj 45 (.sliceS (.t 42) (some (.t 43)) (some (.t 44))),mv 46 1,mv 47 6,jj 48 (.build [zN,eN,zN,zN,zN] [(0,1,(kk 4)),(1,1,(.t 45)),(2,1,(.t 46)),(3,1,(.t 47))]),jj 7 (.alloc [zN,eN,zN,zN,zN]),st 5 7 48] [4,6,7] (.seq (sr [mv 49 6,bk 50 .gtr 49 2147483647] [4,7,50] (cs 50 (rn [fa 51 0 7,jn (.store 1 (.t 51) (kk 6)),fa 52 4 7,jn (.store 1 (.t 52) (kk 6))] [4,7]))) (sr [la 53 5 7,st 5 4 53] [4] .ret))))))
def F269:PFun:=pf 2 [.tmp 4] (sr [mx 4 kF] [0,1] (sr [mv 6 0,cl 7 252 [6],jj 5 (.alloc [zN,eN,zN,zN,zN]),st 5 5 7] [1,5] (sr [fa 8 0 5,l1 9 8,bk 10 .neq 9 0,mv 11 10,jt 12 11 (.mov (.t 1)),jt 13 11 (.fieldAddr 1 (.t 5)),jt 14 11 (.load false 1 (.t 13)),jt 15 11 (.call 276 [(.t 12),(.t 14)]),jj 16 (.pick (.t 11) (.t 15) kF),mv 4 16] [4] .ret)))
def F270:PFun:=pf 3 [] (.seq (sr [mv 6 0,mv 7 1,jj 8 (.bslice 1 [eN] [(0,1,(.t 7))]),cl 9 269 [6,8],mv 10 9,jt 11 10 (.mov (.t 2)),jt 12 10 (.bin .gtr (.t 11) (kk 20)),jj 13 (.pick (.t 10) (.t 12) kF)] [0,1,13] (cs 13 (rn [mv 14 0,mv 15 0,cl 16 252 [15],jj 17 (.call 255 [(.t 14),(.t 16),(kk 2)])] [0,1]))) (rn [mv 18 0,mv 19 1,cl 20 253 [18,19]] []))
def F271:PFun:=pf 2 [.cell 4 true 4] (sr [jj 4 (.alloc [zN,zN,eN,sN])] [0,1,4] (sr [mv 9 0,cl 10 252 [9],jj 5 (.alloc [zN,eN,zN,zN,zN]),st 5 5 10] [0,1,4,5] (.seq (.block 0 (sr [fa 12 0 5,l1 13 12,bk 14 .eql 13 1,mv 11 14] [0,1,4,5,11] (.cond (.t 11) (sr [mv 15 0,cl 16 277 [15]] [0,1,4,5] (sr [mv 17 0,jj 18 (.call 253 [(.t 17),(ks [61])])] [0,1,4,5] (.seq (.region (some []) [mv 19 0,fa 20 1 5,⟨some 21,.load false 1 (.t 20),none,[5]⟩,mv 22 0,mv 23 1,cl 24 279 [22,23],jj 25 (.bslice 1 [zN,zN,eN,sN] [(0,4,(.t 24))]),jj 26 (.build [zN,zN,eN,sN] [(0,1,(kk 1)),(2,1,(.t 21)),(3,1,(.t 25))]),cl 27 278 [19,26],st 4 4 27] [4] [5,8]) .ret))) (sr [fa 29 0 5,l1 30 29,bk 31 .eql 30 3,mv 28 31] [0,1,4,5,28] (.cond (.t 28) (sr [mv 32 0,mv 33 1,cl 34 280 [32,33],jj 6 (.alloc [zN,zN,eN,sN]),st 4 6 34] [0,1,4,5,6] (sr [mv 35 0,jj 36 (.call 253 [(.t 35),(ks [61])])] [0,1,4,5,6] (.seq (.region (some []) [mv 37 0,fa 38 1 5,⟨some 39,.load false 1 (.t 38),none,[6]⟩,⟨some 40,.load true 4 (.t 6),none,[6]⟩,mv 41 0,mv 42 1,cl 43 279 [41,42],jj 44 (.bslice 2 [zN,zN,eN,sN,zN,zN,eN,sN] [(0,4,(.t 40)),(4,4,(.t 43))]),jj 45 (.build [zN,zN,eN,sN] [(0,1,(kk 2)),(2,1,(.t 39)),(3,1,(.t 44))]),cl 46 278 [37,45],st 4 4 46] [4] [6,9]) .ret))) (sr [mv 48 0,jj 49 (.bslice 1 [eN] [(0,1,(ks [105,102]))]),cl 50 269 [48,49],mv 47 50] [0,1,4,5,47] (.cond (.t 47) (sr [mv 51 0,mv 52 1,cl 53 281 [51,52],st 4 4 53] [4] .ret) (sr [mv 55 0,jj 56 (.bslice 1 [eN] [(0,1,(ks [119,104,105,108,101]))]),cl 57 269 [55,56],mv 54 57] [0,1,4,5,54] (.cond (.t 54) (sr [mv 58 0,cl 59 277 [58]] [0,1,4] (sr [mv 60 0,mv 61 1,cl 62 279 [60,61],jj 7 (.alloc [zN,zN,eN,sN]),st 4 7 62] [0,1,4,7] (.seq (.region (some []) [⟨some 63,.load true 4 (.t 7),none,[4]⟩,mv 64 0,mv 65 1,bk 66 .add 65 1,cl 67 256 [64,66],jj 68 (.bslice 2 [zN,zN,eN,sN,zN,zN,eN,sN] [(0,4,(.t 63)),(4,4,(.t 67))]),jj 69 (.build [zN,zN,eN,sN] [(0,1,(kk 4)),(3,1,(.t 68))]),st 4 4 69] [4] [4]) .ret))) (sr [mv 71 0,jj 72 (.bslice 1 [eN] [(0,1,(ks [101,102,102,101,99,116]))]),cl 73 269 [71,72],mv 70 73] [0,1,4,5,70] (.cond (.t 70) (sr [mv 74 0,cl 75 277 [74]] [0,1,4] (sr [mv 76 0,mv 77 1,cl 78 279 [76,77],jj 8 (.alloc [zN,zN,eN,sN]),st 4 8 78] [0,1,4,8] (sr [mv 79 0,jj 80 (.call 253 [(.t 79),(ks [44])])] [0,1,4,8] (.seq (.region (some []) [mv 81 0,⟨some 82,.load true 4 (.t 8),none,[4]⟩,mv 83 0,mv 84 1,cl 85 279 [83,84],jj 86 (.bslice 2 [zN,zN,eN,sN,zN,zN,eN,sN] [(0,4,(.t 82)),(4,4,(.t 85))]),jj 87 (.build [zN,zN,eN,sN] [(0,1,(kk 5)),(3,1,(.t 86))]),cl 88 278 [81,87],st 4 4 88] [4] [4,7]) .ret)))) (sr [mv 90 0,jj 91 (.bslice 1 [eN] [(0,1,(ks [115,116,111,112]))]),cl 92 269 [90,91],mv 89 92] [0,4,5,89] (cs 89 (sr [mv 93 0,cl 94 277 [93]] [0,4] (sr [mv 95 0,jj 96 (.build [zN,zN,eN,sN] [(0,1,(kk 6))]),cl 97 278 [95,96],st 4 4 97] [4] .ret))))))))))))))) (sr [mv 98 0,la 99 5 5,jj 100 (.call 255 [(.t 98),(.t 99),(kk 12)])] [4] (sr [jj 101 (.build [zN,zN,eN,sN] []),st 4 4 101] [4] .ret)))))
def F277:PFun:=pf 1 [.cell 2 true 5] (sr [jj 2 (.alloc [zN,eN,zN,zN,zN])] [0,2] (sr [mv 4 0,cl 5 252 [4],jj 3 (.alloc [zN,eN,zN,zN,zN]),st 5 3 5] [0,2,3] (sr [mv 6 0,nc 7 6,fa 8 3 7,l1 9 8,bk 10 .add 9 1,nc 11 6,fa 12 3 11,st 1 12 10] [2,3] (sr [la 13 5 3,st 5 2 13] [2] .ret))))
def F278:PFun:=pf 2 [.cell 4 true 4] (sr [bx 3 1,jj 4 (.alloc [zN,zN,eN,sN])] [0,3,4] (sr [mv 5 0,jj 6 (.call 253 [(.t 5),(ks [59])])] [3,4] (sr [la 7 4 3,st 4 4 7] [4] .ret)))
def F279:PFun:=pf 2 [.cell 4 true 4] (sr [bx 2 0,bx 3 1,jj 4 (.alloc [zN,zN,eN,sN])] [2,3,4] (sr [l1 5 2,jj 6 (.mkfn 286 [] [(.t 2),(.t 3)]),jj 7 (.bslice 1 [eN] [(0,1,(ks [124,124]))]),cl 8 285 [5,6,7],st 4 4 8] [4] .ret))
def F280:PFun:=pf 2 [.cell 4 true 4] (sr [jj 4 (.alloc [zN,zN,eN,sN])] [0,1,4] (sr [mv 6 0,cl 7 277 [6]] [0,1,4] (sr [mv 8 0,mv 9 1,bk 10 .add 9 1,jj 11 (.call 270 [(.t 8),(ks [91]),(.t 10)])] [0,1,4] (sr [mv 12 0,mv 13 1,bk 14 .add 13 1,cl 15 279 [12,14],jj 5 (.alloc [zN,zN,eN,sN]),st 4 5 15] [0,4,5] (sr [mv 16 0,jj 17 (.call 253 [(.t 16),(ks [93])])] [4,5] (sr [la 18 4 5,st 4 4 18] [4] .ret))))))
def F281:PFun:=pf 2 [.cell 4 true 4] (sr [jj 4 (.alloc [zN,zN,eN,sN])] [0,1,4] (sr [mv 8 0,jj 9 (.call 253 [(.t 8),(ks [105,102])])] [0,1,4] (sr [mv 10 0,mv 11 1,cl 12 279 [10,11],jj 5 (.alloc [zN,zN,eN,sN]),st 4 5 12] [0,1,4,5] (sr [mv 13 0,mv 14 1,bk 15 .add 14 1,cl 16 256 [13,15],jj 17 (.build [zN,zN,eN,sN] [(0,1,(kk 7))]),jj 6 (.alloc [zN,zN,eN,sN]),jj 7 (.alloc [zN,zN,eN,sN]),st 4 6 16,st 4 7 17] [0,1,4,5,6,7] (.seq (sr [mv 18 0,jj 19 (.bslice 1 [eN] [(0,1,(ks [101,108,115,101]))]),cl 20 269 [18,19]] [0,1,4,5,6,7,20] (cs 20 (sr [mv 21 0,cl 22 277 [21]] [0,1,4,5,6,7] (rn [mv 23 0,mv 24 1,bk 25 .add 24 1,cl 26 256 [23,25],st 4 7 26] [4,5,6,7])))) (sr [la 27 4 5,la 28 4 6,la 29 4 7,jj 30 (.bslice 3 [zN,zN,eN,sN,zN,zN,eN,sN,zN,zN,eN,sN] [(0,4,(.t 27)),(4,4,(.t 28)),(8,4,(.t 29))]),jj 31 (.build [zN,zN,eN,sN] [(0,1,(kk 3)),(3,1,(.t 30))]),st 4 4 31] [4] .ret))))))
@[simp] def F285l0x:PC:=(.seq (sr [mv 11 0,mv 12 2,cl 13 269 [11,12]] [0,1,2,6,7,13] (.cond (.t 13) .skip (.exit 0))) (.block 1 (sr [mv 14 0,cl 15 277 [14],jj 16 (.field false 1 1 (.t 15)),mv 8 16] [0,1,2,6,7,8] (.region (some []) [mv 17 8,⟨some 18,.load true 4 (.t 7),none,[3]⟩,mv 19 1,jj 20 (.callv (.t 19) []),jj 21 (.bslice 2 [zN,zN,eN,sN,zN,zN,eN,sN] [(0,4,(.t 18)),(4,4,(.t 20))]),jj 22 (.build [zN,zN,eN,sN] [(0,1,(kk 14)),(2,1,(.t 17)),(3,1,(.t 21))]),st 4 7 22] [0,1,2,6,7] [3]))))
def F285l0:PC:=F285l0x
theorem qiH:run C q F285l0 fr σ = run C q F285l0x fr σ := rfl
def F285:PFun:=pf 3 [.cell 6 true 4] (sr [jj 6 (.alloc [zN,zN,eN,sN])] [0,1,2,6] (sr [mv 9 1,jj 10 (.callv (.t 9) []),jj 7 (.alloc [zN,zN,eN,sN]),st 4 7 10] [0,1,2,6,7] (.seq (.block 0 (.loop F285l0)) (sr [la 23 4 7,st 4 6 23] [6] .ret))))
def F286:PFun:=pf 2 [.cell 2 true 4] (sr [jj 2 (.alloc [zN,zN,eN,sN])] [0,1,2] (sr [l1 3 0,l1 4 1,cl 5 287 [3,4],st 4 2 5] [2] .ret))
def F287:PFun:=pf 2 [.cell 4 true 4] (sr [bx 2 0,bx 3 1,jj 4 (.alloc [zN,zN,eN,sN])] [2,3,4] (sr [l1 5 2,jj 6 (.mkfn 289 [] [(.t 2),(.t 3)]),jj 7 (.bslice 1 [eN] [(0,1,(ks [38,38]))]),cl 8 285 [5,6,7],st 4 4 8] [4] .ret))
def F289:PFun:=pf 2 [.cell 2 true 4] (sr [jj 2 (.alloc [zN,zN,eN,sN])] [0,1,2] (sr [l1 3 0,l1 4 1,cl 5 290 [3,4],st 4 2 5] [2] .ret))
def F290:PFun:=pf 2 [.cell 4 true 4] (sr [jj 4 (.alloc [zN,zN,eN,sN])] [0,1,4] (.seq (sr [mv 5 0,jj 6 (.bslice 1 [eN] [(0,1,(ks [33]))]),cl 7 269 [5,6]] [0,1,4,7] (cs 7 (sr [mv 8 0,mv 9 1,bk 10 .add 9 1,jj 11 (.call 270 [(.t 8),(ks [33]),(.t 10)])] [0,1,4] (sr [mv 12 0,mv 13 1,bk 14 .add 13 1,cl 15 290 [12,14],jj 16 (.bslice 1 [zN,zN,eN,sN] [(0,4,(.t 15))]),jj 17 (.build [zN,zN,eN,sN] [(0,1,(kk 13)),(2,1,(ks [33])),(3,1,(.t 16))]),st 4 4 17] [4] .ret)))) (sr [mv 18 0,mv 19 1,cl 20 292 [18,19],st 4 4 20] [4] .ret)))
def F292:PFun:=pf 2 [.cell 4 true 4] (sr [jj 4 (.alloc [zN,zN,eN,sN])] [0,1,4] (sr [mv 7 0,mv 8 1,cl 9 297 [7,8],jj 5 (.alloc [zN,zN,eN,sN]),st 4 5 9] [0,1,4,5] (.seq (sr [mv 10 0,jj 11 (.bslice 6 [eN,eN,eN,eN,eN,eN] [(0,1,(ks [60])),(1,1,(ks [60,61])),(2,1,(ks [62])),(3,1,(ks [62,61])),(4,1,(ks [61,61])),(5,1,(ks [33,61]))]),cl 12 269 [10,11],jj 13 (.un .not (.t 12))] [0,1,4,5,13] (cs 13 (sr [la 14 4 5,st 4 4 14] [4] .ret))) (sr [mv 15 0,cl 16 277 [15],jj 17 (.field false 1 1 (.t 16)),mv 6 17] [0,1,4,5,6] (.seq (.region (some []) [mv 18 6,⟨some 19,.load true 4 (.t 5),none,[4]⟩,mv 20 0,mv 21 1,cl 22 297 [20,21],jj 23 (.bslice 2 [zN,zN,eN,sN,zN,zN,eN,sN] [(0,4,(.t 19)),(4,4,(.t 22))]),jj 24 (.build [zN,zN,eN,sN] [(0,1,(kk 14)),(2,1,(.t 18)),(3,1,(.t 23))]),st 4 4 24] [4] [4]) .ret)))))
def F297:PFun:=pf 2 [.cell 4 true 4] (sr [bx 2 0,bx 3 1,jj 4 (.alloc [zN,zN,eN,sN])] [2,3,4] (sr [l1 5 2,jj 6 (.mkfn 303 [] [(.t 2),(.t 3)]),jj 7 (.bslice 2 [eN,eN] [(0,1,(ks [43])),(1,1,(ks [45]))]),cl 8 285 [5,6,7],st 4 4 8] [4] .ret))
def F303:PFun:=pf 2 [.cell 2 true 4] (sr [jj 2 (.alloc [zN,zN,eN,sN])] [0,1,2] (sr [l1 3 0,l1 4 1,cl 5 304 [3,4],st 4 2 5] [2] .ret))
def F304:PFun:=pf 2 [.cell 4 true 4] (sr [bx 2 0,bx 3 1,jj 4 (.alloc [zN,zN,eN,sN])] [2,3,4] (sr [l1 5 2,jj 6 (.mkfn 307 [] [(.t 2),(.t 3)]),jj 7 (.bslice 2 [eN,eN] [(0,1,(ks [42])),(1,1,(ks [47]))]),cl 8 285 [5,6,7],st 4 4 8] [4] .ret))
def F307:PFun:=pf 2 [.cell 2 true 4] (sr [jj 2 (.alloc [zN,zN,eN,sN])] [0,1,2] (sr [l1 3 0,l1 4 1,cl 5 308 [3,4],st 4 2 5] [2] .ret))
def F308:PFun:=pf 2 [.cell 4 true 4] (sr [jj 4 (.alloc [zN,zN,eN,sN])] [0,1,4] (.seq (sr [mv 5 0,jj 6 (.bslice 1 [eN] [(0,1,(ks [45]))]),cl 7 269 [5,6]] [0,1,4,7] (cs 7 (sr [mv 8 0,mv 9 1,bk 10 .add 9 1,jj 11 (.call 270 [(.t 8),(ks [45]),(.t 10)])] [0,1,4] (sr [mv 12 0,mv 13 1,bk 14 .add 13 1,cl 15 308 [12,14],jj 16 (.bslice 1 [zN,zN,eN,sN] [(0,4,(.t 15))]),jj 17 (.build [zN,zN,eN,sN] [(0,1,(kk 13)),(2,1,(ks [45])),(3,1,(.t 16))]),st 4 4 17] [4] .ret)))) (sr [mv 18 0,mv 19 1,cl 20 309 [18,19],st 4 4 20] [4] .ret)))
def F309:PFun:=pf 2 [.cell 4 true 4] (sr [jj 4 (.alloc [zN,zN,eN,sN])] [0,1,4] (sr [mv 7 0,cl 8 252 [7],jj 5 (.alloc [zN,eN,zN,zN,zN]),st 5 5 8] [0,1,4,5] (.seq (.block 0 (sr [fa 10 0 5,l1 11 10,bk 12 .eql 11 4,mv 9 12] [0,1,4,5,9] (.cond (.t 9) (sr [mv 13 0,cl 14 277 [13]] [4,5] (sr [fa 15 3 5,l1 16 15,jj 17 (.build [zN,zN,eN,sN] [(0,1,(kk 8)),(1,1,(.t 16))]),st 4 4 17] [4] .ret)) (sr [fa 19 0 5,l1 20 19,bk 21 .eql 20 1,mv 18 21] [0,1,4,5,18] (.cond (.t 18) (sr [mv 22 0,cl 23 277 [22]] [4,5] (sr [fa 24 1 5,l1 25 24,jj 26 (.build [zN,zN,eN,sN] [(0,1,(kk 10)),(2,1,(.t 25))]),st 4 4 26] [4] .ret)) (sr [fa 28 0 5,l1 29 28,bk 30 .eql 29 3,mv 27 30] [0,1,4,5,27] (.cond (.t 27) (.seq (.region (some []) [fa 31 1 5,⟨some 32,.load false 1 (.t 31),none,[4]⟩,mv 33 0,mv 34 1,cl 35 280 [33,34],jj 36 (.bslice 1 [zN,zN,eN,sN] [(0,4,(.t 35))]),jj 37 (.build [zN,zN,eN,sN] [(0,1,(kk 11)),(2,1,(.t 32)),(3,1,(.t 36))]),st 4 4 37] [4] [4]) .ret) (sr [mv 39 0,jj 40 (.bslice 1 [eN] [(0,1,(ks [116,114,117,101]))]),cl 41 269 [39,40],mv 38 41] [0,1,4,5,38] (.cond (.t 38) (sr [mv 42 0,cl 43 277 [42]] [4] (sr [jj 44 (.build [zN,zN,eN,sN] [(0,1,(kk 9)),(1,1,(kk 1))]),st 4 4 44] [4] .ret)) (sr [mv 46 0,jj 47 (.bslice 1 [eN] [(0,1,(ks [102,97,108,115,101]))]),cl 48 269 [46,47],mv 45 48] [0,1,4,5,45] (.cond (.t 45) (sr [mv 49 0,cl 50 277 [49]] [4] (sr [jj 51 (.build [zN,zN,eN,sN] [(0,1,(kk 9))]),st 4 4 51] [4] .ret)) (sr [mv 53 0,jj 54 (.bslice 3 [eN,eN,eN] [(0,1,(ks [115,101,108,102])),(1,1,(ks [111,116,104,101,114])),(2,1,(ks [116,105,99,107]))]),cl 55 269 [53,54],mv 52 55] [0,1,4,5,52] (cs 52 (sr [mv 56 0,cl 57 277 [56]] [4,5] (sr [fa 58 1 5,l1 59 58,jj 60 (.build [zN,zN,eN,sN] [(0,1,(kk 12)),(2,1,(.t 59))]),st 4 4 60] [4] .ret))))))))))))))) (sr [mv 61 0,mv 62 1,bk 63 .add 62 1,jj 64 (.call 270 [(.t 61),(ks [40]),(.t 63)])] [0,1,4] (sr [mv 65 0,mv 66 1,bk 67 .add 66 1,cl 68 279 [65,67],jj 6 (.alloc [zN,zN,eN,sN]),st 4 6 68] [0,4,6] (sr [mv 69 0,jj 70 (.call 253 [(.t 69),(ks [41])])] [4,6] (sr [la 71 4 6,st 4 4 71] [4] .ret)))))))
end Go.Pm.F
end
section
namespace Go.Pm.F
variable(C:Task->Option Res)(q:Nat)(fr:Fr)(σ : S)
def F268:PFun:=pf 2 [.tmp 4] (sr [mx 4 (kk 0)] [0,1] (sr [mv 5 0,mv 6 1,cl 7 275 [5,6],mv 4 7] [4] .ret))
def F275:PFun:=pf 2 [.tmp 4] (sr [mx 4 (kk 0)] [0,1] (sr [mv 5 0,mv 6 1,jj 7 (.idxb (.t 5) (.t 6)),mv 4 7] [4] .ret))
def F276:PFun:=pf 2 [.tmp 4] (sr [mx 4 kF] [0,1] (sr [mv 5 0,mv 6 1,cl 7 284 [5,6],bk 8 .geq 7 0,mv 4 8] [4] .ret))
@[simp] def F284l0x:PC:=(sr [bn 9 .lss 8 7] [0,1,7,8,9] (.seq (.cond (.t 9) .skip (.exit 0)) (.seq (.block 1 (sr [mv 10 8,mv 5 10] [0,1,5,7,8] (sr [mv 11 1,mv 12 0,mv 13 5,jj 14 (.indexAddr 1 (.t 12) (.t 13)),l1 15 14,bn 16 .eql 11 15] [0,1,5,7,8,16] (cs 16 (sr [mv 17 5,mv 4 17] [4] .ret))))) (rn [bk 18 .add 8 1,mv 8 18] [0,1,7,8]))))
def F284l0:PC:=F284l0x
theorem qe5:run C q F284l0 fr σ = run C q F284l0x fr σ := rfl
def F284:PFun:=pf 2 [.tmp 4] (sr [mx 4 (kk 0)] [0,1] (.seq (sr [mv 6 0,ls 7 6,mx 8 (kk 0)] [0,1,7,8] (.block 0 (.loop F284l0))) (sr [mx 4 (kk (-1))] [4] .ret)))
end Go.Pm.F
end
section
namespace Go.Pm.F
def tQ:Nat->Option PFun
 |264=>some F264
 |266=>some F266
 |_=>none
end Go.Pm.F
end
namespace Go.Pm
section
open F
def vb(w:List UInt8):List V:=w.map fun b => .dat (.lit (.int .u8 b.toNat))
theorem qo8(w:List UInt8):qaz (vb w)=[]:=by
 induction w with
 |nil=>rfl
 |cons x w ih=>simpa [vb] using ih
theorem qsu(r:Nat->Nat)(w:List UInt8):qd6 r (vb w)=vb w:=by
 induction w with
 |nil=>rfl
 |cons x w ih=>simpa [vb] using ih
attribute [local simp] qo8 qsu
end
section
open F
def lastC(w:List UInt8):UInt8:=(w.getLast?).getD 0
def wl(w:List UInt8):Bool:=qay (lastC w)
def pw(w:List UInt8)(ts:List ByteArray):List UInt8:=w++qaI (wl w) ts
theorem qwB:wl []=false:=by decide
theorem qo9(w r:List UInt8)(h:r≠[]):lastC (w++r)=lastC r:=by
 unfold lastC
 rw[List.getLast?_append]
 cases hr:r.getLast? with
 |none=>exact absurd (Yh.1 hr) h
 |some c=>rfl
theorem qrc(w:List UInt8)(t:ByteArray):qb3 (wl w) t=wl (w++(gap (wl w) t++byl t)):=by
 unfold qb3
 cases h:byl t with
 |nil=>
  have hs:qaJ qay t=false:=by rw[qbr,h]; rfl
  simp[gap,hs]
 |cons c r=>
  have hne:c::r≠[]:=by simp
  rw[<- List.append_assoc,show wl (w++gap (wl w) t++c::r)=qay (lastC (c::r)) by unfold wl; rw[qo9 _ _ hne]]
  unfold lastC
  cases hl:(c::r).getLast? with
  |none=>exact absurd (Yh.1 hl) hne
  |some d=>rfl
theorem qdO(w:List UInt8)(t:ByteArray)(ts:List ByteArray):pw w (t::ts)=pw (w++(gap (wl w) t++byl t)) ts:=by
 unfold pw
 rw[qaI,qrc,Wo,Wo]
theorem qg0(w:List UInt8):pw w []=w:=by simp[pw,qaI]
theorem qmH(w:List UInt8)(a b:List ByteArray):pw w (a++b)=pw (pw w a) b:=by
 induction a generalizing w with
 |nil=>rw[Wg,qg0]
 |cons t a ih=>rw[Wh,qdO,qdO,ih]
theorem qwC(w:List UInt8)(ts:List ByteArray):w.length<=(pw w ts).length:=by simp[pw]
theorem qrd{t:ByteArray}(h:t.size≠0) : ∃ b,t[0]?=some b/\qaJ qay t=qay b:=by
 have hd:=qgH t 0
 rw[WT] at hd
 cases hb:byl t with
 |nil=>exact absurd (by rw[<- qaW,hb]; rfl) h
 |cons b r=>
  rw[hb] at hd
  exact⟨b,hd,by rw[qbr,hb]; rfl⟩
theorem qtX{t:ByteArray}(h:t.size≠0):t[t.size-1]?=some (lastC (byl t)):=by
 rw[qgH,List.head?_drop,<- qaW,lastC]
 rw[List.getLast?_eq_getElem?]
 cases hg:(byl t)[(byl t).length-1]? with
 |some c=>rfl
 |none=>
  rw[List.getElem?_eq_none_iff] at hg
  have:=qaW t
  omega
attribute [local simp] qo8 qsu
end
section
def E.lev:E->Nat
 |.un _ neg _=>qfh neg
 |.bin _ o _ _=>o.prec
 |_=>8
theorem qsO : ∀ {l:List ByteArray},Ok2 l -> ∀ t∈l,Tg (byl t)
 |[],_,t,h=>by cases h
 |u::l,ho,t,h=>by
  rcases Wp.1 h with rfl|h
  ·exact ho.1
  ·exact qsO ho.2.2 t h
theorem qrO{s:ByteArray}(h:Tg (byl s)):s.size≠0:=by
 obtain⟨c,r,e,_⟩:=qeJ h
 intro h0
 rw[<- qaW,e] at h0
 cases h0
theorem quI(ts:List ByteArray):pw [] ts=qaI false ts:=by rw[pw,qwB,Wg]
def Hd.opt:Hd->Option Ss
 |.none=>Option.none
 |.some _ b=>Option.some b
def Hd.opts(a b c:Hd):Nat->Option Ss
 |0=>a.opt
 |1=>b.opt
 |_=>c.opt
end
end Go.Pm
section
namespace Go.Pm.F
variable(C:Task->Option Res)(q:Nat)(fr:Fr)(σ : S)
def F192:PFun:=pf 1 [.tmp 2] (sr [mx 2 kF] [0] (sr [mv 3 0,jj 4 (.bin .geq (.t 3) (.c (.int .u8 97))),mv 5 4,jt 6 5 (.mov (.t 0)),jt 7 5 (.bin .leq (.t 6) (.c (.int .u8 122))),jj 8 (.pick (.t 5) (.t 7) kF),mv 2 8] [2] .ret))
def F193:PFun:=pf 1 [.tmp 2] (sr [mx 2 kF] [0] (sr [mv 3 0,jj 4 (.bin .geq (.t 3) (.c (.int .u8 48))),mv 5 4,jt 6 5 (.mov (.t 0)),jt 7 5 (.bin .leq (.t 6) (.c (.int .u8 57))),jj 8 (.pick (.t 5) (.t 7) kF),mv 2 8] [2] .ret))
end Go.Pm.F
end
section
namespace Go.Pm.F
def tR:Nat->Option PFun
 |192=>some F192
 |193=>some F193
 |_=>none
end Go.Pm.F
end
namespace Go.Pm
section
open F
structure RowS(d:D)(l:List ByteArray):Prop where
 len : ∀ σ,V.len σ .sl (.dat d)=some l.length
 at_ : ∀ i:Nat,i<l.length->qag 1 (.dat d) i=some (.dat (.imm (qbJ l) i))
 one:V.one (.dat d)=true
 cells:V.cells (.dat d)=[.dat d]
theorem qaN(l:List ByteArray)(f:Bool):RowS (.sl (qbJ l) l.length f) l where
 len _:=rfl
 at_ i h:=by simp[qag,h]
 one:=rfl
 cells:=rfl
theorem quE(s:ByteArray)(i:Nat):s[i]?=s.data.toList[i]?:=by
 by_cases h:i<s.size
 ·rw[getElem?_pos s i h,WG (by rw[WA]; exact h)]
  simp[ByteArray.getElem_eq_getElem_data]
 ·rw[getElem?_neg s i h,W0 (by rw[WA]; exact Nat.not_lt.1 h)]
theorem qpt{s:ByteArray}{i:Nat}(h:i<s.size) : ∃ c,s[i]?=some c/\s.data.toList[i]?=some c:=by
 refine⟨s.data.toList[i]'(by rw[WA]; exact h),?_,WG _⟩
 rw[quE]
 exact WG _
end
section
open F
theorem qic{s:ByteArray}{i:Nat}{c:UInt8}(h:s.data.toList[i]?=some c):(byl s).drop i=c::(byl s).drop (i+1):=by
 have hi:=(Wc.1 h)
 obtain⟨h1,h2⟩:=hi
 rw[<- h2]
 exact WC h1
end
section
open F
theorem qr6(eS eL eR:Nat)(c:UInt8)(r:List UInt8):1<=(tokL eS eL eR (c::r)).1.length/\(tokL eS eL eR (c::r)).1.length<=r.length+1:=by
 have h1:=qfD qay (c::r)
 have h2:=qfD qau (c::r)
 simp only[tokL]
 split
 ·rename_i h
  have hw:qay c=true:=by simp[qay,h]
  have:1<=qbO qay (c::r):=by simp only[qbO,hw,if_true]; omega
  simp only[WL,Wd] at h1 ⊢
  omega
 split
 ·rename_i h
  have:1<=qbO qau (c::r):=by simp only[qbO,h,if_true]; omega
  simp only[WL,Wd] at h2 ⊢
  omega
 split
 ·rename_i h
  have:=qff h
  rw[qa1] at this
  simp only[WL,Wd] at this ⊢
  omega
 split<;>simp
theorem qpZ{s:ByteArray}{i:Nat}(hi:i<s.size)(eS eL eR:Nat):1<=(qgn eS eL eR s i).s.size/\i+(qgn eS eL eR s i).s.size<=s.size:=by
 obtain⟨c,h1,h2⟩:=qpt hi
 have hd:=qic h2
 rw[qfg]
 simp only[qa1]
 rw[hd]
 have:=qr6 eS eL eR c ((byl s).drop (i+1))
 rw[W5,qaW] at this
 omega
def qAb:List Tk->List Tk
 |[]=>[]
 |t::r=>if t.bad≠0\/t.s.size=0 then [t] else t::qAb r
end
section
open F
structure Ps where
 i:Nat
 a:Nat
 e:Nat
def qv5(T:List Tk)(i:Nat):Tk:=T.getD i ⟨0,⟨#[]⟩,0⟩
def qS:ByteArray:=bs [63]
end
section
open F
structure TokP(t:Tk):Prop where
 q:t.bad=0->t.s≠qS
 dig:t.bad=0->qaJ qau t.s=true->(∀ c∈t.s.data.toList,qau c=true)/\digV t.s.data.toList<=2147483647/\t.s.size<2 ^ 40
structure WfT(T:List Tk):Prop where
 len:T.length<2 ^ 40
 tok : ∀ t∈T,TokP t
 pos : ∀ i,i+1<T.length->(qv5 T i).s.size≠0
 last : ∀ i,i+1=T.length->(qv5 T i).s=⟨#[]⟩/\(qv5 T i).bad=0
structure Gd(T:List Tk)(s:Ps)(ts:List Tk):Prop where
 e:s.e=0
 a:s.a=0
 lt:s.i<T.length
 ts:qAb (T.drop s.i)=ts
structure Er(T:List Tk)(s:Ps)(p c:Nat):Prop where
 lt:s.i<T.length
 c0:c≠0
 or:(s.e=c/\s.a=p)\/(s.e=0/\(qv5 T s.i).bad=c/\(qv5 T s.i).at_=p)
end
section
open F
section
variable{T:List Tk}{s:Ps}{lv:Nat}
abbrev k1(k n:Int)(y:ByteArray)(ks:D):D := .sl [.lit (.int .i64 k),.lit (.int .i64 n),.lit (.string y),ks] 1 true
abbrev k2(k n:Int)(y:ByteArray)(ks:D)(k' n':Int)(y':ByteArray)(ks':D):D := .sl [.lit (.int .i64 k),.lit (.int .i64 n),.lit (.string y),ks,.lit (.int .i64 k'),.lit (.int .i64 n'),.lit (.string y'),ks'] 2 true
abbrev k3(k n:Int)(y:ByteArray)(ks:D)(k' n':Int)(y':ByteArray)(ks':D)(k'' n'':Int)(y'':ByteArray)(ks'':D):D := .sl [.lit (.int .i64 k),.lit (.int .i64 n),.lit (.string y),ks,.lit (.int .i64 k'),.lit (.int .i64 n'),.lit (.string y'),ks',.lit (.int .i64 k''),.lit (.int .i64 n''),.lit (.string y''),ks''] 3 false
end
end
section
open F
structure N4 where
 k:Int
 n:Int
 s:ByteArray
 d:D
 one:V.one (.dat d)=true
 cl:V.cells (.dat d)=[.dat d]
abbrev rob(r:Nat->N4):Ob := .cells [.int (r 0).k,.int (r 0).n,.str (r 0).s,.dat (r 0).d,.int (r 1).k,.int (r 1).n,.str (r 1).s,.dat (r 1).d,.int (r 2).k,.int (r 2).n,.str (r 2).s,.dat (r 2).d]
def qxK(r:Nat->N4)(k:Nat)(v:N4):Nat->N4:=fun i=>if i=k then v else r i
abbrev qvm:Ob := .cells [.int 0,.int 0,.str ⟨#[]⟩,.dat (.lit (.slice none 0 0)),.int 0,.int 0,.str ⟨#[]⟩,.dat (.lit (.slice none 0 0)),.int 0,.int 0,.str ⟨#[]⟩,.dat (.lit (.slice none 0 0))]
section
variable{T:List Tk}{s:Ps}{r:Nat->N4}
def qkp:Option Ss->N4
 |none=>⟨0,0,⟨#[]⟩,.lit (.slice none 0 0),rfl,rfl⟩
 |some b=>⟨7,0,⟨#[]⟩,kd false b.fo.len b.fo.cells,by simp,by simp⟩
end
end
section
open F
def toks(s:ByteArray):List Tk:=qdC 12 2 6 s (s.size+1) 0
abbrev qvu(r:Nat->N4):V := .dat (.agg [.lit (.int .i64 (r 0).k),.lit (.int .i64 (r 0).n),.lit (.string (r 0).s),(r 0).d,.lit (.int .i64 (r 1).k),.lit (.int .i64 (r 1).n),.lit (.string (r 1).s),(r 1).d,.lit (.int .i64 (r 2).k),.lit (.int .i64 (r 2).n),.lit (.string (r 2).s),(r 2).d])
end
section
inductive Red:List ByteArray->List ByteArray->Prop
 |nil:Red [] []
 |keep {t:ByteArray} {l m:List ByteArray} (h:Red l m):Red (t::l) (t::m)
 |del {t:ByteArray} {l m:List ByteArray} (h0:t.size≠0) (h:Red l m):Red (t::l) m
 |dig {t u:ByteArray} {l m:List ByteArray} (h0:u.size<=t.size) (h1 : ∀ p,qb3 p u=qb3 p t) (h2:qaJ qay u=qaJ qay t) (h:Red l m):Red (t::l) (u::m)
end
section
theorem qmq : ∀ (j n k:Nat),n<10 ^ (k+1)->(qjT j n).length<=k+1
 |0,n,k,_=>by simp[qjT]
 |j+1,n,k,h=>by
  simp only[qjT]
  split
  ·simp
  ·rename_i h10
   cases k with
   |zero=>simp at h; omega
   |succ k=>
    have:=qmq j (n / 10) k (by rw[Nat.pow_succ] at h; omega)
    rw[Wb]
    simp
    omega
end
section
def qlp(g:List UInt8):Prop := ∀ r,qa4 false (g++r)=g.length+qa4 false r
theorem qex:qlp []:=fun r=>by simp
theorem qhz{c:UInt8}(h:c.toNat=32\/c.toNat=9\/c.toNat=10):qlp [c]:=fun r=>by
 simp only[Wh,Wg,qa4,Wr]
 by_cases h10:c.toNat=10
 ·rw[if_pos h10]; omega
 ·rw[if_neg h10,if_pos (by rcases h with h|h|h; exact .inr (.inl h); exact .inr (.inr h); exact absurd h h10)]; omega
theorem qqe{w:List UInt8}(h:Tg w)(r:List UInt8):qa4 false (w++r)=0:=by
 obtain⟨c,q,hw,h1,h2,h3,h4⟩:=qeJ h
 rw[hw]
 simp[qa4,h1,h2,h3,h4]
def qdL:List (List UInt8 × ByteArray)->List UInt8
 |[]=>[]
 | (g,t)::r=>g++(byl t++qdL r)
def Sep(t:ByteArray)(g:List UInt8)(u:ByteArray):Prop:=(∃ c q,g=c::q/\(c.toNat=32\/c.toNat=10\/c.toNat=9\/c.toNat=35))\/(g=[]/\(qb3 false t&&qaJ qay u)=false/\Adj t u)
def OkG:List (List UInt8 × ByteArray)->Prop
 |[]=>True
 | (g,t)::r=>qlp g/\Tg (byl t)/\(∀ p,r.head?=some p->Sep t p.1 p.2)/\OkG r
theorem qkg{w:List UInt8}(h:Tg w){c:UInt8}(hc:c.toNat=32\/c.toNat=10\/c.toNat=9\/c.toNat=35)(r:List UInt8):Fol w (c::r):=by
 have hw:qay c=false:=by
  simp only[qay,qa7,qau,Yy,WZ,decide_eq_false_iff_not]
  omega
 have hd:qau c=false:=by
  simp only[qau,WZ,decide_eq_false_iff_not]
  omega
 obtain⟨a,q,rfl,-⟩:=qeJ h
 simp only[Fol]
 split
 ·exact hw
 split
 ·exact hd
 ·intro _ hp
  rcases pair_cases hp with h|h|h|h|h|h<;>simp only[WW,and_true] at h<;>rw[h.2] at hc<;>exact absurd hc (by decide)
theorem qs0(w:List UInt8):Fol w []:=by cases w<;>trivial
theorem qmb{w:ByteArray}(h:Tg (byl w))(p q:Bool):qb3 p w=qb3 q w:=by
 obtain⟨c,r,hw,-⟩:=qeJ h
 unfold qb3
 rw[hw]
 cases hl:(c::r).getLast? with
 |none=>simp at hl
 |some b=>rfl
theorem qkh (eS eL eR:Nat) : ∀ (l:List (List UInt8 × ByteArray)) (n i:Nat) (tail:List UInt8),OkG l->(∀ p,l.getLast?=some p->Fol (byl p.2) tail)->l.length<=n ->
  ∃ ts,qsT eS eL eR n i (qdL l++tail)=ts++qsT eS eL eR (n-l.length) (i+(qdL l).length) tail /\ ∀ r,Hx (l.map (·.2)) (ts++r) r
 |[],n,i,tail,_,_,_=>⟨[],by simp[qdL],fun r=>rfl⟩
 | (g,t)::l,0,i,tail,_,_,h=>by simp at h
 | (g,t)::l,n+1,i,tail,ho,hl,h=>by
  obtain⟨hg,ht,ha,ho'⟩:=ho
  have hf:Fol (byl t) (qdL l++tail):=by
   cases l with
   |nil=>exact hl (g,t) rfl
   |cons u us=>
    obtain⟨g',u⟩:=u
    simp only[qdL,Wo]
    rcases ha (g',u) rfl with ⟨c,q,h1,h2⟩|⟨h1,h2,h3⟩
    ·simp only at h1
     rw[h1]
     exact qkg ht h2 _
    ·simp only at h1 h2 h3
     rw[h1]
     have:=qq5 (p:=false) ht ho'.2.1 h3 (qdL us++tail)
     rwa [gap,h2] at this
  have hsk:qa4 false (g++(byl t++(qdL l++tail)))=g.length:=by rw[hg,qqe ht]; omega
  have htk:=qo2 eS eL eR ht hf
  have hne:(byl t).length≠0:=by
   obtain⟨c,w,hw,-⟩:=qeJ ht
   rw[hw]; simp
  obtain⟨ts,e1,e2⟩:=qkh eS eL eR l n (i+g.length+t.size) tail ho' (fun u hu=>hl u (by
   cases l with
   |nil=>cases hu
   |cons v vs=>rw[Yo]; exact hu)) (by simpa using h)
  refine⟨⟨i+g.length,t,0⟩::ts,?_,fun r=>⟨⟨i+g.length,t,0⟩,ts++r,rfl,rfl,rfl,e2 r⟩⟩
  simp only[qdL,Wo,qsT,hsk,List.drop_left,htk]
  rw[if_neg (by
   rintro (h|h)
   ·exact h rfl
   ·exact hne h)]
  rw[qdz,qaW,e1]
  simp only[Wh,Wb,Wd,qaW]
  congr 3<;>omega
theorem qiv (eS eL eR:Nat) {l:List (List UInt8 × ByteArray)} {w:List UInt8} (ho:OkG l) (hw:qlp w) (hsep:w=[] \/ ∃ c q,w=c::q/\(c.toNat=32\/c.toNat=10\/c.toNat=9\/c.toNat=35)) {s:ByteArray} (hs:byl s=qdL l++w) :
  ∃ e,Hx (l.map (·.2)) (qdC eS eL eR s (s.size+1) 0) [⟨e,⟨#[]⟩,0⟩]:=by
 have htgs : ∀ p∈l,Tg (byl p.2):=by
  induction l with
  |nil=>intro p hp; cases hp
  |cons q l ih=>
   intro p hp
   obtain⟨g,t⟩:=q
   rcases Wp.1 hp with rfl|hp
   ·exact ho.2.1
   ·have hl : ∀ (l:List (List UInt8 × ByteArray)),OkG l -> ∀ p∈l,Tg (byl p.2):=fun l=>by
     induction l with
     |nil=>intro _ p hp; cases hp
     |cons q l ih=>intro h p hp; rcases Wp.1 hp with rfl|hp; exact h.2.1; exact ih h.2.2.2 p hp
    exact hl l ho.2.2.2 p hp
 have hlen:l.length<=(qdL l).length:=by
  clear ho hs
  induction l with
  |nil=>simp
  |cons q l ih=>
   obtain⟨g,t⟩:=q
   have h1:=htgs (g,t) (WQ ..)
   obtain⟨c,w,hw,-⟩:=qeJ h1
   have:=ih fun p hp=>htgs p (Wz _ hp)
   simp only[qdL,Wb,Wd]
   have h2:1<=(byl t).length:=by simp only at hw; rw[hw]; simp
   omega
 have hsz:s.size=(qdL l).length+w.length:=by rw[<- qaW,hs,Wb]
 rw[qm0,WT,hs]
 obtain⟨ts,e1,e2⟩:=qkh eS eL eR l (s.size+1) 0 w ho (fun p hp=>by
  have ht:=htgs p (List.mem_of_getLast? hp)
  rcases hsep with h|⟨c,q,h1,h2⟩
  ·rw[h]; exact qs0 _
  ·rw[h1]; exact qkg ht h2 _) (by omega)
 rw[e1]
 obtain⟨k,hk⟩ : ∃ k,s.size+1-l.length=k+1:=⟨s.size-l.length,by omega⟩
 have hend : ∀ j,qsT eS eL eR (k+1) j w=[⟨j+w.length,⟨#[]⟩,0⟩]:=fun j=>by
  have h1:qa4 false w=w.length:=by
   have:=hw []
   rw[WD] at this
   rw[this]; simp[qa4]
  simp only[qsT,h1,List.drop_length,tokL]
  rw[if_pos (.inr rfl)]
  rfl
 rw[hk,hend]
 exact⟨_,e2 _⟩
end
section
theorem qpY{ts:List ByteArray}(hcl:Ok2 ts) : ∃ e,Hx ts (toks (bs (qaI false ts))) [⟨e,⟨#[]⟩,0⟩]:=by
 obtain⟨l,hl,hm⟩ : ∃ l:List (List UInt8 × ByteArray),OkG l/\l.map (·.2)=ts/\qdL l=qaI false ts:=by
  have key : ∀ (ts:List ByteArray) (p:Bool),Ok2 ts -> ∃ l:List (List UInt8 × ByteArray),OkG l/\l.map (·.2)=ts/\qdL l=qaI p ts/\(∀ q,l.head?=some q -> ∃ t,ts.head?=some t/\q=(gap p t,t)):=by
   intro ts
   induction ts with
   |nil=>intro p _; exact⟨[],trivial,rfl,rfl,fun q h=>by cases h⟩
   |cons t ts ih=>
    intro p ho
    obtain⟨l,l1,l2,l3,l4⟩:=ih (qb3 p t) ho.2.2
    have hwg:qlp (gap p t):=by
     unfold gap
     split
     ·exact qhz (.inl rfl)
     ·exact qex
    refine⟨(gap p t,t)::l,⟨hwg,ho.1,fun q hq=>?_,l1⟩,by simp[l2],by simp[qdL,qaI,l3],fun q hq=>⟨t,rfl,by cases hq; rfl⟩⟩
    obtain⟨u,hu,rfl⟩:=l4 q hq
    have hadj:=ho.2.1 u hu
    simp only
    by_cases hgap:(qb3 p t&&qaJ qay u)=true
    ·left
     exact⟨32,[],by simp[gap,hgap],.inl rfl⟩
    ·right
     have hgap':(qb3 p t&&qaJ qay u)=false:=by simpa using hgap
     refine⟨by simp[gap,hgap'],?_,hadj⟩
     rw[qmb ho.1 false p]
     exact hgap'
  obtain⟨l,l1,l2,l3,_⟩:=key ts false hcl
  exact⟨l,l1,l2,l3⟩
 have:=qiv 12 2 6 hl qex (.inl rfl) (s:=bs (qaI false ts)) (by rw[qbg,hm.2,WD])
 rw[hm.1] at this
 exact this
end
end Go.Pm
section
namespace Go.Pm.F
variable(C:Task->Option Res)(q:Nat)(fr:Fr)(σ : S)
@[simp] def F15a0x:PC:=(rn [jj 7 (.alloc [zN,zN,eN,sN]),st 4 7 18] [3,4,7])
def F15a0:PC:=F15a0x
theorem qeu:run C q F15a0 fr σ = run C q F15a0x fr σ := rfl
@[simp] def F15b0x:PC:=(.block 3 (.seq (sr [fa 19 0 7,l1 20 19,bk 21 .neq 20 1,mv 22 21,jt 23 22 (.fieldAddr 0 (.t 7)),jt 24 22 (.load false 1 (.t 23)),jt 25 22 (.bin .neq (.t 24) (kk 10)),jj 26 (.pick (.t 22) (.t 25) kF)] [3,4,7,26] (cs 26 (.exit 3))) (sr [l1 28 4,fa 29 2 7,l1 30 29,jj 31 (.lookup .s zN (.t 28) (.t 30) true),mv 27 31,ex 32 27 0,ex 33 27 1,mv 8 32,mv 9 33] [3,4,7,9] (sr [mv 34 9,jj 35 (.un .not (.t 34))] [3,4,7,35] (cs 35 (sr [l1 36 4,fa 37 2 7,l1 38 37,l1 39 3,ls 40 39,jn (.mapset .s (.t 36) (.t 38) (.t 40))] [3,7] (rn [l1 41 3,fa 42 2 7,l1 43 42,jj 44 (.bslice 1 [eN] [(0,1,(.t 43))]),jj 45 (.append 1 16 (.t 41) (.t 44)),st 1 3 45] [])))))))
def F15b0:PC:=F15b0x
theorem qev:run C q F15b0 fr σ = run C q F15b0x fr σ := rfl
@[simp] def F15l0x:PC:=(sr [bk 14 .lss 13 3] [3,4,12,13,14] (.seq (.cond (.t 14) .skip (.exit 0)) (.seq (.block 1 (sr [jj 15 (.indexA true 3 4 (.t 12) (.t 13)),jj 6 (.alloc [zN,zN,eN,sN]),st 4 6 15] [3,4,6,12,13] (sr [la 16 4 6,cl 17 32 [16]] [3,4,12,13,17] (.block 2 (.range (.t 17) [18] F15a0 F15b0))))) (rn [bk 46 .add 13 1,mv 13 46] [3,4,12,13]))))
def F15l0:PC:=F15l0x
theorem qb9:run C q F15l0 fr σ = run C q F15l0x fr σ := rfl
theorem qbh:F15a0.flat=true:=rfl
theorem qbi:F15b0.flat=true:=rfl
def F15:PFun:=pf 1 [.tmp 2] (sr [bx 1 0,jj 2 (.mov (.c (.slice none 0 0)))] [1] (sr [jj 3 (.alloc [sN])] [1,3] (sr [jj 10 (.mkmap),jj 4 (.alloc [(.lit (.map none))]),st 1 4 10] [1,3,4] (.seq (sr [fa 11 0 1,la 12 12 11,mx 13 (kk 0)] [3,4,12,13] (.block 0 (.loop F15l0))) (sr [l1 47 3,mv 2 47] [2] .ret)))))
def F32:PFun:=pf 1 [.tmp 2] (sr [bx 1 0,jj 2 (.mov (.c .nilFunc))] [1] (sr [jj 3 (.mkfn 38 [] [(.t 1)]),mv 2 3] [2] .ret))
def F38:PFun:=pf 2 [] (rn [la 3 4 1,mv 4 0,cl 5 39 [3,4]] [])
@[simp] def F39l0x:PC:=(sr [bn 15 .lss 14 13] [1,12,13,14,15] (.seq (.cond (.t 15) .skip (.exit 0)) (.seq (.block 1 (sr [jj 16 (.indexAddr 4 (.t 12) (.t 14)),la 17 4 16,jj 6 (.alloc [zN,zN,eN,sN]),st 4 6 17] [1,6,12,13,14] (sr [la 18 4 6,mv 19 1,cl 20 39 [18,19],jj 21 (.un .not (.t 20))] [1,12,13,14,21] (cs 21 (sr [mx 4 kF] [4] .ret))))) (rn [bk 22 .add 14 1,mv 14 22] [1,12,13,14]))))
def F39l0:PC:=F39l0x
theorem qdj:run C q F39l0 fr σ = run C q F39l0x fr σ := rfl
def F39:PFun:=pf 2 [.tmp 4] (sr [bx 2 0,mx 4 kF] [1,2] (.seq (sr [mv 7 1,la 8 4 2,jj 9 (.callv (.t 7) [(.t 8)]),jj 10 (.un .not (.t 9))] [1,2,10] (cs 10 (sr [mx 4 kF] [4] .ret))) (.seq (sr [fa 11 3 2,l1 12 11,ls 13 12,mx 14 (kk 0)] [1,12,13,14] (.block 0 (.loop F39l0))) (sr [mx 4 kT] [4] .ret))))
end Go.Pm.F
end
section
namespace Go.Pm.F
def qaD:Nat->Option PFun
 |15=>some F15
 |32=>some F32
 |38=>some F38
 |39=>some F39
 |_=>none
def qzT:Nat->Option PFun
 |15=>some F15
 |32=>some F32
 |38=>some F38
 |39=>some F39
 |_=>none
end Go.Pm.F
end
namespace Go.Pm
section
open F
inductive NmSt:S->V->S->Nat->List ByteArray->Ob->Prop
 |a (l:List ByteArray) (x:Ob):NmSt [] (.dat (qlW l)) [x] 0 l x
 |b (l:List ByteArray) (x:Ob) (m:Nat) (h:l≠[]):NmSt [] (.gsl (qbJ l) l.length 1 0) [.tip m,x] 1 l x
abbrev qbt(k n:Int)(s:ByteArray)(d:D):Ob := .cells [.int k,.int n,.str s,.dat d]
end
section
open F
attribute [local simp] dkey
def mapM:Nat->List ByteArray->List (Value × V)
 |_,[]=>[]
 |i,s::l=>(.string s,.int i)::mapM (i+1) l
theorem qh1(s:ByteArray) : ∀ (l:List ByteArray) (i:Nat),(s∉l->qea .s (.string s) (mapM i l)=some none)/\(s∈l -> ∃ j:Nat,qea .s (.string s) (mapM i l)=some (some (.int j)))
 |[],i=>by simp[mapM,qea]
 |x::l,i=>by
  have ih:=qh1 s l (i+1)
  by_cases h:s=x
  ·subst h
   exact⟨fun hn=>absurd (WQ ..) hn,fun _=>⟨i,by simp[mapM,qea,qb8]⟩⟩
  ·have hb:(s==x)=false:=by rw[qdZ]; exact decide_eq_false h
   refine⟨fun hn=>?_,fun hm=>?_⟩
   ·have:=ih.1 (fun hm=>hn (Wz _ hm))
    simp[mapM,qea,qb8,hb,this]
   ·obtain⟨j,hj⟩:=ih.2 ((Wp.1 hm).resolve_left h)
    exact⟨j,by simp[mapM,qea,qb8,hb,hj]⟩
theorem qjU(s:ByteArray) : ∀ (l:List ByteArray) (i:Nat),s∉l->qp8 .s (.string s) (.int (i+l.length:Nat)) (mapM i l)=some (mapM i (l++[s]))
 |[],i,_=>by simp[mapM,qp8]
 |x::l,i,hn=>by
  have h:s≠x:=fun h=>hn (h ▸ WQ ..)
  have hb:(s==x)=false:=by rw[qdZ]; exact decide_eq_false h
  have ih:=qjU s l (i+1) (fun hm=>hn (Wz _ hm))
  rw[show i+1+l.length=i+(l.length+1) by omega] at ih
  simp only[Wd,Wh,mapM,qp8,qb8,hb,ih]
theorem qa6 : ∀ (l:List ByteArray) (i:Nat),qg6 (mapM i l)=[]
 |[],i=>rfl
 |x::l,i=>by simp[mapM,qa6 l]
theorem qbu(r:Nat->Nat) : ∀ (l:List ByteArray) (i:Nat),qqn r (mapM i l)=mapM i l
 |[],i=>rfl
 |x::l,i=>by simp[mapM,qbu r l]
attribute [local simp] qa6 qbu dkey
abbrev lpO(r:D)(i:Int):Ob := .loop ⟨[(3,.ptr 1 0),(4,.ptr 2 0),(12,.dat r),(13,.int i),(17,.fn 38 [] [.ptr 3 0])],[18],F15a0,F15b0,0,none⟩
abbrev S0(r:D)(j:Int)(bx:Ob):S:=[lpO r j,.cells [.dat (.lit (.slice none 0 0))],.cells [.mp 4],bx,.map []]
abbrev S01(r:D)(j:Int)(bx:Ob)(l:List ByteArray):S:=[lpO r j,.cells [.gsl (qbJ l) l.length 1 5],.cells [.mp 4],bx,.map (mapM 0 l),.tip l.length]
abbrev S1(r:D)(j:Int)(bx:Ob)(l:List ByteArray):S:=[lpO r j,.cells [.gsl (qbJ l) l.length 1 4],.cells [.mp 5],bx,.tip l.length,.map (mapM 0 l)]
section
variable{k n k0 n0:Int}{s s0:ByteArray}{f f0:Bool}{ks:Fo}{d0:D}{r:D}{j:Int}{l:List ByteArray}
theorem qrk(h1:k≠1)(h2:k≠10):Z qaD (.round [.yld 0,nd k n s f ks] (S0 r j (qbt k0 n0 s0 d0)))=some (.ret (.bool true) (S0 r j (qbt k0 n0 s0 d0))):=by
 rw[qcx]
 simp[qbo,qbh,qbi,qeu,qev,qcW,h1,h2,Lp.ended,Ex.isNormal,qbt,Wa]
theorem qrl(h1:k≠1)(h2:k≠10):Z qaD (.round [.yld 0,nd k n s f ks] (S1 r j (qbt k0 n0 s0 d0) l))=some (.ret (.bool true) (S1 r j (qbt k0 n0 s0 d0) l)):=by
 rw[qcx]
 simp[qbo,qbh,qbi,qeu,qev,qcW,h1,h2,Lp.ended,Ex.isNormal,qbt,Wa]
theorem quf(hk:k=1\/k=10)(hs:s∈l):Z qaD (.round [.yld 0,nd k n s f ks] (S1 r j (qbt k0 n0 s0 d0) l))=some (.ret (.bool true) (S1 r j (qbt k0 n0 s0 d0) l)):=by
 obtain⟨q,hq⟩:=(qh1 s l 0).2 hs
 rw[qcx]
 rcases hk with rfl|rfl<;>simp[qbo,qbh,qbi,qeu,qev,qcW,hq,qep,Lp.ended,Ex.isNormal,qbt,Wa]
theorem qug(hk:k=1\/k=10):Z qaD (.round [.yld 0,nd k n s f ks] (S0 r j (qbt k0 n0 s0 d0)))=some (.ret (.bool true) (S01 r j (qbt k0 n0 s0 d0) [s])):=by
 rw[qcx]
 rcases hk with rfl|rfl<;>simp[qbo,qbh,qbi,qeu,qev,qcW,qea,qp8,mapM,qmY,qep,Lp.ended,Ex.isNormal,qbt,Wa,V.len,qbQ,qkw,qaC]
theorem quh(hk:k=1\/k=10)(hs:s∉l)(h0:l≠[])(hl:l.length<2^30):Z qaD (.round [.yld 0,nd k n s f ks] (S1 r j (qbt k0 n0 s0 d0) l))=some (.ret (.bool true) (S1 r j (qbt k0 n0 s0 d0) (l++[s]))):=by
 have hq:=(qh1 s l 0).1 hs
 have hs':=qjU s l 0 hs
 rw[WJ] at hs'
 have r2:qaC (l.length+1) 16=true:=by simp[qaC]; omega
 rw[qcx]
 rcases hk with rfl|rfl<;>simp[qbo,qbh,qbi,qeu,qev,qcW,hq,hs',qrW,qmY,qep,Lp.ended,Ex.isNormal,qbt,Wa,V.len,qbQ,qkw,r2]
theorem rd0 : ∃ S',Z qaD (.round [.yld 0,nd k n s f ks] (S0 r j (qbt k0 n0 s0 d0)))=some (.ret (.bool true) S') /\
  ((addAll [] (if k=1\/k=10 then [s] else [])=[]/\S'=S0 r j (qbt k0 n0 s0 d0))\/(addAll [] (if k=1\/k=10 then [s] else [])≠[]/\S'=S01 r j (qbt k0 n0 s0 d0) (addAll [] (if k=1\/k=10 then [s] else [])))):=by
 by_cases hk:k=1\/k=10
 ·simp only[if_pos hk]
  exact⟨_,qug hk,.inr ⟨by simp[addAll,qpI],rfl⟩⟩
 ·simp only[if_neg hk]
  exact⟨_,qrk (by omega) (by omega),.inl ⟨rfl,rfl⟩⟩
theorem rd1(h0:l≠[])(hl:l.length<2^30):Z qaD (.round [.yld 0,nd k n s f ks] (S1 r j (qbt k0 n0 s0 d0) l))=some (.ret (.bool true) (S1 r j (qbt k0 n0 s0 d0) (addAll l (if k=1\/k=10 then [s] else [])))):=by
 by_cases hk:k=1\/k=10
 ·simp only[if_pos hk,addAll,W3,List.foldl_nil,qpI]
  by_cases hs:s∈l
  ·rw[if_pos hs]; exact quf hk hs
  ·rw[if_neg hs]; exact quh hk hs h0 hl
 ·simp only[if_neg hk]
  exact qrl (by omega) (by omega)
end
end
section
open F
attribute [local simp] qa6 qbu dkey
section
variable{k n k0 n0:Int}{s s0:ByteArray}{f fl:Bool}{ks:Fo}{d0 d:D}{r:D}{j:Int}{l l1 l2:List ByteArray}{i N:Nat}{cs c4:List D}
abbrev qn5(d:D)(N i:Nat):Fr:=[(1,.yld 0),(12,.dat d),(13,.int N),(14,.int i)]
abbrev qjJ(d:D)(N:Nat)(S':S):Option Res:=some (.out (.exit 0) [(1,.yld 0),(12,.dat d),(13,.int N),(14,.int N),(15,.bool false)] S')
def Got(r:D)(j:Int)(bx:Ob)(l:List ByteArray)(S':S):Prop:=(l=[]/\S'=S0 r j bx)\/(l≠[]/\S'=S01 r j bx l)
theorem qtD(h1:V.one (.dat d)=true)(h2:V.cells (.dat d)=[.dat d]):Z qaD (.loop 5 F39l0 (qn5 d N N) (S0 r j (qbt k0 n0 s0 d0)))=qjJ d N (S0 r j (qbt k0 n0 s0 d0)):=by
 rw[qac]
 simp[qad,qdj,qbt,Wa]
theorem qtE(h1:V.one (.dat d)=true)(h2:V.cells (.dat d)=[.dat d]):Z qaD (.loop 5 F39l0 (qn5 d N N) (S01 r j (qbt k0 n0 s0 d0) l))=qjJ d N (S01 r j (qbt k0 n0 s0 d0) l):=by
 rw[qac]
 simp[qad,qdj,qbt,Wa]
theorem qtF(h1:V.one (.dat d)=true)(h2:V.cells (.dat d)=[.dat d]):Z qaD (.loop 6 F39l0 (qn5 d N N) (S1 r j (qbt k0 n0 s0 d0) l))=qjJ d N (S1 r j (qbt k0 n0 s0 d0) l):=by
 rw[qac]
 simp[qad,qdj,qbt,Wa]
def qoL(r:D)(j:Int)(bx:Ob)(nv:V)(xs:List ByteArray):Prop:=
 (∃ S',Z qaD (.call 39 [nv,.yld 0] (S0 r j bx))=some (.ret (.bool true) S')/\Got r j bx (addAll [] xs) S') /\
 ∀ l,l≠[]->l.length+xs.length<2^29->Z qaD (.call 39 [nv,.yld 0] (S1 r j bx l))=some (.ret (.bool true) (S1 r j bx (addAll l xs)))
def qgv(r:D)(j:Int)(bx:Ob)(d:D)(N i:Nat)(xs:List ByteArray):Prop:=
 (∃ S',Z qaD (.loop 5 F39l0 (qn5 d N i) (S0 r j bx))=qjJ d N S'/\Got r j bx (addAll [] xs) S') /\
 (∀ l,l≠[]->l.length+xs.length<2^29->Z qaD (.loop 5 F39l0 (qn5 d N i) (S01 r j bx l))=qjJ d N (S01 r j bx (addAll l xs))) /\
 (∀ l,l≠[]->l.length+xs.length<2^29->Z qaD (.loop 6 F39l0 (qn5 d N i) (S1 r j bx l))=qjJ d N (S1 r j bx (addAll l xs)))
theorem qcX(xs:List ByteArray)(h:l≠[]):addAll l xs≠[]:=by
 have h1:=(qcn xs l).1
 intro he
 rw[he] at h1
 exact h (WP (Nat.le_zero.1 h1))
theorem qqW (hc:cs.drop (i*4) = .lit (.int .i64 k) :: .lit (.int .i64 n) :: .lit (.string s)::kd f ks.len ks.cells::c4) (hi:i<N) (hN:N<2^40) {xs ys:List ByteArray} (hx:xs.length+ys.length<2^28)
  (hw:qoL r j (qbt k0 n0 s0 d0) (nd k n s f ks) xs) (ih:qgv r j (qbt k0 n0 s0 d0) (.sl cs N fl) N (i+1) ys):qgv r j (qbt k0 n0 s0 d0) (.sl cs N fl) N i (xs++ys):=by
 have h4:=qzp hc
 have w1:=qaf ((i:Int)+1) (by omega)
 have hi':(i:Int)<N:=by omega
 obtain⟨⟨S',hw0,hg⟩,hw1⟩:=hw
 obtain⟨⟨T,ha,hT⟩,hb,hc'⟩:=ih
 have hlen:=qcn xs []
 simp only[Wj,WJ] at hlen
 refine⟨?_,fun l hl hb'=>?_,fun l hl hb'=>?_⟩
 ·rw[qcI]
  rcases hg with ⟨he,rfl⟩|⟨he,rfl⟩
  ·rw[he]
   refine⟨T,?_,hT⟩
   rw[qac,<- ha]
   simp only[qbt,S0,S01] at hw0
   simp[qad,qdj,hi,hi',qag,h4,hw0,w1,V.len,qbt,Wa]
   exact qal (by simp[Wa])
  ·refine⟨_,?_,.inr ⟨qcX _ he,rfl⟩⟩
   have hb1:=hb (addAll [] xs) he (by omega)
   rw[qac,<- hb1]
   simp only[qbt,S0,S01] at hw0
   simp[qad,qdj,hi,hi',qag,h4,hw0,w1,V.len,qbt,Wa]
   exact qal (by simp[Wa])
 ·rw[Wb] at hb'
  have hl2:=qcn xs l
  have hb1:=hb (addAll l xs) (qcX _ hl) (by omega)
  have hw2:=hw1 l hl (by omega)
  rw[qcI,qac,<- hb1]
  simp only[qbt,S1] at hw2
  simp[qad,qdj,hi,hi',qag,h4,hw2,w1,V.len,qbt,Wa]
  exact qal (by simp[Wa])
 ·rw[Wb] at hb'
  have hl2:=qcn xs l
  have hb1:=hc' (addAll l xs) (qcX _ hl) (by omega)
  have hw2:=hw1 l hl (by omega)
  rw[qcI,qac,<- hb1]
  simp only[qbt,S1] at hw2
  simp[qad,qdj,hi,hi',qag,h4,hw2,w1,V.len,qbt,Wa]
  exact qal (by simp[Wa])
theorem qmt(hx:ks.vars.length<2^28)(h:qgv r j (qbt k0 n0 s0 d0) (kd f ks.len ks.cells) ks.len 0 ks.vars):qoL r j (qbt k0 n0 s0 d0) (nd k n s f ks) ((if k=1\/k=10 then [s] else [])++ks.vars):=by
 obtain⟨⟨T,ha,hT⟩,hb,hc⟩:=h
 have h4:(if k=1\/k=10 then [s] else []).length<=1:=by split<;>simp
 refine⟨?_,fun l hl hb'=>?_⟩
 ·obtain⟨S',hr,hS⟩:=rd0 (k:=k) (n:=n) (s:=s) (f:=f) (ks:=ks) (r:=r) (j:=j) (k0:=k0) (n0:=n0) (s0:=s0) (d0:=d0)
  have hlen:=qcn (if k=1\/k=10 then [s] else []) []
  simp only[Wj,WJ] at hlen
  rw[qcI]
  rcases hS with ⟨he,rfl⟩|⟨he,rfl⟩
  ·rw[he]
   refine⟨T,?_,hT⟩
   refine qaa (pf:=F39) rfl rfl ?_
   have ha':=(qal (k:=5) (b:=F39l0) (fr:=qn5 (kd f ks.len ks.cells) ks.len 0) (σ := S0 r j (qbt k0 n0 s0 d0)++[qbt k n s (kd f ks.len ks.cells)]) (by simp[qbt,Wa])).trans ha
   simp only[qbt,qn5,qjJ,lpO,S0,S01,S1,Wh,Wg,show ((0:Nat):Int)=0 from rfl] at hr ha'
   rcases hT with ⟨hT,rfl⟩|⟨hT,rfl⟩<;>simp[F39,hr,ha',qbt,S0,S01,lpO,Wa]
  ·refine⟨S01 r j (qbt k0 n0 s0 d0) (addAll (addAll [] (if k=1\/k=10 then [s] else [])) ks.vars),?_,.inr ⟨qcX _ he,rfl⟩⟩
   generalize addAll [] (if k=1\/k=10 then [s] else [])=l at *
   have hb1:=hb l he (by omega)
   refine qaa (pf:=F39) rfl rfl ?_
   have ha':=(qal (k:=5) (b:=F39l0) (fr:=qn5 (kd f ks.len ks.cells) ks.len 0) (σ := [lpO r j,.cells [.gsl (qbJ l) l.length 1 6],.cells [.mp 4],qbt k0 n0 s0 d0,.map (mapM 0 l),qbt k n s (kd f ks.len ks.cells),.tip l.length]) (by simp[qbt,Wa])).trans hb1
   simp only[qbt,qn5,qjJ,lpO,S0,S01,S1,Wh,Wg,show ((0:Nat):Int)=0 from rfl] at hr ha'
   simp[F39,hr,ha',qbt,S0,S01,lpO,Wa]
 ·rw[Wb] at hb'
  have hl2:=qcn (if k=1\/k=10 then [s] else []) l
  have hr:=rd1 (k:=k) (n:=n) (s:=s) (f:=f) (ks:=ks) (r:=r) (j:=j) (k0:=k0) (n0:=n0) (s0:=s0) (d0:=d0) hl (by omega)
  have he:=qcX (if k=1\/k=10 then [s] else []) hl
  rw[qcI]
  generalize addAll l (if k=1\/k=10 then [s] else [])=l' at *
  have hc1:=hc l' he (by omega)
  refine qaa (pf:=F39) rfl rfl ?_
  have ha':=(qal (k:=6) (b:=F39l0) (fr:=qn5 (kd f ks.len ks.cells) ks.len 0) (σ := S1 r j (qbt k0 n0 s0 d0) l'++[qbt k n s (kd f ks.len ks.cells)]) (by simp[qbt,Wa])).trans hc1
  simp only[qbt,qn5,qjJ,lpO,S0,S01,S1,Wh,Wg,show ((0:Nat):Int)=0 from rfl] at hr ha'
  simp[F39,hr,ha',qbt,S0,S01,lpO,Wa]
end
end
section
open F
attribute [local simp] qa6 qbu dkey
theorem qfz{r:D}{j k0 n0:Int}{s0:ByteArray}{d0 d:D}{N:Nat}(h1:V.one (.dat d)=true)(h2:V.cells (.dat d)=[.dat d]):qgv r j (qbt k0 n0 s0 d0) d N N []:=
 ⟨⟨_,qtD h1 h2,.inl ⟨rfl,rfl⟩⟩,fun _ _ _=>qtE h1 h2,fun _ _ _=>qtF h1 h2⟩
theorem qpp {r:D} {j k0 n0:Int} {s0:ByteArray} {d0:D} : ∀ (a:Fo) (i:Nat) (cs:List D) (N:Nat) (fl:Bool),cs.drop (i*4)=a.cells->N=i+a.len->i+2*a.size<2^27 ->
  qgv r j (qbt k0 n0 s0 d0) (.sl cs N fl) N i a.vars
 |.nil,i,cs,N,fl,hc,hN,hb=>by
  simp only[qfe,Ys] at hN
  subst hN
  exact qfz rfl rfl
 |.cons k n s f ks rr,i,cs,N,fl,hc,hN,hb=>by
  simp only[qdc,qei,qaE] at hc hN hb
  have h1:=qdy rr
  have h2:=qhq ks
  have h3:=qhq rr
  have h4:(if k=1\/k=10 then [s] else []).length<=1:=by split<;>simp
  have hk:qgv r j (qbt k0 n0 s0 d0) (kd f ks.len ks.cells) ks.len 0 ks.vars:=by
   cases hz:ks.len with
   |zero=>
    have hn:ks = .nil:=by cases ks<;>simp at hz; rfl
    subst hn
    exact qfz (by simp) (by simp)
   |succ m=>
    rw[qn7,<- hz]
    exact qpp ks 0 ks.cells ks.len f rfl (by omega) (by omega)
  have e:(Fo.cons k n s f ks rr).vars=((if k=1\/k=10 then [s] else [])++ks.vars)++rr.vars:=by rw[Fo.vars,Wo]
  rw[e]
  exact qqW hc (by omega) (by omega) (by rw[Wb]; omega) (qmt (by omega) hk) (qpp rr (i+1) cs N fl (qib hc) (by omega) (by omega))
theorem qpq{r:D}{j k0 n0:Int}{s0:ByteArray}{d0:D}(k n:Int)(s:ByteArray)(f:Bool)(ks:Fo)(hb:ks.size<2^25):qoL r j (qbt k0 n0 s0 d0) (nd k n s f ks) ((if k=1\/k=10 then [s] else [])++ks.vars):=by
 have h2:=qhq ks
 refine qmt (by omega) ?_
 cases hz:ks.len with
 |zero=>
  have hn:ks = .nil:=by cases ks<;>simp at hz; rfl
  subst hn
  exact qfz (by simp) (by simp)
 |succ m=>
  rw[qn7,<- hz]
  exact qpp ks 0 ks.cells ks.len f rfl (by omega) (by omega)
abbrev qll(r:D)(i:Int):Ob := .loop ⟨[(3,.ptr 2 0),(4,.ptr 3 0),(12,.dat r),(13,.int i),(17,.fn 38 [] [.ptr 1 0])],[18],F15a0,F15b0,0,none⟩
abbrev T0(r:D)(j:Int)(bx:Ob):S:=[qll r j,bx,.cells [.dat (.lit (.slice none 0 0))],.cells [.mp 4],.map []]
abbrev T01(r:D)(j:Int)(bx:Ob)(l:List ByteArray):S:=[qll r j,bx,.cells [.gsl (qbJ l) l.length 1 5],.cells [.mp 4],.map (mapM 0 l),.tip l.length]
abbrev T1(r:D)(j:Int)(bx:Ob)(l:List ByteArray):S:=[qll r j,bx,.cells [.gsl (qbJ l) l.length 1 4],.cells [.mp 5],.tip l.length,.map (mapM 0 l)]
section
variable{r:D}{j:Int}{k n:Int}{s:ByteArray}{f:Bool}{ks:Fo}{xs:List ByteArray}
theorem quz (h:qoL r j (qbt k n s (kd f ks.len ks.cells)) (nd k n s f ks) xs) : ∃ S',Z qaD (.call 38 [.yld 0,.ptr 1 0] (T0 r j (qbt k n s (kd f ks.len ks.cells))))=some (.ret (.tup []) S') /\
  ((addAll [] xs=[]/\S'=T0 r j (qbt k n s (kd f ks.len ks.cells)))\/(addAll [] xs≠[]/\S'=T01 r j (qbt k n s (kd f ks.len ks.cells)) (addAll [] xs))):=by
 obtain⟨⟨S',h1,hg⟩,-⟩:=h
 simp only[qbt,S0,lpO] at h1
 rcases hg with ⟨he,rfl⟩|⟨he,rfl⟩
 ·refine⟨_,?_,.inl ⟨he,rfl⟩⟩
  refine qaa (pf:=F38) rfl rfl ?_
  simp[F38,h1,qbt,S0,lpO,Wa]
 ·refine⟨_,?_,.inr ⟨he,rfl⟩⟩
  refine qaa (pf:=F38) rfl rfl ?_
  simp[F38,h1,qbt,S01,lpO,Wa]
theorem qw8(h:qoL r j (qbt k n s (kd f ks.len ks.cells)) (nd k n s f ks) xs){l:List ByteArray}(hl:l≠[])(hb:l.length+xs.length<2^29):Z qaD (.call 38 [.yld 0,.ptr 1 0] (T1 r j (qbt k n s (kd f ks.len ks.cells)) l))=some (.ret (.tup []) (T1 r j (qbt k n s (kd f ks.len ks.cells)) (addAll l xs))):=by
 have h1:=h.2 l hl hb
 simp only[qbt,S1,lpO] at h1
 refine qaa (pf:=F38) rfl rfl ?_
 simp[F38,h1,qbt,S1,lpO,Wa]
theorem qpr:Z qaD (.call 32 [nd k n s f ks] [])=some (.ret (.fn 38 [] [.ptr 0 0]) [qbt k n s (kd f ks.len ks.cells)]):=by
 refine qaa (pf:=F32) rfl rfl ?_
 simp[F32,qbt]
end
end
end Go.Pm
