/- Trees of rule programs: expressions, statements, rows of nodes, as the abstract machine's data; names. No program in sight. -/
import Derived.Test.YtoccgneneplciaaGreatDoorPmAL
import Derived.Test.YtoccgneneplciaaGreatDoorPmR1
import Derived.Laws.Strings
import Derived.KernelRfl
set_option linter.unusedSimpArgs false
set_option linter.unusedVariables false
namespace Go.Pm
section
inductive Bop where
 |add|sub|mul|div|lt|le|gt|ge|eq|ne|and|or
def Bop.str:Bop->ByteArray
 |.add=>⟨#[43]⟩ | .sub=>⟨#[45]⟩ | .mul=>⟨#[42]⟩ | .div=>⟨#[47]⟩
 |.lt=>⟨#[60]⟩ | .le=>⟨#[60,61]⟩ | .gt=>⟨#[62]⟩ | .ge=>⟨#[62,61]⟩ | .eq=>⟨#[61,61]⟩ | .ne=>⟨#[33,61]⟩
 |.and=>⟨#[38,38]⟩ | .or=>⟨#[124,124]⟩
def Bop.opd:Bop->Int
 |.and | .or=>2
 |_=>1
def Bop.res:Bop->Int
 |.add | .sub | .mul | .div=>1
 |_=>2
def ustr(neg:Bool):ByteArray:=if neg then ⟨#[45]⟩ else ⟨#[33]⟩
inductive E where
 |int (n:Int)
 |bool (n:Int)
 |var (s:ByteArray)
 |name (s:ByteArray)
 |field (f:Bool) (s:ByteArray) (e:E)
 |un (f:Bool) (neg:Bool) (e:E)
 |bin (f:Bool) (o:Bop) (a b:E)
def E.kind:E->Int
 |.int _=>8 | .bool _=>9 | .var _=>10 | .field .. => 11 | .name _=>12 | .un .. => 13 | .bin .. => 14
def E.num:E->Int
 |.int n=>n | .bool n=>n|_=>0
def E.str:E->ByteArray
 |.var s=>s | .name s=>s | .field _ s _=>s | .un _ neg _=>ustr neg | .bin _ o _ _=>o.str|_=>⟨#[]⟩
def E.kids:E->D
 |.field f _ e => .sl [.lit (.int .i64 e.kind),.lit (.int .i64 e.num),.lit (.string e.str),e.kids] 1 f
 |.un f _ e => .sl [.lit (.int .i64 e.kind),.lit (.int .i64 e.num),.lit (.string e.str),e.kids] 1 f
 |.bin f _ a b => .sl [.lit (.int .i64 a.kind),.lit (.int .i64 a.num),.lit (.string a.str),a.kids,.lit (.int .i64 b.kind),.lit (.int .i64 b.num),.lit (.string b.str),b.kids] 2 f
 |_ => .lit (.slice none 0 0)
@[simp] theorem qbq(e:E):V.one (.dat e.kids)=true:=by cases e<;>rfl
@[simp] theorem qwk(e:E):V.cells (.dat e.kids)=[.dat e.kids]:=by cases e<;>rfl
abbrev E.node(e:E):V := .dat (.agg [.lit (.int .i64 e.kind),.lit (.int .i64 e.num),.lit (.string e.str),e.kids])
def E.size:E->Nat
 |.field _ _ e=>e.size+1
 |.un _ _ e=>e.size+1
 |.bin _ _ a b=>a.size+b.size+1
 |_=>1
@[simp] theorem qti(n:Int):E.size (.int n)=1:=rfl
@[simp] theorem qri(n:Int):E.size (.bool n)=1:=rfl
@[simp] theorem qtj(s:ByteArray):E.size (.var s)=1:=rfl
@[simp] theorem qrj(s:ByteArray):E.size (.name s)=1:=rfl
@[simp] theorem qkn(f:Bool)(s:ByteArray)(e:E):E.size (.field f s e)=e.size+1:=rfl
@[simp] theorem qlu(f neg:Bool)(e:E):E.size (.un f neg e)=e.size+1:=rfl
@[simp] theorem qgX(f:Bool)(o:Bop)(a b:E):E.size (.bin f o a b)=a.size+b.size+1:=rfl
def E.ok:E->Prop
 |.var s=>s.size<=100
 |.field _ _ e=>e.ok
 |.un _ _ e=>e.ok
 |.bin _ _ a b=>a.ok/\b.ok
 |_=>True
def E.ty:E->Int
 |.int _ | .var _ | .name _=>1
 |.bool _=>2
 |.field _ _ e=>if e.ty=1 then 1 else 0
 |.un _ neg e=>if e.ty=(if neg then 1 else 2) then (if neg then 1 else 2) else 0
 |.bin _ o a b=>if a.ty=o.opd/\b.ty=o.opd then o.res else 0
@[simp] theorem qyB(n:Int):E.kind (.int n)=8:=rfl
@[simp] theorem qzM(n:Int):E.num (.int n)=n:=rfl
@[simp] theorem qzN(n:Int):E.str (.int n)=⟨#[]⟩:=rfl
@[simp] theorem qyC(n:Int):E.kids (.int n) = .lit (.slice none 0 0):=rfl
@[simp] theorem qAf(n:Int):E.ty (.int n)=1:=rfl
@[simp] theorem qxX(n:Int):E.kind (.bool n)=9:=rfl
@[simp] theorem qyD(n:Int):E.num (.bool n)=n:=rfl
@[simp] theorem qyE(n:Int):E.str (.bool n)=⟨#[]⟩:=rfl
@[simp] theorem qxY(n:Int):E.kids (.bool n) = .lit (.slice none 0 0):=rfl
@[simp] theorem qzO(n:Int):E.ty (.bool n)=2:=rfl
@[simp] theorem qyF(s:ByteArray):E.kind (.var s)=10:=rfl
@[simp] theorem qzP(s:ByteArray):E.num (.var s)=0:=rfl
@[simp] theorem qzQ(s:ByteArray):E.str (.var s)=s:=rfl
@[simp] theorem qyG(s:ByteArray):E.kids (.var s) = .lit (.slice none 0 0):=rfl
@[simp] theorem qAg(s:ByteArray):E.ty (.var s)=1:=rfl
@[simp] theorem qxZ(s:ByteArray):E.kind (.name s)=12:=rfl
@[simp] theorem qyH(s:ByteArray):E.num (.name s)=0:=rfl
@[simp] theorem qyI(s:ByteArray):E.str (.name s)=s:=rfl
@[simp] theorem qx0(s:ByteArray):E.kids (.name s) = .lit (.slice none 0 0):=rfl
@[simp] theorem qzR(s:ByteArray):E.ty (.name s)=1:=rfl
@[simp] theorem qwl(f:Bool)(s:ByteArray)(e:E):E.kind (.field f s e)=11:=rfl
@[simp] theorem qx1(f:Bool)(s:ByteArray)(e:E):E.num (.field f s e)=0:=rfl
@[simp] theorem qx2(f:Bool)(s:ByteArray)(e:E):E.str (.field f s e)=s:=rfl
@[simp] theorem qpp(f:Bool)(s:ByteArray)(e:E):E.kids (.field f s e) = .sl [.lit (.int .i64 e.kind),.lit (.int .i64 e.num),.lit (.string e.str),e.kids] 1 f:=rfl
@[simp] theorem qyJ(f:Bool)(s:ByteArray)(e:E):E.ty (.field f s e)=if e.ty=1 then 1 else 0:=rfl
@[simp] theorem qzS(f:Bool)(neg:Bool)(e:E):E.kind (.un f neg e)=13:=rfl
@[simp] theorem qAh(f:Bool)(neg:Bool)(e:E):E.num (.un f neg e)=0:=rfl
@[simp] theorem qAi(f:Bool)(neg:Bool)(e:E):E.str (.un f neg e)=ustr neg:=rfl
@[simp] theorem qvQ(f:Bool)(neg:Bool)(e:E):E.kids (.un f neg e) = .sl [.lit (.int .i64 e.kind),.lit (.int .i64 e.num),.lit (.string e.str),e.kids] 1 f:=rfl
@[simp] theorem qAB(f:Bool)(neg:Bool)(e:E):E.ty (.un f neg e)=if e.ty=(if neg then 1 else 2) then (if neg then 1 else 2) else 0:=rfl
@[simp] theorem qyK(f:Bool)(o:Bop)(a b:E):E.kind (.bin f o a b)=14:=rfl
@[simp] theorem qzT(f:Bool)(o:Bop)(a b:E):E.num (.bin f o a b)=0:=rfl
@[simp] theorem qzU(f:Bool)(o:Bop)(a b:E):E.str (.bin f o a b)=o.str:=rfl
@[simp] theorem qtk(f:Bool)(o:Bop)(a b:E):E.kids (.bin f o a b) = .sl [.lit (.int .i64 a.kind),.lit (.int .i64 a.num),.lit (.string a.str),a.kids,.lit (.int .i64 b.kind),.lit (.int .i64 b.num),.lit (.string b.str),b.kids] 2 f:=rfl
@[simp] theorem qAj(f:Bool)(o:Bop)(a b:E):E.ty (.bin f o a b)=if a.ty=o.opd/\b.ty=o.opd then o.res else 0:=rfl
abbrev qlv:V := .dat (.agg [.lit (.int .i64 0),.lit (.int .i64 0),.lit (.string ⟨#[]⟩),.lit (.slice none 0 0)])
def kd(f:Bool):Nat->List D->D
 |0,_ => .lit (.slice none 0 0)
 |n+1,cs => .sl cs (n+1) f
@[simp] theorem qko(f:Bool)(n:Nat)(cs:List D):V.one (.dat (kd f n cs))=true:=by cases n<;>rfl
@[simp] theorem qtl(f:Bool)(n:Nat)(cs:List D):V.cells (.dat (kd f n cs))=[.dat (kd f n cs)]:=by cases n<;>rfl
@[simp] theorem qAk(σ : S)(f:Bool)(n:Nat)(cs:List D):V.len σ .sl (.dat (kd f n cs))=some n:=by cases n<;>simp[kd,V.len]
@[simp] theorem qvR(f:Bool)(cs:List D):kd f 0 cs = .lit (.slice none 0 0):=rfl
@[simp] theorem qoF(f:Bool)(n:Nat)(cs:List D):kd f (n+1) cs = .sl cs (n+1) f:=rfl
inductive Fo where
 |nil
 |cons (k n:Int) (s:ByteArray) (f:Bool) (kids rest:Fo)
def Fo.len:Fo->Nat
 |.nil=>0
 |.cons _ _ _ _ _ r=>r.len+1
def Fo.cells:Fo->List D
 |.nil=>[]
 |.cons k n s f ks r => .lit (.int .i64 k) :: .lit (.int .i64 n) :: .lit (.string s)::kd f ks.len ks.cells::r.cells
def Fo.app:Fo->Fo->Fo
 |.nil,b=>b
 |.cons k n s f ks r,b => .cons k n s f ks (r.app b)
def Fo.size:Fo->Nat
 |.nil=>0
 |.cons _ _ _ _ ks r=>ks.size+r.size+1
@[simp] theorem qaZ:Fo.len .nil=0:=rfl
@[simp] theorem qaV(k n:Int)(s:ByteArray)(f:Bool)(ks r:Fo):(Fo.cons k n s f ks r).len=r.len+1:=rfl
@[simp] theorem qaF:Fo.cells .nil=[]:=rfl
@[simp] theorem qaB(k n:Int)(s:ByteArray)(f:Bool)(ks r:Fo):(Fo.cons k n s f ks r).cells = .lit (.int .i64 k) :: .lit (.int .i64 n) :: .lit (.string s)::kd f ks.len ks.cells::r.cells:=rfl
@[simp] theorem qa5:Fo.size .nil=0:=rfl
@[simp] theorem qaT(k n:Int)(s:ByteArray)(f:Bool)(ks r:Fo):(Fo.cons k n s f ks r).size=ks.size+r.size+1:=rfl
@[simp] theorem qwm(b:Fo):Fo.app .nil b=b:=rfl
@[simp] theorem qvS(k n:Int)(s:ByteArray)(f:Bool)(ks r b:Fo):(Fo.cons k n s f ks r).app b = .cons k n s f ks (r.app b):=rfl
theorem qc5(a b:Fo):(a.app b).len=a.len+b.len:=by induction a with
 |nil=>simp
 |cons k n s f ks r _ ih=>simp[ih]; omega
theorem qfl(a b:Fo):(a.app b).cells=a.cells++b.cells:=by induction a with
 |nil=>simp
 |cons k n s f ks r _ ih=>simp[ih]
theorem qji(a b:Fo):(a.app b).size=a.size+b.size:=by induction a with
 |nil=>simp
 |cons k n s f ks r _ ih=>simp[ih]; omega
theorem qhZ(a:Fo):a.cells.length=a.len*4:=by induction a with
 |nil=>simp
 |cons k n s f ks r _ ih=>simp[ih]; omega
theorem qjj(a:Fo):a.len<=a.size:=by induction a with
 |nil=>simp
 |cons k n s f ks r _ ih=>simp; omega
abbrev nd(k n:Int)(s:ByteArray)(f:Bool)(ks:Fo):V := .dat (.agg [.lit (.int .i64 k),.lit (.int .i64 n),.lit (.string s),kd f ks.len ks.cells])
def Fo.hk:Fo->Int
 |.nil=>0
 |.cons k _ _ _ _ _=>k
def Fo.hn:Fo->Int
 |.nil=>0
 |.cons _ n _ _ _ _=>n
def Fo.hs:Fo->ByteArray
 |.nil=>⟨#[]⟩
 |.cons _ _ s _ _ _=>s
def Fo.hf:Fo->Bool
 |.nil=>false
 |.cons _ _ _ f _ _=>f
def Fo.hks:Fo->Fo
 |.nil => .nil
 |.cons _ _ _ _ ks _=>ks
def Fo.tl:Fo->Fo
 |.nil => .nil
 |.cons _ _ _ _ _ r=>r
abbrev Fo.hd(a:Fo):V:=nd a.hk a.hn a.hs a.hf a.hks
def E.flag:E->Bool
 |.field f _ _=>f | .un f _ _=>f | .bin f _ _ _=>f|_=>false
def E.fo:E->Fo->Fo
 |.int n,r => .cons 8 n ⟨#[]⟩ false .nil r
 |.bool n,r => .cons 9 n ⟨#[]⟩ false .nil r
 |.var s,r => .cons 10 0 s false .nil r
 |.name s,r => .cons 12 0 s false .nil r
 |.field f s e,r => .cons 11 0 s f (e.fo .nil) r
 |.un f neg e,r => .cons 13 0 (ustr neg) f (e.fo .nil) r
 |.bin f o a b,r => .cons 14 0 o.str f (a.fo (b.fo .nil)) r
def E.kfo:E->Fo
 |.field _ _ e=>e.fo .nil | .un _ _ e=>e.fo .nil | .bin _ _ a b=>a.fo (b.fo .nil) | _ => .nil
theorem qjk(e:E)(r:Fo):e.fo r = .cons e.kind e.num e.str e.flag e.kfo r:=by cases e<;>rfl
theorem qrk(e:E):e.kids=kd e.flag e.kfo.len e.kfo.cells:=by
 induction e with
 |field f s e ih=>
  show (E.field f s e).kids=kd f (e.fo .nil).len (e.fo .nil).cells
  rw[qjk]
  simp only[qpp,qaV,qaZ,qoF,qaB,qaF,<- ih]
 |un f neg e ih=>
  show (E.un f neg e).kids=kd f (e.fo .nil).len (e.fo .nil).cells
  rw[qjk]
  simp only[qvQ,qaV,qaZ,qoF,qaB,qaF,<- ih]
 |bin f o a b iha ihb=>
  show (E.bin f o a b).kids=kd f (a.fo (b.fo .nil)).len (a.fo (b.fo .nil)).cells
  rw[qjk,qjk]
  simp only[qtk,qaV,qaZ,qoF,qaB,qaF,<- iha,<- ihb]
 |_=>rfl
theorem qct(e:E)(r:Fo):(e.fo r).size=e.size+r.size:=by
 induction e generalizing r<;>simp only[E.fo,E.size,qaT,qa5, *]<;>omega
@[simp] theorem qAC(e:E)(r:Fo):(e.fo r).tl=r:=by rw[qjk]; rfl
inductive Ss where
 |nil
 |assign (f:Bool) (s:ByteArray) (e:E) (r:Ss)
 |store (f:Bool) (s:ByteArray) (a b:E) (r:Ss)
 |effect (f:Bool) (a b:E) (r:Ss)
 |stop (r:Ss)
 |cond (w:Bool) (f:Bool) (c:E) (b:Ss) (r:Ss)
 |block (f:Bool) (b:Ss) (r:Ss)
def qfM:ByteArray:=⟨#[104,105,116]⟩
def qoG:ByteArray:=⟨#[115,116,105,108,108]⟩
def Ss.well:Ss->Bool
 |.nil=>true
 |.assign _ _ e r=>decide (e.ty=1)&&r.well
 |.store _ s a b r=>(!(eqS s qfM||eqS s qoG)&&(decide (a.ty=1)&&decide (b.ty=1)))&&r.well
 |.effect _ a b r=>(decide (a.ty=1)&&decide (b.ty=1))&&r.well
 |.stop r=>r.well
 |.cond _ _ c b r=>(decide (c.ty=2)&&b.well)&&r.well
 |.block _ b r=>b.well&&r.well
def Ss.ok:Ss->Prop
 |.nil=>True
 |.assign _ s e r=>s.size<=100/\e.ok/\r.ok
 |.store _ _ a b r=>a.ok/\b.ok/\r.ok
 |.effect _ a b r=>a.ok/\b.ok/\r.ok
 |.stop r=>r.ok
 |.cond _ _ c b r=>c.ok/\b.ok/\r.ok
 |.block _ b r=>b.ok/\r.ok
def Ss.fo:Ss->Fo
 |.nil => .nil
 |.assign f s e r => .cons 1 0 s f (e.fo .nil) r.fo
 |.store f s a b r => .cons 2 0 s f (a.fo (b.fo .nil)) r.fo
 |.effect f a b r => .cons 5 0 ⟨#[]⟩ f (a.fo (b.fo .nil)) r.fo
 |.stop r => .cons 6 0 ⟨#[]⟩ false .nil r.fo
 |.cond w f c b r => .cons (if w then 4 else 3) 0 ⟨#[]⟩ f (c.fo b.fo) r.fo
 |.block f b r => .cons 7 0 ⟨#[]⟩ f b.fo r.fo
theorem qyL{cs r:List D}{o:Nat}{a b c d:D}(h:cs.drop o=a::b::c::d::r):cutCells cs o 4=some [a,b,c,d]:=by
 unfold cutCells
 rw[h]
 simp
@[simp] theorem qAD(e:E)(r:Fo):(e.fo r).hk=e.kind:=by rw[qjk]; rfl
@[simp] theorem qAE(e:E)(r:Fo):(e.fo r).hn=e.num:=by rw[qjk]; rfl
@[simp] theorem qAF(e:E)(r:Fo):(e.fo r).hs=e.str:=by rw[qjk]; rfl
@[simp] theorem qAl(e:E)(r:Fo):kd (e.fo r).hf (e.fo r).hks.len (e.fo r).hks.cells=e.kids:=by rw[qjk,qrk]; rfl
@[simp] theorem qf4(e:E)(r:Fo):(e.fo r).len=r.len+1:=by rw[qjk]; rfl
@[simp] theorem qde(e:E)(r:Fo):(e.fo r).cells = .lit (.int .i64 e.kind) :: .lit (.int .i64 e.num) :: .lit (.string e.str)::e.kids::r.cells:=by rw[qjk,qrk]; rfl
@[simp] theorem qAm:Fo.hk .nil=0:=rfl
@[simp] theorem qAn:Fo.hn .nil=0:=rfl
@[simp] theorem qAo:Fo.hs .nil=⟨#[]⟩:=rfl
@[simp] theorem qAp:Fo.hf .nil=false:=rfl
@[simp] theorem qzV:Fo.hks .nil = .nil:=rfl
def strC(ss:List ByteArray):List D:=ss.map fun s => .lit (.string s)
theorem qfN(ss:List ByteArray)(i:Nat)(h:i<ss.length):cutCells (strC ss) i 1=some [.lit (.string ss[i])]:=by
 unfold cutCells strC
 rw[WO (by simpa using h)]
 simp
theorem qah(a b:ByteArray):eqS a b=decide (a=b):=by
 rw[Bool.eq_iff_iff]
 simp only[eqS,beq_iff_eq,decide_eq_true_eq,ByteArray.toList_eq]
 exact⟨fun h=>by cases a; cases b; simp only[Array.toList_inj] at h; rw[h],fun h=>by rw[h]⟩
instance:LawfulBEq ByteArray where
 eq_of_beq h:=by rw[qiR] at h; exact of_decide_eq_true h
 rfl:=by intro a; rw[qiR]; exact decide_eq_true rfl
def qwn:List ByteArray->D
 |[] => .lit (.slice none 0 0)
 |s::l => .sl (strC (s::l)) (l.length+1) false
@[simp] theorem qyM(l:List ByteArray):V.one (.dat (qwn l))=true:=by cases l<;>rfl
@[simp] theorem qwo(l:List ByteArray):V.cells (.dat (qwn l))=[.dat (qwn l)]:=by cases l<;>rfl
@[simp] theorem qyN(σ : S)(l:List ByteArray):V.len σ .sl (.dat (qwn l))=some l.length:=by cases l<;>simp[qwn,V.len]
@[simp] theorem qyO(l:List ByteArray):(strC l).length=l.length:=by simp[strC]
theorem qcz{cs r:List D}{i:Nat}{a b c d:D}(h:cs.drop (i*4)=a::b::c::d::r):cs.drop ((i+1)*4)=r:=by
 rw[show (i+1)*4=i*4+4 by omega,<- List.drop_drop,h]
 rfl
theorem qfO{b:Ss}(hb:b.fo.len=0):b = .nil:=by cases b<;>simp[Ss.fo] at hb; rfl
structure Nd where
 k:Int
 n:Int
 s:ByteArray
 f:Bool
 ks:Fo
abbrev Nd.v(a:Nd):V:=nd a.k a.n a.s a.f a.ks
abbrev Nd.d(a:Nd):D:=kd a.f a.ks.len a.ks.cells
abbrev ru(a b c:Nd):D := .agg [.lit (.int .i64 a.k),.lit (.int .i64 a.n),.lit (.string a.s),a.d,.lit (.int .i64 b.k),.lit (.int .i64 b.n),.lit (.string b.s),b.d,.lit (.int .i64 c.k),.lit (.int .i64 c.n),.lit (.string c.s),c.d]
inductive Hd where
 |none
 |some (f:Bool) (b:Ss)
def Hd.k:Hd->Int
 |.none=>0
 |.some _ _=>7
def Hd.f:Hd->Bool
 |.none=>false
 |.some f _=>f
def Hd.ks:Hd->Fo
 |.none => .nil
 |.some _ b=>b.fo
def Hd.nd(h:Hd):Nd:=⟨h.k,0,⟨#[]⟩,h.f,h.ks⟩
@[simp] theorem qAG(h:Hd):h.nd.k=h.k:=rfl
@[simp] theorem qAH(h:Hd):h.nd.n=0:=rfl
@[simp] theorem qAI(h:Hd):h.nd.s=⟨#[]⟩:=rfl
@[simp] theorem qAJ(h:Hd):h.nd.f=h.f:=rfl
@[simp] theorem qzW(h:Hd):h.nd.ks=h.ks:=rfl
def Hd.well:Hd->Bool
 |.none=>true
 |.some _ b=>b.well
abbrev qnv(a b c:Nd):Ob := .cells [.int a.k,.int a.n,.str a.s,.dat a.d,.int b.k,.int b.n,.str b.s,.dat b.d,.int c.k,.int c.n,.str c.s,.dat c.d]
def Ss.app:Ss->Ss->Ss
 |.nil,b=>b
 |.assign f s e r,b => .assign f s e (r.app b)
 |.store f s x y r,b => .store f s x y (r.app b)
 |.effect f x y r,b => .effect f x y (r.app b)
 |.stop r,b => .stop (r.app b)
 |.cond w f c q r,b => .cond w f c q (r.app b)
 |.block f q r,b => .block f q (r.app b)
theorem qgY(a b:Ss):(a.app b).fo=a.fo.app b.fo:=by
 induction a<;>simp_all [Ss.app,Ss.fo]
theorem qrl(a b c:Fo):(a.app b).app c=a.app (b.app c):=by
 induction a<;>simp_all
theorem qvT(a:Fo):a.app .nil=a:=by
 induction a<;>simp_all
end
section
def qaG(c:UInt8):Bool:=decide (97<=c.toNat)&&decide (c.toNat<=122)
def qal(c:UInt8):Bool:=decide (48<=c.toNat)&&decide (c.toNat<=57)
def qh1(s:ByteArray):Nat->Bool->Nat->Nat
 |0,_,i=>i
 |n+1,c,i=>match s[i]? with
  |none=>i
  |some b=>if b.toNat=10 then qh1 s n false (i+1) else if c=true\/b.toNat=32\/b.toNat=9 then qh1 s n c (i+1) else if b.toNat=35 then qh1 s n true (i+1) else i
def qoU(p:UInt8->Bool)(s:ByteArray):Nat->Nat->Nat
 |0,i=>i
 |n+1,i=>match s[i]? with
  |none=>i
  |some b=>if p b then qoU p s n (i+1) else i
def qaq(c:UInt8):Bool:=qaG c||qal c
def digV(l:List UInt8):Nat:=l.foldl (fun v c=>10*v+(c.toNat-48)) 0
structure Tk where
 at_:Nat
 s:ByteArray
 bad:Nat
def bs(l:List UInt8):ByteArray:=⟨l.toArray⟩
def fieldNames:List ByteArray:=[bs [120],bs [121],bs [118,120],bs [118,121],bs [97],bs [98],qfM,qoG]
def wordNames:List ByteArray:=[bs [111,110],bs [97,99,116],bs [116,105,99,107],qfM,bs [105,102],bs [101,108,115,101],bs [119,104,105,108,101],bs [101,102,102,101,99,116],bs [115,116,111,112],bs [116,114,117,101],bs [102,97,108,115,101],bs [115,101,108,102],bs [111,116,104,101,114]]
def qdh:List ByteArray:=[bs [124,124],bs [38,38],bs [60,61],bs [62,61],bs [61,61],bs [33,61]]
def symB:List Nat:=[123,125,91,93,40,41,61,59,44,60,62,43,45,42,47,33]
def tokAt(eS eL eR:Nat)(s:ByteArray)(i:Nat):Tk:=match s[i]? with
 |none=>⟨i,⟨#[]⟩,0⟩
 |some c=>
  if qaG c then
   let w:=s.extract i (qoU qaq s (s.size-i) i)
   ⟨i,w,if 8<w.size/\w∉fieldNames/\w∉wordNames then eL else 0⟩
  else if qal c then
   let w:=s.extract i (qoU qal s (s.size-i) i)
   ⟨i,w,if 2147483647<digV w.toList then eR else 0⟩
  else if i+2<=s.size/\s.extract i (i+2)∈qdh then ⟨i,s.extract i (i+2),0⟩
  else if c.toNat∈symB then ⟨i,s.extract i (i+1),0⟩
  else ⟨i,s.extract i (i+1),eS⟩
def qbY(eS eL eR:Nat)(s:ByteArray):Nat->Nat->List Tk
 |0,i=>[⟨i,⟨#[]⟩,0⟩]
 |n+1,i=>
  let t:=tokAt eS eL eR s (qh1 s (s.size-i) false i)
  if t.bad≠0\/t.s.size=0 then [t] else t::qbY eS eL eR s n (t.at_+t.s.size)
inductive Rz(α : Type) where
 |ok (a : α) (r:List Tk)
 |er (i c:Nat)
def nx:List Tk->Option ByteArray
 |t::_=>if t.bad=0 then some t.s else none
 |[]=>none
def failP{α : Type}(c:Nat):List Tk->Rz α
 |t::_ => .er t.at_ (if t.bad=0 then c else t.bad)
 |[] => .er 0 c
def Rz.bind{α β : Type}:Rz α -> (α -> List Tk->Rz β)->Rz β
 |.ok a r,k=>k a r
 |.er i c,_ => .er i c
def qam(eS:Nat)(x:ByteArray):List Tk->Rz Unit
 |t::r=>if t.bad=0/\t.s=x then .ok () r else failP eS (t::r)
 |[]=>failP eS []
def qbO(eS eL:Nat)(x:ByteArray)(lv:Nat)(ts:List Tk):Rz Unit:=
 if nx ts=some x/\20<lv then failP eL ts else qam eS x ts
def qhL(prec:Nat)(s:ByteArray):Option Bop:=
 let l:List Bop:=match prec with
  |1=>[.or] | 2=>[.and] | 4=>[.lt,.le,.gt,.ge,.eq,.ne] | 5=>[.add,.sub] | 6=>[.mul,.div] | _=>[]
 l.find? fun o=>decide (o.str=s)
def qaj(p:UInt8->Bool)(s:ByteArray):Bool:=match s[0]? with
 |some c=>p c
 |none=>false
mutual
def qak(eS eL:Nat)(f:Bool):Nat->Nat->Nat->List Tk->Option (Rz E)
 |0,_,_,_=>none
 |n+1,prec,lv,ts=>
  if prec=3/\nx ts=some (ustr false)\/prec=7/\nx ts=some (ustr true) then
   match qbO eS eL (ustr (prec==7)) (lv+1) ts with
   |.er i c=>some (.er i c)
   |.ok _ r=>match qak eS eL f n prec (lv+1) r with
    |some (.ok e r')=>some (.ok (.un f (prec==7) e) r')
    |x=>x
  else if prec<8 then
   match qak eS eL f n (prec+1) lv ts with
   |some (.ok e r)=>qbR eS eL f n prec lv e r
   |x=>x
  else match nx ts with
   |none=>some (failP eS ts)
   |some s=>
    if qaj qal s then some (.ok (.int (digV s.toList)) ts.tail)
    else if s=bs [116,114,117,101] then some (.ok (.bool 1) ts.tail)
    else if s=bs [102,97,108,115,101] then some (.ok (.bool 0) ts.tail)
    else if s=bs [115,101,108,102]\/s=bs [111,116,104,101,114]\/s=bs [116,105,99,107] then some (.ok (.name s) ts.tail)
    else if s∈fieldNames then match qa6 eS eL f n lv ts.tail with
     |some (.ok e r)=>some (.ok (.field f s e) r)
     |x=>x
    else if qaj qaG s/\s∉wordNames then some (.ok (.var s) ts.tail)
    else match qbO eS eL (bs [40]) (lv+1) ts with
     |.er i c=>some (.er i c)
     |.ok _ r=>match qak eS eL f n 1 (lv+1) r with
      |some (.ok e r')=>match qam eS (bs [41]) r' with
       |.ok _ r''=>some (.ok e r'')
       |.er i c=>some (.er i c)
      |x=>x
def qbR(eS eL:Nat)(f:Bool):Nat->Nat->Nat->E->List Tk->Option (Rz E)
 |0,_,_,_,_=>none
 |n+1,prec,lv,e,ts=>match nx ts with
  |none=>if prec=3\/prec=7 then some (.ok e ts) else some (failP eS ts)
  |some s=>match qhL prec s with
   |none=>some (.ok e ts)
   |some o=>match qak eS eL f n (prec+1) lv ts.tail with
    |some (.ok e' r)=>if prec=4 then some (.ok (.bin f o e e') r) else qbR eS eL f n prec lv (.bin f o e e') r
    |x=>x
def qa6(eS eL:Nat)(f:Bool):Nat->Nat->List Tk->Option (Rz E)
 |0,_,_=>none
 |n+1,lv,ts=>match qbO eS eL (bs [91]) (lv+1) ts with
  |.er i c=>some (.er i c)
  |.ok _ r=>match qak eS eL f n 1 (lv+1) r with
   |some (.ok e r')=>match qam eS (bs [93]) r' with
    |.ok _ r''=>some (.ok e r'')
    |.er i c=>some (.er i c)
   |x=>x
end
end
section
def qa2{α : Type}(eS:Nat)(a : α)(ts:List Tk):Rz α := match qam eS (bs [59]) ts with
 |.ok _ r => .ok a r
 |.er i c => .er i c
mutual
def qbT(eS eL:Nat)(f fi fb:Bool):Nat->Nat->List Tk->Option (Rz Ss)
 |0,_,_=>none
 |n+1,lv,ts=>match nx ts with
  |none=>some (failP eS ts)
  |some s=>
   if s=bs [105,102] then match qak eS eL f n 1 lv ts.tail with
    |some (.ok c r)=>match qaN eS eL f fi fb n (lv+1) r with
     |some (.ok b r1)=>match nx r1 with
      |none=>some (failP eS r1)
      | some w=>if w=bs [101,108,115,101] then match qaN eS eL f fi fb n (lv+1) r1.tail with
        |some (.ok b2 r2)=>some (.ok (.cond false fi c (.block fb b (.block fb b2 .nil)) .nil) r2)
        |some (.er i k)=>some (.er i k)
        |none=>none
       else some (.ok (.cond false fi c (.block fb b (.block fb .nil .nil)) .nil) r1)
     |some (.er i k)=>some (.er i k)
     |none=>none
    |some (.er i k)=>some (.er i k)
    |none=>none
   else if s=bs [119,104,105,108,101] then match qak eS eL f n 1 lv ts.tail with
    |some (.ok c r)=>match qaN eS eL f fi fb n (lv+1) r with
     |some (.ok b r1)=>some (.ok (.cond true f c (.block fb b .nil) .nil) r1)
     |some (.er i k)=>some (.er i k)
     |none=>none
    |some (.er i k)=>some (.er i k)
    |none=>none
   else if s=bs [101,102,102,101,99,116] then match qak eS eL f n 1 lv ts.tail with
    |some (.ok a r)=>match qam eS (bs [44]) r with
     |.ok _ r1=>match qak eS eL f n 1 lv r1 with
      |some (.ok b r2)=>some (qa2 eS (.effect f a b .nil) r2)
      |some (.er i k)=>some (.er i k)
      |none=>none
     |.er i k=>some (.er i k)
    |some (.er i k)=>some (.er i k)
    |none=>none
   else if s=bs [115,116,111,112] then some (qa2 eS (.stop .nil) ts.tail)
   else if s∈fieldNames then match qa6 eS eL f n lv ts.tail with
    |some (.ok a r)=>match qam eS (bs [61]) r with
     |.ok _ r1=>match qak eS eL f n 1 lv r1 with
      |some (.ok b r2)=>some (qa2 eS (.store f s a b .nil) r2)
      |some (.er i k)=>some (.er i k)
      |none=>none
     |.er i k=>some (.er i k)
    |some (.er i k)=>some (.er i k)
    |none=>none
   else if qaj qaG s/\s∉wordNames then match qam eS (bs [61]) ts.tail with
    |.ok _ r1=>match qak eS eL f n 1 lv r1 with
     |some (.ok b r2)=>some (qa2 eS (.assign f s b .nil) r2)
     |some (.er i k)=>some (.er i k)
     |none=>none
    |.er i k=>some (.er i k)
   else some (failP eS ts)
def qaN(eS eL:Nat)(f fi fb:Bool):Nat->Nat->List Tk->Option (Rz Ss)
 |0,_,_=>none
 |n+1,lv,ts=>match qbO eS eL (bs [123]) lv ts with
  |.er i k=>some (.er i k)
  |.ok _ r=>qbw eS eL f fi fb n lv .nil r
def qbw(eS eL:Nat)(f fi fb:Bool):Nat->Nat->Ss->List Tk->Option (Rz Ss)
 |0,_,_,_=>none
 |n+1,lv,a,ts=>match nx ts with
  |none=>some (failP eS ts)
  |some s=>if s=bs [125] then some (.ok a ts.tail) else match qbT eS eL f fi fb n lv ts with
   |some (.ok b r)=>qbw eS eL f fi fb n lv (a.app b) r
   |some (.er i k)=>some (.er i k)
   |none=>none
end
def qaY(s:ByteArray):Option Nat:=
 if s=bs [97,99,116] then some 0 else if s=bs [116,105,99,107] then some 1 else if s=qfM then some 2 else none
def qcj(eS eL eD:Nat)(f fi fb:Bool):Nat->(Nat->Option Ss)->List Tk->Option (Rz (Nat->Option Ss))
 |0,_,_=>none
 |n+1,h,ts=>match nx ts with
  |none=>some (failP eS ts)
  |some s=>if s.size=0 then some (.ok h ts) else match qam eS (bs [111,110]) ts with
   |.er i k=>some (.er i k)
   |.ok _ r=>match nx r with
    |none=>some (failP eS r)
    |some w=>match qaY w with
     |none=>some (failP eS r)
     |some k=>if (h k).isSome then some (failP eD r) else match qaN eS eL f fi fb n 1 r.tail with
      |some (.ok b r1)=>qcj eS eL eD f fi fb n (fun i=>if i=k then some b else h i) r1
      |some (.er i c)=>some (.er i c)
      |none=>none
end
section
def Fin{α : Type}(m:Nat)(x:Option (Rz α)):Prop := ∃ y,x=some y /\ ∀ a r,y = .ok a r->r.length<=m
theorem qdb{α : Type}(m c:Nat)(ts:List Tk):Fin (α := α) m (some (failP c ts)):=⟨_,rfl,fun a r h=>by cases ts<;>cases h⟩
theorem qbU{α : Type}(m i c:Nat):Fin (α := α) m (some (.er i c)):=⟨_,rfl,fun a r h=>by cases h⟩
theorem qcV{α : Type}{m:Nat}(a : α){ts:List Tk}(h:ts.length<=m):Fin m (some (.ok a ts)):=⟨_,rfl,fun a r e=>by cases e; exact h⟩
theorem qhX{ts:List Tk}{s:ByteArray}(h:nx ts=some s):ts.tail.length+1=ts.length:=by
 cases ts with
 |nil=>cases h
 |cons t r=>rfl
theorem qck{eS:Nat}{x:ByteArray}{ts r:List Tk}{u:Unit}(h:qam eS x ts = .ok u r):r.length+1=ts.length:=by
 cases ts with
 |nil=>cases h
 |cons t r'=>
  simp only[qam] at h
  split at h
  ·cases h; rfl
  ·cases h
theorem qgL{eS eL:Nat}{x:ByteArray}{lv:Nat}{ts r:List Tk}{u:Unit}(h:qbO eS eL x lv ts = .ok u r):r.length+1=ts.length:=by
 unfold qbO at h
 split at h
 ·cases ts<;>cases h
 ·exact qck h
theorem qmn (eS eL:Nat) (f:Bool) : ∀ n:Nat,
  (∀ prec lv ts,1<=prec->prec<=8->10*ts.length+(10-prec)<=n->Fin (ts.length-1) (qak eS eL f n prec lv ts)) /\
  (∀ prec lv e ts,1<=prec->prec<=7->10*ts.length+1<=n->Fin ts.length (qbR eS eL f n prec lv e ts)) /\
  (∀ lv ts,10*ts.length+1<=n->Fin (ts.length-1) (qa6 eS eL f n lv ts))
 |0=>⟨fun p lv ts h1 h2 h=>by omega,fun p lv e ts h1 h2 h=>by omega,fun lv ts h=>by omega⟩
 |n+1=>by
  obtain⟨ihe,ihl,ihi⟩:=qmn eS eL f n
  refine⟨fun p lv ts h1 h2 h=>?_,fun p lv e ts h1 h2 h=>?_,fun lv ts h=>?_⟩
  ·simp only[qak]
   split
   ·split
    ·exact qbU _ _ _
    ·rename_i u r ho
     have hl:=qgL ho
     obtain⟨y,hy,hr⟩:=ihe p (lv+1) r h1 h2 (by omega)
     rw[hy]
     cases y with
     |er i c=>exact qbU _ _ _
     |ok e r'=>have:=hr e r' rfl; exact qcV _ (by omega)
   ·split
    ·obtain⟨y,hy,hr⟩:=ihe (p+1) lv ts (by omega) (by omega) (by omega)
     rw[hy]
     cases y with
     |er i c=>exact qbU _ _ _
     |ok e r=>
      have:=hr e r rfl
      obtain⟨z,hz,hr2⟩:=ihl p lv e r h1 (by omega) (by omega)
      exact⟨z,hz,fun a q hq=>by have:=hr2 a q hq; omega⟩
    ·cases hn:nx ts with
     |none=>exact qdb _ _ _
     |some s=>
      have hp:=qhX hn
      simp only
      split
      ·exact qcV _ (by omega)
      split
      ·exact qcV _ (by omega)
      split
      ·exact qcV _ (by omega)
      split
      ·exact qcV _ (by omega)
      split
      ·obtain⟨y,hy,hr⟩:=ihi lv ts.tail (by omega)
       rw[hy]
       cases y with
       |er i c=>exact qbU _ _ _
       |ok e r'=>have:=hr e r' rfl; exact qcV _ (by omega)
      split
      ·exact qcV _ (by omega)
      split
      ·exact qbU _ _ _
      ·rename_i u r ho
       have hl:=qgL ho
       obtain⟨y,hy,hr⟩:=ihe 1 (lv+1) r (by omega) (by omega) (by omega)
       rw[hy]
       cases y with
       |er i c=>exact qbU _ _ _
       |ok e r'=>
        have:=hr e r' rfl
        simp only
        split
        ·rename_i u' r'' hx; have:=qck hx; exact qcV _ (by omega)
        ·exact qbU _ _ _
  ·simp only[qbR]
   cases hn:nx ts with
   |none=>
    simp only
    split
    ·exact qcV _ (Wl _)
    ·exact qdb _ _ _
   |some s=>
    have hp:=qhX hn
    simp only
    split
    ·exact qcV _ (Wl _)
    ·obtain⟨y,hy,hr⟩:=ihe (p+1) lv ts.tail (by omega) (by omega) (by omega)
     rw[hy]
     cases y with
     |er i c=>exact qbU _ _ _
     |ok e' r=>
      have:=hr e' r rfl
      simp only
      split
      ·exact qcV _ (by omega)
      ·obtain⟨z,hz,hr2⟩:=ihl p lv (.bin f _ e e') r h1 h2 (by omega)
       exact⟨z,hz,fun a q hq=>by have:=hr2 a q hq; omega⟩
  ·simp only[qa6]
   split
   ·exact qbU _ _ _
   ·rename_i u r ho
    have hl:=qgL ho
    obtain⟨y,hy,hr⟩:=ihe 1 (lv+1) r (by omega) (by omega) (by omega)
    rw[hy]
    cases y with
    |er i c=>exact qbU _ _ _
    |ok e r'=>
     have:=hr e r' rfl
     simp only
     split
     ·rename_i u' r'' hx; have:=qck hx; exact qcV _ (by omega)
     ·exact qbU _ _ _
end
section
theorem qit{α : Type}{eS m:Nat}{a : α}{ts:List Tk}(h:ts.length<=m+1):Fin m (some (qa2 eS a ts)):=by
 unfold qa2
 split
 ·rename_i u r hx; have:=qck hx; exact qcV _ (by omega)
 ·exact qbU _ _ _
theorem qgn (eS eL:Nat) (f fi fb:Bool) : ∀ n:Nat,
  (∀ lv ts,10*ts.length+1<=n->Fin (ts.length-1) (qbT eS eL f fi fb n lv ts)) /\
  (∀ lv ts,10*ts.length+1<=n->Fin (ts.length-1) (qaN eS eL f fi fb n lv ts)) /\
  (∀ lv a ts,10*ts.length+2<=n->Fin (ts.length-1) (qbw eS eL f fi fb n lv a ts))
 |0=>⟨fun lv ts h=>by omega,fun lv ts h=>by omega,fun lv a ts h=>by omega⟩
 |n+1=>by
  obtain⟨ihs,ihb,ihl⟩:=qgn eS eL f fi fb n
  obtain⟨ihe,_,ihi⟩:=qmn eS eL f n
  refine⟨fun lv ts h=>?_,fun lv ts h=>?_,fun lv a ts h=>?_⟩
  ·simp only[qbT]
   cases hn:nx ts with
   |none=>exact qdb _ _ _
   |some s=>
    have hp:=qhX hn
    simp only
    have he:=ihe 1 lv ts.tail (by omega) (by omega) (by omega)
    obtain⟨y,hy,hr⟩:=he
    split
    ·rw[hy]
     cases y with
     |er i c=>exact qbU _ _ _
     |ok e r=>
      have h1:=hr e r rfl
      obtain⟨y1,hy1,hr1⟩:=ihb (lv+1) r (by omega)
      simp only[hy1]
      cases y1 with
      |er i c=>exact qbU _ _ _
      |ok b r1=>
       have h2:=hr1 b r1 rfl
       simp only
       cases hn1:nx r1 with
       |none=>exact qdb _ _ _
       |some w=>
        have hp1:=qhX hn1
        simp only
        split
        ·obtain⟨y2,hy2,hr2⟩:=ihb (lv+1) r1.tail (by omega)
         rw[hy2]
         cases y2 with
         |er i c=>exact qbU _ _ _
         |ok b2 r2=>have h3:=hr2 b2 r2 rfl; exact qcV _ (by omega)
        ·exact qcV _ (by omega)
    split
    ·rw[hy]
     cases y with
     |er i c=>exact qbU _ _ _
     |ok e r=>
      have h1:=hr e r rfl
      obtain⟨y1,hy1,hr1⟩:=ihb (lv+1) r (by omega)
      simp only[hy1]
      cases y1 with
      |er i c=>exact qbU _ _ _
      |ok b r1=>have h2:=hr1 b r1 rfl; exact qcV _ (by omega)
    have second : ∀ (r:List Tk) (g:E->Ss),r.length+1<=ts.length->Fin (ts.length-1) (match qak eS eL f n 1 lv r with
      |some (.ok b r2)=>some (qa2 eS (g b) r2)
      |some (.er i k)=>some (.er i k)
      |none=>none):=fun r g hr=>by
     obtain⟨y1,hy1,hr1⟩:=ihe 1 lv r (by omega) (by omega) (by omega)
     rw[hy1]
     cases y1 with
     |er i c=>exact qbU _ _ _
     |ok b r2=>have h2:=hr1 b r2 rfl; exact qit (by omega)
    split
    ·rw[hy]
     cases y with
     |er i c=>exact qbU _ _ _
     |ok e r=>
      have h1:=hr e r rfl
      simp only
      split
      ·rename_i u r1 hx
       have:=qck hx
       exact second r1 (fun b => .effect f e b .nil) (by omega)
      ·exact qbU _ _ _
    split
    ·exact qit (by omega)
    split
    ·obtain⟨y1,hy1,hr1⟩:=ihi lv ts.tail (by omega)
     rw[hy1]
     cases y1 with
     |er i c=>exact qbU _ _ _
     |ok e r=>
      have h1:=hr1 e r rfl
      simp only
      split
      ·rename_i u r1 hx
       have:=qck hx
       exact second r1 (fun b => .store f s e b .nil) (by omega)
      ·exact qbU _ _ _
    split
    ·split
     ·rename_i u r1 hx
      have:=qck hx
      exact second r1 (fun b => .assign f s b .nil) (by omega)
     ·exact qbU _ _ _
    ·exact qdb _ _ _
  ·simp only[qaN]
   split
   ·exact qbU _ _ _
   ·rename_i u r ho
    have hl:=qgL ho
    obtain⟨y,hy,hr⟩:=ihl lv .nil r (by omega)
    exact⟨y,hy,fun a q hq=>by have:=hr a q hq; omega⟩
  ·simp only[qbw]
   cases hn:nx ts with
   |none=>exact qdb _ _ _
   |some s=>
    have hp:=qhX hn
    simp only
    split
    ·exact qcV _ (by omega)
    ·obtain⟨y,hy,hr⟩:=ihs lv ts (by omega)
     rw[hy]
     cases y with
     |er i c=>exact qbU _ _ _
     |ok b r=>
      have h1:=hr b r rfl
      obtain⟨z,hz,hr2⟩:=ihl lv (a.app b) r (by omega)
      exact⟨z,hz,fun a q hq=>by have:=hr2 a q hq; omega⟩
theorem qlI(eS eL eD:Nat)(f fi fb:Bool) : ∀ (n:Nat) h ts,10*ts.length+2<=n->Fin ts.length (qcj eS eL eD f fi fb n h ts)
 |0,h,ts,hn=>by omega
 |n+1,h,ts,hn=>by
  simp only[qcj]
  cases hx:nx ts with
  |none=>exact qdb _ _ _
  |some s=>
   have hp:=qhX hx
   simp only
   split
   ·exact qcV _ (Wl _)
   split
   ·exact qbU _ _ _
   ·rename_i u r hr
    have h1:=qck hr
    cases hw:nx r with
    |none=>exact qdb _ _ _
    |some w=>
     have hp1:=qhX hw
     simp only
     split
     ·exact qdb _ _ _
     ·rename_i k hk
      split
      ·exact qdb _ _ _
      ·obtain⟨y,hy,hr⟩:=(qgn eS eL f fi fb n).2.1 1 r.tail (by omega)
       rw[hy]
       cases y with
       |er i c=>exact qbU _ _ _
       |ok b r1=>
        have h2:=hr b r1 rfl
        obtain⟨z,hz,hr2⟩:=qlI eS eL eD f fi fb n (fun i=>if i=k then some b else h i) r1 (by omega)
        exact⟨z,hz,fun a q hq=>by have:=hr2 a q hq; omega⟩
end
section
abbrev byl(s:ByteArray):List UInt8:=s.data.toList
theorem qbi(l:List UInt8):byl (bs l)=l:=by simp[byl,bs]
theorem qcW(s:ByteArray):bs (byl s)=s:=by cases s; simp[bs,byl]
theorem qat(s:ByteArray):(byl s).length=s.size:=WB
theorem qav(l:List UInt8):(bs l).size=l.length:=rfl
theorem qkr{a b:List UInt8}(h:bs a=bs b):a=b:=by rw[<- qbi a,h,qbi]
theorem qlw{a b:ByteArray}(h:byl a=byl b):a=b:=by rw[<- qcW a,h,qcW]
theorem qhz(s:ByteArray)(i:Nat):s[i]?=((byl s).drop i).head?:=by
 rw[List.head?_drop]
 by_cases h:i<s.size
 ·rw[getElem?_pos s i h,WX (by rw[qat]; exact h)]
  simp[byl,ByteArray.getElem_eq_getElem_data]
 ·rw[getElem?_neg s i h,Yi (by rw[qat]; omega)]
theorem qb8(s:ByteArray)(i k:Nat):s.extract i (i+k)=bs (((byl s).drop i).take k):=by
 apply qlw
 rw[qbi]
 simp only[byl,ByteArray.data_extract,Array.toList_extract,List.extract_eq_take_drop]
 rw[show i+k-i=k by omega]
def qaD:Bool->List UInt8->Nat
 |_,[]=>0
 |c,b::r=>if b.toNat=10 then qaD false r+1 else if c=true\/b.toNat=32\/b.toNat=9 then qaD c r+1 else if b.toNat=35 then qaD true r+1 else 0
def qa3(p:UInt8->Bool):List UInt8->Nat
 |[]=>0
 |b::r=>if p b then qa3 p r+1 else 0
theorem qfQ : ∀ (l:List UInt8) (c:Bool),qaD c l<=l.length
 |[],c=>by simp[qaD]
 |b::r,c=>by
  have h1:=qfQ r false
  have h2:=qfQ r c
  have h3:=qfQ r true
  simp only[qaD,Wj]
  split
  ·omega
  split
  ·omega
  split<;>omega
theorem qdS(p:UInt8->Bool) : ∀ l:List UInt8,qa3 p l<=l.length
 |[]=>by simp[qa3]
 |b::r=>by
  have h1:=qdS p r
  simp only[qa3,Wj]
  split<;>omega
def tokL(eS eL eR:Nat):List UInt8->List UInt8 × Nat
 |[]=>([],0)
 |c::r=>
  if qaG c then ((c::r).take (qa3 qaq (c::r)),if 8<qa3 qaq (c::r)/\bs ((c::r).take (qa3 qaq (c::r)))∉fieldNames/\bs ((c::r).take (qa3 qaq (c::r)))∉wordNames then eL else 0)
  else if qal c then ((c::r).take (qa3 qal (c::r)),if 2147483647<digV ((c::r).take (qa3 qal (c::r))) then eR else 0)
  else if bs ((c::r).take 2)∈qdh then ((c::r).take 2,0)
  else if c.toNat∈symB then ([c],0)
  else ([c],eS)
def qmE(eS eL eR:Nat):Nat->Nat->List UInt8->List Tk
 |0,i,_=>[⟨i,⟨#[]⟩,0⟩]
 |n+1,i,l=>
  if (tokL eS eL eR (l.drop (qaD false l))).2≠0\/(tokL eS eL eR (l.drop (qaD false l))).1.length=0 then [⟨i+qaD false l,bs (tokL eS eL eR (l.drop (qaD false l))).1,(tokL eS eL eR (l.drop (qaD false l))).2⟩]
  else ⟨i+qaD false l,bs (tokL eS eL eR (l.drop (qaD false l))).1,(tokL eS eL eR (l.drop (qaD false l))).2⟩::qmE eS eL eR n (i+qaD false l+(tokL eS eL eR (l.drop (qaD false l))).1.length) ((l.drop (qaD false l)).drop (tokL eS eL eR (l.drop (qaD false l))).1.length)
theorem qir(s:ByteArray) : ∀ (n:Nat) (c:Bool) (i:Nat),s.size-i<=n->qh1 s n c i=i+qaD c ((byl s).drop i)
 |0,c,i,h=>by
  have:(byl s).drop i=[]:=WN (by rw[qat]; omega)
  rw[this]
  simp[qh1,qaD]
 |n+1,c,i,h=>by
  rw[qh1,qhz]
  cases hd:(byl s).drop i with
  |nil=>simp[qaD]
  |cons b r=>
   have hr:(byl s).drop (i+1)=r:=by rw[<- List.drop_drop,hd]; rfl
   have ih:=fun c=>qir s n c (i+1) (by omega)
   simp only[YR,qaD,ih,hr]
   split
   ·omega
   split
   ·omega
   split<;>omega
theorem qhA(p:UInt8->Bool)(s:ByteArray) : ∀ (n i:Nat),s.size-i<=n->qoU p s n i=i+qa3 p ((byl s).drop i)
 |0,i,h=>by
  have:(byl s).drop i=[]:=WN (by rw[qat]; omega)
  rw[this]
  simp[qoU,qa3]
 |n+1,i,h=>by
  rw[qoU,qhz]
  cases hd:(byl s).drop i with
  |nil=>simp[qa3]
  |cons b r=>
   have hr:(byl s).drop (i+1)=r:=by rw[<- List.drop_drop,hd]; rfl
   have ih:=qhA p s n (i+1) (by omega)
   simp only[YR,qa3,ih,hr]
   split<;>omega
theorem qfR{w:ByteArray}(h:w∈qdh):w.size=2:=by
 simp only[qdh,Ws,WA,or_false] at h
 rcases h with h|h|h|h|h|h<;>rw[h]<;>rfl
theorem qcB(eS eL eR:Nat)(s:ByteArray)(i:Nat):tokAt eS eL eR s i=⟨i,bs (tokL eS eL eR ((byl s).drop i)).1,(tokL eS eL eR ((byl s).drop i)).2⟩:=by
 unfold tokAt
 rw[qhz]
 cases hd:(byl s).drop i with
 |nil=>rfl
 |cons c r=>
  have hlen:s.size-i=r.length+1:=by
   have:=congrArg List.length hd
   rw[WT,qat,Wj] at this
   exact this
  have e1 : ∀ p,s.extract i (qoU p s (s.size-i) i)=bs ((c::r).take (qa3 p (c::r))):=fun p=>by
   rw[qhA p s _ i (Wl _),qb8,hd]
  have e2:s.extract i (i+2)=bs ((c::r).take 2):=by rw[qb8,hd]
  have e3:s.extract i (i+1)=bs [c]:=by rw[qb8,hd]; rfl
  have hw : ∀ p,((c::r).take (qa3 p (c::r))).length=qa3 p (c::r):=fun p=>by
   rw[WV,YP (qdS p _)]
  simp only[YR,e1,e2,e3,tokL,qav,hw,qbi,ByteArray.toList_eq]
  split
  ·rfl
  split
  ·simp[bs]
  have e4:(i+2<=s.size/\bs ((c::r).take 2)∈qdh)↔bs ((c::r).take 2)∈qdh:=by
   refine⟨fun h=>h.2,fun h=>⟨?_,h⟩⟩
   have:=qfR h
   rw[qav,WV,Wj] at this
   omega
  simp only[e4]
  split
  ·rfl
  split<;>rfl
theorem qlx(eS eL eR:Nat)(s:ByteArray) : ∀ (n i:Nat),qbY eS eL eR s n i=qmE eS eL eR n i ((byl s).drop i)
 |0,i=>rfl
 |n+1,i=>by
  rw[qbY,qmE]
  simp only[qir s _ false i (Nat.le_refl _),qcB,qav,<- List.drop_drop,qlx eS eL eR s n,List.drop_drop]
end
section
def qbx(p:Bool)(t:ByteArray):Bool:=match (byl t).getLast? with
 |some c=>qaq c
 |none=>p
def gap(p:Bool)(t:ByteArray):List UInt8:=if p&&qaj qaq t then [32] else []
def qao:Bool->List ByteArray->List UInt8
 |_,[]=>[]
 |p,t::ts=>gap p t++(byl t++qao (qbx p t) ts)
def qqF(p:Bool)(ts:List ByteArray):Bool:=ts.foldl qbx p
theorem qfC : ∀ (a b:List ByteArray) (p:Bool),qao p (a++b)=qao p a++qao (qqF p a) b
 |[],b,p=>rfl
 |t::a,b,p=>by simp only[Wf,qao,qfC a b,Wg,qqF,Yx]
theorem qaS(p:UInt8->Bool)(t:ByteArray):qaj p t=match (byl t).head? with|some c=>p c|none=>false:=by
 unfold qaj
 rw[qhz,WJ]
 all_goals (cases (byl t).head?<;>rfl)
def Tg(w:List UInt8):Prop:=
 (∃ c r,w=c::r/\qaG c=true/\(∀ b∈r,qaq b=true) /\ ¬ (8<w.length/\bs w∉fieldNames/\bs w∉wordNames)) \/
 (∃ c r,w=c::r/\qal c=true/\(∀ b∈r,qal b=true)/\digV w<=2147483647) \/
 bs w∈qdh \/ ∃ c,w=[c]/\c.toNat∈symB
def Fol:List UInt8->List UInt8->Prop
 |c::r,d::_=>if qaG c then qaq d=false else if qal c then qal d=false else r=[]->bs [c,d]∉qdh
 |_,_=>True
theorem qk9(p:UInt8->Bool) : ∀ (w r:List UInt8),(∀ b∈w,p b=true)->(∀ d,r.head?=some d->p d=false)->qa3 p (w++r)=w.length
 |[],[],_,_=>rfl
 |[],d::r,_,h=>by simp[qa3,h d rfl]
 |b::w,r,h,h2=>by
  simp only[Wf,qa3,h b (WQ ..),if_true,Wj]
  rw[qk9 p w r (fun x hx=>h x (Wy _ hx)) h2]
theorem qoh{c:UInt8}(h:qaG c=true):qaq c=true:=by simp[qaq,h]
theorem qih{c:UInt8}(h:qal c=true):qaq c=true:=by simp[qaq,h]
theorem pair_cases{w:List UInt8}(h:bs w∈qdh):w=[124,124]\/w=[38,38]\/w=[60,61]\/w=[62,61]\/w=[61,61]\/w=[33,61]:=by
 simp only[qdh,Ws,WA,or_false] at h
 rcases h with h|h|h|h|h|h<;>have:=qkr h<;>simp[this]
theorem qep{c:UInt8}(h:c.toNat∈symB):c=123\/c=125\/c=91\/c=93\/c=40\/c=41\/c=61\/c=59\/c=44\/c=60\/c=62\/c=43\/c=45\/c=42\/c=47\/c=33:=by
 simp only[symB,Ws,WA,or_false] at h
 simp only[<- UInt8.toNat_inj]
 exact h
theorem qqG(eS eL eR:Nat){w rest:List UInt8}(h:Tg w)(hf:Fol w rest):tokL eS eL eR (w++rest)=(w,0):=by
 have take_len : ∀ k,k=w.length->(w++rest).take k=w:=fun k hk=>by rw[hk,List.take_left]
 rcases h with ⟨c,r,rfl,hc,hr,hb⟩|⟨c,r,rfl,hc,hr,hb⟩|hp|⟨c,rfl,hc⟩
 ·have hrun:qa3 qaq (c::r++rest)=(c::r).length:=by
   apply qk9
   ·intro b hb'
    rcases Ws.1 hb' with rfl|hb'
    ·exact qoh hc
    ·exact hr b hb'
   ·intro d hd
    cases rest with
    |nil=>cases hd
    |cons e rest=>
     cases hd
     simp only[Fol,hc,if_true] at hf
     exact hf
  have ht:=take_len _ rfl
  simp only[Wf] at hrun ht ⊢
  simp only[tokL,hc,if_true,hrun,ht,if_neg hb]
 ·have hnl:qaG c=false:=by
   simp only[qal,qaG,Wt,decide_eq_true_eq,Yn,decide_eq_false_iff_not] at hc ⊢
   omega
  have hrun:qa3 qal (c::r++rest)=(c::r).length:=by
   apply qk9
   ·intro b hb'
    rcases Ws.1 hb' with rfl|hb'
    ·exact hc
    ·exact hr b hb'
   ·intro d hd
    cases rest with
    |nil=>cases hd
    |cons e rest=>
     cases hd
     simp only[Fol,hc,hnl,if_true] at hf
     exact hf
  have ht:=take_len _ hrun
  simp only[Wf] at hrun ht ⊢
  simp only[tokL,hc,hnl,if_true,ht,if_neg (YC.2 hb)]
  simp
 ·rcases pair_cases hp with rfl|rfl|rfl|rfl|rfl|rfl<;>simp[tokL,qaG,qal,hp]
 ·have h2:bs ((c::rest).take 2)∉qdh:=by
   cases rest with
   |nil=>intro h; have:=qfR h; rw[qav] at this; simp at this
   |cons d rest=>
    have hl:qaG c=false/\qal c=false:=by rcases qep hc with rfl|rfl|rfl|rfl|rfl|rfl|rfl|rfl|rfl|rfl|rfl|rfl|rfl|rfl|rfl|rfl<;>exact⟨rfl,rfl⟩
    simp only[Fol,hl.1,hl.2] at hf
    simpa using hf
  have hl:qaG c=false/\qal c=false:=by rcases qep hc with rfl|rfl|rfl|rfl|rfl|rfl|rfl|rfl|rfl|rfl|rfl|rfl|rfl|rfl|rfl|rfl<;>exact⟨rfl,rfl⟩
  simp only[Wf,Wc,tokL,hl.1,hl.2,if_neg h2,if_pos hc,Wm,if_false]
theorem qgb{w:List UInt8}(h:Tg w) : ∃ c r,w=c::r/\c.toNat≠10/\c.toNat≠32/\c.toNat≠9/\c.toNat≠35:=by
 rcases h with ⟨c,r,rfl,hc,hr,hb⟩|⟨c,r,rfl,hc,hr,hb⟩|hp|⟨c,rfl,hc⟩
 ·simp only[qaG,Wt,decide_eq_true_eq] at hc
  exact⟨c,r,rfl,by omega,by omega,by omega,by omega⟩
 ·simp only[qal,Wt,decide_eq_true_eq] at hc
  exact⟨c,r,rfl,by omega,by omega,by omega,by omega⟩
 ·rcases pair_cases hp with rfl|rfl|rfl|rfl|rfl|rfl<;>exact⟨_,_,rfl,by decide,by decide,by decide,by decide⟩
 ·rcases qep hc with rfl|rfl|rfl|rfl|rfl|rfl|rfl|rfl|rfl|rfl|rfl|rfl|rfl|rfl|rfl|rfl<;>exact⟨_,_,rfl,by decide,by decide,by decide,by decide⟩
def Adj(t u:ByteArray):Prop:=(t≠bs [60]/\t≠bs [62]/\t≠bs [61]/\t≠bs [33])\/(byl u).head?≠some 61
def Ok2:List ByteArray->Prop
 |[]=>True
 |t::r=>Tg (byl t)/\(∀ u,r.head?=some u->Adj t u)/\Ok2 r
theorem qiT{w:List UInt8}{p:Bool}(h:bs w∈qdh \/ ∃ c,w=[c]/\c.toNat∈symB):qbx p (bs w)=false:=by
 unfold qbx
 rw[qbi]
 rcases h with hp|⟨c,rfl,hc⟩
 ·rcases pair_cases hp with rfl|rfl|rfl|rfl|rfl|rfl<;>rfl
 ·rcases qep hc with rfl|rfl|rfl|rfl|rfl|rfl|rfl|rfl|rfl|rfl|rfl|rfl|rfl|rfl|rfl|rfl<;>rfl
theorem qo9{w:List UInt8}{p:Bool}(h : ∃ c r,w=c::r/\qaq c=true /\ ∀ b∈r,qaq b=true):qbx p (bs w)=true:=by
 obtain⟨c,r,rfl,hc,hr⟩:=h
 unfold qbx
 rw[qbi]
 cases hl:(c::r).getLast? with
 |none=>simp at hl
 |some b=>
  have:=List.mem_of_getLast? hl
  rcases Ws.1 this with rfl|h
  ·exact hc
  ·exact hr b h
theorem qsH{p:Bool}{t u:ByteArray}(ht:Tg (byl t))(hu:Tg (byl u))(ha:Adj t u)(r:List UInt8):Fol (byl t) (gap (qbx p t) u++(byl u++r)):=by
 obtain⟨d,w,hd,-⟩:=qgb hu
 have hs:qaj qaq u=qaq d:=by rw[qaS,hd]; rfl
 have hword:(∃ c r,byl t=c::r/\qaq c=true /\ ∀ b∈r,qaq b=true) -> ∀ e q,gap (qbx p t) u++(byl u++r)=e::q->qaq e=false:=fun h e q he=>by
  have h1:qbx p t=true:=by
   have:=qo9 (p:=p) h
   rwa [qcW] at this
  rw[h1,gap,hs,hd] at he
  cases hwd:qaq d with
  |true=>simp[hwd] at he; rw[<- he.1]; rfl
  |false=>simp[hwd] at he; rw[<- he.1]; exact hwd
 cases he:gap (qbx p t) u++(byl u++r) with
 |nil=>cases byl t<;>trivial
 |cons e q=>
  rcases ht with ⟨c,r',hw,hc,hr,hb⟩|⟨c,r',hw,hc,hr,hb⟩|hp|⟨c,hw,hc⟩
  ·have:=hword ⟨c,r',hw,qoh hc,hr⟩ e q he
   rw[hw]
   simp only[Fol,hc,if_true]
   exact this
  ·have:=hword ⟨c,r',hw,qih hc,fun b h=>qih (hr b h)⟩ e q he
   rw[hw]
   have hnl:qaG c=false:=by
    simp only[qal,qaG,Wt,decide_eq_true_eq,Yn,decide_eq_false_iff_not] at hc ⊢
    omega
   simp only[Fol,hc,hnl,if_true]
   simp only[qaq,Bool.or_eq_false_iff] at this
   exact this.2
  ·rcases pair_cases hp with h|h|h|h|h|h<;>rw[h]<;>simp[Fol,qaG,qal]
  ·have h1:qbx p t=false:=by
    have:=qiT (p:=p) (.inr ⟨c,hw,hc⟩)
    rwa [qcW] at this
   rw[h1,gap,hd] at he
   simp at he
   have hed:e=d:=he.1.symm
   rw[hw]
   have hl:qaG c=false/\qal c=false:=by rcases qep hc with rfl|rfl|rfl|rfl|rfl|rfl|rfl|rfl|rfl|rfl|rfl|rfl|rfl|rfl|rfl|rfl<;>exact⟨rfl,rfl⟩
   simp only[Fol,hl.1,hl.2]
   simp only[Wm,if_false]
   intro _ hpr
   have htb:t=bs [c]:=by rw[<- qcW t,hw]
   rw[hed] at hpr
   rcases ha with ⟨a1,a2,a3,a4⟩|ha
   ·rcases pair_cases hpr with h|h|h|h|h|h<;>simp only[Ww,and_true] at h
    ·rw[h.1] at hc; simp[symB] at hc
    ·rw[h.1] at hc; simp[symB] at hc
    ·exact a1 (by rw[htb,h.1])
    ·exact a2 (by rw[htb,h.1])
    ·exact a3 (by rw[htb,h.1])
    ·exact a4 (by rw[htb,h.1])
   ·rw[hd] at ha
    simp only[YR] at ha
    rcases pair_cases hpr with h|h|h|h|h|h<;>simp only[Ww,and_true] at h
    ·rw[h.1] at hc; simp[symB] at hc
    ·rw[h.1] at hc; simp[symB] at hc
    ·exact ha (by rw[h.2])
    ·exact ha (by rw[h.2])
    ·exact ha (by rw[h.2])
    ·exact ha (by rw[h.2])
end
section
variable{eS eL eD:Nat}{f fi fb:Bool}
theorem qeG : ∀ n:Nat,
  (∀ p lv ts x,qak eS eL f n p lv ts=some x->qak eS eL f (n+1) p lv ts=some x) /\
  (∀ p lv e ts x,qbR eS eL f n p lv e ts=some x->qbR eS eL f (n+1) p lv e ts=some x) /\
  (∀ lv ts x,qa6 eS eL f n lv ts=some x->qa6 eS eL f (n+1) lv ts=some x)
 |0=>⟨fun p lv ts x h=>by simp[qak] at h,fun p lv e ts x h=>by simp[qbR] at h,fun lv ts x h=>by simp[qa6] at h⟩
 |n+1=>by
  obtain⟨ihe,ihl,ihi⟩:=qeG n
  refine⟨fun p lv ts x h=>?_,fun p lv e ts x h=>?_,fun lv ts x h=>?_⟩
  ·rw[qak] at h ⊢
   split at h
   ·rename_i c1
    rw[if_pos c1]
    cases ho:qbO eS eL (ustr (p==7)) (lv+1) ts with
    |er i c=>simp only[ho] at h ⊢; exact h
    |ok u r=>
     simp only[ho] at h ⊢
     cases hq:qak eS eL f n p (lv+1) r with
     |none=>simp[hq] at h
     |some y=>rw[ihe _ _ _ _ hq]; rw[hq] at h; exact h
   ·rename_i c1
    rw[if_neg c1]
    split at h
    ·rename_i c2
     rw[if_pos c2]
     cases hq:qak eS eL f n (p+1) lv ts with
     |none=>simp[hq] at h
     |some y=>
      rw[ihe _ _ _ _ hq]; rw[hq] at h
      cases y with
      |er i c=>exact h
      |ok e r=>exact ihl _ _ _ _ _ h
    ·rename_i c2
     rw[if_neg c2]
     cases hn:nx ts with
     |none=>simp only[hn] at h ⊢; exact h
     |some s=>
      simp only[hn] at h ⊢
      split at h
      ·rename_i c; rw[if_pos c]; exact h
      rename_i c; rw[if_neg c]
      split at h
      ·rename_i c; rw[if_pos c]; exact h
      rename_i c; rw[if_neg c]
      split at h
      ·rename_i c; rw[if_pos c]; exact h
      rename_i c; rw[if_neg c]
      split at h
      ·rename_i c; rw[if_pos c]; exact h
      rename_i c; rw[if_neg c]
      split at h
      ·rename_i c; rw[if_pos c]
       cases hq:qa6 eS eL f n lv ts.tail with
       |none=>simp[hq] at h
       |some y=>rw[ihi _ _ _ hq]; rw[hq] at h; exact h
      rename_i c; rw[if_neg c]
      split at h
      ·rename_i c; rw[if_pos c]; exact h
      rename_i c; rw[if_neg c]
      cases ho:qbO eS eL (bs [40]) (lv+1) ts with
      |er i c=>simp only[ho] at h ⊢; exact h
      |ok u r=>
       simp only[ho] at h ⊢
       cases hq:qak eS eL f n 1 (lv+1) r with
       |none=>simp[hq] at h
       |some y=>rw[ihe _ _ _ _ hq]; rw[hq] at h; exact h
  ·rw[qbR] at h ⊢
   cases hn:nx ts with
   |none=>simp only[hn] at h ⊢; exact h
   |some s=>
    simp only[hn] at h ⊢
    cases ho:qhL p s with
    |none=>simp only[ho] at h ⊢; exact h
    |some o=>
     simp only[ho] at h ⊢
     cases hq:qak eS eL f n (p+1) lv ts.tail with
     |none=>simp[hq] at h
     |some y=>
      rw[ihe _ _ _ _ hq]; rw[hq] at h
      cases y with
      |er i c=>exact h
      |ok e' r=>
       simp only at h ⊢
       split at h
       ·rename_i c; rw[if_pos c]; exact h
       ·rename_i c; rw[if_neg c]; exact ihl _ _ _ _ _ h
  ·rw[qa6] at h ⊢
   cases ho:qbO eS eL (bs [91]) (lv+1) ts with
   |er i c=>simp only[ho] at h ⊢; exact h
   |ok u r=>
    simp only[ho] at h ⊢
    cases hq:qak eS eL f n 1 (lv+1) r with
    |none=>simp[hq] at h
    |some y=>rw[ihe _ _ _ _ hq]; rw[hq] at h; exact h
theorem qbh{n m p lv:Nat}{ts:List Tk}{x:Rz E}(h:qak eS eL f n p lv ts=some x)(hm:n<=m):qak eS eL f m p lv ts=some x:=by
 induction hm with
 |refl=>exact h
 |step _ ih=>exact (qeG _).1 _ _ _ _ ih
theorem qj5{n m p lv:Nat}{e:E}{ts:List Tk}{x:Rz E}(h:qbR eS eL f n p lv e ts=some x)(hm:n<=m):qbR eS eL f m p lv e ts=some x:=by
 induction hm with
 |refl=>exact h
 |step _ ih=>exact (qeG _).2.1 _ _ _ _ _ ih
theorem qiU{n m lv:Nat}{ts:List Tk}{x:Rz E}(h:qa6 eS eL f n lv ts=some x)(hm:n<=m):qa6 eS eL f m lv ts=some x:=by
 induction hm with
 |refl=>exact h
 |step _ ih=>exact (qeG _).2.2 _ _ _ ih
theorem qeH : ∀ n:Nat,
  (∀ lv ts x,qbT eS eL f fi fb n lv ts=some x->qbT eS eL f fi fb (n+1) lv ts=some x) /\
  (∀ lv ts x,qaN eS eL f fi fb n lv ts=some x->qaN eS eL f fi fb (n+1) lv ts=some x) /\
  (∀ lv a ts x,qbw eS eL f fi fb n lv a ts=some x->qbw eS eL f fi fb (n+1) lv a ts=some x)
 |0=>⟨fun lv ts x h=>by simp[qbT] at h,fun lv ts x h=>by simp[qaN] at h,fun lv a ts x h=>by simp[qbw] at h⟩
 |n+1=>by
  obtain⟨ihs,ihb,ihl⟩:=qeH n
  refine⟨fun lv ts x h=>?_,fun lv ts x h=>?_,fun lv a ts x h=>?_⟩
  ·have second : ∀ (r:List Tk) (g:E->Ss) y,(match qak eS eL f n 1 lv r with
      |some (.ok b r2)=>some (qa2 eS (g b) r2)
      |some (.er i k)=>some (.er i k)
      |none=>none)=some y->(match qak eS eL f (n+1) 1 lv r with
      |some (.ok b r2)=>some (qa2 eS (g b) r2)
      |some (.er i k)=>some (.er i k)
      |none=>none)=some y:=fun r g y hy=>by
     cases hq:qak eS eL f n 1 lv r with
     |none=>simp[hq] at hy
     |some z=>rw[qbh hq (YU n)]; rw[hq] at hy; exact hy
   rw[qbT] at h ⊢
   cases hn:nx ts with
   |none=>simp only[hn] at h ⊢; exact h
   |some s=>
    simp only[hn] at h ⊢
    split at h
    ·rename_i c; rw[if_pos c]
     cases hq:qak eS eL f n 1 lv ts.tail with
     |none=>simp[hq] at h
     |some y=>
      rw[qbh hq (YU n)]; rw[hq] at h
      cases y with
      |er i c=>exact h
      |ok e r=>
       simp only at h ⊢
       cases hb:qaN eS eL f fi fb n (lv+1) r with
       |none=>simp[hb] at h
       |some z=>
        rw[ihb _ _ _ hb]; rw[hb] at h
        cases z with
        |er i c=>exact h
        |ok b r1=>
         simp only at h ⊢
         cases hn1:nx r1 with
         |none=>simp only[hn1] at h ⊢; exact h
         |some w=>
          simp only[hn1] at h ⊢
          split at h
          ·rename_i c'; rw[if_pos c']
           cases hb2:qaN eS eL f fi fb n (lv+1) r1.tail with
           |none=>simp[hb2] at h
           |some z2=>rw[ihb _ _ _ hb2]; rw[hb2] at h; exact h
          ·rename_i c'; rw[if_neg c']; exact h
    rename_i c; rw[if_neg c]
    split at h
    ·rename_i c; rw[if_pos c]
     cases hq:qak eS eL f n 1 lv ts.tail with
     |none=>simp[hq] at h
     |some y=>
      rw[qbh hq (YU n)]; rw[hq] at h
      cases y with
      |er i c=>exact h
      |ok e r=>
       simp only at h ⊢
       cases hb:qaN eS eL f fi fb n (lv+1) r with
       |none=>simp[hb] at h
       |some z=>rw[ihb _ _ _ hb]; rw[hb] at h; exact h
    rename_i c; rw[if_neg c]
    split at h
    ·rename_i c; rw[if_pos c]
     cases hq:qak eS eL f n 1 lv ts.tail with
     |none=>simp[hq] at h
     |some y=>
      rw[qbh hq (YU n)]; rw[hq] at h
      cases y with
      |er i c=>exact h
      |ok e r=>
       simp only at h ⊢
       cases hx:qam eS (bs [44]) r with
       |er i c=>simp only[hx] at h ⊢; exact h
       |ok u r1=>simp only[hx] at h ⊢; exact second r1 (fun b => .effect f e b .nil) x h
    rename_i c; rw[if_neg c]
    split at h
    ·rename_i c; rw[if_pos c]; exact h
    rename_i c; rw[if_neg c]
    split at h
    ·rename_i c; rw[if_pos c]
     cases hq:qa6 eS eL f n lv ts.tail with
     |none=>simp[hq] at h
     |some y=>
      rw[qiU hq (YU n)]; rw[hq] at h
      cases y with
      |er i c=>exact h
      |ok e r=>
       simp only at h ⊢
       cases hx:qam eS (bs [61]) r with
       |er i c=>simp only[hx] at h ⊢; exact h
       |ok u r1=>simp only[hx] at h ⊢; exact second r1 (fun b => .store f s e b .nil) x h
    rename_i c; rw[if_neg c]
    split at h
    ·rename_i c; rw[if_pos c]
     cases hx:qam eS (bs [61]) ts.tail with
     |er i c=>simp only[hx] at h ⊢; exact h
     |ok u r1=>simp only[hx] at h ⊢; exact second r1 (fun b => .assign f s b .nil) x h
    ·rename_i c; rw[if_neg c]; exact h
  ·rw[qaN] at h ⊢
   cases ho:qbO eS eL (bs [123]) lv ts with
   |er i c=>simp only[ho] at h ⊢; exact h
   |ok u r=>simp only[ho] at h ⊢; exact ihl _ _ _ _ h
  ·rw[qbw] at h ⊢
   cases hn:nx ts with
   |none=>simp only[hn] at h ⊢; exact h
   |some s=>
    simp only[hn] at h ⊢
    split at h
    ·rename_i c; rw[if_pos c]; exact h
    ·rename_i c; rw[if_neg c]
     cases hq:qbT eS eL f fi fb n lv ts with
     |none=>simp[hq] at h
     |some y=>
      rw[ihs _ _ _ hq]; rw[hq] at h
      cases y with
      |er i c=>exact h
      |ok b r=>exact ihl _ _ _ _ h
theorem qho{n m lv:Nat}{ts:List Tk}{x:Rz Ss}(h:qbT eS eL f fi fb n lv ts=some x)(hm:n<=m):qbT eS eL f fi fb m lv ts=some x:=by
 induction hm with
 |refl=>exact h
 |step _ ih=>exact (qeH _).1 _ _ _ ih
theorem qc3{n m lv:Nat}{ts:List Tk}{x:Rz Ss}(h:qaN eS eL f fi fb n lv ts=some x)(hm:n<=m):qaN eS eL f fi fb m lv ts=some x:=by
 induction hm with
 |refl=>exact h
 |step _ ih=>exact (qeH _).2.1 _ _ _ ih
theorem qni{n m lv:Nat}{a:Ss}{ts:List Tk}{x:Rz Ss}(h:qbw eS eL f fi fb n lv a ts=some x)(hm:n<=m):qbw eS eL f fi fb m lv a ts=some x:=by
 induction hm with
 |refl=>exact h
 |step _ ih=>exact (qeH _).2.2 _ _ _ _ ih
theorem qiV : ∀ (n:Nat) h ts x,qcj eS eL eD f fi fb n h ts=some x->qcj eS eL eD f fi fb (n+1) h ts=some x
 |0,h,ts,x,e=>by simp[qcj] at e
 |n+1,h,ts,x,e=>by
  rw[qcj] at e ⊢
  cases hn:nx ts with
  |none=>simp only[hn] at e ⊢; exact e
  |some s=>
   simp only[hn] at e ⊢
   split at e
   ·rename_i c; rw[if_pos c]; exact e
   rename_i c; rw[if_neg c]
   cases hx:qam eS (bs [111,110]) ts with
   |er i c=>simp only[hx] at e ⊢; exact e
   |ok u r=>
    simp only[hx] at e ⊢
    cases hn2:nx r with
    |none=>simp only[hn2] at e ⊢; exact e
    |some w=>
     simp only[hn2] at e ⊢
     cases hh:qaY w with
     |none=>simp only[hh] at e ⊢; exact e
     |some k=>
      simp only[hh] at e ⊢
      split at e
      ·rename_i c; rw[if_pos c]; exact e
      rename_i c; rw[if_neg c]
      cases hb:qaN eS eL f fi fb n 1 r.tail with
      |none=>simp[hb] at e
      |some y=>
       rw[qc3 hb (YU n)]; rw[hb] at e
       cases y with
       |er i c=>exact e
       |ok b r1=>exact qiV n _ _ _ e
theorem qhp{n m:Nat}{h:Nat->Option Ss}{ts:List Tk}{x:Rz (Nat->Option Ss)}(e:qcj eS eL eD f fi fb n h ts=some x)(hm:n<=m):qcj eS eL eD f fi fb m h ts=some x:=by
 induction hm with
 |refl=>exact e
 |step _ ih=>exact qiV _ _ _ _ ih
end
section
def qjs:Nat->Nat->List UInt8
 |0,_=>[]
 |k+1,n=>if n<10 then [(48+n).toUInt8] else qjs k (n / 10)++[(48+n % 10).toUInt8]
def decB(n:Nat):List UInt8:=qjs 20 n
theorem qzw : ∀ d,d<10->((48+d).toUInt8).toNat=48+d:=by decide
theorem qsQ(l:List UInt8)(c:UInt8):digV (l++[c])=10*digV l+(c.toNat-48):=by simp[digV]
theorem qmu : ∀ k n,n<10 ^ k->1<=k->digV (qjs k n)=n/\(∀ b∈qjs k n,qal b=true) /\ ∃ c r,qjs k n=c::r
 |0,n,_,h=>by omega
 |k+1,n,h,_=>by
  rw[qjs]
  split
  ·rename_i hn
   have h1:=qzw n hn
   refine⟨by simp only[digV,Yx,List.foldl_nil,h1]; omega,fun b hb=>?_,_,_,rfl⟩
   rw[Wk.1 hb]
   simp only[qal,h1,Wt,decide_eq_true_eq]
   omega
  ·rename_i hn
   have h1:=qzw (n % 10) (by omega)
   have hk:1<=k:=by
    rcases k with _|k
    ·simp at h; omega
    ·omega
   obtain⟨i1,i2,c,r,i3⟩:=qmu k (n / 10) (by rw[YM] at h; omega) hk
   refine⟨by rw[qsQ,i1,h1]; omega,fun b hb=>?_,c,r++[(48+n % 10).toUInt8],by rw[i3]; rfl⟩
   rcases Wz.1 hb with hb|hb
   ·exact i2 b hb
   ·rw[Wk.1 hb]
    simp only[qal,h1,Wt,decide_eq_true_eq]
    omega
theorem qfc{n:Nat}(h:n<10 ^ 20):digV (decB n)=n/\(∀ b∈decB n,qal b=true) /\ ∃ c r,decB n=c::r:=qmu 20 n h (by omega)
theorem qvg{n:Nat}(h:n<=2147483647):Tg (decB n):=by
 obtain⟨h1,h2,c,r,h3⟩:=qfc (n:=n) (by omega)
 rw[h3] at h1 h2 ⊢
 exact .inr (.inl ⟨c,r,rfl,h2 c (WQ ..),fun b hb=>h2 b (Wy _ hb),by omega⟩)
theorem qld{n:Nat}(h:n<=2147483647):qaj qal (bs (decB n))=true:=by
 obtain⟨h1,h2,c,r,h3⟩:=qfc (n:=n) (by omega)
 rw[qaS,qbi,h3]
 rw[h3] at h2
 exact h2 c (WQ ..)
def qgP:ByteArray:=bs [116,114,117,101]
def qdX:ByteArray:=bs [102,97,108,115,101]
def qxA:ByteArray:=bs [115,101,108,102]
def qtQ:ByteArray:=bs [111,116,104,101,114]
def qi4:ByteArray:=bs [116,105,99,107]
def Bop.prec:Bop->Nat
 |.or=>1 | .and=>2 | .lt | .le | .gt | .ge | .eq | .ne=>4 | .add | .sub=>5 | .mul | .div=>6
def qdc(neg:Bool):Nat:=if neg then 7 else 3
def qbB(b:Bool)(l:List ByteArray):List ByteArray:=if b then bs [40]::(l++[bs [41]]) else l
def Bop.left(o:Bop):Nat:=if o.prec=4 then 5 else o.prec
def E.tx(full:Bool):E->Nat->List ByteArray
 |.int n,_=>[bs (decB n.toNat)]
 |.bool n,_=>[if n=0 then qdX else qgP]
 |.var s,_=>[s]
 |.name s,_=>[s]
 |.field _ s e,_=>s::bs [91]::(e.tx full 1++[bs [93]])
 |.un _ neg e,p=>qbB (full||decide (qdc neg<p)) (ustr neg::e.tx full (qdc neg))
 |.bin _ o a b,p=>qbB (full||decide (o.prec<p)) (a.tx full o.left++o.str::b.tx full (o.prec+1))
def E.nest(full:Bool):E->Nat->Nat
 |.field _ _ e,_=>e.nest full 1+1
 |.un _ neg e,p=>e.nest full (qdc neg)+1+if (full||decide (qdc neg<p))=true then 1 else 0
 |.bin _ o a b,p=>max (a.nest full o.left) (b.nest full (o.prec+1))+if (full||decide (o.prec<p))=true then 1 else 0
 |_,_=>0
def E.good:E->Prop
 |.int n=>0<=n/\n<=2147483647
 |.bool n=>n=0\/n=1
 |.var s=>Tg (byl s)/\qaj qaG s=true/\s∉fieldNames/\s∉wordNames
 |.name s=>s=qxA\/s=qtQ\/s=qi4
 |.field _ s e=>s∈fieldNames/\e.good
 |.un _ _ e=>e.good
 |.bin _ _ a b=>a.good/\b.good
def E.fl(f:Bool):E->E
 |.int n => .int n
 |.bool n => .bool n
 |.var s => .var s
 |.name s => .name s
 |.field _ s e => .field f s (e.fl f)
 |.un _ neg e => .un f neg (e.fl f)
 |.bin _ o a b => .bin f o (a.fl f) (b.fl f)
theorem qa8(o:Bop):(o.prec=1/\o.left=1)\/(o.prec=2/\o.left=2)\/(o.prec=4/\o.left=5)\/(o.prec=5/\o.left=5)\/(o.prec=6/\o.left=6):=by cases o<;>simp[Bop.prec,Bop.left]
def Hx:List ByteArray->List Tk->List Tk->Prop
 |[],ts,r=>ts=r
 |x::l,ts,r => ∃ t q,ts=t::q/\t.s=x/\t.bad=0/\Hx l q r
theorem hx_app : ∀ {a b:List ByteArray} {ts r:List Tk},Hx (a++b) ts r ↔ ∃ m,Hx a ts m/\Hx b m r
 |[],b,ts,r=>⟨fun h=>⟨ts,rfl,h⟩,fun ⟨m,h1,h2⟩=>by cases h1; exact h2⟩
 |x::a,b,ts,r=>by
  simp only[Wf,Hx]
  constructor
  ·rintro ⟨t,q,h1,h2,h3,h4⟩
   obtain⟨m,h5,h6⟩:=hx_app.1 h4
   exact⟨m,⟨t,q,h1,h2,h3,h5⟩,h6⟩
  ·rintro ⟨m,⟨t,q,h1,h2,h3,h5⟩,h6⟩
   exact⟨t,q,h1,h2,h3,hx_app.2 ⟨m,h5,h6⟩⟩
theorem qcr{x:ByteArray}{l:List ByteArray}{ts r:List Tk}(h:Hx (x::l) ts r):nx ts=some x/\Hx l ts.tail r:=by
 obtain⟨t,q,h1,h2,h3,h4⟩:=h
 subst h1
 simp[nx,h3,h2]
 exact h4
theorem qcN{eS:Nat}{x:ByteArray}{l:List ByteArray}{ts r:List Tk}(h:Hx (x::l) ts r):qam eS x ts = .ok () ts.tail:=by
 obtain⟨t,q,h1,h2,h3,h4⟩:=h
 subst h1
 simp[qam,h3,h2]
theorem qge{eS eL lv:Nat}{x:ByteArray}{l:List ByteArray}{ts r:List Tk}(h:Hx (x::l) ts r)(hl:lv<=20):qbO eS eL x lv ts = .ok () ts.tail:=by
 rw[qbO,if_neg (by omega)]
 exact qcN h
def Stops(p:Nat)(r:List Tk):Prop := ∃ s,nx r=some s /\ ∀ q,p<=q->qhL q s=none
theorem Stops.mono{p q:Nat}{r:List Tk}(h:Stops p r)(hq:p<=q):Stops q r:=by
 obtain⟨s,h1,h2⟩:=h
 exact⟨s,h1,fun k hk=>h2 k (by omega)⟩
theorem qsR(o:Bop):qhL o.prec o.str=some o:=by cases o<;>rfl
theorem qpe(o:Bop)(q:Nat)(h:q≠o.prec):qhL q o.str=none:=by
 rcases q with _|_|_|_|_|_|_|q
 all_goals first|rfl|skip
 all_goals cases o<;>first|rfl|exact absurd rfl h
theorem qnm(full:Bool) : ∀ (e:E),e.good -> ∀ p,∃ x l,e.tx full p=x::l/\(x=ustr false->p<=3)/\(x=ustr true->p<=7)
 |.int n,h,p=>by
  have hd:=qld (n:=n.toNat) (by have:=h.1; have:=h.2; omega)
  refine⟨_,_,rfl,fun hx=>?_,fun hx=>?_⟩
  all_goals
   rw[hx] at hd
   exact absurd hd (by decide)
 |.bool n,h,p=>by
  refine⟨_,_,rfl,fun hx=>?_,fun hx=>?_⟩
  all_goals split at hx<;>exact absurd hx (by decide)
 |.var s,h,p=>by
  refine⟨_,_,rfl,fun hx=>?_,fun hx=>?_⟩
  all_goals
   have:=h.2.1
   rw[hx] at this
   exact absurd this (by decide)
 |.name s,h,p=>by
  refine⟨_,_,rfl,fun hx=>?_,fun hx=>?_⟩
  all_goals rcases h with rfl|rfl|rfl<;>exact absurd hx (by decide)
 |.field f s e,h,p=>by
  refine⟨_,_,rfl,fun hx=>?_,fun hx=>?_⟩
  all_goals
   have:=h.1
   rw[hx] at this
   exact absurd this (by decide)
 |.un f neg e,h,p=>by
  simp only[E.tx,qbB]
  split
  ·exact⟨_,_,rfl,fun hx=>absurd hx (by decide),fun hx=>absurd hx (by decide)⟩
  ·rename_i hc
   simp only[Ya,not_or,decide_eq_true_eq,YC] at hc
   refine⟨_,_,rfl,fun hx=>?_,fun hx=>?_⟩
   ·cases neg with
    |true=>exact absurd hx (by decide)
    |false=>exact hc.2
   ·cases neg with
    |true=>exact hc.2
    |false=>exact absurd hx (by decide)
 |.bin f o a b,h,p=>by
  simp only[E.tx,qbB]
  split
  ·exact⟨_,_,rfl,fun hx=>absurd hx (by decide),fun hx=>absurd hx (by decide)⟩
  ·rename_i hc
   simp only[Ya,not_or,decide_eq_true_eq,YC] at hc
   obtain⟨x,l,h1,h2,h3⟩:=qnm full a h.1 o.left
   refine⟨x,l++o.str::b.tx full (o.prec+1),by rw[h1]; rfl,fun hx=>?_,fun hx=>?_⟩
   ·have:=h2 hx; have:=hc.2
    rcases qa8 o with h|h|h|h|h<;>omega
   ·have:=h3 hx; have:=hc.2
    rcases qa8 o with h|h|h|h|h<;>omega
section
variable{eS eL:Nat}{f:Bool}
theorem qqM {n q lv:Nat} {ts r:List Tk} {e:E} (h:qak eS eL f n q lv ts=some (.ok e r)) (hq:q<=8) : ∀ (k p:Nat),p+k=q->1<=p->Stops p r ->
  (p<=3->3<q->nx ts≠some (ustr false))->(p<=7->7<q->nx ts≠some (ustr true)) -> ∃ m,qak eS eL f m p lv ts=some (.ok e r)
 |0,p,hp,h1,_,_,_=>⟨n,by rw[show p=q by omega]; exact h⟩
 |k+1,p,hp,h1,hs,h3,h7=>by
  obtain⟨m,hm⟩:=qqM h hq k (p+1) (by omega) (by omega) (hs.mono (by omega)) (fun a b=>h3 (by omega) b) (fun a b=>h7 (by omega) b)
  refine⟨m+2,?_⟩
  rw[qak,if_neg,if_pos (by omega),qbh hm (YU m)]
  ·obtain⟨s,hs1,hs2⟩:=hs
   simp only[qbR,hs1,hs2 p (Wl p)]
  ·rintro (⟨h8,h9⟩|⟨h8,h9⟩)
   ·exact h3 (by omega) (by omega) h9
   ·exact h7 (by omega) (by omega) h9
theorem qgf(x:ByteArray)(hx : ∀ q,qhL q x=none){p:Nat}{l:List ByteArray}{ts r:List Tk}(h:Hx (x::l) ts r):Stops p ts:=⟨x,(qcr h).1,fun q _=>hx q⟩
theorem qi5(x:ByteArray)(h : ∀ o:Bop,o.str≠x)(q:Nat):qhL q x=none:=by
 unfold qhL
 rw[YB]
 intro o _
 simp[h o]
theorem qok {lv p:Nat} {ts r:List Tk} {e:E} {l:List ByteArray} (ho:Hx (bs [40]::(l++[bs [41]])) ts r) (hl:lv+1<=20)
  (hb : ∀ mid,Hx l ts.tail mid->Stops 1 mid -> ∃ m,qak eS eL f m 1 (lv+1) ts.tail=some (.ok e mid)) (h1:1<=p) (h8:p<=8) (hs:Stops p r) : ∃ n,qak eS eL f n p lv ts=some (.ok e r):=by
 obtain⟨hn,ht⟩:=qcr ho
 obtain⟨mid,hm1,hm2⟩:=hx_app.1 ht
 have hst:Stops 1 mid:=qgf _ (qi5 _ (by intro o; cases o<;>decide)) hm2
 obtain⟨m,hm⟩:=hb mid hm1 hst
 have hx:=qcN (eS:=eS) hm2
 have hend:mid.tail=r:=(qcr hm2).2
 have base:qak eS eL f (m+1) 8 lv ts=some (.ok e r):=by
  rw[qak,if_neg (by rintro (⟨h,_⟩|⟨h,_⟩)<;>omega),if_neg (by omega),hn]
  simp only
  rw[if_neg (by decide),if_neg (by decide),if_neg (by decide),if_neg (by decide),if_neg (by decide),if_neg (by decide),qge ho hl]
  simp only[hm,hx,hend]
 exact qqM base (by omega) (8-p) p (by omega) h1 hs (fun _ _=>by rw[hn]; decide) (fun _ _=>by rw[hn]; decide)
theorem rb (full:Bool) : ∀ e:E,e.good ->
  (∀ p lv ts r,1<=p->p<=8->Hx (e.tx full p) ts r->lv+e.nest full p<=20->Stops p r -> ∃ n,qak eS eL f n p lv ts=some (.ok (e.fl f) r)) /\
  (∀ q lv ts r,1<=q->q<=6->q≠4->q≠3->Hx (e.tx full q) ts r->lv+e.nest full q<=20->Stops (q+1) r ->
   ∃ n e0 r0,qak eS eL f n (q+1) lv ts=some (.ok e0 r0) /\ ∀ m x,qbR eS eL f m q lv (e.fl f) r=some x -> ∃ m',qbR eS eL f m' q lv e0 r0=some x):=by
 have prim : ∀ (e:E) (x:ByteArray) lv ts r,(∃ n,qak eS eL f n 8 lv ts=some (.ok (e.fl f) r))->nx ts=some x->x≠ustr false->x≠ustr true ->
   (∀ p,1<=p->p<=8->Stops p r -> ∃ n,qak eS eL f n p lv ts=some (.ok (e.fl f) r)):=fun e x lv ts r ⟨n,hn⟩ hx h1 h2 p hp1 hp8 hs=>
  qqM hn (by omega) (8-p) p (by omega) hp1 hs (fun _ _ h=>h1 (by rw[hx] at h; exact WC h)) (fun _ _ h=>h2 (by rw[hx] at h; exact WC h))
 have self : ∀ (e:E) q lv ts r,(∃ n,qak eS eL f n (q+1) lv ts=some (.ok (e.fl f) r)) -> ∃ n e0 r0,qak eS eL f n (q+1) lv ts=some (.ok e0 r0) /\ ∀ m x,qbR eS eL f m q lv (e.fl f) r=some x -> ∃ m',qbR eS eL f m' q lv e0 r0=some x:=
  fun e q lv ts r ⟨n,hn⟩=>⟨n,_,_,hn,fun m x h=>⟨m,h⟩⟩
 intro e
 induction e with
 |int n=>
  intro hg
  obtain⟨g1,g2⟩:=hg
  have hd:=qld (n:=n.toNat) (by omega)
  have A : ∀ p lv ts r,1<=p->p<=8->Hx ((E.int n).tx full p) ts r->lv+(E.int n).nest full p<=20->Stops p r -> ∃ k,qak eS eL f k p lv ts=some (.ok ((E.int n).fl f) r):=fun p lv ts r h1 h8 hx _ hs=>by
   obtain⟨hn,ht⟩:=qcr hx
   cases ht
   have n1:bs (decB n.toNat)≠ustr false:=by intro h; rw[h] at hd; exact absurd hd (by decide)
   have n2:bs (decB n.toNat)≠ustr true:=by intro h; rw[h] at hd; exact absurd hd (by decide)
   refine prim (.int n) _ lv ts _ ⟨1,?_⟩ hn n1 n2 p h1 h8 hs
   rw[qak,if_neg (by rintro (⟨h,_⟩|⟨h,_⟩)<;>omega),if_neg (by omega),hn]
   simp only
   rw[if_pos hd,ByteArray.toList_eq]
   have:=(qfc (n:=n.toNat) (by omega)).1
   rw[show (bs (decB n.toNat)).data.toList=decB n.toNat from qbi _,this,show ((n.toNat:Nat):Int)=n by omega]
   rfl
  exact⟨A,fun q lv ts r h1 h6 _ _ hx hl hs=>self _ q lv ts r (A (q+1) lv ts r (by omega) (by omega) hx hl hs)⟩
 |bool n=>
  intro hg
  have A : ∀ p lv ts r,1<=p->p<=8->Hx ((E.bool n).tx full p) ts r->lv+(E.bool n).nest full p<=20->Stops p r -> ∃ k,qak eS eL f k p lv ts=some (.ok ((E.bool n).fl f) r):=fun p lv ts r h1 h8 hx _ hs=>by
   obtain⟨hn,ht⟩:=qcr hx
   cases ht
   refine prim (.bool n) _ lv ts _ ⟨1,?_⟩ hn (by split<;>decide) (by split<;>decide) p h1 h8 hs
   rw[qak,if_neg (by rintro (⟨h,_⟩|⟨h,_⟩)<;>omega),if_neg (by omega),hn]
   rcases hg with rfl|rfl
   ·simp only[if_true]
    rw[if_neg (by decide),if_neg (by decide),if_pos (by rfl)]; rfl
   ·rw[if_neg (by decide)]
    simp only
    rw[if_neg (by decide),if_pos (by rfl)]; rfl
  exact⟨A,fun q lv ts r h1 h6 _ _ hx hl hs=>self _ q lv ts r (A (q+1) lv ts r (by omega) (by omega) hx hl hs)⟩
 |var s=>
  intro hg
  obtain⟨g1,g2,g3,g4⟩:=hg
  have A : ∀ p lv ts r,1<=p->p<=8->Hx ((E.var s).tx full p) ts r->lv+(E.var s).nest full p<=20->Stops p r -> ∃ k,qak eS eL f k p lv ts=some (.ok ((E.var s).fl f) r):=fun p lv ts r h1 h8 hx _ hs=>by
   obtain⟨hn,ht⟩:=qcr hx
   cases ht
   have n1:s≠ustr false:=by rintro rfl; exact absurd g2 (by decide)
   have n2:s≠ustr true:=by rintro rfl; exact absurd g2 (by decide)
   refine prim (.var s) _ lv ts _ ⟨1,?_⟩ hn n1 n2 p h1 h8 hs
   have nd : ¬ qaj qal s=true:=by
    rw[qaS] at g2 ⊢
    cases hh:(byl s).head? with
    |none=>simp
    |some c=>
     rw[hh] at g2
     simp only[qal,qaG,Wt,decide_eq_true_eq] at g2 ⊢
     omega
   have w : ∀ x∈wordNames,s≠x:=fun x hx he=>g4 (he ▸ hx)
   rw[qak,if_neg (by rintro (⟨h,_⟩|⟨h,_⟩)<;>omega),if_neg (by omega),hn]
   simp only
   rw[if_neg nd,if_neg (w _ (by decide)),if_neg (w _ (by decide)),if_neg (by
    rintro (h|h|h)
    ·exact w _ (by decide) h
    ·exact w _ (by decide) h
    ·exact w _ (by decide) h),if_neg g3,if_pos ⟨g2,g4⟩]
   rfl
  exact⟨A,fun q lv ts r h1 h6 _ _ hx hl hs=>self _ q lv ts r (A (q+1) lv ts r (by omega) (by omega) hx hl hs)⟩
 |name s=>
  intro hg
  have A : ∀ p lv ts r,1<=p->p<=8->Hx ((E.name s).tx full p) ts r->lv+(E.name s).nest full p<=20->Stops p r -> ∃ k,qak eS eL f k p lv ts=some (.ok ((E.name s).fl f) r):=fun p lv ts r h1 h8 hx _ hs=>by
   obtain⟨hn,ht⟩:=qcr hx
   cases ht
   refine prim (.name s) _ lv ts _ ⟨1,?_⟩ hn (by rcases hg with rfl|rfl|rfl<;>decide) (by rcases hg with rfl|rfl|rfl<;>decide) p h1 h8 hs
   rw[qak,if_neg (by rintro (⟨h,_⟩|⟨h,_⟩)<;>omega),if_neg (by omega),hn]
   rcases hg with rfl|rfl|rfl<;>simp only<;>rw[if_neg (by decide),if_neg (by decide),if_neg (by decide),if_pos (by decide)]<;>rfl
  exact⟨A,fun q lv ts r h1 h6 _ _ hx hl hs=>self _ q lv ts r (A (q+1) lv ts r (by omega) (by omega) hx hl hs)⟩
 |field g s e ih=>
  intro hg
  obtain⟨g1,g2⟩:=hg
  have ihA:=(ih g2).1
  have A : ∀ p lv ts r,1<=p->p<=8->Hx ((E.field g s e).tx full p) ts r->lv+(E.field g s e).nest full p<=20->Stops p r -> ∃ k,qak eS eL f k p lv ts=some (.ok ((E.field g s e).fl f) r):=fun p lv ts r h1 h8 hx hl hs=>by
   obtain⟨hn,ht⟩:=qcr hx
   obtain⟨hn2,ht2⟩:=qcr ht
   obtain⟨mid,hm1,hm2⟩:=hx_app.1 ht2
   simp only[E.nest] at hl
   have hst:Stops 1 mid:=qgf _ (qi5 _ (by intro o; cases o<;>decide)) hm2
   obtain⟨k,hk⟩:=ihA 1 (lv+1) _ mid (by omega) (by omega) hm1 (by omega) hst
   have hx2:=qcN (eS:=eS) hm2
   have hend:mid.tail=r:=(qcr hm2).2
   have hi:qa6 eS eL f (k+1) lv ts.tail=some (.ok (e.fl f) r):=by
    rw[qa6,qge ht (by omega)]
    simp only[hk,hx2,hend]
   have hs' : ∀ x:ByteArray,x∉fieldNames->s≠x:=fun x hx he=>hx (he ▸ g1)
   refine prim (.field g s e) _ lv ts _ ⟨k+2,?_⟩ hn (hs' _ (by decide)) (hs' _ (by decide)) p h1 h8 hs
   have nd : ¬ qaj qal s=true:=by
    simp only[fieldNames,Ws,WA,or_false] at g1
    rcases g1 with h|h|h|h|h|h|h|h<;>rw[h]<;>decide
   rw[qak,if_neg (by rintro (⟨h,_⟩|⟨h,_⟩)<;>omega),if_neg (by omega),hn]
   simp only
   rw[if_neg nd,if_neg (hs' _ (by decide)),if_neg (hs' _ (by decide)),if_neg (by
    rintro (h|h|h)
    ·exact hs' _ (by decide) h
    ·exact hs' _ (by decide) h
    ·exact hs' _ (by decide) h),if_pos g1,hi]
   rfl
  exact⟨A,fun q lv ts r h1 h6 _ _ hx hl hs=>self _ q lv ts r (A (q+1) lv ts r (by omega) (by omega) hx hl hs)⟩
 |un g neg e ih=>
  intro hg
  have ihA:=(ih hg).1
  have bare : ∀ lv ts r,Hx (ustr neg::e.tx full (qdc neg)) ts r->lv+e.nest full (qdc neg)+1<=20 -> ∀ p,1<=p->p<=qdc neg->Stops p r -> ∃ k,qak eS eL f k p lv ts=some (.ok ((E.un g neg e).fl f) r):=fun lv ts r hx hl p h1 hp hs=>by
   obtain⟨hn,ht⟩:=qcr hx
   obtain⟨k,hk⟩:=ihA (qdc neg) (lv+1) _ r (by cases neg<;>decide) (by cases neg<;>decide) ht (by omega) (hs.mono hp)
   have base:qak eS eL f (k+1) (qdc neg) lv ts=some (.ok ((E.un g neg e).fl f) r):=by
    rw[qak]
    cases neg with
    |false=>
     rw[if_pos (.inl ⟨rfl,hn⟩)]
     simp only[qdc,Wm,if_false] at hk ⊢
     rw[show ustr ((3:Nat)==7)=ustr false from rfl,qge hx (by omega)]
     simp only[hk]
     rfl
    |true=>
     rw[if_pos (.inr ⟨rfl,hn⟩)]
     simp only[qdc,if_true] at hk ⊢
     rw[show ustr ((7:Nat)==7)=ustr true from rfl,qge hx (by omega)]
     simp only[hk]
     rfl
   refine qqM base (by cases neg<;>decide) (qdc neg-p) p (by omega) h1 hs (fun a b=>?_) (fun a b=>?_)
   ·cases neg with
    |false=>exact absurd b (by decide)
    |true=>rw[hn]; decide
   ·cases neg<;>exact absurd b (by decide)
  have A : ∀ p lv ts r,1<=p->p<=8->Hx ((E.un g neg e).tx full p) ts r->lv+(E.un g neg e).nest full p<=20->Stops p r -> ∃ k,qak eS eL f k p lv ts=some (.ok ((E.un g neg e).fl f) r):=fun p lv ts r h1 h8 hx hl hs=>by
   simp only[E.tx,E.nest,qbB] at hx hl
   by_cases c:(full||decide (qdc neg<p))=true
   ·rw[if_pos c] at hx hl
    exact qok hx (by omega) (fun mid hm hst=>bare (lv+1) _ mid hm (by omega) 1 (by omega) (by cases neg<;>decide) hst) h1 h8 hs
   ·rw[if_neg c] at hx hl
    simp only[Ya,not_or,decide_eq_true_eq,YC] at c
    exact bare lv ts r hx (by omega) p h1 c.2 hs
  refine⟨A,fun q lv ts r h1 h6 h4 h3 hx hl hs=>self _ q lv ts r (A (q+1) lv ts r (by omega) (by omega) ?_ ?_ hs)⟩
  ·have:(decide (qdc neg<q+1))=decide (qdc neg<q):=by
    rw[decide_eq_decide]; cases neg<;>simp only[qdc]<;>constructor<;>intro h<;>simp at h ⊢ <;> omega
   simp only[E.tx,this] at hx ⊢
   exact hx
  ·have:(decide (qdc neg<q+1))=decide (qdc neg<q):=by
    rw[decide_eq_decide]; cases neg<;>simp only[qdc]<;>constructor<;>intro h<;>simp at h ⊢ <;> omega
   simp only[E.nest,this] at hl ⊢
   exact hl
 |bin g o a b iha ihb=>
  intro hg
  obtain⟨aA,aB⟩:=iha hg.1
  obtain⟨bA,-⟩:=ihb hg.2
  have hp:=qa8 o
  have loop : ∀ lv ts r,Hx (a.tx full o.left++o.str::b.tx full (o.prec+1)) ts r->lv+max (a.nest full o.left) (b.nest full (o.prec+1))<=20->Stops (o.prec+1) r ->
    ∃ n e0 r0,qak eS eL f n (o.prec+1) lv ts=some (.ok e0 r0)/\(∀ m x,(if o.prec=4 then some (.ok ((E.bin g o a b).fl f) r) else qbR eS eL f m o.prec lv ((E.bin g o a b).fl f) r)=some x -> ∃ m',qbR eS eL f m' o.prec lv e0 r0=some x):=fun lv ts r hx hl hs=>by
   obtain⟨mid,hm1,hm2⟩:=hx_app.1 hx
   obtain⟨hn,ht⟩:=qcr hm2
   have hst:Stops (o.prec+1) mid:=⟨_,hn,fun q hq=>qpe o q (by omega)⟩
   obtain⟨k,hk⟩:=bA (o.prec+1) lv _ r (by omega) (by omega) ht (by omega) hs
   have fin : ∀ m x,(if o.prec=4 then some (.ok ((E.bin g o a b).fl f) r) else qbR eS eL f m o.prec lv ((E.bin g o a b).fl f) r)=some x -> ∃ m',qbR eS eL f m' o.prec lv (a.fl f) mid=some x:=fun m x h=>by
    refine⟨max k m+1,?_⟩
    rw[qbR,hn]
    simp only[qsR]
    rw[qbh hk (WG k m)]
    simp only
    by_cases c:o.prec=4
    ·rw[if_pos c] at h ⊢; exact h
    ·rw[if_neg c] at h ⊢; exact qj5 h (WD k m)
   by_cases c:o.prec=4
   ·have hleft:o.left=o.prec+1:=by omega
    obtain⟨n,hn'⟩:=aA (o.prec+1) lv ts mid (by omega) (by omega) (hleft ▸ hm1) (by rw[<- hleft]; omega) hst
    exact⟨n,_,_,hn',fin⟩
   ·have hleft:o.left=o.prec:=by omega
    rw[hleft] at hm1 hl
    obtain⟨n,e0,r0,h1,h2⟩:=aB o.prec lv ts mid (by omega) (by omega) c (by omega) hm1 (by omega) hst
    refine⟨n,e0,r0,h1,fun m x h=>?_⟩
    obtain⟨m',hm'⟩:=fin m x h
    exact h2 m' x hm'
  have bare : ∀ lv ts r,Hx (a.tx full o.left++o.str::b.tx full (o.prec+1)) ts r->lv+max (a.nest full o.left) (b.nest full (o.prec+1))<=20 -> ∀ p,1<=p->p<=o.prec->Stops p r -> ∃ k,qak eS eL f k p lv ts=some (.ok ((E.bin g o a b).fl f) r):=fun lv ts r hx hl p h1 hpo hs=>by
   obtain⟨n,e0,r0,h2,h3⟩:=loop lv ts r hx hl (hs.mono (by omega))
   have hend:qbR eS eL f 1 o.prec lv ((E.bin g o a b).fl f) r=some (.ok ((E.bin g o a b).fl f) r):=by
    obtain⟨s,hs1,hs2⟩:=hs
    simp only[qbR,hs1,hs2 o.prec hpo]
   obtain⟨m',hm'⟩:=h3 1 _ (by split<;>first|rfl|exact hend)
   obtain⟨x,l,q1,q2,q3⟩:=qnm full a hg.1 o.left
   have hnx:nx ts=some x:=by
    rw[q1] at hx
    exact (qcr hx).1
   have base:qak eS eL f (max n m'+1) o.prec lv ts=some (.ok ((E.bin g o a b).fl f) r):=by
    rw[qak,if_neg (by rintro (⟨h,_⟩|⟨h,_⟩)<;>omega),if_pos (by omega),qbh h2 (WG n m')]
    exact qj5 hm' (WD n m')
   refine qqM base (by omega) (o.prec-p) p (by omega) h1 hs (fun c1 c2 h=>?_) (fun c1 c2=>by omega)
   have:=q2 (WC (hnx.symm.trans h))
   omega
  have A : ∀ p lv ts r,1<=p->p<=8->Hx ((E.bin g o a b).tx full p) ts r->lv+(E.bin g o a b).nest full p<=20->Stops p r -> ∃ k,qak eS eL f k p lv ts=some (.ok ((E.bin g o a b).fl f) r):=fun p lv ts r h1 h8 hx hl hs=>by
   simp only[E.tx,E.nest,qbB] at hx hl
   by_cases c:(full||decide (o.prec<p))=true
   ·rw[if_pos c] at hx hl
    exact qok hx (by omega) (fun mid hm hst=>bare (lv+1) _ mid hm (by omega) 1 (by omega) (by omega) hst) h1 h8 hs
   ·rw[if_neg c] at hx hl
    simp only[Ya,not_or,decide_eq_true_eq,YC] at c
    exact bare lv ts r hx (by omega) p h1 c.2 hs
  refine⟨A,fun q lv ts r h1 h6 h4 h3 hx hl hs=>?_⟩
  by_cases c:full=false/\o.prec=q
  ·obtain⟨c1,rfl⟩:=c
   have hf : ¬ (full||decide (o.prec<o.prec))=true:=by simp[c1]
   simp only[E.tx,E.nest,qbB,if_neg hf] at hx hl
   obtain⟨n,e0,r0,h5,h7⟩:=loop lv ts r hx (by omega) hs
   exact⟨n,e0,r0,h5,fun m x h=>h7 m x (by rw[if_neg h4]; exact h)⟩
  ·have hd:(full||decide (o.prec<q+1))=(full||decide (o.prec<q)):=by
    cases full with
    |true=>rfl
    |false=>
     have:o.prec≠q:=fun h=>c ⟨rfl,h⟩
     simp only[YO,decide_eq_decide]
     omega
   refine self _ q lv ts r (A (q+1) lv ts r (by omega) (by omega) ?_ ?_ hs)
   ·simp only[E.tx,hd] at hx ⊢
    exact hx
   ·simp only[E.nest,hd] at hl ⊢
    exact hl
end
end
section
def ifS:ByteArray:=bs [105,102]
def qlc:ByteArray:=bs [101,108,115,101]
def qqK:ByteArray:=bs [119,104,105,108,101]
def qnl:ByteArray:=bs [101,102,102,101,99,116]
def qvd:ByteArray:=bs [115,116,111,112]
def onS:ByteArray:=bs [111,110]
def qcx:Ss->Bool
 |.block _ .nil _=>false
 |.block _ _ _=>true
 |_=>false
def Ss.tx:Ss->List ByteArray
 |.nil=>[]
 |.assign _ s e r=>s::bs [61]::(e.tx false 1++(bs [59]::r.tx))
 |.store _ s a b r=>s::bs [91]::(a.tx false 1++(bs [93]::bs [61]::(b.tx false 1++(bs [59]::r.tx))))
 |.effect _ a b r=>qnl::(a.tx false 1++(bs [44]::(b.tx false 1++(bs [59]::r.tx))))
 |.stop r=>qvd::bs [59]::r.tx
 |.cond w _ c b r=>(if w then qqK else ifS)::(c.tx false 1++(b.tx++r.tx))
 |.block _ b r=>bs [123]::(b.tx++(bs [125]::(if qcx r then qlc::r.tx else [])))
def qsN(s:ByteArray):Prop:=Tg (byl s)/\qaj qaG s=true/\s∉fieldNames/\s∉wordNames
def Ss.good:Ss->Option Nat->Prop
 |.nil,m=>m=none\/m=some 0
 |.assign _ s e r,m=>m=none/\qsN s/\e.good/\r.good none
 |.store _ s a b r,m=>m=none/\s∈fieldNames/\a.good/\b.good/\r.good none
 |.effect _ a b r,m=>m=none/\a.good/\b.good/\r.good none
 |.stop r,m=>m=none/\r.good none
 |.cond w _ c b r,m=>m=none/\c.good/\b.good (some (if w then 1 else 2))/\r.good none
 |.block _ b r,m => ∃ n,m=some (n+1)/\b.good none/\r.good (some n)
def Ss.nest:Ss->Nat
 |.nil=>0
 |.assign _ _ e r=>max (e.nest false 1) r.nest
 |.store _ _ a b r=>max (a.nest false 1+1) (max (b.nest false 1) r.nest)
 |.effect _ a b r=>max (a.nest false 1) (max (b.nest false 1) r.nest)
 |.stop r=>r.nest
 |.cond _ _ c b r=>max (c.nest false 1) (max (b.nest+1) r.nest)
 |.block _ b r=>max b.nest r.nest
def Ss.fl(f fi fb:Bool):Ss->Ss
 |.nil => .nil
 |.assign _ s e r => .assign f s (e.fl f) (r.fl f fi fb)
 |.store _ s a b r => .store f s (a.fl f) (b.fl f) (r.fl f fi fb)
 |.effect _ a b r => .effect f (a.fl f) (b.fl f) (r.fl f fi fb)
 |.stop r => .stop (r.fl f fi fb)
 |.cond w _ c b r => .cond w (if w then f else fi) (c.fl f) (b.fl f fi fb) (r.fl f fi fb)
 |.block _ b r => .block fb (b.fl f fi fb) (r.fl f fi fb)
theorem qpc(a:Ss):a.app .nil=a:=by induction a<;>simp_all [Ss.app]
theorem qcm(a b c:Ss):(a.app b).app c=a.app (b.app c):=by induction a<;>simp_all [Ss.app]
theorem qgd{s x:ByteArray}(h:qsN s)(hx:x∈fieldNames\/x∈wordNames\/qaj qaG x=false):s≠x:=by
 rintro rfl
 rcases hx with hx|hx|hx
 ·exact h.2.2.1 hx
 ·exact h.2.2.2 hx
 ·rw[h.2.1] at hx; cases hx
theorem qeJ{s x:ByteArray}(h:s∈fieldNames)(hx:x∉fieldNames):s≠x:=fun e=>hx (e ▸ h)
theorem qve : ∀ (s:Ss),s.good none -> ∃ x l,s.tx++[bs [125]]=x::l/\x≠qlc/\(s ≠ .nil->x≠bs [125])
 |.nil,_=>⟨_,_,rfl,by decide,fun h=>absurd rfl h⟩
 |.assign f s e r,h=>⟨_,_,rfl,qgd h.2.1 (.inr (.inl (by decide))),fun _=>qgd h.2.1 (.inr (.inr (by decide)))⟩
 |.store f s a b r,h=>⟨_,_,rfl,qeJ h.2.1 (by decide),fun _=>qeJ h.2.1 (by decide)⟩
 |.effect f a b r,h=>⟨_,_,rfl,by decide,fun _=>by decide⟩
 |.stop r,h=>⟨_,_,rfl,by decide,fun _=>by decide⟩
 |.cond w f c b r,h=>by
  refine⟨_,_,rfl,?_,fun _=>?_⟩<;>cases w<;>decide
 |.block f b r,h=>by obtain⟨n,hn,_⟩:=h; cases hn
section
variable{eS eL:Nat}{f fi fb:Bool}
def qAb(eS eL:Nat)(f fi fb:Bool):Ss->Prop
 |.block _ b r=>(∀ lv ts q,Hx (bs [123]::(b.tx++[bs [125]])) ts q->lv+b.nest<=20 -> ∃ n,qaN eS eL f fi fb n lv ts=some (.ok (b.fl f fi fb) q))/\qAb eS eL f fi fb r
 |_=>True
theorem qxz(x:ByteArray)(hx : ∀ o:Bop,o.str≠x){l:List ByteArray}{ts r:List Tk}(h:Hx (x::l) ts r):Stops 1 ts:=qgf x (qi5 x hx) h
theorem rb1 {e:E} (hg:e.good) {x:ByteArray} (hx : ∀ o:Bop,o.str≠x) {l:List ByteArray} {ts r:List Tk} {lv:Nat} (h:Hx (e.tx false 1++x::l) ts r) (hl:lv+e.nest false 1<=20) :
  ∃ n mid,qak eS eL f n 1 lv ts=some (.ok (e.fl f) mid)/\Hx (x::l) mid r:=by
 obtain⟨mid,h1,h2⟩:=hx_app.1 h
 obtain⟨n,hn⟩:=(rb (eS:=eS) (eL:=eL) (f:=f) false e hg).1 1 lv ts mid (by omega) (by omega) h1 hl (qxz x hx h2)
 exact⟨n,mid,hn,h2⟩
theorem qsO {e:E} (hg:e.good) {l:List ByteArray} {ts r:List Tk} {lv:Nat} (h:Hx (bs [91]::(e.tx false 1++bs [93]::l)) ts r) (hl:lv+(e.nest false 1+1)<=20) :
  ∃ n mid,qa6 eS eL f n lv ts=some (.ok (e.fl f) mid)/\Hx l mid r:=by
 obtain⟨n,mid,h1,h2⟩:=rb1 (eS:=eS) (eL:=eL) (f:=f) hg (by intro o; cases o<;>decide) (qcr h).2 (lv:=lv+1) (by omega)
 refine⟨n+1,mid.tail,?_,(qcr h2).2⟩
 rw[qa6,qge h (by omega)]
 simp only[h1,qcN h2]
theorem rbS : ∀ s:Ss,
  (s.good none -> ∀ lv a ts r,Hx (s.tx++[bs [125]]) ts r->lv+s.nest<=20 -> ∃ n,qbw eS eL f fi fb n lv a ts=some (.ok (a.app (s.fl f fi fb)) r)) /\
  ((∃ k,s.good (some k))->qAb eS eL f fi fb s):=by
 have step : ∀ (s1:Ss) (x:ByteArray) lv a ts mid y,nx ts=some x->x≠bs [125]->(∃ n,qbT eS eL f fi fb n lv ts=some (.ok s1 mid))->(∃ n,qbw eS eL f fi fb n lv (a.app s1) mid=some y) -> ∃ n,qbw eS eL f fi fb n lv a ts=some y:=by
  rintro s1 x lv a ts mid y hn hx ⟨n,h1⟩ ⟨m,h2⟩
  refine⟨max n m+1,?_⟩
  rw[qbw,hn]
  simp only
  rw[if_neg hx,qho h1 (WG n m)]
  exact qni h2 (WD n m)
 have closed : ∀ {α : Type} (a : α) (l:List ByteArray) (ts r:List Tk),Hx (bs [59]::l) ts r->qa2 eS a ts = .ok a ts.tail:=fun a l ts r h=>by rw[qa2,qcN h]
 intro s
 induction s with
 |nil=>
  refine⟨fun _ lv a ts r hx hl=>⟨1,?_⟩,fun _=>trivial⟩
  obtain⟨hn,ht⟩:=qcr hx
  cases ht
  simp[qbw,hn,qpc,Ss.fl]
 |assign g s e r ih=>
  refine⟨fun hg lv a ts q hx hl=>?_,fun _=>trivial⟩
  obtain⟨-,g1,g2,g3⟩:=hg
  simp only[Ss.nest] at hl
  simp only[Ss.tx,Wf,Wg] at hx
  obtain⟨hn,h1⟩:=qcr hx
  obtain⟨n,mid,h3,h4⟩:=rb1 (eS:=eS) (eL:=eL) (f:=f) g2 (by intro o; cases o<;>decide) (qcr h1).2 (lv:=lv) (by omega)
  obtain⟨m,hm⟩:=ih.1 g3 lv (a.app (.assign f s (e.fl f) .nil)) mid.tail q (qcr h4).2 (by omega)
  refine step (.assign f s (e.fl f) .nil) s lv a ts mid.tail _ hn (qgd g1 (.inr (.inr (by decide)))) ⟨n+1,?_⟩ ⟨m,?_⟩
  ·rw[qbT,hn]
   simp only
   rw[if_neg (qgd g1 (.inr (.inl (by decide)))),if_neg (qgd g1 (.inr (.inl (by decide)))),if_neg (qgd g1 (.inr (.inl (by decide)))),if_neg (qgd g1 (.inr (.inl (by decide)))),if_neg g1.2.2.1,if_pos ⟨g1.2.1,g1.2.2.2⟩,qcN h1]
   simp only[h3,closed _ _ _ _ h4]
  ·rw[hm,qcm]; rfl
 |store g s x y r ih=>
  refine⟨fun hg lv a ts q hx hl=>?_,fun _=>trivial⟩
  obtain⟨-,g1,g2,g3,g4⟩:=hg
  simp only[Ss.nest] at hl
  simp only[Ss.tx,Wf,Wg] at hx
  obtain⟨hn,h1⟩:=qcr hx
  obtain⟨n,mid,h3,h4⟩:=qsO (eS:=eS) (eL:=eL) (f:=f) g2 h1 (lv:=lv) (by omega)
  obtain⟨n2,mid2,h5,h6⟩:=rb1 (eS:=eS) (eL:=eL) (f:=f) g3 (by intro o; cases o<;>decide) (qcr h4).2 (lv:=lv) (by omega)
  obtain⟨m,hm⟩:=ih.1 g4 lv (a.app (.store f s (x.fl f) (y.fl f) .nil)) mid2.tail q (qcr h6).2 (by omega)
  refine step (.store f s (x.fl f) (y.fl f) .nil) s lv a ts mid2.tail _ hn (qeJ g1 (by decide)) ⟨max n n2+1,?_⟩ ⟨m,?_⟩
  ·rw[qbT,hn]
   simp only
   rw[if_neg (qeJ g1 (by decide)),if_neg (qeJ g1 (by decide)),if_neg (qeJ g1 (by decide)),if_neg (qeJ g1 (by decide)),if_pos g1,qiU h3 (WG n n2)]
   simp only[qcN h4,qbh h5 (WD n n2),closed _ _ _ _ h6]
  ·rw[hm,qcm]; rfl
 |effect g x y r ih=>
  refine⟨fun hg lv a ts q hx hl=>?_,fun _=>trivial⟩
  obtain⟨-,g2,g3,g4⟩:=hg
  simp only[Ss.nest] at hl
  simp only[Ss.tx,Wf,Wg] at hx
  obtain⟨hn,h1⟩:=qcr hx
  obtain⟨n,mid,h3,h4⟩:=rb1 (eS:=eS) (eL:=eL) (f:=f) g2 (by intro o; cases o<;>decide) h1 (lv:=lv) (by omega)
  obtain⟨n2,mid2,h5,h6⟩:=rb1 (eS:=eS) (eL:=eL) (f:=f) g3 (by intro o; cases o<;>decide) (qcr h4).2 (lv:=lv) (by omega)
  obtain⟨m,hm⟩:=ih.1 g4 lv (a.app (.effect f (x.fl f) (y.fl f) .nil)) mid2.tail q (qcr h6).2 (by omega)
  refine step (.effect f (x.fl f) (y.fl f) .nil) _ lv a ts mid2.tail _ hn (by decide) ⟨max n n2+1,?_⟩ ⟨m,?_⟩
  ·rw[qbT,hn]
   simp only
   rw[if_neg (by decide),if_neg (by decide),if_pos (by rfl),qbh h3 (WG n n2)]
   simp only[qcN h4,qbh h5 (WD n n2),closed _ _ _ _ h6]
  ·rw[hm,qcm]; rfl
 |stop r ih=>
  refine⟨fun hg lv a ts q hx hl=>?_,fun _=>trivial⟩
  obtain⟨-,g4⟩:=hg
  simp only[Ss.nest] at hl
  simp only[Ss.tx,Wf,Wg] at hx
  obtain⟨hn,h1⟩:=qcr hx
  obtain⟨m,hm⟩:=ih.1 g4 lv (a.app (.stop .nil)) ts.tail.tail q (qcr h1).2 (by omega)
  refine step (.stop .nil) _ lv a ts ts.tail.tail _ hn (by decide) ⟨1,?_⟩ ⟨m,?_⟩
  ·rw[qbT,hn]
   simp only
   rw[if_neg (by decide),if_neg (by decide),if_neg (by decide),if_pos (by rfl),closed _ _ _ _ h1]
  ·rw[hm,qcm]; rfl
 |cond w g c b r ihb ih=>
  refine⟨fun hg lv a ts q hx hl=>?_,fun _=>trivial⟩
  obtain⟨-,g2,g3,g4⟩:=hg
  simp only[Ss.nest] at hl
  simp only[Ss.tx,Wf,Wg] at hx
  obtain⟨hn,h1⟩:=qcr hx
  have hrow:=ihb.2 ⟨_,g3⟩
  cases b with
  |block fb1 b1 b'=>
   obtain⟨k,hk,gb1,gb'⟩:=g3
   simp only[Ss.tx,Wf,Wg] at h1
   obtain⟨n,mid,h3,h4⟩:=rb1 (eS:=eS) (eL:=eL) (f:=f) g2 (by intro o; cases o<;>decide) h1 (lv:=lv) (by omega)
   simp only[Ss.nest] at hl
   have h4' : ∃ mid2,Hx (bs [123]::(b1.tx++[bs [125]])) mid mid2/\Hx ((if qcx b'=true then qlc::b'.tx else [])++(r.tx++[bs [125]])) mid2 q:=by
    have e:bs [123]::(b1.tx++bs [125]::((if qcx b'=true then qlc::b'.tx else [])++(r.tx++[bs [125]])))=(bs [123]::(b1.tx++[bs [125]]))++((if qcx b'=true then qlc::b'.tx else [])++(r.tx++[bs [125]])):=by simp
    rw[e] at h4
    exact hx_app.1 h4
   obtain⟨mid2,h5,h6⟩:=h4'
   obtain⟨n2,h7⟩:=hrow.1 (lv+1) mid mid2 h5 (by omega)
   cases w with
   |true=>
    simp only[if_true] at hk hn
    obtain rfl:k=0:=by simpa using hk.symm
    have hb':b' = .nil:=by
     cases b' with
     |nil=>rfl
     |block=>obtain⟨k,hk,_⟩:=gb'; cases hk
     |_=>exact absurd gb'.1 (by simp)
    subst hb'
    simp only[qcx,Wm,if_false,Wc] at h6
    obtain⟨m,hm⟩:=ih.1 g4 lv (a.app (.cond true f (c.fl f) (.block fb (b1.fl f fi fb) .nil) .nil)) mid2 q h6 (by omega)
    refine step _ _ lv a ts mid2 _ hn (by decide) ⟨max n n2+1,?_⟩ ⟨m,hm.trans ?_⟩
    ·rw[qbT,hn]
     simp only
     rw[if_neg (by decide),if_pos (by rfl),qbh h3 (WG n n2)]
     simp only[qc3 h7 (WD n n2)]
    ·rw[qcm]; rfl
   |false=>
    simp only[Wm,if_false] at hk hn
    obtain rfl:k=1:=by simpa using hk.symm
    cases b' with
    |block fb2 b2 b''=>
     obtain⟨k2,hk2,gb2,gb''⟩:=gb'
     obtain rfl:k2=0:=by simpa using hk2.symm
     have hb'':b'' = .nil:=by
      cases b'' with
      |nil=>rfl
      |block=>obtain⟨k,hk,_⟩:=gb''; cases hk
      |_=>exact absurd gb''.1 (by simp)
     subst hb''
     simp only[Ss.nest] at hl
     by_cases he:qcx (.block fb2 b2 .nil)=true
     ·rw[if_pos he] at h6
      simp only[Wf,Ss.tx,Wg] at h6
      obtain⟨hn6,h8⟩:=qcr h6
      have h9 : ∃ mid3,Hx (bs [123]::(b2.tx++[bs [125]])) mid2.tail mid3/\Hx (r.tx++[bs [125]]) mid3 q:=by
       have e:bs [123]::(b2.tx++bs [125]::((if qcx Ss.nil=true then [qlc] else [])++(r.tx++[bs [125]])))=(bs [123]::(b2.tx++[bs [125]]))++(r.tx++[bs [125]]):=by simp[qcx]
       rw[e] at h8
       exact hx_app.1 h8
      obtain⟨mid3,h10,h11⟩:=h9
      obtain⟨n3,h12⟩:=hrow.2.1 (lv+1) mid2.tail mid3 h10 (by omega)
      obtain⟨m,hm⟩:=ih.1 g4 lv (a.app (.cond false fi (c.fl f) (.block fb (b1.fl f fi fb) (.block fb (b2.fl f fi fb) .nil)) .nil)) mid3 q h11 (by omega)
      refine step _ _ lv a ts mid3 _ hn (by decide) ⟨max n (max n2 n3)+1,?_⟩ ⟨m,hm.trans ?_⟩
      ·rw[qbT,hn]
       simp only
       rw[if_pos (by rfl),qbh h3 (by omega)]
       simp only[qc3 h7 (show n2<=max n (max n2 n3) by omega),hn6]
       rw[if_pos (by rfl),qc3 h12 (by omega)]
      ·rw[qcm]; rfl
     ·rw[if_neg he] at h6
      simp only[Wc] at h6
      have hb2:b2 = .nil:=by cases b2<;>first|rfl|exact absurd rfl he
      subst hb2
      obtain⟨x,l,q1,q2,q3⟩:=qve r g4
      have hn6:nx mid2=some x:=by rw[q1] at h6; exact (qcr h6).1
      obtain⟨m,hm⟩:=ih.1 g4 lv (a.app (.cond false fi (c.fl f) (.block fb (b1.fl f fi fb) (.block fb .nil .nil)) .nil)) mid2 q h6 (by omega)
      refine step _ _ lv a ts mid2 _ hn (by decide) ⟨max n n2+1,?_⟩ ⟨m,hm.trans ?_⟩
      ·rw[qbT,hn]
       simp only
       rw[if_pos (by rfl),qbh h3 (by omega)]
       simp only[qc3 h7 (show n2<=max n n2 by omega),hn6]
       rw[if_neg (show ¬ x=bs [101,108,115,101] from q2)]
      ·rw[qcm]; rfl
    |nil=>rcases gb' with h|h<;>cases h
    |_=>exact absurd gb'.1 (by simp)
  |nil=>rcases g3 with h|h<;>cases w<;>cases h
  |_=>exact absurd g3.1 (by simp)
 |block g b r ihb ihr=>
  refine⟨fun hg=>(by obtain⟨k,hk,_⟩:=hg; cases hk),fun hg=>?_⟩
  obtain⟨k,k',hk,g1,g2⟩:=hg
  refine⟨fun lv ts q hx hl=>?_,ihr.2 ⟨_,g2⟩⟩
  obtain⟨m,hm⟩:=ihb.1 g1 lv .nil ts.tail q (qcr hx).2 hl
  refine⟨m+1,?_⟩
  rw[qaN,qge hx (by omega)]
  exact hm
end
end
section
def quZ(u:ByteArray):Prop:=(byl u).head?≠some 61
def qyt(t:ByteArray):Prop:=t≠bs [60]/\t≠bs [62]/\t≠bs [61]/\t≠bs [33]
theorem qnh : ∀ {a b:List ByteArray},Ok2 a->Ok2 b->(∀ t u,a.getLast?=some t->b.head?=some u->Adj t u)->Ok2 (a++b)
 |[],b,_,hb,_=>hb
 |t::a,b,ha,hb,h=>by
  refine⟨ha.1,fun u hu=>?_,qnh ha.2.2 hb fun t' u h1 h2=>?_⟩
  ·cases a with
   |nil=>exact h t u rfl hu
   |cons v a=>exact ha.2.1 u hu
  ·cases a with
   |nil=>cases h1
   |cons v a=>exact h t' u (by rw[Yq]; exact h1) h2
structure Cl(l:List ByteArray):Prop where
 ok:Ok2 l
 st : ∀ u,l.head?=some u->quZ u
 en : ∀ t,l.getLast?=some t->qyt t
theorem qqx:Cl []:=⟨trivial,fun u h=>(by cases h),fun t h=>(by cases h)⟩
theorem qof{x:ByteArray}(h:Tg (byl x))(h1:quZ x)(h2:qyt x):Cl [x]:=⟨⟨h,fun u hu=>(by cases hu),trivial⟩,fun u hu=>(by cases hu; exact h1),fun t ht=>(by cases ht; exact h2)⟩
theorem qbr{a b:List ByteArray}(ha:Cl a)(hb:Cl b):Cl (a++b):=by
 refine⟨qnh ha.ok hb.ok fun t u h1 _ => .inl (ha.en t h1),fun u hu=>?_,fun t ht=>?_⟩
 ·cases a with
  |nil=>exact hb.st u hu
  |cons v a=>exact ha.st u hu
 ·rw[YL] at ht
  cases hbl:b.getLast? with
  |none=>rw[hbl] at ht; exact ha.en t ht
  |some v=>rw[hbl] at ht; exact hb.en t (hbl.trans ht)
theorem qu0{x:ByteArray}{a b:List ByteArray}(h:Tg (byl x))(ha:Cl a)(hb:Cl b)(na:a≠[])(nb:b≠[]):Cl (a++x::b):=by
 have hxb:Ok2 (x::b):=⟨h,fun u hu => .inr (hb.st u hu),hb.ok⟩
 refine⟨qnh ha.ok hxb fun t u h1 _ => .inl (ha.en t h1),fun u hu=>?_,fun t ht=>?_⟩
 ·cases a with
  |nil=>exact absurd rfl na
  |cons v a=>exact ha.st u hu
 ·cases b with
  |nil=>exact absurd rfl nb
  |cons v b=>
   rw[YL,Yq] at ht
   cases hbl:(v::b).getLast? with
   |none=>simp at hbl
   |some w=>rw[hbl] at ht; exact hb.en t (hbl.trans ht)
theorem qxp{x:ByteArray}{b:List ByteArray}(h:Tg (byl x))(h1:quZ x)(hb:Cl b)(nb:b≠[]):Cl (x::b):=by
 refine⟨⟨h,fun u hu => .inr (hb.st u hu),hb.ok⟩,fun u hu=>(by cases hu; exact h1),fun t ht=>?_⟩
 cases b with
 |nil=>exact absurd rfl nb
 |cons v b=>rw[Yq] at ht; exact hb.en t ht
theorem qqy{c:UInt8}(h:c.toNat∈symB):Tg (byl (bs [c])):=by rw[qbi]; exact .inr (.inr (.inr ⟨c,rfl,h⟩))
theorem qzp(o:Bop):Tg (byl o.str):=by
 cases o
 all_goals first
  |exact .inr (.inr (.inr ⟨_,rfl,by decide⟩))
  |exact .inr (.inr (.inl (by decide)))
theorem qzq(neg:Bool):Tg (byl (ustr neg)):=by
 cases neg<;>exact .inr (.inr (.inr ⟨_,rfl,by decide⟩))
theorem qqz{c:UInt8}{r:List UInt8}(h:qaG c=true)(h2 : ∀ b∈r,qaq b=true)(h3:(c::r).length<=8):Tg (byl (bs (c::r))):=by
 rw[qbi]
 exact .inl ⟨c,r,rfl,h,h2,fun h=>by omega⟩
theorem clf{x:ByteArray}(h:x∈fieldNames):Cl [x]:=by
 simp only[fieldNames,Ws,WA,or_false] at h
 rcases h with h|h|h|h|h|h|h|h<;>rw[h]
 all_goals exact qof (.inl ⟨_,_,rfl,by decide,by decide,by decide⟩) (by unfold quZ; decide) (by unfold qyt; decide)
theorem clw{x:ByteArray}(h:x∈wordNames):Cl [x]:=by
 simp only[wordNames,Ws,WA,or_false] at h
 rcases h with h|h|h|h|h|h|h|h|h|h|h|h|h<;>rw[h]
 all_goals exact qof (.inl ⟨_,_,rfl,by decide,by decide,by decide⟩) (by unfold quZ; decide) (by unfold qyt; decide)
theorem qtM{x:ByteArray}(h:Tg (byl x))(hs:qaj qaG x=true\/qaj qal x=true):Cl [x]:=by
 refine qof h ?_ ⟨?_,?_,?_,?_⟩
 ·intro h1
  rw[qaS,qaS,h1] at hs
  exact absurd hs (by decide)
 all_goals rintro rfl; exact absurd hs (by decide)
theorem qqA{x:ByteArray}(h:qsN x):Cl [x]:=qtM h.1 (.inl h.2.1)
theorem cls{c:UInt8}(h:c.toNat∈symB)(h1:c≠61)(h2:c≠60/\c≠62/\c≠33):Cl [bs [c]]:=by
 refine qof (qqy h) (by rw[quZ,qbi]; simpa using h1) ⟨?_,?_,?_,?_⟩
 all_goals
  intro h
  have:=qkr h
  simp only[Ww,and_true] at this
  simp_all
theorem qu1(full:Bool){e:E}(h:e.good)(p:Nat):e.tx full p≠[]:=by
 obtain⟨x,l,h1,_⟩:=qnm full e h p
 rw[h1]; simp
theorem qog{b:Bool}{l:List ByteArray}(h:Cl l):Cl (qbB b l):=by
 unfold qbB
 split
 ·exact qbr (a:=[bs [40]]) (cls (by decide) (by decide) (by decide)) (qbr h (cls (by decide) (by decide) (by decide)))
 ·exact h
theorem qiS(full:Bool) : ∀ e:E,e.good -> ∀ p,Cl (e.tx full p)
 |.int n,h,p=>qtM (by rw[qbi]; exact qvg (by have:=h.1; have:=h.2; omega)) (.inr (qld (by have:=h.1; have:=h.2; omega)))
 |.bool n,h,p=>by
  simp only[E.tx]
  split<;>exact clw (by decide)
 |.var s,h,p=>qqA h
 |.name s,h,p=>by
  refine clw ?_
  rcases h with rfl|rfl|rfl<;>decide
 |.field g s e,h,p=>qbr (clf h.1) (qbr (a:=[bs [91]]) (cls (by decide) (by decide) (by decide)) (qbr (qiS full e h.2 1) (cls (by decide) (by decide) (by decide))))
 |.un g neg e,h,p=>qog (qxp (qzq neg) (by unfold quZ; cases neg<;>decide) (qiS full e h _) (qu1 full (e:=e) h _))
 |.bin g o a b,h,p=>qog (qu0 (qzp o) (qiS full a h.1 _) (qiS full b h.2 _) (qu1 full h.1 _) (qu1 full h.2 _))
theorem qh3 : ∀ (s:Ss) m,s.good m->Cl s.tx
 |.nil,m,h=>qqx
 |.assign g s e r,m,h=>qu0 (a:=[s]) (qqy (by decide)) (qqA h.2.1) (qbr (qiS false e h.2.2.1 1) (qbr (a:=[bs [59]]) (cls (by decide) (by decide) (by decide)) (qh3 r _ h.2.2.2))) (by simp) (by simp)
 |.store g s a b r,m,h=>by
  have h1:Cl (s::bs [91]::(a.tx false 1++[bs [93]])):=qbr (clf h.2.1) (qbr (a:=[bs [91]]) (cls (by decide) (by decide) (by decide)) (qbr (qiS false a h.2.2.1 1) (cls (by decide) (by decide) (by decide))))
  have h2:Cl (b.tx false 1++(bs [59]::r.tx)):=qbr (qiS false b h.2.2.2.1 1) (qbr (a:=[bs [59]]) (cls (by decide) (by decide) (by decide)) (qh3 r _ h.2.2.2.2))
  have:=qu0 (x:=bs [61]) (qqy (by decide)) h1 h2 (by simp) (by simp)
  simpa [Ss.tx] using this
 |.effect g a b r,m,h=>qbr (a:=[qnl]) (clw (by decide)) (qbr (qiS false a h.2.1 1) (qbr (a:=[bs [44]]) (cls (by decide) (by decide) (by decide)) (qbr (qiS false b h.2.2.1 1) (qbr (a:=[bs [59]]) (cls (by decide) (by decide) (by decide)) (qh3 r _ h.2.2.2)))))
 |.stop r,m,h=>qbr (a:=[qvd]) (clw (by decide)) (qbr (a:=[bs [59]]) (cls (by decide) (by decide) (by decide)) (qh3 r _ h.2))
 |.cond w g c b r,m,h=>qbr (a:=[if w then qqK else ifS]) (clw (by cases w<;>decide)) (qbr (qiS false c h.2.1 1) (qbr (qh3 b _ h.2.2.1) (qh3 r _ h.2.2.2)))
 |.block g b r,m,h=>by
  obtain⟨n,_,h1,h2⟩:=h
  have hlast:Cl (if qcx r then qlc::r.tx else []):=?_
  ·exact qbr (a:=[bs [123]]) (cls (by decide) (by decide) (by decide)) (qbr (qh3 b _ h1) (qbr (a:=[bs [125]]) (cls (by decide) (by decide) (by decide)) hlast))
  split
  ·exact qbr (a:=[qlc]) (clw (by decide)) (qh3 r _ h2)
  ·exact qqx
def qcb(k:Nat):ByteArray:=match k with|0=>bs [97,99,116] | 1=>qi4|_=>qfM
def qdV(k:Nat):Option Ss->List ByteArray
 |none=>[]
 |some b=>onS::qcb k::bs [123]::(b.tx++[bs [125]])
def qcI(h:Option Ss):Prop := ∀ b,h=some b->b.good none/\b.nest<=19
theorem qsD{k:Nat}{h:Option Ss}(hg:qcI h):Cl (qdV k h):=by
 cases h with
 |none=>exact qqx
 |some b=>
  refine qbr (a:=[onS]) (clw (by decide)) (qbr (a:=[qcb k]) (clw ?_) (qbr (a:=[bs [123]]) (cls (by decide) (by decide) (by decide)) (qbr (qh3 b _ (hg b rfl).1) (cls (by decide) (by decide) (by decide)))))
  rcases k with _|_|k
  ·decide
  ·decide
  ·show qfM∈wordNames; decide
def qa0(h:Nat->Option Ss):List ByteArray:=qdV 0 (h 0)++(qdV 1 (h 1)++qdV 2 (h 2))
theorem qu2{h:Nat->Option Ss}(hg : ∀ k,qcI (h k)):Cl (qa0 h):=qbr (qsD (hg 0)) (qbr (qsD (hg 1)) (qsD (hg 2)))
theorem qk6{k:Nat}(h:k<3):qaY (qcb k)=some k:=by
 rcases k with _|_|_|k
 ·rfl
 ·rfl
 ·rfl
 ·omega
section
variable{eS eL eD:Nat}{f fi fb:Bool}
def qAu(h:Nat->Option Ss)(k:Nat)(b:Ss):Nat->Option Ss:=fun i=>if i=k then some b else h i
theorem rbH {h:Nat->Option Ss} {k:Nat} {b:Ss} (hk:k<3) (hh:h k=none) (hg:b.good none) (hn:b.nest<=19) {ts mid:List Tk} (hx:Hx (qdV k (some b)) ts mid) {y} (hy : ∃ n,qcj eS eL eD f fi fb n (qAu h k (b.fl f fi fb)) mid=some y) :
  ∃ n,qcj eS eL eD f fi fb n h ts=some y:=by
 obtain⟨h1,h2⟩:=qcr hx
 obtain⟨h3,h4⟩:=qcr h2
 have hr : ∃ n,qaN eS eL f fi fb n 1 ts.tail.tail=some (.ok (b.fl f fi fb) mid):=by
  obtain⟨n,hn⟩:=(rbS (eS:=eS) (eL:=eL) (f:=f) (fi:=fi) (fb:=fb) b).1 hg 1 .nil ts.tail.tail.tail mid (qcr h4).2 (by omega)
  refine⟨n+1,?_⟩
  rw[qaN,qge h4 (by omega)]
  exact hn
 obtain⟨n,hn⟩:=hr
 obtain⟨m,hm⟩:=hy
 refine⟨max n m+1,?_⟩
 rw[qcj,h1]
 simp only
 rw[if_neg (by decide),show qam eS (bs [111,110]) ts = .ok () ts.tail from qcN hx]
 simp only[h3,qk6 hk]
 rw[if_neg (by rw[hh]; simp),qc3 hn (WG n m)]
 exact qhp hm (WD n m)
theorem rbP {h:Nat->Option Ss} (hg : ∀ k,qcI (h k)) {ts mid:List Tk} (hx:Hx (qa0 h) ts mid) (he:nx mid=some ⟨#[]⟩) :
  ∃ n,qcj eS eL eD f fi fb n (fun _=>none) ts=some (.ok (fun k=>if k<3 then (h k).map (·.fl f fi fb) else none) mid):=by
 obtain⟨m1,x1,hx⟩:=hx_app.1 hx
 obtain⟨m2,x2,x3⟩:=hx_app.1 hx
 have one : ∀ (k:Nat) (h0:Nat->Option Ss) (ts m:List Tk) y,k<3->h0 k=none->Hx (qdV k (h k)) ts m->(∃ n,qcj eS eL eD f fi fb n (fun i=>if i=k then (h k).map (·.fl f fi fb) else h0 i) m=some y) -> ∃ n,qcj eS eL eD f fi fb n h0 ts=some y:=by
  intro k h0 ts m y hk h0k hx hy
  have hgk:=hg k
  cases hb:h k with
  |none=>
   rw[hb] at hx hy
   cases hx
   obtain⟨n,hn⟩:=hy
   refine⟨n,?_⟩
   rw[<- hn]
   congr 1
   funext i
   split
   ·rename_i e; rw[e,h0k]; rfl
   ·rfl
  |some b=>
   rw[hb] at hx hy hgk
   exact rbH hk h0k (hgk b rfl).1 (hgk b rfl).2 hx hy
 refine one 0 _ ts m1 _ (by omega) rfl x1 (one 1 _ m1 m2 _ (by omega) (by simp) x2 (one 2 _ m2 mid _ (by omega) (by simp) x3 ⟨1,?_⟩))
 rw[qcj,he]
 simp only
 rw[if_pos (by rfl)]
 congr 2
 funext i
 rcases i with _|_|_|i<;>simp
 omega
end
end
section
def Fo.eqv:Fo->Fo->Bool
 |.nil,.nil=>true
 |.cons k n s _ ks r,.cons k' n' s' _ ks' r'=>(decide (k=k')&&(decide (n=n')&&decide (s=s')))&&(ks.eqv ks'&&r.eqv r')
 |_,_=>false
theorem qrI : ∀ {a b:Fo},a.eqv b=true->a.len=b.len
 |.nil,.nil,_=>rfl
 |.cons ..,.cons ..,h=>by
  simp only[Fo.eqv,Wt] at h
  simp[qrI h.2.2]
 |.nil,.cons ..,h=>by cases h
 |.cons ..,.nil,h=>by cases h
theorem qlD : ∀ a:Fo,a.eqv a=true
 |.nil=>rfl
 |.cons k n s f ks r=>by simp[Fo.eqv,qlD ks,qlD r]
theorem qd9(f g:Bool) : ∀ (e:E) {r r':Fo},r.eqv r'=true->((e.fl f).fo r).eqv ((e.fl g).fo r')=true
 |.int n,r,r',h=>by simp[E.fl,E.fo,Fo.eqv,h]
 |.bool n,r,r',h=>by simp[E.fl,E.fo,Fo.eqv,h]
 |.var s,r,r',h=>by simp[E.fl,E.fo,Fo.eqv,h]
 |.name s,r,r',h=>by simp[E.fl,E.fo,Fo.eqv,h]
 |.field _ s e,r,r',h=>by simp[E.fl,E.fo,Fo.eqv,h,qd9 f g e (r := .nil) (r' := .nil) rfl]
 |.un _ n e,r,r',h=>by simp[E.fl,E.fo,Fo.eqv,h,qd9 f g e (r := .nil) (r' := .nil) rfl]
 |.bin _ o a b,r,r',h=>by simp[E.fl,E.fo,Fo.eqv,h,qd9 f g a (qd9 f g b (r := .nil) (r' := .nil) rfl)]
theorem qeQ(f fi fb g gi gb:Bool) : ∀ (s:Ss),((s.fl f fi fb).fo).eqv ((s.fl g gi gb).fo)=true
 |.nil=>rfl
 |.assign _ s e r=>by simp[Ss.fl,Ss.fo,Fo.eqv,qd9 f g e (r := .nil) (r' := .nil) rfl,qeQ f fi fb g gi gb r]
 |.store _ s a b r=>by simp[Ss.fl,Ss.fo,Fo.eqv,qd9 f g a (qd9 f g b (r := .nil) (r' := .nil) rfl),qeQ f fi fb g gi gb r]
 |.effect _ a b r=>by simp[Ss.fl,Ss.fo,Fo.eqv,qd9 f g a (qd9 f g b (r := .nil) (r' := .nil) rfl),qeQ f fi fb g gi gb r]
 |.stop r=>by simp[Ss.fl,Ss.fo,Fo.eqv,qeQ f fi fb g gi gb r]
 |.cond w _ c b r=>by cases w<;>simp[Ss.fl,Ss.fo,Fo.eqv,qd9 f g c (qeQ f fi fb g gi gb b),qeQ f fi fb g gi gb r]
 |.block _ b r=>by simp[Ss.fl,Ss.fo,Fo.eqv,qeQ f fi fb g gi gb b,qeQ f fi fb g gi gb r]
theorem qv4(f fi fb:Bool)(a b:Ss):(a.app b).fl f fi fb=(a.fl f fi fb).app (b.fl f fi fb):=by induction a<;>simp_all [Ss.fl,Ss.app]
theorem qnC(full f:Bool) : ∀ (e:E) p,(e.fl f).tx full p=e.tx full p
 |.int n,p | .bool n,p | .var s,p | .name s,p=>rfl
 |.field _ s e,p=>by simp[E.fl,E.tx,qnC full f e]
 |.un _ n e,p=>by simp[E.fl,E.tx,qnC full f e]
 |.bin _ o a b,p=>by simp[E.fl,E.tx,qnC full f a,qnC full f b]
theorem qgj(f:Bool) : ∀ (e:E),(e.fl f).good↔e.good
 |.int n | .bool n | .var s | .name s=>Iff.rfl
 |.field _ s e | .un _ n e=>by simp[E.fl,E.good,qgj f e]
 |.bin _ o a b=>by simp[E.fl,E.good,qgj f a,qgj f b]
theorem qgk(full f:Bool) : ∀ (e:E) p,(e.fl f).nest full p=e.nest full p
 |.int n,p | .bool n,p | .var s,p | .name s,p=>rfl
 |.field _ s e,p=>by simp[E.fl,E.nest,qgk full f e]
 |.un _ n e,p=>by simp[E.fl,E.nest,qgk full f e]
 |.bin _ o a b,p=>by simp[E.fl,E.nest,qgk full f a,qgk full f b]
theorem qts(f fi fb:Bool)(r:Ss):qcx (r.fl f fi fb)=qcx r:=by
 cases r with
 |block g b r=>cases b<;>rfl
 |_=>rfl
theorem qh0(f fi fb:Bool) : ∀ s:Ss,(s.fl f fi fb).tx=s.tx
 |.nil=>rfl
 |.assign _ s e r=>by simp[Ss.fl,Ss.tx,qnC,qh0 f fi fb r]
 |.store _ s a b r | .effect _ a b r=>by simp[Ss.fl,Ss.tx,qnC,qh0 f fi fb r]
 |.stop r=>by simp[Ss.fl,Ss.tx,qh0 f fi fb r]
 |.cond w _ c b r=>by simp[Ss.fl,Ss.tx,qnC,qh0 f fi fb b,qh0 f fi fb r]
 |.block _ b r=>by simp[Ss.fl,Ss.tx,qh0 f fi fb b,qh0 f fi fb r,qts]
theorem qdD(f fi fb:Bool) : ∀ (s:Ss) m,(s.fl f fi fb).good m↔s.good m
 |.nil,m=>Iff.rfl
 |.assign _ s e r,m=>by simp[Ss.fl,Ss.good,qgj,qdD f fi fb r]
 |.store _ s a b r,m=>by simp[Ss.fl,Ss.good,qgj,qdD f fi fb r]
 |.effect _ a b r,m=>by simp[Ss.fl,Ss.good,qgj,qdD f fi fb r]
 |.stop r,m=>by simp[Ss.fl,Ss.good,qdD f fi fb r]
 |.cond w _ c b r,m=>by simp[Ss.fl,Ss.good,qgj,qdD f fi fb b,qdD f fi fb r]
 |.block _ b r,m=>by simp[Ss.fl,Ss.good,qdD f fi fb b,qdD f fi fb r]
theorem qd0(f fi fb:Bool) : ∀ s:Ss,(s.fl f fi fb).nest=s.nest
 |.nil=>rfl
 |.assign _ s e r=>by simp[Ss.fl,Ss.nest,qgk,qd0 f fi fb r]
 |.store _ s a b r | .effect _ a b r=>by simp[Ss.fl,Ss.nest,qgk,qd0 f fi fb r]
 |.stop r=>by simp[Ss.fl,Ss.nest,qd0 f fi fb r]
 |.cond w _ c b r=>by simp[Ss.fl,Ss.nest,qgk,qd0 f fi fb b,qd0 f fi fb r]
 |.block _ b r=>by simp[Ss.fl,Ss.nest,qd0 f fi fb b,qd0 f fi fb r]
def Rz.map{α β : Type}(k : α -> β):Rz α -> Rz β
 |.ok a r => .ok (k a) r
 |.er i c => .er i c
theorem qcO{α β : Type}(k : α -> β)(c:Nat)(ts:List Tk):(failP c ts:Rz α).map k=failP c ts:=by cases ts<;>rfl
section
variable(eS eL:Nat)(f g:Bool)
theorem qnD : ∀ n:Nat,
  (∀ p lv ts,qak eS eL f n p lv ts=(qak eS eL g n p lv ts).map (Rz.map (E.fl f))) /\
  (∀ p lv e ts,qbR eS eL f n p lv (e.fl f) ts=(qbR eS eL g n p lv e ts).map (Rz.map (E.fl f))) /\
  (∀ lv ts,qa6 eS eL f n lv ts=(qa6 eS eL g n lv ts).map (Rz.map (E.fl f)))
 |0=>⟨fun p lv ts=>by simp[qak],fun p lv e ts=>by simp[qbR],fun lv ts=>by simp[qa6]⟩
 |n+1=>by
  obtain⟨h1,h2,h3⟩:=qnD n
  refine⟨fun p lv ts=>?_,fun p lv e ts=>?_,fun lv ts=>?_⟩
  ·simp only[qak]
   split
   ·cases qbO eS eL (ustr (p==7)) (lv+1) ts with
    |er i c=>rfl
    |ok _ r=>
     simp only[h1 p (lv+1) r]
     cases qak eS eL g n p (lv+1) r with
     |none=>rfl
     |some y=>cases y<;>rfl
   split
   ·simp only[h1 (p+1) lv ts]
    cases qak eS eL g n (p+1) lv ts with
    |none=>rfl
    |some y=>
     cases y with
     |er i c=>rfl
     |ok e r=>simp only[WK,Rz.map,h2 p lv e r]
   cases nx ts with
   |none=>simp[qcO]
   |some s=>
    simp only
    split
    ·rfl
    split
    ·rfl
    split
    ·rfl
    split
    ·rfl
    split
    ·simp only[h3 lv ts.tail]
     cases qa6 eS eL g n lv ts.tail with
     |none=>rfl
     |some y=>cases y<;>rfl
    split
    ·rfl
    cases qbO eS eL (bs [40]) (lv+1) ts with
    |er i c=>rfl
    |ok _ r=>
     simp only[h1 1 (lv+1) r]
     cases qak eS eL g n 1 (lv+1) r with
     |none=>rfl
     |some y=>
      cases y with
      |er i c=>rfl
      |ok e r'=>
       simp only[WK,Rz.map]
       cases qam eS (bs [41]) r'<;>rfl
  ·simp only[qbR]
   cases nx ts with
   |none=>
    simp only
    split
    ·rfl
    ·cases ts<;>rfl
   |some s=>
    simp only
    cases qhL p s with
    |none=>rfl
    |some o=>
     simp only[h1 (p+1) lv ts.tail]
     cases qak eS eL g n (p+1) lv ts.tail with
     |none=>rfl
     |some y=>
      cases y with
      |er i c=>rfl
      |ok e' r=>
       simp only[WK,Rz.map]
       split
       ·rfl
       ·exact h2 p lv (.bin g o e e') r
  ·simp only[qa6]
   cases qbO eS eL (bs [91]) (lv+1) ts with
   |er i c=>rfl
   |ok _ r=>
    simp only[h1 1 (lv+1) r]
    cases qak eS eL g n 1 (lv+1) r with
    |none=>rfl
    |some y=>
     cases y with
     |er i c=>rfl
     |ok e r'=>
      simp only[WK,Rz.map]
      cases qam eS (bs [93]) r'<;>rfl
variable(fi fb gi gb:Bool)
theorem qpv(k:Ss->Ss)(a:Ss)(ts:List Tk):(qa2 eS a ts).map k=qa2 eS (k a) ts:=by
 unfold qa2
 cases qam eS (bs [59]) ts<;>rfl
theorem qrJ : ∀ n:Nat,
  (∀ lv ts,qbT eS eL f fi fb n lv ts=(qbT eS eL g gi gb n lv ts).map (Rz.map (Ss.fl f fi fb))) /\
  (∀ lv ts,qaN eS eL f fi fb n lv ts=(qaN eS eL g gi gb n lv ts).map (Rz.map (Ss.fl f fi fb))) /\
  (∀ lv a ts,qbw eS eL f fi fb n lv (a.fl f fi fb) ts=(qbw eS eL g gi gb n lv a ts).map (Rz.map (Ss.fl f fi fb)))
 |0=>⟨fun lv ts=>by simp[qbT],fun lv ts=>by simp[qaN],fun lv a ts=>by simp[qbw]⟩
 |n+1=>by
  obtain⟨h1,h2,h3⟩:=qrJ n
  have e1:=(qnD eS eL f g n).1
  have e3:=(qnD eS eL f g n).2.2
  refine⟨fun lv ts=>?_,fun lv ts=>?_,fun lv a ts=>?_⟩
  ·simp only[qbT]
   cases nx ts with
   |none=>simp[qcO]
   |some s=>
    simp only
    split
    ·simp only[e1 1 lv ts.tail]
     cases qak eS eL g n 1 lv ts.tail with
     |none=>rfl
     |some y=>
      cases y with
      |er i c=>rfl
      |ok c r=>
       simp only[WK,Rz.map,h2 (lv+1) r]
       cases qaN eS eL g gi gb n (lv+1) r with
       |none=>rfl
       |some z=>
        cases z with
        |er i k=>rfl
        |ok b r1=>
         simp only[WK,Rz.map]
         cases nx r1 with
         |none=>simp[qcO]
         |some w=>
          simp only
          split
          ·simp only[h2 (lv+1) r1.tail]
           cases qaN eS eL g gi gb n (lv+1) r1.tail with
           |none=>rfl
           |some z2=>cases z2<;>rfl
          ·rfl
    split
    ·simp only[e1 1 lv ts.tail]
     cases qak eS eL g n 1 lv ts.tail with
     |none=>rfl
     |some y=>
      cases y with
      |er i c=>rfl
      |ok c r=>
       simp only[WK,Rz.map,h2 (lv+1) r]
       cases qaN eS eL g gi gb n (lv+1) r with
       |none=>rfl
       |some z=>cases z<;>rfl
    split
    ·simp only[e1 1 lv ts.tail]
     cases qak eS eL g n 1 lv ts.tail with
     |none=>rfl
     |some y=>
      cases y with
      |er i c=>rfl
      |ok a r=>
       simp only[WK,Rz.map]
       cases qam eS (bs [44]) r with
       |er i k=>rfl
       |ok _ r1=>
        simp only[e1 1 lv r1]
        cases qak eS eL g n 1 lv r1 with
        |none=>rfl
        |some z=>
         cases z with
         |er i k=>rfl
         |ok b r2=>
          simp only[WK,Rz.map,qa2]
          cases qam eS (bs [59]) r2<;>rfl
    split
    ·simp only[WK,qpv]; rfl
    split
    ·simp only[e3 lv ts.tail]
     cases qa6 eS eL g n lv ts.tail with
     |none=>rfl
     |some y=>
      cases y with
      |er i c=>rfl
      |ok a r=>
       simp only[WK,Rz.map]
       cases qam eS (bs [61]) r with
       |er i k=>rfl
       |ok _ r1=>
        simp only[e1 1 lv r1]
        cases qak eS eL g n 1 lv r1 with
        |none=>rfl
        |some z=>
         cases z with
         |er i k=>rfl
         |ok b r2=>
          simp only[WK,Rz.map,qa2]
          cases qam eS (bs [59]) r2<;>rfl
    split
    ·cases qam eS (bs [61]) ts.tail with
     |er i k=>rfl
     |ok _ r1=>
      simp only[e1 1 lv r1]
      cases qak eS eL g n 1 lv r1 with
      |none=>rfl
      |some z=>
       cases z with
       |er i k=>rfl
       | ok b r2=>
          simp only[WK,Rz.map,qa2]
          cases qam eS (bs [59]) r2<;>rfl
    ·simp[qcO]
  ·simp only[qaN]
   cases qbO eS eL (bs [123]) lv ts with
   |er i k=>rfl
   |ok _ r=>exact h3 lv .nil r
  ·simp only[qbw]
   cases nx ts with
   |none=>simp[qcO]
   |some s=>
    simp only
    split
    ·rfl
    ·simp only[h1 lv ts]
     cases qbT eS eL g gi gb n lv ts with
     |none=>rfl
     |some y=>
      cases y with
      |er i k=>rfl
      |ok b r=>
       simp only[WK,Rz.map]
       rw[<- qv4]
       exact h3 lv (a.app b) r
variable(eD:Nat)
def qis(f fi fb:Bool)(h:Nat->Option Ss):Nat->Option Ss:=fun k=>(h k).map (Ss.fl f fi fb)
theorem qrK : ∀ (n:Nat) (h:Nat->Option Ss) (ts:List Tk),qcj eS eL eD f fi fb n (qis f fi fb h) ts=(qcj eS eL eD g gi gb n h ts).map (Rz.map (qis f fi fb))
 |0,h,ts=>by simp[qcj]
 |n+1,h,ts=>by
  simp only[qcj]
  cases nx ts with
  |none=>simp[qcO]
  |some s=>
   simp only
   split
   ·rfl
   cases qam eS (bs [111,110]) ts with
   |er i k=>rfl
   |ok _ r=>
    simp only
    cases nx r with
    |none=>simp[qcO]
    |some w=>
     simp only
     cases qaY w with
     |none=>simp[qcO]
     |some k=>
      have hs:(qis f fi fb h k).isSome=(h k).isSome:=by unfold qis; cases h k<;>rfl
      simp only[hs]
      split
      ·simp[qcO]
      ·simp only[(qrJ eS eL f g fi fb gi gb n).2.1 1 r.tail]
       cases qaN eS eL g gi gb n 1 r.tail with
       |none=>rfl
       |some y=>
        cases y with
        |er i c=>rfl
        |ok b r1=>
         simp only[WK,Rz.map]
         rw[<- qrK n]
         congr 1
         funext i
         unfold qis
         by_cases hi:i=k<;>simp[hi]
end
end
end Go.Pm
section
namespace Go.Pm.F
@[simp] abbrev sN:D := .lit (.slice none 0 0)
@[simp] abbrev eN:D := .lit (.string ⟨#[]⟩)
@[simp] abbrev zN:D := .lit (.int .i64 0)
@[simp] abbrev ii(n:Int):D := .lit (.int .i64 n)
@[simp] abbrev kk(n:Int):X := .c (.int .i64 n)
@[simp] abbrev kT:X := .c (.bool true)
@[simp] abbrev kF:X := .c (.bool false)
@[simp] abbrev jj(d:Nat)(o:O):I:=⟨some d,o,none,[]⟩
@[simp] abbrev jn(o:O):I:=⟨none,o,none,[]⟩
@[simp] abbrev jt(d g:Nat)(o:O):I:=⟨some d,o,some (g,true),[]⟩
@[simp] abbrev jf(d g:Nat)(o:O):I:=⟨some d,o,some (g,false),[]⟩
@[simp] abbrev mv(d a:Nat):I:=⟨some d,.mov (.t a),none,[]⟩
@[simp] abbrev mx(d:Nat)(x:X):I:=⟨some d,.mov x,none,[]⟩
@[simp] abbrev l1(d a:Nat):I:=⟨some d,.load false 1 (.t a),none,[]⟩
@[simp] abbrev la(d n a:Nat):I:=⟨some d,.load true n (.t a),none,[]⟩
@[simp] abbrev fa(d o a:Nat):I:=⟨some d,.fieldAddr o (.t a),none,[]⟩
@[simp] abbrev nc(d a:Nat):I:=⟨some d,.nilchk (.t a),none,[]⟩
@[simp] abbrev bx(d a:Nat):I:=⟨some d,.box (.t a),none,[]⟩
@[simp] abbrev ex(d a n:Nat):I:=⟨some d,.extract (.t a) n,none,[]⟩
@[simp] abbrev ls(d a:Nat):I:=⟨some d,.len .sl (.t a),none,[]⟩
@[simp] abbrev lz(d a:Nat):I:=⟨some d,.len .str (.t a),none,[]⟩
@[simp] abbrev bn(d:Nat)(o:BinOp)(a b:Nat):I:=⟨some d,.bin o (.t a) (.t b),none,[]⟩
@[simp] abbrev bk(d:Nat)(o:BinOp)(a:Nat)(n:Int):I:=⟨some d,.bin o (.t a) (.c (.int .i64 n)),none,[]⟩
@[simp] abbrev st(n a b:Nat):I:=⟨none,.store n (.t a) (.t b),none,[]⟩
@[simp] abbrev cl(d f:Nat)(xs:List Nat):I:=⟨some d,.call f (xs.map .t),none,[]⟩
@[simp] abbrev rn(ops:List I)(keep:List Nat)(lasts:List Nat:=[]):PC := .region none ops keep lasts
end Go.Pm.F
end
