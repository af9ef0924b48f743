/- Trees of rule programs: expressions, statements, rows of nodes, as the abstract machine's data; names. No program in sight. -/
import Derived.Test.YtoccgneneplciaaGreatDoorPmAL
import Derived.Test.YtoccgneneplciaaGreatDoorPmR1
import Derived.Laws.Strings
import Derived.KernelRfl
import Init
set_option linter.unusedSimpArgs false
set_option linter.unusedVariables false
namespace Go.Pm
section
inductive Bop where
 |add|sub|mul|div|lt|le|gt|ge|eq|ne|and|or
def Bop.str:Bop->ByteArray
 |.add=>⟨#[43]⟩ | .sub=>⟨#[45]⟩ | .mul=>⟨#[42]⟩ | .div=>⟨#[47]⟩
 |.lt=>⟨#[60]⟩ | .le=>⟨#[60,61]⟩ | .gt=>⟨#[62]⟩ | .ge=>⟨#[62,61]⟩ | .eq=>⟨#[61,61]⟩ | .ne=>⟨#[33,61]⟩
 |.and=>⟨#[38,38]⟩ | .or=>⟨#[124,124]⟩
def Bop.opd:Bop->Int
 |.and | .or=>2
 |_=>1
def Bop.res:Bop->Int
 |.add | .sub | .mul | .div=>1
 |_=>2
def ustr(neg:Bool):ByteArray:=if neg then ⟨#[45]⟩ else ⟨#[33]⟩
inductive E where
 |int (n:Int)
 |bool (n:Int)
 |var (s:ByteArray)
 |name (s:ByteArray)
 |field (f:Bool) (s:ByteArray) (e:E)
 |un (f:Bool) (neg:Bool) (e:E)
 |bin (f:Bool) (o:Bop) (a b:E)
def E.kind:E->Int
 |.int _=>8 | .bool _=>9 | .var _=>10 | .field .. => 11 | .name _=>12 | .un .. => 13 | .bin .. => 14
def E.num:E->Int
 |.int n=>n | .bool n=>n|_=>0
def E.str:E->ByteArray
 |.var s=>s | .name s=>s | .field _ s _=>s | .un _ neg _=>ustr neg | .bin _ o _ _=>o.str|_=>⟨#[]⟩
def E.kids:E->D
 |.field f _ e => .sl [.lit (.int .i64 e.kind),.lit (.int .i64 e.num),.lit (.string e.str),e.kids] 1 f
 |.un f _ e => .sl [.lit (.int .i64 e.kind),.lit (.int .i64 e.num),.lit (.string e.str),e.kids] 1 f
 |.bin f _ a b => .sl [.lit (.int .i64 a.kind),.lit (.int .i64 a.num),.lit (.string a.str),a.kids,.lit (.int .i64 b.kind),.lit (.int .i64 b.num),.lit (.string b.str),b.kids] 2 f
 |_ => .lit (.slice none 0 0)
@[simp] theorem qbg(e:E):V.one (.dat e.kids)=true:=by cases e<;>rfl
@[simp] theorem qv3(e:E):V.cells (.dat e.kids)=[.dat e.kids]:=by cases e<;>rfl
abbrev E.node(e:E):V := .dat (.agg [.lit (.int .i64 e.kind),.lit (.int .i64 e.num),.lit (.string e.str),e.kids])
def E.size:E->Nat
 |.field _ _ e=>e.size+1
 |.un _ _ e=>e.size+1
 |.bin _ _ a b=>a.size+b.size+1
 |_=>1
@[simp] theorem qyu(n:Int):E.size (.int n)=1:=rfl
@[simp] theorem qxV(n:Int):E.size (.bool n)=1:=rfl
@[simp] theorem qyv(s:ByteArray):E.size (.var s)=1:=rfl
@[simp] theorem qxW(s:ByteArray):E.size (.name s)=1:=rfl
@[simp] theorem qox(f:Bool)(s:ByteArray)(e:E):E.size (.field f s e)=e.size+1:=rfl
@[simp] theorem qqn(f neg:Bool)(e:E):E.size (.un f neg e)=e.size+1:=rfl
@[simp] theorem qkw(f:Bool)(o:Bop)(a b:E):E.size (.bin f o a b)=a.size+b.size+1:=rfl
def E.ok:E->Prop
 |.var s=>s.size<=100
 |.field _ _ e=>e.ok
 |.un _ _ e=>e.ok
 |.bin _ _ a b=>a.ok/\b.ok
 |_=>True
def E.ty:E->Int
 |.int _ | .var _ | .name _=>1
 |.bool _=>2
 |.field _ _ e=>if e.ty=1 then 1 else 0
 |.un _ neg e=>if e.ty=(if neg then 1 else 2) then (if neg then 1 else 2) else 0
 |.bin _ o a b=>if a.ty=o.opd/\b.ty=o.opd then o.res else 0
@[simp] theorem qyw(n:Int):E.kind (.int n)=8:=rfl
@[simp] theorem qzV(n:Int):E.num (.int n)=n:=rfl
@[simp] theorem qzW(n:Int):E.str (.int n)=⟨#[]⟩:=rfl
@[simp] theorem qyx(n:Int):E.kids (.int n) = .lit (.slice none 0 0):=rfl
@[simp] theorem qAl(n:Int):E.ty (.int n)=1:=rfl
@[simp] theorem qxX(n:Int):E.kind (.bool n)=9:=rfl
@[simp] theorem qyy(n:Int):E.num (.bool n)=n:=rfl
@[simp] theorem qyz(n:Int):E.str (.bool n)=⟨#[]⟩:=rfl
@[simp] theorem qxY(n:Int):E.kids (.bool n) = .lit (.slice none 0 0):=rfl
@[simp] theorem qzX(n:Int):E.ty (.bool n)=2:=rfl
@[simp] theorem qyA(s:ByteArray):E.kind (.var s)=10:=rfl
@[simp] theorem qzY(s:ByteArray):E.num (.var s)=0:=rfl
@[simp] theorem qzZ(s:ByteArray):E.str (.var s)=s:=rfl
@[simp] theorem qyB(s:ByteArray):E.kids (.var s) = .lit (.slice none 0 0):=rfl
@[simp] theorem qAm(s:ByteArray):E.ty (.var s)=1:=rfl
@[simp] theorem qxZ(s:ByteArray):E.kind (.name s)=12:=rfl
@[simp] theorem qyC(s:ByteArray):E.num (.name s)=0:=rfl
@[simp] theorem qyD(s:ByteArray):E.str (.name s)=s:=rfl
@[simp] theorem qx0(s:ByteArray):E.kids (.name s) = .lit (.slice none 0 0):=rfl
@[simp] theorem qz0(s:ByteArray):E.ty (.name s)=1:=rfl
@[simp] theorem qjD(f:Bool)(s:ByteArray)(e:E):E.kind (.field f s e)=11:=rfl
@[simp] theorem qlz(f:Bool)(s:ByteArray)(e:E):E.num (.field f s e)=0:=rfl
@[simp] theorem qlA(f:Bool)(s:ByteArray)(e:E):E.str (.field f s e)=s:=rfl
@[simp] theorem qg4(f:Bool)(s:ByteArray)(e:E):E.kids (.field f s e) = .sl [.lit (.int .i64 e.kind),.lit (.int .i64 e.num),.lit (.string e.str),e.kids] 1 f:=rfl
@[simp] theorem qyE(f:Bool)(s:ByteArray)(e:E):E.ty (.field f s e)=if e.ty=1 then 1 else 0:=rfl
@[simp] theorem qfc(f:Bool)(neg:Bool)(e:E):E.kind (.un f neg e)=13:=rfl
@[simp] theorem qht(f:Bool)(neg:Bool)(e:E):E.num (.un f neg e)=0:=rfl
@[simp] theorem qhu(f:Bool)(neg:Bool)(e:E):E.str (.un f neg e)=ustr neg:=rfl
@[simp] theorem qeD(f:Bool)(neg:Bool)(e:E):E.kids (.un f neg e) = .sl [.lit (.int .i64 e.kind),.lit (.int .i64 e.num),.lit (.string e.str),e.kids] 1 f:=rfl
@[simp] theorem qAG(f:Bool)(neg:Bool)(e:E):E.ty (.un f neg e)=if e.ty=(if neg then 1 else 2) then (if neg then 1 else 2) else 0:=rfl
@[simp] theorem qdU(f:Bool)(o:Bop)(a b:E):E.kind (.bin f o a b)=14:=rfl
@[simp] theorem qfd(f:Bool)(o:Bop)(a b:E):E.num (.bin f o a b)=0:=rfl
@[simp] theorem qfe(f:Bool)(o:Bop)(a b:E):E.str (.bin f o a b)=o.str:=rfl
@[simp] theorem qdr(f:Bool)(o:Bop)(a b:E):E.kids (.bin f o a b) = .sl [.lit (.int .i64 a.kind),.lit (.int .i64 a.num),.lit (.string a.str),a.kids,.lit (.int .i64 b.kind),.lit (.int .i64 b.num),.lit (.string b.str),b.kids] 2 f:=rfl
@[simp] theorem qAn(f:Bool)(o:Bop)(a b:E):E.ty (.bin f o a b)=if a.ty=o.opd/\b.ty=o.opd then o.res else 0:=rfl
def kd(f:Bool):Nat->List D->D
 |0,_ => .lit (.slice none 0 0)
 |n+1,cs => .sl cs (n+1) f
@[simp] theorem qlB(f:Bool)(n:Nat)(cs:List D):V.one (.dat (kd f n cs))=true:=by cases n<;>rfl
@[simp] theorem qyF(f:Bool)(n:Nat)(cs:List D):V.cells (.dat (kd f n cs))=[.dat (kd f n cs)]:=by cases n<;>rfl
@[simp] theorem qAo(σ : S)(f:Bool)(n:Nat)(cs:List D):V.len σ .sl (.dat (kd f n cs))=some n:=by cases n<;>simp[kd,V.len]
@[simp] theorem qyG(f:Bool)(cs:List D):kd f 0 cs = .lit (.slice none 0 0):=rfl
@[simp] theorem qlC(f:Bool)(n:Nat)(cs:List D):kd f (n+1) cs = .sl cs (n+1) f:=rfl
inductive Fo where
 |nil
 |cons (k n:Int) (s:ByteArray) (f:Bool) (kids rest:Fo)
def Fo.len:Fo->Nat
 |.nil=>0
 |.cons _ _ _ _ _ r=>r.len+1
def Fo.cells:Fo->List D
 |.nil=>[]
 |.cons k n s f ks r => .lit (.int .i64 k) :: .lit (.int .i64 n) :: .lit (.string s)::kd f ks.len ks.cells::r.cells
def Fo.app:Fo->Fo->Fo
 |.nil,b=>b
 |.cons k n s f ks r,b => .cons k n s f ks (r.app b)
def Fo.size:Fo->Nat
 |.nil=>0
 |.cons _ _ _ _ ks r=>ks.size+r.size+1
@[simp] theorem qby:Fo.len .nil=0:=rfl
@[simp] theorem qbp(k n:Int)(s:ByteArray)(f:Bool)(ks r:Fo):(Fo.cons k n s f ks r).len=r.len+1:=rfl
@[simp] theorem qa8:Fo.cells .nil=[]:=rfl
@[simp] theorem qaY(k n:Int)(s:ByteArray)(f:Bool)(ks r:Fo):(Fo.cons k n s f ks r).cells = .lit (.int .i64 k) :: .lit (.int .i64 n) :: .lit (.string s)::kd f ks.len ks.cells::r.cells:=rfl
@[simp] theorem qaT:Fo.size .nil=0:=rfl
@[simp] theorem qap(k n:Int)(s:ByteArray)(f:Bool)(ks r:Fo):(Fo.cons k n s f ks r).size=ks.size+r.size+1:=rfl
@[simp] theorem qv4(b:Fo):Fo.app .nil b=b:=rfl
@[simp] theorem qvt(k n:Int)(s:ByteArray)(f:Bool)(ks r b:Fo):(Fo.cons k n s f ks r).app b = .cons k n s f ks (r.app b):=rfl
theorem qdy(a b:Fo):(a.app b).len=a.len+b.len:=by induction a with
 |nil=>simp
 |cons k n s f ks r _ ih=>simp[ih]; omega
theorem qhv(a b:Fo):(a.app b).cells=a.cells++b.cells:=by induction a with
 |nil=>simp
 |cons k n s f ks r _ ih=>simp[ih]
theorem qiD(a b:Fo):(a.app b).size=a.size+b.size:=by induction a with
 |nil=>simp
 |cons k n s f ks r _ ih=>simp[ih]; omega
theorem qhw(a:Fo):a.cells.length=a.len*4:=by induction a with
 |nil=>simp
 |cons k n s f ks r _ ih=>simp[ih]; omega
theorem qdL(a:Fo):a.len<=a.size:=by induction a with
 |nil=>simp
 |cons k n s f ks r _ ih=>simp; omega
abbrev nd(k n:Int)(s:ByteArray)(f:Bool)(ks:Fo):V := .dat (.agg [.lit (.int .i64 k),.lit (.int .i64 n),.lit (.string s),kd f ks.len ks.cells])
def Fo.hk:Fo->Int
 |.nil=>0
 |.cons k _ _ _ _ _=>k
def Fo.hn:Fo->Int
 |.nil=>0
 |.cons _ n _ _ _ _=>n
def Fo.hs:Fo->ByteArray
 |.nil=>⟨#[]⟩
 |.cons _ _ s _ _ _=>s
def Fo.hf:Fo->Bool
 |.nil=>false
 |.cons _ _ _ f _ _=>f
def Fo.hks:Fo->Fo
 |.nil => .nil
 |.cons _ _ _ _ ks _=>ks
def Fo.tl:Fo->Fo
 |.nil => .nil
 |.cons _ _ _ _ _ r=>r
abbrev Fo.hd(a:Fo):V:=nd a.hk a.hn a.hs a.hf a.hks
def E.flag:E->Bool
 |.field f _ _=>f | .un f _ _=>f | .bin f _ _ _=>f|_=>false
def E.fo:E->Fo->Fo
 |.int n,r => .cons 8 n ⟨#[]⟩ false .nil r
 |.bool n,r => .cons 9 n ⟨#[]⟩ false .nil r
 |.var s,r => .cons 10 0 s false .nil r
 |.name s,r => .cons 12 0 s false .nil r
 |.field f s e,r => .cons 11 0 s f (e.fo .nil) r
 |.un f neg e,r => .cons 13 0 (ustr neg) f (e.fo .nil) r
 |.bin f o a b,r => .cons 14 0 o.str f (a.fo (b.fo .nil)) r
def E.kfo:E->Fo
 |.field _ _ e=>e.fo .nil | .un _ _ e=>e.fo .nil | .bin _ _ a b=>a.fo (b.fo .nil) | _ => .nil
theorem qiE(e:E)(r:Fo):e.fo r = .cons e.kind e.num e.str e.flag e.kfo r:=by cases e<;>rfl
theorem qqo(e:E):e.kids=kd e.flag e.kfo.len e.kfo.cells:=by
 induction e with
 |field f s e ih=>
  show (E.field f s e).kids=kd f (e.fo .nil).len (e.fo .nil).cells
  rw[qiE]
  simp only[qg4,qbp,qby,qlC,qaY,qa8,<- ih]
 |un f neg e ih=>
  show (E.un f neg e).kids=kd f (e.fo .nil).len (e.fo .nil).cells
  rw[qiE]
  simp only[qeD,qbp,qby,qlC,qaY,qa8,<- ih]
 |bin f o a b iha ihb=>
  show (E.bin f o a b).kids=kd f (a.fo (b.fo .nil)).len (a.fo (b.fo .nil)).cells
  rw[qiE,qiE]
  simp only[qdr,qbp,qby,qlC,qaY,qa8,<- iha,<- ihb]
 |_=>rfl
theorem qcF(e:E)(r:Fo):(e.fo r).size=e.size+r.size:=by
 induction e generalizing r<;>simp only[E.fo,E.size,qap,qaT, *]<;>omega
@[simp] theorem qAH(e:E)(r:Fo):(e.fo r).tl=r:=by rw[qiE]; rfl
inductive Ss where
 |nil
 |assign (f:Bool) (s:ByteArray) (e:E) (r:Ss)
 |store (f:Bool) (s:ByteArray) (a b:E) (r:Ss)
 |effect (f:Bool) (a b:E) (r:Ss)
 |stop (r:Ss)
 |cond (w:Bool) (f:Bool) (c:E) (b:Ss) (r:Ss)
 |block (f:Bool) (b:Ss) (r:Ss)
def qkF:ByteArray:=⟨#[104,105,116]⟩
def qta:ByteArray:=⟨#[115,116,105,108,108]⟩
def Ss.well:Ss->Bool
 |.nil=>true
 |.assign _ _ e r=>decide (e.ty=1)&&r.well
 |.store _ s a b r=>(!(eqS s qkF||eqS s qta)&&(decide (a.ty=1)&&decide (b.ty=1)))&&r.well
 |.effect _ a b r=>(decide (a.ty=1)&&decide (b.ty=1))&&r.well
 |.stop r=>r.well
 |.cond _ _ c b r=>(decide (c.ty=2)&&b.well)&&r.well
 |.block _ b r=>b.well&&r.well
def Ss.ok:Ss->Prop
 |.nil=>True
 |.assign _ s e r=>s.size<=100/\e.ok/\r.ok
 |.store _ _ a b r=>a.ok/\b.ok/\r.ok
 |.effect _ a b r=>a.ok/\b.ok/\r.ok
 |.stop r=>r.ok
 |.cond _ _ c b r=>c.ok/\b.ok/\r.ok
 |.block _ b r=>b.ok/\r.ok
def Ss.fo:Ss->Fo
 |.nil => .nil
 |.assign f s e r => .cons 1 0 s f (e.fo .nil) r.fo
 |.store f s a b r => .cons 2 0 s f (a.fo (b.fo .nil)) r.fo
 |.effect f a b r => .cons 5 0 ⟨#[]⟩ f (a.fo (b.fo .nil)) r.fo
 |.stop r => .cons 6 0 ⟨#[]⟩ false .nil r.fo
 |.cond w f c b r => .cons (if w then 4 else 3) 0 ⟨#[]⟩ f (c.fo b.fo) r.fo
 |.block f b r => .cons 7 0 ⟨#[]⟩ f b.fo r.fo
theorem qyH{cs r:List D}{o:Nat}{a b c d:D}(h:cs.drop o=a::b::c::d::r):cutCells cs o 4=some [a,b,c,d]:=by
 unfold cutCells
 rw[h]
 simp
@[simp] theorem qAI(e:E)(r:Fo):(e.fo r).hk=e.kind:=by rw[qiE]; rfl
@[simp] theorem qAJ(e:E)(r:Fo):(e.fo r).hn=e.num:=by rw[qiE]; rfl
@[simp] theorem qAK(e:E)(r:Fo):(e.fo r).hs=e.str:=by rw[qiE]; rfl
@[simp] theorem qAp(e:E)(r:Fo):kd (e.fo r).hf (e.fo r).hks.len (e.fo r).hks.cells=e.kids:=by rw[qiE,qqo]; rfl
@[simp] theorem qlD(e:E)(r:Fo):(e.fo r).len=r.len+1:=by rw[qiE]; rfl
@[simp] theorem qgG(e:E)(r:Fo):(e.fo r).cells = .lit (.int .i64 e.kind) :: .lit (.int .i64 e.num) :: .lit (.string e.str)::e.kids::r.cells:=by rw[qiE,qqo]; rfl
@[simp] theorem qAq:Fo.hk .nil=0:=rfl
@[simp] theorem qAr:Fo.hn .nil=0:=rfl
@[simp] theorem qAs:Fo.hs .nil=⟨#[]⟩:=rfl
@[simp] theorem qAt:Fo.hf .nil=false:=rfl
@[simp] theorem qz1:Fo.hks .nil = .nil:=rfl
def strC(ss:List ByteArray):List D:=ss.map fun s => .lit (.string s)
theorem qgH(ss:List ByteArray)(i:Nat)(h:i<ss.length):cutCells (strC ss) i 1=some [.lit (.string ss[i])]:=by
 unfold cutCells strC
 rw[WK (by simpa using h)]
 simp
theorem qbh(a b:ByteArray):eqS a b=decide (a=b):=by
 rw[Bool.eq_iff_iff]
 simp only[eqS,beq_iff_eq,decide_eq_true_eq,ByteArray.toList_eq]
 exact⟨fun h=>by cases a; cases b; simp only[Array.toList_inj] at h; rw[h],fun h=>by rw[h]⟩
instance:LawfulBEq ByteArray where
 eq_of_beq h:=by rw[qeg] at h; exact of_decide_eq_true h
 rfl:=by intro a; rw[qeg]; exact decide_eq_true rfl
def qnz:List ByteArray->D
 |[] => .lit (.slice none 0 0)
 |s::l => .sl (strC (s::l)) (l.length+1) false
@[simp] theorem qyI(l:List ByteArray):V.one (.dat (qnz l))=true:=by cases l<;>rfl
@[simp] theorem qv5(l:List ByteArray):V.cells (.dat (qnz l))=[.dat (qnz l)]:=by cases l<;>rfl
@[simp] theorem qyJ(σ : S)(l:List ByteArray):V.len σ .sl (.dat (qnz l))=some l.length:=by cases l<;>simp[qnz,V.len]
@[simp] theorem qyK(l:List ByteArray):(strC l).length=l.length:=by simp[strC]
def Fo.vars:Fo->List ByteArray
 |.nil=>[]
 |.cons k _ s _ ks r=>(if k=1\/k=10 then [s] else [])++(ks.vars++r.vars)
def qqp(l:List ByteArray)(s:ByteArray):List ByteArray:=if s∈l then l else l++[s]
def addAll(l:List ByteArray)(xs:List ByteArray):List ByteArray:=xs.foldl qqp l
theorem qcU(l a b:List ByteArray):addAll l (a++b)=addAll (addAll l a) b:=by simp[addAll,List.foldl_append]
theorem qsb(l:List ByteArray)(s:ByteArray):l.length<=(qqp l s).length/\(qqp l s).length<=l.length+1:=by
 unfold qqp
 split<;>simp
theorem qcz(xs:List ByteArray) : ∀ l,l.length<=(addAll l xs).length/\(addAll l xs).length<=l.length+xs.length:=by
 induction xs with
 |nil=>intro l; simp[addAll]
 |cons x xs ih=>
  intro l
  have:=ih (qqp l x)
  have h2:=qsb l x
  simp only[addAll,W6,We] at this ⊢
  omega
theorem qhT(a:Fo):a.vars.length<=a.size:=by
 induction a with
 |nil=>simp[Fo.vars]
 |cons k n s f ks r ih1 ih2=>
  simp only[Fo.vars,Wc,qap]
  split<;>simp<;>omega
theorem qcr{cs r:List D}{i:Nat}{a b c d:D}(h:cs.drop (i*4)=a::b::c::d::r):cs.drop ((i+1)*4)=r:=by
 rw[show (i+1)*4=i*4+4 by omega,<- List.drop_drop,h]
 rfl
theorem qjE{b:Ss}(hb:b.fo.len=0):b = .nil:=by cases b<;>simp[Ss.fo] at hb; rfl
theorem qvu{l:List ByteArray}(h:l≠[]):qnz l = .sl (strC l) l.length false:=by
 cases l with
 |nil=>exact absurd rfl h
 |cons s l=>rfl
theorem qnA(s:ByteArray):strC [s]=[.lit (.string s)]:=rfl
theorem qsc(a b:List ByteArray):strC (a++b)=strC a++strC b:=by simp[strC]
structure Nd where
 k:Int
 n:Int
 s:ByteArray
 f:Bool
 ks:Fo
abbrev Nd.v(a:Nd):V:=nd a.k a.n a.s a.f a.ks
def Nd.vars(a:Nd):List ByteArray:=(if a.k=1\/a.k=10 then [a.s] else [])++a.ks.vars
abbrev Nd.d(a:Nd):D:=kd a.f a.ks.len a.ks.cells
theorem qeE(a:Nd):a.vars.length<=a.ks.size+1:=by
 have h:=qhT a.ks
 unfold Nd.vars
 rw[Wc]
 split<;>simp<;>omega
abbrev ru(a b c:Nd):D := .agg [.lit (.int .i64 a.k),.lit (.int .i64 a.n),.lit (.string a.s),a.d,.lit (.int .i64 b.k),.lit (.int .i64 b.n),.lit (.string b.s),b.d,.lit (.int .i64 c.k),.lit (.int .i64 c.n),.lit (.string c.s),c.d]
def rvars(a b c:Nd):List ByteArray:=addAll [] (a.vars++(b.vars++c.vars))
inductive Hd where
 |none
 |some (f:Bool) (b:Ss)
def Hd.k:Hd->Int
 |.none=>0
 |.some _ _=>7
def Hd.f:Hd->Bool
 |.none=>false
 |.some f _=>f
def Hd.ks:Hd->Fo
 |.none => .nil
 |.some _ b=>b.fo
def Hd.nd(h:Hd):Nd:=⟨h.k,0,⟨#[]⟩,h.f,h.ks⟩
@[simp] theorem qyL(h:Hd):h.nd.k=h.k:=rfl
@[simp] theorem qz2(h:Hd):h.nd.n=0:=rfl
@[simp] theorem qyM(h:Hd):h.nd.s=⟨#[]⟩:=rfl
@[simp] theorem qz3(h:Hd):h.nd.f=h.f:=rfl
@[simp] theorem qqq(h:Hd):h.nd.ks=h.ks:=rfl
def Hd.well:Hd->Bool
 |.none=>true
 |.some _ b=>b.well
abbrev qkG(a b c:Nd):Ob := .cells [.int a.k,.int a.n,.str a.s,.dat a.d,.int b.k,.int b.n,.str b.s,.dat b.d,.int c.k,.int c.n,.str c.s,.dat c.d]
def Ss.app:Ss->Ss->Ss
 |.nil,b=>b
 |.assign f s e r,b => .assign f s e (r.app b)
 |.store f s x y r,b => .store f s x y (r.app b)
 |.effect f x y r,b => .effect f x y (r.app b)
 |.stop r,b => .stop (r.app b)
 |.cond w f c q r,b => .cond w f c q (r.app b)
 |.block f q r,b => .block f q (r.app b)
theorem qiF(a b:Ss):(a.app b).fo=a.fo.app b.fo:=by
 induction a<;>simp_all [Ss.app,Ss.fo]
theorem qqr(a b c:Fo):(a.app b).app c=a.app (b.app c):=by
 induction a<;>simp_all
theorem qvv(a:Fo):a.app .nil=a:=by
 induction a<;>simp_all
end
end Go.Pm
section
namespace Go.Pm.Gr
abbrev Cd:=List (Int × Int)
def qfF(op:Int):Int:=if op=3\/op=4\/op=13\/op=17\/op=19 then 1 else if op=5\/op=9\/op=10\/op=11\/op=12\/op=14\/op=15\/op=16\/op=20 then 2 else 0
def qed(op:Int):Int:=if op=3\/op=5\/op=18\/op=19\/op=20\/op=21 then 0 else 1
theorem qmT(op:Int):0<=qfF op/\qfF op<=2:=by unfold qfF; split<;>(try split)<;>omega
theorem qgk(op:Int):0<=qed op/\qed op<=1:=by unfold qed; split<;>omega
def opA(c:Cd)(i:Nat):Int:=(c.getD i (0,0)).1
def nA(c:Cd)(i:Nat):Int:=(c.getD i (0,0)).2
def qgI(c:Cd)(i:Nat):List Int:=if opA c i=21 then [] else if opA c i=18 then [nA c i] else if opA c i=19 then [(i:Int)+1,nA c i] else [(i:Int)+1]
def qvZ(c:Cd):Prop := ∀ i,i<c.length -> ∀ j∈qgI c i,0<=j/\j<=c.length
def aft(c:Cd)(i:Nat)(d:Int):Int:=d+(qed (opA c i)-qfF (opA c i))
inductive Reach(c:Cd)(e:Nat):Nat->Prop
 |here:Reach c e e
 |go {i j:Nat}:Reach c e i->i<c.length->(j:Int)∈qgI c i->j<c.length->Reach c e j
theorem Reach.lt{c:Cd}{e i:Nat}(he:e<c.length)(h:Reach c e i):i<c.length:=by
 cases h with
 |here=>exact he
 |go _ _ _ h=>exact h
structure CF(c:Cd)(e:Nat)(D:Nat->Int):Prop where
 zero:D e=0
 pops : ∀ i,Reach c e i->qfF (opA c i)<=D i
 step : ∀ i,Reach c e i -> ∀ j:Nat,(j:Int)∈qgI c i->j<c.length->D j=aft c i (D i)
def qtC(c:Cd)(e:Nat):Prop := ∃ i,Reach c e i/\(c.length:Int)∈qgI c i
structure Most(c:Cd)(e:Nat)(D:Nat->Int)(m:Int):Prop where
 nonneg:0<=m
 le : ∀ i,Reach c e i->aft c i (D i)<=m
 at_:m=0 \/ ∃ i,Reach c e i/\m=aft c i (D i)
theorem Most.unique{c:Cd}{e:Nat}{D:Nat->Int}{m m':Int}(h:Most c e D m)(h':Most c e D m'):m=m':=by
 have a:m<=m':=by
  rcases h.at_ with h0|⟨i,hi,h0⟩
  ·have:=h'.nonneg; omega
  ·have:=h'.le i hi; omega
 have b:m'<=m:=by
  rcases h'.at_ with h0|⟨i,hi,h0⟩
  ·have:=h.nonneg; omega
  ·have:=h.le i hi; omega
 omega
theorem CF.unique{c:Cd}{e:Nat}{D D':Nat->Int}(h:CF c e D)(h':CF c e D'){i:Nat}(hi:Reach c e i):D i=D' i:=by
 induction hi with
 |here=>rw[h.zero,h'.zero]
 |go hi hl hj hjl ih=>rw[h.step _ hi _ hj hjl,h'.step _ hi _ hj hjl,ih]
theorem Most.of_eq{c:Cd}{e:Nat}{D D':Nat->Int}{m:Int}(h:CF c e D)(h':CF c e D')(hm:Most c e D m):Most c e D' m:=by
 refine⟨hm.nonneg,fun i hi=>?_,?_⟩
 ·rw[<- CF.unique h h' hi]; exact hm.le i hi
 ·rcases hm.at_ with h0|⟨i,hi,h0⟩
  ·exact .inl h0
  ·exact .inr ⟨i,hi,by rw[<- CF.unique h h' hi]; exact h0⟩
structure An where
 falls:Bool
 breaks:Bool
 depth:Int
 ds:List Int
 op:List Nat
def gD(l:List Int)(i:Nat):Int:=l.getD i 0
def one(n:Nat)(d:Int)(a:An)(j:Int):An:=
 if j=n then { a with falls:=true }
 else if gD a.ds j.toNat=0 then { a with ds:=a.ds.set j.toNat (max d 0+1),op:=a.op++[j.toNat] }
 else if gD a.ds j.toNat≠d+1 then { a with breaks:=true }
 else a
def stp(c:Cd)(a:An)(i:Nat)(r:List Nat):An:=
 let d:=gD a.ds i-1
 let d':=aft c i d
 (qgI c i).foldl (one c.length d') { a with breaks:=a.breaks||decide (d<qfF (opA c i)),depth:=max a.depth d',op:=r }
theorem qgl{l:List Int}{i:Nat}{v:Int}(h:i<l.length):gD (l.set i v) i=v:=by
 simp[gD,Wx,h]
theorem qgm{l:List Int}{i j:Nat}{v:Int}(h:i≠j):gD (l.set i v) j=gD l j:=by
 simp only[gD,Wx]
 rw[Wv h]
structure Inv(c:Cd)(e:Nat)(cur:Option Nat)(pre:List Int)(a:An):Prop where
 len:a.ds.length=c.length
 nodup:a.op.Nodup
 opn : ∀ i∈a.op,i<c.length/\gD a.ds i≠0
 pos : ∀ i,i<c.length->gD a.ds i≠0->1<=gD a.ds i/\Reach c e i
 ent:gD a.ds e=1
 cur_ : ∀ i,cur=some i->i<c.length/\gD a.ds i≠0/\i∉a.op
 done : ∀ i,i<c.length->gD a.ds i≠0->i∉a.op -> ∀ j∈(if cur=some i then pre else qgI c i),(j=c.length->a.falls=true)/\(j<c.length->gD a.ds j.toNat≠0)
 fal:a.falls=true->qtC c e
 brk:a.breaks=false -> ∀ i,i<c.length->gD a.ds i≠0->i∉a.op->qfF (opA c i)<=gD a.ds i-1 /\ ∀ j∈(if cur=some i then pre else qgI c i),j<c.length->gD a.ds j.toNat=aft c i (gD a.ds i-1)+1
 cf : ∀ D,CF c e D->a.breaks=false /\ ∀ i,i<c.length->gD a.ds i≠0->gD a.ds i=D i+1
 dle:0<=a.depth /\ ∀ i,i<c.length->gD a.ds i≠0->i∉a.op->aft c i (gD a.ds i-1)<=a.depth
 dat:a.depth=0 \/ ∃ i,i<c.length/\gD a.ds i≠0/\i∉a.op/\a.depth=aft c i (gD a.ds i-1)
theorem qtD {c:Cd} {e i:Nat} {pre:List Int} {j:Int} {a:An} (h:Inv c e (some i) pre a) (hs:j∈qgI c i) (hj:0<=j/\j<=c.length) :
  Inv c e (some i) (pre++[j]) (one c.length (aft c i (gD a.ds i-1)) a j)/\gD (one c.length (aft c i (gD a.ds i-1)) a j).ds i=gD a.ds i:=by
 obtain⟨hi1,hi2,hi3⟩:=h.cur_ i rfl
 obtain⟨hp1,hp2⟩:=h.pos i hi1 hi2
 unfold one
 by_cases hn:j=c.length
 ·rw[if_pos hn]
  refine⟨⟨h.len,h.nodup,h.opn,h.pos,h.ent,h.cur_,?_,fun _=>⟨i,hp2,by rw[<- hn]; exact hs⟩,?_,h.cf,h.dle,h.dat⟩,rfl⟩
  ·intro k k1 k2 k3 x hx
   have:=h.done k k1 k2 k3
   by_cases hk:some i=some k
   ·rw[if_pos hk] at hx this
    rcases Wr.1 hx with hx|hx
    ·exact⟨fun _=>rfl,(this x hx).2⟩
    ·simp only[Wg] at hx
     exact⟨fun _=>rfl,fun hl=>by omega⟩
   ·rw[if_neg hk] at hx this
    exact⟨fun _=>rfl,(this x hx).2⟩
  ·intro hb k k1 k2 k3
   have:=h.brk hb k k1 k2 k3
   refine⟨this.1,fun x hx hl=>?_⟩
   by_cases hk:some i=some k
   ·rw[if_pos hk] at hx
    rw[if_pos hk] at this
    rcases Wr.1 hx with hx|hx
    ·exact this.2 x hx hl
    ·simp only[Wg] at hx; omega
   ·rw[if_neg hk] at hx this
    exact this.2 x hx hl
 ·rw[if_neg hn]
  have hjl:j.toNat<c.length:=by omega
  have hjs:((j.toNat:Nat):Int)∈qgI c i:=by rw[show ((j.toNat:Nat):Int)=j by omega]; exact hs
  have hjr:Reach c e j.toNat:=Reach.go hp2 hi1 hjs hjl
  by_cases h0:gD a.ds j.toNat=0
  ·rw[if_pos h0]
   have hij:j.toNat≠i:=fun hh=>hi2 (by rw[<- hh]; exact h0)
   have hjo:j.toNat∉a.op:=fun hh=>(h.opn _ hh).2 h0
   have hnew:gD (a.ds.set j.toNat (max (aft c i (gD a.ds i-1)) 0+1)) j.toNat=max (aft c i (gD a.ds i-1)) 0+1:=qgl (by rw[h.len]; exact hjl)
   have hold : ∀ k,k≠j.toNat->gD (a.ds.set j.toNat (max (aft c i (gD a.ds i-1)) 0+1)) k=gD a.ds k:=fun k hk=>qgm (Yd hk)
   have hge : ∀ k,gD a.ds k≠0->gD (a.ds.set j.toNat (max (aft c i (gD a.ds i-1)) 0+1)) k=gD a.ds k:=fun k hk=>hold k (fun hh=>hk (by rw[hh]; exact h0))
   generalize hV:a.ds.set j.toNat (max (aft c i (gD a.ds i-1)) 0+1)=V at *
   have back : ∀ k,gD V k≠0->k∉a.op++[j.toNat]->gD a.ds k≠0/\k∉a.op/\gD V k=gD a.ds k:=fun k k2 k3=>by
    have hk:k≠j.toNat:=fun hh=>k3 (by rw[hh]; simp)
    rw[hold k hk] at k2
    exact⟨k2,fun hh=>k3 (by simp[hh]),hold k hk⟩
   refine⟨⟨by simp only; rw[<- hV]; simp[h.len],?_,?_,?_,?_,?_,?_,h.fal,?_,?_,?_,?_⟩,hold i (Ne.symm hij)⟩
   ·simp only
    rw[List.nodup_append]
    exact⟨h.nodup,by simp,fun x hx y hy=>by simp only[List.mem_singleton] at hy; rw[hy]; exact fun hh=>hjo (by rw[<- hh]; exact hx)⟩
   ·intro k hk
    simp only at hk ⊢
    rcases Wr.1 hk with hk|hk
    ·have:=h.opn k hk
     exact⟨this.1,by rw[hge k this.2]; exact this.2⟩
    ·simp only[Wg] at hk
     rw[hk,hnew]
     exact⟨hjl,by omega⟩
   ·intro k k1 k2
    simp only at k2 ⊢
    by_cases hk:k=j.toNat
    ·rw[hk,hnew]; exact⟨by omega,hjr⟩
    ·rw[hold k hk] at k2 ⊢; exact h.pos k k1 k2
   ·simp only; rw[hge e (by rw[h.ent]; omega)]; exact h.ent
   ·intro k hk
    have:=h.cur_ k hk
    simp only
    refine⟨this.1,by rw[hge k this.2.1]; exact this.2.1,?_⟩
    rw[Wr,not_or]
    refine⟨this.2.2,?_⟩
    simp only[Wg]
    intro hh
    exact this.2.1 (by rw[hh]; exact h0)
   ·intro k k1 k2 k3 x hx
    simp only at k2 k3 ⊢
    obtain⟨b1,b2,b3⟩:=back k k2 k3
    have:=h.done k k1 b1 b2
    by_cases hk:some i=some k
    ·rw[if_pos hk] at hx this
     rcases Wr.1 hx with hx|hx
     ·exact⟨(this x hx).1,fun hl=>by rw[hge _ ((this x hx).2 hl)]; exact (this x hx).2 hl⟩
     ·simp only[Wg] at hx
      exact⟨fun hh=>absurd (hx ▸ hh) hn,fun _=>by rw[hx,hnew]; omega⟩
    ·rw[if_neg hk] at hx this
     exact⟨(this x hx).1,fun hl=>by rw[hge _ ((this x hx).2 hl)]; exact (this x hx).2 hl⟩
   ·intro hb k k1 k2 k3
    simp only at hb k2 k3 ⊢
    obtain⟨b1,b2,b3⟩:=back k k2 k3
    have hbr:=h.brk hb k k1 b1 b2
    have hdo:=h.done k k1 b1 b2
    rw[b3]
    refine⟨hbr.1,fun x hx hl=>?_⟩
    by_cases hk:some i=some k
    ·rw[if_pos hk] at hx hbr hdo
     rcases Wr.1 hx with hx|hx
     ·rw[hge _ ((hdo x hx).2 hl)]; exact hbr.2 x hx hl
     ·simp only[Wg] at hx
      have hik:i=k:=WC hk
      subst hik
      have:=qgk (opA c i)
      rw[hx,hnew]
      have hh:=hbr.1
      unfold aft
      omega
    ·rw[if_neg hk] at hx hbr hdo
     rw[hge _ ((hdo x hx).2 hl)]; exact hbr.2 x hx hl
   ·intro D hD
    obtain⟨c1,c2⟩:=h.cf D hD
    refine⟨c1,fun k k1 k2=>?_⟩
    simp only at k2 ⊢
    by_cases hk:k=j.toNat
    ·rw[hk,hnew,hD.step i hp2 j.toNat hjs hjl]
     have hDi:gD a.ds i=D i+1:=c2 i hi1 hi2
     rw[show gD a.ds i-1=D i by omega]
     have:=hD.pops i hp2
     have:=qgk (opA c i)
     unfold aft
     omega
    ·rw[hold k hk] at k2 ⊢; exact c2 k k1 k2
   ·refine⟨h.dle.1,fun k k1 k2 k3=>?_⟩
    simp only at k2 k3 ⊢
    obtain⟨b1,b2,b3⟩:=back k k2 k3
    rw[b3]; exact h.dle.2 k k1 b1 b2
   ·rcases h.dat with hd|⟨k,k1,k2,k3,k4⟩
    ·exact .inl hd
    ·refine .inr ⟨k,k1,by simp only; rw[hge k k2]; exact k2,?_,by simp only; rw[hge k k2]; exact k4⟩
     simp only
     rw[Wr,not_or]
     refine⟨k3,?_⟩
     simp only[Wg]
     intro hh
     exact k2 (by rw[hh]; exact h0)
  ·rw[if_neg h0]
   by_cases hd:gD a.ds j.toNat≠aft c i (gD a.ds i-1)+1
   ·rw[if_pos hd]
    refine⟨⟨h.len,h.nodup,h.opn,h.pos,h.ent,h.cur_,?_,h.fal,fun hb=>by simp at hb,?_,h.dle,h.dat⟩,rfl⟩
    ·intro k k1 k2 k3 x hx
     have:=h.done k k1 k2 k3
     by_cases hk:some i=some k
     ·rw[if_pos hk] at hx this
      rcases Wr.1 hx with hx|hx
      ·exact this x hx
      ·simp only[Wg] at hx
       exact⟨fun hh=>absurd (hx ▸ hh) hn,fun _=>by rw[hx]; exact h0⟩
     ·rw[if_neg hk] at hx this
      exact this x hx
    ·intro D hD
     exfalso
     obtain⟨c1,c2⟩:=h.cf D hD
     apply hd
     rw[c2 j.toNat hjl h0,hD.step i hp2 j.toNat hjs hjl,c2 i hi1 hi2,show D i+1-1=D i by omega]
   ·rw[if_neg hd]
    have hd':gD a.ds j.toNat=aft c i (gD a.ds i-1)+1:=by omega
    refine⟨⟨h.len,h.nodup,h.opn,h.pos,h.ent,h.cur_,?_,h.fal,?_,h.cf,h.dle,h.dat⟩,rfl⟩
    ·intro k k1 k2 k3 x hx
     have:=h.done k k1 k2 k3
     by_cases hk:some i=some k
     ·rw[if_pos hk] at hx this
      rcases Wr.1 hx with hx|hx
      ·exact this x hx
      ·simp only[Wg] at hx
       exact⟨fun hh=>absurd (hx ▸ hh) hn,fun _=>by rw[hx]; exact h0⟩
     ·rw[if_neg hk] at hx this
      exact this x hx
    ·intro hb k k1 k2 k3
     have:=h.brk hb k k1 k2 k3
     refine⟨this.1,fun x hx hl=>?_⟩
     by_cases hk:some i=some k
     ·rw[if_pos hk] at hx
      rw[if_pos hk] at this
      rcases Wr.1 hx with hx|hx
      ·exact this.2 x hx hl
      ·simp only[Wg] at hx
       have hik:i=k:=WC hk
       subst hik
       rw[hx]; exact hd'
     ·rw[if_neg hk] at hx this
      exact this.2 x hx hl
end Go.Pm.Gr
end
namespace Go.Pm
section
open Gr
def ixI:List ByteArray->ByteArray->Int
 |[],_ => -1
 |x::l,s=>if x=s then 0 else if ixI l s<0 then -1 else ixI l s+1
def quH:List ByteArray:=[⟨#[120]⟩,⟨#[121]⟩,⟨#[118,120]⟩,⟨#[118,121]⟩,⟨#[97]⟩,⟨#[98]⟩,⟨#[104,105,116]⟩,⟨#[115,116,105,108,108]⟩]
def fieldI(s:ByteArray):Int:=ixI quH s
def nameI(s:ByteArray):Int:=if s=⟨#[115,101,108,102]⟩ then 6 else if s=⟨#[111,116,104,101,114]⟩ then 7 else 8
def opI:Bop->Int
 |.add=>9 | .sub=>10 | .mul=>11 | .div=>12
 |.lt=>14 | .gt=>14 | .le=>15 | .ge=>15
 |_=>16
def sq(a b:Int->Cd)(at_:Int):Cd:=a at_++b (at_+(a at_).length)
def brC(c a b:Int->Cd)(at_:Int):Cd:=
 c at_++((19,at_+(c at_).length+1+(a (at_+(c at_).length+1)).length+1)::(a (at_+(c at_).length+1) ++
  ((18,at_+(c at_).length+1+(a (at_+(c at_).length+1)).length+1+(b (at_+(c at_).length+1+(a (at_+(c at_).length+1)).length+1)).length) ::
    b (at_+(c at_).length+1+(a (at_+(c at_).length+1)).length+1))))
def whC(c a:Int->Cd)(at_:Int):Cd:=
 c at_++((19,at_+(c at_).length+1+(a (at_+(c at_).length+1)).length+1)::(a (at_+(c at_).length+1)++[(18,at_)]))
def snC(c:Int->Cd)(i:Int × Int)(at_:Int):Cd:=c at_++[i]
def binC(o:Bop)(a b:Int->Cd):Int->Cd:=
 match o with
 |.and=>brC a b (fun _=>[(1,0)])
 |.or=>brC a (fun _=>[(1,1)]) b
 |.gt=>snC (sq b a) (14,0)
 |.ge=>snC (sq b a) (15,0)
 |.ne=>snC (snC (sq a b) (16,0)) (17,0)
 |o=>snC (sq a b) (opI o,0)
def qc9(vs:List ByteArray):E->Int->Cd
 |.int n=>fun _=>[(1,n)]
 |.bool n=>fun _=>[(1,n)]
 |.var s=>fun _=>[(2,ixI vs s)]
 |.name s=>fun _=>[(nameI s,0)]
 |.field _ s e=>snC (qc9 vs e) (4,fieldI s)
 |.un _ neg e=>snC (qc9 vs e) (if neg then 13 else 17,0)
 |.bin _ o a b=>binC o (qc9 vs a) (qc9 vs b)
def codeS(vs:List ByteArray):Ss->Int->Cd
 |.nil=>fun _=>[]
 |.assign _ s e r=>sq (snC (qc9 vs e) (3,ixI vs s)) (codeS vs r)
 |.store _ s a b r=>sq (snC (sq (qc9 vs a) (qc9 vs b)) (5,fieldI s)) (codeS vs r)
 |.effect _ a b r=>sq (snC (sq (qc9 vs a) (qc9 vs b)) (20,0)) (codeS vs r)
 |.stop r=>sq (fun _=>[(21,0)]) (codeS vs r)
 |.cond false _ c (.block _ x (.block _ y .nil)) r=>sq (brC (qc9 vs c) (codeS vs x) (codeS vs y)) (codeS vs r)
 |.cond true _ c (.block _ x .nil) r=>sq (whC (qc9 vs c) (codeS vs x)) (codeS vs r)
 |_=>fun _=>[]
def Ln(C:Int->Cd)(n:Nat):Prop := ∀ p,(C p).length=n
theorem qbJ{a b:Int->Cd}{n m:Nat}(ha:Ln a n)(hb:Ln b m):Ln (sq a b) (n+m):=fun p=>by simp[sq,ha p,hb _]
theorem qcj{c:Int->Cd}{i:Int × Int}{n:Nat}(h:Ln c n):Ln (snC c i) (n+1):=fun p=>by simp[snC,h p]
theorem qmk{c a b:Int->Cd}{n m k:Nat}(hc:Ln c n)(ha:Ln a m)(hb:Ln b k):Ln (brC c a b) (n+m+k+2):=fun p=>by simp[brC,hc p,ha _,hb _]; omega
theorem quI{c a:Int->Cd}{n m:Nat}(hc:Ln c n)(ha:Ln a m):Ln (whC c a) (n+m+2):=fun p=>by simp[whC,hc p,ha _]; omega
theorem qxp{o:Bop}{a b:Int->Cd}{n m:Nat}(ha:Ln a n)(hb:Ln b m) : ∃ k,Ln (binC o a b) k/\n+m+1<=k/\k<=n+m+3/\0<k:=by
 cases o
 case and=>
  have h1:Ln (fun _=>[((1:Int),(0:Int))]) 1:=fun _=>rfl
  exact⟨_,qmk ha hb h1,by omega,by omega,by omega⟩
 case or=>
  have h1:Ln (fun _=>[((1:Int),(1:Int))]) 1:=fun _=>rfl
  exact⟨_,qmk ha h1 hb,by omega,by omega,by omega⟩
 case gt=>exact⟨_,qcj (qbJ hb ha),by omega,by omega,by omega⟩
 case ge=>exact⟨_,qcj (qbJ hb ha),by omega,by omega,by omega⟩
 case ne=>exact⟨_,qcj (qcj (qbJ ha hb)),by omega,by omega,by omega⟩
 all_goals exact⟨_,qcj (qbJ ha hb),by omega,by omega,by omega⟩
theorem qpM(vs:List ByteArray) : ∀ e:E,∃ n,Ln (qc9 vs e) n/\0<n/\n<=4*e.size
 |.int _=>⟨1,fun _=>rfl,by omega,by simp⟩
 |.bool _=>⟨1,fun _=>rfl,by omega,by simp⟩
 |.var _=>⟨1,fun _=>rfl,by omega,by simp⟩
 |.name _=>⟨1,fun _=>rfl,by omega,by simp⟩
 |.field _ s e=>by
  obtain⟨n,h,h0,h1⟩:=qpM vs e
  exact⟨n+1,qcj h,by omega,by simp; omega⟩
 |.un _ neg e=>by
  obtain⟨n,h,h0,h1⟩:=qpM vs e
  exact⟨n+1,qcj h,by omega,by simp; omega⟩
 |.bin _ o a b=>by
  obtain⟨n,h,h0,h1⟩:=qpM vs a
  obtain⟨m,g,g0,g1⟩:=qpM vs b
  obtain⟨k,k1,k2,k3,k4⟩:=qxp (o:=o) h g
  exact⟨k,k1,k4,by simp; omega⟩
theorem qzI(vs:List ByteArray)(b:Ss) : ∃ n,Ln (codeS vs b) n/\n<=4*b.fo.size:=by
 fun_induction codeS vs b with
 |case1=>exact⟨0,fun _=>rfl,by omega⟩
 |case2 _ s e r ih=>
  obtain⟨n,h,h0,h1⟩:=qpM vs e
  obtain⟨m,g,g1⟩:=ih
  exact⟨_,qbJ (qcj h) g,by simp only[Ss.fo,qap,qcF,qaT]; omega⟩
 |case3 _ s a b r ih=>
  obtain⟨n,h,h0,h1⟩:=qpM vs a
  obtain⟨n',h',h0',h1'⟩:=qpM vs b
  obtain⟨m,g,g1⟩:=ih
  exact⟨_,qbJ (qcj (qbJ h h')) g,by simp only[Ss.fo,qap,qcF,qaT]; omega⟩
 |case4 _ a b r ih=>
  obtain⟨n,h,h0,h1⟩:=qpM vs a
  obtain⟨n',h',h0',h1'⟩:=qpM vs b
  obtain⟨m,g,g1⟩:=ih
  exact⟨_,qbJ (qcj (qbJ h h')) g,by simp only[Ss.fo,qap,qcF,qaT]; omega⟩
 |case5 r ih=>
  obtain⟨m,g,g1⟩:=ih
  exact⟨_,qbJ (n:=1) (fun _=>rfl) g,by simp only[Ss.fo,qap,qaT]; omega⟩
 |case6 _ c _ x _ y r ih1 ih2 ih3=>
  obtain⟨n,h,h0,h1⟩:=qpM vs c
  obtain⟨m1,g1,k1⟩:=ih1
  obtain⟨m2,g2,k2⟩:=ih2
  obtain⟨m3,g3,k3⟩:=ih3
  exact⟨_,qbJ (qmk h g1 g2) g3,by simp only[Ss.fo,qap,qcF,qaT]; omega⟩
 |case7 _ c _ x r ih1 ih2=>
  obtain⟨n,h,h0,h1⟩:=qpM vs c
  obtain⟨m1,g1,k1⟩:=ih1
  obtain⟨m2,g2,k2⟩:=ih2
  exact⟨_,qbJ (quI h g1) g2,by simp only[Ss.fo,qap,qcF,qaT]; omega⟩
 |case8=>exact⟨0,fun _=>rfl,by omega⟩
end
end Go.Pm
section
namespace Go.Pm.F
@[simp] abbrev sN:D := .lit (.slice none 0 0)
@[simp] abbrev eN:D := .lit (.string ⟨#[]⟩)
@[simp] abbrev zN:D := .lit (.int .i64 0)
@[simp] abbrev ii(n:Int):D := .lit (.int .i64 n)
@[simp] abbrev kk(n:Int):X := .c (.int .i64 n)
@[simp] abbrev kT:X := .c (.bool true)
@[simp] abbrev kF:X := .c (.bool false)
@[simp] abbrev jj(d:Nat)(o:O):I:=⟨some d,o,none,[]⟩
@[simp] abbrev jn(o:O):I:=⟨none,o,none,[]⟩
@[simp] abbrev jt(d g:Nat)(o:O):I:=⟨some d,o,some (g,true),[]⟩
@[simp] abbrev jf(d g:Nat)(o:O):I:=⟨some d,o,some (g,false),[]⟩
@[simp] abbrev mv(d a:Nat):I:=⟨some d,.mov (.t a),none,[]⟩
@[simp] abbrev mx(d:Nat)(x:X):I:=⟨some d,.mov x,none,[]⟩
@[simp] abbrev l1(d a:Nat):I:=⟨some d,.load false 1 (.t a),none,[]⟩
@[simp] abbrev la(d n a:Nat):I:=⟨some d,.load true n (.t a),none,[]⟩
@[simp] abbrev fa(d o a:Nat):I:=⟨some d,.fieldAddr o (.t a),none,[]⟩
@[simp] abbrev nc(d a:Nat):I:=⟨some d,.nilchk (.t a),none,[]⟩
@[simp] abbrev bx(d a:Nat):I:=⟨some d,.box (.t a),none,[]⟩
@[simp] abbrev ex(d a n:Nat):I:=⟨some d,.extract (.t a) n,none,[]⟩
@[simp] abbrev ls(d a:Nat):I:=⟨some d,.len .sl (.t a),none,[]⟩
@[simp] abbrev lz(d a:Nat):I:=⟨some d,.len .str (.t a),none,[]⟩
@[simp] abbrev bn(d:Nat)(o:BinOp)(a b:Nat):I:=⟨some d,.bin o (.t a) (.t b),none,[]⟩
@[simp] abbrev bk(d:Nat)(o:BinOp)(a:Nat)(n:Int):I:=⟨some d,.bin o (.t a) (.c (.int .i64 n)),none,[]⟩
@[simp] abbrev st(n a b:Nat):I:=⟨none,.store n (.t a) (.t b),none,[]⟩
@[simp] abbrev cl(d f:Nat)(xs:List Nat):I:=⟨some d,.call f (xs.map .t),none,[]⟩
@[simp] abbrev rn(ops:List I)(keep:List Nat)(lasts:List Nat:=[]):PC := .region none ops keep lasts
end Go.Pm.F
end
section
namespace Go.Pm.F
variable(C:Task->Option Res)(q:Nat)(fr:Fr)(σ : S)
@[simp] def F15a0x:PC:=(rn [jj 7 (.alloc [zN,zN,eN,sN]),st 4 7 18] [3,4,7])
def F15a0:PC:=F15a0x
theorem qeP:run C q F15a0 fr σ = run C q F15a0x fr σ := rfl
@[simp] def F15b0x:PC:=(.block 3 (.seq (.seq (rn [fa 19 0 7,l1 20 19,bk 21 .neq 20 1,mv 22 21,jt 23 22 (.fieldAddr 0 (.t 7)),jt 24 22 (.load false 1 (.t 23)),jt 25 22 (.bin .neq (.t 24) (kk 10)),jj 26 (.pick (.t 22) (.t 25) kF)] [3,4,7,26]) (.cond (.t 26) (.exit 3) (.skip))) (.seq (rn [l1 28 4,fa 29 2 7,l1 30 29,jj 31 (.lookup .s zN (.t 28) (.t 30) true),mv 27 31,ex 32 27 0,ex 33 27 1,mv 8 32,mv 9 33] [3,4,7,9]) (.seq (rn [mv 34 9,jj 35 (.un .not (.t 34))] [3,4,7,35]) (.cond (.t 35) (.seq (rn [l1 36 4,fa 37 2 7,l1 38 37,l1 39 3,ls 40 39,jn (.mapset .s (.t 36) (.t 38) (.t 40))] [3,7]) (rn [l1 41 3,fa 42 2 7,l1 43 42,jj 44 (.bslice 1 [eN] [(0,1,(.t 43))]),jj 45 (.append 1 16 (.t 41) (.t 44)),st 1 3 45] [])) (.skip))))))
def F15b0:PC:=F15b0x
theorem qeQ:run C q F15b0 fr σ = run C q F15b0x fr σ := rfl
@[simp] def F15l0x:PC:=(.seq (rn [bk 14 .lss 13 3] [3,4,12,13,14]) (.seq (.cond (.t 14) (.skip) (.exit 0)) (.seq (.block 1 (.seq (rn [jj 15 (.indexA true 3 4 (.t 12) (.t 13)),jj 6 (.alloc [zN,zN,eN,sN]),st 4 6 15] [3,4,6,12,13]) (.seq (rn [la 16 4 6,cl 17 32 [16]] [3,4,12,13,17]) (.block 2 (.range (.t 17) [18] F15a0 F15b0))))) (rn [bk 46 .add 13 1,mv 13 46] [3,4,12,13]))))
def F15l0:PC:=F15l0x
theorem qck:run C q F15l0 fr σ = run C q F15l0x fr σ := rfl
theorem qbk:F15a0.flat=true:=rfl
theorem qbl:F15b0.flat=true:=rfl
def F15:PFun:=⟨1,[.tmp 2],.seq (rn [bx 1 0,jj 2 (.mov (.c (.slice none 0 0)))] [1]) (.seq (rn [jj 3 (.alloc [sN])] [1,3]) (.seq (rn [jj 10 (.mkmap),jj 4 (.alloc [(.lit (.map none))]),st 1 4 10] [1,3,4]) (.seq (.seq (rn [fa 11 0 1,la 12 12 11,mx 13 (kk 0)] [3,4,12,13]) (.block 0 (.loop F15l0))) (.seq (rn [l1 47 3,mv 2 47] [2]) (.ret))))),false,false,false⟩
def F32:PFun:=⟨1,[.tmp 2],.seq (rn [bx 1 0,jj 2 (.mov (.c .nilFunc))] [1]) (.seq (rn [jj 3 (.mkfn 38 [] [(.t 1)]),mv 2 3] [2]) (.ret)),false,false,false⟩
def F38:PFun:=⟨2,[],rn [la 3 4 1,mv 4 0,cl 5 39 [3,4]] [],false,false,false⟩
@[simp] def F39l0x:PC:=(.seq (rn [bn 15 .lss 14 13] [1,12,13,14,15]) (.seq (.cond (.t 15) (.skip) (.exit 0)) (.seq (.block 1 (.seq (rn [jj 16 (.indexAddr 4 (.t 12) (.t 14)),la 17 4 16,jj 6 (.alloc [zN,zN,eN,sN]),st 4 6 17] [1,6,12,13,14]) (.seq (rn [la 18 4 6,mv 19 1,cl 20 39 [18,19],jj 21 (.un .not (.t 20))] [1,12,13,14,21]) (.cond (.t 21) (.seq (rn [mx 4 kF] [4]) (.ret)) (.skip))))) (rn [bk 22 .add 14 1,mv 14 22] [1,12,13,14]))))
def F39l0:PC:=F39l0x
theorem qdz:run C q F39l0 fr σ = run C q F39l0x fr σ := rfl
def F39:PFun:=⟨2,[.tmp 4],.seq (rn [bx 2 0,mx 4 kF] [1,2]) (.seq (.seq (rn [mv 7 1,la 8 4 2,jj 9 (.callv (.t 7) [(.t 8)]),jj 10 (.un .not (.t 9))] [1,2,10]) (.cond (.t 10) (.seq (rn [mx 4 kF] [4]) (.ret)) (.skip))) (.seq (.seq (rn [fa 11 3 2,l1 12 11,ls 13 12,mx 14 (kk 0)] [1,12,13,14]) (.block 0 (.loop F39l0))) (.seq (rn [mx 4 kT] [4]) (.ret)))),false,false,false⟩
end Go.Pm.F
end
section
namespace Go.Pm.F
def qaM:Nat->Option PFun
 |15=>some F15
 |32=>some F32
 |38=>some F38
 |39=>some F39
 |_=>none
end Go.Pm.F
end
namespace Go.Pm
section
open F
inductive NmSt:S->V->S->Nat->List ByteArray->Ob->Prop
 |a (l:List ByteArray) (x:Ob):NmSt [] (.dat (qnz l)) [x] 0 l x
 |b (l:List ByteArray) (x:Ob) (m:Nat) (h:l≠[]):NmSt [] (.gsl (strC l) l.length 1 0) [.tip m,x] 1 l x
abbrev qbA(k n:Int)(s:ByteArray)(d:D):Ob := .cells [.int k,.int n,.str s,.dat d]
end
section
open F
attribute [local simp] dkey
def mapM:Nat->List ByteArray->List (Value × V)
 |_,[]=>[]
 |i,s::l=>(.string s,.int i)::mapM (i+1) l
theorem qix(s:ByteArray) : ∀ (l:List ByteArray) (i:Nat),(s∉l->qev .s (.string s) (mapM i l)=some none)/\(s∈l -> ∃ j:Nat,qev .s (.string s) (mapM i l)=some (some (.int j)))
 |[],i=>by simp[mapM,qev]
 |x::l,i=>by
  have ih:=qix s l (i+1)
  by_cases h:s=x
  ·subst h
   exact⟨fun hn=>absurd (WT ..) hn,fun _=>⟨i,by simp[mapM,qev,qci]⟩⟩
  ·have hb:(s==x)=false:=by rw[qeg]; exact decide_eq_false h
   refine⟨fun hn=>?_,fun hm=>?_⟩
   ·have:=ih.1 (fun hm=>hn (WF _ hm))
    simp[mapM,qev,qci,hb,this]
   ·obtain⟨j,hj⟩:=ih.2 ((Wq.1 hm).resolve_left h)
    exact⟨j,by simp[mapM,qev,qci,hb,hj]⟩
theorem qkl(s:ByteArray) : ∀ (l:List ByteArray) (i:Nat),s∉l->qqK .s (.string s) (.int (i+l.length:Nat)) (mapM i l)=some (mapM i (l++[s]))
 |[],i,_=>by simp[mapM,qqK]
 |x::l,i,hn=>by
  have h:s≠x:=fun h=>hn (h ▸ WT ..)
  have hb:(s==x)=false:=by rw[qeg]; exact decide_eq_false h
  have ih:=qkl s l (i+1) (fun hm=>hn (WF _ hm))
  rw[show i+1+l.length=i+(l.length+1) by omega] at ih
  simp only[We,Wh,mapM,qqK,qci,hb,ih]
theorem qa7 : ∀ (l:List ByteArray) (i:Nat),qic (mapM i l)=[]
 |[],i=>rfl
 |x::l,i=>by simp[mapM,qa7 l]
theorem qbB(r:Nat->Nat) : ∀ (l:List ByteArray) (i:Nat),qsA r (mapM i l)=mapM i l
 |[],i=>rfl
 |x::l,i=>by simp[mapM,qbB r l]
attribute [local simp] qa7 qbB dkey
abbrev lpO(r:D)(i:Int):Ob := .loop ⟨[(3,.ptr 1 0),(4,.ptr 2 0),(12,.dat r),(13,.int i),(17,.fn 38 [] [.ptr 3 0])],[18],F15a0,F15b0,0,none⟩
abbrev S0(r:D)(j:Int)(bx:Ob):S:=[lpO r j,.cells [.dat (.lit (.slice none 0 0))],.cells [.mp 4],bx,.map []]
abbrev S01(r:D)(j:Int)(bx:Ob)(l:List ByteArray):S:=[lpO r j,.cells [.gsl (strC l) l.length 1 5],.cells [.mp 4],bx,.map (mapM 0 l),.tip l.length]
abbrev S1(r:D)(j:Int)(bx:Ob)(l:List ByteArray):S:=[lpO r j,.cells [.gsl (strC l) l.length 1 4],.cells [.mp 5],bx,.tip l.length,.map (mapM 0 l)]
section
variable{k n k0 n0:Int}{s s0:ByteArray}{f f0:Bool}{ks:Fo}{d0:D}{r:D}{j:Int}{l:List ByteArray}
theorem qrN(h1:k≠1)(h2:k≠10):Z qaM (.round [.yld 0,nd k n s f ks] (S0 r j (qbA k0 n0 s0 d0)))=some (.ret (.bool true) (S0 r j (qbA k0 n0 s0 d0))):=by
 rw[qcL]
 simp[qbt,qbk,qbl,qeP,qeQ,qc6,h1,h2,Lp.ended,Ex.isNormal,qbA,Wa]
theorem qrO(h1:k≠1)(h2:k≠10):Z qaM (.round [.yld 0,nd k n s f ks] (S1 r j (qbA k0 n0 s0 d0) l))=some (.ret (.bool true) (S1 r j (qbA k0 n0 s0 d0) l)):=by
 rw[qcL]
 simp[qbt,qbk,qbl,qeP,qeQ,qc6,h1,h2,Lp.ended,Ex.isNormal,qbA,Wa]
theorem quD(hk:k=1\/k=10)(hs:s∈l):Z qaM (.round [.yld 0,nd k n s f ks] (S1 r j (qbA k0 n0 s0 d0) l))=some (.ret (.bool true) (S1 r j (qbA k0 n0 s0 d0) l)):=by
 obtain⟨q,hq⟩:=(qix s l 0).2 hs
 rw[qcL]
 rcases hk with rfl|rfl<;>simp[qbt,qbk,qbl,qeP,qeQ,qc6,hq,qeK,Lp.ended,Ex.isNormal,qbA,Wa]
theorem quE(hk:k=1\/k=10):Z qaM (.round [.yld 0,nd k n s f ks] (S0 r j (qbA k0 n0 s0 d0)))=some (.ret (.bool true) (S01 r j (qbA k0 n0 s0 d0) [s])):=by
 rw[qcL]
 rcases hk with rfl|rfl<;>simp[qbt,qbk,qbl,qeP,qeQ,qc6,qev,qqK,mapM,qnA,qeK,Lp.ended,Ex.isNormal,qbA,Wa,V.len,qcu,qmQ,qaK]
theorem quF(hk:k=1\/k=10)(hs:s∉l)(h0:l≠[])(hl:l.length<2^30):Z qaM (.round [.yld 0,nd k n s f ks] (S1 r j (qbA k0 n0 s0 d0) l))=some (.ret (.bool true) (S1 r j (qbA k0 n0 s0 d0) (l++[s]))):=by
 have hq:=(qix s l 0).1 hs
 have hs':=qkl s l 0 hs
 rw[WM] at hs'
 have r2:qaK (l.length+1) 16=true:=by simp[qaK]; omega
 rw[qcL]
 rcases hk with rfl|rfl<;>simp[qbt,qbk,qbl,qeP,qeQ,qc6,hq,hs',qsc,qnA,qeK,Lp.ended,Ex.isNormal,qbA,Wa,V.len,qcu,qmQ,r2]
theorem rd0 : ∃ S',Z qaM (.round [.yld 0,nd k n s f ks] (S0 r j (qbA k0 n0 s0 d0)))=some (.ret (.bool true) S') /\
  ((addAll [] (if k=1\/k=10 then [s] else [])=[]/\S'=S0 r j (qbA k0 n0 s0 d0))\/(addAll [] (if k=1\/k=10 then [s] else [])≠[]/\S'=S01 r j (qbA k0 n0 s0 d0) (addAll [] (if k=1\/k=10 then [s] else [])))):=by
 by_cases hk:k=1\/k=10
 ·simp only[if_pos hk]
  exact⟨_,quE hk,.inr ⟨by simp[addAll,qqp],rfl⟩⟩
 ·simp only[if_neg hk]
  exact⟨_,qrN (by omega) (by omega),.inl ⟨rfl,rfl⟩⟩
theorem rd1(h0:l≠[])(hl:l.length<2^30):Z qaM (.round [.yld 0,nd k n s f ks] (S1 r j (qbA k0 n0 s0 d0) l))=some (.ret (.bool true) (S1 r j (qbA k0 n0 s0 d0) (addAll l (if k=1\/k=10 then [s] else [])))):=by
 by_cases hk:k=1\/k=10
 ·simp only[if_pos hk,addAll,W6,List.foldl_nil,qqp]
  by_cases hs:s∈l
  ·rw[if_pos hs]; exact quD hk hs
  ·rw[if_neg hs]; exact quF hk hs h0 hl
 ·simp only[if_neg hk]
  exact qrO (by omega) (by omega)
end
end
section
open F
attribute [local simp] qa7 qbB dkey
section
variable{k n k0 n0:Int}{s s0:ByteArray}{f fl:Bool}{ks:Fo}{d0 d:D}{r:D}{j:Int}{l l1 l2:List ByteArray}{i N:Nat}{cs c4:List D}
abbrev qoM(d:D)(N i:Nat):Fr:=[(1,.yld 0),(12,.dat d),(13,.int N),(14,.int i)]
abbrev qkc(d:D)(N:Nat)(S':S):Option Res:=some (.out (.exit 0) [(1,.yld 0),(12,.dat d),(13,.int N),(14,.int N),(15,.bool false)] S')
def Got(r:D)(j:Int)(bx:Ob)(l:List ByteArray)(S':S):Prop:=(l=[]/\S'=S0 r j bx)\/(l≠[]/\S'=S01 r j bx l)
theorem qtX(h1:V.one (.dat d)=true)(h2:V.cells (.dat d)=[.dat d]):Z qaM (.loop 5 F39l0 (qoM d N N) (S0 r j (qbA k0 n0 s0 d0)))=qkc d N (S0 r j (qbA k0 n0 s0 d0)):=by
 rw[qab]
 simp[qac,qdz,qbA,Wa]
theorem qtY(h1:V.one (.dat d)=true)(h2:V.cells (.dat d)=[.dat d]):Z qaM (.loop 5 F39l0 (qoM d N N) (S01 r j (qbA k0 n0 s0 d0) l))=qkc d N (S01 r j (qbA k0 n0 s0 d0) l):=by
 rw[qab]
 simp[qac,qdz,qbA,Wa]
theorem qtZ(h1:V.one (.dat d)=true)(h2:V.cells (.dat d)=[.dat d]):Z qaM (.loop 6 F39l0 (qoM d N N) (S1 r j (qbA k0 n0 s0 d0) l))=qkc d N (S1 r j (qbA k0 n0 s0 d0) l):=by
 rw[qab]
 simp[qac,qdz,qbA,Wa]
def qpp(r:D)(j:Int)(bx:Ob)(nv:V)(xs:List ByteArray):Prop:=
 (∃ S',Z qaM (.call 39 [nv,.yld 0] (S0 r j bx))=some (.ret (.bool true) S')/\Got r j bx (addAll [] xs) S') /\
 ∀ l,l≠[]->l.length+xs.length<2^29->Z qaM (.call 39 [nv,.yld 0] (S1 r j bx l))=some (.ret (.bool true) (S1 r j bx (addAll l xs)))
def qgS(r:D)(j:Int)(bx:Ob)(d:D)(N i:Nat)(xs:List ByteArray):Prop:=
 (∃ S',Z qaM (.loop 5 F39l0 (qoM d N i) (S0 r j bx))=qkc d N S'/\Got r j bx (addAll [] xs) S') /\
 (∀ l,l≠[]->l.length+xs.length<2^29->Z qaM (.loop 5 F39l0 (qoM d N i) (S01 r j bx l))=qkc d N (S01 r j bx (addAll l xs))) /\
 (∀ l,l≠[]->l.length+xs.length<2^29->Z qaM (.loop 6 F39l0 (qoM d N i) (S1 r j bx l))=qkc d N (S1 r j bx (addAll l xs)))
theorem qc7(xs:List ByteArray)(h:l≠[]):addAll l xs≠[]:=by
 have h1:=(qcz xs l).1
 intro he
 rw[he] at h1
 exact h (WH (Nat.le_zero.1 h1))
theorem qrr (hc:cs.drop (i*4) = .lit (.int .i64 k) :: .lit (.int .i64 n) :: .lit (.string s)::kd f ks.len ks.cells::c4) (hi:i<N) (hN:N<2^40) {xs ys:List ByteArray} (hx:xs.length+ys.length<2^28)
  (hw:qpp r j (qbA k0 n0 s0 d0) (nd k n s f ks) xs) (ih:qgS r j (qbA k0 n0 s0 d0) (.sl cs N fl) N (i+1) ys):qgS r j (qbA k0 n0 s0 d0) (.sl cs N fl) N i (xs++ys):=by
 have h4:=qyH hc
 have w1:=qah ((i:Int)+1) (by omega)
 have hi':(i:Int)<N:=by omega
 obtain⟨⟨S',hw0,hg⟩,hw1⟩:=hw
 obtain⟨⟨T,ha,hT⟩,hb,hc'⟩:=ih
 have hlen:=qcz xs []
 simp only[Wl,WM] at hlen
 refine⟨?_,fun l hl hb'=>?_,fun l hl hb'=>?_⟩
 ·rw[qcU]
  rcases hg with ⟨he,rfl⟩|⟨he,rfl⟩
  ·rw[he]
   refine⟨T,?_,hT⟩
   rw[qab,<- ha]
   simp only[qbA,S0,S01] at hw0
   simp[qac,qdz,hi,hi',qak,h4,hw0,w1,V.len,qbA,Wa]
   exact qai (by simp[Wa])
  ·refine⟨_,?_,.inr ⟨qc7 _ he,rfl⟩⟩
   have hb1:=hb (addAll [] xs) he (by omega)
   rw[qab,<- hb1]
   simp only[qbA,S0,S01] at hw0
   simp[qac,qdz,hi,hi',qak,h4,hw0,w1,V.len,qbA,Wa]
   exact qai (by simp[Wa])
 ·rw[Wc] at hb'
  have hl2:=qcz xs l
  have hb1:=hb (addAll l xs) (qc7 _ hl) (by omega)
  have hw2:=hw1 l hl (by omega)
  rw[qcU,qab,<- hb1]
  simp only[qbA,S1] at hw2
  simp[qac,qdz,hi,hi',qak,h4,hw2,w1,V.len,qbA,Wa]
  exact qai (by simp[Wa])
 ·rw[Wc] at hb'
  have hl2:=qcz xs l
  have hb1:=hc' (addAll l xs) (qc7 _ hl) (by omega)
  have hw2:=hw1 l hl (by omega)
  rw[qcU,qab,<- hb1]
  simp only[qbA,S1] at hw2
  simp[qac,qdz,hi,hi',qak,h4,hw2,w1,V.len,qbA,Wa]
  exact qai (by simp[Wa])
theorem qmY(hx:ks.vars.length<2^28)(h:qgS r j (qbA k0 n0 s0 d0) (kd f ks.len ks.cells) ks.len 0 ks.vars):qpp r j (qbA k0 n0 s0 d0) (nd k n s f ks) ((if k=1\/k=10 then [s] else [])++ks.vars):=by
 obtain⟨⟨T,ha,hT⟩,hb,hc⟩:=h
 have h4:(if k=1\/k=10 then [s] else []).length<=1:=by split<;>simp
 refine⟨?_,fun l hl hb'=>?_⟩
 ·obtain⟨S',hr,hS⟩:=rd0 (k:=k) (n:=n) (s:=s) (f:=f) (ks:=ks) (r:=r) (j:=j) (k0:=k0) (n0:=n0) (s0:=s0) (d0:=d0)
  have hlen:=qcz (if k=1\/k=10 then [s] else []) []
  simp only[Wl,WM] at hlen
  rw[qcU]
  rcases hS with ⟨he,rfl⟩|⟨he,rfl⟩
  ·rw[he]
   refine⟨T,?_,hT⟩
   refine qaa (pf:=F39) rfl rfl ?_
   have ha':=(qai (k:=5) (b:=F39l0) (fr:=qoM (kd f ks.len ks.cells) ks.len 0) (σ := S0 r j (qbA k0 n0 s0 d0)++[qbA k n s (kd f ks.len ks.cells)]) (by simp[qbA,Wa])).trans ha
   simp only[qbA,qoM,qkc,lpO,S0,S01,S1,Wh,Wf,show ((0:Nat):Int)=0 from rfl] at hr ha'
   rcases hT with ⟨hT,rfl⟩|⟨hT,rfl⟩<;>simp[F39,hr,ha',qbA,S0,S01,lpO,Wa]
  ·refine⟨S01 r j (qbA k0 n0 s0 d0) (addAll (addAll [] (if k=1\/k=10 then [s] else [])) ks.vars),?_,.inr ⟨qc7 _ he,rfl⟩⟩
   generalize addAll [] (if k=1\/k=10 then [s] else [])=l at *
   have hb1:=hb l he (by omega)
   refine qaa (pf:=F39) rfl rfl ?_
   have ha':=(qai (k:=5) (b:=F39l0) (fr:=qoM (kd f ks.len ks.cells) ks.len 0) (σ := [lpO r j,.cells [.gsl (strC l) l.length 1 6],.cells [.mp 4],qbA k0 n0 s0 d0,.map (mapM 0 l),qbA k n s (kd f ks.len ks.cells),.tip l.length]) (by simp[qbA,Wa])).trans hb1
   simp only[qbA,qoM,qkc,lpO,S0,S01,S1,Wh,Wf,show ((0:Nat):Int)=0 from rfl] at hr ha'
   simp[F39,hr,ha',qbA,S0,S01,lpO,Wa]
 ·rw[Wc] at hb'
  have hl2:=qcz (if k=1\/k=10 then [s] else []) l
  have hr:=rd1 (k:=k) (n:=n) (s:=s) (f:=f) (ks:=ks) (r:=r) (j:=j) (k0:=k0) (n0:=n0) (s0:=s0) (d0:=d0) hl (by omega)
  have he:=qc7 (if k=1\/k=10 then [s] else []) hl
  rw[qcU]
  generalize addAll l (if k=1\/k=10 then [s] else [])=l' at *
  have hc1:=hc l' he (by omega)
  refine qaa (pf:=F39) rfl rfl ?_
  have ha':=(qai (k:=6) (b:=F39l0) (fr:=qoM (kd f ks.len ks.cells) ks.len 0) (σ := S1 r j (qbA k0 n0 s0 d0) l'++[qbA k n s (kd f ks.len ks.cells)]) (by simp[qbA,Wa])).trans hc1
  simp only[qbA,qoM,qkc,lpO,S0,S01,S1,Wh,Wf,show ((0:Nat):Int)=0 from rfl] at hr ha'
  simp[F39,hr,ha',qbA,S0,S01,lpO,Wa]
end
end
section
open F
attribute [local simp] qa7 qbB dkey
theorem qf2{r:D}{j k0 n0:Int}{s0:ByteArray}{d0 d:D}{N:Nat}(h1:V.one (.dat d)=true)(h2:V.cells (.dat d)=[.dat d]):qgS r j (qbA k0 n0 s0 d0) d N N []:=
 ⟨⟨_,qtX h1 h2,.inl ⟨rfl,rfl⟩⟩,fun _ _ _=>qtY h1 h2,fun _ _ _=>qtZ h1 h2⟩
theorem qp1 {r:D} {j k0 n0:Int} {s0:ByteArray} {d0:D} : ∀ (a:Fo) (i:Nat) (cs:List D) (N:Nat) (fl:Bool),cs.drop (i*4)=a.cells->N=i+a.len->i+2*a.size<2^27 ->
  qgS r j (qbA k0 n0 s0 d0) (.sl cs N fl) N i a.vars
 |.nil,i,cs,N,fl,hc,hN,hb=>by
  simp only[qby,Yx] at hN
  subst hN
  exact qf2 rfl rfl
 |.cons k n s f ks rr,i,cs,N,fl,hc,hN,hb=>by
  simp only[qaY,qbp,qap] at hc hN hb
  have h1:=qdL rr
  have h2:=qhT ks
  have h3:=qhT rr
  have h4:(if k=1\/k=10 then [s] else []).length<=1:=by split<;>simp
  have hk:qgS r j (qbA k0 n0 s0 d0) (kd f ks.len ks.cells) ks.len 0 ks.vars:=by
   cases hz:ks.len with
   |zero=>
    have hn:ks = .nil:=by cases ks<;>simp at hz; rfl
    subst hn
    exact qf2 (by simp) (by simp)
   |succ m=>
    rw[qlC,<- hz]
    exact qp1 ks 0 ks.cells ks.len f rfl (by omega) (by omega)
  have e:(Fo.cons k n s f ks rr).vars=((if k=1\/k=10 then [s] else [])++ks.vars)++rr.vars:=by rw[Fo.vars,Wt]
  rw[e]
  exact qrr hc (by omega) (by omega) (by rw[Wc]; omega) (qmY (by omega) hk) (qp1 rr (i+1) cs N fl (qcr hc) (by omega) (by omega))
theorem qp2{r:D}{j k0 n0:Int}{s0:ByteArray}{d0:D}(k n:Int)(s:ByteArray)(f:Bool)(ks:Fo)(hb:ks.size<2^25):qpp r j (qbA k0 n0 s0 d0) (nd k n s f ks) ((if k=1\/k=10 then [s] else [])++ks.vars):=by
 have h2:=qhT ks
 refine qmY (by omega) ?_
 cases hz:ks.len with
 |zero=>
  have hn:ks = .nil:=by cases ks<;>simp at hz; rfl
  subst hn
  exact qf2 (by simp) (by simp)
 |succ m=>
  rw[qlC,<- hz]
  exact qp1 ks 0 ks.cells ks.len f rfl (by omega) (by omega)
abbrev qlQ(r:D)(i:Int):Ob := .loop ⟨[(3,.ptr 2 0),(4,.ptr 3 0),(12,.dat r),(13,.int i),(17,.fn 38 [] [.ptr 1 0])],[18],F15a0,F15b0,0,none⟩
abbrev T0(r:D)(j:Int)(bx:Ob):S:=[qlQ r j,bx,.cells [.dat (.lit (.slice none 0 0))],.cells [.mp 4],.map []]
abbrev T01(r:D)(j:Int)(bx:Ob)(l:List ByteArray):S:=[qlQ r j,bx,.cells [.gsl (strC l) l.length 1 5],.cells [.mp 4],.map (mapM 0 l),.tip l.length]
abbrev T1(r:D)(j:Int)(bx:Ob)(l:List ByteArray):S:=[qlQ r j,bx,.cells [.gsl (strC l) l.length 1 4],.cells [.mp 5],.tip l.length,.map (mapM 0 l)]
section
variable{r:D}{j:Int}{k n:Int}{s:ByteArray}{f:Bool}{ks:Fo}{xs:List ByteArray}
theorem qu9 (h:qpp r j (qbA k n s (kd f ks.len ks.cells)) (nd k n s f ks) xs) : ∃ S',Z qaM (.call 38 [.yld 0,.ptr 1 0] (T0 r j (qbA k n s (kd f ks.len ks.cells))))=some (.ret (.tup []) S') /\
  ((addAll [] xs=[]/\S'=T0 r j (qbA k n s (kd f ks.len ks.cells)))\/(addAll [] xs≠[]/\S'=T01 r j (qbA k n s (kd f ks.len ks.cells)) (addAll [] xs))):=by
 obtain⟨⟨S',h1,hg⟩,-⟩:=h
 simp only[qbA,S0,lpO] at h1
 rcases hg with ⟨he,rfl⟩|⟨he,rfl⟩
 ·refine⟨_,?_,.inl ⟨he,rfl⟩⟩
  refine qaa (pf:=F38) rfl rfl ?_
  simp[F38,h1,qbA,S0,lpO,Wa]
 ·refine⟨_,?_,.inr ⟨he,rfl⟩⟩
  refine qaa (pf:=F38) rfl rfl ?_
  simp[F38,h1,qbA,S01,lpO,Wa]
theorem qxJ(h:qpp r j (qbA k n s (kd f ks.len ks.cells)) (nd k n s f ks) xs){l:List ByteArray}(hl:l≠[])(hb:l.length+xs.length<2^29):Z qaM (.call 38 [.yld 0,.ptr 1 0] (T1 r j (qbA k n s (kd f ks.len ks.cells)) l))=some (.ret (.tup []) (T1 r j (qbA k n s (kd f ks.len ks.cells)) (addAll l xs))):=by
 have h1:=h.2 l hl hb
 simp only[qbA,S1,lpO] at h1
 refine qaa (pf:=F38) rfl rfl ?_
 simp[F38,h1,qbA,S1,lpO,Wa]
theorem qp3:Z qaM (.call 32 [nd k n s f ks] [])=some (.ret (.fn 38 [] [.ptr 0 0]) [qbA k n s (kd f ks.len ks.cells)]):=by
 refine qaa (pf:=F32) rfl rfl ?_
 simp[F32,qbA]
end
end
section
open F
attribute [local simp] qa7 qbB dkey Ex.isPan
abbrev vfr(r:D)(i:Int):Fr:=[(3,.ptr 0 0),(4,.ptr 1 0),(12,.dat r),(13,.int i)]
abbrev U0:S:=[.cells [.dat (.lit (.slice none 0 0))],.cells [.mp 2],.map []]
abbrev U1(l:List ByteArray):S:=[.cells [.gsl (strC l) l.length 1 2],.cells [.mp 3],.tip l.length,.map (mapM 0 l)]
section
variable{a b c:Nd}
theorem qsg(hb:a.ks.size<2^25):Z qaM (.loop 0 F15l0 (vfr (ru a b c) 0) U0)=if addAll [] a.vars=[] then Z qaM (.loop 0 F15l0 (vfr (ru a b c) 1) U0) else Z qaM (.loop 0 F15l0 (vfr (ru a b c) 1) (U1 (addAll [] a.vars))):=by
 have hv:=qp2 (r:=ru a b c) (j:=0) (k0:=a.k) (n0:=a.n) (s0:=a.s) (d0:=a.d) a.k a.n a.s a.f a.ks hb
 obtain⟨S',h1,h2⟩:=qu9 hv
 have h3:=qp3 (k:=a.k) (n:=a.n) (s:=a.s) (f:=a.f) (ks:=a.ks)
 have w1:=qah 1 (by omega)
 rw[show (if a.k=1\/a.k=10 then [a.s] else [])++a.ks.vars=a.vars from rfl] at h2
 simp only[qbA,T0,qlQ,ru,Nd.d] at h1 h3
 conv=>lhs; rw[qab]
 rcases h2 with ⟨he,rfl⟩|⟨he,rfl⟩
 ·rw[if_pos he]
  simp[qac,qck,h3,h1,w1,qbk,qbl,qbA,T0,qlQ,Wa]
  refine qai ?_
  simp[Wa]
 ·rw[if_neg he]
  simp[qac,qck,h3,h1,w1,qbk,qbl,qbA,T01,qlQ,Wa]
  refine qai ?_
  simp[Wa]
theorem qsh(hb:b.ks.size<2^25):Z qaM (.loop 0 F15l0 (vfr (ru a b c) 1) U0)=if addAll [] b.vars=[] then Z qaM (.loop 0 F15l0 (vfr (ru a b c) 2) U0) else Z qaM (.loop 0 F15l0 (vfr (ru a b c) 2) (U1 (addAll [] b.vars))):=by
 have hv:=qp2 (r:=ru a b c) (j:=1) (k0:=b.k) (n0:=b.n) (s0:=b.s) (d0:=b.d) b.k b.n b.s b.f b.ks hb
 obtain⟨S',h1,h2⟩:=qu9 hv
 have h3:=qp3 (k:=b.k) (n:=b.n) (s:=b.s) (f:=b.f) (ks:=b.ks)
 have w1:=qah 2 (by omega)
 rw[show (if b.k=1\/b.k=10 then [b.s] else [])++b.ks.vars=b.vars from rfl] at h2
 simp only[qbA,T0,qlQ,ru,Nd.d] at h1 h3
 conv=>lhs; rw[qab]
 rcases h2 with ⟨he,rfl⟩|⟨he,rfl⟩
 ·rw[if_pos he]
  simp[qac,qck,h3,h1,w1,qbk,qbl,qbA,T0,qlQ,Wa]
  refine qai ?_
  simp[Wa]
 ·rw[if_neg he]
  simp[qac,qck,h3,h1,w1,qbk,qbl,qbA,T01,qlQ,Wa]
  refine qai ?_
  simp[Wa]
theorem qsi{l:List ByteArray}(hb:b.ks.size<2^25)(hl:l≠[])(hl':l.length<2^27):Z qaM (.loop 0 F15l0 (vfr (ru a b c) 1) (U1 l))=Z qaM (.loop 0 F15l0 (vfr (ru a b c) 2) (U1 (addAll l b.vars))):=by
 have hv:=qp2 (r:=ru a b c) (j:=1) (k0:=b.k) (n0:=b.n) (s0:=b.s) (d0:=b.d) b.k b.n b.s b.f b.ks hb
 have hx:=qeE b
 have h1:=qxJ hv hl (by rw[show (if b.k=1\/b.k=10 then [b.s] else [])++b.ks.vars=b.vars from rfl]; omega)
 rw[show (if b.k=1\/b.k=10 then [b.s] else [])++b.ks.vars=b.vars from rfl] at h1
 have h3:=qp3 (k:=b.k) (n:=b.n) (s:=b.s) (f:=b.f) (ks:=b.ks)
 have w1:=qah 2 (by omega)
 simp only[qbA,T1,qlQ,ru,Nd.d] at h1 h3
 conv=>lhs; rw[qab]
 simp[qac,qck,h3,h1,w1,qbk,qbl,qbA,T1,qlQ,Wa]
 refine qai ?_
 simp[Wa]
theorem qsj(hb:c.ks.size<2^25):Z qaM (.loop 0 F15l0 (vfr (ru a b c) 2) U0)=if addAll [] c.vars=[] then Z qaM (.loop 0 F15l0 (vfr (ru a b c) 3) U0) else Z qaM (.loop 0 F15l0 (vfr (ru a b c) 3) (U1 (addAll [] c.vars))):=by
 have hv:=qp2 (r:=ru a b c) (j:=2) (k0:=c.k) (n0:=c.n) (s0:=c.s) (d0:=c.d) c.k c.n c.s c.f c.ks hb
 obtain⟨S',h1,h2⟩:=qu9 hv
 have h3:=qp3 (k:=c.k) (n:=c.n) (s:=c.s) (f:=c.f) (ks:=c.ks)
 have w1:=qah 3 (by omega)
 rw[show (if c.k=1\/c.k=10 then [c.s] else [])++c.ks.vars=c.vars from rfl] at h2
 simp only[qbA,T0,qlQ,ru,Nd.d] at h1 h3
 conv=>lhs; rw[qab]
 rcases h2 with ⟨he,rfl⟩|⟨he,rfl⟩
 ·rw[if_pos he]
  simp[qac,qck,h3,h1,w1,qbk,qbl,qbA,T0,qlQ,Wa]
  refine qai ?_
  simp[Wa]
 ·rw[if_neg he]
  simp[qac,qck,h3,h1,w1,qbk,qbl,qbA,T01,qlQ,Wa]
  refine qai ?_
  simp[Wa]
theorem qnE{l:List ByteArray}(hb:c.ks.size<2^25)(hl:l≠[])(hl':l.length<2^27):Z qaM (.loop 0 F15l0 (vfr (ru a b c) 2) (U1 l))=Z qaM (.loop 0 F15l0 (vfr (ru a b c) 3) (U1 (addAll l c.vars))):=by
 have hv:=qp2 (r:=ru a b c) (j:=2) (k0:=c.k) (n0:=c.n) (s0:=c.s) (d0:=c.d) c.k c.n c.s c.f c.ks hb
 have hx:=qeE c
 have h1:=qxJ hv hl (by rw[show (if c.k=1\/c.k=10 then [c.s] else [])++c.ks.vars=c.vars from rfl]; omega)
 rw[show (if c.k=1\/c.k=10 then [c.s] else [])++c.ks.vars=c.vars from rfl] at h1
 have h3:=qp3 (k:=c.k) (n:=c.n) (s:=c.s) (f:=c.f) (ks:=c.ks)
 have w1:=qah 3 (by omega)
 simp only[qbA,T1,qlQ,ru,Nd.d] at h1 h3
 conv=>lhs; rw[qab]
 simp[qac,qck,h3,h1,w1,qbk,qbl,qbA,T1,qlQ,Wa]
 refine qai ?_
 simp[Wa]
theorem qx4{r:D}:Z qaM (.loop 0 F15l0 [(3,.ptr 0 0),(4,.ptr 1 0),(12,.dat r),(13,.int 3)] U0)=some (.out (.exit 0) [(3,.ptr 0 0),(4,.ptr 1 0),(12,.dat r),(13,.int 3),(14,.bool false)] U0):=by
 rw[qab]
 simp[qac,qck]
theorem qqx{r:D}{l:List ByteArray}:Z qaM (.loop 0 F15l0 [(3,.ptr 0 0),(4,.ptr 1 0),(12,.dat r),(13,.int 3)] (U1 l))=some (.out (.exit 0) [(3,.ptr 0 0),(4,.ptr 1 0),(12,.dat r),(13,.int 3),(14,.bool false)] (U1 l)):=by
 rw[qab]
 simp[qac,qck]
theorem qqy (ha:a.ks.size<2^25) (hb:b.ks.size<2^25) (hc:c.ks.size<2^25):Z qaM (.loop 0 F15l0 (vfr (ru a b c) 0) U0) =
  some (.out (.exit 0) [(3,.ptr 0 0),(4,.ptr 1 0),(12,.dat (ru a b c)),(13,.int 3),(14,.bool false)] (if rvars a b c=[] then U0 else U1 (rvars a b c))):=by
 have la:=qeE a
 have lb:=qeE b
 have l1:=qcz a.vars []
 have l2:=qcz b.vars (addAll [] a.vars)
 have e:rvars a b c=addAll (addAll (addAll [] a.vars) b.vars) c.vars:=by unfold rvars; rw[qcU,qcU]
 simp only[Wl] at l1
 rw[e,qsg ha]
 by_cases h1:addAll [] a.vars=[]
 ·rw[if_pos h1,h1,qsh hb]
  by_cases h2:addAll [] b.vars=[]
  ·rw[if_pos h2,h2,qsj hc]
   by_cases h3:addAll [] c.vars=[]
   ·rw[if_pos h3,if_pos h3]; exact qx4
   ·rw[if_neg h3,if_neg h3]; exact qqx
  ·rw[h1] at l2
   rw[if_neg h2,qnE hc h2 (by simp only[Wl] at l2; omega),if_neg (qc7 _ h2)]
   exact qqx
 ·have n2:addAll (addAll [] a.vars) b.vars≠[]:=qc7 _ h1
  rw[if_neg h1,qsi hb h1 (by omega),qnE hc n2 (by omega),if_neg (qc7 _ n2)]
  exact qqx
theorem qmw(ha:a.ks.size<2^25)(hb:b.ks.size<2^25)(hc:c.ks.size<2^25):Z qaM (.call 15 [.dat (ru a b c)] [])=some (.ret (.dat (qnz (rvars a b c))) []):=by
 have h:=qqy ha hb hc
 refine qaa (pf:=F15) rfl rfl ?_
 have h':=(qai (k:=0) (b:=F15l0) (fr:=[(3,.ptr 1 0),(4,.ptr 3 0),(12,.dat (ru a b c)),(13,.int 0)]) (σ := [.cells [.int a.k,.int a.n,.str a.s,.dat a.d,.int b.k,.int b.n,.str b.s,.dat b.d,.int c.k,.int c.n,.str c.s,.dat c.d],.cells [.dat (.lit (.slice none 0 0))],.map [],.cells [.mp 2]]) (by simp[vfr,U0])).trans h
 simp only[ru,Nd.d] at h'
 by_cases hn:rvars a b c=[]
 ·rw[if_pos hn] at h'
  rw[hn]
  simp[F15,h',qnz]
 ·rw[if_neg hn] at h'
  rw[qvu hn]
  simp[F15,h']
end
end
end Go.Pm
section
namespace Go.Pm.F
variable(C:Task->Option Res)(q:Nat)(fr:Fr)(σ : S)
def F17:PFun:=⟨2,[.tmp 4],.seq (rn [mx 4 (kk 0)] [0,1]) (.seq (.seq (rn [mv 5 0,bk 6 .lss 5 0] [0,1,6]) (.cond (.t 6) (rn [mv 7 0,bk 8 .add 7 1,jj 9 (.un .neg (.t 8)),mv 0 9] [0,1]) (.skip))) (.seq (rn [mv 10 0,mv 11 1,bn 12 .rem 10 11,mv 4 12] [4]) (.ret))),false,false,false⟩
def F23:PFun:=⟨2,[.tmp 4],.seq (rn [jj 4 (.mov (.c (.slice none 0 0)))] [0,1]) (.seq (rn [jj 5 (.mov (.c (.slice none 0 0)))] [0,1,5]) (.seq (rn [mv 6 5,mv 7 0,mv 8 0,ls 9 8,mv 10 1,jj 11 (.min [(.t 9),(.t 10)]),jj 12 (.slice 1 (.t 7) none (some (.t 11))),jj 13 (.append 1 8 (.t 6) (.t 12)),mv 4 13] [4]) (.ret))),false,false,false⟩
end Go.Pm.F
end
section
namespace Go.Pm.F
variable(C:Task->Option Res)(q:Nat)(fr:Fr)(σ : S)
@[simp] def F123l0x:PC:=(.seq (.seq (rn [mv 10 5,bk 11 .lss 10 3] [2,3,4,5,11]) (.cond (.t 11) (.skip) (.exit 0))) (.seq (.block 1 (.seq (rn [mv 14 3,jj 15 (.call 136 [(.t 14),(kk 4)]),bk 16 .gtr 15 0] [2,3,4,5,16]) (.cond (.t 16) (rn [mv 17 5,mv 18 3,jj 19 (.call 137 [(.t 18),(kk 2),(kk 3)]),fa 20 0 4,jj 21 (.indexAddrA 3 4 (.t 20) (.t 17)),st 4 21 19] [2,3,4,5]) (.skip)))) (rn [mv 12 5,bk 13 .add 12 1,mv 5 13] [2,3,4,5])))
def F123l0:PC:=F123l0x
theorem qcO:run C q F123l0 fr σ = run C q F123l0x fr σ := rfl
def F123:PFun:=⟨1,[.cell 2 true 12],.seq (rn [jj 2 (.alloc [zN,zN,eN,sN,zN,zN,eN,sN,zN,zN,eN,sN])] [0,2]) (.seq (rn [mv 6 0,jj 7 (.call 23 [(.t 6),(kk 60)]),jj 8 (.build [sN,zN] [(0,1,(.t 7))]),bx 9 8,mv 3 9] [2,3]) (.seq (rn [jj 4 (.alloc [zN,zN,eN,sN,zN,zN,eN,sN,zN,zN,eN,sN])] [2,3,4]) (.seq (.seq (rn [mx 5 (kk 0)] [2,3,4,5]) (.block 0 (.loop F123l0))) (.seq (rn [la 22 12 4,st 12 2 22] [2]) (.ret))))),false,false,false⟩
def F136:PFun:=⟨2,[.tmp 4],.seq (rn [mx 4 (kk 0)] [0,1]) (.seq (.seq (.region (some []) [mv 6 0,nc 7 6,fa 8 1 7,l1 9 8,mv 10 0,nc 11 10,fa 12 0 11,l1 13 12,ls 14 13,bn 15 .geq 9 14] [0,1,15]) (.cond (.t 15) (.seq (rn [mx 4 (kk 0)] [4]) (.ret)) (.skip))) (.seq (.region (some []) [mv 16 0,nc 17 16,fa 18 0 17,l1 19 18,mv 20 0,nc 21 20,fa 22 1 21,l1 23 22,jj 24 (.indexAddr 1 (.t 19) (.t 23)),l1 25 24,jj 26 (.call 17 [(.t 25),(kk 1000000)]),mv 5 26] [0,1,5] [10]) (.seq (rn [mv 27 0,nc 28 27,fa 29 1 28,l1 30 29,bk 31 .add 30 1,nc 32 27,fa 33 1 32,st 1 33 31] [1,5]) (.seq (rn [mv 34 5,mv 35 1,bn 36 .rem 34 35,mv 4 36] [4]) (.ret))))),false,false,false⟩
@[simp] def F137l0x:PC:=(.seq (.seq (rn [mv 14 8,bk 15 .gtr 14 0] [0,1,6,7,8,15]) (.cond (.t 15) (.skip) (.exit 0))) (.seq (.block 1 (.region (some []) [fa 18 3 7,⟨some 19,.load false 1 (.t 18),none,[4]⟩,mv 20 0,mv 21 1,cl 22 162 [20,21],jj 23 (.bslice 1 [zN,zN,eN,sN] [(0,4,(.t 22))]),jj 24 (.append 4 56 (.t 19) (.t 23)),fa 25 3 7,st 1 25 24] [0,1,6,7,8] [4])) (rn [mv 16 8,bk 17 .sub 16 1,mv 8 17] [0,1,6,7,8])))
def F137l0:PC:=F137l0x
theorem qfk:run C q F137l0 fr σ = run C q F137l0x fr σ := rfl
def F137:PFun:=⟨3,[.cell 6 true 4],.seq (rn [jj 6 (.alloc [zN,zN,eN,sN])] [0,1,2,6]) (.seq (rn [jj 9 (.build [zN,zN,eN,sN] [(0,1,(kk 7))]),jj 7 (.alloc [zN,zN,eN,sN]),st 4 7 9] [0,1,2,6,7]) (.seq (.seq (rn [mv 10 0,mv 11 2,bk 12 .add 11 1,cl 13 136 [10,12],mv 8 13] [0,1,6,7,8]) (.block 0 (.loop F137l0))) (.seq (rn [la 26 4 7,st 4 6 26] [6]) (.ret)))),false,false,false⟩
def F162:PFun:=⟨2,[.cell 4 true 4],.seq (rn [jj 4 (.alloc [zN,zN,eN,sN])] [0,1,4]) (.seq (rn [mv 13 0,jj 14 (.call 136 [(.t 13),(kk 10)]),mv 5 14] [0,1,4,5]) (.seq (.seq (rn [mv 15 1,bk 16 .leq 15 0] [0,1,4,5,16]) (.cond (.t 16) (rn [mv 17 5,bk 18 .rem 17 7,mv 5 18] [0,1,4,5]) (.skip))) (.seq (.seq (rn [mv 19 5] [0,1,4,19]) (.block 0 (.seq (.seq (rn [bk 21 .eql 19 0,mv 20 21] [0,1,4,19,20]) (.cond (.t 20) (.skip) (rn [bk 22 .eql 19 1,mv 20 22] [0,1,4,19,20]))) (.cond (.t 20) (.seq (.region (some []) [jj 23 (.bslice 4 [eN,eN,eN,eN] [(0,1,(.c (.string ⟨#[105]⟩))),(1,1,(.c (.string ⟨#[110]⟩))),(2,1,(.c (.string ⟨#[115,117,109]⟩))),(3,1,(.c (.string ⟨#[118,51]⟩)))]),mv 24 0,jj 25 (.call 136 [(.t 24),(kk 4)]),jj 26 (.indexAddr 1 (.t 23) (.t 25)),⟨some 27,.load false 1 (.t 26),none,[6]⟩,mv 28 0,jj 29 (.call 177 [(.t 28),(kk 2)]),jj 30 (.call 176 [(kk 1),(.t 27),(.t 29)]),st 4 4 30] [4] [6,7]) (.ret)) (.seq (.seq (rn [bk 32 .eql 19 2,mv 31 32] [0,1,4,19,31]) (.cond (.t 31) (.skip) (.seq (rn [bk 33 .eql 19 3,mv 31 33] [0,1,4,19,31]) (.cond (.t 31) (.skip) (rn [bk 34 .eql 19 4,mv 31 34] [0,1,4,19,31]))))) (.cond (.t 31) (.seq (rn [jj 35 (.bslice 6 [eN,eN,eN,eN,eN,eN] [(0,1,(.c (.string ⟨#[120]⟩))),(1,1,(.c (.string ⟨#[121]⟩))),(2,1,(.c (.string ⟨#[118,120]⟩))),(3,1,(.c (.string ⟨#[118,121]⟩))),(4,1,(.c (.string ⟨#[97]⟩))),(5,1,(.c (.string ⟨#[98]⟩)))]),mv 36 0,jj 37 (.call 136 [(.t 36),(kk 6)]),jj 38 (.indexAddr 1 (.t 35) (.t 37)),l1 39 38,mv 6 39] [0,4,6]) (.seq (rn [mv 40 0,jj 41 (.call 177 [(.t 40),(kk 1)]),jj 7 (.alloc [zN,zN,eN,sN]),st 4 7 41] [0,4,6,7]) (.seq (.region (some []) [mv 42 6,⟨some 43,.load true 4 (.t 7),none,[3]⟩,mv 44 0,jj 45 (.call 177 [(.t 44),(kk 2)]),jj 46 (.call 178 [(kk 2),(.t 42),(.t 43),(.t 45)]),st 4 4 46] [4] [3,4]) (.ret)))) (.seq (rn [bk 48 .eql 19 5,mv 47 48] [0,1,4,19,47]) (.cond (.t 47) (.seq (rn [mv 49 0,jj 50 (.call 177 [(.t 49),(kk 0)]),jj 8 (.alloc [zN,zN,eN,sN]),st 4 8 50] [0,4,8]) (.seq (.region (some []) [⟨some 51,.load true 4 (.t 8),none,[2]⟩,mv 52 0,jj 53 (.call 177 [(.t 52),(kk 1)]),jj 54 (.call 178 [(kk 5),(.c (.string ⟨#[]⟩)),(.t 51),(.t 53)]),st 4 4 54] [4] [2,3]) (.ret))) (.seq (rn [bk 56 .eql 19 6,mv 55 56] [0,1,4,19,55]) (.cond (.t 55) (.seq (.seq (rn [mv 57 0,jj 58 (.call 136 [(.t 57),(kk 3)]),bk 59 .gtr 58 0] [0,4,59]) (.cond (.t 59) (.seq (rn [mv 60 0,jj 61 (.call 177 [(.t 60),(kk 1)]),jj 62 (.call 176 [(kk 1),(.c (.string ⟨#[110]⟩)),(.t 61)]),st 4 4 62] [4]) (.ret)) (.skip))) (.seq (rn [jj 63 (.build [zN,zN,eN,sN] [(0,1,(kk 6))]),st 4 4 63] [4]) (.ret))) (.seq (rn [bk 65 .eql 19 7,mv 64 65] [0,1,4,64]) (.cond (.t 64) (.seq (rn [mv 66 0,jj 67 (.call 179 [(.t 66),(kk 1)]),jj 9 (.alloc [zN,zN,eN,sN]),st 4 9 67] [0,1,4,9]) (.seq (.region (some []) [⟨some 68,.load true 4 (.t 9),none,[4]⟩,mv 69 0,mv 70 1,bk 71 .sub 70 1,jj 72 (.call 137 [(.t 69),(.t 71),(kk 2)]),jj 73 (.call 178 [(kk 4),(.c (.string ⟨#[]⟩)),(.t 68),(.t 72)]),st 4 4 73] [4] [4,5]) (.ret))) (.skip))))))))))))) (.seq (rn [mv 74 0,jj 75 (.call 179 [(.t 74),(kk 2)]),jj 10 (.alloc [zN,zN,eN,sN]),st 4 10 75] [0,1,4,10]) (.seq (rn [mv 76 0,mv 77 1,bk 78 .sub 77 1,jj 79 (.call 137 [(.t 76),(.t 78),(kk 2)]),jj 11 (.alloc [zN,zN,eN,sN]),st 4 11 79] [0,1,4,10,11]) (.seq (rn [jj 80 (.build [zN,zN,eN,sN] [(0,1,(kk 7))]),jj 12 (.alloc [zN,zN,eN,sN]),st 4 12 80] [0,1,4,10,11,12]) (.seq (.seq (rn [mv 81 0,jj 82 (.call 136 [(.t 81),(kk 2)]),bk 83 .eql 82 1] [0,1,4,10,11,12,83]) (.cond (.t 83) (rn [mv 84 0,mv 85 1,bk 86 .sub 85 1,jj 87 (.call 137 [(.t 84),(.t 86),(kk 2)]),st 4 12 87] [4,10,11,12]) (.skip))) (.seq (rn [la 88 4 10,la 89 4 11,la 90 4 12,jj 91 (.bslice 3 [zN,zN,eN,sN,zN,zN,eN,sN,zN,zN,eN,sN] [(0,4,(.t 88)),(4,4,(.t 89)),(8,4,(.t 90))]),jj 92 (.build [zN,zN,eN,sN] [(0,1,(kk 3)),(3,1,(.t 91))]),st 4 4 92] [4]) (.ret))))))))),false,false,false⟩
def F176:PFun:=⟨3,[.cell 6 true 4],.seq (rn [bx 5 2,jj 6 (.alloc [zN,zN,eN,sN])] [0,1,5,6]) (.seq (rn [mv 7 0,mv 8 1,la 9 4 5,jj 10 (.bslice 1 [zN,zN,eN,sN] [(0,4,(.t 9))]),jj 11 (.build [zN,zN,eN,sN] [(0,1,(.t 7)),(2,1,(.t 8)),(3,1,(.t 10))]),st 4 6 11] [6]) (.ret)),false,false,false⟩
def F177:PFun:=⟨2,[.cell 4 true 4],.seq (rn [jj 4 (.alloc [zN,zN,eN,sN])] [0,1,4]) (.seq (rn [mv 9 0,jj 10 (.call 136 [(.t 9),(kk 12)]),mv 5 10] [0,1,4,5]) (.seq (.seq (rn [mv 11 1,bk 12 .leq 11 0] [0,1,4,5,12]) (.cond (.t 12) (rn [mv 13 5,bk 14 .rem 13 6,mv 5 14] [0,1,4,5]) (.skip))) (.seq (.seq (rn [mv 15 5] [0,1,4,15]) (.block 0 (.seq (.seq (rn [bk 17 .eql 15 0,mv 16 17] [0,1,4,15,16]) (.cond (.t 16) (.skip) (rn [bk 18 .eql 15 1,mv 16 18] [0,1,4,15,16]))) (.cond (.t 16) (.seq (rn [jj 19 (.bslice 8 [zN,zN,zN,zN,zN,zN,zN,zN] [(0,1,(kk 0)),(1,1,(kk 1)),(2,1,(kk 2)),(3,1,(kk 3)),(4,1,(kk 7)),(5,1,(kk 100)),(6,1,(kk 1024)),(7,1,(kk 2147483647))]),mv 20 0,jj 21 (.call 136 [(.t 20),(kk 8)]),jj 22 (.indexAddr 1 (.t 19) (.t 21)),l1 23 22,jj 24 (.build [zN,zN,eN,sN] [(0,1,(kk 8)),(1,1,(.t 23))]),st 4 4 24] [4]) (.ret)) (.seq (.seq (rn [bk 26 .eql 15 2,mv 25 26] [0,1,4,15,25]) (.cond (.t 25) (.skip) (rn [bk 27 .eql 15 3,mv 25 27] [0,1,4,15,25]))) (.cond (.t 25) (.seq (rn [jj 28 (.bslice 4 [eN,eN,eN,eN] [(0,1,(.c (.string ⟨#[105]⟩))),(1,1,(.c (.string ⟨#[110]⟩))),(2,1,(.c (.string ⟨#[115,117,109]⟩))),(3,1,(.c (.string ⟨#[118,51]⟩)))]),mv 29 0,jj 30 (.call 136 [(.t 29),(kk 4)]),jj 31 (.indexAddr 1 (.t 28) (.t 30)),l1 32 31,jj 33 (.build [zN,zN,eN,sN] [(0,1,(kk 10)),(2,1,(.t 32))]),st 4 4 33] [4]) (.ret)) (.seq (.seq (rn [bk 35 .eql 15 4,mv 34 35] [0,1,4,15,34]) (.cond (.t 34) (.skip) (rn [bk 36 .eql 15 5,mv 34 36] [0,1,4,15,34]))) (.cond (.t 34) (.seq (rn [jj 37 (.bslice 3 [eN,eN,eN] [(0,1,(.c (.string ⟨#[115,101,108,102]⟩))),(1,1,(.c (.string ⟨#[111,116,104,101,114]⟩))),(2,1,(.c (.string ⟨#[116,105,99,107]⟩)))]),mv 38 0,jj 39 (.call 136 [(.t 38),(kk 3)]),jj 40 (.indexAddr 1 (.t 37) (.t 39)),l1 41 40,jj 42 (.build [zN,zN,eN,sN] [(0,1,(kk 12)),(2,1,(.t 41))]),st 4 4 42] [4]) (.ret)) (.seq (.seq (rn [bk 44 .eql 15 6,mv 43 44] [0,1,4,15,43]) (.cond (.t 43) (.skip) (rn [bk 45 .eql 15 7,mv 43 45] [0,1,4,15,43]))) (.cond (.t 43) (.seq (rn [jj 46 (.bslice 8 [eN,eN,eN,eN,eN,eN,eN,eN] [(0,1,(.c (.string ⟨#[120]⟩))),(1,1,(.c (.string ⟨#[121]⟩))),(2,1,(.c (.string ⟨#[118,120]⟩))),(3,1,(.c (.string ⟨#[118,121]⟩))),(4,1,(.c (.string ⟨#[97]⟩))),(5,1,(.c (.string ⟨#[98]⟩))),(6,1,(.c (.string ⟨#[104,105,116]⟩))),(7,1,(.c (.string ⟨#[115,116,105,108,108]⟩)))]),mv 47 0,jj 48 (.call 136 [(.t 47),(kk 8)]),jj 49 (.indexAddr 1 (.t 46) (.t 48)),l1 50 49,mv 6 50] [0,1,4,6]) (.seq (rn [mv 51 6,mv 52 0,mv 53 1,bk 54 .sub 53 1,cl 55 177 [52,54],jj 56 (.call 176 [(kk 11),(.t 51),(.t 55)]),st 4 4 56] [4]) (.ret))) (.seq (rn [bk 58 .eql 15 8,mv 57 58] [0,1,4,57]) (.cond (.t 57) (.seq (rn [mv 59 0,mv 60 1,bk 61 .sub 60 1,cl 62 177 [59,61],jj 63 (.call 176 [(kk 13),(.c (.string ⟨#[45]⟩)),(.t 62)]),st 4 4 63] [4]) (.ret)) (.skip))))))))))))) (.seq (rn [jj 64 (.bslice 4 [eN,eN,eN,eN] [(0,1,(.c (.string ⟨#[43]⟩))),(1,1,(.c (.string ⟨#[45]⟩))),(2,1,(.c (.string ⟨#[42]⟩))),(3,1,(.c (.string ⟨#[47]⟩)))]),mv 65 0,jj 66 (.call 136 [(.t 65),(kk 4)]),jj 67 (.indexAddr 1 (.t 64) (.t 66)),l1 68 67,mv 7 68] [0,1,4,7]) (.seq (rn [mv 69 0,mv 70 1,bk 71 .sub 70 1,cl 72 177 [69,71],jj 8 (.alloc [zN,zN,eN,sN]),st 4 8 72] [0,1,4,7,8]) (.seq (.region (some []) [mv 73 7,⟨some 74,.load true 4 (.t 8),none,[5]⟩,mv 75 0,mv 76 1,bk 77 .sub 76 1,cl 78 177 [75,77],jj 79 (.call 178 [(kk 14),(.t 73),(.t 74),(.t 78)]),st 4 4 79] [4] [5,6]) (.ret))))))),false,false,false⟩
def F178:PFun:=⟨4,[.cell 8 true 4],.seq (rn [bx 6 2,bx 7 3,jj 8 (.alloc [zN,zN,eN,sN])] [0,1,6,7,8]) (.seq (rn [mv 9 0,mv 10 1,la 11 4 6,la 12 4 7,jj 13 (.bslice 2 [zN,zN,eN,sN,zN,zN,eN,sN] [(0,4,(.t 11)),(4,4,(.t 12))]),jj 14 (.build [zN,zN,eN,sN] [(0,1,(.t 9)),(2,1,(.t 10)),(3,1,(.t 13))]),st 4 8 14] [8]) (.ret)),false,false,false⟩
def F179:PFun:=⟨2,[.cell 4 true 4],.seq (rn [jj 4 (.alloc [zN,zN,eN,sN])] [0,1,4]) (.seq (rn [mv 10 0,jj 11 (.call 136 [(.t 10),(kk 8)]),mv 5 11] [0,1,4,5]) (.seq (.seq (rn [mv 12 1,bk 13 .leq 12 0] [0,1,4,5,13]) (.cond (.t 13) (rn [mv 14 5,bk 15 .rem 14 4,mv 5 15] [0,1,4,5]) (.skip))) (.seq (.seq (rn [mv 16 5] [0,1,4,16]) (.block 0 (.seq (rn [bk 18 .eql 16 0,mv 17 18] [0,1,4,16,17]) (.cond (.t 17) (.seq (rn [mv 19 0,jj 20 (.call 136 [(.t 19),(kk 2)]),jj 21 (.build [zN,zN,eN,sN] [(0,1,(kk 9)),(1,1,(.t 20))]),st 4 4 21] [4]) (.ret)) (.seq (.seq (rn [bk 23 .eql 16 1,mv 22 23] [0,1,4,16,22]) (.cond (.t 22) (.skip) (.seq (rn [bk 24 .eql 16 2,mv 22 24] [0,1,4,16,22]) (.cond (.t 22) (.skip) (.seq (rn [bk 25 .eql 16 3,mv 22 25] [0,1,4,16,22]) (.cond (.t 22) (.skip) (rn [bk 26 .eql 16 4,mv 22 26] [0,1,4,16,22]))))))) (.cond (.t 22) (.seq (rn [jj 27 (.bslice 6 [eN,eN,eN,eN,eN,eN] [(0,1,(.c (.string ⟨#[60]⟩))),(1,1,(.c (.string ⟨#[60,61]⟩))),(2,1,(.c (.string ⟨#[62]⟩))),(3,1,(.c (.string ⟨#[62,61]⟩))),(4,1,(.c (.string ⟨#[61,61]⟩))),(5,1,(.c (.string ⟨#[33,61]⟩)))]),mv 28 0,jj 29 (.call 136 [(.t 28),(kk 6)]),jj 30 (.indexAddr 1 (.t 27) (.t 29)),l1 31 30,mv 6 31] [0,1,4,6]) (.seq (rn [mv 32 0,mv 33 1,bk 34 .sub 33 1,cl 35 177 [32,34],jj 7 (.alloc [zN,zN,eN,sN]),st 4 7 35] [0,1,4,6,7]) (.seq (.region (some []) [mv 36 6,⟨some 37,.load true 4 (.t 7),none,[5]⟩,mv 38 0,mv 39 1,bk 40 .sub 39 1,cl 41 177 [38,40],jj 42 (.call 178 [(kk 14),(.t 36),(.t 37),(.t 41)]),st 4 4 42] [4] [5,6]) (.ret)))) (.seq (rn [bk 44 .eql 16 5,mv 43 44] [0,1,4,43]) (.cond (.t 43) (.seq (rn [mv 45 0,mv 46 1,bk 47 .sub 46 1,cl 48 179 [45,47],jj 49 (.call 176 [(kk 13),(.c (.string ⟨#[33]⟩)),(.t 48)]),st 4 4 49] [4]) (.ret)) (.skip))))))))) (.seq (rn [jj 50 (.bslice 2 [eN,eN] [(0,1,(.c (.string ⟨#[38,38]⟩))),(1,1,(.c (.string ⟨#[124,124]⟩)))]),mv 51 0,jj 52 (.call 136 [(.t 51),(kk 2)]),jj 53 (.indexAddr 1 (.t 50) (.t 52)),l1 54 53,mv 8 54] [0,1,4,8]) (.seq (rn [mv 55 0,mv 56 1,bk 57 .sub 56 1,cl 58 179 [55,57],jj 9 (.alloc [zN,zN,eN,sN]),st 4 9 58] [0,1,4,8,9]) (.seq (.region (some []) [mv 59 8,⟨some 60,.load true 4 (.t 9),none,[5]⟩,mv 61 0,mv 62 1,bk 63 .sub 62 1,cl 64 179 [61,63],jj 65 (.call 178 [(kk 14),(.t 59),(.t 60),(.t 64)]),st 4 4 65] [4] [5,6]) (.ret))))))),false,false,false⟩
end Go.Pm.F
end
section
namespace Go.Pm.F
variable(C:Task->Option Res)(q:Nat)(fr:Fr)(σ : S)
@[simp] def F132l1x:PC:=(.seq (.seq (rn [mv 43 8,bk 44 .lss 43 3] [2,5,6,7,8,44]) (.cond (.t 44) (.skip) (.exit 2))) (.seq (.block 3 (.seq (rn [mv 47 5,cl 48 151 [47],jj 49 (.call 152 []),mv 50 8,jj 51 (.indexAddr 1 (.t 49) (.t 50)),l1 52 51,bn 53 .eql 48 52] [2,5,6,7,8,53]) (.cond (.t 53) (rn [mv 54 8,mv 7 54] [2,5,6,7,8]) (.skip)))) (rn [mv 45 8,bk 46 .add 45 1,mv 8 46] [2,5,6,7,8])))
def F132l1:PC:=F132l1x
@[simp] def F132l0x:PC:=(.seq (.seq (.region (some []) [mv 17 5,nc 18 17,fa 19 3 18,l1 20 19,bk 21 .eql 20 0,mv 22 21,jt 23 22 (.mov (.t 5)),jt 24 22 (.nilchk (.t 23)),jt 25 22 (.fieldAddr 0 (.t 24)),jt 26 22 (.load false 1 (.t 25)),jt 27 22 (.mov (.t 5)),jt 28 22 (.nilchk (.t 27)),jt 29 22 (.fieldAddr 1 (.t 28)),jt 30 22 (.load false 1 (.t 29)),jt 31 22 (.indexAddr 3 (.t 26) (.t 30)),jt 32 22 (.fieldAddr 1 (.t 31)),jt 33 22 (.load false 1 (.t 32)),jt 34 22 (.bin .neq (.t 33) (.c (.string ⟨#[]⟩))),jj 35 (.pick (.t 22) (.t 34) kF)] [2,5,6,35]) (.cond (.t 35) (.skip) (.exit 0))) (.block 1 (.seq (rn [mv 36 5,jj 37 (.call 150 [(.t 36),(.c (.string ⟨#[111,110]⟩))])] [2,5,6]) (.seq (.seq (rn [mv 38 5,nc 39 38,fa 40 3 39,l1 41 40,bk 42 .neq 41 0] [2,5,6,42]) (.cond (.t 42) (.exit 0) (.skip))) (.seq (rn [mx 7 (kk (-1))] [2,5,6,7]) (.seq (.seq (rn [mx 8 (kk 0)] [2,5,6,7,8]) (.block 2 (.loop F132l1))) (.seq (.seq (rn [mv 55 7,bk 56 .lss 55 0] [2,5,6,7,56]) (.cond (.t 56) (.seq (rn [mv 57 5,jj 58 (.call 153 [(.t 57),(kk 12)])] [2,5,6]) (.exit 0)) (.skip))) (.seq (.seq (rn [mv 59 7,fa 60 0 6,jj 61 (.indexAddrA 3 4 (.t 60) (.t 59)),fa 62 0 61,l1 63 62,bk 64 .neq 63 0] [2,5,6,7,64]) (.cond (.t 64) (.seq (rn [mv 65 5,jj 66 (.call 153 [(.t 65),(kk 4)])] [2,5,6]) (.exit 0)) (.skip))) (.seq (rn [mv 67 5,cl 68 154 [67]] [2,5,6,7]) (rn [mv 69 7,mv 70 5,jj 71 (.call 155 [(.t 70),(kk 1)]),fa 72 0 6,jj 73 (.indexAddrA 3 4 (.t 72) (.t 69)),st 4 73 71] [2,5,6]))))))))))
def F132l0:PC:=F132l0x
def F132:PFun:=⟨1,[.cell 2 true 12,.tmp 3,.tmp 4],.seq (rn [jj 2 (.alloc [zN,zN,eN,sN,zN,zN,eN,sN,zN,zN,eN,sN]),mx 3 (kk 0),mx 4 (kk 0)] [0,2]) (.seq (.seq (rn [mv 9 0,lz 10 9,bk 11 .gtr 10 2000] [0,2,11]) (.cond (.t 11) (.seq (rn [jj 12 (.build [zN,zN,eN,sN,zN,zN,eN,sN,zN,zN,eN,sN] []),st 12 2 12,mx 3 (kk 2000),mx 4 (kk 2)] [2,3,4]) (.ret)) (.skip))) (.seq (rn [mv 13 0,cl 14 149 [13],jj 15 (.build [sN,zN,zN,zN] [(0,1,(.t 14))]),bx 16 15,mv 5 16] [2,5]) (.seq (rn [jj 6 (.alloc [zN,zN,eN,sN,zN,zN,eN,sN,zN,zN,eN,sN])] [2,5,6]) (.seq (.block 0 (.loop F132l0)) (.seq (.seq (rn [mv 74 5,nc 75 74,fa 76 3 75,l1 77 76,bk 78 .neq 77 0] [2,5,6,78]) (.cond (.t 78) (.seq (.region (some []) [jj 79 (.build [zN,zN,eN,sN,zN,zN,eN,sN,zN,zN,eN,sN] []),mv 80 5,nc 81 80,fa 82 2 81,⟨some 83,.load false 1 (.t 82),none,[9]⟩,mv 84 5,nc 85 84,fa 86 3 85,⟨some 87,.load false 1 (.t 86),none,[9]⟩,st 12 2 79,mv 3 83,mv 4 87] [2,3,4]) (.ret)) (.skip))) (.seq (rn [la 88 12 6,st 12 2 88,mx 3 (kk 0),mx 4 (kk 0)] [2,3,4]) (.ret))))))),false,false,false⟩
@[simp] def F149l0x:PC:=(.seq (.seq (rn [mv 8 4,mv 9 0,lz 10 9,bn 11 .lss 8 10] [0,3,4,11]) (.cond (.t 11) (.skip) (.exit 0))) (.block 1 (.seq (rn [mv 12 0,mv 13 4,cl 14 171 [12,13],jj 5 (.alloc [zN,eN,zN]),st 3 5 14] [0,3,4,5]) (.seq (rn [mv 15 3,la 16 3 5,jj 17 (.bslice 1 [zN,eN,zN] [(0,3,(.t 16))]),jj 18 (.append 3 32 (.t 15) (.t 17)),mv 3 18] [0,3,4,5]) (rn [mv 19 0,mv 20 4,fa 21 1 5,l1 22 21,lz 23 22,bn 24 .add 20 23,cl 25 170 [19,24],mv 4 25] [0,3,4])))))
def F149l0:PC:=F149l0x
def F149:PFun:=⟨1,[.tmp 2],.seq (rn [jj 2 (.mov (.c (.slice none 0 0)))] [0]) (.seq (rn [jj 3 (.mov (.c (.slice none 0 0)))] [0,3]) (.seq (rn [mv 6 0,jj 7 (.call 170 [(.t 6),(kk 0)]),mv 4 7] [0,3,4]) (.seq (.block 0 (.loop F149l0)) (.seq (rn [mv 26 3,mv 27 0,lz 28 27,jj 29 (.build [zN,eN,zN] [(0,1,(.t 28))]),jj 30 (.bslice 1 [zN,eN,zN] [(0,3,(.t 29))]),jj 31 (.append 3 32 (.t 26) (.t 30)),mv 2 31] [2]) (.ret))))),false,false,false⟩
def F150:PFun:=⟨2,[],.seq (.seq (rn [mv 4 0,nc 5 4,fa 6 3 5,l1 7 6,bk 8 .eql 7 0,mv 9 8,jt 10 9 (.mov (.t 0)),jt 11 9 (.call 151 [(.t 10)]),jt 12 9 (.mov (.t 1)),jt 13 9 (.bin .neq (.t 11) (.t 12)),jj 14 (.pick (.t 9) (.t 13) kF)] [0,14]) (.cond (.t 14) (rn [mv 15 0,jj 16 (.call 153 [(.t 15),(kk 12)])] [0]) (.skip))) (.seq (rn [mv 17 0,nc 18 17,fa 19 3 18,l1 20 19,bk 21 .eql 20 0] [0,21]) (.cond (.t 21) (rn [mv 22 0,cl 23 154 [22]] []) (.skip))),false,false,false⟩
def F151:PFun:=⟨1,[.tmp 2],.seq (rn [jj 2 (.mov (.c (.string ⟨#[]⟩)))] [0]) (.seq (.region (some [(22,[zN,eN,zN])]) [mv 4 0,nc 5 4,fa 6 0 5,l1 7 6,mv 8 0,nc 9 8,fa 10 1 9,l1 11 10,jj 12 (.indexAddr 3 (.t 7) (.t 11)),la 13 3 12,jj 3 (.fill 22),st 3 3 13] [3]) (.seq (.seq (rn [fa 14 2 3,l1 15 14,bk 16 .neq 15 0] [3,16]) (.cond (.t 16) (.seq (rn [jj 2 (.mov (.c (.string ⟨#[63]⟩)))] [2]) (.ret)) (.skip))) (.seq (rn [fa 17 1 3,l1 18 17,mv 2 18] [2]) (.ret)))),false,false,false⟩
def F152:PFun:=⟨0,[.tmp 0],.seq (rn [jj 0 (.mov (.c (.slice none 0 0)))] []) (.seq (rn [jj 1 (.bslice 3 [eN,eN,eN] [(0,1,(.c (.string ⟨#[97,99,116]⟩))),(1,1,(.c (.string ⟨#[116,105,99,107]⟩))),(2,1,(.c (.string ⟨#[104,105,116]⟩)))]),mv 0 1] [0]) (.ret)),false,false,false⟩
def F153:PFun:=⟨2,[],.seq (.seq (rn [mv 4 0,nc 5 4,fa 6 3 5,l1 7 6,bk 8 .neq 7 0] [0,1,8]) (.cond (.t 8) (.ret) (.skip))) (.seq (.region (some []) [mv 9 0,mv 10 0,nc 11 10,fa 12 0 11,l1 13 12,mv 14 0,nc 15 14,fa 16 1 15,l1 17 16,jj 18 (.indexAddr 3 (.t 13) (.t 17)),fa 19 0 18,l1 20 19,nc 21 9,fa 22 2 21,st 1 22 20] [0,1]) (.seq (rn [mv 23 0,mv 24 1,nc 25 23,fa 26 3 25,st 1 26 24] [0]) (.seq (.region (some []) [mv 27 0,nc 28 27,fa 29 0 28,l1 30 29,mv 31 0,nc 32 31,fa 33 1 32,l1 34 33,jj 35 (.indexAddr 3 (.t 30) (.t 34)),fa 36 2 35,l1 37 36,bk 38 .neq 37 0] [0,38]) (.cond (.t 38) (.region (some []) [mv 39 0,mv 40 0,nc 41 40,fa 42 0 41,l1 43 42,mv 44 0,nc 45 44,fa 46 1 45,l1 47 46,jj 48 (.indexAddr 3 (.t 43) (.t 47)),fa 49 2 48,l1 50 49,nc 51 39,fa 52 3 51,st 1 52 50] []) (.skip))))),false,false,false⟩
def F154:PFun:=⟨1,[],.seq (.region (some []) [mv 2 0,nc 3 2,fa 4 1 3,l1 5 4,bk 6 .add 5 1,mv 7 0,nc 8 7,fa 9 0 8,l1 10 9,ls 11 10,bn 12 .lss 6 11] [0,12]) (.cond (.t 12) (rn [mv 13 0,nc 14 13,fa 15 1 14,l1 16 15,bk 17 .add 16 1,nc 18 13,fa 19 1 18,st 1 19 17] []) (.skip)),false,false,false⟩
@[simp] def F155l0x:PC:=(.seq (.seq (rn [mv 10 0,nc 11 10,fa 12 3 11,l1 13 12,bk 14 .eql 13 0,mv 15 14,jt 16 15 (.mov (.t 0)),jt 17 15 (.call 151 [(.t 16)]),jt 18 15 (.bin .neq (.t 17) (.c (.string ⟨#[125]⟩))),jj 19 (.pick (.t 15) (.t 18) kF)] [0,1,4,5,19]) (.cond (.t 19) (.skip) (.exit 0))) (.block 1 (.region (some []) [fa 20 3 5,⟨some 21,.load false 1 (.t 20),none,[4]⟩,mv 22 0,mv 23 1,cl 24 173 [22,23],jj 25 (.bslice 1 [zN,zN,eN,sN] [(0,4,(.t 24))]),jj 26 (.append 4 56 (.t 21) (.t 25)),fa 27 3 5,st 1 27 26] [0,1,4,5] [4])))
def F155l0:PC:=F155l0x
def F155:PFun:=⟨2,[.cell 4 true 4],.seq (rn [jj 4 (.alloc [zN,zN,eN,sN])] [0,1,4]) (.seq (rn [jj 6 (.build [zN,zN,eN,sN] [(0,1,(kk 7))]),jj 5 (.alloc [zN,zN,eN,sN]),st 4 5 6] [0,1,4,5]) (.seq (rn [mv 7 0,mv 8 1,jj 9 (.call 172 [(.t 7),(.c (.string ⟨#[123]⟩)),(.t 8)])] [0,1,4,5]) (.seq (.block 0 (.loop F155l0)) (.seq (rn [mv 28 0,jj 29 (.call 150 [(.t 28),(.c (.string ⟨#[125]⟩))])] [4,5]) (.seq (rn [la 30 4 5,st 4 4 30] [4]) (.ret)))))),false,false,false⟩
@[simp] def F170l1x:PC:=(.seq (.seq (rn [mv 13 1,mv 14 0,lz 15 14,bn 16 .lss 13 15,mv 17 16,jt 18 17 (.mov (.t 0)),jt 19 17 (.mov (.t 1)),jt 20 17 (.indexS (.t 18) (.t 19)),jt 21 17 (.bin .neq (.t 20) (.c (.int .u8 10))),jj 22 (.pick (.t 17) (.t 21) kF)] [0,1,22]) (.cond (.t 22) (.skip) (.exit 2))) (.block 3 (rn [mv 23 1,bk 24 .add 23 1,mv 1 24] [0,1])))
def F170l1:PC:=F170l1x
@[simp] def F170l0x:PC:=(.seq (.seq (rn [mv 5 1,mv 6 0,lz 7 6,bn 8 .lss 5 7] [0,1,8]) (.cond (.t 8) (.skip) (.exit 0))) (.block 1 (.seq (.seq (rn [mv 9 0,mv 10 1,jj 11 (.indexS (.t 9) (.t 10)),jj 12 (.bin .eql (.t 11) (.c (.int .u8 35)))] [0,1,12]) (.cond (.t 12) (.seq (.block 2 (.loop F170l1)) (.exit 1)) (.skip))) (.seq (.seq (rn [mv 25 0,mv 26 1,jj 27 (.indexS (.t 25) (.t 26)),jj 28 (.bin .neq (.t 27) (.c (.int .u8 32))),mv 29 28,jt 30 29 (.mov (.t 0)),jt 31 29 (.mov (.t 1)),jt 32 29 (.indexS (.t 30) (.t 31)),jt 33 29 (.bin .neq (.t 32) (.c (.int .u8 9))),jj 34 (.pick (.t 29) (.t 33) kF),mv 35 34,jt 36 35 (.mov (.t 0)),jt 37 35 (.mov (.t 1)),jt 38 35 (.indexS (.t 36) (.t 37)),jt 39 35 (.bin .neq (.t 38) (.c (.int .u8 10))),jj 40 (.pick (.t 35) (.t 39) kF)] [0,1,40]) (.cond (.t 40) (.exit 0) (.skip))) (rn [mv 41 1,bk 42 .add 41 1,mv 1 42] [0,1])))))
def F170l0:PC:=F170l0x
def F170:PFun:=⟨2,[.tmp 4],.seq (rn [mx 4 (kk 0)] [0,1]) (.seq (.block 0 (.loop F170l0)) (.seq (rn [mv 43 1,mv 4 43] [4]) (.ret))),false,false,false⟩
@[simp] def F171l0x:PC:=(.seq (.seq (rn [mv 20 5,mv 21 0,lz 22 21,bn 23 .lss 20 22,mv 24 23,jt 25 24 (.mov (.t 0)),jt 26 24 (.mov (.t 5)),jt 27 24 (.indexS (.t 25) (.t 26)),jt 28 24 (.call 192 [(.t 27)]),jt 29 24 (.mov (.t 28)),jf 30 29 (.mov (.t 0)),jf 31 29 (.mov (.t 5)),jf 32 29 (.indexS (.t 30) (.t 31)),jf 33 29 (.call 193 [(.t 32)]),jt 34 24 (.pick (.t 29) kT (.t 33)),jj 35 (.pick (.t 24) (.t 34) kF)] [0,1,4,5,35]) (.cond (.t 35) (.skip) (.exit 0))) (.block 1 (rn [mv 36 5,bk 37 .add 36 1,mv 5 37] [0,1,4,5])))
def F171l0:PC:=F171l0x
@[simp] def F171l1x:PC:=(.seq (.seq (rn [mv 60 5,mv 61 0,lz 62 61,bn 63 .lss 60 62,mv 64 63,jt 65 64 (.mov (.t 0)),jt 66 64 (.mov (.t 5)),jt 67 64 (.indexS (.t 65) (.t 66)),jt 68 64 (.call 193 [(.t 67)]),jj 69 (.pick (.t 64) (.t 68) kF)] [0,1,4,5,69]) (.cond (.t 69) (.skip) (.exit 2))) (.block 3 (rn [mv 70 5,bk 71 .add 70 1,mv 5 71] [0,1,4,5])))
def F171l1:PC:=F171l1x
def F171:PFun:=⟨2,[.cell 4 true 3],.seq (rn [jj 4 (.alloc [zN,eN,zN])] [0,1,4]) (.seq (.seq (rn [mv 8 1,mv 9 0,lz 10 9,bn 11 .geq 8 10] [0,1,4,11]) (.cond (.t 11) (.seq (rn [mv 12 1,jj 13 (.build [zN,eN,zN] [(0,1,(.t 12))]),st 3 4 13] [4]) (.ret)) (.skip))) (.seq (rn [mv 14 1,bk 15 .add 14 1,mv 5 15] [0,1,4,5]) (.seq (.seq (rn [mv 16 0,mv 17 1,jj 18 (.indexS (.t 16) (.t 17)),cl 19 192 [18]] [0,1,4,5,19]) (.cond (.t 19) (.seq (.block 0 (.loop F171l0)) (.seq (rn [mv 38 1,mv 39 0,mv 40 1,mv 41 5,jj 42 (.sliceS (.t 39) (some (.t 40)) (some (.t 41))),jj 43 (.build [zN,eN,zN] [(0,1,(.t 38)),(1,1,(.t 42))]),jj 6 (.alloc [zN,eN,zN]),st 3 6 43] [1,4,5,6]) (.seq (.seq (rn [mv 44 5,mv 45 1,bn 46 .sub 44 45,bk 47 .gtr 46 8,mv 48 47,jt 49 48 (.fieldAddr 1 (.t 6)),jt 50 48 (.load false 1 (.t 49)),jt 51 48 (.call 194 [(.t 50)]),jt 52 48 (.un .not (.t 51)),jj 53 (.pick (.t 48) (.t 52) kF)] [4,6,53]) (.cond (.t 53) (rn [fa 54 2 6,jn (.store 1 (.t 54) (kk 2))] [4,6]) (.skip))) (.seq (rn [la 55 3 6,st 3 4 55] [4]) (.ret))))) (.skip))) (.seq (.seq (rn [mv 56 0,mv 57 1,jj 58 (.indexS (.t 56) (.t 57)),cl 59 193 [58]] [0,1,4,5,59]) (.cond (.t 59) (.seq (.block 2 (.loop F171l1)) (.seq (rn [mv 72 1,mv 73 0,mv 74 1,mv 75 5,jj 76 (.sliceS (.t 73) (some (.t 74)) (some (.t 75))),jj 77 (.build [zN,eN,zN] [(0,1,(.t 72)),(1,1,(.t 76))]),jj 7 (.alloc [zN,eN,zN]),st 3 7 77] [4,7]) (.seq (.seq (rn [fa 78 1 7,l1 79 78,cl 80 195 [79],bk 81 .lss 80 0] [4,7,81]) (.cond (.t 81) (rn [fa 82 2 7,jn (.store 1 (.t 82) (kk 6))] [4,7]) (.skip))) (.seq (rn [la 83 3 7,st 3 4 83] [4]) (.ret))))) (.skip))) (.seq (.seq (rn [mv 84 1,bk 85 .add 84 2,mv 86 0,lz 87 86,bn 88 .leq 85 87,mv 89 88,jt 90 89 (.bslice 6 [eN,eN,eN,eN,eN,eN] [(0,1,(.c (.string ⟨#[124,124]⟩))),(1,1,(.c (.string ⟨#[38,38]⟩))),(2,1,(.c (.string ⟨#[60,61]⟩))),(3,1,(.c (.string ⟨#[62,61]⟩))),(4,1,(.c (.string ⟨#[61,61]⟩))),(5,1,(.c (.string ⟨#[33,61]⟩)))]),jt 91 89 (.mov (.t 0)),jt 92 89 (.mov (.t 1)),jt 93 89 (.mov (.t 1)),jt 94 89 (.bin .add (.t 93) (kk 2)),jt 95 89 (.mov (.t 0)),jt 96 89 (.len .str (.t 95)),jt 97 89 (.min [(.t 94),(.t 96)]),jt 98 89 (.sliceS (.t 91) (some (.t 92)) (some (.t 97))),jt 99 89 (.call 196 [(.t 90),(.t 98)]),jj 100 (.pick (.t 89) (.t 99) kF)] [0,1,4,5,100]) (.cond (.t 100) (.seq (rn [mv 101 1,mv 102 0,mv 103 1,mv 104 1,bk 105 .add 104 2,jj 106 (.sliceS (.t 102) (some (.t 103)) (some (.t 105))),jj 107 (.build [zN,eN,zN] [(0,1,(.t 101)),(1,1,(.t 106))]),st 3 4 107] [4]) (.ret)) (.skip))) (.seq (.seq (rn [jj 108 (.bslice 16 [eN,eN,eN,eN,eN,eN,eN,eN,eN,eN,eN,eN,eN,eN,eN,eN] [(0,1,(.c (.string ⟨#[123]⟩))),(1,1,(.c (.string ⟨#[125]⟩))),(2,1,(.c (.string ⟨#[91]⟩))),(3,1,(.c (.string ⟨#[93]⟩))),(4,1,(.c (.string ⟨#[40]⟩))),(5,1,(.c (.string ⟨#[41]⟩))),(6,1,(.c (.string ⟨#[61]⟩))),(7,1,(.c (.string ⟨#[59]⟩))),(8,1,(.c (.string ⟨#[44]⟩))),(9,1,(.c (.string ⟨#[60]⟩))),(10,1,(.c (.string ⟨#[62]⟩))),(11,1,(.c (.string ⟨#[43]⟩))),(12,1,(.c (.string ⟨#[45]⟩))),(13,1,(.c (.string ⟨#[42]⟩))),(14,1,(.c (.string ⟨#[47]⟩))),(15,1,(.c (.string ⟨#[33]⟩)))]),mv 109 0,mv 110 1,mv 111 5,jj 112 (.sliceS (.t 109) (some (.t 110)) (some (.t 111))),cl 113 196 [108,112]] [0,1,4,5,113]) (.cond (.t 113) (.seq (rn [mv 114 1,mv 115 0,mv 116 1,mv 117 5,jj 118 (.sliceS (.t 115) (some (.t 116)) (some (.t 117))),jj 119 (.build [zN,eN,zN] [(0,1,(.t 114)),(1,1,(.t 118))]),st 3 4 119] [4]) (.ret)) (.skip))) (.seq (rn [mv 120 1,mv 121 0,mv 122 1,mv 123 5,jj 124 (.sliceS (.t 121) (some (.t 122)) (some (.t 123))),jj 125 (.build [zN,eN,zN] [(0,1,(.t 120)),(1,1,(.t 124)),(2,1,(kk 12))]),st 3 4 125] [4]) (.ret)))))))),false,false,false⟩
def F172:PFun:=⟨3,[],.seq (.seq (rn [mv 6 0,nc 7 6,fa 8 3 7,l1 9 8,bk 10 .eql 9 0,mv 11 10,jt 12 11 (.mov (.t 0)),jt 13 11 (.call 151 [(.t 12)]),jt 14 11 (.mov (.t 1)),jt 15 11 (.bin .eql (.t 13) (.t 14)),jj 16 (.pick (.t 11) (.t 15) kF),mv 17 16,jt 18 17 (.mov (.t 2)),jt 19 17 (.bin .gtr (.t 18) (kk 20)),jj 20 (.pick (.t 17) (.t 19) kF)] [0,1,20]) (.cond (.t 20) (rn [mv 21 0,jj 22 (.call 153 [(.t 21),(kk 2)])] [0,1]) (.skip))) (rn [mv 23 0,mv 24 1,cl 25 150 [23,24]] []),false,false,false⟩
def F173:PFun:=⟨2,[.cell 4 true 4],.seq (rn [jj 4 (.alloc [zN,zN,eN,sN])] [0,1,4]) (.seq (rn [mv 12 0,cl 13 151 [12],mv 5 13] [0,1,4,5]) (.seq (.seq (rn [mv 14 5,jj 15 (.bin .eql (.t 14) (.c (.string ⟨#[105,102]⟩))),mv 16 15,jf 17 16 (.mov (.t 5)),jf 18 16 (.bin .eql (.t 17) (.c (.string ⟨#[119,104,105,108,101]⟩))),jj 19 (.pick (.t 16) kT (.t 18))] [0,1,4,5,19]) (.cond (.t 19) (.seq (rn [mv 20 0,cl 21 154 [20]] [0,1,4,5]) (.seq (rn [mv 22 0,mv 23 1,jj 24 (.call 197 [(.t 22),(.t 23),(kk 1)]),jj 6 (.alloc [zN,zN,eN,sN]),st 4 6 24] [0,1,4,5,6]) (.seq (.region (some []) [⟨some 25,.load true 4 (.t 6),none,[4]⟩,mv 26 0,mv 27 1,bk 28 .add 27 1,cl 29 155 [26,28],jj 30 (.bslice 2 [zN,zN,eN,sN,zN,zN,eN,sN] [(0,4,(.t 25)),(4,4,(.t 29))]),mv 7 30] [0,1,4,5,7] [4]) (.seq (.seq (rn [mv 31 5,jj 32 (.bin .eql (.t 31) (.c (.string ⟨#[119,104,105,108,101]⟩)))] [0,1,4,7,32]) (.cond (.t 32) (.seq (rn [mv 33 7,jj 34 (.build [zN,zN,eN,sN] [(0,1,(kk 4)),(3,1,(.t 33))]),st 4 4 34] [4]) (.ret)) (.skip))) (.seq (rn [jj 35 (.build [zN,zN,eN,sN] [(0,1,(kk 7))]),jj 8 (.alloc [zN,zN,eN,sN]),st 4 8 35] [0,1,4,7,8]) (.seq (.seq (rn [mv 36 0,nc 37 36,fa 38 3 37,l1 39 38,bk 40 .eql 39 0,mv 41 40,jt 42 41 (.mov (.t 0)),jt 43 41 (.call 151 [(.t 42)]),jt 44 41 (.bin .eql (.t 43) (.c (.string ⟨#[101,108,115,101]⟩))),jj 45 (.pick (.t 41) (.t 44) kF)] [0,1,4,7,8,45]) (.cond (.t 45) (.seq (rn [mv 46 0,cl 47 154 [46]] [0,1,4,7,8]) (rn [mv 48 0,mv 49 1,bk 50 .add 49 1,cl 51 155 [48,50],st 4 8 51] [4,7,8])) (.skip))) (.seq (rn [mv 52 7,la 53 4 8,jj 54 (.bslice 1 [zN,zN,eN,sN] [(0,4,(.t 53))]),jj 55 (.append 4 56 (.t 52) (.t 54)),jj 56 (.build [zN,zN,eN,sN] [(0,1,(kk 3)),(3,1,(.t 55))]),st 4 4 56] [4]) (.ret)))))))) (.skip))) (.seq (rn [jj 57 (.build [zN,zN,eN,sN] []),jj 9 (.alloc [zN,zN,eN,sN]),st 4 9 57] [0,1,4,5,9]) (.seq (.seq (rn [mv 58 5,jj 59 (.bin .eql (.t 58) (.c (.string ⟨#[115,116,111,112]⟩)))] [0,1,4,5,9,59]) (.cond (.t 59) (.seq (rn [mv 60 0,cl 61 154 [60]] [0,4,9]) (rn [fa 62 0 9,jn (.store 1 (.t 62) (kk 6))] [0,4,9])) (.seq (rn [mv 63 5,jj 64 (.bin .eql (.t 63) (.c (.string ⟨#[101,102,102,101,99,116]⟩)))] [0,1,4,5,9,64]) (.cond (.t 64) (.seq (rn [mv 65 0,cl 66 154 [65]] [0,1,4,9]) (.seq (rn [mv 67 0,mv 68 1,jj 69 (.call 197 [(.t 67),(.t 68),(kk 1)]),jj 10 (.alloc [zN,zN,eN,sN]),st 4 10 69] [0,1,4,9,10]) (.seq (rn [mv 70 0,jj 71 (.call 150 [(.t 70),(.c (.string ⟨#[44]⟩))])] [0,1,4,9,10]) (.region (some []) [⟨some 72,.load true 4 (.t 10),none,[3]⟩,mv 73 0,mv 74 1,jj 75 (.call 197 [(.t 73),(.t 74),(kk 1)]),jj 76 (.bslice 2 [zN,zN,eN,sN,zN,zN,eN,sN] [(0,4,(.t 72)),(4,4,(.t 75))]),jj 77 (.build [zN,zN,eN,sN] [(0,1,(kk 5)),(3,1,(.t 76))]),st 4 9 77] [0,4,9] [3])))) (.seq (rn [mv 78 5,cl 79 198 [78]] [0,1,4,5,9,79]) (.cond (.t 79) (.seq (rn [mv 80 0,cl 81 154 [80]] [0,1,4,5,9]) (.seq (rn [mv 82 0,mv 83 1,cl 84 199 [82,83],jj 11 (.alloc [zN,zN,eN,sN]),st 4 11 84] [0,1,4,5,9,11]) (.seq (rn [mv 85 0,jj 86 (.call 150 [(.t 85),(.c (.string ⟨#[61]⟩))])] [0,1,4,5,9,11]) (.region (some []) [mv 87 5,⟨some 88,.load true 4 (.t 11),none,[4]⟩,mv 89 0,mv 90 1,jj 91 (.call 197 [(.t 89),(.t 90),(kk 1)]),jj 92 (.bslice 2 [zN,zN,eN,sN,zN,zN,eN,sN] [(0,4,(.t 88)),(4,4,(.t 91))]),jj 93 (.build [zN,zN,eN,sN] [(0,1,(kk 2)),(2,1,(.t 87)),(3,1,(.t 92))]),st 4 9 93] [0,4,9] [4])))) (.seq (rn [mv 94 5,jj 95 (.bin .neq (.t 94) (.c (.string ⟨#[]⟩))),mv 96 95,jt 97 96 (.mov (.t 5)),jt 98 96 (.bin .neq (.t 97) (.c (.string ⟨#[63]⟩))),jj 99 (.pick (.t 96) (.t 98) kF),mv 100 99,jt 101 100 (.mov (.t 5)),jt 102 100 (.indexS (.t 101) (kk 0)),jt 103 100 (.call 192 [(.t 102)]),jj 104 (.pick (.t 100) (.t 103) kF),mv 105 104,jt 106 105 (.mov (.t 5)),jt 107 105 (.call 194 [(.t 106)]),jt 108 105 (.un .not (.t 107)),jj 109 (.pick (.t 105) (.t 108) kF)] [0,1,4,5,9,109]) (.cond (.t 109) (.seq (rn [mv 110 0,cl 111 154 [110]] [0,1,4,5,9]) (.seq (rn [mv 112 0,jj 113 (.call 150 [(.t 112),(.c (.string ⟨#[61]⟩))])] [0,1,4,5,9]) (rn [mv 114 5,mv 115 0,mv 116 1,jj 117 (.call 197 [(.t 115),(.t 116),(kk 1)]),jj 118 (.bslice 1 [zN,zN,eN,sN] [(0,4,(.t 117))]),jj 119 (.build [zN,zN,eN,sN] [(0,1,(kk 1)),(2,1,(.t 114)),(3,1,(.t 118))]),st 4 9 119] [0,4,9]))) (.seq (rn [mv 120 0,jj 121 (.call 153 [(.t 120),(kk 12)])] [4,9]) (.seq (rn [la 122 4 9,st 4 4 122] [4]) (.ret))))))))))) (.seq (rn [mv 123 0,jj 124 (.call 150 [(.t 123),(.c (.string ⟨#[59]⟩))])] [4,9]) (.seq (rn [la 125 4 9,st 4 4 125] [4]) (.ret))))))),false,false,false⟩
def F192:PFun:=⟨1,[.tmp 2],.seq (rn [mx 2 kF] [0]) (.seq (rn [mv 3 0,jj 4 (.bin .geq (.t 3) (.c (.int .u8 97))),mv 5 4,jt 6 5 (.mov (.t 0)),jt 7 5 (.bin .leq (.t 6) (.c (.int .u8 122))),jj 8 (.pick (.t 5) (.t 7) kF),mv 2 8] [2]) (.ret)),false,false,false⟩
def F193:PFun:=⟨1,[.tmp 2],.seq (rn [mx 2 kF] [0]) (.seq (rn [mv 3 0,jj 4 (.bin .geq (.t 3) (.c (.int .u8 48))),mv 5 4,jt 6 5 (.mov (.t 0)),jt 7 5 (.bin .leq (.t 6) (.c (.int .u8 57))),jj 8 (.pick (.t 5) (.t 7) kF),mv 2 8] [2]) (.ret)),false,false,false⟩
def F194:PFun:=⟨1,[.tmp 2],.seq (rn [mx 2 kF] [0]) (.seq (rn [mv 3 0,cl 4 198 [3],mv 5 4,jf 6 5 (.bslice 13 [eN,eN,eN,eN,eN,eN,eN,eN,eN,eN,eN,eN,eN] [(0,1,(.c (.string ⟨#[111,110]⟩))),(1,1,(.c (.string ⟨#[97,99,116]⟩))),(2,1,(.c (.string ⟨#[116,105,99,107]⟩))),(3,1,(.c (.string ⟨#[104,105,116]⟩))),(4,1,(.c (.string ⟨#[105,102]⟩))),(5,1,(.c (.string ⟨#[101,108,115,101]⟩))),(6,1,(.c (.string ⟨#[119,104,105,108,101]⟩))),(7,1,(.c (.string ⟨#[101,102,102,101,99,116]⟩))),(8,1,(.c (.string ⟨#[115,116,111,112]⟩))),(9,1,(.c (.string ⟨#[116,114,117,101]⟩))),(10,1,(.c (.string ⟨#[102,97,108,115,101]⟩))),(11,1,(.c (.string ⟨#[115,101,108,102]⟩))),(12,1,(.c (.string ⟨#[111,116,104,101,114]⟩)))]),jf 7 5 (.mov (.t 0)),jf 8 5 (.call 196 [(.t 6),(.t 7)]),jj 9 (.pick (.t 5) kT (.t 8)),mv 2 9] [2]) (.ret)),false,false,false⟩
@[simp] def F195l0x:PC:=(.seq (.seq (rn [mv 5 4,mv 6 0,lz 7 6,bn 8 .lss 5 7] [0,3,4,8]) (.cond (.t 8) (.skip) (.exit 0))) (.seq (.block 1 (.seq (rn [mv 11 3,jj 12 (.bin .mul (kk 10) (.t 11)),mv 13 0,mv 14 4,jj 15 (.indexS (.t 13) (.t 14)),jj 16 (.conv (.int .i64) (.t 15)),bn 17 .add 12 16,bk 18 .sub 17 48,mv 3 18] [0,3,4]) (.seq (rn [mv 19 3,bk 20 .gtr 19 2147483647] [0,3,4,20]) (.cond (.t 20) (.seq (rn [mx 2 (kk (-1))] [2]) (.ret)) (.skip))))) (rn [mv 9 4,bk 10 .add 9 1,mv 4 10] [0,3,4])))
def F195l0:PC:=F195l0x
def F195:PFun:=⟨1,[.tmp 2],.seq (rn [mx 2 (kk 0)] [0]) (.seq (rn [mx 3 (kk 0)] [0,3]) (.seq (.seq (rn [mx 4 (kk 0)] [0,3,4]) (.block 0 (.loop F195l0))) (.seq (rn [mv 21 3,mv 2 21] [2]) (.ret)))),false,false,false⟩
@[simp] def F196l0x:PC:=(.seq (.seq (rn [mv 6 5,mv 7 0,ls 8 7,bn 9 .lss 6 8] [0,1,5,9]) (.cond (.t 9) (.skip) (.exit 0))) (.seq (.block 1 (.seq (rn [mv 12 0,mv 13 5,jj 14 (.indexAddr 1 (.t 12) (.t 13)),l1 15 14,mv 16 1,bn 17 .eql 15 16] [0,1,5,17]) (.cond (.t 17) (.seq (rn [mx 4 kT] [4]) (.ret)) (.skip)))) (rn [mv 10 5,bk 11 .add 10 1,mv 5 11] [0,1,5])))
def F196l0:PC:=F196l0x
def F196:PFun:=⟨2,[.tmp 4],.seq (rn [mx 4 kF] [0,1]) (.seq (.seq (rn [mx 5 (kk 0)] [0,1,5]) (.block 0 (.loop F196l0))) (.seq (rn [mx 4 kF] [4]) (.ret))),false,false,false⟩
def F197:PFun:=⟨3,[.cell 6 true 4],.seq (rn [jj 6 (.alloc [zN,zN,eN,sN])] [0,1,2,6]) (.seq (.seq (rn [mv 11 0,nc 12 11,fa 13 3 12,l1 14 13,bk 15 .neq 14 0] [0,1,2,6,15]) (.cond (.t 15) (.seq (rn [jj 16 (.build [zN,zN,eN,sN] []),st 4 6 16] [6]) (.ret)) (.skip))) (.seq (rn [mv 17 0,cl 18 151 [17],mv 7 18] [0,1,2,6,7]) (.seq (.seq (rn [mv 19 2,bk 20 .eql 19 3,mv 21 20,jt 22 21 (.mov (.t 7)),jt 23 21 (.bin .eql (.t 22) (.c (.string ⟨#[33]⟩))),jj 24 (.pick (.t 21) (.t 23) kF)] [0,1,2,6,7,24]) (.cond (.t 24) (.seq (rn [mv 25 0,mv 26 7,mv 27 1,jj 28 (.call 202 [(.t 25),(.t 26),(.t 27),(kk 3)]),st 4 6 28] [6]) (.ret)) (.skip))) (.seq (.seq (rn [mv 29 2,bk 30 .eql 29 3] [0,1,2,6,7,30]) (.cond (.t 30) (.seq (rn [mv 31 0,mv 32 1,jj 33 (.call 203 [(.t 31),(.t 32),(kk 4)]),st 4 6 33] [6]) (.ret)) (.skip))) (.seq (.seq (rn [mv 34 2,bk 35 .eql 34 7,mv 36 35,jt 37 36 (.mov (.t 7)),jt 38 36 (.bin .eql (.t 37) (.c (.string ⟨#[45]⟩))),jj 39 (.pick (.t 36) (.t 38) kF)] [0,1,2,6,7,39]) (.cond (.t 39) (.seq (rn [mv 40 0,mv 41 7,mv 42 1,jj 43 (.call 202 [(.t 40),(.t 41),(.t 42),(kk 7)]),st 4 6 43] [6]) (.ret)) (.skip))) (.seq (.seq (rn [mv 44 2,bk 45 .eql 44 7] [0,1,2,6,7,45]) (.cond (.t 45) (.seq (rn [mv 46 0,mv 47 1,jj 48 (.call 197 [(.t 46),(.t 47),(kk 8)]),st 4 6 48] [6]) (.ret)) (.skip))) (.seq (.seq (rn [mv 49 2,bk 50 .lss 49 7] [0,1,2,6,7,50]) (.cond (.t 50) (.seq (rn [mv 51 0,mv 52 1,mv 53 2,cl 54 203 [51,52,53],st 4 6 54] [6]) (.ret)) (.skip))) (.seq (.seq (rn [mv 55 7,jj 56 (.bin .eql (.t 55) (.c (.string ⟨#[40]⟩)))] [0,1,6,7,56]) (.cond (.t 56) (.seq (rn [mv 57 0,mv 58 1,bk 59 .add 58 1,jj 60 (.call 172 [(.t 57),(.c (.string ⟨#[40]⟩)),(.t 59)])] [0,1,6]) (.seq (rn [mv 61 0,mv 62 1,bk 63 .add 62 1,jj 64 (.call 197 [(.t 61),(.t 63),(kk 1)]),jj 8 (.alloc [zN,zN,eN,sN]),st 4 8 64] [0,6,8]) (.seq (rn [mv 65 0,jj 66 (.call 150 [(.t 65),(.c (.string ⟨#[41]⟩))])] [6,8]) (.seq (rn [la 67 4 8,st 4 6 67] [6]) (.ret))))) (.skip))) (.seq (.seq (rn [mv 68 7,jj 69 (.bin .eql (.t 68) (.c (.string ⟨#[]⟩))),mv 70 69,jf 71 70 (.mov (.t 7)),jf 72 70 (.bin .eql (.t 71) (.c (.string ⟨#[63]⟩))),jj 73 (.pick (.t 70) kT (.t 72))] [0,1,6,7,73]) (.cond (.t 73) (.seq (rn [mv 74 0,jj 75 (.call 153 [(.t 74),(kk 12)])] [6]) (.seq (rn [jj 76 (.build [zN,zN,eN,sN] []),st 4 6 76] [6]) (.ret))) (.skip))) (.seq (.seq (rn [mv 77 7,jj 78 (.indexS (.t 77) (kk 0)),cl 79 193 [78]] [0,1,6,7,79]) (.cond (.t 79) (.seq (rn [mv 80 0,cl 81 154 [80]] [6,7]) (.seq (rn [mv 82 7,cl 83 195 [82],jj 84 (.build [zN,zN,eN,sN] [(0,1,(kk 8)),(1,1,(.t 83))]),st 4 6 84] [6]) (.ret))) (.skip))) (.seq (.seq (rn [mv 85 7,jj 86 (.bin .eql (.t 85) (.c (.string ⟨#[116,114,117,101]⟩))),mv 87 86,jf 88 87 (.mov (.t 7)),jf 89 87 (.bin .eql (.t 88) (.c (.string ⟨#[102,97,108,115,101]⟩))),jj 90 (.pick (.t 87) kT (.t 89))] [0,1,6,7,90]) (.cond (.t 90) (.seq (rn [mv 91 0,cl 92 154 [91]] [6,7]) (.seq (rn [mx 9 (kk 0)] [6,7,9]) (.seq (.seq (rn [mv 93 7,jj 94 (.bin .eql (.t 93) (.c (.string ⟨#[116,114,117,101]⟩)))] [6,9,94]) (.cond (.t 94) (rn [mx 9 (kk 1)] [6,9]) (.skip))) (.seq (rn [mv 95 9,jj 96 (.build [zN,zN,eN,sN] [(0,1,(kk 9)),(1,1,(.t 95))]),st 4 6 96] [6]) (.ret))))) (.skip))) (.seq (.seq (rn [mv 97 7,jj 98 (.bin .eql (.t 97) (.c (.string ⟨#[115,101,108,102]⟩))),mv 99 98,jf 100 99 (.mov (.t 7)),jf 101 99 (.bin .eql (.t 100) (.c (.string ⟨#[111,116,104,101,114]⟩))),jj 102 (.pick (.t 99) kT (.t 101)),mv 103 102,jf 104 103 (.mov (.t 7)),jf 105 103 (.bin .eql (.t 104) (.c (.string ⟨#[116,105,99,107]⟩))),jj 106 (.pick (.t 103) kT (.t 105))] [0,1,6,7,106]) (.cond (.t 106) (.seq (rn [mv 107 0,cl 108 154 [107]] [6,7]) (.seq (rn [mv 109 7,jj 110 (.build [zN,zN,eN,sN] [(0,1,(kk 12)),(2,1,(.t 109))]),st 4 6 110] [6]) (.ret))) (.skip))) (.seq (.seq (rn [mv 111 7,cl 112 198 [111]] [0,1,6,7,112]) (.cond (.t 112) (.seq (rn [mv 113 0,cl 114 154 [113]] [0,1,6,7]) (.seq (rn [mv 115 0,mv 116 1,cl 117 199 [115,116],jj 10 (.alloc [zN,zN,eN,sN]),st 4 10 117] [6,7,10]) (.seq (rn [mv 118 7,la 119 4 10,jj 120 (.bslice 1 [zN,zN,eN,sN] [(0,4,(.t 119))]),jj 121 (.build [zN,zN,eN,sN] [(0,1,(kk 11)),(2,1,(.t 118)),(3,1,(.t 120))]),st 4 6 121] [6]) (.ret)))) (.skip))) (.seq (.seq (rn [mv 122 7,jj 123 (.indexS (.t 122) (kk 0)),cl 124 192 [123],mv 125 124,jt 126 125 (.mov (.t 7)),jt 127 125 (.call 194 [(.t 126)]),jt 128 125 (.un .not (.t 127)),jj 129 (.pick (.t 125) (.t 128) kF)] [0,6,7,129]) (.cond (.t 129) (.seq (rn [mv 130 0,cl 131 154 [130]] [6,7]) (.seq (rn [mv 132 7,jj 133 (.build [zN,zN,eN,sN] [(0,1,(kk 10)),(2,1,(.t 132))]),st 4 6 133] [6]) (.ret))) (.skip))) (.seq (rn [mv 134 0,jj 135 (.call 153 [(.t 134),(kk 12)])] [6]) (.seq (rn [jj 136 (.build [zN,zN,eN,sN] []),st 4 6 136] [6]) (.ret))))))))))))))))),false,false,false⟩
def F198:PFun:=⟨1,[.tmp 2],.seq (rn [mx 2 kF] [0]) (.seq (rn [jj 3 (.bslice 8 [eN,eN,eN,eN,eN,eN,eN,eN] [(0,1,(.c (.string ⟨#[120]⟩))),(1,1,(.c (.string ⟨#[121]⟩))),(2,1,(.c (.string ⟨#[118,120]⟩))),(3,1,(.c (.string ⟨#[118,121]⟩))),(4,1,(.c (.string ⟨#[97]⟩))),(5,1,(.c (.string ⟨#[98]⟩))),(6,1,(.c (.string ⟨#[104,105,116]⟩))),(7,1,(.c (.string ⟨#[115,116,105,108,108]⟩)))]),mv 4 0,cl 5 196 [3,4],mv 2 5] [2]) (.ret)),false,false,false⟩
def F199:PFun:=⟨2,[.cell 4 true 4],.seq (rn [jj 4 (.alloc [zN,zN,eN,sN])] [0,1,4]) (.seq (rn [mv 6 0,mv 7 1,bk 8 .add 7 1,jj 9 (.call 172 [(.t 6),(.c (.string ⟨#[91]⟩)),(.t 8)])] [0,1,4]) (.seq (rn [mv 10 0,mv 11 1,bk 12 .add 11 1,jj 13 (.call 197 [(.t 10),(.t 12),(kk 1)]),jj 5 (.alloc [zN,zN,eN,sN]),st 4 5 13] [0,4,5]) (.seq (rn [mv 14 0,jj 15 (.call 150 [(.t 14),(.c (.string ⟨#[93]⟩))])] [4,5]) (.seq (rn [la 16 4 5,st 4 4 16] [4]) (.ret))))),false,false,false⟩
def F202:PFun:=⟨4,[.cell 8 true 4],.seq (rn [jj 8 (.alloc [zN,zN,eN,sN])] [0,1,2,3,8]) (.seq (rn [mv 10 0,mv 11 1,mv 12 2,bk 13 .add 12 1,cl 14 172 [10,11,13]] [0,1,2,3,8]) (.seq (rn [mv 15 0,mv 16 2,bk 17 .add 16 1,mv 18 3,cl 19 197 [15,17,18],jj 9 (.alloc [zN,zN,eN,sN]),st 4 9 19] [1,8,9]) (.seq (rn [mv 20 1,la 21 4 9,jj 22 (.bslice 1 [zN,zN,eN,sN] [(0,4,(.t 21))]),jj 23 (.build [zN,zN,eN,sN] [(0,1,(kk 13)),(2,1,(.t 20)),(3,1,(.t 22))]),st 4 8 23] [8]) (.ret)))),false,false,false⟩
@[simp] def F203l0x:PC:=(.seq (.seq (.region (some []) [mv 22 0,nc 23 22,fa 24 3 23,l1 25 24,bk 26 .eql 25 0,mv 27 26,jt 28 27 (.mov (.t 7)),jt 29 27 (.mov (.t 2)),jt 30 27 (.indexAddr 1 (.t 28) (.t 29)),⟨some 31,.load false 1 (.t 30),some (27,true),[11]⟩,jt 32 27 (.mov (.t 0)),jt 33 27 (.call 151 [(.t 32)]),jt 34 27 (.call 196 [(.t 31),(.t 33)]),jj 35 (.pick (.t 27) (.t 34) kF)] [0,1,2,6,7,8,35] [11,12]) (.cond (.t 35) (.skip) (.exit 0))) (.block 1 (.seq (rn [mv 36 0,cl 37 151 [36],mv 9 37] [0,1,2,6,7,8,9]) (.seq (rn [mv 38 0,cl 39 154 [38]] [0,1,2,6,7,8,9]) (.seq (rn [mv 40 0,mv 41 1,mv 42 2,bk 43 .add 42 1,cl 44 197 [40,41,43],jj 10 (.alloc [zN,zN,eN,sN]),st 4 10 44] [0,1,2,6,7,8,9,10]) (.seq (rn [mv 45 9,la 46 4 8,la 47 4 10,jj 48 (.bslice 2 [zN,zN,eN,sN,zN,zN,eN,sN] [(0,4,(.t 46)),(4,4,(.t 47))]),jj 49 (.build [zN,zN,eN,sN] [(0,1,(kk 14)),(2,1,(.t 45)),(3,1,(.t 48))]),st 4 8 49] [0,1,2,6,7,8]) (.seq (rn [mv 50 2,bk 51 .eql 50 4] [0,1,2,6,7,8,51]) (.cond (.t 51) (.exit 0) (.skip)))))))))
def F203l0:PC:=F203l0x
def F203:PFun:=⟨3,[.cell 6 true 4],.seq (rn [jj 6 (.alloc [zN,zN,eN,sN])] [0,1,2,6]) (.seq (rn [jj 11 (.bslice 1 [eN] [(0,1,(.c (.string ⟨#[124,124]⟩)))]),jj 12 (.bslice 1 [eN] [(0,1,(.c (.string ⟨#[38,38]⟩)))]),jj 13 (.bslice 6 [eN,eN,eN,eN,eN,eN] [(0,1,(.c (.string ⟨#[60]⟩))),(1,1,(.c (.string ⟨#[60,61]⟩))),(2,1,(.c (.string ⟨#[62]⟩))),(3,1,(.c (.string ⟨#[62,61]⟩))),(4,1,(.c (.string ⟨#[61,61]⟩))),(5,1,(.c (.string ⟨#[33,61]⟩)))]),jj 14 (.bslice 2 [eN,eN] [(0,1,(.c (.string ⟨#[43]⟩))),(1,1,(.c (.string ⟨#[45]⟩)))]),jj 15 (.bslice 2 [eN,eN] [(0,1,(.c (.string ⟨#[42]⟩))),(1,1,(.c (.string ⟨#[47]⟩)))]),jj 16 (.bslice 7 [sN,sN,sN,sN,sN,sN,sN] [(0,1,(.c (.slice none 0 0))),(1,1,(.t 11)),(2,1,(.t 12)),(3,1,(.c (.slice none 0 0))),(4,1,(.t 13)),(5,1,(.t 14)),(6,1,(.t 15))]),mv 7 16] [0,1,2,6,7]) (.seq (rn [mv 17 0,mv 18 1,mv 19 2,bk 20 .add 19 1,cl 21 197 [17,18,20],jj 8 (.alloc [zN,zN,eN,sN]),st 4 8 21] [0,1,2,6,7,8]) (.seq (.block 0 (.loop F203l0)) (.seq (rn [la 52 4 8,st 4 6 52] [6]) (.ret))))),false,false,false⟩
end Go.Pm.F
end
