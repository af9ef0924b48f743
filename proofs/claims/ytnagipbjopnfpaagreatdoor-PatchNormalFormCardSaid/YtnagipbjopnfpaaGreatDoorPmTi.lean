/- Ties of a program's functions: what a compiled function keeps stands in it; a numbering as a list of pairs. -/
import Derived.Test.YtnagipbjopnfpaaGreatDoorPmAL
import Derived.Test.YtnagipbjopnfpaaGreatDoorPmR1
import Derived.Laws.Strings
import Derived.KernelRfl
import Init
set_option linter.unusedSimpArgs false
set_option linter.unusedVariables false
namespace Go.Pm
section
def PC.ks:PC->Code->List (Nat × List Nat)
 |.region _ _ k _,.region id _ _=>[(id,k)]
 |.seq a b,.seq x y=>a.ks x++b.ks y
 |.cond _ a b,.cond _ x y=>a.ks x++b.ks y
 |.range _ _ a b,.rangeFunc _ _ x y=>a.ks x++b.ks y
 |.block _ a,.block _ x=>a.ks x
 |.loop a,.loop x=>a.ks x
 |_,_=>[]
def PFun.ks(F:PFun)(f:Func)(i:Nat):List Nat:=match f.body with
 |some c=>match (F.body.ks c).find? fun x=>x.1==i with
  |some x=>if F.df then x.2.tail else x.2
  |none=>[]
 |none=>[]
theorem tq{P:Program}{ids:Ids}{n:FuncId}{F:PFun}{f:Func}(ow:Bool)(h:P.funcs[n]?=some f)(e:qrM P ids (F.ks f) F.noseal ow F.df F.catches f=some F) : ∃ fn K ns ow df,P.funcs[n]?=some fn/\qrM P ids K ns ow df F.catches fn=some F:=⟨f,_,_,ow,_,h,e⟩
def toL(l:List (Nat × Nat))(f:Nat):Option Nat:=(l.find? fun x=>x.1==f).map (·.2)
def ofL(l:List (Nat × Nat))(g:Nat):Nat:=((l.find? fun x=>x.2==g).map (·.1)).getD 0
theorem prs{l:List (Nat × Nat)}(h:(l.all fun x=>ofL l x.2==x.1)=true){f g:Nat}(e:toL l f=some g):ofL l g=f:=by
 unfold toL at e
 cases hx:l.find? (fun x=>x.1==f) with
 |none=>rw[hx] at e; cases e
 |some x=>
  rw[hx] at e
  have h1:=List.find?_some hx
  have h2:=WD.1 h x (List.mem_of_find?_eq_some hx)
  simp only[Ym,Wh,beq_iff_eq] at e h1 h2
  rw[<- e,h2,h1]
end
section
inductive Bop where
 |add|sub|mul|div|lt|le|gt|ge|eq|ne|and|or
def Bop.str:Bop->ByteArray
 |.add=>⟨#[43]⟩ | .sub=>⟨#[45]⟩ | .mul=>⟨#[42]⟩ | .div=>⟨#[47]⟩
 |.lt=>⟨#[60]⟩ | .le=>⟨#[60,61]⟩ | .gt=>⟨#[62]⟩ | .ge=>⟨#[62,61]⟩ | .eq=>⟨#[61,61]⟩ | .ne=>⟨#[33,61]⟩
 |.and=>⟨#[38,38]⟩ | .or=>⟨#[124,124]⟩
def Bop.opd:Bop->Int
 |.and | .or=>2
 |_=>1
def Bop.res:Bop->Int
 |.add | .sub | .mul | .div=>1
 |_=>2
def ustr(neg:Bool):ByteArray:=if neg then ⟨#[45]⟩ else ⟨#[33]⟩
inductive E where
 |int (n:Int)
 |bool (n:Int)
 |var (s:ByteArray)
 |name (s:ByteArray)
 |field (f:Bool) (s:ByteArray) (e:E)
 |un (f:Bool) (neg:Bool) (e:E)
 |bin (f:Bool) (o:Bop) (a b:E)
def E.kind:E->Int
 |.int _=>8 | .bool _=>9 | .var _=>10 | .field .. => 11 | .name _=>12 | .un .. => 13 | .bin .. => 14
def E.num:E->Int
 |.int n=>n | .bool n=>n|_=>0
def E.str:E->ByteArray
 |.var s=>s | .name s=>s | .field _ s _=>s | .un _ neg _=>ustr neg | .bin _ o _ _=>o.str|_=>⟨#[]⟩
def E.kids:E->D
 |.field f _ e => .sl [.lit (.int .i64 e.kind),.lit (.int .i64 e.num),.lit (.string e.str),e.kids] 1 f
 |.un f _ e => .sl [.lit (.int .i64 e.kind),.lit (.int .i64 e.num),.lit (.string e.str),e.kids] 1 f
 |.bin f _ a b => .sl [.lit (.int .i64 a.kind),.lit (.int .i64 a.num),.lit (.string a.str),a.kids,.lit (.int .i64 b.kind),.lit (.int .i64 b.num),.lit (.string b.str),b.kids] 2 f
 |_ => .lit (.slice none 0 0)
@[simp] theorem qbg(e:E):V.one (.dat e.kids)=true:=by cases e<;>rfl
@[simp] theorem qx0(e:E):V.cells (.dat e.kids)=[.dat e.kids]:=by cases e<;>rfl
abbrev E.node(e:E):V := .dat (.agg [.lit (.int .i64 e.kind),.lit (.int .i64 e.num),.lit (.string e.str),e.kids])
def E.size:E->Nat
 |.field _ _ e=>e.size+1
 |.un _ _ e=>e.size+1
 |.bin _ _ a b=>a.size+b.size+1
 |_=>1
@[simp] theorem qAI(n:Int):E.size (.int n)=1:=rfl
@[simp] theorem qz3(n:Int):E.size (.bool n)=1:=rfl
@[simp] theorem qAJ(s:ByteArray):E.size (.var s)=1:=rfl
@[simp] theorem qz4(s:ByteArray):E.size (.name s)=1:=rfl
@[simp] theorem qpo(f:Bool)(s:ByteArray)(e:E):E.size (.field f s e)=e.size+1:=rfl
@[simp] theorem qrk(f neg:Bool)(e:E):E.size (.un f neg e)=e.size+1:=rfl
@[simp] theorem qkW(f:Bool)(o:Bop)(a b:E):E.size (.bin f o a b)=a.size+b.size+1:=rfl
def E.ok:E->Prop
 |.var s=>s.size<=100
 |.field _ _ e=>e.ok
 |.un _ _ e=>e.ok
 |.bin _ _ a b=>a.ok/\b.ok
 |_=>True
def E.ty:E->Int
 |.int _ | .var _ | .name _=>1
 |.bool _=>2
 |.field _ _ e=>if e.ty=1 then 1 else 0
 |.un _ neg e=>if e.ty=(if neg then 1 else 2) then (if neg then 1 else 2) else 0
 |.bin _ o a b=>if a.ty=o.opd/\b.ty=o.opd then o.res else 0
@[simp] theorem qAK(n:Int):E.kind (.int n)=8:=rfl
@[simp] theorem qB9(n:Int):E.num (.int n)=n:=rfl
@[simp] theorem qCa(n:Int):E.str (.int n)=⟨#[]⟩:=rfl
@[simp] theorem qAL(n:Int):E.kids (.int n) = .lit (.slice none 0 0):=rfl
@[simp] theorem qCH(n:Int):E.ty (.int n)=1:=rfl
@[simp] theorem qz5(n:Int):E.kind (.bool n)=9:=rfl
@[simp] theorem qAM(n:Int):E.num (.bool n)=n:=rfl
@[simp] theorem qAN(n:Int):E.str (.bool n)=⟨#[]⟩:=rfl
@[simp] theorem qz6(n:Int):E.kids (.bool n) = .lit (.slice none 0 0):=rfl
@[simp] theorem qCb(n:Int):E.ty (.bool n)=2:=rfl
@[simp] theorem qAO(s:ByteArray):E.kind (.var s)=10:=rfl
@[simp] theorem qCc(s:ByteArray):E.num (.var s)=0:=rfl
@[simp] theorem qCd(s:ByteArray):E.str (.var s)=s:=rfl
@[simp] theorem qAP(s:ByteArray):E.kids (.var s) = .lit (.slice none 0 0):=rfl
@[simp] theorem qCI(s:ByteArray):E.ty (.var s)=1:=rfl
@[simp] theorem qz7(s:ByteArray):E.kind (.name s)=12:=rfl
@[simp] theorem qAQ(s:ByteArray):E.num (.name s)=0:=rfl
@[simp] theorem qAR(s:ByteArray):E.str (.name s)=s:=rfl
@[simp] theorem qz8(s:ByteArray):E.kids (.name s) = .lit (.slice none 0 0):=rfl
@[simp] theorem qCe(s:ByteArray):E.ty (.name s)=1:=rfl
@[simp] theorem qj4(f:Bool)(s:ByteArray)(e:E):E.kind (.field f s e)=11:=rfl
@[simp] theorem qlW(f:Bool)(s:ByteArray)(e:E):E.num (.field f s e)=0:=rfl
@[simp] theorem qlX(f:Bool)(s:ByteArray)(e:E):E.str (.field f s e)=s:=rfl
@[simp] theorem qhm(f:Bool)(s:ByteArray)(e:E):E.kids (.field f s e) = .sl [.lit (.int .i64 e.kind),.lit (.int .i64 e.num),.lit (.string e.str),e.kids] 1 f:=rfl
@[simp] theorem qAS(f:Bool)(s:ByteArray)(e:E):E.ty (.field f s e)=if e.ty=1 then 1 else 0:=rfl
@[simp] theorem qe7(f:Bool)(neg:Bool)(e:E):E.kind (.un f neg e)=13:=rfl
@[simp] theorem qhN(f:Bool)(neg:Bool)(e:E):E.num (.un f neg e)=0:=rfl
@[simp] theorem qhO(f:Bool)(neg:Bool)(e:E):E.str (.un f neg e)=ustr neg:=rfl
@[simp] theorem qez(f:Bool)(neg:Bool)(e:E):E.kids (.un f neg e) = .sl [.lit (.int .i64 e.kind),.lit (.int .i64 e.num),.lit (.string e.str),e.kids] 1 f:=rfl
@[simp] theorem qC2(f:Bool)(neg:Bool)(e:E):E.ty (.un f neg e)=if e.ty=(if neg then 1 else 2) then (if neg then 1 else 2) else 0:=rfl
@[simp] theorem qdT(f:Bool)(o:Bop)(a b:E):E.kind (.bin f o a b)=14:=rfl
@[simp] theorem qe8(f:Bool)(o:Bop)(a b:E):E.num (.bin f o a b)=0:=rfl
@[simp] theorem qe9(f:Bool)(o:Bop)(a b:E):E.str (.bin f o a b)=o.str:=rfl
@[simp] theorem qdf(f:Bool)(o:Bop)(a b:E):E.kids (.bin f o a b) = .sl [.lit (.int .i64 a.kind),.lit (.int .i64 a.num),.lit (.string a.str),a.kids,.lit (.int .i64 b.kind),.lit (.int .i64 b.num),.lit (.string b.str),b.kids] 2 f:=rfl
@[simp] theorem qCJ(f:Bool)(o:Bop)(a b:E):E.ty (.bin f o a b)=if a.ty=o.opd/\b.ty=o.opd then o.res else 0:=rfl
abbrev qxk:V := .dat (.agg [.lit (.int .i64 0),.lit (.int .i64 0),.lit (.string ⟨#[]⟩),.lit (.slice none 0 0)])
def kd(f:Bool):Nat->List D->D
 |0,_ => .lit (.slice none 0 0)
 |n+1,cs => .sl cs (n+1) f
@[simp] theorem qlY(f:Bool)(n:Nat)(cs:List D):V.one (.dat (kd f n cs))=true:=by cases n<;>rfl
@[simp] theorem qAT(f:Bool)(n:Nat)(cs:List D):V.cells (.dat (kd f n cs))=[.dat (kd f n cs)]:=by cases n<;>rfl
@[simp] theorem qCK(σ : S)(f:Bool)(n:Nat)(cs:List D):V.len σ .sl (.dat (kd f n cs))=some n:=by cases n<;>simp[kd,V.len]
@[simp] theorem qz9(f:Bool)(cs:List D):kd f 0 cs = .lit (.slice none 0 0):=rfl
@[simp] theorem qij(f:Bool)(n:Nat)(cs:List D):kd f (n+1) cs = .sl cs (n+1) f:=rfl
inductive Fo where
 |nil
 |cons (k n:Int) (s:ByteArray) (f:Bool) (kids rest:Fo)
def Fo.len:Fo->Nat
 |.nil=>0
 |.cons _ _ _ _ _ r=>r.len+1
def Fo.cells:Fo->List D
 |.nil=>[]
 |.cons k n s f ks r => .lit (.int .i64 k) :: .lit (.int .i64 n) :: .lit (.string s)::kd f ks.len ks.cells::r.cells
def Fo.app:Fo->Fo->Fo
 |.nil,b=>b
 |.cons k n s f ks r,b => .cons k n s f ks (r.app b)
def Fo.size:Fo->Nat
 |.nil=>0
 |.cons _ _ _ _ ks r=>ks.size+r.size+1
@[simp] theorem qaO:Fo.len .nil=0:=rfl
@[simp] theorem qaA(k n:Int)(s:ByteArray)(f:Bool)(ks r:Fo):(Fo.cons k n s f ks r).len=r.len+1:=rfl
@[simp] theorem qaI:Fo.cells .nil=[]:=rfl
@[simp] theorem qan(k n:Int)(s:ByteArray)(f:Bool)(ks r:Fo):(Fo.cons k n s f ks r).cells = .lit (.int .i64 k) :: .lit (.int .i64 n) :: .lit (.string s)::kd f ks.len ks.cells::r.cells:=rfl
@[simp] theorem qaS:Fo.size .nil=0:=rfl
@[simp] theorem qak(k n:Int)(s:ByteArray)(f:Bool)(ks r:Fo):(Fo.cons k n s f ks r).size=ks.size+r.size+1:=rfl
@[simp] theorem qx1(b:Fo):Fo.app .nil b=b:=rfl
@[simp] theorem qxl(k n:Int)(s:ByteArray)(f:Bool)(ks r b:Fo):(Fo.cons k n s f ks r).app b = .cons k n s f ks (r.app b):=rfl
theorem qdq(a b:Fo):(a.app b).len=a.len+b.len:=by induction a with
 |nil=>simp
 |cons k n s f ks r _ ih=>simp[ih]; omega
theorem qhP(a b:Fo):(a.app b).cells=a.cells++b.cells:=by induction a with
 |nil=>simp
 |cons k n s f ks r _ ih=>simp[ih]
theorem qi1(a b:Fo):(a.app b).size=a.size+b.size:=by induction a with
 |nil=>simp
 |cons k n s f ks r _ ih=>simp[ih]; omega
theorem qfa(a:Fo):a.cells.length=a.len*4:=by induction a with
 |nil=>simp
 |cons k n s f ks r _ ih=>simp[ih]; omega
theorem qbo(a:Fo):a.len<=a.size:=by induction a with
 |nil=>simp
 |cons k n s f ks r _ ih=>simp; omega
abbrev nd(k n:Int)(s:ByteArray)(f:Bool)(ks:Fo):V := .dat (.agg [.lit (.int .i64 k),.lit (.int .i64 n),.lit (.string s),kd f ks.len ks.cells])
def Fo.hk:Fo->Int
 |.nil=>0
 |.cons k _ _ _ _ _=>k
def Fo.hn:Fo->Int
 |.nil=>0
 |.cons _ n _ _ _ _=>n
def Fo.hs:Fo->ByteArray
 |.nil=>⟨#[]⟩
 |.cons _ _ s _ _ _=>s
def Fo.hf:Fo->Bool
 |.nil=>false
 |.cons _ _ _ f _ _=>f
def Fo.hks:Fo->Fo
 |.nil => .nil
 |.cons _ _ _ _ ks _=>ks
def Fo.tl:Fo->Fo
 |.nil => .nil
 |.cons _ _ _ _ _ r=>r
abbrev Fo.hd(a:Fo):V:=nd a.hk a.hn a.hs a.hf a.hks
def E.flag:E->Bool
 |.field f _ _=>f | .un f _ _=>f | .bin f _ _ _=>f|_=>false
def E.fo:E->Fo->Fo
 |.int n,r => .cons 8 n ⟨#[]⟩ false .nil r
 |.bool n,r => .cons 9 n ⟨#[]⟩ false .nil r
 |.var s,r => .cons 10 0 s false .nil r
 |.name s,r => .cons 12 0 s false .nil r
 |.field f s e,r => .cons 11 0 s f (e.fo .nil) r
 |.un f neg e,r => .cons 13 0 (ustr neg) f (e.fo .nil) r
 |.bin f o a b,r => .cons 14 0 o.str f (a.fo (b.fo .nil)) r
def E.kfo:E->Fo
 |.field _ _ e=>e.fo .nil | .un _ _ e=>e.fo .nil | .bin _ _ a b=>a.fo (b.fo .nil) | _ => .nil
theorem qi2(e:E)(r:Fo):e.fo r = .cons e.kind e.num e.str e.flag e.kfo r:=by cases e<;>rfl
theorem qrl(e:E):e.kids=kd e.flag e.kfo.len e.kfo.cells:=by
 induction e with
 |field f s e ih=>
  show (E.field f s e).kids=kd f (e.fo .nil).len (e.fo .nil).cells
  rw[qi2]
  simp only[qhm,qaA,qaO,qij,qan,qaI,<- ih]
 |un f neg e ih=>
  show (E.un f neg e).kids=kd f (e.fo .nil).len (e.fo .nil).cells
  rw[qi2]
  simp only[qez,qaA,qaO,qij,qan,qaI,<- ih]
 |bin f o a b iha ihb=>
  show (E.bin f o a b).kids=kd f (a.fo (b.fo .nil)).len (a.fo (b.fo .nil)).cells
  rw[qi2,qi2]
  simp only[qdf,qaA,qaO,qij,qan,qaI,<- iha,<- ihb]
 |_=>rfl
theorem qck(e:E)(r:Fo):(e.fo r).size=e.size+r.size:=by
 induction e generalizing r<;>simp only[E.fo,E.size,qak,qaS, *]<;>omega
@[simp] theorem qC3(e:E)(r:Fo):(e.fo r).tl=r:=by rw[qi2]; rfl
inductive Ss where
 |nil
 |assign (f:Bool) (s:ByteArray) (e:E) (r:Ss)
 |store (f:Bool) (s:ByteArray) (a b:E) (r:Ss)
 |effect (f:Bool) (a b:E) (r:Ss)
 |stop (r:Ss)
 |cond (w:Bool) (f:Bool) (c:E) (b:Ss) (r:Ss)
 |block (f:Bool) (b:Ss) (r:Ss)
def qi3:ByteArray:=⟨#[104,105,116]⟩
def qj5:ByteArray:=⟨#[115,116,105,108,108]⟩
def Ss.well:Ss->Bool
 |.nil=>true
 |.assign _ _ e r=>decide (e.ty=1)&&r.well
 |.store _ s a b r=>(!(eqS s qi3||eqS s qj5)&&(decide (a.ty=1)&&decide (b.ty=1)))&&r.well
 |.effect _ a b r=>(decide (a.ty=1)&&decide (b.ty=1))&&r.well
 |.stop r=>r.well
 |.cond _ _ c b r=>(decide (c.ty=2)&&b.well)&&r.well
 |.block _ b r=>b.well&&r.well
def Ss.ok:Ss->Prop
 |.nil=>True
 |.assign _ s e r=>s.size<=100/\e.ok/\r.ok
 |.store _ _ a b r=>a.ok/\b.ok/\r.ok
 |.effect _ a b r=>a.ok/\b.ok/\r.ok
 |.stop r=>r.ok
 |.cond _ _ c b r=>c.ok/\b.ok/\r.ok
 |.block _ b r=>b.ok/\r.ok
def Ss.fo:Ss->Fo
 |.nil => .nil
 |.assign f s e r => .cons 1 0 s f (e.fo .nil) r.fo
 |.store f s a b r => .cons 2 0 s f (a.fo (b.fo .nil)) r.fo
 |.effect f a b r => .cons 5 0 ⟨#[]⟩ f (a.fo (b.fo .nil)) r.fo
 |.stop r => .cons 6 0 ⟨#[]⟩ false .nil r.fo
 |.cond w f c b r => .cons (if w then 4 else 3) 0 ⟨#[]⟩ f (c.fo b.fo) r.fo
 |.block f b r => .cons 7 0 ⟨#[]⟩ f b.fo r.fo
theorem qx2{cs r:List D}{o:Nat}{a b c d:D}(h:cs.drop o=a::b::c::d::r):cutCells cs o 4=some [a,b,c,d]:=by
 unfold cutCells
 rw[h]
 simp
@[simp] theorem qC4(e:E)(r:Fo):(e.fo r).hk=e.kind:=by rw[qi2]; rfl
@[simp] theorem qC5(e:E)(r:Fo):(e.fo r).hn=e.num:=by rw[qi2]; rfl
@[simp] theorem qC6(e:E)(r:Fo):(e.fo r).hs=e.str:=by rw[qi2]; rfl
@[simp] theorem qCL(e:E)(r:Fo):kd (e.fo r).hf (e.fo r).hks.len (e.fo r).hks.cells=e.kids:=by rw[qi2,qrl]; rfl
@[simp] theorem qfM(e:E)(r:Fo):(e.fo r).len=r.len+1:=by rw[qi2]; rfl
@[simp] theorem qcN(e:E)(r:Fo):(e.fo r).cells = .lit (.int .i64 e.kind) :: .lit (.int .i64 e.num) :: .lit (.string e.str)::e.kids::r.cells:=by rw[qi2,qrl]; rfl
@[simp] theorem qCM:Fo.hk .nil=0:=rfl
@[simp] theorem qCN:Fo.hn .nil=0:=rfl
@[simp] theorem qCO:Fo.hs .nil=⟨#[]⟩:=rfl
@[simp] theorem qCP:Fo.hf .nil=false:=rfl
@[simp] theorem qCf:Fo.hks .nil = .nil:=rfl
def strC(ss:List ByteArray):List D:=ss.map fun s => .lit (.string s)
theorem qeA(ss:List ByteArray)(i:Nat)(h:i<ss.length):cutCells (strC ss) i 1=some [.lit (.string ss[i])]:=by
 unfold cutCells strC
 rw[Ww (by simpa using h)]
 simp
theorem qaT(a b:ByteArray):eqS a b=decide (a=b):=by
 rw[Bool.eq_iff_iff]
 simp only[eqS,beq_iff_eq,decide_eq_true_eq,ByteArray.toList_eq]
 exact⟨fun h=>by cases a; cases b; simp only[Array.toList_inj] at h; rw[h],fun h=>by rw[h]⟩
instance:LawfulBEq ByteArray where
 eq_of_beq h:=by rw[qed] at h; exact of_decide_eq_true h
 rfl:=by intro a; rw[qed]; exact decide_eq_true rfl
def qm0:List ByteArray->D
 |[] => .lit (.slice none 0 0)
 |s::l => .sl (strC (s::l)) (l.length+1) false
@[simp] theorem qAU(l:List ByteArray):V.one (.dat (qm0 l))=true:=by cases l<;>rfl
@[simp] theorem qx3(l:List ByteArray):V.cells (.dat (qm0 l))=[.dat (qm0 l)]:=by cases l<;>rfl
@[simp] theorem qAV(σ : S)(l:List ByteArray):V.len σ .sl (.dat (qm0 l))=some l.length:=by cases l<;>simp[qm0,V.len]
@[simp] theorem qAW(l:List ByteArray):(strC l).length=l.length:=by simp[strC]
def Fo.vars:Fo->List ByteArray
 |.nil=>[]
 |.cons k _ s _ ks r=>(if k=1\/k=10 then [s] else [])++(ks.vars++r.vars)
def qrm(l:List ByteArray)(s:ByteArray):List ByteArray:=if s∈l then l else l++[s]
def addAll(l:List ByteArray)(xs:List ByteArray):List ByteArray:=xs.foldl qrm l
theorem qcH(l a b:List ByteArray):addAll l (a++b)=addAll (addAll l a) b:=by simp[addAll,List.foldl_append]
theorem qtC(l:List ByteArray)(s:ByteArray):l.length<=(qrm l s).length/\(qrm l s).length<=l.length+1:=by
 unfold qrm
 split<;>simp
theorem qco(xs:List ByteArray) : ∀ l,l.length<=(addAll l xs).length/\(addAll l xs).length<=l.length+xs.length:=by
 induction xs with
 |nil=>intro l; simp[addAll]
 |cons x xs ih=>
  intro l
  have:=ih (qrm l x)
  have h2:=qtC l x
  simp only[addAll,Ya,We] at this ⊢
  omega
theorem qik(a:Fo):a.vars.length<=a.size:=by
 induction a with
 |nil=>simp[Fo.vars]
 |cons k n s f ks r ih1 ih2=>
  simp only[Fo.vars,Wb,qak]
  split<;>simp<;>omega
theorem qa9{cs r:List D}{i:Nat}{a b c d:D}(h:cs.drop (i*4)=a::b::c::d::r):cs.drop ((i+1)*4)=r:=by
 rw[show (i+1)*4=i*4+4 by omega,<- List.drop_drop,h]
 rfl
theorem qej{b:Ss}(hb:b.fo.len=0):b = .nil:=by cases b<;>simp[Ss.fo] at hb; rfl
theorem qxm{l:List ByteArray}(h:l≠[]):qm0 l = .sl (strC l) l.length false:=by
 cases l with
 |nil=>exact absurd rfl h
 |cons s l=>rfl
theorem qob(s:ByteArray):strC [s]=[.lit (.string s)]:=rfl
theorem qtD(a b:List ByteArray):strC (a++b)=strC a++strC b:=by simp[strC]
structure Nd where
 k:Int
 n:Int
 s:ByteArray
 f:Bool
 ks:Fo
abbrev Nd.v(a:Nd):V:=nd a.k a.n a.s a.f a.ks
def Nd.vars(a:Nd):List ByteArray:=(if a.k=1\/a.k=10 then [a.s] else [])++a.ks.vars
abbrev Nd.d(a:Nd):D:=kd a.f a.ks.len a.ks.cells
theorem qeB(a:Nd):a.vars.length<=a.ks.size+1:=by
 have h:=qik a.ks
 unfold Nd.vars
 rw[Wb]
 split<;>simp<;>omega
abbrev ru(a b c:Nd):D := .agg [.lit (.int .i64 a.k),.lit (.int .i64 a.n),.lit (.string a.s),a.d,.lit (.int .i64 b.k),.lit (.int .i64 b.n),.lit (.string b.s),b.d,.lit (.int .i64 c.k),.lit (.int .i64 c.n),.lit (.string c.s),c.d]
def rvars(a b c:Nd):List ByteArray:=addAll [] (a.vars++(b.vars++c.vars))
inductive Hd where
 |none
 |some (f:Bool) (b:Ss)
def Hd.k:Hd->Int
 |.none=>0
 |.some _ _=>7
def Hd.f:Hd->Bool
 |.none=>false
 |.some f _=>f
def Hd.ks:Hd->Fo
 |.none => .nil
 |.some _ b=>b.fo
def Hd.nd(h:Hd):Nd:=⟨h.k,0,⟨#[]⟩,h.f,h.ks⟩
@[simp] theorem qAX(h:Hd):h.nd.k=h.k:=rfl
@[simp] theorem qAY(h:Hd):h.nd.n=0:=rfl
@[simp] theorem qAZ(h:Hd):h.nd.s=⟨#[]⟩:=rfl
@[simp] theorem qA0(h:Hd):h.nd.f=h.f:=rfl
@[simp] theorem qpp(h:Hd):h.nd.ks=h.ks:=rfl
def Hd.well:Hd->Bool
 |.none=>true
 |.some _ b=>b.well
abbrev qgP(a b c:Nd):Ob := .cells [.int a.k,.int a.n,.str a.s,.dat a.d,.int b.k,.int b.n,.str b.s,.dat b.d,.int c.k,.int c.n,.str c.s,.dat c.d]
def Ss.app:Ss->Ss->Ss
 |.nil,b=>b
 |.assign f s e r,b => .assign f s e (r.app b)
 |.store f s x y r,b => .store f s x y (r.app b)
 |.effect f x y r,b => .effect f x y (r.app b)
 |.stop r,b => .stop (r.app b)
 |.cond w f c q r,b => .cond w f c q (r.app b)
 |.block f q r,b => .block f q (r.app b)
theorem qi4(a b:Ss):(a.app b).fo=a.fo.app b.fo:=by
 induction a<;>simp_all [Ss.app,Ss.fo]
theorem qrn(a b c:Fo):(a.app b).app c=a.app (b.app c):=by
 induction a<;>simp_all
theorem qxn(a:Fo):a.app .nil=a:=by
 induction a<;>simp_all
end
end Go.Pm
section
namespace Go.Pm.Gr
abbrev Cd:=List (Int × Int)
def qfA(op:Int):Int:=if op=3\/op=4\/op=13\/op=17\/op=19 then 1 else if op=5\/op=9\/op=10\/op=11\/op=12\/op=14\/op=15\/op=16\/op=20 then 2 else 0
def qdX(op:Int):Int:=if op=3\/op=5\/op=18\/op=19\/op=20\/op=21 then 0 else 1
theorem qnu(op:Int):0<=qfA op/\qfA op<=2:=by unfold qfA; split<;>(try split)<;>omega
theorem qgl(op:Int):0<=qdX op/\qdX op<=1:=by unfold qdX; split<;>omega
def opA(c:Cd)(i:Nat):Int:=(c.getD i (0,0)).1
def nA(c:Cd)(i:Nat):Int:=(c.getD i (0,0)).2
def qgM(c:Cd)(i:Nat):List Int:=if opA c i=21 then [] else if opA c i=18 then [nA c i] else if opA c i=19 then [(i:Int)+1,nA c i] else [(i:Int)+1]
def qxU(c:Cd):Prop := ∀ i,i<c.length -> ∀ j∈qgM c i,0<=j/\j<=c.length
def aft(c:Cd)(i:Nat)(d:Int):Int:=d+(qdX (opA c i)-qfA (opA c i))
inductive Reach(c:Cd)(e:Nat):Nat->Prop
 |here:Reach c e e
 |go {i j:Nat}:Reach c e i->i<c.length->(j:Int)∈qgM c i->j<c.length->Reach c e j
theorem Reach.lt{c:Cd}{e i:Nat}(he:e<c.length)(h:Reach c e i):i<c.length:=by
 cases h with
 |here=>exact he
 |go _ _ _ h=>exact h
structure CF(c:Cd)(e:Nat)(D:Nat->Int):Prop where
 zero:D e=0
 pops : ∀ i,Reach c e i->qfA (opA c i)<=D i
 step : ∀ i,Reach c e i -> ∀ j:Nat,(j:Int)∈qgM c i->j<c.length->D j=aft c i (D i)
def qvm(c:Cd)(e:Nat):Prop := ∃ i,Reach c e i/\(c.length:Int)∈qgM c i
structure Most(c:Cd)(e:Nat)(D:Nat->Int)(m:Int):Prop where
 nonneg:0<=m
 le : ∀ i,Reach c e i->aft c i (D i)<=m
 at_:m=0 \/ ∃ i,Reach c e i/\m=aft c i (D i)
theorem Most.unique{c:Cd}{e:Nat}{D:Nat->Int}{m m':Int}(h:Most c e D m)(h':Most c e D m'):m=m':=by
 have a:m<=m':=by
  rcases h.at_ with h0|⟨i,hi,h0⟩
  ·have:=h'.nonneg; omega
  ·have:=h'.le i hi; omega
 have b:m'<=m:=by
  rcases h'.at_ with h0|⟨i,hi,h0⟩
  ·have:=h.nonneg; omega
  ·have:=h.le i hi; omega
 omega
theorem CF.unique{c:Cd}{e:Nat}{D D':Nat->Int}(h:CF c e D)(h':CF c e D'){i:Nat}(hi:Reach c e i):D i=D' i:=by
 induction hi with
 |here=>rw[h.zero,h'.zero]
 |go hi hl hj hjl ih=>rw[h.step _ hi _ hj hjl,h'.step _ hi _ hj hjl,ih]
theorem Most.of_eq{c:Cd}{e:Nat}{D D':Nat->Int}{m:Int}(h:CF c e D)(h':CF c e D')(hm:Most c e D m):Most c e D' m:=by
 refine⟨hm.nonneg,fun i hi=>?_,?_⟩
 ·rw[<- CF.unique h h' hi]; exact hm.le i hi
 ·rcases hm.at_ with h0|⟨i,hi,h0⟩
  ·exact .inl h0
  ·exact .inr ⟨i,hi,by rw[<- CF.unique h h' hi]; exact h0⟩
structure An where
 falls:Bool
 breaks:Bool
 depth:Int
 ds:List Int
 op:List Nat
def gD(l:List Int)(i:Nat):Int:=l.getD i 0
def one(n:Nat)(d:Int)(a:An)(j:Int):An:=
 if j=n then { a with falls:=true }
 else if gD a.ds j.toNat=0 then { a with ds:=a.ds.set j.toNat (max d 0+1),op:=a.op++[j.toNat] }
 else if gD a.ds j.toNat≠d+1 then { a with breaks:=true }
 else a
def stp(c:Cd)(a:An)(i:Nat)(r:List Nat):An:=
 let d:=gD a.ds i-1
 let d':=aft c i d
 (qgM c i).foldl (one c.length d') { a with breaks:=a.breaks||decide (d<qfA (opA c i)),depth:=max a.depth d',op:=r }
theorem qgm{l:List Int}{i:Nat}{v:Int}(h:i<l.length):gD (l.set i v) i=v:=by
 simp[gD,Wz,h]
theorem qgn{l:List Int}{i j:Nat}{v:Int}(h:i≠j):gD (l.set i v) j=gD l j:=by
 simp only[gD,Wz]
 rw[Wr h]
structure Inv(c:Cd)(e:Nat)(cur:Option Nat)(pre:List Int)(a:An):Prop where
 len:a.ds.length=c.length
 nodup:a.op.Nodup
 opn : ∀ i∈a.op,i<c.length/\gD a.ds i≠0
 pos : ∀ i,i<c.length->gD a.ds i≠0->1<=gD a.ds i/\Reach c e i
 ent:gD a.ds e=1
 cur_ : ∀ i,cur=some i->i<c.length/\gD a.ds i≠0/\i∉a.op
 done : ∀ i,i<c.length->gD a.ds i≠0->i∉a.op -> ∀ j∈(if cur=some i then pre else qgM c i),(j=c.length->a.falls=true)/\(j<c.length->gD a.ds j.toNat≠0)
 fal:a.falls=true->qvm c e
 brk:a.breaks=false -> ∀ i,i<c.length->gD a.ds i≠0->i∉a.op->qfA (opA c i)<=gD a.ds i-1 /\ ∀ j∈(if cur=some i then pre else qgM c i),j<c.length->gD a.ds j.toNat=aft c i (gD a.ds i-1)+1
 cf : ∀ D,CF c e D->a.breaks=false /\ ∀ i,i<c.length->gD a.ds i≠0->gD a.ds i=D i+1
 dle:0<=a.depth /\ ∀ i,i<c.length->gD a.ds i≠0->i∉a.op->aft c i (gD a.ds i-1)<=a.depth
 dat:a.depth=0 \/ ∃ i,i<c.length/\gD a.ds i≠0/\i∉a.op/\a.depth=aft c i (gD a.ds i-1)
theorem qvn {c:Cd} {e i:Nat} {pre:List Int} {j:Int} {a:An} (h:Inv c e (some i) pre a) (hs:j∈qgM c i) (hj:0<=j/\j<=c.length) :
  Inv c e (some i) (pre++[j]) (one c.length (aft c i (gD a.ds i-1)) a j)/\gD (one c.length (aft c i (gD a.ds i-1)) a j).ds i=gD a.ds i:=by
 obtain⟨hi1,hi2,hi3⟩:=h.cur_ i rfl
 obtain⟨hp1,hp2⟩:=h.pos i hi1 hi2
 unfold one
 by_cases hn:j=c.length
 ·rw[if_pos hn]
  refine⟨⟨h.len,h.nodup,h.opn,h.pos,h.ent,h.cur_,?_,fun _=>⟨i,hp2,by rw[<- hn]; exact hs⟩,?_,h.cf,h.dle,h.dat⟩,rfl⟩
  ·intro k k1 k2 k3 x hx
   have:=h.done k k1 k2 k3
   by_cases hk:some i=some k
   ·rw[if_pos hk] at hx this
    rcases Wp.1 hx with hx|hx
    ·exact⟨fun _=>rfl,(this x hx).2⟩
    ·simp only[Wm] at hx
     exact⟨fun _=>rfl,fun hl=>by omega⟩
   ·rw[if_neg hk] at hx this
    exact⟨fun _=>rfl,(this x hx).2⟩
  ·intro hb k k1 k2 k3
   have:=h.brk hb k k1 k2 k3
   refine⟨this.1,fun x hx hl=>?_⟩
   by_cases hk:some i=some k
   ·rw[if_pos hk] at hx
    rw[if_pos hk] at this
    rcases Wp.1 hx with hx|hx
    ·exact this.2 x hx hl
    ·simp only[Wm] at hx; omega
   ·rw[if_neg hk] at hx this
    exact this.2 x hx hl
 ·rw[if_neg hn]
  have hjl:j.toNat<c.length:=by omega
  have hjs:((j.toNat:Nat):Int)∈qgM c i:=by rw[show ((j.toNat:Nat):Int)=j by omega]; exact hs
  have hjr:Reach c e j.toNat:=Reach.go hp2 hi1 hjs hjl
  by_cases h0:gD a.ds j.toNat=0
  ·rw[if_pos h0]
   have hij:j.toNat≠i:=fun hh=>hi2 (by rw[<- hh]; exact h0)
   have hjo:j.toNat∉a.op:=fun hh=>(h.opn _ hh).2 h0
   have hnew:gD (a.ds.set j.toNat (max (aft c i (gD a.ds i-1)) 0+1)) j.toNat=max (aft c i (gD a.ds i-1)) 0+1:=qgm (by rw[h.len]; exact hjl)
   have hold : ∀ k,k≠j.toNat->gD (a.ds.set j.toNat (max (aft c i (gD a.ds i-1)) 0+1)) k=gD a.ds k:=fun k hk=>qgn (Yj hk)
   have hge : ∀ k,gD a.ds k≠0->gD (a.ds.set j.toNat (max (aft c i (gD a.ds i-1)) 0+1)) k=gD a.ds k:=fun k hk=>hold k (fun hh=>hk (by rw[hh]; exact h0))
   generalize hV:a.ds.set j.toNat (max (aft c i (gD a.ds i-1)) 0+1)=V at *
   have back : ∀ k,gD V k≠0->k∉a.op++[j.toNat]->gD a.ds k≠0/\k∉a.op/\gD V k=gD a.ds k:=fun k k2 k3=>by
    have hk:k≠j.toNat:=fun hh=>k3 (by rw[hh]; simp)
    rw[hold k hk] at k2
    exact⟨k2,fun hh=>k3 (by simp[hh]),hold k hk⟩
   refine⟨⟨by simp only; rw[<- hV]; simp[h.len],?_,?_,?_,?_,?_,?_,h.fal,?_,?_,?_,?_⟩,hold i (Yj hij)⟩
   ·simp only
    rw[List.nodup_append]
    exact⟨h.nodup,by simp,fun x hx y hy=>by simp only[Wm] at hy; rw[hy]; exact fun hh=>hjo (by rw[<- hh]; exact hx)⟩
   ·intro k hk
    simp only at hk ⊢
    rcases Wp.1 hk with hk|hk
    ·have:=h.opn k hk
     exact⟨this.1,by rw[hge k this.2]; exact this.2⟩
    ·simp only[Wm] at hk
     rw[hk,hnew]
     exact⟨hjl,by omega⟩
   ·intro k k1 k2
    simp only at k2 ⊢
    by_cases hk:k=j.toNat
    ·rw[hk,hnew]; exact⟨by omega,hjr⟩
    ·rw[hold k hk] at k2 ⊢; exact h.pos k k1 k2
   ·simp only; rw[hge e (by rw[h.ent]; omega)]; exact h.ent
   ·intro k hk
    have:=h.cur_ k hk
    simp only
    refine⟨this.1,by rw[hge k this.2.1]; exact this.2.1,?_⟩
    rw[Wp,not_or]
    refine⟨this.2.2,?_⟩
    simp only[Wm]
    intro hh
    exact this.2.1 (by rw[hh]; exact h0)
   ·intro k k1 k2 k3 x hx
    simp only at k2 k3 ⊢
    obtain⟨b1,b2,b3⟩:=back k k2 k3
    have:=h.done k k1 b1 b2
    by_cases hk:some i=some k
    ·rw[if_pos hk] at hx this
     rcases Wp.1 hx with hx|hx
     ·exact⟨(this x hx).1,fun hl=>by rw[hge _ ((this x hx).2 hl)]; exact (this x hx).2 hl⟩
     ·simp only[Wm] at hx
      exact⟨fun hh=>absurd (hx ▸ hh) hn,fun _=>by rw[hx,hnew]; omega⟩
    ·rw[if_neg hk] at hx this
     exact⟨(this x hx).1,fun hl=>by rw[hge _ ((this x hx).2 hl)]; exact (this x hx).2 hl⟩
   ·intro hb k k1 k2 k3
    simp only at hb k2 k3 ⊢
    obtain⟨b1,b2,b3⟩:=back k k2 k3
    have hbr:=h.brk hb k k1 b1 b2
    have hdo:=h.done k k1 b1 b2
    rw[b3]
    refine⟨hbr.1,fun x hx hl=>?_⟩
    by_cases hk:some i=some k
    ·rw[if_pos hk] at hx hbr hdo
     rcases Wp.1 hx with hx|hx
     ·rw[hge _ ((hdo x hx).2 hl)]; exact hbr.2 x hx hl
     ·simp only[Wm] at hx
      have hik:i=k:=Yb hk
      subst hik
      have:=qgl (opA c i)
      rw[hx,hnew]
      have hh:=hbr.1
      unfold aft
      omega
    ·rw[if_neg hk] at hx hbr hdo
     rw[hge _ ((hdo x hx).2 hl)]; exact hbr.2 x hx hl
   ·intro D hD
    obtain⟨c1,c2⟩:=h.cf D hD
    refine⟨c1,fun k k1 k2=>?_⟩
    simp only at k2 ⊢
    by_cases hk:k=j.toNat
    ·rw[hk,hnew,hD.step i hp2 j.toNat hjs hjl]
     have hDi:gD a.ds i=D i+1:=c2 i hi1 hi2
     rw[show gD a.ds i-1=D i by omega]
     have:=hD.pops i hp2
     have:=qgl (opA c i)
     unfold aft
     omega
    ·rw[hold k hk] at k2 ⊢; exact c2 k k1 k2
   ·refine⟨h.dle.1,fun k k1 k2 k3=>?_⟩
    simp only at k2 k3 ⊢
    obtain⟨b1,b2,b3⟩:=back k k2 k3
    rw[b3]; exact h.dle.2 k k1 b1 b2
   ·rcases h.dat with hd|⟨k,k1,k2,k3,k4⟩
    ·exact .inl hd
    ·refine .inr ⟨k,k1,by simp only; rw[hge k k2]; exact k2,?_,by simp only; rw[hge k k2]; exact k4⟩
     simp only
     rw[Wp,not_or]
     refine⟨k3,?_⟩
     simp only[Wm]
     intro hh
     exact k2 (by rw[hh]; exact h0)
  ·rw[if_neg h0]
   by_cases hd:gD a.ds j.toNat≠aft c i (gD a.ds i-1)+1
   ·rw[if_pos hd]
    refine⟨⟨h.len,h.nodup,h.opn,h.pos,h.ent,h.cur_,?_,h.fal,fun hb=>by simp at hb,?_,h.dle,h.dat⟩,rfl⟩
    ·intro k k1 k2 k3 x hx
     have:=h.done k k1 k2 k3
     by_cases hk:some i=some k
     ·rw[if_pos hk] at hx this
      rcases Wp.1 hx with hx|hx
      ·exact this x hx
      ·simp only[Wm] at hx
       exact⟨fun hh=>absurd (hx ▸ hh) hn,fun _=>by rw[hx]; exact h0⟩
     ·rw[if_neg hk] at hx this
      exact this x hx
    ·intro D hD
     exfalso
     obtain⟨c1,c2⟩:=h.cf D hD
     apply hd
     rw[c2 j.toNat hjl h0,hD.step i hp2 j.toNat hjs hjl,c2 i hi1 hi2,show D i+1-1=D i by omega]
   ·rw[if_neg hd]
    have hd':gD a.ds j.toNat=aft c i (gD a.ds i-1)+1:=by omega
    refine⟨⟨h.len,h.nodup,h.opn,h.pos,h.ent,h.cur_,?_,h.fal,?_,h.cf,h.dle,h.dat⟩,rfl⟩
    ·intro k k1 k2 k3 x hx
     have:=h.done k k1 k2 k3
     by_cases hk:some i=some k
     ·rw[if_pos hk] at hx this
      rcases Wp.1 hx with hx|hx
      ·exact this x hx
      ·simp only[Wm] at hx
       exact⟨fun hh=>absurd (hx ▸ hh) hn,fun _=>by rw[hx]; exact h0⟩
     ·rw[if_neg hk] at hx this
      exact this x hx
    ·intro hb k k1 k2 k3
     have:=h.brk hb k k1 k2 k3
     refine⟨this.1,fun x hx hl=>?_⟩
     by_cases hk:some i=some k
     ·rw[if_pos hk] at hx
      rw[if_pos hk] at this
      rcases Wp.1 hx with hx|hx
      ·exact this.2 x hx hl
      ·simp only[Wm] at hx
       have hik:i=k:=Yb hk
       subst hik
       rw[hx]; exact hd'
     ·rw[if_neg hk] at hx this
      exact this.2 x hx hl
end Go.Pm.Gr
end
namespace Go.Pm
section
open Gr
def ixI:List ByteArray->ByteArray->Int
 |[],_ => -1
 |x::l,s=>if x=s then 0 else if ixI l s<0 then -1 else ixI l s+1
def qwy:List ByteArray:=[⟨#[120]⟩,⟨#[121]⟩,⟨#[118,120]⟩,⟨#[118,121]⟩,⟨#[97]⟩,⟨#[98]⟩,⟨#[104,105,116]⟩,⟨#[115,116,105,108,108]⟩]
def fieldI(s:ByteArray):Int:=ixI qwy s
def nameI(s:ByteArray):Int:=if s=⟨#[115,101,108,102]⟩ then 6 else if s=⟨#[111,116,104,101,114]⟩ then 7 else 8
def opI:Bop->Int
 |.add=>9 | .sub=>10 | .mul=>11 | .div=>12
 |.lt=>14 | .gt=>14 | .le=>15 | .ge=>15
 |_=>16
def sq(a b:Int->Cd)(at_:Int):Cd:=a at_++b (at_+(a at_).length)
def brC(c a b:Int->Cd)(at_:Int):Cd:=
 c at_++((19,at_+(c at_).length+1+(a (at_+(c at_).length+1)).length+1)::(a (at_+(c at_).length+1) ++
  ((18,at_+(c at_).length+1+(a (at_+(c at_).length+1)).length+1+(b (at_+(c at_).length+1+(a (at_+(c at_).length+1)).length+1)).length) ::
    b (at_+(c at_).length+1+(a (at_+(c at_).length+1)).length+1))))
def whC(c a:Int->Cd)(at_:Int):Cd:=
 c at_++((19,at_+(c at_).length+1+(a (at_+(c at_).length+1)).length+1)::(a (at_+(c at_).length+1)++[(18,at_)]))
def snC(c:Int->Cd)(i:Int × Int)(at_:Int):Cd:=c at_++[i]
def binC(o:Bop)(a b:Int->Cd):Int->Cd:=
 match o with
 |.and=>brC a b (fun _=>[(1,0)])
 |.or=>brC a (fun _=>[(1,1)]) b
 |.gt=>snC (sq b a) (14,0)
 |.ge=>snC (sq b a) (15,0)
 |.ne=>snC (snC (sq a b) (16,0)) (17,0)
 |o=>snC (sq a b) (opI o,0)
def qcY(vs:List ByteArray):E->Int->Cd
 |.int n=>fun _=>[(1,n)]
 |.bool n=>fun _=>[(1,n)]
 |.var s=>fun _=>[(2,ixI vs s)]
 |.name s=>fun _=>[(nameI s,0)]
 |.field _ s e=>snC (qcY vs e) (4,fieldI s)
 |.un _ neg e=>snC (qcY vs e) (if neg then 13 else 17,0)
 |.bin _ o a b=>binC o (qcY vs a) (qcY vs b)
def codeS(vs:List ByteArray):Ss->Int->Cd
 |.nil=>fun _=>[]
 |.assign _ s e r=>sq (snC (qcY vs e) (3,ixI vs s)) (codeS vs r)
 |.store _ s a b r=>sq (snC (sq (qcY vs a) (qcY vs b)) (5,fieldI s)) (codeS vs r)
 |.effect _ a b r=>sq (snC (sq (qcY vs a) (qcY vs b)) (20,0)) (codeS vs r)
 |.stop r=>sq (fun _=>[(21,0)]) (codeS vs r)
 |.cond false _ c (.block _ x (.block _ y .nil)) r=>sq (brC (qcY vs c) (codeS vs x) (codeS vs y)) (codeS vs r)
 |.cond true _ c (.block _ x .nil) r=>sq (whC (qcY vs c) (codeS vs x)) (codeS vs r)
 |_=>fun _=>[]
def Ln(C:Int->Cd)(n:Nat):Prop := ∀ p,(C p).length=n
theorem qbG{a b:Int->Cd}{n m:Nat}(ha:Ln a n)(hb:Ln b m):Ln (sq a b) (n+m):=fun p=>by simp[sq,ha p,hb _]
theorem qb8{c:Int->Cd}{i:Int × Int}{n:Nat}(h:Ln c n):Ln (snC c i) (n+1):=fun p=>by simp[snC,h p]
theorem qmO{c a b:Int->Cd}{n m k:Nat}(hc:Ln c n)(ha:Ln a m)(hb:Ln b k):Ln (brC c a b) (n+m+k+2):=fun p=>by simp[brC,hc p,ha _,hb _]; omega
theorem qwz{c a:Int->Cd}{n m:Nat}(hc:Ln c n)(ha:Ln a m):Ln (whC c a) (n+m+2):=fun p=>by simp[whC,hc p,ha _]; omega
theorem qzC{o:Bop}{a b:Int->Cd}{n m:Nat}(ha:Ln a n)(hb:Ln b m) : ∃ k,Ln (binC o a b) k/\n+m+1<=k/\k<=n+m+3/\0<k:=by
 cases o
 case and=>
  have h1:Ln (fun _=>[((1:Int),(0:Int))]) 1:=fun _=>rfl
  exact⟨_,qmO ha hb h1,by omega,by omega,by omega⟩
 case or=>
  have h1:Ln (fun _=>[((1:Int),(1:Int))]) 1:=fun _=>rfl
  exact⟨_,qmO ha h1 hb,by omega,by omega,by omega⟩
 case gt=>exact⟨_,qb8 (qbG hb ha),by omega,by omega,by omega⟩
 case ge=>exact⟨_,qb8 (qbG hb ha),by omega,by omega,by omega⟩
 case ne=>exact⟨_,qb8 (qb8 (qbG ha hb)),by omega,by omega,by omega⟩
 all_goals exact⟨_,qb8 (qbG ha hb),by omega,by omega,by omega⟩
theorem qqJ(vs:List ByteArray) : ∀ e:E,∃ n,Ln (qcY vs e) n/\0<n/\n<=4*e.size
 |.int _=>⟨1,fun _=>rfl,by omega,by simp⟩
 |.bool _=>⟨1,fun _=>rfl,by omega,by simp⟩
 |.var _=>⟨1,fun _=>rfl,by omega,by simp⟩
 |.name _=>⟨1,fun _=>rfl,by omega,by simp⟩
 |.field _ s e=>by
  obtain⟨n,h,h0,h1⟩:=qqJ vs e
  exact⟨n+1,qb8 h,by omega,by simp; omega⟩
 |.un _ neg e=>by
  obtain⟨n,h,h0,h1⟩:=qqJ vs e
  exact⟨n+1,qb8 h,by omega,by simp; omega⟩
 |.bin _ o a b=>by
  obtain⟨n,h,h0,h1⟩:=qqJ vs a
  obtain⟨m,g,g0,g1⟩:=qqJ vs b
  obtain⟨k,k1,k2,k3,k4⟩:=qzC (o:=o) h g
  exact⟨k,k1,k4,by simp; omega⟩
theorem qBX(vs:List ByteArray)(b:Ss) : ∃ n,Ln (codeS vs b) n/\n<=4*b.fo.size:=by
 fun_induction codeS vs b with
 |case1=>exact⟨0,fun _=>rfl,by omega⟩
 |case2 _ s e r ih=>
  obtain⟨n,h,h0,h1⟩:=qqJ vs e
  obtain⟨m,g,g1⟩:=ih
  exact⟨_,qbG (qb8 h) g,by simp only[Ss.fo,qak,qck,qaS]; omega⟩
 |case3 _ s a b r ih=>
  obtain⟨n,h,h0,h1⟩:=qqJ vs a
  obtain⟨n',h',h0',h1'⟩:=qqJ vs b
  obtain⟨m,g,g1⟩:=ih
  exact⟨_,qbG (qb8 (qbG h h')) g,by simp only[Ss.fo,qak,qck,qaS]; omega⟩
 |case4 _ a b r ih=>
  obtain⟨n,h,h0,h1⟩:=qqJ vs a
  obtain⟨n',h',h0',h1'⟩:=qqJ vs b
  obtain⟨m,g,g1⟩:=ih
  exact⟨_,qbG (qb8 (qbG h h')) g,by simp only[Ss.fo,qak,qck,qaS]; omega⟩
 |case5 r ih=>
  obtain⟨m,g,g1⟩:=ih
  exact⟨_,qbG (n:=1) (fun _=>rfl) g,by simp only[Ss.fo,qak,qaS]; omega⟩
 |case6 _ c _ x _ y r ih1 ih2 ih3=>
  obtain⟨n,h,h0,h1⟩:=qqJ vs c
  obtain⟨m1,g1,k1⟩:=ih1
  obtain⟨m2,g2,k2⟩:=ih2
  obtain⟨m3,g3,k3⟩:=ih3
  exact⟨_,qbG (qmO h g1 g2) g3,by simp only[Ss.fo,qak,qck,qaS]; omega⟩
 |case7 _ c _ x r ih1 ih2=>
  obtain⟨n,h,h0,h1⟩:=qqJ vs c
  obtain⟨m1,g1,k1⟩:=ih1
  obtain⟨m2,g2,k2⟩:=ih2
  exact⟨_,qbG (qwz h g1) g2,by simp only[Ss.fo,qak,qck,qaS]; omega⟩
 |case8=>exact⟨0,fun _=>rfl,by omega⟩
end
end Go.Pm
section
namespace Go.Pm.F
@[simp] abbrev sN:D := .lit (.slice none 0 0)
@[simp] abbrev eN:D := .lit (.string ⟨#[]⟩)
@[simp] abbrev zN:D := .lit (.int .i64 0)
@[simp] abbrev ii(n:Int):D := .lit (.int .i64 n)
@[simp] abbrev kk(n:Int):X := .c (.int .i64 n)
@[simp] abbrev kT:X := .c (.bool true)
@[simp] abbrev kF:X := .c (.bool false)
@[simp] abbrev jj(d:Nat)(o:O):I:=⟨some d,o,none,[]⟩
@[simp] abbrev jn(o:O):I:=⟨none,o,none,[]⟩
@[simp] abbrev jt(d g:Nat)(o:O):I:=⟨some d,o,some (g,true),[]⟩
@[simp] abbrev jf(d g:Nat)(o:O):I:=⟨some d,o,some (g,false),[]⟩
@[simp] abbrev mv(d a:Nat):I:=⟨some d,.mov (.t a),none,[]⟩
@[simp] abbrev mx(d:Nat)(x:X):I:=⟨some d,.mov x,none,[]⟩
@[simp] abbrev l1(d a:Nat):I:=⟨some d,.load false 1 (.t a),none,[]⟩
@[simp] abbrev la(d n a:Nat):I:=⟨some d,.load true n (.t a),none,[]⟩
@[simp] abbrev fa(d o a:Nat):I:=⟨some d,.fieldAddr o (.t a),none,[]⟩
@[simp] abbrev nc(d a:Nat):I:=⟨some d,.nilchk (.t a),none,[]⟩
@[simp] abbrev bx(d a:Nat):I:=⟨some d,.box (.t a),none,[]⟩
@[simp] abbrev ex(d a n:Nat):I:=⟨some d,.extract (.t a) n,none,[]⟩
@[simp] abbrev ls(d a:Nat):I:=⟨some d,.len .sl (.t a),none,[]⟩
@[simp] abbrev lz(d a:Nat):I:=⟨some d,.len .str (.t a),none,[]⟩
@[simp] abbrev bn(d:Nat)(o:BinOp)(a b:Nat):I:=⟨some d,.bin o (.t a) (.t b),none,[]⟩
@[simp] abbrev bk(d:Nat)(o:BinOp)(a:Nat)(n:Int):I:=⟨some d,.bin o (.t a) (.c (.int .i64 n)),none,[]⟩
@[simp] abbrev st(n a b:Nat):I:=⟨none,.store n (.t a) (.t b),none,[]⟩
@[simp] abbrev cl(d f:Nat)(xs:List Nat):I:=⟨some d,.call f (xs.map .t),none,[]⟩
@[simp] abbrev rn(ops:List I)(keep:List Nat)(lasts:List Nat:=[]):PC := .region none ops keep lasts
@[simp] abbrev sr(a:List I)(k:List Nat)(b:PC):PC := .seq (rn a k) b
@[simp] abbrev cs(t:Nat)(a:PC):PC := .cond (.t t) a .skip
@[simp] abbrev pf(n:Nat)(r:List PR)(b:PC):PFun:=⟨n,r,b,false,false,false⟩
@[simp] abbrev ks(l:List UInt8):X := .c (.string ⟨l.toArray⟩)
end Go.Pm.F
end
section
namespace Go.Pm.F
variable(C:Task->Option Res)(q:Nat)(fr:Fr)(σ : S)
@[simp] def F12l0x:PC:=(sr [bk 10 .lss 9 3] [1,3,8,9,10] (.seq (.cond (.t 10) .skip (.exit 0)) (.seq (.block 1 (sr [jj 11 (.indexA true 3 4 (.t 8) (.t 9)),jj 5 (.alloc [zN,zN,eN,sN]),st 4 5 11] [1,3,5,8,9] (sr [fa 12 0 5,l1 13 12,bk 14 .neq 13 0,mv 15 14,jt 16 15 (.load true 1 (.t 3)),jt 17 15 (.load true 4 (.t 5)),jt 18 15 (.call 30 [(.t 16),(.t 17)]),jt 19 15 (.un .not (.t 18)),jj 20 (.pick (.t 15) (.t 19) kF)] [1,3,8,9,20] (cs 20 (sr [mx 2 (kk 13)] [2] .ret))))) (rn [bk 21 .add 9 1,mv 9 21] [1,3,8,9]))))
def F12l0:PC:=F12l0x
theorem qb9:run C q F12l0 fr σ = run C q F12l0x fr σ := rfl
def F12:PFun:=pf 1 [.tmp 2] (sr [bx 1 0,mx 2 (kk 0)] [1] (sr [jj 6 (.call 26 []),jj 3 (.alloc [(.lit (.map none))]),st 1 3 6] [1,3] (.seq (sr [fa 7 0 1,la 8 12 7,mx 9 (kk 0)] [1,3,8,9] (.block 0 (.loop F12l0))) (.seq (sr [la 22 12 1,cl 23 15 [22],ls 24 23,bk 25 .gtr 24 16] [25] (cs 25 (sr [mx 2 (kk 2)] [2] .ret))) (sr [mx 2 (kk 0)] [2] .ret)))))
@[simp] def F15a0x:PC:=(rn [jj 7 (.alloc [zN,zN,eN,sN]),st 4 7 18] [3,4,7])
def F15a0:PC:=F15a0x
theorem qeK:run C q F15a0 fr σ = run C q F15a0x fr σ := rfl
@[simp] def F15b0x:PC:=(.block 3 (.seq (sr [fa 19 0 7,l1 20 19,bk 21 .neq 20 1,mv 22 21,jt 23 22 (.fieldAddr 0 (.t 7)),jt 24 22 (.load false 1 (.t 23)),jt 25 22 (.bin .neq (.t 24) (kk 10)),jj 26 (.pick (.t 22) (.t 25) kF)] [3,4,7,26] (cs 26 (.exit 3))) (sr [l1 28 4,fa 29 2 7,l1 30 29,jj 31 (.lookup .s zN (.t 28) (.t 30) true),mv 27 31,ex 32 27 0,ex 33 27 1,mv 8 32,mv 9 33] [3,4,7,9] (sr [mv 34 9,jj 35 (.un .not (.t 34))] [3,4,7,35] (cs 35 (sr [l1 36 4,fa 37 2 7,l1 38 37,l1 39 3,ls 40 39,jn (.mapset .s (.t 36) (.t 38) (.t 40))] [3,7] (rn [l1 41 3,fa 42 2 7,l1 43 42,jj 44 (.bslice 1 [eN] [(0,1,(.t 43))]),jj 45 (.append 1 16 (.t 41) (.t 44)),st 1 3 45] [])))))))
def F15b0:PC:=F15b0x
theorem qeL:run C q F15b0 fr σ = run C q F15b0x fr σ := rfl
@[simp] def F15l0x:PC:=(sr [bk 14 .lss 13 3] [3,4,12,13,14] (.seq (.cond (.t 14) .skip (.exit 0)) (.seq (.block 1 (sr [jj 15 (.indexA true 3 4 (.t 12) (.t 13)),jj 6 (.alloc [zN,zN,eN,sN]),st 4 6 15] [3,4,6,12,13] (sr [la 16 4 6,cl 17 32 [16]] [3,4,12,13,17] (.block 2 (.range (.t 17) [18] F15a0 F15b0))))) (rn [bk 46 .add 13 1,mv 13 46] [3,4,12,13]))))
def F15l0:PC:=F15l0x
theorem qca:run C q F15l0 fr σ = run C q F15l0x fr σ := rfl
theorem qbj:F15a0.flat=true:=rfl
theorem qbk:F15b0.flat=true:=rfl
def F15:PFun:=pf 1 [.tmp 2] (sr [bx 1 0,jj 2 (.mov (.c (.slice none 0 0)))] [1] (sr [jj 3 (.alloc [sN])] [1,3] (sr [jj 10 (.mkmap),jj 4 (.alloc [(.lit (.map none))]),st 1 4 10] [1,3,4] (.seq (sr [fa 11 0 1,la 12 12 11,mx 13 (kk 0)] [3,4,12,13] (.block 0 (.loop F15l0))) (sr [l1 47 3,mv 2 47] [2] .ret)))))
def F26:PFun:=pf 0 [.cell 0 true 1] (sr [jj 0 (.alloc [(.lit (.map none))])] [0] (sr [jj 4 (.build [zN,zN] [(0,1,(kk 1)),(1,1,(kk 1))]),jj 5 (.build [zN,zN] [(0,1,(kk 1)),(1,1,(kk 2))]),jj 6 (.build [zN,zN] [(0,1,(kk 2)),(1,1,(kk 2))]),jj 1 (.alloc [zN,zN]),jj 2 (.alloc [zN,zN]),jj 3 (.alloc [zN,zN]),st 2 1 4,st 2 2 5,st 2 3 6] [0,1,2,3] (sr [jj 7 (.mkmap),la 8 2 1,jn (.mapset .s (.t 7) (ks [43]) (.t 8)),la 9 2 1,jn (.mapset .s (.t 7) (ks [45]) (.t 9)),la 10 2 1,jn (.mapset .s (.t 7) (ks [42]) (.t 10)),la 11 2 1,jn (.mapset .s (.t 7) (ks [47]) (.t 11)),la 12 2 2,jn (.mapset .s (.t 7) (ks [60]) (.t 12)),la 13 2 2,jn (.mapset .s (.t 7) (ks [60,61]) (.t 13)),la 14 2 2,jn (.mapset .s (.t 7) (ks [62]) (.t 14)),la 15 2 2,jn (.mapset .s (.t 7) (ks [62,61]) (.t 15)),la 16 2 2,jn (.mapset .s (.t 7) (ks [61,61]) (.t 16)),la 17 2 2,jn (.mapset .s (.t 7) (ks [33,61]) (.t 17)),la 18 2 3,jn (.mapset .s (.t 7) (ks [38,38]) (.t 18)),la 19 2 3,jn (.mapset .s (.t 7) (ks [124,124]) (.t 19)),mv 20 7,jj 21 (.build [(.lit (.map none))] [(0,1,(.t 20))]),st 1 0 21] [0] .ret)))
def F27:PFun:=pf 2 [.tmp 4] (sr [bx 2 0,bx 3 1,mx 4 (kk 0)] [2,3] (sr [la 11 4 3,cl 12 35 [11],mv 10 12,ex 13 10 0,ex 14 10 1,jj 5 (.alloc [zN,zN,eN,sN]),jj 6 (.alloc [zN,zN,eN,sN]),st 4 5 13,st 4 6 14] [2,3,5,6] (.seq (sr [fa 15 0 3,l1 16 15] [2,3,5,6,16] (.block 0 (.seq (.block 5 (.seq (.block 4 (.seq (.block 3 (.seq (.block 2 (.seq (.block 1 (.seq (.seq (sr [bk 18 .eql 16 11,mv 17 18] [2,3,5,6,16,17] (cs 17 (.exit 1))) (.seq (.seq (sr [bk 20 .eql 16 8,mv 19 20] [2,3,5,6,16,19] (.cond (.t 19) .skip (sr [bk 21 .eql 16 10,mv 19 21] [2,3,5,6,16,19] (.cond (.t 19) .skip (rn [bk 22 .eql 16 12,mv 19 22] [2,3,5,6,16,19]))))) (cs 19 (.exit 2))) (.seq (sr [bk 24 .eql 16 9,mv 23 24] [2,3,5,6,16,23] (cs 23 (.exit 3))) (.seq (sr [bk 26 .eql 16 13,mv 25 26] [2,3,5,6,16,25] (cs 25 (.exit 4))) (sr [bk 28 .eql 16 14,mv 27 28] [2,3,5,6,27] (cs 27 (.exit 5))))))) (.exit 0))) (sr [la 29 1 2,la 30 4 5,cl 31 27 [29,30],bk 32 .neq 31 1] [32] (cs 32 (sr [mx 4 (kk 0)] [4] .ret))))) (.seq (sr [mx 4 (kk 1)] [4] .ret) (.exit 0)))) (.seq (sr [mx 4 (kk 2)] [4] .ret) (.exit 0)))) (.seq (sr [mx 7 (kk 2)] [2,3,5,7] (.seq (sr [fa 33 2 3,l1 34 33,jj 35 (.bin .eql (.t 34) (ks [45]))] [2,5,7,35] (cs 35 (rn [mx 7 (kk 1)] [2,5,7]))) (sr [la 36 1 2,la 37 4 5,cl 38 27 [36,37],mv 39 7,bn 40 .eql 38 39] [7,40] (cs 40 (sr [mv 41 7,mv 4 41] [4] .ret))))) (.exit 0)))) (.seq (sr [fa 43 0 2,l1 44 43,fa 45 2 3,l1 46 45,jj 47 (.lookup .s (.agg [zN,zN]) (.t 44) (.t 46) true),mv 42 47,ex 48 42 0,ex 49 42 1,jj 8 (.alloc [zN,zN]),st 2 8 48,mv 9 49] [2,5,6,8,9] (.seq (.region (some []) [mv 50 9,mv 51 50,jt 52 51 (.load true 1 (.t 2)),jt 53 51 (.load true 4 (.t 5)),jt 54 51 (.call 27 [(.t 52),(.t 53)]),jt 55 51 (.fieldAddr 0 (.t 8)),⟨some 56,.load false 1 (.t 55),some (51,true),[4]⟩,jt 57 51 (.bin .eql (.t 54) (.t 56)),jj 58 (.pick (.t 51) (.t 57) kF),mv 59 58,jt 60 59 (.load true 1 (.t 2)),jt 61 59 (.load true 4 (.t 6)),jt 62 59 (.call 27 [(.t 60),(.t 61)]),jt 63 59 (.fieldAddr 0 (.t 8)),⟨some 64,.load false 1 (.t 63),some (59,true),[12]⟩,jt 65 59 (.bin .eql (.t 62) (.t 64)),jj 66 (.pick (.t 59) (.t 65) kF)] [8,66]) (cs 66 (sr [fa 67 1 8,l1 68 67,mv 4 68] [4] .ret)))) (.exit 0))))) (sr [mx 4 (kk 0)] [4] .ret))))
def F30:PFun:=pf 2 [.tmp 4] (sr [bx 2 0,bx 3 1,mx 4 kF] [2,3] (sr [la 8 4 3,cl 9 35 [8],mv 7 9,ex 10 7 0,ex 11 7 1,jj 5 (.alloc [zN,zN,eN,sN]),jj 6 (.alloc [zN,zN,eN,sN]),st 4 5 10,st 4 6 11] [2,3,5,6] (.seq (sr [fa 12 0 3,l1 13 12] [2,3,5,6,13] (.block 0 (.seq (.block 6 (.seq (.block 5 (.seq (.block 4 (.seq (.block 3 (.seq (.block 2 (.seq (.block 1 (.seq (.seq (sr [bk 15 .eql 13 1,mv 14 15] [2,3,5,6,13,14] (cs 14 (.exit 1))) (.seq (sr [bk 17 .eql 13 2,mv 16 17] [2,3,5,6,13,16] (cs 16 (.exit 2))) (.seq (sr [bk 19 .eql 13 5,mv 18 19] [2,3,5,6,13,18] (cs 18 (.exit 3))) (.seq (.seq (sr [bk 21 .eql 13 3,mv 20 21] [2,3,5,13,20] (.cond (.t 20) .skip (rn [bk 22 .eql 13 4,mv 20 22] [2,3,5,13,20]))) (cs 20 (.exit 4))) (.seq (sr [bk 24 .eql 13 6,mv 23 24] [2,3,13,23] (cs 23 (.exit 5))) (sr [bk 26 .eql 13 7,mv 25 26] [2,3,25] (cs 25 (.exit 6)))))))) (.exit 0))) (.seq (sr [la 27 1 2,la 28 4 5,cl 29 27 [27,28],bk 30 .eql 29 1,mv 4 30] [4] .ret) (.exit 0)))) (sr [fa 31 2 3,l1 32 31,jj 33 (.bin .eql (.t 32) (ks [104,105,116])),mv 34 33,jf 35 34 (.fieldAddr 2 (.t 3)),jf 36 34 (.load false 1 (.t 35)),jf 37 34 (.bin .eql (.t 36) (ks [115,116,105,108,108])),jj 38 (.pick (.t 34) kT (.t 37))] [2,5,6,38] (cs 38 (sr [mx 4 kF] [4] .ret))))) (.seq (sr [la 39 1 2,la 40 4 5,cl 41 27 [39,40],bk 42 .eql 41 1,mv 43 42,jt 44 43 (.load true 1 (.t 2)),jt 45 43 (.load true 4 (.t 6)),jt 46 43 (.call 27 [(.t 44),(.t 45)]),jt 47 43 (.bin .eql (.t 46) (kk 1)),jj 48 (.pick (.t 43) (.t 47) kF),mv 4 48] [4] .ret) (.exit 0)))) (.seq (.seq (sr [la 49 1 2,la 50 4 5,cl 51 27 [49,50],bk 52 .neq 51 2] [2,3,52] (cs 52 (sr [mx 4 kF] [4] .ret))) (.seq (.region (some []) [la 53 1 2,fa 54 3 3,l1 55 54,jj 56 (.slice 4 (.t 55) (some (kk 1)) none),cl 57 37 [53,56],mv 4 57] [4] [4]) .ret)) (.exit 0)))) (.seq (sr [mx 4 kT] [4] .ret) (.exit 0)))) (.seq (sr [la 58 1 2,fa 59 3 3,l1 60 59,cl 61 37 [58,60],mv 4 61] [4] .ret) (.exit 0))))) (sr [mx 4 kF] [4] .ret))))
def F32:PFun:=pf 1 [.tmp 2] (sr [bx 1 0,jj 2 (.mov (.c .nilFunc))] [1] (sr [jj 3 (.mkfn 38 [] [(.t 1)]),mv 2 3] [2] .ret))
def F35:PFun:=pf 1 [.cell 2 true 4,.cell 3 true 4] (sr [bx 1 0,jj 2 (.alloc [zN,zN,eN,sN]),jj 3 (.alloc [zN,zN,eN,sN])] [1,2,3] (.seq (sr [fa 4 3 1,l1 5 4,ls 6 5,bk 7 .gtr 6 0] [1,2,3,7] (cs 7 (rn [fa 8 3 1,l1 9 8,jj 10 (.indexAddr 4 (.t 9) (kk 0)),la 11 4 10,st 4 2 11] [1,2,3]))) (.seq (sr [fa 12 3 1,l1 13 12,ls 14 13,bk 15 .gtr 14 1] [1,2,3,15] (cs 15 (rn [fa 16 3 1,l1 17 16,jj 18 (.indexAddr 4 (.t 17) (kk 1)),la 19 4 18,st 4 3 19] [2,3]))) (.seq (.region (some []) [la 20 4 2,⟨some 21,.load true 4 (.t 3),none,[2]⟩,st 4 2 20,st 4 3 21] [2,3]) .ret))))
@[simp] def F37l0x:PC:=(sr [bn 10 .lss 9 8] [2,7,8,9,10] (.seq (.cond (.t 10) .skip (.exit 0)) (.seq (.block 1 (sr [jj 11 (.indexAddr 4 (.t 7) (.t 9)),la 12 4 11,jj 6 (.alloc [zN,zN,eN,sN]),st 4 6 12] [2,6,7,8,9] (sr [la 13 1 2,la 14 4 6,cl 15 30 [13,14],jj 16 (.un .not (.t 15))] [2,7,8,9,16] (cs 16 (sr [mx 4 kF] [4] .ret))))) (rn [bk 17 .add 9 1,mv 9 17] [2,7,8,9]))))
def F37l0:PC:=F37l0x
theorem qin:run C q F37l0 fr σ = run C q F37l0x fr σ := rfl
def F37:PFun:=pf 2 [.tmp 4] (sr [bx 2 0,mx 4 kF] [1,2] (.seq (sr [mv 7 1,ls 8 7,mx 9 (kk 0)] [2,7,8,9] (.block 0 (.loop F37l0))) (sr [mx 4 kT] [4] .ret)))
def F38:PFun:=pf 2 [] (rn [la 3 4 1,mv 4 0,cl 5 39 [3,4]] [])
@[simp] def F39l0x:PC:=(sr [bn 15 .lss 14 13] [1,12,13,14,15] (.seq (.cond (.t 15) .skip (.exit 0)) (.seq (.block 1 (sr [jj 16 (.indexAddr 4 (.t 12) (.t 14)),la 17 4 16,jj 6 (.alloc [zN,zN,eN,sN]),st 4 6 17] [1,6,12,13,14] (sr [la 18 4 6,mv 19 1,cl 20 39 [18,19],jj 21 (.un .not (.t 20))] [1,12,13,14,21] (cs 21 (sr [mx 4 kF] [4] .ret))))) (rn [bk 22 .add 14 1,mv 14 22] [1,12,13,14]))))
def F39l0:PC:=F39l0x
theorem qdr:run C q F39l0 fr σ = run C q F39l0x fr σ := rfl
def F39:PFun:=pf 2 [.tmp 4] (sr [bx 2 0,mx 4 kF] [1,2] (.seq (sr [mv 7 1,la 8 4 2,jj 9 (.callv (.t 7) [(.t 8)]),jj 10 (.un .not (.t 9))] [1,2,10] (cs 10 (sr [mx 4 kF] [4] .ret))) (.seq (sr [fa 11 3 2,l1 12 11,ls 13 12,mx 14 (kk 0)] [1,12,13,14] (.block 0 (.loop F39l0))) (sr [mx 4 kT] [4] .ret))))
end Go.Pm.F
end
section
namespace Go.Pm.F
def qaL:Nat->Option PFun
 |15=>some F15
 |32=>some F32
 |38=>some F38
 |39=>some F39
 |_=>none
def qaM:Nat->Option PFun
 |12=>some F12
 |15=>some F15
 |26=>some F26
 |27=>some F27
 |30=>some F30
 |32=>some F32
 |35=>some F35
 |37=>some F37
 |38=>some F38
 |39=>some F39
 |_=>none
theorem qgy : ∀ f pf,qaL f=some pf->qaM f=some pf:=fun f pf h=>by
 unfold qaL at h
 split at h<;>first | (cases h; rfl) | cases h
end Go.Pm.F
end
namespace Go.Pm
section
open F
inductive NmSt:S->V->S->Nat->List ByteArray->Ob->Prop
 |a (l:List ByteArray) (x:Ob):NmSt [] (.dat (qm0 l)) [x] 0 l x
 |b (l:List ByteArray) (x:Ob) (m:Nat) (h:l≠[]):NmSt [] (.gsl (strC l) l.length 1 0) [.tip m,x] 1 l x
abbrev qbz(k n:Int)(s:ByteArray)(d:D):Ob := .cells [.int k,.int n,.str s,.dat d]
end
section
open F
attribute [local simp] dkey
def mapM:Nat->List ByteArray->List (Value × V)
 |_,[]=>[]
 |i,s::l=>(.string s,.int i)::mapM (i+1) l
theorem qiU(s:ByteArray) : ∀ (l:List ByteArray) (i:Nat),(s∉l->qd9 .s (.string s) (mapM i l)=some none)/\(s∈l -> ∃ j:Nat,qd9 .s (.string s) (mapM i l)=some (some (.int j)))
 |[],i=>by simp[mapM,qd9]
 |x::l,i=>by
  have ih:=qiU s l (i+1)
  by_cases h:s=x
  ·subst h
   exact⟨fun hn=>absurd (WO ..) hn,fun _=>⟨i,by simp[mapM,qd9,qb6]⟩⟩
  ·have hb:(s==x)=false:=by rw[qed]; exact decide_eq_false h
   refine⟨fun hn=>?_,fun hm=>?_⟩
   ·have:=ih.1 (fun hm=>hn (WA _ hm))
    simp[mapM,qd9,qb6,hb,this]
   ·obtain⟨j,hj⟩:=ih.2 ((Wo.1 hm).resolve_left h)
    exact⟨j,by simp[mapM,qd9,qb6,hb,hj]⟩
theorem qkK(s:ByteArray) : ∀ (l:List ByteArray) (i:Nat),s∉l->qrP .s (.string s) (.int (i+l.length:Nat)) (mapM i l)=some (mapM i (l++[s]))
 |[],i,_=>by simp[mapM,qrP]
 |x::l,i,hn=>by
  have h:s≠x:=fun h=>hn (h ▸ WO ..)
  have hb:(s==x)=false:=by rw[qed]; exact decide_eq_false h
  have ih:=qkK s l (i+1) (fun hm=>hn (WA _ hm))
  rw[show i+1+l.length=i+(l.length+1) by omega] at ih
  simp only[We,Wg,mapM,qrP,qb6,hb,ih]
theorem qa8 : ∀ (l:List ByteArray) (i:Nat),qhS (mapM i l)=[]
 |[],i=>rfl
 |x::l,i=>by simp[mapM,qa8 l]
theorem qbA(r:Nat->Nat) : ∀ (l:List ByteArray) (i:Nat),qr8 r (mapM i l)=mapM i l
 |[],i=>rfl
 |x::l,i=>by simp[mapM,qbA r l]
attribute [local simp] qa8 qbA dkey
abbrev lpO(r:D)(i:Int):Ob := .loop ⟨[(3,.ptr 1 0),(4,.ptr 2 0),(12,.dat r),(13,.int i),(17,.fn 38 [] [.ptr 3 0])],[18],F15a0,F15b0,0,none⟩
abbrev S0(r:D)(j:Int)(bx:Ob):S:=[lpO r j,.cells [.dat (.lit (.slice none 0 0))],.cells [.mp 4],bx,.map []]
abbrev S01(r:D)(j:Int)(bx:Ob)(l:List ByteArray):S:=[lpO r j,.cells [.gsl (strC l) l.length 1 5],.cells [.mp 4],bx,.map (mapM 0 l),.tip l.length]
abbrev S1(r:D)(j:Int)(bx:Ob)(l:List ByteArray):S:=[lpO r j,.cells [.gsl (strC l) l.length 1 4],.cells [.mp 5],bx,.tip l.length,.map (mapM 0 l)]
section
variable{k n k0 n0:Int}{s s0:ByteArray}{f f0:Bool}{ks:Fo}{d0:D}{r:D}{j:Int}{l:List ByteArray}
theorem qs5(h1:k≠1)(h2:k≠10):Z qaL (.round [.yld 0,nd k n s f ks] (S0 r j (qbz k0 n0 s0 d0)))=some (.ret (.bool true) (S0 r j (qbz k0 n0 s0 d0))):=by
 rw[qcx]
 simp[qbs,qbj,qbk,qeK,qeL,qcU,h1,h2,Lp.ended,Ex.isNormal,qbz,Wa]
theorem qs6(h1:k≠1)(h2:k≠10):Z qaL (.round [.yld 0,nd k n s f ks] (S1 r j (qbz k0 n0 s0 d0) l))=some (.ret (.bool true) (S1 r j (qbz k0 n0 s0 d0) l)):=by
 rw[qcx]
 simp[qbs,qbj,qbk,qeK,qeL,qcU,h1,h2,Lp.ended,Ex.isNormal,qbz,Wa]
theorem qwv(hk:k=1\/k=10)(hs:s∈l):Z qaL (.round [.yld 0,nd k n s f ks] (S1 r j (qbz k0 n0 s0 d0) l))=some (.ret (.bool true) (S1 r j (qbz k0 n0 s0 d0) l)):=by
 obtain⟨q,hq⟩:=(qiU s l 0).2 hs
 rw[qcx]
 rcases hk with rfl|rfl<;>simp[qbs,qbj,qbk,qeK,qeL,qcU,hq,qdW,Lp.ended,Ex.isNormal,qbz,Wa]
theorem qww(hk:k=1\/k=10):Z qaL (.round [.yld 0,nd k n s f ks] (S0 r j (qbz k0 n0 s0 d0)))=some (.ret (.bool true) (S01 r j (qbz k0 n0 s0 d0) [s])):=by
 rw[qcx]
 rcases hk with rfl|rfl<;>simp[qbs,qbj,qbk,qeK,qeL,qcU,qd9,qrP,mapM,qob,qdW,Lp.ended,Ex.isNormal,qbz,Wa,V.len,qbH,qkr,qao]
theorem qwx(hk:k=1\/k=10)(hs:s∉l)(h0:l≠[])(hl:l.length<2^30):Z qaL (.round [.yld 0,nd k n s f ks] (S1 r j (qbz k0 n0 s0 d0) l))=some (.ret (.bool true) (S1 r j (qbz k0 n0 s0 d0) (l++[s]))):=by
 have hq:=(qiU s l 0).1 hs
 have hs':=qkK s l 0 hs
 rw[WG] at hs'
 have r2:qao (l.length+1) 16=true:=by simp[qao]; omega
 rw[qcx]
 rcases hk with rfl|rfl<;>simp[qbs,qbj,qbk,qeK,qeL,qcU,hq,hs',qtD,qob,qdW,Lp.ended,Ex.isNormal,qbz,Wa,V.len,qbH,qkr,r2]
theorem rd0 : ∃ S',Z qaL (.round [.yld 0,nd k n s f ks] (S0 r j (qbz k0 n0 s0 d0)))=some (.ret (.bool true) S') /\
  ((addAll [] (if k=1\/k=10 then [s] else [])=[]/\S'=S0 r j (qbz k0 n0 s0 d0))\/(addAll [] (if k=1\/k=10 then [s] else [])≠[]/\S'=S01 r j (qbz k0 n0 s0 d0) (addAll [] (if k=1\/k=10 then [s] else [])))):=by
 by_cases hk:k=1\/k=10
 ·simp only[if_pos hk]
  exact⟨_,qww hk,.inr ⟨by simp[addAll,qrm],rfl⟩⟩
 ·simp only[if_neg hk]
  exact⟨_,qs5 (by omega) (by omega),.inl ⟨rfl,rfl⟩⟩
theorem rd1(h0:l≠[])(hl:l.length<2^30):Z qaL (.round [.yld 0,nd k n s f ks] (S1 r j (qbz k0 n0 s0 d0) l))=some (.ret (.bool true) (S1 r j (qbz k0 n0 s0 d0) (addAll l (if k=1\/k=10 then [s] else [])))):=by
 by_cases hk:k=1\/k=10
 ·simp only[if_pos hk,addAll,Ya,List.foldl_nil,qrm]
  by_cases hs:s∈l
  ·rw[if_pos hs]; exact qwv hk hs
  ·rw[if_neg hs]; exact qwx hk hs h0 hl
 ·simp only[if_neg hk]
  exact qs6 (by omega) (by omega)
end
end
section
open F
attribute [local simp] qa8 qbA dkey
section
variable{k n k0 n0:Int}{s s0:ByteArray}{f fl:Bool}{ks:Fo}{d0 d:D}{r:D}{j:Int}{l l1 l2:List ByteArray}{i N:Nat}{cs c4:List D}
abbrev qpD(d:D)(N i:Nat):Fr:=[(1,.yld 0),(12,.dat d),(13,.int N),(14,.int i)]
abbrev qkA(d:D)(N:Nat)(S':S):Option Res:=some (.out (.exit 0) [(1,.yld 0),(12,.dat d),(13,.int N),(14,.int N),(15,.bool false)] S')
def Got(r:D)(j:Int)(bx:Ob)(l:List ByteArray)(S':S):Prop:=(l=[]/\S'=S0 r j bx)\/(l≠[]/\S'=S01 r j bx l)
theorem qvS(h1:V.one (.dat d)=true)(h2:V.cells (.dat d)=[.dat d]):Z qaL (.loop 5 F39l0 (qpD d N N) (S0 r j (qbz k0 n0 s0 d0)))=qkA d N (S0 r j (qbz k0 n0 s0 d0)):=by
 rw[qaa]
 simp[qab,qdr,qbz,Wa]
theorem qvT(h1:V.one (.dat d)=true)(h2:V.cells (.dat d)=[.dat d]):Z qaL (.loop 5 F39l0 (qpD d N N) (S01 r j (qbz k0 n0 s0 d0) l))=qkA d N (S01 r j (qbz k0 n0 s0 d0) l):=by
 rw[qaa]
 simp[qab,qdr,qbz,Wa]
theorem qvU(h1:V.one (.dat d)=true)(h2:V.cells (.dat d)=[.dat d]):Z qaL (.loop 6 F39l0 (qpD d N N) (S1 r j (qbz k0 n0 s0 d0) l))=qkA d N (S1 r j (qbz k0 n0 s0 d0) l):=by
 rw[qaa]
 simp[qab,qdr,qbz,Wa]
def qqk(r:D)(j:Int)(bx:Ob)(nv:V)(xs:List ByteArray):Prop:=
 (∃ S',Z qaL (.call 39 [nv,.yld 0] (S0 r j bx))=some (.ret (.bool true) S')/\Got r j bx (addAll [] xs) S') /\
 ∀ l,l≠[]->l.length+xs.length<2^29->Z qaL (.call 39 [nv,.yld 0] (S1 r j bx l))=some (.ret (.bool true) (S1 r j bx (addAll l xs)))
def qhb(r:D)(j:Int)(bx:Ob)(d:D)(N i:Nat)(xs:List ByteArray):Prop:=
 (∃ S',Z qaL (.loop 5 F39l0 (qpD d N i) (S0 r j bx))=qkA d N S'/\Got r j bx (addAll [] xs) S') /\
 (∀ l,l≠[]->l.length+xs.length<2^29->Z qaL (.loop 5 F39l0 (qpD d N i) (S01 r j bx l))=qkA d N (S01 r j bx (addAll l xs))) /\
 (∀ l,l≠[]->l.length+xs.length<2^29->Z qaL (.loop 6 F39l0 (qpD d N i) (S1 r j bx l))=qkA d N (S1 r j bx (addAll l xs)))
theorem qcV(xs:List ByteArray)(h:l≠[]):addAll l xs≠[]:=by
 have h1:=(qco xs l).1
 intro he
 rw[he] at h1
 exact h (WL (Nat.le_zero.1 h1))
theorem qsK (hc:cs.drop (i*4) = .lit (.int .i64 k) :: .lit (.int .i64 n) :: .lit (.string s)::kd f ks.len ks.cells::c4) (hi:i<N) (hN:N<2^40) {xs ys:List ByteArray} (hx:xs.length+ys.length<2^28)
  (hw:qqk r j (qbz k0 n0 s0 d0) (nd k n s f ks) xs) (ih:qhb r j (qbz k0 n0 s0 d0) (.sl cs N fl) N (i+1) ys):qhb r j (qbz k0 n0 s0 d0) (.sl cs N fl) N i (xs++ys):=by
 have h4:=qx2 hc
 have w1:=qai ((i:Int)+1) (by omega)
 have hi':(i:Int)<N:=by omega
 obtain⟨⟨S',hw0,hg⟩,hw1⟩:=hw
 obtain⟨⟨T,ha,hT⟩,hb,hc'⟩:=ih
 have hlen:=qco xs []
 simp only[Wk,WG] at hlen
 refine⟨?_,fun l hl hb'=>?_,fun l hl hb'=>?_⟩
 ·rw[qcH]
  rcases hg with ⟨he,rfl⟩|⟨he,rfl⟩
  ·rw[he]
   refine⟨T,?_,hT⟩
   rw[qaa,<- ha]
   simp only[qbz,S0,S01] at hw0
   simp[qab,qdr,hi,hi',qaf,h4,hw0,w1,V.len,qbz,Wa]
   exact qah (by simp[Wa])
  ·refine⟨_,?_,.inr ⟨qcV _ he,rfl⟩⟩
   have hb1:=hb (addAll [] xs) he (by omega)
   rw[qaa,<- hb1]
   simp only[qbz,S0,S01] at hw0
   simp[qab,qdr,hi,hi',qaf,h4,hw0,w1,V.len,qbz,Wa]
   exact qah (by simp[Wa])
 ·rw[Wb] at hb'
  have hl2:=qco xs l
  have hb1:=hb (addAll l xs) (qcV _ hl) (by omega)
  have hw2:=hw1 l hl (by omega)
  rw[qcH,qaa,<- hb1]
  simp only[qbz,S1] at hw2
  simp[qab,qdr,hi,hi',qaf,h4,hw2,w1,V.len,qbz,Wa]
  exact qah (by simp[Wa])
 ·rw[Wb] at hb'
  have hl2:=qco xs l
  have hb1:=hc' (addAll l xs) (qcV _ hl) (by omega)
  have hw2:=hw1 l hl (by omega)
  rw[qcH,qaa,<- hb1]
  simp only[qbz,S1] at hw2
  simp[qab,qdr,hi,hi',qaf,h4,hw2,w1,V.len,qbz,Wa]
  exact qah (by simp[Wa])
theorem qny(hx:ks.vars.length<2^28)(h:qhb r j (qbz k0 n0 s0 d0) (kd f ks.len ks.cells) ks.len 0 ks.vars):qqk r j (qbz k0 n0 s0 d0) (nd k n s f ks) ((if k=1\/k=10 then [s] else [])++ks.vars):=by
 obtain⟨⟨T,ha,hT⟩,hb,hc⟩:=h
 have h4:(if k=1\/k=10 then [s] else []).length<=1:=by split<;>simp
 refine⟨?_,fun l hl hb'=>?_⟩
 ·obtain⟨S',hr,hS⟩:=rd0 (k:=k) (n:=n) (s:=s) (f:=f) (ks:=ks) (r:=r) (j:=j) (k0:=k0) (n0:=n0) (s0:=s0) (d0:=d0)
  have hlen:=qco (if k=1\/k=10 then [s] else []) []
  simp only[Wk,WG] at hlen
  rw[qcH]
  rcases hS with ⟨he,rfl⟩|⟨he,rfl⟩
  ·rw[he]
   refine⟨T,?_,hT⟩
   refine qac (pf:=F39) rfl rfl ?_
   have ha':=(qah (k:=5) (b:=F39l0) (fr:=qpD (kd f ks.len ks.cells) ks.len 0) (σ := S0 r j (qbz k0 n0 s0 d0)++[qbz k n s (kd f ks.len ks.cells)]) (by simp[qbz,Wa])).trans ha
   simp only[qbz,qpD,qkA,lpO,S0,S01,S1,Wg,Wc,show ((0:Nat):Int)=0 from rfl] at hr ha'
   rcases hT with ⟨hT,rfl⟩|⟨hT,rfl⟩<;>simp[F39,hr,ha',qbz,S0,S01,lpO,Wa]
  ·refine⟨S01 r j (qbz k0 n0 s0 d0) (addAll (addAll [] (if k=1\/k=10 then [s] else [])) ks.vars),?_,.inr ⟨qcV _ he,rfl⟩⟩
   generalize addAll [] (if k=1\/k=10 then [s] else [])=l at *
   have hb1:=hb l he (by omega)
   refine qac (pf:=F39) rfl rfl ?_
   have ha':=(qah (k:=5) (b:=F39l0) (fr:=qpD (kd f ks.len ks.cells) ks.len 0) (σ := [lpO r j,.cells [.gsl (strC l) l.length 1 6],.cells [.mp 4],qbz k0 n0 s0 d0,.map (mapM 0 l),qbz k n s (kd f ks.len ks.cells),.tip l.length]) (by simp[qbz,Wa])).trans hb1
   simp only[qbz,qpD,qkA,lpO,S0,S01,S1,Wg,Wc,show ((0:Nat):Int)=0 from rfl] at hr ha'
   simp[F39,hr,ha',qbz,S0,S01,lpO,Wa]
 ·rw[Wb] at hb'
  have hl2:=qco (if k=1\/k=10 then [s] else []) l
  have hr:=rd1 (k:=k) (n:=n) (s:=s) (f:=f) (ks:=ks) (r:=r) (j:=j) (k0:=k0) (n0:=n0) (s0:=s0) (d0:=d0) hl (by omega)
  have he:=qcV (if k=1\/k=10 then [s] else []) hl
  rw[qcH]
  generalize addAll l (if k=1\/k=10 then [s] else [])=l' at *
  have hc1:=hc l' he (by omega)
  refine qac (pf:=F39) rfl rfl ?_
  have ha':=(qah (k:=6) (b:=F39l0) (fr:=qpD (kd f ks.len ks.cells) ks.len 0) (σ := S1 r j (qbz k0 n0 s0 d0) l'++[qbz k n s (kd f ks.len ks.cells)]) (by simp[qbz,Wa])).trans hc1
  simp only[qbz,qpD,qkA,lpO,S0,S01,S1,Wg,Wc,show ((0:Nat):Int)=0 from rfl] at hr ha'
  simp[F39,hr,ha',qbz,S0,S01,lpO,Wa]
end
end
section
open F
attribute [local simp] qa8 qbA dkey
theorem qf0{r:D}{j k0 n0:Int}{s0:ByteArray}{d0 d:D}{N:Nat}(h1:V.one (.dat d)=true)(h2:V.cells (.dat d)=[.dat d]):qhb r j (qbz k0 n0 s0 d0) d N N []:=
 ⟨⟨_,qvS h1 h2,.inl ⟨rfl,rfl⟩⟩,fun _ _ _=>qvT h1 h2,fun _ _ _=>qvU h1 h2⟩
theorem qq0 {r:D} {j k0 n0:Int} {s0:ByteArray} {d0:D} : ∀ (a:Fo) (i:Nat) (cs:List D) (N:Nat) (fl:Bool),cs.drop (i*4)=a.cells->N=i+a.len->i+2*a.size<2^27 ->
  qhb r j (qbz k0 n0 s0 d0) (.sl cs N fl) N i a.vars
 |.nil,i,cs,N,fl,hc,hN,hb=>by
  simp only[qaO,Yp] at hN
  subst hN
  exact qf0 rfl rfl
 |.cons k n s f ks rr,i,cs,N,fl,hc,hN,hb=>by
  simp only[qan,qaA,qak] at hc hN hb
  have h1:=qbo rr
  have h2:=qik ks
  have h3:=qik rr
  have h4:(if k=1\/k=10 then [s] else []).length<=1:=by split<;>simp
  have hk:qhb r j (qbz k0 n0 s0 d0) (kd f ks.len ks.cells) ks.len 0 ks.vars:=by
   cases hz:ks.len with
   |zero=>
    have hn:ks = .nil:=by cases ks<;>simp at hz; rfl
    subst hn
    exact qf0 (by simp) (by simp)
   |succ m=>
    rw[qij,<- hz]
    exact qq0 ks 0 ks.cells ks.len f rfl (by omega) (by omega)
  have e:(Fo.cons k n s f ks rr).vars=((if k=1\/k=10 then [s] else [])++ks.vars)++rr.vars:=by rw[Fo.vars,Wf]
  rw[e]
  exact qsK hc (by omega) (by omega) (by rw[Wb]; omega) (qny (by omega) hk) (qq0 rr (i+1) cs N fl (qa9 hc) (by omega) (by omega))
theorem qq1{r:D}{j k0 n0:Int}{s0:ByteArray}{d0:D}(k n:Int)(s:ByteArray)(f:Bool)(ks:Fo)(hb:ks.size<2^25):qqk r j (qbz k0 n0 s0 d0) (nd k n s f ks) ((if k=1\/k=10 then [s] else [])++ks.vars):=by
 have h2:=qik ks
 refine qny (by omega) ?_
 cases hz:ks.len with
 |zero=>
  have hn:ks = .nil:=by cases ks<;>simp at hz; rfl
  subst hn
  exact qf0 (by simp) (by simp)
 |succ m=>
  rw[qij,<- hz]
  exact qq0 ks 0 ks.cells ks.len f rfl (by omega) (by omega)
abbrev qmd(r:D)(i:Int):Ob := .loop ⟨[(3,.ptr 2 0),(4,.ptr 3 0),(12,.dat r),(13,.int i),(17,.fn 38 [] [.ptr 1 0])],[18],F15a0,F15b0,0,none⟩
abbrev T0(r:D)(j:Int)(bx:Ob):S:=[qmd r j,bx,.cells [.dat (.lit (.slice none 0 0))],.cells [.mp 4],.map []]
abbrev T01(r:D)(j:Int)(bx:Ob)(l:List ByteArray):S:=[qmd r j,bx,.cells [.gsl (strC l) l.length 1 5],.cells [.mp 4],.map (mapM 0 l),.tip l.length]
abbrev T1(r:D)(j:Int)(bx:Ob)(l:List ByteArray):S:=[qmd r j,bx,.cells [.gsl (strC l) l.length 1 4],.cells [.mp 5],.tip l.length,.map (mapM 0 l)]
section
variable{r:D}{j:Int}{k n:Int}{s:ByteArray}{f:Bool}{ks:Fo}{xs:List ByteArray}
theorem qw0 (h:qqk r j (qbz k n s (kd f ks.len ks.cells)) (nd k n s f ks) xs) : ∃ S',Z qaL (.call 38 [.yld 0,.ptr 1 0] (T0 r j (qbz k n s (kd f ks.len ks.cells))))=some (.ret (.tup []) S') /\
  ((addAll [] xs=[]/\S'=T0 r j (qbz k n s (kd f ks.len ks.cells)))\/(addAll [] xs≠[]/\S'=T01 r j (qbz k n s (kd f ks.len ks.cells)) (addAll [] xs))):=by
 obtain⟨⟨S',h1,hg⟩,-⟩:=h
 simp only[qbz,S0,lpO] at h1
 rcases hg with ⟨he,rfl⟩|⟨he,rfl⟩
 ·refine⟨_,?_,.inl ⟨he,rfl⟩⟩
  refine qac (pf:=F38) rfl rfl ?_
  simp[F38,h1,qbz,S0,lpO,Wa]
 ·refine⟨_,?_,.inr ⟨he,rfl⟩⟩
  refine qac (pf:=F38) rfl rfl ?_
  simp[F38,h1,qbz,S01,lpO,Wa]
theorem qzU(h:qqk r j (qbz k n s (kd f ks.len ks.cells)) (nd k n s f ks) xs){l:List ByteArray}(hl:l≠[])(hb:l.length+xs.length<2^29):Z qaL (.call 38 [.yld 0,.ptr 1 0] (T1 r j (qbz k n s (kd f ks.len ks.cells)) l))=some (.ret (.tup []) (T1 r j (qbz k n s (kd f ks.len ks.cells)) (addAll l xs))):=by
 have h1:=h.2 l hl hb
 simp only[qbz,S1,lpO] at h1
 refine qac (pf:=F38) rfl rfl ?_
 simp[F38,h1,qbz,S1,lpO,Wa]
theorem qq2:Z qaL (.call 32 [nd k n s f ks] [])=some (.ret (.fn 38 [] [.ptr 0 0]) [qbz k n s (kd f ks.len ks.cells)]):=by
 refine qac (pf:=F32) rfl rfl ?_
 simp[F32,qbz]
end
end
section
open F
attribute [local simp] qa8 qbA dkey Ex.isPan
abbrev vfr(r:D)(i:Int):Fr:=[(3,.ptr 0 0),(4,.ptr 1 0),(12,.dat r),(13,.int i)]
abbrev U0:S:=[.cells [.dat (.lit (.slice none 0 0))],.cells [.mp 2],.map []]
abbrev U1(l:List ByteArray):S:=[.cells [.gsl (strC l) l.length 1 2],.cells [.mp 3],.tip l.length,.map (mapM 0 l)]
section
variable{a b c:Nd}
theorem qtG(hb:a.ks.size<2^25):Z qaL (.loop 0 F15l0 (vfr (ru a b c) 0) U0)=if addAll [] a.vars=[] then Z qaL (.loop 0 F15l0 (vfr (ru a b c) 1) U0) else Z qaL (.loop 0 F15l0 (vfr (ru a b c) 1) (U1 (addAll [] a.vars))):=by
 have hv:=qq1 (r:=ru a b c) (j:=0) (k0:=a.k) (n0:=a.n) (s0:=a.s) (d0:=a.d) a.k a.n a.s a.f a.ks hb
 obtain⟨S',h1,h2⟩:=qw0 hv
 have h3:=qq2 (k:=a.k) (n:=a.n) (s:=a.s) (f:=a.f) (ks:=a.ks)
 have w1:=qai 1 (by omega)
 rw[show (if a.k=1\/a.k=10 then [a.s] else [])++a.ks.vars=a.vars from rfl] at h2
 simp only[qbz,T0,qmd,ru,Nd.d] at h1 h3
 conv=>lhs; rw[qaa]
 rcases h2 with ⟨he,rfl⟩|⟨he,rfl⟩
 ·rw[if_pos he]
  simp[qab,qca,h3,h1,w1,qbj,qbk,qbz,T0,qmd,Wa]
  refine qah ?_
  simp[Wa]
 ·rw[if_neg he]
  simp[qab,qca,h3,h1,w1,qbj,qbk,qbz,T01,qmd,Wa]
  refine qah ?_
  simp[Wa]
theorem qtH(hb:b.ks.size<2^25):Z qaL (.loop 0 F15l0 (vfr (ru a b c) 1) U0)=if addAll [] b.vars=[] then Z qaL (.loop 0 F15l0 (vfr (ru a b c) 2) U0) else Z qaL (.loop 0 F15l0 (vfr (ru a b c) 2) (U1 (addAll [] b.vars))):=by
 have hv:=qq1 (r:=ru a b c) (j:=1) (k0:=b.k) (n0:=b.n) (s0:=b.s) (d0:=b.d) b.k b.n b.s b.f b.ks hb
 obtain⟨S',h1,h2⟩:=qw0 hv
 have h3:=qq2 (k:=b.k) (n:=b.n) (s:=b.s) (f:=b.f) (ks:=b.ks)
 have w1:=qai 2 (by omega)
 rw[show (if b.k=1\/b.k=10 then [b.s] else [])++b.ks.vars=b.vars from rfl] at h2
 simp only[qbz,T0,qmd,ru,Nd.d] at h1 h3
 conv=>lhs; rw[qaa]
 rcases h2 with ⟨he,rfl⟩|⟨he,rfl⟩
 ·rw[if_pos he]
  simp[qab,qca,h3,h1,w1,qbj,qbk,qbz,T0,qmd,Wa]
  refine qah ?_
  simp[Wa]
 ·rw[if_neg he]
  simp[qab,qca,h3,h1,w1,qbj,qbk,qbz,T01,qmd,Wa]
  refine qah ?_
  simp[Wa]
theorem qtI{l:List ByteArray}(hb:b.ks.size<2^25)(hl:l≠[])(hl':l.length<2^27):Z qaL (.loop 0 F15l0 (vfr (ru a b c) 1) (U1 l))=Z qaL (.loop 0 F15l0 (vfr (ru a b c) 2) (U1 (addAll l b.vars))):=by
 have hv:=qq1 (r:=ru a b c) (j:=1) (k0:=b.k) (n0:=b.n) (s0:=b.s) (d0:=b.d) b.k b.n b.s b.f b.ks hb
 have hx:=qeB b
 have h1:=qzU hv hl (by rw[show (if b.k=1\/b.k=10 then [b.s] else [])++b.ks.vars=b.vars from rfl]; omega)
 rw[show (if b.k=1\/b.k=10 then [b.s] else [])++b.ks.vars=b.vars from rfl] at h1
 have h3:=qq2 (k:=b.k) (n:=b.n) (s:=b.s) (f:=b.f) (ks:=b.ks)
 have w1:=qai 2 (by omega)
 simp only[qbz,T1,qmd,ru,Nd.d] at h1 h3
 conv=>lhs; rw[qaa]
 simp[qab,qca,h3,h1,w1,qbj,qbk,qbz,T1,qmd,Wa]
 refine qah ?_
 simp[Wa]
theorem qtJ(hb:c.ks.size<2^25):Z qaL (.loop 0 F15l0 (vfr (ru a b c) 2) U0)=if addAll [] c.vars=[] then Z qaL (.loop 0 F15l0 (vfr (ru a b c) 3) U0) else Z qaL (.loop 0 F15l0 (vfr (ru a b c) 3) (U1 (addAll [] c.vars))):=by
 have hv:=qq1 (r:=ru a b c) (j:=2) (k0:=c.k) (n0:=c.n) (s0:=c.s) (d0:=c.d) c.k c.n c.s c.f c.ks hb
 obtain⟨S',h1,h2⟩:=qw0 hv
 have h3:=qq2 (k:=c.k) (n:=c.n) (s:=c.s) (f:=c.f) (ks:=c.ks)
 have w1:=qai 3 (by omega)
 rw[show (if c.k=1\/c.k=10 then [c.s] else [])++c.ks.vars=c.vars from rfl] at h2
 simp only[qbz,T0,qmd,ru,Nd.d] at h1 h3
 conv=>lhs; rw[qaa]
 rcases h2 with ⟨he,rfl⟩|⟨he,rfl⟩
 ·rw[if_pos he]
  simp[qab,qca,h3,h1,w1,qbj,qbk,qbz,T0,qmd,Wa]
  refine qah ?_
  simp[Wa]
 ·rw[if_neg he]
  simp[qab,qca,h3,h1,w1,qbj,qbk,qbz,T01,qmd,Wa]
  refine qah ?_
  simp[Wa]
theorem qog{l:List ByteArray}(hb:c.ks.size<2^25)(hl:l≠[])(hl':l.length<2^27):Z qaL (.loop 0 F15l0 (vfr (ru a b c) 2) (U1 l))=Z qaL (.loop 0 F15l0 (vfr (ru a b c) 3) (U1 (addAll l c.vars))):=by
 have hv:=qq1 (r:=ru a b c) (j:=2) (k0:=c.k) (n0:=c.n) (s0:=c.s) (d0:=c.d) c.k c.n c.s c.f c.ks hb
 have hx:=qeB c
 have h1:=qzU hv hl (by rw[show (if c.k=1\/c.k=10 then [c.s] else [])++c.ks.vars=c.vars from rfl]; omega)
 rw[show (if c.k=1\/c.k=10 then [c.s] else [])++c.ks.vars=c.vars from rfl] at h1
 have h3:=qq2 (k:=c.k) (n:=c.n) (s:=c.s) (f:=c.f) (ks:=c.ks)
 have w1:=qai 3 (by omega)
 simp only[qbz,T1,qmd,ru,Nd.d] at h1 h3
 conv=>lhs; rw[qaa]
 simp[qab,qca,h3,h1,w1,qbj,qbk,qbz,T1,qmd,Wa]
 refine qah ?_
 simp[Wa]
theorem qAa{r:D}:Z qaL (.loop 0 F15l0 [(3,.ptr 0 0),(4,.ptr 1 0),(12,.dat r),(13,.int 3)] U0)=some (.out (.exit 0) [(3,.ptr 0 0),(4,.ptr 1 0),(12,.dat r),(13,.int 3),(14,.bool false)] U0):=by
 rw[qaa]
 simp[qab,qca]
theorem qrx{r:D}{l:List ByteArray}:Z qaL (.loop 0 F15l0 [(3,.ptr 0 0),(4,.ptr 1 0),(12,.dat r),(13,.int 3)] (U1 l))=some (.out (.exit 0) [(3,.ptr 0 0),(4,.ptr 1 0),(12,.dat r),(13,.int 3),(14,.bool false)] (U1 l)):=by
 rw[qaa]
 simp[qab,qca]
theorem qry (ha:a.ks.size<2^25) (hb:b.ks.size<2^25) (hc:c.ks.size<2^25):Z qaL (.loop 0 F15l0 (vfr (ru a b c) 0) U0) =
  some (.out (.exit 0) [(3,.ptr 0 0),(4,.ptr 1 0),(12,.dat (ru a b c)),(13,.int 3),(14,.bool false)] (if rvars a b c=[] then U0 else U1 (rvars a b c))):=by
 have la:=qeB a
 have lb:=qeB b
 have l1:=qco a.vars []
 have l2:=qco b.vars (addAll [] a.vars)
 have e:rvars a b c=addAll (addAll (addAll [] a.vars) b.vars) c.vars:=by unfold rvars; rw[qcH,qcH]
 simp only[Wk] at l1
 rw[e,qtG ha]
 by_cases h1:addAll [] a.vars=[]
 ·rw[if_pos h1,h1,qtH hb]
  by_cases h2:addAll [] b.vars=[]
  ·rw[if_pos h2,h2,qtJ hc]
   by_cases h3:addAll [] c.vars=[]
   ·rw[if_pos h3,if_pos h3]; exact qAa
   ·rw[if_neg h3,if_neg h3]; exact qrx
  ·rw[h1] at l2
   rw[if_neg h2,qog hc h2 (by simp only[Wk] at l2; omega),if_neg (qcV _ h2)]
   exact qrx
 ·have n2:addAll (addAll [] a.vars) b.vars≠[]:=qcV _ h1
  rw[if_neg h1,qtI hb h1 (by omega),qog hc n2 (by omega),if_neg (qcV _ n2)]
  exact qrx
theorem qi7(ha:a.ks.size<2^25)(hb:b.ks.size<2^25)(hc:c.ks.size<2^25):Z qaL (.call 15 [.dat (ru a b c)] [])=some (.ret (.dat (qm0 (rvars a b c))) []):=by
 have h:=qry ha hb hc
 refine qac (pf:=F15) rfl rfl ?_
 have h':=(qah (k:=0) (b:=F15l0) (fr:=[(3,.ptr 1 0),(4,.ptr 3 0),(12,.dat (ru a b c)),(13,.int 0)]) (σ := [.cells [.int a.k,.int a.n,.str a.s,.dat a.d,.int b.k,.int b.n,.str b.s,.dat b.d,.int c.k,.int c.n,.str c.s,.dat c.d],.cells [.dat (.lit (.slice none 0 0))],.map [],.cells [.mp 2]]) (by simp[vfr,U0])).trans h
 simp only[ru,Nd.d] at h'
 by_cases hn:rvars a b c=[]
 ·rw[if_pos hn] at h'
  rw[hn]
  simp[F15,h',qm0]
 ·rw[if_neg hn] at h'
  rw[qxm hn]
  simp[F15,h']
end
end
end Go.Pm
section
namespace Go.Pm.F
variable(C:Task->Option Res)(q:Nat)(fr:Fr)(σ : S)
def F17:PFun:=pf 2 [.tmp 4] (sr [mx 4 (kk 0)] [0,1] (.seq (sr [mv 5 0,bk 6 .lss 5 0] [0,1,6] (cs 6 (rn [mv 7 0,bk 8 .add 7 1,jj 9 (.un .neg (.t 8)),mv 0 9] [0,1]))) (sr [mv 10 0,mv 11 1,bn 12 .rem 10 11,mv 4 12] [4] .ret)))
@[simp] def F20l0x:PC:=(.seq (sr [mv 10 5,bk 11 .neq 10 0] [0,3,4,5,11] (.cond (.t 11) .skip (.exit 0))) (.seq (.block 1 (sr [mv 14 5,bk 15 .rem 14 10,mv 6 15] [0,3,4,5,6] (.seq (sr [mv 16 6,bk 17 .lss 16 0] [0,3,4,5,6,17] (cs 17 (rn [mv 18 6,jj 19 (.un .neg (.t 18)),mv 6 19] [0,3,4,5,6]))) (rn [mv 20 3,mv 21 6,mv 22 6,bk 23 .add 22 1,jj 24 (.sliceS (.t 20) (some (.t 21)) (some (.t 23))),mv 25 4,bn 26 .add 24 25,mv 4 26] [0,3,4,5])))) (rn [mv 12 5,bk 13 .quo 12 10,mv 5 13] [0,3,4,5])))
def F20l0:PC:=F20l0x
theorem ql0:run C q F20l0 fr σ = run C q F20l0x fr σ := rfl
def F20:PFun:=pf 1 [.tmp 2] (sr [jj 2 (.mov (ks []))] [0] (.seq (sr [mv 7 0,bk 8 .eql 7 0] [0,8] (cs 8 (sr [jj 2 (.mov (ks [48]))] [2] .ret))) (sr [jj 3 (.mov (ks [48,49,50,51,52,53,54,55,56,57]))] [0,3] (sr [jj 4 (.mov (ks []))] [0,3,4] (.seq (sr [mv 9 0,mv 5 9] [0,3,4,5] (.block 0 (.loop F20l0))) (.seq (sr [mv 27 0,bk 28 .lss 27 0] [4,28] (cs 28 (sr [mv 29 4,jj 30 (.bin .add (ks [45]) (.t 29)),mv 2 30] [2] .ret))) (sr [mv 31 4,mv 2 31] [2] .ret)))))))
def F23:PFun:=pf 2 [.tmp 4] (sr [jj 4 (.mov (.c (.slice none 0 0)))] [0,1] (sr [jj 5 (.mov (.c (.slice none 0 0)))] [0,1,5] (sr [mv 6 5,mv 7 0,mv 8 0,ls 9 8,mv 10 1,jj 11 (.min [(.t 9),(.t 10)]),jj 12 (.slice 1 (.t 7) none (some (.t 11))),jj 13 (.append 1 8 (.t 6) (.t 12)),mv 4 13] [4] .ret)))
@[simp] def F58l0x:PC:=(.seq (sr [mv 11 5,mv 12 0,ls 13 12,bn 14 .lss 11 13] [0,1,5,14] (.cond (.t 14) .skip (.exit 0))) (.seq (.block 1 (.seq (.region (some []) [mv 17 0,mv 18 5,jj 19 (.indexAddr 1 (.t 17) (.t 18)),l1 20 19,mv 21 1,mv 22 5,jj 23 (.indexAddr 1 (.t 21) (.t 22)),l1 24 23,bn 25 .neq 20 24] [0,1,5,25]) (cs 25 (sr [mx 4 kF] [4] .ret)))) (rn [mv 15 5,bk 16 .add 15 1,mv 5 16] [0,1,5])))
def F58l0:PC:=F58l0x
def F58:PFun:=pf 2 [.tmp 4] (sr [mx 4 kF] [0,1] (.seq (sr [mv 6 0,ls 7 6,mv 8 1,ls 9 8,bn 10 .neq 7 9] [0,1,10] (cs 10 (sr [mx 4 kF] [4] .ret))) (.seq (sr [mx 5 (kk 0)] [0,1,5] (.block 0 (.loop F58l0))) (sr [mx 4 kT] [4] .ret))))
end Go.Pm.F
end
section
namespace Go.Pm.F
variable(C:Task->Option Res)(q:Nat)(fr:Fr)(σ : S)
@[simp] def F123l0x:PC:=(.seq (sr [mv 10 5,bk 11 .lss 10 3] [2,3,4,5,11] (.cond (.t 11) .skip (.exit 0))) (.seq (.block 1 (sr [mv 14 3,jj 15 (.call 136 [(.t 14),(kk 4)]),bk 16 .gtr 15 0] [2,3,4,5,16] (cs 16 (rn [mv 17 5,mv 18 3,jj 19 (.call 137 [(.t 18),(kk 2),(kk 3)]),fa 20 0 4,jj 21 (.indexAddrA 3 4 (.t 20) (.t 17)),st 4 21 19] [2,3,4,5])))) (rn [mv 12 5,bk 13 .add 12 1,mv 5 13] [2,3,4,5])))
def F123l0:PC:=F123l0x
theorem qcz:run C q F123l0 fr σ = run C q F123l0x fr σ := rfl
def F123:PFun:=pf 1 [.cell 2 true 12] (sr [jj 2 (.alloc [zN,zN,eN,sN,zN,zN,eN,sN,zN,zN,eN,sN])] [0,2] (sr [mv 6 0,jj 7 (.call 23 [(.t 6),(kk 60)]),jj 8 (.build [sN,zN] [(0,1,(.t 7))]),bx 9 8,mv 3 9] [2,3] (sr [jj 4 (.alloc [zN,zN,eN,sN,zN,zN,eN,sN,zN,zN,eN,sN])] [2,3,4] (.seq (sr [mx 5 (kk 0)] [2,3,4,5] (.block 0 (.loop F123l0))) (sr [la 22 12 4,st 12 2 22] [2] .ret)))))
def F136:PFun:=pf 2 [.tmp 4] (sr [mx 4 (kk 0)] [0,1] (.seq (.seq (.region (some []) [mv 6 0,nc 7 6,fa 8 1 7,l1 9 8,mv 10 0,nc 11 10,fa 12 0 11,l1 13 12,ls 14 13,bn 15 .geq 9 14] [0,1,15]) (cs 15 (sr [mx 4 (kk 0)] [4] .ret))) (.seq (.region (some []) [mv 16 0,nc 17 16,fa 18 0 17,l1 19 18,mv 20 0,nc 21 20,fa 22 1 21,l1 23 22,jj 24 (.indexAddr 1 (.t 19) (.t 23)),l1 25 24,jj 26 (.call 17 [(.t 25),(kk 1000000)]),mv 5 26] [0,1,5] [10]) (sr [mv 27 0,nc 28 27,fa 29 1 28,l1 30 29,bk 31 .add 30 1,nc 32 27,fa 33 1 32,st 1 33 31] [1,5] (sr [mv 34 5,mv 35 1,bn 36 .rem 34 35,mv 4 36] [4] .ret)))))
@[simp] def F137l0x:PC:=(.seq (sr [mv 14 8,bk 15 .gtr 14 0] [0,1,6,7,8,15] (.cond (.t 15) .skip (.exit 0))) (.seq (.block 1 (.region (some []) [fa 18 3 7,⟨some 19,.load false 1 (.t 18),none,[4]⟩,mv 20 0,mv 21 1,cl 22 162 [20,21],jj 23 (.bslice 1 [zN,zN,eN,sN] [(0,4,(.t 22))]),jj 24 (.append 4 56 (.t 19) (.t 23)),fa 25 3 7,st 1 25 24] [0,1,6,7,8] [4])) (rn [mv 16 8,bk 17 .sub 16 1,mv 8 17] [0,1,6,7,8])))
def F137l0:PC:=F137l0x
theorem qfg:run C q F137l0 fr σ = run C q F137l0x fr σ := rfl
def F137:PFun:=pf 3 [.cell 6 true 4] (sr [jj 6 (.alloc [zN,zN,eN,sN])] [0,1,2,6] (sr [jj 9 (.build [zN,zN,eN,sN] [(0,1,(kk 7))]),jj 7 (.alloc [zN,zN,eN,sN]),st 4 7 9] [0,1,2,6,7] (.seq (sr [mv 10 0,mv 11 2,bk 12 .add 11 1,cl 13 136 [10,12],mv 8 13] [0,1,6,7,8] (.block 0 (.loop F137l0))) (sr [la 26 4 7,st 4 6 26] [6] .ret))))
def F162:PFun:=pf 2 [.cell 4 true 4] (sr [jj 4 (.alloc [zN,zN,eN,sN])] [0,1,4] (sr [mv 13 0,jj 14 (.call 136 [(.t 13),(kk 10)]),mv 5 14] [0,1,4,5] (.seq (sr [mv 15 1,bk 16 .leq 15 0] [0,1,4,5,16] (cs 16 (rn [mv 17 5,bk 18 .rem 17 7,mv 5 18] [0,1,4,5]))) (.seq (sr [mv 19 5] [0,1,4,19] (.block 0 (.seq (sr [bk 21 .eql 19 0,mv 20 21] [0,1,4,19,20] (.cond (.t 20) .skip (rn [bk 22 .eql 19 1,mv 20 22] [0,1,4,19,20]))) (.cond (.t 20) (.seq (.region (some []) [jj 23 (.bslice 4 [eN,eN,eN,eN] [(0,1,(ks [105])),(1,1,(ks [110])),(2,1,(ks [115,117,109])),(3,1,(ks [118,51]))]),mv 24 0,jj 25 (.call 136 [(.t 24),(kk 4)]),jj 26 (.indexAddr 1 (.t 23) (.t 25)),⟨some 27,.load false 1 (.t 26),none,[6]⟩,mv 28 0,jj 29 (.call 177 [(.t 28),(kk 2)]),jj 30 (.call 176 [(kk 1),(.t 27),(.t 29)]),st 4 4 30] [4] [6,7]) .ret) (.seq (sr [bk 32 .eql 19 2,mv 31 32] [0,1,4,19,31] (.cond (.t 31) .skip (sr [bk 33 .eql 19 3,mv 31 33] [0,1,4,19,31] (.cond (.t 31) .skip (rn [bk 34 .eql 19 4,mv 31 34] [0,1,4,19,31]))))) (.cond (.t 31) (sr [jj 35 (.bslice 6 [eN,eN,eN,eN,eN,eN] [(0,1,(ks [120])),(1,1,(ks [121])),(2,1,(ks [118,120])),(3,1,(ks [118,121])),(4,1,(ks [97])),(5,1,(ks [98]))]),mv 36 0,jj 37 (.call 136 [(.t 36),(kk 6)]),jj 38 (.indexAddr 1 (.t 35) (.t 37)),l1 39 38,mv 6 39] [0,4,6] (sr [mv 40 0,jj 41 (.call 177 [(.t 40),(kk 1)]),jj 7 (.alloc [zN,zN,eN,sN]),st 4 7 41] [0,4,6,7] (.seq (.region (some []) [mv 42 6,⟨some 43,.load true 4 (.t 7),none,[3]⟩,mv 44 0,jj 45 (.call 177 [(.t 44),(kk 2)]),jj 46 (.call 178 [(kk 2),(.t 42),(.t 43),(.t 45)]),st 4 4 46] [4] [3,4]) .ret))) (sr [bk 48 .eql 19 5,mv 47 48] [0,1,4,19,47] (.cond (.t 47) (sr [mv 49 0,jj 50 (.call 177 [(.t 49),(kk 0)]),jj 8 (.alloc [zN,zN,eN,sN]),st 4 8 50] [0,4,8] (.seq (.region (some []) [⟨some 51,.load true 4 (.t 8),none,[2]⟩,mv 52 0,jj 53 (.call 177 [(.t 52),(kk 1)]),jj 54 (.call 178 [(kk 5),(ks []),(.t 51),(.t 53)]),st 4 4 54] [4] [2,3]) .ret)) (sr [bk 56 .eql 19 6,mv 55 56] [0,1,4,19,55] (.cond (.t 55) (.seq (sr [mv 57 0,jj 58 (.call 136 [(.t 57),(kk 3)]),bk 59 .gtr 58 0] [0,4,59] (cs 59 (sr [mv 60 0,jj 61 (.call 177 [(.t 60),(kk 1)]),jj 62 (.call 176 [(kk 1),(ks [110]),(.t 61)]),st 4 4 62] [4] .ret))) (sr [jj 63 (.build [zN,zN,eN,sN] [(0,1,(kk 6))]),st 4 4 63] [4] .ret)) (sr [bk 65 .eql 19 7,mv 64 65] [0,1,4,64] (cs 64 (sr [mv 66 0,jj 67 (.call 179 [(.t 66),(kk 1)]),jj 9 (.alloc [zN,zN,eN,sN]),st 4 9 67] [0,1,4,9] (.seq (.region (some []) [⟨some 68,.load true 4 (.t 9),none,[4]⟩,mv 69 0,mv 70 1,bk 71 .sub 70 1,jj 72 (.call 137 [(.t 69),(.t 71),(kk 2)]),jj 73 (.call 178 [(kk 4),(ks []),(.t 68),(.t 72)]),st 4 4 73] [4] [4,5]) .ret)))))))))))))) (sr [mv 74 0,jj 75 (.call 179 [(.t 74),(kk 2)]),jj 10 (.alloc [zN,zN,eN,sN]),st 4 10 75] [0,1,4,10] (sr [mv 76 0,mv 77 1,bk 78 .sub 77 1,jj 79 (.call 137 [(.t 76),(.t 78),(kk 2)]),jj 11 (.alloc [zN,zN,eN,sN]),st 4 11 79] [0,1,4,10,11] (sr [jj 80 (.build [zN,zN,eN,sN] [(0,1,(kk 7))]),jj 12 (.alloc [zN,zN,eN,sN]),st 4 12 80] [0,1,4,10,11,12] (.seq (sr [mv 81 0,jj 82 (.call 136 [(.t 81),(kk 2)]),bk 83 .eql 82 1] [0,1,4,10,11,12,83] (cs 83 (rn [mv 84 0,mv 85 1,bk 86 .sub 85 1,jj 87 (.call 137 [(.t 84),(.t 86),(kk 2)]),st 4 12 87] [4,10,11,12]))) (sr [la 88 4 10,la 89 4 11,la 90 4 12,jj 91 (.bslice 3 [zN,zN,eN,sN,zN,zN,eN,sN,zN,zN,eN,sN] [(0,4,(.t 88)),(4,4,(.t 89)),(8,4,(.t 90))]),jj 92 (.build [zN,zN,eN,sN] [(0,1,(kk 3)),(3,1,(.t 91))]),st 4 4 92] [4] .ret)))))))))
def F176:PFun:=pf 3 [.cell 6 true 4] (sr [bx 5 2,jj 6 (.alloc [zN,zN,eN,sN])] [0,1,5,6] (sr [mv 7 0,mv 8 1,la 9 4 5,jj 10 (.bslice 1 [zN,zN,eN,sN] [(0,4,(.t 9))]),jj 11 (.build [zN,zN,eN,sN] [(0,1,(.t 7)),(2,1,(.t 8)),(3,1,(.t 10))]),st 4 6 11] [6] .ret))
def F177:PFun:=pf 2 [.cell 4 true 4] (sr [jj 4 (.alloc [zN,zN,eN,sN])] [0,1,4] (sr [mv 9 0,jj 10 (.call 136 [(.t 9),(kk 12)]),mv 5 10] [0,1,4,5] (.seq (sr [mv 11 1,bk 12 .leq 11 0] [0,1,4,5,12] (cs 12 (rn [mv 13 5,bk 14 .rem 13 6,mv 5 14] [0,1,4,5]))) (.seq (sr [mv 15 5] [0,1,4,15] (.block 0 (.seq (sr [bk 17 .eql 15 0,mv 16 17] [0,1,4,15,16] (.cond (.t 16) .skip (rn [bk 18 .eql 15 1,mv 16 18] [0,1,4,15,16]))) (.cond (.t 16) (sr [jj 19 (.bslice 8 [zN,zN,zN,zN,zN,zN,zN,zN] [(0,1,(kk 0)),(1,1,(kk 1)),(2,1,(kk 2)),(3,1,(kk 3)),(4,1,(kk 7)),(5,1,(kk 100)),(6,1,(kk 1024)),(7,1,(kk 2147483647))]),mv 20 0,jj 21 (.call 136 [(.t 20),(kk 8)]),jj 22 (.indexAddr 1 (.t 19) (.t 21)),l1 23 22,jj 24 (.build [zN,zN,eN,sN] [(0,1,(kk 8)),(1,1,(.t 23))]),st 4 4 24] [4] .ret) (.seq (sr [bk 26 .eql 15 2,mv 25 26] [0,1,4,15,25] (.cond (.t 25) .skip (rn [bk 27 .eql 15 3,mv 25 27] [0,1,4,15,25]))) (.cond (.t 25) (sr [jj 28 (.bslice 4 [eN,eN,eN,eN] [(0,1,(ks [105])),(1,1,(ks [110])),(2,1,(ks [115,117,109])),(3,1,(ks [118,51]))]),mv 29 0,jj 30 (.call 136 [(.t 29),(kk 4)]),jj 31 (.indexAddr 1 (.t 28) (.t 30)),l1 32 31,jj 33 (.build [zN,zN,eN,sN] [(0,1,(kk 10)),(2,1,(.t 32))]),st 4 4 33] [4] .ret) (.seq (sr [bk 35 .eql 15 4,mv 34 35] [0,1,4,15,34] (.cond (.t 34) .skip (rn [bk 36 .eql 15 5,mv 34 36] [0,1,4,15,34]))) (.cond (.t 34) (sr [jj 37 (.bslice 3 [eN,eN,eN] [(0,1,(ks [115,101,108,102])),(1,1,(ks [111,116,104,101,114])),(2,1,(ks [116,105,99,107]))]),mv 38 0,jj 39 (.call 136 [(.t 38),(kk 3)]),jj 40 (.indexAddr 1 (.t 37) (.t 39)),l1 41 40,jj 42 (.build [zN,zN,eN,sN] [(0,1,(kk 12)),(2,1,(.t 41))]),st 4 4 42] [4] .ret) (.seq (sr [bk 44 .eql 15 6,mv 43 44] [0,1,4,15,43] (.cond (.t 43) .skip (rn [bk 45 .eql 15 7,mv 43 45] [0,1,4,15,43]))) (.cond (.t 43) (sr [jj 46 (.bslice 8 [eN,eN,eN,eN,eN,eN,eN,eN] [(0,1,(ks [120])),(1,1,(ks [121])),(2,1,(ks [118,120])),(3,1,(ks [118,121])),(4,1,(ks [97])),(5,1,(ks [98])),(6,1,(ks [104,105,116])),(7,1,(ks [115,116,105,108,108]))]),mv 47 0,jj 48 (.call 136 [(.t 47),(kk 8)]),jj 49 (.indexAddr 1 (.t 46) (.t 48)),l1 50 49,mv 6 50] [0,1,4,6] (sr [mv 51 6,mv 52 0,mv 53 1,bk 54 .sub 53 1,cl 55 177 [52,54],jj 56 (.call 176 [(kk 11),(.t 51),(.t 55)]),st 4 4 56] [4] .ret)) (sr [bk 58 .eql 15 8,mv 57 58] [0,1,4,57] (cs 57 (sr [mv 59 0,mv 60 1,bk 61 .sub 60 1,cl 62 177 [59,61],jj 63 (.call 176 [(kk 13),(ks [45]),(.t 62)]),st 4 4 63] [4] .ret))))))))))))) (sr [jj 64 (.bslice 4 [eN,eN,eN,eN] [(0,1,(ks [43])),(1,1,(ks [45])),(2,1,(ks [42])),(3,1,(ks [47]))]),mv 65 0,jj 66 (.call 136 [(.t 65),(kk 4)]),jj 67 (.indexAddr 1 (.t 64) (.t 66)),l1 68 67,mv 7 68] [0,1,4,7] (sr [mv 69 0,mv 70 1,bk 71 .sub 70 1,cl 72 177 [69,71],jj 8 (.alloc [zN,zN,eN,sN]),st 4 8 72] [0,1,4,7,8] (.seq (.region (some []) [mv 73 7,⟨some 74,.load true 4 (.t 8),none,[5]⟩,mv 75 0,mv 76 1,bk 77 .sub 76 1,cl 78 177 [75,77],jj 79 (.call 178 [(kk 14),(.t 73),(.t 74),(.t 78)]),st 4 4 79] [4] [5,6]) .ret)))))))
def F178:PFun:=pf 4 [.cell 8 true 4] (sr [bx 6 2,bx 7 3,jj 8 (.alloc [zN,zN,eN,sN])] [0,1,6,7,8] (sr [mv 9 0,mv 10 1,la 11 4 6,la 12 4 7,jj 13 (.bslice 2 [zN,zN,eN,sN,zN,zN,eN,sN] [(0,4,(.t 11)),(4,4,(.t 12))]),jj 14 (.build [zN,zN,eN,sN] [(0,1,(.t 9)),(2,1,(.t 10)),(3,1,(.t 13))]),st 4 8 14] [8] .ret))
def F179:PFun:=pf 2 [.cell 4 true 4] (sr [jj 4 (.alloc [zN,zN,eN,sN])] [0,1,4] (sr [mv 10 0,jj 11 (.call 136 [(.t 10),(kk 8)]),mv 5 11] [0,1,4,5] (.seq (sr [mv 12 1,bk 13 .leq 12 0] [0,1,4,5,13] (cs 13 (rn [mv 14 5,bk 15 .rem 14 4,mv 5 15] [0,1,4,5]))) (.seq (sr [mv 16 5] [0,1,4,16] (.block 0 (sr [bk 18 .eql 16 0,mv 17 18] [0,1,4,16,17] (.cond (.t 17) (sr [mv 19 0,jj 20 (.call 136 [(.t 19),(kk 2)]),jj 21 (.build [zN,zN,eN,sN] [(0,1,(kk 9)),(1,1,(.t 20))]),st 4 4 21] [4] .ret) (.seq (sr [bk 23 .eql 16 1,mv 22 23] [0,1,4,16,22] (.cond (.t 22) .skip (sr [bk 24 .eql 16 2,mv 22 24] [0,1,4,16,22] (.cond (.t 22) .skip (sr [bk 25 .eql 16 3,mv 22 25] [0,1,4,16,22] (.cond (.t 22) .skip (rn [bk 26 .eql 16 4,mv 22 26] [0,1,4,16,22]))))))) (.cond (.t 22) (sr [jj 27 (.bslice 6 [eN,eN,eN,eN,eN,eN] [(0,1,(ks [60])),(1,1,(ks [60,61])),(2,1,(ks [62])),(3,1,(ks [62,61])),(4,1,(ks [61,61])),(5,1,(ks [33,61]))]),mv 28 0,jj 29 (.call 136 [(.t 28),(kk 6)]),jj 30 (.indexAddr 1 (.t 27) (.t 29)),l1 31 30,mv 6 31] [0,1,4,6] (sr [mv 32 0,mv 33 1,bk 34 .sub 33 1,cl 35 177 [32,34],jj 7 (.alloc [zN,zN,eN,sN]),st 4 7 35] [0,1,4,6,7] (.seq (.region (some []) [mv 36 6,⟨some 37,.load true 4 (.t 7),none,[5]⟩,mv 38 0,mv 39 1,bk 40 .sub 39 1,cl 41 177 [38,40],jj 42 (.call 178 [(kk 14),(.t 36),(.t 37),(.t 41)]),st 4 4 42] [4] [5,6]) .ret))) (sr [bk 44 .eql 16 5,mv 43 44] [0,1,4,43] (cs 43 (sr [mv 45 0,mv 46 1,bk 47 .sub 46 1,cl 48 179 [45,47],jj 49 (.call 176 [(kk 13),(ks [33]),(.t 48)]),st 4 4 49] [4] .ret))))))))) (sr [jj 50 (.bslice 2 [eN,eN] [(0,1,(ks [38,38])),(1,1,(ks [124,124]))]),mv 51 0,jj 52 (.call 136 [(.t 51),(kk 2)]),jj 53 (.indexAddr 1 (.t 50) (.t 52)),l1 54 53,mv 8 54] [0,1,4,8] (sr [mv 55 0,mv 56 1,bk 57 .sub 56 1,cl 58 179 [55,57],jj 9 (.alloc [zN,zN,eN,sN]),st 4 9 58] [0,1,4,8,9] (.seq (.region (some []) [mv 59 8,⟨some 60,.load true 4 (.t 9),none,[5]⟩,mv 61 0,mv 62 1,bk 63 .sub 62 1,cl 64 179 [61,63],jj 65 (.call 178 [(kk 14),(.t 59),(.t 60),(.t 64)]),st 4 4 65] [4] [5,6]) .ret)))))))
end Go.Pm.F
end
section
namespace Go.Pm.F
variable(C:Task->Option Res)(q:Nat)(fr:Fr)(σ : S)
@[simp] def F149l0x:PC:=(.seq (sr [mv 8 4,mv 9 0,lz 10 9,bn 11 .lss 8 10] [0,3,4,11] (.cond (.t 11) .skip (.exit 0))) (.block 1 (sr [mv 12 0,mv 13 4,cl 14 171 [12,13],jj 5 (.alloc [zN,eN,zN]),st 3 5 14] [0,3,4,5] (sr [mv 15 3,la 16 3 5,jj 17 (.bslice 1 [zN,eN,zN] [(0,3,(.t 16))]),jj 18 (.append 3 32 (.t 15) (.t 17)),mv 3 18] [0,3,4,5] (rn [mv 19 0,mv 20 4,fa 21 1 5,l1 22 21,lz 23 22,bn 24 .add 20 23,cl 25 170 [19,24],mv 4 25] [0,3,4])))))
def F149l0:PC:=F149l0x
theorem qgZ:run C q F149l0 fr σ = run C q F149l0x fr σ := rfl
def F149:PFun:=pf 1 [.tmp 2] (sr [jj 2 (.mov (.c (.slice none 0 0)))] [0] (sr [jj 3 (.mov (.c (.slice none 0 0)))] [0,3] (sr [mv 6 0,jj 7 (.call 170 [(.t 6),(kk 0)]),mv 4 7] [0,3,4] (.seq (.block 0 (.loop F149l0)) (sr [mv 26 3,mv 27 0,lz 28 27,jj 29 (.build [zN,eN,zN] [(0,1,(.t 28))]),jj 30 (.bslice 1 [zN,eN,zN] [(0,3,(.t 29))]),jj 31 (.append 3 32 (.t 26) (.t 30)),mv 2 31] [2] .ret)))))
def F152:PFun:=pf 0 [.tmp 0] (sr [jj 0 (.mov (.c (.slice none 0 0)))] [] (sr [jj 1 (.bslice 3 [eN,eN,eN] [(0,1,(ks [97,99,116])),(1,1,(ks [116,105,99,107])),(2,1,(ks [104,105,116]))]),mv 0 1] [0] .ret))
@[simp] def F170l1x:PC:=(.seq (sr [mv 13 1,mv 14 0,lz 15 14,bn 16 .lss 13 15,mv 17 16,jt 18 17 (.mov (.t 0)),jt 19 17 (.mov (.t 1)),jt 20 17 (.indexS (.t 18) (.t 19)),jt 21 17 (.bin .neq (.t 20) (.c (.int .u8 10))),jj 22 (.pick (.t 17) (.t 21) kF)] [0,1,22] (.cond (.t 22) .skip (.exit 2))) (.block 3 (rn [mv 23 1,bk 24 .add 23 1,mv 1 24] [0,1])))
def F170l1:PC:=F170l1x
theorem qg0:run C q F170l1 fr σ = run C q F170l1x fr σ := rfl
@[simp] def F170l0x:PC:=(.seq (sr [mv 5 1,mv 6 0,lz 7 6,bn 8 .lss 5 7] [0,1,8] (.cond (.t 8) .skip (.exit 0))) (.block 1 (.seq (sr [mv 9 0,mv 10 1,jj 11 (.indexS (.t 9) (.t 10)),jj 12 (.bin .eql (.t 11) (.c (.int .u8 35)))] [0,1,12] (cs 12 (.seq (.block 2 (.loop F170l1)) (.exit 1)))) (.seq (sr [mv 25 0,mv 26 1,jj 27 (.indexS (.t 25) (.t 26)),jj 28 (.bin .neq (.t 27) (.c (.int .u8 32))),mv 29 28,jt 30 29 (.mov (.t 0)),jt 31 29 (.mov (.t 1)),jt 32 29 (.indexS (.t 30) (.t 31)),jt 33 29 (.bin .neq (.t 32) (.c (.int .u8 9))),jj 34 (.pick (.t 29) (.t 33) kF),mv 35 34,jt 36 35 (.mov (.t 0)),jt 37 35 (.mov (.t 1)),jt 38 35 (.indexS (.t 36) (.t 37)),jt 39 35 (.bin .neq (.t 38) (.c (.int .u8 10))),jj 40 (.pick (.t 35) (.t 39) kF)] [0,1,40] (cs 40 (.exit 0))) (rn [mv 41 1,bk 42 .add 41 1,mv 1 42] [0,1])))))
def F170l0:PC:=F170l0x
theorem qfk:run C q F170l0 fr σ = run C q F170l0x fr σ := rfl
def F170:PFun:=pf 2 [.tmp 4] (sr [mx 4 (kk 0)] [0,1] (.seq (.block 0 (.loop F170l0)) (sr [mv 43 1,mv 4 43] [4] .ret)))
@[simp] def F171l0x:PC:=(.seq (sr [mv 20 5,mv 21 0,lz 22 21,bn 23 .lss 20 22,mv 24 23,jt 25 24 (.mov (.t 0)),jt 26 24 (.mov (.t 5)),jt 27 24 (.indexS (.t 25) (.t 26)),jt 28 24 (.call 192 [(.t 27)]),jt 29 24 (.mov (.t 28)),jf 30 29 (.mov (.t 0)),jf 31 29 (.mov (.t 5)),jf 32 29 (.indexS (.t 30) (.t 31)),jf 33 29 (.call 193 [(.t 32)]),jt 34 24 (.pick (.t 29) kT (.t 33)),jj 35 (.pick (.t 24) (.t 34) kF)] [0,1,4,5,35] (.cond (.t 35) .skip (.exit 0))) (.block 1 (rn [mv 36 5,bk 37 .add 36 1,mv 5 37] [0,1,4,5])))
def F171l0:PC:=F171l0x
theorem qfl:run C q F171l0 fr σ = run C q F171l0x fr σ := rfl
@[simp] def F171l1x:PC:=(.seq (sr [mv 60 5,mv 61 0,lz 62 61,bn 63 .lss 60 62,mv 64 63,jt 65 64 (.mov (.t 0)),jt 66 64 (.mov (.t 5)),jt 67 64 (.indexS (.t 65) (.t 66)),jt 68 64 (.call 193 [(.t 67)]),jj 69 (.pick (.t 64) (.t 68) kF)] [0,1,4,5,69] (.cond (.t 69) .skip (.exit 2))) (.block 3 (rn [mv 70 5,bk 71 .add 70 1,mv 5 71] [0,1,4,5])))
def F171l1:PC:=F171l1x
theorem qg1:run C q F171l1 fr σ = run C q F171l1x fr σ := rfl
def F171:PFun:=pf 2 [.cell 4 true 3] (sr [jj 4 (.alloc [zN,eN,zN])] [0,1,4] (.seq (sr [mv 8 1,mv 9 0,lz 10 9,bn 11 .geq 8 10] [0,1,4,11] (cs 11 (sr [mv 12 1,jj 13 (.build [zN,eN,zN] [(0,1,(.t 12))]),st 3 4 13] [4] .ret))) (sr [mv 14 1,bk 15 .add 14 1,mv 5 15] [0,1,4,5] (.seq (sr [mv 16 0,mv 17 1,jj 18 (.indexS (.t 16) (.t 17)),cl 19 192 [18]] [0,1,4,5,19] (cs 19 (.seq (.block 0 (.loop F171l0)) (sr [mv 38 1,mv 39 0,mv 40 1,mv 41 5,jj 42 (.sliceS (.t 39) (some (.t 40)) (some (.t 41))),jj 43 (.build [zN,eN,zN] [(0,1,(.t 38)),(1,1,(.t 42))]),jj 6 (.alloc [zN,eN,zN]),st 3 6 43] [1,4,5,6] (.seq (sr [mv 44 5,mv 45 1,bn 46 .sub 44 45,bk 47 .gtr 46 8,mv 48 47,jt 49 48 (.fieldAddr 1 (.t 6)),jt 50 48 (.load false 1 (.t 49)),jt 51 48 (.call 194 [(.t 50)]),jt 52 48 (.un .not (.t 51)),jj 53 (.pick (.t 48) (.t 52) kF)] [4,6,53] (cs 53 (rn [fa 54 2 6,jn (.store 1 (.t 54) (kk 2))] [4,6]))) (sr [la 55 3 6,st 3 4 55] [4] .ret)))))) (.seq (sr [mv 56 0,mv 57 1,jj 58 (.indexS (.t 56) (.t 57)),cl 59 193 [58]] [0,1,4,5,59] (cs 59 (.seq (.block 2 (.loop F171l1)) (sr [mv 72 1,mv 73 0,mv 74 1,mv 75 5,jj 76 (.sliceS (.t 73) (some (.t 74)) (some (.t 75))),jj 77 (.build [zN,eN,zN] [(0,1,(.t 72)),(1,1,(.t 76))]),jj 7 (.alloc [zN,eN,zN]),st 3 7 77] [4,7] (.seq (sr [fa 78 1 7,l1 79 78,cl 80 195 [79],bk 81 .lss 80 0] [4,7,81] (cs 81 (rn [fa 82 2 7,jn (.store 1 (.t 82) (kk 6))] [4,7]))) (sr [la 83 3 7,st 3 4 83] [4] .ret)))))) (.seq (sr [mv 84 1,bk 85 .add 84 2,mv 86 0,lz 87 86,bn 88 .leq 85 87,mv 89 88,jt 90 89 (.bslice 6 [eN,eN,eN,eN,eN,eN] [(0,1,(ks [124,124])),(1,1,(ks [38,38])),(2,1,(ks [60,61])),(3,1,(ks [62,61])),(4,1,(ks [61,61])),(5,1,(ks [33,61]))]),jt 91 89 (.mov (.t 0)),jt 92 89 (.mov (.t 1)),jt 93 89 (.mov (.t 1)),jt 94 89 (.bin .add (.t 93) (kk 2)),jt 95 89 (.mov (.t 0)),jt 96 89 (.len .str (.t 95)),jt 97 89 (.min [(.t 94),(.t 96)]),jt 98 89 (.sliceS (.t 91) (some (.t 92)) (some (.t 97))),jt 99 89 (.call 196 [(.t 90),(.t 98)]),jj 100 (.pick (.t 89) (.t 99) kF)] [0,1,4,5,100] (cs 100 (sr [mv 101 1,mv 102 0,mv 103 1,mv 104 1,bk 105 .add 104 2,jj 106 (.sliceS (.t 102) (some (.t 103)) (some (.t 105))),jj 107 (.build [zN,eN,zN] [(0,1,(.t 101)),(1,1,(.t 106))]),st 3 4 107] [4] .ret))) (.seq (sr [jj 108 (.bslice 16 [eN,eN,eN,eN,eN,eN,eN,eN,eN,eN,eN,eN,eN,eN,eN,eN] [(0,1,(ks [123])),(1,1,(ks [125])),(2,1,(ks [91])),(3,1,(ks [93])),(4,1,(ks [40])),(5,1,(ks [41])),(6,1,(ks [61])),(7,1,(ks [59])),(8,1,(ks [44])),(9,1,(ks [60])),(10,1,(ks [62])),(11,1,(ks [43])),(12,1,(ks [45])),(13,1,(ks [42])),(14,1,(ks [47])),(15,1,(ks [33]))]),mv 109 0,mv 110 1,mv 111 5,jj 112 (.sliceS (.t 109) (some (.t 110)) (some (.t 111))),cl 113 196 [108,112]] [0,1,4,5,113] (cs 113 (sr [mv 114 1,mv 115 0,mv 116 1,mv 117 5,jj 118 (.sliceS (.t 115) (some (.t 116)) (some (.t 117))),jj 119 (.build [zN,eN,zN] [(0,1,(.t 114)),(1,1,(.t 118))]),st 3 4 119] [4] .ret))) (sr [mv 120 1,mv 121 0,mv 122 1,mv 123 5,jj 124 (.sliceS (.t 121) (some (.t 122)) (some (.t 123))),jj 125 (.build [zN,eN,zN] [(0,1,(.t 120)),(1,1,(.t 124)),(2,1,(kk 12))]),st 3 4 125] [4] .ret))))))))
def F192:PFun:=pf 1 [.tmp 2] (sr [mx 2 kF] [0] (sr [mv 3 0,jj 4 (.bin .geq (.t 3) (.c (.int .u8 97))),mv 5 4,jt 6 5 (.mov (.t 0)),jt 7 5 (.bin .leq (.t 6) (.c (.int .u8 122))),jj 8 (.pick (.t 5) (.t 7) kF),mv 2 8] [2] .ret))
def F193:PFun:=pf 1 [.tmp 2] (sr [mx 2 kF] [0] (sr [mv 3 0,jj 4 (.bin .geq (.t 3) (.c (.int .u8 48))),mv 5 4,jt 6 5 (.mov (.t 0)),jt 7 5 (.bin .leq (.t 6) (.c (.int .u8 57))),jj 8 (.pick (.t 5) (.t 7) kF),mv 2 8] [2] .ret))
def F194:PFun:=pf 1 [.tmp 2] (sr [mx 2 kF] [0] (sr [mv 3 0,cl 4 198 [3],mv 5 4,jf 6 5 (.bslice 13 [eN,eN,eN,eN,eN,eN,eN,eN,eN,eN,eN,eN,eN] [(0,1,(ks [111,110])),(1,1,(ks [97,99,116])),(2,1,(ks [116,105,99,107])),(3,1,(ks [104,105,116])),(4,1,(ks [105,102])),(5,1,(ks [101,108,115,101])),(6,1,(ks [119,104,105,108,101])),(7,1,(ks [101,102,102,101,99,116])),(8,1,(ks [115,116,111,112])),(9,1,(ks [116,114,117,101])),(10,1,(ks [102,97,108,115,101])),(11,1,(ks [115,101,108,102])),(12,1,(ks [111,116,104,101,114]))]),jf 7 5 (.mov (.t 0)),jf 8 5 (.call 196 [(.t 6),(.t 7)]),jj 9 (.pick (.t 5) kT (.t 8)),mv 2 9] [2] .ret))
@[simp] def F195l0x:PC:=(.seq (sr [mv 5 4,mv 6 0,lz 7 6,bn 8 .lss 5 7] [0,3,4,8] (.cond (.t 8) .skip (.exit 0))) (.seq (.block 1 (sr [mv 11 3,jj 12 (.bin .mul (kk 10) (.t 11)),mv 13 0,mv 14 4,jj 15 (.indexS (.t 13) (.t 14)),jj 16 (.conv (.int .i64) (.t 15)),bn 17 .add 12 16,bk 18 .sub 17 48,mv 3 18] [0,3,4] (sr [mv 19 3,bk 20 .gtr 19 2147483647] [0,3,4,20] (cs 20 (sr [mx 2 (kk (-1))] [2] .ret))))) (rn [mv 9 4,bk 10 .add 9 1,mv 4 10] [0,3,4])))
def F195l0:PC:=F195l0x
theorem qg2:run C q F195l0 fr σ = run C q F195l0x fr σ := rfl
def F195:PFun:=pf 1 [.tmp 2] (sr [mx 2 (kk 0)] [0] (sr [mx 3 (kk 0)] [0,3] (.seq (sr [mx 4 (kk 0)] [0,3,4] (.block 0 (.loop F195l0))) (sr [mv 21 3,mv 2 21] [2] .ret))))
@[simp] def F196l0x:PC:=(.seq (sr [mv 6 5,mv 7 0,ls 8 7,bn 9 .lss 6 8] [0,1,5,9] (.cond (.t 9) .skip (.exit 0))) (.seq (.block 1 (sr [mv 12 0,mv 13 5,jj 14 (.indexAddr 1 (.t 12) (.t 13)),l1 15 14,mv 16 1,bn 17 .eql 15 16] [0,1,5,17] (cs 17 (sr [mx 4 kT] [4] .ret)))) (rn [mv 10 5,bk 11 .add 10 1,mv 5 11] [0,1,5])))
def F196l0:PC:=F196l0x
theorem qg3:run C q F196l0 fr σ = run C q F196l0x fr σ := rfl
def F196:PFun:=pf 2 [.tmp 4] (sr [mx 4 kF] [0,1] (.seq (sr [mx 5 (kk 0)] [0,1,5] (.block 0 (.loop F196l0))) (sr [mx 4 kF] [4] .ret)))
def F198:PFun:=pf 1 [.tmp 2] (sr [mx 2 kF] [0] (sr [jj 3 (.bslice 8 [eN,eN,eN,eN,eN,eN,eN,eN] [(0,1,(ks [120])),(1,1,(ks [121])),(2,1,(ks [118,120])),(3,1,(ks [118,121])),(4,1,(ks [97])),(5,1,(ks [98])),(6,1,(ks [104,105,116])),(7,1,(ks [115,116,105,108,108]))]),mv 4 0,cl 5 196 [3,4],mv 2 5] [2] .ret))
end Go.Pm.F
end
section
namespace Go.Pm.F
variable(C:Task->Option Res)(q:Nat)(fr:Fr)(σ : S)
def effRows15:List (List Int):=[[0,0],[0,1],[0,1],[1,0],[1,1],[2,0],[0,1],[0,1],[0,1],[2,1],[2,1],[2,1],[2,1],[1,1],[2,1],[2,1],[2,1],[1,1],[0,0],[1,0],[2,0],[0,0]]
def G_arenanet_compile_effects:List D:=effRows15.flatten.map fun n => .lit (.int .i64 n)
@[simp] def F131l0x:PC:=(sr [bn 20 .lss 19 18] [1,2,4,17,18,19,20] (.seq (.cond (.t 20) .skip (.exit 0)) (.seq (.block 1 (sr [mv 21 19,jj 22 (.indexAddr 1 (.t 17) (.t 19)),l1 23 22,mv 5 21,mv 6 23] [1,2,4,5,6,17,18,19] (rn [mv 24 4,nc 25 24,fa 26 0 25,fa 27 1 26,l1 28 27,mv 29 6,mv 30 5,jn (.mapset .s (.t 28) (.t 29) (.t 30))] [1,2,4,17,18,19]))) (rn [bk 31 .add 19 1,mv 19 31] [1,2,4,17,18,19]))))
def F131l0:PC:=F131l0x
theorem qjt:run C q F131l0 fr σ = run C q F131l0x fr σ := rfl
@[simp] def F131l1x:PC:=(sr [bk 35 .lss 34 3] [2,4,33,34,35] (.seq (.cond (.t 35) .skip (.exit 2)) (.seq (.block 3 (sr [mv 36 34,jj 37 (.indexA true 3 4 (.t 33) (.t 34)),jj 8 (.alloc [zN,zN,eN,sN]),mv 7 36,st 4 8 37] [2,4,7,8,33,34] (sr [mv 38 4,mv 39 7,nc 40 38,fa 41 2 40,jj 42 (.indexAddrA 3 1 (.t 41) (.t 39)),jn (.store 1 (.t 42) (kk (-1)))] [2,4,7,8,33,34] (sr [fa 43 0 8,l1 44 43,bk 45 .neq 44 0] [2,4,7,8,33,34,45] (cs 45 (.seq (.region (some []) [mv 46 4,mv 47 7,mv 48 4,nc 49 48,fa 50 0 49,fa 51 0 50,l1 52 51,ls 53 52,nc 54 46,fa 55 2 54,jj 56 (.indexAddrA 3 1 (.t 55) (.t 47)),st 1 56 53] [2,4,8,33,34]) (.seq (.region (some []) [mv 57 4,nc 58 57,fa 59 0 58,la 60 4 8,cl 61 147 [59,60]] [2,4,33,34] [4]) (rn [mv 62 4,nc 63 62,fa 64 0 63,jj 65 (.call 148 [(.t 64),(kk 21),(kk 0)])] [2,4,33,34])))))))) (rn [bk 66 .add 34 1,mv 34 66] [2,4,33,34]))))
def F131l1:PC:=F131l1x
theorem qa1:run C q F131l1 fr σ = run C q F131l1x fr σ := rfl
@[simp] def F131l2x:PC:=(sr [bk 88 .lss 87 3] [2,9,86,87,88] (.seq (.cond (.t 88) .skip (.exit 4)) (.seq (.block 5 (sr [jj 89 (.indexA false 3 1 (.t 86) (.t 87)),mv 11 89] [2,9,11,86,87] (sr [mv 90 11,bk 91 .geq 90 0,mv 92 91,jt 93 92 (.load true 4 (.t 9)),jt 94 92 (.mov (.t 11)),jt 95 92 (.call 139 [(.t 93),(.t 94)]),jt 96 92 (.call 140 [(.t 95)]),jt 97 92 (.un .not (.t 96)),jj 98 (.pick (.t 92) (.t 97) kF)] [2,9,86,87,98] (cs 98 (sr [jj 99 (.build [sN,zN,zN,zN] []),st 4 2 99,mx 3 (kk 15)] [2,3] .ret))))) (rn [bk 100 .add 87 1,mv 87 100] [2,9,86,87]))))
def F131l2:PC:=F131l2x
theorem qa2:run C q F131l2 fr σ = run C q F131l2x fr σ := rfl
def F131:PFun:=pf 1 [.cell 2 true 4,.tmp 3] (sr [bx 1 0,jj 2 (.alloc [sN,zN,zN,zN]),mx 3 (kk 0)] [1,2] (sr [jj 12 (.mkmap),jj 13 (.build [sN,(.lit (.map none))] [(1,1,(.t 12))]),jj 14 (.build [sN,(.lit (.map none)),zN,zN,zN] [(0,2,(.t 13))]),bx 15 14,mv 4 15] [1,2,4] (.seq (sr [la 16 12 1,cl 17 15 [16],ls 18 17,mx 19 (kk 0)] [1,2,4,17,18,19] (.block 0 (.loop F131l0))) (.seq (sr [fa 32 0 1,la 33 12 32,mx 34 (kk 0)] [2,4,33,34] (.block 2 (.loop F131l1))) (.seq (sr [mv 67 4,nc 68 67,fa 69 0 68,fa 70 0 69,l1 71 70,ls 72 71,bk 73 .gtr 72 400] [2,4,73] (cs 73 (sr [jj 74 (.build [sN,zN,zN,zN] []),st 4 2 74,mx 3 (kk 2)] [2,3] .ret))) (.seq (.region (some [(111,[sN,zN,zN,zN])]) [mv 75 4,nc 76 75,fa 77 0 76,fa 78 0 77,l1 79 78,mv 80 4,nc 81 80,fa 82 2 81,la 83 3 82,jj 84 (.build [sN,zN,zN,zN] [(0,1,(.t 79)),(1,3,(.t 83))]),jj 9 (.fill 111),st 4 9 84] [2,9]) (.seq (sr [fa 85 1 9,la 86 3 85,mx 87 (kk 0)] [2,9,86,87] (.block 4 (.loop F131l2))) (sr [la 101 4 9,st 4 2 101,mx 3 (kk 0)] [2,3] .ret))))))))
def F134:PFun:=pf 1 [.tmp 2] (sr [mx 2 (kk 0)] [0] (sr [jj 6 (.mkmap),jn (.mapset .s (.t 6) (ks [120]) (kk 0)),jn (.mapset .s (.t 6) (ks [121]) (kk 1)),jn (.mapset .s (.t 6) (ks [118,120]) (kk 2)),jn (.mapset .s (.t 6) (ks [118,121]) (kk 3)),jn (.mapset .s (.t 6) (ks [97]) (kk 4)),jn (.mapset .s (.t 6) (ks [98]) (kk 5)),jn (.mapset .s (.t 6) (ks [104,105,116]) (kk 6)),jn (.mapset .s (.t 6) (ks [115,116,105,108,108]) (kk 7)),mv 7 6,mv 3 7] [0,3] (.seq (sr [mv 9 3,mv 10 0,jj 11 (.lookup .s zN (.t 9) (.t 10) true),mv 8 11,ex 12 8 0,ex 13 8 1,mv 4 12,mv 5 13] [4,5] (sr [mv 14 5] [4,14] (cs 14 (sr [mv 15 4,mv 2 15] [2] .ret)))) (sr [mx 2 (kk (-1))] [2] .ret))))
@[simp] def F139l1x:PC:=(sr [bn 71 .lss 70 69] [2,4,5,6,7,10,68,69,70,71] (.seq (.cond (.t 71) .skip (.exit 2)) (.seq (.block 3 (sr [jj 72 (.indexAddr 1 (.t 68) (.t 70)),l1 73 72,mv 12 73] [2,4,5,6,7,10,12,68,69,70] (.block 4 (sr [mv 75 12,fa 76 0 2,l1 77 76,ls 78 77,bn 79 .eql 75 78,mv 74 79] [2,4,5,6,7,10,12,68,69,70,74] (.cond (.t 74) (rn [fa 80 0 5,jn (.store 1 (.t 80) kT)] [2,4,5,6,7,10,68,69,70]) (sr [mv 82 6,mv 83 12,jj 84 (.indexAddr 1 (.t 82) (.t 83)),l1 85 84,bk 86 .eql 85 0,mv 81 86] [2,4,5,6,7,10,12,68,69,70,81] (.cond (.t 81) (sr [mv 87 6,mv 88 12,mv 89 10,jj 90 (.max [(.t 89),(kk 0)]),bk 91 .add 90 1,jj 92 (.indexAddr 1 (.t 87) (.t 88)),st 1 92 91] [2,4,5,6,7,10,12,68,69,70] (rn [mv 93 7,mv 94 12,jj 95 (.bsliceO 1 1 [zN] [(0,1,(.t 94))]),jj 96 (.appendO 1 8 (.t 93) (.t 95)),mv 7 96] [2,4,5,6,7,10,68,69,70])) (sr [mv 98 6,mv 99 12,jj 100 (.indexAddr 1 (.t 98) (.t 99)),l1 101 100,mv 102 10,bk 103 .add 102 1,bn 104 .neq 101 103,mv 97 104] [2,4,5,6,7,10,68,69,70,97] (cs 97 (rn [fa 105 1 5,jn (.store 1 (.t 105) kT)] [2,4,5,6,7,10,68,69,70])))))))))) (rn [bk 106 .add 70 1,mv 70 106] [2,4,5,6,7,10,68,69,70]))))
def F139l1:PC:=F139l1x
theorem qdj:run C q F139l1 fr σ = run C q F139l1x fr σ := rfl
@[simp] def F139l0x:PC:=(.seq (sr [mv 22 7,ls 23 22,bk 24 .gtr 23 0] [2,4,5,6,7,24] (.cond (.t 24) .skip (.exit 0))) (.block 1 (sr [mv 25 7,mv 26 7,ls 27 26,bk 28 .sub 27 1,jj 29 (.indexAddr 1 (.t 25) (.t 28)),l1 30 29,mv 8 30] [2,4,5,6,7,8] (sr [mv 31 7,mv 32 7,ls 33 32,bk 34 .sub 33 1,jj 35 (.cut 1 (.t 31) none (some (.t 34))),mv 7 35] [2,4,5,6,7,8] (sr [fa 36 0 2,l1 37 36,mv 38 8,jj 39 (.indexAddr 2 (.t 37) (.t 38)),fa 40 0 39,l1 41 40,jj 42 (.indexAddrA 22 2 (.g G_arenanet_compile_effects) (.t 41)),la 43 2 42,jj 9 (.alloc [zN,zN]),st 2 9 43] [2,4,5,6,7,8,9] (sr [mv 44 6,mv 45 8,jj 46 (.indexAddr 1 (.t 44) (.t 45)),l1 47 46,bk 48 .sub 47 1,mv 10 48] [2,4,5,6,7,8,9,10] (.seq (sr [mv 49 10,fa 50 0 9,l1 51 50,bn 52 .lss 49 51] [2,4,5,6,7,8,9,10,52] (cs 52 (rn [fa 53 1 5,jn (.store 1 (.t 53) kT)] [2,4,5,6,7,8,9,10]))) (sr [mv 54 10,fa 55 1 9,l1 56 55,fa 57 0 9,l1 58 57,bn 59 .sub 56 58,bn 60 .add 54 59,mv 10 60] [2,4,5,6,7,8,10] (sr [fa 61 2 5,l1 62 61,mv 63 10,jj 64 (.max [(.t 62),(.t 63)]),fa 65 2 5,st 1 65 64] [2,4,5,6,7,8,10] (sr [la 66 4 2,mv 67 8,cl 68 164 [66,67],ls 69 68,mx 70 (kk 0)] [2,4,5,6,7,10,68,69,70] (.block 2 (.loop F139l1))))))))))))
def F139l0:PC:=F139l0x
theorem qfh:run C q F139l0 fr σ = run C q F139l0x fr σ := rfl
def F139:PFun:=pf 2 [.cell 4 true 3] (sr [bx 2 0,jj 4 (.alloc [(.lit (.bool false)),(.lit (.bool false)),zN])] [1,2,4] (sr [jj 5 (.alloc [(.lit (.bool false)),(.lit (.bool false)),zN])] [1,2,4,5] (sr [fa 13 0 2,l1 14 13,ls 15 14,jj 16 (.mkslice false [zN] 8 (.t 15) (.t 15)),mv 6 16] [1,2,4,5,6] (sr [mv 17 6,mv 18 1,jj 19 (.indexAddr 1 (.t 17) (.t 18)),jn (.store 1 (.t 19) (kk 1))] [1,2,4,5,6] (.seq (sr [mv 20 1,jj 21 (.bsliceO 1 1 [zN] [(0,1,(.t 20))]),mv 7 21] [2,4,5,6,7] (.block 0 (.loop F139l0))) (sr [la 107 3 5,st 3 4 107] [4] .ret))))))
def F140:PFun:=pf 1 [.tmp 2] (sr [bx 1 0,mx 2 kF] [1] (sr [fa 3 1 1,l1 4 3,jj 5 (.un .not (.t 4)),mv 6 5,jt 7 6 (.fieldAddr 2 (.t 1)),jt 8 6 (.load false 1 (.t 7)),jt 9 6 (.bin .leq (.t 8) (kk 16)),jj 10 (.pick (.t 6) (.t 9) kF),mv 2 10] [2] .ret))
def F147:PFun:=pf 2 [] (sr [bx 3 1] [0,3] (sr [fa 4 0 3,l1 5 4] [0,3,5] (.block 0 (.seq (sr [bk 10 .eql 5 8,mv 9 10] [0,3,5,9] (.cond (.t 9) .skip (rn [bk 11 .eql 5 9,mv 9 11] [0,3,5,9]))) (.cond (.t 9) (rn [mv 12 0,fa 13 1 3,l1 14 13,jj 15 (.call 148 [(.t 12),(kk 1),(.t 14)])] []) (sr [bk 17 .eql 5 10,mv 16 17] [0,3,5,16] (.cond (.t 16) (.region (some []) [mv 18 0,mv 19 0,nc 20 19,fa 21 1 20,l1 22 21,fa 23 2 3,l1 24 23,jj 25 (.lookup .s zN (.t 22) (.t 24) false),jj 26 (.call 148 [(.t 18),(kk 2),(.t 25)])] [] [8]) (sr [bk 28 .eql 5 11,mv 27 28] [0,3,5,27] (.cond (.t 27) (sr [mv 29 0,la 30 4 3,jj 31 (.call 165 [(.t 29),(.t 30),(kk 0)])] [0,3] (rn [mv 32 0,fa 33 2 3,l1 34 33,cl 35 134 [34],jj 36 (.call 148 [(.t 32),(kk 4),(.t 35)])] [])) (sr [bk 38 .eql 5 12,mv 37 38] [0,3,5,37] (.cond (.t 37) (rn [mv 39 0,la 40 4 3,cl 41 166 [39,40]] []) (sr [bk 43 .eql 5 13,mv 42 43] [0,3,5,42] (.cond (.t 42) (rn [mv 44 0,la 45 4 3,cl 46 167 [44,45]] []) (sr [bk 48 .eql 5 14,mv 47 48] [0,3,47] (.cond (.t 47) (rn [mv 49 0,la 50 4 3,cl 51 168 [49,50]] []) (rn [mv 6 0,la 7 4 3,cl 8 169 [6,7]] []))))))))))))))))
def F148:PFun:=pf 3 [.tmp 6] (sr [mx 6 (kk 0)] [0,1,2] (sr [mv 7 0,mv 8 0,nc 9 8,fa 10 0 9,l1 11 10,mv 12 1,mv 13 2,jj 14 (.build [zN,zN] [(0,1,(.t 12)),(1,1,(.t 13))]),jj 15 (.bsliceO 1 2 [zN,zN] [(0,2,(.t 14))]),jj 16 (.appendO 2 16 (.t 11) (.t 15)),nc 17 7,fa 18 0 17,st 1 18 16] [0] (sr [mv 19 0,nc 20 19,fa 21 0 20,l1 22 21,ls 23 22,bk 24 .sub 23 1,mv 6 24] [6] .ret)))
def F164:PFun:=pf 2 [.tmp 4] (sr [bx 2 0,jj 4 (.mov (.c (.slice none 0 0)))] [1,2] (.seq (sr [fa 6 0 2,l1 7 6,mv 8 1,jj 9 (.indexAddr 2 (.t 7) (.t 8)),la 10 2 9,jj 5 (.alloc [zN,zN]),st 2 5 10] [1,5] (sr [fa 11 0 5,l1 12 11] [1,5,12] (.block 0 (sr [bk 14 .eql 12 21,mv 13 14] [1,5,12,13] (.cond (.t 13) (sr [jj 4 (.mov (.c (.slice none 0 0)))] [4] .ret) (sr [bk 16 .eql 12 18,mv 15 16] [1,5,12,15] (.cond (.t 15) (sr [fa 17 1 5,l1 18 17,jj 19 (.bslice 1 [zN] [(0,1,(.t 18))]),mv 4 19] [4] .ret) (sr [bk 21 .eql 12 19,mv 20 21] [1,5,20] (cs 20 (sr [mv 22 1,bk 23 .add 22 1,fa 24 1 5,l1 25 24,jj 26 (.bslice 2 [zN,zN] [(0,1,(.t 23)),(1,1,(.t 25))]),mv 4 26] [4] .ret)))))))))) (sr [mv 27 1,bk 28 .add 27 1,jj 29 (.bslice 1 [zN] [(0,1,(.t 28))]),mv 4 29] [4] .ret)))
def F165:PFun:=pf 3 [] (sr [bx 4 1] [0,2,4] (sr [mv 6 2,fa 7 3 4,l1 8 7,ls 9 8,bn 10 .lss 6 9] [0,2,4,10] (cs 10 (rn [mv 11 0,fa 12 3 4,l1 13 12,mv 14 2,jj 15 (.indexAddr 4 (.t 13) (.t 14)),la 16 4 15,cl 17 147 [11,16]] []))))
def F166:PFun:=pf 2 [] (sr [bx 3 1] [0,3] (sr [fa 4 2 3,l1 5 4] [0,5] (.block 0 (sr [jj 9 (.bin .eql (.t 5) (ks [115,101,108,102])),mv 8 9] [0,5,8] (.cond (.t 8) (rn [mv 10 0,jj 11 (.call 148 [(.t 10),(kk 6),(kk 0)])] []) (sr [jj 13 (.bin .eql (.t 5) (ks [111,116,104,101,114])),mv 12 13] [0,12] (.cond (.t 12) (rn [mv 14 0,jj 15 (.call 148 [(.t 14),(kk 7),(kk 0)])] []) (rn [mv 6 0,jj 7 (.call 148 [(.t 6),(kk 8),(kk 0)])] []))))))))
def F167:PFun:=pf 2 [] (sr [bx 3 1] [0,3] (sr [mv 4 0,la 5 4 3,jj 6 (.call 165 [(.t 4),(.t 5),(kk 0)])] [0,3] (sr [fa 7 2 3,l1 8 7,jj 9 (.bin .eql (.t 8) (ks [45]))] [0,9] (.cond (.t 9) (rn [mv 10 0,jj 11 (.call 148 [(.t 10),(kk 13),(kk 0)])] []) (rn [mv 12 0,jj 13 (.call 148 [(.t 12),(kk 17),(kk 0)])] [])))))
def F168:PFun:=pf 2 [] (sr [bx 2 0,bx 3 1] [2,3] (sr [fa 4 2 3,l1 5 4] [2,3,5] (.block 0 (sr [jj 18 (.bin .eql (.t 5) (ks [38,38])),mv 17 18] [2,3,5,17] (.cond (.t 17) (rn [l1 19 2,jj 20 (.mkfn 181 [] [(.t 2),(.t 3)]),jj 21 (.mkfn 182 [] [(.t 2),(.t 3)]),jj 22 (.mkfn 183 [] [(.t 2)]),cl 23 180 [19,20,21,22]] []) (sr [jj 25 (.bin .eql (.t 5) (ks [124,124])),mv 24 25] [2,3,5,24] (.cond (.t 24) (rn [l1 26 2,jj 27 (.mkfn 184 [] [(.t 2),(.t 3)]),jj 28 (.mkfn 185 [] [(.t 2)]),jj 29 (.mkfn 186 [] [(.t 2),(.t 3)]),cl 30 180 [26,27,28,29]] []) (.seq (sr [jj 32 (.bin .eql (.t 5) (ks [62])),mv 31 32] [2,3,5,31] (.cond (.t 31) .skip (rn [jj 33 (.bin .eql (.t 5) (ks [62,61])),mv 31 33] [2,3,5,31]))) (.cond (.t 31) (sr [l1 34 2,la 35 4 3,jj 36 (.call 165 [(.t 34),(.t 35),(kk 1)])] [2,3] (sr [l1 37 2,la 38 4 3,jj 39 (.call 165 [(.t 37),(.t 38),(kk 0)])] [2,3] (.region (some []) [⟨some 40,.load false 1 (.t 2),none,[3]⟩,fa 41 2 3,l1 42 41,cl 43 187 [42],jj 44 (.call 148 [(.t 40),(.t 43),(kk 0)])] [] [3,4]))) (sr [jj 46 (.bin .eql (.t 5) (ks [33,61])),mv 45 46] [2,3,45] (.cond (.t 45) (sr [l1 47 2,la 48 4 3,jj 49 (.call 165 [(.t 47),(.t 48),(kk 0)])] [2,3] (sr [l1 50 2,la 51 4 3,jj 52 (.call 165 [(.t 50),(.t 51),(kk 1)])] [2] (sr [l1 53 2,jj 54 (.call 148 [(.t 53),(kk 16),(kk 0)])] [2] (rn [l1 55 2,jj 56 (.call 148 [(.t 55),(kk 17),(kk 0)])] [])))) (sr [l1 6 2,la 7 4 3,jj 8 (.call 165 [(.t 6),(.t 7),(kk 0)])] [2,3] (sr [l1 9 2,la 10 4 3,jj 11 (.call 165 [(.t 9),(.t 10),(kk 1)])] [2,3] (.region (some []) [⟨some 12,.load false 1 (.t 2),none,[3]⟩,fa 13 2 3,l1 14 13,cl 15 187 [14],jj 16 (.call 148 [(.t 12),(.t 15),(kk 0)])] [] [3,4]))))))))))))))
@[simp] def F169l0x:PC:=(sr [bn 66 .lss 65 64] [2,3,64,65,66] (.seq (.cond (.t 66) .skip (.exit 1)) (.seq (.block 2 (sr [mv 67 65,mv 4 67] [2,3,4,64,65] (rn [l1 68 2,la 69 4 3,mv 70 4,cl 71 165 [68,69,70]] [2,3,64,65]))) (rn [bk 72 .add 65 1,mv 65 72] [2,3,64,65]))))
def F169l0:PC:=F169l0x
theorem qdk:run C q F169l0 fr σ = run C q F169l0x fr σ := rfl
def F169:PFun:=pf 2 [] (sr [bx 2 0,bx 3 1] [2,3] (sr [fa 5 0 3,l1 6 5] [2,3,6] (.block 0 (sr [bk 8 .eql 6 1,mv 7 8] [2,3,6,7] (.cond (.t 7) (sr [l1 9 2,la 10 4 3,jj 11 (.call 165 [(.t 9),(.t 10),(kk 0)])] [2,3] (.region (some []) [l1 12 2,l1 13 2,nc 14 13,fa 15 1 14,l1 16 15,fa 17 2 3,l1 18 17,jj 19 (.lookup .s zN (.t 16) (.t 18) false),jj 20 (.call 148 [(.t 12),(kk 3),(.t 19)])] [] [8])) (sr [bk 22 .eql 6 2,mv 21 22] [2,3,6,21] (.cond (.t 21) (sr [l1 23 2,la 24 4 3,jj 25 (.call 165 [(.t 23),(.t 24),(kk 0)])] [2,3] (sr [l1 26 2,la 27 4 3,jj 28 (.call 165 [(.t 26),(.t 27),(kk 1)])] [2,3] (.region (some []) [⟨some 29,.load false 1 (.t 2),none,[3]⟩,fa 30 2 3,l1 31 30,cl 32 134 [31],jj 33 (.call 148 [(.t 29),(kk 5),(.t 32)])] [] [3,4]))) (sr [bk 35 .eql 6 3,mv 34 35] [2,3,6,34] (.cond (.t 34) (rn [l1 36 2,jj 37 (.mkfn 188 [] [(.t 2),(.t 3)]),jj 38 (.mkfn 189 [] [(.t 2),(.t 3)]),jj 39 (.mkfn 190 [] [(.t 2),(.t 3)]),cl 40 180 [36,37,38,39]] []) (sr [bk 42 .eql 6 4,mv 41 42] [2,3,6,41] (.cond (.t 41) (rn [l1 43 2,la 44 4 3,cl 45 191 [43,44]] []) (sr [bk 47 .eql 6 5,mv 46 47] [2,3,6,46] (.cond (.t 46) (sr [l1 48 2,la 49 4 3,jj 50 (.call 165 [(.t 48),(.t 49),(kk 0)])] [2,3] (sr [l1 51 2,la 52 4 3,jj 53 (.call 165 [(.t 51),(.t 52),(kk 1)])] [2] (rn [l1 54 2,jj 55 (.call 148 [(.t 54),(kk 20),(kk 0)])] []))) (sr [bk 57 .eql 6 6,mv 56 57] [2,3,6,56] (.cond (.t 56) (rn [l1 58 2,jj 59 (.call 148 [(.t 58),(kk 21),(kk 0)])] []) (sr [bk 61 .eql 6 7,mv 60 61] [2,3,60] (cs 60 (sr [fa 62 3 3,l1 63 62,ls 64 63,mx 65 (kk 0)] [2,3,64,65] (.block 1 (.loop F169l0))))))))))))))))))))
def F180:PFun:=⟨4,[],sr [mv 8 1,jj 9 (.callv (.t 8) [])] [1000000,0,2,3] (sr [mv 10 0,mv 11 2,cl 12 200 [10,11],jj 1000000 (.defer (.t 12) [])] [1000000,3] (rn [mv 13 3,jj 14 (.callv (.t 13) [])] [1000000])),false,true,false⟩
def F181:PFun:=pf 2 [] (rn [l1 2 0,la 3 4 1,jj 4 (.call 165 [(.t 2),(.t 3),(kk 0)])] [])
def F182:PFun:=pf 2 [] (rn [l1 2 0,la 3 4 1,jj 4 (.call 165 [(.t 2),(.t 3),(kk 1)])] [])
def F183:PFun:=pf 1 [] (rn [l1 1 0,jj 2 (.call 148 [(.t 1),(kk 1),(kk 0)])] [])
def F184:PFun:=pf 2 [] (rn [l1 2 0,la 3 4 1,jj 4 (.call 165 [(.t 2),(.t 3),(kk 0)])] [])
def F185:PFun:=pf 1 [] (rn [l1 1 0,jj 2 (.call 148 [(.t 1),(kk 1),(kk 1)])] [])
def F186:PFun:=pf 2 [] (rn [l1 2 0,la 3 4 1,jj 4 (.call 165 [(.t 2),(.t 3),(kk 1)])] [])
def F187:PFun:=pf 1 [.tmp 2] (sr [mx 2 (kk 0)] [0] (.seq (sr [mv 3 0] [3] (.block 0 (sr [jj 5 (.bin .eql (.t 3) (ks [43])),mv 4 5] [3,4] (.cond (.t 4) (sr [mx 2 (kk 9)] [2] .ret) (sr [jj 7 (.bin .eql (.t 3) (ks [45])),mv 6 7] [3,6] (.cond (.t 6) (sr [mx 2 (kk 10)] [2] .ret) (sr [jj 9 (.bin .eql (.t 3) (ks [42])),mv 8 9] [3,8] (.cond (.t 8) (sr [mx 2 (kk 11)] [2] .ret) (sr [jj 11 (.bin .eql (.t 3) (ks [47])),mv 10 11] [3,10] (.cond (.t 10) (sr [mx 2 (kk 12)] [2] .ret) (.seq (sr [jj 13 (.bin .eql (.t 3) (ks [60])),mv 12 13] [3,12] (.cond (.t 12) .skip (rn [jj 14 (.bin .eql (.t 3) (ks [62])),mv 12 14] [3,12]))) (.cond (.t 12) (sr [mx 2 (kk 14)] [2] .ret) (.seq (sr [jj 16 (.bin .eql (.t 3) (ks [60,61])),mv 15 16] [3,15] (.cond (.t 15) .skip (rn [jj 17 (.bin .eql (.t 3) (ks [62,61])),mv 15 17] [15]))) (cs 15 (sr [mx 2 (kk 15)] [2] .ret))))))))))))))) (sr [mx 2 (kk 16)] [2] .ret)))
def F188:PFun:=pf 2 [] (rn [l1 2 0,la 3 4 1,jj 4 (.call 165 [(.t 2),(.t 3),(kk 0)])] [])
def F189:PFun:=pf 2 [] (rn [l1 2 0,la 3 4 1,jj 4 (.call 165 [(.t 2),(.t 3),(kk 1)])] [])
def F190:PFun:=pf 2 [] (rn [l1 2 0,la 3 4 1,jj 4 (.call 165 [(.t 2),(.t 3),(kk 2)])] [])
def F191:PFun:=⟨2,[],sr [bx 3 1] [1000000,0,3] (sr [mv 5 0,nc 6 5,fa 7 0 6,l1 8 7,ls 9 8,mv 4 9] [1000000,0,3,4] (sr [mv 10 0,la 11 4 3,jj 12 (.call 165 [(.t 10),(.t 11),(kk 0)])] [1000000,0,3,4] (sr [mv 13 0,jj 14 (.call 201 [(.t 13),(kk 19)]),jj 1000000 (.defer (.t 14) [])] [1000000,0,3,4] (sr [mv 15 0,la 16 4 3,jj 17 (.call 165 [(.t 15),(.t 16),(kk 1)])] [1000000,0,4] (rn [mv 18 0,mv 19 4,jj 20 (.call 148 [(.t 18),(kk 18),(.t 19)])] [1000000]))))),false,true,false⟩
def F200:PFun:=⟨2,[.tmp 4],sr [jj 4 (.mov (.c .nilFunc))] [1000000,0,1] (sr [mv 6 0,jj 7 (.call 201 [(.t 6),(kk 19)]),mv 5 7] [1000000,0,1,5] (sr [mv 8 5,jj 1000000 (.defer (.t 8) [])] [1000000,0,1] (sr [mv 9 1,jj 10 (.callv (.t 9) [])] [1000000,0] (sr [mv 11 0,jj 12 (.call 201 [(.t 11),(kk 18)]),mv 4 12] [1000000,4] .ret)))),false,true,false⟩
def F201:PFun:=pf 2 [.tmp 4] (sr [bx 2 0,jj 4 (.mov (.c .nilFunc))] [1,2] (sr [l1 6 2,mv 7 1,jj 8 (.call 148 [(.t 6),(.t 7),(kk 0)]),jj 5 (.alloc [zN]),st 1 5 8] [2,5] (sr [jj 9 (.mkfn 204 [] [(.t 2),(.t 5)]),mv 4 9] [4] .ret)))
def F204:PFun:=pf 2 [] (.region (some []) [l1 2 0,nc 3 2,fa 4 0 3,l1 5 4,l1 6 1,l1 7 0,nc 8 7,fa 9 0 8,l1 10 9,ls 11 10,jj 12 (.indexAddr 2 (.t 5) (.t 6)),fa 13 1 12,st 1 13 11] [])
end Go.Pm.F
end
section
namespace Go.Pm.F
def qad:Nat->Option PFun
 |15=>some F15
 |17=>some F17
 |23=>some F23
 |32=>some F32
 |38=>some F38
 |39=>some F39
 |123=>some F123
 |131=>some F131
 |134=>some F134
 |136=>some F136
 |137=>some F137
 |139=>some F139
 |140=>some F140
 |147=>some F147
 |148=>some F148
 |149=>some F149
 |152=>some F152
 |162=>some F162
 |164=>some F164
 |165=>some F165
 |166=>some F166
 |167=>some F167
 |168=>some F168
 |169=>some F169
 |170=>some F170
 |171=>some F171
 |176=>some F176
 |177=>some F177
 |178=>some F178
 |179=>some F179
 |180=>some F180
 |181=>some F181
 |182=>some F182
 |183=>some F183
 |184=>some F184
 |185=>some F185
 |186=>some F186
 |187=>some F187
 |188=>some F188
 |189=>some F189
 |190=>some F190
 |191=>some F191
 |192=>some F192
 |193=>some F193
 |194=>some F194
 |195=>some F195
 |196=>some F196
 |198=>some F198
 |200=>some F200
 |201=>some F201
 |204=>some F204
 |_=>none
theorem qgH : ∀ f pf,qaL f=some pf->qad f=some pf:=fun f pf h=>by
 unfold qaL at h
 split at h<;>first | (cases h; rfl) | cases h
end Go.Pm.F
end
namespace Go.Pm
section
def qaQ(c:UInt8):Bool:=decide (97<=c.toNat)&&decide (c.toNat<=122)
def qaq(c:UInt8):Bool:=decide (48<=c.toNat)&&decide (c.toNat<=57)
def qix(s:ByteArray):Nat->Bool->Nat->Nat
 |0,_,i=>i
 |n+1,c,i=>match s[i]? with
  |none=>i
  |some b=>if b.toNat=10 then qix s n false (i+1) else if c=true\/b.toNat=32\/b.toNat=9 then qix s n c (i+1) else if b.toNat=35 then qix s n true (i+1) else i
def qox(p:UInt8->Bool)(s:ByteArray):Nat->Nat->Nat
 |0,i=>i
 |n+1,i=>match s[i]? with
  |none=>i
  |some b=>if p b then qox p s n (i+1) else i
def qaz(c:UInt8):Bool:=qaQ c||qaq c
def digV(l:List UInt8):Nat:=l.foldl (fun v c=>10*v+(c.toNat-48)) 0
structure Tk where
 at_:Nat
 s:ByteArray
 bad:Nat
def bs(l:List UInt8):ByteArray:=⟨l.toArray⟩
def fieldNames:List ByteArray:=[bs [120],bs [121],bs [118,120],bs [118,121],bs [97],bs [98],qi3,qj5]
def wordNames:List ByteArray:=[bs [111,110],bs [97,99,116],bs [116,105,99,107],qi3,bs [105,102],bs [101,108,115,101],bs [119,104,105,108,101],bs [101,102,102,101,99,116],bs [115,116,111,112],bs [116,114,117,101],bs [102,97,108,115,101],bs [115,101,108,102],bs [111,116,104,101,114]]
def qdv:List ByteArray:=[bs [124,124],bs [38,38],bs [60,61],bs [62,61],bs [61,61],bs [33,61]]
def symB:List Nat:=[123,125,91,93,40,41,61,59,44,60,62,43,45,42,47,33]
def tokAt(eS eL eR:Nat)(s:ByteArray)(i:Nat):Tk:=match s[i]? with
 |none=>⟨i,⟨#[]⟩,0⟩
 |some c=>
  if qaQ c then
   let w:=s.extract i (qox qaz s (s.size-i) i)
   ⟨i,w,if 8<w.size/\w∉fieldNames/\w∉wordNames then eL else 0⟩
  else if qaq c then
   let w:=s.extract i (qox qaq s (s.size-i) i)
   ⟨i,w,if 2147483647<digV w.toList then eR else 0⟩
  else if i+2<=s.size/\s.extract i (i+2)∈qdv then ⟨i,s.extract i (i+2),0⟩
  else if c.toNat∈symB then ⟨i,s.extract i (i+1),0⟩
  else ⟨i,s.extract i (i+1),eS⟩
def qc3(eS eL eR:Nat)(s:ByteArray):Nat->Nat->List Tk
 |0,i=>[⟨i,⟨#[]⟩,0⟩]
 |n+1,i=>
  let t:=tokAt eS eL eR s (qix s (s.size-i) false i)
  if t.bad≠0\/t.s.size=0 then [t] else t::qc3 eS eL eR s n (t.at_+t.s.size)
inductive Rz(α : Type) where
 |ok (a : α) (r:List Tk)
 |er (i c:Nat)
def nx:List Tk->Option ByteArray
 |t::_=>if t.bad=0 then some t.s else none
 |[]=>none
def Rz.bind{α β : Type}:Rz α -> (α -> List Tk->Rz β)->Rz β
 |.ok a r,k=>k a r
 |.er i c,_ => .er i c
def qrN(prec:Nat)(s:ByteArray):Option Bop:=
 let l:List Bop:=match prec with
  |1=>[.or] | 2=>[.and] | 4=>[.lt,.le,.gt,.ge,.eq,.ne] | 5=>[.add,.sub] | 6=>[.mul,.div] | _=>[]
 l.find? fun o=>decide (o.str=s)
def qaX(p:UInt8->Bool)(s:ByteArray):Bool:=match s[0]? with
 |some c=>p c
 |none=>false
end
section
def qfp(s:ByteArray):Option Nat:=
 if s=bs [97,99,116] then some 0 else if s=bs [116,105,99,107] then some 1 else if s=qi3 then some 2 else none
end
section
def Fin{α : Type}(m:Nat)(x:Option (Rz α)):Prop := ∃ y,x=some y /\ ∀ a r,y = .ok a r->r.length<=m
end
section
abbrev byl(s:ByteArray):List UInt8:=s.data.toList
theorem qbp(l:List UInt8):byl (bs l)=l:=by simp[byl,bs]
theorem qdF(s:ByteArray):bs (byl s)=s:=by cases s; simp[bs,byl]
theorem qau(s:ByteArray):(byl s).length=s.size:=WC
theorem qaw(l:List UInt8):(bs l).size=l.length:=rfl
theorem qrq{a b:List UInt8}(h:bs a=bs b):a=b:=by rw[<- qbp a,h,qbp]
theorem qm1{a b:ByteArray}(h:byl a=byl b):a=b:=by rw[<- qdF a,h,qdF]
theorem qhq(s:ByteArray)(i:Nat):s[i]?=((byl s).drop i).head?:=by
 rw[List.head?_drop]
 by_cases h:i<s.size
 ·rw[getElem?_pos s i h,WP (by rw[qau]; exact h)]
  simp[byl,ByteArray.getElem_eq_getElem_data]
 ·rw[getElem?_neg s i h,Yg (by rw[qau]; omega)]
theorem qbS(s:ByteArray)(i k:Nat):s.extract i (i+k)=bs (((byl s).drop i).take k):=by
 apply qm1
 rw[qbp]
 simp only[byl,ByteArray.data_extract,Array.toList_extract,List.extract_eq_take_drop]
 rw[show i+k-i=k by omega]
def qaD:Bool->List UInt8->Nat
 |_,[]=>0
 |c,b::r=>if b.toNat=10 then qaD false r+1 else if c=true\/b.toNat=32\/b.toNat=9 then qaD c r+1 else if b.toNat=35 then qaD true r+1 else 0
def qbl(p:UInt8->Bool):List UInt8->Nat
 |[]=>0
 |b::r=>if p b then qbl p r+1 else 0
theorem qgK : ∀ (l:List UInt8) (c:Bool),qaD c l<=l.length
 |[],c=>by simp[qaD]
 |b::r,c=>by
  have h1:=qgK r false
  have h2:=qgK r c
  have h3:=qgK r true
  simp only[qaD,We]
  split
  ·omega
  split
  ·omega
  split<;>omega
theorem qfb(p:UInt8->Bool) : ∀ l:List UInt8,qbl p l<=l.length
 |[]=>by simp[qbl]
 |b::r=>by
  have h1:=qfb p r
  simp only[qbl,We]
  split<;>omega
def tokL(eS eL eR:Nat):List UInt8->List UInt8 × Nat
 |[]=>([],0)
 |c::r=>
  if qaQ c then ((c::r).take (qbl qaz (c::r)),if 8<qbl qaz (c::r)/\bs ((c::r).take (qbl qaz (c::r)))∉fieldNames/\bs ((c::r).take (qbl qaz (c::r)))∉wordNames then eL else 0)
  else if qaq c then ((c::r).take (qbl qaq (c::r)),if 2147483647<digV ((c::r).take (qbl qaq (c::r))) then eR else 0)
  else if bs ((c::r).take 2)∈qdv then ((c::r).take 2,0)
  else if c.toNat∈symB then ([c],0)
  else ([c],eS)
def quM(eS eL eR:Nat):Nat->Nat->List UInt8->List Tk
 |0,i,_=>[⟨i,⟨#[]⟩,0⟩]
 |n+1,i,l=>
  if (tokL eS eL eR (l.drop (qaD false l))).2≠0\/(tokL eS eL eR (l.drop (qaD false l))).1.length=0 then [⟨i+qaD false l,bs (tokL eS eL eR (l.drop (qaD false l))).1,(tokL eS eL eR (l.drop (qaD false l))).2⟩]
  else ⟨i+qaD false l,bs (tokL eS eL eR (l.drop (qaD false l))).1,(tokL eS eL eR (l.drop (qaD false l))).2⟩::quM eS eL eR n (i+qaD false l+(tokL eS eL eR (l.drop (qaD false l))).1.length) ((l.drop (qaD false l)).drop (tokL eS eL eR (l.drop (qaD false l))).1.length)
theorem qil(s:ByteArray) : ∀ (n:Nat) (c:Bool) (i:Nat),s.size-i<=n->qix s n c i=i+qaD c ((byl s).drop i)
 |0,c,i,h=>by
  have:(byl s).drop i=[]:=WM (by rw[qau]; omega)
  rw[this]
  simp[qix,qaD]
 |n+1,c,i,h=>by
  rw[qix,qhq]
  cases hd:(byl s).drop i with
  |nil=>simp[qaD]
  |cons b r=>
   have hr:(byl s).drop (i+1)=r:=by rw[<- List.drop_drop,hd]; rfl
   have ih:=fun c=>qil s n c (i+1) (by omega)
   simp only[List.head?_cons,qaD,ih,hr]
   split
   ·omega
   split
   ·omega
   split<;>omega
theorem qhr(p:UInt8->Bool)(s:ByteArray) : ∀ (n i:Nat),s.size-i<=n->qox p s n i=i+qbl p ((byl s).drop i)
 |0,i,h=>by
  have:(byl s).drop i=[]:=WM (by rw[qau]; omega)
  rw[this]
  simp[qox,qbl]
 |n+1,i,h=>by
  rw[qox,qhq]
  cases hd:(byl s).drop i with
  |nil=>simp[qbl]
  |cons b r=>
   have hr:(byl s).drop (i+1)=r:=by rw[<- List.drop_drop,hd]; rfl
   have ih:=qhr p s n (i+1) (by omega)
   simp only[List.head?_cons,qbl,ih,hr]
   split<;>omega
theorem qfy{w:ByteArray}(h:w∈qdv):w.size=2:=by
 simp only[qdv,Wo,Wx,or_false] at h
 rcases h with h|h|h|h|h|h<;>rw[h]<;>rfl
theorem qdg(eS eL eR:Nat)(s:ByteArray)(i:Nat):tokAt eS eL eR s i=⟨i,bs (tokL eS eL eR ((byl s).drop i)).1,(tokL eS eL eR ((byl s).drop i)).2⟩:=by
 unfold tokAt
 rw[qhq]
 cases hd:(byl s).drop i with
 |nil=>rfl
 |cons c r=>
  have hlen:s.size-i=r.length+1:=by
   have:=congrArg List.length hd
   rw[WY,qau,We] at this
   exact this
  have e1 : ∀ p,s.extract i (qox p s (s.size-i) i)=bs ((c::r).take (qbl p (c::r))):=fun p=>by
   rw[qhr p s _ i (Wj _),qbS,hd]
  have e2:s.extract i (i+2)=bs ((c::r).take 2):=by rw[qbS,hd]
  have e3:s.extract i (i+1)=bs [c]:=by rw[qbS,hd]; rfl
  have hw : ∀ p,((c::r).take (qbl p (c::r))).length=qbl p (c::r):=fun p=>by
   rw[WU,Nat.min_eq_left (qfb p _)]
  simp only[List.head?_cons,e1,e2,e3,tokL,qaw,hw,qbp,ByteArray.toList_eq]
  split
  ·rfl
  split
  ·simp[bs]
  have e4:(i+2<=s.size/\bs ((c::r).take 2)∈qdv)↔bs ((c::r).take 2)∈qdv:=by
   refine⟨fun h=>h.2,fun h=>⟨?_,h⟩⟩
   have:=qfy h
   rw[qaw,WU,We] at this
   omega
  simp only[e4]
  split
  ·rfl
  split<;>rfl
theorem qod(eS eL eR:Nat)(s:ByteArray) : ∀ (n i:Nat),qc3 eS eL eR s n i=quM eS eL eR n i ((byl s).drop i)
 |0,i=>rfl
 |n+1,i=>by
  rw[qc3,quM]
  simp only[qil s _ false i (Wj _),qdg,qaw,<- List.drop_drop,qod eS eL eR s n,List.drop_drop]
end
end Go.Pm
