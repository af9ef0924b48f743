/- Trees of rule programs: expressions, statements, rows of nodes, as the abstract machine's data; names. No program in sight. The rule language in plain Lean: tokens of a source, the parser over them. No program in sight. The rule language in plain Lean: statements, blocks, programs. No program in sight. The rule language in plain Lean: tokens over lists of bytes. No program in sight. The rule language in plain Lean: a source written down from its tokens is read back. No program in sight. The rule language in plain Lean: more steps change no result. No program in sight. The rule language in plain Lean: expressions written down, and read back. No program in sight. The rule language in plain Lean: statements and programs written down, and read back. No program in sight. The rule language in plain Lean: written tokens stand one behind the other; whole programs read back. No program in sight. The rule language in plain Lean: trees that are equal but for their marks; parsing with other marks. No program in sight. The abstract machine's program: short forms of its operations. -/
import Derived.Test.YtjdbkncfebebnaaDoorPmY
import Derived.Laws.Strings
import Derived.KernelRfl
import Derived.Test.YtjdbkncfebebnaaDoorPmA
set_option linter.unusedSimpArgs false
set_option linter.unusedVariables false
section SEt
namespace Go.Pm
inductive Bop where
 | add | sub | mul | div | lt | le | gt | ge | eq | ne | and | or
def Bop.str:Bop->ByteArray
 | .add=>⟨#[43]⟩ | .sub=>⟨#[45]⟩ | .mul=>⟨#[42]⟩ | .div=>⟨#[47]⟩
 | .lt=>⟨#[60]⟩ | .le=>⟨#[60,61]⟩ | .gt=>⟨#[62]⟩ | .ge=>⟨#[62,61]⟩ | .eq=>⟨#[61,61]⟩ | .ne=>⟨#[33,61]⟩
 | .and=>⟨#[38,38]⟩ | .or=>⟨#[124,124]⟩
def Bop.opd:Bop->Int
 | .and | .or=>2
 | _=>1
def Bop.res:Bop->Int
 | .add | .sub | .mul | .div=>1
 | _=>2
def ustr (neg:Bool):ByteArray:=if neg then ⟨#[45]⟩ else ⟨#[33]⟩
inductive E where
 | int (n:Int)
 | bool (n:Int)
 | var (s:ByteArray)
 | name (s:ByteArray)
 | field (f:Bool) (s:ByteArray) (e:E)
 | un (f:Bool) (neg:Bool) (e:E)
 | bin (f:Bool) (o:Bop) (a b:E)
def E.kind:E->Int
 | .int _=>8 | .bool _=>9 | .var _=>10 | .field .. => 11 | .name _=>12 | .un .. => 13 | .bin .. => 14
def E.num:E->Int
 | .int n=>n | .bool n=>n | _=>0
def E.str:E->ByteArray
 | .var s=>s | .name s=>s | .field _ s _=>s | .un _ neg _=>ustr neg | .bin _ o _ _=>o.str | _=>⟨#[]⟩
def E.kids:E->D
 | .field f _ e => .sl [.lit (.int .i64 e.kind),.lit (.int .i64 e.num),.lit (.string e.str),e.kids] 1 f
 | .un f _ e => .sl [.lit (.int .i64 e.kind),.lit (.int .i64 e.num),.lit (.string e.str),e.kids] 1 f
 | .bin f _ a b => .sl [.lit (.int .i64 a.kind),.lit (.int .i64 a.num),.lit (.string a.str),a.kids,.lit (.int .i64 b.kind),.lit (.int .i64 b.num),.lit (.string b.str),b.kids] 2 f
 | _ => .lit (.slice none 0 0)
@[simp] theorem ql6 (e:E):V.one (.dat e.kids)=true:=by cases e<;>rfl
@[simp] theorem qkU (e:E):V.cells (.dat e.kids)=[.dat e.kids]:=by cases e<;>rfl
abbrev E.node (e:E):V := .dat (.agg [.lit (.int .i64 e.kind),.lit (.int .i64 e.num),.lit (.string e.str),e.kids])
def E.size:E->Nat
 | .field _ _ e=>e.size+1
 | .un _ _ e=>e.size+1
 | .bin _ _ a b=>a.size+b.size+1
 | _=>1
@[simp] theorem ql7 (n:Int):E.size (.int n)=1:=rfl
@[simp] theorem qlI (n:Int):E.size (.bool n)=1:=rfl
@[simp] theorem ql8 (s:ByteArray):E.size (.var s)=1:=rfl
@[simp] theorem qlJ (s:ByteArray):E.size (.name s)=1:=rfl
@[simp] theorem qh2 (f:Bool) (s:ByteArray) (e:E):E.size (.field f s e)=e.size+1:=rfl
@[simp] theorem qku (f neg:Bool) (e:E):E.size (.un f neg e)=e.size+1:=rfl
@[simp] theorem qjz (f:Bool) (o:Bop) (a b:E):E.size (.bin f o a b)=a.size+b.size+1:=rfl
def E.ok:E->Prop
 | .var s=>s.size<=100
 | .field _ _ e=>e.ok
 | .un _ _ e=>e.ok
 | .bin _ _ a b=>a.ok/\b.ok
 | _=>True
def E.ty:E->Int
 | .int _ | .var _ | .name _=>1
 | .bool _=>2
 | .field _ _ e=>if e.ty=1 then 1 else 0
 | .un _ neg e=>if e.ty=(if neg then 1 else 2) then (if neg then 1 else 2) else 0
 | .bin _ o a b=>if a.ty=o.opd/\b.ty=o.opd then o.res else 0
@[simp] theorem ql9 (n:Int):E.kind (.int n)=8:=rfl
@[simp] theorem qmS (n:Int):E.num (.int n)=n:=rfl
@[simp] theorem qmT (n:Int):E.str (.int n)=⟨#[]⟩:=rfl
@[simp] theorem qma (n:Int):E.kids (.int n) = .lit (.slice none 0 0):=rfl
@[simp] theorem qnl (n:Int):E.ty (.int n)=1:=rfl
@[simp] theorem qlK (n:Int):E.kind (.bool n)=9:=rfl
@[simp] theorem qmb (n:Int):E.num (.bool n)=n:=rfl
@[simp] theorem qmc (n:Int):E.str (.bool n)=⟨#[]⟩:=rfl
@[simp] theorem qlL (n:Int):E.kids (.bool n) = .lit (.slice none 0 0):=rfl
@[simp] theorem qmU (n:Int):E.ty (.bool n)=2:=rfl
@[simp] theorem qmd (s:ByteArray):E.kind (.var s)=10:=rfl
@[simp] theorem qmV (s:ByteArray):E.num (.var s)=0:=rfl
@[simp] theorem qmW (s:ByteArray):E.str (.var s)=s:=rfl
@[simp] theorem qme (s:ByteArray):E.kids (.var s) = .lit (.slice none 0 0):=rfl
@[simp] theorem qnm (s:ByteArray):E.ty (.var s)=1:=rfl
@[simp] theorem qlM (s:ByteArray):E.kind (.name s)=12:=rfl
@[simp] theorem qmf (s:ByteArray):E.num (.name s)=0:=rfl
@[simp] theorem qmg (s:ByteArray):E.str (.name s)=s:=rfl
@[simp] theorem qlN (s:ByteArray):E.kids (.name s) = .lit (.slice none 0 0):=rfl
@[simp] theorem qmX (s:ByteArray):E.ty (.name s)=1:=rfl
@[simp] theorem qkV (f:Bool) (s:ByteArray) (e:E):E.kind (.field f s e)=11:=rfl
@[simp] theorem qlO (f:Bool) (s:ByteArray) (e:E):E.num (.field f s e)=0:=rfl
@[simp] theorem qlP (f:Bool) (s:ByteArray) (e:E):E.str (.field f s e)=s:=rfl
@[simp] theorem qh3 (f:Bool) (s:ByteArray) (e:E):E.kids (.field f s e) = .sl [.lit (.int .i64 e.kind),.lit (.int .i64 e.num),.lit (.string e.str),e.kids] 1 f:=rfl
@[simp] theorem qmh (f:Bool) (s:ByteArray) (e:E):E.ty (.field f s e)=if e.ty=1 then 1 else 0:=rfl
@[simp] theorem qmY (f:Bool) (neg:Bool) (e:E):E.kind (.un f neg e)=13:=rfl
@[simp] theorem qnn (f:Bool) (neg:Bool) (e:E):E.num (.un f neg e)=0:=rfl
@[simp] theorem qno (f:Bool) (neg:Bool) (e:E):E.str (.un f neg e)=ustr neg:=rfl
@[simp] theorem qkv (f:Bool) (neg:Bool) (e:E):E.kids (.un f neg e) = .sl [.lit (.int .i64 e.kind),.lit (.int .i64 e.num),.lit (.string e.str),e.kids] 1 f:=rfl
@[simp] theorem qnH (f:Bool) (neg:Bool) (e:E):E.ty (.un f neg e)=if e.ty=(if neg then 1 else 2) then (if neg then 1 else 2) else 0:=rfl
@[simp] theorem qmi (f:Bool) (o:Bop) (a b:E):E.kind (.bin f o a b)=14:=rfl
@[simp] theorem qmZ (f:Bool) (o:Bop) (a b:E):E.num (.bin f o a b)=0:=rfl
@[simp] theorem qm0 (f:Bool) (o:Bop) (a b:E):E.str (.bin f o a b)=o.str:=rfl
@[simp] theorem qjA (f:Bool) (o:Bop) (a b:E):E.kids (.bin f o a b) = .sl [.lit (.int .i64 a.kind),.lit (.int .i64 a.num),.lit (.string a.str),a.kids,.lit (.int .i64 b.kind),.lit (.int .i64 b.num),.lit (.string b.str),b.kids] 2 f:=rfl
@[simp] theorem qnp (f:Bool) (o:Bop) (a b:E):E.ty (.bin f o a b)=if a.ty=o.opd/\b.ty=o.opd then o.res else 0:=rfl
def kd (f:Bool):Nat->List D->D
 | 0,_ => .lit (.slice none 0 0)
 | n+1,cs => .sl cs (n+1) f
@[simp] theorem qhI (f:Bool) (n:Nat) (cs:List D):V.one (.dat (kd f n cs))=true:=by cases n<;>rfl
@[simp] theorem qeg (f:Bool) (n:Nat) (cs:List D):V.cells (.dat (kd f n cs))=[.dat (kd f n cs)]:=by cases n<;>rfl
@[simp] theorem qnq (σ : S) (f:Bool) (n:Nat) (cs:List D):V.len σ .sl (.dat (kd f n cs))=some n:=by cases n<;>simp[kd,V.len]
@[simp] theorem qmj (f:Bool) (cs:List D):kd f 0 cs = .lit (.slice none 0 0):=rfl
@[simp] theorem qmk (f:Bool) (n:Nat) (cs:List D):kd f (n+1) cs = .sl cs (n+1) f:=rfl
inductive Fo where
 | nil
 | cons (k n:Int) (s:ByteArray) (f:Bool) (kids rest:Fo)
def Fo.len:Fo->Nat
 | .nil=>0
 | .cons _ _ _ _ _ r=>r.len+1
def Fo.cells:Fo->List D
 | .nil=>[]
 | .cons k n s f ks r => .lit (.int .i64 k) :: .lit (.int .i64 n) :: .lit (.string s)::kd f ks.len ks.cells::r.cells
def Fo.app:Fo->Fo->Fo
 | .nil,b=>b
 | .cons k n s f ks r,b => .cons k n s f ks (r.app b)
def Fo.size:Fo->Nat
 | .nil=>0
 | .cons _ _ _ _ ks r=>ks.size+r.size+1
@[simp] theorem qcV:Fo.len .nil=0:=rfl
@[simp] theorem qbn (k n:Int) (s:ByteArray) (f:Bool) (ks r:Fo):(Fo.cons k n s f ks r).len=r.len+1:=rfl
@[simp] theorem qbX:Fo.cells .nil=[]:=rfl
@[simp] theorem qa2 (k n:Int) (s:ByteArray) (f:Bool) (ks r:Fo):(Fo.cons k n s f ks r).cells = .lit (.int .i64 k) :: .lit (.int .i64 n) :: .lit (.string s)::kd f ks.len ks.cells::r.cells:=rfl
@[simp] theorem qbo:Fo.size .nil=0:=rfl
@[simp] theorem qaP (k n:Int) (s:ByteArray) (f:Bool) (ks r:Fo):(Fo.cons k n s f ks r).size=ks.size+r.size+1:=rfl
@[simp] theorem qkW (b:Fo):Fo.app .nil b=b:=rfl
@[simp] theorem qkw (k n:Int) (s:ByteArray) (f:Bool) (ks r b:Fo):(Fo.cons k n s f ks r).app b = .cons k n s f ks (r.app b):=rfl
theorem qfn (a b:Fo):(a.app b).len=a.len+b.len:=by induction a with
 | nil=>simp
 | cons k n s f ks r _ ih=>simp[ih]; omega
theorem qgA (a b:Fo):(a.app b).cells=a.cells++b.cells:=by induction a with
 | nil=>simp
 | cons k n s f ks r _ ih=>simp[ih]
theorem qg3 (a b:Fo):(a.app b).size=a.size+b.size:=by induction a with
 | nil=>simp
 | cons k n s f ks r _ ih=>simp[ih]; omega
theorem qgB (a:Fo):a.cells.length=a.len*4:=by induction a with
 | nil=>simp
 | cons k n s f ks r _ ih=>simp[ih]; omega
theorem qcn (a:Fo):a.len<=a.size:=by induction a with
 | nil=>simp
 | cons k n s f ks r _ ih=>simp; omega
abbrev nd (k n:Int) (s:ByteArray) (f:Bool) (ks:Fo):V := .dat (.agg [.lit (.int .i64 k),.lit (.int .i64 n),.lit (.string s),kd f ks.len ks.cells])
def Fo.hk:Fo->Int
 | .nil=>0
 | .cons k _ _ _ _ _=>k
def Fo.hn:Fo->Int
 | .nil=>0
 | .cons _ n _ _ _ _=>n
def Fo.hs:Fo->ByteArray
 | .nil=>⟨#[]⟩
 | .cons _ _ s _ _ _=>s
def Fo.hf:Fo->Bool
 | .nil=>false
 | .cons _ _ _ f _ _=>f
def Fo.hks:Fo->Fo
 | .nil => .nil
 | .cons _ _ _ _ ks _=>ks
def Fo.tl:Fo->Fo
 | .nil => .nil
 | .cons _ _ _ _ _ r=>r
abbrev Fo.hd (a:Fo):V:=nd a.hk a.hn a.hs a.hf a.hks
def E.flag:E->Bool
 | .field f _ _=>f | .un f _ _=>f | .bin f _ _ _=>f | _=>false
def E.fo:E->Fo->Fo
 | .int n,r => .cons 8 n ⟨#[]⟩ false .nil r
 | .bool n,r => .cons 9 n ⟨#[]⟩ false .nil r
 | .var s,r => .cons 10 0 s false .nil r
 | .name s,r => .cons 12 0 s false .nil r
 | .field f s e,r => .cons 11 0 s f (e.fo .nil) r
 | .un f neg e,r => .cons 13 0 (ustr neg) f (e.fo .nil) r
 | .bin f o a b,r => .cons 14 0 o.str f (a.fo (b.fo .nil)) r
def E.kfo:E->Fo
 | .field _ _ e=>e.fo .nil | .un _ _ e=>e.fo .nil | .bin _ _ a b=>a.fo (b.fo .nil) | _ => .nil
theorem qea (e:E) (r:Fo):e.fo r = .cons e.kind e.num e.str e.flag e.kfo r:=by cases e<;>rfl
theorem qg4 (e:E):e.kids=kd e.flag e.kfo.len e.kfo.cells:=by
 induction e with
 | field f s e ih=>
  show (E.field f s e).kids=kd f (e.fo .nil).len (e.fo .nil).cells
  rw[qea]
  simp only[qh3,qbn,qcV,qmk,qa2,qbX,<- ih]
 | un f neg e ih=>
  show (E.un f neg e).kids=kd f (e.fo .nil).len (e.fo .nil).cells
  rw[qea]
  simp only[qkv,qbn,qcV,qmk,qa2,qbX,<- ih]
 | bin f o a b iha ihb=>
  show (E.bin f o a b).kids=kd f (a.fo (b.fo .nil)).len (a.fo (b.fo .nil)).cells
  rw[qea,qea]
  simp only[qjA,qbn,qcV,qmk,qa2,qbX,<- iha,<- ihb]
 | _=>rfl
theorem qkx (e:E):e.node=nd e.kind e.num e.str e.flag e.kfo:=by simp only[E.node,nd,qg4]
theorem qky (e:E) (r:Fo):(e.fo r).size=e.size+r.size:=by
 induction e generalizing r<;>simp only[E.fo,E.size,qaP,qbo, *]<;>omega
@[simp] theorem qnI (e:E) (r:Fo):(e.fo r).tl=r:=by rw[qea]; rfl
inductive Ss where
 | nil
 | assign (f:Bool) (s:ByteArray) (e:E) (r:Ss)
 | store (f:Bool) (s:ByteArray) (a b:E) (r:Ss)
 | effect (f:Bool) (a b:E) (r:Ss)
 | stop (r:Ss)
 | cond (w:Bool) (f:Bool) (c:E) (b:Ss) (r:Ss)
 | block (f:Bool) (b:Ss) (r:Ss)
def qm1:ByteArray:=⟨#[104,105,116]⟩
def qjW:ByteArray:=⟨#[115,116,105,108,108]⟩
def Ss.well:Ss->Bool
 | .nil=>true
 | .assign _ _ e r=>decide (e.ty=1)&&r.well
 | .store _ s a b r=>(!(eqS s qm1||eqS s qjW)&&(decide (a.ty=1)&&decide (b.ty=1)))&&r.well
 | .effect _ a b r=>(decide (a.ty=1)&&decide (b.ty=1))&&r.well
 | .stop r=>r.well
 | .cond _ _ c b r=>(decide (c.ty=2)&&b.well)&&r.well
 | .block _ b r=>b.well&&r.well
def Ss.ok:Ss->Prop
 | .nil=>True
 | .assign _ s e r=>s.size<=100/\e.ok/\r.ok
 | .store _ _ a b r=>a.ok/\b.ok/\r.ok
 | .effect _ a b r=>a.ok/\b.ok/\r.ok
 | .stop r=>r.ok
 | .cond _ _ c b r=>c.ok/\b.ok/\r.ok
 | .block _ b r=>b.ok/\r.ok
def Ss.fo:Ss->Fo
 | .nil => .nil
 | .assign f s e r => .cons 1 0 s f (e.fo .nil) r.fo
 | .store f s a b r => .cons 2 0 s f (a.fo (b.fo .nil)) r.fo
 | .effect f a b r => .cons 5 0 ⟨#[]⟩ f (a.fo (b.fo .nil)) r.fo
 | .stop r => .cons 6 0 ⟨#[]⟩ false .nil r.fo
 | .cond w f c b r => .cons (if w then 4 else 3) 0 ⟨#[]⟩ f (c.fo b.fo) r.fo
 | .block f b r => .cons 7 0 ⟨#[]⟩ f b.fo r.fo
theorem qjX {cs r:List D} {o:Nat} {a b c d:D} (h:cs.drop o=a::b::c::d::r):qah cs o 4=some [a,b,c,d]:=by
 unfold qah
 rw[h]
 simp
@[simp] theorem qnJ (e:E) (r:Fo):(e.fo r).hk=e.kind:=by rw[qea]; rfl
@[simp] theorem qnK (e:E) (r:Fo):(e.fo r).hn=e.num:=by rw[qea]; rfl
@[simp] theorem qnL (e:E) (r:Fo):(e.fo r).hs=e.str:=by rw[qea]; rfl
@[simp] theorem qnr (e:E) (r:Fo):kd (e.fo r).hf (e.fo r).hks.len (e.fo r).hks.cells=e.kids:=by rw[qea,qg4]; rfl
@[simp] theorem qns (e:E) (r:Fo):(e.fo r).len=r.len+1:=by rw[qea]; rfl
@[simp] theorem qml (e:E) (r:Fo):(e.fo r).cells = .lit (.int .i64 e.kind) :: .lit (.int .i64 e.num) :: .lit (.string e.str)::e.kids::r.cells:=by rw[qea,qg4]; rfl
@[simp] theorem qnt:Fo.hk .nil=0:=rfl
@[simp] theorem qnu:Fo.hn .nil=0:=rfl
@[simp] theorem qnv:Fo.hs .nil=⟨#[]⟩:=rfl
@[simp] theorem qnw:Fo.hf .nil=false:=rfl
@[simp] theorem qm2:Fo.hks .nil = .nil:=rfl
def qgC (ss:List ByteArray):List D:=ss.map fun s => .lit (.string s)
theorem qjB (ss:List ByteArray) (i:Nat) (h:i<ss.length):qah (qgC ss) i 1=some [.lit (.string ss[i])]:=by
 unfold qah qgC
 rw[List.drop_eq_getElem_cons (by simpa using h)]
 simp
theorem qbh (a b:ByteArray):eqS a b=decide (a=b):=by
 rw[Bool.eq_iff_iff]
 simp only[eqS,beq_iff_eq,decide_eq_true_eq,ByteArray.toList_eq]
 exact⟨fun h=>by cases a; cases b; simp only[Array.toList_inj] at h; rw[h],fun h=>by rw[h]⟩
instance:LawfulBEq ByteArray where
 eq_of_beq h:=by rw[qey] at h; exact of_decide_eq_true h
 rfl:=by intro a; rw[qey]; exact decide_eq_true rfl
def qkX:List ByteArray->D
 | [] => .lit (.slice none 0 0)
 | s::l => .sl (qgC (s::l)) (l.length+1) false
@[simp] theorem qmm (l:List ByteArray):V.one (.dat (qkX l))=true:=by cases l<;>rfl
@[simp] theorem qkY (l:List ByteArray):V.cells (.dat (qkX l))=[.dat (qkX l)]:=by cases l<;>rfl
@[simp] theorem qmn (σ : S) (l:List ByteArray):V.len σ .sl (.dat (qkX l))=some l.length:=by cases l<;>simp[qkX,V.len]
@[simp] theorem qmo (l:List ByteArray):(qgC l).length=l.length:=by simp[qgC]
theorem qdC {cs r:List D} {i:Nat} {a b c d:D} (h:cs.drop (i*4)=a::b::c::d::r):cs.drop ((i+1)*4)=r:=by
 rw[show (i+1)*4=i*4+4 by omega,<- List.drop_drop,h]
 rfl
structure Nd where
 k:Int
 n:Int
 s:ByteArray
 f:Bool
 ks:Fo
abbrev Nd.v (a:Nd):V:=nd a.k a.n a.s a.f a.ks
abbrev Nd.d (a:Nd):D:=kd a.f a.ks.len a.ks.cells
inductive Hd where
 | none
 | some (f:Bool) (b:Ss)
def Hd.k:Hd->Int
 | .none=>0
 | .some _ _=>7
def Hd.f:Hd->Bool
 | .none=>false
 | .some f _=>f
def Hd.ks:Hd->Fo
 | .none => .nil
 | .some _ b=>b.fo
def Hd.nd (h:Hd):Nd:=⟨h.k,0,⟨#[]⟩,h.f,h.ks⟩
@[simp] theorem qnP (h:Hd):h.nd.k=h.k:=rfl
@[simp] theorem qnQ (h:Hd):h.nd.n=0:=rfl
@[simp] theorem qnR (h:Hd):h.nd.s=⟨#[]⟩:=rfl
@[simp] theorem qnS (h:Hd):h.nd.f=h.f:=rfl
@[simp] theorem qnM (h:Hd):h.nd.ks=h.ks:=rfl
def Hd.well:Hd->Bool
 | .none=>true
 | .some _ b=>b.well
def Ss.app:Ss->Ss->Ss
 | .nil,b=>b
 | .assign f s e r,b => .assign f s e (r.app b)
 | .store f s x y r,b => .store f s x y (r.app b)
 | .effect f x y r,b => .effect f x y (r.app b)
 | .stop r,b => .stop (r.app b)
 | .cond w f c q r,b => .cond w f c q (r.app b)
 | .block f q r,b => .block f q (r.app b)
end Go.Pm
end SEt
section SYa
namespace Go.Pm
def qgN (c:UInt8):Bool:=decide (97<=c.toNat)&&decide (c.toNat<=122)
def qdl (c:UInt8):Bool:=decide (48<=c.toNat)&&decide (c.toNat<=57)
def qih (c:UInt8):Bool:=qgN c||qdl c
def qi5 (l:List UInt8):Nat:=l.foldl (fun v c=>10*v+(c.toNat-48)) 0
structure Tk where
 at_:Nat
 s:ByteArray
 bad:Nat
def bs (l:List UInt8):ByteArray:=⟨l.toArray⟩
def qa0:List ByteArray:=[bs [120],bs [121],bs [118,120],bs [118,121],bs [97],bs [98],qm1,qjW]
def qb3:List ByteArray:=[bs [111,110],bs [97,99,116],bs [116,105,99,107],qm1,bs [105,102],bs [101,108,115,101],bs [119,104,105,108,101],bs [101,102,102,101,99,116],bs [115,116,111,112],bs [116,114,117,101],bs [102,97,108,115,101],bs [115,101,108,102],bs [111,116,104,101,114]]
def qms:List ByteArray:=[bs [124,124],bs [38,38],bs [60,61],bs [62,61],bs [61,61],bs [33,61]]
def qnA:List Nat:=[123,125,91,93,40,41,61,59,44,60,62,43,45,42,47,33]
inductive Rz (α : Type) where
 | ok (a : α) (r:List Tk)
 | er (i c:Nat)
def nx:List Tk->Option ByteArray
 | t::_=>if t.bad=0 then some t.s else none
 | []=>none
def qfC {α : Type} (c:Nat):List Tk->Rz α
 | t::_ => .er t.at_ (if t.bad=0 then c else t.bad)
 | [] => .er 0 c
def Rz.bind {α β : Type}:Rz α -> (α -> List Tk->Rz β)->Rz β
 | .ok a r,k=>k a r
 | .er i c,_ => .er i c
def qcf (eS:Nat) (x:ByteArray):List Tk->Rz Unit
 | t::r=>if t.bad=0/\t.s=x then .ok () r else qfC eS (t::r)
 | []=>qfC eS []
def qfD (eS eL:Nat) (x:ByteArray) (lv:Nat) (ts:List Tk):Rz Unit:=
 if nx ts=some x/\20<lv then qfC eL ts else qcf eS x ts
def qjJ (prec:Nat) (s:ByteArray):Option Bop:=
 let l:List Bop:=match prec with
  | 1=>[.or] | 2=>[.and] | 4=>[.lt,.le,.gt,.ge,.eq,.ne] | 5=>[.add,.sub] | 6=>[.mul,.div] | _=>[]
 l.find? fun o=>decide (o.str=s)
def qbg (p:UInt8->Bool) (s:ByteArray):Bool:=match s[0]? with
 | some c=>p c
 | none=>false
mutual
def qau (eS eL:Nat) (f:Bool):Nat->Nat->Nat->List Tk->Option (Rz E)
 | 0,_,_,_=>none
 | n+1,prec,lv,ts=>
  if prec=3/\nx ts=some (ustr false)\/prec=7/\nx ts=some (ustr true) then
   match qfD eS eL (ustr (prec==7)) (lv+1) ts with
   | .er i c=>some (.er i c)
   | .ok _ r=>match qau eS eL f n prec (lv+1) r with
    | some (.ok e r')=>some (.ok (.un f (prec==7) e) r')
    | x=>x
  else if prec<8 then
   match qau eS eL f n (prec+1) lv ts with
   | some (.ok e r)=>qb4 eS eL f n prec lv e r
   | x=>x
  else match nx ts with
   | none=>some (qfC eS ts)
   | some s=>
    if qbg qdl s then some (.ok (.int (qi5 s.toList)) ts.tail)
    else if s=bs [116,114,117,101] then some (.ok (.bool 1) ts.tail)
    else if s=bs [102,97,108,115,101] then some (.ok (.bool 0) ts.tail)
    else if s=bs [115,101,108,102]\/s=bs [111,116,104,101,114]\/s=bs [116,105,99,107] then some (.ok (.name s) ts.tail)
    else if s∈qa0 then match qdm eS eL f n lv ts.tail with
     | some (.ok e r)=>some (.ok (.field f s e) r)
     | x=>x
    else if qbg qgN s/\s∉qb3 then some (.ok (.var s) ts.tail)
    else match qfD eS eL (bs [40]) (lv+1) ts with
     | .er i c=>some (.er i c)
     | .ok _ r=>match qau eS eL f n 1 (lv+1) r with
      | some (.ok e r')=>match qcf eS (bs [41]) r' with
       | .ok _ r''=>some (.ok e r'')
       | .er i c=>some (.er i c)
      | x=>x
def qb4 (eS eL:Nat) (f:Bool):Nat->Nat->Nat->E->List Tk->Option (Rz E)
 | 0,_,_,_,_=>none
 | n+1,prec,lv,e,ts=>match nx ts with
  | none=>if prec=3\/prec=7 then some (.ok e ts) else some (qfC eS ts)
  | some s=>match qjJ prec s with
   | none=>some (.ok e ts)
   | some o=>match qau eS eL f n (prec+1) lv ts.tail with
    | some (.ok e' r)=>if prec=4 then some (.ok (.bin f o e e') r) else qb4 eS eL f n prec lv (.bin f o e e') r
    | x=>x
def qdm (eS eL:Nat) (f:Bool):Nat->Nat->List Tk->Option (Rz E)
 | 0,_,_=>none
 | n+1,lv,ts=>match qfD eS eL (bs [91]) (lv+1) ts with
  | .er i c=>some (.er i c)
  | .ok _ r=>match qau eS eL f n 1 (lv+1) r with
   | some (.ok e r')=>match qcf eS (bs [93]) r' with
    | .ok _ r''=>some (.ok e r'')
    | .er i c=>some (.er i c)
   | x=>x
end
end Go.Pm
end SYa
section SYb
namespace Go.Pm
def qfO {α : Type} (eS:Nat) (a : α) (ts:List Tk):Rz α := match qcf eS (bs [59]) ts with
 | .ok _ r => .ok a r
 | .er i c => .er i c
mutual
def qmF (eS eL:Nat) (f fi fb:Bool):Nat->Nat->List Tk->Option (Rz Ss)
 | 0,_,_=>none
 | n+1,lv,ts=>match nx ts with
  | none=>some (qfC eS ts)
  | some s=>
   if s=bs [105,102] then match qau eS eL f n 1 lv ts.tail with
    | some (.ok c r)=>match qiw eS eL f fi fb n (lv+1) r with
     | some (.ok b r1)=>match nx r1 with
      | none=>some (qfC eS r1)
      | some w=>if w=bs [101,108,115,101] then match qiw eS eL f fi fb n (lv+1) r1.tail with
        | some (.ok b2 r2)=>some (.ok (.cond false fi c (.block fb b (.block fb b2 .nil)) .nil) r2)
        | some (.er i k)=>some (.er i k)
        | none=>none
       else some (.ok (.cond false fi c (.block fb b (.block fb .nil .nil)) .nil) r1)
     | some (.er i k)=>some (.er i k)
     | none=>none
    | some (.er i k)=>some (.er i k)
    | none=>none
   else if s=bs [119,104,105,108,101] then match qau eS eL f n 1 lv ts.tail with
    | some (.ok c r)=>match qiw eS eL f fi fb n (lv+1) r with
     | some (.ok b r1)=>some (.ok (.cond true f c (.block fb b .nil) .nil) r1)
     | some (.er i k)=>some (.er i k)
     | none=>none
    | some (.er i k)=>some (.er i k)
    | none=>none
   else if s=bs [101,102,102,101,99,116] then match qau eS eL f n 1 lv ts.tail with
    | some (.ok a r)=>match qcf eS (bs [44]) r with
     | .ok _ r1=>match qau eS eL f n 1 lv r1 with
      | some (.ok b r2)=>some (qfO eS (.effect f a b .nil) r2)
      | some (.er i k)=>some (.er i k)
      | none=>none
     | .er i k=>some (.er i k)
    | some (.er i k)=>some (.er i k)
    | none=>none
   else if s=bs [115,116,111,112] then some (qfO eS (.stop .nil) ts.tail)
   else if s∈qa0 then match qdm eS eL f n lv ts.tail with
    | some (.ok a r)=>match qcf eS (bs [61]) r with
     | .ok _ r1=>match qau eS eL f n 1 lv r1 with
      | some (.ok b r2)=>some (qfO eS (.store f s a b .nil) r2)
      | some (.er i k)=>some (.er i k)
      | none=>none
     | .er i k=>some (.er i k)
    | some (.er i k)=>some (.er i k)
    | none=>none
   else if qbg qgN s/\s∉qb3 then match qcf eS (bs [61]) ts.tail with
    | .ok _ r1=>match qau eS eL f n 1 lv r1 with
     | some (.ok b r2)=>some (qfO eS (.assign f s b .nil) r2)
     | some (.er i k)=>some (.er i k)
     | none=>none
    | .er i k=>some (.er i k)
   else some (qfC eS ts)
def qiw (eS eL:Nat) (f fi fb:Bool):Nat->Nat->List Tk->Option (Rz Ss)
 | 0,_,_=>none
 | n+1,lv,ts=>match qfD eS eL (bs [123]) lv ts with
  | .er i k=>some (.er i k)
  | .ok _ r=>qjR eS eL f fi fb n lv .nil r
def qjR (eS eL:Nat) (f fi fb:Bool):Nat->Nat->Ss->List Tk->Option (Rz Ss)
 | 0,_,_,_=>none
 | n+1,lv,a,ts=>match nx ts with
  | none=>some (qfC eS ts)
  | some s=>if s=bs [125] then some (.ok a ts.tail) else match qmF eS eL f fi fb n lv ts with
   | some (.ok b r)=>qjR eS eL f fi fb n lv (a.app b) r
   | some (.er i k)=>some (.er i k)
   | none=>none
end
end Go.Pm
end SYb
section SYe
namespace Go.Pm
abbrev byl (s:ByteArray):List UInt8:=s.data.toList
theorem qjY (l:List UInt8):byl (bs l)=l:=by simp[byl,bs]
theorem qiO (s:ByteArray):(byl s).length=s.size:=Array.length_toList
theorem qkz (s:ByteArray) (i:Nat):s[i]?=((byl s).drop i).head?:=by
 rw[List.head?_drop]
 by_cases h:i<s.size
 ·rw[getElem?_pos s i h,List.getElem?_eq_getElem (by rw[qiO]; exact h)]
  simp[byl,ByteArray.getElem_eq_getElem_data]
 ·rw[getElem?_neg s i h,List.getElem?_eq_none (by rw[qiO]; omega)]
end Go.Pm
end SYe
section SYf
namespace Go.Pm
def qki (p:Bool) (t:ByteArray):Bool:=match (byl t).getLast? with
 | some c=>qih c
 | none=>p
def gap (p:Bool) (t:ByteArray):List UInt8:=if p&&qbg qih t then [32] else []
def qng:Bool->List ByteArray->List UInt8
 | _,[]=>[]
 | p,t::ts=>gap p t++(byl t++qng (qki p t) ts)
theorem qfe (p:UInt8->Bool) (t:ByteArray):qbg p t=match (byl t).head? with | some c=>p c | none=>false:=by
 unfold qbg
 rw[qkz,List.drop_zero]
 all_goals (cases (byl t).head?<;>rfl)
def Tg (w:List UInt8):Prop:=
 (∃ c r,w=c::r/\qgN c=true/\(∀ b∈r,qih b=true) /\ ¬ (8<w.length/\bs w∉qa0/\bs w∉qb3)) \/
 (∃ c r,w=c::r/\qdl c=true/\(∀ b∈r,qdl b=true)/\qi5 w<=2147483647) \/
 bs w∈qms \/ ∃ c,w=[c]/\c.toNat∈qnA
def Adj (t u:ByteArray):Prop:=(t≠bs [60]/\t≠bs [62]/\t≠bs [61]/\t≠bs [33])\/(byl u).head?≠some 61
def Ok2:List ByteArray->Prop
 | []=>True
 | t::r=>Tg (byl t)/\(∀ u,r.head?=some u->Adj t u)/\Ok2 r
end Go.Pm
end SYf
section SYg
namespace Go.Pm
variable {eS eL eD:Nat} {f fi fb:Bool}
theorem qc9 : ∀ n:Nat,
  (∀ p lv ts x,qau eS eL f n p lv ts=some x->qau eS eL f (n+1) p lv ts=some x) /\
  (∀ p lv e ts x,qb4 eS eL f n p lv e ts=some x->qb4 eS eL f (n+1) p lv e ts=some x) /\
  (∀ lv ts x,qdm eS eL f n lv ts=some x->qdm eS eL f (n+1) lv ts=some x)
 | 0=>⟨fun p lv ts x h=>by simp[qau] at h,fun p lv e ts x h=>by simp[qb4] at h,fun lv ts x h=>by simp[qdm] at h⟩
 | n+1=>by
  obtain⟨ihe,ihl,ihi⟩:=qc9 n
  refine⟨fun p lv ts x h=>?_,fun p lv e ts x h=>?_,fun lv ts x h=>?_⟩
  ·rw[qau] at h ⊢
   split at h
   ·rename_i c1
    rw[if_pos c1]
    cases ho:qfD eS eL (ustr (p==7)) (lv+1) ts with
    | er i c=>simp only[ho] at h ⊢; exact h
    | ok u r=>
     simp only[ho] at h ⊢
     cases hq:qau eS eL f n p (lv+1) r with
     | none=>simp[hq] at h
     | some y=>rw[ihe _ _ _ _ hq]; rw[hq] at h; exact h
   ·rename_i c1
    rw[if_neg c1]
    split at h
    ·rename_i c2
     rw[if_pos c2]
     cases hq:qau eS eL f n (p+1) lv ts with
     | none=>simp[hq] at h
     | some y=>
      rw[ihe _ _ _ _ hq]; rw[hq] at h
      cases y with
      | er i c=>exact h
      | ok e r=>exact ihl _ _ _ _ _ h
    ·rename_i c2
     rw[if_neg c2]
     cases hn:nx ts with
     | none=>simp only[hn] at h ⊢; exact h
     | some s=>
      simp only[hn] at h ⊢
      split at h
      ·rename_i c; rw[if_pos c]; exact h
      rename_i c; rw[if_neg c]
      split at h
      ·rename_i c; rw[if_pos c]; exact h
      rename_i c; rw[if_neg c]
      split at h
      ·rename_i c; rw[if_pos c]; exact h
      rename_i c; rw[if_neg c]
      split at h
      ·rename_i c; rw[if_pos c]; exact h
      rename_i c; rw[if_neg c]
      split at h
      ·rename_i c; rw[if_pos c]
       cases hq:qdm eS eL f n lv ts.tail with
       | none=>simp[hq] at h
       | some y=>rw[ihi _ _ _ hq]; rw[hq] at h; exact h
      rename_i c; rw[if_neg c]
      split at h
      ·rename_i c; rw[if_pos c]; exact h
      rename_i c; rw[if_neg c]
      cases ho:qfD eS eL (bs [40]) (lv+1) ts with
      | er i c=>simp only[ho] at h ⊢; exact h
      | ok u r=>
       simp only[ho] at h ⊢
       cases hq:qau eS eL f n 1 (lv+1) r with
       | none=>simp[hq] at h
       | some y=>rw[ihe _ _ _ _ hq]; rw[hq] at h; exact h
  ·rw[qb4] at h ⊢
   cases hn:nx ts with
   | none=>simp only[hn] at h ⊢; exact h
   | some s=>
    simp only[hn] at h ⊢
    cases ho:qjJ p s with
    | none=>simp only[ho] at h ⊢; exact h
    | some o=>
     simp only[ho] at h ⊢
     cases hq:qau eS eL f n (p+1) lv ts.tail with
     | none=>simp[hq] at h
     | some y=>
      rw[ihe _ _ _ _ hq]; rw[hq] at h
      cases y with
      | er i c=>exact h
      | ok e' r=>
       simp only at h ⊢
       split at h
       ·rename_i c; rw[if_pos c]; exact h
       ·rename_i c; rw[if_neg c]; exact ihl _ _ _ _ _ h
  ·rw[qdm] at h ⊢
   cases ho:qfD eS eL (bs [91]) (lv+1) ts with
   | er i c=>simp only[ho] at h ⊢; exact h
   | ok u r=>
    simp only[ho] at h ⊢
    cases hq:qau eS eL f n 1 (lv+1) r with
    | none=>simp[hq] at h
    | some y=>rw[ihe _ _ _ _ hq]; rw[hq] at h; exact h
theorem qdI {n m p lv:Nat} {ts:List Tk} {x:Rz E} (h:qau eS eL f n p lv ts=some x) (hm:n<=m):qau eS eL f m p lv ts=some x:=by
 induction hm with
 | refl=>exact h
 | step _ ih=>exact (qc9 _).1 _ _ _ _ ih
theorem qff {n m p lv:Nat} {e:E} {ts:List Tk} {x:Rz E} (h:qb4 eS eL f n p lv e ts=some x) (hm:n<=m):qb4 eS eL f m p lv e ts=some x:=by
 induction hm with
 | refl=>exact h
 | step _ ih=>exact (qc9 _).2.1 _ _ _ _ _ ih
end Go.Pm
end SYg
section SYh
namespace Go.Pm
def qkR:Nat->Nat->List UInt8
 | 0,_=>[]
 | k+1,n=>if n<10 then [(48+n).toUInt8] else qkR k (n / 10)++[(48+n % 10).toUInt8]
def qi1 (n:Nat):List UInt8:=qkR 20 n
theorem qni : ∀ d,d<10->((48+d).toUInt8).toNat=48+d:=by decide
theorem qjp (l:List UInt8) (c:UInt8):qi5 (l++[c])=10*qi5 l+(c.toNat-48):=by simp[qi5]
theorem qgt : ∀ k n,n<10 ^ k->1<=k->qi5 (qkR k n)=n/\(∀ b∈qkR k n,qdl b=true) /\ ∃ c r,qkR k n=c::r
 | 0,n,_,h=>by omega
 | k+1,n,h,_=>by
  rw[qkR]
  split
  ·rename_i hn
   have h1:=qni n hn
   refine⟨by simp only[qi5,List.foldl_cons,List.foldl_nil,h1]; omega,fun b hb=>?_,_,_,rfl⟩
   rw[List.mem_singleton.1 hb]
   simp only[qdl,h1,Bool.and_eq_true,decide_eq_true_eq]
   omega
  ·rename_i hn
   have h1:=qni (n % 10) (by omega)
   have hk:1<=k:=by
    rcases k with _ | k
    ·simp at h; omega
    ·omega
   obtain⟨i1,i2,c,r,i3⟩:=qgt k (n / 10) (by rw[Nat.pow_succ] at h; omega) hk
   refine⟨by rw[qjp,i1,h1]; omega,fun b hb=>?_,c,r++[(48+n % 10).toUInt8],by rw[i3]; rfl⟩
   rcases List.mem_append.1 hb with hb | hb
   ·exact i2 b hb
   ·rw[List.mem_singleton.1 hb]
    simp only[qdl,h1,Bool.and_eq_true,decide_eq_true_eq]
    omega
theorem qgu {n:Nat} (h:n<10 ^ 20):qi5 (qi1 n)=n/\(∀ b∈qi1 n,qdl b=true) /\ ∃ c r,qi1 n=c::r:=qgt 20 n h (by omega)
theorem qhy {n:Nat} (h:n<=2147483647):qbg qdl (bs (qi1 n))=true:=by
 obtain⟨h1,h2,c,r,h3⟩:=qgu (n:=n) (by omega)
 rw[qfe,qjY,h3]
 rw[h3] at h2
 exact h2 c (List.mem_cons_self ..)
def qmK:ByteArray:=bs [116,114,117,101]
def qlB:ByteArray:=bs [102,97,108,115,101]
def qmL:ByteArray:=bs [115,101,108,102]
def qlC:ByteArray:=bs [111,116,104,101,114]
def qmM:ByteArray:=bs [116,105,99,107]
def Bop.prec:Bop->Nat
 | .or=>1 | .and=>2 | .lt | .le | .gt | .ge | .eq | .ne=>4 | .add | .sub=>5 | .mul | .div=>6
def qfS (neg:Bool):Nat:=if neg then 7 else 3
def qgY (b:Bool) (l:List ByteArray):List ByteArray:=if b then bs [40]::(l++[bs [41]]) else l
def Bop.left (o:Bop):Nat:=if o.prec=4 then 5 else o.prec
def E.tx (full:Bool):E->Nat->List ByteArray
 | .int n,_=>[bs (qi1 n.toNat)]
 | .bool n,_=>[if n=0 then qlB else qmK]
 | .var s,_=>[s]
 | .name s,_=>[s]
 | .field _ s e,_=>s::bs [91]::(e.tx full 1++[bs [93]])
 | .un _ neg e,p=>qgY (full||decide (qfS neg<p)) (ustr neg::e.tx full (qfS neg))
 | .bin _ o a b,p=>qgY (full||decide (o.prec<p)) (a.tx full o.left++o.str::b.tx full (o.prec+1))
def E.nest (full:Bool):E->Nat->Nat
 | .field _ _ e,_=>e.nest full 1+1
 | .un _ neg e,p=>e.nest full (qfS neg)+1+if (full||decide (qfS neg<p))=true then 1 else 0
 | .bin _ o a b,p=>max (a.nest full o.left) (b.nest full (o.prec+1))+if (full||decide (o.prec<p))=true then 1 else 0
 | _,_=>0
def E.good:E->Prop
 | .int n=>0<=n/\n<=2147483647
 | .bool n=>n=0\/n=1
 | .var s=>Tg (byl s)/\qbg qgN s=true/\s∉qa0/\s∉qb3
 | .name s=>s=qmL\/s=qlC\/s=qmM
 | .field _ s e=>s∈qa0/\e.good
 | .un _ _ e=>e.good
 | .bin _ _ a b=>a.good/\b.good
def E.fl (f:Bool):E->E
 | .int n => .int n
 | .bool n => .bool n
 | .var s => .var s
 | .name s => .name s
 | .field _ s e => .field f s (e.fl f)
 | .un _ neg e => .un f neg (e.fl f)
 | .bin _ o a b => .bin f o (a.fl f) (b.fl f)
theorem qdK (o:Bop):(o.prec=1/\o.left=1)\/(o.prec=2/\o.left=2)\/(o.prec=4/\o.left=5)\/(o.prec=5/\o.left=5)\/(o.prec=6/\o.left=6):=by cases o<;>simp[Bop.prec,Bop.left]
def Hx:List ByteArray->List Tk->List Tk->Prop
 | [],ts,r=>ts=r
 | x::l,ts,r => ∃ t q,ts=t::q/\t.s=x/\t.bad=0/\Hx l q r
theorem hx_app : ∀ {a b:List ByteArray} {ts r:List Tk},Hx (a++b) ts r ↔ ∃ m,Hx a ts m/\Hx b m r
 | [],b,ts,r=>⟨fun h=>⟨ts,rfl,h⟩,fun ⟨m,h1,h2⟩=>by cases h1; exact h2⟩
 | x::a,b,ts,r=>by
  simp only[List.cons_append,Hx]
  constructor
  ·rintro ⟨t,q,h1,h2,h3,h4⟩
   obtain⟨m,h5,h6⟩:=hx_app.1 h4
   exact⟨m,⟨t,q,h1,h2,h3,h5⟩,h6⟩
  ·rintro ⟨m,⟨t,q,h1,h2,h3,h5⟩,h6⟩
   exact⟨t,q,h1,h2,h3,hx_app.2 ⟨m,h5,h6⟩⟩
theorem qdL {x:ByteArray} {l:List ByteArray} {ts r:List Tk} (h:Hx (x::l) ts r):nx ts=some x/\Hx l ts.tail r:=by
 obtain⟨t,q,h1,h2,h3,h4⟩:=h
 subst h1
 simp[nx,h3,h2]
 exact h4
theorem qeF {eS:Nat} {x:ByteArray} {l:List ByteArray} {ts r:List Tk} (h:Hx (x::l) ts r):qcf eS x ts = .ok () ts.tail:=by
 obtain⟨t,q,h1,h2,h3,h4⟩:=h
 subst h1
 simp[qcf,h3,h2]
theorem qfT {eS eL lv:Nat} {x:ByteArray} {l:List ByteArray} {ts r:List Tk} (h:Hx (x::l) ts r) (hl:lv<=20):qfD eS eL x lv ts = .ok () ts.tail:=by
 rw[qfD,if_neg (by omega)]
 exact qeF h
def Stops (p:Nat) (r:List Tk):Prop := ∃ s,nx r=some s /\ ∀ q,p<=q->qjJ q s=none
theorem Stops.mono {p q:Nat} {r:List Tk} (h:Stops p r) (hq:p<=q):Stops q r:=by
 obtain⟨s,h1,h2⟩:=h
 exact⟨s,h1,fun k hk=>h2 k (by omega)⟩
theorem qjq (o:Bop):qjJ o.prec o.str=some o:=by cases o<;>rfl
theorem qhZ (o:Bop) (q:Nat) (h:q≠o.prec):qjJ q o.str=none:=by
 rcases q with _ | _ | _ | _ | _ | _ | _ | q
 all_goals first | rfl | skip
 all_goals cases o<;>first | rfl | exact absurd rfl h
theorem qiG (full:Bool) : ∀ (e:E),e.good -> ∀ p,∃ x l,e.tx full p=x::l/\(x=ustr false->p<=3)/\(x=ustr true->p<=7)
 | .int n,h,p=>by
  have hd:=qhy (n:=n.toNat) (by have:=h.1; have:=h.2; omega)
  refine⟨_,_,rfl,fun hx=>?_,fun hx=>?_⟩
  all_goals
   rw[hx] at hd
   exact absurd hd (by decide)
 | .bool n,h,p=>by
  refine⟨_,_,rfl,fun hx=>?_,fun hx=>?_⟩
  all_goals split at hx<;>exact absurd hx (by decide)
 | .var s,h,p=>by
  refine⟨_,_,rfl,fun hx=>?_,fun hx=>?_⟩
  all_goals
   have:=h.2.1
   rw[hx] at this
   exact absurd this (by decide)
 | .name s,h,p=>by
  refine⟨_,_,rfl,fun hx=>?_,fun hx=>?_⟩
  all_goals rcases h with rfl | rfl | rfl<;>exact absurd hx (by decide)
 | .field f s e,h,p=>by
  refine⟨_,_,rfl,fun hx=>?_,fun hx=>?_⟩
  all_goals
   have:=h.1
   rw[hx] at this
   exact absurd this (by decide)
 | .un f neg e,h,p=>by
  simp only[E.tx,qgY]
  split
  ·exact⟨_,_,rfl,fun hx=>absurd hx (by decide),fun hx=>absurd hx (by decide)⟩
  ·rename_i hc
   simp only[Bool.or_eq_true,not_or,decide_eq_true_eq,Nat.not_lt] at hc
   refine⟨_,_,rfl,fun hx=>?_,fun hx=>?_⟩
   ·cases neg with
    | true=>exact absurd hx (by decide)
    | false=>exact hc.2
   ·cases neg with
    | true=>exact hc.2
    | false=>exact absurd hx (by decide)
 | .bin f o a b,h,p=>by
  simp only[E.tx,qgY]
  split
  ·exact⟨_,_,rfl,fun hx=>absurd hx (by decide),fun hx=>absurd hx (by decide)⟩
  ·rename_i hc
   simp only[Bool.or_eq_true,not_or,decide_eq_true_eq,Nat.not_lt] at hc
   obtain⟨x,l,h1,h2,h3⟩:=qiG full a h.1 o.left
   refine⟨x,l++o.str::b.tx full (o.prec+1),by rw[h1]; rfl,fun hx=>?_,fun hx=>?_⟩
   ·have:=h2 hx; have:=hc.2
    rcases qdK o with h | h | h | h | h<;>omega
   ·have:=h3 hx; have:=hc.2
    rcases qdK o with h | h | h | h | h<;>omega
section
variable {eS eL:Nat} {f:Bool}
theorem qiH {n q lv:Nat} {ts r:List Tk} {e:E} (h:qau eS eL f n q lv ts=some (.ok e r)) (hq:q<=8) : ∀ (k p:Nat),p+k=q->1<=p->Stops p r ->
  (p<=3->3<q->nx ts≠some (ustr false))->(p<=7->7<q->nx ts≠some (ustr true)) -> ∃ m,qau eS eL f m p lv ts=some (.ok e r)
 | 0,p,hp,h1,_,_,_=>⟨n,by rw[show p=q by omega]; exact h⟩
 | k+1,p,hp,h1,hs,h3,h7=>by
  obtain⟨m,hm⟩:=qiH h hq k (p+1) (by omega) (by omega) (hs.mono (by omega)) (fun a b=>h3 (by omega) b) (fun a b=>h7 (by omega) b)
  refine⟨m+2,?_⟩
  rw[qau,if_neg,if_pos (by omega),qdI hm (Nat.le_succ m)]
  ·obtain⟨s,hs1,hs2⟩:=hs
   simp only[qb4,hs1,hs2 p (Nat.le_refl p)]
  ·rintro (⟨h8,h9⟩ | ⟨h8,h9⟩)
   ·exact h3 (by omega) (by omega) h9
   ·exact h7 (by omega) (by omega) h9
theorem qeG (x:ByteArray) (hx : ∀ q,qjJ q x=none) {p:Nat} {l:List ByteArray} {ts r:List Tk} (h:Hx (x::l) ts r):Stops p ts:=⟨x,(qdL h).1,fun q _=>hx q⟩
theorem qgv (x:ByteArray) (h : ∀ o:Bop,o.str≠x) (q:Nat):qjJ q x=none:=by
 unfold qjJ
 rw[List.find?_eq_none]
 intro o _
 simp[h o]
theorem qhz {lv p:Nat} {ts r:List Tk} {e:E} {l:List ByteArray} (ho:Hx (bs [40]::(l++[bs [41]])) ts r) (hl:lv+1<=20)
  (hb : ∀ mid,Hx l ts.tail mid->Stops 1 mid -> ∃ m,qau eS eL f m 1 (lv+1) ts.tail=some (.ok e mid)) (h1:1<=p) (h8:p<=8) (hs:Stops p r) : ∃ n,qau eS eL f n p lv ts=some (.ok e r):=by
 obtain⟨hn,ht⟩:=qdL ho
 obtain⟨mid,hm1,hm2⟩:=hx_app.1 ht
 have hst:Stops 1 mid:=qeG _ (qgv _ (by intro o; cases o<;>decide)) hm2
 obtain⟨m,hm⟩:=hb mid hm1 hst
 have hx:=qeF (eS:=eS) hm2
 have hend:mid.tail=r:=(qdL hm2).2
 have base:qau eS eL f (m+1) 8 lv ts=some (.ok e r):=by
  rw[qau,if_neg (by rintro (⟨h,_⟩ | ⟨h,_⟩)<;>omega),if_neg (by omega),hn]
  simp only
  rw[if_neg (by decide),if_neg (by decide),if_neg (by decide),if_neg (by decide),if_neg (by decide),if_neg (by decide),qfT ho hl]
  simp only[hm,hx,hend]
 exact qiH base (by omega) (8-p) p (by omega) h1 hs (fun _ _=>by rw[hn]; decide) (fun _ _=>by rw[hn]; decide)
theorem rb (full:Bool) : ∀ e:E,e.good ->
  (∀ p lv ts r,1<=p->p<=8->Hx (e.tx full p) ts r->lv+e.nest full p<=20->Stops p r -> ∃ n,qau eS eL f n p lv ts=some (.ok (e.fl f) r)) /\
  (∀ q lv ts r,1<=q->q<=6->q≠4->q≠3->Hx (e.tx full q) ts r->lv+e.nest full q<=20->Stops (q+1) r ->
   ∃ n e0 r0,qau eS eL f n (q+1) lv ts=some (.ok e0 r0) /\ ∀ m x,qb4 eS eL f m q lv (e.fl f) r=some x -> ∃ m',qb4 eS eL f m' q lv e0 r0=some x):=by
 have prim : ∀ (e:E) (x:ByteArray) lv ts r,(∃ n,qau eS eL f n 8 lv ts=some (.ok (e.fl f) r))->nx ts=some x->x≠ustr false->x≠ustr true ->
   (∀ p,1<=p->p<=8->Stops p r -> ∃ n,qau eS eL f n p lv ts=some (.ok (e.fl f) r)):=fun e x lv ts r ⟨n,hn⟩ hx h1 h2 p hp1 hp8 hs=>
  qiH hn (by omega) (8-p) p (by omega) hp1 hs (fun _ _ h=>h1 (by rw[hx] at h; exact Option.some.inj h)) (fun _ _ h=>h2 (by rw[hx] at h; exact Option.some.inj h))
 have self : ∀ (e:E) q lv ts r,(∃ n,qau eS eL f n (q+1) lv ts=some (.ok (e.fl f) r)) -> ∃ n e0 r0,qau eS eL f n (q+1) lv ts=some (.ok e0 r0) /\ ∀ m x,qb4 eS eL f m q lv (e.fl f) r=some x -> ∃ m',qb4 eS eL f m' q lv e0 r0=some x:=
  fun e q lv ts r ⟨n,hn⟩=>⟨n,_,_,hn,fun m x h=>⟨m,h⟩⟩
 intro e
 induction e with
 | int n=>
  intro hg
  obtain⟨g1,g2⟩:=hg
  have hd:=qhy (n:=n.toNat) (by omega)
  have A : ∀ p lv ts r,1<=p->p<=8->Hx ((E.int n).tx full p) ts r->lv+(E.int n).nest full p<=20->Stops p r -> ∃ k,qau eS eL f k p lv ts=some (.ok ((E.int n).fl f) r):=fun p lv ts r h1 h8 hx _ hs=>by
   obtain⟨hn,ht⟩:=qdL hx
   cases ht
   have n1:bs (qi1 n.toNat)≠ustr false:=by intro h; rw[h] at hd; exact absurd hd (by decide)
   have n2:bs (qi1 n.toNat)≠ustr true:=by intro h; rw[h] at hd; exact absurd hd (by decide)
   refine prim (.int n) _ lv ts _ ⟨1,?_⟩ hn n1 n2 p h1 h8 hs
   rw[qau,if_neg (by rintro (⟨h,_⟩ | ⟨h,_⟩)<;>omega),if_neg (by omega),hn]
   simp only
   rw[if_pos hd,ByteArray.toList_eq]
   have:=(qgu (n:=n.toNat) (by omega)).1
   rw[show (bs (qi1 n.toNat)).data.toList=qi1 n.toNat from qjY _,this,show ((n.toNat:Nat):Int)=n by omega]
   rfl
  exact⟨A,fun q lv ts r h1 h6 _ _ hx hl hs=>self _ q lv ts r (A (q+1) lv ts r (by omega) (by omega) hx hl hs)⟩
 | bool n=>
  intro hg
  have A : ∀ p lv ts r,1<=p->p<=8->Hx ((E.bool n).tx full p) ts r->lv+(E.bool n).nest full p<=20->Stops p r -> ∃ k,qau eS eL f k p lv ts=some (.ok ((E.bool n).fl f) r):=fun p lv ts r h1 h8 hx _ hs=>by
   obtain⟨hn,ht⟩:=qdL hx
   cases ht
   refine prim (.bool n) _ lv ts _ ⟨1,?_⟩ hn (by split<;>decide) (by split<;>decide) p h1 h8 hs
   rw[qau,if_neg (by rintro (⟨h,_⟩ | ⟨h,_⟩)<;>omega),if_neg (by omega),hn]
   rcases hg with rfl | rfl
   ·simp only[if_true]
    rw[if_neg (by decide),if_neg (by decide),if_pos (by rfl)]; rfl
   ·rw[if_neg (by decide)]
    simp only
    rw[if_neg (by decide),if_pos (by rfl)]; rfl
  exact⟨A,fun q lv ts r h1 h6 _ _ hx hl hs=>self _ q lv ts r (A (q+1) lv ts r (by omega) (by omega) hx hl hs)⟩
 | var s=>
  intro hg
  obtain⟨g1,g2,g3,g4⟩:=hg
  have A : ∀ p lv ts r,1<=p->p<=8->Hx ((E.var s).tx full p) ts r->lv+(E.var s).nest full p<=20->Stops p r -> ∃ k,qau eS eL f k p lv ts=some (.ok ((E.var s).fl f) r):=fun p lv ts r h1 h8 hx _ hs=>by
   obtain⟨hn,ht⟩:=qdL hx
   cases ht
   have n1:s≠ustr false:=by rintro rfl; exact absurd g2 (by decide)
   have n2:s≠ustr true:=by rintro rfl; exact absurd g2 (by decide)
   refine prim (.var s) _ lv ts _ ⟨1,?_⟩ hn n1 n2 p h1 h8 hs
   have nd : ¬ qbg qdl s=true:=by
    rw[qfe] at g2 ⊢
    cases hh:(byl s).head? with
    | none=>simp
    | some c=>
     rw[hh] at g2
     simp only[qdl,qgN,Bool.and_eq_true,decide_eq_true_eq] at g2 ⊢
     omega
   have w : ∀ x∈qb3,s≠x:=fun x hx he=>g4 (he ▸ hx)
   rw[qau,if_neg (by rintro (⟨h,_⟩ | ⟨h,_⟩)<;>omega),if_neg (by omega),hn]
   simp only
   rw[if_neg nd,if_neg (w _ (by decide)),if_neg (w _ (by decide)),if_neg (by
    rintro (h | h | h)
    ·exact w _ (by decide) h
    ·exact w _ (by decide) h
    ·exact w _ (by decide) h),if_neg g3,if_pos ⟨g2,g4⟩]
   rfl
  exact⟨A,fun q lv ts r h1 h6 _ _ hx hl hs=>self _ q lv ts r (A (q+1) lv ts r (by omega) (by omega) hx hl hs)⟩
 | name s=>
  intro hg
  have A : ∀ p lv ts r,1<=p->p<=8->Hx ((E.name s).tx full p) ts r->lv+(E.name s).nest full p<=20->Stops p r -> ∃ k,qau eS eL f k p lv ts=some (.ok ((E.name s).fl f) r):=fun p lv ts r h1 h8 hx _ hs=>by
   obtain⟨hn,ht⟩:=qdL hx
   cases ht
   refine prim (.name s) _ lv ts _ ⟨1,?_⟩ hn (by rcases hg with rfl | rfl | rfl<;>decide) (by rcases hg with rfl | rfl | rfl<;>decide) p h1 h8 hs
   rw[qau,if_neg (by rintro (⟨h,_⟩ | ⟨h,_⟩)<;>omega),if_neg (by omega),hn]
   rcases hg with rfl | rfl | rfl<;>simp only<;>rw[if_neg (by decide),if_neg (by decide),if_neg (by decide),if_pos (by decide)]<;>rfl
  exact⟨A,fun q lv ts r h1 h6 _ _ hx hl hs=>self _ q lv ts r (A (q+1) lv ts r (by omega) (by omega) hx hl hs)⟩
 | field g s e ih=>
  intro hg
  obtain⟨g1,g2⟩:=hg
  have ihA:=(ih g2).1
  have A : ∀ p lv ts r,1<=p->p<=8->Hx ((E.field g s e).tx full p) ts r->lv+(E.field g s e).nest full p<=20->Stops p r -> ∃ k,qau eS eL f k p lv ts=some (.ok ((E.field g s e).fl f) r):=fun p lv ts r h1 h8 hx hl hs=>by
   obtain⟨hn,ht⟩:=qdL hx
   obtain⟨hn2,ht2⟩:=qdL ht
   obtain⟨mid,hm1,hm2⟩:=hx_app.1 ht2
   simp only[E.nest] at hl
   have hst:Stops 1 mid:=qeG _ (qgv _ (by intro o; cases o<;>decide)) hm2
   obtain⟨k,hk⟩:=ihA 1 (lv+1) _ mid (by omega) (by omega) hm1 (by omega) hst
   have hx2:=qeF (eS:=eS) hm2
   have hend:mid.tail=r:=(qdL hm2).2
   have hi:qdm eS eL f (k+1) lv ts.tail=some (.ok (e.fl f) r):=by
    rw[qdm,qfT ht (by omega)]
    simp only[hk,hx2,hend]
   have hs' : ∀ x:ByteArray,x∉qa0->s≠x:=fun x hx he=>hx (he ▸ g1)
   refine prim (.field g s e) _ lv ts _ ⟨k+2,?_⟩ hn (hs' _ (by decide)) (hs' _ (by decide)) p h1 h8 hs
   have nd : ¬ qbg qdl s=true:=by
    simp only[qa0,List.mem_cons,List.not_mem_nil,or_false] at g1
    rcases g1 with h | h | h | h | h | h | h | h<;>rw[h]<;>decide
   rw[qau,if_neg (by rintro (⟨h,_⟩ | ⟨h,_⟩)<;>omega),if_neg (by omega),hn]
   simp only
   rw[if_neg nd,if_neg (hs' _ (by decide)),if_neg (hs' _ (by decide)),if_neg (by
    rintro (h | h | h)
    ·exact hs' _ (by decide) h
    ·exact hs' _ (by decide) h
    ·exact hs' _ (by decide) h),if_pos g1,hi]
   rfl
  exact⟨A,fun q lv ts r h1 h6 _ _ hx hl hs=>self _ q lv ts r (A (q+1) lv ts r (by omega) (by omega) hx hl hs)⟩
 | un g neg e ih=>
  intro hg
  have ihA:=(ih hg).1
  have bare : ∀ lv ts r,Hx (ustr neg::e.tx full (qfS neg)) ts r->lv+e.nest full (qfS neg)+1<=20 -> ∀ p,1<=p->p<=qfS neg->Stops p r -> ∃ k,qau eS eL f k p lv ts=some (.ok ((E.un g neg e).fl f) r):=fun lv ts r hx hl p h1 hp hs=>by
   obtain⟨hn,ht⟩:=qdL hx
   obtain⟨k,hk⟩:=ihA (qfS neg) (lv+1) _ r (by cases neg<;>decide) (by cases neg<;>decide) ht (by omega) (hs.mono hp)
   have base:qau eS eL f (k+1) (qfS neg) lv ts=some (.ok ((E.un g neg e).fl f) r):=by
    rw[qau]
    cases neg with
    | false=>
     rw[if_pos (.inl ⟨rfl,hn⟩)]
     simp only[qfS,Bool.false_eq_true,if_false] at hk ⊢
     rw[show ustr ((3:Nat)==7)=ustr false from rfl,qfT hx (by omega)]
     simp only[hk]
     rfl
    | true=>
     rw[if_pos (.inr ⟨rfl,hn⟩)]
     simp only[qfS,if_true] at hk ⊢
     rw[show ustr ((7:Nat)==7)=ustr true from rfl,qfT hx (by omega)]
     simp only[hk]
     rfl
   refine qiH base (by cases neg<;>decide) (qfS neg-p) p (by omega) h1 hs (fun a b=>?_) (fun a b=>?_)
   ·cases neg with
    | false=>exact absurd b (by decide)
    | true=>rw[hn]; decide
   ·cases neg<;>exact absurd b (by decide)
  have A : ∀ p lv ts r,1<=p->p<=8->Hx ((E.un g neg e).tx full p) ts r->lv+(E.un g neg e).nest full p<=20->Stops p r -> ∃ k,qau eS eL f k p lv ts=some (.ok ((E.un g neg e).fl f) r):=fun p lv ts r h1 h8 hx hl hs=>by
   simp only[E.tx,E.nest,qgY] at hx hl
   by_cases c:(full||decide (qfS neg<p))=true
   ·rw[if_pos c] at hx hl
    exact qhz hx (by omega) (fun mid hm hst=>bare (lv+1) _ mid hm (by omega) 1 (by omega) (by cases neg<;>decide) hst) h1 h8 hs
   ·rw[if_neg c] at hx hl
    simp only[Bool.or_eq_true,not_or,decide_eq_true_eq,Nat.not_lt] at c
    exact bare lv ts r hx (by omega) p h1 c.2 hs
  refine⟨A,fun q lv ts r h1 h6 h4 h3 hx hl hs=>self _ q lv ts r (A (q+1) lv ts r (by omega) (by omega) ?_ ?_ hs)⟩
  ·have:(decide (qfS neg<q+1))=decide (qfS neg<q):=by
    rw[decide_eq_decide]; cases neg<;>simp only[qfS]<;>constructor<;>intro h<;>simp at h ⊢ <;> omega
   simp only[E.tx,this] at hx ⊢
   exact hx
  ·have:(decide (qfS neg<q+1))=decide (qfS neg<q):=by
    rw[decide_eq_decide]; cases neg<;>simp only[qfS]<;>constructor<;>intro h<;>simp at h ⊢ <;> omega
   simp only[E.nest,this] at hl ⊢
   exact hl
 | bin g o a b iha ihb=>
  intro hg
  obtain⟨aA,aB⟩:=iha hg.1
  obtain⟨bA,-⟩:=ihb hg.2
  have hp:=qdK o
  have loop : ∀ lv ts r,Hx (a.tx full o.left++o.str::b.tx full (o.prec+1)) ts r->lv+max (a.nest full o.left) (b.nest full (o.prec+1))<=20->Stops (o.prec+1) r ->
    ∃ n e0 r0,qau eS eL f n (o.prec+1) lv ts=some (.ok e0 r0)/\(∀ m x,(if o.prec=4 then some (.ok ((E.bin g o a b).fl f) r) else qb4 eS eL f m o.prec lv ((E.bin g o a b).fl f) r)=some x -> ∃ m',qb4 eS eL f m' o.prec lv e0 r0=some x):=fun lv ts r hx hl hs=>by
   obtain⟨mid,hm1,hm2⟩:=hx_app.1 hx
   obtain⟨hn,ht⟩:=qdL hm2
   have hst:Stops (o.prec+1) mid:=⟨_,hn,fun q hq=>qhZ o q (by omega)⟩
   obtain⟨k,hk⟩:=bA (o.prec+1) lv _ r (by omega) (by omega) ht (by omega) hs
   have fin : ∀ m x,(if o.prec=4 then some (.ok ((E.bin g o a b).fl f) r) else qb4 eS eL f m o.prec lv ((E.bin g o a b).fl f) r)=some x -> ∃ m',qb4 eS eL f m' o.prec lv (a.fl f) mid=some x:=fun m x h=>by
    refine⟨max k m+1,?_⟩
    rw[qb4,hn]
    simp only[qjq]
    rw[qdI hk (Nat.le_max_left k m)]
    simp only
    by_cases c:o.prec=4
    ·rw[if_pos c] at h ⊢; exact h
    ·rw[if_neg c] at h ⊢; exact qff h (Nat.le_max_right k m)
   by_cases c:o.prec=4
   ·have hleft:o.left=o.prec+1:=by omega
    obtain⟨n,hn'⟩:=aA (o.prec+1) lv ts mid (by omega) (by omega) (hleft ▸ hm1) (by rw[<- hleft]; omega) hst
    exact⟨n,_,_,hn',fin⟩
   ·have hleft:o.left=o.prec:=by omega
    rw[hleft] at hm1 hl
    obtain⟨n,e0,r0,h1,h2⟩:=aB o.prec lv ts mid (by omega) (by omega) c (by omega) hm1 (by omega) hst
    refine⟨n,e0,r0,h1,fun m x h=>?_⟩
    obtain⟨m',hm'⟩:=fin m x h
    exact h2 m' x hm'
  have bare : ∀ lv ts r,Hx (a.tx full o.left++o.str::b.tx full (o.prec+1)) ts r->lv+max (a.nest full o.left) (b.nest full (o.prec+1))<=20 -> ∀ p,1<=p->p<=o.prec->Stops p r -> ∃ k,qau eS eL f k p lv ts=some (.ok ((E.bin g o a b).fl f) r):=fun lv ts r hx hl p h1 hpo hs=>by
   obtain⟨n,e0,r0,h2,h3⟩:=loop lv ts r hx hl (hs.mono (by omega))
   have hend:qb4 eS eL f 1 o.prec lv ((E.bin g o a b).fl f) r=some (.ok ((E.bin g o a b).fl f) r):=by
    obtain⟨s,hs1,hs2⟩:=hs
    simp only[qb4,hs1,hs2 o.prec hpo]
   obtain⟨m',hm'⟩:=h3 1 _ (by split<;>first | rfl | exact hend)
   obtain⟨x,l,q1,q2,q3⟩:=qiG full a hg.1 o.left
   have hnx:nx ts=some x:=by
    rw[q1] at hx
    exact (qdL hx).1
   have base:qau eS eL f (max n m'+1) o.prec lv ts=some (.ok ((E.bin g o a b).fl f) r):=by
    rw[qau,if_neg (by rintro (⟨h,_⟩ | ⟨h,_⟩)<;>omega),if_pos (by omega),qdI h2 (Nat.le_max_left n m')]
    exact qff hm' (Nat.le_max_right n m')
   refine qiH base (by omega) (o.prec-p) p (by omega) h1 hs (fun c1 c2 h=>?_) (fun c1 c2=>by omega)
   have:=q2 (Option.some.inj (hnx.symm.trans h))
   omega
  have A : ∀ p lv ts r,1<=p->p<=8->Hx ((E.bin g o a b).tx full p) ts r->lv+(E.bin g o a b).nest full p<=20->Stops p r -> ∃ k,qau eS eL f k p lv ts=some (.ok ((E.bin g o a b).fl f) r):=fun p lv ts r h1 h8 hx hl hs=>by
   simp only[E.tx,E.nest,qgY] at hx hl
   by_cases c:(full||decide (o.prec<p))=true
   ·rw[if_pos c] at hx hl
    exact qhz hx (by omega) (fun mid hm hst=>bare (lv+1) _ mid hm (by omega) 1 (by omega) (by omega) hst) h1 h8 hs
   ·rw[if_neg c] at hx hl
    simp only[Bool.or_eq_true,not_or,decide_eq_true_eq,Nat.not_lt] at c
    exact bare lv ts r hx (by omega) p h1 c.2 hs
  refine⟨A,fun q lv ts r h1 h6 h4 h3 hx hl hs=>?_⟩
  by_cases c:full=false/\o.prec=q
  ·obtain⟨c1,rfl⟩:=c
   have hf : ¬ (full||decide (o.prec<o.prec))=true:=by simp[c1]
   simp only[E.tx,E.nest,qgY,if_neg hf] at hx hl
   obtain⟨n,e0,r0,h5,h7⟩:=loop lv ts r hx (by omega) hs
   exact⟨n,e0,r0,h5,fun m x h=>h7 m x (by rw[if_neg h4]; exact h)⟩
  ·have hd:(full||decide (o.prec<q+1))=(full||decide (o.prec<q)):=by
    cases full with
    | true=>rfl
    | false=>
     have:o.prec≠q:=fun h=>c ⟨rfl,h⟩
     simp only[Bool.false_or,decide_eq_decide]
     omega
   refine self _ q lv ts r (A (q+1) lv ts r (by omega) (by omega) ?_ ?_ hs)
   ·simp only[E.tx,hd] at hx ⊢
    exact hx
   ·simp only[E.nest,hd] at hl ⊢
    exact hl
end
end Go.Pm
end SYh
section SYi
namespace Go.Pm
def ifS:ByteArray:=bs [105,102]
def qmH:ByteArray:=bs [101,108,115,101]
def qlz:ByteArray:=bs [119,104,105,108,101]
def qkk:ByteArray:=bs [101,102,102,101,99,116]
def qmI:ByteArray:=bs [115,116,111,112]
def qlA:Ss->Bool
 | .block _ .nil _=>false
 | .block _ _ _=>true
 | _=>false
def Ss.tx:Ss->List ByteArray
 | .nil=>[]
 | .assign _ s e r=>s::bs [61]::(e.tx false 1++(bs [59]::r.tx))
 | .store _ s a b r=>s::bs [91]::(a.tx false 1++(bs [93]::bs [61]::(b.tx false 1++(bs [59]::r.tx))))
 | .effect _ a b r=>qkk::(a.tx false 1++(bs [44]::(b.tx false 1++(bs [59]::r.tx))))
 | .stop r=>qmI::bs [59]::r.tx
 | .cond w _ c b r=>(if w then qlz else ifS)::(c.tx false 1++(b.tx++r.tx))
 | .block _ b r=>bs [123]::(b.tx++(bs [125]::(if qlA r then qmH::r.tx else [])))
def qmJ (s:ByteArray):Prop:=Tg (byl s)/\qbg qgN s=true/\s∉qa0/\s∉qb3
def Ss.good:Ss->Option Nat->Prop
 | .nil,m=>m=none\/m=some 0
 | .assign _ s e r,m=>m=none/\qmJ s/\e.good/\r.good none
 | .store _ s a b r,m=>m=none/\s∈qa0/\a.good/\b.good/\r.good none
 | .effect _ a b r,m=>m=none/\a.good/\b.good/\r.good none
 | .stop r,m=>m=none/\r.good none
 | .cond w _ c b r,m=>m=none/\c.good/\b.good (some (if w then 1 else 2))/\r.good none
 | .block _ b r,m => ∃ n,m=some (n+1)/\b.good none/\r.good (some n)
def Ss.nest:Ss->Nat
 | .nil=>0
 | .assign _ _ e r=>max (e.nest false 1) r.nest
 | .store _ _ a b r=>max (a.nest false 1+1) (max (b.nest false 1) r.nest)
 | .effect _ a b r=>max (a.nest false 1) (max (b.nest false 1) r.nest)
 | .stop r=>r.nest
 | .cond _ _ c b r=>max (c.nest false 1) (max (b.nest+1) r.nest)
 | .block _ b r=>max b.nest r.nest
def Ss.fl (f fi fb:Bool):Ss->Ss
 | .nil => .nil
 | .assign _ s e r => .assign f s (e.fl f) (r.fl f fi fb)
 | .store _ s a b r => .store f s (a.fl f) (b.fl f) (r.fl f fi fb)
 | .effect _ a b r => .effect f (a.fl f) (b.fl f) (r.fl f fi fb)
 | .stop r => .stop (r.fl f fi fb)
 | .cond w _ c b r => .cond w (if w then f else fi) (c.fl f) (b.fl f fi fb) (r.fl f fi fb)
 | .block _ b r => .block fb (b.fl f fi fb) (r.fl f fi fb)
end Go.Pm
end SYi
section SYj
namespace Go.Pm
def qnE (u:ByteArray):Prop:=(byl u).head?≠some 61
def qnF (t:ByteArray):Prop:=t≠bs [60]/\t≠bs [62]/\t≠bs [61]/\t≠bs [33]
structure Cl (l:List ByteArray):Prop where
 ok:Ok2 l
 st : ∀ u,l.head?=some u->qnE u
 en : ∀ t,l.getLast?=some t->qnF t
end Go.Pm
end SYj
section SUa
namespace Go.Pm
def Fo.eqv:Fo->Fo->Bool
 | .nil,.nil=>true
 | .cons k n s _ ks r,.cons k' n' s' _ ks' r'=>(decide (k=k')&&(decide (n=n')&&decide (s=s')))&&(ks.eqv ks'&&r.eqv r')
 | _,_=>false
theorem qg9 : ∀ {a b:Fo},a.eqv b=true->a.len=b.len
 | .nil,.nil,_=>rfl
 | .cons ..,.cons ..,h=>by
  simp only[Fo.eqv,Bool.and_eq_true] at h
  simp[qg9 h.2.2]
 | .nil,.cons ..,h=>by cases h
 | .cons ..,.nil,h=>by cases h
theorem qf1 : ∀ a:Fo,a.eqv a=true
 | .nil=>rfl
 | .cons k n s f ks r=>by simp[Fo.eqv,qf1 ks,qf1 r]
theorem qf2 : ∀ {a b:Fo},a.eqv b=b.eqv a
 | .nil,.nil=>rfl
 | .cons k n s f ks r,.cons k' n' s' f' ks' r'=>by
  simp only[Fo.eqv,qf2 (a:=ks),qf2 (a:=r),eq_comm (a:=k),eq_comm (a:=n),eq_comm (a:=s)]
 | .nil,.cons .. => rfl
 | .cons ..,.nil=>rfl
def Rz.map {α β : Type} (k : α -> β):Rz α -> Rz β
 | .ok a r => .ok (k a) r
 | .er i c => .er i c
end Go.Pm
end SUa
section SFX
namespace Go.Pm.F
@[simp] abbrev sN:D := .lit (.slice none 0 0)
@[simp] abbrev eN:D := .lit (.string ⟨#[]⟩)
@[simp] abbrev zN:D := .lit (.int .i64 0)
@[simp] abbrev ii (n:Int):D := .lit (.int .i64 n)
@[simp] abbrev kk (n:Int):X := .c (.int .i64 n)
@[simp] abbrev kT:X := .c (.bool true)
@[simp] abbrev kF:X := .c (.bool false)
@[simp] abbrev jj (d:Nat) (o:O):I:=⟨some d,o,none,[]⟩
@[simp] abbrev jn (o:O):I:=⟨none,o,none,[]⟩
@[simp] abbrev jt (d g:Nat) (o:O):I:=⟨some d,o,some (g,true),[]⟩
@[simp] abbrev jf (d g:Nat) (o:O):I:=⟨some d,o,some (g,false),[]⟩
@[simp] abbrev mv (d a:Nat):I:=⟨some d,.mov (.t a),none,[]⟩
@[simp] abbrev mx (d:Nat) (x:X):I:=⟨some d,.mov x,none,[]⟩
@[simp] abbrev l1 (d a:Nat):I:=⟨some d,.load false 1 (.t a),none,[]⟩
@[simp] abbrev la (d n a:Nat):I:=⟨some d,.load true n (.t a),none,[]⟩
@[simp] abbrev fa (d o a:Nat):I:=⟨some d,.fieldAddr o (.t a),none,[]⟩
@[simp] abbrev nc (d a:Nat):I:=⟨some d,.nilchk (.t a),none,[]⟩
@[simp] abbrev bx (d a:Nat):I:=⟨some d,.box (.t a),none,[]⟩
@[simp] abbrev ex (d a n:Nat):I:=⟨some d,.extract (.t a) n,none,[]⟩
@[simp] abbrev ls (d a:Nat):I:=⟨some d,.len .sl (.t a),none,[]⟩
@[simp] abbrev lz (d a:Nat):I:=⟨some d,.len .str (.t a),none,[]⟩
@[simp] abbrev bn (d:Nat) (o:BinOp) (a b:Nat):I:=⟨some d,.bin o (.t a) (.t b),none,[]⟩
@[simp] abbrev bk (d:Nat) (o:BinOp) (a:Nat) (n:Int):I:=⟨some d,.bin o (.t a) (.c (.int .i64 n)),none,[]⟩
@[simp] abbrev st (n a b:Nat):I:=⟨none,.store n (.t a) (.t b),none,[]⟩
@[simp] abbrev cl (d f:Nat) (xs:List Nat):I:=⟨some d,.call f (xs.map .t),none,[]⟩
@[simp] abbrev rn (ops:List I) (keep:List Nat) (lasts:List Nat:=[]):PC := .region none ops keep lasts
end Go.Pm.F
end SFX
