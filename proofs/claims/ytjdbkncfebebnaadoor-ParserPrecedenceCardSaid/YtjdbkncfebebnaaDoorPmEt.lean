/- Trees of rule programs: expressions, statements, rows of nodes, as the abstract machine's data; names. No program in sight. The rule language in plain Lean: tokens of a source, the parser over them. No program in sight. The rule language in plain Lean: statements, blocks, programs. No program in sight. The plain parser ends. The plain parser of statements and programs ends. The rule language in plain Lean: tokens over lists of bytes. No program in sight. The rule language in plain Lean: a source written down from its tokens is read back. No program in sight. The rule language in plain Lean: more steps change no result. No program in sight. -/
import Derived.Test.YtjdbkncfebebnaaDoorPmY
import Derived.Laws.Strings
import Derived.KernelRfl
set_option linter.unusedSimpArgs false
set_option linter.unusedVariables false
section SEt
namespace Go.Pm
inductive Bop where
 | add | sub | mul | div | lt | le | gt | ge | eq | ne | and | or
def Bop.str:Bop->ByteArray
 | .add=>⟨#[43]⟩ | .sub=>⟨#[45]⟩ | .mul=>⟨#[42]⟩ | .div=>⟨#[47]⟩
 | .lt=>⟨#[60]⟩ | .le=>⟨#[60,61]⟩ | .gt=>⟨#[62]⟩ | .ge=>⟨#[62,61]⟩ | .eq=>⟨#[61,61]⟩ | .ne=>⟨#[33,61]⟩
 | .and=>⟨#[38,38]⟩ | .or=>⟨#[124,124]⟩
def Bop.opd:Bop->Int
 | .and | .or=>2
 | _=>1
def Bop.res:Bop->Int
 | .add | .sub | .mul | .div=>1
 | _=>2
def ustr (neg:Bool):ByteArray:=if neg then ⟨#[45]⟩ else ⟨#[33]⟩
inductive E where
 | int (n:Int)
 | bool (n:Int)
 | var (s:ByteArray)
 | name (s:ByteArray)
 | field (f:Bool) (s:ByteArray) (e:E)
 | un (f:Bool) (neg:Bool) (e:E)
 | bin (f:Bool) (o:Bop) (a b:E)
def E.kind:E->Int
 | .int _=>8 | .bool _=>9 | .var _=>10 | .field .. => 11 | .name _=>12 | .un .. => 13 | .bin .. => 14
def E.num:E->Int
 | .int n=>n | .bool n=>n | _=>0
def E.str:E->ByteArray
 | .var s=>s | .name s=>s | .field _ s _=>s | .un _ neg _=>ustr neg | .bin _ o _ _=>o.str | _=>⟨#[]⟩
def E.kids:E->D
 | .field f _ e => .sl [.lit (.int .i64 e.kind),.lit (.int .i64 e.num),.lit (.string e.str),e.kids] 1 f
 | .un f _ e => .sl [.lit (.int .i64 e.kind),.lit (.int .i64 e.num),.lit (.string e.str),e.kids] 1 f
 | .bin f _ a b => .sl [.lit (.int .i64 a.kind),.lit (.int .i64 a.num),.lit (.string a.str),a.kids,.lit (.int .i64 b.kind),.lit (.int .i64 b.num),.lit (.string b.str),b.kids] 2 f
 | _ => .lit (.slice none 0 0)
@[simp] theorem qkz (e:E):V.one (.dat e.kids)=true:=by cases e<;>rfl
@[simp] theorem qhj (e:E):V.cells (.dat e.kids)=[.dat e.kids]:=by cases e<;>rfl
abbrev E.node (e:E):V := .dat (.agg [.lit (.int .i64 e.kind),.lit (.int .i64 e.num),.lit (.string e.str),e.kids])
def E.size:E->Nat
 | .field _ _ e=>e.size+1
 | .un _ _ e=>e.size+1
 | .bin _ _ a b=>a.size+b.size+1
 | _=>1
@[simp] theorem qnN (n:Int):E.size (.int n)=1:=rfl
@[simp] theorem qmr (n:Int):E.size (.bool n)=1:=rfl
@[simp] theorem qnO (s:ByteArray):E.size (.var s)=1:=rfl
@[simp] theorem qms (s:ByteArray):E.size (.name s)=1:=rfl
@[simp] theorem qhk (f:Bool) (s:ByteArray) (e:E):E.size (.field f s e)=e.size+1:=rfl
@[simp] theorem qjD (f neg:Bool) (e:E):E.size (.un f neg e)=e.size+1:=rfl
@[simp] theorem qfR (f:Bool) (o:Bop) (a b:E):E.size (.bin f o a b)=a.size+b.size+1:=rfl
def E.ok:E->Prop
 | .var s=>s.size<=100
 | .field _ _ e=>e.ok
 | .un _ _ e=>e.ok
 | .bin _ _ a b=>a.ok/\b.ok
 | _=>True
def E.ty:E->Int
 | .int _ | .var _ | .name _=>1
 | .bool _=>2
 | .field _ _ e=>if e.ty=1 then 1 else 0
 | .un _ neg e=>if e.ty=(if neg then 1 else 2) then (if neg then 1 else 2) else 0
 | .bin _ o a b=>if a.ty=o.opd/\b.ty=o.opd then o.res else 0
@[simp] theorem qrC (n:Int):E.kind (.int n)=8:=rfl
@[simp] theorem qsC (n:Int):E.num (.int n)=n:=rfl
@[simp] theorem qsD (n:Int):E.str (.int n)=⟨#[]⟩:=rfl
@[simp] theorem qrD (n:Int):E.kids (.int n) = .lit (.slice none 0 0):=rfl
@[simp] theorem qs2 (n:Int):E.ty (.int n)=1:=rfl
@[simp] theorem qq6 (n:Int):E.kind (.bool n)=9:=rfl
@[simp] theorem qrE (n:Int):E.num (.bool n)=n:=rfl
@[simp] theorem qrF (n:Int):E.str (.bool n)=⟨#[]⟩:=rfl
@[simp] theorem qq7 (n:Int):E.kids (.bool n) = .lit (.slice none 0 0):=rfl
@[simp] theorem qsE (n:Int):E.ty (.bool n)=2:=rfl
@[simp] theorem qrG (s:ByteArray):E.kind (.var s)=10:=rfl
@[simp] theorem qsF (s:ByteArray):E.num (.var s)=0:=rfl
@[simp] theorem qsG (s:ByteArray):E.str (.var s)=s:=rfl
@[simp] theorem qrH (s:ByteArray):E.kids (.var s) = .lit (.slice none 0 0):=rfl
@[simp] theorem qs3 (s:ByteArray):E.ty (.var s)=1:=rfl
@[simp] theorem qq8 (s:ByteArray):E.kind (.name s)=12:=rfl
@[simp] theorem qrI (s:ByteArray):E.num (.name s)=0:=rfl
@[simp] theorem qrJ (s:ByteArray):E.str (.name s)=s:=rfl
@[simp] theorem qq9 (s:ByteArray):E.kids (.name s) = .lit (.slice none 0 0):=rfl
@[simp] theorem qsH (s:ByteArray):E.ty (.name s)=1:=rfl
@[simp] theorem qpS (f:Bool) (s:ByteArray) (e:E):E.kind (.field f s e)=11:=rfl
@[simp] theorem qra (f:Bool) (s:ByteArray) (e:E):E.num (.field f s e)=0:=rfl
@[simp] theorem qrb (f:Bool) (s:ByteArray) (e:E):E.str (.field f s e)=s:=rfl
@[simp] theorem qk8 (f:Bool) (s:ByteArray) (e:E):E.kids (.field f s e) = .sl [.lit (.int .i64 e.kind),.lit (.int .i64 e.num),.lit (.string e.str),e.kids] 1 f:=rfl
@[simp] theorem qrK (f:Bool) (s:ByteArray) (e:E):E.ty (.field f s e)=if e.ty=1 then 1 else 0:=rfl
@[simp] theorem qsI (f:Bool) (neg:Bool) (e:E):E.kind (.un f neg e)=13:=rfl
@[simp] theorem qs4 (f:Bool) (neg:Bool) (e:E):E.num (.un f neg e)=0:=rfl
@[simp] theorem qs5 (f:Bool) (neg:Bool) (e:E):E.str (.un f neg e)=ustr neg:=rfl
@[simp] theorem qpq (f:Bool) (neg:Bool) (e:E):E.kids (.un f neg e) = .sl [.lit (.int .i64 e.kind),.lit (.int .i64 e.num),.lit (.string e.str),e.kids] 1 f:=rfl
@[simp] theorem qtp (f:Bool) (neg:Bool) (e:E):E.ty (.un f neg e)=if e.ty=(if neg then 1 else 2) then (if neg then 1 else 2) else 0:=rfl
@[simp] theorem qrL (f:Bool) (o:Bop) (a b:E):E.kind (.bin f o a b)=14:=rfl
@[simp] theorem qsJ (f:Bool) (o:Bop) (a b:E):E.num (.bin f o a b)=0:=rfl
@[simp] theorem qsK (f:Bool) (o:Bop) (a b:E):E.str (.bin f o a b)=o.str:=rfl
@[simp] theorem qnP (f:Bool) (o:Bop) (a b:E):E.kids (.bin f o a b) = .sl [.lit (.int .i64 a.kind),.lit (.int .i64 a.num),.lit (.string a.str),a.kids,.lit (.int .i64 b.kind),.lit (.int .i64 b.num),.lit (.string b.str),b.kids] 2 f:=rfl
@[simp] theorem qs6 (f:Bool) (o:Bop) (a b:E):E.ty (.bin f o a b)=if a.ty=o.opd/\b.ty=o.opd then o.res else 0:=rfl
def kd (f:Bool):Nat->List D->D
 | 0,_ => .lit (.slice none 0 0)
 | n+1,cs => .sl cs (n+1) f
@[simp] theorem qs7 (f:Bool) (n:Nat) (cs:List D):V.one (.dat (kd f n cs))=true:=by cases n<;>rfl
@[simp] theorem qrM (f:Bool) (n:Nat) (cs:List D):V.cells (.dat (kd f n cs))=[.dat (kd f n cs)]:=by cases n<;>rfl
@[simp] theorem qs8 (σ : S) (f:Bool) (n:Nat) (cs:List D):V.len σ .sl (.dat (kd f n cs))=some n:=by cases n<;>simp[kd,V.len]
@[simp] theorem qrN (f:Bool) (cs:List D):kd f 0 cs = .lit (.slice none 0 0):=rfl
@[simp] theorem qrc (f:Bool) (n:Nat) (cs:List D):kd f (n+1) cs = .sl cs (n+1) f:=rfl
inductive Fo where
 | nil
 | cons (k n:Int) (s:ByteArray) (f:Bool) (kids rest:Fo)
def Fo.len:Fo->Nat
 | .nil=>0
 | .cons _ _ _ _ _ r=>r.len+1
def Fo.cells:Fo->List D
 | .nil=>[]
 | .cons k n s f ks r => .lit (.int .i64 k) :: .lit (.int .i64 n) :: .lit (.string s)::kd f ks.len ks.cells::r.cells
def Fo.app:Fo->Fo->Fo
 | .nil,b=>b
 | .cons k n s f ks r,b => .cons k n s f ks (r.app b)
def Fo.size:Fo->Nat
 | .nil=>0
 | .cons _ _ _ _ ks r=>ks.size+r.size+1
@[simp] theorem qdj:Fo.len .nil=0:=rfl
@[simp] theorem qce (k n:Int) (s:ByteArray) (f:Bool) (ks r:Fo):(Fo.cons k n s f ks r).len=r.len+1:=rfl
@[simp] theorem qcq:Fo.cells .nil=[]:=rfl
@[simp] theorem qbI (k n:Int) (s:ByteArray) (f:Bool) (ks r:Fo):(Fo.cons k n s f ks r).cells = .lit (.int .i64 k) :: .lit (.int .i64 n) :: .lit (.string s)::kd f ks.len ks.cells::r.cells:=rfl
@[simp] theorem qjE:Fo.size .nil=0:=rfl
@[simp] theorem qfG (k n:Int) (s:ByteArray) (f:Bool) (ks r:Fo):(Fo.cons k n s f ks r).size=ks.size+r.size+1:=rfl
@[simp] theorem qpT (b:Fo):Fo.app .nil b=b:=rfl
@[simp] theorem qpr (k n:Int) (s:ByteArray) (f:Bool) (ks r b:Fo):(Fo.cons k n s f ks r).app b = .cons k n s f ks (r.app b):=rfl
theorem qhl (a b:Fo):(a.app b).len=a.len+b.len:=by induction a with
 | nil=>simp
 | cons k n s f ks r _ ih=>simp[ih]; omega
theorem qiY (a b:Fo):(a.app b).cells=a.cells++b.cells:=by induction a with
 | nil=>simp
 | cons k n s f ks r _ ih=>simp[ih]
theorem qgw (a:Fo):a.len<=a.size:=by induction a with
 | nil=>simp
 | cons k n s f ks r _ ih=>simp; omega
abbrev nd (k n:Int) (s:ByteArray) (f:Bool) (ks:Fo):V := .dat (.agg [.lit (.int .i64 k),.lit (.int .i64 n),.lit (.string s),kd f ks.len ks.cells])
def Fo.hk:Fo->Int
 | .nil=>0
 | .cons k _ _ _ _ _=>k
def Fo.hn:Fo->Int
 | .nil=>0
 | .cons _ n _ _ _ _=>n
def Fo.hs:Fo->ByteArray
 | .nil=>⟨#[]⟩
 | .cons _ _ s _ _ _=>s
def Fo.hf:Fo->Bool
 | .nil=>false
 | .cons _ _ _ f _ _=>f
def Fo.hks:Fo->Fo
 | .nil => .nil
 | .cons _ _ _ _ ks _=>ks
def Fo.tl:Fo->Fo
 | .nil => .nil
 | .cons _ _ _ _ _ r=>r
abbrev Fo.hd (a:Fo):V:=nd a.hk a.hn a.hs a.hf a.hks
def E.flag:E->Bool
 | .field f _ _=>f | .un f _ _=>f | .bin f _ _ _=>f | _=>false
def E.fo:E->Fo->Fo
 | .int n,r => .cons 8 n ⟨#[]⟩ false .nil r
 | .bool n,r => .cons 9 n ⟨#[]⟩ false .nil r
 | .var s,r => .cons 10 0 s false .nil r
 | .name s,r => .cons 12 0 s false .nil r
 | .field f s e,r => .cons 11 0 s f (e.fo .nil) r
 | .un f neg e,r => .cons 13 0 (ustr neg) f (e.fo .nil) r
 | .bin f o a b,r => .cons 14 0 o.str f (a.fo (b.fo .nil)) r
def E.kfo:E->Fo
 | .field _ _ e=>e.fo .nil | .un _ _ e=>e.fo .nil | .bin _ _ a b=>a.fo (b.fo .nil) | _ => .nil
theorem qek (e:E) (r:Fo):e.fo r = .cons e.kind e.num e.str e.flag e.kfo r:=by cases e<;>rfl
theorem qjF (e:E):e.kids=kd e.flag e.kfo.len e.kfo.cells:=by
 induction e with
 | field f s e ih=>
  show (E.field f s e).kids=kd f (e.fo .nil).len (e.fo .nil).cells
  rw[qek]
  simp only[qk8,qce,qdj,qrc,qbI,qcq,<- ih]
 | un f neg e ih=>
  show (E.un f neg e).kids=kd f (e.fo .nil).len (e.fo .nil).cells
  rw[qek]
  simp only[qpq,qce,qdj,qrc,qbI,qcq,<- ih]
 | bin f o a b iha ihb=>
  show (E.bin f o a b).kids=kd f (a.fo (b.fo .nil)).len (a.fo (b.fo .nil)).cells
  rw[qek,qek]
  simp only[qnP,qce,qdj,qrc,qbI,qcq,<- iha,<- ihb]
 | _=>rfl
theorem qps (e:E):e.node=nd e.kind e.num e.str e.flag e.kfo:=by simp only[E.node,nd,qjF]
theorem qjG (e:E) (r:Fo):(e.fo r).size=e.size+r.size:=by
 induction e generalizing r<;>simp only[E.fo,E.size,qfG,qjE, *]<;>omega
@[simp] theorem qtq (e:E) (r:Fo):(e.fo r).tl=r:=by rw[qek]; rfl
inductive Ss where
 | nil
 | assign (f:Bool) (s:ByteArray) (e:E) (r:Ss)
 | store (f:Bool) (s:ByteArray) (a b:E) (r:Ss)
 | effect (f:Bool) (a b:E) (r:Ss)
 | stop (r:Ss)
 | cond (w:Bool) (f:Bool) (c:E) (b:Ss) (r:Ss)
 | block (f:Bool) (b:Ss) (r:Ss)
def qiZ:ByteArray:=⟨#[104,105,116]⟩
def qog:ByteArray:=⟨#[115,116,105,108,108]⟩
def Ss.well:Ss->Bool
 | .nil=>true
 | .assign _ _ e r=>decide (e.ty=1)&&r.well
 | .store _ s a b r=>(!(eqS s qiZ||eqS s qog)&&(decide (a.ty=1)&&decide (b.ty=1)))&&r.well
 | .effect _ a b r=>(decide (a.ty=1)&&decide (b.ty=1))&&r.well
 | .stop r=>r.well
 | .cond _ _ c b r=>(decide (c.ty=2)&&b.well)&&r.well
 | .block _ b r=>b.well&&r.well
def Ss.ok:Ss->Prop
 | .nil=>True
 | .assign _ s e r=>s.size<=100/\e.ok/\r.ok
 | .store _ _ a b r=>a.ok/\b.ok/\r.ok
 | .effect _ a b r=>a.ok/\b.ok/\r.ok
 | .stop r=>r.ok
 | .cond _ _ c b r=>c.ok/\b.ok/\r.ok
 | .block _ b r=>b.ok/\r.ok
def Ss.fo:Ss->Fo
 | .nil => .nil
 | .assign f s e r => .cons 1 0 s f (e.fo .nil) r.fo
 | .store f s a b r => .cons 2 0 s f (a.fo (b.fo .nil)) r.fo
 | .effect f a b r => .cons 5 0 ⟨#[]⟩ f (a.fo (b.fo .nil)) r.fo
 | .stop r => .cons 6 0 ⟨#[]⟩ false .nil r.fo
 | .cond w f c b r => .cons (if w then 4 else 3) 0 ⟨#[]⟩ f (c.fo b.fo) r.fo
 | .block f b r => .cons 7 0 ⟨#[]⟩ f b.fo r.fo
theorem qs9 {cs r:List D} {o:Nat} {a b c d:D} (h:cs.drop o=a::b::c::d::r):qaq cs o 4=some [a,b,c,d]:=by
 unfold qaq
 rw[h]
 simp
@[simp] theorem qtr (e:E) (r:Fo):(e.fo r).hk=e.kind:=by rw[qek]; rfl
@[simp] theorem qts (e:E) (r:Fo):(e.fo r).hn=e.num:=by rw[qek]; rfl
@[simp] theorem qtt (e:E) (r:Fo):(e.fo r).hs=e.str:=by rw[qek]; rfl
@[simp] theorem qta (e:E) (r:Fo):kd (e.fo r).hf (e.fo r).hks.len (e.fo r).hks.cells=e.kids:=by rw[qek,qjF]; rfl
@[simp] theorem qtb (e:E) (r:Fo):(e.fo r).len=r.len+1:=by rw[qek]; rfl
@[simp] theorem qrO (e:E) (r:Fo):(e.fo r).cells = .lit (.int .i64 e.kind) :: .lit (.int .i64 e.num) :: .lit (.string e.str)::e.kids::r.cells:=by rw[qek,qjF]; rfl
@[simp] theorem qtc:Fo.hk .nil=0:=rfl
@[simp] theorem qtd:Fo.hn .nil=0:=rfl
@[simp] theorem qte:Fo.hs .nil=⟨#[]⟩:=rfl
@[simp] theorem qtf:Fo.hf .nil=false:=rfl
@[simp] theorem qsL:Fo.hks .nil = .nil:=rfl
def qaS (ss:List ByteArray):List D:=ss.map fun s => .lit (.string s)
theorem qh4 (ss:List ByteArray) (i:Nat) (h:i<ss.length):qaq (qaS ss) i 1=some [.lit (.string ss[i])]:=by
 unfold qaq qaS
 rw[List.drop_eq_getElem_cons (by simpa using h)]
 simp
theorem qa1 (a b:ByteArray):eqS a b=decide (a=b):=by
 rw[Bool.eq_iff_iff]
 simp only[eqS,beq_iff_eq,decide_eq_true_eq,ByteArray.toList_eq]
 exact⟨fun h=>by cases a; cases b; simp only[Array.toList_inj] at h; rw[h],fun h=>by rw[h]⟩
instance:LawfulBEq ByteArray where
 eq_of_beq h:=by rw[qgh] at h; exact of_decide_eq_true h
 rfl:=by intro a; rw[qgh]; exact decide_eq_true rfl
def qpU:List ByteArray->D
 | [] => .lit (.slice none 0 0)
 | s::l => .sl (qaS (s::l)) (l.length+1) false
@[simp] theorem qrP (l:List ByteArray):V.one (.dat (qpU l))=true:=by cases l<;>rfl
@[simp] theorem qpV (l:List ByteArray):V.cells (.dat (qpU l))=[.dat (qpU l)]:=by cases l<;>rfl
@[simp] theorem qrQ (σ : S) (l:List ByteArray):V.len σ .sl (.dat (qpU l))=some l.length:=by cases l<;>simp[qpU,V.len]
@[simp] theorem qrR (l:List ByteArray):(qaS l).length=l.length:=by simp[qaS]
theorem qi0 {cs r:List D} {i:Nat} {a b c d:D} (h:cs.drop (i*4)=a::b::c::d::r):cs.drop ((i+1)*4)=r:=by
 rw[show (i+1)*4=i*4+4 by omega,<- List.drop_drop,h]
 rfl
structure Nd where
 k:Int
 n:Int
 s:ByteArray
 f:Bool
 ks:Fo
abbrev Nd.v (a:Nd):V:=nd a.k a.n a.s a.f a.ks
abbrev Nd.d (a:Nd):D:=kd a.f a.ks.len a.ks.cells
abbrev ru (a b c:Nd):D := .agg [.lit (.int .i64 a.k),.lit (.int .i64 a.n),.lit (.string a.s),a.d,.lit (.int .i64 b.k),.lit (.int .i64 b.n),.lit (.string b.s),b.d,.lit (.int .i64 c.k),.lit (.int .i64 c.n),.lit (.string c.s),c.d]
inductive Hd where
 | none
 | some (f:Bool) (b:Ss)
def Hd.k:Hd->Int
 | .none=>0
 | .some _ _=>7
def Hd.f:Hd->Bool
 | .none=>false
 | .some f _=>f
def Hd.ks:Hd->Fo
 | .none => .nil
 | .some _ b=>b.fo
def Hd.nd (h:Hd):Nd:=⟨h.k,0,⟨#[]⟩,h.f,h.ks⟩
@[simp] theorem qtz (h:Hd):h.nd.k=h.k:=rfl
@[simp] theorem qtA (h:Hd):h.nd.n=0:=rfl
@[simp] theorem qtB (h:Hd):h.nd.s=⟨#[]⟩:=rfl
@[simp] theorem qtC (h:Hd):h.nd.f=h.f:=rfl
@[simp] theorem qtu (h:Hd):h.nd.ks=h.ks:=rfl
def Hd.well:Hd->Bool
 | .none=>true
 | .some _ b=>b.well
def Ss.app:Ss->Ss->Ss
 | .nil,b=>b
 | .assign f s e r,b => .assign f s e (r.app b)
 | .store f s x y r,b => .store f s x y (r.app b)
 | .effect f x y r,b => .effect f x y (r.app b)
 | .stop r,b => .stop (r.app b)
 | .cond w f c q r,b => .cond w f c q (r.app b)
 | .block f q r,b => .block f q (r.app b)
theorem qoh (a b:Ss):(a.app b).fo=a.fo.app b.fo:=by
 induction a<;>simp_all [Ss.app,Ss.fo]
end Go.Pm
end SEt
section SYa
namespace Go.Pm
def qaL (c:UInt8):Bool:=decide (97<=c.toNat)&&decide (c.toNat<=122)
def qam (c:UInt8):Bool:=decide (48<=c.toNat)&&decide (c.toNat<=57)
def qf2 (s:ByteArray):Nat->Bool->Nat->Nat
 | 0,_,i=>i
 | n+1,c,i=>match s[i]? with
  | none=>i
  | some b=>if b.toNat=10 then qf2 s n false (i+1) else if c=true\/b.toNat=32\/b.toNat=9 then qf2 s n c (i+1) else if b.toNat=35 then qf2 s n true (i+1) else i
def qoo (p:UInt8->Bool) (s:ByteArray):Nat->Nat->Nat
 | 0,i=>i
 | n+1,i=>match s[i]? with
  | none=>i
  | some b=>if p b then qoo p s n (i+1) else i
def qau (c:UInt8):Bool:=qaL c||qam c
def digV (l:List UInt8):Nat:=l.foldl (fun v c=>10*v+(c.toNat-48)) 0
structure Tk where
 at_:Nat
 s:ByteArray
 bad:Nat
def bs (l:List UInt8):ByteArray:=⟨l.toArray⟩
def fieldNames:List ByteArray:=[bs [120],bs [121],bs [118,120],bs [118,121],bs [97],bs [98],qiZ,qog]
def wordNames:List ByteArray:=[bs [111,110],bs [97,99,116],bs [116,105,99,107],qiZ,bs [105,102],bs [101,108,115,101],bs [119,104,105,108,101],bs [101,102,102,101,99,116],bs [115,116,111,112],bs [116,114,117,101],bs [102,97,108,115,101],bs [115,101,108,102],bs [111,116,104,101,114]]
def qc3:List ByteArray:=[bs [124,124],bs [38,38],bs [60,61],bs [62,61],bs [61,61],bs [33,61]]
def qhI:List Nat:=[123,125,91,93,40,41,61,59,44,60,62,43,45,42,47,33]
def tokAt (eS eL eR:Nat) (s:ByteArray) (i:Nat):Tk:=match s[i]? with
 | none=>⟨i,⟨#[]⟩,0⟩
 | some c=>
  if qaL c then
   let w:=s.extract i (qoo qau s (s.size-i) i)
   ⟨i,w,if 8<w.size/\w∉fieldNames/\w∉wordNames then eL else 0⟩
  else if qam c then
   let w:=s.extract i (qoo qam s (s.size-i) i)
   ⟨i,w,if 2147483647<digV w.toList then eR else 0⟩
  else if i+2<=s.size/\s.extract i (i+2)∈qc3 then ⟨i,s.extract i (i+2),0⟩
  else if c.toNat∈qhI then ⟨i,s.extract i (i+1),0⟩
  else ⟨i,s.extract i (i+1),eS⟩
def qbK (eS eL eR:Nat) (s:ByteArray):Nat->Nat->List Tk
 | 0,i=>[⟨i,⟨#[]⟩,0⟩]
 | n+1,i=>
  let t:=tokAt eS eL eR s (qf2 s (s.size-i) false i)
  if t.bad≠0\/t.s.size=0 then [t] else t::qbK eS eL eR s n (t.at_+t.s.size)
inductive Rz (α : Type) where
 | ok (a : α) (r:List Tk)
 | er (i c:Nat)
def nx:List Tk->Option ByteArray
 | t::_=>if t.bad=0 then some t.s else none
 | []=>none
def qbP {α : Type} (c:Nat):List Tk->Rz α
 | t::_ => .er t.at_ (if t.bad=0 then c else t.bad)
 | [] => .er 0 c
def Rz.bind {α β : Type}:Rz α -> (α -> List Tk->Rz β)->Rz β
 | .ok a r,k=>k a r
 | .er i c,_ => .er i c
def qaF (eS:Nat) (x:ByteArray):List Tk->Rz Unit
 | t::r=>if t.bad=0/\t.s=x then .ok () r else qbP eS (t::r)
 | []=>qbP eS []
def qc4 (eS eL:Nat) (x:ByteArray) (lv:Nat) (ts:List Tk):Rz Unit:=
 if nx ts=some x/\20<lv then qbP eL ts else qaF eS x ts
def qjj (prec:Nat) (s:ByteArray):Option Bop:=
 let l:List Bop:=match prec with
  | 1=>[.or] | 2=>[.and] | 4=>[.lt,.le,.gt,.ge,.eq,.ne] | 5=>[.add,.sub] | 6=>[.mul,.div] | _=>[]
 l.find? fun o=>decide (o.str=s)
def qar (p:UInt8->Bool) (s:ByteArray):Bool:=match s[0]? with
 | some c=>p c
 | none=>false
mutual
def qak (eS eL:Nat) (f:Bool):Nat->Nat->Nat->List Tk->Option (Rz E)
 | 0,_,_,_=>none
 | n+1,prec,lv,ts=>
  if prec=3/\nx ts=some (ustr false)\/prec=7/\nx ts=some (ustr true) then
   match qc4 eS eL (ustr (prec==7)) (lv+1) ts with
   | .er i c=>some (.er i c)
   | .ok _ r=>match qak eS eL f n prec (lv+1) r with
    | some (.ok e r')=>some (.ok (.un f (prec==7) e) r')
    | x=>x
  else if prec<8 then
   match qak eS eL f n (prec+1) lv ts with
   | some (.ok e r)=>qb8 eS eL f n prec lv e r
   | x=>x
  else match nx ts with
   | none=>some (qbP eS ts)
   | some s=>
    if qar qam s then some (.ok (.int (digV s.toList)) ts.tail)
    else if s=bs [116,114,117,101] then some (.ok (.bool 1) ts.tail)
    else if s=bs [102,97,108,115,101] then some (.ok (.bool 0) ts.tail)
    else if s=bs [115,101,108,102]\/s=bs [111,116,104,101,114]\/s=bs [116,105,99,107] then some (.ok (.name s) ts.tail)
    else if s∈fieldNames then match qbZ eS eL f n lv ts.tail with
     | some (.ok e r)=>some (.ok (.field f s e) r)
     | x=>x
    else if qar qaL s/\s∉wordNames then some (.ok (.var s) ts.tail)
    else match qc4 eS eL (bs [40]) (lv+1) ts with
     | .er i c=>some (.er i c)
     | .ok _ r=>match qak eS eL f n 1 (lv+1) r with
      | some (.ok e r')=>match qaF eS (bs [41]) r' with
       | .ok _ r''=>some (.ok e r'')
       | .er i c=>some (.er i c)
      | x=>x
def qb8 (eS eL:Nat) (f:Bool):Nat->Nat->Nat->E->List Tk->Option (Rz E)
 | 0,_,_,_,_=>none
 | n+1,prec,lv,e,ts=>match nx ts with
  | none=>if prec=3\/prec=7 then some (.ok e ts) else some (qbP eS ts)
  | some s=>match qjj prec s with
   | none=>some (.ok e ts)
   | some o=>match qak eS eL f n (prec+1) lv ts.tail with
    | some (.ok e' r)=>if prec=4 then some (.ok (.bin f o e e') r) else qb8 eS eL f n prec lv (.bin f o e e') r
    | x=>x
def qbZ (eS eL:Nat) (f:Bool):Nat->Nat->List Tk->Option (Rz E)
 | 0,_,_=>none
 | n+1,lv,ts=>match qc4 eS eL (bs [91]) (lv+1) ts with
  | .er i c=>some (.er i c)
  | .ok _ r=>match qak eS eL f n 1 (lv+1) r with
   | some (.ok e r')=>match qaF eS (bs [93]) r' with
    | .ok _ r''=>some (.ok e r'')
    | .er i c=>some (.er i c)
   | x=>x
end
end Go.Pm
end SYa
section SYb
namespace Go.Pm
def qbC {α : Type} (eS:Nat) (a : α) (ts:List Tk):Rz α := match qaF eS (bs [59]) ts with
 | .ok _ r => .ok a r
 | .er i c => .er i c
mutual
def qdA (eS eL:Nat) (f fi fb:Bool):Nat->Nat->List Tk->Option (Rz Ss)
 | 0,_,_=>none
 | n+1,lv,ts=>match nx ts with
  | none=>some (qbP eS ts)
  | some s=>
   if s=bs [105,102] then match qak eS eL f n 1 lv ts.tail with
    | some (.ok c r)=>match qbm eS eL f fi fb n (lv+1) r with
     | some (.ok b r1)=>match nx r1 with
      | none=>some (qbP eS r1)
      | some w=>if w=bs [101,108,115,101] then match qbm eS eL f fi fb n (lv+1) r1.tail with
        | some (.ok b2 r2)=>some (.ok (.cond false fi c (.block fb b (.block fb b2 .nil)) .nil) r2)
        | some (.er i k)=>some (.er i k)
        | none=>none
       else some (.ok (.cond false fi c (.block fb b (.block fb .nil .nil)) .nil) r1)
     | some (.er i k)=>some (.er i k)
     | none=>none
    | some (.er i k)=>some (.er i k)
    | none=>none
   else if s=bs [119,104,105,108,101] then match qak eS eL f n 1 lv ts.tail with
    | some (.ok c r)=>match qbm eS eL f fi fb n (lv+1) r with
     | some (.ok b r1)=>some (.ok (.cond true f c (.block fb b .nil) .nil) r1)
     | some (.er i k)=>some (.er i k)
     | none=>none
    | some (.er i k)=>some (.er i k)
    | none=>none
   else if s=bs [101,102,102,101,99,116] then match qak eS eL f n 1 lv ts.tail with
    | some (.ok a r)=>match qaF eS (bs [44]) r with
     | .ok _ r1=>match qak eS eL f n 1 lv r1 with
      | some (.ok b r2)=>some (qbC eS (.effect f a b .nil) r2)
      | some (.er i k)=>some (.er i k)
      | none=>none
     | .er i k=>some (.er i k)
    | some (.er i k)=>some (.er i k)
    | none=>none
   else if s=bs [115,116,111,112] then some (qbC eS (.stop .nil) ts.tail)
   else if s∈fieldNames then match qbZ eS eL f n lv ts.tail with
    | some (.ok a r)=>match qaF eS (bs [61]) r with
     | .ok _ r1=>match qak eS eL f n 1 lv r1 with
      | some (.ok b r2)=>some (qbC eS (.store f s a b .nil) r2)
      | some (.er i k)=>some (.er i k)
      | none=>none
     | .er i k=>some (.er i k)
    | some (.er i k)=>some (.er i k)
    | none=>none
   else if qar qaL s/\s∉wordNames then match qaF eS (bs [61]) ts.tail with
    | .ok _ r1=>match qak eS eL f n 1 lv r1 with
     | some (.ok b r2)=>some (qbC eS (.assign f s b .nil) r2)
     | some (.er i k)=>some (.er i k)
     | none=>none
    | .er i k=>some (.er i k)
   else some (qbP eS ts)
def qbm (eS eL:Nat) (f fi fb:Bool):Nat->Nat->List Tk->Option (Rz Ss)
 | 0,_,_=>none
 | n+1,lv,ts=>match qc4 eS eL (bs [123]) lv ts with
  | .er i k=>some (.er i k)
  | .ok _ r=>qcR eS eL f fi fb n lv .nil r
def qcR (eS eL:Nat) (f fi fb:Bool):Nat->Nat->Ss->List Tk->Option (Rz Ss)
 | 0,_,_,_=>none
 | n+1,lv,a,ts=>match nx ts with
  | none=>some (qbP eS ts)
  | some s=>if s=bs [125] then some (.ok a ts.tail) else match qdA eS eL f fi fb n lv ts with
   | some (.ok b r)=>qcR eS eL f fi fb n lv (a.app b) r
   | some (.er i k)=>some (.er i k)
   | none=>none
end
def qbw (s:ByteArray):Option Nat:=
 if s=bs [97,99,116] then some 0 else if s=bs [116,105,99,107] then some 1 else if s=qiZ then some 2 else none
def qdO (eS eL eD:Nat) (f fi fb:Bool):Nat->(Nat->Option Ss)->List Tk->Option (Rz (Nat->Option Ss))
 | 0,_,_=>none
 | n+1,h,ts=>match nx ts with
  | none=>some (qbP eS ts)
  | some s=>if s.size=0 then some (.ok h ts) else match qaF eS (bs [111,110]) ts with
   | .er i k=>some (.er i k)
   | .ok _ r=>match nx r with
    | none=>some (qbP eS r)
    | some w=>match qbw w with
     | none=>some (qbP eS r)
     | some k=>if (h k).isSome then some (qbP eD r) else match qbm eS eL f fi fb n 1 r.tail with
      | some (.ok b r1)=>qdO eS eL eD f fi fb n (fun i=>if i=k then some b else h i) r1
      | some (.er i c)=>some (.er i c)
      | none=>none
end Go.Pm
end SYb
section SYc
namespace Go.Pm
def Fin {α : Type} (m:Nat) (x:Option (Rz α)):Prop := ∃ y,x=some y /\ ∀ a r,y = .ok a r->r.length<=m
theorem qci {α : Type} (m c:Nat) (ts:List Tk):Fin (α := α) m (some (qbP c ts)):=⟨_,rfl,fun a r h=>by cases ts<;>cases h⟩
theorem qbp {α : Type} (m i c:Nat):Fin (α := α) m (some (.er i c)):=⟨_,rfl,fun a r h=>by cases h⟩
theorem qb6 {α : Type} {m:Nat} (a : α) {ts:List Tk} (h:ts.length<=m):Fin m (some (.ok a ts)):=⟨_,rfl,fun a r e=>by cases e; exact h⟩
theorem qgg {ts:List Tk} {s:ByteArray} (h:nx ts=some s):ts.tail.length+1=ts.length:=by
 cases ts with
 | nil=>cases h
 | cons t r=>rfl
theorem qbD {eS:Nat} {x:ByteArray} {ts r:List Tk} {u:Unit} (h:qaF eS x ts = .ok u r):r.length+1=ts.length:=by
 cases ts with
 | nil=>cases h
 | cons t r'=>
  simp only[qaF] at h
  split at h
  ·cases h; rfl
  ·cases h
theorem qeZ {eS eL:Nat} {x:ByteArray} {lv:Nat} {ts r:List Tk} {u:Unit} (h:qc4 eS eL x lv ts = .ok u r):r.length+1=ts.length:=by
 unfold qc4 at h
 split at h
 ·cases ts<;>cases h
 ·exact qbD h
theorem qiK (eS eL:Nat) (f:Bool) : ∀ n:Nat,
  (∀ prec lv ts,1<=prec->prec<=8->10*ts.length+(10-prec)<=n->Fin (ts.length-1) (qak eS eL f n prec lv ts)) /\
  (∀ prec lv e ts,1<=prec->prec<=7->10*ts.length+1<=n->Fin ts.length (qb8 eS eL f n prec lv e ts)) /\
  (∀ lv ts,10*ts.length+1<=n->Fin (ts.length-1) (qbZ eS eL f n lv ts))
 | 0=>⟨fun p lv ts h1 h2 h=>by omega,fun p lv e ts h1 h2 h=>by omega,fun lv ts h=>by omega⟩
 | n+1=>by
  obtain⟨ihe,ihl,ihi⟩:=qiK eS eL f n
  refine⟨fun p lv ts h1 h2 h=>?_,fun p lv e ts h1 h2 h=>?_,fun lv ts h=>?_⟩
  ·simp only[qak]
   split
   ·split
    ·exact qbp _ _ _
    ·rename_i u r ho
     have hl:=qeZ ho
     obtain⟨y,hy,hr⟩:=ihe p (lv+1) r h1 h2 (by omega)
     rw[hy]
     cases y with
     | er i c=>exact qbp _ _ _
     | ok e r'=>have:=hr e r' rfl; exact qb6 _ (by omega)
   ·split
    ·obtain⟨y,hy,hr⟩:=ihe (p+1) lv ts (by omega) (by omega) (by omega)
     rw[hy]
     cases y with
     | er i c=>exact qbp _ _ _
     | ok e r=>
      have:=hr e r rfl
      obtain⟨z,hz,hr2⟩:=ihl p lv e r h1 (by omega) (by omega)
      exact⟨z,hz,fun a q hq=>by have:=hr2 a q hq; omega⟩
    ·cases hn:nx ts with
     | none=>exact qci _ _ _
     | some s=>
      have hp:=qgg hn
      simp only
      split
      ·exact qb6 _ (by omega)
      split
      ·exact qb6 _ (by omega)
      split
      ·exact qb6 _ (by omega)
      split
      ·exact qb6 _ (by omega)
      split
      ·obtain⟨y,hy,hr⟩:=ihi lv ts.tail (by omega)
       rw[hy]
       cases y with
       | er i c=>exact qbp _ _ _
       | ok e r'=>have:=hr e r' rfl; exact qb6 _ (by omega)
      split
      ·exact qb6 _ (by omega)
      split
      ·exact qbp _ _ _
      ·rename_i u r ho
       have hl:=qeZ ho
       obtain⟨y,hy,hr⟩:=ihe 1 (lv+1) r (by omega) (by omega) (by omega)
       rw[hy]
       cases y with
       | er i c=>exact qbp _ _ _
       | ok e r'=>
        have:=hr e r' rfl
        simp only
        split
        ·rename_i u' r'' hx; have:=qbD hx; exact qb6 _ (by omega)
        ·exact qbp _ _ _
  ·simp only[qb8]
   cases hn:nx ts with
   | none=>
    simp only
    split
    ·exact qb6 _ (Nat.le_refl _)
    ·exact qci _ _ _
   | some s=>
    have hp:=qgg hn
    simp only
    split
    ·exact qb6 _ (Nat.le_refl _)
    ·obtain⟨y,hy,hr⟩:=ihe (p+1) lv ts.tail (by omega) (by omega) (by omega)
     rw[hy]
     cases y with
     | er i c=>exact qbp _ _ _
     | ok e' r=>
      have:=hr e' r rfl
      simp only
      split
      ·exact qb6 _ (by omega)
      ·obtain⟨z,hz,hr2⟩:=ihl p lv (.bin f _ e e') r h1 h2 (by omega)
       exact⟨z,hz,fun a q hq=>by have:=hr2 a q hq; omega⟩
  ·simp only[qbZ]
   split
   ·exact qbp _ _ _
   ·rename_i u r ho
    have hl:=qeZ ho
    obtain⟨y,hy,hr⟩:=ihe 1 (lv+1) r (by omega) (by omega) (by omega)
    rw[hy]
    cases y with
    | er i c=>exact qbp _ _ _
    | ok e r'=>
     have:=hr e r' rfl
     simp only
     split
     ·rename_i u' r'' hx; have:=qbD hx; exact qb6 _ (by omega)
     ·exact qbp _ _ _
end Go.Pm
end SYc
section SYd
namespace Go.Pm
theorem qfT {α : Type} {eS m:Nat} {a : α} {ts:List Tk} (h:ts.length<=m+1):Fin m (some (qbC eS a ts)):=by
 unfold qbC
 split
 ·rename_i u r hx; have:=qbD hx; exact qb6 _ (by omega)
 ·exact qbp _ _ _
theorem qfU (eS eL:Nat) (f fi fb:Bool) : ∀ n:Nat,
  (∀ lv ts,10*ts.length+1<=n->Fin (ts.length-1) (qdA eS eL f fi fb n lv ts)) /\
  (∀ lv ts,10*ts.length+1<=n->Fin (ts.length-1) (qbm eS eL f fi fb n lv ts)) /\
  (∀ lv a ts,10*ts.length+2<=n->Fin (ts.length-1) (qcR eS eL f fi fb n lv a ts))
 | 0=>⟨fun lv ts h=>by omega,fun lv ts h=>by omega,fun lv a ts h=>by omega⟩
 | n+1=>by
  obtain⟨ihs,ihb,ihl⟩:=qfU eS eL f fi fb n
  obtain⟨ihe,_,ihi⟩:=qiK eS eL f n
  refine⟨fun lv ts h=>?_,fun lv ts h=>?_,fun lv a ts h=>?_⟩
  ·simp only[qdA]
   cases hn:nx ts with
   | none=>exact qci _ _ _
   | some s=>
    have hp:=qgg hn
    simp only
    have he:=ihe 1 lv ts.tail (by omega) (by omega) (by omega)
    obtain⟨y,hy,hr⟩:=he
    split
    ·rw[hy]
     cases y with
     | er i c=>exact qbp _ _ _
     | ok e r=>
      have h1:=hr e r rfl
      obtain⟨y1,hy1,hr1⟩:=ihb (lv+1) r (by omega)
      simp only[hy1]
      cases y1 with
      | er i c=>exact qbp _ _ _
      | ok b r1=>
       have h2:=hr1 b r1 rfl
       simp only
       cases hn1:nx r1 with
       | none=>exact qci _ _ _
       | some w=>
        have hp1:=qgg hn1
        simp only
        split
        ·obtain⟨y2,hy2,hr2⟩:=ihb (lv+1) r1.tail (by omega)
         rw[hy2]
         cases y2 with
         | er i c=>exact qbp _ _ _
         | ok b2 r2=>have h3:=hr2 b2 r2 rfl; exact qb6 _ (by omega)
        ·exact qb6 _ (by omega)
    split
    ·rw[hy]
     cases y with
     | er i c=>exact qbp _ _ _
     | ok e r=>
      have h1:=hr e r rfl
      obtain⟨y1,hy1,hr1⟩:=ihb (lv+1) r (by omega)
      simp only[hy1]
      cases y1 with
      | er i c=>exact qbp _ _ _
      | ok b r1=>have h2:=hr1 b r1 rfl; exact qb6 _ (by omega)
    have second : ∀ (r:List Tk) (g:E->Ss),r.length+1<=ts.length->Fin (ts.length-1) (match qak eS eL f n 1 lv r with
      | some (.ok b r2)=>some (qbC eS (g b) r2)
      | some (.er i k)=>some (.er i k)
      | none=>none):=fun r g hr=>by
     obtain⟨y1,hy1,hr1⟩:=ihe 1 lv r (by omega) (by omega) (by omega)
     rw[hy1]
     cases y1 with
     | er i c=>exact qbp _ _ _
     | ok b r2=>have h2:=hr1 b r2 rfl; exact qfT (by omega)
    split
    ·rw[hy]
     cases y with
     | er i c=>exact qbp _ _ _
     | ok e r=>
      have h1:=hr e r rfl
      simp only
      split
      ·rename_i u r1 hx
       have:=qbD hx
       exact second r1 (fun b => .effect f e b .nil) (by omega)
      ·exact qbp _ _ _
    split
    ·exact qfT (by omega)
    split
    ·obtain⟨y1,hy1,hr1⟩:=ihi lv ts.tail (by omega)
     rw[hy1]
     cases y1 with
     | er i c=>exact qbp _ _ _
     | ok e r=>
      have h1:=hr1 e r rfl
      simp only
      split
      ·rename_i u r1 hx
       have:=qbD hx
       exact second r1 (fun b => .store f s e b .nil) (by omega)
      ·exact qbp _ _ _
    split
    ·split
     ·rename_i u r1 hx
      have:=qbD hx
      exact second r1 (fun b => .assign f s b .nil) (by omega)
     ·exact qbp _ _ _
    ·exact qci _ _ _
  ·simp only[qbm]
   split
   ·exact qbp _ _ _
   ·rename_i u r ho
    have hl:=qeZ ho
    obtain⟨y,hy,hr⟩:=ihl lv .nil r (by omega)
    exact⟨y,hy,fun a q hq=>by have:=hr a q hq; omega⟩
  ·simp only[qcR]
   cases hn:nx ts with
   | none=>exact qci _ _ _
   | some s=>
    have hp:=qgg hn
    simp only
    split
    ·exact qb6 _ (by omega)
    ·obtain⟨y,hy,hr⟩:=ihs lv ts (by omega)
     rw[hy]
     cases y with
     | er i c=>exact qbp _ _ _
     | ok b r=>
      have h1:=hr b r rfl
      obtain⟨z,hz,hr2⟩:=ihl lv (a.app b) r (by omega)
      exact⟨z,hz,fun a q hq=>by have:=hr2 a q hq; omega⟩
theorem qic (eS eL eD:Nat) (f fi fb:Bool) : ∀ (n:Nat) h ts,10*ts.length+2<=n->Fin ts.length (qdO eS eL eD f fi fb n h ts)
 | 0,h,ts,hn=>by omega
 | n+1,h,ts,hn=>by
  simp only[qdO]
  cases hx:nx ts with
  | none=>exact qci _ _ _
  | some s=>
   have hp:=qgg hx
   simp only
   split
   ·exact qb6 _ (Nat.le_refl _)
   split
   ·exact qbp _ _ _
   ·rename_i u r hr
    have h1:=qbD hr
    cases hw:nx r with
    | none=>exact qci _ _ _
    | some w=>
     have hp1:=qgg hw
     simp only
     split
     ·exact qci _ _ _
     ·rename_i k hk
      split
      ·exact qci _ _ _
      ·obtain⟨y,hy,hr⟩:=(qfU eS eL f fi fb n).2.1 1 r.tail (by omega)
       rw[hy]
       cases y with
       | er i c=>exact qbp _ _ _
       | ok b r1=>
        have h2:=hr b r1 rfl
        obtain⟨z,hz,hr2⟩:=qic eS eL eD f fi fb n (fun i=>if i=k then some b else h i) r1 (by omega)
        exact⟨z,hz,fun a q hq=>by have:=hr2 a q hq; omega⟩
end Go.Pm
end SYd
section SYe
namespace Go.Pm
abbrev byl (s:ByteArray):List UInt8:=s.data.toList
theorem qaU (l:List UInt8):byl (bs l)=l:=by simp[byl,bs]
theorem qcr (s:ByteArray):bs (byl s)=s:=by cases s; simp[bs,byl]
theorem qaI (s:ByteArray):(byl s).length=s.size:=Array.length_toList
theorem qaG (l:List UInt8):(bs l).size=l.length:=rfl
theorem qi1 {a b:List UInt8} (h:bs a=bs b):a=b:=by rw[<- qaU a,h,qaU]
theorem qjH {a b:ByteArray} (h:byl a=byl b):a=b:=by rw[<- qcr a,h,qcr]
theorem qfl (s:ByteArray) (i:Nat):s[i]?=((byl s).drop i).head?:=by
 rw[List.head?_drop]
 by_cases h:i<s.size
 ·rw[getElem?_pos s i h,List.getElem?_eq_getElem (by rw[qaI]; exact h)]
  simp[byl,ByteArray.getElem_eq_getElem_data]
 ·rw[getElem?_neg s i h,List.getElem?_eq_none (by rw[qaI]; omega)]
theorem qb3 (s:ByteArray) (i k:Nat):s.extract i (i+k)=bs (((byl s).drop i).take k):=by
 apply qjH
 rw[qaU]
 simp only[byl,ByteArray.data_extract,Array.toList_extract,List.extract_eq_take_drop]
 rw[show i+k-i=k by omega]
def qaX:Bool->List UInt8->Nat
 | _,[]=>0
 | c,b::r=>if b.toNat=10 then qaX false r+1 else if c=true\/b.toNat=32\/b.toNat=9 then qaX c r+1 else if b.toNat=35 then qaX true r+1 else 0
def qbk (p:UInt8->Bool):List UInt8->Nat
 | []=>0
 | b::r=>if p b then qbk p r+1 else 0
theorem qfS : ∀ (l:List UInt8) (c:Bool),qaX c l<=l.length
 | [],c=>by simp[qaX]
 | b::r,c=>by
  have h1:=qfS r false
  have h2:=qfS r c
  have h3:=qfS r true
  simp only[qaX,List.length_cons]
  split
  ·omega
  split
  ·omega
  split<;>omega
theorem qeD (p:UInt8->Bool) : ∀ l:List UInt8,qbk p l<=l.length
 | []=>by simp[qbk]
 | b::r=>by
  have h1:=qeD p r
  simp only[qbk,List.length_cons]
  split<;>omega
def tokL (eS eL eR:Nat):List UInt8->List UInt8 × Nat
 | []=>([],0)
 | c::r=>
  if qaL c then ((c::r).take (qbk qau (c::r)),if 8<qbk qau (c::r)/\bs ((c::r).take (qbk qau (c::r)))∉fieldNames/\bs ((c::r).take (qbk qau (c::r)))∉wordNames then eL else 0)
  else if qam c then ((c::r).take (qbk qam (c::r)),if 2147483647<digV ((c::r).take (qbk qam (c::r))) then eR else 0)
  else if bs ((c::r).take 2)∈qc3 then ((c::r).take 2,0)
  else if c.toNat∈qhI then ([c],0)
  else ([c],eS)
def qoi (eS eL eR:Nat):Nat->Nat->List UInt8->List Tk
 | 0,i,_=>[⟨i,⟨#[]⟩,0⟩]
 | n+1,i,l=>
  if (tokL eS eL eR (l.drop (qaX false l))).2≠0\/(tokL eS eL eR (l.drop (qaX false l))).1.length=0 then [⟨i+qaX false l,bs (tokL eS eL eR (l.drop (qaX false l))).1,(tokL eS eL eR (l.drop (qaX false l))).2⟩]
  else ⟨i+qaX false l,bs (tokL eS eL eR (l.drop (qaX false l))).1,(tokL eS eL eR (l.drop (qaX false l))).2⟩::qoi eS eL eR n (i+qaX false l+(tokL eS eL eR (l.drop (qaX false l))).1.length) ((l.drop (qaX false l)).drop (tokL eS eL eR (l.drop (qaX false l))).1.length)
theorem qh5 (s:ByteArray) : ∀ (n:Nat) (c:Bool) (i:Nat),s.size-i<=n->qf2 s n c i=i+qaX c ((byl s).drop i)
 | 0,c,i,h=>by
  have:(byl s).drop i=[]:=List.drop_eq_nil_of_le (by rw[qaI]; omega)
  rw[this]
  simp[qf2,qaX]
 | n+1,c,i,h=>by
  rw[qf2,qfl]
  cases hd:(byl s).drop i with
  | nil=>simp[qaX]
  | cons b r=>
   have hr:(byl s).drop (i+1)=r:=by rw[<- List.drop_drop,hd]; rfl
   have ih:=fun c=>qh5 s n c (i+1) (by omega)
   simp only[List.head?_cons,qaX,ih,hr]
   split
   ·omega
   split
   ·omega
   split<;>omega
theorem qmt (p:UInt8->Bool) (s:ByteArray) : ∀ (n i:Nat),s.size-i<=n->qoo p s n i=i+qbk p ((byl s).drop i)
 | 0,i,h=>by
  have:(byl s).drop i=[]:=List.drop_eq_nil_of_le (by rw[qaI]; omega)
  rw[this]
  simp[qoo,qbk]
 | n+1,i,h=>by
  rw[qoo,qfl]
  cases hd:(byl s).drop i with
  | nil=>simp[qbk]
  | cons b r=>
   have hr:(byl s).drop (i+1)=r:=by rw[<- List.drop_drop,hd]; rfl
   have ih:=qmt p s n (i+1) (by omega)
   simp only[List.head?_cons,qbk,ih,hr]
   split<;>omega
theorem qef {w:ByteArray} (h:w∈qc3):w.size=2:=by
 simp only[qc3,List.mem_cons,List.not_mem_nil,or_false] at h
 rcases h with h | h | h | h | h | h<;>rw[h]<;>rfl
theorem qcT (eS eL eR:Nat) (s:ByteArray) (i:Nat):tokAt eS eL eR s i=⟨i,bs (tokL eS eL eR ((byl s).drop i)).1,(tokL eS eL eR ((byl s).drop i)).2⟩:=by
 unfold tokAt
 rw[qfl]
 cases hd:(byl s).drop i with
 | nil=>rfl
 | cons c r=>
  have hlen:s.size-i=r.length+1:=by
   have:=congrArg List.length hd
   rw[List.length_drop,qaI,List.length_cons] at this
   exact this
  have e1 : ∀ p,s.extract i (qoo p s (s.size-i) i)=bs ((c::r).take (qbk p (c::r))):=fun p=>by
   rw[qmt p s _ i (Nat.le_refl _),qb3,hd]
  have e2:s.extract i (i+2)=bs ((c::r).take 2):=by rw[qb3,hd]
  have e3:s.extract i (i+1)=bs [c]:=by rw[qb3,hd]; rfl
  have hw : ∀ p,((c::r).take (qbk p (c::r))).length=qbk p (c::r):=fun p=>by
   rw[List.length_take,Nat.min_eq_left (qeD p _)]
  simp only[List.head?_cons,e1,e2,e3,tokL,qaG,hw,qaU,ByteArray.toList_eq]
  split
  ·rfl
  split
  ·simp[bs]
  have e4:(i+2<=s.size/\bs ((c::r).take 2)∈qc3)↔bs ((c::r).take 2)∈qc3:=by
   refine⟨fun h=>h.2,fun h=>⟨?_,h⟩⟩
   have:=qef h
   rw[qaG,List.length_take,List.length_cons] at this
   omega
  simp only[e4]
  split
  ·rfl
  split<;>rfl
theorem qkA (eS eL eR:Nat) (s:ByteArray) : ∀ (n i:Nat),qbK eS eL eR s n i=qoi eS eL eR n i ((byl s).drop i)
 | 0,i=>rfl
 | n+1,i=>by
  rw[qbK,qoi]
  simp only[qh5 s _ false i (Nat.le_refl _),qcT,qaG,<- List.drop_drop,qkA eS eL eR s n,List.drop_drop]
end Go.Pm
end SYe
section SYf
namespace Go.Pm
def qbQ (p:Bool) (t:ByteArray):Bool:=match (byl t).getLast? with
 | some c=>qau c
 | none=>p
def gap (p:Bool) (t:ByteArray):List UInt8:=if p&&qar qau t then [32] else []
def qay:Bool->List ByteArray->List UInt8
 | _,[]=>[]
 | p,t::ts=>gap p t++(byl t++qay (qbQ p t) ts)
def ql2 (p:Bool) (ts:List ByteArray):Bool:=ts.foldl qbQ p
theorem qec : ∀ (a b:List ByteArray) (p:Bool),qay p (a++b)=qay p a++qay (ql2 p a) b
 | [],b,p=>rfl
 | t::a,b,p=>by simp only[List.cons_append,qay,qec a b,List.append_assoc,ql2,List.foldl_cons]
theorem qaZ (p:UInt8->Bool) (t:ByteArray):qar p t=match (byl t).head? with | some c=>p c | none=>false:=by
 unfold qar
 rw[qfl,List.drop_zero]
 all_goals (cases (byl t).head?<;>rfl)
def Tg (w:List UInt8):Prop:=
 (∃ c r,w=c::r/\qaL c=true/\(∀ b∈r,qau b=true) /\ ¬ (8<w.length/\bs w∉fieldNames/\bs w∉wordNames)) \/
 (∃ c r,w=c::r/\qam c=true/\(∀ b∈r,qam b=true)/\digV w<=2147483647) \/
 bs w∈qc3 \/ ∃ c,w=[c]/\c.toNat∈qhI
def Fol:List UInt8->List UInt8->Prop
 | c::r,d::_=>if qaL c then qau d=false else if qam c then qam d=false else r=[]->bs [c,d]∉qc3
 | _,_=>True
theorem qhT (p:UInt8->Bool) : ∀ (w r:List UInt8),(∀ b∈w,p b=true)->(∀ d,r.head?=some d->p d=false)->qbk p (w++r)=w.length
 | [],[],_,_=>rfl
 | [],d::r,_,h=>by simp[qbk,h d rfl]
 | b::w,r,h,h2=>by
  simp only[List.cons_append,qbk,h b (List.mem_cons_self ..),if_true,List.length_cons]
  rw[qhT p w r (fun x hx=>h x (List.mem_cons_of_mem _ hx)) h2]
theorem qki {c:UInt8} (h:qaL c=true):qau c=true:=by simp[qau,h]
theorem qkj {c:UInt8} (h:qam c=true):qau c=true:=by simp[qau,h]
theorem pair_cases {w:List UInt8} (h:bs w∈qc3):w=[124,124]\/w=[38,38]\/w=[60,61]\/w=[62,61]\/w=[61,61]\/w=[33,61]:=by
 simp only[qc3,List.mem_cons,List.not_mem_nil,or_false] at h
 rcases h with h | h | h | h | h | h<;>have:=qi1 h<;>simp[this]
theorem qdR {c:UInt8} (h:c.toNat∈qhI):c=123\/c=125\/c=91\/c=93\/c=40\/c=41\/c=61\/c=59\/c=44\/c=60\/c=62\/c=43\/c=45\/c=42\/c=47\/c=33:=by
 simp only[qhI,List.mem_cons,List.not_mem_nil,or_false] at h
 simp only[<- UInt8.toNat_inj]
 exact h
theorem ql3 (eS eL eR:Nat) {w rest:List UInt8} (h:Tg w) (hf:Fol w rest):tokL eS eL eR (w++rest)=(w,0):=by
 have take_len : ∀ k,k=w.length->(w++rest).take k=w:=fun k hk=>by rw[hk,List.take_left]
 rcases h with ⟨c,r,rfl,hc,hr,hb⟩ | ⟨c,r,rfl,hc,hr,hb⟩ | hp | ⟨c,rfl,hc⟩
 ·have hrun:qbk qau (c::r++rest)=(c::r).length:=by
   apply qhT
   ·intro b hb'
    rcases List.mem_cons.1 hb' with rfl | hb'
    ·exact qki hc
    ·exact hr b hb'
   ·intro d hd
    cases rest with
    | nil=>cases hd
    | cons e rest=>
     cases hd
     simp only[Fol,hc,if_true] at hf
     exact hf
  have ht:=take_len _ rfl
  simp only[List.cons_append] at hrun ht ⊢
  simp only[tokL,hc,if_true,hrun,ht,if_neg hb]
 ·have hnl:qaL c=false:=by
   simp only[qam,qaL,Bool.and_eq_true,decide_eq_true_eq,Bool.and_eq_false_iff,decide_eq_false_iff_not] at hc ⊢
   omega
  have hrun:qbk qam (c::r++rest)=(c::r).length:=by
   apply qhT
   ·intro b hb'
    rcases List.mem_cons.1 hb' with rfl | hb'
    ·exact hc
    ·exact hr b hb'
   ·intro d hd
    cases rest with
    | nil=>cases hd
    | cons e rest=>
     cases hd
     simp only[Fol,hc,hnl,if_true] at hf
     exact hf
  have ht:=take_len _ hrun
  simp only[List.cons_append] at hrun ht ⊢
  simp only[tokL,hc,hnl,if_true,ht,if_neg (Nat.not_lt.2 hb)]
  simp
 ·rcases pair_cases hp with rfl | rfl | rfl | rfl | rfl | rfl<;>simp[tokL,qaL,qam,hp]
 ·have h2:bs ((c::rest).take 2)∉qc3:=by
   cases rest with
   | nil=>intro h; have:=qef h; rw[qaG] at this; simp at this
   | cons d rest=>
    have hl:qaL c=false/\qam c=false:=by rcases qdR hc with rfl | rfl | rfl | rfl | rfl | rfl | rfl | rfl | rfl | rfl | rfl | rfl | rfl | rfl | rfl | rfl<;>exact⟨rfl,rfl⟩
    simp only[Fol,hl.1,hl.2] at hf
    simpa using hf
  have hl:qaL c=false/\qam c=false:=by rcases qdR hc with rfl | rfl | rfl | rfl | rfl | rfl | rfl | rfl | rfl | rfl | rfl | rfl | rfl | rfl | rfl | rfl<;>exact⟨rfl,rfl⟩
  simp only[List.cons_append,List.nil_append,tokL,hl.1,hl.2,if_neg h2,if_pos hc,Bool.false_eq_true,if_false]
theorem qey {w:List UInt8} (h:Tg w) : ∃ c r,w=c::r/\c.toNat≠10/\c.toNat≠32/\c.toNat≠9/\c.toNat≠35:=by
 rcases h with ⟨c,r,rfl,hc,hr,hb⟩ | ⟨c,r,rfl,hc,hr,hb⟩ | hp | ⟨c,rfl,hc⟩
 ·simp only[qaL,Bool.and_eq_true,decide_eq_true_eq] at hc
  exact⟨c,r,rfl,by omega,by omega,by omega,by omega⟩
 ·simp only[qam,Bool.and_eq_true,decide_eq_true_eq] at hc
  exact⟨c,r,rfl,by omega,by omega,by omega,by omega⟩
 ·rcases pair_cases hp with rfl | rfl | rfl | rfl | rfl | rfl<;>exact⟨_,_,rfl,by decide,by decide,by decide,by decide⟩
 ·rcases qdR hc with rfl | rfl | rfl | rfl | rfl | rfl | rfl | rfl | rfl | rfl | rfl | rfl | rfl | rfl | rfl | rfl<;>exact⟨_,_,rfl,by decide,by decide,by decide,by decide⟩
def Adj (t u:ByteArray):Prop:=(t≠bs [60]/\t≠bs [62]/\t≠bs [61]/\t≠bs [33])\/(byl u).head?≠some 61
def Ok2:List ByteArray->Prop
 | []=>True
 | t::r=>Tg (byl t)/\(∀ u,r.head?=some u->Adj t u)/\Ok2 r
theorem ql4 {w:List UInt8} {p:Bool} (h:bs w∈qc3 \/ ∃ c,w=[c]/\c.toNat∈qhI):qbQ p (bs w)=false:=by
 unfold qbQ
 rw[qaU]
 rcases h with hp | ⟨c,rfl,hc⟩
 ·rcases pair_cases hp with rfl | rfl | rfl | rfl | rfl | rfl<;>rfl
 ·rcases qdR hc with rfl | rfl | rfl | rfl | rfl | rfl | rfl | rfl | rfl | rfl | rfl | rfl | rfl | rfl | rfl | rfl<;>rfl
theorem qkY {w:List UInt8} {p:Bool} (h : ∃ c r,w=c::r/\qau c=true /\ ∀ b∈r,qau b=true):qbQ p (bs w)=true:=by
 obtain⟨c,r,rfl,hc,hr⟩:=h
 unfold qbQ
 rw[qaU]
 cases hl:(c::r).getLast? with
 | none=>simp at hl
 | some b=>
  have:=List.mem_of_getLast? hl
  rcases List.mem_cons.1 this with rfl | h
  ·exact hc
  ·exact hr b h
theorem qnj {p:Bool} {t u:ByteArray} (ht:Tg (byl t)) (hu:Tg (byl u)) (ha:Adj t u) (r:List UInt8):Fol (byl t) (gap (qbQ p t) u++(byl u++r)):=by
 obtain⟨d,w,hd,-⟩:=qey hu
 have hs:qar qau u=qau d:=by rw[qaZ,hd]; rfl
 have hword:(∃ c r,byl t=c::r/\qau c=true /\ ∀ b∈r,qau b=true) -> ∀ e q,gap (qbQ p t) u++(byl u++r)=e::q->qau e=false:=fun h e q he=>by
  have h1:qbQ p t=true:=by
   have:=qkY (p:=p) h
   rwa [qcr] at this
  rw[h1,gap,hs,hd] at he
  cases hwd:qau d with
  | true=>simp[hwd] at he; rw[<- he.1]; rfl
  | false=>simp[hwd] at he; rw[<- he.1]; exact hwd
 cases he:gap (qbQ p t) u++(byl u++r) with
 | nil=>cases byl t<;>trivial
 | cons e q=>
  rcases ht with ⟨c,r',hw,hc,hr,hb⟩ | ⟨c,r',hw,hc,hr,hb⟩ | hp | ⟨c,hw,hc⟩
  ·have:=hword ⟨c,r',hw,qki hc,hr⟩ e q he
   rw[hw]
   simp only[Fol,hc,if_true]
   exact this
  ·have:=hword ⟨c,r',hw,qkj hc,fun b h=>qkj (hr b h)⟩ e q he
   rw[hw]
   have hnl:qaL c=false:=by
    simp only[qam,qaL,Bool.and_eq_true,decide_eq_true_eq,Bool.and_eq_false_iff,decide_eq_false_iff_not] at hc ⊢
    omega
   simp only[Fol,hc,hnl,if_true]
   simp only[qau,Bool.or_eq_false_iff] at this
   exact this.2
  ·rcases pair_cases hp with h | h | h | h | h | h<;>rw[h]<;>simp[Fol,qaL,qam]
  ·have h1:qbQ p t=false:=by
    have:=ql4 (p:=p) (.inr ⟨c,hw,hc⟩)
    rwa [qcr] at this
   rw[h1,gap,hd] at he
   simp at he
   have hed:e=d:=he.1.symm
   rw[hw]
   have hl:qaL c=false/\qam c=false:=by rcases qdR hc with rfl | rfl | rfl | rfl | rfl | rfl | rfl | rfl | rfl | rfl | rfl | rfl | rfl | rfl | rfl | rfl<;>exact⟨rfl,rfl⟩
   simp only[Fol,hl.1,hl.2]
   simp only[Bool.false_eq_true,if_false]
   intro _ hpr
   have htb:t=bs [c]:=by rw[<- qcr t,hw]
   rw[hed] at hpr
   rcases ha with ⟨a1,a2,a3,a4⟩ | ha
   ·rcases pair_cases hpr with h | h | h | h | h | h<;>simp only[List.cons.injEq,and_true] at h
    ·rw[h.1] at hc; simp[qhI] at hc
    ·rw[h.1] at hc; simp[qhI] at hc
    ·exact a1 (by rw[htb,h.1])
    ·exact a2 (by rw[htb,h.1])
    ·exact a3 (by rw[htb,h.1])
    ·exact a4 (by rw[htb,h.1])
   ·rw[hd] at ha
    simp only[List.head?_cons] at ha
    rcases pair_cases hpr with h | h | h | h | h | h<;>simp only[List.cons.injEq,and_true] at h
    ·rw[h.1] at hc; simp[qhI] at hc
    ·rw[h.1] at hc; simp[qhI] at hc
    ·exact ha (by rw[h.2])
    ·exact ha (by rw[h.2])
    ·exact ha (by rw[h.2])
    ·exact ha (by rw[h.2])
end Go.Pm
end SYf
section SYg
namespace Go.Pm
variable {eS eL eD:Nat} {f fi fb:Bool}
theorem qdr : ∀ n:Nat,
  (∀ p lv ts x,qak eS eL f n p lv ts=some x->qak eS eL f (n+1) p lv ts=some x) /\
  (∀ p lv e ts x,qb8 eS eL f n p lv e ts=some x->qb8 eS eL f (n+1) p lv e ts=some x) /\
  (∀ lv ts x,qbZ eS eL f n lv ts=some x->qbZ eS eL f (n+1) lv ts=some x)
 | 0=>⟨fun p lv ts x h=>by simp[qak] at h,fun p lv e ts x h=>by simp[qb8] at h,fun lv ts x h=>by simp[qbZ] at h⟩
 | n+1=>by
  obtain⟨ihe,ihl,ihi⟩:=qdr n
  refine⟨fun p lv ts x h=>?_,fun p lv e ts x h=>?_,fun lv ts x h=>?_⟩
  ·rw[qak] at h ⊢
   split at h
   ·rename_i c1
    rw[if_pos c1]
    cases ho:qc4 eS eL (ustr (p==7)) (lv+1) ts with
    | er i c=>simp only[ho] at h ⊢; exact h
    | ok u r=>
     simp only[ho] at h ⊢
     cases hq:qak eS eL f n p (lv+1) r with
     | none=>simp[hq] at h
     | some y=>rw[ihe _ _ _ _ hq]; rw[hq] at h; exact h
   ·rename_i c1
    rw[if_neg c1]
    split at h
    ·rename_i c2
     rw[if_pos c2]
     cases hq:qak eS eL f n (p+1) lv ts with
     | none=>simp[hq] at h
     | some y=>
      rw[ihe _ _ _ _ hq]; rw[hq] at h
      cases y with
      | er i c=>exact h
      | ok e r=>exact ihl _ _ _ _ _ h
    ·rename_i c2
     rw[if_neg c2]
     cases hn:nx ts with
     | none=>simp only[hn] at h ⊢; exact h
     | some s=>
      simp only[hn] at h ⊢
      split at h
      ·rename_i c; rw[if_pos c]; exact h
      rename_i c; rw[if_neg c]
      split at h
      ·rename_i c; rw[if_pos c]; exact h
      rename_i c; rw[if_neg c]
      split at h
      ·rename_i c; rw[if_pos c]; exact h
      rename_i c; rw[if_neg c]
      split at h
      ·rename_i c; rw[if_pos c]; exact h
      rename_i c; rw[if_neg c]
      split at h
      ·rename_i c; rw[if_pos c]
       cases hq:qbZ eS eL f n lv ts.tail with
       | none=>simp[hq] at h
       | some y=>rw[ihi _ _ _ hq]; rw[hq] at h; exact h
      rename_i c; rw[if_neg c]
      split at h
      ·rename_i c; rw[if_pos c]; exact h
      rename_i c; rw[if_neg c]
      cases ho:qc4 eS eL (bs [40]) (lv+1) ts with
      | er i c=>simp only[ho] at h ⊢; exact h
      | ok u r=>
       simp only[ho] at h ⊢
       cases hq:qak eS eL f n 1 (lv+1) r with
       | none=>simp[hq] at h
       | some y=>rw[ihe _ _ _ _ hq]; rw[hq] at h; exact h
  ·rw[qb8] at h ⊢
   cases hn:nx ts with
   | none=>simp only[hn] at h ⊢; exact h
   | some s=>
    simp only[hn] at h ⊢
    cases ho:qjj p s with
    | none=>simp only[ho] at h ⊢; exact h
    | some o=>
     simp only[ho] at h ⊢
     cases hq:qak eS eL f n (p+1) lv ts.tail with
     | none=>simp[hq] at h
     | some y=>
      rw[ihe _ _ _ _ hq]; rw[hq] at h
      cases y with
      | er i c=>exact h
      | ok e' r=>
       simp only at h ⊢
       split at h
       ·rename_i c; rw[if_pos c]; exact h
       ·rename_i c; rw[if_neg c]; exact ihl _ _ _ _ _ h
  ·rw[qbZ] at h ⊢
   cases ho:qc4 eS eL (bs [91]) (lv+1) ts with
   | er i c=>simp only[ho] at h ⊢; exact h
   | ok u r=>
    simp only[ho] at h ⊢
    cases hq:qak eS eL f n 1 (lv+1) r with
    | none=>simp[hq] at h
    | some y=>rw[ihe _ _ _ _ hq]; rw[hq] at h; exact h
theorem qb2 {n m p lv:Nat} {ts:List Tk} {x:Rz E} (h:qak eS eL f n p lv ts=some x) (hm:n<=m):qak eS eL f m p lv ts=some x:=by
 induction hm with
 | refl=>exact h
 | step _ ih=>exact (qdr _).1 _ _ _ _ ih
theorem qg7 {n m p lv:Nat} {e:E} {ts:List Tk} {x:Rz E} (h:qb8 eS eL f n p lv e ts=some x) (hm:n<=m):qb8 eS eL f m p lv e ts=some x:=by
 induction hm with
 | refl=>exact h
 | step _ ih=>exact (qdr _).2.1 _ _ _ _ _ ih
theorem qju {n m lv:Nat} {ts:List Tk} {x:Rz E} (h:qbZ eS eL f n lv ts=some x) (hm:n<=m):qbZ eS eL f m lv ts=some x:=by
 induction hm with
 | refl=>exact h
 | step _ ih=>exact (qdr _).2.2 _ _ _ ih
theorem qez : ∀ n:Nat,
  (∀ lv ts x,qdA eS eL f fi fb n lv ts=some x->qdA eS eL f fi fb (n+1) lv ts=some x) /\
  (∀ lv ts x,qbm eS eL f fi fb n lv ts=some x->qbm eS eL f fi fb (n+1) lv ts=some x) /\
  (∀ lv a ts x,qcR eS eL f fi fb n lv a ts=some x->qcR eS eL f fi fb (n+1) lv a ts=some x)
 | 0=>⟨fun lv ts x h=>by simp[qdA] at h,fun lv ts x h=>by simp[qbm] at h,fun lv a ts x h=>by simp[qcR] at h⟩
 | n+1=>by
  obtain⟨ihs,ihb,ihl⟩:=qez n
  refine⟨fun lv ts x h=>?_,fun lv ts x h=>?_,fun lv a ts x h=>?_⟩
  ·have second : ∀ (r:List Tk) (g:E->Ss) y,(match qak eS eL f n 1 lv r with
      | some (.ok b r2)=>some (qbC eS (g b) r2)
      | some (.er i k)=>some (.er i k)
      | none=>none)=some y->(match qak eS eL f (n+1) 1 lv r with
      | some (.ok b r2)=>some (qbC eS (g b) r2)
      | some (.er i k)=>some (.er i k)
      | none=>none)=some y:=fun r g y hy=>by
     cases hq:qak eS eL f n 1 lv r with
     | none=>simp[hq] at hy
     | some z=>rw[qb2 hq (Nat.le_succ n)]; rw[hq] at hy; exact hy
   rw[qdA] at h ⊢
   cases hn:nx ts with
   | none=>simp only[hn] at h ⊢; exact h
   | some s=>
    simp only[hn] at h ⊢
    split at h
    ·rename_i c; rw[if_pos c]
     cases hq:qak eS eL f n 1 lv ts.tail with
     | none=>simp[hq] at h
     | some y=>
      rw[qb2 hq (Nat.le_succ n)]; rw[hq] at h
      cases y with
      | er i c=>exact h
      | ok e r=>
       simp only at h ⊢
       cases hb:qbm eS eL f fi fb n (lv+1) r with
       | none=>simp[hb] at h
       | some z=>
        rw[ihb _ _ _ hb]; rw[hb] at h
        cases z with
        | er i c=>exact h
        | ok b r1=>
         simp only at h ⊢
         cases hn1:nx r1 with
         | none=>simp only[hn1] at h ⊢; exact h
         | some w=>
          simp only[hn1] at h ⊢
          split at h
          ·rename_i c'; rw[if_pos c']
           cases hb2:qbm eS eL f fi fb n (lv+1) r1.tail with
           | none=>simp[hb2] at h
           | some z2=>rw[ihb _ _ _ hb2]; rw[hb2] at h; exact h
          ·rename_i c'; rw[if_neg c']; exact h
    rename_i c; rw[if_neg c]
    split at h
    ·rename_i c; rw[if_pos c]
     cases hq:qak eS eL f n 1 lv ts.tail with
     | none=>simp[hq] at h
     | some y=>
      rw[qb2 hq (Nat.le_succ n)]; rw[hq] at h
      cases y with
      | er i c=>exact h
      | ok e r=>
       simp only at h ⊢
       cases hb:qbm eS eL f fi fb n (lv+1) r with
       | none=>simp[hb] at h
       | some z=>rw[ihb _ _ _ hb]; rw[hb] at h; exact h
    rename_i c; rw[if_neg c]
    split at h
    ·rename_i c; rw[if_pos c]
     cases hq:qak eS eL f n 1 lv ts.tail with
     | none=>simp[hq] at h
     | some y=>
      rw[qb2 hq (Nat.le_succ n)]; rw[hq] at h
      cases y with
      | er i c=>exact h
      | ok e r=>
       simp only at h ⊢
       cases hx:qaF eS (bs [44]) r with
       | er i c=>simp only[hx] at h ⊢; exact h
       | ok u r1=>simp only[hx] at h ⊢; exact second r1 (fun b => .effect f e b .nil) x h
    rename_i c; rw[if_neg c]
    split at h
    ·rename_i c; rw[if_pos c]; exact h
    rename_i c; rw[if_neg c]
    split at h
    ·rename_i c; rw[if_pos c]
     cases hq:qbZ eS eL f n lv ts.tail with
     | none=>simp[hq] at h
     | some y=>
      rw[qju hq (Nat.le_succ n)]; rw[hq] at h
      cases y with
      | er i c=>exact h
      | ok e r=>
       simp only at h ⊢
       cases hx:qaF eS (bs [61]) r with
       | er i c=>simp only[hx] at h ⊢; exact h
       | ok u r1=>simp only[hx] at h ⊢; exact second r1 (fun b => .store f s e b .nil) x h
    rename_i c; rw[if_neg c]
    split at h
    ·rename_i c; rw[if_pos c]
     cases hx:qaF eS (bs [61]) ts.tail with
     | er i c=>simp only[hx] at h ⊢; exact h
     | ok u r1=>simp only[hx] at h ⊢; exact second r1 (fun b => .assign f s b .nil) x h
    ·rename_i c; rw[if_neg c]; exact h
  ·rw[qbm] at h ⊢
   cases ho:qc4 eS eL (bs [123]) lv ts with
   | er i c=>simp only[ho] at h ⊢; exact h
   | ok u r=>simp only[ho] at h ⊢; exact ihl _ _ _ _ h
  ·rw[qcR] at h ⊢
   cases hn:nx ts with
   | none=>simp only[hn] at h ⊢; exact h
   | some s=>
    simp only[hn] at h ⊢
    split at h
    ·rename_i c; rw[if_pos c]; exact h
    ·rename_i c; rw[if_neg c]
     cases hq:qdA eS eL f fi fb n lv ts with
     | none=>simp[hq] at h
     | some y=>
      rw[ihs _ _ _ hq]; rw[hq] at h
      cases y with
      | er i c=>exact h
      | ok b r=>exact ihl _ _ _ _ h
theorem qkZ {n m lv:Nat} {ts:List Tk} {x:Rz Ss} (h:qdA eS eL f fi fb n lv ts=some x) (hm:n<=m):qdA eS eL f fi fb m lv ts=some x:=by
 induction hm with
 | refl=>exact h
 | step _ ih=>exact (qez _).1 _ _ _ ih
theorem qjv {n m lv:Nat} {ts:List Tk} {x:Rz Ss} (h:qbm eS eL f fi fb n lv ts=some x) (hm:n<=m):qbm eS eL f fi fb m lv ts=some x:=by
 induction hm with
 | refl=>exact h
 | step _ ih=>exact (qez _).2.1 _ _ _ ih
theorem qgi : ∀ (n:Nat) h ts x,qdO eS eL eD f fi fb n h ts=some x->qdO eS eL eD f fi fb (n+1) h ts=some x
 | 0,h,ts,x,e=>by simp[qdO] at e
 | n+1,h,ts,x,e=>by
  rw[qdO] at e ⊢
  cases hn:nx ts with
  | none=>simp only[hn] at e ⊢; exact e
  | some s=>
   simp only[hn] at e ⊢
   split at e
   ·rename_i c; rw[if_pos c]; exact e
   rename_i c; rw[if_neg c]
   cases hx:qaF eS (bs [111,110]) ts with
   | er i c=>simp only[hx] at e ⊢; exact e
   | ok u r=>
    simp only[hx] at e ⊢
    cases hn2:nx r with
    | none=>simp only[hn2] at e ⊢; exact e
    | some w=>
     simp only[hn2] at e ⊢
     cases hh:qbw w with
     | none=>simp only[hh] at e ⊢; exact e
     | some k=>
      simp only[hh] at e ⊢
      split at e
      ·rename_i c; rw[if_pos c]; exact e
      rename_i c; rw[if_neg c]
      cases hb:qbm eS eL f fi fb n 1 r.tail with
      | none=>simp[hb] at e
      | some y=>
       rw[qjv hb (Nat.le_succ n)]; rw[hb] at e
       cases y with
       | er i c=>exact e
       | ok b r1=>exact qgi n _ _ _ e
theorem qg8 {n m:Nat} {h:Nat->Option Ss} {ts:List Tk} {x:Rz (Nat->Option Ss)} (e:qdO eS eL eD f fi fb n h ts=some x) (hm:n<=m):qdO eS eL eD f fi fb m h ts=some x:=by
 induction hm with
 | refl=>exact e
 | step _ ih=>exact qgi _ _ _ _ ih
end Go.Pm
end SYg
