/- Trees of rule programs: expressions, statements, rows of nodes, as the abstract machine's data; names. No program in sight. The rule language in plain Lean: tokens of a source, the parser over them. No program in sight. The rule language in plain Lean: statements, blocks, programs. No program in sight. The plain parser ends. The plain parser of statements and programs ends. The rule language in plain Lean: tokens over lists of bytes. No program in sight. The rule language in plain Lean: a source written down from its tokens is read back. No program in sight. The rule language in plain Lean: more steps change no result. No program in sight. The rule language in plain Lean: expressions written down, and read back. No program in sight. The rule language in plain Lean: statements and programs written down, and read back. No program in sight. -/
import Derived.Test.YtjdbkncfebebnaaDoorPmY
import Derived.Laws.Strings
import Derived.KernelRfl
set_option linter.unusedSimpArgs false
set_option linter.unusedVariables false
section SEt
namespace Go.Pm
inductive Bop where
 | add | sub | mul | div | lt | le | gt | ge | eq | ne | and | or
def Bop.str:Bop->ByteArray
 | .add=>⟨#[43]⟩ | .sub=>⟨#[45]⟩ | .mul=>⟨#[42]⟩ | .div=>⟨#[47]⟩
 | .lt=>⟨#[60]⟩ | .le=>⟨#[60,61]⟩ | .gt=>⟨#[62]⟩ | .ge=>⟨#[62,61]⟩ | .eq=>⟨#[61,61]⟩ | .ne=>⟨#[33,61]⟩
 | .and=>⟨#[38,38]⟩ | .or=>⟨#[124,124]⟩
def Bop.opd:Bop->Int
 | .and | .or=>2
 | _=>1
def Bop.res:Bop->Int
 | .add | .sub | .mul | .div=>1
 | _=>2
def ustr (neg:Bool):ByteArray:=if neg then ⟨#[45]⟩ else ⟨#[33]⟩
inductive E where
 | int (n:Int)
 | bool (n:Int)
 | var (s:ByteArray)
 | name (s:ByteArray)
 | field (f:Bool) (s:ByteArray) (e:E)
 | un (f:Bool) (neg:Bool) (e:E)
 | bin (f:Bool) (o:Bop) (a b:E)
def E.kind:E->Int
 | .int _=>8 | .bool _=>9 | .var _=>10 | .field .. => 11 | .name _=>12 | .un .. => 13 | .bin .. => 14
def E.num:E->Int
 | .int n=>n | .bool n=>n | _=>0
def E.str:E->ByteArray
 | .var s=>s | .name s=>s | .field _ s _=>s | .un _ neg _=>ustr neg | .bin _ o _ _=>o.str | _=>⟨#[]⟩
def E.kids:E->D
 | .field f _ e => .sl [.lit (.int .i64 e.kind),.lit (.int .i64 e.num),.lit (.string e.str),e.kids] 1 f
 | .un f _ e => .sl [.lit (.int .i64 e.kind),.lit (.int .i64 e.num),.lit (.string e.str),e.kids] 1 f
 | .bin f _ a b => .sl [.lit (.int .i64 a.kind),.lit (.int .i64 a.num),.lit (.string a.str),a.kids,.lit (.int .i64 b.kind),.lit (.int .i64 b.num),.lit (.string b.str),b.kids] 2 f
 | _ => .lit (.slice none 0 0)
@[simp] theorem qsZ (e:E):V.one (.dat e.kids)=true:=by cases e<;>rfl
@[simp] theorem qrf (e:E):V.cells (.dat e.kids)=[.dat e.kids]:=by cases e<;>rfl
abbrev E.node (e:E):V := .dat (.agg [.lit (.int .i64 e.kind),.lit (.int .i64 e.num),.lit (.string e.str),e.kids])
def E.size:E->Nat
 | .field _ _ e=>e.size+1
 | .un _ _ e=>e.size+1
 | .bin _ _ a b=>a.size+b.size+1
 | _=>1
@[simp] theorem qoS (n:Int):E.size (.int n)=1:=rfl
@[simp] theorem qni (n:Int):E.size (.bool n)=1:=rfl
@[simp] theorem qoT (s:ByteArray):E.size (.var s)=1:=rfl
@[simp] theorem qnj (s:ByteArray):E.size (.name s)=1:=rfl
@[simp] theorem qh3 (f:Bool) (s:ByteArray) (e:E):E.size (.field f s e)=e.size+1:=rfl
@[simp] theorem qko (f neg:Bool) (e:E):E.size (.un f neg e)=e.size+1:=rfl
@[simp] theorem qgu (f:Bool) (o:Bop) (a b:E):E.size (.bin f o a b)=a.size+b.size+1:=rfl
def E.ok:E->Prop
 | .var s=>s.size<=100
 | .field _ _ e=>e.ok
 | .un _ _ e=>e.ok
 | .bin _ _ a b=>a.ok/\b.ok
 | _=>True
def E.ty:E->Int
 | .int _ | .var _ | .name _=>1
 | .bool _=>2
 | .field _ _ e=>if e.ty=1 then 1 else 0
 | .un _ neg e=>if e.ty=(if neg then 1 else 2) then (if neg then 1 else 2) else 0
 | .bin _ o a b=>if a.ty=o.opd/\b.ty=o.opd then o.res else 0
@[simp] theorem qs0 (n:Int):E.kind (.int n)=8:=rfl
@[simp] theorem qtV (n:Int):E.num (.int n)=n:=rfl
@[simp] theorem qtW (n:Int):E.str (.int n)=⟨#[]⟩:=rfl
@[simp] theorem qs1 (n:Int):E.kids (.int n) = .lit (.slice none 0 0):=rfl
@[simp] theorem quj (n:Int):E.ty (.int n)=1:=rfl
@[simp] theorem qsv (n:Int):E.kind (.bool n)=9:=rfl
@[simp] theorem qs2 (n:Int):E.num (.bool n)=n:=rfl
@[simp] theorem qs3 (n:Int):E.str (.bool n)=⟨#[]⟩:=rfl
@[simp] theorem qsw (n:Int):E.kids (.bool n) = .lit (.slice none 0 0):=rfl
@[simp] theorem qtX (n:Int):E.ty (.bool n)=2:=rfl
@[simp] theorem qs4 (s:ByteArray):E.kind (.var s)=10:=rfl
@[simp] theorem qtY (s:ByteArray):E.num (.var s)=0:=rfl
@[simp] theorem qtZ (s:ByteArray):E.str (.var s)=s:=rfl
@[simp] theorem qs5 (s:ByteArray):E.kids (.var s) = .lit (.slice none 0 0):=rfl
@[simp] theorem quk (s:ByteArray):E.ty (.var s)=1:=rfl
@[simp] theorem qsx (s:ByteArray):E.kind (.name s)=12:=rfl
@[simp] theorem qs6 (s:ByteArray):E.num (.name s)=0:=rfl
@[simp] theorem qs7 (s:ByteArray):E.str (.name s)=s:=rfl
@[simp] theorem qsy (s:ByteArray):E.kids (.name s) = .lit (.slice none 0 0):=rfl
@[simp] theorem qt0 (s:ByteArray):E.ty (.name s)=1:=rfl
@[simp] theorem qrg (f:Bool) (s:ByteArray) (e:E):E.kind (.field f s e)=11:=rfl
@[simp] theorem qsz (f:Bool) (s:ByteArray) (e:E):E.num (.field f s e)=0:=rfl
@[simp] theorem qsA (f:Bool) (s:ByteArray) (e:E):E.str (.field f s e)=s:=rfl
@[simp] theorem qlS (f:Bool) (s:ByteArray) (e:E):E.kids (.field f s e) = .sl [.lit (.int .i64 e.kind),.lit (.int .i64 e.num),.lit (.string e.str),e.kids] 1 f:=rfl
@[simp] theorem qs8 (f:Bool) (s:ByteArray) (e:E):E.ty (.field f s e)=if e.ty=1 then 1 else 0:=rfl
@[simp] theorem qt1 (f:Bool) (neg:Bool) (e:E):E.kind (.un f neg e)=13:=rfl
@[simp] theorem qul (f:Bool) (neg:Bool) (e:E):E.num (.un f neg e)=0:=rfl
@[simp] theorem qum (f:Bool) (neg:Bool) (e:E):E.str (.un f neg e)=ustr neg:=rfl
@[simp] theorem qqS (f:Bool) (neg:Bool) (e:E):E.kids (.un f neg e) = .sl [.lit (.int .i64 e.kind),.lit (.int .i64 e.num),.lit (.string e.str),e.kids] 1 f:=rfl
@[simp] theorem quH (f:Bool) (neg:Bool) (e:E):E.ty (.un f neg e)=if e.ty=(if neg then 1 else 2) then (if neg then 1 else 2) else 0:=rfl
@[simp] theorem qs9 (f:Bool) (o:Bop) (a b:E):E.kind (.bin f o a b)=14:=rfl
@[simp] theorem qt2 (f:Bool) (o:Bop) (a b:E):E.num (.bin f o a b)=0:=rfl
@[simp] theorem qt3 (f:Bool) (o:Bop) (a b:E):E.str (.bin f o a b)=o.str:=rfl
@[simp] theorem qoU (f:Bool) (o:Bop) (a b:E):E.kids (.bin f o a b) = .sl [.lit (.int .i64 a.kind),.lit (.int .i64 a.num),.lit (.string a.str),a.kids,.lit (.int .i64 b.kind),.lit (.int .i64 b.num),.lit (.string b.str),b.kids] 2 f:=rfl
@[simp] theorem qun (f:Bool) (o:Bop) (a b:E):E.ty (.bin f o a b)=if a.ty=o.opd/\b.ty=o.opd then o.res else 0:=rfl
def kd (f:Bool):Nat->List D->D
 | 0,_ => .lit (.slice none 0 0)
 | n+1,cs => .sl cs (n+1) f
@[simp] theorem qup (f:Bool) (n:Nat) (cs:List D):V.one (.dat (kd f n cs))=true:=by cases n<;>rfl
@[simp] theorem qta (f:Bool) (n:Nat) (cs:List D):V.cells (.dat (kd f n cs))=[.dat (kd f n cs)]:=by cases n<;>rfl
@[simp] theorem quq (σ : S) (f:Bool) (n:Nat) (cs:List D):V.len σ .sl (.dat (kd f n cs))=some n:=by cases n<;>simp[kd,V.len]
@[simp] theorem qtb (f:Bool) (cs:List D):kd f 0 cs = .lit (.slice none 0 0):=rfl
@[simp] theorem qpm (f:Bool) (n:Nat) (cs:List D):kd f (n+1) cs = .sl cs (n+1) f:=rfl
inductive Fo where
 | nil
 | cons (k n:Int) (s:ByteArray) (f:Bool) (kids rest:Fo)
def Fo.len:Fo->Nat
 | .nil=>0
 | .cons _ _ _ _ _ r=>r.len+1
def Fo.cells:Fo->List D
 | .nil=>[]
 | .cons k n s f ks r => .lit (.int .i64 k) :: .lit (.int .i64 n) :: .lit (.string s)::kd f ks.len ks.cells::r.cells
def Fo.app:Fo->Fo->Fo
 | .nil,b=>b
 | .cons k n s f ks r,b => .cons k n s f ks (r.app b)
def Fo.size:Fo->Nat
 | .nil=>0
 | .cons _ _ _ _ ks r=>ks.size+r.size+1
@[simp] theorem qbk:Fo.len .nil=0:=rfl
@[simp] theorem qbB (k n:Int) (s:ByteArray) (f:Bool) (ks r:Fo):(Fo.cons k n s f ks r).len=r.len+1:=rfl
@[simp] theorem qaT:Fo.cells .nil=[]:=rfl
@[simp] theorem qa4 (k n:Int) (s:ByteArray) (f:Bool) (ks r:Fo):(Fo.cons k n s f ks r).cells = .lit (.int .i64 k) :: .lit (.int .i64 n) :: .lit (.string s)::kd f ks.len ks.cells::r.cells:=rfl
@[simp] theorem qaS:Fo.size .nil=0:=rfl
@[simp] theorem qaN (k n:Int) (s:ByteArray) (f:Bool) (ks r:Fo):(Fo.cons k n s f ks r).size=ks.size+r.size+1:=rfl
@[simp] theorem qrh (b:Fo):Fo.app .nil b=b:=rfl
@[simp] theorem qqT (k n:Int) (s:ByteArray) (f:Bool) (ks r b:Fo):(Fo.cons k n s f ks r).app b = .cons k n s f ks (r.app b):=rfl
theorem qc6 (a b:Fo):(a.app b).len=a.len+b.len:=by induction a with
 | nil=>simp
 | cons k n s f ks r _ ih=>simp[ih]; omega
theorem qgc (a b:Fo):(a.app b).cells=a.cells++b.cells:=by induction a with
 | nil=>simp
 | cons k n s f ks r _ ih=>simp[ih]
theorem qg7 (a b:Fo):(a.app b).size=a.size+b.size:=by induction a with
 | nil=>simp
 | cons k n s f ks r _ ih=>simp[ih]; omega
theorem qgd (a:Fo):a.cells.length=a.len*4:=by induction a with
 | nil=>simp
 | cons k n s f ks r _ ih=>simp[ih]; omega
abbrev nd (k n:Int) (s:ByteArray) (f:Bool) (ks:Fo):V := .dat (.agg [.lit (.int .i64 k),.lit (.int .i64 n),.lit (.string s),kd f ks.len ks.cells])
def Fo.hk:Fo->Int
 | .nil=>0
 | .cons k _ _ _ _ _=>k
def Fo.hn:Fo->Int
 | .nil=>0
 | .cons _ n _ _ _ _=>n
def Fo.hs:Fo->ByteArray
 | .nil=>⟨#[]⟩
 | .cons _ _ s _ _ _=>s
def Fo.hf:Fo->Bool
 | .nil=>false
 | .cons _ _ _ f _ _=>f
def Fo.hks:Fo->Fo
 | .nil => .nil
 | .cons _ _ _ _ ks _=>ks
def Fo.tl:Fo->Fo
 | .nil => .nil
 | .cons _ _ _ _ _ r=>r
abbrev Fo.hd (a:Fo):V:=nd a.hk a.hn a.hs a.hf a.hks
def E.flag:E->Bool
 | .field f _ _=>f | .un f _ _=>f | .bin f _ _ _=>f | _=>false
def E.fo:E->Fo->Fo
 | .int n,r => .cons 8 n ⟨#[]⟩ false .nil r
 | .bool n,r => .cons 9 n ⟨#[]⟩ false .nil r
 | .var s,r => .cons 10 0 s false .nil r
 | .name s,r => .cons 12 0 s false .nil r
 | .field f s e,r => .cons 11 0 s f (e.fo .nil) r
 | .un f neg e,r => .cons 13 0 (ustr neg) f (e.fo .nil) r
 | .bin f o a b,r => .cons 14 0 o.str f (a.fo (b.fo .nil)) r
def E.kfo:E->Fo
 | .field _ _ e=>e.fo .nil | .un _ _ e=>e.fo .nil | .bin _ _ a b=>a.fo (b.fo .nil) | _ => .nil
theorem qg8 (e:E) (r:Fo):e.fo r = .cons e.kind e.num e.str e.flag e.kfo r:=by cases e<;>rfl
theorem qnk (e:E):e.kids=kd e.flag e.kfo.len e.kfo.cells:=by
 induction e with
 | field f s e ih=>
  show (E.field f s e).kids=kd f (e.fo .nil).len (e.fo .nil).cells
  rw[qg8]
  simp only[qlS,qbB,qbk,qpm,qa4,qaT,<- ih]
 | un f neg e ih=>
  show (E.un f neg e).kids=kd f (e.fo .nil).len (e.fo .nil).cells
  rw[qg8]
  simp only[qqS,qbB,qbk,qpm,qa4,qaT,<- ih]
 | bin f o a b iha ihb=>
  show (E.bin f o a b).kids=kd f (a.fo (b.fo .nil)).len (a.fo (b.fo .nil)).cells
  rw[qg8,qg8]
  simp only[qoU,qbB,qbk,qpm,qa4,qaT,<- iha,<- ihb]
 | _=>rfl
theorem qcU (e:E) (r:Fo):(e.fo r).size=e.size+r.size:=by
 induction e generalizing r<;>simp only[E.fo,E.size,qaN,qaS, *]<;>omega
@[simp] theorem quI (e:E) (r:Fo):(e.fo r).tl=r:=by rw[qg8]; rfl
inductive Ss where
 | nil
 | assign (f:Bool) (s:ByteArray) (e:E) (r:Ss)
 | store (f:Bool) (s:ByteArray) (a b:E) (r:Ss)
 | effect (f:Bool) (a b:E) (r:Ss)
 | stop (r:Ss)
 | cond (w:Bool) (f:Bool) (c:E) (b:Ss) (r:Ss)
 | block (f:Bool) (b:Ss) (r:Ss)
def qjL:ByteArray:=⟨#[104,105,116]⟩
def qpn:ByteArray:=⟨#[115,116,105,108,108]⟩
def Ss.well:Ss->Bool
 | .nil=>true
 | .assign _ _ e r=>decide (e.ty=1)&&r.well
 | .store _ s a b r=>(!(eqS s qjL||eqS s qpn)&&(decide (a.ty=1)&&decide (b.ty=1)))&&r.well
 | .effect _ a b r=>(decide (a.ty=1)&&decide (b.ty=1))&&r.well
 | .stop r=>r.well
 | .cond _ _ c b r=>(decide (c.ty=2)&&b.well)&&r.well
 | .block _ b r=>b.well&&r.well
def Ss.ok:Ss->Prop
 | .nil=>True
 | .assign _ s e r=>s.size<=100/\e.ok/\r.ok
 | .store _ _ a b r=>a.ok/\b.ok/\r.ok
 | .effect _ a b r=>a.ok/\b.ok/\r.ok
 | .stop r=>r.ok
 | .cond _ _ c b r=>c.ok/\b.ok/\r.ok
 | .block _ b r=>b.ok/\r.ok
def Ss.fo:Ss->Fo
 | .nil => .nil
 | .assign f s e r => .cons 1 0 s f (e.fo .nil) r.fo
 | .store f s a b r => .cons 2 0 s f (a.fo (b.fo .nil)) r.fo
 | .effect f a b r => .cons 5 0 ⟨#[]⟩ f (a.fo (b.fo .nil)) r.fo
 | .stop r => .cons 6 0 ⟨#[]⟩ false .nil r.fo
 | .cond w f c b r => .cons (if w then 4 else 3) 0 ⟨#[]⟩ f (c.fo b.fo) r.fo
 | .block f b r => .cons 7 0 ⟨#[]⟩ f b.fo r.fo
theorem quJ {cs r:List D} {o:Nat} {a b c d:D} (h:cs.drop o=a::b::c::d::r):qaw cs o 4=some [a,b,c,d]:=by
 unfold qaw
 rw[h]
 simp
@[simp] theorem quK (e:E) (r:Fo):(e.fo r).hk=e.kind:=by rw[qg8]; rfl
@[simp] theorem quL (e:E) (r:Fo):(e.fo r).hn=e.num:=by rw[qg8]; rfl
@[simp] theorem quM (e:E) (r:Fo):(e.fo r).hs=e.str:=by rw[qg8]; rfl
@[simp] theorem qur (e:E) (r:Fo):kd (e.fo r).hf (e.fo r).hks.len (e.fo r).hks.cells=e.kids:=by rw[qg8,qnk]; rfl
@[simp] theorem qjM (e:E) (r:Fo):(e.fo r).len=r.len+1:=by rw[qg8]; rfl
@[simp] theorem qfy (e:E) (r:Fo):(e.fo r).cells = .lit (.int .i64 e.kind) :: .lit (.int .i64 e.num) :: .lit (.string e.str)::e.kids::r.cells:=by rw[qg8,qnk]; rfl
@[simp] theorem qus:Fo.hk .nil=0:=rfl
@[simp] theorem qut:Fo.hn .nil=0:=rfl
@[simp] theorem quu:Fo.hs .nil=⟨#[]⟩:=rfl
@[simp] theorem quv:Fo.hf .nil=false:=rfl
@[simp] theorem qt4:Fo.hks .nil = .nil:=rfl
def qaZ (ss:List ByteArray):List D:=ss.map fun s => .lit (.string s)
theorem qiT (ss:List ByteArray) (i:Nat) (h:i<ss.length):qaw (qaZ ss) i 1=some [.lit (.string ss[i])]:=by
 unfold qaw qaZ
 rw[List.drop_eq_getElem_cons (by simpa using h)]
 simp
theorem qbO (a b:ByteArray):eqS a b=decide (a=b):=by
 rw[Bool.eq_iff_iff]
 simp only[eqS,beq_iff_eq,decide_eq_true_eq,ByteArray.toList_eq]
 exact⟨fun h=>by cases a; cases b; simp only[Array.toList_inj] at h; rw[h],fun h=>by rw[h]⟩
instance:LawfulBEq ByteArray where
 eq_of_beq h:=by rw[qgU] at h; exact of_decide_eq_true h
 rfl:=by intro a; rw[qgU]; exact decide_eq_true rfl
def qri:List ByteArray->D
 | [] => .lit (.slice none 0 0)
 | s::l => .sl (qaZ (s::l)) (l.length+1) false
@[simp] theorem qtc (l:List ByteArray):V.one (.dat (qri l))=true:=by cases l<;>rfl
@[simp] theorem qrj (l:List ByteArray):V.cells (.dat (qri l))=[.dat (qri l)]:=by cases l<;>rfl
@[simp] theorem qtd (σ : S) (l:List ByteArray):V.len σ .sl (.dat (qri l))=some l.length:=by cases l<;>simp[qri,V.len]
@[simp] theorem qte (l:List ByteArray):(qaZ l).length=l.length:=by simp[qaZ]
theorem qnl {cs r:List D} {i:Nat} {a b c d:D} (h:cs.drop (i*4)=a::b::c::d::r):cs.drop ((i+1)*4)=r:=by
 rw[show (i+1)*4=i*4+4 by omega,<- List.drop_drop,h]
 rfl
theorem qh4 {b:Ss} (hb:b.fo.len=0):b = .nil:=by cases b<;>simp[Ss.fo] at hb; rfl
structure Nd where
 k:Int
 n:Int
 s:ByteArray
 f:Bool
 ks:Fo
abbrev Nd.v (a:Nd):V:=nd a.k a.n a.s a.f a.ks
abbrev Nd.d (a:Nd):D:=kd a.f a.ks.len a.ks.cells
abbrev ru (a b c:Nd):D := .agg [.lit (.int .i64 a.k),.lit (.int .i64 a.n),.lit (.string a.s),a.d,.lit (.int .i64 b.k),.lit (.int .i64 b.n),.lit (.string b.s),b.d,.lit (.int .i64 c.k),.lit (.int .i64 c.n),.lit (.string c.s),c.d]
inductive Hd where
 | none
 | some (f:Bool) (b:Ss)
def Hd.k:Hd->Int
 | .none=>0
 | .some _ _=>7
def Hd.f:Hd->Bool
 | .none=>false
 | .some f _=>f
def Hd.ks:Hd->Fo
 | .none => .nil
 | .some _ b=>b.fo
def Hd.nd (h:Hd):Nd:=⟨h.k,0,⟨#[]⟩,h.f,h.ks⟩
@[simp] theorem quN (h:Hd):h.nd.k=h.k:=rfl
@[simp] theorem quO (h:Hd):h.nd.n=0:=rfl
@[simp] theorem quP (h:Hd):h.nd.s=⟨#[]⟩:=rfl
@[simp] theorem quQ (h:Hd):h.nd.f=h.f:=rfl
@[simp] theorem qt5 (h:Hd):h.nd.ks=h.ks:=rfl
def Hd.well:Hd->Bool
 | .none=>true
 | .some _ b=>b.well
abbrev qpo (a b c:Nd):Ob := .cells [.int a.k,.int a.n,.str a.s,.dat a.d,.int b.k,.int b.n,.str b.s,.dat b.d,.int c.k,.int c.n,.str c.s,.dat c.d]
def Ss.app:Ss->Ss->Ss
 | .nil,b=>b
 | .assign f s e r,b => .assign f s e (r.app b)
 | .store f s x y r,b => .store f s x y (r.app b)
 | .effect f x y r,b => .effect f x y (r.app b)
 | .stop r,b => .stop (r.app b)
 | .cond w f c q r,b => .cond w f c q (r.app b)
 | .block f q r,b => .block f q (r.app b)
theorem qg9 (a b:Ss):(a.app b).fo=a.fo.app b.fo:=by
 induction a<;>simp_all [Ss.app,Ss.fo]
theorem qnm (a b c:Fo):(a.app b).app c=a.app (b.app c):=by
 induction a<;>simp_all
theorem qqU (a:Fo):a.app .nil=a:=by
 induction a<;>simp_all
end Go.Pm
end SEt
section SYa
namespace Go.Pm
def qbi (c:UInt8):Bool:=decide (97<=c.toNat)&&decide (c.toNat<=122)
def qaA (c:UInt8):Bool:=decide (48<=c.toNat)&&decide (c.toNat<=57)
def qgE (s:ByteArray):Nat->Bool->Nat->Nat
 | 0,_,i=>i
 | n+1,c,i=>match s[i]? with
  | none=>i
  | some b=>if b.toNat=10 then qgE s n false (i+1) else if c=true\/b.toNat=32\/b.toNat=9 then qgE s n c (i+1) else if b.toNat=35 then qgE s n true (i+1) else i
def qpw (p:UInt8->Bool) (s:ByteArray):Nat->Nat->Nat
 | 0,i=>i
 | n+1,i=>match s[i]? with
  | none=>i
  | some b=>if p b then qpw p s n (i+1) else i
def qaR (c:UInt8):Bool:=qbi c||qaA c
def digV (l:List UInt8):Nat:=l.foldl (fun v c=>10*v+(c.toNat-48)) 0
structure Tk where
 at_:Nat
 s:ByteArray
 bad:Nat
def bs (l:List UInt8):ByteArray:=⟨l.toArray⟩
def fieldNames:List ByteArray:=[bs [120],bs [121],bs [118,120],bs [118,121],bs [97],bs [98],qjL,qpn]
def wordNames:List ByteArray:=[bs [111,110],bs [97,99,116],bs [116,105,99,107],qjL,bs [105,102],bs [101,108,115,101],bs [119,104,105,108,101],bs [101,102,102,101,99,116],bs [115,116,111,112],bs [116,114,117,101],bs [102,97,108,115,101],bs [115,101,108,102],bs [111,116,104,101,114]]
def qds:List ByteArray:=[bs [124,124],bs [38,38],bs [60,61],bs [62,61],bs [61,61],bs [33,61]]
def qkD:List Nat:=[123,125,91,93,40,41,61,59,44,60,62,43,45,42,47,33]
def tokAt (eS eL eR:Nat) (s:ByteArray) (i:Nat):Tk:=match s[i]? with
 | none=>⟨i,⟨#[]⟩,0⟩
 | some c=>
  if qbi c then
   let w:=s.extract i (qpw qaR s (s.size-i) i)
   ⟨i,w,if 8<w.size/\w∉fieldNames/\w∉wordNames then eL else 0⟩
  else if qaA c then
   let w:=s.extract i (qpw qaA s (s.size-i) i)
   ⟨i,w,if 2147483647<digV w.toList then eR else 0⟩
  else if i+2<=s.size/\s.extract i (i+2)∈qds then ⟨i,s.extract i (i+2),0⟩
  else if c.toNat∈qkD then ⟨i,s.extract i (i+1),0⟩
  else ⟨i,s.extract i (i+1),eS⟩
def qb1 (eS eL eR:Nat) (s:ByteArray):Nat->Nat->List Tk
 | 0,i=>[⟨i,⟨#[]⟩,0⟩]
 | n+1,i=>
  let t:=tokAt eS eL eR s (qgE s (s.size-i) false i)
  if t.bad≠0\/t.s.size=0 then [t] else t::qb1 eS eL eR s n (t.at_+t.s.size)
inductive Rz (α : Type) where
 | ok (a : α) (r:List Tk)
 | er (i c:Nat)
def nx:List Tk->Option ByteArray
 | t::_=>if t.bad=0 then some t.s else none
 | []=>none
def failP {α : Type} (c:Nat):List Tk->Rz α
 | t::_ => .er t.at_ (if t.bad=0 then c else t.bad)
 | [] => .er 0 c
def Rz.bind {α β : Type}:Rz α -> (α -> List Tk->Rz β)->Rz β
 | .ok a r,k=>k a r
 | .er i c,_ => .er i c
def qax (eS:Nat) (x:ByteArray):List Tk->Rz Unit
 | t::r=>if t.bad=0/\t.s=x then .ok () r else failP eS (t::r)
 | []=>failP eS []
def qcr (eS eL:Nat) (x:ByteArray) (lv:Nat) (ts:List Tk):Rz Unit:=
 if nx ts=some x/\20<lv then failP eL ts else qax eS x ts
def qlu (prec:Nat) (s:ByteArray):Option Bop:=
 let l:List Bop:=match prec with
  | 1=>[.or] | 2=>[.and] | 4=>[.lt,.le,.gt,.ge,.eq,.ne] | 5=>[.add,.sub] | 6=>[.mul,.div] | _=>[]
 l.find? fun o=>decide (o.str=s)
def qaH (p:UInt8->Bool) (s:ByteArray):Bool:=match s[0]? with
 | some c=>p c
 | none=>false
mutual
def qaq (eS eL:Nat) (f:Bool):Nat->Nat->Nat->List Tk->Option (Rz E)
 | 0,_,_,_=>none
 | n+1,prec,lv,ts=>
  if prec=3/\nx ts=some (ustr false)\/prec=7/\nx ts=some (ustr true) then
   match qcr eS eL (ustr (prec==7)) (lv+1) ts with
   | .er i c=>some (.er i c)
   | .ok _ r=>match qaq eS eL f n prec (lv+1) r with
    | some (.ok e r')=>some (.ok (.un f (prec==7) e) r')
    | x=>x
  else if prec<8 then
   match qaq eS eL f n (prec+1) lv ts with
   | some (.ok e r)=>qcZ eS eL f n prec lv e r
   | x=>x
  else match nx ts with
   | none=>some (failP eS ts)
   | some s=>
    if qaH qaA s then some (.ok (.int (digV s.toList)) ts.tail)
    else if s=bs [116,114,117,101] then some (.ok (.bool 1) ts.tail)
    else if s=bs [102,97,108,115,101] then some (.ok (.bool 0) ts.tail)
    else if s=bs [115,101,108,102]\/s=bs [111,116,104,101,114]\/s=bs [116,105,99,107] then some (.ok (.name s) ts.tail)
    else if s∈fieldNames then match qbe eS eL f n lv ts.tail with
     | some (.ok e r)=>some (.ok (.field f s e) r)
     | x=>x
    else if qaH qbi s/\s∉wordNames then some (.ok (.var s) ts.tail)
    else match qcr eS eL (bs [40]) (lv+1) ts with
     | .er i c=>some (.er i c)
     | .ok _ r=>match qaq eS eL f n 1 (lv+1) r with
      | some (.ok e r')=>match qax eS (bs [41]) r' with
       | .ok _ r''=>some (.ok e r'')
       | .er i c=>some (.er i c)
      | x=>x
def qcZ (eS eL:Nat) (f:Bool):Nat->Nat->Nat->E->List Tk->Option (Rz E)
 | 0,_,_,_,_=>none
 | n+1,prec,lv,e,ts=>match nx ts with
  | none=>if prec=3\/prec=7 then some (.ok e ts) else some (failP eS ts)
  | some s=>match qlu prec s with
   | none=>some (.ok e ts)
   | some o=>match qaq eS eL f n (prec+1) lv ts.tail with
    | some (.ok e' r)=>if prec=4 then some (.ok (.bin f o e e') r) else qcZ eS eL f n prec lv (.bin f o e e') r
    | x=>x
def qbe (eS eL:Nat) (f:Bool):Nat->Nat->List Tk->Option (Rz E)
 | 0,_,_=>none
 | n+1,lv,ts=>match qcr eS eL (bs [91]) (lv+1) ts with
  | .er i c=>some (.er i c)
  | .ok _ r=>match qaq eS eL f n 1 (lv+1) r with
   | some (.ok e r')=>match qax eS (bs [93]) r' with
    | .ok _ r''=>some (.ok e r'')
    | .er i c=>some (.er i c)
   | x=>x
end
end Go.Pm
end SYa
section SYb
namespace Go.Pm
def qa7 {α : Type} (eS:Nat) (a : α) (ts:List Tk):Rz α := match qax eS (bs [59]) ts with
 | .ok _ r => .ok a r
 | .er i c => .er i c
mutual
def qcm (eS eL:Nat) (f fi fb:Bool):Nat->Nat->List Tk->Option (Rz Ss)
 | 0,_,_=>none
 | n+1,lv,ts=>match nx ts with
  | none=>some (failP eS ts)
  | some s=>
   if s=bs [105,102] then match qaq eS eL f n 1 lv ts.tail with
    | some (.ok c r)=>match qaQ eS eL f fi fb n (lv+1) r with
     | some (.ok b r1)=>match nx r1 with
      | none=>some (failP eS r1)
      | some w=>if w=bs [101,108,115,101] then match qaQ eS eL f fi fb n (lv+1) r1.tail with
        | some (.ok b2 r2)=>some (.ok (.cond false fi c (.block fb b (.block fb b2 .nil)) .nil) r2)
        | some (.er i k)=>some (.er i k)
        | none=>none
       else some (.ok (.cond false fi c (.block fb b (.block fb .nil .nil)) .nil) r1)
     | some (.er i k)=>some (.er i k)
     | none=>none
    | some (.er i k)=>some (.er i k)
    | none=>none
   else if s=bs [119,104,105,108,101] then match qaq eS eL f n 1 lv ts.tail with
    | some (.ok c r)=>match qaQ eS eL f fi fb n (lv+1) r with
     | some (.ok b r1)=>some (.ok (.cond true f c (.block fb b .nil) .nil) r1)
     | some (.er i k)=>some (.er i k)
     | none=>none
    | some (.er i k)=>some (.er i k)
    | none=>none
   else if s=bs [101,102,102,101,99,116] then match qaq eS eL f n 1 lv ts.tail with
    | some (.ok a r)=>match qax eS (bs [44]) r with
     | .ok _ r1=>match qaq eS eL f n 1 lv r1 with
      | some (.ok b r2)=>some (qa7 eS (.effect f a b .nil) r2)
      | some (.er i k)=>some (.er i k)
      | none=>none
     | .er i k=>some (.er i k)
    | some (.er i k)=>some (.er i k)
    | none=>none
   else if s=bs [115,116,111,112] then some (qa7 eS (.stop .nil) ts.tail)
   else if s∈fieldNames then match qbe eS eL f n lv ts.tail with
    | some (.ok a r)=>match qax eS (bs [61]) r with
     | .ok _ r1=>match qaq eS eL f n 1 lv r1 with
      | some (.ok b r2)=>some (qa7 eS (.store f s a b .nil) r2)
      | some (.er i k)=>some (.er i k)
      | none=>none
     | .er i k=>some (.er i k)
    | some (.er i k)=>some (.er i k)
    | none=>none
   else if qaH qbi s/\s∉wordNames then match qax eS (bs [61]) ts.tail with
    | .ok _ r1=>match qaq eS eL f n 1 lv r1 with
     | some (.ok b r2)=>some (qa7 eS (.assign f s b .nil) r2)
     | some (.er i k)=>some (.er i k)
     | none=>none
    | .er i k=>some (.er i k)
   else some (failP eS ts)
def qaQ (eS eL:Nat) (f fi fb:Bool):Nat->Nat->List Tk->Option (Rz Ss)
 | 0,_,_=>none
 | n+1,lv,ts=>match qcr eS eL (bs [123]) lv ts with
  | .er i k=>some (.er i k)
  | .ok _ r=>qb5 eS eL f fi fb n lv .nil r
def qb5 (eS eL:Nat) (f fi fb:Bool):Nat->Nat->Ss->List Tk->Option (Rz Ss)
 | 0,_,_,_=>none
 | n+1,lv,a,ts=>match nx ts with
  | none=>some (failP eS ts)
  | some s=>if s=bs [125] then some (.ok a ts.tail) else match qcm eS eL f fi fb n lv ts with
   | some (.ok b r)=>qb5 eS eL f fi fb n lv (a.app b) r
   | some (.er i k)=>some (.er i k)
   | none=>none
end
def qbL (s:ByteArray):Option Nat:=
 if s=bs [97,99,116] then some 0 else if s=bs [116,105,99,107] then some 1 else if s=qjL then some 2 else none
def qcJ (eS eL eD:Nat) (f fi fb:Bool):Nat->(Nat->Option Ss)->List Tk->Option (Rz (Nat->Option Ss))
 | 0,_,_=>none
 | n+1,h,ts=>match nx ts with
  | none=>some (failP eS ts)
  | some s=>if s.size=0 then some (.ok h ts) else match qax eS (bs [111,110]) ts with
   | .er i k=>some (.er i k)
   | .ok _ r=>match nx r with
    | none=>some (failP eS r)
    | some w=>match qbL w with
     | none=>some (failP eS r)
     | some k=>if (h k).isSome then some (failP eD r) else match qaQ eS eL f fi fb n 1 r.tail with
      | some (.ok b r1)=>qcJ eS eL eD f fi fb n (fun i=>if i=k then some b else h i) r1
      | some (.er i c)=>some (.er i c)
      | none=>none
end Go.Pm
end SYb
section SYc
namespace Go.Pm
def Fin {α : Type} (m:Nat) (x:Option (Rz α)):Prop := ∃ y,x=some y /\ ∀ a r,y = .ok a r->r.length<=m
theorem qcD {α : Type} (m c:Nat) (ts:List Tk):Fin (α := α) m (some (failP c ts)):=⟨_,rfl,fun a r h=>by cases ts<;>cases h⟩
theorem qbE {α : Type} (m i c:Nat):Fin (α := α) m (some (.er i c)):=⟨_,rfl,fun a r h=>by cases h⟩
theorem qcq {α : Type} {m:Nat} (a : α) {ts:List Tk} (h:ts.length<=m):Fin m (some (.ok a ts)):=⟨_,rfl,fun a r e=>by cases e; exact h⟩
theorem qgT {ts:List Tk} {s:ByteArray} (h:nx ts=some s):ts.tail.length+1=ts.length:=by
 cases ts with
 | nil=>cases h
 | cons t r=>rfl
theorem qbX {eS:Nat} {x:ByteArray} {ts r:List Tk} {u:Unit} (h:qax eS x ts = .ok u r):r.length+1=ts.length:=by
 cases ts with
 | nil=>cases h
 | cons t r'=>
  simp only[qax] at h
  split at h
  ·cases h; rfl
  ·cases h
theorem qfr {eS eL:Nat} {x:ByteArray} {lv:Nat} {ts r:List Tk} {u:Unit} (h:qcr eS eL x lv ts = .ok u r):r.length+1=ts.length:=by
 unfold qcr at h
 split at h
 ·cases ts<;>cases h
 ·exact qbX h
theorem qjy (eS eL:Nat) (f:Bool) : ∀ n:Nat,
  (∀ prec lv ts,1<=prec->prec<=8->10*ts.length+(10-prec)<=n->Fin (ts.length-1) (qaq eS eL f n prec lv ts)) /\
  (∀ prec lv e ts,1<=prec->prec<=7->10*ts.length+1<=n->Fin ts.length (qcZ eS eL f n prec lv e ts)) /\
  (∀ lv ts,10*ts.length+1<=n->Fin (ts.length-1) (qbe eS eL f n lv ts))
 | 0=>⟨fun p lv ts h1 h2 h=>by omega,fun p lv e ts h1 h2 h=>by omega,fun lv ts h=>by omega⟩
 | n+1=>by
  obtain⟨ihe,ihl,ihi⟩:=qjy eS eL f n
  refine⟨fun p lv ts h1 h2 h=>?_,fun p lv e ts h1 h2 h=>?_,fun lv ts h=>?_⟩
  ·simp only[qaq]
   split
   ·split
    ·exact qbE _ _ _
    ·rename_i u r ho
     have hl:=qfr ho
     obtain⟨y,hy,hr⟩:=ihe p (lv+1) r h1 h2 (by omega)
     rw[hy]
     cases y with
     | er i c=>exact qbE _ _ _
     | ok e r'=>have:=hr e r' rfl; exact qcq _ (by omega)
   ·split
    ·obtain⟨y,hy,hr⟩:=ihe (p+1) lv ts (by omega) (by omega) (by omega)
     rw[hy]
     cases y with
     | er i c=>exact qbE _ _ _
     | ok e r=>
      have:=hr e r rfl
      obtain⟨z,hz,hr2⟩:=ihl p lv e r h1 (by omega) (by omega)
      exact⟨z,hz,fun a q hq=>by have:=hr2 a q hq; omega⟩
    ·cases hn:nx ts with
     | none=>exact qcD _ _ _
     | some s=>
      have hp:=qgT hn
      simp only
      split
      ·exact qcq _ (by omega)
      split
      ·exact qcq _ (by omega)
      split
      ·exact qcq _ (by omega)
      split
      ·exact qcq _ (by omega)
      split
      ·obtain⟨y,hy,hr⟩:=ihi lv ts.tail (by omega)
       rw[hy]
       cases y with
       | er i c=>exact qbE _ _ _
       | ok e r'=>have:=hr e r' rfl; exact qcq _ (by omega)
      split
      ·exact qcq _ (by omega)
      split
      ·exact qbE _ _ _
      ·rename_i u r ho
       have hl:=qfr ho
       obtain⟨y,hy,hr⟩:=ihe 1 (lv+1) r (by omega) (by omega) (by omega)
       rw[hy]
       cases y with
       | er i c=>exact qbE _ _ _
       | ok e r'=>
        have:=hr e r' rfl
        simp only
        split
        ·rename_i u' r'' hx; have:=qbX hx; exact qcq _ (by omega)
        ·exact qbE _ _ _
  ·simp only[qcZ]
   cases hn:nx ts with
   | none=>
    simp only
    split
    ·exact qcq _ (Nat.le_refl _)
    ·exact qcD _ _ _
   | some s=>
    have hp:=qgT hn
    simp only
    split
    ·exact qcq _ (Nat.le_refl _)
    ·obtain⟨y,hy,hr⟩:=ihe (p+1) lv ts.tail (by omega) (by omega) (by omega)
     rw[hy]
     cases y with
     | er i c=>exact qbE _ _ _
     | ok e' r=>
      have:=hr e' r rfl
      simp only
      split
      ·exact qcq _ (by omega)
      ·obtain⟨z,hz,hr2⟩:=ihl p lv (.bin f _ e e') r h1 h2 (by omega)
       exact⟨z,hz,fun a q hq=>by have:=hr2 a q hq; omega⟩
  ·simp only[qbe]
   split
   ·exact qbE _ _ _
   ·rename_i u r ho
    have hl:=qfr ho
    obtain⟨y,hy,hr⟩:=ihe 1 (lv+1) r (by omega) (by omega) (by omega)
    rw[hy]
    cases y with
    | er i c=>exact qbE _ _ _
    | ok e r'=>
     have:=hr e r' rfl
     simp only
     split
     ·rename_i u' r'' hx; have:=qbX hx; exact qcq _ (by omega)
     ·exact qbE _ _ _
end Go.Pm
end SYc
section SYd
namespace Go.Pm
theorem qgv {α : Type} {eS m:Nat} {a : α} {ts:List Tk} (h:ts.length<=m+1):Fin m (some (qa7 eS a ts)):=by
 unfold qa7
 split
 ·rename_i u r hx; have:=qbX hx; exact qcq _ (by omega)
 ·exact qbE _ _ _
theorem qgw (eS eL:Nat) (f fi fb:Bool) : ∀ n:Nat,
  (∀ lv ts,10*ts.length+1<=n->Fin (ts.length-1) (qcm eS eL f fi fb n lv ts)) /\
  (∀ lv ts,10*ts.length+1<=n->Fin (ts.length-1) (qaQ eS eL f fi fb n lv ts)) /\
  (∀ lv a ts,10*ts.length+2<=n->Fin (ts.length-1) (qb5 eS eL f fi fb n lv a ts))
 | 0=>⟨fun lv ts h=>by omega,fun lv ts h=>by omega,fun lv a ts h=>by omega⟩
 | n+1=>by
  obtain⟨ihs,ihb,ihl⟩:=qgw eS eL f fi fb n
  obtain⟨ihe,_,ihi⟩:=qjy eS eL f n
  refine⟨fun lv ts h=>?_,fun lv ts h=>?_,fun lv a ts h=>?_⟩
  ·simp only[qcm]
   cases hn:nx ts with
   | none=>exact qcD _ _ _
   | some s=>
    have hp:=qgT hn
    simp only
    have he:=ihe 1 lv ts.tail (by omega) (by omega) (by omega)
    obtain⟨y,hy,hr⟩:=he
    split
    ·rw[hy]
     cases y with
     | er i c=>exact qbE _ _ _
     | ok e r=>
      have h1:=hr e r rfl
      obtain⟨y1,hy1,hr1⟩:=ihb (lv+1) r (by omega)
      simp only[hy1]
      cases y1 with
      | er i c=>exact qbE _ _ _
      | ok b r1=>
       have h2:=hr1 b r1 rfl
       simp only
       cases hn1:nx r1 with
       | none=>exact qcD _ _ _
       | some w=>
        have hp1:=qgT hn1
        simp only
        split
        ·obtain⟨y2,hy2,hr2⟩:=ihb (lv+1) r1.tail (by omega)
         rw[hy2]
         cases y2 with
         | er i c=>exact qbE _ _ _
         | ok b2 r2=>have h3:=hr2 b2 r2 rfl; exact qcq _ (by omega)
        ·exact qcq _ (by omega)
    split
    ·rw[hy]
     cases y with
     | er i c=>exact qbE _ _ _
     | ok e r=>
      have h1:=hr e r rfl
      obtain⟨y1,hy1,hr1⟩:=ihb (lv+1) r (by omega)
      simp only[hy1]
      cases y1 with
      | er i c=>exact qbE _ _ _
      | ok b r1=>have h2:=hr1 b r1 rfl; exact qcq _ (by omega)
    have second : ∀ (r:List Tk) (g:E->Ss),r.length+1<=ts.length->Fin (ts.length-1) (match qaq eS eL f n 1 lv r with
      | some (.ok b r2)=>some (qa7 eS (g b) r2)
      | some (.er i k)=>some (.er i k)
      | none=>none):=fun r g hr=>by
     obtain⟨y1,hy1,hr1⟩:=ihe 1 lv r (by omega) (by omega) (by omega)
     rw[hy1]
     cases y1 with
     | er i c=>exact qbE _ _ _
     | ok b r2=>have h2:=hr1 b r2 rfl; exact qgv (by omega)
    split
    ·rw[hy]
     cases y with
     | er i c=>exact qbE _ _ _
     | ok e r=>
      have h1:=hr e r rfl
      simp only
      split
      ·rename_i u r1 hx
       have:=qbX hx
       exact second r1 (fun b => .effect f e b .nil) (by omega)
      ·exact qbE _ _ _
    split
    ·exact qgv (by omega)
    split
    ·obtain⟨y1,hy1,hr1⟩:=ihi lv ts.tail (by omega)
     rw[hy1]
     cases y1 with
     | er i c=>exact qbE _ _ _
     | ok e r=>
      have h1:=hr1 e r rfl
      simp only
      split
      ·rename_i u r1 hx
       have:=qbX hx
       exact second r1 (fun b => .store f s e b .nil) (by omega)
      ·exact qbE _ _ _
    split
    ·split
     ·rename_i u r1 hx
      have:=qbX hx
      exact second r1 (fun b => .assign f s b .nil) (by omega)
     ·exact qbE _ _ _
    ·exact qcD _ _ _
  ·simp only[qaQ]
   split
   ·exact qbE _ _ _
   ·rename_i u r ho
    have hl:=qfr ho
    obtain⟨y,hy,hr⟩:=ihl lv .nil r (by omega)
    exact⟨y,hy,fun a q hq=>by have:=hr a q hq; omega⟩
  ·simp only[qb5]
   cases hn:nx ts with
   | none=>exact qcD _ _ _
   | some s=>
    have hp:=qgT hn
    simp only
    split
    ·exact qcq _ (by omega)
    ·obtain⟨y,hy,hr⟩:=ihs lv ts (by omega)
     rw[hy]
     cases y with
     | er i c=>exact qbE _ _ _
     | ok b r=>
      have h1:=hr b r rfl
      obtain⟨z,hz,hr2⟩:=ihl lv (a.app b) r (by omega)
      exact⟨z,hz,fun a q hq=>by have:=hr2 a q hq; omega⟩
theorem qi0 (eS eL eD:Nat) (f fi fb:Bool) : ∀ (n:Nat) h ts,10*ts.length+2<=n->Fin ts.length (qcJ eS eL eD f fi fb n h ts)
 | 0,h,ts,hn=>by omega
 | n+1,h,ts,hn=>by
  simp only[qcJ]
  cases hx:nx ts with
  | none=>exact qcD _ _ _
  | some s=>
   have hp:=qgT hx
   simp only
   split
   ·exact qcq _ (Nat.le_refl _)
   split
   ·exact qbE _ _ _
   ·rename_i u r hr
    have h1:=qbX hr
    cases hw:nx r with
    | none=>exact qcD _ _ _
    | some w=>
     have hp1:=qgT hw
     simp only
     split
     ·exact qcD _ _ _
     ·rename_i k hk
      split
      ·exact qcD _ _ _
      ·obtain⟨y,hy,hr⟩:=(qgw eS eL f fi fb n).2.1 1 r.tail (by omega)
       rw[hy]
       cases y with
       | er i c=>exact qbE _ _ _
       | ok b r1=>
        have h2:=hr b r1 rfl
        obtain⟨z,hz,hr2⟩:=qi0 eS eL eD f fi fb n (fun i=>if i=k then some b else h i) r1 (by omega)
        exact⟨z,hz,fun a q hq=>by have:=hr2 a q hq; omega⟩
end Go.Pm
end SYd
section SYe
namespace Go.Pm
abbrev byl (s:ByteArray):List UInt8:=s.data.toList
theorem qbg (l:List UInt8):byl (bs l)=l:=by simp[byl,bs]
theorem qdO (s:ByteArray):bs (byl s)=s:=by cases s; simp[bs,byl]
theorem qaP (s:ByteArray):(byl s).length=s.size:=Array.length_toList
theorem qam (l:List UInt8):(bs l).size=l.length:=rfl
theorem qjN {a b:List UInt8} (h:bs a=bs b):a=b:=by rw[<- qbg a,h,qbg]
theorem qkp {a b:ByteArray} (h:byl a=byl b):a=b:=by rw[<- qdO a,h,qdO]
theorem qfS (s:ByteArray) (i:Nat):s[i]?=((byl s).drop i).head?:=by
 rw[List.head?_drop]
 by_cases h:i<s.size
 ·rw[getElem?_pos s i h,List.getElem?_eq_getElem (by rw[qaP]; exact h)]
  simp[byl,ByteArray.getElem_eq_getElem_data]
 ·rw[getElem?_neg s i h,List.getElem?_eq_none (by rw[qaP]; omega)]
theorem qck (s:ByteArray) (i k:Nat):s.extract i (i+k)=bs (((byl s).drop i).take k):=by
 apply qkp
 rw[qbg]
 simp only[byl,ByteArray.data_extract,Array.toList_extract,List.extract_eq_take_drop]
 rw[show i+k-i=k by omega]
def qaV:Bool->List UInt8->Nat
 | _,[]=>0
 | c,b::r=>if b.toNat=10 then qaV false r+1 else if c=true\/b.toNat=32\/b.toNat=9 then qaV c r+1 else if b.toNat=35 then qaV true r+1 else 0
def qbo (p:UInt8->Bool):List UInt8->Nat
 | []=>0
 | b::r=>if p b then qbo p r+1 else 0
theorem qfz : ∀ (l:List UInt8) (c:Bool),qaV c l<=l.length
 | [],c=>by simp[qaV]
 | b::r,c=>by
  have h1:=qfz r false
  have h2:=qfz r c
  have h3:=qfz r true
  simp only[qaV,List.length_cons]
  split
  ·omega
  split
  ·omega
  split<;>omega
theorem qdk (p:UInt8->Bool) : ∀ l:List UInt8,qbo p l<=l.length
 | []=>by simp[qbo]
 | b::r=>by
  have h1:=qdk p r
  simp only[qbo,List.length_cons]
  split<;>omega
def tokL (eS eL eR:Nat):List UInt8->List UInt8 × Nat
 | []=>([],0)
 | c::r=>
  if qbi c then ((c::r).take (qbo qaR (c::r)),if 8<qbo qaR (c::r)/\bs ((c::r).take (qbo qaR (c::r)))∉fieldNames/\bs ((c::r).take (qbo qaR (c::r)))∉wordNames then eL else 0)
  else if qaA c then ((c::r).take (qbo qaA (c::r)),if 2147483647<digV ((c::r).take (qbo qaA (c::r))) then eR else 0)
  else if bs ((c::r).take 2)∈qds then ((c::r).take 2,0)
  else if c.toNat∈qkD then ([c],0)
  else ([c],eS)
def qlj (eS eL eR:Nat):Nat->Nat->List UInt8->List Tk
 | 0,i,_=>[⟨i,⟨#[]⟩,0⟩]
 | n+1,i,l=>
  if (tokL eS eL eR (l.drop (qaV false l))).2≠0\/(tokL eS eL eR (l.drop (qaV false l))).1.length=0 then [⟨i+qaV false l,bs (tokL eS eL eR (l.drop (qaV false l))).1,(tokL eS eL eR (l.drop (qaV false l))).2⟩]
  else ⟨i+qaV false l,bs (tokL eS eL eR (l.drop (qaV false l))).1,(tokL eS eL eR (l.drop (qaV false l))).2⟩::qlj eS eL eR n (i+qaV false l+(tokL eS eL eR (l.drop (qaV false l))).1.length) ((l.drop (qaV false l)).drop (tokL eS eL eR (l.drop (qaV false l))).1.length)
theorem qiU (s:ByteArray) : ∀ (n:Nat) (c:Bool) (i:Nat),s.size-i<=n->qgE s n c i=i+qaV c ((byl s).drop i)
 | 0,c,i,h=>by
  have:(byl s).drop i=[]:=List.drop_eq_nil_of_le (by rw[qaP]; omega)
  rw[this]
  simp[qgE,qaV]
 | n+1,c,i,h=>by
  rw[qgE,qfS]
  cases hd:(byl s).drop i with
  | nil=>simp[qaV]
  | cons b r=>
   have hr:(byl s).drop (i+1)=r:=by rw[<- List.drop_drop,hd]; rfl
   have ih:=fun c=>qiU s n c (i+1) (by omega)
   simp only[List.head?_cons,qaV,ih,hr]
   split
   ·omega
   split
   ·omega
   split<;>omega
theorem qnn (p:UInt8->Bool) (s:ByteArray) : ∀ (n i:Nat),s.size-i<=n->qpw p s n i=i+qbo p ((byl s).drop i)
 | 0,i,h=>by
  have:(byl s).drop i=[]:=List.drop_eq_nil_of_le (by rw[qaP]; omega)
  rw[this]
  simp[qpw,qbo]
 | n+1,i,h=>by
  rw[qpw,qfS]
  cases hd:(byl s).drop i with
  | nil=>simp[qbo]
  | cons b r=>
   have hr:(byl s).drop (i+1)=r:=by rw[<- List.drop_drop,hd]; rfl
   have ih:=qnn p s n (i+1) (by omega)
   simp only[List.head?_cons,qbo,ih,hr]
   split<;>omega
theorem qfT {w:ByteArray} (h:w∈qds):w.size=2:=by
 simp only[qds,List.mem_cons,List.not_mem_nil,or_false] at h
 rcases h with h | h | h | h | h | h<;>rw[h]<;>rfl
theorem qdq (eS eL eR:Nat) (s:ByteArray) (i:Nat):tokAt eS eL eR s i=⟨i,bs (tokL eS eL eR ((byl s).drop i)).1,(tokL eS eL eR ((byl s).drop i)).2⟩:=by
 unfold tokAt
 rw[qfS]
 cases hd:(byl s).drop i with
 | nil=>rfl
 | cons c r=>
  have hlen:s.size-i=r.length+1:=by
   have:=congrArg List.length hd
   rw[List.length_drop,qaP,List.length_cons] at this
   exact this
  have e1 : ∀ p,s.extract i (qpw p s (s.size-i) i)=bs ((c::r).take (qbo p (c::r))):=fun p=>by
   rw[qnn p s _ i (Nat.le_refl _),qck,hd]
  have e2:s.extract i (i+2)=bs ((c::r).take 2):=by rw[qck,hd]
  have e3:s.extract i (i+1)=bs [c]:=by rw[qck,hd]; rfl
  have hw : ∀ p,((c::r).take (qbo p (c::r))).length=qbo p (c::r):=fun p=>by
   rw[List.length_take,Nat.min_eq_left (qdk p _)]
  simp only[List.head?_cons,e1,e2,e3,tokL,qam,hw,qbg,ByteArray.toList_eq]
  split
  ·rfl
  split
  ·simp[bs]
  have e4:(i+2<=s.size/\bs ((c::r).take 2)∈qds)↔bs ((c::r).take 2)∈qds:=by
   refine⟨fun h=>h.2,fun h=>⟨?_,h⟩⟩
   have:=qfT h
   rw[qam,List.length_take,List.length_cons] at this
   omega
  simp only[e4]
  split
  ·rfl
  split<;>rfl
theorem qiV (eS eL eR:Nat) (s:ByteArray) : ∀ (n i:Nat),qb1 eS eL eR s n i=qlj eS eL eR n i ((byl s).drop i)
 | 0,i=>rfl
 | n+1,i=>by
  rw[qb1,qlj]
  simp only[qiU s _ false i (Nat.le_refl _),qdq,qam,<- List.drop_drop,qiV eS eL eR s n,List.drop_drop]
end Go.Pm
end SYe
section SYf
namespace Go.Pm
def qei (p:Bool) (t:ByteArray):Bool:=match (byl t).getLast? with
 | some c=>qaR c
 | none=>p
def gap (p:Bool) (t:ByteArray):List UInt8:=if p&&qaH qaR t then [32] else []
def qaj:Bool->List ByteArray->List UInt8
 | _,[]=>[]
 | p,t::ts=>gap p t++(byl t++qaj (qei p t) ts)
def qqg (p:Bool) (ts:List ByteArray):Bool:=ts.foldl qei p
theorem qgo : ∀ (a b:List ByteArray) (p:Bool),qaj p (a++b)=qaj p a++qaj (qqg p a) b
 | [],b,p=>rfl
 | t::a,b,p=>by simp only[List.cons_append,qaj,qgo a b,List.append_assoc,qqg,List.foldl_cons]
theorem qbu (p:UInt8->Bool) (t:ByteArray):qaH p t=match (byl t).head? with | some c=>p c | none=>false:=by
 unfold qaH
 rw[qfS,List.drop_zero]
 all_goals (cases (byl t).head?<;>rfl)
def Tg (w:List UInt8):Prop:=
 (∃ c r,w=c::r/\qbi c=true/\(∀ b∈r,qaR b=true) /\ ¬ (8<w.length/\bs w∉fieldNames/\bs w∉wordNames)) \/
 (∃ c r,w=c::r/\qaA c=true/\(∀ b∈r,qaA b=true)/\digV w<=2147483647) \/
 bs w∈qds \/ ∃ c,w=[c]/\c.toNat∈qkD
theorem qdI {w:List UInt8} (h:bs w∈qds):w=[124,124]\/w=[38,38]\/w=[60,61]\/w=[62,61]\/w=[61,61]\/w=[33,61]:=by
 simp only[qds,List.mem_cons,List.not_mem_nil,or_false] at h
 rcases h with h | h | h | h | h | h<;>have:=qjN h<;>simp[this]
theorem qmP {c:UInt8} (h:c.toNat∈qkD):c=123\/c=125\/c=91\/c=93\/c=40\/c=41\/c=61\/c=59\/c=44\/c=60\/c=62\/c=43\/c=45\/c=42\/c=47\/c=33:=by
 simp only[qkD,List.mem_cons,List.not_mem_nil,or_false] at h
 simp only[<- UInt8.toNat_inj]
 exact h
theorem qqh {w:List UInt8} (h:Tg w) : ∃ c r,w=c::r/\c.toNat≠10/\c.toNat≠32/\c.toNat≠9/\c.toNat≠35:=by
 rcases h with ⟨c,r,rfl,hc,hr,hb⟩ | ⟨c,r,rfl,hc,hr,hb⟩ | hp | ⟨c,rfl,hc⟩
 ·simp only[qbi,Bool.and_eq_true,decide_eq_true_eq] at hc
  exact⟨c,r,rfl,by omega,by omega,by omega,by omega⟩
 ·simp only[qaA,Bool.and_eq_true,decide_eq_true_eq] at hc
  exact⟨c,r,rfl,by omega,by omega,by omega,by omega⟩
 ·rcases qdI hp with rfl | rfl | rfl | rfl | rfl | rfl<;>exact⟨_,_,rfl,by decide,by decide,by decide,by decide⟩
 ·rcases qmP hc with rfl | rfl | rfl | rfl | rfl | rfl | rfl | rfl | rfl | rfl | rfl | rfl | rfl | rfl | rfl | rfl<;>exact⟨_,_,rfl,by decide,by decide,by decide,by decide⟩
def Adj (t u:ByteArray):Prop:=(t≠bs [60]/\t≠bs [62]/\t≠bs [61]/\t≠bs [33])\/(byl u).head?≠some 61
def Ok2:List ByteArray->Prop
 | []=>True
 | t::r=>Tg (byl t)/\(∀ u,r.head?=some u->Adj t u)/\Ok2 r
end Go.Pm
end SYf
section SYg
namespace Go.Pm
variable {eS eL eD:Nat} {f fi fb:Bool}
theorem qeZ : ∀ n:Nat,
  (∀ p lv ts x,qaq eS eL f n p lv ts=some x->qaq eS eL f (n+1) p lv ts=some x) /\
  (∀ p lv e ts x,qcZ eS eL f n p lv e ts=some x->qcZ eS eL f (n+1) p lv e ts=some x) /\
  (∀ lv ts x,qbe eS eL f n lv ts=some x->qbe eS eL f (n+1) lv ts=some x)
 | 0=>⟨fun p lv ts x h=>by simp[qaq] at h,fun p lv e ts x h=>by simp[qcZ] at h,fun lv ts x h=>by simp[qbe] at h⟩
 | n+1=>by
  obtain⟨ihe,ihl,ihi⟩:=qeZ n
  refine⟨fun p lv ts x h=>?_,fun p lv e ts x h=>?_,fun lv ts x h=>?_⟩
  ·rw[qaq] at h ⊢
   split at h
   ·rename_i c1
    rw[if_pos c1]
    cases ho:qcr eS eL (ustr (p==7)) (lv+1) ts with
    | er i c=>simp only[ho] at h ⊢; exact h
    | ok u r=>
     simp only[ho] at h ⊢
     cases hq:qaq eS eL f n p (lv+1) r with
     | none=>simp[hq] at h
     | some y=>rw[ihe _ _ _ _ hq]; rw[hq] at h; exact h
   ·rename_i c1
    rw[if_neg c1]
    split at h
    ·rename_i c2
     rw[if_pos c2]
     cases hq:qaq eS eL f n (p+1) lv ts with
     | none=>simp[hq] at h
     | some y=>
      rw[ihe _ _ _ _ hq]; rw[hq] at h
      cases y with
      | er i c=>exact h
      | ok e r=>exact ihl _ _ _ _ _ h
    ·rename_i c2
     rw[if_neg c2]
     cases hn:nx ts with
     | none=>simp only[hn] at h ⊢; exact h
     | some s=>
      simp only[hn] at h ⊢
      split at h
      ·rename_i c; rw[if_pos c]; exact h
      rename_i c; rw[if_neg c]
      split at h
      ·rename_i c; rw[if_pos c]; exact h
      rename_i c; rw[if_neg c]
      split at h
      ·rename_i c; rw[if_pos c]; exact h
      rename_i c; rw[if_neg c]
      split at h
      ·rename_i c; rw[if_pos c]; exact h
      rename_i c; rw[if_neg c]
      split at h
      ·rename_i c; rw[if_pos c]
       cases hq:qbe eS eL f n lv ts.tail with
       | none=>simp[hq] at h
       | some y=>rw[ihi _ _ _ hq]; rw[hq] at h; exact h
      rename_i c; rw[if_neg c]
      split at h
      ·rename_i c; rw[if_pos c]; exact h
      rename_i c; rw[if_neg c]
      cases ho:qcr eS eL (bs [40]) (lv+1) ts with
      | er i c=>simp only[ho] at h ⊢; exact h
      | ok u r=>
       simp only[ho] at h ⊢
       cases hq:qaq eS eL f n 1 (lv+1) r with
       | none=>simp[hq] at h
       | some y=>rw[ihe _ _ _ _ hq]; rw[hq] at h; exact h
  ·rw[qcZ] at h ⊢
   cases hn:nx ts with
   | none=>simp only[hn] at h ⊢; exact h
   | some s=>
    simp only[hn] at h ⊢
    cases ho:qlu p s with
    | none=>simp only[ho] at h ⊢; exact h
    | some o=>
     simp only[ho] at h ⊢
     cases hq:qaq eS eL f n (p+1) lv ts.tail with
     | none=>simp[hq] at h
     | some y=>
      rw[ihe _ _ _ _ hq]; rw[hq] at h
      cases y with
      | er i c=>exact h
      | ok e' r=>
       simp only at h ⊢
       split at h
       ·rename_i c; rw[if_pos c]; exact h
       ·rename_i c; rw[if_neg c]; exact ihl _ _ _ _ _ h
  ·rw[qbe] at h ⊢
   cases ho:qcr eS eL (bs [91]) (lv+1) ts with
   | er i c=>simp only[ho] at h ⊢; exact h
   | ok u r=>
    simp only[ho] at h ⊢
    cases hq:qaq eS eL f n 1 (lv+1) r with
    | none=>simp[hq] at h
    | some y=>rw[ihe _ _ _ _ hq]; rw[hq] at h; exact h
theorem qdJ {n m p lv:Nat} {ts:List Tk} {x:Rz E} (h:qaq eS eL f n p lv ts=some x) (hm:n<=m):qaq eS eL f m p lv ts=some x:=by
 induction hm with
 | refl=>exact h
 | step _ ih=>exact (qeZ _).1 _ _ _ _ ih
theorem qkf {n m lv:Nat} {ts:List Tk} {x:Rz E} (h:qbe eS eL f n lv ts=some x) (hm:n<=m):qbe eS eL f m lv ts=some x:=by
 induction hm with
 | refl=>exact h
 | step _ ih=>exact (qeZ _).2.2 _ _ _ ih
theorem qe0 : ∀ n:Nat,
  (∀ lv ts x,qcm eS eL f fi fb n lv ts=some x->qcm eS eL f fi fb (n+1) lv ts=some x) /\
  (∀ lv ts x,qaQ eS eL f fi fb n lv ts=some x->qaQ eS eL f fi fb (n+1) lv ts=some x) /\
  (∀ lv a ts x,qb5 eS eL f fi fb n lv a ts=some x->qb5 eS eL f fi fb (n+1) lv a ts=some x)
 | 0=>⟨fun lv ts x h=>by simp[qcm] at h,fun lv ts x h=>by simp[qaQ] at h,fun lv a ts x h=>by simp[qb5] at h⟩
 | n+1=>by
  obtain⟨ihs,ihb,ihl⟩:=qe0 n
  refine⟨fun lv ts x h=>?_,fun lv ts x h=>?_,fun lv a ts x h=>?_⟩
  ·have second : ∀ (r:List Tk) (g:E->Ss) y,(match qaq eS eL f n 1 lv r with
      | some (.ok b r2)=>some (qa7 eS (g b) r2)
      | some (.er i k)=>some (.er i k)
      | none=>none)=some y->(match qaq eS eL f (n+1) 1 lv r with
      | some (.ok b r2)=>some (qa7 eS (g b) r2)
      | some (.er i k)=>some (.er i k)
      | none=>none)=some y:=fun r g y hy=>by
     cases hq:qaq eS eL f n 1 lv r with
     | none=>simp[hq] at hy
     | some z=>rw[qdJ hq (Nat.le_succ n)]; rw[hq] at hy; exact hy
   rw[qcm] at h ⊢
   cases hn:nx ts with
   | none=>simp only[hn] at h ⊢; exact h
   | some s=>
    simp only[hn] at h ⊢
    split at h
    ·rename_i c; rw[if_pos c]
     cases hq:qaq eS eL f n 1 lv ts.tail with
     | none=>simp[hq] at h
     | some y=>
      rw[qdJ hq (Nat.le_succ n)]; rw[hq] at h
      cases y with
      | er i c=>exact h
      | ok e r=>
       simp only at h ⊢
       cases hb:qaQ eS eL f fi fb n (lv+1) r with
       | none=>simp[hb] at h
       | some z=>
        rw[ihb _ _ _ hb]; rw[hb] at h
        cases z with
        | er i c=>exact h
        | ok b r1=>
         simp only at h ⊢
         cases hn1:nx r1 with
         | none=>simp only[hn1] at h ⊢; exact h
         | some w=>
          simp only[hn1] at h ⊢
          split at h
          ·rename_i c'; rw[if_pos c']
           cases hb2:qaQ eS eL f fi fb n (lv+1) r1.tail with
           | none=>simp[hb2] at h
           | some z2=>rw[ihb _ _ _ hb2]; rw[hb2] at h; exact h
          ·rename_i c'; rw[if_neg c']; exact h
    rename_i c; rw[if_neg c]
    split at h
    ·rename_i c; rw[if_pos c]
     cases hq:qaq eS eL f n 1 lv ts.tail with
     | none=>simp[hq] at h
     | some y=>
      rw[qdJ hq (Nat.le_succ n)]; rw[hq] at h
      cases y with
      | er i c=>exact h
      | ok e r=>
       simp only at h ⊢
       cases hb:qaQ eS eL f fi fb n (lv+1) r with
       | none=>simp[hb] at h
       | some z=>rw[ihb _ _ _ hb]; rw[hb] at h; exact h
    rename_i c; rw[if_neg c]
    split at h
    ·rename_i c; rw[if_pos c]
     cases hq:qaq eS eL f n 1 lv ts.tail with
     | none=>simp[hq] at h
     | some y=>
      rw[qdJ hq (Nat.le_succ n)]; rw[hq] at h
      cases y with
      | er i c=>exact h
      | ok e r=>
       simp only at h ⊢
       cases hx:qax eS (bs [44]) r with
       | er i c=>simp only[hx] at h ⊢; exact h
       | ok u r1=>simp only[hx] at h ⊢; exact second r1 (fun b => .effect f e b .nil) x h
    rename_i c; rw[if_neg c]
    split at h
    ·rename_i c; rw[if_pos c]; exact h
    rename_i c; rw[if_neg c]
    split at h
    ·rename_i c; rw[if_pos c]
     cases hq:qbe eS eL f n lv ts.tail with
     | none=>simp[hq] at h
     | some y=>
      rw[qkf hq (Nat.le_succ n)]; rw[hq] at h
      cases y with
      | er i c=>exact h
      | ok e r=>
       simp only at h ⊢
       cases hx:qax eS (bs [61]) r with
       | er i c=>simp only[hx] at h ⊢; exact h
       | ok u r1=>simp only[hx] at h ⊢; exact second r1 (fun b => .store f s e b .nil) x h
    rename_i c; rw[if_neg c]
    split at h
    ·rename_i c; rw[if_pos c]
     cases hx:qax eS (bs [61]) ts.tail with
     | er i c=>simp only[hx] at h ⊢; exact h
     | ok u r1=>simp only[hx] at h ⊢; exact second r1 (fun b => .assign f s b .nil) x h
    ·rename_i c; rw[if_neg c]; exact h
  ·rw[qaQ] at h ⊢
   cases ho:qcr eS eL (bs [123]) lv ts with
   | er i c=>simp only[ho] at h ⊢; exact h
   | ok u r=>simp only[ho] at h ⊢; exact ihl _ _ _ _ h
  ·rw[qb5] at h ⊢
   cases hn:nx ts with
   | none=>simp only[hn] at h ⊢; exact h
   | some s=>
    simp only[hn] at h ⊢
    split at h
    ·rename_i c; rw[if_pos c]; exact h
    ·rename_i c; rw[if_neg c]
     cases hq:qcm eS eL f fi fb n lv ts with
     | none=>simp[hq] at h
     | some y=>
      rw[ihs _ _ _ hq]; rw[hq] at h
      cases y with
      | er i c=>exact h
      | ok b r=>exact ihl _ _ _ _ h
theorem qlG {n m lv:Nat} {ts:List Tk} {x:Rz Ss} (h:qcm eS eL f fi fb n lv ts=some x) (hm:n<=m):qcm eS eL f fi fb m lv ts=some x:=by
 induction hm with
 | refl=>exact h
 | step _ ih=>exact (qe0 _).1 _ _ _ ih
theorem qkg {n m lv:Nat} {ts:List Tk} {x:Rz Ss} (h:qaQ eS eL f fi fb n lv ts=some x) (hm:n<=m):qaQ eS eL f fi fb m lv ts=some x:=by
 induction hm with
 | refl=>exact h
 | step _ ih=>exact (qe0 _).2.1 _ _ _ ih
theorem qgW : ∀ (n:Nat) h ts x,qcJ eS eL eD f fi fb n h ts=some x->qcJ eS eL eD f fi fb (n+1) h ts=some x
 | 0,h,ts,x,e=>by simp[qcJ] at e
 | n+1,h,ts,x,e=>by
  rw[qcJ] at e ⊢
  cases hn:nx ts with
  | none=>simp only[hn] at e ⊢; exact e
  | some s=>
   simp only[hn] at e ⊢
   split at e
   ·rename_i c; rw[if_pos c]; exact e
   rename_i c; rw[if_neg c]
   cases hx:qax eS (bs [111,110]) ts with
   | er i c=>simp only[hx] at e ⊢; exact e
   | ok u r=>
    simp only[hx] at e ⊢
    cases hn2:nx r with
    | none=>simp only[hn2] at e ⊢; exact e
    | some w=>
     simp only[hn2] at e ⊢
     cases hh:qbL w with
     | none=>simp only[hh] at e ⊢; exact e
     | some k=>
      simp only[hh] at e ⊢
      split at e
      ·rename_i c; rw[if_pos c]; exact e
      rename_i c; rw[if_neg c]
      cases hb:qaQ eS eL f fi fb n 1 r.tail with
      | none=>simp[hb] at e
      | some y=>
       rw[qkg hb (Nat.le_succ n)]; rw[hb] at e
       cases y with
       | er i c=>exact e
       | ok b r1=>exact qgW n _ _ _ e
theorem qhO {n m:Nat} {h:Nat->Option Ss} {ts:List Tk} {x:Rz (Nat->Option Ss)} (e:qcJ eS eL eD f fi fb n h ts=some x) (hm:n<=m):qcJ eS eL eD f fi fb m h ts=some x:=by
 induction hm with
 | refl=>exact e
 | step _ ih=>exact qgW _ _ _ _ ih
end Go.Pm
end SYg
section SYh
namespace Go.Pm
def qiH:Nat->Nat->List UInt8
 | 0,_=>[]
 | k+1,n=>if n<10 then [(48+n).toUInt8] else qiH k (n / 10)++[(48+n % 10).toUInt8]
def qjX (n:Nat):List UInt8:=qiH 20 n
theorem quh : ∀ d,d<10->((48+d).toUInt8).toNat=48+d:=by decide
theorem qox (l:List UInt8) (c:UInt8):digV (l++[c])=10*digV l+(c.toNat-48):=by simp[digV]
theorem qjE : ∀ k n,n<10 ^ k->1<=k->digV (qiH k n)=n/\(∀ b∈qiH k n,qaA b=true) /\ ∃ c r,qiH k n=c::r
 | 0,n,_,h=>by omega
 | k+1,n,h,_=>by
  rw[qiH]
  split
  ·rename_i hn
   have h1:=quh n hn
   refine⟨by simp only[digV,List.foldl_cons,List.foldl_nil,h1]; omega,fun b hb=>?_,_,_,rfl⟩
   rw[List.mem_singleton.1 hb]
   simp only[qaA,h1,Bool.and_eq_true,decide_eq_true_eq]
   omega
  ·rename_i hn
   have h1:=quh (n % 10) (by omega)
   have hk:1<=k:=by
    rcases k with _ | k
    ·simp at h; omega
    ·omega
   obtain⟨i1,i2,c,r,i3⟩:=qjE k (n / 10) (by rw[Nat.pow_succ] at h; omega) hk
   refine⟨by rw[qox,i1,h1]; omega,fun b hb=>?_,c,r++[(48+n % 10).toUInt8],by rw[i3]; rfl⟩
   rcases List.mem_append.1 hb with hb | hb
   ·exact i2 b hb
   ·rw[List.mem_singleton.1 hb]
    simp only[qaA,h1,Bool.and_eq_true,decide_eq_true_eq]
    omega
theorem qjF {n:Nat} (h:n<10 ^ 20):digV (qjX n)=n/\(∀ b∈qjX n,qaA b=true) /\ ∃ c r,qjX n=c::r:=qjE 20 n h (by omega)
theorem qqs {n:Nat} (h:n<=2147483647):Tg (qjX n):=by
 obtain⟨h1,h2,c,r,h3⟩:=qjF (n:=n) (by omega)
 rw[h3] at h1 h2 ⊢
 exact .inr (.inl ⟨c,r,rfl,h2 c (List.mem_cons_self ..),fun b hb=>h2 b (List.mem_cons_of_mem _ hb),by omega⟩)
theorem qk3 {n:Nat} (h:n<=2147483647):qaH qaA (bs (qjX n))=true:=by
 obtain⟨h1,h2,c,r,h3⟩:=qjF (n:=n) (by omega)
 rw[qbu,qbg,h3]
 rw[h3] at h2
 exact h2 c (List.mem_cons_self ..)
def qdl:ByteArray:=bs [116,114,117,101]
def qb6:ByteArray:=bs [102,97,108,115,101]
def qsc:ByteArray:=bs [115,101,108,102]
def qpg:ByteArray:=bs [111,116,104,101,114]
def qhs:ByteArray:=bs [116,105,99,107]
def Bop.prec:Bop->Nat
 | .or=>1 | .and=>2 | .lt | .le | .gt | .ge | .eq | .ne=>4 | .add | .sub=>5 | .mul | .div=>6
def qe5 (neg:Bool):Nat:=if neg then 7 else 3
def qcn (b:Bool) (l:List ByteArray):List ByteArray:=if b then bs [40]::(l++[bs [41]]) else l
def Bop.left (o:Bop):Nat:=if o.prec=4 then 5 else o.prec
def E.tx (full:Bool):E->Nat->List ByteArray
 | .int n,_=>[bs (qjX n.toNat)]
 | .bool n,_=>[if n=0 then qb6 else qdl]
 | .var s,_=>[s]
 | .name s,_=>[s]
 | .field _ s e,_=>s::bs [91]::(e.tx full 1++[bs [93]])
 | .un _ neg e,p=>qcn (full||decide (qe5 neg<p)) (ustr neg::e.tx full (qe5 neg))
 | .bin _ o a b,p=>qcn (full||decide (o.prec<p)) (a.tx full o.left++o.str::b.tx full (o.prec+1))
def E.nest (full:Bool):E->Nat->Nat
 | .field _ _ e,_=>e.nest full 1+1
 | .un _ neg e,p=>e.nest full (qe5 neg)+1+if (full||decide (qe5 neg<p))=true then 1 else 0
 | .bin _ o a b,p=>max (a.nest full o.left) (b.nest full (o.prec+1))+if (full||decide (o.prec<p))=true then 1 else 0
 | _,_=>0
def E.good:E->Prop
 | .int n=>0<=n/\n<=2147483647
 | .bool n=>n=0\/n=1
 | .var s=>Tg (byl s)/\qaH qbi s=true/\s∉fieldNames/\s∉wordNames
 | .name s=>s=qsc\/s=qpg\/s=qhs
 | .field _ s e=>s∈fieldNames/\e.good
 | .un _ _ e=>e.good
 | .bin _ _ a b=>a.good/\b.good
def E.fl (f:Bool):E->E
 | .int n => .int n
 | .bool n => .bool n
 | .var s => .var s
 | .name s => .name s
 | .field _ s e => .field f s (e.fl f)
 | .un _ neg e => .un f neg (e.fl f)
 | .bin _ o a b => .bin f o (a.fl f) (b.fl f)
theorem qfK (o:Bop):(o.prec=1/\o.left=1)\/(o.prec=2/\o.left=2)\/(o.prec=4/\o.left=5)\/(o.prec=5/\o.left=5)\/(o.prec=6/\o.left=6):=by cases o<;>simp[Bop.prec,Bop.left]
def Stops (p:Nat) (r:List Tk):Prop := ∃ s,nx r=some s /\ ∀ q,p<=q->qlu q s=none
theorem Stops.mono {p q:Nat} {r:List Tk} (h:Stops p r) (hq:p<=q):Stops q r:=by
 obtain⟨s,h1,h2⟩:=h
 exact⟨s,h1,fun k hk=>h2 k (by omega)⟩
theorem qmW (full:Bool) : ∀ (e:E),e.good -> ∀ p,∃ x l,e.tx full p=x::l/\(x=ustr false->p<=3)/\(x=ustr true->p<=7)
 | .int n,h,p=>by
  have hd:=qk3 (n:=n.toNat) (by have:=h.1; have:=h.2; omega)
  refine⟨_,_,rfl,fun hx=>?_,fun hx=>?_⟩
  all_goals
   rw[hx] at hd
   exact absurd hd (by decide)
 | .bool n,h,p=>by
  refine⟨_,_,rfl,fun hx=>?_,fun hx=>?_⟩
  all_goals split at hx<;>exact absurd hx (by decide)
 | .var s,h,p=>by
  refine⟨_,_,rfl,fun hx=>?_,fun hx=>?_⟩
  all_goals
   have:=h.2.1
   rw[hx] at this
   exact absurd this (by decide)
 | .name s,h,p=>by
  refine⟨_,_,rfl,fun hx=>?_,fun hx=>?_⟩
  all_goals rcases h with rfl | rfl | rfl<;>exact absurd hx (by decide)
 | .field f s e,h,p=>by
  refine⟨_,_,rfl,fun hx=>?_,fun hx=>?_⟩
  all_goals
   have:=h.1
   rw[hx] at this
   exact absurd this (by decide)
 | .un f neg e,h,p=>by
  simp only[E.tx,qcn]
  split
  ·exact⟨_,_,rfl,fun hx=>absurd hx (by decide),fun hx=>absurd hx (by decide)⟩
  ·rename_i hc
   simp only[Bool.or_eq_true,not_or,decide_eq_true_eq,Nat.not_lt] at hc
   refine⟨_,_,rfl,fun hx=>?_,fun hx=>?_⟩
   ·cases neg with
    | true=>exact absurd hx (by decide)
    | false=>exact hc.2
   ·cases neg with
    | true=>exact hc.2
    | false=>exact absurd hx (by decide)
 | .bin f o a b,h,p=>by
  simp only[E.tx,qcn]
  split
  ·exact⟨_,_,rfl,fun hx=>absurd hx (by decide),fun hx=>absurd hx (by decide)⟩
  ·rename_i hc
   simp only[Bool.or_eq_true,not_or,decide_eq_true_eq,Nat.not_lt] at hc
   obtain⟨x,l,h1,h2,h3⟩:=qmW full a h.1 o.left
   refine⟨x,l++o.str::b.tx full (o.prec+1),by rw[h1]; rfl,fun hx=>?_,fun hx=>?_⟩
   ·have:=h2 hx; have:=hc.2
    rcases qfK o with h | h | h | h | h<;>omega
   ·have:=h3 hx; have:=hc.2
    rcases qfK o with h | h | h | h | h<;>omega
end Go.Pm
end SYh
section SYi
namespace Go.Pm
def ifS:ByteArray:=bs [105,102]
def qov:ByteArray:=bs [101,108,115,101]
def qmU:ByteArray:=bs [119,104,105,108,101]
def qki:ByteArray:=bs [101,102,102,101,99,116]
def qqp:ByteArray:=bs [115,116,111,112]
def onS:ByteArray:=bs [111,110]
def qfJ:Ss->Bool
 | .block _ .nil _=>false
 | .block _ _ _=>true
 | _=>false
def Ss.tx:Ss->List ByteArray
 | .nil=>[]
 | .assign _ s e r=>s::bs [61]::(e.tx false 1++(bs [59]::r.tx))
 | .store _ s a b r=>s::bs [91]::(a.tx false 1++(bs [93]::bs [61]::(b.tx false 1++(bs [59]::r.tx))))
 | .effect _ a b r=>qki::(a.tx false 1++(bs [44]::(b.tx false 1++(bs [59]::r.tx))))
 | .stop r=>qqp::bs [59]::r.tx
 | .cond w _ c b r=>(if w then qmU else ifS)::(c.tx false 1++(b.tx++r.tx))
 | .block _ b r=>bs [123]::(b.tx++(bs [125]::(if qfJ r then qov::r.tx else [])))
def qqq (s:ByteArray):Prop:=Tg (byl s)/\qaH qbi s=true/\s∉fieldNames/\s∉wordNames
def Ss.good:Ss->Option Nat->Prop
 | .nil,m=>m=none\/m=some 0
 | .assign _ s e r,m=>m=none/\qqq s/\e.good/\r.good none
 | .store _ s a b r,m=>m=none/\s∈fieldNames/\a.good/\b.good/\r.good none
 | .effect _ a b r,m=>m=none/\a.good/\b.good/\r.good none
 | .stop r,m=>m=none/\r.good none
 | .cond w _ c b r,m=>m=none/\c.good/\b.good (some (if w then 1 else 2))/\r.good none
 | .block _ b r,m => ∃ n,m=some (n+1)/\b.good none/\r.good (some n)
def Ss.nest:Ss->Nat
 | .nil=>0
 | .assign _ _ e r=>max (e.nest false 1) r.nest
 | .store _ _ a b r=>max (a.nest false 1+1) (max (b.nest false 1) r.nest)
 | .effect _ a b r=>max (a.nest false 1) (max (b.nest false 1) r.nest)
 | .stop r=>r.nest
 | .cond _ _ c b r=>max (c.nest false 1) (max (b.nest+1) r.nest)
 | .block _ b r=>max b.nest r.nest
def Ss.fl (f fi fb:Bool):Ss->Ss
 | .nil => .nil
 | .assign _ s e r => .assign f s (e.fl f) (r.fl f fi fb)
 | .store _ s a b r => .store f s (a.fl f) (b.fl f) (r.fl f fi fb)
 | .effect _ a b r => .effect f (a.fl f) (b.fl f) (r.fl f fi fb)
 | .stop r => .stop (r.fl f fi fb)
 | .cond w _ c b r => .cond w (if w then f else fi) (c.fl f) (b.fl f fi fb) (r.fl f fi fb)
 | .block _ b r => .block fb (b.fl f fi fb) (r.fl f fi fb)
end Go.Pm
end SYi
