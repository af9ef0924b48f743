/- Trees of rule programs: expressions, statements, rows of nodes, as the abstract machine's data; names. No program in sight. The rule language in plain Lean: tokens of a source, the parser over them. No program in sight. The rule language in plain Lean: statements, blocks, programs. No program in sight. The plain parser ends. The plain parser of statements and programs ends. The rule language in plain Lean: tokens over lists of bytes. No program in sight. The rule language in plain Lean: a source written down from its tokens is read back. No program in sight. The rule language in plain Lean: more steps change no result. No program in sight. -/
import Derived.Test.YtjdbkncfebebnaaDoorPmY
import Derived.Laws.Strings
import Derived.KernelRfl
set_option linter.unusedSimpArgs false
set_option linter.unusedVariables false
section SEt
namespace Go.Pm
inductive Bop where
 | add | sub | mul | div | lt | le | gt | ge | eq | ne | and | or
def Bop.str:Bop->ByteArray
 | .add=>⟨#[43]⟩ | .sub=>⟨#[45]⟩ | .mul=>⟨#[42]⟩ | .div=>⟨#[47]⟩
 | .lt=>⟨#[60]⟩ | .le=>⟨#[60,61]⟩ | .gt=>⟨#[62]⟩ | .ge=>⟨#[62,61]⟩ | .eq=>⟨#[61,61]⟩ | .ne=>⟨#[33,61]⟩
 | .and=>⟨#[38,38]⟩ | .or=>⟨#[124,124]⟩
def Bop.opd:Bop->Int
 | .and | .or=>2
 | _=>1
def Bop.res:Bop->Int
 | .add | .sub | .mul | .div=>1
 | _=>2
def ustr (neg:Bool):ByteArray:=if neg then ⟨#[45]⟩ else ⟨#[33]⟩
inductive E where
 | int (n:Int)
 | bool (n:Int)
 | var (s:ByteArray)
 | name (s:ByteArray)
 | field (f:Bool) (s:ByteArray) (e:E)
 | un (f:Bool) (neg:Bool) (e:E)
 | bin (f:Bool) (o:Bop) (a b:E)
def E.kind:E->Int
 | .int _=>8 | .bool _=>9 | .var _=>10 | .field .. => 11 | .name _=>12 | .un .. => 13 | .bin .. => 14
def E.num:E->Int
 | .int n=>n | .bool n=>n | _=>0
def E.str:E->ByteArray
 | .var s=>s | .name s=>s | .field _ s _=>s | .un _ neg _=>ustr neg | .bin _ o _ _=>o.str | _=>⟨#[]⟩
def E.kids:E->D
 | .field f _ e => .sl [.lit (.int .i64 e.kind),.lit (.int .i64 e.num),.lit (.string e.str),e.kids] 1 f
 | .un f _ e => .sl [.lit (.int .i64 e.kind),.lit (.int .i64 e.num),.lit (.string e.str),e.kids] 1 f
 | .bin f _ a b => .sl [.lit (.int .i64 a.kind),.lit (.int .i64 a.num),.lit (.string a.str),a.kids,.lit (.int .i64 b.kind),.lit (.int .i64 b.num),.lit (.string b.str),b.kids] 2 f
 | _ => .lit (.slice none 0 0)
@[simp] theorem qqs (e:E):V.one (.dat e.kids)=true:=by cases e<;>rfl
@[simp] theorem qoB (e:E):V.cells (.dat e.kids)=[.dat e.kids]:=by cases e<;>rfl
abbrev E.node (e:E):V := .dat (.agg [.lit (.int .i64 e.kind),.lit (.int .i64 e.num),.lit (.string e.str),e.kids])
def E.size:E->Nat
 | .field _ _ e=>e.size+1
 | .un _ _ e=>e.size+1
 | .bin _ _ a b=>a.size+b.size+1
 | _=>1
@[simp] theorem qqt (n:Int):E.size (.int n)=1:=rfl
@[simp] theorem qpY (n:Int):E.size (.bool n)=1:=rfl
@[simp] theorem qqu (s:ByteArray):E.size (.var s)=1:=rfl
@[simp] theorem qpZ (s:ByteArray):E.size (.name s)=1:=rfl
@[simp] theorem qoC (f:Bool) (s:ByteArray) (e:E):E.size (.field f s e)=e.size+1:=rfl
@[simp] theorem qrt (f neg:Bool) (e:E):E.size (.un f neg e)=e.size+1:=rfl
@[simp] theorem qqv (f:Bool) (o:Bop) (a b:E):E.size (.bin f o a b)=a.size+b.size+1:=rfl
def E.ok:E->Prop
 | .var s=>s.size<=100
 | .field _ _ e=>e.ok
 | .un _ _ e=>e.ok
 | .bin _ _ a b=>a.ok/\b.ok
 | _=>True
def E.ty:E->Int
 | .int _ | .var _ | .name _=>1
 | .bool _=>2
 | .field _ _ e=>if e.ty=1 then 1 else 0
 | .un _ neg e=>if e.ty=(if neg then 1 else 2) then (if neg then 1 else 2) else 0
 | .bin _ o a b=>if a.ty=o.opd/\b.ty=o.opd then o.res else 0
@[simp] theorem qqw (n:Int):E.kind (.int n)=8:=rfl
@[simp] theorem qru (n:Int):E.num (.int n)=n:=rfl
@[simp] theorem qrv (n:Int):E.str (.int n)=⟨#[]⟩:=rfl
@[simp] theorem qqx (n:Int):E.kids (.int n) = .lit (.slice none 0 0):=rfl
@[simp] theorem qrV (n:Int):E.ty (.int n)=1:=rfl
@[simp] theorem qp0 (n:Int):E.kind (.bool n)=9:=rfl
@[simp] theorem qqy (n:Int):E.num (.bool n)=n:=rfl
@[simp] theorem qqz (n:Int):E.str (.bool n)=⟨#[]⟩:=rfl
@[simp] theorem qp1 (n:Int):E.kids (.bool n) = .lit (.slice none 0 0):=rfl
@[simp] theorem qrw (n:Int):E.ty (.bool n)=2:=rfl
@[simp] theorem qqA (s:ByteArray):E.kind (.var s)=10:=rfl
@[simp] theorem qrx (s:ByteArray):E.num (.var s)=0:=rfl
@[simp] theorem qry (s:ByteArray):E.str (.var s)=s:=rfl
@[simp] theorem qqB (s:ByteArray):E.kids (.var s) = .lit (.slice none 0 0):=rfl
@[simp] theorem qrW (s:ByteArray):E.ty (.var s)=1:=rfl
@[simp] theorem qp2 (s:ByteArray):E.kind (.name s)=12:=rfl
@[simp] theorem qqC (s:ByteArray):E.num (.name s)=0:=rfl
@[simp] theorem qqD (s:ByteArray):E.str (.name s)=s:=rfl
@[simp] theorem qp3 (s:ByteArray):E.kids (.name s) = .lit (.slice none 0 0):=rfl
@[simp] theorem qrz (s:ByteArray):E.ty (.name s)=1:=rfl
@[simp] theorem qoD (f:Bool) (s:ByteArray) (e:E):E.kind (.field f s e)=11:=rfl
@[simp] theorem qp4 (f:Bool) (s:ByteArray) (e:E):E.num (.field f s e)=0:=rfl
@[simp] theorem qp5 (f:Bool) (s:ByteArray) (e:E):E.str (.field f s e)=s:=rfl
@[simp] theorem qkc (f:Bool) (s:ByteArray) (e:E):E.kids (.field f s e) = .sl [.lit (.int .i64 e.kind),.lit (.int .i64 e.num),.lit (.string e.str),e.kids] 1 f:=rfl
@[simp] theorem qqE (f:Bool) (s:ByteArray) (e:E):E.ty (.field f s e)=if e.ty=1 then 1 else 0:=rfl
@[simp] theorem qrA (f:Bool) (neg:Bool) (e:E):E.kind (.un f neg e)=13:=rfl
@[simp] theorem qrX (f:Bool) (neg:Bool) (e:E):E.num (.un f neg e)=0:=rfl
@[simp] theorem qrY (f:Bool) (neg:Bool) (e:E):E.str (.un f neg e)=ustr neg:=rfl
@[simp] theorem qod (f:Bool) (neg:Bool) (e:E):E.kids (.un f neg e) = .sl [.lit (.int .i64 e.kind),.lit (.int .i64 e.num),.lit (.string e.str),e.kids] 1 f:=rfl
@[simp] theorem qsl (f:Bool) (neg:Bool) (e:E):E.ty (.un f neg e)=if e.ty=(if neg then 1 else 2) then (if neg then 1 else 2) else 0:=rfl
@[simp] theorem qqF (f:Bool) (o:Bop) (a b:E):E.kind (.bin f o a b)=14:=rfl
@[simp] theorem qrB (f:Bool) (o:Bop) (a b:E):E.num (.bin f o a b)=0:=rfl
@[simp] theorem qrC (f:Bool) (o:Bop) (a b:E):E.str (.bin f o a b)=o.str:=rfl
@[simp] theorem qmy (f:Bool) (o:Bop) (a b:E):E.kids (.bin f o a b) = .sl [.lit (.int .i64 a.kind),.lit (.int .i64 a.num),.lit (.string a.str),a.kids,.lit (.int .i64 b.kind),.lit (.int .i64 b.num),.lit (.string b.str),b.kids] 2 f:=rfl
@[simp] theorem qrZ (f:Bool) (o:Bop) (a b:E):E.ty (.bin f o a b)=if a.ty=o.opd/\b.ty=o.opd then o.res else 0:=rfl
def kd (f:Bool):Nat->List D->D
 | 0,_ => .lit (.slice none 0 0)
 | n+1,cs => .sl cs (n+1) f
@[simp] theorem qr0 (f:Bool) (n:Nat) (cs:List D):V.one (.dat (kd f n cs))=true:=by cases n<;>rfl
@[simp] theorem qqG (f:Bool) (n:Nat) (cs:List D):V.cells (.dat (kd f n cs))=[.dat (kd f n cs)]:=by cases n<;>rfl
@[simp] theorem qr1 (σ : S) (f:Bool) (n:Nat) (cs:List D):V.len σ .sl (.dat (kd f n cs))=some n:=by cases n<;>simp[kd,V.len]
@[simp] theorem qsw (f:Bool) (cs:List D):kd f 0 cs = .lit (.slice none 0 0):=rfl
@[simp] theorem qrD (f:Bool) (n:Nat) (cs:List D):kd f (n+1) cs = .sl cs (n+1) f:=rfl
inductive Fo where
 | nil
 | cons (k n:Int) (s:ByteArray) (f:Bool) (kids rest:Fo)
def Fo.len:Fo->Nat
 | .nil=>0
 | .cons _ _ _ _ _ r=>r.len+1
def Fo.cells:Fo->List D
 | .nil=>[]
 | .cons k n s f ks r => .lit (.int .i64 k) :: .lit (.int .i64 n) :: .lit (.string s)::kd f ks.len ks.cells::r.cells
def Fo.app:Fo->Fo->Fo
 | .nil,b=>b
 | .cons k n s f ks r,b => .cons k n s f ks (r.app b)
def Fo.size:Fo->Nat
 | .nil=>0
 | .cons _ _ _ _ ks r=>ks.size+r.size+1
@[simp] theorem qe3:Fo.len .nil=0:=rfl
@[simp] theorem qeh (k n:Int) (s:ByteArray) (f:Bool) (ks r:Fo):(Fo.cons k n s f ks r).len=r.len+1:=rfl
@[simp] theorem qdI:Fo.cells .nil=[]:=rfl
@[simp] theorem qdi (k n:Int) (s:ByteArray) (f:Bool) (ks r:Fo):(Fo.cons k n s f ks r).cells = .lit (.int .i64 k) :: .lit (.int .i64 n) :: .lit (.string s)::kd f ks.len ks.cells::r.cells:=rfl
@[simp] theorem qoe:Fo.size .nil=0:=rfl
@[simp] theorem qmW (k n:Int) (s:ByteArray) (f:Bool) (ks r:Fo):(Fo.cons k n s f ks r).size=ks.size+r.size+1:=rfl
@[simp] theorem qoE (b:Fo):Fo.app .nil b=b:=rfl
@[simp] theorem qof (k n:Int) (s:ByteArray) (f:Bool) (ks r b:Fo):(Fo.cons k n s f ks r).app b = .cons k n s f ks (r.app b):=rfl
theorem qgU (a b:Fo):(a.app b).len=a.len+b.len:=by induction a with
 | nil=>simp
 | cons k n s f ks r _ ih=>simp[ih]; omega
theorem qil (a b:Fo):(a.app b).cells=a.cells++b.cells:=by induction a with
 | nil=>simp
 | cons k n s f ks r _ ih=>simp[ih]
abbrev nd (k n:Int) (s:ByteArray) (f:Bool) (ks:Fo):V := .dat (.agg [.lit (.int .i64 k),.lit (.int .i64 n),.lit (.string s),kd f ks.len ks.cells])
def Fo.hk:Fo->Int
 | .nil=>0
 | .cons k _ _ _ _ _=>k
def Fo.hn:Fo->Int
 | .nil=>0
 | .cons _ n _ _ _ _=>n
def Fo.hs:Fo->ByteArray
 | .nil=>⟨#[]⟩
 | .cons _ _ s _ _ _=>s
def Fo.hf:Fo->Bool
 | .nil=>false
 | .cons _ _ _ f _ _=>f
def Fo.hks:Fo->Fo
 | .nil => .nil
 | .cons _ _ _ _ ks _=>ks
def Fo.tl:Fo->Fo
 | .nil => .nil
 | .cons _ _ _ _ _ r=>r
abbrev Fo.hd (a:Fo):V:=nd a.hk a.hn a.hs a.hf a.hks
def E.flag:E->Bool
 | .field f _ _=>f | .un f _ _=>f | .bin f _ _ _=>f | _=>false
def E.fo:E->Fo->Fo
 | .int n,r => .cons 8 n ⟨#[]⟩ false .nil r
 | .bool n,r => .cons 9 n ⟨#[]⟩ false .nil r
 | .var s,r => .cons 10 0 s false .nil r
 | .name s,r => .cons 12 0 s false .nil r
 | .field f s e,r => .cons 11 0 s f (e.fo .nil) r
 | .un f neg e,r => .cons 13 0 (ustr neg) f (e.fo .nil) r
 | .bin f o a b,r => .cons 14 0 o.str f (a.fo (b.fo .nil)) r
def E.kfo:E->Fo
 | .field _ _ e=>e.fo .nil | .un _ _ e=>e.fo .nil | .bin _ _ a b=>a.fo (b.fo .nil) | _ => .nil
theorem qf8 (e:E) (r:Fo):e.fo r = .cons e.kind e.num e.str e.flag e.kfo r:=by cases e<;>rfl
theorem qlr (e:E):e.kids=kd e.flag e.kfo.len e.kfo.cells:=by
 induction e with
 | field f s e ih=>
  show (E.field f s e).kids=kd f (e.fo .nil).len (e.fo .nil).cells
  rw[qf8]
  simp only[qkc,qeh,qe3,qrD,qdi,qdI,<- ih]
 | un f neg e ih=>
  show (E.un f neg e).kids=kd f (e.fo .nil).len (e.fo .nil).cells
  rw[qf8]
  simp only[qod,qeh,qe3,qrD,qdi,qdI,<- ih]
 | bin f o a b iha ihb=>
  show (E.bin f o a b).kids=kd f (a.fo (b.fo .nil)).len (a.fo (b.fo .nil)).cells
  rw[qf8,qf8]
  simp only[qmy,qeh,qe3,qrD,qdi,qdI,<- iha,<- ihb]
 | _=>rfl
@[simp] theorem qsm (e:E) (r:Fo):(e.fo r).tl=r:=by rw[qf8]; rfl
inductive Ss where
 | nil
 | assign (f:Bool) (s:ByteArray) (e:E) (r:Ss)
 | store (f:Bool) (s:ByteArray) (a b:E) (r:Ss)
 | effect (f:Bool) (a b:E) (r:Ss)
 | stop (r:Ss)
 | cond (w:Bool) (f:Bool) (c:E) (b:Ss) (r:Ss)
 | block (f:Bool) (b:Ss) (r:Ss)
def qkl:ByteArray:=⟨#[104,105,116]⟩
def qmX:ByteArray:=⟨#[115,116,105,108,108]⟩
def Ss.well:Ss->Bool
 | .nil=>true
 | .assign _ _ e r=>decide (e.ty=1)&&r.well
 | .store _ s a b r=>(!(eqS s qkl||eqS s qmX)&&(decide (a.ty=1)&&decide (b.ty=1)))&&r.well
 | .effect _ a b r=>(decide (a.ty=1)&&decide (b.ty=1))&&r.well
 | .stop r=>r.well
 | .cond _ _ c b r=>(decide (c.ty=2)&&b.well)&&r.well
 | .block _ b r=>b.well&&r.well
def Ss.ok:Ss->Prop
 | .nil=>True
 | .assign _ s e r=>s.size<=100/\e.ok/\r.ok
 | .store _ _ a b r=>a.ok/\b.ok/\r.ok
 | .effect _ a b r=>a.ok/\b.ok/\r.ok
 | .stop r=>r.ok
 | .cond _ _ c b r=>c.ok/\b.ok/\r.ok
 | .block _ b r=>b.ok/\r.ok
def Ss.fo:Ss->Fo
 | .nil => .nil
 | .assign f s e r => .cons 1 0 s f (e.fo .nil) r.fo
 | .store f s a b r => .cons 2 0 s f (a.fo (b.fo .nil)) r.fo
 | .effect f a b r => .cons 5 0 ⟨#[]⟩ f (a.fo (b.fo .nil)) r.fo
 | .stop r => .cons 6 0 ⟨#[]⟩ false .nil r.fo
 | .cond w f c b r => .cons (if w then 4 else 3) 0 ⟨#[]⟩ f (c.fo b.fo) r.fo
 | .block f b r => .cons 7 0 ⟨#[]⟩ f b.fo r.fo
@[simp] theorem qsn (e:E) (r:Fo):(e.fo r).hk=e.kind:=by rw[qf8]; rfl
@[simp] theorem qso (e:E) (r:Fo):(e.fo r).hn=e.num:=by rw[qf8]; rfl
@[simp] theorem qsp (e:E) (r:Fo):(e.fo r).hs=e.str:=by rw[qf8]; rfl
@[simp] theorem qr2 (e:E) (r:Fo):kd (e.fo r).hf (e.fo r).hks.len (e.fo r).hks.cells=e.kids:=by rw[qf8,qlr]; rfl
@[simp] theorem qr3 (e:E) (r:Fo):(e.fo r).len=r.len+1:=by rw[qf8]; rfl
@[simp] theorem qqH (e:E) (r:Fo):(e.fo r).cells = .lit (.int .i64 e.kind) :: .lit (.int .i64 e.num) :: .lit (.string e.str)::e.kids::r.cells:=by rw[qf8,qlr]; rfl
@[simp] theorem qr4:Fo.hk .nil=0:=rfl
@[simp] theorem qr5:Fo.hn .nil=0:=rfl
@[simp] theorem qr6:Fo.hs .nil=⟨#[]⟩:=rfl
@[simp] theorem qr7:Fo.hf .nil=false:=rfl
@[simp] theorem qrE:Fo.hks .nil = .nil:=rfl
def qa5 (ss:List ByteArray):List D:=ss.map fun s => .lit (.string s)
theorem qmz (ss:List ByteArray) (i:Nat) (h:i<ss.length):qaD (qa5 ss) i 1=some [.lit (.string ss[i])]:=by
 unfold qaD qa5
 rw[List.drop_eq_getElem_cons (by simpa using h)]
 simp
theorem qck (a b:ByteArray):eqS a b=decide (a=b):=by
 rw[Bool.eq_iff_iff]
 simp only[eqS,beq_iff_eq,decide_eq_true_eq,ByteArray.toList_eq]
 exact⟨fun h=>by cases a; cases b; simp only[Array.toList_inj] at h; rw[h],fun h=>by rw[h]⟩
instance:LawfulBEq ByteArray where
 eq_of_beq h:=by rw[qfU] at h; exact of_decide_eq_true h
 rfl:=by intro a; rw[qfU]; exact decide_eq_true rfl
def qoF:List ByteArray->D
 | [] => .lit (.slice none 0 0)
 | s::l => .sl (qa5 (s::l)) (l.length+1) false
@[simp] theorem qqI (l:List ByteArray):V.one (.dat (qoF l))=true:=by cases l<;>rfl
@[simp] theorem qoG (l:List ByteArray):V.cells (.dat (qoF l))=[.dat (qoF l)]:=by cases l<;>rfl
@[simp] theorem qqJ (σ : S) (l:List ByteArray):V.len σ .sl (.dat (qoF l))=some l.length:=by cases l<;>simp[qoF,V.len]
@[simp] theorem qqK (l:List ByteArray):(qa5 l).length=l.length:=by simp[qa5]
structure Nd where
 k:Int
 n:Int
 s:ByteArray
 f:Bool
 ks:Fo
abbrev Nd.v (a:Nd):V:=nd a.k a.n a.s a.f a.ks
abbrev Nd.d (a:Nd):D:=kd a.f a.ks.len a.ks.cells
inductive Hd where
 | none
 | some (f:Bool) (b:Ss)
def Hd.k:Hd->Int
 | .none=>0
 | .some _ _=>7
def Hd.f:Hd->Bool
 | .none=>false
 | .some f _=>f
def Hd.ks:Hd->Fo
 | .none => .nil
 | .some _ b=>b.fo
def Hd.nd (h:Hd):Nd:=⟨h.k,0,⟨#[]⟩,h.f,h.ks⟩
@[simp] theorem qsx (h:Hd):h.nd.k=h.k:=rfl
@[simp] theorem qsy (h:Hd):h.nd.n=0:=rfl
@[simp] theorem qsz (h:Hd):h.nd.s=⟨#[]⟩:=rfl
@[simp] theorem qsA (h:Hd):h.nd.f=h.f:=rfl
@[simp] theorem qsq (h:Hd):h.nd.ks=h.ks:=rfl
def Hd.well:Hd->Bool
 | .none=>true
 | .some _ b=>b.well
def Ss.app:Ss->Ss->Ss
 | .nil,b=>b
 | .assign f s e r,b => .assign f s e (r.app b)
 | .store f s x y r,b => .store f s x y (r.app b)
 | .effect f x y r,b => .effect f x y (r.app b)
 | .stop r,b => .stop (r.app b)
 | .cond w f c q r,b => .cond w f c q (r.app b)
 | .block f q r,b => .block f q (r.app b)
theorem qmY (a b:Ss):(a.app b).fo=a.fo.app b.fo:=by
 induction a<;>simp_all [Ss.app,Ss.fo]
end Go.Pm
end SEt
section SYa
namespace Go.Pm
def qaQ (c:UInt8):Bool:=decide (97<=c.toNat)&&decide (c.toNat<=122)
def qap (c:UInt8):Bool:=decide (48<=c.toNat)&&decide (c.toNat<=57)
def qfF (s:ByteArray):Nat->Bool->Nat->Nat
 | 0,_,i=>i
 | n+1,c,i=>match s[i]? with
  | none=>i
  | some b=>if b.toNat=10 then qfF s n false (i+1) else if c=true\/b.toNat=32\/b.toNat=9 then qfF s n c (i+1) else if b.toNat=35 then qfF s n true (i+1) else i
def qm6 (p:UInt8->Bool) (s:ByteArray):Nat->Nat->Nat
 | 0,i=>i
 | n+1,i=>match s[i]? with
  | none=>i
  | some b=>if p b then qm6 p s n (i+1) else i
def qaE (c:UInt8):Bool:=qaQ c||qap c
def digV (l:List UInt8):Nat:=l.foldl (fun v c=>10*v+(c.toNat-48)) 0
structure Tk where
 at_:Nat
 s:ByteArray
 bad:Nat
def bs (l:List UInt8):ByteArray:=⟨l.toArray⟩
def fieldNames:List ByteArray:=[bs [120],bs [121],bs [118,120],bs [118,121],bs [97],bs [98],qkl,qmX]
def wordNames:List ByteArray:=[bs [111,110],bs [97,99,116],bs [116,105,99,107],qkl,bs [105,102],bs [101,108,115,101],bs [119,104,105,108,101],bs [101,102,102,101,99,116],bs [115,116,111,112],bs [116,114,117,101],bs [102,97,108,115,101],bs [115,101,108,102],bs [111,116,104,101,114]]
def qcS:List ByteArray:=[bs [124,124],bs [38,38],bs [60,61],bs [62,61],bs [61,61],bs [33,61]]
def qhE:List Nat:=[123,125,91,93,40,41,61,59,44,60,62,43,45,42,47,33]
def tokAt (eS eL eR:Nat) (s:ByteArray) (i:Nat):Tk:=match s[i]? with
 | none=>⟨i,⟨#[]⟩,0⟩
 | some c=>
  if qaQ c then
   let w:=s.extract i (qm6 qaE s (s.size-i) i)
   ⟨i,w,if 8<w.size/\w∉fieldNames/\w∉wordNames then eL else 0⟩
  else if qap c then
   let w:=s.extract i (qm6 qap s (s.size-i) i)
   ⟨i,w,if 2147483647<digV w.toList then eR else 0⟩
  else if i+2<=s.size/\s.extract i (i+2)∈qcS then ⟨i,s.extract i (i+2),0⟩
  else if c.toNat∈qhE then ⟨i,s.extract i (i+1),0⟩
  else ⟨i,s.extract i (i+1),eS⟩
def qbD (eS eL eR:Nat) (s:ByteArray):Nat->Nat->List Tk
 | 0,i=>[⟨i,⟨#[]⟩,0⟩]
 | n+1,i=>
  let t:=tokAt eS eL eR s (qfF s (s.size-i) false i)
  if t.bad≠0\/t.s.size=0 then [t] else t::qbD eS eL eR s n (t.at_+t.s.size)
inductive Rz (α : Type) where
 | ok (a : α) (r:List Tk)
 | er (i c:Nat)
def nx:List Tk->Option ByteArray
 | t::_=>if t.bad=0 then some t.s else none
 | []=>none
def qbG {α : Type} (c:Nat):List Tk->Rz α
 | t::_ => .er t.at_ (if t.bad=0 then c else t.bad)
 | [] => .er 0 c
def Rz.bind {α β : Type}:Rz α -> (α -> List Tk->Rz β)->Rz β
 | .ok a r,k=>k a r
 | .er i c,_ => .er i c
def qaB (eS:Nat) (x:ByteArray):List Tk->Rz Unit
 | t::r=>if t.bad=0/\t.s=x then .ok () r else qbG eS (t::r)
 | []=>qbG eS []
def qcT (eS eL:Nat) (x:ByteArray) (lv:Nat) (ts:List Tk):Rz Unit:=
 if nx ts=some x/\20<lv then qbG eL ts else qaB eS x ts
def qiD (prec:Nat) (s:ByteArray):Option Bop:=
 let l:List Bop:=match prec with
  | 1=>[.or] | 2=>[.and] | 4=>[.lt,.le,.gt,.ge,.eq,.ne] | 5=>[.add,.sub] | 6=>[.mul,.div] | _=>[]
 l.find? fun o=>decide (o.str=s)
def qaC (p:UInt8->Bool) (s:ByteArray):Bool:=match s[0]? with
 | some c=>p c
 | none=>false
mutual
def qal (eS eL:Nat) (f:Bool):Nat->Nat->Nat->List Tk->Option (Rz E)
 | 0,_,_,_=>none
 | n+1,prec,lv,ts=>
  if prec=3/\nx ts=some (ustr false)\/prec=7/\nx ts=some (ustr true) then
   match qcT eS eL (ustr (prec==7)) (lv+1) ts with
   | .er i c=>some (.er i c)
   | .ok _ r=>match qal eS eL f n prec (lv+1) r with
    | some (.ok e r')=>some (.ok (.un f (prec==7) e) r')
    | x=>x
  else if prec<8 then
   match qal eS eL f n (prec+1) lv ts with
   | some (.ok e r)=>qbX eS eL f n prec lv e r
   | x=>x
  else match nx ts with
   | none=>some (qbG eS ts)
   | some s=>
    if qaC qap s then some (.ok (.int (digV s.toList)) ts.tail)
    else if s=bs [116,114,117,101] then some (.ok (.bool 1) ts.tail)
    else if s=bs [102,97,108,115,101] then some (.ok (.bool 0) ts.tail)
    else if s=bs [115,101,108,102]\/s=bs [111,116,104,101,114]\/s=bs [116,105,99,107] then some (.ok (.name s) ts.tail)
    else if s∈fieldNames then match qbC eS eL f n lv ts.tail with
     | some (.ok e r)=>some (.ok (.field f s e) r)
     | x=>x
    else if qaC qaQ s/\s∉wordNames then some (.ok (.var s) ts.tail)
    else match qcT eS eL (bs [40]) (lv+1) ts with
     | .er i c=>some (.er i c)
     | .ok _ r=>match qal eS eL f n 1 (lv+1) r with
      | some (.ok e r')=>match qaB eS (bs [41]) r' with
       | .ok _ r''=>some (.ok e r'')
       | .er i c=>some (.er i c)
      | x=>x
def qbX (eS eL:Nat) (f:Bool):Nat->Nat->Nat->E->List Tk->Option (Rz E)
 | 0,_,_,_,_=>none
 | n+1,prec,lv,e,ts=>match nx ts with
  | none=>if prec=3\/prec=7 then some (.ok e ts) else some (qbG eS ts)
  | some s=>match qiD prec s with
   | none=>some (.ok e ts)
   | some o=>match qal eS eL f n (prec+1) lv ts.tail with
    | some (.ok e' r)=>if prec=4 then some (.ok (.bin f o e e') r) else qbX eS eL f n prec lv (.bin f o e e') r
    | x=>x
def qbC (eS eL:Nat) (f:Bool):Nat->Nat->List Tk->Option (Rz E)
 | 0,_,_=>none
 | n+1,lv,ts=>match qcT eS eL (bs [91]) (lv+1) ts with
  | .er i c=>some (.er i c)
  | .ok _ r=>match qal eS eL f n 1 (lv+1) r with
   | some (.ok e r')=>match qaB eS (bs [93]) r' with
    | .ok _ r''=>some (.ok e r'')
    | .er i c=>some (.er i c)
   | x=>x
end
end Go.Pm
end SYa
section SYb
namespace Go.Pm
def qbn {α : Type} (eS:Nat) (a : α) (ts:List Tk):Rz α := match qaB eS (bs [59]) ts with
 | .ok _ r => .ok a r
 | .er i c => .er i c
mutual
def qcq (eS eL:Nat) (f fi fb:Bool):Nat->Nat->List Tk->Option (Rz Ss)
 | 0,_,_=>none
 | n+1,lv,ts=>match nx ts with
  | none=>some (qbG eS ts)
  | some s=>
   if s=bs [105,102] then match qal eS eL f n 1 lv ts.tail with
    | some (.ok c r)=>match qa4 eS eL f fi fb n (lv+1) r with
     | some (.ok b r1)=>match nx r1 with
      | none=>some (qbG eS r1)
      | some w=>if w=bs [101,108,115,101] then match qa4 eS eL f fi fb n (lv+1) r1.tail with
        | some (.ok b2 r2)=>some (.ok (.cond false fi c (.block fb b (.block fb b2 .nil)) .nil) r2)
        | some (.er i k)=>some (.er i k)
        | none=>none
       else some (.ok (.cond false fi c (.block fb b (.block fb .nil .nil)) .nil) r1)
     | some (.er i k)=>some (.er i k)
     | none=>none
    | some (.er i k)=>some (.er i k)
    | none=>none
   else if s=bs [119,104,105,108,101] then match qal eS eL f n 1 lv ts.tail with
    | some (.ok c r)=>match qa4 eS eL f fi fb n (lv+1) r with
     | some (.ok b r1)=>some (.ok (.cond true f c (.block fb b .nil) .nil) r1)
     | some (.er i k)=>some (.er i k)
     | none=>none
    | some (.er i k)=>some (.er i k)
    | none=>none
   else if s=bs [101,102,102,101,99,116] then match qal eS eL f n 1 lv ts.tail with
    | some (.ok a r)=>match qaB eS (bs [44]) r with
     | .ok _ r1=>match qal eS eL f n 1 lv r1 with
      | some (.ok b r2)=>some (qbn eS (.effect f a b .nil) r2)
      | some (.er i k)=>some (.er i k)
      | none=>none
     | .er i k=>some (.er i k)
    | some (.er i k)=>some (.er i k)
    | none=>none
   else if s=bs [115,116,111,112] then some (qbn eS (.stop .nil) ts.tail)
   else if s∈fieldNames then match qbC eS eL f n lv ts.tail with
    | some (.ok a r)=>match qaB eS (bs [61]) r with
     | .ok _ r1=>match qal eS eL f n 1 lv r1 with
      | some (.ok b r2)=>some (qbn eS (.store f s a b .nil) r2)
      | some (.er i k)=>some (.er i k)
      | none=>none
     | .er i k=>some (.er i k)
    | some (.er i k)=>some (.er i k)
    | none=>none
   else if qaC qaQ s/\s∉wordNames then match qaB eS (bs [61]) ts.tail with
    | .ok _ r1=>match qal eS eL f n 1 lv r1 with
     | some (.ok b r2)=>some (qbn eS (.assign f s b .nil) r2)
     | some (.er i k)=>some (.er i k)
     | none=>none
    | .er i k=>some (.er i k)
   else some (qbG eS ts)
def qa4 (eS eL:Nat) (f fi fb:Bool):Nat->Nat->List Tk->Option (Rz Ss)
 | 0,_,_=>none
 | n+1,lv,ts=>match qcT eS eL (bs [123]) lv ts with
  | .er i k=>some (.er i k)
  | .ok _ r=>qbV eS eL f fi fb n lv .nil r
def qbV (eS eL:Nat) (f fi fb:Bool):Nat->Nat->Ss->List Tk->Option (Rz Ss)
 | 0,_,_,_=>none
 | n+1,lv,a,ts=>match nx ts with
  | none=>some (qbG eS ts)
  | some s=>if s=bs [125] then some (.ok a ts.tail) else match qcq eS eL f fi fb n lv ts with
   | some (.ok b r)=>qbV eS eL f fi fb n lv (a.app b) r
   | some (.er i k)=>some (.er i k)
   | none=>none
end
def qbp (s:ByteArray):Option Nat:=
 if s=bs [97,99,116] then some 0 else if s=bs [116,105,99,107] then some 1 else if s=qkl then some 2 else none
def qcF (eS eL eD:Nat) (f fi fb:Bool):Nat->(Nat->Option Ss)->List Tk->Option (Rz (Nat->Option Ss))
 | 0,_,_=>none
 | n+1,h,ts=>match nx ts with
  | none=>some (qbG eS ts)
  | some s=>if s.size=0 then some (.ok h ts) else match qaB eS (bs [111,110]) ts with
   | .er i k=>some (.er i k)
   | .ok _ r=>match nx r with
    | none=>some (qbG eS r)
    | some w=>match qbp w with
     | none=>some (qbG eS r)
     | some k=>if (h k).isSome then some (qbG eD r) else match qa4 eS eL f fi fb n 1 r.tail with
      | some (.ok b r1)=>qcF eS eL eD f fi fb n (fun i=>if i=k then some b else h i) r1
      | some (.er i c)=>some (.er i c)
      | none=>none
end Go.Pm
end SYb
section SYc
namespace Go.Pm
def Fin {α : Type} (m:Nat) (x:Option (Rz α)):Prop := ∃ y,x=some y /\ ∀ a r,y = .ok a r->r.length<=m
theorem qb7 {α : Type} (m c:Nat) (ts:List Tk):Fin (α := α) m (some (qbG c ts)):=⟨_,rfl,fun a r h=>by cases ts<;>cases h⟩
theorem qbh {α : Type} (m i c:Nat):Fin (α := α) m (some (.er i c)):=⟨_,rfl,fun a r h=>by cases h⟩
theorem qbW {α : Type} {m:Nat} (a : α) {ts:List Tk} (h:ts.length<=m):Fin m (some (.ok a ts)):=⟨_,rfl,fun a r e=>by cases e; exact h⟩
theorem qfT {ts:List Tk} {s:ByteArray} (h:nx ts=some s):ts.tail.length+1=ts.length:=by
 cases ts with
 | nil=>cases h
 | cons t r=>rfl
theorem qbv {eS:Nat} {x:ByteArray} {ts r:List Tk} {u:Unit} (h:qaB eS x ts = .ok u r):r.length+1=ts.length:=by
 cases ts with
 | nil=>cases h
 | cons t r'=>
  simp only[qaB] at h
  split at h
  ·cases h; rfl
  ·cases h
theorem qeG {eS eL:Nat} {x:ByteArray} {lv:Nat} {ts r:List Tk} {u:Unit} (h:qcT eS eL x lv ts = .ok u r):r.length+1=ts.length:=by
 unfold qcT at h
 split at h
 ·cases ts<;>cases h
 ·exact qbv h
theorem qh8 (eS eL:Nat) (f:Bool) : ∀ n:Nat,
  (∀ prec lv ts,1<=prec->prec<=8->10*ts.length+(10-prec)<=n->Fin (ts.length-1) (qal eS eL f n prec lv ts)) /\
  (∀ prec lv e ts,1<=prec->prec<=7->10*ts.length+1<=n->Fin ts.length (qbX eS eL f n prec lv e ts)) /\
  (∀ lv ts,10*ts.length+1<=n->Fin (ts.length-1) (qbC eS eL f n lv ts))
 | 0=>⟨fun p lv ts h1 h2 h=>by omega,fun p lv e ts h1 h2 h=>by omega,fun lv ts h=>by omega⟩
 | n+1=>by
  obtain⟨ihe,ihl,ihi⟩:=qh8 eS eL f n
  refine⟨fun p lv ts h1 h2 h=>?_,fun p lv e ts h1 h2 h=>?_,fun lv ts h=>?_⟩
  ·simp only[qal]
   split
   ·split
    ·exact qbh _ _ _
    ·rename_i u r ho
     have hl:=qeG ho
     obtain⟨y,hy,hr⟩:=ihe p (lv+1) r h1 h2 (by omega)
     rw[hy]
     cases y with
     | er i c=>exact qbh _ _ _
     | ok e r'=>have:=hr e r' rfl; exact qbW _ (by omega)
   ·split
    ·obtain⟨y,hy,hr⟩:=ihe (p+1) lv ts (by omega) (by omega) (by omega)
     rw[hy]
     cases y with
     | er i c=>exact qbh _ _ _
     | ok e r=>
      have:=hr e r rfl
      obtain⟨z,hz,hr2⟩:=ihl p lv e r h1 (by omega) (by omega)
      exact⟨z,hz,fun a q hq=>by have:=hr2 a q hq; omega⟩
    ·cases hn:nx ts with
     | none=>exact qb7 _ _ _
     | some s=>
      have hp:=qfT hn
      simp only
      split
      ·exact qbW _ (by omega)
      split
      ·exact qbW _ (by omega)
      split
      ·exact qbW _ (by omega)
      split
      ·exact qbW _ (by omega)
      split
      ·obtain⟨y,hy,hr⟩:=ihi lv ts.tail (by omega)
       rw[hy]
       cases y with
       | er i c=>exact qbh _ _ _
       | ok e r'=>have:=hr e r' rfl; exact qbW _ (by omega)
      split
      ·exact qbW _ (by omega)
      split
      ·exact qbh _ _ _
      ·rename_i u r ho
       have hl:=qeG ho
       obtain⟨y,hy,hr⟩:=ihe 1 (lv+1) r (by omega) (by omega) (by omega)
       rw[hy]
       cases y with
       | er i c=>exact qbh _ _ _
       | ok e r'=>
        have:=hr e r' rfl
        simp only
        split
        ·rename_i u' r'' hx; have:=qbv hx; exact qbW _ (by omega)
        ·exact qbh _ _ _
  ·simp only[qbX]
   cases hn:nx ts with
   | none=>
    simp only
    split
    ·exact qbW _ (Nat.le_refl _)
    ·exact qb7 _ _ _
   | some s=>
    have hp:=qfT hn
    simp only
    split
    ·exact qbW _ (Nat.le_refl _)
    ·obtain⟨y,hy,hr⟩:=ihe (p+1) lv ts.tail (by omega) (by omega) (by omega)
     rw[hy]
     cases y with
     | er i c=>exact qbh _ _ _
     | ok e' r=>
      have:=hr e' r rfl
      simp only
      split
      ·exact qbW _ (by omega)
      ·obtain⟨z,hz,hr2⟩:=ihl p lv (.bin f _ e e') r h1 h2 (by omega)
       exact⟨z,hz,fun a q hq=>by have:=hr2 a q hq; omega⟩
  ·simp only[qbC]
   split
   ·exact qbh _ _ _
   ·rename_i u r ho
    have hl:=qeG ho
    obtain⟨y,hy,hr⟩:=ihe 1 (lv+1) r (by omega) (by omega) (by omega)
    rw[hy]
    cases y with
    | er i c=>exact qbh _ _ _
    | ok e r'=>
     have:=hr e r' rfl
     simp only
     split
     ·rename_i u' r'' hx; have:=qbv hx; exact qbW _ (by omega)
     ·exact qbh _ _ _
end Go.Pm
end SYc
section SYd
namespace Go.Pm
theorem qfw {α : Type} {eS m:Nat} {a : α} {ts:List Tk} (h:ts.length<=m+1):Fin m (some (qbn eS a ts)):=by
 unfold qbn
 split
 ·rename_i u r hx; have:=qbv hx; exact qbW _ (by omega)
 ·exact qbh _ _ _
theorem qfx (eS eL:Nat) (f fi fb:Bool) : ∀ n:Nat,
  (∀ lv ts,10*ts.length+1<=n->Fin (ts.length-1) (qcq eS eL f fi fb n lv ts)) /\
  (∀ lv ts,10*ts.length+1<=n->Fin (ts.length-1) (qa4 eS eL f fi fb n lv ts)) /\
  (∀ lv a ts,10*ts.length+2<=n->Fin (ts.length-1) (qbV eS eL f fi fb n lv a ts))
 | 0=>⟨fun lv ts h=>by omega,fun lv ts h=>by omega,fun lv a ts h=>by omega⟩
 | n+1=>by
  obtain⟨ihs,ihb,ihl⟩:=qfx eS eL f fi fb n
  obtain⟨ihe,_,ihi⟩:=qh8 eS eL f n
  refine⟨fun lv ts h=>?_,fun lv ts h=>?_,fun lv a ts h=>?_⟩
  ·simp only[qcq]
   cases hn:nx ts with
   | none=>exact qb7 _ _ _
   | some s=>
    have hp:=qfT hn
    simp only
    have he:=ihe 1 lv ts.tail (by omega) (by omega) (by omega)
    obtain⟨y,hy,hr⟩:=he
    split
    ·rw[hy]
     cases y with
     | er i c=>exact qbh _ _ _
     | ok e r=>
      have h1:=hr e r rfl
      obtain⟨y1,hy1,hr1⟩:=ihb (lv+1) r (by omega)
      simp only[hy1]
      cases y1 with
      | er i c=>exact qbh _ _ _
      | ok b r1=>
       have h2:=hr1 b r1 rfl
       simp only
       cases hn1:nx r1 with
       | none=>exact qb7 _ _ _
       | some w=>
        have hp1:=qfT hn1
        simp only
        split
        ·obtain⟨y2,hy2,hr2⟩:=ihb (lv+1) r1.tail (by omega)
         rw[hy2]
         cases y2 with
         | er i c=>exact qbh _ _ _
         | ok b2 r2=>have h3:=hr2 b2 r2 rfl; exact qbW _ (by omega)
        ·exact qbW _ (by omega)
    split
    ·rw[hy]
     cases y with
     | er i c=>exact qbh _ _ _
     | ok e r=>
      have h1:=hr e r rfl
      obtain⟨y1,hy1,hr1⟩:=ihb (lv+1) r (by omega)
      simp only[hy1]
      cases y1 with
      | er i c=>exact qbh _ _ _
      | ok b r1=>have h2:=hr1 b r1 rfl; exact qbW _ (by omega)
    have second : ∀ (r:List Tk) (g:E->Ss),r.length+1<=ts.length->Fin (ts.length-1) (match qal eS eL f n 1 lv r with
      | some (.ok b r2)=>some (qbn eS (g b) r2)
      | some (.er i k)=>some (.er i k)
      | none=>none):=fun r g hr=>by
     obtain⟨y1,hy1,hr1⟩:=ihe 1 lv r (by omega) (by omega) (by omega)
     rw[hy1]
     cases y1 with
     | er i c=>exact qbh _ _ _
     | ok b r2=>have h2:=hr1 b r2 rfl; exact qfw (by omega)
    split
    ·rw[hy]
     cases y with
     | er i c=>exact qbh _ _ _
     | ok e r=>
      have h1:=hr e r rfl
      simp only
      split
      ·rename_i u r1 hx
       have:=qbv hx
       exact second r1 (fun b => .effect f e b .nil) (by omega)
      ·exact qbh _ _ _
    split
    ·exact qfw (by omega)
    split
    ·obtain⟨y1,hy1,hr1⟩:=ihi lv ts.tail (by omega)
     rw[hy1]
     cases y1 with
     | er i c=>exact qbh _ _ _
     | ok e r=>
      have h1:=hr1 e r rfl
      simp only
      split
      ·rename_i u r1 hx
       have:=qbv hx
       exact second r1 (fun b => .store f s e b .nil) (by omega)
      ·exact qbh _ _ _
    split
    ·split
     ·rename_i u r1 hx
      have:=qbv hx
      exact second r1 (fun b => .assign f s b .nil) (by omega)
     ·exact qbh _ _ _
    ·exact qb7 _ _ _
  ·simp only[qa4]
   split
   ·exact qbh _ _ _
   ·rename_i u r ho
    have hl:=qeG ho
    obtain⟨y,hy,hr⟩:=ihl lv .nil r (by omega)
    exact⟨y,hy,fun a q hq=>by have:=hr a q hq; omega⟩
  ·simp only[qbV]
   cases hn:nx ts with
   | none=>exact qb7 _ _ _
   | some s=>
    have hp:=qfT hn
    simp only
    split
    ·exact qbW _ (by omega)
    ·obtain⟨y,hy,hr⟩:=ihs lv ts (by omega)
     rw[hy]
     cases y with
     | er i c=>exact qbh _ _ _
     | ok b r=>
      have h1:=hr b r rfl
      obtain⟨z,hz,hr2⟩:=ihl lv (a.app b) r (by omega)
      exact⟨z,hz,fun a q hq=>by have:=hr2 a q hq; omega⟩
theorem qhF (eS eL eD:Nat) (f fi fb:Bool) : ∀ (n:Nat) h ts,10*ts.length+2<=n->Fin ts.length (qcF eS eL eD f fi fb n h ts)
 | 0,h,ts,hn=>by omega
 | n+1,h,ts,hn=>by
  simp only[qcF]
  cases hx:nx ts with
  | none=>exact qb7 _ _ _
  | some s=>
   have hp:=qfT hx
   simp only
   split
   ·exact qbW _ (Nat.le_refl _)
   split
   ·exact qbh _ _ _
   ·rename_i u r hr
    have h1:=qbv hr
    cases hw:nx r with
    | none=>exact qb7 _ _ _
    | some w=>
     have hp1:=qfT hw
     simp only
     split
     ·exact qb7 _ _ _
     ·rename_i k hk
      split
      ·exact qb7 _ _ _
      ·obtain⟨y,hy,hr⟩:=(qfx eS eL f fi fb n).2.1 1 r.tail (by omega)
       rw[hy]
       cases y with
       | er i c=>exact qbh _ _ _
       | ok b r1=>
        have h2:=hr b r1 rfl
        obtain⟨z,hz,hr2⟩:=qhF eS eL eD f fi fb n (fun i=>if i=k then some b else h i) r1 (by omega)
        exact⟨z,hz,fun a q hq=>by have:=hr2 a q hq; omega⟩
end Go.Pm
end SYd
section SYe
namespace Go.Pm
abbrev byl (s:ByteArray):List UInt8:=s.data.toList
theorem qc4 (l:List UInt8):byl (bs l)=l:=by simp[byl,bs]
theorem qd5 (s:ByteArray):bs (byl s)=s:=by cases s; simp[bs,byl]
theorem qa1 (s:ByteArray):(byl s).length=s.size:=Array.length_toList
theorem qcl (l:List UInt8):(bs l).size=l.length:=rfl
theorem qjG {a b:List UInt8} (h:bs a=bs b):a=b:=by rw[<- qc4 a,h,qc4]
theorem qog {a b:ByteArray} (h:byl a=byl b):a=b:=by rw[<- qd5 a,h,qd5]
theorem qhz (s:ByteArray) (i:Nat):s[i]?=((byl s).drop i).head?:=by
 rw[List.head?_drop]
 by_cases h:i<s.size
 ·rw[getElem?_pos s i h,List.getElem?_eq_getElem (by rw[qa1]; exact h)]
  simp[byl,ByteArray.getElem_eq_getElem_data]
 ·rw[getElem?_neg s i h,List.getElem?_eq_none (by rw[qa1]; omega)]
theorem qbR (s:ByteArray) (i k:Nat):s.extract i (i+k)=bs (((byl s).drop i).take k):=by
 apply qog
 rw[qc4]
 simp only[byl,ByteArray.data_extract,Array.toList_extract,List.extract_eq_take_drop]
 rw[show i+k-i=k by omega]
def qaN:Bool->List UInt8->Nat
 | _,[]=>0
 | c,b::r=>if b.toNat=10 then qaN false r+1 else if c=true\/b.toNat=32\/b.toNat=9 then qaN c r+1 else if b.toNat=35 then qaN true r+1 else 0
def qbc (p:UInt8->Bool):List UInt8->Nat
 | []=>0
 | b::r=>if p b then qbc p r+1 else 0
theorem qfv : ∀ (l:List UInt8) (c:Bool),qaN c l<=l.length
 | [],c=>by simp[qaN]
 | b::r,c=>by
  have h1:=qfv r false
  have h2:=qfv r c
  have h3:=qfv r true
  simp only[qaN,List.length_cons]
  split
  ·omega
  split
  ·omega
  split<;>omega
theorem qei (p:UInt8->Bool) : ∀ l:List UInt8,qbc p l<=l.length
 | []=>by simp[qbc]
 | b::r=>by
  have h1:=qei p r
  simp only[qbc,List.length_cons]
  split<;>omega
def tokL (eS eL eR:Nat):List UInt8->List UInt8 × Nat
 | []=>([],0)
 | c::r=>
  if qaQ c then ((c::r).take (qbc qaE (c::r)),if 8<qbc qaE (c::r)/\bs ((c::r).take (qbc qaE (c::r)))∉fieldNames/\bs ((c::r).take (qbc qaE (c::r)))∉wordNames then eL else 0)
  else if qap c then ((c::r).take (qbc qap (c::r)),if 2147483647<digV ((c::r).take (qbc qap (c::r))) then eR else 0)
  else if bs ((c::r).take 2)∈qcS then ((c::r).take 2,0)
  else if c.toNat∈qhE then ([c],0)
  else ([c],eS)
def qmZ (eS eL eR:Nat):Nat->Nat->List UInt8->List Tk
 | 0,i,_=>[⟨i,⟨#[]⟩,0⟩]
 | n+1,i,l=>
  if (tokL eS eL eR (l.drop (qaN false l))).2≠0\/(tokL eS eL eR (l.drop (qaN false l))).1.length=0 then [⟨i+qaN false l,bs (tokL eS eL eR (l.drop (qaN false l))).1,(tokL eS eL eR (l.drop (qaN false l))).2⟩]
  else ⟨i+qaN false l,bs (tokL eS eL eR (l.drop (qaN false l))).1,(tokL eS eL eR (l.drop (qaN false l))).2⟩::qmZ eS eL eR n (i+qaN false l+(tokL eS eL eR (l.drop (qaN false l))).1.length) ((l.drop (qaN false l)).drop (tokL eS eL eR (l.drop (qaN false l))).1.length)
theorem qhA (s:ByteArray) : ∀ (n:Nat) (c:Bool) (i:Nat),s.size-i<=n->qfF s n c i=i+qaN c ((byl s).drop i)
 | 0,c,i,h=>by
  have:(byl s).drop i=[]:=List.drop_eq_nil_of_le (by rw[qa1]; omega)
  rw[this]
  simp[qfF,qaN]
 | n+1,c,i,h=>by
  rw[qfF,qhz]
  cases hd:(byl s).drop i with
  | nil=>simp[qaN]
  | cons b r=>
   have hr:(byl s).drop (i+1)=r:=by rw[<- List.drop_drop,hd]; rfl
   have ih:=fun c=>qhA s n c (i+1) (by omega)
   simp only[List.head?_cons,qaN,ih,hr]
   split
   ·omega
   split
   ·omega
   split<;>omega
theorem qls (p:UInt8->Bool) (s:ByteArray) : ∀ (n i:Nat),s.size-i<=n->qm6 p s n i=i+qbc p ((byl s).drop i)
 | 0,i,h=>by
  have:(byl s).drop i=[]:=List.drop_eq_nil_of_le (by rw[qa1]; omega)
  rw[this]
  simp[qm6,qbc]
 | n+1,i,h=>by
  rw[qm6,qhz]
  cases hd:(byl s).drop i with
  | nil=>simp[qbc]
  | cons b r=>
   have hr:(byl s).drop (i+1)=r:=by rw[<- List.drop_drop,hd]; rfl
   have ih:=qls p s n (i+1) (by omega)
   simp only[List.head?_cons,qbc,ih,hr]
   split<;>omega
theorem qdX {w:ByteArray} (h:w∈qcS):w.size=2:=by
 simp only[qcS,List.mem_cons,List.not_mem_nil,or_false] at h
 rcases h with h | h | h | h | h | h<;>rw[h]<;>rfl
theorem qcJ (eS eL eR:Nat) (s:ByteArray) (i:Nat):tokAt eS eL eR s i=⟨i,bs (tokL eS eL eR ((byl s).drop i)).1,(tokL eS eL eR ((byl s).drop i)).2⟩:=by
 unfold tokAt
 rw[qhz]
 cases hd:(byl s).drop i with
 | nil=>rfl
 | cons c r=>
  have hlen:s.size-i=r.length+1:=by
   have:=congrArg List.length hd
   rw[List.length_drop,qa1,List.length_cons] at this
   exact this
  have e1 : ∀ p,s.extract i (qm6 p s (s.size-i) i)=bs ((c::r).take (qbc p (c::r))):=fun p=>by
   rw[qls p s _ i (Nat.le_refl _),qbR,hd]
  have e2:s.extract i (i+2)=bs ((c::r).take 2):=by rw[qbR,hd]
  have e3:s.extract i (i+1)=bs [c]:=by rw[qbR,hd]; rfl
  have hw : ∀ p,((c::r).take (qbc p (c::r))).length=qbc p (c::r):=fun p=>by
   rw[List.length_take,Nat.min_eq_left (qei p _)]
  simp only[List.head?_cons,e1,e2,e3,tokL,qcl,hw,qc4,ByteArray.toList_eq]
  split
  ·rfl
  split
  ·simp[bs]
  have e4:(i+2<=s.size/\bs ((c::r).take 2)∈qcS)↔bs ((c::r).take 2)∈qcS:=by
   refine⟨fun h=>h.2,fun h=>⟨?_,h⟩⟩
   have:=qdX h
   rw[qcl,List.length_take,List.length_cons] at this
   omega
  simp only[e4]
  split
  ·rfl
  split<;>rfl
theorem qjH (eS eL eR:Nat) (s:ByteArray) : ∀ (n i:Nat),qbD eS eL eR s n i=qmZ eS eL eR n i ((byl s).drop i)
 | 0,i=>rfl
 | n+1,i=>by
  rw[qbD,qmZ]
  simp only[qhA s _ false i (Nat.le_refl _),qcJ,qcl,<- List.drop_drop,qjH eS eL eR s n,List.drop_drop]
end Go.Pm
end SYe
section SYf
namespace Go.Pm
def qeU (p:Bool) (t:ByteArray):Bool:=match (byl t).getLast? with
 | some c=>qaE c
 | none=>p
def gap (p:Bool) (t:ByteArray):List UInt8:=if p&&qaC qaE t then [32] else []
def qrR:Bool->List ByteArray->List UInt8
 | _,[]=>[]
 | p,t::ts=>gap p t++(byl t++qrR (qeU p t) ts)
theorem qb1 (p:UInt8->Bool) (t:ByteArray):qaC p t=match (byl t).head? with | some c=>p c | none=>false:=by
 unfold qaC
 rw[qhz,List.drop_zero]
 all_goals (cases (byl t).head?<;>rfl)
def Tg (w:List UInt8):Prop:=
 (∃ c r,w=c::r/\qaQ c=true/\(∀ b∈r,qaE b=true) /\ ¬ (8<w.length/\bs w∉fieldNames/\bs w∉wordNames)) \/
 (∃ c r,w=c::r/\qap c=true/\(∀ b∈r,qap b=true)/\digV w<=2147483647) \/
 bs w∈qcS \/ ∃ c,w=[c]/\c.toNat∈qhE
def Fol:List UInt8->List UInt8->Prop
 | c::r,d::_=>if qaQ c then qaE d=false else if qap c then qap d=false else r=[]->bs [c,d]∉qcS
 | _,_=>True
theorem qhp (p:UInt8->Bool) : ∀ (w r:List UInt8),(∀ b∈w,p b=true)->(∀ d,r.head?=some d->p d=false)->qbc p (w++r)=w.length
 | [],[],_,_=>rfl
 | [],d::r,_,h=>by simp[qbc,h d rfl]
 | b::w,r,h,h2=>by
  simp only[List.cons_append,qbc,h b (List.mem_cons_self ..),if_true,List.length_cons]
  rw[qhp p w r (fun x hx=>h x (List.mem_cons_of_mem _ hx)) h2]
theorem qjq {c:UInt8} (h:qaQ c=true):qaE c=true:=by simp[qaE,h]
theorem qjr {c:UInt8} (h:qap c=true):qaE c=true:=by simp[qaE,h]
theorem pair_cases {w:List UInt8} (h:bs w∈qcS):w=[124,124]\/w=[38,38]\/w=[60,61]\/w=[62,61]\/w=[61,61]\/w=[33,61]:=by
 simp only[qcS,List.mem_cons,List.not_mem_nil,or_false] at h
 rcases h with h | h | h | h | h | h<;>have:=qjG h<;>simp[this]
theorem qdB {c:UInt8} (h:c.toNat∈qhE):c=123\/c=125\/c=91\/c=93\/c=40\/c=41\/c=61\/c=59\/c=44\/c=60\/c=62\/c=43\/c=45\/c=42\/c=47\/c=33:=by
 simp only[qhE,List.mem_cons,List.not_mem_nil,or_false] at h
 simp only[<- UInt8.toNat_inj]
 exact h
theorem qk8 (eS eL eR:Nat) {w rest:List UInt8} (h:Tg w) (hf:Fol w rest):tokL eS eL eR (w++rest)=(w,0):=by
 have take_len : ∀ k,k=w.length->(w++rest).take k=w:=fun k hk=>by rw[hk,List.take_left]
 rcases h with ⟨c,r,rfl,hc,hr,hb⟩ | ⟨c,r,rfl,hc,hr,hb⟩ | hp | ⟨c,rfl,hc⟩
 ·have hrun:qbc qaE (c::r++rest)=(c::r).length:=by
   apply qhp
   ·intro b hb'
    rcases List.mem_cons.1 hb' with rfl | hb'
    ·exact qjq hc
    ·exact hr b hb'
   ·intro d hd
    cases rest with
    | nil=>cases hd
    | cons e rest=>
     cases hd
     simp only[Fol,hc,if_true] at hf
     exact hf
  have ht:=take_len _ rfl
  simp only[List.cons_append] at hrun ht ⊢
  simp only[tokL,hc,if_true,hrun,ht,if_neg hb]
 ·have hnl:qaQ c=false:=by
   simp only[qap,qaQ,Bool.and_eq_true,decide_eq_true_eq,Bool.and_eq_false_iff,decide_eq_false_iff_not] at hc ⊢
   omega
  have hrun:qbc qap (c::r++rest)=(c::r).length:=by
   apply qhp
   ·intro b hb'
    rcases List.mem_cons.1 hb' with rfl | hb'
    ·exact hc
    ·exact hr b hb'
   ·intro d hd
    cases rest with
    | nil=>cases hd
    | cons e rest=>
     cases hd
     simp only[Fol,hc,hnl,if_true] at hf
     exact hf
  have ht:=take_len _ hrun
  simp only[List.cons_append] at hrun ht ⊢
  simp only[tokL,hc,hnl,if_true,ht,if_neg (Nat.not_lt.2 hb)]
  simp
 ·rcases pair_cases hp with rfl | rfl | rfl | rfl | rfl | rfl<;>simp[tokL,qaQ,qap,hp]
 ·have h2:bs ((c::rest).take 2)∉qcS:=by
   cases rest with
   | nil=>intro h; have:=qdX h; rw[qcl] at this; simp at this
   | cons d rest=>
    have hl:qaQ c=false/\qap c=false:=by rcases qdB hc with rfl | rfl | rfl | rfl | rfl | rfl | rfl | rfl | rfl | rfl | rfl | rfl | rfl | rfl | rfl | rfl<;>exact⟨rfl,rfl⟩
    simp only[Fol,hl.1,hl.2] at hf
    simpa using hf
  have hl:qaQ c=false/\qap c=false:=by rcases qdB hc with rfl | rfl | rfl | rfl | rfl | rfl | rfl | rfl | rfl | rfl | rfl | rfl | rfl | rfl | rfl | rfl<;>exact⟨rfl,rfl⟩
  simp only[List.cons_append,List.nil_append,tokL,hl.1,hl.2,if_neg h2,if_pos hc,Bool.false_eq_true,if_false]
theorem qfV {w:List UInt8} (h:Tg w) : ∃ c r,w=c::r/\c.toNat≠10/\c.toNat≠32/\c.toNat≠9/\c.toNat≠35:=by
 rcases h with ⟨c,r,rfl,hc,hr,hb⟩ | ⟨c,r,rfl,hc,hr,hb⟩ | hp | ⟨c,rfl,hc⟩
 ·simp only[qaQ,Bool.and_eq_true,decide_eq_true_eq] at hc
  exact⟨c,r,rfl,by omega,by omega,by omega,by omega⟩
 ·simp only[qap,Bool.and_eq_true,decide_eq_true_eq] at hc
  exact⟨c,r,rfl,by omega,by omega,by omega,by omega⟩
 ·rcases pair_cases hp with rfl | rfl | rfl | rfl | rfl | rfl<;>exact⟨_,_,rfl,by decide,by decide,by decide,by decide⟩
 ·rcases qdB hc with rfl | rfl | rfl | rfl | rfl | rfl | rfl | rfl | rfl | rfl | rfl | rfl | rfl | rfl | rfl | rfl<;>exact⟨_,_,rfl,by decide,by decide,by decide,by decide⟩
def Adj (t u:ByteArray):Prop:=(t≠bs [60]/\t≠bs [62]/\t≠bs [61]/\t≠bs [33])\/(byl u).head?≠some 61
def Ok2:List ByteArray->Prop
 | []=>True
 | t::r=>Tg (byl t)/\(∀ u,r.head?=some u->Adj t u)/\Ok2 r
theorem qk9 {w:List UInt8} {p:Bool} (h:bs w∈qcS \/ ∃ c,w=[c]/\c.toNat∈qhE):qeU p (bs w)=false:=by
 unfold qeU
 rw[qc4]
 rcases h with hp | ⟨c,rfl,hc⟩
 ·rcases pair_cases hp with rfl | rfl | rfl | rfl | rfl | rfl<;>rfl
 ·rcases qdB hc with rfl | rfl | rfl | rfl | rfl | rfl | rfl | rfl | rfl | rfl | rfl | rfl | rfl | rfl | rfl | rfl<;>rfl
theorem qj1 {w:List UInt8} {p:Bool} (h : ∃ c r,w=c::r/\qaE c=true /\ ∀ b∈r,qaE b=true):qeU p (bs w)=true:=by
 obtain⟨c,r,rfl,hc,hr⟩:=h
 unfold qeU
 rw[qc4]
 cases hl:(c::r).getLast? with
 | none=>simp at hl
 | some b=>
  have:=List.mem_of_getLast? hl
  rcases List.mem_cons.1 this with rfl | h
  ·exact hc
  ·exact hr b h
theorem ql9 {p:Bool} {t u:ByteArray} (ht:Tg (byl t)) (hu:Tg (byl u)) (ha:Adj t u) (r:List UInt8):Fol (byl t) (gap (qeU p t) u++(byl u++r)):=by
 obtain⟨d,w,hd,-⟩:=qfV hu
 have hs:qaC qaE u=qaE d:=by rw[qb1,hd]; rfl
 have hword:(∃ c r,byl t=c::r/\qaE c=true /\ ∀ b∈r,qaE b=true) -> ∀ e q,gap (qeU p t) u++(byl u++r)=e::q->qaE e=false:=fun h e q he=>by
  have h1:qeU p t=true:=by
   have:=qj1 (p:=p) h
   rwa [qd5] at this
  rw[h1,gap,hs,hd] at he
  cases hwd:qaE d with
  | true=>simp[hwd] at he; rw[<- he.1]; rfl
  | false=>simp[hwd] at he; rw[<- he.1]; exact hwd
 cases he:gap (qeU p t) u++(byl u++r) with
 | nil=>cases byl t<;>trivial
 | cons e q=>
  rcases ht with ⟨c,r',hw,hc,hr,hb⟩ | ⟨c,r',hw,hc,hr,hb⟩ | hp | ⟨c,hw,hc⟩
  ·have:=hword ⟨c,r',hw,qjq hc,hr⟩ e q he
   rw[hw]
   simp only[Fol,hc,if_true]
   exact this
  ·have:=hword ⟨c,r',hw,qjr hc,fun b h=>qjr (hr b h)⟩ e q he
   rw[hw]
   have hnl:qaQ c=false:=by
    simp only[qap,qaQ,Bool.and_eq_true,decide_eq_true_eq,Bool.and_eq_false_iff,decide_eq_false_iff_not] at hc ⊢
    omega
   simp only[Fol,hc,hnl,if_true]
   simp only[qaE,Bool.or_eq_false_iff] at this
   exact this.2
  ·rcases pair_cases hp with h | h | h | h | h | h<;>rw[h]<;>simp[Fol,qaQ,qap]
  ·have h1:qeU p t=false:=by
    have:=qk9 (p:=p) (.inr ⟨c,hw,hc⟩)
    rwa [qd5] at this
   rw[h1,gap,hd] at he
   simp at he
   have hed:e=d:=he.1.symm
   rw[hw]
   have hl:qaQ c=false/\qap c=false:=by rcases qdB hc with rfl | rfl | rfl | rfl | rfl | rfl | rfl | rfl | rfl | rfl | rfl | rfl | rfl | rfl | rfl | rfl<;>exact⟨rfl,rfl⟩
   simp only[Fol,hl.1,hl.2]
   simp only[Bool.false_eq_true,if_false]
   intro _ hpr
   have htb:t=bs [c]:=by rw[<- qd5 t,hw]
   rw[hed] at hpr
   rcases ha with ⟨a1,a2,a3,a4⟩ | ha
   ·rcases pair_cases hpr with h | h | h | h | h | h<;>simp only[List.cons.injEq,and_true] at h
    ·rw[h.1] at hc; simp[qhE] at hc
    ·rw[h.1] at hc; simp[qhE] at hc
    ·exact a1 (by rw[htb,h.1])
    ·exact a2 (by rw[htb,h.1])
    ·exact a3 (by rw[htb,h.1])
    ·exact a4 (by rw[htb,h.1])
   ·rw[hd] at ha
    simp only[List.head?_cons] at ha
    rcases pair_cases hpr with h | h | h | h | h | h<;>simp only[List.cons.injEq,and_true] at h
    ·rw[h.1] at hc; simp[qhE] at hc
    ·rw[h.1] at hc; simp[qhE] at hc
    ·exact ha (by rw[h.2])
    ·exact ha (by rw[h.2])
    ·exact ha (by rw[h.2])
    ·exact ha (by rw[h.2])
end Go.Pm
end SYf
section SYg
namespace Go.Pm
variable {eS eL eD:Nat} {f fi fb:Bool}
theorem qdc : ∀ n:Nat,
  (∀ p lv ts x,qal eS eL f n p lv ts=some x->qal eS eL f (n+1) p lv ts=some x) /\
  (∀ p lv e ts x,qbX eS eL f n p lv e ts=some x->qbX eS eL f (n+1) p lv e ts=some x) /\
  (∀ lv ts x,qbC eS eL f n lv ts=some x->qbC eS eL f (n+1) lv ts=some x)
 | 0=>⟨fun p lv ts x h=>by simp[qal] at h,fun p lv e ts x h=>by simp[qbX] at h,fun lv ts x h=>by simp[qbC] at h⟩
 | n+1=>by
  obtain⟨ihe,ihl,ihi⟩:=qdc n
  refine⟨fun p lv ts x h=>?_,fun p lv e ts x h=>?_,fun lv ts x h=>?_⟩
  ·rw[qal] at h ⊢
   split at h
   ·rename_i c1
    rw[if_pos c1]
    cases ho:qcT eS eL (ustr (p==7)) (lv+1) ts with
    | er i c=>simp only[ho] at h ⊢; exact h
    | ok u r=>
     simp only[ho] at h ⊢
     cases hq:qal eS eL f n p (lv+1) r with
     | none=>simp[hq] at h
     | some y=>rw[ihe _ _ _ _ hq]; rw[hq] at h; exact h
   ·rename_i c1
    rw[if_neg c1]
    split at h
    ·rename_i c2
     rw[if_pos c2]
     cases hq:qal eS eL f n (p+1) lv ts with
     | none=>simp[hq] at h
     | some y=>
      rw[ihe _ _ _ _ hq]; rw[hq] at h
      cases y with
      | er i c=>exact h
      | ok e r=>exact ihl _ _ _ _ _ h
    ·rename_i c2
     rw[if_neg c2]
     cases hn:nx ts with
     | none=>simp only[hn] at h ⊢; exact h
     | some s=>
      simp only[hn] at h ⊢
      split at h
      ·rename_i c; rw[if_pos c]; exact h
      rename_i c; rw[if_neg c]
      split at h
      ·rename_i c; rw[if_pos c]; exact h
      rename_i c; rw[if_neg c]
      split at h
      ·rename_i c; rw[if_pos c]; exact h
      rename_i c; rw[if_neg c]
      split at h
      ·rename_i c; rw[if_pos c]; exact h
      rename_i c; rw[if_neg c]
      split at h
      ·rename_i c; rw[if_pos c]
       cases hq:qbC eS eL f n lv ts.tail with
       | none=>simp[hq] at h
       | some y=>rw[ihi _ _ _ hq]; rw[hq] at h; exact h
      rename_i c; rw[if_neg c]
      split at h
      ·rename_i c; rw[if_pos c]; exact h
      rename_i c; rw[if_neg c]
      cases ho:qcT eS eL (bs [40]) (lv+1) ts with
      | er i c=>simp only[ho] at h ⊢; exact h
      | ok u r=>
       simp only[ho] at h ⊢
       cases hq:qal eS eL f n 1 (lv+1) r with
       | none=>simp[hq] at h
       | some y=>rw[ihe _ _ _ _ hq]; rw[hq] at h; exact h
  ·rw[qbX] at h ⊢
   cases hn:nx ts with
   | none=>simp only[hn] at h ⊢; exact h
   | some s=>
    simp only[hn] at h ⊢
    cases ho:qiD p s with
    | none=>simp only[ho] at h ⊢; exact h
    | some o=>
     simp only[ho] at h ⊢
     cases hq:qal eS eL f n (p+1) lv ts.tail with
     | none=>simp[hq] at h
     | some y=>
      rw[ihe _ _ _ _ hq]; rw[hq] at h
      cases y with
      | er i c=>exact h
      | ok e' r=>
       simp only at h ⊢
       split at h
       ·rename_i c; rw[if_pos c]; exact h
       ·rename_i c; rw[if_neg c]; exact ihl _ _ _ _ _ h
  ·rw[qbC] at h ⊢
   cases ho:qcT eS eL (bs [91]) (lv+1) ts with
   | er i c=>simp only[ho] at h ⊢; exact h
   | ok u r=>
    simp only[ho] at h ⊢
    cases hq:qal eS eL f n 1 (lv+1) r with
    | none=>simp[hq] at h
    | some y=>rw[ihe _ _ _ _ hq]; rw[hq] at h; exact h
theorem qaR {n m p lv:Nat} {ts:List Tk} {x:Rz E} (h:qal eS eL f n p lv ts=some x) (hm:n<=m):qal eS eL f m p lv ts=some x:=by
 induction hm with
 | refl=>exact h
 | step _ ih=>exact (qdc _).1 _ _ _ _ ih
theorem qgK {n m p lv:Nat} {e:E} {ts:List Tk} {x:Rz E} (h:qbX eS eL f n p lv e ts=some x) (hm:n<=m):qbX eS eL f m p lv e ts=some x:=by
 induction hm with
 | refl=>exact h
 | step _ ih=>exact (qdc _).2.1 _ _ _ _ _ ih
theorem qfW {n m lv:Nat} {ts:List Tk} {x:Rz E} (h:qbC eS eL f n lv ts=some x) (hm:n<=m):qbC eS eL f m lv ts=some x:=by
 induction hm with
 | refl=>exact h
 | step _ ih=>exact (qdc _).2.2 _ _ _ ih
theorem qdd : ∀ n:Nat,
  (∀ lv ts x,qcq eS eL f fi fb n lv ts=some x->qcq eS eL f fi fb (n+1) lv ts=some x) /\
  (∀ lv ts x,qa4 eS eL f fi fb n lv ts=some x->qa4 eS eL f fi fb (n+1) lv ts=some x) /\
  (∀ lv a ts x,qbV eS eL f fi fb n lv a ts=some x->qbV eS eL f fi fb (n+1) lv a ts=some x)
 | 0=>⟨fun lv ts x h=>by simp[qcq] at h,fun lv ts x h=>by simp[qa4] at h,fun lv a ts x h=>by simp[qbV] at h⟩
 | n+1=>by
  obtain⟨ihs,ihb,ihl⟩:=qdd n
  refine⟨fun lv ts x h=>?_,fun lv ts x h=>?_,fun lv a ts x h=>?_⟩
  ·have second : ∀ (r:List Tk) (g:E->Ss) y,(match qal eS eL f n 1 lv r with
      | some (.ok b r2)=>some (qbn eS (g b) r2)
      | some (.er i k)=>some (.er i k)
      | none=>none)=some y->(match qal eS eL f (n+1) 1 lv r with
      | some (.ok b r2)=>some (qbn eS (g b) r2)
      | some (.er i k)=>some (.er i k)
      | none=>none)=some y:=fun r g y hy=>by
     cases hq:qal eS eL f n 1 lv r with
     | none=>simp[hq] at hy
     | some z=>rw[qaR hq (Nat.le_succ n)]; rw[hq] at hy; exact hy
   rw[qcq] at h ⊢
   cases hn:nx ts with
   | none=>simp only[hn] at h ⊢; exact h
   | some s=>
    simp only[hn] at h ⊢
    split at h
    ·rename_i c; rw[if_pos c]
     cases hq:qal eS eL f n 1 lv ts.tail with
     | none=>simp[hq] at h
     | some y=>
      rw[qaR hq (Nat.le_succ n)]; rw[hq] at h
      cases y with
      | er i c=>exact h
      | ok e r=>
       simp only at h ⊢
       cases hb:qa4 eS eL f fi fb n (lv+1) r with
       | none=>simp[hb] at h
       | some z=>
        rw[ihb _ _ _ hb]; rw[hb] at h
        cases z with
        | er i c=>exact h
        | ok b r1=>
         simp only at h ⊢
         cases hn1:nx r1 with
         | none=>simp only[hn1] at h ⊢; exact h
         | some w=>
          simp only[hn1] at h ⊢
          split at h
          ·rename_i c'; rw[if_pos c']
           cases hb2:qa4 eS eL f fi fb n (lv+1) r1.tail with
           | none=>simp[hb2] at h
           | some z2=>rw[ihb _ _ _ hb2]; rw[hb2] at h; exact h
          ·rename_i c'; rw[if_neg c']; exact h
    rename_i c; rw[if_neg c]
    split at h
    ·rename_i c; rw[if_pos c]
     cases hq:qal eS eL f n 1 lv ts.tail with
     | none=>simp[hq] at h
     | some y=>
      rw[qaR hq (Nat.le_succ n)]; rw[hq] at h
      cases y with
      | er i c=>exact h
      | ok e r=>
       simp only at h ⊢
       cases hb:qa4 eS eL f fi fb n (lv+1) r with
       | none=>simp[hb] at h
       | some z=>rw[ihb _ _ _ hb]; rw[hb] at h; exact h
    rename_i c; rw[if_neg c]
    split at h
    ·rename_i c; rw[if_pos c]
     cases hq:qal eS eL f n 1 lv ts.tail with
     | none=>simp[hq] at h
     | some y=>
      rw[qaR hq (Nat.le_succ n)]; rw[hq] at h
      cases y with
      | er i c=>exact h
      | ok e r=>
       simp only at h ⊢
       cases hx:qaB eS (bs [44]) r with
       | er i c=>simp only[hx] at h ⊢; exact h
       | ok u r1=>simp only[hx] at h ⊢; exact second r1 (fun b => .effect f e b .nil) x h
    rename_i c; rw[if_neg c]
    split at h
    ·rename_i c; rw[if_pos c]; exact h
    rename_i c; rw[if_neg c]
    split at h
    ·rename_i c; rw[if_pos c]
     cases hq:qbC eS eL f n lv ts.tail with
     | none=>simp[hq] at h
     | some y=>
      rw[qfW hq (Nat.le_succ n)]; rw[hq] at h
      cases y with
      | er i c=>exact h
      | ok e r=>
       simp only at h ⊢
       cases hx:qaB eS (bs [61]) r with
       | er i c=>simp only[hx] at h ⊢; exact h
       | ok u r1=>simp only[hx] at h ⊢; exact second r1 (fun b => .store f s e b .nil) x h
    rename_i c; rw[if_neg c]
    split at h
    ·rename_i c; rw[if_pos c]
     cases hx:qaB eS (bs [61]) ts.tail with
     | er i c=>simp only[hx] at h ⊢; exact h
     | ok u r1=>simp only[hx] at h ⊢; exact second r1 (fun b => .assign f s b .nil) x h
    ·rename_i c; rw[if_neg c]; exact h
  ·rw[qa4] at h ⊢
   cases ho:qcT eS eL (bs [123]) lv ts with
   | er i c=>simp only[ho] at h ⊢; exact h
   | ok u r=>simp only[ho] at h ⊢; exact ihl _ _ _ _ h
  ·rw[qbV] at h ⊢
   cases hn:nx ts with
   | none=>simp only[hn] at h ⊢; exact h
   | some s=>
    simp only[hn] at h ⊢
    split at h
    ·rename_i c; rw[if_pos c]; exact h
    ·rename_i c; rw[if_neg c]
     cases hq:qcq eS eL f fi fb n lv ts with
     | none=>simp[hq] at h
     | some y=>
      rw[ihs _ _ _ hq]; rw[hq] at h
      cases y with
      | er i c=>exact h
      | ok b r=>exact ihl _ _ _ _ h
theorem qgL {n m lv:Nat} {ts:List Tk} {x:Rz Ss} (h:qcq eS eL f fi fb n lv ts=some x) (hm:n<=m):qcq eS eL f fi fb m lv ts=some x:=by
 induction hm with
 | refl=>exact h
 | step _ ih=>exact (qdd _).1 _ _ _ ih
theorem qb2 {n m lv:Nat} {ts:List Tk} {x:Rz Ss} (h:qa4 eS eL f fi fb n lv ts=some x) (hm:n<=m):qa4 eS eL f fi fb m lv ts=some x:=by
 induction hm with
 | refl=>exact h
 | step _ ih=>exact (qdd _).2.1 _ _ _ ih
theorem qiN {n m lv:Nat} {a:Ss} {ts:List Tk} {x:Rz Ss} (h:qbV eS eL f fi fb n lv a ts=some x) (hm:n<=m):qbV eS eL f fi fb m lv a ts=some x:=by
 induction hm with
 | refl=>exact h
 | step _ ih=>exact (qdd _).2.2 _ _ _ _ ih
theorem qfX : ∀ (n:Nat) h ts x,qcF eS eL eD f fi fb n h ts=some x->qcF eS eL eD f fi fb (n+1) h ts=some x
 | 0,h,ts,x,e=>by simp[qcF] at e
 | n+1,h,ts,x,e=>by
  rw[qcF] at e ⊢
  cases hn:nx ts with
  | none=>simp only[hn] at e ⊢; exact e
  | some s=>
   simp only[hn] at e ⊢
   split at e
   ·rename_i c; rw[if_pos c]; exact e
   rename_i c; rw[if_neg c]
   cases hx:qaB eS (bs [111,110]) ts with
   | er i c=>simp only[hx] at e ⊢; exact e
   | ok u r=>
    simp only[hx] at e ⊢
    cases hn2:nx r with
    | none=>simp only[hn2] at e ⊢; exact e
    | some w=>
     simp only[hn2] at e ⊢
     cases hh:qbp w with
     | none=>simp only[hh] at e ⊢; exact e
     | some k=>
      simp only[hh] at e ⊢
      split at e
      ·rename_i c; rw[if_pos c]; exact e
      rename_i c; rw[if_neg c]
      cases hb:qa4 eS eL f fi fb n 1 r.tail with
      | none=>simp[hb] at e
      | some y=>
       rw[qb2 hb (Nat.le_succ n)]; rw[hb] at e
       cases y with
       | er i c=>exact e
       | ok b r1=>exact qfX n _ _ _ e
theorem qeV {n m:Nat} {h:Nat->Option Ss} {ts:List Tk} {x:Rz (Nat->Option Ss)} (e:qcF eS eL eD f fi fb n h ts=some x) (hm:n<=m):qcF eS eL eD f fi fb m h ts=some x:=by
 induction hm with
 | refl=>exact e
 | step _ ih=>exact qfX _ _ _ _ ih
end Go.Pm
end SYg
