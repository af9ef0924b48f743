/- Trees of rule programs: expressions, statements, rows of nodes, as the abstract machine's data; names. No program in sight. The rule language in plain Lean: tokens of a source, the parser over them. No program in sight. The rule language in plain Lean: statements, blocks, programs. No program in sight. The plain parser ends. The plain parser of statements and programs ends. The rule language in plain Lean: tokens over lists of bytes. No program in sight. The rule language in plain Lean: a source written down from its tokens is read back. No program in sight. The rule language in plain Lean: more steps change no result. No program in sight. -/
import Derived.Test.YtjdbkncfebebnaaDoorPmY
import Derived.Laws.Strings
import Derived.KernelRfl
set_option linter.unusedSimpArgs false
set_option linter.unusedVariables false
section SEt
namespace Go.Pm
inductive Bop where
 | add | sub | mul | div | lt | le | gt | ge | eq | ne | and | or
def Bop.str:Bop->ByteArray
 | .add=>⟨#[43]⟩ | .sub=>⟨#[45]⟩ | .mul=>⟨#[42]⟩ | .div=>⟨#[47]⟩
 | .lt=>⟨#[60]⟩ | .le=>⟨#[60,61]⟩ | .gt=>⟨#[62]⟩ | .ge=>⟨#[62,61]⟩ | .eq=>⟨#[61,61]⟩ | .ne=>⟨#[33,61]⟩
 | .and=>⟨#[38,38]⟩ | .or=>⟨#[124,124]⟩
def Bop.opd:Bop->Int
 | .and | .or=>2
 | _=>1
def Bop.res:Bop->Int
 | .add | .sub | .mul | .div=>1
 | _=>2
def ustr (neg:Bool):ByteArray:=if neg then ⟨#[45]⟩ else ⟨#[33]⟩
inductive E where
 | int (n:Int)
 | bool (n:Int)
 | var (s:ByteArray)
 | name (s:ByteArray)
 | field (f:Bool) (s:ByteArray) (e:E)
 | un (f:Bool) (neg:Bool) (e:E)
 | bin (f:Bool) (o:Bop) (a b:E)
def E.kind:E->Int
 | .int _=>8 | .bool _=>9 | .var _=>10 | .field .. => 11 | .name _=>12 | .un .. => 13 | .bin .. => 14
def E.num:E->Int
 | .int n=>n | .bool n=>n | _=>0
def E.str:E->ByteArray
 | .var s=>s | .name s=>s | .field _ s _=>s | .un _ neg _=>ustr neg | .bin _ o _ _=>o.str | _=>⟨#[]⟩
def E.kids:E->D
 | .field f _ e => .sl [.lit (.int .i64 e.kind),.lit (.int .i64 e.num),.lit (.string e.str),e.kids] 1 f
 | .un f _ e => .sl [.lit (.int .i64 e.kind),.lit (.int .i64 e.num),.lit (.string e.str),e.kids] 1 f
 | .bin f _ a b => .sl [.lit (.int .i64 a.kind),.lit (.int .i64 a.num),.lit (.string a.str),a.kids,.lit (.int .i64 b.kind),.lit (.int .i64 b.num),.lit (.string b.str),b.kids] 2 f
 | _ => .lit (.slice none 0 0)
@[simp] theorem qaJ (e:E):V.one (.dat e.kids)=true:=by cases e<;>rfl
@[simp] theorem qbH (e:E):V.cells (.dat e.kids)=[.dat e.kids]:=by cases e<;>rfl
abbrev E.node (e:E):V := .dat (.agg [.lit (.int .i64 e.kind),.lit (.int .i64 e.num),.lit (.string e.str),e.kids])
def E.size:E->Nat
 | .field _ _ e=>e.size+1
 | .un _ _ e=>e.size+1
 | .bin _ _ a b=>a.size+b.size+1
 | _=>1
@[simp] theorem qg4 (n:Int):E.size (.int n)=1:=rfl
@[simp] theorem qkp (n:Int):E.size (.bool n)=1:=rfl
@[simp] theorem qg5 (s:ByteArray):E.size (.var s)=1:=rfl
@[simp] theorem qf4 (s:ByteArray):E.size (.name s)=1:=rfl
@[simp] theorem qeX (f:Bool) (s:ByteArray) (e:E):E.size (.field f s e)=e.size+1:=rfl
@[simp] theorem qjy (f neg:Bool) (e:E):E.size (.un f neg e)=e.size+1:=rfl
@[simp] theorem qg6 (f:Bool) (o:Bop) (a b:E):E.size (.bin f o a b)=a.size+b.size+1:=rfl
def E.ok:E->Prop
 | .var s=>s.size<=100
 | .field _ _ e=>e.ok
 | .un _ _ e=>e.ok
 | .bin _ _ a b=>a.ok/\b.ok
 | _=>True
def E.ty:E->Int
 | .int _ | .var _ | .name _=>1
 | .bool _=>2
 | .field _ _ e=>if e.ty=1 then 1 else 0
 | .un _ neg e=>if e.ty=(if neg then 1 else 2) then (if neg then 1 else 2) else 0
 | .bin _ o a b=>if a.ty=o.opd/\b.ty=o.opd then o.res else 0
@[simp] theorem quB (n:Int):E.kind (.int n)=8:=rfl
@[simp] theorem qvN (n:Int):E.num (.int n)=n:=rfl
@[simp] theorem qvO (n:Int):E.str (.int n)=⟨#[]⟩:=rfl
@[simp] theorem quC (n:Int):E.kids (.int n) = .lit (.slice none 0 0):=rfl
@[simp] theorem qwm (n:Int):E.ty (.int n)=1:=rfl
@[simp] theorem qt0 (n:Int):E.kind (.bool n)=9:=rfl
@[simp] theorem quD (n:Int):E.num (.bool n)=n:=rfl
@[simp] theorem quE (n:Int):E.str (.bool n)=⟨#[]⟩:=rfl
@[simp] theorem qt1 (n:Int):E.kids (.bool n) = .lit (.slice none 0 0):=rfl
@[simp] theorem qvP (n:Int):E.ty (.bool n)=2:=rfl
@[simp] theorem quF (s:ByteArray):E.kind (.var s)=10:=rfl
@[simp] theorem qvQ (s:ByteArray):E.num (.var s)=0:=rfl
@[simp] theorem qvR (s:ByteArray):E.str (.var s)=s:=rfl
@[simp] theorem quG (s:ByteArray):E.kids (.var s) = .lit (.slice none 0 0):=rfl
@[simp] theorem qwn (s:ByteArray):E.ty (.var s)=1:=rfl
@[simp] theorem qt2 (s:ByteArray):E.kind (.name s)=12:=rfl
@[simp] theorem quH (s:ByteArray):E.num (.name s)=0:=rfl
@[simp] theorem quI (s:ByteArray):E.str (.name s)=s:=rfl
@[simp] theorem qt3 (s:ByteArray):E.kids (.name s) = .lit (.slice none 0 0):=rfl
@[simp] theorem qvS (s:ByteArray):E.ty (.name s)=1:=rfl
@[simp] theorem qsx (f:Bool) (s:ByteArray) (e:E):E.kind (.field f s e)=11:=rfl
@[simp] theorem qt4 (f:Bool) (s:ByteArray) (e:E):E.num (.field f s e)=0:=rfl
@[simp] theorem qt5 (f:Bool) (s:ByteArray) (e:E):E.str (.field f s e)=s:=rfl
@[simp] theorem qmC (f:Bool) (s:ByteArray) (e:E):E.kids (.field f s e) = .sl [.lit (.int .i64 e.kind),.lit (.int .i64 e.num),.lit (.string e.str),e.kids] 1 f:=rfl
@[simp] theorem quJ (f:Bool) (s:ByteArray) (e:E):E.ty (.field f s e)=if e.ty=1 then 1 else 0:=rfl
@[simp] theorem qvT (f:Bool) (neg:Bool) (e:E):E.kind (.un f neg e)=13:=rfl
@[simp] theorem qwo (f:Bool) (neg:Bool) (e:E):E.num (.un f neg e)=0:=rfl
@[simp] theorem qwp (f:Bool) (neg:Bool) (e:E):E.str (.un f neg e)=ustr neg:=rfl
@[simp] theorem qr9 (f:Bool) (neg:Bool) (e:E):E.kids (.un f neg e) = .sl [.lit (.int .i64 e.kind),.lit (.int .i64 e.num),.lit (.string e.str),e.kids] 1 f:=rfl
@[simp] theorem qwN (f:Bool) (neg:Bool) (e:E):E.ty (.un f neg e)=if e.ty=(if neg then 1 else 2) then (if neg then 1 else 2) else 0:=rfl
@[simp] theorem quK (f:Bool) (o:Bop) (a b:E):E.kind (.bin f o a b)=14:=rfl
@[simp] theorem qvU (f:Bool) (o:Bop) (a b:E):E.num (.bin f o a b)=0:=rfl
@[simp] theorem qvV (f:Bool) (o:Bop) (a b:E):E.str (.bin f o a b)=o.str:=rfl
@[simp] theorem qpQ (f:Bool) (o:Bop) (a b:E):E.kids (.bin f o a b) = .sl [.lit (.int .i64 a.kind),.lit (.int .i64 a.num),.lit (.string a.str),a.kids,.lit (.int .i64 b.kind),.lit (.int .i64 b.num),.lit (.string b.str),b.kids] 2 f:=rfl
@[simp] theorem qwq (f:Bool) (o:Bop) (a b:E):E.ty (.bin f o a b)=if a.ty=o.opd/\b.ty=o.opd then o.res else 0:=rfl
abbrev qsa:V := .dat (.agg [.lit (.int .i64 0),.lit (.int .i64 0),.lit (.string ⟨#[]⟩),.lit (.slice none 0 0)])
def kd (f:Bool):Nat->List D->D
 | 0,_ => .lit (.slice none 0 0)
 | n+1,cs => .sl cs (n+1) f
@[simp] theorem qkq (f:Bool) (n:Nat) (cs:List D):V.one (.dat (kd f n cs))=true:=by cases n<;>rfl
@[simp] theorem quL (f:Bool) (n:Nat) (cs:List D):V.cells (.dat (kd f n cs))=[.dat (kd f n cs)]:=by cases n<;>rfl
@[simp] theorem qwr (σ : S) (f:Bool) (n:Nat) (cs:List D):V.len σ .sl (.dat (kd f n cs))=some n:=by cases n<;>simp[kd,V.len]
@[simp] theorem qws (f:Bool) (cs:List D):kd f 0 cs = .lit (.slice none 0 0):=rfl
@[simp] theorem qmO (f:Bool) (n:Nat) (cs:List D):kd f (n+1) cs = .sl cs (n+1) f:=rfl
inductive Fo where
 | nil
 | cons (k n:Int) (s:ByteArray) (f:Bool) (kids rest:Fo)
def Fo.len:Fo->Nat
 | .nil=>0
 | .cons _ _ _ _ _ r=>r.len+1
def Fo.cells:Fo->List D
 | .nil=>[]
 | .cons k n s f ks r => .lit (.int .i64 k) :: .lit (.int .i64 n) :: .lit (.string s)::kd f ks.len ks.cells::r.cells
def Fo.app:Fo->Fo->Fo
 | .nil,b=>b
 | .cons k n s f ks r,b => .cons k n s f ks (r.app b)
def Fo.size:Fo->Nat
 | .nil=>0
 | .cons _ _ _ _ ks r=>ks.size+r.size+1
@[simp] theorem qbd:Fo.len .nil=0:=rfl
@[simp] theorem qaN (k n:Int) (s:ByteArray) (f:Bool) (ks r:Fo):(Fo.cons k n s f ks r).len=r.len+1:=rfl
@[simp] theorem qa1:Fo.cells .nil=[]:=rfl
@[simp] theorem qav (k n:Int) (s:ByteArray) (f:Bool) (ks r:Fo):(Fo.cons k n s f ks r).cells = .lit (.int .i64 k) :: .lit (.int .i64 n) :: .lit (.string s)::kd f ks.len ks.cells::r.cells:=rfl
@[simp] theorem qbg:Fo.size .nil=0:=rfl
@[simp] theorem qaq (k n:Int) (s:ByteArray) (f:Bool) (ks r:Fo):(Fo.cons k n s f ks r).size=ks.size+r.size+1:=rfl
@[simp] theorem qsy (b:Fo):Fo.app .nil b=b:=rfl
@[simp] theorem qsb (k n:Int) (s:ByteArray) (f:Bool) (ks r b:Fo):(Fo.cons k n s f ks r).app b = .cons k n s f ks (r.app b):=rfl
theorem qdS (a b:Fo):(a.app b).len=a.len+b.len:=by induction a with
 | nil=>simp
 | cons k n s f ks r _ ih=>simp[ih]; omega
theorem qgO (a b:Fo):(a.app b).cells=a.cells++b.cells:=by induction a with
 | nil=>simp
 | cons k n s f ks r _ ih=>simp[ih]
theorem qhO (a b:Fo):(a.app b).size=a.size+b.size:=by induction a with
 | nil=>simp
 | cons k n s f ks r _ ih=>simp[ih]; omega
theorem qeG (a:Fo):a.cells.length=a.len*4:=by induction a with
 | nil=>simp
 | cons k n s f ks r _ ih=>simp[ih]; omega
theorem qcg (a:Fo):a.len<=a.size:=by induction a with
 | nil=>simp
 | cons k n s f ks r _ ih=>simp; omega
abbrev nd (k n:Int) (s:ByteArray) (f:Bool) (ks:Fo):V := .dat (.agg [.lit (.int .i64 k),.lit (.int .i64 n),.lit (.string s),kd f ks.len ks.cells])
def Fo.hk:Fo->Int
 | .nil=>0
 | .cons k _ _ _ _ _=>k
def Fo.hn:Fo->Int
 | .nil=>0
 | .cons _ n _ _ _ _=>n
def Fo.hs:Fo->ByteArray
 | .nil=>⟨#[]⟩
 | .cons _ _ s _ _ _=>s
def Fo.hf:Fo->Bool
 | .nil=>false
 | .cons _ _ _ f _ _=>f
def Fo.hks:Fo->Fo
 | .nil => .nil
 | .cons _ _ _ _ ks _=>ks
def Fo.tl:Fo->Fo
 | .nil => .nil
 | .cons _ _ _ _ _ r=>r
abbrev Fo.hd (a:Fo):V:=nd a.hk a.hn a.hs a.hf a.hks
def E.flag:E->Bool
 | .field f _ _=>f | .un f _ _=>f | .bin f _ _ _=>f | _=>false
def E.fo:E->Fo->Fo
 | .int n,r => .cons 8 n ⟨#[]⟩ false .nil r
 | .bool n,r => .cons 9 n ⟨#[]⟩ false .nil r
 | .var s,r => .cons 10 0 s false .nil r
 | .name s,r => .cons 12 0 s false .nil r
 | .field f s e,r => .cons 11 0 s f (e.fo .nil) r
 | .un f neg e,r => .cons 13 0 (ustr neg) f (e.fo .nil) r
 | .bin f o a b,r => .cons 14 0 o.str f (a.fo (b.fo .nil)) r
def E.kfo:E->Fo
 | .field _ _ e=>e.fo .nil | .un _ _ e=>e.fo .nil | .bin _ _ a b=>a.fo (b.fo .nil) | _ => .nil
theorem qhP (e:E) (r:Fo):e.fo r = .cons e.kind e.num e.str e.flag e.kfo r:=by cases e<;>rfl
theorem qoa (e:E):e.kids=kd e.flag e.kfo.len e.kfo.cells:=by
 induction e with
 | field f s e ih=>
  show (E.field f s e).kids=kd f (e.fo .nil).len (e.fo .nil).cells
  rw[qhP]
  simp only[qmC,qaN,qbd,qmO,qav,qa1,<- ih]
 | un f neg e ih=>
  show (E.un f neg e).kids=kd f (e.fo .nil).len (e.fo .nil).cells
  rw[qhP]
  simp only[qr9,qaN,qbd,qmO,qav,qa1,<- ih]
 | bin f o a b iha ihb=>
  show (E.bin f o a b).kids=kd f (a.fo (b.fo .nil)).len (a.fo (b.fo .nil)).cells
  rw[qhP,qhP]
  simp only[qpQ,qaN,qbd,qmO,qav,qa1,<- iha,<- ihb]
 | _=>rfl
theorem qdz (e:E) (r:Fo):(e.fo r).size=e.size+r.size:=by
 induction e generalizing r<;>simp only[E.fo,E.size,qaq,qbg, *]<;>omega
@[simp] theorem qwO (e:E) (r:Fo):(e.fo r).tl=r:=by rw[qhP]; rfl
inductive Ss where
 | nil
 | assign (f:Bool) (s:ByteArray) (e:E) (r:Ss)
 | store (f:Bool) (s:ByteArray) (a b:E) (r:Ss)
 | effect (f:Bool) (a b:E) (r:Ss)
 | stop (r:Ss)
 | cond (w:Bool) (f:Bool) (c:E) (b:Ss) (r:Ss)
 | block (f:Bool) (b:Ss) (r:Ss)
def qiO:ByteArray:=⟨#[104,105,116]⟩
def ql6:ByteArray:=⟨#[115,116,105,108,108]⟩
def Ss.well:Ss->Bool
 | .nil=>true
 | .assign _ _ e r=>decide (e.ty=1)&&r.well
 | .store _ s a b r=>(!(eqS s qiO||eqS s ql6)&&(decide (a.ty=1)&&decide (b.ty=1)))&&r.well
 | .effect _ a b r=>(decide (a.ty=1)&&decide (b.ty=1))&&r.well
 | .stop r=>r.well
 | .cond _ _ c b r=>(decide (c.ty=2)&&b.well)&&r.well
 | .block _ b r=>b.well&&r.well
def Ss.ok:Ss->Prop
 | .nil=>True
 | .assign _ s e r=>s.size<=100/\e.ok/\r.ok
 | .store _ _ a b r=>a.ok/\b.ok/\r.ok
 | .effect _ a b r=>a.ok/\b.ok/\r.ok
 | .stop r=>r.ok
 | .cond _ _ c b r=>c.ok/\b.ok/\r.ok
 | .block _ b r=>b.ok/\r.ok
def Ss.fo:Ss->Fo
 | .nil => .nil
 | .assign f s e r => .cons 1 0 s f (e.fo .nil) r.fo
 | .store f s a b r => .cons 2 0 s f (a.fo (b.fo .nil)) r.fo
 | .effect f a b r => .cons 5 0 ⟨#[]⟩ f (a.fo (b.fo .nil)) r.fo
 | .stop r => .cons 6 0 ⟨#[]⟩ false .nil r.fo
 | .cond w f c b r => .cons (if w then 4 else 3) 0 ⟨#[]⟩ f (c.fo b.fo) r.fo
 | .block f b r => .cons 7 0 ⟨#[]⟩ f b.fo r.fo
theorem qvW {cs r:List D} {o:Nat} {a b c d:D} (h:cs.drop o=a::b::c::d::r):cutCells cs o 4=some [a,b,c,d]:=by
 unfold cutCells
 rw[h]
 simp
@[simp] theorem qwP (e:E) (r:Fo):(e.fo r).hk=e.kind:=by rw[qhP]; rfl
@[simp] theorem qwQ (e:E) (r:Fo):(e.fo r).hn=e.num:=by rw[qhP]; rfl
@[simp] theorem qwR (e:E) (r:Fo):(e.fo r).hs=e.str:=by rw[qhP]; rfl
@[simp] theorem qwt (e:E) (r:Fo):kd (e.fo r).hf (e.fo r).hks.len (e.fo r).hks.cells=e.kids:=by rw[qhP,qoa]; rfl
@[simp] theorem qkr (e:E) (r:Fo):(e.fo r).len=r.len+1:=by rw[qhP]; rfl
@[simp] theorem qf5 (e:E) (r:Fo):(e.fo r).cells = .lit (.int .i64 e.kind) :: .lit (.int .i64 e.num) :: .lit (.string e.str)::e.kids::r.cells:=by rw[qhP,qoa]; rfl
@[simp] theorem qwu:Fo.hk .nil=0:=rfl
@[simp] theorem qwv:Fo.hn .nil=0:=rfl
@[simp] theorem qww:Fo.hs .nil=⟨#[]⟩:=rfl
@[simp] theorem qwx:Fo.hf .nil=false:=rfl
@[simp] theorem qvX:Fo.hks .nil = .nil:=rfl
def strC (ss:List ByteArray):List D:=ss.map fun s => .lit (.string s)
theorem qg7 (ss:List ByteArray) (i:Nat) (h:i<ss.length):cutCells (strC ss) i 1=some [.lit (.string ss[i])]:=by
 unfold cutCells strC
 rw[List.drop_eq_getElem_cons (by simpa using h)]
 simp
theorem qbU (a b:ByteArray):eqS a b=decide (a=b):=by
 rw[Bool.eq_iff_iff]
 simp only[eqS,beq_iff_eq,decide_eq_true_eq,ByteArray.toList_eq]
 exact⟨fun h=>by cases a; cases b; simp only[Array.toList_inj] at h; rw[h],fun h=>by rw[h]⟩
instance:LawfulBEq ByteArray where
 eq_of_beq h:=by rw[qeu] at h; exact of_decide_eq_true h
 rfl:=by intro a; rw[qeu]; exact decide_eq_true rfl
def qks:List ByteArray->D
 | [] => .lit (.slice none 0 0)
 | s::l => .sl (strC (s::l)) (l.length+1) false
@[simp] theorem quM (l:List ByteArray):V.one (.dat (qks l))=true:=by cases l<;>rfl
@[simp] theorem qsz (l:List ByteArray):V.cells (.dat (qks l))=[.dat (qks l)]:=by cases l<;>rfl
@[simp] theorem quN (σ : S) (l:List ByteArray):V.len σ .sl (.dat (qks l))=some l.length:=by cases l<;>simp[qks,V.len]
@[simp] theorem quO (l:List ByteArray):(strC l).length=l.length:=by simp[strC]
def Fo.vars:Fo->List ByteArray
 | .nil=>[]
 | .cons k _ s _ ks r=>(if k=1\/k=10 then [s] else [])++(ks.vars++r.vars)
def qsc (l:List ByteArray) (s:ByteArray):List ByteArray:=if s∈l then l else l++[s]
def addAll (l:List ByteArray) (xs:List ByteArray):List ByteArray:=xs.foldl qsc l
theorem qcE (l a b:List ByteArray):addAll l (a++b)=addAll (addAll l a) b:=by simp[addAll,List.foldl_append]
theorem qpR (l:List ByteArray) (s:ByteArray):l.length<=(qsc l s).length/\(qsc l s).length<=l.length+1:=by
 unfold qsc
 split<;>simp
theorem qbZ (xs:List ByteArray) : ∀ l,l.length<=(addAll l xs).length/\(addAll l xs).length<=l.length+xs.length:=by
 induction xs with
 | nil=>intro l; simp[addAll]
 | cons x xs ih=>
  intro l
  have:=ih (qsc l x)
  have h2:=qpR l x
  simp only[addAll,List.foldl_cons,List.length_cons] at this ⊢
  omega
theorem qg8 (a:Fo):a.vars.length<=a.size:=by
 induction a with
 | nil=>simp[Fo.vars]
 | cons k n s f ks r ih1 ih2=>
  simp only[Fo.vars,List.length_append,qaq]
  split<;>simp<;>omega
theorem qbr {cs r:List D} {i:Nat} {a b c d:D} (h:cs.drop (i*4)=a::b::c::d::r):cs.drop ((i+1)*4)=r:=by
 rw[show (i+1)*4=i*4+4 by omega,<- List.drop_drop,h]
 rfl
theorem qgr {b:Ss} (hb:b.fo.len=0):b = .nil:=by cases b<;>simp[Ss.fo] at hb; rfl
theorem qob {l:List ByteArray} (h:l≠[]):qks l = .sl (strC l) l.length false:=by
 cases l with
 | nil=>exact absurd rfl h
 | cons s l=>rfl
theorem ql7 (s:ByteArray):strC [s]=[.lit (.string s)]:=rfl
theorem qpS (a b:List ByteArray):strC (a++b)=strC a++strC b:=by simp[strC]
structure Nd where
 k:Int
 n:Int
 s:ByteArray
 f:Bool
 ks:Fo
abbrev Nd.v (a:Nd):V:=nd a.k a.n a.s a.f a.ks
def Nd.vars (a:Nd):List ByteArray:=(if a.k=1\/a.k=10 then [a.s] else [])++a.ks.vars
abbrev Nd.d (a:Nd):D:=kd a.f a.ks.len a.ks.cells
theorem qch (a:Nd):a.vars.length<=a.ks.size+1:=by
 have h:=qg8 a.ks
 unfold Nd.vars
 rw[List.length_append]
 split<;>simp<;>omega
abbrev ru (a b c:Nd):D := .agg [.lit (.int .i64 a.k),.lit (.int .i64 a.n),.lit (.string a.s),a.d,.lit (.int .i64 b.k),.lit (.int .i64 b.n),.lit (.string b.s),b.d,.lit (.int .i64 c.k),.lit (.int .i64 c.n),.lit (.string c.s),c.d]
def rvars (a b c:Nd):List ByteArray:=addAll [] (a.vars++(b.vars++c.vars))
inductive Hd where
 | none
 | some (f:Bool) (b:Ss)
def Hd.k:Hd->Int
 | .none=>0
 | .some _ _=>7
def Hd.f:Hd->Bool
 | .none=>false
 | .some f _=>f
def Hd.ks:Hd->Fo
 | .none => .nil
 | .some _ b=>b.fo
def Hd.nd (h:Hd):Nd:=⟨h.k,0,⟨#[]⟩,h.f,h.ks⟩
@[simp] theorem qvY (h:Hd):h.nd.k=h.k:=rfl
@[simp] theorem qwy (h:Hd):h.nd.n=0:=rfl
@[simp] theorem qvZ (h:Hd):h.nd.s=⟨#[]⟩:=rfl
@[simp] theorem qwz (h:Hd):h.nd.f=h.f:=rfl
@[simp] theorem qib (h:Hd):h.nd.ks=h.ks:=rfl
def Hd.well:Hd->Bool
 | .none=>true
 | .some _ b=>b.well
abbrev qsd (a b c:Nd):Ob := .cells [.int a.k,.int a.n,.str a.s,.dat a.d,.int b.k,.int b.n,.str b.s,.dat b.d,.int c.k,.int c.n,.str c.s,.dat c.d]
def Ss.app:Ss->Ss->Ss
 | .nil,b=>b
 | .assign f s e r,b => .assign f s e (r.app b)
 | .store f s x y r,b => .store f s x y (r.app b)
 | .effect f x y r,b => .effect f x y (r.app b)
 | .stop r,b => .stop (r.app b)
 | .cond w f c q r,b => .cond w f c q (r.app b)
 | .block f q r,b => .block f q (r.app b)
theorem qhQ (a b:Ss):(a.app b).fo=a.fo.app b.fo:=by
 induction a<;>simp_all [Ss.app,Ss.fo]
theorem qoc (a b c:Fo):(a.app b).app c=a.app (b.app c):=by
 induction a<;>simp_all
theorem qse (a:Fo):a.app .nil=a:=by
 induction a<;>simp_all
end Go.Pm
end SEt
section SYa
namespace Go.Pm
def qaQ (c:UInt8):Bool:=decide (97<=c.toNat)&&decide (c.toNat<=122)
def qas (c:UInt8):Bool:=decide (48<=c.toNat)&&decide (c.toNat<=57)
def qhk (s:ByteArray):Nat->Bool->Nat->Nat
 | 0,_,i=>i
 | n+1,c,i=>match s[i]? with
  | none=>i
  | some b=>if b.toNat=10 then qhk s n false (i+1) else if c=true\/b.toNat=32\/b.toNat=9 then qhk s n c (i+1) else if b.toNat=35 then qhk s n true (i+1) else i
def qqy (p:UInt8->Bool) (s:ByteArray):Nat->Nat->Nat
 | 0,i=>i
 | n+1,i=>match s[i]? with
  | none=>i
  | some b=>if p b then qqy p s n (i+1) else i
def qaE (c:UInt8):Bool:=qaQ c||qas c
def digV (l:List UInt8):Nat:=l.foldl (fun v c=>10*v+(c.toNat-48)) 0
structure Tk where
 at_:Nat
 s:ByteArray
 bad:Nat
def bs (l:List UInt8):ByteArray:=⟨l.toArray⟩
def fieldNames:List ByteArray:=[bs [120],bs [121],bs [118,120],bs [118,121],bs [97],bs [98],qiO,ql6]
def wordNames:List ByteArray:=[bs [111,110],bs [97,99,116],bs [116,105,99,107],qiO,bs [105,102],bs [101,108,115,101],bs [119,104,105,108,101],bs [101,102,102,101,99,116],bs [115,116,111,112],bs [116,114,117,101],bs [102,97,108,115,101],bs [115,101,108,102],bs [111,116,104,101,114]]
def qdw:List ByteArray:=[bs [124,124],bs [38,38],bs [60,61],bs [62,61],bs [61,61],bs [33,61]]
def qi9:List Nat:=[123,125,91,93,40,41,61,59,44,60,62,43,45,42,47,33]
def tokAt (eS eL eR:Nat) (s:ByteArray) (i:Nat):Tk:=match s[i]? with
 | none=>⟨i,⟨#[]⟩,0⟩
 | some c=>
  if qaQ c then
   let w:=s.extract i (qqy qaE s (s.size-i) i)
   ⟨i,w,if 8<w.size/\w∉fieldNames/\w∉wordNames then eL else 0⟩
  else if qas c then
   let w:=s.extract i (qqy qas s (s.size-i) i)
   ⟨i,w,if 2147483647<digV w.toList then eR else 0⟩
  else if i+2<=s.size/\s.extract i (i+2)∈qdw then ⟨i,s.extract i (i+2),0⟩
  else if c.toNat∈qi9 then ⟨i,s.extract i (i+1),0⟩
  else ⟨i,s.extract i (i+1),eS⟩
def qb2 (eS eL eR:Nat) (s:ByteArray):Nat->Nat->List Tk
 | 0,i=>[⟨i,⟨#[]⟩,0⟩]
 | n+1,i=>
  let t:=tokAt eS eL eR s (qhk s (s.size-i) false i)
  if t.bad≠0\/t.s.size=0 then [t] else t::qb2 eS eL eR s n (t.at_+t.s.size)
inductive Rz (α : Type) where
 | ok (a : α) (r:List Tk)
 | er (i c:Nat)
def nx:List Tk->Option ByteArray
 | t::_=>if t.bad=0 then some t.s else none
 | []=>none
def qb8 {α : Type} (c:Nat):List Tk->Rz α
 | t::_ => .er t.at_ (if t.bad=0 then c else t.bad)
 | [] => .er 0 c
def Rz.bind {α β : Type}:Rz α -> (α -> List Tk->Rz β)->Rz β
 | .ok a r,k=>k a r
 | .er i c,_ => .er i c
def qaO (eS:Nat) (x:ByteArray):List Tk->Rz Unit
 | t::r=>if t.bad=0/\t.s=x then .ok () r else qb8 eS (t::r)
 | []=>qb8 eS []
def qdF (eS eL:Nat) (x:ByteArray) (lv:Nat) (ts:List Tk):Rz Unit:=
 if nx ts=some x/\20<lv then qb8 eL ts else qaO eS x ts
def qkL (prec:Nat) (s:ByteArray):Option Bop:=
 let l:List Bop:=match prec with
  | 1=>[.or] | 2=>[.and] | 4=>[.lt,.le,.gt,.ge,.eq,.ne] | 5=>[.add,.sub] | 6=>[.mul,.div] | _=>[]
 l.find? fun o=>decide (o.str=s)
def qax (p:UInt8->Bool) (s:ByteArray):Bool:=match s[0]? with
 | some c=>p c
 | none=>false
mutual
def qao (eS eL:Nat) (f:Bool):Nat->Nat->Nat->List Tk->Option (Rz E)
 | 0,_,_,_=>none
 | n+1,prec,lv,ts=>
  if prec=3/\nx ts=some (ustr false)\/prec=7/\nx ts=some (ustr true) then
   match qdF eS eL (ustr (prec==7)) (lv+1) ts with
   | .er i c=>some (.er i c)
   | .ok _ r=>match qao eS eL f n prec (lv+1) r with
    | some (.ok e r')=>some (.ok (.un f (prec==7) e) r')
    | x=>x
  else if prec<8 then
   match qao eS eL f n (prec+1) lv ts with
   | some (.ok e r)=>qcx eS eL f n prec lv e r
   | x=>x
  else match nx ts with
   | none=>some (qb8 eS ts)
   | some s=>
    if qax qas s then some (.ok (.int (digV s.toList)) ts.tail)
    else if s=bs [116,114,117,101] then some (.ok (.bool 1) ts.tail)
    else if s=bs [102,97,108,115,101] then some (.ok (.bool 0) ts.tail)
    else if s=bs [115,101,108,102]\/s=bs [111,116,104,101,114]\/s=bs [116,105,99,107] then some (.ok (.name s) ts.tail)
    else if s∈fieldNames then match qb1 eS eL f n lv ts.tail with
     | some (.ok e r)=>some (.ok (.field f s e) r)
     | x=>x
    else if qax qaQ s/\s∉wordNames then some (.ok (.var s) ts.tail)
    else match qdF eS eL (bs [40]) (lv+1) ts with
     | .er i c=>some (.er i c)
     | .ok _ r=>match qao eS eL f n 1 (lv+1) r with
      | some (.ok e r')=>match qaO eS (bs [41]) r' with
       | .ok _ r''=>some (.ok e r'')
       | .er i c=>some (.er i c)
      | x=>x
def qcx (eS eL:Nat) (f:Bool):Nat->Nat->Nat->E->List Tk->Option (Rz E)
 | 0,_,_,_,_=>none
 | n+1,prec,lv,e,ts=>match nx ts with
  | none=>if prec=3\/prec=7 then some (.ok e ts) else some (qb8 eS ts)
  | some s=>match qkL prec s with
   | none=>some (.ok e ts)
   | some o=>match qao eS eL f n (prec+1) lv ts.tail with
    | some (.ok e' r)=>if prec=4 then some (.ok (.bin f o e e') r) else qcx eS eL f n prec lv (.bin f o e e') r
    | x=>x
def qb1 (eS eL:Nat) (f:Bool):Nat->Nat->List Tk->Option (Rz E)
 | 0,_,_=>none
 | n+1,lv,ts=>match qdF eS eL (bs [91]) (lv+1) ts with
  | .er i c=>some (.er i c)
  | .ok _ r=>match qao eS eL f n 1 (lv+1) r with
   | some (.ok e r')=>match qaO eS (bs [93]) r' with
    | .ok _ r''=>some (.ok e r'')
    | .er i c=>some (.er i c)
   | x=>x
end
end Go.Pm
end SYa
section SYb
namespace Go.Pm
def qbI {α : Type} (eS:Nat) (a : α) (ts:List Tk):Rz α := match qaO eS (bs [59]) ts with
 | .ok _ r => .ok a r
 | .er i c => .er i c
mutual
def qc8 (eS eL:Nat) (f fi fb:Bool):Nat->Nat->List Tk->Option (Rz Ss)
 | 0,_,_=>none
 | n+1,lv,ts=>match nx ts with
  | none=>some (qb8 eS ts)
  | some s=>
   if s=bs [105,102] then match qao eS eL f n 1 lv ts.tail with
    | some (.ok c r)=>match qbk eS eL f fi fb n (lv+1) r with
     | some (.ok b r1)=>match nx r1 with
      | none=>some (qb8 eS r1)
      | some w=>if w=bs [101,108,115,101] then match qbk eS eL f fi fb n (lv+1) r1.tail with
        | some (.ok b2 r2)=>some (.ok (.cond false fi c (.block fb b (.block fb b2 .nil)) .nil) r2)
        | some (.er i k)=>some (.er i k)
        | none=>none
       else some (.ok (.cond false fi c (.block fb b (.block fb .nil .nil)) .nil) r1)
     | some (.er i k)=>some (.er i k)
     | none=>none
    | some (.er i k)=>some (.er i k)
    | none=>none
   else if s=bs [119,104,105,108,101] then match qao eS eL f n 1 lv ts.tail with
    | some (.ok c r)=>match qbk eS eL f fi fb n (lv+1) r with
     | some (.ok b r1)=>some (.ok (.cond true f c (.block fb b .nil) .nil) r1)
     | some (.er i k)=>some (.er i k)
     | none=>none
    | some (.er i k)=>some (.er i k)
    | none=>none
   else if s=bs [101,102,102,101,99,116] then match qao eS eL f n 1 lv ts.tail with
    | some (.ok a r)=>match qaO eS (bs [44]) r with
     | .ok _ r1=>match qao eS eL f n 1 lv r1 with
      | some (.ok b r2)=>some (qbI eS (.effect f a b .nil) r2)
      | some (.er i k)=>some (.er i k)
      | none=>none
     | .er i k=>some (.er i k)
    | some (.er i k)=>some (.er i k)
    | none=>none
   else if s=bs [115,116,111,112] then some (qbI eS (.stop .nil) ts.tail)
   else if s∈fieldNames then match qb1 eS eL f n lv ts.tail with
    | some (.ok a r)=>match qaO eS (bs [61]) r with
     | .ok _ r1=>match qao eS eL f n 1 lv r1 with
      | some (.ok b r2)=>some (qbI eS (.store f s a b .nil) r2)
      | some (.er i k)=>some (.er i k)
      | none=>none
     | .er i k=>some (.er i k)
    | some (.er i k)=>some (.er i k)
    | none=>none
   else if qax qaQ s/\s∉wordNames then match qaO eS (bs [61]) ts.tail with
    | .ok _ r1=>match qao eS eL f n 1 lv r1 with
     | some (.ok b r2)=>some (qbI eS (.assign f s b .nil) r2)
     | some (.er i k)=>some (.er i k)
     | none=>none
    | .er i k=>some (.er i k)
   else some (qb8 eS ts)
def qbk (eS eL:Nat) (f fi fb:Bool):Nat->Nat->List Tk->Option (Rz Ss)
 | 0,_,_=>none
 | n+1,lv,ts=>match qdF eS eL (bs [123]) lv ts with
  | .er i k=>some (.er i k)
  | .ok _ r=>qcu eS eL f fi fb n lv .nil r
def qcu (eS eL:Nat) (f fi fb:Bool):Nat->Nat->Ss->List Tk->Option (Rz Ss)
 | 0,_,_,_=>none
 | n+1,lv,a,ts=>match nx ts with
  | none=>some (qb8 eS ts)
  | some s=>if s=bs [125] then some (.ok a ts.tail) else match qc8 eS eL f fi fb n lv ts with
   | some (.ok b r)=>qcu eS eL f fi fb n lv (a.app b) r
   | some (.er i k)=>some (.er i k)
   | none=>none
end
def qbK (s:ByteArray):Option Nat:=
 if s=bs [97,99,116] then some 0 else if s=bs [116,105,99,107] then some 1 else if s=qiO then some 2 else none
def qdq (eS eL eD:Nat) (f fi fb:Bool):Nat->(Nat->Option Ss)->List Tk->Option (Rz (Nat->Option Ss))
 | 0,_,_=>none
 | n+1,h,ts=>match nx ts with
  | none=>some (qb8 eS ts)
  | some s=>if s.size=0 then some (.ok h ts) else match qaO eS (bs [111,110]) ts with
   | .er i k=>some (.er i k)
   | .ok _ r=>match nx r with
    | none=>some (qb8 eS r)
    | some w=>match qbK w with
     | none=>some (qb8 eS r)
     | some k=>if (h k).isSome then some (qb8 eD r) else match qbk eS eL f fi fb n 1 r.tail with
      | some (.ok b r1)=>qdq eS eL eD f fi fb n (fun i=>if i=k then some b else h i) r1
      | some (.er i c)=>some (.er i c)
      | none=>none
end Go.Pm
end SYb
section SYc
namespace Go.Pm
def Fin {α : Type} (m:Nat) (x:Option (Rz α)):Prop := ∃ y,x=some y /\ ∀ a r,y = .ok a r->r.length<=m
theorem qcJ {α : Type} (m c:Nat) (ts:List Tk):Fin (α := α) m (some (qb8 c ts)):=⟨_,rfl,fun a r h=>by cases ts<;>cases h⟩
theorem qbx {α : Type} (m i c:Nat):Fin (α := α) m (some (.er i c)):=⟨_,rfl,fun a r h=>by cases h⟩
theorem qcv {α : Type} {m:Nat} (a : α) {ts:List Tk} (h:ts.length<=m):Fin m (some (.ok a ts)):=⟨_,rfl,fun a r e=>by cases e; exact h⟩
theorem qhx {ts:List Tk} {s:ByteArray} (h:nx ts=some s):ts.tail.length+1=ts.length:=by
 cases ts with
 | nil=>cases h
 | cons t r=>rfl
theorem qbR {eS:Nat} {x:ByteArray} {ts r:List Tk} {u:Unit} (h:qaO eS x ts = .ok u r):r.length+1=ts.length:=by
 cases ts with
 | nil=>cases h
 | cons t r'=>
  simp only[qaO] at h
  split at h
  ·cases h; rfl
  ·cases h
theorem qfR {eS eL:Nat} {x:ByteArray} {lv:Nat} {ts r:List Tk} {u:Unit} (h:qdF eS eL x lv ts = .ok u r):r.length+1=ts.length:=by
 unfold qdF at h
 split at h
 ·cases ts<;>cases h
 ·exact qbR h
theorem qkc (eS eL:Nat) (f:Bool) : ∀ n:Nat,
  (∀ prec lv ts,1<=prec->prec<=8->10*ts.length+(10-prec)<=n->Fin (ts.length-1) (qao eS eL f n prec lv ts)) /\
  (∀ prec lv e ts,1<=prec->prec<=7->10*ts.length+1<=n->Fin ts.length (qcx eS eL f n prec lv e ts)) /\
  (∀ lv ts,10*ts.length+1<=n->Fin (ts.length-1) (qb1 eS eL f n lv ts))
 | 0=>⟨fun p lv ts h1 h2 h=>by omega,fun p lv e ts h1 h2 h=>by omega,fun lv ts h=>by omega⟩
 | n+1=>by
  obtain⟨ihe,ihl,ihi⟩:=qkc eS eL f n
  refine⟨fun p lv ts h1 h2 h=>?_,fun p lv e ts h1 h2 h=>?_,fun lv ts h=>?_⟩
  ·simp only[qao]
   split
   ·split
    ·exact qbx _ _ _
    ·rename_i u r ho
     have hl:=qfR ho
     obtain⟨y,hy,hr⟩:=ihe p (lv+1) r h1 h2 (by omega)
     rw[hy]
     cases y with
     | er i c=>exact qbx _ _ _
     | ok e r'=>have:=hr e r' rfl; exact qcv _ (by omega)
   ·split
    ·obtain⟨y,hy,hr⟩:=ihe (p+1) lv ts (by omega) (by omega) (by omega)
     rw[hy]
     cases y with
     | er i c=>exact qbx _ _ _
     | ok e r=>
      have:=hr e r rfl
      obtain⟨z,hz,hr2⟩:=ihl p lv e r h1 (by omega) (by omega)
      exact⟨z,hz,fun a q hq=>by have:=hr2 a q hq; omega⟩
    ·cases hn:nx ts with
     | none=>exact qcJ _ _ _
     | some s=>
      have hp:=qhx hn
      simp only
      split
      ·exact qcv _ (by omega)
      split
      ·exact qcv _ (by omega)
      split
      ·exact qcv _ (by omega)
      split
      ·exact qcv _ (by omega)
      split
      ·obtain⟨y,hy,hr⟩:=ihi lv ts.tail (by omega)
       rw[hy]
       cases y with
       | er i c=>exact qbx _ _ _
       | ok e r'=>have:=hr e r' rfl; exact qcv _ (by omega)
      split
      ·exact qcv _ (by omega)
      split
      ·exact qbx _ _ _
      ·rename_i u r ho
       have hl:=qfR ho
       obtain⟨y,hy,hr⟩:=ihe 1 (lv+1) r (by omega) (by omega) (by omega)
       rw[hy]
       cases y with
       | er i c=>exact qbx _ _ _
       | ok e r'=>
        have:=hr e r' rfl
        simp only
        split
        ·rename_i u' r'' hx; have:=qbR hx; exact qcv _ (by omega)
        ·exact qbx _ _ _
  ·simp only[qcx]
   cases hn:nx ts with
   | none=>
    simp only
    split
    ·exact qcv _ (Nat.le_refl _)
    ·exact qcJ _ _ _
   | some s=>
    have hp:=qhx hn
    simp only
    split
    ·exact qcv _ (Nat.le_refl _)
    ·obtain⟨y,hy,hr⟩:=ihe (p+1) lv ts.tail (by omega) (by omega) (by omega)
     rw[hy]
     cases y with
     | er i c=>exact qbx _ _ _
     | ok e' r=>
      have:=hr e' r rfl
      simp only
      split
      ·exact qcv _ (by omega)
      ·obtain⟨z,hz,hr2⟩:=ihl p lv (.bin f _ e e') r h1 h2 (by omega)
       exact⟨z,hz,fun a q hq=>by have:=hr2 a q hq; omega⟩
  ·simp only[qb1]
   split
   ·exact qbx _ _ _
   ·rename_i u r ho
    have hl:=qfR ho
    obtain⟨y,hy,hr⟩:=ihe 1 (lv+1) r (by omega) (by omega) (by omega)
    rw[hy]
    cases y with
    | er i c=>exact qbx _ _ _
    | ok e r'=>
     have:=hr e r' rfl
     simp only
     split
     ·rename_i u' r'' hx; have:=qbR hx; exact qcv _ (by omega)
     ·exact qbx _ _ _
end Go.Pm
end SYc
section SYd
namespace Go.Pm
theorem qhb {α : Type} {eS m:Nat} {a : α} {ts:List Tk} (h:ts.length<=m+1):Fin m (some (qbI eS a ts)):=by
 unfold qbI
 split
 ·rename_i u r hx; have:=qbR hx; exact qcv _ (by omega)
 ·exact qbx _ _ _
theorem qhc (eS eL:Nat) (f fi fb:Bool) : ∀ n:Nat,
  (∀ lv ts,10*ts.length+1<=n->Fin (ts.length-1) (qc8 eS eL f fi fb n lv ts)) /\
  (∀ lv ts,10*ts.length+1<=n->Fin (ts.length-1) (qbk eS eL f fi fb n lv ts)) /\
  (∀ lv a ts,10*ts.length+2<=n->Fin (ts.length-1) (qcu eS eL f fi fb n lv a ts))
 | 0=>⟨fun lv ts h=>by omega,fun lv ts h=>by omega,fun lv a ts h=>by omega⟩
 | n+1=>by
  obtain⟨ihs,ihb,ihl⟩:=qhc eS eL f fi fb n
  obtain⟨ihe,_,ihi⟩:=qkc eS eL f n
  refine⟨fun lv ts h=>?_,fun lv ts h=>?_,fun lv a ts h=>?_⟩
  ·simp only[qc8]
   cases hn:nx ts with
   | none=>exact qcJ _ _ _
   | some s=>
    have hp:=qhx hn
    simp only
    have he:=ihe 1 lv ts.tail (by omega) (by omega) (by omega)
    obtain⟨y,hy,hr⟩:=he
    split
    ·rw[hy]
     cases y with
     | er i c=>exact qbx _ _ _
     | ok e r=>
      have h1:=hr e r rfl
      obtain⟨y1,hy1,hr1⟩:=ihb (lv+1) r (by omega)
      simp only[hy1]
      cases y1 with
      | er i c=>exact qbx _ _ _
      | ok b r1=>
       have h2:=hr1 b r1 rfl
       simp only
       cases hn1:nx r1 with
       | none=>exact qcJ _ _ _
       | some w=>
        have hp1:=qhx hn1
        simp only
        split
        ·obtain⟨y2,hy2,hr2⟩:=ihb (lv+1) r1.tail (by omega)
         rw[hy2]
         cases y2 with
         | er i c=>exact qbx _ _ _
         | ok b2 r2=>have h3:=hr2 b2 r2 rfl; exact qcv _ (by omega)
        ·exact qcv _ (by omega)
    split
    ·rw[hy]
     cases y with
     | er i c=>exact qbx _ _ _
     | ok e r=>
      have h1:=hr e r rfl
      obtain⟨y1,hy1,hr1⟩:=ihb (lv+1) r (by omega)
      simp only[hy1]
      cases y1 with
      | er i c=>exact qbx _ _ _
      | ok b r1=>have h2:=hr1 b r1 rfl; exact qcv _ (by omega)
    have second : ∀ (r:List Tk) (g:E->Ss),r.length+1<=ts.length->Fin (ts.length-1) (match qao eS eL f n 1 lv r with
      | some (.ok b r2)=>some (qbI eS (g b) r2)
      | some (.er i k)=>some (.er i k)
      | none=>none):=fun r g hr=>by
     obtain⟨y1,hy1,hr1⟩:=ihe 1 lv r (by omega) (by omega) (by omega)
     rw[hy1]
     cases y1 with
     | er i c=>exact qbx _ _ _
     | ok b r2=>have h2:=hr1 b r2 rfl; exact qhb (by omega)
    split
    ·rw[hy]
     cases y with
     | er i c=>exact qbx _ _ _
     | ok e r=>
      have h1:=hr e r rfl
      simp only
      split
      ·rename_i u r1 hx
       have:=qbR hx
       exact second r1 (fun b => .effect f e b .nil) (by omega)
      ·exact qbx _ _ _
    split
    ·exact qhb (by omega)
    split
    ·obtain⟨y1,hy1,hr1⟩:=ihi lv ts.tail (by omega)
     rw[hy1]
     cases y1 with
     | er i c=>exact qbx _ _ _
     | ok e r=>
      have h1:=hr1 e r rfl
      simp only
      split
      ·rename_i u r1 hx
       have:=qbR hx
       exact second r1 (fun b => .store f s e b .nil) (by omega)
      ·exact qbx _ _ _
    split
    ·split
     ·rename_i u r1 hx
      have:=qbR hx
      exact second r1 (fun b => .assign f s b .nil) (by omega)
     ·exact qbx _ _ _
    ·exact qcJ _ _ _
  ·simp only[qbk]
   split
   ·exact qbx _ _ _
   ·rename_i u r ho
    have hl:=qfR ho
    obtain⟨y,hy,hr⟩:=ihl lv .nil r (by omega)
    exact⟨y,hy,fun a q hq=>by have:=hr a q hq; omega⟩
  ·simp only[qcu]
   cases hn:nx ts with
   | none=>exact qcJ _ _ _
   | some s=>
    have hp:=qhx hn
    simp only
    split
    ·exact qcv _ (by omega)
    ·obtain⟨y,hy,hr⟩:=ihs lv ts (by omega)
     rw[hy]
     cases y with
     | er i c=>exact qbx _ _ _
     | ok b r=>
      have h1:=hr b r rfl
      obtain⟨z,hz,hr2⟩:=ihl lv (a.app b) r (by omega)
      exact⟨z,hz,fun a q hq=>by have:=hr2 a q hq; omega⟩
theorem qjG (eS eL eD:Nat) (f fi fb:Bool) : ∀ (n:Nat) h ts,10*ts.length+2<=n->Fin ts.length (qdq eS eL eD f fi fb n h ts)
 | 0,h,ts,hn=>by omega
 | n+1,h,ts,hn=>by
  simp only[qdq]
  cases hx:nx ts with
  | none=>exact qcJ _ _ _
  | some s=>
   have hp:=qhx hx
   simp only
   split
   ·exact qcv _ (Nat.le_refl _)
   split
   ·exact qbx _ _ _
   ·rename_i u r hr
    have h1:=qbR hr
    cases hw:nx r with
    | none=>exact qcJ _ _ _
    | some w=>
     have hp1:=qhx hw
     simp only
     split
     ·exact qcJ _ _ _
     ·rename_i k hk
      split
      ·exact qcJ _ _ _
      ·obtain⟨y,hy,hr⟩:=(qhc eS eL f fi fb n).2.1 1 r.tail (by omega)
       rw[hy]
       cases y with
       | er i c=>exact qbx _ _ _
       | ok b r1=>
        have h2:=hr b r1 rfl
        obtain⟨z,hz,hr2⟩:=qjG eS eL eD f fi fb n (fun i=>if i=k then some b else h i) r1 (by omega)
        exact⟨z,hz,fun a q hq=>by have:=hr2 a q hq; omega⟩
end Go.Pm
end SYd
section SYe
namespace Go.Pm
abbrev byl (s:ByteArray):List UInt8:=s.data.toList
theorem qc6 (l:List UInt8):byl (bs l)=l:=by simp[byl,bs]
theorem qeH (s:ByteArray):bs (byl s)=s:=by cases s; simp[bs,byl]
theorem qaw (s:ByteArray):(byl s).length=s.size:=Array.length_toList
theorem qbh (l:List UInt8):(bs l).size=l.length:=rfl
theorem qkt {a b:List UInt8} (h:bs a=bs b):a=b:=by rw[<- qc6 a,h,qc6]
theorem qsf {a b:ByteArray} (h:byl a=byl b):a=b:=by rw[<- qeH a,h,qeH]
theorem qgt (s:ByteArray) (i:Nat):s[i]?=((byl s).drop i).head?:=by
 rw[List.head?_drop]
 by_cases h:i<s.size
 ·rw[getElem?_pos s i h,List.getElem?_eq_getElem (by rw[qaw]; exact h)]
  simp[byl,ByteArray.getElem_eq_getElem_data]
 ·rw[getElem?_neg s i h,List.getElem?_eq_none (by rw[qaw]; omega)]
theorem qcl (s:ByteArray) (i k:Nat):s.extract i (i+k)=bs (((byl s).drop i).take k):=by
 apply qsf
 rw[qc6]
 simp only[byl,ByteArray.data_extract,Array.toList_extract,List.extract_eq_take_drop]
 rw[show i+k-i=k by omega]
def qaZ:Bool->List UInt8->Nat
 | _,[]=>0
 | c,b::r=>if b.toNat=10 then qaZ false r+1 else if c=true\/b.toNat=32\/b.toNat=9 then qaZ c r+1 else if b.toNat=35 then qaZ true r+1 else 0
def qbu (p:UInt8->Bool):List UInt8->Nat
 | []=>0
 | b::r=>if p b then qbu p r+1 else 0
theorem qg9 : ∀ (l:List UInt8) (c:Bool),qaZ c l<=l.length
 | [],c=>by simp[qaZ]
 | b::r,c=>by
  have h1:=qg9 r false
  have h2:=qg9 r c
  have h3:=qg9 r true
  simp only[qaZ,List.length_cons]
  split
  ·omega
  split
  ·omega
  split<;>omega
theorem qfr (p:UInt8->Bool) : ∀ l:List UInt8,qbu p l<=l.length
 | []=>by simp[qbu]
 | b::r=>by
  have h1:=qfr p r
  simp only[qbu,List.length_cons]
  split<;>omega
def tokL (eS eL eR:Nat):List UInt8->List UInt8 × Nat
 | []=>([],0)
 | c::r=>
  if qaQ c then ((c::r).take (qbu qaE (c::r)),if 8<qbu qaE (c::r)/\bs ((c::r).take (qbu qaE (c::r)))∉fieldNames/\bs ((c::r).take (qbu qaE (c::r)))∉wordNames then eL else 0)
  else if qas c then ((c::r).take (qbu qas (c::r)),if 2147483647<digV ((c::r).take (qbu qas (c::r))) then eR else 0)
  else if bs ((c::r).take 2)∈qdw then ((c::r).take 2,0)
  else if c.toNat∈qi9 then ([c],0)
  else ([c],eS)
def qqs (eS eL eR:Nat):Nat->Nat->List UInt8->List Tk
 | 0,i,_=>[⟨i,⟨#[]⟩,0⟩]
 | n+1,i,l=>
  if (tokL eS eL eR (l.drop (qaZ false l))).2≠0\/(tokL eS eL eR (l.drop (qaZ false l))).1.length=0 then [⟨i+qaZ false l,bs (tokL eS eL eR (l.drop (qaZ false l))).1,(tokL eS eL eR (l.drop (qaZ false l))).2⟩]
  else ⟨i+qaZ false l,bs (tokL eS eL eR (l.drop (qaZ false l))).1,(tokL eS eL eR (l.drop (qaZ false l))).2⟩::qqs eS eL eR n (i+qaZ false l+(tokL eS eL eR (l.drop (qaZ false l))).1.length) ((l.drop (qaZ false l)).drop (tokL eS eL eR (l.drop (qaZ false l))).1.length)
theorem qjz (s:ByteArray) : ∀ (n:Nat) (c:Bool) (i:Nat),s.size-i<=n->qhk s n c i=i+qaZ c ((byl s).drop i)
 | 0,c,i,h=>by
  have:(byl s).drop i=[]:=List.drop_eq_nil_of_le (by rw[qaw]; omega)
  rw[this]
  simp[qhk,qaZ]
 | n+1,c,i,h=>by
  rw[qhk,qgt]
  cases hd:(byl s).drop i with
  | nil=>simp[qaZ]
  | cons b r=>
   have hr:(byl s).drop (i+1)=r:=by rw[<- List.drop_drop,hd]; rfl
   have ih:=fun c=>qjz s n c (i+1) (by omega)
   simp only[List.head?_cons,qaZ,ih,hr]
   split
   ·omega
   split
   ·omega
   split<;>omega
theorem qod (p:UInt8->Bool) (s:ByteArray) : ∀ (n i:Nat),s.size-i<=n->qqy p s n i=i+qbu p ((byl s).drop i)
 | 0,i,h=>by
  have:(byl s).drop i=[]:=List.drop_eq_nil_of_le (by rw[qaw]; omega)
  rw[this]
  simp[qqy,qbu]
 | n+1,i,h=>by
  rw[qqy,qgt]
  cases hd:(byl s).drop i with
  | nil=>simp[qbu]
  | cons b r=>
   have hr:(byl s).drop (i+1)=r:=by rw[<- List.drop_drop,hd]; rfl
   have ih:=qod p s n (i+1) (by omega)
   simp only[List.head?_cons,qbu,ih,hr]
   split<;>omega
theorem qeY {w:ByteArray} (h:w∈qdw):w.size=2:=by
 simp only[qdw,List.mem_cons,List.not_mem_nil,or_false] at h
 rcases h with h | h | h | h | h | h<;>rw[h]<;>rfl
theorem qdu (eS eL eR:Nat) (s:ByteArray) (i:Nat):tokAt eS eL eR s i=⟨i,bs (tokL eS eL eR ((byl s).drop i)).1,(tokL eS eL eR ((byl s).drop i)).2⟩:=by
 unfold tokAt
 rw[qgt]
 cases hd:(byl s).drop i with
 | nil=>rfl
 | cons c r=>
  have hlen:s.size-i=r.length+1:=by
   have:=congrArg List.length hd
   rw[List.length_drop,qaw,List.length_cons] at this
   exact this
  have e1 : ∀ p,s.extract i (qqy p s (s.size-i) i)=bs ((c::r).take (qbu p (c::r))):=fun p=>by
   rw[qod p s _ i (Nat.le_refl _),qcl,hd]
  have e2:s.extract i (i+2)=bs ((c::r).take 2):=by rw[qcl,hd]
  have e3:s.extract i (i+1)=bs [c]:=by rw[qcl,hd]; rfl
  have hw : ∀ p,((c::r).take (qbu p (c::r))).length=qbu p (c::r):=fun p=>by
   rw[List.length_take,Nat.min_eq_left (qfr p _)]
  simp only[List.head?_cons,e1,e2,e3,tokL,qbh,hw,qc6,ByteArray.toList_eq]
  split
  ·rfl
  split
  ·simp[bs]
  have e4:(i+2<=s.size/\bs ((c::r).take 2)∈qdw)↔bs ((c::r).take 2)∈qdw:=by
   refine⟨fun h=>h.2,fun h=>⟨?_,h⟩⟩
   have:=qeY h
   rw[qbh,List.length_take,List.length_cons] at this
   omega
  simp only[e4]
  split
  ·rfl
  split<;>rfl
theorem ql8 (eS eL eR:Nat) (s:ByteArray) : ∀ (n i:Nat),qb2 eS eL eR s n i=qqs eS eL eR n i ((byl s).drop i)
 | 0,i=>rfl
 | n+1,i=>by
  rw[qb2,qqs]
  simp only[qjz s _ false i (Nat.le_refl _),qdu,qbh,<- List.drop_drop,ql8 eS eL eR s n,List.drop_drop]
end Go.Pm
end SYe
section SYf
namespace Go.Pm
def qdn (p:Bool) (t:ByteArray):Bool:=match (byl t).getLast? with
 | some c=>qaE c
 | none=>p
def gap (p:Bool) (t:ByteArray):List UInt8:=if p&&qax qaE t then [32] else []
def qe8:Bool->List ByteArray->List UInt8
 | _,[]=>[]
 | p,t::ts=>gap p t++(byl t++qe8 (qdn p t) ts)
theorem qby (p:UInt8->Bool) (t:ByteArray):qax p t=match (byl t).head? with | some c=>p c | none=>false:=by
 unfold qax
 rw[qgt,List.drop_zero]
 all_goals (cases (byl t).head?<;>rfl)
def Tg (w:List UInt8):Prop:=
 (∃ c r,w=c::r/\qaQ c=true/\(∀ b∈r,qaE b=true) /\ ¬ (8<w.length/\bs w∉fieldNames/\bs w∉wordNames)) \/
 (∃ c r,w=c::r/\qas c=true/\(∀ b∈r,qas b=true)/\digV w<=2147483647) \/
 bs w∈qdw \/ ∃ c,w=[c]/\c.toNat∈qi9
def Fol:List UInt8->List UInt8->Prop
 | c::r,d::_=>if qaQ c then qaE d=false else if qas c then qas d=false else r=[]->bs [c,d]∉qdw
 | _,_=>True
theorem qjl (p:UInt8->Bool) : ∀ (w r:List UInt8),(∀ b∈w,p b=true)->(∀ d,r.head?=some d->p d=false)->qbu p (w++r)=w.length
 | [],[],_,_=>rfl
 | [],d::r,_,h=>by simp[qbu,h d rfl]
 | b::w,r,h,h2=>by
  simp only[List.cons_append,qbu,h b (List.mem_cons_self ..),if_true,List.length_cons]
  rw[qjl p w r (fun x hx=>h x (List.mem_cons_of_mem _ hx)) h2]
theorem qlL {c:UInt8} (h:qaQ c=true):qaE c=true:=by simp[qaE,h]
theorem qlM {c:UInt8} (h:qas c=true):qaE c=true:=by simp[qaE,h]
theorem pair_cases {w:List UInt8} (h:bs w∈qdw):w=[124,124]\/w=[38,38]\/w=[60,61]\/w=[62,61]\/w=[61,61]\/w=[33,61]:=by
 simp only[qdw,List.mem_cons,List.not_mem_nil,or_false] at h
 rcases h with h | h | h | h | h | h<;>have:=qkt h<;>simp[this]
theorem qev {c:UInt8} (h:c.toNat∈qi9):c=123\/c=125\/c=91\/c=93\/c=40\/c=41\/c=61\/c=59\/c=44\/c=60\/c=62\/c=43\/c=45\/c=42\/c=47\/c=33:=by
 simp only[qi9,List.mem_cons,List.not_mem_nil,or_false] at h
 simp only[<- UInt8.toNat_inj]
 exact h
theorem qnD (eS eL eR:Nat) {w rest:List UInt8} (h:Tg w) (hf:Fol w rest):tokL eS eL eR (w++rest)=(w,0):=by
 have take_len : ∀ k,k=w.length->(w++rest).take k=w:=fun k hk=>by rw[hk,List.take_left]
 rcases h with ⟨c,r,rfl,hc,hr,hb⟩ | ⟨c,r,rfl,hc,hr,hb⟩ | hp | ⟨c,rfl,hc⟩
 ·have hrun:qbu qaE (c::r++rest)=(c::r).length:=by
   apply qjl
   ·intro b hb'
    rcases List.mem_cons.1 hb' with rfl | hb'
    ·exact qlL hc
    ·exact hr b hb'
   ·intro d hd
    cases rest with
    | nil=>cases hd
    | cons e rest=>
     cases hd
     simp only[Fol,hc,if_true] at hf
     exact hf
  have ht:=take_len _ rfl
  simp only[List.cons_append] at hrun ht ⊢
  simp only[tokL,hc,if_true,hrun,ht,if_neg hb]
 ·have hnl:qaQ c=false:=by
   simp only[qas,qaQ,Bool.and_eq_true,decide_eq_true_eq,Bool.and_eq_false_iff,decide_eq_false_iff_not] at hc ⊢
   omega
  have hrun:qbu qas (c::r++rest)=(c::r).length:=by
   apply qjl
   ·intro b hb'
    rcases List.mem_cons.1 hb' with rfl | hb'
    ·exact hc
    ·exact hr b hb'
   ·intro d hd
    cases rest with
    | nil=>cases hd
    | cons e rest=>
     cases hd
     simp only[Fol,hc,hnl,if_true] at hf
     exact hf
  have ht:=take_len _ hrun
  simp only[List.cons_append] at hrun ht ⊢
  simp only[tokL,hc,hnl,if_true,ht,if_neg (Nat.not_lt.2 hb)]
  simp
 ·rcases pair_cases hp with rfl | rfl | rfl | rfl | rfl | rfl<;>simp[tokL,qaQ,qas,hp]
 ·have h2:bs ((c::rest).take 2)∉qdw:=by
   cases rest with
   | nil=>intro h; have:=qeY h; rw[qbh] at this; simp at this
   | cons d rest=>
    have hl:qaQ c=false/\qas c=false:=by rcases qev hc with rfl | rfl | rfl | rfl | rfl | rfl | rfl | rfl | rfl | rfl | rfl | rfl | rfl | rfl | rfl | rfl<;>exact⟨rfl,rfl⟩
    simp only[Fol,hl.1,hl.2] at hf
    simpa using hf
  have hl:qaQ c=false/\qas c=false:=by rcases qev hc with rfl | rfl | rfl | rfl | rfl | rfl | rfl | rfl | rfl | rfl | rfl | rfl | rfl | rfl | rfl | rfl<;>exact⟨rfl,rfl⟩
  simp only[List.cons_append,List.nil_append,tokL,hl.1,hl.2,if_neg h2,if_pos hc,Bool.false_eq_true,if_false]
theorem qfi {w:List UInt8} (h:Tg w) : ∃ c r,w=c::r/\c.toNat≠10/\c.toNat≠32/\c.toNat≠9/\c.toNat≠35:=by
 rcases h with ⟨c,r,rfl,hc,hr,hb⟩ | ⟨c,r,rfl,hc,hr,hb⟩ | hp | ⟨c,rfl,hc⟩
 ·simp only[qaQ,Bool.and_eq_true,decide_eq_true_eq] at hc
  exact⟨c,r,rfl,by omega,by omega,by omega,by omega⟩
 ·simp only[qas,Bool.and_eq_true,decide_eq_true_eq] at hc
  exact⟨c,r,rfl,by omega,by omega,by omega,by omega⟩
 ·rcases pair_cases hp with rfl | rfl | rfl | rfl | rfl | rfl<;>exact⟨_,_,rfl,by decide,by decide,by decide,by decide⟩
 ·rcases qev hc with rfl | rfl | rfl | rfl | rfl | rfl | rfl | rfl | rfl | rfl | rfl | rfl | rfl | rfl | rfl | rfl<;>exact⟨_,_,rfl,by decide,by decide,by decide,by decide⟩
def Adj (t u:ByteArray):Prop:=(t≠bs [60]/\t≠bs [62]/\t≠bs [61]/\t≠bs [33])\/(byl u).head?≠some 61
def Ok2:List ByteArray->Prop
 | []=>True
 | t::r=>Tg (byl t)/\(∀ u,r.head?=some u->Adj t u)/\Ok2 r
theorem qnE {w:List UInt8} {p:Bool} (h:bs w∈qdw \/ ∃ c,w=[c]/\c.toNat∈qi9):qdn p (bs w)=false:=by
 unfold qdn
 rw[qc6]
 rcases h with hp | ⟨c,rfl,hc⟩
 ·rcases pair_cases hp with rfl | rfl | rfl | rfl | rfl | rfl<;>rfl
 ·rcases qev hc with rfl | rfl | rfl | rfl | rfl | rfl | rfl | rfl | rfl | rfl | rfl | rfl | rfl | rfl | rfl | rfl<;>rfl
theorem qmr {w:List UInt8} {p:Bool} (h : ∃ c r,w=c::r/\qaE c=true /\ ∀ b∈r,qaE b=true):qdn p (bs w)=true:=by
 obtain⟨c,r,rfl,hc,hr⟩:=h
 unfold qdn
 rw[qc6]
 cases hl:(c::r).getLast? with
 | none=>simp at hl
 | some b=>
  have:=List.mem_of_getLast? hl
  rcases List.mem_cons.1 this with rfl | h
  ·exact hc
  ·exact hr b h
theorem qpg {p:Bool} {t u:ByteArray} (ht:Tg (byl t)) (hu:Tg (byl u)) (ha:Adj t u) (r:List UInt8):Fol (byl t) (gap (qdn p t) u++(byl u++r)):=by
 obtain⟨d,w,hd,-⟩:=qfi hu
 have hs:qax qaE u=qaE d:=by rw[qby,hd]; rfl
 have hword:(∃ c r,byl t=c::r/\qaE c=true /\ ∀ b∈r,qaE b=true) -> ∀ e q,gap (qdn p t) u++(byl u++r)=e::q->qaE e=false:=fun h e q he=>by
  have h1:qdn p t=true:=by
   have:=qmr (p:=p) h
   rwa [qeH] at this
  rw[h1,gap,hs,hd] at he
  cases hwd:qaE d with
  | true=>simp[hwd] at he; rw[<- he.1]; rfl
  | false=>simp[hwd] at he; rw[<- he.1]; exact hwd
 cases he:gap (qdn p t) u++(byl u++r) with
 | nil=>cases byl t<;>trivial
 | cons e q=>
  rcases ht with ⟨c,r',hw,hc,hr,hb⟩ | ⟨c,r',hw,hc,hr,hb⟩ | hp | ⟨c,hw,hc⟩
  ·have:=hword ⟨c,r',hw,qlL hc,hr⟩ e q he
   rw[hw]
   simp only[Fol,hc,if_true]
   exact this
  ·have:=hword ⟨c,r',hw,qlM hc,fun b h=>qlM (hr b h)⟩ e q he
   rw[hw]
   have hnl:qaQ c=false:=by
    simp only[qas,qaQ,Bool.and_eq_true,decide_eq_true_eq,Bool.and_eq_false_iff,decide_eq_false_iff_not] at hc ⊢
    omega
   simp only[Fol,hc,hnl,if_true]
   simp only[qaE,Bool.or_eq_false_iff] at this
   exact this.2
  ·rcases pair_cases hp with h | h | h | h | h | h<;>rw[h]<;>simp[Fol,qaQ,qas]
  ·have h1:qdn p t=false:=by
    have:=qnE (p:=p) (.inr ⟨c,hw,hc⟩)
    rwa [qeH] at this
   rw[h1,gap,hd] at he
   simp at he
   have hed:e=d:=he.1.symm
   rw[hw]
   have hl:qaQ c=false/\qas c=false:=by rcases qev hc with rfl | rfl | rfl | rfl | rfl | rfl | rfl | rfl | rfl | rfl | rfl | rfl | rfl | rfl | rfl | rfl<;>exact⟨rfl,rfl⟩
   simp only[Fol,hl.1,hl.2]
   simp only[Bool.false_eq_true,if_false]
   intro _ hpr
   have htb:t=bs [c]:=by rw[<- qeH t,hw]
   rw[hed] at hpr
   rcases ha with ⟨a1,a2,a3,a4⟩ | ha
   ·rcases pair_cases hpr with h | h | h | h | h | h<;>simp only[List.cons.injEq,and_true] at h
    ·rw[h.1] at hc; simp[qi9] at hc
    ·rw[h.1] at hc; simp[qi9] at hc
    ·exact a1 (by rw[htb,h.1])
    ·exact a2 (by rw[htb,h.1])
    ·exact a3 (by rw[htb,h.1])
    ·exact a4 (by rw[htb,h.1])
   ·rw[hd] at ha
    simp only[List.head?_cons] at ha
    rcases pair_cases hpr with h | h | h | h | h | h<;>simp only[List.cons.injEq,and_true] at h
    ·rw[h.1] at hc; simp[qi9] at hc
    ·rw[h.1] at hc; simp[qi9] at hc
    ·exact ha (by rw[h.2])
    ·exact ha (by rw[h.2])
    ·exact ha (by rw[h.2])
    ·exact ha (by rw[h.2])
end Go.Pm
end SYf
section SYg
namespace Go.Pm
variable {eS eL eD:Nat} {f fi fb:Bool}
theorem qd0 : ∀ n:Nat,
  (∀ p lv ts x,qao eS eL f n p lv ts=some x->qao eS eL f (n+1) p lv ts=some x) /\
  (∀ p lv e ts x,qcx eS eL f n p lv e ts=some x->qcx eS eL f (n+1) p lv e ts=some x) /\
  (∀ lv ts x,qb1 eS eL f n lv ts=some x->qb1 eS eL f (n+1) lv ts=some x)
 | 0=>⟨fun p lv ts x h=>by simp[qao] at h,fun p lv e ts x h=>by simp[qcx] at h,fun lv ts x h=>by simp[qb1] at h⟩
 | n+1=>by
  obtain⟨ihe,ihl,ihi⟩:=qd0 n
  refine⟨fun p lv ts x h=>?_,fun p lv e ts x h=>?_,fun lv ts x h=>?_⟩
  ·rw[qao] at h ⊢
   split at h
   ·rename_i c1
    rw[if_pos c1]
    cases ho:qdF eS eL (ustr (p==7)) (lv+1) ts with
    | er i c=>simp only[ho] at h ⊢; exact h
    | ok u r=>
     simp only[ho] at h ⊢
     cases hq:qao eS eL f n p (lv+1) r with
     | none=>simp[hq] at h
     | some y=>rw[ihe _ _ _ _ hq]; rw[hq] at h; exact h
   ·rename_i c1
    rw[if_neg c1]
    split at h
    ·rename_i c2
     rw[if_pos c2]
     cases hq:qao eS eL f n (p+1) lv ts with
     | none=>simp[hq] at h
     | some y=>
      rw[ihe _ _ _ _ hq]; rw[hq] at h
      cases y with
      | er i c=>exact h
      | ok e r=>exact ihl _ _ _ _ _ h
    ·rename_i c2
     rw[if_neg c2]
     cases hn:nx ts with
     | none=>simp only[hn] at h ⊢; exact h
     | some s=>
      simp only[hn] at h ⊢
      split at h
      ·rename_i c; rw[if_pos c]; exact h
      rename_i c; rw[if_neg c]
      split at h
      ·rename_i c; rw[if_pos c]; exact h
      rename_i c; rw[if_neg c]
      split at h
      ·rename_i c; rw[if_pos c]; exact h
      rename_i c; rw[if_neg c]
      split at h
      ·rename_i c; rw[if_pos c]; exact h
      rename_i c; rw[if_neg c]
      split at h
      ·rename_i c; rw[if_pos c]
       cases hq:qb1 eS eL f n lv ts.tail with
       | none=>simp[hq] at h
       | some y=>rw[ihi _ _ _ hq]; rw[hq] at h; exact h
      rename_i c; rw[if_neg c]
      split at h
      ·rename_i c; rw[if_pos c]; exact h
      rename_i c; rw[if_neg c]
      cases ho:qdF eS eL (bs [40]) (lv+1) ts with
      | er i c=>simp only[ho] at h ⊢; exact h
      | ok u r=>
       simp only[ho] at h ⊢
       cases hq:qao eS eL f n 1 (lv+1) r with
       | none=>simp[hq] at h
       | some y=>rw[ihe _ _ _ _ hq]; rw[hq] at h; exact h
  ·rw[qcx] at h ⊢
   cases hn:nx ts with
   | none=>simp only[hn] at h ⊢; exact h
   | some s=>
    simp only[hn] at h ⊢
    cases ho:qkL p s with
    | none=>simp only[ho] at h ⊢; exact h
    | some o=>
     simp only[ho] at h ⊢
     cases hq:qao eS eL f n (p+1) lv ts.tail with
     | none=>simp[hq] at h
     | some y=>
      rw[ihe _ _ _ _ hq]; rw[hq] at h
      cases y with
      | er i c=>exact h
      | ok e' r=>
       simp only at h ⊢
       split at h
       ·rename_i c; rw[if_pos c]; exact h
       ·rename_i c; rw[if_neg c]; exact ihl _ _ _ _ _ h
  ·rw[qb1] at h ⊢
   cases ho:qdF eS eL (bs [91]) (lv+1) ts with
   | er i c=>simp only[ho] at h ⊢; exact h
   | ok u r=>
    simp only[ho] at h ⊢
    cases hq:qao eS eL f n 1 (lv+1) r with
    | none=>simp[hq] at h
    | some y=>rw[ihe _ _ _ _ hq]; rw[hq] at h; exact h
theorem qa2 {n m p lv:Nat} {ts:List Tk} {x:Rz E} (h:qao eS eL f n p lv ts=some x) (hm:n<=m):qao eS eL f m p lv ts=some x:=by
 induction hm with
 | refl=>exact h
 | step _ ih=>exact (qd0 _).1 _ _ _ _ ih
theorem qiA {n m p lv:Nat} {e:E} {ts:List Tk} {x:Rz E} (h:qcx eS eL f n p lv e ts=some x) (hm:n<=m):qcx eS eL f m p lv e ts=some x:=by
 induction hm with
 | refl=>exact h
 | step _ ih=>exact (qd0 _).2.1 _ _ _ _ _ ih
theorem qhz {n m lv:Nat} {ts:List Tk} {x:Rz E} (h:qb1 eS eL f n lv ts=some x) (hm:n<=m):qb1 eS eL f m lv ts=some x:=by
 induction hm with
 | refl=>exact h
 | step _ ih=>exact (qd0 _).2.2 _ _ _ ih
theorem qd1 : ∀ n:Nat,
  (∀ lv ts x,qc8 eS eL f fi fb n lv ts=some x->qc8 eS eL f fi fb (n+1) lv ts=some x) /\
  (∀ lv ts x,qbk eS eL f fi fb n lv ts=some x->qbk eS eL f fi fb (n+1) lv ts=some x) /\
  (∀ lv a ts x,qcu eS eL f fi fb n lv a ts=some x->qcu eS eL f fi fb (n+1) lv a ts=some x)
 | 0=>⟨fun lv ts x h=>by simp[qc8] at h,fun lv ts x h=>by simp[qbk] at h,fun lv a ts x h=>by simp[qcu] at h⟩
 | n+1=>by
  obtain⟨ihs,ihb,ihl⟩:=qd1 n
  refine⟨fun lv ts x h=>?_,fun lv ts x h=>?_,fun lv a ts x h=>?_⟩
  ·have second : ∀ (r:List Tk) (g:E->Ss) y,(match qao eS eL f n 1 lv r with
      | some (.ok b r2)=>some (qbI eS (g b) r2)
      | some (.er i k)=>some (.er i k)
      | none=>none)=some y->(match qao eS eL f (n+1) 1 lv r with
      | some (.ok b r2)=>some (qbI eS (g b) r2)
      | some (.er i k)=>some (.er i k)
      | none=>none)=some y:=fun r g y hy=>by
     cases hq:qao eS eL f n 1 lv r with
     | none=>simp[hq] at hy
     | some z=>rw[qa2 hq (Nat.le_succ n)]; rw[hq] at hy; exact hy
   rw[qc8] at h ⊢
   cases hn:nx ts with
   | none=>simp only[hn] at h ⊢; exact h
   | some s=>
    simp only[hn] at h ⊢
    split at h
    ·rename_i c; rw[if_pos c]
     cases hq:qao eS eL f n 1 lv ts.tail with
     | none=>simp[hq] at h
     | some y=>
      rw[qa2 hq (Nat.le_succ n)]; rw[hq] at h
      cases y with
      | er i c=>exact h
      | ok e r=>
       simp only at h ⊢
       cases hb:qbk eS eL f fi fb n (lv+1) r with
       | none=>simp[hb] at h
       | some z=>
        rw[ihb _ _ _ hb]; rw[hb] at h
        cases z with
        | er i c=>exact h
        | ok b r1=>
         simp only at h ⊢
         cases hn1:nx r1 with
         | none=>simp only[hn1] at h ⊢; exact h
         | some w=>
          simp only[hn1] at h ⊢
          split at h
          ·rename_i c'; rw[if_pos c']
           cases hb2:qbk eS eL f fi fb n (lv+1) r1.tail with
           | none=>simp[hb2] at h
           | some z2=>rw[ihb _ _ _ hb2]; rw[hb2] at h; exact h
          ·rename_i c'; rw[if_neg c']; exact h
    rename_i c; rw[if_neg c]
    split at h
    ·rename_i c; rw[if_pos c]
     cases hq:qao eS eL f n 1 lv ts.tail with
     | none=>simp[hq] at h
     | some y=>
      rw[qa2 hq (Nat.le_succ n)]; rw[hq] at h
      cases y with
      | er i c=>exact h
      | ok e r=>
       simp only at h ⊢
       cases hb:qbk eS eL f fi fb n (lv+1) r with
       | none=>simp[hb] at h
       | some z=>rw[ihb _ _ _ hb]; rw[hb] at h; exact h
    rename_i c; rw[if_neg c]
    split at h
    ·rename_i c; rw[if_pos c]
     cases hq:qao eS eL f n 1 lv ts.tail with
     | none=>simp[hq] at h
     | some y=>
      rw[qa2 hq (Nat.le_succ n)]; rw[hq] at h
      cases y with
      | er i c=>exact h
      | ok e r=>
       simp only at h ⊢
       cases hx:qaO eS (bs [44]) r with
       | er i c=>simp only[hx] at h ⊢; exact h
       | ok u r1=>simp only[hx] at h ⊢; exact second r1 (fun b => .effect f e b .nil) x h
    rename_i c; rw[if_neg c]
    split at h
    ·rename_i c; rw[if_pos c]; exact h
    rename_i c; rw[if_neg c]
    split at h
    ·rename_i c; rw[if_pos c]
     cases hq:qb1 eS eL f n lv ts.tail with
     | none=>simp[hq] at h
     | some y=>
      rw[qhz hq (Nat.le_succ n)]; rw[hq] at h
      cases y with
      | er i c=>exact h
      | ok e r=>
       simp only at h ⊢
       cases hx:qaO eS (bs [61]) r with
       | er i c=>simp only[hx] at h ⊢; exact h
       | ok u r1=>simp only[hx] at h ⊢; exact second r1 (fun b => .store f s e b .nil) x h
    rename_i c; rw[if_neg c]
    split at h
    ·rename_i c; rw[if_pos c]
     cases hx:qaO eS (bs [61]) ts.tail with
     | er i c=>simp only[hx] at h ⊢; exact h
     | ok u r1=>simp only[hx] at h ⊢; exact second r1 (fun b => .assign f s b .nil) x h
    ·rename_i c; rw[if_neg c]; exact h
  ·rw[qbk] at h ⊢
   cases ho:qdF eS eL (bs [123]) lv ts with
   | er i c=>simp only[ho] at h ⊢; exact h
   | ok u r=>simp only[ho] at h ⊢; exact ihl _ _ _ _ h
  ·rw[qcu] at h ⊢
   cases hn:nx ts with
   | none=>simp only[hn] at h ⊢; exact h
   | some s=>
    simp only[hn] at h ⊢
    split at h
    ·rename_i c; rw[if_pos c]; exact h
    ·rename_i c; rw[if_neg c]
     cases hq:qc8 eS eL f fi fb n lv ts with
     | none=>simp[hq] at h
     | some y=>
      rw[ihs _ _ _ hq]; rw[hq] at h
      cases y with
      | er i c=>exact h
      | ok b r=>exact ihl _ _ _ _ h
theorem qiB {n m lv:Nat} {ts:List Tk} {x:Rz Ss} (h:qc8 eS eL f fi fb n lv ts=some x) (hm:n<=m):qc8 eS eL f fi fb m lv ts=some x:=by
 induction hm with
 | refl=>exact h
 | step _ ih=>exact (qd1 _).1 _ _ _ ih
theorem qcB {n m lv:Nat} {ts:List Tk} {x:Rz Ss} (h:qbk eS eL f fi fb n lv ts=some x) (hm:n<=m):qbk eS eL f fi fb m lv ts=some x:=by
 induction hm with
 | refl=>exact h
 | step _ ih=>exact (qd1 _).2.1 _ _ _ ih
theorem qk1 {n m lv:Nat} {a:Ss} {ts:List Tk} {x:Rz Ss} (h:qcu eS eL f fi fb n lv a ts=some x) (hm:n<=m):qcu eS eL f fi fb m lv a ts=some x:=by
 induction hm with
 | refl=>exact h
 | step _ ih=>exact (qd1 _).2.2 _ _ _ _ ih
theorem qhA : ∀ (n:Nat) h ts x,qdq eS eL eD f fi fb n h ts=some x->qdq eS eL eD f fi fb (n+1) h ts=some x
 | 0,h,ts,x,e=>by simp[qdq] at e
 | n+1,h,ts,x,e=>by
  rw[qdq] at e ⊢
  cases hn:nx ts with
  | none=>simp only[hn] at e ⊢; exact e
  | some s=>
   simp only[hn] at e ⊢
   split at e
   ·rename_i c; rw[if_pos c]; exact e
   rename_i c; rw[if_neg c]
   cases hx:qaO eS (bs [111,110]) ts with
   | er i c=>simp only[hx] at e ⊢; exact e
   | ok u r=>
    simp only[hx] at e ⊢
    cases hn2:nx r with
    | none=>simp only[hn2] at e ⊢; exact e
    | some w=>
     simp only[hn2] at e ⊢
     cases hh:qbK w with
     | none=>simp only[hh] at e ⊢; exact e
     | some k=>
      simp only[hh] at e ⊢
      split at e
      ·rename_i c; rw[if_pos c]; exact e
      rename_i c; rw[if_neg c]
      cases hb:qbk eS eL f fi fb n 1 r.tail with
      | none=>simp[hb] at e
      | some y=>
       rw[qcB hb (Nat.le_succ n)]; rw[hb] at e
       cases y with
       | er i c=>exact e
       | ok b r1=>exact qhA n _ _ _ e
theorem qgi {n m:Nat} {h:Nat->Option Ss} {ts:List Tk} {x:Rz (Nat->Option Ss)} (e:qdq eS eL eD f fi fb n h ts=some x) (hm:n<=m):qdq eS eL eD f fi fb m h ts=some x:=by
 induction hm with
 | refl=>exact e
 | step _ ih=>exact qhA _ _ _ _ ih
end Go.Pm
end SYg
