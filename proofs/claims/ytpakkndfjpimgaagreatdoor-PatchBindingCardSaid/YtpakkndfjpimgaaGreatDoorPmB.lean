/- From the given code to the abstract machine's. What abstract values mean in a world; how worlds go on. How the meaning goes on when a store, an allocation, a growth happens. -/
import Derived.Test.YtpakkndfjpimgaaGreatDoorPmA
import Derived.Orders
import Derived.Laws.World
import Derived.CallsIn
import Derived.OrdersIn
set_option linter.unusedSimpArgs false
set_option linter.unusedVariables false
section SB
namespace Go.Pm
def isZ:Operand->Bool
 | .const (.int _ 0)=>true
 | _=>false
structure Ids where
 fn:FuncId->Option Nat
 ty:TypeId->Option Nat
 gl:Nat->Option (List D)
 own:Bool:=false
 df:Bool:=false
instance:CoeFun Ids (fun _=>FuncId->Option Nat):=⟨Ids.fn⟩
section
variable (P:Program) (ids:Ids) (N:Nat)
def qam (t:TypeId):Option Bool:=
 match P.underlying t with
 | some (.struct _)=>some true
 | some (.array _ _)=>some true
 | some _=>some false
 | none=>none
def qak (t:TypeId):Option Nat:=(P.info? t).map (·.size)
def qcB (t:TypeId):Option Nat:=(P.info? t).map (·.bytes)
def qaJ:Value->Bool
 | .agg _=>false
 | _=>true
def qag (v:Value):List D:=v.cells.toList.map .lit
def qcg (v:Value):Bool:=v.cells.toList.all fun x=>qaJ x&&x.oneCell'
def toD:Value->D
 | .agg cs => .agg (cs.toList.map .lit)
 | v => .lit v
def qbu (t:TypeId):Option Value:=match (P.info? t).bind (·.zero) with
 | some z=>if qcg z then some z else none
 | none=>none
def kdT (t:TypeId):Option KD:=
 match P.underlying t with
 | some .bool=>some .b
 | some (.int _)=>some .i
 | some .string=>some .s
 | _=>none
def qbl (rec:TypeId->Option (List KD)):Nat->List Field->Option (List KD)
 | _,[]=>some []
 | off,f::r=>if f.offset=off/\f.name ≠ "_" then (match rec f.type with
  | some ks=>match qbl rec (off+ks.length) r with
   | some rs=>some (ks++rs)
   | none=>none
  | none=>none) else none
def qit (t:TypeId):Option (List KD)->Option (List KD)
 | some ks=>if qak P t=some ks.length then some ks else none
 | none=>none
def qck:Nat->TypeId->Option (List KD)
 | 0,_=>none
 | d+1,t=>qit P t (match P.underlying t with
  | some .bool=>some [.b]
  | some (.int _)=>some [.i]
  | some .string=>some [.s]
  | some (.struct fs)=>if P.stoodInHeld t then none else qbl (qck d) 0 fs.toList
  | some (.array len e)=>(qck d e).map (qbC len)
  | _=>none)
def cX:Operand->Option X
 | .tmp t=>if t<N then some (.t t) else none
 | .const v=>if qaJ v then some (.c v) else none
 | .global g=>(ids.gl g).map .g
 | .func f=>(ids f).map .f
def cXs:List Operand->Option (List X)
 | []=>some []
 | x::r=>match cX ids N x,cXs r with
  | some y,some ys=>some (y::ys)
  | _,_=>none
def cOX:Option Operand->Option (Option X)
 | none=>some none
 | some x=>(cX ids N x).map some
def qdF:List Field->Option (List (Nat × Nat))
 | []=>some []
 | f::r=>match qak P f.type,qdF r with
  | some n,some ps=>some ((f.offset,n)::ps)
  | _,_=>none
def qev (place:Nat->Option (Nat × Nat)):List (Nat × Operand)->Option (List (Nat × Nat × X))
 | []=>some []
 | (i,x)::r=>match place i,cX ids N x,qev place r with
  | some (o,n),some y,some ys=>some ((o,n,y)::ys)
  | _,_,_=>none
def methT (t:TypeId) (name:String):Option FuncId:=
 match P.info? t,P.underlying t with
 | some i,some (.pointer _)=>match i.methods.find? (·.name==name) with
  | some m=>if m.path.isEmpty then (match m.func with | some (f,true)=>some f | _=>none) else none
  | none=>none
 | _,_=>none
def qfA (name:String):List Nat->List (Nat × Nat)
 | []=>[]
 | t::r=>match methT P t name with
  | some f=>match ids f with
   | some g=>match ids.ty t with
    | some u=>(u,g)::qfA name r
    | none=>qfA name r
   | none=>qfA name r
  | none=>qfA name r
def qdG (f:FuncId):Option Bool:=match P.funcs[f]? with
 | some fn=>if fn.body.isNone/\fn.origin = "" then (if fn.name = "internal/abi.NoEscape" then some false else if fn.name = "internal/bytealg.IndexByteString" then some true else none) else none
 | none=>none
def qf5 (u:TypeId):List TypeId->List (Nat × Nat)
 | []=>[]
 | t::r=>match ids.ty t with
  | some n=>if liesAt P P.depth t (P.cellsOf t / P.cellsOf t) 0 u 1=true then (n,P.cellsOf t)::qf5 u r else qf5 u r
  | none=>qf5 u r
def qhp (c:Call):Option O:=
 match c.callee with
 | .value (.func f)=>match ids f,cXs ids N c.args.toList with
  | some g,some xs=>some (.call g xs)
  | none,some xs=>match qdG P f,xs with
   | some false,[x]=>some (.mov x)
   | some true,[x,y]=>some (.idxb x y)
   | _,_=>none
  | _,_=>none
 | .value x=>match cX ids N x,cXs ids N c.args.toList with
  | some g,some xs=>some (.callv g xs)
  | _,_=>none
 | .invoke recv name=>match cX ids N recv,cXs ids N c.args.toList with
  | some x,some xs=>some (.invoke (qfA P ids name (List.range P.types.size)) x xs)
  | _,_=>none
 | .builtin b=>match b,c.args.toList,c.argTypes.toList with
  | .len,[x],[t]=>match P.underlying t,cX ids N x with
   | some .string,some y=>some (.len .str y)
   | some (.slice _),some y=>some (.len .sl y)
   | some (.map _ _),some y=>some (.len .mp y)
   | _,_=>none
  | .min,xs,_=>(cXs ids N xs).map .min
  | .max,xs,_=>(cXs ids N xs).map .max
  | .append,[s,x],[ts,tx]=>match P.underlying ts,P.underlying tx,cX ids N s,cX ids N x with
   | some (.slice e),some (.slice _),some s',some x'=>match qak P e,qcB P e,qbu P e with
    | some n,some b,some z=>if z.cells.size=n then some (if ids.own then (match ids.ty e with | some t => .appendT t n b s' x' | none => .appendO n b s' x') else .append n b s' x') else none
    | _,_,_=>none
   | some (.slice e),some .string,some s',some x'=>match qak P e,qcB P e,qbu P e with
    | some n,some b,some z=>if z.cells.size=n then some (if ids.own then (match ids.ty e with | some t => .appendT t n b s' x' | none => .appendO n b s' x') else .append n b s' x') else none
    | _,_,_=>none
   | _,_,_,_=>none
  | .unsafeSliceData,[x],_=>(cX ids N x).map .usd
  | .unsafeString,[x,n],[t,_]=>match P.underlying t,cX ids N x,cX ids N n with
   | some (.pointer e),some a,some b=>match ids.ty e,P.underlying e with
    | some u,some (.int .u8)=>if qak P e=some 1/\P.cellsOf e=1/\1<=P.depth then some (.ustr [u] a b) else none
    | _,_=>none
   | _,_,_=>none
  | _,_,_=>none
def cOp:Op->Option O
 | .move x=>(cX ids N x).map .mov
 | .assign x=>(cX ids N x).map .mov
 | .pick c a b=>match cX ids N c,cX ids N a,cX ids N b with
  | some c',some a',some b'=>some (.pick c' a' b')
  | _,_,_=>none
 | .alloc t=>(qbu P t).map fun z => .alloc (qag z)
 | .box t x=>match ids.own,ids.ty t with
  | true,some u=>(cX ids N x).map (.boxT u)
  | _,_=>(cX ids N x).map .box
 | .build t parts=>match P.underlying t,qbu P t with
  | some (.struct fields),some z=>match qdF P fields.toList with
   | some ps=>(qev ids N (fun i=>ps[i]?) parts.toList).map (.build (qag z))
   | none=>none
  | some (.array _ e),some z=>match qak P e with
   | some n=>(qev ids N (fun i=>some (i*n,n)) parts.toList).map (.build (qag z))
   | none=>none
  | _,_=>none
 | .buildSlice t len parts=>match P.underlying t with
  | some (.slice e)=>match qak P e,qbu P e with
   | some n,some z=>if len*n<=2 ^ 24/\z.cells.size=n/\0<n then (qev ids N (fun i=>some (i*n,n)) parts.toList).map (fun ps=>if ids.own&&len==1 then .bsliceO len n (qbC len (qag z)) ps else .bslice len (qbC len (qag z)) ps) else none
   | _,_=>none
  | _=>none
 | .load t a=>match qam P t,qak P t,cX ids N a with
  | some true,some n,some x=>some (.load true n x)
  | some false,_,some x=>some (.load false 1 x)
  | _,_,_=>none
 | .store t a v=>match qak P t,cX ids N a,cX ids N v with
  | some n,some x,some y=>some (.store n x y)
  | _,_,_=>none
 | .nilCheck x=>(cX ids N x).map .nilchk
 | .binOp op t x y _=>match op,P.underlying t,y with
  | .eql,some (.interface _),.const .nilIface=>(cX ids N x).map (.isnil false false)
  | .neq,some (.interface _),.const .nilIface=>(cX ids N x).map (.isnil false true)
  | .eql,some (.pointer _),.const (.pointer none)=>(cX ids N x).map (.isnil true false)
  | .neq,some (.pointer _),.const (.pointer none)=>(cX ids N x).map (.isnil true true)
  | .eql,some (.slice _),.const (.slice none 0 0)=>(cX ids N x).map (.isnils false)
  | .neq,some (.slice _),.const (.slice none 0 0)=>(cX ids N x).map (.isnils true)
  | _,_,_=>match cX ids N x,cX ids N y with
   | some a,some b=>match op,P.underlying t with
    | .eql,some .bool=>some (.eqb false a b)
    | .neq,some .bool=>some (.eqb true a b)
    | .eql,some (.struct _)=>(qck P 20 t).map fun ks => .eqa false ks a b
    | .neq,some (.struct _)=>(qck P 20 t).map fun ks => .eqa true ks a b
    | .eql,some (.array _ _)=>(qck P 20 t).map fun ks => .eqa false ks a b
    | .neq,some (.array _ _)=>(qck P 20 t).map fun ks => .eqa true ks a b
    | .eql,some (.pointer e)=>if qak P e=none\/qak P e=some 0 then none else some (.peq false a b)
    | .neq,some (.pointer e)=>if qak P e=none\/qak P e=some 0 then none else some (.peq true a b)
    | _,_=>some (.bin op a b)
   | _,_=>none
 | .unOp op _ x=>(cX ids N x).map (.un op)
 | .convert src dst x=>match P.underlying src,P.underlying dst,cX ids N x with
  | some _,some (.int k),some y=>some (.conv (.int k) y)
  | some (.int _),some .string,some y=>some (.conv .intStr y)
  | some .string,some .string,some y=>some (.conv .strStr y)
  | some .string,some (.slice e),some y=>match P.underlying e,qcB P e with
   | some (.int .u8),some 1=>some (.bytes y)
   | _,_=>none
  | some (.slice e),some .string,some y=>match P.underlying e with
   | some (.int .u8)=>some (.bstr y)
   | _=>none
  | some (.pointer e),some .unsafePointer,some y=>if qak P e=none\/qak P e=some 0 then none else some (.up y)
  | some .unsafePointer,some (.pointer e),some y=>if qak P e=none\/qak P e=some 0 then none else some (.down (qf5 P ids e (List.range P.types.size)) y)
  | _,_,_=>none
 | .fieldAddr s x f=>match P.underlying s,cX ids N x with
  | some (.struct fields),some y=>match fields[f]? with
   | some fd=>if qak P fd.type=some 0 then none else (qak P fd.type).map fun _ => .fieldAddr fd.offset y
   | none=>none
  | _,_=>none
 | .field t x f=>match P.underlying t,cX ids N x with
  | some (.struct fields),some y=>match fields[f]? with
   | some fd=>match qam P fd.type,qak P fd.type with
    | some true,some n=>some (.field true fd.offset n y)
    | some false,_=>some (.field false fd.offset 1 y)
    | _,_=>none
   | none=>none
  | _,_=>none
 | .indexAddr t x i=>match P.underlying t,cX ids N x,cX ids N i with
  | some (.slice e),some y,some j=>(qak P e).map fun n => .indexAddr n y j
  | some (.array len e),some y,some j=>(qak P e).map fun n => .indexAddrA len n y j
  | _,_,_=>none
 | .index t x i=>match P.underlying t,cX ids N x,cX ids N i with
  | some (.array len e),some y,some j=>match qam P e,qak P e with
   | some true,some n=>some (.indexA true len n y j)
   | some false,some n=>if n=1 then some (.indexA false len 1 y j) else none
   | _,_=>none
  | some .string,some y,some j=>some (.indexS y j)
  | _,_,_=>none
 | .slice t x lo hi mx=>match mx,P.underlying t,cX ids N x,cOX ids N lo,cOX ids N hi with
  | none,some (.slice e),some y,some l,some h=>(qak P e).map fun n=>if ids.own then .cut n y l h else .slice n y l h
  | none,some .string,some y,some l,some h=>some (.sliceS y l h)
  | none,some (.array len e),some y,some l,some h=>(qak P e).map fun n => .sliceA len n y l h
  | _,_,_,_,_=>none
 | .makeInterface t x=>match P.underlying t with
  | some (.interface _)=>none
  | some _=>match ids.ty t with
   | some u=>(cX ids N x).map (.mkif u)
   | none=>none
  | none=>none
 | .makeSlice t x y=>match P.underlying t,cX ids N x,cX ids N y with
  | some (.slice e),some x',some y'=>match qak P e,qbu P e,qcB P e with
   | some n,some z,some b=>if z.cells.size=n/\0<n then some (.mkslice (ids.own&&isZ x) (qag z) b x' y') else none
   | _,_,_=>none
  | _,_,_=>none
 | .makeMap t r=>match r,P.underlying t with
  | none,some _=>some .mkmap
  | _,_=>none
 | .mapUpdate t m k x=>match P.underlying t,cX ids N m,cX ids N k,cX ids N x with
  | some (.map kt _),some a,some b,some c=>(kdT P kt).map fun kd => .mapset kd a b c
  | _,_,_,_=>none
 | .insert t m k x=>match P.underlying t,cX ids N m,cX ids N k,cX ids N x with
  | some (.map kt _),some a,some b,some c=>(kdT P kt).map fun kd => .mapset kd a b c
  | _,_,_,_=>none
 | .lookup t m k ok=>match P.underlying t,cX ids N m,cX ids N k with
  | some (.map kt e),some a,some b=>match kdT P kt,qbu P e with
   | some kd,some z=>some (.lookup kd (toD z) a b ok)
   | _,_=>none
  | _,_,_=>none
 | .makeFunc (.func f) a b=>match ids f,cXs ids N a.toList,cXs ids N b.toList with
  | some g,some as,some bs=>some (.mkfn g as bs)
  | _,_,_=>none
 | .makeFunc (.method name) a b=>match a.toList,b.toList with
  | [x],[]=>(cX ids N x).map (.mkmeth (qfA P ids name (List.range P.types.size)))
  | _,_=>none
 | .extract x i=>(cX ids N x).map fun y => .extract y i
 | .call c=>qhp P ids N c
 | .panic x=>(cX ids N x).map .panic
 | _=>none
def qlI (draw:Bool) (o:Oper):Option O:=
 match draw,o.op,o.dst,o.guard with
 | true,.alloc _,some d,none=>some (.fill (N+d))
 | true,.alloc _,_,_=>none
 | _,op,_,_=>cOp P ids N op
def qaK:List Oper->Option (List (Nat × List D))
 | []=>some []
 | o::r=>match o.op,o.dst with
  | .alloc t,some d=>match qbu P t,qaK r with
   | some z,some rs=>some ((N+d,qag z)::rs)
   | _,_=>none
  | _,_=>qaK r
def qlq (N:Nat):Option Nat->Bool
 | some d=>decide (d<N)
 | none=>true
def qf6 (o:Oper):Option I:=
 match o.op,o.dst,o.guard with
 | .defer c,none,none=>match c.callee with
  | .value x=>match cX ids N x,cXs ids N c.args.toList with
   | some f,some xs=>if ids.df then some ⟨some dkey,.defer f xs,none,[]⟩ else none
   | _,_=>none
  | _=>none
 | _,_,_=>none
def cI (draw:Bool) (ops:Array Oper) (un:Nat->List Nat) (j:Nat) (o:Oper):Option I:=
 match qlI P ids N draw o with
 | some op=>
  if qlq N o.dst then
   match o.guard with
   | none=>some ⟨o.dst,op,none,if op.reads then un j else []⟩
   | some (i,want)=>match (ops[i]?).bind (·.dst) with
    | some d=>if d<N then some ⟨o.dst,op,some (d,want),if op.reads then un j else []⟩ else none
    | none=>none
  else none
 | none=>none
def cIs (draw:Bool) (ops:Array Oper) (un:Nat->List Nat):Nat->List Oper->Option (List I)
 | _,[]=>some []
 | j,o::r=>match (match draw,qf6 ids N o with | false,some i=>some i | _,_=>cI P ids N draw ops un j o),cIs draw ops un (j+1) r with
  | some i,some is=>some (i::is)
  | _,_=>none
def qmH (acc:List (List Nat)) (o:Oper):List Nat:=
 o.after.toList.foldl (fun s e=>if Region.binds .any e then e.on::((acc.getD e.on [])++s) else s) []
def qmQ:List Oper->List (List Nat)->List (List Nat)
 | [],acc=>acc
 | o::r,acc=>qmQ r (acc++[(qmH acc o).eraseDups])
def anc (as:List (List Nat)) (i j:Nat):Bool:=(as.getD j []).contains i
def qkd:Op->Bool
 | .box .. | .store .. | .makeMap .. | .mapUpdate .. | .insert .. => true
 | .call { callee := .builtin .append,.. }=>true
 | .call { callee := .builtin _,.. }=>false
 | .call _=>true
 | _=>false
def qlr (ops:Array Oper):List Nat:=(List.range ops.size).filter fun i=>match ops[i]? with | some o=>qkd o.op | none=>false
def qnh (ops:Array Oper) (cs:List Nat) (as:List (List Nat)) (j:Nat):List Nat:=
 cs.filter fun i => !anc as j i&&(!anc as i j||(match ops[j]? with | some { op := .alloc _,.. }=>true | _=>false))
def qe1 (ops:Array Oper) (is:List I) (as:List (List Nat)):Bool:=
 (List.range ops.size).all fun j=>match ops[j]?,is[j]? with
  | some o,some i=>
   (as.getD j []).all (fun k=>decide (k<j)) &&
   ((o.after.toList.all fun e => !Region.binds .any e||((as.getD j []).contains e.on&&(as.getD e.on []).all fun k=>(as.getD j []).contains k)) &&
   (((as.getD j []).all fun k=>o.after.toList.any fun e=>Region.binds .any e&&(e.on==k||(as.getD e.on []).contains k)) &&
   (List.range ops.size).all fun k=>k==j||(match is[k]? with
    | none=>false
    | some i'=>
     (match i'.dst with | none=>true | some d=>((!i.looks.contains d)||(anc as k j||anc as j k))&&i.dst != some d) &&
     ((!(i.op.chain&&i'.op.chain)||(anc as k j||anc as j k)) &&
     ((!(i.op.reads&&i'.op.chain)||(anc as k j||(anc as j k||i.un.contains k))) &&
     (!(i.op.isFill&&i'.op.chain)||(anc as j k||i.un.contains k)))))))
  | _,_=>false
def qjv:Op->Bool
 | .call { callee := .builtin _,.. }=>false
 | .call _=>true
 | _=>false
def qgz (ops:Array Oper) (as:List (List Nat)):List Nat:=(List.range ops.size).filter fun p=>(match ops[p]? with | some o=>qjv o.op | none=>false)&&(List.range ops.size).all fun i=>decide (i<=p)||(as.getD i []).contains p
variable (K:Nat->List Nat)
def qhq (id:Nat):List Nat:=if ids.df then dkey::K id else K id
def comp:Code->Option PC
 | .skip=>some .skip
 | .region id ops false=>(cIs P ids N false ops (fun _=>[]) 0 ops.toList).map fun is => .region none is (qhq ids K id)
 | .region id ops true=>
  let as:=qmQ ops.toList []
  let cs:=qlr ops
  match qaK P N ops.toList,cIs P ids N true ops (qnh ops cs as) 0 ops.toList with
  | some rs,some is=>if qe1 ops is as then some (.region (some rs) is (qhq ids K id) (qgz ops as)) else none
  | _,_=>none
 | .seq a b=>match comp a,comp b with
  | some x,some y=>some (.seq x y)
  | _,_=>none
 | .cond c a b=>match cX ids N c,comp a,comp b with
  | some z,some x,some y=>some (.cond z x y)
  | _,_,_=>none
 | .block id b=>(comp b).map (.block id)
 | .loop b=>(comp b).map .loop
 | .exit id=>some (.exit id)
 | .ret=>some .ret
 | .rangeFunc f ps a b=>match cX ids N f,comp a,comp b with
  | some x,some p,some q=>if (ps.toList.all fun t=>decide (t<N))=true then some (.range x ps.toList p q) else none
  | _,_,_=>none
 | .refuse _=>some (.cond (.c .nilIface) .skip .skip)
 | _=>none
def qfB (rs:List ResultVar):Option (List PR):=
 match rs with
 | []=>some []
 | .tmp t::r=>if t<N then (qfB r).map (.tmp t :: ·) else none
 | .cell a t::r=>if a<N then (match qam P t,qak P t,qfB r with
  | some true,some n,some ps=>some (.cell a true n::ps)
  | some false,_,some ps=>some (.cell a false 1::ps)
  | _,_,_=>none) else none
def qiu:List I->Bool
 | [⟨_,.isnil false _ _,none,_⟩]=>true
 | _=>false
def qhr (own df:Bool) (catches:Bool) (N:Nat) (c:Code):Option PC:=
 match catches,c with
 | true,.seq (.region id ops false) rest=>match ops.toList with
  | o::os=>match o.op,o.dst,o.guard,cIs P { ids with own:=own,df:=df } N false ops (fun _=>[]) 1 os,comp P { ids with own:=own,df:=df } N K rest with
   | .call { callee := .builtin .recover,.. },some d,none,some is,some r=>
    if d<N/\qiu is=true then some (.seq (.region none (⟨some d,.recov,none,[]⟩::is) (K id)) r) else none
   | _,_,_,_,_=>none
  | []=>none
 | true,_=>none
 | false,c=>comp P { ids with own:=own,df:=df } N K c
def compF (noseal own df catches:Bool) (fn:Func):Option PFun:=
 match fn.body with
 | some c=>match qhr P ids K own df catches fn.ntmps c,qfB P fn.ntmps fn.results.toList with
  | some body,some rs=>if fn.params.size+fn.nfree<=fn.ntmps/\2*fn.ntmps<=dkey/\fn.name ≠ "runtime.NumGoroutine" /\ (catches=true->df=false) then some ⟨fn.params.size+fn.nfree,rs,body,noseal,df,catches⟩ else none
  | _,_=>none
 | none=>none
end
end Go.Pm
end SB
section SC
namespace Go.Pm
def Row (F:Nat->Nat) (w:World) (b o:Nat) (vs:List Value):Prop:=
 (∀ i v,vs[i]?=some v->w.cell? ⟨b,o+i,none⟩=some v)/\(0<vs.length->o+vs.length<=F b) /\ ∀ v∈vs,v.oneCell'=true
mutual
def RepD (F:Nat->Nat) (w:World):D->Value->Prop
 | .lit v,x=>x=v/\qaJ v=true
 | .sl cs n full,x => ∃ b o cap vs,x = .slice (some ⟨b,o,none⟩) n cap/\n<=cap/\(full=true->cap=n)/\RepDs F w cs vs/\Row F w b o vs
 | .imm cs o,x => ∃ b o' vs,x = .pointer (some ⟨b,o'+o,none⟩)/\RepDs F w cs vs/\Row F w b o' vs
 | .agg cs,x => ∃ vs,x = .agg vs.toArray/\RepDs F w cs vs
 | .iface _ _,_=>False
def RepDs (F:Nat->Nat) (w:World):List D->List Value->Prop
 | [],vs=>vs=[]
 | d::ds,vs => ∃ x xs,vs=x::xs/\RepD F w d x/\RepDs F w ds xs
end
def Ob.isTip:Ob->Bool
 | .tip _ | .vec _ | .vecT _ _ | .froz _ | .dead=>true
 | _=>false
structure Ctx where
 σ : S
 μ : Nat->Option Nat
 F:Nat->Nat
 w:World
structure Fid where
 fn:Nat->FuncId
 cr:Nat->Code->PC->Prop
 ty:Nat->TypeId
 mt:Nat->TypeId->String->Prop
 gl:Nat->Option (List D)
instance:CoeFun Fid (fun _=>Nat->FuncId):=⟨Fid.fn⟩
def Ctx.fix (Γ : Ctx) (l:Nat):Prop := ∃ ob,Γ.σ[l]?=some ob/\ob.isTip=false
mutual
def Rep (fid:Fid) (Γ : Ctx):V->Value->Prop
 | .dat d,x=>RepD Γ.F Γ.w d x
 | .ptr l o,x => ∃ b,Γ.μ l=some b/\x = .pointer (some ⟨b,o,none⟩) /\ Γ.fix l
 | .gsl cs n sz l,x => ∃ b cap vs m,x = .slice (some ⟨b,0,none⟩) n cap/\n<=cap/\RepDs Γ.F Γ.w cs vs/\Row Γ.F Γ.w b 0 vs/\cs≠[] /\
   Γ.σ[l]?=some (.tip m)/\(Γ.μ l).isSome=true/\cs.length<=m /\
   (cs.length=m -> Γ.μ l=some b /\ ∃ arr e,Γ.w.heap[b]?=some (.cells arr e (0,0))/\cap*sz<=arr.size)
 | .msl l o n cap _,x => ∃ b,Γ.μ l=some b/\x = .slice (some ⟨b,o,none⟩) n cap/\n<=cap /\ Γ.fix l
 | .own l n sz,x => ∃ a cap,x = .slice (some a) n cap/\n<=cap/\0<sz/\(∃ ob,Γ.σ[l]?=some ob/\ob.isTip=true) /\ ∀ ob cs,Γ.σ[l]?=some ob->ob.rows=some cs->n*sz<=cs.length/\(cs.length=n*sz ->
   ∃ b arr e,Γ.μ l=some b/\a=⟨b,0,none⟩ /\ Γ.w.heap[b]?=some (.cells arr e (0,0))/\cap*sz<=arr.size)
 | .eptr l n o,x => ∃ a,x = .pointer (some a)/\(∃ ob,Γ.σ[l]?=some ob/\ob.isTip=true) /\ ∀ ob cs,Γ.σ[l]?=some ob->ob.rows=some cs->n<=cs.length/\(cs.length=n ->
   ∃ b arr e,Γ.μ l=some b/\a=⟨b,o,none⟩ /\ Γ.w.heap[b]?=some (.cells arr e (0,0))/\n<=arr.size)
 | .bm g v,x => ∃ t nm y,x = .func (.method nm) #[.iface t y] #[]/\fid.mt g t nm/\Rep fid Γ v y
 | .agg cs,x => ∃ vs,x = .agg vs.toArray/\Reps fid Γ cs vs
 | .fn f a b,x => ∃ as bs,x = .func (.func (fid f)) as.toArray bs.toArray/\Reps fid Γ a as/\Reps fid Γ b bs
 | .mp l,x => ∃ b,Γ.μ l=some b/\x = .map (some b) /\ Γ.fix l
 | .iface t v,x => ∃ y,x = .iface (fid.ty t) y/\Rep fid Γ v y
 | .tup vs,x => ∃ xs,x = .tuple xs.toArray/\Reps fid Γ vs xs
 | .yld l,x => ∃ b,Γ.μ l=some b/\x = .func (.yield b) #[] #[] /\ Γ.fix l
 | .pan _,_=>False
def Reps (fid:Fid) (Γ : Ctx):List V->List Value->Prop
 | [],vs=>vs=[]
 | d::ds,vs => ∃ x xs,vs=x::xs/\Rep fid Γ d x/\Reps fid Γ ds xs
end
def RepE (fid:Fid) (Γ : Ctx):List (Value × V)->List MapEntry->Prop
 | [],es=>es=[]
 | (k,v)::r,es => ∃ e es',es=e::es'/\e.key=k/\Rep fid Γ v e.val/\RepE fid Γ r es'
def FrRep (fid:Fid) (Γ : Ctx) (N:Nat) (fr:Fr) (tmps:Array Value):Prop:=
 tmps.size=N /\ ∀ t v,t<N->fr.get t=some v->Rep fid Γ v (tmps.getD t undef)
def Ex.code:Ex->Code
 | .normal => .skip
 | .exit id => .exit id
 | .ret => .ret
 | .pan _ => .skip
def qkt:Nat->LoopState
 | 0 => .ready
 | 1 => .busy
 | 2 => .done
 | _ => .exhausted
def RepOb (fid:Fid) (Γ : Ctx) (b:Nat):Ob->Prop
 | .cells cs => Γ.F b=0 /\ ∃ arr e,Γ.w.heap[b]?=some (.cells arr e (0,0))/\Reps fid Γ cs arr.toList
 | .map es => Γ.F b=0 /\ ∃ ents clock,Γ.w.heap[b]?=some (.map ents clock)/\RepE fid Γ es ents.toList
 | .tip m => Γ.F b=m/\0<m
 | .vec cs => Γ.F b=0 /\ ∃ arr e,Γ.w.heap[b]?=some (.cells arr e (0,0))/\cs.length<=arr.size/\Reps fid Γ cs (arr.toList.take cs.length) /\ ∀ v∈arr.toList.take cs.length,v.oneCell'=true
 | .cellsT t cs => Γ.F b=0 /\ ∃ arr,Γ.w.heap[b]?=some (.cells arr (fid.ty t) (0,0))/\Reps fid Γ cs arr.toList
 | .vecT t cs => Γ.F b=0 /\ ∃ arr,Γ.w.heap[b]?=some (.cells arr (fid.ty t) (0,0))/\cs.length<=arr.size/\Reps fid Γ cs (arr.toList.take cs.length) /\ ∀ v∈arr.toList.take cs.length,v.oneCell'=true
 | .froz ds => Γ.F b=ds.length /\ ∃ arr e,Γ.w.heap[b]?=some (.cells arr e (0,0))/\ds.length<=arr.size/\RepDs Γ.F Γ.w ds (arr.toList.take ds.length) /\ ∀ v∈arr.toList.take ds.length,v.oneCell'=true
 | .dead=>False
 | .loop lp => Γ.F b=0 /\ ∃ L:Loop,Γ.w.heap[b]?=some (.loop L)/\L.params.toList=lp.ps/\L.state=qkt lp.st/\L.pending=lp.pend.map Ex.code /\
   ∃ N,fid.cr N L.assign lp.assign/\fid.cr N L.body lp.body/\(∀ p∈lp.ps,p<N)/\FrRep fid Γ N lp.fr L.tmps /\ ∀ l∈qbe lp.fr,l < Γ.σ.length
structure Real (fid:Fid) (Γ : Ctx):Prop where
 obs : ∀ l ob b,Γ.σ[l]?=some ob -> Γ.μ l=some b->RepOb fid Γ b ob
 dom : ∀ l b,Γ.μ l=some b->l < Γ.σ.length/\b < Γ.w.heap.size
 inj : ∀ l l' b,Γ.μ l=some b -> Γ.μ l'=some b->l=l'
 imm : ∀ b,0 < Γ.F b -> ∃ arr e fz,Γ.w.heap[b]?=some (.cells arr e fz) /\ Γ.F b<=arr.size
 glb : ∀ g cs,fid.gl g=some cs -> ∃ vs,RepDs Γ.F Γ.w cs vs/\Row Γ.F Γ.w g 0 vs
structure Ext (Γ Γ':Ctx):Prop where
 size : Γ.w.heap.size <= Γ'.w.heap.size
 os : Γ'.w.os = Γ.w.os
 tape : Γ'.w.tape = Γ.w.tape
 output : Γ'.w.output = Γ.w.output
 mono : ∀ b,Γ.F b <= Γ'.F b
 cell : ∀ b i v,i < Γ.F b -> Γ.w.cell? ⟨b,i,none⟩=some v -> Γ'.w.cell? ⟨b,i,none⟩=some v
 arr : ∀ b arr e,0 < Γ.F b -> Γ.w.heap[b]?=some (.cells arr e (0,0)) -> ∃ arr',Γ'.w.heap[b]?=some (.cells arr' e (0,0))/\arr'.size=arr.size
 len : Γ.σ.length <= Γ'.σ.length
 fix : ∀ l ob,Γ.σ[l]?=some ob->ob.isTip=false->(∃ ob',Γ'.σ[l]?=some ob'/\ob'.isTip=false) /\ ∀ b,Γ.μ l=some b -> Γ'.μ l=some b
 tip : ∀ l m,Γ.σ[l]?=some (.tip m) -> ∃ m',Γ'.σ[l]?=some (.tip m')/\m<=m'/\((Γ.μ l).isSome=true->(Γ'.μ l).isSome=true)/\(m=m' -> ∀ b,Γ.μ l=some b -> Γ'.μ l=some b)
 row : ∀ l ob,Γ.σ[l]?=some ob->ob.isTip=true -> ∃ ob',Γ'.σ[l]?=some ob'/\ob'.isTip=true /\
  ∀ cs',ob'.rows=some cs' -> ∃ cs,ob.rows=some cs/\cs.length<=cs'.length /\
   (cs.length=cs'.length -> ∀ b,Γ.μ l=some b -> Γ'.μ l=some b /\ ∀ arr e,Γ.w.heap[b]?=some (.cells arr e (0,0)) -> ∃ arr',Γ'.w.heap[b]?=some (.cells arr' e (0,0))/\arr'.size=arr.size)
structure Frm (Γ Γ':Ctx):Prop where
 same : ∀ b,b < Γ.w.heap.size->(∀ l,Γ.μ l≠some b) -> Γ'.w.heap[b]? = Γ.w.heap[b]? /\ Γ'.F b = Γ.F b
 new : ∀ l b,Γ'.μ l=some b->b < Γ.w.heap.size -> ∃ l',Γ.μ l'=some b
def Non (Γ Γ':Ctx):Prop := ∀ l,l < Γ.σ.length -> Γ.μ l=none -> Γ'.μ l=none
structure Step (Γ Γ':Ctx):Prop where
 ext:Ext Γ Γ'
 frm:Frm Γ Γ'
 non:Non Γ Γ'
theorem Ext.refl (Γ : Ctx):Ext Γ Γ:=
 ⟨Nat.le_refl _,rfl,rfl,rfl,fun _=>Nat.le_refl _,fun _ _ _ _ h=>h,fun _ arr _ _ h=>⟨arr,h,rfl⟩,Nat.le_refl _,
  fun _ ob h ht=>⟨⟨ob,h,ht⟩,fun _ h=>h⟩,fun _ m h=>⟨m,h,Nat.le_refl _,fun h=>h,fun _ _ h=>h⟩,
  fun _ ob h ht=>⟨ob,h,ht,fun cs h=>⟨cs,h,Nat.le_refl _,fun _ _ hb=>⟨hb,fun arr _ ha=>⟨arr,ha,rfl⟩⟩⟩⟩⟩
theorem Ext.trans {A B C:Ctx} (h:Ext A B) (k:Ext B C):Ext A C where
 size:=Nat.le_trans h.size k.size
 os:=k.os.trans h.os
 tape:=k.tape.trans h.tape
 output:=k.output.trans h.output
 mono b:=Nat.le_trans (h.mono b) (k.mono b)
 cell b i v hi hv:=k.cell b i v (Nat.lt_of_lt_of_le hi (h.mono b)) (h.cell b i v hi hv)
 arr b arr e hb ha:=by
  obtain⟨a1,h1,s1⟩:=h.arr b arr e hb ha
  obtain⟨a2,h2,s2⟩:=k.arr b a1 e (Nat.lt_of_lt_of_le hb (h.mono b)) h1
  exact⟨a2,h2,s2.trans s1⟩
 len:=Nat.le_trans h.len k.len
 fix l ob ho ht:=by
  obtain⟨⟨o1,h1,t1⟩,m1⟩:=h.fix l ob ho ht
  obtain⟨⟨o2,h2,t2⟩,m2⟩:=k.fix l o1 h1 t1
  exact⟨⟨o2,h2,t2⟩,fun b hb=>m2 b (m1 b hb)⟩
 tip l m hm:=by
  obtain⟨m1,h1,le1,s1,e1⟩:=h.tip l m hm
  obtain⟨m2,h2,le2,s2,e2⟩:=k.tip l m1 h1
  refine⟨m2,h2,Nat.le_trans le1 le2,fun hs=>s2 (s1 hs),fun hm b hb=>?_⟩
  have:m=m1:=by omega
  subst this
  exact e2 hm b (e1 rfl b hb)
 row l ob ho ht:=by
  obtain⟨o1,h1,t1,r1⟩:=h.row l ob ho ht
  obtain⟨o2,h2,t2,r2⟩:=k.row l o1 h1 t1
  refine⟨o2,h2,t2,fun cs2 hc2=>?_⟩
  obtain⟨cs1,c1,l1,q1⟩:=r2 cs2 hc2
  obtain⟨cs,c,l2,q2⟩:=r1 cs1 c1
  refine⟨cs,c,Nat.le_trans l2 l1,fun hl b hb=>?_⟩
  obtain⟨m1,a1⟩:=q2 (by omega) b hb
  obtain⟨m2,a2⟩:=q1 (by omega) b m1
  refine⟨m2,fun arr e ha=>?_⟩
  obtain⟨arr1,g1,s1⟩:=a1 arr e ha
  obtain⟨arr2,g2,s2⟩:=a2 arr1 e g1
  exact⟨arr2,g2,s2.trans s1⟩
theorem Frm.refl (Γ : Ctx):Frm Γ Γ := ⟨fun _ _ _=>⟨rfl,rfl⟩,fun l _ h _=>⟨l,h⟩⟩
theorem Frm.trans {A B C:Ctx} (hs:A.w.heap.size<=B.w.heap.size) (h:Frm A B) (k:Frm B C):Frm A C where
 same b hb hn:=by
  obtain⟨h1,h2⟩:=h.same b hb hn
  have hn' : ∀ l,B.μ l≠some b:=fun l hl=>by
   obtain⟨l',hl'⟩:=h.new l b hl hb
   exact hn l' hl'
  obtain⟨k1,k2⟩:=k.same b (Nat.lt_of_lt_of_le hb hs) hn'
  exact⟨k1.trans h1,k2.trans h2⟩
 new l b hl hb:=by
  obtain⟨l',hl'⟩:=k.new l b hl (Nat.lt_of_lt_of_le hb hs)
  exact h.new l' b hl' hb
theorem Step.refl (Γ : Ctx):Step Γ Γ := ⟨.refl _,.refl _,fun _ _ h=>h⟩
theorem Step.trans {A B C:Ctx} (h:Step A B) (k:Step B C):Step A C:=⟨h.ext.trans k.ext,.trans h.ext.size h.frm k.frm,fun l hl hn=>k.non l (Nat.lt_of_lt_of_le hl h.ext.len) (h.non l hl hn)⟩
theorem Row.ext {Γ Γ':Ctx} (h:Ext Γ Γ') {b o:Nat} {vs:List Value} (hr:Row Γ.F Γ.w b o vs):Row Γ'.F Γ'.w b o vs:=by
 refine⟨fun i v hi=>?_,fun hp=>Nat.le_trans (hr.2.1 hp) (h.mono b),hr.2.2⟩
 have hlt:i<vs.length:=by
  rcases Nat.lt_or_ge i vs.length with h' | h'
  ·exact h'
  ·rw[List.getElem?_eq_none h'] at hi; cases hi
 have hp:0<vs.length:=by omega
 exact h.cell b (o+i) v (by have:=hr.2.1 hp; omega) (hr.1 i v hi)
mutual
theorem RepD.ext {Γ Γ':Ctx} (h:Ext Γ Γ') : ∀ (d:D) (x:Value),RepD Γ.F Γ.w d x->RepD Γ'.F Γ'.w d x
 | .lit v,x,hr=>by simpa only [RepD] using hr
 | .sl cs n full,x,hr=>by
  simp only[RepD] at hr ⊢
  obtain⟨b,o,cap,vs,h1,h2,h3,h4,h5⟩:=hr
  exact⟨b,o,cap,vs,h1,h2,h3,RepDs.ext h cs vs h4,h5.ext h⟩
 | .imm cs o,x,hr=>by
  simp only[RepD] at hr ⊢
  obtain⟨b,o',vs,h1,h4,h5⟩:=hr
  exact⟨b,o',vs,h1,RepDs.ext h cs vs h4,h5.ext h⟩
 | .agg cs,x,hr=>by
  simp only[RepD] at hr ⊢
  obtain⟨vs,h1,h2⟩:=hr
  exact⟨vs,h1,RepDs.ext h cs vs h2⟩
 | .iface t d,x,hr=>by simp only[RepD] at hr
theorem RepDs.ext {Γ Γ':Ctx} (h:Ext Γ Γ') : ∀ (ds:List D) (xs:List Value),RepDs Γ.F Γ.w ds xs->RepDs Γ'.F Γ'.w ds xs
 | [],xs,hr=>by simpa only [RepDs] using hr
 | d::ds,xs,hr=>by
  simp only[RepDs] at hr ⊢
  obtain⟨y,ys,h1,h2,h3⟩:=hr
  exact⟨y,ys,h1,RepD.ext h d y h2,RepDs.ext h ds ys h3⟩
end
theorem Ctx.fix.ext {Γ Γ':Ctx} (h:Ext Γ Γ') {l:Nat} (hf : Γ.fix l) : Γ'.fix l:=by
 obtain⟨ob,h1,h2⟩:=hf
 exact (h.fix l ob h1 h2).1
theorem μ_ext {Γ Γ':Ctx} (h:Ext Γ Γ') {l b:Nat} (hf : Γ.fix l) (hm : Γ.μ l=some b) : Γ'.μ l=some b:=by
 obtain⟨ob,h1,h2⟩:=hf
 exact (h.fix l ob h1 h2).2 b hm
theorem RepDs.length {F:Nat->Nat} {w:World} : ∀ {ds:List D} {xs:List Value},RepDs F w ds xs->xs.length=ds.length
 | [],xs,hr=>by simp only[RepDs] at hr; simp[hr]
 | d::ds,xs,hr=>by
  simp only[RepDs] at hr
  obtain⟨y,ys,h1,_,h3⟩:=hr
  simp[h1,RepDs.length h3]
mutual
theorem Rep.ext {fid:Fid} {Γ Γ':Ctx} (h:Ext Γ Γ') : ∀ (v:V) (x:Value),Rep fid Γ v x->Rep fid Γ' v x
 | .dat d,x,hr=>by simp only[Rep] at hr ⊢; exact RepD.ext h d x hr
 | .ptr l o,x,hr=>by
  simp only[Rep] at hr ⊢
  obtain⟨b,h1,h2,h3⟩:=hr
  exact⟨b,μ_ext h h3 h1,h2,h3.ext h⟩
 | .gsl cs n sz l,x,hr=>by
  simp only[Rep] at hr ⊢
  obtain⟨b,cap,vs,m,h1,h2,h3,h4,h5,h6,h7,h8,h9⟩:=hr
  obtain⟨m',t1,t2,t3,t4⟩:=h.tip l m h6
  refine⟨b,cap,vs,m',h1,h2,RepDs.ext h cs vs h3,h4.ext h,h5,t1,t3 h7,by omega,fun hm=>?_⟩
  have:cs.length=m:=by omega
  obtain⟨k1,arr,e,k2,k3⟩:=h9 this
  have hF:0 < Γ.F b:=by
   have hl:=RepDs.length h3
   have hp:0<vs.length:=by rw[hl]; exact List.length_pos_iff.2 h5
   have:=h4.2.1 hp; omega
  obtain⟨arr',a1,a2⟩:=h.arr b arr e hF k2
  exact⟨t4 (by omega) b k1,arr',e,a1,by omega⟩
 | .msl l o n cap sz,x,hr=>by
  simp only[Rep] at hr ⊢
  obtain⟨b,h1,h2,h3,h4⟩:=hr
  exact⟨b,μ_ext h h4 h1,h2,h3,h4.ext h⟩
 | .own l n sz,x,hr=>by
  simp only[Rep] at hr ⊢
  obtain⟨a,cap,h1,h2,hz,⟨ob,h3,h4⟩,h5⟩:=hr
  obtain⟨ob',g1,g2,g3⟩:=h.row l ob h3 h4
  refine⟨a,cap,h1,h2,hz,⟨ob',g1,g2⟩,fun ob1 cs1 k1 k2=>?_⟩
  rw[g1] at k1; cases k1
  obtain⟨cs,c1,c2,c3⟩:=g3 cs1 k2
  obtain⟨d1,d2⟩:=h5 ob cs h3 c1
  refine⟨Nat.le_trans d1 c2,fun hl=>?_⟩
  obtain⟨b,arr,e,e1,e2,e3,e4⟩:=d2 (by omega)
  obtain⟨m1,m2⟩:=c3 (by omega) b e1
  obtain⟨arr',a1,a2⟩:=m2 arr e e3
  exact⟨b,arr',e,m1,e2,a1,by omega⟩
 | .eptr l n o,x,hr=>by
  simp only[Rep] at hr ⊢
  obtain⟨a,h1,⟨ob,h3,h4⟩,h5⟩:=hr
  obtain⟨ob',g1,g2,g3⟩:=h.row l ob h3 h4
  refine⟨a,h1,⟨ob',g1,g2⟩,fun ob1 cs1 k1 k2=>?_⟩
  rw[g1] at k1; cases k1
  obtain⟨cs,c1,c2,c3⟩:=g3 cs1 k2
  obtain⟨d1,d2⟩:=h5 ob cs h3 c1
  refine⟨Nat.le_trans d1 c2,fun hl=>?_⟩
  obtain⟨b,arr,e,e1,e2,e3,e4⟩:=d2 (by omega)
  obtain⟨m1,m2⟩:=c3 (by omega) b e1
  obtain⟨arr',a1,a2⟩:=m2 arr e e3
  exact⟨b,arr',e,m1,e2,a1,by omega⟩
 | .bm g v,x,hr=>by
  simp only[Rep] at hr ⊢
  obtain⟨t,nm,y,h1,h2,h3⟩:=hr
  exact⟨t,nm,y,h1,h2,Rep.ext h v y h3⟩
 | .agg cs,x,hr=>by
  simp only[Rep] at hr ⊢
  obtain⟨vs,h1,h2⟩:=hr
  exact⟨vs,h1,Reps.ext h cs vs h2⟩
 | .fn f a b,x,hr=>by
  simp only[Rep] at hr ⊢
  obtain⟨as,bs,h1,h2,h3⟩:=hr
  exact⟨as,bs,h1,Reps.ext h a as h2,Reps.ext h b bs h3⟩
 | .mp l,x,hr=>by
  simp only[Rep] at hr ⊢
  obtain⟨b,h1,h2,h3⟩:=hr
  exact⟨b,μ_ext h h3 h1,h2,h3.ext h⟩
 | .iface t v,x,hr=>by
  simp only[Rep] at hr ⊢
  obtain⟨y,h1,h2⟩:=hr
  exact⟨y,h1,Rep.ext h v y h2⟩
 | .tup vs,x,hr=>by
  simp only[Rep] at hr ⊢
  obtain⟨xs,h1,h2⟩:=hr
  exact⟨xs,h1,Reps.ext h vs xs h2⟩
 | .yld l,x,hr=>by
  simp only[Rep] at hr ⊢
  obtain⟨b,h1,h2,h3⟩:=hr
  exact⟨b,μ_ext h h3 h1,h2,h3.ext h⟩
 | .pan _,x,hr=>by simp only[Rep] at hr
theorem Reps.ext {fid:Fid} {Γ Γ':Ctx} (h:Ext Γ Γ') : ∀ (vs:List V) (xs:List Value),Reps fid Γ vs xs->Reps fid Γ' vs xs
 | [],xs,hr=>by simpa only [Reps] using hr
 | d::ds,xs,hr=>by
  simp only[Reps] at hr ⊢
  obtain⟨y,ys,h1,h2,h3⟩:=hr
  exact⟨y,ys,h1,Rep.ext h d y h2,Reps.ext h ds ys h3⟩
end
theorem FrRep.ext {fid:Fid} {Γ Γ':Ctx} (h:Ext Γ Γ') {N:Nat} {fr:Fr} {tmps:Array Value} (hf:FrRep fid Γ N fr tmps):FrRep fid Γ' N fr tmps:=
 ⟨hf.1,fun t v ht hv=>Rep.ext h _ _ (hf.2 t v ht hv)⟩
theorem RepE.ext {fid:Fid} {Γ Γ':Ctx} (h:Ext Γ Γ') : ∀ (es:List (Value × V)) (xs:List MapEntry),RepE fid Γ es xs->RepE fid Γ' es xs
 | [],xs,hr=>by simpa only [RepE] using hr
 | (k,v)::r,xs,hr=>by
  simp only[RepE] at hr ⊢
  obtain⟨e,es,h1,h2,h3,h4⟩:=hr
  exact⟨e,es,h1,h2,Rep.ext h v e.val h3,RepE.ext h r es h4⟩
theorem Reps.length {fid:Fid} {Γ : Ctx} : ∀ {vs:List V} {xs:List Value},Reps fid Γ vs xs->xs.length=vs.length
 | [],xs,hr=>by simp only[Reps] at hr; simp[hr]
 | d::ds,xs,hr=>by
  simp only[Reps] at hr
  obtain⟨y,ys,h1,_,h3⟩:=hr
  simp[h1,Reps.length h3]
theorem Glb.ext {fid:Fid} {Γ Γ':Ctx} (h:Ext Γ Γ') (hg : ∀ g cs,fid.gl g=some cs -> ∃ vs,RepDs Γ.F Γ.w cs vs/\Row Γ.F Γ.w g 0 vs) : ∀ g cs,fid.gl g=some cs -> ∃ vs,RepDs Γ'.F Γ'.w cs vs/\Row Γ'.F Γ'.w g 0 vs:=
 fun g cs hc=>let ⟨vs,h1,h2⟩:=hg g cs hc; ⟨vs,RepDs.ext h cs vs h1,h2.ext h⟩
theorem RepOb.ext {fid:Fid} {Γ Γ':Ctx} (h:Ext Γ Γ') {b:Nat} (hh : Γ'.w.heap[b]? = Γ.w.heap[b]?) (hF : Γ'.F b = Γ.F b) : ∀ ob,RepOb fid Γ b ob->RepOb fid Γ' b ob
 | .cells cs,hr=>by
  simp only[RepOb] at hr ⊢
  obtain⟨h1,arr,e,h2,h3⟩:=hr
  exact⟨hF.trans h1,arr,e,hh.trans h2,Reps.ext h cs _ h3⟩
 | .map es,hr=>by
  simp only[RepOb] at hr ⊢
  obtain⟨h1,arr,e,h2,h3⟩:=hr
  exact⟨hF.trans h1,arr,e,hh.trans h2,RepE.ext h es _ h3⟩
 | .tip m,hr=>by
  simp only[RepOb] at hr ⊢
  exact⟨hF.trans hr.1,hr.2⟩
 | .vec cs,hr=>by
  simp only[RepOb] at hr ⊢
  obtain⟨h1,arr,e,h2,h3,h4,h5⟩:=hr
  exact⟨hF.trans h1,arr,e,hh.trans h2,h3,Reps.ext h cs _ h4,h5⟩
 | .cellsT t cs,hr=>by
  simp only[RepOb] at hr ⊢
  obtain⟨h1,arr,h2,h3⟩:=hr
  exact⟨hF.trans h1,arr,hh.trans h2,Reps.ext h cs _ h3⟩
 | .vecT t cs,hr=>by
  simp only[RepOb] at hr ⊢
  obtain⟨h1,arr,h2,h3,h4,h5⟩:=hr
  exact⟨hF.trans h1,arr,hh.trans h2,h3,Reps.ext h cs _ h4,h5⟩
 | .froz ds,hr=>by
  simp only[RepOb] at hr ⊢
  obtain⟨h1,arr,e,h2,h3,h4,h5⟩:=hr
  exact⟨hF.trans h1,arr,e,hh.trans h2,h3,RepDs.ext h ds _ h4,h5⟩
 | .dead,hr=>by simp only[RepOb] at hr
 | .loop lp,hr=>by
  simp only[RepOb] at hr ⊢
  obtain⟨h1,L,h2,h3,h4,h5,N,h6,h7,h8,h9,h10⟩:=hr
  exact⟨hF.trans h1,L,hh.trans h2,h3,h4,h5,N,h6,h7,h8,FrRep.ext h h9,fun l hl=>Nat.lt_of_lt_of_le (h10 l hl) h.len⟩
theorem qfz {tmps:Array Value} {d:Nat} {x:Value} (h:d<tmps.size):(tmps.setIfInBounds d x).getD d undef=x:=by
 simp[Array.getD,h]
theorem qeC {tmps:Array Value} {d t:Nat} {x:Value} (h:d≠t):(tmps.setIfInBounds d x).getD t undef=tmps.getD t undef:=by
 simp only[Array.getD_eq_getD_getElem?,Array.getElem?_setIfInBounds_ne h]
theorem FrRep.put {fid:Fid} {Γ : Ctx} {N:Nat} {fr:Fr} {a:Act} {dst:Option Nat} {v:V} {x:Value} (hf:FrRep fid Γ N fr a.tmps)
  (hd : ∀ d,dst=some d->d<N) (hr:Rep fid Γ v x):FrRep fid Γ N (fr.put dst v) (a.put dst x).tmps:=by
 cases dst with
 | none=>exact hf
 | some d=>
  refine⟨by simp[Act.put,hf.1],fun t u ht hu=>?_⟩
  simp only[Fr.put,Fr.get] at hu
  simp only[Act.put]
  split at hu
  ·rename_i e
   subst e
   cases hu
   rw[qfz (by rw[hf.1]; exact hd _ rfl)]
   exact hr
  ·rename_i e
   rw[qeC e]
   exact hf.2 t u ht hu
theorem Fr.get_keep {fr:Fr} : ∀ {ks:List Nat} {t:Nat} {v:V},(fr.keep ks).get t=some v->fr.get t=some v
 | [],t,v,h=>by simp[Fr.keep,Fr.get] at h
 | k::ks,t,v,h=>by
  simp only[Fr.keep] at h
  split at h
  ·rename_i u hu
   simp only[Fr.get] at h
   split at h
   ·rename_i e; subst e; cases h; exact hu
   ·exact Fr.get_keep h
  ·exact Fr.get_keep h
theorem FrRep.keep {fid:Fid} {Γ : Ctx} {N:Nat} {fr:Fr} {tmps:Array Value} (hf:FrRep fid Γ N fr tmps) (ks:List Nat):FrRep fid Γ N (fr.keep ks) tmps:=
 ⟨hf.1,fun t v ht hv=>hf.2 t v ht (Fr.get_keep hv)⟩
end Go.Pm
end SC
section SD
namespace Go.Pm
structure WOnly (b:Nat) (w w':World):Prop where
 os:w'.os=w.os
 tape:w'.tape=w.tape
 output:w'.output=w.output
 size:w'.heap.size=w.heap.size
 other : ∀ k,k≠b->w'.heap[k]?=w.heap[k]?
theorem WOnly.refl (b:Nat) (w:World):WOnly b w w:=⟨rfl,rfl,rfl,rfl,fun _ _=>rfl⟩
theorem WOnly.trans {b:Nat} {w w' w'':World} (h:WOnly b w w') (k:WOnly b w' w''):WOnly b w w'':=
 ⟨k.os.trans h.os,k.tape.trans h.tape,k.output.trans h.output,k.size.trans h.size,fun j hj=>(k.other j hj).trans (h.other j hj)⟩
theorem qcr {Γ Γ':Ctx} (h : ∀ l ob,Γ.σ[l]?=some ob->ob.isTip=true ->
   (Γ'.σ[l]?=some ob /\ ∀ b,Γ.μ l=some b -> Γ'.μ l=some b /\ ∀ arr e,Γ.w.heap[b]?=some (.cells arr e (0,0)) -> Γ'.w.heap[b]?=some (.cells arr e (0,0))) \/
   (∃ ob',Γ'.σ[l]?=some ob'/\ob'.isTip=true/\ob'.rows=none)) :
  ∀ l ob,Γ.σ[l]?=some ob->ob.isTip=true -> ∃ ob',Γ'.σ[l]?=some ob'/\ob'.isTip=true /\
   ∀ cs',ob'.rows=some cs' -> ∃ cs,ob.rows=some cs/\cs.length<=cs'.length /\
    (cs.length=cs'.length -> ∀ b,Γ.μ l=some b -> Γ'.μ l=some b /\ ∀ arr e,Γ.w.heap[b]?=some (.cells arr e (0,0)) -> ∃ arr',Γ'.w.heap[b]?=some (.cells arr' e (0,0))/\arr'.size=arr.size):=by
 intro l ob ho ht
 rcases h l ob ho ht with ⟨h1,h2⟩ | ⟨ob',h1,h2,h3⟩
 ·exact⟨ob,h1,ht,fun cs' hc=>⟨cs',hc,Nat.le_refl _,fun _ b hb=>⟨(h2 b hb).1,fun arr e ha=>⟨arr,(h2 b hb).2 arr e ha,rfl⟩⟩⟩⟩
 ·exact⟨ob',h1,h2,fun cs' hc=>by rw[h3] at hc; cases hc⟩
theorem cell?_of_block {w w':World} {b:Nat} (h:w'.heap[b]?=w.heap[b]?) (i:Nat):w'.cell? ⟨b,i,none⟩=w.cell? ⟨b,i,none⟩:=by
 simp only[World.cell?,h]
theorem Real.F_lt {fid:Fid} {Γ : Ctx} (h:Real fid Γ) {b:Nat} (hb:0 < Γ.F b):b < Γ.w.heap.size:=by
 obtain⟨arr,e,fz,h1,_⟩:=h.imm b hb
 exact (Array.getElem?_eq_some_iff.1 h1).1
theorem Real.F_size {fid:Fid} {Γ : Ctx} (h:Real fid Γ) : Γ.F Γ.w.heap.size=0:=by
 rcases Nat.eq_zero_or_pos (Γ.F Γ.w.heap.size) with h0 | h0
 ·exact h0
 ·exact absurd (h.F_lt h0) (Nat.lt_irrefl _)
theorem Real.F_obj {fid:Fid} {Γ : Ctx} (h:Real fid Γ) {l b:Nat} {ob:Ob} (ho : Γ.σ[l]?=some ob) (ht:ob.isTip=false) (hm : Γ.μ l=some b) : Γ.F b=0:=by
 have:=h.obs l ob b ho hm
 cases ob with
 | cells cs=>exact this.1
 | cellsT t cs=>exact this.1
 | map es=>exact this.1
 | loop lp=>exact this.1
 | tip m=>simp[Ob.isTip] at ht
 | vec m=>simp[Ob.isTip] at ht
 | vecT t m=>simp[Ob.isTip] at ht
 | froz m=>simp[Ob.isTip] at ht
 | dead=>simp[Ob.isTip] at ht
theorem upd {fid:Fid} {Γ : Ctx} (hr:Real fid Γ) {l b:Nat} {ob ob':Ob} {w':World} (ho : Γ.σ[l]?=some ob) (ht:ob.isTip=false) (ht':ob'.isTip=false)
  (hm : Γ.μ l=some b) (hw:WOnly b Γ.w w')
  (hn:Ext Γ ⟨Γ.σ.set l ob',Γ.μ,Γ.F,w'⟩->RepOb fid ⟨Γ.σ.set l ob',Γ.μ,Γ.F,w'⟩ b ob') :
  Real fid ⟨Γ.σ.set l ob',Γ.μ,Γ.F,w'⟩/\Step Γ ⟨Γ.σ.set l ob',Γ.μ,Γ.F,w'⟩:=by
 have hF:=hr.F_obj ho ht hm
 have hlt:l < Γ.σ.length:=(List.getElem?_eq_some_iff.1 ho).1
 have hext:Ext Γ ⟨Γ.σ.set l ob',Γ.μ,Γ.F,w'⟩:=by
  refine⟨Nat.le_of_eq hw.size.symm,hw.os,hw.tape,hw.output,fun _=>Nat.le_refl _,fun k i v hi hv=>?_,fun k arr e hk ha=>⟨arr,?_,rfl⟩,by simp,fun j o hj hjt=>⟨?_,fun _ h=>h⟩,fun j m hj=>⟨m,?_,Nat.le_refl _,fun h=>h,fun _ _ h=>h⟩,qcr fun j o hj hjt => .inl ?_⟩
  ·have:k≠b:=fun e=>by subst e; omega
   rw[cell?_of_block (hw.other k this)]; exact hv
  ·have:k≠b:=fun e=>by subst e; omega
   rw[hw.other k this]; exact ha
  ·by_cases e:l=j
   ·subst e; exact⟨ob',by simp[hlt],ht'⟩
   ·exact⟨o,by rw[List.getElem?_set_ne e]; exact hj,hjt⟩
  ·by_cases e:l=j
   ·subst e; rw[ho] at hj; cases hj; simp[Ob.isTip] at ht
   ·rw[List.getElem?_set_ne e]; exact hj
  ·have e:l≠j:=fun e=>by subst e; rw[ho] at hj; cases hj; rw[ht] at hjt; cases hjt
   refine⟨by rw[List.getElem?_set_ne e]; exact hj,fun k hk=>⟨hk,fun arr t ha=>?_⟩⟩
   have:k≠b:=fun e'=>by subst e'; exact e (hr.inj _ _ _ hm hk)
   rw[hw.other k this]; exact ha
 refine⟨⟨fun j o k hj hk=>?_,fun j k hk=>?_,hr.inj,fun k hk=>?_,Glb.ext hext hr.glb⟩,hext,⟨fun k hk hno=>⟨hw.other k fun e=>by subst e; exact hno l hm,rfl⟩,fun j k hj _=>⟨j,hj⟩⟩,fun _ _ h=>h⟩
 ·by_cases e:l=j
  ·subst e
   simp only[List.getElem?_set_self hlt,Option.some.injEq] at hj
   subst hj
   rw[hm] at hk; cases hk
   exact hn hext
  ·rw[List.getElem?_set_ne e] at hj
   have hb:k≠b:=fun e'=>by subst e'; exact e (hr.inj _ _ _ hm hk)
   exact RepOb.ext hext (hw.other k hb) rfl o (hr.obs j o k hj hk)
 ·have:=hr.dom j k hk
  exact⟨by simpa using this.1,by rw[hw.size]; exact this.2⟩
 ·obtain⟨arr,e,fz,h1,h2⟩:=hr.imm k hk
  have:k≠b:=fun e=>by subst e; simp only at hk; omega
  exact⟨arr,e,fz,by rw[hw.other k this]; exact h1,h2⟩
theorem qac (w:World) (o:Obj) {k:Nat} (h:k<w.heap.size):(w.alloc o).heap[k]?=w.heap[k]?:=by
 simp only[World.alloc,Array.getElem?_push]
 rw[if_neg (by omega)]
theorem qad (w:World) (o:Obj):(w.alloc o).heap[w.heap.size]?=some o:=by
 show (w.heap.push o)[w.heap.size]?=some o
 simp
theorem qbv {w:World} {k:Nat} {o:Obj} (h:w.heap[k]?=some o):k<w.heap.size:=(Array.getElem?_eq_some_iff.1 h).1
def bind (μ : Nat->Option Nat) (l b:Nat):Nat->Option Nat:=fun j=>if j=l then some b else μ j
def grow (F:Nat->Nat) (b n:Nat):Nat->Nat:=fun j=>if j=b then n else F j
theorem qdi {Γ : Ctx} (hF : Γ.F Γ.w.heap.size=0) (hlt : ∀ b,0 < Γ.F b->b < Γ.w.heap.size) (o:Obj) (σ':S) (μ':Nat->Option Nat) (n:Nat)
  (hσ : Γ.σ.length <= σ'.length)
  (hfix : ∀ l ob,Γ.σ[l]?=some ob->ob.isTip=false->(∃ ob',σ'[l]?=some ob'/\ob'.isTip=false) /\ ∀ b,Γ.μ l=some b -> μ' l=some b)
  (htip : ∀ l m,Γ.σ[l]?=some (.tip m) -> ∃ m',σ'[l]?=some (.tip m')/\m<=m'/\((Γ.μ l).isSome=true->(μ' l).isSome=true)/\(m=m' -> ∀ b,Γ.μ l=some b -> μ' l=some b))
  (hrow : ∀ l ob,Γ.σ[l]?=some ob->ob.isTip=true->(σ'[l]?=some ob /\ ∀ b,Γ.μ l=some b -> μ' l=some b/\b < Γ.w.heap.size)\/(∃ ob',σ'[l]?=some ob'/\ob'.isTip=true/\ob'.rows=none)) :
  Ext Γ ⟨σ',μ',grow Γ.F Γ.w.heap.size n,Γ.w.alloc o⟩:=by
 have hal : ∀ b,b < Γ.w.heap.size->(Γ.w.alloc o).heap[b]? = Γ.w.heap[b]?:=fun b hb=>by
  simp only[World.alloc,Array.getElem?_push]
  rw[if_neg (by omega)]
 refine⟨by simp,rfl,rfl,rfl,fun b=>?_,fun b i v hi hv=>?_,fun b arr e hb ha=>⟨arr,?_,rfl⟩,hσ,hfix,htip,qcr fun l ob ho ht=>?_⟩
 ·simp only[grow]; split
  ·rename_i e; subst e; omega
  ·exact Nat.le_refl _
 ·have hb:b < Γ.w.heap.size:=hlt b (by omega)
  rw[cell?_of_block (qac Γ.w o hb)]; exact hv
 ·have hb:b < Γ.w.heap.size:=hlt b hb
  rw[qac Γ.w o hb]; exact ha
 ·rcases hrow l ob ho ht with ⟨h1,h2⟩ | h1
  ·exact .inl ⟨h1,fun b hb=>⟨(h2 b hb).1,fun arr e ha=>by show (Γ.w.alloc o).heap[b]?=_; rw[hal b (h2 b hb).2]; exact ha⟩⟩
  ·exact .inr h1
theorem qiI {fid:Fid} {Γ : Ctx} (hr:Real fid Γ) (arr:Array Value) (e:TypeId) (n:Nat) (hn:n<=arr.size) :
  Real fid ⟨Γ.σ,Γ.μ,grow Γ.F Γ.w.heap.size n,Γ.w.alloc (.cells arr e)⟩/\Step Γ ⟨Γ.σ,Γ.μ,grow Γ.F Γ.w.heap.size n,Γ.w.alloc (.cells arr e)⟩:=by
 have hext:=qdi hr.F_size (fun b=>hr.F_lt) (.cells arr e) Γ.σ Γ.μ n (Nat.le_refl _) (fun l ob h ht=>⟨⟨ob,h,ht⟩,fun _ h=>h⟩)
  (fun l m h=>⟨m,h,Nat.le_refl _,fun h=>h,fun _ _ h=>h⟩) (fun l ob h _ => .inl ⟨h,fun b hb=>⟨hb,(hr.dom l b hb).2⟩⟩)
 refine⟨⟨fun l ob b h1 h2=>?_,fun l b h=>?_,hr.inj,fun b hb=>?_,Glb.ext hext hr.glb⟩,hext,⟨fun b hb hn=>⟨qac _ _ hb,?_⟩,fun l b h _=>⟨l,h⟩⟩,fun _ _ h=>h⟩
 ·have hb:=(hr.dom l b h2).2
  exact RepOb.ext hext (qac _ _ hb) (by simp only[grow]; rw[if_neg (by omega)]) ob (hr.obs l ob b h1 h2)
 ·have:=hr.dom l b h
  exact⟨this.1,by simp; omega⟩
 ·simp only[grow] at hb ⊢
  split at hb
  ·rename_i e'; subst e'
   exact⟨arr,e,(0,0),qad _ _,by simpa using hn⟩
  ·rename_i e'
   obtain⟨a,t,fz,h1,h2⟩:=hr.imm b hb
   exact⟨a,t,fz,by rw[qac _ _ (qbv h1)]; exact h1,by simpa [e'] using h2⟩
 ·simp only[grow]; rw[if_neg (by omega)]
theorem qbi {fid:Fid} {Γ : Ctx} (hr:Real fid Γ) (ob:Ob) (o:Obj) (n:Nat)
  (hn : ∀ Γ':Ctx,Γ'=⟨Γ.σ ++ [ob],bind Γ.μ Γ.σ.length Γ.w.heap.size,grow Γ.F Γ.w.heap.size n,Γ.w.alloc o⟩->Ext Γ Γ'->RepOb fid Γ' Γ.w.heap.size ob)
  (hi:0<n -> ∃ arr e fz,o = .cells arr e fz/\n<=arr.size) :
  Real fid ⟨Γ.σ ++ [ob],bind Γ.μ Γ.σ.length Γ.w.heap.size,grow Γ.F Γ.w.heap.size n,Γ.w.alloc o⟩ /\
  Step Γ ⟨Γ.σ ++ [ob],bind Γ.μ Γ.σ.length Γ.w.heap.size,grow Γ.F Γ.w.heap.size n,Γ.w.alloc o⟩:=by
 have hlast : ∀ l ob',Γ.σ[l]?=some ob'->l < Γ.σ.length/\(Γ.σ ++ [ob])[l]?=some ob':=fun l ob' h=>by
  have hl:=(List.getElem?_eq_some_iff.1 h).1
  exact⟨hl,by rw[List.getElem?_append_left hl]; exact h⟩
 have hext:=qdi hr.F_size (fun b=>hr.F_lt) o (Γ.σ ++ [ob]) (bind Γ.μ Γ.σ.length Γ.w.heap.size) n (by simp)
  (fun l ob' h ht=>⟨⟨ob',(hlast l ob' h).2,ht⟩,fun b hb=>by simp only[bind]; rw[if_neg (by have:=(hlast l ob' h).1; omega)]; exact hb⟩)
  (fun l m h=>⟨m,(hlast l _ h).2,Nat.le_refl _,fun hs=>by simp only[bind]; split<;>simp_all,fun _ b hb=>by simp only[bind]; rw[if_neg (by have:=(hlast l _ h).1; omega)]; exact hb⟩)
  (fun l ob' h _ => .inl ⟨(hlast l ob' h).2,fun b hb=>⟨by simp only[bind]; rw[if_neg (by have:=(hlast l ob' h).1; omega)]; exact hb,(hr.dom l b hb).2⟩⟩)
 refine⟨⟨fun l ob' b h1 h2=>?_,fun l b h=>?_,fun l l' b h h'=>?_,fun b hb=>?_,Glb.ext hext hr.glb⟩,hext,⟨fun b hb hn=>⟨qac _ _ hb,?_⟩,fun l b h hb=>?_⟩,fun l hl h=>by simp only[bind]; rw[if_neg (by omega)]; exact h⟩
 ·simp only[bind] at h2
  split at h2
  ·rename_i e; subst e; cases h2
   simp at h1; subst h1
   exact hn _ rfl hext
  ·rename_i e
   have hd:=hr.dom l b h2
   have h1' : Γ.σ[l]?=some ob':=by
    simp only at h1
    rw[List.getElem?_append_left hd.1] at h1; exact h1
   exact RepOb.ext hext (qac _ _ hd.2) (by simp only[grow]; rw[if_neg (by omega)]) ob' (hr.obs l ob' b h1' h2)
 ·simp only[bind] at h
  split at h
  ·rename_i e; subst e; cases h; simp
  ·have:=hr.dom l b h
   exact⟨by simp; omega,by simp; omega⟩
 ·simp only[bind] at h h'
  split at h<;>split at h'
  ·rename_i e e'; exact e.trans e'.symm
  ·cases h; have:=(hr.dom l' _ h').2; omega
  ·cases h'; have:=(hr.dom l _ h).2; omega
  ·exact hr.inj l l' b h h'
 ·simp only[grow] at hb ⊢
  split at hb
  ·rename_i e'; subst e'
   obtain⟨arr,e,fz,ho,hle⟩:=hi hb
   exact⟨arr,e,fz,by rw[qad,ho],by simpa using hle⟩
  ·rename_i e'
   obtain⟨a,t,fz,h1,h2⟩:=hr.imm b hb
   exact⟨a,t,fz,by rw[qac _ _ (qbv h1)]; exact h1,by simpa [e'] using h2⟩
 ·simp only[grow]; rw[if_neg (by omega)]
 ·simp only[bind] at h
  split at h
  ·cases h; omega
  ·exact⟨l,h⟩
theorem qjG {fid:Fid} {Γ : Ctx} (hr:Real fid Γ) (l0:Nat) (ob:Ob) (o:Obj) (h0 : Γ.σ[l0]?=some ob) (hm : Γ.μ l0=none)
  (hn : ∀ Γ':Ctx,Γ'=⟨Γ.σ,bind Γ.μ l0 Γ.w.heap.size,grow Γ.F Γ.w.heap.size 0,Γ.w.alloc o⟩->Ext Γ Γ'->RepOb fid Γ' Γ.w.heap.size ob) :
  Real fid ⟨Γ.σ,bind Γ.μ l0 Γ.w.heap.size,grow Γ.F Γ.w.heap.size 0,Γ.w.alloc o⟩ /\
  Ext Γ ⟨Γ.σ,bind Γ.μ l0 Γ.w.heap.size,grow Γ.F Γ.w.heap.size 0,Γ.w.alloc o⟩/\Frm Γ ⟨Γ.σ,bind Γ.μ l0 Γ.w.heap.size,grow Γ.F Γ.w.heap.size 0,Γ.w.alloc o⟩:=by
 have hlt:=(List.getElem?_eq_some_iff.1 h0).1
 have hne : ∀ l b,Γ.μ l=some b->l≠l0:=fun l b h e=>by subst e; rw[hm] at h; cases h
 have hext:=qdi hr.F_size (fun b=>hr.F_lt) o Γ.σ (bind Γ.μ l0 Γ.w.heap.size) 0 (Nat.le_refl _)
  (fun l ob' h ht=>⟨⟨ob',h,ht⟩,fun b hb=>by simp only[bind]; rw[if_neg (hne l b hb)]; exact hb⟩)
  (fun l m h=>⟨m,h,Nat.le_refl _,fun hs=>by simp only[bind]; split<;>simp_all,fun _ b hb=>by simp only[bind]; rw[if_neg (hne l b hb)]; exact hb⟩)
  (fun l ob' h _ => .inl ⟨h,fun b hb=>⟨by simp only[bind]; rw[if_neg (hne l b hb)]; exact hb,(hr.dom l b hb).2⟩⟩)
 refine⟨⟨fun l ob' b h1 h2=>?_,fun l b h=>?_,fun l l' b h h'=>?_,fun b hb=>?_,Glb.ext hext hr.glb⟩,hext,⟨fun b hb hn=>⟨qac _ _ hb,?_⟩,fun l b h hb=>?_⟩⟩
 ·simp only[bind] at h2
  split at h2
  ·rename_i e; subst e; cases h2
   simp only at h1; rw[h0] at h1; cases h1
   exact hn _ rfl hext
  ·have hd:=hr.dom l b h2
   exact RepOb.ext hext (qac _ _ hd.2) (by simp only[grow]; rw[if_neg (by omega)]) ob' (hr.obs l ob' b h1 h2)
 ·simp only[bind] at h
  split at h
  ·rename_i e; subst e; cases h; simp[hlt]
  ·have:=hr.dom l b h
   exact⟨this.1,by simp; omega⟩
 ·simp only[bind] at h h'
  split at h<;>split at h'
  ·rename_i e e'; exact e.trans e'.symm
  ·cases h; have:=(hr.dom l' _ h').2; omega
  ·cases h'; have:=(hr.dom l _ h).2; omega
  ·exact hr.inj l l' b h h'
 ·simp only[grow] at hb ⊢
  split at hb
  ·omega
  ·rename_i e'
   obtain⟨a,t,fz,h1,h2⟩:=hr.imm b hb
   exact⟨a,t,fz,by rw[qac _ _ (qbv h1)]; exact h1,by simpa [e'] using h2⟩
 ·simp only[grow]; rw[if_neg (by omega)]
 ·simp only[bind] at h
  split at h
  ·cases h; omega
  ·exact⟨l,h⟩
theorem qjH {fid:Fid} {Γ : Ctx} (hr:Real fid Γ) {l m m':Nat} (h0 : Γ.σ[l]?=some (.tip m)) (hsome:(Γ.μ l).isSome=true) (hmm:m<m') (arr:Array Value) (e:TypeId) (hn:m'<=arr.size) :
  Real fid ⟨Γ.σ.set l (.tip m'),bind Γ.μ l Γ.w.heap.size,grow Γ.F Γ.w.heap.size m',Γ.w.alloc (.cells arr e)⟩ /\
  Step Γ ⟨Γ.σ.set l (.tip m'),bind Γ.μ l Γ.w.heap.size,grow Γ.F Γ.w.heap.size m',Γ.w.alloc (.cells arr e)⟩:=by
 have hlt:=(List.getElem?_eq_some_iff.1 h0).1
 have hset : ∀ j ob,Γ.σ[j]?=some ob->j≠l->(Γ.σ.set l (.tip m'))[j]?=some ob:=fun j ob h hj=>by
  rw[List.getElem?_set_ne (Ne.symm hj)]; exact h
 have hext:=qdi hr.F_size (fun b=>hr.F_lt) (.cells arr e) (Γ.σ.set l (.tip m')) (bind Γ.μ l Γ.w.heap.size) m' (by simp)
  (fun j ob' h ht=>by
   have hj:j≠l:=fun e=>by subst e; rw[h0] at h; cases h; simp[Ob.isTip] at ht
   exact⟨⟨ob',hset j ob' h hj,ht⟩,fun b hb=>by simp only[bind]; rw[if_neg hj]; exact hb⟩)
  (fun j k h=>by
   by_cases hj:j=l
   ·subst hj; rw[h0] at h; cases h
    exact⟨m',by simp[hlt],Nat.le_of_lt hmm,fun _=>by simp[bind],fun e=>by omega⟩
   ·exact⟨k,hset j _ h hj,Nat.le_refl _,fun hs=>by simp only[bind]; rw[if_neg hj]; exact hs,fun _ b hb=>by simp only[bind]; rw[if_neg hj]; exact hb⟩)
  (fun j ob' h _=>by
   by_cases hj:j=l
   ·subst hj; exact .inr ⟨.tip m',by simp[hlt],rfl,rfl⟩
   ·exact .inl ⟨hset j ob' h hj,fun b hb=>⟨by simp only[bind]; rw[if_neg hj]; exact hb,(hr.dom j b hb).2⟩⟩)
 refine⟨⟨fun j ob' b h1 h2=>?_,fun j b h=>?_,fun j j' b h h'=>?_,fun b hb=>?_,Glb.ext hext hr.glb⟩,hext,⟨fun b hb hn=>⟨qac _ _ hb,?_⟩,fun j b h hb=>?_⟩,fun j _ h=>by simp only[bind]; rw[if_neg (fun e=>by subst e; rw[h] at hsome; cases hsome)]; exact h⟩
 ·simp only[bind] at h2
  split at h2
  ·rename_i e'; subst e'; cases h2
   simp only[List.getElem?_set_self hlt,Option.some.injEq] at h1
   subst h1
   simp[RepOb,grow]; omega
  ·rename_i e'
   have hd:=hr.dom j b h2
   simp only at h1
   rw[List.getElem?_set_ne (Ne.symm e')] at h1
   exact RepOb.ext hext (qac _ _ hd.2) (by simp only[grow]; rw[if_neg (by omega)]) ob' (hr.obs j ob' b h1 h2)
 ·simp only[bind] at h
  split at h
  ·rename_i e'; subst e'; cases h; simp[hlt]
  ·have:=hr.dom j b h
   exact⟨by simpa using this.1,by simp; omega⟩
 ·simp only[bind] at h h'
  split at h<;>split at h'
  ·rename_i e e'; exact e.trans e'.symm
  ·cases h; have:=(hr.dom j' _ h').2; omega
  ·cases h'; have:=(hr.dom j _ h).2; omega
  ·exact hr.inj j j' b h h'
 ·simp only[grow] at hb ⊢
  split at hb
  ·rename_i e'; subst e'
   exact⟨arr,e,(0,0),qad _ _,by simpa using hn⟩
  ·rename_i e'
   obtain⟨a,t,fz,h1,h2⟩:=hr.imm b hb
   exact⟨a,t,fz,by rw[qac _ _ (qbv h1)]; exact h1,by simpa [e'] using h2⟩
 ·simp only[grow]; rw[if_neg (by omega)]
 ·simp only[bind] at h
  split at h
  ·cases h; omega
  ·exact⟨j,h⟩
theorem qjI {fid:Fid} {Γ : Ctx} (hr:Real fid Γ) {l m m' b:Nat} {w':World} (h0 : Γ.σ[l]?=some (.tip m)) (hm : Γ.μ l=some b) (hmm:m<m') (hw:WOnly b Γ.w w')
  {arr arr':Array Value} {e:TypeId} (ha : Γ.w.heap[b]?=some (.cells arr e (0,0))) (ha':w'.heap[b]?=some (.cells arr' e (0,0))) (hs:arr'.size=arr.size) (hn:m'<=arr.size)
  (hpre : ∀ i,i<m->arr'[i]?=arr[i]?) :
  Real fid ⟨Γ.σ.set l (.tip m'),Γ.μ,grow Γ.F b m',w'⟩/\Step Γ ⟨Γ.σ.set l (.tip m'),Γ.μ,grow Γ.F b m',w'⟩:=by
 have hlt:=(List.getElem?_eq_some_iff.1 h0).1
 have hFb : Γ.F b=m:=(hr.obs l _ b h0 hm).1
 have hext:Ext Γ ⟨Γ.σ.set l (.tip m'),Γ.μ,grow Γ.F b m',w'⟩:=by
  refine⟨Nat.le_of_eq hw.size.symm,hw.os,hw.tape,hw.output,fun k=>?_,fun k i v hi hv=>?_,fun k a t hk h=>?_,by simp,fun j ob h ht=>?_,fun j k h=>?_,qcr fun j ob h ht=>?_⟩
  ·simp only[grow]; split
   ·rename_i e'; subst e'; omega
   ·exact Nat.le_refl _
  ·by_cases e':k=b
   ·subst e'
    simp only[World.cell?,ha] at hv
    simp only[World.cell?,ha']
    simpa [hpre i (by omega)] using hv
   ·rw[cell?_of_block (hw.other k e')]; exact hv
  ·by_cases e':k=b
   ·subst e'; rw[ha] at h; cases h; exact⟨arr',ha',hs⟩
   ·exact⟨a,by rw[hw.other k e']; exact h,rfl⟩
  ·have hj:l≠j:=fun e=>by subst e; rw[h0] at h; cases h; simp[Ob.isTip] at ht
   exact⟨⟨ob,by rw[List.getElem?_set_ne hj]; exact h,ht⟩,fun _ h=>h⟩
  ·by_cases hj:l=j
   ·subst hj; rw[h0] at h; cases h
    exact⟨m',by simp[hlt],Nat.le_of_lt hmm,fun h=>h,fun e=>by omega⟩
   ·exact⟨k,by rw[List.getElem?_set_ne hj]; exact h,Nat.le_refl _,fun h=>h,fun _ _ h=>h⟩
  ·by_cases hj:l=j
   ·subst hj; exact .inr ⟨.tip m',by simp[hlt],rfl,rfl⟩
   ·refine .inl ⟨by rw[List.getElem?_set_ne hj]; exact h,fun k hk=>⟨hk,fun a t ha2=>?_⟩⟩
    have hb:k≠b:=fun e'=>by subst e'; exact hj (hr.inj _ _ _ hm hk)
    rw[hw.other k hb]; exact ha2
 refine⟨⟨fun j ob' k h1 h2=>?_,fun j k h=>?_,hr.inj,fun k hk=>?_,Glb.ext hext hr.glb⟩,hext,⟨fun k hk hn=>?_,fun j k h _=>⟨j,h⟩⟩,fun _ _ h=>h⟩
 ·by_cases e':l=j
  ·subst e'
   simp only[List.getElem?_set_self hlt,Option.some.injEq] at h1
   subst h1
   rw[hm] at h2; cases h2
   simp[RepOb,grow]; omega
  ·simp only at h1
   rw[List.getElem?_set_ne e'] at h1
   have hb:k≠b:=fun e''=>by subst e''; exact e' (hr.inj _ _ _ hm h2)
   exact RepOb.ext hext (hw.other k hb) (by simp only[grow]; rw[if_neg hb]) ob' (hr.obs j ob' k h1 h2)
 ·have:=hr.dom j k h
  exact⟨by simpa using this.1,by rw[hw.size]; exact this.2⟩
 ·simp only[grow] at hk ⊢
  split at hk
  ·rename_i e'; subst e'
   exact⟨arr',e,(0,0),ha',by simp; omega⟩
  ·rename_i e'
   obtain⟨a,t,fz,h1,h2⟩:=hr.imm k hk
   exact⟨a,t,fz,by rw[hw.other k e']; exact h1,by simpa [e'] using h2⟩
 ·have hb:k≠b:=fun e'=>by subst e'; exact hn l hm
  exact⟨hw.other k hb,by simp only[grow]; rw[if_neg hb]⟩
theorem qfj {fid:Fid} {Γ : Ctx} (hr:Real fid Γ):Real fid ⟨Γ.σ,Γ.μ,Γ.F,Γ.w.drew⟩/\Step Γ ⟨Γ.σ,Γ.μ,Γ.F,Γ.w.drew⟩:=by
 have hext:Ext Γ ⟨Γ.σ,Γ.μ,Γ.F,Γ.w.drew⟩:=⟨Nat.le_refl _,rfl,rfl,rfl,fun _=>Nat.le_refl _,fun _ _ _ _ h=>h,fun _ arr _ _ h=>⟨arr,h,rfl⟩,Nat.le_refl _,
  fun _ ob h ht=>⟨⟨ob,h,ht⟩,fun _ h=>h⟩,fun _ m h=>⟨m,h,Nat.le_refl _,fun h=>h,fun _ _ h=>h⟩,qcr fun _ _ h _ => .inl ⟨h,fun _ hb=>⟨hb,fun _ _ ha=>ha⟩⟩⟩
 exact⟨⟨fun l ob b h1 h2=>RepOb.ext hext rfl rfl ob (hr.obs l ob b h1 h2),hr.dom,hr.inj,hr.imm,Glb.ext hext hr.glb⟩,hext,⟨fun _ _ _=>⟨rfl,rfl⟩,fun l _ h _=>⟨l,h⟩⟩,fun _ _ h=>h⟩
theorem qhS {fid:Fid} {Γ : Ctx} (hr:Real fid Γ) (o:Obj):Real fid ⟨Γ.σ,Γ.μ,Γ.F,Γ.w.alloc o⟩/\Step Γ ⟨Γ.σ,Γ.μ,Γ.F,Γ.w.alloc o⟩:=by
 have hext:Ext Γ ⟨Γ.σ,Γ.μ,Γ.F,Γ.w.alloc o⟩:=by
  refine⟨by simp,rfl,rfl,rfl,fun _=>Nat.le_refl _,fun b i v hi hv=>?_,fun b arr e hb ha=>⟨arr,?_,rfl⟩,Nat.le_refl _,fun _ ob h ht=>⟨⟨ob,h,ht⟩,fun _ h=>h⟩,fun _ m h=>⟨m,h,Nat.le_refl _,fun h=>h,fun _ _ h=>h⟩,
   qcr fun l ob h _ => .inl ⟨h,fun b hb=>⟨hb,fun _ _ ha=>by show (Γ.w.alloc o).heap[b]?=_; rw[qac Γ.w o (hr.dom l b hb).2]; exact ha⟩⟩⟩
  ·have hb:b < Γ.w.heap.size:=hr.F_lt (by omega)
   rw[cell?_of_block (qac Γ.w o hb)]; exact hv
  ·rw[qac Γ.w o (hr.F_lt hb)]; exact ha
 refine⟨⟨fun l ob b h1 h2=>RepOb.ext hext (qac _ _ (hr.dom l b h2).2) rfl ob (hr.obs l ob b h1 h2),fun l b h=>?_,hr.inj,fun b hb=>?_,Glb.ext hext hr.glb⟩,hext,⟨fun b hb _=>⟨qac _ _ hb,rfl⟩,fun l _ h _=>⟨l,h⟩⟩,fun _ _ h=>h⟩
 ·have:=hr.dom l b h
  exact⟨this.1,by simp; omega⟩
 ·obtain⟨a,t,fz,h1,h2⟩:=hr.imm b hb
  exact⟨a,t,fz,by rw[qac _ _ (qbv h1)]; exact h1,h2⟩
end Go.Pm
end SD
