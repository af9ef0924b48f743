/- The abstract machine: values, stores, instructions, and its run. No program in sight. -/
import GoSem.Dispatch
import GoSem.Step
import Derived.Laws.Sem
import Derived.Laws.Externs
import Derived.Orders
import Derived.Laws.World
import Derived.CallsIn
import Derived.OrdersIn
set_option linter.unusedSimpArgs false
set_option linter.unusedVariables false
namespace Go.Pm
section
inductive D where
 |lit (v:Value)
 |sl (cs:List D) (n:Nat) (full:Bool)
 |imm (cs:List D) (o:Nat)
 |agg (cs:List D)
 |iface (t:Nat) (d:D)
 deriving Inhabited
inductive V where
 |dat (d:D)
 |ptr (l o:Nat)
 |gsl (cs:List D) (n sz l:Nat)
 |msl (l o n cap sz:Nat)
 |own (l n sz:Nat)
 |eptr (l n o:Nat)
 |vw (l n o k sz:Nat)
 |rw (cs:List V) (n:Nat)
 |bm (g:Nat) (v:V)
 |agg (cs:List V)
 |fn (f:Nat) (first captured:List V)
 |mp (l:Nat)
 |iface (t:Nat) (v:V)
 |tup (vs:List V)
 |yld (l:Nat)
 |pan (v:V)
 deriving Inhabited
abbrev Fr:=List (Nat × V)
abbrev V.lit(v:Value):V := .dat (.lit v)
abbrev V.int(n:Int):V := .dat (.lit (.int .i64 n))
abbrev V.bool(b:Bool):V := .dat (.lit (.bool b))
abbrev V.str(s:ByteArray):V := .dat (.lit (.string s))
def Fr.get:Fr->Nat->Option V
 |[],_=>none
 | (k,v)::r,t=>if k=t then some v else Fr.get r t
def Fr.put(fr:Fr):Option Nat->V->Fr
 |none,_=>fr
 |some d,v=>(d,v)::fr
def Fr.keep(fr:Fr):List Nat->Fr
 |[]=>[]
 |k::ks=>match fr.get k with
  |some v=>(k,v)::Fr.keep fr ks
  |none=>Fr.keep fr ks
inductive X where
 |t (n:Nat)
 |c (v:Value)
 |f (id:Nat)
 |g (cs:List D)
 deriving Inhabited
def X.ev(fr:Fr):X->Option V
 |.t n=>fr.get n
 |.c v=>some (.dat (.lit v))
 |.f id=>some (.fn id [] [])
 |.g cs=>some (.dat (.imm cs 0))
def evs(fr:Fr):List X->Option (List V)
 |[]=>some []
 |x::r=>match x.ev fr,evs fr r with
  |some v,some vs=>some (v::vs)
  |_,_=>none
inductive CK where
 |int (k:IntKind)
 |intStr
 |strStr
 deriving Inhabited
inductive KD where
 |b|i|s
 deriving DecidableEq,Inhabited
inductive LK where
 |str|sl|mp
 deriving DecidableEq,Inhabited
inductive O where
 |mov (x:X)
 |pick (c a b:X)
 |alloc (zero:List D)
 |box (x:X)
 |build (zero:List D) (parts:List (Nat × Nat × X))
 |bslice (n:Nat) (zero:List D) (parts:List (Nat × Nat × X))
 |bsliceO (n sz:Nat) (zero:List D) (parts:List (Nat × Nat × X))
 |load (agg:Bool) (n:Nat) (a:X)
 |store (n:Nat) (a x:X)
 |nilchk (x:X)
 |bin (op:BinOp) (x y:X)
 |eqb (neg:Bool) (x y:X)
 |eqa (neg:Bool) (kds:List KD) (x y:X)
 |isnil (p neg:Bool) (x:X)
 |isnils (neg:Bool) (x:X)
 |mkif (t:Nat) (x:X)
 |mkmeth (tbl:List (Nat × Nat)) (x:X)
 |bytes (x:X)
 |un (op:UnOp) (x:X)
 |conv (k:CK) (x:X)
 |fieldAddr (off:Nat) (x:X)
 |field (agg:Bool) (off n:Nat) (x:X)
 |indexAddr (sz:Nat) (x i:X)
 |indexAddrA (len sz:Nat) (x i:X)
 |indexA (agg:Bool) (len sz:Nat) (x i:X)
 |indexS (x i:X)
 |slice (sz:Nat) (x:X) (lo hi:Option X)
 |sliceS (x:X) (lo hi:Option X)
 |len (k:LK) (x:X)
 |min (xs:List X)
 |max (xs:List X)
 |append (sz bytes:Nat) (s x:X)
 |appendO (sz bytes:Nat) (s x:X)
 |cut (sz:Nat) (x:X) (lo hi:Option X)
 |mkmap
 |mkslice (own:Bool) (zero:List D) (bytes:Nat) (len cap:X)
 |mapset (kd:KD) (m k v:X)
 |lookup (kd:KD) (zero:D) (m k:X) (ok:Bool)
 |mkfn (f:Nat) (first captured:List X)
 |extract (x:X) (i:Nat)
 |call (f:Nat) (args:List X)
 |callv (f:X) (args:List X)
 |invoke (tbl:List (Nat × Nat)) (x:X) (args:List X)
 |defer (f:X) (args:List X)
 |panic (x:X)
 |recov
 |boxT (t:Nat) (x:X)
 |appendT (t sz bytes:Nat) (s x:X)
 |up (x:X)
 |down (ts:List (Nat × Nat)) (x:X)
 |peq (neg:Bool) (x y:X)
 |usd (x:X)
 |ustr (ts:List Nat) (x n:X)
 |bstr (x:X)
 |sliceA (len sz:Nat) (x:X) (lo hi:Option X)
 |slice3 (sz:Nat) (x:X) (lo hi:Option X) (mx:X)
 |copy (sz:Nat) (x y:X)
 |clr (zero:List D) (x:X)
 |mkmapH (x:X)
 |cap0 (x:X)
 |appendZ (zero:List D) (bytes:Nat) (s n:X)
 |mapdel (kd:KD) (m k:X)
 |mrange (x:X)
 |mnext (x:X)
 |bad
 |idxb (s c:X)
 |fill (k:Nat)
 deriving Inhabited
structure I where
 dst:Option Nat
 op:O
 guard:Option (Nat × Bool)
 un:List Nat:=[]
 deriving Inhabited
inductive PC where
 |skip
 |region (draw:Option (List (Nat × List D))) (ops:List I) (keep:List Nat) (lasts:List Nat:=[])
 |seq (a b:PC)
 |cond (c:X) (a b:PC)
 |block (id:Nat) (b:PC)
 |loop (b:PC)
 |exit (id:Nat)
 |ret
 |range (f:X) (ps:List Nat) (assign body:PC)
 deriving Inhabited
inductive Ex where
 |normal
 |exit (id:Nat)
 |ret
 |pan (v:V)
 deriving Inhabited
structure Lp where
 fr:Fr
 ps:List Nat
 assign:PC
 body:PC
 st:Nat
 pend:Option Ex
 deriving Inhabited
inductive Ob where
 |cells (cs:List V)
 |map (es:List (Value × V))
 |tip (n:Nat)
 |loop (lp:Lp)
 |vec (cs:List V)
 |cellsT (t:Nat) (cs:List V)
 |vecT (t:Nat) (cs:List V)
 |froz (cs:List D)
 |dead
 |iter (l:Nat)
 deriving Inhabited
abbrev S:=List Ob
inductive PR where
 |tmp (t:Nat)
 |cell (t:Nat) (agg:Bool) (n:Nat)
 deriving Inhabited
structure PFun where
 np:Nat
 results:List PR
 body:PC
 noseal:Bool:=false
 df:Bool:=false
 catches:Bool:=false
 deriving Inhabited
inductive Task where
 |call (f:Nat) (args:List V) (σ : S)
 |dcall (f:Nat) (args:List V) (σ : S)
 |loop (k:Nat) (body:PC) (fr:Fr) (σ : S)
 |round (args:List V) (σ : S)
 deriving Inhabited
inductive Res where
 |ret (v:V) (σ : S)
 |out (e:Ex) (fr:Fr) (σ : S)
 deriving Inhabited
def qbf:List V->Option (List D)
 |[]=>some []
 |.dat d::r=>match qbf r with
  |some ds=>some (d::ds)
  |none=>none
 |_::_=>none
def V.cells:V->List V
 |.dat (.agg cs)=>cs.map .dat
 |.agg cs=>cs
 |v=>[v]
def V.aggCells:V->Option (List V)
 |.dat (.agg cs)=>some (cs.map .dat)
 |.agg cs=>some cs
 |_=>none
def V.one:V->Bool
 |.dat (.lit v)=>v.oneCell'
 |.dat (.agg _)=>false
 |.agg _=>false
 |.tup _=>false
 |_=>true
def qd9(vs:List V):V:=
 match qbf vs with
 |some ds => .dat (.agg ds)
 |none => .agg vs
mutual
def V.locs:V->List Nat
 |.dat _=>[]
 |.ptr l _=>[l]
 |.gsl _ _ _ l=>[l]
 |.msl l _ _ _ _=>[l]
 |.own l _ _=>[l]
 |.eptr l _ _=>[l]
 |.vw l _ _ _ _=>[l]
 |.rw cs _=>qav cs
 |.bm _ v=>v.locs
 |.agg cs=>qav cs
 |.fn _ a b=>qav a++qav b
 |.mp l=>[l]
 |.iface _ v=>v.locs
 |.tup vs=>qav vs
 |.yld l=>[l]
 |.pan v=>v.locs
def qav:List V->List Nat
 |[]=>[]
 |v::r=>v.locs++qav r
end
mutual
def V.ren(r:Nat->Nat):V->V
 |.dat d => .dat d
 |.ptr l o => .ptr (r l) o
 |.gsl cs n sz l => .gsl cs n sz (r l)
 |.msl l o n cap sz => .msl (r l) o n cap sz
 |.own l n sz => .own (r l) n sz
 |.eptr l n o => .eptr (r l) n o
 |.vw l n o k sz => .vw (r l) n o k sz
 |.rw cs n => .rw (qcw r cs) n
 |.bm g v => .bm g (v.ren r)
 |.agg cs => .agg (qcw r cs)
 |.fn f a b => .fn f (qcw r a) (qcw r b)
 |.mp l => .mp (r l)
 |.iface t v => .iface t (v.ren r)
 |.tup vs => .tup (qcw r vs)
 |.yld l => .yld (r l)
 |.pan v => .pan (v.ren r)
def qcw(r:Nat->Nat):List V->List V
 |[]=>[]
 |v::vs=>v.ren r::qcw r vs
end
def qfo:List (Value × V)->List Nat
 |[]=>[]
 | (_,v)::r=>v.locs++qfo r
def qoZ(r:Nat->Nat):List (Value × V)->List (Value × V)
 |[]=>[]
 | (k,v)::es=>(k,v.ren r)::qoZ r es
def qa9:Fr->List Nat
 |[]=>[]
 | (_,v)::r=>v.locs++qa9 r
def qhT(r:Nat->Nat):Fr->Fr
 |[]=>[]
 | (k,v)::es=>(k,v.ren r)::qhT r es
def Ob.locs:Ob->List Nat
 |.cells cs=>qav cs
 |.map es=>qfo es
 |.tip _=>[]
 |.loop lp=>qa9 lp.fr
 |.vec cs=>qav cs
 |.cellsT _ cs=>qav cs
 |.vecT _ cs=>qav cs
 |.froz _=>[]
 |.dead=>[]
 |.iter l=>[l]
def Ob.ren(r:Nat->Nat):Ob->Ob
 |.cells cs => .cells (qcw r cs)
 |.map es => .map (qoZ r es)
 |.tip n => .tip n
 |.loop lp => .loop { lp with fr:=qhT r lp.fr }
 |.vec cs => .vec (qcw r cs)
 |.cellsT t cs => .cellsT t (qcw r cs)
 |.vecT t cs => .vecT t (qcw r cs)
 |.froz cs => .froz cs
 |.dead => .dead
 |.iter l => .iter (r l)
def V.sealv:V->V
 |.gsl cs n _ _ => .dat (.sl cs n false)
 |v=>v
def qfp:List V->List V
 |[]=>[]
 |v::r=>v.sealv::qfp r
def V.sealT:V->V
 |.agg cs=>qd9 (qfp cs)
 |v=>v.sealv
def qgd:List V->List V
 |[]=>[]
 |v::r=>v.sealT::qgd r
def Ob.rows:Ob->Option (List V)
 |.vec cs=>some cs
 |.vecT _ cs=>some cs
 |.froz ds=>some (ds.map .dat)
 |_=>none
def ql9(σ : S):V->V × S
 |.own l n sz=>match σ[l]? with
  |some (.vec cs)=>if cs.length=n*sz then (match qbf cs with
   |some ds=>(.dat (.sl ds n false),σ.set l (.froz ds))
   |none=>(.own l n sz,σ)) else (.own l n sz,σ)
  |some (.froz ds)=>if ds.length=n*sz then (.dat (.sl ds n false),σ) else (.own l n sz,σ)
  |_=>(.own l n sz,σ)
 |.gsl cs n _ _=>(.dat (.sl cs n false),σ)
 |v=>(v,σ)
def qmJ(σ : S):List V->List V × S
 |[]=>([],σ)
 |v::r=>((ql9 σ v).1::(qmJ (ql9 σ v).2 r).1,(qmJ (ql9 σ v).2 r).2)
def qmK(σ : S):V->V × S
 |.agg cs=>(qd9 (qmJ σ cs).1,(qmJ σ cs).2)
 |v=>ql9 σ v
def qgE(σ : S):List V->List V × S
 |[]=>([],σ)
 |v::r=>((qmK σ v).1::(qgE (qmK σ v).2 r).1,(qgE (qmK σ v).2 r).2)
def outV(k:Nat)(σ : S):V->V × List Nat
 |.own l n sz=>if k<=l then (match σ[l]? with
  |some (.vec cs)=>if cs.length=n*sz then (match qbf cs with
   |some ds=>(.dat (.sl ds n false),[l])
   |none=>(.own l n sz,[])) else (.own l n sz,[])
  |some (.froz ds)=>if ds.length=n*sz then (.dat (.sl ds n false),[]) else (.own l n sz,[])
  |_=>(.own l n sz,[])) else (.own l n sz,[])
 |.msl l o n cap sz=>if k<=l then (match σ[l]? with
  |some (.cells cs)=>match qbf cs with
   |some ds=>if o+n*sz<=ds.length/\(ds.all fun d=>V.one (.dat d))=true then (.dat (.sl ((ds.drop o).take (n*sz)) n false),[l]) else (.msl l o n cap sz,[])
   |none=>(.msl l o n cap sz,[])
  |_=>(.msl l o n cap sz,[])) else (.msl l o n cap sz,[])
 |.gsl cs n _ _=>(.dat (.sl cs n false),[])
 |v=>(v,[])
def qkG(k:Nat)(σ : S):List V->List V × List Nat
 |[]=>([],[])
 |v::r=>((outV k σ v).1::(qkG k σ r).1,(outV k σ v).2++(qkG k σ r).2)
def qnR(k:Nat)(σ : S):V->V × List Nat
 |.agg cs=>(qd9 (qkG k σ cs).1,(qkG k σ cs).2)
 |v=>outV k σ v
def qcl(k:Nat)(σ : S):List V->List V × List Nat
 |[]=>([],[])
 |v::r=>((qnR k σ v).1::(qcl k σ r).1,(qnR k σ v).2++(qcl k σ r).2)
def qbq{α : Type}:Nat->List α -> List α
 |0,_=>[]
 |n+1,l=>l++qbq n l
def qb3(f:Nat)(vs:List V)(σ : S):List V × S:=if f<1000 then qgE σ vs else (vs,σ)
def reach(σ : S):Nat->List Nat->List Nat->List Nat
 |_,[],seen=>seen
 |0,_,seen=>seen
 |n+1,l::todo,seen=>
  if seen.contains l then reach σ n todo seen
  else reach σ n (todo++(match σ[l]? with|some ob=>ob.locs|none=>[])) (seen++[l])
def idx:List Nat->Nat->Nat
 |[],_=>0
 |k::ks,l=>if k=l then 0 else idx ks l+1
def qd2:List Nat->Bool
 |[]=>true
 |k::ks => !ks.contains k&&qd2 ks
def inL(L:List Nat):List Nat->Bool
 |[]=>true
 |k::ks=>L.contains k&&inL L ks
def qde(σ : S):List Nat->Option (List Ob)
 |[]=>some []
 |l::ls=>match σ[l]?,qde σ ls with
  |some ob,some obs=>some (ob::obs)
  |_,_=>none
def closed(L:List Nat):List Ob->Bool
 |[]=>true
 |ob::r=>inL L ob.locs&&closed L r
def qaF(L:List Nat)(vs:List V)(σ : S):Option (List V × S):=
 match qde σ L with
 |some obs=>if qd2 L&&(inL L (qav vs)&&closed L obs) then some (qcw (idx L) vs,obs.map (Ob.ren (idx L))) else none
 |none=>none
def back(L:List Nat)(n:Nat)(i:Nat):Nat:=
 match L[i]? with
 |some l=>l
 |none=>n+(i-L.length)
def qau(σ : S):List Nat->List Ob->S
 |l::ls,ob::obs=>qau (σ.set l ob) ls obs
 |_,obs => σ ++ obs
def qaW(C:Task->Option Res)(mk:List V->S->Task)(args:List V)(σ : S):Option (V × S):=
 let L:=reach σ 100000 (qav args) []
 match qaF L args σ with
 |some (args',σs)=>
  match C (mk args' σs) with
  |some (.ret (.pan _) _)=>none
  |some (.ret v σs')=>some (v.ren (back L σ.length),qau σ L (σs'.map (Ob.ren (back L σ.length))))
  |_=>none
 |none=>none
def qba(C:Task->Option Res)(mk:List V->S->Task)(args:List V)(σ : S):Option (V × S):=
 let L:=reach σ 100000 (qav args) []
 match qaF L args σ with
 |some (args',σs)=>
  match C (mk args' σs) with
  |some (.ret (.pan v) σs')=>some (v.ren (back L σ.length),qau σ L (σs'.map (Ob.ren (back L σ.length))))
  |_=>none
 |none=>none
def dkey:Nat:=1000000
def qhU:Nat:=1000001
def Fr.defs(fr:Fr):List V:=match fr.get dkey with
 |some (.tup l)=>l
 |_=>[]
def Fr.noD(fr:Fr):Fr:=fr.filter fun p=>p.1 != dkey
def eqS(a b:ByteArray):Bool:=a.toList==b.toList
def eqI(a b:Int):Bool:=a==b
def qql(k:IntKind)(op:BitVec k.bits->BitVec k.bits->BitVec k.bits)(a b:Int):Int:=k.wrap (op (BitVec.ofInt k.bits a) (BitVec.ofInt k.bits b)).toNat
def qvm(k:IntKind)(a b:Int):Int:=k.wrap (a*2 ^ min b.toNat k.bits)
def qtf(k:IntKind)(a b:Int):Int:=a.fdiv (2 ^ min b.toNat k.bits)
def qnS:BinOp->Value->Value->Option Value
 |op,.int k a,.int k' b=>
  if k=k' then
   match op with
   |.add=>some (.int k (k.wrap (a+b)))
   |.sub=>some (.int k (k.wrap (a-b)))
   |.mul=>some (.int k (k.wrap (a*b)))
   |.quo=>if b=0 then none else some (.int k (k.wrap (a.tdiv b)))
   |.rem=>if b=0 then none else some (.int k (a.tmod b))
   |.eql=>some (.bool (eqI a b))
   |.neq=>some (.bool (!eqI a b))
   |.lss=>some (.bool (a<b))
   |.leq=>some (.bool (a<=b))
   |.gtr=>some (.bool (a > b))
   |.geq=>some (.bool (a≥b))
   |.and=>some (.int k (qql k (· &&& ·) a b))
   |.or=>some (.int k (qql k (· ||| ·) a b))
   |.xor=>some (.int k (qql k (· ^^^ ·) a b))
   |.andNot=>some (.int k (qql k (fun x y=>x &&& ~~~y) a b))
   |.shl=>if b<0 then none else some (.int k (qvm k a b))
   |.shr=>if b<0 then none else some (.int k (qtf k a b))
  else match op with
   |.shl=>if b<0 then none else some (.int k (qvm k a b))
   |.shr=>if b<0 then none else some (.int k (qtf k a b))
   |_=>none
 |op,.string a,.string b=>
  match op with
  |.add=>if ((a.size+b.size:Nat):Int) > IntKind.i64.max then none else some (.string (a++b))
  |.eql=>some (.bool (eqS a b))
  |.neq=>some (.bool (!eqS a b))
  |.lss=>some (.bool (Op.bytesLess a.toList b.toList))
  |.leq=>some (.bool (Op.bytesLess a.toList b.toList||a.toList==b.toList))
  |.gtr=>some (.bool (!(Op.bytesLess a.toList b.toList||a.toList==b.toList)))
  |.geq=>some (.bool (!Op.bytesLess a.toList b.toList))
  |_=>none
 |_,_,_=>none
def qtg:Bool->V->Option Bool
 |true,.ptr _ _=>some false
 |true,.dat (.imm _ _)=>some false
 |true,.dat (.lit (.pointer none))=>some true
 |false,.iface _ _=>some false
 |false,.dat (.lit .nilIface)=>some true
 |_,_=>none
def qtT:V->Option Bool
 |.dat (.lit (.slice a _ _))=>some a.isNone
 |.dat (.sl _ _ _) | .gsl _ _ _ _ | .msl _ _ _ _ _ | .own _ _ _ | .vw _ _ _ _ _=>some false
 |_=>none
def qlL:KD->Value->Value->Option Bool
 |.i,.int k a,.int k' b=>if k=k' then some (eqI a b) else none
 |.s,.string a,.string b=>some (eqS a b)
 |.b,.bool a,.bool b=>some (a==b)
 |_,_,_=>none
def qd3:List KD->List D->List D->Option Bool
 |[],[],[]=>some true
 |k::ks,.lit a::as,.lit b::bs=>match qlL k a b,qd3 ks as bs with
  |some x,some y=>some (x&&y)
  |_,_=>none
 |_,_,_=>none
def qdA(s:ByteArray):List D:=s.data.toList.map fun b => .lit (.int .u8 b.toNat)
def unV:UnOp->Value->Option Value
 |.neg,.int k n=>some (.int k (k.wrap (0-n)))
 |.not,.bool b=>some (.bool !b)
 |.xor,.int k n=>some (.int k (qql k (· ^^^ ·) (if k.signed then -1 else k.max) n))
 |_,_=>none
def qmL:CK->Value->Option Value
 |.int k,.int _ n=>some (.int k (k.wrap n))
 |.intStr,.int _ n=>some (.string (Utf8.encode n))
 |.strStr,.string s=>some (.string s)
 |_,_=>none
def V.len(σ : S):LK->V->Option Int
 |.sl,.dat (.lit (.slice _ n _))=>some n
 |.str,.dat (.lit (.string s))=>some s.size
 |.sl,.dat (.sl _ n _)=>some n
 |.sl,.gsl _ n _ _=>some n
 |.sl,.msl _ _ n _ _=>some n
 |.sl,.own _ n _=>some n
 |.sl,.vw _ _ _ k _=>some k
 |.mp,.mp l=>match σ[l]? with
  |some (.map es)=>some es.length
  |_=>none
 |_,_=>none
def qcD:List V->List (Nat × Nat × V)->Option (List V)
 |cs,[]=>some cs
 |cs,(off,size,v)::r=>
  let new:=v.cells
  if new.length=size/\off+size<=cs.length/\new.all V.one then qcD (cs.take off++(new++cs.drop (off+size))) r else none
def qbF(fr:Fr):List (Nat × Nat × X)->Option (List (Nat × Nat × V))
 |[]=>some []
 | (o,s,x)::r=>match x.ev fr,qbF fr r with
  |some v,some vs=>some ((o,s,v)::vs)
  |_,_=>none
def qay{α : Type}(cs:List α)(o n:Nat):Option (List α):=
 let r:=(cs.drop o).take n
 if r.length=n then some r else none
def qbm(agg:Bool)(vs:List V):Option V:=
 if agg then some (qd9 vs) else match vs with
  |[v]=>some v
  |_=>none
def qth(agg:Bool)(ds:List D):Option V:=
 if agg then some (.dat (.agg ds)) else match ds with
  |[d]=>some (.dat d)
  |_=>none
def qbO(σ : S)(agg:Bool)(n:Nat):V->Option V
 |.ptr l o=>match σ[l]? with
  |some (.cells cs)=>match qay cs o n with
   |some vs=>qbm agg vs
   |none=>none
  |some (.cellsT _ cs)=>match qay cs o n with
   |some vs=>qbm agg vs
   |none=>none
  |_=>none
 |.dat (.imm cs o)=>match qay cs o n with
  |some ds=>qth agg ds
  |none=>none
 |.eptr l m o=>match σ[l]? with
  |some (.vec cs)=>if cs.length=m then (match qay cs o n with
   |some vs=>qbm agg vs
   |none=>none) else none
  |some (.froz ds)=>if ds.length=m then (match qay ds o n with
   |some vs=>qth agg vs
   |none=>none) else none
  |_=>none
 |_=>none
def storeV(σ : S)(n:Nat):V->V->Option S
 |.ptr l o,v=>match σ[l]? with
  |some (.cells cs)=>
   let new:=v.cells
   if new.length=n/\o+n<=cs.length/\new.all V.one then some (σ.set l (.cells (cs.take o++(new++cs.drop (o+n))))) else none
  |some (.cellsT t cs)=>
   let new:=v.cells
   if new.length=n/\o+n<=cs.length/\new.all V.one then some (σ.set l (.cellsT t (cs.take o++(new++cs.drop (o+n))))) else none
  |_=>none
 |.eptr l m o,v=>match σ[l]? with
  |some (.vec cs)=>
   let new:=v.cells
   if cs.length=m/\new.length=n/\o+n<=cs.length/\new.all V.one then some (σ.set l (.vec (cs.take o++(new++cs.drop (o+n))))) else none
  |_=>none
 |_,_=>none
def qb4(k:Nat):V->Option V
 |.ptr l o=>some (.ptr l (o+k))
 |.dat (.imm cs o)=>some (.dat (.imm cs (o+k)))
 |.eptr l n o=>some (.eptr l n (o+k))
 |_=>none
def qbr(sz:Nat):V->Int->Option V
 |.dat (.sl cs n _),i=>if 0<=i/\i<n then some (.dat (.imm cs (i.toNat*sz))) else none
 |.gsl cs n _ _,i=>if 0<=i/\i<n then some (.dat (.imm cs (i.toNat*sz))) else none
 |.msl l o n _ _,i=>if 0<=i/\i<n then some (.ptr l (o+i.toNat*sz)) else none
 |.own l n sz',i=>if 0<=i/\i<n/\sz'=sz then some (.eptr l (n*sz) (i.toNat*sz)) else none
 |.vw l n o k sz',i=>if 0<=i/\i<k/\sz'=sz then some (.eptr l n (o+i.toNat*sz)) else none
 |_,_=>none
def bound(x:Option V)(d most:Nat):Option Nat:=
 match x with
 |none=>some d
 |some (.dat (.lit (.int _ i)))=>if 0<=i/\i<=most then some i.toNat else none
 |_=>none
def qcS(sz:Nat)(lo hi:Option V):V->Option V
 |.dat (.lit (.slice a 0 0))=>
  match bound hi 0 0 with
  |some h=>match bound lo 0 h with
   |some _=>some (.dat (.lit (.slice a 0 0)))
   |none=>none
  |none=>none
 |.dat (.sl cs n _)=>
  match bound hi n n with
  |some h=>match bound lo 0 h with
   |some l=>if cs.length=n*sz then some (.dat (.sl ((cs.drop (l*sz)).take ((h-l)*sz)) (h-l) false)) else none
   |none=>none
  |none=>none
 |.gsl cs n _ _=>
  match bound hi n n with
  |some h=>match bound lo 0 h with
   |some l=>if cs.length=n*sz then some (.dat (.sl ((cs.drop (l*sz)).take ((h-l)*sz)) (h-l) false)) else none
   |none=>none
  |none=>none
 |.msl l o n cap sz'=>
  match bound hi n n with
  |some h=>match bound lo 0 h with
   |some k=>if sz'=sz then some (.msl l (if cap=k then o else o+k*sz) (h-k) (cap-k) sz) else none
   |none=>none
  |none=>none
 |.vw l n o k sz'=>
  match bound hi k k with
  |some h=>match bound lo 0 h with
   |some j=>if sz'=sz then some (.vw l n (o+j*sz) (h-j) sz) else none
   |none=>none
  |none=>none
 |_=>none
def qti(σ : S)(sz:Nat)(lo hi:Option V):V->Option (V × S)
 |.own l n sz'=>match σ[l]? with
  |some (.vec cs)=>if lo.isSome then (match bound hi n n with
   |some h=>match bound lo 0 h with
    |some j=>if sz'=sz/\cs.length=n*sz then some (.vw l (n*sz) (j*sz) (h-j) sz,σ) else none
    |none=>none
   |none=>none) else match bound hi n n with
   |some h=>match bound lo 0 h with
    |some 0=>if sz'=sz/\cs.length=n*sz then some (.own σ.length h sz,σ.set l .dead++[.vec (cs.take (h*sz))]) else none
    |_=>none
   |none=>none
  |_=>none
 |v=>match qcS sz lo hi v with
  |some u=>some (u,σ)
  |none=>none
def qhV(lo hi:Option V):V->Option V
 |.dat (.lit (.string s))=>
  match bound hi s.size s.size with
  |some h=>match bound lo 0 h with
   |some l=>some (.dat (.lit (.string (s.extract l h))))
   |none=>none
  |none=>none
 |_=>none
def qtU:V->Option (List D × Nat)
 |.dat (.lit (.slice _ 0 0))=>some ([],0)
 |.dat (.sl cs n _)=>some (cs,n)
 |.gsl cs n _ _=>some (cs,n)
 |.dat (.lit (.string s))=>some (qdA s,s.size)
 |_=>none
def qnT(σ : S):V->Option (List V × Nat)
 |.dat (.lit (.slice _ 0 0))=>some ([],0)
 |.dat (.sl cs n _)=>some (cs.map .dat,n)
 |.gsl cs n _ _=>some (cs.map .dat,n)
 |.dat (.lit (.string s))=>some ((qdA s).map .dat,s.size)
 |.own l n sz=>match σ[l]? with
  |some (.vec cs)=>if cs.length=n*sz then some (cs,n) else none
  |some (.froz ds)=>if ds.length=n*sz then some (ds.map .dat,n) else none
  |_=>none
 |.msl l o n _ sz=>match σ[l]? with
  |some (.cells cs)=>if o+n*sz<=cs.length then some ((cs.drop o).take (n*sz),n) else none
  |_=>none
 |.vw l n o k sz=>match σ[l]? with
  |some (.vec cs)=>if cs.length=n/\o+k*sz<=n then some ((cs.drop o).take (k*sz),k) else none
  |_=>none
 |.rw cs n=>some (cs,n)
 |_=>none
def qa2(n bytes:Nat):Bool:=(2*n+192)*(bytes+1)<=2 ^ 48
def qea(σ : S)(sz bytes:Nat)(s x:V):Option (V × S):=
 match qtU x with
 |none=>none
 |some (xs,m)=>
  if xs.length=m*sz/\0<sz then
   if m=0 then (match s with
    |.dat (.lit (.slice none 0 0)) | .dat (.sl _ _ _) | .gsl _ _ _ _=>some (s,σ)
    |_=>none)
   else match s with
    |.dat (.lit (.slice none 0 0))=>if qa2 m bytes then some (.gsl xs m sz σ.length,σ ++ [.tip xs.length]) else none
    |.dat (.sl cs n true)=>
     if qa2 (n+m) bytes/\cs.length=n*sz then some (.gsl (cs++xs) (n+m) sz σ.length,σ ++ [.tip (cs++xs).length]) else none
    |.gsl cs n sz' l=>
     match σ[l]? with
     |some (.tip k)=>
      if qa2 (n+m) bytes/\cs.length=n*sz/\sz'=sz/\k=cs.length then
       some (.gsl (cs++xs) (n+m) sz l,σ.set l (.tip (cs++xs).length)) else none
     |_=>none
    |_=>none
  else none
def appendO(σ : S)(sz bytes:Nat)(s x:V):Option (V × S):=
 match qnT σ x with
 |none=>none
 |some (xs,m)=>
  if xs.length=m*sz/\0<sz/\xs.all V.one=true then
   if m=0 then (match s with
    |.dat (.lit (.slice none 0 0)) | .dat (.sl _ _ _) | .own _ _ _ | .vw _ _ _ _ _=>some (s,σ)
    |_=>none)
   else match s with
    |.dat (.lit (.slice none 0 0))=>if qa2 m bytes then some (.own σ.length m sz,σ ++ [.vec xs]) else none
    |.dat (.sl cs n true)=>
     if qa2 (n+m) bytes/\cs.length=n*sz then some (.own σ.length (n+m) sz,σ ++ [.vec (cs.map .dat++xs)]) else none
    |.vw l n o k sz'=>
     match σ[l]? with
     |some (.vec cs)=>
      if qa2 (k+m) bytes/\cs.length=n/\sz'=sz/\o+k*sz=n then
       some (.own σ.length (k+m) sz,σ.set l .dead++[.vec (cs.drop o++xs)]) else none
     |_=>none
    |.own l n sz'=>
     match σ[l]? with
     |some (.vec cs)=>
      if qa2 (n+m) bytes/\cs.length=n*sz/\sz'=sz then
       some (.own l (n+m) sz,σ.set l (.vec (cs++xs))) else none
     |_=>none
    |_=>none
  else none
def appendT(σ : S)(t sz bytes:Nat)(s x:V):Option (V × S):=
 match qnT σ x with
 |none=>none
 |some (xs,m)=>
  if xs.length=m*sz/\0<sz/\xs.all V.one=true then
   if m=0 then (match s with
    |.dat (.lit (.slice none 0 0)) | .dat (.sl _ _ _) | .own _ _ _=>some (s,σ)
    |_=>none)
   else match s with
    |.dat (.lit (.slice none 0 0))=>if qa2 m bytes then some (.own σ.length m sz,σ ++ [.vecT t xs]) else none
    |.own l n sz'=>
     match σ[l]? with
     |some (.vecT t' cs)=>
      if qa2 (n+m) bytes/\cs.length=n*sz/\sz'=sz/\t'=t then
       some (.own l (n+m) sz,σ.set l (.vecT t (cs++xs))) else none
     |_=>none
    |_=>none
  else none
def qc6:List V->Option (List UInt8)
 |[]=>some []
 |.dat (.lit (.int .u8 n))::r=>if 0<=n/\n<256 then (match qc6 r with
  |some bs=>some (UInt8.ofNat n.toNat::bs)
  |none=>none) else none
 |_=>none
def V.isStr:V->Bool
 |.dat (.lit (.string _))=>true
 |_=>false
def qmM(σ : S)(v:V):Option V:=match qnT σ v with
 |some (xs,m)=>if xs.length=m/\v.isStr=false then (match qc6 xs with
  |some bs=>some (.str ⟨bs.toArray⟩)
  |none=>none) else none
 |none=>none
def qge(len sz:Nat)(lo hi:Option V):V->Option V
 |.ptr l o=>match bound hi len len with
  |some h=>match bound lo 0 h with
   |some k=>some (.msl l (if len=k then o else o+k*sz) (h-k) (len-k) sz)
   |none=>none
  |none=>none
 |_=>none
def qlM:KD->Value->Bool
 |.s,.string _ | .i,.int _ _ | .b,.bool _=>true
 |_,_=>false
def qcE:KD->Value->Value->Option Bool
 |.i,.int k a,.int k' b=>if k=k' then some (a==b) else none
 |.s,.string a,.string b=>some (a==b)
 |.b,.bool a,.bool b=>some (a==b)
 |_,_,_=>none
def qj4(kd:KD)(k:Value):List (Value × V)->Option (Option V)
 |[]=>some none
 | (k',v)::r=>match qcE kd k k' with
  |some true=>some (some v)
  |some false=>qj4 kd k r
  |none=>none
def qqm(kd:KD)(k:Value)(v:V):List (Value × V)->Option (List (Value × V))
 |[]=>some [(k,v)]
 | (k',v')::r=>match qcE kd k k' with
  |some true=>some ((k,v)::r)
  |some false=>match qqm kd k v r with
   |some r'=>some ((k',v')::r')
   |none=>none
  |none=>none
def qqn:Value->List Value->Option Value
 |x,[]=>some x
 |.int k x,.int _ y::r=>qqn (.int k (if y<x then y else x)) r
 |_,_=>none
def qqo:Value->List Value->Option Value
 |x,[]=>some x
 |.int k x,.int _ y::r=>qqo (.int k (if x<y then y else x)) r
 |_,_=>none
def qma:List V->Option (List Value)
 |[]=>some []
 |.dat (.lit v)::r=>match qma r with
  |some vs=>some (v::vs)
  |none=>none
 |_=>none
def qbJ(fr:Fr):Option X->Option (Option V)
 |none=>some none
 |some x=>match x.ev fr with
  |some v=>some (some v)
  |none=>none
def qv4(σ : S)(sz l h:Nat):V->Option V
 |.dat (.lit (.slice none 0 0))=>some (.dat (.lit (.slice none 0 0)))
 |.dat (.sl cs n _)=>if cs.length=n*sz then some (.dat (.sl ((cs.drop (l*sz)).take ((h-l)*sz)) (h-l) true)) else none
 |.gsl cs n _ _=>if cs.length=n*sz then some (.dat (.sl ((cs.drop (l*sz)).take ((h-l)*sz)) (h-l) true)) else none
 |.own a n z=>match σ[a]? with
  |some (.vec cs)=>if cs.length=n*z/\l=h then some (.dat (.sl [] 0 true)) else none
  |_=>none
 |.msl _ _ _ _ _=>if l=h then some (.dat (.sl [] 0 true)) else none
 |_=>none
def qhW(σ : S)(sz:Nat)(lo:Option V)(hi mx v:V):Option V:=
 match v.len σ .sl with
 |some n=>match bound (some hi) n.toNat n.toNat,bound (some mx) n.toNat n.toNat with
  |some h,some h'=>match bound lo 0 h with
   |some l=>if h=h' then qv4 σ sz l h v else none
   |none=>none
  |_,_=>none
 |none=>none
def qnU(σ : S)(xs:List V):V->Option S
 |.dat (.lit (.slice none 0 0))=>if xs.length=0 then some σ else none
 |.dat (.sl _ _ _)=>if xs.length=0 then some σ else none
 |.msl l o n _ sz=>match σ[l]? with
  |some (.cells cs)=>if xs.length<=n*sz/\o+n*sz<=cs.length/\xs.all V.one then some (σ.set l (.cells (cs.take o++(xs++cs.drop (o+xs.length))))) else none
  |_=>none
 |.own l n sz=>match σ[l]? with
  |some (.vec cs)=>if xs.length<=n*sz/\cs.length=n*sz/\xs.all V.one then some (σ.set l (.vec (xs++cs.drop xs.length))) else none
  |_=>none
 |.vw l n o k sz=>match σ[l]? with
  |some (.vec cs)=>if xs.length<=k*sz/\cs.length=n/\o+k*sz<=n/\xs.all V.one then some (σ.set l (.vec (cs.take o++(xs++cs.drop (o+xs.length))))) else none
  |_=>none
 |_=>none
def qqp(kd:KD)(k:Value):List (Value × V)->Option (List (Value × V))
 |[]=>some []
 | (k',v')::r=>match qcE kd k k' with
  |some true=>some r
  |some false=>match qqp kd k r with
   |some r'=>some ((k',v')::r')
   |none=>none
  |none=>none
def qan(C:Task->Option Res)(fr:Fr)(σ : S):O->Option (V × S)
 |.mov x=>match x.ev fr with
  |some v=>some (v,σ)
  |none=>none
 |.pick c a b=>match c.ev fr with
  |some (.dat (.lit (.bool true)))=>(match a.ev fr with|some v=>some (v,σ) | none=>none)
  |some (.dat (.lit (.bool false)))=>(match b.ev fr with|some v=>some (v,σ) | none=>none)
  |_=>none
 |.alloc zero=>some (.ptr σ.length 0,σ ++ [.cells (zero.map .dat)])
 |.box x=>match x.ev fr with
  |some v=>if v.cells.all V.one then some (.ptr σ.length 0,σ ++ [.cells v.cells]) else none
  |none=>none
 |.build zero parts=>match qbF fr parts with
  |some ps=>match qcD (zero.map .dat) ps with
   |some cs=>some (qd9 cs,σ)
   |none=>none
  |none=>none
 |.bslice n zero parts=>match qbF fr parts with
  |some ps=>match qcD (zero.map .dat) ps with
   |some cs=>match qbf (qfp cs) with
    |some ds=>some (.dat (.sl ds n true),σ)
    |none=>some (.rw (qfp cs) n,σ)
   |none=>none
  |none=>none
 |.bsliceO n sz zero parts=>match qbF fr parts with
  |some ps=>match qcD (zero.map .dat) ps with
   |some cs=>match qbf cs with
    |some _=>some (.own σ.length n sz,σ ++ [.vec cs])
    |none=>none
   |none=>none
  |none=>none
 |.load agg n a=>match a.ev fr with
  |some p=>match qbO σ agg n p with
   |some v=>some (v,σ)
   |none=>none
  |none=>none
 |.store n a x=>match a.ev fr,x.ev fr with
  |some p,some v=>match storeV σ n p v with
   |some σ'=>some (.dat (.lit undef),σ')
   |none=>none
  |_,_=>none
 |.nilchk x=>match x.ev fr with
  |some (.ptr l o)=>some (.ptr l o,σ)
  |some (.dat (.imm cs o))=>some (.dat (.imm cs o),σ)
  |some (.eptr l n o)=>some (.eptr l n o,σ)
  |some (.bm g (.ptr l o))=>some (.bm g (.ptr l o),σ)
  |some (.iface t v)=>some (.iface t v,σ)
  |_=>none
 |.bin op x y=>match x.ev fr,y.ev fr with
  |some (.dat (.lit a)),some (.dat (.lit b))=>match qnS op a b with
   |some v=>some (.dat (.lit v),σ)
   |none=>none
  |_,_=>none
 |.isnil p neg x=>match x.ev fr with
  |some v=>match qtg p v with
   |some b=>some (.bool (if neg then !b else b),σ)
   |none=>none
  |none=>none
 |.isnils neg x=>match x.ev fr with
  |some v=>match qtT v with
   |some b=>some (.bool (if neg then !b else b),σ)
   |none=>none
  |none=>none
 |.mkif t x=>match x.ev fr with
  |some v=>some (.iface t v,σ)
  |none=>none
 |.mkmeth tbl x=>match x.ev fr with
  |some (.iface t v)=>match tbl.lookup t with
   |some g=>some (.bm g v,σ)
   |none=>none
  |_=>none
 |.bytes x=>match x.ev fr with
  |some (.dat (.lit (.string s)))=>if (s.size:Int)<=2 ^ 40 then some (.dat (.sl (qdA s) s.size false),σ) else none
  |_=>none
 |.mkslice own z b x y=>match x.ev fr,y.ev fr with
  |some (.dat (.lit (.int _ l))),some (.dat (.lit (.int _ c)))=>
   if 0<=l/\l<=c/\c<=2 ^ 40/\b*c<=2 ^ 48 then
    (if own then some (.own σ.length l.toNat z.length,σ ++ [.vec ((qbq l.toNat z).map .dat)])
    else some (.msl σ.length 0 l.toNat c.toNat z.length,σ ++ [.cells ((qbq c.toNat z).map .dat)])) else none
  |_,_=>none
 |.eqb neg x y=>match x.ev fr,y.ev fr with
  |some (.dat (.lit (.bool a))),some (.dat (.lit (.bool b)))=>some (.bool (if neg then !(a==b) else a==b),σ)
  |_,_=>none
 |.eqa neg kds x y=>match x.ev fr,y.ev fr with
  |some (.dat (.agg as)),some (.dat (.agg bs))=>match qd3 kds as bs with
   |some b=>some (.bool (if neg then !b else b),σ)
   |none=>none
  |_,_=>none
 |.un op x=>match x.ev fr with
  |some (.dat (.lit a))=>match unV op a with
   |some v=>some (.dat (.lit v),σ)
   |none=>none
  |_=>none
 |.conv k x=>match x.ev fr with
  |some (.dat (.lit a))=>match qmL k a with
   |some v=>some (.dat (.lit v),σ)
   |none=>none
  |_=>none
 |.fieldAddr off x=>match x.ev fr with
  |some p=>match qb4 off p with
   |some v=>some (v,σ)
   |none=>none
  |none=>none
 |.field agg off n x=>match x.ev fr with
  |some v=>match v.aggCells with
   |some cs=>match qay cs off n with
    |some vs=>match qbm agg vs with
     |some u=>some (u,σ)
     |none=>none
    |none=>none
   |none=>none
  |none=>none
 |.indexAddr sz x i=>match x.ev fr,i.ev fr with
  |some s,some (.dat (.lit (.int _ n)))=>match qbr sz s n with
   |some v=>some (v,σ)
   |none=>none
  |_,_=>none
 |.indexAddrA len sz x i=>match x.ev fr,i.ev fr with
  |some s,some (.dat (.lit (.int _ n)))=>if 0<=n/\n<len then (match qb4 (n.toNat*sz) s with
   |some v=>some (v,σ)
   |none=>none) else none
  |_,_=>none
 |.indexA agg len sz x i=>match x.ev fr,i.ev fr with
  |some v,some (.dat (.lit (.int _ n)))=>if 0<=n/\n<len then (match v.aggCells with
   |some cs=>match qay cs (n.toNat*sz) sz with
    |some vs=>match qbm agg vs with
     |some u=>some (u,σ)
     |none=>none
    |none=>none
   |none=>none) else none
  |_,_=>none
 |.indexS x i=>match x.ev fr,i.ev fr with
  |some (.dat (.lit (.string s))),some (.dat (.lit (.int _ n)))=>if 0<=n then (match s[n.toNat]? with
   |some b=>some (.dat (.lit (.int .u8 b.toNat)),σ)
   |none=>none) else none
  |_,_=>none
 |.slice sz x lo hi=>match x.ev fr,qbJ fr lo,qbJ fr hi with
  |some v,some l,some h=>match qcS sz l h v with
   |some u=>some (u,σ)
   |none=>none
  |_,_,_=>none
 |.sliceS x lo hi=>match x.ev fr,qbJ fr lo,qbJ fr hi with
  |some v,some l,some h=>match qhV l h v with
   |some u=>some (u,σ)
   |none=>none
  |_,_,_=>none
 |.len k x=>match x.ev fr with
  |some v=>match v.len σ k with
   |some n=>some (.dat (.lit (.int .i64 n)),σ)
   |none=>none
  |none=>none
 |.min xs=>match evs fr xs with
  |some vs=>match qma vs with
   |some (y::ys)=>match qqn y ys with
    |some v=>some (.dat (.lit v),σ)
    |none=>none
   |_=>none
  |none=>none
 |.max xs=>match evs fr xs with
  |some vs=>match qma vs with
   |some (y::ys)=>match qqo y ys with
    |some v=>some (.dat (.lit v),σ)
    |none=>none
   |_=>none
  |none=>none
 |.append sz bytes s x=>match s.ev fr,x.ev fr with
  |some a,some b=>qea σ sz bytes a b
  |_,_=>none
 |.appendO sz bytes s x=>match s.ev fr,x.ev fr with
  |some a,some b=>appendO σ sz bytes a b
  |_,_=>none
 |.cut sz x lo hi=>match x.ev fr,qbJ fr lo,qbJ fr hi with
  |some v,some l,some h=>qti σ sz l h v
  |_,_,_=>none
 |.mkmap=>some (.mp σ.length,σ ++ [.map []])
 |.mapset kd m k v=>match m.ev fr,k.ev fr,v.ev fr with
  |some (.mp l),some (.dat (.lit key)),some x=>match σ[l]? with
   |some (.map es)=>if qlM kd key then (match qqm kd key x es with
    |some es'=>some (.dat (.lit undef),σ.set l (.map es'))
    |none=>none) else none
   |_=>none
  |_,_,_=>none
 |.lookup kd zero m k ok=>match m.ev fr,k.ev fr with
  |some (.mp l),some (.dat (.lit key))=>match σ[l]? with
   |some (.map es)=>if qlM kd key then (match qj4 kd key es with
    |some (some v)=>some (if ok then .tup [v,.bool true] else v,σ)
    |some none=>some (if ok then .tup [.dat zero,.bool false] else .dat zero,σ)
    |none=>none) else none
   |_=>none
  |_,_=>none
 |.mkfn f a b=>match evs fr a,evs fr b with
  |some as,some bs=>some (.fn f as bs,σ)
  |_,_=>none
 |.extract x i=>match x.ev fr with
  |some (.tup vs)=>match vs[i]? with
   |some v=>some (v,σ)
   |none=>none
  |_=>none
 |.call f xs=>match evs fr xs with
  |some vs=>qaW C (.call f) (qb3 f vs σ).1 (qb3 f vs σ).2
  |none=>none
 |.invoke tbl x xs=>match x.ev fr,evs fr xs with
  |some (.iface t v),some vs=>match tbl.lookup t with
   |some g=>qaW C (.call g) (qb3 g (v::vs) σ).1 (qb3 g (v::vs) σ).2
   |none=>none
  |_,_=>none
 |.callv f xs=>match f.ev fr,evs fr xs with
  |some (.fn id a b),some vs=>qaW C (.call id) (a++(qb3 id vs σ).1++b) (qb3 id vs σ).2
  |some (.bm g v),some vs=>qaW C (.call g) (qb3 g (v::vs) σ).1 (qb3 g (v::vs) σ).2
  |some (.yld l),some vs=>qaW C .round (.yld l::vs) σ
  |_,_=>none
 |.defer f xs=>match f.ev fr,evs fr xs with
  |some (.fn id a b),some vs=>some (.tup (.fn id (a++vs++b) []::fr.defs),σ)
  |_,_=>none
 |.panic _=>none
 |.recov=>match fr.get qhU with
  |some v=>some (v,σ)
  |none=>none
 |.boxT t x=>match x.ev fr with
  |some v=>if v.cells.all V.one then some (.ptr σ.length 0,σ ++ [.cellsT t v.cells]) else none
  |none=>none
 |.appendT t sz bytes s x=>match s.ev fr,x.ev fr with
  |some a,some b=>appendT σ t sz bytes a b
  |_,_=>none
 |.up x=>match x.ev fr with
  |some (.ptr l o)=>match σ[l]? with
   |some (.cellsT _ cs)=>if o<cs.length then some (.ptr l o,σ) else none
   |_=>none
  |_=>none
 |.down ts x=>match x.ev fr with
  |some (.ptr l 0)=>match σ[l]? with
   |some (.cellsT t cs)=>if ts.contains (t,cs.length)=true then some (.ptr l 0,σ) else none
   |_=>none
  |_=>none
 |.peq neg x y=>match x.ev fr,y.ev fr with
  |some (.ptr l o),some (.ptr l' o')=>if l=l'/\o=o' then some (.bool (!neg),σ) else none
  |_,_=>none
 |.usd x=>match x.ev fr with
  |some (.dat (.lit (.slice none 0 0)))=>some (.dat (.lit (.pointer none)),σ)
  |some (.own l n sz)=>if 0<n/\sz=1 then some (.eptr l n 0,σ) else none
  |_=>none
 |.ustr ts x n=>match x.ev fr,n.ev fr with
  |some (.dat (.lit (.pointer none))),some (.dat (.lit (.int .i64 k)))=>if k=0 then some (.str ⟨#[]⟩,σ) else none
  |some (.eptr l m o),some (.dat (.lit (.int .i64 k)))=>match σ[l]? with
   |some (.vecT t cs)=>if ts.contains t=true/\cs.length=m/\k=m/\0<m/\o=0/\m<=2 ^ 40 then (match qc6 cs with
    |some bs=>some (.str ⟨bs.toArray⟩,σ.set l .dead)
    |none=>none) else none
   |_=>none
  |_,_=>none
 |.bstr x=>match x.ev fr with
  |some v=>match qmM σ v with
   |some u=>some (u,σ)
   |none=>none
  |none=>none
 |.sliceA len sz x lo hi=>match x.ev fr,qbJ fr lo,qbJ fr hi with
  |some v,some l,some h=>match qge len sz l h v with
   |some u=>some (u,σ)
   |none=>none
  |_,_,_=>none
 |.idxb s c=>match s.ev fr,c.ev fr with
  |some (.dat (.lit (.string s))),some (.dat (.lit (.int .u8 n)))=>some (.int (firstIdx s n.toNat.toUInt8),σ)
  |_,_=>none
 |.slice3 sz x lo hi mx=>match x.ev fr,qbJ fr lo,qbJ fr hi,mx.ev fr with
  |some v,some l,some (some h),some m=>match qhW σ sz l h m v with
   |some u=>some (u,σ)
   |none=>none
  |_,_,_,_=>none
 |.copy sz x y=>match x.ev fr,y.ev fr with
  |some a,some b=>match qnT σ b,V.len σ .sl a with
   |some (xs,m),some n=>if xs.length=m*sz/\b.isStr=false/\xs.all V.one=true then (match qnU σ (xs.take (min n.toNat m*sz)) a with
    |some σ'=>some (.int (min n.toNat m),σ')
    |none=>none) else none
   |_,_=>none
  |_,_=>none
 |.clr z x=>match x.ev fr with
  |some a=>match V.len σ .sl a with
   |some n=>match qnU σ ((qbq n.toNat z).map .dat) a with
    |some σ'=>some (.tup [],σ')
    |none=>none
   |none=>none
  |none=>none
 |.mkmapH x=>match x.ev fr with
  |some (.dat (.lit (.int _ _)))=>some (.mp σ.length,σ ++ [.map []])
  |_=>none
 |.cap0 x=>match x.ev fr with
  |some (.dat (.lit (.slice none 0 0)))=>some (.int 0,σ)
  |_=>none
 |.appendZ z b s n=>match s.ev fr,n.ev fr with
  |some (.dat (.lit (.slice none 0 0))),some (.dat (.lit (.int _ m)))=>
   if 0<m/\m<=2 ^ 40/\qa2 m.toNat b then some (.own σ.length m.toNat z.length,σ ++ [.vec ((qbq m.toNat z).map .dat)]) else none
  |_,_=>none
 |.mapdel kd m k=>match m.ev fr,k.ev fr with
  |some (.mp l),some (.dat (.lit key))=>match σ[l]? with
   |some (.map es)=>if qlM kd key then (match qqp kd key es with
    |some es'=>some (.tup [],σ.set l (.map es'))
    |none=>none) else none
   |_=>none
  |_,_=>none
 |.mrange x=>match x.ev fr with
  |some (.mp l)=>match σ[l]? with
   |some (.map _)=>some (.ptr σ.length 0,σ ++ [.iter l])
   |_=>none
  |_=>none
 |.mnext x=>match x.ev fr with
  |some (.ptr l 0)=>match σ[l]? with
   |some (.iter m)=>match σ[m]? with
    |some (.map [])=>some (.tup [.bool false],σ)
    |_=>none
   |_=>none
  |_=>none
 |.bad=>none
 |.fill k=>match fr.get k with
  |some (.ptr l 0)=>match σ[l]? with
   |some (.cells _)=>some (.ptr l 0,σ)
   |_=>none
  |some (.mp l)=>match σ[l]? with
   |some (.map _)=>some (.mp l,σ)
   |_=>none
  |_=>none
def qa3(C:Task->Option Res)(fr:Fr)(σ : S):O->Option (V × S)
 |.call f xs=>match evs fr xs with
  |some vs=>qba C (.call f) (qb3 f vs σ).1 (qb3 f vs σ).2
  |none=>none
 |.invoke tbl x xs=>match x.ev fr,evs fr xs with
  |some (.iface t v),some vs=>match tbl.lookup t with
   |some g=>qba C (.call g) (qb3 g (v::vs) σ).1 (qb3 g (v::vs) σ).2
   |none=>none
  |_,_=>none
 |.callv f xs=>match f.ev fr,evs fr xs with
  |some (.fn id a b),some vs=>qba C (.call id) (a++(qb3 id vs σ).1++b) (qb3 id vs σ).2
  |some (.bm g v),some vs=>qba C (.call g) (qb3 g (v::vs) σ).1 (qb3 g (v::vs) σ).2
  |_,_=>none
 |.panic x=>match x.ev fr with
  |some (.iface t v)=>some (.iface t v,σ)
  |_=>none
 |_=>none
def O.calls:O->Bool
 |.call .. | .invoke .. | .callv .. | .panic .. => true
 |_=>false
theorem qj5{C:Task->Option Res}{fr:Fr}{σ : S}{op:O}(h:op.calls=false):qa3 C fr σ op=none:=by
 cases op<;>first|rfl|cases h
def X.tmps:X->List Nat
 |.t n=>[n]
 |_=>[]
def qgF:List X->List Nat
 |[]=>[]
 |x::r=>x.tmps++qgF r
def qmN:List (Nat × Nat × X)->List Nat
 |[]=>[]
 | (_,_,x)::r=>x.tmps++qmN r
def qi7:Option X->List Nat
 |none=>[]
 |some x=>x.tmps
def O.tmps:O->List Nat
 |.mov x | .box x | .boxT _ x | .load _ _ x | .nilchk x | .un _ x | .conv _ x | .fieldAddr _ x | .field _ _ _ x | .len _ x | .extract x _ | .isnil _ _ x | .isnils _ x | .mkif _ x | .mkmeth _ x | .bytes x | .clr _ x | .mkmapH x | .cap0 x | .mrange x | .mnext x | .up x | .down _ x | .usd x | .bstr x=>x.tmps
 |.pick c a b=>c.tmps++(a.tmps++b.tmps)
 |.alloc _ | .mkmap | .bad=>[]
 |.build _ ps | .bslice _ _ ps | .bsliceO _ _ _ ps=>qmN ps
 |.store _ a x | .bin _ a x | .eqb _ a x | .eqa _ _ a x | .mkslice _ _ _ a x | .indexAddr _ a x | .indexAddrA _ _ a x | .indexA _ _ _ a x | .indexS a x | .append _ _ a x | .appendO _ _ a x | .appendT _ _ _ a x | .peq _ a x | .ustr _ a x | .idxb a x | .lookup _ _ a x _ | .copy _ a x | .mapdel _ a x | .appendZ _ _ a x=>a.tmps++x.tmps
 |.slice _ x l h | .sliceS x l h | .cut _ x l h | .sliceA _ _ x l h=>x.tmps++(qi7 l++qi7 h)
 |.slice3 _ x l h m=>x.tmps++(qi7 l++(qi7 h++m.tmps))
 |.min xs | .max xs | .call _ xs=>qgF xs
 |.mapset _ a b c=>a.tmps++(b.tmps++c.tmps)
 |.mkfn _ a b=>qgF a++qgF b
 |.callv f xs=>f.tmps++qgF xs
 |.invoke _ f xs=>f.tmps++qgF xs
 |.defer f xs=>dkey::(f.tmps++qgF xs)
 |.panic x=>x.tmps
 |.recov=>[qhU]
 |.fill k=>[k]
def I.looks(i:I):List Nat:=i.op.tmps++(match i.guard with|some (t,_)=>[t] | none=>[])
def qaE(fr:Fr):Option (Nat × Bool)->Option Bool
 |none=>some true
 |some (t,want)=>match fr.get t with
  |some (.dat (.lit (.bool b)))=>some (b==want)
  |some (.dat (.lit _))=>some false
  |_=>none
def qcT(C:Task->Option Res):List I->Fr->S->Option (Fr × S)
 |[],fr,σ => some (fr,σ)
 |i::r,fr,σ => match qaE fr i.guard with
  |some true=>match qan C fr σ i.op with
   |some (v,σ')=>qcT C r (fr.put i.dst v) σ'
   |none=>none
  |some false=>qcT C r (fr.put i.dst (.dat (.lit undef))) σ
  |none=>none
def qbA(C:Task->Option Res):List I->Fr->S->Option (V × Fr × S)
 |[],_,_=>none
 |i::r,fr,σ => match qaE fr i.guard with
  |some true=>match qan C fr σ i.op with
   |some (v,σ')=>qbA C r (fr.put i.dst v) σ'
   |none=>match qa3 C fr σ i.op with
    |some (v,σ')=>some (v,fr,σ')
    |none=>none
  |some false=>qbA C r (fr.put i.dst (.dat (.lit undef))) σ
  |none=>none
inductive Ev where
 |pure
 |read (l:Nat)
 |chain (n:Nat) (T:List Nat)
 deriving Inhabited
def qct:Option V->List Nat
 |some v=>v.locs
 |none=>[]
def qb8:Option V->Ev
 |some (.ptr l _) => .read l
 |some (.eptr l _ _) => .read l
 |some (.mp l) => .read l
 |_ => .pure
def qgf:Option (List V)->List Nat
 |some vs=>qav vs
 |none=>[]
def qlN(f:Nat)(vs:Option (List V))(σ : S):List V × S:=match vs with
 |some vs=>qb3 f vs σ
 |none=>([],σ)
def qbM(fr:Fr)(σ : S):O->Ev
 |.load _ _ a=>qb8 (a.ev fr)
 |.lookup _ _ m _ _=>qb8 (m.ev fr)
 |.len _ x=>qb8 (x.ev fr)
 |.fill k=>qb8 (fr.get k)
 |.alloc _ | .boxT _ _ | .box _ | .mkmap | .mkmapH _ | .appendZ .. | .mkslice .. | .bsliceO .. | .up _ | .down _ _ | .bstr _ | .mrange _ | .mnext _ | .slice3 .. => .chain σ.length []
 |.store _ a _ => .chain σ.length (qct (a.ev fr))
 |.mapset _ m _ _ | .mapdel _ m _ | .copy _ m _ | .clr _ m => .chain σ.length (qct (m.ev fr))
 |.append _ _ s _ | .appendO _ _ s _ | .appendT _ _ _ s _ | .ustr _ s _ | .cut _ s _ _ => .chain σ.length (qct (s.ev fr))
 |.call f xs => .chain σ.length (qgf (evs fr xs)++reach (qlN f (evs fr xs) σ).2 100000 (qav (qlN f (evs fr xs) σ).1) [])
 |.invoke tbl x xs=>match x.ev fr with
  |some (.iface t v)=>match tbl.lookup t with
   |some g => .chain σ.length (v.locs++qgf (evs fr xs)++reach (qlN g ((evs fr xs).map (v :: ·)) σ).2 100000 (qav (qlN g ((evs fr xs).map (v :: ·)) σ).1) [])
   |none => .pure
  |_ => .pure
 |.callv f xs=>match f.ev fr with
  |some (.fn f a b) => .chain σ.length (qgf (evs fr xs)++reach (qlN f (evs fr xs) σ).2 100000 (qav a++(qav (qlN f (evs fr xs) σ).1++qav b)) [])
  |some (.bm g v) => .chain σ.length (v.locs++qgf (evs fr xs)++reach (qlN g ((evs fr xs).map (v :: ·)) σ).2 100000 (qav (qlN g ((evs fr xs).map (v :: ·)) σ).1) [])
  |some (.yld l) => .chain σ.length (reach σ 100000 (l::qgf (evs fr xs)) [])
  |_ => .pure
 |_ => .pure
def O.chain:O->Bool
 |.alloc _ | .boxT _ _ | .box _ | .store .. | .append .. | .appendO .. | .appendT .. | .up _ | .down _ _ | .ustr .. | .bstr _ | .cut .. | .mkmap | .mkmapH _ | .appendZ .. | .mapdel .. | .copy .. | .clr .. | .mrange _ | .mnext _ | .slice3 .. | .mkslice .. | .bsliceO .. | .mapset .. | .call .. | .callv .. | .invoke .. => true
 |_=>false
def O.reads:O->Bool
 |.load .. | .lookup .. | .len .. | .fill .. => true
 |_=>false
def O.isFill:O->Bool
 |.fill _=>true
 |_=>false
def qbs(C:Task->Option Res):List I->Fr->S->Option (List Ev × Fr × S)
 |[],fr,σ => some ([],fr,σ)
 |i::r,fr,σ => match qaE fr i.guard with
  |some true=>match qan C fr σ i.op with
   |some (v,σ')=>match qbs C r (fr.put i.dst v) σ' with
    |some (l,fr',σ'')=>some (qbM fr σ i.op::l,fr',σ'')
    |none=>none
   |none=>none
  |some false=>match qbs C r (fr.put i.dst (.dat (.lit undef))) σ with
   |some (l,fr',σ'')=>some (.pure::l,fr',σ'')
   |none=>none
  |none=>none
def qbe(C:Task->Option Res):Nat->List I->Fr->S->Option (Nat × List Ev × V × S)
 |_,[],_,_=>none
 |k,i::r,fr,σ => match qaE fr i.guard with
  |some true=>match qan C fr σ i.op with
   |some (v,σ')=>match qbe C (k+1) r (fr.put i.dst v) σ' with
    |some (p,l,u,σ'')=>some (p,qbM fr σ i.op::l,u,σ'')
    |none=>none
   |none=>match qa3 C fr σ i.op with
    |some (v,σ')=>some (k,[],v,σ')
    |none=>none
  |some false=>match qbe C (k+1) r (fr.put i.dst (.dat (.lit undef))) σ with
   |some (p,l,u,σ'')=>some (p,.pure::l,u,σ'')
   |none=>none
  |none=>none
def qgg:List D->Bool
 |[.agg []]=>true
 |_=>false
def qa7:List (Nat × List D)->S
 |[]=>[]
 | (_,z)::r=>(if qgg z then .map [] else .cells (z.map .dat))::qa7 r
def qaH:Nat->List (Nat × List D)->Fr->Fr
 |_,[],fr=>fr
 |l,(k,z)::r,fr=>qaH (l+1) r ((k,if qgg z then .mp l else .ptr l 0)::fr)
def qgh(es:List Ev)(l j:Nat):List Nat->Bool
 |[]=>true
 |i::r=>(match es[i]? with
  |some (.chain n T) => !T.contains l&&(decide (j<=i)||decide (l<n))
  |_=>true)&&qgh es l j r
def qlO(es:List Ev):List I->Nat->List Ev->Bool
 |i::is,j,e::r=>(match e with | .read l=>qgh es l j i.un|_=>true)&&qlO es is (j+1) r
 |_,_,_=>true
def qdB(C:Task->Option Res):List I->Fr->S->Option (List (Fr × S))
 |[],fr,σ => some [(fr,σ)]
 |i::r,fr,σ => match qaE fr i.guard with
  |some true=>match qan C fr σ i.op with
   |some (v,σ')=>match qdB C r (fr.put i.dst v) σ' with
    |some l=>some ((fr,σ)::l)
    |none=>none
   |none=>none
  |some false=>match qdB C r (fr.put i.dst (.dat (.lit undef))) σ with
   |some l=>some ((fr,σ)::l)
   |none=>none
  |none=>none
def V.same:V->V->Bool
 |.own l n sz,.own l' n' sz'=>l==l'&&(n==n'&&sz==sz')
 |.dat (.lit (.int k a)),.dat (.lit (.int k' b))=>decide (k=k')&&eqI a b
 |.dat (.lit (.slice none 0 0)),.dat (.lit (.slice none 0 0))=>true
 |.ptr l o,.ptr l' o'=>l==l'&&o==o'
 |.mp l,.mp l'=>l==l'
 |_,_=>false
def still(ss:List (Fr × S))(agg:Bool)(n:Nat)(p:V):List Nat->Bool
 |[]=>true
 |i::r=>(match ss[i]?,ss[i+1]? with
  |some a,some b=>match qbO a.2 agg n p,qbO b.2 agg n p with
   |some u,some v=>u.same v
   |_,_=>false
  |_,_=>true)&&still ss agg n p r
def qmO(ss:List (Fr × S))(i:I)(j:Nat):Bool:=match i.op,ss[j]? with
 |.load agg n x,some s=>match x.ev s.1 with
  |some p=>still ss agg n p i.un
  |none=>false
 |_,_=>false
def qi8(es:List Ev)(ss:List (Fr × S)):List I->Nat->List Ev->Bool
 |i::is,j,e::r=>(match e with | .read l=>qgh es l j i.un||qmO ss i j|_=>true)&&qi8 es ss is (j+1) r
 |_,_,_=>true
def Ex.isPan:Ex->Bool
 |.pan _=>true
 |_=>false
def run(C:Task->Option Res)(k:Nat):PC->Fr->S->Option (Ex × Fr × S)
 |.skip,fr,σ => some (.normal,fr,σ)
 |.region none ops keep _,fr,σ => match qcT C ops fr σ with
  |some (fr',σ')=>some (.normal,fr'.keep keep,σ')
  |none=>match qbA C ops fr σ with
   |some (v,fr',σ')=>some (.pan v,fr',σ')
   |none=>none
 |.region (some rs) ops keep lasts,fr,σ => match qbs C ops (qaH σ.length rs fr) (σ ++ qa7 rs) with
  |some (es,fr',σ')=>if qlO es ops 0 es then some (.normal,fr'.keep keep,σ') else (match qdB C ops (qaH σ.length rs fr) (σ ++ qa7 rs) with
   |some ss=>if qi8 es ss ops 0 es then some (.normal,fr'.keep keep,σ') else none
   |none=>none)
  |none=>match qbe C 0 ops (qaH σ.length rs fr) (σ ++ qa7 rs) with
   |some (p,es,v,σ')=>if lasts.contains p&&qlO es (ops.take p) 0 es then some (.pan v,fr.keep [dkey],σ') else none
   |none=>none
 |.seq a b,fr,σ => match run C k a fr σ with
  |some (.normal,fr',σ')=>run C k b fr' σ'
  |r=>r
 |.cond c a b,fr,σ => match c.ev fr with
  |some (.dat (.lit (.bool true)))=>run C k a fr σ
  |some (.dat (.lit (.bool false)))=>run C k b fr σ
  |_=>none
 |.block id b,fr,σ => match run C k b fr σ with
  |some (.exit id',fr',σ')=>if id'=id then some (.normal,fr',σ') else some (.exit id',fr',σ')
  |r=>r
 |.loop b,fr,σ => match C (.loop k b fr σ) with
  |some (.out e fr' σ')=>some (e,fr',σ')
  |_=>none
 |.exit id,fr,σ => some (.exit id,fr,σ)
 |.ret,fr,σ => some (.ret,fr,σ)
 |.range f ps assign body,fr,σ => match f.ev fr with
  |some (.fn id a b)=>match (if (qa9 fr).all (fun l=>decide (l < σ.length)) then qaW C (.call id) (a++(.yld σ.length::b)) (σ ++ [.loop ⟨fr.noD,ps,assign,body,0,none⟩]) else none) with
   |some (_,σ')=>match σ'[σ.length]? with
    |some (.loop lp)=>if lp.st=1\/lp.pend.any Ex.isPan=true then none else some (lp.pend.getD .normal,fr,σ'.set σ.length (.loop { lp with st:=3 }))
    |_=>none
   |none=>none
  |_=>none
def qaV:Nat->List V->Fr
 |_,[]=>[]
 |i,v::r=>(i,v)::qaV (i+1) r
def qoe(fr:Fr)(σ : S):List PR->Option (List V)
 |[]=>some []
 |.tmp t::r=>match fr.get t,qoe fr σ r with
  |some v,some vs=>some (v::vs)
  |_,_=>none
 |.cell t agg n::r=>match fr.get t with
  |some p=>match qbO σ agg n p,qoe fr σ r with
   |some v,some vs=>some (v::vs)
   |_,_=>none
  |none=>none
def one:List V->V
 |[v]=>v
 |vs => .tup vs
def gcL(k:Nat)(ls:List Nat)(σ : S):List Nat:=List.range k++(reach σ 100000 (List.range k++ls) []).filter (fun l=>decide (k<=l))
def gcF(k:Nat)(fr:Fr)(σ : S):Option (Fr × S):=
 let L:=gcL k (qa9 fr) σ
 match qaF L [] σ with
 |some (_,σ')=>if inL L (qa9 fr) then some (qhT (idx L) fr,σ') else none
 |none=>none
def qdf(fr:Fr):List Nat->List V->Fr
 |p::ps,v::vs=>qdf ((p,v)::fr) ps vs
 |_,_=>fr
def PC.flat:PC->Bool
 |.seq a b | .cond _ a b=>a.flat&&b.flat
 |.block _ b | .loop b=>b.flat
 |.range .. => false
 |.region _ ops _ _=>ops.all fun i=>match i.op with | .defer _ _=>false|_=>true
 |_=>true
def Lp.ended(lp:Lp):Ex->Lp
 |.normal=>{ lp with st:=0,pend:=none }
 |e=>{ lp with st:=2,pend:=some e }
def Ex.isNormal:Ex->Bool
 |.normal=>true
 |_=>false
def qbg(C:Task->Option Res):List V->S->Option Res
 |.yld l::vs,σ => match σ[l]? with
  |some (.loop lp)=>
   if vs.length=lp.ps.length/\(lp.st=0/\(lp.assign.flat&&lp.body.flat)=true/\((qdf lp.fr lp.ps vs).get dkey).isNone=true) then
    match run C σ.length lp.assign (qdf lp.fr lp.ps vs) σ with
    |some (.normal,fr1,σ1)=>match σ1[l]? with
     |some (.loop lp1)=>if lp1.st=0/\(fr1.get dkey).isNone=true then (match run C σ.length lp.body fr1 (σ1.set l (.loop { lp1 with st:=1 })) with
      |some (.pan _,_,_)=>none
      |some (e,_,σ2)=>match σ2[l]? with
       |some (.loop lp2)=>match qaF (gcL σ.length [] (σ2.set l (.loop (lp2.ended e)))) [] (σ2.set l (.loop (lp2.ended e))) with
        |some (_,σ3)=>some (.ret (.bool e.isNormal) σ3)
        |none=>none
       |_=>none
      |none=>none) else none
     |_=>none
    |_=>none
   else none
  |_=>none
 |_,_=>none
def finishV(k:Nat)(vs:List V)(σ : S):Option Res:=
 match qaF (gcL k (qav vs) σ) vs σ with
 |some (vs',σ')=>some (.ret (one vs') σ')
 |none=>none
def qbt(pf:PFun)(k:Nat)(fr:Fr)(σ : S):Option Res:=
 match qoe fr σ pf.results with
 |some vs0=>
  if pf.noseal then finishV k vs0 σ
  else if (qcl k σ vs0).2.all (fun l => !(gcL k (qav (qcl k σ vs0).1) σ).contains l) then finishV k (qcl k σ vs0).1 σ
  else finishV k (qgd vs0) σ
 |none=>none
def V.isNilIf:V->Bool
 |.dat (.lit .nilIface)=>true
 |_=>false
def qaS(C:Task->Option Res):List V->S->Option S
 |[],σ => some σ
 |.fn id a []::r,σ => match qaW C (.dcall id) (.dat (.lit .nilIface)::a) σ with
  |some (_,σ')=>qaS C r σ'
  |none=>none
 |_,_=>none
def qdg(C:Task->Option Res)(pf:PFun)(k:Nat)(fr:Fr)(σ : S):Option Res:=
 match qaS C fr.defs σ with
 |some σ'=>qbt pf k fr σ'
 |none=>none
def qcU(C:Task->Option Res)(pf:PFun)(k:Nat)(v:V)(fr:Fr)(σ : S):Option Res:=
 match fr.defs with
 |[]=>match qaF (gcL k v.locs σ) [v] σ with
  |some ([v'],σ')=>some (.ret (.pan v') σ')
  |_=>none
 |.fn id a []::r=>if v.isNilIf then none else (match qaW C (.dcall id) (v::a) σ with
  |some (_,σ')=>match qaS C r σ' with
   |some σ''=>qbt pf k fr σ''
   |none=>none
  |none=>none)
 |_=>none
def qa0(C:Task->Option Res)(pf:PFun)(args:List V)(σ : S):Option Res:=
 if args.length=pf.np then
  match run C σ.length pf.body (qaV 0 args) σ with
  |some (.normal,fr,σ')=>if pf.df then qdg C pf σ.length fr σ' else qbt pf σ.length fr σ'
  |some (.ret,fr,σ')=>if pf.df then qdg C pf σ.length fr σ' else qbt pf σ.length fr σ'
  |some (.pan v,fr,σ')=>qcU C pf σ.length v fr σ'
  |_=>none
 else none
def qaA(C:Task->Option Res)(pf:PFun)(args:List V)(σ : S):Option Res:=
 match args with
 |pv::args=>
  if args.length=pf.np/\pf.df=false/\pf.results.isEmpty=true/\pf.body.flat=true/\(pf.catches=true\/pv.isNilIf=true) then
   match run C σ.length pf.body ((qhU,pv)::qaV 0 args) σ with
   |some (.normal,_,σ')=>match qaF (gcL σ.length [] σ') [] σ' with
    |some (_,σ'')=>some (.ret (.dat (.lit undef)) σ'')
    |none=>none
   |some (.ret,_,σ')=>match qaF (gcL σ.length [] σ') [] σ' with
    |some (_,σ'')=>some (.ret (.dat (.lit undef)) σ'')
    |none=>none
   |_=>none
  else none
 |[]=>none
def qa8(prog:Nat->Option PFun):Nat->Task->Option Res
 |0,_=>none
 |n+1,.call f args σ => match prog f with
  |some pf=>if pf.catches then none else qa0 (qa8 prog n) pf args σ
  |none=>none
 |n+1,.dcall f args σ => match prog f with
  |some pf=>qaA (qa8 prog n) pf args σ
  |none=>none
 |n+1,.loop k b fr σ => match gcF k fr σ with
  |some (fr0,σ0)=>match run (qa8 prog n) k b fr0 σ0 with
   |some (.normal,fr',σ')=>qa8 prog n (.loop k b fr' σ')
   |some (e,fr',σ')=>some (.out e fr' σ')
   |none=>none
  |none=>none
 |n+1,.round args σ => qbg (qa8 prog n) args σ
end
section
def isZ:Operand->Bool
 |.const (.int _ 0)=>true
 |_=>false
structure Ids where
 fn:FuncId->Option Nat
 ty:TypeId->Option Nat
 gl:Nat->Option (List D)
 own:Bool:=false
 df:Bool:=false
 mf:Bool:=false
 pv:TypeId->Bool:=fun _=>false
instance:CoeFun Ids (fun _=>FuncId->Option Nat):=⟨Ids.fn⟩
section
variable(P:Program)(ids:Ids)(N:Nat)
def qaz(t:TypeId):Option Bool:=
 match P.underlying t with
 |some (.struct _)=>some true
 |some (.array _ _)=>some true
 |some _=>some false
 |none=>none
def qax(t:TypeId):Option Nat:=(P.info? t).map (·.size)
def qca(t:TypeId):Option Nat:=(P.info? t).map (·.bytes)
def qa4:Value->Bool
 |.agg _=>false
 |_=>true
def qar(v:Value):List D:=v.cells.toList.map .lit
def qdd(v:Value):Bool:=v.cells.toList.all fun x=>qa4 x&&x.oneCell'
def toD:Value->D
 |.agg cs => .agg (cs.toList.map .lit)
 |v => .lit v
def qbK(t:TypeId):Option Value:=match (P.info? t).bind (·.zero) with
 |some z=>if qdd z then some z else none
 |none=>none
def kdT(t:TypeId):Option KD:=
 match P.underlying t with
 |some .bool=>some .b
 |some (.int _)=>some .i
 |some .string=>some .s
 |_=>none
def qbT(rec:TypeId->Option (List KD)):Nat->List Field->Option (List KD)
 |_,[]=>some []
 |off,f::r=>if f.offset=off/\f.name ≠ "_" then (match rec f.type with
  |some ks=>match qbT rec (off+ks.length) r with
   |some rs=>some (ks++rs)
   |none=>none
  |none=>none) else none
def qnO(t:TypeId):Option (List KD)->Option (List KD)
 |some ks=>if qax P t=some ks.length then some ks else none
 |none=>none
def qdh:Nat->TypeId->Option (List KD)
 |0,_=>none
 |d+1,t=>qnO P t (match P.underlying t with
  |some .bool=>some [.b]
  |some (.int _)=>some [.i]
  |some .string=>some [.s]
  |some (.struct fs)=>if P.stoodInHeld t then none else qbT (qdh d) 0 fs.toList
  |some (.array len e)=>(qdh d e).map (qbq len)
  |_=>none)
def cX:Operand->Option X
 |.tmp t=>if t<N then some (.t t) else none
 |.const v=>if qa4 v then some (.c v) else none
 |.global g=>(ids.gl g).map .g
 |.func f=>(ids f).map .f
def cXs:List Operand->Option (List X)
 |[]=>some []
 |x::r=>match cX ids N x,cXs r with
  |some y,some ys=>some (y::ys)
  |_,_=>none
def cOX:Option Operand->Option (Option X)
 |none=>some none
 |some x=>(cX ids N x).map some
def qe5:List Field->Option (List (Nat × Nat))
 |[]=>some []
 |f::r=>match qax P f.type,qe5 r with
  |some n,some ps=>some ((f.offset,n)::ps)
  |_,_=>none
def qgz(place:Nat->Option (Nat × Nat)):List (Nat × Operand)->Option (List (Nat × Nat × X))
 |[]=>some []
 | (i,x)::r=>match place i,cX ids N x,qgz place r with
  |some (o,n),some y,some ys=>some ((o,n,y)::ys)
  |_,_,_=>none
def methT(t:TypeId)(name:String):Option FuncId:=
 match P.info? t,P.underlying t with
 |some i,some (.pointer _)=>match i.methods.find? (·.name==name) with
  |some m=>if m.path.isEmpty then (match m.func with|some (f,true)=>some f|_=>none) else none
  |none=>none
 |_,_=>none
def qii(name:String):List Nat->List (Nat × Nat)
 |[]=>[]
 |t::r=>match ids.ty t with
  |some u=>match methT P t name with
   |some f=>match ids f with
    |some g=>(u,g)::qii name r
    |none=>qii name r
   |none=>qii name r
  |none=>qii name r
def qe6(f:FuncId):Option Bool:=match P.funcs[f]? with
 |some fn=>if fn.body.isNone/\fn.origin = "" then (if fn.name = "internal/abi.NoEscape" then some false else if fn.name = "internal/bytealg.IndexByteString" then some true else none) else none
 |none=>none
def qjz(u:TypeId):List TypeId->List (Nat × Nat)
 |[]=>[]
 |t::r=>match ids.ty t with
  |some n=>if liesAt P P.depth t (P.cellsOf t / P.cellsOf t) 0 u 1=true then (n,P.cellsOf t)::qjz u r else qjz u r
  |none=>qjz u r
def qko(c:Call):Option O:=
 match c.callee with
 |.value (.func f)=>match ids f,cXs ids N c.args.toList with
  |some g,some xs=>some (.call g xs)
  |none,some xs=>match qe6 P f,xs with
   |some false,[x]=>some (.mov x)
   |some true,[x,y]=>some (.idxb x y)
   |_,_=>none
  |_,_=>none
 |.value x=>match cX ids N x,cXs ids N c.args.toList with
  |some g,some xs=>some (.callv g xs)
  |_,_=>none
 |.invoke recv name=>match cX ids N recv,cXs ids N c.args.toList with
  |some x,some xs=>some (.invoke (qii P ids name (List.range P.types.size)) x xs)
  |_,_=>none
 |.builtin b=>match b,c.args.toList,c.argTypes.toList with
  |.len,[x],[t]=>match P.underlying t,cX ids N x with
   |some .string,some y=>some (.len .str y)
   |some (.slice _),some y=>some (.len .sl y)
   |some (.map _ _),some y=>some (.len .mp y)
   |_,_=>none
  |.min,xs,_=>(cXs ids N xs).map .min
  |.max,xs,_=>(cXs ids N xs).map .max
  |.append,[s,x],[ts,tx]=>match P.underlying ts,P.underlying tx,cX ids N s,cX ids N x with
   |some (.slice e),some (.slice _),some s',some x'=>match qax P e,qca P e,qbK P e with
    |some n,some b,some z=>if z.cells.size=n then some (if ids.own then (match ids.ty e with|some t => .appendT t n b s' x'|none => .appendO n b s' x') else .append n b s' x') else none
    |_,_,_=>none
   |some (.slice e),some .string,some s',some x'=>match qax P e,qca P e,qbK P e with
    |some n,some b,some z=>if z.cells.size=n then some (if ids.own then (match ids.ty e with|some t => .appendT t n b s' x'|none => .appendO n b s' x') else .append n b s' x') else none
    |_,_,_=>none
   |some (.slice e),some (.int _),some s',some x'=>match qax P e,qca P e,qbK P e with
    |some n,some b,some z=>if z.cells.size=n/\0<n then some (.appendZ (qar z) b s' x') else none
    |_,_,_=>none
   |_,_,_,_=>none
  |.unsafeSliceData,[x],_=>(cX ids N x).map .usd
  |.unsafeString,[x,n],[t,_]=>match P.underlying t,cX ids N x,cX ids N n with
   |some (.pointer e),some a,some b=>match ids.ty e,P.underlying e with
    |some u,some (.int .u8)=>if qax P e=some 1/\P.cellsOf e=1/\1<=P.depth then some (.ustr [u] a b) else none
    |_,_=>none
   |_,_,_=>none
  |.cap,[x],[t]=>match P.underlying t,cX ids N x with
   |some (.slice _),some a=>some (.cap0 a)
   |_,_=>none
  |.copy,[x,y],t::_=>match P.underlying t,cX ids N x,cX ids N y with
   |some (.slice e),some a,some b=>(qax P e).map fun n => .copy n a b
   |_,_,_=>none
  |.clear,[x],[t]=>match P.underlying t,cX ids N x with
   |some (.slice e),some a=>match qbK P e with
    |some z=>if 0<z.cells.size then some (.clr (qar z) a) else none
    |none=>none
   |_,_=>none
  |.delete,[m,k],t::_=>match P.underlying t,cX ids N m,cX ids N k with
   |some (.map kt _),some a,some b=>(kdT P kt).map fun kd => .mapdel kd a b
   |_,_,_=>none
  |_,_,_=>none
def qb7:Op->Option O
 |.move x=>(cX ids N x).map .mov
 |.assign x=>(cX ids N x).map .mov
 |.pick c a b=>match cX ids N c,cX ids N a,cX ids N b with
  |some c',some a',some b'=>some (.pick c' a' b')
  |_,_,_=>none
 |.alloc t=>(qbK P t).map fun z => .alloc (qar z)
 |.box t x=>match ids.own,ids.ty t with
  |true,some u=>(cX ids N x).map (.boxT u)
  |_,_=>(cX ids N x).map .box
 |.build t parts=>match P.underlying t,qbK P t with
  |some (.struct fields),some z=>match qe5 P fields.toList with
   |some ps=>(qgz ids N (fun i=>ps[i]?) parts.toList).map (.build (qar z))
   |none=>none
  |some (.array _ e),some z=>match qax P e with
   |some n=>(qgz ids N (fun i=>some (i*n,n)) parts.toList).map (.build (qar z))
   |none=>none
  |_,_=>none
 |.buildSlice t len parts=>match P.underlying t with
  |some (.slice e)=>match qax P e,qbK P e with
   |some n,some z=>if len*n<=2 ^ 24/\z.cells.size=n/\0<n then (qgz ids N (fun i=>some (i*n,n)) parts.toList).map (fun ps=>if ids.own&&len==1 && !ids.mf then .bsliceO len n (qbq len (qar z)) ps else .bslice len (qbq len (qar z)) ps) else none
   |_,_=>none
  |_=>none
 |.load t a=>match qaz P t,qax P t,cX ids N a with
  |some true,some n,some x=>some (.load true n x)
  |some false,_,some x=>some (.load false 1 x)
  |_,_,_=>none
 |.store t a v=>match qax P t,cX ids N a,cX ids N v with
  |some n,some x,some y=>some (.store n x y)
  |_,_,_=>none
 |.nilCheck x=>(cX ids N x).map .nilchk
 |.binOp op t x y _=>match op,P.underlying t,y with
  |.eql,some (.interface _),.const .nilIface=>(cX ids N x).map (.isnil false false)
  |.neq,some (.interface _),.const .nilIface=>(cX ids N x).map (.isnil false true)
  |.eql,some (.pointer _),.const (.pointer none)=>(cX ids N x).map (.isnil true false)
  |.neq,some (.pointer _),.const (.pointer none)=>(cX ids N x).map (.isnil true true)
  |.eql,some (.slice _),.const (.slice none 0 0)=>(cX ids N x).map (.isnils false)
  |.neq,some (.slice _),.const (.slice none 0 0)=>(cX ids N x).map (.isnils true)
  |_,_,_=>match cX ids N x,cX ids N y with
   |some a,some b=>match op,P.underlying t with
    |.eql,some .bool=>some (.eqb false a b)
    |.neq,some .bool=>some (.eqb true a b)
    |.eql,some (.struct _)=>(qdh P 20 t).map fun ks => .eqa false ks a b
    |.neq,some (.struct _)=>(qdh P 20 t).map fun ks => .eqa true ks a b
    |.eql,some (.array _ _)=>(qdh P 20 t).map fun ks => .eqa false ks a b
    |.neq,some (.array _ _)=>(qdh P 20 t).map fun ks => .eqa true ks a b
    |.eql,some (.pointer e)=>if qax P e=none\/qax P e=some 0 then none else some (.peq false a b)
    |.neq,some (.pointer e)=>if qax P e=none\/qax P e=some 0 then none else some (.peq true a b)
    |_,_=>some (.bin op a b)
   |_,_=>none
 |.unOp op _ x=>(cX ids N x).map (.un op)
 |.convert src dst x=>match P.underlying src,P.underlying dst,cX ids N x with
  |some _,some (.int k),some y=>some (.conv (.int k) y)
  |some (.int _),some .string,some y=>some (.conv .intStr y)
  |some .string,some .string,some y=>some (.conv .strStr y)
  |some .string,some (.slice e),some y=>match P.underlying e,qca P e with
   |some (.int .u8),some 1=>some (.bytes y)
   |_,_=>none
  |some (.slice e),some .string,some y=>match P.underlying e with
   |some (.int .u8)=>some (.bstr y)
   |_=>none
  |some (.pointer e),some .unsafePointer,some y=>if qax P e=none\/qax P e=some 0 then none else some (.up y)
  |some .unsafePointer,some (.pointer e),some y=>if qax P e=none\/qax P e=some 0 then none else some (.down (qjz P ids e (List.range P.types.size)) y)
  |_,_,_=>none
 |.fieldAddr s x f=>match P.underlying s,cX ids N x with
  |some (.struct fields),some y=>match fields[f]? with
   |some fd=>if qax P fd.type=some 0 then none else (qax P fd.type).map fun _ => .fieldAddr fd.offset y
   |none=>none
  |_,_=>none
 |.field t x f=>match P.underlying t,cX ids N x with
  |some (.struct fields),some y=>match fields[f]? with
   |some fd=>match qaz P fd.type,qax P fd.type with
    |some true,some n=>some (.field true fd.offset n y)
    |some false,_=>some (.field false fd.offset 1 y)
    |_,_=>none
   |none=>none
  |_,_=>none
 |.indexAddr t x i=>match P.underlying t,cX ids N x,cX ids N i with
  |some (.slice e),some y,some j=>(qax P e).map fun n => .indexAddr n y j
  |some (.array len e),some y,some j=>(qax P e).map fun n => .indexAddrA len n y j
  |_,_,_=>none
 |.index t x i=>match P.underlying t,cX ids N x,cX ids N i with
  |some (.array len e),some y,some j=>match qaz P e,qax P e with
   |some true,some n=>some (.indexA true len n y j)
   |some false,some n=>if n=1 then some (.indexA false len 1 y j) else none
   |_,_=>none
  |some .string,some y,some j=>some (.indexS y j)
  |_,_,_=>none
 |.slice t x lo hi mx=>match mx,P.underlying t,cX ids N x,cOX ids N lo,cOX ids N hi with
  |none,some (.slice e),some y,some l,some h=>(qax P e).map fun n=>if ids.own then .cut n y (if ids.pv e&&(l.isNone&&h.isSome) then some (.c (.int .i64 0)) else l) h else .slice n y l h
  |none,some .string,some y,some l,some h=>some (.sliceS y l h)
  |none,some (.array len e),some y,some l,some h=>(qax P e).map fun n => .sliceA len n y l h
  |some m,some (.slice e),some y,some l,some h=>match qax P e,cX ids N m with
   |some n,some z=>some (.slice3 n y l h z)
   |_,_=>none
  |_,_,_,_,_=>none
 |.makeInterface t x=>match P.underlying t with
  |some (.interface _)=>none
  |some _=>match ids.ty t with
   |some u=>(cX ids N x).map (.mkif u)
   |none=>none
  |none=>none
 |.makeSlice t x y=>match P.underlying t,cX ids N x,cX ids N y with
  |some (.slice e),some x',some y'=>match qax P e,qbK P e,qca P e with
   |some n,some z,some b=>if z.cells.size=n/\0<n then some (.mkslice (ids.own&&isZ x) (qar z) b x' y') else none
   |_,_,_=>none
  |_,_,_=>none
 |.makeMap t r=>match r,P.underlying t with
  |none,some _=>some .mkmap
  |some h,some (.map _ _)=>(cX ids N h).map .mkmapH
  |_,_=>none
 |.range t x=>match P.underlying t with
  |some (.map _ _)=>(cX ids N x).map .mrange
  |_=>none
 |.next x false=>(cX ids N x).map .mnext
 |.mapUpdate t m k x=>match P.underlying t,cX ids N m,cX ids N k,cX ids N x with
  |some (.map kt _),some a,some b,some c=>(kdT P kt).map fun kd => .mapset kd a b c
  |_,_,_,_=>none
 |.insert t m k x=>match P.underlying t,cX ids N m,cX ids N k,cX ids N x with
  |some (.map kt _),some a,some b,some c=>(kdT P kt).map fun kd => .mapset kd a b c
  |_,_,_,_=>none
 |.lookup t m k ok=>match P.underlying t,cX ids N m,cX ids N k with
  |some (.map kt e),some a,some b=>match kdT P kt,qbK P e with
   |some kd,some z=>some (.lookup kd (toD z) a b ok)
   |_,_=>none
  |_,_,_=>none
 |.makeFunc (.func f) a b=>match ids f,cXs ids N a.toList,cXs ids N b.toList with
  |some g,some as,some bs=>some (.mkfn g as bs)
  |_,_,_=>none
 |.makeFunc (.method name) a b=>match a.toList,b.toList with
  |[x],[]=>(cX ids N x).map (.mkmeth (qii P ids name (List.range P.types.size)))
  |_,_=>none
 |.extract x i=>(cX ids N x).map fun y => .extract y i
 |.call c=>qko P ids N c
 |.panic x=>(cX ids N x).map .panic
 |_=>none
def cOp(q:Op):Option O:=match qb7 P ids N q with
 |some x=>some x
 |none=>some .bad
def qvr(draw:Bool)(o:Oper):Option O:=
 match draw,o.op,o.dst,o.guard with
 |true,.alloc _,some d,none=>some (.fill (N+d))
 |true,.alloc _,_,_=>none
 |true,.makeMap t none,some d,g=>if ids.mf then (match g with|none=>some (.fill (N+d)) | some _=>none) else cOp P ids N (.makeMap t none)
 |_,op,_,_=>cOp P ids N op
def qaQ(mf:Bool):List Oper->Option (List (Nat × List D))
 |[]=>some []
 |o::r=>match o.op,o.dst with
  |.alloc t,some d=>match qbK P t,qaQ mf r with
   |some z,some rs=>some ((N+d,qar z)::rs)
   |_,_=>none
  |.makeMap _ none,some d=>if mf then (match qaQ mf r with
   |some rs=>some ((N+d,[.agg []])::rs)
   |none=>none) else qaQ mf r
  |_,_=>qaQ mf r
def qu5(N:Nat):Option Nat->Bool
 |some d=>decide (d<N)
 |none=>true
def qjA(o:Oper):Option I:=
 match o.op,o.dst,o.guard with
 |.defer c,none,none=>match c.callee with
  |.value x=>match cX ids N x,cXs ids N c.args.toList with
   |some f,some xs=>if ids.df then some ⟨some dkey,.defer f xs,none,[]⟩ else none
   |_,_=>none
  |_=>none
 |_,_,_=>none
def cI(draw:Bool)(ops:Array Oper)(un:Nat->List Nat)(j:Nat)(o:Oper):Option I:=
 match qvr P ids N draw o with
 |some op=>
  if qu5 N o.dst then
   match o.guard with
   |none=>some ⟨o.dst,op,none,if op.reads then un j else []⟩
   |some (i,want)=>match (ops[i]?).bind (·.dst) with
    |some d=>if d<N then some ⟨o.dst,op,some (d,want),if op.reads then un j else []⟩ else none
    |none=>none
  else none
 |none=>none
def cIs(draw:Bool)(ops:Array Oper)(un:Nat->List Nat):Nat->List Oper->Option (List I)
 |_,[]=>some []
 |j,o::r=>match (match draw,qjA ids N o with|false,some i=>some i|_,_=>cI P ids N draw ops un j o),cIs draw ops un (j+1) r with
  |some i,some is=>some (i::is)
  |_,_=>none
def qvY(acc:List (List Nat))(o:Oper):List Nat:=
 o.after.toList.foldl (fun s e=>if Region.binds .any e then e.on::((acc.getD e.on [])++s) else s) []
def qv9:List Oper->List (List Nat)->List (List Nat)
 |[],acc=>acc
 |o::r,acc=>qv9 r (acc++[(qvY acc o).eraseDups])
def anc(as:List (List Nat))(i j:Nat):Bool:=(as.getD j []).contains i
def qrm:Op->Bool
 |.box .. | .store .. | .makeMap .. | .mapUpdate .. | .insert .. => true
 |.call { callee := .builtin .append,.. }=>true
 |.call { callee := .builtin .copy,.. }=>true
 |.call { callee := .builtin .clear,.. }=>true
 |.call { callee := .builtin .delete,.. }=>true
 |.call { callee := .builtin _,.. }=>false
 |.call _=>true
 |.range .. | .next .. => true
 |_=>false
def qu6(ops:Array Oper):List Nat:=(List.range ops.size).filter fun i=>match ops[i]? with|some o=>qrm o.op|none=>false
def qwi(ops:Array Oper)(cs:List Nat)(as:List (List Nat))(j:Nat):List Nat:=
 cs.filter fun i => !anc as j i&&(!anc as i j||(match ops[j]? with|some { op := .alloc _,.. }=>true|some { op := .makeMap ..,.. }=>true|_=>false))
def qhv(ops:Array Oper)(is:List I)(as:List (List Nat)):Bool:=
 (List.range ops.size).all fun j=>match ops[j]?,is[j]? with
  |some o,some i=>
   (as.getD j []).all (fun k=>decide (k<j)) &&
   ((o.after.toList.all fun e => !Region.binds .any e||((as.getD j []).contains e.on&&(as.getD e.on []).all fun k=>(as.getD j []).contains k)) &&
   (((as.getD j []).all fun k=>o.after.toList.any fun e=>Region.binds .any e&&(e.on==k||(as.getD e.on []).contains k)) &&
   (List.range ops.size).all fun k=>k==j||(match is[k]? with
    |none=>false
    |some i'=>
     (match i'.dst with|none=>true|some d=>((!i.looks.contains d)||(anc as k j||anc as j k))&&i.dst != some d) &&
     ((!(i.op.chain&&i'.op.chain)||(anc as k j||anc as j k)) &&
     ((!(i.op.reads&&i'.op.chain)||(anc as k j||(anc as j k||i.un.contains k))) &&
     (!(i.op.isFill&&i'.op.chain)||(anc as j k||i.un.contains k)))))))
  |_,_=>false
def qpJ:Op->Bool
 |.call { callee := .builtin _,.. }=>false
 |.call _=>true
 |_=>false
def qgA(ops:Array Oper)(as:List (List Nat)):List Nat:=(List.range ops.size).filter fun p=>(match ops[p]? with|some o=>qpJ o.op|none=>false)&&(List.range ops.size).all fun i=>decide (i<=p)||(as.getD i []).contains p
def qoO(ops:Array Oper)(as:List (List Nat))(cs:List Nat):Option (List (Nat × List D) × List I):=
 match qaQ P N ids.mf ops.toList,cIs P ids N true ops (qwi ops cs as) 0 ops.toList with
 |some rs,some is=>if qhv ops is as then some (rs,is) else none
 |_,_=>none
variable(K:Nat->List Nat)
def qjB(id:Nat):List Nat:=if ids.df then dkey::K id else K id
def comp:Code->Option PC
 |.skip=>some .skip
 |.region id ops false=>(cIs P ids N false ops (fun _=>[]) 0 ops.toList).map fun is => .region none is (qjB ids K id)
 |.region id ops true=>
  let as:=qv9 ops.toList []
  let cs:=qu6 ops
  match qoO P ids N ops as cs with
  |some (rs,is)=>some (.region (some rs) is (qjB ids K id) (qgA ops as))
  |none=>match qoO P { ids with mf:=true } N ops as cs with
   |some (rs,is)=>some (.region (some rs) is (qjB ids K id) (qgA ops as))
   |none=>none
 |.seq a b=>match comp a,comp b with
  |some x,some y=>some (.seq x y)
  |_,_=>none
 |.cond c a b=>match cX ids N c,comp a,comp b with
  |some z,some x,some y=>some (.cond z x y)
  |_,_,_=>none
 |.block id b=>(comp b).map (.block id)
 |.loop b=>(comp b).map .loop
 |.exit id=>some (.exit id)
 |.ret=>some .ret
 |.rangeFunc f ps a b=>match cX ids N f,comp a,comp b with
  |some x,some p,some q=>if (ps.toList.all fun t=>decide (t<N))=true then some (.range x ps.toList p q) else none
  |_,_,_=>none
 |_=>some (.cond (.c .nilIface) .skip .skip)
def qik(rs:List ResultVar):Option (List PR):=
 match rs with
 |[]=>some []
 |.tmp t::r=>if t<N then (qik r).map (.tmp t :: ·) else none
 |.cell a t::r=>if a<N then (match qaz P t,qax P t,qik r with
  |some true,some n,some ps=>some (.cell a true n::ps)
  |some false,_,some ps=>some (.cell a false 1::ps)
  |_,_,_=>none) else none
def qnP:List I->Bool
 |[⟨_,.isnil false _ _,none,_⟩]=>true
 |_=>false
def ql6(own df:Bool)(catches:Bool)(N:Nat)(c:Code):Option PC:=
 match catches,c with
 |true,.seq (.region id ops false) rest=>match ops.toList with
  |o::os=>match o.op,o.dst,o.guard,cIs P { ids with own:=own,df:=df } N false ops (fun _=>[]) 1 os,comp P { ids with own:=own,df:=df } N K rest with
   |.call { callee := .builtin .recover,.. },some d,none,some is,some r=>
    if d<N/\qnP is=true then some (.seq (.region none (⟨some d,.recov,none,[]⟩::is) (K id)) r) else none
   |_,_,_,_,_=>none
  |[]=>none
 |true,_=>none
 |false,c=>comp P { ids with own:=own,df:=df } N K c
def compF(noseal own df catches:Bool)(fn:Func):Option PFun:=
 match fn.body with
 |some c=>match ql6 P ids K own df catches fn.ntmps c,qik P fn.ntmps fn.results.toList with
  |some body,some rs=>if fn.params.size+fn.nfree<=fn.ntmps/\2*fn.ntmps<=dkey/\fn.name ≠ "runtime.NumGoroutine" /\ (catches=true->df=false) then some ⟨fn.params.size+fn.nfree,rs,body,noseal,df,catches⟩ else none
  |_,_=>none
 |none=>none
end
end
section
def Row(F:Nat->Nat)(w:World)(b o:Nat)(vs:List Value):Prop:=
 (∀ i v,vs[i]?=some v->w.cell? ⟨b,o+i,none⟩=some v)/\(0<vs.length->o+vs.length<=F b) /\ ∀ v∈vs,v.oneCell'=true
mutual
def RepD(F:Nat->Nat)(w:World):D->Value->Prop
 |.lit v,x=>x=v/\qa4 v=true
 |.sl cs n full,x => ∃ b o cap vs,x = .slice (some ⟨b,o,none⟩) n cap/\n<=cap/\(full=true->cap=n)/\RepDs F w cs vs/\Row F w b o vs
 |.imm cs o,x => ∃ b o' vs,x = .pointer (some ⟨b,o'+o,none⟩)/\RepDs F w cs vs/\Row F w b o' vs
 |.agg cs,x => ∃ vs,x = .agg vs.toArray/\RepDs F w cs vs
 |.iface _ _,_=>False
def RepDs(F:Nat->Nat)(w:World):List D->List Value->Prop
 |[],vs=>vs=[]
 |d::ds,vs => ∃ x xs,vs=x::xs/\RepD F w d x/\RepDs F w ds xs
end
def Ob.isTip:Ob->Bool
 |.tip _ | .vec _ | .vecT _ _ | .froz _ | .dead=>true
 |_=>false
def Ob.fz:Ob->Nat
 |.froz ds=>ds.length
 |_=>0
structure Ctx where
 σ : S
 μ : Nat->Option Nat
 F:Nat->Nat
 w:World
structure Fid where
 fn:Nat->FuncId
 cr:Nat->Code->PC->Prop
 ty:Nat->TypeId
 mt:Nat->TypeId->String->Prop
 gl:Nat->Option (List D)
instance:CoeFun Fid (fun _=>Nat->FuncId):=⟨Fid.fn⟩
def Ctx.fix(Γ : Ctx)(l:Nat):Prop := ∃ ob,Γ.σ[l]?=some ob/\ob.isTip=false
mutual
def Rep(fid:Fid)(Γ : Ctx):V->Value->Prop
 |.dat d,x=>RepD Γ.F Γ.w d x
 |.ptr l o,x => ∃ b,Γ.μ l=some b/\x = .pointer (some ⟨b,o,none⟩) /\ Γ.fix l
 | .gsl cs n sz l,x => ∃ b cap vs m,x = .slice (some ⟨b,0,none⟩) n cap/\n<=cap/\RepDs Γ.F Γ.w cs vs/\Row Γ.F Γ.w b 0 vs/\cs≠[] /\
   Γ.σ[l]?=some (.tip m)/\(Γ.μ l).isSome=true/\cs.length<=m /\
   (cs.length=m -> Γ.μ l=some b /\ ∃ arr e,Γ.w.heap[b]?=some (.cells arr e (0,0))/\cap*sz<=arr.size)
 |.msl l o n cap _,x => ∃ b,Γ.μ l=some b/\x = .slice (some ⟨b,o,none⟩) n cap/\n<=cap /\ Γ.fix l
 | .own l n sz,x => ∃ a cap,x = .slice (some a) n cap/\n<=cap/\0<sz/\(∃ ob,Γ.σ[l]?=some ob/\ob.isTip=true) /\ ∀ ob cs,Γ.σ[l]?=some ob->ob.rows=some cs->n*sz<=cs.length/\(cs.length=n*sz ->
   ∃ b arr e,Γ.μ l=some b/\a=⟨b,Γ.F b-ob.fz,none⟩ /\ Γ.w.heap[b]?=some (.cells arr e (0,0)) /\ Γ.F b-ob.fz+cap*sz<=arr.size)
 | .eptr l n o,x => ∃ a,x = .pointer (some a)/\(∃ ob,Γ.σ[l]?=some ob/\ob.isTip=true) /\ ∀ ob cs,Γ.σ[l]?=some ob->ob.rows=some cs->n<=cs.length/\(cs.length=n ->
   ∃ b arr e,Γ.μ l=some b/\a=⟨b,Γ.F b-ob.fz+o,none⟩ /\ Γ.w.heap[b]?=some (.cells arr e (0,0)) /\ Γ.F b-ob.fz+n<=arr.size)
 | .vw l n o k sz,x => ∃ a cap,x = .slice (some a) k cap/\k<=cap/\0<sz/\(∃ ob,Γ.σ[l]?=some ob/\ob.isTip=true) /\ ∀ ob cs,Γ.σ[l]?=some ob->ob.rows=some cs->n<=cs.length/\(cs.length=n ->
   ∃ b arr e,Γ.μ l=some b/\(0<cap->a=⟨b,Γ.F b-ob.fz+o,none⟩) /\ Γ.w.heap[b]?=some (.cells arr e (0,0))/\o+k*sz<=n /\ Γ.F b-ob.fz+n<=arr.size /\ Γ.F b-ob.fz+(o+cap*sz)<=arr.size)
 |.rw cs n,x => ∃ b o cap vs,x = .slice (some ⟨b,o,none⟩) n cap/\n<=cap/\Reps fid Γ cs vs/\Row Γ.F Γ.w b o vs
 |.bm g v,x => ∃ t nm y,x = .func (.method nm) #[.iface t y] #[]/\fid.mt g t nm/\Rep fid Γ v y
 |.agg cs,x => ∃ vs,x = .agg vs.toArray/\Reps fid Γ cs vs
 |.fn f a b,x => ∃ as bs,x = .func (.func (fid f)) as.toArray bs.toArray/\Reps fid Γ a as/\Reps fid Γ b bs
 |.mp l,x => ∃ b,Γ.μ l=some b/\x = .map (some b) /\ Γ.fix l
 |.iface t v,x => ∃ y,x = .iface (fid.ty t) y/\Rep fid Γ v y
 |.tup vs,x => ∃ xs,x = .tuple xs.toArray/\Reps fid Γ vs xs
 |.yld l,x => ∃ b,Γ.μ l=some b/\x = .func (.yield b) #[] #[] /\ Γ.fix l
 |.pan _,_=>False
def Reps(fid:Fid)(Γ : Ctx):List V->List Value->Prop
 |[],vs=>vs=[]
 |d::ds,vs => ∃ x xs,vs=x::xs/\Rep fid Γ d x/\Reps fid Γ ds xs
end
def RepE(fid:Fid)(Γ : Ctx):List (Value × V)->List MapEntry->Prop
 |[],es=>es=[]
 | (k,v)::r,es => ∃ e es',es=e::es'/\e.key=k/\Rep fid Γ v e.val/\RepE fid Γ r es'
def FrRep(fid:Fid)(Γ : Ctx)(N:Nat)(fr:Fr)(tmps:Array Value):Prop:=
 tmps.size=N /\ ∀ t v,t<N->fr.get t=some v->Rep fid Γ v (tmps.getD t undef)
def Ex.code:Ex->Code
 |.normal => .skip
 |.exit id => .exit id
 |.ret => .ret
 |.pan _ => .skip
def qto:Nat->LoopState
 |0 => .ready
 |1 => .busy
 |2 => .done
 |_ => .exhausted
def RepOb(fid:Fid)(Γ : Ctx)(b:Nat):Ob->Prop
 |.cells cs => Γ.F b=0 /\ ∃ arr e,Γ.w.heap[b]?=some (.cells arr e (0,0))/\Reps fid Γ cs arr.toList
 |.map es => Γ.F b=0 /\ ∃ ents clock,Γ.w.heap[b]?=some (.map ents clock)/\RepE fid Γ es ents.toList
 |.tip m => Γ.F b=m/\0<m
 |.vec cs => ∃ arr e,Γ.w.heap[b]?=some (.cells arr e (0,0)) /\ Γ.F b+cs.length<=arr.size/\Reps fid Γ cs ((arr.toList.drop (Γ.F b)).take cs.length) /\ ∀ v∈(arr.toList.drop (Γ.F b)).take cs.length,v.oneCell'=true
 |.cellsT t cs => Γ.F b=0 /\ ∃ arr,Γ.w.heap[b]?=some (.cells arr (fid.ty t) (0,0))/\Reps fid Γ cs arr.toList
 |.vecT t cs => Γ.F b=0 /\ ∃ arr,Γ.w.heap[b]?=some (.cells arr (fid.ty t) (0,0))/\cs.length<=arr.size/\Reps fid Γ cs (arr.toList.take cs.length) /\ ∀ v∈arr.toList.take cs.length,v.oneCell'=true
 |.froz ds=>ds.length <= Γ.F b /\ ∃ arr e,Γ.w.heap[b]?=some (.cells arr e (0,0)) /\ Γ.F b<=arr.size/\RepDs Γ.F Γ.w ds ((arr.toList.drop (Γ.F b-ds.length)).take ds.length) /\ ∀ v∈(arr.toList.drop (Γ.F b-ds.length)).take ds.length,v.oneCell'=true
 |.iter m => Γ.F b=0 /\ ∃ c since seen last,Γ.μ m=some c /\ Γ.fix m /\ Γ.w.heap[b]?=some (.mapIter (some c) since seen last)
 |.dead=>False
 | .loop lp => Γ.F b=0 /\ ∃ L:Loop,Γ.w.heap[b]?=some (.loop L)/\L.params.toList=lp.ps/\L.state=qto lp.st/\L.pending=lp.pend.map Ex.code /\
   ∃ N,fid.cr N L.assign lp.assign/\fid.cr N L.body lp.body/\(∀ p∈lp.ps,p<N)/\FrRep fid Γ N lp.fr L.tmps /\ ∀ l∈qa9 lp.fr,l < Γ.σ.length
structure Real(fid:Fid)(Γ : Ctx):Prop where
 obs : ∀ l ob b,Γ.σ[l]?=some ob -> Γ.μ l=some b->RepOb fid Γ b ob
 dom : ∀ l b,Γ.μ l=some b->l < Γ.σ.length/\b < Γ.w.heap.size
 inj : ∀ l l' b,Γ.μ l=some b -> Γ.μ l'=some b->l=l'
 imm : ∀ b,0 < Γ.F b -> ∃ arr e fz,Γ.w.heap[b]?=some (.cells arr e fz) /\ Γ.F b<=arr.size
 glb : ∀ g cs,fid.gl g=some cs -> ∃ vs,RepDs Γ.F Γ.w cs vs/\Row Γ.F Γ.w g 0 vs
structure Ext(Γ Γ':Ctx):Prop where
 size : Γ.w.heap.size <= Γ'.w.heap.size
 os : Γ'.w.os = Γ.w.os
 tape : Γ'.w.tape = Γ.w.tape
 output : Γ'.w.output = Γ.w.output
 mono : ∀ b,Γ.F b <= Γ'.F b
 cell : ∀ b i v,i < Γ.F b -> Γ.w.cell? ⟨b,i,none⟩=some v -> Γ'.w.cell? ⟨b,i,none⟩=some v
 arr : ∀ b arr e,0 < Γ.F b -> Γ.w.heap[b]?=some (.cells arr e (0,0)) -> ∃ arr',Γ'.w.heap[b]?=some (.cells arr' e (0,0))/\arr'.size=arr.size
 len : Γ.σ.length <= Γ'.σ.length
 fix : ∀ l ob,Γ.σ[l]?=some ob->ob.isTip=false->(∃ ob',Γ'.σ[l]?=some ob'/\ob'.isTip=false) /\ ∀ b,Γ.μ l=some b -> Γ'.μ l=some b
 tip : ∀ l m,Γ.σ[l]?=some (.tip m) -> ∃ m',Γ'.σ[l]?=some (.tip m')/\m<=m'/\((Γ.μ l).isSome=true->(Γ'.μ l).isSome=true)/\(m=m' -> ∀ b,Γ.μ l=some b -> Γ'.μ l=some b)
 row : ∀ l ob,Γ.σ[l]?=some ob->ob.isTip=true -> ∃ ob',Γ'.σ[l]?=some ob'/\ob'.isTip=true /\
  ∀ cs',ob'.rows=some cs' -> ∃ cs,ob.rows=some cs/\cs.length<=cs'.length /\
   (cs.length=cs'.length -> ∀ b,Γ.μ l=some b -> Γ'.μ l=some b /\ Γ'.F b-ob'.fz = Γ.F b-ob.fz /\ ∀ arr e,Γ.w.heap[b]?=some (.cells arr e (0,0)) -> ∃ arr',Γ'.w.heap[b]?=some (.cells arr' e (0,0))/\arr'.size=arr.size)
structure Frm(Γ Γ':Ctx):Prop where
 same : ∀ b,b < Γ.w.heap.size->(∀ l,Γ.μ l≠some b) -> Γ'.w.heap[b]? = Γ.w.heap[b]? /\ Γ'.F b = Γ.F b
 new : ∀ l b,Γ'.μ l=some b->b < Γ.w.heap.size -> ∃ l',Γ.μ l'=some b
def Non(Γ Γ':Ctx):Prop := ∀ l,l < Γ.σ.length -> Γ.μ l=none -> Γ'.μ l=none
structure Step(Γ Γ':Ctx):Prop where
 ext:Ext Γ Γ'
 frm:Frm Γ Γ'
 non:Non Γ Γ'
theorem Ext.refl(Γ : Ctx):Ext Γ Γ:=
 ⟨Nat.le_refl _,rfl,rfl,rfl,fun _=>Nat.le_refl _,fun _ _ _ _ h=>h,fun _ arr _ _ h=>⟨arr,h,rfl⟩,Nat.le_refl _,
  fun _ ob h ht=>⟨⟨ob,h,ht⟩,fun _ h=>h⟩,fun _ m h=>⟨m,h,Nat.le_refl _,fun h=>h,fun _ _ h=>h⟩,
  fun _ ob h ht=>⟨ob,h,ht,fun cs h=>⟨cs,h,Nat.le_refl _,fun _ _ hb=>⟨hb,rfl,fun arr _ ha=>⟨arr,ha,rfl⟩⟩⟩⟩⟩
theorem Ext.trans{A B C:Ctx}(h:Ext A B)(k:Ext B C):Ext A C where
 size:=Nat.le_trans h.size k.size
 os:=k.os.trans h.os
 tape:=k.tape.trans h.tape
 output:=k.output.trans h.output
 mono b:=Nat.le_trans (h.mono b) (k.mono b)
 cell b i v hi hv:=k.cell b i v (Nat.lt_of_lt_of_le hi (h.mono b)) (h.cell b i v hi hv)
 arr b arr e hb ha:=by
  obtain⟨a1,h1,s1⟩:=h.arr b arr e hb ha
  obtain⟨a2,h2,s2⟩:=k.arr b a1 e (Nat.lt_of_lt_of_le hb (h.mono b)) h1
  exact⟨a2,h2,s2.trans s1⟩
 len:=Nat.le_trans h.len k.len
 fix l ob ho ht:=by
  obtain⟨⟨o1,h1,t1⟩,m1⟩:=h.fix l ob ho ht
  obtain⟨⟨o2,h2,t2⟩,m2⟩:=k.fix l o1 h1 t1
  exact⟨⟨o2,h2,t2⟩,fun b hb=>m2 b (m1 b hb)⟩
 tip l m hm:=by
  obtain⟨m1,h1,le1,s1,e1⟩:=h.tip l m hm
  obtain⟨m2,h2,le2,s2,e2⟩:=k.tip l m1 h1
  refine⟨m2,h2,Nat.le_trans le1 le2,fun hs=>s2 (s1 hs),fun hm b hb=>?_⟩
  have:m=m1:=by omega
  subst this
  exact e2 hm b (e1 rfl b hb)
 row l ob ho ht:=by
  obtain⟨o1,h1,t1,r1⟩:=h.row l ob ho ht
  obtain⟨o2,h2,t2,r2⟩:=k.row l o1 h1 t1
  refine⟨o2,h2,t2,fun cs2 hc2=>?_⟩
  obtain⟨cs1,c1,l1,q1⟩:=r2 cs2 hc2
  obtain⟨cs,c,l2,q2⟩:=r1 cs1 c1
  refine⟨cs,c,Nat.le_trans l2 l1,fun hl b hb=>?_⟩
  obtain⟨m1,f1,a1⟩:=q2 (by omega) b hb
  obtain⟨m2,f2,a2⟩:=q1 (by omega) b m1
  refine⟨m2,f2.trans f1,fun arr e ha=>?_⟩
  obtain⟨arr1,g1,s1⟩:=a1 arr e ha
  obtain⟨arr2,g2,s2⟩:=a2 arr1 e g1
  exact⟨arr2,g2,s2.trans s1⟩
theorem Frm.refl(Γ : Ctx):Frm Γ Γ := ⟨fun _ _ _=>⟨rfl,rfl⟩,fun l _ h _=>⟨l,h⟩⟩
theorem Frm.trans{A B C:Ctx}(hs:A.w.heap.size<=B.w.heap.size)(h:Frm A B)(k:Frm B C):Frm A C where
 same b hb hn:=by
  obtain⟨h1,h2⟩:=h.same b hb hn
  have hn' : ∀ l,B.μ l≠some b:=fun l hl=>by
   obtain⟨l',hl'⟩:=h.new l b hl hb
   exact hn l' hl'
  obtain⟨k1,k2⟩:=k.same b (Nat.lt_of_lt_of_le hb hs) hn'
  exact⟨k1.trans h1,k2.trans h2⟩
 new l b hl hb:=by
  obtain⟨l',hl'⟩:=k.new l b hl (Nat.lt_of_lt_of_le hb hs)
  exact h.new l' b hl' hb
theorem Step.refl(Γ : Ctx):Step Γ Γ := ⟨.refl _,.refl _,fun _ _ h=>h⟩
theorem Step.trans{A B C:Ctx}(h:Step A B)(k:Step B C):Step A C:=⟨h.ext.trans k.ext,.trans h.ext.size h.frm k.frm,fun l hl hn=>k.non l (Nat.lt_of_lt_of_le hl h.ext.len) (h.non l hl hn)⟩
theorem Row.ext{Γ Γ':Ctx}(h:Ext Γ Γ'){b o:Nat}{vs:List Value}(hr:Row Γ.F Γ.w b o vs):Row Γ'.F Γ'.w b o vs:=by
 refine⟨fun i v hi=>?_,fun hp=>Nat.le_trans (hr.2.1 hp) (h.mono b),hr.2.2⟩
 have hlt:i<vs.length:=by
  rcases Nat.lt_or_ge i vs.length with h'|h'
  ·exact h'
  ·rw[List.getElem?_eq_none h'] at hi; cases hi
 have hp:0<vs.length:=by omega
 exact h.cell b (o+i) v (by have:=hr.2.1 hp; omega) (hr.1 i v hi)
mutual
theorem RepD.ext{Γ Γ':Ctx}(h:Ext Γ Γ') : ∀ (d:D) (x:Value),RepD Γ.F Γ.w d x->RepD Γ'.F Γ'.w d x
 |.lit v,x,hr=>by simpa only [RepD] using hr
 |.sl cs n full,x,hr=>by
  simp only[RepD] at hr ⊢
  obtain⟨b,o,cap,vs,h1,h2,h3,h4,h5⟩:=hr
  exact⟨b,o,cap,vs,h1,h2,h3,RepDs.ext h cs vs h4,h5.ext h⟩
 |.imm cs o,x,hr=>by
  simp only[RepD] at hr ⊢
  obtain⟨b,o',vs,h1,h4,h5⟩:=hr
  exact⟨b,o',vs,h1,RepDs.ext h cs vs h4,h5.ext h⟩
 |.agg cs,x,hr=>by
  simp only[RepD] at hr ⊢
  obtain⟨vs,h1,h2⟩:=hr
  exact⟨vs,h1,RepDs.ext h cs vs h2⟩
 |.iface t d,x,hr=>by simp only[RepD] at hr
theorem RepDs.ext{Γ Γ':Ctx}(h:Ext Γ Γ') : ∀ (ds:List D) (xs:List Value),RepDs Γ.F Γ.w ds xs->RepDs Γ'.F Γ'.w ds xs
 |[],xs,hr=>by simpa only [RepDs] using hr
 |d::ds,xs,hr=>by
  simp only[RepDs] at hr ⊢
  obtain⟨y,ys,h1,h2,h3⟩:=hr
  exact⟨y,ys,h1,RepD.ext h d y h2,RepDs.ext h ds ys h3⟩
end
theorem Ctx.fix.ext{Γ Γ':Ctx}(h:Ext Γ Γ'){l:Nat}(hf : Γ.fix l) : Γ'.fix l:=by
 obtain⟨ob,h1,h2⟩:=hf
 exact (h.fix l ob h1 h2).1
theorem μ_ext{Γ Γ':Ctx}(h:Ext Γ Γ'){l b:Nat}(hf : Γ.fix l)(hm : Γ.μ l=some b) : Γ'.μ l=some b:=by
 obtain⟨ob,h1,h2⟩:=hf
 exact (h.fix l ob h1 h2).2 b hm
theorem RepDs.length{F:Nat->Nat}{w:World} : ∀ {ds:List D} {xs:List Value},RepDs F w ds xs->xs.length=ds.length
 |[],xs,hr=>by simp only[RepDs] at hr; simp[hr]
 |d::ds,xs,hr=>by
  simp only[RepDs] at hr
  obtain⟨y,ys,h1,_,h3⟩:=hr
  simp[h1,RepDs.length h3]
mutual
theorem Rep.ext{fid:Fid}{Γ Γ':Ctx}(h:Ext Γ Γ') : ∀ (v:V) (x:Value),Rep fid Γ v x->Rep fid Γ' v x
 |.dat d,x,hr=>by simp only[Rep] at hr ⊢; exact RepD.ext h d x hr
 |.ptr l o,x,hr=>by
  simp only[Rep] at hr ⊢
  obtain⟨b,h1,h2,h3⟩:=hr
  exact⟨b,μ_ext h h3 h1,h2,h3.ext h⟩
 |.gsl cs n sz l,x,hr=>by
  simp only[Rep] at hr ⊢
  obtain⟨b,cap,vs,m,h1,h2,h3,h4,h5,h6,h7,h8,h9⟩:=hr
  obtain⟨m',t1,t2,t3,t4⟩:=h.tip l m h6
  refine⟨b,cap,vs,m',h1,h2,RepDs.ext h cs vs h3,h4.ext h,h5,t1,t3 h7,by omega,fun hm=>?_⟩
  have:cs.length=m:=by omega
  obtain⟨k1,arr,e,k2,k3⟩:=h9 this
  have hF:0 < Γ.F b:=by
   have hl:=RepDs.length h3
   have hp:0<vs.length:=by rw[hl]; exact List.length_pos_iff.2 h5
   have:=h4.2.1 hp; omega
  obtain⟨arr',a1,a2⟩:=h.arr b arr e hF k2
  exact⟨t4 (by omega) b k1,arr',e,a1,by omega⟩
 |.msl l o n cap sz,x,hr=>by
  simp only[Rep] at hr ⊢
  obtain⟨b,h1,h2,h3,h4⟩:=hr
  exact⟨b,μ_ext h h4 h1,h2,h3,h4.ext h⟩
 |.own l n sz,x,hr=>by
  simp only[Rep] at hr ⊢
  obtain⟨a,cap,h1,h2,hz,⟨ob,h3,h4⟩,h5⟩:=hr
  obtain⟨ob',g1,g2,g3⟩:=h.row l ob h3 h4
  refine⟨a,cap,h1,h2,hz,⟨ob',g1,g2⟩,fun ob1 cs1 k1 k2=>?_⟩
  rw[g1] at k1; cases k1
  obtain⟨cs,c1,c2,c3⟩:=g3 cs1 k2
  obtain⟨d1,d2⟩:=h5 ob cs h3 c1
  refine⟨Nat.le_trans d1 c2,fun hl=>?_⟩
  obtain⟨b,arr,e,e1,e2,e3,e4⟩:=d2 (by omega)
  obtain⟨m1,mf,m2⟩:=c3 (by omega) b e1
  obtain⟨arr',a1,a2⟩:=m2 arr e e3
  exact⟨b,arr',e,m1,by rw[mf]; exact e2,a1,by rw[mf]; omega⟩
 |.eptr l n o,x,hr=>by
  simp only[Rep] at hr ⊢
  obtain⟨a,h1,⟨ob,h3,h4⟩,h5⟩:=hr
  obtain⟨ob',g1,g2,g3⟩:=h.row l ob h3 h4
  refine⟨a,h1,⟨ob',g1,g2⟩,fun ob1 cs1 k1 k2=>?_⟩
  rw[g1] at k1; cases k1
  obtain⟨cs,c1,c2,c3⟩:=g3 cs1 k2
  obtain⟨d1,d2⟩:=h5 ob cs h3 c1
  refine⟨Nat.le_trans d1 c2,fun hl=>?_⟩
  obtain⟨b,arr,e,e1,e2,e3,e4⟩:=d2 (by omega)
  obtain⟨m1,mf,m2⟩:=c3 (by omega) b e1
  obtain⟨arr',a1,a2⟩:=m2 arr e e3
  exact⟨b,arr',e,m1,by rw[mf]; exact e2,a1,by rw[mf]; omega⟩
 |.vw l n o k sz,x,hr=>by
  simp only[Rep] at hr ⊢
  obtain⟨a,cap,h1,h2,hz,⟨ob,h3,h4⟩,h5⟩:=hr
  obtain⟨ob',g1,g2,g3⟩:=h.row l ob h3 h4
  refine⟨a,cap,h1,h2,hz,⟨ob',g1,g2⟩,fun ob1 cs1 k1 k2=>?_⟩
  rw[g1] at k1; cases k1
  obtain⟨cs,c1,c2,c3⟩:=g3 cs1 k2
  obtain⟨d1,d2⟩:=h5 ob cs h3 c1
  refine⟨Nat.le_trans d1 c2,fun hl=>?_⟩
  obtain⟨b,arr,e,e1,e2,e3,e4,e5,e6⟩:=d2 (by omega)
  obtain⟨m1,mf,m2⟩:=c3 (by omega) b e1
  obtain⟨arr',a1,a2⟩:=m2 arr e e3
  exact⟨b,arr',e,m1,by rw[mf]; exact e2,a1,e4,by rw[mf]; omega,by rw[mf]; omega⟩
 |.rw cs n,x,hr=>by
  simp only[Rep] at hr ⊢
  obtain⟨b,o,cap,vs,h1,h2,h3,h4⟩:=hr
  exact⟨b,o,cap,vs,h1,h2,Reps.ext h cs vs h3,h4.ext h⟩
 |.bm g v,x,hr=>by
  simp only[Rep] at hr ⊢
  obtain⟨t,nm,y,h1,h2,h3⟩:=hr
  exact⟨t,nm,y,h1,h2,Rep.ext h v y h3⟩
 |.agg cs,x,hr=>by
  simp only[Rep] at hr ⊢
  obtain⟨vs,h1,h2⟩:=hr
  exact⟨vs,h1,Reps.ext h cs vs h2⟩
 |.fn f a b,x,hr=>by
  simp only[Rep] at hr ⊢
  obtain⟨as,bs,h1,h2,h3⟩:=hr
  exact⟨as,bs,h1,Reps.ext h a as h2,Reps.ext h b bs h3⟩
 |.mp l,x,hr=>by
  simp only[Rep] at hr ⊢
  obtain⟨b,h1,h2,h3⟩:=hr
  exact⟨b,μ_ext h h3 h1,h2,h3.ext h⟩
 |.iface t v,x,hr=>by
  simp only[Rep] at hr ⊢
  obtain⟨y,h1,h2⟩:=hr
  exact⟨y,h1,Rep.ext h v y h2⟩
 |.tup vs,x,hr=>by
  simp only[Rep] at hr ⊢
  obtain⟨xs,h1,h2⟩:=hr
  exact⟨xs,h1,Reps.ext h vs xs h2⟩
 |.yld l,x,hr=>by
  simp only[Rep] at hr ⊢
  obtain⟨b,h1,h2,h3⟩:=hr
  exact⟨b,μ_ext h h3 h1,h2,h3.ext h⟩
 |.pan _,x,hr=>by simp only[Rep] at hr
theorem Reps.ext{fid:Fid}{Γ Γ':Ctx}(h:Ext Γ Γ') : ∀ (vs:List V) (xs:List Value),Reps fid Γ vs xs->Reps fid Γ' vs xs
 |[],xs,hr=>by simpa only [Reps] using hr
 |d::ds,xs,hr=>by
  simp only[Reps] at hr ⊢
  obtain⟨y,ys,h1,h2,h3⟩:=hr
  exact⟨y,ys,h1,Rep.ext h d y h2,Reps.ext h ds ys h3⟩
end
theorem FrRep.ext{fid:Fid}{Γ Γ':Ctx}(h:Ext Γ Γ'){N:Nat}{fr:Fr}{tmps:Array Value}(hf:FrRep fid Γ N fr tmps):FrRep fid Γ' N fr tmps:=
 ⟨hf.1,fun t v ht hv=>Rep.ext h _ _ (hf.2 t v ht hv)⟩
theorem RepE.ext{fid:Fid}{Γ Γ':Ctx}(h:Ext Γ Γ') : ∀ (es:List (Value × V)) (xs:List MapEntry),RepE fid Γ es xs->RepE fid Γ' es xs
 |[],xs,hr=>by simpa only [RepE] using hr
 | (k,v)::r,xs,hr=>by
  simp only[RepE] at hr ⊢
  obtain⟨e,es,h1,h2,h3,h4⟩:=hr
  exact⟨e,es,h1,h2,Rep.ext h v e.val h3,RepE.ext h r es h4⟩
theorem Reps.length{fid:Fid}{Γ : Ctx} : ∀ {vs:List V} {xs:List Value},Reps fid Γ vs xs->xs.length=vs.length
 |[],xs,hr=>by simp only[Reps] at hr; simp[hr]
 |d::ds,xs,hr=>by
  simp only[Reps] at hr
  obtain⟨y,ys,h1,_,h3⟩:=hr
  simp[h1,Reps.length h3]
theorem Glb.ext{fid:Fid}{Γ Γ':Ctx}(h:Ext Γ Γ')(hg : ∀ g cs,fid.gl g=some cs -> ∃ vs,RepDs Γ.F Γ.w cs vs/\Row Γ.F Γ.w g 0 vs) : ∀ g cs,fid.gl g=some cs -> ∃ vs,RepDs Γ'.F Γ'.w cs vs/\Row Γ'.F Γ'.w g 0 vs:=
 fun g cs hc=>let ⟨vs,h1,h2⟩:=hg g cs hc; ⟨vs,RepDs.ext h cs vs h1,h2.ext h⟩
theorem RepOb.ext{fid:Fid}{Γ Γ':Ctx}(h:Ext Γ Γ'){b:Nat}(hh : Γ'.w.heap[b]? = Γ.w.heap[b]?)(hF : Γ'.F b = Γ.F b) : ∀ ob,RepOb fid Γ b ob->RepOb fid Γ' b ob
 |.cells cs,hr=>by
  simp only[RepOb] at hr ⊢
  obtain⟨h1,arr,e,h2,h3⟩:=hr
  exact⟨hF.trans h1,arr,e,hh.trans h2,Reps.ext h cs _ h3⟩
 |.map es,hr=>by
  simp only[RepOb] at hr ⊢
  obtain⟨h1,arr,e,h2,h3⟩:=hr
  exact⟨hF.trans h1,arr,e,hh.trans h2,RepE.ext h es _ h3⟩
 |.tip m,hr=>by
  simp only[RepOb] at hr ⊢
  exact⟨hF.trans hr.1,hr.2⟩
 |.vec cs,hr=>by
  simp only[RepOb,hF] at hr ⊢
  obtain⟨arr,e,h2,h3,h4,h5⟩:=hr
  exact⟨arr,e,hh.trans h2,h3,Reps.ext h cs _ h4,h5⟩
 |.cellsT t cs,hr=>by
  simp only[RepOb] at hr ⊢
  obtain⟨h1,arr,h2,h3⟩:=hr
  exact⟨hF.trans h1,arr,hh.trans h2,Reps.ext h cs _ h3⟩
 |.vecT t cs,hr=>by
  simp only[RepOb] at hr ⊢
  obtain⟨h1,arr,h2,h3,h4,h5⟩:=hr
  exact⟨hF.trans h1,arr,hh.trans h2,h3,Reps.ext h cs _ h4,h5⟩
 |.froz ds,hr=>by
  simp only[RepOb,hF] at hr ⊢
  obtain⟨h1,arr,e,h2,h3,h4,h5⟩:=hr
  exact⟨h1,arr,e,hh.trans h2,h3,RepDs.ext h ds _ h4,h5⟩
 |.iter m,hr=>by
  simp only[RepOb] at hr ⊢
  obtain⟨h1,c,s,n,t,h2,h3,h4⟩:=hr
  exact⟨hF.trans h1,c,s,n,t,μ_ext h h3 h2,h3.ext h,hh.trans h4⟩
 |.dead,hr=>by simp only[RepOb] at hr
 |.loop lp,hr=>by
  simp only[RepOb] at hr ⊢
  obtain⟨h1,L,h2,h3,h4,h5,N,h6,h7,h8,h9,h10⟩:=hr
  exact⟨hF.trans h1,L,hh.trans h2,h3,h4,h5,N,h6,h7,h8,FrRep.ext h h9,fun l hl=>Nat.lt_of_lt_of_le (h10 l hl) h.len⟩
theorem qih{tmps:Array Value}{d:Nat}{x:Value}(h:d<tmps.size):(tmps.setIfInBounds d x).getD d undef=x:=by
 simp[Array.getD,h]
theorem qgJ{tmps:Array Value}{d t:Nat}{x:Value}(h:d≠t):(tmps.setIfInBounds d x).getD t undef=tmps.getD t undef:=by
 simp only[Array.getD_eq_getD_getElem?,Array.getElem?_setIfInBounds_ne h]
theorem FrRep.put {fid:Fid} {Γ : Ctx} {N:Nat} {fr:Fr} {a:Act} {dst:Option Nat} {v:V} {x:Value} (hf:FrRep fid Γ N fr a.tmps)
  (hd : ∀ d,dst=some d->d<N) (hr:Rep fid Γ v x):FrRep fid Γ N (fr.put dst v) (a.put dst x).tmps:=by
 cases dst with
 |none=>exact hf
 |some d=>
  refine⟨by simp[Act.put,hf.1],fun t u ht hu=>?_⟩
  simp only[Fr.put,Fr.get] at hu
  simp only[Act.put]
  split at hu
  ·rename_i e
   subst e
   cases hu
   rw[qih (by rw[hf.1]; exact hd _ rfl)]
   exact hr
  ·rename_i e
   rw[qgJ e]
   exact hf.2 t u ht hu
theorem Fr.get_keep{fr:Fr} : ∀ {ks:List Nat} {t:Nat} {v:V},(fr.keep ks).get t=some v->fr.get t=some v
 |[],t,v,h=>by simp[Fr.keep,Fr.get] at h
 |k::ks,t,v,h=>by
  simp only[Fr.keep] at h
  split at h
  ·rename_i u hu
   simp only[Fr.get] at h
   split at h
   ·rename_i e; subst e; cases h; exact hu
   ·exact Fr.get_keep h
  ·exact Fr.get_keep h
theorem FrRep.keep{fid:Fid}{Γ : Ctx}{N:Nat}{fr:Fr}{tmps:Array Value}(hf:FrRep fid Γ N fr tmps)(ks:List Nat):FrRep fid Γ N (fr.keep ks) tmps:=
 ⟨hf.1,fun t v ht hv=>hf.2 t v ht (Fr.get_keep hv)⟩
end
section
structure WOnly(b:Nat)(w w':World):Prop where
 os:w'.os=w.os
 tape:w'.tape=w.tape
 output:w'.output=w.output
 size:w'.heap.size=w.heap.size
 other : ∀ k,k≠b->w'.heap[k]?=w.heap[k]?
theorem WOnly.refl(b:Nat)(w:World):WOnly b w w:=⟨rfl,rfl,rfl,rfl,fun _ _=>rfl⟩
theorem WOnly.trans{b:Nat}{w w' w'':World}(h:WOnly b w w')(k:WOnly b w' w''):WOnly b w w'':=
 ⟨k.os.trans h.os,k.tape.trans h.tape,k.output.trans h.output,k.size.trans h.size,fun j hj=>(k.other j hj).trans (h.other j hj)⟩
theorem qdC {Γ Γ':Ctx} (h : ∀ l ob,Γ.σ[l]?=some ob->ob.isTip=true ->
   (Γ'.σ[l]?=some ob /\ ∀ b,Γ.μ l=some b -> Γ'.μ l=some b /\ Γ'.F b = Γ.F b /\ ∀ arr e,Γ.w.heap[b]?=some (.cells arr e (0,0)) -> Γ'.w.heap[b]?=some (.cells arr e (0,0))) \/
   (∃ ob',Γ'.σ[l]?=some ob'/\ob'.isTip=true/\ob'.rows=none)) :
  ∀ l ob,Γ.σ[l]?=some ob->ob.isTip=true -> ∃ ob',Γ'.σ[l]?=some ob'/\ob'.isTip=true /\
   ∀ cs',ob'.rows=some cs' -> ∃ cs,ob.rows=some cs/\cs.length<=cs'.length /\
    (cs.length=cs'.length -> ∀ b,Γ.μ l=some b -> Γ'.μ l=some b /\ Γ'.F b-ob'.fz = Γ.F b-ob.fz /\ ∀ arr e,Γ.w.heap[b]?=some (.cells arr e (0,0)) -> ∃ arr',Γ'.w.heap[b]?=some (.cells arr' e (0,0))/\arr'.size=arr.size):=by
 intro l ob ho ht
 rcases h l ob ho ht with ⟨h1,h2⟩|⟨ob',h1,h2,h3⟩
 ·exact⟨ob,h1,ht,fun cs' hc=>⟨cs',hc,Nat.le_refl _,fun _ b hb=>⟨(h2 b hb).1,by rw[(h2 b hb).2.1],fun arr e ha=>⟨arr,(h2 b hb).2.2 arr e ha,rfl⟩⟩⟩⟩
 ·exact⟨ob',h1,h2,fun cs' hc=>by rw[h3] at hc; cases hc⟩
theorem cell?_of_block{w w':World}{b:Nat}(h:w'.heap[b]?=w.heap[b]?)(i:Nat):w'.cell? ⟨b,i,none⟩=w.cell? ⟨b,i,none⟩:=by
 simp only[World.cell?,h]
theorem Real.F_lt{fid:Fid}{Γ : Ctx}(h:Real fid Γ){b:Nat}(hb:0 < Γ.F b):b < Γ.w.heap.size:=by
 obtain⟨arr,e,fz,h1,_⟩:=h.imm b hb
 exact (Array.getElem?_eq_some_iff.1 h1).1
theorem Real.F_size{fid:Fid}{Γ : Ctx}(h:Real fid Γ) : Γ.F Γ.w.heap.size=0:=by
 rcases Nat.eq_zero_or_pos (Γ.F Γ.w.heap.size) with h0|h0
 ·exact h0
 ·exact absurd (h.F_lt h0) (Nat.lt_irrefl _)
theorem Real.F_obj{fid:Fid}{Γ : Ctx}(h:Real fid Γ){l b:Nat}{ob:Ob}(ho : Γ.σ[l]?=some ob)(ht:ob.isTip=false)(hm : Γ.μ l=some b) : Γ.F b=0:=by
 have:=h.obs l ob b ho hm
 cases ob with
 |cells cs=>exact this.1
 |cellsT t cs=>exact this.1
 |map es=>exact this.1
 |loop lp=>exact this.1
 |tip m=>simp[Ob.isTip] at ht
 |vec m=>simp[Ob.isTip] at ht
 |vecT t m=>simp[Ob.isTip] at ht
 |froz m=>simp[Ob.isTip] at ht
 |dead=>simp[Ob.isTip] at ht
 |iter m=>exact this.1
theorem upd {fid:Fid} {Γ : Ctx} (hr:Real fid Γ) {l b:Nat} {ob ob':Ob} {w':World} (ho : Γ.σ[l]?=some ob) (ht:ob.isTip=false) (ht':ob'.isTip=false)
  (hm : Γ.μ l=some b) (hw:WOnly b Γ.w w')
  (hn:Ext Γ ⟨Γ.σ.set l ob',Γ.μ,Γ.F,w'⟩->RepOb fid ⟨Γ.σ.set l ob',Γ.μ,Γ.F,w'⟩ b ob') :
  Real fid ⟨Γ.σ.set l ob',Γ.μ,Γ.F,w'⟩/\Step Γ ⟨Γ.σ.set l ob',Γ.μ,Γ.F,w'⟩:=by
 have hF:=hr.F_obj ho ht hm
 have hlt:l < Γ.σ.length:=(List.getElem?_eq_some_iff.1 ho).1
 have hext:Ext Γ ⟨Γ.σ.set l ob',Γ.μ,Γ.F,w'⟩:=by
  refine⟨Nat.le_of_eq hw.size.symm,hw.os,hw.tape,hw.output,fun _=>Nat.le_refl _,fun k i v hi hv=>?_,fun k arr e hk ha=>⟨arr,?_,rfl⟩,by simp,fun j o hj hjt=>⟨?_,fun _ h=>h⟩,fun j m hj=>⟨m,?_,Nat.le_refl _,fun h=>h,fun _ _ h=>h⟩,qdC fun j o hj hjt => .inl ?_⟩
  ·have:k≠b:=fun e=>by subst e; omega
   rw[cell?_of_block (hw.other k this)]; exact hv
  ·have:k≠b:=fun e=>by subst e; omega
   rw[hw.other k this]; exact ha
  ·by_cases e:l=j
   ·subst e; exact⟨ob',by simp[hlt],ht'⟩
   ·exact⟨o,by rw[List.getElem?_set_ne e]; exact hj,hjt⟩
  ·by_cases e:l=j
   ·subst e; rw[ho] at hj; cases hj; simp[Ob.isTip] at ht
   ·rw[List.getElem?_set_ne e]; exact hj
  ·have e:l≠j:=fun e=>by subst e; rw[ho] at hj; cases hj; rw[ht] at hjt; cases hjt
   refine⟨by rw[List.getElem?_set_ne e]; exact hj,fun k hk=>⟨hk,rfl,fun arr t ha=>?_⟩⟩
   have:k≠b:=fun e'=>by subst e'; exact e (hr.inj _ _ _ hm hk)
   rw[hw.other k this]; exact ha
 refine⟨⟨fun j o k hj hk=>?_,fun j k hk=>?_,hr.inj,fun k hk=>?_,Glb.ext hext hr.glb⟩,hext,⟨fun k hk hno=>⟨hw.other k fun e=>by subst e; exact hno l hm,rfl⟩,fun j k hj _=>⟨j,hj⟩⟩,fun _ _ h=>h⟩
 ·by_cases e:l=j
  ·subst e
   simp only[List.getElem?_set_self hlt,Option.some.injEq] at hj
   subst hj
   rw[hm] at hk; cases hk
   exact hn hext
  ·rw[List.getElem?_set_ne e] at hj
   have hb:k≠b:=fun e'=>by subst e'; exact e (hr.inj _ _ _ hm hk)
   exact RepOb.ext hext (hw.other k hb) rfl o (hr.obs j o k hj hk)
 ·have:=hr.dom j k hk
  exact⟨by simpa using this.1,by rw[hw.size]; exact this.2⟩
 ·obtain⟨arr,e,fz,h1,h2⟩:=hr.imm k hk
  have:k≠b:=fun e=>by subst e; simp only at hk; omega
  exact⟨arr,e,fz,by rw[hw.other k this]; exact h1,h2⟩
theorem qap(w:World)(o:Obj){k:Nat}(h:k<w.heap.size):(w.alloc o).heap[k]?=w.heap[k]?:=by
 simp only[World.alloc,Array.getElem?_push]
 rw[if_neg (by omega)]
theorem qao(w:World)(o:Obj):(w.alloc o).heap[w.heap.size]?=some o:=by
 show (w.heap.push o)[w.heap.size]?=some o
 simp
theorem qbP{w:World}{k:Nat}{o:Obj}(h:w.heap[k]?=some o):k<w.heap.size:=(Array.getElem?_eq_some_iff.1 h).1
def bind(μ : Nat->Option Nat)(l b:Nat):Nat->Option Nat:=fun j=>if j=l then some b else μ j
def grow(F:Nat->Nat)(b n:Nat):Nat->Nat:=fun j=>if j=b then n else F j
theorem qeG {Γ : Ctx} (hF : Γ.F Γ.w.heap.size=0) (hlt : ∀ b,0 < Γ.F b->b < Γ.w.heap.size) (o:Obj) (σ':S) (μ':Nat->Option Nat) (n:Nat)
  (hσ : Γ.σ.length <= σ'.length)
  (hfix : ∀ l ob,Γ.σ[l]?=some ob->ob.isTip=false->(∃ ob',σ'[l]?=some ob'/\ob'.isTip=false) /\ ∀ b,Γ.μ l=some b -> μ' l=some b)
  (htip : ∀ l m,Γ.σ[l]?=some (.tip m) -> ∃ m',σ'[l]?=some (.tip m')/\m<=m'/\((Γ.μ l).isSome=true->(μ' l).isSome=true)/\(m=m' -> ∀ b,Γ.μ l=some b -> μ' l=some b))
  (hrow : ∀ l ob,Γ.σ[l]?=some ob->ob.isTip=true->(σ'[l]?=some ob /\ ∀ b,Γ.μ l=some b -> μ' l=some b/\b < Γ.w.heap.size)\/(∃ ob',σ'[l]?=some ob'/\ob'.isTip=true/\ob'.rows=none)) :
  Ext Γ ⟨σ',μ',grow Γ.F Γ.w.heap.size n,Γ.w.alloc o⟩:=by
 have hal : ∀ b,b < Γ.w.heap.size->(Γ.w.alloc o).heap[b]? = Γ.w.heap[b]?:=fun b hb=>by
  simp only[World.alloc,Array.getElem?_push]
  rw[if_neg (by omega)]
 refine⟨by simp,rfl,rfl,rfl,fun b=>?_,fun b i v hi hv=>?_,fun b arr e hb ha=>⟨arr,?_,rfl⟩,hσ,hfix,htip,qdC fun l ob ho ht=>?_⟩
 ·simp only[grow]; split
  ·rename_i e; subst e; omega
  ·exact Nat.le_refl _
 ·have hb:b < Γ.w.heap.size:=hlt b (by omega)
  rw[cell?_of_block (qap Γ.w o hb)]; exact hv
 ·have hb:b < Γ.w.heap.size:=hlt b hb
  rw[qap Γ.w o hb]; exact ha
 ·rcases hrow l ob ho ht with ⟨h1,h2⟩|h1
  ·exact .inl ⟨h1,fun b hb=>⟨(h2 b hb).1,by simp only[grow]; rw[if_neg (by have:=(h2 b hb).2; omega)],fun arr e ha=>by show (Γ.w.alloc o).heap[b]?=_; rw[hal b (h2 b hb).2]; exact ha⟩⟩
  ·exact .inr h1
theorem qkH {fid:Fid} {Γ : Ctx} (hr:Real fid Γ) (arr:Array Value) (e:TypeId) (n:Nat) (hn:n<=arr.size) :
  Real fid ⟨Γ.σ,Γ.μ,grow Γ.F Γ.w.heap.size n,Γ.w.alloc (.cells arr e)⟩/\Step Γ ⟨Γ.σ,Γ.μ,grow Γ.F Γ.w.heap.size n,Γ.w.alloc (.cells arr e)⟩:=by
 have hext:=qeG hr.F_size (fun b=>hr.F_lt) (.cells arr e) Γ.σ Γ.μ n (Nat.le_refl _) (fun l ob h ht=>⟨⟨ob,h,ht⟩,fun _ h=>h⟩)
  (fun l m h=>⟨m,h,Nat.le_refl _,fun h=>h,fun _ _ h=>h⟩) (fun l ob h _ => .inl ⟨h,fun b hb=>⟨hb,(hr.dom l b hb).2⟩⟩)
 refine⟨⟨fun l ob b h1 h2=>?_,fun l b h=>?_,hr.inj,fun b hb=>?_,Glb.ext hext hr.glb⟩,hext,⟨fun b hb hn=>⟨qap _ _ hb,?_⟩,fun l b h _=>⟨l,h⟩⟩,fun _ _ h=>h⟩
 ·have hb:=(hr.dom l b h2).2
  exact RepOb.ext hext (qap _ _ hb) (by simp only[grow]; rw[if_neg (by omega)]) ob (hr.obs l ob b h1 h2)
 ·have:=hr.dom l b h
  exact⟨this.1,by simp; omega⟩
 ·simp only[grow] at hb ⊢
  split at hb
  ·rename_i e'; subst e'
   exact⟨arr,e,(0,0),qao _ _,by simpa using hn⟩
  ·rename_i e'
   obtain⟨a,t,fz,h1,h2⟩:=hr.imm b hb
   exact⟨a,t,fz,by rw[qap _ _ (qbP h1)]; exact h1,by simpa [e'] using h2⟩
 ·simp only[grow]; rw[if_neg (by omega)]
theorem qbn {fid:Fid} {Γ : Ctx} (hr:Real fid Γ) (ob:Ob) (o:Obj) (n:Nat)
  (hn : ∀ Γ':Ctx,Γ'=⟨Γ.σ ++ [ob],bind Γ.μ Γ.σ.length Γ.w.heap.size,grow Γ.F Γ.w.heap.size n,Γ.w.alloc o⟩->Ext Γ Γ'->RepOb fid Γ' Γ.w.heap.size ob)
  (hi:0<n -> ∃ arr e fz,o = .cells arr e fz/\n<=arr.size) :
  Real fid ⟨Γ.σ ++ [ob],bind Γ.μ Γ.σ.length Γ.w.heap.size,grow Γ.F Γ.w.heap.size n,Γ.w.alloc o⟩ /\
  Step Γ ⟨Γ.σ ++ [ob],bind Γ.μ Γ.σ.length Γ.w.heap.size,grow Γ.F Γ.w.heap.size n,Γ.w.alloc o⟩:=by
 have hlast : ∀ l ob',Γ.σ[l]?=some ob'->l < Γ.σ.length/\(Γ.σ ++ [ob])[l]?=some ob':=fun l ob' h=>by
  have hl:=(List.getElem?_eq_some_iff.1 h).1
  exact⟨hl,by rw[List.getElem?_append_left hl]; exact h⟩
 have hext:=qeG hr.F_size (fun b=>hr.F_lt) o (Γ.σ ++ [ob]) (bind Γ.μ Γ.σ.length Γ.w.heap.size) n (by simp)
  (fun l ob' h ht=>⟨⟨ob',(hlast l ob' h).2,ht⟩,fun b hb=>by simp only[bind]; rw[if_neg (by have:=(hlast l ob' h).1; omega)]; exact hb⟩)
  (fun l m h=>⟨m,(hlast l _ h).2,Nat.le_refl _,fun hs=>by simp only[bind]; split<;>simp_all,fun _ b hb=>by simp only[bind]; rw[if_neg (by have:=(hlast l _ h).1; omega)]; exact hb⟩)
  (fun l ob' h _ => .inl ⟨(hlast l ob' h).2,fun b hb=>⟨by simp only[bind]; rw[if_neg (by have:=(hlast l ob' h).1; omega)]; exact hb,(hr.dom l b hb).2⟩⟩)
 refine⟨⟨fun l ob' b h1 h2=>?_,fun l b h=>?_,fun l l' b h h'=>?_,fun b hb=>?_,Glb.ext hext hr.glb⟩,hext,⟨fun b hb hn=>⟨qap _ _ hb,?_⟩,fun l b h hb=>?_⟩,fun l hl h=>by simp only[bind]; rw[if_neg (by omega)]; exact h⟩
 ·simp only[bind] at h2
  split at h2
  ·rename_i e; subst e; cases h2
   simp at h1; subst h1
   exact hn _ rfl hext
  ·rename_i e
   have hd:=hr.dom l b h2
   have h1' : Γ.σ[l]?=some ob':=by
    simp only at h1
    rw[List.getElem?_append_left hd.1] at h1; exact h1
   exact RepOb.ext hext (qap _ _ hd.2) (by simp only[grow]; rw[if_neg (by omega)]) ob' (hr.obs l ob' b h1' h2)
 ·simp only[bind] at h
  split at h
  ·rename_i e; subst e; cases h; simp
  ·have:=hr.dom l b h
   exact⟨by simp; omega,by simp; omega⟩
 ·simp only[bind] at h h'
  split at h<;>split at h'
  ·rename_i e e'; exact e.trans e'.symm
  ·cases h; have:=(hr.dom l' _ h').2; omega
  ·cases h'; have:=(hr.dom l _ h).2; omega
  ·exact hr.inj l l' b h h'
 ·simp only[grow] at hb ⊢
  split at hb
  ·rename_i e'; subst e'
   obtain⟨arr,e,fz,ho,hle⟩:=hi hb
   exact⟨arr,e,fz,by rw[qao,ho],by simpa using hle⟩
  ·rename_i e'
   obtain⟨a,t,fz,h1,h2⟩:=hr.imm b hb
   exact⟨a,t,fz,by rw[qap _ _ (qbP h1)]; exact h1,by simpa [e'] using h2⟩
 ·simp only[grow]; rw[if_neg (by omega)]
 ·simp only[bind] at h
  split at h
  ·cases h; omega
  ·exact⟨l,h⟩
theorem qqr {fid:Fid} {Γ : Ctx} (hr:Real fid Γ) (l0:Nat) (ob:Ob) (o:Obj) (h0 : Γ.σ[l0]?=some ob) (hm : Γ.μ l0=none)
  (hn : ∀ Γ':Ctx,Γ'=⟨Γ.σ,bind Γ.μ l0 Γ.w.heap.size,grow Γ.F Γ.w.heap.size 0,Γ.w.alloc o⟩->Ext Γ Γ'->RepOb fid Γ' Γ.w.heap.size ob) :
  Real fid ⟨Γ.σ,bind Γ.μ l0 Γ.w.heap.size,grow Γ.F Γ.w.heap.size 0,Γ.w.alloc o⟩ /\
  Ext Γ ⟨Γ.σ,bind Γ.μ l0 Γ.w.heap.size,grow Γ.F Γ.w.heap.size 0,Γ.w.alloc o⟩/\Frm Γ ⟨Γ.σ,bind Γ.μ l0 Γ.w.heap.size,grow Γ.F Γ.w.heap.size 0,Γ.w.alloc o⟩:=by
 have hlt:=(List.getElem?_eq_some_iff.1 h0).1
 have hne : ∀ l b,Γ.μ l=some b->l≠l0:=fun l b h e=>by subst e; rw[hm] at h; cases h
 have hext:=qeG hr.F_size (fun b=>hr.F_lt) o Γ.σ (bind Γ.μ l0 Γ.w.heap.size) 0 (Nat.le_refl _)
  (fun l ob' h ht=>⟨⟨ob',h,ht⟩,fun b hb=>by simp only[bind]; rw[if_neg (hne l b hb)]; exact hb⟩)
  (fun l m h=>⟨m,h,Nat.le_refl _,fun hs=>by simp only[bind]; split<;>simp_all,fun _ b hb=>by simp only[bind]; rw[if_neg (hne l b hb)]; exact hb⟩)
  (fun l ob' h _ => .inl ⟨h,fun b hb=>⟨by simp only[bind]; rw[if_neg (hne l b hb)]; exact hb,(hr.dom l b hb).2⟩⟩)
 refine⟨⟨fun l ob' b h1 h2=>?_,fun l b h=>?_,fun l l' b h h'=>?_,fun b hb=>?_,Glb.ext hext hr.glb⟩,hext,⟨fun b hb hn=>⟨qap _ _ hb,?_⟩,fun l b h hb=>?_⟩⟩
 ·simp only[bind] at h2
  split at h2
  ·rename_i e; subst e; cases h2
   simp only at h1; rw[h0] at h1; cases h1
   exact hn _ rfl hext
  ·have hd:=hr.dom l b h2
   exact RepOb.ext hext (qap _ _ hd.2) (by simp only[grow]; rw[if_neg (by omega)]) ob' (hr.obs l ob' b h1 h2)
 ·simp only[bind] at h
  split at h
  ·rename_i e; subst e; cases h; simp[hlt]
  ·have:=hr.dom l b h
   exact⟨this.1,by simp; omega⟩
 ·simp only[bind] at h h'
  split at h<;>split at h'
  ·rename_i e e'; exact e.trans e'.symm
  ·cases h; have:=(hr.dom l' _ h').2; omega
  ·cases h'; have:=(hr.dom l _ h).2; omega
  ·exact hr.inj l l' b h h'
 ·simp only[grow] at hb ⊢
  split at hb
  ·omega
  ·rename_i e'
   obtain⟨a,t,fz,h1,h2⟩:=hr.imm b hb
   exact⟨a,t,fz,by rw[qap _ _ (qbP h1)]; exact h1,by simpa [e'] using h2⟩
 ·simp only[grow]; rw[if_neg (by omega)]
 ·simp only[bind] at h
  split at h
  ·cases h; omega
  ·exact⟨l,h⟩
theorem qqs {fid:Fid} {Γ : Ctx} (hr:Real fid Γ) {l m m':Nat} (h0 : Γ.σ[l]?=some (.tip m)) (hsome:(Γ.μ l).isSome=true) (hmm:m<m') (arr:Array Value) (e:TypeId) (hn:m'<=arr.size) :
  Real fid ⟨Γ.σ.set l (.tip m'),bind Γ.μ l Γ.w.heap.size,grow Γ.F Γ.w.heap.size m',Γ.w.alloc (.cells arr e)⟩ /\
  Step Γ ⟨Γ.σ.set l (.tip m'),bind Γ.μ l Γ.w.heap.size,grow Γ.F Γ.w.heap.size m',Γ.w.alloc (.cells arr e)⟩:=by
 have hlt:=(List.getElem?_eq_some_iff.1 h0).1
 have hset : ∀ j ob,Γ.σ[j]?=some ob->j≠l->(Γ.σ.set l (.tip m'))[j]?=some ob:=fun j ob h hj=>by
  rw[List.getElem?_set_ne (Ne.symm hj)]; exact h
 have hext:=qeG hr.F_size (fun b=>hr.F_lt) (.cells arr e) (Γ.σ.set l (.tip m')) (bind Γ.μ l Γ.w.heap.size) m' (by simp)
  (fun j ob' h ht=>by
   have hj:j≠l:=fun e=>by subst e; rw[h0] at h; cases h; simp[Ob.isTip] at ht
   exact⟨⟨ob',hset j ob' h hj,ht⟩,fun b hb=>by simp only[bind]; rw[if_neg hj]; exact hb⟩)
  (fun j k h=>by
   by_cases hj:j=l
   ·subst hj; rw[h0] at h; cases h
    exact⟨m',by simp[hlt],Nat.le_of_lt hmm,fun _=>by simp[bind],fun e=>by omega⟩
   ·exact⟨k,hset j _ h hj,Nat.le_refl _,fun hs=>by simp only[bind]; rw[if_neg hj]; exact hs,fun _ b hb=>by simp only[bind]; rw[if_neg hj]; exact hb⟩)
  (fun j ob' h _=>by
   by_cases hj:j=l
   ·subst hj; exact .inr ⟨.tip m',by simp[hlt],rfl,rfl⟩
   ·exact .inl ⟨hset j ob' h hj,fun b hb=>⟨by simp only[bind]; rw[if_neg hj]; exact hb,(hr.dom j b hb).2⟩⟩)
 refine⟨⟨fun j ob' b h1 h2=>?_,fun j b h=>?_,fun j j' b h h'=>?_,fun b hb=>?_,Glb.ext hext hr.glb⟩,hext,⟨fun b hb hn=>⟨qap _ _ hb,?_⟩,fun j b h hb=>?_⟩,fun j _ h=>by simp only[bind]; rw[if_neg (fun e=>by subst e; rw[h] at hsome; cases hsome)]; exact h⟩
 ·simp only[bind] at h2
  split at h2
  ·rename_i e'; subst e'; cases h2
   simp only[List.getElem?_set_self hlt,Option.some.injEq] at h1
   subst h1
   simp[RepOb,grow]; omega
  ·rename_i e'
   have hd:=hr.dom j b h2
   simp only at h1
   rw[List.getElem?_set_ne (Ne.symm e')] at h1
   exact RepOb.ext hext (qap _ _ hd.2) (by simp only[grow]; rw[if_neg (by omega)]) ob' (hr.obs j ob' b h1 h2)
 ·simp only[bind] at h
  split at h
  ·rename_i e'; subst e'; cases h; simp[hlt]
  ·have:=hr.dom j b h
   exact⟨by simpa using this.1,by simp; omega⟩
 ·simp only[bind] at h h'
  split at h<;>split at h'
  ·rename_i e e'; exact e.trans e'.symm
  ·cases h; have:=(hr.dom j' _ h').2; omega
  ·cases h'; have:=(hr.dom j _ h).2; omega
  ·exact hr.inj j j' b h h'
 ·simp only[grow] at hb ⊢
  split at hb
  ·rename_i e'; subst e'
   exact⟨arr,e,(0,0),qao _ _,by simpa using hn⟩
  ·rename_i e'
   obtain⟨a,t,fz,h1,h2⟩:=hr.imm b hb
   exact⟨a,t,fz,by rw[qap _ _ (qbP h1)]; exact h1,by simpa [e'] using h2⟩
 ·simp only[grow]; rw[if_neg (by omega)]
 ·simp only[bind] at h
  split at h
  ·cases h; omega
  ·exact⟨j,h⟩
theorem qqt {fid:Fid} {Γ : Ctx} (hr:Real fid Γ) {l m m' b:Nat} {w':World} (h0 : Γ.σ[l]?=some (.tip m)) (hm : Γ.μ l=some b) (hmm:m<m') (hw:WOnly b Γ.w w')
  {arr arr':Array Value} {e:TypeId} (ha : Γ.w.heap[b]?=some (.cells arr e (0,0))) (ha':w'.heap[b]?=some (.cells arr' e (0,0))) (hs:arr'.size=arr.size) (hn:m'<=arr.size)
  (hpre : ∀ i,i<m->arr'[i]?=arr[i]?) :
  Real fid ⟨Γ.σ.set l (.tip m'),Γ.μ,grow Γ.F b m',w'⟩/\Step Γ ⟨Γ.σ.set l (.tip m'),Γ.μ,grow Γ.F b m',w'⟩:=by
 have hlt:=(List.getElem?_eq_some_iff.1 h0).1
 have hFb : Γ.F b=m:=(hr.obs l _ b h0 hm).1
 have hext:Ext Γ ⟨Γ.σ.set l (.tip m'),Γ.μ,grow Γ.F b m',w'⟩:=by
  refine⟨Nat.le_of_eq hw.size.symm,hw.os,hw.tape,hw.output,fun k=>?_,fun k i v hi hv=>?_,fun k a t hk h=>?_,by simp,fun j ob h ht=>?_,fun j k h=>?_,qdC fun j ob h ht=>?_⟩
  ·simp only[grow]; split
   ·rename_i e'; subst e'; omega
   ·exact Nat.le_refl _
  ·by_cases e':k=b
   ·subst e'
    simp only[World.cell?,ha] at hv
    simp only[World.cell?,ha']
    simpa [hpre i (by omega)] using hv
   ·rw[cell?_of_block (hw.other k e')]; exact hv
  ·by_cases e':k=b
   ·subst e'; rw[ha] at h; cases h; exact⟨arr',ha',hs⟩
   ·exact⟨a,by rw[hw.other k e']; exact h,rfl⟩
  ·have hj:l≠j:=fun e=>by subst e; rw[h0] at h; cases h; simp[Ob.isTip] at ht
   exact⟨⟨ob,by rw[List.getElem?_set_ne hj]; exact h,ht⟩,fun _ h=>h⟩
  ·by_cases hj:l=j
   ·subst hj; rw[h0] at h; cases h
    exact⟨m',by simp[hlt],Nat.le_of_lt hmm,fun h=>h,fun e=>by omega⟩
   ·exact⟨k,by rw[List.getElem?_set_ne hj]; exact h,Nat.le_refl _,fun h=>h,fun _ _ h=>h⟩
  ·by_cases hj:l=j
   ·subst hj; exact .inr ⟨.tip m',by simp[hlt],rfl,rfl⟩
   ·refine .inl ⟨by rw[List.getElem?_set_ne hj]; exact h,fun k hk=>⟨hk,by simp only[grow]; rw[if_neg (fun e'=>by subst e'; exact hj (hr.inj _ _ _ hm hk))],fun a t ha2=>?_⟩⟩
    have hb:k≠b:=fun e'=>by subst e'; exact hj (hr.inj _ _ _ hm hk)
    rw[hw.other k hb]; exact ha2
 refine⟨⟨fun j ob' k h1 h2=>?_,fun j k h=>?_,hr.inj,fun k hk=>?_,Glb.ext hext hr.glb⟩,hext,⟨fun k hk hn=>?_,fun j k h _=>⟨j,h⟩⟩,fun _ _ h=>h⟩
 ·by_cases e':l=j
  ·subst e'
   simp only[List.getElem?_set_self hlt,Option.some.injEq] at h1
   subst h1
   rw[hm] at h2; cases h2
   simp[RepOb,grow]; omega
  ·simp only at h1
   rw[List.getElem?_set_ne e'] at h1
   have hb:k≠b:=fun e''=>by subst e''; exact e' (hr.inj _ _ _ hm h2)
   exact RepOb.ext hext (hw.other k hb) (by simp only[grow]; rw[if_neg hb]) ob' (hr.obs j ob' k h1 h2)
 ·have:=hr.dom j k h
  exact⟨by simpa using this.1,by rw[hw.size]; exact this.2⟩
 ·simp only[grow] at hk ⊢
  split at hk
  ·rename_i e'; subst e'
   exact⟨arr',e,(0,0),ha',by simp; omega⟩
  ·rename_i e'
   obtain⟨a,t,fz,h1,h2⟩:=hr.imm k hk
   exact⟨a,t,fz,by rw[hw.other k e']; exact h1,by simpa [e'] using h2⟩
 ·have hb:k≠b:=fun e'=>by subst e'; exact hn l hm
  exact⟨hw.other k hb,by simp only[grow]; rw[if_neg hb]⟩
theorem qeH{fid:Fid}{Γ : Ctx}(hr:Real fid Γ):Real fid ⟨Γ.σ,Γ.μ,Γ.F,Γ.w.drew⟩/\Step Γ ⟨Γ.σ,Γ.μ,Γ.F,Γ.w.drew⟩:=by
 have hext:Ext Γ ⟨Γ.σ,Γ.μ,Γ.F,Γ.w.drew⟩:=⟨Nat.le_refl _,rfl,rfl,rfl,fun _=>Nat.le_refl _,fun _ _ _ _ h=>h,fun _ arr _ _ h=>⟨arr,h,rfl⟩,Nat.le_refl _,
  fun _ ob h ht=>⟨⟨ob,h,ht⟩,fun _ h=>h⟩,fun _ m h=>⟨m,h,Nat.le_refl _,fun h=>h,fun _ _ h=>h⟩,qdC fun _ _ h _ => .inl ⟨h,fun _ hb=>⟨hb,rfl,fun _ _ ha=>ha⟩⟩⟩
 exact⟨⟨fun l ob b h1 h2=>RepOb.ext hext rfl rfl ob (hr.obs l ob b h1 h2),hr.dom,hr.inj,hr.imm,Glb.ext hext hr.glb⟩,hext,⟨fun _ _ _=>⟨rfl,rfl⟩,fun l _ h _=>⟨l,h⟩⟩,fun _ _ h=>h⟩
theorem qmP{fid:Fid}{Γ : Ctx}(hr:Real fid Γ)(o:Obj):Real fid ⟨Γ.σ,Γ.μ,Γ.F,Γ.w.alloc o⟩/\Step Γ ⟨Γ.σ,Γ.μ,Γ.F,Γ.w.alloc o⟩:=by
 have hext:Ext Γ ⟨Γ.σ,Γ.μ,Γ.F,Γ.w.alloc o⟩:=by
  refine⟨by simp,rfl,rfl,rfl,fun _=>Nat.le_refl _,fun b i v hi hv=>?_,fun b arr e hb ha=>⟨arr,?_,rfl⟩,Nat.le_refl _,fun _ ob h ht=>⟨⟨ob,h,ht⟩,fun _ h=>h⟩,fun _ m h=>⟨m,h,Nat.le_refl _,fun h=>h,fun _ _ h=>h⟩,
   qdC fun l ob h _ => .inl ⟨h,fun b hb=>⟨hb,rfl,fun _ _ ha=>by show (Γ.w.alloc o).heap[b]?=_; rw[qap Γ.w o (hr.dom l b hb).2]; exact ha⟩⟩⟩
  ·have hb:b < Γ.w.heap.size:=hr.F_lt (by omega)
   rw[cell?_of_block (qap Γ.w o hb)]; exact hv
  ·rw[qap Γ.w o (hr.F_lt hb)]; exact ha
 refine⟨⟨fun l ob b h1 h2=>RepOb.ext hext (qap _ _ (hr.dom l b h2).2) rfl ob (hr.obs l ob b h1 h2),fun l b h=>?_,hr.inj,fun b hb=>?_,Glb.ext hext hr.glb⟩,hext,⟨fun b hb _=>⟨qap _ _ hb,rfl⟩,fun l _ h _=>⟨l,h⟩⟩,fun _ _ h=>h⟩
 ·have:=hr.dom l b h
  exact⟨this.1,by simp; omega⟩
 ·obtain⟨a,t,fz,h1,h2⟩:=hr.imm b hb
  exact⟨a,t,fz,by rw[qap _ _ (qbP h1)]; exact h1,h2⟩
end
end Go.Pm
