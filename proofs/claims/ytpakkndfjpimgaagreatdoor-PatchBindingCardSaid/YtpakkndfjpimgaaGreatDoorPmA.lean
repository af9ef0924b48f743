/- The abstract machine: values, stores, instructions, and its run. No program in sight. -/
import GoSem.Dispatch
import GoSem.Step
import Derived.Laws.Sem
import Derived.Laws.Externs
set_option linter.unusedSimpArgs false
set_option linter.unusedVariables false
section SA
namespace Go.Pm
inductive D where
 | lit (v:Value)
 | sl (cs:List D) (n:Nat) (full:Bool)
 | imm (cs:List D) (o:Nat)
 | agg (cs:List D)
 | iface (t:Nat) (d:D)
 deriving Inhabited
inductive V where
 | dat (d:D)
 | ptr (l o:Nat)
 | gsl (cs:List D) (n sz l:Nat)
 | msl (l o n cap sz:Nat)
 | own (l n sz:Nat)
 | eptr (l n o:Nat)
 | bm (g:Nat) (v:V)
 | agg (cs:List V)
 | fn (f:Nat) (first captured:List V)
 | mp (l:Nat)
 | iface (t:Nat) (v:V)
 | tup (vs:List V)
 | yld (l:Nat)
 | pan (v:V)
 deriving Inhabited
abbrev Fr:=List (Nat × V)
abbrev V.lit (v:Value):V := .dat (.lit v)
abbrev V.int (n:Int):V := .dat (.lit (.int .i64 n))
abbrev V.bool (b:Bool):V := .dat (.lit (.bool b))
abbrev V.str (s:ByteArray):V := .dat (.lit (.string s))
def Fr.get:Fr->Nat->Option V
 | [],_=>none
 | (k,v)::r,t=>if k=t then some v else Fr.get r t
def Fr.put (fr:Fr):Option Nat->V->Fr
 | none,_=>fr
 | some d,v=>(d,v)::fr
def Fr.keep (fr:Fr):List Nat->Fr
 | []=>[]
 | k::ks=>match fr.get k with
  | some v=>(k,v)::Fr.keep fr ks
  | none=>Fr.keep fr ks
inductive X where
 | t (n:Nat)
 | c (v:Value)
 | f (id:Nat)
 | g (cs:List D)
 deriving Inhabited
def X.ev (fr:Fr):X->Option V
 | .t n=>fr.get n
 | .c v=>some (.dat (.lit v))
 | .f id=>some (.fn id [] [])
 | .g cs=>some (.dat (.imm cs 0))
def evs (fr:Fr):List X->Option (List V)
 | []=>some []
 | x::r=>match x.ev fr,evs fr r with
  | some v,some vs=>some (v::vs)
  | _,_=>none
inductive CK where
 | int (k:IntKind)
 | intStr
 | strStr
 deriving Inhabited
inductive KD where
 | b | i | s
 deriving DecidableEq,Inhabited
inductive LK where
 | str | sl | mp
 deriving DecidableEq,Inhabited
inductive O where
 | mov (x:X)
 | pick (c a b:X)
 | alloc (zero:List D)
 | box (x:X)
 | build (zero:List D) (parts:List (Nat × Nat × X))
 | bslice (n:Nat) (zero:List D) (parts:List (Nat × Nat × X))
 | bsliceO (n sz:Nat) (zero:List D) (parts:List (Nat × Nat × X))
 | load (agg:Bool) (n:Nat) (a:X)
 | store (n:Nat) (a x:X)
 | nilchk (x:X)
 | bin (op:BinOp) (x y:X)
 | eqb (neg:Bool) (x y:X)
 | eqa (neg:Bool) (kds:List KD) (x y:X)
 | isnil (p neg:Bool) (x:X)
 | isnils (neg:Bool) (x:X)
 | mkif (t:Nat) (x:X)
 | mkmeth (tbl:List (Nat × Nat)) (x:X)
 | bytes (x:X)
 | un (op:UnOp) (x:X)
 | conv (k:CK) (x:X)
 | fieldAddr (off:Nat) (x:X)
 | field (agg:Bool) (off n:Nat) (x:X)
 | indexAddr (sz:Nat) (x i:X)
 | indexAddrA (len sz:Nat) (x i:X)
 | indexA (agg:Bool) (len sz:Nat) (x i:X)
 | indexS (x i:X)
 | slice (sz:Nat) (x:X) (lo hi:Option X)
 | sliceS (x:X) (lo hi:Option X)
 | len (k:LK) (x:X)
 | min (xs:List X)
 | max (xs:List X)
 | append (sz bytes:Nat) (s x:X)
 | appendO (sz bytes:Nat) (s x:X)
 | cut (sz:Nat) (x:X) (lo hi:Option X)
 | mkmap
 | mkslice (own:Bool) (zero:List D) (bytes:Nat) (len cap:X)
 | mapset (kd:KD) (m k v:X)
 | lookup (kd:KD) (zero:D) (m k:X) (ok:Bool)
 | mkfn (f:Nat) (first captured:List X)
 | extract (x:X) (i:Nat)
 | call (f:Nat) (args:List X)
 | callv (f:X) (args:List X)
 | invoke (tbl:List (Nat × Nat)) (x:X) (args:List X)
 | defer (f:X) (args:List X)
 | panic (x:X)
 | recov
 | boxT (t:Nat) (x:X)
 | appendT (t sz bytes:Nat) (s x:X)
 | up (x:X)
 | down (ts:List (Nat × Nat)) (x:X)
 | peq (neg:Bool) (x y:X)
 | usd (x:X)
 | ustr (ts:List Nat) (x n:X)
 | bstr (x:X)
 | sliceA (len sz:Nat) (x:X) (lo hi:Option X)
 | idxb (s c:X)
 | fill (k:Nat)
 deriving Inhabited
structure I where
 dst:Option Nat
 op:O
 guard:Option (Nat × Bool)
 un:List Nat:=[]
 deriving Inhabited
inductive PC where
 | skip
 | region (draw:Option (List (Nat × List D))) (ops:List I) (keep:List Nat) (lasts:List Nat:=[])
 | seq (a b:PC)
 | cond (c:X) (a b:PC)
 | block (id:Nat) (b:PC)
 | loop (b:PC)
 | exit (id:Nat)
 | ret
 | range (f:X) (ps:List Nat) (assign body:PC)
 deriving Inhabited
inductive Ex where
 | normal
 | exit (id:Nat)
 | ret
 | pan (v:V)
 deriving Inhabited
structure Lp where
 fr:Fr
 ps:List Nat
 assign:PC
 body:PC
 st:Nat
 pend:Option Ex
 deriving Inhabited
inductive Ob where
 | cells (cs:List V)
 | map (es:List (Value × V))
 | tip (n:Nat)
 | loop (lp:Lp)
 | vec (cs:List V)
 | cellsT (t:Nat) (cs:List V)
 | vecT (t:Nat) (cs:List V)
 | froz (cs:List D)
 | dead
 deriving Inhabited
abbrev S:=List Ob
inductive PR where
 | tmp (t:Nat)
 | cell (t:Nat) (agg:Bool) (n:Nat)
 deriving Inhabited
structure PFun where
 np:Nat
 results:List PR
 body:PC
 noseal:Bool:=false
 df:Bool:=false
 catches:Bool:=false
 deriving Inhabited
inductive Task where
 | call (f:Nat) (args:List V) (σ : S)
 | dcall (f:Nat) (args:List V) (σ : S)
 | loop (k:Nat) (body:PC) (fr:Fr) (σ : S)
 | round (args:List V) (σ : S)
 deriving Inhabited
inductive Res where
 | ret (v:V) (σ : S)
 | out (e:Ex) (fr:Fr) (σ : S)
 deriving Inhabited
def qaN:List V->Option (List D)
 | []=>some []
 | .dat d::r=>match qaN r with
  | some ds=>some (d::ds)
  | none=>none
 | _::_=>none
def V.cells:V->List V
 | .dat (.agg cs)=>cs.map .dat
 | .agg cs=>cs
 | v=>[v]
def V.aggCells:V->Option (List V)
 | .dat (.agg cs)=>some (cs.map .dat)
 | .agg cs=>some cs
 | _=>none
def V.one:V->Bool
 | .dat (.lit v)=>v.oneCell'
 | .dat (.agg _)=>false
 | .agg _=>false
 | .tup _=>false
 | _=>true
def qdd (vs:List V):V:=
 match qaN vs with
 | some ds => .dat (.agg ds)
 | none => .agg vs
mutual
def V.locs:V->List Nat
 | .dat _=>[]
 | .ptr l _=>[l]
 | .gsl _ _ _ l=>[l]
 | .msl l _ _ _ _=>[l]
 | .own l _ _=>[l]
 | .eptr l _ _=>[l]
 | .bm _ v=>v.locs
 | .agg cs=>qai cs
 | .fn _ a b=>qai a++qai b
 | .mp l=>[l]
 | .iface _ v=>v.locs
 | .tup vs=>qai vs
 | .yld l=>[l]
 | .pan v=>v.locs
def qai:List V->List Nat
 | []=>[]
 | v::r=>v.locs++qai r
end
mutual
def V.ren (r:Nat->Nat):V->V
 | .dat d => .dat d
 | .ptr l o => .ptr (r l) o
 | .gsl cs n sz l => .gsl cs n sz (r l)
 | .msl l o n cap sz => .msl (r l) o n cap sz
 | .own l n sz => .own (r l) n sz
 | .eptr l n o => .eptr (r l) n o
 | .bm g v => .bm g (v.ren r)
 | .agg cs => .agg (qbH r cs)
 | .fn f a b => .fn f (qbH r a) (qbH r b)
 | .mp l => .mp (r l)
 | .iface t v => .iface t (v.ren r)
 | .tup vs => .tup (qbH r vs)
 | .yld l => .yld (r l)
 | .pan v => .pan (v.ren r)
def qbH (r:Nat->Nat):List V->List V
 | []=>[]
 | v::vs=>v.ren r::qbH r vs
end
def qfe:List (Value × V)->List Nat
 | []=>[]
 | (_,v)::r=>v.locs++qfe r
def qkk (r:Nat->Nat):List (Value × V)->List (Value × V)
 | []=>[]
 | (k,v)::es=>(k,v.ren r)::qkk r es
def qbe:Fr->List Nat
 | []=>[]
 | (_,v)::r=>v.locs++qbe r
def qgh (r:Nat->Nat):Fr->Fr
 | []=>[]
 | (k,v)::es=>(k,v.ren r)::qgh r es
def Ob.locs:Ob->List Nat
 | .cells cs=>qai cs
 | .map es=>qfe es
 | .tip _=>[]
 | .loop lp=>qbe lp.fr
 | .vec cs=>qai cs
 | .cellsT _ cs=>qai cs
 | .vecT _ cs=>qai cs
 | .froz _=>[]
 | .dead=>[]
def Ob.ren (r:Nat->Nat):Ob->Ob
 | .cells cs => .cells (qbH r cs)
 | .map es => .map (qkk r es)
 | .tip n => .tip n
 | .loop lp => .loop { lp with fr:=qgh r lp.fr }
 | .vec cs => .vec (qbH r cs)
 | .cellsT t cs => .cellsT t (qbH r cs)
 | .vecT t cs => .vecT t (qbH r cs)
 | .froz cs => .froz cs
 | .dead => .dead
def V.sealv:V->V
 | .gsl cs n _ _ => .dat (.sl cs n false)
 | v=>v
def qha:List V->List V
 | []=>[]
 | v::r=>v.sealv::qha r
def V.sealT:V->V
 | .agg cs=>qdd (qha cs)
 | v=>v.sealv
def qeJ:List V->List V
 | []=>[]
 | v::r=>v.sealT::qeJ r
def Ob.rows:Ob->Option (List V)
 | .vec cs=>some cs
 | .vecT _ cs=>some cs
 | .froz ds=>some (ds.map .dat)
 | _=>none
def qht (σ : S):V->V × S
 | .own l n sz=>match σ[l]? with
  | some (.vec cs)=>if cs.length=n*sz then (match qaN cs with
   | some ds=>(.dat (.sl ds n false),σ.set l (.froz ds))
   | none=>(.own l n sz,σ)) else (.own l n sz,σ)
  | some (.froz ds)=>if ds.length=n*sz then (.dat (.sl ds n false),σ) else (.own l n sz,σ)
  | _=>(.own l n sz,σ)
 | .gsl cs n _ _=>(.dat (.sl cs n false),σ)
 | v=>(v,σ)
def qhK (σ : S):List V->List V × S
 | []=>([],σ)
 | v::r=>((qht σ v).1::(qhK (qht σ v).2 r).1,(qhK (qht σ v).2 r).2)
def qhL (σ : S):V->V × S
 | .agg cs=>(qdd (qhK σ cs).1,(qhK σ cs).2)
 | v=>qht σ v
def qex (σ : S):List V->List V × S
 | []=>([],σ)
 | v::r=>((qhL σ v).1::(qex (qhL σ v).2 r).1,(qex (qhL σ v).2 r).2)
def outV (k:Nat) (σ : S):V->V × List Nat
 | .own l n sz=>if k<=l then (match σ[l]? with
  | some (.vec cs)=>if cs.length=n*sz then (match qaN cs with
   | some ds=>(.dat (.sl ds n false),[l])
   | none=>(.own l n sz,[])) else (.own l n sz,[])
  | some (.froz ds)=>if ds.length=n*sz then (.dat (.sl ds n false),[]) else (.own l n sz,[])
  | _=>(.own l n sz,[])) else (.own l n sz,[])
 | .msl l o n cap sz=>if k<=l then (match σ[l]? with
  | some (.cells cs)=>match qaN cs with
   | some ds=>if o+n*sz<=ds.length/\(ds.all fun d=>V.one (.dat d))=true then (.dat (.sl ((ds.drop o).take (n*sz)) n false),[l]) else (.msl l o n cap sz,[])
   | none=>(.msl l o n cap sz,[])
  | _=>(.msl l o n cap sz,[])) else (.msl l o n cap sz,[])
 | .gsl cs n _ _=>(.dat (.sl cs n false),[])
 | v=>(v,[])
def qgM (k:Nat) (σ : S):List V->List V × List Nat
 | []=>([],[])
 | v::r=>((outV k σ v).1::(qgM k σ r).1,(outV k σ v).2++(qgM k σ r).2)
def qiv (k:Nat) (σ : S):V->V × List Nat
 | .agg cs=>(qdd (qgM k σ cs).1,(qgM k σ cs).2)
 | v=>outV k σ v
def qbX (k:Nat) (σ : S):List V->List V × List Nat
 | []=>([],[])
 | v::r=>((qiv k σ v).1::(qbX k σ r).1,(qiv k σ v).2++(qbX k σ r).2)
def qbC {α : Type}:Nat->List α -> List α
 | 0,_=>[]
 | n+1,l=>l++qbC n l
def qcl (f:Nat) (vs:List V) (σ : S):List V × S:=if f<1000 then qex σ vs else (vs,σ)
def reach (σ : S):Nat->List Nat->List Nat->List Nat
 | _,[],seen=>seen
 | 0,_,seen=>seen
 | n+1,l::todo,seen=>
  if seen.contains l then reach σ n todo seen
  else reach σ n (todo++(match σ[l]? with | some ob=>ob.locs | none=>[])) (seen++[l])
def idx:List Nat->Nat->Nat
 | [],_=>0
 | k::ks,l=>if k=l then 0 else idx ks l+1
def qfM:List Nat->Bool
 | []=>true
 | k::ks => !ks.contains k&&qfM ks
def inL (L:List Nat):List Nat->Bool
 | []=>true
 | k::ks=>L.contains k&&inL L ks
def qeK (σ : S):List Nat->Option (List Ob)
 | []=>some []
 | l::ls=>match σ[l]?,qeK σ ls with
  | some ob,some obs=>some (ob::obs)
  | _,_=>none
def qfN (L:List Nat):List Ob->Bool
 | []=>true
 | ob::r=>inL L ob.locs&&qfN L r
def qaH (L:List Nat) (vs:List V) (σ : S):Option (List V × S):=
 match qeK σ L with
 | some obs=>if qfM L&&(inL L (qai vs)&&qfN L obs) then some (qbH (idx L) vs,obs.map (Ob.ren (idx L))) else none
 | none=>none
def back (L:List Nat) (n:Nat) (i:Nat):Nat:=
 match L[i]? with
 | some l=>l
 | none=>n+(i-L.length)
def qal (σ : S):List Nat->List Ob->S
 | l::ls,ob::obs=>qal (σ.set l ob) ls obs
 | _,obs => σ ++ obs
def qaM (C:Task->Option Res) (mk:List V->S->Task) (args:List V) (σ : S):Option (V × S):=
 let L:=reach σ 100000 (qai args) []
 match qaH L args σ with
 | some (args',σs)=>
  match C (mk args' σs) with
  | some (.ret (.pan _) _)=>none
  | some (.ret v σs')=>some (v.ren (back L σ.length),qal σ L (σs'.map (Ob.ren (back L σ.length))))
  | _=>none
 | none=>none
def qba (C:Task->Option Res) (mk:List V->S->Task) (args:List V) (σ : S):Option (V × S):=
 let L:=reach σ 100000 (qai args) []
 match qaH L args σ with
 | some (args',σs)=>
  match C (mk args' σs) with
  | some (.ret (.pan v) σs')=>some (v.ren (back L σ.length),qal σ L (σs'.map (Ob.ren (back L σ.length))))
  | _=>none
 | none=>none
def dkey:Nat:=1000000
def qfO:Nat:=1000001
def Fr.defs (fr:Fr):List V:=match fr.get dkey with
 | some (.tup l)=>l
 | _=>[]
def Fr.noD (fr:Fr):Fr:=fr.filter fun p=>p.1 != dkey
def eqS (a b:ByteArray):Bool:=a.toList==b.toList
def eqI (a b:Int):Bool:=a==b
def qgN (k:IntKind) (op:BitVec k.bits->BitVec k.bits->BitVec k.bits) (a b:Int):Int:=k.wrap (op (BitVec.ofInt k.bits a) (BitVec.ofInt k.bits b)).toNat
def qlC (k:IntKind) (a b:Int):Int:=k.wrap (a*2 ^ min b.toNat k.bits)
def qkU (k:IntKind) (a b:Int):Int:=a.fdiv (2 ^ min b.toNat k.bits)
def qfP:BinOp->Value->Value->Option Value
 | op,.int k a,.int k' b=>
  if k=k' then
   match op with
   | .add=>some (.int k (k.wrap (a+b)))
   | .sub=>some (.int k (k.wrap (a-b)))
   | .mul=>some (.int k (k.wrap (a*b)))
   | .quo=>if b=0 then none else some (.int k (k.wrap (a.tdiv b)))
   | .rem=>if b=0 then none else some (.int k (a.tmod b))
   | .eql=>some (.bool (eqI a b))
   | .neq=>some (.bool (!eqI a b))
   | .lss=>some (.bool (a<b))
   | .leq=>some (.bool (a<=b))
   | .gtr=>some (.bool (a > b))
   | .geq=>some (.bool (a≥b))
   | .and=>some (.int k (qgN k (· &&& ·) a b))
   | .or=>some (.int k (qgN k (· ||| ·) a b))
   | .xor=>some (.int k (qgN k (· ^^^ ·) a b))
   | .andNot=>some (.int k (qgN k (fun x y=>x &&& ~~~y) a b))
   | .shl=>if b<0 then none else some (.int k (qlC k a b))
   | .shr=>if b<0 then none else some (.int k (qkU k a b))
  else match op with
   | .shl=>if b<0 then none else some (.int k (qlC k a b))
   | .shr=>if b<0 then none else some (.int k (qkU k a b))
   | _=>none
 | op,.string a,.string b=>
  match op with
  | .add=>if ((a.size+b.size:Nat):Int) > IntKind.i64.max then none else some (.string (a++b))
  | .eql=>some (.bool (eqS a b))
  | .neq=>some (.bool (!eqS a b))
  | .lss=>some (.bool (Op.bytesLess a.toList b.toList))
  | .leq=>some (.bool (Op.bytesLess a.toList b.toList||a.toList==b.toList))
  | .gtr=>some (.bool (!(Op.bytesLess a.toList b.toList||a.toList==b.toList)))
  | .geq=>some (.bool (!Op.bytesLess a.toList b.toList))
  | _=>none
 | _,_,_=>none
def qkV:Bool->V->Option Bool
 | true,.ptr _ _=>some false
 | true,.dat (.imm _ _)=>some false
 | true,.dat (.lit (.pointer none))=>some true
 | false,.iface _ _=>some false
 | false,.dat (.lit .nilIface)=>some true
 | _,_=>none
def qlD:V->Option Bool
 | .dat (.lit (.slice a _ _))=>some a.isNone
 | .dat (.sl _ _ _) | .gsl _ _ _ _ | .msl _ _ _ _ _ | .own _ _ _=>some false
 | _=>none
def qhb:KD->Value->Value->Option Bool
 | .i,.int k a,.int k' b=>if k=k' then some (eqI a b) else none
 | .s,.string a,.string b=>some (eqS a b)
 | .b,.bool a,.bool b=>some (a==b)
 | _,_,_=>none
def qde:List KD->List D->List D->Option Bool
 | [],[],[]=>some true
 | k::ks,.lit a::as,.lit b::bs=>match qhb k a b,qde ks as bs with
  | some x,some y=>some (x&&y)
  | _,_=>none
 | _,_,_=>none
def qcO (s:ByteArray):List D:=s.data.toList.map fun b => .lit (.int .u8 b.toNat)
def unV:UnOp->Value->Option Value
 | .neg,.int k n=>some (.int k (k.wrap (0-n)))
 | .not,.bool b=>some (.bool !b)
 | .xor,.int k n=>some (.int k (qgN k (· ^^^ ·) (if k.signed then -1 else k.max) n))
 | _,_=>none
def qiC:CK->Value->Option Value
 | .int k,.int _ n=>some (.int k (k.wrap n))
 | .intStr,.int _ n=>some (.string (Utf8.encode n))
 | .strStr,.string s=>some (.string s)
 | _,_=>none
def V.len (σ : S):LK->V->Option Int
 | .sl,.dat (.lit (.slice _ n _))=>some n
 | .str,.dat (.lit (.string s))=>some s.size
 | .sl,.dat (.sl _ n _)=>some n
 | .sl,.gsl _ n _ _=>some n
 | .sl,.msl _ _ n _ _=>some n
 | .sl,.own _ n _=>some n
 | .mp,.mp l=>match σ[l]? with
  | some (.map es)=>some es.length
  | _=>none
 | _,_=>none
def qci:List V->List (Nat × Nat × V)->Option (List V)
 | cs,[]=>some cs
 | cs,(off,size,v)::r=>
  let new:=v.cells
  if new.length=size/\off+size<=cs.length/\new.all V.one then qci (cs.take off++(new++cs.drop (off+size))) r else none
def qbI (fr:Fr):List (Nat × Nat × X)->Option (List (Nat × Nat × V))
 | []=>some []
 | (o,s,x)::r=>match x.ev fr,qbI fr r with
  | some v,some vs=>some ((o,s,v)::vs)
  | _,_=>none
def qae {α : Type} (cs:List α) (o n:Nat):Option (List α):=
 let r:=(cs.drop o).take n
 if r.length=n then some r else none
def qbh (agg:Bool) (vs:List V):Option V:=
 if agg then some (qdd vs) else match vs with
  | [v]=>some v
  | _=>none
def qkl (agg:Bool) (ds:List D):Option V:=
 if agg then some (.dat (.agg ds)) else match ds with
  | [d]=>some (.dat d)
  | _=>none
def qbp (σ : S) (agg:Bool) (n:Nat):V->Option V
 | .ptr l o=>match σ[l]? with
  | some (.cells cs)=>match qae cs o n with
   | some vs=>qbh agg vs
   | none=>none
  | some (.cellsT _ cs)=>match qae cs o n with
   | some vs=>qbh agg vs
   | none=>none
  | _=>none
 | .dat (.imm cs o)=>match qae cs o n with
  | some ds=>qkl agg ds
  | none=>none
 | .eptr l m o=>match σ[l]? with
  | some (.vec cs)=>if cs.length=m then (match qae cs o n with
   | some vs=>qbh agg vs
   | none=>none) else none
  | some (.froz ds)=>if ds.length=m then (match qae ds o n with
   | some vs=>qkl agg vs
   | none=>none) else none
  | _=>none
 | _=>none
def storeV (σ : S) (n:Nat):V->V->Option S
 | .ptr l o,v=>match σ[l]? with
  | some (.cells cs)=>
   let new:=v.cells
   if new.length=n/\o+n<=cs.length/\new.all V.one then some (σ.set l (.cells (cs.take o++(new++cs.drop (o+n))))) else none
  | some (.cellsT t cs)=>
   let new:=v.cells
   if new.length=n/\o+n<=cs.length/\new.all V.one then some (σ.set l (.cellsT t (cs.take o++(new++cs.drop (o+n))))) else none
  | _=>none
 | .eptr l m o,v=>match σ[l]? with
  | some (.vec cs)=>
   let new:=v.cells
   if cs.length=m/\new.length=n/\o+n<=cs.length/\new.all V.one then some (σ.set l (.vec (cs.take o++(new++cs.drop (o+n))))) else none
  | _=>none
 | _,_=>none
def qbR (k:Nat):V->Option V
 | .ptr l o=>some (.ptr l (o+k))
 | .dat (.imm cs o)=>some (.dat (.imm cs (o+k)))
 | .eptr l n o=>some (.eptr l n (o+k))
 | _=>none
def qah (sz:Nat):V->Int->Option V
 | .dat (.sl cs n _),i=>if 0<=i/\i<n then some (.dat (.imm cs (i.toNat*sz))) else none
 | .gsl cs n _ _,i=>if 0<=i/\i<n then some (.dat (.imm cs (i.toNat*sz))) else none
 | .msl l o n _ _,i=>if 0<=i/\i<n then some (.ptr l (o+i.toNat*sz)) else none
 | .own l n sz',i=>if 0<=i/\i<n/\sz'=sz then some (.eptr l (n*sz) (i.toNat*sz)) else none
 | _,_=>none
def bound (x:Option V) (d most:Nat):Option Nat:=
 match x with
 | none=>some d
 | some (.dat (.lit (.int _ i)))=>if 0<=i/\i<=most then some i.toNat else none
 | _=>none
def qdf (sz:Nat) (lo hi:Option V):V->Option V
 | .dat (.lit (.slice a 0 0))=>
  match bound hi 0 0 with
  | some h=>match bound lo 0 h with
   | some _=>some (.dat (.lit (.slice a 0 0)))
   | none=>none
  | none=>none
 | .dat (.sl cs n _)=>
  match bound hi n n with
  | some h=>match bound lo 0 h with
   | some l=>if cs.length=n*sz then some (.dat (.sl ((cs.drop (l*sz)).take ((h-l)*sz)) (h-l) false)) else none
   | none=>none
  | none=>none
 | .gsl cs n _ _=>
  match bound hi n n with
  | some h=>match bound lo 0 h with
   | some l=>if cs.length=n*sz then some (.dat (.sl ((cs.drop (l*sz)).take ((h-l)*sz)) (h-l) false)) else none
   | none=>none
  | none=>none
 | .msl l o n cap sz'=>
  match bound hi n n with
  | some h=>match bound lo 0 h with
   | some k=>if sz'=sz then some (.msl l (if cap=k then o else o+k*sz) (h-k) (cap-k) sz) else none
   | none=>none
  | none=>none
 | _=>none
def qkW (σ : S) (sz:Nat) (lo hi:Option V):V->Option (V × S)
 | .own l n sz'=>match σ[l]? with
  | some (.vec cs)=>match bound hi n n with
   | some h=>match bound lo 0 h with
    | some 0=>if sz'=sz/\cs.length=n*sz then some (.own σ.length h sz,σ.set l .dead++[.vec (cs.take (h*sz))]) else none
    | _=>none
   | none=>none
  | _=>none
 | v=>match qdf sz lo hi v with
  | some u=>some (u,σ)
  | none=>none
def qgi (lo hi:Option V):V->Option V
 | .dat (.lit (.string s))=>
  match bound hi s.size s.size with
  | some h=>match bound lo 0 h with
   | some l=>some (.dat (.lit (.string (s.extract l h))))
   | none=>none
  | none=>none
 | _=>none
def qiD:V->Option (List D × Nat)
 | .dat (.lit (.slice _ 0 0))=>some ([],0)
 | .dat (.sl cs n _)=>some (cs,n)
 | .gsl cs n _ _=>some (cs,n)
 | .dat (.lit (.string s))=>some (qcO s,s.size)
 | _=>none
def qjF (σ : S):V->Option (List V × Nat)
 | .dat (.lit (.slice _ 0 0))=>some ([],0)
 | .dat (.sl cs n _)=>some (cs.map .dat,n)
 | .gsl cs n _ _=>some (cs.map .dat,n)
 | .dat (.lit (.string s))=>some ((qcO s).map .dat,s.size)
 | .own l n sz=>match σ[l]? with
  | some (.vec cs)=>if cs.length=n*sz then some (cs,n) else none
  | some (.froz ds)=>if ds.length=n*sz then some (ds.map .dat,n) else none
  | _=>none
 | .msl l o n _ sz=>match σ[l]? with
  | some (.cells cs)=>if o+n*sz<=cs.length then some ((cs.drop o).take (n*sz),n) else none
  | _=>none
 | _=>none
def qas (n bytes:Nat):Bool:=(2*n+192)*(bytes+1)<=2 ^ 48
def qbS (σ : S) (sz bytes:Nat) (s x:V):Option (V × S):=
 match qiD x with
 | none=>none
 | some (xs,m)=>
  if xs.length=m*sz/\0<sz then
   if m=0 then (match s with
    | .dat (.lit (.slice none 0 0)) | .dat (.sl _ _ _) | .gsl _ _ _ _=>some (s,σ)
    | _=>none)
   else match s with
    | .dat (.lit (.slice none 0 0))=>if qas m bytes then some (.gsl xs m sz σ.length,σ ++ [.tip xs.length]) else none
    | .dat (.sl cs n true)=>
     if qas (n+m) bytes/\cs.length=n*sz then some (.gsl (cs++xs) (n+m) sz σ.length,σ ++ [.tip (cs++xs).length]) else none
    | .gsl cs n sz' l=>
     match σ[l]? with
     | some (.tip k)=>
      if qas (n+m) bytes/\cs.length=n*sz/\sz'=sz/\k=cs.length then
       some (.gsl (cs++xs) (n+m) sz l,σ.set l (.tip (cs++xs).length)) else none
     | _=>none
    | _=>none
  else none
def appendO (σ : S) (sz bytes:Nat) (s x:V):Option (V × S):=
 match qjF σ x with
 | none=>none
 | some (xs,m)=>
  if xs.length=m*sz/\0<sz/\xs.all V.one=true then
   if m=0 then (match s with
    | .dat (.lit (.slice none 0 0)) | .dat (.sl _ _ _) | .own _ _ _=>some (s,σ)
    | _=>none)
   else match s with
    | .dat (.lit (.slice none 0 0))=>if qas m bytes then some (.own σ.length m sz,σ ++ [.vec xs]) else none
    | .dat (.sl cs n true)=>
     if qas (n+m) bytes/\cs.length=n*sz then some (.own σ.length (n+m) sz,σ ++ [.vec (cs.map .dat++xs)]) else none
    | .own l n sz'=>
     match σ[l]? with
     | some (.vec cs)=>
      if qas (n+m) bytes/\cs.length=n*sz/\sz'=sz then
       some (.own l (n+m) sz,σ.set l (.vec (cs++xs))) else none
     | _=>none
    | _=>none
  else none
def appendT (σ : S) (t sz bytes:Nat) (s x:V):Option (V × S):=
 match qjF σ x with
 | none=>none
 | some (xs,m)=>
  if xs.length=m*sz/\0<sz/\xs.all V.one=true then
   if m=0 then (match s with
    | .dat (.lit (.slice none 0 0)) | .dat (.sl _ _ _) | .own _ _ _=>some (s,σ)
    | _=>none)
   else match s with
    | .dat (.lit (.slice none 0 0))=>if qas m bytes then some (.own σ.length m sz,σ ++ [.vecT t xs]) else none
    | .own l n sz'=>
     match σ[l]? with
     | some (.vecT t' cs)=>
      if qas (n+m) bytes/\cs.length=n*sz/\sz'=sz/\t'=t then
       some (.own l (n+m) sz,σ.set l (.vecT t (cs++xs))) else none
     | _=>none
    | _=>none
  else none
def qcp:List V->Option (List UInt8)
 | []=>some []
 | .dat (.lit (.int .u8 n))::r=>if 0<=n/\n<256 then (match qcp r with
  | some bs=>some (UInt8.ofNat n.toNat::bs)
  | none=>none) else none
 | _=>none
def V.isStr:V->Bool
 | .dat (.lit (.string _))=>true
 | _=>false
def qiE (σ : S) (v:V):Option V:=match qjF σ v with
 | some (xs,m)=>if xs.length=m/\v.isStr=false then (match qcp xs with
  | some bs=>some (.str ⟨bs.toArray⟩)
  | none=>none) else none
 | none=>none
def qff (len sz:Nat) (lo hi:Option V):V->Option V
 | .ptr l o=>match bound hi len len with
  | some h=>match bound lo 0 h with
   | some k=>some (.msl l (if len=k then o else o+k*sz) (h-k) (len-k) sz)
   | none=>none
  | none=>none
 | _=>none
def qkX:KD->Value->Bool
 | .s,.string _ | .i,.int _ _ | .b,.bool _=>true
 | _,_=>false
def qb9:KD->Value->Value->Option Bool
 | .i,.int k a,.int k' b=>if k=k' then some (a==b) else none
 | .s,.string a,.string b=>some (a==b)
 | .b,.bool a,.bool b=>some (a==b)
 | _,_,_=>none
def qhc (kd:KD) (k:Value):List (Value × V)->Option (Option V)
 | []=>some none
 | (k',v)::r=>match qb9 kd k k' with
  | some true=>some (some v)
  | some false=>qhc kd k r
  | none=>none
def qkm (kd:KD) (k:Value) (v:V):List (Value × V)->Option (List (Value × V))
 | []=>some [(k,v)]
 | (k',v')::r=>match qb9 kd k k' with
  | some true=>some ((k,v)::r)
  | some false=>match qkm kd k v r with
   | some r'=>some ((k',v')::r')
   | none=>none
  | none=>none
def qkn:Value->List Value->Option Value
 | x,[]=>some x
 | .int k x,.int _ y::r=>qkn (.int k (if y<x then y else x)) r
 | _,_=>none
def qko:Value->List Value->Option Value
 | x,[]=>some x
 | .int k x,.int _ y::r=>qko (.int k (if x<y then y else x)) r
 | _,_=>none
def qiw:List V->Option (List Value)
 | []=>some []
 | .dat (.lit v)::r=>match qiw r with
  | some vs=>some (v::vs)
  | none=>none
 | _=>none
def qcW (fr:Fr):Option X->Option (Option V)
 | none=>some none
 | some x=>match x.ev fr with
  | some v=>some (some v)
  | none=>none
def qaj (C:Task->Option Res) (fr:Fr) (σ : S):O->Option (V × S)
 | .mov x=>match x.ev fr with
  | some v=>some (v,σ)
  | none=>none
 | .pick c a b=>match c.ev fr with
  | some (.dat (.lit (.bool true)))=>(match a.ev fr with | some v=>some (v,σ) | none=>none)
  | some (.dat (.lit (.bool false)))=>(match b.ev fr with | some v=>some (v,σ) | none=>none)
  | _=>none
 | .alloc zero=>some (.ptr σ.length 0,σ ++ [.cells (zero.map .dat)])
 | .box x=>match x.ev fr with
  | some v=>if v.cells.all V.one then some (.ptr σ.length 0,σ ++ [.cells v.cells]) else none
  | none=>none
 | .build zero parts=>match qbI fr parts with
  | some ps=>match qci (zero.map .dat) ps with
   | some cs=>some (qdd cs,σ)
   | none=>none
  | none=>none
 | .bslice n zero parts=>match qbI fr parts with
  | some ps=>match qci (zero.map .dat) ps with
   | some cs=>match qaN cs with
    | some ds=>some (.dat (.sl ds n true),σ)
    | none=>none
   | none=>none
  | none=>none
 | .bsliceO n sz zero parts=>match qbI fr parts with
  | some ps=>match qci (zero.map .dat) ps with
   | some cs=>match qaN cs with
    | some _=>some (.own σ.length n sz,σ ++ [.vec cs])
    | none=>none
   | none=>none
  | none=>none
 | .load agg n a=>match a.ev fr with
  | some p=>match qbp σ agg n p with
   | some v=>some (v,σ)
   | none=>none
  | none=>none
 | .store n a x=>match a.ev fr,x.ev fr with
  | some p,some v=>match storeV σ n p v with
   | some σ'=>some (.dat (.lit undef),σ')
   | none=>none
  | _,_=>none
 | .nilchk x=>match x.ev fr with
  | some (.ptr l o)=>some (.ptr l o,σ)
  | some (.dat (.imm cs o))=>some (.dat (.imm cs o),σ)
  | some (.eptr l n o)=>some (.eptr l n o,σ)
  | some (.bm g (.ptr l o))=>some (.bm g (.ptr l o),σ)
  | _=>none
 | .bin op x y=>match x.ev fr,y.ev fr with
  | some (.dat (.lit a)),some (.dat (.lit b))=>match qfP op a b with
   | some v=>some (.dat (.lit v),σ)
   | none=>none
  | _,_=>none
 | .isnil p neg x=>match x.ev fr with
  | some v=>match qkV p v with
   | some b=>some (.bool (if neg then !b else b),σ)
   | none=>none
  | none=>none
 | .isnils neg x=>match x.ev fr with
  | some v=>match qlD v with
   | some b=>some (.bool (if neg then !b else b),σ)
   | none=>none
  | none=>none
 | .mkif t x=>match x.ev fr with
  | some v=>some (.iface t v,σ)
  | none=>none
 | .mkmeth tbl x=>match x.ev fr with
  | some (.iface t v)=>match tbl.lookup t with
   | some g=>some (.bm g v,σ)
   | none=>none
  | _=>none
 | .bytes x=>match x.ev fr with
  | some (.dat (.lit (.string s)))=>if (s.size:Int)<=2 ^ 40 then some (.dat (.sl (qcO s) s.size false),σ) else none
  | _=>none
 | .mkslice own z b x y=>match x.ev fr,y.ev fr with
  | some (.dat (.lit (.int _ l))),some (.dat (.lit (.int _ c)))=>
   if 0<=l/\l<=c/\c<=2 ^ 40/\b*c<=2 ^ 48 then
    (if own then some (.own σ.length l.toNat z.length,σ ++ [.vec ((qbC l.toNat z).map .dat)])
    else some (.msl σ.length 0 l.toNat c.toNat z.length,σ ++ [.cells ((qbC c.toNat z).map .dat)])) else none
  | _,_=>none
 | .eqb neg x y=>match x.ev fr,y.ev fr with
  | some (.dat (.lit (.bool a))),some (.dat (.lit (.bool b)))=>some (.bool (if neg then !(a==b) else a==b),σ)
  | _,_=>none
 | .eqa neg kds x y=>match x.ev fr,y.ev fr with
  | some (.dat (.agg as)),some (.dat (.agg bs))=>match qde kds as bs with
   | some b=>some (.bool (if neg then !b else b),σ)
   | none=>none
  | _,_=>none
 | .un op x=>match x.ev fr with
  | some (.dat (.lit a))=>match unV op a with
   | some v=>some (.dat (.lit v),σ)
   | none=>none
  | _=>none
 | .conv k x=>match x.ev fr with
  | some (.dat (.lit a))=>match qiC k a with
   | some v=>some (.dat (.lit v),σ)
   | none=>none
  | _=>none
 | .fieldAddr off x=>match x.ev fr with
  | some p=>match qbR off p with
   | some v=>some (v,σ)
   | none=>none
  | none=>none
 | .field agg off n x=>match x.ev fr with
  | some v=>match v.aggCells with
   | some cs=>match qae cs off n with
    | some vs=>match qbh agg vs with
     | some u=>some (u,σ)
     | none=>none
    | none=>none
   | none=>none
  | none=>none
 | .indexAddr sz x i=>match x.ev fr,i.ev fr with
  | some s,some (.dat (.lit (.int _ n)))=>match qah sz s n with
   | some v=>some (v,σ)
   | none=>none
  | _,_=>none
 | .indexAddrA len sz x i=>match x.ev fr,i.ev fr with
  | some s,some (.dat (.lit (.int _ n)))=>if 0<=n/\n<len then (match qbR (n.toNat*sz) s with
   | some v=>some (v,σ)
   | none=>none) else none
  | _,_=>none
 | .indexA agg len sz x i=>match x.ev fr,i.ev fr with
  | some v,some (.dat (.lit (.int _ n)))=>if 0<=n/\n<len then (match v.aggCells with
   | some cs=>match qae cs (n.toNat*sz) sz with
    | some vs=>match qbh agg vs with
     | some u=>some (u,σ)
     | none=>none
    | none=>none
   | none=>none) else none
  | _,_=>none
 | .indexS x i=>match x.ev fr,i.ev fr with
  | some (.dat (.lit (.string s))),some (.dat (.lit (.int _ n)))=>if 0<=n then (match s[n.toNat]? with
   | some b=>some (.dat (.lit (.int .u8 b.toNat)),σ)
   | none=>none) else none
  | _,_=>none
 | .slice sz x lo hi=>match x.ev fr,qcW fr lo,qcW fr hi with
  | some v,some l,some h=>match qdf sz l h v with
   | some u=>some (u,σ)
   | none=>none
  | _,_,_=>none
 | .sliceS x lo hi=>match x.ev fr,qcW fr lo,qcW fr hi with
  | some v,some l,some h=>match qgi l h v with
   | some u=>some (u,σ)
   | none=>none
  | _,_,_=>none
 | .len k x=>match x.ev fr with
  | some v=>match v.len σ k with
   | some n=>some (.dat (.lit (.int .i64 n)),σ)
   | none=>none
  | none=>none
 | .min xs=>match evs fr xs with
  | some vs=>match qiw vs with
   | some (y::ys)=>match qkn y ys with
    | some v=>some (.dat (.lit v),σ)
    | none=>none
   | _=>none
  | none=>none
 | .max xs=>match evs fr xs with
  | some vs=>match qiw vs with
   | some (y::ys)=>match qko y ys with
    | some v=>some (.dat (.lit v),σ)
    | none=>none
   | _=>none
  | none=>none
 | .append sz bytes s x=>match s.ev fr,x.ev fr with
  | some a,some b=>qbS σ sz bytes a b
  | _,_=>none
 | .appendO sz bytes s x=>match s.ev fr,x.ev fr with
  | some a,some b=>appendO σ sz bytes a b
  | _,_=>none
 | .cut sz x lo hi=>match x.ev fr,qcW fr lo,qcW fr hi with
  | some v,some l,some h=>qkW σ sz l h v
  | _,_,_=>none
 | .mkmap=>some (.mp σ.length,σ ++ [.map []])
 | .mapset kd m k v=>match m.ev fr,k.ev fr,v.ev fr with
  | some (.mp l),some (.dat (.lit key)),some x=>match σ[l]? with
   | some (.map es)=>if qkX kd key then (match qkm kd key x es with
    | some es'=>some (.dat (.lit undef),σ.set l (.map es'))
    | none=>none) else none
   | _=>none
  | _,_,_=>none
 | .lookup kd zero m k ok=>match m.ev fr,k.ev fr with
  | some (.mp l),some (.dat (.lit key))=>match σ[l]? with
   | some (.map es)=>if qkX kd key then (match qhc kd key es with
    | some (some v)=>some (if ok then .tup [v,.bool true] else v,σ)
    | some none=>some (if ok then .tup [.dat zero,.bool false] else .dat zero,σ)
    | none=>none) else none
   | _=>none
  | _,_=>none
 | .mkfn f a b=>match evs fr a,evs fr b with
  | some as,some bs=>some (.fn f as bs,σ)
  | _,_=>none
 | .extract x i=>match x.ev fr with
  | some (.tup vs)=>match vs[i]? with
   | some v=>some (v,σ)
   | none=>none
  | _=>none
 | .call f xs=>match evs fr xs with
  | some vs=>qaM C (.call f) (qcl f vs σ).1 (qcl f vs σ).2
  | none=>none
 | .invoke tbl x xs=>match x.ev fr,evs fr xs with
  | some (.iface t v),some vs=>match tbl.lookup t with
   | some g=>qaM C (.call g) (qcl g (v::vs) σ).1 (qcl g (v::vs) σ).2
   | none=>none
  | _,_=>none
 | .callv f xs=>match f.ev fr,evs fr xs with
  | some (.fn id a b),some vs=>qaM C (.call id) (a++(qcl id vs σ).1++b) (qcl id vs σ).2
  | some (.bm g v),some vs=>qaM C (.call g) (qcl g (v::vs) σ).1 (qcl g (v::vs) σ).2
  | some (.yld l),some vs=>qaM C .round (.yld l::vs) σ
  | _,_=>none
 | .defer f xs=>match f.ev fr,evs fr xs with
  | some (.fn id a b),some vs=>some (.tup (.fn id (a++vs++b) []::fr.defs),σ)
  | _,_=>none
 | .panic _=>none
 | .recov=>match fr.get qfO with
  | some v=>some (v,σ)
  | none=>none
 | .boxT t x=>match x.ev fr with
  | some v=>if v.cells.all V.one then some (.ptr σ.length 0,σ ++ [.cellsT t v.cells]) else none
  | none=>none
 | .appendT t sz bytes s x=>match s.ev fr,x.ev fr with
  | some a,some b=>appendT σ t sz bytes a b
  | _,_=>none
 | .up x=>match x.ev fr with
  | some (.ptr l o)=>match σ[l]? with
   | some (.cellsT _ cs)=>if o<cs.length then some (.ptr l o,σ) else none
   | _=>none
  | _=>none
 | .down ts x=>match x.ev fr with
  | some (.ptr l 0)=>match σ[l]? with
   | some (.cellsT t cs)=>if ts.contains (t,cs.length)=true then some (.ptr l 0,σ) else none
   | _=>none
  | _=>none
 | .peq neg x y=>match x.ev fr,y.ev fr with
  | some (.ptr l o),some (.ptr l' o')=>if l=l'/\o=o' then some (.bool (!neg),σ) else none
  | _,_=>none
 | .usd x=>match x.ev fr with
  | some (.dat (.lit (.slice none 0 0)))=>some (.dat (.lit (.pointer none)),σ)
  | some (.own l n sz)=>if 0<n/\sz=1 then some (.eptr l n 0,σ) else none
  | _=>none
 | .ustr ts x n=>match x.ev fr,n.ev fr with
  | some (.dat (.lit (.pointer none))),some (.dat (.lit (.int .i64 k)))=>if k=0 then some (.str ⟨#[]⟩,σ) else none
  | some (.eptr l m o),some (.dat (.lit (.int .i64 k)))=>match σ[l]? with
   | some (.vecT t cs)=>if ts.contains t=true/\cs.length=m/\k=m/\0<m/\o=0/\m<=2 ^ 40 then (match qcp cs with
    | some bs=>some (.str ⟨bs.toArray⟩,σ.set l .dead)
    | none=>none) else none
   | _=>none
  | _,_=>none
 | .bstr x=>match x.ev fr with
  | some v=>match qiE σ v with
   | some u=>some (u,σ)
   | none=>none
  | none=>none
 | .sliceA len sz x lo hi=>match x.ev fr,qcW fr lo,qcW fr hi with
  | some v,some l,some h=>match qff len sz l h v with
   | some u=>some (u,σ)
   | none=>none
  | _,_,_=>none
 | .idxb s c=>match s.ev fr,c.ev fr with
  | some (.dat (.lit (.string s))),some (.dat (.lit (.int .u8 n)))=>some (.int (firstIdx s n.toNat.toUInt8),σ)
  | _,_=>none
 | .fill k=>match fr.get k with
  | some (.ptr l 0)=>match σ[l]? with
   | some (.cells _)=>some (.ptr l 0,σ)
   | _=>none
  | _=>none
def qaP (C:Task->Option Res) (fr:Fr) (σ : S):O->Option (V × S)
 | .call f xs=>match evs fr xs with
  | some vs=>qba C (.call f) (qcl f vs σ).1 (qcl f vs σ).2
  | none=>none
 | .invoke tbl x xs=>match x.ev fr,evs fr xs with
  | some (.iface t v),some vs=>match tbl.lookup t with
   | some g=>qba C (.call g) (qcl g (v::vs) σ).1 (qcl g (v::vs) σ).2
   | none=>none
  | _,_=>none
 | .callv f xs=>match f.ev fr,evs fr xs with
  | some (.fn id a b),some vs=>qba C (.call id) (a++(qcl id vs σ).1++b) (qcl id vs σ).2
  | some (.bm g v),some vs=>qba C (.call g) (qcl g (v::vs) σ).1 (qcl g (v::vs) σ).2
  | _,_=>none
 | .panic x=>match x.ev fr with
  | some (.iface t v)=>some (.iface t v,σ)
  | _=>none
 | _=>none
def O.calls:O->Bool
 | .call .. | .invoke .. | .callv .. | .panic .. => true
 | _=>false
theorem qgj {C:Task->Option Res} {fr:Fr} {σ : S} {op:O} (h:op.calls=false):qaP C fr σ op=none:=by
 cases op<;>first | rfl | cases h
def X.tmps:X->List Nat
 | .t n=>[n]
 | _=>[]
def qey:List X->List Nat
 | []=>[]
 | x::r=>x.tmps++qey r
def qhM:List (Nat × Nat × X)->List Nat
 | []=>[]
 | (_,_,x)::r=>x.tmps++qhM r
def qhN:Option X->List Nat
 | none=>[]
 | some x=>x.tmps
def O.tmps:O->List Nat
 | .mov x | .box x | .boxT _ x | .load _ _ x | .nilchk x | .un _ x | .conv _ x | .fieldAddr _ x | .field _ _ _ x | .len _ x | .extract x _ | .isnil _ _ x | .isnils _ x | .mkif _ x | .mkmeth _ x | .bytes x | .up x | .down _ x | .usd x | .bstr x=>x.tmps
 | .pick c a b=>c.tmps++(a.tmps++b.tmps)
 | .alloc _ | .mkmap=>[]
 | .build _ ps | .bslice _ _ ps | .bsliceO _ _ _ ps=>qhM ps
 | .store _ a x | .bin _ a x | .eqb _ a x | .eqa _ _ a x | .mkslice _ _ _ a x | .indexAddr _ a x | .indexAddrA _ _ a x | .indexA _ _ _ a x | .indexS a x | .append _ _ a x | .appendO _ _ a x | .appendT _ _ _ a x | .peq _ a x | .ustr _ a x | .idxb a x | .lookup _ _ a x _=>a.tmps++x.tmps
 | .slice _ x l h | .sliceS x l h | .cut _ x l h | .sliceA _ _ x l h=>x.tmps++(qhN l++qhN h)
 | .min xs | .max xs | .call _ xs=>qey xs
 | .mapset _ a b c=>a.tmps++(b.tmps++c.tmps)
 | .mkfn _ a b=>qey a++qey b
 | .callv f xs=>f.tmps++qey xs
 | .invoke _ f xs=>f.tmps++qey xs
 | .defer f xs=>dkey::(f.tmps++qey xs)
 | .panic x=>x.tmps
 | .recov=>[qfO]
 | .fill k=>[k]
def I.looks (i:I):List Nat:=i.op.tmps++(match i.guard with | some (t,_)=>[t] | none=>[])
def qaq (fr:Fr):Option (Nat × Bool)->Option Bool
 | none=>some true
 | some (t,want)=>match fr.get t with
  | some (.dat (.lit (.bool b)))=>some (b==want)
  | some (.dat (.lit _))=>some false
  | _=>none
def qcj (C:Task->Option Res):List I->Fr->S->Option (Fr × S)
 | [],fr,σ => some (fr,σ)
 | i::r,fr,σ => match qaq fr i.guard with
  | some true=>match qaj C fr σ i.op with
   | some (v,σ')=>qcj C r (fr.put i.dst v) σ'
   | none=>none
  | some false=>qcj C r (fr.put i.dst (.dat (.lit undef))) σ
  | none=>none
def qbg (C:Task->Option Res):List I->Fr->S->Option (V × Fr × S)
 | [],_,_=>none
 | i::r,fr,σ => match qaq fr i.guard with
  | some true=>match qaj C fr σ i.op with
   | some (v,σ')=>qbg C r (fr.put i.dst v) σ'
   | none=>match qaP C fr σ i.op with
    | some (v,σ')=>some (v,fr,σ')
    | none=>none
  | some false=>qbg C r (fr.put i.dst (.dat (.lit undef))) σ
  | none=>none
inductive Ev where
 | pure
 | read (l:Nat)
 | chain (n:Nat) (T:List Nat)
 deriving Inhabited
def qcq:Option V->List Nat
 | some v=>v.locs
 | none=>[]
def qbJ:Option V->Ev
 | some (.ptr l _) => .read l
 | some (.eptr l _ _) => .read l
 | some (.mp l) => .read l
 | _ => .pure
def qec:Option (List V)->List Nat
 | some vs=>qai vs
 | none=>[]
def qhd (f:Nat) (vs:Option (List V)) (σ : S):List V × S:=match vs with
 | some vs=>qcl f vs σ
 | none=>([],σ)
def qbD (fr:Fr) (σ : S):O->Ev
 | .load _ _ a=>qbJ (a.ev fr)
 | .lookup _ _ m _ _=>qbJ (m.ev fr)
 | .len _ x=>qbJ (x.ev fr)
 | .fill k=>qbJ (fr.get k)
 | .alloc _ | .boxT _ _ | .box _ | .mkmap | .mkslice .. | .bsliceO .. | .up _ | .down _ _ | .bstr _ => .chain σ.length []
 | .store _ a _ => .chain σ.length (qcq (a.ev fr))
 | .mapset _ m _ _ => .chain σ.length (qcq (m.ev fr))
 | .append _ _ s _ | .appendO _ _ s _ | .appendT _ _ _ s _ | .ustr _ s _ | .cut _ s _ _ => .chain σ.length (qcq (s.ev fr))
 | .call f xs => .chain σ.length (qec (evs fr xs)++reach (qhd f (evs fr xs) σ).2 100000 (qai (qhd f (evs fr xs) σ).1) [])
 | .invoke tbl x xs=>match x.ev fr with
  | some (.iface t v)=>match tbl.lookup t with
   | some g => .chain σ.length (v.locs++qec (evs fr xs)++reach (qhd g ((evs fr xs).map (v :: ·)) σ).2 100000 (qai (qhd g ((evs fr xs).map (v :: ·)) σ).1) [])
   | none => .pure
  | _ => .pure
 | .callv f xs=>match f.ev fr with
  | some (.fn f a b) => .chain σ.length (qec (evs fr xs)++reach (qhd f (evs fr xs) σ).2 100000 (qai a++(qai (qhd f (evs fr xs) σ).1++qai b)) [])
  | some (.bm g v) => .chain σ.length (v.locs++qec (evs fr xs)++reach (qhd g ((evs fr xs).map (v :: ·)) σ).2 100000 (qai (qhd g ((evs fr xs).map (v :: ·)) σ).1) [])
  | some (.yld l) => .chain σ.length (reach σ 100000 (l::qec (evs fr xs)) [])
  | _ => .pure
 | _ => .pure
def O.chain:O->Bool
 | .alloc _ | .boxT _ _ | .box _ | .store .. | .append .. | .appendO .. | .appendT .. | .up _ | .down _ _ | .ustr .. | .bstr _ | .cut .. | .mkmap | .mkslice .. | .bsliceO .. | .mapset .. | .call .. | .callv .. | .invoke .. => true
 | _=>false
def O.reads:O->Bool
 | .load .. | .lookup .. | .len .. | .fill .. => true
 | _=>false
def O.isFill:O->Bool
 | .fill _=>true
 | _=>false
def qbq (C:Task->Option Res):List I->Fr->S->Option (List Ev × Fr × S)
 | [],fr,σ => some ([],fr,σ)
 | i::r,fr,σ => match qaq fr i.guard with
  | some true=>match qaj C fr σ i.op with
   | some (v,σ')=>match qbq C r (fr.put i.dst v) σ' with
    | some (l,fr',σ'')=>some (qbD fr σ i.op::l,fr',σ'')
    | none=>none
   | none=>none
  | some false=>match qbq C r (fr.put i.dst (.dat (.lit undef))) σ with
   | some (l,fr',σ'')=>some (.pure::l,fr',σ'')
   | none=>none
  | none=>none
def qa4 (C:Task->Option Res):Nat->List I->Fr->S->Option (Nat × List Ev × V × S)
 | _,[],_,_=>none
 | k,i::r,fr,σ => match qaq fr i.guard with
  | some true=>match qaj C fr σ i.op with
   | some (v,σ')=>match qa4 C (k+1) r (fr.put i.dst v) σ' with
    | some (p,l,u,σ'')=>some (p,qbD fr σ i.op::l,u,σ'')
    | none=>none
   | none=>match qaP C fr σ i.op with
    | some (v,σ')=>some (k,[],v,σ')
    | none=>none
  | some false=>match qa4 C (k+1) r (fr.put i.dst (.dat (.lit undef))) σ with
   | some (p,l,u,σ'')=>some (p,.pure::l,u,σ'')
   | none=>none
  | none=>none
def qa2:List (Nat × List D)->S
 | []=>[]
 | (_,z)::r => .cells (z.map .dat)::qa2 r
def qaF:Nat->List (Nat × List D)->Fr->Fr
 | _,[],fr=>fr
 | l,(k,_)::r,fr=>qaF (l+1) r ((k,.ptr l 0)::fr)
def qfg (es:List Ev) (l j:Nat):List Nat->Bool
 | []=>true
 | i::r=>(match es[i]? with
  | some (.chain n T) => !T.contains l&&(decide (j<=i)||decide (l<n))
  | _=>true)&&qfg es l j r
def qiF (es:List Ev):List I->Nat->List Ev->Bool
 | i::is,j,e::r=>(match e with | .read l=>qfg es l j i.un | _=>true)&&qiF es is (j+1) r
 | _,_,_=>true
def qcX (C:Task->Option Res):List I->Fr->S->Option (List (Fr × S))
 | [],fr,σ => some [(fr,σ)]
 | i::r,fr,σ => match qaq fr i.guard with
  | some true=>match qaj C fr σ i.op with
   | some (v,σ')=>match qcX C r (fr.put i.dst v) σ' with
    | some l=>some ((fr,σ)::l)
    | none=>none
   | none=>none
  | some false=>match qcX C r (fr.put i.dst (.dat (.lit undef))) σ with
   | some l=>some ((fr,σ)::l)
   | none=>none
  | none=>none
def V.same:V->V->Bool
 | .own l n sz,.own l' n' sz'=>l==l'&&(n==n'&&sz==sz')
 | .dat (.lit (.int k a)),.dat (.lit (.int k' b))=>decide (k=k')&&eqI a b
 | .dat (.lit (.slice none 0 0)),.dat (.lit (.slice none 0 0))=>true
 | _,_=>false
def still (ss:List (Fr × S)) (agg:Bool) (n:Nat) (p:V):List Nat->Bool
 | []=>true
 | i::r=>(match ss[i]?,ss[i+1]? with
  | some a,some b=>match qbp a.2 agg n p,qbp b.2 agg n p with
   | some u,some v=>u.same v
   | _,_=>false
  | _,_=>true)&&still ss agg n p r
def qhO (ss:List (Fr × S)) (i:I) (j:Nat):Bool:=match i.op,ss[j]? with
 | .load agg n x,some s=>match x.ev s.1 with
  | some p=>still ss agg n p i.un
  | none=>false
 | _,_=>false
def qgk (es:List Ev) (ss:List (Fr × S)):List I->Nat->List Ev->Bool
 | i::is,j,e::r=>(match e with | .read l=>qfg es l j i.un||qhO ss i j | _=>true)&&qgk es ss is (j+1) r
 | _,_,_=>true
def Ex.isPan:Ex->Bool
 | .pan _=>true
 | _=>false
def run (C:Task->Option Res) (k:Nat):PC->Fr->S->Option (Ex × Fr × S)
 | .skip,fr,σ => some (.normal,fr,σ)
 | .region none ops keep _,fr,σ => match qcj C ops fr σ with
  | some (fr',σ')=>some (.normal,fr'.keep keep,σ')
  | none=>match qbg C ops fr σ with
   | some (v,fr',σ')=>some (.pan v,fr',σ')
   | none=>none
 | .region (some rs) ops keep lasts,fr,σ => match qbq C ops (qaF σ.length rs fr) (σ ++ qa2 rs) with
  | some (es,fr',σ')=>if qiF es ops 0 es then some (.normal,fr'.keep keep,σ') else (match qcX C ops (qaF σ.length rs fr) (σ ++ qa2 rs) with
   | some ss=>if qgk es ss ops 0 es then some (.normal,fr'.keep keep,σ') else none
   | none=>none)
  | none=>match qa4 C 0 ops (qaF σ.length rs fr) (σ ++ qa2 rs) with
   | some (p,es,v,σ')=>if lasts.contains p&&qiF es (ops.take p) 0 es then some (.pan v,fr.keep [dkey],σ') else none
   | none=>none
 | .seq a b,fr,σ => match run C k a fr σ with
  | some (.normal,fr',σ')=>run C k b fr' σ'
  | r=>r
 | .cond c a b,fr,σ => match c.ev fr with
  | some (.dat (.lit (.bool true)))=>run C k a fr σ
  | some (.dat (.lit (.bool false)))=>run C k b fr σ
  | _=>none
 | .block id b,fr,σ => match run C k b fr σ with
  | some (.exit id',fr',σ')=>if id'=id then some (.normal,fr',σ') else some (.exit id',fr',σ')
  | r=>r
 | .loop b,fr,σ => match C (.loop k b fr σ) with
  | some (.out e fr' σ')=>some (e,fr',σ')
  | _=>none
 | .exit id,fr,σ => some (.exit id,fr,σ)
 | .ret,fr,σ => some (.ret,fr,σ)
 | .range f ps assign body,fr,σ => match f.ev fr with
  | some (.fn id a b)=>match (if (qbe fr).all (fun l=>decide (l < σ.length)) then qaM C (.call id) (a++(.yld σ.length::b)) (σ ++ [.loop ⟨fr.noD,ps,assign,body,0,none⟩]) else none) with
   | some (_,σ')=>match σ'[σ.length]? with
    | some (.loop lp)=>if lp.st=1\/lp.pend.any Ex.isPan=true then none else some (lp.pend.getD .normal,fr,σ'.set σ.length (.loop { lp with st:=3 }))
    | _=>none
   | none=>none
  | _=>none
def qaG:Nat->List V->Fr
 | _,[]=>[]
 | i,v::r=>(i,v)::qaG (i+1) r
def qjh (fr:Fr) (σ : S):List PR->Option (List V)
 | []=>some []
 | .tmp t::r=>match fr.get t,qjh fr σ r with
  | some v,some vs=>some (v::vs)
  | _,_=>none
 | .cell t agg n::r=>match fr.get t with
  | some p=>match qbp σ agg n p,qjh fr σ r with
   | some v,some vs=>some (v::vs)
   | _,_=>none
  | none=>none
def one:List V->V
 | [v]=>v
 | vs => .tup vs
def gcL (k:Nat) (ls:List Nat) (σ : S):List Nat:=List.range k++(reach σ 100000 (List.range k++ls) []).filter (fun l=>decide (k<=l))
def gcF (k:Nat) (fr:Fr) (σ : S):Option (Fr × S):=
 let L:=gcL k (qbe fr) σ
 match qaH L [] σ with
 | some (_,σ')=>if inL L (qbe fr) then some (qgh (idx L) fr,σ') else none
 | none=>none
def qcP (fr:Fr):List Nat->List V->Fr
 | p::ps,v::vs=>qcP ((p,v)::fr) ps vs
 | _,_=>fr
def PC.flat:PC->Bool
 | .seq a b | .cond _ a b=>a.flat&&b.flat
 | .block _ b | .loop b=>b.flat
 | .range .. => false
 | .region _ ops _ _=>ops.all fun i=>match i.op with | .defer _ _=>false | _=>true
 | _=>true
def Lp.ended (lp:Lp):Ex->Lp
 | .normal=>{ lp with st:=0,pend:=none }
 | e=>{ lp with st:=2,pend:=some e }
def Ex.isNormal:Ex->Bool
 | .normal=>true
 | _=>false
def qca (C:Task->Option Res):List V->S->Option Res
 | .yld l::vs,σ => match σ[l]? with
  | some (.loop lp)=>
   if vs.length=lp.ps.length/\(lp.st=0/\(lp.assign.flat&&lp.body.flat)=true/\((qcP lp.fr lp.ps vs).get dkey).isNone=true) then
    match run C σ.length lp.assign (qcP lp.fr lp.ps vs) σ with
    | some (.normal,fr1,σ1)=>match σ1[l]? with
     | some (.loop lp1)=>if lp1.st=0/\(fr1.get dkey).isNone=true then (match run C σ.length lp.body fr1 (σ1.set l (.loop { lp1 with st:=1 })) with
      | some (.pan _,_,_)=>none
      | some (e,_,σ2)=>match σ2[l]? with
       | some (.loop lp2)=>match qaH (gcL σ.length [] (σ2.set l (.loop (lp2.ended e)))) [] (σ2.set l (.loop (lp2.ended e))) with
        | some (_,σ3)=>some (.ret (.bool e.isNormal) σ3)
        | none=>none
       | _=>none
      | none=>none) else none
     | _=>none
    | _=>none
   else none
  | _=>none
 | _,_=>none
def finishV (k:Nat) (vs:List V) (σ : S):Option Res:=
 match qaH (gcL k (qai vs) σ) vs σ with
 | some (vs',σ')=>some (.ret (one vs') σ')
 | none=>none
def qby (pf:PFun) (k:Nat) (fr:Fr) (σ : S):Option Res:=
 match qjh fr σ pf.results with
 | some vs0=>
  if pf.noseal then finishV k vs0 σ
  else if (qbX k σ vs0).2.all (fun l => !(gcL k (qai (qbX k σ vs0).1) σ).contains l) then finishV k (qbX k σ vs0).1 σ
  else finishV k (qeJ vs0) σ
 | none=>none
def V.isNilIf:V->Bool
 | .dat (.lit .nilIface)=>true
 | _=>false
def qaD (C:Task->Option Res):List V->S->Option S
 | [],σ => some σ
 | .fn id a []::r,σ => match qaM C (.dcall id) (.dat (.lit .nilIface)::a) σ with
  | some (_,σ')=>qaD C r σ'
  | none=>none
 | _,_=>none
def qdg (C:Task->Option Res) (pf:PFun) (k:Nat) (fr:Fr) (σ : S):Option Res:=
 match qaD C fr.defs σ with
 | some σ'=>qby pf k fr σ'
 | none=>none
def qcQ (C:Task->Option Res) (pf:PFun) (k:Nat) (v:V) (fr:Fr) (σ : S):Option Res:=
 match fr.defs with
 | []=>match qaH (gcL k v.locs σ) [v] σ with
  | some ([v'],σ')=>some (.ret (.pan v') σ')
  | _=>none
 | .fn id a []::r=>if v.isNilIf then none else (match qaM C (.dcall id) (v::a) σ with
  | some (_,σ')=>match qaD C r σ' with
   | some σ''=>qby pf k fr σ''
   | none=>none
  | none=>none)
 | _=>none
def qa3 (C:Task->Option Res) (pf:PFun) (args:List V) (σ : S):Option Res:=
 if args.length=pf.np then
  match run C σ.length pf.body (qaG 0 args) σ with
  | some (.normal,fr,σ')=>if pf.df then qdg C pf σ.length fr σ' else qby pf σ.length fr σ'
  | some (.ret,fr,σ')=>if pf.df then qdg C pf σ.length fr σ' else qby pf σ.length fr σ'
  | some (.pan v,fr,σ')=>qcQ C pf σ.length v fr σ'
  | _=>none
 else none
def qaO (C:Task->Option Res) (pf:PFun) (args:List V) (σ : S):Option Res:=
 match args with
 | pv::args=>
  if args.length=pf.np/\pf.df=false/\pf.results.isEmpty=true/\pf.body.flat=true/\(pf.catches=true\/pv.isNilIf=true) then
   match run C σ.length pf.body ((qfO,pv)::qaG 0 args) σ with
   | some (.normal,_,σ')=>match qaH (gcL σ.length [] σ') [] σ' with
    | some (_,σ'')=>some (.ret (.dat (.lit undef)) σ'')
    | none=>none
   | some (.ret,_,σ')=>match qaH (gcL σ.length [] σ') [] σ' with
    | some (_,σ'')=>some (.ret (.dat (.lit undef)) σ'')
    | none=>none
   | _=>none
  else none
 | []=>none
def qa5 (prog:Nat->Option PFun):Nat->Task->Option Res
 | 0,_=>none
 | n+1,.call f args σ => match prog f with
  | some pf=>if pf.catches then none else qa3 (qa5 prog n) pf args σ
  | none=>none
 | n+1,.dcall f args σ => match prog f with
  | some pf=>qaO (qa5 prog n) pf args σ
  | none=>none
 | n+1,.loop k b fr σ => match gcF k fr σ with
  | some (fr0,σ0)=>match run (qa5 prog n) k b fr0 σ0 with
   | some (.normal,fr',σ')=>qa5 prog n (.loop k b fr' σ')
   | some (e,fr',σ')=>some (.out e fr' σ')
   | none=>none
  | none=>none
 | n+1,.round args σ => qca (qa5 prog n) args σ
end Go.Pm
end SA
